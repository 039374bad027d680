/-
 The pure machine's table of this program's types, printed by gentab.py, and that it is so. No conditions.
-/
import Derived.Test.YtlknpohjnpnodaaGreatKb
import Derived.Test.YtlknpohjnpnodaaGreatProg
namespace Go.Proofs.YtlknpohjnpnodaaGreat
open Go.RowKit
set_option linter.unusedVariables false
set_option maxRecDepth 100000
theorem km : Agr Tryz.prog 2 (.sc (.int .i64 0)) := Lm .i64 (by kernel_rfl) (by kernel_rfl)
theorem kn : Agr Tryz.prog 3 (.sc (.int .i64 0)) := Lm .i64 (by kernel_rfl) (by kernel_rfl)
theorem ko : Agr Tryz.prog 4 (.sc (.bool false)) := Wa (by kernel_rfl) (by kernel_rfl)
theorem kq : Agr Tryz.prog 5 (.sc (.int .u8 0)) := Lm .u8 (by kernel_rfl) (by kernel_rfl)
theorem ks : Agr Tryz.prog 9 (.sc (.str [])) := Yn (by kernel_rfl) (by kernel_rfl)
theorem fQ : Agr Tryz.prog 12 (.sc (.int .u64 0)) := Lm .u64 (by kernel_rfl) (by kernel_rfl)
theorem fR : Agr Tryz.prog 21 (.sc (.int .i32 0)) := Lm .i32 (by kernel_rfl) (by kernel_rfl)
theorem fS : Agr Tryz.prog 22 (.sl 5 1 1 [.int .u8 0]) := Jw (zv := .int .u8 0) (by kernel_rfl) (by kernel_rfl) (by kernel_rfl) (AB (F7 .u8) (D5)) rfl (by decide) (by decide) (by decide)
theorem fT : Agr Tryz.prog 24 (.sl 77 1 24 [.own 114 0 []]) := Jw (zv := .agg #[.slice none 0 0]) (by kernel_rfl) (by kernel_rfl) (by kernel_rfl) (AB (CY 114) (D5)) rfl (by decide) (by decide) (by decide)
theorem fU : Agr Tryz.prog 26 (.st 2 [.int .i64 0, .own 77 0 []] [(0, 1), (1, 1)]) := Ia (us := [.int .i64 0, .slice none 0 0]) (by kernel_rfl) (AB (F7 .i64) ( AB (CY 77) (D5))) Tryz.underlying26 (by kernel_rfl) (by decide)
theorem fV : Agr Tryz.prog 27 (.sl 3 1 8 [.int .i64 0]) := Jw (zv := .int .i64 0) (by kernel_rfl) (by kernel_rfl) (by kernel_rfl) (AB (F7 .i64) (D5)) rfl (by decide) (by decide) (by decide)
theorem fW : Agr Tryz.prog 28 (.sl 109 2 40 [.str [], .own 3 0 []]) := Jw (zv := .agg #[.string ⟨#[]⟩, .slice none 0 0]) (by kernel_rfl) (by kernel_rfl) (by kernel_rfl) (AB (KL) ( AB (CY 3) (D5))) rfl (by decide) (by decide) (by decide)
theorem fX : Agr Tryz.prog 30 (.st 3 [.int .i64 0, .own 109 0 [], .own 3 0 []] [(0, 1), (1, 1), (2, 1)]) := Ia (us := [.int .i64 0, .slice none 0 0, .slice none 0 0]) (by kernel_rfl) (AB (F7 .i64) ( AB (CY 109) ( AB (CY 3) (D5)))) Tryz.underlying30 (by kernel_rfl) (by decide)
theorem fY : Agr Tryz.prog 32 (.st 6 [.int .i64 0, .own 3 0 [], .own 3 0 [], .int .i64 0, .own 109 0 [], .own 3 0 []] [(0, 1), (1, 1), (2, 1), (3, 3)]) := Ia (us := [.int .i64 0, .slice none 0 0, .slice none 0 0, .int .i64 0, .slice none 0 0, .slice none 0 0]) (by kernel_rfl) (AB (F7 .i64) ( AB (CY 3) ( AB (CY 3) ( AB (F7 .i64) ( AB (CY 109) ( AB (CY 3) (D5))))))) Tryz.underlying32 (by kernel_rfl) (by decide)
theorem fZ : Agr Tryz.prog 39 (.sl 27 1 24 [.own 3 0 []]) := Jw (zv := .slice none 0 0) (by kernel_rfl) (by kernel_rfl) (by kernel_rfl) (AB (CY 3) (D5)) rfl (by decide) (by decide) (by decide)
theorem f0 : Agr Tryz.prog 41 (.st 2 [.int .i64 0, .own 27 0 []] [(0, 1), (1, 1)]) := Ia (us := [.int .i64 0, .slice none 0 0]) (by kernel_rfl) (AB (F7 .i64) ( AB (CY 27) (D5))) Tryz.underlying41 (by kernel_rfl) (by decide)
theorem ga : Agr Tryz.prog 43 (.st 5 [.str [], .int .i64 0, .own 27 0 [], .int .i64 0, .own 27 0 []] [(0, 1), (1, 2), (3, 2)]) := Ia (us := [.string ⟨#[]⟩, .int .i64 0, .slice none 0 0, .int .i64 0, .slice none 0 0]) (by kernel_rfl) (AB (KL) ( AB (F7 .i64) ( AB (CY 27) ( AB (F7 .i64) ( AB (CY 27) (D5)))))) Tryz.underlying43 (by kernel_rfl) (by decide)
theorem gb : Agr Tryz.prog 50 (.sl 32 6 112 [.int .i64 0, .own 3 0 [], .own 3 0 [], .int .i64 0, .own 109 0 [], .own 3 0 []]) := Jw (zv := .agg #[.int .i64 0, .slice none 0 0, .slice none 0 0, .int .i64 0, .slice none 0 0, .slice none 0 0]) (by kernel_rfl) (by kernel_rfl) (by kernel_rfl) (AB (F7 .i64) ( AB (CY 3) ( AB (CY 3) ( AB (F7 .i64) ( AB (CY 109) ( AB (CY 3) (D5))))))) rfl (by decide) (by decide) (by decide)
theorem gc : Agr Tryz.prog 52 (.sl 132 1 24 [.own 194 0 []]) := Jw (zv := .agg #[.slice none 0 0]) (by kernel_rfl) (by kernel_rfl) (by kernel_rfl) (AB (CY 194) (D5)) rfl (by decide) (by decide) (by decide)
theorem gd : Agr Tryz.prog 54 (.st 2 [.int .i64 0, .own 132 0 []] [(0, 1), (1, 1)]) := Ia (us := [.int .i64 0, .slice none 0 0]) (by kernel_rfl) (AB (F7 .i64) ( AB (CY 132) (D5))) Tryz.underlying54 (by kernel_rfl) (by decide)
theorem ge : Agr Tryz.prog 55 (.sl 167 2 40 [.str [], .own 3 0 []]) := Jw (zv := .agg #[.string ⟨#[]⟩, .slice none 0 0]) (by kernel_rfl) (by kernel_rfl) (by kernel_rfl) (AB (KL) ( AB (CY 3) (D5))) rfl (by decide) (by decide) (by decide)
theorem gf : Agr Tryz.prog 57 (.st 3 [.int .i64 0, .own 167 0 [], .own 3 0 []] [(0, 1), (1, 1), (2, 1)]) := Ia (us := [.int .i64 0, .slice none 0 0, .slice none 0 0]) (by kernel_rfl) (AB (F7 .i64) ( AB (CY 167) ( AB (CY 3) (D5)))) Tryz.underlying57 (by kernel_rfl) (by decide)
theorem gg : Agr Tryz.prog 59 (.st 6 [.int .i64 0, .own 3 0 [], .own 3 0 [], .int .i64 0, .own 167 0 [], .own 3 0 []] [(0, 1), (1, 1), (2, 1), (3, 3)]) := Ia (us := [.int .i64 0, .slice none 0 0, .slice none 0 0, .int .i64 0, .slice none 0 0, .slice none 0 0]) (by kernel_rfl) (AB (F7 .i64) ( AB (CY 3) ( AB (CY 3) ( AB (F7 .i64) ( AB (CY 167) ( AB (CY 3) (D5))))))) Tryz.underlying59 (by kernel_rfl) (by decide)
theorem gj : Agr Tryz.prog 75 (.sl 114 3 48 [.str [], .int .i64 0, .own 27 0 []]) := Jw (zv := .agg #[.string ⟨#[]⟩, .int .i64 0, .slice none 0 0]) (by kernel_rfl) (by kernel_rfl) (by kernel_rfl) (AB (KL) ( AB (F7 .i64) ( AB (CY 27) (D5)))) rfl (by decide) (by decide) (by decide)
theorem gl : Agr Tryz.prog 77 (.st 1 [.own 114 0 []] [(0, 1)]) := Ia (us := [.slice none 0 0]) (by kernel_rfl) (AB (CY 114) (D5)) Tryz.underlying77 (by kernel_rfl) (by decide)
theorem gn : Agr Tryz.prog 99 (.st 3 [.own 5 0 [], .int .i64 0, .int .i64 0] [(0, 1), (1, 1), (2, 1)]) := Ia (us := [.slice none 0 0, .int .i64 0, .int .i64 0]) (by kernel_rfl) (AB (CY 5) ( AB (F7 .i64) ( AB (F7 .i64) (D5)))) Tryz.underlying99 (by kernel_rfl) (by decide)
theorem ao : Agr Tryz.prog 109 (.st 2 [.str [], .own 3 0 []] [(0, 1), (1, 1)]) := Ia (us := [.string ⟨#[]⟩, .slice none 0 0]) (by kernel_rfl) (AB (KL) ( AB (CY 3) (D5))) Tryz.underlying109 (by kernel_rfl) (by decide)
theorem aq : Agr Tryz.prog 114 (.st 3 [.str [], .int .i64 0, .own 27 0 []] [(0, 1), (1, 2)]) := Ia (us := [.string ⟨#[]⟩, .int .i64 0, .slice none 0 0]) (by kernel_rfl) (AB (KL) ( AB (F7 .i64) ( AB (CY 27) (D5)))) Tryz.underlying114 (by kernel_rfl) (by decide)
theorem au : Agr Tryz.prog 121 (.sl 9 1 16 [.str []]) := Jw (zv := .string ⟨#[]⟩) (by kernel_rfl) (by kernel_rfl) (by kernel_rfl) (AB (KL) (D5)) rfl (by decide) (by decide) (by decide)
theorem av : Agr Tryz.prog 130 (.sl 194 3 48 [.str [], .int .i64 0, .own 27 0 []]) := Jw (zv := .agg #[.string ⟨#[]⟩, .int .i64 0, .slice none 0 0]) (by kernel_rfl) (by kernel_rfl) (by kernel_rfl) (AB (KL) ( AB (F7 .i64) ( AB (CY 27) (D5)))) rfl (by decide) (by decide) (by decide)
theorem aw : Agr Tryz.prog 132 (.st 1 [.own 194 0 []] [(0, 1)]) := Ia (us := [.slice none 0 0]) (by kernel_rfl) (AB (CY 194) (D5)) Tryz.underlying132 (by kernel_rfl) (by decide)
theorem ax : Agr Tryz.prog 146 (.sl 179 2 32 [.int .i64 0, .own 27 0 []]) := Jw (zv := .agg #[.int .i64 0, .slice none 0 0]) (by kernel_rfl) (by kernel_rfl) (by kernel_rfl) (AB (F7 .i64) ( AB (CY 27) (D5))) rfl (by decide) (by decide) (by decide)
theorem ay : Agr Tryz.prog 167 (.st 2 [.str [], .own 3 0 []] [(0, 1), (1, 1)]) := Ia (us := [.string ⟨#[]⟩, .slice none 0 0]) (by kernel_rfl) (AB (KL) ( AB (CY 3) (D5))) Tryz.underlying167 (by kernel_rfl) (by decide)
theorem az : Agr Tryz.prog 174 (.sc (.int .u64 0)) := Lm .u64 (by kernel_rfl) (by kernel_rfl)
theorem aA : Agr Tryz.prog 179 (.st 2 [.int .i64 0, .own 27 0 []] [(0, 1), (1, 1)]) := Ia (us := [.int .i64 0, .slice none 0 0]) (by kernel_rfl) (AB (F7 .i64) ( AB (CY 27) (D5))) Tryz.underlying179 (by kernel_rfl) (by decide)
theorem aB : Agr Tryz.prog 192 (.st 2 [.int .i64 0, .own 27 0 []] [(0, 1), (1, 1)]) := Ia (us := [.int .i64 0, .slice none 0 0]) (by kernel_rfl) (AB (F7 .i64) ( AB (CY 27) (D5))) Tryz.underlying192 (by kernel_rfl) (by decide)
theorem aC : Agr Tryz.prog 194 (.st 3 [.str [], .int .i64 0, .own 27 0 []] [(0, 1), (1, 2)]) := Ia (us := [.string ⟨#[]⟩, .int .i64 0, .slice none 0 0]) (by kernel_rfl) (AB (KL) ( AB (F7 .i64) ( AB (CY 27) (D5)))) Tryz.underlying194 (by kernel_rfl) (by decide)
theorem aD : Agr Tryz.prog 208 (.sl 4 1 1 [.bool false]) := Jw (zv := .bool false) (by kernel_rfl) (by kernel_rfl) (by kernel_rfl) (AB (V2) (D5)) rfl (by decide) (by decide) (by decide)
theorem aE : Agr Tryz.prog 222 (.sc (.int .u32 0)) := Lm .u32 (by kernel_rfl) (by kernel_rfl)
def tb : Tb := fun t => match t with
 | 2 => some (.sc (.int .i64 0))
 | 3 => some (.sc (.int .i64 0))
 | 4 => some (.sc (.bool false))
 | 5 => some (.sc (.int .u8 0))
 | 9 => some (.sc (.str []))
 | 12 => some (.sc (.int .u64 0))
 | 21 => some (.sc (.int .i32 0))
 | 22 => some (.sl 5 1 1 [.int .u8 0])
 | 24 => some (.sl 77 1 24 [.own 114 0 []])
 | 26 => some (.st 2 [.int .i64 0, .own 77 0 []] [(0, 1), (1, 1)])
 | 27 => some (.sl 3 1 8 [.int .i64 0])
 | 28 => some (.sl 109 2 40 [.str [], .own 3 0 []])
 | 30 => some (.st 3 [.int .i64 0, .own 109 0 [], .own 3 0 []] [(0, 1), (1, 1), (2, 1)])
 | 32 => some (.st 6 [.int .i64 0, .own 3 0 [], .own 3 0 [], .int .i64 0, .own 109 0 [], .own 3 0 []] [(0, 1), (1, 1), (2, 1), (3, 3)])
 | 39 => some (.sl 27 1 24 [.own 3 0 []])
 | 41 => some (.st 2 [.int .i64 0, .own 27 0 []] [(0, 1), (1, 1)])
 | 43 => some (.st 5 [.str [], .int .i64 0, .own 27 0 [], .int .i64 0, .own 27 0 []] [(0, 1), (1, 2), (3, 2)])
 | 50 => some (.sl 32 6 112 [.int .i64 0, .own 3 0 [], .own 3 0 [], .int .i64 0, .own 109 0 [], .own 3 0 []])
 | 52 => some (.sl 132 1 24 [.own 194 0 []])
 | 54 => some (.st 2 [.int .i64 0, .own 132 0 []] [(0, 1), (1, 1)])
 | 55 => some (.sl 167 2 40 [.str [], .own 3 0 []])
 | 57 => some (.st 3 [.int .i64 0, .own 167 0 [], .own 3 0 []] [(0, 1), (1, 1), (2, 1)])
 | 59 => some (.st 6 [.int .i64 0, .own 3 0 [], .own 3 0 [], .int .i64 0, .own 167 0 [], .own 3 0 []] [(0, 1), (1, 1), (2, 1), (3, 3)])
 | 75 => some (.sl 114 3 48 [.str [], .int .i64 0, .own 27 0 []])
 | 77 => some (.st 1 [.own 114 0 []] [(0, 1)])
 | 99 => some (.st 3 [.own 5 0 [], .int .i64 0, .int .i64 0] [(0, 1), (1, 1), (2, 1)])
 | 109 => some (.st 2 [.str [], .own 3 0 []] [(0, 1), (1, 1)])
 | 114 => some (.st 3 [.str [], .int .i64 0, .own 27 0 []] [(0, 1), (1, 2)])
 | 121 => some (.sl 9 1 16 [.str []])
 | 130 => some (.sl 194 3 48 [.str [], .int .i64 0, .own 27 0 []])
 | 132 => some (.st 1 [.own 194 0 []] [(0, 1)])
 | 146 => some (.sl 179 2 32 [.int .i64 0, .own 27 0 []])
 | 167 => some (.st 2 [.str [], .own 3 0 []] [(0, 1), (1, 1)])
 | 174 => some (.sc (.int .u64 0))
 | 179 => some (.st 2 [.int .i64 0, .own 27 0 []] [(0, 1), (1, 1)])
 | 192 => some (.st 2 [.int .i64 0, .own 27 0 []] [(0, 1), (1, 1)])
 | 194 => some (.st 3 [.str [], .int .i64 0, .own 27 0 []] [(0, 1), (1, 2)])
 | 208 => some (.sl 4 1 1 [.bool false])
 | 222 => some (.sc (.int .u32 0))
 | _ => none
theorem TO : J7 Tryz.prog tb := by
 intro t d h
 unfold tb at h
 split at h
 ·injection h with h; subst h; exact km
 ·injection h with h; subst h; exact kn
 ·injection h with h; subst h; exact ko
 ·injection h with h; subst h; exact kq
 ·injection h with h; subst h; exact ks
 ·injection h with h; subst h; exact fQ
 ·injection h with h; subst h; exact fR
 ·injection h with h; subst h; exact fS
 ·injection h with h; subst h; exact fT
 ·injection h with h; subst h; exact fU
 ·injection h with h; subst h; exact fV
 ·injection h with h; subst h; exact fW
 ·injection h with h; subst h; exact fX
 ·injection h with h; subst h; exact fY
 ·injection h with h; subst h; exact fZ
 ·injection h with h; subst h; exact f0
 ·injection h with h; subst h; exact ga
 ·injection h with h; subst h; exact gb
 ·injection h with h; subst h; exact gc
 ·injection h with h; subst h; exact gd
 ·injection h with h; subst h; exact ge
 ·injection h with h; subst h; exact gf
 ·injection h with h; subst h; exact gg
 ·injection h with h; subst h; exact gj
 ·injection h with h; subst h; exact gl
 ·injection h with h; subst h; exact gn
 ·injection h with h; subst h; exact ao
 ·injection h with h; subst h; exact aq
 ·injection h with h; subst h; exact au
 ·injection h with h; subst h; exact av
 ·injection h with h; subst h; exact aw
 ·injection h with h; subst h; exact ax
 ·injection h with h; subst h; exact ay
 ·injection h with h; subst h; exact az
 ·injection h with h; subst h; exact aA
 ·injection h with h; subst h; exact aB
 ·injection h with h; subst h; exact aC
 ·injection h with h; subst h; exact aD
 ·injection h with h; subst h; exact aE
 ·cases h
theorem mixed : Tryz.prog.follows .mixedOrders = true := by kernel_rfl
abbrev Bv (f : Nat) (bx : List Nat) (base : List (Nat × Nat)) (cn : List (Nat × List Nat)) (fn : Func) : Prop := Lit Tryz.prog f fn.ntmps bx fn.results.toList (PH base cn (cdF fn))
section
variable {nt : Nat} {bx cns : List Nat} {Q : Exit -> PS -> Prop} {l l' y : LC} {L L' : PL} {σ : PS} {ops : List LO} {fps : List (List Nat × List Nat)} {es : List (List Nat)}
theorem rn (n : Nat) (h : fI tb n l L = some (l', L')) (k : LS Tryz.prog nt bx l' (ofL L') Q) : LS Tryz.prog nt bx l (ofL L) Q := VB TO h k
theorem rs (h : evS Tryz.prog tb cns ops σ (fun σ' => LS Tryz.prog nt bx y σ' Q)) : LS Tryz.prog nt bx (.seq (.rgn cns ops) y) σ Q := Zm TO h
theorem rsB {α : Type} (f : α -> List V) (l : List α) (e : TypeId) (es : Nat) {L : PL} {s d t : TypeId} {n : Nat} {ps : Array (Nat × Operand)} {ops' : List LO} (h : bsO tb L s n ps.toList = some (e, es, L, l.flatMap f)) (hn : l.length = n) (hf : ∀ x, (f x).length = es) (k : evS Tryz.prog tb cns ops' (ofL ((d, .own e l.length (l.flatMap f)) :: L)) (fun σ' => LS Tryz.prog nt bx y σ' Q)) : LS Tryz.prog nt bx (.seq (.rgn cns (⟨some d, .buildSlice s n ps, t, none⟩ :: ops')) y) (ofL L) Q := rs (qBk f l e es h hn hf k)
theorem rk (h : ∀ K : PS -> Prop, (∀ σ', LS Tryz.prog nt bx y σ' Q -> K σ') -> evS Tryz.prog tb cns ops σ K) : LS Tryz.prog nt bx (.seq (.rgn cns ops) y) σ Q := Zn TO h
theorem rg (h : evS Tryz.prog tb cns ops σ (Q .normal)) : LS Tryz.prog nt bx (.rgn cns ops) σ Q := X2 TO h
theorem rd (hD : (okD fps es ops && okF cns fps ops) = true) (h : evD Tryz.prog tb cns fps ops σ (fun σ' => LS Tryz.prog nt bx y σ' Q)) : LS Tryz.prog nt bx (.seq (.drw cns fps es ops) y) σ Q := dz TO mixed hD h
theorem rdk (hD : (okD fps es ops && okF cns fps ops) = true) (h : ∀ K : PS -> Prop, (∀ σ', LS Tryz.prog nt bx y σ' Q -> K σ') -> evD Tryz.prog tb cns fps ops σ K) : LS Tryz.prog nt bx (.seq (.drw cns fps es ops) y) σ Q := Zl TO mixed hD h
theorem rgd (hD : (okD fps es ops && okF cns fps ops) = true) (h : evD Tryz.prog tb cns fps ops σ (Q .normal)) : LS Tryz.prog nt bx (.drw cns fps es ops) σ Q := X1 TO mixed hD h
theorem st {f : Nat} {fn : Func} {base : List (Nat × Nat)} {cn : List (Nat × List Nat)} {args : List V} {r : V} (hl : Bv f bx base cn fn) (h0 : (Nat.ble args.length fn.ntmps && (args.all J8 && okR (Rz 0 args))) = true) (h : LS Tryz.prog fn.ntmps bx (PH base cn (cdF fn)) (ofL (Rz 0 args)) (d7 tb fn.results.toList r)) : Ah Tryz.prog f args r := by
 simp only [Bool.and_eq_true] at h0
 exact VP TO hl (nb h0.1) h0.2.1 (qi args h0.2.2 h)
theorem rt (p : Nat) (hD : (okD fps es ops && (okF cns fps ops && okT p es ops)) = true) (h : evD Tryz.prog tb cns (fps.take p) (ops.take p) σ (fun σ' => Gh Tryz.prog nt bx σ' (fun σ2 => evS Tryz.prog tb cns (ops.drop p) σ2 (fun σ' => LS Tryz.prog nt bx y σ' Q)))) : LS Tryz.prog nt bx (.seq (.drw cns fps es ops) y) σ Q := Su (UV TO mixed p hD h)
theorem rgt (p : Nat) (hD : (okD fps es ops && (okF cns fps ops && okT p es ops)) = true) (h : evD Tryz.prog tb cns (fps.take p) (ops.take p) σ (fun σ' => Gh Tryz.prog nt bx σ' (fun σ2 => evS Tryz.prog tb cns (ops.drop p) σ2 (Q .normal)))) : LS Tryz.prog nt bx (.drw cns fps es ops) σ Q := UV TO mixed p hD h
theorem stp {f : Nat} {fn : Func} {base : List (Nat × Nat)} {cn : List (Nat × List Nat)} {cs args cs' : List V} {r : V} (hl : Bv f bx base cn fn) (h0 : (Nat.ble (args.length + 1) fn.ntmps && ((bx.contains 0 && bx.contains MF) && (args.all J8 && (!(fn.results.toList.map Ii).contains 0 && (cs'.all Ig && okR (Rz 0 (.box cs :: args))))))) = true) (h : LS Tryz.prog fn.ntmps bx (PH base cn (cdF fn)) (ofL (Rz 0 (.box cs :: args))) (j7 tb fn.results.toList r cs')) : Jm Tryz.prog f cs args cs' r := by
 simp only [Bool.and_eq_true, Bool.not_eq_true'] at h0
 exact ZI TO hl (nb h0.1) (by rw [Bool.and_eq_true]; exact h0.2.1) h0.2.2.1 h0.2.2.2.1 h0.2.2.2.2.1 (qi _ h0.2.2.2.2.2 h)
theorem stn {f t : Nat} {fn : Func} {base : List (Nat × Nat)} {cn : List (Nat × List Nat)} {args cs : List V} (hl : Bv f bx base cn fn) (hr : fn.results.toList = [.tmp t]) (h0 : (Nat.ble args.length fn.ntmps && (args.all J8 && (cs.all Ig && okR (Rz 0 args)))) = true) (h : LS Tryz.prog fn.ntmps bx (PH base cn (cdF fn)) (ofL (Rz 0 args)) (j6 t cs)) : NewAt Tryz.prog f args cs := by
 rw [Bool.and_eq_true, Bool.and_eq_true, Bool.and_eq_true] at h0
 unfold Bv at hl
 rw [hr] at hl
 exact Zu hl (nb h0.1) h0.2.1 h0.2.2.1 (qi args h0.2.2.2 h)
theorem sta {f : Nat} {fn : Func} {base : List (Nat × Nat)} {cn : List (Nat × List Nat)} {args args' : List V} {r : V} (hl : Bv f bx base cn fn) (h0 : (Nat.ble args.length fn.ntmps && okR (Rz 0 args')) = true) (ha : args.all IG = true) (he : args.map Qg = args') (hr : Wr r = true) (h : LS Tryz.prog fn.ntmps bx (PH base cn (cdF fn)) (ofL (Rz 0 args')) (d7 tb fn.results.toList r)) : Ah Tryz.prog f args r := by
 subst he
 simp only [Bool.and_eq_true] at h0
 exact TI TO hl (nb h0.1) ha hr (qi _ h0.2 h)
end
end Go.Proofs.YtlknpohjnpnodaaGreat
