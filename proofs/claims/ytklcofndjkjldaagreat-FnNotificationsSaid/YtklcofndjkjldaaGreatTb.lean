/-
 The pure machine's table of this program's types, printed by gentab.py, and that it is so. No conditions.
-/
import Derived.Test.YtklcofndjkjldaaGreatKb
import Derived.Test.YtklcofndjkjldaaGreatProg
namespace Go.Proofs.YtklcofndjkjldaaGreat
open Go.RowKit
set_option linter.unusedVariables false
set_option maxRecDepth 100000
theorem iu : Agr Tryz.prog 2 (.sc (.int .i64 0)):=KV .i64 (by kernel_rfl) (by kernel_rfl)
theorem iv : Agr Tryz.prog 3 (.sc (.int .i64 0)):=KV .i64 (by kernel_rfl) (by kernel_rfl)
theorem iw : Agr Tryz.prog 4 (.sc (.bool false)):=VH (by kernel_rfl) (by kernel_rfl)
theorem iy : Agr Tryz.prog 5 (.sc (.int .u8 0)):=KV .u8 (by kernel_rfl) (by kernel_rfl)
theorem iz : Agr Tryz.prog 9 (.sc (.str [])):=XO (by kernel_rfl) (by kernel_rfl)
theorem de : Agr Tryz.prog 12 (.sc (.int .u64 0)):=KV .u64 (by kernel_rfl) (by kernel_rfl)
theorem df : Agr Tryz.prog 21 (.sc (.int .i32 0)):=KV .i32 (by kernel_rfl) (by kernel_rfl)
theorem dh : Agr Tryz.prog 22 (.sl 5 1 1 [.int .u8 0]):=Ln (zv:=.int .u8 0) (by kernel_rfl) (by kernel_rfl) (by kernel_rfl) (AT (HM .u8) (Gu)) rfl (by decide) (by decide) (by decide)
theorem di : Agr Tryz.prog 24 (.sl 89 3 48 [.str [],.int .i64 0,.own 42 0 []]):=Ln (zv:=.agg #[.string ⟨#[]⟩,.int .i64 0,.slice none 0 0]) (by kernel_rfl) (by kernel_rfl) (by kernel_rfl) (AT (Oa) ( AT (HM .i64) ( AT (EI 42) (Gu)))) rfl (by decide) (by decide) (by decide)
theorem dj : Agr Tryz.prog 26 (.st 1 [.own 89 0 []] [(0,1)]):=Ka (us:=[.slice none 0 0]) (by kernel_rfl) (AT (EI 89) (Gu)) Tryz.underlying26 (by kernel_rfl) (by decide)
theorem dk : Agr Tryz.prog 27 (.sl 54 6 112 [.int .i64 0,.own 112 0 [],.own 3 0 [],.int .i64 0,.own 42 0 [],.own 3 0 []]):=Ln (zv:=.agg #[.int .i64 0,.slice none 0 0,.slice none 0 0,.int .i64 0,.slice none 0 0,.slice none 0 0]) (by kernel_rfl) (by kernel_rfl) (by kernel_rfl) (AT (HM .i64) ( AT (EI 112) ( AT (EI 3) ( AT (HM .i64) ( AT (EI 42) ( AT (EI 3) (Gu))))))) rfl (by decide) (by decide) (by decide)
theorem dl : Agr Tryz.prog 28 (.sl 44 3 56 [.int .i64 0,.own 42 0 [],.own 3 0 []]):=Ln (zv:=.agg #[.int .i64 0,.slice none 0 0,.slice none 0 0]) (by kernel_rfl) (by kernel_rfl) (by kernel_rfl) (AT (HM .i64) ( AT (EI 42) ( AT (EI 3) (Gu)))) rfl (by decide) (by decide) (by decide)
theorem dm : Agr Tryz.prog 30 (.st 3 [.own 89 0 [],.own 54 0 [],.own 44 0 []] [(0,1),(1,1),(2,1)]):=Ka (us:=[.slice none 0 0,.slice none 0 0,.slice none 0 0]) (by kernel_rfl) (AT (EI 89) ( AT (EI 54) ( AT (EI 44) (Gu)))) Tryz.underlying30 (by kernel_rfl) (by decide)
theorem dn : Agr Tryz.prog 31 (.sl 42 1 24 [.own 3 0 []]):=Ln (zv:=.slice none 0 0) (by kernel_rfl) (by kernel_rfl) (by kernel_rfl) (AT (EI 3) (Gu)) rfl (by decide) (by decide) (by decide)
theorem dp : Agr Tryz.prog 33 (.st 2 [.int .i64 0,.own 42 0 []] [(0,1),(1,1)]):=Ka (us:=[.int .i64 0,.slice none 0 0]) (by kernel_rfl) (AT (HM .i64) ( AT (EI 42) (Gu))) Tryz.underlying33 (by kernel_rfl) (by decide)
theorem dq : Agr Tryz.prog 35 (.st 5 [.str [],.int .i64 0,.own 42 0 [],.int .i64 0,.own 42 0 []] [(0,1),(1,2),(3,2)]):=Ka (us:=[.string ⟨#[]⟩,.int .i64 0,.slice none 0 0,.int .i64 0,.slice none 0 0]) (by kernel_rfl) (AT (Oa) ( AT (HM .i64) ( AT (EI 42) ( AT (HM .i64) ( AT (EI 42) (Gu)))))) Tryz.underlying35 (by kernel_rfl) (by decide)
theorem dr : Agr Tryz.prog 42 (.sl 3 1 8 [.int .i64 0]):=Ln (zv:=.int .i64 0) (by kernel_rfl) (by kernel_rfl) (by kernel_rfl) (AT (HM .i64) (Gu)) rfl (by decide) (by decide) (by decide)
theorem dt : Agr Tryz.prog 44 (.st 3 [.int .i64 0,.own 42 0 [],.own 3 0 []] [(0,1),(1,1),(2,1)]):=Ka (us:=[.int .i64 0,.slice none 0 0,.slice none 0 0]) (by kernel_rfl) (AT (HM .i64) ( AT (EI 42) ( AT (EI 3) (Gu)))) Tryz.underlying44 (by kernel_rfl) (by decide)
theorem du : Agr Tryz.prog 50 (.sl 112 2 40 [.str [],.own 3 0 []]):=Ln (zv:=.agg #[.string ⟨#[]⟩,.slice none 0 0]) (by kernel_rfl) (by kernel_rfl) (by kernel_rfl) (AT (Oa) ( AT (EI 3) (Gu))) rfl (by decide) (by decide) (by decide)
theorem dv : Agr Tryz.prog 52 (.st 3 [.int .i64 0,.own 112 0 [],.own 3 0 []] [(0,1),(1,1),(2,1)]):=Ka (us:=[.int .i64 0,.slice none 0 0,.slice none 0 0]) (by kernel_rfl) (AT (HM .i64) ( AT (EI 112) ( AT (EI 3) (Gu)))) Tryz.underlying52 (by kernel_rfl) (by decide)
theorem dw : Agr Tryz.prog 54 (.st 6 [.int .i64 0,.own 112 0 [],.own 3 0 [],.int .i64 0,.own 42 0 [],.own 3 0 []] [(0,3),(3,3)]):=Ka (us:=[.int .i64 0,.slice none 0 0,.slice none 0 0,.int .i64 0,.slice none 0 0,.slice none 0 0]) (by kernel_rfl) (AT (HM .i64) ( AT (EI 112) ( AT (EI 3) ( AT (HM .i64) ( AT (EI 42) ( AT (EI 3) (Gu))))))) Tryz.underlying54 (by kernel_rfl) (by decide)
theorem dx : Agr Tryz.prog 80 (.st 3 [.own 5 0 [],.int .i64 0,.int .i64 0] [(0,1),(1,1),(2,1)]):=Ka (us:=[.slice none 0 0,.int .i64 0,.int .i64 0]) (by kernel_rfl) (AT (EI 5) ( AT (HM .i64) ( AT (HM .i64) (Gu)))) Tryz.underlying80 (by kernel_rfl) (by decide)
theorem dy : Agr Tryz.prog 89 (.st 3 [.str [],.int .i64 0,.own 42 0 []] [(0,1),(1,2)]):=Ka (us:=[.string ⟨#[]⟩,.int .i64 0,.slice none 0 0]) (by kernel_rfl) (AT (Oa) ( AT (HM .i64) ( AT (EI 42) (Gu)))) Tryz.underlying89 (by kernel_rfl) (by decide)
theorem dz : Agr Tryz.prog 92 (.sl 9 1 16 [.str []]):=Ln (zv:=.string ⟨#[]⟩) (by kernel_rfl) (by kernel_rfl) (by kernel_rfl) (AT (Oa) (Gu)) rfl (by decide) (by decide) (by decide)
theorem ZI : Agr Tryz.prog 112 (.st 2 [.str [],.own 3 0 []] [(0,1),(1,1)]):=Ka (us:=[.string ⟨#[]⟩,.slice none 0 0]) (by kernel_rfl) (AT (Oa) ( AT (EI 3) (Gu))) Tryz.underlying112 (by kernel_rfl) (by decide)
theorem ZJ : Agr Tryz.prog 139 (.sc (.int .u64 0)):=KV .u64 (by kernel_rfl) (by kernel_rfl)
theorem ZK : Agr Tryz.prog 145 (.st 3 [.own 3 0 [],.int .i64 0,.own 42 0 []] [(0,1),(1,2)]):=Ka (us:=[.slice none 0 0,.int .i64 0,.slice none 0 0]) (by kernel_rfl) (AT (EI 3) ( AT (HM .i64) ( AT (EI 42) (Gu)))) Tryz.underlying145 (by kernel_rfl) (by decide)
theorem ZM : Agr Tryz.prog 155 (.sl 4 1 1 [.bool false]):=Ln (zv:=.bool false) (by kernel_rfl) (by kernel_rfl) (by kernel_rfl) (AT (Vy) (Gu)) rfl (by decide) (by decide) (by decide)
theorem ZN : Agr Tryz.prog 163 (.sc (.int .u32 0)):=KV .u32 (by kernel_rfl) (by kernel_rfl)
def tb : Tb:=fun t => match t with
 | 2 => some (.sc (.int .i64 0))
 | 3 => some (.sc (.int .i64 0))
 | 4 => some (.sc (.bool false))
 | 5 => some (.sc (.int .u8 0))
 | 9 => some (.sc (.str []))
 | 12 => some (.sc (.int .u64 0))
 | 21 => some (.sc (.int .i32 0))
 | 22 => some (.sl 5 1 1 [.int .u8 0])
 | 24 => some (.sl 89 3 48 [.str [],.int .i64 0,.own 42 0 []])
 | 26 => some (.st 1 [.own 89 0 []] [(0,1)])
 | 27 => some (.sl 54 6 112 [.int .i64 0,.own 112 0 [],.own 3 0 [],.int .i64 0,.own 42 0 [],.own 3 0 []])
 | 28 => some (.sl 44 3 56 [.int .i64 0,.own 42 0 [],.own 3 0 []])
 | 30 => some (.st 3 [.own 89 0 [],.own 54 0 [],.own 44 0 []] [(0,1),(1,1),(2,1)])
 | 31 => some (.sl 42 1 24 [.own 3 0 []])
 | 33 => some (.st 2 [.int .i64 0,.own 42 0 []] [(0,1),(1,1)])
 | 35 => some (.st 5 [.str [],.int .i64 0,.own 42 0 [],.int .i64 0,.own 42 0 []] [(0,1),(1,2),(3,2)])
 | 42 => some (.sl 3 1 8 [.int .i64 0])
 | 44 => some (.st 3 [.int .i64 0,.own 42 0 [],.own 3 0 []] [(0,1),(1,1),(2,1)])
 | 50 => some (.sl 112 2 40 [.str [],.own 3 0 []])
 | 52 => some (.st 3 [.int .i64 0,.own 112 0 [],.own 3 0 []] [(0,1),(1,1),(2,1)])
 | 54 => some (.st 6 [.int .i64 0,.own 112 0 [],.own 3 0 [],.int .i64 0,.own 42 0 [],.own 3 0 []] [(0,3),(3,3)])
 | 80 => some (.st 3 [.own 5 0 [],.int .i64 0,.int .i64 0] [(0,1),(1,1),(2,1)])
 | 89 => some (.st 3 [.str [],.int .i64 0,.own 42 0 []] [(0,1),(1,2)])
 | 92 => some (.sl 9 1 16 [.str []])
 | 112 => some (.st 2 [.str [],.own 3 0 []] [(0,1),(1,1)])
 | 139 => some (.sc (.int .u64 0))
 | 145 => some (.st 3 [.own 3 0 [],.int .i64 0,.own 42 0 []] [(0,1),(1,2)])
 | 155 => some (.sl 4 1 1 [.bool false])
 | 163 => some (.sc (.int .u32 0))
 | _ => none
theorem Tu : JC Tryz.prog tb:=by
 intro t d h
 unfold tb at h
 split at h
 ·injection h with h; subst h; exact iu
 ·injection h with h; subst h; exact iv
 ·injection h with h; subst h; exact iw
 ·injection h with h; subst h; exact iy
 ·injection h with h; subst h; exact iz
 ·injection h with h; subst h; exact de
 ·injection h with h; subst h; exact df
 ·injection h with h; subst h; exact dh
 ·injection h with h; subst h; exact di
 ·injection h with h; subst h; exact dj
 ·injection h with h; subst h; exact dk
 ·injection h with h; subst h; exact dl
 ·injection h with h; subst h; exact dm
 ·injection h with h; subst h; exact dn
 ·injection h with h; subst h; exact dp
 ·injection h with h; subst h; exact dq
 ·injection h with h; subst h; exact dr
 ·injection h with h; subst h; exact dt
 ·injection h with h; subst h; exact du
 ·injection h with h; subst h; exact dv
 ·injection h with h; subst h; exact dw
 ·injection h with h; subst h; exact dx
 ·injection h with h; subst h; exact dy
 ·injection h with h; subst h; exact dz
 ·injection h with h; subst h; exact ZI
 ·injection h with h; subst h; exact ZJ
 ·injection h with h; subst h; exact ZK
 ·injection h with h; subst h; exact ZM
 ·injection h with h; subst h; exact ZN
 ·cases h
theorem mixed : Tryz.prog.follows .mixedOrders = true:=by kernel_rfl
abbrev BF (f : Nat) (bx : List Nat) (base : List (Nat × Nat)) (cn : List (Nat × List Nat)) (fn : Func) : Prop:=Lit Tryz.prog f fn.ntmps bx fn.results.toList (ON base cn (cdF fn))
section
variable {nt : Nat} {bx cns : List Nat} {Q : Exit -> PS -> Prop} {l l' y : LC} {L L' : PL} {σ : PS} {ops : List LO} {fps : List (List Nat × List Nat)} {es : List (List Nat)}
theorem rn (n : Nat) (h : c8 tb n l L = some (l',L')) (k : LS Tryz.prog nt bx l' (ofL L') Q) : LS Tryz.prog nt bx l (ofL L) Q:=U9 Tu h k
theorem rs (h : evS Tryz.prog tb cns ops σ (fun σ' => LS Tryz.prog nt bx y σ' Q)) : LS Tryz.prog nt bx (.seq (.rgn cns ops) y) σ Q:=YC Tu h
theorem rsB {α : Type} (f : α -> List V) (l : List α) (e : TypeId) (es : Nat) {L : PL} {s d t : TypeId} {n : Nat} {ps : Array (Nat × Operand)} {ops' : List LO} (h : bsO tb L s n ps.toList = some (e,es,L,l.flatMap f)) (hn : l.length = n) (hf : ∀ x,(f x).length = es) (k : evS Tryz.prog tb cns ops' (ofL ((d,.own e l.length (l.flatMap f)) :: L)) (fun σ' => LS Tryz.prog nt bx y σ' Q)) : LS Tryz.prog nt bx (.seq (.rgn cns (⟨some d,.buildSlice s n ps,t,none⟩ :: ops')) y) (ofL L) Q:=rs (qBk f l e es h hn hf k)
theorem rk (h : ∀ K : PS -> Prop,(∀ σ',LS Tryz.prog nt bx y σ' Q -> K σ') -> evS Tryz.prog tb cns ops σ K) : LS Tryz.prog nt bx (.seq (.rgn cns ops) y) σ Q:=YD Tu h
theorem rg (h : evS Tryz.prog tb cns ops σ (Q .normal)) : LS Tryz.prog nt bx (.rgn cns ops) σ Q:=Xn Tu h
theorem rd (hD : (okD fps es ops && okF cns fps ops) = true) (h : evD Tryz.prog tb cns fps ops σ (fun σ' => LS Tryz.prog nt bx y σ' Q)) : LS Tryz.prog nt bx (.seq (.drw cns fps es ops) y) σ Q:=bo Tu mixed hD h
theorem rdk (hD : (okD fps es ops && okF cns fps ops) = true) (h : ∀ K : PS -> Prop,(∀ σ',LS Tryz.prog nt bx y σ' Q -> K σ') -> evD Tryz.prog tb cns fps ops σ K) : LS Tryz.prog nt bx (.seq (.drw cns fps es ops) y) σ Q:=YB Tu mixed hD h
theorem rgd (hD : (okD fps es ops && okF cns fps ops) = true) (h : evD Tryz.prog tb cns fps ops σ (Q .normal)) : LS Tryz.prog nt bx (.drw cns fps es ops) σ Q:=Xm Tu mixed hD h
theorem st {f : Nat} {fn : Func} {base : List (Nat × Nat)} {cn : List (Nat × List Nat)} {args : List V} {r : V} (hl : BF f bx base cn fn) (h0 : (Nat.ble args.length fn.ntmps && (args.all Jx && okR (Qd 0 args))) = true) (h : LS Tryz.prog fn.ntmps bx (ON base cn (cdF fn)) (ofL (Qd 0 args)) (bW tb fn.results.toList r)) : Ai Tryz.prog f args r:=by
 simp only [Bool.and_eq_true] at h0
 exact Vk Tu hl (nb h0.1) h0.2.1 (qi args h0.2.2 h)
theorem rt (p : Nat) (hD : (okD fps es ops && (okF cns fps ops && okT p es ops)) = true) (h : evD Tryz.prog tb cns (fps.take p) (ops.take p) σ (fun σ' => Gh Tryz.prog nt bx σ' (fun σ2 => evS Tryz.prog tb cns (ops.drop p) σ2 (fun σ' => LS Tryz.prog nt bx y σ' Q)))) : LS Tryz.prog nt bx (.seq (.drw cns fps es ops) y) σ Q:=Sl (Uw Tu mixed p hD h)
theorem rgt (p : Nat) (hD : (okD fps es ops && (okF cns fps ops && okT p es ops)) = true) (h : evD Tryz.prog tb cns (fps.take p) (ops.take p) σ (fun σ' => Gh Tryz.prog nt bx σ' (fun σ2 => evS Tryz.prog tb cns (ops.drop p) σ2 (Q .normal)))) : LS Tryz.prog nt bx (.drw cns fps es ops) σ Q:=Uw Tu mixed p hD h
theorem stp {f : Nat} {fn : Func} {base : List (Nat × Nat)} {cn : List (Nat × List Nat)} {cs args cs' : List V} {r : V} (hl : BF f bx base cn fn) (h0 : (Nat.ble (args.length + 1) fn.ntmps && ((bx.contains 0 && bx.contains KJ) && (args.all Jx && (!(fn.results.toList.map Il).contains 0 && (cs'.all He && okR (Qd 0 (.box cs :: args))))))) = true) (h : LS Tryz.prog fn.ntmps bx (ON base cn (cdF fn)) (ofL (Qd 0 (.box cs :: args))) (c7 tb fn.results.toList r cs')) : JD Tryz.prog f cs args cs' r:=by
 simp only [Bool.and_eq_true,Bool.not_eq_true'] at h0
 exact Y3 Tu hl (nb h0.1) (by rw [Bool.and_eq_true]; exact h0.2.1) h0.2.2.1 h0.2.2.2.1 h0.2.2.2.2.1 (qi _ h0.2.2.2.2.2 h)
theorem jc {f : Nat} {fn : Func} {base : List (Nat × Nat)} {cn : List (Nat × List Nat)} {cs args args' cs' : List V} (hl : BF f bx base cn fn) (hr : fn.results.toList = []) (h0 : (Nat.ble (args.length + 1) fn.ntmps && ((bx.contains 0 && bx.contains KJ) && okR (Qd 0 (.box cs :: args')))) = true) (ha : args.all GW = true) (he : args.map L9 = args') (hd : Fh cs = true) (hd' : Fh cs' = true) (h : LS Tryz.prog fn.ntmps bx (ON base cn (cdF fn)) (ofL (Qd 0 (.box cs :: args'))) (c7 tb fn.results.toList (.tup []) cs')) : XN Tryz.prog f cs args cs':=by
 subst he
 rw [Bool.and_eq_true,Bool.and_eq_true] at h0
 exact Wy Tu hl (nb h0.1) h0.2.1 ha hr hd hd' (qi _ h0.2.2 h)
theorem stn {f t : Nat} {fn : Func} {base : List (Nat × Nat)} {cn : List (Nat × List Nat)} {args cs : List V} (hl : BF f bx base cn fn) (hr : fn.results.toList = [.tmp t]) (h0 : (Nat.ble args.length fn.ntmps && (args.all Jx && (cs.all He && okR (Qd 0 args)))) = true) (h : LS Tryz.prog fn.ntmps bx (ON base cn (cdF fn)) (ofL (Qd 0 args)) (ig t cs)) : NewAt Tryz.prog f args cs:=by
 rw [Bool.and_eq_true,Bool.and_eq_true,Bool.and_eq_true] at h0
 unfold BF at hl
 rw [hr] at hl
 exact YM hl (nb h0.1) h0.2.1 h0.2.2.1 (qi args h0.2.2.2 h)
theorem sta {f : Nat} {fn : Func} {base : List (Nat × Nat)} {cn : List (Nat × List Nat)} {args args' : List V} {r : V} (hl : BF f bx base cn fn) (h0 : (Nat.ble args.length fn.ntmps && okR (Qd 0 args')) = true) (ha : args.all GW = true) (he : args.map L9 = args') (hr : VV r = true) (h : LS Tryz.prog fn.ntmps bx (ON base cn (cdF fn)) (ofL (Qd 0 args')) (bW tb fn.results.toList r)) : Ai Tryz.prog f args r:=by
 subst he
 simp only [Bool.and_eq_true] at h0
 exact Tt Tu hl (nb h0.1) ha hr (qi _ h0.2 h)
end
end Go.Proofs.YtklcofndjkjldaaGreat
