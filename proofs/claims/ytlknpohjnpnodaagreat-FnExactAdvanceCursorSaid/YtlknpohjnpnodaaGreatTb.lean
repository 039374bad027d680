/-
  The pure machine's table of this program's types, printed by gentab.py, and that it is so. No conditions.
-/
import Derived.Test.YtlknpohjnpnodaaGreatKb
import Derived.Test.YtlknpohjnpnodaaGreatProg
namespace Go.Proofs.YtlknpohjnpnodaaGreat
open Go.RowKit
set_option linter.unusedVariables false
set_option maxRecDepth 100000
theorem agr2 : Agr Tryz.prog 2 (.sc (.int .i64 0)) := agr_int .i64 (by kernel_rfl) (by kernel_rfl)
theorem agr3 : Agr Tryz.prog 3 (.sc (.int .i64 0)) := agr_int .i64 (by kernel_rfl) (by kernel_rfl)
theorem agr4 : Agr Tryz.prog 4 (.sc (.bool false)) := agr_bool (by kernel_rfl) (by kernel_rfl)
theorem agr5 : Agr Tryz.prog 5 (.sc (.int .u8 0)) := agr_int .u8 (by kernel_rfl) (by kernel_rfl)
theorem agr9 : Agr Tryz.prog 9 (.sc (.str [])) := agr_str (by kernel_rfl) (by kernel_rfl)
theorem agr12 : Agr Tryz.prog 12 (.sc (.int .u64 0)) := agr_int .u64 (by kernel_rfl) (by kernel_rfl)
theorem agr21 : Agr Tryz.prog 21 (.sc (.int .i32 0)) := agr_int .i32 (by kernel_rfl) (by kernel_rfl)
theorem agr22 : Agr Tryz.prog 22 (.sl 5 1 1 [.int .u8 0]) := agr_sl (zv := .int .u8 0) (by kernel_rfl) (by kernel_rfl) (by kernel_rfl) (zl_cons (zc_int .u8) (zl_nil)) rfl (by decide) (by decide) (by decide)
theorem agr24 : Agr Tryz.prog 24 (.sl 77 1 24 [.own 114 0 []]) := agr_sl (zv := .agg #[.slice none 0 0]) (by kernel_rfl) (by kernel_rfl) (by kernel_rfl) (zl_cons (zc_own 114) (zl_nil)) rfl (by decide) (by decide) (by decide)
theorem agr26 : Agr Tryz.prog 26 (.st 2 [.int .i64 0, .own 77 0 []] [(0, 1), (1, 1)]) := agr_st (us := [.int .i64 0, .slice none 0 0]) (by kernel_rfl) (zl_cons (zc_int .i64) ( zl_cons (zc_own 77) (zl_nil))) Tryz.underlying26 (by kernel_rfl) (by decide)
theorem agr27 : Agr Tryz.prog 27 (.sl 3 1 8 [.int .i64 0]) := agr_sl (zv := .int .i64 0) (by kernel_rfl) (by kernel_rfl) (by kernel_rfl) (zl_cons (zc_int .i64) (zl_nil)) rfl (by decide) (by decide) (by decide)
theorem agr28 : Agr Tryz.prog 28 (.sl 109 2 40 [.str [], .own 3 0 []]) := agr_sl (zv := .agg #[.string ⟨#[]⟩, .slice none 0 0]) (by kernel_rfl) (by kernel_rfl) (by kernel_rfl) (zl_cons (zc_str) ( zl_cons (zc_own 3) (zl_nil))) rfl (by decide) (by decide) (by decide)
theorem agr30 : Agr Tryz.prog 30 (.st 3 [.int .i64 0, .own 109 0 [], .own 3 0 []] [(0, 1), (1, 1), (2, 1)]) := agr_st (us := [.int .i64 0, .slice none 0 0, .slice none 0 0]) (by kernel_rfl) (zl_cons (zc_int .i64) ( zl_cons (zc_own 109) ( zl_cons (zc_own 3) (zl_nil)))) Tryz.underlying30 (by kernel_rfl) (by decide)
theorem agr32 : Agr Tryz.prog 32 (.st 6 [.int .i64 0, .own 3 0 [], .own 3 0 [], .int .i64 0, .own 109 0 [], .own 3 0 []] [(0, 1), (1, 1), (2, 1), (3, 3)]) := agr_st (us := [.int .i64 0, .slice none 0 0, .slice none 0 0, .int .i64 0, .slice none 0 0, .slice none 0 0]) (by kernel_rfl) (zl_cons (zc_int .i64) ( zl_cons (zc_own 3) ( zl_cons (zc_own 3) ( zl_cons (zc_int .i64) ( zl_cons (zc_own 109) ( zl_cons (zc_own 3) (zl_nil))))))) Tryz.underlying32 (by kernel_rfl) (by decide)
theorem agr39 : Agr Tryz.prog 39 (.sl 27 1 24 [.own 3 0 []]) := agr_sl (zv := .slice none 0 0) (by kernel_rfl) (by kernel_rfl) (by kernel_rfl) (zl_cons (zc_own 3) (zl_nil)) rfl (by decide) (by decide) (by decide)
theorem agr41 : Agr Tryz.prog 41 (.st 2 [.int .i64 0, .own 27 0 []] [(0, 1), (1, 1)]) := agr_st (us := [.int .i64 0, .slice none 0 0]) (by kernel_rfl) (zl_cons (zc_int .i64) ( zl_cons (zc_own 27) (zl_nil))) Tryz.underlying41 (by kernel_rfl) (by decide)
theorem agr43 : Agr Tryz.prog 43 (.st 5 [.str [], .int .i64 0, .own 27 0 [], .int .i64 0, .own 27 0 []] [(0, 1), (1, 2), (3, 2)]) := agr_st (us := [.string ⟨#[]⟩, .int .i64 0, .slice none 0 0, .int .i64 0, .slice none 0 0]) (by kernel_rfl) (zl_cons (zc_str) ( zl_cons (zc_int .i64) ( zl_cons (zc_own 27) ( zl_cons (zc_int .i64) ( zl_cons (zc_own 27) (zl_nil)))))) Tryz.underlying43 (by kernel_rfl) (by decide)
theorem agr50 : Agr Tryz.prog 50 (.sl 32 6 112 [.int .i64 0, .own 3 0 [], .own 3 0 [], .int .i64 0, .own 109 0 [], .own 3 0 []]) := agr_sl (zv := .agg #[.int .i64 0, .slice none 0 0, .slice none 0 0, .int .i64 0, .slice none 0 0, .slice none 0 0]) (by kernel_rfl) (by kernel_rfl) (by kernel_rfl) (zl_cons (zc_int .i64) ( zl_cons (zc_own 3) ( zl_cons (zc_own 3) ( zl_cons (zc_int .i64) ( zl_cons (zc_own 109) ( zl_cons (zc_own 3) (zl_nil))))))) rfl (by decide) (by decide) (by decide)
theorem agr52 : Agr Tryz.prog 52 (.sl 132 1 24 [.own 194 0 []]) := agr_sl (zv := .agg #[.slice none 0 0]) (by kernel_rfl) (by kernel_rfl) (by kernel_rfl) (zl_cons (zc_own 194) (zl_nil)) rfl (by decide) (by decide) (by decide)
theorem agr54 : Agr Tryz.prog 54 (.st 2 [.int .i64 0, .own 132 0 []] [(0, 1), (1, 1)]) := agr_st (us := [.int .i64 0, .slice none 0 0]) (by kernel_rfl) (zl_cons (zc_int .i64) ( zl_cons (zc_own 132) (zl_nil))) Tryz.underlying54 (by kernel_rfl) (by decide)
theorem agr55 : Agr Tryz.prog 55 (.sl 167 2 40 [.str [], .own 3 0 []]) := agr_sl (zv := .agg #[.string ⟨#[]⟩, .slice none 0 0]) (by kernel_rfl) (by kernel_rfl) (by kernel_rfl) (zl_cons (zc_str) ( zl_cons (zc_own 3) (zl_nil))) rfl (by decide) (by decide) (by decide)
theorem agr57 : Agr Tryz.prog 57 (.st 3 [.int .i64 0, .own 167 0 [], .own 3 0 []] [(0, 1), (1, 1), (2, 1)]) := agr_st (us := [.int .i64 0, .slice none 0 0, .slice none 0 0]) (by kernel_rfl) (zl_cons (zc_int .i64) ( zl_cons (zc_own 167) ( zl_cons (zc_own 3) (zl_nil)))) Tryz.underlying57 (by kernel_rfl) (by decide)
theorem agr59 : Agr Tryz.prog 59 (.st 6 [.int .i64 0, .own 3 0 [], .own 3 0 [], .int .i64 0, .own 167 0 [], .own 3 0 []] [(0, 1), (1, 1), (2, 1), (3, 3)]) := agr_st (us := [.int .i64 0, .slice none 0 0, .slice none 0 0, .int .i64 0, .slice none 0 0, .slice none 0 0]) (by kernel_rfl) (zl_cons (zc_int .i64) ( zl_cons (zc_own 3) ( zl_cons (zc_own 3) ( zl_cons (zc_int .i64) ( zl_cons (zc_own 167) ( zl_cons (zc_own 3) (zl_nil))))))) Tryz.underlying59 (by kernel_rfl) (by decide)
theorem agr75 : Agr Tryz.prog 75 (.sl 114 3 48 [.str [], .int .i64 0, .own 27 0 []]) := agr_sl (zv := .agg #[.string ⟨#[]⟩, .int .i64 0, .slice none 0 0]) (by kernel_rfl) (by kernel_rfl) (by kernel_rfl) (zl_cons (zc_str) ( zl_cons (zc_int .i64) ( zl_cons (zc_own 27) (zl_nil)))) rfl (by decide) (by decide) (by decide)
theorem agr77 : Agr Tryz.prog 77 (.st 1 [.own 114 0 []] [(0, 1)]) := agr_st (us := [.slice none 0 0]) (by kernel_rfl) (zl_cons (zc_own 114) (zl_nil)) Tryz.underlying77 (by kernel_rfl) (by decide)
theorem agr99 : Agr Tryz.prog 99 (.st 3 [.own 5 0 [], .int .i64 0, .int .i64 0] [(0, 1), (1, 1), (2, 1)]) := agr_st (us := [.slice none 0 0, .int .i64 0, .int .i64 0]) (by kernel_rfl) (zl_cons (zc_own 5) ( zl_cons (zc_int .i64) ( zl_cons (zc_int .i64) (zl_nil)))) Tryz.underlying99 (by kernel_rfl) (by decide)
theorem agr109 : Agr Tryz.prog 109 (.st 2 [.str [], .own 3 0 []] [(0, 1), (1, 1)]) := agr_st (us := [.string ⟨#[]⟩, .slice none 0 0]) (by kernel_rfl) (zl_cons (zc_str) ( zl_cons (zc_own 3) (zl_nil))) Tryz.underlying109 (by kernel_rfl) (by decide)
theorem agr114 : Agr Tryz.prog 114 (.st 3 [.str [], .int .i64 0, .own 27 0 []] [(0, 1), (1, 2)]) := agr_st (us := [.string ⟨#[]⟩, .int .i64 0, .slice none 0 0]) (by kernel_rfl) (zl_cons (zc_str) ( zl_cons (zc_int .i64) ( zl_cons (zc_own 27) (zl_nil)))) Tryz.underlying114 (by kernel_rfl) (by decide)
theorem agr121 : Agr Tryz.prog 121 (.sl 9 1 16 [.str []]) := agr_sl (zv := .string ⟨#[]⟩) (by kernel_rfl) (by kernel_rfl) (by kernel_rfl) (zl_cons (zc_str) (zl_nil)) rfl (by decide) (by decide) (by decide)
theorem agr130 : Agr Tryz.prog 130 (.sl 194 3 48 [.str [], .int .i64 0, .own 27 0 []]) := agr_sl (zv := .agg #[.string ⟨#[]⟩, .int .i64 0, .slice none 0 0]) (by kernel_rfl) (by kernel_rfl) (by kernel_rfl) (zl_cons (zc_str) ( zl_cons (zc_int .i64) ( zl_cons (zc_own 27) (zl_nil)))) rfl (by decide) (by decide) (by decide)
theorem agr132 : Agr Tryz.prog 132 (.st 1 [.own 194 0 []] [(0, 1)]) := agr_st (us := [.slice none 0 0]) (by kernel_rfl) (zl_cons (zc_own 194) (zl_nil)) Tryz.underlying132 (by kernel_rfl) (by decide)
theorem agr146 : Agr Tryz.prog 146 (.sl 179 2 32 [.int .i64 0, .own 27 0 []]) := agr_sl (zv := .agg #[.int .i64 0, .slice none 0 0]) (by kernel_rfl) (by kernel_rfl) (by kernel_rfl) (zl_cons (zc_int .i64) ( zl_cons (zc_own 27) (zl_nil))) rfl (by decide) (by decide) (by decide)
theorem agr167 : Agr Tryz.prog 167 (.st 2 [.str [], .own 3 0 []] [(0, 1), (1, 1)]) := agr_st (us := [.string ⟨#[]⟩, .slice none 0 0]) (by kernel_rfl) (zl_cons (zc_str) ( zl_cons (zc_own 3) (zl_nil))) Tryz.underlying167 (by kernel_rfl) (by decide)
theorem agr174 : Agr Tryz.prog 174 (.sc (.int .u64 0)) := agr_int .u64 (by kernel_rfl) (by kernel_rfl)
theorem agr179 : Agr Tryz.prog 179 (.st 2 [.int .i64 0, .own 27 0 []] [(0, 1), (1, 1)]) := agr_st (us := [.int .i64 0, .slice none 0 0]) (by kernel_rfl) (zl_cons (zc_int .i64) ( zl_cons (zc_own 27) (zl_nil))) Tryz.underlying179 (by kernel_rfl) (by decide)
theorem agr192 : Agr Tryz.prog 192 (.st 2 [.int .i64 0, .own 27 0 []] [(0, 1), (1, 1)]) := agr_st (us := [.int .i64 0, .slice none 0 0]) (by kernel_rfl) (zl_cons (zc_int .i64) ( zl_cons (zc_own 27) (zl_nil))) Tryz.underlying192 (by kernel_rfl) (by decide)
theorem agr194 : Agr Tryz.prog 194 (.st 3 [.str [], .int .i64 0, .own 27 0 []] [(0, 1), (1, 2)]) := agr_st (us := [.string ⟨#[]⟩, .int .i64 0, .slice none 0 0]) (by kernel_rfl) (zl_cons (zc_str) ( zl_cons (zc_int .i64) ( zl_cons (zc_own 27) (zl_nil)))) Tryz.underlying194 (by kernel_rfl) (by decide)
theorem agr208 : Agr Tryz.prog 208 (.sl 4 1 1 [.bool false]) := agr_sl (zv := .bool false) (by kernel_rfl) (by kernel_rfl) (by kernel_rfl) (zl_cons (zc_bool) (zl_nil)) rfl (by decide) (by decide) (by decide)
theorem agr222 : Agr Tryz.prog 222 (.sc (.int .u32 0)) := agr_int .u32 (by kernel_rfl) (by kernel_rfl)
def tb : Tb := fun t => match t with
  | 2 => some (.sc (.int .i64 0))
  | 3 => some (.sc (.int .i64 0))
  | 4 => some (.sc (.bool false))
  | 5 => some (.sc (.int .u8 0))
  | 9 => some (.sc (.str []))
  | 12 => some (.sc (.int .u64 0))
  | 21 => some (.sc (.int .i32 0))
  | 22 => some (.sl 5 1 1 [.int .u8 0])
  | 24 => some (.sl 77 1 24 [.own 114 0 []])
  | 26 => some (.st 2 [.int .i64 0, .own 77 0 []] [(0, 1), (1, 1)])
  | 27 => some (.sl 3 1 8 [.int .i64 0])
  | 28 => some (.sl 109 2 40 [.str [], .own 3 0 []])
  | 30 => some (.st 3 [.int .i64 0, .own 109 0 [], .own 3 0 []] [(0, 1), (1, 1), (2, 1)])
  | 32 => some (.st 6 [.int .i64 0, .own 3 0 [], .own 3 0 [], .int .i64 0, .own 109 0 [], .own 3 0 []] [(0, 1), (1, 1), (2, 1), (3, 3)])
  | 39 => some (.sl 27 1 24 [.own 3 0 []])
  | 41 => some (.st 2 [.int .i64 0, .own 27 0 []] [(0, 1), (1, 1)])
  | 43 => some (.st 5 [.str [], .int .i64 0, .own 27 0 [], .int .i64 0, .own 27 0 []] [(0, 1), (1, 2), (3, 2)])
  | 50 => some (.sl 32 6 112 [.int .i64 0, .own 3 0 [], .own 3 0 [], .int .i64 0, .own 109 0 [], .own 3 0 []])
  | 52 => some (.sl 132 1 24 [.own 194 0 []])
  | 54 => some (.st 2 [.int .i64 0, .own 132 0 []] [(0, 1), (1, 1)])
  | 55 => some (.sl 167 2 40 [.str [], .own 3 0 []])
  | 57 => some (.st 3 [.int .i64 0, .own 167 0 [], .own 3 0 []] [(0, 1), (1, 1), (2, 1)])
  | 59 => some (.st 6 [.int .i64 0, .own 3 0 [], .own 3 0 [], .int .i64 0, .own 167 0 [], .own 3 0 []] [(0, 1), (1, 1), (2, 1), (3, 3)])
  | 75 => some (.sl 114 3 48 [.str [], .int .i64 0, .own 27 0 []])
  | 77 => some (.st 1 [.own 114 0 []] [(0, 1)])
  | 99 => some (.st 3 [.own 5 0 [], .int .i64 0, .int .i64 0] [(0, 1), (1, 1), (2, 1)])
  | 109 => some (.st 2 [.str [], .own 3 0 []] [(0, 1), (1, 1)])
  | 114 => some (.st 3 [.str [], .int .i64 0, .own 27 0 []] [(0, 1), (1, 2)])
  | 121 => some (.sl 9 1 16 [.str []])
  | 130 => some (.sl 194 3 48 [.str [], .int .i64 0, .own 27 0 []])
  | 132 => some (.st 1 [.own 194 0 []] [(0, 1)])
  | 146 => some (.sl 179 2 32 [.int .i64 0, .own 27 0 []])
  | 167 => some (.st 2 [.str [], .own 3 0 []] [(0, 1), (1, 1)])
  | 174 => some (.sc (.int .u64 0))
  | 179 => some (.st 2 [.int .i64 0, .own 27 0 []] [(0, 1), (1, 1)])
  | 192 => some (.st 2 [.int .i64 0, .own 27 0 []] [(0, 1), (1, 1)])
  | 194 => some (.st 3 [.str [], .int .i64 0, .own 27 0 []] [(0, 1), (1, 2)])
  | 208 => some (.sl 4 1 1 [.bool false])
  | 222 => some (.sc (.int .u32 0))
  | _ => none
theorem tbOk : TbOk Tryz.prog tb := by
  intro t d h
  unfold tb at h
  split at h
  · injection h with h; subst h; exact agr2
  · injection h with h; subst h; exact agr3
  · injection h with h; subst h; exact agr4
  · injection h with h; subst h; exact agr5
  · injection h with h; subst h; exact agr9
  · injection h with h; subst h; exact agr12
  · injection h with h; subst h; exact agr21
  · injection h with h; subst h; exact agr22
  · injection h with h; subst h; exact agr24
  · injection h with h; subst h; exact agr26
  · injection h with h; subst h; exact agr27
  · injection h with h; subst h; exact agr28
  · injection h with h; subst h; exact agr30
  · injection h with h; subst h; exact agr32
  · injection h with h; subst h; exact agr39
  · injection h with h; subst h; exact agr41
  · injection h with h; subst h; exact agr43
  · injection h with h; subst h; exact agr50
  · injection h with h; subst h; exact agr52
  · injection h with h; subst h; exact agr54
  · injection h with h; subst h; exact agr55
  · injection h with h; subst h; exact agr57
  · injection h with h; subst h; exact agr59
  · injection h with h; subst h; exact agr75
  · injection h with h; subst h; exact agr77
  · injection h with h; subst h; exact agr99
  · injection h with h; subst h; exact agr109
  · injection h with h; subst h; exact agr114
  · injection h with h; subst h; exact agr121
  · injection h with h; subst h; exact agr130
  · injection h with h; subst h; exact agr132
  · injection h with h; subst h; exact agr146
  · injection h with h; subst h; exact agr167
  · injection h with h; subst h; exact agr174
  · injection h with h; subst h; exact agr179
  · injection h with h; subst h; exact agr192
  · injection h with h; subst h; exact agr194
  · injection h with h; subst h; exact agr208
  · injection h with h; subst h; exact agr222
  · cases h
theorem mixed : Tryz.prog.follows .mixedOrders = true := by kernel_rfl
abbrev LitF (f : Nat) (bx : List Nat) (base : List (Nat × Nat)) (cn : List (Nat × List Nat)) (fn : Func) : Prop := Lit Tryz.prog f fn.ntmps bx fn.results.toList (litK base cn (cdF fn))
section
variable {nt : Nat} {bx cns : List Nat} {Q : Exit → PS → Prop} {l l' y : LC} {L L' : PL} {σ : PS} {ops : List LO} {fps : List (List Nat × List Nat)} {es : List (List Nat)}
theorem rn (n : Nat) (h : runR tb n l L = some (l', L')) (k : LS Tryz.prog nt bx l' (ofL L') Q) : LS Tryz.prog nt bx l (ofL L) Q := runR_ok tbOk h k
theorem rs (h : evS Tryz.prog tb cns ops σ (fun σ' => LS Tryz.prog nt bx y σ' Q)) : LS Tryz.prog nt bx (.seq (.rgn cns ops) y) σ Q := ls_rs tbOk h
theorem rk (h : ∀ K : PS → Prop, (∀ σ', LS Tryz.prog nt bx y σ' Q → K σ') → evS Tryz.prog tb cns ops σ K) : LS Tryz.prog nt bx (.seq (.rgn cns ops) y) σ Q := ls_rs_k tbOk h
theorem rg (h : evS Tryz.prog tb cns ops σ (Q .normal)) : LS Tryz.prog nt bx (.rgn cns ops) σ Q := ls_rgn tbOk h
theorem rd (hD : (okD fps es ops && okF cns fps ops) = true) (h : evD Tryz.prog tb cns fps ops σ (fun σ' => LS Tryz.prog nt bx y σ' Q)) : LS Tryz.prog nt bx (.seq (.drw cns fps es ops) y) σ Q := ls_rd tbOk mixed hD h
theorem rdk (hD : (okD fps es ops && okF cns fps ops) = true) (h : ∀ K : PS → Prop, (∀ σ', LS Tryz.prog nt bx y σ' Q → K σ') → evD Tryz.prog tb cns fps ops σ K) : LS Tryz.prog nt bx (.seq (.drw cns fps es ops) y) σ Q := ls_rd_k tbOk mixed hD h
theorem rgd (hD : (okD fps es ops && okF cns fps ops) = true) (h : evD Tryz.prog tb cns fps ops σ (Q .normal)) : LS Tryz.prog nt bx (.drw cns fps es ops) σ Q := ls_drw tbOk mixed hD h
theorem st {f : Nat} {fn : Func} {base : List (Nat × Nat)} {cn : List (Nat × List Nat)} {args : List V} {r : V} (hl : LitF f bx base cn fn) (h0 : (Nat.ble args.length fn.ntmps && (args.all plainA && okR (iniL 0 args))) = true) (h : LS Tryz.prog fn.ntmps bx (litK base cn (cdF fn)) (ofL (iniL 0 args)) (retQ tb fn.results.toList r)) : SoundAt Tryz.prog f args r := by
  simp only [Bool.and_eq_true] at h0
  exact sound_lit tbOk hl (nb h0.1) h0.2.1 (qi args h0.2.2 h)
theorem rt (p : Nat) (hD : (okD fps es ops && (okF cns fps ops && okT p es ops)) = true) (h : evD Tryz.prog tb cns (fps.take p) (ops.take p) σ (fun σ' => Gh Tryz.prog nt bx σ' (fun σ2 => evS Tryz.prog tb cns (ops.drop p) σ2 (fun σ' => LS Tryz.prog nt bx y σ' Q)))) : LS Tryz.prog nt bx (.seq (.drw cns fps es ops) y) σ Q := ls_seq (ls_drt tbOk mixed p hD h)
end
end Go.Proofs.YtlknpohjnpnodaaGreat
