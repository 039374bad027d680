/-
  The pure machine's table of this program's types, printed by gentab.py, and that it is so. No conditions.
-/
import Derived.Test.YtcoalfphehhadaaKb
import Derived.Test.YtcoalfphehhadaaProg
namespace Go.Proofs.Ytcoalfphehhadaa
open Go.RowKit
set_option linter.unusedVariables false
set_option maxRecDepth 100000
theorem agr2 : Agr Try.prog 2 (.sc (.int .i64 0)) := agr_int .i64 (by kernel_rfl) (by kernel_rfl)
theorem agr3 : Agr Try.prog 3 (.sc (.int .i64 0)) := agr_int .i64 (by kernel_rfl) (by kernel_rfl)
theorem agr4 : Agr Try.prog 4 (.sc (.bool false)) := agr_bool (by kernel_rfl) (by kernel_rfl)
theorem agr5 : Agr Try.prog 5 (.sc (.int .u8 0)) := agr_int .u8 (by kernel_rfl) (by kernel_rfl)
theorem agr9 : Agr Try.prog 9 (.sc (.str [])) := agr_str (by kernel_rfl) (by kernel_rfl)
theorem agr12 : Agr Try.prog 12 (.sc (.int .u64 0)) := agr_int .u64 (by kernel_rfl) (by kernel_rfl)
theorem agr21 : Agr Try.prog 21 (.sc (.int .i32 0)) := agr_int .i32 (by kernel_rfl) (by kernel_rfl)
theorem agr22 : Agr Try.prog 22 (.sl 5 1 1 [.int .u8 0]) := agr_sl (zv := .int .u8 0) (by kernel_rfl) (by kernel_rfl) (by kernel_rfl) (zl_cons (zc_int .u8) (zl_nil)) rfl (by decide) (by decide) (by decide)
theorem agr24 : Agr Try.prog 24 (.sl 39 1 24 [.own 83 0 []]) := agr_sl (zv := .agg #[.slice none 0 0]) (by kernel_rfl) (by kernel_rfl) (by kernel_rfl) (zl_cons (zc_own 83) (zl_nil)) rfl (by decide) (by decide) (by decide)
theorem agr26 : Agr Try.prog 26 (.st 2 [.int .i64 0, .own 39 0 []] [(0, 1), (1, 1)]) := agr_st (us := [.int .i64 0, .slice none 0 0]) (by kernel_rfl) (zl_cons (zc_int .i64) ( zl_cons (zc_own 39) (zl_nil))) Try.underlying26 (by kernel_rfl) (by decide)
theorem agr27 : Agr Try.prog 27 (.sl 60 1 24 [.own 3 0 []]) := agr_sl (zv := .slice none 0 0) (by kernel_rfl) (by kernel_rfl) (by kernel_rfl) (zl_cons (zc_own 3) (zl_nil)) rfl (by decide) (by decide) (by decide)
theorem agr29 : Agr Try.prog 29 (.st 2 [.int .i64 0, .own 60 0 []] [(0, 1), (1, 1)]) := agr_st (us := [.int .i64 0, .slice none 0 0]) (by kernel_rfl) (zl_cons (zc_int .i64) ( zl_cons (zc_own 60) (zl_nil))) Try.underlying29 (by kernel_rfl) (by decide)
theorem agr31 : Agr Try.prog 31 (.st 5 [.str [], .int .i64 0, .own 60 0 [], .int .i64 0, .own 60 0 []] [(0, 1), (1, 2), (3, 2)]) := agr_st (us := [.string ⟨#[]⟩, .int .i64 0, .slice none 0 0, .int .i64 0, .slice none 0 0]) (by kernel_rfl) (zl_cons (zc_str) ( zl_cons (zc_int .i64) ( zl_cons (zc_own 60) ( zl_cons (zc_int .i64) ( zl_cons (zc_own 60) (zl_nil)))))) Try.underlying31 (by kernel_rfl) (by decide)
theorem agr37 : Agr Try.prog 37 (.sl 83 3 48 [.str [], .int .i64 0, .own 60 0 []]) := agr_sl (zv := .agg #[.string ⟨#[]⟩, .int .i64 0, .slice none 0 0]) (by kernel_rfl) (by kernel_rfl) (by kernel_rfl) (zl_cons (zc_str) ( zl_cons (zc_int .i64) ( zl_cons (zc_own 60) (zl_nil)))) rfl (by decide) (by decide) (by decide)
theorem agr39 : Agr Try.prog 39 (.st 1 [.own 83 0 []] [(0, 1)]) := agr_st (us := [.slice none 0 0]) (by kernel_rfl) (zl_cons (zc_own 83) (zl_nil)) Try.underlying39 (by kernel_rfl) (by decide)
theorem agr45 : Agr Try.prog 45 (.sl 147 1 24 [.own 184 0 []]) := agr_sl (zv := .agg #[.slice none 0 0]) (by kernel_rfl) (by kernel_rfl) (by kernel_rfl) (zl_cons (zc_own 184) (zl_nil)) rfl (by decide) (by decide) (by decide)
theorem agr47 : Agr Try.prog 47 (.st 2 [.int .i64 0, .own 147 0 []] [(0, 1), (1, 1)]) := agr_st (us := [.int .i64 0, .slice none 0 0]) (by kernel_rfl) (zl_cons (zc_int .i64) ( zl_cons (zc_own 147) (zl_nil))) Try.underlying47 (by kernel_rfl) (by decide)
theorem agr48 : Agr Try.prog 48 (.sl 98 6 112 [.int .i64 0, .own 3 0 [], .own 3 0 [], .int .i64 0, .own 186 0 [], .own 3 0 []]) := agr_sl (zv := .agg #[.int .i64 0, .slice none 0 0, .slice none 0 0, .int .i64 0, .slice none 0 0, .slice none 0 0]) (by kernel_rfl) (by kernel_rfl) (by kernel_rfl) (zl_cons (zc_int .i64) ( zl_cons (zc_own 3) ( zl_cons (zc_own 3) ( zl_cons (zc_int .i64) ( zl_cons (zc_own 186) ( zl_cons (zc_own 3) (zl_nil))))))) rfl (by decide) (by decide) (by decide)
theorem agr53 : Agr Try.prog 53 (.sl 100 6 112 [.int .i64 0, .own 3 0 [], .own 3 0 [], .int .i64 0, .own 124 0 [], .own 3 0 []]) := agr_sl (zv := .agg #[.int .i64 0, .slice none 0 0, .slice none 0 0, .int .i64 0, .slice none 0 0, .slice none 0 0]) (by kernel_rfl) (by kernel_rfl) (by kernel_rfl) (zl_cons (zc_int .i64) ( zl_cons (zc_own 3) ( zl_cons (zc_own 3) ( zl_cons (zc_int .i64) ( zl_cons (zc_own 124) ( zl_cons (zc_own 3) (zl_nil))))))) rfl (by decide) (by decide) (by decide)
theorem agr59 : Agr Try.prog 59 (.sl 124 2 40 [.str [], .own 3 0 []]) := agr_sl (zv := .agg #[.string ⟨#[]⟩, .slice none 0 0]) (by kernel_rfl) (by kernel_rfl) (by kernel_rfl) (zl_cons (zc_str) ( zl_cons (zc_own 3) (zl_nil))) rfl (by decide) (by decide) (by decide)
theorem agr60 : Agr Try.prog 60 (.sl 3 1 8 [.int .i64 0]) := agr_sl (zv := .int .i64 0) (by kernel_rfl) (by kernel_rfl) (by kernel_rfl) (zl_cons (zc_int .i64) (zl_nil)) rfl (by decide) (by decide) (by decide)
theorem agr62 : Agr Try.prog 62 (.st 3 [.int .i64 0, .own 124 0 [], .own 3 0 []] [(0, 1), (1, 1), (2, 1)]) := agr_st (us := [.int .i64 0, .slice none 0 0, .slice none 0 0]) (by kernel_rfl) (zl_cons (zc_int .i64) ( zl_cons (zc_own 124) ( zl_cons (zc_own 3) (zl_nil)))) Try.underlying62 (by kernel_rfl) (by decide)
theorem agr63 : Agr Try.prog 63 (.sl 115 3 48 [.str [], .own 3 0 [], .int .i64 0]) := agr_sl (zv := .agg #[.string ⟨#[]⟩, .slice none 0 0, .int .i64 0]) (by kernel_rfl) (by kernel_rfl) (by kernel_rfl) (zl_cons (zc_str) ( zl_cons (zc_own 3) ( zl_cons (zc_int .i64) (zl_nil)))) rfl (by decide) (by decide) (by decide)
theorem agr83 : Agr Try.prog 83 (.st 3 [.str [], .int .i64 0, .own 60 0 []] [(0, 1), (1, 2)]) := agr_st (us := [.string ⟨#[]⟩, .int .i64 0, .slice none 0 0]) (by kernel_rfl) (zl_cons (zc_str) ( zl_cons (zc_int .i64) ( zl_cons (zc_own 60) (zl_nil)))) Try.underlying83 (by kernel_rfl) (by decide)
theorem agr94 : Agr Try.prog 94 (.sl 186 2 40 [.str [], .own 3 0 []]) := agr_sl (zv := .agg #[.string ⟨#[]⟩, .slice none 0 0]) (by kernel_rfl) (by kernel_rfl) (by kernel_rfl) (zl_cons (zc_str) ( zl_cons (zc_own 3) (zl_nil))) rfl (by decide) (by decide) (by decide)
theorem agr96 : Agr Try.prog 96 (.st 3 [.int .i64 0, .own 186 0 [], .own 3 0 []] [(0, 1), (1, 1), (2, 1)]) := agr_st (us := [.int .i64 0, .slice none 0 0, .slice none 0 0]) (by kernel_rfl) (zl_cons (zc_int .i64) ( zl_cons (zc_own 186) ( zl_cons (zc_own 3) (zl_nil)))) Try.underlying96 (by kernel_rfl) (by decide)
theorem agr98 : Agr Try.prog 98 (.st 6 [.int .i64 0, .own 3 0 [], .own 3 0 [], .int .i64 0, .own 186 0 [], .own 3 0 []] [(0, 1), (1, 1), (2, 1), (3, 3)]) := agr_st (us := [.int .i64 0, .slice none 0 0, .slice none 0 0, .int .i64 0, .slice none 0 0, .slice none 0 0]) (by kernel_rfl) (zl_cons (zc_int .i64) ( zl_cons (zc_own 3) ( zl_cons (zc_own 3) ( zl_cons (zc_int .i64) ( zl_cons (zc_own 186) ( zl_cons (zc_own 3) (zl_nil))))))) Try.underlying98 (by kernel_rfl) (by decide)
theorem agr100 : Agr Try.prog 100 (.st 6 [.int .i64 0, .own 3 0 [], .own 3 0 [], .int .i64 0, .own 124 0 [], .own 3 0 []] [(0, 1), (1, 1), (2, 1), (3, 3)]) := agr_st (us := [.int .i64 0, .slice none 0 0, .slice none 0 0, .int .i64 0, .slice none 0 0, .slice none 0 0]) (by kernel_rfl) (zl_cons (zc_int .i64) ( zl_cons (zc_own 3) ( zl_cons (zc_own 3) ( zl_cons (zc_int .i64) ( zl_cons (zc_own 124) ( zl_cons (zc_own 3) (zl_nil))))))) Try.underlying100 (by kernel_rfl) (by decide)
theorem agr113 : Agr Try.prog 113 (.sc (.int .u64 0)) := agr_int .u64 (by kernel_rfl) (by kernel_rfl)
theorem agr115 : Agr Try.prog 115 (.st 3 [.str [], .own 3 0 [], .int .i64 0] [(0, 1), (1, 1), (2, 1)]) := agr_st (us := [.string ⟨#[]⟩, .slice none 0 0, .int .i64 0]) (by kernel_rfl) (zl_cons (zc_str) ( zl_cons (zc_own 3) ( zl_cons (zc_int .i64) (zl_nil)))) Try.underlying115 (by kernel_rfl) (by decide)
theorem agr124 : Agr Try.prog 124 (.st 2 [.str [], .own 3 0 []] [(0, 1), (1, 1)]) := agr_st (us := [.string ⟨#[]⟩, .slice none 0 0]) (by kernel_rfl) (zl_cons (zc_str) ( zl_cons (zc_own 3) (zl_nil))) Try.underlying124 (by kernel_rfl) (by decide)
theorem agr131 : Agr Try.prog 131 (.st 3 [.own 5 0 [], .int .i64 0, .int .i64 0] [(0, 1), (1, 1), (2, 1)]) := agr_st (us := [.slice none 0 0, .int .i64 0, .int .i64 0]) (by kernel_rfl) (zl_cons (zc_own 5) ( zl_cons (zc_int .i64) ( zl_cons (zc_int .i64) (zl_nil)))) Try.underlying131 (by kernel_rfl) (by decide)
theorem agr136 : Agr Try.prog 136 (.sl 9 1 16 [.str []]) := agr_sl (zv := .string ⟨#[]⟩) (by kernel_rfl) (by kernel_rfl) (by kernel_rfl) (zl_cons (zc_str) (zl_nil)) rfl (by decide) (by decide) (by decide)
theorem agr145 : Agr Try.prog 145 (.sl 184 3 48 [.str [], .int .i64 0, .own 60 0 []]) := agr_sl (zv := .agg #[.string ⟨#[]⟩, .int .i64 0, .slice none 0 0]) (by kernel_rfl) (by kernel_rfl) (by kernel_rfl) (zl_cons (zc_str) ( zl_cons (zc_int .i64) ( zl_cons (zc_own 60) (zl_nil)))) rfl (by decide) (by decide) (by decide)
theorem agr147 : Agr Try.prog 147 (.st 1 [.own 184 0 []] [(0, 1)]) := agr_st (us := [.slice none 0 0]) (by kernel_rfl) (zl_cons (zc_own 184) (zl_nil)) Try.underlying147 (by kernel_rfl) (by decide)
theorem agr157 : Agr Try.prog 157 (.sl 4 1 1 [.bool false]) := agr_sl (zv := .bool false) (by kernel_rfl) (by kernel_rfl) (by kernel_rfl) (zl_cons (zc_bool) (zl_nil)) rfl (by decide) (by decide) (by decide)
theorem agr182 : Agr Try.prog 182 (.st 2 [.int .i64 0, .own 60 0 []] [(0, 1), (1, 1)]) := agr_st (us := [.int .i64 0, .slice none 0 0]) (by kernel_rfl) (zl_cons (zc_int .i64) ( zl_cons (zc_own 60) (zl_nil))) Try.underlying182 (by kernel_rfl) (by decide)
theorem agr184 : Agr Try.prog 184 (.st 3 [.str [], .int .i64 0, .own 60 0 []] [(0, 1), (1, 2)]) := agr_st (us := [.string ⟨#[]⟩, .int .i64 0, .slice none 0 0]) (by kernel_rfl) (zl_cons (zc_str) ( zl_cons (zc_int .i64) ( zl_cons (zc_own 60) (zl_nil)))) Try.underlying184 (by kernel_rfl) (by decide)
theorem agr186 : Agr Try.prog 186 (.st 2 [.str [], .own 3 0 []] [(0, 1), (1, 1)]) := agr_st (us := [.string ⟨#[]⟩, .slice none 0 0]) (by kernel_rfl) (zl_cons (zc_str) ( zl_cons (zc_own 3) (zl_nil))) Try.underlying186 (by kernel_rfl) (by decide)
theorem agr203 : Agr Try.prog 203 (.sc (.int .u32 0)) := agr_int .u32 (by kernel_rfl) (by kernel_rfl)
def tb : Tb := fun t => match t with
  | 2 => some (.sc (.int .i64 0))
  | 3 => some (.sc (.int .i64 0))
  | 4 => some (.sc (.bool false))
  | 5 => some (.sc (.int .u8 0))
  | 9 => some (.sc (.str []))
  | 12 => some (.sc (.int .u64 0))
  | 21 => some (.sc (.int .i32 0))
  | 22 => some (.sl 5 1 1 [.int .u8 0])
  | 24 => some (.sl 39 1 24 [.own 83 0 []])
  | 26 => some (.st 2 [.int .i64 0, .own 39 0 []] [(0, 1), (1, 1)])
  | 27 => some (.sl 60 1 24 [.own 3 0 []])
  | 29 => some (.st 2 [.int .i64 0, .own 60 0 []] [(0, 1), (1, 1)])
  | 31 => some (.st 5 [.str [], .int .i64 0, .own 60 0 [], .int .i64 0, .own 60 0 []] [(0, 1), (1, 2), (3, 2)])
  | 37 => some (.sl 83 3 48 [.str [], .int .i64 0, .own 60 0 []])
  | 39 => some (.st 1 [.own 83 0 []] [(0, 1)])
  | 45 => some (.sl 147 1 24 [.own 184 0 []])
  | 47 => some (.st 2 [.int .i64 0, .own 147 0 []] [(0, 1), (1, 1)])
  | 48 => some (.sl 98 6 112 [.int .i64 0, .own 3 0 [], .own 3 0 [], .int .i64 0, .own 186 0 [], .own 3 0 []])
  | 53 => some (.sl 100 6 112 [.int .i64 0, .own 3 0 [], .own 3 0 [], .int .i64 0, .own 124 0 [], .own 3 0 []])
  | 59 => some (.sl 124 2 40 [.str [], .own 3 0 []])
  | 60 => some (.sl 3 1 8 [.int .i64 0])
  | 62 => some (.st 3 [.int .i64 0, .own 124 0 [], .own 3 0 []] [(0, 1), (1, 1), (2, 1)])
  | 63 => some (.sl 115 3 48 [.str [], .own 3 0 [], .int .i64 0])
  | 83 => some (.st 3 [.str [], .int .i64 0, .own 60 0 []] [(0, 1), (1, 2)])
  | 94 => some (.sl 186 2 40 [.str [], .own 3 0 []])
  | 96 => some (.st 3 [.int .i64 0, .own 186 0 [], .own 3 0 []] [(0, 1), (1, 1), (2, 1)])
  | 98 => some (.st 6 [.int .i64 0, .own 3 0 [], .own 3 0 [], .int .i64 0, .own 186 0 [], .own 3 0 []] [(0, 1), (1, 1), (2, 1), (3, 3)])
  | 100 => some (.st 6 [.int .i64 0, .own 3 0 [], .own 3 0 [], .int .i64 0, .own 124 0 [], .own 3 0 []] [(0, 1), (1, 1), (2, 1), (3, 3)])
  | 113 => some (.sc (.int .u64 0))
  | 115 => some (.st 3 [.str [], .own 3 0 [], .int .i64 0] [(0, 1), (1, 1), (2, 1)])
  | 124 => some (.st 2 [.str [], .own 3 0 []] [(0, 1), (1, 1)])
  | 131 => some (.st 3 [.own 5 0 [], .int .i64 0, .int .i64 0] [(0, 1), (1, 1), (2, 1)])
  | 136 => some (.sl 9 1 16 [.str []])
  | 145 => some (.sl 184 3 48 [.str [], .int .i64 0, .own 60 0 []])
  | 147 => some (.st 1 [.own 184 0 []] [(0, 1)])
  | 157 => some (.sl 4 1 1 [.bool false])
  | 182 => some (.st 2 [.int .i64 0, .own 60 0 []] [(0, 1), (1, 1)])
  | 184 => some (.st 3 [.str [], .int .i64 0, .own 60 0 []] [(0, 1), (1, 2)])
  | 186 => some (.st 2 [.str [], .own 3 0 []] [(0, 1), (1, 1)])
  | 203 => some (.sc (.int .u32 0))
  | _ => none
theorem tbOk : TbOk Try.prog tb := by
  intro t d h
  unfold tb at h
  split at h
  · injection h with h; subst h; exact agr2
  · injection h with h; subst h; exact agr3
  · injection h with h; subst h; exact agr4
  · injection h with h; subst h; exact agr5
  · injection h with h; subst h; exact agr9
  · injection h with h; subst h; exact agr12
  · injection h with h; subst h; exact agr21
  · injection h with h; subst h; exact agr22
  · injection h with h; subst h; exact agr24
  · injection h with h; subst h; exact agr26
  · injection h with h; subst h; exact agr27
  · injection h with h; subst h; exact agr29
  · injection h with h; subst h; exact agr31
  · injection h with h; subst h; exact agr37
  · injection h with h; subst h; exact agr39
  · injection h with h; subst h; exact agr45
  · injection h with h; subst h; exact agr47
  · injection h with h; subst h; exact agr48
  · injection h with h; subst h; exact agr53
  · injection h with h; subst h; exact agr59
  · injection h with h; subst h; exact agr60
  · injection h with h; subst h; exact agr62
  · injection h with h; subst h; exact agr63
  · injection h with h; subst h; exact agr83
  · injection h with h; subst h; exact agr94
  · injection h with h; subst h; exact agr96
  · injection h with h; subst h; exact agr98
  · injection h with h; subst h; exact agr100
  · injection h with h; subst h; exact agr113
  · injection h with h; subst h; exact agr115
  · injection h with h; subst h; exact agr124
  · injection h with h; subst h; exact agr131
  · injection h with h; subst h; exact agr136
  · injection h with h; subst h; exact agr145
  · injection h with h; subst h; exact agr147
  · injection h with h; subst h; exact agr157
  · injection h with h; subst h; exact agr182
  · injection h with h; subst h; exact agr184
  · injection h with h; subst h; exact agr186
  · injection h with h; subst h; exact agr203
  · cases h
theorem mixed : Try.prog.follows .mixedOrders = true := by kernel_rfl
abbrev LitF (f : Nat) (bx : List Nat) (base : List (Nat × Nat)) (cn : List (Nat × List Nat)) (fn : Func) : Prop := Lit Try.prog f fn.ntmps bx fn.results.toList (litK base cn (cdF fn))
section
variable {nt : Nat} {bx cns : List Nat} {Q : Exit → PS → Prop} {l l' y : LC} {L L' : PL} {σ : PS} {ops : List LO} {fps : List (List Nat × List Nat)} {es : List (List Nat)}
theorem rn (n : Nat) (h : runR tb n l L = some (l', L')) (k : LS Try.prog nt bx l' (ofL L') Q) : LS Try.prog nt bx l (ofL L) Q := runR_ok tbOk h k
theorem rs (h : evS Try.prog tb cns ops σ (fun σ' => LS Try.prog nt bx y σ' Q)) : LS Try.prog nt bx (.seq (.rgn cns ops) y) σ Q := ls_rs tbOk h
theorem rsB {α : Type} (f : α → List V) (l : List α) (e : TypeId) (es : Nat) {L : PL} {s d t : TypeId} {n : Nat} {ps : Array (Nat × Operand)} {ops' : List LO} (h : bsO tb L s n ps.toList = some (e, es, L, l.flatMap f)) (hn : l.length = n) (hf : ∀ x, (f x).length = es) (k : evS Try.prog tb cns ops' (ofL ((d, .own e l.length (l.flatMap f)) :: L)) (fun σ' => LS Try.prog nt bx y σ' Q)) : LS Try.prog nt bx (.seq (.rgn cns (⟨some d, .buildSlice s n ps, t, none⟩ :: ops')) y) (ofL L) Q := rs (qBk f l e es h hn hf k)
theorem rk (h : ∀ K : PS → Prop, (∀ σ', LS Try.prog nt bx y σ' Q → K σ') → evS Try.prog tb cns ops σ K) : LS Try.prog nt bx (.seq (.rgn cns ops) y) σ Q := ls_rs_k tbOk h
theorem rg (h : evS Try.prog tb cns ops σ (Q .normal)) : LS Try.prog nt bx (.rgn cns ops) σ Q := ls_rgn tbOk h
theorem rd (hD : (okD fps es ops && okF cns fps ops) = true) (h : evD Try.prog tb cns fps ops σ (fun σ' => LS Try.prog nt bx y σ' Q)) : LS Try.prog nt bx (.seq (.drw cns fps es ops) y) σ Q := ls_rd tbOk mixed hD h
theorem rdk (hD : (okD fps es ops && okF cns fps ops) = true) (h : ∀ K : PS → Prop, (∀ σ', LS Try.prog nt bx y σ' Q → K σ') → evD Try.prog tb cns fps ops σ K) : LS Try.prog nt bx (.seq (.drw cns fps es ops) y) σ Q := ls_rd_k tbOk mixed hD h
theorem rgd (hD : (okD fps es ops && okF cns fps ops) = true) (h : evD Try.prog tb cns fps ops σ (Q .normal)) : LS Try.prog nt bx (.drw cns fps es ops) σ Q := ls_drw tbOk mixed hD h
theorem st {f : Nat} {fn : Func} {base : List (Nat × Nat)} {cn : List (Nat × List Nat)} {args : List V} {r : V} (hl : LitF f bx base cn fn) (h0 : (Nat.ble args.length fn.ntmps && (args.all plainA && okR (iniL 0 args))) = true) (h : LS Try.prog fn.ntmps bx (litK base cn (cdF fn)) (ofL (iniL 0 args)) (retQ tb fn.results.toList r)) : SoundAt Try.prog f args r := by
  simp only [Bool.and_eq_true] at h0
  exact sound_lit tbOk hl (nb h0.1) h0.2.1 (qi args h0.2.2 h)
theorem rt (p : Nat) (hD : (okD fps es ops && (okF cns fps ops && okT p es ops)) = true) (h : evD Try.prog tb cns (fps.take p) (ops.take p) σ (fun σ' => Gh Try.prog nt bx σ' (fun σ2 => evS Try.prog tb cns (ops.drop p) σ2 (fun σ' => LS Try.prog nt bx y σ' Q)))) : LS Try.prog nt bx (.seq (.drw cns fps es ops) y) σ Q := ls_seq (ls_drt tbOk mixed p hD h)
theorem rgt (p : Nat) (hD : (okD fps es ops && (okF cns fps ops && okT p es ops)) = true) (h : evD Try.prog tb cns (fps.take p) (ops.take p) σ (fun σ' => Gh Try.prog nt bx σ' (fun σ2 => evS Try.prog tb cns (ops.drop p) σ2 (Q .normal)))) : LS Try.prog nt bx (.drw cns fps es ops) σ Q := ls_drt tbOk mixed p hD h
theorem stp {f : Nat} {fn : Func} {base : List (Nat × Nat)} {cn : List (Nat × List Nat)} {cs args cs' : List V} {r : V} (hl : LitF f bx base cn fn) (h0 : (Nat.ble (args.length + 1) fn.ntmps && ((bx.contains 0 && bx.contains keep0) && (args.all plainA && (!(fn.results.toList.map rvSlot).contains 0 && (cs'.all plainC && okR (iniL 0 (.box cs :: args))))))) = true) (h : LS Try.prog fn.ntmps bx (litK base cn (cdF fn)) (ofL (iniL 0 (.box cs :: args))) (retP tb fn.results.toList r cs')) : PtrAt Try.prog f cs args cs' r := by
  simp only [Bool.and_eq_true, Bool.not_eq_true'] at h0
  exact ptr_lit tbOk hl (nb h0.1) (by rw [Bool.and_eq_true]; exact h0.2.1) h0.2.2.1 h0.2.2.2.1 h0.2.2.2.2.1 (qi _ h0.2.2.2.2.2 h)
theorem stn {f t : Nat} {fn : Func} {base : List (Nat × Nat)} {cn : List (Nat × List Nat)} {args cs : List V} (hl : LitF f bx base cn fn) (hr : fn.results.toList = [.tmp t]) (h0 : (Nat.ble args.length fn.ntmps && (args.all plainA && (cs.all plainC && okR (iniL 0 args)))) = true) (h : LS Try.prog fn.ntmps bx (litK base cn (cdF fn)) (ofL (iniL 0 args)) (retN t cs)) : NewAt Try.prog f args cs := by
  rw [Bool.and_eq_true, Bool.and_eq_true, Bool.and_eq_true] at h0
  unfold LitF at hl
  rw [hr] at hl
  exact new_lit hl (nb h0.1) h0.2.1 h0.2.2.1 (qi args h0.2.2.2 h)
theorem sta {f : Nat} {fn : Func} {base : List (Nat × Nat)} {cn : List (Nat × List Nat)} {args args' : List V} {r : V} (hl : LitF f bx base cn fn) (h0 : (Nat.ble args.length fn.ntmps && okR (iniL 0 args')) = true) (ha : args.all argAbleA = true) (he : args.map argV = args') (hr : deepT r = true) (h : LS Try.prog fn.ntmps bx (litK base cn (cdF fn)) (ofL (iniL 0 args')) (retQ tb fn.results.toList r)) : SoundAt Try.prog f args r := by
  subst he
  simp only [Bool.and_eq_true] at h0
  exact sound_litA tbOk hl (nb h0.1) ha hr (qi _ h0.2 h)
end
end Go.Proofs.Ytcoalfphehhadaa
