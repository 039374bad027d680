/-
 The pure machine's table of this program's types, printed by gentab.py, and that it is so. No conditions.
-/
import Derived.Test.YtceghmdneadhbaaGreatKb
import Derived.Test.YtceghmdneadhbaaGreatProg
namespace Go.Proofs.YtceghmdneadhbaaGreat
open Go.RowKit
set_option linter.unusedVariables false
set_option maxRecDepth 100000
theorem agr2 : Agr Tryz.prog 2 (.sc (.int .i64 0)) := agr_int .i64 (by kernel_rfl) (by kernel_rfl)
theorem agr3 : Agr Tryz.prog 3 (.sc (.int .i64 0)) := agr_int .i64 (by kernel_rfl) (by kernel_rfl)
theorem agr4 : Agr Tryz.prog 4 (.sc (.bool false)) := agr_bool (by kernel_rfl) (by kernel_rfl)
theorem agr5 : Agr Tryz.prog 5 (.sc (.int .u8 0)) := agr_int .u8 (by kernel_rfl) (by kernel_rfl)
theorem agr9 : Agr Tryz.prog 9 (.sc (.str [])) := agr_str (by kernel_rfl) (by kernel_rfl)
theorem agr12 : Agr Tryz.prog 12 (.sc (.int .u64 0)) := agr_int .u64 (by kernel_rfl) (by kernel_rfl)
theorem agr21 : Agr Tryz.prog 21 (.sc (.int .i32 0)) := agr_int .i32 (by kernel_rfl) (by kernel_rfl)
theorem agr22 : Agr Tryz.prog 22 (.sl 168 3 48 [.str [], .int .i64 0, .own 53 0 []]) := agr_sl (zv := .agg #[.string ⟨#[]⟩, .int .i64 0, .slice none 0 0]) (by kernel_rfl) (by kernel_rfl) (by kernel_rfl) (zl_cons (zc_str) ( zl_cons (zc_int .i64) ( zl_cons (zc_own 53) (zl_nil)))) rfl (by decide) (by decide) (by decide)
theorem agr24 : Agr Tryz.prog 24 (.st 1 [.own 168 0 []] [(0, 1)]) := agr_st (us := [.slice none 0 0]) (by kernel_rfl) (zl_cons (zc_own 168) (zl_nil)) Tryz.underlying24 (by kernel_rfl) (by decide)
theorem agr25 : Agr Tryz.prog 25 (.sl 117 6 112 [.int .i64 0, .own 161 0 [], .own 3 0 [], .int .i64 0, .own 53 0 [], .own 3 0 []]) := agr_sl (zv := .agg #[.int .i64 0, .slice none 0 0, .slice none 0 0, .int .i64 0, .slice none 0 0, .slice none 0 0]) (by kernel_rfl) (by kernel_rfl) (by kernel_rfl) (zl_cons (zc_int .i64) ( zl_cons (zc_own 161) ( zl_cons (zc_own 3) ( zl_cons (zc_int .i64) ( zl_cons (zc_own 53) ( zl_cons (zc_own 3) (zl_nil))))))) rfl (by decide) (by decide) (by decide)
theorem agr26 : Agr Tryz.prog 26 (.sl 115 3 56 [.int .i64 0, .own 53 0 [], .own 3 0 []]) := agr_sl (zv := .agg #[.int .i64 0, .slice none 0 0, .slice none 0 0]) (by kernel_rfl) (by kernel_rfl) (by kernel_rfl) (zl_cons (zc_int .i64) ( zl_cons (zc_own 53) ( zl_cons (zc_own 3) (zl_nil)))) rfl (by decide) (by decide) (by decide)
theorem agr28 : Agr Tryz.prog 28 (.st 3 [.own 168 0 [], .own 117 0 [], .own 115 0 []] [(0, 1), (1, 1), (2, 1)]) := agr_st (us := [.slice none 0 0, .slice none 0 0, .slice none 0 0]) (by kernel_rfl) (zl_cons (zc_own 168) ( zl_cons (zc_own 117) ( zl_cons (zc_own 115) (zl_nil)))) Tryz.underlying28 (by kernel_rfl) (by decide)
theorem agr31 : Agr Tryz.prog 31 (.sl 120 3 48 [.str [], .int .i64 0, .own 53 0 []]) := agr_sl (zv := .agg #[.string ⟨#[]⟩, .int .i64 0, .slice none 0 0]) (by kernel_rfl) (by kernel_rfl) (by kernel_rfl) (zl_cons (zc_str) ( zl_cons (zc_int .i64) ( zl_cons (zc_own 53) (zl_nil)))) rfl (by decide) (by decide) (by decide)
theorem agr33 : Agr Tryz.prog 33 (.st 1 [.own 120 0 []] [(0, 1)]) := agr_st (us := [.slice none 0 0]) (by kernel_rfl) (zl_cons (zc_own 120) (zl_nil)) Tryz.underlying33 (by kernel_rfl) (by decide)
theorem agr34 : Agr Tryz.prog 34 (.sl 78 6 112 [.int .i64 0, .own 148 0 [], .own 3 0 [], .int .i64 0, .own 53 0 [], .own 3 0 []]) := agr_sl (zv := .agg #[.int .i64 0, .slice none 0 0, .slice none 0 0, .int .i64 0, .slice none 0 0, .slice none 0 0]) (by kernel_rfl) (by kernel_rfl) (by kernel_rfl) (zl_cons (zc_int .i64) ( zl_cons (zc_own 148) ( zl_cons (zc_own 3) ( zl_cons (zc_int .i64) ( zl_cons (zc_own 53) ( zl_cons (zc_own 3) (zl_nil))))))) rfl (by decide) (by decide) (by decide)
theorem agr35 : Agr Tryz.prog 35 (.sl 76 3 56 [.int .i64 0, .own 53 0 [], .own 3 0 []]) := agr_sl (zv := .agg #[.int .i64 0, .slice none 0 0, .slice none 0 0]) (by kernel_rfl) (by kernel_rfl) (by kernel_rfl) (zl_cons (zc_int .i64) ( zl_cons (zc_own 53) ( zl_cons (zc_own 3) (zl_nil)))) rfl (by decide) (by decide) (by decide)
theorem agr37 : Agr Tryz.prog 37 (.st 3 [.own 120 0 [], .own 78 0 [], .own 76 0 []] [(0, 1), (1, 1), (2, 1)]) := agr_st (us := [.slice none 0 0, .slice none 0 0, .slice none 0 0]) (by kernel_rfl) (zl_cons (zc_own 120) ( zl_cons (zc_own 78) ( zl_cons (zc_own 76) (zl_nil)))) Tryz.underlying37 (by kernel_rfl) (by decide)
theorem agr41 : Agr Tryz.prog 41 (.sl 53 1 24 [.own 3 0 []]) := agr_sl (zv := .slice none 0 0) (by kernel_rfl) (by kernel_rfl) (by kernel_rfl) (zl_cons (zc_own 3) (zl_nil)) rfl (by decide) (by decide) (by decide)
theorem agr43 : Agr Tryz.prog 43 (.st 2 [.int .i64 0, .own 53 0 []] [(0, 1), (1, 1)]) := agr_st (us := [.int .i64 0, .slice none 0 0]) (by kernel_rfl) (zl_cons (zc_int .i64) ( zl_cons (zc_own 53) (zl_nil))) Tryz.underlying43 (by kernel_rfl) (by decide)
theorem agr50 : Agr Tryz.prog 50 (.sl 5 1 1 [.int .u8 0]) := agr_sl (zv := .int .u8 0) (by kernel_rfl) (by kernel_rfl) (by kernel_rfl) (zl_cons (zc_int .u8) (zl_nil)) rfl (by decide) (by decide) (by decide)
theorem agr52 : Agr Tryz.prog 52 (.sl 148 2 40 [.str [], .own 3 0 []]) := agr_sl (zv := .agg #[.string ⟨#[]⟩, .slice none 0 0]) (by kernel_rfl) (by kernel_rfl) (by kernel_rfl) (zl_cons (zc_str) ( zl_cons (zc_own 3) (zl_nil))) rfl (by decide) (by decide) (by decide)
theorem agr53 : Agr Tryz.prog 53 (.sl 3 1 8 [.int .i64 0]) := agr_sl (zv := .int .i64 0) (by kernel_rfl) (by kernel_rfl) (by kernel_rfl) (zl_cons (zc_int .i64) (zl_nil)) rfl (by decide) (by decide) (by decide)
theorem agr55 : Agr Tryz.prog 55 (.st 3 [.int .i64 0, .own 148 0 [], .own 3 0 []] [(0, 1), (1, 1), (2, 1)]) := agr_st (us := [.int .i64 0, .slice none 0 0, .slice none 0 0]) (by kernel_rfl) (zl_cons (zc_int .i64) ( zl_cons (zc_own 148) ( zl_cons (zc_own 3) (zl_nil)))) Tryz.underlying55 (by kernel_rfl) (by decide)
theorem agr62 : Agr Tryz.prog 62 (.sl 161 2 40 [.str [], .own 3 0 []]) := agr_sl (zv := .agg #[.string ⟨#[]⟩, .slice none 0 0]) (by kernel_rfl) (by kernel_rfl) (by kernel_rfl) (zl_cons (zc_str) ( zl_cons (zc_own 3) (zl_nil))) rfl (by decide) (by decide) (by decide)
theorem agr64 : Agr Tryz.prog 64 (.st 3 [.int .i64 0, .own 161 0 [], .own 3 0 []] [(0, 1), (1, 1), (2, 1)]) := agr_st (us := [.int .i64 0, .slice none 0 0, .slice none 0 0]) (by kernel_rfl) (zl_cons (zc_int .i64) ( zl_cons (zc_own 161) ( zl_cons (zc_own 3) (zl_nil)))) Tryz.underlying64 (by kernel_rfl) (by decide)
theorem agr76 : Agr Tryz.prog 76 (.st 3 [.int .i64 0, .own 53 0 [], .own 3 0 []] [(0, 1), (1, 1), (2, 1)]) := agr_st (us := [.int .i64 0, .slice none 0 0, .slice none 0 0]) (by kernel_rfl) (zl_cons (zc_int .i64) ( zl_cons (zc_own 53) ( zl_cons (zc_own 3) (zl_nil)))) Tryz.underlying76 (by kernel_rfl) (by decide)
theorem agr78 : Agr Tryz.prog 78 (.st 6 [.int .i64 0, .own 148 0 [], .own 3 0 [], .int .i64 0, .own 53 0 [], .own 3 0 []] [(0, 3), (3, 3)]) := agr_st (us := [.int .i64 0, .slice none 0 0, .slice none 0 0, .int .i64 0, .slice none 0 0, .slice none 0 0]) (by kernel_rfl) (zl_cons (zc_int .i64) ( zl_cons (zc_own 148) ( zl_cons (zc_own 3) ( zl_cons (zc_int .i64) ( zl_cons (zc_own 53) ( zl_cons (zc_own 3) (zl_nil))))))) Tryz.underlying78 (by kernel_rfl) (by decide)
theorem agr115 : Agr Tryz.prog 115 (.st 3 [.int .i64 0, .own 53 0 [], .own 3 0 []] [(0, 1), (1, 1), (2, 1)]) := agr_st (us := [.int .i64 0, .slice none 0 0, .slice none 0 0]) (by kernel_rfl) (zl_cons (zc_int .i64) ( zl_cons (zc_own 53) ( zl_cons (zc_own 3) (zl_nil)))) Tryz.underlying115 (by kernel_rfl) (by decide)
theorem agr117 : Agr Tryz.prog 117 (.st 6 [.int .i64 0, .own 161 0 [], .own 3 0 [], .int .i64 0, .own 53 0 [], .own 3 0 []] [(0, 3), (3, 3)]) := agr_st (us := [.int .i64 0, .slice none 0 0, .slice none 0 0, .int .i64 0, .slice none 0 0, .slice none 0 0]) (by kernel_rfl) (zl_cons (zc_int .i64) ( zl_cons (zc_own 161) ( zl_cons (zc_own 3) ( zl_cons (zc_int .i64) ( zl_cons (zc_own 53) ( zl_cons (zc_own 3) (zl_nil))))))) Tryz.underlying117 (by kernel_rfl) (by decide)
theorem agr120 : Agr Tryz.prog 120 (.st 3 [.str [], .int .i64 0, .own 53 0 []] [(0, 1), (1, 2)]) := agr_st (us := [.string ⟨#[]⟩, .int .i64 0, .slice none 0 0]) (by kernel_rfl) (zl_cons (zc_str) ( zl_cons (zc_int .i64) ( zl_cons (zc_own 53) (zl_nil)))) Tryz.underlying120 (by kernel_rfl) (by decide)
theorem agr133 : Agr Tryz.prog 133 (.st 3 [.own 5 0 [], .int .i64 0, .int .i64 0] [(0, 1), (1, 1), (2, 1)]) := agr_st (us := [.slice none 0 0, .int .i64 0, .int .i64 0]) (by kernel_rfl) (zl_cons (zc_own 5) ( zl_cons (zc_int .i64) ( zl_cons (zc_int .i64) (zl_nil)))) Tryz.underlying133 (by kernel_rfl) (by decide)
theorem agr140 : Agr Tryz.prog 140 (.st 5 [.str [], .int .i64 0, .own 53 0 [], .int .i64 0, .own 53 0 []] [(0, 1), (1, 2), (3, 2)]) := agr_st (us := [.string ⟨#[]⟩, .int .i64 0, .slice none 0 0, .int .i64 0, .slice none 0 0]) (by kernel_rfl) (zl_cons (zc_str) ( zl_cons (zc_int .i64) ( zl_cons (zc_own 53) ( zl_cons (zc_int .i64) ( zl_cons (zc_own 53) (zl_nil)))))) Tryz.underlying140 (by kernel_rfl) (by decide)
theorem agr146 : Agr Tryz.prog 146 (.sl 9 1 16 [.str []]) := agr_sl (zv := .string ⟨#[]⟩) (by kernel_rfl) (by kernel_rfl) (by kernel_rfl) (zl_cons (zc_str) (zl_nil)) rfl (by decide) (by decide) (by decide)
theorem agr148 : Agr Tryz.prog 148 (.st 2 [.str [], .own 3 0 []] [(0, 1), (1, 1)]) := agr_st (us := [.string ⟨#[]⟩, .slice none 0 0]) (by kernel_rfl) (zl_cons (zc_str) ( zl_cons (zc_own 3) (zl_nil))) Tryz.underlying148 (by kernel_rfl) (by decide)
theorem agr161 : Agr Tryz.prog 161 (.st 2 [.str [], .own 3 0 []] [(0, 1), (1, 1)]) := agr_st (us := [.string ⟨#[]⟩, .slice none 0 0]) (by kernel_rfl) (zl_cons (zc_str) ( zl_cons (zc_own 3) (zl_nil))) Tryz.underlying161 (by kernel_rfl) (by decide)
theorem agr166 : Agr Tryz.prog 166 (.st 2 [.int .i64 0, .own 53 0 []] [(0, 1), (1, 1)]) := agr_st (us := [.int .i64 0, .slice none 0 0]) (by kernel_rfl) (zl_cons (zc_int .i64) ( zl_cons (zc_own 53) (zl_nil))) Tryz.underlying166 (by kernel_rfl) (by decide)
theorem agr168 : Agr Tryz.prog 168 (.st 3 [.str [], .int .i64 0, .own 53 0 []] [(0, 1), (1, 2)]) := agr_st (us := [.string ⟨#[]⟩, .int .i64 0, .slice none 0 0]) (by kernel_rfl) (zl_cons (zc_str) ( zl_cons (zc_int .i64) ( zl_cons (zc_own 53) (zl_nil)))) Tryz.underlying168 (by kernel_rfl) (by decide)
theorem agr188 : Agr Tryz.prog 188 (.st 3 [.own 3 0 [], .int .i64 0, .own 53 0 []] [(0, 1), (1, 2)]) := agr_st (us := [.slice none 0 0, .int .i64 0, .slice none 0 0]) (by kernel_rfl) (zl_cons (zc_own 3) ( zl_cons (zc_int .i64) ( zl_cons (zc_own 53) (zl_nil)))) Tryz.underlying188 (by kernel_rfl) (by decide)
theorem agr200 : Agr Tryz.prog 200 (.sc (.int .u64 0)) := agr_int .u64 (by kernel_rfl) (by kernel_rfl)
theorem agr213 : Agr Tryz.prog 213 (.sl 4 1 1 [.bool false]) := agr_sl (zv := .bool false) (by kernel_rfl) (by kernel_rfl) (by kernel_rfl) (zl_cons (zc_bool) (zl_nil)) rfl (by decide) (by decide) (by decide)
theorem agr221 : Agr Tryz.prog 221 (.sc (.int .u32 0)) := agr_int .u32 (by kernel_rfl) (by kernel_rfl)
def tb : Tb := fun t => match t with
 | 2 => some (.sc (.int .i64 0))
 | 3 => some (.sc (.int .i64 0))
 | 4 => some (.sc (.bool false))
 | 5 => some (.sc (.int .u8 0))
 | 9 => some (.sc (.str []))
 | 12 => some (.sc (.int .u64 0))
 | 21 => some (.sc (.int .i32 0))
 | 22 => some (.sl 168 3 48 [.str [], .int .i64 0, .own 53 0 []])
 | 24 => some (.st 1 [.own 168 0 []] [(0, 1)])
 | 25 => some (.sl 117 6 112 [.int .i64 0, .own 161 0 [], .own 3 0 [], .int .i64 0, .own 53 0 [], .own 3 0 []])
 | 26 => some (.sl 115 3 56 [.int .i64 0, .own 53 0 [], .own 3 0 []])
 | 28 => some (.st 3 [.own 168 0 [], .own 117 0 [], .own 115 0 []] [(0, 1), (1, 1), (2, 1)])
 | 31 => some (.sl 120 3 48 [.str [], .int .i64 0, .own 53 0 []])
 | 33 => some (.st 1 [.own 120 0 []] [(0, 1)])
 | 34 => some (.sl 78 6 112 [.int .i64 0, .own 148 0 [], .own 3 0 [], .int .i64 0, .own 53 0 [], .own 3 0 []])
 | 35 => some (.sl 76 3 56 [.int .i64 0, .own 53 0 [], .own 3 0 []])
 | 37 => some (.st 3 [.own 120 0 [], .own 78 0 [], .own 76 0 []] [(0, 1), (1, 1), (2, 1)])
 | 41 => some (.sl 53 1 24 [.own 3 0 []])
 | 43 => some (.st 2 [.int .i64 0, .own 53 0 []] [(0, 1), (1, 1)])
 | 50 => some (.sl 5 1 1 [.int .u8 0])
 | 52 => some (.sl 148 2 40 [.str [], .own 3 0 []])
 | 53 => some (.sl 3 1 8 [.int .i64 0])
 | 55 => some (.st 3 [.int .i64 0, .own 148 0 [], .own 3 0 []] [(0, 1), (1, 1), (2, 1)])
 | 62 => some (.sl 161 2 40 [.str [], .own 3 0 []])
 | 64 => some (.st 3 [.int .i64 0, .own 161 0 [], .own 3 0 []] [(0, 1), (1, 1), (2, 1)])
 | 76 => some (.st 3 [.int .i64 0, .own 53 0 [], .own 3 0 []] [(0, 1), (1, 1), (2, 1)])
 | 78 => some (.st 6 [.int .i64 0, .own 148 0 [], .own 3 0 [], .int .i64 0, .own 53 0 [], .own 3 0 []] [(0, 3), (3, 3)])
 | 115 => some (.st 3 [.int .i64 0, .own 53 0 [], .own 3 0 []] [(0, 1), (1, 1), (2, 1)])
 | 117 => some (.st 6 [.int .i64 0, .own 161 0 [], .own 3 0 [], .int .i64 0, .own 53 0 [], .own 3 0 []] [(0, 3), (3, 3)])
 | 120 => some (.st 3 [.str [], .int .i64 0, .own 53 0 []] [(0, 1), (1, 2)])
 | 133 => some (.st 3 [.own 5 0 [], .int .i64 0, .int .i64 0] [(0, 1), (1, 1), (2, 1)])
 | 140 => some (.st 5 [.str [], .int .i64 0, .own 53 0 [], .int .i64 0, .own 53 0 []] [(0, 1), (1, 2), (3, 2)])
 | 146 => some (.sl 9 1 16 [.str []])
 | 148 => some (.st 2 [.str [], .own 3 0 []] [(0, 1), (1, 1)])
 | 161 => some (.st 2 [.str [], .own 3 0 []] [(0, 1), (1, 1)])
 | 166 => some (.st 2 [.int .i64 0, .own 53 0 []] [(0, 1), (1, 1)])
 | 168 => some (.st 3 [.str [], .int .i64 0, .own 53 0 []] [(0, 1), (1, 2)])
 | 188 => some (.st 3 [.own 3 0 [], .int .i64 0, .own 53 0 []] [(0, 1), (1, 2)])
 | 200 => some (.sc (.int .u64 0))
 | 213 => some (.sl 4 1 1 [.bool false])
 | 221 => some (.sc (.int .u32 0))
 | _ => none
theorem tbOk : TbOk Tryz.prog tb := by
 intro t d h
 unfold tb at h
 split at h
 ·injection h with h; subst h; exact agr2
 ·injection h with h; subst h; exact agr3
 ·injection h with h; subst h; exact agr4
 ·injection h with h; subst h; exact agr5
 ·injection h with h; subst h; exact agr9
 ·injection h with h; subst h; exact agr12
 ·injection h with h; subst h; exact agr21
 ·injection h with h; subst h; exact agr22
 ·injection h with h; subst h; exact agr24
 ·injection h with h; subst h; exact agr25
 ·injection h with h; subst h; exact agr26
 ·injection h with h; subst h; exact agr28
 ·injection h with h; subst h; exact agr31
 ·injection h with h; subst h; exact agr33
 ·injection h with h; subst h; exact agr34
 ·injection h with h; subst h; exact agr35
 ·injection h with h; subst h; exact agr37
 ·injection h with h; subst h; exact agr41
 ·injection h with h; subst h; exact agr43
 ·injection h with h; subst h; exact agr50
 ·injection h with h; subst h; exact agr52
 ·injection h with h; subst h; exact agr53
 ·injection h with h; subst h; exact agr55
 ·injection h with h; subst h; exact agr62
 ·injection h with h; subst h; exact agr64
 ·injection h with h; subst h; exact agr76
 ·injection h with h; subst h; exact agr78
 ·injection h with h; subst h; exact agr115
 ·injection h with h; subst h; exact agr117
 ·injection h with h; subst h; exact agr120
 ·injection h with h; subst h; exact agr133
 ·injection h with h; subst h; exact agr140
 ·injection h with h; subst h; exact agr146
 ·injection h with h; subst h; exact agr148
 ·injection h with h; subst h; exact agr161
 ·injection h with h; subst h; exact agr166
 ·injection h with h; subst h; exact agr168
 ·injection h with h; subst h; exact agr188
 ·injection h with h; subst h; exact agr200
 ·injection h with h; subst h; exact agr213
 ·injection h with h; subst h; exact agr221
 ·cases h
theorem mixed : Tryz.prog.follows .mixedOrders = true := by kernel_rfl
abbrev LitF (f : Nat) (bx : List Nat) (base : List (Nat × Nat)) (cn : List (Nat × List Nat)) (fn : Func) : Prop := Lit Tryz.prog f fn.ntmps bx fn.results.toList (litK base cn (cdF fn))
section
variable {nt : Nat} {bx cns : List Nat} {Q : Exit -> PS -> Prop} {l l' y : LC} {L L' : PL} {σ : PS} {ops : List LO} {fps : List (List Nat × List Nat)} {es : List (List Nat)}
theorem rn (n : Nat) (h : runR tb n l L = some (l', L')) (k : LS Tryz.prog nt bx l' (ofL L') Q) : LS Tryz.prog nt bx l (ofL L) Q := runR_ok tbOk h k
theorem rs (h : evS Tryz.prog tb cns ops σ (fun σ' => LS Tryz.prog nt bx y σ' Q)) : LS Tryz.prog nt bx (.seq (.rgn cns ops) y) σ Q := ls_rs tbOk h
theorem rsB {α : Type} (f : α -> List V) (l : List α) (e : TypeId) (es : Nat) {L : PL} {s d t : TypeId} {n : Nat} {ps : Array (Nat × Operand)} {ops' : List LO} (h : bsO tb L s n ps.toList = some (e, es, L, l.flatMap f)) (hn : l.length = n) (hf : ∀ x, (f x).length = es) (k : evS Tryz.prog tb cns ops' (ofL ((d, .own e l.length (l.flatMap f)) :: L)) (fun σ' => LS Tryz.prog nt bx y σ' Q)) : LS Tryz.prog nt bx (.seq (.rgn cns (⟨some d, .buildSlice s n ps, t, none⟩ :: ops')) y) (ofL L) Q := rs (qBk f l e es h hn hf k)
theorem rk (h : ∀ K : PS -> Prop, (∀ σ', LS Tryz.prog nt bx y σ' Q -> K σ') -> evS Tryz.prog tb cns ops σ K) : LS Tryz.prog nt bx (.seq (.rgn cns ops) y) σ Q := ls_rs_k tbOk h
theorem rg (h : evS Tryz.prog tb cns ops σ (Q .normal)) : LS Tryz.prog nt bx (.rgn cns ops) σ Q := ls_rgn tbOk h
theorem rd (hD : (okD fps es ops && okF cns fps ops) = true) (h : evD Tryz.prog tb cns fps ops σ (fun σ' => LS Tryz.prog nt bx y σ' Q)) : LS Tryz.prog nt bx (.seq (.drw cns fps es ops) y) σ Q := ls_rd tbOk mixed hD h
theorem rdk (hD : (okD fps es ops && okF cns fps ops) = true) (h : ∀ K : PS -> Prop, (∀ σ', LS Tryz.prog nt bx y σ' Q -> K σ') -> evD Tryz.prog tb cns fps ops σ K) : LS Tryz.prog nt bx (.seq (.drw cns fps es ops) y) σ Q := ls_rd_k tbOk mixed hD h
theorem rgd (hD : (okD fps es ops && okF cns fps ops) = true) (h : evD Tryz.prog tb cns fps ops σ (Q .normal)) : LS Tryz.prog nt bx (.drw cns fps es ops) σ Q := ls_drw tbOk mixed hD h
theorem st {f : Nat} {fn : Func} {base : List (Nat × Nat)} {cn : List (Nat × List Nat)} {args : List V} {r : V} (hl : LitF f bx base cn fn) (h0 : (Nat.ble args.length fn.ntmps && (args.all plainA && okR (iniL 0 args))) = true) (h : LS Tryz.prog fn.ntmps bx (litK base cn (cdF fn)) (ofL (iniL 0 args)) (retQ tb fn.results.toList r)) : SoundAt Tryz.prog f args r := by
 simp only [Bool.and_eq_true] at h0
 exact sound_lit tbOk hl (nb h0.1) h0.2.1 (qi args h0.2.2 h)
theorem rt (p : Nat) (hD : (okD fps es ops && (okF cns fps ops && okT p es ops)) = true) (h : evD Tryz.prog tb cns (fps.take p) (ops.take p) σ (fun σ' => Gh Tryz.prog nt bx σ' (fun σ2 => evS Tryz.prog tb cns (ops.drop p) σ2 (fun σ' => LS Tryz.prog nt bx y σ' Q)))) : LS Tryz.prog nt bx (.seq (.drw cns fps es ops) y) σ Q := ls_seq (ls_drt tbOk mixed p hD h)
theorem rgt (p : Nat) (hD : (okD fps es ops && (okF cns fps ops && okT p es ops)) = true) (h : evD Tryz.prog tb cns (fps.take p) (ops.take p) σ (fun σ' => Gh Tryz.prog nt bx σ' (fun σ2 => evS Tryz.prog tb cns (ops.drop p) σ2 (Q .normal)))) : LS Tryz.prog nt bx (.drw cns fps es ops) σ Q := ls_drt tbOk mixed p hD h
theorem stp {f : Nat} {fn : Func} {base : List (Nat × Nat)} {cn : List (Nat × List Nat)} {cs args cs' : List V} {r : V} (hl : LitF f bx base cn fn) (h0 : (Nat.ble (args.length + 1) fn.ntmps && ((bx.contains 0 && bx.contains keep0) && (args.all plainA && (!(fn.results.toList.map rvSlot).contains 0 && (cs'.all plainC && okR (iniL 0 (.box cs :: args))))))) = true) (h : LS Tryz.prog fn.ntmps bx (litK base cn (cdF fn)) (ofL (iniL 0 (.box cs :: args))) (retP tb fn.results.toList r cs')) : PtrAt Tryz.prog f cs args cs' r := by
 simp only [Bool.and_eq_true, Bool.not_eq_true'] at h0
 exact ptr_lit tbOk hl (nb h0.1) (by rw [Bool.and_eq_true]; exact h0.2.1) h0.2.2.1 h0.2.2.2.1 h0.2.2.2.2.1 (qi _ h0.2.2.2.2.2 h)
theorem stpo {f : Nat} {fn : Func} {base : List (Nat × Nat)} {cn : List (Nat × List Nat)} {cs args args' cs' : List V} (hl : LitF f bx base cn fn) (hr : fn.results.toList = []) (h0 : (Nat.ble (args.length + 1) fn.ntmps && ((bx.contains 0 && bx.contains keep0) && okR (iniL 0 (.box cs :: args')))) = true) (ha : args.all argAbleA = true) (he : args.map argV = args') (hd : deepL cs = true) (hd' : deepL cs' = true) (h : LS Tryz.prog fn.ntmps bx (litK base cn (cdF fn)) (ofL (iniL 0 (.box cs :: args'))) (retP tb fn.results.toList (.tup []) cs')) : PtrO Tryz.prog f cs args cs' := by
 subst he
 rw [Bool.and_eq_true, Bool.and_eq_true] at h0
 exact ptr_litO tbOk hl (nb h0.1) h0.2.1 ha hr hd hd' (qi _ h0.2.2 h)
theorem stn {f t : Nat} {fn : Func} {base : List (Nat × Nat)} {cn : List (Nat × List Nat)} {args cs : List V} (hl : LitF f bx base cn fn) (hr : fn.results.toList = [.tmp t]) (h0 : (Nat.ble args.length fn.ntmps && (args.all plainA && (cs.all plainC && okR (iniL 0 args)))) = true) (h : LS Tryz.prog fn.ntmps bx (litK base cn (cdF fn)) (ofL (iniL 0 args)) (retN t cs)) : NewAt Tryz.prog f args cs := by
 rw [Bool.and_eq_true, Bool.and_eq_true, Bool.and_eq_true] at h0
 unfold LitF at hl
 rw [hr] at hl
 exact new_lit hl (nb h0.1) h0.2.1 h0.2.2.1 (qi args h0.2.2.2 h)
theorem sta {f : Nat} {fn : Func} {base : List (Nat × Nat)} {cn : List (Nat × List Nat)} {args args' : List V} {r : V} (hl : LitF f bx base cn fn) (h0 : (Nat.ble args.length fn.ntmps && okR (iniL 0 args')) = true) (ha : args.all argAbleA = true) (he : args.map argV = args') (hr : deepT r = true) (h : LS Tryz.prog fn.ntmps bx (litK base cn (cdF fn)) (ofL (iniL 0 args')) (retQ tb fn.results.toList r)) : SoundAt Tryz.prog f args r := by
 subst he
 simp only [Bool.and_eq_true] at h0
 exact sound_litA tbOk hl (nb h0.1) ha hr (qi _ h0.2 h)
end
end Go.Proofs.YtceghmdneadhbaaGreat
