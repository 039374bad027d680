/-
  The pure machine's table of this program's types, printed by gentab.py, and that it is so. No conditions.
-/
import Derived.Test.YtmjhiencoapldaaGreatKb
import Derived.Test.YtmjhiencoapldaaGreatProg
namespace Go.Proofs.YtmjhiencoapldaaGreat
open Go.RowKit
set_option linter.unusedVariables false
set_option maxRecDepth 100000
theorem agr2 : Agr Tryz.prog 2 (.sc (.int .i64 0)) := agr_int .i64 (by kernel_rfl) (by kernel_rfl)
theorem agr3 : Agr Tryz.prog 3 (.sc (.int .i64 0)) := agr_int .i64 (by kernel_rfl) (by kernel_rfl)
theorem agr4 : Agr Tryz.prog 4 (.sc (.bool false)) := agr_bool (by kernel_rfl) (by kernel_rfl)
theorem agr5 : Agr Tryz.prog 5 (.sc (.int .u8 0)) := agr_int .u8 (by kernel_rfl) (by kernel_rfl)
theorem agr9 : Agr Tryz.prog 9 (.sc (.str [])) := agr_str (by kernel_rfl) (by kernel_rfl)
theorem agr12 : Agr Tryz.prog 12 (.sc (.int .u64 0)) := agr_int .u64 (by kernel_rfl) (by kernel_rfl)
theorem agr21 : Agr Tryz.prog 21 (.sc (.int .i32 0)) := agr_int .i32 (by kernel_rfl) (by kernel_rfl)
theorem agr22 : Agr Tryz.prog 22 (.sl 5 1 1 [.int .u8 0]) := agr_sl (zv := .int .u8 0) (by kernel_rfl) (by kernel_rfl) (by kernel_rfl) (zl_cons (zc_int .u8) (zl_nil)) rfl (by decide) (by decide) (by decide)
theorem agr24 : Agr Tryz.prog 24 (.sl 109 3 48 [.str [], .int .i64 0, .own 28 0 []]) := agr_sl (zv := .agg #[.string ⟨#[]⟩, .int .i64 0, .slice none 0 0]) (by kernel_rfl) (by kernel_rfl) (by kernel_rfl) (zl_cons (zc_str) ( zl_cons (zc_int .i64) ( zl_cons (zc_own 28) (zl_nil)))) rfl (by decide) (by decide) (by decide)
theorem agr26 : Agr Tryz.prog 26 (.st 1 [.own 109 0 []] [(0, 1)]) := agr_st (us := [.slice none 0 0]) (by kernel_rfl) (zl_cons (zc_own 109) (zl_nil)) Tryz.underlying26 (by kernel_rfl) (by decide)
theorem agr27 : Agr Tryz.prog 27 (.sl 96 2 40 [.str [], .own 3 0 []]) := agr_sl (zv := .agg #[.string ⟨#[]⟩, .slice none 0 0]) (by kernel_rfl) (by kernel_rfl) (by kernel_rfl) (zl_cons (zc_str) ( zl_cons (zc_own 3) (zl_nil))) rfl (by decide) (by decide) (by decide)
theorem agr28 : Agr Tryz.prog 28 (.sl 3 1 8 [.int .i64 0]) := agr_sl (zv := .int .i64 0) (by kernel_rfl) (by kernel_rfl) (by kernel_rfl) (zl_cons (zc_int .i64) (zl_nil)) rfl (by decide) (by decide) (by decide)
theorem agr30 : Agr Tryz.prog 30 (.st 3 [.int .i64 0, .own 96 0 [], .own 3 0 []] [(0, 1), (1, 1), (2, 1)]) := agr_st (us := [.int .i64 0, .slice none 0 0, .slice none 0 0]) (by kernel_rfl) (zl_cons (zc_int .i64) ( zl_cons (zc_own 96) ( zl_cons (zc_own 3) (zl_nil)))) Tryz.underlying30 (by kernel_rfl) (by decide)
theorem agr36 : Agr Tryz.prog 36 (.sl 28 1 24 [.own 3 0 []]) := agr_sl (zv := .slice none 0 0) (by kernel_rfl) (by kernel_rfl) (by kernel_rfl) (zl_cons (zc_own 3) (zl_nil)) rfl (by decide) (by decide) (by decide)
theorem agr38 : Agr Tryz.prog 38 (.st 2 [.int .i64 0, .own 28 0 []] [(0, 1), (1, 1)]) := agr_st (us := [.int .i64 0, .slice none 0 0]) (by kernel_rfl) (zl_cons (zc_int .i64) ( zl_cons (zc_own 28) (zl_nil))) Tryz.underlying38 (by kernel_rfl) (by decide)
theorem agr42 : Agr Tryz.prog 42 (.sl 220 3 48 [.str [], .int .i64 0, .own 28 0 []]) := agr_sl (zv := .agg #[.string ⟨#[]⟩, .int .i64 0, .slice none 0 0]) (by kernel_rfl) (by kernel_rfl) (by kernel_rfl) (zl_cons (zc_str) ( zl_cons (zc_int .i64) ( zl_cons (zc_own 28) (zl_nil)))) rfl (by decide) (by decide) (by decide)
theorem agr44 : Agr Tryz.prog 44 (.st 1 [.own 220 0 []] [(0, 1)]) := agr_st (us := [.slice none 0 0]) (by kernel_rfl) (zl_cons (zc_own 220) (zl_nil)) Tryz.underlying44 (by kernel_rfl) (by decide)
theorem agr45 : Agr Tryz.prog 45 (.sl 178 6 112 [.int .i64 0, .own 262 0 [], .own 3 0 [], .int .i64 0, .own 28 0 [], .own 3 0 []]) := agr_sl (zv := .agg #[.int .i64 0, .slice none 0 0, .slice none 0 0, .int .i64 0, .slice none 0 0, .slice none 0 0]) (by kernel_rfl) (by kernel_rfl) (by kernel_rfl) (zl_cons (zc_int .i64) ( zl_cons (zc_own 262) ( zl_cons (zc_own 3) ( zl_cons (zc_int .i64) ( zl_cons (zc_own 28) ( zl_cons (zc_own 3) (zl_nil))))))) rfl (by decide) (by decide) (by decide)
theorem agr46 : Agr Tryz.prog 46 (.sl 176 3 56 [.int .i64 0, .own 28 0 [], .own 3 0 []]) := agr_sl (zv := .agg #[.int .i64 0, .slice none 0 0, .slice none 0 0]) (by kernel_rfl) (by kernel_rfl) (by kernel_rfl) (zl_cons (zc_int .i64) ( zl_cons (zc_own 28) ( zl_cons (zc_own 3) (zl_nil)))) rfl (by decide) (by decide) (by decide)
theorem agr48 : Agr Tryz.prog 48 (.st 3 [.own 220 0 [], .own 178 0 [], .own 176 0 []] [(0, 1), (1, 1), (2, 1)]) := agr_st (us := [.slice none 0 0, .slice none 0 0, .slice none 0 0]) (by kernel_rfl) (zl_cons (zc_own 220) ( zl_cons (zc_own 178) ( zl_cons (zc_own 176) (zl_nil)))) Tryz.underlying48 (by kernel_rfl) (by decide)
theorem agr51 : Agr Tryz.prog 51 (.sl 118 6 112 [.int .i64 0, .own 96 0 [], .own 3 0 [], .int .i64 0, .own 28 0 [], .own 3 0 []]) := agr_sl (zv := .agg #[.int .i64 0, .slice none 0 0, .slice none 0 0, .int .i64 0, .slice none 0 0, .slice none 0 0]) (by kernel_rfl) (by kernel_rfl) (by kernel_rfl) (zl_cons (zc_int .i64) ( zl_cons (zc_own 96) ( zl_cons (zc_own 3) ( zl_cons (zc_int .i64) ( zl_cons (zc_own 28) ( zl_cons (zc_own 3) (zl_nil))))))) rfl (by decide) (by decide) (by decide)
theorem agr52 : Agr Tryz.prog 52 (.sl 116 3 56 [.int .i64 0, .own 28 0 [], .own 3 0 []]) := agr_sl (zv := .agg #[.int .i64 0, .slice none 0 0, .slice none 0 0]) (by kernel_rfl) (by kernel_rfl) (by kernel_rfl) (zl_cons (zc_int .i64) ( zl_cons (zc_own 28) ( zl_cons (zc_own 3) (zl_nil)))) rfl (by decide) (by decide) (by decide)
theorem agr54 : Agr Tryz.prog 54 (.st 3 [.own 109 0 [], .own 118 0 [], .own 116 0 []] [(0, 1), (1, 1), (2, 1)]) := agr_st (us := [.slice none 0 0, .slice none 0 0, .slice none 0 0]) (by kernel_rfl) (zl_cons (zc_own 109) ( zl_cons (zc_own 118) ( zl_cons (zc_own 116) (zl_nil)))) Tryz.underlying54 (by kernel_rfl) (by decide)
theorem agr58 : Agr Tryz.prog 58 (.sl 26 1 24 [.own 109 0 []]) := agr_sl (zv := .agg #[.slice none 0 0]) (by kernel_rfl) (by kernel_rfl) (by kernel_rfl) (zl_cons (zc_own 109) (zl_nil)) rfl (by decide) (by decide) (by decide)
theorem agr60 : Agr Tryz.prog 60 (.st 2 [.int .i64 0, .own 26 0 []] [(0, 1), (1, 1)]) := agr_st (us := [.int .i64 0, .slice none 0 0]) (by kernel_rfl) (zl_cons (zc_int .i64) ( zl_cons (zc_own 26) (zl_nil))) Tryz.underlying60 (by kernel_rfl) (by decide)
theorem agr61 : Agr Tryz.prog 61 (.sl 70 6 112 [.int .i64 0, .own 3 0 [], .own 3 0 [], .int .i64 0, .own 96 0 [], .own 3 0 []]) := agr_sl (zv := .agg #[.int .i64 0, .slice none 0 0, .slice none 0 0, .int .i64 0, .slice none 0 0, .slice none 0 0]) (by kernel_rfl) (by kernel_rfl) (by kernel_rfl) (zl_cons (zc_int .i64) ( zl_cons (zc_own 3) ( zl_cons (zc_own 3) ( zl_cons (zc_int .i64) ( zl_cons (zc_own 96) ( zl_cons (zc_own 3) (zl_nil))))))) rfl (by decide) (by decide) (by decide)
theorem agr70 : Agr Tryz.prog 70 (.st 6 [.int .i64 0, .own 3 0 [], .own 3 0 [], .int .i64 0, .own 96 0 [], .own 3 0 []] [(0, 1), (1, 1), (2, 1), (3, 3)]) := agr_st (us := [.int .i64 0, .slice none 0 0, .slice none 0 0, .int .i64 0, .slice none 0 0, .slice none 0 0]) (by kernel_rfl) (zl_cons (zc_int .i64) ( zl_cons (zc_own 3) ( zl_cons (zc_own 3) ( zl_cons (zc_int .i64) ( zl_cons (zc_own 96) ( zl_cons (zc_own 3) (zl_nil))))))) Tryz.underlying70 (by kernel_rfl) (by decide)
theorem agr89 : Agr Tryz.prog 89 (.sl 97 2 32 [.int .i64 0, .own 28 0 []]) := agr_sl (zv := .agg #[.int .i64 0, .slice none 0 0]) (by kernel_rfl) (by kernel_rfl) (by kernel_rfl) (zl_cons (zc_int .i64) ( zl_cons (zc_own 28) (zl_nil))) rfl (by decide) (by decide) (by decide)
theorem agr96 : Agr Tryz.prog 96 (.st 2 [.str [], .own 3 0 []] [(0, 1), (1, 1)]) := agr_st (us := [.string ⟨#[]⟩, .slice none 0 0]) (by kernel_rfl) (zl_cons (zc_str) ( zl_cons (zc_own 3) (zl_nil))) Tryz.underlying96 (by kernel_rfl) (by decide)
theorem agr97 : Agr Tryz.prog 97 (.st 2 [.int .i64 0, .own 28 0 []] [(0, 1), (1, 1)]) := agr_st (us := [.int .i64 0, .slice none 0 0]) (by kernel_rfl) (zl_cons (zc_int .i64) ( zl_cons (zc_own 28) (zl_nil))) Tryz.underlying97 (by kernel_rfl) (by decide)
theorem agr109 : Agr Tryz.prog 109 (.st 3 [.str [], .int .i64 0, .own 28 0 []] [(0, 1), (1, 2)]) := agr_st (us := [.string ⟨#[]⟩, .int .i64 0, .slice none 0 0]) (by kernel_rfl) (zl_cons (zc_str) ( zl_cons (zc_int .i64) ( zl_cons (zc_own 28) (zl_nil)))) Tryz.underlying109 (by kernel_rfl) (by decide)
theorem agr116 : Agr Tryz.prog 116 (.st 3 [.int .i64 0, .own 28 0 [], .own 3 0 []] [(0, 1), (1, 1), (2, 1)]) := agr_st (us := [.int .i64 0, .slice none 0 0, .slice none 0 0]) (by kernel_rfl) (zl_cons (zc_int .i64) ( zl_cons (zc_own 28) ( zl_cons (zc_own 3) (zl_nil)))) Tryz.underlying116 (by kernel_rfl) (by decide)
theorem agr118 : Agr Tryz.prog 118 (.st 6 [.int .i64 0, .own 96 0 [], .own 3 0 [], .int .i64 0, .own 28 0 [], .own 3 0 []] [(0, 3), (3, 3)]) := agr_st (us := [.int .i64 0, .slice none 0 0, .slice none 0 0, .int .i64 0, .slice none 0 0, .slice none 0 0]) (by kernel_rfl) (zl_cons (zc_int .i64) ( zl_cons (zc_own 96) ( zl_cons (zc_own 3) ( zl_cons (zc_int .i64) ( zl_cons (zc_own 28) ( zl_cons (zc_own 3) (zl_nil))))))) Tryz.underlying118 (by kernel_rfl) (by decide)
theorem agr161 : Agr Tryz.prog 161 (.sl 9 1 16 [.str []]) := agr_sl (zv := .string ⟨#[]⟩) (by kernel_rfl) (by kernel_rfl) (by kernel_rfl) (zl_cons (zc_str) (zl_nil)) rfl (by decide) (by decide) (by decide)
theorem agr164 : Agr Tryz.prog 164 (.st 3 [.own 5 0 [], .int .i64 0, .int .i64 0] [(0, 1), (1, 1), (2, 1)]) := agr_st (us := [.slice none 0 0, .int .i64 0, .int .i64 0]) (by kernel_rfl) (zl_cons (zc_own 5) ( zl_cons (zc_int .i64) ( zl_cons (zc_int .i64) (zl_nil)))) Tryz.underlying164 (by kernel_rfl) (by decide)
theorem agr173 : Agr Tryz.prog 173 (.sl 262 2 40 [.str [], .own 3 0 []]) := agr_sl (zv := .agg #[.string ⟨#[]⟩, .slice none 0 0]) (by kernel_rfl) (by kernel_rfl) (by kernel_rfl) (zl_cons (zc_str) ( zl_cons (zc_own 3) (zl_nil))) rfl (by decide) (by decide) (by decide)
theorem agr175 : Agr Tryz.prog 175 (.st 3 [.int .i64 0, .own 262 0 [], .own 3 0 []] [(0, 1), (1, 1), (2, 1)]) := agr_st (us := [.int .i64 0, .slice none 0 0, .slice none 0 0]) (by kernel_rfl) (zl_cons (zc_int .i64) ( zl_cons (zc_own 262) ( zl_cons (zc_own 3) (zl_nil)))) Tryz.underlying175 (by kernel_rfl) (by decide)
theorem agr176 : Agr Tryz.prog 176 (.st 3 [.int .i64 0, .own 28 0 [], .own 3 0 []] [(0, 1), (1, 1), (2, 1)]) := agr_st (us := [.int .i64 0, .slice none 0 0, .slice none 0 0]) (by kernel_rfl) (zl_cons (zc_int .i64) ( zl_cons (zc_own 28) ( zl_cons (zc_own 3) (zl_nil)))) Tryz.underlying176 (by kernel_rfl) (by decide)
theorem agr178 : Agr Tryz.prog 178 (.st 6 [.int .i64 0, .own 262 0 [], .own 3 0 [], .int .i64 0, .own 28 0 [], .own 3 0 []] [(0, 3), (3, 3)]) := agr_st (us := [.int .i64 0, .slice none 0 0, .slice none 0 0, .int .i64 0, .slice none 0 0, .slice none 0 0]) (by kernel_rfl) (zl_cons (zc_int .i64) ( zl_cons (zc_own 262) ( zl_cons (zc_own 3) ( zl_cons (zc_int .i64) ( zl_cons (zc_own 28) ( zl_cons (zc_own 3) (zl_nil))))))) Tryz.underlying178 (by kernel_rfl) (by decide)
theorem agr190 : Agr Tryz.prog 190 (.st 5 [.str [], .int .i64 0, .own 28 0 [], .int .i64 0, .own 28 0 []] [(0, 1), (1, 2), (3, 2)]) := agr_st (us := [.string ⟨#[]⟩, .int .i64 0, .slice none 0 0, .int .i64 0, .slice none 0 0]) (by kernel_rfl) (zl_cons (zc_str) ( zl_cons (zc_int .i64) ( zl_cons (zc_own 28) ( zl_cons (zc_int .i64) ( zl_cons (zc_own 28) (zl_nil)))))) Tryz.underlying190 (by kernel_rfl) (by decide)
theorem agr211 : Agr Tryz.prog 211 (.sl 4 1 1 [.bool false]) := agr_sl (zv := .bool false) (by kernel_rfl) (by kernel_rfl) (by kernel_rfl) (zl_cons (zc_bool) (zl_nil)) rfl (by decide) (by decide) (by decide)
theorem agr218 : Agr Tryz.prog 218 (.st 2 [.int .i64 0, .own 28 0 []] [(0, 1), (1, 1)]) := agr_st (us := [.int .i64 0, .slice none 0 0]) (by kernel_rfl) (zl_cons (zc_int .i64) ( zl_cons (zc_own 28) (zl_nil))) Tryz.underlying218 (by kernel_rfl) (by decide)
theorem agr220 : Agr Tryz.prog 220 (.st 3 [.str [], .int .i64 0, .own 28 0 []] [(0, 1), (1, 2)]) := agr_st (us := [.string ⟨#[]⟩, .int .i64 0, .slice none 0 0]) (by kernel_rfl) (zl_cons (zc_str) ( zl_cons (zc_int .i64) ( zl_cons (zc_own 28) (zl_nil)))) Tryz.underlying220 (by kernel_rfl) (by decide)
theorem agr225 : Agr Tryz.prog 225 (.sc (.int .u64 0)) := agr_int .u64 (by kernel_rfl) (by kernel_rfl)
theorem agr241 : Agr Tryz.prog 241 (.st 3 [.own 3 0 [], .int .i64 0, .own 28 0 []] [(0, 1), (1, 2)]) := agr_st (us := [.slice none 0 0, .int .i64 0, .slice none 0 0]) (by kernel_rfl) (zl_cons (zc_own 3) ( zl_cons (zc_int .i64) ( zl_cons (zc_own 28) (zl_nil)))) Tryz.underlying241 (by kernel_rfl) (by decide)
theorem agr262 : Agr Tryz.prog 262 (.st 2 [.str [], .own 3 0 []] [(0, 1), (1, 1)]) := agr_st (us := [.string ⟨#[]⟩, .slice none 0 0]) (by kernel_rfl) (zl_cons (zc_str) ( zl_cons (zc_own 3) (zl_nil))) Tryz.underlying262 (by kernel_rfl) (by decide)
theorem agr284 : Agr Tryz.prog 284 (.sc (.int .u32 0)) := agr_int .u32 (by kernel_rfl) (by kernel_rfl)
def tb : Tb := fun t => match t with
  | 2 => some (.sc (.int .i64 0))
  | 3 => some (.sc (.int .i64 0))
  | 4 => some (.sc (.bool false))
  | 5 => some (.sc (.int .u8 0))
  | 9 => some (.sc (.str []))
  | 12 => some (.sc (.int .u64 0))
  | 21 => some (.sc (.int .i32 0))
  | 22 => some (.sl 5 1 1 [.int .u8 0])
  | 24 => some (.sl 109 3 48 [.str [], .int .i64 0, .own 28 0 []])
  | 26 => some (.st 1 [.own 109 0 []] [(0, 1)])
  | 27 => some (.sl 96 2 40 [.str [], .own 3 0 []])
  | 28 => some (.sl 3 1 8 [.int .i64 0])
  | 30 => some (.st 3 [.int .i64 0, .own 96 0 [], .own 3 0 []] [(0, 1), (1, 1), (2, 1)])
  | 36 => some (.sl 28 1 24 [.own 3 0 []])
  | 38 => some (.st 2 [.int .i64 0, .own 28 0 []] [(0, 1), (1, 1)])
  | 42 => some (.sl 220 3 48 [.str [], .int .i64 0, .own 28 0 []])
  | 44 => some (.st 1 [.own 220 0 []] [(0, 1)])
  | 45 => some (.sl 178 6 112 [.int .i64 0, .own 262 0 [], .own 3 0 [], .int .i64 0, .own 28 0 [], .own 3 0 []])
  | 46 => some (.sl 176 3 56 [.int .i64 0, .own 28 0 [], .own 3 0 []])
  | 48 => some (.st 3 [.own 220 0 [], .own 178 0 [], .own 176 0 []] [(0, 1), (1, 1), (2, 1)])
  | 51 => some (.sl 118 6 112 [.int .i64 0, .own 96 0 [], .own 3 0 [], .int .i64 0, .own 28 0 [], .own 3 0 []])
  | 52 => some (.sl 116 3 56 [.int .i64 0, .own 28 0 [], .own 3 0 []])
  | 54 => some (.st 3 [.own 109 0 [], .own 118 0 [], .own 116 0 []] [(0, 1), (1, 1), (2, 1)])
  | 58 => some (.sl 26 1 24 [.own 109 0 []])
  | 60 => some (.st 2 [.int .i64 0, .own 26 0 []] [(0, 1), (1, 1)])
  | 61 => some (.sl 70 6 112 [.int .i64 0, .own 3 0 [], .own 3 0 [], .int .i64 0, .own 96 0 [], .own 3 0 []])
  | 70 => some (.st 6 [.int .i64 0, .own 3 0 [], .own 3 0 [], .int .i64 0, .own 96 0 [], .own 3 0 []] [(0, 1), (1, 1), (2, 1), (3, 3)])
  | 89 => some (.sl 97 2 32 [.int .i64 0, .own 28 0 []])
  | 96 => some (.st 2 [.str [], .own 3 0 []] [(0, 1), (1, 1)])
  | 97 => some (.st 2 [.int .i64 0, .own 28 0 []] [(0, 1), (1, 1)])
  | 109 => some (.st 3 [.str [], .int .i64 0, .own 28 0 []] [(0, 1), (1, 2)])
  | 116 => some (.st 3 [.int .i64 0, .own 28 0 [], .own 3 0 []] [(0, 1), (1, 1), (2, 1)])
  | 118 => some (.st 6 [.int .i64 0, .own 96 0 [], .own 3 0 [], .int .i64 0, .own 28 0 [], .own 3 0 []] [(0, 3), (3, 3)])
  | 161 => some (.sl 9 1 16 [.str []])
  | 164 => some (.st 3 [.own 5 0 [], .int .i64 0, .int .i64 0] [(0, 1), (1, 1), (2, 1)])
  | 173 => some (.sl 262 2 40 [.str [], .own 3 0 []])
  | 175 => some (.st 3 [.int .i64 0, .own 262 0 [], .own 3 0 []] [(0, 1), (1, 1), (2, 1)])
  | 176 => some (.st 3 [.int .i64 0, .own 28 0 [], .own 3 0 []] [(0, 1), (1, 1), (2, 1)])
  | 178 => some (.st 6 [.int .i64 0, .own 262 0 [], .own 3 0 [], .int .i64 0, .own 28 0 [], .own 3 0 []] [(0, 3), (3, 3)])
  | 190 => some (.st 5 [.str [], .int .i64 0, .own 28 0 [], .int .i64 0, .own 28 0 []] [(0, 1), (1, 2), (3, 2)])
  | 211 => some (.sl 4 1 1 [.bool false])
  | 218 => some (.st 2 [.int .i64 0, .own 28 0 []] [(0, 1), (1, 1)])
  | 220 => some (.st 3 [.str [], .int .i64 0, .own 28 0 []] [(0, 1), (1, 2)])
  | 225 => some (.sc (.int .u64 0))
  | 241 => some (.st 3 [.own 3 0 [], .int .i64 0, .own 28 0 []] [(0, 1), (1, 2)])
  | 262 => some (.st 2 [.str [], .own 3 0 []] [(0, 1), (1, 1)])
  | 284 => some (.sc (.int .u32 0))
  | _ => none
theorem tbOk : TbOk Tryz.prog tb := by
  intro t d h
  unfold tb at h
  split at h
  · injection h with h; subst h; exact agr2
  · injection h with h; subst h; exact agr3
  · injection h with h; subst h; exact agr4
  · injection h with h; subst h; exact agr5
  · injection h with h; subst h; exact agr9
  · injection h with h; subst h; exact agr12
  · injection h with h; subst h; exact agr21
  · injection h with h; subst h; exact agr22
  · injection h with h; subst h; exact agr24
  · injection h with h; subst h; exact agr26
  · injection h with h; subst h; exact agr27
  · injection h with h; subst h; exact agr28
  · injection h with h; subst h; exact agr30
  · injection h with h; subst h; exact agr36
  · injection h with h; subst h; exact agr38
  · injection h with h; subst h; exact agr42
  · injection h with h; subst h; exact agr44
  · injection h with h; subst h; exact agr45
  · injection h with h; subst h; exact agr46
  · injection h with h; subst h; exact agr48
  · injection h with h; subst h; exact agr51
  · injection h with h; subst h; exact agr52
  · injection h with h; subst h; exact agr54
  · injection h with h; subst h; exact agr58
  · injection h with h; subst h; exact agr60
  · injection h with h; subst h; exact agr61
  · injection h with h; subst h; exact agr70
  · injection h with h; subst h; exact agr89
  · injection h with h; subst h; exact agr96
  · injection h with h; subst h; exact agr97
  · injection h with h; subst h; exact agr109
  · injection h with h; subst h; exact agr116
  · injection h with h; subst h; exact agr118
  · injection h with h; subst h; exact agr161
  · injection h with h; subst h; exact agr164
  · injection h with h; subst h; exact agr173
  · injection h with h; subst h; exact agr175
  · injection h with h; subst h; exact agr176
  · injection h with h; subst h; exact agr178
  · injection h with h; subst h; exact agr190
  · injection h with h; subst h; exact agr211
  · injection h with h; subst h; exact agr218
  · injection h with h; subst h; exact agr220
  · injection h with h; subst h; exact agr225
  · injection h with h; subst h; exact agr241
  · injection h with h; subst h; exact agr262
  · injection h with h; subst h; exact agr284
  · cases h
theorem mixed : Tryz.prog.follows .mixedOrders = true := by kernel_rfl
abbrev LitF (f : Nat) (bx : List Nat) (base : List (Nat × Nat)) (cn : List (Nat × List Nat)) (fn : Func) : Prop := Lit Tryz.prog f fn.ntmps bx fn.results.toList (litK base cn (cdF fn))
section
variable {nt : Nat} {bx cns : List Nat} {Q : Exit → PS → Prop} {l l' y : LC} {L L' : PL} {σ : PS} {ops : List LO} {fps : List (List Nat × List Nat)} {es : List (List Nat)}
theorem rn (n : Nat) (h : runR tb n l L = some (l', L')) (k : LS Tryz.prog nt bx l' (ofL L') Q) : LS Tryz.prog nt bx l (ofL L) Q := runR_ok tbOk h k
theorem rs (h : evS Tryz.prog tb cns ops σ (fun σ' => LS Tryz.prog nt bx y σ' Q)) : LS Tryz.prog nt bx (.seq (.rgn cns ops) y) σ Q := ls_rs tbOk h
theorem rsB {α : Type} (f : α → List V) (l : List α) (e : TypeId) (es : Nat) {L : PL} {s d t : TypeId} {n : Nat} {ps : Array (Nat × Operand)} {ops' : List LO} (h : bsO tb L s n ps.toList = some (e, es, L, l.flatMap f)) (hn : l.length = n) (hf : ∀ x, (f x).length = es) (k : evS Tryz.prog tb cns ops' (ofL ((d, .own e l.length (l.flatMap f)) :: L)) (fun σ' => LS Tryz.prog nt bx y σ' Q)) : LS Tryz.prog nt bx (.seq (.rgn cns (⟨some d, .buildSlice s n ps, t, none⟩ :: ops')) y) (ofL L) Q := rs (qBk f l e es h hn hf k)
theorem rk (h : ∀ K : PS → Prop, (∀ σ', LS Tryz.prog nt bx y σ' Q → K σ') → evS Tryz.prog tb cns ops σ K) : LS Tryz.prog nt bx (.seq (.rgn cns ops) y) σ Q := ls_rs_k tbOk h
theorem rg (h : evS Tryz.prog tb cns ops σ (Q .normal)) : LS Tryz.prog nt bx (.rgn cns ops) σ Q := ls_rgn tbOk h
theorem rd (hD : (okD fps es ops && okF cns fps ops) = true) (h : evD Tryz.prog tb cns fps ops σ (fun σ' => LS Tryz.prog nt bx y σ' Q)) : LS Tryz.prog nt bx (.seq (.drw cns fps es ops) y) σ Q := ls_rd tbOk mixed hD h
theorem rdk (hD : (okD fps es ops && okF cns fps ops) = true) (h : ∀ K : PS → Prop, (∀ σ', LS Tryz.prog nt bx y σ' Q → K σ') → evD Tryz.prog tb cns fps ops σ K) : LS Tryz.prog nt bx (.seq (.drw cns fps es ops) y) σ Q := ls_rd_k tbOk mixed hD h
theorem rgd (hD : (okD fps es ops && okF cns fps ops) = true) (h : evD Tryz.prog tb cns fps ops σ (Q .normal)) : LS Tryz.prog nt bx (.drw cns fps es ops) σ Q := ls_drw tbOk mixed hD h
theorem st {f : Nat} {fn : Func} {base : List (Nat × Nat)} {cn : List (Nat × List Nat)} {args : List V} {r : V} (hl : LitF f bx base cn fn) (h0 : (Nat.ble args.length fn.ntmps && (args.all plainA && okR (iniL 0 args))) = true) (h : LS Tryz.prog fn.ntmps bx (litK base cn (cdF fn)) (ofL (iniL 0 args)) (retQ tb fn.results.toList r)) : SoundAt Tryz.prog f args r := by
  simp only [Bool.and_eq_true] at h0
  exact sound_lit tbOk hl (nb h0.1) h0.2.1 (qi args h0.2.2 h)
theorem rt (p : Nat) (hD : (okD fps es ops && (okF cns fps ops && okT p es ops)) = true) (h : evD Tryz.prog tb cns (fps.take p) (ops.take p) σ (fun σ' => Gh Tryz.prog nt bx σ' (fun σ2 => evS Tryz.prog tb cns (ops.drop p) σ2 (fun σ' => LS Tryz.prog nt bx y σ' Q)))) : LS Tryz.prog nt bx (.seq (.drw cns fps es ops) y) σ Q := ls_seq (ls_drt tbOk mixed p hD h)
theorem rgt (p : Nat) (hD : (okD fps es ops && (okF cns fps ops && okT p es ops)) = true) (h : evD Tryz.prog tb cns (fps.take p) (ops.take p) σ (fun σ' => Gh Tryz.prog nt bx σ' (fun σ2 => evS Tryz.prog tb cns (ops.drop p) σ2 (Q .normal)))) : LS Tryz.prog nt bx (.drw cns fps es ops) σ Q := ls_drt tbOk mixed p hD h
theorem stp {f : Nat} {fn : Func} {base : List (Nat × Nat)} {cn : List (Nat × List Nat)} {cs args cs' : List V} {r : V} (hl : LitF f bx base cn fn) (h0 : (Nat.ble (args.length + 1) fn.ntmps && ((bx.contains 0 && bx.contains keep0) && (args.all plainA && (!(fn.results.toList.map rvSlot).contains 0 && (cs'.all plainC && okR (iniL 0 (.box cs :: args))))))) = true) (h : LS Tryz.prog fn.ntmps bx (litK base cn (cdF fn)) (ofL (iniL 0 (.box cs :: args))) (retP tb fn.results.toList r cs')) : PtrAt Tryz.prog f cs args cs' r := by
  simp only [Bool.and_eq_true, Bool.not_eq_true'] at h0
  exact ptr_lit tbOk hl (nb h0.1) (by rw [Bool.and_eq_true]; exact h0.2.1) h0.2.2.1 h0.2.2.2.1 h0.2.2.2.2.1 (qi _ h0.2.2.2.2.2 h)
theorem stn {f t : Nat} {fn : Func} {base : List (Nat × Nat)} {cn : List (Nat × List Nat)} {args cs : List V} (hl : LitF f bx base cn fn) (hr : fn.results.toList = [.tmp t]) (h0 : (Nat.ble args.length fn.ntmps && (args.all plainA && (cs.all plainC && okR (iniL 0 args)))) = true) (h : LS Tryz.prog fn.ntmps bx (litK base cn (cdF fn)) (ofL (iniL 0 args)) (retN t cs)) : NewAt Tryz.prog f args cs := by
  rw [Bool.and_eq_true, Bool.and_eq_true, Bool.and_eq_true] at h0
  unfold LitF at hl
  rw [hr] at hl
  exact new_lit hl (nb h0.1) h0.2.1 h0.2.2.1 (qi args h0.2.2.2 h)
theorem sta {f : Nat} {fn : Func} {base : List (Nat × Nat)} {cn : List (Nat × List Nat)} {args args' : List V} {r : V} (hl : LitF f bx base cn fn) (h0 : (Nat.ble args.length fn.ntmps && okR (iniL 0 args')) = true) (ha : args.all argAbleA = true) (he : args.map argV = args') (hr : deepT r = true) (h : LS Tryz.prog fn.ntmps bx (litK base cn (cdF fn)) (ofL (iniL 0 args')) (retQ tb fn.results.toList r)) : SoundAt Tryz.prog f args r := by
  subst he
  simp only [Bool.and_eq_true] at h0
  exact sound_litA tbOk hl (nb h0.1) ha hr (qi _ h0.2 h)
end
end Go.Proofs.YtmjhiencoapldaaGreat
