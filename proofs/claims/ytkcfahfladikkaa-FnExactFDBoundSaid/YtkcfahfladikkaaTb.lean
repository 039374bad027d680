/-
  The pure machine's table of this program's types, printed by gentab.py, and that it is so. No conditions.
-/
import Derived.Test.YtkcfahfladikkaaKb
import Derived.Test.YtkcfahfladikkaaProg
namespace Go.Proofs.Ytkcfahfladikkaa
open Go.RowKit
set_option linter.unusedVariables false
set_option maxRecDepth 100000
theorem agr2 : Agr Try.prog 2 (.sc (.int .i64 0)) := agr_int .i64 (by kernel_rfl) (by kernel_rfl)
theorem agr3 : Agr Try.prog 3 (.sc (.int .i64 0)) := agr_int .i64 (by kernel_rfl) (by kernel_rfl)
theorem agr4 : Agr Try.prog 4 (.sc (.bool false)) := agr_bool (by kernel_rfl) (by kernel_rfl)
theorem agr5 : Agr Try.prog 5 (.sc (.int .u8 0)) := agr_int .u8 (by kernel_rfl) (by kernel_rfl)
theorem agr9 : Agr Try.prog 9 (.sc (.str [])) := agr_str (by kernel_rfl) (by kernel_rfl)
theorem agr12 : Agr Try.prog 12 (.sc (.int .u64 0)) := agr_int .u64 (by kernel_rfl) (by kernel_rfl)
theorem agr21 : Agr Try.prog 21 (.sc (.int .i32 0)) := agr_int .i32 (by kernel_rfl) (by kernel_rfl)
theorem agr22 : Agr Try.prog 22 (.sl 206 3 48 [.str [], .int .i64 0, .own 25 0 []]) := agr_sl (zv := .agg #[.string ⟨#[]⟩, .int .i64 0, .slice none 0 0]) (by kernel_rfl) (by kernel_rfl) (by kernel_rfl) (zl_cons (zc_str) ( zl_cons (zc_int .i64) ( zl_cons (zc_own 25) (zl_nil)))) rfl (by decide) (by decide) (by decide)
theorem agr24 : Agr Try.prog 24 (.st 1 [.own 206 0 []] [(0, 1)]) := agr_st (us := [.slice none 0 0]) (by kernel_rfl) (zl_cons (zc_own 206) (zl_nil)) Try.underlying24 (by kernel_rfl) (by decide)
theorem agr25 : Agr Try.prog 25 (.sl 3 1 8 [.int .i64 0]) := agr_sl (zv := .int .i64 0) (by kernel_rfl) (by kernel_rfl) (by kernel_rfl) (zl_cons (zc_int .i64) (zl_nil)) rfl (by decide) (by decide) (by decide)
theorem agr27 : Agr Try.prog 27 (.st 3 [.str [], .own 3 0 [], .int .i64 0] [(0, 1), (1, 1), (2, 1)]) := agr_st (us := [.string ⟨#[]⟩, .slice none 0 0, .int .i64 0]) (by kernel_rfl) (zl_cons (zc_str) ( zl_cons (zc_own 3) ( zl_cons (zc_int .i64) (zl_nil)))) Try.underlying27 (by kernel_rfl) (by decide)
theorem agr31 : Agr Try.prog 31 (.sl 208 3 48 [.str [], .int .i64 0, .own 25 0 []]) := agr_sl (zv := .agg #[.string ⟨#[]⟩, .int .i64 0, .slice none 0 0]) (by kernel_rfl) (by kernel_rfl) (by kernel_rfl) (zl_cons (zc_str) ( zl_cons (zc_int .i64) ( zl_cons (zc_own 25) (zl_nil)))) rfl (by decide) (by decide) (by decide)
theorem agr33 : Agr Try.prog 33 (.st 1 [.own 208 0 []] [(0, 1)]) := agr_st (us := [.slice none 0 0]) (by kernel_rfl) (zl_cons (zc_own 208) (zl_nil)) Try.underlying33 (by kernel_rfl) (by decide)
theorem agr35 : Agr Try.prog 35 (.st 3 [.str [], .own 3 0 [], .int .i64 0] [(0, 1), (1, 1), (2, 1)]) := agr_st (us := [.string ⟨#[]⟩, .slice none 0 0, .int .i64 0]) (by kernel_rfl) (zl_cons (zc_str) ( zl_cons (zc_own 3) ( zl_cons (zc_int .i64) (zl_nil)))) Try.underlying35 (by kernel_rfl) (by decide)
theorem agr44 : Agr Try.prog 44 (.sl 24 1 24 [.own 206 0 []]) := agr_sl (zv := .agg #[.slice none 0 0]) (by kernel_rfl) (by kernel_rfl) (by kernel_rfl) (zl_cons (zc_own 206) (zl_nil)) rfl (by decide) (by decide) (by decide)
theorem agr46 : Agr Try.prog 46 (.st 2 [.int .i64 0, .own 24 0 []] [(0, 1), (1, 1)]) := agr_st (us := [.int .i64 0, .slice none 0 0]) (by kernel_rfl) (zl_cons (zc_int .i64) ( zl_cons (zc_own 24) (zl_nil))) Try.underlying46 (by kernel_rfl) (by decide)
theorem agr50 : Agr Try.prog 50 (.sl 33 1 24 [.own 208 0 []]) := agr_sl (zv := .agg #[.slice none 0 0]) (by kernel_rfl) (by kernel_rfl) (by kernel_rfl) (zl_cons (zc_own 208) (zl_nil)) rfl (by decide) (by decide) (by decide)
theorem agr52 : Agr Try.prog 52 (.st 2 [.int .i64 0, .own 33 0 []] [(0, 1), (1, 1)]) := agr_st (us := [.int .i64 0, .slice none 0 0]) (by kernel_rfl) (zl_cons (zc_int .i64) ( zl_cons (zc_own 33) (zl_nil))) Try.underlying52 (by kernel_rfl) (by decide)
theorem agr57 : Agr Try.prog 57 (.sl 215 2 16 [.int .i64 0, .int .i64 0]) := agr_sl (zv := .agg #[.int .i64 0, .int .i64 0]) (by kernel_rfl) (by kernel_rfl) (by kernel_rfl) (zl_cons (zc_int .i64) ( zl_cons (zc_int .i64) (zl_nil))) rfl (by decide) (by decide) (by decide)
theorem agr59 : Agr Try.prog 59 (.st 5 [.own 3 0 [], .own 215 0 [], .own 3 0 [], .int .i64 0, .int .i64 0] [(0, 1), (1, 1), (2, 1), (3, 1), (4, 1)]) := agr_st (us := [.slice none 0 0, .slice none 0 0, .slice none 0 0, .int .i64 0, .int .i64 0]) (by kernel_rfl) (zl_cons (zc_own 3) ( zl_cons (zc_own 215) ( zl_cons (zc_own 3) ( zl_cons (zc_int .i64) ( zl_cons (zc_int .i64) (zl_nil)))))) Try.underlying59 (by kernel_rfl) (by decide)
theorem agr65 : Agr Try.prog 65 (.sl 223 6 112 [.int .i64 0, .own 231 0 [], .own 3 0 [], .int .i64 0, .own 25 0 [], .own 3 0 []]) := agr_sl (zv := .agg #[.int .i64 0, .slice none 0 0, .slice none 0 0, .int .i64 0, .slice none 0 0, .slice none 0 0]) (by kernel_rfl) (by kernel_rfl) (by kernel_rfl) (zl_cons (zc_int .i64) ( zl_cons (zc_own 231) ( zl_cons (zc_own 3) ( zl_cons (zc_int .i64) ( zl_cons (zc_own 25) ( zl_cons (zc_own 3) (zl_nil))))))) rfl (by decide) (by decide) (by decide)
theorem agr66 : Agr Try.prog 66 (.sl 221 3 56 [.int .i64 0, .own 25 0 [], .own 3 0 []]) := agr_sl (zv := .agg #[.int .i64 0, .slice none 0 0, .slice none 0 0]) (by kernel_rfl) (by kernel_rfl) (by kernel_rfl) (zl_cons (zc_int .i64) ( zl_cons (zc_own 25) ( zl_cons (zc_own 3) (zl_nil)))) rfl (by decide) (by decide) (by decide)
theorem agr68 : Agr Try.prog 68 (.st 3 [.own 206 0 [], .own 223 0 [], .own 221 0 []] [(0, 1), (1, 1), (2, 1)]) := agr_st (us := [.slice none 0 0, .slice none 0 0, .slice none 0 0]) (by kernel_rfl) (zl_cons (zc_own 206) ( zl_cons (zc_own 223) ( zl_cons (zc_own 221) (zl_nil)))) Try.underlying68 (by kernel_rfl) (by decide)
theorem agr71 : Agr Try.prog 71 (.sl 161 6 112 [.int .i64 0, .own 195 0 [], .own 3 0 [], .int .i64 0, .own 25 0 [], .own 3 0 []]) := agr_sl (zv := .agg #[.int .i64 0, .slice none 0 0, .slice none 0 0, .int .i64 0, .slice none 0 0, .slice none 0 0]) (by kernel_rfl) (by kernel_rfl) (by kernel_rfl) (zl_cons (zc_int .i64) ( zl_cons (zc_own 195) ( zl_cons (zc_own 3) ( zl_cons (zc_int .i64) ( zl_cons (zc_own 25) ( zl_cons (zc_own 3) (zl_nil))))))) rfl (by decide) (by decide) (by decide)
theorem agr72 : Agr Try.prog 72 (.sl 159 3 56 [.int .i64 0, .own 25 0 [], .own 3 0 []]) := agr_sl (zv := .agg #[.int .i64 0, .slice none 0 0, .slice none 0 0]) (by kernel_rfl) (by kernel_rfl) (by kernel_rfl) (zl_cons (zc_int .i64) ( zl_cons (zc_own 25) ( zl_cons (zc_own 3) (zl_nil)))) rfl (by decide) (by decide) (by decide)
theorem agr74 : Agr Try.prog 74 (.st 3 [.own 208 0 [], .own 161 0 [], .own 159 0 []] [(0, 1), (1, 1), (2, 1)]) := agr_st (us := [.slice none 0 0, .slice none 0 0, .slice none 0 0]) (by kernel_rfl) (zl_cons (zc_own 208) ( zl_cons (zc_own 161) ( zl_cons (zc_own 159) (zl_nil)))) Try.underlying74 (by kernel_rfl) (by decide)
theorem agr77 : Agr Try.prog 77 (.sl 231 2 40 [.str [], .own 3 0 []]) := agr_sl (zv := .agg #[.string ⟨#[]⟩, .slice none 0 0]) (by kernel_rfl) (by kernel_rfl) (by kernel_rfl) (zl_cons (zc_str) ( zl_cons (zc_own 3) (zl_nil))) rfl (by decide) (by decide) (by decide)
theorem agr79 : Agr Try.prog 79 (.st 3 [.int .i64 0, .own 231 0 [], .own 3 0 []] [(0, 1), (1, 1), (2, 1)]) := agr_st (us := [.int .i64 0, .slice none 0 0, .slice none 0 0]) (by kernel_rfl) (zl_cons (zc_int .i64) ( zl_cons (zc_own 231) ( zl_cons (zc_own 3) (zl_nil)))) Try.underlying79 (by kernel_rfl) (by decide)
theorem agr81 : Agr Try.prog 81 (.st 1 [.own 3 0 []] [(0, 1)]) := agr_st (us := [.slice none 0 0]) (by kernel_rfl) (zl_cons (zc_own 3) (zl_nil)) Try.underlying81 (by kernel_rfl) (by decide)
theorem agr82 : Agr Try.prog 82 (.sl 25 1 24 [.own 3 0 []]) := agr_sl (zv := .slice none 0 0) (by kernel_rfl) (by kernel_rfl) (by kernel_rfl) (zl_cons (zc_own 3) (zl_nil)) rfl (by decide) (by decide) (by decide)
theorem agr84 : Agr Try.prog 84 (.st 2 [.own 25 0 [], .own 3 0 []] [(0, 1), (1, 1)]) := agr_st (us := [.slice none 0 0, .slice none 0 0]) (by kernel_rfl) (zl_cons (zc_own 25) ( zl_cons (zc_own 3) (zl_nil))) Try.underlying84 (by kernel_rfl) (by decide)
theorem agr86 : Agr Try.prog 86 (.st 5 [.int .i64 0, .own 3 0 [], .own 3 0 [], .own 25 0 [], .own 3 0 []] [(0, 1), (1, 1), (2, 1), (3, 2)]) := agr_st (us := [.int .i64 0, .slice none 0 0, .slice none 0 0, .slice none 0 0, .slice none 0 0]) (by kernel_rfl) (zl_cons (zc_int .i64) ( zl_cons (zc_own 3) ( zl_cons (zc_own 3) ( zl_cons (zc_own 25) ( zl_cons (zc_own 3) (zl_nil)))))) Try.underlying86 (by kernel_rfl) (by decide)
theorem agr90 : Agr Try.prog 90 (.sl 195 2 40 [.str [], .own 3 0 []]) := agr_sl (zv := .agg #[.string ⟨#[]⟩, .slice none 0 0]) (by kernel_rfl) (by kernel_rfl) (by kernel_rfl) (zl_cons (zc_str) ( zl_cons (zc_own 3) (zl_nil))) rfl (by decide) (by decide) (by decide)
theorem agr92 : Agr Try.prog 92 (.st 3 [.int .i64 0, .own 195 0 [], .own 3 0 []] [(0, 1), (1, 1), (2, 1)]) := agr_st (us := [.int .i64 0, .slice none 0 0, .slice none 0 0]) (by kernel_rfl) (zl_cons (zc_int .i64) ( zl_cons (zc_own 195) ( zl_cons (zc_own 3) (zl_nil)))) Try.underlying92 (by kernel_rfl) (by decide)
theorem agr94 : Agr Try.prog 94 (.st 1 [.own 3 0 []] [(0, 1)]) := agr_st (us := [.slice none 0 0]) (by kernel_rfl) (zl_cons (zc_own 3) (zl_nil)) Try.underlying94 (by kernel_rfl) (by decide)
theorem agr95 : Agr Try.prog 95 (.st 2 [.own 25 0 [], .own 3 0 []] [(0, 1), (1, 1)]) := agr_st (us := [.slice none 0 0, .slice none 0 0]) (by kernel_rfl) (zl_cons (zc_own 25) ( zl_cons (zc_own 3) (zl_nil))) Try.underlying95 (by kernel_rfl) (by decide)
theorem agr97 : Agr Try.prog 97 (.st 5 [.int .i64 0, .own 3 0 [], .own 3 0 [], .own 25 0 [], .own 3 0 []] [(0, 1), (1, 1), (2, 1), (3, 2)]) := agr_st (us := [.int .i64 0, .slice none 0 0, .slice none 0 0, .slice none 0 0, .slice none 0 0]) (by kernel_rfl) (zl_cons (zc_int .i64) ( zl_cons (zc_own 3) ( zl_cons (zc_own 3) ( zl_cons (zc_own 25) ( zl_cons (zc_own 3) (zl_nil)))))) Try.underlying97 (by kernel_rfl) (by decide)
theorem agr108 : Agr Try.prog 108 (.st 6 [.int .i64 0, .own 3 0 [], .own 3 0 [], .int .i64 0, .own 195 0 [], .own 3 0 []] [(0, 1), (1, 1), (2, 1), (3, 3)]) := agr_st (us := [.int .i64 0, .slice none 0 0, .slice none 0 0, .int .i64 0, .slice none 0 0, .slice none 0 0]) (by kernel_rfl) (zl_cons (zc_int .i64) ( zl_cons (zc_own 3) ( zl_cons (zc_own 3) ( zl_cons (zc_int .i64) ( zl_cons (zc_own 195) ( zl_cons (zc_own 3) (zl_nil))))))) Try.underlying108 (by kernel_rfl) (by decide)
theorem agr119 : Agr Try.prog 119 (.sl 27 3 48 [.str [], .own 3 0 [], .int .i64 0]) := agr_sl (zv := .agg #[.string ⟨#[]⟩, .slice none 0 0, .int .i64 0]) (by kernel_rfl) (by kernel_rfl) (by kernel_rfl) (zl_cons (zc_str) ( zl_cons (zc_own 3) ( zl_cons (zc_int .i64) (zl_nil)))) rfl (by decide) (by decide) (by decide)
theorem agr122 : Agr Try.prog 122 (.sl 35 3 48 [.str [], .own 3 0 [], .int .i64 0]) := agr_sl (zv := .agg #[.string ⟨#[]⟩, .slice none 0 0, .int .i64 0]) (by kernel_rfl) (by kernel_rfl) (by kernel_rfl) (zl_cons (zc_str) ( zl_cons (zc_own 3) ( zl_cons (zc_int .i64) (zl_nil)))) rfl (by decide) (by decide) (by decide)
theorem agr128 : Agr Try.prog 128 (.st 2 [.int .i64 0, .own 25 0 []] [(0, 1), (1, 1)]) := agr_st (us := [.int .i64 0, .slice none 0 0]) (by kernel_rfl) (zl_cons (zc_int .i64) ( zl_cons (zc_own 25) (zl_nil))) Try.underlying128 (by kernel_rfl) (by decide)
theorem agr144 : Agr Try.prog 144 (.sl 9 1 16 [.str []]) := agr_sl (zv := .string ⟨#[]⟩) (by kernel_rfl) (by kernel_rfl) (by kernel_rfl) (zl_cons (zc_str) (zl_nil)) rfl (by decide) (by decide) (by decide)
theorem agr159 : Agr Try.prog 159 (.st 3 [.int .i64 0, .own 25 0 [], .own 3 0 []] [(0, 1), (1, 1), (2, 1)]) := agr_st (us := [.int .i64 0, .slice none 0 0, .slice none 0 0]) (by kernel_rfl) (zl_cons (zc_int .i64) ( zl_cons (zc_own 25) ( zl_cons (zc_own 3) (zl_nil)))) Try.underlying159 (by kernel_rfl) (by decide)
theorem agr161 : Agr Try.prog 161 (.st 6 [.int .i64 0, .own 195 0 [], .own 3 0 [], .int .i64 0, .own 25 0 [], .own 3 0 []] [(0, 3), (3, 3)]) := agr_st (us := [.int .i64 0, .slice none 0 0, .slice none 0 0, .int .i64 0, .slice none 0 0, .slice none 0 0]) (by kernel_rfl) (zl_cons (zc_int .i64) ( zl_cons (zc_own 195) ( zl_cons (zc_own 3) ( zl_cons (zc_int .i64) ( zl_cons (zc_own 25) ( zl_cons (zc_own 3) (zl_nil))))))) Try.underlying161 (by kernel_rfl) (by decide)
theorem agr189 : Agr Try.prog 189 (.sl 197 2 32 [.int .i64 0, .own 25 0 []]) := agr_sl (zv := .agg #[.int .i64 0, .slice none 0 0]) (by kernel_rfl) (by kernel_rfl) (by kernel_rfl) (zl_cons (zc_int .i64) ( zl_cons (zc_own 25) (zl_nil))) rfl (by decide) (by decide) (by decide)
theorem agr195 : Agr Try.prog 195 (.st 2 [.str [], .own 3 0 []] [(0, 1), (1, 1)]) := agr_st (us := [.string ⟨#[]⟩, .slice none 0 0]) (by kernel_rfl) (zl_cons (zc_str) ( zl_cons (zc_own 3) (zl_nil))) Try.underlying195 (by kernel_rfl) (by decide)
theorem agr197 : Agr Try.prog 197 (.st 2 [.int .i64 0, .own 25 0 []] [(0, 1), (1, 1)]) := agr_st (us := [.int .i64 0, .slice none 0 0]) (by kernel_rfl) (zl_cons (zc_int .i64) ( zl_cons (zc_own 25) (zl_nil))) Try.underlying197 (by kernel_rfl) (by decide)
theorem agr202 : Agr Try.prog 202 (.sc (.int .u64 0)) := agr_int .u64 (by kernel_rfl) (by kernel_rfl)
theorem agr204 : Agr Try.prog 204 (.st 2 [.int .i64 0, .own 25 0 []] [(0, 1), (1, 1)]) := agr_st (us := [.int .i64 0, .slice none 0 0]) (by kernel_rfl) (zl_cons (zc_int .i64) ( zl_cons (zc_own 25) (zl_nil))) Try.underlying204 (by kernel_rfl) (by decide)
theorem agr206 : Agr Try.prog 206 (.st 3 [.str [], .int .i64 0, .own 25 0 []] [(0, 1), (1, 2)]) := agr_st (us := [.string ⟨#[]⟩, .int .i64 0, .slice none 0 0]) (by kernel_rfl) (zl_cons (zc_str) ( zl_cons (zc_int .i64) ( zl_cons (zc_own 25) (zl_nil)))) Try.underlying206 (by kernel_rfl) (by decide)
theorem agr208 : Agr Try.prog 208 (.st 3 [.str [], .int .i64 0, .own 25 0 []] [(0, 1), (1, 2)]) := agr_st (us := [.string ⟨#[]⟩, .int .i64 0, .slice none 0 0]) (by kernel_rfl) (zl_cons (zc_str) ( zl_cons (zc_int .i64) ( zl_cons (zc_own 25) (zl_nil)))) Try.underlying208 (by kernel_rfl) (by decide)
theorem agr215 : Agr Try.prog 215 (.st 2 [.int .i64 0, .int .i64 0] [(0, 1), (1, 1)]) := agr_st (us := [.int .i64 0, .int .i64 0]) (by kernel_rfl) (zl_cons (zc_int .i64) ( zl_cons (zc_int .i64) (zl_nil))) Try.underlying215 (by kernel_rfl) (by decide)
theorem agr221 : Agr Try.prog 221 (.st 3 [.int .i64 0, .own 25 0 [], .own 3 0 []] [(0, 1), (1, 1), (2, 1)]) := agr_st (us := [.int .i64 0, .slice none 0 0, .slice none 0 0]) (by kernel_rfl) (zl_cons (zc_int .i64) ( zl_cons (zc_own 25) ( zl_cons (zc_own 3) (zl_nil)))) Try.underlying221 (by kernel_rfl) (by decide)
theorem agr223 : Agr Try.prog 223 (.st 6 [.int .i64 0, .own 231 0 [], .own 3 0 [], .int .i64 0, .own 25 0 [], .own 3 0 []] [(0, 3), (3, 3)]) := agr_st (us := [.int .i64 0, .slice none 0 0, .slice none 0 0, .int .i64 0, .slice none 0 0, .slice none 0 0]) (by kernel_rfl) (zl_cons (zc_int .i64) ( zl_cons (zc_own 231) ( zl_cons (zc_own 3) ( zl_cons (zc_int .i64) ( zl_cons (zc_own 25) ( zl_cons (zc_own 3) (zl_nil))))))) Try.underlying223 (by kernel_rfl) (by decide)
theorem agr231 : Agr Try.prog 231 (.st 2 [.str [], .own 3 0 []] [(0, 1), (1, 1)]) := agr_st (us := [.string ⟨#[]⟩, .slice none 0 0]) (by kernel_rfl) (zl_cons (zc_str) ( zl_cons (zc_own 3) (zl_nil))) Try.underlying231 (by kernel_rfl) (by decide)
theorem agr254 : Agr Try.prog 254 (.sl 5 1 1 [.int .u8 0]) := agr_sl (zv := .int .u8 0) (by kernel_rfl) (by kernel_rfl) (by kernel_rfl) (zl_cons (zc_int .u8) (zl_nil)) rfl (by decide) (by decide) (by decide)
theorem agr256 : Agr Try.prog 256 (.sl 4 1 1 [.bool false]) := agr_sl (zv := .bool false) (by kernel_rfl) (by kernel_rfl) (by kernel_rfl) (zl_cons (zc_bool) (zl_nil)) rfl (by decide) (by decide) (by decide)
theorem agr273 : Agr Try.prog 273 (.sc (.int .u32 0)) := agr_int .u32 (by kernel_rfl) (by kernel_rfl)
def tb : Tb := fun t => match t with
  | 2 => some (.sc (.int .i64 0))
  | 3 => some (.sc (.int .i64 0))
  | 4 => some (.sc (.bool false))
  | 5 => some (.sc (.int .u8 0))
  | 9 => some (.sc (.str []))
  | 12 => some (.sc (.int .u64 0))
  | 21 => some (.sc (.int .i32 0))
  | 22 => some (.sl 206 3 48 [.str [], .int .i64 0, .own 25 0 []])
  | 24 => some (.st 1 [.own 206 0 []] [(0, 1)])
  | 25 => some (.sl 3 1 8 [.int .i64 0])
  | 27 => some (.st 3 [.str [], .own 3 0 [], .int .i64 0] [(0, 1), (1, 1), (2, 1)])
  | 31 => some (.sl 208 3 48 [.str [], .int .i64 0, .own 25 0 []])
  | 33 => some (.st 1 [.own 208 0 []] [(0, 1)])
  | 35 => some (.st 3 [.str [], .own 3 0 [], .int .i64 0] [(0, 1), (1, 1), (2, 1)])
  | 44 => some (.sl 24 1 24 [.own 206 0 []])
  | 46 => some (.st 2 [.int .i64 0, .own 24 0 []] [(0, 1), (1, 1)])
  | 50 => some (.sl 33 1 24 [.own 208 0 []])
  | 52 => some (.st 2 [.int .i64 0, .own 33 0 []] [(0, 1), (1, 1)])
  | 57 => some (.sl 215 2 16 [.int .i64 0, .int .i64 0])
  | 59 => some (.st 5 [.own 3 0 [], .own 215 0 [], .own 3 0 [], .int .i64 0, .int .i64 0] [(0, 1), (1, 1), (2, 1), (3, 1), (4, 1)])
  | 65 => some (.sl 223 6 112 [.int .i64 0, .own 231 0 [], .own 3 0 [], .int .i64 0, .own 25 0 [], .own 3 0 []])
  | 66 => some (.sl 221 3 56 [.int .i64 0, .own 25 0 [], .own 3 0 []])
  | 68 => some (.st 3 [.own 206 0 [], .own 223 0 [], .own 221 0 []] [(0, 1), (1, 1), (2, 1)])
  | 71 => some (.sl 161 6 112 [.int .i64 0, .own 195 0 [], .own 3 0 [], .int .i64 0, .own 25 0 [], .own 3 0 []])
  | 72 => some (.sl 159 3 56 [.int .i64 0, .own 25 0 [], .own 3 0 []])
  | 74 => some (.st 3 [.own 208 0 [], .own 161 0 [], .own 159 0 []] [(0, 1), (1, 1), (2, 1)])
  | 77 => some (.sl 231 2 40 [.str [], .own 3 0 []])
  | 79 => some (.st 3 [.int .i64 0, .own 231 0 [], .own 3 0 []] [(0, 1), (1, 1), (2, 1)])
  | 81 => some (.st 1 [.own 3 0 []] [(0, 1)])
  | 82 => some (.sl 25 1 24 [.own 3 0 []])
  | 84 => some (.st 2 [.own 25 0 [], .own 3 0 []] [(0, 1), (1, 1)])
  | 86 => some (.st 5 [.int .i64 0, .own 3 0 [], .own 3 0 [], .own 25 0 [], .own 3 0 []] [(0, 1), (1, 1), (2, 1), (3, 2)])
  | 90 => some (.sl 195 2 40 [.str [], .own 3 0 []])
  | 92 => some (.st 3 [.int .i64 0, .own 195 0 [], .own 3 0 []] [(0, 1), (1, 1), (2, 1)])
  | 94 => some (.st 1 [.own 3 0 []] [(0, 1)])
  | 95 => some (.st 2 [.own 25 0 [], .own 3 0 []] [(0, 1), (1, 1)])
  | 97 => some (.st 5 [.int .i64 0, .own 3 0 [], .own 3 0 [], .own 25 0 [], .own 3 0 []] [(0, 1), (1, 1), (2, 1), (3, 2)])
  | 108 => some (.st 6 [.int .i64 0, .own 3 0 [], .own 3 0 [], .int .i64 0, .own 195 0 [], .own 3 0 []] [(0, 1), (1, 1), (2, 1), (3, 3)])
  | 119 => some (.sl 27 3 48 [.str [], .own 3 0 [], .int .i64 0])
  | 122 => some (.sl 35 3 48 [.str [], .own 3 0 [], .int .i64 0])
  | 128 => some (.st 2 [.int .i64 0, .own 25 0 []] [(0, 1), (1, 1)])
  | 144 => some (.sl 9 1 16 [.str []])
  | 159 => some (.st 3 [.int .i64 0, .own 25 0 [], .own 3 0 []] [(0, 1), (1, 1), (2, 1)])
  | 161 => some (.st 6 [.int .i64 0, .own 195 0 [], .own 3 0 [], .int .i64 0, .own 25 0 [], .own 3 0 []] [(0, 3), (3, 3)])
  | 189 => some (.sl 197 2 32 [.int .i64 0, .own 25 0 []])
  | 195 => some (.st 2 [.str [], .own 3 0 []] [(0, 1), (1, 1)])
  | 197 => some (.st 2 [.int .i64 0, .own 25 0 []] [(0, 1), (1, 1)])
  | 202 => some (.sc (.int .u64 0))
  | 204 => some (.st 2 [.int .i64 0, .own 25 0 []] [(0, 1), (1, 1)])
  | 206 => some (.st 3 [.str [], .int .i64 0, .own 25 0 []] [(0, 1), (1, 2)])
  | 208 => some (.st 3 [.str [], .int .i64 0, .own 25 0 []] [(0, 1), (1, 2)])
  | 215 => some (.st 2 [.int .i64 0, .int .i64 0] [(0, 1), (1, 1)])
  | 221 => some (.st 3 [.int .i64 0, .own 25 0 [], .own 3 0 []] [(0, 1), (1, 1), (2, 1)])
  | 223 => some (.st 6 [.int .i64 0, .own 231 0 [], .own 3 0 [], .int .i64 0, .own 25 0 [], .own 3 0 []] [(0, 3), (3, 3)])
  | 231 => some (.st 2 [.str [], .own 3 0 []] [(0, 1), (1, 1)])
  | 254 => some (.sl 5 1 1 [.int .u8 0])
  | 256 => some (.sl 4 1 1 [.bool false])
  | 273 => some (.sc (.int .u32 0))
  | _ => none
theorem tbOk : TbOk Try.prog tb := by
  intro t d h
  unfold tb at h
  split at h
  · injection h with h; subst h; exact agr2
  · injection h with h; subst h; exact agr3
  · injection h with h; subst h; exact agr4
  · injection h with h; subst h; exact agr5
  · injection h with h; subst h; exact agr9
  · injection h with h; subst h; exact agr12
  · injection h with h; subst h; exact agr21
  · injection h with h; subst h; exact agr22
  · injection h with h; subst h; exact agr24
  · injection h with h; subst h; exact agr25
  · injection h with h; subst h; exact agr27
  · injection h with h; subst h; exact agr31
  · injection h with h; subst h; exact agr33
  · injection h with h; subst h; exact agr35
  · injection h with h; subst h; exact agr44
  · injection h with h; subst h; exact agr46
  · injection h with h; subst h; exact agr50
  · injection h with h; subst h; exact agr52
  · injection h with h; subst h; exact agr57
  · injection h with h; subst h; exact agr59
  · injection h with h; subst h; exact agr65
  · injection h with h; subst h; exact agr66
  · injection h with h; subst h; exact agr68
  · injection h with h; subst h; exact agr71
  · injection h with h; subst h; exact agr72
  · injection h with h; subst h; exact agr74
  · injection h with h; subst h; exact agr77
  · injection h with h; subst h; exact agr79
  · injection h with h; subst h; exact agr81
  · injection h with h; subst h; exact agr82
  · injection h with h; subst h; exact agr84
  · injection h with h; subst h; exact agr86
  · injection h with h; subst h; exact agr90
  · injection h with h; subst h; exact agr92
  · injection h with h; subst h; exact agr94
  · injection h with h; subst h; exact agr95
  · injection h with h; subst h; exact agr97
  · injection h with h; subst h; exact agr108
  · injection h with h; subst h; exact agr119
  · injection h with h; subst h; exact agr122
  · injection h with h; subst h; exact agr128
  · injection h with h; subst h; exact agr144
  · injection h with h; subst h; exact agr159
  · injection h with h; subst h; exact agr161
  · injection h with h; subst h; exact agr189
  · injection h with h; subst h; exact agr195
  · injection h with h; subst h; exact agr197
  · injection h with h; subst h; exact agr202
  · injection h with h; subst h; exact agr204
  · injection h with h; subst h; exact agr206
  · injection h with h; subst h; exact agr208
  · injection h with h; subst h; exact agr215
  · injection h with h; subst h; exact agr221
  · injection h with h; subst h; exact agr223
  · injection h with h; subst h; exact agr231
  · injection h with h; subst h; exact agr254
  · injection h with h; subst h; exact agr256
  · injection h with h; subst h; exact agr273
  · cases h
theorem mixed : Try.prog.follows .mixedOrders = true := by kernel_rfl
abbrev LitF (f : Nat) (bx : List Nat) (base : List (Nat × Nat)) (cn : List (Nat × List Nat)) (fn : Func) : Prop := Lit Try.prog f fn.ntmps bx fn.results.toList (litK base cn (cdF fn))
section
variable {nt : Nat} {bx cns : List Nat} {Q : Exit → PS → Prop} {l l' y : LC} {L L' : PL} {σ : PS} {ops : List LO} {fps : List (List Nat × List Nat)} {es : List (List Nat)}
theorem rn (n : Nat) (h : runR tb n l L = some (l', L')) (k : LS Try.prog nt bx l' (ofL L') Q) : LS Try.prog nt bx l (ofL L) Q := runR_ok tbOk h k
theorem rs (h : evS Try.prog tb cns ops σ (fun σ' => LS Try.prog nt bx y σ' Q)) : LS Try.prog nt bx (.seq (.rgn cns ops) y) σ Q := ls_rs tbOk h
theorem rk (h : ∀ K : PS → Prop, (∀ σ', LS Try.prog nt bx y σ' Q → K σ') → evS Try.prog tb cns ops σ K) : LS Try.prog nt bx (.seq (.rgn cns ops) y) σ Q := ls_rs_k tbOk h
theorem rg (h : evS Try.prog tb cns ops σ (Q .normal)) : LS Try.prog nt bx (.rgn cns ops) σ Q := ls_rgn tbOk h
theorem rd (hD : (okD fps es ops && okF cns fps ops) = true) (h : evD Try.prog tb cns fps ops σ (fun σ' => LS Try.prog nt bx y σ' Q)) : LS Try.prog nt bx (.seq (.drw cns fps es ops) y) σ Q := ls_rd tbOk mixed hD h
theorem rdk (hD : (okD fps es ops && okF cns fps ops) = true) (h : ∀ K : PS → Prop, (∀ σ', LS Try.prog nt bx y σ' Q → K σ') → evD Try.prog tb cns fps ops σ K) : LS Try.prog nt bx (.seq (.drw cns fps es ops) y) σ Q := ls_rd_k tbOk mixed hD h
theorem rgd (hD : (okD fps es ops && okF cns fps ops) = true) (h : evD Try.prog tb cns fps ops σ (Q .normal)) : LS Try.prog nt bx (.drw cns fps es ops) σ Q := ls_drw tbOk mixed hD h
theorem st {f : Nat} {fn : Func} {base : List (Nat × Nat)} {cn : List (Nat × List Nat)} {args : List V} {r : V} (hl : LitF f bx base cn fn) (h0 : (Nat.ble args.length fn.ntmps && (args.all plainA && okR (iniL 0 args))) = true) (h : LS Try.prog fn.ntmps bx (litK base cn (cdF fn)) (ofL (iniL 0 args)) (retQ tb fn.results.toList r)) : SoundAt Try.prog f args r := by
  simp only [Bool.and_eq_true] at h0
  exact sound_lit tbOk hl (nb h0.1) h0.2.1 (qi args h0.2.2 h)
end
end Go.Proofs.Ytkcfahfladikkaa
