/-
  The pure machine's table of this program's types, printed by gentab.py, and that it is so. No conditions.
-/
import Derived.Test.YtkmkbpphdalgoaaKb
import Derived.Test.YtkmkbpphdalgoaaProg
namespace Go.Proofs.Ytkmkbpphdalgoaa
open Go.RowKit
set_option linter.unusedVariables false
set_option maxRecDepth 100000
theorem agr2 : Agr Try.prog 2 (.sc (.int .i64 0)) := agr_int .i64 (by kernel_rfl) (by kernel_rfl)
theorem agr3 : Agr Try.prog 3 (.sc (.int .i64 0)) := agr_int .i64 (by kernel_rfl) (by kernel_rfl)
theorem agr4 : Agr Try.prog 4 (.sc (.bool false)) := agr_bool (by kernel_rfl) (by kernel_rfl)
theorem agr5 : Agr Try.prog 5 (.sc (.int .u8 0)) := agr_int .u8 (by kernel_rfl) (by kernel_rfl)
theorem agr9 : Agr Try.prog 9 (.sc (.str [])) := agr_str (by kernel_rfl) (by kernel_rfl)
theorem agr12 : Agr Try.prog 12 (.sc (.int .u64 0)) := agr_int .u64 (by kernel_rfl) (by kernel_rfl)
theorem agr21 : Agr Try.prog 21 (.sc (.int .i32 0)) := agr_int .i32 (by kernel_rfl) (by kernel_rfl)
theorem agr22 : Agr Try.prog 22 (.sl 30 1 24 [.own 3 0 []]) := agr_sl (zv := .slice none 0 0) (by kernel_rfl) (by kernel_rfl) (by kernel_rfl) (zl_cons (zc_own 3) (zl_nil)) rfl (by decide) (by decide) (by decide)
theorem agr24 : Agr Try.prog 24 (.st 2 [.int .i64 0, .own 30 0 []] [(0, 1), (1, 1)]) := agr_st (us := [.int .i64 0, .slice none 0 0]) (by kernel_rfl) (zl_cons (zc_int .i64) ( zl_cons (zc_own 30) (zl_nil))) Try.underlying24 (by kernel_rfl) (by decide)
theorem agr30 : Agr Try.prog 30 (.sl 3 1 8 [.int .i64 0]) := agr_sl (zv := .int .i64 0) (by kernel_rfl) (by kernel_rfl) (by kernel_rfl) (zl_cons (zc_int .i64) (zl_nil)) rfl (by decide) (by decide) (by decide)
theorem agr31 : Agr Try.prog 31 (.sl 165 2 16 [.int .i64 0, .int .i64 0]) := agr_sl (zv := .agg #[.int .i64 0, .int .i64 0]) (by kernel_rfl) (by kernel_rfl) (by kernel_rfl) (zl_cons (zc_int .i64) ( zl_cons (zc_int .i64) (zl_nil))) rfl (by decide) (by decide) (by decide)
theorem agr33 : Agr Try.prog 33 (.st 5 [.own 3 0 [], .own 165 0 [], .own 3 0 [], .int .i64 0, .int .i64 0] [(0, 1), (1, 1), (2, 1), (3, 1), (4, 1)]) := agr_st (us := [.slice none 0 0, .slice none 0 0, .slice none 0 0, .int .i64 0, .int .i64 0]) (by kernel_rfl) (zl_cons (zc_own 3) ( zl_cons (zc_own 165) ( zl_cons (zc_own 3) ( zl_cons (zc_int .i64) ( zl_cons (zc_int .i64) (zl_nil)))))) Try.underlying33 (by kernel_rfl) (by decide)
theorem agr36 : Agr Try.prog 36 (.sl 163 2 16 [.int .i64 0, .int .i64 0]) := agr_sl (zv := .agg #[.int .i64 0, .int .i64 0]) (by kernel_rfl) (by kernel_rfl) (by kernel_rfl) (zl_cons (zc_int .i64) ( zl_cons (zc_int .i64) (zl_nil))) rfl (by decide) (by decide) (by decide)
theorem agr38 : Agr Try.prog 38 (.st 5 [.own 3 0 [], .own 163 0 [], .own 3 0 [], .int .i64 0, .int .i64 0] [(0, 1), (1, 1), (2, 1), (3, 1), (4, 1)]) := agr_st (us := [.slice none 0 0, .slice none 0 0, .slice none 0 0, .int .i64 0, .int .i64 0]) (by kernel_rfl) (zl_cons (zc_own 3) ( zl_cons (zc_own 163) ( zl_cons (zc_own 3) ( zl_cons (zc_int .i64) ( zl_cons (zc_int .i64) (zl_nil)))))) Try.underlying38 (by kernel_rfl) (by decide)
theorem agr42 : Agr Try.prog 42 (.st 2 [.int .i64 0, .own 30 0 []] [(0, 1), (1, 1)]) := agr_st (us := [.int .i64 0, .slice none 0 0]) (by kernel_rfl) (zl_cons (zc_int .i64) ( zl_cons (zc_own 30) (zl_nil))) Try.underlying42 (by kernel_rfl) (by decide)
theorem agr48 : Agr Try.prog 48 (.sl 171 2 40 [.str [], .own 3 0 []]) := agr_sl (zv := .agg #[.string ⟨#[]⟩, .slice none 0 0]) (by kernel_rfl) (by kernel_rfl) (by kernel_rfl) (zl_cons (zc_str) ( zl_cons (zc_own 3) (zl_nil))) rfl (by decide) (by decide) (by decide)
theorem agr50 : Agr Try.prog 50 (.st 3 [.int .i64 0, .own 171 0 [], .own 3 0 []] [(0, 1), (1, 1), (2, 1)]) := agr_st (us := [.int .i64 0, .slice none 0 0, .slice none 0 0]) (by kernel_rfl) (zl_cons (zc_int .i64) ( zl_cons (zc_own 171) ( zl_cons (zc_own 3) (zl_nil)))) Try.underlying50 (by kernel_rfl) (by decide)
theorem agr54 : Agr Try.prog 54 (.sl 150 2 40 [.str [], .own 3 0 []]) := agr_sl (zv := .agg #[.string ⟨#[]⟩, .slice none 0 0]) (by kernel_rfl) (by kernel_rfl) (by kernel_rfl) (zl_cons (zc_str) ( zl_cons (zc_own 3) (zl_nil))) rfl (by decide) (by decide) (by decide)
theorem agr56 : Agr Try.prog 56 (.st 3 [.int .i64 0, .own 150 0 [], .own 3 0 []] [(0, 1), (1, 1), (2, 1)]) := agr_st (us := [.int .i64 0, .slice none 0 0, .slice none 0 0]) (by kernel_rfl) (zl_cons (zc_int .i64) ( zl_cons (zc_own 150) ( zl_cons (zc_own 3) (zl_nil)))) Try.underlying56 (by kernel_rfl) (by decide)
theorem agr62 : Agr Try.prog 62 (.sl 5 1 1 [.int .u8 0]) := agr_sl (zv := .int .u8 0) (by kernel_rfl) (by kernel_rfl) (by kernel_rfl) (zl_cons (zc_int .u8) (zl_nil)) rfl (by decide) (by decide) (by decide)
theorem agr71 : Agr Try.prog 71 (.sl 95 1 24 [.own 187 0 []]) := agr_sl (zv := .agg #[.slice none 0 0]) (by kernel_rfl) (by kernel_rfl) (by kernel_rfl) (zl_cons (zc_own 187) (zl_nil)) rfl (by decide) (by decide) (by decide)
theorem agr73 : Agr Try.prog 73 (.st 2 [.int .i64 0, .own 95 0 []] [(0, 1), (1, 1)]) := agr_st (us := [.int .i64 0, .slice none 0 0]) (by kernel_rfl) (zl_cons (zc_int .i64) ( zl_cons (zc_own 95) (zl_nil))) Try.underlying73 (by kernel_rfl) (by decide)
theorem agr76 : Agr Try.prog 76 (.sl 100 1 24 [.own 157 0 []]) := agr_sl (zv := .agg #[.slice none 0 0]) (by kernel_rfl) (by kernel_rfl) (by kernel_rfl) (zl_cons (zc_own 157) (zl_nil)) rfl (by decide) (by decide) (by decide)
theorem agr78 : Agr Try.prog 78 (.st 2 [.int .i64 0, .own 100 0 []] [(0, 1), (1, 1)]) := agr_st (us := [.int .i64 0, .slice none 0 0]) (by kernel_rfl) (zl_cons (zc_int .i64) ( zl_cons (zc_own 100) (zl_nil))) Try.underlying78 (by kernel_rfl) (by decide)
theorem agr83 : Agr Try.prog 83 (.st 3 [.str [], .own 3 0 [], .int .i64 0] [(0, 1), (1, 1), (2, 1)]) := agr_st (us := [.string ⟨#[]⟩, .slice none 0 0, .int .i64 0]) (by kernel_rfl) (zl_cons (zc_str) ( zl_cons (zc_own 3) ( zl_cons (zc_int .i64) (zl_nil)))) Try.underlying83 (by kernel_rfl) (by decide)
theorem agr86 : Agr Try.prog 86 (.st 3 [.str [], .own 3 0 [], .int .i64 0] [(0, 1), (1, 1), (2, 1)]) := agr_st (us := [.string ⟨#[]⟩, .slice none 0 0, .int .i64 0]) (by kernel_rfl) (zl_cons (zc_str) ( zl_cons (zc_own 3) ( zl_cons (zc_int .i64) (zl_nil)))) Try.underlying86 (by kernel_rfl) (by decide)
theorem agr93 : Agr Try.prog 93 (.sl 187 3 48 [.str [], .int .i64 0, .own 30 0 []]) := agr_sl (zv := .agg #[.string ⟨#[]⟩, .int .i64 0, .slice none 0 0]) (by kernel_rfl) (by kernel_rfl) (by kernel_rfl) (zl_cons (zc_str) ( zl_cons (zc_int .i64) ( zl_cons (zc_own 30) (zl_nil)))) rfl (by decide) (by decide) (by decide)
theorem agr95 : Agr Try.prog 95 (.st 1 [.own 187 0 []] [(0, 1)]) := agr_st (us := [.slice none 0 0]) (by kernel_rfl) (zl_cons (zc_own 187) (zl_nil)) Try.underlying95 (by kernel_rfl) (by decide)
theorem agr98 : Agr Try.prog 98 (.sl 157 3 48 [.str [], .int .i64 0, .own 30 0 []]) := agr_sl (zv := .agg #[.string ⟨#[]⟩, .int .i64 0, .slice none 0 0]) (by kernel_rfl) (by kernel_rfl) (by kernel_rfl) (zl_cons (zc_str) ( zl_cons (zc_int .i64) ( zl_cons (zc_own 30) (zl_nil)))) rfl (by decide) (by decide) (by decide)
theorem agr100 : Agr Try.prog 100 (.st 1 [.own 157 0 []] [(0, 1)]) := agr_st (us := [.slice none 0 0]) (by kernel_rfl) (zl_cons (zc_own 157) (zl_nil)) Try.underlying100 (by kernel_rfl) (by decide)
theorem agr111 : Agr Try.prog 111 (.sl 83 3 48 [.str [], .own 3 0 [], .int .i64 0]) := agr_sl (zv := .agg #[.string ⟨#[]⟩, .slice none 0 0, .int .i64 0]) (by kernel_rfl) (by kernel_rfl) (by kernel_rfl) (zl_cons (zc_str) ( zl_cons (zc_own 3) ( zl_cons (zc_int .i64) (zl_nil)))) rfl (by decide) (by decide) (by decide)
theorem agr114 : Agr Try.prog 114 (.sl 86 3 48 [.str [], .own 3 0 [], .int .i64 0]) := agr_sl (zv := .agg #[.string ⟨#[]⟩, .slice none 0 0, .int .i64 0]) (by kernel_rfl) (by kernel_rfl) (by kernel_rfl) (zl_cons (zc_str) ( zl_cons (zc_own 3) ( zl_cons (zc_int .i64) (zl_nil)))) rfl (by decide) (by decide) (by decide)
theorem agr150 : Agr Try.prog 150 (.st 2 [.str [], .own 3 0 []] [(0, 1), (1, 1)]) := agr_st (us := [.string ⟨#[]⟩, .slice none 0 0]) (by kernel_rfl) (zl_cons (zc_str) ( zl_cons (zc_own 3) (zl_nil))) Try.underlying150 (by kernel_rfl) (by decide)
theorem agr151 : Agr Try.prog 151 (.sc (.int .u64 0)) := agr_int .u64 (by kernel_rfl) (by kernel_rfl)
theorem agr157 : Agr Try.prog 157 (.st 3 [.str [], .int .i64 0, .own 30 0 []] [(0, 1), (1, 2)]) := agr_st (us := [.string ⟨#[]⟩, .int .i64 0, .slice none 0 0]) (by kernel_rfl) (zl_cons (zc_str) ( zl_cons (zc_int .i64) ( zl_cons (zc_own 30) (zl_nil)))) Try.underlying157 (by kernel_rfl) (by decide)
theorem agr163 : Agr Try.prog 163 (.st 2 [.int .i64 0, .int .i64 0] [(0, 1), (1, 1)]) := agr_st (us := [.int .i64 0, .int .i64 0]) (by kernel_rfl) (zl_cons (zc_int .i64) ( zl_cons (zc_int .i64) (zl_nil))) Try.underlying163 (by kernel_rfl) (by decide)
theorem agr165 : Agr Try.prog 165 (.st 2 [.int .i64 0, .int .i64 0] [(0, 1), (1, 1)]) := agr_st (us := [.int .i64 0, .int .i64 0]) (by kernel_rfl) (zl_cons (zc_int .i64) ( zl_cons (zc_int .i64) (zl_nil))) Try.underlying165 (by kernel_rfl) (by decide)
theorem agr166 : Agr Try.prog 166 (.sl 9 1 16 [.str []]) := agr_sl (zv := .string ⟨#[]⟩) (by kernel_rfl) (by kernel_rfl) (by kernel_rfl) (zl_cons (zc_str) (zl_nil)) rfl (by decide) (by decide) (by decide)
theorem agr171 : Agr Try.prog 171 (.st 2 [.str [], .own 3 0 []] [(0, 1), (1, 1)]) := agr_st (us := [.string ⟨#[]⟩, .slice none 0 0]) (by kernel_rfl) (zl_cons (zc_str) ( zl_cons (zc_own 3) (zl_nil))) Try.underlying171 (by kernel_rfl) (by decide)
theorem agr175 : Agr Try.prog 175 (.st 3 [.own 5 0 [], .int .i64 0, .int .i64 0] [(0, 1), (1, 1), (2, 1)]) := agr_st (us := [.slice none 0 0, .int .i64 0, .int .i64 0]) (by kernel_rfl) (zl_cons (zc_own 5) ( zl_cons (zc_int .i64) ( zl_cons (zc_int .i64) (zl_nil)))) Try.underlying175 (by kernel_rfl) (by decide)
theorem agr184 : Agr Try.prog 184 (.sl 4 1 1 [.bool false]) := agr_sl (zv := .bool false) (by kernel_rfl) (by kernel_rfl) (by kernel_rfl) (zl_cons (zc_bool) (zl_nil)) rfl (by decide) (by decide) (by decide)
theorem agr187 : Agr Try.prog 187 (.st 3 [.str [], .int .i64 0, .own 30 0 []] [(0, 1), (1, 2)]) := agr_st (us := [.string ⟨#[]⟩, .int .i64 0, .slice none 0 0]) (by kernel_rfl) (zl_cons (zc_str) ( zl_cons (zc_int .i64) ( zl_cons (zc_own 30) (zl_nil)))) Try.underlying187 (by kernel_rfl) (by decide)
theorem agr203 : Agr Try.prog 203 (.sc (.int .u32 0)) := agr_int .u32 (by kernel_rfl) (by kernel_rfl)
def tb : Tb := fun t => match t with
  | 2 => some (.sc (.int .i64 0))
  | 3 => some (.sc (.int .i64 0))
  | 4 => some (.sc (.bool false))
  | 5 => some (.sc (.int .u8 0))
  | 9 => some (.sc (.str []))
  | 12 => some (.sc (.int .u64 0))
  | 21 => some (.sc (.int .i32 0))
  | 22 => some (.sl 30 1 24 [.own 3 0 []])
  | 24 => some (.st 2 [.int .i64 0, .own 30 0 []] [(0, 1), (1, 1)])
  | 30 => some (.sl 3 1 8 [.int .i64 0])
  | 31 => some (.sl 165 2 16 [.int .i64 0, .int .i64 0])
  | 33 => some (.st 5 [.own 3 0 [], .own 165 0 [], .own 3 0 [], .int .i64 0, .int .i64 0] [(0, 1), (1, 1), (2, 1), (3, 1), (4, 1)])
  | 36 => some (.sl 163 2 16 [.int .i64 0, .int .i64 0])
  | 38 => some (.st 5 [.own 3 0 [], .own 163 0 [], .own 3 0 [], .int .i64 0, .int .i64 0] [(0, 1), (1, 1), (2, 1), (3, 1), (4, 1)])
  | 42 => some (.st 2 [.int .i64 0, .own 30 0 []] [(0, 1), (1, 1)])
  | 48 => some (.sl 171 2 40 [.str [], .own 3 0 []])
  | 50 => some (.st 3 [.int .i64 0, .own 171 0 [], .own 3 0 []] [(0, 1), (1, 1), (2, 1)])
  | 54 => some (.sl 150 2 40 [.str [], .own 3 0 []])
  | 56 => some (.st 3 [.int .i64 0, .own 150 0 [], .own 3 0 []] [(0, 1), (1, 1), (2, 1)])
  | 62 => some (.sl 5 1 1 [.int .u8 0])
  | 71 => some (.sl 95 1 24 [.own 187 0 []])
  | 73 => some (.st 2 [.int .i64 0, .own 95 0 []] [(0, 1), (1, 1)])
  | 76 => some (.sl 100 1 24 [.own 157 0 []])
  | 78 => some (.st 2 [.int .i64 0, .own 100 0 []] [(0, 1), (1, 1)])
  | 83 => some (.st 3 [.str [], .own 3 0 [], .int .i64 0] [(0, 1), (1, 1), (2, 1)])
  | 86 => some (.st 3 [.str [], .own 3 0 [], .int .i64 0] [(0, 1), (1, 1), (2, 1)])
  | 93 => some (.sl 187 3 48 [.str [], .int .i64 0, .own 30 0 []])
  | 95 => some (.st 1 [.own 187 0 []] [(0, 1)])
  | 98 => some (.sl 157 3 48 [.str [], .int .i64 0, .own 30 0 []])
  | 100 => some (.st 1 [.own 157 0 []] [(0, 1)])
  | 111 => some (.sl 83 3 48 [.str [], .own 3 0 [], .int .i64 0])
  | 114 => some (.sl 86 3 48 [.str [], .own 3 0 [], .int .i64 0])
  | 150 => some (.st 2 [.str [], .own 3 0 []] [(0, 1), (1, 1)])
  | 151 => some (.sc (.int .u64 0))
  | 157 => some (.st 3 [.str [], .int .i64 0, .own 30 0 []] [(0, 1), (1, 2)])
  | 163 => some (.st 2 [.int .i64 0, .int .i64 0] [(0, 1), (1, 1)])
  | 165 => some (.st 2 [.int .i64 0, .int .i64 0] [(0, 1), (1, 1)])
  | 166 => some (.sl 9 1 16 [.str []])
  | 171 => some (.st 2 [.str [], .own 3 0 []] [(0, 1), (1, 1)])
  | 175 => some (.st 3 [.own 5 0 [], .int .i64 0, .int .i64 0] [(0, 1), (1, 1), (2, 1)])
  | 184 => some (.sl 4 1 1 [.bool false])
  | 187 => some (.st 3 [.str [], .int .i64 0, .own 30 0 []] [(0, 1), (1, 2)])
  | 203 => some (.sc (.int .u32 0))
  | _ => none
theorem tb_2 : tb 2 = some (.sc (.int .i64 0)) := rfl
theorem tb_3 : tb 3 = some (.sc (.int .i64 0)) := rfl
theorem tb_4 : tb 4 = some (.sc (.bool false)) := rfl
theorem tb_5 : tb 5 = some (.sc (.int .u8 0)) := rfl
theorem tb_9 : tb 9 = some (.sc (.str [])) := rfl
theorem tb_12 : tb 12 = some (.sc (.int .u64 0)) := rfl
theorem tb_21 : tb 21 = some (.sc (.int .i32 0)) := rfl
theorem tb_22 : tb 22 = some (.sl 30 1 24 [.own 3 0 []]) := rfl
theorem tb_24 : tb 24 = some (.st 2 [.int .i64 0, .own 30 0 []] [(0, 1), (1, 1)]) := rfl
theorem tb_30 : tb 30 = some (.sl 3 1 8 [.int .i64 0]) := rfl
theorem tb_31 : tb 31 = some (.sl 165 2 16 [.int .i64 0, .int .i64 0]) := rfl
theorem tb_33 : tb 33 = some (.st 5 [.own 3 0 [], .own 165 0 [], .own 3 0 [], .int .i64 0, .int .i64 0] [(0, 1), (1, 1), (2, 1), (3, 1), (4, 1)]) := rfl
theorem tb_36 : tb 36 = some (.sl 163 2 16 [.int .i64 0, .int .i64 0]) := rfl
theorem tb_38 : tb 38 = some (.st 5 [.own 3 0 [], .own 163 0 [], .own 3 0 [], .int .i64 0, .int .i64 0] [(0, 1), (1, 1), (2, 1), (3, 1), (4, 1)]) := rfl
theorem tb_42 : tb 42 = some (.st 2 [.int .i64 0, .own 30 0 []] [(0, 1), (1, 1)]) := rfl
theorem tb_48 : tb 48 = some (.sl 171 2 40 [.str [], .own 3 0 []]) := rfl
theorem tb_50 : tb 50 = some (.st 3 [.int .i64 0, .own 171 0 [], .own 3 0 []] [(0, 1), (1, 1), (2, 1)]) := rfl
theorem tb_54 : tb 54 = some (.sl 150 2 40 [.str [], .own 3 0 []]) := rfl
theorem tb_56 : tb 56 = some (.st 3 [.int .i64 0, .own 150 0 [], .own 3 0 []] [(0, 1), (1, 1), (2, 1)]) := rfl
theorem tb_62 : tb 62 = some (.sl 5 1 1 [.int .u8 0]) := rfl
theorem tb_71 : tb 71 = some (.sl 95 1 24 [.own 187 0 []]) := rfl
theorem tb_73 : tb 73 = some (.st 2 [.int .i64 0, .own 95 0 []] [(0, 1), (1, 1)]) := rfl
theorem tb_76 : tb 76 = some (.sl 100 1 24 [.own 157 0 []]) := rfl
theorem tb_78 : tb 78 = some (.st 2 [.int .i64 0, .own 100 0 []] [(0, 1), (1, 1)]) := rfl
theorem tb_83 : tb 83 = some (.st 3 [.str [], .own 3 0 [], .int .i64 0] [(0, 1), (1, 1), (2, 1)]) := rfl
theorem tb_86 : tb 86 = some (.st 3 [.str [], .own 3 0 [], .int .i64 0] [(0, 1), (1, 1), (2, 1)]) := rfl
theorem tb_93 : tb 93 = some (.sl 187 3 48 [.str [], .int .i64 0, .own 30 0 []]) := rfl
theorem tb_95 : tb 95 = some (.st 1 [.own 187 0 []] [(0, 1)]) := rfl
theorem tb_98 : tb 98 = some (.sl 157 3 48 [.str [], .int .i64 0, .own 30 0 []]) := rfl
theorem tb_100 : tb 100 = some (.st 1 [.own 157 0 []] [(0, 1)]) := rfl
theorem tb_111 : tb 111 = some (.sl 83 3 48 [.str [], .own 3 0 [], .int .i64 0]) := rfl
theorem tb_114 : tb 114 = some (.sl 86 3 48 [.str [], .own 3 0 [], .int .i64 0]) := rfl
theorem tb_150 : tb 150 = some (.st 2 [.str [], .own 3 0 []] [(0, 1), (1, 1)]) := rfl
theorem tb_151 : tb 151 = some (.sc (.int .u64 0)) := rfl
theorem tb_157 : tb 157 = some (.st 3 [.str [], .int .i64 0, .own 30 0 []] [(0, 1), (1, 2)]) := rfl
theorem tb_163 : tb 163 = some (.st 2 [.int .i64 0, .int .i64 0] [(0, 1), (1, 1)]) := rfl
theorem tb_165 : tb 165 = some (.st 2 [.int .i64 0, .int .i64 0] [(0, 1), (1, 1)]) := rfl
theorem tb_166 : tb 166 = some (.sl 9 1 16 [.str []]) := rfl
theorem tb_171 : tb 171 = some (.st 2 [.str [], .own 3 0 []] [(0, 1), (1, 1)]) := rfl
theorem tb_175 : tb 175 = some (.st 3 [.own 5 0 [], .int .i64 0, .int .i64 0] [(0, 1), (1, 1), (2, 1)]) := rfl
theorem tb_184 : tb 184 = some (.sl 4 1 1 [.bool false]) := rfl
theorem tb_187 : tb 187 = some (.st 3 [.str [], .int .i64 0, .own 30 0 []] [(0, 1), (1, 2)]) := rfl
theorem tb_203 : tb 203 = some (.sc (.int .u32 0)) := rfl
attribute [go_sem] tb_2 tb_3 tb_4 tb_5 tb_9 tb_12 tb_21 tb_22 tb_24 tb_30 tb_31 tb_33 tb_36 tb_38 tb_42 tb_48 tb_50 tb_54 tb_56 tb_62 tb_71 tb_73 tb_76 tb_78 tb_83 tb_86 tb_93 tb_95 tb_98 tb_100 tb_111 tb_114 tb_150 tb_151 tb_157 tb_163 tb_165 tb_166 tb_171 tb_175 tb_184 tb_187 tb_203
theorem tbOk : TbOk Try.prog tb := by
  intro t d h
  unfold tb at h
  split at h
  · injection h with h; subst h; exact agr2
  · injection h with h; subst h; exact agr3
  · injection h with h; subst h; exact agr4
  · injection h with h; subst h; exact agr5
  · injection h with h; subst h; exact agr9
  · injection h with h; subst h; exact agr12
  · injection h with h; subst h; exact agr21
  · injection h with h; subst h; exact agr22
  · injection h with h; subst h; exact agr24
  · injection h with h; subst h; exact agr30
  · injection h with h; subst h; exact agr31
  · injection h with h; subst h; exact agr33
  · injection h with h; subst h; exact agr36
  · injection h with h; subst h; exact agr38
  · injection h with h; subst h; exact agr42
  · injection h with h; subst h; exact agr48
  · injection h with h; subst h; exact agr50
  · injection h with h; subst h; exact agr54
  · injection h with h; subst h; exact agr56
  · injection h with h; subst h; exact agr62
  · injection h with h; subst h; exact agr71
  · injection h with h; subst h; exact agr73
  · injection h with h; subst h; exact agr76
  · injection h with h; subst h; exact agr78
  · injection h with h; subst h; exact agr83
  · injection h with h; subst h; exact agr86
  · injection h with h; subst h; exact agr93
  · injection h with h; subst h; exact agr95
  · injection h with h; subst h; exact agr98
  · injection h with h; subst h; exact agr100
  · injection h with h; subst h; exact agr111
  · injection h with h; subst h; exact agr114
  · injection h with h; subst h; exact agr150
  · injection h with h; subst h; exact agr151
  · injection h with h; subst h; exact agr157
  · injection h with h; subst h; exact agr163
  · injection h with h; subst h; exact agr165
  · injection h with h; subst h; exact agr166
  · injection h with h; subst h; exact agr171
  · injection h with h; subst h; exact agr175
  · injection h with h; subst h; exact agr184
  · injection h with h; subst h; exact agr187
  · injection h with h; subst h; exact agr203
  · cases h
theorem mixed : Try.prog.follows .mixedOrders = true := by kernel_rfl
end Go.Proofs.Ytkmkbpphdalgoaa
