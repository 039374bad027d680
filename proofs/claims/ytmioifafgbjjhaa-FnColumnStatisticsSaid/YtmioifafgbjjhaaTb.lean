/-
  The pure machine's table of this program's types, printed by gentab.py, and that it is so. No conditions.
-/
import Derived.Test.YtmioifafgbjjhaaKb
import Derived.Test.YtmioifafgbjjhaaProg
namespace Go.Proofs.Ytmioifafgbjjhaa
open Go.RowKit
set_option linter.unusedVariables false
set_option maxRecDepth 100000
theorem agr2 : Agr Try.prog 2 (.sc (.int .i64 0)) := agr_int .i64 (by kernel_rfl) (by kernel_rfl)
theorem agr3 : Agr Try.prog 3 (.sc (.int .i64 0)) := agr_int .i64 (by kernel_rfl) (by kernel_rfl)
theorem agr4 : Agr Try.prog 4 (.sc (.bool false)) := agr_bool (by kernel_rfl) (by kernel_rfl)
theorem agr5 : Agr Try.prog 5 (.sc (.int .u8 0)) := agr_int .u8 (by kernel_rfl) (by kernel_rfl)
theorem agr9 : Agr Try.prog 9 (.sc (.str [])) := agr_str (by kernel_rfl) (by kernel_rfl)
theorem agr12 : Agr Try.prog 12 (.sc (.int .u64 0)) := agr_int .u64 (by kernel_rfl) (by kernel_rfl)
theorem agr21 : Agr Try.prog 21 (.sc (.int .i32 0)) := agr_int .i32 (by kernel_rfl) (by kernel_rfl)
theorem agr22 : Agr Try.prog 22 (.sl 5 1 1 [.int .u8 0]) := agr_sl (zv := .int .u8 0) (by kernel_rfl) (by kernel_rfl) (by kernel_rfl) (zl_cons (zc_int .u8) (zl_nil)) rfl (by decide) (by decide) (by decide)
theorem agr24 : Agr Try.prog 24 (.sl 31 1 24 [.own 3 0 []]) := agr_sl (zv := .slice none 0 0) (by kernel_rfl) (by kernel_rfl) (by kernel_rfl) (zl_cons (zc_own 3) (zl_nil)) rfl (by decide) (by decide) (by decide)
theorem agr26 : Agr Try.prog 26 (.st 2 [.int .i64 0, .own 31 0 []] [(0, 1), (1, 1)]) := agr_st (us := [.int .i64 0, .slice none 0 0]) (by kernel_rfl) (zl_cons (zc_int .i64) ( zl_cons (zc_own 31) (zl_nil))) Try.underlying26 (by kernel_rfl) (by decide)
theorem agr31 : Agr Try.prog 31 (.sl 3 1 8 [.int .i64 0]) := agr_sl (zv := .int .i64 0) (by kernel_rfl) (by kernel_rfl) (by kernel_rfl) (zl_cons (zc_int .i64) (zl_nil)) rfl (by decide) (by decide) (by decide)
theorem agr40 : Agr Try.prog 40 (.sl 107 3 48 [.str [], .int .i64 0, .own 31 0 []]) := agr_sl (zv := .agg #[.string ⟨#[]⟩, .int .i64 0, .slice none 0 0]) (by kernel_rfl) (by kernel_rfl) (by kernel_rfl) (zl_cons (zc_str) ( zl_cons (zc_int .i64) ( zl_cons (zc_own 31) (zl_nil)))) rfl (by decide) (by decide) (by decide)
theorem agr42 : Agr Try.prog 42 (.st 1 [.own 107 0 []] [(0, 1)]) := agr_st (us := [.slice none 0 0]) (by kernel_rfl) (zl_cons (zc_own 107) (zl_nil)) Try.underlying42 (by kernel_rfl) (by decide)
theorem agr44 : Agr Try.prog 44 (.st 3 [.str [], .own 3 0 [], .int .i64 0] [(0, 1), (1, 1), (2, 1)]) := agr_st (us := [.string ⟨#[]⟩, .slice none 0 0, .int .i64 0]) (by kernel_rfl) (zl_cons (zc_str) ( zl_cons (zc_own 3) ( zl_cons (zc_int .i64) (zl_nil)))) Try.underlying44 (by kernel_rfl) (by decide)
theorem agr51 : Agr Try.prog 51 (.sl 211 2 40 [.str [], .own 3 0 []]) := agr_sl (zv := .agg #[.string ⟨#[]⟩, .slice none 0 0]) (by kernel_rfl) (by kernel_rfl) (by kernel_rfl) (zl_cons (zc_str) ( zl_cons (zc_own 3) (zl_nil))) rfl (by decide) (by decide) (by decide)
theorem agr53 : Agr Try.prog 53 (.st 3 [.int .i64 0, .own 211 0 [], .own 3 0 []] [(0, 1), (1, 1), (2, 1)]) := agr_st (us := [.int .i64 0, .slice none 0 0, .slice none 0 0]) (by kernel_rfl) (zl_cons (zc_int .i64) ( zl_cons (zc_own 211) ( zl_cons (zc_own 3) (zl_nil)))) Try.underlying53 (by kernel_rfl) (by decide)
theorem agr57 : Agr Try.prog 57 (.sl 142 2 40 [.str [], .own 3 0 []]) := agr_sl (zv := .agg #[.string ⟨#[]⟩, .slice none 0 0]) (by kernel_rfl) (by kernel_rfl) (by kernel_rfl) (zl_cons (zc_str) ( zl_cons (zc_own 3) (zl_nil))) rfl (by decide) (by decide) (by decide)
theorem agr59 : Agr Try.prog 59 (.st 3 [.int .i64 0, .own 142 0 [], .own 3 0 []] [(0, 1), (1, 1), (2, 1)]) := agr_st (us := [.int .i64 0, .slice none 0 0, .slice none 0 0]) (by kernel_rfl) (zl_cons (zc_int .i64) ( zl_cons (zc_own 142) ( zl_cons (zc_own 3) (zl_nil)))) Try.underlying59 (by kernel_rfl) (by decide)
theorem agr68 : Agr Try.prog 68 (.sl 42 1 24 [.own 107 0 []]) := agr_sl (zv := .agg #[.slice none 0 0]) (by kernel_rfl) (by kernel_rfl) (by kernel_rfl) (zl_cons (zc_own 107) (zl_nil)) rfl (by decide) (by decide) (by decide)
theorem agr70 : Agr Try.prog 70 (.st 2 [.int .i64 0, .own 42 0 []] [(0, 1), (1, 1)]) := agr_st (us := [.int .i64 0, .slice none 0 0]) (by kernel_rfl) (zl_cons (zc_int .i64) ( zl_cons (zc_own 42) (zl_nil))) Try.underlying70 (by kernel_rfl) (by decide)
theorem agr72 : Agr Try.prog 72 (.st 5 [.str [], .int .i64 0, .own 31 0 [], .int .i64 0, .own 31 0 []] [(0, 1), (1, 2), (3, 2)]) := agr_st (us := [.string ⟨#[]⟩, .int .i64 0, .slice none 0 0, .int .i64 0, .slice none 0 0]) (by kernel_rfl) (zl_cons (zc_str) ( zl_cons (zc_int .i64) ( zl_cons (zc_own 31) ( zl_cons (zc_int .i64) ( zl_cons (zc_own 31) (zl_nil)))))) Try.underlying72 (by kernel_rfl) (by decide)
theorem agr81 : Agr Try.prog 81 (.sl 222 1 24 [.own 263 0 []]) := agr_sl (zv := .agg #[.slice none 0 0]) (by kernel_rfl) (by kernel_rfl) (by kernel_rfl) (zl_cons (zc_own 263) (zl_nil)) rfl (by decide) (by decide) (by decide)
theorem agr83 : Agr Try.prog 83 (.st 2 [.int .i64 0, .own 222 0 []] [(0, 1), (1, 1)]) := agr_st (us := [.int .i64 0, .slice none 0 0]) (by kernel_rfl) (zl_cons (zc_int .i64) ( zl_cons (zc_own 222) (zl_nil))) Try.underlying83 (by kernel_rfl) (by decide)
theorem agr84 : Agr Try.prog 84 (.sl 161 6 112 [.int .i64 0, .own 3 0 [], .own 3 0 [], .int .i64 0, .own 211 0 [], .own 3 0 []]) := agr_sl (zv := .agg #[.int .i64 0, .slice none 0 0, .slice none 0 0, .int .i64 0, .slice none 0 0, .slice none 0 0]) (by kernel_rfl) (by kernel_rfl) (by kernel_rfl) (zl_cons (zc_int .i64) ( zl_cons (zc_own 3) ( zl_cons (zc_own 3) ( zl_cons (zc_int .i64) ( zl_cons (zc_own 211) ( zl_cons (zc_own 3) (zl_nil))))))) rfl (by decide) (by decide) (by decide)
theorem agr89 : Agr Try.prog 89 (.sl 163 6 112 [.int .i64 0, .own 3 0 [], .own 3 0 [], .int .i64 0, .own 142 0 [], .own 3 0 []]) := agr_sl (zv := .agg #[.int .i64 0, .slice none 0 0, .slice none 0 0, .int .i64 0, .slice none 0 0, .slice none 0 0]) (by kernel_rfl) (by kernel_rfl) (by kernel_rfl) (zl_cons (zc_int .i64) ( zl_cons (zc_own 3) ( zl_cons (zc_own 3) ( zl_cons (zc_int .i64) ( zl_cons (zc_own 142) ( zl_cons (zc_own 3) (zl_nil))))))) rfl (by decide) (by decide) (by decide)
theorem agr95 : Agr Try.prog 95 (.st 2 [.int .i64 0, .own 31 0 []] [(0, 1), (1, 1)]) := agr_st (us := [.int .i64 0, .slice none 0 0]) (by kernel_rfl) (zl_cons (zc_int .i64) ( zl_cons (zc_own 31) (zl_nil))) Try.underlying95 (by kernel_rfl) (by decide)
theorem agr97 : Agr Try.prog 97 (.st 5 [.str [], .int .i64 0, .own 31 0 [], .int .i64 0, .own 31 0 []] [(0, 1), (1, 2), (3, 2)]) := agr_st (us := [.string ⟨#[]⟩, .int .i64 0, .slice none 0 0, .int .i64 0, .slice none 0 0]) (by kernel_rfl) (zl_cons (zc_str) ( zl_cons (zc_int .i64) ( zl_cons (zc_own 31) ( zl_cons (zc_int .i64) ( zl_cons (zc_own 31) (zl_nil)))))) Try.underlying97 (by kernel_rfl) (by decide)
theorem agr107 : Agr Try.prog 107 (.st 3 [.str [], .int .i64 0, .own 31 0 []] [(0, 1), (1, 2)]) := agr_st (us := [.string ⟨#[]⟩, .int .i64 0, .slice none 0 0]) (by kernel_rfl) (zl_cons (zc_str) ( zl_cons (zc_int .i64) ( zl_cons (zc_own 31) (zl_nil)))) Try.underlying107 (by kernel_rfl) (by decide)
theorem agr115 : Agr Try.prog 115 (.st 2 [.int .i64 0, .int .i64 0] [(0, 1), (1, 1)]) := agr_st (us := [.int .i64 0, .int .i64 0]) (by kernel_rfl) (zl_cons (zc_int .i64) ( zl_cons (zc_int .i64) (zl_nil))) Try.underlying115 (by kernel_rfl) (by decide)
theorem agr116 : Agr Try.prog 116 (.sl 115 2 16 [.int .i64 0, .int .i64 0]) := agr_sl (zv := .agg #[.int .i64 0, .int .i64 0]) (by kernel_rfl) (by kernel_rfl) (by kernel_rfl) (zl_cons (zc_int .i64) ( zl_cons (zc_int .i64) (zl_nil))) rfl (by decide) (by decide) (by decide)
theorem agr117 : Agr Try.prog 117 (.sl 44 3 48 [.str [], .own 3 0 [], .int .i64 0]) := agr_sl (zv := .agg #[.string ⟨#[]⟩, .slice none 0 0, .int .i64 0]) (by kernel_rfl) (by kernel_rfl) (by kernel_rfl) (zl_cons (zc_str) ( zl_cons (zc_own 3) ( zl_cons (zc_int .i64) (zl_nil)))) rfl (by decide) (by decide) (by decide)
theorem agr142 : Agr Try.prog 142 (.st 2 [.str [], .own 3 0 []] [(0, 1), (1, 1)]) := agr_st (us := [.string ⟨#[]⟩, .slice none 0 0]) (by kernel_rfl) (zl_cons (zc_str) ( zl_cons (zc_own 3) (zl_nil))) Try.underlying142 (by kernel_rfl) (by decide)
theorem agr161 : Agr Try.prog 161 (.st 6 [.int .i64 0, .own 3 0 [], .own 3 0 [], .int .i64 0, .own 211 0 [], .own 3 0 []] [(0, 1), (1, 1), (2, 1), (3, 3)]) := agr_st (us := [.int .i64 0, .slice none 0 0, .slice none 0 0, .int .i64 0, .slice none 0 0, .slice none 0 0]) (by kernel_rfl) (zl_cons (zc_int .i64) ( zl_cons (zc_own 3) ( zl_cons (zc_own 3) ( zl_cons (zc_int .i64) ( zl_cons (zc_own 211) ( zl_cons (zc_own 3) (zl_nil))))))) Try.underlying161 (by kernel_rfl) (by decide)
theorem agr163 : Agr Try.prog 163 (.st 6 [.int .i64 0, .own 3 0 [], .own 3 0 [], .int .i64 0, .own 142 0 [], .own 3 0 []] [(0, 1), (1, 1), (2, 1), (3, 3)]) := agr_st (us := [.int .i64 0, .slice none 0 0, .slice none 0 0, .int .i64 0, .slice none 0 0, .slice none 0 0]) (by kernel_rfl) (zl_cons (zc_int .i64) ( zl_cons (zc_own 3) ( zl_cons (zc_own 3) ( zl_cons (zc_int .i64) ( zl_cons (zc_own 142) ( zl_cons (zc_own 3) (zl_nil))))))) Try.underlying163 (by kernel_rfl) (by decide)
theorem agr171 : Agr Try.prog 171 (.sl 9 1 16 [.str []]) := agr_sl (zv := .string ⟨#[]⟩) (by kernel_rfl) (by kernel_rfl) (by kernel_rfl) (zl_cons (zc_str) (zl_nil)) rfl (by decide) (by decide) (by decide)
theorem agr178 : Agr Try.prog 178 (.st 3 [.own 3 0 [], .int .i64 0, .own 31 0 []] [(0, 1), (1, 2)]) := agr_st (us := [.slice none 0 0, .int .i64 0, .slice none 0 0]) (by kernel_rfl) (zl_cons (zc_own 3) ( zl_cons (zc_int .i64) ( zl_cons (zc_own 31) (zl_nil)))) Try.underlying178 (by kernel_rfl) (by decide)
theorem agr183 : Agr Try.prog 183 (.sl 231 2 32 [.int .i64 0, .own 31 0 []]) := agr_sl (zv := .agg #[.int .i64 0, .slice none 0 0]) (by kernel_rfl) (by kernel_rfl) (by kernel_rfl) (zl_cons (zc_int .i64) ( zl_cons (zc_own 31) (zl_nil))) rfl (by decide) (by decide) (by decide)
theorem agr195 : Agr Try.prog 195 (.sc (.int .u64 0)) := agr_int .u64 (by kernel_rfl) (by kernel_rfl)
theorem agr203 : Agr Try.prog 203 (.st 3 [.own 5 0 [], .int .i64 0, .int .i64 0] [(0, 1), (1, 1), (2, 1)]) := agr_st (us := [.slice none 0 0, .int .i64 0, .int .i64 0]) (by kernel_rfl) (zl_cons (zc_own 5) ( zl_cons (zc_int .i64) ( zl_cons (zc_int .i64) (zl_nil)))) Try.underlying203 (by kernel_rfl) (by decide)
theorem agr211 : Agr Try.prog 211 (.st 2 [.str [], .own 3 0 []] [(0, 1), (1, 1)]) := agr_st (us := [.string ⟨#[]⟩, .slice none 0 0]) (by kernel_rfl) (zl_cons (zc_str) ( zl_cons (zc_own 3) (zl_nil))) Try.underlying211 (by kernel_rfl) (by decide)
theorem agr220 : Agr Try.prog 220 (.sl 263 3 48 [.str [], .int .i64 0, .own 31 0 []]) := agr_sl (zv := .agg #[.string ⟨#[]⟩, .int .i64 0, .slice none 0 0]) (by kernel_rfl) (by kernel_rfl) (by kernel_rfl) (zl_cons (zc_str) ( zl_cons (zc_int .i64) ( zl_cons (zc_own 31) (zl_nil)))) rfl (by decide) (by decide) (by decide)
theorem agr222 : Agr Try.prog 222 (.st 1 [.own 263 0 []] [(0, 1)]) := agr_st (us := [.slice none 0 0]) (by kernel_rfl) (zl_cons (zc_own 263) (zl_nil)) Try.underlying222 (by kernel_rfl) (by decide)
theorem agr231 : Agr Try.prog 231 (.st 2 [.int .i64 0, .own 31 0 []] [(0, 1), (1, 1)]) := agr_st (us := [.int .i64 0, .slice none 0 0]) (by kernel_rfl) (zl_cons (zc_int .i64) ( zl_cons (zc_own 31) (zl_nil))) Try.underlying231 (by kernel_rfl) (by decide)
theorem agr240 : Agr Try.prog 240 (.sl 4 1 1 [.bool false]) := agr_sl (zv := .bool false) (by kernel_rfl) (by kernel_rfl) (by kernel_rfl) (zl_cons (zc_bool) (zl_nil)) rfl (by decide) (by decide) (by decide)
theorem agr243 : Agr Try.prog 243 (.st 1 [.own 3 0 []] [(0, 1)]) := agr_st (us := [.slice none 0 0]) (by kernel_rfl) (zl_cons (zc_own 3) (zl_nil)) Try.underlying243 (by kernel_rfl) (by decide)
theorem agr263 : Agr Try.prog 263 (.st 3 [.str [], .int .i64 0, .own 31 0 []] [(0, 1), (1, 2)]) := agr_st (us := [.string ⟨#[]⟩, .int .i64 0, .slice none 0 0]) (by kernel_rfl) (zl_cons (zc_str) ( zl_cons (zc_int .i64) ( zl_cons (zc_own 31) (zl_nil)))) Try.underlying263 (by kernel_rfl) (by decide)
theorem agr277 : Agr Try.prog 277 (.sc (.int .u32 0)) := agr_int .u32 (by kernel_rfl) (by kernel_rfl)
def tb : Tb := fun t => match t with
  | 2 => some (.sc (.int .i64 0))
  | 3 => some (.sc (.int .i64 0))
  | 4 => some (.sc (.bool false))
  | 5 => some (.sc (.int .u8 0))
  | 9 => some (.sc (.str []))
  | 12 => some (.sc (.int .u64 0))
  | 21 => some (.sc (.int .i32 0))
  | 22 => some (.sl 5 1 1 [.int .u8 0])
  | 24 => some (.sl 31 1 24 [.own 3 0 []])
  | 26 => some (.st 2 [.int .i64 0, .own 31 0 []] [(0, 1), (1, 1)])
  | 31 => some (.sl 3 1 8 [.int .i64 0])
  | 40 => some (.sl 107 3 48 [.str [], .int .i64 0, .own 31 0 []])
  | 42 => some (.st 1 [.own 107 0 []] [(0, 1)])
  | 44 => some (.st 3 [.str [], .own 3 0 [], .int .i64 0] [(0, 1), (1, 1), (2, 1)])
  | 51 => some (.sl 211 2 40 [.str [], .own 3 0 []])
  | 53 => some (.st 3 [.int .i64 0, .own 211 0 [], .own 3 0 []] [(0, 1), (1, 1), (2, 1)])
  | 57 => some (.sl 142 2 40 [.str [], .own 3 0 []])
  | 59 => some (.st 3 [.int .i64 0, .own 142 0 [], .own 3 0 []] [(0, 1), (1, 1), (2, 1)])
  | 68 => some (.sl 42 1 24 [.own 107 0 []])
  | 70 => some (.st 2 [.int .i64 0, .own 42 0 []] [(0, 1), (1, 1)])
  | 72 => some (.st 5 [.str [], .int .i64 0, .own 31 0 [], .int .i64 0, .own 31 0 []] [(0, 1), (1, 2), (3, 2)])
  | 81 => some (.sl 222 1 24 [.own 263 0 []])
  | 83 => some (.st 2 [.int .i64 0, .own 222 0 []] [(0, 1), (1, 1)])
  | 84 => some (.sl 161 6 112 [.int .i64 0, .own 3 0 [], .own 3 0 [], .int .i64 0, .own 211 0 [], .own 3 0 []])
  | 89 => some (.sl 163 6 112 [.int .i64 0, .own 3 0 [], .own 3 0 [], .int .i64 0, .own 142 0 [], .own 3 0 []])
  | 95 => some (.st 2 [.int .i64 0, .own 31 0 []] [(0, 1), (1, 1)])
  | 97 => some (.st 5 [.str [], .int .i64 0, .own 31 0 [], .int .i64 0, .own 31 0 []] [(0, 1), (1, 2), (3, 2)])
  | 107 => some (.st 3 [.str [], .int .i64 0, .own 31 0 []] [(0, 1), (1, 2)])
  | 115 => some (.st 2 [.int .i64 0, .int .i64 0] [(0, 1), (1, 1)])
  | 116 => some (.sl 115 2 16 [.int .i64 0, .int .i64 0])
  | 117 => some (.sl 44 3 48 [.str [], .own 3 0 [], .int .i64 0])
  | 142 => some (.st 2 [.str [], .own 3 0 []] [(0, 1), (1, 1)])
  | 161 => some (.st 6 [.int .i64 0, .own 3 0 [], .own 3 0 [], .int .i64 0, .own 211 0 [], .own 3 0 []] [(0, 1), (1, 1), (2, 1), (3, 3)])
  | 163 => some (.st 6 [.int .i64 0, .own 3 0 [], .own 3 0 [], .int .i64 0, .own 142 0 [], .own 3 0 []] [(0, 1), (1, 1), (2, 1), (3, 3)])
  | 171 => some (.sl 9 1 16 [.str []])
  | 178 => some (.st 3 [.own 3 0 [], .int .i64 0, .own 31 0 []] [(0, 1), (1, 2)])
  | 183 => some (.sl 231 2 32 [.int .i64 0, .own 31 0 []])
  | 195 => some (.sc (.int .u64 0))
  | 203 => some (.st 3 [.own 5 0 [], .int .i64 0, .int .i64 0] [(0, 1), (1, 1), (2, 1)])
  | 211 => some (.st 2 [.str [], .own 3 0 []] [(0, 1), (1, 1)])
  | 220 => some (.sl 263 3 48 [.str [], .int .i64 0, .own 31 0 []])
  | 222 => some (.st 1 [.own 263 0 []] [(0, 1)])
  | 231 => some (.st 2 [.int .i64 0, .own 31 0 []] [(0, 1), (1, 1)])
  | 240 => some (.sl 4 1 1 [.bool false])
  | 243 => some (.st 1 [.own 3 0 []] [(0, 1)])
  | 263 => some (.st 3 [.str [], .int .i64 0, .own 31 0 []] [(0, 1), (1, 2)])
  | 277 => some (.sc (.int .u32 0))
  | _ => none
theorem tbOk : TbOk Try.prog tb := by
  intro t d h
  unfold tb at h
  split at h
  · injection h with h; subst h; exact agr2
  · injection h with h; subst h; exact agr3
  · injection h with h; subst h; exact agr4
  · injection h with h; subst h; exact agr5
  · injection h with h; subst h; exact agr9
  · injection h with h; subst h; exact agr12
  · injection h with h; subst h; exact agr21
  · injection h with h; subst h; exact agr22
  · injection h with h; subst h; exact agr24
  · injection h with h; subst h; exact agr26
  · injection h with h; subst h; exact agr31
  · injection h with h; subst h; exact agr40
  · injection h with h; subst h; exact agr42
  · injection h with h; subst h; exact agr44
  · injection h with h; subst h; exact agr51
  · injection h with h; subst h; exact agr53
  · injection h with h; subst h; exact agr57
  · injection h with h; subst h; exact agr59
  · injection h with h; subst h; exact agr68
  · injection h with h; subst h; exact agr70
  · injection h with h; subst h; exact agr72
  · injection h with h; subst h; exact agr81
  · injection h with h; subst h; exact agr83
  · injection h with h; subst h; exact agr84
  · injection h with h; subst h; exact agr89
  · injection h with h; subst h; exact agr95
  · injection h with h; subst h; exact agr97
  · injection h with h; subst h; exact agr107
  · injection h with h; subst h; exact agr115
  · injection h with h; subst h; exact agr116
  · injection h with h; subst h; exact agr117
  · injection h with h; subst h; exact agr142
  · injection h with h; subst h; exact agr161
  · injection h with h; subst h; exact agr163
  · injection h with h; subst h; exact agr171
  · injection h with h; subst h; exact agr178
  · injection h with h; subst h; exact agr183
  · injection h with h; subst h; exact agr195
  · injection h with h; subst h; exact agr203
  · injection h with h; subst h; exact agr211
  · injection h with h; subst h; exact agr220
  · injection h with h; subst h; exact agr222
  · injection h with h; subst h; exact agr231
  · injection h with h; subst h; exact agr240
  · injection h with h; subst h; exact agr243
  · injection h with h; subst h; exact agr263
  · injection h with h; subst h; exact agr277
  · cases h
theorem mixed : Try.prog.follows .mixedOrders = true := by kernel_rfl
abbrev LitF (f : Nat) (bx : List Nat) (base : List (Nat × Nat)) (cn : List (Nat × List Nat)) (fn : Func) : Prop := Lit Try.prog f fn.ntmps bx fn.results.toList (litK base cn (cdF fn))
section
variable {nt : Nat} {bx cns : List Nat} {Q : Exit → PS → Prop} {l l' y : LC} {L L' : PL} {σ : PS} {ops : List LO} {fps : List (List Nat × List Nat)} {es : List (List Nat)}
theorem rn (n : Nat) (h : runR tb n l L = some (l', L')) (k : LS Try.prog nt bx l' (ofL L') Q) : LS Try.prog nt bx l (ofL L) Q := runR_ok tbOk h k
theorem rs (h : evS Try.prog tb cns ops σ (fun σ' => LS Try.prog nt bx y σ' Q)) : LS Try.prog nt bx (.seq (.rgn cns ops) y) σ Q := ls_rs tbOk h
theorem rk (h : ∀ K : PS → Prop, (∀ σ', LS Try.prog nt bx y σ' Q → K σ') → evS Try.prog tb cns ops σ K) : LS Try.prog nt bx (.seq (.rgn cns ops) y) σ Q := ls_rs_k tbOk h
theorem rg (h : evS Try.prog tb cns ops σ (Q .normal)) : LS Try.prog nt bx (.rgn cns ops) σ Q := ls_rgn tbOk h
theorem rd (hD : (okD fps es ops && okF cns fps ops) = true) (h : evD Try.prog tb cns fps ops σ (fun σ' => LS Try.prog nt bx y σ' Q)) : LS Try.prog nt bx (.seq (.drw cns fps es ops) y) σ Q := ls_rd tbOk mixed hD h
theorem rdk (hD : (okD fps es ops && okF cns fps ops) = true) (h : ∀ K : PS → Prop, (∀ σ', LS Try.prog nt bx y σ' Q → K σ') → evD Try.prog tb cns fps ops σ K) : LS Try.prog nt bx (.seq (.drw cns fps es ops) y) σ Q := ls_rd_k tbOk mixed hD h
theorem rgd (hD : (okD fps es ops && okF cns fps ops) = true) (h : evD Try.prog tb cns fps ops σ (Q .normal)) : LS Try.prog nt bx (.drw cns fps es ops) σ Q := ls_drw tbOk mixed hD h
theorem st {f : Nat} {fn : Func} {base : List (Nat × Nat)} {cn : List (Nat × List Nat)} {args : List V} {r : V} (hl : LitF f bx base cn fn) (h0 : (Nat.ble args.length fn.ntmps && (args.all plainA && okR (iniL 0 args))) = true) (h : LS Try.prog fn.ntmps bx (litK base cn (cdF fn)) (ofL (iniL 0 args)) (retQ tb fn.results.toList r)) : SoundAt Try.prog f args r := by
  simp only [Bool.and_eq_true] at h0
  exact sound_lit tbOk hl (nb h0.1) h0.2.1 (qi args h0.2.2 h)
theorem rt (p : Nat) (hD : (okD fps es ops && (okF cns fps ops && okT p es ops)) = true) (h : evD Try.prog tb cns (fps.take p) (ops.take p) σ (fun σ' => Gh Try.prog nt bx σ' (fun σ2 => evS Try.prog tb cns (ops.drop p) σ2 (fun σ' => LS Try.prog nt bx y σ' Q)))) : LS Try.prog nt bx (.seq (.drw cns fps es ops) y) σ Q := ls_seq (ls_drt tbOk mixed p hD h)
theorem rgt (p : Nat) (hD : (okD fps es ops && (okF cns fps ops && okT p es ops)) = true) (h : evD Try.prog tb cns (fps.take p) (ops.take p) σ (fun σ' => Gh Try.prog nt bx σ' (fun σ2 => evS Try.prog tb cns (ops.drop p) σ2 (Q .normal)))) : LS Try.prog nt bx (.drw cns fps es ops) σ Q := ls_drt tbOk mixed p hD h
theorem stp {f : Nat} {fn : Func} {base : List (Nat × Nat)} {cn : List (Nat × List Nat)} {cs args cs' : List V} {r : V} (hl : LitF f bx base cn fn) (h0 : (Nat.ble (args.length + 1) fn.ntmps && ((bx.contains 0 && bx.contains keep0) && (args.all plainA && (!(fn.results.toList.map rvSlot).contains 0 && (cs'.all plainC && okR (iniL 0 (.box cs :: args))))))) = true) (h : LS Try.prog fn.ntmps bx (litK base cn (cdF fn)) (ofL (iniL 0 (.box cs :: args))) (retP tb fn.results.toList r cs')) : PtrAt Try.prog f cs args cs' r := by
  simp only [Bool.and_eq_true, Bool.not_eq_true'] at h0
  exact ptr_lit tbOk hl (nb h0.1) (by rw [Bool.and_eq_true]; exact h0.2.1) h0.2.2.1 h0.2.2.2.1 h0.2.2.2.2.1 (qi _ h0.2.2.2.2.2 h)
theorem stn {f t : Nat} {fn : Func} {base : List (Nat × Nat)} {cn : List (Nat × List Nat)} {args cs : List V} (hl : LitF f bx base cn fn) (hr : fn.results.toList = [.tmp t]) (h0 : (Nat.ble args.length fn.ntmps && (args.all plainA && (cs.all plainC && okR (iniL 0 args)))) = true) (h : LS Try.prog fn.ntmps bx (litK base cn (cdF fn)) (ofL (iniL 0 args)) (retN t cs)) : NewAt Try.prog f args cs := by
  rw [Bool.and_eq_true, Bool.and_eq_true, Bool.and_eq_true] at h0
  unfold LitF at hl
  rw [hr] at hl
  exact new_lit hl (nb h0.1) h0.2.1 h0.2.2.1 (qi args h0.2.2.2 h)
theorem sta {f : Nat} {fn : Func} {base : List (Nat × Nat)} {cn : List (Nat × List Nat)} {args args' : List V} {r : V} (hl : LitF f bx base cn fn) (h0 : (Nat.ble args.length fn.ntmps && okR (iniL 0 args')) = true) (ha : args.all argAbleA = true) (he : args.map argV = args') (hr : deepT r = true) (h : LS Try.prog fn.ntmps bx (litK base cn (cdF fn)) (ofL (iniL 0 args')) (retQ tb fn.results.toList r)) : SoundAt Try.prog f args r := by
  subst he
  simp only [Bool.and_eq_true] at h0
  exact sound_litA tbOk hl (nb h0.1) ha hr (qi _ h0.2 h)
end
end Go.Proofs.Ytmioifafgbjjhaa
