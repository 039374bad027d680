/-
  For the laws' rows: the arguments' readings, type by type. No conditions.
-/
import Derived.Test.YtnijkpbecgifjaaKit
import Derived.Test.YtnijkpbecgifjaaOpen
import Derived.Test.YtnijkpbecgifjaaPost
namespace Go.Proofs.Ytnijkpbecgifjaa
open Go.RowKit Go.ChangeShapes Go.WideShapes Go.Deep

theorem cellsInt : Try.prog.cellsOf 3 = 1 := by kernel_rfl
theorem cellsInts : Try.prog.cellsOf 24 = 1 := by kernel_rfl
section
variable {H : Type} {enc : TypeId × Value → H} {w : World} {base : Nat} {spare : Nat → Bool} {held : Bool} {r : Reach} {b0 : Nat} {v : Value} {d : DataW H} {p : List MemPlace}
theorem open_IntS (hv : Value.okWide Try.prog w r b0 24 v) (h : DataW.Trod enc Try.prog w base spare held 24 v d p) : ∃ (u : Value) (l : List Int), v = u ∧ Ints w u l := by
  obtain ⟨a0, len, cap, rfl⟩ := okWide_slice Try.underlying24 hv
  obtain ⟨fuel, hf⟩ := h
  obtain ⟨l, hl, _⟩ := open_intsL Try.underlying24 Try.underlying3 cellsInt (v := .slice a0 len cap) (by simpa [Value.cells] using hf)
  exact ⟨_, l, rfl, hl⟩
theorem open_Relation (hv : Value.okWide Try.prog w r b0 46 v) (h : DataW.Trod enc Try.prog w base spare held 46 v d p) :
    ∃ (ar : Int) (u : Value) (ll : List (List Int)), v = .agg #[.int .i64 ar, u] ∧ (-9223372036854775808 ≤ ar ∧ ar ≤ 9223372036854775807) ∧ Rows2 w u ll := by
  obtain ⟨c0, c1, y0, y1, m, rfl, _, _, hy0, hy1⟩ := Go.Joins.open_agg2 Try.underlying46 (by kernel_rfl) (by kernel_rfl) hv h
  obtain ⟨ar, e0, _, wa⟩ := DataW.trod_int Try.underlying3 hy0
  obtain ⟨ll, hrows, _⟩ := open_rows2L Try.underlying25 Try.underlying24 Try.underlying3 cellsInts cellsInt hy1
  obtain rfl : c0 = .int .i64 ar := by simpa using e0
  exact ⟨ar, c1, ll, rfl, wf_fit wa, hrows⟩
end
end Go.Proofs.Ytnijkpbecgifjaa
