/-
  What is proved: for every relation and column, the program's DistinctCount returns what the reference's returns, so the law FnExactDistinctCount returns true. There are no conditions.
-/
import Derived.Test.YtnijkpbecgifjaaRows
import Derived.Test.YtnijkpbecgifjaaDeg2
import Derived.Test.YtnijkpbecgifjaaOpen
import Derived.Test.YtnijkpbecgifjaaPost
import Derived.ProofKit
namespace Go.Proofs.Ytnijkpbecgifjaa.distinct
open Go.ChangeShapes Go.WideShapes Go.ChangeAt Go.RowKit

theorem short_of_bulk {ll : List (List Int)} (h : bulk2 ll ≤ 1048576) : ll.length ≤ 1048576 ∧ ∀ l ∈ ll, l.length ≤ 1048576 := by
  unfold bulk2 at h
  exact ⟨by omega, fun l hl => by have := len_le_tot2 ll hl; omega⟩

set_option maxHeartbeats 1000000 in
theorem walk (va : Value) (ar col : Int) (a : List (List Int)) (w : World) (ha : Rows2 w va a) :
    Calls Try.prog 6 #[.agg #[.int .i64 ar, va], .int .i64 col] w fun e w' => e = .returned (.bool true) ∧ Below w.heap.size w w' := by
  have HR := Lib.hid ha
  obtain ⟨A, ca, rfl, hca, _⟩ := ha.at_
  clear ha
  go_enter Try.func6, Try.ntmps6
  go_wp2_with fail
  refine (szRelation_c _ ar a 1048576 _ (HR.out.keep (below1 _ _)) (by omega) (by omega)).mono ?_
  rintro e w1 ⟨rfl, hb1⟩
  have c0 : w1.cell? ⟨w.heap.size, 0, none⟩ = some (.int .i64 ar) := by rw [hb1.cell (p := ⟨w.heap.size, 0, none⟩) (by simp), cell_new]; rfl
  have c1 : w1.cell? ⟨w.heap.size, 1, none⟩ = some (.slice A a.length ca) := by rw [hb1.cell (p := ⟨w.heap.size, 1, none⟩) (by simp), cell_new]; rfl
  have hz1 : w.heap.size < w1.heap.size := by have := hb1.size; simp at this; omega
  have hb : Below w.heap.size w w1 := (below1 _ _).trans (hb1.mono (by simp))
  have HB1 := Lib.hid hb
  clear hb1 hb
  by_cases hbk : (1048576 : Int) < bulk2 a
  · rw [szS_no hbk]
    go_wp2
    go_ret
    exact ⟨rfl, HB1.out⟩
  rw [szS_yes hbk]
  obtain ⟨hl1, hl2⟩ := short_of_bulk (ll := a) (by omega)
  have HL2 := Lib.hid hl2
  have hp : ¬ ((1048576 : Int) - bulk2 a < 0) := by omega
  clear hbk hl2
  go_wp2_with fail
  refine (toRelation_c _ ar a _ (HR.out.keep HB1.out) hl1 HL2.out).mono ?_
  rintro e w2 ⟨v2, rfl, ho2, hb2⟩
  have R2 := Lib.hid (Rows2.of_own ho2)
  obtain ⟨A2, d2, rfl⟩ := ho2.form
  have HB2 := Lib.hid (HB1.out.trans (hb2.mono (by omega)))
  have c02 := (hb2.cell (p := ⟨w.heap.size, 0, none⟩) hz1).trans c0
  have c12 := (hb2.cell (p := ⟨w.heap.size, 1, none⟩) hz1).trans c1
  have hz2 : w.heap.size < w2.heap.size := by have := hb2.size; omega
  clear ho2 hb2 c0 c1
  go_wp2_with fail
  refine (specDistinctCount_c _ ar a col _ R2.out).mono ?_
  rintro e w3 ⟨rfl, hb3⟩
  have HB3 := Lib.hid (HB2.out.trans (hb3.mono (by omega)))
  have c03 := (hb3.cell (p := ⟨w.heap.size, 0, none⟩) hz2).trans c02
  have c13 := (hb3.cell (p := ⟨w.heap.size, 1, none⟩) hz2).trans c12
  have hz3 : w.heap.size < w3.heap.size := by have := hb3.size; omega
  clear hb3 c02 c12
  go_wp2_with fail
  refine (toRelation_c _ ar a _ (HR.out.keep HB3.out) hl1 HL2.out).mono ?_
  rintro e w4 ⟨v4, rfl, ho4, hb4⟩
  have R4 := Lib.hid (Rows2.of_own ho4)
  obtain ⟨A4, d4, rfl⟩ := ho4.form
  have HB4 := Lib.hid (HB3.out.trans (hb4.mono (by omega)))
  have c04 := (hb4.cell (p := ⟨w.heap.size, 0, none⟩) hz3).trans c03
  have c14 := (hb4.cell (p := ⟨w.heap.size, 1, none⟩) hz3).trans c13
  have hz4 : w.heap.size < w4.heap.size := by have := hb4.size; omega
  clear ho4 hb4 c03 c13
  go_wp2_with fail
  refine (implDistinctCount_c _ ar a col _ (R4.out.keep (below1 _ _))).mono ?_
  rintro e w5 ⟨rfl, hb5⟩
  have HB5 := Lib.hid ((HB4.out.alloc (by omega) _).trans (hb5.mono (by simp; omega)))
  have c05 : w5.cell? ⟨w.heap.size, 0, none⟩ = some (.int .i64 ar) := ((hb5.cell (p := ⟨w.heap.size, 0, none⟩) (by simp; omega)).trans ((below1 _ _).cell (p := ⟨w.heap.size, 0, none⟩) hz4)).trans c04
  have c15 : w5.cell? ⟨w.heap.size, 1, none⟩ = some (.slice A a.length ca) := ((hb5.cell (p := ⟨w.heap.size, 1, none⟩) (by simp; omega)).trans ((below1 _ _).cell (p := ⟨w.heap.size, 1, none⟩) hz4)).trans c14
  have x05 : w5.cell? ⟨w4.heap.size, 0, none⟩ = some (.int .i64 ar) := (hb5.cell (p := ⟨w4.heap.size, 0, none⟩) (by simp)).trans (by rw [cell_new]; rfl)
  have x15 : w5.cell? ⟨w4.heap.size, 1, none⟩ = some (.slice A4 a.length d4) := (hb5.cell (p := ⟨w4.heap.size, 1, none⟩) (by simp)).trans (by rw [cell_new]; rfl)
  have hz5 : w4.heap.size < w5.heap.size := by have := hb5.size; simp at this; omega
  have hz50 : w.heap.size < w5.heap.size := by omega
  have R5 := Lib.hid ((R4.out.keep (below1 _ _)).keep hb5)
  have hne : ((((degs ar a col).1.length : Nat) : Int) != (((degs ar a col).1.length : Nat) : Int)) = false := by simp
  have heq : (ar == ar && a == a) = true := by simp
  clear hb5 c04 c14
  go_wp2
  go_region_held3 (fun w' => w'.cell? ⟨w.heap.size, 0, none⟩ = some (.int .i64 ar) ∧ w'.cell? ⟨w.heap.size, 1, none⟩ = some (.slice A a.length ca) ∧ w'.cell? ⟨w4.heap.size, 0, none⟩ = some (.int .i64 ar) ∧ w'.cell? ⟨w4.heap.size, 1, none⟩ = some (.slice A4 a.length d4)) (first | exact ⟨c05, c15, x05, x15⟩ | exact ⟨c06, c16, x06, x16⟩ | exact ⟨c07, c17, x07, x17⟩)
    (first
      | (go_at_call 26; refine (toRelation_c _ ar a _ (HR.out.keep HB5.out.drew) hl1 HL2.out).mono ?_; rintro e w6 ⟨v6, rfl, ho6, hb6'⟩; have hb6 := undrew hb6'; obtain ⟨A6, d6, rfl⟩ := ho6.form; have R6 := Lib.hid (Rows2.of_own ho6); have R56 := Lib.hid (R5.out.keep hb6); have HB6 := Lib.hid (HB5.out.trans (hb6.mono (by omega))); have c06 := (hb6.cell (p := ⟨w.heap.size, 0, none⟩) hz50).trans c05; have c16 := (hb6.cell (p := ⟨w.heap.size, 1, none⟩) hz50).trans c15; have x06 := (hb6.cell (p := ⟨w4.heap.size, 0, none⟩) hz5).trans x05; have x16 := (hb6.cell (p := ⟨w4.heap.size, 1, none⟩) hz5).trans x15; have hz6 := hb6.size; have hz60 : w.heap.size < w6.heap.size := (by omega); have hz61 : w4.heap.size < w6.heap.size := (by omega); clear ho6 hb6 hb6')
      | (go_at_call 14; refine (eqRelation_c _ _ ar ar a a _ R56.out R6.out).mono ?_; rintro e w7 ⟨rfl, hb7⟩; have c07 := (hb7.cell (p := ⟨w.heap.size, 0, none⟩) hz60).trans c06; have c17 := (hb7.cell (p := ⟨w.heap.size, 1, none⟩) hz60).trans c16; have x07 := (hb7.cell (p := ⟨w4.heap.size, 0, none⟩) hz61).trans x06; have x17 := (hb7.cell (p := ⟨w4.heap.size, 1, none⟩) hz61).trans x16; have HB7 := Lib.hid (HB6.out.trans (hb7.mono (by omega))); clear hb7))
  all_goals (go_wp2; go_ret; exact ⟨rfl, HB7.out⟩)

theorem own : ownKnob Try.prog.godebug = none := by kernel_rfl
theorem laidOut : laidOutB Try.prog = true := by kernel_rfl
theorem readable : Try.f6.params.toList.all (fun t => Try.prog.readableRec t && decide (t < Try.prog.types.size)) = true := by kernel_rfl
theorem cellsRel : Try.prog.cellsOf 46 = 2 := by kernel_rfl
theorem cellsInt : Try.prog.cellsOf 3 = 1 := by kernel_rfl
theorem cellsInts : Try.prog.cellsOf 24 = 1 := by kernel_rfl

set_option maxRecDepth 100000 in
theorem lifted (os : Os) (started : os.Started) (H : Type) (enc : TypeId × Value → H) :
    ReturnsInHanded {} Try.checked os 6 .any (Rows.fnExactDistinctCountSpec.pre6 enc Try.prog Try.f6 Rows.fnExactDistinctCountRow.domain false) (Rows.fnExactDistinctCountSpec.post enc Try.prog Try.f6 false true false false) := by
  refine returnsInHanded_of_change (C := Try.checked) own started (by kernel_rfl) Try.func6
    (ChangeSpec.witness6 (enc := enc) (C := Try.checked) false ⟨#[], #[.agg #[.int .i64 0, .slice none 0 0], .int .i64 0], []⟩ 8 (by kernel_rfl) (by kernel_rfl) (by kernel_rfl) (by kernel_rfl)) ?_
  intro W base args ds gs before hval0 hW hcnd _
  have hval : ∀ (j : Nat) t v, Try.f6.params[j]? = some t → args[j]? = some v → Value.okWide Try.prog W .any base t v := hval0
  have hW' := hW
  obtain ⟨p, q, hA0, hV, rfl, hfz, hnd⟩ := hW
  have hA : DataW.TrodAll enc Try.prog W 0 (fun _ => true) true Try.f6.params.toList args.toList ds p := hA0
  rw [Try.params6] at hA hval
  obtain ⟨v0, vs0, d0, ds0, p0, q0, hargs, rfl, rfl, h0, r0⟩ := trodAll_cons hA
  obtain ⟨v1, vs1, d1, ds1, p1, q1, rfl, rfl, rfl, h1, r1⟩ := trodAll_cons r0
  obtain ⟨rfl, rfl, rfl⟩ := trodAll_nil r1
  obtain rfl : args = #[v0, v1] := by cases args; simp_all
  obtain ⟨rfl, rfl⟩ := trodVars_none hV
  obtain ⟨c0, c1, y0, y1, m, rfl, _, _, hy0, hy1⟩ := Go.Joins.open_agg2 Try.underlying46 (by kernel_rfl) cellsRel (hval 0 46 v0 rfl rfl) h0
  obtain ⟨ar, e0, _, wa⟩ := DataW.trod_int Try.underlying3 hy0
  obtain ⟨ll, hrows, _⟩ := open_rows2L Try.underlying25 Try.underlying24 Try.underlying3 cellsInts cellsInt hy1
  obtain ⟨col, rfl, _, _, wc⟩ := open_int Try.underlying3 (hval 1 3 v1 rfl rfl) h1
  obtain rfl : c0 = .int .i64 ar := by simpa using e0
  simp only [List.append_nil] at hW' hA0
  refine (walk c1 ar col ll W hrows).mono fun e W' ⟨he, hb⟩ => ?_
  subst he
  exact ⟨_, rfl, law_post laidOut readable rfl rfl Try.underlying4 hW' hA0 rfl hb⟩

theorem over : Rows.fnExactDistinctCountRow.holds Try.pinned (OpenSpec.ofChange Rows.fnExactDistinctCountSpec) :=
  OpenClaim.holds_of_wide 6 Try.f6 rfl rfl rfl rfl rfl rfl rfl ⟨rfl, rfl, rfl, rfl, rfl⟩ rfl rfl rfl rfl rfl (by kernel_rfl) Try.func6 (by kernel_rfl)
    (of_decide_eq_true (by kernel_rfl)) (by unfold Func.isWrapper; first | (rw [if_pos (by decide +kernel)]; kernel_rfl) | (rw [if_neg (by decide +kernel)]; exact ⟨rfl, rfl⟩))
    (fun os started H enc _ => lifted os started H enc)

theorem proved : Rows.FnExactDistinctCountSaid :=
  over
#print axioms proved
end Go.Proofs.Ytnijkpbecgifjaa.distinct
