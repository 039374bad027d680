/-
  What is proved: for all arguments the program's ColumnDegrees returns what the reference's returns, so the law FnExactColumnDegrees returns true. There are no conditions.
  The walk was written by program (lawgen.py) out of the law's Go text.
-/
import Derived.Test.YtnijkpbecgifjaaRows
import Derived.Test.YtnijkpbecgifjaaDeg2
import Derived.Test.YtnijkpbecgifjaaLawKit
import Derived.ProofKit
import Derived.Deep.RegionHeld3
namespace Go.Proofs.Ytnijkpbecgifjaa.coldeg
open Go.ChangeShapes Go.WideShapes Go.ChangeAt Go.RowKit
set_option linter.unusedVariables false

theorem spec_ColumnDegrees {w : World} {ar col : Int} {v : Value} {a : List (List Int)} (h : Rows2 w v a) :
    Calls Try.prog 30 #[.agg #[.int .i64 ar, v], .int .i64 col] w fun e w' => ∃ v1 v2, e = .returned (.tuple #[v1, v2]) ∧ Ints w' v1 (degs ar a col).1 ∧ Ints w' v2 (degs ar a col).2 ∧ Below w.heap.size w w' :=
  (specColumnDegrees_c v ar a col w h).mono fun _ _ ⟨v1, v2, he, h1, h2, _, hb⟩ => ⟨v1, v2, he, Ints.of_own h1, Ints.of_own h2, hb⟩
theorem impl_ColumnDegrees {w : World} {ar col : Int} {v : Value} {a : List (List Int)} (h : Rows2 w v a) :
    Calls Try.prog 31 #[.agg #[.int .i64 ar, v], .int .i64 col] w fun e w' => ∃ v1 v2 S1 S2, e = .returned (.tuple #[v1, v2]) ∧ OwInts 3 w' S1 v1 (degs ar a col).1 ∧ OwInts 3 w' S2 v2 (degs ar a col).2 ∧
      (∀ g, S1 g → Iv w w' g) ∧ (∀ g, S2 g → Iv w w' g) ∧ (∀ g, S1 g → ¬ S2 g) ∧ Below w.heap.size w w' :=
  (implColumnDegrees_c v ar a col w h).mono fun _ _ ⟨v1, v2, he, h1, h2, ha, hb⟩ => ⟨v1, v2, fun g => v1.ownBlock = some g, fun g => v2.ownBlock = some g, he, ⟨h1.mono (by omega), fun _ h => h⟩, ⟨h2.mono (by omega), fun _ h => h⟩, fun g hg => h1.lt g hg, fun g hg => h2.lt g hg, fun g h1 h2 => ha g h1 h2, hb⟩
theorem cnt_le_degs (ar : Int) (a : List (List Int)) (col : Int) : (degs ar a col).1.length ≤ 1073741824 ∧ (degs ar a col).2.length ≤ 1073741824 := by
  have := degs_length ar a col; omega

set_option maxHeartbeats 4000000 in
set_option maxRecDepth 100000 in
theorem walk (aRelation_ar : Int) (v_aRelation_rows : Value) (aRelation_rows : List (List Int)) (aColumn : Int) (w : World) (fit_aRelation_ar : -9223372036854775808 ≤ aRelation_ar ∧ aRelation_ar ≤ 9223372036854775807) (h_aRelation : Rows2 w v_aRelation_rows aRelation_rows) (fit_aColumn : -9223372036854775808 ≤ aColumn ∧ aColumn ≤ 9223372036854775807) :
    Calls Try.prog 8 #[.agg #[.int .i64 aRelation_ar, v_aRelation_rows], .int .i64 aColumn] w fun e w' => e = .returned (.bool true) ∧ Below w.heap.size w w' := by
  have R_aRelation := Lib.hid h_aRelation
  obtain ⟨AaRelation_0, CaRelation_0, rfl⟩ := h_aRelation.form
  clear h_aRelation
  have B_w := Lib.hid (Below.refl w.heap.size w)
  go_enter Try.func8, Try.ntmps8
  go_wp2_with fail
  refine (sz_Relation (R_aRelation.out.keep (below1 _ _)) (by omega) (by omega)).mono ?_
  rintro e w1 ⟨rfl, hb⟩
  have hzw1 : w.heap.size + 1 ≤ w1.heap.size := by have := hb.size; simp only [World.size_alloc] at this; omega
  have st : Below w.heap.size w w1 := (below1 _ _).trans (hb.mono (by simp only [World.size_alloc]; omega))
  have hz_aRelation : w.heap.size < w1.heap.size := by omega
  have c_aRelation_0 : w1.cell? ⟨w.heap.size, 0, none⟩ = some (.int .i64 aRelation_ar) := (hb.cell (p := ⟨w.heap.size, 0, none⟩) (by simp only [World.size_alloc]; omega)).trans (cell_at _ _ _ 0 rfl)
  have c_aRelation_1 : w1.cell? ⟨w.heap.size, 1, none⟩ = some (.slice AaRelation_0 aRelation_rows.length CaRelation_0) := (hb.cell (p := ⟨w.heap.size, 1, none⟩) (by simp only [World.size_alloc]; omega)).trans (cell_at _ _ _ 1 rfl)
  replace B_w := Lib.hid (B_w.out.trans (st.mono (by omega)))
  clear st hb
  by_cases hbk_aRelation' : (1048576 : Int) < (bulk_Relation aRelation_rows : Nat)
  · rw [szS_no hbk_aRelation']
    go_wp2
    go_ret
    exact ⟨rfl, B_w.out⟩
  rw [szS_yes hbk_aRelation']
  have hl_aRelation : ¬ ((1048576 - (bulk_Relation aRelation_rows : Nat) : Int) < 0) := by omega
  have hbk_aRelation : bulk_Relation aRelation_rows ≤ 1048576 := by omega
  clear hbk_aRelation'
  go_wp2_with fail
  refine (to_Relation (R_aRelation.out.keep B_w.out) (by omega)).mono ?_
  rintro e w2 ⟨vt1_0, rfl, ho, hb⟩
  have O_t1 := Lib.hid (ho.mono (fun g hg => (⟨hg.1, hg.2⟩ : Inn (w1.heap.size + 0) w2.heap.size g)))
  obtain ⟨At1_0, Ct1_0, rfl⟩ := ho.form
  clear ho
  have hzw2 : w1.heap.size + 0 ≤ w2.heap.size := by have := hb.size; omega
  have st : Below w1.heap.size w1 w2 := hb
  replace c_aRelation_0 := (st.cell (p := ⟨w.heap.size, 0, none⟩) hz_aRelation).trans c_aRelation_0
  replace c_aRelation_1 := (st.cell (p := ⟨w.heap.size, 1, none⟩) hz_aRelation).trans c_aRelation_1
  replace hz_aRelation : w.heap.size < w2.heap.size := by omega
  replace B_w := Lib.hid (B_w.out.trans (st.mono (by omega)))
  clear st hb
  go_wp2_with fail
  refine (spec_ColumnDegrees O_t1.out.rd).mono ?_
  rintro e w3 ⟨vspecw0_0, vspecw1_0, rfl, ho0, ho1, hb⟩
  clear O_t1
  have W_w0 := Lib.hid ho0
  obtain ⟨Aw0_0, Cw0_0, rfl⟩ := ho0.form
  clear ho0
  have W_w1 := Lib.hid ho1
  obtain ⟨Aw1_0, Cw1_0, rfl⟩ := ho1.form
  clear ho1
  have hzw3 : w2.heap.size + 0 ≤ w3.heap.size := by have := hb.size; omega
  have st : Below w2.heap.size w2 w3 := hb
  replace c_aRelation_0 := (st.cell (p := ⟨w.heap.size, 0, none⟩) hz_aRelation).trans c_aRelation_0
  replace c_aRelation_1 := (st.cell (p := ⟨w.heap.size, 1, none⟩) hz_aRelation).trans c_aRelation_1
  replace hz_aRelation : w.heap.size < w3.heap.size := by omega
  replace B_w := Lib.hid (B_w.out.trans (st.mono (by omega)))
  clear st hb
  have B_w3 := Lib.hid (Below.refl w3.heap.size w3)
  go_wp2_with fail
  refine (to_Relation (R_aRelation.out.keep B_w.out) (by omega)).mono ?_
  rintro e w4 ⟨vt2_0, rfl, ho, hb⟩
  have O_t2 := Lib.hid (ho.mono (fun g hg => (⟨hg.1, hg.2⟩ : Inn (w3.heap.size + 0) w4.heap.size g)))
  obtain ⟨At2_0, Ct2_0, rfl⟩ := ho.form
  clear ho
  have hzw4 : w3.heap.size + 0 ≤ w4.heap.size := by have := hb.size; omega
  have st : Below w3.heap.size w3 w4 := hb
  replace c_aRelation_0 := (st.cell (p := ⟨w.heap.size, 0, none⟩) hz_aRelation).trans c_aRelation_0
  replace c_aRelation_1 := (st.cell (p := ⟨w.heap.size, 1, none⟩) hz_aRelation).trans c_aRelation_1
  replace hz_aRelation : w.heap.size < w4.heap.size := by omega
  replace B_w := Lib.hid (B_w.out.trans (st.mono (by omega)))
  replace B_w3 := Lib.hid (B_w3.out.trans (st.mono (by omega)))
  clear st hb
  go_wp2_with fail
  refine (impl_ColumnDegrees (O_t2.out.keep (below1 _ _)).rd).mono ?_
  rintro e w5 ⟨vimplg0_0, vimplg1_0, Sg0, Sg1, rfl, ho0, ho1, hSg0, hSg1, hdg0g1, hb⟩
  have O_g0 := Lib.hid ho0
  obtain ⟨Ag0_0, Cg0_0, rfl⟩ := ho0.form
  clear ho0
  replace hSg0 : ∀ g, Sg0 g → Inn (w4.heap.size + 1) w5.heap.size g := fun g hg => ⟨by have := (hSg0 g hg).1; simp only [World.size_alloc] at this; omega, (hSg0 g hg).2⟩
  have O_g1 := Lib.hid ho1
  obtain ⟨Ag1_0, Cg1_0, rfl⟩ := ho1.form
  clear ho1
  replace hSg1 : ∀ g, Sg1 g → Inn (w4.heap.size + 1) w5.heap.size g := fun g hg => ⟨by have := (hSg1 g hg).1; simp only [World.size_alloc] at this; omega, (hSg1 g hg).2⟩
  have hzw5 : w4.heap.size + 1 ≤ w5.heap.size := by have := hb.size; simp only [World.size_alloc] at this; omega
  have st : Below w4.heap.size w4 w5 := (below1 _ _).trans (hb.mono (by simp only [World.size_alloc]; omega))
  replace c_aRelation_0 := (st.cell (p := ⟨w.heap.size, 0, none⟩) hz_aRelation).trans c_aRelation_0
  replace c_aRelation_1 := (st.cell (p := ⟨w.heap.size, 1, none⟩) hz_aRelation).trans c_aRelation_1
  replace hz_aRelation : w.heap.size < w5.heap.size := by omega
  have hz_x0 : w4.heap.size < w5.heap.size := by omega
  have c_x0_0 : w5.cell? ⟨w4.heap.size, 0, none⟩ = some (.int .i64 aRelation_ar) := (hb.cell (p := ⟨w4.heap.size, 0, none⟩) (by simp only [World.size_alloc]; omega)).trans (cell_at _ _ _ 0 rfl)
  have c_x0_1 : w5.cell? ⟨w4.heap.size, 1, none⟩ = some (.slice At2_0 aRelation_rows.length Ct2_0) := (hb.cell (p := ⟨w4.heap.size, 1, none⟩) (by simp only [World.size_alloc]; omega)).trans (cell_at _ _ _ 1 rfl)
  replace B_w := Lib.hid (B_w.out.trans (st.mono (by omega)))
  replace B_w3 := Lib.hid (B_w3.out.trans (st.mono (by omega)))
  replace O_t2 := Lib.hid (O_t2.out.keep st)
  clear st hb
  go_wp2_with fail
  refine (eq_IntS O_g0.out.rd (W_w0.out.keep B_w3.out)).mono ?_
  rintro e w6 ⟨rfl, hb⟩
  have hzw6 : w5.heap.size + 0 ≤ w6.heap.size := by have := hb.size; omega
  have st : Below w5.heap.size w5 w6 := hb
  replace c_aRelation_0 := (st.cell (p := ⟨w.heap.size, 0, none⟩) hz_aRelation).trans c_aRelation_0
  replace c_aRelation_1 := (st.cell (p := ⟨w.heap.size, 1, none⟩) hz_aRelation).trans c_aRelation_1
  replace hz_aRelation : w.heap.size < w6.heap.size := by omega
  replace c_x0_0 := (st.cell (p := ⟨w4.heap.size, 0, none⟩) hz_x0).trans c_x0_0
  replace c_x0_1 := (st.cell (p := ⟨w4.heap.size, 1, none⟩) hz_x0).trans c_x0_1
  replace hz_x0 : w4.heap.size < w6.heap.size := by omega
  replace B_w := Lib.hid (B_w.out.trans (st.mono (by omega)))
  replace B_w3 := Lib.hid (B_w3.out.trans (st.mono (by omega)))
  replace O_t2 := Lib.hid (O_t2.out.keep st)
  replace O_g0 := Lib.hid (O_g0.out.keep st)
  replace O_g1 := Lib.hid (O_g1.out.keep st)
  clear st hb
  have hq_t3 : (((degs aRelation_ar aRelation_rows aColumn).1) == ((degs aRelation_ar aRelation_rows aColumn).1)) = true := by simp
  go_wp2_with fail
  refine (eq_IntS O_g1.out.rd (W_w1.out.keep B_w3.out)).mono ?_
  rintro e w7 ⟨rfl, hb⟩
  have hzw7 : w6.heap.size + 0 ≤ w7.heap.size := by have := hb.size; omega
  have st : Below w6.heap.size w6 w7 := hb
  replace c_aRelation_0 := (st.cell (p := ⟨w.heap.size, 0, none⟩) hz_aRelation).trans c_aRelation_0
  replace c_aRelation_1 := (st.cell (p := ⟨w.heap.size, 1, none⟩) hz_aRelation).trans c_aRelation_1
  replace hz_aRelation : w.heap.size < w7.heap.size := by omega
  replace c_x0_0 := (st.cell (p := ⟨w4.heap.size, 0, none⟩) hz_x0).trans c_x0_0
  replace c_x0_1 := (st.cell (p := ⟨w4.heap.size, 1, none⟩) hz_x0).trans c_x0_1
  replace hz_x0 : w4.heap.size < w7.heap.size := by omega
  replace B_w := Lib.hid (B_w.out.trans (st.mono (by omega)))
  replace B_w3 := Lib.hid (B_w3.out.trans (st.mono (by omega)))
  replace O_t2 := Lib.hid (O_t2.out.keep st)
  replace O_g0 := Lib.hid (O_g0.out.keep st)
  replace O_g1 := Lib.hid (O_g1.out.keep st)
  clear st hb
  have hq_t4 : (((degs aRelation_ar aRelation_rows aColumn).2) == ((degs aRelation_ar aRelation_rows aColumn).2)) = true := by simp
  have hq_t5 : (aRelation_ar == aRelation_ar && aRelation_rows == aRelation_rows) = true := by simp
  go_wp2
  go_region_held3 (fun w' => w'.cell? ⟨w.heap.size, 0, none⟩ = some (.int .i64 aRelation_ar) ∧ w'.cell? ⟨w.heap.size, 1, none⟩ = some (.slice AaRelation_0 aRelation_rows.length CaRelation_0) ∧ w'.cell? ⟨w4.heap.size, 0, none⟩ = some (.int .i64 aRelation_ar) ∧ w'.cell? ⟨w4.heap.size, 1, none⟩ = some (.slice At2_0 aRelation_rows.length Ct2_0)) (first | exact ⟨c_aRelation_0, c_aRelation_1, c_x0_0, c_x0_1⟩ | exact ⟨d6_0, d6_1, d6_2, d6_3⟩ | exact ⟨d7_0, d7_1, d7_2, d7_3⟩)
    (first
      | (go_at_call 26; refine (to_Relation (R_aRelation.out.keep B_w.out.drew) (by omega)).mono ?_; rintro e w8 ⟨vt6_0, rfl, ho, hb'⟩; have hb := undrew hb'; obtain ⟨At6_0, Ct6_0, rfl⟩ := ho.form; have R6 := Lib.hid ho.rd; have X6 := Lib.hid (O_t2.out.keep hb); have hz6 : w7.heap.size ≤ w8.heap.size := hb.size; have d6_0 := (hb.cell (p := ⟨w.heap.size, 0, none⟩) hz_aRelation).trans c_aRelation_0; have d6_1 := (hb.cell (p := ⟨w.heap.size, 1, none⟩) hz_aRelation).trans c_aRelation_1; have d6_2 := (hb.cell (p := ⟨w4.heap.size, 0, none⟩) hz_x0).trans c_x0_0; have d6_3 := (hb.cell (p := ⟨w4.heap.size, 1, none⟩) hz_x0).trans c_x0_1; have st6 := Lib.hid hb; clear ho hb hb')
      | (go_at_call 14; refine (eq_Relation X6.out.rd R6.out).mono ?_; rintro e w9 ⟨rfl, hb⟩; have hz7 : w8.heap.size ≤ w9.heap.size := hb.size; have d7_0 := (hb.cell (p := ⟨w.heap.size, 0, none⟩) (Nat.lt_of_lt_of_le hz_aRelation hz6)).trans d6_0; have d7_1 := (hb.cell (p := ⟨w.heap.size, 1, none⟩) (Nat.lt_of_lt_of_le hz_aRelation hz6)).trans d6_1; have d7_2 := (hb.cell (p := ⟨w4.heap.size, 0, none⟩) (Nat.lt_of_lt_of_le hz_x0 hz6)).trans d6_2; have d7_3 := (hb.cell (p := ⟨w4.heap.size, 1, none⟩) (Nat.lt_of_lt_of_le hz_x0 hz6)).trans d6_3; have st7 := Lib.hid (st6.out.trans (hb.mono (by omega))); clear hb))
  have hb := st7.out
  clear st6 st7 d6_0 d6_1 d6_2 d6_3 d7_0 d7_1 d7_2 d7_3 R6 X6
  have hzw9 : w7.heap.size + 0 ≤ w9.heap.size := by have := hb.size; omega
  have st : Below w7.heap.size w7 w9 := hb
  replace c_aRelation_0 := (st.cell (p := ⟨w.heap.size, 0, none⟩) hz_aRelation).trans c_aRelation_0
  replace c_aRelation_1 := (st.cell (p := ⟨w.heap.size, 1, none⟩) hz_aRelation).trans c_aRelation_1
  replace hz_aRelation : w.heap.size < w9.heap.size := by omega
  replace c_x0_0 := (st.cell (p := ⟨w4.heap.size, 0, none⟩) hz_x0).trans c_x0_0
  replace c_x0_1 := (st.cell (p := ⟨w4.heap.size, 1, none⟩) hz_x0).trans c_x0_1
  replace hz_x0 : w4.heap.size < w9.heap.size := by omega
  replace B_w := Lib.hid (B_w.out.trans (st.mono (by omega)))
  replace B_w3 := Lib.hid (B_w3.out.trans (st.mono (by omega)))
  replace O_t2 := Lib.hid (O_t2.out.keep st)
  replace O_g0 := Lib.hid (O_g0.out.keep st)
  replace O_g1 := Lib.hid (O_g1.out.keep st)
  clear st hb
  have hcnt_kx0 : cnt_Relation aRelation_rows ≤ 1073741824 := by have := cnt_le_Relation aRelation_rows; omega
  go_wp2_with fail
  refine (mark_Relation (k := 1) O_t2.out (by omega) (by omega)).mono ?_
  rintro e w10 ⟨rfl, ho, hf⟩
  have O_new := Lib.hid ho
  clear ho
  have hzw10 : w9.heap.size + 0 ≤ w10.heap.size := by have := hf.size; omega
  have st : FrS (Inn (w3.heap.size + 0) w4.heap.size) w9 w10 := hf
  replace c_aRelation_0 := (st.cellAt (b := w.heap.size) (o := 0) hz_aRelation (fun hg => by (try unfold Inn at hg); omega)).trans c_aRelation_0
  replace c_aRelation_1 := (st.cellAt (b := w.heap.size) (o := 1) hz_aRelation (fun hg => by (try unfold Inn at hg); omega)).trans c_aRelation_1
  replace hz_aRelation : w.heap.size < w10.heap.size := by omega
  replace c_x0_0 := (st.cellAt (b := w4.heap.size) (o := 0) hz_x0 (fun hg => by (try unfold Inn at hg); omega)).trans c_x0_0
  replace c_x0_1 := (st.cellAt (b := w4.heap.size) (o := 1) hz_x0 (fun hg => by (try unfold Inn at hg); omega)).trans c_x0_1
  replace hz_x0 : w4.heap.size < w10.heap.size := by omega
  replace B_w := Lib.hid (B_w.out.trans (st.toBelow (by omega) (fun g hg => by (try unfold Inn at hg); omega)))
  replace B_w3 := Lib.hid (B_w3.out.trans (st.toBelow (by omega) (fun g hg => by (try unfold Inn at hg); omega)))
  replace O_g0 := Lib.hid (O_g0.out.fr st (fun g hg hq => by have := hSg0 _ hg; (try unfold Inn at this); (try unfold Inn at hq); omega))
  replace O_g1 := Lib.hid (O_g1.out.fr st (fun g hg hq => by have := hSg1 _ hg; (try unfold Inn at this); (try unfold Inn at hq); omega))
  clear st hf
  clear O_t2
  have O_t2 := O_new
  clear O_new
  have hn_t7 : decide ((1 + (cnt_Relation aRelation_rows : Nat) : Int) < 0) = false := by simp; omega
  go_wp2_with fail
  refine (eq_IntS O_g0.out.rd (W_w0.out.keep B_w3.out)).mono ?_
  rintro e w11 ⟨rfl, hb⟩
  have hzw11 : w10.heap.size + 0 ≤ w11.heap.size := by have := hb.size; omega
  have st : Below w10.heap.size w10 w11 := hb
  replace c_aRelation_0 := (st.cell (p := ⟨w.heap.size, 0, none⟩) hz_aRelation).trans c_aRelation_0
  replace c_aRelation_1 := (st.cell (p := ⟨w.heap.size, 1, none⟩) hz_aRelation).trans c_aRelation_1
  replace hz_aRelation : w.heap.size < w11.heap.size := by omega
  replace c_x0_0 := (st.cell (p := ⟨w4.heap.size, 0, none⟩) hz_x0).trans c_x0_0
  replace c_x0_1 := (st.cell (p := ⟨w4.heap.size, 1, none⟩) hz_x0).trans c_x0_1
  replace hz_x0 : w4.heap.size < w11.heap.size := by omega
  replace B_w := Lib.hid (B_w.out.trans (st.mono (by omega)))
  replace B_w3 := Lib.hid (B_w3.out.trans (st.mono (by omega)))
  replace O_t2 := Lib.hid (O_t2.out.keep st)
  replace O_g0 := Lib.hid (O_g0.out.keep st)
  replace O_g1 := Lib.hid (O_g1.out.keep st)
  clear st hb
  have hq_t8 : (((degs aRelation_ar aRelation_rows aColumn).1) == ((degs aRelation_ar aRelation_rows aColumn).1)) = true := by simp
  go_wp2_with fail
  refine (eq_IntS O_g1.out.rd (W_w1.out.keep B_w3.out)).mono ?_
  rintro e w12 ⟨rfl, hb⟩
  have hzw12 : w11.heap.size + 0 ≤ w12.heap.size := by have := hb.size; omega
  have st : Below w11.heap.size w11 w12 := hb
  replace c_aRelation_0 := (st.cell (p := ⟨w.heap.size, 0, none⟩) hz_aRelation).trans c_aRelation_0
  replace c_aRelation_1 := (st.cell (p := ⟨w.heap.size, 1, none⟩) hz_aRelation).trans c_aRelation_1
  replace hz_aRelation : w.heap.size < w12.heap.size := by omega
  replace c_x0_0 := (st.cell (p := ⟨w4.heap.size, 0, none⟩) hz_x0).trans c_x0_0
  replace c_x0_1 := (st.cell (p := ⟨w4.heap.size, 1, none⟩) hz_x0).trans c_x0_1
  replace hz_x0 : w4.heap.size < w12.heap.size := by omega
  replace B_w := Lib.hid (B_w.out.trans (st.mono (by omega)))
  replace B_w3 := Lib.hid (B_w3.out.trans (st.mono (by omega)))
  replace O_t2 := Lib.hid (O_t2.out.keep st)
  replace O_g0 := Lib.hid (O_g0.out.keep st)
  replace O_g1 := Lib.hid (O_g1.out.keep st)
  clear st hb
  have hq_t9 : (((degs aRelation_ar aRelation_rows aColumn).2) == ((degs aRelation_ar aRelation_rows aColumn).2)) = true := by simp
  have hcnt_mg0 : cnt_IntS ((degs aRelation_ar aRelation_rows aColumn).1) ≤ 1073741824 := (cnt_le_degs _ _ _).1
  go_wp2_with fail
  refine (mark_IntS (k := 1) O_g0.out (by omega) (by omega)).mono ?_
  rintro e w13 ⟨rfl, ho, hf⟩
  have O_new := Lib.hid ho
  clear ho
  have hzw13 : w12.heap.size + 0 ≤ w13.heap.size := by have := hf.size; omega
  have st : FrS Sg0 w12 w13 := hf
  replace c_aRelation_0 := (st.cellAt (b := w.heap.size) (o := 0) hz_aRelation (fun hg => by have := hSg0 _ hg; (try unfold Inn at this); omega)).trans c_aRelation_0
  replace c_aRelation_1 := (st.cellAt (b := w.heap.size) (o := 1) hz_aRelation (fun hg => by have := hSg0 _ hg; (try unfold Inn at this); omega)).trans c_aRelation_1
  replace hz_aRelation : w.heap.size < w13.heap.size := by omega
  replace c_x0_0 := (st.cellAt (b := w4.heap.size) (o := 0) hz_x0 (fun hg => by have := hSg0 _ hg; (try unfold Inn at this); omega)).trans c_x0_0
  replace c_x0_1 := (st.cellAt (b := w4.heap.size) (o := 1) hz_x0 (fun hg => by have := hSg0 _ hg; (try unfold Inn at this); omega)).trans c_x0_1
  replace hz_x0 : w4.heap.size < w13.heap.size := by omega
  replace B_w := Lib.hid (B_w.out.trans (st.toBelow (by omega) (fun g hg => by have := hSg0 _ hg; (try unfold Inn at this); omega)))
  replace B_w3 := Lib.hid (B_w3.out.trans (st.toBelow (by omega) (fun g hg => by have := hSg0 _ hg; (try unfold Inn at this); omega)))
  replace O_t2 := Lib.hid (O_t2.out.fr st (fun g hg hq => by (try unfold Inn at hg); have := hSg0 _ hq; (try unfold Inn at this); omega))
  replace O_g1 := Lib.hid (O_g1.out.fr st (fun g h1 h2 => hdg0g1 g h2 h1))
  clear st hf
  clear O_g0
  have O_g0 := O_new
  clear O_new
  have hcnt_mg1 : cnt_IntS ((degs aRelation_ar aRelation_rows aColumn).2) ≤ 1073741824 := (cnt_le_degs _ _ _).2
  go_wp2_with fail
  refine (mark_IntS (k := (1 + (cnt_IntS ((degs aRelation_ar aRelation_rows aColumn).1) : Nat))) O_g1.out (by omega) (by omega)).mono ?_
  rintro e w14 ⟨rfl, ho, hf⟩
  have O_new := Lib.hid ho
  clear ho
  have hzw14 : w13.heap.size + 0 ≤ w14.heap.size := by have := hf.size; omega
  have st : FrS Sg1 w13 w14 := hf
  replace c_aRelation_0 := (st.cellAt (b := w.heap.size) (o := 0) hz_aRelation (fun hg => by have := hSg1 _ hg; (try unfold Inn at this); omega)).trans c_aRelation_0
  replace c_aRelation_1 := (st.cellAt (b := w.heap.size) (o := 1) hz_aRelation (fun hg => by have := hSg1 _ hg; (try unfold Inn at this); omega)).trans c_aRelation_1
  replace hz_aRelation : w.heap.size < w14.heap.size := by omega
  replace c_x0_0 := (st.cellAt (b := w4.heap.size) (o := 0) hz_x0 (fun hg => by have := hSg1 _ hg; (try unfold Inn at this); omega)).trans c_x0_0
  replace c_x0_1 := (st.cellAt (b := w4.heap.size) (o := 1) hz_x0 (fun hg => by have := hSg1 _ hg; (try unfold Inn at this); omega)).trans c_x0_1
  replace hz_x0 : w4.heap.size < w14.heap.size := by omega
  replace B_w := Lib.hid (B_w.out.trans (st.toBelow (by omega) (fun g hg => by have := hSg1 _ hg; (try unfold Inn at this); omega)))
  replace B_w3 := Lib.hid (B_w3.out.trans (st.toBelow (by omega) (fun g hg => by have := hSg1 _ hg; (try unfold Inn at this); omega)))
  replace O_t2 := Lib.hid (O_t2.out.fr st (fun g hg hq => by (try unfold Inn at hg); have := hSg1 _ hq; (try unfold Inn at this); omega))
  replace O_g0 := Lib.hid (O_g0.out.fr st hdg0g1)
  clear st hf
  clear O_g1
  have O_g1 := O_new
  clear O_new
  go_wp2_with fail
  refine (held_IntS (k := 1) O_g0.out.rd (by omega) (by omega)).mono ?_
  rintro e w15 ⟨rfl, hb⟩
  have hzw15 : w14.heap.size + 0 ≤ w15.heap.size := by have := hb.size; omega
  have st : Below w14.heap.size w14 w15 := hb
  replace c_aRelation_0 := (st.cell (p := ⟨w.heap.size, 0, none⟩) hz_aRelation).trans c_aRelation_0
  replace c_aRelation_1 := (st.cell (p := ⟨w.heap.size, 1, none⟩) hz_aRelation).trans c_aRelation_1
  replace hz_aRelation : w.heap.size < w15.heap.size := by omega
  replace c_x0_0 := (st.cell (p := ⟨w4.heap.size, 0, none⟩) hz_x0).trans c_x0_0
  replace c_x0_1 := (st.cell (p := ⟨w4.heap.size, 1, none⟩) hz_x0).trans c_x0_1
  replace hz_x0 : w4.heap.size < w15.heap.size := by omega
  replace B_w := Lib.hid (B_w.out.trans (st.mono (by omega)))
  replace B_w3 := Lib.hid (B_w3.out.trans (st.mono (by omega)))
  replace O_t2 := Lib.hid (O_t2.out.keep st)
  replace O_g0 := Lib.hid (O_g0.out.keep st)
  replace O_g1 := Lib.hid (O_g1.out.keep st)
  clear st hb
  have hn_t10 : ¬ ((1 + (cnt_IntS ((degs aRelation_ar aRelation_rows aColumn).1) : Nat) : Int) < 0) := by omega
  go_wp2_with fail
  refine (held_IntS (k := (1 + (cnt_IntS ((degs aRelation_ar aRelation_rows aColumn).1) : Nat))) O_g1.out.rd (by omega) (by omega)).mono ?_
  rintro e w16 ⟨rfl, hb⟩
  have hzw16 : w15.heap.size + 0 ≤ w16.heap.size := by have := hb.size; omega
  have st : Below w15.heap.size w15 w16 := hb
  replace c_aRelation_0 := (st.cell (p := ⟨w.heap.size, 0, none⟩) hz_aRelation).trans c_aRelation_0
  replace c_aRelation_1 := (st.cell (p := ⟨w.heap.size, 1, none⟩) hz_aRelation).trans c_aRelation_1
  replace hz_aRelation : w.heap.size < w16.heap.size := by omega
  replace c_x0_0 := (st.cell (p := ⟨w4.heap.size, 0, none⟩) hz_x0).trans c_x0_0
  replace c_x0_1 := (st.cell (p := ⟨w4.heap.size, 1, none⟩) hz_x0).trans c_x0_1
  replace hz_x0 : w4.heap.size < w16.heap.size := by omega
  replace B_w := Lib.hid (B_w.out.trans (st.mono (by omega)))
  replace B_w3 := Lib.hid (B_w3.out.trans (st.mono (by omega)))
  replace O_t2 := Lib.hid (O_t2.out.keep st)
  replace O_g0 := Lib.hid (O_g0.out.keep st)
  replace O_g1 := Lib.hid (O_g1.out.keep st)
  clear st hb
  have hn_t11 : ¬ ((1 + (cnt_IntS ((degs aRelation_ar aRelation_rows aColumn).1) : Nat) + (cnt_IntS ((degs aRelation_ar aRelation_rows aColumn).2) : Nat) : Int) < 0) := by omega
  have hn_t12 : ((1 + (cnt_IntS ((degs aRelation_ar aRelation_rows aColumn).1) : Nat) + (cnt_IntS ((degs aRelation_ar aRelation_rows aColumn).2) : Nat) : Int) != (1 + (cnt_IntS ((degs aRelation_ar aRelation_rows aColumn).1) : Nat) + (cnt_IntS ((degs aRelation_ar aRelation_rows aColumn).2) : Nat) : Int)) = false := by simp
  go_wp2_with fail
  refine (to_Relation (R_aRelation.out.keep B_w.out) (by omega)).mono ?_
  rintro e w17 ⟨vt13_0, rfl, ho, hb⟩
  have O_t13 := Lib.hid (ho.mono (fun g hg => (⟨hg.1, hg.2⟩ : Inn (w16.heap.size + 0) w17.heap.size g)))
  obtain ⟨At13_0, Ct13_0, rfl⟩ := ho.form
  clear ho
  have hzw17 : w16.heap.size + 0 ≤ w17.heap.size := by have := hb.size; omega
  have st : Below w16.heap.size w16 w17 := hb
  replace c_aRelation_0 := (st.cell (p := ⟨w.heap.size, 0, none⟩) hz_aRelation).trans c_aRelation_0
  replace c_aRelation_1 := (st.cell (p := ⟨w.heap.size, 1, none⟩) hz_aRelation).trans c_aRelation_1
  replace hz_aRelation : w.heap.size < w17.heap.size := by omega
  replace c_x0_0 := (st.cell (p := ⟨w4.heap.size, 0, none⟩) hz_x0).trans c_x0_0
  replace c_x0_1 := (st.cell (p := ⟨w4.heap.size, 1, none⟩) hz_x0).trans c_x0_1
  replace hz_x0 : w4.heap.size < w17.heap.size := by omega
  replace B_w := Lib.hid (B_w.out.trans (st.mono (by omega)))
  replace B_w3 := Lib.hid (B_w3.out.trans (st.mono (by omega)))
  replace O_t2 := Lib.hid (O_t2.out.keep st)
  replace O_g0 := Lib.hid (O_g0.out.keep st)
  replace O_g1 := Lib.hid (O_g1.out.keep st)
  clear st hb
  go_wp2_with fail
  refine (impl_ColumnDegrees O_t13.out.rd).mono ?_
  rintro e w18 ⟨vimplh0_0, vimplh1_0, Sh0, Sh1, rfl, ho0, ho1, hSh0, hSh1, hdh0h1, hb⟩
  clear O_t13
  have O_h0 := Lib.hid ho0
  obtain ⟨Ah0_0, Ch0_0, rfl⟩ := ho0.form
  clear ho0
  replace hSh0 : ∀ g, Sh0 g → Inn (w17.heap.size + 0) w18.heap.size g := fun g hg => ⟨(hSh0 g hg).1, (hSh0 g hg).2⟩
  have O_h1 := Lib.hid ho1
  obtain ⟨Ah1_0, Ch1_0, rfl⟩ := ho1.form
  clear ho1
  replace hSh1 : ∀ g, Sh1 g → Inn (w17.heap.size + 0) w18.heap.size g := fun g hg => ⟨(hSh1 g hg).1, (hSh1 g hg).2⟩
  have hzw18 : w17.heap.size + 0 ≤ w18.heap.size := by have := hb.size; omega
  have st : Below w17.heap.size w17 w18 := hb
  replace c_aRelation_0 := (st.cell (p := ⟨w.heap.size, 0, none⟩) hz_aRelation).trans c_aRelation_0
  replace c_aRelation_1 := (st.cell (p := ⟨w.heap.size, 1, none⟩) hz_aRelation).trans c_aRelation_1
  replace hz_aRelation : w.heap.size < w18.heap.size := by omega
  replace c_x0_0 := (st.cell (p := ⟨w4.heap.size, 0, none⟩) hz_x0).trans c_x0_0
  replace c_x0_1 := (st.cell (p := ⟨w4.heap.size, 1, none⟩) hz_x0).trans c_x0_1
  replace hz_x0 : w4.heap.size < w18.heap.size := by omega
  replace B_w := Lib.hid (B_w.out.trans (st.mono (by omega)))
  replace B_w3 := Lib.hid (B_w3.out.trans (st.mono (by omega)))
  replace O_t2 := Lib.hid (O_t2.out.keep st)
  replace O_g0 := Lib.hid (O_g0.out.keep st)
  replace O_g1 := Lib.hid (O_g1.out.keep st)
  clear st hb
  go_wp2_with fail
  refine (eq_IntS O_h0.out.rd (W_w0.out.keep B_w3.out)).mono ?_
  rintro e w19 ⟨rfl, hb⟩
  have hzw19 : w18.heap.size + 0 ≤ w19.heap.size := by have := hb.size; omega
  have st : Below w18.heap.size w18 w19 := hb
  replace c_aRelation_0 := (st.cell (p := ⟨w.heap.size, 0, none⟩) hz_aRelation).trans c_aRelation_0
  replace c_aRelation_1 := (st.cell (p := ⟨w.heap.size, 1, none⟩) hz_aRelation).trans c_aRelation_1
  replace hz_aRelation : w.heap.size < w19.heap.size := by omega
  replace c_x0_0 := (st.cell (p := ⟨w4.heap.size, 0, none⟩) hz_x0).trans c_x0_0
  replace c_x0_1 := (st.cell (p := ⟨w4.heap.size, 1, none⟩) hz_x0).trans c_x0_1
  replace hz_x0 : w4.heap.size < w19.heap.size := by omega
  replace B_w := Lib.hid (B_w.out.trans (st.mono (by omega)))
  replace B_w3 := Lib.hid (B_w3.out.trans (st.mono (by omega)))
  replace O_t2 := Lib.hid (O_t2.out.keep st)
  replace O_g0 := Lib.hid (O_g0.out.keep st)
  replace O_g1 := Lib.hid (O_g1.out.keep st)
  replace O_h0 := Lib.hid (O_h0.out.keep st)
  replace O_h1 := Lib.hid (O_h1.out.keep st)
  clear st hb
  have hq_t14 : (((degs aRelation_ar aRelation_rows aColumn).1) == ((degs aRelation_ar aRelation_rows aColumn).1)) = true := by simp
  go_wp2_with fail
  refine (eq_IntS O_h1.out.rd (W_w1.out.keep B_w3.out)).mono ?_
  rintro e w20 ⟨rfl, hb⟩
  have hzw20 : w19.heap.size + 0 ≤ w20.heap.size := by have := hb.size; omega
  have st : Below w19.heap.size w19 w20 := hb
  replace c_aRelation_0 := (st.cell (p := ⟨w.heap.size, 0, none⟩) hz_aRelation).trans c_aRelation_0
  replace c_aRelation_1 := (st.cell (p := ⟨w.heap.size, 1, none⟩) hz_aRelation).trans c_aRelation_1
  replace hz_aRelation : w.heap.size < w20.heap.size := by omega
  replace c_x0_0 := (st.cell (p := ⟨w4.heap.size, 0, none⟩) hz_x0).trans c_x0_0
  replace c_x0_1 := (st.cell (p := ⟨w4.heap.size, 1, none⟩) hz_x0).trans c_x0_1
  replace hz_x0 : w4.heap.size < w20.heap.size := by omega
  replace B_w := Lib.hid (B_w.out.trans (st.mono (by omega)))
  replace B_w3 := Lib.hid (B_w3.out.trans (st.mono (by omega)))
  replace O_t2 := Lib.hid (O_t2.out.keep st)
  replace O_g0 := Lib.hid (O_g0.out.keep st)
  replace O_g1 := Lib.hid (O_g1.out.keep st)
  replace O_h0 := Lib.hid (O_h0.out.keep st)
  replace O_h1 := Lib.hid (O_h1.out.keep st)
  clear st hb
  have hq_t15 : (((degs aRelation_ar aRelation_rows aColumn).2) == ((degs aRelation_ar aRelation_rows aColumn).2)) = true := by simp
  go_wp2_with fail
  refine (held_IntS (k := 1) O_g0.out.rd (by omega) (by omega)).mono ?_
  rintro e w21 ⟨rfl, hb⟩
  have hzw21 : w20.heap.size + 0 ≤ w21.heap.size := by have := hb.size; omega
  have st : Below w20.heap.size w20 w21 := hb
  replace c_aRelation_0 := (st.cell (p := ⟨w.heap.size, 0, none⟩) hz_aRelation).trans c_aRelation_0
  replace c_aRelation_1 := (st.cell (p := ⟨w.heap.size, 1, none⟩) hz_aRelation).trans c_aRelation_1
  replace hz_aRelation : w.heap.size < w21.heap.size := by omega
  replace c_x0_0 := (st.cell (p := ⟨w4.heap.size, 0, none⟩) hz_x0).trans c_x0_0
  replace c_x0_1 := (st.cell (p := ⟨w4.heap.size, 1, none⟩) hz_x0).trans c_x0_1
  replace hz_x0 : w4.heap.size < w21.heap.size := by omega
  replace B_w := Lib.hid (B_w.out.trans (st.mono (by omega)))
  replace B_w3 := Lib.hid (B_w3.out.trans (st.mono (by omega)))
  replace O_t2 := Lib.hid (O_t2.out.keep st)
  replace O_g0 := Lib.hid (O_g0.out.keep st)
  replace O_g1 := Lib.hid (O_g1.out.keep st)
  replace O_h0 := Lib.hid (O_h0.out.keep st)
  replace O_h1 := Lib.hid (O_h1.out.keep st)
  clear st hb
  have hn_t16 : ¬ ((1 + (cnt_IntS ((degs aRelation_ar aRelation_rows aColumn).1) : Nat) : Int) < 0) := by omega
  go_wp2_with fail
  refine (held_IntS (k := (1 + (cnt_IntS ((degs aRelation_ar aRelation_rows aColumn).1) : Nat))) O_g1.out.rd (by omega) (by omega)).mono ?_
  rintro e w22 ⟨rfl, hb⟩
  have hzw22 : w21.heap.size + 0 ≤ w22.heap.size := by have := hb.size; omega
  have st : Below w21.heap.size w21 w22 := hb
  replace c_aRelation_0 := (st.cell (p := ⟨w.heap.size, 0, none⟩) hz_aRelation).trans c_aRelation_0
  replace c_aRelation_1 := (st.cell (p := ⟨w.heap.size, 1, none⟩) hz_aRelation).trans c_aRelation_1
  replace hz_aRelation : w.heap.size < w22.heap.size := by omega
  replace c_x0_0 := (st.cell (p := ⟨w4.heap.size, 0, none⟩) hz_x0).trans c_x0_0
  replace c_x0_1 := (st.cell (p := ⟨w4.heap.size, 1, none⟩) hz_x0).trans c_x0_1
  replace hz_x0 : w4.heap.size < w22.heap.size := by omega
  replace B_w := Lib.hid (B_w.out.trans (st.mono (by omega)))
  replace B_w3 := Lib.hid (B_w3.out.trans (st.mono (by omega)))
  replace O_t2 := Lib.hid (O_t2.out.keep st)
  replace O_g0 := Lib.hid (O_g0.out.keep st)
  replace O_g1 := Lib.hid (O_g1.out.keep st)
  replace O_h0 := Lib.hid (O_h0.out.keep st)
  replace O_h1 := Lib.hid (O_h1.out.keep st)
  clear st hb
  have hn_t17 : ¬ ((1 + (cnt_IntS ((degs aRelation_ar aRelation_rows aColumn).1) : Nat) + (cnt_IntS ((degs aRelation_ar aRelation_rows aColumn).2) : Nat) : Int) < 0) := by omega
  have hn_t18 : ((1 + (cnt_IntS ((degs aRelation_ar aRelation_rows aColumn).1) : Nat) + (cnt_IntS ((degs aRelation_ar aRelation_rows aColumn).2) : Nat) : Int) != (1 + (cnt_IntS ((degs aRelation_ar aRelation_rows aColumn).1) : Nat) + (cnt_IntS ((degs aRelation_ar aRelation_rows aColumn).2) : Nat) : Int)) = false := by simp
  go_wp2
  go_ret
  exact ⟨rfl, B_w.out⟩

theorem own : ownKnob Try.prog.godebug = none := by kernel_rfl
theorem laidOut : laidOutB Try.prog = true := by kernel_rfl
theorem readable : Try.f8.params.toList.all (fun t => Try.prog.readableRec t && decide (t < Try.prog.types.size)) = true := by kernel_rfl

set_option maxRecDepth 100000 in
theorem lifted (os : Os) (started : os.Started) (H : Type) (enc : TypeId × Value → H) :
    ReturnsInHanded {} Try.checked os 8 .any (Rows.fnExactColumnDegreesSpec.pre6 enc Try.prog Try.f8 Rows.fnExactColumnDegreesRow.domain false) (Rows.fnExactColumnDegreesSpec.post enc Try.prog Try.f8 false true false false) := by
  refine returnsInHanded_of_change (C := Try.checked) own started (by kernel_rfl) Try.func8
    (ChangeSpec.witness6 (enc := enc) (C := Try.checked) false ⟨#[], #[.agg #[.int .i64 0, .slice none 0 0], .int .i64 0], []⟩ 8 (by kernel_rfl) (by kernel_rfl) (by kernel_rfl) (by kernel_rfl)) ?_
  intro W base args ds gs before hval0 hW hcnd _
  have hval : ∀ (j : Nat) t v, Try.f8.params[j]? = some t → args[j]? = some v → Value.okWide Try.prog W .any base t v := hval0
  have hW' := hW
  obtain ⟨p, q, hA0, hV, rfl, hfz, hnd⟩ := hW
  have hA : DataW.TrodAll enc Try.prog W 0 (fun _ => true) true Try.f8.params.toList args.toList ds p := hA0
  rw [Try.params8] at hA hval
  obtain ⟨v0, vs0, d0, ds0, p0, q0, hargs, rfl, rfl, h0, r0⟩ := trodAll_cons hA
  obtain ⟨v1, vs1, d1, ds1, p1, q1, rfl, rfl, rfl, h1, r1⟩ := trodAll_cons r0
  obtain ⟨rfl, rfl, rfl⟩ := trodAll_nil r1
  obtain rfl : args = #[v0, v1] := by cases args; simp_all
  obtain ⟨rfl, rfl⟩ := trodVars_none hV
  obtain ⟨aRelation_ar, v_aRelation_rows, aRelation_rows, rfl, fit_aRelation_ar, h_aRelation⟩ := open_Relation (hval 0 46 v0 rfl rfl) h0
  obtain ⟨aColumn, rfl, _, _, wf_aColumn⟩ := open_int Try.underlying3 (hval 1 3 v1 rfl rfl) h1
  simp only [List.append_nil] at hW' hA0
  refine (walk aRelation_ar v_aRelation_rows aRelation_rows aColumn W fit_aRelation_ar h_aRelation (wf_fit wf_aColumn)).mono fun e W' ⟨he, hb⟩ => ?_
  subst he
  exact ⟨_, rfl, law_post laidOut readable rfl rfl Try.underlying4 hW' hA0 rfl hb⟩

theorem over : Rows.fnExactColumnDegreesRow.holds Try.pinned (OpenSpec.ofChange Rows.fnExactColumnDegreesSpec) :=
  OpenClaim.holds_of_wide 8 Try.f8 rfl rfl rfl rfl rfl rfl rfl ⟨rfl, rfl, rfl, rfl, rfl⟩ rfl rfl rfl rfl rfl (by kernel_rfl) Try.func8 (by kernel_rfl)
    (of_decide_eq_true (by kernel_rfl)) (by unfold Func.isWrapper; first | (rw [if_pos (by decide +kernel)]; kernel_rfl) | (rw [if_neg (by decide +kernel)]; exact ⟨rfl, rfl⟩))
    (fun os started H enc _ => lifted os started H enc)

theorem proved : Rows.FnExactColumnDegreesSaid :=
  over
#print axioms proved
end Go.Proofs.Ytnijkpbecgifjaa.coldeg
