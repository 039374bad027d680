/-
  What is proved: for all arguments the program's EqualCertificates returns what the reference's returns, so the law FnExactEqualCertificates returns true. There are no conditions.
  The walk was written by program (lawgen.py) out of the law's Go text.
-/
import Derived.Test.YtnijkpbecgifjaaRows
import Derived.Test.YtnijkpbecgifjaaCert
import Derived.Test.YtnijkpbecgifjaaLawCert
import Derived.Test.YtnijkpbecgifjaaLawKit
import Derived.ProofKit
import Derived.Deep.RegionHeld3
namespace Go.Proofs.Ytnijkpbecgifjaa.eqcert
open Go.ChangeShapes Go.WideShapes Go.ChangeAt Go.RowKit
set_option linter.unusedVariables false


set_option maxHeartbeats 4000000 in
set_option maxRecDepth 100000 in
theorem walk (v_aA_Order : Value) (aA_Order : List Int) (v_aA_Cover : Value) (aA_Cover : List (Int × Int)) (v_aA_Sizes : Value) (aA_Sizes : List Int) (aA_Rows : Int) (aA_Seeks : Int) (v_aB_Order : Value) (aB_Order : List Int) (v_aB_Cover : Value) (aB_Cover : List (Int × Int)) (v_aB_Sizes : Value) (aB_Sizes : List Int) (aB_Rows : Int) (aB_Seeks : Int) (w : World) (fit_aA_Rows : -9223372036854775808 ≤ aA_Rows ∧ aA_Rows ≤ 9223372036854775807) (fit_aA_Seeks : -9223372036854775808 ≤ aA_Seeks ∧ aA_Seeks ≤ 9223372036854775807) (h_aA : Rd_Certificate w v_aA_Order aA_Order v_aA_Cover aA_Cover v_aA_Sizes aA_Sizes) (fit_aB_Rows : -9223372036854775808 ≤ aB_Rows ∧ aB_Rows ≤ 9223372036854775807) (fit_aB_Seeks : -9223372036854775808 ≤ aB_Seeks ∧ aB_Seeks ≤ 9223372036854775807) (h_aB : Rd_Certificate w v_aB_Order aB_Order v_aB_Cover aB_Cover v_aB_Sizes aB_Sizes) :
    Calls Try.prog 5 #[.agg #[v_aA_Order, v_aA_Cover, v_aA_Sizes, .int .i64 aA_Rows, .int .i64 aA_Seeks], .agg #[v_aB_Order, v_aB_Cover, v_aB_Sizes, .int .i64 aB_Rows, .int .i64 aB_Seeks]] w fun e w' => e = .returned (.bool true) ∧ Below w.heap.size w w' := by
  have R_aA := Lib.hid h_aA
  obtain ⟨AaA_0, CaA_0, AaA_1, CaA_1, AaA_2, CaA_2, rfl, rfl, rfl⟩ := h_aA.form
  clear h_aA
  have R_aB := Lib.hid h_aB
  obtain ⟨AaB_0, CaB_0, AaB_1, CaB_1, AaB_2, CaB_2, rfl, rfl, rfl⟩ := h_aB.form
  clear h_aB
  have B_w := Lib.hid (Below.refl w.heap.size w)
  go_enter Try.func5, Try.ntmps5
  go_wp2_with fail
  refine (sz_Certificate (R_aA.out.keep (below2 _ _ _)) (by omega) (by omega)).mono ?_
  rintro e w1 ⟨rfl, hb⟩
  have hzw1 : w.heap.size + 2 ≤ w1.heap.size := by have := hb.size; simp only [World.size_alloc] at this; omega
  have st : Below w.heap.size w w1 := (below2 _ _ _).trans (hb.mono (by simp only [World.size_alloc]; omega))
  have hz_aA : w.heap.size < w1.heap.size := by omega
  have c_aA_0 : w1.cell? ⟨w.heap.size, 0, none⟩ = some (.slice AaA_0 aA_Order.length CaA_0) := (hb.cell (p := ⟨w.heap.size, 0, none⟩) (by simp only [World.size_alloc]; omega)).trans (((below1 _ _).cell (p := ⟨w.heap.size, 0, none⟩) (by simp only [World.size_alloc]; omega)).trans (cell_at _ _ _ 0 rfl))
  have c_aA_1 : w1.cell? ⟨w.heap.size, 1, none⟩ = some (.slice AaA_1 aA_Cover.length CaA_1) := (hb.cell (p := ⟨w.heap.size, 1, none⟩) (by simp only [World.size_alloc]; omega)).trans (((below1 _ _).cell (p := ⟨w.heap.size, 1, none⟩) (by simp only [World.size_alloc]; omega)).trans (cell_at _ _ _ 1 rfl))
  have c_aA_2 : w1.cell? ⟨w.heap.size, 2, none⟩ = some (.slice AaA_2 aA_Sizes.length CaA_2) := (hb.cell (p := ⟨w.heap.size, 2, none⟩) (by simp only [World.size_alloc]; omega)).trans (((below1 _ _).cell (p := ⟨w.heap.size, 2, none⟩) (by simp only [World.size_alloc]; omega)).trans (cell_at _ _ _ 2 rfl))
  have c_aA_3 : w1.cell? ⟨w.heap.size, 3, none⟩ = some (.int .i64 aA_Rows) := (hb.cell (p := ⟨w.heap.size, 3, none⟩) (by simp only [World.size_alloc]; omega)).trans (((below1 _ _).cell (p := ⟨w.heap.size, 3, none⟩) (by simp only [World.size_alloc]; omega)).trans (cell_at _ _ _ 3 rfl))
  have c_aA_4 : w1.cell? ⟨w.heap.size, 4, none⟩ = some (.int .i64 aA_Seeks) := (hb.cell (p := ⟨w.heap.size, 4, none⟩) (by simp only [World.size_alloc]; omega)).trans (((below1 _ _).cell (p := ⟨w.heap.size, 4, none⟩) (by simp only [World.size_alloc]; omega)).trans (cell_at _ _ _ 4 rfl))
  have hz_aB : w.heap.size + 1 < w1.heap.size := by omega
  have c_aB_0 : w1.cell? ⟨w.heap.size + 1, 0, none⟩ = some (.slice AaB_0 aB_Order.length CaB_0) := (hb.cell (p := ⟨w.heap.size + 1, 0, none⟩) (by simp only [World.size_alloc]; omega)).trans (cell_at _ _ _ 0 (by simp only [World.size_alloc]))
  have c_aB_1 : w1.cell? ⟨w.heap.size + 1, 1, none⟩ = some (.slice AaB_1 aB_Cover.length CaB_1) := (hb.cell (p := ⟨w.heap.size + 1, 1, none⟩) (by simp only [World.size_alloc]; omega)).trans (cell_at _ _ _ 1 (by simp only [World.size_alloc]))
  have c_aB_2 : w1.cell? ⟨w.heap.size + 1, 2, none⟩ = some (.slice AaB_2 aB_Sizes.length CaB_2) := (hb.cell (p := ⟨w.heap.size + 1, 2, none⟩) (by simp only [World.size_alloc]; omega)).trans (cell_at _ _ _ 2 (by simp only [World.size_alloc]))
  have c_aB_3 : w1.cell? ⟨w.heap.size + 1, 3, none⟩ = some (.int .i64 aB_Rows) := (hb.cell (p := ⟨w.heap.size + 1, 3, none⟩) (by simp only [World.size_alloc]; omega)).trans (cell_at _ _ _ 3 (by simp only [World.size_alloc]))
  have c_aB_4 : w1.cell? ⟨w.heap.size + 1, 4, none⟩ = some (.int .i64 aB_Seeks) := (hb.cell (p := ⟨w.heap.size + 1, 4, none⟩) (by simp only [World.size_alloc]; omega)).trans (cell_at _ _ _ 4 (by simp only [World.size_alloc]))
  replace B_w := Lib.hid (B_w.out.trans (st.mono (by omega)))
  clear st hb
  by_cases hbk_aA' : (1048576 : Int) < (bulk_Certificate aA_Order aA_Cover aA_Sizes : Nat)
  · rw [szS_no hbk_aA']
    go_wp2
    go_ret
    exact ⟨rfl, B_w.out⟩
  rw [szS_yes hbk_aA']
  have hl_aA : ¬ ((1048576 - (bulk_Certificate aA_Order aA_Cover aA_Sizes : Nat) : Int) < 0) := by omega
  have hbk_aA : bulk_Certificate aA_Order aA_Cover aA_Sizes ≤ 1048576 := by omega
  clear hbk_aA'
  go_wp2_with fail
  refine (sz_Certificate (R_aB.out.keep B_w.out) (by omega) (by omega)).mono ?_
  rintro e w2 ⟨rfl, hb⟩
  have hzw2 : w1.heap.size + 0 ≤ w2.heap.size := by have := hb.size; omega
  have st : Below w1.heap.size w1 w2 := hb
  replace c_aA_0 := (st.cell (p := ⟨w.heap.size, 0, none⟩) hz_aA).trans c_aA_0
  replace c_aA_1 := (st.cell (p := ⟨w.heap.size, 1, none⟩) hz_aA).trans c_aA_1
  replace c_aA_2 := (st.cell (p := ⟨w.heap.size, 2, none⟩) hz_aA).trans c_aA_2
  replace c_aA_3 := (st.cell (p := ⟨w.heap.size, 3, none⟩) hz_aA).trans c_aA_3
  replace c_aA_4 := (st.cell (p := ⟨w.heap.size, 4, none⟩) hz_aA).trans c_aA_4
  replace hz_aA : w.heap.size < w2.heap.size := by omega
  replace c_aB_0 := (st.cell (p := ⟨w.heap.size + 1, 0, none⟩) hz_aB).trans c_aB_0
  replace c_aB_1 := (st.cell (p := ⟨w.heap.size + 1, 1, none⟩) hz_aB).trans c_aB_1
  replace c_aB_2 := (st.cell (p := ⟨w.heap.size + 1, 2, none⟩) hz_aB).trans c_aB_2
  replace c_aB_3 := (st.cell (p := ⟨w.heap.size + 1, 3, none⟩) hz_aB).trans c_aB_3
  replace c_aB_4 := (st.cell (p := ⟨w.heap.size + 1, 4, none⟩) hz_aB).trans c_aB_4
  replace hz_aB : w.heap.size + 1 < w2.heap.size := by omega
  replace B_w := Lib.hid (B_w.out.trans (st.mono (by omega)))
  clear st hb
  by_cases hbk_aB' : (1048576 - (bulk_Certificate aA_Order aA_Cover aA_Sizes : Nat) : Int) < (bulk_Certificate aB_Order aB_Cover aB_Sizes : Nat)
  · rw [szS_no hbk_aB']
    go_wp2
    go_ret
    exact ⟨rfl, B_w.out⟩
  rw [szS_yes hbk_aB']
  have hl_aB : ¬ ((1048576 - (bulk_Certificate aA_Order aA_Cover aA_Sizes : Nat) - (bulk_Certificate aB_Order aB_Cover aB_Sizes : Nat) : Int) < 0) := by omega
  have hbk_aB : bulk_Certificate aB_Order aB_Cover aB_Sizes ≤ 1048576 := by omega
  clear hbk_aB'
  go_wp2
  go_region_held3 (fun w' => w'.cell? ⟨w.heap.size, 0, none⟩ = some (.slice AaA_0 aA_Order.length CaA_0) ∧ w'.cell? ⟨w.heap.size, 1, none⟩ = some (.slice AaA_1 aA_Cover.length CaA_1) ∧ w'.cell? ⟨w.heap.size, 2, none⟩ = some (.slice AaA_2 aA_Sizes.length CaA_2) ∧ w'.cell? ⟨w.heap.size, 3, none⟩ = some (.int .i64 aA_Rows) ∧ w'.cell? ⟨w.heap.size, 4, none⟩ = some (.int .i64 aA_Seeks) ∧ w'.cell? ⟨w.heap.size + 1, 0, none⟩ = some (.slice AaB_0 aB_Order.length CaB_0) ∧ w'.cell? ⟨w.heap.size + 1, 1, none⟩ = some (.slice AaB_1 aB_Cover.length CaB_1) ∧ w'.cell? ⟨w.heap.size + 1, 2, none⟩ = some (.slice AaB_2 aB_Sizes.length CaB_2) ∧ w'.cell? ⟨w.heap.size + 1, 3, none⟩ = some (.int .i64 aB_Rows) ∧ w'.cell? ⟨w.heap.size + 1, 4, none⟩ = some (.int .i64 aB_Seeks)) (first | exact ⟨c_aA_0, c_aA_1, c_aA_2, c_aA_3, c_aA_4, c_aB_0, c_aB_1, c_aB_2, c_aB_3, c_aB_4⟩ | exact ⟨d1_0, d1_1, d1_2, d1_3, d1_4, d1_5, d1_6, d1_7, d1_8, d1_9⟩ | exact ⟨d2_0, d2_1, d2_2, d2_3, d2_4, d2_5, d2_6, d2_7, d2_8, d2_9⟩ | exact ⟨d3_0, d3_1, d3_2, d3_3, d3_4, d3_5, d3_6, d3_7, d3_8, d3_9⟩)
    (first
      | (go_at_call 20; refine (specEqualCertificates_c Q2_1.out Q2_2.out).mono ?_; rintro e w5 ⟨rfl, hb⟩; have hz3 : w4.heap.size ≤ w5.heap.size := hb.size; have d3_0 := (hb.cell (p := ⟨w.heap.size, 0, none⟩) (Nat.lt_of_lt_of_le hz_aA st2.out.size)).trans d2_0; have d3_1 := (hb.cell (p := ⟨w.heap.size, 1, none⟩) (Nat.lt_of_lt_of_le hz_aA st2.out.size)).trans d2_1; have d3_2 := (hb.cell (p := ⟨w.heap.size, 2, none⟩) (Nat.lt_of_lt_of_le hz_aA st2.out.size)).trans d2_2; have d3_3 := (hb.cell (p := ⟨w.heap.size, 3, none⟩) (Nat.lt_of_lt_of_le hz_aA st2.out.size)).trans d2_3; have d3_4 := (hb.cell (p := ⟨w.heap.size, 4, none⟩) (Nat.lt_of_lt_of_le hz_aA st2.out.size)).trans d2_4; have d3_5 := (hb.cell (p := ⟨w.heap.size + 1, 0, none⟩) (Nat.lt_of_lt_of_le hz_aB st2.out.size)).trans d2_5; have d3_6 := (hb.cell (p := ⟨w.heap.size + 1, 1, none⟩) (Nat.lt_of_lt_of_le hz_aB st2.out.size)).trans d2_6; have d3_7 := (hb.cell (p := ⟨w.heap.size + 1, 2, none⟩) (Nat.lt_of_lt_of_le hz_aB st2.out.size)).trans d2_7; have d3_8 := (hb.cell (p := ⟨w.heap.size + 1, 3, none⟩) (Nat.lt_of_lt_of_le hz_aB st2.out.size)).trans d2_8; have d3_9 := (hb.cell (p := ⟨w.heap.size + 1, 4, none⟩) (Nat.lt_of_lt_of_le hz_aB st2.out.size)).trans d2_9; have st3 := Lib.hid (st2.out.trans (hb.mono st2.out.size)); clear hb)
      | (go_at_call 21; refine (to_Certificate (R_aB.out.keep (B_w.out.trans (st1.out.mono B_w.out.size))) (by omega)).mono ?_; rintro e w4 ⟨vt2_0, vt2_1, vt2_2, rfl, ho, hb⟩; obtain ⟨At2_0, Ct2_0, At2_1, Ct2_1, At2_2, Ct2_2, rfl, rfl, rfl⟩ := ho.form; have Q2_2 := Lib.hid ho.rd; have Q2_1 := Lib.hid (Q1_1.out.keep hb); have hz2 : w3.heap.size ≤ w4.heap.size := hb.size; have d2_0 := (hb.cell (p := ⟨w.heap.size, 0, none⟩) (Nat.lt_of_lt_of_le hz_aA st1.out.size)).trans d1_0; have d2_1 := (hb.cell (p := ⟨w.heap.size, 1, none⟩) (Nat.lt_of_lt_of_le hz_aA st1.out.size)).trans d1_1; have d2_2 := (hb.cell (p := ⟨w.heap.size, 2, none⟩) (Nat.lt_of_lt_of_le hz_aA st1.out.size)).trans d1_2; have d2_3 := (hb.cell (p := ⟨w.heap.size, 3, none⟩) (Nat.lt_of_lt_of_le hz_aA st1.out.size)).trans d1_3; have d2_4 := (hb.cell (p := ⟨w.heap.size, 4, none⟩) (Nat.lt_of_lt_of_le hz_aA st1.out.size)).trans d1_4; have d2_5 := (hb.cell (p := ⟨w.heap.size + 1, 0, none⟩) (Nat.lt_of_lt_of_le hz_aB st1.out.size)).trans d1_5; have d2_6 := (hb.cell (p := ⟨w.heap.size + 1, 1, none⟩) (Nat.lt_of_lt_of_le hz_aB st1.out.size)).trans d1_6; have d2_7 := (hb.cell (p := ⟨w.heap.size + 1, 2, none⟩) (Nat.lt_of_lt_of_le hz_aB st1.out.size)).trans d1_7; have d2_8 := (hb.cell (p := ⟨w.heap.size + 1, 3, none⟩) (Nat.lt_of_lt_of_le hz_aB st1.out.size)).trans d1_8; have d2_9 := (hb.cell (p := ⟨w.heap.size + 1, 4, none⟩) (Nat.lt_of_lt_of_le hz_aB st1.out.size)).trans d1_9; have st2 := Lib.hid (st1.out.trans (hb.mono st1.out.size)); clear ho hb)
      | (go_at_call 21; refine (to_Certificate (R_aA.out.keep B_w.out.drew) (by omega)).mono ?_; rintro e w3 ⟨vt1_0, vt1_1, vt1_2, rfl, ho, hb'⟩; have hb := undrew hb'; obtain ⟨At1_0, Ct1_0, At1_1, Ct1_1, At1_2, Ct1_2, rfl, rfl, rfl⟩ := ho.form; have Q1_1 := Lib.hid ho.rd; have hz1 : w2.heap.size ≤ w3.heap.size := hb.size; have d1_0 := (hb.cell (p := ⟨w.heap.size, 0, none⟩) hz_aA).trans c_aA_0; have d1_1 := (hb.cell (p := ⟨w.heap.size, 1, none⟩) hz_aA).trans c_aA_1; have d1_2 := (hb.cell (p := ⟨w.heap.size, 2, none⟩) hz_aA).trans c_aA_2; have d1_3 := (hb.cell (p := ⟨w.heap.size, 3, none⟩) hz_aA).trans c_aA_3; have d1_4 := (hb.cell (p := ⟨w.heap.size, 4, none⟩) hz_aA).trans c_aA_4; have d1_5 := (hb.cell (p := ⟨w.heap.size + 1, 0, none⟩) hz_aB).trans c_aB_0; have d1_6 := (hb.cell (p := ⟨w.heap.size + 1, 1, none⟩) hz_aB).trans c_aB_1; have d1_7 := (hb.cell (p := ⟨w.heap.size + 1, 2, none⟩) hz_aB).trans c_aB_2; have d1_8 := (hb.cell (p := ⟨w.heap.size + 1, 3, none⟩) hz_aB).trans c_aB_3; have d1_9 := (hb.cell (p := ⟨w.heap.size + 1, 4, none⟩) hz_aB).trans c_aB_4; have st1 := Lib.hid hb; clear ho hb hb'))
  have hb := st3.out
  clear Q1_1 st1 d1_0 d1_1 d1_2 d1_3 d1_4 d1_5 d1_6 d1_7 d1_8 d1_9 Q2_2 Q2_1 st2 d2_0 d2_1 d2_2 d2_3 d2_4 d2_5 d2_6 d2_7 d2_8 d2_9 st3 d3_0 d3_1 d3_2 d3_3 d3_4 d3_5 d3_6 d3_7 d3_8 d3_9
  have hzw5 : w2.heap.size + 0 ≤ w5.heap.size := by have := hb.size; omega
  have st : Below w2.heap.size w2 w5 := hb
  replace c_aA_0 := (st.cell (p := ⟨w.heap.size, 0, none⟩) hz_aA).trans c_aA_0
  replace c_aA_1 := (st.cell (p := ⟨w.heap.size, 1, none⟩) hz_aA).trans c_aA_1
  replace c_aA_2 := (st.cell (p := ⟨w.heap.size, 2, none⟩) hz_aA).trans c_aA_2
  replace c_aA_3 := (st.cell (p := ⟨w.heap.size, 3, none⟩) hz_aA).trans c_aA_3
  replace c_aA_4 := (st.cell (p := ⟨w.heap.size, 4, none⟩) hz_aA).trans c_aA_4
  replace hz_aA : w.heap.size < w5.heap.size := by omega
  replace c_aB_0 := (st.cell (p := ⟨w.heap.size + 1, 0, none⟩) hz_aB).trans c_aB_0
  replace c_aB_1 := (st.cell (p := ⟨w.heap.size + 1, 1, none⟩) hz_aB).trans c_aB_1
  replace c_aB_2 := (st.cell (p := ⟨w.heap.size + 1, 2, none⟩) hz_aB).trans c_aB_2
  replace c_aB_3 := (st.cell (p := ⟨w.heap.size + 1, 3, none⟩) hz_aB).trans c_aB_3
  replace c_aB_4 := (st.cell (p := ⟨w.heap.size + 1, 4, none⟩) hz_aB).trans c_aB_4
  replace hz_aB : w.heap.size + 1 < w5.heap.size := by omega
  replace B_w := Lib.hid (B_w.out.trans (st.mono (by omega)))
  clear st hb
  go_wp2_with fail
  refine (to_Certificate (R_aA.out.keep B_w.out) (by omega)).mono ?_
  rintro e w6 ⟨vt3_0, vt3_1, vt3_2, rfl, ho, hb⟩
  have O_t3 := Lib.hid (ho.mono (fun g hg => (⟨hg.1, hg.2⟩ : Inn (w5.heap.size + 0) w6.heap.size g)))
  obtain ⟨At3_0, Ct3_0, At3_1, Ct3_1, At3_2, Ct3_2, rfl, rfl, rfl⟩ := ho.form
  clear ho
  have hzw6 : w5.heap.size + 0 ≤ w6.heap.size := by have := hb.size; omega
  have st : Below w5.heap.size w5 w6 := hb
  replace c_aA_0 := (st.cell (p := ⟨w.heap.size, 0, none⟩) hz_aA).trans c_aA_0
  replace c_aA_1 := (st.cell (p := ⟨w.heap.size, 1, none⟩) hz_aA).trans c_aA_1
  replace c_aA_2 := (st.cell (p := ⟨w.heap.size, 2, none⟩) hz_aA).trans c_aA_2
  replace c_aA_3 := (st.cell (p := ⟨w.heap.size, 3, none⟩) hz_aA).trans c_aA_3
  replace c_aA_4 := (st.cell (p := ⟨w.heap.size, 4, none⟩) hz_aA).trans c_aA_4
  replace hz_aA : w.heap.size < w6.heap.size := by omega
  replace c_aB_0 := (st.cell (p := ⟨w.heap.size + 1, 0, none⟩) hz_aB).trans c_aB_0
  replace c_aB_1 := (st.cell (p := ⟨w.heap.size + 1, 1, none⟩) hz_aB).trans c_aB_1
  replace c_aB_2 := (st.cell (p := ⟨w.heap.size + 1, 2, none⟩) hz_aB).trans c_aB_2
  replace c_aB_3 := (st.cell (p := ⟨w.heap.size + 1, 3, none⟩) hz_aB).trans c_aB_3
  replace c_aB_4 := (st.cell (p := ⟨w.heap.size + 1, 4, none⟩) hz_aB).trans c_aB_4
  replace hz_aB : w.heap.size + 1 < w6.heap.size := by omega
  replace B_w := Lib.hid (B_w.out.trans (st.mono (by omega)))
  clear st hb
  go_wp2_with fail
  refine (to_Certificate ((R_aB.out.keep B_w.out).keep (below1 _ _)) (by omega)).mono ?_
  rintro e w7 ⟨vt4_0, vt4_1, vt4_2, rfl, ho, hb⟩
  have O_t4 := Lib.hid (ho.mono (fun g hg => (⟨by have := hg.1; simp only [World.size_alloc] at this; omega, hg.2⟩ : Inn (w6.heap.size + 1) w7.heap.size g)))
  obtain ⟨At4_0, Ct4_0, At4_1, Ct4_1, At4_2, Ct4_2, rfl, rfl, rfl⟩ := ho.form
  clear ho
  have hzw7 : w6.heap.size + 1 ≤ w7.heap.size := by have := hb.size; simp only [World.size_alloc] at this; omega
  have st : Below w6.heap.size w6 w7 := (below1 _ _).trans (hb.mono (by simp only [World.size_alloc]; omega))
  replace c_aA_0 := (st.cell (p := ⟨w.heap.size, 0, none⟩) hz_aA).trans c_aA_0
  replace c_aA_1 := (st.cell (p := ⟨w.heap.size, 1, none⟩) hz_aA).trans c_aA_1
  replace c_aA_2 := (st.cell (p := ⟨w.heap.size, 2, none⟩) hz_aA).trans c_aA_2
  replace c_aA_3 := (st.cell (p := ⟨w.heap.size, 3, none⟩) hz_aA).trans c_aA_3
  replace c_aA_4 := (st.cell (p := ⟨w.heap.size, 4, none⟩) hz_aA).trans c_aA_4
  replace hz_aA : w.heap.size < w7.heap.size := by omega
  replace c_aB_0 := (st.cell (p := ⟨w.heap.size + 1, 0, none⟩) hz_aB).trans c_aB_0
  replace c_aB_1 := (st.cell (p := ⟨w.heap.size + 1, 1, none⟩) hz_aB).trans c_aB_1
  replace c_aB_2 := (st.cell (p := ⟨w.heap.size + 1, 2, none⟩) hz_aB).trans c_aB_2
  replace c_aB_3 := (st.cell (p := ⟨w.heap.size + 1, 3, none⟩) hz_aB).trans c_aB_3
  replace c_aB_4 := (st.cell (p := ⟨w.heap.size + 1, 4, none⟩) hz_aB).trans c_aB_4
  replace hz_aB : w.heap.size + 1 < w7.heap.size := by omega
  have hz_x0 : w6.heap.size < w7.heap.size := by omega
  have c_x0_0 : w7.cell? ⟨w6.heap.size, 0, none⟩ = some (.slice At3_0 aA_Order.length Ct3_0) := (hb.cell (p := ⟨w6.heap.size, 0, none⟩) (by simp only [World.size_alloc]; omega)).trans (cell_at _ _ _ 0 rfl)
  have c_x0_1 : w7.cell? ⟨w6.heap.size, 1, none⟩ = some (.slice At3_1 aA_Cover.length Ct3_1) := (hb.cell (p := ⟨w6.heap.size, 1, none⟩) (by simp only [World.size_alloc]; omega)).trans (cell_at _ _ _ 1 rfl)
  have c_x0_2 : w7.cell? ⟨w6.heap.size, 2, none⟩ = some (.slice At3_2 aA_Sizes.length Ct3_2) := (hb.cell (p := ⟨w6.heap.size, 2, none⟩) (by simp only [World.size_alloc]; omega)).trans (cell_at _ _ _ 2 rfl)
  have c_x0_3 : w7.cell? ⟨w6.heap.size, 3, none⟩ = some (.int .i64 aA_Rows) := (hb.cell (p := ⟨w6.heap.size, 3, none⟩) (by simp only [World.size_alloc]; omega)).trans (cell_at _ _ _ 3 rfl)
  have c_x0_4 : w7.cell? ⟨w6.heap.size, 4, none⟩ = some (.int .i64 aA_Seeks) := (hb.cell (p := ⟨w6.heap.size, 4, none⟩) (by simp only [World.size_alloc]; omega)).trans (cell_at _ _ _ 4 rfl)
  replace B_w := Lib.hid (B_w.out.trans (st.mono (by omega)))
  replace O_t3 := Lib.hid (O_t3.out.keep st)
  clear st hb
  go_wp2_with fail
  refine (implEqualCertificates_c (O_t3.out.keep (below1 _ _)).rd (O_t4.out.keep (below1 _ _)).rd).mono ?_
  rintro e w8 ⟨rfl, hb⟩
  have hzw8 : w7.heap.size + 1 ≤ w8.heap.size := by have := hb.size; simp only [World.size_alloc] at this; omega
  have st : Below w7.heap.size w7 w8 := (below1 _ _).trans (hb.mono (by simp only [World.size_alloc]; omega))
  replace c_aA_0 := (st.cell (p := ⟨w.heap.size, 0, none⟩) hz_aA).trans c_aA_0
  replace c_aA_1 := (st.cell (p := ⟨w.heap.size, 1, none⟩) hz_aA).trans c_aA_1
  replace c_aA_2 := (st.cell (p := ⟨w.heap.size, 2, none⟩) hz_aA).trans c_aA_2
  replace c_aA_3 := (st.cell (p := ⟨w.heap.size, 3, none⟩) hz_aA).trans c_aA_3
  replace c_aA_4 := (st.cell (p := ⟨w.heap.size, 4, none⟩) hz_aA).trans c_aA_4
  replace hz_aA : w.heap.size < w8.heap.size := by omega
  replace c_aB_0 := (st.cell (p := ⟨w.heap.size + 1, 0, none⟩) hz_aB).trans c_aB_0
  replace c_aB_1 := (st.cell (p := ⟨w.heap.size + 1, 1, none⟩) hz_aB).trans c_aB_1
  replace c_aB_2 := (st.cell (p := ⟨w.heap.size + 1, 2, none⟩) hz_aB).trans c_aB_2
  replace c_aB_3 := (st.cell (p := ⟨w.heap.size + 1, 3, none⟩) hz_aB).trans c_aB_3
  replace c_aB_4 := (st.cell (p := ⟨w.heap.size + 1, 4, none⟩) hz_aB).trans c_aB_4
  replace hz_aB : w.heap.size + 1 < w8.heap.size := by omega
  replace c_x0_0 := (st.cell (p := ⟨w6.heap.size, 0, none⟩) hz_x0).trans c_x0_0
  replace c_x0_1 := (st.cell (p := ⟨w6.heap.size, 1, none⟩) hz_x0).trans c_x0_1
  replace c_x0_2 := (st.cell (p := ⟨w6.heap.size, 2, none⟩) hz_x0).trans c_x0_2
  replace c_x0_3 := (st.cell (p := ⟨w6.heap.size, 3, none⟩) hz_x0).trans c_x0_3
  replace c_x0_4 := (st.cell (p := ⟨w6.heap.size, 4, none⟩) hz_x0).trans c_x0_4
  replace hz_x0 : w6.heap.size < w8.heap.size := by omega
  have hz_x1 : w7.heap.size < w8.heap.size := by omega
  have c_x1_0 : w8.cell? ⟨w7.heap.size, 0, none⟩ = some (.slice At4_0 aB_Order.length Ct4_0) := (hb.cell (p := ⟨w7.heap.size, 0, none⟩) (by simp only [World.size_alloc]; omega)).trans (cell_at _ _ _ 0 rfl)
  have c_x1_1 : w8.cell? ⟨w7.heap.size, 1, none⟩ = some (.slice At4_1 aB_Cover.length Ct4_1) := (hb.cell (p := ⟨w7.heap.size, 1, none⟩) (by simp only [World.size_alloc]; omega)).trans (cell_at _ _ _ 1 rfl)
  have c_x1_2 : w8.cell? ⟨w7.heap.size, 2, none⟩ = some (.slice At4_2 aB_Sizes.length Ct4_2) := (hb.cell (p := ⟨w7.heap.size, 2, none⟩) (by simp only [World.size_alloc]; omega)).trans (cell_at _ _ _ 2 rfl)
  have c_x1_3 : w8.cell? ⟨w7.heap.size, 3, none⟩ = some (.int .i64 aB_Rows) := (hb.cell (p := ⟨w7.heap.size, 3, none⟩) (by simp only [World.size_alloc]; omega)).trans (cell_at _ _ _ 3 rfl)
  have c_x1_4 : w8.cell? ⟨w7.heap.size, 4, none⟩ = some (.int .i64 aB_Seeks) := (hb.cell (p := ⟨w7.heap.size, 4, none⟩) (by simp only [World.size_alloc]; omega)).trans (cell_at _ _ _ 4 rfl)
  replace B_w := Lib.hid (B_w.out.trans (st.mono (by omega)))
  replace O_t3 := Lib.hid (O_t3.out.keep st)
  replace O_t4 := Lib.hid (O_t4.out.keep st)
  clear st hb
  have hn_t5 : (((eqCert aA_Order aA_Cover aA_Sizes aA_Rows aA_Seeks aB_Order aB_Cover aB_Sizes aB_Rows aB_Seeks) : Bool) != ((eqCert aA_Order aA_Cover aA_Sizes aA_Rows aA_Seeks aB_Order aB_Cover aB_Sizes aB_Rows aB_Seeks) : Bool)) = false := by simp
  have hq_t6 : (aA_Order == aA_Order && aA_Cover == aA_Cover && aA_Sizes == aA_Sizes && aA_Rows == aA_Rows && aA_Seeks == aA_Seeks) = true := by simp
  go_wp2
  go_region_held3 (fun w' => w'.cell? ⟨w.heap.size, 0, none⟩ = some (.slice AaA_0 aA_Order.length CaA_0) ∧ w'.cell? ⟨w.heap.size, 1, none⟩ = some (.slice AaA_1 aA_Cover.length CaA_1) ∧ w'.cell? ⟨w.heap.size, 2, none⟩ = some (.slice AaA_2 aA_Sizes.length CaA_2) ∧ w'.cell? ⟨w.heap.size, 3, none⟩ = some (.int .i64 aA_Rows) ∧ w'.cell? ⟨w.heap.size, 4, none⟩ = some (.int .i64 aA_Seeks) ∧ w'.cell? ⟨w6.heap.size, 0, none⟩ = some (.slice At3_0 aA_Order.length Ct3_0) ∧ w'.cell? ⟨w6.heap.size, 1, none⟩ = some (.slice At3_1 aA_Cover.length Ct3_1) ∧ w'.cell? ⟨w6.heap.size, 2, none⟩ = some (.slice At3_2 aA_Sizes.length Ct3_2) ∧ w'.cell? ⟨w6.heap.size, 3, none⟩ = some (.int .i64 aA_Rows) ∧ w'.cell? ⟨w6.heap.size, 4, none⟩ = some (.int .i64 aA_Seeks)) (first | exact ⟨c_aA_0, c_aA_1, c_aA_2, c_aA_3, c_aA_4, c_x0_0, c_x0_1, c_x0_2, c_x0_3, c_x0_4⟩ | exact ⟨d6_0, d6_1, d6_2, d6_3, d6_4, d6_5, d6_6, d6_7, d6_8, d6_9⟩ | exact ⟨d7_0, d7_1, d7_2, d7_3, d7_4, d7_5, d7_6, d7_7, d7_8, d7_9⟩)
    (first
      | (go_at_call 21; refine (to_Certificate (R_aA.out.keep B_w.out.drew) (by omega)).mono ?_; rintro e w9 ⟨vt7_0, vt7_1, vt7_2, rfl, ho, hb'⟩; have hb := undrew hb'; obtain ⟨At7_0, Ct7_0, At7_1, Ct7_1, At7_2, Ct7_2, rfl, rfl, rfl⟩ := ho.form; have R6 := Lib.hid ho.rd; have X6 := Lib.hid (O_t3.out.keep hb); have hz6 : w8.heap.size ≤ w9.heap.size := hb.size; have d6_0 := (hb.cell (p := ⟨w.heap.size, 0, none⟩) hz_aA).trans c_aA_0; have d6_1 := (hb.cell (p := ⟨w.heap.size, 1, none⟩) hz_aA).trans c_aA_1; have d6_2 := (hb.cell (p := ⟨w.heap.size, 2, none⟩) hz_aA).trans c_aA_2; have d6_3 := (hb.cell (p := ⟨w.heap.size, 3, none⟩) hz_aA).trans c_aA_3; have d6_4 := (hb.cell (p := ⟨w.heap.size, 4, none⟩) hz_aA).trans c_aA_4; have d6_5 := (hb.cell (p := ⟨w6.heap.size, 0, none⟩) hz_x0).trans c_x0_0; have d6_6 := (hb.cell (p := ⟨w6.heap.size, 1, none⟩) hz_x0).trans c_x0_1; have d6_7 := (hb.cell (p := ⟨w6.heap.size, 2, none⟩) hz_x0).trans c_x0_2; have d6_8 := (hb.cell (p := ⟨w6.heap.size, 3, none⟩) hz_x0).trans c_x0_3; have d6_9 := (hb.cell (p := ⟨w6.heap.size, 4, none⟩) hz_x0).trans c_x0_4; have st6 := Lib.hid hb; clear ho hb hb')
      | (go_at_call 23; refine (eq_Certificate X6.out.rd R6.out).mono ?_; rintro e w10 ⟨rfl, hb⟩; have hz7 : w9.heap.size ≤ w10.heap.size := hb.size; have d7_0 := (hb.cell (p := ⟨w.heap.size, 0, none⟩) (Nat.lt_of_lt_of_le hz_aA hz6)).trans d6_0; have d7_1 := (hb.cell (p := ⟨w.heap.size, 1, none⟩) (Nat.lt_of_lt_of_le hz_aA hz6)).trans d6_1; have d7_2 := (hb.cell (p := ⟨w.heap.size, 2, none⟩) (Nat.lt_of_lt_of_le hz_aA hz6)).trans d6_2; have d7_3 := (hb.cell (p := ⟨w.heap.size, 3, none⟩) (Nat.lt_of_lt_of_le hz_aA hz6)).trans d6_3; have d7_4 := (hb.cell (p := ⟨w.heap.size, 4, none⟩) (Nat.lt_of_lt_of_le hz_aA hz6)).trans d6_4; have d7_5 := (hb.cell (p := ⟨w6.heap.size, 0, none⟩) (Nat.lt_of_lt_of_le hz_x0 hz6)).trans d6_5; have d7_6 := (hb.cell (p := ⟨w6.heap.size, 1, none⟩) (Nat.lt_of_lt_of_le hz_x0 hz6)).trans d6_6; have d7_7 := (hb.cell (p := ⟨w6.heap.size, 2, none⟩) (Nat.lt_of_lt_of_le hz_x0 hz6)).trans d6_7; have d7_8 := (hb.cell (p := ⟨w6.heap.size, 3, none⟩) (Nat.lt_of_lt_of_le hz_x0 hz6)).trans d6_8; have d7_9 := (hb.cell (p := ⟨w6.heap.size, 4, none⟩) (Nat.lt_of_lt_of_le hz_x0 hz6)).trans d6_9; have st7 := Lib.hid (st6.out.trans (hb.mono (by omega))); clear hb))
  have hb := st7.out
  clear st6 st7 d6_0 d6_1 d6_2 d6_3 d6_4 d6_5 d6_6 d6_7 d6_8 d6_9 d7_0 d7_1 d7_2 d7_3 d7_4 d7_5 d7_6 d7_7 d7_8 d7_9 R6 X6
  have hzw10 : w8.heap.size + 0 ≤ w10.heap.size := by have := hb.size; omega
  have st : Below w8.heap.size w8 w10 := hb
  replace c_aA_0 := (st.cell (p := ⟨w.heap.size, 0, none⟩) hz_aA).trans c_aA_0
  replace c_aA_1 := (st.cell (p := ⟨w.heap.size, 1, none⟩) hz_aA).trans c_aA_1
  replace c_aA_2 := (st.cell (p := ⟨w.heap.size, 2, none⟩) hz_aA).trans c_aA_2
  replace c_aA_3 := (st.cell (p := ⟨w.heap.size, 3, none⟩) hz_aA).trans c_aA_3
  replace c_aA_4 := (st.cell (p := ⟨w.heap.size, 4, none⟩) hz_aA).trans c_aA_4
  replace hz_aA : w.heap.size < w10.heap.size := by omega
  replace c_aB_0 := (st.cell (p := ⟨w.heap.size + 1, 0, none⟩) hz_aB).trans c_aB_0
  replace c_aB_1 := (st.cell (p := ⟨w.heap.size + 1, 1, none⟩) hz_aB).trans c_aB_1
  replace c_aB_2 := (st.cell (p := ⟨w.heap.size + 1, 2, none⟩) hz_aB).trans c_aB_2
  replace c_aB_3 := (st.cell (p := ⟨w.heap.size + 1, 3, none⟩) hz_aB).trans c_aB_3
  replace c_aB_4 := (st.cell (p := ⟨w.heap.size + 1, 4, none⟩) hz_aB).trans c_aB_4
  replace hz_aB : w.heap.size + 1 < w10.heap.size := by omega
  replace c_x0_0 := (st.cell (p := ⟨w6.heap.size, 0, none⟩) hz_x0).trans c_x0_0
  replace c_x0_1 := (st.cell (p := ⟨w6.heap.size, 1, none⟩) hz_x0).trans c_x0_1
  replace c_x0_2 := (st.cell (p := ⟨w6.heap.size, 2, none⟩) hz_x0).trans c_x0_2
  replace c_x0_3 := (st.cell (p := ⟨w6.heap.size, 3, none⟩) hz_x0).trans c_x0_3
  replace c_x0_4 := (st.cell (p := ⟨w6.heap.size, 4, none⟩) hz_x0).trans c_x0_4
  replace hz_x0 : w6.heap.size < w10.heap.size := by omega
  replace c_x1_0 := (st.cell (p := ⟨w7.heap.size, 0, none⟩) hz_x1).trans c_x1_0
  replace c_x1_1 := (st.cell (p := ⟨w7.heap.size, 1, none⟩) hz_x1).trans c_x1_1
  replace c_x1_2 := (st.cell (p := ⟨w7.heap.size, 2, none⟩) hz_x1).trans c_x1_2
  replace c_x1_3 := (st.cell (p := ⟨w7.heap.size, 3, none⟩) hz_x1).trans c_x1_3
  replace c_x1_4 := (st.cell (p := ⟨w7.heap.size, 4, none⟩) hz_x1).trans c_x1_4
  replace hz_x1 : w7.heap.size < w10.heap.size := by omega
  replace B_w := Lib.hid (B_w.out.trans (st.mono (by omega)))
  replace O_t3 := Lib.hid (O_t3.out.keep st)
  replace O_t4 := Lib.hid (O_t4.out.keep st)
  clear st hb
  have hq_t8 : (aB_Order == aB_Order && aB_Cover == aB_Cover && aB_Sizes == aB_Sizes && aB_Rows == aB_Rows && aB_Seeks == aB_Seeks) = true := by simp
  go_wp2
  go_region_held3 (fun w' => w'.cell? ⟨w.heap.size + 1, 0, none⟩ = some (.slice AaB_0 aB_Order.length CaB_0) ∧ w'.cell? ⟨w.heap.size + 1, 1, none⟩ = some (.slice AaB_1 aB_Cover.length CaB_1) ∧ w'.cell? ⟨w.heap.size + 1, 2, none⟩ = some (.slice AaB_2 aB_Sizes.length CaB_2) ∧ w'.cell? ⟨w.heap.size + 1, 3, none⟩ = some (.int .i64 aB_Rows) ∧ w'.cell? ⟨w.heap.size + 1, 4, none⟩ = some (.int .i64 aB_Seeks) ∧ w'.cell? ⟨w7.heap.size, 0, none⟩ = some (.slice At4_0 aB_Order.length Ct4_0) ∧ w'.cell? ⟨w7.heap.size, 1, none⟩ = some (.slice At4_1 aB_Cover.length Ct4_1) ∧ w'.cell? ⟨w7.heap.size, 2, none⟩ = some (.slice At4_2 aB_Sizes.length Ct4_2) ∧ w'.cell? ⟨w7.heap.size, 3, none⟩ = some (.int .i64 aB_Rows) ∧ w'.cell? ⟨w7.heap.size, 4, none⟩ = some (.int .i64 aB_Seeks)) (first | exact ⟨c_aB_0, c_aB_1, c_aB_2, c_aB_3, c_aB_4, c_x1_0, c_x1_1, c_x1_2, c_x1_3, c_x1_4⟩ | exact ⟨d6_0, d6_1, d6_2, d6_3, d6_4, d6_5, d6_6, d6_7, d6_8, d6_9⟩ | exact ⟨d7_0, d7_1, d7_2, d7_3, d7_4, d7_5, d7_6, d7_7, d7_8, d7_9⟩)
    (first
      | (go_at_call 21; refine (to_Certificate (R_aB.out.keep B_w.out.drew) (by omega)).mono ?_; rintro e w11 ⟨vt9_0, vt9_1, vt9_2, rfl, ho, hb'⟩; have hb := undrew hb'; obtain ⟨At9_0, Ct9_0, At9_1, Ct9_1, At9_2, Ct9_2, rfl, rfl, rfl⟩ := ho.form; have R6 := Lib.hid ho.rd; have X6 := Lib.hid (O_t4.out.keep hb); have hz6 : w10.heap.size ≤ w11.heap.size := hb.size; have d6_0 := (hb.cell (p := ⟨w.heap.size + 1, 0, none⟩) hz_aB).trans c_aB_0; have d6_1 := (hb.cell (p := ⟨w.heap.size + 1, 1, none⟩) hz_aB).trans c_aB_1; have d6_2 := (hb.cell (p := ⟨w.heap.size + 1, 2, none⟩) hz_aB).trans c_aB_2; have d6_3 := (hb.cell (p := ⟨w.heap.size + 1, 3, none⟩) hz_aB).trans c_aB_3; have d6_4 := (hb.cell (p := ⟨w.heap.size + 1, 4, none⟩) hz_aB).trans c_aB_4; have d6_5 := (hb.cell (p := ⟨w7.heap.size, 0, none⟩) hz_x1).trans c_x1_0; have d6_6 := (hb.cell (p := ⟨w7.heap.size, 1, none⟩) hz_x1).trans c_x1_1; have d6_7 := (hb.cell (p := ⟨w7.heap.size, 2, none⟩) hz_x1).trans c_x1_2; have d6_8 := (hb.cell (p := ⟨w7.heap.size, 3, none⟩) hz_x1).trans c_x1_3; have d6_9 := (hb.cell (p := ⟨w7.heap.size, 4, none⟩) hz_x1).trans c_x1_4; have st6 := Lib.hid hb; clear ho hb hb')
      | (go_at_call 23; refine (eq_Certificate X6.out.rd R6.out).mono ?_; rintro e w12 ⟨rfl, hb⟩; have hz7 : w11.heap.size ≤ w12.heap.size := hb.size; have d7_0 := (hb.cell (p := ⟨w.heap.size + 1, 0, none⟩) (Nat.lt_of_lt_of_le hz_aB hz6)).trans d6_0; have d7_1 := (hb.cell (p := ⟨w.heap.size + 1, 1, none⟩) (Nat.lt_of_lt_of_le hz_aB hz6)).trans d6_1; have d7_2 := (hb.cell (p := ⟨w.heap.size + 1, 2, none⟩) (Nat.lt_of_lt_of_le hz_aB hz6)).trans d6_2; have d7_3 := (hb.cell (p := ⟨w.heap.size + 1, 3, none⟩) (Nat.lt_of_lt_of_le hz_aB hz6)).trans d6_3; have d7_4 := (hb.cell (p := ⟨w.heap.size + 1, 4, none⟩) (Nat.lt_of_lt_of_le hz_aB hz6)).trans d6_4; have d7_5 := (hb.cell (p := ⟨w7.heap.size, 0, none⟩) (Nat.lt_of_lt_of_le hz_x1 hz6)).trans d6_5; have d7_6 := (hb.cell (p := ⟨w7.heap.size, 1, none⟩) (Nat.lt_of_lt_of_le hz_x1 hz6)).trans d6_6; have d7_7 := (hb.cell (p := ⟨w7.heap.size, 2, none⟩) (Nat.lt_of_lt_of_le hz_x1 hz6)).trans d6_7; have d7_8 := (hb.cell (p := ⟨w7.heap.size, 3, none⟩) (Nat.lt_of_lt_of_le hz_x1 hz6)).trans d6_8; have d7_9 := (hb.cell (p := ⟨w7.heap.size, 4, none⟩) (Nat.lt_of_lt_of_le hz_x1 hz6)).trans d6_9; have st7 := Lib.hid (st6.out.trans (hb.mono (by omega))); clear hb))
  have hb := st7.out
  clear st6 st7 d6_0 d6_1 d6_2 d6_3 d6_4 d6_5 d6_6 d6_7 d6_8 d6_9 d7_0 d7_1 d7_2 d7_3 d7_4 d7_5 d7_6 d7_7 d7_8 d7_9 R6 X6
  have hzw12 : w10.heap.size + 0 ≤ w12.heap.size := by have := hb.size; omega
  have st : Below w10.heap.size w10 w12 := hb
  replace c_aA_0 := (st.cell (p := ⟨w.heap.size, 0, none⟩) hz_aA).trans c_aA_0
  replace c_aA_1 := (st.cell (p := ⟨w.heap.size, 1, none⟩) hz_aA).trans c_aA_1
  replace c_aA_2 := (st.cell (p := ⟨w.heap.size, 2, none⟩) hz_aA).trans c_aA_2
  replace c_aA_3 := (st.cell (p := ⟨w.heap.size, 3, none⟩) hz_aA).trans c_aA_3
  replace c_aA_4 := (st.cell (p := ⟨w.heap.size, 4, none⟩) hz_aA).trans c_aA_4
  replace hz_aA : w.heap.size < w12.heap.size := by omega
  replace c_aB_0 := (st.cell (p := ⟨w.heap.size + 1, 0, none⟩) hz_aB).trans c_aB_0
  replace c_aB_1 := (st.cell (p := ⟨w.heap.size + 1, 1, none⟩) hz_aB).trans c_aB_1
  replace c_aB_2 := (st.cell (p := ⟨w.heap.size + 1, 2, none⟩) hz_aB).trans c_aB_2
  replace c_aB_3 := (st.cell (p := ⟨w.heap.size + 1, 3, none⟩) hz_aB).trans c_aB_3
  replace c_aB_4 := (st.cell (p := ⟨w.heap.size + 1, 4, none⟩) hz_aB).trans c_aB_4
  replace hz_aB : w.heap.size + 1 < w12.heap.size := by omega
  replace c_x0_0 := (st.cell (p := ⟨w6.heap.size, 0, none⟩) hz_x0).trans c_x0_0
  replace c_x0_1 := (st.cell (p := ⟨w6.heap.size, 1, none⟩) hz_x0).trans c_x0_1
  replace c_x0_2 := (st.cell (p := ⟨w6.heap.size, 2, none⟩) hz_x0).trans c_x0_2
  replace c_x0_3 := (st.cell (p := ⟨w6.heap.size, 3, none⟩) hz_x0).trans c_x0_3
  replace c_x0_4 := (st.cell (p := ⟨w6.heap.size, 4, none⟩) hz_x0).trans c_x0_4
  replace hz_x0 : w6.heap.size < w12.heap.size := by omega
  replace c_x1_0 := (st.cell (p := ⟨w7.heap.size, 0, none⟩) hz_x1).trans c_x1_0
  replace c_x1_1 := (st.cell (p := ⟨w7.heap.size, 1, none⟩) hz_x1).trans c_x1_1
  replace c_x1_2 := (st.cell (p := ⟨w7.heap.size, 2, none⟩) hz_x1).trans c_x1_2
  replace c_x1_3 := (st.cell (p := ⟨w7.heap.size, 3, none⟩) hz_x1).trans c_x1_3
  replace c_x1_4 := (st.cell (p := ⟨w7.heap.size, 4, none⟩) hz_x1).trans c_x1_4
  replace hz_x1 : w7.heap.size < w12.heap.size := by omega
  replace B_w := Lib.hid (B_w.out.trans (st.mono (by omega)))
  replace O_t3 := Lib.hid (O_t3.out.keep st)
  replace O_t4 := Lib.hid (O_t4.out.keep st)
  clear st hb
  go_wp2
  go_ret
  exact ⟨rfl, B_w.out⟩

theorem own : ownKnob Try.prog.godebug = none := by kernel_rfl
theorem laidOut : laidOutB Try.prog = true := by kernel_rfl
theorem readable : Try.f5.params.toList.all (fun t => Try.prog.readableRec t && decide (t < Try.prog.types.size)) = true := by kernel_rfl

set_option maxRecDepth 100000 in
theorem lifted (os : Os) (started : os.Started) (H : Type) (enc : TypeId × Value → H) :
    ReturnsInHanded {} Try.checked os 5 .any (Rows.fnExactEqualCertificatesSpec.pre6 enc Try.prog Try.f5 Rows.fnExactEqualCertificatesRow.domain false) (Rows.fnExactEqualCertificatesSpec.post enc Try.prog Try.f5 false true false false) := by
  refine returnsInHanded_of_change (C := Try.checked) own started (by kernel_rfl) Try.func5
    (ChangeSpec.witness6 (enc := enc) (C := Try.checked) false ⟨#[], #[.agg #[.slice none 0 0, .slice none 0 0, .slice none 0 0, .int .i64 0, .int .i64 0], .agg #[.slice none 0 0, .slice none 0 0, .slice none 0 0, .int .i64 0, .int .i64 0]], []⟩ 8 (by kernel_rfl) (by kernel_rfl) (by kernel_rfl) (by kernel_rfl)) ?_
  intro W base args ds gs before hval0 hW hcnd _
  have hval : ∀ (j : Nat) t v, Try.f5.params[j]? = some t → args[j]? = some v → Value.okWide Try.prog W .any base t v := hval0
  have hW' := hW
  obtain ⟨p, q, hA0, hV, rfl, hfz, hnd⟩ := hW
  have hA : DataW.TrodAll enc Try.prog W 0 (fun _ => true) true Try.f5.params.toList args.toList ds p := hA0
  rw [Try.params5] at hA hval
  obtain ⟨v0, vs0, d0, ds0, p0, q0, hargs, rfl, rfl, h0, r0⟩ := trodAll_cons hA
  obtain ⟨v1, vs1, d1, ds1, p1, q1, rfl, rfl, rfl, h1, r1⟩ := trodAll_cons r0
  obtain ⟨rfl, rfl, rfl⟩ := trodAll_nil r1
  obtain rfl : args = #[v0, v1] := by cases args; simp_all
  obtain ⟨rfl, rfl⟩ := trodVars_none hV
  obtain ⟨v_aA_Order, aA_Order, v_aA_Cover, aA_Cover, v_aA_Sizes, aA_Sizes, aA_Rows, aA_Seeks, rfl, fit_aA_Rows, fit_aA_Seeks, h_aA⟩ := open_Certificate (hval 0 38 v0 rfl rfl) h0
  obtain ⟨v_aB_Order, aB_Order, v_aB_Cover, aB_Cover, v_aB_Sizes, aB_Sizes, aB_Rows, aB_Seeks, rfl, fit_aB_Rows, fit_aB_Seeks, h_aB⟩ := open_Certificate (hval 1 38 v1 rfl rfl) h1
  simp only [List.append_nil] at hW' hA0
  refine (walk v_aA_Order aA_Order v_aA_Cover aA_Cover v_aA_Sizes aA_Sizes aA_Rows aA_Seeks v_aB_Order aB_Order v_aB_Cover aB_Cover v_aB_Sizes aB_Sizes aB_Rows aB_Seeks W fit_aA_Rows fit_aA_Seeks h_aA fit_aB_Rows fit_aB_Seeks h_aB).mono fun e W' ⟨he, hb⟩ => ?_
  subst he
  exact ⟨_, rfl, law_post laidOut readable rfl rfl Try.underlying4 hW' hA0 rfl hb⟩

theorem over : Rows.fnExactEqualCertificatesRow.holds Try.pinned (OpenSpec.ofChange Rows.fnExactEqualCertificatesSpec) :=
  OpenClaim.holds_of_wide 5 Try.f5 rfl rfl rfl rfl rfl rfl rfl ⟨rfl, rfl, rfl, rfl, rfl⟩ rfl rfl rfl rfl rfl (by kernel_rfl) Try.func5 (by kernel_rfl)
    (of_decide_eq_true (by kernel_rfl)) (by unfold Func.isWrapper; first | (rw [if_pos (by decide +kernel)]; kernel_rfl) | (rw [if_neg (by decide +kernel)]; exact ⟨rfl, rfl⟩))
    (fun os started H enc _ => lifted os started H enc)

theorem proved : Rows.FnExactEqualCertificatesSaid :=
  over
#print axioms proved
end Go.Proofs.Ytnijkpbecgifjaa.eqcert
