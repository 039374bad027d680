/-
  What is proved: for all arguments the program's FullRelation returns what the reference's returns, so the law FnExactFullRelation returns true. There are no conditions.
  The walk was written by program (lawgen.py) out of the law's Go text.
-/
import Derived.Test.YtnijkpbecgifjaaRows
import Derived.Test.YtnijkpbecgifjaaFull
import Derived.Test.YtnijkpbecgifjaaLawKit
import Derived.ProofKit
import Derived.Deep.RegionHeld3
namespace Go.Proofs.Ytnijkpbecgifjaa.fullrel
open Go.ChangeShapes Go.WideShapes Go.ChangeAt Go.RowKit
set_option linter.unusedVariables false

theorem spec_FullRelation {w : World} {v : Value} {a : List Int} (h : Ints w v a) :
    Calls Try.prog 11 #[v] w fun e w' => ∃ v1, e = .returned (.tuple #[.agg #[.int .i64 (fullRes a).1, v1], .bool (fullRes a).2.2]) ∧ Rows2 w' v1 (fullRes a).2.1 ∧ Below w.heap.size w w' :=
  (specFullRelation_c v a w h).mono fun _ _ ⟨v1, he, h1, hb⟩ => ⟨v1, he, Rows2.of_own h1, hb⟩
theorem impl_FullRelation {w : World} {v : Value} {a : List Int} (h : Ints w v a) :
    Calls Try.prog 13 #[v] w fun e w' => ∃ v1, e = .returned (.tuple #[.agg #[.int .i64 (fullRes a).1, v1], .bool (fullRes a).2.2]) ∧ OwRows2 3 24 w' (Iv w w') v1 (fullRes a).2.1 ∧ Below w.heap.size w w' :=
  (implFullRelation_c v a w h).mono fun _ _ ⟨v1, he, h1, hb⟩ => ⟨v1, he, OwRows2.of_own h1, hb⟩
theorem cnt_le_full (a : List Int) : cnt_Relation (fullRes a).2.1 ≤ 1073741824 := full_tot a

set_option maxHeartbeats 4000000 in
set_option maxRecDepth 100000 in
theorem walk (v_aCounts_l : Value) (aCounts_l : List Int) (w : World) (h_aCounts : Ints w v_aCounts_l aCounts_l) :
    Calls Try.prog 4 #[v_aCounts_l] w fun e w' => e = .returned (.bool true) ∧ Below w.heap.size w w' := by
  have R_aCounts := Lib.hid h_aCounts
  obtain ⟨AaCounts_0, CaCounts_0, rfl⟩ := h_aCounts.form
  clear h_aCounts
  have B_w := Lib.hid (Below.refl w.heap.size w)
  by_cases hlen_aCounts : 1048576 < aCounts_l.length
  · have hd : decide ((1048576 : Int) < (aCounts_l.length : Int)) = true := by simp; omega
    go_enter Try.func4, Try.ntmps4
    go_wp2
    go_ret
    exact ⟨rfl, B_w.out⟩
  have hd_aCounts : decide ((1048576 : Int) < (aCounts_l.length : Int)) = false := by simp; omega
  have hbk_aCounts : bulk_IntS aCounts_l ≤ 1048576 := by unfold bulk_IntS; omega
  go_enter Try.func4, Try.ntmps4
  go_wp2_with fail
  refine (to_IntS R_aCounts.out (by omega)).mono ?_
  rintro e w1 ⟨vt1_0, rfl, ho, hb⟩
  have O_t1 := Lib.hid (ho.mono (fun g hg => (⟨hg.1, hg.2⟩ : Inn (w.heap.size + 0) w1.heap.size g)))
  obtain ⟨At1_0, Ct1_0, rfl⟩ := ho.form
  clear ho
  have hzw1 : w.heap.size + 0 ≤ w1.heap.size := by have := hb.size; omega
  have st : Below w.heap.size w w1 := hb
  replace B_w := Lib.hid (B_w.out.trans (st.mono (by omega)))
  clear st hb
  go_wp2_with fail
  refine (spec_FullRelation O_t1.out.rd).mono ?_
  rintro e w2 ⟨vspecw0_0, rfl, ho0, hb⟩
  clear O_t1
  have W_w0 := Lib.hid ho0
  obtain ⟨Aw0_0, Cw0_0, rfl⟩ := ho0.form
  clear ho0
  have hzw2 : w1.heap.size + 0 ≤ w2.heap.size := by have := hb.size; omega
  have st : Below w1.heap.size w1 w2 := hb
  replace B_w := Lib.hid (B_w.out.trans (st.mono (by omega)))
  clear st hb
  have B_w2 := Lib.hid (Below.refl w2.heap.size w2)
  go_wp2_with fail
  refine (to_IntS ((R_aCounts.out.keep B_w.out).keep (below1 _ _)) (by omega)).mono ?_
  rintro e w3 ⟨vt2_0, rfl, ho, hb⟩
  have O_t2 := Lib.hid (ho.mono (fun g hg => (⟨by have := hg.1; simp only [World.size_alloc] at this; omega, hg.2⟩ : Inn (w2.heap.size + 1) w3.heap.size g)))
  obtain ⟨At2_0, Ct2_0, rfl⟩ := ho.form
  clear ho
  have hzw3 : w2.heap.size + 1 ≤ w3.heap.size := by have := hb.size; simp only [World.size_alloc] at this; omega
  have st : Below w2.heap.size w2 w3 := (below1 _ _).trans (hb.mono (by simp only [World.size_alloc]; omega))
  have hz_w0 : w2.heap.size < w3.heap.size := by omega
  have c_w0_0 : w3.cell? ⟨w2.heap.size, 0, none⟩ = some (.int .i64 ((fullRes aCounts_l).1)) := (hb.cell (p := ⟨w2.heap.size, 0, none⟩) (by simp only [World.size_alloc]; omega)).trans (cell_at _ _ _ 0 rfl)
  have c_w0_1 : w3.cell? ⟨w2.heap.size, 1, none⟩ = some (.slice Aw0_0 (fullRes aCounts_l).2.1.length Cw0_0) := (hb.cell (p := ⟨w2.heap.size, 1, none⟩) (by simp only [World.size_alloc]; omega)).trans (cell_at _ _ _ 1 rfl)
  replace B_w := Lib.hid (B_w.out.trans (st.mono (by omega)))
  replace B_w2 := Lib.hid (B_w2.out.trans (st.mono (by omega)))
  clear st hb
  go_wp2_with fail
  refine (impl_FullRelation O_t2.out.rd).mono ?_
  rintro e w4 ⟨vimplg0_0, rfl, ho0, hb⟩
  have O_g0 := Lib.hid (ho0.mono (fun g hg => (⟨hg.1, hg.2⟩ : Inn (w3.heap.size + 0) w4.heap.size g)))
  obtain ⟨Ag0_0, Cg0_0, rfl⟩ := ho0.form
  clear ho0
  have hzw4 : w3.heap.size + 0 ≤ w4.heap.size := by have := hb.size; omega
  have st : Below w3.heap.size w3 w4 := hb
  replace c_w0_0 := (st.cell (p := ⟨w2.heap.size, 0, none⟩) hz_w0).trans c_w0_0
  replace c_w0_1 := (st.cell (p := ⟨w2.heap.size, 1, none⟩) hz_w0).trans c_w0_1
  replace hz_w0 : w2.heap.size < w4.heap.size := by omega
  replace B_w := Lib.hid (B_w.out.trans (st.mono (by omega)))
  replace B_w2 := Lib.hid (B_w2.out.trans (st.mono (by omega)))
  replace O_t2 := Lib.hid (O_t2.out.keep st)
  clear st hb
  go_wp2_with fail
  refine (eq_Relation (O_g0.out.keep (below1 _ _)).rd ((W_w0.out.keep B_w2.out).keep (below1 _ _))).mono ?_
  rintro e w5 ⟨rfl, hb⟩
  have hzw5 : w4.heap.size + 1 ≤ w5.heap.size := by have := hb.size; simp only [World.size_alloc] at this; omega
  have st : Below w4.heap.size w4 w5 := (below1 _ _).trans (hb.mono (by simp only [World.size_alloc]; omega))
  replace c_w0_0 := (st.cell (p := ⟨w2.heap.size, 0, none⟩) hz_w0).trans c_w0_0
  replace c_w0_1 := (st.cell (p := ⟨w2.heap.size, 1, none⟩) hz_w0).trans c_w0_1
  replace hz_w0 : w2.heap.size < w5.heap.size := by omega
  have hz_g0 : w4.heap.size < w5.heap.size := by omega
  have c_g0_0 : w5.cell? ⟨w4.heap.size, 0, none⟩ = some (.int .i64 ((fullRes aCounts_l).1)) := (hb.cell (p := ⟨w4.heap.size, 0, none⟩) (by simp only [World.size_alloc]; omega)).trans (cell_at _ _ _ 0 rfl)
  have c_g0_1 : w5.cell? ⟨w4.heap.size, 1, none⟩ = some (.slice Ag0_0 (fullRes aCounts_l).2.1.length Cg0_0) := (hb.cell (p := ⟨w4.heap.size, 1, none⟩) (by simp only [World.size_alloc]; omega)).trans (cell_at _ _ _ 1 rfl)
  replace B_w := Lib.hid (B_w.out.trans (st.mono (by omega)))
  replace B_w2 := Lib.hid (B_w2.out.trans (st.mono (by omega)))
  replace O_t2 := Lib.hid (O_t2.out.keep st)
  replace O_g0 := Lib.hid (O_g0.out.keep st)
  clear st hb
  have hq_t3 : (((fullRes aCounts_l).1) == ((fullRes aCounts_l).1) && ((fullRes aCounts_l).2.1) == ((fullRes aCounts_l).2.1)) = true := by simp
  have hn_t4 : (((fullRes aCounts_l).2.2 : Bool) != ((fullRes aCounts_l).2.2 : Bool)) = false := by simp
  go_wp2_with fail
  refine (to_IntS (R_aCounts.out.keep B_w.out) (by omega)).mono ?_
  rintro e w6 ⟨vt5_0, rfl, ho, hb⟩
  have O_t5 := Lib.hid (ho.mono (fun g hg => (⟨hg.1, hg.2⟩ : Inn (w5.heap.size + 0) w6.heap.size g)))
  obtain ⟨At5_0, Ct5_0, rfl⟩ := ho.form
  clear ho
  have hzw6 : w5.heap.size + 0 ≤ w6.heap.size := by have := hb.size; omega
  have st : Below w5.heap.size w5 w6 := hb
  replace c_w0_0 := (st.cell (p := ⟨w2.heap.size, 0, none⟩) hz_w0).trans c_w0_0
  replace c_w0_1 := (st.cell (p := ⟨w2.heap.size, 1, none⟩) hz_w0).trans c_w0_1
  replace hz_w0 : w2.heap.size < w6.heap.size := by omega
  replace c_g0_0 := (st.cell (p := ⟨w4.heap.size, 0, none⟩) hz_g0).trans c_g0_0
  replace c_g0_1 := (st.cell (p := ⟨w4.heap.size, 1, none⟩) hz_g0).trans c_g0_1
  replace hz_g0 : w4.heap.size < w6.heap.size := by omega
  replace B_w := Lib.hid (B_w.out.trans (st.mono (by omega)))
  replace B_w2 := Lib.hid (B_w2.out.trans (st.mono (by omega)))
  replace O_t2 := Lib.hid (O_t2.out.keep st)
  replace O_g0 := Lib.hid (O_g0.out.keep st)
  clear st hb
  go_wp2_with fail
  refine (eq_IntS O_t2.out.rd O_t5.out.rd).mono ?_
  rintro e w7 ⟨rfl, hb⟩
  have hzw7 : w6.heap.size + 0 ≤ w7.heap.size := by have := hb.size; omega
  have st : Below w6.heap.size w6 w7 := hb
  replace c_w0_0 := (st.cell (p := ⟨w2.heap.size, 0, none⟩) hz_w0).trans c_w0_0
  replace c_w0_1 := (st.cell (p := ⟨w2.heap.size, 1, none⟩) hz_w0).trans c_w0_1
  replace hz_w0 : w2.heap.size < w7.heap.size := by omega
  replace c_g0_0 := (st.cell (p := ⟨w4.heap.size, 0, none⟩) hz_g0).trans c_g0_0
  replace c_g0_1 := (st.cell (p := ⟨w4.heap.size, 1, none⟩) hz_g0).trans c_g0_1
  replace hz_g0 : w4.heap.size < w7.heap.size := by omega
  replace B_w := Lib.hid (B_w.out.trans (st.mono (by omega)))
  replace B_w2 := Lib.hid (B_w2.out.trans (st.mono (by omega)))
  replace O_t2 := Lib.hid (O_t2.out.keep st)
  replace O_g0 := Lib.hid (O_g0.out.keep st)
  replace O_t5 := Lib.hid (O_t5.out.keep st)
  clear st hb
  have hq_t6 : (aCounts_l == aCounts_l) = true := by simp
  clear O_t5
  have hcnt_kx0 : cnt_IntS aCounts_l ≤ 1073741824 := by have := cnt_le_IntS aCounts_l; omega
  go_wp2_with fail
  refine (mark_IntS (k := 1) O_t2.out (by omega) (by omega)).mono ?_
  rintro e w8 ⟨rfl, ho, hf⟩
  have O_new := Lib.hid ho
  clear ho
  have hzw8 : w7.heap.size + 0 ≤ w8.heap.size := by have := hf.size; omega
  have st : FrS (Inn (w2.heap.size + 1) w3.heap.size) w7 w8 := hf
  replace c_w0_0 := (st.cellAt (b := w2.heap.size) (o := 0) hz_w0 (fun hg => by (try unfold Inn at hg); omega)).trans c_w0_0
  replace c_w0_1 := (st.cellAt (b := w2.heap.size) (o := 1) hz_w0 (fun hg => by (try unfold Inn at hg); omega)).trans c_w0_1
  replace hz_w0 : w2.heap.size < w8.heap.size := by omega
  replace c_g0_0 := (st.cellAt (b := w4.heap.size) (o := 0) hz_g0 (fun hg => by (try unfold Inn at hg); omega)).trans c_g0_0
  replace c_g0_1 := (st.cellAt (b := w4.heap.size) (o := 1) hz_g0 (fun hg => by (try unfold Inn at hg); omega)).trans c_g0_1
  replace hz_g0 : w4.heap.size < w8.heap.size := by omega
  replace B_w := Lib.hid (B_w.out.trans (st.toBelow (by omega) (fun g hg => by (try unfold Inn at hg); omega)))
  replace B_w2 := Lib.hid (B_w2.out.trans (st.toBelow (by omega) (fun g hg => by (try unfold Inn at hg); omega)))
  replace O_g0 := Lib.hid (O_g0.out.fr st (fun g hg hq => by (try unfold Inn at hg); (try unfold Inn at hq); omega))
  clear st hf
  clear O_t2
  have O_t2 := O_new
  clear O_new
  have hn_t7 : decide ((1 + (cnt_IntS aCounts_l : Nat) : Int) < 0) = false := by simp; omega
  go_wp2_with fail
  refine (eq_Relation O_g0.out.rd (W_w0.out.keep B_w2.out)).mono ?_
  rintro e w9 ⟨rfl, hb⟩
  have hzw9 : w8.heap.size + 0 ≤ w9.heap.size := by have := hb.size; omega
  have st : Below w8.heap.size w8 w9 := hb
  replace c_w0_0 := (st.cell (p := ⟨w2.heap.size, 0, none⟩) hz_w0).trans c_w0_0
  replace c_w0_1 := (st.cell (p := ⟨w2.heap.size, 1, none⟩) hz_w0).trans c_w0_1
  replace hz_w0 : w2.heap.size < w9.heap.size := by omega
  replace c_g0_0 := (st.cell (p := ⟨w4.heap.size, 0, none⟩) hz_g0).trans c_g0_0
  replace c_g0_1 := (st.cell (p := ⟨w4.heap.size, 1, none⟩) hz_g0).trans c_g0_1
  replace hz_g0 : w4.heap.size < w9.heap.size := by omega
  replace B_w := Lib.hid (B_w.out.trans (st.mono (by omega)))
  replace B_w2 := Lib.hid (B_w2.out.trans (st.mono (by omega)))
  replace O_t2 := Lib.hid (O_t2.out.keep st)
  replace O_g0 := Lib.hid (O_g0.out.keep st)
  clear st hb
  have hq_t8 : (((fullRes aCounts_l).1) == ((fullRes aCounts_l).1) && ((fullRes aCounts_l).2.1) == ((fullRes aCounts_l).2.1)) = true := by simp
  have hn_t9 : (((fullRes aCounts_l).2.2 : Bool) != ((fullRes aCounts_l).2.2 : Bool)) = false := by simp
  have hcnt_mg0 : cnt_Relation ((fullRes aCounts_l).2.1) ≤ 1073741824 := cnt_le_full _
  go_wp2_with fail
  refine (mark_Relation (k := 1) O_g0.out (by omega) (by omega)).mono ?_
  rintro e w10 ⟨rfl, ho, hf⟩
  have O_new := Lib.hid ho
  clear ho
  have hzw10 : w9.heap.size + 0 ≤ w10.heap.size := by have := hf.size; omega
  have st : FrS (Inn (w3.heap.size + 0) w4.heap.size) w9 w10 := hf
  replace c_w0_0 := (st.cellAt (b := w2.heap.size) (o := 0) hz_w0 (fun hg => by (try unfold Inn at hg); omega)).trans c_w0_0
  replace c_w0_1 := (st.cellAt (b := w2.heap.size) (o := 1) hz_w0 (fun hg => by (try unfold Inn at hg); omega)).trans c_w0_1
  replace hz_w0 : w2.heap.size < w10.heap.size := by omega
  replace c_g0_0 := (st.cellAt (b := w4.heap.size) (o := 0) hz_g0 (fun hg => by (try unfold Inn at hg); omega)).trans c_g0_0
  replace c_g0_1 := (st.cellAt (b := w4.heap.size) (o := 1) hz_g0 (fun hg => by (try unfold Inn at hg); omega)).trans c_g0_1
  replace hz_g0 : w4.heap.size < w10.heap.size := by omega
  replace B_w := Lib.hid (B_w.out.trans (st.toBelow (by omega) (fun g hg => by (try unfold Inn at hg); omega)))
  replace B_w2 := Lib.hid (B_w2.out.trans (st.toBelow (by omega) (fun g hg => by (try unfold Inn at hg); omega)))
  replace O_t2 := Lib.hid (O_t2.out.fr st (fun g hg hq => by (try unfold Inn at hg); (try unfold Inn at hq); omega))
  clear st hf
  clear O_g0
  have O_g0 := O_new
  clear O_new
  go_wp2_with fail
  refine (held_Relation (k := 1) O_g0.out.rd (by omega) (by omega)).mono ?_
  rintro e w11 ⟨rfl, hb⟩
  have hzw11 : w10.heap.size + 0 ≤ w11.heap.size := by have := hb.size; omega
  have st : Below w10.heap.size w10 w11 := hb
  replace c_w0_0 := (st.cell (p := ⟨w2.heap.size, 0, none⟩) hz_w0).trans c_w0_0
  replace c_w0_1 := (st.cell (p := ⟨w2.heap.size, 1, none⟩) hz_w0).trans c_w0_1
  replace hz_w0 : w2.heap.size < w11.heap.size := by omega
  replace c_g0_0 := (st.cell (p := ⟨w4.heap.size, 0, none⟩) hz_g0).trans c_g0_0
  replace c_g0_1 := (st.cell (p := ⟨w4.heap.size, 1, none⟩) hz_g0).trans c_g0_1
  replace hz_g0 : w4.heap.size < w11.heap.size := by omega
  replace B_w := Lib.hid (B_w.out.trans (st.mono (by omega)))
  replace B_w2 := Lib.hid (B_w2.out.trans (st.mono (by omega)))
  replace O_t2 := Lib.hid (O_t2.out.keep st)
  replace O_g0 := Lib.hid (O_g0.out.keep st)
  clear st hb
  have hn_t10 : ¬ ((1 + (cnt_Relation ((fullRes aCounts_l).2.1) : Nat) : Int) < 0) := by omega
  have hn_t11 : ((1 + (cnt_Relation ((fullRes aCounts_l).2.1) : Nat) : Int) != (1 + (cnt_Relation ((fullRes aCounts_l).2.1) : Nat) : Int)) = false := by simp
  go_wp2_with fail
  refine (to_IntS (R_aCounts.out.keep B_w.out) (by omega)).mono ?_
  rintro e w12 ⟨vt12_0, rfl, ho, hb⟩
  have O_t12 := Lib.hid (ho.mono (fun g hg => (⟨hg.1, hg.2⟩ : Inn (w11.heap.size + 0) w12.heap.size g)))
  obtain ⟨At12_0, Ct12_0, rfl⟩ := ho.form
  clear ho
  have hzw12 : w11.heap.size + 0 ≤ w12.heap.size := by have := hb.size; omega
  have st : Below w11.heap.size w11 w12 := hb
  replace c_w0_0 := (st.cell (p := ⟨w2.heap.size, 0, none⟩) hz_w0).trans c_w0_0
  replace c_w0_1 := (st.cell (p := ⟨w2.heap.size, 1, none⟩) hz_w0).trans c_w0_1
  replace hz_w0 : w2.heap.size < w12.heap.size := by omega
  replace c_g0_0 := (st.cell (p := ⟨w4.heap.size, 0, none⟩) hz_g0).trans c_g0_0
  replace c_g0_1 := (st.cell (p := ⟨w4.heap.size, 1, none⟩) hz_g0).trans c_g0_1
  replace hz_g0 : w4.heap.size < w12.heap.size := by omega
  replace B_w := Lib.hid (B_w.out.trans (st.mono (by omega)))
  replace B_w2 := Lib.hid (B_w2.out.trans (st.mono (by omega)))
  replace O_t2 := Lib.hid (O_t2.out.keep st)
  replace O_g0 := Lib.hid (O_g0.out.keep st)
  clear st hb
  go_wp2_with fail
  refine (impl_FullRelation O_t12.out.rd).mono ?_
  rintro e w13 ⟨vimplh0_0, rfl, ho0, hb⟩
  clear O_t12
  have O_h0 := Lib.hid (ho0.mono (fun g hg => (⟨hg.1, hg.2⟩ : Inn (w12.heap.size + 0) w13.heap.size g)))
  obtain ⟨Ah0_0, Ch0_0, rfl⟩ := ho0.form
  clear ho0
  have hzw13 : w12.heap.size + 0 ≤ w13.heap.size := by have := hb.size; omega
  have st : Below w12.heap.size w12 w13 := hb
  replace c_w0_0 := (st.cell (p := ⟨w2.heap.size, 0, none⟩) hz_w0).trans c_w0_0
  replace c_w0_1 := (st.cell (p := ⟨w2.heap.size, 1, none⟩) hz_w0).trans c_w0_1
  replace hz_w0 : w2.heap.size < w13.heap.size := by omega
  replace c_g0_0 := (st.cell (p := ⟨w4.heap.size, 0, none⟩) hz_g0).trans c_g0_0
  replace c_g0_1 := (st.cell (p := ⟨w4.heap.size, 1, none⟩) hz_g0).trans c_g0_1
  replace hz_g0 : w4.heap.size < w13.heap.size := by omega
  replace B_w := Lib.hid (B_w.out.trans (st.mono (by omega)))
  replace B_w2 := Lib.hid (B_w2.out.trans (st.mono (by omega)))
  replace O_t2 := Lib.hid (O_t2.out.keep st)
  replace O_g0 := Lib.hid (O_g0.out.keep st)
  clear st hb
  go_wp2_with fail
  refine (eq_Relation (O_h0.out.keep (below1 _ _)).rd ((W_w0.out.keep B_w2.out).keep (below1 _ _))).mono ?_
  rintro e w14 ⟨rfl, hb⟩
  have hzw14 : w13.heap.size + 1 ≤ w14.heap.size := by have := hb.size; simp only [World.size_alloc] at this; omega
  have st : Below w13.heap.size w13 w14 := (below1 _ _).trans (hb.mono (by simp only [World.size_alloc]; omega))
  replace c_w0_0 := (st.cell (p := ⟨w2.heap.size, 0, none⟩) hz_w0).trans c_w0_0
  replace c_w0_1 := (st.cell (p := ⟨w2.heap.size, 1, none⟩) hz_w0).trans c_w0_1
  replace hz_w0 : w2.heap.size < w14.heap.size := by omega
  replace c_g0_0 := (st.cell (p := ⟨w4.heap.size, 0, none⟩) hz_g0).trans c_g0_0
  replace c_g0_1 := (st.cell (p := ⟨w4.heap.size, 1, none⟩) hz_g0).trans c_g0_1
  replace hz_g0 : w4.heap.size < w14.heap.size := by omega
  have hz_h0 : w13.heap.size < w14.heap.size := by omega
  have c_h0_0 : w14.cell? ⟨w13.heap.size, 0, none⟩ = some (.int .i64 ((fullRes aCounts_l).1)) := (hb.cell (p := ⟨w13.heap.size, 0, none⟩) (by simp only [World.size_alloc]; omega)).trans (cell_at _ _ _ 0 rfl)
  have c_h0_1 : w14.cell? ⟨w13.heap.size, 1, none⟩ = some (.slice Ah0_0 (fullRes aCounts_l).2.1.length Ch0_0) := (hb.cell (p := ⟨w13.heap.size, 1, none⟩) (by simp only [World.size_alloc]; omega)).trans (cell_at _ _ _ 1 rfl)
  replace B_w := Lib.hid (B_w.out.trans (st.mono (by omega)))
  replace B_w2 := Lib.hid (B_w2.out.trans (st.mono (by omega)))
  replace O_t2 := Lib.hid (O_t2.out.keep st)
  replace O_g0 := Lib.hid (O_g0.out.keep st)
  replace O_h0 := Lib.hid (O_h0.out.keep st)
  clear st hb
  have hq_t13 : (((fullRes aCounts_l).1) == ((fullRes aCounts_l).1) && ((fullRes aCounts_l).2.1) == ((fullRes aCounts_l).2.1)) = true := by simp
  have hn_t14 : (((fullRes aCounts_l).2.2 : Bool) != ((fullRes aCounts_l).2.2 : Bool)) = false := by simp
  go_wp2_with fail
  refine (held_Relation (k := 1) O_g0.out.rd (by omega) (by omega)).mono ?_
  rintro e w15 ⟨rfl, hb⟩
  have hzw15 : w14.heap.size + 0 ≤ w15.heap.size := by have := hb.size; omega
  have st : Below w14.heap.size w14 w15 := hb
  replace c_w0_0 := (st.cell (p := ⟨w2.heap.size, 0, none⟩) hz_w0).trans c_w0_0
  replace c_w0_1 := (st.cell (p := ⟨w2.heap.size, 1, none⟩) hz_w0).trans c_w0_1
  replace hz_w0 : w2.heap.size < w15.heap.size := by omega
  replace c_g0_0 := (st.cell (p := ⟨w4.heap.size, 0, none⟩) hz_g0).trans c_g0_0
  replace c_g0_1 := (st.cell (p := ⟨w4.heap.size, 1, none⟩) hz_g0).trans c_g0_1
  replace hz_g0 : w4.heap.size < w15.heap.size := by omega
  replace c_h0_0 := (st.cell (p := ⟨w13.heap.size, 0, none⟩) hz_h0).trans c_h0_0
  replace c_h0_1 := (st.cell (p := ⟨w13.heap.size, 1, none⟩) hz_h0).trans c_h0_1
  replace hz_h0 : w13.heap.size < w15.heap.size := by omega
  replace B_w := Lib.hid (B_w.out.trans (st.mono (by omega)))
  replace B_w2 := Lib.hid (B_w2.out.trans (st.mono (by omega)))
  replace O_t2 := Lib.hid (O_t2.out.keep st)
  replace O_g0 := Lib.hid (O_g0.out.keep st)
  replace O_h0 := Lib.hid (O_h0.out.keep st)
  clear st hb
  have hn_t15 : ¬ ((1 + (cnt_Relation ((fullRes aCounts_l).2.1) : Nat) : Int) < 0) := by omega
  have hn_t16 : ((1 + (cnt_Relation ((fullRes aCounts_l).2.1) : Nat) : Int) != (1 + (cnt_Relation ((fullRes aCounts_l).2.1) : Nat) : Int)) = false := by simp
  go_wp2
  go_ret
  exact ⟨rfl, B_w.out⟩

theorem own : ownKnob Try.prog.godebug = none := by kernel_rfl
theorem laidOut : laidOutB Try.prog = true := by kernel_rfl
theorem readable : Try.f4.params.toList.all (fun t => Try.prog.readableRec t && decide (t < Try.prog.types.size)) = true := by kernel_rfl

set_option maxRecDepth 100000 in
theorem lifted (os : Os) (started : os.Started) (H : Type) (enc : TypeId × Value → H) :
    ReturnsInHanded {} Try.checked os 4 .any (Rows.fnExactFullRelationSpec.pre6 enc Try.prog Try.f4 Rows.fnExactFullRelationRow.domain false) (Rows.fnExactFullRelationSpec.post enc Try.prog Try.f4 false true false false) := by
  refine returnsInHanded_of_change (C := Try.checked) own started (by kernel_rfl) Try.func4
    (ChangeSpec.witness6 (enc := enc) (C := Try.checked) false ⟨#[], #[.slice none 0 0], []⟩ 8 (by kernel_rfl) (by kernel_rfl) (by kernel_rfl) (by kernel_rfl)) ?_
  intro W base args ds gs before hval0 hW hcnd _
  have hval : ∀ (j : Nat) t v, Try.f4.params[j]? = some t → args[j]? = some v → Value.okWide Try.prog W .any base t v := hval0
  have hW' := hW
  obtain ⟨p, q, hA0, hV, rfl, hfz, hnd⟩ := hW
  have hA : DataW.TrodAll enc Try.prog W 0 (fun _ => true) true Try.f4.params.toList args.toList ds p := hA0
  rw [Try.params4] at hA hval
  obtain ⟨v0, vs0, d0, ds0, p0, q0, hargs, rfl, rfl, h0, r0⟩ := trodAll_cons hA
  obtain ⟨rfl, rfl, rfl⟩ := trodAll_nil r0
  obtain rfl : args = #[v0] := by cases args; simp_all
  obtain ⟨rfl, rfl⟩ := trodVars_none hV
  obtain ⟨v_aCounts_l, aCounts_l, rfl, h_aCounts⟩ := open_IntS (hval 0 24 v0 rfl rfl) h0
  simp only [List.append_nil] at hW' hA0
  refine (walk v0 aCounts_l W h_aCounts).mono fun e W' ⟨he, hb⟩ => ?_
  subst he
  exact ⟨_, rfl, law_post laidOut readable rfl rfl Try.underlying4 hW' hA0 rfl hb⟩

theorem over : Rows.fnExactFullRelationRow.holds Try.pinned (OpenSpec.ofChange Rows.fnExactFullRelationSpec) :=
  OpenClaim.holds_of_wide 4 Try.f4 rfl rfl rfl rfl rfl rfl rfl ⟨rfl, rfl, rfl, rfl, rfl⟩ rfl rfl rfl rfl rfl (by kernel_rfl) Try.func4 (by kernel_rfl)
    (of_decide_eq_true (by kernel_rfl)) (by unfold Func.isWrapper; first | (rw [if_pos (by decide +kernel)]; kernel_rfl) | (rw [if_neg (by decide +kernel)]; exact ⟨rfl, rfl⟩))
    (fun os started H enc _ => lifted os started H enc)

theorem proved : Rows.FnExactFullRelationSaid :=
  over
#print axioms proved
end Go.Proofs.Ytnijkpbecgifjaa.fullrel
