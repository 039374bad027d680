/-
  The struct Certificate: what it reads as, and the contracts of the laws' functions that measure, copy and compare it. Written by program (structgen.py). Conditions: the arguments read as such data.
-/
import Derived.Test.YtnijkpbecgifjaaKit
import Derived.Test.YtnijkpbecgifjaaRat2
import Derived.Test.YtnijkpbecgifjaaTo
namespace Go.Proofs.Ytnijkpbecgifjaa
open Go.RowKit
set_option linter.unusedVariables false

def Rd_Certificate (w : World) (v_Order : Value) (d_Order : List Int) (v_Cover : Value) (d_Cover : List (Int × Int)) (v_Sizes : Value) (d_Sizes : List Int) : Prop := Ints w v_Order d_Order ∧ Rats w v_Cover d_Cover ∧ Ints w v_Sizes d_Sizes
def Ow_Certificate (w : World) (S : Nat → Prop) (v_Order : Value) (d_Order : List Int) (v_Cover : Value) (d_Cover : List (Int × Int)) (v_Sizes : Value) (d_Sizes : List Int) : Prop := ∃ S0 S1 S2 : Nat → Prop, OwInts 3 w S0 v_Order d_Order ∧ OwRats 63 w S1 v_Cover d_Cover ∧ OwInts 3 w S2 v_Sizes d_Sizes ∧ (∀ g, S0 g → S g) ∧ (∀ g, S1 g → S g) ∧ (∀ g, S2 g → S g) ∧ (∀ g, S0 g → ¬ S1 g) ∧ (∀ g, S0 g → ¬ S2 g) ∧ (∀ g, S1 g → ¬ S2 g)
section
variable {w w' : World} {S S' : Nat → Prop} {v_Order : Value} {d_Order : List Int} {v_Cover : Value} {d_Cover : List (Int × Int)} {v_Sizes : Value} {d_Sizes : List Int}
theorem Rd_Certificate.keep (h : Rd_Certificate w v_Order d_Order v_Cover d_Cover v_Sizes d_Sizes) (hb : Below w.heap.size w w') : Rd_Certificate w' v_Order d_Order v_Cover d_Cover v_Sizes d_Sizes := ⟨(h.1).keep hb, (h.2.1).keep hb, (h.2.2).keep hb⟩
theorem Rd_Certificate.form (h : Rd_Certificate w v_Order d_Order v_Cover d_Cover v_Sizes d_Sizes) : ∃ A0 C0 A1 C1 A2 C2, v_Order = .slice A0 d_Order.length C0 ∧ v_Cover = .slice A1 d_Cover.length C1 ∧ v_Sizes = .slice A2 d_Sizes.length C2 := by
  obtain ⟨A0, C0, e0⟩ := (h.1).form
  obtain ⟨A1, C1, e1⟩ := (h.2.1).form
  obtain ⟨A2, C2, e2⟩ := (h.2.2).form
  exact ⟨A0, C0, A1, C1, A2, C2, e0, e1, e2⟩
theorem Ow_Certificate.keep (h : Ow_Certificate w S v_Order d_Order v_Cover d_Cover v_Sizes d_Sizes) (hb : Below w.heap.size w w') : Ow_Certificate w' S v_Order d_Order v_Cover d_Cover v_Sizes d_Sizes := by
  obtain ⟨S0, S1, S2, h0, h1, h2, s0, s1, s2, p0_1, p0_2, p1_2⟩ := h
  exact ⟨S0, S1, S2, h0.keep hb, h1.keep hb, h2.keep hb, s0, s1, s2, p0_1, p0_2, p1_2⟩
theorem Ow_Certificate.fr (h : Ow_Certificate w S v_Order d_Order v_Cover d_Cover v_Sizes d_Sizes) (hf : FrS S' w w') (hd : ∀ g, S g → ¬ S' g) : Ow_Certificate w' S v_Order d_Order v_Cover d_Cover v_Sizes d_Sizes := by
  obtain ⟨S0, S1, S2, h0, h1, h2, s0, s1, s2, p0_1, p0_2, p1_2⟩ := h
  exact ⟨S0, S1, S2, h0.fr hf (fun g hg => hd g (s0 g hg)), h1.fr hf (fun g hg => hd g (s1 g hg)), h2.fr hf (fun g hg => hd g (s2 g hg)), s0, s1, s2, p0_1, p0_2, p1_2⟩
theorem Ow_Certificate.mono (h : Ow_Certificate w S v_Order d_Order v_Cover d_Cover v_Sizes d_Sizes) (hs : ∀ g, S g → S' g) : Ow_Certificate w S' v_Order d_Order v_Cover d_Cover v_Sizes d_Sizes := by
  obtain ⟨S0, S1, S2, h0, h1, h2, s0, s1, s2, p0_1, p0_2, p1_2⟩ := h
  exact ⟨S0, S1, S2, h0, h1, h2, fun g hg => hs g (s0 g hg), fun g hg => hs g (s1 g hg), fun g hg => hs g (s2 g hg), p0_1, p0_2, p1_2⟩
theorem Ow_Certificate.rd (h : Ow_Certificate w S v_Order d_Order v_Cover d_Cover v_Sizes d_Sizes) : Rd_Certificate w v_Order d_Order v_Cover d_Cover v_Sizes d_Sizes := by
  obtain ⟨S0, S1, S2, h0, h1, h2, s0, s1, s2, p0_1, p0_2, p1_2⟩ := h
  exact ⟨h0.rd, h1.rd, h2.rd⟩
theorem Ow_Certificate.form (h : Ow_Certificate w S v_Order d_Order v_Cover d_Cover v_Sizes d_Sizes) : ∃ A0 C0 A1 C1 A2 C2, v_Order = .slice A0 d_Order.length C0 ∧ v_Cover = .slice A1 d_Cover.length C1 ∧ v_Sizes = .slice A2 d_Sizes.length C2 := h.rd.form
end
def bulk_Certificate (d_Order : List Int) (d_Cover : List (Int × Int)) (d_Sizes : List Int) : Nat := bulk_IntS d_Order + bulk_RationalS d_Cover + bulk_IntS d_Sizes
def RetTo_Certificate (w : World) (d_Order : List Int) (d_Cover : List (Int × Int)) (d_Sizes : List Int) (d_Rows : Int) (d_Seeks : Int) (e : Ending) (w' : World) : Prop := ∃ v_Order v_Cover v_Sizes, e = .returned (.agg #[v_Order, v_Cover, v_Sizes, .int .i64 d_Rows, .int .i64 d_Seeks]) ∧ Ow_Certificate w' (Iv w w') v_Order d_Order v_Cover d_Cover v_Sizes d_Sizes ∧ Below w.heap.size w w'
set_option maxHeartbeats 1000000 in
theorem sz_Certificate {w : World} {d_Rows : Int} {d_Seeks : Int} {v_Order : Value} {d_Order : List Int} {v_Cover : Value} {d_Cover : List (Int × Int)} {v_Sizes : Value} {d_Sizes : List Int} {k : Int} (h : Rd_Certificate w v_Order d_Order v_Cover d_Cover v_Sizes d_Sizes) (h0 : 0 ≤ k) (h1 : k ≤ 1048576) :
    Calls Try.prog 19 #[.agg #[v_Order, v_Cover, v_Sizes, .int .i64 d_Rows, .int .i64 d_Seeks], .int .i64 k] w fun e w' => e = .returned (.int .i64 (szS k (bulk_Certificate d_Order d_Cover d_Sizes))) ∧ Below w.heap.size w w' := by
  obtain ⟨h0, h1, h2⟩ := h
  have R0 := Lib.hid h0
  obtain ⟨A0, C0, rfl⟩ := h0.form
  have R1 := Lib.hid h1
  obtain ⟨A1, C1, rfl⟩ := h1.form
  have R2 := Lib.hid h2
  obtain ⟨A2, C2, rfl⟩ := h2.form
  clear h0 h1 h2
  go_enter Try.func19, Try.ntmps19
  go_wp2_with fail
  refine (sz_IntS (k := k) (R0.out.keep (below1 _ _)) (by omega) (by omega)).mono ?_
  rintro e w1 ⟨rfl, hb⟩
  have hz : w.heap.size < w1.heap.size := by have := hb.size; simp only [World.size_alloc] at this; omega
  have hc : ∀ j, w1.cell? ⟨w.heap.size, j, none⟩ = (#[.slice A0 d_Order.length C0, .slice A1 d_Cover.length C1, .slice A2 d_Sizes.length C2, .int .i64 d_Rows, .int .i64 d_Seeks] : Array Value)[j]? := fun j => (hb.cell (p := ⟨w.heap.size, j, none⟩) (by simp)).trans (cell_new _ _ _ _)
  have ST := Lib.hid ((below1 _ _).trans (hb.mono (by simp)))
  clear hb
  by_cases h : k < (bulk_IntS d_Order : Nat)
  · rw [szS_no h]
    have H := Lib.hid h; clear h
    go_wp2
    go_ret
    exact ⟨ret_int (szS_no (by unfold bulk_Certificate; have := H.out; omega)).symm, ST.out⟩
  rw [szS_yes h]
  have h_Order : ¬ (k - (bulk_IntS d_Order : Nat) < 0) := by omega
  clear h
  go_wp2_with fail
  refine (sz_RationalS (k := k - (bulk_IntS d_Order : Nat)) (R1.out.keep ST.out) (by omega) (by omega)).mono ?_
  rintro e w2 ⟨rfl, hb⟩
  replace hc : ∀ j, w2.cell? ⟨w.heap.size, j, none⟩ = (#[.slice A0 d_Order.length C0, .slice A1 d_Cover.length C1, .slice A2 d_Sizes.length C2, .int .i64 d_Rows, .int .i64 d_Seeks] : Array Value)[j]? := fun j => (hb.cell (p := ⟨w.heap.size, j, none⟩) hz).trans (hc j)
  replace hz : w.heap.size < w2.heap.size := Nat.lt_of_lt_of_le hz hb.size
  replace ST := Lib.hid (ST.out.trans (hb.mono ST.out.size))
  clear hb
  by_cases h : k - (bulk_IntS d_Order : Nat) < (bulk_RationalS d_Cover : Nat)
  · rw [szS_no h]
    have H := Lib.hid h; clear h
    go_wp2
    go_ret
    exact ⟨ret_int (szS_no (by unfold bulk_Certificate; have := H.out; omega)).symm, ST.out⟩
  rw [szS_yes h]
  have h_Cover : ¬ (k - (bulk_IntS d_Order : Nat) - (bulk_RationalS d_Cover : Nat) < 0) := by omega
  clear h
  go_wp2_with fail
  refine (sz_IntS (k := k - (bulk_IntS d_Order : Nat) - (bulk_RationalS d_Cover : Nat)) (R2.out.keep ST.out) (by omega) (by omega)).mono ?_
  rintro e w3 ⟨rfl, hb⟩
  replace hc : ∀ j, w3.cell? ⟨w.heap.size, j, none⟩ = (#[.slice A0 d_Order.length C0, .slice A1 d_Cover.length C1, .slice A2 d_Sizes.length C2, .int .i64 d_Rows, .int .i64 d_Seeks] : Array Value)[j]? := fun j => (hb.cell (p := ⟨w.heap.size, j, none⟩) hz).trans (hc j)
  replace hz : w.heap.size < w3.heap.size := Nat.lt_of_lt_of_le hz hb.size
  replace ST := Lib.hid (ST.out.trans (hb.mono ST.out.size))
  clear hb
  by_cases h : k - (bulk_IntS d_Order : Nat) - (bulk_RationalS d_Cover : Nat) < (bulk_IntS d_Sizes : Nat)
  · rw [szS_no h]
    have H := Lib.hid h; clear h
    go_wp2
    go_ret
    exact ⟨ret_int (szS_no (by unfold bulk_Certificate; have := H.out; omega)).symm, ST.out⟩
  rw [szS_yes h]
  have h_Sizes : ¬ (k - (bulk_IntS d_Order : Nat) - (bulk_RationalS d_Cover : Nat) - (bulk_IntS d_Sizes : Nat) < 0) := by omega
  clear h
  have H := Lib.hid (show ¬ (k < (bulk_Certificate d_Order d_Cover d_Sizes : Nat)) by unfold bulk_Certificate; omega)
  go_wp2
  go_ret
  exact ⟨ret_int (by rw [szS_yes (by have := H.out; omega)]; unfold bulk_Certificate; omega), ST.out⟩
set_option maxHeartbeats 1000000 in
theorem to_Certificate {w : World} {d_Rows : Int} {d_Seeks : Int} {v_Order : Value} {d_Order : List Int} {v_Cover : Value} {d_Cover : List (Int × Int)} {v_Sizes : Value} {d_Sizes : List Int} (h : Rd_Certificate w v_Order d_Order v_Cover d_Cover v_Sizes d_Sizes) (hb : bulk_Certificate d_Order d_Cover d_Sizes ≤ 1048576) : Calls Try.prog 21 #[.agg #[v_Order, v_Cover, v_Sizes, .int .i64 d_Rows, .int .i64 d_Seeks]] w (RetTo_Certificate w d_Order d_Cover d_Sizes d_Rows d_Seeks) := by
  obtain ⟨h0, h1, h2⟩ := h
  have R0 := Lib.hid h0
  obtain ⟨A0, C0, rfl⟩ := h0.form
  have R1 := Lib.hid h1
  obtain ⟨A1, C1, rfl⟩ := h1.form
  have R2 := Lib.hid h2
  obtain ⟨A2, C2, rfl⟩ := h2.form
  clear h0 h1 h2
  have hb0 : bulk_IntS d_Order ≤ 1048576 := by unfold bulk_Certificate at hb; omega
  have hb1 : bulk_RationalS d_Cover ≤ 1048576 := by unfold bulk_Certificate at hb; omega
  have hb2 : bulk_IntS d_Sizes ≤ 1048576 := by unfold bulk_Certificate at hb; omega
  go_enter Try.func21, Try.ntmps21
  go_wp2_with fail
  refine (to_IntS (R0.out.keep (below3 _ _ _ _)) hb0).mono ?_
  rintro e w1 ⟨v0, rfl, ho, hb⟩
  obtain ⟨B0, D0, rfl⟩ := ho.form
  have hT : Toing w w1 #[.slice A0 d_Order.length C0, .slice A1 d_Cover.length C1, .slice A2 d_Sizes.length C2, .int .i64 d_Rows, .int .i64 d_Seeks] #[.slice none 0 0, .slice none 0 0, .slice none 0 0, .int .i64 0, .int .i64 0] #[.slice none 0 0, .slice none 0 0, .slice none 0 0, .int .i64 0, .int .i64 0] := (Toing.made w _ _ _ _ _ _).call hb
  have O0 : Hid (OwInts 3 w1 (Inn (w.heap.size + 3) w1.heap.size) (.slice B0 d_Order.length D0) d_Order) := ho.mono (fun g hg => ⟨by have := hg.1; simp only [World.size_alloc] at this; omega, hg.2⟩)
  have HT := Lib.hid hT; have cb := hT.box; have cr := hT.res; have co := hT.out; have fr := hT.fres; have fo := hT.fout
  clear hb ho hT
  go_wp2_with fail
  refine (to_RationalS (R1.out.keep (HT.out.put 0 (.slice B0 d_Order.length D0) (by simp) rfl).below) hb1).mono ?_
  rintro e w2 ⟨v1, rfl, ho, hb⟩
  obtain ⟨B1, D1, rfl⟩ := ho.form
  have hT : Toing w w2 #[.slice A0 d_Order.length C0, .slice A1 d_Cover.length C1, .slice A2 d_Sizes.length C2, .int .i64 d_Rows, .int .i64 d_Seeks] #[.slice none 0 0, .slice none 0 0, .slice none 0 0, .int .i64 0, .int .i64 0] #[.slice B0 d_Order.length D0, .slice none 0 0, .slice none 0 0, .int .i64 0, .int .i64 0] := (HT.out.put 0 (.slice B0 d_Order.length D0) (by simp) rfl).call hb
  have hs1 := HT.out.size
  have hf : FrS (Mid w) w1 w2 := ((FrS.refl (Mid w) w1).setCell (p := ⟨w.heap.size + 1 + 1, 0, none⟩) (.inr rfl) (.slice B0 d_Order.length D0)).trans (FrS.below hb)
  have hz : w1.heap.size ≤ w2.heap.size := hf.size
  replace O0 := Lib.hid (O0.out.fr hf (fun g hg hq => by unfold Inn at hg; unfold Mid at hq; omega))
  have O1 : Hid (OwRats 63 w2 (Inn w1.heap.size w2.heap.size) (.slice B1 d_Cover.length D1) d_Cover) := ho.mono (fun g hg => ⟨Nat.le_trans (by simp [World.setCell]) hg.1, hg.2⟩)
  clear hf HT cb cr co fr fo
  have hz1 := hz; clear hz
  have HT := Lib.hid hT; have cb := hT.box; have cr := hT.res; have co := hT.out; have fr := hT.fres; have fo := hT.fout
  clear hb ho hT
  go_wp2_with fail
  refine (to_IntS (R2.out.keep (HT.out.put 1 (.slice B1 d_Cover.length D1) (by simp) rfl).below) hb2).mono ?_
  rintro e w3 ⟨v2, rfl, ho, hb⟩
  obtain ⟨B2, D2, rfl⟩ := ho.form
  have hT : Toing w w3 #[.slice A0 d_Order.length C0, .slice A1 d_Cover.length C1, .slice A2 d_Sizes.length C2, .int .i64 d_Rows, .int .i64 d_Seeks] #[.slice none 0 0, .slice none 0 0, .slice none 0 0, .int .i64 0, .int .i64 0] #[.slice B0 d_Order.length D0, .slice B1 d_Cover.length D1, .slice none 0 0, .int .i64 0, .int .i64 0] := (HT.out.put 1 (.slice B1 d_Cover.length D1) (by simp) rfl).call hb
  have hs2 := HT.out.size
  have hf : FrS (Mid w) w2 w3 := ((FrS.refl (Mid w) w2).setCell (p := ⟨w.heap.size + 1 + 1, 1, none⟩) (.inr rfl) (.slice B1 d_Cover.length D1)).trans (FrS.below hb)
  have hz : w2.heap.size ≤ w3.heap.size := hf.size
  replace O0 := Lib.hid (O0.out.fr hf (fun g hg hq => by unfold Inn at hg; unfold Mid at hq; omega))
  replace O1 := Lib.hid (O1.out.fr hf (fun g hg hq => by unfold Inn at hg; unfold Mid at hq; omega))
  have O2 : Hid (OwInts 3 w3 (Inn w2.heap.size w3.heap.size) (.slice B2 d_Sizes.length D2) d_Sizes) := ho.mono (fun g hg => ⟨Nat.le_trans (by simp [World.setCell]) hg.1, hg.2⟩)
  clear hf HT cb cr co fr fo
  have hz2 := hz; clear hz
  have HT := Lib.hid hT; have cb := hT.box; have cr := hT.res; have co := hT.out; have fr := hT.fres; have fo := hT.fout
  clear hb ho hT
  go_wp2
  refine bodyPost_ret (v := .agg #[.slice B0 d_Order.length D0, .slice B1 d_Cover.length D1, .slice B2 d_Sizes.length D2, .int .i64 d_Rows, .int .i64 d_Seeks]) (by simp [results, Try.results21, go_sem, cr]) rfl ⟨.slice B0 d_Order.length D0, .slice B1 d_Cover.length D1, .slice B2 d_Sizes.length D2, rfl, ?_, ?_⟩
  · have hf := (((((((((FrS.refl (Mid w) w3).setCell (p := ⟨w.heap.size + 1 + 1, 2, none⟩) (.inr rfl) (.slice B2 d_Sizes.length D2)).setCell (p := ⟨w.heap.size + 1 + 1, 3, none⟩) (.inr rfl) (.int .i64 d_Rows)).setCell (p := ⟨w.heap.size + 1 + 1, 4, none⟩) (.inr rfl) (.int .i64 d_Seeks)).setCell (p := ⟨w.heap.size + 1, 0, none⟩) (.inl rfl) (.slice B0 d_Order.length D0)).setCell (p := ⟨w.heap.size + 1, 1, none⟩) (.inl rfl) (.slice B1 d_Cover.length D1)).setCell (p := ⟨w.heap.size + 1, 2, none⟩) (.inl rfl) (.slice B2 d_Sizes.length D2)).setCell (p := ⟨w.heap.size + 1, 3, none⟩) (.inl rfl) (.int .i64 d_Rows)).setCell (p := ⟨w.heap.size + 1, 4, none⟩) (.inl rfl) (.int .i64 d_Seeks))
    have hz0 := HT.out.size
    refine ⟨Inn (w.heap.size + 3) w1.heap.size, Inn (w1.heap.size) w2.heap.size, Inn (w2.heap.size) w3.heap.size, O0.out.fr hf (fun g hg hq => by unfold Inn at hg; unfold Mid at hq; omega), O1.out.fr hf (fun g hg hq => by unfold Inn at hg; unfold Mid at hq; omega), O2.out.fr hf (fun g hg hq => by unfold Inn at hg; unfold Mid at hq; omega), fun g hg => ⟨by unfold Inn at hg; omega, Nat.lt_of_lt_of_le (show g < w3.heap.size by unfold Inn at hg; omega) hf.size⟩, fun g hg => ⟨by unfold Inn at hg; omega, Nat.lt_of_lt_of_le (show g < w3.heap.size by unfold Inn at hg; omega) hf.size⟩, fun g hg => ⟨by unfold Inn at hg; omega, Nat.lt_of_lt_of_le (show g < w3.heap.size by unfold Inn at hg; omega) hf.size⟩, fun g hg hq => by unfold Inn at hg hq; omega, fun g hg hq => by unfold Inn at hg hq; omega, fun g hg hq => by unfold Inn at hg hq; omega⟩
  · have hz0 := HT.out.size
    exact ((((((((HT.out.below.setCell (p := ⟨w.heap.size + 1 + 1, 2, none⟩) (show w.heap.size ≤ w.heap.size + 1 + 1 by omega) (.slice B2 d_Sizes.length D2)).setCell (p := ⟨w.heap.size + 1 + 1, 3, none⟩) (show w.heap.size ≤ w.heap.size + 1 + 1 by omega) (.int .i64 d_Rows)).setCell (p := ⟨w.heap.size + 1 + 1, 4, none⟩) (show w.heap.size ≤ w.heap.size + 1 + 1 by omega) (.int .i64 d_Seeks)).setCell (p := ⟨w.heap.size + 1, 0, none⟩) (show w.heap.size ≤ w.heap.size + 1 by omega) (.slice B0 d_Order.length D0)).setCell (p := ⟨w.heap.size + 1, 1, none⟩) (show w.heap.size ≤ w.heap.size + 1 by omega) (.slice B1 d_Cover.length D1)).setCell (p := ⟨w.heap.size + 1, 2, none⟩) (show w.heap.size ≤ w.heap.size + 1 by omega) (.slice B2 d_Sizes.length D2)).setCell (p := ⟨w.heap.size + 1, 3, none⟩) (show w.heap.size ≤ w.heap.size + 1 by omega) (.int .i64 d_Rows)).setCell (p := ⟨w.heap.size + 1, 4, none⟩) (show w.heap.size ≤ w.heap.size + 1 by omega) (.int .i64 d_Seeks))
set_option maxHeartbeats 1000000 in
theorem eq_Certificate {w : World} {da_Order db_Order : List Int} {da_Cover db_Cover : List (Int × Int)} {da_Sizes db_Sizes : List Int} {da_Rows db_Rows : Int} {da_Seeks db_Seeks : Int} {va_Order vb_Order : Value} {va_Cover vb_Cover : Value} {va_Sizes vb_Sizes : Value} (ha : Rd_Certificate w va_Order da_Order va_Cover da_Cover va_Sizes da_Sizes) (hb : Rd_Certificate w vb_Order db_Order vb_Cover db_Cover vb_Sizes db_Sizes) :
    Calls Try.prog 23 #[.agg #[va_Order, va_Cover, va_Sizes, .int .i64 da_Rows, .int .i64 da_Seeks], .agg #[vb_Order, vb_Cover, vb_Sizes, .int .i64 db_Rows, .int .i64 db_Seeks]] w fun e w' => e = .returned (.bool (da_Order == db_Order && da_Cover == db_Cover && da_Sizes == db_Sizes && da_Rows == db_Rows && da_Seeks == db_Seeks)) ∧ Below w.heap.size w w' := by
  obtain ⟨ha0, ha1, ha2⟩ := ha
  have Ra0 := Lib.hid ha0
  obtain ⟨Aa0, Ca0, rfl⟩ := ha0.form
  have Ra1 := Lib.hid ha1
  obtain ⟨Aa1, Ca1, rfl⟩ := ha1.form
  have Ra2 := Lib.hid ha2
  obtain ⟨Aa2, Ca2, rfl⟩ := ha2.form
  clear ha0 ha1 ha2
  obtain ⟨hb0, hb1, hb2⟩ := hb
  have Rb0 := Lib.hid hb0
  obtain ⟨Ab0, Cb0, rfl⟩ := hb0.form
  have Rb1 := Lib.hid hb1
  obtain ⟨Ab1, Cb1, rfl⟩ := hb1.form
  have Rb2 := Lib.hid hb2
  obtain ⟨Ab2, Cb2, rfl⟩ := hb2.form
  clear hb0 hb1 hb2
  go_enter Try.func23, Try.ntmps23
  go_wp2_with fail
  refine (eq_IntS (Ra0.out.keep (below2 _ _ _)) (Rb0.out.keep (below2 _ _ _))).mono ?_
  rintro e w1 ⟨rfl, hb⟩
  have hz : w.heap.size + 1 < w1.heap.size := by have := hb.size; simp only [World.size_alloc] at this; omega
  have ca : ∀ j, w1.cell? ⟨w.heap.size, j, none⟩ = (#[.slice Aa0 da_Order.length Ca0, .slice Aa1 da_Cover.length Ca1, .slice Aa2 da_Sizes.length Ca2, .int .i64 da_Rows, .int .i64 da_Seeks] : Array Value)[j]? := fun j => (hb.cell (p := ⟨w.heap.size, j, none⟩) (by simp; omega)).trans (((below1 _ _).cell (p := ⟨w.heap.size, j, none⟩) (by simp)).trans (cell_new _ _ _ _))
  have cb : ∀ j, w1.cell? ⟨w.heap.size + 1, j, none⟩ = (#[.slice Ab0 db_Order.length Cb0, .slice Ab1 db_Cover.length Cb1, .slice Ab2 db_Sizes.length Cb2, .int .i64 db_Rows, .int .i64 db_Seeks] : Array Value)[j]? := fun j => (hb.cell (p := ⟨w.heap.size + 1, j, none⟩) (by simp)).trans (cell_at _ _ _ _ (by simp))
  have ST := Lib.hid ((below2 _ _ _).trans (hb.mono (by simp; omega)))
  clear hb
  by_cases h : (da_Order == db_Order) = false
  · rw [h]
    have H_Order := Lib.hid h; clear h
    go_wp2
    go_ret
    exact ⟨ret_bool (by simp [H_Order.out]), ST.out⟩
  have H_Order := Lib.hid (show (da_Order == db_Order) = true by simpa using h)
  rw [H_Order.out]
  clear h
  go_wp2_with fail
  refine (eq_RationalS (Ra1.out.keep ST.out) (Rb1.out.keep ST.out)).mono ?_
  rintro e w2 ⟨rfl, hb⟩
  replace ca : ∀ j, w2.cell? ⟨w.heap.size, j, none⟩ = (#[.slice Aa0 da_Order.length Ca0, .slice Aa1 da_Cover.length Ca1, .slice Aa2 da_Sizes.length Ca2, .int .i64 da_Rows, .int .i64 da_Seeks] : Array Value)[j]? := fun j => (hb.cell (p := ⟨w.heap.size, j, none⟩) (show w.heap.size < _ by omega)).trans (ca j)
  replace cb : ∀ j, w2.cell? ⟨w.heap.size + 1, j, none⟩ = (#[.slice Ab0 db_Order.length Cb0, .slice Ab1 db_Cover.length Cb1, .slice Ab2 db_Sizes.length Cb2, .int .i64 db_Rows, .int .i64 db_Seeks] : Array Value)[j]? := fun j => (hb.cell (p := ⟨w.heap.size + 1, j, none⟩) hz).trans (cb j)
  replace hz : w.heap.size + 1 < w2.heap.size := Nat.lt_of_lt_of_le hz hb.size
  replace ST := Lib.hid (ST.out.trans (hb.mono ST.out.size))
  clear hb
  by_cases h : (da_Cover == db_Cover) = false
  · rw [h]
    have H_Cover := Lib.hid h; clear h
    go_wp2
    go_ret
    exact ⟨ret_bool (by simp [H_Cover.out]), ST.out⟩
  have H_Cover := Lib.hid (show (da_Cover == db_Cover) = true by simpa using h)
  rw [H_Cover.out]
  clear h
  go_wp2_with fail
  refine (eq_IntS (Ra2.out.keep ST.out) (Rb2.out.keep ST.out)).mono ?_
  rintro e w3 ⟨rfl, hb⟩
  replace ca : ∀ j, w3.cell? ⟨w.heap.size, j, none⟩ = (#[.slice Aa0 da_Order.length Ca0, .slice Aa1 da_Cover.length Ca1, .slice Aa2 da_Sizes.length Ca2, .int .i64 da_Rows, .int .i64 da_Seeks] : Array Value)[j]? := fun j => (hb.cell (p := ⟨w.heap.size, j, none⟩) (show w.heap.size < _ by omega)).trans (ca j)
  replace cb : ∀ j, w3.cell? ⟨w.heap.size + 1, j, none⟩ = (#[.slice Ab0 db_Order.length Cb0, .slice Ab1 db_Cover.length Cb1, .slice Ab2 db_Sizes.length Cb2, .int .i64 db_Rows, .int .i64 db_Seeks] : Array Value)[j]? := fun j => (hb.cell (p := ⟨w.heap.size + 1, j, none⟩) hz).trans (cb j)
  replace hz : w.heap.size + 1 < w3.heap.size := Nat.lt_of_lt_of_le hz hb.size
  replace ST := Lib.hid (ST.out.trans (hb.mono ST.out.size))
  clear hb
  by_cases h : (da_Sizes == db_Sizes) = false
  · rw [h]
    have H_Sizes := Lib.hid h; clear h
    go_wp2
    go_ret
    exact ⟨ret_bool (by simp [H_Sizes.out]), ST.out⟩
  have H_Sizes := Lib.hid (show (da_Sizes == db_Sizes) = true by simpa using h)
  rw [H_Sizes.out]
  clear h
  by_cases h : ¬ (da_Rows = db_Rows)
  · have h1 : (da_Rows != db_Rows) = true := by simpa using h
    have h2 : (da_Rows == db_Rows) = false := by simpa using h
    have H_Rows := Lib.hid h2; clear h h2
    go_wp2
    go_ret
    exact ⟨ret_bool (by simp [H_Rows.out]), ST.out⟩
  have hn_Rows : (da_Rows != db_Rows) = false := by simpa using h
  have h2 : (da_Rows == db_Rows) = true := by simpa using h
  have H_Rows := Lib.hid h2; clear h h2
  by_cases h : ¬ (da_Seeks = db_Seeks)
  · have h1 : (da_Seeks != db_Seeks) = true := by simpa using h
    have h2 : (da_Seeks == db_Seeks) = false := by simpa using h
    have H_Seeks := Lib.hid h2; clear h h2
    go_wp2
    go_ret
    exact ⟨ret_bool (by simp [H_Seeks.out]), ST.out⟩
  have hn_Seeks : (da_Seeks != db_Seeks) = false := by simpa using h
  have h2 : (da_Seeks == db_Seeks) = true := by simpa using h
  have H_Seeks := Lib.hid h2; clear h h2
  go_wp2
  go_ret
  exact ⟨ret_bool (by simp only [H_Order.out, H_Cover.out, H_Sizes.out, H_Rows.out, H_Seeks.out, Bool.and_self]), ST.out⟩

end Go.Proofs.Ytnijkpbecgifjaa
