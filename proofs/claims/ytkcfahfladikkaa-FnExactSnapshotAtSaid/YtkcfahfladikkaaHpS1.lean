/-
  The laws' copies, comparisons and size checks on typed data, printed by genlaw.py. No conditions.
-/
import Derived.Test.YtkcfahfladikkaaHlS1
import Derived.Test.YtkcfahfladikkaaTyS1
namespace Go.Proofs.Ytkcfahfladikkaa
open Go.RowKit
set_option linter.unusedVariables false
set_option linter.unusedSimpArgs false
def sm_IntS (a : List Int) : Prop := List.length a ≤ 1048576
def tz_IntS (a : List Int) : Nat := List.length a
theorem to_IntS {a : List Int} (h : sm_IntS a) : laws_toIntS a = some a := by
  unfold laws_toIntS
  rw [chk_pos (make_ok (sm_lim (show _ from h))), to_loop (a := a) (g := some) (h := id) (fun _ _ _ => rfl) (fun _ _ => rfl) (sm_lim (show _ from h))]
  simp only [obind, List.map_id]
theorem eq_IntS {a : List Int} (h : sm_IntS a) : laws_eqIntS a a = some true := by
  unfold laws_eqIntS
  rw [eq_loop (B := laws_eqIntS_B1 a a) (a := a) (g := (fun x y => some (x == y))) (fun _ _ => rfl) (fun _ _ => by simp) (sm_lim (show _ from h))]
  simp [obind]
theorem sz_IntS {a : List Int} (k : ok25 a) {left : Int} (h : 0 ≤ left ∧ left ≤ 1048576) : SzR left (laws_szIntS a left) (sm_IntS a) (tz_IntS a) := sz_len h k.1
def sm_IntSS (a : List (List Int)) : Prop := List.length a ≤ 1048576 ∧ ∀ e ∈ a, sm_IntS e
def tz_IntSS (a : List (List Int)) : Nat := List.length a + tzL tz_IntS a
theorem to_IntSS {a : List (List Int)} (h : sm_IntSS a) : laws_toIntSS a = some a := by
  unfold laws_toIntSS
  rw [chk_pos (make_ok (sm_lim h.1)), to_loop (a := a) (g := laws_toIntS) (h := id) (fun _ _ _ => rfl) (fun e he => to_IntS (h.2 e he)) (sm_lim h.1)]
  simp only [obind, List.map_id]
theorem eq_IntSS {a : List (List Int)} (h : sm_IntSS a) : laws_eqIntSS a a = some true := by
  unfold laws_eqIntSS
  rw [eq_loop (B := laws_eqIntSS_B1 a a) (a := a) (g := laws_eqIntS) (fun _ _ => rfl) (fun e he => eq_IntS (h.2 e he)) (sm_lim h.1)]
  simp [obind]
theorem sz_IntSS {a : List (List Int)} (k : ok82 a) {left : Int} (h : 0 ≤ left ∧ left ≤ 1048576) : SzR left (laws_szIntSS a left) (sm_IntSS a) (tz_IntSS a) := sz_list (B := laws_szIntSS_B1 a) (g := laws_szIntS) (fun _ _ _ => rfl) (fun e he left h => sz_IntS (k.2 e he) h) h k.1
def sm_Relation (a : Int × (List (List Int))) : Prop := sm_IntSS a.2
def tz_Relation (a : Int × (List (List Int))) : Nat := tz_IntSS a.2
theorem to_Relation {a : Int × (List (List Int))} (h : sm_Relation a) : laws_toRelation a = some a := by
  unfold laws_toRelation
  simp only [to_IntSS (h), obind] <;> rfl
theorem eq_Relation {a : Int × (List (List Int))} (h : sm_Relation a) : laws_eqRelation a a = some true := by
  simp [laws_eqRelation, eq_IntSS (h), obind]
theorem sz_Relation {a : Int × (List (List Int))} (k : ok204 a) {left : Int} (h : 0 ≤ left ∧ left ≤ 1048576) : SzR left (laws_szRelation a left) (sm_Relation a) (tz_Relation a) := by
  unfold laws_szRelation
  have h0 : 0 ≤ left ∧ left ≤ 1048576 := h
  obtain ⟨v0, e0, p0⟩ := sz_IntSS (k.2) h0
  rw [e0]
  rcases p0 with p0 | ⟨p0, q0, s0⟩
  · simp only [obind]; rw [decide_eq_true p0]; exact ⟨-1, rfl, .inl (by omega)⟩
  simp only [obind]
  rw [decide_eq_false (by omega : ¬ v0 < 0)]
  simp only [cond_false]
  exact ⟨v0, rfl, .inr ⟨by unfold tz_Relation; omega, q0, s0⟩⟩
def sm_Table (a : (List UInt8) × (Int × (List (List Int)))) : Prop := List.length a.1 ≤ 1048576 ∧ sm_Relation a.2
def tz_Table (a : (List UInt8) × (Int × (List (List Int)))) : Nat := List.length a.1 + tz_Relation a.2
theorem to_Table {a : (List UInt8) × (Int × (List (List Int)))} (h : sm_Table a) : laws_toTable a = some a := by
  unfold laws_toTable
  simp only [to_Relation (h.2), obind] <;> rfl
theorem eq_Table {a : (List UInt8) × (Int × (List (List Int)))} (h : sm_Table a) : laws_eqTable a a = some true := by
  simp [laws_eqTable, eq_Relation (h.2), obind]
theorem sz_Table {a : (List UInt8) × (Int × (List (List Int)))} (k : ok206 a) {left : Int} (h : 0 ≤ left ∧ left ≤ 1048576) : SzR left (laws_szTable a left) (sm_Table a) (tz_Table a) := by
  unfold laws_szTable
  have h0 : 0 ≤ left ∧ left ≤ 1048576 := h
  obtain ⟨v0, e0, p0⟩ := sz_w h0 k.1
  rw [e0]
  rcases p0 with p0 | ⟨p0, q0, s0⟩
  · simp only [obind]; rw [decide_eq_true p0]; exact ⟨-1, rfl, .inl (by omega)⟩
  simp only [obind]
  rw [decide_eq_false (by omega : ¬ v0 < 0)]
  simp only [cond_false]
  have h1 : 0 ≤ v0 ∧ v0 ≤ 1048576 := by omega
  obtain ⟨v1, e1, p1⟩ := sz_Relation (k.2) h1
  rw [e1]
  rcases p1 with p1 | ⟨p1, q1, s1⟩
  · simp only [obind]; rw [decide_eq_true p1]; exact ⟨-1, rfl, .inl (by omega)⟩
  simp only [obind]
  rw [decide_eq_false (by omega : ¬ v1 < 0)]
  simp only [cond_false]
  exact ⟨v1, rfl, .inr ⟨by unfold tz_Table; omega, q1, s0, s1⟩⟩
def sm_TableS (a : List ((List UInt8) × (Int × (List (List Int))))) : Prop := List.length a ≤ 1048576 ∧ ∀ e ∈ a, sm_Table e
def tz_TableS (a : List ((List UInt8) × (Int × (List (List Int))))) : Nat := List.length a + tzL tz_Table a
theorem to_TableS {a : List ((List UInt8) × (Int × (List (List Int))))} (h : sm_TableS a) : laws_toTableS a = some a := by
  unfold laws_toTableS
  rw [chk_pos (make_ok (sm_lim h.1)), to_loop (a := a) (g := laws_toTable) (h := id) (fun _ _ _ => rfl) (fun e he => to_Table (h.2 e he)) (sm_lim h.1)]
  simp only [obind, List.map_id]
theorem eq_TableS {a : List ((List UInt8) × (Int × (List (List Int))))} (h : sm_TableS a) : laws_eqTableS a a = some true := by
  unfold laws_eqTableS
  rw [eq_loop (B := laws_eqTableS_B1 a a) (a := a) (g := laws_eqTable) (fun _ _ => rfl) (fun e he => eq_Table (h.2 e he)) (sm_lim h.1)]
  simp [obind]
theorem sz_TableS {a : List ((List UInt8) × (Int × (List (List Int))))} (k : ok22 a) {left : Int} (h : 0 ≤ left ∧ left ≤ 1048576) : SzR left (laws_szTableS a left) (sm_TableS a) (tz_TableS a) := sz_list (B := laws_szTableS_B1 a) (g := laws_szTable) (fun _ _ _ => rfl) (fun e he left h => sz_Table (k.2 e he) h) h k.1
def sm_Database (a : (List ((List UInt8) × (Int × (List (List Int)))))) : Prop := sm_TableS a
def tz_Database (a : (List ((List UInt8) × (Int × (List (List Int)))))) : Nat := tz_TableS a
theorem to_Database {a : (List ((List UInt8) × (Int × (List (List Int)))))} (h : sm_Database a) : laws_toDatabase a = some a := by
  unfold laws_toDatabase
  simp only [to_TableS (h), obind] <;> rfl
theorem eq_Database {a : (List ((List UInt8) × (Int × (List (List Int)))))} (h : sm_Database a) : laws_eqDatabase a a = some true := by
  simp [laws_eqDatabase, eq_TableS (h), obind]
theorem sz_Database {a : (List ((List UInt8) × (Int × (List (List Int)))))} (k : ok24 a) {left : Int} (h : 0 ≤ left ∧ left ≤ 1048576) : SzR left (laws_szDatabase a left) (sm_Database a) (tz_Database a) := by
  unfold laws_szDatabase
  have h0 : 0 ≤ left ∧ left ≤ 1048576 := h
  obtain ⟨v0, e0, p0⟩ := sz_TableS (k) h0
  rw [e0]
  rcases p0 with p0 | ⟨p0, q0, s0⟩
  · simp only [obind]; rw [decide_eq_true p0]; exact ⟨-1, rfl, .inl (by omega)⟩
  simp only [obind]
  rw [decide_eq_false (by omega : ¬ v0 < 0)]
  simp only [cond_false]
  exact ⟨v0, rfl, .inr ⟨by unfold tz_Database; omega, q0, s0⟩⟩
def sm_DatabaseS (a : List ((List ((List UInt8) × (Int × (List (List Int))))))) : Prop := List.length a ≤ 1048576 ∧ ∀ e ∈ a, sm_Database e
def tz_DatabaseS (a : List ((List ((List UInt8) × (Int × (List (List Int))))))) : Nat := List.length a + tzL tz_Database a
theorem to_DatabaseS {a : List ((List ((List UInt8) × (Int × (List (List Int))))))} (h : sm_DatabaseS a) : laws_toDatabaseS a = some a := by
  unfold laws_toDatabaseS
  rw [chk_pos (make_ok (sm_lim h.1)), to_loop (a := a) (g := laws_toDatabase) (h := id) (fun _ _ _ => rfl) (fun e he => to_Database (h.2 e he)) (sm_lim h.1)]
  simp only [obind, List.map_id]
theorem eq_DatabaseS {a : List ((List ((List UInt8) × (Int × (List (List Int))))))} (h : sm_DatabaseS a) : laws_eqDatabaseS a a = some true := by
  unfold laws_eqDatabaseS
  rw [eq_loop (B := laws_eqDatabaseS_B1 a a) (a := a) (g := laws_eqDatabase) (fun _ _ => rfl) (fun e he => eq_Database (h.2 e he)) (sm_lim h.1)]
  simp [obind]
theorem sz_DatabaseS {a : List ((List ((List UInt8) × (Int × (List (List Int))))))} (k : ok44 a) {left : Int} (h : 0 ≤ left ∧ left ≤ 1048576) : SzR left (laws_szDatabaseS a left) (sm_DatabaseS a) (tz_DatabaseS a) := sz_list (B := laws_szDatabaseS_B1 a) (g := laws_szDatabase) (fun _ _ _ => rfl) (fun e he left h => sz_Database (k.2 e he) h) h k.1
def sm_History (a : Int × (List ((List ((List UInt8) × (Int × (List (List Int)))))))) : Prop := sm_DatabaseS a.2
def tz_History (a : Int × (List ((List ((List UInt8) × (Int × (List (List Int)))))))) : Nat := tz_DatabaseS a.2
theorem to_History {a : Int × (List ((List ((List UInt8) × (Int × (List (List Int)))))))} (h : sm_History a) : laws_toHistory a = some a := by
  unfold laws_toHistory
  simp only [to_DatabaseS (h), obind] <;> rfl
theorem eq_History {a : Int × (List ((List ((List UInt8) × (Int × (List (List Int)))))))} (h : sm_History a) : laws_eqHistory a a = some true := by
  simp [laws_eqHistory, eq_DatabaseS (h), obind]
theorem sz_History {a : Int × (List ((List ((List UInt8) × (Int × (List (List Int)))))))} (k : ok46 a) {left : Int} (h : 0 ≤ left ∧ left ≤ 1048576) : SzR left (laws_szHistory a left) (sm_History a) (tz_History a) := by
  unfold laws_szHistory
  have h0 : 0 ≤ left ∧ left ≤ 1048576 := h
  obtain ⟨v0, e0, p0⟩ := sz_DatabaseS (k.2) h0
  rw [e0]
  rcases p0 with p0 | ⟨p0, q0, s0⟩
  · simp only [obind]; rw [decide_eq_true p0]; exact ⟨-1, rfl, .inl (by omega)⟩
  simp only [obind]
  rw [decide_eq_false (by omega : ¬ v0 < 0)]
  simp only [cond_false]
  exact ⟨v0, rfl, .inr ⟨by unfold tz_History; omega, q0, s0⟩⟩
theorem ct_IntS (a : List Int) : ce25 a ≤ 64 * tz_IntS a := cntL_tz0 (c := 1) (fun _ => Nat.le_refl 1) (by decide) a
theorem ct_IntSS (a : List (List Int)) : ce82 a ≤ 64 * tz_IntSS a := cntL_tz (c := 0) (fun x => ct_IntS x) (by decide) a
theorem ct_Relation (a : Int × (List (List Int))) : ce128 a ≤ 64 * tz_Relation a + 1 := by
  have b1 := ct_IntSS a.2
  unfold ce128 tz_Relation
  omega
theorem ct_Table (a : (List UInt8) × (Int × (List (List Int)))) : ce208 a ≤ 64 * tz_Table a + 2 := by
  have b1 := ct_Relation a.2
  unfold ce208 tz_Table
  omega
theorem ct_TableS (a : List ((List UInt8) × (Int × (List (List Int))))) : ce31 a ≤ 64 * tz_TableS a := cntL_tz (c := 2) (fun x => ct_Table x) (by decide) a
theorem ct_Database (a : (List ((List UInt8) × (Int × (List (List Int)))))) : ce33 a ≤ 64 * tz_Database a + 0 := by
  have b0 := ct_TableS a
  unfold ce33 tz_Database
  omega
theorem cts_Database (a : (List ((List UInt8) × (Int × (List (List Int)))))) : cs33 a ≤ 64 * tz_Database a + 0 := by
  have b0 := ct_TableS a
  unfold cs33 tz_Database
  omega
theorem ct_DatabaseS (a : List ((List ((List UInt8) × (Int × (List (List Int))))))) : ce50 a ≤ 64 * tz_DatabaseS a := cntL_tz (c := 0) (fun x => ct_Database x) (by decide) a
theorem ct_History (a : Int × (List ((List ((List UInt8) × (Int × (List (List Int)))))))) : ce52 a ≤ 64 * tz_History a + 1 := by
  have b1 := ct_DatabaseS a.2
  unfold ce52 tz_History
  omega
theorem cts_History (a : Int × (List ((List ((List UInt8) × (Int × (List (List Int)))))))) : cs52 a ≤ 64 * tz_History a + 0 := by
  have b1 := ct_DatabaseS a.2
  unfold cs52 tz_History
  omega
theorem cb_IntS {a : List Int} (h : sm_IntS a) : ce25 a ≤ 1048576 := Nat.le_trans (cntL_le (C := 1048576) (B := 1) a (show _ from h) (fun x hx => (Nat.le_refl 1))) (by decide)
theorem cb_IntSS {a : List (List Int)} (h : sm_IntSS a) : ce82 a ≤ 1099511627776 := Nat.le_trans (cntL_le (C := 1048576) (B := 1048576) a (show _ from h.1) (fun x hx => (cb_IntS (h.2 x hx)))) (by decide)
theorem cb_Relation {a : Int × (List (List Int))} (h : sm_Relation a) : ce128 a ≤ 1099511627777 := by
  have b1 := cb_IntSS (a := a.2) h
  unfold ce128
  omega
theorem cb_Table {a : (List UInt8) × (Int × (List (List Int)))} (h : sm_Table a) : ce208 a ≤ 1099511627778 := by
  have b1 := cb_Relation (a := a.2) h.2
  unfold ce208
  omega
theorem cb_TableS {a : List ((List UInt8) × (Int × (List (List Int))))} (h : sm_TableS a) : ce31 a ≤ 1152921504608944128 := Nat.le_trans (cntL_le (C := 1048576) (B := 1099511627778) a (show _ from h.1) (fun x hx => (cb_Table (h.2 x hx)))) (by decide)
theorem cb_Database {a : (List ((List UInt8) × (Int × (List (List Int)))))} (h : sm_Database a) : ce33 a ≤ 1152921504608944128 := by
  have b0 := cb_TableS (a := a) h
  unfold ce33
  omega
theorem cbs_Database {a : (List ((List UInt8) × (Int × (List (List Int)))))} (h : sm_Database a) : cs33 a ≤ 1152921504608944128 := by
  have b0 := cb_TableS (a := a) h
  unfold cs33
  omega
end Go.Proofs.Ytkcfahfladikkaa
