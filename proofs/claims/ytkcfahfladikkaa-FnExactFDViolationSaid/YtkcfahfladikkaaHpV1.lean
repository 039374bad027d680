/-
  The laws' copies, comparisons and size checks on typed data, printed by genlaw.py. No conditions.
-/
import Derived.Test.YtkcfahfladikkaaHlV1
import Derived.Test.YtkcfahfladikkaaTyV1
namespace Go.Proofs.Ytkcfahfladikkaa
open Go.RowKit
set_option linter.unusedVariables false
set_option linter.unusedSimpArgs false
def sm_IntS (a : List Int) : Prop := List.length a ≤ 1048576
theorem to_IntS {a : List Int} (h : sm_IntS a) : laws_toIntS a = some a := by
  unfold laws_toIntS
  rw [chk_pos (make_ok (sm_lim (show _ from h))), to_loop (a := a) (g := some) (h := id) (fun _ _ _ => rfl) (fun _ _ => rfl) (sm_lim (show _ from h))]
  simp only [obind, List.map_id]
theorem eq_IntS {a : List Int} (h : sm_IntS a) : laws_eqIntS a a = some true := by
  unfold laws_eqIntS
  rw [eq_loop (B := laws_eqIntS_B1 a a) (a := a) (g := (fun x y => some (x == y))) (fun _ _ => rfl) (fun _ _ => by simp) (sm_lim (show _ from h))]
  simp [obind]
theorem sz_IntS {a : List Int} (k : ok25 a) {left : Int} (h : 0 ≤ left ∧ left ≤ 1048576) : SzR left (laws_szIntS a left) (sm_IntS a) := sz_len h k.1
def sm_IntSS (a : List (List Int)) : Prop := List.length a ≤ 1048576 ∧ ∀ e ∈ a, sm_IntS e
theorem to_IntSS {a : List (List Int)} (h : sm_IntSS a) : laws_toIntSS a = some a := by
  unfold laws_toIntSS
  rw [chk_pos (make_ok (sm_lim h.1)), to_loop (a := a) (g := laws_toIntS) (h := id) (fun _ _ _ => rfl) (fun e he => to_IntS (h.2 e he)) (sm_lim h.1)]
  simp only [obind, List.map_id]
theorem eq_IntSS {a : List (List Int)} (h : sm_IntSS a) : laws_eqIntSS a a = some true := by
  unfold laws_eqIntSS
  rw [eq_loop (B := laws_eqIntSS_B1 a a) (a := a) (g := laws_eqIntS) (fun _ _ => rfl) (fun e he => eq_IntS (h.2 e he)) (sm_lim h.1)]
  simp [obind]
theorem sz_IntSS {a : List (List Int)} (k : ok82 a) {left : Int} (h : 0 ≤ left ∧ left ≤ 1048576) : SzR left (laws_szIntSS a left) (sm_IntSS a) := sz_list (B := laws_szIntSS_B1 a) (g := laws_szIntS) (fun _ _ _ => rfl) (fun e he left h => sz_IntS (k.2 e he) h) h k.1
def sm_Relation (a : Int × (List (List Int))) : Prop := sm_IntSS a.2
theorem to_Relation {a : Int × (List (List Int))} (h : sm_Relation a) : laws_toRelation a = some a := by
  unfold laws_toRelation
  simp only [to_IntSS (h), obind] <;> rfl
theorem eq_Relation {a : Int × (List (List Int))} (h : sm_Relation a) : laws_eqRelation a a = some true := by
  simp [laws_eqRelation, eq_IntSS (h), obind]
theorem sz_Relation {a : Int × (List (List Int))} (k : ok204 a) {left : Int} (h : 0 ≤ left ∧ left ≤ 1048576) : SzR left (laws_szRelation a left) (sm_Relation a) := by
  unfold laws_szRelation
  have h0 : 0 ≤ left ∧ left ≤ 1048576 := h
  obtain ⟨v0, e0, p0⟩ := sz_IntSS (k.2) h0
  rw [e0]
  rcases p0 with p0 | ⟨p0, q0, s0⟩
  · simp only [obind]; rw [decide_eq_true p0]; exact ⟨-1, rfl, .inl (by omega)⟩
  simp only [obind]
  rw [decide_eq_false (by omega : ¬ v0 < 0)]
  simp only [cond_false]
  exact ⟨v0, rfl, .inr ⟨by omega, q0, s0⟩⟩
def sm_Table (a : (List UInt8) × (Int × (List (List Int)))) : Prop := List.length a.1 ≤ 1048576 ∧ sm_Relation a.2
theorem to_Table {a : (List UInt8) × (Int × (List (List Int)))} (h : sm_Table a) : laws_toTable a = some a := by
  unfold laws_toTable
  simp only [to_Relation (h.2), obind] <;> rfl
theorem eq_Table {a : (List UInt8) × (Int × (List (List Int)))} (h : sm_Table a) : laws_eqTable a a = some true := by
  simp [laws_eqTable, eq_Relation (h.2), obind]
theorem sz_Table {a : (List UInt8) × (Int × (List (List Int)))} (k : ok206 a) {left : Int} (h : 0 ≤ left ∧ left ≤ 1048576) : SzR left (laws_szTable a left) (sm_Table a) := by
  unfold laws_szTable
  have h0 : 0 ≤ left ∧ left ≤ 1048576 := h
  obtain ⟨v0, e0, p0⟩ := sz_w h0 k.1
  rw [e0]
  rcases p0 with p0 | ⟨p0, q0, s0⟩
  · simp only [obind]; rw [decide_eq_true p0]; exact ⟨-1, rfl, .inl (by omega)⟩
  simp only [obind]
  rw [decide_eq_false (by omega : ¬ v0 < 0)]
  simp only [cond_false]
  have h1 : 0 ≤ v0 ∧ v0 ≤ 1048576 := by omega
  obtain ⟨v1, e1, p1⟩ := sz_Relation (k.2) h1
  rw [e1]
  rcases p1 with p1 | ⟨p1, q1, s1⟩
  · simp only [obind]; rw [decide_eq_true p1]; exact ⟨-1, rfl, .inl (by omega)⟩
  simp only [obind]
  rw [decide_eq_false (by omega : ¬ v1 < 0)]
  simp only [cond_false]
  exact ⟨v1, rfl, .inr ⟨by omega, q1, s0, s1⟩⟩
def sm_TableS (a : List ((List UInt8) × (Int × (List (List Int))))) : Prop := List.length a ≤ 1048576 ∧ ∀ e ∈ a, sm_Table e
theorem to_TableS {a : List ((List UInt8) × (Int × (List (List Int))))} (h : sm_TableS a) : laws_toTableS a = some a := by
  unfold laws_toTableS
  rw [chk_pos (make_ok (sm_lim h.1)), to_loop (a := a) (g := laws_toTable) (h := id) (fun _ _ _ => rfl) (fun e he => to_Table (h.2 e he)) (sm_lim h.1)]
  simp only [obind, List.map_id]
theorem eq_TableS {a : List ((List UInt8) × (Int × (List (List Int))))} (h : sm_TableS a) : laws_eqTableS a a = some true := by
  unfold laws_eqTableS
  rw [eq_loop (B := laws_eqTableS_B1 a a) (a := a) (g := laws_eqTable) (fun _ _ => rfl) (fun e he => eq_Table (h.2 e he)) (sm_lim h.1)]
  simp [obind]
theorem sz_TableS {a : List ((List UInt8) × (Int × (List (List Int))))} (k : ok22 a) {left : Int} (h : 0 ≤ left ∧ left ≤ 1048576) : SzR left (laws_szTableS a left) (sm_TableS a) := sz_list (B := laws_szTableS_B1 a) (g := laws_szTable) (fun _ _ _ => rfl) (fun e he left h => sz_Table (k.2 e he) h) h k.1
def sm_Database (a : (List ((List UInt8) × (Int × (List (List Int)))))) : Prop := sm_TableS a
theorem to_Database {a : (List ((List UInt8) × (Int × (List (List Int)))))} (h : sm_Database a) : laws_toDatabase a = some a := by
  unfold laws_toDatabase
  simp only [to_TableS (h), obind] <;> rfl
theorem eq_Database {a : (List ((List UInt8) × (Int × (List (List Int)))))} (h : sm_Database a) : laws_eqDatabase a a = some true := by
  simp [laws_eqDatabase, eq_TableS (h), obind]
theorem sz_Database {a : (List ((List UInt8) × (Int × (List (List Int)))))} (k : ok24 a) {left : Int} (h : 0 ≤ left ∧ left ≤ 1048576) : SzR left (laws_szDatabase a left) (sm_Database a) := by
  unfold laws_szDatabase
  have h0 : 0 ≤ left ∧ left ≤ 1048576 := h
  obtain ⟨v0, e0, p0⟩ := sz_TableS (k) h0
  rw [e0]
  rcases p0 with p0 | ⟨p0, q0, s0⟩
  · simp only [obind]; rw [decide_eq_true p0]; exact ⟨-1, rfl, .inl (by omega)⟩
  simp only [obind]
  rw [decide_eq_false (by omega : ¬ v0 < 0)]
  simp only [cond_false]
  exact ⟨v0, rfl, .inr ⟨by omega, q0, s0⟩⟩
def sm_FunctionalDependency (a : (List UInt8) × (List Int) × Int) : Prop := List.length a.1 ≤ 1048576 ∧ sm_IntS a.2.1
theorem to_FunctionalDependency {a : (List UInt8) × (List Int) × Int} (h : sm_FunctionalDependency a) : laws_toFunctionalDependency a = some a := by
  unfold laws_toFunctionalDependency
  simp only [to_IntS (h.2), obind] <;> rfl
theorem eq_FunctionalDependency {a : (List UInt8) × (List Int) × Int} (h : sm_FunctionalDependency a) : laws_eqFunctionalDependency a a = some true := by
  simp [laws_eqFunctionalDependency, eq_IntS (h.2), obind]
theorem sz_FunctionalDependency {a : (List UInt8) × (List Int) × Int} (k : ok27 a) {left : Int} (h : 0 ≤ left ∧ left ≤ 1048576) : SzR left (laws_szFunctionalDependency a left) (sm_FunctionalDependency a) := by
  unfold laws_szFunctionalDependency
  have h0 : 0 ≤ left ∧ left ≤ 1048576 := h
  obtain ⟨v0, e0, p0⟩ := sz_w h0 k.1
  rw [e0]
  rcases p0 with p0 | ⟨p0, q0, s0⟩
  · simp only [obind]; rw [decide_eq_true p0]; exact ⟨-1, rfl, .inl (by omega)⟩
  simp only [obind]
  rw [decide_eq_false (by omega : ¬ v0 < 0)]
  simp only [cond_false]
  have h1 : 0 ≤ v0 ∧ v0 ≤ 1048576 := by omega
  obtain ⟨v1, e1, p1⟩ := sz_IntS (k.2.1) h1
  rw [e1]
  rcases p1 with p1 | ⟨p1, q1, s1⟩
  · simp only [obind]; rw [decide_eq_true p1]; exact ⟨-1, rfl, .inl (by omega)⟩
  simp only [obind]
  rw [decide_eq_false (by omega : ¬ v1 < 0)]
  simp only [cond_false]
  exact ⟨v1, rfl, .inr ⟨by omega, q1, s0, s1⟩⟩
theorem cb_IntS {a : List Int} (h : sm_IntS a) : ce25 a ≤ 1048576 := Nat.le_trans (cntL_le (C := 1048576) (B := 1) a (show _ from h) (fun x hx => (Nat.le_refl 1))) (by decide)
theorem cb_IntSS {a : List (List Int)} (h : sm_IntSS a) : ce82 a ≤ 1099511627776 := Nat.le_trans (cntL_le (C := 1048576) (B := 1048576) a (show _ from h.1) (fun x hx => (cb_IntS (h.2 x hx)))) (by decide)
theorem cb_Relation {a : Int × (List (List Int))} (h : sm_Relation a) : ce128 a ≤ 1099511627777 := by
  have b1 := cb_IntSS (a := a.2) h
  unfold ce128
  omega
theorem cb_Table {a : (List UInt8) × (Int × (List (List Int)))} (h : sm_Table a) : ce208 a ≤ 1099511627778 := by
  have b1 := cb_Relation (a := a.2) h.2
  unfold ce208
  omega
theorem cb_TableS {a : List ((List UInt8) × (Int × (List (List Int))))} (h : sm_TableS a) : ce31 a ≤ 1152921504608944128 := Nat.le_trans (cntL_le (C := 1048576) (B := 1099511627778) a (show _ from h.1) (fun x hx => (cb_Table (h.2 x hx)))) (by decide)
theorem cb_Database {a : (List ((List UInt8) × (Int × (List (List Int)))))} (h : sm_Database a) : ce33 a ≤ 1152921504608944128 := by
  have b0 := cb_TableS (a := a) h
  unfold ce33
  omega
theorem cbs_Database {a : (List ((List UInt8) × (Int × (List (List Int)))))} (h : sm_Database a) : cs33 a ≤ 1152921504608944128 := by
  have b0 := cb_TableS (a := a) h
  unfold cs33
  omega
theorem cb_FunctionalDependency {a : (List UInt8) × (List Int) × Int} (h : sm_FunctionalDependency a) : ce35 a ≤ 1048578 := by
  have b1 := cb_IntS (a := a.2.1) h.2
  unfold ce35
  omega
theorem cbs_FunctionalDependency {a : (List UInt8) × (List Int) × Int} (h : sm_FunctionalDependency a) : cs35 a ≤ 1048576 := by
  have b1 := cb_IntS (a := a.2.1) h.2
  unfold cs35
  omega
end Go.Proofs.Ytkcfahfladikkaa
