/-
  The laws' copies, comparisons and size checks on typed data, printed by genlaw.py. No conditions.
-/
import Derived.Test.YtkmkbpphdalgoaaHlc
import Derived.Test.YtkmkbpphdalgoaaTyc
namespace Go.Proofs.Ytkmkbpphdalgoaa
open Go.RowKit
set_option linter.unusedVariables false
set_option linter.unusedSimpArgs false
def sm_IntS (a : List Int) : Prop := List.length a ≤ 1048576
theorem to_IntS {a : List Int} (h : sm_IntS a) : laws_toIntS a = some a := by
  unfold laws_toIntS
  rw [chk_pos (make_ok (sm_lim (show _ from h))), to_loop (a := a) (g := some) (h := id) (fun _ _ _ => rfl) (fun _ _ => rfl) (sm_lim (show _ from h))]
  simp only [obind, List.map_id]
theorem eq_IntS {a : List Int} (h : sm_IntS a) : laws_eqIntS a a = some true := by
  unfold laws_eqIntS
  rw [eq_loop (B := laws_eqIntS_B1 a a) (a := a) (g := (fun x y => some (x == y))) (fun _ _ => rfl) (fun _ _ => by simp) (sm_lim (show _ from h))]
  simp [obind]
theorem sz_IntS {a : List Int} (k : ok30 a) {left : Int} (h : 0 ≤ left ∧ left ≤ 1048576) : SzR left (laws_szIntS a left) (sm_IntS a) := sz_len h k.1
def sm_Atom (a : (List UInt8) × (List Int)) : Prop := List.length a.1 ≤ 1048576 ∧ sm_IntS a.2
theorem to_Atom {a : (List UInt8) × (List Int)} (h : sm_Atom a) : laws_toAtom a = some a := by
  unfold laws_toAtom
  simp only [to_IntS (h.2), obind] <;> rfl
theorem eq_Atom {a : (List UInt8) × (List Int)} (h : sm_Atom a) : laws_eqAtom a a = some true := by
  simp [laws_eqAtom, eq_IntS (h.2), obind]
theorem sz_Atom {a : (List UInt8) × (List Int)} (k : ok171 a) {left : Int} (h : 0 ≤ left ∧ left ≤ 1048576) : SzR left (laws_szAtom a left) (sm_Atom a) := by
  unfold laws_szAtom
  have h0 : 0 ≤ left ∧ left ≤ 1048576 := h
  obtain ⟨v0, e0, p0⟩ := sz_w h0 k.1
  rw [e0]
  rcases p0 with p0 | ⟨p0, q0, s0⟩
  · simp only [obind]; rw [decide_eq_true p0]; exact ⟨-1, rfl, .inl (by omega)⟩
  simp only [obind]
  rw [decide_eq_false (by omega : ¬ v0 < 0)]
  simp only [cond_false]
  have h1 : 0 ≤ v0 ∧ v0 ≤ 1048576 := by omega
  obtain ⟨v1, e1, p1⟩ := sz_IntS (k.2) h1
  rw [e1]
  rcases p1 with p1 | ⟨p1, q1, s1⟩
  · simp only [obind]; rw [decide_eq_true p1]; exact ⟨-1, rfl, .inl (by omega)⟩
  simp only [obind]
  rw [decide_eq_false (by omega : ¬ v1 < 0)]
  simp only [cond_false]
  exact ⟨v1, rfl, .inr ⟨by omega, q1, s0, s1⟩⟩
def sm_AtomS (a : List ((List UInt8) × (List Int))) : Prop := List.length a ≤ 1048576 ∧ ∀ e ∈ a, sm_Atom e
theorem to_AtomS {a : List ((List UInt8) × (List Int))} (h : sm_AtomS a) : laws_toAtomS a = some a := by
  unfold laws_toAtomS
  rw [chk_pos (make_ok (sm_lim h.1)), to_loop (a := a) (g := laws_toAtom) (h := id) (fun _ _ _ => rfl) (fun e he => to_Atom (h.2 e he)) (sm_lim h.1)]
  simp only [obind, List.map_id]
theorem eq_AtomS {a : List ((List UInt8) × (List Int))} (h : sm_AtomS a) : laws_eqAtomS a a = some true := by
  unfold laws_eqAtomS
  rw [eq_loop (B := laws_eqAtomS_B1 a a) (a := a) (g := laws_eqAtom) (fun _ _ => rfl) (fun e he => eq_Atom (h.2 e he)) (sm_lim h.1)]
  simp [obind]
theorem sz_AtomS {a : List ((List UInt8) × (List Int))} (k : ok48 a) {left : Int} (h : 0 ≤ left ∧ left ≤ 1048576) : SzR left (laws_szAtomS a left) (sm_AtomS a) := sz_list (B := laws_szAtomS_B1 a) (g := laws_szAtom) (fun _ _ _ => rfl) (fun e he left h => sz_Atom (k.2 e he) h) h k.1
def sm_Query (a : Int × (List ((List UInt8) × (List Int))) × (List Int)) : Prop := sm_AtomS a.2.1 ∧ sm_IntS a.2.2
theorem to_Query {a : Int × (List ((List UInt8) × (List Int))) × (List Int)} (h : sm_Query a) : laws_toQuery a = some a := by
  unfold laws_toQuery
  simp only [to_AtomS (h.1), to_IntS (h.2), obind] <;> rfl
theorem eq_Query {a : Int × (List ((List UInt8) × (List Int))) × (List Int)} (h : sm_Query a) : laws_eqQuery a a = some true := by
  simp [laws_eqQuery, eq_AtomS (h.1), eq_IntS (h.2), obind]
theorem sz_Query {a : Int × (List ((List UInt8) × (List Int))) × (List Int)} (k : ok50 a) {left : Int} (h : 0 ≤ left ∧ left ≤ 1048576) : SzR left (laws_szQuery a left) (sm_Query a) := by
  unfold laws_szQuery
  have h0 : 0 ≤ left ∧ left ≤ 1048576 := h
  obtain ⟨v0, e0, p0⟩ := sz_AtomS (k.2.1) h0
  rw [e0]
  rcases p0 with p0 | ⟨p0, q0, s0⟩
  · simp only [obind]; rw [decide_eq_true p0]; exact ⟨-1, rfl, .inl (by omega)⟩
  simp only [obind]
  rw [decide_eq_false (by omega : ¬ v0 < 0)]
  simp only [cond_false]
  have h1 : 0 ≤ v0 ∧ v0 ≤ 1048576 := by omega
  obtain ⟨v1, e1, p1⟩ := sz_IntS (k.2.2) h1
  rw [e1]
  rcases p1 with p1 | ⟨p1, q1, s1⟩
  · simp only [obind]; rw [decide_eq_true p1]; exact ⟨-1, rfl, .inl (by omega)⟩
  simp only [obind]
  rw [decide_eq_false (by omega : ¬ v1 < 0)]
  simp only [cond_false]
  exact ⟨v1, rfl, .inr ⟨by omega, q1, s0, s1⟩⟩
def sm_FunctionalDependency (a : (List UInt8) × (List Int) × Int) : Prop := List.length a.1 ≤ 1048576 ∧ sm_IntS a.2.1
theorem to_FunctionalDependency {a : (List UInt8) × (List Int) × Int} (h : sm_FunctionalDependency a) : laws_toFunctionalDependency a = some a := by
  unfold laws_toFunctionalDependency
  simp only [to_IntS (h.2), obind] <;> rfl
theorem eq_FunctionalDependency {a : (List UInt8) × (List Int) × Int} (h : sm_FunctionalDependency a) : laws_eqFunctionalDependency a a = some true := by
  simp [laws_eqFunctionalDependency, eq_IntS (h.2), obind]
theorem sz_FunctionalDependency {a : (List UInt8) × (List Int) × Int} (k : ok83 a) {left : Int} (h : 0 ≤ left ∧ left ≤ 1048576) : SzR left (laws_szFunctionalDependency a left) (sm_FunctionalDependency a) := by
  unfold laws_szFunctionalDependency
  have h0 : 0 ≤ left ∧ left ≤ 1048576 := h
  obtain ⟨v0, e0, p0⟩ := sz_w h0 k.1
  rw [e0]
  rcases p0 with p0 | ⟨p0, q0, s0⟩
  · simp only [obind]; rw [decide_eq_true p0]; exact ⟨-1, rfl, .inl (by omega)⟩
  simp only [obind]
  rw [decide_eq_false (by omega : ¬ v0 < 0)]
  simp only [cond_false]
  have h1 : 0 ≤ v0 ∧ v0 ≤ 1048576 := by omega
  obtain ⟨v1, e1, p1⟩ := sz_IntS (k.2.1) h1
  rw [e1]
  rcases p1 with p1 | ⟨p1, q1, s1⟩
  · simp only [obind]; rw [decide_eq_true p1]; exact ⟨-1, rfl, .inl (by omega)⟩
  simp only [obind]
  rw [decide_eq_false (by omega : ¬ v1 < 0)]
  simp only [cond_false]
  exact ⟨v1, rfl, .inr ⟨by omega, q1, s0, s1⟩⟩
def sm_FunctionalDependencyS (a : List ((List UInt8) × (List Int) × Int)) : Prop := List.length a ≤ 1048576 ∧ ∀ e ∈ a, sm_FunctionalDependency e
theorem to_FunctionalDependencyS {a : List ((List UInt8) × (List Int) × Int)} (h : sm_FunctionalDependencyS a) : laws_toFunctionalDependencyS a = some a := by
  unfold laws_toFunctionalDependencyS
  rw [chk_pos (make_ok (sm_lim h.1)), to_loop (a := a) (g := laws_toFunctionalDependency) (h := id) (fun _ _ _ => rfl) (fun e he => to_FunctionalDependency (h.2 e he)) (sm_lim h.1)]
  simp only [obind, List.map_id]
theorem eq_FunctionalDependencyS {a : List ((List UInt8) × (List Int) × Int)} (h : sm_FunctionalDependencyS a) : laws_eqFunctionalDependencyS a a = some true := by
  unfold laws_eqFunctionalDependencyS
  rw [eq_loop (B := laws_eqFunctionalDependencyS_B1 a a) (a := a) (g := laws_eqFunctionalDependency) (fun _ _ => rfl) (fun e he => eq_FunctionalDependency (h.2 e he)) (sm_lim h.1)]
  simp [obind]
theorem sz_FunctionalDependencyS {a : List ((List UInt8) × (List Int) × Int)} (k : ok111 a) {left : Int} (h : 0 ≤ left ∧ left ≤ 1048576) : SzR left (laws_szFunctionalDependencyS a left) (sm_FunctionalDependencyS a) := sz_list (B := laws_szFunctionalDependencyS_B1 a) (g := laws_szFunctionalDependency) (fun _ _ _ => rfl) (fun e he left h => sz_FunctionalDependency (k.2 e he) h) h k.1
theorem cb_IntS {a : List Int} (h : sm_IntS a) : ce30 a ≤ 1048576 := Nat.le_trans (cntL_le (C := 1048576) (B := 1) a (show _ from h) (fun x hx => (Nat.le_refl 1))) (by decide)
theorem cb_Atom {a : (List UInt8) × (List Int)} (h : sm_Atom a) : ce150 a ≤ 1048577 := by
  have b1 := cb_IntS (a := a.2) h.2
  unfold ce150
  omega
theorem cb_AtomS {a : List ((List UInt8) × (List Int))} (h : sm_AtomS a) : ce54 a ≤ 1099512676352 := Nat.le_trans (cntL_le (C := 1048576) (B := 1048577) a (show _ from h.1) (fun x hx => (cb_Atom (h.2 x hx)))) (by decide)
theorem cb_Query {a : Int × (List ((List UInt8) × (List Int))) × (List Int)} (h : sm_Query a) : ce56 a ≤ 1099513724929 := by
  have b1 := cb_AtomS (a := a.2.1) h.1
  have b2 := cb_IntS (a := a.2.2) h.2
  unfold ce56
  omega
theorem cbs_Query {a : Int × (List ((List UInt8) × (List Int))) × (List Int)} (h : sm_Query a) : cs56 a ≤ 1099513724928 := by
  have b1 := cb_AtomS (a := a.2.1) h.1
  have b2 := cb_IntS (a := a.2.2) h.2
  unfold cs56
  omega
theorem cb_FunctionalDependency {a : (List UInt8) × (List Int) × Int} (h : sm_FunctionalDependency a) : ce86 a ≤ 1048578 := by
  have b1 := cb_IntS (a := a.2.1) h.2
  unfold ce86
  omega
theorem cb_FunctionalDependencyS {a : List ((List UInt8) × (List Int) × Int)} (h : sm_FunctionalDependencyS a) : ce114 a ≤ 1099513724928 := Nat.le_trans (cntL_le (C := 1048576) (B := 1048578) a (show _ from h.1) (fun x hx => (cb_FunctionalDependency (h.2 x hx)))) (by decide)
end Go.Proofs.Ytkmkbpphdalgoaa
