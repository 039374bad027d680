/-
  The laws' copies, comparisons and size checks on typed data, printed by genlaw.py. No conditions.
-/
import Derived.Test.YtkclaipnejgloaaDoorGenIC1
import Derived.Test.YtkclaipnejgloaaDoorTyIC1
namespace Go.Proofs.YtkclaipnejgloaaDoor
open Go.RowKit
set_option linter.unusedVariables false
set_option linter.unusedSimpArgs false
def sm_IntS (a : List Int) : Prop := List.length a ≤ 1048576
def tz_IntS (a : List Int) : Nat := List.length a
theorem to_IntS {a : List Int} (h : sm_IntS a) : laws_toIntS a = some a := by
  unfold laws_toIntS
  rw [chk_pos (make_ok (sm_lim (show _ from h))), to_loop (a := a) (g := some) (h := id) (fun _ _ _ => rfl) (fun _ _ => rfl) (sm_lim (show _ from h))]
  simp only [obind, List.map_id]
theorem eq_IntS {a : List Int} (h : sm_IntS a) : laws_eqIntS a a = some true := by
  unfold laws_eqIntS
  rw [eq_loop (B := laws_eqIntS_B1 a a) (a := a) (g := (fun x y => some (x == y))) (fun _ _ => rfl) (fun _ _ => by simp) (sm_lim (show _ from h))]
  simp [obind]
theorem sz_IntS {a : List Int} (k : ok23 a) {left : Int} (h : 0 ≤ left ∧ left ≤ 1048576) : SzR left (laws_szIntS a left) (sm_IntS a) (tz_IntS a) := sz_len h k.1
def sm_Atom (a : Y58) : Prop := List.length a.1 ≤ 1048576 ∧ sm_IntS a.2
def tz_Atom (a : Y58) : Nat := List.length a.1 + tz_IntS a.2
theorem to_Atom {a : Y58} (h : sm_Atom a) : laws_toAtom a = some a := by
  unfold laws_toAtom
  simp only [to_IntS (h.2), obind] <;> rfl
theorem eq_Atom {a : Y58} (h : sm_Atom a) : laws_eqAtom a a = some true := by
  simp [laws_eqAtom, eq_IntS (h.2), obind]
theorem sz_Atom {a : Y58} (k : ok59 a) {left : Int} (h : 0 ≤ left ∧ left ≤ 1048576) : SzR left (laws_szAtom a left) (sm_Atom a) (tz_Atom a) := by
  unfold laws_szAtom
  have h0 : 0 ≤ left ∧ left ≤ 1048576 := h
  obtain ⟨v0, e0, p0⟩ := sz_w h0 k.1
  rw [e0]
  rcases p0 with p0 | ⟨p0, q0, s0⟩
  · simp only [obind]; rw [decide_eq_true p0]; exact ⟨-1, rfl, .inl (by omega)⟩
  simp only [obind]
  rw [decide_eq_false (by omega : ¬ v0 < 0)]
  simp only [cond_false]
  have h1 : 0 ≤ v0 ∧ v0 ≤ 1048576 := by omega
  obtain ⟨v1, e1, p1⟩ := sz_IntS (k.2) h1
  rw [e1]
  rcases p1 with p1 | ⟨p1, q1, s1⟩
  · simp only [obind]; rw [decide_eq_true p1]; exact ⟨-1, rfl, .inl (by omega)⟩
  simp only [obind]
  rw [decide_eq_false (by omega : ¬ v1 < 0)]
  simp only [cond_false]
  exact ⟨v1, rfl, .inr ⟨by unfold tz_Atom; omega, q1, s0, s1⟩⟩
def sm_AtomS (a : List Y58) : Prop := List.length a ≤ 1048576 ∧ ∀ e ∈ a, sm_Atom e
def tz_AtomS (a : List Y58) : Nat := List.length a + tzL tz_Atom a
theorem to_AtomS {a : List Y58} (h : sm_AtomS a) : laws_toAtomS a = some a := by
  unfold laws_toAtomS
  rw [chk_pos (make_ok (sm_lim h.1)), to_loop (a := a) (g := laws_toAtom) (h := id) (fun _ _ _ => rfl) (fun e he => to_Atom (h.2 e he)) (sm_lim h.1)]
  simp only [obind, List.map_id]
theorem eq_AtomS {a : List Y58} (h : sm_AtomS a) : laws_eqAtomS a a = some true := by
  unfold laws_eqAtomS
  rw [eq_loop (B := laws_eqAtomS_B1 a a) (a := a) (g := laws_eqAtom) (fun _ _ => rfl) (fun e he => eq_Atom (h.2 e he)) (sm_lim h.1)]
  simp [obind]
theorem sz_AtomS {a : List Y58} (k : ok22 a) {left : Int} (h : 0 ≤ left ∧ left ≤ 1048576) : SzR left (laws_szAtomS a left) (sm_AtomS a) (tz_AtomS a) := sz_list (B := laws_szAtomS_B1 a) (g := laws_szAtom) (fun _ _ _ => rfl) (fun e he left h => sz_Atom (k.2 e he) h) h k.1
def sm_Query (a : Y24) : Prop := sm_AtomS a.2.1 ∧ sm_IntS a.2.2
def tz_Query (a : Y24) : Nat := tz_AtomS a.2.1 + tz_IntS a.2.2
theorem to_Query {a : Y24} (h : sm_Query a) : laws_toQuery a = some a := by
  unfold laws_toQuery
  simp only [to_AtomS (h.1), to_IntS (h.2), obind] <;> rfl
theorem eq_Query {a : Y24} (h : sm_Query a) : laws_eqQuery a a = some true := by
  simp [laws_eqQuery, eq_AtomS (h.1), eq_IntS (h.2), obind]
theorem sz_Query {a : Y24} (k : ok25 a) {left : Int} (h : 0 ≤ left ∧ left ≤ 1048576) : SzR left (laws_szQuery a left) (sm_Query a) (tz_Query a) := by
  unfold laws_szQuery
  have h0 : 0 ≤ left ∧ left ≤ 1048576 := h
  obtain ⟨v0, e0, p0⟩ := sz_AtomS (k.2.1) h0
  rw [e0]
  rcases p0 with p0 | ⟨p0, q0, s0⟩
  · simp only [obind]; rw [decide_eq_true p0]; exact ⟨-1, rfl, .inl (by omega)⟩
  simp only [obind]
  rw [decide_eq_false (by omega : ¬ v0 < 0)]
  simp only [cond_false]
  have h1 : 0 ≤ v0 ∧ v0 ≤ 1048576 := by omega
  obtain ⟨v1, e1, p1⟩ := sz_IntS (k.2.2) h1
  rw [e1]
  rcases p1 with p1 | ⟨p1, q1, s1⟩
  · simp only [obind]; rw [decide_eq_true p1]; exact ⟨-1, rfl, .inl (by omega)⟩
  simp only [obind]
  rw [decide_eq_false (by omega : ¬ v1 < 0)]
  simp only [cond_false]
  exact ⟨v1, rfl, .inr ⟨by unfold tz_Query; omega, q1, s0, s1⟩⟩
theorem to_Rational {a : Y65} : laws_toRational a = some a := rfl
theorem eq_Rational {a : Y65} : laws_eqRational a a = some true := by
  simp [laws_eqRational, obind]
def sm_RationalS (a : List Y65) : Prop := List.length a ≤ 1048576
def tz_RationalS (a : List Y65) : Nat := List.length a
theorem to_RationalS {a : List Y65} (h : sm_RationalS a) : laws_toRationalS a = some a := by
  unfold laws_toRationalS
  rw [chk_pos (make_ok (sm_lim (show _ from h))), to_loop (a := a) (g := laws_toRational) (h := id) (fun _ _ _ => rfl) (fun e he => to_Rational) (sm_lim (show _ from h))]
  simp only [obind, List.map_id]
theorem eq_RationalS {a : List Y65} (h : sm_RationalS a) : laws_eqRationalS a a = some true := by
  unfold laws_eqRationalS
  rw [eq_loop (B := laws_eqRationalS_B1 a a) (a := a) (g := laws_eqRational) (fun _ _ => rfl) (fun e he => eq_Rational) (sm_lim (show _ from h))]
  simp [obind]
theorem sz_RationalS {a : List Y65} (k : ok26 a) {left : Int} (h : 0 ≤ left ∧ left ≤ 1048576) : SzR left (laws_szRationalS a left) (sm_RationalS a) (tz_RationalS a) := sz_len h k.1
def sm_Certificate (a : Y27) : Prop := sm_IntS a.1 ∧ sm_RationalS a.2.1 ∧ sm_IntS a.2.2.1
def tz_Certificate (a : Y27) : Nat := tz_IntS a.1 + tz_RationalS a.2.1 + tz_IntS a.2.2.1
theorem to_Certificate {a : Y27} (h : sm_Certificate a) : laws_toCertificate a = some a := by
  unfold laws_toCertificate
  simp only [to_IntS (h.1), to_RationalS (h.2.1), to_IntS (h.2.2), obind] <;> rfl
theorem eq_Certificate {a : Y27} (h : sm_Certificate a) : laws_eqCertificate a a = some true := by
  simp [laws_eqCertificate, eq_IntS (h.1), eq_RationalS (h.2.1), eq_IntS (h.2.2), obind]
theorem sz_Certificate {a : Y27} (k : ok28 a) {left : Int} (h : 0 ≤ left ∧ left ≤ 1048576) : SzR left (laws_szCertificate a left) (sm_Certificate a) (tz_Certificate a) := by
  unfold laws_szCertificate
  have h0 : 0 ≤ left ∧ left ≤ 1048576 := h
  obtain ⟨v0, e0, p0⟩ := sz_IntS (k.1) h0
  rw [e0]
  rcases p0 with p0 | ⟨p0, q0, s0⟩
  · simp only [obind]; rw [decide_eq_true p0]; exact ⟨-1, rfl, .inl (by omega)⟩
  simp only [obind]
  rw [decide_eq_false (by omega : ¬ v0 < 0)]
  simp only [cond_false]
  have h1 : 0 ≤ v0 ∧ v0 ≤ 1048576 := by omega
  obtain ⟨v1, e1, p1⟩ := sz_RationalS (k.2.1) h1
  rw [e1]
  rcases p1 with p1 | ⟨p1, q1, s1⟩
  · simp only [obind]; rw [decide_eq_true p1]; exact ⟨-1, rfl, .inl (by omega)⟩
  simp only [obind]
  rw [decide_eq_false (by omega : ¬ v1 < 0)]
  simp only [cond_false]
  have h2 : 0 ≤ v1 ∧ v1 ≤ 1048576 := by omega
  obtain ⟨v2, e2, p2⟩ := sz_IntS (k.2.2.1) h2
  rw [e2]
  rcases p2 with p2 | ⟨p2, q2, s2⟩
  · simp only [obind]; rw [decide_eq_true p2]; exact ⟨-1, rfl, .inl (by omega)⟩
  simp only [obind]
  rw [decide_eq_false (by omega : ¬ v2 < 0)]
  simp only [cond_false]
  exact ⟨v2, rfl, .inr ⟨by unfold tz_Certificate; omega, q2, s0, s1, s2⟩⟩
end Go.Proofs.YtkclaipnejgloaaDoor
