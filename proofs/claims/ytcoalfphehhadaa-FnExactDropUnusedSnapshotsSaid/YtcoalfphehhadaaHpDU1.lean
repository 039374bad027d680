/-
  The laws' copies, comparisons and size checks on typed data, printed by genlaw.py. No conditions.
-/
import Derived.Test.YtcoalfphehhadaaHlDU1
import Derived.Test.YtcoalfphehhadaaTyDU1
namespace Go.Proofs.Ytcoalfphehhadaa
open Go.RowKit
set_option linter.unusedVariables false
set_option linter.unusedSimpArgs false
def sm_IntS (a : List Int) : Prop := List.length a ≤ 1048576
def tz_IntS (a : List Int) : Nat := List.length a
theorem to_IntS {a : List Int} (h : sm_IntS a) : laws_toIntS a = some a := by
  unfold laws_toIntS
  rw [chk_pos (make_ok (sm_lim (show _ from h))), to_loop (a := a) (g := some) (h := id) (fun _ _ _ => rfl) (fun _ _ => rfl) (sm_lim (show _ from h))]
  simp only [obind, List.map_id]
theorem eq_IntS {a : List Int} (h : sm_IntS a) : laws_eqIntS a a = some true := by
  unfold laws_eqIntS
  rw [eq_loop (B := laws_eqIntS_B1 a a) (a := a) (g := (fun x y => some (x == y))) (fun _ _ => rfl) (fun _ _ => by simp) (sm_lim (show _ from h))]
  simp [obind]
theorem sz_IntS {a : List Int} (k : ok60 a) {left : Int} (h : 0 ≤ left ∧ left ≤ 1048576) : SzR left (laws_szIntS a left) (sm_IntS a) (tz_IntS a) := sz_len h k.1
def sm_IntSS (a : List (List Int)) : Prop := List.length a ≤ 1048576 ∧ ∀ e ∈ a, sm_IntS e
def tz_IntSS (a : List (List Int)) : Nat := List.length a + tzL tz_IntS a
theorem to_IntSS {a : List (List Int)} (h : sm_IntSS a) : laws_toIntSS a = some a := by
  unfold laws_toIntSS
  rw [chk_pos (make_ok (sm_lim h.1)), to_loop (a := a) (g := laws_toIntS) (h := id) (fun _ _ _ => rfl) (fun e he => to_IntS (h.2 e he)) (sm_lim h.1)]
  simp only [obind, List.map_id]
theorem eq_IntSS {a : List (List Int)} (h : sm_IntSS a) : laws_eqIntSS a a = some true := by
  unfold laws_eqIntSS
  rw [eq_loop (B := laws_eqIntSS_B1 a a) (a := a) (g := laws_eqIntS) (fun _ _ => rfl) (fun e he => eq_IntS (h.2 e he)) (sm_lim h.1)]
  simp [obind]
theorem sz_IntSS {a : List (List Int)} (k : ok27 a) {left : Int} (h : 0 ≤ left ∧ left ≤ 1048576) : SzR left (laws_szIntSS a left) (sm_IntSS a) (tz_IntSS a) := sz_list (B := laws_szIntSS_B1 a) (g := laws_szIntS) (fun _ _ _ => rfl) (fun e he left h => sz_IntS (k.2 e he) h) h k.1
def sm_Relation (a : Y28) : Prop := sm_IntSS a.2
def tz_Relation (a : Y28) : Nat := tz_IntSS a.2
theorem to_Relation {a : Y28} (h : sm_Relation a) : laws_toRelation a = some a := by
  unfold laws_toRelation
  simp only [to_IntSS (h), obind] <;> rfl
theorem eq_Relation {a : Y28} (h : sm_Relation a) : laws_eqRelation a a = some true := by
  simp [laws_eqRelation, eq_IntSS (h), obind]
theorem sz_Relation {a : Y28} (k : ok182 a) {left : Int} (h : 0 ≤ left ∧ left ≤ 1048576) : SzR left (laws_szRelation a left) (sm_Relation a) (tz_Relation a) := by
  unfold laws_szRelation
  have h0 : 0 ≤ left ∧ left ≤ 1048576 := h
  obtain ⟨v0, e0, p0⟩ := sz_IntSS (k.2) h0
  rw [e0]
  rcases p0 with p0 | ⟨p0, q0, s0⟩
  · simp only [obind]; rw [decide_eq_true p0]; exact ⟨-1, rfl, .inl (by omega)⟩
  simp only [obind]
  rw [decide_eq_false (by omega : ¬ v0 < 0)]
  simp only [cond_false]
  exact ⟨v0, rfl, .inr ⟨by unfold tz_Relation; omega, q0, s0⟩⟩
def sm_Table (a : Y183) : Prop := List.length a.1 ≤ 1048576 ∧ sm_Relation a.2
def tz_Table (a : Y183) : Nat := List.length a.1 + tz_Relation a.2
theorem to_Table {a : Y183} (h : sm_Table a) : laws_toTable a = some a := by
  unfold laws_toTable
  simp only [to_Relation (h.2), obind] <;> rfl
theorem eq_Table {a : Y183} (h : sm_Table a) : laws_eqTable a a = some true := by
  simp [laws_eqTable, eq_Relation (h.2), obind]
theorem sz_Table {a : Y183} (k : ok184 a) {left : Int} (h : 0 ≤ left ∧ left ≤ 1048576) : SzR left (laws_szTable a left) (sm_Table a) (tz_Table a) := by
  unfold laws_szTable
  have h0 : 0 ≤ left ∧ left ≤ 1048576 := h
  obtain ⟨v0, e0, p0⟩ := sz_w h0 k.1
  rw [e0]
  rcases p0 with p0 | ⟨p0, q0, s0⟩
  · simp only [obind]; rw [decide_eq_true p0]; exact ⟨-1, rfl, .inl (by omega)⟩
  simp only [obind]
  rw [decide_eq_false (by omega : ¬ v0 < 0)]
  simp only [cond_false]
  have h1 : 0 ≤ v0 ∧ v0 ≤ 1048576 := by omega
  obtain ⟨v1, e1, p1⟩ := sz_Relation (k.2) h1
  rw [e1]
  rcases p1 with p1 | ⟨p1, q1, s1⟩
  · simp only [obind]; rw [decide_eq_true p1]; exact ⟨-1, rfl, .inl (by omega)⟩
  simp only [obind]
  rw [decide_eq_false (by omega : ¬ v1 < 0)]
  simp only [cond_false]
  exact ⟨v1, rfl, .inr ⟨by unfold tz_Table; omega, q1, s0, s1⟩⟩
def sm_TableS (a : List Y183) : Prop := List.length a ≤ 1048576 ∧ ∀ e ∈ a, sm_Table e
def tz_TableS (a : List Y183) : Nat := List.length a + tzL tz_Table a
theorem to_TableS {a : List Y183} (h : sm_TableS a) : laws_toTableS a = some a := by
  unfold laws_toTableS
  rw [chk_pos (make_ok (sm_lim h.1)), to_loop (a := a) (g := laws_toTable) (h := id) (fun _ _ _ => rfl) (fun e he => to_Table (h.2 e he)) (sm_lim h.1)]
  simp only [obind, List.map_id]
theorem eq_TableS {a : List Y183} (h : sm_TableS a) : laws_eqTableS a a = some true := by
  unfold laws_eqTableS
  rw [eq_loop (B := laws_eqTableS_B1 a a) (a := a) (g := laws_eqTable) (fun _ _ => rfl) (fun e he => eq_Table (h.2 e he)) (sm_lim h.1)]
  simp [obind]
theorem sz_TableS {a : List Y183} (k : ok145 a) {left : Int} (h : 0 ≤ left ∧ left ≤ 1048576) : SzR left (laws_szTableS a left) (sm_TableS a) (tz_TableS a) := sz_list (B := laws_szTableS_B1 a) (g := laws_szTable) (fun _ _ _ => rfl) (fun e he left h => sz_Table (k.2 e he) h) h k.1
def sm_Database (a : List Y183) : Prop := sm_TableS a
def tz_Database (a : List Y183) : Nat := tz_TableS a
theorem to_Database {a : List Y183} (h : sm_Database a) : laws_toDatabase a = some a := by
  unfold laws_toDatabase
  simp only [to_TableS (h), obind] <;> rfl
theorem eq_Database {a : List Y183} (h : sm_Database a) : laws_eqDatabase a a = some true := by
  simp [laws_eqDatabase, eq_TableS (h), obind]
theorem sz_Database {a : List Y183} (k : ok147 a) {left : Int} (h : 0 ≤ left ∧ left ≤ 1048576) : SzR left (laws_szDatabase a left) (sm_Database a) (tz_Database a) := by
  unfold laws_szDatabase
  have h0 : 0 ≤ left ∧ left ≤ 1048576 := h
  obtain ⟨v0, e0, p0⟩ := sz_TableS (k) h0
  rw [e0]
  rcases p0 with p0 | ⟨p0, q0, s0⟩
  · simp only [obind]; rw [decide_eq_true p0]; exact ⟨-1, rfl, .inl (by omega)⟩
  simp only [obind]
  rw [decide_eq_false (by omega : ¬ v0 < 0)]
  simp only [cond_false]
  exact ⟨v0, rfl, .inr ⟨by unfold tz_Database; omega, q0, s0⟩⟩
def sm_DatabaseS (a : List (List Y183)) : Prop := List.length a ≤ 1048576 ∧ ∀ e ∈ a, sm_Database e
def tz_DatabaseS (a : List (List Y183)) : Nat := List.length a + tzL tz_Database a
theorem to_DatabaseS {a : List (List Y183)} (h : sm_DatabaseS a) : laws_toDatabaseS a = some a := by
  unfold laws_toDatabaseS
  rw [chk_pos (make_ok (sm_lim h.1)), to_loop (a := a) (g := laws_toDatabase) (h := id) (fun _ _ _ => rfl) (fun e he => to_Database (h.2 e he)) (sm_lim h.1)]
  simp only [obind, List.map_id]
theorem eq_DatabaseS {a : List (List Y183)} (h : sm_DatabaseS a) : laws_eqDatabaseS a a = some true := by
  unfold laws_eqDatabaseS
  rw [eq_loop (B := laws_eqDatabaseS_B1 a a) (a := a) (g := laws_eqDatabase) (fun _ _ => rfl) (fun e he => eq_Database (h.2 e he)) (sm_lim h.1)]
  simp [obind]
theorem sz_DatabaseS {a : List (List Y183)} (k : ok45 a) {left : Int} (h : 0 ≤ left ∧ left ≤ 1048576) : SzR left (laws_szDatabaseS a left) (sm_DatabaseS a) (tz_DatabaseS a) := sz_list (B := laws_szDatabaseS_B1 a) (g := laws_szDatabase) (fun _ _ _ => rfl) (fun e he left h => sz_Database (k.2 e he) h) h k.1
def sm_History (a : Y46) : Prop := sm_DatabaseS a.2
def tz_History (a : Y46) : Nat := tz_DatabaseS a.2
theorem to_History {a : Y46} (h : sm_History a) : laws_toHistory a = some a := by
  unfold laws_toHistory
  simp only [to_DatabaseS (h), obind] <;> rfl
theorem eq_History {a : Y46} (h : sm_History a) : laws_eqHistory a a = some true := by
  simp [laws_eqHistory, eq_DatabaseS (h), obind]
theorem sz_History {a : Y46} (k : ok47 a) {left : Int} (h : 0 ≤ left ∧ left ≤ 1048576) : SzR left (laws_szHistory a left) (sm_History a) (tz_History a) := by
  unfold laws_szHistory
  have h0 : 0 ≤ left ∧ left ≤ 1048576 := h
  obtain ⟨v0, e0, p0⟩ := sz_DatabaseS (k.2) h0
  rw [e0]
  rcases p0 with p0 | ⟨p0, q0, s0⟩
  · simp only [obind]; rw [decide_eq_true p0]; exact ⟨-1, rfl, .inl (by omega)⟩
  simp only [obind]
  rw [decide_eq_false (by omega : ¬ v0 < 0)]
  simp only [cond_false]
  exact ⟨v0, rfl, .inr ⟨by unfold tz_History; omega, q0, s0⟩⟩
def sm_Atom (a : Y123) : Prop := List.length a.1 ≤ 1048576 ∧ sm_IntS a.2
def tz_Atom (a : Y123) : Nat := List.length a.1 + tz_IntS a.2
theorem to_Atom {a : Y123} (h : sm_Atom a) : laws_toAtom a = some a := by
  unfold laws_toAtom
  simp only [to_IntS (h.2), obind] <;> rfl
theorem eq_Atom {a : Y123} (h : sm_Atom a) : laws_eqAtom a a = some true := by
  simp [laws_eqAtom, eq_IntS (h.2), obind]
theorem sz_Atom {a : Y123} (k : ok186 a) {left : Int} (h : 0 ≤ left ∧ left ≤ 1048576) : SzR left (laws_szAtom a left) (sm_Atom a) (tz_Atom a) := by
  unfold laws_szAtom
  have h0 : 0 ≤ left ∧ left ≤ 1048576 := h
  obtain ⟨v0, e0, p0⟩ := sz_w h0 k.1
  rw [e0]
  rcases p0 with p0 | ⟨p0, q0, s0⟩
  · simp only [obind]; rw [decide_eq_true p0]; exact ⟨-1, rfl, .inl (by omega)⟩
  simp only [obind]
  rw [decide_eq_false (by omega : ¬ v0 < 0)]
  simp only [cond_false]
  have h1 : 0 ≤ v0 ∧ v0 ≤ 1048576 := by omega
  obtain ⟨v1, e1, p1⟩ := sz_IntS (k.2) h1
  rw [e1]
  rcases p1 with p1 | ⟨p1, q1, s1⟩
  · simp only [obind]; rw [decide_eq_true p1]; exact ⟨-1, rfl, .inl (by omega)⟩
  simp only [obind]
  rw [decide_eq_false (by omega : ¬ v1 < 0)]
  simp only [cond_false]
  exact ⟨v1, rfl, .inr ⟨by unfold tz_Atom; omega, q1, s0, s1⟩⟩
def sm_AtomS (a : List Y123) : Prop := List.length a ≤ 1048576 ∧ ∀ e ∈ a, sm_Atom e
def tz_AtomS (a : List Y123) : Nat := List.length a + tzL tz_Atom a
theorem to_AtomS {a : List Y123} (h : sm_AtomS a) : laws_toAtomS a = some a := by
  unfold laws_toAtomS
  rw [chk_pos (make_ok (sm_lim h.1)), to_loop (a := a) (g := laws_toAtom) (h := id) (fun _ _ _ => rfl) (fun e he => to_Atom (h.2 e he)) (sm_lim h.1)]
  simp only [obind, List.map_id]
theorem eq_AtomS {a : List Y123} (h : sm_AtomS a) : laws_eqAtomS a a = some true := by
  unfold laws_eqAtomS
  rw [eq_loop (B := laws_eqAtomS_B1 a a) (a := a) (g := laws_eqAtom) (fun _ _ => rfl) (fun e he => eq_Atom (h.2 e he)) (sm_lim h.1)]
  simp [obind]
theorem sz_AtomS {a : List Y123} (k : ok94 a) {left : Int} (h : 0 ≤ left ∧ left ≤ 1048576) : SzR left (laws_szAtomS a left) (sm_AtomS a) (tz_AtomS a) := sz_list (B := laws_szAtomS_B1 a) (g := laws_szAtom) (fun _ _ _ => rfl) (fun e he left h => sz_Atom (k.2 e he) h) h k.1
def sm_Query (a : Y95) : Prop := sm_AtomS a.2.1 ∧ sm_IntS a.2.2
def tz_Query (a : Y95) : Nat := tz_AtomS a.2.1 + tz_IntS a.2.2
theorem to_Query {a : Y95} (h : sm_Query a) : laws_toQuery a = some a := by
  unfold laws_toQuery
  simp only [to_AtomS (h.1), to_IntS (h.2), obind] <;> rfl
theorem eq_Query {a : Y95} (h : sm_Query a) : laws_eqQuery a a = some true := by
  simp [laws_eqQuery, eq_AtomS (h.1), eq_IntS (h.2), obind]
theorem sz_Query {a : Y95} (k : ok96 a) {left : Int} (h : 0 ≤ left ∧ left ≤ 1048576) : SzR left (laws_szQuery a left) (sm_Query a) (tz_Query a) := by
  unfold laws_szQuery
  have h0 : 0 ≤ left ∧ left ≤ 1048576 := h
  obtain ⟨v0, e0, p0⟩ := sz_AtomS (k.2.1) h0
  rw [e0]
  rcases p0 with p0 | ⟨p0, q0, s0⟩
  · simp only [obind]; rw [decide_eq_true p0]; exact ⟨-1, rfl, .inl (by omega)⟩
  simp only [obind]
  rw [decide_eq_false (by omega : ¬ v0 < 0)]
  simp only [cond_false]
  have h1 : 0 ≤ v0 ∧ v0 ≤ 1048576 := by omega
  obtain ⟨v1, e1, p1⟩ := sz_IntS (k.2.2) h1
  rw [e1]
  rcases p1 with p1 | ⟨p1, q1, s1⟩
  · simp only [obind]; rw [decide_eq_true p1]; exact ⟨-1, rfl, .inl (by omega)⟩
  simp only [obind]
  rw [decide_eq_false (by omega : ¬ v1 < 0)]
  simp only [cond_false]
  exact ⟨v1, rfl, .inr ⟨by unfold tz_Query; omega, q1, s0, s1⟩⟩
def sm_Cursor (a : Y97) : Prop := sm_IntS a.2.1 ∧ sm_IntS a.2.2.1 ∧ sm_Query a.2.2.2
def tz_Cursor (a : Y97) : Nat := tz_IntS a.2.1 + tz_IntS a.2.2.1 + tz_Query a.2.2.2
theorem to_Cursor {a : Y97} (h : sm_Cursor a) : laws_toCursor a = some a := by
  unfold laws_toCursor
  simp only [to_IntS (h.1), to_IntS (h.2.1), to_Query (h.2.2), obind] <;> rfl
theorem eq_Cursor {a : Y97} (h : sm_Cursor a) : laws_eqCursor a a = some true := by
  simp [laws_eqCursor, eq_IntS (h.1), eq_IntS (h.2.1), eq_Query (h.2.2), obind]
theorem sz_Cursor {a : Y97} (k : ok98 a) {left : Int} (h : 0 ≤ left ∧ left ≤ 1048576) : SzR left (laws_szCursor a left) (sm_Cursor a) (tz_Cursor a) := by
  unfold laws_szCursor
  have h0 : 0 ≤ left ∧ left ≤ 1048576 := h
  obtain ⟨v0, e0, p0⟩ := sz_IntS (k.2.1) h0
  rw [e0]
  rcases p0 with p0 | ⟨p0, q0, s0⟩
  · simp only [obind]; rw [decide_eq_true p0]; exact ⟨-1, rfl, .inl (by omega)⟩
  simp only [obind]
  rw [decide_eq_false (by omega : ¬ v0 < 0)]
  simp only [cond_false]
  have h1 : 0 ≤ v0 ∧ v0 ≤ 1048576 := by omega
  obtain ⟨v1, e1, p1⟩ := sz_IntS (k.2.2.1) h1
  rw [e1]
  rcases p1 with p1 | ⟨p1, q1, s1⟩
  · simp only [obind]; rw [decide_eq_true p1]; exact ⟨-1, rfl, .inl (by omega)⟩
  simp only [obind]
  rw [decide_eq_false (by omega : ¬ v1 < 0)]
  simp only [cond_false]
  have h2 : 0 ≤ v1 ∧ v1 ≤ 1048576 := by omega
  obtain ⟨v2, e2, p2⟩ := sz_Query (k.2.2.2) h2
  rw [e2]
  rcases p2 with p2 | ⟨p2, q2, s2⟩
  · simp only [obind]; rw [decide_eq_true p2]; exact ⟨-1, rfl, .inl (by omega)⟩
  simp only [obind]
  rw [decide_eq_false (by omega : ¬ v2 < 0)]
  simp only [cond_false]
  exact ⟨v2, rfl, .inr ⟨by unfold tz_Cursor; omega, q2, s0, s1, s2⟩⟩
def sm_CursorS (a : List Y97) : Prop := List.length a ≤ 1048576 ∧ ∀ e ∈ a, sm_Cursor e
def tz_CursorS (a : List Y97) : Nat := List.length a + tzL tz_Cursor a
theorem to_CursorS {a : List Y97} (h : sm_CursorS a) : laws_toCursorS a = some a := by
  unfold laws_toCursorS
  rw [chk_pos (make_ok (sm_lim h.1)), to_loop (a := a) (g := laws_toCursor) (h := id) (fun _ _ _ => rfl) (fun e he => to_Cursor (h.2 e he)) (sm_lim h.1)]
  simp only [obind, List.map_id]
theorem eq_CursorS {a : List Y97} (h : sm_CursorS a) : laws_eqCursorS a a = some true := by
  unfold laws_eqCursorS
  rw [eq_loop (B := laws_eqCursorS_B1 a a) (a := a) (g := laws_eqCursor) (fun _ _ => rfl) (fun e he => eq_Cursor (h.2 e he)) (sm_lim h.1)]
  simp [obind]
theorem sz_CursorS {a : List Y97} (k : ok48 a) {left : Int} (h : 0 ≤ left ∧ left ≤ 1048576) : SzR left (laws_szCursorS a left) (sm_CursorS a) (tz_CursorS a) := sz_list (B := laws_szCursorS_B1 a) (g := laws_szCursor) (fun _ _ _ => rfl) (fun e he left h => sz_Cursor (k.2 e he) h) h k.1
theorem ct_IntS (a : List Int) : ce60 a ≤ 64 * tz_IntS a := cntL_tz0 (c := 1) (fun _ => Nat.le_refl 1) (by decide) a
theorem ct_IntSS (a : List (List Int)) : ce27 a ≤ 64 * tz_IntSS a := cntL_tz (c := 0) (fun x => ct_IntS x) (by decide) a
theorem ct_Relation (a : Y28) : ce29 a ≤ 64 * tz_Relation a + 1 := by
  have b1 := ct_IntSS a.2
  unfold ce29 tz_Relation
  omega
theorem ct_Table (a : Y82) : ce83 a ≤ 64 * tz_Table a + 2 := by
  have b1 := ct_Relation a.2
  unfold ce83 tz_Table
  omega
theorem ct_TableS (a : List Y82) : ce37 a ≤ 64 * tz_TableS a := cntL_tz (c := 2) (fun x => ct_Table x) (by decide) a
theorem ct_Database (a : List Y82) : ce39 a ≤ 64 * tz_Database a + 0 := by
  have b0 := ct_TableS a
  unfold ce39 tz_Database
  omega
theorem ct_DatabaseS (a : List (List Y82)) : ce24 a ≤ 64 * tz_DatabaseS a := cntL_tz (c := 0) (fun x => ct_Database x) (by decide) a
theorem ct_History (a : Y25) : ce26 a ≤ 64 * tz_History a + 1 := by
  have b1 := ct_DatabaseS a.2
  unfold ce26 tz_History
  omega
theorem cts_History (a : Y25) : cs26 a ≤ 64 * tz_History a + 0 := by
  have b1 := ct_DatabaseS a.2
  unfold cs26 tz_History
  omega
theorem ct_Atom (a : Y123) : ce124 a ≤ 64 * tz_Atom a + 1 := by
  have b1 := ct_IntS a.2
  unfold ce124 tz_Atom
  omega
theorem ct_AtomS (a : List Y123) : ce59 a ≤ 64 * tz_AtomS a := cntL_tz (c := 1) (fun x => ct_Atom x) (by decide) a
theorem ct_Query (a : Y61) : ce62 a ≤ 64 * tz_Query a + 1 := by
  have b1 := ct_AtomS a.2.1
  have b2 := ct_IntS a.2.2
  unfold ce62 tz_Query
  omega
theorem ct_Cursor (a : Y99) : ce100 a ≤ 64 * tz_Cursor a + 2 := by
  have b1 := ct_IntS a.2.1
  have b2 := ct_IntS a.2.2.1
  have b3 := ct_Query a.2.2.2
  unfold ce100 tz_Cursor
  omega
theorem ct_CursorS (a : List Y99) : ce53 a ≤ 64 * tz_CursorS a := cntL_tz (c := 2) (fun x => ct_Cursor x) (by decide) a
theorem cb_IntS {a : List Int} (h : sm_IntS a) : ce60 a ≤ 1048576 := Nat.le_trans (cntL_le (C := 1048576) (B := 1) a (show _ from h) (fun x hx => (Nat.le_refl 1))) (by decide)
theorem cb_IntSS {a : List (List Int)} (h : sm_IntSS a) : ce27 a ≤ 1099511627776 := Nat.le_trans (cntL_le (C := 1048576) (B := 1048576) a (show _ from h.1) (fun x hx => (cb_IntS (h.2 x hx)))) (by decide)
theorem cb_Relation {a : Y28} (h : sm_Relation a) : ce29 a ≤ 1099511627777 := by
  have b1 := cb_IntSS (a := a.2) h
  unfold ce29
  omega
theorem cb_Table {a : Y82} (h : sm_Table a) : ce83 a ≤ 1099511627778 := by
  have b1 := cb_Relation (a := a.2) h.2
  unfold ce83
  omega
theorem cb_TableS {a : List Y82} (h : sm_TableS a) : ce37 a ≤ 1152921504608944128 := Nat.le_trans (cntL_le (C := 1048576) (B := 1099511627778) a (show _ from h.1) (fun x hx => (cb_Table (h.2 x hx)))) (by decide)
theorem cb_Database {a : List Y82} (h : sm_Database a) : ce39 a ≤ 1152921504608944128 := by
  have b0 := cb_TableS (a := a) h
  unfold ce39
  omega
theorem cb_DatabaseS {a : List (List Y82)} (h : sm_DatabaseS a) : ce24 a ≤ 1208925819616828197961728 := Nat.le_trans (cntL_le (C := 1048576) (B := 1152921504608944128) a (show _ from h.1) (fun x hx => (cb_Database (h.2 x hx)))) (by decide)
theorem cb_History {a : Y25} (h : sm_History a) : ce26 a ≤ 1208925819616828197961729 := by
  have b1 := cb_DatabaseS (a := a.2) h
  unfold ce26
  omega
theorem cbs_History {a : Y25} (h : sm_History a) : cs26 a ≤ 1208925819616828197961728 := by
  have b1 := cb_DatabaseS (a := a.2) h
  unfold cs26
  omega
theorem hd_IntS {x : List Int} {k : Int} (h : sm_IntS x) (h0 : 0 ≤ k) (h1 : k + (ce60 x : Int) ≤ mB) : laws_heldIntS (me60 x k) k = some (k + (ce60 x : Int)) := by
  have hm : mB ≤ 9223372036854775000 := by unfold mB; omega
  unfold laws_heldIntS me60 ce60
  rw [held_loop (cnt := oneI) (mk := markI) (B := laws_heldIntS_B1 (mkL oneI markI x k)) (sm_lim (show _ from h)) h0 h1 (fun rec x y i hx hy hy2 hi hg => ?_) (fun rec y => ?_)]
  · rfl
  · have c1 : oneI x = 1 := rfl
    have e0 : y = y := by omega
    have em : markI x y = y := e0
    rw [em] at hg
    have w0 : IntKind.i64.wrap (y + 1) = y + 1 := wrap_in (by omega)
    have i0 : IntKind.i64.wrap (y) = y := wrap_in (by omega)
    have eT : y + 1 = y + (oneI x : Int) := by omega
    simp only [laws_heldIntS_B1, decide_eq_true hi, hg, cond_true, obind, beq_self_eq_true, Bool.not_true, cond_false, bne_self_eq_false, w0, i0]
    all_goals rw [eT]
  · simp [laws_heldIntS_B1]
theorem hd_IntSS {x : List (List Int)} {k : Int} (h : sm_IntSS x) (h0 : 0 ≤ k) (h1 : k + (ce27 x : Int) ≤ mB) : laws_heldIntSS (me27 x k) k = some (k + (ce27 x : Int)) := by
  have hm : mB ≤ 9223372036854775000 := by unfold mB; omega
  unfold laws_heldIntSS me27 ce27
  rw [held_loop (cnt := ce60) (mk := me60) (B := laws_heldIntSS_B1 (mkL ce60 me60 x k)) (sm_lim h.1) h0 h1 (fun rec x y i hx hy hy2 hi hg => ?_) (fun rec y => ?_)]
  · rfl
  · have hs := h.2 _ hx
    have e0 : y = y := by omega
    have em : me60 x y = me60 x (y) := (congrArg (me60 x) e0)
    rw [em] at hg
    have r0 := hd_IntS (x := x) (k := y) hs (by omega) (by omega)
    have u0 : decide (y + (ce60 x : Int) < 0) = false := decide_eq_false (by omega)
    have eT : y + (ce60 x : Int) = y + (ce60 x : Int) := by omega
    simp only [laws_heldIntSS_B1, decide_eq_true hi, hg, cond_true, obind, beq_self_eq_true, Bool.not_true, cond_false, bne_self_eq_false, r0, u0]
    all_goals rw [eT]
  · simp [laws_heldIntSS_B1]
theorem hd_TableS {x : List Y82} {k : Int} (h : sm_TableS x) (h0 : 0 ≤ k) (h1 : k + (ce37 x : Int) ≤ mB) : laws_heldTableS (me37 x k) k = some (k + (ce37 x : Int)) := by
  have hm : mB ≤ 9223372036854775000 := by unfold mB; omega
  unfold laws_heldTableS me37 ce37
  rw [held_loop (cnt := ce83) (mk := me83) (B := laws_heldTableS_B1 (mkL ce83 me83 x k)) (sm_lim h.1) h0 h1 (fun rec x y i hx hy hy2 hi hg => ?_) (fun rec y => ?_)]
  · rfl
  · have hs := h.2 _ hx
    have c29_1 : ce29 x.2 = 1 + ce27 x.2.2 := rfl
    have c83_2 : ce83 x = 1 + ce29 x.2 := rfl
    have e0 : y = y := by omega
    have e1 : y + ((1 : Nat) : Int) = y + 1 := by omega
    have e2 : y + ((1 : Nat) : Int) + ((1 : Nat) : Int) = y + 1 + 1 := by omega
    have em : me83 x y = (mtx (y), (y + 1, me27 x.2.2 (y + 1 + 1))) := (mk2 (congrArg mtx e0) (mk2 e1 (congrArg (me27 x.2.2) e2)))
    rw [em] at hg
    have t0 := (mtx_s (k := y) (by omega) (by omega)).1
    have w0 : IntKind.i64.wrap (y + 1) = y + 1 := wrap_in (by omega)
    have w1 : IntKind.i64.wrap (y + 1 + 1) = y + 1 + 1 := wrap_in (by omega)
    have i1 : IntKind.i64.wrap (y + 1) = y + 1 := wrap_in (by omega)
    have r2 := hd_IntSS (x := x.2.2) (k := y + 1 + 1) hs.2 (by omega) (by omega)
    have u2 : decide (y + 1 + 1 + (ce27 x.2.2 : Int) < 0) = false := decide_eq_false (by omega)
    have eT : y + 1 + 1 + (ce27 x.2.2 : Int) = y + (ce83 x : Int) := by omega
    simp only [laws_heldTableS_B1, decide_eq_true hi, hg, cond_true, obind, beq_self_eq_true, Bool.not_true, cond_false, bne_self_eq_false, t0, w0, w1, i1, r2, u2]
    all_goals rw [eT]
  · simp [laws_heldTableS_B1]
theorem hd_DatabaseS {x : List (List Y82)} {k : Int} (h : sm_DatabaseS x) (h0 : 0 ≤ k) (h1 : k + (ce24 x : Int) ≤ mB) : laws_heldDatabaseS (me24 x k) k = some (k + (ce24 x : Int)) := by
  have hm : mB ≤ 9223372036854775000 := by unfold mB; omega
  unfold laws_heldDatabaseS me24 ce24
  rw [held_loop (cnt := ce39) (mk := me39) (B := laws_heldDatabaseS_B1 (mkL ce39 me39 x k)) (sm_lim h.1) h0 h1 (fun rec x y i hx hy hy2 hi hg => ?_) (fun rec y => ?_)]
  · rfl
  · have hs := h.2 _ hx
    have c39_1 : ce39 x = ce37 x := rfl
    have e0 : y = y := by omega
    have em : me39 x y = me37 x (y) := (congrArg (me37 x) e0)
    rw [em] at hg
    have r0 := hd_TableS (x := x) (k := y) hs (by omega) (by omega)
    have u0 : decide (y + (ce37 x : Int) < 0) = false := decide_eq_false (by omega)
    have eT : y + (ce37 x : Int) = y + (ce39 x : Int) := by omega
    simp only [laws_heldDatabaseS_B1, decide_eq_true hi, hg, cond_true, obind, beq_self_eq_true, Bool.not_true, cond_false, bne_self_eq_false, r0, u0]
    all_goals rw [eT]
  · simp [laws_heldDatabaseS_B1]
theorem hd_History {x : Y25} {k : Int} (h : sm_History x) (h0 : 0 ≤ k) (h1 : k + (cs26 x : Int) ≤ mB) : laws_heldHistory (ms26 x k) k = some (k + (cs26 x : Int)) := by
  have hc : cs26 x = ce24 x.2 := rfl
  have r1 := hd_DatabaseS (x := x.2) (k := k) h (by omega) (by omega)
  have u1 : decide (k + ((ce24 x.2 : Nat) : Int) < 0) = false := decide_eq_false (by omega)
  have eT : k + ((ce24 x.2 : Nat) : Int) = k + (cs26 x : Int) := by omega
  simp only [laws_heldHistory, ms26, obind, cond_false, r1, u1]
  all_goals rw [eT]
end Go.Proofs.Ytcoalfphehhadaa
