/-
  The laws' copies, comparisons and size checks on typed data, printed by genlaw.py. No conditions.
-/
import Derived.Test.YtlknpohjnpnodaaGreatHlAC1
import Derived.Test.YtlknpohjnpnodaaGreatTyAC1
namespace Go.Proofs.YtlknpohjnpnodaaGreat
open Go.RowKit
set_option linter.unusedVariables false
set_option linter.unusedSimpArgs false
def sm_IntS (a : List Int) : Prop := List.length a ≤ 1048576
def tz_IntS (a : List Int) : Nat := List.length a
theorem to_IntS {a : List Int} (h : sm_IntS a) : laws_toIntS a = some a := by
  unfold laws_toIntS
  rw [chk_pos (make_ok (sm_lim (show _ from h))), to_loop (a := a) (g := some) (h := id) (fun _ _ _ => rfl) (fun _ _ => rfl) (sm_lim (show _ from h))]
  simp only [obind, List.map_id]
theorem eq_IntS {a : List Int} (h : sm_IntS a) : laws_eqIntS a a = some true := by
  unfold laws_eqIntS
  rw [eq_loop (B := laws_eqIntS_B1 a a) (a := a) (g := (fun x y => some (x == y))) (fun _ _ => rfl) (fun _ _ => by simp) (sm_lim (show _ from h))]
  simp [obind]
theorem sz_IntS {a : List Int} (k : ok27 a) {left : Int} (h : 0 ≤ left ∧ left ≤ 1048576) : SzR left (laws_szIntS a left) (sm_IntS a) (tz_IntS a) := sz_len h k.1
def sm_IntSS (a : List (List Int)) : Prop := List.length a ≤ 1048576 ∧ ∀ e ∈ a, sm_IntS e
def tz_IntSS (a : List (List Int)) : Nat := List.length a + tzL tz_IntS a
theorem to_IntSS {a : List (List Int)} (h : sm_IntSS a) : laws_toIntSS a = some a := by
  unfold laws_toIntSS
  rw [chk_pos (make_ok (sm_lim h.1)), to_loop (a := a) (g := laws_toIntS) (h := id) (fun _ _ _ => rfl) (fun e he => to_IntS (h.2 e he)) (sm_lim h.1)]
  simp only [obind, List.map_id]
theorem eq_IntSS {a : List (List Int)} (h : sm_IntSS a) : laws_eqIntSS a a = some true := by
  unfold laws_eqIntSS
  rw [eq_loop (B := laws_eqIntSS_B1 a a) (a := a) (g := laws_eqIntS) (fun _ _ => rfl) (fun e he => eq_IntS (h.2 e he)) (sm_lim h.1)]
  simp [obind]
theorem sz_IntSS {a : List (List Int)} (k : ok39 a) {left : Int} (h : 0 ≤ left ∧ left ≤ 1048576) : SzR left (laws_szIntSS a left) (sm_IntSS a) (tz_IntSS a) := sz_list (B := laws_szIntSS_B1 a) (g := laws_szIntS) (fun _ _ _ => rfl) (fun e he left h => sz_IntS (k.2 e he) h) h k.1
def sm_Relation (a : Y40) : Prop := sm_IntSS a.2
def tz_Relation (a : Y40) : Nat := tz_IntSS a.2
theorem to_Relation {a : Y40} (h : sm_Relation a) : laws_toRelation a = some a := by
  unfold laws_toRelation
  simp only [to_IntSS (h), obind] <;> rfl
theorem eq_Relation {a : Y40} (h : sm_Relation a) : laws_eqRelation a a = some true := by
  simp [laws_eqRelation, eq_IntSS (h), obind]
theorem sz_Relation {a : Y40} (k : ok192 a) {left : Int} (h : 0 ≤ left ∧ left ≤ 1048576) : SzR left (laws_szRelation a left) (sm_Relation a) (tz_Relation a) := by
  unfold laws_szRelation
  have h0 : 0 ≤ left ∧ left ≤ 1048576 := h
  obtain ⟨v0, e0, p0⟩ := sz_IntSS (k.2) h0
  rw [e0]
  rcases p0 with p0 | ⟨p0, q0, s0⟩
  · simp only [obind]; rw [decide_eq_true p0]; exact ⟨-1, rfl, .inl (by omega)⟩
  simp only [obind]
  rw [decide_eq_false (by omega : ¬ v0 < 0)]
  simp only [cond_false]
  exact ⟨v0, rfl, .inr ⟨by unfold tz_Relation; omega, q0, s0⟩⟩
def sm_Table (a : Y193) : Prop := List.length a.1 ≤ 1048576 ∧ sm_Relation a.2
def tz_Table (a : Y193) : Nat := List.length a.1 + tz_Relation a.2
theorem to_Table {a : Y193} (h : sm_Table a) : laws_toTable a = some a := by
  unfold laws_toTable
  simp only [to_Relation (h.2), obind] <;> rfl
theorem eq_Table {a : Y193} (h : sm_Table a) : laws_eqTable a a = some true := by
  simp [laws_eqTable, eq_Relation (h.2), obind]
theorem sz_Table {a : Y193} (k : ok194 a) {left : Int} (h : 0 ≤ left ∧ left ≤ 1048576) : SzR left (laws_szTable a left) (sm_Table a) (tz_Table a) := by
  unfold laws_szTable
  have h0 : 0 ≤ left ∧ left ≤ 1048576 := h
  obtain ⟨v0, e0, p0⟩ := sz_w h0 k.1
  rw [e0]
  rcases p0 with p0 | ⟨p0, q0, s0⟩
  · simp only [obind]; rw [decide_eq_true p0]; exact ⟨-1, rfl, .inl (by omega)⟩
  simp only [obind]
  rw [decide_eq_false (by omega : ¬ v0 < 0)]
  simp only [cond_false]
  have h1 : 0 ≤ v0 ∧ v0 ≤ 1048576 := by omega
  obtain ⟨v1, e1, p1⟩ := sz_Relation (k.2) h1
  rw [e1]
  rcases p1 with p1 | ⟨p1, q1, s1⟩
  · simp only [obind]; rw [decide_eq_true p1]; exact ⟨-1, rfl, .inl (by omega)⟩
  simp only [obind]
  rw [decide_eq_false (by omega : ¬ v1 < 0)]
  simp only [cond_false]
  exact ⟨v1, rfl, .inr ⟨by unfold tz_Table; omega, q1, s0, s1⟩⟩
def sm_TableS (a : List Y193) : Prop := List.length a ≤ 1048576 ∧ ∀ e ∈ a, sm_Table e
def tz_TableS (a : List Y193) : Nat := List.length a + tzL tz_Table a
theorem to_TableS {a : List Y193} (h : sm_TableS a) : laws_toTableS a = some a := by
  unfold laws_toTableS
  rw [chk_pos (make_ok (sm_lim h.1)), to_loop (a := a) (g := laws_toTable) (h := id) (fun _ _ _ => rfl) (fun e he => to_Table (h.2 e he)) (sm_lim h.1)]
  simp only [obind, List.map_id]
theorem eq_TableS {a : List Y193} (h : sm_TableS a) : laws_eqTableS a a = some true := by
  unfold laws_eqTableS
  rw [eq_loop (B := laws_eqTableS_B1 a a) (a := a) (g := laws_eqTable) (fun _ _ => rfl) (fun e he => eq_Table (h.2 e he)) (sm_lim h.1)]
  simp [obind]
theorem sz_TableS {a : List Y193} (k : ok130 a) {left : Int} (h : 0 ≤ left ∧ left ≤ 1048576) : SzR left (laws_szTableS a left) (sm_TableS a) (tz_TableS a) := sz_list (B := laws_szTableS_B1 a) (g := laws_szTable) (fun _ _ _ => rfl) (fun e he left h => sz_Table (k.2 e he) h) h k.1
def sm_Database (a : List Y193) : Prop := sm_TableS a
def tz_Database (a : List Y193) : Nat := tz_TableS a
theorem to_Database {a : List Y193} (h : sm_Database a) : laws_toDatabase a = some a := by
  unfold laws_toDatabase
  simp only [to_TableS (h), obind] <;> rfl
theorem eq_Database {a : List Y193} (h : sm_Database a) : laws_eqDatabase a a = some true := by
  simp [laws_eqDatabase, eq_TableS (h), obind]
theorem sz_Database {a : List Y193} (k : ok132 a) {left : Int} (h : 0 ≤ left ∧ left ≤ 1048576) : SzR left (laws_szDatabase a left) (sm_Database a) (tz_Database a) := by
  unfold laws_szDatabase
  have h0 : 0 ≤ left ∧ left ≤ 1048576 := h
  obtain ⟨v0, e0, p0⟩ := sz_TableS (k) h0
  rw [e0]
  rcases p0 with p0 | ⟨p0, q0, s0⟩
  · simp only [obind]; rw [decide_eq_true p0]; exact ⟨-1, rfl, .inl (by omega)⟩
  simp only [obind]
  rw [decide_eq_false (by omega : ¬ v0 < 0)]
  simp only [cond_false]
  exact ⟨v0, rfl, .inr ⟨by unfold tz_Database; omega, q0, s0⟩⟩
def sm_DatabaseS (a : List (List Y193)) : Prop := List.length a ≤ 1048576 ∧ ∀ e ∈ a, sm_Database e
def tz_DatabaseS (a : List (List Y193)) : Nat := List.length a + tzL tz_Database a
theorem to_DatabaseS {a : List (List Y193)} (h : sm_DatabaseS a) : laws_toDatabaseS a = some a := by
  unfold laws_toDatabaseS
  rw [chk_pos (make_ok (sm_lim h.1)), to_loop (a := a) (g := laws_toDatabase) (h := id) (fun _ _ _ => rfl) (fun e he => to_Database (h.2 e he)) (sm_lim h.1)]
  simp only [obind, List.map_id]
theorem eq_DatabaseS {a : List (List Y193)} (h : sm_DatabaseS a) : laws_eqDatabaseS a a = some true := by
  unfold laws_eqDatabaseS
  rw [eq_loop (B := laws_eqDatabaseS_B1 a a) (a := a) (g := laws_eqDatabase) (fun _ _ => rfl) (fun e he => eq_Database (h.2 e he)) (sm_lim h.1)]
  simp [obind]
theorem sz_DatabaseS {a : List (List Y193)} (k : ok52 a) {left : Int} (h : 0 ≤ left ∧ left ≤ 1048576) : SzR left (laws_szDatabaseS a left) (sm_DatabaseS a) (tz_DatabaseS a) := sz_list (B := laws_szDatabaseS_B1 a) (g := laws_szDatabase) (fun _ _ _ => rfl) (fun e he left h => sz_Database (k.2 e he) h) h k.1
def sm_History (a : Y53) : Prop := sm_DatabaseS a.2
def tz_History (a : Y53) : Nat := tz_DatabaseS a.2
theorem to_History {a : Y53} (h : sm_History a) : laws_toHistory a = some a := by
  unfold laws_toHistory
  simp only [to_DatabaseS (h), obind] <;> rfl
theorem eq_History {a : Y53} (h : sm_History a) : laws_eqHistory a a = some true := by
  simp [laws_eqHistory, eq_DatabaseS (h), obind]
theorem sz_History {a : Y53} (k : ok54 a) {left : Int} (h : 0 ≤ left ∧ left ≤ 1048576) : SzR left (laws_szHistory a left) (sm_History a) (tz_History a) := by
  unfold laws_szHistory
  have h0 : 0 ≤ left ∧ left ≤ 1048576 := h
  obtain ⟨v0, e0, p0⟩ := sz_DatabaseS (k.2) h0
  rw [e0]
  rcases p0 with p0 | ⟨p0, q0, s0⟩
  · simp only [obind]; rw [decide_eq_true p0]; exact ⟨-1, rfl, .inl (by omega)⟩
  simp only [obind]
  rw [decide_eq_false (by omega : ¬ v0 < 0)]
  simp only [cond_false]
  exact ⟨v0, rfl, .inr ⟨by unfold tz_History; omega, q0, s0⟩⟩
def sm_Atom (a : Y108) : Prop := List.length a.1 ≤ 1048576 ∧ sm_IntS a.2
def tz_Atom (a : Y108) : Nat := List.length a.1 + tz_IntS a.2
theorem to_Atom {a : Y108} (h : sm_Atom a) : laws_toAtom a = some a := by
  unfold laws_toAtom
  simp only [to_IntS (h.2), obind] <;> rfl
theorem eq_Atom {a : Y108} (h : sm_Atom a) : laws_eqAtom a a = some true := by
  simp [laws_eqAtom, eq_IntS (h.2), obind]
theorem sz_Atom {a : Y108} (k : ok167 a) {left : Int} (h : 0 ≤ left ∧ left ≤ 1048576) : SzR left (laws_szAtom a left) (sm_Atom a) (tz_Atom a) := by
  unfold laws_szAtom
  have h0 : 0 ≤ left ∧ left ≤ 1048576 := h
  obtain ⟨v0, e0, p0⟩ := sz_w h0 k.1
  rw [e0]
  rcases p0 with p0 | ⟨p0, q0, s0⟩
  · simp only [obind]; rw [decide_eq_true p0]; exact ⟨-1, rfl, .inl (by omega)⟩
  simp only [obind]
  rw [decide_eq_false (by omega : ¬ v0 < 0)]
  simp only [cond_false]
  have h1 : 0 ≤ v0 ∧ v0 ≤ 1048576 := by omega
  obtain ⟨v1, e1, p1⟩ := sz_IntS (k.2) h1
  rw [e1]
  rcases p1 with p1 | ⟨p1, q1, s1⟩
  · simp only [obind]; rw [decide_eq_true p1]; exact ⟨-1, rfl, .inl (by omega)⟩
  simp only [obind]
  rw [decide_eq_false (by omega : ¬ v1 < 0)]
  simp only [cond_false]
  exact ⟨v1, rfl, .inr ⟨by unfold tz_Atom; omega, q1, s0, s1⟩⟩
def sm_AtomS (a : List Y108) : Prop := List.length a ≤ 1048576 ∧ ∀ e ∈ a, sm_Atom e
def tz_AtomS (a : List Y108) : Nat := List.length a + tzL tz_Atom a
theorem to_AtomS {a : List Y108} (h : sm_AtomS a) : laws_toAtomS a = some a := by
  unfold laws_toAtomS
  rw [chk_pos (make_ok (sm_lim h.1)), to_loop (a := a) (g := laws_toAtom) (h := id) (fun _ _ _ => rfl) (fun e he => to_Atom (h.2 e he)) (sm_lim h.1)]
  simp only [obind, List.map_id]
theorem eq_AtomS {a : List Y108} (h : sm_AtomS a) : laws_eqAtomS a a = some true := by
  unfold laws_eqAtomS
  rw [eq_loop (B := laws_eqAtomS_B1 a a) (a := a) (g := laws_eqAtom) (fun _ _ => rfl) (fun e he => eq_Atom (h.2 e he)) (sm_lim h.1)]
  simp [obind]
theorem sz_AtomS {a : List Y108} (k : ok55 a) {left : Int} (h : 0 ≤ left ∧ left ≤ 1048576) : SzR left (laws_szAtomS a left) (sm_AtomS a) (tz_AtomS a) := sz_list (B := laws_szAtomS_B1 a) (g := laws_szAtom) (fun _ _ _ => rfl) (fun e he left h => sz_Atom (k.2 e he) h) h k.1
def sm_Query (a : Y56) : Prop := sm_AtomS a.2.1 ∧ sm_IntS a.2.2
def tz_Query (a : Y56) : Nat := tz_AtomS a.2.1 + tz_IntS a.2.2
theorem to_Query {a : Y56} (h : sm_Query a) : laws_toQuery a = some a := by
  unfold laws_toQuery
  simp only [to_AtomS (h.1), to_IntS (h.2), obind] <;> rfl
theorem eq_Query {a : Y56} (h : sm_Query a) : laws_eqQuery a a = some true := by
  simp [laws_eqQuery, eq_AtomS (h.1), eq_IntS (h.2), obind]
theorem sz_Query {a : Y56} (k : ok57 a) {left : Int} (h : 0 ≤ left ∧ left ≤ 1048576) : SzR left (laws_szQuery a left) (sm_Query a) (tz_Query a) := by
  unfold laws_szQuery
  have h0 : 0 ≤ left ∧ left ≤ 1048576 := h
  obtain ⟨v0, e0, p0⟩ := sz_AtomS (k.2.1) h0
  rw [e0]
  rcases p0 with p0 | ⟨p0, q0, s0⟩
  · simp only [obind]; rw [decide_eq_true p0]; exact ⟨-1, rfl, .inl (by omega)⟩
  simp only [obind]
  rw [decide_eq_false (by omega : ¬ v0 < 0)]
  simp only [cond_false]
  have h1 : 0 ≤ v0 ∧ v0 ≤ 1048576 := by omega
  obtain ⟨v1, e1, p1⟩ := sz_IntS (k.2.2) h1
  rw [e1]
  rcases p1 with p1 | ⟨p1, q1, s1⟩
  · simp only [obind]; rw [decide_eq_true p1]; exact ⟨-1, rfl, .inl (by omega)⟩
  simp only [obind]
  rw [decide_eq_false (by omega : ¬ v1 < 0)]
  simp only [cond_false]
  exact ⟨v1, rfl, .inr ⟨by unfold tz_Query; omega, q1, s0, s1⟩⟩
def sm_Cursor (a : Y58) : Prop := sm_IntS a.2.1 ∧ sm_IntS a.2.2.1 ∧ sm_Query a.2.2.2
def tz_Cursor (a : Y58) : Nat := tz_IntS a.2.1 + tz_IntS a.2.2.1 + tz_Query a.2.2.2
theorem to_Cursor {a : Y58} (h : sm_Cursor a) : laws_toCursor a = some a := by
  unfold laws_toCursor
  simp only [to_IntS (h.1), to_IntS (h.2.1), to_Query (h.2.2), obind] <;> rfl
theorem eq_Cursor {a : Y58} (h : sm_Cursor a) : laws_eqCursor a a = some true := by
  simp [laws_eqCursor, eq_IntS (h.1), eq_IntS (h.2.1), eq_Query (h.2.2), obind]
theorem sz_Cursor {a : Y58} (k : ok59 a) {left : Int} (h : 0 ≤ left ∧ left ≤ 1048576) : SzR left (laws_szCursor a left) (sm_Cursor a) (tz_Cursor a) := by
  unfold laws_szCursor
  have h0 : 0 ≤ left ∧ left ≤ 1048576 := h
  obtain ⟨v0, e0, p0⟩ := sz_IntS (k.2.1) h0
  rw [e0]
  rcases p0 with p0 | ⟨p0, q0, s0⟩
  · simp only [obind]; rw [decide_eq_true p0]; exact ⟨-1, rfl, .inl (by omega)⟩
  simp only [obind]
  rw [decide_eq_false (by omega : ¬ v0 < 0)]
  simp only [cond_false]
  have h1 : 0 ≤ v0 ∧ v0 ≤ 1048576 := by omega
  obtain ⟨v1, e1, p1⟩ := sz_IntS (k.2.2.1) h1
  rw [e1]
  rcases p1 with p1 | ⟨p1, q1, s1⟩
  · simp only [obind]; rw [decide_eq_true p1]; exact ⟨-1, rfl, .inl (by omega)⟩
  simp only [obind]
  rw [decide_eq_false (by omega : ¬ v1 < 0)]
  simp only [cond_false]
  have h2 : 0 ≤ v1 ∧ v1 ≤ 1048576 := by omega
  obtain ⟨v2, e2, p2⟩ := sz_Query (k.2.2.2) h2
  rw [e2]
  rcases p2 with p2 | ⟨p2, q2, s2⟩
  · simp only [obind]; rw [decide_eq_true p2]; exact ⟨-1, rfl, .inl (by omega)⟩
  simp only [obind]
  rw [decide_eq_false (by omega : ¬ v2 < 0)]
  simp only [cond_false]
  exact ⟨v2, rfl, .inr ⟨by unfold tz_Cursor; omega, q2, s0, s1, s2⟩⟩
theorem ct_IntS (a : List Int) : ce27 a ≤ 64 * tz_IntS a := cntL_tz0 (c := 1) (fun _ => Nat.le_refl 1) (by decide) a
theorem ct_IntSS (a : List (List Int)) : ce39 a ≤ 64 * tz_IntSS a := cntL_tz (c := 0) (fun x => ct_IntS x) (by decide) a
theorem ct_Relation (a : Y40) : ce41 a ≤ 64 * tz_Relation a + 1 := by
  have b1 := ct_IntSS a.2
  unfold ce41 tz_Relation
  omega
theorem ct_Table (a : Y113) : ce114 a ≤ 64 * tz_Table a + 2 := by
  have b1 := ct_Relation a.2
  unfold ce114 tz_Table
  omega
theorem ct_TableS (a : List Y113) : ce75 a ≤ 64 * tz_TableS a := cntL_tz (c := 2) (fun x => ct_Table x) (by decide) a
theorem ct_Database (a : List Y113) : ce77 a ≤ 64 * tz_Database a + 0 := by
  have b0 := ct_TableS a
  unfold ce77 tz_Database
  omega
theorem ct_DatabaseS (a : List (List Y113)) : ce24 a ≤ 64 * tz_DatabaseS a := cntL_tz (c := 0) (fun x => ct_Database x) (by decide) a
theorem cts_History (a : Y25) : cs26 a ≤ 64 * tz_History a + 0 := by
  have b1 := ct_DatabaseS a.2
  unfold cs26 tz_History
  omega
theorem ct_Atom (a : Y108) : ce109 a ≤ 64 * tz_Atom a + 1 := by
  have b1 := ct_IntS a.2
  unfold ce109 tz_Atom
  omega
theorem ct_AtomS (a : List Y108) : ce28 a ≤ 64 * tz_AtomS a := cntL_tz (c := 1) (fun x => ct_Atom x) (by decide) a
theorem cts_Query (a : Y29) : cs30 a ≤ 64 * tz_Query a + 0 := by
  have b1 := ct_AtomS a.2.1
  have b2 := ct_IntS a.2.2
  unfold cs30 tz_Query
  omega
theorem cts_Cursor (a : Y31) : cs32 a ≤ 64 * tz_Cursor a + 0 := by
  have b1 := ct_IntS a.2.1
  have b2 := ct_IntS a.2.2.1
  have b3 := cts_Query a.2.2.2
  unfold cs32 tz_Cursor
  omega
theorem cb_IntS {a : List Int} (h : sm_IntS a) : ce27 a ≤ 1048576 := Nat.le_trans (cntL_le (C := 1048576) (B := 1) a (show _ from h) (fun x hx => (Nat.le_refl 1))) (by decide)
theorem cb_Atom {a : Y108} (h : sm_Atom a) : ce109 a ≤ 1048577 := by
  have b1 := cb_IntS (a := a.2) h.2
  unfold ce109
  omega
theorem cb_AtomS {a : List Y108} (h : sm_AtomS a) : ce28 a ≤ 1099512676352 := Nat.le_trans (cntL_le (C := 1048576) (B := 1048577) a (show _ from h.1) (fun x hx => (cb_Atom (h.2 x hx)))) (by decide)
theorem cbs_Query {a : Y29} (h : sm_Query a) : cs30 a ≤ 1099513724928 := by
  have b1 := cb_AtomS (a := a.2.1) h.1
  have b2 := cb_IntS (a := a.2.2) h.2
  unfold cs30
  omega
theorem cbs_Cursor {a : Y31} (h : sm_Cursor a) : cs32 a ≤ 1099515822080 := by
  have b1 := cb_IntS (a := a.2.1) h.1
  have b2 := cb_IntS (a := a.2.2.1) h.2.1
  have b3 := cbs_Query (a := a.2.2.2) h.2.2
  unfold cs32
  omega
theorem hd_IntS {x : List Int} {k : Int} (h : sm_IntS x) (h0 : 0 ≤ k) (h1 : k + (ce27 x : Int) ≤ mB) : laws_heldIntS (me27 x k) k = some (k + (ce27 x : Int)) := by
  have hm : mB ≤ 9223372036854775000 := by unfold mB; omega
  unfold laws_heldIntS me27 ce27
  rw [held_loop (cnt := oneI) (mk := markI) (B := laws_heldIntS_B1 (mkL oneI markI x k)) (sm_lim (show _ from h)) h0 h1 (fun rec x y i hx hy hy2 hi hg => ?_) (fun rec y => ?_)]
  · rfl
  · have c1 : oneI x = 1 := rfl
    have e0 : y = y := by omega
    have em : markI x y = y := e0
    rw [em] at hg
    have w0 : IntKind.i64.wrap (y + 1) = y + 1 := wrap_in (by omega)
    have i0 : IntKind.i64.wrap (y) = y := wrap_in (by omega)
    have eT : y + 1 = y + (oneI x : Int) := by omega
    simp only [laws_heldIntS_B1, decide_eq_true hi, hg, cond_true, obind, beq_self_eq_true, Bool.not_true, cond_false, bne_self_eq_false, w0, i0]
    all_goals rw [eT]
  · simp [laws_heldIntS_B1]
theorem hd_AtomS {x : List Y108} {k : Int} (h : sm_AtomS x) (h0 : 0 ≤ k) (h1 : k + (ce28 x : Int) ≤ mB) : laws_heldAtomS (me28 x k) k = some (k + (ce28 x : Int)) := by
  have hm : mB ≤ 9223372036854775000 := by unfold mB; omega
  unfold laws_heldAtomS me28 ce28
  rw [held_loop (cnt := ce109) (mk := me109) (B := laws_heldAtomS_B1 (mkL ce109 me109 x k)) (sm_lim h.1) h0 h1 (fun rec x y i hx hy hy2 hi hg => ?_) (fun rec y => ?_)]
  · rfl
  · have hs := h.2 _ hx
    have c109_1 : ce109 x = 1 + ce27 x.2 := rfl
    have e0 : y = y := by omega
    have e1 : y + ((1 : Nat) : Int) = y + 1 := by omega
    have em : me109 x y = (mtx (y), me27 x.2 (y + 1)) := (mk2 (congrArg mtx e0) (congrArg (me27 x.2) e1))
    rw [em] at hg
    have t0 := (mtx_s (k := y) (by omega) (by omega)).1
    have w0 : IntKind.i64.wrap (y + 1) = y + 1 := wrap_in (by omega)
    have r1 := hd_IntS (x := x.2) (k := y + 1) hs.2 (by omega) (by omega)
    have u1 : decide (y + 1 + (ce27 x.2 : Int) < 0) = false := decide_eq_false (by omega)
    have eT : y + 1 + (ce27 x.2 : Int) = y + (ce109 x : Int) := by omega
    simp only [laws_heldAtomS_B1, decide_eq_true hi, hg, cond_true, obind, beq_self_eq_true, Bool.not_true, cond_false, bne_self_eq_false, t0, w0, r1, u1]
    all_goals rw [eT]
  · simp [laws_heldAtomS_B1]
theorem hd_Query {x : Y29} {k : Int} (h : sm_Query x) (h0 : 0 ≤ k) (h1 : k + (cs30 x : Int) ≤ mB) : laws_heldQuery (ms30 x k) k = some (k + (cs30 x : Int)) := by
  have hc : cs30 x = ce28 x.2.1 + ce27 x.2.2 := rfl
  have r1 := hd_AtomS (x := x.2.1) (k := k) h.1 (by omega) (by omega)
  have u1 : decide (k + ((ce28 x.2.1 : Nat) : Int) < 0) = false := decide_eq_false (by omega)
  have r2 := hd_IntS (x := x.2.2) (k := k + ((ce28 x.2.1 : Nat) : Int)) h.2 (by omega) (by omega)
  have u2 : decide (k + ((ce28 x.2.1 : Nat) : Int) + ((ce27 x.2.2 : Nat) : Int) < 0) = false := decide_eq_false (by omega)
  have eT : k + ((ce28 x.2.1 : Nat) : Int) + ((ce27 x.2.2 : Nat) : Int) = k + (cs30 x : Int) := by omega
  simp only [laws_heldQuery, ms30, obind, cond_false, r1, u1, r2, u2]
  all_goals rw [eT]
theorem hd_Cursor {x : Y31} {k : Int} (h : sm_Cursor x) (h0 : 0 ≤ k) (h1 : k + (cs32 x : Int) ≤ mB) : laws_heldCursor (ms32 x k) k = some (k + (cs32 x : Int)) := by
  have hc : cs32 x = ce27 x.2.1 + ce27 x.2.2.1 + cs30 x.2.2.2 := rfl
  have r1 := hd_IntS (x := x.2.1) (k := k) h.1 (by omega) (by omega)
  have u1 : decide (k + ((ce27 x.2.1 : Nat) : Int) < 0) = false := decide_eq_false (by omega)
  have r2 := hd_IntS (x := x.2.2.1) (k := k + ((ce27 x.2.1 : Nat) : Int)) h.2.1 (by omega) (by omega)
  have u2 : decide (k + ((ce27 x.2.1 : Nat) : Int) + ((ce27 x.2.2.1 : Nat) : Int) < 0) = false := decide_eq_false (by omega)
  have r3 := hd_Query (x := x.2.2.2) (k := k + ((ce27 x.2.1 : Nat) : Int) + ((ce27 x.2.2.1 : Nat) : Int)) h.2.2 (by omega) (by omega)
  have u3 : decide (k + ((ce27 x.2.1 : Nat) : Int) + ((ce27 x.2.2.1 : Nat) : Int) + ((cs30 x.2.2.2 : Nat) : Int) < 0) = false := decide_eq_false (by omega)
  have eT : k + ((ce27 x.2.1 : Nat) : Int) + ((ce27 x.2.2.1 : Nat) : Int) + ((cs30 x.2.2.2 : Nat) : Int) = k + (cs32 x : Int) := by omega
  simp only [laws_heldCursor, ms32, obind, cond_false, r1, u1, r2, u2, r3, u3]
  all_goals rw [eT]
end Go.Proofs.YtlknpohjnpnodaaGreat
