/-
 The laws' copies, comparisons and size checks on typed data, printed by genlaw.py. No conditions.
-/
import Derived.Test.YtceghmdneadhbaaGreatHlAW1
import Derived.Test.YtceghmdneadhbaaGreatTyAW1
namespace Go.Proofs.YtceghmdneadhbaaGreat
open Go.RowKit
set_option linter.unusedVariables false
set_option linter.unusedSimpArgs false
def sm_IntS (a : List Int) : Prop := List.length a <= 1048576
def tz_IntS (a : List Int) : Nat := List.length a
theorem to_IntS {a : List Int} (h : sm_IntS a) : laws_toIntS a = some a := by
 unfold laws_toIntS
 rw [chk_pos (make_ok (sm_lim (show _ from h))), to_loop (a := a) (g := some) (h := id) (fun _ _ _ => rfl) (fun _ _ => rfl) (sm_lim (show _ from h))]
 simp only [obind, List.map_id]
theorem eq_IntS {a : List Int} (h : sm_IntS a) : laws_eqIntS a a = some true := by
 unfold laws_eqIntS
 rw [eq_loop (B := laws_eqIntS_B1 a a) (a := a) (g := (fun x y => some (x == y))) (fun _ _ => rfl) (fun _ _ => by simp) (sm_lim (show _ from h))]
 simp [obind]
theorem sz_IntS {a : List Int} (k : ok53 a) {left : Int} (h : 0 <= left ∧ left <= 1048576) : SzR left (laws_szIntS a left) (sm_IntS a) (tz_IntS a) := sz_len h k.1
def sm_IntSS (a : List (List Int)) : Prop := List.length a <= 1048576 ∧ ∀ e ∈ a, sm_IntS e
def tz_IntSS (a : List (List Int)) : Nat := List.length a + tzL tz_IntS a
theorem to_IntSS {a : List (List Int)} (h : sm_IntSS a) : laws_toIntSS a = some a := by
 unfold laws_toIntSS
 rw [chk_pos (make_ok (sm_lim h.1)), to_loop (a := a) (g := laws_toIntS) (h := id) (fun _ _ _ => rfl) (fun e he => to_IntS (h.2 e he)) (sm_lim h.1)]
 simp only [obind, List.map_id]
theorem eq_IntSS {a : List (List Int)} (h : sm_IntSS a) : laws_eqIntSS a a = some true := by
 unfold laws_eqIntSS
 rw [eq_loop (B := laws_eqIntSS_B1 a a) (a := a) (g := laws_eqIntS) (fun _ _ => rfl) (fun e he => eq_IntS (h.2 e he)) (sm_lim h.1)]
 simp [obind]
theorem sz_IntSS {a : List (List Int)} (k : ok41 a) {left : Int} (h : 0 <= left ∧ left <= 1048576) : SzR left (laws_szIntSS a left) (sm_IntSS a) (tz_IntSS a) := sz_list (B := laws_szIntSS_B1 a) (g := laws_szIntS) (fun _ _ _ => rfl) (fun e he left h => sz_IntS (k.2 e he) h) h k.1
def sm_Relation (a : Y42) : Prop := sm_IntSS a.2
def tz_Relation (a : Y42) : Nat := tz_IntSS a.2
theorem to_Relation {a : Y42} (h : sm_Relation a) : laws_toRelation a = some a := by
 unfold laws_toRelation
 simp only [to_IntSS (h), obind] <;> rfl
theorem eq_Relation {a : Y42} (h : sm_Relation a) : laws_eqRelation a a = some true := by
 simp [laws_eqRelation, eq_IntSS (h), obind]
theorem sz_Relation {a : Y42} (k : ok166 a) {left : Int} (h : 0 <= left ∧ left <= 1048576) : SzR left (laws_szRelation a left) (sm_Relation a) (tz_Relation a) := by
 unfold laws_szRelation
 have h0 : 0 <= left ∧ left <= 1048576 := h
 obtain ⟨v0, e0, p0⟩ := sz_IntSS (k.2) h0
 rw [e0]
 rcases p0 with p0 | ⟨p0, q0, s0⟩
 ·simp only [obind]; rw [decide_eq_true p0]; exact ⟨-1, rfl, .inl (by omega)⟩
 simp only [obind]
 rw [decide_eq_false (by omega : ¬ v0 < 0)]
 simp only [cond_false]
 exact ⟨v0, rfl, .inr ⟨by unfold tz_Relation; omega, q0, s0⟩⟩
def sm_Table (a : Y167) : Prop := List.length a.1 <= 1048576 ∧ sm_Relation a.2
def tz_Table (a : Y167) : Nat := List.length a.1 + tz_Relation a.2
theorem to_Table {a : Y167} (h : sm_Table a) : laws_toTable a = some a := by
 unfold laws_toTable
 simp only [to_Relation (h.2), obind] <;> rfl
theorem eq_Table {a : Y167} (h : sm_Table a) : laws_eqTable a a = some true := by
 simp [laws_eqTable, eq_Relation (h.2), obind]
theorem sz_Table {a : Y167} (k : ok168 a) {left : Int} (h : 0 <= left ∧ left <= 1048576) : SzR left (laws_szTable a left) (sm_Table a) (tz_Table a) := by
 unfold laws_szTable
 have h0 : 0 <= left ∧ left <= 1048576 := h
 obtain ⟨v0, e0, p0⟩ := sz_w h0 k.1
 rw [e0]
 rcases p0 with p0 | ⟨p0, q0, s0⟩
 ·simp only [obind]; rw [decide_eq_true p0]; exact ⟨-1, rfl, .inl (by omega)⟩
 simp only [obind]
 rw [decide_eq_false (by omega : ¬ v0 < 0)]
 simp only [cond_false]
 have h1 : 0 <= v0 ∧ v0 <= 1048576 := by omega
 obtain ⟨v1, e1, p1⟩ := sz_Relation (k.2) h1
 rw [e1]
 rcases p1 with p1 | ⟨p1, q1, s1⟩
 ·simp only [obind]; rw [decide_eq_true p1]; exact ⟨-1, rfl, .inl (by omega)⟩
 simp only [obind]
 rw [decide_eq_false (by omega : ¬ v1 < 0)]
 simp only [cond_false]
 exact ⟨v1, rfl, .inr ⟨by unfold tz_Table; omega, q1, s0, s1⟩⟩
def sm_TableS (a : List Y167) : Prop := List.length a <= 1048576 ∧ ∀ e ∈ a, sm_Table e
def tz_TableS (a : List Y167) : Nat := List.length a + tzL tz_Table a
theorem to_TableS {a : List Y167} (h : sm_TableS a) : laws_toTableS a = some a := by
 unfold laws_toTableS
 rw [chk_pos (make_ok (sm_lim h.1)), to_loop (a := a) (g := laws_toTable) (h := id) (fun _ _ _ => rfl) (fun e he => to_Table (h.2 e he)) (sm_lim h.1)]
 simp only [obind, List.map_id]
theorem eq_TableS {a : List Y167} (h : sm_TableS a) : laws_eqTableS a a = some true := by
 unfold laws_eqTableS
 rw [eq_loop (B := laws_eqTableS_B1 a a) (a := a) (g := laws_eqTable) (fun _ _ => rfl) (fun e he => eq_Table (h.2 e he)) (sm_lim h.1)]
 simp [obind]
theorem sz_TableS {a : List Y167} (k : ok22 a) {left : Int} (h : 0 <= left ∧ left <= 1048576) : SzR left (laws_szTableS a left) (sm_TableS a) (tz_TableS a) := sz_list (B := laws_szTableS_B1 a) (g := laws_szTable) (fun _ _ _ => rfl) (fun e he left h => sz_Table (k.2 e he) h) h k.1
def sm_Database (a : List Y167) : Prop := sm_TableS a
def tz_Database (a : List Y167) : Nat := tz_TableS a
theorem to_Database {a : List Y167} (h : sm_Database a) : laws_toDatabase a = some a := by
 unfold laws_toDatabase
 simp only [to_TableS (h), obind] <;> rfl
theorem eq_Database {a : List Y167} (h : sm_Database a) : laws_eqDatabase a a = some true := by
 simp [laws_eqDatabase, eq_TableS (h), obind]
theorem sz_Database {a : List Y167} (k : ok24 a) {left : Int} (h : 0 <= left ∧ left <= 1048576) : SzR left (laws_szDatabase a left) (sm_Database a) (tz_Database a) := by
 unfold laws_szDatabase
 have h0 : 0 <= left ∧ left <= 1048576 := h
 obtain ⟨v0, e0, p0⟩ := sz_TableS (k) h0
 rw [e0]
 rcases p0 with p0 | ⟨p0, q0, s0⟩
 ·simp only [obind]; rw [decide_eq_true p0]; exact ⟨-1, rfl, .inl (by omega)⟩
 simp only [obind]
 rw [decide_eq_false (by omega : ¬ v0 < 0)]
 simp only [cond_false]
 exact ⟨v0, rfl, .inr ⟨by unfold tz_Database; omega, q0, s0⟩⟩
def sm_Atom (a : Y147) : Prop := List.length a.1 <= 1048576 ∧ sm_IntS a.2
def tz_Atom (a : Y147) : Nat := List.length a.1 + tz_IntS a.2
theorem to_Atom {a : Y147} (h : sm_Atom a) : laws_toAtom a = some a := by
 unfold laws_toAtom
 simp only [to_IntS (h.2), obind] <;> rfl
theorem eq_Atom {a : Y147} (h : sm_Atom a) : laws_eqAtom a a = some true := by
 simp [laws_eqAtom, eq_IntS (h.2), obind]
theorem sz_Atom {a : Y147} (k : ok161 a) {left : Int} (h : 0 <= left ∧ left <= 1048576) : SzR left (laws_szAtom a left) (sm_Atom a) (tz_Atom a) := by
 unfold laws_szAtom
 have h0 : 0 <= left ∧ left <= 1048576 := h
 obtain ⟨v0, e0, p0⟩ := sz_w h0 k.1
 rw [e0]
 rcases p0 with p0 | ⟨p0, q0, s0⟩
 ·simp only [obind]; rw [decide_eq_true p0]; exact ⟨-1, rfl, .inl (by omega)⟩
 simp only [obind]
 rw [decide_eq_false (by omega : ¬ v0 < 0)]
 simp only [cond_false]
 have h1 : 0 <= v0 ∧ v0 <= 1048576 := by omega
 obtain ⟨v1, e1, p1⟩ := sz_IntS (k.2) h1
 rw [e1]
 rcases p1 with p1 | ⟨p1, q1, s1⟩
 ·simp only [obind]; rw [decide_eq_true p1]; exact ⟨-1, rfl, .inl (by omega)⟩
 simp only [obind]
 rw [decide_eq_false (by omega : ¬ v1 < 0)]
 simp only [cond_false]
 exact ⟨v1, rfl, .inr ⟨by unfold tz_Atom; omega, q1, s0, s1⟩⟩
def sm_AtomS (a : List Y147) : Prop := List.length a <= 1048576 ∧ ∀ e ∈ a, sm_Atom e
def tz_AtomS (a : List Y147) : Nat := List.length a + tzL tz_Atom a
theorem to_AtomS {a : List Y147} (h : sm_AtomS a) : laws_toAtomS a = some a := by
 unfold laws_toAtomS
 rw [chk_pos (make_ok (sm_lim h.1)), to_loop (a := a) (g := laws_toAtom) (h := id) (fun _ _ _ => rfl) (fun e he => to_Atom (h.2 e he)) (sm_lim h.1)]
 simp only [obind, List.map_id]
theorem eq_AtomS {a : List Y147} (h : sm_AtomS a) : laws_eqAtomS a a = some true := by
 unfold laws_eqAtomS
 rw [eq_loop (B := laws_eqAtomS_B1 a a) (a := a) (g := laws_eqAtom) (fun _ _ => rfl) (fun e he => eq_Atom (h.2 e he)) (sm_lim h.1)]
 simp [obind]
theorem sz_AtomS {a : List Y147} (k : ok62 a) {left : Int} (h : 0 <= left ∧ left <= 1048576) : SzR left (laws_szAtomS a left) (sm_AtomS a) (tz_AtomS a) := sz_list (B := laws_szAtomS_B1 a) (g := laws_szAtom) (fun _ _ _ => rfl) (fun e he left h => sz_Atom (k.2 e he) h) h k.1
def sm_Query (a : Y63) : Prop := sm_AtomS a.2.1 ∧ sm_IntS a.2.2
def tz_Query (a : Y63) : Nat := tz_AtomS a.2.1 + tz_IntS a.2.2
theorem to_Query {a : Y63} (h : sm_Query a) : laws_toQuery a = some a := by
 unfold laws_toQuery
 simp only [to_AtomS (h.1), to_IntS (h.2), obind] <;> rfl
theorem eq_Query {a : Y63} (h : sm_Query a) : laws_eqQuery a a = some true := by
 simp [laws_eqQuery, eq_AtomS (h.1), eq_IntS (h.2), obind]
theorem sz_Query {a : Y63} (k : ok64 a) {left : Int} (h : 0 <= left ∧ left <= 1048576) : SzR left (laws_szQuery a left) (sm_Query a) (tz_Query a) := by
 unfold laws_szQuery
 have h0 : 0 <= left ∧ left <= 1048576 := h
 obtain ⟨v0, e0, p0⟩ := sz_AtomS (k.2.1) h0
 rw [e0]
 rcases p0 with p0 | ⟨p0, q0, s0⟩
 ·simp only [obind]; rw [decide_eq_true p0]; exact ⟨-1, rfl, .inl (by omega)⟩
 simp only [obind]
 rw [decide_eq_false (by omega : ¬ v0 < 0)]
 simp only [cond_false]
 have h1 : 0 <= v0 ∧ v0 <= 1048576 := by omega
 obtain ⟨v1, e1, p1⟩ := sz_IntS (k.2.2) h1
 rw [e1]
 rcases p1 with p1 | ⟨p1, q1, s1⟩
 ·simp only [obind]; rw [decide_eq_true p1]; exact ⟨-1, rfl, .inl (by omega)⟩
 simp only [obind]
 rw [decide_eq_false (by omega : ¬ v1 < 0)]
 simp only [cond_false]
 exact ⟨v1, rfl, .inr ⟨by unfold tz_Query; omega, q1, s0, s1⟩⟩
def sm_CountedRelation (a : Y75) : Prop := sm_IntSS a.2.1 ∧ sm_IntS a.2.2
def tz_CountedRelation (a : Y75) : Nat := tz_IntSS a.2.1 + tz_IntS a.2.2
theorem to_CountedRelation {a : Y75} (h : sm_CountedRelation a) : laws_toCountedRelation a = some a := by
 unfold laws_toCountedRelation
 simp only [to_IntSS (h.1), to_IntS (h.2), obind] <;> rfl
theorem eq_CountedRelation {a : Y75} (h : sm_CountedRelation a) : laws_eqCountedRelation a a = some true := by
 simp [laws_eqCountedRelation, eq_IntSS (h.1), eq_IntS (h.2), obind]
theorem sz_CountedRelation {a : Y75} (k : ok115 a) {left : Int} (h : 0 <= left ∧ left <= 1048576) : SzR left (laws_szCountedRelation a left) (sm_CountedRelation a) (tz_CountedRelation a) := by
 unfold laws_szCountedRelation
 have h0 : 0 <= left ∧ left <= 1048576 := h
 obtain ⟨v0, e0, p0⟩ := sz_IntSS (k.2.1) h0
 rw [e0]
 rcases p0 with p0 | ⟨p0, q0, s0⟩
 ·simp only [obind]; rw [decide_eq_true p0]; exact ⟨-1, rfl, .inl (by omega)⟩
 simp only [obind]
 rw [decide_eq_false (by omega : ¬ v0 < 0)]
 simp only [cond_false]
 have h1 : 0 <= v0 ∧ v0 <= 1048576 := by omega
 obtain ⟨v1, e1, p1⟩ := sz_IntS (k.2.2) h1
 rw [e1]
 rcases p1 with p1 | ⟨p1, q1, s1⟩
 ·simp only [obind]; rw [decide_eq_true p1]; exact ⟨-1, rfl, .inl (by omega)⟩
 simp only [obind]
 rw [decide_eq_false (by omega : ¬ v1 < 0)]
 simp only [cond_false]
 exact ⟨v1, rfl, .inr ⟨by unfold tz_CountedRelation; omega, q1, s0, s1⟩⟩
def sm_View (a : Y116) : Prop := sm_Query a.1 ∧ sm_CountedRelation a.2
def tz_View (a : Y116) : Nat := tz_Query a.1 + tz_CountedRelation a.2
theorem to_View {a : Y116} (h : sm_View a) : laws_toView a = some a := by
 unfold laws_toView
 simp only [to_Query (h.1), to_CountedRelation (h.2), obind] <;> rfl
theorem eq_View {a : Y116} (h : sm_View a) : laws_eqView a a = some true := by
 simp [laws_eqView, eq_Query (h.1), eq_CountedRelation (h.2), obind]
theorem sz_View {a : Y116} (k : ok117 a) {left : Int} (h : 0 <= left ∧ left <= 1048576) : SzR left (laws_szView a left) (sm_View a) (tz_View a) := by
 unfold laws_szView
 have h0 : 0 <= left ∧ left <= 1048576 := h
 obtain ⟨v0, e0, p0⟩ := sz_Query (k.1) h0
 rw [e0]
 rcases p0 with p0 | ⟨p0, q0, s0⟩
 ·simp only [obind]; rw [decide_eq_true p0]; exact ⟨-1, rfl, .inl (by omega)⟩
 simp only [obind]
 rw [decide_eq_false (by omega : ¬ v0 < 0)]
 simp only [cond_false]
 have h1 : 0 <= v0 ∧ v0 <= 1048576 := by omega
 obtain ⟨v1, e1, p1⟩ := sz_CountedRelation (k.2) h1
 rw [e1]
 rcases p1 with p1 | ⟨p1, q1, s1⟩
 ·simp only [obind]; rw [decide_eq_true p1]; exact ⟨-1, rfl, .inl (by omega)⟩
 simp only [obind]
 rw [decide_eq_false (by omega : ¬ v1 < 0)]
 simp only [cond_false]
 exact ⟨v1, rfl, .inr ⟨by unfold tz_View; omega, q1, s0, s1⟩⟩
def sm_ViewS (a : List Y116) : Prop := List.length a <= 1048576 ∧ ∀ e ∈ a, sm_View e
def tz_ViewS (a : List Y116) : Nat := List.length a + tzL tz_View a
theorem to_ViewS {a : List Y116} (h : sm_ViewS a) : laws_toViewS a = some a := by
 unfold laws_toViewS
 rw [chk_pos (make_ok (sm_lim h.1)), to_loop (a := a) (g := laws_toView) (h := id) (fun _ _ _ => rfl) (fun e he => to_View (h.2 e he)) (sm_lim h.1)]
 simp only [obind, List.map_id]
theorem eq_ViewS {a : List Y116} (h : sm_ViewS a) : laws_eqViewS a a = some true := by
 unfold laws_eqViewS
 rw [eq_loop (B := laws_eqViewS_B1 a a) (a := a) (g := laws_eqView) (fun _ _ => rfl) (fun e he => eq_View (h.2 e he)) (sm_lim h.1)]
 simp [obind]
theorem sz_ViewS {a : List Y116} (k : ok25 a) {left : Int} (h : 0 <= left ∧ left <= 1048576) : SzR left (laws_szViewS a left) (sm_ViewS a) (tz_ViewS a) := sz_list (B := laws_szViewS_B1 a) (g := laws_szView) (fun _ _ _ => rfl) (fun e he left h => sz_View (k.2 e he) h) h k.1
def sm_CountedRelationS (a : List Y75) : Prop := List.length a <= 1048576 ∧ ∀ e ∈ a, sm_CountedRelation e
def tz_CountedRelationS (a : List Y75) : Nat := List.length a + tzL tz_CountedRelation a
theorem to_CountedRelationS {a : List Y75} (h : sm_CountedRelationS a) : laws_toCountedRelationS a = some a := by
 unfold laws_toCountedRelationS
 rw [chk_pos (make_ok (sm_lim h.1)), to_loop (a := a) (g := laws_toCountedRelation) (h := id) (fun _ _ _ => rfl) (fun e he => to_CountedRelation (h.2 e he)) (sm_lim h.1)]
 simp only [obind, List.map_id]
theorem eq_CountedRelationS {a : List Y75} (h : sm_CountedRelationS a) : laws_eqCountedRelationS a a = some true := by
 unfold laws_eqCountedRelationS
 rw [eq_loop (B := laws_eqCountedRelationS_B1 a a) (a := a) (g := laws_eqCountedRelation) (fun _ _ => rfl) (fun e he => eq_CountedRelation (h.2 e he)) (sm_lim h.1)]
 simp [obind]
theorem sz_CountedRelationS {a : List Y75} (k : ok26 a) {left : Int} (h : 0 <= left ∧ left <= 1048576) : SzR left (laws_szCountedRelationS a left) (sm_CountedRelationS a) (tz_CountedRelationS a) := sz_list (B := laws_szCountedRelationS_B1 a) (g := laws_szCountedRelation) (fun _ _ _ => rfl) (fun e he left h => sz_CountedRelation (k.2 e he) h) h k.1
def sm_Notifier (a : Y27) : Prop := sm_Database a.1 ∧ sm_ViewS a.2.1 ∧ sm_CountedRelationS a.2.2
def tz_Notifier (a : Y27) : Nat := tz_Database a.1 + tz_ViewS a.2.1 + tz_CountedRelationS a.2.2
theorem to_Notifier {a : Y27} (h : sm_Notifier a) : laws_toNotifier a = some a := by
 unfold laws_toNotifier
 simp only [to_Database (h.1), to_ViewS (h.2.1), to_CountedRelationS (h.2.2), obind] <;> rfl
theorem eq_Notifier {a : Y27} (h : sm_Notifier a) : laws_eqNotifier a a = some true := by
 simp [laws_eqNotifier, eq_Database (h.1), eq_ViewS (h.2.1), eq_CountedRelationS (h.2.2), obind]
theorem sz_Notifier {a : Y27} (k : ok28 a) {left : Int} (h : 0 <= left ∧ left <= 1048576) : SzR left (laws_szNotifier a left) (sm_Notifier a) (tz_Notifier a) := by
 unfold laws_szNotifier
 have h0 : 0 <= left ∧ left <= 1048576 := h
 obtain ⟨v0, e0, p0⟩ := sz_Database (k.1) h0
 rw [e0]
 rcases p0 with p0 | ⟨p0, q0, s0⟩
 ·simp only [obind]; rw [decide_eq_true p0]; exact ⟨-1, rfl, .inl (by omega)⟩
 simp only [obind]
 rw [decide_eq_false (by omega : ¬ v0 < 0)]
 simp only [cond_false]
 have h1 : 0 <= v0 ∧ v0 <= 1048576 := by omega
 obtain ⟨v1, e1, p1⟩ := sz_ViewS (k.2.1) h1
 rw [e1]
 rcases p1 with p1 | ⟨p1, q1, s1⟩
 ·simp only [obind]; rw [decide_eq_true p1]; exact ⟨-1, rfl, .inl (by omega)⟩
 simp only [obind]
 rw [decide_eq_false (by omega : ¬ v1 < 0)]
 simp only [cond_false]
 have h2 : 0 <= v1 ∧ v1 <= 1048576 := by omega
 obtain ⟨v2, e2, p2⟩ := sz_CountedRelationS (k.2.2) h2
 rw [e2]
 rcases p2 with p2 | ⟨p2, q2, s2⟩
 ·simp only [obind]; rw [decide_eq_true p2]; exact ⟨-1, rfl, .inl (by omega)⟩
 simp only [obind]
 rw [decide_eq_false (by omega : ¬ v2 < 0)]
 simp only [cond_false]
 exact ⟨v2, rfl, .inr ⟨by unfold tz_Notifier; omega, q2, s0, s1, s2⟩⟩
theorem ct_IntS (a : List Int) : ce53 a <= 64 * tz_IntS a := cntL_tz0 (c := 1) (fun _ => Nat.le_refl 1) (by decide) a
theorem ct_IntSS (a : List (List Int)) : ce41 a <= 64 * tz_IntSS a := cntL_tz (c := 0) (fun x => ct_IntS x) (by decide) a
theorem ct_Relation (a : Y42) : ce43 a <= 64 * tz_Relation a + 1 := by
 have b1 := ct_IntSS a.2
 unfold ce43 tz_Relation
 omega
theorem ct_Table (a : Y119) : ce120 a <= 64 * tz_Table a + 2 := by
 have b1 := ct_Relation a.2
 unfold ce120 tz_Table
 omega
theorem ct_TableS (a : List Y119) : ce31 a <= 64 * tz_TableS a := cntL_tz (c := 2) (fun x => ct_Table x) (by decide) a
theorem cts_Database (a : List Y119) : cs33 a <= 64 * tz_Database a + 0 := by
 have b0 := ct_TableS a
 unfold cs33 tz_Database
 omega
theorem ct_Atom (a : Y147) : ce148 a <= 64 * tz_Atom a + 1 := by
 have b1 := ct_IntS a.2
 unfold ce148 tz_Atom
 omega
theorem ct_AtomS (a : List Y147) : ce52 a <= 64 * tz_AtomS a := cntL_tz (c := 1) (fun x => ct_Atom x) (by decide) a
theorem ct_Query (a : Y54) : ce55 a <= 64 * tz_Query a + 1 := by
 have b1 := ct_AtomS a.2.1
 have b2 := ct_IntS a.2.2
 unfold ce55 tz_Query
 omega
theorem cts_Query (a : Y54) : cs55 a <= 64 * tz_Query a + 0 := by
 have b1 := ct_AtomS a.2.1
 have b2 := ct_IntS a.2.2
 unfold cs55 tz_Query
 omega
theorem ct_CountedRelation (a : Y75) : ce76 a <= 64 * tz_CountedRelation a + 1 := by
 have b1 := ct_IntSS a.2.1
 have b2 := ct_IntS a.2.2
 unfold ce76 tz_CountedRelation
 omega
theorem ct_View (a : Y77) : ce78 a <= 64 * tz_View a + 2 := by
 have b0 := ct_Query a.1
 have b1 := ct_CountedRelation a.2
 unfold ce78 tz_View
 omega
theorem ct_ViewS (a : List Y77) : ce34 a <= 64 * tz_ViewS a := cntL_tz (c := 2) (fun x => ct_View x) (by decide) a
theorem ct_CountedRelationS (a : List Y75) : ce35 a <= 64 * tz_CountedRelationS a := cntL_tz (c := 1) (fun x => ct_CountedRelation x) (by decide) a
theorem cts_Notifier (a : Y36) : cs37 a <= 64 * tz_Notifier a + 0 := by
 have b0 := cts_Database a.1
 have b1 := ct_ViewS a.2.1
 have b2 := ct_CountedRelationS a.2.2
 unfold cs37 tz_Notifier
 omega
theorem hd_IntS {x : List Int} {k : Int} (h : sm_IntS x) (h0 : 0 <= k) (h1 : k + (ce53 x : Int) <= mB) : laws_heldIntS (me53 x k) k = some (k + (ce53 x : Int)) := by
 have hm : mB <= 9223372036854775000 := by unfold mB; omega
 unfold laws_heldIntS me53 ce53
 rw [held_loop (cnt := oneI) (mk := markI) (B := laws_heldIntS_B1 (mkL oneI markI x k)) (sm_lim (show _ from h)) h0 h1 (fun rec x y i hx hy hy2 hi hg => ?_) (fun rec y => ?_)]
 ·rfl
 ·have c1 : oneI x = 1 := rfl
  have e0 : y = y := by omega
  have em : markI x y = y := e0
  rw [em] at hg
  have w0 : IntKind.i64.wrap (y + 1) = y + 1 := wrap_in (by omega)
  have i0 : IntKind.i64.wrap (y) = y := wrap_in (by omega)
  have eT : y + 1 = y + (oneI x : Int) := by omega
  simp only [laws_heldIntS_B1, decide_eq_true hi, hg, cond_true, obind, beq_self_eq_true, Bool.not_true, cond_false, bne_self_eq_false, w0, i0]
  all_goals rw [eT]
 ·simp [laws_heldIntS_B1]
theorem hd_IntSS {x : List (List Int)} {k : Int} (h : sm_IntSS x) (h0 : 0 <= k) (h1 : k + (ce41 x : Int) <= mB) : laws_heldIntSS (me41 x k) k = some (k + (ce41 x : Int)) := by
 have hm : mB <= 9223372036854775000 := by unfold mB; omega
 unfold laws_heldIntSS me41 ce41
 rw [held_loop (cnt := ce53) (mk := me53) (B := laws_heldIntSS_B1 (mkL ce53 me53 x k)) (sm_lim h.1) h0 h1 (fun rec x y i hx hy hy2 hi hg => ?_) (fun rec y => ?_)]
 ·rfl
 ·have hs := h.2 _ hx
  have e0 : y = y := by omega
  have em : me53 x y = me53 x (y) := (congrArg (me53 x) e0)
  rw [em] at hg
  have r0 := hd_IntS (x := x) (k := y) hs (by omega) (by omega)
  have u0 : decide (y + (ce53 x : Int) < 0) = false := decide_eq_false (by omega)
  have eT : y + (ce53 x : Int) = y + (ce53 x : Int) := by omega
  simp only [laws_heldIntSS_B1, decide_eq_true hi, hg, cond_true, obind, beq_self_eq_true, Bool.not_true, cond_false, bne_self_eq_false, r0, u0]
  all_goals rw [eT]
 ·simp [laws_heldIntSS_B1]
theorem hd_TableS {x : List Y119} {k : Int} (h : sm_TableS x) (h0 : 0 <= k) (h1 : k + (ce31 x : Int) <= mB) : laws_heldTableS (me31 x k) k = some (k + (ce31 x : Int)) := by
 have hm : mB <= 9223372036854775000 := by unfold mB; omega
 unfold laws_heldTableS me31 ce31
 rw [held_loop (cnt := ce120) (mk := me120) (B := laws_heldTableS_B1 (mkL ce120 me120 x k)) (sm_lim h.1) h0 h1 (fun rec x y i hx hy hy2 hi hg => ?_) (fun rec y => ?_)]
 ·rfl
 ·have hs := h.2 _ hx
  have c43_1 : ce43 x.2 = 1 + ce41 x.2.2 := rfl
  have c120_2 : ce120 x = 1 + ce43 x.2 := rfl
  have e0 : y = y := by omega
  have e1 : y + ((1 : Nat) : Int) = y + 1 := by omega
  have e2 : y + ((1 : Nat) : Int) + ((1 : Nat) : Int) = y + 1 + 1 := by omega
  have em : me120 x y = (mtx (y), (y + 1, me41 x.2.2 (y + 1 + 1))) := (mk2 (congrArg mtx e0) (mk2 e1 (congrArg (me41 x.2.2) e2)))
  rw [em] at hg
  have t0 := (mtx_s (k := y) (by omega) (by omega)).1
  have w0 : IntKind.i64.wrap (y + 1) = y + 1 := wrap_in (by omega)
  have w1 : IntKind.i64.wrap (y + 1 + 1) = y + 1 + 1 := wrap_in (by omega)
  have i1 : IntKind.i64.wrap (y + 1) = y + 1 := wrap_in (by omega)
  have r2 := hd_IntSS (x := x.2.2) (k := y + 1 + 1) hs.2 (by omega) (by omega)
  have u2 : decide (y + 1 + 1 + (ce41 x.2.2 : Int) < 0) = false := decide_eq_false (by omega)
  have eT : y + 1 + 1 + (ce41 x.2.2 : Int) = y + (ce120 x : Int) := by omega
  simp only [laws_heldTableS_B1, decide_eq_true hi, hg, cond_true, obind, beq_self_eq_true, Bool.not_true, cond_false, bne_self_eq_false, t0, w0, w1, i1, r2, u2]
  all_goals rw [eT]
 ·simp [laws_heldTableS_B1]
theorem hd_Database {x : List Y119} {k : Int} (h : sm_Database x) (h0 : 0 <= k) (h1 : k + (cs33 x : Int) <= mB) : laws_heldDatabase (ms33 x k) k = some (k + (cs33 x : Int)) := by
 have hc : cs33 x = ce31 x := rfl
 have r0 := hd_TableS (x := x) (k := k) h (by omega) (by omega)
 have u0 : decide (k + ((ce31 x : Nat) : Int) < 0) = false := decide_eq_false (by omega)
 have eT : k + ((ce31 x : Nat) : Int) = k + (cs33 x : Int) := by omega
 simp only [laws_heldDatabase, ms33, obind, cond_false, r0, u0]
 all_goals rw [eT]
theorem hd_AtomS {x : List Y147} {k : Int} (h : sm_AtomS x) (h0 : 0 <= k) (h1 : k + (ce52 x : Int) <= mB) : laws_heldAtomS (me52 x k) k = some (k + (ce52 x : Int)) := by
 have hm : mB <= 9223372036854775000 := by unfold mB; omega
 unfold laws_heldAtomS me52 ce52
 rw [held_loop (cnt := ce148) (mk := me148) (B := laws_heldAtomS_B1 (mkL ce148 me148 x k)) (sm_lim h.1) h0 h1 (fun rec x y i hx hy hy2 hi hg => ?_) (fun rec y => ?_)]
 ·rfl
 ·have hs := h.2 _ hx
  have c148_1 : ce148 x = 1 + ce53 x.2 := rfl
  have e0 : y = y := by omega
  have e1 : y + ((1 : Nat) : Int) = y + 1 := by omega
  have em : me148 x y = (mtx (y), me53 x.2 (y + 1)) := (mk2 (congrArg mtx e0) (congrArg (me53 x.2) e1))
  rw [em] at hg
  have t0 := (mtx_s (k := y) (by omega) (by omega)).1
  have w0 : IntKind.i64.wrap (y + 1) = y + 1 := wrap_in (by omega)
  have r1 := hd_IntS (x := x.2) (k := y + 1) hs.2 (by omega) (by omega)
  have u1 : decide (y + 1 + (ce53 x.2 : Int) < 0) = false := decide_eq_false (by omega)
  have eT : y + 1 + (ce53 x.2 : Int) = y + (ce148 x : Int) := by omega
  simp only [laws_heldAtomS_B1, decide_eq_true hi, hg, cond_true, obind, beq_self_eq_true, Bool.not_true, cond_false, bne_self_eq_false, t0, w0, r1, u1]
  all_goals rw [eT]
 ·simp [laws_heldAtomS_B1]
theorem hd_ViewS {x : List Y77} {k : Int} (h : sm_ViewS x) (h0 : 0 <= k) (h1 : k + (ce34 x : Int) <= mB) : laws_heldViewS (me34 x k) k = some (k + (ce34 x : Int)) := by
 have hm : mB <= 9223372036854775000 := by unfold mB; omega
 unfold laws_heldViewS me34 ce34
 rw [held_loop (cnt := ce78) (mk := me78) (B := laws_heldViewS_B1 (mkL ce78 me78 x k)) (sm_lim h.1) h0 h1 (fun rec x y i hx hy hy2 hi hg => ?_) (fun rec y => ?_)]
 ·rfl
 ·have hs := h.2 _ hx
  have c55_1 : ce55 x.1 = 1 + ce52 x.1.2.1 + ce53 x.1.2.2 := rfl
  have c76_2 : ce76 x.2 = 1 + ce41 x.2.2.1 + ce53 x.2.2.2 := rfl
  have c78_3 : ce78 x = ce55 x.1 + ce76 x.2 := rfl
  have e0 : y = y := by omega
  have e1 : y + ((1 : Nat) : Int) = y + 1 := by omega
  have e2 : y + ((1 : Nat) : Int) + ((ce52 x.1.2.1 : Nat) : Int) = y + 1 + (ce52 x.1.2.1 : Int) := by omega
  have e3 : y + ((ce55 x.1 : Nat) : Int) = y + 1 + (ce52 x.1.2.1 : Int) + (ce53 x.1.2.2 : Int) := by omega
  have e4 : y + ((ce55 x.1 : Nat) : Int) + ((1 : Nat) : Int) = y + 1 + (ce52 x.1.2.1 : Int) + (ce53 x.1.2.2 : Int) + 1 := by omega
  have e5 : y + ((ce55 x.1 : Nat) : Int) + ((1 : Nat) : Int) + ((ce41 x.2.2.1 : Nat) : Int) = y + 1 + (ce52 x.1.2.1 : Int) + (ce53 x.1.2.2 : Int) + 1 + (ce41 x.2.2.1 : Int) := by omega
  have em : me78 x y = ((y, (me52 x.1.2.1 (y + 1), me53 x.1.2.2 (y + 1 + (ce52 x.1.2.1 : Int)))), (y + 1 + (ce52 x.1.2.1 : Int) + (ce53 x.1.2.2 : Int), (me41 x.2.2.1 (y + 1 + (ce52 x.1.2.1 : Int) + (ce53 x.1.2.2 : Int) + 1), me53 x.2.2.2 (y + 1 + (ce52 x.1.2.1 : Int) + (ce53 x.1.2.2 : Int) + 1 + (ce41 x.2.2.1 : Int))))) := (mk2 (mk2 e0 (mk2 (congrArg (me52 x.1.2.1) e1) (congrArg (me53 x.1.2.2) e2))) (mk2 e3 (mk2 (congrArg (me41 x.2.2.1) e4) (congrArg (me53 x.2.2.2) e5))))
  rw [em] at hg
  have w0 : IntKind.i64.wrap (y + 1) = y + 1 := wrap_in (by omega)
  have i0 : IntKind.i64.wrap (y) = y := wrap_in (by omega)
  have r1 := hd_AtomS (x := x.1.2.1) (k := y + 1) hs.1.1 (by omega) (by omega)
  have u1 : decide (y + 1 + (ce52 x.1.2.1 : Int) < 0) = false := decide_eq_false (by omega)
  have r2 := hd_IntS (x := x.1.2.2) (k := y + 1 + (ce52 x.1.2.1 : Int)) hs.1.2 (by omega) (by omega)
  have u2 : decide (y + 1 + (ce52 x.1.2.1 : Int) + (ce53 x.1.2.2 : Int) < 0) = false := decide_eq_false (by omega)
  have w3 : IntKind.i64.wrap (y + 1 + (ce52 x.1.2.1 : Int) + (ce53 x.1.2.2 : Int) + 1) = y + 1 + (ce52 x.1.2.1 : Int) + (ce53 x.1.2.2 : Int) + 1 := wrap_in (by omega)
  have i3 : IntKind.i64.wrap (y + 1 + (ce52 x.1.2.1 : Int) + (ce53 x.1.2.2 : Int)) = y + 1 + (ce52 x.1.2.1 : Int) + (ce53 x.1.2.2 : Int) := wrap_in (by omega)
  have r4 := hd_IntSS (x := x.2.2.1) (k := y + 1 + (ce52 x.1.2.1 : Int) + (ce53 x.1.2.2 : Int) + 1) hs.2.1 (by omega) (by omega)
  have u4 : decide (y + 1 + (ce52 x.1.2.1 : Int) + (ce53 x.1.2.2 : Int) + 1 + (ce41 x.2.2.1 : Int) < 0) = false := decide_eq_false (by omega)
  have r5 := hd_IntS (x := x.2.2.2) (k := y + 1 + (ce52 x.1.2.1 : Int) + (ce53 x.1.2.2 : Int) + 1 + (ce41 x.2.2.1 : Int)) hs.2.2 (by omega) (by omega)
  have u5 : decide (y + 1 + (ce52 x.1.2.1 : Int) + (ce53 x.1.2.2 : Int) + 1 + (ce41 x.2.2.1 : Int) + (ce53 x.2.2.2 : Int) < 0) = false := decide_eq_false (by omega)
  have eT : y + 1 + (ce52 x.1.2.1 : Int) + (ce53 x.1.2.2 : Int) + 1 + (ce41 x.2.2.1 : Int) + (ce53 x.2.2.2 : Int) = y + (ce78 x : Int) := by omega
  simp only [laws_heldViewS_B1, decide_eq_true hi, hg, cond_true, obind, beq_self_eq_true, Bool.not_true, cond_false, bne_self_eq_false, w0, i0, r1, u1, r2, u2, w3, i3, r4, u4, r5, u5]
  all_goals rw [eT]
 ·simp [laws_heldViewS_B1]
theorem hd_CountedRelationS {x : List Y75} {k : Int} (h : sm_CountedRelationS x) (h0 : 0 <= k) (h1 : k + (ce35 x : Int) <= mB) : laws_heldCountedRelationS (me35 x k) k = some (k + (ce35 x : Int)) := by
 have hm : mB <= 9223372036854775000 := by unfold mB; omega
 unfold laws_heldCountedRelationS me35 ce35
 rw [held_loop (cnt := ce76) (mk := me76) (B := laws_heldCountedRelationS_B1 (mkL ce76 me76 x k)) (sm_lim h.1) h0 h1 (fun rec x y i hx hy hy2 hi hg => ?_) (fun rec y => ?_)]
 ·rfl
 ·have hs := h.2 _ hx
  have c76_1 : ce76 x = 1 + ce41 x.2.1 + ce53 x.2.2 := rfl
  have e0 : y = y := by omega
  have e1 : y + ((1 : Nat) : Int) = y + 1 := by omega
  have e2 : y + ((1 : Nat) : Int) + ((ce41 x.2.1 : Nat) : Int) = y + 1 + (ce41 x.2.1 : Int) := by omega
  have em : me76 x y = (y, (me41 x.2.1 (y + 1), me53 x.2.2 (y + 1 + (ce41 x.2.1 : Int)))) := (mk2 e0 (mk2 (congrArg (me41 x.2.1) e1) (congrArg (me53 x.2.2) e2)))
  rw [em] at hg
  have w0 : IntKind.i64.wrap (y + 1) = y + 1 := wrap_in (by omega)
  have i0 : IntKind.i64.wrap (y) = y := wrap_in (by omega)
  have r1 := hd_IntSS (x := x.2.1) (k := y + 1) hs.1 (by omega) (by omega)
  have u1 : decide (y + 1 + (ce41 x.2.1 : Int) < 0) = false := decide_eq_false (by omega)
  have r2 := hd_IntS (x := x.2.2) (k := y + 1 + (ce41 x.2.1 : Int)) hs.2 (by omega) (by omega)
  have u2 : decide (y + 1 + (ce41 x.2.1 : Int) + (ce53 x.2.2 : Int) < 0) = false := decide_eq_false (by omega)
  have eT : y + 1 + (ce41 x.2.1 : Int) + (ce53 x.2.2 : Int) = y + (ce76 x : Int) := by omega
  simp only [laws_heldCountedRelationS_B1, decide_eq_true hi, hg, cond_true, obind, beq_self_eq_true, Bool.not_true, cond_false, bne_self_eq_false, w0, i0, r1, u1, r2, u2]
  all_goals rw [eT]
 ·simp [laws_heldCountedRelationS_B1]
theorem hd_Notifier {x : Y36} {k : Int} (h : sm_Notifier x) (h0 : 0 <= k) (h1 : k + (cs37 x : Int) <= mB) : laws_heldNotifier (ms37 x k) k = some (k + (cs37 x : Int)) := by
 have hc : cs37 x = cs33 x.1 + ce34 x.2.1 + ce35 x.2.2 := rfl
 have r0 := hd_Database (x := x.1) (k := k) h.1 (by omega) (by omega)
 have u0 : decide (k + ((cs33 x.1 : Nat) : Int) < 0) = false := decide_eq_false (by omega)
 have r1 := hd_ViewS (x := x.2.1) (k := k + ((cs33 x.1 : Nat) : Int)) h.2.1 (by omega) (by omega)
 have u1 : decide (k + ((cs33 x.1 : Nat) : Int) + ((ce34 x.2.1 : Nat) : Int) < 0) = false := decide_eq_false (by omega)
 have r2 := hd_CountedRelationS (x := x.2.2) (k := k + ((cs33 x.1 : Nat) : Int) + ((ce34 x.2.1 : Nat) : Int)) h.2.2 (by omega) (by omega)
 have u2 : decide (k + ((cs33 x.1 : Nat) : Int) + ((ce34 x.2.1 : Nat) : Int) + ((ce35 x.2.2 : Nat) : Int) < 0) = false := decide_eq_false (by omega)
 have eT : k + ((cs33 x.1 : Nat) : Int) + ((ce34 x.2.1 : Nat) : Int) + ((ce35 x.2.2 : Nat) : Int) = k + (cs37 x : Int) := by omega
 simp only [laws_heldNotifier, ms37, obind, cond_false, r0, u0, r1, u1, r2, u2]
 all_goals rw [eT]
end Go.Proofs.YtceghmdneadhbaaGreat
