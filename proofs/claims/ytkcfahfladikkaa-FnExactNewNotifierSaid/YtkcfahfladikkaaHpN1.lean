/-
  The laws' copies, comparisons and size checks on typed data, printed by genlaw.py. No conditions.
-/
import Derived.Test.YtkcfahfladikkaaHlN1
import Derived.Test.YtkcfahfladikkaaTyN1
namespace Go.Proofs.Ytkcfahfladikkaa
open Go.RowKit
set_option linter.unusedVariables false
set_option linter.unusedSimpArgs false
def sm_IntS (a : List Int) : Prop := List.length a ≤ 1048576
def tz_IntS (a : List Int) : Nat := List.length a
theorem to_IntS {a : List Int} (h : sm_IntS a) : laws_toIntS a = some a := by
  unfold laws_toIntS
  rw [chk_pos (make_ok (sm_lim (show _ from h))), to_loop (a := a) (g := some) (h := id) (fun _ _ _ => rfl) (fun _ _ => rfl) (sm_lim (show _ from h))]
  simp only [obind, List.map_id]
theorem eq_IntS {a : List Int} (h : sm_IntS a) : laws_eqIntS a a = some true := by
  unfold laws_eqIntS
  rw [eq_loop (B := laws_eqIntS_B1 a a) (a := a) (g := (fun x y => some (x == y))) (fun _ _ => rfl) (fun _ _ => by simp) (sm_lim (show _ from h))]
  simp [obind]
theorem sz_IntS {a : List Int} (k : ok25 a) {left : Int} (h : 0 ≤ left ∧ left ≤ 1048576) : SzR left (laws_szIntS a left) (sm_IntS a) (tz_IntS a) := sz_len h k.1
def sm_IntSS (a : List (List Int)) : Prop := List.length a ≤ 1048576 ∧ ∀ e ∈ a, sm_IntS e
def tz_IntSS (a : List (List Int)) : Nat := List.length a + tzL tz_IntS a
theorem to_IntSS {a : List (List Int)} (h : sm_IntSS a) : laws_toIntSS a = some a := by
  unfold laws_toIntSS
  rw [chk_pos (make_ok (sm_lim h.1)), to_loop (a := a) (g := laws_toIntS) (h := id) (fun _ _ _ => rfl) (fun e he => to_IntS (h.2 e he)) (sm_lim h.1)]
  simp only [obind, List.map_id]
theorem eq_IntSS {a : List (List Int)} (h : sm_IntSS a) : laws_eqIntSS a a = some true := by
  unfold laws_eqIntSS
  rw [eq_loop (B := laws_eqIntSS_B1 a a) (a := a) (g := laws_eqIntS) (fun _ _ => rfl) (fun e he => eq_IntS (h.2 e he)) (sm_lim h.1)]
  simp [obind]
theorem sz_IntSS {a : List (List Int)} (k : ok82 a) {left : Int} (h : 0 ≤ left ∧ left ≤ 1048576) : SzR left (laws_szIntSS a left) (sm_IntSS a) (tz_IntSS a) := sz_list (B := laws_szIntSS_B1 a) (g := laws_szIntS) (fun _ _ _ => rfl) (fun e he left h => sz_IntS (k.2 e he) h) h k.1
def sm_Relation (a : Int × (List (List Int))) : Prop := sm_IntSS a.2
def tz_Relation (a : Int × (List (List Int))) : Nat := tz_IntSS a.2
theorem to_Relation {a : Int × (List (List Int))} (h : sm_Relation a) : laws_toRelation a = some a := by
  unfold laws_toRelation
  simp only [to_IntSS (h), obind] <;> rfl
theorem eq_Relation {a : Int × (List (List Int))} (h : sm_Relation a) : laws_eqRelation a a = some true := by
  simp [laws_eqRelation, eq_IntSS (h), obind]
theorem sz_Relation {a : Int × (List (List Int))} (k : ok204 a) {left : Int} (h : 0 ≤ left ∧ left ≤ 1048576) : SzR left (laws_szRelation a left) (sm_Relation a) (tz_Relation a) := by
  unfold laws_szRelation
  have h0 : 0 ≤ left ∧ left ≤ 1048576 := h
  obtain ⟨v0, e0, p0⟩ := sz_IntSS (k.2) h0
  rw [e0]
  rcases p0 with p0 | ⟨p0, q0, s0⟩
  · simp only [obind]; rw [decide_eq_true p0]; exact ⟨-1, rfl, .inl (by omega)⟩
  simp only [obind]
  rw [decide_eq_false (by omega : ¬ v0 < 0)]
  simp only [cond_false]
  exact ⟨v0, rfl, .inr ⟨by unfold tz_Relation; omega, q0, s0⟩⟩
def sm_Table (a : (List UInt8) × (Int × (List (List Int)))) : Prop := List.length a.1 ≤ 1048576 ∧ sm_Relation a.2
def tz_Table (a : (List UInt8) × (Int × (List (List Int)))) : Nat := List.length a.1 + tz_Relation a.2
theorem to_Table {a : (List UInt8) × (Int × (List (List Int)))} (h : sm_Table a) : laws_toTable a = some a := by
  unfold laws_toTable
  simp only [to_Relation (h.2), obind] <;> rfl
theorem eq_Table {a : (List UInt8) × (Int × (List (List Int)))} (h : sm_Table a) : laws_eqTable a a = some true := by
  simp [laws_eqTable, eq_Relation (h.2), obind]
theorem sz_Table {a : (List UInt8) × (Int × (List (List Int)))} (k : ok206 a) {left : Int} (h : 0 ≤ left ∧ left ≤ 1048576) : SzR left (laws_szTable a left) (sm_Table a) (tz_Table a) := by
  unfold laws_szTable
  have h0 : 0 ≤ left ∧ left ≤ 1048576 := h
  obtain ⟨v0, e0, p0⟩ := sz_w h0 k.1
  rw [e0]
  rcases p0 with p0 | ⟨p0, q0, s0⟩
  · simp only [obind]; rw [decide_eq_true p0]; exact ⟨-1, rfl, .inl (by omega)⟩
  simp only [obind]
  rw [decide_eq_false (by omega : ¬ v0 < 0)]
  simp only [cond_false]
  have h1 : 0 ≤ v0 ∧ v0 ≤ 1048576 := by omega
  obtain ⟨v1, e1, p1⟩ := sz_Relation (k.2) h1
  rw [e1]
  rcases p1 with p1 | ⟨p1, q1, s1⟩
  · simp only [obind]; rw [decide_eq_true p1]; exact ⟨-1, rfl, .inl (by omega)⟩
  simp only [obind]
  rw [decide_eq_false (by omega : ¬ v1 < 0)]
  simp only [cond_false]
  exact ⟨v1, rfl, .inr ⟨by unfold tz_Table; omega, q1, s0, s1⟩⟩
def sm_TableS (a : List ((List UInt8) × (Int × (List (List Int))))) : Prop := List.length a ≤ 1048576 ∧ ∀ e ∈ a, sm_Table e
def tz_TableS (a : List ((List UInt8) × (Int × (List (List Int))))) : Nat := List.length a + tzL tz_Table a
theorem to_TableS {a : List ((List UInt8) × (Int × (List (List Int))))} (h : sm_TableS a) : laws_toTableS a = some a := by
  unfold laws_toTableS
  rw [chk_pos (make_ok (sm_lim h.1)), to_loop (a := a) (g := laws_toTable) (h := id) (fun _ _ _ => rfl) (fun e he => to_Table (h.2 e he)) (sm_lim h.1)]
  simp only [obind, List.map_id]
theorem eq_TableS {a : List ((List UInt8) × (Int × (List (List Int))))} (h : sm_TableS a) : laws_eqTableS a a = some true := by
  unfold laws_eqTableS
  rw [eq_loop (B := laws_eqTableS_B1 a a) (a := a) (g := laws_eqTable) (fun _ _ => rfl) (fun e he => eq_Table (h.2 e he)) (sm_lim h.1)]
  simp [obind]
theorem sz_TableS {a : List ((List UInt8) × (Int × (List (List Int))))} (k : ok22 a) {left : Int} (h : 0 ≤ left ∧ left ≤ 1048576) : SzR left (laws_szTableS a left) (sm_TableS a) (tz_TableS a) := sz_list (B := laws_szTableS_B1 a) (g := laws_szTable) (fun _ _ _ => rfl) (fun e he left h => sz_Table (k.2 e he) h) h k.1
def sm_Database (a : (List ((List UInt8) × (Int × (List (List Int)))))) : Prop := sm_TableS a
def tz_Database (a : (List ((List UInt8) × (Int × (List (List Int)))))) : Nat := tz_TableS a
theorem to_Database {a : (List ((List UInt8) × (Int × (List (List Int)))))} (h : sm_Database a) : laws_toDatabase a = some a := by
  unfold laws_toDatabase
  simp only [to_TableS (h), obind] <;> rfl
theorem eq_Database {a : (List ((List UInt8) × (Int × (List (List Int)))))} (h : sm_Database a) : laws_eqDatabase a a = some true := by
  simp [laws_eqDatabase, eq_TableS (h), obind]
theorem sz_Database {a : (List ((List UInt8) × (Int × (List (List Int)))))} (k : ok24 a) {left : Int} (h : 0 ≤ left ∧ left ≤ 1048576) : SzR left (laws_szDatabase a left) (sm_Database a) (tz_Database a) := by
  unfold laws_szDatabase
  have h0 : 0 ≤ left ∧ left ≤ 1048576 := h
  obtain ⟨v0, e0, p0⟩ := sz_TableS (k) h0
  rw [e0]
  rcases p0 with p0 | ⟨p0, q0, s0⟩
  · simp only [obind]; rw [decide_eq_true p0]; exact ⟨-1, rfl, .inl (by omega)⟩
  simp only [obind]
  rw [decide_eq_false (by omega : ¬ v0 < 0)]
  simp only [cond_false]
  exact ⟨v0, rfl, .inr ⟨by unfold tz_Database; omega, q0, s0⟩⟩
def sm_Atom (a : (List UInt8) × (List Int)) : Prop := List.length a.1 ≤ 1048576 ∧ sm_IntS a.2
def tz_Atom (a : (List UInt8) × (List Int)) : Nat := List.length a.1 + tz_IntS a.2
theorem eq_Atom {a : (List UInt8) × (List Int)} (h : sm_Atom a) : laws_eqAtom a a = some true := by
  simp [laws_eqAtom, eq_IntS (h.2), obind]
def sm_AtomS (a : List ((List UInt8) × (List Int))) : Prop := List.length a ≤ 1048576 ∧ ∀ e ∈ a, sm_Atom e
def tz_AtomS (a : List ((List UInt8) × (List Int))) : Nat := List.length a + tzL tz_Atom a
theorem eq_AtomS {a : List ((List UInt8) × (List Int))} (h : sm_AtomS a) : laws_eqAtomS a a = some true := by
  unfold laws_eqAtomS
  rw [eq_loop (B := laws_eqAtomS_B1 a a) (a := a) (g := laws_eqAtom) (fun _ _ => rfl) (fun e he => eq_Atom (h.2 e he)) (sm_lim h.1)]
  simp [obind]
def sm_Query (a : Int × (List ((List UInt8) × (List Int))) × (List Int)) : Prop := sm_AtomS a.2.1 ∧ sm_IntS a.2.2
def tz_Query (a : Int × (List ((List UInt8) × (List Int))) × (List Int)) : Nat := tz_AtomS a.2.1 + tz_IntS a.2.2
theorem eq_Query {a : Int × (List ((List UInt8) × (List Int))) × (List Int)} (h : sm_Query a) : laws_eqQuery a a = some true := by
  simp [laws_eqQuery, eq_AtomS (h.1), eq_IntS (h.2), obind]
def sm_CountedRelation (a : Int × (List (List Int)) × (List Int)) : Prop := sm_IntSS a.2.1 ∧ sm_IntS a.2.2
def tz_CountedRelation (a : Int × (List (List Int)) × (List Int)) : Nat := tz_IntSS a.2.1 + tz_IntS a.2.2
theorem eq_CountedRelation {a : Int × (List (List Int)) × (List Int)} (h : sm_CountedRelation a) : laws_eqCountedRelation a a = some true := by
  simp [laws_eqCountedRelation, eq_IntSS (h.1), eq_IntS (h.2), obind]
def sm_View (a : (Int × (List ((List UInt8) × (List Int))) × (List Int)) × (Int × (List (List Int)) × (List Int))) : Prop := sm_Query a.1 ∧ sm_CountedRelation a.2
def tz_View (a : (Int × (List ((List UInt8) × (List Int))) × (List Int)) × (Int × (List (List Int)) × (List Int))) : Nat := tz_Query a.1 + tz_CountedRelation a.2
theorem eq_View {a : (Int × (List ((List UInt8) × (List Int))) × (List Int)) × (Int × (List (List Int)) × (List Int))} (h : sm_View a) : laws_eqView a a = some true := by
  simp [laws_eqView, eq_Query (h.1), eq_CountedRelation (h.2), obind]
def sm_ViewS (a : List ((Int × (List ((List UInt8) × (List Int))) × (List Int)) × (Int × (List (List Int)) × (List Int)))) : Prop := List.length a ≤ 1048576 ∧ ∀ e ∈ a, sm_View e
def tz_ViewS (a : List ((Int × (List ((List UInt8) × (List Int))) × (List Int)) × (Int × (List (List Int)) × (List Int)))) : Nat := List.length a + tzL tz_View a
theorem eq_ViewS {a : List ((Int × (List ((List UInt8) × (List Int))) × (List Int)) × (Int × (List (List Int)) × (List Int)))} (h : sm_ViewS a) : laws_eqViewS a a = some true := by
  unfold laws_eqViewS
  rw [eq_loop (B := laws_eqViewS_B1 a a) (a := a) (g := laws_eqView) (fun _ _ => rfl) (fun e he => eq_View (h.2 e he)) (sm_lim h.1)]
  simp [obind]
def sm_CountedRelationS (a : List (Int × (List (List Int)) × (List Int))) : Prop := List.length a ≤ 1048576 ∧ ∀ e ∈ a, sm_CountedRelation e
def tz_CountedRelationS (a : List (Int × (List (List Int)) × (List Int))) : Nat := List.length a + tzL tz_CountedRelation a
theorem eq_CountedRelationS {a : List (Int × (List (List Int)) × (List Int))} (h : sm_CountedRelationS a) : laws_eqCountedRelationS a a = some true := by
  unfold laws_eqCountedRelationS
  rw [eq_loop (B := laws_eqCountedRelationS_B1 a a) (a := a) (g := laws_eqCountedRelation) (fun _ _ => rfl) (fun e he => eq_CountedRelation (h.2 e he)) (sm_lim h.1)]
  simp [obind]
def sm_Notifier (a : ((List ((List UInt8) × (Int × (List (List Int)))))) × (List ((Int × (List ((List UInt8) × (List Int))) × (List Int)) × (Int × (List (List Int)) × (List Int)))) × (List (Int × (List (List Int)) × (List Int)))) : Prop := sm_Database a.1 ∧ sm_ViewS a.2.1 ∧ sm_CountedRelationS a.2.2
def tz_Notifier (a : ((List ((List UInt8) × (Int × (List (List Int)))))) × (List ((Int × (List ((List UInt8) × (List Int))) × (List Int)) × (Int × (List (List Int)) × (List Int)))) × (List (Int × (List (List Int)) × (List Int)))) : Nat := tz_Database a.1 + tz_ViewS a.2.1 + tz_CountedRelationS a.2.2
theorem eq_Notifier {a : ((List ((List UInt8) × (Int × (List (List Int)))))) × (List ((Int × (List ((List UInt8) × (List Int))) × (List Int)) × (Int × (List (List Int)) × (List Int)))) × (List (Int × (List (List Int)) × (List Int)))} (h : sm_Notifier a) : laws_eqNotifier a a = some true := by
  simp [laws_eqNotifier, eq_Database (h.1), eq_ViewS (h.2.1), eq_CountedRelationS (h.2.2), obind]
theorem ct_IntS (a : List Int) : ce25 a ≤ 64 * tz_IntS a := cntL_tz0 (c := 1) (fun _ => Nat.le_refl 1) (by decide) a
theorem ct_IntSS (a : List (List Int)) : ce82 a ≤ 64 * tz_IntSS a := cntL_tz (c := 0) (fun x => ct_IntS x) (by decide) a
theorem ct_Relation (a : Int × (List (List Int))) : ce128 a ≤ 64 * tz_Relation a + 1 := by
  have b1 := ct_IntSS a.2
  unfold ce128 tz_Relation
  omega
theorem ct_Table (a : (List UInt8) × (Int × (List (List Int)))) : ce208 a ≤ 64 * tz_Table a + 2 := by
  have b1 := ct_Relation a.2
  unfold ce208 tz_Table
  omega
theorem ct_TableS (a : List ((List UInt8) × (Int × (List (List Int))))) : ce31 a ≤ 64 * tz_TableS a := cntL_tz (c := 2) (fun x => ct_Table x) (by decide) a
theorem ct_Database (a : (List ((List UInt8) × (Int × (List (List Int)))))) : ce33 a ≤ 64 * tz_Database a + 0 := by
  have b0 := ct_TableS a
  unfold ce33 tz_Database
  omega
theorem cts_Database (a : (List ((List UInt8) × (Int × (List (List Int)))))) : cs33 a ≤ 64 * tz_Database a + 0 := by
  have b0 := ct_TableS a
  unfold cs33 tz_Database
  omega
theorem cb_IntS {a : List Int} (h : sm_IntS a) : ce25 a ≤ 1048576 := Nat.le_trans (cntL_le (C := 1048576) (B := 1) a (show _ from h) (fun x hx => (Nat.le_refl 1))) (by decide)
theorem cb_IntSS {a : List (List Int)} (h : sm_IntSS a) : ce82 a ≤ 1099511627776 := Nat.le_trans (cntL_le (C := 1048576) (B := 1048576) a (show _ from h.1) (fun x hx => (cb_IntS (h.2 x hx)))) (by decide)
theorem cb_Relation {a : Int × (List (List Int))} (h : sm_Relation a) : ce128 a ≤ 1099511627777 := by
  have b1 := cb_IntSS (a := a.2) h
  unfold ce128
  omega
theorem cb_Table {a : (List UInt8) × (Int × (List (List Int)))} (h : sm_Table a) : ce208 a ≤ 1099511627778 := by
  have b1 := cb_Relation (a := a.2) h.2
  unfold ce208
  omega
theorem cb_TableS {a : List ((List UInt8) × (Int × (List (List Int))))} (h : sm_TableS a) : ce31 a ≤ 1152921504608944128 := Nat.le_trans (cntL_le (C := 1048576) (B := 1099511627778) a (show _ from h.1) (fun x hx => (cb_Table (h.2 x hx)))) (by decide)
theorem cb_Database {a : (List ((List UInt8) × (Int × (List (List Int)))))} (h : sm_Database a) : ce33 a ≤ 1152921504608944128 := by
  have b0 := cb_TableS (a := a) h
  unfold ce33
  omega
theorem cbs_Database {a : (List ((List UInt8) × (Int × (List (List Int)))))} (h : sm_Database a) : cs33 a ≤ 1152921504608944128 := by
  have b0 := cb_TableS (a := a) h
  unfold cs33
  omega
theorem cb_Atom {a : (List UInt8) × (List Int)} (h : sm_Atom a) : ce195 a ≤ 1048577 := by
  have b1 := cb_IntS (a := a.2) h.2
  unfold ce195
  omega
theorem cb_AtomS {a : List ((List UInt8) × (List Int))} (h : sm_AtomS a) : ce90 a ≤ 1099512676352 := Nat.le_trans (cntL_le (C := 1048576) (B := 1048577) a (show _ from h.1) (fun x hx => (cb_Atom (h.2 x hx)))) (by decide)
theorem cb_Query {a : Int × (List ((List UInt8) × (List Int))) × (List Int)} (h : sm_Query a) : ce92 a ≤ 1099513724929 := by
  have b1 := cb_AtomS (a := a.2.1) h.1
  have b2 := cb_IntS (a := a.2.2) h.2
  unfold ce92
  omega
theorem cb_CountedRelation {a : Int × (List (List Int)) × (List Int)} (h : sm_CountedRelation a) : ce159 a ≤ 1099512676353 := by
  have b1 := cb_IntSS (a := a.2.1) h.1
  have b2 := cb_IntS (a := a.2.2) h.2
  unfold ce159
  omega
theorem cb_View {a : (Int × (List ((List UInt8) × (List Int))) × (List Int)) × (Int × (List (List Int)) × (List Int))} (h : sm_View a) : ce161 a ≤ 2199026401282 := by
  have b0 := cb_Query (a := a.1) h.1
  have b1 := cb_CountedRelation (a := a.2) h.2
  unfold ce161
  omega
theorem cb_ViewS {a : List ((Int × (List ((List UInt8) × (List Int))) × (List Int)) × (Int × (List (List Int)) × (List Int)))} (h : sm_ViewS a) : ce71 a ≤ 2305846307750674432 := Nat.le_trans (cntL_le (C := 1048576) (B := 2199026401282) a (show _ from h.1) (fun x hx => (cb_View (h.2 x hx)))) (by decide)
theorem cb_CountedRelationS {a : List (Int × (List (List Int)) × (List Int))} (h : sm_CountedRelationS a) : ce72 a ≤ 1152922604119523328 := Nat.le_trans (cntL_le (C := 1048576) (B := 1099512676353) a (show _ from h.1) (fun x hx => (cb_CountedRelation (h.2 x hx)))) (by decide)
theorem cb_Notifier {a : ((List ((List UInt8) × (Int × (List (List Int)))))) × (List ((Int × (List ((List UInt8) × (List Int))) × (List Int)) × (Int × (List (List Int)) × (List Int)))) × (List (Int × (List (List Int)) × (List Int)))} (h : sm_Notifier a) : ce74 a ≤ 4611690416479141888 := by
  have b0 := cb_Database (a := a.1) h.1
  have b1 := cb_ViewS (a := a.2.1) h.2.1
  have b2 := cb_CountedRelationS (a := a.2.2) h.2.2
  unfold ce74
  omega
theorem cbs_Notifier {a : ((List ((List UInt8) × (Int × (List (List Int)))))) × (List ((Int × (List ((List UInt8) × (List Int))) × (List Int)) × (Int × (List (List Int)) × (List Int)))) × (List (Int × (List (List Int)) × (List Int)))} (h : sm_Notifier a) : cs74 a ≤ 4611690416479141888 := by
  have b0 := cbs_Database (a := a.1) h.1
  have b1 := cb_ViewS (a := a.2.1) h.2.1
  have b2 := cb_CountedRelationS (a := a.2.2) h.2.2
  unfold cs74
  omega
theorem hd_IntS {x : List Int} {k : Int} (h : sm_IntS x) (h0 : 0 ≤ k) (h1 : k + (ce25 x : Int) ≤ mB) : laws_heldIntS (me25 x k) k = some (k + (ce25 x : Int)) := by
  have hm : mB ≤ 9223372036854775000 := by unfold mB; omega
  unfold laws_heldIntS me25 ce25
  rw [held_loop (cnt := oneI) (mk := markI) (B := laws_heldIntS_B1 (mkL oneI markI x k)) (sm_lim (show _ from h)) h0 h1 (fun rec x y i hx hy hy2 hi hg => ?_) (fun rec y => ?_)]
  · rfl
  · have c1 : oneI x = 1 := rfl
    have e0 : y = y := by omega
    have em : markI x y = y := e0
    rw [em] at hg
    have w0 : IntKind.i64.wrap (y + 1) = y + 1 := wrap_in (by omega)
    have i0 : IntKind.i64.wrap (y) = y := wrap_in (by omega)
    have eT : y + 1 = y + (oneI x : Int) := by omega
    simp only [laws_heldIntS_B1, decide_eq_true hi, hg, cond_true, obind, beq_self_eq_true, Bool.not_true, cond_false, bne_self_eq_false, w0, i0]
    all_goals rw [eT]
  · simp [laws_heldIntS_B1]
theorem hd_IntSS {x : List (List Int)} {k : Int} (h : sm_IntSS x) (h0 : 0 ≤ k) (h1 : k + (ce82 x : Int) ≤ mB) : laws_heldIntSS (me82 x k) k = some (k + (ce82 x : Int)) := by
  have hm : mB ≤ 9223372036854775000 := by unfold mB; omega
  unfold laws_heldIntSS me82 ce82
  rw [held_loop (cnt := ce25) (mk := me25) (B := laws_heldIntSS_B1 (mkL ce25 me25 x k)) (sm_lim h.1) h0 h1 (fun rec x y i hx hy hy2 hi hg => ?_) (fun rec y => ?_)]
  · rfl
  · have hs := h.2 _ hx
    have e0 : y = y := by omega
    have em : me25 x y = me25 x (y) := (congrArg (me25 x) e0)
    rw [em] at hg
    have r0 := hd_IntS (x := x) (k := y) hs (by omega) (by omega)
    have u0 : decide (y + (ce25 x : Int) < 0) = false := decide_eq_false (by omega)
    have eT : y + (ce25 x : Int) = y + (ce25 x : Int) := by omega
    simp only [laws_heldIntSS_B1, decide_eq_true hi, hg, cond_true, obind, beq_self_eq_true, Bool.not_true, cond_false, bne_self_eq_false, r0, u0]
    all_goals rw [eT]
  · simp [laws_heldIntSS_B1]
theorem hd_TableS {x : List ((List UInt8) × (Int × (List (List Int))))} {k : Int} (h : sm_TableS x) (h0 : 0 ≤ k) (h1 : k + (ce31 x : Int) ≤ mB) : laws_heldTableS (me31 x k) k = some (k + (ce31 x : Int)) := by
  have hm : mB ≤ 9223372036854775000 := by unfold mB; omega
  unfold laws_heldTableS me31 ce31
  rw [held_loop (cnt := ce208) (mk := me208) (B := laws_heldTableS_B1 (mkL ce208 me208 x k)) (sm_lim h.1) h0 h1 (fun rec x y i hx hy hy2 hi hg => ?_) (fun rec y => ?_)]
  · rfl
  · have hs := h.2 _ hx
    have c128_1 : ce128 x.2 = 1 + ce82 x.2.2 := rfl
    have c208_2 : ce208 x = 1 + ce128 x.2 := rfl
    have e0 : y = y := by omega
    have e1 : y + ((1 : Nat) : Int) = y + 1 := by omega
    have e2 : y + ((1 : Nat) : Int) + ((1 : Nat) : Int) = y + 1 + 1 := by omega
    have em : me208 x y = (mtx (y), (y + 1, me82 x.2.2 (y + 1 + 1))) := (mk2 (congrArg mtx e0) (mk2 e1 (congrArg (me82 x.2.2) e2)))
    rw [em] at hg
    have t0 := (mtx_s (k := y) (by omega) (by omega)).1
    have w0 : IntKind.i64.wrap (y + 1) = y + 1 := wrap_in (by omega)
    have w1 : IntKind.i64.wrap (y + 1 + 1) = y + 1 + 1 := wrap_in (by omega)
    have i1 : IntKind.i64.wrap (y + 1) = y + 1 := wrap_in (by omega)
    have r2 := hd_IntSS (x := x.2.2) (k := y + 1 + 1) hs.2 (by omega) (by omega)
    have u2 : decide (y + 1 + 1 + (ce82 x.2.2 : Int) < 0) = false := decide_eq_false (by omega)
    have eT : y + 1 + 1 + (ce82 x.2.2 : Int) = y + (ce208 x : Int) := by omega
    simp only [laws_heldTableS_B1, decide_eq_true hi, hg, cond_true, obind, beq_self_eq_true, Bool.not_true, cond_false, bne_self_eq_false, t0, w0, w1, i1, r2, u2]
    all_goals rw [eT]
  · simp [laws_heldTableS_B1]
theorem hd_Database {x : (List ((List UInt8) × (Int × (List (List Int)))))} {k : Int} (h : sm_Database x) (h0 : 0 ≤ k) (h1 : k + (cs33 x : Int) ≤ mB) : laws_heldDatabase (ms33 x k) k = some (k + (cs33 x : Int)) := by
  have hc : cs33 x = ce31 x := rfl
  have r0 := hd_TableS (x := x) (k := k) h (by omega) (by omega)
  have u0 : decide (k + ((ce31 x : Nat) : Int) < 0) = false := decide_eq_false (by omega)
  have eT : k + ((ce31 x : Nat) : Int) = k + (cs33 x : Int) := by omega
  simp only [laws_heldDatabase, ms33, obind, cond_false, r0, u0]
  all_goals rw [eT]
theorem hd_AtomS {x : List ((List UInt8) × (List Int))} {k : Int} (h : sm_AtomS x) (h0 : 0 ≤ k) (h1 : k + (ce90 x : Int) ≤ mB) : laws_heldAtomS (me90 x k) k = some (k + (ce90 x : Int)) := by
  have hm : mB ≤ 9223372036854775000 := by unfold mB; omega
  unfold laws_heldAtomS me90 ce90
  rw [held_loop (cnt := ce195) (mk := me195) (B := laws_heldAtomS_B1 (mkL ce195 me195 x k)) (sm_lim h.1) h0 h1 (fun rec x y i hx hy hy2 hi hg => ?_) (fun rec y => ?_)]
  · rfl
  · have hs := h.2 _ hx
    have c195_1 : ce195 x = 1 + ce25 x.2 := rfl
    have e0 : y = y := by omega
    have e1 : y + ((1 : Nat) : Int) = y + 1 := by omega
    have em : me195 x y = (mtx (y), me25 x.2 (y + 1)) := (mk2 (congrArg mtx e0) (congrArg (me25 x.2) e1))
    rw [em] at hg
    have t0 := (mtx_s (k := y) (by omega) (by omega)).1
    have w0 : IntKind.i64.wrap (y + 1) = y + 1 := wrap_in (by omega)
    have r1 := hd_IntS (x := x.2) (k := y + 1) hs.2 (by omega) (by omega)
    have u1 : decide (y + 1 + (ce25 x.2 : Int) < 0) = false := decide_eq_false (by omega)
    have eT : y + 1 + (ce25 x.2 : Int) = y + (ce195 x : Int) := by omega
    simp only [laws_heldAtomS_B1, decide_eq_true hi, hg, cond_true, obind, beq_self_eq_true, Bool.not_true, cond_false, bne_self_eq_false, t0, w0, r1, u1]
    all_goals rw [eT]
  · simp [laws_heldAtomS_B1]
theorem hd_ViewS {x : List ((Int × (List ((List UInt8) × (List Int))) × (List Int)) × (Int × (List (List Int)) × (List Int)))} {k : Int} (h : sm_ViewS x) (h0 : 0 ≤ k) (h1 : k + (ce71 x : Int) ≤ mB) : laws_heldViewS (me71 x k) k = some (k + (ce71 x : Int)) := by
  have hm : mB ≤ 9223372036854775000 := by unfold mB; omega
  unfold laws_heldViewS me71 ce71
  rw [held_loop (cnt := ce161) (mk := me161) (B := laws_heldViewS_B1 (mkL ce161 me161 x k)) (sm_lim h.1) h0 h1 (fun rec x y i hx hy hy2 hi hg => ?_) (fun rec y => ?_)]
  · rfl
  · have hs := h.2 _ hx
    have c92_1 : ce92 x.1 = 1 + ce90 x.1.2.1 + ce25 x.1.2.2 := rfl
    have c159_2 : ce159 x.2 = 1 + ce82 x.2.2.1 + ce25 x.2.2.2 := rfl
    have c161_3 : ce161 x = ce92 x.1 + ce159 x.2 := rfl
    have e0 : y = y := by omega
    have e1 : y + ((1 : Nat) : Int) = y + 1 := by omega
    have e2 : y + ((1 : Nat) : Int) + ((ce90 x.1.2.1 : Nat) : Int) = y + 1 + (ce90 x.1.2.1 : Int) := by omega
    have e3 : y + ((ce92 x.1 : Nat) : Int) = y + 1 + (ce90 x.1.2.1 : Int) + (ce25 x.1.2.2 : Int) := by omega
    have e4 : y + ((ce92 x.1 : Nat) : Int) + ((1 : Nat) : Int) = y + 1 + (ce90 x.1.2.1 : Int) + (ce25 x.1.2.2 : Int) + 1 := by omega
    have e5 : y + ((ce92 x.1 : Nat) : Int) + ((1 : Nat) : Int) + ((ce82 x.2.2.1 : Nat) : Int) = y + 1 + (ce90 x.1.2.1 : Int) + (ce25 x.1.2.2 : Int) + 1 + (ce82 x.2.2.1 : Int) := by omega
    have em : me161 x y = ((y, (me90 x.1.2.1 (y + 1), me25 x.1.2.2 (y + 1 + (ce90 x.1.2.1 : Int)))), (y + 1 + (ce90 x.1.2.1 : Int) + (ce25 x.1.2.2 : Int), (me82 x.2.2.1 (y + 1 + (ce90 x.1.2.1 : Int) + (ce25 x.1.2.2 : Int) + 1), me25 x.2.2.2 (y + 1 + (ce90 x.1.2.1 : Int) + (ce25 x.1.2.2 : Int) + 1 + (ce82 x.2.2.1 : Int))))) := (mk2 (mk2 e0 (mk2 (congrArg (me90 x.1.2.1) e1) (congrArg (me25 x.1.2.2) e2))) (mk2 e3 (mk2 (congrArg (me82 x.2.2.1) e4) (congrArg (me25 x.2.2.2) e5))))
    rw [em] at hg
    have w0 : IntKind.i64.wrap (y + 1) = y + 1 := wrap_in (by omega)
    have i0 : IntKind.i64.wrap (y) = y := wrap_in (by omega)
    have r1 := hd_AtomS (x := x.1.2.1) (k := y + 1) hs.1.1 (by omega) (by omega)
    have u1 : decide (y + 1 + (ce90 x.1.2.1 : Int) < 0) = false := decide_eq_false (by omega)
    have r2 := hd_IntS (x := x.1.2.2) (k := y + 1 + (ce90 x.1.2.1 : Int)) hs.1.2 (by omega) (by omega)
    have u2 : decide (y + 1 + (ce90 x.1.2.1 : Int) + (ce25 x.1.2.2 : Int) < 0) = false := decide_eq_false (by omega)
    have w3 : IntKind.i64.wrap (y + 1 + (ce90 x.1.2.1 : Int) + (ce25 x.1.2.2 : Int) + 1) = y + 1 + (ce90 x.1.2.1 : Int) + (ce25 x.1.2.2 : Int) + 1 := wrap_in (by omega)
    have i3 : IntKind.i64.wrap (y + 1 + (ce90 x.1.2.1 : Int) + (ce25 x.1.2.2 : Int)) = y + 1 + (ce90 x.1.2.1 : Int) + (ce25 x.1.2.2 : Int) := wrap_in (by omega)
    have r4 := hd_IntSS (x := x.2.2.1) (k := y + 1 + (ce90 x.1.2.1 : Int) + (ce25 x.1.2.2 : Int) + 1) hs.2.1 (by omega) (by omega)
    have u4 : decide (y + 1 + (ce90 x.1.2.1 : Int) + (ce25 x.1.2.2 : Int) + 1 + (ce82 x.2.2.1 : Int) < 0) = false := decide_eq_false (by omega)
    have r5 := hd_IntS (x := x.2.2.2) (k := y + 1 + (ce90 x.1.2.1 : Int) + (ce25 x.1.2.2 : Int) + 1 + (ce82 x.2.2.1 : Int)) hs.2.2 (by omega) (by omega)
    have u5 : decide (y + 1 + (ce90 x.1.2.1 : Int) + (ce25 x.1.2.2 : Int) + 1 + (ce82 x.2.2.1 : Int) + (ce25 x.2.2.2 : Int) < 0) = false := decide_eq_false (by omega)
    have eT : y + 1 + (ce90 x.1.2.1 : Int) + (ce25 x.1.2.2 : Int) + 1 + (ce82 x.2.2.1 : Int) + (ce25 x.2.2.2 : Int) = y + (ce161 x : Int) := by omega
    simp only [laws_heldViewS_B1, decide_eq_true hi, hg, cond_true, obind, beq_self_eq_true, Bool.not_true, cond_false, bne_self_eq_false, w0, i0, r1, u1, r2, u2, w3, i3, r4, u4, r5, u5]
    all_goals rw [eT]
  · simp [laws_heldViewS_B1]
theorem hd_CountedRelationS {x : List (Int × (List (List Int)) × (List Int))} {k : Int} (h : sm_CountedRelationS x) (h0 : 0 ≤ k) (h1 : k + (ce72 x : Int) ≤ mB) : laws_heldCountedRelationS (me72 x k) k = some (k + (ce72 x : Int)) := by
  have hm : mB ≤ 9223372036854775000 := by unfold mB; omega
  unfold laws_heldCountedRelationS me72 ce72
  rw [held_loop (cnt := ce159) (mk := me159) (B := laws_heldCountedRelationS_B1 (mkL ce159 me159 x k)) (sm_lim h.1) h0 h1 (fun rec x y i hx hy hy2 hi hg => ?_) (fun rec y => ?_)]
  · rfl
  · have hs := h.2 _ hx
    have c159_1 : ce159 x = 1 + ce82 x.2.1 + ce25 x.2.2 := rfl
    have e0 : y = y := by omega
    have e1 : y + ((1 : Nat) : Int) = y + 1 := by omega
    have e2 : y + ((1 : Nat) : Int) + ((ce82 x.2.1 : Nat) : Int) = y + 1 + (ce82 x.2.1 : Int) := by omega
    have em : me159 x y = (y, (me82 x.2.1 (y + 1), me25 x.2.2 (y + 1 + (ce82 x.2.1 : Int)))) := (mk2 e0 (mk2 (congrArg (me82 x.2.1) e1) (congrArg (me25 x.2.2) e2)))
    rw [em] at hg
    have w0 : IntKind.i64.wrap (y + 1) = y + 1 := wrap_in (by omega)
    have i0 : IntKind.i64.wrap (y) = y := wrap_in (by omega)
    have r1 := hd_IntSS (x := x.2.1) (k := y + 1) hs.1 (by omega) (by omega)
    have u1 : decide (y + 1 + (ce82 x.2.1 : Int) < 0) = false := decide_eq_false (by omega)
    have r2 := hd_IntS (x := x.2.2) (k := y + 1 + (ce82 x.2.1 : Int)) hs.2 (by omega) (by omega)
    have u2 : decide (y + 1 + (ce82 x.2.1 : Int) + (ce25 x.2.2 : Int) < 0) = false := decide_eq_false (by omega)
    have eT : y + 1 + (ce82 x.2.1 : Int) + (ce25 x.2.2 : Int) = y + (ce159 x : Int) := by omega
    simp only [laws_heldCountedRelationS_B1, decide_eq_true hi, hg, cond_true, obind, beq_self_eq_true, Bool.not_true, cond_false, bne_self_eq_false, w0, i0, r1, u1, r2, u2]
    all_goals rw [eT]
  · simp [laws_heldCountedRelationS_B1]
theorem hd_Notifier {x : ((List ((List UInt8) × (Int × (List (List Int)))))) × (List ((Int × (List ((List UInt8) × (List Int))) × (List Int)) × (Int × (List (List Int)) × (List Int)))) × (List (Int × (List (List Int)) × (List Int)))} {k : Int} (h : sm_Notifier x) (h0 : 0 ≤ k) (h1 : k + (cs74 x : Int) ≤ mB) : laws_heldNotifier (ms74 x k) k = some (k + (cs74 x : Int)) := by
  have hc : cs74 x = cs33 x.1 + ce71 x.2.1 + ce72 x.2.2 := rfl
  have r0 := hd_Database (x := x.1) (k := k) h.1 (by omega) (by omega)
  have u0 : decide (k + ((cs33 x.1 : Nat) : Int) < 0) = false := decide_eq_false (by omega)
  have r1 := hd_ViewS (x := x.2.1) (k := k + ((cs33 x.1 : Nat) : Int)) h.2.1 (by omega) (by omega)
  have u1 : decide (k + ((cs33 x.1 : Nat) : Int) + ((ce71 x.2.1 : Nat) : Int) < 0) = false := decide_eq_false (by omega)
  have r2 := hd_CountedRelationS (x := x.2.2) (k := k + ((cs33 x.1 : Nat) : Int) + ((ce71 x.2.1 : Nat) : Int)) h.2.2 (by omega) (by omega)
  have u2 : decide (k + ((cs33 x.1 : Nat) : Int) + ((ce71 x.2.1 : Nat) : Int) + ((ce72 x.2.2 : Nat) : Int) < 0) = false := decide_eq_false (by omega)
  have eT : k + ((cs33 x.1 : Nat) : Int) + ((ce71 x.2.1 : Nat) : Int) + ((ce72 x.2.2 : Nat) : Int) = k + (cs74 x : Int) := by omega
  simp only [laws_heldNotifier, ms74, obind, cond_false, r0, u0, r1, u1, r2, u2]
  all_goals rw [eT]
end Go.Proofs.Ytkcfahfladikkaa
