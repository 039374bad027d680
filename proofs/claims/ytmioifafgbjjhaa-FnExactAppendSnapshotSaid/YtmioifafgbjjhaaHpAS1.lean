/-
  The laws' copies, comparisons and size checks on typed data, printed by genlaw.py. No conditions.
-/
import Derived.Test.YtmioifafgbjjhaaHlAS1
import Derived.Test.YtmioifafgbjjhaaTyAS1
namespace Go.Proofs.Ytmioifafgbjjhaa
open Go.RowKit
set_option linter.unusedVariables false
set_option linter.unusedSimpArgs false
def sm_IntS (a : List Int) : Prop := List.length a ≤ 1048576
def tz_IntS (a : List Int) : Nat := List.length a
theorem to_IntS {a : List Int} (h : sm_IntS a) : laws_toIntS a = some a := by
  unfold laws_toIntS
  rw [chk_pos (make_ok (sm_lim (show _ from h))), to_loop (a := a) (g := some) (h := id) (fun _ _ _ => rfl) (fun _ _ => rfl) (sm_lim (show _ from h))]
  simp only [obind, List.map_id]
theorem eq_IntS {a : List Int} (h : sm_IntS a) : laws_eqIntS a a = some true := by
  unfold laws_eqIntS
  rw [eq_loop (B := laws_eqIntS_B1 a a) (a := a) (g := (fun x y => some (x == y))) (fun _ _ => rfl) (fun _ _ => by simp) (sm_lim (show _ from h))]
  simp [obind]
theorem sz_IntS {a : List Int} (k : ok31 a) {left : Int} (h : 0 ≤ left ∧ left ≤ 1048576) : SzR left (laws_szIntS a left) (sm_IntS a) (tz_IntS a) := sz_len h k.1
def sm_IntSS (a : List (List Int)) : Prop := List.length a ≤ 1048576 ∧ ∀ e ∈ a, sm_IntS e
def tz_IntSS (a : List (List Int)) : Nat := List.length a + tzL tz_IntS a
theorem to_IntSS {a : List (List Int)} (h : sm_IntSS a) : laws_toIntSS a = some a := by
  unfold laws_toIntSS
  rw [chk_pos (make_ok (sm_lim h.1)), to_loop (a := a) (g := laws_toIntS) (h := id) (fun _ _ _ => rfl) (fun e he => to_IntS (h.2 e he)) (sm_lim h.1)]
  simp only [obind, List.map_id]
theorem eq_IntSS {a : List (List Int)} (h : sm_IntSS a) : laws_eqIntSS a a = some true := by
  unfold laws_eqIntSS
  rw [eq_loop (B := laws_eqIntSS_B1 a a) (a := a) (g := laws_eqIntS) (fun _ _ => rfl) (fun e he => eq_IntS (h.2 e he)) (sm_lim h.1)]
  simp [obind]
theorem sz_IntSS {a : List (List Int)} (k : ok24 a) {left : Int} (h : 0 ≤ left ∧ left ≤ 1048576) : SzR left (laws_szIntSS a left) (sm_IntSS a) (tz_IntSS a) := sz_list (B := laws_szIntSS_B1 a) (g := laws_szIntS) (fun _ _ _ => rfl) (fun e he left h => sz_IntS (k.2 e he) h) h k.1
def sm_Relation (a : Y25) : Prop := sm_IntSS a.2
def tz_Relation (a : Y25) : Nat := tz_IntSS a.2
theorem to_Relation {a : Y25} (h : sm_Relation a) : laws_toRelation a = some a := by
  unfold laws_toRelation
  simp only [to_IntSS (h), obind] <;> rfl
theorem eq_Relation {a : Y25} (h : sm_Relation a) : laws_eqRelation a a = some true := by
  simp [laws_eqRelation, eq_IntSS (h), obind]
theorem sz_Relation {a : Y25} (k : ok95 a) {left : Int} (h : 0 ≤ left ∧ left ≤ 1048576) : SzR left (laws_szRelation a left) (sm_Relation a) (tz_Relation a) := by
  unfold laws_szRelation
  have h0 : 0 ≤ left ∧ left ≤ 1048576 := h
  obtain ⟨v0, e0, p0⟩ := sz_IntSS (k.2) h0
  rw [e0]
  rcases p0 with p0 | ⟨p0, q0, s0⟩
  · simp only [obind]; rw [decide_eq_true p0]; exact ⟨-1, rfl, .inl (by omega)⟩
  simp only [obind]
  rw [decide_eq_false (by omega : ¬ v0 < 0)]
  simp only [cond_false]
  exact ⟨v0, rfl, .inr ⟨by unfold tz_Relation; omega, q0, s0⟩⟩
def sm_Table (a : Y262) : Prop := List.length a.1 ≤ 1048576 ∧ sm_Relation a.2
def tz_Table (a : Y262) : Nat := List.length a.1 + tz_Relation a.2
theorem to_Table {a : Y262} (h : sm_Table a) : laws_toTable a = some a := by
  unfold laws_toTable
  simp only [to_Relation (h.2), obind] <;> rfl
theorem eq_Table {a : Y262} (h : sm_Table a) : laws_eqTable a a = some true := by
  simp [laws_eqTable, eq_Relation (h.2), obind]
theorem sz_Table {a : Y262} (k : ok263 a) {left : Int} (h : 0 ≤ left ∧ left ≤ 1048576) : SzR left (laws_szTable a left) (sm_Table a) (tz_Table a) := by
  unfold laws_szTable
  have h0 : 0 ≤ left ∧ left ≤ 1048576 := h
  obtain ⟨v0, e0, p0⟩ := sz_w h0 k.1
  rw [e0]
  rcases p0 with p0 | ⟨p0, q0, s0⟩
  · simp only [obind]; rw [decide_eq_true p0]; exact ⟨-1, rfl, .inl (by omega)⟩
  simp only [obind]
  rw [decide_eq_false (by omega : ¬ v0 < 0)]
  simp only [cond_false]
  have h1 : 0 ≤ v0 ∧ v0 ≤ 1048576 := by omega
  obtain ⟨v1, e1, p1⟩ := sz_Relation (k.2) h1
  rw [e1]
  rcases p1 with p1 | ⟨p1, q1, s1⟩
  · simp only [obind]; rw [decide_eq_true p1]; exact ⟨-1, rfl, .inl (by omega)⟩
  simp only [obind]
  rw [decide_eq_false (by omega : ¬ v1 < 0)]
  simp only [cond_false]
  exact ⟨v1, rfl, .inr ⟨by unfold tz_Table; omega, q1, s0, s1⟩⟩
def sm_TableS (a : List Y262) : Prop := List.length a ≤ 1048576 ∧ ∀ e ∈ a, sm_Table e
def tz_TableS (a : List Y262) : Nat := List.length a + tzL tz_Table a
theorem to_TableS {a : List Y262} (h : sm_TableS a) : laws_toTableS a = some a := by
  unfold laws_toTableS
  rw [chk_pos (make_ok (sm_lim h.1)), to_loop (a := a) (g := laws_toTable) (h := id) (fun _ _ _ => rfl) (fun e he => to_Table (h.2 e he)) (sm_lim h.1)]
  simp only [obind, List.map_id]
theorem eq_TableS {a : List Y262} (h : sm_TableS a) : laws_eqTableS a a = some true := by
  unfold laws_eqTableS
  rw [eq_loop (B := laws_eqTableS_B1 a a) (a := a) (g := laws_eqTable) (fun _ _ => rfl) (fun e he => eq_Table (h.2 e he)) (sm_lim h.1)]
  simp [obind]
theorem sz_TableS {a : List Y262} (k : ok220 a) {left : Int} (h : 0 ≤ left ∧ left ≤ 1048576) : SzR left (laws_szTableS a left) (sm_TableS a) (tz_TableS a) := sz_list (B := laws_szTableS_B1 a) (g := laws_szTable) (fun _ _ _ => rfl) (fun e he left h => sz_Table (k.2 e he) h) h k.1
def sm_Database (a : List Y262) : Prop := sm_TableS a
def tz_Database (a : List Y262) : Nat := tz_TableS a
theorem to_Database {a : List Y262} (h : sm_Database a) : laws_toDatabase a = some a := by
  unfold laws_toDatabase
  simp only [to_TableS (h), obind] <;> rfl
theorem eq_Database {a : List Y262} (h : sm_Database a) : laws_eqDatabase a a = some true := by
  simp [laws_eqDatabase, eq_TableS (h), obind]
theorem sz_Database {a : List Y262} (k : ok222 a) {left : Int} (h : 0 ≤ left ∧ left ≤ 1048576) : SzR left (laws_szDatabase a left) (sm_Database a) (tz_Database a) := by
  unfold laws_szDatabase
  have h0 : 0 ≤ left ∧ left ≤ 1048576 := h
  obtain ⟨v0, e0, p0⟩ := sz_TableS (k) h0
  rw [e0]
  rcases p0 with p0 | ⟨p0, q0, s0⟩
  · simp only [obind]; rw [decide_eq_true p0]; exact ⟨-1, rfl, .inl (by omega)⟩
  simp only [obind]
  rw [decide_eq_false (by omega : ¬ v0 < 0)]
  simp only [cond_false]
  exact ⟨v0, rfl, .inr ⟨by unfold tz_Database; omega, q0, s0⟩⟩
def sm_DatabaseS (a : List (List Y262)) : Prop := List.length a ≤ 1048576 ∧ ∀ e ∈ a, sm_Database e
def tz_DatabaseS (a : List (List Y262)) : Nat := List.length a + tzL tz_Database a
theorem to_DatabaseS {a : List (List Y262)} (h : sm_DatabaseS a) : laws_toDatabaseS a = some a := by
  unfold laws_toDatabaseS
  rw [chk_pos (make_ok (sm_lim h.1)), to_loop (a := a) (g := laws_toDatabase) (h := id) (fun _ _ _ => rfl) (fun e he => to_Database (h.2 e he)) (sm_lim h.1)]
  simp only [obind, List.map_id]
theorem eq_DatabaseS {a : List (List Y262)} (h : sm_DatabaseS a) : laws_eqDatabaseS a a = some true := by
  unfold laws_eqDatabaseS
  rw [eq_loop (B := laws_eqDatabaseS_B1 a a) (a := a) (g := laws_eqDatabase) (fun _ _ => rfl) (fun e he => eq_Database (h.2 e he)) (sm_lim h.1)]
  simp [obind]
theorem sz_DatabaseS {a : List (List Y262)} (k : ok81 a) {left : Int} (h : 0 ≤ left ∧ left ≤ 1048576) : SzR left (laws_szDatabaseS a left) (sm_DatabaseS a) (tz_DatabaseS a) := sz_list (B := laws_szDatabaseS_B1 a) (g := laws_szDatabase) (fun _ _ _ => rfl) (fun e he left h => sz_Database (k.2 e he) h) h k.1
def sm_History (a : Y82) : Prop := sm_DatabaseS a.2
def tz_History (a : Y82) : Nat := tz_DatabaseS a.2
theorem to_History {a : Y82} (h : sm_History a) : laws_toHistory a = some a := by
  unfold laws_toHistory
  simp only [to_DatabaseS (h), obind] <;> rfl
theorem eq_History {a : Y82} (h : sm_History a) : laws_eqHistory a a = some true := by
  simp [laws_eqHistory, eq_DatabaseS (h), obind]
theorem sz_History {a : Y82} (k : ok83 a) {left : Int} (h : 0 ≤ left ∧ left ≤ 1048576) : SzR left (laws_szHistory a left) (sm_History a) (tz_History a) := by
  unfold laws_szHistory
  have h0 : 0 ≤ left ∧ left ≤ 1048576 := h
  obtain ⟨v0, e0, p0⟩ := sz_DatabaseS (k.2) h0
  rw [e0]
  rcases p0 with p0 | ⟨p0, q0, s0⟩
  · simp only [obind]; rw [decide_eq_true p0]; exact ⟨-1, rfl, .inl (by omega)⟩
  simp only [obind]
  rw [decide_eq_false (by omega : ¬ v0 < 0)]
  simp only [cond_false]
  exact ⟨v0, rfl, .inr ⟨by unfold tz_History; omega, q0, s0⟩⟩
def sm_Delta (a : Y96) : Prop := List.length a.1 ≤ 1048576 ∧ sm_Relation a.2.1 ∧ sm_Relation a.2.2
def tz_Delta (a : Y96) : Nat := List.length a.1 + tz_Relation a.2.1 + tz_Relation a.2.2
theorem to_Delta {a : Y96} (h : sm_Delta a) : laws_toDelta a = some a := by
  unfold laws_toDelta
  simp only [to_Relation (h.2.1), to_Relation (h.2.2), obind] <;> rfl
theorem eq_Delta {a : Y96} (h : sm_Delta a) : laws_eqDelta a a = some true := by
  simp [laws_eqDelta, eq_Relation (h.2.1), eq_Relation (h.2.2), obind]
theorem sz_Delta {a : Y96} (k : ok97 a) {left : Int} (h : 0 ≤ left ∧ left ≤ 1048576) : SzR left (laws_szDelta a left) (sm_Delta a) (tz_Delta a) := by
  unfold laws_szDelta
  have h0 : 0 ≤ left ∧ left ≤ 1048576 := h
  obtain ⟨v0, e0, p0⟩ := sz_w h0 k.1
  rw [e0]
  rcases p0 with p0 | ⟨p0, q0, s0⟩
  · simp only [obind]; rw [decide_eq_true p0]; exact ⟨-1, rfl, .inl (by omega)⟩
  simp only [obind]
  rw [decide_eq_false (by omega : ¬ v0 < 0)]
  simp only [cond_false]
  have h1 : 0 ≤ v0 ∧ v0 ≤ 1048576 := by omega
  obtain ⟨v1, e1, p1⟩ := sz_Relation (k.2.1) h1
  rw [e1]
  rcases p1 with p1 | ⟨p1, q1, s1⟩
  · simp only [obind]; rw [decide_eq_true p1]; exact ⟨-1, rfl, .inl (by omega)⟩
  simp only [obind]
  rw [decide_eq_false (by omega : ¬ v1 < 0)]
  simp only [cond_false]
  have h2 : 0 ≤ v1 ∧ v1 ≤ 1048576 := by omega
  obtain ⟨v2, e2, p2⟩ := sz_Relation (k.2.2) h2
  rw [e2]
  rcases p2 with p2 | ⟨p2, q2, s2⟩
  · simp only [obind]; rw [decide_eq_true p2]; exact ⟨-1, rfl, .inl (by omega)⟩
  simp only [obind]
  rw [decide_eq_false (by omega : ¬ v2 < 0)]
  simp only [cond_false]
  exact ⟨v2, rfl, .inr ⟨by unfold tz_Delta; omega, q2, s0, s1, s2⟩⟩
theorem ct_IntS (a : List Int) : ce31 a ≤ 64 * tz_IntS a := cntL_tz0 (c := 1) (fun _ => Nat.le_refl 1) (by decide) a
theorem ct_IntSS (a : List (List Int)) : ce24 a ≤ 64 * tz_IntSS a := cntL_tz (c := 0) (fun x => ct_IntS x) (by decide) a
theorem ct_Relation (a : Y25) : ce26 a ≤ 64 * tz_Relation a + 1 := by
  have b1 := ct_IntSS a.2
  unfold ce26 tz_Relation
  omega
theorem cts_Relation (a : Y25) : cs26 a ≤ 64 * tz_Relation a + 0 := by
  have b1 := ct_IntSS a.2
  unfold cs26 tz_Relation
  omega
theorem ct_Table (a : Y106) : ce107 a ≤ 64 * tz_Table a + 2 := by
  have b1 := ct_Relation a.2
  unfold ce107 tz_Table
  omega
theorem ct_TableS (a : List Y106) : ce40 a ≤ 64 * tz_TableS a := cntL_tz (c := 2) (fun x => ct_Table x) (by decide) a
theorem ct_Database (a : List Y106) : ce42 a ≤ 64 * tz_Database a + 0 := by
  have b0 := ct_TableS a
  unfold ce42 tz_Database
  omega
theorem ct_DatabaseS (a : List (List Y106)) : ce68 a ≤ 64 * tz_DatabaseS a := cntL_tz (c := 0) (fun x => ct_Database x) (by decide) a
theorem ct_History (a : Y69) : ce70 a ≤ 64 * tz_History a + 1 := by
  have b1 := ct_DatabaseS a.2
  unfold ce70 tz_History
  omega
theorem cts_History (a : Y69) : cs70 a ≤ 64 * tz_History a + 0 := by
  have b1 := ct_DatabaseS a.2
  unfold cs70 tz_History
  omega
theorem ct_Delta (a : Y71) : ce72 a ≤ 64 * tz_Delta a + 3 := by
  have b1 := ct_Relation a.2.1
  have b2 := ct_Relation a.2.2
  unfold ce72 tz_Delta
  omega
theorem cts_Delta (a : Y71) : cs72 a ≤ 64 * tz_Delta a + 0 := by
  have b1 := cts_Relation a.2.1
  have b2 := cts_Relation a.2.2
  unfold cs72 tz_Delta
  omega
theorem cb_IntS {a : List Int} (h : sm_IntS a) : ce31 a ≤ 1048576 := Nat.le_trans (cntL_le (C := 1048576) (B := 1) a (show _ from h) (fun x hx => (Nat.le_refl 1))) (by decide)
theorem cb_IntSS {a : List (List Int)} (h : sm_IntSS a) : ce24 a ≤ 1099511627776 := Nat.le_trans (cntL_le (C := 1048576) (B := 1048576) a (show _ from h.1) (fun x hx => (cb_IntS (h.2 x hx)))) (by decide)
theorem cb_Relation {a : Y25} (h : sm_Relation a) : ce26 a ≤ 1099511627777 := by
  have b1 := cb_IntSS (a := a.2) h
  unfold ce26
  omega
theorem cbs_Relation {a : Y25} (h : sm_Relation a) : cs26 a ≤ 1099511627776 := by
  have b1 := cb_IntSS (a := a.2) h
  unfold cs26
  omega
theorem cb_Table {a : Y106} (h : sm_Table a) : ce107 a ≤ 1099511627778 := by
  have b1 := cb_Relation (a := a.2) h.2
  unfold ce107
  omega
theorem cb_TableS {a : List Y106} (h : sm_TableS a) : ce40 a ≤ 1152921504608944128 := Nat.le_trans (cntL_le (C := 1048576) (B := 1099511627778) a (show _ from h.1) (fun x hx => (cb_Table (h.2 x hx)))) (by decide)
theorem cb_Database {a : List Y106} (h : sm_Database a) : ce42 a ≤ 1152921504608944128 := by
  have b0 := cb_TableS (a := a) h
  unfold ce42
  omega
theorem cb_DatabaseS {a : List (List Y106)} (h : sm_DatabaseS a) : ce68 a ≤ 1208925819616828197961728 := Nat.le_trans (cntL_le (C := 1048576) (B := 1152921504608944128) a (show _ from h.1) (fun x hx => (cb_Database (h.2 x hx)))) (by decide)
theorem cb_History {a : Y69} (h : sm_History a) : ce70 a ≤ 1208925819616828197961729 := by
  have b1 := cb_DatabaseS (a := a.2) h
  unfold ce70
  omega
theorem cbs_History {a : Y69} (h : sm_History a) : cs70 a ≤ 1208925819616828197961728 := by
  have b1 := cb_DatabaseS (a := a.2) h
  unfold cs70
  omega
theorem hd_IntS {x : List Int} {k : Int} (h : sm_IntS x) (h0 : 0 ≤ k) (h1 : k + (ce31 x : Int) ≤ mB) : laws_heldIntS (me31 x k) k = some (k + (ce31 x : Int)) := by
  have hm : mB ≤ 9223372036854775000 := by unfold mB; omega
  unfold laws_heldIntS me31 ce31
  rw [held_loop (cnt := oneI) (mk := markI) (B := laws_heldIntS_B1 (mkL oneI markI x k)) (sm_lim (show _ from h)) h0 h1 (fun rec x y i hx hy hy2 hi hg => ?_) (fun rec y => ?_)]
  · rfl
  · have c1 : oneI x = 1 := rfl
    have e0 : y = y := by omega
    have em : markI x y = y := e0
    rw [em] at hg
    have w0 : IntKind.i64.wrap (y + 1) = y + 1 := wrap_in (by omega)
    have i0 : IntKind.i64.wrap (y) = y := wrap_in (by omega)
    have eT : y + 1 = y + (oneI x : Int) := by omega
    simp only [laws_heldIntS_B1, decide_eq_true hi, hg, cond_true, obind, beq_self_eq_true, Bool.not_true, cond_false, bne_self_eq_false, w0, i0]
    all_goals rw [eT]
  · simp [laws_heldIntS_B1]
theorem hd_IntSS {x : List (List Int)} {k : Int} (h : sm_IntSS x) (h0 : 0 ≤ k) (h1 : k + (ce24 x : Int) ≤ mB) : laws_heldIntSS (me24 x k) k = some (k + (ce24 x : Int)) := by
  have hm : mB ≤ 9223372036854775000 := by unfold mB; omega
  unfold laws_heldIntSS me24 ce24
  rw [held_loop (cnt := ce31) (mk := me31) (B := laws_heldIntSS_B1 (mkL ce31 me31 x k)) (sm_lim h.1) h0 h1 (fun rec x y i hx hy hy2 hi hg => ?_) (fun rec y => ?_)]
  · rfl
  · have hs := h.2 _ hx
    have e0 : y = y := by omega
    have em : me31 x y = me31 x (y) := (congrArg (me31 x) e0)
    rw [em] at hg
    have r0 := hd_IntS (x := x) (k := y) hs (by omega) (by omega)
    have u0 : decide (y + (ce31 x : Int) < 0) = false := decide_eq_false (by omega)
    have eT : y + (ce31 x : Int) = y + (ce31 x : Int) := by omega
    simp only [laws_heldIntSS_B1, decide_eq_true hi, hg, cond_true, obind, beq_self_eq_true, Bool.not_true, cond_false, bne_self_eq_false, r0, u0]
    all_goals rw [eT]
  · simp [laws_heldIntSS_B1]
theorem hd_TableS {x : List Y106} {k : Int} (h : sm_TableS x) (h0 : 0 ≤ k) (h1 : k + (ce40 x : Int) ≤ mB) : laws_heldTableS (me40 x k) k = some (k + (ce40 x : Int)) := by
  have hm : mB ≤ 9223372036854775000 := by unfold mB; omega
  unfold laws_heldTableS me40 ce40
  rw [held_loop (cnt := ce107) (mk := me107) (B := laws_heldTableS_B1 (mkL ce107 me107 x k)) (sm_lim h.1) h0 h1 (fun rec x y i hx hy hy2 hi hg => ?_) (fun rec y => ?_)]
  · rfl
  · have hs := h.2 _ hx
    have c26_1 : ce26 x.2 = 1 + ce24 x.2.2 := rfl
    have c107_2 : ce107 x = 1 + ce26 x.2 := rfl
    have e0 : y = y := by omega
    have e1 : y + ((1 : Nat) : Int) = y + 1 := by omega
    have e2 : y + ((1 : Nat) : Int) + ((1 : Nat) : Int) = y + 1 + 1 := by omega
    have em : me107 x y = (mtx (y), (y + 1, me24 x.2.2 (y + 1 + 1))) := (mk2 (congrArg mtx e0) (mk2 e1 (congrArg (me24 x.2.2) e2)))
    rw [em] at hg
    have t0 := (mtx_s (k := y) (by omega) (by omega)).1
    have w0 : IntKind.i64.wrap (y + 1) = y + 1 := wrap_in (by omega)
    have w1 : IntKind.i64.wrap (y + 1 + 1) = y + 1 + 1 := wrap_in (by omega)
    have i1 : IntKind.i64.wrap (y + 1) = y + 1 := wrap_in (by omega)
    have r2 := hd_IntSS (x := x.2.2) (k := y + 1 + 1) hs.2 (by omega) (by omega)
    have u2 : decide (y + 1 + 1 + (ce24 x.2.2 : Int) < 0) = false := decide_eq_false (by omega)
    have eT : y + 1 + 1 + (ce24 x.2.2 : Int) = y + (ce107 x : Int) := by omega
    simp only [laws_heldTableS_B1, decide_eq_true hi, hg, cond_true, obind, beq_self_eq_true, Bool.not_true, cond_false, bne_self_eq_false, t0, w0, w1, i1, r2, u2]
    all_goals rw [eT]
  · simp [laws_heldTableS_B1]
theorem hd_DatabaseS {x : List (List Y106)} {k : Int} (h : sm_DatabaseS x) (h0 : 0 ≤ k) (h1 : k + (ce68 x : Int) ≤ mB) : laws_heldDatabaseS (me68 x k) k = some (k + (ce68 x : Int)) := by
  have hm : mB ≤ 9223372036854775000 := by unfold mB; omega
  unfold laws_heldDatabaseS me68 ce68
  rw [held_loop (cnt := ce42) (mk := me42) (B := laws_heldDatabaseS_B1 (mkL ce42 me42 x k)) (sm_lim h.1) h0 h1 (fun rec x y i hx hy hy2 hi hg => ?_) (fun rec y => ?_)]
  · rfl
  · have hs := h.2 _ hx
    have c42_1 : ce42 x = ce40 x := rfl
    have e0 : y = y := by omega
    have em : me42 x y = me40 x (y) := (congrArg (me40 x) e0)
    rw [em] at hg
    have r0 := hd_TableS (x := x) (k := y) hs (by omega) (by omega)
    have u0 : decide (y + (ce40 x : Int) < 0) = false := decide_eq_false (by omega)
    have eT : y + (ce40 x : Int) = y + (ce42 x : Int) := by omega
    simp only [laws_heldDatabaseS_B1, decide_eq_true hi, hg, cond_true, obind, beq_self_eq_true, Bool.not_true, cond_false, bne_self_eq_false, r0, u0]
    all_goals rw [eT]
  · simp [laws_heldDatabaseS_B1]
theorem hd_History {x : Y69} {k : Int} (h : sm_History x) (h0 : 0 ≤ k) (h1 : k + (cs70 x : Int) ≤ mB) : laws_heldHistory (ms70 x k) k = some (k + (cs70 x : Int)) := by
  have hc : cs70 x = ce68 x.2 := rfl
  have r1 := hd_DatabaseS (x := x.2) (k := k) h (by omega) (by omega)
  have u1 : decide (k + ((ce68 x.2 : Nat) : Int) < 0) = false := decide_eq_false (by omega)
  have eT : k + ((ce68 x.2 : Nat) : Int) = k + (cs70 x : Int) := by omega
  simp only [laws_heldHistory, ms70, obind, cond_false, r1, u1]
  all_goals rw [eT]
end Go.Proofs.Ytmioifafgbjjhaa
