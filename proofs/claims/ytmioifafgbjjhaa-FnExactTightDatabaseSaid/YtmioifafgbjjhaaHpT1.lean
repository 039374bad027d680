/-
  The laws' copies, comparisons and size checks on typed data, printed by genlaw.py. No conditions.
-/
import Derived.Test.YtmioifafgbjjhaaHlT1
import Derived.Test.YtmioifafgbjjhaaTyT1
namespace Go.Proofs.Ytmioifafgbjjhaa
open Go.RowKit
set_option linter.unusedVariables false
set_option linter.unusedSimpArgs false
def sm_IntS (a : List Int) : Prop := List.length a ≤ 1048576
def tz_IntS (a : List Int) : Nat := List.length a
theorem to_IntS {a : List Int} (h : sm_IntS a) : laws_toIntS a = some a := by
  unfold laws_toIntS
  rw [chk_pos (make_ok (sm_lim (show _ from h))), to_loop (a := a) (g := some) (h := id) (fun _ _ _ => rfl) (fun _ _ => rfl) (sm_lim (show _ from h))]
  simp only [obind, List.map_id]
theorem eq_IntS {a : List Int} (h : sm_IntS a) : laws_eqIntS a a = some true := by
  unfold laws_eqIntS
  rw [eq_loop (B := laws_eqIntS_B1 a a) (a := a) (g := (fun x y => some (x == y))) (fun _ _ => rfl) (fun _ _ => by simp) (sm_lim (show _ from h))]
  simp [obind]
theorem sz_IntS {a : List Int} (k : ok31 a) {left : Int} (h : 0 ≤ left ∧ left ≤ 1048576) : SzR left (laws_szIntS a left) (sm_IntS a) (tz_IntS a) := sz_len h k.1
def sm_Atom (a : Y141) : Prop := List.length a.1 ≤ 1048576 ∧ sm_IntS a.2
def tz_Atom (a : Y141) : Nat := List.length a.1 + tz_IntS a.2
theorem to_Atom {a : Y141} (h : sm_Atom a) : laws_toAtom a = some a := by
  unfold laws_toAtom
  simp only [to_IntS (h.2), obind] <;> rfl
theorem eq_Atom {a : Y141} (h : sm_Atom a) : laws_eqAtom a a = some true := by
  simp [laws_eqAtom, eq_IntS (h.2), obind]
theorem sz_Atom {a : Y141} (k : ok211 a) {left : Int} (h : 0 ≤ left ∧ left ≤ 1048576) : SzR left (laws_szAtom a left) (sm_Atom a) (tz_Atom a) := by
  unfold laws_szAtom
  have h0 : 0 ≤ left ∧ left ≤ 1048576 := h
  obtain ⟨v0, e0, p0⟩ := sz_w h0 k.1
  rw [e0]
  rcases p0 with p0 | ⟨p0, q0, s0⟩
  · simp only [obind]; rw [decide_eq_true p0]; exact ⟨-1, rfl, .inl (by omega)⟩
  simp only [obind]
  rw [decide_eq_false (by omega : ¬ v0 < 0)]
  simp only [cond_false]
  have h1 : 0 ≤ v0 ∧ v0 ≤ 1048576 := by omega
  obtain ⟨v1, e1, p1⟩ := sz_IntS (k.2) h1
  rw [e1]
  rcases p1 with p1 | ⟨p1, q1, s1⟩
  · simp only [obind]; rw [decide_eq_true p1]; exact ⟨-1, rfl, .inl (by omega)⟩
  simp only [obind]
  rw [decide_eq_false (by omega : ¬ v1 < 0)]
  simp only [cond_false]
  exact ⟨v1, rfl, .inr ⟨by unfold tz_Atom; omega, q1, s0, s1⟩⟩
def sm_AtomS (a : List Y141) : Prop := List.length a ≤ 1048576 ∧ ∀ e ∈ a, sm_Atom e
def tz_AtomS (a : List Y141) : Nat := List.length a + tzL tz_Atom a
theorem to_AtomS {a : List Y141} (h : sm_AtomS a) : laws_toAtomS a = some a := by
  unfold laws_toAtomS
  rw [chk_pos (make_ok (sm_lim h.1)), to_loop (a := a) (g := laws_toAtom) (h := id) (fun _ _ _ => rfl) (fun e he => to_Atom (h.2 e he)) (sm_lim h.1)]
  simp only [obind, List.map_id]
theorem eq_AtomS {a : List Y141} (h : sm_AtomS a) : laws_eqAtomS a a = some true := by
  unfold laws_eqAtomS
  rw [eq_loop (B := laws_eqAtomS_B1 a a) (a := a) (g := laws_eqAtom) (fun _ _ => rfl) (fun e he => eq_Atom (h.2 e he)) (sm_lim h.1)]
  simp [obind]
theorem sz_AtomS {a : List Y141} (k : ok51 a) {left : Int} (h : 0 ≤ left ∧ left ≤ 1048576) : SzR left (laws_szAtomS a left) (sm_AtomS a) (tz_AtomS a) := sz_list (B := laws_szAtomS_B1 a) (g := laws_szAtom) (fun _ _ _ => rfl) (fun e he left h => sz_Atom (k.2 e he) h) h k.1
def sm_Query (a : Y52) : Prop := sm_AtomS a.2.1 ∧ sm_IntS a.2.2
def tz_Query (a : Y52) : Nat := tz_AtomS a.2.1 + tz_IntS a.2.2
theorem to_Query {a : Y52} (h : sm_Query a) : laws_toQuery a = some a := by
  unfold laws_toQuery
  simp only [to_AtomS (h.1), to_IntS (h.2), obind] <;> rfl
theorem eq_Query {a : Y52} (h : sm_Query a) : laws_eqQuery a a = some true := by
  simp [laws_eqQuery, eq_AtomS (h.1), eq_IntS (h.2), obind]
theorem sz_Query {a : Y52} (k : ok53 a) {left : Int} (h : 0 ≤ left ∧ left ≤ 1048576) : SzR left (laws_szQuery a left) (sm_Query a) (tz_Query a) := by
  unfold laws_szQuery
  have h0 : 0 ≤ left ∧ left ≤ 1048576 := h
  obtain ⟨v0, e0, p0⟩ := sz_AtomS (k.2.1) h0
  rw [e0]
  rcases p0 with p0 | ⟨p0, q0, s0⟩
  · simp only [obind]; rw [decide_eq_true p0]; exact ⟨-1, rfl, .inl (by omega)⟩
  simp only [obind]
  rw [decide_eq_false (by omega : ¬ v0 < 0)]
  simp only [cond_false]
  have h1 : 0 ≤ v0 ∧ v0 ≤ 1048576 := by omega
  obtain ⟨v1, e1, p1⟩ := sz_IntS (k.2.2) h1
  rw [e1]
  rcases p1 with p1 | ⟨p1, q1, s1⟩
  · simp only [obind]; rw [decide_eq_true p1]; exact ⟨-1, rfl, .inl (by omega)⟩
  simp only [obind]
  rw [decide_eq_false (by omega : ¬ v1 < 0)]
  simp only [cond_false]
  exact ⟨v1, rfl, .inr ⟨by unfold tz_Query; omega, q1, s0, s1⟩⟩
def sm_IntSS (a : List (List Int)) : Prop := List.length a ≤ 1048576 ∧ ∀ e ∈ a, sm_IntS e
def tz_IntSS (a : List (List Int)) : Nat := List.length a + tzL tz_IntS a
theorem eq_IntSS {a : List (List Int)} (h : sm_IntSS a) : laws_eqIntSS a a = some true := by
  unfold laws_eqIntSS
  rw [eq_loop (B := laws_eqIntSS_B1 a a) (a := a) (g := laws_eqIntS) (fun _ _ => rfl) (fun e he => eq_IntS (h.2 e he)) (sm_lim h.1)]
  simp [obind]
def sm_Relation (a : Y25) : Prop := sm_IntSS a.2
def tz_Relation (a : Y25) : Nat := tz_IntSS a.2
theorem eq_Relation {a : Y25} (h : sm_Relation a) : laws_eqRelation a a = some true := by
  simp [laws_eqRelation, eq_IntSS (h), obind]
def sm_Table (a : Y106) : Prop := List.length a.1 ≤ 1048576 ∧ sm_Relation a.2
def tz_Table (a : Y106) : Nat := List.length a.1 + tz_Relation a.2
theorem eq_Table {a : Y106} (h : sm_Table a) : laws_eqTable a a = some true := by
  simp [laws_eqTable, eq_Relation (h.2), obind]
def sm_TableS (a : List Y106) : Prop := List.length a ≤ 1048576 ∧ ∀ e ∈ a, sm_Table e
def tz_TableS (a : List Y106) : Nat := List.length a + tzL tz_Table a
theorem eq_TableS {a : List Y106} (h : sm_TableS a) : laws_eqTableS a a = some true := by
  unfold laws_eqTableS
  rw [eq_loop (B := laws_eqTableS_B1 a a) (a := a) (g := laws_eqTable) (fun _ _ => rfl) (fun e he => eq_Table (h.2 e he)) (sm_lim h.1)]
  simp [obind]
def sm_Database (a : List Y106) : Prop := sm_TableS a
def tz_Database (a : List Y106) : Nat := tz_TableS a
theorem eq_Database {a : List Y106} (h : sm_Database a) : laws_eqDatabase a a = some true := by
  simp [laws_eqDatabase, eq_TableS (h), obind]
theorem ct_IntS (a : List Int) : ce31 a ≤ 64 * tz_IntS a := cntL_tz0 (c := 1) (fun _ => Nat.le_refl 1) (by decide) a
theorem ct_Atom (a : Y141) : ce142 a ≤ 64 * tz_Atom a + 1 := by
  have b1 := ct_IntS a.2
  unfold ce142 tz_Atom
  omega
theorem ct_AtomS (a : List Y141) : ce57 a ≤ 64 * tz_AtomS a := cntL_tz (c := 1) (fun x => ct_Atom x) (by decide) a
theorem ct_Query (a : Y58) : ce59 a ≤ 64 * tz_Query a + 1 := by
  have b1 := ct_AtomS a.2.1
  have b2 := ct_IntS a.2.2
  unfold ce59 tz_Query
  omega
theorem cts_Query (a : Y58) : cs59 a ≤ 64 * tz_Query a + 0 := by
  have b1 := ct_AtomS a.2.1
  have b2 := ct_IntS a.2.2
  unfold cs59 tz_Query
  omega
theorem cb_IntS {a : List Int} (h : sm_IntS a) : ce31 a ≤ 1048576 := Nat.le_trans (cntL_le (C := 1048576) (B := 1) a (show _ from h) (fun x hx => (Nat.le_refl 1))) (by decide)
theorem cb_IntSS {a : List (List Int)} (h : sm_IntSS a) : ce24 a ≤ 1099511627776 := Nat.le_trans (cntL_le (C := 1048576) (B := 1048576) a (show _ from h.1) (fun x hx => (cb_IntS (h.2 x hx)))) (by decide)
theorem cb_Relation {a : Y25} (h : sm_Relation a) : ce26 a ≤ 1099511627777 := by
  have b1 := cb_IntSS (a := a.2) h
  unfold ce26
  omega
theorem cb_Table {a : Y106} (h : sm_Table a) : ce107 a ≤ 1099511627778 := by
  have b1 := cb_Relation (a := a.2) h.2
  unfold ce107
  omega
theorem cb_TableS {a : List Y106} (h : sm_TableS a) : ce40 a ≤ 1152921504608944128 := Nat.le_trans (cntL_le (C := 1048576) (B := 1099511627778) a (show _ from h.1) (fun x hx => (cb_Table (h.2 x hx)))) (by decide)
theorem cb_Database {a : List Y106} (h : sm_Database a) : ce42 a ≤ 1152921504608944128 := by
  have b0 := cb_TableS (a := a) h
  unfold ce42
  omega
theorem cbs_Database {a : List Y106} (h : sm_Database a) : cs42 a ≤ 1152921504608944128 := by
  have b0 := cb_TableS (a := a) h
  unfold cs42
  omega
theorem hd_IntS {x : List Int} {k : Int} (h : sm_IntS x) (h0 : 0 ≤ k) (h1 : k + (ce31 x : Int) ≤ mB) : laws_heldIntS (me31 x k) k = some (k + (ce31 x : Int)) := by
  have hm : mB ≤ 9223372036854775000 := by unfold mB; omega
  unfold laws_heldIntS me31 ce31
  rw [held_loop (cnt := oneI) (mk := markI) (B := laws_heldIntS_B1 (mkL oneI markI x k)) (sm_lim (show _ from h)) h0 h1 (fun rec x y i hx hy hy2 hi hg => ?_) (fun rec y => ?_)]
  · rfl
  · have c1 : oneI x = 1 := rfl
    have e0 : y = y := by omega
    have em : markI x y = y := e0
    rw [em] at hg
    have w0 : IntKind.i64.wrap (y + 1) = y + 1 := wrap_in (by omega)
    have i0 : IntKind.i64.wrap (y) = y := wrap_in (by omega)
    have eT : y + 1 = y + (oneI x : Int) := by omega
    simp only [laws_heldIntS_B1, decide_eq_true hi, hg, cond_true, obind, beq_self_eq_true, Bool.not_true, cond_false, bne_self_eq_false, w0, i0]
    all_goals rw [eT]
  · simp [laws_heldIntS_B1]
theorem hd_IntSS {x : List (List Int)} {k : Int} (h : sm_IntSS x) (h0 : 0 ≤ k) (h1 : k + (ce24 x : Int) ≤ mB) : laws_heldIntSS (me24 x k) k = some (k + (ce24 x : Int)) := by
  have hm : mB ≤ 9223372036854775000 := by unfold mB; omega
  unfold laws_heldIntSS me24 ce24
  rw [held_loop (cnt := ce31) (mk := me31) (B := laws_heldIntSS_B1 (mkL ce31 me31 x k)) (sm_lim h.1) h0 h1 (fun rec x y i hx hy hy2 hi hg => ?_) (fun rec y => ?_)]
  · rfl
  · have hs := h.2 _ hx
    have e0 : y = y := by omega
    have em : me31 x y = me31 x (y) := (congrArg (me31 x) e0)
    rw [em] at hg
    have r0 := hd_IntS (x := x) (k := y) hs (by omega) (by omega)
    have u0 : decide (y + (ce31 x : Int) < 0) = false := decide_eq_false (by omega)
    have eT : y + (ce31 x : Int) = y + (ce31 x : Int) := by omega
    simp only [laws_heldIntSS_B1, decide_eq_true hi, hg, cond_true, obind, beq_self_eq_true, Bool.not_true, cond_false, bne_self_eq_false, r0, u0]
    all_goals rw [eT]
  · simp [laws_heldIntSS_B1]
theorem hd_TableS {x : List Y106} {k : Int} (h : sm_TableS x) (h0 : 0 ≤ k) (h1 : k + (ce40 x : Int) ≤ mB) : laws_heldTableS (me40 x k) k = some (k + (ce40 x : Int)) := by
  have hm : mB ≤ 9223372036854775000 := by unfold mB; omega
  unfold laws_heldTableS me40 ce40
  rw [held_loop (cnt := ce107) (mk := me107) (B := laws_heldTableS_B1 (mkL ce107 me107 x k)) (sm_lim h.1) h0 h1 (fun rec x y i hx hy hy2 hi hg => ?_) (fun rec y => ?_)]
  · rfl
  · have hs := h.2 _ hx
    have c26_1 : ce26 x.2 = 1 + ce24 x.2.2 := rfl
    have c107_2 : ce107 x = 1 + ce26 x.2 := rfl
    have e0 : y = y := by omega
    have e1 : y + ((1 : Nat) : Int) = y + 1 := by omega
    have e2 : y + ((1 : Nat) : Int) + ((1 : Nat) : Int) = y + 1 + 1 := by omega
    have em : me107 x y = (mtx (y), (y + 1, me24 x.2.2 (y + 1 + 1))) := (mk2 (congrArg mtx e0) (mk2 e1 (congrArg (me24 x.2.2) e2)))
    rw [em] at hg
    have t0 := (mtx_s (k := y) (by omega) (by omega)).1
    have w0 : IntKind.i64.wrap (y + 1) = y + 1 := wrap_in (by omega)
    have w1 : IntKind.i64.wrap (y + 1 + 1) = y + 1 + 1 := wrap_in (by omega)
    have i1 : IntKind.i64.wrap (y + 1) = y + 1 := wrap_in (by omega)
    have r2 := hd_IntSS (x := x.2.2) (k := y + 1 + 1) hs.2 (by omega) (by omega)
    have u2 : decide (y + 1 + 1 + (ce24 x.2.2 : Int) < 0) = false := decide_eq_false (by omega)
    have eT : y + 1 + 1 + (ce24 x.2.2 : Int) = y + (ce107 x : Int) := by omega
    simp only [laws_heldTableS_B1, decide_eq_true hi, hg, cond_true, obind, beq_self_eq_true, Bool.not_true, cond_false, bne_self_eq_false, t0, w0, w1, i1, r2, u2]
    all_goals rw [eT]
  · simp [laws_heldTableS_B1]
theorem hd_Database {x : List Y106} {k : Int} (h : sm_Database x) (h0 : 0 ≤ k) (h1 : k + (cs42 x : Int) ≤ mB) : laws_heldDatabase (ms42 x k) k = some (k + (cs42 x : Int)) := by
  have hc : cs42 x = ce40 x := rfl
  have r0 := hd_TableS (x := x) (k := k) h (by omega) (by omega)
  have u0 : decide (k + ((ce40 x : Nat) : Int) < 0) = false := decide_eq_false (by omega)
  have eT : k + ((ce40 x : Nat) : Int) = k + (cs42 x : Int) := by omega
  simp only [laws_heldDatabase, ms42, obind, cond_false, r0, u0]
  all_goals rw [eT]
end Go.Proofs.Ytmioifafgbjjhaa
