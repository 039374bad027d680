/-
  Snapshots holds. Conditions: none.
-/
import Derived.Test.YtcoalfphehhadaaDhSS1
import Derived.Test.YtcoalfphehhadaaEnSS1
import Derived.Test.YtcoalfphehhadaaHpSS1
-- pure
namespace Go.Proofs.Ytcoalfphehhadaa
open Go.RowKit
set_option linter.unusedVariables false
set_option linter.unusedSimpArgs false
theorem draw_as {b : List Int} (h : b.length ≤ 1048576) : ∃ g x, spec_DrawAppendSnapshot b = some (g, x) ∧ HsD g ∧ smD x := by
  unfold spec_DrawAppendSnapshot
  obtain ⟨c, e, hc⟩ := new_ok h
  rw [e]
  simp only [obind]
  obtain ⟨g, c1, e1, hg, hc1⟩ := hist_ok hc
  rw [e1]
  obtain ⟨d, g1, _, g3⟩ := last_get hg.1 hg.2.1
  have hd := hg.2.2 d g3
  simp only [g1]
  obtain ⟨x, c2, e2, hx, hc2⟩ := dlt_ok hc1 hd.1 (by omega)
  rw [e2]
  exact ⟨g, x, rfl, hg, hx⟩
theorem sameL_self {α : Type} {f : α → α → Bool} (hf : ∀ x, f x x = true) (l : List α) : sameL f l l = true := by
  unfold sameL
  rw [bad_none (fun i hi => by rw [atB_lt hi, hf]; rfl)]
  simp
theorem relEq_self (r : Int × List (List Int)) : relEq r r = true := by
  unfold relEq rowsEq
  rw [sameL_self (fun x => by simp)]
  simp
theorem dbEq_self (d : List Tbl) : dbEq d d = true := by
  unfold dbEq
  exact sameL_self (fun t => by rw [relEq_self]; simp) d
theorem s_histEq {h : Hst} (hs : smHist h) : spec_EqualHistories h h = some true := by
  unfold spec_EqualHistories
  have e1 : (h.1 != h.1) = false := by simp
  have e2 : ((h.2.length : Int) != (h.2.length : Int)) = false := by simp
  rw [e1, e2]
  simp only [cond_false]
  have := loop_to (body := spec_EqualHistories_B1 h h) (out := (.inl () : Sum Unit Bool)) (fun k => (k : Int)) h.2.length (fun k hk rec => by
    unfold spec_EqualHistories_B1
    rw [lt_dec hk, geti_at hk, wrap_s hk (lim_max hs.1)]
    simp only [cond_true, obind]
    rw [s_dbEq (hs.2 _ (List.getElem_mem hk)), dbEq_self]; rfl) (fun rec => by unfold spec_EqualHistories_B1; rw [nlt_dec]; rfl) fz (lt_fz hs.1)
  have h2 : loopF (spec_EqualHistories_B1 h h) fz 0 = some (.inl ()) := this
  rw [h2]; rfl
/-- what a history that holds says -/
theorem hist_in {h : Hst} (hv : histB h = true) : 1 ≤ h.1 ∧ h.1 ≤ 100 - (h.2.length : Int) := by
  have hf := hist_facts hv
  unfold histB btw at hv
  simp only [Bool.and_eq_true, Bool.not_eq_true', decide_eq_true_eq] at hv
  have := hv.2.2
  rw [wrap_in (n := 99 - (h.2.length : Int)) (by omega), wrap_in (by omega)] at this
  omega
theorem hist_of {h : Hst} (h1 : 1 ≤ h.2.length) (h2 : h.2.length ≤ 6) (h3 : ∀ d ∈ h.2, dbB d = true) (h4 : 1 ≤ h.1) (h5 : h.1 ≤ 100 - (h.2.length : Int)) : histB h = true := by
  unfold histB btw
  rw [bad_none (fun i hi => by rw [h3 _ (List.getElem_mem hi)]; rfl), wrap_in (n := 99 - (h.2.length : Int)) (by omega), wrap_in (by omega)]
  simp only [Bool.not_false, Bool.true_and, Bool.and_eq_true, decide_eq_true_eq]
  omega
theorem snap_in {h : Hst} (hs : smHist h) (hv : histB h = true) {k : Nat} (hk : k < h.2.length) {v : Int} (e : v = h.1 + (k : Int)) : spec_SnapshotAt h v = some (h.2[k], true) ∧ impl_SnapshotAt h v = some (h.2[k], true) := by
  have hf := hist_facts hv
  have hi := hist_in hv
  have hm := hs.2 _ (List.getElem_mem hk)
  have hb : btw v h.1 (IntKind.i64.wrap ((IntKind.i64.wrap (h.1 + (List.length h.2 : Int))) - 1)) = true := by
    rw [wrap_in (n := h.1 + (h.2.length : Int)) (by omega), wrap_in (by omega)]
    unfold btw
    rw [Bool.and_eq_true, decide_eq_true_eq, decide_eq_true_eq]; omega
  have hg : geti h.2 (IntKind.i64.wrap (v - h.1)) = some h.2[k] := by
    rw [wrap_in (by omega), show v - h.1 = (k : Int) by omega, geti_at hk]
  constructor
  · unfold spec_SnapshotAt
    simp only [s_hist hs, hv, obind, s_l1In, hb, Bool.not_true, cond_false, hg, s_copyD hm]
  · unfold impl_SnapshotAt
    simp only [i_hist hs, hv, obind, i_within, hb, Bool.not_true, cond_false, hg, i_copyD hm]
theorem snap_out {h : Hst} (hs : smHist h) (hv : histB h = true) {v : Int} (e : h.1 + (h.2.length : Int) ≤ v) : impl_SnapshotAt h v = some ([], false) := by
  have hf := hist_facts hv
  have hi := hist_in hv
  have hb : btw v h.1 (IntKind.i64.wrap ((IntKind.i64.wrap (h.1 + (List.length h.2 : Int))) - 1)) = false := by
    rw [wrap_in (n := h.1 + (h.2.length : Int)) (by omega), wrap_in (by omega)]
    unfold btw
    rw [Bool.and_eq_false_iff, decide_eq_false_iff_not, decide_eq_false_iff_not]; omega
  unfold impl_SnapshotAt
  simp only [i_hist hs, hv, obind, i_within, hb, Bool.not_true, Bool.not_false, cond_false, cond_true]
theorem law_FnSnapshots {b : List Int} (k : ok22 b) : laws_FnSnapshots b = some true := by
  by_cases hb : 1048576 < b.length
  · unfold laws_FnSnapshots laws_big
    rw [decide_eq_true (by omega : (1048576 : Int) < (b.length : Int))]
    rfl
  unfold laws_FnSnapshots laws_big
  rw [decide_eq_false (by omega : ¬ (1048576 : Int) < (b.length : Int))]
  simp only [obind, cond_false]
  obtain ⟨h, x, e, hh, hx⟩ := draw_as (b := b) (by omega)
  rw [e]
  simp only [i_as hh.sm hx, s_as hh.sm hx, BEq.rfl, Bool.not_true, cond_false]
  by_cases hc : (histB h && (!decide ((6 : Int) ≤ (h.2.length : Int)) && !decide (99 < IntKind.i64.wrap (h.1 + (h.2.length : Int))))) = true
  · rw [Bool.and_eq_true, Bool.and_eq_true, Bool.not_eq_true', Bool.not_eq_true', decide_eq_false_iff_not, decide_eq_false_iff_not] at hc
    obtain ⟨hv, c1, c2⟩ := hc
    have hf := hist_facts hv
    have hi := hist_in hv
    rw [wrap_in (by omega)] at c2
    obtain ⟨d, g1, g2, g3⟩ := last_get hf.1 hf.2.1
    have hdm := hh.2.2 d g3
    have ea : asB h x = cond (applB d x).2 ((h.1, h.2 ++ [(applB d x).1]), true) (h, false) := by
      unfold asB
      rw [hv, wrap_in (by omega), decide_eq_false (by omega), decide_eq_false (by omega), g2]
      rfl
    rw [ea]
    cases hap : (applB d x).2 with
    | false =>
      simp only [cond_false, Bool.not_false, cond_true, s_histEq hh.sm, Bool.not_true, laws_FnSnapshots_J1]
    | true =>
      have hok := app_ok hap
      simp only [cond_true, Bool.not_true, cond_false, laws_FnSnapshots_J1]
      have hG : histB (h.1, h.2 ++ [(applB d x).1]) = true := by
        refine hist_of ?_ ?_ ?_ ?_ ?_
        · simp
        · simp; omega
        · intro y hy
          rcases List.mem_append.1 hy with hy | hy
          · exact hf.2.2 y hy
          · rw [List.mem_singleton] at hy; subst hy; exact hok
        · simp only; omega
        · simp only [List.length_append, List.length_singleton]; omega
      have hGs : smHist (h.1, h.2 ++ [(applB d x).1]) := by
        refine ⟨by unfold lim; simp; omega, fun y hy => ?_⟩
        rcases List.mem_append.1 hy with hy | hy
        · exact (hh.2.2 y hy).1
        · rw [List.mem_singleton] at hy; subst hy; exact (db_smB hok).1
      have eN : IntKind.i64.wrap ((IntKind.i64.wrap (h.1 + (List.length h.2 : Int))) - 1) = h.1 + (h.2.length : Int) - 1 := by
        rw [wrap_in (n := h.1 + (h.2.length : Int)) (by omega), wrap_in (by omega)]
      have hloop : loopF (laws_FnSnapshots_B2 (h, x) ((h.1, h.2 ++ [(applB d x).1]), true)) fz h.1 = some (.inl ()) := by
        have := loop_to (body := laws_FnSnapshots_B2 (h, x) ((h.1, h.2 ++ [(applB d x).1]), true)) (out := (.inl () : Sum Unit Bool)) (fun k => h.1 + (k : Int)) h.2.length (fun k hk rec => by
          unfold laws_FnSnapshots_B2
          simp only
          rw [eN, decide_eq_true (by omega)]
          have hk' : k < (h.2 ++ [(applB d x).1]).length := by rw [List.length_append]; omega
          have e1 := (snap_in hGs hG (k := k) hk' (v := h.1 + (k : Int)) rfl).2
          have e2 := (snap_in hh.sm hv (k := k) hk (v := h.1 + (k : Int)) rfl).1
          have e3 : (h.2 ++ [(applB d x).1])[k] = h.2[k] := List.getElem_append_left hk
          simp only at e1
          rw [e3] at e1
          simp only [cond_true, obind, e1, e2, Bool.not_true, cond_false, s_dbEq (hh.sm.2 _ (List.getElem_mem hk)), dbEq_self]
          rw [wrap_in (by omega)]
          congr 1
          omega) (fun rec => by
          unfold laws_FnSnapshots_B2
          simp only
          rw [eN, decide_eq_false (by omega)]; rfl) fz (by unfold fz; omega)
        simpa using this
      rw [hloop]
      simp only [eN]
      have hlast : h.2.length < (h.2 ++ [(applB d x).1]).length := by simp
      have e4 := (snap_in hGs hG (k := h.2.length) hlast (v := h.1 + (h.2.length : Int)) rfl).2
      have e5 : (h.2 ++ [(applB d x).1])[h.2.length] = (applB d x).1 := by simp
      simp only at e4
      rw [e5] at e4
      have e6 := snap_out hGs hG (v := h.1 + (h.2.length : Int) + 1) (by simp only [List.length_append, List.length_singleton]; omega)
      rw [show h.1 + (h.2.length : Int) - 1 + 1 = h.1 + (h.2.length : Int) by omega, show h.1 + (h.2.length : Int) - 1 + 2 = h.1 + (h.2.length : Int) + 1 by omega, wrap_in (n := h.1 + (h.2.length : Int)) (by omega), wrap_in (n := h.1 + (h.2.length : Int) + 1) (by omega)]
      simp only [e4, e6, obind, g1, s_app hdm.1 (by unfold lim; omega) hx, s_dbEq (db_smB hok).1, dbEq_self, cond_true, Bool.not_false, s_hist hGs, hG]
      rfl
  · have ea : asB h x = (h, false) := by
      unfold asB
      rw [show (histB h && (!decide ((6 : Int) ≤ (h.2.length : Int)) && !decide (99 < IntKind.i64.wrap (h.1 + (h.2.length : Int))))) = false from by simpa using hc]
      rfl
    rw [ea]
    simp only [Bool.not_false, cond_true, s_histEq hh.sm, Bool.not_true, laws_FnSnapshots_J1, cond_false]
end Go.Proofs.Ytcoalfphehhadaa
