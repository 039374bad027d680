/-
  AppendSnapshot: the reference and the program give the same, and how much. No conditions.
-/
import Derived.Test.YtmjhiencoapldaaGreatApDS1
import Derived.Test.YtmjhiencoapldaaGreatSnDS1
import Derived.Test.YtmjhiencoapldaaGreatSmDS1
-- pure
namespace Go.Proofs.YtmjhiencoapldaaGreat
open Go.RowKit
set_option linter.unusedVariables false
set_option linter.unusedSimpArgs false
abbrev Hst := Int × List (List Tbl)
theorem s_copyH {h : Hst} (hs : smHist h) : spec_l33Copy h = some h := by
  unfold spec_l33Copy
  rw [map_loop (a := h.2) (h := id) hs.1 (fun k hk rec => by
    have hr := hs.2 _ (List.getElem_mem hk)
    unfold spec_l33Copy_B1
    simp only
    rw [lt_dec hk, geti_at hk, wrap_s hk (lim_max hs.1)]
    simp only [cond_true, obind, s_copyD hr]
    rw [chk_pos (by simp only [List.length_map, List.length_take, List.length_singleton]; have := hs.1; omega)]
    rfl) (fun rec y => by unfold spec_l33Copy_B1; simp only; rw [nlt_dec]; rfl)]
  simp [obind]
theorem i_copyH {h : Hst} (hs : smHist h) : impl_copyHistory h = some h := by
  unfold impl_copyHistory
  rw [map_loop (a := h.2) (h := id) hs.1 (fun k hk rec => by
    have hr := hs.2 _ (List.getElem_mem hk)
    unfold impl_copyHistory_B1
    simp only
    rw [lt_dec hk, geti_at hk, wrap_s hk (lim_max hs.1)]
    simp only [cond_true, obind, i_copyD hr]
    rw [chk_pos (by simp only [List.length_map, List.length_take, List.length_singleton]; have := hs.1; omega)]
    rfl) (fun rec y => by unfold impl_copyHistory_B1; simp only; rw [nlt_dec]; rfl)]
  simp [obind]
theorem db_fewA {d : List Tbl} (h : dbB d = true) : d.length ≤ 6 ∧ ∀ t ∈ d, t.1.length ≤ 4 ∧ t.2.2.length ≤ 4000 ∧ ∀ r ∈ t.2.2, r.length ≤ 5 := by
  simp only [dbB, Bool.and_eq_true, decide_eq_true_eq, Bool.not_eq_true'] at h
  refine ⟨by omega, fun t ht => ?_⟩
  obtain ⟨k, hk, rfl⟩ := List.mem_iff_getElem.1 ht
  have hb := badAny_f h.2 hk
  simp only [tblBad, Bool.or_eq_false_iff, Bool.not_eq_false'] at hb
  obtain ⟨⟨⟨⟨h1, _⟩, h3⟩, _⟩, _⟩ := hb
  obtain ⟨h4, h5, h6, _⟩ := (rel_iff _).1 h3
  refine ⟨?_, h5, fun r hr => by have := (h6 r hr).1; omega⟩
  simp only [nmB, Bool.and_eq_true, btw, decide_eq_true_eq] at h1
  omega
def asB (h : Hst) (x : Dlt) : Hst × Bool :=
  cond (histB h && (!decide ((6 : Int) ≤ (h.2.length : Int)) && !decide (99 < IntKind.i64.wrap (h.1 + (h.2.length : Int))))) (match h.2.getLast? with
    | some d => cond (applB d x).2 ((h.1, h.2 ++ [(applB d x).1]), true) (h, false)
    | none => (h, false)) (h, false)
theorem hist_facts {h : Hst} (hv : histB h = true) : 1 ≤ h.2.length ∧ h.2.length ≤ 6 ∧ ∀ d ∈ h.2, dbB d = true := by
  unfold histB btw at hv
  simp only [Bool.and_eq_true, Bool.not_eq_true', decide_eq_true_eq] at hv
  refine ⟨by omega, by omega, fun d hd => ?_⟩
  obtain ⟨k, hk, rfl⟩ := List.mem_iff_getElem.1 hd
  have := badAny_f hv.1 hk
  simpa using this
theorem last_get {h : Hst} (h1 : 1 ≤ h.2.length) (h2 : h.2.length ≤ 6) : ∃ d, geti h.2 (IntKind.i64.wrap ((h.2.length : Int) - 1)) = some d ∧ h.2.getLast? = some d ∧ d ∈ h.2 := by
  have hlt : h.2.length - 1 < h.2.length := by omega
  refine ⟨h.2[h.2.length - 1], ?_, ?_, List.getElem_mem hlt⟩
  · rw [wrap_in ⟨by omega, by omega⟩, show (h.2.length : Int) - 1 = ((h.2.length - 1 : Nat) : Int) by omega, geti_at hlt]
  · rw [List.getLast?_eq_getElem?, List.getElem?_eq_getElem hlt]
theorem s_as {h : Hst} {x : Dlt} (hs : smHist h) (hx : smD x) : spec_AppendSnapshot h x = some (asB h x) := by
  unfold spec_AppendSnapshot asB
  simp only [s_copyH hs, s_hist hs, obind]
  cases hv : histB h with
  | false => rfl
  | true =>
    obtain ⟨h1, h2, h3⟩ := hist_facts hv
    obtain ⟨d, e1, e2, e3⟩ := last_get h1 h2
    have e6 : ((h.2.length : Int) == 6) = decide ((6 : Int) ≤ (h.2.length : Int)) := by
      rw [Bool.eq_iff_iff, beq_iff_eq, decide_eq_true_eq]; omega
    simp only [Bool.not_true, cond_false, Bool.true_and, e6, e1, e2]
    cases decide ((6 : Int) ≤ (h.2.length : Int)) with
    | true => rfl
    | false =>
      cases decide (99 < IntKind.i64.wrap (h.1 + (h.2.length : Int))) with
      | true => rfl
      | false =>
        simp only [cond_false, Bool.not_false, Bool.and_self, cond_true]
        have hd := (db_fewA (h3 d e3)).1
        rw [s_app (hs.2 d e3) (by unfold lim; omega) hx]
        simp only
        rw [chk_pos (by unfold lim; simp; omega)]
        cases (applB d x).2 <;> rfl
end Go.Proofs.YtmjhiencoapldaaGreat
