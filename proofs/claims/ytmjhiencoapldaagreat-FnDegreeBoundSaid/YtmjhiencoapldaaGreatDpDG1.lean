/-
  DegreeBound holds. Conditions: none.
-/
import Derived.Test.YtmjhiencoapldaaGreatDbDG1
import Derived.Test.YtmjhiencoapldaaGreatDlDG1
import Derived.Test.YtmjhiencoapldaaGreatAdDG1
import Derived.Test.YtmjhiencoapldaaGreatHpDG1
-- pure
namespace Go.Proofs.YtmjhiencoapldaaGreat
open Go.RowKit
set_option linter.unusedVariables false
set_option linter.unusedSimpArgs false
theorem draw_deg {b : List Int} (h : b.length ≤ 1048576) : ∃ d q o, spec_DrawDegreeBound b = some (d, q, o) ∧ smDb d ∧ smQ q ∧ o.length ≤ lim := by
  unfold spec_DrawDegreeBound spec_DrawBuildTries
  obtain ⟨c, e, hc⟩ := new_ok h
  rw [e]
  simp only [obind]
  unfold spec_l20Draw
  obtain ⟨d, q, c1, e1, hd, hq, hc1⟩ := both_ok hc
  rw [e1]
  simp only [obind]
  obtain ⟨o, c2, e2, ho, hc2⟩ := ord_ok hc1 q
  rw [e2]
  exact ⟨d, q, o, rfl, hd.sm, hq.sm, by unfold lim; omega⟩
theorem draw_dom {b : List Int} (h : b.length ≤ 1048576) : ∃ d, spec_DrawActiveDomain b = some d ∧ smDb d := by
  unfold spec_DrawActiveDomain
  obtain ⟨c, e, hc⟩ := new_ok h
  rw [e]
  simp only [obind]
  obtain ⟨d, c1, e1, hd, hc1⟩ := dany_ok hc
  rw [e1]
  exact ⟨d, rfl, hd.sm⟩
theorem same_slf {a : List Int} (h : a.length ≤ lim) : laws_sameInts a a = some true := by
  unfold laws_sameInts
  have e : ((a.length : Int) != (a.length : Int)) = false := by simp
  rw [e]
  simp only [cond_false]
  have := loop_to (body := laws_sameInts_B1 a a) (out := (.inl () : Sum Unit Bool)) (fun k => (k : Int)) a.length (fun k hk rec => by
    unfold laws_sameInts_B1
    rw [lt_dec hk, geti_at hk, wrap_s hk (lim_max h)]
    simp only [cond_true, obind]
    have : (a[k] != a[k]) = false := by simp
    rw [this]; rfl) (fun rec => by unfold laws_sameInts_B1; rw [nlt_dec]; rfl) fz (lt_fz h)
  have h2 : loopF (laws_sameInts_B1 a a) fz 0 = some (.inl ()) := by simpa using this
  rw [h2]; rfl
theorem law_FnDegreeBound {b : List Int} (k : ok22 b) : laws_FnDegreeBound b = some true := by
  by_cases hb : 1048576 < b.length
  · unfold laws_FnDegreeBound laws_big
    rw [decide_eq_true (by omega : (1048576 : Int) < (b.length : Int))]
    rfl
  unfold laws_FnDegreeBound laws_big
  rw [decide_eq_false (by omega : ¬ (1048576 : Int) < (b.length : Int))]
  simp only [obind, cond_false]
  obtain ⟨d, q, o, e, hd, hq, ho⟩ := draw_deg (b := b) (by omega)
  obtain ⟨d2, e2, hd2⟩ := draw_dom (b := b) (by omega)
  rw [e]
  have hl : (adB d2).length ≤ lim := by have := ad_len (d := d2); unfold lim; omega
  simp only [i_deg hd hq ho, s_deg hd hq ho, e2, i_ad hd2, s_ad hd2, same_slf hl, BEq.rfl, cond_true]
  cases hbd : (degB d q o).2 with
  | false => rfl
  | true =>
    obtain ⟨r, e3, r1, r2, r3⟩ := s_all hd hq
    rw [e3]
    have hq2 : qforB d q = true := by
      cases h : qforB d q with
      | true => rfl
      | false => unfold degB at hbd; rw [h] at hbd; cases hbd
    obtain ⟨n1, n2⟩ := r3 hq2
    have := deg_bound hbd r1 n1 n2
    simp only [Bool.not_true, cond_false]
    rw [decide_eq_true this]
    rfl
end Go.Proofs.YtmjhiencoapldaaGreat
