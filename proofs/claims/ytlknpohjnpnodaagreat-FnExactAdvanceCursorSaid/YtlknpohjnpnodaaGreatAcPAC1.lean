/-
  AdvanceCursor: the reference and the program give the same, and how much. No conditions.
-/
import Derived.Test.YtlknpohjnpnodaaGreatAcAC1
import Derived.Test.YtlknpohjnpnodaaGreatHpAC1
-- pure
namespace Go.Proofs.YtlknpohjnpnodaaGreat
open Go.RowKit
set_option linter.unusedVariables false
set_option linter.unusedSimpArgs false
theorem sm_qryA {q : Qry} (h : sm_Query q) : smQ q := ⟨sm_lim h.1.1, fun a ha => ⟨sm_lim (h.1.2 a ha).1, sm_lim (h.1.2 a ha).2⟩, sm_lim h.2⟩
theorem wk_len {T : List Tri} {q : Qry} {o : List Int} (h : TriesOk T q o) (h16 : ∀ t ∈ T, t.2.length ≤ 16) {z : List Int} (hz : z ∈ (wk T q o o.length []).1) : z.length ≤ 5 := by
  have h1 := ((wk_few h h16 o.length [] (by simp)).2 z hz).1
  have ho := ord_all h.ov
  have hqn := qry_n h.qv
  omega
theorem nj_five {d : List Tbl} {q : Qry} {o : List Int} (hq : smQ q) (last : List Int) : (njB d q o last).1.length ≤ 5 := by
  unfold njB
  cases hlj : (ljB d q o).2.2 with
  | false => exact Nat.zero_le _
  | true =>
    simp only [cond_true]
    cases he : (ljB d q o).1.2.find? fun r => ((last.length : Int) == 0) || decide (0 < cmpB r last) with
    | none => exact Nat.zero_le _
    | some r =>
      have hm := List.mem_of_find?_eq_some he
      simp only
      unfold ljB at hm
      cases hf : qforB d q with
      | false => rw [hf] at hm; cases hm
      | true =>
        cases hor : ordB q o with
        | false => rw [hf, hor] at hm; cases hm
        | true =>
          rw [hf, hor] at hm
          simp only [Bool.and_self, cond_true] at hm
          have hT := tries_ok (d := d) hq hf hor
          rw [show q.2.1.map (trieB d o) = trs d q o from rfl] at hT
          rw [nr_wk hT (trs_16 hf hor)] at hm
          cases hem : emB (trs d q o) with
          | true => rw [hem] at hm; cases hm
          | false =>
            rw [hem] at hm
            cases hd : decide (((wk (trs d q o) q o o.length []).1.length : Int) ≤ 4000) with
            | false => rw [hd] at hm; cases hm
            | true =>
              rw [hd] at hm
              exact wk_len hT (trs_16 hf hor) hm
theorem pure_AdvanceCursor {h : Hst} {c : Int × List Int × List Int × Qry} (s0 : sm_History h) (s1 : sm_Cursor c) (k0 : ok54 h) (k1 : ok59 c) : ∃ r, spec_AdvanceCursor h c = some r ∧ impl_AdvanceCursor h c = some r ∧ sm_Cursor r.1 ∧ sm_IntS r.2.1 := by
  have hs := sm_histA s0
  have hc : smC c := ⟨sm_lim s1.1, sm_lim s1.2.1, sm_qryA s1.2.2⟩
  refine ⟨_, s_adv hs hc, i_adv hs hc, ?_⟩
  have h5 := nj_five (d := (snB h c.1).1) (o := c.2.1) hc.2.2 c.2.2.1
  unfold cadB
  cases (snB h c.1).2 with
  | false => exact ⟨s1, Nat.zero_le _⟩
  | true =>
    simp only [cond_true]
    cases (njB (snB h c.1).1 c.2.2.2 c.2.1 c.2.2.1).2 with
    | false => exact ⟨s1, Nat.zero_le _⟩
    | true =>
      have h6 : List.length (njB (snB h c.1).1 c.2.2.2 c.2.1 c.2.2.1).1 ≤ 1048576 := by omega
      exact ⟨⟨s1.1, h6, s1.2.2⟩, h6⟩
end Go.Proofs.YtlknpohjnpnodaaGreat
