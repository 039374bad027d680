/-
  Cursors: what the reference gives. On the printed functions; conditions: sizes.
-/
import Derived.Test.YtlknpohjnpnodaaGreatLnAC1
import Derived.Test.YtlknpohjnpnodaaGreatAsAC1
import Derived.Test.YtlknpohjnpnodaaGreatSnAC1
-- pure
namespace Go.Proofs.YtlknpohjnpnodaaGreat
open Go.RowKit
set_option linter.unusedVariables false
set_option linter.unusedSimpArgs false
/-- what a history that holds says -/
theorem hist_in {h : Hst} (hv : histB h = true) : 1 ≤ h.1 ∧ h.1 ≤ 100 - (h.2.length : Int) := by
  have hf := hist_facts hv
  unfold histB btw at hv
  simp only [Bool.and_eq_true, Bool.not_eq_true', decide_eq_true_eq] at hv
  have := hv.2.2
  rw [wrap_in (n := 99 - (h.2.length : Int)) (by omega), wrap_in (by omega)] at this
  omega
/-- the snapshot of a version -/
def snB (h : Hst) (v : Int) : List Tbl × Bool := cond (histB h && btw v h.1 (h.1 + (h.2.length : Int) - 1)) ((h.2[(v - h.1).toNat]?).getD [], true) ([], false)
theorem sn_both {h : Hst} (hs : smHist h) (v : Int) : spec_SnapshotAt h v = some (snB h v) ∧ impl_SnapshotAt h v = some (snB h v) := by
  unfold spec_SnapshotAt impl_SnapshotAt snB
  simp only [s_hist hs, i_hist hs, obind, s_l1In, i_within]
  cases hv : histB h with
  | false => exact ⟨rfl, rfl⟩
  | true =>
    have hf := hist_facts hv
    have hi := hist_in hv
    rw [wrap_in (n := h.1 + (h.2.length : Int)) (by omega), wrap_in (n := h.1 + (h.2.length : Int) - 1) (by omega)]
    simp only [Bool.not_true, cond_false, Bool.true_and]
    cases hb : btw v h.1 (h.1 + (h.2.length : Int) - 1) with
    | false => exact ⟨rfl, rfl⟩
    | true =>
      unfold btw at hb
      rw [Bool.and_eq_true, decide_eq_true_eq, decide_eq_true_eq] at hb
      have hk : (v - h.1).toNat < h.2.length := by omega
      have hm := hs.2 _ (List.getElem_mem hk)
      have hg : geti h.2 (IntKind.i64.wrap (v - h.1)) = some h.2[(v - h.1).toNat] := by
        rw [wrap_in (by omega)]
        conv => lhs; rw [show v - h.1 = (((v - h.1).toNat : Nat) : Int) by omega]
        exact geti_at hk
      simp only [Bool.not_true, cond_false, cond_true, hg, s_copyD hm, i_copyD hm, List.getElem?_eq_getElem hk, Option.getD_some]
      exact ⟨trivial, trivial⟩
theorem sn_sm {h : Hst} (hs : smHist h) (v : Int) : smDb (snB h v).1 := by
  unfold snB
  cases (histB h && btw v h.1 (h.1 + (h.2.length : Int) - 1)) with
  | false => exact ⟨Nat.zero_le _, fun t ht => (by cases ht)⟩
  | true =>
    show smDb ((h.2[(v - h.1).toNat]?).getD [])
    rcases Nat.lt_or_ge (v - h.1).toNat h.2.length with hk | hk
    · rw [List.getElem?_eq_getElem hk]; exact hs.2 _ (List.getElem_mem hk)
    · rw [List.getElem?_eq_none hk]; exact ⟨Nat.zero_le _, fun t ht => (by cases ht)⟩
/-! ### cursors -/
def smC (c : (Int × List Int × List Int × Qry)) : Prop := c.2.1.length ≤ lim ∧ c.2.2.1.length ≤ lim ∧ smQ c.2.2.2
def cadB (h : Hst) (c : (Int × List Int × List Int × Qry)) : (Int × List Int × List Int × Qry) × List Int × Bool := cond (snB h c.1).2 (cond (njB (snB h c.1).1 c.2.2.2 c.2.1 c.2.2.1).2 ((c.1, c.2.1, (njB (snB h c.1).1 c.2.2.2 c.2.1 c.2.2.1).1, c.2.2.2), (njB (snB h c.1).1 c.2.2.2 c.2.1 c.2.2.1).1, true) (c, [], false)) (c, [], false)
theorem s_csr {c : (Int × List Int × List Int × Qry)} (hc : smC c) : spec_l33Cursor c = some c := by
  unfold spec_l33Cursor
  obtain ⟨h1, h2, h3⟩ := hc
  rw [chk_pos (by simp only [List.length_nil]; omega), chk_pos (by simp only [List.length_nil]; omega), s_copyQ h3]
  rfl
theorem s_adv {h : Hst} {c : (Int × List Int × List Int × Qry)} (hs : smHist h) (hc : smC c) : spec_AdvanceCursor h c = some (cadB h c) := by
  unfold spec_AdvanceCursor cadB
  rw [s_csr hc, (sn_both hs c.1).1]
  simp only [obind]
  cases hv : (snB h c.1).2 with
  | false => rfl
  | true =>
    simp only [Bool.not_true, cond_false, cond_true]
    rw [s_nj (sn_sm hs c.1) hc.2.2 hc.1 c.2.2.1]
    simp only
    cases (njB (snB h c.1).1 c.2.2.2 c.2.1 c.2.2.1).2 with
    | false => rfl
    | true =>
      simp only [Bool.not_true, cond_false, cond_true, List.nil_append]
      rw [chk_pos (by have := nj_sm (d := (snB h c.1).1) (o := c.2.1) hc.2.2 c.2.2.1; simp only [List.length_nil]; omega)]
end Go.Proofs.YtlknpohjnpnodaaGreat
