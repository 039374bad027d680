/-
  AdvanceCursor: the reference and the program give the same, and how much. No conditions.
-/
import Derived.Test.YtlknpohjnpnodaaGreatLkAC1
import Derived.Test.YtlknpohjnpnodaaGreatSqAC1
-- pure
namespace Go.Proofs.YtlknpohjnpnodaaGreat
open Go.RowKit
set_option linter.unusedVariables false
set_option linter.unusedSimpArgs false
section
variable {d : List Tbl} {q : Qry} {o : List Int}
theorem i_nj (h : smDb d) (hq : smQ q) (ho : o.length ≤ lim) (last : List Int) : impl_NextJoinRow d q o last = some (njB d q o last) := by
  unfold impl_NextJoinRow njB
  rw [i_lj h hq ho]
  simp only [obind]
  have hs := lj_sm (d := d) (o := o) hq
  generalize ljB d q o = z at hs
  cases hz : z.2.2 with
  | false => rfl
  | true =>
    have := find_loop (a := z.1.2) (B := impl_NextJoinRow_B2 last z) (fun r => ((last.length : Int) == 0) || decide (0 < cmpB r last)) (fun r => (r, true)) hs.1 (fun k hk rec => by
      unfold impl_NextJoinRow_B2
      rw [enumP_len, lt_dec hk, en_get hk, wrap_s hk (lim_max hs.1)]
      simp only [cond_true, obind]
      rw [i_cmp (hs.2 _ (List.getElem_mem hk)), chk_pos (okJ_at hk)]
      cases ((last.length : Int) == 0) with
      | true => rfl
      | false =>
        simp only [cond_false, Bool.false_or]
        ) (fun rec => by unfold impl_NextJoinRow_B2; rw [enumP_len, nlt_dec]; rfl)
    simp only [cond_true]
    rw [this]
    cases z.1.2.find? fun r => ((last.length : Int) == 0) || decide (0 < cmpB r last) <;> rfl
end
theorem i_adv {h : Hst} {c : Int × List Int × List Int × Qry} (hs : smHist h) (hc : smC c) : impl_AdvanceCursor h c = some (cadB h c) := by
  unfold impl_AdvanceCursor cadB
  obtain ⟨c1, c2, c3⟩ := hc
  rw [i_copyI c1]
  simp only [obind]
  rw [i_copyI c2]
  simp only
  rw [i_copyQ c3]
  simp only
  rw [(sn_both hs c.1).2]
  simp only
  cases hv : (snB h c.1).2 with
  | false => rfl
  | true =>
    simp only [Bool.not_true, cond_false, cond_true]
    rw [i_nj (sn_sm hs c.1) c3 c1 c.2.2.1]
    simp only
    cases (njB (snB h c.1).1 c.2.2.2 c.2.1 c.2.2.1).2 with
    | false => rfl
    | true =>
      simp only [Bool.not_true, cond_false, cond_true]
      rw [i_copyI (nj_sm c3 c.2.2.1)]
end Go.Proofs.YtlknpohjnpnodaaGreat
