/-
 AdvanceCursor: the reference and the program give the same, and how much. No conditions.
-/
import Derived.Test.YtlknpohjnpnodaaGreatLkSC1
import Derived.Test.YtlknpohjnpnodaaGreatSqSC1
namespace Go.Proofs.YtlknpohjnpnodaaGreat
open Go.RowKit
set_option linter.unusedVariables false
set_option linter.unusedSimpArgs false
section
variable {d : List Tbl} {q : Qry} {o : List Int}
theorem kI (h : Kb d) (hq : smQ q) (ho : o.length <= lim) (last : List Int) : FY d q o last = some (njB d q o last) := by
 unfold FY njB
 rw [kH h hq ho]
 simp only [Ad]
 have hs := Zi (d := d) (o := o) hq
 generalize ljB d q o = z at hs
 cases hz : z.2.2 with
 | false => rfl
 | true =>
  have := LK (a := z.1.2) (B := Eo last z) (fun r => ((last.length : Int) == 0) || decide (0 < Ej r last)) (fun r => (r, true)) hs.1 (fun k hk rec => by
   unfold Eo
   rw [G1, AC hk, XG hk, AH hk (Ax hs.1)]
   simp only [cond_true, Ad]
   rw [OB (hs.2 _ (List.getElem_mem hk)), Am (X8 hk)]
   cases ((last.length : Int) == 0) with
   | true => rfl
   | false =>
    simp only [cond_false, Bool.false_or]
    ) (fun rec => by unfold Eo; rw [G1, Ay]; rfl)
  simp only [cond_true]
  rw [this]
  cases z.1.2.find? fun r => ((last.length : Int) == 0) || decide (0 < Ej r last) <;> rfl
end
theorem bo {h : Hst} {c : Int × List Int × List Int × Qry} (hs : Hw h) (hc : smC c) : DL h c = some (Mr h c) := by
 unfold DL Mr
 obtain ⟨c1, c2, c3⟩ := hc
 rw [Jq c1]
 simp only [Ad]
 rw [Jq c2]
 simp only
 rw [YT c3]
 simp only
 rw [(VN hs c.1).2]
 simp only
 cases hv : (snB h c.1).2 with
 | false => rfl
 | true =>
  simp only [Bool.not_true, cond_false, cond_true]
  rw [kI (eL hs c.1) c3 c1 c.2.2.1]
  simp only
  cases (njB (snB h c.1).1 c.2.2.2 c.2.1 c.2.2.1).2 with
  | false => rfl
  | true =>
   simp only [Bool.not_true, cond_false, cond_true]
   rw [Jq (WU c3 c.2.2.1)]
end Go.Proofs.YtlknpohjnpnodaaGreat
