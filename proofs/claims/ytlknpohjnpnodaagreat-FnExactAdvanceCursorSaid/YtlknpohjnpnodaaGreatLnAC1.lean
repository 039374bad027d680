/-
  The next row of the join, as the reference looks for it. On the printed functions; conditions: sizes.
-/
import Derived.Test.YtlknpohjnpnodaaGreatLjAC1
-- pure
namespace Go.Proofs.YtlknpohjnpnodaaGreat
open Go.RowKit
set_option linter.unusedVariables false
set_option linter.unusedSimpArgs false
theorem enumP_at {α : Type} : ∀ (l : List α) (k i : Nat), (enumP k l)[i]? = (l[i]?).map fun x => (k + i, x)
  | [], k, i => by simp [enumP]
  | x :: l, k, 0 => by simp [enumP]
  | x :: l, k, i + 1 => by
    rw [enumP, List.getElem?_cons_succ, List.getElem?_cons_succ, enumP_at l (k + 1) i]
    congr 1
    funext y
    rw [show k + 1 + i = k + (i + 1) by omega]
theorem en_get {α : Type} {l : List α} {k : Nat} (hk : k < l.length) : geti (enumP 0 l) (k : Int) = some (k, l[k]) := by
  rw [geti_nat, enumP_at, List.getElem?_eq_getElem hk, Option.map_some, Nat.zero_add]
theorem okJ_at {l : List (List Int)} {k : Nat} (hk : k < l.length) : okJ l [Sum.inl (k, l[k])] [] = true := by
  simp only [okJ]
  rw [List.getElem?_eq_getElem hk]
  simp
section
variable {d : List Tbl} {q : Qry} {o : List Int}
theorem s_nj (h : smDb d) (hq : smQ q) (ho : o.length ≤ lim) (last : List Int) : spec_NextJoinRow d q o last = some (njB d q o last) := by
  unfold spec_NextJoinRow njB
  rw [s_lj h hq ho]
  simp only [obind]
  have hs := lj_sm (d := d) (o := o) hq
  generalize ljB d q o = z at hs
  cases hz : z.2.2 with
  | false =>
    have : loopF (spec_NextJoinRow_B1 last z) fz 0 = some (.inl ()) := loop_to (body := spec_NextJoinRow_B1 last z) (fun _ => (0 : Int)) 0 (fun k hk => absurd hk (by omega)) (fun rec => by
      unfold spec_NextJoinRow_B1
      rw [hz]
      cases decide ((0 : Int) < ((enumP 0 z.1.2).length : Int)) <;> rfl) fz (by unfold fz; omega)
    rw [this]; rfl
  | true =>
    have := find_loop (a := z.1.2) (B := spec_NextJoinRow_B1 last z) (fun r => ((last.length : Int) == 0) || decide (0 < cmpB r last)) (fun r => (r, true)) hs.1 (fun k hk rec => by
      unfold spec_NextJoinRow_B1
      rw [enumP_len, lt_dec hk, hz, en_get hk, wrap_s hk (lim_max hs.1)]
      simp only [cond_true, obind]
      rw [s_cmp (hs.2 _ (List.getElem_mem hk)), chk_pos (okJ_at hk)]
      cases ((last.length : Int) == 0) with
      | true => rfl
      | false =>
        simp only [cond_false, Bool.false_or]
        ) (fun rec => by unfold spec_NextJoinRow_B1; rw [enumP_len, nlt_dec]; rfl)
    rw [this]
    simp only [cond_true]
    cases z.1.2.find? fun r => ((last.length : Int) == 0) || decide (0 < cmpB r last) <;> rfl
end
end Go.Proofs.YtlknpohjnpnodaaGreat
