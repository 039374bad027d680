/-
  OpenCursor: the reference and the program give the same, and how much. No conditions.
-/
import Derived.Test.YtkcfahfladikkaaSnC1
import Derived.Test.YtkcfahfladikkaaQfC1
-- pure
namespace Go.Proofs.Ytkcfahfladikkaa
open Go.RowKit
set_option linter.unusedVariables false
set_option linter.unusedSimpArgs false
theorem sm_qry {q : Qry} (h : sm_Query q) : smQ q := ⟨sm_lim h.1.1, fun a ha => ⟨sm_lim (h.1.2 a ha).1, sm_lim (h.1.2 a ha).2⟩, sm_lim h.2⟩
theorem sm_noCur : sm_Cursor (0, [], [], (0, [], [])) := ⟨by show List.length _ ≤ _; simp, by show List.length _ ≤ _; simp, ⟨by simp, fun x hx => by cases hx⟩, by show List.length _ ≤ _; simp⟩
theorem pure_OpenCursor {x : Int × List (List Tbl)} {q : Qry} {o : List Int} (s0 : sm_History x) (s1 : sm_Query q) (s2 : sm_IntS o) (k0 : ok46 x) (k1 : ok79 q) (k2 : ok25 o) : ∃ r, spec_OpenCursor x q o = some r ∧ impl_OpenCursor x q o = some r ∧ sm_Cursor r.1 := by
  have h := sm_hist s0
  have hq := sm_qry s1
  have ho := sm_lim s2
  unfold spec_OpenCursor impl_OpenCursor impl_SnapshotAt
  simp only [s_hist h, i_hist h, obind, i_within]
  cases hb : histB x with
  | false => exact ⟨_, rfl, rfl, sm_noCur⟩
  | true =>
    unfold histB at hb
    simp only [Bool.and_eq_true] at hb
    obtain ⟨_, hl, ha⟩ := hb
    unfold btw at hl ha
    simp only [Bool.and_eq_true, decide_eq_true_eq] at hl ha
    rw [wrap_in (n := 99 - (x.2.length : Int)) (by omega), wrap_in (by omega)] at ha
    have w1 : IntKind.i64.wrap (x.1 + (x.2.length : Int)) = x.1 + (x.2.length : Int) := wrap_in (by omega)
    have w2 : IntKind.i64.wrap (x.1 + (x.2.length : Int) - 1) = x.1 + (x.2.length : Int) - 1 := wrap_in (by omega)
    have hj : x.2.length - 1 < x.2.length := by omega
    have hg : geti x.2 (IntKind.i64.wrap ((x.2.length : Int) - 1)) = some x.2[x.2.length - 1] := by
      rw [wrap_in (by omega), show (x.2.length : Int) - 1 = ((x.2.length - 1 : Nat) : Int) by omega, geti_at hj]
    have w3 : IntKind.i64.wrap (x.1 + (x.2.length : Int) - 1 - x.1) = IntKind.i64.wrap ((x.2.length : Int) - 1) := by congr 1; omega
    have hc : btw (x.1 + (x.2.length : Int) - 1) x.1 (x.1 + (x.2.length : Int) - 1) = true := by
      unfold btw; simp only [Bool.and_eq_true, decide_eq_true_eq]; omega
    have hm := List.getElem_mem hj
    have hd := h.2 _ hm
    simp only [w1, w2, w3, hc, hg, Bool.not_true, cond_false, i_copyD hd, s_qfor hd hq, i_qfor hd hq, s_order hq ho, i_order hq ho, s_copyQ hq, i_copyQ hq, i_copyI ho]
    cases qforB x.2[x.2.length - 1] q with
    | false => exact ⟨_, rfl, rfl, sm_noCur⟩
    | true =>
      cases ordB q o with
      | false => exact ⟨_, rfl, rfl, sm_noCur⟩
      | true =>
        simp only [Bool.not_true, cond_false]
        rw [chk_pos (by simpa using ho)]
        exact ⟨_, rfl, rfl, s2, by show List.length _ ≤ _; simp, s1⟩
end Go.Proofs.Ytkcfahfladikkaa
