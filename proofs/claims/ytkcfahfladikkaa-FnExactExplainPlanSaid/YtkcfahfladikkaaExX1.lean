/-
  ExplainPlan: the reference and the program give the same. No conditions.
-/
import Derived.Test.YtkcfahfladikkaaTvX1
import Derived.Test.YtkcfahfladikkaaTvPX1
import Derived.Test.YtkcfahfladikkaaDcX1
-- pure
namespace Go.Proofs.Ytkcfahfladikkaa
open Go.RowKit
set_option linter.unusedVariables false
set_option linter.unusedSimpArgs false
/-- a bag and its parent as text -/
def bagT (b : List Int) (p : Int) : List UInt8 := 40 :: (namesB b ++ [41]) ++ (if 0 ≤ p then decI p else [])
def wordD (x : List (List Int) × List Int) (k : Nat) : List UInt8 := match x.1[k]?, x.2[k]? with
  | some b, some p => bagT b p
  | _, _ => []
def wordsD (x : List (List Int) × List Int) (k : Nat) : List (List UInt8) := (List.range k).map (wordD x)
theorem wordsD_s (x : List (List Int) × List Int) (k : Nat) : wordsD x (k + 1) = wordsD x k ++ [wordD x k] := by
  unfold wordsD
  rw [List.range_succ, List.map_append]; rfl
theorem wordsD_len (x : List (List Int) × List Int) (k : Nat) : (wordsD x k).length = k := by unfold wordsD; simp
/-- short bags, as many parents -/
def fitD (x : List (List Int) × List Int) : Prop := x.2.length = x.1.length ∧ x.1.length ≤ 1048576 ∧ (∀ b ∈ x.1, b.length ≤ 5) ∧ ∀ p ∈ x.2, InI p
theorem wordD_at {x : List (List Int) × List Int} (h : fitD x) {k : Nat} (hk : k < x.1.length) : wordD x k = bagT (x.1[k]) (x.2[k]'(by rw [h.1]; exact hk)) := by
  have hk2 : k < x.2.length := by rw [h.1]; exact hk
  unfold wordD
  rw [List.getElem?_eq_getElem hk, List.getElem?_eq_getElem hk2]
theorem bagT_len {b : List Int} {p : Int} (hb : b.length ≤ 5) (hp : InI p) : (bagT b p).length ≤ 27 := by
  have h1 := names_len b
  have h2 := decI_len hp
  unfold bagT
  rw [List.length_append, List.length_cons, List.length_append, List.length_singleton]
  split
  · omega
  · rw [List.length_nil]; omega
theorem wordD_len {x : List (List Int) × List Int} (h : fitD x) (k : Nat) : (wordD x k).length ≤ 27 := by
  rcases Nat.lt_or_ge k x.1.length with hk | hk
  · rw [wordD_at h hk]
    exact bagT_len (h.2.2.1 _ (List.getElem_mem hk)) (h.2.2.2 _ (List.getElem_mem _))
  · unfold wordD
    rw [List.getElem?_eq_none hk]; simp
theorem wordsD_le {x : List (List Int) × List Int} (h : fitD x) (k : Nat) : ∀ w ∈ wordsD x k, w.length + ([32] : List UInt8).length ≤ 28 := by
  intro w hw
  unfold wordsD at hw
  obtain ⟨j, _, rfl⟩ := List.mem_map.1 hw
  have := wordD_len h j
  simp only [List.length_singleton]; omega
def decT (x : List (List Int) × List Int) : List UInt8 := joinB [32] (wordsD x x.1.length)
theorem i_decT {x : List (List Int) × List Int} (h : fitD x) : impl_FormatDecomposition x = some (decT x) := by
  have hl : x.1.length ≤ lim := by have := h.2.1; unfold lim; omega
  unfold impl_FormatDecomposition decT
  rw [show ((x.1.length : Int) != (x.2.length : Int)) = false by rw [h.1]; simp, cond_false]
  have := loop_to (body := impl_FormatDecomposition_B1 x) (out := wordsD x x.1.length) (fun k => (wordsD x k, (k : Int))) x.1.length (fun k hk rec => by
    have hk2 : k < x.2.length := by rw [h.1]; exact hk
    have hb := h.2.2.1 _ (List.getElem_mem hk)
    have hp := h.2.2.2 _ (List.getElem_mem hk2)
    have h1 := names_len x.1[k]
    have h2 := decI_len hp
    have hw := wordsD_len x k
    have hlen : x.1.length ≤ 1048576 := h.2.1
    rw [impl_FormatDecomposition_B1, wordsD_s, wordD_at h hk]
    rw [lt_dec hk, geti_at hk, geti_at hk2, cond_true, obs, i_names (by unfold lim; omega), obs, chk_pos (by simp only [List.length_singleton]; unfold lim; omega), chk_pos (by simp only [List.length_append, List.length_singleton]; unfold lim; omega), obs]
    by_cases h0 : 0 ≤ x.2[k]
    · rw [decide_eq_true h0, cond_true, obs, i_fmt hp, obs, chk_pos (by simp only [List.length_append, List.length_singleton]; unfold lim; omega), impl_FormatDecomposition_J2, chk_pos (by simp only [List.length_singleton]; unfold lim; omega), wrap_s hk (lim_max hl)]
      unfold bagT
      rw [if_pos h0]
      simp
    · rw [decide_eq_false h0, cond_false, impl_FormatDecomposition_J2, chk_pos (by simp only [List.length_singleton]; unfold lim; omega), wrap_s hk (lim_max hl)]
      unfold bagT
      rw [if_neg h0]
      simp) (fun rec => by rw [impl_FormatDecomposition_B1]; rw [nlt_dec]; rfl) fz (lt_fz hl)
  rw [show ((([] : List (List UInt8)), (0 : Int))) = (wordsD x 0, ((0 : Nat) : Int)) from rfl, this, obs, i_join (wordsD_le h x.1.length) (by rw [wordsD_len]; have := h.2.1; unfold lim; omega) (by rw [wordsD_len]; exact hl)]
  rfl
theorem s_decT {x : List (List Int) × List Int} (h : fitD x) : spec_FormatDecomposition x = some (decT x) := by
  have hl : x.1.length ≤ lim := by have := h.2.1; unfold lim; omega
  unfold spec_FormatDecomposition decT
  have := loop_to (body := spec_FormatDecomposition_B1 x) (out := joinB [32] (wordsD x x.1.length)) (fun k => (joinB [32] (wordsD x k), (k : Int))) x.1.length (fun k hk rec => by
    have hk2 : k < x.2.length := by rw [h.1]; exact hk
    have hb := h.2.2.1 _ (List.getElem_mem hk)
    have hp := h.2.2.2 _ (List.getElem_mem hk2)
    have h1 := names_len x.1[k]
    have h2 := decI_len hp
    have hw := wordsD_len x k
    have hj := join_len [32] 28 (wordsD x k) (wordsD_le h k)
    rw [hw] at hj
    have hlen : x.1.length ≤ 1048576 := h.2.1
    have hJ : ∀ y : List UInt8, y.length ≤ k * 28 + 1 → spec_FormatDecomposition_J2 rec x (k : Int) y = rec (y ++ bagT x.1[k] x.2[k], ((k + 1 : Nat) : Int)) := by
      intro y hy
      rw [spec_FormatDecomposition_J2, geti_at hk, obs, s_vars (by unfold lim; omega), obs, chk_pos (by simp only [List.length_append, List.length_cons, List.length_nil]; unfold lim; omega), geti_at hk2, obs]
      by_cases h0 : 0 ≤ x.2[k]
      · rw [decide_eq_true h0, cond_true, obs, s_dec10 hp, obs, chk_pos (by simp only [List.length_append, List.length_cons, List.length_nil]; unfold lim; omega), spec_FormatDecomposition_J3, wrap_s hk (lim_max hl)]
        unfold bagT
        rw [if_pos h0, List.append_assoc]
      · rw [decide_eq_false h0, cond_false, spec_FormatDecomposition_J3, wrap_s hk (lim_max hl)]
        unfold bagT
        rw [if_neg h0, List.append_nil]
    rw [spec_FormatDecomposition_B1, wordsD_s, wordD_at h hk, join_snoc, hw]
    rw [lt_dec hk, cond_true, show ((x.1.length : Int) == (x.2.length : Int)) = true by rw [h.1]; simp, cond_true]
    by_cases h0 : 0 < k
    · rw [decide_eq_true (by omega : (0 : Int) < (k : Int)), cond_true, if_neg (by omega), chk_pos (by simp only [List.length_singleton]; unfold lim; omega), hJ _ (by simp only [List.length_append, List.length_singleton]; omega)]
    · obtain rfl : k = 0 := by omega
      rw [decide_eq_false (by simp), cond_false, if_pos rfl, hJ _ (by simp [wordsD, joinB])]
      simp [wordsD, joinB]) (fun rec => by rw [spec_FormatDecomposition_B1]; rw [nlt_dec]; rfl) fz (lt_fz hl)
  rw [show ((([] : List UInt8), (0 : Int))) = (joinB [32] (wordsD x 0), ((0 : Nat) : Int)) from rfl, this]
  rfl
theorem dec_fit {q : Qry} {x : List (List Int) × List Int} (h : decB q x = true) (hx : x.1.length ≤ 1048576) (hb : ∀ b ∈ x.1, b.length ≤ 1048576) (hi : ∀ p ∈ x.2, InI p) : fitD x := by
  unfold decB at h
  simp only [Bool.and_eq_true, Bool.not_eq_true'] at h
  obtain ⟨hv, hl, _, hbag, _⟩ := h
  have hn := len_eqN hl
  have hq := qry_n hv
  refine ⟨hn, hx, fun b hb => ?_, hi⟩
  obtain ⟨k, hk, rfl⟩ := List.mem_iff_getElem.1 hb
  have h1 := badAny_f hbag hk
  simp only [Bool.not_eq_false'] at h1
  unfold bagB at h1
  simp only [Bool.and_eq_true, Bool.not_eq_true'] at h1
  have h2 := h1.1
  rw [any_or2, Bool.or_eq_false_iff] at h2
  have h3 : badAny x.1[k] (setBad q.1 x.1[k]) = false := by rw [set_out h2.2]; exact h2.1
  have := set_few hq h3
  omega
theorem ok_ints {l : List Int} (h : ok25 l) : ∀ x ∈ l, InI x := h.2
theorem pure_ExplainPlan {q : Qry} {p : Pln} (s0 : sm_Query q) (s1 : sm_Plan p) (k0 : ok79 q) (k1 : ok86 p) : ∃ r, spec_ExplainPlan q p = some r ∧ impl_ExplainPlan q p = some r := by
  have hq := sm_q2 s0
  have hp := sm_pln s1
  unfold spec_ExplainPlan impl_ExplainPlan
  rw [s_pln hq hp, i_pln hq hp, obs, obs]
  cases hv : plnB q p with
  | false => exact ⟨_, rfl, rfl⟩
  | true =>
    rw [Bool.not_true, cond_false, cond_false]
    unfold plnB at hv
    unfold impl_FormatPlanKind
    cases h1 : p.1 == 1 with
    | true =>
      have l1 : p.2.2.1.length ≤ 1048576 := s1.2.1
      have hi : ∀ x ∈ p.2.2.1, InI x := ok_ints k1.2.2.1
      have hlen : (intsT [32] p.2.2.1).length ≤ 1048576 * 21 := by
        unfold intsT
        refine Nat.le_trans (join_len [32] 21 _ (fun w hw => ?_)) (by rw [List.length_map]; omega)
        obtain ⟨x, hx, rfl⟩ := List.mem_map.1 hw
        have := decI_len (hi x hx)
        simp only [List.length_singleton]; omega
      rw [cond_true, cond_true, obs, cond_true]
      rw [chk_pos (by simp only [List.length_cons, List.length_nil]; unfold lim; omega), s_ints l1 hi, i_flist l1 hi, obs, obs, chk_pos (by simp only [List.length_cons, List.length_nil]; unfold lim; omega), chk_pos (by simp only [List.length_append, List.length_cons, List.length_nil]; unfold lim; omega)]
      exact ⟨_, rfl, rfl⟩
    | false =>
      rw [h1, cond_false] at hv
      cases h2 : p.1 == 2 with
      | true =>
        rw [h2, cond_true] at hv
        have hf := dec_fit hv s1.2.2.1.1 (fun b hb => s1.2.2.1.2 b hb) (ok_ints k1.2.2.2.2)
        have hlen : (decT p.2.2.2).length ≤ 1048576 * 28 := by
          unfold decT
          refine Nat.le_trans (join_len [32] 28 _ (wordsD_le hf _)) ?_
          rw [wordsD_len]
          have := hf.2.1
          omega
        rw [cond_false, cond_true, cond_false, cond_true, obs, cond_false, cond_true]
        rw [chk_pos (by simp only [List.length_cons, List.length_nil]; unfold lim; omega), s_decT hf, i_decT hf, obs, obs, chk_pos (by simp only [List.length_cons, List.length_nil]; unfold lim; omega), chk_pos (by simp only [List.length_append, List.length_cons, List.length_nil]; unfold lim; omega)]
        exact ⟨_, rfl, rfl⟩
      | false =>
        rw [h2, cond_false] at hv
        cases h3 : p.1 == 3 with
        | false => rw [h3] at hv; cases hv
        | true =>
          have l1 : p.2.1.length ≤ 1048576 := s1.1
          have hn := names_len p.2.1
          rw [cond_false, cond_false, cond_false, cond_false, cond_true, obs, cond_false, cond_false]
          rw [chk_pos (by simp only [List.length_cons, List.length_nil]; unfold lim; omega), s_vars (by unfold lim; omega), i_names (by unfold lim; omega), obs, obs, chk_pos (by simp only [List.length_append, List.length_cons, List.length_nil]; unfold lim; omega), chk_pos (by simp only [List.length_append, List.length_cons, List.length_nil]; unfold lim; omega), chk_pos (by simp only [List.length_append, List.length_cons, List.length_nil]; unfold lim; omega), chk_pos (by simp only [List.length_append, List.length_cons, List.length_nil]; unfold lim; omega)]
          refine ⟨_, rfl, ?_⟩
          simp
end Go.Proofs.Ytkcfahfladikkaa
