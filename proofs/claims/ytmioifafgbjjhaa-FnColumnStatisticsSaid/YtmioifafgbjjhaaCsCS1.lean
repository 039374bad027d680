/-
  ColumnStatistics holds. Conditions: none.
-/
import Derived.Test.YtmioifafgbjjhaaDsCS1
import Derived.Test.YtmioifafgbjjhaaShCS1
import Derived.Test.YtmioifafgbjjhaaApCS1
import Derived.Test.YtmioifafgbjjhaaEnCS1
import Derived.Test.YtmioifafgbjjhaaHpCS1
-- pure
namespace Go.Proofs.Ytmioifafgbjjhaa
open Go.RowKit
set_option linter.unusedVariables false
set_option linter.unusedSimpArgs false
def mx (m e : Int) : Int := if m < e then e else m
def maxL (l : List Int) : Int := l.foldl mx 0
theorem mx_lt {l : List Int} {t : Int} : ∀ {m : Int}, m < t → (∀ e ∈ l, e < t) → l.foldl mx m < t := by
  induction l with
  | nil => intro m h _; exact h
  | cons x l ih =>
    intro m h1 h2
    rw [List.foldl_cons]
    refine ih ?_ (fun e he => h2 e (List.mem_cons_of_mem _ he))
    unfold mx
    have := h2 x (List.mem_cons_self ..)
    split <;> omega
theorem mx_take {l : List Int} {k : Nat} (h : k < l.length) : (l.take (k + 1)).foldl mx 0 = mx ((l.take k).foldl mx 0) l[k] := by
  rw [List.take_succ_eq_append_getElem h, List.foldl_append]; rfl
theorem sum_take {l : List Int} {k : Nat} (h : k < l.length) : (l.take (k + 1)).sum = (l.take k).sum + l[k] := by
  rw [List.take_succ_eq_append_getElem h, List.sum_append]; simp
theorem sum_bnd {l : List Int} {M : Int} : (∀ e ∈ l, 0 ≤ e ∧ e ≤ M) → 0 ≤ l.sum ∧ l.sum ≤ M * l.length := by
  induction l with
  | nil => intro _; simp
  | cons x l ih =>
    intro h
    have h1 := h x (List.mem_cons_self ..)
    have h2 := ih fun e he => h e (List.mem_cons_of_mem _ he)
    rw [List.sum_cons, List.length_cons, Int.natCast_succ, Int.mul_add]
    omega
/-- the degrees of all values together are the rows -/
theorem deg_sum (rows : List (List Int)) (c : Int) : ∀ n : Nat, (numsN rows c n).sum = ((rows.countP fun x => decide (0 ≤ atI x c ∧ atI x c < (n : Int)) : Nat) : Int) := by
  intro n
  induction n with
  | zero =>
    unfold numsN
    have : (rows.countP fun x => decide (0 ≤ atI x c ∧ atI x c < ((0 : Nat) : Int))) = 0 := by
      rw [List.countP_eq_zero]; intro x _ h; have := of_decide_eq_true h; omega
    rw [this]; simp
  | succ n ih =>
    rw [numsN_s, List.sum_append, ih]
    have key : (rows.countP fun x => decide (0 ≤ atI x c ∧ atI x c < ((n + 1 : Nat) : Int))) = (rows.countP fun x => decide (0 ≤ atI x c ∧ atI x c < (n : Int))) + degN rows c n := by
      unfold degN
      clear ih
      induction rows with
      | nil => rfl
      | cons x l ih2 =>
        simp only [List.countP_cons]
        rw [ih2]
        have : (if (decide (0 ≤ atI x c ∧ atI x c < ((n + 1 : Nat) : Int))) = true then 1 else 0) = (if (decide (0 ≤ atI x c ∧ atI x c < (n : Int))) = true then 1 else 0) + (if (atI x c == (n : Int)) = true then 1 else 0) := by
          simp only [decide_eq_true_eq, beq_iff_eq]
          by_cases h1 : atI x c = (n : Int)
          · rw [if_pos (by omega), if_neg (by omega), if_pos h1]
          · by_cases h2 : 0 ≤ atI x c ∧ atI x c < (n : Int)
            · rw [if_pos (by omega), if_pos h2, if_neg h1]
            · rw [if_neg (by omega), if_neg h2, if_neg h1]
        omega
    rw [key]
    unfold posN
    split
    · simp
    · rename_i h
      have : degN rows c n = 0 := by simp at h; omega
      rw [this]; simp
theorem nums_mem {rows : List (List Int)} {c e : Int} {n : Nat} (h : e ∈ numsN rows c n) : ∃ v : Nat, v < n ∧ 0 < degN rows c v ∧ e = (degN rows c v : Int) := by
  unfold numsN at h
  obtain ⟨v, hv, rfl⟩ := List.mem_map.1 h
  obtain ⟨h1, h2⟩ := List.mem_filter.1 hv
  exact ⟨v, List.mem_range.1 h1, of_decide_eq_true h2, rfl⟩
theorem asc_up (n : Nat) (S : Nat → Bool) : (ascN n S).Pairwise fun a b => a < b := by
  unfold ascN
  rw [List.pairwise_map]
  refine List.Pairwise.filter _ (List.Pairwise.imp ?_ List.pairwise_lt_range)
  intro a b h
  exact Int.ofNat_lt.2 h
theorem asc_is {l : List Int} (hl : l.length ≤ lim) (h : l.Pairwise fun a b => a < b) : impl_IsStrictlyAscending l = some true := by
  rw [i_asc hl, bad_none]
  · rfl
  intro i hi
  unfold notUp
  by_cases h0 : 0 < i
  · rw [atB_lt (by omega)]
    have := List.pairwise_iff_getElem.1 h (i - 1) i (by omega) hi (by omega)
    rw [decide_eq_false (p := l[i] ≤ _) (by omega), Bool.and_false]
  · rw [decide_eq_false h0]; rfl
theorem i_max {r : Rl} {c : Int} (h : smRows r.2) : impl_MaxColumnDegree r c = some (maxL (cdB r c).2) := by
  unfold impl_MaxColumnDegree
  rw [i_cd h]
  simp only [obind]
  have hl : (cdB r c).2.length ≤ lim := by
    unfold cdB
    split
    · rw [numsN_len]; have := ascN_len 100 (posN r.2 c); unfold lim; omega
    · simp [lim]
  have := loop_to (body := impl_MaxColumnDegree_B1 (cdB r c)) (out := maxL (cdB r c).2) (fun k => (((cdB r c).2.take k).foldl mx 0, (k : Int))) (cdB r c).2.length (fun k hk rec => by
    unfold impl_MaxColumnDegree_B1
    dsimp only
    rw [lt_dec hk, geti_at hk, wrap_s hk (lim_max hl), mx_take hk]
    rfl) (fun rec => by unfold impl_MaxColumnDegree_B1; dsimp only; rw [nlt_dec, List.take_length]; rfl) fz (lt_fz hl)
  have h2 : loopF (impl_MaxColumnDegree_B1 (cdB r c)) fz (0, 0) = some (maxL (cdB r c).2) := this
  rw [h2]
theorem i_dist {r : Rl} {c : Int} (h : smRows r.2) : impl_DistinctCount r c = some ((cdB r c).1.length : Int) := by
  unfold impl_DistinctCount
  rw [i_cd h]; rfl
theorem rows_self (l : List (List Int)) : rowsEq l l = true := by
  unfold rowsEq sameL
  rw [bad_none (fun i hi => by rw [atB_lt hi]; simp)]
  simp
theorem rel_self (r : Rl) : relEq r r = true := by
  unfold relEq; rw [rows_self]; simp
/-- two parts of a relation together are the relation -/
theorem un_parts {r : Rl} (h : relB r = true) (p : List Int → Bool) : unR (r.1, r.2.filter p) (r.1, r.2.filter fun x => !p x) = (r, true) := by
  obtain ⟨h1, h2, h3, h4⟩ := (rel_iff r).1 h
  unfold unR
  rw [rel_filter h, rel_filter h]
  simp only [BEq.rfl, Bool.true_and, cond_true]
  have hmem : ∀ z, z ∈ r.2 ↔ z ∈ (r.2.filter p ++ r.2.filter fun x => !p x) := by
    intro z
    rw [List.mem_append, List.mem_filter, List.mem_filter]
    cases p z <;> simp
  unfold nrB
  rw [bad_none (fun i hi => by
    have hz := h3 _ ((hmem _).2 (List.getElem_mem hi))
    unfold nrBad
    rw [hz.2, hz.1]; simp), ← sort_of h4 hmem]
  simp only [cond_false]
  rw [show relB (r.1, r.2) = true from h]
  rfl
theorem filt_len {α : Type} (l : List α) (p : α → Bool) : (l.filter p).length + (l.filter fun x => !p x).length = l.length := by
  induction l with
  | nil => rfl
  | cons x l ih =>
    rw [List.filter_cons, List.filter_cons]
    cases p x <;> simp <;> omega
/-- the light rows' degrees are below the bound -/
theorem light_max {r : Rl} {c k : Int} (hc : colB r c = true) : maxL (cdB (r.1, r.2.filter fun x => !heavy r.2 c k x) c).2 < (if k < 1 then 1 else k) := by
  have hpos : (0 : Int) < (if k < 1 then 1 else k) := by split <;> omega
  unfold cdB
  split
  · refine mx_lt hpos fun e he => ?_
    obtain ⟨v, hv, hd, rfl⟩ := nums_mem he
    simp only at hd ⊢
    have hle : degN (r.2.filter fun x => !heavy r.2 c k x) c v ≤ degN r.2 c v := List.Sublist.countP_le (List.filter_sublist ..)
    have hd2 := hd
    unfold degN at hd2
    obtain ⟨x, hx, hxv⟩ := List.countP_pos_iff.1 hd2
    obtain ⟨hx1, hx2⟩ := List.mem_filter.1 hx
    have hxv := eq_of_beq hxv
    unfold heavy at hx2
    rw [hxv] at hx2
    simp only [Int.toNat_natCast, Bool.not_eq_true', decide_eq_false_iff_not] at hx2
    split <;> omega
  · exact hpos
theorem law_FnColumnStatistics {b : List Int} (k : ok22 b) : laws_FnColumnStatistics b = some true := by
  by_cases hb : 1048576 < b.length
  · unfold laws_FnColumnStatistics laws_big
    rw [decide_eq_true (by omega : (1048576 : Int) < (b.length : Int))]
    rfl
  unfold laws_FnColumnStatistics laws_big
  rw [decide_eq_false (by omega : ¬ (1048576 : Int) < (b.length : Int))]
  simp only [obind, cond_false]
  obtain ⟨r, col, k, e, hr⟩ := draw_sh (b := b) (by omega)
  rw [e]
  simp only [i_sh hr.sm, i_cd hr.sm, s_rel hr.sm]
  cases hc : colB r col with
  | false =>
    have e1 : shB r col k = ((0, []), (0, []), false) := by unfold shB; rw [hc]; rfl
    have e2 : cdB r col = ([], []) := by unfold cdB; rw [hc]; rfl
    have e3 : impl_IsStrictlyAscending [] = some true := asc_is (by simp [lim]) List.Pairwise.nil
    rw [e1, e2]
    have fin : laws_FnColumnStatistics_J1 (r, col, k) ((0, []), (0, []), false) ([], []) (!true) = some true := rfl
    cases hv : relB r with
    | false =>
      simp only [e3, fin]
      rfl
    | true =>
      by_cases h0 : 0 ≤ col
      · obtain ⟨f1, f2, -⟩ := rel_facts hv
        have h1 : ¬ col < r.1 := by
          intro h1
          unfold colB at hc
          rw [hv, wrap_in (by omega)] at hc
          unfold btw at hc
          rw [decide_eq_true h0, decide_eq_true (by omega : col ≤ r.1 - 1)] at hc
          cases hc
        simp only [decide_eq_true h0, decide_eq_false h1, e3, fin]
        rfl
      · simp only [decide_eq_false h0, e3, fin]
        rfl
  | true =>
    have hv := (col_facts hc).1
    obtain ⟨f1, f2, f3, f4⟩ := rel_facts hv
    have hcol : 0 ≤ col ∧ col < r.1 := by
      unfold colB at hc
      rw [hv, wrap_in (by omega)] at hc
      unfold btw at hc
      simp only [Bool.true_and, Bool.and_eq_true, decide_eq_true_eq] at hc
      omega
    have e1 : shB r col k = ((r.1, r.2.filter (heavy r.2 col k)), (r.1, r.2.filter fun x => !heavy r.2 col k x), true) := by unfold shB; rw [hc]; rfl
    have e2 : cdB r col = (ascN 100 (posN r.2 col), numsN r.2 col 100) := by unfold cdB; rw [hc]; rfl
    have hal := ascN_len 100 (posN r.2 col)
    have hnl := numsN_len r.2 col 100
    have e3 : impl_IsStrictlyAscending (ascN 100 (posN r.2 col)) = some true := asc_is (by unfold lim; omega) (asc_up _ _)
    have e4 : (((ascN 100 (posN r.2 col)).length : Int) != ((numsN r.2 col 100).length : Int)) = false := by rw [hnl]; simp
    rw [hv, e1, e2]
    simp only [cond_true, decide_eq_true hcol.1, decide_eq_true hcol.2, e3, e4, cond_false, BEq.rfl, Bool.not_true]
    unfold laws_FnColumnStatistics_J1
    simp only [cond_false, Bool.not_true]
    have hb2 : ∀ e ∈ numsN r.2 col 100, 0 ≤ e ∧ e ≤ 4000 := fun e he => by
      obtain ⟨v, _, _, rfl⟩ := nums_mem he
      have := degN_le r.2 col v
      omega
    have hnlim : (numsN r.2 col 100).length ≤ lim := by unfold lim; omega
    have hloop : loopF (laws_FnColumnStatistics_B2 (ascN 100 (posN r.2 col), numsN r.2 col 100)) fz (0, 0, 0) = some ((numsN r.2 col 100).sum, maxL (numsN r.2 col 100)) := by
      have := loop_to (body := laws_FnColumnStatistics_B2 (ascN 100 (posN r.2 col), numsN r.2 col 100)) (out := ((numsN r.2 col 100).sum, maxL (numsN r.2 col 100))) (fun j => (((numsN r.2 col 100).take j).sum, ((numsN r.2 col 100).take j).foldl mx 0, (j : Int))) (numsN r.2 col 100).length (fun j hj rec => by
        have hs := sum_bnd (l := (numsN r.2 col 100).take j) fun e he => hb2 e (List.mem_of_mem_take he)
        have hx := hb2 _ (List.getElem_mem hj)
        rw [List.length_take] at hs
        unfold laws_FnColumnStatistics_B2
        dsimp only
        rw [lt_dec hj, geti_at hj, wrap_s hj (lim_max hnlim), mx_take hj, sum_take hj]
        simp only [cond_true, obind]
        rw [wrap_in ⟨by omega, by omega⟩]
        rfl) (fun rec => by unfold laws_FnColumnStatistics_B2; dsimp only; rw [nlt_dec, List.take_length]; rfl) fz (lt_fz hnlim)
      exact this
    have hsum : (numsN r.2 col 100).sum = (r.2.length : Int) := by
      rw [deg_sum, List.countP_eq_length.2]
      intro x hx
      have := (col_facts hc).2 x hx
      exact decide_eq_true (by omega)
    have hva : relB (r.1, r.2.filter (heavy r.2 col k)) = true := rel_filter hv _
    have hvb : relB (r.1, r.2.filter fun x => !heavy r.2 col k x) = true := rel_filter hv _
    have hm := light_max (k := k) hc
    have hfl := filt_len r.2 (heavy r.2 col k)
    have hw : IntKind.i64.wrap (((r.2.filter (heavy r.2 col k)).length : Int) + ((r.2.filter fun x => !heavy r.2 col k x).length : Int)) = (r.2.length : Int) := by
      rw [wrap_in (by omega)]; omega
    simp only [obind, hloop, i_un (a := (r.1, r.2.filter (heavy r.2 col k))) (b := (r.1, r.2.filter fun x => !heavy r.2 col k x)) (rel_smR hva) (rel_smR hvb), un_parts hv, Bool.not_true, cond_false, s_relEq hr.sm, rel_self, hw, hsum, i_max hr.sm, i_dist hr.sm, i_max (rel_smR hvb), e2]
    simp only [bne_self_eq_false, cond_false, decide_eq_true hm, cond_true]
    rfl
end Go.Proofs.Ytmioifafgbjjhaa
