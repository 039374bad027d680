/-
  The number of bindings is within the bound from degrees. On the printed functions; conditions: the query fits.
-/
import Derived.Test.YtmjhiencoapldaaGreatTcDG1
import Derived.Test.YtmjhiencoapldaaGreatAlDG1
import Derived.Test.YtmjhiencoapldaaGreatDqDG1
-- pure
namespace Go.Proofs.YtmjhiencoapldaaGreat
open Go.RowKit
set_option linter.unusedVariables false
set_option linter.unusedSimpArgs false
/-! ### prefixes in the order of rows -/
theorem cmp_take {p : Nat} : ∀ {a b : List Int}, cmpB a b ≤ 0 → a.length = b.length → cmpB (a.take p) (b.take p) ≤ 0 := by
  induction p with
  | zero => intro a b _ _; rw [List.take_zero, List.take_zero]; simp [cmpB]
  | succ p ih =>
    intro a b h hl
    cases a with
    | nil =>
      cases b with
      | nil => simp [cmpB]
      | cons y b => cases hl
    | cons x a =>
      cases b with
      | nil => cases hl
      | cons y b =>
        rw [List.take_succ_cons, List.take_succ_cons]
        unfold cmpB at h ⊢
        split
        · omega
        · rename_i h1
          rw [if_neg h1] at h
          split
          · rename_i h2
            rw [if_pos h2] at h
            exact h
          · rename_i h2
            rw [if_neg h2] at h
            exact ih h (by simpa using hl)
theorem cmp_le_trans {a b c : List Int} (h1 : cmpB a b ≤ 0) (h2 : cmpB b c ≤ 0) : cmpB a c ≤ 0 := by
  rcases Int.lt_or_eq_of_le h1 with h1 | h1
  · rcases Int.lt_or_eq_of_le h2 with h2 | h2
    · exact Int.le_of_lt (cmp_trans h1 h2)
    · rw [← cmp_zero h2]; exact Int.le_of_lt h1
  · rw [cmp_zero h1]; exact h2
theorem srt_le {l : List Row} (h : Srt l) {i j : Nat} (hj : j < l.length) (hij : i ≤ j) : cmpB (l[i]'(by omega)) l[j] ≤ 0 := by
  rcases Nat.lt_or_ge i j with h1 | h1
  · exact Int.le_of_lt (List.pairwise_iff_getElem.1 h i j (by omega) hj h1)
  · have : i = j := by omega
    subst this
    rw [cmp_self]; exact Int.le_refl _
/-! ### the rows with a prefix -/
theorem sub_pre (r : List Int) (n : Nat) : subl r 0 (n : Int) = r.take n := sub_take r n
theorem lo_is {t : Tri} {pre : List Int} (h : TriOk t pre.length) : ∃ k : Nat, loopF (spec_TriePrefixRange_B1 t pre) fz 0 = some (k : Int) ∧ k ≤ t.2.length ∧ (∀ i (hi : i < t.2.length), i < k → cmpB (t.2[i].take pre.length) pre < 0) ∧ (∀ hk : k < t.2.length, ¬ cmpB (t.2[k].take pre.length) pre < 0) := by
  obtain ⟨h1, h2, h3⟩ := tri_sm h
  obtain ⟨o, e, k, rfl, q⟩ := loop_wh (B := spec_TriePrefixRange_B1 t pre) (fun s => ∃ k : Nat, s = (k : Int) ∧ k ≤ t.2.length ∧ (∀ i (hi : i < t.2.length), i < k → cmpB (t.2[i].take pre.length) pre < 0)) (fun s => t.2.length - s.toNat) (fun o => ∃ k : Nat, o = (k : Int) ∧ k ≤ t.2.length ∧ (∀ i (hi : i < t.2.length), i < k → cmpB (t.2[i].take pre.length) pre < 0) ∧ (∀ hk : k < t.2.length, ¬ cmpB (t.2[k].take pre.length) pre < 0)) (fun s hs => by
    obtain ⟨k, rfl, hk, ha⟩ := hs
    rcases Nat.lt_or_ge k t.2.length with hlt | hge
    · have hr := h3 _ (List.getElem_mem hlt)
      have hl : (t.2[k].take pre.length).length ≤ lim := by rw [List.length_take]; unfold lim; omega
      have e : ∀ rec, spec_TriePrefixRange_B1 t pre rec (k : Int) = cond (decide (cmpB (t.2[k].take pre.length) pre < 0)) (rec ((k + 1 : Nat) : Int)) (some (k : Int)) := fun rec => by
        rw [spec_TriePrefixRange_B1]
        rw [lt_dec hlt, geti_at hlt, wrap_s hlt (lim_max h1.1), cond_true, ob_s, chk_pos (by have := h.2; omega), sub_pre, s_cmp hl, ob_s]
      by_cases hc : cmpB (t.2[k].take pre.length) pre < 0
      · refine .inr ⟨((k + 1 : Nat) : Int), ⟨k + 1, rfl, hlt, fun i hi hik => ?_⟩, by rw [Int.toNat_natCast, Int.toNat_natCast]; omega, fun rec => by rw [e, decide_eq_true hc]; rfl⟩
        rcases Nat.lt_or_ge i k with h4 | h4
        · exact ha i hi h4
        · have : i = k := by omega
          subst this; exact hc
      · exact .inl ⟨(k : Int), ⟨k, rfl, hk, ha, fun _ => hc⟩, fun rec => by rw [e, decide_eq_false hc]; rfl⟩
    · refine .inl ⟨(k : Int), ⟨k, rfl, hk, ha, fun hk => absurd hk (by omega)⟩, fun rec => ?_⟩
      rw [spec_TriePrefixRange_B1]
      rw [decide_eq_false (by omega : ¬ (k : Int) < (t.2.length : Int))]; rfl) fz 0 ⟨0, rfl, by omega, fun i hi h => absurd h (by omega)⟩ (by unfold fz; omega)
  exact ⟨k, e, q⟩
theorem hi_is {t : Tri} {pre : List Int} (h : TriOk t pre.length) {lo : Nat} (hlo : lo ≤ t.2.length) : ∃ k : Nat, loopF (spec_TriePrefixRange_B2 t pre) fz (lo : Int) = some (k : Int) ∧ lo ≤ k ∧ k ≤ t.2.length ∧ (∀ hk : k < t.2.length, cmpB (t.2[k].take pre.length) pre ≠ 0) := by
  obtain ⟨h1, h2, h3⟩ := tri_sm h
  obtain ⟨o, e, k, rfl, q⟩ := loop_wh (B := spec_TriePrefixRange_B2 t pre) (fun s => ∃ k : Nat, s = (k : Int) ∧ lo ≤ k ∧ k ≤ t.2.length) (fun s => t.2.length - s.toNat) (fun o => ∃ k : Nat, o = (k : Int) ∧ lo ≤ k ∧ k ≤ t.2.length ∧ (∀ hk : k < t.2.length, cmpB (t.2[k].take pre.length) pre ≠ 0)) (fun s hs => by
    obtain ⟨k, rfl, hk0, hk⟩ := hs
    rcases Nat.lt_or_ge k t.2.length with hlt | hge
    · have hr := h3 _ (List.getElem_mem hlt)
      have hl : (t.2[k].take pre.length).length ≤ lim := by rw [List.length_take]; unfold lim; omega
      have e : ∀ rec, spec_TriePrefixRange_B2 t pre rec (k : Int) = cond (cmpB (t.2[k].take pre.length) pre == 0) (rec ((k + 1 : Nat) : Int)) (some (k : Int)) := fun rec => by
        rw [spec_TriePrefixRange_B2]
        rw [lt_dec hlt, geti_at hlt, wrap_s hlt (lim_max h1.1), cond_true, ob_s, chk_pos (by have := h.2; omega), sub_pre, s_cmp hl, ob_s]
      cases hc : (cmpB (t.2[k].take pre.length) pre == 0) with
      | true => exact .inr ⟨((k + 1 : Nat) : Int), ⟨k + 1, rfl, by omega, hlt⟩, by rw [Int.toNat_natCast, Int.toNat_natCast]; omega, fun rec => by rw [e, hc]; rfl⟩
      | false => exact .inl ⟨(k : Int), ⟨k, rfl, hk0, hk, fun _ h0 => by rw [h0] at hc; cases hc⟩, fun rec => by rw [e, hc]; rfl⟩
    · refine .inl ⟨(k : Int), ⟨k, rfl, hk0, hk, fun hk => absurd hk (by omega)⟩, fun rec => ?_⟩
      rw [spec_TriePrefixRange_B2]
      rw [decide_eq_false (by omega : ¬ (k : Int) < (t.2.length : Int))]; rfl) fz (lo : Int) ⟨lo, rfl, Nat.le_refl _, hlo⟩ (by unfold fz; omega)
  exact ⟨k, e, q⟩
/-- the rows with a prefix lie between the bounds -/
theorem range_all {t : Tri} {pre : List Int} (h : TriOk t pre.length) : ∃ lo hi : Nat, lo ≤ hi ∧ hi ≤ t.2.length ∧ spec_TriePrefixRange t pre = some ((lo : Int), (hi : Int)) ∧ ∀ i (hi' : i < t.2.length), t.2[i].take pre.length = pre → lo ≤ i ∧ i < hi := by
  obtain ⟨h1, h2, h3⟩ := tri_sm h
  obtain ⟨lo, e1, hlo, q1, q2⟩ := lo_is h
  obtain ⟨hi, e2, hhi, hhl, q3⟩ := hi_is h hlo
  have hs := ((rel_iff _).1 h.1).2.2.2
  refine ⟨lo, hi, hhi, hhl, ?_, fun i hi' he => ?_⟩
  · unfold spec_TriePrefixRange spec_IsValidTrie spec_l16Rel
    rw [ob_s, s_rel h1, ob_s, ob_s, h.1, Bool.not_true, cond_false, decide_eq_false (by have := h.2; omega), cond_false, e1, ob_s, e2, ob_s]
  · have hil : lo ≤ i := by
      apply Classical.byContradiction
      intro hc
      have := q1 i hi' (by omega)
      rw [he, cmp_self] at this
      omega
    refine ⟨hil, ?_⟩
    apply Classical.byContradiction
    intro hc
    have hlt : hi < t.2.length := by omega
    have n0 := q3 hlt
    have hlen : ∀ k (hk : k < t.2.length), (t.2[k].length : Int) = t.1 := fun k hk => (h3 _ (List.getElem_mem hk)).1
    -- the row behind the range is above the prefix
    have hge : ¬ cmpB (t.2[hi].take pre.length) pre < 0 := by
      intro hneg
      rcases Nat.lt_or_ge lo hi with h4 | h4
      · have h5 := q2 (by omega)
        have h6 := cmp_take (p := pre.length) (srt_le hs hlt (Nat.le_of_lt h4)) (by have := hlen lo (by omega); have := hlen hi hlt; omega)
        have h7 := cmp_neg (t.2[lo].take pre.length) pre
        have h8 : cmpB pre (t.2[lo].take pre.length) ≤ 0 := by omega
        have h9 := cmp_le_trans h8 h6
        have := cmp_neg (t.2[hi].take pre.length) pre
        omega
      · have : lo = hi := by omega
        subst this
        exact q2 hlt hneg
    have h6 := cmp_take (p := pre.length) (srt_le hs hi' (show hi ≤ i by omega)) (by have := hlen hi hlt; have := hlen i hi'; omega)
    rw [he] at h6
    omega
/-! ### children -/
theorem push_mem {S : List (List Int)} {p : Nat} : ∀ {k n : Nat}, k < n → atI ((S[k]?).getD []) (p : Int) ∈ chK S p n
  | k, 0, h => absurd h (by omega)
  | k, n + 1, h => by
    rw [chK]
    rcases Nat.lt_or_ge k n with h1 | h1
    · exact List.mem_append_left _ (push_mem h1)
    · have : k = n := by omega
      subst this
      cases hb : pushB (chK S p k) (atI ((S[k]?).getD []) (p : Int)) with
      | true => exact List.mem_append_right _ (by simp)
      | false =>
        unfold pushB at hb
        refine List.mem_append_left _ ?_
        cases hl : (chK S p k).getLast? with
        | none => rw [hl] at hb; cases hb
        | some x =>
          rw [hl] at hb
          have : x = atI ((S[k]?).getD []) (p : Int) := by simpa using hb
          rw [← this]
          exact List.mem_of_getLast? hl
theorem ch_mem {t : Tri} {pre r : List Int} (h : TriOk t pre.length) (hp : (pre.length : Int) < t.1) (hr : r ∈ t.2) (he : r.take pre.length = pre) : atI r (pre.length : Int) ∈ chB t pre := by
  obtain ⟨h1, h2, h3⟩ := tri_sm h
  obtain ⟨lo, hi, hlh, hhi, es, hall⟩ := range_all h
  have hS : ∀ k, k < hi - lo → (subl t.2 (lo : Int) (hi : Int))[k]? = t.2[lo + k]? := fun k hk => by
    unfold subl
    rw [Int.toNat_natCast, Int.toNat_natCast, List.getElem?_drop, List.getElem?_take, if_pos (by omega)]
  have hat : ∀ k, k < hi - lo → ∃ r, t.2[lo + k]? = some r ∧ r ∈ t.2 ∧ geti r (pre.length : Int) = some (atI r (pre.length : Int)) := fun k hk => by
    have hlt : lo + k < t.2.length := by omega
    have hr := h3 _ (List.getElem_mem hlt)
    exact ⟨_, List.getElem?_eq_getElem hlt, List.getElem_mem hlt, by rw [geti_at (by omega), atI_n (by omega)]⟩
  have hch : spec_TrieChildren t pre = some (chK (subl t.2 (lo : Int) (hi : Int)) pre.length (hi - lo)) := by
    unfold spec_TrieChildren
    rw [es, ob_s]
    have := loop_to (body := spec_TrieChildren_B1 t pre ((lo : Int), (hi : Int))) (out := chK (subl t.2 (lo : Int) (hi : Int)) pre.length (hi - lo)) (fun k => (chK (subl t.2 (lo : Int) (hi : Int)) pre.length k, ((lo + k : Nat) : Int))) (hi - lo) (fun k hk rec => by
      obtain ⟨r, e1, hm, e2⟩ := hat k hk
      have hl := chK_len (subl t.2 (lo : Int) (hi : Int)) pre.length k
      have hJ : ∀ b : Bool, spec_TrieChildren_J2 rec (chK (subl t.2 (lo : Int) (hi : Int)) pre.length k) ((lo + k : Nat) : Int) (atI r (pre.length : Int)) b = rec (chK (subl t.2 (lo : Int) (hi : Int)) pre.length k ++ cond b [atI r (pre.length : Int)] [], ((lo + (k + 1) : Nat) : Int)) := fun b => by
        have hw : IntKind.i64.wrap (((lo + k : Nat) : Int) + 1) = ((lo + (k + 1) : Nat) : Int) := by rw [wrap_in (by omega)]; omega
        rw [spec_TrieChildren_J2]
        cases b with
        | true => rw [cond_true, chk_pos (by simp only [List.length_singleton]; unfold lim; omega), spec_TrieChildren_J3, hw]; rfl
        | false => rw [cond_false, spec_TrieChildren_J3, hw, cond_false, List.append_nil]
      rw [spec_TrieChildren_B1, chK, hS k hk, e1]
      rw [decide_eq_true (by omega : ((lo + k : Nat) : Int) < (hi : Int)), cond_true, decide_eq_true hp, cond_true, geti_nat, e1, ob_s, e2, ob_s, Option.getD_some]
      rw [last_look (by omega) (atI r (pre.length : Int)) (fun b => spec_TrieChildren_J2 rec (chK (subl t.2 (lo : Int) (hi : Int)) pre.length k) ((lo + k : Nat) : Int) (atI r (pre.length : Int)) b), hJ]) (fun rec => by
      rw [spec_TrieChildren_B1]
      rw [decide_eq_false (by omega : ¬ ((lo + (hi - lo) : Nat) : Int) < (hi : Int))]; rfl) fz (by unfold fz; omega)
    rw [show ((([] : List Int), (lo : Int))) = (chK (subl t.2 (lo : Int) (hi : Int)) pre.length 0, ((lo + 0 : Nat) : Int)) from rfl, this]
    rfl
  obtain ⟨i, hi', rfl⟩ := List.mem_iff_getElem.1 hr
  obtain ⟨q1, q2⟩ := hall i hi' he
  have := push_mem (S := subl t.2 (lo : Int) (hi : Int)) (p := pre.length) (k := i - lo) (n := hi - lo) (by omega)
  rw [hS _ (by omega), show lo + (i - lo) = i by omega, List.getElem?_eq_getElem hi', Option.getD_some] at this
  unfold chB
  rw [hch]
  exact this
theorem mo_ge {t : Tri} {n : Nat} : ∀ {k K : Nat}, k < K → ((chB t (((t.2[k]?).getD []).take n)).length : Int) ≤ moK t n K
  | k, 0, h => absurd h (by omega)
  | k, K + 1, h => by
    rw [moK]
    rcases Nat.lt_or_ge k K with h1 | h1
    · have := mo_ge (t := t) (n := n) h1
      split <;> omega
    · have : k = K := by omega
      subst this
      split <;> omega
theorem most_ge {t : Tri} {n : Nat} {r : List Int} (hr : r ∈ t.2) : ((chB t (r.take n)).length : Int) ≤ moB t n := by
  obtain ⟨i, hi, rfl⟩ := List.mem_iff_getElem.1 hr
  have := mo_ge (t := t) (n := n) hi
  rw [List.getElem?_eq_getElem hi, Option.getD_some] at this
  exact this
theorem mo_le {t : Tri} {n : Nat} (h : TriOk t n) : moB t n ≤ 4000 := by
  have key : ∀ K, K ≤ t.2.length → moK t n K ≤ 4000 := by
    intro K
    induction K with
    | zero => intro _; simp [moK]
    | succ K ih =>
      intro hK
      have h1 := ih (by omega)
      have hp := pre_ok h (List.getElem_mem (show K < t.2.length by omega))
      obtain ⟨l, e1, _, e3⟩ := ch_both (t := t) (pre := t.2[K].take n) (by rw [hp.1]; exact h)
      have : (chB t (t.2[K].take n)).length ≤ 4000 := by unfold chB; rw [e1]; exact e3
      rw [moK, List.getElem?_eq_getElem (by omega), Option.getD_some]
      split <;> omega
  exact key _ (Nat.le_refl _)
theorem ls_is {T : List Tri} {q : Qry} {o : List Int} {k : Nat} {L : List Nat} : ∀ {n : Nat}, 0 < n → n ≤ L.length → ∃ i ∈ L, lsK T q o k L n = moB ((T[i]?).getD (0, [])) (depB ((q.2.1[i]?).getD ([], [])) o k)
  | 0, h, _ => absurd h (by omega)
  | n + 1, _, hn => by
    rw [lsK]
    have hL : L[n]? = some (L[n]'(by omega)) := List.getElem?_eq_getElem (by omega)
    by_cases hc : n = 0 ∨ moB ((T[(L[n]?).getD 0]?).getD (0, [])) (depB ((q.2.1[(L[n]?).getD 0]?).getD ([], [])) o k) < lsK T q o k L n
    · refine ⟨L[n]'(by omega), List.getElem_mem _, ?_⟩
      rw [if_pos hc, hL, Option.getD_some]
    · obtain ⟨i, hi, e⟩ := ls_is (T := T) (q := q) (o := o) (k := k) (L := L) (n := n) (by omega) (by omega)
      refine ⟨i, hi, ?_⟩
      rw [if_neg hc, e]
/-! ### the rows of the tries -/
theorem colK_vals {V o : List Int} (hn : o.Nodup) : ∀ k, k ≤ o.length → (colK V o k).map (atI V) = (o.take k).filter V.contains
  | 0, _ => by simp [colK]
  | k + 1, hk => by
    have ih := colK_vals (V := V) hn k (by omega)
    have hlt : k < o.length := by omega
    rw [colK, List.map_append, ih, List.take_succ_eq_append_getElem hlt, List.filter_append, atI_n hlt]
    congr 1
    rw [List.filter_cons, List.filter_nil, place_has]
    cases hc : V.contains o[k] with
    | false => simp
    | true =>
      obtain ⟨j, hj, e1, e2⟩ := place_in hc
      have hat : atI V (placeI V o[k]) = o[k] := by rw [e1, atI_n hj, e2]
      have hno : (colK V o k).contains (placeI V o[k]) = false := by
        rw [← Bool.not_eq_true, List.contains_iff_mem]
        intro hm
        have h1 : atI V (placeI V o[k]) ∈ (colK V o k).map (atI V) := List.mem_map_of_mem hm
        rw [hat, ih] at h1
        have h2 := (List.mem_filter.1 h1).1
        obtain ⟨i, hi, e3⟩ := List.mem_iff_getElem.1 h2
        rw [List.length_take] at hi
        rw [List.getElem_take] at e3
        rw [List.nodup_iff_pairwise_ne, List.pairwise_iff_getElem] at hn
        exact hn i k (by omega) hlt (by omega) e3
      rw [hno]
      simp [hat]
def trow (a : Atm) (o x : List Int) : List Int := (o.filter a.2.contains).map (atI x)
section
variable {d : List Tbl} {q : Qry} {o x y : List Int}
theorem trow_in {a : Atm} (hq : qryB q = true) (ho : ordB q o = true) (ha : a ∈ q.2.1) (hok : AtmOk a) (h : pickB x a.2 ∈ (lookB d a.1).1.2) : trow a o x ∈ (trieB d o a).2 := by
  have hod := ord_all ho
  have hqn := qry_n hq
  unfold trieB projB
  refine (sort_mem _ _).2 (List.mem_map.2 ⟨resA a x, res_in hok h, ?_⟩)
  have hfil : (o.take o.length).filter (avL a 5).contains = o.filter a.2.contains := by
    rw [List.take_length]
    refine List.filter_congr fun v hv => ?_
    have h1 := hod.2.2.1 v hv
    rw [Bool.eq_iff_iff, List.contains_iff_mem, av_mem]
    exact ⟨fun h => h.2, fun h => ⟨by omega, h⟩⟩
  have hc := colK_vals (V := avL a 5) hod.2.1 o.length (Nat.le_refl _)
  rw [hfil] at hc
  unfold trow
  rw [← hc, List.map_map]
  unfold pickB colB
  refine List.map_congr_left fun c hc' => ?_
  have h2 := colK_in _ _ _ c hc'
  obtain ⟨j, rfl⟩ := Int.eq_ofNat_of_zero_le h2.1
  have hj : j < (avL a 5).length := by omega
  show atI (resA a x) (j : Int) = atI x (atI (avL a 5) (j : Int))
  rw [atI_n hj, atI_n (l := resA a x) (by unfold resA; rw [List.length_map]; exact hj)]
  unfold resA
  rw [List.getElem_map]
theorem trow_take (a : Atm) (o x : List Int) (k : Nat) : (trow a o x).take (depB a o k) = ((o.take k).filter a.2.contains).map (atI x) := by
  unfold trow depB
  conv => lhs; arg 2; arg 2; arg 2; rw [← List.take_append_drop k o]
  rw [List.filter_append, List.map_append, List.take_left' (by rw [List.length_map])]
theorem trow_at {a : Atm} {k : Nat} (hk : k < o.length) (hc : a.2.contains o[k] = true) : atI (trow a o x) ((depB a o k : Nat) : Int) = atI x o[k] := by
  have h1 : (trow a o x).take (depB a o (k + 1)) = (trow a o x).take (depB a o k) ++ [atI x o[k]] := by
    rw [trow_take, trow_take, List.take_succ_eq_append_getElem hk, List.filter_append, List.map_append, List.filter_cons, List.filter_nil, if_pos hc]
    rfl
  have hl : ((trow a o x).take (depB a o k)).length = depB a o k := by rw [trow_take, List.length_map]; rfl
  have hg : (trow a o x)[depB a o k]? = some (atI x o[k]) := by
    have e1 : ((trow a o x).take (depB a o (k + 1)))[depB a o k]? = some (atI x o[k]) := by
      rw [h1, List.getElem?_append_right (by omega), hl, Nat.sub_self, List.getElem?_cons_zero]
    rw [List.getElem?_take] at e1
    split at e1
    · exact e1
    · cases e1
  unfold atI geti
  rw [if_pos (by omega), Int.toNat_natCast, hg]
  rfl
theorem dep_pos {a : Atm} {k : Nat} (hk : k < o.length) (hc : a.2.contains o[k] = true) : depB a o k + 1 ≤ (o.filter a.2.contains).length := by
  have h1 := dep_s a hk
  rw [hc, cond_true] at h1
  have h2 : depB a o (k + 1) ≤ (o.filter a.2.contains).length := by
    unfold depB
    exact ((List.take_sublist (k + 1) o).filter _).length_le
  omega
/-! ### counting -/
def lsN (T : List Tri) (q : Qry) (o : List Int) (k : Nat) : Nat := (lsK T q o k (ixK q (atI o (k : Int)) q.2.1.length) (ixK q (atI o (k : Int)) q.2.1.length).length).toNat
def prF (T : List Tri) (q : Qry) (o : List Int) : Nat → Nat → Nat
  | 0, _ => 1
  | r + 1, k => lsN T q o k * prF T q o r (k + 1)
def prQ (T : List Tri) (q : Qry) (o : List Int) : Nat → Nat
  | 0 => 1
  | k + 1 => prQ T q o k * lsN T q o k
theorem pr_eq (T : List Tri) (q : Qry) (o : List Int) : ∀ r k, prQ T q o k * prF T q o r k = prQ T q o (k + r)
  | 0, k => by rw [prF, Nat.mul_one, Nat.add_zero]
  | r + 1, k => by
    rw [prF, ← Nat.mul_assoc, show k + (r + 1) = (k + 1) + r by omega, ← pr_eq T q o r (k + 1), prQ]
/-- the least degree is one atom's -/
theorem least_is (hf : qforB d q = true) (ho : ordB q o = true) {k : Nat} (hk : k < o.length) : ∃ a ∈ q.2.1, a.2.contains o[k] = true ∧ TriOk (trieB d o a) (depB a o k) ∧ (lsN (q.2.1.map (trieB d o)) q o k : Int) = moB (trieB d o a) (depB a o k) := by
  have g := q_fit hf
  have hod := ord_all ho
  have hv := hod.2.2.1 _ (List.getElem_mem hk)
  have hpos := ix_pos g.1 hv.1 hv.2
  obtain ⟨i, hi, e⟩ := ls_is (T := q.2.1.map (trieB d o)) (q := q) (o := o) (k := k) (L := ixK q o[k] q.2.1.length) (n := (ixK q o[k] q.2.1.length).length) (by omega) (Nat.le_refl _)
  obtain ⟨hil, hc⟩ := ix_mem hi
  have hT := tri_dep (tries_ok (d := d) (qry_sm g.1) hf ho) (k := k) hil (by omega)
  rw [List.getElem_map] at hT
  refine ⟨q.2.1[i], List.getElem_mem hil, hc, hT, ?_⟩
  unfold lsN
  rw [atI_n hk, e, List.getElem?_map, List.getElem?_eq_getElem hil, Option.map_some, Option.getD_some, Option.getD_some]
  have := moK_nn (trieB d o q.2.1[i]) (depB q.2.1[i] o k) (trieB d o q.2.1[i]).2.length
  unfold moB
  omega
theorem deg_count (hf : qforB d q = true) (ho : ordB q o = true) : ∀ (r k : Nat), k + r = o.length → ∀ rows : List (List Int), rows.Nodup → (∀ x ∈ rows, IsB d q x) → (∀ x ∈ rows, ∀ y ∈ rows, ∀ j (hj : j < o.length), j < k → atI x o[j] = atI y o[j]) → rows.length ≤ prF (q.2.1.map (trieB d o)) q o r k
  | 0, k, hk, rows, hn, hB, hag => by
    cases rows with
    | nil => simp [prF]
    | cons x l =>
      cases l with
      | nil => simp [prF]
      | cons y l =>
        exfalso
        have hod := ord_all ho
        have lx := (hB x (by simp)).1
        have ly := (hB y (by simp)).1
        have : x = y := by
          refine List.ext_getElem (by omega) fun i hi hi' => ?_
          obtain ⟨j, hj, e⟩ := List.mem_iff_getElem.1 (hod.2.2.2 (i : Int) (by omega) (by omega))
          have h1 := hag x (by simp) y (by simp) j hj (by omega)
          rw [e, atI_n hi, atI_n hi'] at h1
          exact h1
        subst this
        rw [List.nodup_cons] at hn
        exact hn.1 (by simp)
  | r + 1, k, hk, rows, hn, hB, hag => by
    have hlt : k < o.length := by omega
    cases hr : rows with
    | nil => simp
    | cons x0 l =>
      rw [← hr]
      have hx0 : x0 ∈ rows := by rw [hr]; simp
      obtain ⟨a, ha, hc, hT, hls⟩ := least_is hf ho hlt
      obtain ⟨g1, g2, g3⟩ := qfor_facts hf
      have hok := (g2 a ha).1
      have hpre : ∀ x ∈ rows, (trow a o x).take (depB a o k) = (trow a o x0).take (depB a o k) := by
        intro x hx
        rw [trow_take, trow_take]
        refine List.map_congr_left fun v hv => ?_
        obtain ⟨j, hj, e⟩ := List.mem_iff_getElem.1 (List.mem_filter.1 hv).1
        rw [List.length_take] at hj
        rw [List.getElem_take] at e
        have := hag x hx x0 hx0 j (by omega) (by omega)
        rw [e] at this
        exact this
      have hlen : ((trow a o x0).take (depB a o k)).length = depB a o k := by rw [trow_take, List.length_map]; rfl
      have har : ((o.filter a.2.contains).length : Int) = (trieB d o a).1 := by
        have h1 := trow_in g1 ho ha hok ((hB x0 hx0).2 a ha)
        have h2 := (tri_sm hT).2.2 _ h1
        rw [← h2.1]
        unfold trow
        rw [List.length_map]
      have hd := dep_pos hlt hc
      have hmem : ∀ x ∈ rows, atI x o[k] ∈ chB (trieB d o a) ((trow a o x0).take (depB a o k)) := by
        intro x hx
        have h1 := trow_in g1 ho ha hok ((hB x hx).2 a ha)
        have h2 := ch_mem (t := trieB d o a) (pre := (trow a o x0).take (depB a o k)) (r := trow a o x) (by rw [hlen]; exact hT) (by rw [hlen]; omega) h1 (by rw [hlen]; exact hpre x hx)
        rw [hlen, trow_at hlt hc] at h2
        exact h2
      have hB2 : (chB (trieB d o a) ((trow a o x0).take (depB a o k))).length ≤ lsN (q.2.1.map (trieB d o)) q o k := by
        have := most_ge (t := trieB d o a) (n := depB a o k) (trow_in g1 ho ha hok ((hB x0 hx0).2 a ha))
        omega
      have := cnt_fib (fun x => atI x o[k]) (prF (q.2.1.map (trieB d o)) q o r (k + 1)) _ rows hmem (fun b hb => by
        refine deg_count hf ho r (k + 1) (by omega) _ (List.Nodup.sublist List.filter_sublist hn) (fun x hx => hB x (List.mem_filter.1 hx).1) (fun x hx y hy j hj hjk => ?_)
        obtain ⟨hx1, hx2⟩ := List.mem_filter.1 hx
        obtain ⟨hy1, hy2⟩ := List.mem_filter.1 hy
        rcases Nat.lt_or_ge j k with h1 | h1
        · exact hag x hx1 y hy1 j hj h1
        · have : j = k := by omega
          subst this
          rw [of_decide_eq_true hx2, of_decide_eq_true hy2])
      rw [prF]
      exact Nat.le_trans this (Nat.mul_le_mul_right _ hB2)
/-- the capped product -/
theorem bd_min (hf : qforB d q = true) (ho : ordB q o = true) : ∀ k, k ≤ o.length → 0 ≤ bdK (q.2.1.map (trieB d o)) q o k ∧ bdK (q.2.1.map (trieB d o)) q o k ≤ 1000000000 ∧ ((prQ (q.2.1.map (trieB d o)) q o k : Int) ≤ bdK (q.2.1.map (trieB d o)) q o k ∨ bdK (q.2.1.map (trieB d o)) q o k = 1000000000)
  | 0, _ => by rw [bdK, prQ]; omega
  | k + 1, hk => by
    obtain ⟨h1, h2, h3⟩ := bd_min hf ho k (by omega)
    obtain ⟨a, ha, hc, hT, hls⟩ := least_is hf ho (show k < o.length by omega)
    have h4 := mo_le hT
    have hz : lsK (q.2.1.map (trieB d o)) q o k (ixK q (atI o (k : Int)) q.2.1.length) (ixK q (atI o (k : Int)) q.2.1.length).length = (lsN (q.2.1.map (trieB d o)) q o k : Int) := by
      have := lsK_nn (q.2.1.map (trieB d o)) q o k (ixK q (atI o (k : Int)) q.2.1.length) (ixK q (atI o (k : Int)) q.2.1.length).length
      unfold lsN
      omega
    rw [bdK, prQ]
    rw [hz]
    generalize lsN (q.2.1.map (trieB d o)) q o k = z at hls
    generalize bdK (q.2.1.map (trieB d o)) q o k = b at h1 h2 h3
    generalize prQ (q.2.1.map (trieB d o)) q o k = Q at h3
    have hz4 : (z : Int) ≤ 4000 := by omega
    have h0 : 0 ≤ b * (z : Int) := Int.mul_nonneg h1 (by omega)
    have hm : b * (z : Int) ≤ 1000000000 * 4000 := Int.mul_le_mul h2 hz4 (by omega) (by omega)
    rw [wrap_in (by omega)]
    refine ⟨by split <;> omega, by split <;> omega, ?_⟩
    rcases h3 with h3 | h3
    · have h5 : ((Q * z : Nat) : Int) ≤ b * (z : Int) := by rw [Int.natCast_mul]; exact Int.mul_le_mul_of_nonneg_right h3 (by omega)
      split
      · exact .inl h5
      · exact .inr rfl
    · rcases Nat.eq_zero_or_pos z with h6 | h6
      · subst h6
        left
        simp
      · right
        rw [if_neg]
        have : (1000000000 : Int) * 1 ≤ 1000000000 * (z : Int) := Int.mul_le_mul_of_nonneg_left (by omega) (by omega)
        rw [h3]; omega
/-- the bindings are within the bound -/
theorem deg_bound (hb : (degB d q o).2 = true) {rows : List (List Int)} (hl : rows.length ≤ 65536) (hn : rows.Nodup) (hr : ∀ x ∈ rows, IsB d q x) : (rows.length : Int) ≤ (degB d q o).1 := by
  unfold degB at hb ⊢
  cases hc : qforB d q && ordB q o with
  | false => rw [hc] at hb; cases hb
  | true =>
    rw [Bool.and_eq_true] at hc
    show _ ≤ bdK (q.2.1.map (trieB d o)) q o o.length
    have h1 := deg_count hc.1 hc.2 o.length 0 (by omega) rows hn hr (fun x _ y _ j _ h => absurd h (by omega))
    have h2 := pr_eq (q.2.1.map (trieB d o)) q o o.length 0
    rw [prQ, Nat.one_mul, Nat.zero_add] at h2
    rw [h2] at h1
    rcases (bd_min hc.1 hc.2 o.length (Nat.le_refl _)).2.2 with h3 | h3
    · exact Int.le_trans (Int.ofNat_le.2 h1) h3
    · omega
end
end Go.Proofs.YtmjhiencoapldaaGreat
