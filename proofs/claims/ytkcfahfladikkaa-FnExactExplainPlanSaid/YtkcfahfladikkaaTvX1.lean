/-
  When a join tree, a decomposition and a plan are valid, part 2: the reference and the program agree. On the printed functions; conditions: lengths.
-/
import Derived.Test.YtkcfahfladikkaaTwX1
-- pure
namespace Go.Proofs.Ytkcfahfladikkaa
open Go.RowKit
set_option linter.unusedVariables false
set_option linter.unusedSimpArgs false
theorem qry_in {q : Qry} (h : qryB q = true) : 1 ≤ q.1 ∧ q.1 ≤ 5 ∧ q.2.1.length ≤ 4 ∧ ∀ a ∈ q.2.1, a.2.length ≤ 5 ∧ ∀ v ∈ a.2, 0 ≤ v ∧ v < q.1 := by
  have e1 := qry_n h
  unfold qryB at h
  simp only [Bool.and_eq_true, Bool.not_eq_true'] at h
  obtain ⟨h1, h2, -, h4, -⟩ := h
  have e2 : 1 ≤ (q.2.1.length : Int) ∧ (q.2.1.length : Int) ≤ 4 := by unfold btw at h2; simpa using h2
  refine ⟨e1.1, e1.2, by omega, fun a ha => ?_⟩
  obtain ⟨k, hk, rfl⟩ := List.mem_iff_getElem.1 ha
  have h5 := badAny_f h4 hk
  unfold atomBad at h5
  simp only [Bool.or_eq_false_iff, Bool.not_eq_false'] at h5
  have e3 : 1 ≤ ((q.2.1[k]).2.length : Int) ∧ ((q.2.1[k]).2.length : Int) ≤ 5 := by have := h5.2.1; unfold btw at this; simpa using this
  refine ⟨by omega, fun v hv => ?_⟩
  obtain ⟨j, hj, rfl⟩ := List.mem_iff_getElem.1 hv
  have h6 := badAny_f h5.2.2 hj
  simp only [Bool.not_eq_false'] at h6
  rw [wrap_in (by omega)] at h6
  unfold btw at h6
  simp only [Bool.and_eq_true, decide_eq_true_eq] at h6
  omega
theorem find_neg (l : List Int) (v : Int) : decide (placeI l v < 0) = !l.contains v := by
  rw [← place_has]
  by_cases h : 0 ≤ placeI l v
  · rw [decide_eq_true h, decide_eq_false (by omega)]; rfl
  · rw [decide_eq_false h, decide_eq_true (by omega)]; rfl
theorem topB_map (l : List Atm) (p : List Int) (v : Int) (i : Nat) : topB id (l.map fun a => a.2) p v i = topB (fun a : Atm => a.2) l p v i := by
  unfold topB atB
  simp only [List.getElem?_map, id]
  cases l[i]? with
  | none => rfl
  | some a =>
    simp only [Option.map_some]
    congr 1
    cases p[i]? with
    | none => rfl
    | some x =>
      simp only
      cases l[x.toNat]? <;> rfl
theorem topT_map (l : List Atm) (p : List Int) (v : Int) (k : Nat) : topT id (l.map fun a => a.2) p v k = topT (fun a : Atm => a.2) l p v k := by
  unfold topT
  congr 1
  exact List.filter_congr fun i _ => topB_map l p v i
/-- the places of a variable count one -/
def topsB {α : Type} (g : α → List Int) (l : List α) (p : List Int) (n : Nat) : Bool := (List.range n).any fun v => ((topT g l p (v : Int) p.length : Nat) : Int) != 1
theorem s_jtops {q : Qry} {p : List Int} (hq : smQ q) (hw : wide p) (hl : q.2.1.length = p.length) (v : Int) : loopF (spec_IsValidJoinTree_B3 q p v) fz (0, 0) = some ((topT (fun a : Atm => a.2) q.2.1 p v p.length : Nat) : Int) := by
  have hp : p.length ≤ lim := by rw [← hl]; exact hq.1
  have := loop_to (body := spec_IsValidJoinTree_B3 q p v) (out := ((topT (fun a : Atm => a.2) q.2.1 p v p.length : Nat) : Int)) (fun k => (((topT (fun a : Atm => a.2) q.2.1 p v k : Nat) : Int), (k : Int))) p.length (fun k hk rec => by
    have hk' : k < q.2.1.length := by omega
    have hle := topT_le (fun a : Atm => a.2) q.2.1 p v k
    have hst := topT_s (fun a : Atm => a.2) q.2.1 p v k
    unfold topB at hst
    rw [atB_lt hk', atB_lt hk] at hst
    unfold spec_IsValidJoinTree_B3 spec_IsValidJoinTree_J4 spec_IsValidJoinTree_J5
    simp only
    rw [lt_dec hk, geti_at hk', geti_at hk, wrap_s hk (lim_max hp), hst]
    simp only [cond_true, ob_s, s_cv (hq.2.1 _ (List.getElem_mem hk')).2]
    have hwrap : IntKind.i64.wrap (((topT (fun a : Atm => a.2) q.2.1 p v k : Nat) : Int) + 1) = ((topT (fun a : Atm => a.2) q.2.1 p v k + 1 : Nat) : Int) := wrap_k (by omega)
    cases q.2.1[k].2.contains v with
    | false => simp
    | true =>
      simp only [cond_true, Bool.true_and]
      have hwk := hw k hk
      by_cases hn : p[k] < 0
      · have e1 : (p[k] == -1) = true := by simp; omega
        rw [e1, decide_eq_true hn]
        simp only [cond_true, Bool.true_or, hwrap]
      · have e1 : (p[k] == -1) = false := by simp; omega
        rw [e1, decide_eq_false hn]
        have hj : p[k].toNat < q.2.1.length := by omega
        have hg : geti q.2.1 p[k] = some q.2.1[p[k].toNat] := by
          have e : p[k] = ((p[k].toNat : Nat) : Int) := by omega
          conv => lhs; rw [e]
          exact geti_at hj
        rw [hg, atB_lt hj]
        simp only [cond_false, Bool.false_or, ob_s, s_cv (hq.2.1 _ (List.getElem_mem hj)).2]
        cases q.2.1[p[k].toNat].2.contains v with
        | true => simp
        | false => simp only [Bool.not_false, cond_true, hwrap]) (fun rec => by unfold spec_IsValidJoinTree_B3; simp only; rw [nlt_dec]; rfl) fz (lt_fz hp)
  exact this
theorem s_dtops {ls : List (List Int)} {p : List Int} (hw : wide p) (hl : ls.length = p.length) (hp : p.length ≤ lim) (hs : ∀ l ∈ ls, l.length ≤ lim) (v : Int) : loopF (spec_IsValidDecomposition_B6 (ls, p) v) fz (0, 0) = some ((topT id ls p v p.length : Nat) : Int) := by
  have := loop_to (body := spec_IsValidDecomposition_B6 (ls, p) v) (out := ((topT id ls p v p.length : Nat) : Int)) (fun k => (((topT id ls p v k : Nat) : Int), (k : Int))) p.length (fun k hk rec => by
    have hk' : k < ls.length := by omega
    have hle := topT_le id ls p v k
    have hst := topT_s id ls p v k
    unfold topB at hst
    rw [atB_lt hk', atB_lt hk] at hst
    unfold spec_IsValidDecomposition_B6 spec_IsValidDecomposition_J7 spec_IsValidDecomposition_J8
    simp only
    rw [lt_dec hk', geti_at hk', geti_at hk, wrap_s hk (lim_max hp), hst]
    simp only [cond_true, ob_s, s_find (hs _ (List.getElem_mem hk')), place_has, id]
    have hwrap : IntKind.i64.wrap (((topT id ls p v k : Nat) : Int) + 1) = ((topT id ls p v k + 1 : Nat) : Int) := wrap_k (by omega)
    cases ls[k].contains v with
    | false => simp
    | true =>
      simp only [cond_true, Bool.true_and]
      have hwk := hw k hk
      by_cases hn : p[k] < 0
      · have e1 : (p[k] == -1) = true := by simp; omega
        rw [e1, decide_eq_true hn]
        simp only [cond_true, Bool.true_or, hwrap]
      · have e1 : (p[k] == -1) = false := by simp; omega
        rw [e1, decide_eq_false hn]
        have hj : p[k].toNat < ls.length := by omega
        have hg : geti ls p[k] = some ls[p[k].toNat] := by
          have e : p[k] = ((p[k].toNat : Nat) : Int) := by omega
          conv => lhs; rw [e]
          exact geti_at hj
        rw [hg, atB_lt hj]
        simp only [cond_false, Bool.false_or, ob_s, s_find (hs _ (List.getElem_mem hj)), find_neg]
        cases ls[p[k].toNat].contains v with
        | true => simp
        | false => simp only [Bool.not_false, cond_true, hwrap]) (fun rec => by unfold spec_IsValidDecomposition_B6; simp only; rw [hl, nlt_dec]; rfl) fz (lt_fz hp)
  exact this
/-- a loop over the variables -/
theorem var_loop {B : (Int → Option (Sum Unit Bool)) → Int → Option (Sum Unit Bool)} {n : Int} (hn : 1 ≤ n ∧ n ≤ 5) (f : Int → Int) (hB : ∀ rec v, B rec v = cond (decide (v < n)) (cond (f v != 1) (some (.inr false)) (rec (IntKind.i64.wrap (v + 1)))) (some (.inl ()))) :
    loopF B fz 0 = some (cond ((List.range n.toNat).any fun v => f (v : Int) != 1) (.inr false) (.inl ())) := by
  refine all_loop (fun v => f (v : Int) != 1) (by unfold lim; omega) (fun k hk rec => ?_) (fun rec => ?_)
  · rw [hB, decide_eq_true (by omega : (k : Int) < n), wrap_in (by omega), cond_true]; rfl
  · rw [hB, decide_eq_false (by omega : ¬ ((n.toNat : Nat) : Int) < n)]; rfl
/-- a join tree -/
def jtB (q : Qry) (p : List Int) : Bool := qryB q && (((p.length : Int) == (q.2.1.length : Int)) && (treeS p && !topsB (fun a : Atm => a.2) q.2.1 p q.1.toNat))
theorem len_eqN {m n : Nat} (h : ((m : Int) == (n : Int)) = true) : m = n := by have h := eq_of_beq h; omega
theorem tree_wide {p : List Int} (h : treeI p = true) : wide p := by
  unfold treeI at h
  simp only [Bool.and_eq_true, Bool.not_eq_true'] at h
  exact wide_of fun i hi => by have := badAny_f h.1 hi; simp at this; exact this.1
theorem i_jt {q : Qry} {p : List Int} (hq : smQ q) (hp : p.length < lim) : impl_IsValidJoinTree q p = some (jtB q p) := by
  unfold impl_IsValidJoinTree jtB
  simp only [i_query hq, ob_s, i_isTree hp]
  rw [show ((p.length : Int) != (q.2.1.length : Int)) = !((p.length : Int) == (q.2.1.length : Int)) from rfl]
  cases hv : qryB q with
  | false => rfl
  | true =>
    cases hl : ((p.length : Int) == (q.2.1.length : Int)) with
    | false => rfl
    | true =>
      have hn := len_eqN hl
      rw [← tree_eq]
      cases ht : treeI p with
      | false => rfl
      | true =>
        simp only [Bool.not_true, cond_false, Bool.true_and]
        rw [map_loop (a := q.2.1) (h := fun a : Atm => a.2) hq.1 (fun k hk rec => by
          unfold impl_IsValidJoinTree_B1
          simp only
          rw [lt_dec hk, geti_at hk, wrap_s hk (lim_max hq.1)]
          simp only [cond_true, ob_s]
          rw [chk_pos (by simp only [List.length_map, List.length_take, List.length_singleton]; have := hq.1; omega)]) (fun rec y => by unfold impl_IsValidJoinTree_B1; simp only; rw [nlt_dec]; rfl)]
        rw [ob_s, var_loop (qry_n hv) (fun v => ((topT (fun a : Atm => a.2) q.2.1 p v p.length : Nat) : Int)) (fun rec v => by
          unfold impl_IsValidJoinTree_B2
          rw [i_tops (tree_wide ht) (by simp; omega) (by omega) (fun l hl => by
            obtain ⟨a, ha, rfl⟩ := List.mem_map.1 hl
            exact (hq.2.1 a ha).2), topT_map]
          rfl)]
        unfold topsB
        cases (List.range q.1.toNat).any fun v => ((topT (fun a : Atm => a.2) q.2.1 p (v : Int) p.length : Nat) : Int) != 1 <;> rfl
theorem s_jt {q : Qry} {p : List Int} (hq : smQ q) (hp : p.length < lim) : spec_IsValidJoinTree q p = some (jtB q p) := by
  unfold spec_IsValidJoinTree jtB
  simp only [s_query hq, ob_s, s_root (show p.length ≤ lim by omega)]
  rw [show ((p.length : Int) != (q.2.1.length : Int)) = !((p.length : Int) == (q.2.1.length : Int)) from rfl]
  cases hv : qryB q with
  | false => rfl
  | true =>
    cases hl : ((p.length : Int) == (q.2.1.length : Int)) with
    | false => rfl
    | true =>
      have hn := len_eqN hl
      simp only [Bool.not_true, cond_false, Bool.true_and]
      by_cases hr : 0 ≤ rootB p
      · rw [decide_eq_false (by omega : ¬ rootB p < 0), cond_false]
        have hloop : loopF (spec_IsValidJoinTree_B1 p) fz 0 = some (cond (badAny p fun i _ => !pathOk p i) (.inr false) (.inl ())) := by
          unfold badAny
          refine all_loop (fun k => atB p k fun _ => !pathOk p k) (by omega) (fun k hk rec => ?_) (fun rec => by unfold spec_IsValidJoinTree_B1; rw [nlt_dec]; rfl)
          unfold spec_IsValidJoinTree_B1
          rw [lt_dec hk, s_path hp, wrap_s hk (lim_max (show p.length ≤ lim by omega)), atB_lt hk]
          simp only [cond_true, ob_s, s_root (show p.length ≤ lim by omega)]
          exact path_bad hp hk _ _
        have ht : treeS p = !badAny p fun i _ => !pathOk p i := by unfold treeS; rw [decide_eq_true hr, Bool.true_and]
        rw [hloop, ob_s, ht]
        cases hb : (badAny p fun i _ => !pathOk p i) with
        | true => rfl
        | false =>
          have hw : wide p := tree_wide (by rw [tree_eq, ht, hb]; rfl)
          simp only [cond_false, Bool.not_false, Bool.true_and]
          rw [var_loop (qry_n hv) (fun v => ((topT (fun a : Atm => a.2) q.2.1 p v p.length : Nat) : Int)) (fun rec v => by
            unfold spec_IsValidJoinTree_B2
            rw [s_jtops hq hw hn.symm]
            rfl)]
          unfold topsB
          cases (List.range q.1.toNat).any fun v => ((topT (fun a : Atm => a.2) q.2.1 p (v : Int) p.length : Nat) : Int) != 1 <;> rfl
      · rw [decide_eq_true (by omega : rootB p < 0)]
        have ht : treeS p = false := by unfold treeS; rw [decide_eq_false hr, Bool.false_and]
        rw [ht]; rfl
theorem any_or2 {α : Type} (l : List α) (f g : Nat → α → Bool) : badAny l (fun k e => f k e || g k e) = (badAny l f || badAny l g) := by
  unfold badAny
  induction List.range l.length with
  | nil => rfl
  | cons k ks ih =>
    rw [List.any_cons, List.any_cons, List.any_cons, ih]
    unfold atB
    cases l[k]? with
    | none => simp
    | some e =>
      simp only
      cases f k e <;> cases g k e <;> simp
theorem badAny_len {α β : Type} {l : List α} {m : List β} (h : l.length = m.length) (f : Nat → Bool) : badAny l (fun k _ => f k) = badAny m fun k _ => f k := by
  unfold badAny
  rw [h]
  rw [Bool.eq_iff_iff, List.any_eq_true, List.any_eq_true]
  constructor
  · rintro ⟨k, hk, hb⟩
    have hk' := List.mem_range.1 hk
    rw [atB_lt (by omega)] at hb
    exact ⟨k, hk, by rw [atB_lt hk']; exact hb⟩
  · rintro ⟨k, hk, hb⟩
    have hk' := List.mem_range.1 hk
    rw [atB_lt hk'] at hb
    exact ⟨k, hk, by rw [atB_lt (by omega)]; exact hb⟩
/-- a bag -/
def outB (n : Int) (e : Int) : Bool := !btw e 0 (IntKind.i64.wrap (n - 1))
def bagB (n : Int) (b : List Int) : Bool := (!badAny b fun k e => outB n e || notUp b k e) && decide (0 < (b.length : Int))
theorem s_bag {q : Qry} {b : List Int} (h : b.length ≤ lim) : spec_l30Bag q b = some (bagB q.1 b) := by
  unfold spec_l30Bag bagB badAny
  rw [all_loop (fun k => atB b k fun e => outB q.1 e || notUp b k e) h (fun k hk rec => by
    unfold spec_l30Bag_B1 spec_l30Bag_J2
    rw [lt_dec hk, geti_at hk, wrap_s hk (lim_max h), atB_lt hk]
    simp only [cond_true, ob_s, s_l1In, outB, notUp]
    cases btw b[k] 0 (IntKind.i64.wrap (q.1 - 1)) with
    | false => rfl
    | true =>
      by_cases h0 : 0 < k
      · have hk' : k - 1 < b.length := by omega
        rw [wrap_p hk h0 (lim_max h), geti_at hk', atB_lt hk', decide_eq_true (by omega : (0 : Int) < (k : Int)), decide_eq_true h0]
        rfl
      · rw [decide_eq_false (by omega : ¬ (0 : Int) < (k : Int)), decide_eq_false h0]; rfl) (fun rec => by unfold spec_l30Bag_B1; rw [nlt_dec]; rfl)]
  cases (List.range b.length).any fun k => atB b k fun e => outB q.1 e || notUp b k e <;> rfl
theorem asc_lt {l : List Int} (h : badAny l (notUp l) = false) : ∀ (d j : Nat) (hd : j + 1 + d < l.length), l[j]'(by omega) < l[j + 1 + d]'hd
  | 0, j, hd => by
    have := badAny_f h hd
    unfold notUp at this
    rw [decide_eq_true (by omega), Bool.true_and, atB_lt (by omega : j + 1 + 0 - 1 < l.length)] at this
    simp only [decide_eq_false_iff_not, Int.not_le] at this
    exact this
  | d + 1, j, hd => by
    have h1 := asc_lt h d j (by omega)
    have h2 := badAny_f h hd
    unfold notUp at h2
    rw [decide_eq_true (by omega), Bool.true_and, atB_lt (by omega : j + 1 + (d + 1) - 1 < l.length)] at h2
    simp only [decide_eq_false_iff_not, Int.not_le] at h2
    have e : l[j + 1 + (d + 1) - 1]'(by omega) = l[j + 1 + d]'(by omega) := by congr 1
    rw [e] at h2
    omega
theorem set_out {n : Int} {l : List Int} (h : badAny l (notUp l) = false) : badAny l (setBad n l) = badAny l fun _ e => outB n e := by
  have e : badAny l (setBad n l) = (badAny l (fun _ e => outB n e) || badAny l (fun k e => (l.take k).contains e)) := by
    rw [← any_or2]; rfl
  have e2 : badAny l (fun k e => (l.take k).contains e) = false := badAny_of fun i hi => by
    rw [← Bool.not_eq_true, List.contains_iff_mem]
    intro hm
    obtain ⟨j, hj, he⟩ := List.mem_iff_getElem.1 hm
    rw [List.length_take] at hj
    rw [List.getElem_take] at he
    have := asc_lt h (i - j - 1) j (by omega)
    have e3 : l[j + 1 + (i - j - 1)]'(by omega) = l[i] := by congr 1; omega
    rw [e3] at this
    omega
  rw [e, e2, Bool.or_false]
theorem i_bag {q : Qry} {b : List Int} (h : b.length ≤ lim) : impl_isBag q b = some (bagB q.1 b) := by
  unfold impl_isBag impl_isBag_J1 bagB
  simp only [i_asc h, i_set h, ob_s]
  rw [any_or2]
  cases hu : badAny b (notUp b) with
  | true => cases decide (0 < (b.length : Int)) <;> simp
  | false =>
    rw [set_out hu]
    cases decide (0 < (b.length : Int)) <;> cases (badAny b fun _ e => outB q.1 e) <;> rfl
/-- the variables of an atom, in order -/
def avL (a : Atm) (k : Nat) : List Int := ((List.range k).filter fun (v : Nat) => a.2.contains (v : Int)).map fun (v : Nat) => (v : Int)
theorem avL_s (a : Atm) (k : Nat) : avL a (k + 1) = avL a k ++ cond (a.2.contains (k : Int)) [(k : Int)] [] := by
  unfold avL
  rw [List.range_succ, List.filter_append, List.map_append, List.filter_cons, List.filter_nil]
  cases a.2.contains (k : Int) <;> rfl
theorem avL_len (a : Atm) (k : Nat) : (avL a k).length ≤ k := by
  unfold avL
  rw [List.length_map]
  exact Nat.le_trans (List.length_filter_le _ _) (by simp)
theorem i_av {a : Atm} (h : a.2.length ≤ lim) (hcv : ∀ v, impl_ContainsVariable a v = some (a.2.contains v)) : impl_AtomVariables a = some (avL a 5) := by
  unfold impl_AtomVariables
  have := loop_to (body := impl_AtomVariables_B1 a) (out := avL a 5) (fun k => (avL a k, (k : Int))) 5 (fun k hk rec => by
    have hl := avL_len a k
    unfold impl_AtomVariables_B1 impl_AtomVariables_J2
    simp only
    rw [decide_eq_true (by omega : (k : Int) < 5), hcv, wrap_in (by omega), avL_s]
    simp only [cond_true, ob_s]
    cases a.2.contains (k : Int) with
    | true => rw [cond_true, chk_pos (by unfold lim; simp; omega)]; rfl
    | false => rw [cond_false, cond_false, List.append_nil]; rfl) (fun rec => by unfold impl_AtomVariables_B1; simp only; rfl) fz (by unfold fz; omega)
  rw [show ((([] : List Int), (0 : Int))) = (avL a 0, ((0 : Nat) : Int)) from rfl, this]
  rfl
theorem filt_s {α : Type} (f : α → Bool) {l : List α} {k : Nat} (hk : k < l.length) : (l.take (k + 1)).filter f = (l.take k).filter f ++ cond (f l[k]) [l[k]] [] := by
  rw [List.take_succ_eq_append_getElem hk, List.filter_append, List.filter_cons, List.filter_nil]
  cases f l[k] <;> rfl
theorem i_common {a b : List Int} (ha : a.length < lim) (hb : b.length ≤ lim) : impl_common a b = some (a.filter b.contains) := by
  unfold impl_common
  have := loop_to (body := impl_common_B1 a b) (out := a.filter b.contains) (fun k => ((a.take k).filter b.contains, (k : Int))) a.length (fun k hk rec => by
    have hl : ((a.take k).filter b.contains).length ≤ k := Nat.le_trans (List.length_filter_le _ _) (by simp; omega)
    unfold impl_common_B1 impl_common_J2
    simp only
    rw [lt_dec hk, geti_at hk, wrap_s hk (lim_max (by omega)), filt_s _ hk]
    simp only [cond_true, ob_s, i_has hb]
    cases b.contains a[k] with
    | true => rw [cond_true, chk_pos (by simp only [List.length_singleton]; omega)]; rfl
    | false => rw [cond_false, cond_false, List.append_nil]) (fun rec => by unfold impl_common_B1; simp only; rw [nlt_dec, List.take_length]; rfl) fz (lt_fz (by omega))
  rw [show ((([] : List Int), (0 : Int))) = ((a.take 0).filter b.contains, ((0 : Nat) : Int)) from by simp, this]
  rfl
/-- all the variables of an atom lie in a bag -/
def inB2 (a : Atm) (b : List Int) : Bool := a.2.all b.contains
theorem s_within {a : Atm} {b : List Int} (ha : a.2.length ≤ lim) (hb : b.length ≤ lim) : spec_l30Within a b = some (inB2 a b) := by
  unfold spec_l30Within
  rw [all_loop (fun k => atB a.2 k fun v => !b.contains v) ha (fun k hk rec => by
    unfold spec_l30Within_B1
    rw [lt_dec hk, geti_at hk, wrap_s hk (lim_max ha), atB_lt hk]
    simp only [cond_true, ob_s, s_find hb, find_neg]) (fun rec => by unfold spec_l30Within_B1; rw [nlt_dec]; rfl)]
  have e : inB2 a b = !(List.range a.2.length).any fun k => atB a.2 k fun v => !b.contains v := by
    rw [Bool.eq_iff_iff]
    unfold inB2
    rw [List.all_eq_true, Bool.not_eq_true', List.any_eq_false]
    constructor
    · intro h k hk
      have hk := List.mem_range.1 hk
      rw [atB_lt hk, h _ (List.getElem_mem hk)]; simp
    · intro h v hv
      obtain ⟨k, hk, rfl⟩ := List.mem_iff_getElem.1 hv
      have := h k (List.mem_range.2 hk)
      rw [atB_lt hk] at this
      simpa using this
  rw [e]
  cases (List.range a.2.length).any fun k => atB a.2 k fun v => !b.contains v <;> rfl
theorem in_same {a : Atm} (h : ∀ v ∈ a.2, 0 ≤ v ∧ v < 5) (b : List Int) : (((((avL a 5).filter b.contains).length : Nat) : Int) == (((avL a 5).length : Nat) : Int)) = inB2 a b := by
  have e1 : (((((avL a 5).filter b.contains).length : Nat) : Int) == (((avL a 5).length : Nat) : Int)) = true ↔ ((avL a 5).filter b.contains).length = (avL a 5).length := by
    rw [beq_iff_eq]; omega
  rw [Bool.eq_iff_iff, e1, List.length_filter_eq_length_iff]
  unfold inB2
  rw [List.all_eq_true]
  constructor
  · intro hh v hv
    have hb := h v hv
    refine hh v ?_
    unfold avL
    rw [List.mem_map]
    exact ⟨v.toNat, List.mem_filter.2 ⟨List.mem_range.2 (by omega), by rw [show ((v.toNat : Nat) : Int) = v by omega]; simpa using hv⟩, by omega⟩
  · intro hh v hv
    unfold avL at hv
    rw [List.mem_map] at hv
    obtain ⟨n, hn, rfl⟩ := hv
    have := (List.mem_filter.1 hn).2
    exact hh _ (by simpa using this)
theorem any_s {α : Type} (f : α → Bool) {l : List α} {k : Nat} (hk : k < l.length) : (l.take (k + 1)).any f = ((l.take k).any f || f l[k]) := by
  rw [List.take_succ_eq_append_getElem hk, List.any_append]; simp
/-- a decomposition -/
def decB (q : Qry) (x : List (List Int) × List Int) : Bool := qryB q && (((x.2.length : Int) == (x.1.length : Int)) && (treeS x.2 && ((!badAny x.1 fun _ b => !bagB q.1 b) && ((!badAny q.2.1 fun _ a => !x.1.any (inB2 a)) && !topsB id x.1 x.2 q.1.toNat))))
def smDec (x : List (List Int) × List Int) : Prop := x.1.length < lim ∧ (∀ b ∈ x.1, b.length < lim) ∧ x.2.length < lim
theorem s_ins {q : Qry} {x : List (List Int) × List Int} (hq : smQ q) (hx : smDec x) : loopF (spec_IsValidDecomposition_B2 q x) fz 0 = some (cond (badAny q.2.1 fun _ a => !x.1.any (inB2 a)) (.inr false) (.inl ())) := by
  unfold badAny
  refine all_loop (fun k => atB q.2.1 k fun a => !x.1.any (inB2 a)) hq.1 (fun k hk rec => ?_) (fun rec => by unfold spec_IsValidDecomposition_B2; rw [nlt_dec]; rfl)
  have hin : loopF (spec_IsValidDecomposition_B3 q x (k : Int)) fz (false, 0) = some (x.1.any (inB2 q.2.1[k])) := by
    have := loop_to (body := spec_IsValidDecomposition_B3 q x (k : Int)) (out := x.1.any (inB2 q.2.1[k])) (fun j => ((x.1.take j).any (inB2 q.2.1[k]), (j : Int))) x.1.length (fun j hj rec => by
      unfold spec_IsValidDecomposition_B3 spec_IsValidDecomposition_J4
      simp only
      rw [lt_dec hj, geti_at hk, geti_at hj, wrap_s hj (lim_max (Nat.le_of_lt hx.1)), any_s _ hj]
      simp only [cond_true, ob_s, s_within (hq.2.1 _ (List.getElem_mem hk)).2 (Nat.le_of_lt (hx.2.1 _ (List.getElem_mem hj)))]
      cases (x.1.take j).any (inB2 q.2.1[k]) <;> rfl) (fun rec => by unfold spec_IsValidDecomposition_B3; simp only; rw [nlt_dec, List.take_length]; rfl) fz (lt_fz (Nat.le_of_lt hx.1))
    simpa using this
  unfold spec_IsValidDecomposition_B2
  rw [lt_dec hk, hin, wrap_s hk (lim_max hq.1), atB_lt hk]
  rfl
theorem i_ins {q : Qry} {x : List (List Int) × List Int} (hq : smQ q) (hv : qryB q = true) (hcv : ∀ a : Atm, a.2.length ≤ lim → ∀ v, impl_ContainsVariable a v = some (a.2.contains v)) (hx : smDec x) : loopF (impl_IsValidDecomposition_B2 q x) fz 0 = some (cond (badAny q.2.1 fun _ a => !x.1.any (inB2 a)) (.inr false) (.inl ())) := by
  have hf := qry_in hv
  unfold badAny
  refine all_loop (fun k => atB q.2.1 k fun a => !x.1.any (inB2 a)) hq.1 (fun k hk rec => ?_) (fun rec => by unfold impl_IsValidDecomposition_B2; rw [nlt_dec]; rfl)
  have ha := (hq.2.1 _ (List.getElem_mem hk)).2
  have hav := i_av ha (hcv _ ha)
  have hv5 : ∀ v ∈ q.2.1[k].2, 0 ≤ v ∧ v < 5 := fun v hv => by have := (hf.2.2.2 _ (List.getElem_mem hk)).2 v hv; omega
  have hin : loopF (impl_IsValidDecomposition_B3 x q.2.1[k]) fz (false, 0) = some (x.1.any (inB2 q.2.1[k])) := by
    have := loop_to (body := impl_IsValidDecomposition_B3 x q.2.1[k]) (out := x.1.any (inB2 q.2.1[k])) (fun j => ((x.1.take j).any (inB2 q.2.1[k]), (j : Int))) x.1.length (fun j hj rec => by
      have hl := avL_len q.2.1[k] 5
      unfold impl_IsValidDecomposition_B3 impl_IsValidDecomposition_J4
      simp only
      rw [lt_dec hj, geti_at hj, wrap_s hj (lim_max (Nat.le_of_lt hx.1)), any_s _ hj]
      simp only [cond_true, ob_s, hav, i_common (a := avL q.2.1[k] 5) (b := x.1[j]) (by unfold lim; omega) (Nat.le_of_lt (hx.2.1 _ (List.getElem_mem hj))), in_same hv5]
      cases (x.1.take j).any (inB2 q.2.1[k]) <;> rfl) (fun rec => by unfold impl_IsValidDecomposition_B3; simp only; rw [nlt_dec, List.take_length]; rfl) fz (lt_fz (Nat.le_of_lt hx.1))
    simpa using this
  unfold impl_IsValidDecomposition_B2
  rw [lt_dec hk, geti_at hk, ob_s, hin, wrap_s hk (lim_max hq.1), atB_lt hk]
  rfl
theorem i_cv {a : Atm} (h : a.2.length ≤ lim) (v : Int) : impl_ContainsVariable a v = some (a.2.contains v) := by
  unfold impl_ContainsVariable
  simp only [i_has h, ob_s]
theorem i_dec {q : Qry} {x : List (List Int) × List Int} (hq : smQ q) (hx : smDec x) : impl_IsValidDecomposition q x = some (decB q x) := by
  unfold impl_IsValidDecomposition decB
  simp only [i_query hq, ob_s, i_isTree hx.2.2]
  rw [show ((x.1.length : Int) != (x.2.length : Int)) = !((x.2.length : Int) == (x.1.length : Int)) from by rw [bne]; congr 1; rw [Bool.eq_iff_iff]; simp; omega]
  cases hv : qryB q with
  | false => rfl
  | true =>
    cases hl : ((x.2.length : Int) == (x.1.length : Int)) with
    | false => rfl
    | true =>
      have hn := len_eqN hl
      rw [← tree_eq]
      cases ht : treeI x.2 with
      | false => rfl
      | true =>
        have hloop : loopF (impl_IsValidDecomposition_B1 q x) fz 0 = some (cond (badAny x.1 fun _ b => !bagB q.1 b) (.inr false) (.inl ())) := by
          unfold badAny
          refine all_loop (fun k => atB x.1 k fun b => !bagB q.1 b) (Nat.le_of_lt hx.1) (fun k hk rec => ?_) (fun rec => by unfold impl_IsValidDecomposition_B1; rw [nlt_dec]; rfl)
          unfold impl_IsValidDecomposition_B1
          rw [lt_dec hk, geti_at hk, wrap_s hk (lim_max (Nat.le_of_lt hx.1)), atB_lt hk]
          simp only [cond_true, ob_s, i_bag (Nat.le_of_lt (hx.2.1 _ (List.getElem_mem hk)))]
        simp only [Bool.not_true, cond_false, Bool.true_and]
        rw [hloop, ob_s]
        cases (badAny x.1 fun _ b => !bagB q.1 b) with
        | true => rfl
        | false =>
          simp only [cond_false, Bool.not_false, Bool.true_and]
          rw [i_ins hq hv (fun a ha v => i_cv ha v) hx, ob_s]
          cases (badAny q.2.1 fun _ a => !x.1.any (inB2 a)) with
          | true => rfl
          | false =>
            simp only [cond_false, Bool.not_false, Bool.true_and]
            rw [var_loop (qry_n hv) (fun v => ((topT id x.1 x.2 v x.2.length : Nat) : Int)) (fun rec v => by
              unfold impl_IsValidDecomposition_B5
              rw [i_tops (tree_wide ht) hn.symm (Nat.le_of_lt hx.2.2) (fun l hl => Nat.le_of_lt (hx.2.1 l hl))]
              rfl)]
            unfold topsB
            cases (List.range q.1.toNat).any fun v => ((topT id x.1 x.2 (v : Int) x.2.length : Nat) : Int) != 1 <;> rfl
theorem s_dec {q : Qry} {x : List (List Int) × List Int} (hq : smQ q) (hx : smDec x) : spec_IsValidDecomposition q x = some (decB q x) := by
  unfold spec_IsValidDecomposition decB
  simp only [s_query hq, ob_s, s_root (Nat.le_of_lt hx.2.2)]
  rw [show ((x.2.length : Int) != (x.1.length : Int)) = !((x.2.length : Int) == (x.1.length : Int)) from rfl]
  cases hv : qryB q with
  | false => rfl
  | true =>
    cases hl : ((x.2.length : Int) == (x.1.length : Int)) with
    | false => rfl
    | true =>
      have hn := len_eqN hl
      simp only [Bool.not_true, cond_false, Bool.true_and]
      by_cases hr : 0 ≤ rootB x.2
      · rw [decide_eq_false (by omega : ¬ rootB x.2 < 0), cond_false]
        have hloop : loopF (spec_IsValidDecomposition_B1 q x) fz 0 = some (cond (badAny x.1 fun i b => !bagB q.1 b || !pathOk x.2 i) (.inr false) (.inl ())) := by
          unfold badAny
          refine all_loop (fun k => atB x.1 k fun b => !bagB q.1 b || !pathOk x.2 k) (Nat.le_of_lt hx.1) (fun k hk rec => ?_) (fun rec => by unfold spec_IsValidDecomposition_B1; rw [nlt_dec]; rfl)
          unfold spec_IsValidDecomposition_B1
          rw [lt_dec hk, s_path hx.2.2, geti_at hk, wrap_s hk (lim_max (Nat.le_of_lt hx.1)), atB_lt hk]
          simp only [cond_true, ob_s, s_root (Nat.le_of_lt hx.2.2), s_bag (Nat.le_of_lt (hx.2.1 _ (List.getElem_mem hk)))]
          cases bagB q.1 x.1[k] with
          | false => rfl
          | true =>
            simp only [Bool.not_true, cond_false, Bool.false_or]
            exact path_bad hx.2.2 (by omega) _ _
        have ht : treeS x.2 = !badAny x.1 fun i _ => !pathOk x.2 i := by
          unfold treeS
          rw [decide_eq_true hr, Bool.true_and, badAny_len hn]
        rw [hloop, ob_s, any_or2, ht]
        cases hb : (badAny x.1 fun i _ => !pathOk x.2 i) with
        | true => cases (badAny x.1 fun _ b => !bagB q.1 b) <;> rfl
        | false =>
          have hw : wide x.2 := tree_wide (by rw [tree_eq, ht, hb]; rfl)
          cases (badAny x.1 fun _ b => !bagB q.1 b) with
          | true => rfl
          | false =>
            simp only [cond_false, Bool.not_false, Bool.true_and, Bool.or_false]
            rw [s_ins hq hx, ob_s]
            cases (badAny q.2.1 fun _ a => !x.1.any (inB2 a)) with
            | true => rfl
            | false =>
              simp only [cond_false, Bool.not_false, Bool.true_and]
              rw [var_loop (qry_n hv) (fun v => ((topT id x.1 x.2 v x.2.length : Nat) : Int)) (fun rec v => by
                unfold spec_IsValidDecomposition_B5
                have := s_dtops (ls := x.1) hw hn.symm (Nat.le_of_lt hx.2.2) (fun l hl => Nat.le_of_lt (hx.2.1 l hl)) v
                rw [show (x.1, x.2) = x from rfl] at this
                rw [this]
                rfl)]
              unfold topsB
              cases (List.range q.1.toNat).any fun v => ((topT id x.1 x.2 (v : Int) x.2.length : Nat) : Int) != 1 <;> rfl
      · rw [decide_eq_true (by omega : rootB x.2 < 0)]
        have ht : treeS x.2 = false := by unfold treeS; rw [decide_eq_false hr, Bool.false_and]
        rw [ht]; rfl
/-- a plan -/
abbrev Pln := Int × List Int × List Int × (List (List Int) × List Int)
def smPln (p : Pln) : Prop := p.2.1.length ≤ lim ∧ p.2.2.1.length < lim ∧ smDec p.2.2.2
def plnB (q : Qry) (p : Pln) : Bool := cond (p.1 == 1) (jtB q p.2.2.1) (cond (p.1 == 2) (decB q p.2.2.2) (cond (p.1 == 3) (ordB q p.2.1) false))
theorem s_pln {q : Qry} {p : Pln} (hq : smQ q) (hp : smPln p) : spec_IsValidPlan q p = some (plnB q p) := by
  unfold spec_IsValidPlan plnB
  simp only [s_jt hq hp.2.1, s_dec hq hp.2.2, s_order hq hp.1, ob_s]
  cases p.1 == 1 <;> cases p.1 == 2 <;> cases p.1 == 3 <;> rfl
theorem i_pln {q : Qry} {p : Pln} (hq : smQ q) (hp : smPln p) : impl_IsValidPlan q p = some (plnB q p) := by
  unfold impl_IsValidPlan plnB
  simp only [i_jt hq hp.2.1, i_dec hq hp.2.2, i_order hq hp.1, ob_s]
  cases p.1 == 1 <;> cases p.1 == 2 <;> cases p.1 == 3 <;> rfl
end Go.Proofs.Ytkcfahfladikkaa
