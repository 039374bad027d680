/-
  Tries of a query's atoms, and their children: the reference and the program agree. On the printed functions; conditions: the query fits.
-/
import Derived.Test.YtlknpohjnpnodaaGreatAbAC1
-- pure
namespace Go.Proofs.YtlknpohjnpnodaaGreat
open Go.RowKit
set_option linter.unusedVariables false
set_option linter.unusedSimpArgs false
theorem nd_len : ∀ {l m : List Int}, l.Nodup → (∀ x ∈ l, x ∈ m) → l.length ≤ m.length
  | [], m, _, _ => by simp
  | x :: l, m, hn, h => by
    have hx := h x (by simp)
    rw [List.nodup_cons] at hn
    have h1 := nd_len (l := l) (m := m.erase x) hn.2 (fun y hy => by
      have hne : y ≠ x := fun e => by subst e; exact hn.1 hy
      exact (List.mem_erase_of_ne hne).2 (h y (by simp [hy])))
    have h2 := List.length_erase_of_mem hx
    have h3 : 0 < m.length := List.length_pos_of_mem hx
    rw [List.length_cons]; omega
/-- different numbers below n -/
theorem set_nd {n : Int} (hn : 1 ≤ n ∧ n ≤ 5) {l : List Int} (h : badAny l (setBad n l) = false) : l.Nodup ∧ ∀ e ∈ l, 0 ≤ e ∧ e < n := by
  have hw : IntKind.i64.wrap (n - 1) = n - 1 := wrap_in (by omega)
  constructor
  · rw [List.nodup_iff_pairwise_ne, List.pairwise_iff_getElem]
    intro i j hi hj hij he
    have h1 := badAny_f h hj
    unfold setBad at h1
    simp only [Bool.or_eq_false_iff] at h1
    have h2 := h1.2
    have h3 : (l.take j).contains l[j] = true := by
      rw [List.contains_iff_mem, List.mem_iff_getElem]
      exact ⟨i, by rw [List.length_take]; omega, by rw [List.getElem_take]; exact he⟩
    rw [h3] at h2; cases h2
  · intro e he
    obtain ⟨k, hk, rfl⟩ := List.mem_iff_getElem.1 he
    have := badAny_f h hk
    unfold setBad btw at this
    simp only [Bool.or_eq_false_iff, Bool.not_eq_false', Bool.and_eq_true, decide_eq_true_eq, hw] at this
    omega
theorem set_of {m : Int} (hm : 0 ≤ m ∧ m ≤ 5) {l : List Int} (h1 : l.Nodup) (h2 : ∀ e ∈ l, 0 ≤ e ∧ e < m) : badAny l (setBad m l) = false := badAny_of fun i hi => by
  have h3 := h2 _ (List.getElem_mem hi)
  unfold setBad btw
  rw [wrap_in (by omega), Bool.or_eq_false_iff]
  refine ⟨by simp; omega, ?_⟩
  rw [← Bool.not_eq_true, List.contains_iff_mem]
  intro hm
  obtain ⟨j, hj, he⟩ := List.mem_iff_getElem.1 hm
  rw [List.length_take] at hj
  rw [List.getElem_take] at he
  rw [List.nodup_iff_pairwise_ne, List.pairwise_iff_getElem] at h1
  exact h1 j i (by omega) hi (by omega) he
theorem av_nodup (a : Atm) : (avL a 5).Nodup := by
  unfold avL
  rw [List.nodup_iff_pairwise_ne, List.pairwise_map]
  have h : ((List.range 5).filter fun (v : Nat) => a.2.contains (v : Int)).Nodup := List.Nodup.sublist List.filter_sublist List.nodup_range
  rw [List.nodup_iff_pairwise_ne] at h
  exact h.imp fun h e => h (by omega)
/-- an order's facts -/
theorem ord_all {q : Qry} {o : List Int} (h : ordB q o = true) : (o.length : Int) = q.1 ∧ o.Nodup ∧ (∀ v ∈ o, 0 ≤ v ∧ v < q.1) ∧ ∀ v : Int, 0 ≤ v → v < q.1 → v ∈ o := by
  unfold ordB at h
  simp only [Bool.and_eq_true, Bool.not_eq_true', beq_iff_eq] at h
  have hn := qry_n h.1
  have h2 := set_nd hn h.2.2
  refine ⟨h.2.1, h2.1, h2.2, fun v h0 h1 => ?_⟩
  apply Classical.byContradiction
  intro hno
  have := few q.1.toNat (v :: o) (List.nodup_cons.2 ⟨hno, h2.1⟩) (fun e he => by
    rcases List.mem_cons.1 he with rfl | he
    · omega
    · have := h2.2 e he; omega)
  rw [List.length_cons] at this
  have := h.2.1
  omega
/-- the columns of an atom in an order -/
def colK (V o : List Int) : Nat → List Int
  | 0 => []
  | k + 1 => colK V o k ++ cond (decide (0 ≤ placeI V (atI o (k : Int))) && !(colK V o k).contains (placeI V (atI o (k : Int)))) [placeI V (atI o (k : Int))] []
theorem colK_len (V o : List Int) : ∀ k, (colK V o k).length ≤ k
  | 0 => by simp [colK]
  | k + 1 => by
    have := colK_len V o k
    rw [colK, List.length_append]
    cases decide (0 ≤ placeI V (atI o (k : Int))) && !(colK V o k).contains (placeI V (atI o (k : Int)))
    · rw [cond_false, List.length_nil]; omega
    · rw [cond_true, List.length_singleton]; omega
theorem colK_nd (V o : List Int) : ∀ k, (colK V o k).Nodup
  | 0 => List.nodup_nil
  | k + 1 => by
    rw [colK]
    cases hb : decide (0 ≤ placeI V (atI o (k : Int))) && !(colK V o k).contains (placeI V (atI o (k : Int))) with
    | false => rw [cond_false, List.append_nil]; exact colK_nd V o k
    | true =>
      rw [Bool.and_eq_true, Bool.not_eq_true'] at hb
      rw [cond_true]
      refine List.nodup_append.2 ⟨colK_nd V o k, by simp, fun x hx y hy e => ?_⟩
      simp only [List.mem_singleton] at hy
      subst e hy
      have := hb.2
      rw [← Bool.not_eq_true, List.contains_iff_mem] at this
      exact this hx
theorem place_lt {l : List Int} {v : Int} (h : 0 ≤ placeI l v) : placeI l v < (l.length : Int) ∧ l.contains v = true := by
  have hc : l.contains v = true := by rw [← place_has]; exact decide_eq_true h
  obtain ⟨k, hk, e1, _⟩ := place_in hc
  exact ⟨by omega, hc⟩
theorem colK_in (V o : List Int) : ∀ k, ∀ x ∈ colK V o k, 0 ≤ x ∧ x < (V.length : Int)
  | 0, x, h => by cases h
  | k + 1, x, h => by
    rw [colK] at h
    rcases List.mem_append.1 h with h | h
    · exact colK_in V o k x h
    · cases hb : decide (0 ≤ placeI V (atI o (k : Int))) && !(colK V o k).contains (placeI V (atI o (k : Int))) with
      | false => rw [hb] at h; cases h
      | true =>
        rw [hb, cond_true, List.mem_singleton] at h
        rw [Bool.and_eq_true, decide_eq_true_eq] at hb
        subst h
        exact ⟨hb.1, (place_lt hb.1).1⟩
theorem colK_up (V o : List Int) {x : Int} : ∀ {d i : Nat}, x ∈ colK V o i → x ∈ colK V o (i + d)
  | 0, _, h => h
  | d + 1, i, h => by
    rw [show i + (d + 1) = (i + d) + 1 by omega, colK]
    exact List.mem_append_left _ (colK_up V o h)
theorem colK_has {V o : List Int} (hn : V.Nodup) {j i : Nat} (hj : j < V.length) (hi : i < o.length) (he : o[i] = V[j]) : (j : Int) ∈ colK V o o.length := by
  have hc : V.contains o[i] = true := by rw [List.contains_iff_mem, he]; exact List.getElem_mem hj
  obtain ⟨p, hp, e1, e2⟩ := place_in hc
  have hpj : p = j := by
    apply Classical.byContradiction
    intro hne
    rw [List.nodup_iff_pairwise_ne, List.pairwise_iff_getElem] at hn
    rw [he] at e2
    rcases Nat.lt_or_ge p j with h | h
    · exact hn p j hp hj h e2
    · exact hn j p hj hp (by omega) e2.symm
  have hmem : (j : Int) ∈ colK V o (i + 1) := by
    rw [colK, atI_n hi, e1, hpj]
    rw [decide_eq_true (by omega : (0 : Int) ≤ (j : Int)), Bool.true_and]
    cases hb : (colK V o i).contains (j : Int) with
    | true => exact List.mem_append_left _ (List.contains_iff_mem.1 hb)
    | false => exact List.mem_append_right _ (by simp)
  have := colK_up V o (d := o.length - (i + 1)) hmem
  rwa [show i + 1 + (o.length - (i + 1)) = o.length by omega] at this
theorem colK_full {V o : List Int} (hn : V.Nodup) (h : ∀ v ∈ V, v ∈ o) : (colK V o o.length).length = V.length := by
  have h1 := few V.length (colK V o o.length) (colK_nd V o _) (colK_in V o _)
  have h2 : ((List.range V.length).map fun (j : Nat) => (j : Int)).length ≤ (colK V o o.length).length := by
    refine nd_len ?_ ?_
    · rw [List.nodup_iff_pairwise_ne, List.pairwise_map]
      have h := List.nodup_range (n := V.length)
      rw [List.nodup_iff_pairwise_ne] at h
      exact h.imp fun h e => h (by omega)
    · intro x hx
      obtain ⟨j, hj, rfl⟩ := List.mem_map.1 hx
      have hj := List.mem_range.1 hj
      obtain ⟨i, hi, he⟩ := List.mem_iff_getElem.1 (h _ (List.getElem_mem hj))
      exact colK_has hn hj hi he
  rw [List.length_map, List.length_range] at h2
  omega
def colB (a : Atm) (o : List Int) : List Int := colK (avL a 5) o o.length
theorem s_cfo {a : Atm} {o : List Int} (ha : AtmOk a) (ho : o.length ≤ 5) : spec_ColumnsForOrder a o = some (colB a o) := by
  have hal : a.2.length ≤ lim := by have := ha.1; unfold lim; omega
  have hv5 := avL_len a 5
  unfold spec_ColumnsForOrder
  rw [s_av hal, ob_s]
  have := loop_to (body := spec_ColumnsForOrder_B1 o (avL a 5)) (out := colB a o) (fun k => (colK (avL a 5) o k, (k : Int))) o.length (fun k hk rec => by
    have hl := colK_len (avL a 5) o k
    have hJ : ∀ (v : Int) (b : Bool), spec_ColumnsForOrder_J2 rec (colK (avL a 5) o k) (k : Int) v b = rec (colK (avL a 5) o k ++ cond b [v] [], ((k + 1 : Nat) : Int)) := fun v b => by
      rw [spec_ColumnsForOrder_J2]
      cases b with
      | true => rw [cond_true, chk_pos (by simp only [List.length_singleton]; unfold lim; omega), spec_ColumnsForOrder_J3, wrap_s hk (by unfold maxLen; omega)]; rfl
      | false => rw [cond_false, spec_ColumnsForOrder_J3, wrap_s hk (by unfold maxLen; omega), cond_false, List.append_nil]
    rw [spec_ColumnsForOrder_B1, colK]
    rw [lt_dec hk, geti_at hk, cond_true, ob_s, s_find (by unfold lim; omega), ob_s, atI_n hk]
    cases hd : decide (0 ≤ placeI (avL a 5) o[k]) with
    | true => rw [cond_true, s_find (by unfold lim; omega), ob_s, find_neg, hJ, Bool.true_and]
    | false => rw [cond_false, hJ, Bool.false_and]) (fun rec => by rw [spec_ColumnsForOrder_B1]; rw [nlt_dec]; rfl) fz (lt_fz (by unfold lim; omega))
  rw [show ((([] : List Int), (0 : Int))) = (colK (avL a 5) o 0, ((0 : Nat) : Int)) from rfl, this]
  rfl
theorem i_cfo {a : Atm} {o : List Int} (ha : AtmOk a) (ho : o.length ≤ 5) : impl_ColumnsForOrder a o = some (colB a o) := by
  have hal : a.2.length ≤ lim := by have := ha.1; unfold lim; omega
  have hv5 := avL_len a 5
  unfold impl_ColumnsForOrder
  rw [i_av hal (fun v => i_cv hal v), ob_s]
  have := loop_to (body := impl_ColumnsForOrder_B1 o (avL a 5)) (out := colB a o) (fun k => (colK (avL a 5) o k, (k : Int))) o.length (fun k hk rec => by
    have hl := colK_len (avL a 5) o k
    have hJ : ∀ (v : Int) (b : Bool), impl_ColumnsForOrder_J2 rec (colK (avL a 5) o k) (k : Int) v b = rec (colK (avL a 5) o k ++ cond b [v] [], ((k + 1 : Nat) : Int)) := fun v b => by
      rw [impl_ColumnsForOrder_J2]
      cases b with
      | true => rw [cond_true, chk_pos (by simp only [List.length_singleton]; unfold lim; omega), impl_ColumnsForOrder_J3, wrap_s hk (by unfold maxLen; omega)]; rfl
      | false => rw [cond_false, impl_ColumnsForOrder_J3, wrap_s hk (by unfold maxLen; omega), cond_false, List.append_nil]
    rw [impl_ColumnsForOrder_B1, colK]
    rw [lt_dec hk, geti_at hk, cond_true, ob_s, i_find (by unfold lim; omega), ob_s, atI_n hk]
    cases hd : decide (0 ≤ placeI (avL a 5) o[k]) with
    | true => rw [cond_true, i_has (by unfold lim; omega), ob_s, hJ, Bool.true_and]
    | false => rw [cond_false, hJ, Bool.false_and]) (fun rec => by rw [impl_ColumnsForOrder_B1]; rw [nlt_dec]; rfl) fz (lt_fz (by unfold lim; omega))
  rw [show ((([] : List Int), (0 : Int))) = (colK (avL a 5) o 0, ((0 : Nat) : Int)) from rfl, this]
  rfl
/-- columns that are a permutation of a valid relation's columns -/
def permC (r : Int × List (List Int)) (c : List Int) : Prop := relB r = true ∧ (c.length : Int) = r.1 ∧ c.Nodup ∧ ∀ e ∈ c, 0 ≤ e ∧ e < r.1
def projB (r : Int × List (List Int)) (c : List Int) : Int × List (List Int) := ((c.length : Int), sortB (r.2.map fun x => pickB x c))
theorem perm_sm {r : Int × List (List Int)} {c : List Int} (h : permC r c) : smRows r.2 ∧ c.length ≤ 5 ∧ (∀ x ∈ r.2, ∀ e ∈ c, 0 ≤ e ∧ e < (x.length : Int)) ∧ (∀ x ∈ r.2.map fun x => pickB x c, (x.length : Int) = (c.length : Int) ∧ avvB x = true) ∧ r.2.length ≤ 4000 := by
  obtain ⟨h1, h2, h3, h4⟩ := h
  have h5 := rel_rows h1
  refine ⟨⟨by have := h5.2.2.1; unfold lim; omega, fun x hx => by have := (h5.2.2.2 x hx).1; unfold lim; omega⟩, by omega, fun x hx e he => by have := (h5.2.2.2 x hx).1; have := h4 e he; omega, fun y hy => ?_, h5.2.2.1⟩
  obtain ⟨x, hx, rfl⟩ := List.mem_map.1 hy
  refine ⟨by unfold pickB; rw [List.length_map], avv_of fun v hv => ?_⟩
  unfold pickB at hv
  obtain ⟨e, he, rfl⟩ := List.mem_map.1 hv
  have h6 := h4 e he
  have h7 := h5.2.2.2 x hx
  have e2 : e = ((e.toNat : Nat) : Int) := by omega
  rw [e2, atI_n (by omega)]
  exact avv_at h7.2 (by omega)
theorem perm_b {r : Int × List (List Int)} {c : List Int} (h : permC r c) : btw (c.length : Int) 0 5 = true ∧ smRows (r.2.map fun x => pickB x c) := by
  obtain ⟨h1, h2, h3, h4, h5⟩ := perm_sm h
  refine ⟨by unfold btw; simp; omega, by rw [List.length_map]; exact h1.1, fun x hx => by have := (h4 x hx).1; unfold lim; omega⟩
theorem s_trie {r : Int × List (List Int)} {c : List Int} (h : permC r c) : spec_BuildTrie r c = some (projB r c, true) := by
  obtain ⟨h1, h2, h3, h4, h5⟩ := perm_sm h
  obtain ⟨h6, h7⟩ := perm_b h
  obtain ⟨g1, g2, g3, g4⟩ := h
  have hr := rel_rows g1
  have hloop : loopF (spec_Project_B1 r c) fz 0 = some (.inl ()) := by
    have := bad_loop (B := spec_Project_B1 r c) (n := c.length) (fun _ => false) ((0, []), false) (by unfold lim; omega) (fun k hk rec => by
      have he := g4 _ (List.getElem_mem hk)
      rw [spec_Project_B1]
      rw [lt_dec hk, geti_at hk, cond_true, ob_s, s_l1In, ob_s, wrap_in (by omega), wrap_s hk (by unfold maxLen; omega)]
      have : btw c[k] 0 (r.1 - 1) = true := by unfold btw; simp; omega
      rw [this]; rfl) (fun rec => by rw [spec_Project_B1]; rw [nlt_dec]; rfl)
    rw [this]
    have e : ((List.range c.length).any fun _ => false) = false := by rw [List.any_eq_false]; intro _ _; simp
    rw [e]; rfl
  have hrows : loopF (spec_Project_B2 r c) fz (([] : List (List Int)), 0) = some (r.2.map fun x => pickB x c) :=
    map_loop (a := r.2) (h := fun x => pickB x c) h1.1 (fun k hk rec => by
      rw [spec_Project_B2]
      rw [lt_dec hk, geti_at hk, wrap_s hk (lim_max h1.1), cond_true, ob_s, s_cols (by unfold lim; omega) (h3 _ (List.getElem_mem hk)), ob_s, chk_pos (by simp only [List.length_map, List.length_take, List.length_singleton]; unfold lim; omega)]) (fun rec y => by rw [spec_Project_B2]; rw [nlt_dec]; rfl)
  have hp : spec_Project r c = some (projB r c, true) := by
    unfold spec_Project projB
    rw [hloop, ob_s]
    simp only
    rw [s_rel h1, ob_s, g1, Bool.not_true, cond_false, decide_eq_false (by omega), cond_false, hrows, ob_s, s_nr h7, ob_s, nr_ok h6 (by rw [List.length_map]; exact h5) h4]
  unfold spec_BuildTrie
  rw [s_perm (by unfold lim; omega), ob_s, set_of (by omega) g3 (fun e he => by have := g4 e he; omega), decide_eq_true (by omega)]
  rw [show ((c.length : Int) != r.1) = false by rw [g2]; simp, hp]
  rfl
theorem i_trie {r : Int × List (List Int)} {c : List Int} (h : permC r c) : impl_BuildTrie r c = some (projB r c, true) := by
  obtain ⟨h1, h2, h3, h4, h5⟩ := perm_sm h
  obtain ⟨h6, h7⟩ := perm_b h
  obtain ⟨g1, g2, g3, g4⟩ := h
  have hr := rel_rows g1
  have hfit : impl_columnsFit r.1 c = some true := by
    by_cases h0 : c.length = 0
    · have : c = [] := List.eq_nil_of_length_eq_zero h0
      subst this
      unfold impl_columnsFit
      rw [decide_eq_false (by simp), cond_false]
      have e : loopF (impl_columnsFit_B1 r.1 []) fz 0 = some (.inl ()) := loop_to (body := impl_columnsFit_B1 r.1 []) (fun _ => (0 : Int)) 0 (fun k hk => absurd hk (by omega)) (fun rec => by rw [impl_columnsFit_B1]; rfl) fz (by unfold fz; omega)
      rw [e]; rfl
    · exact i_cfit (by omega) h2 g4
  have hrows : loopF (impl_Project_B1 r c) fz (([] : List (List Int)), 0) = some (r.2.map fun x => pickB x c) :=
    map_loop (a := r.2) (h := fun x => pickB x c) h1.1 (fun k hk rec => by
      rw [impl_Project_B1]
      rw [lt_dec hk, geti_at hk, wrap_s hk (lim_max h1.1), cond_true, ob_s, i_pick (by unfold lim; omega) (h3 _ (List.getElem_mem hk)), ob_s, chk_pos (by simp only [List.length_map, List.length_take, List.length_singleton]; unfold lim; omega)]) (fun rec y => by rw [impl_Project_B1]; rw [nlt_dec]; rfl)
  have hp : impl_Project r c = some (projB r c, true) := by
    unfold impl_Project projB
    rw [i_rel h1, ob_s, g1, Bool.not_true, cond_false, hfit, ob_s, Bool.not_true, cond_false, hrows, ob_s, i_nr h7, ob_s, nr_ok h6 (by rw [List.length_map]; exact h5) h4]
  unfold impl_BuildTrie impl_IsPermutation impl_IsPermutation_J1
  rw [decide_eq_true (by omega), cond_true, i_set (by unfold lim; omega), ob_s, set_of (by omega) g3 (fun e he => by have := g4 e he; omega)]
  rw [show ((c.length : Int) != r.1) = false by rw [g2]; simp, hp]
  rfl
theorem proj_rel {r : Int × List (List Int)} {c : List Int} (h : permC r c) : relB (projB r c) = true ∧ (projB r c).2.length ≤ r.2.length := by
  obtain ⟨h1, h2, h3, h4, h5⟩ := perm_sm h
  refine ⟨rel_sort (perm_b h).1 (by rw [List.length_map]; exact h5) h4, ?_⟩
  unfold projB
  have := sort_len (r.2.map fun x => pickB x c)
  rw [List.length_map] at this
  exact this
/-- the trie of an atom -/
def trieB (d : List Tbl) (o : List Int) (a : Atm) : Int × List (List Int) := projB (abB d a) (colB a o)
theorem ab_perm {d : List Tbl} {q : Qry} {o : List Int} {a : Atm} (hq : qryB q = true) (ho : ordB q o = true) (ha : a ∈ q.2.1) (hf : atomFit d a = true) : AtmOk a ∧ permC (abB d a) (colB a o) := by
  have h1 := qry_in hq
  have h2 := h1.2.2.2 a ha
  have hok : AtmOk a := ⟨h2.1, fun v hv => by have := h2.2 v hv; omega⟩
  have h3 := ord_all ho
  have hfull : (colB a o).length = (avL a 5).length := colK_full (av_nodup a) fun v hv => by
    have hm := av_mem.1 hv
    have := h2.2 v (List.contains_iff_mem.1 hm.2)
    exact h3.2.2.2 v this.1 this.2
  refine ⟨hok, (ab_rel hok hf).1, ?_, colK_nd _ _ _, fun e he => ?_⟩
  · show ((colB a o).length : Int) = ((avL a 5).length : Int)
    rw [hfull]
  · exact colK_in _ _ _ e he
theorem q_fit {d : List Tbl} {q : Qry} (h : qforB d q = true) : qryB q = true ∧ dbB d = true ∧ ∀ a ∈ q.2.1, atomFit d a = true := by
  unfold qforB at h
  simp only [Bool.and_eq_true, Bool.not_eq_true'] at h
  refine ⟨h.1, h.2.1, fun a ha => ?_⟩
  obtain ⟨k, hk, rfl⟩ := List.mem_iff_getElem.1 ha
  have := badAny_f h.2.2 hk
  simpa using this
def triesB (d : List Tbl) (q : Qry) (o : List Int) : List (Int × List (List Int)) × Bool := cond (qforB d q && ordB q o) (q.2.1.map (trieB d o), true) ([], false)
theorem s_tries {d : List Tbl} {q : Qry} {o : List Int} (h : smDb d) (hq : smQ q) (ho : o.length ≤ lim) : spec_BuildTries d q o = some (triesB d q o) := by
  unfold spec_BuildTries triesB
  rw [s_qfor h hq, ob_s]
  cases hf : qforB d q with
  | false => rfl
  | true =>
    rw [Bool.not_true, cond_false, s_order hq ho, ob_s]
    cases hor : ordB q o with
    | false => rfl
    | true =>
      have hfit := q_fit hf
      have h1 := qry_in hfit.1
      have hol : o.length ≤ 5 := by have := (ord_all hor).1; omega
      rw [Bool.not_true, cond_false]
      have := all_sv (v := (([] : List (Int × List (List Int))), false)) (B := spec_BuildTries_B1 d q o) (n := q.2.1.length) (fun k => (q.2.1.take k).map (trieB d o)) (fun _ => false) hq.1 (fun k hk rec => by
        have hmem := List.getElem_mem hk
        obtain ⟨hok, hp⟩ := ab_perm hfit.1 hor hmem (hfit.2.2 _ hmem)
        have hs := s_trie hp
        rw [spec_BuildTries_B1]
        rw [lt_dec hk, geti_at hk, wrap_s hk (lim_max hq.1), cond_true, ob_s, s_ab h hok (hfit.2.2 _ hmem), ob_s, ob_s, s_cfo hok hol, ob_s, hs, ob_s, Bool.not_true, cond_false, chk_pos (by simp only [List.length_map, List.length_take, List.length_singleton]; unfold lim; omega), List.take_succ_eq_append_getElem hk, List.map_append]
        rfl) (fun rec => by rw [spec_BuildTries_B1]; rw [nlt_dec]; rfl)
      have e : ((List.range q.2.1.length).any fun _ => false) = false := by rw [List.any_eq_false]; intro _ _; simp
      rw [e, List.take_length] at this
      rw [show ((([] : List (Int × List (List Int))), (0 : Int))) = ((q.2.1.take 0).map (trieB d o), 0) from rfl, this]
      rfl
theorem i_tries {d : List Tbl} {q : Qry} {o : List Int} (h : smDb d) (hq : smQ q) (ho : o.length ≤ lim) : impl_BuildTries d q o = some (triesB d q o) := by
  unfold impl_BuildTries triesB
  rw [i_qfor h hq, ob_s]
  cases hf : qforB d q with
  | false => rfl
  | true =>
    rw [Bool.not_true, cond_false, i_order hq ho, ob_s]
    cases hor : ordB q o with
    | false => rfl
    | true =>
      have hfit := q_fit hf
      have h1 := qry_in hfit.1
      have hol : o.length ≤ 5 := by have := (ord_all hor).1; omega
      rw [Bool.not_true, cond_false]
      rw [map_loop (a := q.2.1) (h := trieB d o) hq.1 (fun k hk rec => by
        have hmem := List.getElem_mem hk
        obtain ⟨hok, hp⟩ := ab_perm hfit.1 hor hmem (hfit.2.2 _ hmem)
        have hs := i_trie hp
        rw [impl_BuildTries_B1]
        rw [lt_dec hk, geti_at hk, wrap_s hk (lim_max hq.1), cond_true, ob_s, i_ab h hok (hfit.2.2 _ hmem), ob_s, i_cfo hok hol, ob_s, hs, ob_s, chk_pos (by simp only [List.length_map, List.length_take, List.length_singleton]; unfold lim; omega)]
        rfl) (fun rec y => by rw [impl_BuildTries_B1]; rw [nlt_dec]; rfl)]
      rfl
end Go.Proofs.YtlknpohjnpnodaaGreat
