/-
  Tries of a query's atoms, and their children: the reference and the program agree. On the printed functions; conditions: the query fits.
-/
import Derived.Test.YtcoalfphehhadaaAbSS1
-- pure
namespace Go.Proofs.Ytcoalfphehhadaa
open Go.RowKit
set_option linter.unusedVariables false
set_option linter.unusedSimpArgs false
theorem nd_len : ∀ {l m : List Int}, l.Nodup → (∀ x ∈ l, x ∈ m) → l.length ≤ m.length
  | [], m, _, _ => by simp
  | x :: l, m, hn, h => by
    have hx := h x (by simp)
    rw [List.nodup_cons] at hn
    have h1 := nd_len (l := l) (m := m.erase x) hn.2 (fun y hy => by
      have hne : y ≠ x := fun e => by subst e; exact hn.1 hy
      exact (List.mem_erase_of_ne hne).2 (h y (by simp [hy])))
    have h2 := List.length_erase_of_mem hx
    have h3 : 0 < m.length := List.length_pos_of_mem hx
    rw [List.length_cons]; omega
/-- different numbers below n -/
theorem set_nd {n : Int} (hn : 1 ≤ n ∧ n ≤ 5) {l : List Int} (h : badAny l (setBad n l) = false) : l.Nodup ∧ ∀ e ∈ l, 0 ≤ e ∧ e < n := by
  have hw : IntKind.i64.wrap (n - 1) = n - 1 := wrap_in (by omega)
  constructor
  · rw [List.nodup_iff_pairwise_ne, List.pairwise_iff_getElem]
    intro i j hi hj hij he
    have h1 := badAny_f h hj
    unfold setBad at h1
    simp only [Bool.or_eq_false_iff] at h1
    have h2 := h1.2
    have h3 : (l.take j).contains l[j] = true := by
      rw [List.contains_iff_mem, List.mem_iff_getElem]
      exact ⟨i, by rw [List.length_take]; omega, by rw [List.getElem_take]; exact he⟩
    rw [h3] at h2; cases h2
  · intro e he
    obtain ⟨k, hk, rfl⟩ := List.mem_iff_getElem.1 he
    have := badAny_f h hk
    unfold setBad btw at this
    simp only [Bool.or_eq_false_iff, Bool.not_eq_false', Bool.and_eq_true, decide_eq_true_eq, hw] at this
    omega
theorem set_of {m : Int} (hm : 0 ≤ m ∧ m ≤ 5) {l : List Int} (h1 : l.Nodup) (h2 : ∀ e ∈ l, 0 ≤ e ∧ e < m) : badAny l (setBad m l) = false := badAny_of fun i hi => by
  have h3 := h2 _ (List.getElem_mem hi)
  unfold setBad btw
  rw [wrap_in (by omega), Bool.or_eq_false_iff]
  refine ⟨by simp; omega, ?_⟩
  rw [← Bool.not_eq_true, List.contains_iff_mem]
  intro hm
  obtain ⟨j, hj, he⟩ := List.mem_iff_getElem.1 hm
  rw [List.length_take] at hj
  rw [List.getElem_take] at he
  rw [List.nodup_iff_pairwise_ne, List.pairwise_iff_getElem] at h1
  exact h1 j i (by omega) hi (by omega) he
theorem av_nodup (a : Atm) : (avL a 5).Nodup := by
  unfold avL
  rw [List.nodup_iff_pairwise_ne, List.pairwise_map]
  have h : ((List.range 5).filter fun (v : Nat) => a.2.contains (v : Int)).Nodup := List.Nodup.sublist List.filter_sublist List.nodup_range
  rw [List.nodup_iff_pairwise_ne] at h
  exact h.imp fun h e => h (by omega)
/-- an order's facts -/
theorem ord_all {q : Qry} {o : List Int} (h : ordB q o = true) : (o.length : Int) = q.1 ∧ o.Nodup ∧ (∀ v ∈ o, 0 ≤ v ∧ v < q.1) ∧ ∀ v : Int, 0 ≤ v → v < q.1 → v ∈ o := by
  unfold ordB at h
  simp only [Bool.and_eq_true, Bool.not_eq_true', beq_iff_eq] at h
  have hn := qry_n h.1
  have h2 := set_nd hn h.2.2
  refine ⟨h.2.1, h2.1, h2.2, fun v h0 h1 => ?_⟩
  apply Classical.byContradiction
  intro hno
  have := few q.1.toNat (v :: o) (List.nodup_cons.2 ⟨hno, h2.1⟩) (fun e he => by
    rcases List.mem_cons.1 he with rfl | he
    · omega
    · have := h2.2 e he; omega)
  rw [List.length_cons] at this
  have := h.2.1
  omega
/-- the columns of an atom in an order -/
def colK (V o : List Int) : Nat → List Int
  | 0 => []
  | k + 1 => colK V o k ++ cond (decide (0 ≤ placeI V (atI o (k : Int))) && !(colK V o k).contains (placeI V (atI o (k : Int)))) [placeI V (atI o (k : Int))] []
theorem colK_len (V o : List Int) : ∀ k, (colK V o k).length ≤ k
  | 0 => by simp [colK]
  | k + 1 => by
    have := colK_len V o k
    rw [colK, List.length_append]
    cases decide (0 ≤ placeI V (atI o (k : Int))) && !(colK V o k).contains (placeI V (atI o (k : Int)))
    · rw [cond_false, List.length_nil]; omega
    · rw [cond_true, List.length_singleton]; omega
theorem colK_nd (V o : List Int) : ∀ k, (colK V o k).Nodup
  | 0 => List.nodup_nil
  | k + 1 => by
    rw [colK]
    cases hb : decide (0 ≤ placeI V (atI o (k : Int))) && !(colK V o k).contains (placeI V (atI o (k : Int))) with
    | false => rw [cond_false, List.append_nil]; exact colK_nd V o k
    | true =>
      rw [Bool.and_eq_true, Bool.not_eq_true'] at hb
      rw [cond_true]
      refine List.nodup_append.2 ⟨colK_nd V o k, by simp, fun x hx y hy e => ?_⟩
      simp only [List.mem_singleton] at hy
      subst e hy
      have := hb.2
      rw [← Bool.not_eq_true, List.contains_iff_mem] at this
      exact this hx
theorem place_lt {l : List Int} {v : Int} (h : 0 ≤ placeI l v) : placeI l v < (l.length : Int) ∧ l.contains v = true := by
  have hc : l.contains v = true := by rw [← place_has]; exact decide_eq_true h
  obtain ⟨k, hk, e1, _⟩ := place_in hc
  exact ⟨by omega, hc⟩
theorem colK_in (V o : List Int) : ∀ k, ∀ x ∈ colK V o k, 0 ≤ x ∧ x < (V.length : Int)
  | 0, x, h => by cases h
  | k + 1, x, h => by
    rw [colK] at h
    rcases List.mem_append.1 h with h | h
    · exact colK_in V o k x h
    · cases hb : decide (0 ≤ placeI V (atI o (k : Int))) && !(colK V o k).contains (placeI V (atI o (k : Int))) with
      | false => rw [hb] at h; cases h
      | true =>
        rw [hb, cond_true, List.mem_singleton] at h
        rw [Bool.and_eq_true, decide_eq_true_eq] at hb
        subst h
        exact ⟨hb.1, (place_lt hb.1).1⟩
theorem colK_up (V o : List Int) {x : Int} : ∀ {d i : Nat}, x ∈ colK V o i → x ∈ colK V o (i + d)
  | 0, _, h => h
  | d + 1, i, h => by
    rw [show i + (d + 1) = (i + d) + 1 by omega, colK]
    exact List.mem_append_left _ (colK_up V o h)
theorem colK_has {V o : List Int} (hn : V.Nodup) {j i : Nat} (hj : j < V.length) (hi : i < o.length) (he : o[i] = V[j]) : (j : Int) ∈ colK V o o.length := by
  have hc : V.contains o[i] = true := by rw [List.contains_iff_mem, he]; exact List.getElem_mem hj
  obtain ⟨p, hp, e1, e2⟩ := place_in hc
  have hpj : p = j := by
    apply Classical.byContradiction
    intro hne
    rw [List.nodup_iff_pairwise_ne, List.pairwise_iff_getElem] at hn
    rw [he] at e2
    rcases Nat.lt_or_ge p j with h | h
    · exact hn p j hp hj h e2
    · exact hn j p hj hp (by omega) e2.symm
  have hmem : (j : Int) ∈ colK V o (i + 1) := by
    rw [colK, atI_n hi, e1, hpj]
    rw [decide_eq_true (by omega : (0 : Int) ≤ (j : Int)), Bool.true_and]
    cases hb : (colK V o i).contains (j : Int) with
    | true => exact List.mem_append_left _ (List.contains_iff_mem.1 hb)
    | false => exact List.mem_append_right _ (by simp)
  have := colK_up V o (d := o.length - (i + 1)) hmem
  rwa [show i + 1 + (o.length - (i + 1)) = o.length by omega] at this
theorem colK_full {V o : List Int} (hn : V.Nodup) (h : ∀ v ∈ V, v ∈ o) : (colK V o o.length).length = V.length := by
  have h1 := few V.length (colK V o o.length) (colK_nd V o _) (colK_in V o _)
  have h2 : ((List.range V.length).map fun (j : Nat) => (j : Int)).length ≤ (colK V o o.length).length := by
    refine nd_len ?_ ?_
    · rw [List.nodup_iff_pairwise_ne, List.pairwise_map]
      have h := List.nodup_range (n := V.length)
      rw [List.nodup_iff_pairwise_ne] at h
      exact h.imp fun h e => h (by omega)
    · intro x hx
      obtain ⟨j, hj, rfl⟩ := List.mem_map.1 hx
      have hj := List.mem_range.1 hj
      obtain ⟨i, hi, he⟩ := List.mem_iff_getElem.1 (h _ (List.getElem_mem hj))
      exact colK_has hn hj hi he
  rw [List.length_map, List.length_range] at h2
  omega
def colB (a : Atm) (o : List Int) : List Int := colK (avL a 5) o o.length
/-- columns that are a permutation of a valid relation's columns -/
def permC (r : Int × List (List Int)) (c : List Int) : Prop := relB r = true ∧ (c.length : Int) = r.1 ∧ c.Nodup ∧ ∀ e ∈ c, 0 ≤ e ∧ e < r.1
def projB (r : Int × List (List Int)) (c : List Int) : Int × List (List Int) := ((c.length : Int), sortB (r.2.map fun x => pickB x c))
theorem perm_sm {r : Int × List (List Int)} {c : List Int} (h : permC r c) : smRows r.2 ∧ c.length ≤ 5 ∧ (∀ x ∈ r.2, ∀ e ∈ c, 0 ≤ e ∧ e < (x.length : Int)) ∧ (∀ x ∈ r.2.map fun x => pickB x c, (x.length : Int) = (c.length : Int) ∧ avvB x = true) ∧ r.2.length ≤ 4000 := by
  obtain ⟨h1, h2, h3, h4⟩ := h
  have h5 := rel_rows h1
  refine ⟨⟨by have := h5.2.2.1; unfold lim; omega, fun x hx => by have := (h5.2.2.2 x hx).1; unfold lim; omega⟩, by omega, fun x hx e he => by have := (h5.2.2.2 x hx).1; have := h4 e he; omega, fun y hy => ?_, h5.2.2.1⟩
  obtain ⟨x, hx, rfl⟩ := List.mem_map.1 hy
  refine ⟨by unfold pickB; rw [List.length_map], avv_of fun v hv => ?_⟩
  unfold pickB at hv
  obtain ⟨e, he, rfl⟩ := List.mem_map.1 hv
  have h6 := h4 e he
  have h7 := h5.2.2.2 x hx
  have e2 : e = ((e.toNat : Nat) : Int) := by omega
  rw [e2, atI_n (by omega)]
  exact avv_at h7.2 (by omega)
theorem perm_b {r : Int × List (List Int)} {c : List Int} (h : permC r c) : btw (c.length : Int) 0 5 = true ∧ smRows (r.2.map fun x => pickB x c) := by
  obtain ⟨h1, h2, h3, h4, h5⟩ := perm_sm h
  refine ⟨by unfold btw; simp; omega, by rw [List.length_map]; exact h1.1, fun x hx => by have := (h4 x hx).1; unfold lim; omega⟩
theorem proj_rel {r : Int × List (List Int)} {c : List Int} (h : permC r c) : relB (projB r c) = true ∧ (projB r c).2.length ≤ r.2.length := by
  obtain ⟨h1, h2, h3, h4, h5⟩ := perm_sm h
  refine ⟨rel_sort (perm_b h).1 (by rw [List.length_map]; exact h5) h4, ?_⟩
  unfold projB
  have := sort_len (r.2.map fun x => pickB x c)
  rw [List.length_map] at this
  exact this
/-- the trie of an atom -/
def trieB (d : List Tbl) (o : List Int) (a : Atm) : Int × List (List Int) := projB (abB d a) (colB a o)
theorem ab_perm {d : List Tbl} {q : Qry} {o : List Int} {a : Atm} (hq : qryB q = true) (ho : ordB q o = true) (ha : a ∈ q.2.1) (hf : atomFit d a = true) : AtmOk a ∧ permC (abB d a) (colB a o) := by
  have h1 := qry_in hq
  have h2 := h1.2.2.2 a ha
  have hok : AtmOk a := ⟨h2.1, fun v hv => by have := h2.2 v hv; omega⟩
  have h3 := ord_all ho
  have hfull : (colB a o).length = (avL a 5).length := colK_full (av_nodup a) fun v hv => by
    have hm := av_mem.1 hv
    have := h2.2 v (List.contains_iff_mem.1 hm.2)
    exact h3.2.2.2 v this.1 this.2
  refine ⟨hok, (ab_rel hok hf).1, ?_, colK_nd _ _ _, fun e he => ?_⟩
  · show ((colB a o).length : Int) = ((avL a 5).length : Int)
    rw [hfull]
  · exact colK_in _ _ _ e he
theorem q_fit {d : List Tbl} {q : Qry} (h : qforB d q = true) : qryB q = true ∧ dbB d = true ∧ ∀ a ∈ q.2.1, atomFit d a = true := by
  unfold qforB at h
  simp only [Bool.and_eq_true, Bool.not_eq_true'] at h
  refine ⟨h.1, h.2.1, fun a ha => ?_⟩
  obtain ⟨k, hk, rfl⟩ := List.mem_iff_getElem.1 ha
  have := badAny_f h.2.2 hk
  simpa using this
def triesB (d : List Tbl) (q : Qry) (o : List Int) : List (Int × List (List Int)) × Bool := cond (qforB d q && ordB q o) (q.2.1.map (trieB d o), true) ([], false)
end Go.Proofs.Ytcoalfphehhadaa
