/-
  Degrees of a column: the reference and the program agree. On the printed functions; conditions: lengths.
-/
import Derived.Test.YtmioifafgbjjhaaUnCS1
-- pure
namespace Go.Proofs.Ytmioifafgbjjhaa
open Go.RowKit
set_option linter.unusedSimpArgs false
set_option linter.unusedVariables false
abbrev Rl := Int × List (List Int)
section
variable {r : Rl} {c : Int}
theorem rel_facts (h : relB r = true) : 0 ≤ r.1 ∧ r.1 ≤ 5 ∧ r.2.length ≤ 4000 ∧ ∀ x ∈ r.2, (x.length : Int) = r.1 ∧ ∀ e ∈ x, 0 ≤ e ∧ e ≤ 99 := by
  unfold relB at h
  simp only [Bool.and_eq_true, Bool.not_eq_true', decide_eq_false_iff_not] at h
  have h1 : 0 ≤ r.1 ∧ r.1 ≤ 5 := by have := h.1; unfold btw at this; simpa using this
  refine ⟨h1.1, h1.2, by omega, fun x hx => ?_⟩
  obtain ⟨j, hj, rfl⟩ := List.mem_iff_getElem.1 hx
  have h3 := badAny_f h.2.2 hj
  unfold rowBad at h3
  simp only [Bool.or_eq_false_iff, Bool.not_eq_false', bne_eq_false_iff_eq] at h3
  refine ⟨h3.1.1, fun e he => ?_⟩
  have h4 := h3.1.2
  unfold avvB at h4
  simp only [Bool.not_eq_true'] at h4
  obtain ⟨i, hi, rfl⟩ := List.mem_iff_getElem.1 he
  have h5 := badAny_f h4 hi
  simp only [Bool.not_eq_false'] at h5
  unfold btw at h5
  simpa using h5
/-- the column is one of the relation -/
def colB (r : Rl) (c : Int) : Bool := relB r && btw c 0 (IntKind.i64.wrap (r.1 - 1))
theorem col_facts (h : colB r c = true) : relB r = true ∧ ∀ x ∈ r.2, 0 ≤ c ∧ c < x.length ∧ 0 ≤ atI x c ∧ atI x c ≤ 99 := by
  unfold colB at h
  simp only [Bool.and_eq_true] at h
  obtain ⟨h1, h2, h3, h4⟩ := rel_facts h.1
  refine ⟨h.1, fun x hx => ?_⟩
  obtain ⟨g1, g2⟩ := h4 x hx
  have h5 := h.2
  rw [wrap_in (by omega)] at h5
  have h6 : 0 ≤ c ∧ c ≤ r.1 - 1 := by unfold btw at h5; simpa using h5
  have hc : 0 ≤ c ∧ c < x.length := by omega
  refine ⟨hc.1, hc.2, ?_⟩
  unfold atI geti
  rw [if_pos hc.1, List.getElem?_eq_getElem (by omega)]
  exact g2 _ (List.getElem_mem _)
/-- how often a value occurs -/
def degN (rows : List (List Int)) (c : Int) (v : Nat) : Nat := rows.countP fun x => atI x c == (v : Int)
def posN (rows : List (List Int)) (c : Int) (v : Nat) : Bool := decide (0 < degN rows c v)
def numsN (rows : List (List Int)) (c : Int) (n : Nat) : List Int := ((List.range n).filter (posN rows c)).map fun (v : Nat) => ((degN rows c v : Nat) : Int)
theorem numsN_s (rows : List (List Int)) (c : Int) (n : Nat) : numsN rows c (n + 1) = numsN rows c n ++ (if posN rows c n = true then [((degN rows c n : Nat) : Int)] else []) := by
  unfold numsN
  rw [List.range_succ, List.filter_append, List.map_append]
  split
  · rename_i h; simp [h]
  · rename_i h; simp [h]
theorem numsN_len (rows : List (List Int)) (c : Int) (n : Nat) : (numsN rows c n).length = (ascN n (posN rows c)).length := by unfold numsN ascN; simp
theorem degN_s {rows : List (List Int)} {k : Nat} (hk : k < rows.length) (c : Int) (v : Nat) : degN (rows.take (k + 1)) c v = degN (rows.take k) c v + (if (atI rows[k] c == (v : Int)) = true then 1 else 0) := by
  unfold degN
  rw [List.take_succ_eq_append_getElem hk, List.countP_append]; simp [List.countP_cons]
theorem degN_le (rows : List (List Int)) (c : Int) (v : Nat) : degN rows c v ≤ rows.length := List.countP_le_length
def cdB (r : Rl) (c : Int) : List Int × List Int := if colB r c = true then (ascN 100 (posN r.2 c), numsN r.2 c 100) else ([], [])
def seenN (rows : List (List Int)) (c : Int) : List Int := (List.range 100).map fun (v : Nat) => ((degN rows c v : Nat) : Int)
theorem seen_at {rows : List (List Int)} {c : Int} {v : Nat} (hv : v < 100) : geti (seenN rows c) (v : Int) = some ((degN rows c v : Nat) : Int) := by
  rw [geti_nat]; unfold seenN; simp [hv]
theorem i_cd (h : smRows r.2) : impl_ColumnDegrees r c = some (cdB r c) := by
  unfold impl_ColumnDegrees cdB colB
  rw [i_rel h]
  cases hr : relB r with
  | false => rfl
  | true =>
    simp only [obind, i_within, Bool.not_true, cond_false, Bool.true_and]
    cases hb : btw c 0 (IntKind.i64.wrap (r.1 - 1)) with
    | false => rfl
    | true =>
      have hc : colB r c = true := by unfold colB; rw [hr, hb]; rfl
      obtain ⟨-, hf⟩ := col_facts hc
      have h1 := loop_to (body := impl_ColumnDegrees_B1 r c) (out := seenN r.2 c) (fun k => (seenN (r.2.take k) c, (k : Int))) r.2.length (fun k hk rec => ?_) (fun rec => ?_) fz (lt_fz h.1)
      · have e0 : seenN (r.2.take 0) c = List.replicate (Int.toNat 100) (0 : Int) := by
          unfold seenN degN
          simp only [List.take_zero, List.countP_nil, Int.natCast_zero]
          rw [List.map_const', List.length_range]; rfl
        rw [e0, show ((0 : Nat) : Int) = 0 from rfl] at h1
        have h2 := loop_to (body := impl_ColumnDegrees_B2 (seenN r.2 c)) (out := (ascN 100 (posN r.2 c), numsN r.2 c 100)) (fun k => (ascN k (posN r.2 c), numsN r.2 c k, (k : Int))) 100 (fun k hk rec => ?_) (fun rec => ?_) fz (by unfold fz; omega)
        · have e0 : ascN 0 (posN r.2 c) = [] := rfl
          have e1 : numsN r.2 c 0 = [] := rfl
          rw [e0, e1, show ((0 : Nat) : Int) = 0 from rfl] at h2
          rw [chk_pos (by constructor <;> decide)]
          simp only [Bool.not_true, cond_false, h1, h2, if_true]
        · have hl := ascN_len k (posN r.2 c)
          have hl2 := numsN_len r.2 c k
          have hw : IntKind.i64.wrap ((k : Int) + 1) = ((k + 1 : Nat) : Int) := wrap_s (n := 100) hk (by decide)
          have hp : decide (0 < ((degN r.2 c k : Nat) : Int)) = posN r.2 c k := by unfold posN; rw [decide_eq_decide]; omega
          have hsl : ((seenN r.2 c).length : Int) = 100 := by unfold seenN; simp
          simp only [impl_ColumnDegrees_B2, hsl, seen_at hk, obind]
          rw [decide_eq_true (by omega : (k : Int) < 100), cond_true, ascN_s, numsN_s, hp]
          cases posN r.2 c k with
          | true =>
            rw [cond_true, chk_pos (by simp only [List.length_singleton]; unfold lim; omega), chk_pos (by simp only [List.length_singleton]; unfold lim; omega)]
            simp only [impl_ColumnDegrees_J3, hw, if_true]
          | false => simp only [cond_false, impl_ColumnDegrees_J3, hw, Bool.false_eq_true, if_false, List.append_nil]
        · have hsl : ((seenN r.2 c).length : Int) = 100 := by unfold seenN; simp
          simp only [impl_ColumnDegrees_B2, hsl]
          rw [decide_eq_false (by omega), cond_false]
      · obtain ⟨g1, g2, g3, g4⟩ := hf _ (List.getElem_mem hk)
        have hd := degN_le (r.2.take k) c (atI r.2[k] c).toNat
        have hl : (r.2.take k).length ≤ lim := by rw [List.length_take]; have := h.1; omega
        have hs : geti (seenN (r.2.take k) c) (atI r.2[k] c) = some ((degN (r.2.take k) c (atI r.2[k] c).toNat : Nat) : Int) := by
          have := seen_at (rows := r.2.take k) (c := c) (v := (atI r.2[k] c).toNat) (by omega)
          rwa [show (((atI r.2[k] c).toNat : Nat) : Int) = atI r.2[k] c by omega] at this
        simp only [impl_ColumnDegrees_B1, lt_dec hk, cond_true, geti_at hk, obind, geti_ok ⟨g1, g2⟩, hs, wrap_s hk (lim_max h.1)]
        rw [wrap_in (by unfold lim at hl; omega)]
        congr 2
        unfold seti seenN
        apply List.ext_getElem
        · simp
        · intro i hi1 hi2
          simp only [List.length_set, List.length_map, List.length_range] at hi1
          rw [List.getElem_set]
          simp only [List.getElem_map, List.getElem_range]
          rw [degN_s hk]
          split
          · rename_i he
            subst he
            have : (atI r.2[k] c == (((atI r.2[k] c).toNat : Nat) : Int)) = true := by simp; omega
            rw [if_pos this]; simp
          · rename_i he
            have : (atI r.2[k] c == ((i : Nat) : Int)) = false := by simp; omega
            rw [this]; simp
      · simp only [impl_ColumnDegrees_B1, nlt_dec, cond_false, List.take_length]
/-- the degree of a value that occurs, by its place -/
theorem deg_at {rows : List (List Int)} {c : Int} {v : Nat} (hv : v < 100) (hp : posN rows c v = true) : geti (numsN rows c 100) (placeI (ascN 100 (posN rows c)) (v : Int)) = some ((degN rows c v : Nat) : Int) := by
  have hmem : (v : Int) ∈ ascN 100 (posN rows c) := by
    unfold ascN
    exact List.mem_map.2 ⟨v, List.mem_filter.2 ⟨List.mem_range.2 hv, hp⟩, rfl⟩
  have hsome : (findI (ascN 100 (posN rows c)) (v : Int)).isSome = true := by rw [findI_some, List.contains_iff_mem]; exact hmem
  obtain ⟨k, hk⟩ := Option.isSome_iff_exists.1 hsome
  have hk2 := hk
  unfold findI at hk2
  obtain ⟨a, ha, h2⟩ := List.exists_of_findSome?_eq_some hk2
  have hal := List.mem_range.1 ha
  split at h2
  · rename_i he
    injection h2 with h2
    subst h2
    rw [atB_lt hal] at he
    have hx : (ascN 100 (posN rows c))[a] = (v : Int) := by simpa using he
    unfold placeI
    rw [hk]
    simp only
    rw [geti_nat, List.getElem?_eq_getElem (by rw [numsN_len]; exact hal)]
    congr 1
    unfold numsN
    rw [List.getElem_map]
    have hx1 : (ascN 100 (posN rows c))[a]? = some (v : Int) := by rw [List.getElem?_eq_getElem hal, hx]
    unfold ascN at hx1
    rw [List.getElem?_map] at hx1
    obtain ⟨u, hu1, hu2⟩ := Option.map_eq_some_iff.1 hx1
    have huv : u = v := by omega
    obtain ⟨hb, hb2⟩ := List.getElem?_eq_some_iff.1 hu1
    rw [hb2, huv]
  · cases h2
end
end Go.Proofs.Ytmioifafgbjjhaa
