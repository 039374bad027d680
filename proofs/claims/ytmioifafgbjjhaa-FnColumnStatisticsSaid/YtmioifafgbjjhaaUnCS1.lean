/-
  Ascending lists of small numbers, and how the program unites them. On the printed functions; conditions: numbers from 0 to 99.
-/
import Derived.Test.YtmioifafgbjjhaaQuCS1
-- pure
namespace Go.Proofs.Ytmioifafgbjjhaa
open Go.RowKit
set_option linter.unusedSimpArgs false
set_option linter.unusedVariables false
/-- the numbers below n that are in S -/
def ascN (n : Nat) (S : Nat → Bool) : List Int := ((List.range n).filter S).map fun (v : Nat) => (v : Int)
theorem ascN_len (n : Nat) (S : Nat → Bool) : (ascN n S).length ≤ n := by
  unfold ascN
  rw [List.length_map]
  exact Nat.le_trans (List.length_filter_le _ _) (by simp)
theorem ascN_s (n : Nat) (S : Nat → Bool) : ascN (n + 1) S = ascN n S ++ (if S n = true then [(n : Int)] else []) := by
  unfold ascN
  rw [List.range_succ, List.filter_append, List.map_append]
  split
  · rename_i h; simp [h]
  · rename_i h; simp [h]
theorem ascN_lt {n : Nat} {S : Nat → Bool} {x : Int} (h : x ∈ ascN n S) : x < n := by
  unfold ascN at h
  obtain ⟨v, hv, rfl⟩ := List.mem_map.1 h
  have := List.mem_range.1 (List.mem_filter.1 hv).1
  omega
/-- the numbers from e + 1 on -/
def upN (e m : Nat) (S : Nat → Bool) : List Int := ((List.range m).filter fun (v : Nat) => S (e + 1 + v)).map fun (v : Nat) => ((e + 1 + v : Nat) : Int)
theorem upN_gt {e m : Nat} {S : Nat → Bool} {x : Int} (h : x ∈ upN e m S) : (e : Int) < x := by
  unfold upN at h
  obtain ⟨v, hv, rfl⟩ := List.mem_map.1 h
  omega
theorem asc_split {n e : Nat} (he : e < n) (S : Nat → Bool) : ascN n S = ascN e S ++ ((if S e = true then [(e : Int)] else []) ++ upN e (n - (e + 1)) S) := by
  have h : n = (e + 1) + (n - (e + 1)) := by omega
  have key : ∀ m, ascN ((e + 1) + m) S = ascN (e + 1) S ++ upN e m S := by
    intro m
    unfold ascN upN
    rw [List.range_add, List.filter_append, List.map_append]
    congr 1
    rw [List.filter_map, List.map_map]
    rfl
  conv => lhs; rw [h]
  rw [key, ascN_s, List.append_assoc]
/-- one number more -/
def addS (S : Nat → Bool) (e : Nat) : Nat → Bool := fun v => S v || v == e
theorem asc_add {n e : Nat} (he : e < n) (S : Nat → Bool) : ascN n (addS S e) = ascN e S ++ ((e : Int) :: upN e (n - (e + 1)) S) := by
  rw [asc_split he]
  have h1 : ascN e (addS S e) = ascN e S := by
    unfold ascN
    congr 1
    apply List.filter_congr
    intro v hv
    have := List.mem_range.1 hv
    unfold addS
    have : (v == e) = false := by simp; omega
    rw [this, Bool.or_false]
  have h2 : upN e (n - (e + 1)) (addS S e) = upN e (n - (e + 1)) S := by
    unfold upN
    congr 1
    apply List.filter_congr
    intro v hv
    unfold addS
    have : (e + 1 + v == e) = false := by simp; omega
    rw [this, Bool.or_false]
  have h3 : addS S e e = true := by simp [addS]
  rw [h1, h2, h3]; rfl
theorem i_copyL {l : List Int} (h : l.length ≤ lim) : impl_copyInts l = some l := by
  unfold impl_copyInts
  rw [chk_pos (by simpa using h)]; rfl
/-- all numbers of a list -/
def addL (S : Nat → Bool) (l : List Int) : Nat → Bool := fun v => S v || l.contains (v : Int)
end Go.Proofs.Ytmioifafgbjjhaa
