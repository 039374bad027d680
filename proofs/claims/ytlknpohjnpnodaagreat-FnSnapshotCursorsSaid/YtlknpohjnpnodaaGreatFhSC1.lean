/-
 Rows that violate a dependency, and whether it holds: the reference and the program agree. On the printed functions; conditions: lengths.
-/
import Derived.Test.YtlknpohjnpnodaaGreatFdSC1
namespace Go.Proofs.YtlknpohjnpnodaaGreat
open Go.RowKit
set_option linter.unusedSimpArgs false
theorem Om {O : Type} {B : (Int -> Option (Sum Unit O)) -> Int -> Option (Sum Unit O)} {n : Nat} (g : Nat -> Option O) (hn : n <= lim)
  (h1 : ∀ k, k < n -> ∀ rec, B rec (k : Int) = match g k with | some o => some (.inr o) | none => rec ((k + 1 : Nat) : Int)) (h2 : ∀ rec, B rec (n : Int) = some (.inl ())) :
  Ai B fz 0 = some (match (List.range n).findSome? g with | some o => .inr o | none => .inl ()) := by
 have key : ∀ d k, k + d = n -> ∀ m, d < m -> Ai B m (k : Int) = some (match (List.range' k d).findSome? g with | some o => .inr o | none => .inl ()) := by
  intro d
  induction d with
  | zero =>
   intro k hk m hm
   cases m with
   | zero => omega
   | succ m =>
    show B (Ai B m) (k : Int) = _
    rw [show k = n by omega, h2]; rfl
  | succ d ih =>
   intro k hk m hm
   cases m with
   | zero => omega
   | succ m =>
    show B (Ai B m) (k : Int) = _
    rw [h1 k (by omega), List.range'_succ, List.findSome?_cons]
    cases hg : g k with
    | some o => rfl
    | none => exact ih (k + 1) (by omega) m (by omega)
 have := key n 0 (by omega) fz (G0 hn)
 rw [List.range_eq_range']
 simpa using this
theorem D6 {α : Type} {l : List α} {f : Nat -> α -> Bool} (h : AI l f = false) {k : Nat} (hk : k < l.length) : f k l[k] = false := by
 unfold AI at h
 rw [List.any_eq_false] at h
 have := h k (List.mem_range.2 hk)
 rw [AY hk] at this
 simpa using this
def atI (row : List Int) (c : Int) : Int := (AA row c).getD 0
def MJ (row cols : List Int) : List Int := cols.map (atI row)
theorem Uw {row : List Int} {c : Int} (h : 0 <= c ∧ c < row.length) : AA row c = some (atI row c) := by
 unfold atI AA
 rw [if_pos h.1, List.getElem?_eq_getElem (by omega)]; rfl
theorem eh {row cols : List Int} (hl : cols.length <= lim) (h : ∀ c ∈ cols, 0 <= c ∧ c < row.length) : I3 row cols = some (MJ row cols) := by
 unfold I3
 rw [Gj (a := cols) (h := atI row) hl (fun k hk rec => by
  unfold H3
  simp only
  rw [AC hk, Ak hk, AH hk (Ax hl)]
  simp only [cond_true, Ad, Uw (h _ (List.getElem_mem hk))]
  rw [Am (by simp only [List.length_map, List.length_take, List.length_singleton]; unfold lim at *; omega)]) (fun rec y => by unfold H3; simp only; rw [Ay]; rfl)]
 rfl
theorem XT {row cols : List Int} (hl : cols.length <= lim) (h : ∀ c ∈ cols, 0 <= c ∧ c < row.length) : IW row cols = some (MJ row cols) := by
 unfold IW
 rw [Gj (a := cols) (h := atI row) hl (fun k hk rec => by
  unfold Je
  simp only
  rw [AC hk, Ak hk, AH hk (Ax hl)]
  simp only [cond_true, Ad, Uw (h _ (List.getElem_mem hk))]
  rw [Am (by simp only [List.length_map, List.length_take, List.length_singleton]; unfold lim at *; omega)]) (fun rec y => by unfold Je; simp only; rw [Ay]; rfl)]
 rfl
theorem cmp_eq : ∀ a b : List Int, (Ej a b == 0) = (a == b)
 | [], [] => rfl
 | [], _ :: _ => rfl
 | _ :: _, [] => rfl
 | x :: xs, y :: ys => by
  rw [Ej]
  by_cases h1 : x < y
  ·rw [if_pos h1]
   have : (x :: xs == y :: ys) = false := by simp; intro h; omega
   rw [this]; rfl
  ·rw [if_neg h1]
   by_cases h2 : y < x
   ·rw [if_pos h2]
    have : (x :: xs == y :: ys) = false := by simp; intro h; omega
    rw [this]; rfl
   ·rw [if_neg h2, cmp_eq xs ys]
    have : x = y := by omega
    subst this
    simp
end Go.Proofs.YtlknpohjnpnodaaGreat
