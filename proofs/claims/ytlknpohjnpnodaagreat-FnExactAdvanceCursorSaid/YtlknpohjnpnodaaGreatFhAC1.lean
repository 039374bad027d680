/-
  Rows that violate a dependency, and whether it holds: the reference and the program agree. On the printed functions; conditions: lengths.
-/
import Derived.Test.YtlknpohjnpnodaaGreatFdAC1
namespace Go.Proofs.YtlknpohjnpnodaaGreat
open Go.RowKit
set_option linter.unusedSimpArgs false
/-- a loop that ends with the first thing found -/
theorem some_loop {O : Type} {B : (Int → Option (Sum Unit O)) → Int → Option (Sum Unit O)} {n : Nat} (g : Nat → Option O) (hn : n ≤ lim)
    (h1 : ∀ k, k < n → ∀ rec, B rec (k : Int) = match g k with | some o => some (.inr o) | none => rec ((k + 1 : Nat) : Int)) (h2 : ∀ rec, B rec (n : Int) = some (.inl ())) :
    loopF B fz 0 = some (match (List.range n).findSome? g with | some o => .inr o | none => .inl ()) := by
  have key : ∀ d k, k + d = n → ∀ m, d < m → loopF B m (k : Int) = some (match (List.range' k d).findSome? g with | some o => .inr o | none => .inl ()) := by
    intro d
    induction d with
    | zero =>
      intro k hk m hm
      cases m with
      | zero => omega
      | succ m =>
        show B (loopF B m) (k : Int) = _
        rw [show k = n by omega, h2]; rfl
    | succ d ih =>
      intro k hk m hm
      cases m with
      | zero => omega
      | succ m =>
        show B (loopF B m) (k : Int) = _
        rw [h1 k (by omega), List.range'_succ, List.findSome?_cons]
        cases hg : g k with
        | some o => rfl
        | none => exact ih (k + 1) (by omega) m (by omega)
  have := key n 0 (by omega) fz (lt_fz hn)
  rw [List.range_eq_range']
  simpa using this
theorem badAny_f {α : Type} {l : List α} {f : Nat → α → Bool} (h : badAny l f = false) {k : Nat} (hk : k < l.length) : f k l[k] = false := by
  unfold badAny at h
  rw [List.any_eq_false] at h
  have := h k (List.mem_range.2 hk)
  rw [atB_lt hk] at this
  simpa using this
def atI (row : List Int) (c : Int) : Int := (geti row c).getD 0
def pickB (row cols : List Int) : List Int := cols.map (atI row)
theorem geti_ok {row : List Int} {c : Int} (h : 0 ≤ c ∧ c < row.length) : geti row c = some (atI row c) := by
  unfold atI geti
  rw [if_pos h.1, List.getElem?_eq_getElem (by omega)]; rfl
theorem s_cols {row cols : List Int} (hl : cols.length ≤ lim) (h : ∀ c ∈ cols, 0 ≤ c ∧ c < row.length) : spec_l5Cols row cols = some (pickB row cols) := by
  unfold spec_l5Cols
  rw [map_loop (a := cols) (h := atI row) hl (fun k hk rec => by
    unfold spec_l5Cols_B1
    simp only
    rw [lt_dec hk, geti_at hk, wrap_s hk (lim_max hl)]
    simp only [cond_true, obind, geti_ok (h _ (List.getElem_mem hk))]
    rw [chk_pos (by simp only [List.length_map, List.length_take, List.length_singleton]; unfold lim at *; omega)]) (fun rec y => by unfold spec_l5Cols_B1; simp only; rw [nlt_dec]; rfl)]
  rfl
theorem i_pick {row cols : List Int} (hl : cols.length ≤ lim) (h : ∀ c ∈ cols, 0 ≤ c ∧ c < row.length) : impl_pick row cols = some (pickB row cols) := by
  unfold impl_pick
  rw [map_loop (a := cols) (h := atI row) hl (fun k hk rec => by
    unfold impl_pick_B1
    simp only
    rw [lt_dec hk, geti_at hk, wrap_s hk (lim_max hl)]
    simp only [cond_true, obind, geti_ok (h _ (List.getElem_mem hk))]
    rw [chk_pos (by simp only [List.length_map, List.length_take, List.length_singleton]; unfold lim at *; omega)]) (fun rec y => by unfold impl_pick_B1; simp only; rw [nlt_dec]; rfl)]
  rfl
end Go.Proofs.YtlknpohjnpnodaaGreat
