/-
  When a join tree, a decomposition and a plan are valid: the reference and the program agree. On the printed functions; conditions: lengths.
-/
import Derived.Test.YtkclaipnejgloaaDoorTrIC1
import Derived.Test.YtkclaipnejgloaaDoorQfIC1
-- pure
namespace Go.Proofs.YtkclaipnejgloaaDoor
open Go.RowKit
set_option linter.unusedVariables false
set_option linter.unusedSimpArgs false
theorem ob_s {α β : Type} (a : α) (f : α → Option β) : obind (some a) f = f a := rfl
/-- a loop with a state that ends at a bad element with a value -/
theorem all_sv {S O : Type} (v : O) {B : (S × Int → Option (Sum S O)) → S × Int → Option (Sum S O)} {n : Nat} (s : Nat → S) (bad : Nat → Bool) (hn : n ≤ lim) (h1 : ∀ k, k < n → ∀ rec, B rec (s k, (k : Int)) = cond (bad k) (some (.inr v)) (rec (s (k + 1), ((k + 1 : Nat) : Int)))) (h2 : ∀ rec, B rec (s n, (n : Int)) = some (.inl (s n))) :
    loopF B fz (s 0, 0) = some (cond ((List.range n).any bad) (.inr v) (.inl (s n))) := by
  have key : ∀ d k, k + d = n → (∀ j, j < k → bad j = false) → ∀ m, d < m → loopF B m (s k, (k : Int)) = some (cond ((List.range n).any bad) (.inr v) (.inl (s n))) := by
    intro d
    induction d with
    | zero =>
      intro k hk hb m hm
      cases m with
      | zero => omega
      | succ m =>
        have hkn : k = n := by omega
        have : (List.range n).any bad = false := by
          rw [List.any_eq_false]
          intro x hx
          rw [hb x (by have := List.mem_range.1 hx; omega)]; simp
        show B (loopF B m) (s k, (k : Int)) = _
        rw [hkn, h2, this]; rfl
    | succ d ih =>
      intro k hk hb m hm
      cases m with
      | zero => omega
      | succ m =>
        show B (loopF B m) (s k, (k : Int)) = _
        rw [h1 k (by omega)]
        cases hbk : bad k with
        | true =>
          have : (List.range n).any bad = true := by rw [List.any_eq_true]; exact ⟨k, List.mem_range.2 (by omega), hbk⟩
          rw [this]; rfl
        | false =>
          exact ih (k + 1) (by omega) (fun j hj => by
            rcases Nat.lt_or_ge j k with h | h
            · exact hb j h
            · rw [show j = k by omega]; exact hbk) m (by omega)
  have := key n 0 (by omega) (fun j hj => absurd hj (by omega)) fz (lt_fz hn)
  simpa using this
theorem rtL_len (f : Int → Bool) (l : List Int) (k : Nat) : (rtL f l k).length ≤ k := by
  unfold rtL
  exact Nat.le_trans (List.length_filter_le _ _) (by simp)
theorem wrap_1 {n : Nat} (h : n ≤ lim) : IntKind.i64.wrap ((n : Int) - 1) = (n : Int) - 1 := wrap_in (by unfold lim at h; omega)
theorem wrap_kT {k : Nat} (h : k ≤ lim) : IntKind.i64.wrap ((k : Int) + 1) = ((k + 1 : Nat) : Int) := by rw [wrap_in (by unfold lim at h; omega)]; simp
theorem up_at {p : List Int} {k : Nat} (h : k < p.length) : upP p (k : Int) = p[k] := by unfold upP; rw [Int.toNat_natCast, List.getElem?_eq_getElem h]; rfl
/-- the first root so far -/
def outS (p : List Int) (k : Nat) : Int := match rtL (fun x => x == -1) p k with
  | [] => -1
  | r :: _ => (r : Int)
theorem outS_ge (p : List Int) (k : Nat) : decide (0 ≤ outS p k) = !(rtL (fun x => x == -1) p k).isEmpty := by
  unfold outS
  cases rtL (fun x => x == -1) p k with
  | nil => rfl
  | cons r l => simp
theorem path_len {p : List Int} : ∀ (m : Nat) (a : Int), (pathB p m a).length ≤ m
  | 0, _ => by simp [pathB]
  | m + 1, a => by
    rw [pathB]
    split
    · rw [List.length_cons]; have := path_len (p := p) m (upP p a); omega
    · simp
theorem path_ne {p : List Int} {k : Nat} (hk : k < p.length) : 0 < (pathB p (p.length + 1) (k : Int)).length := by rw [pathB, if_pos (by omega)]; simp
/-- the last of a path -/
theorem path_get {p : List Int} (hp : p.length < lim) {k : Nat} (hk : k < p.length) : ∃ x, geti (pathB p (p.length + 1) (k : Int)) (IntKind.i64.wrap (((pathB p (p.length + 1) (k : Int)).length : Int) - 1)) = some x ∧ (pathB p (p.length + 1) (k : Int)).getLast? = some x := by
  have h1 := path_ne hk
  have h2 := path_len (p := p) (p.length + 1) (k : Int)
  have hj : (pathB p (p.length + 1) (k : Int)).length - 1 < (pathB p (p.length + 1) (k : Int)).length := by omega
  refine ⟨(pathB p (p.length + 1) (k : Int))[(pathB p (p.length + 1) (k : Int)).length - 1], ?_, by rw [List.getLast?_eq_getElem?, List.getElem?_eq_getElem hj]⟩
  · rw [wrap_1 (by omega), show ((pathB p (p.length + 1) (k : Int)).length : Int) - 1 = (((pathB p (p.length + 1) (k : Int)).length - 1 : Nat) : Int) by omega, geti_at hj]
/-- what the reference looks at behind a path -/
theorem path_bad {p : List Int} (hp : p.length < lim) {k : Nat} (hk : k < p.length) {α : Type} (x y : Option α) : cond (decide ((p.length : Int) < ((pathB p (p.length + 1) (k : Int)).length : Int))) x (obind (geti (pathB p (p.length + 1) (k : Int)) (IntKind.i64.wrap (((pathB p (p.length + 1) (k : Int)).length : Int) - 1))) fun e => cond (e != rootB p) x y) = cond (!pathOk p k) x y := by
  obtain ⟨e, h1, h2⟩ := path_get hp hk
  unfold pathOk
  rw [h1, h2]
  simp only [obind]
  by_cases hl : (pathB p (p.length + 1) (k : Int)).length ≤ p.length
  · rw [decide_eq_false (by omega), decide_eq_true hl, cond_false, Bool.true_and, bne]
    rfl
  · rw [decide_eq_true (by omega), decide_eq_false hl]; rfl
/-- lists that have a number where the parent's has not -/
def topB {α : Type} (g : α → List Int) (l : List α) (p : List Int) (v : Int) (i : Nat) : Bool := atB l i fun x => (g x).contains v && atB p i fun y => decide (y < 0) || !atB l y.toNat fun z => (g z).contains v
def topT {α : Type} (g : α → List Int) (l : List α) (p : List Int) (v : Int) (k : Nat) : Nat := ((List.range k).filter (topB g l p v)).length
theorem topT_s {α : Type} (g : α → List Int) (l : List α) (p : List Int) (v : Int) (k : Nat) : topT g l p v (k + 1) = topT g l p v k + cond (topB g l p v k) 1 0 := by
  unfold topT
  rw [List.range_succ, List.filter_append, List.filter_cons, List.filter_nil, List.length_append]
  cases topB g l p v k <;> rfl
theorem topT_le {α : Type} (g : α → List Int) (l : List α) (p : List Int) (v : Int) (k : Nat) : topT g l p v k ≤ k := Nat.le_trans (List.length_filter_le _ _) (by simp)
end Go.Proofs.YtkclaipnejgloaaDoor
