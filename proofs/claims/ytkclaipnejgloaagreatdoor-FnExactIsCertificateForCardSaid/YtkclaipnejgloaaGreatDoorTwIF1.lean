/-
 When a join tree, a decomposition and a plan are valid: the reference and the program agree. On the printed functions; conditions: lengths.
-/
import Derived.Test.YtkclaipnejgloaaGreatDoorTrIF1
import Derived.Test.YtkclaipnejgloaaGreatDoorQfIF1
namespace Go.Proofs.YtkclaipnejgloaaGreatDoor
open Go.RowKit
set_option linter.unusedVariables false
set_option linter.unusedSimpArgs false
theorem AB {α β : Type} (a : α) (f : α -> Option β) : Ad (some a) f = f a:=rfl
theorem aG {S O : Type} (v : O) {B : (S × Int -> Option (Sum S O)) -> S × Int -> Option (Sum S O)} {n : Nat} (s : Nat -> S) (bad : Nat -> Bool) (hn : n <= lim) (h1 : ∀ k,k < n -> ∀ rec,B rec (s k,(k : Int)) = cond (bad k) (some (.inr v)) (rec (s (k + 1),((k + 1 : Nat) : Int)))) (h2 : ∀ rec,B rec (s n,(n : Int)) = some (.inl (s n))) :
  Ah B fz (s 0,0) = some (cond ((List.range n).any bad) (.inr v) (.inl (s n))):=by
 have key : ∀ d k,k + d = n -> (∀ j,j < k -> bad j = false) -> ∀ m,d < m -> Ah B m (s k,(k : Int)) = some (cond ((List.range n).any bad) (.inr v) (.inl (s n))):=by
  intro d
  induction d with
  | zero =>
   intro k hk hb m hm
   cases m with
   | zero => omega
   | succ m =>
    have hkn : k = n:=by omega
    have : (List.range n).any bad = false:=by
     rw [List.any_eq_false]
     intro x hx
     rw [hb x (by have:=List.mem_range.1 hx; omega)]; simp
    show B (Ah B m) (s k,(k : Int)) = _
    rw [hkn,h2,this]; rfl
  | succ d ih =>
   intro k hk hb m hm
   cases m with
   | zero => omega
   | succ m =>
    show B (Ah B m) (s k,(k : Int)) = _
    rw [h1 k (by omega)]
    cases hbk : bad k with
    | true =>
     have : (List.range n).any bad = true:=by rw [List.any_eq_true]; exact ⟨k,List.mem_range.2 (by omega),hbk⟩
     rw [this]; rfl
    | false =>
     exact ih (k + 1) (by omega) (fun j hj => by
      rcases Nat.lt_or_ge j k with h | h
      ·exact hb j h
      ·rw [show j = k by omega]; exact hbk) m (by omega)
 have:=key n 0 (by omega) (fun j hj => absurd hj (by omega)) fz (FZ hn)
 simpa using this
end Go.Proofs.YtkclaipnejgloaaGreatDoor
