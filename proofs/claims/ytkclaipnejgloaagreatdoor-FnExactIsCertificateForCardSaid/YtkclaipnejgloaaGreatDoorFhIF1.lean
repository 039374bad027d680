/-
 Rows that violate a dependency, and whether it holds: the reference and the program agree. On the printed functions; conditions: lengths.
-/
import Derived.Test.YtkclaipnejgloaaGreatDoorFdIF1
namespace Go.Proofs.YtkclaipnejgloaaGreatDoor
open Go.RowKit
set_option linter.unusedSimpArgs false
theorem Og {O : Type} {B : (Int -> Option (Sum Unit O)) -> Int -> Option (Sum Unit O)} {n : Nat} (g : Nat -> Option O) (hn : n <= lim)
  (h1 : ∀ k,k < n -> ∀ rec,B rec (k : Int) = match g k with | some o => some (.inr o) | none => rec ((k + 1 : Nat) : Int)) (h2 : ∀ rec,B rec (n : Int) = some (.inl ())) :
  Ah B fz 0 = some (match (List.range n).findSome? g with | some o => .inr o | none => .inl ()):=by
 have key : ∀ d k,k + d = n -> ∀ m,d < m -> Ah B m (k : Int) = some (match (List.range' k d).findSome? g with | some o => .inr o | none => .inl ()):=by
  intro d
  induction d with
  | zero =>
   intro k hk m hm
   cases m with
   | zero => omega
   | succ m =>
    show B (Ah B m) (k : Int) = _
    rw [show k = n by omega,h2]; rfl
  | succ d ih =>
   intro k hk m hm
   cases m with
   | zero => omega
   | succ m =>
    show B (Ah B m) (k : Int) = _
    rw [h1 k (by omega),List.range'_succ,List.findSome?_cons]
    cases hg : g k with
    | some o => rfl
    | none => exact ih (k + 1) (by omega) m (by omega)
 have:=key n 0 (by omega) fz (FZ hn)
 rw [List.range_eq_range']
 simpa using this
theorem FE {α : Type} {l : List α} {f : Nat -> α -> Bool} (h : Ay l f = false) {k : Nat} (hk : k < l.length) : f k l[k] = false:=by
 unfold Ay at h
 rw [List.any_eq_false] at h
 have:=h k (List.mem_range.2 hk)
 rw [AN hk] at this
 simpa using this
def atI (row : List Int) (c : Int) : Int:=(AA row c).getD 0
def MG (row cols : List Int) : List Int:=cols.map (atI row)
theorem UI {row : List Int} {c : Int} (h : 0 <= c ∧ c < row.length) : AA row c = some (atI row c):=by
 unfold atI AA
 rw [if_pos h.1,List.getElem?_eq_getElem (by omega)]; rfl
theorem dF {row cols : List Int} (hl : cols.length <= lim) (h : ∀ c ∈ cols,0 <= c ∧ c < row.length) : IZ row cols = some (MG row cols):=by
 unfold IZ
 rw [G8 (a:=cols) (h:=atI row) hl (fun k hk rec => by
  unfold HN
  simp only
  rw [Az hk,Ai hk,AF hk (Au hl)]
  simp only [cond_true,Ad,UI (h _ (List.getElem_mem hk))]
  rw [Ar (by simp only [List.length_map,List.length_take,List.length_singleton]; unfold lim at *; omega)]) (fun rec y => by unfold HN; simp only; rw [Ax]; rfl)]
 rfl
theorem XX {row cols : List Int} (hl : cols.length <= lim) (h : ∀ c ∈ cols,0 <= c ∧ c < row.length) : IJ row cols = some (MG row cols):=by
 unfold IJ
 rw [G8 (a:=cols) (h:=atI row) hl (fun k hk rec => by
  unfold I8
  simp only
  rw [Az hk,Ai hk,AF hk (Au hl)]
  simp only [cond_true,Ad,UI (h _ (List.getElem_mem hk))]
  rw [Ar (by simp only [List.length_map,List.length_take,List.length_singleton]; unfold lim at *; omega)]) (fun rec y => by unfold I8; simp only; rw [Ax]; rfl)]
 rfl
theorem bo {a b : List Int} (ha : a.length <= lim) : Hm a b = some (a == b):=by
 unfold Hm
 by_cases hl : a.length = b.length
 ·have e1 : ((List.length a : Int) != (List.length b : Int)) = false:=by simp; omega
  rw [e1,cond_false,Bh (fun k => atB a k fun x => atB b k fun y => x != y) ha (fun k hk rec => by
   have hk' : k < b.length:=by omega
   unfold G6
   rw [Az hk,Ai hk,Ai hk',AF hk (Au ha),AN hk,AN hk']
   simp only [cond_true,Ad]) (fun rec => by unfold G6; rw [Ax]; rfl)]
  have e2 : ((List.range a.length).any fun k => atB a k fun x => atB b k fun y => x != y) = !(a == b):=by
   by_cases he : a = b
   ·subst he
    rw [beq_self_eq_true,Bool.not_true,List.any_eq_false]
    intro k hk
    have hk:=List.mem_range.1 hk
    rw [AN hk,AN hk]; simp
   ·have : (a == b) = false:=by simpa using he
    rw [this,Bool.not_false,List.any_eq_true]
    apply Classical.byContradiction
    intro hc
    apply he
    apply List.ext_getElem hl
    intro k h1 h2
    apply Classical.byContradiction
    intro hne
    exact hc ⟨k,List.mem_range.2 h1,by rw [AN h1,AN h2]; simpa using hne⟩
  rw [e2]
  cases (a == b) <;> rfl
 ·have e1 : ((List.length a : Int) != (List.length b : Int)) = true:=by simp; omega
  have e2 : (a == b) = false:=by simp; intro h; exact hl (by rw [h])
  rw [e1,e2]; rfl
theorem cmp_eq : ∀ a b : List Int,(F8 a b == 0) = (a == b)
 | [],[] => rfl
 | [],_ :: _ => rfl
 | _ :: _,[] => rfl
 | x :: xs,y :: ys => by
  rw [F8]
  by_cases h1 : x < y
  ·rw [if_pos h1]
   have : (x :: xs == y :: ys) = false:=by simp; intro h; omega
   rw [this]; rfl
  ·rw [if_neg h1]
   by_cases h2 : y < x
   ·rw [if_pos h2]
    have : (x :: xs == y :: ys) = false:=by simp; intro h; omega
    rw [this]; rfl
   ·rw [if_neg h2,cmp_eq xs ys]
    have : x = y:=by omega
    subst this
    simp
end Go.Proofs.YtkclaipnejgloaaGreatDoor
