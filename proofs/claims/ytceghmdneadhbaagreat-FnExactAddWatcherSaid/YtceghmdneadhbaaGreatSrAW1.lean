/-
 SetRelation: the reference and the program give the same. On the printed functions; conditions: lengths.
-/
import Derived.Test.YtceghmdneadhbaaGreatSnAW1
-- pure
namespace Go.Proofs.YtceghmdneadhbaaGreat
open Go.RowKit
set_option linter.unusedVariables false
set_option linter.unusedSimpArgs false
/-! ### the order of strings -/
/-! ### what both store -/
section
variable {d : List Tbl} {nm : List UInt8} {r : Int × List (List Int)}
end
/-! ### numbered elements -/
def numsM {α : Type} (L : List (Nat × α ⊕ α)) : List Nat := L.filterMap fun q => match q with
 | .inl p => some p.1
 | .inr _ => none
theorem okJ_of {α : Type} [BEq α] [LawfulBEq α] {l : List α} : ∀ {L : List (Nat × α ⊕ α)} {seen : List Nat}, (∀ p, .inl p ∈ L -> l[p.1]? = some p.2) -> (numsM L).Nodup -> (∀ n ∈ numsM L, n ∉ seen) -> okJ l L seen = true
 | [], _, _, _, _ => rfl
 | .inr x :: L, seen, h1, h2, h3 => by
  rw [okJ]
  exact okJ_of (fun p hp => h1 p (List.mem_cons_of_mem _ hp)) h2 h3
 | .inl p :: L, seen, h1, h2, h3 => by
  have e : numsM (.inl p :: L) = p.1 :: numsM L := by simp [numsM]
  rw [e] at h2 h3
  obtain ⟨n1, n2⟩ := List.nodup_cons.1 h2
  rw [okJ, h1 p List.mem_cons_self]
  simp only [beq_self_eq_true, Bool.true_and, Bool.and_eq_true, Bool.not_eq_true']
  refine ⟨?_, okJ_of (fun q hq => h1 q (List.mem_cons_of_mem _ hq)) n2 (fun n hn hm => ?_)⟩
  ·have := h3 p.1 List.mem_cons_self
   cases hc : seen.contains p.1 with
   | false => rfl
   | true => exact absurd (List.contains_iff_mem.1 hc) this
  ·rcases List.mem_cons.1 hm with h | h
   ·exact n1 (h ▸ hn)
   ·exact h3 n (List.mem_cons_of_mem _ hn) h
theorem enumT_get {α : Type} : ∀ (l : List α) (k i : Nat), (enumP k l)[i]? = (l[i]?).map fun x => (k + i, x)
 | [], k, i => by simp [enumP]
 | x :: l, k, 0 => by simp [enumP]
 | x :: l, k, i + 1 => by
  rw [enumP, List.getElem?_cons_succ, List.getElem?_cons_succ, enumT_get l (k + 1) i]
  congr 1
  funext y
  congr 1
  omega
theorem enumT_mem {α : Type} {l : List α} {k : Nat} {p : Nat × α} (h : p ∈ enumP k l) : k <= p.1 ∧ l[p.1 - k]? = some p.2 := by
 obtain ⟨i, hi, he⟩ := List.getElem_of_mem h
 have h1 := List.getElem?_eq_getElem hi
 rw [enumT_get, he] at h1
 obtain ⟨x, hx, hp⟩ := Option.map_eq_some_iff.1 h1
 rw [<- hp]
 refine ⟨by simp, ?_⟩
 simpa using hx
theorem enumT_nums {α : Type} : ∀ (l : List α) (k : Nat), numsM (inlM (enumP k l)) = List.range' k l.length
 | [], k => rfl
 | x :: l, k => by
  have := enumT_nums l (k + 1)
  simp only [inlM, numsM] at this ⊢
  rw [enumP, List.map_cons, List.filterMap_cons]
  simp only [this, List.length_cons, List.range'_succ]
theorem enumT_take {α : Type} : ∀ (l : List α) (k n : Nat), (enumP k l).take n = enumP k (l.take n)
 | [], k, n => by simp [enumP]
 | x :: l, k, 0 => by simp [enumP]
 | x :: l, k, n + 1 => by rw [enumP, List.take_succ_cons, List.take_succ_cons, enumP, enumT_take l (k + 1) n]
theorem enumT_drop {α : Type} : ∀ (l : List α) (k n : Nat), (enumP k l).drop n = enumP (k + n) (l.drop n)
 | [], k, n => by simp [enumP]
 | x :: l, k, 0 => by simp
 | x :: l, k, n + 1 => by rw [enumP, List.drop_succ_cons, List.drop_succ_cons, enumT_drop l (k + 1) n, show k + 1 + n = k + (n + 1) by omega]
theorem get_inl {α : Type} : ∀ (l : List α) (k : Nat), (inlM (enumP k l)).map getM = l
 | [], k => rfl
 | x :: l, k => by
  have := get_inl l (k + 1)
  simp only [inlM] at this ⊢
  rw [enumP, List.map_cons, List.map_cons, this]; rfl
theorem nums_app {α : Type} (a b : List (Nat × α ⊕ α)) : numsM (a ++ b) = numsM a ++ numsM b := by simp [numsM]
theorem nums_inr {α : Type} (a : List α) : numsM (inrM a) = [] := by
 induction a with
 | nil => rfl
 | cons x a ih => simp only [inrM, numsM] at ih ⊢; rw [List.map_cons, List.filterMap_cons]; exact ih
/-- an element is put in between -/
theorem okJ_put {α : Type} [BEq α] [LawfulBEq α] (l : List α) (n : Nat) (x : List α) : okJ l (inlM ((enumP 0 l).take n) ++ inrM x ++ inlM ((enumP 0 l).drop n)) [] = true ∧ (inlM ((enumP 0 l).take n) ++ inrM x ++ inlM ((enumP 0 l).drop n)).map getM = l.take n ++ x ++ l.drop n := by
 have hx : (inrM x).map getM = x := by
  induction x with
  | nil => rfl
  | cons y x ih => simp only [inrM] at ih ⊢; rw [List.map_cons, List.map_cons, ih]; rfl
 refine ⟨okJ_of (fun p hp => ?_) ?_ (by simp), ?_⟩
 ·have : p ∈ enumP 0 l := by
   simp only [inlM, inrM, List.mem_append, List.mem_map, reduceCtorEq, and_false, exists_false, or_false, Sum.inl.injEq, exists_eq_right] at hp
   rcases hp with h | h
   ·exact List.mem_of_mem_take h
   ·exact List.mem_of_mem_drop h
  simpa using (enumT_mem this).2
 ·rw [nums_app, nums_app, nums_inr, List.append_nil, enumT_take, enumT_drop, enumT_nums, enumT_nums, Nat.zero_add]
  have : List.range' 0 (l.take n).length ++ List.range' n (l.drop n).length = List.range' 0 l.length := by
   rcases Nat.lt_or_ge n l.length with h | h
   ·rw [List.length_take, Nat.min_eq_left (by omega), List.length_drop]
    have := List.range'_append (s := 0) (m := n) (n := l.length - n) (step := 1)
    rw [show 0 + 1 * n = n by omega, show n + (l.length - n) = l.length by omega] at this
    exact this
   ·rw [List.take_of_length_le h, List.drop_of_length_le h]; simp
  rw [this]
  exact List.nodup_range'
 ·rw [List.map_append, List.map_append, hx, enumT_take, enumT_drop, get_inl, get_inl]
/-! ### the functions -/
end Go.Proofs.YtceghmdneadhbaaGreat
