/-
  Words for memory, over no program: slice values that read as lists, worlds that differ by draws alone, plain facts on lists of ints. Definitions and plain lemmas; no conditions.
-/
import Derived.Below
import Derived.Laws.OwnMore
import Derived.Deep.AppendLies
import Derived.Deep.Draws
import Derived.Laws.Rows
import Derived.WalkKit
import Derived.Deep.QuietTactic
import Derived.Lib.Hide
namespace Go.Proofs.Ytkmkbpphdalgoaa
open Go.RowKit

theorem ret_bool {a b : Bool} (h : a = b) : Ending.returned (.bool a) = .returned (.bool b) := by rw [h]
theorem ret_int {a b : Int} (h : a = b) : Ending.returned (.int .i64 a) = .returned (.int .i64 b) := by rw [h]

/-- w' is w after some draws. -/
def Same (w w' : World) : Prop := ∃ n, w' = w.drewN n
theorem Same.refl (w : World) : Same w w := ⟨0, rfl⟩
theorem Same.trans {a b c : World} (h : Same a b) (k : Same b c) : Same a c := by
  obtain ⟨n, rfl⟩ := h; obtain ⟨m, rfl⟩ := k; exact ⟨n + m, World.drewN_drewN _ _ _⟩
theorem Same.drewN {a b : World} (h : Same a b) (n : Nat) : Same a (b.drewN n) := h.trans ⟨n, rfl⟩
theorem Same.drew {a b : World} (h : Same a b) : Same a b.drew := h.trans ⟨1, rfl⟩
theorem Same.below {a b : World} (B : Nat) (h : Same a b) : Below B a b := by
  obtain ⟨n, rfl⟩ := h; exact ⟨rfl, rfl, rfl, Nat.le_refl _, fun _ _ => rfl⟩
theorem Same.size {a b : World} (h : Same a b) : b.heap.size = a.heap.size := by obtain ⟨n, rfl⟩ := h; rfl
theorem Same.cell {a b : World} (h : Same a b) (p : Addr) : b.cell? p = a.cell? p := by obtain ⟨n, rfl⟩ := h; rfl
theorem quiet_same {P : Program} {f : FuncId} {args : Array Value} {w : World} {n : Nat} {v : Value}
    (h : Calls P f args (w.drewN n) fun e w' => e = .returned v ∧ Same (w.drewN n) w') : Calls P f args (w.drewN n) fun e w'' => e = .returned v ∧ ∃ m, w'' = w.drewN m :=
  h.mono fun _ _ ⟨he, m, hm⟩ => ⟨he, n + m, by rw [hm, World.drewN_drewN]⟩
theorem quiet_eq {P : Program} {f : FuncId} {args : Array Value} {w : World} {n : Nat} {v : Value}
    (h : Calls P f args (w.drewN n) fun e w' => e = .returned v ∧ w.drewN n = w') : Calls P f args (w.drewN n) fun e w'' => e = .returned v ∧ ∃ m, w'' = w.drewN m :=
  h.mono fun _ _ ⟨he, hm⟩ => ⟨he, n, hm.symm⟩

/-- after a call: old cells and old marks read as before -/
theorem bcell {W w1 : World} (hb : Below W.heap.size W w1) : (∀ b o, b < W.heap.size → w1.cell? ⟨b, o, none⟩ = W.cell? ⟨b, o, none⟩) ∧ (∀ b o, b < W.heap.size → w1.frozen? ⟨b, o, none⟩ = W.frozen? ⟨b, o, none⟩) :=
  ⟨fun b o h => hb.cell (p := ⟨b, o, none⟩) h, fun b o h => hb.frozen (p := ⟨b, o, none⟩) h⟩

/-- a draw ahead of the call is forgotten -/
theorem undrew {w w' : World} (h : Below w.drew.heap.size w.drew w') : Below w.heap.size w w' := ⟨h.os, h.tape, h.output, h.size, h.block⟩
/-- a cell of a block that has just been made -/
theorem cell_new (w : World) (cs : Array Value) (t : TypeId) (i : Nat) : (w.alloc (.cells cs t)).cell? ⟨w.heap.size, i, none⟩ = cs[i]? := cell_of_row _ _ _ _ _ _ (heap_alloc_new w _)
theorem below1 (w : World) (o : Obj) : Below w.heap.size w (w.alloc o) := (Below.refl _ _).alloc (Nat.le_refl _) _

theorem cell_at (w : World) (cs : Array Value) (t : TypeId) (i : Nat) {b : Nat} (hb : b = w.heap.size) : (w.alloc (.cells cs t)).cell? ⟨b, i, none⟩ = cs[i]? := by subst hb; exact cell_new w cs t i
theorem below2 (w : World) (a b : Obj) : Below w.heap.size w ((w.alloc a).alloc b) := (below1 w a).alloc (by simp) b
theorem below3 (w : World) (a b c : Obj) : Below w.heap.size w (((w.alloc a).alloc b).alloc c) := (below2 w a b).alloc (by simp; omega) c
theorem below4 (w : World) (a b c d : Obj) : Below w.heap.size w ((((w.alloc a).alloc b).alloc c).alloc d) := (below3 w a b c).alloc (by simp; omega) d

/-- The slice value v has n elements of 'size' cells and its cells read as xs. -/
def RowAt (w : World) (size : Nat) (v : Value) (n : Nat) (xs : List Value) : Prop :=
  ∃ A c, v = .slice A n c ∧ n ≤ 9223372036854775807 ∧ xs.length = n * size ∧ (0 < n → ∃ b off, A = some ⟨b, off, none⟩ ∧ ∀ j u, xs[j]? = some u → w.cell? ⟨b, off + j, none⟩ = some u)

theorem RowAt.keep {w w' : World} {size n : Nat} {v : Value} {xs : List Value} (h : RowAt w size v n xs) (hb : Below w.heap.size w w') : RowAt w' size v n xs := by
  obtain ⟨A, c, rfl, hc, hx, hi⟩ := h
  refine ⟨A, c, rfl, hc, hx, fun hn => ?_⟩
  obtain ⟨b, off, rfl, hcell⟩ := hi hn
  refine ⟨b, off, rfl, fun j u hu => ?_⟩
  have h0 := hcell j u hu
  rw [hb.cell (p := ⟨b, off + j, none⟩) (World.block_lt_of_cell? _ _ h0)]
  exact h0

/-- v reads as the ints l. -/
def Ints (w : World) (v : Value) (l : List Int) : Prop := RowAt w 1 v l.length (l.map (Value.int .i64))
theorem Ints.keep {w w' : World} {v : Value} {l : List Int} (h : Ints w v l) (hb : Below w.heap.size w w') : Ints w' v l := RowAt.keep h hb
theorem Ints.same {w w' : World} {v : Value} {l : List Int} (h : Ints w v l) (hs : Same w w') : Ints w' v l := h.keep (hs.below _)
theorem Ints.drewN {w : World} {v : Value} {l : List Int} (h : Ints w v l) (n : Nat) : Ints (w.drewN n) v l := h
theorem Ints.at_ {w : World} {v : Value} {l : List Int} (h : Ints w v l) : ∃ A c, v = .slice A l.length c ∧ l.length ≤ 9223372036854775807 ∧
    (0 < l.length → ∃ b off, A = some ⟨b, off, none⟩ ∧ ∀ j (hj : j < l.length), w.cell? ⟨b, off + j, none⟩ = some (.int .i64 l[j])) := by
  obtain ⟨A, c, rfl, hc, hx, hi⟩ := h
  refine ⟨A, c, rfl, hc, fun hk => ?_⟩
  obtain ⟨b, off, rfl, hcell⟩ := hi (by omega)
  exact ⟨b, off, rfl, fun j hj => hcell j _ (by simp [hj])⟩

theorem Ints.form {w : World} {v : Value} {l : List Int} (h : Ints w v l) : ∃ A c, v = .slice A l.length c := by
  obtain ⟨A, c, e, _⟩ := h.at_
  exact ⟨A, c, e⟩
/-- v reads as the lists of ints ll. -/
def Rows2 (w : World) (v : Value) (ll : List (List Int)) : Prop :=
  ∃ vs : List Value, RowAt w 1 v ll.length vs ∧ ∀ i (hi : i < ll.length), ∃ u, vs[i]? = some u ∧ Ints w u ll[i]
theorem Rows2.keep {w w' : World} {v : Value} {l : List (List Int)} (h : Rows2 w v l) (hb : Below w.heap.size w w') : Rows2 w' v l := by
  obtain ⟨vs, h1, h2⟩ := h
  exact ⟨vs, h1.keep hb, fun i hi => let ⟨u, hu, hr⟩ := h2 i hi; ⟨u, hu, hr.keep hb⟩⟩
theorem Rows2.same {w w' : World} {v : Value} {l : List (List Int)} (h : Rows2 w v l) (hs : Same w w') : Rows2 w' v l := h.keep (hs.below _)
theorem Rows2.at_ {w : World} {v : Value} {l : List (List Int)} (h : Rows2 w v l) : ∃ A c, v = .slice A l.length c ∧ l.length ≤ 9223372036854775807 ∧
    (0 < l.length → ∃ b off, A = some ⟨b, off, none⟩ ∧ ∀ j (hj : j < l.length), ∃ A' c', w.cell? ⟨b, off + j, none⟩ = some (.slice A' l[j].length c') ∧ Ints w (.slice A' l[j].length c') l[j]) := by
  obtain ⟨vs, ⟨A, c, rfl, hc, hx, hi⟩, h2⟩ := h
  refine ⟨A, c, rfl, hc, fun hk => ?_⟩
  obtain ⟨b, off, rfl, hcell⟩ := hi (by omega)
  refine ⟨b, off, rfl, fun j hj => ?_⟩
  obtain ⟨u, hu, hr⟩ := h2 j hj
  have hr' := hr
  obtain ⟨A', c', rfl, _, _⟩ := hr'
  exact ⟨A', c', hcell j _ hu, hr⟩

theorem Rows2.form {w : World} {v : Value} {l : List (List Int)} (h : Rows2 w v l) : ∃ A c, v = .slice A l.length c := by
  obtain ⟨A, c, e, _⟩ := h.at_
  exact ⟨A, c, e⟩

/-! ### plain facts on lists -/
theorem ne_of_getElem {α : Type} [BEq α] [LawfulBEq α] {a b : List α} {k : Nat} (ha : k < a.length) (hb : k < b.length) (h : a[k] ≠ b[k]) : (a == b) = false := by
  rw [beq_eq_false_iff_ne]; intro e; subst e; exact h rfl
theorem eq_of_take {α : Type} [BEq α] [LawfulBEq α] {a b : List α} (hl : a.length = b.length) (h : a.take a.length = b.take a.length) : (a == b) = true := by
  rw [List.take_length, hl, List.take_length] at h
  simpa using h
theorem ne_of_length {α : Type} [BEq α] [LawfulBEq α] {a b : List α} (hl : ¬ a.length = b.length) : (a == b) = false :=
  beq_eq_false_iff_ne.2 (fun e => hl (by rw [e]))
theorem take_snoc_eq {α : Type} {a b : List α} {k : Nat} (ha : k < a.length) (hb : k < b.length) (h : a.take k = b.take k) (e : a[k] = b[k]) : a.take (k + 1) = b.take (k + 1) := by
  rw [List.take_succ_eq_append_getElem ha, List.take_succ_eq_append_getElem hb, h, e]

theorem map_take_succ {α β : Type} (f : α → β) {l : List α} {k : Nat} (hk : k < l.length) : (l.take (k + 1)).map f = (l.take k).map f ++ [f l[k]] := by
  rw [List.take_succ_eq_append_getElem hk, List.map_append]; rfl

theorem max_if (a b : Int) : (if a < b then b else a) = max a b := by split <;> omega

/-- low ≤ n ≤ high -/
def inB (n low high : Int) : Bool := decide (low ≤ n) && decide (n ≤ high)
theorem inB_iff {n low high : Int} : inB n low high = true ↔ low ≤ n ∧ n ≤ high := by simp [inB]
theorem inB_not {n low high : Int} : inB n low high = false ↔ n < low ∨ high < n := by
  have := @inB_iff n low high
  rw [← Bool.not_eq_true, this]; omega

/-- -1, 0 or 1: the order of two ints -/
def cmpI (a b : Int) : Int := if a < b then -1 else if b < a then 1 else 0
/-- lexicographic order of two lists -/
def cmpL : List Int → List Int → Int
  | [], [] => 0
  | [], _ :: _ => -1
  | _ :: _, [] => 1
  | a :: x, b :: y => if a < b then -1 else if b < a then 1 else cmpL x y
theorem cmpL_self (a : List Int) : cmpL a a = 0 := by
  induction a with
  | nil => rfl
  | cons x a ih => simp [cmpL, ih]
theorem cmpL_eq {a b : List Int} : cmpL a b = 0 ↔ a = b := by
  induction a generalizing b with
  | nil => cases b <;> simp [cmpL]
  | cons x a ih =>
    cases b with
    | nil => simp [cmpL]
    | cons y b =>
      simp only [cmpL, List.cons.injEq]
      split
      · simp; omega
      · split
        · simp; omega
        · rw [ih]; constructor
          · intro h; exact ⟨by omega, h⟩
          · intro h; exact h.2
theorem cmpL_drop {a b : List Int} {k : Nat} (h : a.take k = b.take k) : cmpL a b = cmpL (a.drop k) (b.drop k) := by
  induction k generalizing a b with
  | zero => simp
  | succ k ih =>
    cases a with
    | nil =>
      cases b with
      | nil => simp
      | cons y b => simp at h
    | cons x a =>
      cases b with
      | nil => simp at h
      | cons y b =>
        simp only [List.take_succ_cons, List.cons.injEq] at h
        obtain ⟨rfl, h⟩ := h
        simp only [cmpL, List.drop_succ_cons, ih h]
        simp
theorem cmpL_at {a b : List Int} {k : Nat} (h : a.take k = b.take k) (ha : k < a.length) (hb : k < b.length) (hne : a[k] ≠ b[k]) : cmpL a b = cmpI a[k] b[k] := by
  rw [cmpL_drop h, List.drop_eq_getElem_cons ha, List.drop_eq_getElem_cons hb]
  simp only [cmpL, cmpI]
  split
  · rfl
  · split
    · rfl
    · omega
theorem cmpL_end {a b : List Int} {k : Nat} (h : a.take k = b.take k) (hk : k ≤ a.length) (hk' : k ≤ b.length) (hend : ¬ (k < a.length ∧ k < b.length)) : cmpL a b = cmpI a.length b.length := by
  rw [cmpL_drop h]
  by_cases ha : k < a.length
  · have hb : b.length = k := by omega
    rw [List.drop_eq_getElem_cons ha, List.drop_of_length_le (l := b) (by omega)]
    simp only [cmpL, cmpI]
    rw [if_neg (by omega), if_pos (by omega)]
  · rw [List.drop_of_length_le (l := a) (by omega)]
    by_cases hb : k < b.length
    · rw [List.drop_eq_getElem_cons hb]
      simp only [cmpL, cmpI]
      rw [if_pos (by omega)]
    · rw [List.drop_of_length_le (l := b) (by omega)]
      simp only [cmpL, cmpI]
      rw [if_neg (by omega), if_neg (by omega)]
/-- all values from 0 to 99 -/
def vals (l : List Int) : Bool := l.all fun x => inB x 0 99
theorem vals_no {l : List Int} {k : Nat} (hk : k < l.length) (h : inB l[k] 0 99 = false) : vals l = false := by
  rw [vals, List.all_eq_false]
  exact ⟨l[k], List.getElem_mem hk, by simp [h]⟩
theorem vals_snoc {l : List Int} {k : Nat} (hk : k < l.length) (h : vals (l.take k) = true) (e : inB l[k] 0 99 = true) : vals (l.take (k + 1)) = true := by
  rw [List.take_succ_eq_append_getElem hk]
  simp only [vals, List.all_append, List.all_cons, List.all_nil, Bool.and_eq_true] at *
  exact ⟨h, e, trivial⟩
theorem vals_at {l : List Int} (h : vals l = true) {k : Nat} (hk : k < l.length) : 0 ≤ l[k] ∧ l[k] ≤ 99 := by
  rw [vals, List.all_eq_true] at h
  exact inB_iff.1 (h _ (List.getElem_mem hk))

end Go.Proofs.Ytkmkbpphdalgoaa
