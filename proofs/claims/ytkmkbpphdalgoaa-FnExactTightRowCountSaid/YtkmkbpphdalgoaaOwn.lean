/-
  Words for memory that a call has made: rows and rows of rows of its own. Over no program: definitions and plain lemmas; no conditions.
-/
import Derived.Test.YtkmkbpphdalgoaaWords
import Derived.Deep.OwnRows
import Derived.Deep.Onto
import Derived.OwnWalk
import Derived.Maps.AppendAt
import Derived.RegionTactic
namespace Go.Proofs.Ytkmkbpphdalgoaa
open Go.RowKit

theorem grown_of_below {a w : World} (h : Below a.heap.size a w) (row : Option Nat) : a.grownBy w row := ⟨h.os, h.tape, h.output, h.size, fun i hi _ => h.block i hi⟩

section
variable {w w' : World} {base : Nat} {e : TypeId} {size : Nat} {v : Value} {n : Nat} {xs : List Value}
theorem own_keep (h : w.ownsRow base e size v n xs) (hb : Below w.heap.size w w') : w'.ownsRow base e size v n xs := by
  cases hv : v.ownBlock with
  | none => exact h.kept (grown_of_below hb none) (.inl hv)
  | some g => exact h.kept (grown_of_below hb none) (.inr (by rw [hv]; simp))
theorem own_same (h : w.ownsRow base e size v n xs) (hs : Same w w') : w'.ownsRow base e size v n xs := own_keep h (hs.below _)
/-- An owned row, read. -/
theorem RowAt.of_own (h : w.ownsRow base e size v n xs) : RowAt w size v n xs := by
  rcases h.2 with ⟨rfl, rfl⟩ | ⟨g, cap, cur, rfl, _, hh, hnc, hm, hsz, hx⟩
  · exact ⟨none, 0, rfl, by omega, h.1, fun h0 => absurd h0 (by omega)⟩
  · refine ⟨some ⟨g, 0, none⟩, cap, rfl, by unfold maxLen at hm; omega, h.1, fun _ => ⟨g, 0, rfl, fun j u hu => ?_⟩⟩
    have hj : j < xs.length := by
      rcases Nat.lt_or_ge j xs.length with h1 | h1
      · exact h1
      · rw [List.getElem?_eq_none h1] at hu; cases hu
    simp only [World.cell?, hh, Nat.zero_add]
    rw [← hx, List.getElem?_take] at hu
    rw [h.1] at hj
    rw [if_pos hj] at hu
    simpa using hu
theorem own_form (h : w.ownsRow base e size v n xs) : ∃ A c, v = .slice A n c := by
  rcases h.2 with ⟨rfl, rfl⟩ | ⟨g, cap, cur, rfl, _⟩
  · exact ⟨_, _, rfl⟩
  · exact ⟨_, _, rfl⟩
/-- two owned rows of other element types lie in other blocks -/
theorem own_ne {e' : TypeId} {size' : Nat} {v' : Value} {n' : Nat} {xs' : List Value} {base' : Nat} (h : w.ownsRow base e size v n xs) (h' : w.ownsRow base' e' size' v' n' xs') (hne : e ≠ e') {g : Nat}
    (hg : v.ownBlock = some g) : v'.ownBlock ≠ some g := by
  rcases h.2 with ⟨rfl, _⟩ | ⟨g1, cap, cur, rfl, _, hh, _⟩
  · simp [Value.ownBlock] at hg
  · rcases h'.2 with ⟨rfl, _⟩ | ⟨g2, cap', cur', rfl, _, hh', _⟩
    · simp [Value.ownBlock]
    · intro e
      simp only [Value.ownBlock] at hg e
      injection hg with hg
      injection e with e
      subst hg
      subst e
      rw [hh] at hh'
      injection hh' with hh'
      injection hh' with _ ht
      exact hne ht
end

theorem Ints.of_own {w : World} {base : Nat} {t : TypeId} {v : Value} {l : List Int} (h : w.ownsRow base t 1 v l.length (l.map (Value.int .i64))) : Ints w v l := RowAt.of_own h

/-- A call that returns a new list of ints. -/
def RetInts (t : TypeId) (w : World) (l : List Int) (e : Ending) (w' : World) : Prop :=
  ∃ v, e = .returned v ∧ w'.ownsRow w.heap.size t 1 v l.length (l.map (Value.int .i64)) ∧ Below w.heap.size w w'

/-- two values that own other blocks -/
def Apart (u v : Value) : Prop := ∀ g, u.ownBlock = some g → v.ownBlock ≠ some g
theorem Apart.symm {u v : Value} (h : Apart u v) : Apart v u := fun g h1 h2 => h g h2 h1

/-- The values vs own the lists ll, each a block of its own. -/
def Own2 (t : TypeId) (w : World) (base : Nat) (vs : List Value) (ll : List (List Int)) : Prop :=
  vs.length = ll.length ∧ (∀ (j : Nat) (u : Value) (l : List Int), vs[j]? = some u → ll[j]? = some l → w.ownsRow base t 1 u l.length (l.map (Value.int .i64))) ∧ vs.Pairwise Apart

section
variable {t tl : TypeId} {w w' : World} {base : Nat} {vs : List Value} {ll : List (List Int)} {v : Value}
theorem Own2.nil (t : TypeId) (w : World) (base : Nat) : Own2 t w base [] [] := ⟨rfl, by simp, List.Pairwise.nil⟩
theorem Own2.keep (h : Own2 t w base vs ll) (hb : Below w.heap.size w w') : Own2 t w' base vs ll := ⟨h.1, fun j u l hu hl => own_keep (h.2.1 j u l hu hl) hb, h.2.2⟩
theorem Own2.lt (h : Own2 t w base vs ll) : ∀ u ∈ vs, ∀ g, u.ownBlock = some g → base ≤ g ∧ g < w.heap.size := by
  intro u hu g hg
  obtain ⟨j, hj, rfl⟩ := List.mem_iff_getElem.1 hu
  exact (h.2.1 j _ _ (List.getElem?_eq_getElem hj) (List.getElem?_eq_getElem (by rw [← h.1]; exact hj))).lt g hg
theorem Own2.mono (h : Own2 t w base vs ll) {base' : Nat} (hb : base' ≤ base) : Own2 t w base' vs ll := ⟨h.1, fun j u l hu hl => (h.2.1 j u l hu hl).mono hb, h.2.2⟩
theorem Own2.snoc {u : Value} {l : List Int} {B : Nat} (h : Own2 t w base vs ll) (hb : Below w.heap.size w w') (hB : base ≤ B) (hsz : w.heap.size ≤ B) (hu : w'.ownsRow B t 1 u l.length (l.map (Value.int .i64))) : Own2 t w' base (vs ++ [u]) (ll ++ [l]) := by
  refine ⟨by simp [h.1], fun j x y hx hy => ?_, ?_⟩
  · by_cases hj : j < vs.length
    · rw [List.getElem?_append_left hj] at hx
      rw [List.getElem?_append_left (by rw [← h.1]; exact hj)] at hy
      exact own_keep (h.2.1 j x y hx hy) hb
    · rw [List.getElem?_append_right (by omega)] at hx
      rw [List.getElem?_append_right (by rw [← h.1]; omega)] at hy
      have hx0 : j - vs.length = 0 := by
        rcases Nat.eq_zero_or_pos (j - vs.length) with h0 | h0
        · exact h0
        · rw [List.getElem?_eq_none (by simp; omega)] at hx; cases hx
      rw [hx0] at hx
      rw [← h.1, hx0] at hy
      simp only [List.getElem?_cons_zero, Option.some.injEq] at hx hy
      subst hx hy
      exact hu.mono hB
  · rw [List.pairwise_append]
    refine ⟨h.2.2, by simp, fun a ha b hb g hg hg' => ?_⟩
    simp only [List.mem_singleton] at hb
    subst hb
    have h1 := (h.lt a ha g hg).2
    have := (hu.lt g hg').1
    omega
/-- v owns the rows ll: the outer row and each inner one. -/
def OwnRows2 (t tl : TypeId) (w : World) (base : Nat) (v : Value) (ll : List (List Int)) : Prop :=
  ∃ vs, w.ownsRow base tl 1 v ll.length vs ∧ Own2 t w base vs ll
theorem OwnRows2.mono (h : OwnRows2 t tl w base v ll) {base' : Nat} (hb : base' ≤ base) : OwnRows2 t tl w base' v ll := by
  obtain ⟨vs, h1, h2⟩ := h
  exact ⟨vs, h1.mono hb, h2.mono hb⟩
theorem OwnRows2.form (h : OwnRows2 t tl w base v ll) : ∃ A c, v = .slice A ll.length c := by
  obtain ⟨vs, h1, _⟩ := h
  rcases h1.2 with ⟨rfl, h0⟩ | ⟨g, cap, cur, rfl, _⟩
  · exact ⟨none, 0, by rw [h0]⟩
  · exact ⟨_, _, rfl⟩
theorem OwnRows2.keep (h : OwnRows2 t tl w base v ll) (hb : Below w.heap.size w w') : OwnRows2 t tl w' base v ll := by
  obtain ⟨vs, h1, h2⟩ := h
  exact ⟨vs, own_keep h1 hb, h2.keep hb⟩
theorem Rows2.of_own (h : OwnRows2 t tl w base v ll) : Rows2 w v ll := by
  obtain ⟨vs, h1, h2⟩ := h
  refine ⟨vs, RowAt.of_own h1, fun i hi => ?_⟩
  have hi' : i < vs.length := by rw [h2.1]; exact hi
  exact ⟨vs[i], List.getElem?_eq_getElem hi', Ints.of_own (h2.2.1 i _ _ (List.getElem?_eq_getElem hi') (List.getElem?_eq_getElem hi))⟩
end
/-- Only blocks from lo on and below hi, and new ones, have turned. -/
structure Fr (lo hi : Nat) (w w' : World) : Prop where
  os : w'.os = w.os
  tape : w'.tape = w.tape
  output : w'.output = w.output
  size : w.heap.size ≤ w'.heap.size
  block : ∀ k, k < w.heap.size → (k < lo ∨ hi ≤ k) → w'.heap[k]? = w.heap[k]?
theorem Fr.refl (lo hi : Nat) (w : World) : Fr lo hi w w := ⟨rfl, rfl, rfl, Nat.le_refl _, fun _ _ _ => rfl⟩
theorem Fr.trans {lo hi : Nat} {a b c : World} (h : Fr lo hi a b) (k : Fr lo hi b c) : Fr lo hi a c :=
  ⟨k.os.trans h.os, k.tape.trans h.tape, k.output.trans h.output, Nat.le_trans h.size k.size, fun i hi' ho => (k.block i (Nat.lt_of_lt_of_le hi' h.size) ho).trans (h.block i hi' ho)⟩
theorem Fr.grown {lo hi : Nat} {a b : World} {row : Option Nat} (h : a.grownBy b row) (hr : ∀ g, row = some g → lo ≤ g ∧ g < hi) : Fr lo hi a b :=
  ⟨h.os, h.tape, h.output, h.size, fun i hi' ho => h.block i hi' (fun e => by have := hr i e.symm; omega)⟩
theorem Fr.setCell {lo hi : Nat} {a b : World} (h : Fr lo hi a b) {p : Addr} (hp : lo ≤ p.block ∧ p.block < hi) (u : Value) : Fr lo hi a (b.setCell p u) :=
  h.trans ⟨rfl, rfl, rfl, by simp [World.setCell], fun k _ ho => Below.heap_setCell _ _ _ _ (by omega)⟩
theorem Fr.below {lo hi : Nat} {a b : World} (h : Below a.heap.size a b) : Fr lo hi a b := ⟨h.os, h.tape, h.output, h.size, fun i hi' _ => h.block i hi'⟩
theorem Fr.toBelow {lo hi : Nat} {a b : World} (h : Fr lo hi a b) (hl : lo ≤ a.heap.size) : Below lo a b := ⟨h.os, h.tape, h.output, h.size, fun i hi' => h.block i (by omega) (.inl hi')⟩
theorem Fr.own {lo hi : Nat} {w w' : World} {base : Nat} {e : TypeId} {size : Nat} {v : Value} {n : Nat} {xs : List Value} (h : Fr lo hi w w') (ho : w.ownsRow base e size v n xs)
    (hv : ∀ g, v.ownBlock = some g → g < lo ∨ hi ≤ g) : w'.ownsRow base e size v n xs := by
  rcases ho.2 with ⟨rfl, rfl⟩ | ⟨g, cap, cur, rfl, hb, hh, r⟩
  · exact ⟨ho.1, .inl ⟨rfl, rfl⟩⟩
  · refine ⟨ho.1, .inr ⟨g, cap, cur, rfl, hb, ?_, r⟩⟩
    rw [h.block g (by
      rcases Nat.lt_or_ge g w.heap.size with h1 | h1
      · exact h1
      · rw [Array.getElem?_eq_none h1] at hh; cases hh) (hv g rfl)]
    exact hh
theorem Fr.own2 {lo hi : Nat} {w w' : World} {base : Nat} {t : TypeId} {vs : List Value} {ll : List (List Int)} (h : Fr lo hi w w') (ho : Own2 t w base vs ll) (hb : hi ≤ base) : Own2 t w' base vs ll :=
  ⟨ho.1, fun j u l hu hl => h.own (ho.2.1 j u l hu hl) (fun g hg => .inr (Nat.le_trans hb ((ho.2.1 j u l hu hl).lt g hg).1)), ho.2.2⟩
theorem Fr.own2' {lo hi : Nat} {w w' : World} {base : Nat} {t : TypeId} {vs : List Value} {ll : List (List Int)} (h : Fr lo hi w w') (ho : Own2 t w base vs ll) (hb : ∀ u ∈ vs, ∀ g, u.ownBlock = some g → g < lo ∨ hi ≤ g) : Own2 t w' base vs ll :=
  ⟨ho.1, fun j u l hu hl => h.own (ho.2.1 j u l hu hl) (fun g hg => hb u (List.mem_of_getElem? hu) g hg), ho.2.2⟩
theorem Fr.ownRows2 {lo hi : Nat} {w w' : World} {base : Nat} {t tl : TypeId} {v : Value} {ll : List (List Int)} (h : Fr lo hi w w') (ho : OwnRows2 t tl w base v ll) (hb : hi ≤ base) : OwnRows2 t tl w' base v ll := by
  obtain ⟨vs, h1, h2⟩ := ho
  exact ⟨vs, h.own h1 (fun g hg => .inr (Nat.le_trans hb (h1.lt g hg).1)), h.own2 h2 hb⟩

/-- Only blocks of S, and new ones, have turned. -/
structure FrS (S : Nat → Prop) (w w' : World) : Prop where
  os : w'.os = w.os
  tape : w'.tape = w.tape
  output : w'.output = w.output
  size : w.heap.size ≤ w'.heap.size
  block : ∀ k, k < w.heap.size → ¬ S k → w'.heap[k]? = w.heap[k]?
theorem FrS.refl (S : Nat → Prop) (w : World) : FrS S w w := ⟨rfl, rfl, rfl, Nat.le_refl _, fun _ _ _ => rfl⟩
theorem FrS.trans {S : Nat → Prop} {a b c : World} (h : FrS S a b) (k : FrS S b c) : FrS S a c :=
  ⟨k.os.trans h.os, k.tape.trans h.tape, k.output.trans h.output, Nat.le_trans h.size k.size, fun i hi' ho => (k.block i (Nat.lt_of_lt_of_le hi' h.size) ho).trans (h.block i hi' ho)⟩
theorem FrS.mono {S T : Nat → Prop} {a b : World} (h : FrS S a b) (hs : ∀ g, S g → T g) : FrS T a b := ⟨h.os, h.tape, h.output, h.size, fun i hi ho => h.block i hi (fun hS => ho (hs i hS))⟩
theorem FrS.grown {S : Nat → Prop} {a b : World} {row : Option Nat} (h : a.grownBy b row) (hr : ∀ g, row = some g → S g) : FrS S a b :=
  ⟨h.os, h.tape, h.output, h.size, fun i hi' ho => h.block i hi' (fun e => ho (hr i e.symm))⟩
theorem FrS.below {S : Nat → Prop} {a b : World} (h : Below a.heap.size a b) : FrS S a b := ⟨h.os, h.tape, h.output, h.size, fun i hi' _ => h.block i hi'⟩
theorem FrS.toBelow {S : Nat → Prop} {a b : World} {B : Nat} (h : FrS S a b) (hB : B ≤ a.heap.size) (hl : ∀ g, S g → B ≤ g) : Below B a b :=
  ⟨h.os, h.tape, h.output, h.size, fun i hi' => h.block i (by omega) (fun hs => by have := hl i hs; omega)⟩
theorem FrS.cell {S : Nat → Prop} {a b : World} (h : FrS S a b) {p : Addr} (hp : p.block < a.heap.size) (hn : ¬ S p.block) : b.cell? p = a.cell? p := World.cell?_of_block (h.block _ hp hn)
theorem FrS.cellAt {S : Nat → Prop} {w w' : World} (h : FrS S w w') {b o : Nat} (hp : b < w.heap.size) (hn : ¬ S b) : w'.cell? ⟨b, o, none⟩ = w.cell? ⟨b, o, none⟩ := h.cell (p := ⟨b, o, none⟩) hp hn
theorem FrS.own {S : Nat → Prop} {w w' : World} {base : Nat} {e : TypeId} {size : Nat} {v : Value} {n : Nat} {xs : List Value} (h : FrS S w w') (ho : w.ownsRow base e size v n xs)
    (hv : ∀ g, v.ownBlock = some g → ¬ S g) : w'.ownsRow base e size v n xs := by
  rcases ho.2 with ⟨rfl, rfl⟩ | ⟨g, cap, cur, rfl, hb, hh, r⟩
  · exact ⟨ho.1, .inl ⟨rfl, rfl⟩⟩
  · refine ⟨ho.1, .inr ⟨g, cap, cur, rfl, hb, ?_, r⟩⟩
    rw [h.block g (by
      rcases Nat.lt_or_ge g w.heap.size with h1 | h1
      · exact h1
      · rw [Array.getElem?_eq_none h1] at hh; cases hh) (hv g rfl)]
    exact hh
/-- the blocks from lo on and below hi -/
def Inn (lo hi g : Nat) : Prop := lo ≤ g ∧ g < hi
/-- the blocks that are new in w' -/
def Iv (w w' : World) (g : Nat) : Prop := w.heap.size ≤ g ∧ g < w'.heap.size

/-- v owns the ints l, in a block of S -/
def OwInts (t : TypeId) (w : World) (S : Nat → Prop) (v : Value) (l : List Int) : Prop := w.ownsRow 0 t 1 v l.length (l.map (Value.int .i64)) ∧ ∀ g, v.ownBlock = some g → S g
/-- v owns the rows ll, in blocks of S -/
def OwRows2 (t tl : TypeId) (w : World) (S : Nat → Prop) (v : Value) (ll : List (List Int)) : Prop :=
  ∃ vs, w.ownsRow 0 tl 1 v ll.length vs ∧ Own2 t w 0 vs ll ∧ (∀ g, v.ownBlock = some g → S g) ∧ ∀ u ∈ vs, ∀ g, u.ownBlock = some g → S g
section
variable {t tl : TypeId} {w w' : World} {S S' : Nat → Prop} {v : Value} {l : List Int} {ll : List (List Int)}
theorem OwInts.keep (h : OwInts t w S v l) (hb : Below w.heap.size w w') : OwInts t w' S v l := ⟨own_keep h.1 hb, h.2⟩
theorem OwInts.fr (h : OwInts t w S v l) (hf : FrS S' w w') (hd : ∀ g, S g → ¬ S' g) : OwInts t w' S v l := ⟨hf.own h.1 (fun g hg => hd g (h.2 g hg)), h.2⟩
theorem OwInts.rd (h : OwInts t w S v l) : Ints w v l := Ints.of_own h.1
theorem OwInts.form (h : OwInts t w S v l) : ∃ A c, v = .slice A l.length c := own_form h.1
theorem OwInts.mono (h : OwInts t w S v l) (hs : ∀ g, S g → S' g) : OwInts t w S' v l := ⟨h.1, fun g hg => hs g (h.2 g hg)⟩
theorem OwRows2.keep (h : OwRows2 t tl w S v ll) (hb : Below w.heap.size w w') : OwRows2 t tl w' S v ll := by
  obtain ⟨vs, h1, h2, h3⟩ := h
  exact ⟨vs, own_keep h1 hb, h2.keep hb, h3⟩
theorem OwRows2.fr (h : OwRows2 t tl w S v ll) (hf : FrS S' w w') (hd : ∀ g, S g → ¬ S' g) : OwRows2 t tl w' S v ll := by
  obtain ⟨vs, h1, h2, h3, h4⟩ := h
  exact ⟨vs, hf.own h1 (fun g hg => hd g (h3 g hg)), ⟨h2.1, fun j u l hu hl => hf.own (h2.2.1 j u l hu hl) (fun g hg => hd g (h4 u (List.mem_of_getElem? hu) g hg)), h2.2.2⟩, h3, h4⟩
theorem OwRows2.rd (h : OwRows2 t tl w S v ll) : Rows2 w v ll := by
  obtain ⟨vs, h1, h2, _⟩ := h
  exact Rows2.of_own ⟨vs, h1, h2⟩
theorem OwRows2.form (h : OwRows2 t tl w S v ll) : ∃ A c, v = .slice A ll.length c := by
  obtain ⟨vs, h1, _⟩ := h
  exact own_form h1
theorem OwRows2.mono (h : OwRows2 t tl w S v ll) (hs : ∀ g, S g → S' g) : OwRows2 t tl w S' v ll := by
  obtain ⟨vs, h1, h2, h3, h4⟩ := h
  exact ⟨vs, h1, h2, fun g hg => hs g (h3 g hg), fun u hu g hg => hs g (h4 u hu g hg)⟩
theorem OwRows2.of_own {base : Nat} (h : OwnRows2 t tl w base v ll) : OwRows2 t tl w (fun g => base ≤ g ∧ g < w.heap.size) v ll := by
  obtain ⟨vs, h1, h2⟩ := h
  exact ⟨vs, h1.mono (by omega), h2.mono (by omega), fun g hg => h1.lt g hg, fun u hu g hg => h2.lt u hu g hg⟩
theorem OwInts.of_own {base : Nat} (h : w.ownsRow base t 1 v l.length (l.map (Value.int .i64))) : OwInts t w (fun g => base ≤ g ∧ g < w.heap.size) v l := ⟨h.mono (by omega), fun g hg => h.lt g hg⟩
end

/-- A call that returns new rows. -/
def RetRows2 (t tl : TypeId) (w : World) (ll : List (List Int)) (e : Ending) (w' : World) : Prop :=
  ∃ v, e = .returned v ∧ OwnRows2 t tl w' w.heap.size v ll ∧ Below w.heap.size w w'

/-- a row that a make has laid, filled up to k -/
theorem own_fill {w : World} {base : Nat} {t : TypeId} {g n k : Nat} {xs : List Value} {u z : Value} (hk : k < n) (hx : xs.length = k)
    (h : w.ownsRow base t 1 (.slice (some ⟨g, 0, none⟩) n n) n (xs ++ List.replicate (n - k) z)) :
    (w.setCell ⟨g, k, none⟩ u).ownsRow base t 1 (.slice (some ⟨g, 0, none⟩) n n) n ((xs ++ [u]) ++ List.replicate (n - (k + 1)) z) := by
  have h1 := (h.stored k u).1
  have e : (xs ++ List.replicate (n - k) z).set k u = (xs ++ [u]) ++ List.replicate (n - (k + 1)) z := by
    rw [List.set_append_right _ _ (by omega), hx, Nat.sub_self]
    obtain ⟨m, hm⟩ : ∃ m, n - k = m + 1 := ⟨n - k - 1, by omega⟩
    rw [hm, List.replicate_succ, List.set_cons_zero, show n - (k + 1) = m by omega]
    simp
  rw [← e]
  exact h1
theorem own_made {w : World} {t : TypeId} {n : Nat} {z : Value} {base : Nat} (hB : base ≤ w.heap.size) (hm : n ≤ maxLen) :
    (w.alloc (.cells (madeCells #[z] n) t)).ownsRow base t 1 (.slice (some ⟨w.heap.size, 0, none⟩) n n) n (List.replicate n z) := by
  refine ⟨by simp, .inr ⟨w.heap.size, n, madeCells #[z] n, rfl, hB, heap_alloc_new w _, Nat.le_refl _, hm, by simp [size_madeCells], ?_⟩⟩
  rw [toList_madeCells_one]; simp

/-! ### append onto a row of the call's own, from a row that reads as 'news' (nil, empty or not) -/
theorem RowAt.drop_at {w : World} {size : Nat} {A : Option Addr} {m c : Nat} {news : List Value} (h : RowAt w size (.slice A m c) m news) :
    news.length = m * size ∧ (A = none → m = 0) ∧ ∀ ad, A = some ad → ∀ j u, news[j]? = some u → w.cell? (ad.add j) = some u := by
  obtain ⟨A', c', he, _, hl, hi⟩ := h
  injection he with h1 _ h2
  subst h1
  refine ⟨hl, fun h0 => ?_, fun ad had j u hu => ?_⟩
  · rcases Nat.eq_zero_or_pos m with hm | hm
    · exact hm
    · obtain ⟨b, off, hb, _⟩ := hi hm
      rw [h0] at hb; cases hb
  · rcases Nat.eq_zero_or_pos m with hm | hm
    · subst hm
      have : news = [] := List.eq_nil_of_length_eq_zero (by simpa using hl)
      subst this
      simp at hu
    · obtain ⟨b, off, hb, hc⟩ := hi hm
      rw [had] at hb
      injection hb with hb
      subst hb
      have := hc j u hu
      unfold Addr.add
      by_cases hj : j = 0
      · subst hj; simpa using this
      · simpa [hj] using this

theorem run_app {P : Program} (w : World) (base : Nat) (t ty e : TypeId) (z : Value) (size bytes : Nat) (ht : P.underlying t = some (.slice e))
    (hinfo : (P.info? e).map (fun i => (i.zero, i.size, i.bytes)) = some (some z, size, bytes)) (hzs : z.cells.size = size) (hsz : 0 < size) (hby : 0 < bytes)
    (v : Value) (n : Nat) (xs : List Value) (hown : w.ownsRow base e size v n xs)
    (vx : Value) (m : Nat) (news : List Value) (hr : RowAt w size vx m news) (h1 : ∀ u ∈ news, u.oneCell' = true)
    (hbytes : (n + m) * bytes ≤ 140737488355328) (hbase : base ≤ w.heap.size) :
    ∃ v' w', (Builtin.append_ #[t, t] ty #[v, vx]).run P w = .ok v' w' ∧ w'.ownsRow base e size v' (n + m) (xs ++ news) ∧ w.grownBy w' v.ownBlock ∧
      (v'.ownBlock = v.ownBlock ∨ v'.ownBlock = some w.heap.size) := by
  obtain ⟨i, hi, hzz⟩ := Option.map_eq_some_iff.1 hinfo
  simp only [Prod.mk.injEq] at hzz
  obtain ⟨hz, hs, hb⟩ := hzz
  have h63 : n + m ≤ maxLen := by
    have : n + m ≤ (n + m) * bytes := Nat.le_mul_of_pos_right _ hby
    unfold maxLen; omega
  have hr' := hr
  obtain ⟨A, c, rfl, _⟩ := hr'
  obtain ⟨hl, hnone, hsome⟩ := hr.drop_at
  cases A with
  | none =>
    have hm := hnone rfl
    subst hm
    have hn : news = [] := List.eq_nil_of_length_eq_zero (by simpa using hl)
    subst hn
    refine ⟨v, w, ?_, by simpa using hown, World.grownBy.refl w _, .inl rfl⟩
    rcases hown.2 with ⟨rfl, rfl⟩ | ⟨g, cap, cur, rfl, _, _, hnc, _⟩
    · simp [Builtin.append_, run_underlying ht, sizeOf, typeInfo, hi, Builtin.lenOf, Builtin.firstCells]
    · simp [Builtin.append_, run_underlying ht, sizeOf, typeInfo, hi, Builtin.lenOf, Builtin.firstCells, hnc, storeCells]
  | some ad =>
    obtain ⟨v', w', hrun, h2, h3, _, h5⟩ := run_append_own_at (P := P) w base t ty e i z size bytes ht hi hz hs hb hzs hsz v n xs hown ad m c news hl (hsome ad rfl) h1 h63 hbytes hbase
    exact ⟨v', w', hrun, h2, h3, h5⟩

theorem wp_app {P : Program} {w : World} {o : Oper} {a : Act} {K : Act → World → Prop} {Q : Exit → Act → World → Prop} (s x : Operand) (t : TypeId)
    (ho : o.op = .call { callee := .builtin .append, args := #[s, x], argTypes := #[t, t] })
    (base : Nat) (e : TypeId) (z : Value) (size bytes : Nat) (ht : P.underlying t = some (.slice e))
    (hinfo : (P.info? e).map (fun i => (i.zero, i.size, i.bytes)) = some (some z, size, bytes)) (hzs : z.cells.size = size) (hsz : 0 < size) (hby : 0 < bytes)
    (v : Value) (n : Nat) (xs : List Value) (hs : a.eval s = v) (hown : w.ownsRow base e size v n xs)
    (vx : Value) (m : Nat) (news : List Value) (hx : a.eval x = vx) (hr : RowAt w size vx m news) (h1 : ∀ u ∈ news, u.oneCell' = true)
    (hbytes : (n + m) * bytes ≤ 140737488355328) (hbase : base ≤ w.heap.size)
    (h : ∀ v' w', w'.ownsRow base e size v' (n + m) (xs ++ news) → w.grownBy w' v.ownBlock → (v'.ownBlock = v.ownBlock ∨ v'.ownBlock = some w.heap.size) → K (a.put o.dst v') w') : o.wp P a w K Q := by
  obtain ⟨v', w', hrun, h2, h3, h4⟩ := run_app (P := P) w base t o.type e z size bytes ht hinfo hzs hsz hby v n xs hown vx m news hr h1 hbytes hbase
  unfold Oper.wp execOp
  simp only [ho, resolve, invoke, builtin, Sem.run_bind, Sem.run_pure, Result.andThen_ok, List.map_toArray, List.map_cons, List.map_nil, hs, hx, hrun]
  exact h v' w' h2 h3 h4

theorem wpList_app {P : Program} {w : World} {ops : Array Oper} {rest : List Oper} {o : Oper} {a : Act} {Q : Exit → Act → World → Prop} (hgd : o.guard = none) (s x : Operand) (t : TypeId)
    (ho : o.op = .call { callee := .builtin .append, args := #[s, x], argTypes := #[t, t] })
    (base : Nat) (e : TypeId) (z : Value) (size bytes : Nat) (ht : P.underlying t = some (.slice e))
    (hinfo : (P.info? e).map (fun i => (i.zero, i.size, i.bytes)) = some (some z, size, bytes)) (hzs : z.cells.size = size) (hsz : 0 < size) (hby : 0 < bytes)
    (v : Value) (n : Nat) (xs : List Value) (hs : a.eval s = v) (hown : w.ownsRow base e size v n xs)
    (vx : Value) (m : Nat) (news : List Value) (hx : a.eval x = vx) (hr : RowAt w size vx m news) (h1 : ∀ u ∈ news, u.oneCell' = true)
    (hbytes : (n + m) * bytes ≤ 140737488355328) (hbase : base ≤ w.heap.size)
    (h : ∀ v' w', w'.ownsRow base e size v' (n + m) (xs ++ news) → w.grownBy w' v.ownBlock → (v'.ownBlock = v.ownBlock ∨ v'.ownBlock = some w.heap.size) → wpList P ops Q rest (a.put o.dst v') w') : wpList P ops Q (o :: rest) a w :=
  wpList_plain hgd fun _ hK => wp_app s x t ho base e z size bytes ht hinfo hzs hsz hby v n xs hs hown vx m news hx hr h1 hbytes hbase fun v' w' h2 h3 h4 => hK _ _ (h v' w' h2 h3 h4)

theorem ints_oneCell (l : List Int) : ∀ u ∈ l.map (Value.int .i64), u.oneCell' = true := by
  intro u hu
  obtain ⟨x, _, rfl⟩ := List.mem_map.1 hu
  rfl
/-- the row of one element that append(s, x) lays first -/
theorem RowAt.one (w : World) (x : Value) (t : TypeId) : RowAt (w.alloc (.cells #[x] t)) 1 (.slice (some ⟨w.heap.size, 0, none⟩) 1 1) 1 [x] := by
  refine ⟨_, _, rfl, by omega, rfl, fun _ => ⟨_, _, rfl, fun j u hu => ?_⟩⟩
  have hj : j = 0 := by
    rcases Nat.eq_zero_or_pos j with h0 | h0
    · exact h0
    · rw [List.getElem?_eq_none (by simp; omega)] at hu; cases hu
  subst hj
  simp only [List.getElem?_cons_zero, Option.some.injEq] at hu
  subst hu
  rw [cell_of_row _ _ _ _ _ _ (heap_alloc_new w _)]
  rfl
/-- the row behind an append lies where it lay, or in a new block -/
def Near (w : World) (v v' : Value) : Prop := ∀ g, v'.ownBlock = some g → v.ownBlock = some g ∨ w.heap.size ≤ g
theorem Near.apart {w : World} {v v' u : Value} (h : Near w v v') (ha : Apart v u) (hu : ∀ g, u.ownBlock = some g → g < w.heap.size) : Apart v' u := by
  intro g hg hg'
  rcases h g hg with h1 | h1
  · exact ha g h1 hg'
  · have := hu g hg'; omega
theorem Apart.far {v u : Value} (ha : Apart v u) : u.ownBlock = none ∨ u.ownBlock ≠ v.ownBlock := by
  cases hu : u.ownBlock with
  | none => exact .inl rfl
  | some g => exact .inr fun e => ha g e.symm hu
theorem grown_alloc (w : World) (o : Obj) (row : Option Nat) : w.grownBy (w.alloc o) row := grown_of_below ((Below.refl _ _).alloc (Nat.le_refl _) _) row

/-- append(s, u): onto a row of the call's own, one element of one cell -/
theorem wpList_app1 {P : Program} {w : World} {ops : Array Oper} {rest : List Oper} {o : Oper} {a : Act} {Q : Exit → Act → World → Prop} (hgd : o.guard = none) (s x : Operand) (t : TypeId)
    (ho : o.op = .call { callee := .builtin .append, args := #[s, x], argTypes := #[t, t] })
    (base : Nat) (e : TypeId) (z : Value) (bytes : Nat) (ht : P.underlying t = some (.slice e))
    (hinfo : (P.info? e).map (fun i => (i.zero, i.size, i.bytes)) = some (some z, 1, bytes)) (hzs : z.cells.size = 1) (hby : 0 < bytes)
    (v : Value) (n : Nat) (xs : List Value) (hs : a.eval s = v) (hown : w.ownsRow base e 1 v n xs)
    (u : Value) (hx : a.eval x = .slice (some ⟨w.heap.size, 0, none⟩) 1 1) (h1 : u.oneCell' = true)
    (hbytes : (n + 1) * bytes ≤ 140737488355328) (hbase : base ≤ w.heap.size)
    (h : ∀ v' w', w'.ownsRow base e 1 v' (n + 1) (xs ++ [u]) → w.grownBy w' v.ownBlock → Near w v v' → wpList P ops Q rest (a.put o.dst v') w') : wpList P ops Q (o :: rest) a (w.alloc (.cells #[u] e)) :=
  wpList_app hgd s x t ho base e z 1 bytes ht hinfo hzs (by omega) hby v n xs hs (hown.alloc _) _ 1 [u] hx (RowAt.one w u e) (by simpa using h1) hbytes (by simp; omega)
    fun v' w' h2 h3 h4 => h v' w' h2 ((grown_alloc w _ _).trans h3) (fun g hg => by
      rcases h4 with h4 | h4
      · exact .inl (by rw [← h4]; exact hg)
      · rw [h4] at hg
        injection hg with hg
        simp at hg
        exact .inr (by omega))
/-- rows of the call's own, one row more -/
theorem own2_push {t tl : TypeId} (hne : t ≠ tl) {w w1 w2 : World} {base : Nat} {v v' u : Value} {vs : List Value} {ll : List (List Int)} {l : List Int}
    (h1 : w.ownsRow base tl 1 v ll.length vs) (h2 : Own2 t w base vs ll) (hb : Below w.heap.size w w1) (hB : base ≤ w.heap.size) (hu : w1.ownsRow w.heap.size t 1 u l.length (l.map (Value.int .i64)))
    (hv : w2.ownsRow base tl 1 v' (ll.length + 1) (vs ++ [u])) (hg : w1.grownBy w2 v.ownBlock) : OwnRows2 t tl w2 base v' (ll ++ [l]) := by
  have h3 := h2.snoc hb hB (Nat.le_refl _) hu
  have h4 := own_keep h1 hb
  refine ⟨vs ++ [u], by rw [List.length_append]; exact hv, h3.1, fun j x y hx hy => ?_, h3.2.2⟩
  have h5 := h3.2.1 j x y hx hy
  refine h5.kept hg ?_
  cases hxb : x.ownBlock with
  | none => exact .inl rfl
  | some g => exact .inr fun e => own_ne h5 h4 hne hxb e.symm
theorem own_oneCell {w : World} {base : Nat} {e : TypeId} {size : Nat} {v : Value} {n : Nat} {xs : List Value} (h : w.ownsRow base e size v n xs) : v.oneCell' = true := by
  obtain ⟨A, c, rfl⟩ := own_form h
  rfl
theorem OwnRows2.nil (t tl : TypeId) (w : World) (base : Nat) : OwnRows2 t tl w base (.slice none 0 0) [] := ⟨[], World.ownsRow_nil _ _ _ _, Own2.nil _ _ _⟩
end Go.Proofs.Ytkmkbpphdalgoaa
