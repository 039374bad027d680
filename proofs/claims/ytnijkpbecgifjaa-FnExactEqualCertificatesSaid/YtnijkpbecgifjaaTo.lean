/-
  Words for the functions that copy a struct field by field: a box, the result and the copy, three blocks in a row, and what stands in them. Over no program: definitions and plain lemmas; no conditions.
-/
import Derived.Test.YtnijkpbecgifjaaOwn
namespace Go.Proofs.Ytnijkpbecgifjaa
open Go.RowKit

theorem FrS.setCell {S : Nat → Prop} {a b : World} (h : FrS S a b) {p : Addr} (hp : S p.block) (u : Value) : FrS S a (b.setCell p u) :=
  h.trans ⟨rfl, rfl, rfl, by simp [World.setCell], fun k _ ho => Below.heap_setCell _ _ _ _ (by intro e; exact ho (e ▸ hp))⟩

/-- the copy's block and the result's block -/
def Mid (w : World) (g : Nat) : Prop := g = w.heap.size + 1 ∨ g = w.heap.size + 1 + 1
/-- The three blocks behind w: the box of the argument, the result, the copy. -/
structure Toing (w wi : World) (a b c : Array Value) : Prop where
  size : w.heap.size + 3 ≤ wi.heap.size
  box : ∀ j, wi.cell? ⟨w.heap.size, j, none⟩ = a[j]?
  res : ∀ j, wi.cell? ⟨w.heap.size + 1, j, none⟩ = b[j]?
  out : ∀ j, wi.cell? ⟨w.heap.size + 1 + 1, j, none⟩ = c[j]?
  fres : ∀ j, wi.frozen? ⟨w.heap.size + 1, j, none⟩ = false
  fout : ∀ j, wi.frozen? ⟨w.heap.size + 1 + 1, j, none⟩ = false
  below : Below w.heap.size w wi
theorem Toing.made (w : World) (a b c : Array Value) (ta tb tc : TypeId) : Toing w (((w.alloc (.cells a ta)).alloc (.cells b tb)).alloc (.cells c tc)) a b c := by
  have h2 := below1 ((w.alloc (.cells a ta)).alloc (.cells b tb)) (.cells c tc)
  have h1 := below1 (w.alloc (.cells a ta)) (.cells b tb)
  refine ⟨by simp, fun j => ?_, fun j => ?_, fun j => ?_, fun j => ?_, fun j => ?_, below3 _ _ _ _⟩
  · exact (h2.cell (p := ⟨w.heap.size, j, none⟩) (by simp; omega)).trans ((h1.cell (p := ⟨w.heap.size, j, none⟩) (by simp)).trans (cell_new _ _ _ _))
  · exact (h2.cell (p := ⟨w.heap.size + 1, j, none⟩) (by simp)).trans (cell_at _ _ _ _ (by simp))
  · exact cell_at _ _ _ _ (by simp)
  · exact (h2.frozen (p := ⟨w.heap.size + 1, j, none⟩) (by simp)).trans (frozen_of_row _ _ _ _ _ (by have := heap_alloc_new (w.alloc (.cells a ta)) (.cells b tb); simpa using this))
  · exact frozen_of_row _ _ _ _ _ (by have := heap_alloc_new ((w.alloc (.cells a ta)).alloc (.cells b tb)) (.cells c tc); simpa using this)
theorem Toing.call {w wi wj : World} {a b c : Array Value} (h : Toing w wi a b c) (hb : Below wi.heap.size wi wj) : Toing w wj a b c := by
  have hz := h.size
  refine ⟨Nat.le_trans hz hb.size, fun j => ?_, fun j => ?_, fun j => ?_, fun j => ?_, fun j => ?_, h.below.trans (hb.mono (by omega))⟩
  · exact (hb.cell (p := ⟨w.heap.size, j, none⟩) (show w.heap.size < _ by omega)).trans (h.box j)
  · exact (hb.cell (p := ⟨w.heap.size + 1, j, none⟩) (show w.heap.size + 1 < _ by omega)).trans (h.res j)
  · exact (hb.cell (p := ⟨w.heap.size + 1 + 1, j, none⟩) (show w.heap.size + 1 + 1 < _ by omega)).trans (h.out j)
  · exact (hb.frozen (p := ⟨w.heap.size + 1, j, none⟩) (show w.heap.size + 1 < _ by omega)).trans (h.fres j)
  · exact (hb.frozen (p := ⟨w.heap.size + 1 + 1, j, none⟩) (show w.heap.size + 1 + 1 < _ by omega)).trans (h.fout j)
theorem Toing.put {w wi : World} {a b c c' : Array Value} (h : Toing w wi a b c) (i : Nat) (v : Value) (hi : i < c.size) (hc : c.set i v hi = c') : Toing w (wi.setCell ⟨w.heap.size + 1 + 1, i, none⟩ v) a b c' := by
  have hz := h.size
  subst hc
  refine ⟨by simpa [World.setCell] using hz, fun j => ?_, fun j => ?_, fun j => ?_, fun j => ?_, fun j => ?_, h.below.setCell (by simp; omega) _⟩
  · rw [← h.box j]; simp [go_sem]
  · rw [← h.res j]; simp [go_sem]
  · have h1 := h.out j
    have h2 := h.out i
    rw [Array.getElem?_eq_getElem hi] at h2
    rw [Array.getElem?_set]
    by_cases e : i = j
    · subst e
      rw [if_pos rfl, World.cell?_setCell_same' _ _ _ (by rw [h2]; rfl)]
    · rw [if_neg e, World.cell?_setCell_other (h := by intro q; injection q with _ q; exact e q), h1]
  · rw [← h.fres j]; simp [go_sem]
  · rw [← h.fout j]; simp [go_sem]
/-- what a store into the copy and a call behind it leave of other memory -/
theorem Toing.frame {w wi wj : World} {i : Nat} {v : Value} (hb : Below (wi.setCell ⟨w.heap.size + 1 + 1, i, none⟩ v).heap.size (wi.setCell ⟨w.heap.size + 1 + 1, i, none⟩ v) wj) : FrS (Mid w) wi wj :=
  ((FrS.refl _ _).setCell (p := ⟨w.heap.size + 1 + 1, i, none⟩) (.inr rfl) v).trans (FrS.below hb)
end Go.Proofs.Ytnijkpbecgifjaa
