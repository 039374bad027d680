/-
 What is drawn: databases and queries that may fail, orders. On the printed functions; conditions: the code's length.
-/
import Derived.Test.YtlknpohjnpnodaaGreatDsSC1
import Derived.Test.YtlknpohjnpnodaaGreatDqSC1
import Derived.Test.YtlknpohjnpnodaaGreatTtSC1
namespace Go.Proofs.YtlknpohjnpnodaaGreat
open Go.RowKit
set_option linter.unusedVariables false
set_option linter.unusedSimpArgs false
def TP (d : List Tbl) : Prop := d.length <= 6 ∧ ∀ t ∈ d, t.1.length <= 10 ∧ Bk t.2.2
theorem TP.sm {d : List Tbl} (h : TP d) : Kb d := ⟨by have := h.1; unfold lim; omega, fun t ht => ⟨by have := (h.2 t ht).1; unfold lim; omega, (h.2 t ht).2⟩⟩
theorem DbD.any {d : List Tbl} (h : DbD d) : TP d := ⟨by have := h.1; omega, fun t ht => by
 obtain ⟨h1, k, h2, h3, h4⟩ := h.2 t ht
 exact ⟨h1, Nx h4 h3⟩⟩
section
variable {c : Cur}
theorem YE (h : Fd c) : Dr (JM c) fun d => TP d := by
 unfold JM
 obtain ⟨d, c1, e1, ⟨hl, hd⟩, hc1⟩ := aS h
 have ha := hd.any
 rw [e1]
 simp only [Ad]
 obtain ⟨k, c2, e2, hk, hc2⟩ := Dw hc1 (n := 5) (by omega) (by omega)
 rw [e2]
 simp only
 obtain ⟨w, c3, e3, _, hc3⟩ := Dw hc2 (n := 14) (by omega) (by omega)
 rw [e3]
 simp only
 have hg : AA d k = some (d[k.toNat]'(by omega)) := by unfold AA; rw [if_pos hk.1, List.getElem?_eq_getElem]
 have hm := ha.2 _ (List.getElem_mem (by omega : k.toNat < d.length))
 have hset : ∀ t : Tbl, t.1.length <= 10 -> Bk t.2.2 -> TP (It d k t) := fun t h1 h2 => by
  refine ⟨by unfold It; rw [List.length_set]; exact ha.1, fun x hx => ?_⟩
  unfold It at hx
  rcases List.mem_or_eq_of_mem_set hx with h3 | rfl
  ·exact ha.2 x h3
  ·exact ⟨h1, h2⟩
 cases (w == 0) with
 | true =>
  simp only [cond_true]
  rw [Am (by omega)]
  obtain ⟨s, c4, e4, hs, hc4⟩ := RM hc3 (l := [[], [82], [97, 98, 99, 100, 101], [97], [122]]) (by simp) (by simp)
  have hs' : s.length <= 10 := by simp at hs; rcases hs with rfl | rfl | rfl | rfl | rfl <;> simp
  rw [e4]
  simp only [hg]
  exact ⟨_, _, rfl, hset _ hs' hm.2, hc4⟩
 | false =>
  simp only [cond_false]
  cases (w == 1) with
  | true =>
   simp only [cond_true]
   rw [Am (by omega)]
   obtain ⟨r, c4, e4, hr, hc4⟩ := any_ok hc3
   rw [e4]
   simp only [hg]
   exact ⟨_, _, rfl, hset _ hm.1 hr.sm, hc4⟩
  | false =>
   simp only [cond_false]
   cases (w == 2) with
   | true =>
    simp only [cond_true, hg]
    rw [Am (by omega), Am (by unfold lim; simp only [List.length_singleton]; omega)]
    refine ⟨_, _, rfl, ⟨by simp only [List.length_append, List.length_singleton]; omega, fun x hx => ?_⟩, hc3⟩
    rcases List.mem_append.1 hx with h3 | h3
    ·exact ha.2 x h3
    ·rw [List.mem_singleton] at h3; subst h3; exact hm
   | false =>
    simp only [cond_false]
    cases (w == 3) with
    | true =>
     simp only [cond_true]
     rw [Am (by omega)]
     refine ⟨_, _, rfl, ⟨?_, fun x hx => ?_⟩, hc3⟩
     ·unfold A7
      rw [List.length_drop, List.length_take]; omega
     ·unfold A7 at hx
      exact ha.2 x (List.mem_of_mem_take (List.mem_of_mem_drop hx))
    | false => exact ⟨_, _, rfl, ha, hc3⟩
end
end Go.Proofs.YtlknpohjnpnodaaGreat
