/-
 What is drawn for SplitHeavy. On the printed functions; conditions: the code's length.
-/
import Derived.Test.YtceghmdneadhbaaGreatDrWA1
-- pure
namespace Go.Proofs.YtceghmdneadhbaaGreat
open Go.RowKit
set_option linter.unusedVariables false
set_option linter.unusedSimpArgs false
def AnyD (r : Int × List (List Int)) : Prop := -1 <= r.1 ∧ r.1 <= 6 ∧ r.2.length <= 1001 ∧ ∀ x ∈ r.2,x.length <= 10
theorem AnyD.sm {r : Int × List (List Int)} (h : AnyD r) : smRows r.2 := ⟨by have := h.2.2.1; unfold lim; omega,fun x hx => by have := h.2.2.2 x hx; unfold lim; omega⟩
section
variable {c : Cur}
theorem any_ok (h : CurOk c) : Dr (spec_l5Any c) fun r => AnyD r := by
 unfold spec_l5Any
 obtain ⟨a,c1,e1,ha,hc1⟩ := below_ok h (n := 4) (by omega) (by omega)
 rw [e1]
 simp only [obind]
 obtain ⟨r,c2,e2,⟨hr,har⟩,hc2⟩ := rel_okA hc1 (a := a) (m := 6) (v := 4) (by omega) (by omega) (by omega) (by omega) (by omega) (by omega)
 rw [e2]
 simp only
 obtain ⟨w,c3,e3,hw,hc3⟩ := below_ok hc2 (n := 14) (by omega) (by omega)
 rw [e3]
 simp only
 have hrow : ∀ x ∈ r.2,x.length <= 10 := fun x hx => by have := hr.2 x hx; omega
 have hlen := hr.1
 have hb : 0 <= r.1 ∧ r.1 <= 3 := by omega
 have plain : Dr (spec_l5Any_J1 c3.1 c3.2.1 c3.2.2 r.1 r.2) fun r => AnyD r := ⟨_,_,rfl,⟨by simp only; omega,by simp only; omega,by simp only; omega,hrow⟩,hc3⟩
 cases (w == 0) with
 | true =>
  simp only [cond_true]
  rw [wrap_in ⟨by omega,by omega⟩]
  obtain ⟨x,c4,e4,hx,hc4⟩ := pickI_ok hc3 (l := [-1,6,r.1 + 1]) (by simp) (by simp)
  rw [e4]
  have hx' : -1 <= x ∧ x <= 6 := by simp at hx; omega
  exact ⟨_,_,rfl,⟨hx'.1,hx'.2,by simp only; omega,hrow⟩,hc4⟩
 | false =>
  simp only [cond_false]
  cases (w == 1) with
  | true =>
   simp only [cond_true]
   have hn : (if 0 < r.1 then r.1 else 0) <= 3 := by split <;> omega
   obtain ⟨row,c4,e4,hx,hc4⟩ := drow_ok hc3 (n := if 0 < r.1 then r.1 else 0) (m := 4) (by omega) (by omega) (by omega)
   rw [e4]
   simp only
   rw [chk_pos (by unfold lim; simp only [List.length_singleton]; omega)]
   refine ⟨_,_,rfl,⟨by simp only; omega,by simp only; omega,by simp only [List.length_append,List.length_singleton]; omega,fun x hx2 => ?_⟩,hc4⟩
   rcases List.mem_append.1 hx2 with h1 | h1
   ·exact hrow x h1
   ·rw [List.mem_singleton] at h1; subst h1; have := hx.1; omega
  | false =>
   simp only [cond_false]
   cases (w == 2) with
   | false => exact plain
   | true =>
    simp only [cond_true]
    cases hl : decide (0 < (r.2.length : Int)) with
    | false => exact plain
    | true =>
     have hl := of_decide_eq_true hl
     simp only [cond_true]
     cases hp : decide (0 < r.1) with
     | false => exact plain
     | true =>
      have hp := of_decide_eq_true hp
      unfold spec_l5Any_J2
      simp only [cond_true]
      have g0 : geti r.2 0 = some (r.2[0]'(by omega)) := geti_at (k := 0) (by omega)
      have hq := hr.2 _ (List.getElem_mem (by omega : 0 < r.2.length))
      rw [chk_pos (by omega),g0]
      simp only [obind]
      rw [chk_pos (by omega)]
      obtain ⟨x,c4,e4,hx,hc4⟩ := pickI_ok hc3 (l := [-1,100,99]) (by simp) (by simp)
      rw [e4]
      simp only
      have g1 : geti (r.2[0]'(by omega)) 0 = some ((r.2[0]'(by omega))[0]'(by omega)) := geti_at (k := 0) (by omega)
      rw [g1]
      refine ⟨_,_,rfl,⟨by simp only; omega,by simp only; omega,by unfold seti; simp only [List.length_set]; omega,fun y hy => ?_⟩,hc4⟩
      unfold seti at hy
      rcases List.mem_or_eq_of_mem_set hy with h1 | rfl
      ·exact hrow y h1
      ·rw [List.length_set]; omega
end
end Go.Proofs.YtceghmdneadhbaaGreat
