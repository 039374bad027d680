/-
 What is drawn for SplitHeavy. On the printed functions; conditions: the code's length.
-/
import Derived.Test.YtklcofndjkjldaaGreatDrNT1
namespace Go.Proofs.YtklcofndjkjldaaGreat
open Go.RowKit
set_option linter.unusedVariables false
set_option linter.unusedSimpArgs false
def cL (r : Int × List (List Int)) : Prop := -1 <= r.1 ∧ r.1 <= 6 ∧ r.2.length <= 1001 ∧ ∀ x ∈ r.2,x.length <= 10
theorem cL.sm {r : Int × List (List Int)} (h : cL r) : A9 r.2:=⟨by have:=h.2.2.1; unfold lim; omega,fun x hx => by have:=h.2.2.2 x hx; unfold lim; omega⟩
section
variable {c : Cur}
theorem any_ok (h : Ec c) : Dr (JA c) fun r => cL r:=by
 unfold JA
 obtain ⟨a,c1,e1,ha,hc1⟩:=ES h (n:=4) (by omega) (by omega)
 rw [e1]
 simp only [Ad]
 obtain ⟨r,c2,e2,⟨hr,har⟩,hc2⟩:=U6 hc1 (a:=a) (m:=6) (v:=4) (by omega) (by omega) (by omega) (by omega) (by omega) (by omega)
 rw [e2]
 simp only
 obtain ⟨w,c3,e3,hw,hc3⟩:=ES hc2 (n:=14) (by omega) (by omega)
 rw [e3]
 simp only
 have hrow : ∀ x ∈ r.2,x.length <= 10:=fun x hx => by have:=hr.2 x hx; omega
 have hlen:=hr.1
 have hb : 0 <= r.1 ∧ r.1 <= 3:=by omega
 have plain : Dr (EG c3.1 c3.2.1 c3.2.2 r.1 r.2) fun r => cL r:=⟨_,_,rfl,⟨by simp only; omega,by simp only; omega,by simp only; omega,hrow⟩,hc3⟩
 cases (w == 0) with
 | true =>
  simp only [cond_true]
  rw [wrap_in ⟨by omega,by omega⟩]
  obtain ⟨x,c4,e4,hx,hc4⟩:=M7 hc3 (l:=[-1,6,r.1 + 1]) (by simp) (by simp)
  rw [e4]
  have hx' : -1 <= x ∧ x <= 6:=by simp at hx; omega
  exact ⟨_,_,rfl,⟨hx'.1,hx'.2,by simp only; omega,hrow⟩,hc4⟩
 | false =>
  simp only [cond_false]
  cases (w == 1) with
  | true =>
   simp only [cond_true]
   have hn : (if 0 < r.1 then r.1 else 0) <= 3:=by split <;> omega
   obtain ⟨row,c4,e4,hx,hc4⟩:=T2 hc3 (n:=if 0 < r.1 then r.1 else 0) (m:=4) (by omega) (by omega) (by omega)
   rw [e4]
   simp only
   rw [Ak (by unfold lim; simp only [List.length_singleton]; omega)]
   refine ⟨_,_,rfl,⟨by simp only; omega,by simp only; omega,by simp only [List.length_append,List.length_singleton]; omega,fun x hx2 => ?_⟩,hc4⟩
   rcases List.mem_append.1 hx2 with h1 | h1
   ·exact hrow x h1
   ·rw [List.mem_singleton] at h1; subst h1; have:=hx.1; omega
  | false =>
   simp only [cond_false]
   cases (w == 2) with
   | false => exact plain
   | true =>
    simp only [cond_true]
    cases hl : decide (0 < (r.2.length : Int)) with
    | false => exact plain
    | true =>
     have hl:=of_decide_eq_true hl
     simp only [cond_true]
     cases hp : decide (0 < r.1) with
     | false => exact plain
     | true =>
      have hp:=of_decide_eq_true hp
      unfold HF
      simp only [cond_true]
      have g0 : AK r.2 0 = some (r.2[0]'(by omega)):=Aj (k:=0) (by omega)
      have hq:=hr.2 _ (List.getElem_mem (by omega : 0 < r.2.length))
      rw [Ak (by omega),g0]
      simp only [Ad]
      rw [Ak (by omega)]
      obtain ⟨x,c4,e4,hx,hc4⟩:=M7 hc3 (l:=[-1,100,99]) (by simp) (by simp)
      rw [e4]
      simp only
      have g1 : AK (r.2[0]'(by omega)) 0 = some ((r.2[0]'(by omega))[0]'(by omega)):=Aj (k:=0) (by omega)
      rw [g1]
      refine ⟨_,_,rfl,⟨by simp only; omega,by simp only; omega,by unfold It; simp only [List.length_set]; omega,fun y hy => ?_⟩,hc4⟩
      unfold It at hy
      rcases List.mem_or_eq_of_mem_set hy with h1 | rfl
      ·exact hrow y h1
      ·rw [List.length_set]; omega
end
end Go.Proofs.YtklcofndjkjldaaGreat
