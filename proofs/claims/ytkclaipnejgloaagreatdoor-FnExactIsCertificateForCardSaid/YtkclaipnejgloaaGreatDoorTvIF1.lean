/-
 When a join tree, a decomposition and a plan are valid, part 2: the reference and the program agree. On the printed functions; conditions: lengths.
-/
import Derived.Test.YtkclaipnejgloaaGreatDoorTwIF1
namespace Go.Proofs.YtkclaipnejgloaaGreatDoor
open Go.RowKit
set_option linter.unusedVariables false
set_option linter.unusedSimpArgs false
theorem Ob {q : Qry} (h : Ki q = true) : 1 <= q.1 ∧ q.1 <= 5 ∧ q.2.1.length <= 4 ∧ ∀ a ∈ q.2.1,a.2.length <= 5 ∧ ∀ v ∈ a.2,0 <= v ∧ v < q.1:=by
 have e1:=LZ h
 unfold Ki at h
 simp only [Bool.and_eq_true,Bool.not_eq_true'] at h
 obtain ⟨h1,h2,-,h4,-⟩:=h
 have e2 : 1 <= (q.2.1.length : Int) ∧ (q.2.1.length : Int) <= 4:=by unfold btw at h2; simpa using h2
 refine ⟨e1.1,e1.2,by omega,fun a ha => ?_⟩
 obtain ⟨k,hk,rfl⟩:=List.mem_iff_getElem.1 ha
 have h5:=FE h4 hk
 unfold IB at h5
 simp only [Bool.or_eq_false_iff,Bool.not_eq_false'] at h5
 have e3 : 1 <= ((q.2.1[k]).2.length : Int) ∧ ((q.2.1[k]).2.length : Int) <= 5:=by have:=h5.2.1; unfold btw at this; simpa using this
 refine ⟨by omega,fun v hv => ?_⟩
 obtain ⟨j,hj,rfl⟩:=List.mem_iff_getElem.1 hv
 have h6:=FE h5.2.2 hj
 simp only [Bool.not_eq_false'] at h6
 rw [wrap_in (by omega)] at h6
 unfold btw at h6
 simp only [Bool.and_eq_true,decide_eq_true_eq] at h6
 omega
theorem WD (l : List Int) (v : Int) : decide (EL l v < 0) = !l.contains v:=by
 rw [<- Kv]
 by_cases h : 0 <= EL l v
 ·rw [decide_eq_true h,decide_eq_false (by omega)]; rfl
 ·rw [decide_eq_false h,decide_eq_true (by omega)]; rfl
def eR (n : Int) (e : Int) : Bool := !btw e 0 (IntKind.i64.wrap (n - 1))
def avL (a : Atm) (k : Nat) : List Int:=((List.range k).filter fun (v : Nat) => a.2.contains (v : Int)).map fun (v : Nat) => (v : Int)
theorem aJ (a : Atm) (k : Nat) : avL a (k + 1) = avL a k ++ cond (a.2.contains (k : Int)) [(k : Int)] []:=by
 unfold avL
 rw [List.range_succ,List.filter_append,List.map_append,List.filter_cons,List.filter_nil]
 cases a.2.contains (k : Int) <;> rfl
theorem JL (a : Atm) (k : Nat) : (avL a k).length <= k:=by
 unfold avL
 rw [List.length_map]
 exact Nat.le_trans (List.length_filter_le _ _) (by simp)
theorem jX {a : Atm} (h : a.2.length <= lim) (hcv : ∀ v,AP a v = some (a.2.contains v)) : DK a = some (avL a 5):=by
 unfold DK
 have:=B8 (body:=Ch a) (out:=avL a 5) (fun k => (avL a k,(k : Int))) 5 (fun k hk rec => by
  have hl:=JL a k
  unfold Ch Dz
  simp only
  rw [decide_eq_true (by omega : (k : Int) < 5),hcv,wrap_in (by omega),aJ]
  simp only [cond_true,AB]
  cases a.2.contains (k : Int) with
  | true => rw [cond_true,Ar (by unfold lim; simp; omega)]; rfl
  | false => rw [cond_false,cond_false,List.append_nil]; rfl) (fun rec => by unfold Ch; simp only; rfl) fz (by unfold fz; omega)
 rw [show ((([] : List Int),(0 : Int))) = (avL a 0,((0 : Nat) : Int)) from rfl,this]
 rfl
theorem XQ {α : Type} (f : α -> Bool) {l : List α} {k : Nat} (hk : k < l.length) : (l.take (k + 1)).filter f = (l.take k).filter f ++ cond (f l[k]) [l[k]] []:=by
 rw [List.take_succ_eq_append_getElem hk,List.filter_append,List.filter_cons,List.filter_nil]
 cases f l[k] <;> rfl
theorem be {a : Atm} (h : a.2.length <= lim) (v : Int) : AP a v = some (a.2.contains v):=by
 unfold AP
 simp only [Y4 h,AB]
end Go.Proofs.YtkclaipnejgloaaGreatDoor
