/-
 When a join tree, a decomposition and a plan are valid, part 2: the reference and the program agree. On the printed functions; conditions: lengths.
-/
import Derived.Test.YtpcbnmcfplioeaaGreatTwNC1
namespace Go.Proofs.YtpcbnmcfplioeaaGreat
open Go.RowKit
set_option linter.unusedVariables false
set_option linter.unusedSimpArgs false
def ls (n : Int) (e : Int) : Bool := !btw e 0 (IntKind.i64.wrap (n - 1))
def avL (a : Atm) (k : Nat) : List Int:=((List.range k).filter fun (v : Nat) => a.2.contains (v : Int)).map fun (v : Nat) => (v : Int)
theorem mc (a : Atm) (k : Nat) : avL a (k + 1) = avL a k ++ cond (a.2.contains (k : Int)) [(k : Int)] []:=by
 unfold avL
 rw [List.range_succ,List.filter_append,List.map_append,List.filter_cons,List.filter_nil]
 cases a.2.contains (k : Int) <;> rfl
theorem PF (a : Atm) (k : Nat) : (avL a k).length <= k:=by
 unfold avL
 rw [List.length_map]
 exact Nat.le_trans (List.length_filter_le _ _) (by simp)
theorem oV {a : Atm} (h : a.2.length <= lim) (hcv : ∀ v,B5 a v = some (a.2.contains v)) : Do a = some (avL a 5):=by
 unfold Do
 have:=DN (body:=B4 a) (out:=avL a 5) (fun k => (avL a k,(k : Int))) 5 (fun k hk rec => by
  have hl:=PF a k
  unfold B4 De
  simp only
  rw [decide_eq_true (by omega : (k : Int) < 5),hcv,wrap_in (by omega),mc]
  simp only [cond_true,AR]
  cases a.2.contains (k : Int) with
  | true => rw [cond_true,Ap (by unfold lim; simp; omega)]; rfl
  | false => rw [cond_false,cond_false,List.append_nil]; rfl) (fun rec => by unfold B4; simp only; rfl) fz (by unfold fz; omega)
 rw [show ((([] : List Int),(0 : Int))) = (avL a 0,((0 : Nat) : Int)) from rfl,this]
 rfl
theorem gz {α : Type} (f : α -> Bool) {l : List α} {k : Nat} (hk : k < l.length) : (l.take (k + 1)).filter f = (l.take k).filter f ++ cond (f l[k]) [l[k]] []:=by
 rw [List.take_succ_eq_append_getElem hk,List.filter_append,List.filter_cons,List.filter_nil]
 cases f l[k] <;> rfl
theorem oW {a : Atm} (h : a.2.length <= lim) (v : Int) : B5 a v = some (a.2.contains v):=by
 unfold B5
 simp only [gL h,AR]
end Go.Proofs.YtpcbnmcfplioeaaGreat
