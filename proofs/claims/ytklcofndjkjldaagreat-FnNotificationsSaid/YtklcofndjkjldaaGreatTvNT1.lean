/-
 When a join tree, a decomposition and a plan are valid, part 2: the reference and the program agree. On the printed functions; conditions: lengths.
-/
import Derived.Test.YtklcofndjkjldaaGreatTwNT1
namespace Go.Proofs.YtklcofndjkjldaaGreat
open Go.RowKit
set_option linter.unusedVariables false
set_option linter.unusedSimpArgs false
def cU (n : Int) (e : Int) : Bool := !btw e 0 (IntKind.i64.wrap (n - 1))
def avL (a : Atm) (k : Nat) : List Int:=((List.range k).filter fun (v : Nat) => a.2.contains (v : Int)).map fun (v : Nat) => (v : Int)
theorem dE (a : Atm) (k : Nat) : avL a (k + 1) = avL a k ++ cond (a.2.contains (k : Int)) [(k : Int)] []:=by
 unfold avL
 rw [List.range_succ,List.filter_append,List.map_append,List.filter_cons,List.filter_nil]
 cases a.2.contains (k : Int) <;> rfl
theorem Nq (a : Atm) (k : Nat) : (avL a k).length <= k:=by
 unfold avL
 rw [List.length_map]
 exact Nat.le_trans (List.length_filter_le _ _) (by simp)
theorem gZ {a : Atm} (h : a.2.length <= lim) (hcv : ∀ v,Ca a v = some (a.2.contains v)) : Db a = some (avL a 5):=by
 unfold Db
 have:=Ed (body:=B9 a) (out:=avL a 5) (fun k => (avL a k,(k : Int))) 5 (fun k hk rec => by
  have hl:=Nq a k
  unfold B9 C1
  simp only
  rw [decide_eq_true (by omega : (k : Int) < 5),hcv,wrap_in (by omega),dE]
  simp only [cond_true,AE]
  cases a.2.contains (k : Int) with
  | true => rw [cond_true,Ak (by unfold lim; simp; omega)]; rfl
  | false => rw [cond_false,cond_false,List.append_nil]; rfl) (fun rec => by unfold B9; simp only; rfl) fz (by unfold fz; omega)
 rw [show ((([] : List Int),(0 : Int))) = (avL a 0,((0 : Nat) : Int)) from rfl,this]
 rfl
theorem ae {α : Type} (f : α -> Bool) {l : List α} {k : Nat} (hk : k < l.length) : (l.take (k + 1)).filter f = (l.take k).filter f ++ cond (f l[k]) [l[k]] []:=by
 rw [List.take_succ_eq_append_getElem hk,List.filter_append,List.filter_cons,List.filter_nil]
 cases f l[k] <;> rfl
theorem hH {a : Atm} (h : a.2.length <= lim) (v : Int) : Ca a v = some (a.2.contains v):=by
 unfold Ca
 simp only [aq h,AE]
end Go.Proofs.YtklcofndjkjldaaGreat
