/-
 The rows of a counted relation, of a view and of a watcher: the reference and the program give the same. On the printed functions; conditions: lengths.
-/
import Derived.Test.YtklcofndjkjldaaGreatVnNT1
namespace Go.Proofs.YtklcofndjkjldaaGreat
open Go.RowKit
set_option linter.unusedVariables false
set_option linter.unusedSimpArgs false
def Ts (c : Cnt) : Rln × Bool:=cond (GK c && !AU c.2.2 fun _ n => decide (n < 0)) ((c.1,c.2.1),true) ((0,[]),false)
theorem ee {c : Cnt} (h : GL c) : Eu c = some (Ts c):=by
 unfold Eu Ts AU
 rw [Td h,AE]
 cases GK c with
 | false => rfl
 | true =>
  rw [Bool.not_true,cond_false,Bool.true_and,Lp (fun k => atB c.2.2 k fun n => decide (n < 0)) (((0,[]),false) : Rln × Bool) h.2 (fun k hk rec => by
   unfold Ev
   rw [AF hk,cond_true,Aj hk,AE,AO hk (At h.2),AN hk]) (fun rec => by unfold Ev; rw [Az]; rfl),AE]
  cases (List.range c.2.2.length).any fun k => atB c.2.2 k fun n => decide (n < 0) with
  | true => rfl
  | false => simp only [cond_false,Mk h.1,AE]; rfl
end Go.Proofs.YtklcofndjkjldaaGreat
