/- The calls' class. No conditions. -/
import Derived.Test.YtdmpnamllcigdaaGreatDoorTb
open Go.RowKit
set_option linter.all false
namespace Go.Proofs.YtdmpnamllcigdaaGreatDoor
class Qe{R:Type}(f:FuncId)(x:Option R)(ss:outParam (List V))(e:outParam (R->V)):Prop where
  s:∀{r:R},x=some r->Bf f ss (e r)
class Xs{S O:Type}(body:(S->Option O)->S->Option O)(H:outParam (S->PL))(ks:outParam zN):Prop
class MH{R:Type}(f:FuncId)(x:Option R)(cs ss:outParam (List V))(c:outParam (R->List V))(e:outParam (R->V)):Prop where
  s:∀{r:R},x=some r->Ob Tryz.prog f cs ss (c r) (e r)
end Go.Proofs.YtdmpnamllcigdaaGreatDoor
