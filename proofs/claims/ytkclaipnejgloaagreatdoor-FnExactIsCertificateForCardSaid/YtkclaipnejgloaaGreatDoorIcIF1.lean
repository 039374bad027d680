/-
 When a certificate is valid: the reference and the program agree. On the printed functions; conditions: lengths, numbers in range.
-/
import Derived.Test.YtkclaipnejgloaaGreatDoorCtIF1
import Derived.Test.YtkclaipnejgloaaGreatDoorTvIF1
namespace Go.Proofs.YtkclaipnejgloaaGreatDoor
open Go.RowKit
set_option linter.unusedVariables false
set_option linter.unusedSimpArgs false
abbrev Crt:=List Int × List Rt × List Int × Int × Int
def smC (c : Crt) : Prop:=c.1.length <= lim ∧ c.2.1.length <= lim ∧ c.2.2.1.length <= lim ∧ (∀ e ∈ c.2.2.1,e <= 9223372036854775807) ∧ c.2.2.2.1 <= 9223372036854775807 ∧ c.2.2.2.2 <= 9223372036854775807
def icB (q : Qry) (c : Crt) : Bool:=Ph q c.1 && (NB q c.2.1 && (((c.2.2.1.length : Int) == (q.2.1.length : Int)) && (!Ay c.2.2.1 (fun _ e => !btw e 0 16) && (wpB c.2.2.1 c.2.1 c.2.2.2.1 1 && (Ki q && wpB c.2.2.1 c.2.1 c.2.2.2.2 (skB q))))))
theorem lb {q : Qry} {c : Crt} (hq : smQ q) (hc : smC c) : CB q c = some (icB q c):=by
 obtain ⟨h1,h2,h3,h4,h5,h6⟩:=hc
 unfold CB icB
 rw [VN hq h1,AB]
 cases Ph q c.1 with
 | false => rfl
 | true =>
  rw [Bool.not_true,cond_false,Xf hq h2 (fun a ha v => dG ha v),AB]
  cases NB q c.2.1 with
  | false => rfl
  | true =>
   rw [Bool.not_true,cond_false,bne]
   cases ((c.2.2.1.length : Int) == (q.2.1.length : Int)) with
   | false => rfl
   | true =>
    rw [Bool.not_true,cond_false,Bh (fun k => atB c.2.2.1 k fun e => !btw e 0 16) h3 (fun k hk rec => by
     unfold C0
     rw [Az hk,cond_true,Ai hk,AB,H4,AB,AF hk (Au h3),AN hk]) (fun rec => by unfold C0; rw [Ax,cond_false]),AB]
    have e : ((List.range c.2.2.1.length).any fun k => atB c.2.2.1 k fun e => !btw e 0 16) = Ay c.2.2.1 fun _ e => !btw e 0 16:=rfl
    rw [e]
    cases Ay c.2.2.1 fun _ e => !btw e 0 16 with
    | true => rfl
    | false =>
     simp only [cond_false]
     rw [jB h3 h4 h2 h5,AB]
     cases wpB c.2.2.1 c.2.1 c.2.2.2.1 1 with
     | false => rfl
     | true => rw [cond_true,jJ hq h3 h4 h2 h6,AB]; rfl
theorem kz {q : Qry} {c : Crt} (hq : smQ q) (hc : smC c) : Cu q c = some (icB q c):=by
 obtain ⟨h1,h2,h3,h4,h5,h6⟩:=hc
 unfold Cu icB
 rw [UR hq h1,AB]
 cases Ph q c.1 with
 | false => rfl
 | true =>
  rw [Bool.not_true,cond_false,WF hq h2 (fun a ha v => be ha v),AB]
  cases NB q c.2.1 with
  | false => rfl
  | true =>
   rw [Bool.not_true,cond_false,bne]
   cases ((c.2.2.1.length : Int) == (q.2.1.length : Int)) with
   | false => rfl
   | true =>
    rw [Bool.not_true,cond_false,Bh (fun k => atB c.2.2.1 k fun e => !btw e 0 16) h3 (fun k hk rec => by
     unfold CY
     rw [Az hk,cond_true,Ai hk,AB,Fb,AB,AF hk (Au h3),AN hk]) (fun rec => by unfold CY; rw [Ax,cond_false]),AB]
    have e : ((List.range c.2.2.1.length).any fun k => atB c.2.2.1 k fun e => !btw e 0 16) = Ay c.2.2.1 fun _ e => !btw e 0 16:=rfl
    rw [e]
    cases Ay c.2.2.1 fun _ e => !btw e 0 16 with
    | true => rfl
    | false =>
     simp only [cond_false]
     rw [gj h3 h4 h2 h5,AB]
     cases wpB c.2.2.1 c.2.1 c.2.2.2.1 1 with
     | false => rfl
     | true => rw [cond_true,go hq h3 h4 h2 h6,AB]; rfl
end Go.Proofs.YtkclaipnejgloaaGreatDoor
