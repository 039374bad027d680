/-
 When a certificate belongs to a database: the reference and the program agree. On the printed functions; conditions: lengths, numbers in range.
-/
import Derived.Test.YtkclaipnejgloaaGreatDoorIcIF1
import Derived.Test.YtkclaipnejgloaaGreatDoorLkIF1
import Derived.Test.YtkclaipnejgloaaGreatDoorSzIF1
namespace Go.Proofs.YtkclaipnejgloaaGreatDoor
open Go.RowKit
set_option linter.unusedVariables false
set_option linter.unusedSimpArgs false
section
variable {d : List Tbl} {q : Qry} {c : Crt}
def eE (d : List Tbl) (q : Qry) (c : Crt) : Bool:=(ljB d q c.1).2.2 && (Ik d q && (icB q c && ((((ljB d q c.1).1.2.length : Int) == c.2.2.2.1) && (((ljB d q c.1).2.1 == c.2.2.2.2) && (ax d q == c.2.2.1)))))
theorem Yy (hf : Ik d q = true) : (ax d q).length <= lim:=by
 obtain ⟨g1,g2,g3⟩:=MH hf
 unfold ax
 rw [List.length_map]; unfold lim; omega
theorem lc (h : Q7 d) (hq : smQ q) (hc : smC c) : Cl d q c = some (eE d q c):=by
 unfold Cl eE
 rw [lg h hq hc.1,AB,Z0 h hq,AB,lb hq hc,AB]
 cases (ljB d q c.1).2.2 with
 | false => rfl
 | true =>
  cases hf : Ik d q with
  | false => rfl
  | true =>
   simp only [cond_true,Bool.true_and]
   cases icB q c with
   | false => rfl
   | true =>
    cases ((ljB d q c.1).1.2.length : Int) == c.2.2.2.1 with
    | false => rfl
    | true =>
     cases (ljB d q c.1).2.1 == c.2.2.2.2 with
     | false => rfl
     | true =>
      simp only [cond_true,Bool.true_and]
      rw [Qa (Yy hf),AB,cmp_eq]
      rfl
theorem kA (h : Q7 d) (hq : smQ q) (hc : smC c) : Ci d q c = some (eE d q c):=by
 unfold Ci eE
 rw [Zb h hq,AB,kC h hq hc.1,AB]
 cases hf : Ik d q with
 | false => cases (ljB d q c.1).2.2 <;> rfl
 | true =>
  cases (ljB d q c.1).2.2 with
  | false => rfl
  | true =>
   simp only [cond_true,Bool.true_and]
   rw [kz hq hc,AB]
   cases icB q c with
   | false => rfl
   | true =>
    rw [cond_true,bo (Yy hf),AB]
    cases ax d q == c.2.2.1 <;> cases ((ljB d q c.1).1.2.length : Int) == c.2.2.2.1 <;> cases (ljB d q c.1).2.1 == c.2.2.2.2 <;> rfl
end
end Go.Proofs.YtkclaipnejgloaaGreatDoor
