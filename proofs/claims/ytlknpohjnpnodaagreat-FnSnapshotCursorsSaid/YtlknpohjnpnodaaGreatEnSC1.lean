/-
 EqualNotifiers: databases, queries, counted relations and notifiers compared; the reference and the program give the same. On the printed functions; conditions: lengths.
-/
import Derived.Test.YtlknpohjnpnodaaGreatFhSC1
namespace Go.Proofs.YtlknpohjnpnodaaGreat
open Go.RowKit
set_option linter.unusedVariables false
set_option linter.unusedSimpArgs false
theorem aP (a b : List Int) : (Ej a b != 0) = !(a == b) := by rw [bne, cmp_eq]
def TH {α β : Type} (f : α -> β -> Bool) (a : List α) (b : List β) : Bool := ((a.length : Int) == (b.length : Int)) && !AI a fun k x => !atB b k (f x)
theorem bK (m n : Nat) : ((m : Int) != (n : Int)) = !((m : Int) == (n : Int)) := rfl
def VA (a b : List (List Int)) : Bool := TH (fun x y => x == y) a b
def RP (a b : Int × List (List Int)) : Bool := (a.1 == b.1) && VA a.2 b.2
theorem UQ {m n : Nat} (h : ((m : Int) == (n : Int)) = true) : m = n := by have h := eq_of_beq h; omega
theorem ZX {a b : Int × List (List Int)} (h : Bk a.2) : Ey a b = some (RP a b) := by
 unfold Ey RP VA TH AI
 rw [bK, bne]
 cases a.1 == b.1 with
 | false => rfl
 | true =>
  cases hl : ((a.2.length : Int) == (b.2.length : Int)) with
  | false => rfl
  | true =>
   have hn := UQ hl
   simp only [Bool.not_true, cond_false, Bool.true_and]
   rw [Cx (fun k => atB a.2 k fun x => !atB b.2 k fun y => x == y) h.1 (fun k hk rec => by
    have hk' : k < b.2.length := by omega
    unfold EM
    rw [AC hk, Ak hk, Ak hk', AH hk (Ax h.1), AY hk, AY hk']
    simp only [cond_true, Ad, Ma (h.2 _ (List.getElem_mem hk)), aP]) (fun rec => by unfold EM; rw [Ay]; rfl)]
   cases (List.range a.2.length).any fun k => atB a.2 k fun x => !atB b.2 k fun y => x == y <;> rfl
def fu (a b : List Tbl) : Bool := TH (fun x y => (x.1 == y.1) && RP x.2 y.2) a b
theorem el {a b : List Tbl} (h : Kb a) : Ew a b = some (fu a b) := by
 unfold Ew fu TH AI
 rw [bK]
 cases hl : ((a.length : Int) == (b.length : Int)) with
 | false => rfl
 | true =>
  have hn := UQ hl
  simp only [Bool.not_true, cond_false, Bool.true_and]
  rw [Cx (fun k => atB a k fun x => !atB b k fun y => (x.1 == y.1) && RP x.2 y.2) h.1 (fun k hk rec => by
   have hk' : k < b.length := by omega
   unfold EL
   rw [AC hk, Ak hk, Ak hk', AH hk (Ax h.1), AY hk, AY hk']
   simp only [cond_true, Ad, ZX (h.2 _ (List.getElem_mem hk)).2]
   cases a[k].1 == b[k].1 <;> rfl) (fun rec => by unfold EL; rw [Ay]; rfl)]
  cases (List.range a.length).any fun k => atB a k fun x => !atB b k fun y => (x.1 == y.1) && RP x.2 y.2 <;> rfl
end Go.Proofs.YtlknpohjnpnodaaGreat
