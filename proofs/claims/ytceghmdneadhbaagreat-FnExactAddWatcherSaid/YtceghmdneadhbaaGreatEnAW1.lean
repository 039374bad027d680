/-
 EqualNotifiers: databases, queries, counted relations and notifiers compared; the reference and the program give the same. On the printed functions; conditions: lengths.
-/
import Derived.Test.YtceghmdneadhbaaGreatFhAW1
-- pure
namespace Go.Proofs.YtceghmdneadhbaaGreat
open Go.RowKit
set_option linter.unusedVariables false
set_option linter.unusedSimpArgs false
theorem cmp_ne (a b : List Int) : (cmpB a b != 0) = !(a == b) := by rw [bne, cmp_eq]
/-- lists compared one by one -/
def sameL {α β : Type} (f : α -> β -> Bool) (a : List α) (b : List β) : Bool := ((a.length : Int) == (b.length : Int)) && !badAny a fun k x => !atB b k (f x)
theorem lenNe (m n : Nat) : ((m : Int) != (n : Int)) = !((m : Int) == (n : Int)) := rfl
def rowsEq (a b : List (List Int)) : Bool := sameL (fun x y => x == y) a b
def relEq (a b : Int × List (List Int)) : Bool := (a.1 == b.1) && rowsEq a.2 b.2
theorem len_nat {m n : Nat} (h : ((m : Int) == (n : Int)) = true) : m = n := by have h := eq_of_beq h; omega
theorem s_relEq {a b : Int × List (List Int)} (h : smRows a.2) : spec_EqualRelations a b = some (relEq a b) := by
 unfold spec_EqualRelations relEq rowsEq sameL badAny
 rw [lenNe, bne]
 cases a.1 == b.1 with
 | false => rfl
 | true =>
  cases hl : ((a.2.length : Int) == (b.2.length : Int)) with
  | false => rfl
  | true =>
   have hn := len_nat hl
   simp only [Bool.not_true, cond_false, Bool.true_and]
   rw [all_loop (fun k => atB a.2 k fun x => !atB b.2 k fun y => x == y) h.1 (fun k hk rec => by
    have hk' : k < b.2.length := by omega
    unfold spec_EqualRelations_B1
    rw [lt_dec hk, geti_at hk, geti_at hk', wrap_s hk (lim_max h.1), atB_lt hk, atB_lt hk']
    simp only [cond_true, obind, s_cmp (h.2 _ (List.getElem_mem hk)), cmp_ne]) (fun rec => by unfold spec_EqualRelations_B1; rw [nlt_dec]; rfl)]
   cases (List.range a.2.length).any fun k => atB a.2 k fun x => !atB b.2 k fun y => x == y <;> rfl
theorem i_rowsEq {a b : List (List Int)} (h : smRows a) : impl_sameRows a b = some (rowsEq a b) := by
 unfold impl_sameRows rowsEq sameL badAny
 rw [lenNe]
 cases hl : ((a.length : Int) == (b.length : Int)) with
 | false => rfl
 | true =>
  have hn := len_nat hl
  simp only [Bool.not_true, cond_false, Bool.true_and]
  rw [all_loop (fun k => atB a k fun x => !atB b k fun y => x == y) h.1 (fun k hk rec => by
   have hk' : k < b.length := by omega
   unfold impl_sameRows_B1
   rw [lt_dec hk, geti_at hk, geti_at hk', wrap_s hk (lim_max h.1), atB_lt hk, atB_lt hk']
   simp only [cond_true, obind, i_same (h.2 _ (List.getElem_mem hk))]) (fun rec => by unfold impl_sameRows_B1; rw [nlt_dec]; rfl)]
  cases (List.range a.length).any fun k => atB a k fun x => !atB b k fun y => x == y <;> rfl
abbrev AtmE := List UInt8 × List Int
abbrev QryE := Int × List AtmE × List Int
abbrev Cnt := Int × List (List Int) × List Int
def smCnt (c : Cnt) : Prop := smRows c.2.1 ∧ c.2.2.length <= lim
def cntEq (a b : Cnt) : Bool := (a.1 == b.1) && (rowsEq a.2.1 b.2.1 && (a.2.2 == b.2.2))
theorem s_cntEq {a b : Cnt} (h : smCnt a) : spec_EqualCounted a b = some (cntEq a b) := by
 unfold spec_EqualCounted spec_EqualCounted_J1 cntEq
 simp only [s_relEq (a := (0, a.2.1)) (b := (0, b.2.1)) h.1, s_cmp h.2, obind, relEq, cmp_eq]
 cases a.1 == b.1 <;> cases rowsEq a.2.1 b.2.1 <;> rfl
theorem i_cntEq {a b : Cnt} (h : smCnt a) : impl_EqualCounted a b = some (cntEq a b) := by
 unfold impl_EqualCounted impl_EqualCounted_J1 cntEq
 simp only [i_rowsEq h.1, i_same h.2, obind]
 cases a.1 == b.1 <;> cases rowsEq a.2.1 b.2.1 <;> rfl
abbrev Vw := QryE × Cnt
abbrev Ntf := List Tbl × List Vw × List Cnt
end Go.Proofs.YtceghmdneadhbaaGreat
