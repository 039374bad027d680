/-
 EqualNotifiers: databases, queries, counted relations and notifiers compared; the reference and the program give the same. On the printed functions; conditions: lengths.
-/
import Derived.Test.YtceghmdneadhbaaGreatFhWA1
-- pure
namespace Go.Proofs.YtceghmdneadhbaaGreat
open Go.RowKit
set_option linter.unusedVariables false
set_option linter.unusedSimpArgs false
theorem cmp_ne (a b : List Int) : (cmpB a b != 0) = !(a == b) := by rw [bne,cmp_eq]
def sameL {α β : Type} (f : α -> β -> Bool) (a : List α) (b : List β) : Bool := ((a.length : Int) == (b.length : Int)) && !badAny a fun k x => !atB b k (f x)
theorem lenNe (m n : Nat) : ((m : Int) != (n : Int)) = !((m : Int) == (n : Int)) := rfl
def rowsEq (a b : List (List Int)) : Bool := sameL (fun x y => x == y) a b
def relEq (a b : Int × List (List Int)) : Bool := (a.1 == b.1) && rowsEq a.2 b.2
theorem len_nat {m n : Nat} (h : ((m : Int) == (n : Int)) = true) : m = n := by have h := eq_of_beq h; omega
theorem s_relEq {a b : Int × List (List Int)} (h : smRows a.2) : spec_EqualRelations a b = some (relEq a b) := by
 unfold spec_EqualRelations relEq rowsEq sameL badAny
 rw [lenNe,bne]
 cases a.1 == b.1 with
 | false => rfl
 | true =>
  cases hl : ((a.2.length : Int) == (b.2.length : Int)) with
  | false => rfl
  | true =>
   have hn := len_nat hl
   simp only [Bool.not_true,cond_false,Bool.true_and]
   rw [all_loop (fun k => atB a.2 k fun x => !atB b.2 k fun y => x == y) h.1 (fun k hk rec => by
    have hk' : k < b.2.length := by omega
    unfold spec_EqualRelations_B1
    rw [lt_dec hk,geti_at hk,geti_at hk',wrap_s hk (lim_max h.1),atB_lt hk,atB_lt hk']
    simp only [cond_true,obind,s_cmp (h.2 _ (List.getElem_mem hk)),cmp_ne]) (fun rec => by unfold spec_EqualRelations_B1; rw [nlt_dec]; rfl)]
   cases (List.range a.2.length).any fun k => atB a.2 k fun x => !atB b.2 k fun y => x == y <;> rfl
theorem i_rowsEq {a b : List (List Int)} (h : smRows a) : impl_sameRows a b = some (rowsEq a b) := by
 unfold impl_sameRows rowsEq sameL badAny
 rw [lenNe]
 cases hl : ((a.length : Int) == (b.length : Int)) with
 | false => rfl
 | true =>
  have hn := len_nat hl
  simp only [Bool.not_true,cond_false,Bool.true_and]
  rw [all_loop (fun k => atB a k fun x => !atB b k fun y => x == y) h.1 (fun k hk rec => by
   have hk' : k < b.length := by omega
   unfold impl_sameRows_B1
   rw [lt_dec hk,geti_at hk,geti_at hk',wrap_s hk (lim_max h.1),atB_lt hk,atB_lt hk']
   simp only [cond_true,obind,i_same (h.2 _ (List.getElem_mem hk))]) (fun rec => by unfold impl_sameRows_B1; rw [nlt_dec]; rfl)]
  cases (List.range a.length).any fun k => atB a k fun x => !atB b k fun y => x == y <;> rfl
theorem i_relEq {a b : Int × List (List Int)} (h : smRows a.2) : impl_EqualRelations a b = some (relEq a b) := by
 unfold impl_EqualRelations impl_EqualRelations_J1 relEq
 simp only [i_rowsEq h,obind]
 cases a.1 == b.1 <;> rfl
def dbEq (a b : List Tbl) : Bool := sameL (fun x y => (x.1 == y.1) && relEq x.2 y.2) a b
theorem s_dbEq {a b : List Tbl} (h : smDb a) : spec_EqualDatabases a b = some (dbEq a b) := by
 unfold spec_EqualDatabases dbEq sameL badAny
 rw [lenNe]
 cases hl : ((a.length : Int) == (b.length : Int)) with
 | false => rfl
 | true =>
  have hn := len_nat hl
  simp only [Bool.not_true,cond_false,Bool.true_and]
  rw [all_loop (fun k => atB a k fun x => !atB b k fun y => (x.1 == y.1) && relEq x.2 y.2) h.1 (fun k hk rec => by
   have hk' : k < b.length := by omega
   unfold spec_EqualDatabases_B1
   rw [lt_dec hk,geti_at hk,geti_at hk',wrap_s hk (lim_max h.1),atB_lt hk,atB_lt hk']
   simp only [cond_true,obind,s_relEq (h.2 _ (List.getElem_mem hk)).2]
   cases a[k].1 == b[k].1 <;> rfl) (fun rec => by unfold spec_EqualDatabases_B1; rw [nlt_dec]; rfl)]
  cases (List.range a.length).any fun k => atB a k fun x => !atB b k fun y => (x.1 == y.1) && relEq x.2 y.2 <;> rfl
theorem i_dbEq {a b : List Tbl} (h : smDb a) : impl_EqualDatabases a b = some (dbEq a b) := by
 unfold impl_EqualDatabases dbEq sameL badAny
 rw [lenNe]
 cases hl : ((a.length : Int) == (b.length : Int)) with
 | false => rfl
 | true =>
  have hn := len_nat hl
  simp only [Bool.not_true,cond_false,Bool.true_and]
  rw [all_loop (fun k => atB a k fun x => !atB b k fun y => (x.1 == y.1) && relEq x.2 y.2) h.1 (fun k hk rec => by
   have hk' : k < b.length := by omega
   unfold impl_EqualDatabases_B1
   rw [lt_dec hk,geti_at hk,geti_at hk',wrap_s hk (lim_max h.1),atB_lt hk,atB_lt hk']
   simp only [cond_true,obind,i_relEq (h.2 _ (List.getElem_mem hk)).2]
   cases a[k].1 == b[k].1 <;> rfl) (fun rec => by unfold impl_EqualDatabases_B1; rw [nlt_dec]; rfl)]
  cases (List.range a.length).any fun k => atB a k fun x => !atB b k fun y => (x.1 == y.1) && relEq x.2 y.2 <;> rfl
abbrev AtmE := List UInt8 × List Int
abbrev QryE := Int × List AtmE × List Int
def smQE (q : QryE) : Prop := q.2.1.length <= lim ∧ (∀ a ∈ q.2.1,a.2.length <= lim) ∧ q.2.2.length <= lim
def qryEq (a b : QryE) : Bool := (a.1 == b.1) && ((a.2.2 == b.2.2) && sameL (fun x y => (x.1 == y.1) && (x.2 == y.2)) a.2.1 b.2.1)
theorem s_qryEq {a b : QryE} (h : smQE a) : spec_EqualQueries a b = some (qryEq a b) := by
 unfold spec_EqualQueries qryEq sameL badAny
 simp only [s_cmp h.2.2,obind,cmp_ne]
 rw [lenNe,bne]
 cases a.1 == b.1 with
 | false => rfl
 | true =>
  cases a.2.2 == b.2.2 with
  | false => rfl
  | true =>
   cases hl : ((a.2.1.length : Int) == (b.2.1.length : Int)) with
   | false => rfl
   | true =>
    have hn := len_nat hl
    simp only [Bool.not_true,cond_false,Bool.true_and]
    rw [all_loop (fun k => atB a.2.1 k fun x => !atB b.2.1 k fun y => (x.1 == y.1) && (x.2 == y.2)) h.1 (fun k hk rec => by
     have hk' : k < b.2.1.length := by omega
     unfold spec_EqualQueries_B1
     rw [lt_dec hk,geti_at hk,geti_at hk',wrap_s hk (lim_max h.1),atB_lt hk,atB_lt hk']
     simp only [cond_true,obind,s_cmp (h.2.1 _ (List.getElem_mem hk)),cmp_ne]
     cases a.2.1[k].1 == b.2.1[k].1 <;> rfl) (fun rec => by unfold spec_EqualQueries_B1; rw [nlt_dec]; rfl)]
    cases (List.range a.2.1.length).any fun k => atB a.2.1 k fun x => !atB b.2.1 k fun y => (x.1 == y.1) && (x.2 == y.2) <;> rfl
theorem i_qryEq {a b : QryE} (h : smQE a) : impl_EqualQueries a b = some (qryEq a b) := by
 unfold impl_EqualQueries qryEq sameL badAny
 simp only [i_same h.2.2,obind]
 rw [lenNe,bne]
 cases a.1 == b.1 with
 | false => rfl
 | true =>
  cases hl : ((a.2.1.length : Int) == (b.2.1.length : Int)) with
  | false => cases a.2.2 == b.2.2 <;> rfl
  | true =>
   cases a.2.2 == b.2.2 with
   | false => rfl
   | true =>
    have hn := len_nat hl
    simp only [Bool.not_true,cond_false,Bool.true_and]
    rw [all_loop (fun k => atB a.2.1 k fun x => !atB b.2.1 k fun y => (x.1 == y.1) && (x.2 == y.2)) h.1 (fun k hk rec => by
     have hk' : k < b.2.1.length := by omega
     unfold impl_EqualQueries_B1
     rw [lt_dec hk,geti_at hk,geti_at hk',wrap_s hk (lim_max h.1),atB_lt hk,atB_lt hk']
     simp only [cond_true,obind,i_same (h.2.1 _ (List.getElem_mem hk))]
     cases a.2.1[k].1 == b.2.1[k].1 <;> rfl) (fun rec => by unfold impl_EqualQueries_B1; rw [nlt_dec]; rfl)]
    cases (List.range a.2.1.length).any fun k => atB a.2.1 k fun x => !atB b.2.1 k fun y => (x.1 == y.1) && (x.2 == y.2) <;> rfl
abbrev Cnt := Int × List (List Int) × List Int
def smCnt (c : Cnt) : Prop := smRows c.2.1 ∧ c.2.2.length <= lim
def cntEq (a b : Cnt) : Bool := (a.1 == b.1) && (rowsEq a.2.1 b.2.1 && (a.2.2 == b.2.2))
theorem s_cntEq {a b : Cnt} (h : smCnt a) : spec_EqualCounted a b = some (cntEq a b) := by
 unfold spec_EqualCounted spec_EqualCounted_J1 cntEq
 simp only [s_relEq (a := (0,a.2.1)) (b := (0,b.2.1)) h.1,s_cmp h.2,obind,relEq,cmp_eq]
 cases a.1 == b.1 <;> cases rowsEq a.2.1 b.2.1 <;> rfl
theorem i_cntEq {a b : Cnt} (h : smCnt a) : impl_EqualCounted a b = some (cntEq a b) := by
 unfold impl_EqualCounted impl_EqualCounted_J1 cntEq
 simp only [i_rowsEq h.1,i_same h.2,obind]
 cases a.1 == b.1 <;> cases rowsEq a.2.1 b.2.1 <;> rfl
abbrev Vw := QryE × Cnt
abbrev Ntf := List Tbl × List Vw × List Cnt
def smVw (v : Vw) : Prop := smQE v.1 ∧ smCnt v.2
def smNtf (n : Ntf) : Prop := smDb n.1 ∧ (n.2.1.length <= lim ∧ ∀ v ∈ n.2.1,smVw v) ∧ n.2.2.length <= lim ∧ ∀ c ∈ n.2.2,smCnt c
def ntfEq (a b : Ntf) : Bool := dbEq a.1 b.1 && (((a.2.1.length : Int) == (b.2.1.length : Int)) && (((a.2.2.length : Int) == (b.2.2.length : Int)) && ((!badAny a.2.1 fun k x => !atB b.2.1 k fun y => qryEq x.1 y.1 && cntEq x.2 y.2) && (!badAny a.2.2 fun k x => !atB b.2.2 k fun y => cntEq x y))))
theorem s_ntfEq {a b : Ntf} (h : smNtf a) : spec_EqualNotifiers a b = some (ntfEq a b) := by
 unfold spec_EqualNotifiers ntfEq badAny
 simp only [s_dbEq h.1,obind]
 rw [lenNe,lenNe]
 cases dbEq a.1 b.1 with
 | false => rfl
 | true =>
  cases hl : ((a.2.1.length : Int) == (b.2.1.length : Int)) with
  | false => rfl
  | true =>
   cases hl2 : ((a.2.2.length : Int) == (b.2.2.length : Int)) with
   | false => rfl
   | true =>
    have hn := len_nat hl
    have hn2 := len_nat hl2
    simp only [Bool.not_true,cond_false,Bool.true_and]
    rw [all_loop (fun k => atB a.2.1 k fun x => !atB b.2.1 k fun y => qryEq x.1 y.1 && cntEq x.2 y.2) h.2.1.1 (fun k hk rec => by
     have hk' : k < b.2.1.length := by omega
     have hv := h.2.1.2 _ (List.getElem_mem hk)
     unfold spec_EqualNotifiers_B1
     rw [lt_dec hk,geti_at hk,geti_at hk',wrap_s hk (lim_max h.2.1.1),atB_lt hk,atB_lt hk']
     simp only [cond_true,obind,s_qryEq hv.1,s_cntEq hv.2]
     cases qryEq a.2.1[k].1 b.2.1[k].1 <;> rfl) (fun rec => by unfold spec_EqualNotifiers_B1; rw [nlt_dec]; rfl)]
    cases (List.range a.2.1.length).any fun k => atB a.2.1 k fun x => !atB b.2.1 k fun y => qryEq x.1 y.1 && cntEq x.2 y.2 with
    | true => rfl
    | false =>
     simp only [cond_false,Bool.not_false,Bool.true_and]
     rw [all_loop (fun k => atB a.2.2 k fun x => !atB b.2.2 k fun y => cntEq x y) h.2.2.1 (fun k hk rec => by
      have hk' : k < b.2.2.length := by omega
      unfold spec_EqualNotifiers_B2
      rw [lt_dec hk,geti_at hk,geti_at hk',wrap_s hk (lim_max h.2.2.1),atB_lt hk,atB_lt hk']
      simp only [cond_true,obind,s_cntEq (h.2.2.2 _ (List.getElem_mem hk))]) (fun rec => by unfold spec_EqualNotifiers_B2; rw [nlt_dec]; rfl)]
     cases (List.range a.2.2.length).any fun k => atB a.2.2 k fun x => !atB b.2.2 k fun y => cntEq x y <;> rfl
theorem i_ntfEq {a b : Ntf} (h : smNtf a) : impl_EqualNotifiers a b = some (ntfEq a b) := by
 unfold impl_EqualNotifiers ntfEq badAny
 simp only [i_dbEq h.1,obind]
 rw [lenNe,lenNe]
 cases dbEq a.1 b.1 with
 | false => rfl
 | true =>
  cases hl : ((a.2.1.length : Int) == (b.2.1.length : Int)) with
  | false => rfl
  | true =>
   cases hl2 : ((a.2.2.length : Int) == (b.2.2.length : Int)) with
   | false => rfl
   | true =>
    have hn := len_nat hl
    have hn2 := len_nat hl2
    simp only [Bool.not_true,cond_false,Bool.true_and]
    rw [all_loop (fun k => atB a.2.1 k fun x => !atB b.2.1 k fun y => qryEq x.1 y.1 && cntEq x.2 y.2) h.2.1.1 (fun k hk rec => by
     have hk' : k < b.2.1.length := by omega
     have hv := h.2.1.2 _ (List.getElem_mem hk)
     unfold impl_EqualNotifiers_B1
     rw [lt_dec hk,geti_at hk,geti_at hk',wrap_s hk (lim_max h.2.1.1),atB_lt hk,atB_lt hk']
     simp only [cond_true,obind,i_qryEq hv.1,i_cntEq hv.2]
     cases qryEq a.2.1[k].1 b.2.1[k].1 <;> rfl) (fun rec => by unfold impl_EqualNotifiers_B1; rw [nlt_dec]; rfl)]
    cases (List.range a.2.1.length).any fun k => atB a.2.1 k fun x => !atB b.2.1 k fun y => qryEq x.1 y.1 && cntEq x.2 y.2 with
    | true => rfl
    | false =>
     simp only [cond_false,Bool.not_false,Bool.true_and]
     rw [all_loop (fun k => atB a.2.2 k fun x => !atB b.2.2 k fun y => cntEq x y) h.2.2.1 (fun k hk rec => by
      have hk' : k < b.2.2.length := by omega
      unfold impl_EqualNotifiers_B2
      rw [lt_dec hk,geti_at hk,geti_at hk',wrap_s hk (lim_max h.2.2.1),atB_lt hk,atB_lt hk']
      simp only [cond_true,obind,i_cntEq (h.2.2.2 _ (List.getElem_mem hk))]) (fun rec => by unfold impl_EqualNotifiers_B2; rw [nlt_dec]; rfl)]
     cases (List.range a.2.2.length).any fun k => atB a.2.2 k fun x => !atB b.2.2 k fun y => cntEq x y <;> rfl
end Go.Proofs.YtceghmdneadhbaaGreat
