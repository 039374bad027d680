/-
 EqualNotifiers: databases, queries, counted relations and notifiers compared; the reference and the program give the same. On the printed functions; conditions: lengths.
-/
import Derived.Test.YtpcbnmcfplioeaaGreatFhNC1
namespace Go.Proofs.YtpcbnmcfplioeaaGreat
open Go.RowKit
set_option linter.unusedVariables false
set_option linter.unusedSimpArgs false
theorem fV (a b : List Int) : (ET a b != 0) = !(a == b):=by rw [bne,cmp_eq]
def aD {α β : Type} (f : α -> β -> Bool) (a : List α) (b : List β) : Bool:=((a.length : Int) == (b.length : Int)) && !A1 a fun k x => !atB b k (f x)
theorem gY (m n : Nat) : ((m : Int) != (n : Int)) = !((m : Int) == (n : Int)):=rfl
def NG (a b : List (List Int)) : Bool:=aD (fun x y => x == y) a b
def ep (a b : Int × List (List Int)) : Bool:=(a.1 == b.1) && NG a.2 b.2
theorem R3 {m n : Nat} (h : ((m : Int) == (n : Int)) = true) : m = n:=by have h:=eq_of_beq h; omega
theorem eK {a b : Int × List (List Int)} (h : Bl a.2) : Ea a b = some (ep a b):=by
 unfold Ea ep NG aD A1
 rw [gY,bne]
 cases a.1 == b.1 with
 | false => rfl
 | true =>
  cases hl : ((a.2.length : Int) == (b.2.length : Int)) with
  | false => rfl
  | true =>
   have hn:=R3 hl
   simp only [Bool.not_true,cond_false,Bool.true_and]
   rw [BS (fun k => atB a.2 k fun x => !atB b.2 k fun y => x == y) h.1 (fun k hk rec => by
    have hk' : k < b.2.length:=by omega
    unfold El
    rw [AL hk,Am hk,Am hk',AS hk (AA h.1),AY hk,AY hk']
    simp only [cond_true,Ad,TC (h.2 _ (List.getElem_mem hk)),fV]) (fun rec => by unfold El; rw [AG]; rfl)]
   cases (List.range a.2.length).any fun k => atB a.2 k fun x => !atB b.2 k fun y => x == y <;> rfl
theorem ZU {a b : List (List Int)} (h : Bl a) : HM a b = some (NG a b):=by
 unfold HM NG aD A1
 rw [gY]
 cases hl : ((a.length : Int) == (b.length : Int)) with
 | false => rfl
 | true =>
  have hn:=R3 hl
  simp only [Bool.not_true,cond_false,Bool.true_and]
  rw [BS (fun k => atB a k fun x => !atB b k fun y => x == y) h.1 (fun k hk rec => by
   have hk' : k < b.length:=by omega
   unfold Hh
   rw [AL hk,Am hk,Am hk',AS hk (AA h.1),AY hk,AY hk']
   simp only [cond_true,Ad,bC (h.2 _ (List.getElem_mem hk))]) (fun rec => by unfold Hh; rw [AG]; rfl)]
  cases (List.range a.length).any fun k => atB a k fun x => !atB b k fun y => x == y <;> rfl
abbrev pd:=List UInt8 × List Int
abbrev pf:=Int × List pd × List Int
abbrev Cnt:=Int × List (List Int) × List Int
def H1 (c : Cnt) : Prop:=Bl c.2.1 ∧ c.2.2.length <= lim
def Ko (a b : Cnt) : Bool:=(a.1 == b.1) && (NG a.2.1 b.2.1 && (a.2.2 == b.2.2))
theorem Sm {a b : Cnt} (h : H1 a) : DV a b = some (Ko a b):=by
 unfold DV Cu Ko
 simp only [eK (a:=(0,a.2.1)) (b:=(0,b.2.1)) h.1,TC h.2,Ad,ep,cmp_eq]
 cases a.1 == b.1 <;> cases NG a.2.1 b.2.1 <;> rfl
theorem Up {a b : Cnt} (h : H1 a) : DT a b = some (Ko a b):=by
 unfold DT Cq Ko
 simp only [ZU h.1,bC h.2,Ad]
 cases a.1 == b.1 <;> cases NG a.2.1 b.2.1 <;> rfl
abbrev Vw:=pf × Cnt
abbrev Ntf:=List Tbl × List Vw × List Cnt
end Go.Proofs.YtpcbnmcfplioeaaGreat
