/-
 Ascending lists of small numbers, and how the program unites them. On the printed functions; conditions: numbers from 0 to 99.
-/
import Derived.Test.YtpcbnmcfplioeaaGreatQuNC1
namespace Go.Proofs.YtpcbnmcfplioeaaGreat
open Go.RowKit
set_option linter.unusedSimpArgs false
set_option linter.unusedVariables false
def FM (n : Nat) (S : Nat -> Bool) : List Int:=((List.range n).filter S).map fun (v : Nat) => (v : Int)
theorem O6 (n : Nat) (S : Nat -> Bool) : (FM n S).length <= n:=by
 unfold FM
 rw [List.length_map]
 exact Nat.le_trans (List.length_filter_le _ _) (by simp)
theorem bf (n : Nat) (S : Nat -> Bool) : FM (n + 1) S = FM n S ++ (if S n = true then [(n : Int)] else []):=by
 unfold FM
 rw [List.range_succ,List.filter_append,List.map_append]
 split
 ·rename_i h; simp [h]
 ·rename_i h; simp [h]
theorem cv {n : Nat} {S : Nat -> Bool} {x : Int} (h : x ∈ FM n S) : x < n:=by
 unfold FM at h
 obtain ⟨v,hv,rfl⟩:=List.mem_map.1 h
 have:=List.mem_range.1 (List.mem_filter.1 hv).1
 omega
def upN (e m : Nat) (S : Nat -> Bool) : List Int:=((List.range m).filter fun (v : Nat) => S (e + 1 + v)).map fun (v : Nat) => ((e + 1 + v : Nat) : Int)
theorem ci {e m : Nat} {S : Nat -> Bool} {x : Int} (h : x ∈ upN e m S) : (e : Int) < x:=by
 unfold upN at h
 obtain ⟨v,hv,rfl⟩:=List.mem_map.1 h
 omega
theorem SW {n e : Nat} (he : e < n) (S : Nat -> Bool) : FM n S = FM e S ++ ((if S e = true then [(e : Int)] else []) ++ upN e (n - (e + 1)) S):=by
 have h : n = (e + 1) + (n - (e + 1)):=by omega
 have key : ∀ m,FM ((e + 1) + m) S = FM (e + 1) S ++ upN e m S:=by
  intro m
  unfold FM upN
  rw [List.range_add,List.filter_append,List.map_append]
  congr 1
  rw [List.filter_map,List.map_map]
  rfl
 conv => lhs; rw [h]
 rw [key,bf,List.append_assoc]
def V5 (S : Nat -> Bool) (e : Nat) : Nat -> Bool:=fun v => S v || v == e
theorem asc_add {n e : Nat} (he : e < n) (S : Nat -> Bool) : FM n (V5 S e) = FM e S ++ ((e : Int) :: upN e (n - (e + 1)) S):=by
 rw [SW he]
 have h1 : FM e (V5 S e) = FM e S:=by
  unfold FM
  congr 1
  apply List.filter_congr
  intro v hv
  have:=List.mem_range.1 hv
  unfold V5
  have : (v == e) = false:=by simp; omega
  rw [this,Bool.or_false]
 have h2 : upN e (n - (e + 1)) (V5 S e) = upN e (n - (e + 1)) S:=by
  unfold upN
  congr 1
  apply List.filter_congr
  intro v hv
  unfold V5
  have : (e + 1 + v == e) = false:=by simp; omega
  rw [this,Bool.or_false]
 have h3 : V5 S e e = true:=by simp [V5]
 rw [h1,h2,h3]; rfl
theorem kQ {A R : List Int} {e : Int} (hA : ∀ x ∈ A,x < e) (hR : ∀ x ∈ R,e <= x) (hl : (A ++ R).length <= lim) : Ao (Fy (A ++ R) e) fz 0 = some (A.length : Int):=by
 have hlA : A.length <= lim:=by simp at hl; omega
 refine DN (body:=Fy (A ++ R) e) (fun k => (k : Int)) A.length (fun k hk rec => ?_) (fun rec => ?_) fz (HP hlA)
 ·have hk2 : k < (A ++ R).length:=by simp; omega
  have e1 : (A ++ R)[k] = A[k]:=List.getElem_append_left hk
  simp only [Fy,AL hk2,cond_true,Am hk2,Ad,e1]
  rw [decide_eq_true (hA _ (List.getElem_mem hk)),cond_true,AS hk2 (AA hl)]
 ·cases R with
  | nil =>
   simp only [List.append_nil,Fy,AG,cond_false]
  | cons x R =>
   have hk2 : A.length < (A ++ x :: R).length:=by simp
   have e1 : (A ++ x :: R)[A.length] = x:=by rw [List.getElem_append_right (Nat.le_refl _)]; simp
   simp only [Fy,AL hk2,cond_true,Am hk2,Ad,e1]
   rw [decide_eq_false (by have:=hR x (by simp); omega),cond_false]
theorem XF {l : List Int} (h : l.length <= lim) : A5 l = some l:=by
 unfold A5
 rw [Ap (by simpa using h)]; rfl
theorem kR {S : Nat -> Bool} {a1 : List Int} {k : Nat} (hk : k < a1.length) (hl : a1.length <= lim) {e : Nat} (he : a1[k] = (e : Int)) (h99 : e < 100) (rec : (List Int × Int) -> Option (List Int)) :
  EG a1 rec (FM 100 S,(k : Int)) = rec (FM 100 (V5 S e),((k + 1 : Nat) : Int)):=by
 have hlen:=O6 100 S
 have hL : (FM 100 S).length <= lim:=by unfold lim; omega
 have sp:=SW h99 S
 have ad:=asc_add h99 S
 have hA : ∀ x ∈ FM e S,x < (e : Int):=fun x hx => cv hx
 have hR : ∀ x ∈ (if S e = true then [(e : Int)] else []) ++ upN e (100 - (e + 1)) S,(e : Int) <= x:=fun x hx => by
  rcases List.mem_append.1 hx with hx | hx
  ·split at hx
   ·simp at hx; omega
   ·simp at hx
  ·have:=ci hx; omega
 have fnd:=kQ (e:=(e : Int)) hA hR (by rw [<- sp]; exact hL)
 rw [<- sp] at fnd
 simp only [EG,AL hk,cond_true,Am hk,Ad,he,fnd]
 cases hS : S e with
 | true =>
  rw [hS] at sp
  simp only [if_true] at sp
  have hlt : (FM e S).length < (FM 100 S).length:=by rw [sp]; simp
  have hg : AO (FM 100 S) ((FM e S).length : Int) = some (e : Int):=by
   rw [Pd,sp,List.getElem?_append_right (Nat.le_refl _),Nat.sub_self]; rfl
  have hne : (((FM e S).length : Int) == ((FM 100 S).length : Int)) = false:=by simp; omega
  have hE : V5 S e = S:=by
   funext v
   unfold V5
   by_cases hv : v = e
   ·subst hv; rw [hS]; rfl
   ·have : (v == e) = false:=by simpa using hv
    rw [this,Bool.or_false]
  rw [hne,cond_false,hg]
  simp only [bne_self_eq_false,Fz,cond_false,GV,AS hk (AA hl),hE]
 | false =>
  rw [hS] at sp
  simp only [Bool.false_eq_true,if_false,List.nil_append] at sp
  have hins : Fz rec (FM 100 S) (k : Int) (e : Int) ((FM e S).length : Int) true = rec (FM 100 (V5 S e),((k + 1 : Nat) : Int)):=by
   have h1 : Ey (FM 100 S) 0 ((FM e S).length : Int) = FM e S:=by
    rw [SC,sp,List.take_left']
    rfl
   have h2 : Ey (FM 100 S) ((FM e S).length : Int) ((FM 100 S).length : Int) = upN e (100 - (e + 1)) S:=by
    unfold Ey
    rw [Int.toNat_natCast,Int.toNat_natCast,List.take_length,sp,List.drop_left']
    rfl
   have hle : (FM e S).length <= (FM 100 S).length:=by rw [sp]; simp
   have hle2 : (FM e S).length + (upN e (100 - (e + 1)) S).length = (FM 100 S).length:=by rw [sp,List.length_append]
   simp only [Fz,cond_true]
   rw [Ap (by omega),h1,XF (by omega)]
   simp only [Ad]
   rw [Ap (by simp only [List.length_singleton]; unfold lim; omega),Ap (by omega),h2,Ap (by simp only [List.length_append,List.length_singleton]; unfold lim; omega)]
   simp only [GV,AS hk (AA hl),ad,List.append_assoc,List.cons_append,List.nil_append]
  by_cases hlast : (((FM e S).length : Int) == ((FM 100 S).length : Int)) = true
  ·rw [hlast,cond_true]; exact hins
  ·rw [show (((FM e S).length : Int) == ((FM 100 S).length : Int)) = false by simpa using hlast,cond_false]
   have hlt : (FM e S).length < (FM 100 S).length:=by
    have : (FM e S).length <= (FM 100 S).length:=by rw [sp]; simp
    simp at hlast; omega
   have hg : AO (FM 100 S) ((FM e S).length : Int) = some (FM 100 S)[(FM e S).length]:=Am hlt
   rw [hg]
   have hne : ((FM 100 S)[(FM e S).length] != (e : Int)) = true:=by
    have hm : (FM 100 S)[(FM e S).length] ∈ upN e (100 - (e + 1)) S:=by
     have : (FM 100 S)[(FM e S).length]? = some (FM 100 S)[(FM e S).length]:=List.getElem?_eq_getElem hlt
     conv at this => lhs; rw [sp,List.getElem?_append_right (Nat.le_refl _)]
     exact List.mem_of_getElem? this
    have:=ci hm
    simp; omega
   simp only [hne]
   exact hins
def Rn (S : Nat -> Bool) (l : List Int) : Nat -> Bool:=fun v => S v || l.contains (v : Int)
theorem df {S : Nat -> Bool} {a1 : List Int} (hl : a1.length <= lim) (h : ∀ x ∈ a1,0 <= x ∧ x <= 99) : KK (FM 100 S) a1 = some (FM 100 (Rn S a1)):=by
 have hlen:=O6 100 S
 unfold KK
 rw [XF (by unfold lim; omega)]
 have:=DN (body:=EG a1) (out:=FM 100 (Rn S a1)) (fun k => (FM 100 (Rn S (a1.take k)),(k : Int))) a1.length (fun k hk rec => ?_) (fun rec => ?_) fz (HP hl)
 ·have e0 : Rn S (a1.take 0) = S:=by funext v; simp [Rn]
  rw [e0] at this
  simp only [Ad]
  rw [show ((0 : Nat) : Int) = 0 from rfl] at this
  rw [this]
 ·have hx:=h _ (List.getElem_mem hk)
  rw [kR hk hl (e:=a1[k].toNat) (by omega) (by omega)]
  congr 2
  have : V5 (Rn S (a1.take k)) a1[k].toNat = Rn S (a1.take (k + 1)):=by
   funext v
   unfold V5 Rn
   rw [List.take_succ_eq_append_getElem hk]
   simp only [List.contains_eq_mem,List.mem_append,List.mem_singleton,Bool.or_assoc]
   congr 1
   by_cases hv : v = a1[k].toNat
   ·subst hv
    have : ((a1[k].toNat : Nat) : Int) = a1[k]:=by omega
    rw [this]; simp
   ·have h1 : (v == a1[k].toNat) = false:=by simpa using hv
    have h2 : ¬ ((v : Int) = a1[k]):=by omega
    rw [h1]; simp [h2]
  rw [this]
 ·simp only [EG,AG,cond_false,List.take_length]
end Go.Proofs.YtpcbnmcfplioeaaGreat
