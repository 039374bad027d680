/-
 Ascending lists of small numbers, and how the program unites them. On the printed functions; conditions: numbers from 0 to 99.
-/
import Derived.Test.YtklcofndjkjldaaGreatQuNT1
namespace Go.Proofs.YtklcofndjkjldaaGreat
open Go.RowKit
set_option linter.unusedSimpArgs false
set_option linter.unusedVariables false
def FG (n : Nat) (S : Nat -> Bool) : List Int:=((List.range n).filter S).map fun (v : Nat) => (v : Int)
theorem MS (n : Nat) (S : Nat -> Bool) : (FG n S).length <= n:=by
 unfold FG
 rw [List.length_map]
 exact Nat.le_trans (List.length_filter_le _ _) (by simp)
theorem W0 (n : Nat) (S : Nat -> Bool) : FG (n + 1) S = FG n S ++ (if S n = true then [(n : Int)] else []):=by
 unfold FG
 rw [List.range_succ,List.filter_append,List.map_append]
 split
 ·rename_i h; simp [h]
 ·rename_i h; simp [h]
theorem XT {n : Nat} {S : Nat -> Bool} {x : Int} (h : x ∈ FG n S) : x < n:=by
 unfold FG at h
 obtain ⟨v,hv,rfl⟩:=List.mem_map.1 h
 have:=List.mem_range.1 (List.mem_filter.1 hv).1
 omega
def upN (e m : Nat) (S : Nat -> Bool) : List Int:=((List.range m).filter fun (v : Nat) => S (e + 1 + v)).map fun (v : Nat) => ((e + 1 + v : Nat) : Int)
theorem XI {e m : Nat} {S : Nat -> Bool} {x : Int} (h : x ∈ upN e m S) : (e : Int) < x:=by
 unfold upN at h
 obtain ⟨v,hv,rfl⟩:=List.mem_map.1 h
 omega
theorem P1 {n e : Nat} (he : e < n) (S : Nat -> Bool) : FG n S = FG e S ++ ((if S e = true then [(e : Int)] else []) ++ upN e (n - (e + 1)) S):=by
 have h : n = (e + 1) + (n - (e + 1)):=by omega
 have key : ∀ m,FG ((e + 1) + m) S = FG (e + 1) S ++ upN e m S:=by
  intro m
  unfold FG upN
  rw [List.range_add,List.filter_append,List.map_append]
  congr 1
  rw [List.filter_map,List.map_map]
  rfl
 conv => lhs; rw [h]
 rw [key,W0,List.append_assoc]
def ST (S : Nat -> Bool) (e : Nat) : Nat -> Bool:=fun v => S v || v == e
theorem asc_add {n e : Nat} (he : e < n) (S : Nat -> Bool) : FG n (ST S e) = FG e S ++ ((e : Int) :: upN e (n - (e + 1)) S):=by
 rw [P1 he]
 have h1 : FG e (ST S e) = FG e S:=by
  unfold FG
  congr 1
  apply List.filter_congr
  intro v hv
  have:=List.mem_range.1 hv
  unfold ST
  have : (v == e) = false:=by simp; omega
  rw [this,Bool.or_false]
 have h2 : upN e (n - (e + 1)) (ST S e) = upN e (n - (e + 1)) S:=by
  unfold upN
  congr 1
  apply List.filter_congr
  intro v hv
  unfold ST
  have : (e + 1 + v == e) = false:=by simp; omega
  rw [this,Bool.or_false]
 have h3 : ST S e e = true:=by simp [ST]
 rw [h1,h2,h3]; rfl
theorem cx {A R : List Int} {e : Int} (hA : ∀ x ∈ A,x < e) (hR : ∀ x ∈ R,e <= x) (hl : (A ++ R).length <= lim) : Al (Fs (A ++ R) e) fz 0 = some (A.length : Int):=by
 have hlA : A.length <= lim:=by simp at hl; omega
 refine Ed (body:=Fs (A ++ R) e) (fun k => (k : Int)) A.length (fun k hk rec => ?_) (fun rec => ?_) fz (Ii hlA)
 ·have hk2 : k < (A ++ R).length:=by simp; omega
  have e1 : (A ++ R)[k] = A[k]:=List.getElem_append_left hk
  simp only [Fs,AF hk2,cond_true,Aj hk2,Ad,e1]
  rw [decide_eq_true (hA _ (List.getElem_mem hk)),cond_true,AO hk2 (At hl)]
 ·cases R with
  | nil =>
   simp only [List.append_nil,Fs,Az,cond_false]
  | cons x R =>
   have hk2 : A.length < (A ++ x :: R).length:=by simp
   have e1 : (A ++ x :: R)[A.length] = x:=by rw [List.getElem_append_right (Nat.le_refl _)]; simp
   simp only [Fs,AF hk2,cond_true,Aj hk2,Ad,e1]
   rw [decide_eq_false (by have:=hR x (by simp); omega),cond_false]
theorem Ui {l : List Int} (h : l.length <= lim) : A8 l = some l:=by
 unfold A8
 rw [Ak (by simpa using h)]; rfl
theorem cy {S : Nat -> Bool} {a1 : List Int} {k : Nat} (hk : k < a1.length) (hl : a1.length <= lim) {e : Nat} (he : a1[k] = (e : Int)) (h99 : e < 100) (rec : (List Int × Int) -> Option (List Int)) :
  Ey a1 rec (FG 100 S,(k : Int)) = rec (FG 100 (ST S e),((k + 1 : Nat) : Int)):=by
 have hlen:=MS 100 S
 have hL : (FG 100 S).length <= lim:=by unfold lim; omega
 have sp:=P1 h99 S
 have ad:=asc_add h99 S
 have hA : ∀ x ∈ FG e S,x < (e : Int):=fun x hx => XT hx
 have hR : ∀ x ∈ (if S e = true then [(e : Int)] else []) ++ upN e (100 - (e + 1)) S,(e : Int) <= x:=fun x hx => by
  rcases List.mem_append.1 hx with hx | hx
  ·split at hx
   ·simp at hx; omega
   ·simp at hx
  ·have:=XI hx; omega
 have fnd:=cx (e:=(e : Int)) hA hR (by rw [<- sp]; exact hL)
 rw [<- sp] at fnd
 simp only [Ey,AF hk,cond_true,Aj hk,Ad,he,fnd]
 cases hS : S e with
 | true =>
  rw [hS] at sp
  simp only [if_true] at sp
  have hlt : (FG e S).length < (FG 100 S).length:=by rw [sp]; simp
  have hg : AK (FG 100 S) ((FG e S).length : Int) = some (e : Int):=by
   rw [Pe,sp,List.getElem?_append_right (Nat.le_refl _),Nat.sub_self]; rfl
  have hne : (((FG e S).length : Int) == ((FG 100 S).length : Int)) = false:=by simp; omega
  have hE : ST S e = S:=by
   funext v
   unfold ST
   by_cases hv : v = e
   ·subst hv; rw [hS]; rfl
   ·have : (v == e) = false:=by simpa using hv
    rw [this,Bool.or_false]
  rw [hne,cond_false,hg]
  simp only [bne_self_eq_false,Ft,cond_false,GB,AO hk (At hl),hE]
 | false =>
  rw [hS] at sp
  simp only [Bool.false_eq_true,if_false,List.nil_append] at sp
  have hins : Ft rec (FG 100 S) (k : Int) (e : Int) ((FG e S).length : Int) true = rec (FG 100 (ST S e),((k + 1 : Nat) : Int)):=by
   have h1 : BX (FG 100 S) 0 ((FG e S).length : Int) = FG e S:=by
    rw [PQ,sp,List.take_left']
    rfl
   have h2 : BX (FG 100 S) ((FG e S).length : Int) ((FG 100 S).length : Int) = upN e (100 - (e + 1)) S:=by
    unfold BX
    rw [Int.toNat_natCast,Int.toNat_natCast,List.take_length,sp,List.drop_left']
    rfl
   have hle : (FG e S).length <= (FG 100 S).length:=by rw [sp]; simp
   have hle2 : (FG e S).length + (upN e (100 - (e + 1)) S).length = (FG 100 S).length:=by rw [sp,List.length_append]
   simp only [Ft,cond_true]
   rw [Ak (by omega),h1,Ui (by omega)]
   simp only [Ad]
   rw [Ak (by simp only [List.length_singleton]; unfold lim; omega),Ak (by omega),h2,Ak (by simp only [List.length_append,List.length_singleton]; unfold lim; omega)]
   simp only [GB,AO hk (At hl),ad,List.append_assoc,List.cons_append,List.nil_append]
  by_cases hlast : (((FG e S).length : Int) == ((FG 100 S).length : Int)) = true
  ·rw [hlast,cond_true]; exact hins
  ·rw [show (((FG e S).length : Int) == ((FG 100 S).length : Int)) = false by simpa using hlast,cond_false]
   have hlt : (FG e S).length < (FG 100 S).length:=by
    have : (FG e S).length <= (FG 100 S).length:=by rw [sp]; simp
    simp at hlast; omega
   have hg : AK (FG 100 S) ((FG e S).length : Int) = some (FG 100 S)[(FG e S).length]:=Aj hlt
   rw [hg]
   have hne : ((FG 100 S)[(FG e S).length] != (e : Int)) = true:=by
    have hm : (FG 100 S)[(FG e S).length] ∈ upN e (100 - (e + 1)) S:=by
     have : (FG 100 S)[(FG e S).length]? = some (FG 100 S)[(FG e S).length]:=List.getElem?_eq_getElem hlt
     conv at this => lhs; rw [sp,List.getElem?_append_right (Nat.le_refl _)]
     exact List.mem_of_getElem? this
    have:=XI hm
    simp; omega
   simp only [hne]
   exact hins
def OY (S : Nat -> Bool) (l : List Int) : Nat -> Bool:=fun v => S v || l.contains (v : Int)
theorem Ym {S : Nat -> Bool} {a1 : List Int} (hl : a1.length <= lim) (h : ∀ x ∈ a1,0 <= x ∧ x <= 99) : Jt (FG 100 S) a1 = some (FG 100 (OY S a1)):=by
 have hlen:=MS 100 S
 unfold Jt
 rw [Ui (by unfold lim; omega)]
 have:=Ed (body:=Ey a1) (out:=FG 100 (OY S a1)) (fun k => (FG 100 (OY S (a1.take k)),(k : Int))) a1.length (fun k hk rec => ?_) (fun rec => ?_) fz (Ii hl)
 ·have e0 : OY S (a1.take 0) = S:=by funext v; simp [OY]
  rw [e0] at this
  simp only [Ad]
  rw [show ((0 : Nat) : Int) = 0 from rfl] at this
  rw [this]
 ·have hx:=h _ (List.getElem_mem hk)
  rw [cy hk hl (e:=a1[k].toNat) (by omega) (by omega)]
  congr 2
  have : ST (OY S (a1.take k)) a1[k].toNat = OY S (a1.take (k + 1)):=by
   funext v
   unfold ST OY
   rw [List.take_succ_eq_append_getElem hk]
   simp only [List.contains_eq_mem,List.mem_append,List.mem_singleton,Bool.or_assoc]
   congr 1
   by_cases hv : v = a1[k].toNat
   ·subst hv
    have : ((a1[k].toNat : Nat) : Int) = a1[k]:=by omega
    rw [this]; simp
   ·have h1 : (v == a1[k].toNat) = false:=by simpa using hv
    have h2 : ¬ ((v : Int) = a1[k]):=by omega
    rw [h1]; simp [h2]
  rw [this]
 ·simp only [Ey,Az,cond_false,List.take_length]
end Go.Proofs.YtklcofndjkjldaaGreat
