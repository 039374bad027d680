/-
 Ascending lists of small numbers, and how the program unites them. On the printed functions; conditions: numbers from 0 to 99.
-/
import Derived.Test.YtceghmdneadhbaaGreatQuWA1
-- pure
namespace Go.Proofs.YtceghmdneadhbaaGreat
open Go.RowKit
set_option linter.unusedSimpArgs false
set_option linter.unusedVariables false
def ascN (n : Nat) (S : Nat -> Bool) : List Int:=((List.range n).filter S).map fun (v : Nat) => (v : Int)
theorem ascN_len (n : Nat) (S : Nat -> Bool) : (ascN n S).length <= n:=by
 unfold ascN
 rw [List.length_map]
 exact Nat.le_trans (List.length_filter_le _ _) (by simp)
theorem ascN_s (n : Nat) (S : Nat -> Bool) : ascN (n + 1) S = ascN n S ++ (if S n = true then [(n : Int)] else []):=by
 unfold ascN
 rw [List.range_succ,List.filter_append,List.map_append]
 split
 ·rename_i h; simp [h]
 ·rename_i h; simp [h]
theorem ascN_lt {n : Nat} {S : Nat -> Bool} {x : Int} (h : x ∈ ascN n S) : x < n:=by
 unfold ascN at h
 obtain ⟨v,hv,rfl⟩:=List.mem_map.1 h
 have:=List.mem_range.1 (List.mem_filter.1 hv).1
 omega
def upN (e m : Nat) (S : Nat -> Bool) : List Int:=((List.range m).filter fun (v : Nat) => S (e + 1 + v)).map fun (v : Nat) => ((e + 1 + v : Nat) : Int)
theorem upN_gt {e m : Nat} {S : Nat -> Bool} {x : Int} (h : x ∈ upN e m S) : (e : Int) < x:=by
 unfold upN at h
 obtain ⟨v,hv,rfl⟩:=List.mem_map.1 h
 omega
theorem asc_split {n e : Nat} (he : e < n) (S : Nat -> Bool) : ascN n S = ascN e S ++ ((if S e = true then [(e : Int)] else []) ++ upN e (n - (e + 1)) S):=by
 have h : n = (e + 1) + (n - (e + 1)):=by omega
 have key : ∀ m,ascN ((e + 1) + m) S = ascN (e + 1) S ++ upN e m S:=by
  intro m
  unfold ascN upN
  rw [List.range_add,List.filter_append,List.map_append]
  congr 1
  rw [List.filter_map,List.map_map]
  rfl
 conv => lhs; rw [h]
 rw [key,ascN_s,List.append_assoc]
def addS (S : Nat -> Bool) (e : Nat) : Nat -> Bool:=fun v => S v || v == e
theorem asc_add {n e : Nat} (he : e < n) (S : Nat -> Bool) : ascN n (addS S e) = ascN e S ++ ((e : Int) :: upN e (n - (e + 1)) S):=by
 rw [asc_split he]
 have h1 : ascN e (addS S e) = ascN e S:=by
  unfold ascN
  congr 1
  apply List.filter_congr
  intro v hv
  have:=List.mem_range.1 hv
  unfold addS
  have : (v == e) = false:=by simp; omega
  rw [this,Bool.or_false]
 have h2 : upN e (n - (e + 1)) (addS S e) = upN e (n - (e + 1)) S:=by
  unfold upN
  congr 1
  apply List.filter_congr
  intro v hv
  unfold addS
  have : (e + 1 + v == e) = false:=by simp; omega
  rw [this,Bool.or_false]
 have h3 : addS S e e = true:=by simp [addS]
 rw [h1,h2,h3]; rfl
theorem u_find {A R : List Int} {e : Int} (hA : ∀ x ∈ A,x < e) (hR : ∀ x ∈ R,e <= x) (hl : (A ++ R).length <= lim) : loopF (impl_unite_B2 (A ++ R) e) fz 0 = some (A.length : Int):=by
 have hlA : A.length <= lim:=by simp at hl; omega
 refine loop_to (body:=impl_unite_B2 (A ++ R) e) (fun k => (k : Int)) A.length (fun k hk rec => ?_) (fun rec => ?_) fz (lt_fz hlA)
 ·have hk2 : k < (A ++ R).length:=by simp; omega
  have e1 : (A ++ R)[k] = A[k]:=List.getElem_append_left hk
  simp only [impl_unite_B2,lt_dec hk2,cond_true,geti_at hk2,obind,e1]
  rw [decide_eq_true (hA _ (List.getElem_mem hk)),cond_true,wrap_s hk2 (lim_max hl)]
 ·cases R with
  | nil =>
   simp only [List.append_nil,impl_unite_B2,nlt_dec,cond_false]
  | cons x R =>
   have hk2 : A.length < (A ++ x :: R).length:=by simp
   have e1 : (A ++ x :: R)[A.length] = x:=by rw [List.getElem_append_right (Nat.le_refl _)]; simp
   simp only [impl_unite_B2,lt_dec hk2,cond_true,geti_at hk2,obind,e1]
   rw [decide_eq_false (by have:=hR x (by simp); omega),cond_false]
theorem i_copyL {l : List Int} (h : l.length <= lim) : impl_copyInts l = some l:=by
 unfold impl_copyInts
 rw [chk_pos (by simpa using h)]; rfl
theorem u_step {S : Nat -> Bool} {a1 : List Int} {k : Nat} (hk : k < a1.length) (hl : a1.length <= lim) {e : Nat} (he : a1[k] = (e : Int)) (h99 : e < 100) (rec : (List Int × Int) -> Option (List Int)) :
  impl_unite_B1 a1 rec (ascN 100 S,(k : Int)) = rec (ascN 100 (addS S e),((k + 1 : Nat) : Int)):=by
 have hlen:=ascN_len 100 S
 have hL : (ascN 100 S).length <= lim:=by unfold lim; omega
 have sp:=asc_split h99 S
 have ad:=asc_add h99 S
 have hA : ∀ x ∈ ascN e S,x < (e : Int):=fun x hx => ascN_lt hx
 have hR : ∀ x ∈ (if S e = true then [(e : Int)] else []) ++ upN e (100 - (e + 1)) S,(e : Int) <= x:=fun x hx => by
  rcases List.mem_append.1 hx with hx | hx
  ·split at hx
   ·simp at hx; omega
   ·simp at hx
  ·have:=upN_gt hx; omega
 have fnd:=u_find (e:=(e : Int)) hA hR (by rw [<- sp]; exact hL)
 rw [<- sp] at fnd
 simp only [impl_unite_B1,lt_dec hk,cond_true,geti_at hk,obind,he,fnd]
 cases hS : S e with
 | true =>
  rw [hS] at sp
  simp only [if_true] at sp
  have hlt : (ascN e S).length < (ascN 100 S).length:=by rw [sp]; simp
  have hg : geti (ascN 100 S) ((ascN e S).length : Int) = some (e : Int):=by
   rw [geti_nat,sp,List.getElem?_append_right (Nat.le_refl _),Nat.sub_self]; rfl
  have hne : (((ascN e S).length : Int) == ((ascN 100 S).length : Int)) = false:=by simp; omega
  have hE : addS S e = S:=by
   funext v
   unfold addS
   by_cases hv : v = e
   ·subst hv; rw [hS]; rfl
   ·have : (v == e) = false:=by simpa using hv
    rw [this,Bool.or_false]
  rw [hne,cond_false,hg]
  simp only [bne_self_eq_false,impl_unite_J3,cond_false,impl_unite_J4,wrap_s hk (lim_max hl),hE]
 | false =>
  rw [hS] at sp
  simp only [Bool.false_eq_true,if_false,List.nil_append] at sp
  have hins : impl_unite_J3 rec (ascN 100 S) (k : Int) (e : Int) ((ascN e S).length : Int) true = rec (ascN 100 (addS S e),((k + 1 : Nat) : Int)):=by
   have h1 : subl (ascN 100 S) 0 ((ascN e S).length : Int) = ascN e S:=by
    rw [sub_take,sp,List.take_left']
    rfl
   have h2 : subl (ascN 100 S) ((ascN e S).length : Int) ((ascN 100 S).length : Int) = upN e (100 - (e + 1)) S:=by
    unfold subl
    rw [Int.toNat_natCast,Int.toNat_natCast,List.take_length,sp,List.drop_left']
    rfl
   have hle : (ascN e S).length <= (ascN 100 S).length:=by rw [sp]; simp
   have hle2 : (ascN e S).length + (upN e (100 - (e + 1)) S).length = (ascN 100 S).length:=by rw [sp,List.length_append]
   simp only [impl_unite_J3,cond_true]
   rw [chk_pos (by omega),h1,i_copyL (by omega)]
   simp only [obind]
   rw [chk_pos (by simp only [List.length_singleton]; unfold lim; omega),chk_pos (by omega),h2,chk_pos (by simp only [List.length_append,List.length_singleton]; unfold lim; omega)]
   simp only [impl_unite_J4,wrap_s hk (lim_max hl),ad,List.append_assoc,List.cons_append,List.nil_append]
  by_cases hlast : (((ascN e S).length : Int) == ((ascN 100 S).length : Int)) = true
  ·rw [hlast,cond_true]; exact hins
  ·rw [show (((ascN e S).length : Int) == ((ascN 100 S).length : Int)) = false by simpa using hlast,cond_false]
   have hlt : (ascN e S).length < (ascN 100 S).length:=by
    have : (ascN e S).length <= (ascN 100 S).length:=by rw [sp]; simp
    simp at hlast; omega
   have hg : geti (ascN 100 S) ((ascN e S).length : Int) = some (ascN 100 S)[(ascN e S).length]:=geti_at hlt
   rw [hg]
   have hne : ((ascN 100 S)[(ascN e S).length] != (e : Int)) = true:=by
    have hm : (ascN 100 S)[(ascN e S).length] ∈ upN e (100 - (e + 1)) S:=by
     have : (ascN 100 S)[(ascN e S).length]? = some (ascN 100 S)[(ascN e S).length]:=List.getElem?_eq_getElem hlt
     conv at this => lhs; rw [sp,List.getElem?_append_right (Nat.le_refl _)]
     exact List.mem_of_getElem? this
    have:=upN_gt hm
    simp; omega
   simp only [hne]
   exact hins
def addL (S : Nat -> Bool) (l : List Int) : Nat -> Bool:=fun v => S v || l.contains (v : Int)
theorem i_unite {S : Nat -> Bool} {a1 : List Int} (hl : a1.length <= lim) (h : ∀ x ∈ a1,0 <= x ∧ x <= 99) : impl_unite (ascN 100 S) a1 = some (ascN 100 (addL S a1)):=by
 have hlen:=ascN_len 100 S
 unfold impl_unite
 rw [i_copyL (by unfold lim; omega)]
 have:=loop_to (body:=impl_unite_B1 a1) (out:=ascN 100 (addL S a1)) (fun k => (ascN 100 (addL S (a1.take k)),(k : Int))) a1.length (fun k hk rec => ?_) (fun rec => ?_) fz (lt_fz hl)
 ·have e0 : addL S (a1.take 0) = S:=by funext v; simp [addL]
  rw [e0] at this
  simp only [obind]
  rw [show ((0 : Nat) : Int) = 0 from rfl] at this
  rw [this]
 ·have hx:=h _ (List.getElem_mem hk)
  rw [u_step hk hl (e:=a1[k].toNat) (by omega) (by omega)]
  congr 2
  have : addS (addL S (a1.take k)) a1[k].toNat = addL S (a1.take (k + 1)):=by
   funext v
   unfold addS addL
   rw [List.take_succ_eq_append_getElem hk]
   simp only [List.contains_eq_mem,List.mem_append,List.mem_singleton,Bool.or_assoc]
   congr 1
   by_cases hv : v = a1[k].toNat
   ·subst hv
    have : ((a1[k].toNat : Nat) : Int) = a1[k]:=by omega
    rw [this]; simp
   ·have h1 : (v == a1[k].toNat) = false:=by simpa using hv
    have h2 : ¬ ((v : Int) = a1[k]):=by omega
    rw [h1]; simp [h2]
  rw [this]
 ·simp only [impl_unite_B1,nlt_dec,cond_false,List.take_length]
end Go.Proofs.YtceghmdneadhbaaGreat
