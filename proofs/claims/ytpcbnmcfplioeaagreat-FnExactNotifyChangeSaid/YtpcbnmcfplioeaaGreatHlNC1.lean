/-
 What is marked is held: lists, relations. No conditions.
-/
import Derived.Test.YtpcbnmcfplioeaaGreatGenNC1
import Derived.Test.YtpcbnmcfplioeaaGreatMfNC1
namespace Go.Proofs.YtpcbnmcfplioeaaGreat
open Go.RowKit
set_option linter.unusedVariables false
set_option linter.unusedSimpArgs false
theorem XZ {α : Type} {cnt : α -> Nat} {mk : α -> Int -> α} : ∀ (l : List α) (k : Int) (j : Nat) (hj : j < l.length),(mkL cnt mk l k)[j]? = some (mk l[j] (k + (La cnt (l.take j) : Int)))
 | [],_,j,hj => by simp at hj
 | x :: l,k,0,hj => by simp [mkL,La]
 | x :: l,k,j + 1,hj => by
  rw [mkL,List.getElem?_cons_succ,XZ l _ j (by simpa using hj)]
  simp only [List.getElem_cons_succ,List.take_succ_cons,La]
  congr 2
  omega
theorem Rx {α : Type} {cnt : α -> Nat} : ∀ (a b : List α),La cnt (a ++ b) = La cnt a + La cnt b
 | [],b => by simp [La]
 | x :: a,b => by rw [List.cons_append,La,La,Rx a b]; omega
theorem W9 {α : Type} {cnt : α -> Nat} (l : List α) (j : Nat) : La cnt (l.take j) <= La cnt l := by
 have := Rx (cnt := cnt) (l.take j) (l.drop j)
 rw [List.take_append_drop] at this
 omega
theorem fW {α : Type} {cnt : α -> Nat} (l : List α) (j : Nat) (hj : j < l.length) : La cnt (l.take (j + 1)) = La cnt (l.take j) + cnt l[j] := by
 rw [List.take_succ_eq_append_getElem hj,Rx]; simp [La]
theorem N0 {α : Type} {cnt tz : α -> Nat} {c : Nat} (h : ∀ x,cnt x <= 64 * tz x + c) (hc : c <= 64) : ∀ (l : List α),La cnt l <= 64 * (l.length + tzL tz l)
 | [] => by simp [La]
 | x :: l => by
  have h1 := h x
  have h2 := N0 h hc l
  rw [La,List.length_cons,tzL]; omega
theorem U6 {α : Type} {cnt : α -> Nat} {c : Nat} (h : ∀ x,cnt x <= c) (hc : c <= 64) : ∀ (l : List α),La cnt l <= 64 * l.length
 | [] => by simp [La]
 | x :: l => by
  have h1 := h x
  have h2 := U6 h hc l
  rw [La,List.length_cons]; omega
theorem KG {α : Type} {cnt : α -> Nat} {mk : α -> Int -> α} {l : List α} {k : Int} {B : (Int × Int -> Option (Sum Int Int)) -> Int × Int -> Option (Sum Int Int)} (hl : l.length <= lim) (h0 : 0 <= k) (h1 : k + (La cnt l : Int) <= mB)
  (hB : ∀ rec (x : α) (y i : Int),x ∈ l -> 0 <= y -> y + (cnt x : Int) <= mB -> i < ((mkL cnt mk l k).length : Int) -> AO (mkL cnt mk l k) i = some (mk x y) -> B rec (y,i) = rec (y + (cnt x : Int),IntKind.i64.wrap (i + 1)))
  (hE : ∀ rec (y : Int),B rec (y,((mkL cnt mk l k).length : Int)) = some (.inl y)) : Ao B fz (k,0) = some (.inl (k + (La cnt l : Int))) := by
 have := DN (body := B) (out := .inl (k + (La cnt l : Int))) (fun j => (k + (La cnt (l.take j) : Int),(j : Int))) l.length (fun j hj rec => ?_) (fun rec => ?_) fz (HP hl)
 ·simpa [La] using this
 ·have hs := fW (cnt := cnt) l j hj
  have ht := W9 (cnt := cnt) l (j + 1)
  rw [hB rec l[j] _ _ (List.getElem_mem hj) (by omega) (by omega) (by rw [Jo]; omega) (by rw [Pd]; exact XZ l k j hj)]
  rw [AS hj (AA hl),hs]
  congr 2
  omega
 ·have := hE rec (k + (La cnt (l.take l.length) : Int))
  rw [Jo] at this
  rw [this,List.take_length]
theorem mk2 {α β : Type} {a a' : α} {b b' : β} (h : a = a') (g : b = b') : (a,b) = (a',b') := by rw [h,g]
end Go.Proofs.YtpcbnmcfplioeaaGreat
