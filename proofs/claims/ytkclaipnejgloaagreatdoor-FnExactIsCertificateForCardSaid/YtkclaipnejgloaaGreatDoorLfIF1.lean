/-
 The leapfrog intersection: what the reference and the program compute. On the printed functions; conditions: sizes.
-/
import Derived.Test.YtkclaipnejgloaaGreatDoorTcIF1
namespace Go.Proofs.YtkclaipnejgloaaGreatDoor
open Go.RowKit
set_option linter.unusedVariables false
set_option linter.unusedSimpArgs false
def Il (l : List Int) (i : Nat) (t : Int) : Nat:=i + ((l.drop i).takeWhile fun x => decide (x < t)).length
theorem JB {l : List Int} {i : Nat} {t : Int} (h : ∀ hi : i < l.length,¬ l[i] < t) : Il l i t = i:=by
 unfold Il
 rcases Nat.lt_or_ge i l.length with hi | hi
 ·rw [List.drop_eq_getElem_cons hi,List.takeWhile_cons,if_neg (by simpa using h hi)]; rfl
 ·rw [List.drop_of_length_le hi]; rfl
theorem Qd {l : List Int} {i : Nat} {t : Int} (hi : i < l.length) (h : l[i] < t) : Il l i t = Il l (i + 1) t:=by
 unfold Il
 rw [List.drop_eq_getElem_cons hi,List.takeWhile_cons,if_pos (by simpa using h),List.length_cons]; omega
theorem Qe {l : List Int} {t : Int} : ∀ (d i : Nat),i + d = l.length -> i <= Il l i t ∧ Il l i t <= l.length ∧ (∀ k (hk : k < l.length),i <= k -> k < Il l i t -> l[k] < t) ∧ (∀ h : Il l i t < l.length,t <= l[Il l i t])
 | 0,i,h => by
  have e : Il l i t = i:=JB fun hi => absurd hi (by omega)
  rw [e]
  exact ⟨Nat.le_refl _,by omega,fun k hk h1 h2 => by omega,fun h => by omega⟩
 | d + 1,i,h => by
  have hi : i < l.length:=by omega
  by_cases hc : l[i] < t
  ·obtain ⟨h1,h2,h3,h4⟩:=Qe (l:=l) (t:=t) d (i + 1) (by omega)
   rw [Qd hi hc]
   refine ⟨by omega,h2,fun k hk h5 h6 => ?_,h4⟩
   rcases Nat.lt_or_ge i k with h7 | h7
   ·exact h3 k hk h7 h6
   ·have : k = i:=by omega
    subst this; exact hc
  ·have e : Il l i t = i:=JB fun _ => hc
   rw [e]
   exact ⟨Nat.le_refl _,by omega,fun k hk h1 h2 => by omega,fun _ => by omega⟩
theorem dQ {l : List Int} {i : Nat} {t : Int} (hl : l.length <= lim) (hi : i <= l.length) : GZ l (i : Int) t = some ((Il l i t : Nat) : Int):=by
 unfold GZ
 rw [show (if (0 : Int) < (i : Int) then (i : Int) else 0) = (i : Int) by split <;> omega]
 obtain ⟨o,e,k,rfl,q1,q2⟩:=JV (B:=Ep l t) (fun s => ∃ k : Nat,s = (k : Int) ∧ k <= l.length ∧ Il l k t = Il l i t) (fun s => l.length - s.toNat) (fun o => ∃ k : Nat,o = (k : Int) ∧ k <= l.length ∧ k = Il l i t) (fun s hs => by
  obtain ⟨k,rfl,hk,he⟩:=hs
  rcases Nat.lt_or_ge k l.length with h1 | h1
  ·by_cases hc : l[k] < t
   ·right
    refine ⟨((k + 1 : Nat) : Int),⟨k + 1,rfl,h1,by rw [<- Qd h1 hc]; exact he⟩,by simp only [Int.toNat_natCast]; omega,fun rec => ?_⟩
    unfold Ep
    rw [Az h1,Ai h1,AF h1 (Au hl)]
    simp only [cond_true,Ad]
    rw [decide_eq_true hc]; rfl
   ·left
    refine ⟨(k : Int),⟨k,rfl,hk,by rw [<- he]; exact (JB fun _ => hc).symm⟩,fun rec => ?_⟩
    unfold Ep
    rw [Az h1,Ai h1]
    simp only [cond_true,Ad]
    rw [decide_eq_false hc]; rfl
  ·left
   refine ⟨(k : Int),⟨k,rfl,hk,by rw [<- he]; exact (JB fun hi => absurd hi (by omega)).symm⟩,fun rec => ?_⟩
   unfold Ep
   rw [decide_eq_false (by omega)]; rfl) fz (i : Int) ⟨i,rfl,hi,rfl⟩ (by unfold fz; unfold lim at hl; omega)
 rw [e]
 simp only [Ad]
 rw [<- q2]
 rw [if_neg (by omega : ¬ (l.length : Int) < 0),if_neg (by omega)]
def gL (M : List (List Int)) (j : Nat) : List Int:=(M[j]?).getD []
def gN (A : List Nat) (j : Nat) : Nat:=(A[j]?).getD 0
def gI (l : List Int) (i : Nat) : Int:=(l[i]?).getD 0
theorem LE {M : List (List Int)} {j : Nat} (h : j < M.length) : gL M j = M[j]:=by unfold gL; rw [List.getElem?_eq_getElem h]; rfl
theorem gf {A : List Nat} {j : Nat} (h : j < A.length) : gN A j = A[j]:=by unfold gN; rw [List.getElem?_eq_getElem h]; rfl
theorem JO {l : List Int} {i : Nat} (h : i < l.length) : gI l i = l[i]:=by unfold gI; rw [List.getElem?_eq_getElem h]; rfl
theorem QD {A : List Nat} {p j v : Nat} (hp : p < A.length) : gN (A.set p v) j = if j = p then v else gN A j:=by
 unfold gN
 rw [List.getElem?_set]
 by_cases h : p = j
 ·subst h
  rw [if_pos rfl,if_pos hp,if_pos rfl]; rfl
 ·rw [if_neg h,if_neg (fun e => h e.symm)]
abbrev LfS:=List Int × List Nat × Nat × Int × Nat
def lfI (M : List (List Int)) (s : LfS) : Nat:=cond (gI (gL M s.2.2.1) (gN s.2.1 s.2.2.1) == s.2.2.2.1) (gN s.2.1 s.2.2.1 + 1) (Il (gL M s.2.2.1) (gN s.2.1 s.2.2.1) s.2.2.2.1)
def lfO (M : List (List Int)) (s : LfS) : List Int:=cond (gI (gL M s.2.2.1) (gN s.2.1 s.2.2.1) == s.2.2.2.1) (s.1 ++ [s.2.2.2.1]) s.1
def lfR (M : List (List Int)) : Nat -> LfS -> Option (List Int × Nat)
 | 0,_ => none
 | m + 1,s => cond (lfI M s == (gL M s.2.2.1).length) (some (lfO M s,s.2.2.2.2 + 1)) (lfR M m (lfO M s,s.2.1.set s.2.2.1 (lfI M s),(s.2.2.1 + 1) % M.length,gI (gL M s.2.2.1) (lfI M s),s.2.2.2.2 + 1))
def Asc (l : List Int) : Prop:=l.Pairwise fun a b => a < b
def val (M : List (List Int)) (A : List Nat) (j : Nat) : Int:=gI (gL M j) (gN A j)
def Q2 (M : List (List Int)) (A : List Nat) : Nat -> Nat
 | 0 => 0
 | k + 1 => Q2 M A k + ((gL M k).length - gN A k)
def Comm (M : List (List Int)) (x : Int) : Prop := ∀ l ∈ M,x ∈ l
structure LfOk (M : List (List Int)) (s : LfS) : Prop where
 len : s.2.1.length = M.length
 p : s.2.2.1 < M.length
 at_ : ∀ j,j < M.length -> gN s.2.1 j < (gL M j).length
 ord : ∀ a b,a <= b -> b < M.length -> val M s.2.1 ((s.2.2.1 + a) % M.length) <= val M s.2.1 ((s.2.2.1 + b) % M.length)
 top : val M s.2.1 ((s.2.2.1 + (M.length - 1)) % M.length) = s.2.2.2.1
 asc : Asc s.1
 low : ∀ x ∈ s.1,x < s.2.2.2.1
 com : ∀ x ∈ s.1,Comm M x
 all : ∀ x,Comm M x -> x ∈ s.1 ∨ s.2.2.2.1 <= x
section
variable {M : List (List Int)} {s : LfS}
theorem SO {l : List Int} (h : Asc l) {i j : Nat} (hj : j < l.length) (hij : i < j) : l[i]'(by omega) < l[j]:=List.pairwise_iff_getElem.1 h i j (by omega) hj hij
theorem Ru {l : List Int} (h : Asc l) {x : Int} (hx : x ∈ l) {i : Nat} (hi : ∀ k (hk : k < l.length),k < i -> l[k] < x) (hil : i < l.length) : l[i] <= x:=by
 obtain ⟨k,hk,rfl⟩:=List.mem_iff_getElem.1 hx
 rcases Nat.lt_trichotomy k i with h1 | h1 | h1
 ·exact absurd (hi k hk h1) (by omega)
 ·subst h1; exact Int.le_refl _
 ·exact Int.le_of_lt (SO h hk h1)
theorem SP (h : LfOk M s) : ∃ hp : gN s.2.1 s.2.2.1 < (gL M s.2.2.1).length,gI (gL M s.2.2.1) (gN s.2.1 s.2.2.1) = (gL M s.2.2.1)[gN s.2.1 s.2.2.1] ∧ (gL M s.2.2.1)[gN s.2.1 s.2.2.1] <= s.2.2.2.1:=by
 have hp:=h.at_ _ h.p
 refine ⟨hp,JO hp,?_⟩
 have h1:=h.ord 0 (M.length - 1) (by omega) (by have:=h.p; omega)
 rw [Nat.add_zero,Nat.mod_eq_of_lt h.p,h.top] at h1
 unfold val at h1
 rw [JO hp] at h1
 exact h1
theorem RT (h : LfOk M s) : gN s.2.1 s.2.2.1 < lfI M s ∧ lfI M s <= (gL M s.2.2.1).length:=by
 obtain ⟨hp,e1,e2⟩:=SP h
 unfold lfI
 cases hc : (gI (gL M s.2.2.1) (gN s.2.1 s.2.2.1) == s.2.2.2.1) with
 | true => exact ⟨Nat.lt_succ_self _,hp⟩
 | false =>
  have hne : ¬ gI (gL M s.2.2.1) (gN s.2.1 s.2.2.1) = s.2.2.2.1:=by simpa using hc
  rw [e1] at hne
  have hlt : (gL M s.2.2.1)[gN s.2.1 s.2.2.1] < s.2.2.2.1:=by omega
  obtain ⟨q1,q2,q3,q4⟩:=Qe (l:=gL M s.2.2.1) (t:=s.2.2.2.1) ((gL M s.2.2.1).length - gN s.2.1 s.2.2.1) (gN s.2.1 s.2.2.1) (by omega)
  have q5 : Il (gL M s.2.2.1) (gN s.2.1 s.2.2.1) s.2.2.2.1 = Il (gL M s.2.2.1) (gN s.2.1 s.2.2.1 + 1) s.2.2.2.1:=Qd hp hlt
  obtain ⟨r1,_⟩:=Qe (l:=gL M s.2.2.1) (t:=s.2.2.2.1) ((gL M s.2.2.1).length - (gN s.2.1 s.2.2.1 + 1)) (gN s.2.1 s.2.2.1 + 1) (by omega)
  exact ⟨by rw [cond_false,q5]; omega,q2⟩
theorem La {j : Nat} (hj : j < M.length) : gL M j ∈ M:=by rw [LE hj]; exact List.getElem_mem hj
theorem X4 (h : LfOk M s) (hA : ∀ l ∈ M,Asc l) : Asc (lfO M s) ∧ (∀ x ∈ lfO M s,Comm M x ∧ x <= s.2.2.2.1) ∧ (∀ x,Comm M x -> x ∈ lfO M s ∨ ∃ hi : lfI M s < (gL M s.2.2.1).length,(gL M s.2.2.1)[lfI M s] <= x) ∧ (∀ hi : lfI M s < (gL M s.2.2.1).length,s.2.2.2.1 <= (gL M s.2.2.1)[lfI M s] ∧ ∀ x ∈ lfO M s,x < (gL M s.2.2.1)[lfI M s]):=by
 obtain ⟨hp,e1,e2⟩:=SP h
 have hl:=hA _ (La h.p)
 unfold lfI lfO
 cases hc : (gI (gL M s.2.2.1) (gN s.2.1 s.2.2.1) == s.2.2.2.1) with
 | true =>
  have he : gI (gL M s.2.2.1) (gN s.2.1 s.2.2.1) = s.2.2.2.1:=by simpa using hc
  rw [e1] at he
  simp only [cond_true]
  have hcom : Comm M s.2.2.2.1:=by
   intro l hlM
   obtain ⟨j,hj,rfl⟩:=List.mem_iff_getElem.1 hlM
   have hk : ∃ a,a < M.length ∧ (s.2.2.1 + a) % M.length = j:=by
    rcases Nat.lt_or_ge j s.2.2.1 with h1 | h1
    ·refine ⟨j + M.length - s.2.2.1,by have:=h.p; omega,?_⟩
     rw [show s.2.2.1 + (j + M.length - s.2.2.1) = j + M.length by have:=h.p; omega,Nat.add_mod_right,Nat.mod_eq_of_lt hj]
    ·exact ⟨j - s.2.2.1,by omega,by rw [show s.2.2.1 + (j - s.2.2.1) = j by omega,Nat.mod_eq_of_lt hj]⟩
   obtain ⟨a,ha,ej⟩:=hk
   have h1:=h.ord 0 a (by omega) ha
   have h2:=h.ord a (M.length - 1) (by omega) (by omega)
   rw [Nat.add_zero,Nat.mod_eq_of_lt h.p] at h1
   rw [h.top,ej] at h2
   rw [ej] at h1
   unfold val at h1 h2
   have hjl:=h.at_ j hj
   rw [e1,he] at h1
   rw [JO hjl] at h1 h2
   have : (gL M j)[gN s.2.1 j] = s.2.2.2.1:=by omega
   have hmm:=List.getElem_mem hjl
   rw [this,LE hj] at hmm
   exact hmm
  refine ⟨?_,?_,?_,?_⟩
  ·refine List.pairwise_append.2 ⟨h.asc,List.pairwise_singleton _ _,fun a ha b hb => ?_⟩
   rw [List.mem_singleton] at hb; subst hb
   exact h.low a ha
  ·intro x hx
   rcases List.mem_append.1 hx with hx | hx
   ·exact ⟨h.com x hx,Int.le_of_lt (h.low x hx)⟩
   ·rw [List.mem_singleton] at hx; subst hx; exact ⟨hcom,Int.le_refl _⟩
  ·intro x hx
   rcases h.all x hx with h1 | h1
   ·exact .inl (List.mem_append_left _ h1)
   ·by_cases hxt : x = s.2.2.2.1
    ·left; subst hxt; exact List.mem_append_right _ (by simp)
    ·right
     have hxl:=hx _ (La h.p)
     have hbelow : ∀ k (hk : k < (gL M s.2.2.1).length),k < gN s.2.1 s.2.2.1 + 1 -> (gL M s.2.2.1)[k] < x:=fun k hk h2 => by
      rcases Nat.lt_or_ge k (gN s.2.1 s.2.2.1) with h3 | h3
      ·have:=SO hl hp h3; omega
      ·have : k = gN s.2.1 s.2.2.1:=by omega
       subst this; omega
     have hi : gN s.2.1 s.2.2.1 + 1 < (gL M s.2.2.1).length:=by
      apply Classical.byContradiction
      intro hn
      obtain ⟨k,hk,rfl⟩:=List.mem_iff_getElem.1 hxl
      have:=hbelow k hk (by omega)
      omega
     exact ⟨hi,Ru hl hxl hbelow hi⟩
  ·intro hi
   have h1:=SO hl hi (Nat.lt_succ_self _)
   rw [he] at h1
   refine ⟨Int.le_of_lt h1,fun x hx => ?_⟩
   rcases List.mem_append.1 hx with hx | hx
   ·have:=h.low x hx; omega
   ·rw [List.mem_singleton] at hx; subst hx; exact h1
 | false =>
  have hne : ¬ gI (gL M s.2.2.1) (gN s.2.1 s.2.2.1) = s.2.2.2.1:=by simpa using hc
  rw [e1] at hne
  simp only [cond_false]
  obtain ⟨q1,q2,q3,q4⟩:=Qe (l:=gL M s.2.2.1) (t:=s.2.2.2.1) ((gL M s.2.2.1).length - gN s.2.1 s.2.2.1) (gN s.2.1 s.2.2.1) (by omega)
  refine ⟨h.asc,fun x hx => ⟨h.com x hx,Int.le_of_lt (h.low x hx)⟩,fun x hx => ?_,fun hi => ⟨q4 hi,fun x hx => by have:=h.low x hx; have:=q4 hi; omega⟩⟩
  rcases h.all x hx with h1 | h1
  ·exact .inl h1
  ·right
   have hxl:=hx _ (La h.p)
   have hbelow : ∀ k (hk : k < (gL M s.2.2.1).length),k < Il (gL M s.2.2.1) (gN s.2.1 s.2.2.1) s.2.2.2.1 -> (gL M s.2.2.1)[k] < x:=fun k hk h2 => by
    rcases Nat.lt_or_ge k (gN s.2.1 s.2.2.1) with h3 | h3
    ·have:=SO hl hp h3; omega
    ·have:=q3 k hk h3 h2; omega
   have hi : Il (gL M s.2.2.1) (gN s.2.1 s.2.2.1) s.2.2.2.1 < (gL M s.2.2.1).length:=by
    apply Classical.byContradiction
    intro hn
    obtain ⟨k,hk,rfl⟩:=List.mem_iff_getElem.1 hxl
    have:=hbelow k hk (by omega)
    omega
   exact ⟨hi,Ru hl hxl hbelow hi⟩
theorem RU (h : LfOk M s) (hA : ∀ l ∈ M,Asc l) (hi : lfI M s < (gL M s.2.2.1).length) : LfOk M (lfO M s,s.2.1.set s.2.2.1 (lfI M s),(s.2.2.1 + 1) % M.length,gI (gL M s.2.2.1) (lfI M s),s.2.2.2.2 + 1):=by
 have hpl : s.2.2.1 < s.2.1.length:=by rw [h.len]; exact h.p
 have hk0 : 0 < M.length:=by have:=h.p; omega
 obtain ⟨o1,o2,o3,o4⟩:=X4 h hA
 obtain ⟨t1,t2⟩:=o4 hi
 have hv : ∀ j,val M (s.2.1.set s.2.2.1 (lfI M s)) j = if j = s.2.2.1 then (gL M s.2.2.1)[lfI M s] else val M s.2.1 j:=fun j => by
  unfold val
  rw [QD hpl]
  by_cases hj : j = s.2.2.1
  ·subst hj; rw [if_pos rfl,if_pos rfl,JO hi]
  ·rw [if_neg hj,if_neg hj]
 have hidx : ∀ a,a < M.length -> ((s.2.2.1 + 1) % M.length + a) % M.length = if a + 1 = M.length then s.2.2.1 else (s.2.2.1 + (a + 1)) % M.length:=fun a ha => by
  rw [Nat.mod_add_mod]
  split
  ·rename_i h1
   rw [show s.2.2.1 + 1 + a = s.2.2.1 + M.length by omega,Nat.add_mod_right,Nat.mod_eq_of_lt h.p]
  ·rw [show s.2.2.1 + 1 + a = s.2.2.1 + (a + 1) by omega]
 have hneq : ∀ a,0 < a -> a < M.length -> (s.2.2.1 + a) % M.length ≠ s.2.2.1:=fun a h0 h1 he => by
  rcases Nat.lt_or_ge (s.2.2.1 + a) M.length with h2 | h2
  ·rw [Nat.mod_eq_of_lt h2] at he; omega
  ·rw [Nat.mod_eq_sub_mod h2,Nat.mod_eq_of_lt (by have:=h.p; omega)] at he; omega
 refine ⟨by simp only [List.length_set]; exact h.len,Nat.mod_lt _ hk0,fun j hj => ?_,fun a b hab hb => ?_,?_,o1,fun x hx => ?_,fun x hx => (o2 x hx).1,fun x hx => ?_⟩
 ·simp only
  rw [QD hpl]
  split
  ·rename_i e; subst e; exact hi
  ·exact h.at_ j hj
 ·simp only
  rw [hidx a (by omega),hidx b hb,hv,hv]
  by_cases hb1 : b + 1 = M.length
  ·rw [if_pos hb1,if_pos rfl]
   by_cases ha1 : a + 1 = M.length
   ·rw [if_pos ha1,if_pos rfl]; exact Int.le_refl _
   ·rw [if_neg ha1,if_neg (hneq (a + 1) (by omega) (by omega))]
    have:=h.ord (a + 1) (M.length - 1) (by omega) (by omega)
    rw [h.top] at this
    omega
  ·rw [if_neg hb1,if_neg (by omega : ¬ a + 1 = M.length),if_neg (hneq (b + 1) (by omega) (by omega)),if_neg (hneq (a + 1) (by omega) (by omega))]
   exact h.ord (a + 1) (b + 1) (by omega) (by omega)
 ·simp only
  rw [hidx (M.length - 1) (by omega),if_pos (by omega),hv,if_pos rfl,JO hi]
 ·simp only
  rw [JO hi]
  exact t2 x hx
 ·simp only
  rw [JO hi]
  rcases o3 x hx with h1 | ⟨_,h1⟩
  ·exact .inl h1
  ·exact .inr h1
theorem P8 {A : List Nat} {p v : Nat} (hp : p < A.length) (h1 : gN A p < v) (h2 : v <= (gL M p).length) : ∀ K,(K <= p -> Q2 M (A.set p v) K = Q2 M A K) ∧ (p < K -> Q2 M (A.set p v) K < Q2 M A K)
 | 0 => ⟨fun _ => rfl,fun h => absurd h (by omega)⟩
 | K + 1 => by
  obtain ⟨i1,i2⟩:=P8 hp h1 h2 K
  rw [Q2,Q2,QD hp]
  refine ⟨fun h => ?_,fun h => ?_⟩
  ·rw [i1 (by omega),if_neg (by omega)]
  ·by_cases hk : K = p
   ·subst hk
    rw [i1 (Nat.le_refl _),if_pos rfl]; omega
   ·rw [if_neg hk]
    have:=i2 (by omega)
    omega
theorem X5 (hA : ∀ l ∈ M,Asc l) : ∀ (m : Nat) (s : LfS),LfOk M s -> Q2 M s.2.1 M.length < m -> ∃ out n,lfR M m s = some (out,n) ∧ Asc out ∧ (∀ x,x ∈ out ↔ Comm M x) ∧ n <= s.2.2.2.2 + Q2 M s.2.1 M.length
 | 0,s,h,hm => by omega
 | m + 1,s,h,hm => by
  obtain ⟨o1,o2,o3,o4⟩:=X4 h hA
  obtain ⟨n1,n2⟩:=RT h
  have hpl : s.2.2.1 < s.2.1.length:=by rw [h.len]; exact h.p
  have hrem:=(P8 (M:=M) hpl n1 n2 M.length).2 h.p
  rw [lfR]
  cases hc : (lfI M s == (gL M s.2.2.1).length) with
  | true =>
   have hc : lfI M s = (gL M s.2.2.1).length:=by simpa using hc
   refine ⟨_,_,rfl,o1,fun x => ⟨fun hx => (o2 x hx).1,fun hx => ?_⟩,by omega⟩
   rcases o3 x hx with h1 | ⟨h1,_⟩
   ·exact h1
   ·omega
  | false =>
   have hc : ¬ lfI M s = (gL M s.2.2.1).length:=by simpa using hc
   obtain ⟨out,n,e,q1,q2,q3⟩:=X5 hA m _ (RU h hA (by omega)) (by simp only; omega)
   exact ⟨out,n,e,q1,q2,by simp only at q3; omega⟩
end
end Go.Proofs.YtkclaipnejgloaaGreatDoor
