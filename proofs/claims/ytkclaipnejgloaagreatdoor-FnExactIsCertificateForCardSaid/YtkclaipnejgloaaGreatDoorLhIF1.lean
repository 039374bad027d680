/-
 The leapfrog intersection of the reference: its value. On the printed functions; conditions: sizes.
-/
import Derived.Test.YtkclaipnejgloaaGreatDoorLgIF1
namespace Go.Proofs.YtkclaipnejgloaaGreatDoor
open Go.RowKit
set_option linter.unusedVariables false
set_option linter.unusedSimpArgs false
def Tk (L : List (List Int)) : Prop:=L.length <= 5 ∧ ∀ l ∈ L,l.length <= 4000
theorem Tk.lim {L : List (List Int)} (h : Tk L) : L.length <= Go.Proofs.YtkclaipnejgloaaGreatDoor.lim ∧ ∀ l ∈ L,l.length <= Go.Proofs.YtkclaipnejgloaaGreatDoor.lim:=⟨by have:=h.1; unfold Go.Proofs.YtkclaipnejgloaaGreatDoor.lim; omega,fun l hl => by have:=h.2 l hl; unfold Go.Proofs.YtkclaipnejgloaaGreatDoor.lim; omega⟩
def Nw (L : List (List Int)) : Bool := !(Ay L fun _ l => Ay l (Hs l)) && decide (0 < (L.length : Int))
theorem aI {l : List Int} (h : Ay l (Hs l) = false) : Asc l:=by
 have hs : ∀ k (hk : k + 1 < l.length),l[k]'(by omega) < l[k + 1]:=fun k hk => by
  have:=FE h hk
  unfold Hs at this
  rw [decide_eq_true (by omega),Bool.true_and,show k + 1 - 1 = k by omega,AN (by omega)] at this
  have:=of_decide_eq_false this
  omega
 unfold Asc
 rw [List.pairwise_iff_getElem]
 intro i j hi hj hij
 induction j with
 | zero => omega
 | succ j ih =>
  rcases Nat.lt_or_ge i j with h1 | h1
  ·have:=ih (by omega) h1
   have:=hs j hj
   omega
  ·have : i = j:=by omega
   subst this
   exact hs i hj
section
variable {L : List (List Int)}
theorem dC (h : Tk L) : IY L = some (Nw L):=by
 unfold IY Nw
 have hl:=h.lim
 have:=Bh (B:=G0 L) (n:=L.length) (fun k => atB L k fun l => Ay l (Hs l)) hl.1 (fun k hk rec => by
  unfold G0
  rw [Az hk,Ai hk,AF hk (Au hl.1),AN hk]
  simp only [cond_true,Ad]
  rw [dD (hl.2 _ (List.getElem_mem hk))]
  simp only
  cases Ay L[k] (Hs L[k]) <;> rfl) (fun rec => by unfold G0; rw [Ax]; rfl)
 rw [this]
 have e : (List.range L.length).any (fun k => atB L k fun l => Ay l (Hs l)) = Ay L fun _ l => Ay l (Hs l):=rfl
 rw [e]
 cases Ay L fun _ l => Ay l (Hs l) <;> rfl
def shK (L : List (List Int)) : Nat -> Int
 | 0 => 0
 | k + 1 => if k = 0 ∨ ((gL L k).length : Int) < shK L k then ((gL L k).length : Int) else shK L k
theorem VT : ∀ {k : Nat},0 < k -> k <= L.length -> (shK L k = 0 ↔ ∃ j,j < k ∧ (gL L j).length = 0) ∧ 0 <= shK L k
 | 0,h,_ => absurd h (by omega)
 | k + 1,_,hk => by
  rw [shK]
  by_cases h0 : k = 0
  ·subst h0
   rw [if_pos (.inl rfl)]
   refine ⟨⟨fun h => ⟨0,by omega,by omega⟩,fun ⟨j,hj,e⟩ => ?_⟩,by omega⟩
   have : j = 0:=by omega
   subst this; omega
  ·obtain ⟨i1,i2⟩:=VT (k:=k) (by omega) (by omega)
   by_cases hc : ((gL L k).length : Int) < shK L k
   ·rw [if_pos (.inr hc)]
    refine ⟨⟨fun h => ⟨k,by omega,by omega⟩,fun ⟨j,hj,e⟩ => ?_⟩,by omega⟩
    rcases Nat.lt_or_ge j k with h1 | h1
    ·have:=i1.2 ⟨j,h1,e⟩; omega
    ·have : j = k:=by omega
     subst this; omega
   ·rw [if_neg (by omega)]
    refine ⟨⟨fun h => ?_,fun ⟨j,hj,e⟩ => ?_⟩,i2⟩
    ·obtain ⟨j,hj,e⟩:=i1.1 h
     exact ⟨j,by omega,e⟩
    ·rcases Nat.lt_or_ge j k with h1 | h1
     ·exact i1.2 ⟨j,h1,e⟩
     ·have : j = k:=by omega
      subst this; omega
theorem ZZ (h : Tk L) : ED L = some (shK L L.length):=by
 unfold ED
 have hl:=h.lim
 have:=B8 (body:=A6 L) (out:=shK L L.length) (fun k => (shK L k,(k : Int))) L.length (fun k hk rec => by
  have hJ : ∀ x,B5 rec (k : Int) x = rec (x,((k + 1 : Nat) : Int)):=fun x => by unfold B5; rw [AF hk (Au hl.1)]
  unfold A6
  simp only
  rw [Az hk,shK,LE hk]
  simp only [cond_true]
  by_cases h0 : k = 0
  ·subst h0
   rw [if_pos (.inl rfl)]
   show A7 rec L (shK L 0) ((0 : Nat) : Int) true = _
   unfold A7
   rw [Ai hk]
   exact hJ _
  ·rw [show (((k : Nat) : Int) == 0) = false by rw [beq_eq_false_iff_ne]; omega,Ai hk]
   simp only [cond_false,Ad]
   by_cases hc : (L[k].length : Int) < shK L k
   ·rw [if_pos (.inr hc),decide_eq_true hc]
    unfold A7
    rw [Ai hk]
    exact hJ _
   ·rw [if_neg (by omega),decide_eq_false hc]
    unfold A7
    exact hJ _) (fun rec => by unfold A6; simp only; rw [Ax]; rfl) fz (FZ hl.1)
 have h2 : Ah (A6 L) fz (0,0) = some (shK L L.length):=this
 rw [h2]; rfl
theorem jG (h : Tk L) (hne : ∀ l ∈ L,0 < l.length) : Hw L = some (oxI L):=by
 unfold Hw
 have hl:=h.lim
 have hl1:=h.1
 have gh : ∀ j (hj : j < L.length),AA L[j] 0 = some (hdI (gL L j)):=fun j hj => by
  have:=hne _ (List.getElem_mem hj)
  have e : AA L[j] ((0 : Nat) : Int) = some (L[j][0]'this):=Ai this
  unfold hdI
  rw [LE hj,JO this]
  exact e
 have:=B8 (body:=EQ L) (out:=oxI L) (fun i => ((oxK L i).map fun (j : Nat) => (j : Int),(i : Int))) L.length (fun i hi rec => by
  have hol:=Kt L i
  generalize hY : ((oxK L i).map fun (j : Nat) => (j : Int)) = Y
  have hYl : Y.length = i:=by rw [<- hY,List.length_map,hol]
  have hin : Ah (DQ L Y (i : Int)) fz (Y.length : Int) = some ((scP ((oxK L i).map fun j => hdI (gL L j)) (hdI (gL L i)) i : Nat) : Int):=by
   obtain ⟨o,e,k,rfl,q1,q2⟩:=JV (B:=DQ L Y (i : Int)) (fun s => ∃ k : Nat,s = (k : Int) ∧ k <= i ∧ scP ((oxK L i).map fun j => hdI (gL L j)) (hdI (gL L i)) k = scP ((oxK L i).map fun j => hdI (gL L j)) (hdI (gL L i)) i) (fun s => s.toNat) (fun o => ∃ k : Nat,o = (k : Int) ∧ k <= i ∧ k = scP ((oxK L i).map fun j => hdI (gL L j)) (hdI (gL L i)) i) (fun s hs => by
    obtain ⟨k,rfl,hk,he⟩:=hs
    cases k with
    | zero =>
     left
     exact ⟨((0 : Nat) : Int),⟨0,rfl,hk,by rw [<- he]; rfl⟩,fun rec => by unfold DQ; rfl⟩
    | succ k =>
     have hko : k < (oxK L i).length:=by omega
     have hkL : (oxK L i)[k] < L.length:=by have:=(LW L i _).1 (List.getElem_mem hko); omega
     have g1 : AA Y (IntKind.i64.wrap (((k + 1 : Nat) : Int) - 1)) = some (((oxK L i)[k] : Nat) : Int):=by
      rw [wrap_in (by omega),show ((k + 1 : Nat) : Int) - 1 = (k : Int) by omega,<- hY,F0,List.getElem?_map,List.getElem?_eq_getElem hko]; rfl
     have hH : gI ((oxK L i).map fun j => hdI (gL L j)) k = hdI (gL L (oxK L i)[k]):=by rw [JO (by rw [List.length_map]; exact hko),List.getElem_map]
     have e1 : ∀ rec,DQ L Y (i : Int) rec ((k + 1 : Nat) : Int) = cond (decide (hdI (gL L i) < hdI (gL L (oxK L i)[k]))) (rec (k : Int)) (some ((k + 1 : Nat) : Int)):=fun rec => by
      unfold DQ
      rw [decide_eq_true (by omega : (0 : Int) < ((k + 1 : Nat) : Int)),g1]
      simp only [cond_true,Ad]
      rw [Ai hkL]
      simp only [gh _ hkL]
      rw [Ai hi]
      simp only [gh _ hi]
      rw [wrap_in (by omega),show ((k + 1 : Nat) : Int) - 1 = (k : Int) by omega]
     rw [scP,hH] at he
     by_cases hc : hdI (gL L i) < hdI (gL L (oxK L i)[k])
     ·right
      rw [if_pos hc] at he
      exact ⟨(k : Int),⟨k,rfl,by omega,he⟩,by simp only [Int.toNat_natCast]; omega,fun rec => by rw [e1,decide_eq_true hc]; rfl⟩
     ·left
      rw [if_neg hc] at he
      exact ⟨((k + 1 : Nat) : Int),⟨k + 1,rfl,hk,he⟩,fun rec => by rw [e1,decide_eq_false hc]; rfl⟩) fz (Y.length : Int) ⟨i,by rw [hYl],Nat.le_refl _,rfl⟩ (by unfold fz; simp only [Int.toNat_natCast]; omega)
   rw [e,q2]
  have hsc:=VQ ((oxK L i).map fun j => hdI (gL L j)) (hdI (gL L i)) i
  rw [oxK,R5,hY]
  generalize scP ((oxK L i).map fun j => hdI (gL L j)) (hdI (gL L i)) i = k at hin hsc
  unfold EQ
  simp only
  rw [Az hi,hin]
  simp only [cond_true,Ad,List.nil_append]
  have e1 : Cq Y 0 (k : Int) = Y.take k:=Nn Y k
  have e2 : Cq Y (k : Int) (Y.length : Int) = Y.drop k:=by unfold Cq; rw [Int.toNat_natCast,Int.toNat_natCast,List.take_length]
  rw [e1,e2,Ar (by omega),Ar (by simp only [List.length_nil,List.length_take]; unfold lim; omega),Ar (by simp only [List.length_take,List.length_singleton]; unfold lim; omega),Ar (by omega),Ar (by simp only [List.length_append,List.length_take,List.length_singleton,List.length_drop]; unfold lim; omega),AF hi (Au hl.1)]
  unfold putAt
  rw [List.append_assoc]; rfl) (fun rec => by unfold EQ; simp only; rw [Ax]; rfl) fz (FZ hl.1)
 have h2 : Ah (EQ L) fz ([],0) = some (oxI L):=this
 rw [h2]; rfl
def lfB (L : List (List Int)) : List Int × Int:=cond (Nw L && !(shK L L.length == 0)) (((lfR (rkL L) fz (lf0 (rkL L))).map fun r => (r.1,(r.2 : Int))).getD ([],0)) ([],0)
theorem Mj (h : Nw L = true) : 0 < L.length ∧ ∀ l ∈ L,Asc l:=by
 unfold Nw at h
 rw [Bool.and_eq_true,Bool.not_eq_true',decide_eq_true_eq] at h
 refine ⟨by omega,fun l hl => ?_⟩
 obtain ⟨k,hk,rfl⟩:=List.mem_iff_getElem.1 hl
 exact aI (FE h.1 hk)
theorem Qf (h0 : 0 < L.length) (h : (shK L L.length == 0) = false) : ∀ l ∈ L,0 < l.length:=fun l hl => by
 obtain ⟨k,hk,rfl⟩:=List.mem_iff_getElem.1 hl
 rcases Nat.eq_zero_or_pos (L[k].length) with h1 | h1
 ·have:=((VT h0 (Nat.le_refl _)).1).2 ⟨k,hk,by rw [LE hk]; exact h1⟩
  rw [this] at h; cases h
 ·exact h1
theorem Zn (h : Tk L) (h1 : Nw L = true) (h2 : (shK L L.length == 0) = false) : ∃ out n,lfR (rkL L) fz (lf0 (rkL L)) = some (out,n) ∧ Asc out ∧ (∀ x,x ∈ out ↔ ∀ l ∈ L,x ∈ l) ∧ n <= 20000:=by
 obtain ⟨f1,f2⟩:=Mj h1
 have f3:=Qf f1 h2
 have hok:=U3 f1 f3 f2
 have hr:=Tf (M:=rkL L) (A:=(lf0 (rkL L)).2.1) (B:=4000) (fun l hl => h.2 l ((JA L l).1 hl)) (rkL L).length (Nat.le_refl _)
 have hk:=h.1
 rw [<- Jz L] at hk
 have hr2 : Q2 (rkL L) (lf0 (rkL L)).2.1 (rkL L).length <= 20000:=Nat.le_trans hr (by have:=Nat.mul_le_mul_right 4000 hk; omega)
 obtain ⟨out,n,e,q1,q2,q3⟩:=X5 (M:=rkL L) (fun l hl => f2 l ((JA L l).1 hl)) fz _ hok (by unfold fz; omega)
 exact ⟨out,n,e,q1,fun x => by rw [q2]; exact YQ L x,by have : (lf0 (rkL L)).2.2.2.2 = 0:=rfl; omega⟩
theorem U4 (h : Tk L) : Asc (lfB L).1 ∧ (∀ x ∈ (lfB L).1,∀ l ∈ L,x ∈ l) ∧ (∀ l ∈ L,(lfB L).1.length <= l.length) ∧ 0 <= (lfB L).2 ∧ (lfB L).2 <= 20000:=by
 unfold lfB
 cases h1 : Nw L with
 | false => exact ⟨List.Pairwise.nil,fun x hx => (by cases hx),fun l hl => Nat.zero_le _,by simp,by simp⟩
 | true =>
  cases h2 : (shK L L.length == 0) with
  | true => exact ⟨List.Pairwise.nil,fun x hx => (by cases hx),fun l hl => Nat.zero_le _,by simp,by simp⟩
  | false =>
   obtain ⟨out,n,e,q1,q2,q3⟩:=Zn h h1 h2
   simp only [Bool.not_false,Bool.and_self,cond_true,e,Option.map_some,Option.getD_some]
   refine ⟨q1,fun x hx => (q2 x).1 hx,fun l hl => ?_,by omega,by omega⟩
   exact SX (List.nodup_iff_pairwise_ne.2 (q1.imp fun h e => by omega)) fun x hx => (q2 x).1 hx l hl
theorem lf (h : Tk L) : Df L = some (lfB L):=by
 have hl:=h.lim
 have hl1:=h.1
 unfold Df lfB
 rw [dC h]
 simp only [Ad]
 cases h1 : Nw L with
 | false => rfl
 | true =>
  simp only [Bool.not_true,cond_false,Bool.true_and]
  rw [ZZ h]
  simp only
  cases h2 : (shK L L.length == 0) with
  | true => rfl
  | false =>
   obtain ⟨f1,f2⟩:=Mj h1
   have f3:=Qf f1 h2
   obtain ⟨out,n,e,_,_,hn⟩:=Zn h h1 h2
   simp only [cond_false,Bool.not_false,cond_true]
   rw [jG h f3]
   simp only
   have hol : (oxI L).length = L.length:=by unfold oxI; rw [List.length_map,Kt]
   have hlast : L.length - 1 < (oxK L L.length).length:=by rw [Kt]; omega
   have hqL : (oxK L L.length)[L.length - 1] < L.length:=(LW L _ _).1 (List.getElem_mem hlast)
   have g1 : AA (oxI L) (IntKind.i64.wrap (((oxI L).length : Int) - 1)) = some (((oxK L L.length)[L.length - 1] : Nat) : Int):=by
    rw [hol,wrap_in (by omega),show (L.length : Int) - 1 = ((L.length - 1 : Nat) : Int) by omega]
    unfold oxI
    rw [F0,List.getElem?_map,List.getElem?_eq_getElem hlast]; rfl
   have gM : gL (rkL L) (L.length - 1) = L[(oxK L L.length)[L.length - 1]]:=by unfold rkL; rw [SG _ _ hlast,LE hqL]
   have g3 : AA L[(oxK L L.length)[L.length - 1]] 0 = some (lf0 (rkL L)).2.2.2.1:=by
    have hp:=f3 _ (List.getElem_mem hqL)
    have e0 : AA L[(oxK L L.length)[L.length - 1]] ((0 : Nat) : Int) = some (L[(oxK L L.length)[L.length - 1]][0]'hp):=Ai hp
    unfold lf0 hdI
    simp only
    rw [Jz,gM,JO hp]
    exact e0
   rw [Ar (by rw [Int.toNat_natCast]; exact ⟨by omega,hl.1⟩),g1]
   simp only
   rw [Ai hqL]
   simp only [g3]
   have hok:=U3 f1 f3 f2
   have hr:=Tf (M:=rkL L) (A:=(lf0 (rkL L)).2.1) (B:=4000) (fun l hl => h.2 l ((JA L l).1 hl)) (rkL L).length (Nat.le_refl _)
   rw [Jz] at hr
   have hr2 : Q2 (rkL L) (lf0 (rkL L)).2.1 (rkL L).length <= 20000:=by rw [Jz]; exact Nat.le_trans hr (by have:=Nat.mul_le_mul_right 4000 hl1; omega)
   have hrun:=dO hl.1 hl.2 f2 fz (lf0 (rkL L)) (List.replicate L.length (0 : Int)) hok ⟨by rw [List.length_replicate],fun j hj => by
    have hjm:=(LW L _ _).1 (List.getElem_mem hj)
    have hz : gN (lf0 (rkL L)).2.1 j = 0:=UC _ _
    rw [hz,F0,List.getElem?_replicate,if_pos hjm]; rfl,Nat.le_refl _⟩ (by have : (lf0 (rkL L)).2.2.2.2 = 0:=rfl; unfold lim; omega)
   rw [Int.toNat_natCast]
   have hst : ((([] : List Int),List.replicate L.length (0 : Int),(0 : Int),(lf0 (rkL L)).2.2.2.1,(0 : Int))) = ((lf0 (rkL L)).1,List.replicate L.length (0 : Int),(((lf0 (rkL L)).2.2.1 : Nat) : Int),(lf0 (rkL L)).2.2.2.1,(((lf0 (rkL L)).2.2.2.2 : Nat) : Int)):=rfl
   rw [hst,hrun,e]
   rfl
end
end Go.Proofs.YtkclaipnejgloaaGreatDoor
