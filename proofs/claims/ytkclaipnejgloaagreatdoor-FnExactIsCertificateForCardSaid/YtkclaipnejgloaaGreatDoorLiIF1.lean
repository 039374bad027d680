/-
 The leapfrog intersection of the program. On the printed functions; conditions: sizes.
-/
import Derived.Test.YtkclaipnejgloaaGreatDoorLjIF1
namespace Go.Proofs.YtkclaipnejgloaaGreatDoor
open Go.RowKit
set_option linter.unusedVariables false
set_option linter.unusedSimpArgs false
theorem bq {l : List Int} {i : Nat} {t : Int} (hl : l.length <= lim) (hi : i <= l.length) : GP l (i : Int) t = some ((Il l i t : Nat) : Int):=by
 unfold GP
 rw [show (if (0 : Int) < (i : Int) then (i : Int) else 0) = (i : Int) by split <;> omega]
 obtain ⟨o,e,k,q0,q1,q2⟩:=JV (B:=Eg l t) (fun s => ∃ k : Nat,s = (k : Int) ∧ k <= l.length ∧ Il l k t = Il l i t) (fun s => l.length - s.toNat) (fun o => ∃ k : Nat,(o = .inr (k : Int) ∨ (o = .inl () ∧ k = l.length)) ∧ k <= l.length ∧ k = Il l i t) (fun s hs => by
  obtain ⟨k,rfl,hk,he⟩:=hs
  rcases Nat.lt_or_ge k l.length with h1 | h1
  ·by_cases hc : l[k] < t
   ·right
    refine ⟨((k + 1 : Nat) : Int),⟨k + 1,rfl,h1,by rw [<- Qd h1 hc]; exact he⟩,by simp only [Int.toNat_natCast]; omega,fun rec => ?_⟩
    unfold Eg
    rw [Az h1,Ai h1,AF h1 (Au hl)]
    simp only [cond_true,Ad]
    rw [decide_eq_false (by omega)]; rfl
   ·left
    refine ⟨.inr (k : Int),⟨k,.inl rfl,hk,by rw [<- he]; exact (JB fun _ => hc).symm⟩,fun rec => ?_⟩
    unfold Eg
    rw [Az h1,Ai h1]
    simp only [cond_true,Ad]
    rw [decide_eq_true (by omega)]; rfl
  ·left
   refine ⟨.inl (),⟨k,.inr ⟨rfl,by omega⟩,hk,by rw [<- he]; exact (JB fun hi => absurd hi (by omega)).symm⟩,fun rec => ?_⟩
   unfold Eg
   rw [decide_eq_false (by omega)]; rfl) fz (i : Int) ⟨i,rfl,hi,rfl⟩ (by unfold fz; unfold lim at hl; omega)
 rw [e]
 simp only [Ad]
 rcases q0 with rfl | ⟨rfl,q3⟩
 ·simp only; rw [q2]
 ·simp only; rw [<- q2,q3]
section
variable {L : List (List Int)}
theorem bb (h : Tk L) : Ew L = some (Nw L):=by
 unfold Ew Nw
 have hl:=h.lim
 have:=Bh (B:=C9 L) (n:=L.length) (fun k => atB L k fun l => Ay l (Hs l)) hl.1 (fun k hk rec => by
  unfold C9
  rw [Az hk,Ai hk,AF hk (Au hl.1),AN hk]
  simp only [cond_true,Ad]
  rw [gk (hl.2 _ (List.getElem_mem hk))]
  simp only
  cases Ay L[k] (Hs L[k]) <;> rfl) (fun rec => by unfold C9; rw [Ax]; rfl)
 rw [this]
 have e : (List.range L.length).any (fun k => atB L k fun l => Ay l (Hs l)) = Ay L fun _ l => Ay l (Hs l):=rfl
 rw [e]
 cases Ay L fun _ l => Ay l (Hs l) <;> rfl
theorem Za (h : Tk L) : Ev L = some (shK L L.length):=by
 unfold Ev
 have hl:=h.lim
 have:=B8 (body:=A5 L) (out:=shK L L.length) (fun k => (shK L k,(k : Int))) L.length (fun k hk rec => by
  have hJ : ∀ x,B4 rec (k : Int) x = rec (x,((k + 1 : Nat) : Int)):=fun x => by unfold B4; rw [AF hk (Au hl.1)]
  unfold A5
  simp only
  rw [Az hk,shK,LE hk,Ai hk]
  simp only [cond_true,Ad]
  by_cases h0 : k = 0
  ·subst h0
   rw [if_pos (.inl rfl)]
   exact hJ _
  ·rw [show (((k : Nat) : Int) == 0) = false by rw [beq_eq_false_iff_ne]; omega]
   simp only [cond_false]
   by_cases hc : (L[k].length : Int) < shK L k
   ·rw [if_pos (.inr hc),decide_eq_true hc]
    exact hJ _
   ·rw [if_neg (by omega),decide_eq_false hc]
    exact hJ _) (fun rec => by unfold A5; simp only; rw [Ax]; rfl) fz (FZ hl.1)
 have h2 : Ah (A5 L) fz (0,0) = some (shK L L.length):=this
 rw [h2]; rfl
theorem UL {l : List Int} (hp : 0 < l.length) : AA l 0 = some (hdI l):=by
 have e : AA l ((0 : Nat) : Int) = some (l[0]'hp):=Ai hp
 unfold hdI
 rw [JO hp]
 exact e
theorem bi (h : Tk L) (hne : ∀ l ∈ L,0 < l.length) : Ah (Bi L) fz (([] : List (List Int)),0) = some (rkL L):=by
 have hl:=h.lim
 have hl1:=h.1
 have:=B8 (body:=Bi L) (out:=rkL L) (fun i => ((oxK L i).map (gL L),(i : Int))) L.length (fun i hi rec => by
  have hol:=Kt L i
  have hpi:=hne _ (List.getElem_mem hi)
  have hLi : gL L i = L[i]:=LE hi
  generalize hY : (oxK L i).map (gL L) = Y
  have hYl : Y.length = i:=by rw [<- hY,List.length_map,hol]
  have hin : Ah (A1 Y L[i]) fz (Y.length : Int) = some ((scP ((oxK L i).map fun j => hdI (gL L j)) (hdI (gL L i)) i : Nat) : Int):=by
   obtain ⟨o,e,k,rfl,q1,q2⟩:=JV (B:=A1 Y L[i]) (fun s => ∃ k : Nat,s = (k : Int) ∧ k <= i ∧ scP ((oxK L i).map fun j => hdI (gL L j)) (hdI (gL L i)) k = scP ((oxK L i).map fun j => hdI (gL L j)) (hdI (gL L i)) i) (fun s => s.toNat) (fun o => ∃ k : Nat,o = (k : Int) ∧ k <= i ∧ k = scP ((oxK L i).map fun j => hdI (gL L j)) (hdI (gL L i)) i) (fun s hs => by
    obtain ⟨k,rfl,hk,he⟩:=hs
    cases k with
    | zero =>
     left
     exact ⟨((0 : Nat) : Int),⟨0,rfl,hk,by rw [<- he]; rfl⟩,fun rec => by unfold A1; rfl⟩
    | succ k =>
     have hko : k < (oxK L i).length:=by omega
     have hkL : (oxK L i)[k] < L.length:=by have:=(LW L i _).1 (List.getElem_mem hko); omega
     have g1 : AA Y (IntKind.i64.wrap (((k + 1 : Nat) : Int) - 1)) = some (gL L (oxK L i)[k]):=by
      rw [wrap_in (by omega),show ((k + 1 : Nat) : Int) - 1 = (k : Int) by omega,<- hY,F0,List.getElem?_map,List.getElem?_eq_getElem hko]; rfl
     have hH : gI ((oxK L i).map fun j => hdI (gL L j)) k = hdI (gL L (oxK L i)[k]):=by rw [JO (by rw [List.length_map]; exact hko),List.getElem_map]
     have hpk : 0 < (gL L (oxK L i)[k]).length:=by rw [LE hkL]; exact hne _ (List.getElem_mem hkL)
     have e1 : ∀ rec,A1 Y L[i] rec ((k + 1 : Nat) : Int) = cond (decide (hdI (gL L i) < hdI (gL L (oxK L i)[k]))) (rec (k : Int)) (some ((k + 1 : Nat) : Int)):=fun rec => by
      unfold A1
      rw [decide_eq_true (by omega : (0 : Int) < ((k + 1 : Nat) : Int)),g1]
      simp only [cond_true,Ad]
      rw [UL hpk]
      simp only
      rw [UL hpi]
      simp only
      rw [wrap_in (by omega),show ((k + 1 : Nat) : Int) - 1 = (k : Int) by omega,hLi]
     rw [scP,hH] at he
     by_cases hc : hdI (gL L i) < hdI (gL L (oxK L i)[k])
     ·right
      rw [if_pos hc] at he
      exact ⟨(k : Int),⟨k,rfl,by omega,he⟩,by simp only [Int.toNat_natCast]; omega,fun rec => by rw [e1,decide_eq_true hc]; rfl⟩
     ·left
      rw [if_neg hc] at he
      exact ⟨((k + 1 : Nat) : Int),⟨k + 1,rfl,hk,he⟩,fun rec => by rw [e1,decide_eq_false hc]; rfl⟩) fz (Y.length : Int) ⟨i,by rw [hYl],Nat.le_refl _,rfl⟩ (by unfold fz; simp only [Int.toNat_natCast]; omega)
   rw [e,q2]
  have hsc:=VQ ((oxK L i).map fun j => hdI (gL L j)) (hdI (gL L i)) i
  rw [oxK,R5,hY]
  generalize scP ((oxK L i).map fun j => hdI (gL L j)) (hdI (gL L i)) i = k at hin hsc
  unfold Bi
  simp only
  rw [Az hi,Ai hi]
  simp only [cond_true,Ad]
  rw [hin]
  simp only [List.nil_append]
  have e1 : Cq Y 0 (k : Int) = Y.take k:=by unfold Cq; rw [Int.toNat_natCast]; rfl
  have e2 : Cq Y (k : Int) (Y.length : Int) = Y.drop k:=by unfold Cq; rw [Int.toNat_natCast,Int.toNat_natCast,List.take_length]
  rw [e1,e2,Ar (by omega),Ar (by simp only [List.length_nil,List.length_take]; unfold lim; omega),Ar (by simp only [List.length_take,List.length_singleton]; unfold lim; omega),Ar (by omega),Ar (by simp only [List.length_append,List.length_take,List.length_singleton,List.length_drop]; unfold lim; omega),AF hi (Au hl.1)]
  unfold putAt
  rw [List.append_assoc,hLi]; rfl) (fun rec => by unfold Bi; simp only; rw [Ax]; rfl) fz (FZ hl.1)
 exact this
def SU (l : List Nat) : List Int:=l.map fun (j : Nat) => (j : Int)
theorem WV (l : List Nat) (p v : Nat) : Ky (SU l) (p : Int) (v : Int) = SU (l.set p v):=by
 unfold Ky SU
 rw [Int.toNat_natCast,List.map_set]
theorem SV {l : List Nat} {p : Nat} (h : p < l.length) : AA (SU l) (p : Int) = some ((gN l p : Nat) : Int):=by
 unfold SU
 rw [F0,List.getElem?_map,List.getElem?_eq_getElem h,gf h]; rfl
theorem bm (hL : L.length <= lim) (hlen : ∀ l ∈ L,l.length <= lim) (hA : ∀ l ∈ L,Asc l) : ∀ (m : Nat) (s : LfS),LfOk (rkL L) s -> s.2.2.1 = s.2.2.2.2 % (rkL L).length -> s.1.length <= s.2.2.2.2 -> s.2.2.2.2 + Q2 (rkL L) s.2.1 (rkL L).length <= lim ->
  Ah (Bj (rkL L)) m (SU s.2.1,s.2.2.2.1,s.1,((s.2.2.2.2 + 1 : Nat) : Int)) = (lfR (rkL L) m s).map fun r => .inr (r.1,(r.2 : Int))
 | 0,s,h,hpn,hfew,hb => rfl
 | m + 1,s,h,hpn,hfew,hb => by
  have hA' : ∀ l ∈ rkL L,Asc l:=fun l hl => hA l ((JA L l).1 hl)
  obtain ⟨out,at_,p,top,n⟩:=s
  obtain ⟨hp,e1,e2⟩:=SP h
  obtain ⟨n1,n2⟩:=RT h
  have hk0 : 0 < (rkL L).length:=by have:=h.p; omega
  have hpk:=h.p
  have hpa : p < at_.length:=by have:=h.len; simp only at this hpk; omega
  have hrem:=(P8 (M:=rkL L) hpa n1 n2 (rkL L).length).2 h.p
  simp only at hp e1 e2 n1 n2 hrem hb hpn hfew hpk
  have hbl:=hlen _ ((JA L _).1 (La hpk))
  have hkl : (rkL L).length <= lim:=by rw [Jz]; exact hL
  have hP : Int.tmod (IntKind.i64.wrap (((n + 1 : Nat) : Int) - 1)) ((rkL L).length : Int) = (p : Int):=by
   unfold lim at hb
   rw [wrap_in (by omega),show ((n + 1 : Nat) : Int) - 1 = (n : Int) by omega,Int.tmod_eq_emod_of_nonneg (by omega),hpn]
   norm_cast
  have g2 : AA (rkL L) (p : Int) = some (gL (rkL L) p):=by rw [Ai hpk,LE hpk]
  have g3 : AA (SU at_) (p : Int) = some ((gN at_ p : Nat) : Int):=SV hpa
  have g4 : AA (gL (rkL L) p) ((gN at_ p : Nat) : Int) = some (gI (gL (rkL L) p) (gN at_ p)):=by rw [Ai hp,JO hp]
  have hN : IntKind.i64.wrap (((n + 1 : Nat) : Int) + 1) = ((n + 1 + 1 : Nat) : Int):=by unfold lim at hb; rw [wrap_in (by omega)]; omega
  have hJ : ∀ (o : List Int) (i : Nat),o = lfO (rkL L) (out,at_,p,top,n) -> i = lfI (rkL L) (out,at_,p,top,n) -> o.length <= n + 1 ->
    Bk (Ah (Bj (rkL L)) m) (rkL L) ((n + 1 : Nat) : Int) (gL (rkL L) p) (Ky (SU at_) (p : Int) (i : Int)) o = (lfR (rkL L) (m + 1) (out,at_,p,top,n)).map fun r => .inr (r.1,(r.2 : Int)):=by
   intro o i ho hi hol
   unfold Bk
   rw [WV,hP]
   have gs : AA (SU (at_.set p i)) (p : Int) = some (i : Int):=by rw [SV (by rw [List.length_set]; exact hpa),QD hpa,if_pos rfl]
   rw [gs]
   simp only [Ad]
   rw [lfR]
   simp only [<- ho,<- hi]
   by_cases hc : i = (gL (rkL L) p).length
   ·rw [show ((i : Int) == ((gL (rkL L) p).length : Int)) = true by rw [beq_iff_eq]; omega,show (i == (gL (rkL L) p).length) = true by rw [beq_iff_eq]; exact hc]
    rfl
   ·rw [show ((i : Int) == ((gL (rkL L) p).length : Int)) = false by rw [beq_eq_false_iff_ne]; omega,show (i == (gL (rkL L) p).length) = false by rw [beq_eq_false_iff_ne]; exact hc]
    have hil : i < (gL (rkL L) p).length:=by rw [<- hi] at n2; omega
    rw [show AA (gL (rkL L) p) (i : Int) = some (gI (gL (rkL L) p) i) by rw [Ai hil,JO hil]]
    simp only [cond_false]
    rw [hN]
    have hok:=RU h hA' (by simp only; rw [<- hi]; exact hil)
    simp only [<- ho,<- hi] at hok hrem
    exact bm hL hlen hA m (o,at_.set p i,(p + 1) % (rkL L).length,gI (gL (rkL L) p) i,n + 1) hok (by simp only; rw [hpn,Nat.mod_add_mod]) hol (by simp only; omega)
  rw [AD,Bj]
  simp only
  rw [Ar (by omega),hP,g2]
  simp only [Ad]
  rw [g3]
  simp only
  rw [g4]
  simp only
  cases hc : (gI (gL (rkL L) p) (gN at_ p) == top) with
  | true =>
   simp only [cond_true]
   rw [Ar (by simp only [List.length_singleton]; omega),show IntKind.i64.wrap (((gN at_ p : Nat) : Int) + 1) = ((gN at_ p + 1 : Nat) : Int) by unfold lim at hbl; rw [wrap_in (by omega)]; omega]
   exact hJ _ _ (by unfold lfO; simp only; rw [hc]; rfl) (by unfold lfI; simp only; rw [hc]; rfl) (by simp only [List.length_append,List.length_singleton]; omega)
  | false =>
   simp only [cond_false]
   rw [bq hbl (Nat.le_of_lt hp)]
   exact hJ _ _ (by unfold lfO; simp only; rw [hc]; rfl) (by unfold lfI; simp only; rw [hc]; rfl) (by omega)
theorem kB (h : Tk L) : C7 L = some (lfB L):=by
 have hl:=h.lim
 have hl1:=h.1
 unfold C7 lfB
 rw [bb h]
 simp only [Ad]
 cases h1 : Nw L with
 | false => rfl
 | true =>
  simp only [Bool.not_true,cond_false,Bool.true_and]
  rw [Za h]
  simp only
  cases h2 : (shK L L.length == 0) with
  | true => rfl
  | false =>
   obtain ⟨f1,f2⟩:=Mj h1
   have f3:=Qf f1 h2
   obtain ⟨out,n,e,_,_,hn⟩:=Zn h h1 h2
   simp only [cond_false,Bool.not_false,cond_true]
   rw [bi h f3]
   simp only
   have hk0 : 0 < (rkL L).length:=by rw [Jz]; exact f1
   have hkl : (rkL L).length <= 5:=by rw [Jz]; exact hl1
   have hlast : (rkL L).length - 1 < (rkL L).length:=by omega
   have hp:=f3 _ ((JA L _).1 (List.getElem_mem hlast))
   rw [Ar (by rw [Int.toNat_natCast]; unfold lim; omega),wrap_in (by omega),show ((rkL L).length : Int) - 1 = (((rkL L).length - 1 : Nat) : Int) by omega,Ai hlast]
   simp only
   rw [UL hp]
   simp only
   have hok:=U3 f1 f3 f2
   have hr:=Tf (M:=rkL L) (A:=(lf0 (rkL L)).2.1) (B:=4000) (fun l hl => h.2 l ((JA L l).1 hl)) (rkL L).length (Nat.le_refl _)
   have hr2 : Q2 (rkL L) (lf0 (rkL L)).2.1 (rkL L).length <= 20000:=Nat.le_trans hr (by have:=Nat.mul_le_mul_right 4000 hkl; omega)
   have hrun:=bm hl.1 hl.2 f2 fz (lf0 (rkL L)) hok (by show 0 = 0 % _; rw [Nat.zero_mod]) (Nat.le_refl _) (by have : (lf0 (rkL L)).2.2.2.2 = 0:=rfl; unfold lim; omega)
   have hz : SU (lf0 (rkL L)).2.1 = List.replicate (rkL L).length (0 : Int):=by
    show SU (zeros _) = _
    unfold SU zeros
    rw [List.map_replicate]; rfl
   have ht : (lf0 (rkL L)).2.2.2.1 = hdI (rkL L)[(rkL L).length - 1]:=by
    show hdI (gL (rkL L) ((rkL L).length - 1)) = _
    rw [LE hlast]
   rw [Int.toNat_natCast,<- ht,<- hz]
   have hst : (SU (lf0 (rkL L)).2.1,(lf0 (rkL L)).2.2.2.1,([] : List Int),(1 : Int)) = (SU (lf0 (rkL L)).2.1,(lf0 (rkL L)).2.2.2.1,(lf0 (rkL L)).1,(((lf0 (rkL L)).2.2.2.2 + 1 : Nat) : Int)):=rfl
   rw [hst,hrun,e]
   rfl
end
end Go.Proofs.YtkclaipnejgloaaGreatDoor
