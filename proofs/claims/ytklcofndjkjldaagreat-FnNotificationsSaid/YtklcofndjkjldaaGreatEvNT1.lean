/-
 A new view's rows are what the query's evaluation gives. On the printed functions; conditions: lengths.
-/
import Derived.Test.YtklcofndjkjldaaGreatNsNT1
import Derived.Test.YtklcofndjkjldaaGreatWrNT1
namespace Go.Proofs.YtklcofndjkjldaaGreat
open Go.RowKit
set_option linter.unusedVariables false
set_option linter.unusedSimpArgs false
theorem SN {z : Row} : ∀ {l : List Pr},(∀ p ∈ l,1 <= p.2) -> 0 <= CG l z ∧ ((∃ p ∈ l,p.1 = z) -> 1 <= CG l z)
 | [],_ => ⟨Int.le_refl _,fun ⟨p,hp,_⟩ => by cases hp⟩
 | p :: l,h => by
  have h1:=h p (List.mem_cons_self ..)
  obtain ⟨h2,h3⟩:=SN (z:=z) fun q hq => h q (List.mem_cons_of_mem _ hq)
  rw [CG]
  refine ⟨by split <;> omega,fun ⟨q,hq,e⟩ => ?_⟩
  by_cases hp : p.1 = z
  ·rw [if_pos hp]; omega
  ·rw [if_neg hp]
   rcases List.mem_cons.1 hq with rfl | hq
   ·exact absurd e hp
   ·have:=h3 ⟨q,hq,e⟩; omega
section
variable {d : List Tbl} {q : Qry}
theorem cE (h : Iu d) (hs : smQ q) (hz : (zOf d q).2 = true) : J7 d q = true ∧ ∃ R,Fi (q.1,R) = true ∧ BZ d q = some (q.1,R) ∧ zOf d q = pjC (ofR (q.1,R)).1 q.2.2:=by
 obtain ⟨h1,h2⟩:=RP h hs
 have hz' : ∀ y,C8 d q = some y -> zOf d q = y:=fun y e => by unfold zOf; rw [e]; rfl
 cases hq : J7 d q with
 | false =>
  obtain ⟨e1,-⟩:=h1 hq
  have : C8 d q = some ((0,[],[]),false):=by unfold C8; rw [OU h hs,hq,e1,AE,AE]; rfl
  rw [hz' _ this] at hz; cases hz
 | true =>
  obtain ⟨g1,g2,g3⟩:=HT hq
  obtain ⟨q1,q2,-,q4⟩:=Hv g1
  obtain ⟨R,r1,r2,r3,e1,-⟩:=h2 hq
  cases hr : Fi (q.1,R) with
  | false =>
   rw [hr] at e1
   have : C8 d q = some ((0,[],[]),false):=by
    unfold C8
    rw [OU h hs,hq,e1,AE,AE,cond_false,Bool.not_true,cond_false,show (((0 : Int),([] : List (List Int))).1 != q.1) = true by rw [bne_iff_ne]; show (0 : Int) ≠ q.1; omega]; rfl
   rw [hz' _ this] at hz; cases hz
  | true =>
   rw [hr] at e1
   have hsm : A9 (q.1,R).2:=F1 hr
   have hc : GL (ofR (q.1,R)).1:=by
    unfold ofR
    rw [hr]
    exact ⟨hsm,by show (List.replicate R.length (1 : Int)).length <= lim; rw [List.length_replicate]; exact hsm.1⟩
   have : C8 d q = some (pjC (ofR (q.1,R)).1 q.2.2):=by
    unfold C8
    rw [OU h hs,hq,e1,AE,AE,cond_true,Bool.not_true,cond_false,show ((q.1,R).1 != q.1) = false by simp,cond_false,bZ hsm,AE,XF hc hs.2.2,AE]
   exact ⟨rfl,R,hr,e1,hz' _ this⟩
theorem T7 (h : Iu d) (hs : smQ q) (hz : (zOf d q).2 = true) : ∃ r : Rln,EB d q = some (r,true) ∧ Ts (zOf d q).1 = (r,true) ∧ A9 r.2:=by
 obtain ⟨hq,R,hr,e1,e2⟩:=cE h hs hz
 obtain ⟨c,hcd⟩ : ∃ c,c = (ofR (q.1,R)).1:=⟨_,rfl⟩
 have hcv : c = (q.1,R,List.replicate R.length 1):=by rw [hcd]; unfold ofR; rw [hr]; rfl
 rw [<- hcd] at e2
 have hp : (pjC c q.2.2).2 = true:=by rw [<- e2]; exact hz
 have hb : (GK c && (Lq c.1 q.2.2 && GK (KE (q.2.2.length : Int) (I8 c q.2.2)))) = true:=by
  unfold pjC at hp
  cases hb : (GK c && (Lq c.1 q.2.2 && GK (KE (q.2.2.length : Int) (I8 c q.2.2)))) with
  | false => rw [hb] at hp; cases hp
  | true => rfl
 have e3 : pjC c q.2.2 = (KE (q.2.2.length : Int) (I8 c q.2.2),true):=by unfold pjC; rw [hb]; rfl
 simp only [Bool.and_eq_true] at hb
 obtain ⟨b1,b2,b3⟩:=hb
 obtain ⟨c5,hin⟩:=O5 b1 b2
 obtain ⟨-,f2,f3,f4,f5,f6,f7⟩:=B8 b1
 have hok:=SA b1 c5
 have hpos : ∀ p ∈ I8 c q.2.2,1 <= p.2:=fun p hp => by
  obtain ⟨k,hk,rfl⟩:=List.mem_iff_getElem.1 hp
  rw [Pz b1] at hk
  obtain ⟨h1,h2,e⟩:=U1 (cols:=q.2.2) b1 hk
  rw [e]
  have : c.2.2 = List.replicate R.length 1:=by rw [hcv]
  have h3 : c.2.2[k] = 1:=List.eq_of_mem_replicate (n:=R.length) (by rw [<- this]; exact List.getElem_mem h2)
  show 1 <= c.2.2[k]
  omega
 have hk1 : ∀ z ∈ keysL (I8 c q.2.2),1 <= CG (I8 c q.2.2) z:=fun z hz => (SN hpos).2 (H2.1 hz)
 have hfil : (keysL (I8 c q.2.2)).filter (nzB (I8 c q.2.2)) = keysL (I8 c q.2.2):=List.filter_eq_self.2 fun z hz => by
  have:=hk1 z hz
  unfold nzB
  rw [bne_iff_ne]; omega
 have hkeys : keysL (I8 c q.2.2) = sortB (R.map fun r => DD r q.2.2):=by
  unfold keysL
  rw [Y2 b1,hcv]
 refine ⟨((q.2.2.length : Int),sortB (R.map fun r => DD r q.2.2)),?_,?_,?_⟩
 ·have hc1 : c.1 = q.1:=by rw [hcv]
  have hc2 : c.2.1 = R:=by rw [hcv]
  rw [hc2] at f3 f4 hin
  have hl : q.2.2.length <= lim:=hs.2.2
  have hcb : ((List.range q.2.2.length).any fun k => atB q.2.2 k fun e => !btw e 0 (IntKind.i64.wrap (q.1 - 1))) = false:=by
   have b2':=b2
   unfold Lq AU at b2'
   rw [hc1] at b2'
   simp only [Bool.and_eq_true,Bool.not_eq_true'] at b2'
   exact b2'.1
  have hsm : A9 (q.1,R).2:=F1 hr
  have hproj : Im (q.1,R) q.2.2 = some (((q.2.2.length : Int),sortB (R.map fun r => DD r q.2.2)),true):=by
   unfold Im
   rw [Lp (fun k => atB q.2.2 k fun e => !btw e 0 (IntKind.i64.wrap (q.1 - 1))) (((0,[]),false) : Rln × Bool) hl (fun k hk rec => by
    unfold Hy
    rw [AF hk,Aj hk,AO hk (At hl),AN hk]
    simp only [cond_true,Ad,KS]) (fun rec => by unfold Hy; rw [Az]; rfl),AE,hcb]
   simp only [cond_false]
   rw [MO hsm,AE,hr,Bool.not_true,cond_false,decide_eq_false (by omega),cond_false]
   have hml:=Fu (a:=R) (h:=fun r => DD r q.2.2) (B:=Gm (q.1,R) q.2.2) hsm.1 (fun k hk rec => by
    simp only [Gm]
    rw [AF hk,cond_true,Aj hk,AE,XB hl (hin _ (List.getElem_mem hk)),AE,Ak (by simp only [List.length_singleton,List.length_map,List.length_take]; unfold lim; omega),AO hk (At hsm.1)]) (fun rec y => by simp only [Gm]; rw [Az,cond_false])
   have hpr : ∀ r ∈ R.map (fun r => DD r q.2.2),(r.length : Int) = (q.2.2.length : Int) ∧ Lo r = true:=fun r hr => by
    obtain ⟨x,hx,rfl⟩:=List.mem_map.1 hr
    exact ⟨by simp only [DD,List.length_map],Xv (f4 x hx).2 (hin x hx)⟩
   have hnr : nrB (q.2.2.length : Int) (R.map fun r => DD r q.2.2) = (((q.2.2.length : Int),sortB (R.map fun r => DD r q.2.2)),true):=bJ (by unfold btw; simp; omega) (by rw [List.length_map]; exact f3) hpr
   rw [hml,AE,ZD ⟨by rw [List.length_map]; exact hsm.1,fun r hr => by have:=(hpr r hr).1; omega⟩,hnr,AE]
  unfold EB
  rw [e1,AE,OU h hs,AE,hq,Bool.not_true,cond_false,show ((q.1,R).1 != q.1) = false by simp,cond_false,hproj,AE]
 ·rw [e2,e3]
  unfold Ts
  rw [b3]
  have hneg : (AU (KE (q.2.2.length : Int) (I8 c q.2.2)).2.2 fun _ n => decide (n < 0)) = false:=GM fun i hi => by
   refine decide_eq_false ?_
   have hm:=List.getElem_mem hi
   generalize (KE (q.2.2.length : Int) (I8 c q.2.2)).2.2[i] = n at hm
   obtain ⟨z,hz,rfl⟩:=List.mem_map.1 hm
   have:=hk1 z (List.mem_filter.1 hz).1
   omega
  rw [hneg]
  show (((q.2.2.length : Int),(keysL (I8 c q.2.2)).filter (nzB (I8 c q.2.2))),true) = _
  rw [hfil,hkeys]
 ·show A9 (sortB (R.map fun r => DD r q.2.2))
  rw [<- hkeys]
  exact NO hok
end
theorem gI {n : Ntf} (h : N5 n) (hn : ntB n = true) {k : Nat} (hk : k < n.2.1.length) : Eg n (k : Int) = some (Ts n.2.1[k].2):=by
 obtain ⟨b,e1,e2,-⟩:=Pv h
 rw [Vb h,hn] at e1
 have hb : b = true:=by injection e1 with e1; exact e1.symm
 subst hb
 obtain ⟨f1,f2,f3,f4⟩:=LG hn
 have hv:=h.2.1.2 _ (List.getElem_mem hk)
 have hbt : btw (k : Int) 0 (IntKind.i64.wrap ((List.length n.2.1 : Int) - 1)) = true:=by
  rw [wrap_in (by omega)]
  unfold btw
  simp only [Bool.and_eq_true,decide_eq_true_eq]
  omega
 unfold Eg IE
 rw [e2,AE,Bool.not_true,cond_false,HZ,AE,hbt,Bool.not_true,cond_false,Aj hk,AE,ee hv.2]
 rfl
end Go.Proofs.YtklcofndjkjldaaGreat
