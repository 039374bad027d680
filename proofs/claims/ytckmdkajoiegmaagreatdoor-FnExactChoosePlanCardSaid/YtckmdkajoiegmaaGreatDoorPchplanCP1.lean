/-
 Minimize, a bag's width, and a minimum cover: what both give. On the printed functions; conditions: sizes.
-/
import Derived.Test.YtckmdkajoiegmaaGreatDoorKwCP1
import Derived.Test.YtckmdkajoiegmaaGreatDoorNkCP1
import Derived.Test.YtckmdkajoiegmaaGreatDoorUpCP1
import Derived.Test.YtckmdkajoiegmaaGreatDoorKc
open Go.RowKit
set_option linter.unusedVariables false
set_option linter.unusedSimpArgs false
namespace Go.Proofs.YtckmdkajoiegmaaGreatDoor
theorem fH{p:LP}(hv:Ok p=true):(Om p 1).length<=161051:=by
 obtain⟨h1,h2,h3,h4,h5,h6⟩:=Ku hv
 unfold Om
 have a:=U5 (VD p 1) (NQ (p.2.1.length+p.2.2.length) p.2.2.length 0) []
 have b:=Si (t:=p.2.1.length+p.2.2.length) (by omega) p.2.2.length 0
 have c:=fG h2
 simp only[HX]at a
 omega
def mnT(st:List Rt×Rt×Bool)(k:Nat):List Rt×Int×Int×Bool×Int:=(st.1,st.2.1.1,st.2.1.2,st.2.2,(k:Int))
theorem ut{p:LP}(hv:Ok p=true):Ot p 1=some (mnB p):=by
 have hl:=fH hv
 have hn:=(Ku hv).2.1
 unfold Ot
 rw[lM hv]
 simp only[Aa]
 have key:=CB (body:=HP p 1 (Om p 1)) (out:=((mnB p).1,(mnB p).2.1.1,(mnB p).2.1.2,(mnB p).2.2)) (λk=>mnT (((Om p 1).take k).foldl (mnS p.2.2) ([],(0,0),false)) k) (Om p 1).length (λk hk rec=>by
  rw[Au hk,De]
  generalize((Om p 1).take k).foldl (mnS p.2.2) ([],(0,0),false)=st
  obtain⟨b,⟨v1,v2⟩,f⟩:=st
  unfold HP mnT
  simp only[Db,IM]
  rw[BC hk,Ac,BL hk]
  simp only[Aa]
  rw[pZ (by unfold lim;omega)]
  simp only
  unfold mnS Jy LG
  rw[wrap_in (by omega),BL hk]
  simp only[Aa]
  cases(JI p.2.2 (Om p 1)[k]).2 with
  |false=>rfl
  |true=>
   cases f with
   |false=>rfl
   |true=>
    rw[X1]
    simp only[Aj,Ad,Ac,Cr,AC]
    cases decide (IntKind.i64.wrap (KX (JI p.2.2 (Om p 1)[k]).1 (v1,v2) * 1) < 0)<;>rfl) (λrec=>by
  unfold HP mnT
  simp only
  rw[Bl,A5];rfl) fz (CR (by unfold lim;omega))
 rw[show(([]:List Rt),(0:Int),(0:Int),false,(0:Int))=mnT (((Om p 1).take 0).foldl (mnS p.2.2) ([],(0,0),false)) 0 from rfl,key]
theorem rN{p:LP}(hv:Ok p=true):Sq p 1=some (mnB p):=by
 have hl:=fH hv
 have hn:=(Ku hv).2.1
 unfold Sq
 rw[jM hv]
 simp only[Aa]
 have key:=CB (body:=KP p 1 (Om p 1)) (out:=((mnB p).1,(mnB p).2.1.1,(mnB p).2.1.2,(mnB p).2.2)) (λk=>mnT (((Om p 1).take k).foldl (mnS p.2.2) ([],(0,0),false)) k) (Om p 1).length (λk hk rec=>by
  rw[Au hk,De]
  generalize((Om p 1).take k).foldl (mnS p.2.2) ([],(0,0),false)=st
  obtain⟨b,⟨v1,v2⟩,f⟩:=st
  unfold KP mnT
  simp only[Db,IM]
  rw[BC hk,Ac,BL hk]
  simp only[Aa]
  rw[pA (by unfold lim;omega)]
  simp only
  unfold mnS Mt Od
  rw[wrap_in (by omega)]
  cases(JI p.2.2 (Om p 1)[k]).2 with
  |false=>rfl
  |true=>
   cases f with
   |false=>rfl
   |true=>
    rw[Xj]
    simp only[Aj,Ad,Ac,Cr,AC]
    rw[Int.mul_comm]
    cases decide (IntKind.i64.wrap (KX (JI p.2.2 (Om p 1)[k]).1 (v1,v2) * 1) < 0)<;>rfl) (λrec=>by
  unfold KP mnT
  simp only
  rw[Bl,A5];rfl) fz (CR (by unfold lim;omega))
 rw[show(([]:List Rt),(0:Int),(0:Int),false,(0:Int))=mnT (((Om p 1).take 0).foldl (mnS p.2.2) ([],(0,0),false)) 0 from rfl,key]
theorem fy(c:List Rt):((List.range c.length).any λk=>decide ((atR c k).1 < 0))= !(c.all λr=>decide (0<=r.1)):=by
 rw[AG,Cu,AD,<-Jc,Af]
 constructor
 ·rintro⟨k,hk,h⟩ hc
  rw[Al]at hk
  have:=hc _ (Ao hk)
  rw[JH hk]at this
  rw[AB]at h this
  omega
 ·intro h
  refine Bq λhc=>h λr hr=>?_
  obtain⟨k,hk,rfl⟩:=Eh hr
  rw[AB]
  refine Bq λhn=>hc ⟨k,Al.2 hk,?_⟩
  rw[AB,<-JH hk]
  omega
theorem lI{p:LP}(h:We p):Lx p=some (Rg p):=by
 unfold Lx Rg
 rw[x4 h]
 simp only[Aa]
 cases hv:Ok p with
 |false=>rfl
 |true=>
  rw[Aj,Ad,AC]
  have hp:Ou p.2.2=some (p.2.2.all λr=>decide (0<=r.1)):=by
   unfold Ou
   rw[G6 (n:=p.2.2.length) (λk=>decide ((atR p.2.2 k).1 < 0)) false h.2.2 (λk hk rec=>by
    unfold N3
    rw[BC hk,Ac,Eg hk,BQ hk (Bo h.2.2)];rfl) (λrec=>by
    unfold N3
    rw[Bl];rfl),fy]
   cases p.2.2.all λr=>decide (0<=r.1)<;>rfl
  rw[hp]
  simp only
  cases p.2.2.all λr=>decide (0<=r.1)with
  |false=>rfl
  |true=>rw[Aj,Ad,ut hv];rfl
theorem jK{p:LP}(h:We p):Lq p=some (Rg p):=by
 unfold Lq Rg
 rw[wi h]
 simp only[Aa]
 cases hv:Ok p with
 |false=>rfl
 |true=>
  rw[Aj,Ad,AC]
  rw[G6 (n:=p.2.2.length) (λk=>decide ((atR p.2.2 k).1 < 0)) (([]:List Rt),((0:Int),(0:Int)),false) h.2.2 (λk hk rec=>by
   unfold M8
   rw[BC hk,Ac,Eg hk,BQ hk (Bo h.2.2)];rfl) (λrec=>by
   unfold M8
   rw[Bl];rfl),fy]
  cases p.2.2.all λr=>decide (0<=r.1)with
  |false=>rfl
  |true=>rw[Aj,Ad,Ac];simp only;rw[rN hv]
section
variable {q:IZ}{B:List Nat}
theorem po(hq:LF q)(hb:B.length<=lim):We (QX q B):=by
 unfold QX We
 exact⟨by simpa using hb,by simpa using hb,by simpa using hq.1⟩
theorem dG{k:Nat}(h:k < B.length):A4 (oI B) (k:Int)=some ((B[k]:Nat):Int):=by
 rw[RU h,KC h]
theorem vG:∀k (h:k < B.length),(B.take (k+1)).map (λ(v:Nat)=>K6 q (v:Int))=(B.take k).map (λ(v:Nat)=>K6 q (v:Int))++[K6 q ((B[k]:Nat):Int)]:=λk h=>by
 rw[Au h,BY];rfl
theorem vF:∀k (h:k < B.length),(B.take (k+1)).map (λ_=>((1:Int),(1:Int)))=(B.take k).map (λ_=>((1:Int),(1:Int)))++[((1:Int),(1:Int))]:=λk h=>by
 rw[Au h,BY];rfl
theorem xU(hq:LF q)(hv:DD q=true)(hs:B.length<=5)(hb:TK q.1 (oI B)=true):Jj q (oI B)=some (wB q B):=by
 have hol:=C3 B
 have hbl:(oI B).length<=lim:=by rw[hol];unfold lim;omega
 unfold Jj
 rw[Nr hq,hv]
 simp only[Aa,Aj,Ad]
 rw[xT hbl,hb]
 simp only[Aj,Ad]
 have key:=CB (body:=HC q (oI B)) (out:=(B.map (λ(v:Nat)=>K6 q (v:Int)),B.map (λ_=>((1:Int),(1:Int))))) (λk=>((B.take k).map (λ(v:Nat)=>K6 q (v:Int)),(B.take k).map (λ_=>((1:Int),(1:Int))),(k:Int))) B.length (λk hk rec=>by
  have hl2:Aq (HD q (oI B) (k:Int)) fz ([],0)=some (K6 q ((B[k]:Nat):Int)):=by
   rw[OE (B:=HD q (oI B) (k:Int)) (l:=q.2.1) (s0:=[]) (h:=λa=>(cond (a.2.contains ((B[k]:Nat):Int)) 1 0,1)) (by simpa using hq.1) (λj hj s rec hs=>by
    show cond (decide ((j:Int) < (q.2.1.length:Int))) _ _=_
    rw[BC hj,Ac,BL hj]
    simp only[Aa]
    rw[dG hk]
    simp only
    rw[aE (hq.2.1 _ (Ao hj)).2]
    simp only
    unfold HE
    have h1:=hq.1
    cases(q.2.1[j]).2.contains ((B[k]:Nat):Int)with
    |true=>rw[Ac,AZ (by rw[hs];simp;unfold lim at h1⊢;omega),BQ hj (Bo hq.1)];rfl
    |false=>rw[Ad,AZ (by rw[hs];simp;unfold lim at h1⊢;omega),BQ hj (Bo hq.1)];rfl) (λrec s=>by
    show cond (decide ((q.2.1.length:Int) < (q.2.1.length:Int))) _ _=_
    rw[Bl];rfl),Bh]
   rfl
  unfold HC
  simp only
  rw[hol,BC hk,Ac,hl2]
  simp only[Aa]
  rw[AZ (by simp;unfold lim;omega),AZ (by simp;unfold lim;omega),wrap_in (by omega),vG k hk,vF k hk];rfl) (λrec=>by
  unfold HC
  simp only
  rw[hol,Bl,A5];rfl) fz (CR (by unfold lim;omega))
 rw[show(([]:Mx),([]:List Rt),(0:Int))=((B.take 0).map (λ(v:Nat)=>K6 q (v:Int)),(B.take 0).map (λ_=>((1:Int),(1:Int))),((0:Nat):Int))from rfl,key]
 simp only
 have h4:Aq (M6 q) fz ([],0)=some (q.2.1.map λ_=>(1,1)):=lK hq
 rw[h4]
 simp only
 rw[show(B.map (λ(v:Nat)=>K6 q (v:Int)),B.map (λ_=>((1:Int),(1:Int))),q.2.1.map λ_=>((1:Int),(1:Int)))=QX q B from rfl,lI (po hq (by unfold lim;omega))]
 rfl
theorem px(hq:LF q)(hv:DD q=true)(hs:B.length<=5)(hb:TK q.1 (oI B)=true):I7 q (oI B)=some (wB q B):=by
 have hol:=C3 B
 have hbl:(oI B).length<=lim:=by rw[hol];unfold lim;omega
 unfold I7
 rw[Mr hq,hv]
 simp only[Aa,Aj,Ad]
 rw[pw hbl,hb]
 simp only[Aj,Ad]
 unfold Mw
 have key:=CB (body:=Jt q (oI B)) (out:=(B.map (λ(v:Nat)=>K6 q (v:Int)),B.map (λ_=>((1:Int),(1:Int))))) (λk=>((B.take k).map (λ(v:Nat)=>K6 q (v:Int)),(B.take k).map (λ_=>((1:Int),(1:Int))),(k:Int))) B.length (λk hk rec=>by
  unfold Jt
  simp only
  rw[hol,BC hk,Ac,dG hk]
  simp only[Aa]
  rw[fc hq]
  simp only
  rw[AZ (by simp;unfold lim;omega),AZ (by simp;unfold lim;omega),wrap_in (by omega),vG k hk,vF k hk];rfl) (λrec=>by
  unfold Jt
  simp only
  rw[hol,Bl,A5];rfl) fz (CR (by unfold lim;omega))
 rw[show(([]:Mx),([]:List Rt),(0:Int))=((B.take 0).map (λ(v:Nat)=>K6 q (v:Int)),(B.take 0).map (λ_=>((1:Int),(1:Int))),((0:Nat):Int))from rfl,key]
 simp only[Aa]
 rw[jL hq]
 simp only
 rw[show(B.map (λ(v:Nat)=>K6 q (v:Int)),B.map (λ_=>((1:Int),(1:Int))),q.2.1.map λ_=>((1:Int),(1:Int)))=QX q B from rfl,jK (po hq (by unfold lim;omega))]
 rfl
theorem x5(hq:LF q)(hv:DD q=true):J8 q=some (Rg (cpP q)):=by
 unfold J8
 rw[zh hq]
 unfold cpB
 rw[hv]
 simp only[Aa,Ac,Aj,Ad]
 rw[lI (pp hv)]
theorem wj(hq:LF q)(hv:DD q=true):JZ q=some (Rg (cpP q)):=by
 unfold JZ
 rw[yW hq]
 unfold cpB
 rw[hv]
 simp only[Aa,Ac]
 rw[jK (pp hv)]
theorem tP(p:LP):(Rg p).2.2=false->(Rg p).2.1=(0,0):=by
 unfold Rg
 cases Ok p&&p.2.2.all λr=>decide (0<=r.1)with
 |false=>exactλ_=>rfl
 |true=>
  rw[Ac]
  unfold mnB
  refine Sn (P:=λst:List Rt×Rt×Bool=>st.2.2=false->st.2.1=(0,0)) (λb a h=>?_) _ _ (λ_=>rfl)
  unfold mnS
  cases(JI p.2.2 a).2&&(!b.2.2 || decide (IntKind.i64.wrap (KX (JI p.2.2 a).1 b.2.1 * 1) < 0))with
  |false=>exact h
  |true=>exactλh=>by cases h
end
theorem yk{n:Nat}(h:n<=4):yj 1 (n:Int)=((2 ^ n:Nat):Int)∧2 ^ n<=16:=by
 have:n=0∨n=1∨n=2∨n=3∨n=4:=by omega
 rcases this with rfl|rfl|rfl|rfl|rfl<;>exact⟨by decide,by decide⟩
def XG(B:List Nat):Nat:=B.foldl (λm v=>m+2 ^ v) 0
theorem ft(S:Nat->Bool):∀n,XG (Pm n S)=Ol n S
 |0=>rfl
 |n+1=>by
  have ih:=ft S n
  unfold XG at ih⊢
  rw[qO,De,ih,Ol]
  cases S n<;>rfl
theorem ca:∀(l:List Nat) (m:Nat),m<=l.foldl (λm v=>m+2 ^ v) m
 |[],m=>A9 m
 |v::l,m=>by
  have:=ca l (m+2 ^ v)
  rw[Db]
  exact By (Nat.le_add_right m _) this
theorem kG(B:List Nat)(k:Nat):XG (B.take k)<=XG B:=by
 have:=ca (B.drop k) (XG (B.take k))
 unfold XG at this⊢
 rw[<-De,Cc]at this
 exact this
theorem xE{B:List Nat}{k:Nat}(h:k < B.length):XG (B.take (k+1))=XG (B.take k)+2 ^ B[k]:=by
 unfold XG
 rw[Au h,De];rfl
section
variable {q:IZ}{O:List Nat}
theorem x6{x:List (List Int)×List Int}{i:Nat}{S:Nat->Bool}(hv:DD q=true)(hx:A4 x.1 (i:Int)=some (oI (Pm q.1.toNat S))):Aq (IW x (i:Int)) fz (0,0)=some ((Ol q.1.toNat S:Nat):Int):=by
 obtain⟨h1,h2,h3,h4⟩:=FE hv
 have hm:=kF hv S
 rw[<-ft S]at hm⊢
 have hin:∀v∈Pm q.1.toNat S,v < q.1.toNat:=λv hv=>Al.1 (Be.1 hv).1
 have hlen:(Pm q.1.toNat S).length<=5:=by have:=OL q.1.toNat S;unfold Pm;omega
 generalize Pm q.1.toNat S=B at hm hx hin hlen⊢
 have key:=CB (body:=IW x (i:Int)) (out:=((XG B:Nat):Int)) (λk=>(((XG (B.take k):Nat):Int),(k:Int))) B.length (λk hk rec=>by
  unfold IW
  simp only
  rw[hx]
  simp only[Aa]
  rw[C3,BC hk,Ac,dG hk]
  simp only
  have hb:=hin _ (Ao hk)
  obtain⟨e1,e2⟩:=yk (n:=B[k]) (by omega)
  have hs:=xE hk
  have ht:=kG B (k+1)
  rw[AZ (by omega),e1,hs,wrap_in (by omega),wrap_in (by omega),Fy]
  rfl) (λrec=>by
  unfold IW
  simp only
  rw[hx]
  simp only[Aa]
  rw[C3,Bl,A5];rfl) fz (CR (by unfold lim;omega))
 exact key
theorem TT(hl:O.length=q.1.toNat){i:Nat}(hi:i < q.1.toNat):A4 (Oa O (E1 q)).1 (i:Int)=some (oI (Pm q.1.toNat (VU q O i))):=by
 rw[W6 hl,BL (by simpa using hi)]
 simp
theorem Ob(hl:O.length=q.1.toNat):(Oa O (E1 q)).1.length=q.1.toNat∧(Oa O (E1 q)).2.length=q.1.toNat:=by
 unfold Oa
 simp[hl]
theorem mr{k:Nat}(h:k<=100):IntKind.i64.wrap ((k:Int)+1)=((k+1:Nat):Int):=by rw[wrap_in (by omega)];omega
theorem jX{K:List Rt}{m:Nat}(h:m < K.length):A4 K (m:Int)=some (atR K m):=Eg h
theorem yi(hq:LF q)(hv:DD q=true)(hp:UF O)(hl:O.length=q.1.toNat){K:List Rt}(hK:KnI q K):∃K',KnI q K'∧Nt q (Oa O (E1 q)) K=some (wdB q O,true,K'):=by
 obtain⟨h1,h2,h3,h4⟩:=FE hv
 have key:∀(d k:Nat) (m:Nat) (K:List Rt),k+d=q.1.toNat->d < m->KnI q K->∃K',KnI q K'∧Aq (Fn q (Oa O (E1 q))) m (K,(Yn q O k).1,(Yn q O k).2,(k:Int))=some (.inl (K',(wdB q O).1,(wdB q O).2)):=by
  intro d
  induction d with
  |zero=>
   intro k m K hk hm hK
   obtain⟨m,rfl⟩:∃g,m=g+1:=⟨m - 1,by omega⟩
   refine⟨K,hK,?_⟩
   rw[BH]
   unfold Fn
   simp only
   rw[(Ob hl).1,Ah (by omega),Ad,show k=q.1.toNat from by omega]
   rfl
  |succ d ih=>
   intro k m K hk hm hK
   obtain⟨m,rfl⟩:∃g,m=g+1:=⟨m - 1,by omega⟩
   have hki:k < q.1.toNat:=by omega
   have hS:=UL (q:=q) hp hl hki
   have hm32:=kF hv (VU q O k)
   have hmK:Ol q.1.toNat (VU q O k) < K.length:=by rw[hK.1];exact hm32
   have hok:=qj hv (TL hv hS)
   have step:∀K2:List Rt,KnI q K2->atR K2 (Ol q.1.toNat (VU q O k))=wdP q O k->∃K',KnI q K'∧IX (Aq (Fn q (Oa O (E1 q))) m) (Yn q O k).1 (Yn q O k).2 (k:Int) ((Ol q.1.toNat (VU q O k):Nat):Int) K2=some (.inl (K',(wdB q O).1,(wdB q O).2)):=λK2 hK2 he=>by
    obtain⟨K',hK',e⟩:=ih (k+1) m K2 (by omega) (by omega) hK2
    refine⟨K',hK',?_⟩
    unfold IX K4
    rw[jX (by rw[hK2.1];exact hm32),he]
    simp only[Aa]
    rw[X1]
    simp only
    rw[mr (by omega),<-e,mo]
    unfold wdS
    cases decide (0 < KX (wdP q O k) (Yn q O k))<;>rfl
   rw[BH]
   generalize Aq (Fn q (Oa O (E1 q))) m=rec at step⊢
   unfold Fn
   simp only
   rw[(Ob hl).1,BC hki,Ac,x6 hv (TT hl hki)]
   simp only[Aa]
   rw[jX hmK]
   simp only
   rcases hK.2 _ hS with h0|h0
   ·rw[h0]
    simp only[BP,Ac]
    rw[TT hl hki]
    simp only
    rw[xU hq hv (TL hv hS).2.1 (WR hv hS)]
    simp only
    rw[hok.1,Aj,Ad,AZ (by rw[hK.1];decide)]
    have:=step _ (r6 hK hS) (wu hmK _)
    exact this
   ·have hne:((atR K (Ol q.1.toNat (VU q O k))).2==0)=false:=by
     rw[h0]
     have:=(G9 hok.2.1).1
     exact AS.2 (by omega)
    rw[hne,Ad]
    exact step K hK h0
 obtain⟨K',hK',e⟩:=key q.1.toNat 0 fz K (by omega) (CR (by unfold lim;omega)) hK
 refine⟨K',hK',?_⟩
 unfold Nt
 rw[show(K,(0:Int),(1:Int),(0:Int))=(K,(Yn q O 0).1,(Yn q O 0).2,((0:Nat):Int))from rfl,e]
 rfl
theorem rm(hv:DD q=true)(hl:O.length=q.1.toNat):l0 (Oa O (E1 q)):=by
 obtain⟨h1,h2,h3,h4⟩:=FE hv
 refine⟨by rw[(Ob hl).1];unfold lim;omega,λb hb=>?_,by rw[(Ob hl).2];unfold lim;omega⟩
 rw[W6 hl]at hb
 obtain⟨i,_,rfl⟩:=Bw.1 hb
 rw[C3]
 have:=OL q.1.toNat (VU q O i)
 unfold Pm lim
 omega
theorem wo(hq:LF q)(hv:DD q=true)(hp:UF O)(hl:O.length=q.1.toNat):Gj q (Oa O (E1 q))=some (wdB q O,true):=by
 obtain⟨h1,h2,h3,h4⟩:=FE hv
 unfold Gj
 rw[wc hq (rm hv hl),rl hv hp hl]
 simp only[Aa,Aj,Ad]
 have key:=CB (body:=DQ q (Oa O (E1 q))) (out:=((wdB q O).1,(wdB q O).2)) (λk=>(cond (k==0) (0,0,0) ((Yn q O k).1,(Yn q O k).2,(k:Int)))) q.1.toNat (λk hk rec=>by
  have hS:=UL (q:=q) hp hl hk
  unfold DQ Fv Fw
  cases k with
  |zero=>
   show cond (decide (((0:Nat):Int) < (((Oa O (E1 q)).1.length:Nat):Int))) _ _=_
   rw[(Ob hl).1,BC hk,Ac,show(0:Int)=((0:Nat):Int)from rfl,TT hl hk]
   simp only[Aa]
   rw[px hq hv (TL hv hS).2.1 (WR hv hS)]
   show rec _=rec ((Yn q O 1).1,(Yn q O 1).2,((1:Nat):Int))
   rw[yu hv hp hl hk]
   rfl
  |succ k=>
   show cond (decide (((k+1:Nat):Int) < (((Oa O (E1 q)).1.length:Nat):Int))) _ _=_
   rw[(Ob hl).1,BC hk,Ac,TT hl hk]
   simp only[Aa]
   rw[px hq hv (TL hv hS).2.1 (WR hv hS)]
   simp only
   have e0:(((k+1:Nat):Int)==0)=false:=AS.2 (by omega)
   rw[e0,Ad,Xj]
   simp only
   rw[mr (by omega)]
   show _=rec ((Yn q O (k+1+1)).1,(Yn q O (k+1+1)).2,((k+1+1:Nat):Int))
   rw[mo (k+1)]
   unfold wdS
   show cond (decide (0 < KX (wdP q O (k+1)) (Yn q O (k+1)))) _ _=_
   cases decide (0 < KX (wdP q O (k+1)) (Yn q O (k+1)))<;>rfl) (λrec=>by
  unfold DQ
  obtain⟨j,hj⟩:∃j,q.1.toNat=j+1:=⟨q.1.toNat - 1,by omega⟩
  have e0:(q.1.toNat==0)=false:=AS.2 (by omega)
  simp only[e0,Ad]
  rw[(Ob hl).1,Bl];rfl) fz (CR (by unfold lim;omega))
 rw[show((0:Int),(0:Int),(0:Int))=(λk=>(cond (k==0) (0,0,0) ((Yn q O k).1,(Yn q O k).2,(k:Int)))) 0 from rfl,key]
theorem zf(hq:LF q)(hv:DD q=true):G0 q=some (Yj q):=by
 have hol:=fC hv
 have key:∀(d k:Nat) (m:Nat) (K:List Rt),k+d=(NI q.1.toNat).length->d < m->KnI q K->Aq (Dy q ((NI q.1.toNat).map oI)) m ((SX q k).1.1,(SX q k).1.2,(SX q k).2.1.1,(SX q k).2.1.2,(SX q k).2.2,K,(k:Int))=some ((Yj q).1.1,(Yj q).1.2,(Yj q).2.1.1,(Yj q).2.1.2,(Yj q).2.2):=by
  intro d
  induction d with
  |zero=>
   intro k m K hk hm hK
   obtain⟨m,rfl⟩:∃g,m=g+1:=⟨m - 1,by omega⟩
   rw[BH]
   unfold Dy
   simp only
   rw[Ar,Ah (by omega),Ad,show k=(NI q.1.toNat).length from by omega]
   rfl
  |succ d ih=>
   intro k m K hk hm hK
   obtain⟨m,rfl⟩:∃g,m=g+1:=⟨m - 1,by omega⟩
   have hki:k < (NI q.1.toNat).length:=by omega
   obtain⟨hp,hl⟩:=au _ (Ao hki)
   obtain⟨K',hK',e⟩:=yi hq hv hp hl hK
   have hr:=ih (k+1) m K' (by omega) (by omega) hK'
   rw[BH]
   generalize Aq (Dy q ((NI q.1.toNat).map oI)) m=rec at hr⊢
   unfold Dy EM FN
   simp only
   rw[Ar,BC hki,Ac,BL (by rw[Ar];exact hki),BU]
   simp only[Aa]
   rw[xX hq hv hp hl]
   simp only
   rw[e]
   simp only[Ac]
   rw[wrap_in (by omega),X1]
   rw[<-hr,d8 hki]
   generalize SX q k=st
   obtain⟨⟨b1,b2⟩,⟨v1,v2⟩,f⟩:=st
   unfold bdS
   cases f with
   |false=>rfl
   |true=>
    simp only[Aj,Cr,Ad]
    cases decide (KX (wdB q (NI q.1.toNat)[k]) (v1,v2) < 0)<;>rfl
 unfold G0
 rw[xQ hq hv]
 simp only[Aa]
 rw[AZ (by unfold lim;decide)]
 have:=key (NI q.1.toNat).length 0 fz (List.replicate 32 (0,0)) (by omega) (CR (by unfold lim;omega)) rY
 rw[show(([]:List (List Int)),([]:List Int),(0:Int),(0:Int),false,List.replicate (Int.toNat 32) (((0:Int),(0:Int)):Rt),(0:Int))=((SX q 0).1.1,(SX q 0).1.2,(SX q 0).2.1.1,(SX q 0).2.1.2,(SX q 0).2.2,List.replicate 32 ((0:Int),(0:Int)),((0:Nat):Int))from rfl,this]
theorem yU(hq:LF q)(hv:DD q=true):GQ q=some (Yj q):=by
 have hol:=fC hv
 unfold GQ
 rw[v6 hq hv]
 simp only[Aa]
 have key:=CB (body:=D5 q ((NI q.1.toNat).map oI)) (out:=((Yj q).1.1,(Yj q).1.2,(Yj q).2.1.1,(Yj q).2.1.2,(Yj q).2.2)) (λk=>((SX q k).1.1,(SX q k).1.2,(SX q k).2.1.1,(SX q k).2.1.2,(SX q k).2.2,(k:Int))) (NI q.1.toNat).length (λk hk rec=>by
  obtain⟨hp,hl⟩:=au _ (Ao hk)
  unfold D5 FJ FK
  simp only
  rw[Ar,BC hk,Ac,BL (by rw[Ar];exact hk),BU]
  simp only[Aa]
  rw[wd hq hv hp hl]
  simp only
  rw[wo hq hv hp hl]
  simp only
  rw[wrap_in (by omega),Xj,d8 hk]
  generalize SX q k=st
  obtain⟨⟨b1,b2⟩,⟨v1,v2⟩,f⟩:=st
  unfold bdS
  cases f with
  |false=>rfl
  |true=>
   simp only[Aj,Cr,Ad]
   cases decide (KX (wdB q (NI q.1.toNat)[k]) (v1,v2) < 0)<;>rfl) (λrec=>by
  unfold D5
  simp only
  rw[Ar,Bl];rfl) fz (CR (by unfold lim;omega))
 rw[show(([]:List (List Int)),([]:List Int),(0:Int),(0:Int),false,(0:Int))=((SX q 0).1.1,(SX q 0).1.2,(SX q 0).2.1.1,(SX q 0).2.1.2,(SX q 0).2.2,((0:Nat):Int))from rfl,key]
end
def aH(q:IZ)(j:Nat)(v:Int):Bool:=Mf q.2.1 j λa=>a.2.contains v
def TY(q:IZ)(L:Nat->Bool)(i k:Nat):Bool:=(List.range q.1.toNat).all λv=> !aH q i (v:Int) || (!((List.range q.2.1.length).any λj=>(L j&&j !=i)&&aH q j (v:Int)) || aH q k (v:Int))
def UU(q:IZ)(L:Nat->Bool)(i:Nat):Option Nat:=(List.range q.2.1.length).findSome? λk=>if(L k&&k !=i)&&TY q L i k then some k else none
def QC(q:IZ)(L:Nat->Bool):Option (Nat×Nat):=(List.range q.2.1.length).findSome? λi=>if L i then(UU q L i).map λk=>(i,k)else none
def runM(q:IZ):Nat->List Nat->(Nat->Int)->(Nat->Bool)->List Nat×(Nat->Int)
 |0,out,up,_=>(out,up)
 |f+1,out,up,L=>match QC q L with
  |none=>(out,up)
  |some (i,k)=>runM q f (out++[i]) (λj=>if j=i then(k:Int)else up j) (λj=>L j&&j !=i)
def Qb(m:Nat)(up:Nat->Int):List Int:=(List.range m).map up
def gyM(q:IZ):List Int×List Int:=(oI (runM q q.2.1.length [] (λ_=> -1) (λ_=>true)).1,Qb q.2.1.length (runM q q.2.1.length [] (λ_=> -1) (λ_=>true)).2)
def ZO(m:Nat)(L:Nat->Bool):Nat:=((List.range m).filter L).length
theorem N0{α:Type}{m j:Nat}(f:Nat->α)(h:j < m):A4 ((List.range m).map f) (j:Int)=some (f j):=by
 rw[BL (by simp;exact h)];simp
theorem Tw{α:Type}{m j:Nat}(f:Nat->α)(x:α)(h:j < m):Dj ((List.range m).map f) (j:Int) x=(List.range m).map λt=>if t=j then x else f t:=by
 unfold Dj
 rw[Bg]
 refine GF λt=>?_
 by_cases ht:t < m
 ·rw[DM,BB,BB,Cy ht,Bp,Bp]
  by_cases he:j=t
  ·subst he;rw[AJ rfl,AJ (by simp;exact h),AJ rfl]
  ·rw[AN he,AN (λe=>he e.symm)]
 ·rw[AU (by simp;omega),AU (by simp;omega)]
theorem Qi{q:IZ}{L:Nat->Bool}{i k:Nat}(h:QC q L=some (i,k)):i < q.2.1.length∧k < q.2.1.length∧L i=true:=by
 unfold QC at h
 obtain⟨a,ha,h1⟩:=Hm h
 split at h1
 ·rename_i hL
  unfold UU at h1
  cases hk:(List.range q.2.1.length).findSome? λk=>if(L k&&k !=a)&&TY q L a k then some k else none with
  |none=>rw[hk]at h1;cases h1
  |some b=>
   rw[hk]at h1
   simp only[Bp,Ak,B0]at h1
   obtain⟨rfl,rfl⟩:=h1
   obtain⟨c,hc,h2⟩:=Hm hk
   split at h2
   ·cases h2;exact⟨Al.1 ha,Al.1 hc,hL⟩
   ·cases h2
 ·cases h1
theorem br{m:Nat}{L:Nat->Bool}{i:Nat}(hi:i < m)(h:L i=true):ZO m (λj=>L j&&j !=i) < ZO m L:=by
 unfold ZO
 have e:(List.range m).filter (λj=>L j&&j !=i)=((List.range m).filter L).filter (λj=>j !=i):=by
  rw[List.filter_filter]
  congr 1
  funext j
  exact HO _ _
 rw[e]
 have hm:i∈(List.range m).filter L:=Be.2 ⟨Al.2 hi,h⟩
 have:=List.length_filter_lt_length_iff_exists (p:=λj=>j !=i) (l:=(List.range m).filter L)
 exact this.2 ⟨i,hm,by simp⟩
theorem eH{m:Nat}{L:Nat->Bool}{i:Nat}(hi:i < m)(h:L i=true):0 < ZO m L:=by
 unfold ZO
 exact F3 (Be.2 ⟨Al.2 hi,h⟩)
section
variable {q:IZ}{L:Nat->Bool}
theorem Rn{j:Nat}(h:j < q.2.1.length)(v:Int):q.2.1[j].2.contains v=aH q j v:=by unfold aH;rw[DH h]
theorem x8(hq:LF q)(i:Nat)(v:Int):Aq (IS q (uL q.2.1.length L) (i:Int) v) fz (false,0)=some ((List.range q.2.1.length).any λj=>(L j&&j !=i)&&aH q j v):=by
 have:=CB (body:=IS q (uL q.2.1.length L) (i:Int) v) (out:=(List.range q.2.1.length).any λj=>(L j&&j !=i)&&aH q j v) (λk=>((List.range k).any λj=>(L j&&j !=i)&&aH q j v,(k:Int))) q.2.1.length (λk hk rec=>by
  have ha:=hq.2.1 _ (Ao hk)
  unfold IS IU
  simp only
  rw[BC hk,BQ hk (Bo hq.1),show A4 (uL q.2.1.length L) (k:Int)=some (L k)from N0 L hk,BL hk,Sz]
  simp only[Ac,Aa,aE ha.2]
  rw[Rn hk,CK,Gn,E8,List.any_nil,C0]
  cases(List.range k).any λj=>(L j&&j !=i)&&aH q j v<;>cases L k<;>cases k !=i<;>cases aH q k v<;>rfl) (λrec=>by unfold IS;simp only;rw[Bl];rfl) fz (CR hq.1)
 simpa using this
theorem x2(hq:LF q)(hv:DD q=true){i k:Nat}(hi:i < q.2.1.length)(hk:k < q.2.1.length):Aq (IR q (uL q.2.1.length L) (i:Int) (k:Int)) fz (true,0)=some (TY q L i k):=by
 obtain⟨h1,h5⟩:=MN hv
 have:=CB (body:=IR q (uL q.2.1.length L) (i:Int) (k:Int)) (out:=TY q L i k) (λt=>((List.range t).all λv=> !aH q i (v:Int) || (!((List.range q.2.1.length).any λj=>(L j&&j !=i)&&aH q j (v:Int)) || aH q k (v:Int)),(t:Int))) q.1.toNat (λt ht rec=>by
  have hai:=hq.2.1 _ (Ao hi)
  have hak:=hq.2.1 _ (Ao hk)
  unfold IR IV
  simp only
  rw[Ai (by omega:(t:Int) < q.1),x8 hq,wrap_in (by omega),BL hi,BL hk]
  simp only[Ac,Aa,aE hai.2,aE hak.2]
  rw[Rn hi,Rn hk,CK,El,A7,D9,Cj]
  cases(List.range t).all λv=> !aH q i (v:Int) || (!((List.range q.2.1.length).any λj=>(L j&&j !=i)&&aH q j (v:Int)) || aH q k (v:Int))<;>cases aH q i (t:Int)<;>cases((List.range q.2.1.length).any λj=>(L j&&j !=i)&&aH q j (t:Int))<;>cases aH q k (t:Int)<;>rfl) (λrec=>by
  unfold IR;simp only;rw[Ah (by omega:¬((q.1.toNat:Nat):Int) < q.1)];rfl) fz (CR (by unfold lim;omega))
 simpa using this
theorem xY(hq:LF q)(hv:DD q=true):PJ q (uL q.2.1.length L)=some (match QC q L with|some (i,k)=>((i:Int),(k:Int))|none=>(-1,-1)):=by
 unfold PJ
 have key:=OD (B:=MU q (uL q.2.1.length L)) (n:=q.2.1.length) (λi=>if L i then(UU q L i).map (λ(k:Nat)=>((i:Int),(k:Int)))else none) hq.1 (λi hi rec=>by
  unfold MU
  have k2:=OD (B:=KI q (uL q.2.1.length L) (i:Int)) (n:=q.2.1.length) (λk=>if L i then(if(L k&&k !=i)&&TY q L i k then some ((i:Int),(k:Int))else none)else none) hq.1 (λk hk rec=>by
   unfold KI IT
   rw[BC hk,BQ hk (Bo hq.1),show A4 (uL q.2.1.length L) (i:Int)=some (L i)from N0 L hi,show A4 (uL q.2.1.length L) (k:Int)=some (L k)from N0 L hk,aj]
   simp only[Ac,Aa,x2 hq hv hi hk]
   have e:(i==k)= !(k !=i):=by
    rw[AG];simp;exact eq_comm
   rw[e]
   cases L i<;>cases L k<;>cases k !=i<;>cases TY q L i k<;>rfl) (λrec=>by unfold KI;rw[Bl];rfl)
  rw[BC hi,k2,BQ hi (Bo hq.1)]
  simp only[Ac,Aa]
  cases hL:L i with
  |false=>
   have:((List.range q.2.1.length).findSome? λk=>if(false:Bool)=true then(if(L k&&k !=i)&&TY q L i k then some ((i:Int),(k:Int))else none)else none)=none:=by
    rw[List.findSome?_eq_none_iff];intro x _;rfl
   rw[this];rfl
  |true=>
   have:((List.range q.2.1.length).findSome? λk=>if(true:Bool)=true then(if(L k&&k !=i)&&TY q L i k then some ((i:Int),(k:Int))else none)else none)=(UU q L i).map λ(k:Nat)=>((i:Int),(k:Int)):=by
    unfold UU
    rw[Fj]
    congr 1
    funext k
    simp only[Function.comp,Er]
    split<;>rfl
   rw[this,AJ rfl]
   cases UU q L i<;>rfl) (λrec=>by unfold MU;rw[Bl];rfl)
 rw[key]
 have e:((List.range q.2.1.length).findSome? λi=>if L i then(UU q L i).map (λ(k:Nat)=>((i:Int),(k:Int)))else none)=(QC q L).map λ(x:Nat×Nat)=>((x.1:Int),(x.2:Int)):=by
  unfold QC
  rw[Fj]
  congr 1
  funext i
  simp only[Function.comp]
  split
  ·rw[Option.map_map];rfl
  ·rfl
 rw[e]
 cases QC q L<;>rfl
theorem lS(hq:LF q)(hv:DD q=true):∀(c:Nat) (out:List Nat) (up:Nat->Int) (L:Nat->Bool) (M:Nat),ZO q.2.1.length L<=c->c < M->out.length+c<=100->Aq (MW q) M (oI out,Qb q.2.1.length up,uL q.2.1.length L)=some (.inr (oI (runM q c out up L).1,Qb q.2.1.length (runM q c out up L).2))
 |c,out,up,L,0,h1,h2,_=>by omega
 |c,out,up,L,M+1,h1,h2,h3=>by
  rw[BH]
  have hstep:∀rec:(List Int×List Int×List Bool)->Option (Sum Unit (List Int×List Int)),MW q rec (oI out,Qb q.2.1.length up,uL q.2.1.length L)=match QC q L with
    |none=>some (.inr (oI out,Qb q.2.1.length up))
    |some (i,k)=>rec (oI (out++[i]),Qb q.2.1.length (λj=>if j=i then(k:Int)else up j),uL q.2.1.length (λj=>L j&&j !=i)):=λrec=>by
   unfold MW
   simp only
   rw[xY hq hv]
   simp only[Aa]
   cases he:QC q L with
   |none=>rfl
   |some x=>
    obtain⟨i,k⟩:=x
    obtain⟨e1,e2,e3⟩:=Qi he
    simp only
    rw[Ah (by omega:¬(i:Int) < 0),Ad,AZ (by rw[C3];unfold lim;simp;omega),AZ (by simp[Qb];omega),show A4 (Qb q.2.1.length up) (i:Int)=some (up i)from N0 up e1]
    simp only
    rw[AZ (by simp[uL];omega),show A4 (uL q.2.1.length L) (i:Int)=some (L i)from N0 L e1]
    simp only
    rw[SA]
    congr 1
    congr 1
    congr 1
    ·exact Tw up _ e1
    ·unfold uL
     rw[Tw L _ e1]
     refine BE λt _=>?_
     by_cases ht:t=i
     ·subst ht;simp
     ·rw[AN ht];simp[ht]
  rw[hstep]
  cases c with
  |zero=>
   have hn:QC q L=none:=by
    cases he:QC q L with
    |none=>rfl
    |some x=>
     obtain⟨i,k⟩:=x
     obtain⟨e1,e2,e3⟩:=Qi he
     have:=eH e1 e3
     omega
   rw[hn];rfl
  |succ c=>
   rw[runM]
   cases he:QC q L with
   |none=>rfl
   |some x=>
    obtain⟨i,k⟩:=x
    obtain⟨e1,e2,e3⟩:=Qi he
    have:=br e1 e3
    exact lS hq hv c _ _ _ M (by omega) (by omega) (by simp;omega)
theorem ya(hq:LF q)(hv:DD q=true):NO q=some (gyM q):=by
 obtain⟨_,_,h4,_⟩:=MM hv
 unfold NO
 rw[Bg,AZ (by unfold lim;omega),AZ (by unfold lim;omega)]
 have key:=CB (body:=MV) (out:=(Qb q.2.1.length (λ_=> -1),uL q.2.1.length (λ_=>true))) (λt=>(Qb q.2.1.length (λj=>if j < t then -1 else 0),uL q.2.1.length (λj=>decide (j < t)),(t:Int))) q.2.1.length (λt ht rec=>by
  unfold MV
  simp only
  rw[VC,BC ht,BQ ht (Bo hq.1),AZ (by omega),show A4 (uL q.2.1.length (λj=>decide (j < t))) (t:Int)=some (decide (t < t))from N0 _ ht]
  simp only[Ac,Aa]
  rw[AZ (by simp[Qb];omega),show A4 (Qb q.2.1.length (λj=>if j < t then -1 else 0)) (t:Int)=some (if t < t then -1 else 0)from N0 (λj=>if j < t then(-1:Int)else 0) ht]
  simp only
  congr 1
  congr 1
  ·unfold Qb
   rw[Tw _ _ ht]
   refine BE λx _=>?_
   by_cases hx:x=t
   ·subst hx;rw[AJ rfl,AJ (by omega)]
   ·rw[AN hx]
    by_cases hx2:x < t
    ·rw[AJ hx2,AJ (by omega)]
    ·rw[AN hx2,AN (by omega)]
  ·congr 1
   unfold uL
   rw[Tw _ _ ht]
   refine BE λx _=>?_
   by_cases hx:x=t
   ·subst hx;rw[AJ rfl,Ai (by omega)]
   ·rw[AN hx,AG,AB,AB];omega) (λrec=>by
  unfold MV
  simp only
  rw[VC,Bl,Ad]
  congr 1
  congr 1
  ·exact BE λx hx=>by rw[AJ (Al.1 hx)]
  ·exact BE λx hx=>Ai (Al.1 hx)) fz (CR hq.1)
 have e0:((List.replicate q.2.1.length (0:Int),List.replicate q.2.1.length false,(0:Int)):List Int×List Bool×Int)=(Qb q.2.1.length (λj=>if j < 0 then -1 else 0),uL q.2.1.length (λj=>decide (j < 0)),((0:Nat):Int)):=by
  congr 1
  ·unfold Qb
   have:(λj:Nat=>if j < 0 then(-1:Int)else 0)=λ_=>0:=by funext j;rw[AN (by omega)]
   rw[this,Em,BS]
  ·congr 1
   unfold uL
   have:(λj:Nat=>decide (j < 0))=λ_=>false:=by funext j;exact Ah (by omega)
   rw[this,Em,BS]
 rw[e0,key]
 simp only[Aa]
 have hr:=lS hq hv q.2.1.length [] (λ_=> -1) (λ_=>true) fz (by unfold ZO;exact By (BR _ _) (by simp)) (CR hq.1) (by simp;omega)
 rw[show(([]:List Int),Qb q.2.1.length (λ_=> -1),uL q.2.1.length (λ_=>true))=(oI [],Qb q.2.1.length (λ_=> -1),uL q.2.1.length (λ_=>true))from rfl,hr]
 rfl
end
section
variable {q:IZ}{L:Nat->Bool}
def okY(q:IZ)(L:Nat->Bool)(i k:Nat)(v:Int)(j:Nat):Bool:= !((j !=i&&L j)&&aH q j v) || aH q k v
theorem rI(hv:DD q=true){i k:Nat}(hi:i < q.2.1.length):(q.2.1[i].2.all λv=>(List.range q.2.1.length).all (okY q L i k v))=TY q L i k:=by
 obtain⟨_,_,_,hin⟩:=MM hv
 have hia:=(hin _ (Ao hi)).2
 rw[AG]
 unfold TY
 rw[Af,Af]
 constructor
 ·intro h u hu
  have hu:=Al.1 hu
  cases hc:aH q i (u:Int)with
  |false=>rfl
  |true=>
   rw[<-Rn hi]at hc
   have h1:=Af.1 (h _ (Av.1 hc))
   cases hk:aH q k (u:Int)with
   |true=>simp
   |false=>
    rw[Aj,Cr,C0,AD,Ct]
    intro j hj hh
    have:=h1 j hj
    unfold okY at this
    rw[hk,C0,AD]at this
    rw[Ab,Ab]at hh
    rw[hh.1.1,hh.1.2,hh.2]at this
    cases this
 ·intro h v hvm
  obtain⟨b1,b2⟩:=hia v hvm
  have h1:=h v.toNat (Al.2 (by omega))
  have e:((v.toNat:Nat):Int)=v:=by omega
  rw[e,<-Rn hi,Av.2 hvm,Aj,Cr]at h1
  rw[Af]
  intro j hj
  unfold okY
  cases hk:aH q k v with
  |true=>simp
  |false=>
   rw[hk,C0,AD,Ct]at h1
   have:=h1 j hj
   rw[C0,AD,Gm]
   cases hb:aH q j v with
   |false=>right;rfl
   |true=>
    left
    rw[hb,Cj]at this
    rw[HO]
    exact Iq.2 this
theorem pC(hq:LF q){i k:Nat}(hk:k < q.2.1.length)(v:Int):∀(d j M:Nat) (ok:Bool),j+d=q.2.1.length->d < M->Aq (Ff (i:Int) (q.2.1.length:Int) (uL q.2.1.length λj=> !L j) q (k:Int) v) M (ok,(j:Int))=some (ok&&(List.range' j d).all (okY q L i k v))
 |0,j,M+1,ok,h1,h2=>by
  rw[BH]
  generalize Aq (Ff (i:Int) (q.2.1.length:Int) (uL q.2.1.length λj=> !L j) q (k:Int) v) M=rec
  unfold Ff
  simp only
  rw[Ah (by omega)]
  simp
 |d+1,j,M+1,ok,h1,h2=>by
  have hj:j < q.2.1.length:=by omega
  have hB:∀rec:(Bool×Int)->Option Bool,Ff (i:Int) (q.2.1.length:Int) (uL q.2.1.length λj=> !L j) q (k:Int) v rec (ok,(j:Int))=cond ok (rec (okY q L i k v j,((j+1:Nat):Int))) (some false):=λrec=>by
   have haj:=hq.2.1 _ (Ao hj)
   have hak:=hq.2.1 _ (Ao hk)
   unfold Ff ID KT
   simp only
   rw[Ai (by omega:(j:Int) < (q.2.1.length:Int)),Sz,show A4 (uL q.2.1.length λj=> !L j) (j:Int)=some (!L j)from N0 (λj=> !L j) hj,BL hj,BL hk,BQ hj (Bo hq.1)]
   simp only[Ac,Aa,dl haj.2,dl hak.2]
   rw[Rn hj,Rn hk]
   unfold okY
   cases ok<;>cases j !=i<;>cases L j<;>cases aH q j v<;>cases aH q k v<;>rfl
  rw[BH,hB,CX,A7]
  cases ok with
  |false=>rfl
  |true=>rw[Ac,pC hq hk v d (j+1) M _ (by omega) (by omega)];rfl
 |_,_,0,_,_,h=>by omega
theorem rW(hq:LF q)(hv:DD q=true){i k:Nat}(hi:i < q.2.1.length)(hk:k < q.2.1.length):Aq (IB (i:Int) (q.2.1.length:Int) (uL q.2.1.length λj=> !L j) q (k:Int) q.2.1[i]) fz (true,0)=some (TY q L i k):=by
 have hai:=hq.2.1 _ (Ao hi)
 rw[<-rI hv hi]
 generalize q.2.1[i]=a at hai
 have:=CB (body:=IB (i:Int) (q.2.1.length:Int) (uL q.2.1.length λj=> !L j) q (k:Int) a) (out:=a.2.all λv=>(List.range q.2.1.length).all (okY q L i k v)) (λt=>((a.2.take t).all λv=>(List.range q.2.1.length).all (okY q L i k v),(t:Int))) a.2.length (λt ht rec=>by
  unfold IB
  simp only
  have:=pC (q:=q) (L:=L) hq (i:=i) hk a.2[t] q.2.1.length 0 fz ((a.2.take t).all λv=>(List.range q.2.1.length).all (okY q L i k v)) (by omega) (CR hq.1)
  rw[BC ht,BL ht,BQ ht (Bo hai.2)]
  simp only[Ac,Aa]
  rw[show(0:Int)=((0:Nat):Int)from rfl,this]
  simp only
  rw[Au ht,El,A7,D9,Cj,<-ED]) (λrec=>by unfold IB;simp only;rw[Bl,A5];rfl) fz (CR hai.2)
 simpa using this
theorem we(hq:LF q)(hv:DD q=true){i:Nat}(hi:i < q.2.1.length):Nn (i:Int) (q.2.1.length:Int) (uL q.2.1.length λj=> !L j) q=some (match UU q L i with|some k=>(k:Int)|none=> -1):=by
 unfold Nn
 have key:=OD (B:=IA (i:Int) (q.2.1.length:Int) (uL q.2.1.length λj=> !L j) q) (n:=q.2.1.length) (λk=>if(L k&&k !=i)&&TY q L i k then some ((k:Nat):Int)else none) hq.1 (λk hk rec=>by
  unfold IA IC
  rw[BC hk,BQ hk (Bo hq.1),aj,show A4 (uL q.2.1.length λj=> !L j) (k:Int)=some (!L k)from N0 (λj=> !L j) hk,BL hi]
  simp only[Ac,Aa,rW hq hv hi hk]
  have e:(k==i)= !(k !=i):=by unfold bne;rw[Bool.not_not]
  rw[e]
  cases L k<;>cases k !=i<;>cases TY q L i k<;>rfl) (λrec=>by unfold IA;rw[Bl];rfl)
 rw[key]
 have e:((List.range q.2.1.length).findSome? λk=>if(L k&&k !=i)&&TY q L i k then some ((k:Nat):Int)else none)=(UU q L i).map λ(k:Nat)=>(k:Int):=by
  unfold UU
  rw[Fj]
  congr 1
  funext k
  simp only[Function.comp]
  split<;>rfl
 rw[e]
 cases UU q L i<;>rfl
def cd(q:IZ)(L:Nat->Bool)(i:Nat):Option (Nat×Nat):=if L i then(UU q L i).map λk=>(i,k)else none
theorem jR(hq:LF q)(hv:DD q=true){out:List Nat}{up:Nat->Int}(ho:out.length<=100):∀(d i M:Nat),i+d=q.2.1.length->d+1 < M->Aq (Fx q) M (Qb q.2.1.length up,uL q.2.1.length (λj=> !L j),oI out,false,(i:Int))=some (match(List.range' i d).findSome? (cd q L)with
  |none=>(Qb q.2.1.length up,uL q.2.1.length (λj=> !L j),oI out,false)
  |some (i,k)=>(Qb q.2.1.length (λj=>if j=i then(k:Int)else up j),uL q.2.1.length (λj=> !(L j&&j !=i)),oI (out++[i]),true))
 |0,i,M+1,h1,h2=>by
  rw[BH]
  generalize Aq (Fx q) M=rec
  unfold Fx
  simp only
  rw[Ah (by omega)];rfl
 |d+1,i,M+1,h1,h2=>by
  have hi:i < q.2.1.length:=by omega
  have hB:∀rec:(List Int×List Bool×List Int×Bool×Int)->Option (List Int×List Bool×List Int×Bool),Fx q rec (Qb q.2.1.length up,uL q.2.1.length (λj=> !L j),oI out,false,(i:Int))=match cd q L i with
    |none=>rec (Qb q.2.1.length up,uL q.2.1.length (λj=> !L j),oI out,false,((i+1:Nat):Int))
    |some (i,k)=>rec (Qb q.2.1.length (λj=>if j=i then(k:Int)else up j),uL q.2.1.length (λj=> !(L j&&j !=i)),oI (out++[i]),true,((i+1:Nat):Int)):=λrec=>by
   unfold Fx Ks cd
   simp only
   rw[BC hi,BQ hi (Bo hq.1),show A4 (uL q.2.1.length λj=> !L j) (i:Int)=some (!L i)from N0 (λj=> !L j) hi]
   simp only[Ac,Aa,Dn]
   cases hL:L i with
   |false=>rfl
   |true=>
    rw[Aj,Ad,we hq hv hi,AJ rfl]
    simp only
    cases UU q L i with
    |none=>rfl
    |some k=>
     simp only[Bp]
     rw[Ai (by omega:(0:Int)<=(k:Int)),Ac,AZ (by simp[Qb];omega),show A4 (Qb q.2.1.length up) (i:Int)=some (up i)from N0 up hi]
     simp only
     rw[AZ (by simp[uL];omega),AZ (by rw[C3];unfold lim;simp;omega),SA]
     congr 1
     congr 1
     ·exact Tw up _ hi
     ·congr 1
      unfold uL
      rw[Tw (λj=> !L j) _ hi]
      refine BE λt _=>?_
      by_cases ht:t=i
      ·subst ht;simp
      ·rw[AN ht];simp[ht]
  have hE:∀(rec:(List Int×List Bool×List Int×Bool×Int)->Option (List Int×List Bool×List Int×Bool)) (a:List Int) (b:List Bool) (c:List Int) (x:Int),Fx q rec (a,b,c,true,x)=some (a,b,c,true):=λrec a b c x=>by
   unfold Fx
   simp only
   cases decide (x < (q.2.1.length:Int))<;>rfl
  rw[BH,hB,CX,List.findSome?_cons]
  cases hn:cd q L i with
  |none=>exact jR hq hv ho d (i+1) M (by omega) (by omega)
  |some x=>
   obtain⟨i',k⟩:=x
   simp only
   cases M with
   |zero=>omega
   |succ M=>rw[BH,hE]
 |_,_,0,_,h=>by omega
theorem jQ(hq:LF q)(hv:DD q=true):∀(c:Nat) (out:List Nat) (up:Nat->Int) (L:Nat->Bool) (M:Nat),ZO q.2.1.length L<=c->c+1 < M->out.length+c<=100->Aq (IE q) M (Qb q.2.1.length up,uL q.2.1.length (λj=> !L j),oI out,true)=some (Qb q.2.1.length (runM q c out up L).2,oI (runM q c out up L).1)
 |c,out,up,L,0,h1,h2,_=>by omega
 |c,out,up,L,M+1,h1,h2,h3=>by
  have hscan:=jR (L:=L) hq hv (out:=out) (up:=up) (by omega) q.2.1.length 0 fz (by omega) (CR (by have:=(MM hv).2.2.1;unfold lim;omega))
  have hp:(List.range' 0 q.2.1.length).findSome? (cd q L)=QC q L:=by rw[<-ED];rfl
  rw[hp]at hscan
  have hE:∀(rec:(List Int×List Bool×List Int×Bool)->Option (List Int×List Int)) (a:List Int) (b:List Bool) (c:List Int),IE q rec (a,b,c,false)=some (a,c):=λrec a b c=>rfl
  have hstep:∀rec:(List Int×List Bool×List Int×Bool)->Option (List Int×List Int),IE q rec (Qb q.2.1.length up,uL q.2.1.length (λj=> !L j),oI out,true)=match QC q L with
    |none=>rec (Qb q.2.1.length up,uL q.2.1.length (λj=> !L j),oI out,false)
    |some (i,k)=>rec (Qb q.2.1.length (λj=>if j=i then(k:Int)else up j),uL q.2.1.length (λj=> !(L j&&j !=i)),oI (out++[i]),true):=λrec=>by
   unfold IE
   simp only[Ac]
   rw[show(0:Int)=((0:Nat):Int)from rfl,hscan]
   cases QC q L with
   |none=>rfl
   |some x=>obtain⟨i,k⟩:=x;rfl
  rw[BH,hstep]
  have hno:QC q L=none->Aq (IE q) M (Qb q.2.1.length up,uL q.2.1.length (λj=> !L j),oI out,false)=some (Qb q.2.1.length up,oI out):=λ_=>by
   cases M with
   |zero=>omega
   |succ M=>rw[BH,hE]
  cases c with
  |zero=>
   have hn:QC q L=none:=by
    cases he:QC q L with
    |none=>rfl
    |some x=>
     obtain⟨i,k⟩:=x
     obtain⟨e1,e2,e3⟩:=Qi he
     have:=eH e1 e3
     omega
   rw[hn]
   exact hno hn
  |succ c=>
   rw[runM]
   cases he:QC q L with
   |none=>exact hno he
   |some x=>
    obtain⟨i,k⟩:=x
    obtain⟨e1,e2,e3⟩:=Qi he
    have:=br e1 e3
    exact jQ hq hv c _ _ _ M (by omega) (by omega) (by simp;omega)
theorem jO(hq:LF q)(hv:DD q=true):NC q=some (gyM q):=by
 obtain⟨_,_,h4,_⟩:=MM hv
 unfold NC
 rw[Bg,AZ (by unfold lim;omega),AZ (by unfold lim;omega)]
 have key:=CB (body:=MA q) (out:=Qb q.2.1.length (λ_=> -1)) (λt=>(Qb q.2.1.length (λj=>if j < t then -1 else 0),(t:Int))) q.2.1.length (λt ht rec=>by
  unfold MA
  simp only
  rw[Bg,Dw,BC ht,BQ ht (Bo hq.1),AZ (by simp[Qb];omega),show A4 (Qb q.2.1.length (λj=>if j < t then -1 else 0)) (t:Int)=some (if t < t then -1 else 0)from N0 (λj=>if j < t then(-1:Int)else 0) ht]
  simp only[Ac,Aa]
  congr 1
  congr 1
  unfold Qb
  rw[Tw _ _ ht]
  refine BE λx _=>?_
  by_cases hx:x=t
  ·subst hx;rw[AJ rfl,AJ (by omega)]
  ·rw[AN hx]
   by_cases hx2:x < t
   ·rw[AJ hx2,AJ (by omega)]
   ·rw[AN hx2,AN (by omega)]) (λrec=>by
  unfold MA
  simp only
  rw[Bg,Dw,Bl,Ad]
  congr 1
  exact BE λx hx=>by rw[AJ (Al.1 hx)]) fz (CR hq.1)
 have e0:((List.replicate q.2.1.length (0:Int),(0:Int)):List Int×Int)=(Qb q.2.1.length (λj=>if j < 0 then -1 else 0),((0:Nat):Int)):=by
  congr 1
  unfold Qb
  have:(λj:Nat=>if j < 0 then(-1:Int)else 0)=λ_=>0:=by funext j;rw[AN (by omega)]
  rw[this,Em,BS]
 have e1:List.replicate q.2.1.length false=uL q.2.1.length (λj=> !(λ_=>true:Nat->Bool) j):=by
  unfold uL
  rw[show(λj:Nat=> !(λ_=>true:Nat->Bool) j)=λ_=>false from rfl,Em,BS]
 rw[e0,key,e1]
 simp only[Aa]
 have hr:=jQ hq hv q.2.1.length [] (λ_=> -1) (λ_=>true) fz (by unfold ZO;exact By (BR _ _) (by simp)) (CR (by unfold lim;omega)) (by simp;omega)
 rw[show((Qb q.2.1.length (λ_=> -1),uL q.2.1.length (λj=> !(λ_=>true:Nat->Bool) j),([]:List Int),true):List Int×List Bool×List Int×Bool)=(Qb q.2.1.length (λ_=> -1),uL q.2.1.length (λj=> !(λ_=>true:Nat->Bool) j),oI [],true)from rfl,hr]
 rfl
def a7(q:IZ):Bool:=((gyM q).1.length:Int)==(q.2.1.length:Int) - 1
theorem xW(hq:LF q)(hv:DD q=true):Jk q=some (cond (a7 q) ((gyM q).2,true) ([],false)):=by
 obtain⟨_,_,h4,_⟩:=MM hv
 unfold Jk Pd Lm J4
 rw[Nr hq,hv]
 simp only[Aa,Ac,Aj,Ad,ya hq hv]
 rw[wrap_in (by omega)]
 unfold a7
 cases((gyM q).1.length:Int)==(q.2.1.length:Int) - 1<;>rfl
theorem wa(hq:LF q)(hv:DD q=true):I8 q=some (cond (a7 q) ((gyM q).2,true) ([],false)):=by
 obtain⟨_,_,h4,_⟩:=MM hv
 unfold I8 OR Lj JV
 rw[Mr hq,hv]
 simp only[Aa,Ac,Aj,Ad,jO hq hv]
 rw[wrap_in (by omega)]
 unfold a7
 cases((gyM q).1.length:Int)==(q.2.1.length:Int) - 1<;>rfl
end
def VF(q:IZ)(v:Nat):List Nat:=(List.range q.2.1.length).filter λj=>aH q j (v:Int)
def M4(q:IZ)(out:List Int)(v:Nat):Bool:=(CQ q.1.toNat (E1 q v)).any out.contains
def Kf(s:List Int)(i:Nat):Int:=s.getD i 0
def RQ(q:IZ)(s:List Int)(v:Nat):Int:=(VF q v).tail.foldl (λn i=>if Kf s i < n then Kf s i else n) (Kf s ((VF q v).headD 0))
def iW(q:IZ)(s:List Int)(v w:Nat):Bool:=cond (((VF q v).length:Int)!=(VF q w).length) (decide (((VF q w).length:Int) < (VF q v).length)) (decide (RQ q s v < RQ q s w))
def mK(q:IZ)(s out:List Int)(v w:Nat):Bool:=(M4 q out v&& !M4 q out w) || (M4 q out v==M4 q out w&&iW q s v w)
def NJ(q:IZ)(s out:List Int)(k:Nat):Option Nat:=(List.range k).foldl (λ(b:Option Nat) (v:Nat)=>if out.contains (v:Int)then b else match b with
 |none=>some v
 |some w=>if mK q s out v w then some v else some w) none
def bI(b:Option Nat):Int:=match b with
 |none=> -1
 |some v=>(v:Int)
def Ui(q:IZ)(s:List Int):Nat->List Int
 |0=>[]
 |t+1=>Ui q s t++[bI (NJ q s (Ui q s t) q.1.toNat)]
theorem Qq(q:IZ)(s:List Int):∀t,(Ui q s t).length=t
 |0=>rfl
 |t+1=>by rw[Ui,AR,Qq q s t];rfl
theorem aA(q:IZ)(s out:List Int):∀k w,NJ q s out k=some w->w < k
 |0,w,h=>by cases h
 |k+1,w,h=>by
  unfold NJ at h
  rw[CK,De,Db,IM]at h
  have ih:=aA q s out k
  unfold NJ at ih
  revert h ih
  generalize(List.range k).foldl _ none=b
  intro h ih
  split at h
  ·have:=ih w h;omega
  ·split at h
   ·cases h;omega
   ·rename_i w'
    split at h
    ·cases h;omega
    ·cases h;have:=ih _ rfl;omega
section
variable {q:IZ}{s out:List Int}
theorem pl(hv:DD q=true){v:Nat}(h:v < q.1.toNat):VF q v≠[]:=λe=>by
 have hv':=hv
 unfold DD at hv'
 simp only[Ab,AD]at hv'
 have hu:=hv'.2.2.2.2
 rw[Ct]at hu
 have:=hu v (Al.2 h)
 rw[AD,Bool.not_eq_false]at this
 unfold Il at this
 obtain⟨a,ha,hc⟩:=Cu.1 this
 obtain⟨j,hj,rfl⟩:=CJ.1 ha
 have hm:j∈VF q v:=Be.2 ⟨Al.2 hj,by rw[<-Rn hj];exact hc⟩
 rw[e]at hm
 cases hm
theorem pk{v i:Nat}(h:i∈VF q v):i < q.2.1.length:=Al.1 (Be.1 h).1
theorem qN(v k:Nat):(List.range (k+1)).filter (λj=>aH q j (v:Int))=(List.range k).filter (λj=>aH q j (v:Int))++cond (aH q k (v:Int)) [k] []:=by
 rw[CK,Dl,Dr,Gp]
 cases aH q k (v:Int)<;>rfl
theorem pY(hq:LF q)(hv:DD q=true)(v:Nat):EU q (v:Int)=some ((VF q v).length:Int):=by
 have h4:=(MM hv).2.2.1
 unfold EU
 have:=CB (body:=FB q (v:Int)) (out:=((VF q v).length:Int)) (λk=>((((List.range k).filter λj=>aH q j (v:Int)).length:Int),(k:Int))) q.2.1.length (λk hk rec=>by
  have ha:=hq.2.1 _ (Ao hk)
  have hl:=BR (λj=>aH q j (v:Int)) (List.range k)
  rw[BS]at hl
  unfold FB G2
  simp only
  rw[BC hk,Nr hq,hv,BL hk,BQ hk (Bo hq.1),qN]
  simp only[Ac,Aa,aE ha.2]
  rw[Rn hk,wrap_in (by omega)]
  cases aH q k (v:Int)<;>simp) (λrec=>by unfold FB;simp only;rw[Bl];rfl) fz (CR hq.1)
 rw[show((0:Int),(0:Int))=((((List.range 0).filter λj=>aH q j (v:Int)).length:Int),((0:Nat):Int))from rfl,this]
 rfl
theorem xS(hq:LF q)(hv:DD q=true)(v:Nat):GZ q (v:Int)=some (oI (VF q v)):=by
 have h4:=(MM hv).2.2.1
 unfold GZ
 have:=CB (body:=EL q (v:Int)) (out:=oI (VF q v)) (λk=>(oI ((List.range k).filter λj=>aH q j (v:Int)),(k:Int))) q.2.1.length (λk hk rec=>by
  have ha:=hq.2.1 _ (Ao hk)
  have hl:=BR (λj=>aH q j (v:Int)) (List.range k)
  rw[BS]at hl
  unfold EL FM
  simp only
  rw[BC hk,Nr hq,hv,BL hk,BQ hk (Bo hq.1),qN]
  simp only[Ac,Aa,aE ha.2]
  rw[Rn hk,AZ (by rw[C3];unfold lim;simp;omega),SA]
  cases aH q k (v:Int)<;>simp) (λrec=>by unfold EL;simp only;rw[Bl];rfl) fz (CR hq.1)
 rw[show(([]:List Int),(0:Int))=(oI ((List.range 0).filter λj=>aH q j (v:Int)),((0:Nat):Int))from rfl,this]
 rfl
theorem pu(hq:LF q)(hv:DD q=true)(v:Nat):Fu q (v:Int)=some (oI (VF q v)):=by
 have h4:=(MM hv).2.2.1
 unfold Fu
 rw[Mr hq,hv]
 simp only[Aa,Aj,Ad]
 have:=CB (body:=EJ q (v:Int)) (out:=oI (VF q v)) (λk=>(oI ((List.range k).filter λj=>aH q j (v:Int)),(k:Int))) q.2.1.length (λk hk rec=>by
  have ha:=hq.2.1 _ (Ao hk)
  have hl:=BR (λj=>aH q j (v:Int)) (List.range k)
  rw[BS]at hl
  unfold EJ FI
  simp only
  rw[BC hk,BL hk,BQ hk (Bo hq.1),qN]
  simp only[Ac,Aa,dl ha.2]
  rw[Rn hk,AZ (by rw[C3];unfold lim;simp;omega),SA]
  cases aH q k (v:Int)<;>simp) (λrec=>by unfold EJ;simp only;rw[Bl];rfl) fz (CR hq.1)
 rw[show(([]:List Int),(0:Int))=(oI ((List.range 0).filter λj=>aH q j (v:Int)),((0:Nat):Int))from rfl,this]
theorem pz(hq:LF q)(hv:DD q=true)(v:Nat):GD q (v:Int)=some ((VF q v).length:Int):=by
 unfold GD
 rw[pu hq hv]
 simp only[Aa,C3]
theorem mb(hs:s.length=q.2.1.length){i:Nat}(h:i < q.2.1.length):A4 s (i:Int)=some (Kf s i):=by
 rw[BL (by omega)]
 unfold Kf
 rw[At,Ae (by omega)];rfl
theorem YN(s:List Int)(l:List Nat)(x:Int)(i:Nat):(l++[i]).foldl (λn i=>if Kf s i < n then Kf s i else n) x=if Kf s i < l.foldl (λn i=>if Kf s i < n then Kf s i else n) x then Kf s i else l.foldl (λn i=>if Kf s i < n then Kf s i else n) x:=by
 rw[De];rfl
theorem fQ(hq:LF q)(hv:DD q=true)(hs:s.length=q.2.1.length){v:Nat}(h:v < q.1.toNat):Ly q s (v:Int)=some (RQ q s v):=by
 have h4:=(MM hv).2.2.1
 unfold Ly RQ
 rw[xS hq hv]
 have hlt:=λi (hi:i∈VF q v)=>pk hi
 have hne:=pl hv h
 have hl:(VF q v).length<=4:=By (BR _ _) (by simp;omega)
 generalize VF q v=A at hlt hne hl
 cases A with
 |nil=>exact absurd rfl hne
 |cons a A=>
  simp only[Aa]
  rw[show(0:Int)=((0:Nat):Int)from rfl,RU (by simp),show oAt (a::A) 0=a from rfl]
  simp only
  rw[mb hs (hlt a (BK))]
  simp only[List.tail_cons,List.headD_cons]
  rw[AL]at hl
  have:=CB (body:=K3 s (oI (a::A))) (out:=A.foldl (λn i=>if Kf s i < n then Kf s i else n) (Kf s a)) (λk=>((A.take k).foldl (λn i=>if Kf s i < n then Kf s i else n) (Kf s a),((k+1:Nat):Int))) A.length (λk hk rec=>by
   unfold K3
   simp only
   rw[C3,AL,BC (by omega:k+1 < A.length+1),RU (by simp;omega),wrap_in (by omega),show oAt (a::A) (k+1)=A[k]from by rw[KC (by simp;omega)];rfl]
   simp only[Ac,Aa]
   rw[mb hs (hlt _ (AQ _ (Ao hk)))]
   simp only
   rw[Au hk,YN]
   rfl) (λrec=>by
   unfold K3
   simp only
   rw[C3,AL,Bl,A5];rfl) fz (CR (by unfold lim;omega))
  rw[show(Kf s a,(1:Int))=((A.take 0).foldl (λn i=>if Kf s i < n then Kf s i else n) (Kf s a),((0+1:Nat):Int))from rfl,this]
theorem ff(hq:LF q)(hv:DD q=true)(hs:s.length=q.2.1.length){v:Nat}(h:v < q.1.toNat):Hf (v:Int) q s=some (RQ q s v):=by
 have h4:=(MM hv).2.2.1
 unfold Hf RQ
 rw[pu hq hv]
 have hlt:=λi (hi:i∈VF q v)=>pk hi
 have hne:=pl hv h
 have hl:(VF q v).length<=4:=By (BR _ _) (by simp;omega)
 generalize VF q v=A at hlt hne hl
 cases A with
 |nil=>exact absurd rfl hne
 |cons a A=>
  simp only[Aa,List.tail_cons,List.headD_cons]
  rw[AL]at hl
  have:=CB (body:=E0 s (oI (a::A))) (out:=A.foldl (λn i=>if Kf s i < n then Kf s i else n) (Kf s a)) (λk=>(cond (k==0) 0 ((A.take (k - 1)).foldl (λn i=>if Kf s i < n then Kf s i else n) (Kf s a)),(k:Int))) (A.length+1) (λk hk rec=>by
   have hm:oAt (a::A) k∈a::A:=by rw[KC (by simp;omega)];exact Ao _
   unfold E0 Hx Hy
   simp only
   rw[C3,AL,BC hk,RU (by simp;omega),wrap_in (by omega)]
   simp only[Ac,Aa]
   rw[mb hs (hlt _ hm)]
   simp only
   cases k with
   |zero=>rfl
   |succ k=>
    rw[show(((k+1:Nat):Int)==0)=false from AS.2 (by omega),Ad,show(k+1==0)=false from rfl,show(k+1+1==0)=false from rfl,Ad,Ad,show k+1 - 1=k from rfl,show k+1+1 - 1=k+1 from rfl,show oAt (a::A) (k+1)=A[k]'(by omega)from by rw[KC (by simp;omega)];rfl,Au (by omega),YN]
    by_cases hc:Kf s (A[k]'(by omega)) < (A.take k).foldl (λn i=>if Kf s i < n then Kf s i else n) (Kf s a)
    ·rw[Ai hc,AJ hc];rfl
    ·rw[Ah hc,AN hc];rfl) (λrec=>by
   unfold E0
   simp only
   rw[C3,AL,Bl,show(A.length+1==0)=false from rfl,Ad,Ad,Nat.add_sub_cancel,A5]) fz (CR (by unfold lim;omega))
  rw[show((0:Int),(0:Int))=(cond (0==0) 0 ((A.take (0 - 1)).foldl (λn i=>if Kf s i < n then Kf s i else n) (Kf s a)),((0:Nat):Int))from rfl,this]
theorem xV(hq:LF q)(hv:DD q=true)(hs:s.length=q.2.1.length){v w:Nat}(h:v < q.1.toNat)(h':w < q.1.toNat):KJ q s (v:Int) (w:Int)=some (iW q s v w):=by
 unfold KJ iW
 rw[pY hq hv,pY hq hv]
 simp only[Aa]
 rw[fQ hq hv hs h,fQ hq hv hs h']
 cases((VF q v).length:Int)!=(VF q w).length<;>rfl
theorem uv(hq:LF q)(hv:DD q=true)(ho:out.length<=lim)(v:Nat):Aq (FF out (CQ q.1.toNat (E1 q v))) fz (false,0)=some (M4 q out v):=by
 have hal:=Ln q.1.toNat (E1 q v)
 have h5:=MN hv
 unfold M4
 generalize CQ q.1.toNat (E1 q v)=l at hal
 have:=CB (body:=FF out l) (out:=l.any out.contains) (λk=>((l.take k).any out.contains,(k:Int))) l.length (λk hk rec=>by
  unfold FF Iu
  simp only
  rw[BC hk,BL hk,wrap_in (by omega),pj _ hk]
  simp only[Ac,Aa]
  rw[Ty ho]
  simp only
  rw[Nh]
  cases(l.take k).any out.contains<;>rfl) (λrec=>by unfold FF;simp only;rw[Bl,A5];rfl) fz (CR (by unfold lim;omega))
 simpa using this
theorem fg(hq:LF q)(hv:DD q=true)(ho:out.length<=lim)(v:Nat):He (v:Int) out q=some (cond (M4 q out v) 1 0):=by
 have hal:=Ln q.1.toNat (E1 q v)
 have h5:=MN hv
 unfold He OV M4
 rw[pD hq hv]
 simp only[Aa]
 rw[Xi (by unfold lim;omega) ho]
 simp only
 generalize CQ q.1.toNat (E1 q v)=l at hal
 have e:decide ((0:Int) < ((l.filter out.contains).length:Int))=l.any out.contains:=by
  rw[AG,AB,Cu]
  constructor
  ·intro h
   have hp:0 < (l.filter out.contains).length:=by omega
   obtain⟨x,hx⟩:=List.exists_mem_of_length_pos hp
   exact⟨x,(Be.1 hx).1,(Be.1 hx).2⟩
  ·rintro⟨x,hx,hc⟩
   have:=F3 (Be.2 ⟨hx,hc⟩)
   omega
 rw[e]
 cases l.any out.contains<;>rfl
theorem lq(k:Nat):NJ q s out (k+1)=if out.contains (k:Int)then NJ q s out k else match NJ q s out k with
 |none=>some k
 |some w=>if mK q s out k w then some k else some w:=by
 unfold NJ
 rw[CK,De,Db,IM]
def mg(q:IZ)(out:List Int)(b:Option Nat):Bool:=match b with
 |none=>false
 |some w=>M4 q out w
theorem oF(hq:LF q)(hv:DD q=true)(hs:s.length=q.2.1.length)(ho:out.length<=lim):Aq (ET q s out) fz ((-1),false,0)=some (bI (NJ q s out q.1.toNat)):=by
 have h5:=MN hv
 exact CB (body:=ET q s out) (out:=bI (NJ q s out q.1.toNat)) (λk=>(bI (NJ q s out k),mg q out (NJ q s out k),(k:Int))) q.1.toNat (λk hk rec=>by
  unfold ET Ef GL
  simp only
  rw[Ai (by omega:(k:Int) < q.1),Ty ho,wrap_in (by omega),p7 hq hv]
  simp only[Ac,Aa]
  rw[uv hq hv ho,Nh,lq]
  cases hc:out.contains (k:Int)with
  |true=>rw[Ac,AJ rfl];rfl
  |false=>
   rw[Ad,AN (by simp)]
   cases hb:NJ q s out k with
   |none=>rfl
   |some w=>
    have hw:=aA q s out k w hb
    have e:bI (some w)=(w:Int):=rfl
    have e2:mg q out (some w)=M4 q out w:=rfl
    simp only[e,e2]
    rw[Ah (by omega:¬(w:Int) < 0),Ad,xV hq hv hs hk (by omega)]
    simp only
    unfold mK
    cases hn:M4 q out k<;>cases hn2:M4 q out w<;>cases iW q s k w<;>simp[bI,mg,hn,hn2]) (λrec=>by
  unfold ET
  simp only
  rw[Ah (by omega:¬((q.1.toNat:Nat):Int) < q.1)];rfl) fz (CR (by unfold lim;omega))
theorem nm(hq:LF q)(hv:DD q=true)(hs:s.length=q.2.1.length)(ho:out.length<=lim):Aq (EQ q s out) fz ((-1),0)=some (bI (NJ q s out q.1.toNat)):=by
 have h5:=MN hv
 exact CB (body:=EQ q s out) (out:=bI (NJ q s out q.1.toNat)) (λk=>(bI (NJ q s out k),(k:Int))) q.1.toNat (λk hk rec=>by
  unfold EQ ER FC
  simp only
  rw[Ai (by omega:(k:Int) < q.1),VL ho,wrap_in (by omega)]
  simp only[Ac,Aa]
  rw[lq]
  cases hc:out.contains (k:Int)with
  |true=>rw[Ac,AJ rfl];rfl
  |false=>
   rw[Ad,AN (by simp)]
   cases hb:NJ q s out k with
   |none=>rfl
   |some w=>
    have hw:=aA q s out k w hb
    have e:bI (some w)=(w:Int):=rfl
    simp only[e]
    rw[Ah (by omega:¬(w:Int) < 0),Ad,fg hq hv ho,fg hq hv ho,pz hq hv,pz hq hv,ff hq hv hs hk,ff hq hv hs (by omega)]
    simp only
    unfold mK iW
    generalize((VF q k).length:Int)=a
    generalize((VF q w).length:Int)=b
    have hab:(a !=b)= !(a==b):=rfl
    rw[hab]
    by_cases h1:b < a
    ·have h2:(a==b)=false:=AS.2 (by omega)
     rw[Ai h1,h2]
     cases M4 q out k<;>cases M4 q out w<;>simp[bI]
    ·rw[Ah h1]
     cases hq2:a==b with
     |true=>cases M4 q out k<;>cases M4 q out w<;>cases decide (RQ q s k < RQ q s w)<;>simp[bI]
     |false=>cases M4 q out k<;>cases M4 q out w<;>simp[bI]) (λrec=>by
  unfold EQ
  simp only
  rw[Ah (by omega:¬((q.1.toNat:Nat):Int) < q.1)];rfl) fz (CR (by unfold lim;omega))
theorem zi(hq:LF q)(hv:DD q=true)(hs:s.length=q.2.1.length):KY q s=some (Ui q s q.1.toNat):=by
 have h5:=MN hv
 unfold KY
 rw[Nr hq,hv,show((s.length:Int)!=(q.2.1.length:Int))=false from by rw[hs];simp]
 simp only[Aa,Aj,Ad]
 have:=CB (body:=It q s) (out:=Ui q s q.1.toNat) (λt=>Ui q s t) q.1.toNat (λt ht rec=>by
  unfold It
  have hl:=Qq q s t
  rw[hl,Ai (by omega:(t:Int) < q.1),oF hq hv hs (by unfold lim;omega)]
  simp only[Ac,Aa]
  rw[AZ (by unfold lim;simp;omega)]
  rfl) (λrec=>by
  unfold It
  rw[Qq,Ah (by omega:¬((q.1.toNat:Nat):Int) < q.1)];rfl) fz (CR (by unfold lim;omega))
 rw[show([]:List Int)=Ui q s 0 from rfl,this]
theorem yX(hq:LF q)(hv:DD q=true)(hs:s.length=q.2.1.length):KM q s=some (Ui q s q.1.toNat):=by
 have h5:=MN hv
 unfold KM
 rw[Mr hq,hv,show((s.length:Int)!=(q.2.1.length:Int))=false from by rw[hs];simp]
 simp only[Aa,Aj,Ad]
 have:=CB (body:=Io q s) (out:=Ui q s q.1.toNat) (λt=>Ui q s t) q.1.toNat (λt ht rec=>by
  unfold Io
  have hl:=Qq q s t
  rw[hl,Ai (by omega:(t:Int) < q.1),nm hq hv hs (by unfold lim;omega)]
  simp only[Ac,Aa]
  rw[AZ (by unfold lim;simp;omega)]
  rfl) (λrec=>by
  unfold Io
  rw[Qq,Ah (by omega:¬((q.1.toNat:Nat):Int) < q.1)];rfl) fz (CR (by unfold lim;omega))
 rw[show([]:List Int)=Ui q s 0 from rfl,this]
end
theorem fp{α:Type}{cnt:α->Nat}{mk:α->Int->α}:∀(l:List α) (k:Int) (j:Nat) (hj:j < l.length),(Yk cnt mk l k)[j]? =some (mk l[j] (k+(I0 cnt (l.take j):Int)))
 |[],_,j,hj=>by simp at hj
 |x::l,k,0,hj=>by simp[Yk,I0]
 |x::l,k,j+1,hj=>by
  rw[Yk,Dx,fp l _ j (by simpa using hj)]
  simp only[List.getElem_cons_succ,DK,I0]
  congr 2
  omega
theorem W2{α:Type}{cnt:α->Nat}:∀(a b:List α),I0 cnt (a++b)=I0 cnt a+I0 cnt b
 |[],b=>by simp[I0]
 |x::a,b=>by rw[BN,I0,I0,W2 a b];omega
theorem gv{α:Type}{cnt:α->Nat}(l:List α)(j:Nat):I0 cnt (l.take j)<=I0 cnt l:=by
 have:=W2 (cnt:=cnt) (l.take j) (l.drop j)
 rw[Cc]at this
 omega
theorem ri{α:Type}{cnt:α->Nat}(l:List α)(j:Nat)(hj:j < l.length):I0 cnt (l.take (j+1))=I0 cnt (l.take j)+cnt l[j]:=by
 rw[Au hj,W2];simp[I0]
theorem bp{α:Type}{cnt:α->Nat}{B:Nat}:∀(l:List α),(∀x∈l,cnt x<=B)->I0 cnt l<=l.length * B
 |[],_=>by simp[I0]
 |x::l,h=>by
  have h1:=h x (by simp)
  have h2:=bp l (λy hy=>h y (by simp[hy]))
  rw[I0,AL,DX];omega
theorem eF{α:Type}{cnt:α->Nat}{B C:Nat}(l:List α)(hl:l.length<=C)(h:∀x∈l,cnt x<=B):I0 cnt l<=C * B:=By (bp l h) (Co _ hl)
theorem eG{α:Type}{cnt tz:α->Nat}{c:Nat}(h:∀x,cnt x<=64 * tz x+c)(hc:c<=64):∀(l:List α),I0 cnt l<=64 * (l.length+tzL tz l)
 |[]=>by simp[I0]
 |x::l=>by
  have h1:=h x
  have h2:=eG h hc l
  rw[I0,AL,tzL];omega
theorem bq{α:Type}{cnt:α->Nat}{c:Nat}(h:∀x,cnt x<=c)(hc:c<=64):∀(l:List α),I0 cnt l<=64 * l.length
 |[]=>by simp[I0]
 |x::l=>by
  have h1:=h x
  have h2:=bq h hc l
  rw[I0,AL];omega
theorem YR{α:Type}{cnt:α->Nat}{mk:α->Int->α}{l:List α}{k:Int}{B:(Int×Int->Option (Sum Int Int))->Int×Int->Option (Sum Int Int)}(hl:l.length<=lim)(h0:0<=k)(h1:k+(I0 cnt l:Int)<=mB)
  (hB:∀rec (x:α) (y i:Int),x∈l->0<=y->y+(cnt x:Int)<=mB->i < ((Yk cnt mk l k).length:Int)->A4 (Yk cnt mk l k) i=some (mk x y)->B rec (y,i)=rec (y+(cnt x:Int),IntKind.i64.wrap (i+1)))
  (hE:∀rec (y:Int),B rec (y,((Yk cnt mk l k).length:Int))=some (.inl y)):Aq B fz (k,0)=some (.inl (k+(I0 cnt l:Int))):=by
 have:=CB (body:=B) (out:=.inl (k+(I0 cnt l:Int))) (λj=>(k+(I0 cnt (l.take j):Int),(j:Int))) l.length (λj hj rec=>?_) (λrec=>?_) fz (CR hl)
 ·simpa[I0]using this
 ·have hs:=ri (cnt:=cnt) l j hj
  have ht:=gv (cnt:=cnt) l (j+1)
  rw[hB rec l[j] _ _ (Ao hj) (by omega) (by omega) (by rw[Nd];omega) (by rw[RE];exact fp l k j hj)]
  rw[BQ hj (Bo hl),hs]
  congr 2
  omega
 ·have:=hE rec (k+(I0 cnt (l.take l.length):Int))
  rw[Nd]at this
  rw[this,A5]
open Go.RowKit Go.ChangeShapes Go.WideShapes Go.Deep
set_option maxRecDepth 100000
section
variable {H:Type}{enc:TypeId×Value->H}{w:World}{base:Nat}{spare:Nat->Bool}{held:Bool}
def gY(x:List Int):Prop:=x.length<=maxLen∧∀a∈x,InI a
theorem ul:Opens enc Tryz.prog w base spare held 23 FW gY:=cm Tryz.underlying23 (by kernel_rfl) (Ck rfl) BT (Y7 Tryz.underlying3)
def kR(x:Dz):Prop:=List.length x.1<=maxLen∧gY x.2
theorem xI:Opens enc Tryz.prog w base spare held 101 Mo kR:=by
 intro fuel cs x h
 have hl:cs.length=2:=(st_len Tryz.underlying101 h).trans (by kernel_rfl)
 obtain⟨y0,n0,h0⟩:=R4 Tryz.underlying101 h (j:=0) rfl
 rw[show Tryz.prog.cellsOf _=1 from by kernel_rfl]at h0
 obtain⟨a0,r0,k0⟩:=(ii Tryz.underlying9) _ _ _ h0
 obtain⟨y1,n1,h1⟩:=R4 Tryz.underlying101 h (j:=1) rfl
 rw[show Tryz.prog.cellsOf _=1 from by kernel_rfl]at h1
 obtain⟨a1,r1,k1⟩:=ul _ _ _ h1
 refine⟨(a0,a1),?_,k0,k1⟩
 exact(Qs (off:=0) (n:=1) r0 (Qs (off:=1) (n:=1) r1 (fI hl)))
def uk(x:List Dz):Prop:=x.length<=maxLen∧∀a∈x,kR a
theorem zc:Opens enc Tryz.prog w base spare held 22 ra uk:=cm Tryz.underlying22 (by kernel_rfl) (Ck rfl) aW xI
def nX(x:Y24):Prop:=InI x.1∧uk x.2.1∧gY x.2.2
theorem zd:Opens enc Tryz.prog w base spare held 25 Wm nX:=by
 intro fuel cs x h
 have hl:cs.length=3:=(st_len Tryz.underlying25 h).trans (by kernel_rfl)
 obtain⟨y0,n0,h0⟩:=R4 Tryz.underlying25 h (j:=0) rfl
 rw[show Tryz.prog.cellsOf _=1 from by kernel_rfl]at h0
 obtain⟨a0,r0,k0⟩:=(Y7 Tryz.underlying3) _ _ _ h0
 obtain⟨y1,n1,h1⟩:=R4 Tryz.underlying25 h (j:=1) rfl
 rw[show Tryz.prog.cellsOf _=1 from by kernel_rfl]at h1
 obtain⟨a1,r1,k1⟩:=zc _ _ _ h1
 obtain⟨y2,n2,h2⟩:=R4 Tryz.underlying25 h (j:=2) rfl
 rw[show Tryz.prog.cellsOf _=1 from by kernel_rfl]at h2
 obtain⟨a2,r2,k2⟩:=ul _ _ _ h2
 refine⟨(a0,a1,a2),?_,k0,k1,k2⟩
 exact(Qs (off:=0) (n:=1) r0 (Qs (off:=1) (n:=1) r1 (Qs (off:=2) (n:=1) r2 (fI hl))))
end
end Go.Proofs.YtckmdkajoiegmaaGreatDoor
namespace Go.Proofs.YtckmdkajoiegmaaGreatDoor
def Ir(a:List Int):Prop:=List.length a<=1048576
def UC(a:List Int):Nat:=List.length a
theorem aP{a:List Int}(h:Ir a):HU a=some a:=by
 unfold HU
 rw[AZ (fm (MR (show _ from h))),fW (a:=a) (g:=some) (h:=id) (λ_ _ _=>rfl) (λ_ _=>rfl) (MR (show _ from h))]
 simp only[Aa,List.map_id]
theorem QD{a:List Int}(h:Ir a):Gb a a=some true:=by
 unfold Gb
 rw[ZV (B:=RP a a) (a:=a) (g:=(λx y=>some (x==y))) (λ_ _=>rfl) (λ_ _=>by simp) (MR (show _ from h))]
 simp[Aa]
theorem fV{a:List Int}(k:gY a){left:Int}(h:0<=left∧left<=1048576):SzR left (PC a left) (Ir a) (UC a):=uF h k.1
def WC(a:Dz):Prop:=List.length a.1<=1048576∧Ir a.2
def UB(a:Dz):Nat:=List.length a.1+UC a.2
theorem oY{a:Dz}(h:WC a):NF a=some a:=by
 unfold NF
 simp only[aP (h.2),Aa]<;>rfl
theorem m7{a:Dz}(h:WC a):ND a a=some true:=by
 simp[ND,QD (h.2),Aa]
theorem oS{a:Dz}(k:kR a){left:Int}(h:0<=left∧left<=1048576):SzR left (NE a left) (WC a) (UB a):=by
 unfold NE
 have h0:0<=left∧left<=1048576:=h
 obtain⟨v0,e0,p0⟩:=uG h0 k.1
 rw[e0]
 rcases p0 with p0|⟨p0,q0,s0⟩
 ·simp only[Aa];rw[Ai p0];exact⟨-1,rfl,.inl (by omega)⟩
 simp only[Aa]
 rw[Ah (by omega:¬v0 < 0)]
 simp only[Ad]
 have h1:0<=v0∧v0<=1048576:=by omega
 obtain⟨v1,e1,p1⟩:=fV (k.2) h1
 rw[e1]
 rcases p1 with p1|⟨p1,q1,s1⟩
 ·simp only[Aa];rw[Ai p1];exact⟨-1,rfl,.inl (by omega)⟩
 simp only[Aa]
 rw[Ah (by omega:¬v1 < 0)]
 simp only[Ad]
 exact⟨v1,rfl,.inr ⟨by unfold UB;omega,q1,s0,s1⟩⟩
def Us(a:List Dz):Prop:=List.length a<=1048576∧∀e∈a,WC e
def Yd(a:List Dz):Nat:=List.length a+tzL UB a
theorem mh{a:List Dz}(h:Us a):Oj a=some a:=by
 unfold Oj
 rw[AZ (fm (MR h.1)),fW (a:=a) (g:=NF) (h:=id) (λ_ _ _=>rfl) (λe he=>oY (h.2 e he)) (MR h.1)]
 simp only[Aa,List.map_id]
theorem jo{a:List Dz}(h:Us a):Of a a=some true:=by
 unfold Of
 rw[ZV (B:=Q1 a a) (a:=a) (g:=ND) (λ_ _=>rfl) (λe he=>m7 (h.2 e he)) (MR h.1)]
 simp[Aa]
theorem l9{a:List Dz}(k:uk a){left:Int}(h:0<=left∧left<=1048576):SzR left (QI a left) (Us a) (Yd a):=oT (B:=Q4 a) (g:=NE) (λ_ _ _=>rfl) (λe he left h=>oS (k.2 e he) h) h k.1
def RZ(a:Y24):Prop:=Us a.2.1∧Ir a.2.2
def UD(a:Y24):Nat:=Yd a.2.1+UC a.2.2
theorem mi{a:Y24}(h:RZ a):Ja a=some a:=by
 unfold Ja
 simp only[mh (h.1),aP (h.2),Aa]<;>rfl
theorem jq{a:Y24}(h:RZ a):Oh a a=some true:=by
 simp[Oh,jo (h.1),QD (h.2),Aa]
theorem ma{a:Y24}(k:nX a){left:Int}(h:0<=left∧left<=1048576):SzR left (Oi a left) (RZ a) (UD a):=by
 unfold Oi
 have h0:0<=left∧left<=1048576:=h
 obtain⟨v0,e0,p0⟩:=l9 (k.2.1) h0
 rw[e0]
 rcases p0 with p0|⟨p0,q0,s0⟩
 ·simp only[Aa];rw[Ai p0];exact⟨-1,rfl,.inl (by omega)⟩
 simp only[Aa]
 rw[Ah (by omega:¬v0 < 0)]
 simp only[Ad]
 have h1:0<=v0∧v0<=1048576:=by omega
 obtain⟨v1,e1,p1⟩:=fV (k.2.2) h1
 rw[e1]
 rcases p1 with p1|⟨p1,q1,s1⟩
 ·simp only[Aa];rw[Ai p1];exact⟨-1,rfl,.inl (by omega)⟩
 simp only[Aa]
 rw[Ah (by omega:¬v1 < 0)]
 simp only[Ad]
 exact⟨v1,rfl,.inr ⟨by unfold UD;omega,q1,s0,s1⟩⟩
def Ns(a:List Int):Prop:=Ir a
theorem Yo{a:List Int}(h:Ns a):J1 a a=some true:=by
 simp[J1,QD (h),Aa]
def Ut(a:List (List Int)):Prop:=List.length a<=1048576∧∀e∈a,Ir e
theorem jp{a:List (List Int)}(h:Ut a):Og a a=some true:=by
 unfold Og
 rw[ZV (B:=Q2 a a) (a:=a) (g:=Gb) (λ_ _=>rfl) (λe he=>QD (h.2 e he)) (MR h.1)]
 simp[Aa]
def Ha(a:Qa):Prop:=Ut a.1∧Ir a.2
theorem UX{a:Qa}(h:Ha a):HT a a=some true:=by
 simp[HT,jp (h.1),QD (h.2),Aa]
def WD(a:TF):Prop:=Ir a.2.1∧Ns a.2.2.1∧Ha a.2.2.2
theorem m8{a:TF}(h:WD a):Me a a=some true:=by
 simp[Me,QD (h.1),Yo (h.2.1),UX (h.2.2),Aa]
theorem ZT(a:List Int):HH a<=64 * UC a:=bq (c:=1) (λ_=>A9 1) (by decide) a
theorem mV(a:Dz):W0 a<=64 * UB a+1:=by
 have b1:=ZT a.2
 unfold W0 UB
 omega
theorem jg(a:List Dz):jc a<=64 * Yd a:=eG (c:=1) (λx=>mV x) (by decide) a
theorem gA(a:Dt):W5 a<=64 * UD a+0:=by
 have b1:=jg a.2.1
 have b2:=ZT a.2.2
 unfold W5 UD
 omega
theorem Wn{a:List Int}(h:Ir a):HH a<=1048576:=By (eF (C:=1048576) (B:=1) a (show _ from h) (λx hx=>(A9 1))) (by decide)
theorem WZ{a:List Int}(h:Ns a):Tj a<=1048576:=by
 have b0:=Wn (a:=a) h
 unfold Tj
 omega
theorem ja{a:List (List Int)}(h:Ut a):UQ a<=1099511627776:=By (eF (C:=1048576) (B:=1048576) a (show _ from h.1) (λx hx=>(Wn (h.2 x hx)))) (by decide)
theorem TP{a:Qa}(h:Ha a):VV a<=1099512676352:=by
 have b0:=ja (a:=a.1) h.1
 have b1:=Wn (a:=a.2) h.2
 unfold VV
 omega
theorem jb{a:TF}(h:WD a):TQ a<=1099514773504:=by
 have b1:=Wn (a:=a.2.1) h.1
 have b2:=WZ (a:=a.2.2.1) h.2.1
 have b3:=TP (a:=a.2.2.2) h.2.2
 unfold TQ
 omega
theorem Ww{x:List Int}{k:Int}(h:Ir x)(h0:0<=k)(h1:k+(HH x:Int)<=mB):If (O4 x k) k=some (k+(HH x:Int)):=by
 have hm:mB<=9223372036854775000:=by unfold mB;omega
 unfold If O4 HH
 rw[YR (cnt:=Wa) (mk:=VP) (B:=KU (Yk Wa VP x k)) (MR (show _ from h)) h0 h1 (λrec x y i hx hy hy2 hi hg=>?_) (λrec y=>?_)]
 ·rfl
 ·have c1:Wa x=1:=rfl
  have e0:y=y:=by omega
  have em:VP x y=y:=e0
  rw[em]at hg
  have w0:IntKind.i64.wrap (y+1)=y+1:=wrap_in (by omega)
  have i0:IntKind.i64.wrap (y)=y:=wrap_in (by omega)
  have eT:y+1=y+(Wa x:Int):=by omega
  simp only[KU,Ai hi,hg,Ac,Aa,BP,Aj,Ad,C1,w0,i0]
  all_goals rw[eT]
 ·simp[KU]
theorem Ys{x:List Int}{k:Int}(h:Ns x)(h0:0<=k)(h1:k+(Tj x:Int)<=mB):Ip (kC x k) k=some (k+(Tj x:Int)):=by
 have hc:Tj x=HH x:=rfl
 have r0:=Ww (x:=x) (k:=k) h (by omega) (by omega)
 have u0:decide (k+((HH x:Nat):Int) < 0)=false:=Ah (by omega)
 have eT:k+((HH x:Nat):Int)=k+(Tj x:Int):=by omega
 simp only[Ip,kC,Aa,Ad,r0,u0]
 all_goals rw[eT]
theorem jI{x:List (List Int)}{k:Int}(h:Ut x)(h0:0<=k)(h1:k+(UQ x:Int)<=mB):ME (kw x k) k=some (k+(UQ x:Int)):=by
 have hm:mB<=9223372036854775000:=by unfold mB;omega
 unfold ME kw UQ
 rw[YR (cnt:=HH) (mk:=O4) (B:=J2 (Yk HH O4 x k)) (MR h.1) h0 h1 (λrec x y i hx hy hy2 hi hg=>?_) (λrec y=>?_)]
 ·rfl
 ·have hs:=h.2 _ hx
  have e0:y=y:=by omega
  have em:O4 x y=O4 x (y):=(congrArg (O4 x) e0)
  rw[em]at hg
  have r0:=Ww (x:=x) (k:=y) hs (by omega) (by omega)
  have u0:decide (y+(HH x:Int) < 0)=false:=Ah (by omega)
  have eT:y+(HH x:Int)=y+(HH x:Int):=by omega
  simp only[J2,Ai hi,hg,Ac,Aa,BP,Aj,Ad,C1,r0,u0]
  all_goals rw[eT]
 ·simp[J2]
theorem Va{x:Qa}{k:Int}(h:Ha x)(h0:0<=k)(h1:k+(VV x:Int)<=mB):GU (kD x k) k=some (k+(VV x:Int)):=by
 have hc:VV x=UQ x.1+HH x.2:=rfl
 have r0:=jI (x:=x.1) (k:=k) h.1 (by omega) (by omega)
 have u0:decide (k+((UQ x.1:Nat):Int) < 0)=false:=Ah (by omega)
 have r1:=Ww (x:=x.2) (k:=k+((UQ x.1:Nat):Int)) h.2 (by omega) (by omega)
 have u1:decide (k+((UQ x.1:Nat):Int)+((HH x.2:Nat):Int) < 0)=false:=Ah (by omega)
 have eT:k+((UQ x.1:Nat):Int)+((HH x.2:Nat):Int)=k+(VV x:Int):=by omega
 simp only[GU,kD,Aa,Ad,r0,u0,r1,u1]
 all_goals rw[eT]
theorem nh{x:TF}{k:Int}(h:WD x)(h0:0<=k)(h1:k+(TQ x:Int)<=mB):Lt (gP x k) k=some (k+(TQ x:Int)):=by
 have hc:TQ x=HH x.2.1+Tj x.2.2.1+VV x.2.2.2:=rfl
 have r1:=Ww (x:=x.2.1) (k:=k) h.1 (by omega) (by omega)
 have u1:decide (k+((HH x.2.1:Nat):Int) < 0)=false:=Ah (by omega)
 have r2:=Ys (x:=x.2.2.1) (k:=k+((HH x.2.1:Nat):Int)) h.2.1 (by omega) (by omega)
 have u2:decide (k+((HH x.2.1:Nat):Int)+((Tj x.2.2.1:Nat):Int) < 0)=false:=Ah (by omega)
 have r3:=Va (x:=x.2.2.2) (k:=k+((HH x.2.1:Nat):Int)+((Tj x.2.2.1:Nat):Int)) h.2.2 (by omega) (by omega)
 have u3:decide (k+((HH x.2.1:Nat):Int)+((Tj x.2.2.1:Nat):Int)+((VV x.2.2.2:Nat):Int) < 0)=false:=Ah (by omega)
 have eT:k+((HH x.2.1:Nat):Int)+((Tj x.2.2.1:Nat):Int)+((VV x.2.2.2:Nat):Int)=k+(TQ x:Int):=by omega
 simp only[Lt,gP,Aa,Ad,r1,u1,r2,u2,r3,u3]
 all_goals rw[eT]
abbrev yy:=Int×List Int×List Int×List (List Int)×List Int
section
variable {q:IZ}{s:List Int}
def chB(q:IZ)(s:List Int):yy×Bool:=cond (DD q) (cond ((s.length:Int)!=(q.2.1.length:Int)) ((0,[],[],([],[])),false) (cond (a7 q) ((1,[],(gyM q).2,([],[])),true) (cond (decide (KX (Yj q).2.1 (Rg (cpP q)).2.1 < 0)) ((2,[],[],(Yj q).1),true) ((3,Ui q s q.1.toNat,[],([],[])),true)))) ((0,[],[],([],[])),false)
theorem pm:∀k,k<=(NI q.1.toNat).length->(SX q k).2.2=false->(SX q k).2.1=(0,0)
 |0,_,_=>rfl
 |k+1,hk,h=>by
  have ih:=pm k (by omega)
  rw[d8 hk]at h⊢
  generalize SX q k=st at ih h⊢
  unfold bdS at h⊢
  cases hc: !st.2.2 || decide (KX (wdB q (NI q.1.toNat)[k]) st.2.1 < 0)with
  |true=>rw[hc]at h;cases h
  |false=>rw[hc]at h;exact ih h
theorem iV:∀k,k<=(NI q.1.toNat).length->(SX q k).1=([],[])∨∃O∈NI q.1.toNat,(SX q k).1=Oa O (E1 q)
 |0,_=>.inl rfl
 |k+1,hk=>by
  have ih:=iV k (by omega)
  rw[d8 hk]
  generalize SX q k=st at ih⊢
  unfold bdS
  cases !st.2.2 || decide (KX (wdB q (NI q.1.toNat)[k]) st.2.1 < 0)with
  |true=>exact .inr ⟨_,Ao hk,rfl⟩
  |false=>exact ih
theorem re(r:Rt):KX (0,0) r=0:=rfl
theorem rh(r:Rt):KX r (0,0)=0:=by
 unfold KX
 rw[show HB ((0:Int),(0:Int))=false from by decide]
 cases HB r<;>rfl
theorem zg(hq:LF q):Jv q s=some (chB q s):=by
 unfold Jv chB
 rw[Nr hq]
 simp only[Aa]
 cases hv:DD q with
 |false=>rfl
 |true=>
  rw[Aj,Ad,Ac]
  cases hl:(s.length:Int)!=(q.2.1.length:Int)with
  |true=>rfl
  |false=>
   have hsl:s.length=q.2.1.length:=by have:=HA.1 hl;omega
   rw[Ad,Ad,xW hq hv]
   simp only
   cases a7 q with
   |true=>rfl
   |false=>
    rw[Ad,Ad,Ad,zf hq hv]
    simp only
    rw[x5 hq hv]
    unfold Hs
    rw[zi hq hv hsl]
    simp only
    cases h1:(Yj q).2.2 with
    |false=>
     rw[show(Yj q).2.1=(0,0)from pm _ (A9 _) h1,re];rfl
    |true=>
     cases h2:(Rg (cpP q)).2.2 with
     |false=>
      rw[tP _ h2,rh];rfl
     |true=>
      rw[Ac,Ac,X1]
      simp only
      cases decide (KX (Yj q).2.1 (Rg (cpP q)).2.1 < 0)<;>rfl
theorem yV(hq:LF q):HM q s=some (chB q s):=by
 unfold HM chB
 rw[Mr hq]
 simp only[Aa]
 cases hv:DD q with
 |false=>rfl
 |true=>
  rw[Aj,Ad,Ac]
  cases hl:(s.length:Int)!=(q.2.1.length:Int)with
  |true=>rfl
  |false=>
   have hsl:s.length=q.2.1.length:=by have:=HA.1 hl;omega
   rw[Ad,Ad,wa hq hv]
   simp only
   cases a7 q with
   |true=>rfl
   |false=>
    rw[Ad,Ad,Ad,yU hq hv]
    simp only
    rw[wj hq hv]
    simp only
    rw[Xj,yX hq hv hsl]
    simp only
    cases decide (KX (Yj q).2.1 (Rg (cpP q)).2.1 < 0)<;>rfl
end
theorem qe{q:IZ}(h:RZ q):LF q:=⟨MR h.1.1,λa ha=>⟨MR (h.1.2 a ha).1,MR (h.1.2 a ha).2⟩,MR h.2⟩
theorem R0:Ir []:=DY _
theorem Uu:Ha ([],[]):=⟨⟨DY _,λe he=>by cases he⟩,DY _⟩
theorem Wc{q:IZ}{s:List Int}(s0:RZ q)(s1:Ir s)(k0:nX q)(k1:gY s):∃r,Jv q s=some r∧HM q s=some r∧WD r.1:=by
 refine⟨_,zg (qe s0),yV (qe s0),?_⟩
 unfold chB
 cases hv:DD q with
 |false=>exact⟨R0,R0,Uu⟩
 |true=>
  obtain⟨h1,h2,h3,h4⟩:=FE hv
  rw[Ac]
  cases(s.length:Int)!=(q.2.1.length:Int)with
  |true=>exact⟨R0,R0,Uu⟩
  |false=>
   rw[Ad]
   cases a7 q with
   |true=>
    refine⟨R0,?_,Uu⟩
    show((gyM q).2).length<=1048576
    unfold gyM Qb
    simp only[Ar,BS]
    omega
   |false=>
    rw[Ad]
    cases decide (KX (Yj q).2.1 (Rg (cpP q)).2.1 < 0)with
    |true=>
     refine⟨R0,R0,?_⟩
     show Ha (Yj q).1
     rcases iV (q:=q) _ (A9 _)with e|⟨O,hO,e⟩
     ·unfold Yj;rw[e];exact Uu
     ·obtain⟨hp,hl⟩:=au _ hO
      unfold Yj
      rw[e]
      refine⟨⟨?_,λb hb=>?_⟩,?_⟩
      ·rw[(Ob hl).1];omega
      ·rw[W6 hl]at hb
       obtain⟨i,_,rfl⟩:=Bw.1 hb
       show(oI _).length<=1048576
       rw[C3]
       have:=OL q.1.toNat (VU q O i)
       unfold Pm
       omega
      ·show(Oa O (E1 q)).2.length<=1048576
       rw[(Ob hl).2];omega
    |false=>
     refine⟨?_,R0,Uu⟩
     show(Ui q s q.1.toNat).length<=1048576
     rw[Qq];omega
set_option maxRecDepth 100000
theorem Xq{a0:Y24}{a1:List Int}(k0:nX a0)(k1:gY a1):I9 a0 a1=some true:=by
 unfold I9
 by_cases hl1:(1048576:Int) < (List.length a1:Int)
 ·rw[Ai hl1];rfl
 rw[Ah hl1,Ad]
 have hn1:List.length a1<=1048576:=by omega
 obtain⟨v0,e0,p0⟩:=ma k0 (left:=1048576) (by omega)
 rw[e0]
 rcases p0 with p0|⟨x0,p0,s0⟩
 ·simp only[Aa];rw[Ai p0];rfl
 simp only[Aa]
 rw[Ah (by omega:¬v0 < 0)]
 rw[Ad]
 obtain⟨r,hs,hi,y0⟩:=Wc s0 (show Ir a1 from hn1) k0 k1
 have b0:=gA a0
 have m0:=Vm (x:=a0) (k:=1) (by omega) (by unfold mB;omega)
 have b1:=ZT a1
 have t1:UC a1<=1048576:=hn1
 have m1:=V3 (x:=a1) (k:=1+(W5 a0:Int)) (by omega) (by unfold mB;omega)
 have z0:¬(1+(W5 a0:Int)+(HH a1:Int) < 0):=by omega
 have c0:=jb y0
 have n0:=V5 (x:=r.1) (k:=1) (by omega) (by unfold mB;omega)
 have h0:=nh (x:=r.1) (k:=1) y0 (by omega) (by unfold mB;omega)
 have u0:¬(1+(TQ r.1:Int) < 0):=by omega
 simp[Aa,hs,hi,mi s0,jq s0,m0,aP (show Ir a1 from hn1),QD (show Ir a1 from hn1),m1,z0,n0,m8 y0,h0,u0]
end Go.Proofs.YtckmdkajoiegmaaGreatDoor
