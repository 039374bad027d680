/-
 The leapfrog intersection of the reference: its value. On the printed functions; conditions: sizes.
-/
import Derived.Test.YtaagdgjndpgdgaaGreatDoorLgMC1
import Derived.Test.YtaagdgjndpgdgaaGreatDoorSxMC1
import Derived.Test.YtaagdgjndpgdgaaGreatDoorBcMC1
import Derived.Test.YtaagdgjndpgdgaaGreatDoorRtMC1
import Derived.Test.YtaagdgjndpgdgaaGreatDoorUpMC1
import Derived.Test.YtaagdgjndpgdgaaGreatDoorKc
open Go.RowKit
set_option linter.unusedVariables false
set_option linter.unusedSimpArgs false
namespace Go.Proofs.YtaagdgjndpgdgaaGreatDoor
def W0(L:List (List Int)):Prop:=L.length<=5∧∀l∈L,l.length<=4000
theorem W0.lim{L:List (List Int)}(h:W0 L):L.length<=Go.Proofs.YtaagdgjndpgdgaaGreatDoor.lim∧∀l∈L,l.length<=Go.Proofs.YtaagdgjndpgdgaaGreatDoor.lim:=⟨by have:=h.1;unfold Go.Proofs.YtaagdgjndpgdgaaGreatDoor.lim;omega,λl hl=>by have:=h.2 l hl;unfold Go.Proofs.YtaagdgjndpgdgaaGreatDoor.lim;omega⟩
def TU(L:List (List Int)):Bool:= !(BV L λ_ l=>BV l (I4 l))&&decide (0 < (L.length:Int))
theorem wJ{l:List Int}(h:BV l (I4 l)=false):Asc l:=by
 have hs:∀k (hk:k+1 < l.length),l[k]'(by omega) < l[k+1]:=λk hk=>by
  have:=H6 h hk
  unfold I4 at this
  rw[Ah (by omega),AJ,show k+1 - 1=k by omega,CD (by omega)]at this
  have:=GW this
  omega
 unfold Asc
 rw[Cf]
 intro i j hi hj hij
 induction j with
 |zero=>omega
 |succ j ih=>
  rcases A8 i j with h1|h1
  ·have:=ih (by omega) h1
   have:=hs j hj
   omega
  ·have:i=j:=by omega
   subst this
   exact hs i hj
section
variable {L:List (List Int)}
theorem AaD(h:W0 L):RM L=some (TU L):=by
 unfold RM TU
 have hl:=h.lim
 have:=EU (B:=OJ L) (n:=L.length) (λk=>Jz L k λl=>BV l (I4 l)) hl.1 (λk hk rec=>by
  unfold OJ
  rw[Bl hk,AK hk,Bn hk (Bd hl.1),CD hk]
  simp only[Ab,G]
  rw[AaE (hl.2 _ (Ag hk))]
  simp only
  cases BV L[k] (I4 L[k])<;>rfl) (λrec=>by unfold OJ;rw[Bh];rfl)
 rw[this]
 have e:(List.range L.length).any (λk=>Jz L k λl=>BV l (I4 l))=BV L λ_ l=>BV l (I4 l):=rfl
 rw[e]
 cases BV L λ_ l=>BV l (I4 l)<;>rfl
def Y0(L:List (List Int)):Nat->Int
 |0=>0
 |k+1=>if k=0∨((gL L k).length:Int) < Y0 L k then((gL L k).length:Int)else Y0 L k
theorem me:∀{k:Nat},0 < k->k<=L.length->(Y0 L k=0↔∃j,j < k∧(gL L j).length=0)∧0<=Y0 L k
 |0,h,_=>absurd h (by omega)
 |k+1,_,hk=>by
  rw[Y0]
  by_cases h0:k=0
  ·subst h0
   rw[AH (.inl rfl)]
   refine⟨⟨λh=>⟨0,by omega,by omega⟩,λ⟨j,hj,e⟩=>?_⟩,by omega⟩
   have:j=0:=by omega
   subst this;omega
  ·obtain⟨i1,i2⟩:=me (k:=k) (by omega) (by omega)
   by_cases hc:((gL L k).length:Int) < Y0 L k
   ·rw[AH (.inr hc)]
    refine⟨⟨λh=>⟨k,by omega,by omega⟩,λ⟨j,hj,e⟩=>?_⟩,by omega⟩
    rcases A8 j k with h1|h1
    ·have:=i1.2 ⟨j,h1,e⟩;omega
    ·have:j=k:=by omega
     subst this;omega
   ·rw[AE (by omega)]
    refine⟨⟨λh=>?_,λ⟨j,hj,e⟩=>?_⟩,i2⟩
    ·obtain⟨j,hj,e⟩:=i1.1 h
     exact⟨j,by omega,e⟩
    ·rcases A8 j k with h1|h1
     ·exact i1.2 ⟨j,h1,e⟩
     ·have:j=k:=by omega
      subst this;omega
theorem uS(h:W0 L):JS L=some (Y0 L L.length):=by
 unfold JS
 have hl:=h.lim
 have:=D7 (body:=Em L) (out:=Y0 L L.length) (λk=>(Y0 L k,(k:Int))) L.length (λk hk rec=>by
  have hJ:∀x,Ge rec (k:Int) x=rec (x,((k+1:Nat):Int)):=λx=>by unfold Ge;rw[Bn hk (Bd hl.1)]
  unfold Em
  simp only
  rw[Bl hk,Y0,Ry hk]
  simp only[Ab]
  by_cases h0:k=0
  ·subst h0
   rw[AH (.inl rfl)]
   show En rec L (Y0 L 0) ((0:Nat):Int) true=_
   unfold En
   rw[AK hk]
   exact hJ _
  ·rw[show(((k:Nat):Int)==0)=false by rw[Bw];omega,AK hk]
   simp only[Aa,G]
   by_cases hc:(L[k].length:Int) < Y0 L k
   ·rw[AH (.inr hc),Ah hc]
    unfold En
    rw[AK hk]
    exact hJ _
   ·rw[AE (by omega),Af hc]
    unfold En
    exact hJ _) (λrec=>by unfold Em;simp only;rw[Bh];rfl) fz (EO hl.1)
 have h2:An (Em L) fz (0,0)=some (Y0 L L.length):=this
 rw[h2];rfl
theorem AdE(h:W0 L)(hne:∀l∈L,0 < l.length):Pn L=some (oxI L):=by
 unfold Pn
 have hl:=h.lim
 have hl1:=h.1
 have gh:∀j (hj:j < L.length),AI L[j] 0=some (ON (gL L j)):=λj hj=>by
  have:=hne _ (Ag hj)
  have e:AI L[j] ((0:Nat):Int)=some (L[j][0]'this):=AK this
  unfold ON
  rw[Ry hj,NP this]
  exact e
 have:=D7 (body:=Km L) (out:=oxI L) (λi=>((Oj L i).map λ(j:Nat)=>(j:Int),(i:Int))) L.length (λi hi rec=>by
  have hol:=Q6 L i
  generalize hY:((Oj L i).map λ(j:Nat)=>(j:Int))=Y
  have hYl:Y.length=i:=by rw[<-hY,Aj,hol]
  have hin:An (H4 L Y (i:Int)) fz (Y.length:Int)=some ((bA ((Oj L i).map λj=>ON (gL L j)) (ON (gL L i)) i:Nat):Int):=by
   obtain⟨o,e,k,rfl,q1,q2⟩:=Qr (B:=H4 L Y (i:Int)) (λs=>∃k:Nat,s=(k:Int)∧k<=i∧bA ((Oj L i).map λj=>ON (gL L j)) (ON (gL L i)) k=bA ((Oj L i).map λj=>ON (gL L j)) (ON (gL L i)) i) (λs=>s.toNat) (λo=>∃k:Nat,o=(k:Int)∧k<=i∧k=bA ((Oj L i).map λj=>ON (gL L j)) (ON (gL L i)) i) (λs hs=>by
    obtain⟨k,rfl,hk,he⟩:=hs
    cases k with
    |zero=>
     left
     exact⟨((0:Nat):Int),⟨0,rfl,hk,by rw[<-he];rfl⟩,λrec=>by unfold H4;rfl⟩
    |succ k=>
     have hko:k < (Oj L i).length:=by omega
     have hkL:(Oj L i)[k] < L.length:=by have:=(Ta L i _).1 (Ag hko);omega
     have g1:AI Y (IntKind.i64.wrap (((k+1:Nat):Int) - 1))=some (((Oj L i)[k]:Nat):Int):=by
      rw[wrap_in (by omega),show((k+1:Nat):Int) - 1=(k:Int)by omega,<-hY,F0,BL,Ad hko];rfl
     have hH:gI ((Oj L i).map λj=>ON (gL L j)) k=ON (gL L (Oj L i)[k]):=by rw[NP (by rw[Aj];exact hko),BJ]
     have e1:∀rec,H4 L Y (i:Int) rec ((k+1:Nat):Int)=cond (decide (ON (gL L i) < ON (gL L (Oj L i)[k]))) (rec (k:Int)) (some ((k+1:Nat):Int)):=λrec=>by
      unfold H4
      rw[Ah (by omega:(0:Int) < ((k+1:Nat):Int)),g1]
      simp only[Ab,G]
      rw[AK hkL]
      simp only[gh _ hkL]
      rw[AK hi]
      simp only[gh _ hi]
      rw[wrap_in (by omega),show((k+1:Nat):Int) - 1=(k:Int)by omega]
     rw[bA,hH]at he
     by_cases hc:ON (gL L i) < ON (gL L (Oj L i)[k])
     ·right
      rw[AH hc]at he
      exact⟨(k:Int),⟨k,rfl,by omega,he⟩,by simp only[As];omega,λrec=>by rw[e1,Ah hc];rfl⟩
     ·left
      rw[AE hc]at he
      exact⟨((k+1:Nat):Int),⟨k+1,rfl,hk,he⟩,λrec=>by rw[e1,Af hc];rfl⟩) fz (Y.length:Int) ⟨i,by rw[hYl],AW _,rfl⟩ (by unfold fz;simp only[As];omega)
   rw[e,q2]
  have hsc:=iR ((Oj L i).map λj=>ON (gL L j)) (ON (gL L i)) i
  rw[Oj,fe,hY]
  generalize bA ((Oj L i).map λj=>ON (gL L j)) (ON (gL L i)) i=k at hin hsc
  unfold Km
  simp only
  rw[Bl hi,hin]
  simp only[Ab,G,Bg]
  have e1:CC Y 0 (k:Int)=Y.take k:=W8 Y k
  have e2:CC Y (k:Int) (Y.length:Int)=Y.drop k:=by unfold CC;rw[As,As,By]
  rw[e1,e2,AN (by omega),AN (by simp only[BY,At];unfold lim;omega),AN (by simp only[At,Ao];unfold lim;omega),AN (by omega),AN (by simp only[Aq,At,Ao,A6];unfold lim;omega),Bn hi (Bd hl.1)]
  unfold putAt
  rw[A3];rfl) (λrec=>by unfold Km;simp only;rw[Bh];rfl) fz (EO hl.1)
 have h2:An (Km L) fz ([],0)=some (oxI L):=this
 rw[h2];rfl
def lfB(L:List (List Int)):List Int×Int:=cond (TU L&& !(Y0 L L.length==0)) (((lfR (Ew L) fz (lf0 (Ew L))).map λr=>(r.1,(r.2:Int))).getD ([],0)) ([],0)
theorem VG(h:TU L=true):0 < L.length∧∀l∈L,Asc l:=by
 unfold TU at h
 rw[Ac,AT,BB]at h
 refine⟨by omega,λl hl=>?_⟩
 obtain⟨k,hk,rfl⟩:=Bi.1 hl
 exact wJ (H6 h.1 hk)
theorem bD(h0:0 < L.length)(h:(Y0 L L.length==0)=false):∀l∈L,0 < l.length:=λl hl=>by
 obtain⟨k,hk,rfl⟩:=Bi.1 hl
 rcases Bv (L[k].length)with h1|h1
 ·have:=((me h0 (AW _)).1).2 ⟨k,hk,by rw[Ry hk];exact h1⟩
  rw[this]at h;cases h
 ·exact h1
theorem pD(h:W0 L)(h1:TU L=true)(h2:(Y0 L L.length==0)=false):∃out n,lfR (Ew L) fz (lf0 (Ew L))=some (out,n)∧Asc out∧(∀x,x∈out↔∀l∈L,x∈l)∧n<=20000:=by
 obtain⟨f1,f2⟩:=VG h1
 have f3:=bD f1 h2
 have hok:=jT f1 f3 f2
 have hr:=fi (M:=Ew L) (A:=(lf0 (Ew L)).2.1) (B:=4000) (λl hl=>h.2 l ((Pc L l).1 hl)) (Ew L).length (AW _)
 have hk:=h.1
 rw[<-Pb L]at hk
 have hr2:Us (Ew L) (lf0 (Ew L)).2.1 (Ew L).length<=20000:=BC hr (by have:=B3 4000 hk;omega)
 obtain⟨out,n,e,q1,q2,q3⟩:=pG (M:=Ew L) (λl hl=>f2 l ((Pc L l).1 hl)) fz _ hok (by unfold fz;omega)
 exact⟨out,n,e,q1,λx=>by rw[q2];exact sU L x,by have:(lf0 (Ew L)).2.2.2.2=0:=rfl;omega⟩
theorem lI(h:W0 L):Asc (lfB L).1∧(∀x∈(lfB L).1,∀l∈L,x∈l)∧(∀l∈L,(lfB L).1.length<=l.length)∧0<=(lfB L).2∧(lfB L).2<=20000:=by
 unfold lfB
 cases h1:TU L with
 |false=>exact⟨List.Pairwise.nil,λx hx=>(by cases hx),λl hl=>CI _,by simp,by simp⟩
 |true=>
  cases h2:(Y0 L L.length==0)with
  |true=>exact⟨List.Pairwise.nil,λx hx=>(by cases hx),λl hl=>CI _,by simp,by simp⟩
  |false=>
   obtain⟨out,n,e,q1,q2,q3⟩:=pD h h1 h2
   simp only[C7,Er,Ab,e,BR,Cl]
   refine⟨q1,λx hx=>(q2 x).1 hx,λl hl=>?_,by omega,by omega⟩
   exact eP (CE.2 (q1.imp λh e=>by omega)) λx hx=>(q2 x).1 hx l hl
theorem AeO(h:W0 L):HX L=some (lfB L):=by
 have hl:=h.lim
 have hl1:=h.1
 unfold HX lfB
 rw[AaD h]
 simp only[G]
 cases h1:TU L with
 |false=>rfl
 |true=>
  simp only[Ai,Aa,AJ]
  rw[uS h]
  simp only
  cases h2:(Y0 L L.length==0)with
  |true=>rfl
  |false=>
   obtain⟨f1,f2⟩:=VG h1
   have f3:=bD f1 h2
   obtain⟨out,n,e,_,_,hn⟩:=pD h h1 h2
   simp only[Aa,C7,Ab]
   rw[AdE h f3]
   simp only
   have hol:(oxI L).length=L.length:=by unfold oxI;rw[Aj,Q6]
   have hlast:L.length - 1 < (Oj L L.length).length:=by rw[Q6];omega
   have hqL:(Oj L L.length)[L.length - 1] < L.length:=(Ta L _ _).1 (Ag hlast)
   have g1:AI (oxI L) (IntKind.i64.wrap (((oxI L).length:Int) - 1))=some (((Oj L L.length)[L.length - 1]:Nat):Int):=by
    rw[hol,wrap_in (by omega),show(L.length:Int) - 1=((L.length - 1:Nat):Int)by omega]
    unfold oxI
    rw[F0,BL,Ad hlast];rfl
   have gM:gL (Ew L) (L.length - 1)=L[(Oj L L.length)[L.length - 1]]:=by unfold Ew;rw[eh _ _ hlast,Ry hqL]
   have g3:AI L[(Oj L L.length)[L.length - 1]] 0=some (lf0 (Ew L)).2.2.2.1:=by
    have hp:=f3 _ (Ag hqL)
    have e0:AI L[(Oj L L.length)[L.length - 1]] ((0:Nat):Int)=some (L[(Oj L L.length)[L.length - 1]][0]'hp):=AK hp
    unfold lf0 ON
    simp only
    rw[Pb,gM,NP hp]
    exact e0
   rw[AN (by rw[As];exact⟨by omega,hl.1⟩),g1]
   simp only
   rw[AK hqL]
   simp only[g3]
   have hok:=jT f1 f3 f2
   have hr:=fi (M:=Ew L) (A:=(lf0 (Ew L)).2.1) (B:=4000) (λl hl=>h.2 l ((Pc L l).1 hl)) (Ew L).length (AW _)
   rw[Pb]at hr
   have hr2:Us (Ew L) (lf0 (Ew L)).2.1 (Ew L).length<=20000:=by rw[Pb];exact BC hr (by have:=B3 4000 hl1;omega)
   have hrun:=we hl.1 hl.2 f2 fz (lf0 (Ew L)) (List.replicate L.length (0:Int)) hok ⟨by rw[Cw],λj hj=>by
    have hjm:=(Ta L _ _).1 (Ag hj)
    have hz:gN (lf0 (Ew L)).2.1 j=0:=lf _ _
    rw[hz,F0,IF,AH hjm];rfl,AW _⟩ (by have:(lf0 (Ew L)).2.2.2.2=0:=rfl;unfold lim;omega)
   rw[As]
   have hst:((([]:List Int),List.replicate L.length (0:Int),(0:Int),(lf0 (Ew L)).2.2.2.1,(0:Int)))=((lf0 (Ew L)).1,List.replicate L.length (0:Int),(((lf0 (Ew L)).2.2.1:Nat):Int),(lf0 (Ew L)).2.2.2.1,(((lf0 (Ew L)).2.2.2.2:Nat):Int)):=rfl
   rw[hst,hrun,e]
   rfl
end
theorem AbN{t:V8}{pre:List Int}(h:R8 t pre.length):chB t pre=[]∨∃lo hi:Nat,lo<=hi∧hi<=t.2.length∧(pre.length:Int) < t.1∧chB t pre=Xq (CC t.2 (lo:Int) (hi:Int)) pre.length (hi - lo):=by
 obtain⟨lo,hi,hlh,hhi,_,_,es⟩:=fg h
 unfold chB
 rw[wS h hlh hhi es,Cl]
 by_cases hp:(pre.length:Int) < t.1
 ·rw[AH hp];exact .inr ⟨lo,hi,hlh,hhi,hp,rfl⟩
 ·rw[AE hp];exact .inl rfl
theorem fZ(S:List (List Int))(p:Nat):∀n,n<=S.length->∀x∈Xq S p n,∃r∈S,x=NH r (p:Int)
 |0,_,x,hx=>by rw[Xq]at hx;cases hx
 |n+1,hn,x,hx=>by
  rw[Xq]at hx
  rcases Ak.1 hx with hx|hx
  ·exact fZ S p n (by omega) x hx
  ·cases hb:pushB (Xq S p n) (NH ((S[n]?).getD []) (p:Int))with
   |false=>rw[hb]at hx;cases hx
   |true=>
    rw[hb,Ab,A7]at hx
    refine⟨S[n],Ag _,?_⟩
    rw[hx,Ad (by omega)];rfl
theorem oo{t:V8}{pre:List Int}(h:R8 t pre.length):(chB t pre).length<=t.2.length∧∀x∈chB t pre,0<=x∧x<=99:=by
 rcases AbN h with e|⟨lo,hi,h1,h2,h3,e⟩
 ·rw[e];exact⟨CI _,λx hx=>by cases hx⟩
 ·rw[e]
  have hl:=Za (CC t.2 (lo:Int) (hi:Int)) pre.length (hi - lo)
  refine⟨by omega,λx hx=>?_⟩
  obtain⟨r,hr,rfl⟩:=fZ _ _ _ (by unfold CC;rw[As,As,A6,At];omega) x hx
  have hm:r∈t.2:=by unfold CC at hr;exact El (F6 hr)
  have hv:=(Sz h.1).2.2.2 r hm
  have:=hv.1
  rw[G8 (by omega)]
  exact jh hv.2 (by omega)
def bZ(a:RQ)(o pre:List Int):Nat->List Int
 |0=>[]
 |i+1=>bZ a o pre i++cond (a.2.contains (NH o (i:Int))) [NH pre (i:Int)] []
theorem bf(a:RQ)(o pre:List Int):∀k,k<=o.length->(bZ a o pre k).length=dV a o k
 |0,_=>by simp[bZ,dV]
 |k+1,hk=>by
  rw[bZ,Aq,bf a o pre k (by omega),AbP a (by omega),G8 (by omega)]
  cases a.2.contains o[k]<;>rfl
theorem AeS{a:RQ}{o pre:List Int}(ha:a.2.length<=lim)(hp:pre.length<=o.length)(ho:o.length<=5):OK a o pre=some (bZ a o pre pre.length):=by
 unfold OK
 have hl:pre.length<=lim:=by unfold lim;omega
 have:=D7 (body:=Ho a o pre) (out:=bZ a o pre pre.length) (λk=>(bZ a o pre k,(k:Int))) pre.length (λk hk rec=>by
  have hpl:=bf a o pre k (by omega)
  have hd:=oC a o k
  have hJ:∀y,Jp rec (k:Int) y=rec (y,((k+1:Nat):Int)):=λy=>by unfold Jp;rw[Bn hk (Bd hl)]
  unfold Ho
  simp only
  rw[Bl hk,AK (l:=o) (by omega),bZ,G8 (l:=o) (by omega),G8 hk]
  simp only[Ab,G]
  rw[rc ha]
  simp only[hJ]
  rw[AK hk]
  cases a.2.contains o[k]with
  |true=>simp only[Ab];rw[AN (by simp only[Ao];unfold lim;omega)]
  |false=>simp only[Aa,AD]) (λrec=>by unfold Ho;simp only;rw[Bh];rfl) fz (EO hl)
 have h2:An (Ho a o pre) fz ([],0)=some (bZ a o pre pre.length):=this
 rw[h2];rfl
section
variable {T:List V8}{q:MQ}{o:List Int}
def eC(T:List V8)(q:MQ)(o pre:List Int):List (List Int):=(Wv q (NH o (pre.length:Int)) q.2.1.length).map λi=>chB ((T[i]?).getD (0,[])) (bZ ((q.2.1[i]?).getD ([],[])) o pre pre.length)
def ky(T:List V8)(q:MQ)(o pre:List Int):List Int×Int:=lfB (eC T q o pre)
theorem pr(h:TriesOk T q o){pre:List Int}(hk:pre.length < o.length):∀i∈Wv q (NH o (pre.length:Int)) q.2.1.length,∃(hi:i < q.2.1.length),R8 (T[i]'(by rw[h.len];exact hi)) (bZ q.2.1[i] o pre pre.length).length∧chB ((T[i]?).getD (0,[])) (bZ ((q.2.1[i]?).getD ([],[])) o pre pre.length)=chB (T[i]'(by rw[h.len];exact hi)) (bZ q.2.1[i] o pre pre.length):=λi hi=>by
 obtain⟨hil,hc⟩:=xA hi
 have hT:=mp h hil (k:=pre.length) (by omega)
 refine⟨hil,by rw[bf _ _ _ _ (by omega)];exact hT,?_⟩
 rw[Ad (by rw[h.len];exact hil),Ad hil];rfl
theorem lH(h:TriesOk T q o){pre:List Int}(hk:pre.length < o.length):W0 (eC T q o pre)∧0 < (eC T q o pre).length:=by
 have hq4:=(VZ h.qv).2.2.1
 have hxl:=Zm q (NH o (pre.length:Int)) q.2.1.length
 have ho:=Lu h.ov
 have hv:=ho.2.2.1 _ (Ag hk)
 have hp:=xB h.qv hv.1 hv.2
 unfold W0 eC
 rw[Aj]
 refine⟨⟨by omega,λl hl=>?_⟩,by rw[G8 hk];omega⟩
 obtain⟨i,hi,rfl⟩:=BF.1 hl
 obtain⟨hil,hT,e⟩:=pr h hk i hi
 rw[e]
 have h1:=(oo hT).1
 have h2:=(V4 hT).2.1
 omega
theorem AaI(h:TriesOk T q o){pre:List Int}(hk:pre.length < o.length):Qz T q o pre=some (ky T q o pre):=by
 have ho:=Lu h.ov
 have hqn:=TC h.qv
 have hq4:=(VZ h.qv).2.2.1
 have hxl:=Zm q o[pre.length] q.2.1.length
 unfold Qz
 rw[AK hk]
 simp only[G]
 rw[AeN h.sm h.qv]
 simp only
 have hlen:(ixB q o[pre.length]).length=(Wv q o[pre.length] q.2.1.length).length:=by unfold ixB;rw[Aj]
 have hkl:(eC T q o pre).length=(Wv q o[pre.length] q.2.1.length).length:=by unfold eC;rw[Aj,G8 hk]
 have hloop:An (KV T q o pre (ixB q o[pre.length])) fz (([]:List (List Int)),0)=some (eC T q o pre):=by
  have:=D7 (body:=KV T q o pre (ixB q o[pre.length])) (out:=eC T q o pre) (λj=>((eC T q o pre).take j,(j:Int))) (eC T q o pre).length (λj hj rec=>by
   have hj2:j < (Wv q o[pre.length] q.2.1.length).length:=by omega
   have hmem:(Wv q o[pre.length] q.2.1.length)[j]∈Wv q (NH o (pre.length:Int)) q.2.1.length:=by rw[G8 hk];exact Ag hj2
   obtain⟨hil,hT,e⟩:=pr h hk _ hmem
   have hg:AI (ixB q o[pre.length]) (j:Int)=some (((Wv q o[pre.length] q.2.1.length)[j]:Nat):Int):=by
    rw[F0];unfold ixB;rw[BL,Ad hj2];rfl
   have hal:=(h.sm.2.1 _ (Ag hil)).2
   have hTl:(Wv q o[pre.length] q.2.1.length)[j] < T.length:=by rw[h.len];exact hil
   have hval:(eC T q o pre)[j]=chB (T[(Wv q o[pre.length] q.2.1.length)[j]]'hTl) (bZ q.2.1[(Wv q o[pre.length] q.2.1.length)[j]] o pre pre.length):=by
    have h1:(eC T q o pre)[j]? =some (chB (T[(Wv q o[pre.length] q.2.1.length)[j]]'hTl) (bZ q.2.1[(Wv q o[pre.length] q.2.1.length)[j]] o pre pre.length)):=by
     unfold eC
     rw[BL,G8 hk,Ad hj2,BR,e]
    rw[Ad hj]at h1
    exact Dy h1
   unfold KV
   simp only
   rw[hlen,Bl hj2,hg]
   simp only[Ab,G]
   rw[AK hTl]
   simp only[AK hil]
   rw[AeS hal (by omega) (by omega)]
   simp only
   rw[AeJ hT]
   simp only
   rw[AN (by simp only[At,Ao];unfold lim;omega),A9 hj,hval,wrap_in (by omega)]
   rfl) (λrec=>by unfold KV;simp only;rw[hkl,hlen,Bh,<-hkl,By];rfl) fz (by unfold fz;omega)
  simpa using this
 rw[hloop]
 simp only
 rw[AeO (lH h hk).1]
 rfl
def wk(T:List V8)(q:MQ)(o:List Int):Nat->List Int->List (List Int)×Int
 |0,pre=>([pre],0)
 |r+1,pre=>((ky T q o pre).1.flatMap (λv=>(wk T q o r (pre++[v])).1),(ky T q o pre).1.foldl (λn v=>IntKind.i64.wrap (n+(wk T q o r (pre++[v])).2)) (ky T q o pre).2)
theorem X0(h:TriesOk T q o)(h16:∀t∈T,t.2.length<=16){pre:List Int}(hk:pre.length < o.length):(ky T q o pre).1.length<=16∧Asc (ky T q o pre).1∧(∀x∈(ky T q o pre).1,0<=x∧x<=99):=by
 obtain⟨h1,h2⟩:=lH h hk
 obtain⟨v1,v2,v3,_⟩:=lI h1
 have hm:=Ag h2
 have hm':=hm
 unfold eC at hm'
 obtain⟨i,hi,e1⟩:=BF.1 hm'
 obtain⟨hil,hT,e2⟩:=pr h hk i hi
 have hf:=oo hT
 rw[e2]at e1
 refine⟨?_,v1,λx hx=>?_⟩
 ·refine BC (v3 _ hm) ?_
  rw[show(eC T q o pre)[0]=_ from e1.symm]
  exact BC hf.1 (h16 _ (Ag _))
 ·have:=v2 x hx _ hm
  rw[show(eC T q o pre)[0]=_ from e1.symm]at this
  exact hf.2 x this
theorem V6(h:TriesOk T q o)(h16:∀t∈T,t.2.length<=16):∀(r:Nat) (pre:List Int),pre.length+r=o.length->(wk T q o r pre).1.length<=16 ^ r∧(∀z∈(wk T q o r pre).1,z.length=o.length∧z.take pre.length=pre∧((∀x∈pre,0<=x∧x<=99)->∀x∈z,0<=x∧x<=99))
 |0,pre,hr=>by
  rw[wk]
  refine⟨by simp,λz hz=>?_⟩
  rw[A7]at hz
  subst hz
  exact⟨by omega,By,λh=>h⟩
 |r+1,pre,hr=>by
  obtain⟨k1,k2,k3⟩:=X0 h h16 (pre:=pre) (by omega)
  have ih:=λv=>V6 h h16 r (pre++[v]) (by rw[Aq,Ao];omega)
  rw[wk]
  refine⟨?_,λz hz=>?_⟩
  ·have key:∀l:List Int,(l.flatMap (λv=>(wk T q o r (pre++[v])).1)).length<=l.length * 16 ^ r:=by
    intro l
    induction l with
    |nil=>simp
    |cons v l ihl=>
     rw[Au,Aq,Az,CQ,DP]
     have:=(ih v).1
     omega
   have h1:=key (ky T q o pre).1
   have h2:(ky T q o pre).1.length * 16 ^ r<=16 * 16 ^ r:=B3 _ k1
   rw[DJ]
   simp only
   omega
  ·obtain⟨v,hv,hz⟩:=Cx.1 hz
   obtain⟨z1,z2,z3⟩:=(ih v).2 z hz
   refine⟨z1,?_,λhp=>z3 λx hx=>?_⟩
   ·have:(z.take (pre++[v]).length).take pre.length=pre:=by rw[z2,List.take_left' rfl]
    rw[List.take_take,Aq,Ao,CH (by omega)]at this
    exact this
   ·rcases Ak.1 hx with hx|hx
    ·exact hp x hx
    ·rw[A7]at hx;subst hx;exact k3 _ hv
theorem AdN(h:TriesOk T q o)(h16:∀t∈T,t.2.length<=16):∀(r:Nat) (pre:List Int),pre.length+r=o.length->∀m,r < m->An Fk m (T,q,o,pre)=some (wk T q o r pre)
 |0,pre,hr,m,hm=>by
  obtain⟨m,rfl⟩:∃k,m=k+1:=⟨m - 1,by omega⟩
  have ho:=Lu h.ov
  have hqn:=TC h.qv
  rw[Bq,Fk]
  rw[show((List.length pre:Int)==(List.length o:Int))=true by rw[BU];omega]
  simp only[Ab,Bg]
  rw[AN (by simp only[BY];unfold lim;omega)]
  rfl
 |r+1,pre,hr,m,hm=>by
  obtain⟨m,rfl⟩:∃k,m=k+1:=⟨m - 1,by omega⟩
  have ho:=Lu h.ov
  have hqn:=TC h.qv
  obtain⟨k1,k2,k3⟩:=X0 h h16 (pre:=pre) (by omega)
  have h16r:16 ^ r<=1048576:=by
   have:=HT (show 0 < 16 by decide) (show r<=5 by omega)
   exact this
  rw[Bq,Fk]
  rw[show((List.length pre:Int)==(List.length o:Int))=false by rw[Bw];omega]
  simp only[Aa]
  rw[AaI h (by omega)]
  simp only[G]
  have key:∀j,j<=(ky T q o pre).1.length->((((ky T q o pre).1.take j).flatMap (λv=>(wk T q o r (pre++[v])).1))).length<=j * 16 ^ r:=by
   intro j
   induction j with
   |zero=>intro _;simp
   |succ j ih=>
    intro hj
    have h1:=ih (by omega)
    have h2:=(V6 h h16 r (pre++[(ky T q o pre).1[j]]) (by rw[Aq,Ao];omega)).1
    rw[A9 (by omega),DB,Aq,CQ,DP,Au,Fq,AD]
    omega
  have:=D7 (body:=KW T q o pre (ky T q o pre) (An Fk m)) (out:=((ky T q o pre).1.flatMap (λv=>(wk T q o r (pre++[v])).1),(ky T q o pre).1.foldl (λn v=>IntKind.i64.wrap (n+(wk T q o r (pre++[v])).2)) (ky T q o pre).2)) (λj=>(((ky T q o pre).1.take j).flatMap (λv=>(wk T q o r (pre++[v])).1),((ky T q o pre).1.take j).foldl (λn v=>IntKind.i64.wrap (n+(wk T q o r (pre++[v])).2)) (ky T q o pre).2,(j:Int))) (ky T q o pre).1.length (λj hj rec=>by
   have hs:=AdN h h16 r (pre++[(ky T q o pre).1[j]]) (by rw[Aq,Ao];omega) m (by omega)
   have h1:=key j (by omega)
   have h2:=(V6 h h16 r (pre++[(ky T q o pre).1[j]]) (by rw[Aq,Ao];omega)).1
   have h3:j * 16 ^ r<=16 * 1048576:=ER (by omega) h16r
   unfold KW
   simp only[Bg]
   rw[Bl hj,AK hj]
   simp only[Ab,G]
   rw[AN (by simp only[BY];unfold lim;omega),AN (by simp only[Ao];unfold lim;omega),hs]
   simp only
   rw[AN (by unfold lim;omega),A9 hj,DB,MJ,Au,Fq,AD,Bn hj (by unfold maxLen;omega)]
   rfl) (λrec=>by unfold KW;simp only;rw[Bh,By];rfl) fz (by unfold fz;omega)
  have h2:An (KW T q o pre (ky T q o pre) (An Fk m)) fz (([]:List (List Int)),(ky T q o pre).2,0)=some ((ky T q o pre).1.flatMap (λv=>(wk T q o r (pre++[v])).1),(ky T q o pre).1.foldl (λn v=>IntKind.i64.wrap (n+(wk T q o r (pre++[v])).2)) (ky T q o pre).2):=this
  rw[h2]
  rfl
end
def emB(T:List V8):Bool:=BV T λ_ t=>(t.2.length:Int)==0
theorem AeL{T:List V8}(hl:T.length<=lim):Po T=some (emB T):=by
 unfold Po emB
 have:=TV (B:=Mo T) (n:=T.length) (λk=>Jz T k λt=>(t.2.length:Int)==0) true hl (λk hk rec=>by
  unfold Mo
  rw[Bl hk,AK hk,Bn hk (Bd hl),CD hk]
  rfl) (λrec=>by unfold Mo;rw[Bh];rfl)
 rw[this]
 have e:(List.range T.length).any (λk=>Jz T k λt=>(t.2.length:Int)==0)=BV T λ_ t=>(t.2.length:Int)==0:=rfl
 rw[e]
 cases BV T λ_ t=>(t.2.length:Int)==0<;>rfl
section
variable {d:List Tp}{q:MQ}{o:List Int}
def trs(d:List Tp)(q:MQ)(o:List Int):List V8:=q.2.1.map (YH d o)
theorem fC(hf:Ks d q=true)(ho:Un q o=true):∀t∈trs d q o,t.2.length<=16:=λt ht=>by
 unfold trs at ht
 obtain⟨a,ha,rfl⟩:=BF.1 ht
 have g:=iL hf
 obtain⟨hok,hp⟩:=Y6 g.1 ho ha (g.2.2 a ha)
 exact BC (iJ hp).2 (nO hok (g.2.2 a ha)).2
def ljB(d:List Tp)(q:MQ)(o:List Int):(Int×List (List Int))×Int×Bool:=cond (Ks d q&&Un q o) (cond (emB (trs d q o)) (((o.length:Int),[]),0,true) (cond (nrB (o.length:Int) (wk (trs d q o) q o o.length []).1).2 ((nrB (o.length:Int) (wk (trs d q o) q o o.length []).1).1,(wk (trs d q o) q o o.length []).2,true) ((0,[]),0,false))) ((0,[]),0,false)
theorem AdY(hq:Vz q)(hf:Ks d q=true)(ho:Un q o=true):Kg (wk (trs d q o) q o o.length []).1:=by
 have hod:=Lu ho
 have hqn:=TC (iL hf).1
 obtain⟨w1,w2⟩:=V6 (bR (d:=d) hq hf ho) (fC hf ho) o.length [] (by simp)
 have h16:16 ^ o.length<=1048576:=by
  have:=HT (show 0 < 16 by decide) (show o.length<=5 by omega)
  exact this
 exact⟨BC w1 (by unfold lim;omega),λr hr=>by have:=(w2 r hr).1;unfold lim;omega⟩
theorem AeP(h:Ut d)(hq:Vz q)(ho:o.length<=lim):Lz d q o=some (ljB d q o):=by
 unfold Lz ljB
 rw[uV h hq ho]
 unfold Yo
 cases hf:Ks d q with
 |false=>rfl
 |true=>
  cases hor:Un q o with
  |false=>rfl
  |true=>
   simp only[Er,Ab,G,Ai,Aa]
   have hT:=bR (d:=d) hq hf hor
   rw[show q.2.1.map (YH d o)=trs d q o from rfl]at hT⊢
   rw[AeL (by rw[hT.len];exact hq.1)]
   simp only
   cases emB (trs d q o)with
   |true=>rfl
   |false=>
    have hw:=AdN hT (fC hf hor) o.length [] (by simp) fz (by have:=Lu hor;have:=TC hT.qv;unfold fz;omega)
    have hw:Tk (trs d q o) q o []=some (wk (trs d q o) q o o.length []):=hw
    simp only[Aa]
    rw[hw]
    simp only
    rw[AaJ (AdY hq hf hor)]
    simp only
    cases(nrB (o.length:Int) (wk (trs d q o) q o o.length []).1).2<;>rfl
end
theorem xv{l:List Int}{i:Nat}{t:Int}(hl:l.length<=lim)(hi:i<=l.length):N0 l (i:Int) t=some ((KR l i t:Nat):Int):=by
 unfold N0
 rw[show(if(0:Int) < (i:Int)then(i:Int)else 0)=(i:Int)by split<;>omega]
 obtain⟨o,e,k,q0,q1,q2⟩:=Qr (B:=IY l t) (λs=>∃k:Nat,s=(k:Int)∧k<=l.length∧KR l k t=KR l i t) (λs=>l.length - s.toNat) (λo=>∃k:Nat,(o=.inr (k:Int)∨(o=.inl ()∧k=l.length))∧k<=l.length∧k=KR l i t) (λs hs=>by
  obtain⟨k,rfl,hk,he⟩:=hs
  rcases A8 k l.length with h1|h1
  ·by_cases hc:l[k] < t
   ·right
    refine⟨((k+1:Nat):Int),⟨k+1,rfl,h1,by rw[<-Zv h1 hc];exact he⟩,by simp only[As];omega,λrec=>?_⟩
    unfold IY
    rw[Bl h1,AK h1,Bn h1 (Bd hl)]
    simp only[Ab,G]
    rw[Af (by omega)];rfl
   ·left
    refine⟨.inr (k:Int),⟨k,.inl rfl,hk,by rw[<-he];exact(QF λ_=>hc).symm⟩,λrec=>?_⟩
    unfold IY
    rw[Bl h1,AK h1]
    simp only[Ab,G]
    rw[Ah (by omega)];rfl
  ·left
   refine⟨.inl (),⟨k,.inr ⟨rfl,by omega⟩,hk,by rw[<-he];exact(QF λhi=>absurd hi (by omega)).symm⟩,λrec=>?_⟩
   unfold IY
   rw[Af (by omega)];rfl) fz (i:Int) ⟨i,rfl,hi,rfl⟩ (by unfold fz;unfold lim at hl;omega)
 rw[e]
 simp only[G]
 rcases q0 with rfl|⟨rfl,q3⟩
 ·simp only;rw[q2]
 ·simp only;rw[<-q2,q3]
section
variable {L:List (List Int)}
theorem xl(h:W0 L):JM L=some (TU L):=by
 unfold JM TU
 have hl:=h.lim
 have:=EU (B:=HP L) (n:=L.length) (λk=>Jz L k λl=>BV l (I4 l)) hl.1 (λk hk rec=>by
  unfold HP
  rw[Bl hk,AK hk,Bn hk (Bd hl.1),CD hk]
  simp only[Ab,G]
  rw[Ab9 (hl.2 _ (Ag hk))]
  simp only
  cases BV L[k] (I4 L[k])<;>rfl) (λrec=>by unfold HP;rw[Bh];rfl)
 rw[this]
 have e:(List.range L.length).any (λk=>Jz L k λl=>BV l (I4 l))=BV L λ_ l=>BV l (I4 l):=rfl
 rw[e]
 cases BV L λ_ l=>BV l (I4 l)<;>rfl
theorem tB(h:W0 L):JL L=some (Y0 L L.length):=by
 unfold JL
 have hl:=h.lim
 have:=D7 (body:=Eh L) (out:=Y0 L L.length) (λk=>(Y0 L k,(k:Int))) L.length (λk hk rec=>by
  have hJ:∀x,F3 rec (k:Int) x=rec (x,((k+1:Nat):Int)):=λx=>by unfold F3;rw[Bn hk (Bd hl.1)]
  unfold Eh
  simp only
  rw[Bl hk,Y0,Ry hk,AK hk]
  simp only[Ab,G]
  by_cases h0:k=0
  ·subst h0
   rw[AH (.inl rfl)]
   exact hJ _
  ·rw[show(((k:Nat):Int)==0)=false by rw[Bw];omega]
   simp only[Aa]
   by_cases hc:(L[k].length:Int) < Y0 L k
   ·rw[AH (.inr hc),Ah hc]
    exact hJ _
   ·rw[AE (by omega),Af hc]
    exact hJ _) (λrec=>by unfold Eh;simp only;rw[Bh];rfl) fz (EO hl.1)
 have h2:An (Eh L) fz (0,0)=some (Y0 L L.length):=this
 rw[h2];rfl
theorem jF{l:List Int}(hp:0 < l.length):AI l 0=some (ON l):=by
 have e:AI l ((0:Nat):Int)=some (l[0]'hp):=AK hp
 unfold ON
 rw[NP hp]
 exact e
theorem xr(h:W0 L)(hne:∀l∈L,0 < l.length):An (EX L) fz (([]:List (List Int)),0)=some (Ew L):=by
 have hl:=h.lim
 have hl1:=h.1
 have:=D7 (body:=EX L) (out:=Ew L) (λi=>((Oj L i).map (gL L),(i:Int))) L.length (λi hi rec=>by
  have hol:=Q6 L i
  have hpi:=hne _ (Ag hi)
  have hLi:gL L i=L[i]:=Ry hi
  generalize hY:(Oj L i).map (gL L)=Y
  have hYl:Y.length=i:=by rw[<-hY,Aj,hol]
  have hin:An (Ef Y L[i]) fz (Y.length:Int)=some ((bA ((Oj L i).map λj=>ON (gL L j)) (ON (gL L i)) i:Nat):Int):=by
   obtain⟨o,e,k,rfl,q1,q2⟩:=Qr (B:=Ef Y L[i]) (λs=>∃k:Nat,s=(k:Int)∧k<=i∧bA ((Oj L i).map λj=>ON (gL L j)) (ON (gL L i)) k=bA ((Oj L i).map λj=>ON (gL L j)) (ON (gL L i)) i) (λs=>s.toNat) (λo=>∃k:Nat,o=(k:Int)∧k<=i∧k=bA ((Oj L i).map λj=>ON (gL L j)) (ON (gL L i)) i) (λs hs=>by
    obtain⟨k,rfl,hk,he⟩:=hs
    cases k with
    |zero=>
     left
     exact⟨((0:Nat):Int),⟨0,rfl,hk,by rw[<-he];rfl⟩,λrec=>by unfold Ef;rfl⟩
    |succ k=>
     have hko:k < (Oj L i).length:=by omega
     have hkL:(Oj L i)[k] < L.length:=by have:=(Ta L i _).1 (Ag hko);omega
     have g1:AI Y (IntKind.i64.wrap (((k+1:Nat):Int) - 1))=some (gL L (Oj L i)[k]):=by
      rw[wrap_in (by omega),show((k+1:Nat):Int) - 1=(k:Int)by omega,<-hY,F0,BL,Ad hko];rfl
     have hH:gI ((Oj L i).map λj=>ON (gL L j)) k=ON (gL L (Oj L i)[k]):=by rw[NP (by rw[Aj];exact hko),BJ]
     have hpk:0 < (gL L (Oj L i)[k]).length:=by rw[Ry hkL];exact hne _ (Ag hkL)
     have e1:∀rec,Ef Y L[i] rec ((k+1:Nat):Int)=cond (decide (ON (gL L i) < ON (gL L (Oj L i)[k]))) (rec (k:Int)) (some ((k+1:Nat):Int)):=λrec=>by
      unfold Ef
      rw[Ah (by omega:(0:Int) < ((k+1:Nat):Int)),g1]
      simp only[Ab,G]
      rw[jF hpk]
      simp only
      rw[jF hpi]
      simp only
      rw[wrap_in (by omega),show((k+1:Nat):Int) - 1=(k:Int)by omega,hLi]
     rw[bA,hH]at he
     by_cases hc:ON (gL L i) < ON (gL L (Oj L i)[k])
     ·right
      rw[AH hc]at he
      exact⟨(k:Int),⟨k,rfl,by omega,he⟩,by simp only[As];omega,λrec=>by rw[e1,Ah hc];rfl⟩
     ·left
      rw[AE hc]at he
      exact⟨((k+1:Nat):Int),⟨k+1,rfl,hk,he⟩,λrec=>by rw[e1,Af hc];rfl⟩) fz (Y.length:Int) ⟨i,by rw[hYl],AW _,rfl⟩ (by unfold fz;simp only[As];omega)
   rw[e,q2]
  have hsc:=iR ((Oj L i).map λj=>ON (gL L j)) (ON (gL L i)) i
  rw[Oj,fe,hY]
  generalize bA ((Oj L i).map λj=>ON (gL L j)) (ON (gL L i)) i=k at hin hsc
  unfold EX
  simp only
  rw[Bl hi,AK hi]
  simp only[Ab,G]
  rw[hin]
  simp only[Bg]
  have e1:CC Y 0 (k:Int)=Y.take k:=by unfold CC;rw[As];rfl
  have e2:CC Y (k:Int) (Y.length:Int)=Y.drop k:=by unfold CC;rw[As,As,By]
  rw[e1,e2,AN (by omega),AN (by simp only[BY,At];unfold lim;omega),AN (by simp only[At,Ao];unfold lim;omega),AN (by omega),AN (by simp only[Aq,At,Ao,A6];unfold lim;omega),Bn hi (Bd hl.1)]
  unfold putAt
  rw[A3,hLi];rfl) (λrec=>by unfold EX;simp only;rw[Bh];rfl) fz (EO hl.1)
 exact this
def WO(l:List Nat):List Int:=l.map λ(j:Nat)=>(j:Int)
theorem p9(l:List Nat)(p v:Nat):Dl (WO l) (p:Int) (v:Int)=WO (l.set p v):=by
 unfold Dl WO
 rw[As,List.map_set]
theorem im{l:List Nat}{p:Nat}(h:p < l.length):AI (WO l) (p:Int)=some ((gN l p:Nat):Int):=by
 unfold WO
 rw[F0,BL,Ad h,AbZ h];rfl
theorem vK(hL:L.length<=lim)(hlen:∀l∈L,l.length<=lim)(hA:∀l∈L,Asc l):∀(m:Nat) (s:LfS),LfOk (Ew L) s->s.2.2.1=s.2.2.2.2 % (Ew L).length->s.1.length<=s.2.2.2.2->s.2.2.2.2+Us (Ew L) s.2.1 (Ew L).length<=lim->
  An (EY (Ew L)) m (WO s.2.1,s.2.2.2.1,s.1,((s.2.2.2.2+1:Nat):Int))=(lfR (Ew L) m s).map λr=>.inr (r.1,(r.2:Int))
 |0,s,h,hpn,hfew,hb=>rfl
 |m+1,s,h,hpn,hfew,hb=>by
  have hA':∀l∈Ew L,Asc l:=λl hl=>hA l ((Pc L l).1 hl)
  obtain⟨out,at_,p,top,n⟩:=s
  obtain⟨hp,e1,e2⟩:=eI h
  obtain⟨n1,n2⟩:=eG h
  have hk0:0 < (Ew L).length:=by have:=h.p;omega
  have hpk:=h.p
  have hpa:p < at_.length:=by have:=h.len;simp only at this hpk;omega
  have hrem:=(Zt (M:=Ew L) hpa n1 n2 (Ew L).length).2 h.p
  simp only at hp e1 e2 n1 n2 hrem hb hpn hfew hpk
  have hbl:=hlen _ ((Pc L _).1 (R2 hpk))
  have hkl:(Ew L).length<=lim:=by rw[Pb];exact hL
  have hP:Int.tmod (IntKind.i64.wrap (((n+1:Nat):Int) - 1)) ((Ew L).length:Int)=(p:Int):=by
   unfold lim at hb
   rw[wrap_in (by omega),show((n+1:Nat):Int) - 1=(n:Int)by omega,Int.tmod_eq_emod_of_nonneg (by omega),hpn]
   norm_cast
  have g2:AI (Ew L) (p:Int)=some (gL (Ew L) p):=by rw[AK hpk,Ry hpk]
  have g3:AI (WO at_) (p:Int)=some ((gN at_ p:Nat):Int):=im hpa
  have g4:AI (gL (Ew L) p) ((gN at_ p:Nat):Int)=some (gI (gL (Ew L) p) (gN at_ p)):=by rw[AK hp,NP hp]
  have hN:IntKind.i64.wrap (((n+1:Nat):Int)+1)=((n+1+1:Nat):Int):=by unfold lim at hb;rw[wrap_in (by omega)];omega
  have hJ:∀(o:List Int) (i:Nat),o=lfO (Ew L) (out,at_,p,top,n)->i=Yz (Ew L) (out,at_,p,top,n)->o.length<=n+1->
    EZ (An (EY (Ew L)) m) (Ew L) ((n+1:Nat):Int) (gL (Ew L) p) (Dl (WO at_) (p:Int) (i:Int)) o=(lfR (Ew L) (m+1) (out,at_,p,top,n)).map λr=>.inr (r.1,(r.2:Int)):=by
   intro o i ho hi hol
   unfold EZ
   rw[p9,hP]
   have gs:AI (WO (at_.set p i)) (p:Int)=some (i:Int):=by rw[im (by rw[Bx];exact hpa),am hpa,AH rfl]
   rw[gs]
   simp only[G]
   rw[lfR]
   simp only[<-ho,<-hi]
   by_cases hc:i=(gL (Ew L) p).length
   ·rw[show((i:Int)==((gL (Ew L) p).length:Int))=true by rw[BU];omega,show(i==(gL (Ew L) p).length)=true by rw[BU];exact hc]
    rfl
   ·rw[show((i:Int)==((gL (Ew L) p).length:Int))=false by rw[Bw];omega,show(i==(gL (Ew L) p).length)=false by rw[Bw];exact hc]
    have hil:i < (gL (Ew L) p).length:=by rw[<-hi]at n2;omega
    rw[show AI (gL (Ew L) p) (i:Int)=some (gI (gL (Ew L) p) i)by rw[AK hil,NP hil]]
    simp only[Aa]
    rw[hN]
    have hok:=eH h hA' (by simp only;rw[<-hi];exact hil)
    simp only[<-ho,<-hi]at hok hrem
    exact vK hL hlen hA m (o,at_.set p i,(p+1) % (Ew L).length,gI (gL (Ew L) p) i,n+1) hok (by simp only;rw[hpn,Nat.mod_add_mod]) hol (by simp only;omega)
  rw[Bq,EY]
  simp only
  rw[AN (by omega),hP,g2]
  simp only[G]
  rw[g3]
  simp only
  rw[g4]
  simp only
  cases hc:(gI (gL (Ew L) p) (gN at_ p)==top)with
  |true=>
   simp only[Ab]
   rw[AN (by simp only[Ao];omega),show IntKind.i64.wrap (((gN at_ p:Nat):Int)+1)=((gN at_ p+1:Nat):Int)by unfold lim at hbl;rw[wrap_in (by omega)];omega]
   exact hJ _ _ (by unfold lfO;simp only;rw[hc];rfl) (by unfold Yz;simp only;rw[hc];rfl) (by simp only[Aq,Ao];omega)
  |false=>
   simp only[Aa]
   rw[xv hbl (GV hp)]
   exact hJ _ _ (by unfold lfO;simp only;rw[hc];rfl) (by unfold Yz;simp only;rw[hc];rfl) (by omega)
theorem Aep(h:W0 L):HM L=some (lfB L):=by
 have hl:=h.lim
 have hl1:=h.1
 unfold HM lfB
 rw[xl h]
 simp only[G]
 cases h1:TU L with
 |false=>rfl
 |true=>
  simp only[Ai,Aa,AJ]
  rw[tB h]
  simp only
  cases h2:(Y0 L L.length==0)with
  |true=>rfl
  |false=>
   obtain⟨f1,f2⟩:=VG h1
   have f3:=bD f1 h2
   obtain⟨out,n,e,_,_,hn⟩:=pD h h1 h2
   simp only[Aa,C7,Ab]
   rw[xr h f3]
   simp only
   have hk0:0 < (Ew L).length:=by rw[Pb];exact f1
   have hkl:(Ew L).length<=5:=by rw[Pb];exact hl1
   have hlast:(Ew L).length - 1 < (Ew L).length:=by omega
   have hp:=f3 _ ((Pc L _).1 (Ag hlast))
   rw[AN (by rw[As];unfold lim;omega),wrap_in (by omega),show((Ew L).length:Int) - 1=(((Ew L).length - 1:Nat):Int)by omega,AK hlast]
   simp only
   rw[jF hp]
   simp only
   have hok:=jT f1 f3 f2
   have hr:=fi (M:=Ew L) (A:=(lf0 (Ew L)).2.1) (B:=4000) (λl hl=>h.2 l ((Pc L l).1 hl)) (Ew L).length (AW _)
   have hr2:Us (Ew L) (lf0 (Ew L)).2.1 (Ew L).length<=20000:=BC hr (by have:=B3 4000 hkl;omega)
   have hrun:=vK hl.1 hl.2 f2 fz (lf0 (Ew L)) hok (by show 0=0 % _;rw[Nat.zero_mod]) (AW _) (by have:(lf0 (Ew L)).2.2.2.2=0:=rfl;unfold lim;omega)
   have hz:WO (lf0 (Ew L)).2.1=List.replicate (Ew L).length (0:Int):=by
    show WO (zeros _)=_
    unfold WO zeros
    rw[List.map_replicate];rfl
   have ht:(lf0 (Ew L)).2.2.2.1=ON (Ew L)[(Ew L).length - 1]:=by
    show ON (gL (Ew L) ((Ew L).length - 1))=_
    rw[Ry hlast]
   rw[As,<-ht,<-hz]
   have hst:(WO (lf0 (Ew L)).2.1,(lf0 (Ew L)).2.2.2.1,([]:List Int),(1:Int))=(WO (lf0 (Ew L)).2.1,(lf0 (Ew L)).2.2.2.1,(lf0 (Ew L)).1,(((lf0 (Ew L)).2.2.2.2+1:Nat):Int)):=rfl
   rw[hst,hrun,e]
   rfl
end
theorem wrap_add(a b:Int):IntKind.i64.wrap (IntKind.i64.wrap a+b)=IntKind.i64.wrap (a+b):=by
 unfold IntKind.wrap
 simp only[IntKind.signed,IntKind.bits,AJ,BB,ge_iff_le]
 split<;>split<;>(try split)<;>omega
def Mp{α:Type}(f:α->Int):List α->Int
 |[]=>0
 |x::l=>f x+Mp f l
theorem iY{α:Type}(f:α->Int):∀a b:List α,Mp f (a++b)=Mp f a+Mp f b
 |[],b=>by simp[Mp]
 |x::a,b=>by rw[BT,Mp,Mp,iY f a b];omega
theorem dn{α β:Type}(f:β->Int)(g:α->List β):∀l:List α,Mp f (l.flatMap g)=Mp (λx=>Mp f (g x)) l
 |[]=>rfl
 |x::l=>by rw[Au,iY,Mp,dn f g l]
theorem iZ{α β:Type}(f:β->Int)(g:α->β):∀l:List α,Mp f (l.map g)=Mp (λx=>f (g x)) l
 |[]=>rfl
 |x::l=>by rw[AB,Mp,Mp,iZ f g l]
theorem iX{α:Type}(f g:α->Int):∀l:List α,Mp (λx=>f x+g x) l=Mp f l+Mp g l
 |[]=>rfl
 |x::l=>by rw[Mp,Mp,Mp,iX f g l];omega
theorem dp{α:Type}:∀l:List α,Mp (λ_=>(0:Int)) l=0
 |[]=>rfl
 |x::l=>by rw[Mp,dp l];rfl
theorem XD{α:Type}(f g:α->Int)(hfg:∀n v,IntKind.i64.wrap (n+f v)=IntKind.i64.wrap (n+g v)):∀(l:List α) (a:Int),l.foldl (λn v=>IntKind.i64.wrap (n+f v)) (IntKind.i64.wrap a)=IntKind.i64.wrap (a+Mp g l)
 |[],a=>by rw[List.foldl_nil,Mp];congr 1;omega
 |x::l,a=>by
  rw[Fb,hfg,wrap_add,XD f g hfg l,Mp]
  congr 1;omega
section
variable {T:List V8}{q:MQ}{o:List Int}
theorem Aet{a:RQ}{pre:List Int}(ha:a.2.length<=lim)(hp:pre.length<=o.length)(ho:o.length<=5):An (Hh o pre a) fz (([]:List Int),0)=some (bZ a o pre pre.length):=by
 have hl:pre.length<=lim:=by unfold lim;omega
 have:=D7 (body:=Hh o pre a) (out:=bZ a o pre pre.length) (λk=>(bZ a o pre k,(k:Int))) pre.length (λk hk rec=>by
  have hpl:=bf a o pre k (by omega)
  have hd:=oC a o k
  have hJ:∀y,I0 rec (k:Int) y=rec (y,((k+1:Nat):Int)):=λy=>by unfold I0;rw[Bn hk (Bd hl)]
  unfold Hh
  simp only
  rw[Bl hk,AK hk,AK (l:=o) (by omega),bZ,G8 (l:=o) (by omega),G8 hk]
  simp only[Ab,G]
  rw[o8 ha]
  simp only[hJ]
  cases a.2.contains o[k]with
  |true=>simp only[Ab];rw[AN (by simp only[Ao];unfold lim;omega)]
  |false=>simp only[Aa,AD]) (λrec=>by unfold Hh;simp only;rw[Bh];rfl) fz (EO hl)
 exact this
theorem xp(h:TriesOk T q o){pre:List Int}(hk:pre.length < o.length):N3 q T o pre=some (eC T q o pre):=by
 have ho:=Lu h.ov
 have hqn:=TC h.qv
 have hq4:=(VZ h.qv).2.2.1
 unfold N3 eC
 have:=D7 (body:=Hg q T o pre) (out:=(Wv q (NH o (pre.length:Int)) q.2.1.length).map λi=>chB ((T[i]?).getD (0,[])) (bZ ((q.2.1[i]?).getD ([],[])) o pre pre.length)) (λi=>((Wv q (NH o (pre.length:Int)) i).map λi=>chB ((T[i]?).getD (0,[])) (bZ ((q.2.1[i]?).getD ([],[])) o pre pre.length),(i:Int))) q.2.1.length (λi hi rec=>by
  have hxl:=Zm q (NH o (pre.length:Int)) i
  have hal:=(h.sm.2.1 _ (Ag hi)).2
  have hTl:i < T.length:=by rw[h.len];exact hi
  have hT:=mp h hi (k:=pre.length) (by omega)
  have hJ:∀y,IZ rec (i:Int) y=rec (y,((i+1:Nat):Int)):=λy=>by unfold IZ;rw[Bn hi (Bd h.sm.1)]
  unfold Hg
  simp only
  rw[Bl hi,AK hi,AK hk,vO,CD hi,BM,G8 hk]
  simp only[Ab,G]
  rw[o8 hal]
  simp only
  cases hc:q.2.1[i].2.contains o[pre.length]with
  |false=>
   simp only[C7,Ab,Aa,Dc,AD]
   exact hJ _
  |true=>
   simp only[Ai,Aa,Ab]
   rw[Aet hal (by omega) (by omega)]
   simp only
   rw[AK hTl]
   simp only
   rw[Ael (by rw[bf _ _ _ _ (by omega)];exact hT)]
   simp only
   rw[AN (by rw[Aj];simp only[Ao];unfold lim;rw[G8 hk]at hxl;omega),hJ,AB,Dc,Ad hTl,Ad hi]
   rfl) (λrec=>by unfold Hg;simp only;rw[Bh];rfl) fz (EO h.sm.1)
 have h2:An (Hg q T o pre) fz (([]:List (List Int)),0)=some ((Wv q (NH o (pre.length:Int)) q.2.1.length).map λi=>chB ((T[i]?).getD (0,[])) (bZ ((q.2.1[i]?).getD ([],[])) o pre pre.length)):=this
 rw[h2];rfl
def Rp(T:List V8)(q:MQ)(o:List Int):Nat->List (List Int)
 |0=>[[]]
 |k+1=>(Rp T q o k).flatMap λp=>(ky T q o p).1.map λv=>p++[v]
def stK(T:List V8)(q:MQ)(o:List Int):Nat->Int
 |0=>0
 |k+1=>(Rp T q o k).foldl (λn p=>IntKind.i64.wrap (n+(ky T q o p).2)) (stK T q o k)
theorem eK:∀(k:Nat) (p:List Int),p∈Rp T q o k->p.length=k
 |0,p,h=>by rw[Rp,A7]at h;subst h;rfl
 |k+1,p,h=>by
  rw[Rp]at h
  obtain⟨p',hp',h2⟩:=Cx.1 h
  obtain⟨v,_,rfl⟩:=BF.1 h2
  rw[Aq,eK k p' hp',Ao]
theorem aj{α β:Type}{f:α->List β}{B:Nat}:∀(l:List α),(∀x∈l,(f x).length<=B)->(l.flatMap f).length<=l.length * B
 |[],_=>by simp
 |x::l,h=>by
  have h1:=h x (by simp)
  have h2:=aj l λy hy=>h y (by simp[hy])
  rw[Au,Aq,Az,CQ,DP]
  omega
theorem pV(h:TriesOk T q o)(h16:∀t∈T,t.2.length<=16):∀k,k<=o.length->(Rp T q o k).length<=16 ^ k
 |0,_=>by rw[Rp];simp
 |k+1,hk=>by
  have h1:=pV h h16 k (by omega)
  rw[Rp,DJ]
  refine BC (aj _ λp hp=>?_) (B3 16 h1)
  rw[Aj]
  exact(X0 h h16 (by rw[eK k p hp];omega)).1
theorem Adr{k:Nat}(h:k<=5):16 ^ k<=1048576:=HT (show 0 < 16 by decide) h
theorem tx(h:TriesOk T q o)(h16:∀t∈T,t.2.length<=16){n:Nat}(hn:n<=o.length):Fl q T o (n:Int)=some (Rp T q o n,stK T q o n,decide (((Rp T q o n).length:Int)<=4000)):=by
 have ho:=Lu h.ov
 have hqn:=TC h.qv
 unfold Fl
 have:=D7 (body:=DU q T o (n:Int)) (out:=(Rp T q o n,stK T q o n)) (λk=>(Rp T q o k,stK T q o k,(k:Int))) n (λk hk rec=>by
  have hlv:=pV h h16 k (by omega)
  have h16k:=Adr (show k<=5 by omega)
  have hin:=D7 (body:=DV q T o (Rp T q o k)) (out:=(stK T q o (k+1),Rp T q o (k+1))) (λj=>(((Rp T q o k).take j).foldl (λn p=>IntKind.i64.wrap (n+(ky T q o p).2)) (stK T q o k),((Rp T q o k).take j).flatMap (λp=>(ky T q o p).1.map λv=>p++[v]),(j:Int))) (Rp T q o k).length (λj hj rec=>by
   have hpl:(Rp T q o k)[j].length=k:=eK k _ (Ag hj)
   obtain⟨k1,k2,k3⟩:=X0 h h16 (pre:=(Rp T q o k)[j]) (by omega)
   have hfew:(((Rp T q o k).take j).flatMap (λp=>(ky T q o p).1.map λv=>p++[v])).length<=16777216:=by
    have:=aj (f:=λp=>(ky T q o p).1.map λv=>p++[v]) (B:=16) ((Rp T q o k).take j) (λp hp=>by
     rw[Aj]
     exact(X0 h h16 (by rw[eK k p (El hp)];omega)).1)
    rw[At]at this
    omega
   generalize hacc:((Rp T q o k).take j).flatMap (λp=>(ky T q o p).1.map λv=>p++[v])=acc at hfew
   have hb3:=D7 (body:=DW (Rp T q o k)[j] (ky T q o (Rp T q o k)[j])) (out:=acc++(ky T q o (Rp T q o k)[j]).1.map λv=>(Rp T q o k)[j]++[v]) (λi=>(acc++((ky T q o (Rp T q o k)[j]).1.take i).map (λv=>(Rp T q o k)[j]++[v]),(i:Int))) (ky T q o (Rp T q o k)[j]).1.length (λi hi rec=>by
    unfold DW
    simp only
    rw[Bl hi,AK hi]
    simp only[Ab,G]
    rw[ly (by unfold lim;omega)]
    simp only
    rw[AN (by simp only[Ao];unfold lim;omega),AN (by simp only[Aq,Aj,At,Ao];unfold lim;omega),Bn hi (by unfold maxLen;omega),A9 hi,BM,A3]
    rfl) (λrec=>by unfold DW;simp only;rw[Bh,By];rfl) fz (by unfold fz;omega)
   unfold DV
   simp only
   rw[Bl hj,AK hj]
   simp only[Ab,G]
   rw[xp h (by omega)]
   simp only
   rw[Aep (lH h (by omega)).1]
   simp only
   rw[show lfB (eC T q o (Rp T q o k)[j])=ky T q o (Rp T q o k)[j]from rfl]
   rw[Mj,Dc,AD]at hb3
   have hb4:An (DW (Rp T q o k)[j] (ky T q o (Rp T q o k)[j])) fz (acc,0)=some (acc++(ky T q o (Rp T q o k)[j]).1.map λv=>(Rp T q o k)[j]++[v]):=hb3
   rw[hb4]
   simp only
   rw[A9 hj,MJ,DB,hacc,Au,Fq,AD,Bn hj (by unfold maxLen;omega)]
   rfl) (λrec=>by unfold DV;simp only;rw[Bh,By];rfl) fz (by unfold fz;omega)
  have hin2:An (DV q T o (Rp T q o k)) fz (stK T q o k,([]:List (List Int)),0)=some (stK T q o (k+1),Rp T q o (k+1)):=hin
  unfold DU
  simp only
  rw[Bl hk,hin2,Bn hk (by unfold maxLen;omega)]
  rfl) (λrec=>by unfold DU;simp only;rw[Bh];rfl) fz (by unfold fz;omega)
 have h2:An (DU q T o (n:Int)) fz (([[]]:List (List Int)),0,0)=some (Rp T q o n,stK T q o n):=this
 rw[h2]
 rfl
theorem gA{α:Type}:∀l:List α,(l.flatMap λp=>[p])=l
 |[]=>rfl
 |x::l=>by rw[Au,gA l];rfl
theorem vZ:∀(k r:Nat),(Rp T q o k).flatMap (λp=>(wk T q o r p).1)=(wk T q o (k+r) []).1
 |0,r=>by rw[Rp,Au,Fq,AD,B6]
 |k+1,r=>by
  rw[Rp,List.flatMap_assoc,show k+1+r=k+(r+1)by omega,<-vZ k (r+1)]
  congr 1
  funext p
  rw[List.flatMap_map]
  rfl
def tk(T:List V8)(q:MQ)(o:List Int):Nat->List Int->Int
 |0,_=>0
 |r+1,pre=>(ky T q o pre).2+Mp (λv=>tk T q o r (pre++[v])) (ky T q o pre).1
theorem Acu(h:TriesOk T q o){pre:List Int}(hk:pre.length < o.length):IntKind.i64.wrap (ky T q o pre).2=(ky T q o pre).2:=by
 have:=lI (lH h hk).1
 have h1:=this.2.2.2
 exact wrap_in (by unfold ky;omega)
theorem wo(h:TriesOk T q o):∀(r:Nat) (pre:List Int),pre.length+r=o.length->(wk T q o r pre).2=IntKind.i64.wrap (tk T q o r pre)
 |0,pre,hr=>rfl
 |r+1,pre,hr=>by
  have hlen:∀v:Int,(pre++[v]).length+r=o.length:=λv=>by rw[Aq,Ao];omega
  have hw:=λv=>wo h r (pre++[v]) (hlen v)
  rw[wk,tk]
  simp only
  rw[<-XD (λv=>(wk T q o r (pre++[v])).2) (λv=>tk T q o r (pre++[v])) (λn v=>by rw[hw v,Int.add_comm,wrap_add,Int.add_comm]),Acu h (by omega)]
def sK(T:List V8)(q:MQ)(o:List Int):Nat->Int
 |0=>0
 |k+1=>sK T q o k+Mp (λp=>(ky T q o p).2) (Rp T q o k)
theorem AdQ:∀k,stK T q o k=IntKind.i64.wrap (sK T q o k)
 |0=>rfl
 |k+1=>by
  rw[stK,AdQ k,sK,XD _ (λp=>(ky T q o p).2) (λn v=>rfl)]
theorem AdM:∀(k r:Nat),sK T q o k+Mp (λp=>tk T q o r p) (Rp T q o k)=tk T q o (k+r) []
 |0,r=>by rw[sK,Rp,Mp,Mp,B6];omega
 |k+1,r=>by
  rw[show k+1+r=k+(r+1)by omega,<-AdM k (r+1),sK,Rp,dn]
  have e:(λp=>tk T q o (r+1) p)=λp=>(ky T q o p).2+Mp (λv=>tk T q o r (p++[v])) (ky T q o p).1:=by funext p;rw[tk]
  have e2:(λp=>Mp (λp=>tk T q o r p) ((ky T q o p).1.map λv=>p++[v]))=λp=>Mp (λv=>tk T q o r (p++[v])) (ky T q o p).1:=by funext p;rw[iZ]
  rw[e,iX,e2]
  omega
theorem Aac:Rp T q o o.length=(wk T q o o.length []).1:=by
 have:=vZ (T:=T) (q:=q) (o:=o) o.length 0
 rw[Cb]at this
 rw[<-this]
 exact(gA _).symm
theorem AaV(h:TriesOk T q o):stK T q o o.length=(wk T q o o.length []).2:=by
 have:=AdM (T:=T) (q:=q) (o:=o) o.length 0
 rw[Cb]at this
 rw[AdQ,wo h o.length [] (by simp),<-this]
 have e:(λp=>tk T q o 0 p)=λ_=>(0:Int):=by funext p;rw[tk]
 rw[e,dp,Int.add_zero]
theorem kP:∀(p a b:List Int),EH (p++a) (p++b)=EH a b
 |[],a,b=>rfl
 |x::p,a,b=>by rw[BT,BT,EH,AE (by omega),AE (by omega)];exact kP p a b
theorem r9(h:TriesOk T q o)(h16:∀t∈T,t.2.length<=16):∀(r:Nat) (pre:List Int),pre.length+r=o.length->Xk (wk T q o r pre).1
 |0,pre,hr=>by rw[wk];exact DF _ _
 |r+1,pre,hr=>by
  have hlen:∀v:Int,(pre++[v]).length+r=o.length:=λv=>by rw[Aq,Ao];omega
  have hs:=λv=>r9 h h16 r (pre++[v]) (hlen v)
  obtain⟨k1,k2,k3⟩:=X0 h h16 (pre:=pre) (by omega)
  rw[wk]
  unfold Xk
  simp only
  rw[List.pairwise_flatMap]
  refine⟨λv _=>hs v,k2.imp λ{v v'} hv x hx y hy=>?_⟩
  have hx2:=((V6 h h16 r (pre++[v]) (hlen v)).2 x hx).2.1
  have hy2:=((V6 h h16 r (pre++[v']) (hlen v')).2 y hy).2.1
  have ex:=BG (pre++[v]).length x
  have ey:=BG (pre++[v']).length y
  rw[hx2]at ex
  rw[hy2]at ey
  rw[<-ex,<-ey,A3,A3,kP]
  show EH (v::_) (v'::_) < 0
  rw[EH,AH hv]
  omega
theorem sD{x:List Int}(h:∀e∈x,0<=e∧e<=99):PQ x=true:=by
 unfold PQ
 rw[ZT λi hi=>by
  have:=h _ (Ag hi)
  first
   |(rw[CD hi];unfold G9;simp;omega)
   |(unfold G9;simp;omega)]
 rfl
theorem Adk(h:TriesOk T q o)(h16:∀t∈T,t.2.length<=16):nrB (o.length:Int) (wk T q o o.length []).1=cond (decide (((wk T q o o.length []).1.length:Int)<=4000)) (((o.length:Int),(wk T q o o.length []).1),true) ((0,[]),false):=by
 have ho:=Lu h.ov
 have hqn:=TC h.qv
 obtain⟨w1,w2⟩:=V6 h h16 o.length [] (by simp)
 have hs:=r9 h h16 o.length [] (by simp)
 have hrow:∀x∈(wk T q o o.length []).1,x.length=o.length∧PQ x=true:=λx hx=>⟨(w2 x hx).1,sD ((w2 x hx).2.2 λe he=>by cases he)⟩
 have hsort:sortB (wk T q o o.length []).1=(wk T q o o.length []).1:=(W3 hs λz=>CM).symm
 unfold nrB
 rw[hsort,ZT λi hi=>by
  have:=hrow _ (Ag hi)
  first
   |(unfold Ul;rw[this.1,this.2];simp)
   |(rw[CD hi];unfold Ul;rw[this.1,this.2];simp)]
 rw[Aa]
 have hrel:P2 ((o.length:Int),(wk T q o o.length []).1)=decide (((wk T q o o.length []).1.length:Int)<=4000):=by
  rw[Cn,uE,BB]
  constructor
  ·rintro⟨_,h2,_⟩
   simp only at h2
   omega
  ·intro h2
   exact⟨⟨by simp only;omega,by simp only;omega⟩,by simp only;omega,λx hx=>⟨by rw[(hrow x hx).1],(hrow x hx).2⟩,hs⟩
 rw[hrel]
 cases decide (((wk T q o o.length []).1.length:Int)<=4000)<;>rfl
end
theorem Aen{T:List V8}(hl:T.length<=lim):N4 T=some (emB T):=by
 unfold N4 emB
 have:=TV (B:=Lp T) (n:=T.length) (λk=>Jz T k λt=>(t.2.length:Int)==0) true hl (λk hk rec=>by
  unfold Lp
  rw[Bl hk,AK hk,Bn hk (Bd hl),CD hk]
  rfl) (λrec=>by unfold Lp;rw[Bh];rfl)
 rw[this]
 have e:(List.range T.length).any (λk=>Jz T k λt=>(t.2.length:Int)==0)=BV T λ_ t=>(t.2.length:Int)==0:=rfl
 rw[e]
 cases BV T λ_ t=>(t.2.length:Int)==0<;>rfl
section
variable {d:List Tp}{q:MQ}{o:List Int}
theorem Aci(h:Ut d)(hq:Vz q)(ho:o.length<=lim):Ll d q o=some (ljB d q o):=by
 unfold Ll ljB
 rw[tD h hq ho]
 unfold Yo
 cases hf:Ks d q with
 |false=>rfl
 |true=>
  cases hor:Un q o with
  |false=>rfl
  |true=>
   simp only[Er,Ab,G,Ai,Aa]
   have hT:=bR (d:=d) hq hf hor
   have ho2:=Lu hor
   rw[show q.2.1.map (YH d o)=trs d q o from rfl]at hT⊢
   rw[Aen (by rw[hT.len];exact hq.1)]
   simp only
   rw[<-ho2.1]
   cases emB (trs d q o)with
   |true=>rfl
   |false=>
    simp only[Aa]
    rw[tx hT (fC hf hor) (AW _)]
    simp only
    rw[Aac,AaV hT,Adk hT (fC hf hor)]
    cases decide (((wk (trs d q o) q o o.length []).1.length:Int)<=4000)<;>rfl
end
section
variable {d:List Tp}{q:MQ}
def bQ(d:List Tp)(q:MQ):List Int:=q.2.1.map λa=>((abB d a).2.length:Int)
theorem uT(h:Ut d)(hq:Vz q):Ov d q=some (cond (Ks d q) (bQ d q,true) ([],false)):=by
 unfold Ov
 rw[rp h hq]
 simp only[G]
 cases hb:Ks d q with
 |false=>rfl
 |true=>
  obtain⟨g1,g2,g3⟩:=VY hb
  rw[Ai,Aa,J6 (a:=q.2.1) (h:=λa=>((abB d a).2.length:Int)) (by unfold lim;omega) (λk hk rec=>by
   have ha:=g2 _ (Ag hk)
   unfold Ox
   simp only
   rw[Bl hk,Ab,AK hk]
   simp only[G]
   rw[Adv h ha.1 ha.2]
   simp only
   rw[AN (by simp only[Aj,At,Ao];unfold lim;omega),Bn hk (Bd (by unfold lim;omega))]) (λrec y=>by unfold Ox;simp only[Bh,Aa])]
  rfl
theorem tC(h:Ut d)(hq:Vz q):NQ d q=some (cond (Ks d q) (bQ d q,true) ([],false)):=by
 unfold NQ
 rw[pi h hq]
 simp only[G]
 cases hb:Ks d q with
 |false=>rfl
 |true=>
  obtain⟨g1,g2,g3⟩:=VY hb
  rw[Ai,Aa,J6 (a:=q.2.1) (h:=λa=>((abB d a).2.length:Int)) (by unfold lim;omega) (λk hk rec=>by
   have ha:=g2 _ (Ag hk)
   unfold NR
   simp only
   rw[Bl hk,Ab,AK hk]
   simp only[G]
   rw[Ab7 h ha.1 ha.2]
   simp only
   rw[AN (by simp only[Aj,At,Ao];unfold lim;omega),Bn hk (Bd (by unfold lim;omega))]) (λrec y=>by unfold NR;simp only[Bh,Aa])]
  rfl
end
theorem lN{α:Type}{cnt:α->Nat}{mk:α->Int->α}:∀(l:List α) (k:Int) (j:Nat) (hj:j < l.length),(Zq cnt mk l k)[j]? =some (mk l[j] (k+(JB cnt (l.take j):Int)))
 |[],_,j,hj=>by simp at hj
 |x::l,k,0,hj=>by simp[Zq,JB]
 |x::l,k,j+1,hj=>by
  rw[Zq,DE,lN l _ j (by simpa using hj)]
  simp only[Fi,Dh,JB]
  congr 2
  omega
theorem Z5{α:Type}{cnt:α->Nat}:∀(a b:List α),JB cnt (a++b)=JB cnt a+JB cnt b
 |[],b=>by simp[JB]
 |x::a,b=>by rw[BT,JB,JB,Z5 a b];omega
theorem mF{α:Type}{cnt:α->Nat}(l:List α)(j:Nat):JB cnt (l.take j)<=JB cnt l:=by
 have:=Z5 (cnt:=cnt) (l.take j) (l.drop j)
 rw[BG]at this
 omega
theorem wT{α:Type}{cnt:α->Nat}(l:List α)(j:Nat)(hj:j < l.length):JB cnt (l.take (j+1))=JB cnt (l.take j)+cnt l[j]:=by
 rw[A9 hj,Z5];simp[JB]
theorem f9{α:Type}{cnt:α->Nat}{B:Nat}:∀(l:List α),(∀x∈l,cnt x<=B)->JB cnt l<=l.length * B
 |[],_=>by simp[JB]
 |x::l,h=>by
  have h1:=h x (by simp)
  have h2:=f9 l (λy hy=>h y (by simp[hy]))
  rw[JB,Az,CQ];omega
theorem kQ{α:Type}{cnt:α->Nat}{B C:Nat}(l:List α)(hl:l.length<=C)(h:∀x∈l,cnt x<=B):JB cnt l<=C * B:=BC (f9 l h) (B3 _ hl)
theorem Zd{α:Type}{cnt tz:α->Nat}{c:Nat}(h:∀x,cnt x<=64 * tz x+c)(hc:c<=64):∀(l:List α),JB cnt l<=64 * (l.length+fD tz l)
 |[]=>by simp[JB]
 |x::l=>by
  have h1:=h x
  have h2:=Zd h hc l
  rw[JB,Az,fD];omega
theorem gc{α:Type}{cnt:α->Nat}{c:Nat}(h:∀x,cnt x<=c)(hc:c<=64):∀(l:List α),JB cnt l<=64 * l.length
 |[]=>by simp[JB]
 |x::l=>by
  have h1:=h x
  have h2:=gc h hc l
  rw[JB,Az];omega
theorem cD{α:Type}{cnt:α->Nat}{mk:α->Int->α}{l:List α}{k:Int}{B:(Int×Int->Option (Sum Int Int))->Int×Int->Option (Sum Int Int)}(hl:l.length<=lim)(h0:0<=k)(h1:k+(JB cnt l:Int)<=mB)
  (hB:∀rec (x:α) (y i:Int),x∈l->0<=y->y+(cnt x:Int)<=mB->i < ((Zq cnt mk l k).length:Int)->AI (Zq cnt mk l k) i=some (mk x y)->B rec (y,i)=rec (y+(cnt x:Int),IntKind.i64.wrap (i+1)))
  (hE:∀rec (y:Int),B rec (y,((Zq cnt mk l k).length:Int))=some (.inl y)):An B fz (k,0)=some (.inl (k+(JB cnt l:Int))):=by
 have:=D7 (body:=B) (out:=.inl (k+(JB cnt l:Int))) (λj=>(k+(JB cnt (l.take j):Int),(j:Int))) l.length (λj hj rec=>?_) (λrec=>?_) fz (EO hl)
 ·simpa[JB]using this
 ·have hs:=wT (cnt:=cnt) l j hj
  have ht:=mF (cnt:=cnt) l (j+1)
  rw[hB rec l[j] _ _ (Ag hj) (by omega) (by omega) (by rw[O9];omega) (by rw[F0];exact lN l k j hj)]
  rw[Bn hj (Bd hl),hs]
  congr 2
  omega
 ·have:=hE rec (k+(JB cnt (l.take l.length):Int))
  rw[O9]at this
  rw[this,By]
theorem mk2{α β:Type}{a a':α}{b b':β}(h:a=a')(g:b=b'):(a,b)=(a',b'):=by rw[h,g]
open Go.RowKit Go.ChangeShapes Go.WideShapes Go.Deep
set_option maxRecDepth 100000
section
variable {H:Type}{enc:TypeId×Value->H}{w:World}{base:Nat}{spare:Nat->Bool}{held:Bool}
def j5(x:List Int):Prop:=x.length<=maxLen∧∀a∈x,InI a
theorem ul:Opens enc Tryz.prog w base spare held 23 B4 j5:=WP Tryz.underlying23 (by kernel_rfl) (CK rfl) AY (X7 Tryz.underlying3)
def Aax(x:List (List Int)):Prop:=x.length<=maxLen∧∀a∈x,j5 a
theorem AeD:Opens enc Tryz.prog w base spare held 29 wQ Aax:=WP Tryz.underlying29 (by kernel_rfl) (CK rfl) CN ul
def qj(x:DY):Prop:=InI x.1∧Aax x.2
theorem Adn:Opens enc Tryz.prog w base spare held 137 dH qj:=by
 intro fuel cs x h
 have hl:cs.length=2:=(st_len Tryz.underlying137 h).trans (by kernel_rfl)
 obtain⟨y0,n0,h0⟩:=MW Tryz.underlying137 h (j:=0) rfl
 rw[show Tryz.prog.cellsOf _=1 from by kernel_rfl]at h0
 obtain⟨a0,r0,k0⟩:=(X7 Tryz.underlying3) _ _ _ h0
 obtain⟨y1,n1,h1⟩:=MW Tryz.underlying137 h (j:=1) rfl
 rw[show Tryz.prog.cellsOf _=1 from by kernel_rfl]at h1
 obtain⟨a1,r1,k1⟩:=AeD _ _ _ h1
 refine⟨(a0,a1),?_,k0,k1⟩
 exact(K2 (off:=0) (n:=1) r0 (K2 (off:=1) (n:=1) r1 (WW hl)))
def ql(x:ID):Prop:=List.length x.1<=maxLen∧qj x.2
theorem Ado:Opens enc Tryz.prog w base spare held 139 JF ql:=by
 intro fuel cs x h
 have hl:cs.length=3:=(st_len Tryz.underlying139 h).trans (by kernel_rfl)
 obtain⟨y0,n0,h0⟩:=MW Tryz.underlying139 h (j:=0) rfl
 rw[show Tryz.prog.cellsOf _=1 from by kernel_rfl]at h0
 obtain⟨a0,r0,k0⟩:=(c5 Tryz.underlying9) _ _ _ h0
 obtain⟨y1,n1,h1⟩:=MW Tryz.underlying139 h (j:=1) rfl
 rw[show Tryz.prog.cellsOf _=2 from by kernel_rfl]at h1
 obtain⟨a1,r1,k1⟩:=Adn _ _ _ h1
 refine⟨(a0,a1),?_,k0,k1⟩
 exact(K2 (off:=0) (n:=1) r0 (K2 (off:=1) (n:=2) r1 (WW hl)))
def Aay(x:List ID):Prop:=x.length<=maxLen∧∀a∈x,ql a
theorem AeE:Opens enc Tryz.prog w base spare held 48 sJ Aay:=WP Tryz.underlying48 (by kernel_rfl) (CK rfl) bW Ado
def uh(x:List ID):Prop:=Aay x
theorem AeF:Opens enc Tryz.prog w base spare held 50 kJ uh:=by
 intro fuel cs x h
 have hl:cs.length=1:=(st_len Tryz.underlying50 h).trans (by kernel_rfl)
 obtain⟨y0,n0,h0⟩:=MW Tryz.underlying50 h (j:=0) rfl
 rw[show Tryz.prog.cellsOf _=1 from by kernel_rfl]at h0
 obtain⟨a0,r0,k0⟩:=AeE _ _ _ h0
 refine⟨a0,?_,k0⟩
 exact(K2 (off:=0) (n:=1) r0 (WW hl))
def qh(x:Dn):Prop:=List.length x.1<=maxLen∧j5 x.2
theorem Adm:Opens enc Tryz.prog w base spare held 101 NJ qh:=by
 intro fuel cs x h
 have hl:cs.length=2:=(st_len Tryz.underlying101 h).trans (by kernel_rfl)
 obtain⟨y0,n0,h0⟩:=MW Tryz.underlying101 h (j:=0) rfl
 rw[show Tryz.prog.cellsOf _=1 from by kernel_rfl]at h0
 obtain⟨a0,r0,k0⟩:=(c5 Tryz.underlying9) _ _ _ h0
 obtain⟨y1,n1,h1⟩:=MW Tryz.underlying101 h (j:=1) rfl
 rw[show Tryz.prog.cellsOf _=1 from by kernel_rfl]at h1
 obtain⟨a1,r1,k1⟩:=ul _ _ _ h1
 refine⟨(a0,a1),?_,k0,k1⟩
 exact(K2 (off:=0) (n:=1) r0 (K2 (off:=1) (n:=1) r1 (WW hl)))
def Aaw(x:List Dn):Prop:=x.length<=maxLen∧∀a∈x,qh a
theorem AeB:Opens enc Tryz.prog w base spare held 22 wP Aaw:=WP Tryz.underlying22 (by kernel_rfl) (CK rfl) fG Adm
def ug(x:Y24):Prop:=InI x.1∧Aaw x.2.1∧j5 x.2.2
theorem AeC:Opens enc Tryz.prog w base spare held 25 Y9 ug:=by
 intro fuel cs x h
 have hl:cs.length=3:=(st_len Tryz.underlying25 h).trans (by kernel_rfl)
 obtain⟨y0,n0,h0⟩:=MW Tryz.underlying25 h (j:=0) rfl
 rw[show Tryz.prog.cellsOf _=1 from by kernel_rfl]at h0
 obtain⟨a0,r0,k0⟩:=(X7 Tryz.underlying3) _ _ _ h0
 obtain⟨y1,n1,h1⟩:=MW Tryz.underlying25 h (j:=1) rfl
 rw[show Tryz.prog.cellsOf _=1 from by kernel_rfl]at h1
 obtain⟨a1,r1,k1⟩:=AeB _ _ _ h1
 obtain⟨y2,n2,h2⟩:=MW Tryz.underlying25 h (j:=2) rfl
 rw[show Tryz.prog.cellsOf _=1 from by kernel_rfl]at h2
 obtain⟨a2,r2,k2⟩:=ul _ _ _ h2
 refine⟨(a0,a1,a2),?_,k0,k1,k2⟩
 exact(K2 (off:=0) (n:=1) r0 (K2 (off:=1) (n:=1) r1 (K2 (off:=2) (n:=1) r2 (WW hl))))
end
end Go.Proofs.YtaagdgjndpgdgaaGreatDoor
namespace Go.Proofs.YtaagdgjndpgdgaaGreatDoor
def Lv(a:List Int):Prop:=List.length a<=1048576
def U8(a:List Int):Nat:=List.length a
theorem ZA{a:List Int}(h:Lv a):GQ a=some a:=by
 unfold GQ
 rw[AN (Zp (GX (show _ from h))),ZB (a:=a) (g:=some) (h:=id) (λ_ _ _=>rfl) (λ_ _=>rfl) (GX (show _ from h))]
 simp only[G,List.map_id]
theorem US{a:List Int}(h:Lv a):HZ a a=some true:=by
 unfold HZ
 rw[Wk (B:=Uf a a) (a:=a) (g:=(λx y=>some (x==y))) (λ_ _=>rfl) (λ_ _=>by simp) (GX (show _ from h))]
 simp[G]
theorem fw{a:List Int}(k:j5 a){left:Int}(h:0<=left∧left<=1048576):SzR left (NB a left) (Lv a) (U8 a):=AaY h k.1
def Uu(a:List (List Int)):Prop:=List.length a<=1048576∧∀e∈a,Lv e
def bT(a:List (List Int)):Nat:=List.length a+fD U8 a
theorem rW{a:List (List Int)}(h:Uu a):Qq a=some a:=by
 unfold Qq
 rw[AN (Zp (GX h.1)),ZB (a:=a) (g:=GQ) (h:=id) (λ_ _ _=>rfl) (λe he=>ZA (h.2 e he)) (GX h.1)]
 simp only[G,List.map_id]
theorem oH{a:List (List Int)}(h:Uu a):Qm a a=some true:=by
 unfold Qm
 rw[Wk (B:=Tx a a) (a:=a) (g:=HZ) (λ_ _=>rfl) (λe he=>US (h.2 e he)) (GX h.1)]
 simp[G]
theorem rN{a:List (List Int)}(k:Aax a){left:Int}(h:0<=left∧left<=1048576):SzR left (S0 a left) (Uu a) (bT a):=fx (B:=TA a) (g:=NB) (λ_ _ _=>rfl) (λe he left h=>fw (k.2 e he) h) h k.1
def RJ(a:DY):Prop:=Uu a.2
def PK(a:DY):Nat:=bT a.2
theorem i7{a:DY}(h:RJ a):M8 a=some a:=by
 unfold M8
 simp only[rW (h),G]<;>rfl
theorem gr{a:DY}(h:RJ a):M5 a a=some true:=by
 simp[M5,oH (h),G]
theorem i5{a:DY}(k:qj a){left:Int}(h:0<=left∧left<=1048576):SzR left (M7 a left) (RJ a) (PK a):=by
 unfold M7
 have h0:0<=left∧left<=1048576:=h
 obtain⟨v0,e0,p0⟩:=rN (k.2) h0
 rw[e0]
 rcases p0 with p0|⟨p0,q0,s0⟩
 ·simp only[G];rw[Ah p0];exact⟨-1,rfl,.inl (by omega)⟩
 simp only[G]
 rw[Af (by omega:¬v0 < 0)]
 simp only[Aa]
 exact⟨v0,rfl,.inr ⟨by unfold PK;omega,q0,s0⟩⟩
def W2(a:ID):Prop:=List.length a.1<=1048576∧RJ a.2
def UB(a:ID):Nat:=List.length a.1+PK a.2
theorem rY{a:ID}(h:W2 a):Ob a=some a:=by
 unfold Ob
 simp only[i7 (h.2),G]<;>rfl
theorem oJ{a:ID}(h:W2 a):N6 a a=some true:=by
 simp[N6,gr (h.2),G]
theorem rP{a:ID}(k:ql a){left:Int}(h:0<=left∧left<=1048576):SzR left (N9 a left) (W2 a) (UB a):=by
 unfold N9
 have h0:0<=left∧left<=1048576:=h
 obtain⟨v0,e0,p0⟩:=vb h0 k.1
 rw[e0]
 rcases p0 with p0|⟨p0,q0,s0⟩
 ·simp only[G];rw[Ah p0];exact⟨-1,rfl,.inl (by omega)⟩
 simp only[G]
 rw[Af (by omega:¬v0 < 0)]
 simp only[Aa]
 have h1:0<=v0∧v0<=1048576:=by omega
 obtain⟨v1,e1,p1⟩:=i5 (k.2) h1
 rw[e1]
 rcases p1 with p1|⟨p1,q1,s1⟩
 ·simp only[G];rw[Ah p1];exact⟨-1,rfl,.inl (by omega)⟩
 simp only[G]
 rw[Af (by omega:¬v1 < 0)]
 simp only[Aa]
 exact⟨v1,rfl,.inr ⟨by unfold UB;omega,q1,s0,s1⟩⟩
def U6(a:List ID):Prop:=List.length a<=1048576∧∀e∈a,W2 e
def Yp(a:List ID):Nat:=List.length a+fD UB a
theorem nG{a:List ID}(h:U6 a):Pk a=some a:=by
 unfold Pk
 rw[AN (Zp (GX h.1)),ZB (a:=a) (g:=Ob) (h:=id) (λ_ _ _=>rfl) (λe he=>rY (h.2 e he)) (GX h.1)]
 simp only[G,List.map_id]
theorem mN{a:List ID}(h:U6 a):Pj a a=some true:=by
 unfold Pj
 rw[Wk (B:=So a a) (a:=a) (g:=N6) (λ_ _=>rfl) (λe he=>oJ (h.2 e he)) (GX h.1)]
 simp[G]
theorem nE{a:List ID}(k:Aay a){left:Int}(h:0<=left∧left<=1048576):SzR left (R0 a left) (U6 a) (Yp a):=fx (B:=Sp a) (g:=N9) (λ_ _ _=>rfl) (λe he left h=>rP (k.2 e he) h) h k.1
def PE(a:List ID):Prop:=U6 a
def RO(a:List ID):Nat:=Yp a
theorem i6{a:List ID}(h:PE a):Hr a=some a:=by
 unfold Hr
 simp only[nG (h),G]<;>rfl
theorem gn{a:List ID}(h:PE a):M4 a a=some true:=by
 simp[M4,mN (h),G]
theorem i4{a:List ID}(k:uh a){left:Int}(h:0<=left∧left<=1048576):SzR left (M6 a left) (PE a) (RO a):=by
 unfold M6
 have h0:0<=left∧left<=1048576:=h
 obtain⟨v0,e0,p0⟩:=nE (k) h0
 rw[e0]
 rcases p0 with p0|⟨p0,q0,s0⟩
 ·simp only[G];rw[Ah p0];exact⟨-1,rfl,.inl (by omega)⟩
 simp only[G]
 rw[Af (by omega:¬v0 < 0)]
 simp only[Aa]
 exact⟨v0,rfl,.inr ⟨by unfold RO;omega,q0,s0⟩⟩
def Zy(a:Dn):Prop:=List.length a.1<=1048576∧Lv a.2
def Xc(a:Dn):Nat:=List.length a.1+U8 a.2
theorem vg{a:Dn}(h:Zy a):PB a=some a:=by
 unfold PB
 simp only[ZA (h.2),G]<;>rfl
theorem s8{a:Dn}(h:Zy a):Pz a a=some true:=by
 simp[Pz,US (h.2),G]
theorem va{a:Dn}(k:qh a){left:Int}(h:0<=left∧left<=1048576):SzR left (PA a left) (Zy a) (Xc a):=by
 unfold PA
 have h0:0<=left∧left<=1048576:=h
 obtain⟨v0,e0,p0⟩:=vb h0 k.1
 rw[e0]
 rcases p0 with p0|⟨p0,q0,s0⟩
 ·simp only[G];rw[Ah p0];exact⟨-1,rfl,.inl (by omega)⟩
 simp only[G]
 rw[Af (by omega:¬v0 < 0)]
 simp only[Aa]
 have h1:0<=v0∧v0<=1048576:=by omega
 obtain⟨v1,e1,p1⟩:=fw (k.2) h1
 rw[e1]
 rcases p1 with p1|⟨p1,q1,s1⟩
 ·simp only[G];rw[Ah p1];exact⟨-1,rfl,.inl (by omega)⟩
 simp only[G]
 rw[Af (by omega:¬v1 < 0)]
 simp only[Aa]
 exact⟨v1,rfl,.inr ⟨by unfold Xc;omega,q1,s0,s1⟩⟩
def W1(a:List Dn):Prop:=List.length a<=1048576∧∀e∈a,Zy e
def bS(a:List Dn):Nat:=List.length a+fD Xc a
theorem rV{a:List Dn}(h:W1 a):Qp a=some a:=by
 unfold Qp
 rw[AN (Zp (GX h.1)),ZB (a:=a) (g:=PB) (h:=id) (λ_ _ _=>rfl) (λe he=>vg (h.2 e he)) (GX h.1)]
 simp only[G,List.map_id]
theorem oG{a:List Dn}(h:W1 a):Ql a a=some true:=by
 unfold Ql
 rw[Wk (B:=Tw a a) (a:=a) (g:=Pz) (λ_ _=>rfl) (λe he=>s8 (h.2 e he)) (GX h.1)]
 simp[G]
theorem rM{a:List Dn}(k:Aaw a){left:Int}(h:0<=left∧left<=1048576):SzR left (SZ a left) (W1 a) (bS a):=fx (B:=Tz a) (g:=PA) (λ_ _ _=>rfl) (λe he left h=>va (k.2 e he) h) h k.1
def Uv(a:Y24):Prop:=W1 a.2.1∧Lv a.2.2
def Xd(a:Y24):Nat:=bS a.2.1+U8 a.2.2
theorem rX{a:Y24}(h:Uv a):KB a=some a:=by
 unfold KB
 simp only[rV (h.1),ZA (h.2),G]<;>rfl
theorem oI{a:Y24}(h:Uv a):Qn a a=some true:=by
 simp[Qn,oG (h.1),US (h.2),G]
theorem rO{a:Y24}(k:ug a){left:Int}(h:0<=left∧left<=1048576):SzR left (Qo a left) (Uv a) (Xd a):=by
 unfold Qo
 have h0:0<=left∧left<=1048576:=h
 obtain⟨v0,e0,p0⟩:=rM (k.2.1) h0
 rw[e0]
 rcases p0 with p0|⟨p0,q0,s0⟩
 ·simp only[G];rw[Ah p0];exact⟨-1,rfl,.inl (by omega)⟩
 simp only[G]
 rw[Af (by omega:¬v0 < 0)]
 simp only[Aa]
 have h1:0<=v0∧v0<=1048576:=by omega
 obtain⟨v1,e1,p1⟩:=fw (k.2.2) h1
 rw[e1]
 rcases p1 with p1|⟨p1,q1,s1⟩
 ·simp only[G];rw[Ah p1];exact⟨-1,rfl,.inl (by omega)⟩
 simp only[G]
 rw[Af (by omega:¬v1 < 0)]
 simp only[Aa]
 exact⟨v1,rfl,.inr ⟨by unfold Xd;omega,q1,s0,s1⟩⟩
theorem gq{a:Bc}:KO a a=some true:=by
 simp[KO,G]
def Qu(a:List Bc):Prop:=List.length a<=1048576
theorem dY{a:List Bc}(h:Qu a):Mg a a=some true:=by
 unfold Mg
 rw[Wk (B:=Qa a a) (a:=a) (g:=KO) (λ_ _=>rfl) (λe he=>gq) (GX (show _ from h))]
 simp[G]
def Ot(a:Xh):Prop:=Lv a.1∧Qu a.2.1∧Lv a.2.2.1
theorem ae{a:Xh}(h:Ot a):Gq a a=some true:=by
 simp[Gq,US (h.1),dY (h.2.1),US (h.2.2),G]
theorem Zf(a:List Int):LG a<=64 * U8 a:=gc (c:=1) (λ_=>AW 1) (by decide) a
theorem oy(a:List (List Int)):sO a<=64 * bT a:=Zd (c:=0) (λx=>Zf x) (by decide) a
theorem gg(a:DY):ol a<=64 * PK a+1:=by
 have b1:=oy a.2
 unfold ol PK
 omega
theorem oz(a:Di):Z1 a<=64 * UB a+2:=by
 have b1:=gg a.2
 unfold Z1 UB
 omega
theorem mK(a:List Di):sP a<=64 * Yp a:=Zd (c:=2) (λx=>oz x) (by decide) a
theorem dU(a:List Di):YJ a<=64 * RO a+0:=by
 have b0:=mK a
 unfold YJ RO
 omega
theorem sV(a:Dn):Z0 a<=64 * Xc a+1:=by
 have b1:=Zf a.2
 unfold Z0 Xc
 omega
theorem ox(a:List Dn):oh a<=64 * bS a:=Zd (c:=1) (λx=>sV x) (by decide) a
theorem mL(a:Hv):Z9 a<=64 * Xd a+0:=by
 have b1:=ox a.2.1
 have b2:=Zf a.2.2
 unfold Z9 Xd
 omega
theorem kM{a:List Int}(h:Lv a):LG a<=1048576:=BC (kQ (C:=1048576) (B:=1) a (show _ from h) (λx hx=>(AW 1))) (by decide)
theorem fX{a:Bc}:Z2 a<=2:=by
 unfold Z2
 omega
theorem dP{a:List Bc}(h:Qu a):Xp a<=2097152:=BC (kQ (C:=1048576) (B:=2) a (show _ from h) (λx hx=>(fX))) (by decide)
theorem YI{a:Xh}(h:Ot a):Wf a<=4194304:=by
 have b0:=kM (a:=a.1) h.1
 have b1:=dP (a:=a.2.1) h.2.1
 have b2:=kM (a:=a.2.2.1) h.2.2
 unfold Wf
 omega
theorem lw{x:List Int}{k:Int}(h:Lv x)(h0:0<=k)(h1:k+(LG x:Int)<=mB):MU (Uj x k) k=some (k+(LG x:Int)):=by
 have hm:mB<=9223372036854775000:=by unfold mB;omega
 unfold MU Uj LG
 rw[cD (cnt:=YW) (mk:=YA) (B:=Mh (Zq YW YA x k)) (GX (show _ from h)) h0 h1 (λrec x y i hx hy hy2 hi hg=>?_) (λrec y=>?_)]
 ·rfl
 ·have c1:YW x=1:=rfl
  have e0:y=y:=by omega
  have em:YA x y=y:=e0
  rw[em]at hg
  have w0:IntKind.i64.wrap (y+1)=y+1:=wrap_in (by omega)
  have i0:IntKind.i64.wrap (y)=y:=wrap_in (by omega)
  have eT:y+1=y+(YW x:Int):=by omega
  simp only[Mh,Ah hi,hg,Ab,G,Ci,Ai,Aa,CR,w0,i0]
  all_goals rw[eT]
 ·simp[Mh]
theorem en{x:List Bc}{k:Int}(h:Qu x)(h0:0<=k)(h1:k+(Xp x:Int)<=mB):KA (pY x k) k=some (k+(Xp x:Int)):=by
 have hm:mB<=9223372036854775000:=by unfold mB;omega
 unfold KA pY Xp
 rw[cD (cnt:=Z2) (mk:=mX) (B:=Iw (Zq Z2 mX x k)) (GX (show _ from h)) h0 h1 (λrec x y i hx hy hy2 hi hg=>?_) (λrec y=>?_)]
 ·rfl
 ·have c71_0:Z2 x=1+1:=rfl
  have e0:y=y:=by omega
  have e1:y+((1:Nat):Int)=y+1:=by omega
  have em:mX x y=(y,y+1):=(mk2 e0 e1)
  rw[em]at hg
  have w0:IntKind.i64.wrap (y+1)=y+1:=wrap_in (by omega)
  have i0:IntKind.i64.wrap (y)=y:=wrap_in (by omega)
  have w1:IntKind.i64.wrap (y+1+1)=y+1+1:=wrap_in (by omega)
  have i1:IntKind.i64.wrap (y+1)=y+1:=wrap_in (by omega)
  have eT:y+1+1=y+(Z2 x:Int):=by omega
  simp only[Iw,Ah hi,hg,Ab,G,Ci,Ai,Aa,CR,w0,i0,w1,i1]
  all_goals rw[eT]
 ·simp[Iw]
theorem aq{x:Xh}{k:Int}(h:Ot x)(h0:0<=k)(h1:k+(Wf x:Int)<=mB):GP (mZ x k) k=some (k+(Wf x:Int)):=by
 have hc:Wf x=LG x.1+Xp x.2.1+LG x.2.2.1:=rfl
 have r0:=lw (x:=x.1) (k:=k) h.1 (by omega) (by omega)
 have u0:decide (k+((LG x.1:Nat):Int) < 0)=false:=Af (by omega)
 have r1:=en (x:=x.2.1) (k:=k+((LG x.1:Nat):Int)) h.2.1 (by omega) (by omega)
 have u1:decide (k+((LG x.1:Nat):Int)+((Xp x.2.1:Nat):Int) < 0)=false:=Af (by omega)
 have r2:=lw (x:=x.2.2.1) (k:=k+((LG x.1:Nat):Int)+((Xp x.2.1:Nat):Int)) h.2.2 (by omega) (by omega)
 have u2:decide (k+((LG x.1:Nat):Int)+((Xp x.2.1:Nat):Int)+((LG x.2.2.1:Nat):Int) < 0)=false:=Af (by omega)
 have eT:k+((LG x.1:Nat):Int)+((Xp x.2.1:Nat):Int)+((LG x.2.2.1:Nat):Int)=k+(Wf x:Int):=by omega
 simp only[GP,mZ,G,Aa,r0,u0,r1,u1,r2,u2]
 all_goals rw[eT]
theorem u4{l:List (List Int)}(h:Uu l):Kg l:=⟨GX h.1,λr hr=>GX (h.2 r hr)⟩
theorem wj{d:List Tp}(h:PE d):Ut d:=⟨GX h.1,λt ht=>⟨GX (h.2 t ht).1,u4 (h.2 t ht).2⟩⟩
abbrev Ad2:=List Int×List Rt×List Int×Int×Int
section
variable {d:List Tp}{q:MQ}{o:List Int}
def mcB(d:List Tp)(q:MQ)(o:List Int):Ad2×Bool:=cond (ljB d q o).2.2 (cond (Ks d q) (cond (bcB q (bQ d q)).2 ((o,(bcB q (bQ d q)).1,bQ d q,((ljB d q o).1.2.length:Int),(ljB d q o).2.1),true) (([],[],[],0,0),false)) (([],[],[],0,0),false)) (([],[],[],0,0),false)
theorem fy(hf:Ks d q=true):(bQ d q).length<=4:=by
 obtain⟨g1,g2,g3⟩:=VY hf
 unfold bQ
 rw[Aj];exact g3
theorem AeQ(h:Ut d)(hq:Vz q)(ho:o.length<=lim):G1 d q o=some (mcB d q o):=by
 unfold G1 mcB
 rw[AeP h hq ho]
 simp only[G]
 rw[uT h hq]
 simp only[G]
 cases(ljB d q o).2.2 with
 |false=>rfl
 |true=>
  cases hf:Ks d q with
  |false=>rfl
  |true=>
   have:=fy hf
   simp only[Ab,Ai,Aa]
   rw[AeI hq (by unfold lim;omega)]
   simp only[G]
   cases(bcB q (bQ d q)).2 with
   |false=>rfl
   |true=>
    rw[Ai,Aa,AN (by simpa using ho)]
    rfl
theorem Aeq(h:Ut d)(hq:Vz q)(ho:o.length<=lim):Fx d q o=some (mcB d q o):=by
 unfold Fx mcB
 rw[tC h hq]
 simp only[G]
 cases hf:Ks d q with
 |false=>
  rw[Aa]
  simp only
  rw[Acd hq (by simp)]
  simp only[G]
  rw[Aci h hq ho]
  simp only[G]
  cases(ljB d q o).2.2<;>rfl
 |true=>
  have:=fy hf
  rw[Ab]
  simp only
  rw[Acd hq (by unfold lim;omega)]
  simp only[G]
  rw[Aci h hq ho]
  simp only[G,Ai,Aa]
  cases(bcB q (bQ d q)).2 with
  |false=>cases(ljB d q o).2.2<;>rfl
  |true=>
   cases(ljB d q o).2.2 with
   |false=>rfl
   |true=>
    simp only[Ai,Aa,Ab]
    rw[vF ho]
end
theorem wl{q:MQ}(h:Uv q):Vz q:=⟨GX h.1.1,λa ha=>⟨GX (h.1.2 a ha).1,GX (h.1.2 a ha).2⟩,GX h.2⟩
theorem Up{d:List Tp}{q:MQ}{o:List Int}(s0:PE d)(s1:Uv q)(s2:Lv o)(k0:uh d)(k1:ug q)(k2:j5 o):∃r,G1 d q o=some r∧Fx d q o=some r∧Ot r.1:=by
 refine⟨_,AeQ (wj s0) (wl s1) (GX s2),Aeq (wj s0) (wl s1) (GX s2),?_⟩
 unfold mcB
 cases(ljB d q o).2.2 with
 |false=>exact⟨CI _,CI _,CI _⟩
 |true=>
  cases hf:Ks d q with
  |false=>exact⟨CI _,CI _,CI _⟩
  |true=>
   cases(bcB q (bQ d q)).2 with
   |false=>exact⟨CI _,CI _,CI _⟩
   |true=>
    have h1:=fy hf
    have h2:=wK q (bQ d q)
    exact⟨s2,BC h2 (by decide),BC h1 (by decide)⟩
set_option maxRecDepth 100000
theorem Vj{a0:List ID}{a1:Y24}{a2:List Int}(k0:uh a0)(k1:ug a1)(k2:j5 a2):HQ a0 a1 a2=some true:=by
 unfold HQ
 by_cases hl2:(1048576:Int) < (List.length a2:Int)
 ·rw[Ah hl2];rfl
 rw[Af hl2,Aa]
 have hn2:List.length a2<=1048576:=by omega
 obtain⟨v0,e0,p0⟩:=i4 k0 (left:=1048576) (by omega)
 rw[e0]
 rcases p0 with p0|⟨x0,p0,s0⟩
 ·simp only[G];rw[Ah p0];rfl
 simp only[G]
 rw[Af (by omega:¬v0 < 0)]
 obtain⟨v1,e1,p1⟩:=rO k1 (left:=v0) (by omega)
 rw[e1]
 rcases p1 with p1|⟨x1,p1,s1⟩
 ·simp only[G];rw[Ah p1];rfl
 simp only[G,Aa]
 rw[Af (by omega:¬v1 < 0)]
 rw[Aa]
 obtain⟨r,hs,hi,y0⟩:=Up s0 s1 (show Lv a2 from hn2) k0 k1 k2
 have b0:=dU a0
 have m0:=Vk (x:=a0) (k:=1) (by omega) (by unfold mB;omega)
 have b1:=mL a1
 have m1:=X1 (x:=a1) (k:=1+(YJ a0:Int)) (by omega) (by unfold mB;omega)
 have b2:=Zf a2
 have t2:U8 a2<=1048576:=hn2
 have m2:=YP (x:=a2) (k:=1+(YJ a0:Int)+(Z9 a1:Int)) (by omega) (by unfold mB;omega)
 have z0:¬(1+(YJ a0:Int)+(Z9 a1:Int)+(LG a2:Int) < 0):=by omega
 have c0:=YI y0
 have n0:=SX (x:=r.1) (k:=1) (by omega) (by unfold mB;omega)
 have h0:=aq (x:=r.1) (k:=1) y0 (by omega) (by unfold mB;omega)
 have u0:¬(1+(Wf r.1:Int) < 0):=by omega
 simp[G,hs,hi,i6 s0,gn s0,m0,rX s1,oI s1,m1,ZA (show Lv a2 from hn2),US (show Lv a2 from hn2),m2,z0,n0,ae y0,h0,u0]
end Go.Proofs.YtaagdgjndpgdgaaGreatDoor
