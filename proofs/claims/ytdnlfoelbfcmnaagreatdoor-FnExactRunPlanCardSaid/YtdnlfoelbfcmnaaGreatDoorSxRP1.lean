/- Projections, semi joins and natural joins: both functions of each give the same. On the printed functions; conditions: sizes. -/
import Derived.Test.YtdnlfoelbfcmnaaGreatDoorTtRP1
import Derived.Test.YtdnlfoelbfcmnaaGreatDoorNrRP1
import Derived.Test.YtdnlfoelbfcmnaaGreatDoorKe
open Go.RowKit
set_option linter.all false
namespace Go.Proofs.YtdnlfoelbfcmnaaGreatDoor
def pjG(r:Rln)(c:zI):Rln×Bool:=cond (Mr r&&(decide ((c.length:Int)<=5)&& !Bt c λ_ e=>Pi r.1 e)) (nrB (c.length:Int) (r.2.map λx=>FP x c)) ((0,[]),false)
theorem AbF{r:Rln}{c:zI}(hr:Mr r=true)(hb:Bt c (λ_ e=>Pi r.1 e)=false):∀x∈r.2,∀e∈c,0<=e∧e < (x.length:Int):=λx hx e he=>by
 have h1:=Qi hr
 have h2:=O4 hb he
 have h3:=(h1.2.2.2 x hx).1
 unfold Pi Hv at h2
 rw[wrap_in (by omega)]at h2
 simp at h2
 omega
theorem w5{r:Rln}{c:zI}(h:GN r.2)(hc:c.length<=lim):G5 r c=some (pjG r c):=by
 unfold G5 pjG
 rw[Ux (B:=Hj r c) (λk=>Hg c k λe=>Pi r.1 e) ((0,[]),false) hc (λk hk rec=>by
  rw[Hj,Bi hk,AI hk,Ac,AV,Qk,AV,Bm hk (Ba hc),BV hk];rfl) (λrec=>by rw[Hj,Bc];rfl)]
 rw[show((List.range c.length).any λk=>Hg c k λe=>Pi r.1 e)=Bt c (λ_ e=>Pi r.1 e)from rfl]
 cases hb:Bt c (λ_ e=>Pi r.1 e)with
 |true=>rw[An,Jv,Jv];rfl
 |false=>
  rw[Ab,AV]
  simp only
  rw[iZ h,AV]
  cases hr:Mr r with
  |false=>rfl
  |true=>
   rw[An,Ab,AL,CF,DG]
   by_cases h5:5 < (c.length:Int)
   ·rw[Ai h5,Af (show ¬((c.length:Int)<=5)by omega)];rfl
   ·rw[Af h5,Ai (show((c.length:Int)<=5)by omega),Ab,Ac]
    have hin:=AbF hr hb
    rw[H5 (a:=r.2) (h:=λx=>FP x c) h.1 (λk hk rec=>by
     rw[J8,Bi hk,AI hk,Bm hk (Ba h.1),Ac,AV,fw hc (hin _ (Ad hk)),AV,A1 (by have:=h.1;simp only[Aj,At,Al];omega)]) (λrec y=>by rw[J8,Bc];rfl),AV,wW ⟨by rw[Aj];exact h.1,λy hy=>by obtain⟨x,_,rfl⟩:=A5.1 hy;unfold FP;rw[Aj];exact hc⟩,AV]
theorem Aky{n:Int}{c:zI}(hc:c.length<=lim):Ga n c=some (decide ((c.length:Int)<=5)&& !Bt c λ_ e=>Pi n e):=by
 unfold Ga
 by_cases h5:5 < (c.length:Int)
 ·rw[Ai h5,Af (show ¬((c.length:Int)<=5)by omega)];rfl
 ·rw[Af h5,Ai (show((c.length:Int)<=5)by omega),Ab,DJ (n:=c.length) (λk=>Hg c k λv=>Pi n v) hc (λk hk rec=>by
   rw[Ft,Bi hk,AI hk,Bm hk (Ba hc),BV hk,Ac,AV,HT,AV];rfl) (λrec=>by rw[Ft,Bc];rfl),AV,AL]
  rw[show((List.range c.length).any λk=>Hg c k λe=>Pi n e)=Bt c (λ_ e=>Pi n e)from rfl]
  cases Bt c λ_ e=>Pi n e<;>rfl
theorem yJ{r:Rln}{c:zI}(h:GN r.2)(hc:c.length<=lim):HJ r c=some (pjG r c):=by
 unfold HJ pjG
 rw[dW h,AV]
 cases hr:Mr r with
 |false=>rfl
 |true=>
  rw[An,Ab,AL,Aky hc,AV]
  cases hb:decide ((c.length:Int)<=5)&& !Bt c (λ_ e=>Pi r.1 e)with
  |false=>rfl
  |true=>
   rw[Aa,AH]at hb
   rw[An,Ab,Ac]
   have hin:=AbF hr hb.2
   rw[H5 (a:=r.2) (h:=λx=>FP x c) h.1 (λk hk rec=>by
    rw[J2,Bi hk,AI hk,Bm hk (Ba h.1),Ac,AV,oE hc (hin _ (Ad hk)),AV,A1 (by have:=h.1;simp only[Aj,At,Al];omega)]) (λrec y=>by rw[J2,Bc];rfl),AV,AhN ⟨by rw[Aj];exact h.1,λy hy=>by obtain⟨x,_,rfl⟩:=A5.1 hy;unfold FP;rw[Aj];exact hc⟩,AV]
theorem re{r:Rln}{c:zI}(hr:Mr r=true)(hc:c.length<=5)(hi:∀e∈c,0<=e∧e < r.1):pjG r c=(((c.length:Int),sortB (r.2.map λx=>FP x c)),true)∧Mr (((c.length:Int),sortB (r.2.map λx=>FP x c)))=true:=by
 have h1:=Qi hr
 have hb:Bt c (λ_ e=>Pi r.1 e)=false:=J0 λi hi'=>by
  have:=hi _ (Ad hi')
  unfold Pi Hv
  rw[wrap_in (by omega)];simp;omega
 have hm:Hv (c.length:Int) 0 5=true:=by unfold Hv;simp;omega
 have hl:(r.2.map λx=>FP x c).length<=4000:=by rw[Aj];exact h1.2.2.1
 have hrow:∀y∈r.2.map λx=>FP x c,(y.length:Int)=(c.length:Int)∧Py y=true:=λy hy=>by
  obtain⟨x,hx,rfl⟩:=A5.1 hy
  have h2:=h1.2.2.2 x hx
  refine⟨by unfold FP;rw[Aj],jp λv hv=>?_⟩
  unfold FP at hv
  obtain⟨e,he,rfl⟩:=A5.1 hv
  have h3:=hi e he
  obtain⟨n,rfl⟩:=JV h3.1
  rw[Hi (by omega:n < x.length)]
  exact df h2.2 (by omega)
 refine⟨?_,Zq hm hl hrow⟩
 unfold pjG
 rw[hr,hb,Ai (show((c.length:Int)<=5)by omega),mN hm hl hrow];rfl
theorem QP{b:KW}(h:Tq b=true):b.1.length<=lim∧GN b.2.2∧∀s∈b.2.2,s.length=b.1.length:=by
 obtain⟨h1,h2,h3,-⟩:=FB h
 have:=Yy h1
 exact⟨by unfold lim;omega,⟨by unfold lim;omega,λr hr=>by have:=(h3 r hr).1;unfold lim;omega⟩,λs hs=>(h3 s hs).1⟩
theorem Aan{b:KW}(h:Tq b=true):Ez b=some true:=by
 obtain⟨h1,h2,-⟩:=QP h
 unfold Tq vsB Bt at h
 rw[Aa,Aa,AH]at h
 unfold Ez
 rw[DJ (λk=>Hg b.1 k λe=> !Hv e 0 4 || Fm b.1 k e) h1 (λk hk rec=>by
  unfold G4 Fy
  rw[Bi hk,AI hk,Bm hk (Ba h1),BV hk]
  simp only[Ac,AV,Qk,Fm]
  cases Hv b.1[k] 0 4 with
  |false=>rfl
  |true=>
   by_cases h0:0 < k
   ·have hk':k - 1 < b.1.length:=by omega
    rw[WT hk h0 (Ba h1),AI hk',BV hk',Ai (by omega:(0:Int) < (k:Int)),Ai h0]
    rfl
   ·rw[Af (by omega:¬(0:Int) < (k:Int)),Af h0];rfl) (λrec=>by unfold G4;rw[Bc];rfl),h.1,Ab,AV]
 simp only
 rw[iZ h2,AV,h.2.1,Ac,h.2.2];rfl
theorem yO{b:KW}(h:Tq b=true):Ew b=some true:=by
 obtain⟨h1,h2,-⟩:=QP h
 unfold Tq vsB Bt at h
 rw[Aa,Aa,AH]at h
 unfold Ew
 rw[DJ (λk=>Hg b.1 k λe=> !Hv e 0 4 || Fm b.1 k e) h1 (λk hk rec=>by
  unfold GQ Fs
  rw[Bi hk,AI hk,Bm hk (Ba h1),BV hk]
  simp only[Ac,AV,HT,Fm]
  cases Hv b.1[k] 0 4 with
  |false=>rfl
  |true=>
   by_cases h0:0 < k
   ·have hk':k - 1 < b.1.length:=by omega
    rw[WT hk h0 (Ba h1),AI hk',BV hk',Ai (by omega:(0:Int) < (k:Int)),Ai h0]
    rfl
   ·rw[Af (by omega:¬(0:Int) < (k:Int)),Af h0];rfl) (λrec=>by unfold GQ;rw[Bc];rfl),h.1,Ab,AV]
 simp only
 rw[dW h2,AV,h.2.1,Ac,h.2.2];rfl
def QT(A B:zI)(k:Nat):zI:=((List.range k).filter λi=>Hg A i B.contains).map λ(i:Nat)=>(i:Int)
def RY(A B:zI)(k:Nat):zI:=((A.take k).filter B.contains).map (CN B)
theorem jH{A B:zI}{k:Nat}(hk:k < A.length):QT A B (k+1)=QT A B k++cond (B.contains A[k]) [(k:Int)] []:=by
 unfold QT
 rw[Fb,CA,Bd,Gn,BV hk]
 cases B.contains A[k]<;>rfl
theorem AcC{A B:zI}{k:Nat}(hk:k < A.length):RY A B (k+1)=RY A B k++cond (B.contains A[k]) [CN B A[k]] []:=by
 unfold RY
 rw[U9 _ hk,Bd]
 cases B.contains A[k]<;>rfl
theorem YK(A B:zI)(k:Nat):(QT A B k).length<=k:=by
 unfold QT
 rw[Aj]
 exact BC (Ca _ _) (by rw[C9];exact AJ _)
theorem dy(A B:zI)(k:Nat):(RY A B k).length<=k:=by
 unfold RY
 rw[Aj]
 exact BC (Ca _ _) (by rw[At];omega)
def NL(A B:zI):zI:=A.filter B.contains
theorem mM{A:zI}(hA:A.Nodup){k:Nat}(hk:k < A.length):CN A A[k]=(k:Int):=by
 obtain⟨j,hj,e1,e2⟩:=Lz (Av.2 (Ad hk))
 rw[e1,(DP hA).1 e2]
theorem g9{A:zI}(hA:A.Nodup)(B r:zI):FP r (QT A B A.length)=Nf A r (NL A B):=by
 have key:∀k,k<=A.length->FP r (QT A B k)=Nf A r ((A.take k).filter B.contains):=by
  intro k
  induction k with
  |zero=>intro _;simp[QT,FP,Nf]
  |succ k ih=>
   intro hk
   have hk':k < A.length:=hk
   rw[jH hk',U9 _ hk']
   unfold FP Nf at ih⊢
   rw[Bd,Bd,ih (by omega)]
   cases B.contains A[k]with
   |true=>simp only[Ac,AM,CZ];rw[mM hA hk']
   |false=>rfl
 have:=key A.length (AJ _)
 rwa [AT]at this
theorem hM(A B s:zI):FP s (RY A B A.length)=Nf B s (NL A B):=by
 unfold RY FP Nf NL
 rw[AT,EU];rfl
theorem uo{A B:zI}(k:Nat):∀e∈RY A B k,0<=e∧e < (B.length:Int):=λe he=>by
 unfold RY at he
 obtain⟨v,hv,rfl⟩:=A5.1 he
 obtain⟨j,hj,e1,-⟩:=Lz (Bj.1 hv).2
 rw[e1];omega
theorem pY{A B:zI}{k:Nat}(hk:k<=A.length):∀e∈QT A B k,0<=e∧e < (A.length:Int):=λe he=>by
 unfold QT at he
 obtain⟨i,hi,rfl⟩:=A5.1 he
 have:=AB.1 (Bj.1 hi).1
 omega
theorem wS{a b:KW}(ha:a.1.length<=lim)(hb:b.1.length<=lim):Qu a b=some (QT a.1 b.1 a.1.length,RY a.1 b.1 a.1.length):=by
 have key:=CD (body:=Mw a b) (out:=(QT a.1 b.1 a.1.length,RY a.1 b.1 a.1.length)) (λk=>(QT a.1 b.1 k,RY a.1 b.1 k,(k:Int))) a.1.length (λk hk rec=>by
  have h1:=YK a.1 b.1 k
  have h2:=dy a.1 b.1 k
  unfold Mw OW
  simp only
  rw[Bi hk,Ac,AI hk,AV,Ot hb,AV,HB,Bm hk (Ba ha),jH hk,AcC hk]
  cases b.1.contains a.1[k]with
  |true=>rw[Ac,A1 (by rw[Al];omega),A1 (by rw[Al];omega)];rfl
  |false=>rw[Ab,Ab,Ab,AR,AR]) (λrec=>by
  unfold Mw
  simp only
  rw[Bc,Ab]) fz (DN ha)
 unfold Qu
 rw[show((([]:zI),([]:zI),(0:Int)))=(QT a.1 b.1 0,RY a.1 b.1 0,((0:Nat):Int))from by simp[QT,RY],key]
 rfl
theorem gR{A B r s:zI}(hA:vsB A=true)(hB:vsB B=true):JA A r B s (EX A B)=(Nf A r (NL A B)==Nf B s (NL A B)):=by
 rw[BX,BG]
 unfold JA Nf NL
 rw[Am,List.map_inj_left]
 constructor
 ·intro h v hv
  obtain⟨h1,h2⟩:=Bj.1 hv
  have:=h v ((T8 hA hB v).2 (.inl h1))
  rw[Av.2 h1,h2]at this
  simpa using this
 ·intro h v hv
  cases c1:A.contains v with
  |false=>rfl
  |true=>
   cases c2:B.contains v with
   |false=>rfl
   |true=>rw[h v (Bj.2 ⟨Av.1 c1,c2⟩)];simp
theorem AaL(a b:zI)(ha:vsB a=true)(hb:vsB b=true):EH 100 (gc (λv=>a.contains (v:Int)) b)=EX a b:=by
 refine lt_eq (cm _ _) (cm _ _) λx=>?_
 rw[T8 ha hb,co]
 unfold gc
 constructor
 ·rintro⟨v,_,h,rfl⟩
  rw[Ck]at h
  exact h.imp Av.1 Av.1
 ·intro h
  have h0:0<=x∧x<=4:=h.elim ((jf ha).2 x) ((jf hb).2 x)
  refine⟨x.toNat,by omega,?_,by omega⟩
  show(a.contains ((x.toNat:Nat):Int) || b.contains ((x.toNat:Nat):Int))=true
  rw[show((x.toNat:Nat):Int)=x by omega,Ck]
  exact h.imp Av.2 Av.2
theorem Abg{a b:zI}(ha:vsB a=true)(hb:vsB b=true):Q5 a b=some (EX a b):=by
 have hl:=Yy hb
 have h2:=(jf hb).2
 have:=yN (S:=λv=>a.contains (v:Int)) (a1:=b) (by unfold lim;omega) (λx hx=>by have:=h2 x hx;omega)
 rw[<-px ha (by omega),AaL a b ha hb]at this
 exact this
theorem AjN{a b:zI}(ha:a.length<=lim)(hb:b.length<=lim):Sw a b=some (EX a b):=by
 have key:=CD (body:=J9 a b) (out:=EX a b) (λk=>(EH k (λv=>a.contains (v:Int) || b.contains (v:Int)),(k:Int))) 5 (λk hk rec=>by
  have hl:=V6 k (λv=>a.contains (v:Int) || b.contains (v:Int))
  unfold J9 OX OY
  simp only
  rw[Ai (by omega:(k:Int) < 5),Ac,Ot ha,AV,HB,wrap_in (by omega),tN]
  cases a.contains (k:Int)with
  |true=>rw[Ac,Ac,A1 (by unfold lim;rw[Al];omega)];rfl
  |false=>
   rw[Ab,Ot hb,AV,HB]
   cases b.contains (k:Int)with
   |true=>rw[Ac,A1 (by unfold lim;rw[Al];omega)];rfl
   |false=>simp) (λrec=>by unfold J9;simp only;rfl) fz (by unfold fz;omega)
 unfold Sw
 rw[show((([]:zI),(0:Int)))=(EH 0 (λv=>a.contains (v:Int) || b.contains (v:Int)),((0:Nat):Int))from rfl,key]
 rfl
section
variable {a b:KW}(ha:Tq a=true)(hb:Tq b=true)
include ha hb
theorem yY(r:Row):(sortB (b.2.2.map λs=>FP s (RY a.1 b.1 a.1.length))).contains (FP r (QT a.1 b.1 a.1.length))=kP a.1 b r:=by
 obtain⟨a1,-⟩:=FB ha
 obtain⟨b1,-⟩:=FB hb
 rw[BX,Av,Mt,A5]
 unfold kP
 rw[Cx]
 refine exists_congr λs=>and_congr_right λ_=>?_
 rw[gR a1 b1,BG,hM,g9 (je a1)]
 exact eq_comm
theorem AfV:ML a b=some (YB a b,true):=by
 obtain⟨a1,a2,a3,a4,a5⟩:=FB ha
 obtain⟨b1,b2,b3,b4,b5⟩:=FB hb
 obtain⟨a6,a7,a8⟩:=QP ha
 obtain⟨b6,b7,b8⟩:=QP hb
 have al:=Yy a1
 have bl:=Yy b1
 have hyl:=dy a.1 b.1 a.1.length
 have hxl:=YK a.1 b.1 a.1.length
 have hr:Mr b.2=true:=by
  unfold Tq at hb
  rw[Aa,Aa]at hb
  exact hb.2.1
 obtain⟨p1,p2⟩:=re (r:=b.2) (c:=RY a.1 b.1 a.1.length) hr (by omega) (λe he=>by have:=uo _ e he;omega)
 have hsm:GN (sortB (b.2.2.map λs=>FP s (RY a.1 b.1 a.1.length))):=ZA ⟨by rw[Aj];exact b7.1,λy hy=>by obtain⟨x,_,rfl⟩:=A5.1 hy;unfold FP;rw[Aj];unfold lim;omega⟩
 unfold ML
 rw[Aan ha,AV,An,Ab,Aan hb,AV,An,Ab,wS a6 b6,AV]
 simp only
 rw[w5 b7 (by unfold lim;omega),AV,p1,A1 (by simpa using a6)]
 have key:=CD (body:=LE a (QT a.1 b.1 a.1.length,RY a.1 b.1 a.1.length) ((((RY a.1 b.1 a.1.length).length:Int),sortB (b.2.2.map λs=>FP s (RY a.1 b.1 a.1.length))),true)) (out:=a.2.2.filter (kP a.1 b)) (λk=>((a.2.2.take k).filter (kP a.1 b),(k:Int))) a.2.2.length (λk hk rec=>by
  have hl:((a.2.2.take k).filter (kP a.1 b)).length<=k:=BC (Ca _ _) (by rw[At];omega)
  obtain⟨z,hz⟩:=Aak (r:=(((RY a.1 b.1 a.1.length).length:Int),sortB (b.2.2.map λs=>FP s (RY a.1 b.1 a.1.length)))) (row:=FP a.2.2[k] (QT a.1 b.1 a.1.length)) (Qn _) hsm
  have hlen:(a.2.2[k]).length<=lim:=a7.2 _ (Ad hk)
  unfold LE N4
  simp only
  rw[Bi hk,Ac,AI hk,AV,fw (by unfold lim;omega) (λc hc=>by have:=pY (AJ _) c hc;have:=a8 _ (Ad hk);omega),AV,hz,AV]
  simp only
  rw[yY ha hb,U9 _ hk,Bm hk (Ba a7.1)]
  cases kP a.1 b a.2.2[k]with
  |true=>
   rw[Ac,AV,A1 (by simpa using hlen),A1 (by rw[Al];unfold lim;omega)];rfl
  |false=>rw[Ab,Ab,AR]) (λrec=>by
  unfold LE
  simp only
  rw[Bc,Ab,AT]) fz (DN a7.1)
 rw[show((([]:List zI),(0:Int)))=((a.2.2.take 0).filter (kP a.1 b),((0:Nat):Int))from by simp,key]
 rfl
theorem Ade:MC a b=some (YB a b,true):=by
 obtain⟨a1,a2,a3,a4,a5⟩:=FB ha
 obtain⟨b1,b2,b3,b4,b5⟩:=FB hb
 obtain⟨a6,a7,a8⟩:=QP ha
 obtain⟨b6,b7,b8⟩:=QP hb
 have hu:=ZH a.1 b.1
 unfold MC
 rw[yO ha,AV,An,Ab,yO hb,AV,An,Ab,cE a6,AV,Abg a1 b1,AV]
 have inner:∀(y:List zI) (r:Row),y.length+1<=lim->r.length=a.1.length->Ap (Jt a b (EX a.1 b.1) y r) fz 0=some (cond (kP a.1 b r) (y++[r]) y):=λy r hy hr=>by
  obtain⟨o,e,ho⟩:=GV (B:=Jt a b (EX a.1 b.1) y r) (λst=>∃k:Nat,st=(k:Int)∧k<=b.2.2.length∧∀j (hj:j < b.2.2.length),j < k->JA a.1 r b.1 b.2.2[j] (EX a.1 b.1)=false) (λst=>b.2.2.length - st.toNat) (λo=>o=cond (kP a.1 b r) (y++[r]) y) (λst hst=>by
   obtain⟨k,rfl,hk,hno⟩:=hst
   by_cases hlt:k < b.2.2.length
   ·have hg:=u5 (u:=EX a.1 b.1) (a:=a.1) (r:=r) (b:=b.1) (s:=b.2.2[k]) (by unfold lim;omega) a6 b6 hr (b8 _ (Ad hlt)) (λv hv=>((T8 a1 b1 v).1 hv).imp Av.2 Av.2)
    cases hag:JA a.1 r b.1 b.2.2[k] (EX a.1 b.1)with
    |true=>
     left
     refine⟨_,rfl,λrec=>?_⟩
     have hs:kP a.1 b r=true:=Cx.2 ⟨_,Ad hlt,hag⟩
     rw[hs]
     unfold Jt
     rw[Bi hlt,Ac,AI hlt,AV,hg,AV,hag,Ac,Ac,cE (by omega),AV,A1 (by rw[Al];omega)];rfl
    |false=>
     right
     refine⟨((k+1:Nat):Int),⟨k+1,rfl,hlt,λj hj hjk=>?_⟩,by simp only[Aq];omega,λrec=>?_⟩
     ·by_cases e:j=k
      ·subst e;exact hag
      ·exact hno j hj (by omega)
     ·unfold Jt
      rw[Bi hlt,Ac,AI hlt,AV,hg,AV,hag,Ab,Ab,Bm hlt (Ba b7.1)]
   ·left
    have hk:k=b.2.2.length:=by omega
    refine⟨_,rfl,λrec=>?_⟩
    have hs:kP a.1 b r=false:=by
     unfold kP
     rw[Cz]
     intro s hs
     obtain⟨j,hj,rfl⟩:=AY.1 hs
     rw[hno j hj (by omega)];simp
    rw[hs,hk]
    unfold Jt
    rw[Bc];rfl) fz 0 ⟨0,rfl,Cd _,λj _ hj=>by omega⟩ (by unfold fz;omega)
  rw[e,ho]
 have key:=CD (body:=NR a b (EX a.1 b.1)) (out:=a.2.2.filter (kP a.1 b)) (λk=>((a.2.2.take k).filter (kP a.1 b),(k:Int))) a.2.2.length (λk hk rec=>by
  have hl:((a.2.2.take k).filter (kP a.1 b)).length<=k:=BC (Ca _ _) (by rw[At];omega)
  unfold NR
  simp only
  rw[Bi hk,Ac,AI hk,AV,inner _ _ (by unfold lim;omega) (a8 _ (Ad hk)),AV,U9 _ hk,Bm hk (Ba a7.1)]
  cases kP a.1 b a.2.2[k]with
  |true=>rfl
  |false=>rw[Ab,Ab,AR]) (λrec=>by
  unfold NR
  simp only
  rw[Bc,Ab,AT]) fz (DN a7.1)
 rw[show((([]:List zI),(0:Int)))=((a.2.2.take 0).filter (kP a.1 b),((0:Nat):Int))from by simp,key]
 rfl
theorem AfT{i k:Nat}(hi:i < a.2.2.length)(hk:k < b.2.2.length):Ap (He a b (EX a.1 b.1) (i:Int) (k:Int)) fz (([]:zI),0)=some (PF a.1 a.2.2[i] b.1 b.2.2[k] (EX a.1 b.1)):=by
 obtain⟨a1,-⟩:=FB ha
 obtain⟨b1,-⟩:=FB hb
 obtain⟨a6,a7,a8⟩:=QP ha
 obtain⟨b6,b7,b8⟩:=QP hb
 have hu:=ZH a.1 b.1
 have:=H5 (a:=EX a.1 b.1) (h:=TM a.1 a.2.2[i] b.1 b.2.2[k]) (B:=He a b (EX a.1 b.1) (i:Int) (k:Int)) (by unfold lim;omega) (λj hj rec=>by
  unfold He Lb
  simp only
  rw[Bi hj,Ac,AI hj,AV,Ot a6,AV,Bm hj (by unfold maxLen;omega)]
  have hc:∀x:Int,(((EX a.1 b.1).take j).map (TM a.1 a.2.2[i] b.1 b.2.2[k])).length+[x].length<=lim:=λx=>by simp only[Aj,At,Al];unfold lim;omega
  cases ca:a.1.contains (EX a.1 b.1)[j]with
  |true=>
   obtain⟨e1,e2⟩:=Td ca (a8 _ (Ad hi))
   rw[e1,Ac,AI hi,AV,e2,AV,A1 (hc _)]
   unfold TM
   rw[Aw ca]
  |false=>
   have cb:b.1.contains (EX a.1 b.1)[j]=true:=by
    rcases(T8 a1 b1 _).1 (Ad hj)with h|h
    ·rw[Av.2 h]at ca;cases ca
    ·exact Av.2 h
   obtain⟨e1,e2⟩:=Td cb (b8 _ (Ad hk))
   rw[HB,ca,Ab,AI hk,AV,AV,Ot b6,AV,e2,AV,A1 (hc _)]
   unfold TM
   rw[Ay (by rw[ca];simp)]) (λrec y=>by unfold He;simp only;rw[Bc];rfl)
 exact this
theorem zu(k:Nat):((a.2.2.take k).flatMap (cC a.1 b.1 (EX a.1 b.1) b.2.2)).length<=(a.2.2.take k).length * 4000:=by
 obtain⟨b1,b2,-⟩:=FB hb
 generalize a.2.2.take k=l
 induction l with
 |nil=>simp
 |cons r l ih=>
  have h1:=YV a.1 b.1 (EX a.1 b.1) r b.2.2 b.2.2.length
  rw[AT]at h1
  rw[Ax,Au,AD]
  unfold cC at ih⊢
  omega
theorem AjH:GH a b=some (cond (OA a b) (([],(0,[])),false) (kj a b,true)):=by
 obtain⟨a1,a2,a3,a4,a5⟩:=FB ha
 obtain⟨b1,b2,b3,b4,b5⟩:=FB hb
 obtain⟨a6,a7,a8⟩:=QP ha
 obtain⟨b6,b7,b8⟩:=QP hb
 have hu:=ZH a.1 b.1
 have al:=Yy a1
 have hyl:=dy a.1 b.1 a.1.length
 have hxl:=YK a.1 b.1 a.1.length
 unfold GH
 rw[Aan ha,AV,An,Ab,Aan hb,AV,An,Ab,wS a6 b6,AV,AjN a6 b6,AV]
 have inner:∀(i:Nat) (hi:i < a.2.2.length) (y:List zI),y.length+4000<=lim->Ap (Hd a b (QT a.1 b.1 a.1.length,RY a.1 b.1 a.1.length) (EX a.1 b.1) (i:Int)) fz (y,0)=some (y++cC a.1 b.1 (EX a.1 b.1) b.2.2 a.2.2[i]):=λi hi y hy=>by
  have:=CD (body:=Hd a b (QT a.1 b.1 a.1.length,RY a.1 b.1 a.1.length) (EX a.1 b.1) (i:Int)) (out:=y++cC a.1 b.1 (EX a.1 b.1) b.2.2 a.2.2[i]) (λk=>(y++(b.2.2.take k).flatMap (gl1 a.1 b.1 (EX a.1 b.1) a.2.2[i]),(k:Int))) b.2.2.length (λk hk rec=>by
   have h1:=YV a.1 b.1 (EX a.1 b.1) a.2.2[i] b.2.2 k
   have hgl:gl1 a.1 b.1 (EX a.1 b.1) a.2.2[i] b.2.2[k]=cond (JA a.1 a.2.2[i] b.1 b.2.2[k] (EX a.1 b.1)) [PF a.1 a.2.2[i] b.1 b.2.2[k] (EX a.1 b.1)] []:=rfl
   have hpy:(FP a.2.2[i] (QT a.1 b.1 a.1.length)).length<=lim:=by unfold FP;rw[Aj];unfold lim;omega
   simp only[Hd,La]
   rw[Bi hk,Ac,AI hi,AV,fw (by unfold lim;omega) (λc hc=>by have:=pY (AJ _) c hc;have:=a8 _ (Ad hi);omega),AV,AI hk,AV,fw (by unfold lim;omega) (λc hc=>by have:=uo _ c hc;have:=b8 _ (Ad hk);omega),AV,WD hpy,AV,Vc _ hk,<-Bk,Bm hk (Ba b7.1),hgl,gR a1 b1,hM,g9 (je a1)]
   by_cases hag:Nf a.1 a.2.2[i] (NL a.1 b.1)=Nf b.1 b.2.2[k] (NL a.1 b.1)
   ·rw[hag,SJ,Dj]
    rw[show((0:Int)!=0)=false from rfl,Ab,AfT ha hb hi hk,AV,A1 (by simp only[Au,Al];omega),Ac]
   ·rw[show(Eh (Nf a.1 a.2.2[i] (NL a.1 b.1)) (Nf b.1 b.2.2[k] (NL a.1 b.1))!=0)=true from G1.2 λe=>hag (RA e),Cg.2 hag,Ac,Ab,AR]) (λrec=>by
   simp only[Hd]
   rw[Bc,Ab,AT];rfl) fz (DN b7.1)
  simpa using this
 have key:=CD (body:=K9 a b (QT a.1 b.1 a.1.length,RY a.1 b.1 a.1.length) (EX a.1 b.1)) (out:=kh a b) (λk=>((a.2.2.take k).flatMap (cC a.1 b.1 (EX a.1 b.1) b.2.2),(k:Int))) a.2.2.length (λk hk rec=>by
  have h1:=zu ha hb k
  rw[At]at h1
  simp only[K9]
  rw[Bi hk,Ac,inner k hk _ (by unfold lim;omega),AV,Bm hk (Ba a7.1),Vc _ hk]) (λrec=>by
  simp only[K9]
  rw[Bc,Ab,AT];rfl) fz (DN a7.1)
 have hsm:GN (kh a b):=⟨by have:=v7 ha hb;unfold lim;omega,λr hr=>by have:=(eP ha hb hr).1;unfold lim;omega⟩
 rw[show((([]:List zI),(0:Int)))=((a.2.2.take 0).flatMap (cC a.1 b.1 (EX a.1 b.1) b.2.2),((0:Nat):Int))from by simp,key,AV,wW hsm,AV,Ajk ha hb]
 cases OA a b<;>rfl
theorem AhM:Gu a b=some (cond (OA a b) (([],(0,[])),false) (kj a b,true)):=by
 obtain⟨a1,a2,a3,a4,a5⟩:=FB ha
 obtain⟨b1,b2,b3,b4,b5⟩:=FB hb
 obtain⟨a6,a7,a8⟩:=QP ha
 obtain⟨b6,b7,b8⟩:=QP hb
 have hu:=ZH a.1 b.1
 unfold Gu
 rw[yO ha,AV,An,Ab,yO hb,AV,An,Ab,Abg a1 b1,AV]
 have inner:∀(r:Row) (y:List zI),y.length+4000<=lim->r.length=a.1.length->Ap (G9 a b (EX a.1 b.1) r) fz (y,0)=some (y++cC a.1 b.1 (EX a.1 b.1) b.2.2 r):=λr y hy hr=>by
  have:=CD (body:=G9 a b (EX a.1 b.1) r) (out:=y++cC a.1 b.1 (EX a.1 b.1) b.2.2 r) (λk=>(y++(b.2.2.take k).flatMap (gl1 a.1 b.1 (EX a.1 b.1) r),(k:Int))) b.2.2.length (λk hk rec=>by
   have h1:=YV a.1 b.1 (EX a.1 b.1) r b.2.2 k
   have hgl:gl1 a.1 b.1 (EX a.1 b.1) r b.2.2[k]=cond (JA a.1 r b.1 b.2.2[k] (EX a.1 b.1)) [PF a.1 r b.1 b.2.2[k] (EX a.1 b.1)] []:=rfl
   simp only[G9,K2]
   rw[Bi hk,Ac,AI hk,AV,u5 (by unfold lim;omega) a6 b6 hr (b8 _ (Ad hk)) (λv hv=>((T8 a1 b1 v).1 hv).imp Av.2 Av.2),AV,Vc _ hk,<-Bk,Bm hk (Ba b7.1),hgl]
   cases JA a.1 r b.1 b.2.2[k] (EX a.1 b.1)with
   |true=>rw[Ac,Ac,A1 (by simp only[Au,Al];omega),Ac]
   |false=>rw[Ab,Ab,Ab,AR]) (λrec=>by
   simp only[G9]
   rw[Bc,Ab,AT];rfl) fz (DN b7.1)
  simpa using this
 obtain⟨o,e,ho⟩:=GV (B:=IU a b (EX a.1 b.1)) (λst=>∃k:Nat,st=((a.2.2.take k).flatMap (cC a.1 b.1 (EX a.1 b.1) b.2.2),(k:Int))∧k<=a.2.2.length∧((a.2.2.take k).flatMap (cC a.1 b.1 (EX a.1 b.1) b.2.2)).length<=4000) (λst=>a.2.2.length - st.2.toNat) (λo=>o=cond (OA a b) (.inr (([],(0,[])),false)) (.inl (kh a b))) (λst hst=>by
  obtain⟨k,rfl,hk,h4⟩:=hst
  by_cases hlt:k < a.2.2.length
  ·have hstep:∀rec,IU a b (EX a.1 b.1) rec ((a.2.2.take k).flatMap (cC a.1 b.1 (EX a.1 b.1) b.2.2),(k:Int))=cond (decide (4000 < (((a.2.2.take (k+1)).flatMap (cC a.1 b.1 (EX a.1 b.1) b.2.2)).length:Int))) (some (.inr (([],(0,[])),false))) (rec ((a.2.2.take (k+1)).flatMap (cC a.1 b.1 (EX a.1 b.1) b.2.2),((k+1:Nat):Int))):=λrec=>by
    simp only[IU]
    rw[Bi hlt,Ac,AI hlt,AV,inner _ _ (by unfold lim;omega) (a8 _ (Ad hlt)),AV,Bm hlt (Ba a7.1),Vc _ hlt]
   by_cases h5:4000 < (((a.2.2.take (k+1)).flatMap (cC a.1 b.1 (EX a.1 b.1) b.2.2)).length:Int)
   ·left
    refine⟨_,rfl,λrec=>?_⟩
    have hbig:OA a b=true:=by
     unfold OA kh
     rw[Bf]
     have e9:a.2.2.flatMap (cC a.1 b.1 (EX a.1 b.1) b.2.2)=(a.2.2.take (k+1)).flatMap (cC a.1 b.1 (EX a.1 b.1) b.2.2)++(a.2.2.drop (k+1)).flatMap (cC a.1 b.1 (EX a.1 b.1) b.2.2):=by rw[<-CK,Bv]
     rw[e9,Au];omega
    rw[hstep,Ai h5,hbig];rfl
   ·right
    refine⟨_,⟨k+1,rfl,hlt,by omega⟩,by simp only[Aq];omega,λrec=>?_⟩
    rw[hstep,Af h5];rfl
  ·left
   have hk:k=a.2.2.length:=by omega
   refine⟨_,rfl,λrec=>?_⟩
   rw[hk,AT]at h4⊢
   have hbig:OA a b=false:=by unfold OA kh;rw[CV];omega
   simp only[IU]
   rw[Bc,hbig];rfl) fz (([]:List zI),0) ⟨0,by simp,Cd _,by simp⟩ (by unfold fz;simp only;omega)
 have hsm:GN (kh a b):=⟨by have:=v7 ha hb;unfold lim;omega,λr hr=>by have:=(eP ha hb hr).1;unfold lim;omega⟩
 rw[e,ho,AV]
 cases OA a b with
 |true=>rfl
 |false=>
  simp only[Ab]
  rw[oK hsm,AV];rfl
end
def Fc(n:Nat)(f:Nat->KW):List KW:=(List.range n).map f
theorem O1(n:Nat)(f:Nat->KW):(Fc n f).length=n:=by unfold Fc;rw[Aj,C9]
theorem HR{n:Nat}{f:Nat->KW}{i:Nat}(h:i < n):AN (Fc n f) (i:Int)=some (f i):=by
 rw[AI (by rw[O1];exact h)]
 unfold Fc
 rw[BL,Fw]
theorem pq{n:Nat}{f:Nat->KW}{i:Nat}(h:i < (Fc n f).length):(Fc n f)[i]=f i:=by simp[Fc]
theorem T4{n:Nat}{f:Nat->KW}{i:Nat}{v:KW}:En (Fc n f) (i:Int) v=Fc n (QH f i v):=by
 unfold En
 rw[Aq]
 refine Di (by rw[Ch,O1,O1]) λt h1 h2=>?_
 rw[DQ,pq,pq]
 unfold QH
 by_cases e:i=t
 ·subst e;simp
 ·rw[Ay e,Ay λh=>e h.symm]
theorem QB{n:Nat}{f g:Nat->KW}(h:∀i,i < n->f i=g i):Fc n f=Fc n g:=Cf λi hi=>h i (AB.1 hi)
theorem xr(l:List KW):l=Fc l.length λi=>l.getD i ([],0,[]):=by
 refine Di (O1 _ _).symm λt h1 h2=>?_
 rw[pq,AO,Ae h1];rfl
theorem ld{α:Type}(f:Nat->α)(i:Nat)(v:α):QH f i v i=v:=Aw rfl
theorem rL{α:Type}(f:Nat->α){i j:Nat}(v:α)(h:j≠i):QH f i v j=f j:=Ay h
theorem RW{p:zI}{x j:Nat}(hx:x < p.length)(h:Pp p x=some j):AN p (x:Int)=some (j:Int):=by
 rw[AI hx]
 have:=xD (p:=p) (k:=j) hx
 rw[h,Dj]at this
 rw[eq_of_beq this.symm]
theorem jc{p:zI}{x:Nat}(hx:x < p.length)(h:Pp p x=none):AN p (x:Int)=some p[x]∧p[x] < 0:=by
 refine⟨AI hx,?_⟩
 unfold Pp at h
 rw[ja hx]at h
 split at h
 ·cases h
 ·omega
theorem Tp{α:Type}{l:List α}{k:Nat}(h:k < l.length):l.take (k+1)=l.take k++[l[k]]:=by rw[I0,Ae h];rfl
theorem kQ:∀(l:List KW) (a:KW),l.foldl YB a=(a.1,(a.2.1,a.2.2.filter λr=>l.all λb=>kP a.1 b r))
 |[],a=>by
  obtain⟨v,m,R⟩:=a
  simp only[Hy,Fu]
  rw[List.filter_eq_self.2 λ_ _=>rfl]
 |b::l,a=>by
  rw[CL,kQ l]
  unfold YB
  simp only[List.filter_filter,By]
  congr 3
  funext r
  rw[Bool.and_comm]
theorem rz{l l':List KW}(a:KW)(h:∀b,b∈l↔b∈l'):l.foldl YB a=l'.foldl YB a:=by
 rw[kQ,kQ]
 congr 3
 funext r
 rw[BX,Am,Am]
 exact⟨λg b hb=>g b ((h b).2 hb),λg b hb=>g b ((h b).1 hb)⟩
theorem cA:∀(l:List KW) (a:KW),Tq a=true->(∀b∈l,Tq b=true)->Tq (l.foldl YB a)=true
 |[],a,ha,_=>ha
 |b::l,a,ha,h=>cA l _ (AbS ha (h b BH)) λc hc=>h c (A3 _ hc)
section
variable {n r:Nat}{up:Nat->Option Nat}{K:Nat->zN}{D:Nat->Nat}
theorem Akq{α:Type}{op:α->α->α}{B N:Nat->α}{pre:zN}{x:Nat}(e:up x=none):gE up op B N (pre++[x])=gE up op B N pre:=by
 funext i
 unfold gE
 rw[CA,FO (by unfold uX;rw[e];simp),EE,AR]
variable (h:TrN n r up K D)
include h
theorem VI{B:Nat->KW}(hB:∀i,i < n->Tq (B i)=true):∀m k,k < n->Tq (NN K YB B m k)=true
 |0,k,hk=>hB k hk
 |m+1,k,hk=>by
  rw[NN]
  refine cA _ _ (hB k hk) λb hb=>?_
  obtain⟨c,hc,rfl⟩:=A5.1 hb
  exact VI hB m c (QL h hc).1
theorem uU{B:Nat->KW}(hB:∀i,i < n->Tq (B i)=true){pre:zN}(hpre:∀x∈pre,x < n){i:Nat}(hi:i < n):Tq (gE up YB B (NN K YB B n) pre i)=true:=by
 unfold gE
 refine cA _ _ (hB i hi) λb hb=>?_
 obtain⟨c,hc,rfl⟩:=A5.1 hb
 exact VI h hB n c (hpre c (Bj.1 hc).1)
theorem pB{S:Nat->KW}(hS:∀i,i < n->Tq (S i)=true):∀m k,k < n->Tq (TT up YB S m k)=true
 |0,k,hk=>hS k hk
 |m+1,k,hk=>by
  rw[TT]
  cases e:up k with
  |none=>exact hS k hk
  |some j=>exact AbS (hS k hk) (pB hS m j (ZI h hk e).1)
theorem uT{α:Type}{op:α->α->α}{B:Nat->α}{k:Nat}(hk:k < (Jx K n r).length):gE up op B (NN K op B n) ((Jx K n r).take k) (Jx K n r)[k]=NN K op B n (Jx K n r)[k]:=by
 obtain⟨h1,h2,h3,h4⟩:=NB h (AJ n)
 unfold gE
 rw[h3 k hk,UZ h ((h1 _).1 (Ad hk))]
theorem AfI:∃s,Jx K n r=s++[r]:=by
 have:=h.rn
 cases n with
 |zero=>omega
 |succ m=>exact⟨_,rfl⟩
theorem Zl:∃hl:(Jx K n r).length - 1 < (Jx K n r).length,(Jx K n r)[(Jx K n r).length - 1]=r:=by
 obtain⟨s,e⟩:=AfI h
 refine⟨by rw[e];simp,?_⟩
 simp only[e,Au,Al,Nw]
 rw[E9 (by omega)]
 simp
theorem zV{k:Nat}(hk:k+1 < (Jx K n r).length):(Jx K n r)[k]'(by omega)≠r:=λe=>by
 obtain⟨hl,e2⟩:=Zl h
 obtain⟨h1,h2,-⟩:=NB h (AJ n)
 have:=(DP h2).1 (e.trans e2.symm)
 omega
theorem kA{k:Nat}(hk:k+1 < (Jx K n r).length):∃j,up ((Jx K n r)[k]'(by omega))=some j∧j < n:=by
 obtain⟨h1,h2,-⟩:=NB h (AJ n)
 obtain⟨j,e,hj,_⟩:=h.upD _ ((h1 _).1 (Ad (by omega:k < (Jx K n r).length))) (zV h hk)
 exact⟨j,e,hj⟩
theorem ox{α:Type}{op:α->α->α}{B:Nat->α}{i:Nat}(hi:i < n):gE up op B (NN K op B n) ((Jx K n r).take ((Jx K n r).length - 1)) i=NN K op B n i:=by
 obtain⟨h1,h2,h3,h4⟩:=NB h (AJ n)
 obtain⟨hl,e2⟩:=Zl h
 have e:Jx K n r=(Jx K n r).take ((Jx K n r).length - 1)++[r]:=by
  have e3:=Tp hl
  rw[e2,show(Jx K n r).length - 1+1=(Jx K n r).length by omega,AT]at e3
  exact e3
 have h5:=h4 i hi
 rw[e,CA,FO (by unfold uX;rw[h.root];simp),EE,AR]at h5
 unfold gE
 rw[h5,UZ h hi]
theorem AaY{O:zN}(b:BfI n r K O O.length){t:Nat}(ht:t < O.reverse.length)(c:Nat):c∈(O.reverse.take t).filter (uX up O.reverse[t])↔c∈K O.reverse[t]:=by
 have hr:∀(i:Nat) (hi:i < O.reverse.length),O.reverse[i]=O[O.length - 1 - i]'(by rw[C4]at hi;omega):=λi hi=>Mc hi
 rw[Bj]
 constructor
 ·rintro⟨h1,h2⟩
  unfold uX at h2
  exact(h.kid _ _).2 ⟨b.lt _ (HA.1 (CB h1)),eq_of_beq h2⟩
 ·intro hc
  refine⟨?_,by unfold uX;rw[((h.kid _ _).1 hc).2];simp⟩
  rw[C4]at ht
  rw[hr t (by rw[C4];exact ht)]at hc
  obtain⟨i,hi,h1,h2⟩:=Acn b _ hc
  rw[Fa]
  refine⟨O.length - 1 - i,by rw[C4];omega,?_⟩
  rw[hr _ (by rw[C4];omega),<-h2]
  congr 1;omega
theorem pG{O:zN}(b:BfI n r K O O.length){t:Nat}(ht:t < O.reverse.length):O.reverse[t] < n:=b.lt _ (HA.1 (Ad ht))
theorem ZY{O:zN}(b:BfI n r K O O.length){t:Nat}(ht:t < O.reverse.length):O.reverse[t]∉O.reverse.take t:=λhm=>by
 obtain⟨i,hi,e⟩:=Fa.1 hm
 have:=(DP (List.pairwise_reverse.2 (b.nd.imp λh e=>h e.symm):O.reverse.Nodup)).1 e
 omega
theorem W2{O:zN}(b:BfI n r K O O.length){t:Nat}(ht:t < O.reverse.length){c:Nat}(hc:c∈K O.reverse[t]):c∈O.reverse.take t∧c≠O.reverse[t]:=by
 have h1:=(Bj.1 ((AaY h b ht c).2 hc)).1
 exact⟨h1,λe=>ZY h b ht (e ▸ h1)⟩
theorem AjR{O:zN}(b:BfI n r K O O.length){B:Nat->KW}{t:Nat}(ht:t < O.reverse.length):gE up YB B (NN K YB B n) (O.reverse.take t) O.reverse[t]=NN K YB B n O.reverse[t]:=by
 unfold gE
 rw[UZ h (pG h b ht)]
 refine rz _ λv=>?_
 rw[A5,A5]
 exact exists_congr λc=>and_congr_left λ_=>AaY h b ht c
theorem Af3{O:zN}(b:BfI n r K O O.length){B:Nat->KW}{i:Nat}(hi:i < n):gE up YB B (NN K YB B n) O.reverse i=NN K YB B n i:=by
 unfold gE
 rw[UZ h hi]
 refine rz _ λv=>?_
 rw[A5,A5]
 refine exists_congr λc=>and_congr_left λ_=>?_
 rw[Bj,h.kid]
 unfold uX
 rw[BG,HA,jq h b]
end
def Vw(x y:Option KW):Option KW:=match x,y with
 |some a,some b=>cond (OA a b) none (some (kj a b))
 |_,_=>none
theorem AbE(x:Option KW):Vw x none=none:=by cases x<;>rfl
theorem ag:∀l:List (Option KW),l.foldl Vw none=none
 |[]=>rfl
 |x::l=>by rw[CL,show Vw none x=none from rfl,ag l]
theorem l8:∀{l:List (Option KW)}(a:Option KW),none∈l->l.foldl Vw a=none
 |x::l,a,h=>by
  rw[CL]
  rcases AE.1 h with e|h
  ·rw[<-e,AbE,ag]
  ·exact l8 _ h
theorem cz:∀(l:List (Option KW)) (a v:KW),Tq a=true->(∀b,some b∈l->Tq b=true)->l.foldl Vw (some a)=some v->Tq v=true
 |[],a,v,ha,_,e=>by rw[Hy,Ar]at e;exact e ▸ ha
 |none::l,a,v,ha,hl,e=>by rw[CL,AbE,ag]at e;cases e
 |some b::l,a,v,ha,hl,e=>by
  rw[CL]at e
  cases hb:OA a b with
  |true=>rw[show Vw (some a) (some b)=none by unfold Vw;simp only;rw[hb];rfl,ag]at e;cases e
  |false=>
   rw[show Vw (some a) (some b)=some (kj a b)by unfold Vw;simp only;rw[hb];rfl]at e
   exact cz l _ v (AbA ha (hl b BH) hb) (λc hc=>hl c (A3 _ hc)) e
section
variable {n r:Nat}{up:Nat->Option Nat}{K:Nat->zN}{D:Nat->Nat}(h:TrN n r up K D){B:Nat->KW}
include h
theorem YC(hB:∀i,i < n->Tq (B i)=true):∀m k v,k < n->NN K Vw (λi=>some (B i)) m k=some v->Tq v=true
 |0,k,v,hk,e=>by rw[NN,Ar]at e;exact e ▸ hB k hk
 |m+1,k,v,hk,e=>by
  rw[NN]at e
  refine cz _ _ v (hB k hk) (λb hb=>?_) e
  obtain⟨c,hc,e2⟩:=A5.1 hb
  exact YC hB m c b (QL h hc).1 e2
theorem qS{Bo:Nat->Option KW}:∀d x,D x<=d->x < n->NN K Vw Bo n x=none->NN K Vw Bo n r=none:=by
 intro d
 induction d with
 |zero=>
  intro x hd hx hn
  by_cases e:x=r
  ·subst e;exact hn
  ·obtain⟨j,_,_,h3⟩:=h.upD x hx e;omega
 |succ d ih=>
  intro x hd hx hn
  by_cases e:x=r
  ·subst e;exact hn
  ·obtain⟨j,h1,h2,h3⟩:=h.upD x hx e
   refine ih j (by omega) h2 ?_
   rw[UZ h h2]
   exact l8 _ (A5.2 ⟨x,(h.kid j x).2 ⟨hx,h1⟩,hn⟩)
theorem zw{Bo:Nat->Option KW}{k j:Nat}(hk:k+1 < (Jx K n r).length)(hj:j < n)(hn:gE up Vw Bo (NN K Vw Bo n) ((Jx K n r).take (k+1)) j=none):NN K Vw Bo n r=none:=by
 obtain⟨h1,h2,h3,h4⟩:=NB h (AJ n)
 refine qS h (D j) j (AJ _) hj ?_
 rw[UZ h hj,<-h4 j hj]
 have e:Jx K n r=(Jx K n r).take (k+1)++(Jx K n r).drop (k+1):=(Bv _ _).symm
 rw[e,CA,Bd,Dy]
 unfold gE at hn
 rw[hn,ag]
theorem sJ{Bo:Nat->Option KW}{x s:Nat}(hx:x < n)(hn:(((K x).take s).map (NN K Vw Bo n)).foldl Vw (Bo x)=none):NN K Vw Bo n r=none:=by
 refine qS h (D x) x (AJ _) hx ?_
 rw[UZ h hx]
 rw[<-Bv s (K x),Bd,Dy,hn,ag]
end
section
variable {p:zI}{r:Nat}{D:Nat->Nat}(hp:p.length<=lim)(h:TrN p.length r (Pp p) (Oe p) D){B:Nat->KW}(hB:∀i,i < p.length->Tq (B i)=true)
abbrev OH(p:zI)(r:Nat):zN:=Jx (Oe p) p.length r
abbrev bB(p:zI)(B:Nat->KW):Nat->KW:=NN (Oe p) YB B p.length
abbrev ZP(p:zI)(B:Nat->KW):Nat->Option KW:=NN (Oe p) Vw (λi=>some (B i)) p.length
abbrev ttS(p:zI)(S:Nat->KW):Nat->KW:=TT (Pp p) YB S p.length
include hp h
theorem kB:1<=(OH p r).length∧(OH p r).length<=lim:=by
 have:=wC h h.rn (m:=p.length) (by omega)
 obtain⟨hl,-⟩:=Zl h
 exact⟨by show 1<=(Jx (Oe p) p.length r).length;omega,BC this hp⟩
theorem rh{k:Nat}(hk:k < (OH p r).length):(OH p r)[k] < p.length:=((NB h (AJ _)).1 _).1 (Ad hk)
include hB
theorem AjD:Ap (Ht p (nL (OH p r))) fz (Fc p.length B,0)=some (Fc p.length (bB p B)):=by
 obtain⟨l1,l2⟩:=kB hp h
 have hpos:=h.rn
 have hmem:=(NB h (AJ _)).1
 have key:=CD (body:=Ht p (nL (OH p r))) (out:=Fc p.length (bB p B)) (λk=>(Fc p.length (gE (Pp p) YB B (bB p B) ((OH p r).take k)),(k:Int))) ((OH p r).length - 1) (λk hk rec=>by
  have hk':k < (OH p r).length:=by omega
  have hx:=rh hp h hk'
  obtain⟨j,hj,hjn⟩:=kA h (k:=k) (by show k+1 < (OH p r).length;omega)
  have hpre:∀x∈(OH p r).take k,x < p.length:=λx hx=>(hmem x).1 (CB hx)
  unfold Ht
  simp only
  rw[F4,Us l2,Ai (by omega),Ac,VS hk',AV,RW hx hj,AV,A1 (by rw[O1];omega),HR hjn,AV,AV,HR hx,AV,uT h hk',AfV (uU h hB hpre hjn) (VI h hB _ _ hx),AV,AV,T4,Bm hk' (Ba l2),Tp hk',yx hj]) (λrec=>by
  unfold Ht
  simp only
  rw[F4,Us l2,Af (by omega),Ab]
  exact congrArg some (QB λi hi=>ox h hi)) fz (DN (by omega))
 exact key
theorem AhI{O:zN}(b:BfI p.length r (Oe p) O O.length):Ap (FY p (nL O.reverse)) fz (Fc p.length B,0)=some (Fc p.length (bB p B)):=by
 have hl:=Ya b
 have hpos:=h.rn
 have hlr:O.reverse.length<=lim:=by rw[C4];omega
 have key:=CD (body:=FY p (nL O.reverse)) (out:=Fc p.length (bB p B)) (λk=>(Fc p.length (gE (Pp p) YB B (bB p B) (O.reverse.take k)),(k:Int))) O.reverse.length (λk hk rec=>by
  have hx:=pG h b hk
  have hpre:∀x∈O.reverse.take k,x < p.length:=λx hx=>b.lt x (HA.1 (CB hx))
  unfold FY JN
  simp only
  rw[F4,Bi hk,Ac,VS hk,AV]
  cases hj:Pp p O.reverse[k]with
  |none=>
   obtain⟨e1,e2⟩:=jc hx hj
   rw[e1,AV,Af (by omega),Ab,Bm hk (Ba hlr),Tp hk,Akq hj]
  |some j=>
   have hjn:=(ZI h hx hj).1
   rw[RW hx hj,AV,Ai (by omega),Ac,A1 (by rw[O1];omega),HR hjn,AV,HR hx,AV,AjR h b hk,Ade (uU h hB hpre hjn) (VI h hB _ _ hx),AV,AV,T4,Bm hk (Ba hlr),Tp hk,yx hj]) (λrec=>by
  unfold FY
  simp only
  rw[F4,Bc,Ab,AT]
  exact congrArg some (QB λi hi=>Af3 h b hi)) fz (DN hlr)
 exact key
omit hB
variable {S:Nat->KW}(hS:∀i,i < p.length->Tq (S i)=true)
include hS
theorem AjE:Ap (Hu p (nL (OH p r))) fz (Fc p.length S,wZ (((nL (OH p r)).length:Int) - 2))=some (Fc p.length (ttS p S)):=by
 obtain⟨l1,l2⟩:=kB hp h
 have hpos:=h.rn
 obtain⟨f1,f2,-⟩:=NB h (AJ _)
 obtain⟨hl,elast⟩:=Zl h
 have hl2:=l2
 unfold lim at hl2
 have h0:Fc p.length S=Fc p.length λi=>if i∈(OH p r).drop ((OH p r).length - 1)then ttS p S i else S i:=QB λi hi=>by
  by_cases hm:i∈(OH p r).drop ((OH p r).length - 1)
  ·rw[Aw hm]
   rw[BB hl]at hm
   rcases AE.1 hm with e|hm
   ·rw[e,elast];exact(AgB (op:=YB) (S:=S) h).symm
   ·rw[List.drop_eq_nil_of_le (by omega)]at hm;cases hm
  ·rw[Ay hm]
 obtain⟨o,e,ho⟩:=GV (B:=Hu p (nL (OH p r))) (λst=>∃t:Nat,st=(Fc p.length (λi=>if i∈(OH p r).drop t then ttS p S i else S i),(t:Int) - 1)∧t < (OH p r).length) (λst=>(st.2+1).toNat) (λo=>o=Fc p.length (ttS p S)) (λst hst=>by
  obtain⟨t,rfl,ht⟩:=hst
  cases t with
  |zero=>
   left
   refine⟨_,rfl,λrec=>?_⟩
   unfold Hu
   simp only
   rw[Af (by omega),Ab]
   exact congrArg some (QB λi hi=>by rw[Aw (by rw[Jw];exact(f1 i).2 hi)])
  |succ k=>
   right
   have hk:k < (OH p r).length:=by omega
   have hx:=rh hp h hk
   obtain⟨j,hj,hjn⟩:=kA h (k:=k) ht
   obtain⟨i,hi,hki,ei⟩:=Ajs h (AJ _) hk hj
   have hjm:j∈(OH p r).drop (k+1):=by
    rw[List.mem_drop_iff_getElem]
    have hi':i < (OH p r).length:=hi
    exact⟨i - (k+1),by omega,by rw[<-ei];congr 1;omega⟩
   have hxm:(OH p r)[k]∉(OH p r).drop (k+1):=λhm=>by
    obtain⟨i',hi',e'⟩:=List.mem_drop_iff_getElem.1 hm
    have:=(DP f2).1 e'
    omega
   refine⟨(Fc p.length (λi=>if i∈(OH p r).drop k then ttS p S i else S i),(k:Int) - 1),⟨k,rfl,hk⟩,by simp only;omega,λrec=>?_⟩
   have ek:((k+1:Nat):Int) - 1=(k:Int):=by omega
   unfold Hu
   simp only
   rw[ek,Ai (by omega),Ac,VS hk,AV,RW hx hj,AV,A1 (by rw[O1];omega),AV,AV,HR hx,AV,HR hjn,AV,Ay hxm,Aw hjm,AfV (hS _ hx) (pB h hS _ _ hjn),AV,AV,T4,wrap_in (by omega)]
   congr 2
   refine QB λi hi=>?_
   simp only[QH]
   have hdrop:(OH p r).drop k=(OH p r)[k]::(OH p r).drop (k+1):=BB hk
   by_cases e:i=(OH p r)[k]
   ·rw[Aw e,Aw (by rw[hdrop,e];exact BH),e]
    exact(tF (op:=YB) (S:=S) h hx hj).symm
   ·rw[Ay e]
    by_cases hm:i∈(OH p r).drop (k+1)
    ·rw[Aw hm,Aw (by rw[hdrop];exact A3 _ hm)]
    ·rw[Ay hm,Ay (by rw[hdrop,AE];exactλh=>h.elim e hm)]) fz (Fc p.length S,wZ (((nL (OH p r)).length:Int) - 2)) ⟨(OH p r).length - 1,by rw[<-h0,F4,wrap_in (by omega)];congr 1;omega,by omega⟩ (by unfold fz;rw[F4,wrap_in (by omega)];simp only;omega)
 rw[e,ho]
theorem AhJ{O:zN}(b:BfI p.length r (Oe p) O O.length):Ap (FZ p (nL O.reverse)) fz (Fc p.length S,wZ (((nL O.reverse).length:Int) - 1))=some (Fc p.length (ttS p S)):=by
 have hl:=Ya b
 have hpos:=h.rn
 have hlr:O.length<=lim:=by omega
 have hl2:=hlr
 unfold lim at hl2
 obtain⟨o,e,ho⟩:=GV (B:=FZ p (nL O.reverse)) (λst=>∃s:Nat,st=(Fc p.length (λi=>if i∈O.take s then ttS p S i else S i),(O.length:Int) - 1 - (s:Int))∧s<=O.length) (λst=>(st.2+1).toNat) (λo=>o=Fc p.length (ttS p S)) (λst hst=>by
  obtain⟨s,rfl,hs⟩:=hst
  by_cases hlt:s < O.length
  ·right
   have hx:=b.lt _ (Ad hlt)
   obtain⟨k,hk⟩:∃k:Nat,k=O.length - 1 - s:=⟨_,rfl⟩
   have ek:(O.length:Int) - 1 - (s:Int)=(k:Int):=by omega
   have hkl:k < O.reverse.length:=by rw[C4];omega
   have ex:O.reverse[k]=O[s]:=by rw[Mc];congr 1;omega
   have hxm:O[s]∉O.take s:=λhm=>by
    obtain⟨i,hi,e⟩:=Fa.1 hm
    have:=(DP b.nd).1 e
    omega
   refine⟨(Fc p.length (λi=>if i∈O.take (s+1)then ttS p S i else S i),(O.length:Int) - 1 - ((s+1:Nat):Int)),⟨s+1,rfl,hlt⟩,by simp only;omega,λrec=>?_⟩
   have hw:wZ ((k:Int) - 1)=(O.length:Int) - 1 - ((s+1:Nat):Int):=by rw[wrap_in (by omega)];omega
   have htab:∀f:Nat->KW,(∀i,i < p.length->f i=if i∈O.take (s+1)then ttS p S i else S i)->Fc p.length f=Fc p.length (λi=>if i∈O.take (s+1)then ttS p S i else S i):=λf hf=>QB hf
   unfold FZ JO
   simp only
   rw[ek,Ai (by omega),Ac,VS hkl,AV,ex]
   cases hj:Pp p O[s]with
   |none=>
    obtain⟨e1,e2⟩:=jc hx hj
    rw[e1,AV,Af (by omega),Ab,hw]
    congr 2
    refine htab _ λi hi=>?_
    rw[Tp hlt]
    by_cases hm:i∈O.take s
    ·rw[Aw hm,Aw (AF _ hm)]
    ·rw[Ay hm]
     by_cases e:i=O[s]
     ·have hr:O[s]=r:=by
       by_cases hne:O[s]=r
       ·exact hne
       ·obtain⟨j,e3,_⟩:=h.upD _ hx hne
        rw[hj]at e3;cases e3
      rw[Aw (Az _ (AC.2 e)),e,hr]
      exact(AgB (op:=YB) (S:=S) h).symm
     ·rw[Ay (by rw[Ak,AC];exactλh=>h.elim hm e)]
   |some j=>
    obtain⟨hjn,-⟩:=ZI h hx hj
    obtain⟨i,hi,his,ei⟩:=Ag4 h b hlt hj
    have hjm:j∈O.take s:=Fa.2 ⟨i,by omega,ei⟩
    rw[RW hx hj,AV,Ai (by omega),Ac,A1 (by rw[O1];omega),AV,AV,HR hx,AV,HR hjn,AV,Ay hxm,Aw hjm,Ade (hS _ hx) (pB h hS _ _ hjn),AV,AV,T4,hw]
    congr 2
    refine htab _ λi hi=>?_
    simp only[QH]
    rw[Tp hlt]
    by_cases e:i=O[s]
    ·rw[Aw e,Aw (Az _ (AC.2 e)),e]
     exact(tF (op:=YB) (S:=S) h hx hj).symm
    ·rw[Ay e]
     by_cases hm:i∈O.take s
     ·rw[Aw hm,Aw (AF _ hm)]
     ·rw[Ay hm,Ay (by rw[Ak,AC];exactλh=>h.elim hm e)]
  ·left
   have hs:s=O.length:=by omega
   refine⟨_,rfl,λrec=>?_⟩
   unfold FZ
   simp only
   rw[Af (by omega),Ab]
   exact congrArg some (QB λi hi=>by rw[Aw (by rw[hs,AT];exact(jq h b i).2 hi)])) fz (Fc p.length S,wZ (((nL O.reverse).length:Int) - 1)) ⟨0,by rw[F4,C4,wrap_in (by omega)];simp,Cd _⟩ (by unfold fz;rw[F4,C4,wrap_in (by omega)];simp only;omega)
 rw[e,ho]
omit hS
include hB
theorem Ahp{pre:zN}(hpre:∀x∈pre,x < p.length){i:Nat}(hi:i < p.length){v:KW}(e:gE (Pp p) Vw (λi=>some (B i)) (ZP p B) pre i=some v):Tq v=true:=by
 unfold gE at e
 refine cz _ _ v (hB i hi) (λb hb=>?_) e
 obtain⟨c,hc,e2⟩:=A5.1 hb
 exact YC h hB _ c b (hpre c (Bj.1 hc).1) e2
theorem AbN:∃o,Ap (DT p (nL (OH p r))) fz (Fc p.length B,0)=some o∧((o=.inr ((0,[]),false)∧ZP p B r=none)∨∃f,o=.inl (Fc p.length f)∧ZP p B r=some (f r)):=by
 obtain⟨l1,l2⟩:=kB hp h
 have hpos:=h.rn
 have hmem:=(NB h (AJ _)).1
 refine GV (B:=DT p (nL (OH p r))) (λst=>∃k:Nat,∃f:Nat->KW,st=(Fc p.length f,(k:Int))∧k<=(OH p r).length - 1∧∀i,i < p.length->some (f i)=gE (Pp p) Vw (λi=>some (B i)) (ZP p B) ((OH p r).take k) i) (λst=>(OH p r).length - st.2.toNat) (λo=>(o=.inr ((0,[]),false)∧ZP p B r=none)∨∃f,o=.inl (Fc p.length f)∧ZP p B r=some (f r)) (λst hst=>?_) fz (Fc p.length B,0) ⟨0,B,rfl,Cd _,λi hi=>rfl⟩ (by unfold fz;unfold lim at l2;simp only;omega)
 obtain⟨k,f,rfl,hk,hf⟩:=hst
 by_cases hlt:k+1 < (OH p r).length
 ·have hk':k < (OH p r).length:=by omega
  have hx:=rh hp h hk'
  obtain⟨j,hj,hjn⟩:=kA h (k:=k) hlt
  have hpre:∀x∈(OH p r).take k,x < p.length:=λx hx=>(hmem x).1 (CB hx)
  have hfx:=hf _ hx
  rw[uT h hk']at hfx
  have v1:=Ahp hp h hB hpre hjn (hf j hjn).symm
  have v2:=YC h hB _ _ _ hx hfx.symm
  have hop:Vw (gE (Pp p) Vw (λi=>some (B i)) (ZP p B) ((OH p r).take k) j) (ZP p B (OH p r)[k])=cond (OA (f j) (f (OH p r)[k])) none (some (kj (f j) (f (OH p r)[k]))):=by rw[<-hf j hjn,show ZP p B (OH p r)[k]=some (f (OH p r)[k])from hfx.symm];rfl
  have hnext:∀i,gE (Pp p) Vw (λi=>some (B i)) (ZP p B) ((OH p r).take (k+1)) i=QH (gE (Pp p) Vw (λi=>some (B i)) (ZP p B) ((OH p r).take k)) j (Vw (gE (Pp p) Vw (λi=>some (B i)) (ZP p B) ((OH p r).take k) j) (ZP p B (OH p r)[k])) i:=λi=>by rw[Tp hk',yx hj]
  have hstep:∀rec,DT p (nL (OH p r)) rec (Fc p.length f,(k:Int))=cond (OA (f j) (f (OH p r)[k])) (some (.inr ((0,[]),false))) (rec (Fc p.length (QH f j (kj (f j) (f (OH p r)[k]))),((k+1:Nat):Int))):=λrec=>by
   unfold DT
   simp only
   rw[F4,Us l2,Ai (by omega),Ac,VS hk',AV,RW hx hj,AV,HR hjn,AV,AV,HR hx,AV,AjH v1 v2,AV]
   cases OA (f j) (f (OH p r)[k])with
   |true=>rfl
   |false=>
    simp only[Ab,An]
    rw[A1 (by rw[O1];omega),AV,RW hx hj,AV,HR hjn,AV,T4,Bm hk' (Ba l2)]
  cases hb:OA (f j) (f (OH p r)[k])with
  |true=>
   left
   refine⟨_,.inl ⟨rfl,?_⟩,λrec=>by rw[hstep,hb];rfl⟩
   refine zw h hlt hjn ?_
   show gE (Pp p) Vw (λi=>some (B i)) (ZP p B) ((OH p r).take (k+1)) j=none
   rw[hnext,ld,hop,hb];rfl
  |false=>
   right
   refine⟨_,⟨k+1,_,rfl,by omega,λi hi=>?_⟩,?_,λrec=>by rw[hstep,hb,Ab]⟩
   ·rw[hnext]
    simp only[QH]
    by_cases e:i=j
    ·rw[Aw e,Aw e,hop,hb];rfl
    ·rw[Ay e,Ay e];exact hf i hi
   ·simp only[Aq];omega
 ·left
  have hk:k=(OH p r).length - 1:=by omega
  refine⟨_,.inr ⟨f,rfl,?_⟩,λrec=>?_⟩
  ·rw[hf r hpos,hk]
   exact(ox h hpos).symm
  ·unfold DT
   simp only
   rw[F4,Us l2,Af (by omega),Ab]
theorem Ac3{x:Nat}(hx:x < p.length){f:Nat->KW}(hfx:f x=B x)(hfc:∀c∈Oe p x,ZP p B c=some (f c)∧c≠x):∃o,Ap (DM (x:Int) (nL (Oe p x))) fz (Fc p.length f,0)=some o∧((o=.inr ((0,[]),false)∧ZP p B r=none)∨∃v,o=.inl (Fc p.length (QH f x v))∧ZP p B x=some v):=by
 have hpos:=h.rn
 have hkl:(Oe p x).length<=p.length:=ft _ _
 have h0:Fc p.length f=Fc p.length (QH f x (B x)):=QB λi hi=>by
  simp only[QH]
  by_cases e:i=x
  ·rw[Aw e,e,hfx]
  ·rw[Ay e]
 refine GV (B:=DM (x:Int) (nL (Oe p x))) (λst=>∃s:Nat,∃v:KW,st=(Fc p.length (QH f x v),(s:Int))∧s<=(Oe p x).length∧(((Oe p x).take s).map (ZP p B)).foldl Vw (some (B x))=some v) (λst=>(Oe p x).length - st.2.toNat) (λo=>(o=.inr ((0,[]),false)∧ZP p B r=none)∨∃v,o=.inl (Fc p.length (QH f x v))∧ZP p B x=some v) (λst hst=>?_) fz (Fc p.length f,0) ⟨0,B x,by rw[<-h0];rfl,Cd _,rfl⟩ (by unfold fz;unfold lim at hp;simp only;omega)
 obtain⟨s,v,rfl,hs,hv⟩:=hst
 by_cases hlt:s < (Oe p x).length
 ·have hc:=Ad hlt
  obtain⟨hcn,-⟩:=QL h hc
  obtain⟨ec,hne⟩:=hfc _ hc
  have v1:Tq v=true:=cz _ _ v (hB x hx) (λb hb=>by
   obtain⟨c,hc,e2⟩:=A5.1 hb
   exact YC h hB _ c b (QL h (CB hc)).1 e2) hv
  have v2:=YC h hB _ _ _ hcn ec
  have hnext:(((Oe p x).take (s+1)).map (ZP p B)).foldl Vw (some (B x))=cond (OA v (f (Oe p x)[s])) none (some (kj v (f (Oe p x)[s]))):=by
   rw[Tp hlt,Bd,Dy,hv,AM,CZ,CL,Hy,ec];rfl
  have hstep:∀rec,DM (x:Int) (nL (Oe p x)) rec (Fc p.length (QH f x v),(s:Int))=cond (OA v (f (Oe p x)[s])) (some (.inr ((0,[]),false))) (rec (Fc p.length (QH f x (kj v (f (Oe p x)[s]))),((s+1:Nat):Int))):=λrec=>by
   unfold DM
   simp only
   rw[F4,Bi hlt,Ac,VS hlt,AV,HR hx,AV,HR hcn,AV,ld,rL _ _ hne,AhM v1 v2,AV]
   cases OA v (f (Oe p x)[s])with
   |true=>rfl
   |false=>
    simp only[Ab,An]
    rw[A1 (by rw[O1];omega),AV,T4,Bm hlt (Ba (by omega))]
    congr 2
    refine QB λi hi=>?_
    simp only[QH]
    by_cases e:i=x
    ·rw[Aw e,Aw e]
    ·rw[Ay e,Ay e,Ay e]
  cases hb:OA v (f (Oe p x)[s])with
  |true=>
   left
   refine⟨_,.inl ⟨rfl,sJ h hx (s:=s+1) (by rw[hb]at hnext;exact hnext)⟩,λrec=>by rw[hstep,hb];rfl⟩
  |false=>
   right
   refine⟨_,⟨s+1,_,rfl,hlt,by rw[hnext,hb];rfl⟩,by simp only[Aq];omega,λrec=>by rw[hstep,hb,Ab]⟩
 ·left
  have hs:s=(Oe p x).length:=by omega
  refine⟨_,.inr ⟨v,rfl,?_⟩,λrec=>?_⟩
  ·rw[hs,AT]at hv
   rw[<-hv]
   exact UZ h hx
  ·unfold DM
   simp only
   rw[F4,hs,Bc,Ab]
theorem Aba{O:zN}(b:BfI p.length r (Oe p) O O.length):∃o,Ap (DL p (nL O.reverse)) fz (Fc p.length B,0)=some o∧((o=.inr ((0,[]),false)∧ZP p B r=none)∨∃f,o=.inl (Fc p.length f)∧ZP p B r=some (f r)):=by
 have hl:=Ya b
 have hpos:=h.rn
 have hlr:O.reverse.length<=lim:=by rw[C4];omega
 refine GV (B:=DL p (nL O.reverse)) (λst=>∃k:Nat,∃f:Nat->KW,st=(Fc p.length f,(k:Int))∧k<=O.reverse.length∧(∀i∈O.reverse.take k,ZP p B i=some (f i))∧∀i,i∉O.reverse.take k->f i=B i) (λst=>O.reverse.length - st.2.toNat) (λo=>(o=.inr ((0,[]),false)∧ZP p B r=none)∨∃f,o=.inl (Fc p.length f)∧ZP p B r=some (f r)) (λst hst=>?_) fz (Fc p.length B,0) ⟨0,B,rfl,Cd _,λi hi=>by simp at hi,λi _=>rfl⟩ (by unfold fz;unfold lim at hlr;simp only;omega)
 obtain⟨k,f,rfl,hk,hf1,hf2⟩:=hst
 by_cases hlt:k < O.reverse.length
 ·have hx:=pG h b hlt
  obtain⟨o,e,ho⟩:=Ac3 hp h hB hx (f:=f) (hf2 _ (ZY h b hlt)) (λc hc=>⟨hf1 c (W2 h b hlt hc).1,(W2 h b hlt hc).2⟩)
  have hstep:∀rec,DL p (nL O.reverse) rec (Fc p.length f,(k:Int))=G (Ap (DM (O.reverse[k]:Int) (nL (Oe p O.reverse[k]))) fz (Fc p.length f,0)) λo2=>match o2 with
   |.inl z16=>rec (z16,((k+1:Nat):Int))
   |.inr r=>some (.inr r):=λrec=>by
   unfold DL
   simp only
   rw[F4,Bi hlt,Ac,VS hlt,AV,oD hp,AV,Bm hlt (Ba hlr)]
   rfl
  rcases ho with⟨rfl,hn⟩|⟨v,rfl,hv⟩
  ·left
   exact⟨_,.inl ⟨rfl,hn⟩,λrec=>by rw[hstep,e];rfl⟩
  ·right
   refine⟨_,⟨k+1,QH f O.reverse[k] v,rfl,hlt,λi hi=>?_,λi hi=>?_⟩,by simp only[Aq];omega,λrec=>by rw[hstep,e];rfl⟩
   ·simp only[QH]
    by_cases e:i=O.reverse[k]
    ·rw[Aw e,e];exact hv
    ·rw[Ay e]
     rw[Tp hlt,Ak,AC]at hi
     exact hf1 i (hi.resolve_right e)
   ·rw[Tp hlt,Ak,AC]at hi
    simp only[QH]
    rw[Ay λe=>hi (.inr e)]
    exact hf2 i λhm=>hi (.inl hm)
 ·left
  have hk:k=O.reverse.length:=by omega
  refine⟨_,.inr ⟨f,rfl,hf1 r (by rw[hk,AT,HA];exact b.rt)⟩,λrec=>?_⟩
  unfold DL
  simp only
  rw[F4,hk,Bc,Ab]
theorem AjB{x:List zI}:Ap (Eo (x,p) (nL (OH p r))) fz (Fc p.length B,0)=some (Fc p.length (bB p B)):=by
 obtain⟨l1,l2⟩:=kB hp h
 have hpos:=h.rn
 have hmem:=(NB h (AJ _)).1
 have key:=CD (body:=Eo (x,p) (nL (OH p r))) (out:=Fc p.length (bB p B)) (λk=>(Fc p.length (gE (Pp p) YB B (bB p B) ((OH p r).take k)),(k:Int))) ((OH p r).length - 1) (λk hk rec=>by
  have hk':k < (OH p r).length:=by omega
  have hx:=rh hp h hk'
  obtain⟨j,hj,hjn⟩:=kA h (k:=k) (by show k+1 < (OH p r).length;omega)
  have hpre:∀x∈(OH p r).take k,x < p.length:=λx hx=>(hmem x).1 (CB hx)
  unfold Eo
  simp only
  rw[F4,Us l2,Ai (by omega),Ac,A1 (by rw[O1];omega),VS hk',AV,RW hx hj,AV,AV,RW hx hj,AV,HR hjn,AV,AV,HR hx,AV,uT h hk',AfV (uU h hB hpre hjn) (VI h hB _ _ hx),AV,AV,T4,Bm hk' (Ba l2),Tp hk',yx hj]) (λrec=>by
  unfold Eo
  simp only
  rw[F4,Us l2,Af (by omega),Ab]
  exact congrArg some (QB λi hi=>ox h hi)) fz (DN (by omega))
 exact key
theorem AhG{x:Nat}(hx:x < p.length){f:Nat->KW}(hfx:f x=B x)(hfc:∀c∈Oe p x,f c=bB p B c∧c≠x):Ap (Ej (x:Int) (nL (Oe p x))) fz (Fc p.length f,0)=some (Fc p.length (QH f x (bB p B x))):=by
 have hpos:=h.rn
 have hkl:(Oe p x).length<=p.length:=ft _ _
 have hsol:(((Oe p x).take (Oe p x).length).map (bB p B)).foldl YB (B x)=bB p B x:=by rw[AT];exact(UZ h hx).symm
 have key:=CD (body:=Ej (x:Int) (nL (Oe p x))) (out:=Fc p.length (QH f x (bB p B x))) (λs=>(Fc p.length (QH f x ((((Oe p x).take s).map (bB p B)).foldl YB (B x))),(s:Int))) (Oe p x).length (λs hs rec=>by
  have hc:=Ad hs
  obtain⟨hcn,-⟩:=QL h hc
  obtain⟨ec,hne⟩:=hfc _ hc
  have v1:Tq ((((Oe p x).take s).map (bB p B)).foldl YB (B x))=true:=cA _ _ (hB x hx) λb hb=>by
   obtain⟨c,hc,rfl⟩:=A5.1 hb
   exact VI h hB _ c (QL h (CB hc)).1
  unfold Ej
  simp only
  rw[F4,Bi hs,Ac,VS hs,AV,A1 (by rw[O1];omega),HR hx,AV,HR hcn,AV,ld,rL _ _ hne,ec,Ade v1 (VI h hB _ _ hcn),AV,AV,T4,Bm hs (Ba (by omega)),Tp hs,Bd,Dy,AM,CZ,CL,Hy]
  congr 2
  refine QB λi hi=>?_
  simp only[QH]
  by_cases e:i=x
  ·rw[Aw e,Aw e]
  ·rw[Ay e,Ay e,Ay e]) (λrec=>by
  unfold Ej
  simp only
  rw[F4,Bc,Ab,hsol]) fz (DN (by omega))
 rw[<-key]
 congr 2
 refine QB λi hi=>?_
 simp only[QH]
 by_cases e:i=x
 ·rw[Aw e,e,hfx];rfl
 ·rw[Ay e]
theorem AhF{O:zN}(b:BfI p.length r (Oe p) O O.length){x:List zI}:Ap (Ei (x,p) (nL O.reverse)) fz (Fc p.length B,0)=some (Fc p.length (bB p B)):=by
 have hl:=Ya b
 have hpos:=h.rn
 have hlr:O.reverse.length<=lim:=by rw[C4];omega
 have key:=CD (body:=Ei (x,p) (nL O.reverse)) (out:=Fc p.length (bB p B)) (λk=>(Fc p.length (λi=>if i∈O.reverse.take k then bB p B i else B i),(k:Int))) O.reverse.length (λk hk rec=>by
  have hx:=pG h b hk
  have hno:=ZY h b hk
  unfold Ei
  simp only
  rw[F4,Bi hk,Ac,VS hk,AV,oD hp,AV,AhG hp h hB hx (f:=λi=>if i∈O.reverse.take k then bB p B i else B i) (Ay hno) (λc hc=>⟨Aw (W2 h b hk hc).1,(W2 h b hk hc).2⟩),AV,Bm hk (Ba hlr)]
  congr 2
  refine QB λi hi=>?_
  simp only[QH]
  rw[Tp hk]
  by_cases e:i=O.reverse[k]
  ·rw[Aw e,Aw (Az _ (AC.2 e)),e]
  ·rw[Ay e]
   by_cases hm:i∈O.reverse.take k
   ·rw[Aw hm,Aw (AF _ hm)]
   ·rw[Ay hm,Ay (by rw[Ak,AC];exactλh=>h.elim hm e)]) (λrec=>by
  unfold Ei
  simp only
  rw[F4,Bc,Ab]
  exact congrArg some (QB λi hi=>by rw[Aw (by rw[AT,HA];exact(jq h b i).2 hi)])) fz (DN hlr)
 rw[<-key]
 congr 2
end
theorem uC(x:List zI)(p:zI)(v:zI):KU (x,p) v=DT p v:=rfl
theorem uD(x:List zI)(p:zI)(v:zI):KR (x,p) v=DL p v:=rfl
abbrev Rt:=Int×Int
theorem Akr{B:(Int×Int->Option Int)->Int×Int->Option Int}(hB:∀rec a b,B rec (a,b)=cond (b !=0) (chk (b≠0) (rec (b,Int.tmod a b))) (some a)):
  ∀(k f m n:Nat),n < 2 ^ k->2 * k < f->Ap B f ((m:Int),(n:Int))=some ((Nat.gcd m n:Nat):Int):=by
 have hz:∀(f m:Nat),0 < f->Ap B f ((m:Int),((0:Nat):Int))=some ((Nat.gcd m 0:Nat):Int):=λf m hf=>by
  cases f with
  |zero=>omega
  |succ f=>rw[CM,hB,Nat.gcd_zero_right];rfl
 have hs:∀(f m n:Nat),0 < n->Ap B (f+1) ((m:Int),(n:Int))=Ap B f ((n:Int),((m % n:Nat):Int)):=λf m n hn=>by
  rw[CM,hB,show((n:Int)!=0)=true by rw[G1];omega,Ac,A1 (by omega)]
  rfl
 have hg:∀m n:Nat,Nat.gcd m n=Nat.gcd n (m % n):=λm n=>by rw[Nat.gcd_comm m n,Nat.gcd_rec n m,Nat.gcd_comm]
 intro k
 induction k with
 |zero=>
  intro f m n hn hf
  obtain rfl:n=0:=by omega
  exact hz f m (by omega)
 |succ k ih=>
  intro f m n hn hf
  rcases C1 n with rfl|h0
  ·exact hz f m (by omega)
  ·obtain⟨f,rfl⟩:∃g,f=g+2:=⟨f - 2,by omega⟩
   rw[hs (f+1) m n h0,hg m n]
   rcases C1 (m % n)with h1|h1
   ·rw[h1];exact hz _ n (by omega)
   ·rw[hs f n (m % n) h1,hg n (m % n)]
    refine ih f _ _ ?_ (by omega)
    have h2:m % n < n:=Qb _ h0
    have h3:n % (m % n) < m % n:=Qb _ h1
    rw[Nx]at hn
    rcases Bb n (2 * (m % n))with h4|h4
    ·have h5:n % (m % n)=n - m % n:=by
      rw[Nat.mod_eq_sub_mod (by omega),Du (by omega)]
     omega
    ·omega
theorem Abb(m n:Nat)(hn:n < 2 ^ 62):Wq (m:Int) (n:Int)=some ((Nat.gcd m n:Nat):Int):=by
 unfold Wq
 rw[Akr (λrec a b=>by simp only[bq]) 62 fz m n hn (by unfold fz;omega),AV]
def Pk(r:Rt):Bool:=Hv r.2 1 1000000000&&(Hv r.1 (-1000000000) 1000000000&&(((Nat.gcd r.1.natAbs r.2.natAbs:Nat):Int)==1))
theorem tG{a:Int}(h:a.natAbs<=4000000000000000000):(if a < wZ (0 - a)then wZ (0 - a)else a)=(a.natAbs:Int):=by
 rw[wrap_in (by omega)]
 split<;>omega
theorem TG{x lo hi:Int}:Hv x lo hi=true↔lo<=x∧x<=hi:=by unfold Hv;simp
theorem qw(r:Rt):Fq r=some (Pk r):=by
 unfold Fq Pk
 rw[HT,AV]
 cases h2:Hv r.2 1 1000000000 with
 |false=>rfl
 |true=>
  rw[Ac,HT,AV]
  cases h1:Hv r.1 (-1000000000) 1000000000 with
  |false=>rfl
  |true=>
   rw[TG]at h1 h2
   rw[Ac]
   unfold Wo
   rw[tG (by omega),AV]
   have e:r.2=(r.2.natAbs:Int):=by omega
   have hg:=Abb r.1.natAbs r.2.natAbs (by omega)
   rw[<-e]at hg
   rw[hg];rfl
theorem MJ{r:Rt}(h:Pk r=true):1<=r.2∧r.2<=1000000000∧r.1.natAbs<=1000000000∧Nat.gcd r.1.natAbs r.2.natAbs=1:=by
 unfold Pk at h
 simp only[Aa,TG,BG]at h
 exact⟨h.1.1,h.1.2,by omega,by omega⟩
def pi(n d:Int):Rt×Bool:=
 cond (Pk (n.tdiv (Nat.gcd n.natAbs d.natAbs:Nat),d.tdiv (Nat.gcd n.natAbs d.natAbs:Nat))) ((n.tdiv (Nat.gcd n.natAbs d.natAbs:Nat),d.tdiv (Nat.gcd n.natAbs d.natAbs:Nat)),true) ((0,0),false)
def rNew(n d:Int):Rt×Bool:=
 cond (d==0) ((0,0),false) (cond (Hv n (-4000000000000000000) 4000000000000000000) (cond (Hv d (-4000000000000000000) 4000000000000000000) (cond (decide (d < 0)) (pi (-n) (-d)) (pi n d)) ((0,0),false)) ((0,0),false))
theorem rC{n:Int}{g:Nat}(h:n.natAbs<=4000000000000000000):wZ (n.tdiv (g:Int))=n.tdiv (g:Int):=by
 have:=show(n.tdiv (g:Int)).natAbs=n.natAbs / (g:Int).natAbs from Int.natAbs_tdiv n (g:Int)
 have h2:n.natAbs / (g:Int).natAbs<=n.natAbs:=Nat.div_le_self _ _
 rw[<-this]at h2
 exact wrap_in (by omega)
theorem Abd{n d:Int}(hn:n.natAbs<=4000000000000000000)(hd:0 < d∧d<=4000000000000000000):IV n d=some (pi n d):=by
 unfold IV pi
 have e:d=(d.natAbs:Int):=by omega
 have hg:=Abb n.natAbs d.natAbs (by omega)
 rw[<-e]at hg
 have hp:0 < Nat.gcd n.natAbs d.natAbs:=Nat.gcd_pos_of_pos_right _ (by omega)
 unfold Wo
 rw[tG hn,AV,hg,AV,A1 (by omega),A1 (by omega),rC hn,rC (by omega),qw,AV]
 cases Pk (n.tdiv (Nat.gcd n.natAbs d.natAbs:Nat),d.tdiv (Nat.gcd n.natAbs d.natAbs:Nat))<;>rfl
theorem oH(n d:Int):Js n d=some (rNew n d):=by
 unfold Js rNew
 cases h0:d==0 with
 |true=>rfl
 |false=>
  rw[Cg]at h0
  rw[Ab,Ab,HT,AV]
  cases h1:Hv n (-4000000000000000000) 4000000000000000000 with
  |false=>rfl
  |true=>
   rw[An,Ab,Ac,HT,AV]
   cases h2:Hv d (-4000000000000000000) 4000000000000000000 with
   |false=>rfl
   |true=>
    rw[TG]at h1 h2
    rw[An,Ab,Ac]
    by_cases h:d < 0
    ·rw[Ai h,Ac,Ac,wrap_in (by omega),wrap_in (by omega),Qa,Qa]
     exact Abd (by omega) (by omega)
    ·rw[Af h,Ab,Ab]
     exact Abd (by omega) (by omega)
theorem xJ{x y:Int}(hx:x.natAbs<=1000000000)(hy:y.natAbs<=1000000000):wZ (x * y)=x * y∧(x * y).natAbs<=1000000000000000000:=by
 have h:(x * y).natAbs<=1000000000 * 1000000000:=by rw[Int.natAbs_mul];exact Ly hx hy
 exact⟨wrap_in (by omega),by omega⟩
def b9(a b:Rt):Rt×Bool:=cond (Pk a) (cond (Pk b) (rNew (a.1 * b.2+b.1 * a.2) (a.2 * b.2)) ((0,0),false)) ((0,0),false)
def Qh(a b:Rt):Rt×Bool:=cond (Pk a) (cond (Pk b) (rNew (a.1 * b.1) (a.2 * b.2)) ((0,0),false)) ((0,0),false)
def aQ(a b:Rt):Rt×Bool:=cond (Pk a) (cond (Pk b) (rNew (a.1 * b.2) (a.2 * b.1)) ((0,0),false)) ((0,0),false)
def kE(a b:Rt):Rt×Bool:=cond (Pk b) (b9 a (-b.1,b.2)) ((0,0),false)
def gA(a b:Rt):Int:=cond (Pk a) (cond (Pk b) (cond (decide (a.1 * b.2 < b.1 * a.2)) (-1) (cond (decide (b.1 * a.2 < a.1 * b.2)) 1 0)) 0) 0
theorem rl{a b:Rt}(ha:Pk a=true)(hb:Pk b=true):wZ (a.1 * b.2)=a.1 * b.2∧wZ (b.1 * a.2)=b.1 * a.2∧wZ (a.2 * b.2)=a.2 * b.2∧wZ (a.1 * b.2+b.1 * a.2)=a.1 * b.2+b.1 * a.2∧wZ (a.1 * b.1)=a.1 * b.1∧wZ (a.2 * b.1)=a.2 * b.1:=by
 have fa:=MJ ha
 have fb:=MJ hb
 have h1:=xJ (x:=a.1) (y:=b.2) (by omega) (by omega)
 have h2:=xJ (x:=b.1) (y:=a.2) (by omega) (by omega)
 exact⟨h1.1,h2.1,(xJ (by omega) (by omega)).1,wrap_in (by omega),(xJ (by omega) (by omega)).1,(xJ (by omega) (by omega)).1⟩
theorem jY(a b:Rt):JC a b=some (Pk a&&Pk b):=by
 unfold JC
 rw[qw,AV]
 cases Pk a with
 |false=>rfl
 |true=>rw[Ac,qw,AV];rfl
theorem oG(a b:Rt):Lg a b=some (b9 a b):=by
 unfold Lg b9
 rw[jY,AV]
 cases ha:Pk a with
 |false=>rfl
 |true=>
  cases hb:Pk b with
  |false=>rfl
  |true=>
   obtain⟨e1,e2,e3,e4,e5,e6⟩:=rl ha hb
   rw[Eu,An,Ab,Ac,Ac,e1,e2,e3,e4,oH];rfl
theorem vd(a b:Rt):Ll a b=some (Qh a b):=by
 unfold Ll Qh
 rw[jY,AV]
 cases ha:Pk a with
 |false=>rfl
 |true=>
  cases hb:Pk b with
  |false=>rfl
  |true=>
   obtain⟨e1,e2,e3,e4,e5,e6⟩:=rl ha hb
   rw[Eu,An,Ab,Ac,Ac,e5,e3,oH];rfl
theorem vb(a b:Rt):Lh a b=some (aQ a b):=by
 unfold Lh aQ
 rw[jY,AV]
 cases ha:Pk a with
 |false=>rfl
 |true=>
  cases hb:Pk b with
  |false=>rfl
  |true=>
   obtain⟨e1,e2,e3,e4,e5,e6⟩:=rl ha hb
   rw[Eu,An,Ab,Ac,Ac]
   cases h0:b.1==0 with
   |true=>rw[BG]at h0;rw[h0,Int.mul_zero];rfl
   |false=>rw[Ab,e1,e6,oH];rfl
theorem Aac{b:Rt}(hb:b.1.natAbs<=4000000000000000000):Pk (-b.1,b.2)=Pk b:=by
 unfold Pk
 have e:Hv (-b.1) (-1000000000) 1000000000=Hv b.1 (-1000000000) 1000000000:=by
  rw[BX,TG,TG];omega
 simp only[Int.natAbs_neg,e]
theorem Ada{a b:Rt}(hI: -9223372036854775808<=b.1∧b.1<=9223372036854775807):NS a b=some (kE a b):=by
 unfold NS kE
 cases hb:Pk b with
 |false=>
  have hb':Pk (wZ (0 - b.1),b.2)=false:=by
   by_cases e:b.1= -9223372036854775808
   ·rw[e]
    cases h:Pk (wZ (0 - -9223372036854775808),b.2)with
    |false=>rfl
    |true=>
     have f:=(MJ h).2.2.1
     rw[show wZ (0 - -9223372036854775808)= -9223372036854775808 by decide]at f
     exact absurd f (show ¬((-9223372036854775808:Int).natAbs<=1000000000)by decide)
   ·rw[wrap_in (by omega),Qa]
    by_cases hm:b.1.natAbs<=4000000000000000000
    ·rw[Aac hm];exact hb
    ·cases h:Pk (-b.1,b.2)with
     |false=>rfl
     |true=>
      have f:=(MJ h).2.2.1
      simp only at f
      omega
  rw[oG]
  unfold b9
  cases Pk a with
  |false=>rfl
  |true=>rw[Ac,hb'];rfl
 |true=>
  have fb:=MJ hb
  rw[Ac,wrap_in (by omega),Qa,oG];rfl
theorem va(a b:Rt):Hr a b=some (gA a b):=by
 unfold Hr gA
 rw[jY,AV]
 cases ha:Pk a with
 |false=>rfl
 |true=>
  cases hb:Pk b with
  |false=>rfl
  |true=>
   obtain⟨e1,e2,e3,e4,e5,e6⟩:=rl ha hb
   rw[Eu,An,Ab,Ac,Ac,e1,e2,oC,AV]
   by_cases h1:a.1 * b.2 < b.1 * a.2
   ·rw[Aw h1,Ai h1];rfl
   ·rw[Ay h1,Af h1]
    by_cases h2:b.1 * a.2 < a.1 * b.2
    ·rw[Aw h2,Ai h2];rfl
    ·rw[Ay h2,Af h2];rfl
theorem QY{O:Type}{B:(Int->Option (Sum Unit O))->Int->Option (Sum Unit O)}{n:Nat}(bad:Nat->Bool)(o:O)(hn:n<=lim)(h1:∀k,k < n->∀rec,B rec (k:Int)=cond (bad k) (some (.inr o)) (rec ((k+1:Nat):Int)))(h2:∀rec,B rec (n:Int)=some (.inl ())):
  Ap B fz 0=some (cond ((List.range n).any bad) (.inr o) (.inl ())):=by
 have key:∀d k,k+d=n->(∀j,j < k->bad j=false)->∀m,d < m->Ap B m (k:Int)=some (cond ((List.range n).any bad) (.inr o) (.inl ())):=by
  intro d
  induction d with
  |zero=>
   intro k hk hb m hm
   obtain⟨m,rfl⟩:∃g,m=g+1:=⟨m - 1,by omega⟩
   have:(List.range n).any bad=false:=by
    rw[Cz]
    intro x hx
    rw[hb x (by have:=AB.1 hx;omega)];simp
   rw[CM,show k=n by omega,h2,this];rfl
  |succ d ih=>
   intro k hk hb m hm
   obtain⟨m,rfl⟩:∃g,m=g+1:=⟨m - 1,by omega⟩
   rw[CM,h1 k (by omega)]
   cases hbk:bad k with
   |true=>
    have:(List.range n).any bad=true:=by rw[Cx];exact⟨k,AB.2 (by omega),hbk⟩
    rw[this];rfl
   |false=>
    exact ih (k+1) (by omega) (λj hj=>by
     rcases Bb j k with h|h
     ·exact hb j h
     ·rw[show j=k by omega];exact hbk) m (by omega)
 have:=key n 0 (by omega) (λj hj=>absurd hj (by omega)) fz (DN hn)
 simpa using this
theorem lB{α:Type}(x:α)(l:List α)(f:α->Bool):Bt (x::l) (λ_ e=>f e)=(f x || Bt l λ_ e=>f e):=by
 unfold Bt
 rw[AD,List.range_succ_eq_map,Gd,List.any_map]
 congr 1
theorem ie{α:Type}:∀(l:List α) (k:Nat),(GO k l).map (·.1)=List.range' k l.length
 |[],_=>rfl
 |x::l,k=>by rw[GO,AM,ie l (k+1),AD,DR]
theorem Vu{α:Type}(l:List α):Qc l=List.range l.length:=by rw[Qc,ie,GY]
theorem iT{α:Type}:∀(l p:List α),KS (p++l) (List.range' p.length l.length)=l
 |[],p=>rfl
 |x::l,p=>by
  have h:=iT l (p++[x])
  rw[Bk,Gy,Au,Al]at h
  rw[AD,DR]
  unfold KS at h⊢
  rw[Ax,h]
  simp
theorem wy{α:Type}(l:List α):KS l (Qc l)=l:=by
 rw[Vu,GY]
 exact iT l []
theorem mR:∀(n k m:Nat) (seen:zN),k+n<=m->(∀j∈seen,j < k)->km m (List.range' k n) seen=true
 |0,_,_,_,_,_=>rfl
 |n+1,k,m,seen,h,hs=>by
  rw[DR,km,Aa,Aa,AH]
  refine⟨⟨by rw[Nat.blt_eq];omega,?_⟩,mR n (k+1) m (k::seen) (by omega) (λj hj=>?_)⟩
  ·cases hc:seen.contains k with
   |false=>rfl
   |true=>exact absurd (hs k (Av.1 hc)) (J6 _)
  ·rcases AE.1 hj with rfl|hj
   ·omega
   ·have:=hs j hj;omega
theorem zC{α:Type}(l:List α):km l.length (Qc l) []=true:=by
 rw[Vu,GY]
 exact mR _ 0 _ [] (by omega) (by simp)
def Tf{S O:Type}(st:Nat->S->Sum S O):Nat->Nat->S->Sum S O
 |0,_,s=>.inl s
 |j+1,k,s=>match st k s with
  |.inl s'=>Tf st j (k+1) s'
  |.inr o=>.inr o
theorem aW{S T O R:Type}{B:(T->Option R)->T->Option R}{n:Nat}(at_:S->Nat->T)(Inv:Nat->S->Prop)(st:Nat->S->Sum S O)(fin:Sum S O->R)
  (h1:∀rec k s,k < n->Inv k s->B rec (at_ s k)=match st k s with|.inl s'=>rec (at_ s' (k+1))|.inr o=>some (fin (.inr o)))
  (h2:∀rec s,Inv n s->B rec (at_ s n)=some (fin (.inl s)))
  (h3:∀k s s',k < n->Inv k s->st k s=.inl s'->Inv (k+1) s'):∀(j k:Nat) (s:S) (f:Nat),k+j=n->j < f->Inv k s->Ap B f (at_ s k)=some (fin (Tf st j k s))
 |0,k,s,f,hk,hf,hi=>by
  obtain⟨f,rfl⟩:∃g,f=g+1:=⟨f - 1,by omega⟩
  obtain rfl:k=n:=by omega
  rw[CM,h2 _ s hi];rfl
 |j+1,k,s,f,hk,hf,hi=>by
  obtain⟨f,rfl⟩:∃g,f=g+1:=⟨f - 1,by omega⟩
  rw[CM,h1 _ k s (by omega) hi,Tf]
  cases hs:st k s with
  |inl s'=>exact aW at_ Inv st fin h1 h2 h3 j (k+1) s' f (by omega) (by omega) (h3 k s s' (by omega) hi hs)
  |inr o=>rfl
theorem Pm{S T O R:Type}{B:(T->Option R)->T->Option R}{n:Nat}(at_:S->Nat->T)(Inv:Nat->S->Prop)(st:Nat->S->Sum S O)(fin:Sum S O->R)(hn:n<=lim)
  (h1:∀rec k s,k < n->Inv k s->B rec (at_ s k)=match st k s with|.inl s'=>rec (at_ s' (k+1))|.inr o=>some (fin (.inr o)))
  (h2:∀rec s,Inv n s->B rec (at_ s n)=some (fin (.inl s)))
  (h3:∀k s s',k < n->Inv k s->st k s=.inl s'->Inv (k+1) s') (s:S) (hi:Inv 0 s):Ap B fz (at_ s 0)=some (fin (Tf st n 0 s)):=
 aW at_ Inv st fin h1 h2 h3 n 0 s fz (by omega) (DN hn) hi
theorem nk{α O:Type}(g:Nat->α):∀(j k:Nat) (s:List α),Tf (O:=O) (λk s=>.inl (s++[g k])) j k s=.inl (s++(List.range' k j).map g)
 |0,k,s=>by rw[Tf];simp
 |j+1,k,s=>by rw[Tf];simp only;rw[nk g j (k+1),DR,AM,Bk];rfl
def R7{α O:Type}(g:Nat->Sum α O):Nat->Nat->Sum (List α) O
 |0,_=>.inl []
 |j+1,k=>match g k with
  |.inr o=>.inr o
  |.inl x=>match R7 g j (k+1)with
   |.inl l=>.inl (x::l)
   |.inr o=>.inr o
def tI{α O:Type}(s:List α):Sum α O->Sum (List α) O
 |.inl x=>.inl (s++[x])
 |.inr o=>.inr o
theorem Zr{α O:Type}(g:Nat->Sum α O):∀(j k:Nat) (s:List α),Tf (λk s=>tI s (g k)) j k s=(match R7 g j k with|.inl l=>.inl (s++l)|.inr o=>.inr o)
 |0,k,s=>by rw[Tf,R7];simp
 |j+1,k,s=>by
  rw[Tf,R7]
  cases hg:g k with
  |inr o=>rfl
  |inl x=>
   rw[show tI (O:=O) s (.inl x)=.inl (s++[x])from rfl]
   simp only
   rw[Zr g j (k+1)]
   cases R7 g j (k+1)with
   |inr o=>rfl
   |inl l=>simp only[Bk,Gy]
theorem Zf{α O:Type}{g:Nat->Sum α O}:∀{j k:Nat}{l:List α},R7 g j k=.inl l->l.length=j
 |0,_,_,h=>by cases h;rfl
 |j+1,k,l,h=>by
  rw[R7]at h
  cases hg:g k with
  |inr o=>rw[hg]at h;cases h
  |inl x=>
   rw[hg]at h
   cases hm:R7 g j (k+1)with
   |inr o=>simp only[hm]at h;cases h
   |inl l'=>simp only[hm]at h;cases h;rw[AD,Zf hm]
theorem pd{α:Type}(l:List α)(j:Nat)(J:zN):KS l (j::J)=(l[j]?).toList++KS l J:=by rw[KS,Ax];rfl
theorem iS{α:Type}[Inhabited α](l:List α):∀{J:zN},(∀j∈J,j < l.length)->KS l J=J.map λj=>l.getD j default
 |[],_=>rfl
 |j::J,h=>by
  have hj:=h j BH
  rw[pd,iS l λi hi=>h i (A3 _ hi),AM,Ae hj,AO,Ae hj];rfl
theorem wg{n:Nat}:∀{J seen:zN},J.Nodup->(∀j∈J,j < n∧j∉seen)->km n J seen=true
 |[],_,_,_=>rfl
 |j::J,seen,hn,h=>by
  obtain⟨h1,h2⟩:=BF.1 hn
  obtain⟨h3,h4⟩:=h j BH
  rw[km,Aa,Aa,AH]
  refine⟨⟨by rw[Nat.blt_eq];exact h3,?_⟩,wg h2 λi hi=>⟨(h i (A3 _ hi)).1,λhm=>?_⟩⟩
  ·cases hc:seen.contains j with
   |false=>rfl
   |true=>exact absurd (Av.1 hc) h4
  ·rcases AE.1 hm with rfl|hm
   ·exact h1 hi
   ·exact(h i (A3 _ hi)).2 hm
def sw(p k i:Nat):Nat:=if i=p then k else if i=k then p else i
theorem Af9{p k i j:Nat}(h:sw p k i=sw p k j):i=j:=by
 unfold sw at h
 split at h<;>split at h<;>(try split at h)<;>(try split at h)<;>omega
theorem xn{n p k:Nat}(hp:p < n)(hk:k < n):((List.range n).set p k).set k p=(List.range n).map (sw p k):=by
 apply Di
 ·simp
 ·intro i h1 h2
  simp only[Ch,C9]at h1
  rw[DQ,BL,Fw]
  unfold sw
  by_cases e:k=i
  ·subst e
   rw[Aw rfl]
   split
   ·rename_i h;exact h.symm
   ·rw[Aw rfl]
  ·rw[Ay e,DQ]
   by_cases e2:p=i
   ·subst e2;simp
   ·rw[Ay e2,Ay (λh=>e2 h.symm),Ay (λh=>e h.symm),Fw]
theorem AbU{n p k i:Nat}(hp:p < n)(hk:k < n)(hi:i < n):sw p k i < n:=by unfold sw;split;exact hk;split;exact hp;exact hi
theorem AjT{n p k:Nat}(hp:p < n)(hk:k < n):km n ((List.range n).map (sw p k)) []=true:=by
 refine wg ?_ λj hj=>?_
 ·unfold List.Nodup
  rw[Es]
  exact K5 (λh e=>h (Af9 e)) (show(List.range n).Pairwise (· ≠ ·)from Ed)
 ·obtain⟨i,hi,rfl⟩:=A5.1 hj
  exact⟨AbU hp hk (AB.1 hi),by simp⟩
def swL{α:Type}[Inhabited α](m:List α)(p k:Nat):List α:=(m.set k (m.getD p default)).set p (m.getD k default)
theorem Af8{α:Type}[Inhabited α]{m:List α}{p k:Nat}(hp:p < m.length)(hk:k < m.length):KS m ((List.range m.length).map (sw p k))=swL m p k:=by
 rw[iS m λj hj=>by obtain⟨i,hi,rfl⟩:=A5.1 hj;exact AbU hp hk (AB.1 hi),EU]
 unfold swL
 apply Di
 ·simp
 ·intro i h1 h2
  simp only[Aj,C9]at h1
  rw[BL,Fw,DQ]
  simp only[Function.comp]
  unfold sw
  by_cases e:p=i
  ·subst e;simp
  ·rw[Ay e,Ay (λh=>e h.symm),DQ]
   by_cases e2:k=i
   ·subst e2;simp
   ·rw[Ay e2,Ay (λh=>e2 h.symm),AO,Ae h1];rfl
abbrev Mx:=List (List Rt)
def atR(l:List Rt)(k:Nat):Rt:=l.getD k (0,0)
def Ni(m:Mx)(k:Nat):List Rt:=m.getD k []
def rowOk(n:Nat)(r:List Rt):Bool:=(r.length==n)&&r.all Pk
def fO(a:Mx)(b:List Rt):Bool:=(a.length==b.length)&&(a.all (rowOk b.length)&&b.all Pk)
def elF(f:Rt):List Rt->List Rt->Option (List Rt)
 |x::xs,y::ys=>cond ((Qh f y).2&&(kE x (Qh f y).1).2) ((elF f xs ys).map ((kE x (Qh f y).1).1:: ·)) none
 |_,_=>some []
def dG(p:Nat)(row piv:List Rt):Option (List Rt):=cond (aQ (atR row p) (atR piv p)).2 ((elF (aQ (atR row p) (atR piv p)).1 (row.drop p) (piv.drop p)).map (row.take p++ ·)) none
def ny(p:Nat)(m:Mx)(i:Nat):Option Mx:=cond (i==p) (some m) (cond ((atR (Ni m i) p).1==0) (some m) ((dG p (Ni m i) (Ni m p)).map (m.set i ·)))
def bE(p:Nat):Nat->Nat->Mx->Option Mx
 |0,_,m=>some m
 |j+1,i,m=>match ny p m i with
  |none=>none
  |some m'=>bE p j (i+1) m'
def ZQ(m:Mx)(p:Nat):Nat->Nat->Nat
 |0,k=>k
 |j+1,k=>cond ((atR (Ni m k) p).1==0) (ZQ m p j (k+1)) k
def Vd(n:Nat):Nat->Nat->Mx->Option Mx
 |0,_,m=>some m
 |j+1,p,m=>cond (ZQ m p (n - p) p==n) none (match bE p n 0 (swL m p (ZQ m p (n - p) p))with
  |none=>none
  |some m'=>Vd n j (p+1) m')
def cg(n:Nat)(m:Mx)(p:Nat):Sum Rt (List Rt×Bool):=cond (aQ (atR (Ni m p) n) (atR (Ni m p) p)).2 (.inl (aQ (atR (Ni m p) n) (atR (Ni m p) p)).1) (.inr ([],false))
def gd(a:Mx)(b:List Rt):Mx:=(List.range' 0 b.length).map λk=>Ni a k++[atR b k]
def WF(a:Mx)(b:List Rt):List Rt×Bool:=cond (decide (6 < (b.length:Int))) ([],false) (cond (fO a b) (match Vd b.length b.length 0 (gd a b)with
 |none=>([],false)
 |some m=>match R7 (cg b.length m) b.length 0 with
  |.inl x=>(x,true)
  |.inr o=>o) ([],false))
theorem Aab(n d:Int):(rNew n d).1.1.natAbs<=1000000000:=by
 have hr:∀n d:Int,(pi n d).1.1.natAbs<=1000000000:=λn d=>by
  unfold pi
  cases h:Pk (n.tdiv (Nat.gcd n.natAbs d.natAbs:Nat),d.tdiv (Nat.gcd n.natAbs d.natAbs:Nat))with
  |false=>simp
  |true=>exact(MJ h).2.2.1
 unfold rNew
 cases d==0 with
 |true=>simp
 |false=>
  cases Hv n (-4000000000000000000) 4000000000000000000 with
  |false=>simp
  |true=>
   cases Hv d (-4000000000000000000) 4000000000000000000 with
   |false=>simp
   |true=>
    cases decide (d < 0)with
    |true=>exact hr _ _
    |false=>exact hr _ _
theorem z9(a b:Rt): -9223372036854775808<=(Qh a b).1.1∧(Qh a b).1.1<=9223372036854775807:=by
 have h:(Qh a b).1.1.natAbs<=1000000000:=by
  unfold Qh
  cases Pk a with
  |false=>simp
  |true=>
   cases Pk b with
   |false=>simp
   |true=>exact Aab _ _
 omega
theorem dh{α:Type}(f:α->Bool):∀l:List α,Bt l (λ_ e=>f e)=l.any f
 |[]=>rfl
 |x::l=>by rw[lB,dh f l,Gd]
theorem nT{α:Type}(l:List α)(f:α->Bool):((List.range l.length).any λk=>Hg l k f)=l.any f:=dh f l
theorem not_any{α:Type}(l:List α)(f:α->Bool):(l.any λx=> !f x)= !l.all f:=by
 rw[List.not_all_eq_any_not]
theorem QR{l:List Rt}{k:Nat}(h:k < l.length):l[k]=atR l k:=by unfold atR;rw[AO,Ae h];rfl
theorem O3{m:Mx}{k:Nat}(h:k < m.length):m[k]=Ni m k:=by unfold Ni;rw[AO,Ae h];rfl
theorem MN{l:List Rt}{k:Nat}(h:k < l.length):AN l (k:Int)=some (atR l k):=by rw[AI h,QR h]
theorem Yi{m:Mx}{k:Nat}(h:k < m.length):AN m (k:Int)=some (Ni m k):=by rw[AI h,O3 h]
theorem aq{r:List Rt}(h:r.length<=lim):HK r=some (r.all Pk):=by
 unfold HK
 rw[QY (n:=r.length) (λk=>Hg r k λe=> !Pk e) false h (λk hk rec=>by
  show cond (decide ((k:Int) < (r.length:Int))) _ _=_
  rw[Bi hk,Ac,AI hk]
  simp only[G]
  rw[qw]
  simp only[G]
  rw[Bm hk (Ba h),BV hk]) (λrec=>by
  show cond (decide ((r.length:Int) < (r.length:Int))) _ _=_
  rw[Bc,Ab])]
 rw[nT,not_any]
 cases r.all Pk<;>rfl
theorem rr{row:List Rt}{k:Nat}(h:k < row.length)(y:Rt):(row.set k y).drop (k+1)=row.drop (k+1)∧(row.set k y).take (k+1)=row.take k++[y]:=by
 constructor
 ·rw[List.drop_set_of_lt (Md k)]
 ·rw[List.take_set,A6 h,Iy _ _ (by rw[At];omega),At,C8 (B4 h),H8];rfl
theorem xX{m:Mx}{i j:Nat}(r:List Rt)(h:i < m.length):Ni (m.set i r) j=if i=j then r else Ni m j:=by
 unfold Ni
 rw[AO,Ha,AO]
 split
 ·first|rfl|(rename_i e;subst e;rw[Aw h];rfl)
 ·rfl
theorem Abe{d:Rt×Bool}{piv:List Rt}:∀(j k:Nat) (row:List Rt) (f:Nat),k+j=row.length->j < f->row.length<=lim->piv.length=row.length->
  (∀t,elF d.1 (row.drop k) (piv.drop k)=some t->Ap (Is piv d) f (row,(k:Int))=some (.inl (row.take k++t)))∧
  (elF d.1 (row.drop k) (piv.drop k)=none->∃g,Ap (Is piv d) f (row,(k:Int))=some (.inr (false,g)))
 |0,k,row,f,hk,hf,hl,hvl=>by
  obtain⟨f,rfl⟩:∃g,f=g+1:=⟨f - 1,by omega⟩
  obtain rfl:k=row.length:=by omega
  rw[Mb,<-hvl,Mb]
  refine⟨λt ht=>?_,λh=>by cases h⟩
  cases ht
  rw[CM]
  show cond (decide ((piv.length:Int) < (row.length:Int))) _ _=_
  rw[hvl,Bc,Ab,AT,AR]
 |j+1,k,row,f,hk,hf,hl,hvl=>by
  obtain⟨f,rfl⟩:∃g,f=g+1:=⟨f - 1,by omega⟩
  have hk1:k < row.length:=by omega
  have hk2:k < piv.length:=by omega
  rw[BB hk1,BB hk2,elF,QR hk1,QR hk2,CM]
  have hB:Is piv d (Ap (Is piv d) f) (row,(k:Int))=cond (!(Qh d.1 (atR piv k)).2) (some (.inr (false,row,piv))) (cond (!(kE (atR row k) (Qh d.1 (atR piv k)).1).2) (some (.inr (false,row,piv))) (Ap (Is piv d) f (row.set k (kE (atR row k) (Qh d.1 (atR piv k)).1).1,((k+1:Nat):Int)))):=by
   show cond (decide ((k:Int) < (row.length:Int))) _ _=_
   rw[Bi hk1,Ac,MN hk2]
   simp only[G]
   rw[vd]
   simp only[G]
   rw[MN hk1]
   simp only[G]
   rw[Ada (z9 _ _)]
   simp only[G]
   rw[A1 (by omega),Bm hk1 (Ba hl)]
   simp only[En,Aq]
  rw[hB]
  cases(Qh d.1 (atR piv k)).2 with
  |false=>exact⟨λt ht=>(by cases ht),λ_=>⟨_,rfl⟩⟩
  |true=>
   rw[AL,An,Ab]
   cases(kE (atR row k) (Qh d.1 (atR piv k)).1).2 with
   |false=>exact⟨λt ht=>(by cases ht),λ_=>⟨_,rfl⟩⟩
   |true=>
    rw[Ac,An,Ab]
    have ih:=Abe (d:=d) (piv:=piv) j (k+1) (row.set k (kE (atR row k) (Qh d.1 (atR piv k)).1).1) f (by rw[Ch];omega) (by omega) (by rw[Ch];exact hl) (by rw[Ch];exact hvl)
    rw[(rr hk1 _).1,(rr hk1 _).2]at ih
    refine⟨λt ht=>?_,λhn=>ih.2 (by simpa using hn)⟩
    obtain⟨t',h1,h2⟩:=B5.1 ht
    rw[ih.1 t' h1,<-h2,Bk];rfl
theorem Ac4{row piv:List Rt}{p:Nat}(hl:row.length<=lim)(hvl:piv.length=row.length)(hp:p < row.length):(∀t,dG p row piv=some t->Nn row piv (p:Int)=some (true,t,piv))∧(dG p row piv=none->∃g,Nn row piv (p:Int)=some (false,g)):=by
 unfold Nn dG
 rw[MN hp,MN (by omega:p < piv.length)]
 simp only[G]
 rw[vb]
 simp only[G]
 cases(aQ (atR row p) (atR piv p)).2 with
 |false=>exact⟨λt ht=>(by cases ht),λ_=>⟨_,rfl⟩⟩
 |true=>
  rw[Ac,An,Ab]
  have h:=Abe (d:=aQ (atR row p) (atR piv p)) (piv:=piv) (row.length - p) p row fz (by omega) (by have:=DN hl;omega) hl hvl
  refine⟨λt ht=>?_,λhn=>?_⟩
  ·obtain⟨t',h1,h2⟩:=B5.1 ht
   rw[h.1 t' h1,<-h2]
  ·obtain⟨g,hg⟩:=h.2 (by simpa using hn)
   exact⟨g,by rw[hg]⟩
def XQ(n L:Nat)(m:Mx):Prop:=m.length=n∧∀i,i < n->(Ni m i).length=L
theorem XQ.set{n L i:Nat}{m:Mx}{r:List Rt}(h:XQ n L m)(hi:i < n)(hr:r.length=L):XQ n L (m.set i r):=
 ⟨by rw[Ch];exact h.1,λj hj=>by
  rw[xX _ (by rw[h.1];exact hi)]
  split
  ·exact hr
  ·exact h.2 j hj⟩
theorem p9{f:Rt}:∀{xs ys t:List Rt},elF f xs ys=some t->xs.length=ys.length->t.length=xs.length
 |[],_,t,h,_=>by cases h;rfl
 |x::xs,[],t,h,hl=>by simp at hl
 |x::xs,y::ys,t,h,hl=>by
  rw[elF]at h
  cases hb:(Qh f y).2&&(kE x (Qh f y).1).2 with
  |false=>rw[hb]at h;cases h
  |true=>
   rw[hb,Ac]at h
   obtain⟨t',h1,h2⟩:=B5.1 h
   rw[<-h2,AD,AD,p9 h1 (by simpa using hl)]
theorem ic{p:Nat}{row piv t:List Rt}(h:dG p row piv=some t)(hl:row.length=piv.length)(hp:p<=row.length):t.length=row.length:=by
 unfold dG at h
 cases hb:(aQ (atR row p) (atR piv p)).2 with
 |false=>rw[hb]at h;cases h
 |true=>
  rw[hb,Ac]at h
  obtain⟨t',h1,h2⟩:=B5.1 h
  have:=p9 h1 (by rw[Bx,Bx,hl])
  rw[<-h2,Au,At,this,Bx]
  omega
theorem xl{n L p i:Nat}{m m':Mx}(h:XQ n L m)(hs:ny p m i=some m')(hi:i < n)(hp:p < n)(hpl:p < L):XQ n L m':=by
 unfold ny at hs
 cases h1:i==p with
 |true=>rw[h1]at hs;cases hs;exact h
 |false=>
  rw[h1,Ab]at hs
  cases h2:(atR (Ni m i) p).1==0 with
  |true=>rw[h2]at hs;cases hs;exact h
  |false=>
   rw[h2,Ab]at hs
   obtain⟨t,h3,h4⟩:=B5.1 hs
   rw[<-h4]
   exact h.set hi (by rw[ic h3 (by rw[h.2 i hi,h.2 p hp]) (by rw[h.2 i hi];omega),h.2 i hi])
theorem fu{n L p:Nat}(hp:p < n)(hpl:p < L):∀{j i:Nat}{m m':Mx},i+j=n->XQ n L m->bE p j i m=some m'->XQ n L m'
 |0,_,_,_,_,h,hs=>by cases hs;exact h
 |j+1,i,m,m',hj,h,hs=>by
  rw[bE]at hs
  cases hr:ny p m i with
  |none=>rw[hr]at hs;cases hs
  |some m1=>rw[hr]at hs;exact fu hp hpl (by omega) (xl h hr (by omega) hp hpl) hs
theorem il{m:Mx}{k:Nat}(h:k < m.length):AN (GO 0 m) (k:Int)=some (k,Ni m k):=by
 rw[Hp,Z7,Ae h,O3 h,Cb,CH]
theorem eQ{α:Type}{m m':List α}(h:m'.length=m.length):km m'.length (Qc m) []=true∧KS m' (Qc m)=m':=by
 have e:Qc m=Qc m':=by rw[Vu,Vu,h]
 rw[e]
 exact⟨zC m',wy m'⟩
theorem jZ{b:List Rt}{L p:Nat}(hp:p < b.length)(hpl:p < L)(hn:b.length<=lim)(hL:L<=lim):∀(j i:Nat) (m:Mx) (f:Nat),i+j=b.length->j < f->XQ b.length L m->
  Ap (Oc b (p:Int)) f (m,(i:Int))=some (match bE p j i m with|some m'=>.inl m'|none=>.inr ([],false))
 |0,i,m,f,hj,hf,h=>by
  obtain⟨f,rfl⟩:∃g,f=g+1:=⟨f - 1,by omega⟩
  obtain rfl:i=b.length:=by omega
  rw[CM]
  show cond (decide ((b.length:Int) < (b.length:Int))) _ _=_
  rw[Bc];rfl
 |j+1,i,m,f,hj,hf,h=>by
  obtain⟨f,rfl⟩:∃g,f=g+1:=⟨f - 1,by omega⟩
  have hi:i < b.length:=by omega
  have him:i < m.length:=by rw[h.1];exact hi
  have hpm:p < m.length:=by rw[h.1];exact hp
  have hiL:=h.2 i hi
  obtain⟨hk1,hk2⟩:=eQ (m:=m) (m':=m) rfl
  rw[CM,bE]
  show cond (decide ((i:Int) < (b.length:Int))) _ _=_
  rw[Bi hi,Ac,Bm hi (Ba hn)]
  have hc:((i:Int)!=(p:Int))= !(i==p):=by
   rw[BX,G1,AH,Cg];omega
  rw[hc]
  unfold ny
  cases h1:i==p with
  |true=>
   rw[An,Ab,A1 hk1,hk2,Ac]
   exact jZ hp hpl hn hL j (i+1) m f (by omega) (by omega) h
  |false=>
   rw[CF,Ac,Ab,il him,il hpm]
   simp only[G]
   rw[MN (by rw[hiL];exact hpl)]
   simp only[G]
   rw[show((atR (Ni m i) p).1 !=0)= !((atR (Ni m i) p).1==0)from rfl]
   cases h2:(atR (Ni m i) p).1==0 with
   |true=>
    rw[An,Ab,A1 hk1,hk2,Ac]
    exact jZ hp hpl hn hL j (i+1) m f (by omega) (by omega) h
   |false=>
    have hne:i≠p:=by simpa using h1
    rw[CF,Ac,Ab,A1 (by
     cases hb:Nat.beq i p with
     |false=>rfl
     |true=>exact absurd (C0 hb) hne)]
    have hr:=Ac4 (p:=p) (row:=Ni m i) (piv:=Ni m p) (by rw[hiL];exact hL) (by rw[h.2 p hp,hiL]) (by rw[hiL];exact hpl)
    cases he:dG p (Ni m i) (Ni m p)with
    |none=>
     obtain⟨g,hg⟩:=hr.2 he
     rw[hg]
     simp only[G]
     rw[A1 (eQ (by unfold En;simp)).1]
     rfl
    |some t=>
     rw[hr.1 t he]
     simp only[G]
     have e:En (En m (i:Int) t) (p:Int) (Ni m p)=m.set i t:=by
      simp only[En,Aq]
      rw[List.set_comm _ _ hne,<-O3 hpm,List.set_getElem_self]
     rw[e]
     obtain⟨q1,q2⟩:=eQ (m:=m) (m':=m.set i t) (by simp)
     rw[A1 q1,q2,An,Ab,Cb]
     exact jZ hp hpl hn hL j (i+1) _ f (by omega) (by omega) (h.set hi (by rw[ic he (by rw[hiL,h.2 p hp]) (by rw[hiL];omega),hiL]))
theorem ph(m:Mx)(p:Nat):∀(j k:Nat),k<=ZQ m p j k∧ZQ m p j k<=k+j
 |0,k=>⟨AJ _,AJ _⟩
 |j+1,k=>by
  rw[ZQ]
  cases(atR (Ni m k) p).1==0 with
  |true=>rw[Ac];have:=ph m p j (k+1);omega
  |false=>rw[Ab];omega
theorem Abc{b:List Rt}{L p:Nat}{m:Mx}(h:XQ b.length L m)(hpl:p < L)(hn:b.length<=lim):∀(j k f:Nat),k+j=b.length->j < f->Ap (Ob b m (p:Int)) f (k:Int)=some ((ZQ m p j k:Nat):Int)
 |0,k,f,hk,hf=>by
  obtain⟨f,rfl⟩:∃g,f=g+1:=⟨f - 1,by omega⟩
  obtain rfl:k=b.length:=by omega
  rw[CM]
  show cond (decide ((b.length:Int) < (b.length:Int))) _ _=_
  rw[Bc];rfl
 |j+1,k,f,hk,hf=>by
  obtain⟨f,rfl⟩:∃g,f=g+1:=⟨f - 1,by omega⟩
  have hk1:k < b.length:=by omega
  rw[CM,ZQ]
  show cond (decide ((k:Int) < (b.length:Int))) _ _=_
  rw[Bi hk1,Ac,Yi (by rw[h.1];exact hk1)]
  simp only[G]
  rw[MN (by rw[h.2 k hk1];exact hpl)]
  simp only[G]
  cases(atR (Ni m k) p).1==0 with
  |true=>rw[Ac,Ac,Bm hk1 (Ba hn)];exact Abc h hpl hn j (k+1) f (by omega) (by omega)
  |false=>rfl
theorem xm{n L p k:Nat}{m:Mx}(h:XQ n L m)(hp:p < n)(hk:k < n):XQ n L (swL m p k):=by
 unfold swL
 have e:∀i,m.getD i default=Ni m i:=λ_=>rfl
 rw[e,e]
 exact(h.set hk (h.2 p hp)).set hp (h.2 k hk)
theorem mg{m:Mx}{k:Nat}(h:k < m.length):AN (Qc m) (k:Int)=some k:=by
 rw[Vu,Hp,F1 h]
theorem ik{n:Nat}:∀{j p:Nat}{m m':Mx},p+j=n->XQ n (n+1) m->Vd n j p m=some m'->XQ n (n+1) m'
 |0,_,_,_,_,h,hg=>by cases hg;exact h
 |j+1,p,m,m',hj,h,hg=>by
  rw[Vd]at hg
  have hb:=ph m p (n - p) p
  cases hk:ZQ m p (n - p) p==n with
  |true=>rw[hk]at hg;cases hg
  |false=>
   rw[hk,Ab]at hg
   have hk':ZQ m p (n - p) p≠n:=by simpa using hk
   cases hr:bE p n 0 (swL m p (ZQ m p (n - p) p))with
   |none=>rw[hr]at hg;cases hg
   |some m1=>
    rw[hr]at hg
    exact ik (by omega) (fu (by omega) (by omega) (by omega) (xm h (by omega) (by omega)) hr) hg
theorem qu{b:List Rt}(hn:b.length<=6):∀(j p:Nat) (m:Mx) (f:Nat),p+j=b.length->j < f->XQ b.length (b.length+1) m->
  Ap (Oa b) f (m,(p:Int))=some (match Vd b.length j p m with|some m'=>.inl m'|none=>.inr ([],false))
 |0,p,m,f,hj,hf,h=>by
  obtain⟨f,rfl⟩:∃g,f=g+1:=⟨f - 1,by omega⟩
  obtain rfl:p=b.length:=by omega
  rw[CM]
  show cond (decide ((b.length:Int) < (b.length:Int))) _ _=_
  rw[Bc];rfl
 |j+1,p,m,f,hj,hf,h=>by
  obtain⟨f,rfl⟩:∃g,f=g+1:=⟨f - 1,by omega⟩
  have hp:p < b.length:=by omega
  have hl:b.length<=lim:=by unfold lim;omega
  have hb:=ph m p (b.length - p) p
  rw[CM,Vd]
  show cond (decide ((p:Int) < (b.length:Int))) _ _=_
  rw[Bi hp,Ac,Abc h (by omega) hl (b.length - p) p fz (by omega) (by have:=DN hl;omega)]
  simp only[G]
  rw[show(((ZQ m p (b.length - p) p:Nat):Int)==(b.length:Int))=(ZQ m p (b.length - p) p==b.length)from by rw[BX,BG,BG];omega]
  cases hk:ZQ m p (b.length - p) p==b.length with
  |true=>rfl
  |false=>
   have hk':ZQ m p (b.length - p) p≠b.length:=by simpa using hk
   have hkb:ZQ m p (b.length - p) p < m.length:=by rw[h.1];omega
   have hpm:p < m.length:=by rw[h.1];exact hp
   rw[Ab,Ab,A1 (by rw[Vu,C9];omega),mg hkb,mg hpm]
   simp only[G]
   have e0:En (Qc m) (p:Int) (ZQ m p (b.length - p) p)=(List.range m.length).set p (ZQ m p (b.length - p) p):=by rw[Vu];simp only[En,Aq]
   have e1:En (En (Qc m) (p:Int) (ZQ m p (b.length - p) p)) ((ZQ m p (b.length - p) p:Nat):Int) p=(List.range m.length).map (sw p (ZQ m p (b.length - p) p)):=by
    rw[e0,<-xn hpm hkb];simp only[En,Aq]
   rw[e1,e0]
   have e2:AN ((List.range m.length).set p (ZQ m p (b.length - p) p)) ((ZQ m p (b.length - p) p:Nat):Int)=some (((List.range m.length).set p (ZQ m p (b.length - p) p))[ZQ m p (b.length - p) p]'(by simp;exact hkb)):=AI _
   rw[e2]
   simp only[G]
   rw[A1 (AjT hpm hkb),Af8 hpm hkb]
   have ho:=xm h hp (show ZQ m p (b.length - p) p < b.length by omega)
   have hs:=jZ (b:=b) (L:=b.length+1) hp (by omega) hl (by unfold lim;omega) b.length 0 (swL m p (ZQ m p (b.length - p) p)) fz (by omega) (DN hl) ho
   rw[show((0:Nat):Int)=0 from rfl]at hs
   rw[hs]
   cases hr:bE p b.length 0 (swL m p (ZQ m p (b.length - p) p))with
   |none=>rfl
   |some m1=>
    simp only[G]
    rw[Bm hp (Ba hl)]
    exact qu hn j (p+1) m1 f (by omega) (by omega) (fu hp (by omega) (by omega) ho hr)
theorem eG{α O:Type}{g:Nat->Sum α O}{h:Nat->α}:∀(j k:Nat),(∀i,k<=i->i < k+j->g i=.inl (h i))->R7 g j k=.inl ((List.range' k j).map h)
 |0,_,_=>rfl
 |j+1,k,hh=>by
  rw[R7,hh k (AJ _) (by omega),eG j (k+1) (λi h1 h2=>hh i (by omega) (by omega)),DR];rfl
theorem mF{α O:Type}{g:Nat->Sum α O}{o:O}{i:Nat}(hi:g i=.inr o):∀(j k:Nat),(∀i,k<=i->i < k+j->(∃x,g i=.inl x)∨g i=.inr o)->k<=i->i < k+j->R7 g j k=.inr o
 |0,k,_,h1,h2=>by omega
 |j+1,k,hh,h1,h2=>by
  rw[R7]
  rcases hh k (AJ _) (by omega)with⟨x,hx⟩|hx
  ·rw[hx]
   by_cases e:k=i
   ·subst e;rw[hi]at hx;cases hx
   ·simp only
    rw[mF hi j (k+1) (λi h1 h2=>hh i (by omega) (by omega)) (by omega) (by omega)]
  ·rw[hx]
theorem sE{α O:Type}(c:Nat->Bool)(h:Nat->α)(o:O)(n:Nat):R7 (λk=>cond (c k) (.inl (h k)) (.inr o)) n 0=cond ((List.range n).all c) (.inl ((List.range' 0 n).map h)) (.inr o):=by
 cases hc:(List.range n).all c with
 |true=>
  rw[Ac]
  exact eG n 0 λi _ hi=>by
   rw[Am.1 hc i (AB.2 (by omega))];rfl
 |false=>
  rw[Ab]
  obtain⟨i,hi,hb⟩:=List.all_eq_false.1 hc
  rw[AB]at hi
  have hb:c i=false:=by simpa using hb
  refine mF (i:=i) (by rw[hb];rfl) n 0 (λi _ _=>?_) (by omega) (by omega)
  cases c i with
  |true=>exact .inl ⟨_,rfl⟩
  |false=>exact .inr rfl
theorem AgZ(a:Mx)(f:List Rt->Bool):(List.range a.length).all (λk=>f (Ni a k))=a.all f:=by
 rw[BX,Am,Am]
 constructor
 ·intro h x hx
  obtain⟨i,hi,rfl⟩:=F0 hx
  rw[O3 hi];exact h i (AB.2 hi)
 ·intro h i hi
  rw[AB]at hi
  rw[<-O3 hi];exact h _ (Ad hi)
theorem Acj{a:Mx}{b:List Rt}(h:fO a b=true):XQ b.length (b.length+1) (gd a b):=by
 unfold fO at h
 simp only[Aa,BG]at h
 refine⟨by unfold gd;simp,λi hi=>?_⟩
 have ha:i < a.length:=by rw[h.1];exact hi
 have hr:=Am.1 h.2.1 _ (Ad ha)
 unfold rowOk at hr
 rw[Aa,BG,O3 ha]at hr
 unfold gd
 have:Ni ((List.range' 0 b.length).map λk=>Ni a k++[atR b k]) i=Ni a i++[atR b i]:=by
  rw[<-O3 (by simp;exact hi),BL]
  simp
 rw[this,Au,hr.1];rfl
theorem AhQ{b:List Rt}{m:Mx}(h:XQ b.length (b.length+1) m)(hl:b.length<=lim):Ap (Od b m) fz ([],0)=some (R7 (cg b.length m) b.length 0):=by
 rw[show(([]:List Rt),(0:Int))=(λ(s:List Rt) (k:Nat)=>(s,(k:Int))) [] 0 from rfl,
  Pm (n:=b.length) (O:=List Rt×Bool) (λs k=>(s,(k:Int))) (λk s=>s.length=k) (λk s=>tI s (cg b.length m k)) id hl (λrec s k hk hi=>?_) (λrec s hi=>?_) (λk s s' hk hi hs=>?_) [] rfl]
 ·rw[Zr]
  cases R7 (cg b.length m) b.length 0<;>rfl
 ·show cond (decide ((s:Int) < (b.length:Int))) _ _=_
  rw[Bi hk,Ac,Yi (by rw[h.1];exact hk)]
  simp only[G]
  rw[MN (by rw[h.2 s hk];omega),MN (by rw[h.2 s hk];omega)]
  simp only[G]
  rw[vb]
  simp only[G]
  unfold cg
  cases(aQ (atR (Ni m s) b.length) (atR (Ni m s) s)).2 with
  |false=>rfl
  |true=>
   rw[An,Ab,A1 (by rw[hi,Al];unfold lim at hl⊢;omega),Bm hk (Ba hl)]
   rfl
 ·show cond (decide ((b.length:Int) < (b.length:Int))) _ _=_
  rw[Bc];rfl
 ·unfold cg at hs
  cases hc:(aQ (atR (Ni m k) b.length) (atR (Ni m k) k)).2 with
  |false=>rw[hc]at hs;cases hs
  |true=>rw[hc]at hs;cases hs;rw[Au,hi];rfl
theorem Ahz{a:Mx}{b:List Rt}(hl:b.length<=6)(ha:a.length=b.length):Ap (N9 a b) fz ([],0)=some (cond (a.all (rowOk b.length)) (.inl (gd a b)) (.inr ([],false))):=by
 have hn:b.length<=lim:=by unfold lim;omega
 rw[show(([]:Mx),(0:Int))=(λ(s:Mx) (k:Nat)=>(s,(k:Int))) [] 0 from rfl,
  Pm (n:=b.length) (O:=List Rt×Bool) (λs k=>(s,(k:Int))) (λk s=>s.length=k) (λk s=>tI s (cond (rowOk b.length (Ni a k)) (.inl (Ni a k++[atR b k])) (.inr ([],false)):Sum (List Rt) (List Rt×Bool))) id hn (λrec s k hk hi=>?_) (λrec s hi=>?_) (λk s s' hk hi hs=>?_) [] rfl]
 ·rw[Zr,sE,<-ha,AgZ,ha]
  unfold gd
  cases a.all (rowOk b.length)<;>rfl
 ·have hka:s < a.length:=by rw[ha];exact hk
  show cond (decide ((s:Int) < (a.length:Int))) _ _=_
  rw[Bi hka,Ac,Yi hka]
  simp only[G]
  unfold rowOk
  by_cases hrl:(Ni a s).length=b.length
  ·rw[hrl,Dz,Ab,Dj,AL,aq (by rw[hrl];exact hn)]
   simp only[G]
   cases(Ni a s).all Pk with
   |false=>rfl
   |true=>
    rw[An,Ab]
    unfold JD
    rw[A1 (by rw[hrl];simp;unfold lim;omega),BI]
    simp only[G]
    rw[MN hk]
    simp only[G]
    rw[A1 (by rw[hrl,Al];unfold lim;omega),A1 (by rw[hi,Al];unfold lim;omega),Bm hk (Ba hn)]
    rfl
  ·rw[show(((Ni a s).length:Int)!=(b.length:Int))=true from by rw[G1];omega,Ac,show((Ni a s).length==b.length)=false from by simpa using hrl]
   rfl
 ·show cond (decide ((b.length:Int) < (a.length:Int))) _ _=_
  rw[ha,Bc];rfl
 ·cases hc:rowOk b.length (Ni a k)with
  |false=>rw[hc]at hs;cases hs
  |true=>rw[hc]at hs;cases hs;rw[Au,hi];rfl
theorem AhP{a:Mx}{b:List Rt}(hb:b.length<=lim):Jc a b=some (WF a b):=by
 unfold Jc WF
 cases h6:decide (6 < (b.length:Int))with
 |true=>rfl
 |false=>
  have hl:b.length<=6:=by have:=Kv h6;omega
  rw[Ab,Ab]
  unfold fO
  by_cases hal:a.length=b.length
  ·rw[hal,Dz,Dj,AL,Ab,aq hb]
   simp only[G]
   cases hv:b.all Pk with
   |false=>rw[Jv];rfl
   |true=>
    rw[An,Ab,Ahz hl hal,DG]
    simp only[G]
    cases hr:a.all (rowOk b.length)with
    |false=>rfl
    |true=>
     rw[Ac,Ac]
     have ho:=Acj (a:=a) (b:=b) (by unfold fO;rw[hal,Dj,hr,hv];rfl)
     have hg:=qu hl b.length 0 (gd a b) fz (by omega) (DN hb) ho
     rw[show((0:Nat):Int)=0 from rfl]at hg
     simp only[G]
     rw[hg]
     cases hm:Vd b.length b.length 0 (gd a b)with
     |none=>rfl
     |some m=>
      simp only[G]
      rw[AhQ (ik (by omega) ho hm) hb]
      simp only[G]
      cases R7 (cg b.length m) b.length 0<;>rfl
  ·rw[show((a.length:Int)!=(b.length:Int))=true from by rw[G1];omega,show(a.length==b.length)=false from by simpa using hal]
   rfl
theorem Ze{α O:Type}{P:O->Prop}{g:Nat->Sum α O}(h:∀k o,g k=.inr o->P o):∀{j k:Nat}{o:O},R7 g j k=.inr o->P o
 |0,_,_,e=>by cases e
 |j+1,k,o,e=>by
  rw[R7]at e
  cases hg:g k with
  |inr o'=>rw[hg]at e;cases e;exact h k _ hg
  |inl x=>
   rw[hg]at e
   cases hm:R7 g j (k+1)with
   |inl l=>simp only[hm]at e;cases e
   |inr o'=>simp only[hm]at e;cases e;exact Ze h hm
theorem Aav{a:Mx}{b x:List Rt}(h:WF a b=(x,true)):x.length=b.length:=by
 unfold WF at h
 cases h6:decide (6 < (b.length:Int))with
 |true=>rw[h6]at h;cases h
 |false=>
  rw[h6,Ab]at h
  cases hs:fO a b with
  |false=>rw[hs]at h;cases h
  |true=>
   rw[hs,Ac]at h
   cases hg:Vd b.length b.length 0 (gd a b)with
   |none=>rw[hg]at h;cases h
   |some m=>
    rw[hg]at h
    cases hm:R7 (cg b.length m) b.length 0 with
    |inl y=>simp only[hm]at h;cases h;exact Zf hm
    |inr o=>
     simp only[hm]at h
     exfalso
     have:=Ze (P:=λo=>o.2=false) (g:=cg b.length m) (λk o ho=>by
      unfold cg at ho
      cases hc:(aQ (atR (Ni m k) b.length) (atR (Ni m k) k)).2 with
      |false=>rw[hc]at ho;cases ho;rfl
      |true=>rw[hc]at ho;cases ho) hm
     rw[h]at this;cases this
end Go.Proofs.YtdnlfoelbfcmnaaGreatDoor
