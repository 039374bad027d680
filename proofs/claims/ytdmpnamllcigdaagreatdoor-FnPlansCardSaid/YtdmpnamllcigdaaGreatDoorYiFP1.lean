/- ExplainPlan: the reference and the program give the same. On the printed functions; conditions: lengths, numbers in range. -/
import Derived.Test.YtdmpnamllcigdaaGreatDoorAlFP1
import Derived.Test.YtdmpnamllcigdaaGreatDoorDcFP1
import Derived.Test.YtdmpnamllcigdaaGreatDoorNbFP1
import Derived.Test.YtdmpnamllcigdaaGreatDoorSvFP1
import Derived.Test.YtdmpnamllcigdaaGreatDoorQfFP1
open Go.RowKit
set_option linter.all false
namespace Go.Proofs.YtdmpnamllcigdaaGreatDoor
def j7(b:zI)(p:Int):zU:=40::(Rn b++[41])++(if 0<=p then YM p else [])
def jQ(x:List zI×zI)(k:Nat):zU:=match x.1[k]?,x.2[k]? with
 |some b,some p=>j7 b p
 |_,_=>[]
def OL(x:List zI×zI)(k:Nat):List zU:=(List.range k).map<|jQ x
def oF(x:List zI×zI)(k:Nat):OL x (k+1)=OL x k++[jQ x k]:=by unfold OL;rw[CO,Br];rfl
def UO(x:List zI×zI)(k:Nat):(OL x k).length=k:=by unfold OL;simp
def t7(x:List zI×zI):Prop:=x.2.length=x.1.length∧x.1.length<=1048576∧(∀b∈x.1,b.length<=5)∧∀p∈x.2,ir p
def il{x}(h:t7 x){k:Nat}(a:k < x.1.length):jQ x k=j7 (x.1[k]) (x.2[k]'(by rw[h.1];exact a)):=by
 have b:k < x.2.length:=by rw[h.1];exact a
 unfold jQ;rw[Af a,Af b]
def vr{b p}(c:b.length<=5)(a:ir p):(j7 b p).length<=27:=by
 have d:=QG b;have e:=SA a;unfold j7;rw[An,AC,An,Aj];split
 ·omega
 ·rw[Bn];omega
def uW{x}(h:t7 x)(k:Nat):(jQ x k).length<=27:=by
 rcases Bi k x.1.length with a|a
 ·rw[il h a];exact vr (h.2.2.1 _<|Ae a)<|h.2.2.2 _<|Ae _
 ·unfold jQ;rw[Bt a];simp
def cR{x}(h:t7 x)(k:Nat):∀w∈OL x k,w.length+([32]:zU).length<=28:=by intro w a;unfold OL at a;obtain⟨j,_,rfl⟩:=Aw.1 a;have:=uW h j;simp only[Aj];omega
def tY(x:List zI×zI):zU:=MD [32]<|OL x x.1.length
def Afa{x}(h:t7 x):Ix x=some (tY x):=by
 have c:x.1.length<=lim:=by have:=h.2.1;unfold lim;omega
 unfold Ix tY;rw[show((x.1.length:Int)!=(x.2.length:Int))=false by rw[h.1];simp,Ad]
 have:=Cm (body:=FL x) (out:=OL x x.1.length) (λk=>(OL x k,(k:Int))) x.1.length (λk a g=>by
  have b:k < x.2.length:=by rw[h.1];exact a
  have i:=h.2.2.1 _<|Ae a;have e:=h.2.2.2 _<|Ae b;have j:=QG x.1[k];have l:=SA e;have m:=UO x k;have f:x.1.length<=1048576:=h.2.1;rw[FL,oF,il h a];rw[Bq a,AV a,AV b,Ac,obs,rX uY,obs,AO (by simp only[Aj];unfold lim;omega),AO (by simp only[An,Aj];unfold lim;omega),obs];by_cases d:0<=x.2[k]
  ·rw[Ak d,Ac,obs,Ac8 e,obs,AO (by simp only[An,Aj];unfold lim;omega),FM,AO (by simp only[Aj];unfold lim;omega),BA a (Bk c)];unfold j7;rw[Az d];simp
  ·rw[Ah d,Ad,FM,AO (by simp only[Aj];unfold lim;omega),BA a (Bk c)];unfold j7;rw[AA d];simp) (λrec=>by rw[FL];rw[Bh];rfl) fz (Dp c)
 rw[show((([]:List zU),(0:Int)))=(OL x 0,((0:Nat):Int))from rfl,this,obs,wS (cR h x.1.length) (by rw[UO];have:=h.2.1;unfold lim;omega) (by rw[UO];exact c)];rfl
def Aim{x}(h:t7 x):IF x=some (tY x):=by
 have e:x.1.length<=lim:=by have:=h.2.1;unfold lim;omega
 unfold IF tY
 have:=Cm (body:=ES x) (out:=MD [32] (OL x x.1.length)) (λk=>(MD [32] (OL x k),(k:Int))) x.1.length (λk a b=>by
  have c:k < x.2.length:=by rw[h.1];exact a
  have m:=h.2.2.1 _<|Ae a;have f:=h.2.2.2 _<|Ae c;have n:=QG x.1[k];have o:=SA f;have g:=UO x k;have l:=XE [32] 28 (OL x k)<|cR h k;rw[g]at l;have i:x.1.length<=1048576:=h.2.1
  have j:∀y:zU,y.length<=k * 28+1->FN b x (k:Int) y=b (y++j7 x.1[k] x.2[k],((k+1:Nat):Int)):=by
   intro y p;rw[FN,AV a,obs,yY uY,obs,AO (by simp only[An,AC,Bn];unfold lim;omega),AV c,obs];by_cases d:0<=x.2[k]
   ·rw[Ak d,Ac,obs,lI f,obs,AO (by simp only[An,AC,Bn];unfold lim;omega),FO,BA a (Bk e)];unfold j7;rw[Az d,Bw]
   ·rw[Ah d,Ad,FO,BA a (Bk e)];unfold j7;rw[AA d,A7]
  rw[ES,oF,il h a,ct,g];rw[Bq a,Ac,show((x.1.length:Int)==(x.2.length:Int))=true by rw[h.1];simp,Ac];by_cases d:0 < k
  ·rw[Ak (aG:(0:Int) < (k:Int)),Ac,AA aG,AO (by simp only[Aj];unfold lim;omega),j _ (by simp only[An,Aj];omega)]
  ·obtain rfl:k=0:=aG;rw[Ah nF,Ad,Az rfl,j _ (by simp[OL,MD])];simp[OL,MD]) (λrec=>by rw[ES];rw[Bh];rfl) fz (Dp e)
 rw[show((([]:zU),(0:Int)))=(MD [32]<|OL x 0,((0:Nat):Int))from rfl,this];rfl
def Aau{q x}(h:Vp q x=true)(f:x.1.length<=1048576)(e:∀b∈x.1,b.length<=1048576)(hi:∀p∈x.2,ir p):t7 x:=by
 unfold Vp at h;simp only[Ab,At]at h;have⟨g,i,_,a,_⟩:=h;have j:=Wu i;have l:=LA g;refine⟨j,f,λb e=>?_,hi⟩;obtain⟨k,m,rfl⟩:=AE.1 e;have c:=FW a m;simp only[B8]at c;unfold RZ at c;simp only[Ab,At]at c;have d:=c.1;rw[TC,BN]at d;have n:BK x.1[k] (GP q.1 x.1[k])=false:=by rw[tq d.2];exact d.1
 have:=YE l n;omega
def rG(p:Pln):Prop:=p.2.2.1.length<=1048576∧(∀x∈p.2.2.1,ir x)∧p.2.2.2.1.length<=1048576∧(∀b∈p.2.2.2.1,b.length<=1048576)∧(∀x∈p.2.2.2.2,ir x)∧p.2.1.length<=1048576
def rH{q p}(e:MA q)(f:gY p)(s1:rG p):∃r,Pa q p=some r∧Io q p=some r:=by
 unfold Pa Io;rw[yW e f,wX e f,obs,obs];cases a:cA q p with
 |false=>exact⟨_,rfl,rfl⟩
 |true=>
  rw[Au,Ad,Ad];unfold cA at a;unfold HY;cases h:p.1==1 with
  |true=>
   have d:p.2.2.1.length<=1048576:=s1.1;have hi:∀x∈p.2.2.1,ir x:=s1.2.1;have b:(jf [32] p.2.2.1).length<=1048576 * 21:=by unfold jf;refine Bm (XE [32] 21 _<|λw i=>?_) (by rw[Ai];omega);obtain⟨x,j,rfl⟩:=Aw.1 i;have:=SA<|hi x j;simp only[Aj];omega
   rw[Ac,Ac,obs,Ac];rw[AO (by simp only[AC,Bn];unfold lim;omega),Aip d hi,AaT d hi,obs,obs,AO (by simp only[AC,Bn];unfold lim;omega),AO (by simp only[An,AC,Bn];unfold lim;omega)];exact⟨_,rfl,rfl⟩
  |false=>
   rw[h,Ad]at a;cases g:p.1==2 with
   |true=>
    rw[g,Ac]at a;have c:=Aau a s1.2.2.1 s1.2.2.2.1 s1.2.2.2.2.1;have b:(tY p.2.2.2).length<=1048576 * 28:=by unfold tY;refine Bm (XE [32] 28 _<|cR c _) ?_;rw[UO];have:=c.2.1;omega
    rw[Ad,Ac,Ad,Ac,obs,Ad,Ac];rw[AO (by simp only[AC,Bn];unfold lim;omega),Aim c,Afa c,obs,obs,AO (by simp only[AC,Bn];unfold lim;omega),AO (by simp only[An,AC,Bn];unfold lim;omega)];exact⟨_,rfl,rfl⟩
   |false=>
    rw[g,Ad]at a;cases k:p.1==3 with
    |false=>rw[k]at a;cases a
    |true=>have d:p.2.1.length<=1048576:=s1.2.2.2.2.2;have l:=QG p.2.1;rw[Ad,Ad,Ad,Ad,Ac,obs,Ad,Ad];rw[AO (by simp only[AC,Bn];unfold lim;omega),yY uY,rX uY,obs,obs,AO (by simp only[An,AC,Bn];unfold lim;omega),AO (by simp only[An,AC,Bn];unfold lim;omega),AO (by simp only[An,AC,Bn];unfold lim;omega),AO (by simp only[An,AC,Bn];unfold lim;omega)];refine⟨_,rfl,?_⟩;simp
section
variable {q:EM}{s:zI}
def AeE{L i k}(h:S9 q L=some (i,k)):k < q.2.1.length:=by
 unfold S9 at h;have⟨j,_,a⟩:=Dh h;split at a
 ·cases b:YN q L j with
  |none=>rw[b]at a;cases a
  |some m=>
   rw[b]at a;cases a;unfold YN at b;have⟨t,d,c⟩:=Dh b;split at c
   ·cases c;exact Ao.1 d
   ·cases c
 ·cases a
def runinQ:∀(f:Nat) (out:zN) (up:Nat->Int) (L:Nat->Bool),(∀j,-1<=up j∧up j<=(q.2.1.length:Int))->∀j,-1<=(runM q f out up L).2 j∧(runM q f out up L).2 j<=(q.2.1.length:Int)
 |0,out,up,L,h=>by rw[runM];exact h
 |f+1,out,up,L,h=>by
  rw[runM];cases a:S9 q L with
  |none=>exact h
  |some p=>
   have⟨i,k⟩:=p;have b:=AeE a;refine runinQ f _ _ _ λj=>?_
   show -1<=(if j=i then(k:Int)else up j)∧(if j=i then(k:Int)else up j)<=_;split
   ·omega
   ·exact h j
def tF:∀x∈(gyM q).2,-1<=x∧x<=(q.2.1.length:Int):=λx a=>by unfold gyM RN at a;obtain⟨j,_,rfl⟩:=Aw.1 a;exact runinQ _ _ _ _ (λj=>by omega) j
def oy:(gyM q).2.length=q.2.1.length:=by unfold gyM RN;simp
def yp{O}(b:ZU O)(c:O.length<=5):∀x∈(Qj O<|GB q).2,-1<=x∧x<=5:=λx a=>by unfold Qj at a;obtain⟨i,hi,rfl⟩:=Aw.1 a;have hi:=Ao.1 hi;rcases QH (G:=GB q) b hi with⟨e,_⟩|⟨k,e,_,d,_⟩<;>rw[e]<;>omega
def AjT(x:List zI×zI):Prop:=x.1.length<=5∧(∀b∈x.1,b.length<=5)∧x.2.length<=5∧∀p∈x.2,-1<=p∧p<=5
def Aek(d:Du q=true):AjT (iv q).1:=by
 have⟨g,h,j,k⟩:=Jk d;rcases vy (q:=q) _ (A5 _)with e|⟨O,f,e⟩
 ·unfold iv;rw[e];exact⟨BF _,λb a=>(by cases a),BF _,λp b=>(by cases b)⟩
 ·have⟨b,c⟩:=lr _ f;unfold iv;rw[e];refine⟨by rw[(Wm c).1];omega,λb a=>?_,by rw[(Wm c).2];omega,yp b aG⟩;rw[ff c]at a;obtain⟨i,_,rfl⟩:=Aw.1 a;rw[EI];have:=VT q.1.toNat<|oR q O i;unfold j5;omega
def vP:rG (chP q s).1∧gY (chP q s).1:=by
 have nil:∀k:Int,rG (k,[],[],([],[]))∧gY (k,[],[],([],[])):=λk=>⟨⟨BF _,λx a=>(by cases a),BF _,λb c=>(by cases c),λx a=>(by cases a),BF _⟩,BF _,by simp[lim],by simp[lim],λb c=>(by cases c),by simp[lim]⟩
 unfold chP;cases d:Du q with
 |false=>exact nil 0
 |true=>
  have⟨h,i,j,l⟩:=Jk d;rw[Ac];cases(s.length:Int)!=(q.2.1.length:Int)with
  |true=>exact nil 0
  |false=>
   rw[Ad];cases dl q with
   |true=>
    have f:=tF (q:=q);have m:=oy (q:=q);refine⟨⟨?_,λx a=>?_,(nil 0).1.2.2⟩,BF _,?_,(nil 0).2.2.2⟩
    ·show(gyM q).2.length<=1048576;omega
    ·have:=f x a;unfold ir;omega
    ·show(gyM q).2.length < lim;unfold lim;omega
   |false=>
    rw[Ad];cases decide (RQ (iv q).2.1 (dx<|cpP q).2.1 < 0)with
    |true=>
     have⟨n,e,o,g⟩:=Aek d;refine⟨⟨BF _,λx a=>(by cases a),?_,λb c=>?_,λx a=>?_,BF _⟩,BF _,by simp[lim],?_,λb c=>?_,?_⟩
     ·show(iv q).1.1.length<=1048576;omega
     ·have:=e b c;omega
     ·have:=g x a;unfold ir;omega
     ·show(iv q).1.1.length < lim;unfold lim;omega
     ·have:=e b c;unfold lim;omega
     ·show(iv q).1.2.length < lim;unfold lim;omega
    |false=>
     refine⟨⟨BF _,(nil 0).1.2.1,(nil 0).1.2.2.1,(nil 0).1.2.2.2.1,(nil 0).1.2.2.2.2.1,?_⟩,?_,(nil 0).2.2⟩
     ·show(WC q s q.1.toNat).length<=1048576;rw[Uz];omega
     ·show(WC q s q.1.toNat).length<=lim;rw[Uz];unfold lim;omega
end
section
variable {c:Cur}{q:EM}
def dcS(x:List zI×zI):Prop:=x.1.length<=5∧(∀b∈x.1,b.length<=6)∧x.2.length<=5∧∀p∈x.2,-1<=p∧p<=5
def AeA(b:MA q)(a:Du q=true):∃o,N3 q=some o∧o.length<=5:=by have h:=LA a;obtain⟨n,e⟩:∃n:Nat,q.1=(n:Int):=⟨q.1.toNat,aG⟩;refine⟨(List.range n).map λ(i:Nat)=>(i:Int),?_,by rw[Ai,BJ];omega⟩;unfold N3;have:=Cm (body:=IX q) (out:=(List.range n).map λ(i:Nat)=>(i:Int)) (λk=>((List.range k).map λ(i:Nat)=>(i:Int),(k:Int))) n (λk d f=>by unfold IX;simp only;rw[e,Bq d];simp only[Ac,Sq b,Aa,a];rw[AO (by rw[Ai,BJ,Aj];unfold lim;omega),wrap_in aG,CO,Br];rfl) (λrec=>by unfold IX;simp only;rw[e,Bh];rfl) fz (by unfold fz;omega);have g:Ay (IX q) fz (([]:zI),0)=some ((List.range n).map λ(i:Nat)=>(i:Int)):=this;rw[g];rfl
def AjU:dcS ([],[]):=⟨BF _,λb a=>(by cases a),BF _,λp b=>(by cases b)⟩
def zb(a:MA q):∃x,FQ q=some x∧dcS x:=by
 unfold FQ;rw[Sq a,Bj];cases f:Du q with
 |false=>exact⟨_,rfl,AjU⟩
 |true=>
  have⟨o,e,g⟩:=AeA a f;rw[Au,Ad,e,Bj];refine⟨_,rfl,by show 1<=5;omega,λb b=>?_,by show 1<=5;omega,λp d=>?_⟩
  ·rw[As]at b;subst b;omega
  ·rw[As]at d;subst d;omega
def Aaw(hs:MA q){V:zI}(hV:V.length<=5):Ef q V=some (([],[]),false)∨∃O,ZU O∧O.length=q.1.toNat∧Du q=true∧Ef q V=some (Qj O<|GB q,true):=by
 cases ho:Sf q V with
 |false=>left;unfold Ef;rw[lJ hs uY,ho];rfl
 |true=>
  right;have hv:Du q=true:=by unfold Sf at ho;rw[Ab]at ho;exact ho.1
  have⟨h1,h2,h3,h4⟩:=K7 ho;have hn:=LA hv
  have eV:oI (V.map Int.toNat)=V:=by
   unfold oI;rw[D4]
   conv=>rhs;rw[<-List.map_id V]
   exact Bd λv hv=>by show((v.toNat:Nat):Int)=v;have:=h3 v hv;omega
  have hl:(V.map Int.toNat).length=q.1.toNat:=by rw[Ai];omega
  have hp:ZU (V.map Int.toNat):=⟨by
   rw[Cr]at h2⊢;exact CV.2 (h2.imp_of_mem λha hb hne e=>hne (by have:=h3 _ ha;have:=h3 _ hb;omega)),λx hx=>by
   obtain⟨v,hv,rfl⟩:=Aw.1 hx;have:=h3 v hv;rw[hl];omega⟩
  refine⟨V.map Int.toNat,hp,hl,hv,?_⟩;have:=Amb hs hv hp hl
  rwa [eV]at this
def AjV{O}(a:ZU O)(d:O.length<=5):(Qj O<|GB q).1.length=O.length∧(Qj O<|GB q).2.length=O.length∧(∀b∈(Qj O<|GB q).1,1<=b.length∧b.length<=5)∧∀p∈(Qj O<|GB q).2,-1<=p∧p<=5:=by
 refine⟨by unfold Qj;simp,by unfold Qj;simp,λb e=>?_,yp a d⟩;unfold Qj at e;obtain⟨i,hi,rfl⟩:=Aw.1 e;have hi:=Ao.1 hi;refine⟨?_,Bm (by unfold OQ;exact Nc _ _) d⟩;have f:(OQ O (GB q) i).contains ((oAt O i:Nat):Int)=true:=by unfold OQ;rw[ZZ,Ak (Vz a hi)];unfold Vo W0;simp
 exact EQ<|Ag.1 f
def nZ{bs:List zI}{k:Int}{b:zI}(h:∀b∈bs,b.length<=6)(d:b.length<=6):∀x∈CY bs k b,x.length<=6:=λx a=>by
 unfold CY at a;rcases Dt a with a|a
 ·exact h x a
 ·rw[a];exact d
def vX(h:GJ c)(F:AnyQ q):Dr (RG c q) dcS:=by
 have r:=F.sm
 have j:0<=(if 0 < (if q.1 < 5 then q.1 else 5)then(if q.1 < 5 then q.1 else 5)else 0)∧(if 0 < (if q.1 < 5 then q.1 else 5)then(if q.1 < 5 then q.1 else 5)else 0)<=5:=by
  split
  ·rename_i M;refine⟨aG,?_⟩;split<;>omega
  ·omega
 unfold RG;generalize(if 0 < (if q.1 < 5 then q.1 else 5)then(if q.1 < 5 then q.1 else 5)else 0)=n at j⊢;have⟨l,N,G,P,i⟩:=rp h j.1 aG;rw[G,Bj];simp only;rcases Aaw (V:=l) r aG with e|⟨O,d,Q,H,e⟩
 ·have⟨x,s,t⟩:=zb r;rw[e,Bj,Cq,Ac,s,Bj];exact⟨_,_,rfl,t,i⟩
 ·rw[e,Bj,Au,Ad];clear e;have R:=LA H;have⟨A,B,m,g⟩:=AjV (q:=q) d aG;generalize Qj O (GB q)=X at A B m g⊢;have⟨bs,ps⟩:=X;simp only at A B m g⊢;have o:∀b∈bs,b.length<=6:=λb j=>by have:=(m b j).2;omega
  have⟨k,c2,e2,C,u⟩:=G9 i (n:=(bs.length:Int)) aG aG;rw[e2,Bj];simp only;have⟨w,S,I,T,a⟩:=G9 u (n:=10) aG aG;rw[I,Bj];simp only;have U:k=((k.toNat:Nat):Int):=aG;have D:AU bs k=some (bs[k.toNat]'aG):=by unfold AU;rw[Az C.1,Af]
  have J:AU ps k=some (ps[k.toNat]'aG):=by unfold AU;rw[Az C.1,Af]
  have K:=m _<|Ae (l:=bs) (n:=k.toNat) aG;cases w==0 with
  |true=>have⟨x,s,t⟩:=zb r;rw[Ac,s,Bj];exact⟨_,_,rfl,t,a⟩
  |false=>
   rw[Ad];cases w==1 with
   |true=>
    rw[Ac,AO aG,wrap_in (n:=(bs.length:Int)+1) aG];have⟨v,L,y,z,f⟩:=G9 a (n:=(bs.length:Int)+1) aG aG;rw[y,Bj,J,Bj];refine⟨_,_,rfl,⟨by show bs.length<=5;omega,o,by show(CY ps k _).length<=5;unfold CY;rw[By];omega,λp d=>?_⟩,f⟩;unfold CY at d;rcases Dt d with d|d
    ·exact g p d
    ·rw[d];simp only;rw[wrap_in aG];omega
   |false=>
    rw[Ad];cases w==2 with
    |true=>rw[Ac,AO aG,D,Bj,AO aG,Bj];exact⟨_,_,rfl,⟨by show(CY bs k _).length<=5;unfold CY;rw[By];omega,nZ o (by unfold CZ;rw[BH,AH];omega),by show ps.length<=5;omega,g⟩,a⟩
    |false=>
     rw[Ad];cases w==3 with
     |true=>have⟨v,L,y,z,f⟩:=G9 a (n:=6) aG aG;rw[Ac,AO aG,D,Bj,Bj,y,Bj,AO (by rw[Aj];unfold lim;omega),Bj];exact⟨_,_,rfl,⟨by show(CY bs k _).length<=5;unfold CY;rw[By];omega,nZ o (by rw[An,Aj];omega),by show ps.length<=5;omega,g⟩,f⟩
     |false=>exact⟨_,_,rfl,⟨by show bs.length<=5;omega,o,by show ps.length<=5;omega,g⟩,a⟩
def trS(l:zI):Prop:=l.length<=5∧∀x∈l,-1<=x∧x<=5
def Aag(e:AnyQ q):∃l b,Ir q=some (l,b)∧trS l:=by
 cases d:Du q with
 |false=>unfold Ir Rw La;rw[Sq e.sm,Bj,d,Ad,Bj];exact⟨[],false,rfl,BF _,λx a=>(by cases a)⟩
 |true=>
  rw[Al9 e.sm d];have f:=(Jk d).2.2.2;cases dl q with
  |false=>exact⟨[],false,rfl,BF _,λx a=>(by cases a)⟩
  |true=>exact⟨_,true,rfl,by rw[oy];omega,λx a=>by have:=tF x a;omega⟩
def AcC(h:GJ c)(p:AnyQ q):Dr (TP c q) trS:=by
 have⟨l,b,e,r⟩:=Aag p;have F:=p.2.2.2.1;unfold TP;rw[e,Bj];simp only
 have d:∀{c:Cur}(x:Bool),GJ c->Dr (Np q (l,b) c.1 c.2.1 c.2.2 x) trS:=by
  intro c x f;unfold Np Qb;cases x with
  |false=>exact⟨_,_,rfl,r,f⟩
  |true=>
   rw[Ac]
   have⟨o,e,u,y⟩:=Fu (B:=Qa q) (λs=>GJ (s.1,s.2.1,s.2.2.1)∧trS s.2.2.2.1∧s.2.2.2.2=(s.2.2.2.1.length:Int)∧s.2.2.2.1.length<=q.2.1.length) (λs=>q.2.1.length - s.2.2.2.1.length) (λo=>GJ (o.1,o.2.1,o.2.2.1)∧trS o.2.2.2) (λs z=>by
    have⟨b1,i,A,t,j⟩:=s;have⟨g,k,C,D⟩:=z;simp only at g k C D;by_cases G:t.length < q.2.1.length
    ·right;have⟨v,c',e,H,f⟩:=G9 g (n:=(q.2.1.length:Int)+1) aG aG;refine⟨(c'.1,c'.2.1,c'.2.2,t++[wZ (v - 1)],wZ<|j+1),⟨f,⟨?_,?_⟩,?_,?_⟩,?_,λrec=>?_⟩
     ·simp only[An,Aj];omega
     ·intro x a;rcases Al.1 a with a|a
      ·exact k.2 x a
      ·rw[As]at a;rw[a,wrap_in aG];omega
     ·simp only[An,Aj];rw[wrap_in aG];omega
     ·simp only[An,Aj];omega
     ·simp only[An,Aj];omega
     ·simp only[Qa];rw[Ak aG,Ac,wrap_in (n:=(q.2.1.length:Int)+1) aG,e,Bj,AO (by rw[Aj];unfold lim;omega)]
    ·left;refine⟨(b1,i,A,t),⟨g,k⟩,λrec=>?_⟩;simp only[Qa];rw[Ah aG];rfl) fz (c.1,c.2.1,c.2.2,[],0) ⟨f,⟨BF _,λx a=>(by cases a)⟩,rfl,BF _⟩ (by unfold fz;simp only[Bn];omega)
   rw[e,Bj];exact⟨_,_,rfl,y,u⟩
 cases(l.length:Int)==0 with
 |true=>rw[Ac];exact d true h
 |false=>rw[Ad];have⟨w,c2,e2,_,m⟩:=WB h (n:=3) aG aG;rw[e2,Bj];exact d w m
def plS(p:Pln):Prop:=p.2.1.length<=5∧trS p.2.2.1∧dcS p.2.2.2
def plS.sm{p}(h:plS p):gY p:=by obtain⟨e,⟨f,-⟩,g,a,i,-⟩:=h;exact⟨uY,uY,uY,λb d=>by have:=a b d;unfold lim;omega,uY⟩
def plS.fit{p}(h:plS p):rG p:=by have⟨i,⟨j,a⟩,k,e,l,f⟩:=h;exact⟨aG,λx d=>by have:=a x d;unfold ir;omega,aG,λb g=>by have:=e b g;omega,λx d=>by have:=f x d;unfold ir;omega,aG⟩
def AbR(h:GJ c)(i:AnyQ q):Dr (TS c q) plS:=by
 have⟨v,A,r,_,b⟩:=G9 h (n:=3) aG aG;have⟨o,c2,e2,j,d⟩:=Ah7 b q;have⟨x,B,s,m,e⟩:=vX d i;have⟨t,C,u,p,f⟩:=AcC e i;have⟨w,D,y,_,a⟩:=WB f (n:=14) aG aG;unfold TS;rw[r,Bj];simp only;rw[e2,Bj];simp only;rw[s,Bj];simp only;rw[u,Bj];simp only;rw[y,Bj];cases w with
 |false=>exact⟨_,_,rfl,⟨j,p,m⟩,a⟩
 |true=>have⟨k,F,z,_,g⟩:=XL a (l:=[0,4]) nF nF;rw[Ac];simp only;rw[z,Bj];exact⟨_,_,rfl,⟨j,p,m⟩,g⟩
def Aax{b}(h:b.length<=1048576):∃d q p,O9 b=some (d,q,p)∧DbD d∧(∀t∈d,Rw6 t.2.2)∧AnyQ q∧(Du q=true->Q5d q)∧plS p:=by unfold O9;have⟨c,e,i⟩:=AhZ h;have⟨d,s,j,⟨k,l⟩,a⟩:=Aez i;have⟨q,c2,e2,⟨g,m⟩,f⟩:=uN a;have⟨p,u,n,o,r⟩:=AbR f g;rw[e,Bj,j,Bj];simp only;rw[e2,Bj];simp only;rw[n,Bj];exact⟨d,q,p,rfl,k,l,g,m,o⟩
end
def vS(m:Nat)(L:Nat->Bool):QO (m+1) L=QO m L+cond (L m) 1 0:=by unfold QO;rw[CO,CQ,DD,DM,An];cases L m<;>rfl
def oU{m L T}(h:∀j,j < m->L j=T j):QO m L=QO m T:=by unfold QO;rw[FF λj a=>h j (Ao.1 a)]
def ku{L T:Nat->Bool}{i:Nat}:∀m,i < m->L i=true->QO m (λj=>(L j&&j !=i)&&T j)+cond (T i) 1 0=QO m (λj=>L j&&T j)
 |0,h,_=>by omega
 |m+1,h,hL=>by
  rw[vS,vS];by_cases e:i=m
  ·subst e;rw[oU (T:=λj=>L j&&T j) λj hj=>by rw[show(j !=i)=true from Cy.2 aG,CX],hL];simp
  ·have ih:=ku (T:=T) m aG hL;rw[show(m !=i)=true from Cy.2 λe'=>e e'.symm,CX];omega
def Aap{L:Nat->Bool}{i m:Nat}(hi:i < m)(a:L i=true):QO m (λj=>L j&&j !=i)+1=QO m L:=by have:=ku (T:=λ_=>true) m hi a;simpa using this
def AjR{m L}(h:QO m L=1):∃r,r < m∧L r=true∧∀j,j < m->L j=true->j=r:=by
 unfold QO at h;have⟨r,c⟩:=GN.1 h;have b:∀j,j∈(List.range m).filter L↔j=r:=λj=>by rw[c,As]
 have a:=(b r).2 rfl;rw[AM,Ao]at a;exact⟨r,a.1,a.2,λj d e=>(b j).1<|AM.2 ⟨Ao.2 d,e⟩⟩
section
variable {q:EM}
def wc{L i k}(h:S9 q L=some (i,k)):L k=true∧k≠i∧YP q L i k=true:=by
 unfold S9 at h;have⟨a,j,d⟩:=Dh h;split at d
 ·unfold YN at d;cases f:(List.range q.2.1.length).findSome? λk=>if(L k&&k !=a)&&YP q L a k then some k else none with
  |none=>rw[f]at d;cases d
  |some b=>
   rw[f]at d;simp only[BP,Av,Ch]at d;obtain⟨rfl,rfl⟩:=d;have⟨c,l,g⟩:=Dh f;split at g
   ·rename_i e;cases g;rw[Ab,Ab,Cy]at e;exact⟨e.1.1,e.1.2,e.2⟩
   ·cases g
 ·cases d
def AiP{m F}{j:Nat}(h:j < m):VG (RN m F) (j:Int)=F j:=by unfold VG RN;rw[Ax,BS,C8 h];rfl
def tpG(q:EM)(F:Nat->Int)(v:Int)(j:Nat):Bool:=aH q j v&&(decide (F j < 0) || !aH q (F j).toNat v)
def jX(q:EM)(L:Nat->Bool)(v:Int):Bool:=(List.range q.2.1.length).any λj=>L j&&aH q j v
def any_true{L v}:jX q L v=true↔∃j,j < q.2.1.length∧L j=true∧aH q j v=true:=by
 unfold jX;rw[BR];constructor
 ·rintro⟨j,a,h⟩;rw[Ab]at h;exact⟨j,Ao.1 a,h⟩
 ·rintro⟨j,a,h⟩;exact⟨j,Ao.2 a,by rw[Ab];exact h⟩
structure GyT (q:EM) (L:Nat->Bool) (F:Nat->Int):Prop where
 par:∀j,j < q.2.1.length->L j=true->F j= -1∨∃k:Nat,k < q.2.1.length∧F j=(k:Int)∧L k=true
 ends:∀j,j < q.2.1.length->L j=true->goUp (RN q.2.1.length F) (QO q.2.1.length L) (j:Int) < 0
 root:∃r,r < q.2.1.length∧L r=true∧F r= -1∧∀j,j < q.2.1.length->L j=true->F j= -1->j=r
 tops:∀v:Nat,v < q.1.toNat->QO q.2.1.length (λj=>L j&&tpG q F v j)=cond (jX q L v) 1 0
def wK{L up}(b:∀j,j < q.2.1.length->L j=true->up j= -1)(h:QO q.2.1.length L=1):GyT q L up:=by
 have⟨r,g,k,d⟩:=AjR h;refine⟨λj a c=>.inl<|b j a c,λj a c=>?_,⟨r,g,k,b r g k,λj a c _=>d j a c⟩,λv n=>?_⟩
 ·rw[h,goUp,Az aG,AiP a,b j a c,goUp];omega
 ·have m:∀j,j < q.2.1.length->(L j&&tpG q up v j)=(L j&&aH q j v):=λj a=>by
   cases c:L j with
   |false=>rfl
   |true=>unfold tpG;rw[b j a c];simp
  rw[oU m];cases e:jX q L v with
  |false=>
   rw[Ad];unfold QO;rw[List.filter_eq_nil_iff.2]
   ·rfl
   ·intro j a l;rw[Ab]at l;rw[any_true.2 ⟨j,Ao.1 a,l⟩]at e;cases e
  |true=>
   rw[Ac];have⟨j,a,c,f⟩:=any_true.1 e;rw[<-h];refine oU λi hi=>?_
   cases hL':L i with
   |false=>rfl
   |true=>rw[d i hi hL',<-d j a c,f];rfl
def wM:∀(f:Nat) (out:zN) (up:Nat->Int) (L:Nat->Bool),(∀j,j < q.2.1.length->L j=true->up j= -1)->(runM q f out up L).1.length+1=out.length+QO q.2.1.length L->(∀j,L j=false->(runM q f out up L).2 j=up j)∧GyT q L (runM q f out up L).2
 |0,out,up,L,l,s=>⟨λ_ _=>rfl,wK l<|by rw[runM]at s;simp only at s;omega⟩
 |f+1,out,up,L,l,s=>by
  rw[runM]at s⊢;cases D:S9 q L with
  |none=>rw[D]at s;exact⟨λ_ _=>rfl,wK l<|by simp only at s;omega⟩
  |some N=>
   have⟨i,k⟩:=N;rw[D]at s;simp only at s⊢;have⟨hi,H,m⟩:=TZ D;have⟨y,I,z⟩:=wc D;have O:=Aap hi m;have n:∀j,(L j&&j !=i)=true->L j=true∧j≠i:=λj h=>by rw[Ab,Cy]at h;exact h
   have t:(L k&&k !=i)=true:=by rw[y,show(k !=i)=true from Cy.2 I];rfl
   have⟨G,u⟩:=wM f (out++[i]) (λj=>if j=i then(k:Int)else up j) (λj=>L j&&j !=i) (λj g h=>by have⟨a,b⟩:=n j h;rw[AA b];exact l j g a) (by rw[An,Aj];omega);revert G u;generalize(runM q f (out++[i]) (λj=>if j=i then(k:Int)else up j)<|λj=>L j&&j !=i).2=F;intro G u;have o:F i=(k:Int):=by rw[G i nF,Az rfl]
   refine⟨λj g=>?_,⟨λj g A=>?_,λj g A=>?_,?_,λv M=>?_⟩⟩
   ·by_cases e:j=i
    ·subst e;rw[m]at g;cases g
    ·rw[G j (by rw[g];rfl),AA e]
   ·by_cases e:j=i
    ·subst e;exact .inr ⟨k,H,o,y⟩
    ·rcases u.par j g (by rw[A,show(j !=i)=true from Cy.2 e];rfl)with h|⟨k',a,b,c⟩
     ·exact .inl h
     ·exact .inr ⟨k',a,b,(n k' c).1⟩
   ·rw[<-O];by_cases e:j=i
    ·subst e;rw[goUp,Az aG,AiP g,o];exact u.ends k H t
    ·exact VV<|u.ends j g<|by rw[A,show(j !=i)=true from Cy.2 e];rfl
   ·have⟨r,a,b,c,d⟩:=u.root;refine⟨r,a,(n r b).1,c,λj g A w=>?_⟩;by_cases e:j=i
    ·subst e;rw[o]at w;omega
    ·exact d j g (by rw[A,show(j !=i)=true from Cy.2 e];rfl) w
   ·rw[<-ku (T:=tpG q F v) _ hi m,u.tops v M];have P:tpG q F v i=(aH q i v&& !aH q k v):=by unfold tpG;rw[o,Ah aG,Ax,Cg]
    have w:=Aq.1 z v<|Ao.2 M
    have p:jX q L v=(jX q (λj=>L j&&j !=i) v || aH q i v):=by
     rw[Bb,BZ,any_true,any_true];constructor
     ·rintro⟨j,g,a,b⟩;by_cases e:j=i
      ·subst e;exact .inr b
      ·exact .inl ⟨j,g,by rw[a,show(j !=i)=true from Cy.2 e];rfl,b⟩
     ·rintro(⟨j,g,a,b⟩|h)
      ·exact⟨j,g,(n j a).1,b⟩
      ·exact⟨i,hi,m,h⟩
    rw[p,P];have B:((List.range q.2.1.length).any λj=>(L j&&j !=i)&&aH q j (v:Int))=jX q (λj=>L j&&j !=i) v:=rfl;rw[B]at w;cases J:jX q (λj=>L j&&j !=i) v with
    |true=>
     rw[J]at w;cases C:aH q i v with
     |false=>rfl
     |true=>
      rw[C]at w;have x:aH q k v=true:=by simpa using w
      rw[x];rfl
    |false=>
     cases C:aH q i v with
     |false=>rfl
     |true=>
      have x:aH q k v=false:=by
       cases K:aH q k v with
       |false=>rfl
       |true=>rw[any_true.2 ⟨k,H,t,K⟩]at J;cases J
      rw[x];rfl
def Akc(l:Du q=true)(o:dl q=true):jtB q (gyM q).2=true:=by
 have⟨H,I,J,K⟩:=De l;have L:1<=q.2.1.length:=by unfold Du HH at l;simp only[Ab,AN]at l;omega
 have g:QO q.2.1.length (λ_=>true)=q.2.1.length:=by unfold QO;rw[NF.2 λ_ _=>rfl,BJ]
 unfold dl gyM at o;simp only at o;rw[EI]at o;have o:=DL o;obtain⟨-,p⟩:=wM (q:=q) q.2.1.length [] (λ_=> -1) (λ_=>true) (λ_ _ _=>rfl) (by rw[g,Bn];omega);have z:(gyM q).2=RN q.2.1.length (runM q q.2.1.length [] (λ_=> -1)<|λ_=>true).2:=rfl;rw[z];generalize(runM q q.2.1.length [] (λ_=> -1)<|λ_=>true).2=F at p;have d:(RN q.2.1.length F).length=q.2.1.length:=by unfold RN;rw[Ai,BJ]
 have e:∀j (c:j < (RN q.2.1.length F).length),(RN q.2.1.length F)[j]=F j:=λj c=>by have:=di c;rw[<-this,AiP aG]
 have m:∀j,j < q.2.1.length-> -1<=F j∧F j < (q.2.1.length:Int):=λj c=>by rcases p.par j c rfl with h|⟨k,a,b,-⟩<;>omega
 have A:wide (RN q.2.1.length F):=λi hi=>by have:=m i aG;rw[e i hi];omega
 have n:Tz (RN q.2.1.length F)=true:=by
  unfold Tz;rw[Ab,At];constructor
  ·refine FSQ λi hi=>?_
   have u:=m i aG;have t:=p.ends i aG rfl;rw[g]at t;rw[BN,B8,B8];refine⟨by unfold kU HH;rw[e i hi];simp;omega,?_⟩;unfold endsB;rw[eB A _ aG];simp only;rw[d,AN];exact VV t
  ·obtain⟨r,M,-,B,C⟩:=p.root;have:YB (λx=>decide (x < 0)) (RN q.2.1.length F) (RN q.2.1.length F).length=[r]:=by refine aR.2 ⟨⟨aG,by rw[B5 aG,e r aG,B];rfl⟩,λi hi D=>?_⟩;rw[B5 hi,e i hi,AN]at D;have:=m i aG;exact C i aG rfl aG
   rw[this];rfl
 unfold jtB;rw[l,d,C4,<-TV,n,AK,AK,AK,At];unfold aY;rw[BU];intro v f;have f:=Ao.1 f;have u:=p.tops v f;have s:jX q (λ_=>true) v=true:=by unfold Du at l;simp only[Ab,At]at l;have w:=BU.1 l.2.2.2.2 v<|Ao.2 f;simp only[At,H1]at w;unfold JI at w;have⟨a,y,G⟩:=BR.1 w;obtain⟨j,c,rfl⟩:=AE.1 y;exact any_true.2 ⟨j,c,rfl,by rw[<-Xc c];exact G⟩
 rw[s,Ac]at u
 have t:Nt (λa:J7=>a.2) q.2.1 (RN q.2.1.length F) (v:Int) (RN q.2.1.length F).length=1:=by
  rw[<-u,d];unfold Nt QO;congr 1;refine FF λj c=>?_
  have c:=Ao.1 c;unfold aX tpG;rw[B5 c,B5 (aG:j < (RN q.2.1.length F).length),e j aG,Xc c,AK];rfl
 rw[t];simp
variable {s:zI}
def cz{out}:∀k,(∃v:Nat,v < k∧out.contains (v:Int)=false)->∃w,UC q s out k=some w∧out.contains (w:Int)=false
 |0,⟨v,h,_⟩=>by omega
 |k+1,⟨v,h,b⟩=>by
  rw[pU];cases f:out.contains (k:Int)with
  |true=>
   rw[Az rfl];refine cz k ⟨v,?_,b⟩;by_cases e:v=k
   ·subst e;rw[f]at b;cases b
   ·omega
  |false=>
   rw[AA nF];cases g:UC q s out k with
   |none=>exact⟨k,rfl,f⟩
   |some w=>
    simp only;by_cases i:Aab q s out k w=true
    ·rw[Az i];exact⟨k,rfl,f⟩
    ·rw[AA i];refine⟨w,rfl,?_⟩;by_cases c:∃v:Nat,v < k∧out.contains (v:Int)=false
     ·have⟨w',l,e2⟩:=cz k c;rw[g]at l;cases l;exact e2
     ·have d:∀v:Nat,v < k->out.contains (v:Int)=true:=λv b=>by
       cases m:out.contains (v:Int)with
       |true=>rfl
       |false=>exact absurd ⟨v,b,m⟩ c
      exfalso
      have a:∀j,j<=k->UC q s out j=none:=by
       intro j;induction j with
       |zero=>intro _;rfl
       |succ j n=>intro o;rw[pU,d j aG,Az rfl];exact n aG
      rw[a k (A5 _)]at g;cases g
def out_ok{n:Nat}(hn:q.1.toNat=n):∀t,t<=n->(WC q s t).Nodup∧∀e∈WC q s t,0<=e∧e < (n:Int)
 |0,_=>⟨AZ,λe he=>by cases he⟩
 |t+1,ht=>by
  have⟨h1,h2⟩:=out_ok hn t aG
  have hex:∃v:Nat,v < n∧(WC q s t).contains (v:Int)=false:=by
   refine Bp λhno=>?_
   have hall:∀v:Nat,v < n->(v:Int)∈WC q s t:=λv hv=>by
    cases hc:(WC q s t).contains (v:Int)with
    |true=>exact Ag.1 hc
    |false=>exact absurd ⟨v,hv,hc⟩ hno
   have:=XI (l:=(List.range n).map λ(v:Nat)=>(v:Int)) (m:=WC q s t) (by
    unfold List.Nodup;rw[CV];exact FE (λh e=>h aG) C3) (λx hx=>by
    obtain⟨v,hv,rfl⟩:=Aw.1 hx;exact hall v (Ao.1 hv))
   rw[Ai,BJ,Uz]at this;omega
  rw[WC,hn];have⟨w,e1,e2⟩:=cz (q:=q) (s:=s) n hex;have hw:=lD q s _ n w e1;rw[e1];refine⟨AI.2 ⟨h1,nF,λa ha b hb e=>?_⟩,λe he=>?_⟩
  ·rw[As]at hb;subst hb;subst e;rw[show bI (some w)=(w:Int)from rfl]at ha;rw[Ag.2 ha]at e2;cases e2
  ·rcases Al.1 he with he|he
   ·exact h2 e he
   ·rw[As.1 he];show 0<=(w:Int)∧(w:Int) < (n:Int);omega
def AbG(c:Du q=true):Sf q (WC q s q.1.toNat)=true:=by obtain⟨g,d,-⟩:=De c;have⟨a,b⟩:=out_ok (q:=q) (s:=s) rfl q.1.toNat<|A5 _;unfold Sf;rw[c,Uz,zf ⟨aG,d⟩ a λe f=>by have:=b e f;omega];simp;omega
end
section
variable {q:EM}{s:zI}
def qG:∀k,k<=(UY q.1.toNat).length->(S7 q k).2.2=true->∃O∈UY q.1.toNat,(S7 q k).1=Qj O (GB q)
 |0,_,h=>by cases h
 |k+1,a,h=>by
  have b:=qG k aG;rw[qD a]at h⊢;generalize S7 q k=st at b h⊢;unfold bdS at h⊢;cases c: !st.2.2 || decide (RQ (wdB q (UY q.1.toNat)[k]) st.2.1 < 0)with
  |true=>exact⟨_,Ae a,rfl⟩
  |false=>rw[c]at h;exact b h
def vQ(h:(chP q s).2=true):cA q (chP q s).1=true:=by
 unfold chP at h⊢;cases a:Du q with
 |false=>rw[a]at h;cases h
 |true=>
  rw[a,Ac]at h;rw[Ac];cases d:(s.length:Int)!=(q.2.1.length:Int)with
  |true=>rw[d]at h;cases h
  |false=>
   rw[Ad];cases f:dl q with
   |true=>exact Akc a f
   |false=>
    rw[Ad];cases b:decide (RQ (iv q).2.1 (dx<|cpP q).2.1 < 0)with
    |true=>
     have b:=Gx b;cases c:(S7 q (UY q.1.toNat).length).2.2 with
     |false=>exfalso;have:=AcT _ (A5 _) c;unfold iv at b;rw[this,Aex]at b;omega
     |true=>have⟨O,g,e⟩:=qG _ (A5 _) c;have⟨i,j⟩:=lr _ g;show Vp q (iv q).1=true;unfold iv;rw[e];exact vY a i j
    |false=>exact AbG a
def Aam(h:(chP q s).2=true):∃r,HY (chP q s).1.1=some r∧r≠[]:=by
 have:=vQ h;unfold HY;unfold cA at this;cases a:(chP q s).1.1==1 with
 |true=>exact⟨_,rfl,nF⟩
 |false=>
  cases b:(chP q s).1.1==2 with
  |true=>exact⟨_,rfl,nF⟩
  |false=>
   cases c:(chP q s).1.1==3 with
   |true=>exact⟨_,rfl,nF⟩
   |false=>rw[a,b,c]at this;cases this
def Aj6{p:Pln}{r:zU}(b:J0 q p=some true)(h:Io q p=some r):r≠[]:=by
 unfold Io at h;rw[b,Bj,Au,Ad]at h;obtain⟨c,_,h⟩:=Bc h;obtain⟨_,h⟩:=Oe h;rcases LU h with⟨_,h⟩|⟨_,h⟩
 ·obtain⟨a,_,h⟩:=Bc h;obtain⟨_,h⟩:=Oe h;cases h;simp
 ·rcases LU h with⟨_,h⟩|⟨_,h⟩
  ·obtain⟨a,_,h⟩:=Bc h;obtain⟨_,h⟩:=Oe h;cases h;simp
  ·obtain⟨_,h⟩:=Oe h;obtain⟨a,_,h⟩:=Bc h;obtain⟨_,h⟩:=Oe h;obtain⟨_,h⟩:=Oe h;cases h;simp
end
section
variable {d:List N9}{q:EM}
def uR(d:List N9)(q:EM):zI:=q.2.1.map λa=>((VM d a).2.length:Int)
def Acj(h:Tn d)(e:MA q):Ru d q=some (cond (D7 d q) (uR d q,true) ([],false)):=by
 unfold Ru;rw[gM h e];simp only[Aa];cases f:D7 d q with
 |false=>rfl
 |true=>have⟨g1,g2,i⟩:=DG f;rw[Au,Ad,Kg (a:=q.2.1) (h:=λa=>((VM d a).2.length:Int)) uY (λk b g=>by have c:=g2 _<|Ae b;unfold Rv;simp only;rw[Bq b,Ac,AV b];simp only[Aa];rw[AnO h c.1 c.2];simp only;rw[AO (by simp only[Ai,AH,Aj];unfold lim;omega),BA b (Bk uY)]) (λrec y=>by unfold Rv;simp only[Bh,Ad])];rfl
end
def Aey(a b:zI):(DV a b !=0)= !(a==b):=by rw[bne,cmp_eq]
def y3{α β:Type}(f:α->β->Bool)(a:List α)(b:List β):Bool:=((a.length:Int)==(b.length:Int))&& !BK a λk x=> !HJ b k (f x)
def AkK(m n:Nat):((m:Int)!=(n:Int))= !((m:Int)==(n:Int)):=rfl
def p9(a b:List zI):Bool:=y3 (λx y=>x==y) a b
def s6(a b:Int×List zI):Bool:=(a.1==b.1)&&p9 a.2 b.2
def Abd{m n:Nat}(h:((m:Int)==(n:Int))=true):m=n:=by have h:=DL h;omega
def Aci{a b:Int×List zI}(h:GQ a.2):LN a b=some (s6 a b):=by
 unfold LN s6 p9 y3 BK;rw[AkK,bne];cases a.1==b.1 with
 |false=>rfl
 |true=>
  cases e:((a.2.length:Int)==(b.2.length:Int))with
  |false=>rfl
  |true=>have g:=Abd e;simp only[Au,Ad,AK];rw[Ew (λk=>HJ a.2 k λx=> !HJ b.2 k λy=>x==y) h.1 (λk c f=>by have d:k < b.2.length:=aG;unfold M2;rw[Bq c,AV c,AV d,BA c (Bk h.1),B5 c,B5 d];simp only[Ac,Aa,XM (h.2 _ (Ae c)),Aey]) (λrec=>by unfold M2;rw[Bh];rfl)];cases(List.range a.2.length).any λk=>HJ a.2 k λx=> !HJ b.2 k λy=>x==y<;>rfl
section
variable {d:List N9}{q:EM}
def Abx{a l}(h:Ml (a,sortB l)=true):(dY a l).1=(a,sortB l):=by
 have c:=(Mm h).2.2.2;have e:BK l (λ_ x=>SS a x)=false:=FSQ λi hi=>by have⟨b,f⟩:=c _<|(Fd _ _).2<|Ae hi;unfold SS;simp only at b;rw[f,b];simp
 unfold dY;rw[e,h];rfl
def nT(r:Rln):s6 r r=true:=by unfold s6 p9 y3;rw[FSQ (λi hi=>by rw[B5 hi];simp)];simp
def wn(h:Tn d)(b:MA q)(c:D7 d q=true)(g:Q5 q)(i:dk d q):∃out,(∀z,z∈out↔IsB d q z)∧It d q=some (pjG (q.1,sortB out) q.2.2):=by obtain⟨r,e,-,j⟩:=yQ h b;have⟨out,_,f,er⟩:=j c;have a:=qy c g i f;rw[Abx a]at er;subst er;refine⟨out,f,?_⟩;unfold It;rw[e,Bj,gM h b,Bj,c,Au,Ad,show((q.1,sortB out).1 !=q.1)=false by simp,Ad,AnR (s7 a) b.2.2,Bj]
def rF(h:Tn d)(a:MA q)(b:D7 d q=false):∃r,It d q=some r:=by obtain⟨r,e,c,-⟩:=yQ h a;unfold It;rw[e,Bj,gM h a,Bj,b];exact⟨_,rfl⟩
end
def ne{b}(k:AlS b):TK b=some true:=by
 by_cases R:1048576 < b.length
 ·unfold TK aw;rw[Ak (aG:(1048576:Int) < (b.length:Int))];rfl
 unfold TK aw;rw[Ah (aG:¬(1048576:Int) < (b.length:Int)),Bj,Ad];have⟨d,q,p,e,B,l,C,m,w⟩:=Aax (b:=b) aG;have f:=B.sm;have a:=C.sm;have i:=w.sm;rw[e,Bj];simp only;rw[AnA f a i,Bj,wX a i,Bj,yW a i,Bj];simp only[BEq.rfl,Au,Ad];rw[Bj]
 have o:∀S:Rln×Bool,Nk (d,q,p) false=some true:=by
  intro _;unfold Nk H6;simp only[Ad];rw[Acj f a,Bj];cases g:D7 d q with
  |false=>rw[Ad,Ac5 a,Bj];rfl
  |true=>
   rw[Ac];simp only;rw[Ac5 a,Bj,Au,Ad];obtain⟨g1,-⟩:=DG g
   have t:(chP q<|uR d q).2=true:=by
    unfold chP;rw[g1,Ac,show(((uR d q).length:Int)!=(q.2.1.length:Int))=false by unfold uR;rw[Ai];simp,Ad];cases dl q with
    |true=>rfl
    |false=>rw[Ad];cases decide (RQ (iv q).2.1 (dx<|cpP q).2.1 < 0)<;>rfl
   have h:=(vP (q:=q) (s:=uR d q)).2;have n:=vQ t;have⟨D,F,G⟩:=Aam t;have⟨H,T,x⟩:=rH a h (vP (q:=q) (s:=uR d q)).1;have I:=Aj6 (by rw[wX a h,n]) x;have⟨U,J,K⟩:=rH a i w.fit;rw[t,Ac,yW a h,Bj,n,Ac,F,Bj,show(D==[])=false from Be.2 G,Cq,Ac,x,Bj,show(H==[])=false from Be.2 I,Cq,Ac,K,Bj,J,Bj];simp
 cases n:cA q p with
 |false=>
  rw[Ad];have e2:(rpB d q p).2=false:=by unfold rpB;rw[n];rfl
  unfold Jt;rw[e2];simp only[BEq.rfl,Au,Ad];cases g:D7 d q with
  |false=>have⟨r,er⟩:=rF f a g;rw[er,Bj];exact o<|rpB d q p
  |true=>obtain⟨g1,-⟩:=DG g;have⟨out,_,er⟩:=wn f a g (m g1).q5<|rJ l g;rw[er,Bj];exact o<|rpB d q p
 |true=>
  rw[Ac,gM f a,Bj];cases g:D7 d q with
  |false=>
   have e2:(rpB d q p).2=false:=by unfold rpB;rw[g,Gf];rfl
   have⟨r,er⟩:=rF f a g;unfold Jt;rw[e2];simp only[BEq.rfl,Au,Ad];rw[er,Bj];exact o<|rpB d q p
  |true=>
   obtain⟨g1,-⟩:=DG g;have u:=(m g1).q5;have v:=rJ l g;have⟨out,y,er⟩:=wn f a g u v;have⟨L,M⟩:=Aii a g u v n y
   have h:GQ (pjG (q.1,sortB out) q.2.2).1.2:=by
    obtain⟨z,A,-⟩:=De g1;have j:BK q.2.2 (GP q.1 q.2.2)=false:=by unfold Du at g1;simp only[Ab,At]at g1;exact g1.2.2.1
    obtain⟨-,N⟩:=lN ⟨z,A⟩ j;have W:=YE ⟨z,A⟩ j;have⟨O,P⟩:=Yw (r:=(q.1,sortB out)) (c:=q.2.2) (qy g u v y) aG<|λe Q=>N e Q
    rw[O];exact s7 P
   unfold Jt;rw[L,M];simp only[BEq.rfl,Au,Ad];rw[er,Bj,Ac,Aci h,Bj,nT,Au];exact o<|rpB d q p
end Go.Proofs.YtdmpnamllcigdaaGreatDoor
