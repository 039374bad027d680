/- Evaluation by a join tree and by a decomposition gives all bindings, when values are small. Plain lists; conditions: a query for the database, few rows. -/
import Derived.Test.YtdmpnamllcigdaaGreatDoorYbFP1
import Derived.Test.YtdmpnamllcigdaaGreatDoorAlFP1
import Derived.Test.YtdmpnamllcigdaaGreatDoorQfFP1
import Derived.Test.YtdmpnamllcigdaaGreatDoorSvFP1
open Go.RowKit
set_option linter.all false
namespace Go.Proofs.YtdmpnamllcigdaaGreatDoor
def Lm(q:EM)(i:Nat):J7:=q.2.1.getD i ([],[])
def Vn{q i}(h:i < q.2.1.length):Lm q i=q.2.1[i]:=by unfold Lm;rw[AF,Af h];rfl
def Aef{q i}(h:¬i < q.2.1.length):Lm q i=([],[]):=by unfold Lm;rw[AF,Bt aG];rfl
def dk(d:List N9)(q:EM):Prop:=∀a∈q.2.1,(VM d a).2.length<=9∧∀x∈(VM d a).2,six x
def Q5(q:EM):Prop:=q.1<=4∨∀v,v∈(Lm q 1).2->v∈(Lm q 0).2∨v∈(Lm q 2).2
section
variable {d:List N9}{q:EM}
def TE{a}(b:LR a)(v:Int):v∈FJ a 5↔v∈a.2:=by rw[J8,Ag];exact⟨λh=>h.2,λh=>⟨b.2 v h,h⟩⟩
def aN(f:D7 d q=true){v:Int}:(∃a∈q.2.1,v∈FJ a 5)↔0<=v∧v < q.1:=by
 obtain⟨g1,g2,-⟩:=DG f;obtain⟨h,i,-,g⟩:=De g1;constructor
 ·rintro⟨a,b,c⟩;exact(g a b).2.2 v<|(TE (g2 a b).1 v).1 c
 ·rintro⟨j,k⟩;unfold Du at g1;simp only[Ab,At]at g1;have e:=BU.1 g1.2.2.2.2 v.toNat<|Ao.2 aG;simp only[At,H1]at e;unfold JI at e;have⟨a,b,c⟩:=BR.1 e;rw[show((v.toNat:Nat):Int)=v by omega]at c;exact⟨a,b,(TE (g2 a b).1 v).2<|Ag.1 c⟩
def me{z}(c:D7 d q=true)(e:(z.length:Int)=q.1):(∀a∈q.2.1,dz a z∈(VM d a).2)↔IsB d q z:=by
 obtain⟨g1,g2,-⟩:=DG c;constructor
 ·intro h;exact⟨e,λa b=>(s8 (g2 a b).1 (g2 a b).2).1<|h a b⟩
 ·intro h a b;exact(s8 (g2 a b).1 (g2 a b).2).2<|h.2 a b
def nV(h:D7 d q=true){v:JY}(j:QJ v=true)(k:∀x,x∈v.1↔0<=x∧x < q.1)(f:∀z:zI,(z.length:Int)=q.1->(Ij v.1 z∈v.2.2↔IsB d q z)){out:List Row}(l:∀z,z∈out↔IsB d q z):v.2=(q.1,sortB out):=by
 obtain⟨g1,-⟩:=DG h;obtain⟨r,s,-⟩:=De g1;have⟨a1,t,m,n,o⟩:=EK j
 have g:v.1=(List.range q.1.toNat).map λ(i:Nat)=>(i:Int):=by
  refine lt_eq (Wc a1).1 ?_ λx=>?_
  ·rw[CV];exact FE (λh=>by omega) GO
  ·rw[k,Aw];constructor
   ·rintro⟨b1,b2⟩;exact⟨x.toNat,Ao.2 aG,aG⟩
   ·rintro⟨i,hi,rfl⟩;have:=Ao.1 hi;omega
 have p:(v.1.length:Int)=q.1:=by rw[g,Ai,BJ];omega
 have a:∀z:zI,(z.length:Int)=q.1->Ij v.1 z=z:=λz b=>by
  unfold Ij;rw[g];refine Cp (by rw[Ai,Ai,BJ];omega) λi b1 b2=>?_
  rw[Bl,Bl,Ei,Dz b2]
 have c:v.2.2=sortB out:=WF n λz=>by
  rw[l];constructor
  ·intro b;have e:(z.length:Int)=q.1:=by have:=(m z b).1;omega
   exact(f z e).1 (by rw[a z e];exact b)
  ·intro b;have:=(f z b.1).2 b
   rwa [a z b.1]at this
 rw[<-c,<-p,<-o]
def Xe{i}(h:i < q.2.1.length):atT d q i=atV d (Lm q i):=by unfold atT;rw[AF,Af (by rw[Ai];exact h),Bz,Bl,Vn h]
def vj{i}(h:¬i < q.2.1.length):(atT d q i).1=[]:=by unfold atT;rw[AF,Bt (by rw[Ai];omega)];rfl
def Pn(a:D7 d q=true){i:Nat}(h:i < q.2.1.length):LR (Lm q i)∧FK d (Lm q i)=true∧Lm q i∈q.2.1:=by rw[Vn h];obtain⟨-,g2,-⟩:=DG a;exact⟨(g2 _<|Ae h).1,(g2 _<|Ae h).2,Ae h⟩
def Yk(hq:D7 d q=true)(h5:Q5 q){u:zI}(hu:u.Nodup)(hl:u.length=5)(hin:∀v∈u,0<=v∧v < q.1):(∀v,v∈(Lm q 1).2->v∈(Lm q 0).2∨v∈(Lm q 2).2)∧∀v:Int,0<=v->v < q.1->v∈u:=by
 obtain⟨g1,-⟩:=DG hq;obtain⟨q1,q2,-⟩:=De g1;have hn:=few q.1.toNat u hu λe he=>by have:=hin e he;omega
 refine⟨h5.resolve_left aG,λv h0 h1=>?_⟩;refine Bp λhv=>?_
 have:=few q.1.toNat (v::u) (BI.2 ⟨hv,hu⟩) λe he=>by
  rcases AL.1 he with rfl|he
  ·omega
  ·have:=hin e he;omega
 rw[AC]at this;omega
def AeM(f:D7 d q=true)(W:Q5 q)(X:dk d q){p:zI}(o:jtB q p=true){out:List Row}(Y:∀z,z∈out↔IsB d q z):ejB d q p=pjG (q.1,sortB out) q.2.2:=by
 obtain⟨-,R,G⟩:=XF o;have⟨ht,g⟩:=oP f o;have⟨r,Z,w⟩:=ZS G;obtain⟨g1,g2,-⟩:=DG f;have⟨q1,q2,q3,q4⟩:=De g1;have H:∀i,i < p.length->QJ (cx p (atT d q) i)=true:=λi hi=>Xb w g _ i hi
 have F:=AcZ f o;have h:∀i,(frT d q p i).1=(atT d q i).1:=λi=>by show(TT (Sk p) Wd (cx p<|atT d q) p.length i).1=_;rw[l5];exact dX _ _
 have B:∀i x,x∈(frT d q p i).2.2->x∈(atT d q i).2.2:=λi x b=>pN _ _<|zC _ _ b
 have rows:∀i,i < p.length->(frT d q p i).2.2.length<=9∧∀x∈(frT d q p i).2.2,six x:=λi hi=>by
  have c:i < q.2.1.length:=aG;have C:=X _ (Pn f c).2.2;have e:(atT d q i).2.2=(VM d<|Lm q i).2:=by rw[Xe c];rfl
  refine⟨?_,λx b=>C.2 x<|by rw[<-e];exact B i x b⟩;have n:=Wa (EK<|F i hi).2.2.2.1;have:=lf (m:=(VM d<|Lm q i).2) n λx b=>by rw[<-e];exact B i x b
  omega
 have I:∀i v,v∈(frT d q p i).1->0<=v∧v < q.1:=λi v b=>by
  rw[h]at b;by_cases hi:i < q.2.1.length
  ·rw[Xe hi]at b;exact(aN f).1 ⟨_,(Pn f hi).2.2,b⟩
  ·rw[vj hi]at b;cases b
 have⟨v,J⟩:=xV w F (λi hi=>(rows i hi).2) (λk l u L hk hl U n K hL s=>by
  have D:∀v∈u,0<=v∧v < q.1:=λv g=>by have⟨i,_,_,b⟩:=(U v).1 g;exact I i v b
  obtain⟨hQ,-⟩:=Yk f W n K D
  have⟨T,T1,M,T3⟩:=kA (m:=p.length) (V:=λi=>(frT d q p i).1) (S:=λi=>stS (Sk p) k l i) (u:=u) aG (λv g=>(U v).1 g) (λv g=>by
   simp only[h]at g⊢;by_cases C:1 < q.2.1.length
   ·rw[Xe C]at g;have h2:=hQ v<|(TE (Pn f C).1 v).1 g
    have t:∀j,v∈(Lm q j).2->v∈(atT d q j).1:=λj o=>by
     by_cases y:j < q.2.1.length
     ·rw[Xe y];exact(TE (Pn f y).1 v).2 o
     ·rw[Aef y]at o;cases o
    exact h2.imp (t 0)<|t 2
   ·rw[vj C]at g;cases g)
  refine dM (T.map λi=>((frT d q p i).1,(frT d q p i).2.2)) hL n (λx b=>(s x b).1) (by rw[Ai];exact T1) (λp' A=>?_) (λx b p' A=>?_)<|λv g=>?_
  ·obtain⟨i,hi,rfl⟩:=Aw.1 A;exact(rows i (M i hi).1).1
  ·obtain⟨i,hi,rfl⟩:=Aw.1 A;exact(s x b).2 i (M i hi).1 (M i hi).2
  ·have⟨i,hi,b⟩:=T3 v g;exact⟨_,Aw.2 ⟨i,hi,rfl⟩,b⟩)
 have⟨r1,r2⟩:=sF w F J;have vv:=Xa w F _ r v w.rn J
 have N:∀x,x∈v.1↔0<=x∧x < q.1:=λx=>by
  rw[r1,<-aN f];constructor
  ·rintro⟨i,hi,b⟩;have c:i < q.2.1.length:=aG;rw[h,Xe c]at b;exact⟨_,(Pn f c).2.2,b⟩
  ·rintro⟨a,O,b⟩;obtain⟨i,hi,rfl⟩:=AE.1 O;exact⟨i,aG,by rw[h,Xe hi,Vn hi];exact b⟩
 have P:∀z:zI,(z.length:Int)=q.1->(Ij v.1 z∈v.2.2↔IsB d q z):=λz hz=>by
  have e1:Fam p.length (frT d q p) z↔Fam p.length (cx p<|atT d q) z:=Ae3 w H z;have e2:Fam p.length (cx p<|atT d q) z↔Fam p.length (atT d q) z:=wu w g z;rw[r2,e1,e2,<-me f hz];constructor
  ·intro Q a O;obtain⟨i,hi,rfl⟩:=AE.1 O;have:=Q i aG;rw[Xe hi,Vn hi]at this;exact this
  ·intro Q i hi;have c:i < q.2.1.length:=aG;rw[Xe c];exact Q _ (Pn f c).2.2
 unfold ejB;rw[f,o,AK,Ac,Z,Ax,show nnJ p (frT d q p) r=some v from J];unfold AaC;simp only;rw[nV f vv N P Y]
def yy{A V z}(h:∀v∈V,v∈A):Fc (Ij A z) (V.map<|CA A)=Ij V z:=by unfold Fc Ij;rw[D4];exact Bd λv a=>Wi (EL z)<|h v a
def gx{a}(f:LR a)(g:FK d a=true)(b:zI):(Vd d a b).2.2=sortB ((VM d a).2.map λx=>Fc x<|(JZ (FJ a 5) b).map<|CA<|FJ a 5):=by have i:=kz (FJ a 5) b;have j:=NJ a 5;have:=(Yw (r:=VM d a) (c:=(JZ (FJ a 5) b).map<|CA<|FJ a 5) (Xd f g).1 (by rw[Ai];omega)<|λe h=>bG _ _ e h).1;unfold Vd;rw[this]
def Aia{a}(c:LR a)(e:FK d a=true)(b:zI){z:zI}(h:dz a z∈(VM d a).2):Ij (JZ (FJ a 5) b) z∈(Vd d a b).2.2:=by rw[gx c e,Fd,Aw];exact⟨_,h,yy λv f=>(AM.1 f).1⟩
def yz{a}(j:LR a)(k:FK d a=true){b:zI}(n:∀v∈a.2,v∈b):JZ (FJ a 5) b=FJ a 5∧(Vd d a b).2.2=(VM d a).2:=by
 have e:JZ (FJ a 5) b=FJ a 5:=NF.2 λv o=>Ag.2<|n v<|(TE j v).1 o
 refine⟨e,?_⟩;rw[gx j k,e];have l:=Xd j k;have f:X8 (VM d a).2:=((TL _).1 l.1).2.2.2;have g:=(Mm l.1).2.2.2;refine(WF f λx=>?_).symm;rw[Aw]
 have c:∀x∈(VM d a).2,Fc x ((FJ a 5).map<|CA<|FJ a 5)=x:=λx h=>by
  have p:(x.length:Int)=((FJ a 5).length:Int):=(g x h).1;unfold Fc;rw[D4];refine Cp (by rw[Ai];omega) λi b1 b2=>?_
  rw[Bl];show EL x (CA (FJ a 5) (FJ a 5)[i])=x[i];rw[V3 (bu a 5) aG,Dz b2]
 constructor
 ·intro h;exact⟨x,h,c x h⟩
 ·rintro⟨y,m,rfl⟩;rw[c y m];exact m
def sV{a}(f:LR a)(g:FK d a=true)(b:zI)(h:(VM d a).2.length<=9∧∀x∈(VM d a).2,six x):(Vd d a b).2.2.length<=9∧∀x∈(Vd d a b).2.2,six x:=by rw[gx f g];refine⟨by have:=K8<|(VM d a).2.map λx=>Fc x<|(JZ (FJ a 5) b).map<|CA<|FJ a 5;rw[Ai]at this;omega,λx i e j=>?_⟩;rw[Fd,Aw]at i;obtain⟨y,l,rfl⟩:=i;unfold Fc at j;obtain⟨c,m,rfl⟩:=Aw.1 j;have n:=bG _ _ c m;have o:(y.length:Int)=((FJ a 5).length:Int):=((Mm (Xd f g).1).2.2.2 y l).1;obtain⟨k,rfl⟩:=CT n.1;rw[Dz (aG:k < y.length)];exact h.2 y l _<|Ae _
def qW(hq:D7 d q=true)(h5:Q5 q)(h6:dk d q)(b:zI):∀k,k<=q.2.1.length->∃v,brI d q b k=some v∧QJ v=true∧(∀x∈v.2.2,six x)∧(∀x,x∈v.1↔∃j,j < k∧x∈JZ (FJ (Lm q j) 5) b)∧∀z,Ij v.1 z∈v.2.2↔∀j,j < k->JZ (FJ (Lm q j) 5) b≠[]->Ij (JZ (FJ (Lm q j) 5) b) z∈(Vd d (Lm q j) b).2.2
 |0,_=>⟨([],0,[[]]),rfl,rfl,λx hx e he=>(by rw[As]at hx;subst hx;cases he),λx=>⟨λh=>(by cases h),λ⟨j,hj,_⟩=>aG⟩,λz=>⟨λ_ j hj=>aG,λ_=>As.2 rfl⟩⟩
 |k+1,hk=>by
  have⟨v,e,hv,h1,h2,h3⟩:=qW hq h5 h6 b k aG;have hk':k < q.2.1.length:=hk;have⟨ha,hf,hm⟩:=Pn hq hk';obtain⟨g1,-⟩:=DG hq;have⟨q1,q2,q3,q4⟩:=De g1;rw[Aer hk',e,<-Vn hk'];unfold bgS;simp only;cases hc:((JZ (FJ (Lm q k) 5) b).length:Int)==0 with
  |true=>
   have he:JZ (FJ (Lm q k) 5) b=[]:=Fs.1 (by have:=DL hc;omega);rw[Ac];refine⟨v,rfl,hv,h1,λx=>?_,λz=>?_⟩
   ·rw[h2];constructor
    ·rintro⟨j,hj,hx⟩;exact⟨j,aG,hx⟩
    ·rintro⟨j,hj,hx⟩;by_cases ej:j=k
     ·subst ej;rw[he]at hx;cases hx
     ·exact⟨j,aG,hx⟩
   ·rw[h3];constructor
    ·intro g j hj hne;by_cases ej:j=k
     ·subst ej;exact absurd he hne
     ·exact g j aG hne
    ·intro g j hj hne;exact g j aG hne
  |false=>
   have hne:JZ (FJ (Lm q k) 5) b≠[]:=λh=>by rw[h]at hc;cases hc
   rw[Ad];have vp:=pV ha hf b;have⟨p1,p2⟩:=sV ha hf b<|h6 _ hm;have hpv:(Vd d (Lm q k) b).1=JZ (FJ (Lm q k) 5) b:=rfl;have a1:=(EK hv).1;have b1:=(EK vp).1
   have hu:∀x,x∈GD v.1 (Vd d (Lm q k) b).1↔∃j,j < k+1∧x∈JZ (FJ (Lm q j) 5) b:=λx=>by
    rw[M7 a1 b1,h2,hpv];constructor
    ·rintro(⟨j,hj,hx⟩|hx)
     ·exact⟨j,aG,hx⟩
     ·exact⟨k,aG,hx⟩
    ·rintro⟨j,hj,hx⟩;by_cases ej:j=k
     ·subst ej;exact .inr hx
     ·exact .inl ⟨j,aG,hx⟩
   have hnj:=sE hv vp
   have hres:∀z,Ij (GD v.1 (Vd d (Lm q k) b).1) z∈iq v (Vd d (Lm q k) b)↔∀j,j < k+1->JZ (FJ (Lm q j) 5) b≠[]->Ij (JZ (FJ (Lm q j) 5) b) z∈(Vd d (Lm q j) b).2.2:=λz=>by
    rw[pK hv vp,h3,hpv];constructor
    ·rintro⟨g1,g2⟩ j hj hnej;by_cases ej:j=k
     ·subst ej;exact g2
     ·exact g1 j aG hnej
    ·intro g;exact⟨λj hj hnej=>g j aG hnej,g k aG hne⟩
   have hu5:∀x∈GD v.1 (Vd d (Lm q k) b).1,0<=x∧x<=4:=λx hx=>((M7 a1 b1 x).1 hx).elim ((Wc a1).2 x)<|(Wc b1).2 x
   have hnd:=Adq hv vp;have hxl:∀x∈iq v (Vd d (Lm q k) b),x.length=(GD v.1 (Vd d (Lm q k) b).1).length:=λx hx=>((fX hv vp x).1 hx).1
   have hsix:=pL hv vp h1 p2
   have hfew:(iq v<|Vd d (Lm q k) b).length<=1296:=by
    have hlen:=eo v.1 (Vd d (Lm q k) b).1;by_cases hl5:(GD v.1 (Vd d (Lm q k) b).1).length=5
    ·have hin:∀x∈GD v.1 (Vd d (Lm q k) b).1,0<=x∧x < q.1:=λx hx=>by have⟨j,hj,hx⟩:=(hu x).1 hx;exact(aN hq).1 ⟨_,(Pn hq (aG:j < q.2.1.length)).2.2,(AM.1 hx).1⟩
     obtain⟨hQ,-⟩:=Yk hq h5 (VF _ _) hl5 hin
     have⟨T,T1,T2,T3⟩:=kA (m:=k+1) (V:=λj=>JZ (FJ (Lm q j) 5) b) (S:=λj=>JZ (FJ (Lm q j) 5) b≠[]) (u:=GD v.1 (Vd d (Lm q k) b).1) aG (λx hx=>by
      have⟨j,hj,hx⟩:=(hu x).1 hx;exact⟨j,hj,λhe=>(by rw[he]at hx;cases hx),hx⟩) (λx hx=>by
      have⟨x1,x2⟩:=AM.1 hx;have hx5:=(J8.1 x1).1;have hget:∀j,x∈(Lm q j).2->x∈JZ (FJ (Lm q j) 5) b:=λj hj=>AM.2 ⟨J8.2 ⟨hx5,Ag.2 hj⟩,x2⟩
      exact(hQ x (Ag.1 (J8.1 x1).2)).imp (hget 0) (hget 2))
     have:=dM (T.map λj=>(JZ (FJ (Lm q j) 5) b,(Vd d (Lm q j) b).2.2)) hnd (VF _ _) hxl (by rw[Ai];exact T1) (λp' hp'=>by
      obtain⟨j,hj,rfl⟩:=Aw.1 hp';have hjl:j < q.2.1.length:=by have:=(T2 j hj).1;omega
      have⟨ha',hf',hm'⟩:=Pn hq hjl;exact(sV ha' hf' b (h6 _ hm')).1) (λx hx p' hp'=>by
      obtain⟨j,hj,rfl⟩:=Aw.1 hp';have hself:=ja (VF v.1 (Vd d (Lm q k) b).1) (hxl x hx) hu5;rw[<-hself]at hx;have:=(hres _).1 hx j (T2 j hj).1 (T2 j hj).2
      rwa [Xq λv hv=>(Wc (vU (Lm q j) b)).2 v hv]at this) (λx hx=>by
      have⟨j,hj,hx⟩:=T3 x hx;exact⟨_,Aw.2 ⟨j,hj,rfl⟩,hx⟩)
     omega
    ·exact kv hnd hxl aG hsix
   have hbig:S8 v (Vd d (Lm q k) b)=false:=by unfold S8;rw[C1];omega
   have hop:Se (some v) (some<|Vd d (Lm q k) b)=some (lg v<|Vd d (Lm q k) b):=by unfold Se;simp only;rw[hbig];rfl
   refine⟨_,hop,nq hv vp hbig,λx hx=>hsix x<|(Fd _ x).1 hx,hu,λz=>?_⟩;rw[<-hres z];exact Fd _ _
def vJ(a:D7 d q=true)(c:Q5 q)(f:dk d q)(b:zI):∃v,kc d q b=some v∧QJ v=true∧(∀x∈v.2.2,six x)∧(∀x,x∈v.1↔∃j,j < q.2.1.length∧x∈JZ (FJ (Lm q j) 5) b)∧∀z,Ij v.1 z∈v.2.2↔∀j,j < q.2.1.length->JZ (FJ (Lm q j) 5) b≠[]->Ij (JZ (FJ (Lm q j) 5) b) z∈(Vd d (Lm q j) b).2.2:=by have⟨v,e,h⟩:=qW a c f b q.2.1.length<|A5 _;rw[kf]at e;exact⟨v,e,h⟩
end
section
variable {n r:Nat}{up:Nat->Option Nat}{K:Nat->zN}{D:Nat->Nat}(h:TrN n r up K D){H:Nat->Bool}
def tpH(up:Nat->Option Nat)(H:Nat->Bool)(i:Nat):Bool:=H i&&(match up i with
 |none=>true
 |some j=> !H j)
def y5{a b c}(d:SbT up a b)(f:SbT up b c):SbT up a c:=by
 induction f with
 |self=>exact d
 |up e _ g=>exact .up e g
include h
def AiH{c k x}(g:up c=some k)(i:H k=false)(b:SbT up c x):x < n->H x=true->∃t,t < n∧SbT up c t∧tpH up H t=true:=by
 induction b with
 |self=>intro a d;exact⟨c,a,.self,by unfold tpH;rw[d,g];simp[i]⟩
 | @up x j e b l=>
  intro a d;cases f:H j with
  |true=>exact l (dE h a e).1 f
  |false=>exact⟨x,a,.up e b,by unfold tpH;rw[d,e];simp[f]⟩
def AiI:∀d y,D y<=d->y < n->H y=true->∃t,t < n∧SbT up t y∧tpH up H t=true:=by
 intro d;induction d with
 |zero=>
  intro y f a c;cases e:up y with
  |none=>exact⟨y,a,.self,by unfold tpH;rw[c,e];rfl⟩
  |some j=>have:=dE h a e;omega
 |succ d g=>
  intro y f a c;cases e:up y with
  |none=>exact⟨y,a,.self,by unfold tpH;rw[c,e];rfl⟩
  |some j=>
   have i:=dE h a e;cases b:H j with
   |true=>have⟨t,k,l,m⟩:=g j aG i.1 b;exact⟨t,k,.up e l,m⟩
   |false=>exact⟨y,a,.self,by unfold tpH;rw[c,e];simp[b]⟩
def Ab8(e:∀s t,s < n->t < n->tpH up H s=true->tpH up H t=true->s=t){c k x y:Nat}(f:up c=some k)(g:SbT up c x)(i:x < n)(a:H x=true)(j:y < n)(b:¬SbT up c y)(d:H y=true):H k=true:=by
 cases l:H k with
 |true=>rfl
 |false=>have⟨t,m,o,p⟩:=AiH h f l g i a;have⟨s,s1,s2,q⟩:=AiI h (D y) y (A5 _) j d;have:=e t s m s1 p q;subst this;exact absurd (y5 o s2) b
end
section
variable {d:List N9}{q:EM}
def zB{x}(k:Vp q x=true){v:Int}(A:0<=v)(B:v < q.1):∀s t,s < x.2.length->t < x.2.length->tpH (Sk x.2) (λi=>(x.1.getD i []).contains v) s=true->tpH (Sk x.2) (λi=>(x.1.getD i []).contains v) t=true->s=t:=by
 obtain⟨C,n,m,-⟩:=VQ k;obtain⟨p,-⟩:=ig m;have c:Nt id x.1 x.2 v x.2.length=1:=by unfold Vp at k;simp only[Ab,At]at k;have:=BU.1 k.2.2.2.2.2 v.toNat<|Ao.2 aG;rw[show((v.toNat:Nat):Int)=v by omega]at this;simp at this;omega
 have g:∀s,s < x.2.length->tpH (Sk x.2) (λi=>(x.1.getD i []).contains v) s=true->s∈(List.range x.2.length).filter (aX id x.1 x.2 v):=λs e h=>by
  refine AM.2 ⟨Ao.2 e,?_⟩;have j:s < x.1.length:=aG;unfold aX;rw[B5 j,B5 e];unfold tpH at h;rw[Ab]at h;have⟨l,f⟩:=h;have l:(x.1.getD s []).contains v=true:=l;rw[AF,Af j,Bz]at l;rw[show(id x.1[s]).contains v=true from l,AK];unfold Sk at f;rw[di e]at f;by_cases u:0<=x.2[s]
  ·rw[Az u]at f;simp only at f;have D:=p s e;have o:x.2[s].toNat < x.1.length:=aG;rw[Ah aG,Cg,B5 o];rw[AF,Af o,Bz]at f;exact f
  ·rw[Ak aG];rfl
 intro s t e h w y;unfold Nt at c;have⟨r,z⟩:=GN.1 c;have a:=g s e w;have b:=g t h y;rw[z,As]at a b;omega
def AeL(s:D7 d q=true)(h5:Q5 q)(h6:dk d q){x:List zI×zI}(hd:Vp q x=true){out:List Row}(ho:∀z,z∈out↔IsB d q z):edB d q x=pjG (q.1,sortB out) q.2.2:=by
 obtain⟨g1,g2,-⟩:=DG s;have⟨q1,q2,q3,q4⟩:=De g1;have⟨A,hlen,htr,hbg⟩:=VQ hd;have W:(bsB d q x).2=true:=by unfold bsB;rw[hd,s,vL λi hi=>by obtain⟨v,e,-⟩:=vJ s h5 h6 x.1[i];rw[e];rfl];rfl
 obtain⟨-,-,-,o⟩:=wg W;have⟨r,hr,I⟩:=ZS htr
 have g:∀i,i < x.2.length->∃b,x.1.getD i []=b∧b∈x.1∧(∀e∈b,0<=e∧e < q.1)∧(∀y∈(iw d q x i).2.2,six y)∧(∀y,y∈(iw d q x i).1↔y∈b)∧∀z,Ij (iw d q x i).1 z∈(iw d q x i).2.2↔∀j,j < q.2.1.length->JZ (FJ (Lm q j) 5) b≠[]->Ij (JZ (FJ (Lm q j) 5) b) z∈(Vd d (Lm q j) b).2.2:=λi hi=>by
  have O:i < x.1.length:=aG;have J:=Ae O;have⟨v,e,e1,e2,e3,e4⟩:=vJ s h5 h6 x.1[i];have X:iw d q x i=v:=by unfold iw;rw[AF,Af (by rw[Ai];exact O),Bz,Bl];unfold bsV;rw[e];rfl
  have B:∀e∈x.1[i],0<=e∧e < q.1:=λe X=>by have Y:=hbg _ J;unfold RZ at Y;rw[Ab,At,TC x.1[i] (λ_ e=>Py q.1 e) (λk e=>Iw x.1[i] k e),BN]at Y;have:=Ln Y.1.1 X;unfold Py HH at this;rw[wrap_in aG]at this;simp at this;omega
  refine⟨x.1[i],by rw[AF,Af O];rfl,J,B,by rw[X];exact e2,λy=>?_,by rw[X];exact e4⟩;rw[X,e3];constructor
  ·rintro⟨j,f,p⟩;exact Ag.1 (AM.1 p).2
  ·intro p;have⟨a,t,P⟩:=(aN s).2<|B y p;obtain⟨j,f,rfl⟩:=AE.1 t;exact⟨j,f,AM.2 ⟨by rw[Vn f];exact P,Ag.2 p⟩⟩
 have C:∀i,i < x.2.length->∀j,j < q.2.1.length->(∀v∈(Lm q j).2,v∈x.1.getD i [])->∀z,Ij (iw d q x i).1 z∈(iw d q x i).2.2->dz (Lm q j) z∈(VM d<|Lm q j).2:=λi hi j f h z hz=>by
  obtain⟨b,e,-,-,-,-,b4⟩:=g i hi;rw[e]at h;have⟨t,hf,J⟩:=Pn s f;have⟨p1,p2⟩:=yz t hf h;have hne:JZ (FJ (Lm q j) 5) b≠[]:=by rw[p1];intro h0;obtain⟨h1,-,-⟩:=q4 _ J;have:(Lm q j).2[0]'aG∈FJ (Lm q j) 5:=(TE t _).2<|Ae _;rw[h0]at this;cases this
  have:=(b4 z).1 hz j f hne;rw[p1,p2]at this;exact this
 have D:∀j,j < q.2.1.length->∃y,y < x.2.length∧∀v∈(Lm q j).2,v∈x.1.getD y []:=λj f=>by have U:=hd;unfold Vp at U;simp only[Ab,At]at U;have:=Ln U.2.2.2.2.1 (Pn s f).2.2;rw[B8,BR]at this;have⟨b,Y,B⟩:=this;obtain⟨y,p,rfl⟩:=AE.1 Y;refine⟨y,aG,λv o=>?_⟩;rw[AF,Af p,Bz];unfold TI at B;exact Ag.1<|Aq.1 B v o
 have Q:∀i,i < x.2.length->QJ (cx x.2 (iw d q x) i)=true:=λi hi=>Xb I o _ i hi
 have n:∀i,(cx x.2 (iw d q x) i).1=(iw d q x i).1:=λi=>dX _ _
 have K:∀i y,y∈(cx x.2 (iw d q x) i).2.2->y∈(iw d q x i).2.2:=λi y p=>pN _ _ p
 have⟨v,ev⟩:=xV I Q (λi hi y p=>by obtain⟨b,-,-,-,b1,-⟩:=g i hi;exact b1 y (K i y p)) (λk l u L hk hl hu Z h5' hL M=>by
  have F:∀v∈u,0<=v∧v < q.1:=λv o=>by have⟨i,hi,_,G⟩:=(hu v).1 o;rw[n]at G;obtain⟨b,-,-,b0,-,b2,-⟩:=g i hi;exact b0 v<|(b2 v).1 G
  have⟨hQ,hall⟩:=Yk s h5 Z h5' F;have hu4:∀v∈u,0<=v∧v<=4:=λv o=>by have:=F v o;omega
  have hsat:∀j,j < q.2.1.length->∀y∈L,Mp u y (FJ (Lm q j) 5)∈(VM d<|Lm q j).2:=λj f y p=>by
   have⟨t,hf,J⟩:=Pn s f
   have hex:∃i,i < x.2.length∧stS (Sk x.2) k l i∧∀v∈(Lm q j).2,v∈x.1.getD i []:=by
    have⟨w,hw,hwv⟩:=D j f;by_cases hS:stS (Sk x.2) k l w
    ·exact⟨w,hw,hS,hwv⟩
    ·refine⟨k,hk,.inl rfl,λv o=>?_⟩;have A:=(q4 _ J).2.2 v o;have⟨i,hi,hs,G⟩:=(hu v).1<|hall v A.1 A.2;rw[n]at G;obtain⟨b,e,-,-,-,b2,-⟩:=g i hi;have hvb:v∈x.1.getD i []:=by rw[e];exact(b2 v).1 G
     rcases hs with rfl|⟨c,U,hs⟩
     ·exact hvb
     ·have hup:=((I.kid k c).1<|hl c U).2;have:=Ab8 I (H:=λi=>(x.1.getD i []).contains v) (zB hd A.1 A.2) hup hs hi (Ag.2 hvb) hw (λhn=>hS<|.inr ⟨c,U,hn⟩)<|Ag.2<|hwv v o;exact Ag.1 this
   have⟨i,hi,hs,h⟩:=hex;have h7:=(M y p).2 i hi hs;have h8:=K i _ h7;rw[n,<-Xq λv o=>by obtain⟨b,-,-,b0,-,b2,-⟩:=g i hi;have:=b0 v ((b2 v).1 o);omega]at h8;have h9:=C i hi j f h _ h8;rw[show dz (Lm q j) (i9 u y)=Ij (FJ (Lm q j) 5) (i9 u y)from rfl,Xq λv o=>by have:=(J8.1 o).1;omega]at h9;exact h9
  have⟨T,T1,T2,T3⟩:=kA (m:=q.2.1.length) (V:=λj=>FJ (Lm q j) 5) (S:=λ_=>True) (u:=u) aG (λv o=>by
   have⟨a,t,G⟩:=(aN s).2<|F v o;obtain⟨j,f,rfl⟩:=AE.1 t;exact⟨j,f,trivial,by rw[Vn f];exact G⟩) (λv o=>by
   have hx5:=(J8.1 o).1;have N:∀j,v∈(Lm q j).2->v∈FJ (Lm q j) 5:=λj f=>J8.2 ⟨hx5,Ag.2 f⟩
   exact(hQ v (Ag.1 (J8.1 o).2)).imp (N 0) (N 2))
  refine dM (T.map λj=>(FJ (Lm q j) 5,(VM d<|Lm q j).2)) hL Z (λy p=>(M y p).1) (by rw[Ai];exact T1) (λp' R=>?_) (λy p p' R=>?_)<|λv o=>?_
  ·obtain⟨j,f,rfl⟩:=Aw.1 R;exact(h6 _ (Pn s (T2 j f).1).2.2).1
  ·obtain⟨j,f,rfl⟩:=Aw.1 R;exact hsat j (T2 j f).1 y p
  ·have⟨j,f,G⟩:=T3 v o;exact⟨_,Aw.2 ⟨j,f,rfl⟩,G⟩)
 have⟨r1,r2⟩:=sF I Q ev;have vv:=Xa I Q _ r v I.rn ev
 have hv1:∀y,y∈v.1↔0<=y∧y < q.1:=λy=>by
  rw[r1];constructor
  ·rintro⟨i,hi,p⟩;rw[n]at p;obtain⟨b,-,-,b0,-,b2,-⟩:=g i hi;exact b0 y<|(b2 y).1 p
  ·intro p;have⟨a,t,P⟩:=(aN s).2 p;obtain⟨j,f,rfl⟩:=AE.1 t;have⟨i,hi,h⟩:=D j f;obtain⟨b,e,-,-,-,b2,-⟩:=g i hi;refine⟨i,hi,?_⟩;rw[n,b2,<-e];refine h y ?_;rw[Vn f];exact(TE (g2 _ t).1 y).1 P
 have hvz:∀z:zI,(z.length:Int)=q.1->(Ij v.1 z∈v.2.2↔IsB d q z):=λz hz=>by
  have e2:Fam x.2.length (cx x.2<|iw d q x) z↔Fam x.2.length (iw d q x) z:=wu I o z;rw[r2,e2,<-me s hz];constructor
  ·intro hF a t;obtain⟨j,f,rfl⟩:=AE.1 t;have⟨i,hi,h⟩:=D j f;have:=C i hi j f h z<|hF i hi
   rwa [Vn f]at this
  ·intro hF i hi;obtain⟨b,e,-,-,-,-,b4⟩:=g i hi;refine(b4 z).2 λj f _=>?_
   have⟨t,hf,J⟩:=Pn s f;exact Aia t hf b<|hF _ J
 unfold edB;rw[W,Ac,hr,Ax,show nnJ x.2 (cx x.2<|iw d q x) r=some v from ev];unfold AaC;simp only;rw[nV s vv hv1 hvz ho]
end
def cW:∀(n:Nat) (a b:zI),DV a b<=0->DV (a.take n) (b.take n)<=0
 |0,a,b,_=>by rw[O5,O5,Sz];exact Gb _
 |n+1,[],[],_=>by simp[DV]
 |n+1,[],y::b,_=>by simp[DV]
 |n+1,x::a,[],h=>by simp[DV]at h
 |n+1,x::a,y::b,h=>by
  rw[Eu,Eu,DV];rw[DV]at h;by_cases c:x < y
  ·rw[Az c];omega
  ·rw[AA c]at h⊢;by_cases d:y < x
   ·rw[Az d]at h;omega
   ·rw[AA d]at h⊢;exact cW n a b h
def iV{a b c}(e:DV a b<=0)(d:DV b c < 0):DV a c < 0:=by
 by_cases h:DV a b=0
 ·rw[Ub h];exact d
 ·exact QB aG d
def AlV{t pre}(h:Tq t pre.length):∃k:Nat,Ay (CJ t pre) fz 0=some (k:Int)∧k<=t.2.length∧(∀i (hi:i < t.2.length),i < k->DV (t.2[i].take pre.length) pre < 0)∧∀c:k < t.2.length,¬DV (t.2[k].take pre.length) pre < 0:=by
 have⟨g,q,j⟩:=VE h
 obtain⟨o,e,k,rfl,c⟩:=Fu (B:=CJ t pre) (λs=>∃k:Nat,s=(k:Int)∧k<=t.2.length∧∀i (hi:i < t.2.length),i < k->DV (t.2[i].take pre.length) pre < 0) (λs=>t.2.length - s.toNat) (λo=>∃k:Nat,o=(k:Int)∧k<=t.2.length∧(∀i (hi:i < t.2.length),i < k->DV (t.2[i].take pre.length) pre < 0)∧∀c:k < t.2.length,¬DV (t.2[k].take pre.length) pre < 0) (by
  rintro s ⟨k,rfl,c,b⟩;rcases Bi k t.2.length with a|l
  ·have r:=j _ (Ae a);have m:(CZ t.2[k] 0 (pre.length:Int)).length<=lim:=Bm sub_le<|g.2 _<|Ae a;have e:∀d,CJ t pre d (k:Int)=cond (decide (DV (t.2[k].take pre.length) pre < 0)) (d ((k+1:Nat):Int)) (some (k:Int)):=λrec=>by rw[CJ];rw[Bq a,AV a,BA a (Bk g.1),Ac,Bj,AO (by have:=h.2;omega),XM m,Bj,UM]
   by_cases f:DV (t.2[k].take pre.length) pre < 0
   ·refine .inr ⟨((k+1:Nat):Int),⟨k+1,rfl,a,λi hi n=>?_⟩,by rw[Ax,Ax];omega,λrec=>by rw[e,Ak f];rfl⟩;by_cases p:i=k
    ·subst p;exact f
    ·exact b i hi aG
   ·exact .inl ⟨(k:Int),⟨k,rfl,c,b,λ_=>f⟩,λrec=>by rw[e,Ah f];rfl⟩
  ·refine .inl ⟨(k:Int),⟨k,rfl,c,b,λh=>absurd h aG⟩,λrec=>?_⟩;rw[CJ];rw[Ah (aG:¬(k:Int) < (t.2.length:Int))];rfl) fz 0 ⟨0,rfl,aG,λi _ hi=>by omega⟩ (by unfold fz;omega)
 exact⟨k,e,c⟩
def AlW{t pre}(h:Tq t pre.length){lo:Nat}(j:lo<=t.2.length):∃k:Nat,Ay (CK t pre) fz (lo:Int)=some (k:Int)∧lo<=k∧k<=t.2.length∧(∀i (hi:i < t.2.length),lo<=i->i < k->DV (t.2[i].take pre.length) pre=0)∧∀c:k < t.2.length,¬DV (t.2[k].take pre.length) pre=0:=by
 have⟨m,w,p⟩:=VE h
 obtain⟨o,e,k,rfl,c⟩:=Fu (B:=CK t pre) (λs=>∃k:Nat,s=(k:Int)∧lo<=k∧k<=t.2.length∧∀i (hi:i < t.2.length),lo<=i->i < k->DV (t.2[i].take pre.length) pre=0) (λs=>t.2.length - s.toNat) (λo=>∃k:Nat,o=(k:Int)∧lo<=k∧k<=t.2.length∧(∀i (hi:i < t.2.length),lo<=i->i < k->DV (t.2[i].take pre.length) pre=0)∧∀c:k < t.2.length,¬DV (t.2[k].take pre.length) pre=0) (by
  rintro s ⟨k,rfl,d,c,b⟩;rcases Bi k t.2.length with a|q
  ·have x:=p _ (Ae a);have r:(CZ t.2[k] 0 (pre.length:Int)).length<=lim:=Bm sub_le<|m.2 _<|Ae a;have e:∀f,CK t pre f (k:Int)=cond (DV (t.2[k].take pre.length) pre==0) (f ((k+1:Nat):Int)) (some (k:Int)):=λrec=>by rw[CK];rw[Bq a,AV a,BA a (Bk m.1),Ac,Bj,AO (by have:=h.2;omega),XM r,Bj,UM]
   by_cases g:DV (t.2[k].take pre.length) pre=0
   ·refine .inr ⟨((k+1:Nat):Int),⟨k+1,rfl,aG,a,λi hi l n=>?_⟩,by rw[Ax,Ax];omega,λrec=>by rw[e,Bv.2 g];rfl⟩;by_cases u:i=k
    ·subst u;exact g
    ·exact b i hi l aG
   ·exact .inl ⟨(k:Int),⟨k,rfl,d,c,b,λ_=>g⟩,λrec=>by rw[e,Be.2 g];rfl⟩
  ·refine .inl ⟨(k:Int),⟨k,rfl,d,c,b,λh=>absurd h aG⟩,λrec=>?_⟩;rw[CK];rw[Ah (aG:¬(k:Int) < (t.2.length:Int))];rfl) fz (lo:Int) ⟨lo,rfl,A5 _,j,λi _ hi v=>by omega⟩ (by unfold fz;omega)
 exact⟨k,e,c⟩
def AbS{t pre}(h:Tq t pre.length):∃lo hi:Nat,lo<=hi∧hi<=t.2.length∧Hz t pre=some ((lo:Int),(hi:Int))∧∀i (hi':i < t.2.length),t.2[i].take pre.length=pre↔lo<=i∧i < hi:=by
 have⟨lo,hi,l1,l2,e1,e2,e3⟩:=lF h;have⟨k,f1,f2,f3,f4⟩:=AlV h;rw[e1,Av]at f1;have hk:lo=k:=aG;subst hk;have⟨m,g1,g2,g3,g4,g5⟩:=AlW h (lo:=lo) f2;rw[e2,Av]at g1;have hm:hi=m:=aG;subst hm;have hs:X8 t.2:=((TL _).1 h.1).2.2.2
 have mono:∀i j (hi:i < t.2.length) (hj:j < t.2.length),i<=j->DV (t.2[i].take pre.length) (t.2[j].take pre.length)<=0:=λi j hi hj hij=>by
  by_cases e:i=j
  ·subst e;rw[Sz];exact Gb _
  ·have:=B3.1 hs i j hi hj aG;exact cW _ _ _ aG
 refine⟨lo,hi,l1,l2,e3,λi hi'=>⟨λhe=>?_,λ⟨a,b⟩=>Ub<|g4 i hi' a b⟩⟩;have h0:DV (t.2[i].take pre.length) pre=0:=by rw[he,Sz]
 refine⟨?_,?_⟩
 ·refine Kk λhlt=>?_
  have:=f3 i hi' hlt;omega
 ·refine Nat.lt_of_not_le λhge=>?_
  have hh:hi < t.2.length:=aG;have hlo:lo < t.2.length:=aG;have n1:=f4 hlo;have n2:=g5 hh;have m1:=mono lo hi hlo hh l1;have m2:=mono hi i hh hi' hge;by_cases hneg:DV (t.2[hi].take pre.length) pre < 0
  ·exact n1<|iV m1 hneg
  ·have n3:=cmp_neg (t.2[hi].take pre.length) pre;have hpos:DV pre (t.2[hi].take pre.length) < 0:=aG;rw[he]at m2;have:=iV m2 hpos;rw[Sz]at this;omega
def dK(S:List zI)(p:Nat)(x:Int):∀k,k<=S.length->(x∈Wk S p k↔∃i,∃hi:i < S.length,i < k∧EL S[i] (p:Int)=x)
 |0,_=>⟨λh=>(by rw[Wk]at h;cases h),λ⟨i,_,h,_⟩=>aG⟩
 |k+1,j=>by
  have b:k < S.length:=j;have f:=dK S p x k aG;rw[Wk,Al,f,Af b,Bz];constructor
  ·rintro(⟨i,hi,l,c⟩|h)
   ·exact⟨i,hi,aG,c⟩
   ·cases a:pushB (Wk S p k) (EL S[k] (p:Int))with
    |false=>rw[a]at h;cases h
    |true=>rw[a,Ac,As]at h;exact⟨k,b,aG,h.symm⟩
  ·rintro⟨i,hi,l,c⟩;by_cases e:i=k
   ·subst e;cases a:pushB (Wk S p i) (EL S[i] (p:Int))with
    |true=>rw[Ac,As];exact .inr c.symm
    |false=>
     left;unfold pushB at a;cases d:(Wk S p i).getLast? with
     |none=>rw[d]at a;cases a
     |some w=>
      rw[d]at a;have:w=EL S[i] (p:Int):=by simpa using a
      have g:=JT d;rw[this,c]at g;exact f.1 g
   ·exact .inl ⟨i,hi,aG,c⟩
def ri{S}{p:Nat}(f:∀i j (hi:i < S.length) (u:j < S.length),i<=j->EL S[i] (p:Int)<=EL S[j] (p:Int)):∀k,k<=S.length->Asc (Wk S p k)
 |0,_=>by rw[Wk];exact List.Pairwise.nil
 |k+1,o=>by
  have b:k < S.length:=o;have c:=ri f k aG;rw[Wk,Af b,Bz];cases g:pushB (Wk S p k) (EL S[k] (p:Int))with
  |false=>rw[Ad,A7];exact c
  |true=>
   rw[Ac];unfold Asc at c⊢;rw[EF];refine⟨c,D2 _ _,λx a y n=>?_⟩;rw[As]at n;subst n;have⟨i,hi,v,q⟩:=(dK S p x k aG).1 a;have h:=f i k hi b aG;rw[q]at h;unfold pushB at g;cases d:(Wk S p k).getLast? with
   |none=>rw[List.getLast?_eq_none_iff]at d;rw[d]at a;cases a
   |some w=>
    rw[d]at g;have r:w≠EL S[k] (p:Int):=by simpa using g
    have⟨s,l,z,t⟩:=(dK S p w k aG).1<|JT d;have e:=f s k l b aG;rw[t]at e;have⟨A,m⟩:=JS.1 d;rw[m]at a c;rcases Al.1 a with a|a
    ·have:=(EF.1 c).2.2 x a w nF;omega
    ·rw[As]at a;omega
def Aev{t pre}(h:Tq t pre.length)(hp:(pre.length:Int) < t.1):(∀x,x∈iU t pre↔∃r∈t.2,r.take pre.length=pre∧EL r (pre.length:Int)=x)∧Asc (iU t pre):=by
 have⟨h1,h2,h3⟩:=VE h;have⟨lo,hi,l1,l2,e,hpos⟩:=AbS h;have hch:iU t pre=Wk (CZ t.2 (lo:Int) (hi:Int)) pre.length (hi - lo):=by unfold iU;rw[Aew h l1 l2 e,Bz,Az hp]
 have hS:CZ t.2 (lo:Int) (hi:Int)=(t.2.take hi).drop lo:=by unfold CZ;rw[Ax,Ax]
 have hlen:((t.2.take hi).drop lo).length=hi - lo:=by rw[BH,AH];omega
 have hat:∀i (h:i < ((t.2.take hi).drop lo).length),((t.2.take hi).drop lo)[i]=t.2[lo+i]'(by rw[hlen]at h;omega):=λi h=>by rw[Pt,Gw]
 rw[hch,hS];constructor
 ·intro x;rw[dK _ _ _ _ aG];constructor
  ·rintro⟨i,hi',h4,h5⟩;rw[hat i hi']at h5;exact⟨_,Ae _,(hpos _ aG).2 ⟨aG,aG⟩,h5⟩
  ·rintro⟨r,hr,h4,h5⟩;obtain⟨j,hj,rfl⟩:=AE.1 hr;have⟨a,b⟩:=(hpos j hj).1 h4;refine⟨j - lo,aG,aG,?_⟩;rw[hat _ aG,<-h5];congr 2;omega
 ·refine ri (λi j hi' hj' hij=>?_) _ aG;rw[hat i hi',hat j hj'];rw[hlen]at hi' hj';by_cases eij:i=j
  ·subst eij;exact Gb _
  ·have hs:X8 t.2:=((TL _).1 h.1).2.2.2;have hlt:=B3.1 hs (lo+i) (lo+j) aG aG aG;have p1:=(hpos (lo+i) aG).2 ⟨aG,aG⟩;have p2:=(hpos (lo+j) aG).2 ⟨aG,aG⟩;have r1:=(h3 _<|Ae (aG:lo+i < t.2.length)).1;have r2:=(h3 _<|Ae (aG:lo+j < t.2.length)).1;generalize t.2[lo+i]=a at *;generalize t.2[lo+j]=b at *;have n1:pre.length < a.length:=aG;have n2:pre.length < b.length:=aG;rw[Dz n1,Dz n2];have ea:a=pre++a[pre.length]::a.drop (pre.length+1):=by rw[<-BQ n1];exact(congrArg (· ++a.drop pre.length) p1).symm.trans (CI _ _)|>.symm
   have eb:b=pre++b[pre.length]::b.drop (pre.length+1):=by rw[<-BQ n2];exact(congrArg (· ++b.drop pre.length) p2).symm.trans (CI _ _)|>.symm
   rw[ea,eb,kt]at hlt;rw[DV]at hlt;refine Int.not_lt.1 λhc=>?_
   rw[AA aG,Az hc]at hlt;omega
theorem sT{a:J7}{o z:zI}(c:o.Nodup):∀k,k<=o.length->S4 a o z k=((o.take k).filter a.2.contains).map λv=>EL z (CA o v)
 |0,_=>by simp[S4]
 |k+1,d=>by
  have b:k < o.length:=d
  rw[S4,sT c k aG,S0 b,CQ,Br,Dz b,DD,DM]
  cases a.2.contains o[k]with
  |false=>rfl
  |true=>rw[Ac,Az rfl,AP,DE,V3 c b]
theorem lC{a:J7}{o z:zI}{j:Nat}(b:j<=z.length):∀k,k<=j->S4 a o (z.take j) k=S4 a o z k
 |0,_=>rfl
 |k+1,c=>by
  rw[S4,S4,lC b k aG]
  have:EL (z.take j) (k:Int)=EL z (k:Int):=by rw[Dz (by rw[AH];omega),Dz aG,Gw]
  rw[this]
theorem yw{a:J7}{o z:zI}(b:o.Nodup){k:Nat}(c:k<=o.length):(S4 a o z o.length).take (S4 a o z k).length=S4 a o z k:=by
 rw[sT b k c,sT b _ (A5 _),Ai,AQ,<-List.map_take]
 congr 1
 have e:o.filter a.2.contains=(o.take k).filter a.2.contains++(o.drop k).filter a.2.contains:=by rw[<-CQ,CI]
 rw[e,List.take_left' rfl]
section
variable {T:List YL}{q:EM}{o:zI}(h:TriesOk T q o)
include h
theorem xh{pre:zI}(g:pre.length < o.length)(x:Int):x∈(ky T q o pre).1↔∀i (hi:i < q.2.1.length),q.2.1[i].2.contains o[pre.length]=true->∃r∈(T[i]'(by rw[h.len];exact hi)).2,r.take (S4 q.2.1[i] o pre pre.length).length=S4 q.2.1[i] o pre pre.length∧EL r ((S4 q.2.1[i] o pre pre.length).length:Int)=x:=by
 obtain⟨s1,s2⟩:=sn h g
 have a:∀l,l∈kyL T q o pre↔∃i,∃hi:i < q.2.1.length,q.2.1[i].2.contains o[pre.length]=true∧l=iU (T[i]'(by rw[h.len];exact hi)) (S4 q.2.1[i] o pre pre.length):=λl=>by
  unfold kyL
  rw[Aw]
  constructor
  ·rintro⟨i,hi,rfl⟩
   obtain⟨u,C,e⟩:=si h g i hi
   obtain⟨_,b⟩:=xf hi
   rw[Dz g]at b
   exact⟨i,u,b,e⟩
  ·rintro⟨i,hi,b,rfl⟩
   have m:i∈ixK q (EL o (pre.length:Int)) q.2.1.length:=by
    unfold ixK
    refine AM.2 ⟨Ao.2 hi,?_⟩
    rw[B5 hi,Dz g];exact b
   obtain⟨_,_,e⟩:=si h g i m
   exact⟨i,m,e⟩
 have d:∀i (hi:i < q.2.1.length),q.2.1[i].2.contains o[pre.length]=true->(∀x,x∈iU (T[i]'(by rw[h.len];exact hi)) (S4 q.2.1[i] o pre pre.length)↔∃r∈(T[i]'(by rw[h.len];exact hi)).2,r.take (S4 q.2.1[i] o pre pre.length).length=S4 q.2.1[i] o pre pre.length∧EL r ((S4 q.2.1[i] o pre pre.length).length:Int)=x)∧Asc (iU (T[i]'(by rw[h.len];exact hi)) (S4 q.2.1[i] o pre pre.length)):=λi hi b=>by
  have y:=el h hi (k:=pre.length) aG
  have z:=el h hi (k:=pre.length+1) aG
  have A:=AcX q.2.1[i] g
  rw[b,Ac]at A
  have s:=cy q.2.1[i] o pre pre.length aG
  refine Aev (by rw[s];exact y) ?_
  rw[s]
  have:=z.2
  omega
 have c:Y5 (kyL T q o pre)=true:=by
  unfold Y5
  rw[Ab,At,AN]
  refine⟨FSQ λi hi=>?_,aG⟩
  obtain⟨j,t,b,e⟩:=(a _).1 (Ae hi)
  rw[e]
  exact Ah5 (d j t b).2
 have p:x∈(lfB (kyL T q o pre)).1↔∀l∈kyL T q o pre,x∈l:=by
  unfold lfB
  rw[c]
  cases v:(shK (kyL T q o pre) (kyL T q o pre).length==0)with
  |true=>
   constructor
   ·intro f;cases f
   ·intro f
    exfalso
    obtain⟨j,t,w⟩:=((lP s2 (A5 _)).1).1 (DL v)
    have:=f _ (Ae t)
    rw[Xr t]at w
    rw[Fs.1 w]at this
    cases this
  |false=>
   obtain⟨out,n,e,D,B,F⟩:=xq s1 c v
   simp only[Cq,Ga,Ac,e,BP,Bz]
   exact B x
 unfold ky
 rw[p]
 constructor
 ·intro f i hi b
  exact((d i hi b).1 x).1 (f _ ((a _).2 ⟨i,hi,b,rfl⟩))
 ·intro f l s
  obtain⟨i,hi,b,rfl⟩:=(a l).1 s
  exact((d i hi b).1 x).2 (f i hi b)
theorem zK:∀(r:Nat) (pre:zI),pre.length+r=o.length->∀z,z∈(wk T q o r pre).1↔z.length=o.length∧z.take pre.length=pre∧∀k,pre.length<=k->k < o.length->EL z (k:Int)∈(ky T q o (z.take k)).1
 |0,pre,n,z=>by
  rw[wk,As]
  constructor
  ·rintro rfl
   exact⟨aG,AQ,λk f b=>by omega⟩
  ·rintro⟨f,b,-⟩
   rw[<-b,ER aG]
 |r+1,pre,n,z=>by
  have j:=λv=>zK r (pre++[v]) (by rw[An,Aj];omega) z
  rw[wk]
  simp only
  rw[B6]
  constructor
  ·rintro⟨v,p,s⟩
   obtain⟨g,c,d⟩:=(j v).1 s
   rw[An,Aj]at c d
   have a:pre.length < z.length:=aG
   have i:z.take pre.length++[z[pre.length]]=pre++[v]:=by rw[<-S0 a];exact c
   obtain⟨l,e2⟩:=List.append_inj' i rfl
   rw[Dk]at e2
   refine⟨g,l,λk f b=>?_⟩
   by_cases e:k=pre.length
   ·subst e
    rw[l,Dz a,e2.1]
    exact p
   ·exact d k aG b
  ·rintro⟨g,c,d⟩
   have a:pre.length < z.length:=aG
   have m:=d pre.length (A5 _) aG
   rw[c,Dz a]at m
   refine⟨z[pre.length],m,(j _).2 ⟨g,?_,λk f b=>?_⟩⟩
   ·rw[An,Aj,S0 a,c]
   ·rw[An,Aj]at f
    exact d k aG b
theorem zJ(z:zI):z∈(wk T q o o.length []).1↔z.length=o.length∧∀i (hi:i < q.2.1.length),S4 q.2.1[i] o z o.length∈(T[i]'(by rw[h.len];exact hi)).2:=by
 obtain⟨ol,B,U,L⟩:=K7 h.ov
 rw[zK h o.length [] nF]
 constructor
 ·rintro⟨C,-,W⟩
  refine⟨C,λi hi=>?_⟩
  have D:=De h.qv
  have M:=D.2.2.2 _ (Ae hi)
  have F:∃k,k < o.length∧HJ o k (λv=>q.2.1[i].2.contains v)=true∧∀j,k < j->j < o.length->HJ o j (λv=>q.2.1[i].2.contains v)=false:=by
   have:∀n,n<=o.length->(∃k,k < n∧HJ o k (λv=>q.2.1[i].2.contains v)=true)->∃k,k < n∧HJ o k (λv=>q.2.1[i].2.contains v)=true∧∀j,k < j->j < n->HJ o j (λv=>q.2.1[i].2.contains v)=false:=by
    intro n
    induction n with
    |zero=>rintro _ ⟨k,f,_⟩;omega
    |succ n G=>
     rintro H ⟨k,f,b⟩
     cases t:HJ o n (λv=>q.2.1[i].2.contains v)with
     |true=>exact⟨n,aG,t,λj u X=>by omega⟩
     |false=>
      have Y:k≠n:=λe=>by subst e;rw[t]at b;cases b
      obtain⟨m,m1,Z,m3⟩:=G aG ⟨k,aG,b⟩
      refine⟨m,aG,Z,λj u X=>?_⟩
      by_cases e:j=n
      ·subst e;exact t
      ·exact m3 j u aG
   refine this o.length (A5 _) ?_
   have w:=M.2.2 _ (Ae (aG:0 < q.2.1[i].2.length))
   obtain⟨k,f,e⟩:=AE.1 (L _ w.1 w.2)
   exact⟨k,f,by rw[B5 f,e];exact Ag.2 (Ae _)⟩
  obtain⟨k,f,b,p⟩:=F
  rw[B5 f]at b
  have h0:=W k (BF _) f
  have g:(z.take k).length=k:=by rw[AH];omega
  have u:=(xh h (pre:=z.take k) aG _).1 h0 i hi (by simp only[g];exact b)
  simp only[g]at u
  rw[lC aG k (A5 _)]at u
  obtain⟨r,N,r1,O⟩:=u
  have c:S4 q.2.1[i] o z (k+1)=S4 q.2.1[i] o z k++[EL z (k:Int)]:=by rw[S4,Dz f,b,Ac]
  have s:∀d,k+1+d<=o.length->S4 q.2.1[i] o z (k+1+d)=S4 q.2.1[i] o z (k+1):=by
   intro d
   induction d with
   |zero=>intro _;rfl
   |succ d G=>
    intro hd
    have P:=p (k+1+d) aG aG
    rw[B5 aG]at P
    rw[show k+1+(d+1)=(k+1+d)+1 by omega,S4,G aG,Dz aG,P,Ad,A7]
  have I:=s (o.length - (k+1)) aG
  rw[show k+1+(o.length - (k+1))=o.length by omega,c]at I
  have Q:r.length=(S4 q.2.1[i] o z k).length+1:=by
   have R:=h.rel i hi
   have t2:=((Mm R.1).2.2.2 r N).1
   rw[R.2]at t2
   have e1:=cy q.2.1[i] o z o.length (A5 _)
   rw[I,An,Aj]at e1
   have e2:fe q.2.1[i] o o.length=(FJ q.2.1[i] 5).length:=by
    unfold fe
    rw[AQ]
    have l:∀v,v∈o.filter q.2.1[i].2.contains↔v∈FJ q.2.1[i] 5:=λv=>by
     rw[AM,J8]
     constructor
     ·rintro⟨a1,A⟩
      have:=U v a1
      exact⟨aG,A⟩
     ·rintro⟨a1,A⟩
      have:=M.2.2 v (Ag.1 A)
      exact⟨L v this.1 this.2,A⟩
    have l1:=XI (B.sublist DY) λv J=>(l v).1 J
    have l2:=XI (bu q.2.1[i] 5) λv J=>(l v).2 J
    omega
   omega
  have K:r=S4 q.2.1[i] o z k++[EL z (k:Int)]:=by
   have H:(S4 q.2.1[i] o z k).length < r.length:=aG
   have x:=S0 H
   rw[r1,show(S4 q.2.1[i] o z k).length+1=r.length by omega,AQ]at x
   rw[Dz H]at O
   rw[x,O]
  rw[I,<-K]
  exact N
 ·rintro⟨C,z2⟩
  refine⟨C,rfl,λk _ f=>?_⟩
  have g:(z.take k).length=k:=by rw[AH];omega
  refine(xh h (pre:=z.take k) aG _).2 λi hi t=>?_
  simp only[g]at t⊢
  rw[lC aG k (A5 _)]
  have c:S4 q.2.1[i] o z (k+1)=S4 q.2.1[i] o z k++[EL z (k:Int)]:=by rw[S4,Dz f,t,Ac]
  have S:=yw (a:=q.2.1[i]) (z:=z) B (k:=k) aG
  have p2:=yw (a:=q.2.1[i]) (z:=z) B (k:=k+1) aG
  rw[c,An,Aj]at p2
  refine⟨_,z2 i hi,S,?_⟩
  have y:(S4 q.2.1[i] o z k).length < (S4 q.2.1[i] o z o.length).length:=by
   have:=congrArg List.length p2
   rw[AH,An,Aj]at this
   omega
  have x:=S0 y
  rw[p2,S]at x
  have:=(List.append_inj' x rfl).2
  rw[Dk]at this
  rw[Dz y,<-this.1]
end
def zl{a b}(h:∀x,x∈a↔x∈b):sortB a=sortB b:=qh (Nm a) (Nm b) λx=>by rw[Fd,Fd,h]
section
variable {d:List N9}{q:EM}
def rgI(q:EM):zI:=(List.range q.1.toNat).map λ(v:Nat)=>(v:Int)
def yL(c:Du q=true)(v:Int):v∈rgI q↔0<=v∧v < q.1:=by
 obtain⟨f,g,-⟩:=De c;unfold rgI;rw[Aw];constructor
 ·rintro⟨n,e,rfl⟩;have:=Ao.1 e;omega
 ·rintro⟨a,b⟩;exact⟨v.toNat,Ao.2 aG,aG⟩
def AdA:(rgI q).Nodup:=Zr C3
def d7:(rgI q).length=q.1.toNat:=by unfold rgI;rw[Ai,BJ]
def Aiv(c:Du q=true){x V:zI}(h:∀v∈V,0<=v∧v < q.1):Mp (rgI q) x V=Ij V x:=by
 obtain⟨f,g,-⟩:=De c;refine Bd λv e=>?_
 have⟨a,b⟩:=h v e;obtain⟨n,rfl⟩:=CT a;unfold rgI;rw[nO aG]
def vn(b:D7 d q=true){a:J7}(c:a∈q.2.1):∀v∈FJ a 5,0<=v∧v < q.1:=λv e=>(aN b).1 ⟨a,c,e⟩
def vq(b:D7 d q=true)(f:dk d q){x:zI}(c:IsB d q x):six x:=λe g=>by
 obtain⟨g1,-⟩:=DG b;obtain⟨l,m,-⟩:=De g1;obtain⟨i,hi,rfl⟩:=AE.1 g;have h:=c.1;have⟨a,e,j⟩:=(aN b).2 (⟨aG,aG⟩:0<=(i:Int)∧(i:Int) < q.1);have k:=(me b c.1).2 c a e;have:=(f a e).2 _ k (EL x (i:Int))<|Aw.2 ⟨_,j,rfl⟩
 rwa [Dz hi]at this
theorem qR(e:D7 d q=true)(z:Q5 q)(n:dk d q){L:List Row}(o:L.Nodup)(h:∀x∈L,IsB d q x):L.length<=1296:=by
 obtain⟨g1,g2,-⟩:=DG e
 obtain⟨F,G,H,I⟩:=De g1
 have r:∀x∈L,x.length=(rgI q).length:=λx c=>by have:=(h x c).1;rw[d7];omega
 by_cases J:q.1<=4
 ·exact kv o (λx c=>r x c) (by rw[d7];omega) λx c=>vq e n (h x c)
 ·have i:(rgI q).length=5:=by rw[d7];omega
  obtain⟨A,-⟩:=Yk e z AdA i λv f=>(yL g1 v).1 f
  obtain⟨T,B,s,C⟩:=kA (m:=q.2.1.length) (V:=λj=>FJ (Lm q j) 5) (S:=λ_=>True) (u:=rgI q) aG (λv f=>by
   obtain⟨a,D,c⟩:=(aN e).2 ((yL g1 v).1 f)
   obtain⟨j,b,rfl⟩:=AE.1 D
   exact⟨j,b,trivial,by rw[Vn b];exact c⟩) (λv f=>by
   have k:=(J8.1 f).1
   have g:∀j,v∈(Lm q j).2->v∈FJ (Lm q j) 5:=λj b=>J8.2 ⟨k,Ag.2 b⟩
   exact(A v (Ag.1 (J8.1 f).2)).imp (g 0) (g 2))
  have:=dM (T.map λj=>(FJ (Lm q j) 5,(VM d (Lm q j)).2)) o AdA r (by rw[Ai];exact B) (λp l=>by
   obtain⟨j,b,rfl⟩:=Aw.1 l
   exact(n _ (Pn e (s j b).1).2.2).1) (λy t p l=>by
   obtain⟨j,b,rfl⟩:=Aw.1 l
   have w:=(Pn e (s j b).1).2.2
   simp only
   rw[Aiv g1 (vn e w)]
   exact(me e (h y t).1).2 (h y t) _ w) (λv f=>by
   obtain⟨j,b,c⟩:=C v f
   exact⟨_,Aw.2 ⟨j,b,rfl⟩,c⟩)
  omega
theorem qy(b:D7 d q=true)(f:Q5 q)(e:dk d q){out:List Row}(g:∀z,z∈out↔IsB d q z):Ml (q.1,sortB out)=true:=by
 obtain⟨g1,-⟩:=DG b
 obtain⟨j,h,-⟩:=De g1
 have c:∀x∈sortB out,IsB d q x:=λx a=>(g x).1 ((Fd _ x).1 a)
 refine(TL _).2 ⟨⟨by show 0<=q.1;omega,h⟩,?_,λx a=>⟨(c x a).1,bw λv i=>?_⟩,Nm _⟩
 ·have:=qR b f e (Wa (Nm out)) c
  show(sortB out).length<=4000
  omega
 ·have:=vq b e (c x a) v i
  omega
section
variable {o:zI}(hs:MA q)(hf:D7 d q=true)(ho:Sf q o=true)
def plZ(q:EM)(o z:zI):zI:=(rgI q).map λv=>EL z (CA o v)
include hf ho
theorem jD{z:zI}{v:Int}(a:0<=v)(b:v < q.1):EL (plZ q o z) v=EL z (CA o v):=by
 obtain⟨n,rfl⟩:=CT a
 unfold plZ rgI
 rw[Dz (by simp;omega)]
 simp
theorem pW(z:zI):((plZ q o z).length:Int)=q.1:=by
 obtain⟨g1,-⟩:=DG hf
 obtain⟨a,b,-⟩:=De g1
 unfold plZ
 rw[Ai,d7];omega
theorem Aic{a:J7}(b:a∈q.2.1)(z:zI):dz a (plZ q o z)=Mp o z (FJ a 5):=Bd λv c=>by
 have:=vn hf b v c
 exact jD hf ho this.1 this.2
theorem AbQ{b:zI}(f:(b.length:Int)=q.1):plZ q o (Ij o b)=b:=by
 obtain⟨g1,-⟩:=DG hf
 obtain⟨g,h,-⟩:=De g1
 obtain⟨j,k,l,a⟩:=K7 ho
 refine Cp (by have:=pW hf ho (Ij o b);omega) λi c e=>?_
 have hi:(i:Int) < q.1:=aG
 rw[<-Dz c,<-Dz e,jD hf ho aG hi]
 exact Wi (EL b) (a _ aG hi)
theorem Aib{z y:zI}(j:z.length=o.length)(k:y.length=o.length)(h:plZ q o z=plZ q o y):z=y:=by
 obtain⟨l,b,c,m⟩:=K7 ho
 refine Cp aG λi f g=>?_
 have hi:i < o.length:=aG
 have a:=c _ (Ae hi)
 have e:EL (plZ q o z) o[i]=EL (plZ q o y) o[i]:=by rw[h]
 rwa [jD hf ho a.1 a.2,jD hf ho a.1 a.2,V3 b hi,Dz f,Dz g]at e
theorem Aaq{a:J7}:eY a o=(o.filter (FJ a 5).contains).map (CA (FJ a 5)):=by
 obtain⟨z,h,A,B⟩:=K7 ho
 have c:∀k,k<=o.length->Qi (FJ a 5) o k=((o.take k).filter (FJ a 5).contains).map (CA (FJ a 5)):=by
  intro k
  induction k with
  |zero=>intro _;simp[Qi]
  |succ k l=>
   intro m
   have b:k < o.length:=m
   rw[Qi,l aG,S0 b,CQ,Br,Dz b,J6,DD,DM]
   cases n:(FJ a 5).contains o[k]with
   |false=>simp
   |true=>
    obtain⟨j,C,D,e2⟩:=Hs n
    have f:(((o.take k).filter (FJ a 5).contains).map (CA (FJ a 5))).contains (CA (FJ a 5) o[k])=false:=by
     rw[<-F3,Ag]
     intro p
     obtain⟨v,r,e⟩:=Aw.1 p
     obtain⟨s,t⟩:=AM.1 r
     obtain⟨u,w,F,x⟩:=Hs t
     have:u=j:=aG
     subst this
     have g:v=o[k]:=by rw[<-x,<-e2]
     obtain⟨i,hi,y⟩:=DN.1 s
     have:=(DZ h).1 (y.trans g)
     omega
    rw[f];simp
 unfold eY
 rw[c o.length (A5 _),AQ]
theorem tG{a:J7}(k:a∈q.2.1){z:zI}(t:z.length=o.length):S4 a o z o.length∈(dh d o a).2↔dz a (plZ q o z)∈(VM d a).2:=by
 obtain⟨g1,g2,-⟩:=DG hf
 obtain⟨u,w,y,A⟩:=De g1
 obtain⟨c,f⟩:=g2 a k
 obtain⟨B,r,C,s⟩:=K7 ho
 have g:=(Mm (Xd c f).1).2.2.2
 have h:o.filter (FJ a 5).contains=o.filter a.2.contains:=FF λv i=>by
  rw[Bb,Ag,Ag,TE c]
 have l:S4 a o z o.length=(o.filter a.2.contains).map λv=>EL z (CA o v):=by rw[sT r _ (A5 _),AQ]
 have b:∀x:zI,Fc x (eY a o)=(o.filter a.2.contains).map λv=>EL x (CA (FJ a 5) v):=λx=>by
  rw[Aaq hf ho,h]
  unfold Fc
  rw[D4];rfl
 rw[Aic hf ho k,l]
 show _∈(aJ (VM d a) (eY a o)).2↔_
 unfold aJ
 simp only
 rw[Fd,Aw]
 constructor
 ·rintro⟨x,j,e⟩
  rw[b]at e
  have m:x.length=(FJ a 5).length:=by have D:(x.length:Int)=((FJ a 5).length:Int):=(g x j).1;omega
  have:Mp o z (FJ a 5)=x:=by
   rw[<-XN (bu a 5) m]
   refine Bd λv i=>?_
   have n:v∈o.filter a.2.contains:=by
    have:=vn hf k v i
    exact AM.2 ⟨s v this.1 this.2,(J8.1 i).2⟩
   exact(Pu.1 e v n).symm
  rw[this];exact j
 ·intro j
  refine⟨_,j,?_⟩
  rw[b]
  refine Bd λv i=>?_
  have p:v∈FJ a 5:=(TE c v).2 (Ag.1 (AM.1 i).2)
  exact Wi (λv=>EL z (CA o v)) p
include hs
theorem An2(z:zI):z∈(wk (a9 d q o) q o o.length []).1↔z.length=o.length∧IsB d q (plZ q o z):=by
 have hT:=aZ (d:=d) hs hf ho
 have hw:z∈(wk (a9 d q o) q o o.length []).1↔_:=zJ hT z
 rw[hw,<-me hf (pW hf ho z)]
 refine and_congr_right λhz=>?_
 constructor
 ·intro g a ha
  obtain⟨i,hi,rfl⟩:=AE.1 ha
  have:=g i hi
  rw[Bl]at this
  exact(tG hf ho ha hz).1 this
 ·intro g i hi
  rw[Bl]
  exact(tG hf ho (Ae hi) hz).2 (g _ (Ae hi))
theorem AhE(H:Q5 q)(F:dk d q):∃W:List Row,(ljB d q o).2.2=true∧(ljB d q o).1=((o.length:Int),W)∧Ml ((o.length:Int),W)=true∧∀z,z∈W↔z.length=o.length∧IsB d q (plZ q o z):=by
 have v:=aZ (d:=d) hs hf ho
 have j:=lY (d:=d) hf ho
 obtain⟨O,I,J,P⟩:=K7 ho
 obtain⟨g1,-⟩:=DG hf
 obtain⟨Q,R,-⟩:=De g1
 have b:X8 (wk (a9 d q o) q o o.length []).1:=qp v j o.length [] nF
 have a:=λz=>An2 hs hf ho (z:=z)
 have w:((wk (a9 d q o) q o o.length []).1.map (plZ q o)).Nodup:=by
  have u:=Wa b
  unfold List.Nodup at u⊢
  rw[CV]
  exact u.imp_of_mem λ{x y} g K A e=>A (Aib hf ho ((a x).1 g).1 ((a y).1 K).1 e)
 have c:=qR hf H F w λx g=>by
  obtain⟨z,k,rfl⟩:=Aw.1 g
  exact((a z).1 k).2
 rw[Ai]at c
 have l:∀z∈(wk (a9 d q o) q o o.length []).1,Qg z=true:=λz k=>((a z).1 k|> λh=>bw λv L=>by
  obtain⟨i,hi,rfl⟩:=AE.1 L
  have m:i < o.length:=aG
  have f:=J _ (Ae m)
  have e:=jD hf ho (z:=z) f.1 f.2
  rw[V3 I m,Dz hi]at e
  have M:=pW hf ho z
  have:=vq hf F h.2 (EL (plZ q o z) o[i]) (by
   obtain⟨n,B⟩:=CT f.1
   rw[B,Dz aG]
   exact Ae _)
  rw[e]at this
  omega)
 have p:Ml ((o.length:Int),(wk (a9 d q o) q o o.length []).1)=true:=(TL _).2 ⟨⟨by show 0<=(o.length:Int);omega,by show(o.length:Int)<=5;omega⟩,by show(wk (a9 d q o) q o o.length []).1.length<=4000;omega,λx g=>⟨by show(x.length:Int)=(o.length:Int);rw[((a x).1 g).1],l x g⟩,b⟩
 have B:=Ads v j
 have r:dY (o.length:Int) (wk (a9 d q o) q o o.length []).1=(((o.length:Int),(wk (a9 d q o) q o o.length []).1),true):=by
  refine Eq.trans B ?_
  rw[Ak (show((wk (q.2.1.map (dh d o)) q o o.length []).1.length:Int)<=4000 from by have:(wk (a9 d q o) q o o.length []).1.length<=1296:=c;show((wk (a9 d q o) q o o.length []).1.length:Int)<=4000;omega)]
  rfl
 refine⟨_,?_,?_,p,a⟩
 ·unfold ljB
  rw[hf,ho,AK,Ac,r]
  cases emB (a9 d q o)<;>rfl
 ·unfold ljB
  rw[hf,ho,AK,Ac,r]
  cases G:emB (a9 d q o)with
  |false=>rfl
  |true=>
   have s:(wk (a9 d q o) q o o.length []).1=[]:=by
    refine K2.2 λz k=>?_
    have C:=(zJ v z).1 k
    unfold emB BK at G
    obtain⟨i,hi,D⟩:=BR.1 G
    have hi:=Ao.1 hi
    rw[B5 hi]at D
    have D:=DL D
    have t:i < q.2.1.length:=by unfold a9 at hi;rw[Ai]at hi;exact hi
    have:=C.2 i t
    have N:(a9 d q o)[i].2=[]:=Fs.1 aG
    have u:(q.2.1.map (dh d o))[i]'(by rw[Ai];exact t)=(a9 d q o)[i]:=rfl
    rw[u,N]at this
    cases this
   rw[s];rfl
theorem AeN(s:Q5 q)(t:dk d q){out:List Row}(a:∀z,z∈out↔IsB d q z):elB d q o=pjG (q.1,sortB out) q.2.2:=by
 obtain⟨W,B,C,D,u⟩:=AhE hs hf ho s t
 obtain⟨I,J,K,F⟩:=K7 ho
 obtain⟨g1,-⟩:=DG hf
 obtain⟨w,y,-⟩:=De g1
 have h:BK q.2.2 (GP q.1 q.2.2)=false:=by
  unfold Du at g1
  simp only[Ab,At]at g1
  exact g1.2.2.1
 obtain⟨L,k⟩:=lN ⟨w,y⟩ h
 have M:=YE ⟨w,y⟩ h
 have l:=(Yw (r:=((o.length:Int),W)) (c:=q.2.2.map (CA o)) D (by rw[Ai];omega) (λe m=>by
  obtain⟨v,n,rfl⟩:=Aw.1 m
  have i:=k v n
  obtain⟨j,N,O,-⟩:=Hs (Ag.2 (F v i.1 i.2))
  show 0<=CA o v∧CA o v < (o.length:Int)
  omega)).1
 have p:=(Yw (r:=(q.1,sortB out)) (c:=q.2.2) (qy hf s t a) aG (λe m=>k e m)).1
 unfold elB
 rw[B,Ac,C,l,p,Ai]
 have f:∀z:zI,Fc z (q.2.2.map (CA o))=Fc (plZ q o z) q.2.2:=λz=>by
  unfold Fc
  rw[D4]
  refine Bd λv n=>?_
  have:=k v n
  exact(jD hf ho this.1 this.2).symm
 have:sortB (W.map λx=>Fc x (q.2.2.map (CA o)))=sortB ((sortB out).map λx=>Fc x q.2.2):=by
  refine zl λy=>?_
  rw[Aw,Aw]
  constructor
  ·rintro⟨z,G,rfl⟩
   exact⟨plZ q o z,(Fd _ _).2 ((a _).2 ((u z).1 G).2),(f z).symm⟩
  ·rintro⟨b,H,rfl⟩
   have A:=(a b).1 ((Fd _ _).1 H)
   have g:=AbQ hf ho A.1
   refine⟨Ij o b,(u _).2 ⟨s9 _ _,by rw[g];exact A⟩,?_⟩
   rw[f,g]
 rw[this]
end
def Aii(o:MA q)(g:D7 d q=true)(h:Q5 q)(i:dk d q){p:Pln}(b:cA q p=true){out:List Row}(a:∀z,z∈out↔IsB d q z):rpB d q p=pjG (q.1,sortB out) q.2.2∧(pjG (q.1,sortB out) q.2.2).2=true:=by
 obtain⟨g1,-⟩:=DG g;obtain⟨j,k,-⟩:=De g1;have f:BK q.2.2 (GP q.1 q.2.2)=false:=by unfold Du at g1;simp only[Ab,At]at g1;exact g1.2.2.1
 obtain⟨-,s⟩:=lN ⟨j,k⟩ f;have u:=YE ⟨j,k⟩ f;refine⟨?_,by rw[(Yw (r:=(q.1,sortB out)) (c:=q.2.2) (qy g h i a) aG<|λe t=>s e t).1]⟩;unfold rpB;rw[b,g,AK,Ac];unfold cA at b;cases l:p.1==1 with
 |true=>rw[l,Ac]at b;exact AeM g h i b a
 |false=>
  rw[l,Ad]at b;rw[Ad];cases m:p.1==2 with
  |true=>rw[m,Ac]at b;exact AeL g h i b a
  |false=>
   rw[m,Ad]at b;rw[Ad];cases n:p.1==3 with
   |false=>rw[n]at b;cases b
   |true=>rw[n,Ac]at b;exact AeN o g b h i a
end
abbrev Cur:=zI×Int×Int
def GJ(c:Cur):Prop:=c.1.length<=1048576∧0<=c.2.1∧c.2.1<=c.1.length
def Dr{α:Type}(x:Option (α×Cur))(Q:α->Prop):Prop:=∃v c',x=some (v,c')∧Q v∧GJ c'
def qu(a:Int):0<=mf a 255∧mf a 255<=255:=by
 unfold mf;have h:(BitVec.ofInt IntKind.i64.bits a&&& BitVec.ofInt IntKind.i64.bits 255).toNat<=255:=by rw[BitVec.toNat_and];exact Bm Nat.and_le_right<|Nat.le_of_eq rfl
 rw[wrap_in ⟨aG,aG⟩];omega
def AhZ{b}(h:b.length<=1048576):∃c,WI b=some c∧GJ c:=by
 unfold WI
 have⟨o,e,_⟩:=Fu (B:=PU b) (λs=>0<=s.2∧s.2<=4000) (λs=>(4000 - s.2).toNat) (λ_=>True) (λs g=>by
  have⟨d,a⟩:=s;simp only at g;by_cases f:a < (b.length:Int)
  ·by_cases i:a < 4000
   ·right;obtain⟨v,j⟩:∃v,AU b a=some v:=⟨_,by unfold AU;rw[Az g.1,Af aG]⟩;refine⟨(mf (wZ<|(wZ<|(wZ<|d * 131)+(wZ v))+7) 1073741823,a+1),⟨by simp only;omega,by simp only;omega⟩,by simp only;omega,λrec=>?_⟩;simp only[PU];rw[Ak f,Ak i,j,wrap_in (n:=a+1) ⟨aG,aG⟩];rfl
   ·left;refine⟨d,trivial,λrec=>?_⟩;simp only[PU];rw[Ak f,Ah i];rfl
  ·left;refine⟨d,trivial,λrec=>?_⟩;simp only[PU];rw[Ah f];rfl) fz (wZ (10101+(b.length:Int)),0) ⟨nF,nF⟩ (by unfold fz;simp)
 rw[e];exact⟨_,rfl,h,nF,nF⟩
section
variable {c:Cur}
def Aak(h:GJ c):Dr (MG c) λv=>0<=v∧v<=255:=by
 have⟨a,b,e⟩:=h;unfold MG RE;by_cases d:c.2.1 < (c.1.length:Int)
 ·rw[Ak d];obtain⟨v,f⟩:∃v,AU c.1 c.2.1=some v:=⟨_,by unfold AU;rw[Az b,Af aG]⟩;simp only[Ac,f,Aa];refine⟨_,_,rfl,qu _,a,?_,?_⟩
  ·simp only;rw[wrap_in ⟨aG,aG⟩];omega
  ·simp only;rw[wrap_in ⟨aG,aG⟩];omega
 ·rw[Ah d];exact⟨_,_,rfl,qu _,a,b,e⟩
def G9(h:GJ c){n:Int}(a:0 < n)(b:n<=256):Dr (DH c n) λv=>0<=v∧v < n:=by have⟨v,c',e,d,f⟩:=Aak h;unfold DH;rw[Ah aG,Ak b,e];simp only[Ad,Ac,Aa];rw[AO aG];refine⟨_,_,rfl,?_,f⟩;rw[G0 d.1];exact⟨Int.emod_nonneg _ aG,Int.emod_lt_of_pos _ a⟩
def WB(h:GJ c){n:Int}(a:0 < n)(b:n<=256):Dr (JX c n) λ_=>True:=by have⟨v,c',e,f,d⟩:=G9 h a b;unfold JX;rw[e];exact⟨_,_,rfl,trivial,d⟩
def XL(h:GJ c){l:zI}(d:0 < l.length)(f:l.length<=256):Dr (I2 c l) λv=>v∈l:=by
 have⟨v,c',e,a,b⟩:=G9 h (n:=(l.length:Int)) aG aG;unfold I2;rw[e];simp only[Aa];have:AU l v=some (l[v.toNat]'aG):=by unfold AU;rw[Az a.1,Af]
 rw[this];exact⟨_,_,rfl,Ae _,b⟩
def sU(h:GJ c){l:List zU}(d:0 < l.length)(f:l.length<=256):Dr (SX c l) λv=>v∈l:=by
 have⟨v,c',e,a,b⟩:=G9 h (n:=(l.length:Int)) aG aG;unfold SX;rw[e];simp only[Aa];have:AU l v=some (l[v.toNat]'aG):=by unfold AU;rw[Az a.1,Af]
 rw[this];exact⟨_,_,rfl,Ae _,b⟩
def Aaz(h:GJ c){n m:Int}(C:n<=1000)(j:0 < m)(k:m<=256):Dr (WJ c n m) λr=>(r.length:Int)=max 0 n∧∀e∈r,0<=e∧e < m:=by
 unfold WJ
 have⟨o,e,l,p,q⟩:=Fu (B:=Su n m) (λs=>GJ (s.1,s.2.1,s.2.2.1)∧(s.2.2.2.length:Int)<=max 0 n∧∀e∈s.2.2.2,0<=e∧e < m) (λs=>(n - s.2.2.2.length).toNat) (λo=>GJ (o.1,o.2.1,o.2.2.1)∧(o.2.2.2.length:Int)=max 0 n∧∀e∈o.2.2.2,0<=e∧e < m) (λs t=>by
  have⟨b,i,u,r⟩:=s;have⟨d,w,f⟩:=t;simp only at d w f;by_cases g:(r.length:Int) < n
  ·right;have⟨v,c',e,y,z⟩:=G9 d j k;refine⟨(c'.1,c'.2.1,c'.2.2,r++[v]),⟨z,?_,?_⟩,?_,λrec=>?_⟩
   ·simp only[An,Aj];omega
   ·intro x a;rcases Al.1 a with a|a
    ·exact f x a
    ·rw[As]at a;subst a;exact y
   ·simp only[An,Aj];omega
   ·simp only[Su];rw[Ak g,e];simp only[Ac,Aa];rw[AO (by unfold lim;simp only[Aj];omega)]
  ·left;refine⟨(b,i,u,r),⟨d,?_,f⟩,λrec=>?_⟩
   ·simp only;omega
   ·simp only[Su];rw[Ah g];rfl) fz (c.1,c.2.1,c.2.2,[]) ⟨h,by simp;omega,λe A=>by cases A⟩ (by unfold fz;simp only[Bn];omega)
 rw[e];exact⟨_,_,rfl,⟨p,q⟩,l⟩
def iM(k:Int)(l:List Row):Prop:=l.length<=1000∧∀r∈l,(r.length:Int)=k
def Aby{a k l}(h:iM k l):iM k (dY a l).1.2:=by
 unfold dY;cases BK l λ_ x=>SS a x with
 |true=>exact⟨nF,λr b=>by cases b⟩
 |false=>
  simp only[Ad];cases Ml (a,sortB l)with
  |false=>exact⟨nF,λr b=>by cases b⟩
  |true=>exact⟨Bm (K8 l) h.1,λr b=>h.2 r<|(Fd l r).1 b⟩
def gH{k l}(h:iM k l)(b:k<=1000):GQ l:=⟨by have:=h.1;unfold lim;omega,λr a=>by have:=h.2 r a;unfold lim;omega⟩
def Ajd(t:N9):Prop:=t.1.length<=10∧∃k:Int,2<=k∧k<=1000∧iM k t.2.2
def DbD(d:List N9):Prop:=d.length<=5∧∀t∈d,Ajd t
def DbD.sm{d}(h:DbD d):Tn d:=⟨by have:=h.1;unfold lim;omega,λt a=>by have⟨f,k,g,b,e⟩:=h.2 t a;exact⟨uY,gH e b⟩⟩
end
section
variable {c:Cur}
end
def sZ{q}(h:Du q=true):1<=q.1∧q.1<=5∧1<=q.2.1.length∧q.2.1.length<=4∧(∀a∈q.2.1,a.1.length<=4∧1<=a.2.length∧a.2.length<=5)∧q.2.2.length<=5:=by
 have⟨e,f,i,g⟩:=De h;unfold Du at h;simp only[Ab,At]at h;obtain⟨g1,g2,j,k,-⟩:=h;have e2:1<=(q.2.1.length:Int)∧(q.2.1.length:Int)<=4:=by unfold HH at g2;simpa using g2
 have l:=YE ⟨e,f⟩ j;refine⟨e,f,aG,i,λa b=>⟨?_,(g a b).1,(g a b).2.1⟩,aG⟩;have c:=Ln k b;unfold PX at c;simp only[BN,B8]at c;have d:=c.1;unfold nmB at d;simp only[Ab]at d;have:1<=(a.1.length:Int)∧(a.1.length:Int)<=4:=by have:=d.1;unfold HH at this;simpa using this
 omega
def ZE:List zU:=[[40,88,89,90,41,61,114,40,88,89,41,44,115,40,89,90,41,44,116,40,90,88,41],[40,88,89,90,85,41,61,114,40,88,89,41,44,115,40,89,90,41,44,116,40,90,85,41,44,117,40,85,88,41],[40,88,89,90,41,61,114,40,88,89,41,44,115,40,89,90,41],[40,88,41,61,114,40,88,89,41,44,115,40,89,90,41,44,116,40,90,85,41],[40,88,89,90,41,61,118,40,88,89,90,41,44,114,40,88,89,41],[40,88,89,41,61,114,40,88,89,41,44,114,40,89,88,41],[40,88,89,90,85,41,61,118,40,88,89,90,41,44,115,40,90,85,41,44,116,40,85,88,41],[40,88,41,61,114,40,88,88,41],[40,88,89,41,61,114,40,88,90,41,44,115,40,90,89,41,44,114,40,88,85,41,44,115,40,85,89,41],[40,41,61,114,40,88,89,41,44,115,40,89,88,41],[40,88,89,90,85,86,41,61,114,40,88,89,41,44,115,40,89,90,41,44,116,40,90,85,41,44,117,40,85,86,41]]
section
variable {c:Cur}
def AcL(h:GJ c)(n:Int)(m:Int×Cur)(t:0<=m.1)(u:m.1<=100)(f:n<=10):∃o,Ay (KK m) fz (c.1,c.2.1,c.2.2,([]:zI),n)=some o∧GJ (o.1,o.2.1,o.2.2.1)∧o.2.2.2.length<=10:=by
 exact Fu (B:=KK m) (λs=>GJ (s.1,s.2.1,s.2.2.1)∧(s.2.2.2.1.length:Int)+max 0 s.2.2.2.2<=10∧s.2.2.2.2<=10) (λs=>s.2.2.2.2.toNat) (λo=>GJ (o.1,o.2.1,o.2.2.1)∧o.2.2.2.length<=10) (λs g=>by
  have⟨b,i,j,l,k⟩:=s;have⟨a,p,q⟩:=g;simp only at a p q;by_cases d:0 < k
  ·right;have⟨v,c',e,w,r⟩:=G9 a (n:=1+m.1) aG aG;refine⟨(c'.1,c'.2.1,c'.2.2,l++[v],k - 1),⟨r,?_,?_⟩,?_,λrec=>?_⟩
   ·simp only[An,Aj];omega
   ·simp only;omega
   ·simp only;omega
   ·simp only[KK];rw[Ak d,wrap_in (n:=1+m.1) ⟨aG,aG⟩,e];simp only[Ac,Aa];rw[AO (by unfold lim;simp only[Aj];omega),wrap_in ⟨aG,aG⟩]
  ·left;refine⟨(b,i,j,l),⟨a,by simp only;omega⟩,λrec=>?_⟩;simp only[KK];rw[Ah d];rfl) fz (c.1,c.2.1,c.2.2,([]:zI),n) ⟨h,by simp only[Bn];omega,f⟩ (by unfold fz;simp only;omega)
def vk(h:GJ c)(n:Int)(m:Int×Cur)(t:0<=m.1)(u:m.1<=100)(w:n<=10):∃o,Ay (KJ m) fz (c.1,c.2.1,c.2.2,([]:List J7),n)=some o∧GJ (o.1,o.2.1,o.2.2.1)∧o.2.2.2.length<=10∧∀a∈o.2.2.2,a.1.length<=10∧a.2.length<=10:=by
 exact Fu (B:=KJ m) (λs=>GJ (s.1,s.2.1,s.2.2.1)∧(s.2.2.2.1.length:Int)+max 0 s.2.2.2.2<=10∧s.2.2.2.2<=10∧∀a∈s.2.2.2.1,a.1.length<=10∧a.2.length<=10) (λs=>s.2.2.2.2.toNat) (λo=>GJ (o.1,o.2.1,o.2.2.1)∧o.2.2.2.length<=10∧∀a∈o.2.2.2,a.1.length<=10∧a.2.length<=10) (λs x=>by
  have⟨b,i,y,l,k⟩:=s;have⟨g,z,A,j⟩:=x;simp only at g z A j;by_cases q:0 < k
  ·right;have⟨v,c',e,C,D⟩:=G9 g (n:=5) aG aG;obtain⟨f,F,p⟩:∃f,AU ([[114],[115],[116],[117],[118]]:List zU) v=some f∧f.length<=10:=by have:v=0∨v=1∨v=2∨v=3∨v=4:=aG;rcases this with rfl|rfl|rfl|rfl|rfl<;>exact⟨_,rfl,nF⟩
   have r:0<=Int.tdiv v 4∧Int.tdiv v 4<=1:=by rw[Jv C.1];omega
   have⟨o,e2,G,H⟩:=AcL D (2+Int.tdiv v 4) m t u aG;refine⟨(o.1,o.2.1,o.2.2.1,l++[(f,o.2.2.2)],k - 1),⟨G,?_,?_,?_⟩,?_,λrec=>?_⟩
   ·simp only[An,Aj];omega
   ·simp only;omega
   ·intro a d;rcases Al.1 d with d|d
    ·exact j a d
    ·rw[As]at d;subst d;exact⟨p,H⟩
   ·simp only;omega
   ·simp only[KJ];rw[Ak q,e];simp only[Ac,Aa,F];rw[wrap_in (n:=Int.tdiv v 4) ⟨aG,aG⟩,wrap_in (n:=2+Int.tdiv v 4) ⟨aG,aG⟩,e2];have⟨I,J,K,L⟩:=o;simp only;rw[AO (by unfold lim;simp only[Aj];omega),wrap_in (n:=k - 1) ⟨aG,aG⟩]
  ·left;refine⟨(b,i,y,l),⟨g,by simp only;omega,j⟩,λrec=>?_⟩;simp only[KJ];rw[Ah q];rfl) fz (c.1,c.2.1,c.2.2,([]:List J7),n) ⟨h,by simp only[Bn];omega,w,λa d=>by cases d⟩ (by unfold fz;simp only;omega)
def AbH(h:GJ c)(m:Int×Cur)(t:0<=m.1)(u:m.1<=9):∃o,Ay (H7 m) fz (c.1,c.2.1,c.2.2,([]:zI),0)=some o∧GJ (o.1,o.2.1,o.2.2.1)∧o.2.2.2.length<=10:=by
 exact Fu (B:=H7 m) (λs=>GJ (s.1,s.2.1,s.2.2.1)∧0<=s.2.2.2.2∧s.2.2.2.2<=1+m.1∧(s.2.2.2.1.length:Int)<=s.2.2.2.2) (λs=>(1+m.1 - s.2.2.2.2).toNat) (λo=>GJ (o.1,o.2.1,o.2.2.1)∧o.2.2.2.length<=10) (λs g=>by
  have⟨b,i,j,l,k⟩:=s;have⟨a,p,q,r⟩:=g;simp only at a p q r;by_cases d:k < 1+m.1
  ·right;have⟨w,c',e,_,f⟩:=WB a (n:=2) aG aG;cases w with
   |true=>
    refine⟨(c'.1,c'.2.1,c'.2.2,[k]++l,k+1),⟨f,?_,?_,?_⟩,?_,λrec=>?_⟩
    ·simp only;omega
    ·simp only;omega
    ·simp only[An,Aj];omega
    ·simp only;omega
    ·simp only[H7];rw[wrap_in (n:=1+m.1) ⟨aG,aG⟩,Ak d,e];simp only[Ac,Aa];rw[AO (by unfold lim;simp only[Aj];omega)];unfold KL;rw[wrap_in (n:=k+1) ⟨aG,aG⟩]
   |false=>
    refine⟨(c'.1,c'.2.1,c'.2.2,l,k+1),⟨f,?_,?_,?_⟩,?_,λrec=>?_⟩
    ·simp only;omega
    ·simp only;omega
    ·simp only;omega
    ·simp only;omega
    ·simp only[H7];rw[wrap_in (n:=1+m.1) ⟨aG,aG⟩,Ak d,e];simp only[Ac,Ad,Aa];unfold KL;rw[wrap_in (n:=k+1) ⟨aG,aG⟩]
  ·left;refine⟨(b,i,j,l),⟨a,by simp only;omega⟩,λrec=>?_⟩;simp only[H7];rw[wrap_in (n:=1+m.1) ⟨aG,aG⟩,Ah d];rfl) fz (c.1,c.2.1,c.2.2,([]:zI),0) ⟨h,nF,by simp only;omega,nF⟩ (by unfold fz;simp only;omega)
def AnyQ(q:EM):Prop:=0<=q.1∧q.1<=6∧1<=q.2.1.length∧q.2.1.length<=5∧(∀a∈q.2.1,a.1.length<=4∧a.2.length<=5)∧q.2.2.length<=6
def AnyQ.sm{q}(h:AnyQ q):MA q:=by have⟨e,f,g,i,b,j⟩:=h;unfold MA lim;exact⟨aG,λa d=>by have:=b a d;omega,aG⟩
end
section
variable {c:Cur}
def AaJ{n:Int}{l:zI}(h:(l.length:Int) < n):∃v:Int,0<=v∧v < n∧v∉l:=by
 apply Bp;intro b;have a:∀v:Int,0<=v->v < n->v∈l:=λv d f=>by apply Bp;intro g;exact b ⟨v,d,f,g⟩
 have:=XI (l:=(List.range n.toNat).map λ(k:Nat)=>(k:Int)) (m:=l) (by
  rw[Cr,CV];exact(Cr.1 C3).imp λh e=>h (Int.ofNat.inj e)) (λx i=>by
  obtain⟨k,j,rfl⟩:=Aw.1 i;have:=Ao.1 j;exact a _ aG aG)
 rw[Ai,BJ]at this;omega
def step_ok{n y f l}(hn:n<=256)(hl:l.length<=lim)(hf:0<=f∧f < n∧f∉l)(hy:0<=y∧y < n):∃z,Ay (Nq n l) fz y=some z∧0<=z∧z < n∧z∉l:=by
 exact Fu (B:=Nq n l) (λy=>0<=y∧y < n) (λy=>(if y<=f then f - y else f - y+n).toNat) (λz=>0<=z∧z < n∧z∉l) (λy hy=>by
  have e:∀rec,Nq n l rec y=cond (l.contains y) (rec<|Int.tmod (y+1) n) (some y):=λrec=>by unfold Nq;rw[VC hl];simp only[Aa];rw[J6,AO aG,wrap_in ⟨aG,aG⟩]
  cases hc:l.contains y with
  |false=>exact .inl ⟨y,⟨hy.1,hy.2,λhm=>by rw[Ag.2 hm]at hc;cases hc⟩,λrec=>by rw[e,hc];rfl⟩
  |true=>
   have hne:y≠f:=λh=>hf.2.2 (by rw[<-h];exact Ag.1 hc)
   have ht:Int.tmod (y+1) n=if y+1 < n then y+1 else 0:=by
    rw[G0 aG];split
    ·exact Int.emod_eq_of_lt aG aG
    ·rw[show y+1=n by omega];exact Int.emod_self
   refine .inr ⟨Int.tmod (y+1) n,?_,?_,λrec=>by rw[e,hc];rfl⟩
   ·rw[ht];split<;>omega
   ·rw[ht];by_cases h1:y+1 < n
    ·rw[Az h1];by_cases h2:y<=f
     ·rw[Az h2,Az aG];omega
     ·rw[AA h2,AA aG];omega
    ·rw[AA h1,Az hf.1,AA aG];omega) fz y hy (by unfold fz;split<;>omega)
def rp(h:GJ c){n:Int}(w:0<=n)(g:n<=256):Dr (RD c n) λl=>(l.length:Int)=n:=by
 unfold RD
 obtain⟨o,e,j,k⟩:=Fu (B:=Qc n) (λs=>GJ (s.1,s.2.1,s.2.2.1)∧(s.2.2.2.length:Int)<=n) (λs=>(n - s.2.2.2.length).toNat) (λo=>GJ (o.1,o.2.1,o.2.2.1)∧(o.2.2.2.length:Int)=n) (λs m=>by
  obtain⟨b,i,p,l⟩:=s;obtain⟨a,q⟩:=m;simp only at a q;by_cases d:(l.length:Int) < n
  ·right;obtain⟨v,c',e,r,t⟩:=G9 a (n:=n) aG g;obtain⟨f,u⟩:=AaJ d;obtain⟨z,e2,x⟩:=step_ok (l:=l) g uY u r;refine⟨(c'.1,c'.2.1,c'.2.2,l++[z]),⟨t,?_⟩,?_,λrec=>?_⟩
   ·simp only[An,Aj];omega
   ·simp only[An,Aj];omega
   ·simp only[Qc];rw[Ak d,e];simp only[Ac,Aa,e2];rw[AO (by unfold lim;simp only[Aj];omega)]
  ·left;refine⟨(b,i,p,l),⟨a,by simp only;omega⟩,λrec=>?_⟩;simp only[Qc];rw[Ah d];rfl) fz (c.1,c.2.1,c.2.2,[]) ⟨h,by simp only[Bn];omega⟩ (by unfold fz;simp only[Bn];omega)
 rw[e];exact⟨_,_,rfl,k,j⟩
def Ah7(h:GJ c)(q:EM):Dr (Sr c q) λl=>l.length<=5:=by
 unfold Sr
 have e:0<=(if 0 < (if q.1 < 5 then q.1 else 5)then(if q.1 < 5 then q.1 else 5)else 0)∧(if 0 < (if q.1 < 5 then q.1 else 5)then(if q.1 < 5 then q.1 else 5)else 0)<=5:=by
  split
  ·rename_i m;refine⟨aG,?_⟩;split<;>omega
  ·omega
 generalize(if 0 < (if q.1 < 5 then q.1 else 5)then(if q.1 < 5 then q.1 else 5)else 0)=n at e⊢;have⟨l,o,g,p,a⟩:=rp h e.1 aG;rw[g];simp only[Aa];cases f:decide (0 < (l.length:Int))with
 |false=>exact⟨_,_,rfl,(by show l.length<=5;omega),a⟩
 |true=>
  have f:=Gx f;simp only[Ac];have⟨w,c2,e2,_,b⟩:=WB a (n:=14) aG aG;rw[e2];cases w with
  |false=>exact⟨_,_,rfl,(by show l.length<=5;omega),b⟩
  |true=>simp only[Pb,Ac];have⟨v,r,i,_,d⟩:=G9 b (n:=6) aG aG;rw[AO aG,i];have j:AU l 0=some (l[0]'aG):=AV (k:=0) aG;simp only[Aa,j];exact⟨_,_,rfl,(by show(CY l 0 v).length<=5;unfold CY;rw[By];omega),d⟩
end
def Rw6(l:List Row):Prop:=l.length<=9∧∀r∈l,six r
def TbZ(t:N9):Prop:=Ajd t∧Rw6 t.2.2
def AnJ{a l}(h:Rw6 l):Rw6 (dY a l).1.2:=by
 unfold dY;cases BK l λ_ x=>SS a x with
 |true=>exact⟨nF,λr b=>by cases b⟩
 |false=>
  simp only[Ad];cases Ml (a,sortB l)with
  |false=>exact⟨nF,λr b=>by cases b⟩
  |true=>exact⟨Bm (K8 l) h.1,λr b=>h.2 r<|(Fd l r).1 b⟩
def Q5d(q:EM):Prop:=q.1<=4∨(q.2.1.length=4∧∀v,v∈(Lm q 1).2->v∈(Lm q 0).2∨v∈(Lm q 2).2)
def Q5d.q5{q}(h:Q5d q):Q5 q:=h.imp id λh=>h.2
def q5b(q:EM):Bool:=decide (q.1<=4) || (q.2.1.length==4&&(Lm q 1).2.all λv=>(Lm q 0).2.contains v || (Lm q 2).2.contains v)
def AlY{q}(h:q5b q=true):Q5d q:=by
 unfold q5b at h;rw[BZ,AN,Ab,Bv,Aq]at h;refine h.imp id λ⟨a,b⟩=>⟨a,λv c=>?_⟩
 have:=b v c;rw[BZ,Ag,Ag]at this;exact this
def sQ(s:zU):Bool:=match KI s with
 |some (q,_)=>Du q&&q5b q
 |none=>false
def ud:ZE.all sQ=true:=kh
def yq{s}(h:s∈ZE):∃q b,KI s=some (q,b)∧Du q=true∧Q5d q:=by
 have:=Aq.1 ud s h;unfold sQ at this;cases e:KI s with
 |none=>rw[e]at this;cases this
 |some x=>rw[e]at this;simp only[Ab]at this;exact⟨x.1,x.2,rfl,this.1,AlY this.2⟩
def Ad9{q x}(d:Du q=true)(k:Q5d q)(l:x=0∨x=6∨x=q.1+1)(b:Du (x,q.2.1,q.2.2)=true):Q5d (x,q.2.1,q.2.2):=by
 obtain⟨a1,e,-,m⟩:=De b;obtain⟨n,o,-,f⟩:=De d;simp only at a1 e;by_cases h:x<=4
 ·exact .inl h
 ·exfalso;have g:x=q.1+1:=aG;unfold Du at b;simp only[Ab,At]at b;have c:=BU.1 b.2.2.2.2 q.1.toNat<|Ao.2 aG;simp only[At,H1]at c;unfold JI at c;have⟨a,i,j⟩:=BR.1 c;have:=(f a i).2.2 _<|Ag.1 j;omega
def Aea{q a}(b:Q5d q)(c:Du (q.1,q.2.1++[a],q.2.2)=true):Q5d (q.1,q.2.1++[a],q.2.2):=by
 rcases b with h|⟨h,-⟩
 ·exact .inl h
 ·exfalso;have:=(De c).2.2.1;simp only[An,Aj]at this;omega
def Aeb{q:EM}{a:J7}(d:1<=q.2.1.length)(e:a.2.length=0)(b:Du (q.1,CY q.2.1 0 a,q.2.2)=true):Q5d (q.1,CY q.2.1 0 a,q.2.2):=by
 exfalso;have c:a∈CY q.2.1 0 a:=by unfold CY;rw[AE];exact⟨0,by rw[By];omega,by rw[Di];exact Az rfl⟩
 have:=((De b).2.2.2 a c).1;omega
def Aec{q:EM}{a:zU}{l:zI}{x:Int}(h:1<=q.2.1.length)(i:1<=l.length)(c:x∈([-1,5]:zI))(d:Du (q.1,CY q.2.1 0 (a,CY l 0 x),q.2.2)=true):Q5d (q.1,CY q.2.1 0 (a,CY l 0 x),q.2.2):=by
 exfalso;have e:(a,CY l 0 x)∈CY q.2.1 0 (a,CY l 0 x):=by unfold CY;rw[AE];exact⟨0,by rw[By];omega,by rw[Di];exact Az rfl⟩
 have b:x∈CY l 0 x:=by unfold CY;rw[AE];exact⟨0,by rw[By];omega,by rw[Di];exact Az rfl⟩
 obtain⟨a1,f,-,g⟩:=De d;have:=(g _ e).2.2 x b;simp only at this f;simp at c;omega
def rJ{d q}(k:∀t∈d,Rw6 t.2.2)(l:D7 d q=true):dk d q:=λa m=>by
 obtain⟨g1,g2,-⟩:=DG l;have⟨h,f⟩:=g2 a m
 have b:Rw6 (F2 d a.1).1.2:=by
  unfold F2;split
  ·cases i:d.find? (λt=>t.1==a.1)with
   |none=>exact⟨nF,λr c=>by cases c⟩
   |some t=>exact k t<|List.mem_of_find?_eq_some i
  ·exact⟨nF,λr c=>by cases c⟩
 obtain⟨n,-,-⟩:=Wf h f;have w:=dI a (F2 d a.1).1.2;have y:=K8<|Tr a (F2 d a.1).1.2;refine⟨by show(sortB<|Tr a (F2 d a.1).1.2).length<=9;have:=b.1;omega,λx g e j=>?_⟩;have g:=(Fd _ x).1 g;unfold Tr at g;obtain⟨r,c,rfl⟩:=Aw.1 g;have c:=(AM.1 c).1;unfold rowOf at j;obtain⟨v,o,rfl⟩:=Aw.1 j;obtain⟨p,z,s,-⟩:=Hs (J8.1 o).2;have u:=n r c;rw[s,Dz (aG:p < r.length)];exact b.2 r c _<|Ae _
section
variable {c:Cur}
def Ab0(h:GJ c){a m v:Int}(M:0<=a)(g:a<=1000)(N:0<=m)(A:m<=9)(C:0 < v)(O:v<=6):Dr (WM c a m v) λr=>iM a r.2∧Rw6 r.2:=by
 unfold WM;have⟨n,j,D,F,p⟩:=G9 h (n:=m+1) aG aG;rw[wrap_in ⟨aG,aG⟩,D];simp only[Aa]
 have⟨o,e,G,P,w⟩:=Fu (B:=Sv a v) (λs=>GJ (s.1,s.2.1,s.2.2.1)∧0<=s.2.2.2.2∧s.2.2.2.1.length+s.2.2.2.2<=m∧∀r∈s.2.2.2.1,(r.length:Int)=a∧six r) (λs=>s.2.2.2.2.toNat) (λo=>GJ (o.1,o.2.1,o.2.2.1)∧(o.2.2.2.length:Int)<=m∧∀r∈o.2.2.2,(r.length:Int)=a∧six r) (λs H=>by
  have⟨b,i,I,l,k⟩:=s;have⟨q,J,K,t⟩:=H;simp only at q J K t;by_cases y:0 < k
  ·right;have⟨r,c',e,d,L⟩:=Aaz q (n:=a) (m:=v) g C aG;refine⟨(c'.1,c'.2.1,c'.2.2,l++[r],k - 1),⟨L,?_,?_,?_⟩,?_,λrec=>?_⟩
   ·simp only;omega
   ·simp only[An,Aj];omega
   ·intro x f;rcases Al.1 f with f|f
    ·exact t x f
    ·rw[As]at f;subst f;exact⟨by rw[d.1];omega,λe u=>by have:=d.2 e u;omega⟩
   ·simp only;omega
   ·simp only[Sv];rw[Ak y,e];simp only[Ac,Aa];rw[AO (by unfold lim;simp only[Aj];omega),wrap_in ⟨aG,aG⟩]
  ·left;refine⟨(b,i,I,l),⟨q,?_,t⟩,λrec=>?_⟩
   ·simp only;omega
   ·simp only[Sv];rw[Ah y];rfl) fz (j.1,j.2.1,j.2.2,[],n) ⟨p,F.1,by simp only[Bn];omega,λe u=>by cases u⟩ (by unfold fz;simp only;omega)
 rw[e];have z:iM a o.2.2.2:=⟨aG,λr d=>(w r d).1⟩;simp only;rw[Acg (gH z g)];exact⟨_,_,rfl,⟨Aby z,AnJ ⟨aG,λr d=>(w r d).2⟩⟩,G⟩
def Aez(h:GJ c):Dr (YG c) λd=>DbD d∧∀t∈d,Rw6 t.2.2:=by
 unfold YG;have⟨v,c1,e1,hv,hc1⟩:=XL h (l:=[2,3,4,6]) nF nF;have hv':2<=v∧v<=6:=by simp at hv;omega
 rw[e1];simp only[Aa]
 have⟨o,e,k1,k2,k3⟩:=Fu (B:=Pc (v,c1)) (λs=>GJ (s.1,s.2.1,s.2.2.1)∧0<=s.2.2.2.2∧s.2.2.2.2<=5∧(s.2.2.2.1.length:Int)=s.2.2.2.2∧∀t∈s.2.2.2.1,TbZ t) (λs=>(5 - s.2.2.2.2).toNat) (λo=>GJ (o.1,o.2.1,o.2.2.1)∧o.2.2.2.length=5∧∀t∈o.2.2.2,TbZ t) (λs hs=>by
  have⟨b,i,hh,l,k⟩:=s;have⟨i1,i2,i3,i4,i5⟩:=hs;simp only at i1 i2 i3 i4 i5;by_cases h2:k < 5
  ·right;obtain⟨nm,hg,hnm⟩:∃nm,AU ([[114],[115],[116],[117],[118]]:List zU) k=some nm∧nm.length<=10:=by have:k=0∨k=1∨k=2∨k=3∨k=4:=aG;rcases this with rfl|rfl|rfl|rfl|rfl<;>exact⟨_,rfl,nF⟩
   have⟨p,c2,e2,hp,hc2⟩:=XL i1 (l:=[3,6,9]) nF nF;have hp':0<=p∧p<=9:=by simp at hp;omega
   have step:∀x:Int,2<=x->x<=3->∃s',(GJ (s'.1,s'.2.1,s'.2.2.1)∧0<=s'.2.2.2.2∧s'.2.2.2.2<=5∧(s'.2.2.2.1.length:Int)=s'.2.2.2.2∧∀t∈s'.2.2.2.1,TbZ t)∧(5 - s'.2.2.2.2).toNat < (5 - k).toNat∧∀rec,RK rec (v,c1) b i hh l k nm x=rec s':=by
    intro x hx1 hx2;have⟨r,c3,e3,hr,hc3⟩:=Ab0 hc2 (a:=x) (m:=p) (v:=v) aG aG hp'.1 aG aG aG;refine⟨(c3.1,c3.2.1,c3.2.2,l++[(nm,r)],k+1),⟨hc3,by simp only;omega,by simp only;omega,by simp only[An,Aj];omega,?_⟩,by simp only;omega,λrec=>?_⟩
    ·intro t ht;rcases Al.1 ht with ht|ht
     ·exact i5 t ht
     ·rw[As]at ht;subst ht;exact⟨⟨hnm,x,hx1,aG,hr.1⟩,hr.2⟩
    ·unfold RK;rw[e2];simp only[Aa];rw[e3];simp only;rw[AO (by unfold lim;simp only[Aj];omega),wrap_in ⟨aG,aG⟩]
   cases hq:(nm==[118])with
   |true=>have⟨s',q1,q2,q3⟩:=step 3 aG aG;refine⟨s',q1,q2,λrec=>?_⟩;unfold Pc;dsimp only;rw[Ak (p:=k < _) (by simp;omega),hg];simp only[Ac,Aa,hq];exact q3 rec
   |false=>have⟨s',q1,q2,q3⟩:=step 2 aG aG;refine⟨s',q1,q2,λrec=>?_⟩;unfold Pc;dsimp only;rw[Ak (p:=k < _) (by simp;omega),hg];simp only[Ac,Aa,hq,Ad];exact q3 rec
  ·left;refine⟨(b,i,hh,l),⟨i1,by simp only;omega,i5⟩,λrec=>?_⟩;unfold Pc;dsimp only;rw[Ah (p:=k < _) (by simp;omega)];rfl) fz (c1.1,c1.2.1,c1.2.2,[],0) ⟨hc1,nF,nF,nF,λe he=>by cases he⟩ (by unfold fz;simp)
 rw[e];have⟨b,i,hh,l⟩:=o;simp only at k1 k2 k3⊢;have⟨w,c4,e4,_,hc4⟩:=WB k1 (n:=8) aG aG;rw[e4];simp only;cases w with
 |false=>exact⟨_,_,rfl,⟨⟨aG,λt ht=>(k3 t ht).1⟩,λt ht=>(k3 t ht).2⟩,hc4⟩
 |true=>
  simp only[Ac];have⟨x,c5,e5,hx,hc5⟩:=G9 hc4 (n:=5) aG aG;rw[AO aG,e5];simp only[TU];have:AU l x=some (l[x.toNat]'aG):=by unfold AU;rw[Az hx.1,Af]
  rw[this]
  have key:∀t∈CY l x ((l[x.toNat]'aG).1,(l[x.toNat]'aG).2.1,([]:List Row)),TbZ t:=λt ht=>by
   unfold CY at ht;rcases Dt ht with h1|rfl
   ·exact k3 t h1
   ·obtain⟨⟨q1,q⟩,-⟩:=k3 _ (Ae (aG:x.toNat < l.length));exact⟨⟨q1,2,aG,aG,nF,λr hr=>by cases hr⟩,nF,λr hr=>by cases hr⟩
  exact⟨_,_,rfl,⟨⟨by unfold CY;rw[By];omega,λt ht=>(key t ht).1⟩,λt ht=>(key t ht).2⟩,hc5⟩
def sY(h:GJ c):Dr (Pd c) λq=>Du q=true∧Q5d q:=by
 unfold Pd;have⟨s,I,k,A,e⟩:=sU h (l:=ZE) (by simp[ZE]) (by simp[ZE]);unfold ZE at k;rw[k];simp only[Aa];have⟨q,b,e2,r⟩:=yq A;rw[e2];simp only;have⟨w,c2,B,_,d⟩:=WB e (n:=3) aG aG;rw[B];simp only;cases w with
 |false=>exact⟨_,_,rfl,r,d⟩
 |true=>
  simp only[Au,Ad];have⟨n,t,C,J,f⟩:=G9 d (n:=4) aG aG;rw[C];simp only;have⟨m,K,D,L,g⟩:=G9 f (n:=4) aG aG;rw[D];simp only;rw[wrap_in (n:=1+m) ⟨aG,aG⟩,wrap_in (n:=1+n) ⟨aG,aG⟩];have⟨o,F,u,G,v⟩:=vk g (1+m) (n,t) (by simp only;omega) (by simp only;omega) aG;rw[F];have⟨M,N,O,x⟩:=o;simp only at u G v⊢;have⟨p,y,i,j⟩:=AbH u (n,t) (by simp only;omega) (by simp only;omega);simp only at y;rw[y];have⟨P,p2,Q,z⟩:=p;simp only at i j⊢;rw[Sq (q:=(1+n,x,z)) ⟨by unfold lim;simp only;omega,λa h=>by have:=v a h;unfold lim;omega,by unfold lim;simp only;omega⟩];simp only;cases H:Du (1+n,x,z)with
  |false=>exact⟨_,_,rfl,r,i⟩
  |true=>exact⟨_,_,rfl,⟨H,.inl<|by show 1+n<=4;omega⟩,i⟩
def yE(h:GJ c):Dr (WN c) λq=>AnyQ q∧(Du q=true->Q5d q):=by
 unfold WN;obtain⟨q,c1,e1,⟨hq,hq5⟩,hc1⟩:=sY h;have hqf:=De hq;obtain⟨h1,h2,h3,h4,h5,h6⟩:=sZ hq;have h5':∀a∈q.2.1,a.1.length<=4∧a.2.length<=5:=λa ha=>⟨(h5 a ha).1,(h5 a ha).2.2⟩
 rw[e1];simp only[Aa];obtain⟨w,c2,e2,_,hc2⟩:=G9 hc1 (n:=14) aG aG;rw[e2];simp only;have g0:AU q.2.1 0=some (q.2.1[0]'aG):=AV (k:=0) aG;have m0:=h5 _<|Ae (aG:0 < q.2.1.length);cases(w==0)with
 |true=>
  simp only[Ac];rw[wrap_in ⟨aG,aG⟩];obtain⟨x,c3,e3,hx,hc3⟩:=XL hc2 (l:=[0,6,q.1+1]) nF nF;have hx':0<=x∧x<=6:=by simp at hx;omega
  rw[e3];exact⟨_,_,rfl,⟨⟨hx'.1,hx'.2,h3,by simp only;omega,h5',by simp only;omega⟩,λhv=>Ad9 hq hq5 (by simpa using hx) hv⟩,hc3⟩
 |false=>
  simp only[Ad];cases(w==1)with
  |true=>
   simp only[Ac];obtain⟨x,c3,e3,hx,hc3⟩:=sU hc2 (l:=[[],[119],[114]]) nF nF;have hx':x.length<=4:=by simp at hx;rcases hx with rfl|rfl|rfl<;>simp
   rw[e3];simp only;rw[AO (by unfold lim;simp only[Aj];omega)];refine⟨_,_,rfl,⟨⟨by simp only;omega,by simp only;omega,by simp only[An,Aj];omega,by simp only[An,Aj];omega,λa ha=>?_,by simp only;omega⟩,λhv=>Aea hq5 hv⟩,hc3⟩;rcases Al.1 ha with ha|ha
   ·exact h5' a ha
   ·rw[As]at ha;subst ha;exact⟨hx',nF⟩
  |false=>
   simp only[Ad];cases(w==2)with
   |true=>simp only[Ac];obtain⟨x,c3,e3,hx,hc3⟩:=G9 hc2 (n:=6) aG aG;rw[e3];simp only;rw[AO (by unfold lim;simp only[Aj];omega)];exact⟨_,_,rfl,⟨⟨by simp only;omega,by simp only;omega,by simp only;omega,by simp only;omega,h5',by simp only[An,Aj];omega⟩,λ_=>hq5⟩,hc3⟩
   |false=>
    simp only[Ad];cases(w==3)with
    |true=>
     simp only[Ac];rw[AO aG,g0];refine⟨_,_,rfl,⟨⟨by simp only;omega,by simp only;omega,by unfold CY;simp only[By];omega,by unfold CY;simp only[By];omega,λa ha=>?_,by simp only;omega⟩,λhv=>Aeb h3 nF hv⟩,hc2⟩;unfold CY at ha;rcases Dt ha with h7|rfl
     ·exact h5' a h7
     ·exact⟨m0.1,nF⟩
    |false=>
     simp only[Ad];cases(w==4)with
     |true=>
      simp only[Ac];rw[AO aG,g0];simp only;rw[AO aG];obtain⟨x,c3,e3,hx,hc3⟩:=XL hc2 (l:=[-1,5]) nF nF;rw[e3];have g1:AU (q.2.1[0]'aG).2 0=some ((q.2.1[0]'aG).2[0]'aG):=AV (k:=0) aG;simp only[g1];refine⟨_,_,rfl,⟨⟨by simp only;omega,by simp only;omega,by unfold CY;simp only[By];omega,by unfold CY;simp only[By];omega,λa ha=>?_,by simp only;omega⟩,λhv=>Aec h3 (m0.2.1) hx hv⟩,hc3⟩;unfold CY at ha;rcases Dt ha with h7|rfl
      ·exact h5' a h7
      ·exact⟨m0.1,by simp only[By];omega⟩
     |false=>exact⟨_,_,rfl,⟨⟨by simp only;omega,by simp only;omega,by simp only;omega,by simp only;omega,h5',by simp only;omega⟩,λ_=>hq5⟩,hc2⟩
def n9(h:GJ c){p:EM}{n:Int}{f:List J7}{o:zI}(i:Du (n,f,o)=true)(j:Q5d (n,f,o)):Dr (My (p,c) n f o) λq=>AnyQ q∧(Du q=true->Q5d q):=by
 unfold My;have⟨w,c2,e,_,d⟩:=WB h (n:=14) aG aG;rw[e];simp only[Aa];cases w with
 |false=>have b:=sZ i;exact⟨_,_,rfl,⟨⟨by have:=b.1;simp only at this⊢;omega,by have:=b.2.1;simp only at this⊢;omega,b.2.2.1,by have:=b.2.2.2.1;simp only at this⊢;omega,λa k=>by have:=b.2.2.2.2.1 a k;omega,by have:=b.2.2.2.2.2;simp only at this⊢;omega⟩,λ_=>j⟩,d⟩
 |true=>have⟨x,r,l,m,g⟩:=yE d;simp only[Ac];rw[l];exact⟨_,_,rfl,m,g⟩
def uN(h:GJ c):Dr (Ss c) λq=>AnyQ q∧(Du q=true->Q5d q):=by
 unfold Ss;have⟨q,i,f,⟨g,d⟩,a⟩:=sY h;rw[f];simp only[Aa];cases decide (4 < q.1)with
 |false=>exact n9 a g d
 |true=>have⟨r,b,e2,e⟩:=yq (s:=[40,88,41,61,114,40,88,89,41,44,115,40,89,90,41,44,116,40,90,85,41]) (by simp[ZE]);simp only[Ac];rw[e2];exact n9 a e.1 e.2
end
def QA{n S T}(h:∀u,u < n->S u=T u):Ds n S=Ds n T:=by unfold Ds;rw[FF λu a=>h u (Ao.1 a)]
def j1{m S}(h:∀u,m<=u->S u=false):∀d,Ds (m+d) S=Ds m S
 |0=>rfl
 |d+1=>by rw[<-Nat.add_assoc,jZ,j1 h d,h (m+d) aG];simp
def Zn(n:Nat)(S:Nat->Bool)(p:Int->Bool):(Ds n S).filter p=Ds n λu=>S u&&p (u:Int):=by unfold Ds;rw[List.filter_map,K3];congr 2;funext u;simp only[Function.comp];exact GZ _ _
def Z0{n S x}:x∈Ds n S↔∃u:Nat,x=(u:Int)∧u < n∧S u=true:=by
 unfold Ds;rw[Aw];constructor
 ·rintro⟨u,c,rfl⟩;have⟨a,b⟩:=AM.1 c;exact⟨u,rfl,Ao.1 a,b⟩
 ·rintro⟨u,rfl,a,b⟩;exact⟨u,AM.2 ⟨Ao.2 a,b⟩,rfl⟩
def ZZ(n:Nat)(S:Nat->Bool)(u:Nat):(Ds n S).contains (u:Int)=(decide (u < n)&&S u):=by
 rw[Bb,Ag,Z0,Ab,AN];constructor
 ·rintro⟨w,e,a,b⟩;obtain rfl:u=w:=aG;exact⟨a,b⟩
 ·rintro⟨a,b⟩;exact⟨u,rfl,a,b⟩
def vm(a:J7)(k:Nat):FJ a k=Ds k λv=>a.2.contains (v:Int):=rfl
def GB(q:EM)(v w:Nat):Bool:=w !=v&&q.2.1.any λa=>a.2.contains (v:Int)&&a.2.contains (w:Int)
def Yt(k v:Nat):((k:Int)!=(v:Int))=(k !=v):=by rw[Bb,Cy,Cy];omega
section
variable {q:EM}
def Amh(c:MA q)(v k:Nat):Ay (Jq q (v:Int) (k:Int)) fz (false,0)=some (GB q v k):=by
 have:=Cm (body:=Jq q (v:Int) (k:Int)) (out:=GB q v k) (λj=>(k !=v&&(q.2.1.take j).any λa=>a.2.contains (v:Int)&&a.2.contains (k:Int),(j:Int))) q.2.1.length (λj b d=>by
  have f:=c.2.1 _<|Ae b;unfold Jq Jr;simp only;rw[Bq b,AV b,BA b (Bk c.1),Yt];simp only[Ac,Aa,nW f.2];have e:((q.2.1.take<|j+1).any λa=>a.2.contains (v:Int)&&a.2.contains (k:Int))=((q.2.1.take j).any (λa=>a.2.contains (v:Int)&&a.2.contains (k:Int)) || (q.2.1[j].2.contains (v:Int)&&q.2.1[j].2.contains (k:Int))):=by rw[A3 b,Jj];simp
  rw[e];cases k !=v<;>cases(q.2.1.take j).any (λa=>a.2.contains (v:Int)&&a.2.contains (k:Int))<;>cases q.2.1[j].2.contains (v:Int)<;>cases q.2.1[j].2.contains (k:Int)<;>rfl) (λrec=>by unfold Jq;simp only;rw[Bh,AQ];rfl) fz (Dp c.1)
 simpa using this
def Amg(a:MA q)(b:Du q=true)(v:Nat):Ry q (v:Int)=some (Ds q.1.toNat<|GB q v):=by
 have⟨d,e⟩:=LA b;unfold Ry
 rw[show((([]:zI),(0:Int)):zI×Int)=(Ds 0 (GB q v),((0:Nat):Int))from rfl,Cm (body:=Lh q (v:Int)) (out:=Ds q.1.toNat (GB q v)) (λk=>(Ds k (GB q v),(k:Int))) q.1.toNat (λk f c=>by
  unfold Lh N5;simp only;rw[Ak (aG:(k:Int) < q.1),Sq a,b];simp only[Ac,Aa,Amh a];have:=Nc k<|GB q v;rw[AO (by unfold lim;simp;omega),wrap_in aG,jZ];cases GB q v k
  ·simp
  ·rfl) (λrec=>by
  unfold Lh;simp only;rw[Ah (aG:¬((q.1.toNat:Nat):Int) < q.1)];rfl) fz (Dp uY)]
 rfl
def je{l}(h:l.length < lim)(v:Int):Ri l v=some (l.filter λx=>x !=v):=by
 unfold Ri
 rw[show((([]:zI),(0:Int)):zI×Int)=((l.take 0).filter (λx=>x !=v),((0:Nat):Int))from rfl,Cm (body:=Nj l v) (out:=l.filter λx=>x !=v) (λk=>((l.take k).filter (λx=>x !=v),(k:Int))) l.length (λk a b=>by
  unfold Nj P4;simp only;rw[Bq a,AV a,BA a (Bk<|Ck h),ft _ a];simp only[Ac,Aa];have:=BY (λx=>x !=v)<|l.take k;rw[AH]at this;rw[AO (by simp;omega)];cases l[k]!=v
  ·simp
  ·rfl) (λrec=>by unfold Nj;simp only;rw[Bh,AQ];rfl) fz (Dp (Ck h))]
 rfl
def Adb(g:MA q)(i:Du q=true)(v:Nat):Oj q (v:Int)=some (Ds q.1.toNat<|GB q v):=by
 have⟨s,t⟩:=LA i;have⟨_,_,w,c⟩:=Qw i;unfold Oj;rw[OS g,i];simp only[Aa,Au,Ad]
 rw[show((([]:zI),(0:Int)):zI×Int)=(Ds 100 (λu=>(q.2.1.take 0).any λa=>a.2.contains (v:Int)&&a.2.contains (u:Int)),((0:Nat):Int))from by
  rw[QA (T:=λ_=>false) (λu _=>by simp)];unfold Ds;simp,Cm (body:=KX q (v:Int)) (out:=Ds 100 (λu=>q.2.1.any λa=>a.2.contains (v:Int)&&a.2.contains (u:Int))) (λk=>(Ds 100 (λu=>(q.2.1.take k).any λa=>a.2.contains (v:Int)&&a.2.contains (u:Int)),(k:Int))) q.2.1.length (λk b n=>by
  have f:=g.2.1 _<|Ae b;have j:=(c _<|Ae b).2;unfold KX NW;simp only;rw[Bq b,AV b,BA b (Bk g.1)];simp only[Ac,Aa,bW f.2,ub f.2 (bW f.2)];have e:(λu:Nat=>(q.2.1.take<|k+1).any λa=>a.2.contains (v:Int)&&a.2.contains (u:Int))=λu:Nat=>((q.2.1.take k).any (λa=>a.2.contains (v:Int)&&a.2.contains (u:Int)) || (q.2.1[k].2.contains (v:Int)&&q.2.1[k].2.contains (u:Int))):=by funext u;rw[A3 b,Jj];simp
  rw[e];cases y:q.2.1[k].2.contains (v:Int)with
  |false=>simp only[Ad,Ho,Dv]
  |true=>
   have o:=NJ q.2.1[k] 5;have p:∀x∈FJ q.2.1[k] 5,(0:Int)<=x∧x<=99:=λx l=>by rw[vm]at l;obtain⟨u,rfl,m,_⟩:=Z0.1 l;omega
   rw[Ac,dT uY p];simp only;rw[QA (λu m=>?_)];unfold Wg;rw[vm,ZZ,AK];congr 1;rw[Bb,Ab,AN];refine⟨λh=>h.2,λh=>⟨?_,h⟩⟩;have:=j _<|Ag.1 h;omega) (λrec=>by unfold KX;simp only;rw[Bh,AQ];rfl) fz (Dp g.1)]
 have o:=Nc 100<|λu=>q.2.1.any λa=>a.2.contains (v:Int)&&a.2.contains (u:Int)
 simp only;rw[je uY,Zn];simp only;obtain⟨d,r⟩:∃d,100=q.1.toNat+d:=⟨100 - q.1.toNat,aG⟩;rw[r,j1 (λu m=>?_)]
 ·rw[QA (λu _=>?_)];unfold GB;rw[Yt,GZ]
 ·rw[Hn];left;rw[BU];intro a f h;rw[Ab]at h;have:=((c a f).2 _<|Ag.1 h.2).2;omega
end
end Go.Proofs.YtdmpnamllcigdaaGreatDoor
