/- The decomposition that an elimination order gives, and that it is valid. Plain lists; conditions: the order names each variable once. -/
import Derived.Test.YtdmpnamllcigdaaGreatDoorNbFP1
import Derived.Test.YtdmpnamllcigdaaGreatDoorTcFP1
import Derived.Test.YtdmpnamllcigdaaGreatDoorQfFP1
import Derived.Test.YtdmpnamllcigdaaGreatDoorKc
open Go.RowKit
set_option linter.all false
namespace Go.Proofs.YtdmpnamllcigdaaGreatDoor
def W0(O:zN)(G:Nat->Nat->Bool)(i:Nat):Nat->Bool:=λu=>u==oAt O i || (G (oAt O i) u&& !(O.take i).contains u)
def stepG(O:zN)(G:Nat->Nat->Bool)(i:Nat):Nat->Nat->Bool:=λa b=>G a b || ((W0 O G i a&&W0 O G i b)&&a !=b)
def UQ(O:zN)(G:Nat->Nat->Bool):Nat->Nat->Nat->Bool
 |0=>G
 |i+1=>stepG O (UQ O G i) i
def Vo(O:zN)(G:Nat->Nat->Bool)(i:Nat):Nat->Bool:=W0 O (UQ O G i) i
def OQ(O:zN)(G:Nat->Nat->Bool)(i:Nat):zI:=Ds O.length<|Vo O G i
def nxt(O:zN)(G:Nat->Nat->Bool)(i:Nat):Nat:=((List.range' (i+1)<|O.length - 1 - i).find? λk=>Vo O G i<|oAt O k).getD<|i+1
def MX(O:zN)(G:Nat->Nat->Bool)(i:Nat):Int:=cond (i+1==O.length) (-1) (nxt O G i:Int)
def Qj(O:zN)(G:Nat->Nat->Bool):List zI×zI:=((List.range O.length).map<|OQ O G,(List.range O.length).map<|MX O G)
def fq{n r f}(a:r < n)(b:f r=true)(c:∀i,i < n->f i=true->i=r):(List.range n).filter f=[r]:=
 yb (Ec _ C3) (AM.2 ⟨Ao.2 a,b⟩) (λi hi=>c i (Ao.1 (AM.1 hi).1) (AM.1 hi).2)
def ZU(O:zN):Prop:=O.Nodup∧∀x∈O,x < O.length
section
variable {O:zN}{G:Nat->Nat->Bool}
def Vz(a:ZU O){i:Nat}(h:i < O.length):oAt O i < O.length:=by rw[Px h];exact a.2 _<|Ae h
def Vc(a:ZU O){i j:Nat}(hi:i < O.length)(b:j < O.length)(h:oAt O i=oAt O j):i=j:=by rw[Px hi,Px b]at h;exact(DZ a.1).1 h
def aE(hp:ZU O){u:Nat}(h:u < O.length):∃p,p < O.length∧oAt O p=u:=by
 have hm:u∈O:=Bp λhc=>by
  have hn:((u::O).map λx:Nat=>(x:Int)).Nodup:=by unfold List.Nodup;rw[CV];refine FE (λh e=>h aG)<|show(u::O).Pairwise (· ≠ ·)from BI.2 ⟨hc,hp.1⟩
  have:=few O.length _ hn (λe he=>by obtain⟨x,hx,rfl⟩:=Aw.1 he;have:x < O.length:=(AL.1 hx).elim (λe=>e ▸ h)<|hp.2 x;omega);rw[Ai,AC]at this;omega
 have⟨p,hpl,e⟩:=AE.1 hm;exact⟨p,hpl,by rw[Px hpl,e]⟩
def fZ(b:ZU O){i p:Nat}(h:p < O.length):(O.take i).contains (oAt O p)=decide (p < i):=by
 rw[Bb,Ag,AN,DN];constructor
 ·rintro⟨j,c,e⟩;have a:j < O.length:=aG;rw[<-Px a]at e;have:=Vc b a h e;omega
 ·intro hi;exact⟨p,aG,by rw[Px h]⟩
def eN(a:ZU O){i p:Nat}(hi:i < O.length)(h:p < O.length):Vo O G i (oAt O p)=(p==i || (UQ O G i (oAt O i) (oAt O p)&&decide (i<=p))):=by
 unfold Vo W0;rw[fZ a h];have b:(oAt O p==oAt O i)=(p==i):=by rw[Bb,Bv,Bv];exact⟨Vc a h hi,λe=>by rw[e]⟩
 have e2:(!decide (p < i))=decide (i<=p):=by rw[Bb];simp
 rw[b,e2]
def kP{i a b}(h:UQ O G i a b=true):∀d,UQ O G (i+d) a b=true
 |0=>h
 |d+1=>by show stepG O (UQ O G<|i+d) (i+d) a b=true;unfold stepG;rw[kP h d];rfl
def Sym(G:Nat->Nat->Bool):Prop:=∀a b,G a b=G b a
def Irr(G:Nat->Nat->Bool):Prop:=∀a,G a a=false
def wJ(h:Sym G):∀i,Sym (UQ O G i)
 |0=>h
 |i+1=>λa b=>by
  show stepG O (UQ O G i) i a b=stepG O (UQ O G i) i b a;unfold stepG;have e:(a !=b)=(b !=a):=by rw[Bb,Cy,Cy];exact⟨Ne.symm,Ne.symm⟩
  rw[wJ h i a b,GZ (W0 O (UQ O G i) i a),e]
def wI(h:Irr G):∀i,Irr (UQ O G i)
 |0=>h
 |i+1=>λa=>by show stepG O (UQ O G i) i a a=false;unfold stepG;rw[wI h i a];simp
def xY(p:ZU O){i:Nat}(hi:i+1 < O.length):i < nxt O G i∧nxt O G i < O.length∧(∀k,i < k->k < nxt O G i->Vo O G i (oAt O k)=false)∧((∃k,i < k∧k < O.length∧Vo O G i (oAt O k)=true)->Vo O G i (oAt O<|nxt O G i)=true):=by
 unfold nxt;cases d:(List.range' (i+1)<|O.length - 1 - i).find? λk=>Vo O G i (oAt O k)with
 |none=>rw[List.find?_eq_none]at d;refine⟨G8 i,hi,λk f c=>by simp at c;omega,λ⟨k,f,c,g⟩=>?_⟩;exact absurd g<|d k<|JE.2 aG
 |some k=>
  have⟨f,h,q,e,c⟩:=List.find?_eq_some_iff_append.1 d;have l:k∈List.range' (i+1) (O.length - 1 - i):=by rw[e];simp
  have m:=JE.1 l;refine⟨by simp;omega,by simp;omega,λj g n=>?_,λ_=>f⟩;simp only[Bz]at n
  have o:j∈h:=by
   have a:j∈List.range' (i+1) (O.length - 1 - i):=JE.2 aG;rw[e,Al]at a;rcases a with a|a
   ·exact a
   ·exfalso;have b:(List.range' (i+1)<|O.length - 1 - i).Pairwise (· < ·):=List.pairwise_lt_range';rw[e]at b;rcases AL.1 a with a|a
    ·omega
    ·have:=(Ct.1 (EF.1 b).2.1).1 j a;omega
  have:=c j o;simpa using this
def yo{i}(hi:i < O.length):((List.range O.length).map<|MX O G)[i]? =some (MX O G i):=by rw[BS,C8 hi];rfl
def d5{i}(hi:i < O.length)(f:Int->Bool):HJ ((List.range O.length).map<|MX O G) i f=f (MX O G i):=by unfold HJ;rw[yo hi]
def dH{i}(hi:i < O.length)(f:zI->Bool):HJ ((List.range O.length).map<|OQ O G) i f=f (OQ O G i):=by unfold HJ;rw[BS,C8 hi];rfl
def AiO{i:Nat}(hi:i < O.length):VG ((List.range O.length).map<|MX O G) (i:Int)=MX O G i:=by unfold VG;rw[Ax,yo hi];rfl
def QH(a:ZU O){i:Nat}(hi:i < O.length):(MX O G i= -1∧i+1=O.length)∨(∃k:Nat,MX O G i=(k:Int)∧i < k∧k < O.length∧k=nxt O G i∧i+1 < O.length):=by
 unfold MX;by_cases h:i+1=O.length
 ·left;rw[Bv.2 h];exact⟨rfl,h⟩
 ·right;rw[Be.2 h];have:=xY (G:=G) a (i:=i) aG;exact⟨_,rfl,this.1,this.2.1,rfl,aG⟩
def zH(p:zI):∀m,X6 p m (-1)=some (-1)
 |0=>rfl
 |m+1=>by rw[X6,AA aG]
def oE(b:ZU O):∀(m i:Nat),i < O.length->O.length<=m+i->X6 ((List.range O.length).map<|MX O G) m (i:Int)=some (-1)
 |0,i,a,f=>by omega
 |m+1,i,a,f=>by
  rw[X6,Az aG,AiO a];have c:kU ((List.range O.length).map<|MX O G) (MX O G i)=true:=by unfold kU HH;rw[Ai,BJ,Ab,AN,AN];rcases QH (G:=G) b a with⟨e,_⟩|⟨k,e,_,d,_⟩<;>rw[e]<;>omega
  rw[Az c];rcases QH (G:=G) b a with⟨e,_⟩|⟨k,e,g,d,_⟩
  ·rw[e];exact zH _ m
  ·rw[e];exact oE b m k d aG
def v4(b:ZU O)(f:0 < O.length):UN ((List.range O.length).map<|MX O G)=true:=by
 rw[<-TV];unfold Tz;have a:((List.range O.length).map<|MX O G).length=O.length:=nF;rw[Ab];constructor
 ·rw[At];refine FSQ λi hi=>?_
  rw[a]at hi;have e:((List.range O.length).map<|MX O G)[i]'(by rw[a];exact hi)=MX O G i:=nF;rw[e,BN];constructor
  ·rw[B8];unfold kU HH;rw[a,Ab,AN,AN];rcases QH (G:=G) b hi with⟨e,_⟩|⟨k,e,_,c,_⟩<;>rw[e]<;>omega
  ·rw[B8];unfold endsB;rw[a,oE b _ i hi aG];rfl
 ·have:YB (λx=>decide (x < 0)) ((List.range O.length).map<|MX O G) ((List.range O.length).map<|MX O G).length=[O.length - 1]:=by
   rw[a];refine fq aG ?_ λi hi h=>?_
   ·rw[d5 aG,AN];rcases QH (G:=G) b (i:=O.length - 1) aG with⟨e,_⟩|⟨k,e,d,c,_⟩
    ·rw[e];omega
    ·omega
   ·rw[d5 hi,AN]at h;rcases QH (G:=G) b hi with⟨e,g⟩|⟨k,e,d,c,_⟩
    ·omega
    ·omega
  rw[this];rfl
def vg(n:Nat)(S:Nat->Bool):(Ds n S).Pairwise (· < ·):=by unfold Ds;rw[CV];exact FE (λh=>by omega)<|Ec _ GO
def qw{n:Nat}(d:1<=n∧n<=5){S:Nat->Bool}(h:∃u,u < n∧S u=true):RZ (n:Int) (Ds n S)=true:=by
 unfold RZ;rw[Ab];constructor
 ·rw[At];refine FSQ λi hi=>?_
  rw[BN];constructor
  ·have⟨u,e,f,_⟩:=Z0.1 (Ae hi);unfold Py HH;rw[e,wrap_in aG,B8,Ab,AN,AN];omega
  ·unfold Iw;rw[Hn];by_cases a:0 < i
   ·right;rw[B5 (show i - 1 < (Ds n S).length by omega)];have:=B3.1 (vg n S) (i - 1) i aG hi aG;exact Ah aG
   ·left;exact Ah a
 ·have⟨u,b,c⟩:=h;have:(u:Int)∈Ds n S:=Z0.2 ⟨u,rfl,b,c⟩;rw[AN];exact Int.natCast_pos.2<|EQ this
def Z4(a:ZU O){i p:Nat}(hi:i < O.length)(h:p < O.length):(OQ O G i).contains ((oAt O p:Nat):Int)=(p==i || (UQ O G i (oAt O i) (oAt O p)&&decide (i<=p))):=by unfold OQ;rw[ZZ,Ak (Vz a h),AK,eN a hi h]
def vZ(b:ZU O)(A:Sym G)(B:0 < O.length):aY id ((List.range O.length).map<|OQ O G) ((List.range O.length).map<|MX O G) O.length=false:=by
 unfold aY;rw[BU];intro v m;have m:=Ao.1 m;obtain⟨p,a,rfl⟩:=aE b m
 have:Nt id ((List.range O.length).map<|OQ O G) ((List.range O.length).map<|MX O G) ((oAt O p:Nat):Int) ((List.range O.length).map<|MX O G).length=1:=by
  unfold Nt;rw[Ai,BJ,fq (r:=p) a ?_ ?_]
  ·rfl
  ·unfold aX;rw[dH a,d5 a,id,Z4 b a a,C4,Ki,AK];rcases QH (G:=G) b a with⟨e,_⟩|⟨k,e,u,f,_⟩
   ·rw[e];rfl
   ·rw[e,Ax,dH f,id,Z4 b f a,Be.2 aG,Ah (aG:¬k<=p)];simp
  ·intro i hi h;unfold aX at h;rw[dH hi,d5 hi,id,Z4 b hi a,Ab]at h;have⟨l,g⟩:=h;rw[BZ,Bv,Ab,AN]at l;rcases l with l|⟨w,n⟩
   ·exact l.symm
   ·refine Bp λhne=>?_
    rcases QH (G:=G) b hi with⟨e,C⟩|⟨k,e,u,f,o,x⟩
    ·omega
    ·have c:Vo O G i (oAt O p)=true:=by rw[eN b hi a,w,Ak n];simp
     have⟨D,F,y,z⟩:=xY (G:=G) b x;have q:k<=p:=Bp λhc=>by have:=y p aG aG;rw[c]at this;cases this
     have s:Vo O G i (oAt O k)=true:=by rw[o];exact z ⟨p,aG,a,c⟩
     rw[e,Ax,dH f,id,Z4 b f a]at g;have t:decide ((k:Int) < 0)=false:=Ah aG;rw[t,Cg,At,BN,Be,Ak q,CX]at g
     have d:UQ O G (i+1) (oAt O k) (oAt O p)=true:=by
      show stepG O (UQ O G i) i (oAt O k) (oAt O p)=true;unfold stepG;have j:(oAt O k !=oAt O p)=true:=by rw[Cy];intro e2;exact g.1 (Vc b f a e2).symm
      rw[show W0 O (UQ O G i) i (oAt O k)=true from s,show W0 O (UQ O G i) i (oAt O p)=true from c,j];simp
     have:=kP d<|k - (i+1);rw[show i+1+(k - (i+1))=k from by omega]at this;rw[this]at g;cases g.2
 rw[this];simp
end
def xS(q:EM):Sym (GB q):=λa b=>by
 unfold GB;have e:(b !=a)=(a !=b):=by rw[Bb,Cy,Cy];exact⟨Ne.symm,Ne.symm⟩
 rw[e];congr 2;funext x;exact GZ _ _
def AhT(q:EM):Irr (GB q):=λa=>by unfold GB;simp
def vY{q O}(m:Du q=true)(d:ZU O)(B:O.length=q.1.toNat):Vp q (Qj O<|GB q)=true:=by
 have⟨I,J,_,n⟩:=De m;have C:q.1=(O.length:Int):=aG;unfold Vp Qj;simp only;rw[m,v4 d aG,<-B,vZ d (xS q) aG]
 have D:(!BK ((List.range O.length).map<|OQ O<|GB q) λ_ b=> !RZ q.1 b)=true:=by
  rw[At];refine FSQ λi hi=>?_
  rw[Ai,BJ]at hi;rw[Bl,Ei,B8,C];refine qw ⟨aG,aG⟩ ⟨oAt O i,Vz d hi,?_⟩;rw[eN d hi hi];simp
 have e2:(!BK q.2.1 λ_ a=> !((List.range O.length).map<|OQ O<|GB q).any (TI a))=true:=by
  rw[At];refine FSQ λj x=>?_
  have⟨o,r,g⟩:=n _<|Ae x;have h:=Ae x;rw[B8,List.any_map,BR];generalize q.2.1[j]=a at o r g h;have c:∀v∈a.2,∃p,p < O.length∧v=((oAt O p:Nat):Int):=λv m=>by have⟨b1,b2⟩:=g v m;have⟨p,s,y⟩:=aE d (u:=v.toNat) aG;exact⟨p,s,aG⟩
  cases z:(List.range O.length).find? λp=>a.2.contains ((oAt O p:Nat):Int)with
  |none=>
   exfalso;have⟨p,s,y⟩:=c _<|Ae<|show 0 < a.2.length by omega
   have:=(List.find?_eq_none.1 z) p<|Ao.2 s;rw[<-y]at this;exact this<|Ag.2<|Ae _
  |some p=>
   have⟨F,c2,G⟩:=List.find?_range_eq_some.1 z;have l:=Ao.1 c2;refine⟨p,c2,?_⟩;show TI a (OQ O (GB q) p)=true;unfold TI;rw[Aq];intro v f;obtain⟨k,A,rfl⟩:=c v f;rw[Z4 d l A];have t:p<=k:=Bp λhc=>by have:=G k aG;rw[Ag.2 f]at this;cases this
   rw[Ak t,CX];by_cases w:k=p
   ·rw[Bv.2 w];rfl
   ·rw[Be.2 w,Cg];have H:UQ O (GB q) 0 (oAt O p) (oAt O k)=true:=by show GB q (oAt O p) (oAt O k)=true;unfold GB;rw[Ab,Cy,BR];exact⟨λe=>w<|Vc d A l e,a,h,by rw[F,Ag.2 f];rfl⟩
    have:=kP H p
    rwa [C9]at this
 rw[D,e2];simp
def T4(n:Nat)(H:Nat->Nat->Bool):List Bool:=(List.range<|n * n).map λt=>H (t / n)<|t % n
def AhK(n:Nat)(H:Nat->Nat->Bool):(T4 n H).length=n * n:=by simp[T4]
def xN{n v u:Nat}(a:v < n)(b:u < n):v * n+u < n * n:=by have:(v+1) * n<=n * n:=Cd n a;rw[DS]at this;omega
def sD{n v u:Nat}(a:u < n):(v * n+u) / n=v∧(v * n+u) % n=u:=by
 constructor
 ·rw[Oy,Nat.add_mul_div_right _ _ aG,Nat.div_eq_of_lt a,C9]
 ·rw[Oy,Nat.add_mul_mod_self_right,DF a]
def pI{n v u:Nat}(H:Nat->Nat->Bool)(b:v < n)(a:u < n):AU (T4 n H) ((v * n+u:Nat):Int)=some (H v u):=by have hi:=xN b a;unfold AU;rw[Az aG,Ax];unfold T4;rw[BS,C8 hi,BP,(sD a).1,(sD a).2]
def xO{n v u:Nat}(H:Nat->Nat->Bool)(x:Bool)(e:v < n)(d:u < n):CY (T4 n H) ((v * n+u:Nat):Int) x=T4 n λa b=>if a=v∧b=u then x else H a b:=by
 unfold CY T4;rw[Ax];refine JD λt=>?_
 by_cases f:t < n * n
 ·rw[FG,BS,BS,C8 f,BP,BP];have i:0 < n:=aG;by_cases c:v * n+u=t
  ·rw[Az c,Az (by simp;exact xN e d),<-c,(sD d).1,(sD d).2];show some x=some (if v=v∧u=u then x else H v u);rw[Az ⟨rfl,rfl⟩]
  ·rw[AA c];have:¬(t / n=v∧t % n=u):=λ⟨g,h⟩=>c (by have:=Nat.div_add_mod t n;rw[g,h,Rm]at this;exact this)
   show some (H (t / n)<|t % n)=some (if t / n=v∧t % n=u then x else H (t / n) (t % n));rw[AA this]
 ·rw[Bt (by simp;omega),Bt (by simp;omega)]
def PQ{n H H'}(h:∀a b,a < n->b < n->H a b=H' a b):T4 n H=T4 n H':=by
 unfold T4;refine Bd λt c=>?_
 have c:=Ao.1 c;have d:0 < n:=Nat.pos_of_ne_zero λe=>by subst e;simp at c
 exact h _ _ (Nat.div_lt_of_lt_mul c)<|O6 _ d
def ixw{n v u:Nat}(a:n<=5)(c:v < n)(d:u < n):wZ (wZ ((v:Int) * (n:Int))+(u:Int))=((v * n+u:Nat):Int):=by
 have b:=xN c d;have f:n * n<=25:=Hr a a;have g:(v:Int) * (n:Int)=((v * n:Nat):Int):=by push_cast;rfl
 rw[g];generalize v * n=m at b⊢;generalize n * n=k at b f;have e:wZ ((m:Nat):Int)=(m:Int):=wrap_in aG;rw[e,wrap_in aG];omega
def d4(O:zN)(i u:Nat):((oI O).take i).contains (u:Int)=(O.take i).contains u:=by
 unfold oI;rw[Bb,Ag,Ag,<-List.map_take,Aw];constructor
 ·rintro⟨x,a,e⟩;obtain rfl:x=u:=aG;exact a
 ·intro h;exact⟨u,h,rfl⟩
def ld(k v:Nat):((k:Int)==(v:Int))=(k==v):=by rw[Bb,Bv,Bv];omega
section
variable {q:EM}{O:zN}{n:Nat}
def Aij(j:1<=n∧n<=5)(f:q.1=(n:Int))(l:ZU O)(m:O.length=n){i:Nat}(hi:i < n)(H:Nat->Nat->Bool):
  Ay (DP q (oI O) (T4 n H) (i:Int)) fz ([],0)=some (Ds n<|W0 O H i):=by
 have a:i < O.length:=aG;have b:oAt O i < n:=by rw[<-m];exact Vz l a
 rw[show((([]:zI),(0:Int)):zI×Int)=(Ds 0<|W0 O H i,((0:Nat):Int))from rfl]
 exact Cm (body:=DP q (oI O) (T4 n H) (i:Int)) (out:=Ds n (W0 O H i)) (λk=>(Ds k (W0 O H i),(k:Int))) n (λk g o=>by
  unfold DP Fi Gk;simp only;have p:=Nc k<|W0 O H i;rw[f,Ak (aG:(k:Int) < (n:Int)),aF a,wrap_in aG];simp only[Ac,Aa];rw[ld,ixw j.2 b g,pI H b g,jZ];simp only;have e:W0 O H i k=(k==oAt O i || (H (oAt O i) k&& !(O.take i).contains k)):=rfl;rw[AO (by unfold lim;simp;omega)];cases c:k==oAt O i with
  |true=>rw[Az (by rw[e,c];rfl)];rfl
  |false=>
   rw[Ad];cases d:H (oAt O i) k with
   |false=>rw[AA (by rw[e,c,d];simp)];simp
   |true=>
    rw[Ac,AO (by rw[EI];omega),UM,VC (by rw[AH,EI];unfold lim;omega)];simp only;rw[fu,d4];cases h:(O.take i).contains k with
    |true=>rw[AA (by rw[e,c,d,h];simp)];simp
    |false=>rw[Az (by rw[e,c,d,h];rfl)];rfl) (λrec=>by
  unfold DP;simp only;rw[f,Ah (aG:¬(n:Int) < (n:Int))];rfl) fz (Dp uY)
def Amm{bag}(g:1<=n∧n<=5)(c:q.1=(n:Int))(h:O.length=n)(e:bag.length<=lim)(p:Nat->Bool)(b:∀k,k < n->bag.contains ((oAt O k:Nat):Int)=p k):∀(d k m:Nat) (u:Int),k+d=n->d+1 < m->Ay (C0 q (oI O) bag) m (true,(k:Int),u)=some ((((List.range' k d).find? p).map λ(x:Nat)=>(x:Int)).getD u)
 |0,k,m+1,u,i,f=>by rw[Cn];generalize Ay (C0 q (oI O) bag) m=a;unfold C0;simp only;rw[c,Ah aG];rfl
 |d+1,k,m+1,u,i,f=>by
  have j:∀a:(Bool×Int×Int)->Option Int,C0 q (oI O) bag a (true,(k:Int),u)=cond (p k) (a (false,((k+1:Nat):Int),(k:Int))) (a (true,((k+1:Nat):Int),u)):=λrec=>by unfold C0 Gl;simp only;rw[c,Ak (aG:(k:Int) < (n:Int)),aF aG];simp only[Ac,Aa];rw[VC e];simp only;rw[J6,b k aG,wrap_in aG];rfl
  have l:∀(a:(Bool×Int×Int)->Option Int) (x y:Int),C0 q (oI O) bag a (false,x,y)=some y:=λrec x y=>by unfold C0;simp only;cases decide (x < q.1)<;>rfl
  rw[Cn,j,D0,List.find?_cons];cases o:p k with
  |false=>rw[Ad,Amm g c h e p b d (k+1) m u aG aG]
  |true=>
   rw[Ac];cases m with
   |zero=>omega
   |succ m=>rw[Cn,l];rfl
 |_,_,0,_,_,f=>by omega
def Air{B}(z:1<=n∧n<=5)(A:q.1=(n:Int))(u:∀x∈B,x < n)(i:B.Nodup)(C:B.length<=5){a:Nat}(v:a < B.length)(H:Nat->Nat->Bool):
  Ay (Fh q (oI B) (a:Int)) fz (T4 n H,0)=some (T4 n λx y=>H x y || ((x==B[a]&&B.contains y)&&x !=y)):=by
 have t:0 < n * n:=Nat.mul_pos aG aG
 have l:=Cm (body:=Fh q (oI B) (a:Int)) (out:=T4 n λx y=>H x y || ((x==B[a]&&(B.take B.length).contains y)&&x !=y)) (λj=>(T4 n λx y=>H x y || ((x==B[a]&&(B.take j).contains y)&&x !=y),(j:Int))) B.length (λj r D=>by
  unfold Fh;simp only;have m:∀(k:Nat) (s:k < B.length),AU (oI B) (k:Int)=some ((B[k]:Nat):Int):=λk s=>by rw[aF s,Px s]
  have d:=u _<|Ae v;have f:=u _<|Ae r;rw[EI,Bq r,wrap_in aG,AO (by rw[AhK];exact t),m a v,m j r];simp only[Ac,Aa];rw[A,ixw z.2 d f,pI _ d f,Yt];simp only;have o:(a !=j)=(B[a]!=B[j]):=by rw[Bb,Cy,Cy];exact⟨λh e=>h<|(DZ i).1 e,λh e=>h<|by subst e;rfl⟩
  have c:∀b:Bool,b=(H B[a] B[j] || (B[a]!=B[j]))->CY (T4 n λx y=>H x y || ((x==B[a]&&(B.take j).contains y)&&x !=y)) ((B[a] * n+B[j]:Nat):Int) b=T4 n λx y=>H x y || ((x==B[a]&&(B.take<|j+1).contains y)&&x !=y):=λb F=>by
   rw[xO _ _ d f];refine PQ λx y I J=>?_
   have G:(B.take<|j+1).contains y=((B.take j).contains y || y==B[j]):=by rw[Bb,BZ,Ag,Ag,Bv,A3 r,Al,As]
   rw[G];by_cases g:x=B[a]∧y=B[j]
   ·obtain⟨rfl,rfl⟩:=g;rw[Az ⟨rfl,rfl⟩,F];simp
   ·rw[AA g];by_cases hx':x=B[a]
    ·have:(y==B[j])=false:=by rw[Be];exactλe=>g ⟨hx',e⟩
     rw[this];simp
    ·rw[Be.2 hx'];simp
  have p:(B.take j).contains B[j]=false:=by rw[LK,Ne,Ag,DN];rintro⟨k,s,e⟩;have:=(DZ i).1 e;omega
  rw[p];simp only[Gf,Ho,Dv];cases w:H B[a] B[j]with
  |true=>rw[Ac,c true (by rw[w];rfl)];rfl
  |false=>rw[Ad,c (a !=j) (by rw[w,o];rfl)];rfl) (λrec=>by
  unfold Fh;simp only;rw[EI,Bh];rfl) fz (Dp uY)
 rw[AQ]at l;rw[<-l];congr 2;refine PQ λx y _ _=>?_
 simp
def Ach{B}(e:1<=n∧n<=5)(f:q.1=(n:Int))(g:∀x∈B,x < n)(b:B.Nodup)(c:B.length<=5)(H:Nat->Nat->Bool):
  Ay (Ff q<|oI B) fz (T4 n H,0)=some (T4 n λx y=>H x y || ((B.contains x&&B.contains y)&&x !=y)):=by
 have a:=Cm (body:=Ff q (oI B)) (out:=T4 n λx y=>H x y || (((B.take B.length).contains x&&B.contains y)&&x !=y)) (λj=>(T4 n λx y=>H x y || (((B.take j).contains x&&B.contains y)&&x !=y),(j:Int))) B.length (λj d h=>by
  unfold Ff;simp only;rw[EI,Bq d,wrap_in aG,Air e f g b c d];simp only[Ac,Aa]
  have:(T4 n λx y=>(H x y || (((B.take j).contains x&&B.contains y)&&x !=y)) || ((x==B[j]&&B.contains y)&&x !=y))=T4 n λx y=>H x y || (((B.take<|j+1).contains x&&B.contains y)&&x !=y):=by
   refine PQ λx y _ _=>?_
   have i:(B.take<|j+1).contains x=((B.take j).contains x || x==B[j]):=by rw[Bb,BZ,Ag,Ag,Bv,A3 d,Al,As]
   rw[i];cases H x y<;>cases(B.take j).contains x<;>cases x==B[j]<;>cases B.contains y<;>cases x !=y<;>rfl
  rw[this];rfl) (λrec=>by
  unfold Ff;simp only;rw[EI,Bh];rfl) fz (Dp uY)
 rw[AQ]at a;rw[<-a];congr 2;refine PQ λx y _ _=>?_
 simp
end
def j3(n:Nat)(S:Nat->Bool):Ds n S=oI ((List.range n).filter S):=rfl
def Xo{n S u}(h:u < n):((List.range n).filter S).contains u=S u:=by rw[Bb,Ag,AM,Ao];exact⟨λh=>h.2,λh2=>⟨h,h2⟩⟩
def dP{n S}:∀x∈(List.range n).filter S,x < n:=λx a=>Ao.1 (AM.1 a).1
def rK(n:Nat)(S:Nat->Bool):((List.range n).filter S).Nodup:=Ec _ C3
def VT(n:Nat)(S:Nat->Bool):((List.range n).filter S).length<=n:=Bm (BY _ _) nF
def sqw{n:Nat}(a:n<=5):wZ ((n:Int) * (n:Int))=((n * n:Nat):Int):=by
 have b:n * n<=25:=Hr a a;have c:(n:Int) * (n:Int)=((n * n:Nat):Int):=by push_cast;rfl
 rw[c];generalize n * n=k at b⊢;exact wrap_in aG
def AhL(n:Nat):List.replicate (n * n) false=T4 n λ_ _=>false:=by unfold T4;rw[GA,BJ]
section
variable {q:EM}{n:Nat}
def Amf{B}(i:1<=n∧n<=5)(k:q.1=(n:Int))(l:∀x∈B,x < n)(m:B.length<=5){v:Nat}(h:v < n)(H:Nat->Nat->Bool):
  Ay (Ll q (v:Int)<|oI B) fz (T4 n H,0)=some (T4 n λx y=>H x y || (x==v&&B.contains y)):=by
 have f:=Cm (body:=Ll q (v:Int) (oI B)) (out:=T4 n λx y=>H x y || (x==v&&(B.take B.length).contains y)) (λj=>(T4 n λx y=>H x y || (x==v&&(B.take j).contains y),(j:Int))) B.length (λj g o=>by
  unfold Ll;simp only;have c:=l _<|Ae g;rw[EI,Bq g,wrap_in (n:=(j:Int)+1) aG,aF g,Px g];simp only[Ac,Aa];rw[k,ixw i.2 h c,pI _ h c];simp only;rw[xO _ _ h c]
  have:(T4 n λa b=>if a=v∧b=B[j]then true else H a b || (a==v&&(B.take j).contains b))=T4 n λx y=>H x y || (x==v&&(B.take<|j+1).contains y):=by
   refine PQ λx y r s=>?_
   have p:(B.take<|j+1).contains y=((B.take j).contains y || y==B[j]):=by rw[Bb,BZ,Ag,Ag,Bv,A3 g,Al,As]
   rw[p];by_cases d:x=v∧y=B[j]
   ·obtain⟨rfl,rfl⟩:=d;rw[Az ⟨rfl,rfl⟩];simp
   ·rw[AA d];by_cases hx':x=v
    ·have:(y==B[j])=false:=by rw[Be];exactλe=>d ⟨hx',e⟩
     rw[this];simp
    ·rw[Be.2 hx'];simp
  rw[this];rfl) (λrec=>by
  unfold Ll;simp only;rw[EI,Bh];rfl) fz (Dp uY)
 rw[AQ]at f;rw[<-f];congr 2;refine PQ λx y _ _=>?_
 simp
def yS(m:MA q)(i:Du q=true):RH q=some (T4 q.1.toNat<|GB q):=by
 have⟨r,s⟩:=LA i;have d:q.1=((q.1.toNat:Nat):Int):=aG;generalize q.1.toNat=n at d;have c:1<=n∧n<=5:=aG;have f:q.1.toNat=n:=aG;have g:n * n<=25:=Hr c.2 c.2;unfold RH;rw[d,sqw c.2,Ax,AO (by generalize n * n=k at g⊢;unfold lim;omega),AhL]
 have:=Cm (body:=N6 q) (out:=T4 n (GB q)) (λv=>(T4 n λa b=>decide (a < v)&&GB q a b,(v:Int))) n (λv h o=>by
  unfold N6;simp only;rw[d,Ak (aG:(v:Int) < (n:Int)),Amg m i,f,j3,wrap_in aG];simp only[Ac,Aa];rw[Amf c d dP (Bm (VT _ _) c.2) h];simp only
  have:(T4 n λx y=>(decide (x < v)&&GB q x y) || (x==v&&((List.range n).filter<|GB q v).contains y))=T4 n λa b=>decide (a < v+1)&&GB q a b:=by
   refine PQ λx y j l=>?_
   rw[Xo l];by_cases e:x=v
   ·subst e;rw[Ah (G2 _),Ak (G8 _)];simp
   ·rw[Be.2 e];have:decide (x < v)=decide (x < v+1):=by rw[Bb,AN,AN];omega
    rw[this];simp
  rw[this];rfl) (λrec=>by
  unfold N6;simp only;rw[d,Ah (aG:¬(n:Int) < (n:Int)),Ad];congr 1;refine PQ λx y j l=>?_
  rw[Ak j,AK]) fz (Dp uY)
 have p:(T4 n λa b=>decide (a < 0)&&GB q a b)=T4 n λ_ _=>false:=PQ λx y _ _=>by simp
 rw[p]at this;rw[show((T4 n λ_ _=>false,(0:Int)):List Bool×Int)=(T4 n λ_ _=>false,((0:Nat):Int))from rfl,this];rfl
def yl{O}(a:Du q=true)(b:ZU O)(d:O.length=q.1.toNat):Sf q (oI O)=true:=by
 have⟨f,g⟩:=LA a;unfold Sf;rw[a,EI,AK,Ab,Bv];refine⟨aG,?_⟩;rw[At];refine FSQ λi hi=>?_
 rw[EI]at hi;have e:(oI O)[i]'(by rw[EI];exact hi)=((oAt O i:Nat):Int):=by rw[Px hi];simp[oI]
 have c:=Vz b hi;unfold GP HH;rw[e,d4,fZ b hi,Ah (G2 i),wrap_in aG,Dv,B8,Ab,AN,AN];omega
def nA(o:Option Nat)(u:Nat):(o.map λ(x:Nat)=>(x:Int)).getD (u:Int)=((o.getD u:Nat):Int):=by cases o<;>rfl
def aB{α:Type}(f:Nat->α)(i:Nat):(List.range i).map f++[f i]=(List.range<|i+1).map f:=by rw[CO,Br];rfl
def Amb{O}(p:MA q)(h:Du q=true)(j:ZU O)(r:O.length=q.1.toNat):Ef q (oI O)=some (Qj O<|GB q,true):=by
 have⟨z,A⟩:=LA h;have s:=yS p h;rw[<-r]at s;have d:q.1=(O.length:Int):=aG;have b:1<=O.length∧O.length<=5:=aG;unfold Ef;rw[lJ p (by rw[EI];unfold lim;omega),yl h j r];simp only[Aa,Au,Ad];rw[s];simp only
 have:=Cm (body:=Fe q (oI O)) (out:=Qj O (GB q)) (λi=>(T4 O.length (UQ O (GB q) i),(List.range i).map (OQ O (GB q)),(List.range i).map (MX O (GB q)),(i:Int))) O.length (λi hi e=>by
  unfold Fe Gm;simp only;have f:Ds O.length (W0 O (UQ O (GB q) i) i)=OQ O (GB q) i:=rfl;have u:=Nc O.length<|Vo O (GB q) i;rw[d,Ak (aG:(i:Int) < (O.length:Int)),Aij b d j rfl hi,f,wrap_in (n:=(i:Int)+1) aG,wrap_in (n:=(O.length:Int) - 1) aG];simp only[Ac,Aa];have l:=Amm (q:=q) (bag:=OQ O (GB q) i) b d rfl (by unfold OQ lim;omega) (λk=>Vo O (GB q) i<|oAt O k) (λk v=>by unfold OQ;rw[ZZ,Ak (Vz j v),AK]) (O.length - 1 - i) (i+1) fz ((i:Int)+1) aG<|Nat.lt_of_le_of_lt (aG:O.length - 1 - i+1<=5)<|Dp uY;rw[show((true,(i:Int)+1,(i:Int)+1):Bool×Int×Int)=(true,((i+1:Nat):Int),(i:Int)+1)from rfl,l];simp only;have a:=Ach (q:=q) b d (dP (n:=O.length) (S:=Vo O (GB q) i)) (rK _ _) (Bm (VT _ _) b.2)<|UQ O (GB q) i;have m:OQ O (GB q) i=oI ((List.range O.length).filter<|Vo O (GB q) i):=rfl
  have o:(T4 O.length λx y=>UQ O (GB q) i x y || ((((List.range O.length).filter<|Vo O (GB q) i).contains x&&((List.range O.length).filter<|Vo O (GB q) i).contains y)&&x !=y))=T4 O.length (UQ O (GB q)<|i+1):=by
   refine PQ λx y g w=>?_
   rw[Xo g,Xo w];rfl
  rw[o,<-m]at a;rw[a,show((i:Int)+1)=((i+1:Nat):Int)from rfl,nA];simp only;have c:∀x:Int,x=MX O (GB q) i->chk (((List.range i).map<|OQ O<|GB q).length+[OQ O (GB q) i].length<=lim) (chk (((List.range i).map<|MX O<|GB q).length+[x].length<=lim)<|e (T4 O.length<|UQ O (GB q)<|i+1,(List.range i).map (OQ O<|GB q)++[OQ O (GB q) i],(List.range i).map (MX O<|GB q)++[x],((i+1:Nat):Int)))=e (T4 O.length<|UQ O (GB q)<|i+1,(List.range<|i+1).map<|OQ O<|GB q,(List.range<|i+1).map<|MX O<|GB q,((i+1:Nat):Int)):=λx g=>by subst g;rw[AO (by simp;unfold lim;omega),AO (by simp;unfold lim;omega),aB,aB]
  by_cases t:i+1=O.length
  ·rw[show((i:Int)==(O.length:Int) - 1)=true from Bv.2 aG,Ac];exact c _ (by unfold MX;rw[Bv.2 t];rfl)
  ·rw[show((i:Int)==(O.length:Int) - 1)=false from Be.2 aG,Ad];have g:((((List.range' (i+1)<|O.length - 1 - i).find? λk=>Vo O (GB q) i<|oAt O k).getD (i+1):Nat):Int)=MX O (GB q) i:=by unfold MX nxt;rw[Be.2 t,Ad]
   exact c _ g) (λrec=>by
  unfold Fe;simp only;rw[d,Ah (aG:¬(O.length:Int) < (O.length:Int))];rfl) fz (Dp uY)
 rw[show((T4 O.length<|GB q,([]:List zI),([]:zI),(0:Int)):List Bool×List zI×zI×Int)=(T4 O.length<|UQ O (GB q) 0,(List.range 0).map<|OQ O<|GB q,(List.range 0).map<|MX O<|GB q,((0:Nat):Int))from rfl,this]
end
def j0{n S}(b:n<=100)(h:∀u,n<=u->S u=false):Ds 100 S=Ds n S:=by obtain⟨d,a⟩:∃d,100=n+d:=⟨100 - n,aG⟩;rw[a,j1 h]
def Zd(n:Nat)(H:Nat->Nat->Bool):List zI:=(List.range n).map λv=>Ds n<|H v
def Ah1(n:Nat)(H:Nat->Nat->Bool):(Zd n H).length=n:=by simp[Zd]
def pP{n v:Nat}(H:Nat->Nat->Bool)(a:v < n):AU (Zd n H) (v:Int)=some (Ds n<|H v):=by rw[AV (by rw[Ah1];exact a)];simp[Zd]
def xX{n v:Nat}(H:Nat->Nat->Bool)(S:Nat->Bool)(d:v < n):CY (Zd n H) (v:Int) (Ds n S)=Zd n λa b=>if a=v then S b else H a b:=by
 unfold CY Zd;rw[Ax];refine JD λt=>?_
 by_cases f:t < n
 ·rw[FG,BS,BS,C8 f,BP,BP];by_cases c:v=t
  ·subst c;rw[Az rfl,Az (by simp;exact d)];congr 1;exact QA λu _=>by simp
  ·rw[AA c];congr 1
   exact QA λu _=>by
    show H t u=if t=v then S u else H t u
    rw[AA (λe=>c e.symm)]
 ·rw[Bt (by simp;omega),Bt (by simp;omega)]
def XJ{n H H'}(h:∀a b,a < n->b < n->H a b=H' a b):Zd n H=Zd n H':=by unfold Zd;exact Bd λv c=>QA λu d=>h v u (Ao.1 c) d
def ve(n:Nat):Ds n (λ_=>false)=[]:=by unfold Ds;simp
def Ah2(n:Nat):List.replicate n ([]:zI)=Zd n λ_ _=>false:=by unfold Zd;simp only[ve];rw[GA,BJ]
def Bnd(n:Nat)(G:Nat->Nat->Bool):Prop:=∀a u,n<=u->G a u=false
section
variable {q:EM}{O:zN}{n:Nat}{G:Nat->Nat->Bool}
def wH(b:ZU O)(h:Bnd O.length G):∀i,i<=O.length->Bnd O.length (UQ O G i)
 |0,_=>h
 |i+1,hi=>λa u c=>by have d:=wH b h i aG;show stepG O (UQ O G i) i a u=false;unfold stepG W0;have:=Vz b (show i < O.length by omega);have e:(u==oAt O i)=false:=Be.2 aG;rw[d a u c,d (oAt O i) u c,e];simp
def AhP(b:Du q=true):Bnd q.1.toNat (GB q):=λa u d=>by have⟨_,_,_,a⟩:=Qw b;unfold GB;rw[Hn];right;rw[BU];intro x c h;rw[Ab]at h;have:=((a x c).2 _<|Ag.1 h.2).2;omega
def Afd(g:MA q)(e:Du q=true):Ay (E4 q) fz (List.replicate (Int.toNat q.1) [],0)=some (Zd q.1.toNat<|GB q):=by
 have⟨k,l⟩:=LA e;rw[Ah2]
 have:=Cm (body:=E4 q) (out:=Zd q.1.toNat (GB q)) (λv=>(Zd q.1.toNat λa b=>decide (a < v)&&GB q a b,(v:Int))) q.1.toNat (λv c h=>by
  unfold E4;simp only;rw[CH,Bq c,Adb g e,wrap_in aG,pP _ c];simp only[Ac,Aa];rw[xX _ _ c]
  have:(Zd q.1.toNat λa b=>if a=v then GB q v b else decide (a < v)&&GB q a b)=Zd q.1.toNat λa b=>decide (a < v+1)&&GB q a b:=by
   refine XJ λx y f i=>?_
   by_cases d:x=v
   ·subst d;rw[Az rfl,Ak (G8 _),AK]
   ·rw[AA d];have:decide (x < v)=decide (x < v+1):=by rw[Bb,AN,AN];omega
    rw[this]
  rw[this];rfl) (λrec=>by
  unfold E4;simp only;rw[CH,Bh,Ad];congr 1;refine XJ λx y f i=>?_
  rw[Ak f,AK]) fz (Dp uY)
 have j:(Zd q.1.toNat λa b=>decide (a < 0)&&GB q a b)=Zd q.1.toNat λ_ _=>false:=XJ λx y _ _=>by simp
 rw[j]at this;exact this
def av(O:zN)(G:Nat->Nat->Bool)(i:Nat):Nat->Bool:=λu=>G (oAt O i) u&&((oI O).drop<|i+1).contains (u:Int)
def drop_at(a:ZU O){i p:Nat}(h:p < O.length):((oI O).drop<|i+1).contains ((oAt O p:Nat):Int)=decide (i < p):=by
 rw[Bb,Ag,AN,List.mem_drop_iff_getElem];constructor
 ·rintro⟨j,b,e⟩;rw[EI]at b;have e2:(oI O)[i+1+j]'(by rw[EI];omega)=((oAt O (i+1+j):Nat):Int):=by rw[Px aG];simp[oI]
  rw[e2]at e;have:=Vc a aG h (aG:oAt O (i+1+j)=oAt O p);omega
 ·intro hi;refine⟨p - (i+1),by rw[EI];omega,?_⟩;have e2:(oI O)[i+1+(p - (i+1))]'(by rw[EI];omega)=((oAt O (i+1+(p - (i+1))):Nat):Int):=by rw[Px aG];simp[oI]
  rw[e2,show i+1+(p - (i+1))=p from by omega]
def kX(a:ZU O){i p:Nat}(h:p < O.length):av O G i (oAt O p)=(G (oAt O i) (oAt O p)&&decide (i < p)):=by unfold av;rw[drop_at a h]
def kY(b:ZU O){i u:Nat}(hi:i < O.length)(c:u < O.length):(u==oAt O i || av O G i u)=W0 O G i u:=by
 obtain⟨p,a,rfl⟩:=aE b c;unfold W0;rw[kX b a,fZ b a];by_cases d:p=i
 ·subst d;rw[C4];rfl
 ·have:decide (i < p)= !decide (p < i):=by rw[Bb];simp;omega
  rw[this]
def xj(hp:ZU O)(hs:Sym G)(hr:Irr G){i a b:Nat}(hi:i < O.length)(ha:a < O.length)(hb:b < O.length):(if av O G i a=true then(G a b || av O G i b)&&b !=a else G a b)=stepG O G i a b:=by
 obtain⟨p,hpl,rfl⟩:=aE hp ha;obtain⟨r,hrl,rfl⟩:=aE hp hb;unfold stepG;rw[<-kY hp hi ha,<-kY hp hi hb,kX hp hpl,kX hp hrl];have eb:∀{x:Nat},x < O.length->(oAt O x==oAt O i)=(x==i):=λhx=>by rw[Bb,Bv,Bv];exact⟨Vc hp hx hi,λe=>by rw[e]⟩
 have en:(oAt O r !=oAt O p)=(r !=p):=by rw[Bb,Cy,Cy];exact⟨λh e=>h (by rw[e]),λh e=>h<|Vc hp hrl hpl e⟩
 have en2:(oAt O p !=oAt O r)=(r !=p):=by rw[Bb,Cy,Cy];exact⟨λh e=>h (by rw[e]),λh e=>h<|Vc hp hrl hpl e.symm⟩
 rw[eb hpl,eb hrl,en,en2];have hirr:G (oAt O p) (oAt O r)=true->(r !=p)=true:=λh=>by rw[Cy];intro e;subst e;rw[hr]at h;cases h
 by_cases e1:p=i
 ·subst e1;rw[Ah (G2 p),Gf,AA nF,C4,Ki,AK];by_cases e2:r=p
  ·subst e2;rw[hr];simp
  ·rw[Be.2 e2,Cg];cases G (oAt O p) (oAt O r)<;>simp
 ·rw[Be.2 e1,Cg];cases hL:G (oAt O i) (oAt O p)&&decide (i < p)with
  |false=>rw[AA nF];simp
  |true=>
   rw[Az rfl,AK];have hg:G (oAt O p) (oAt O i)=true:=by rw[hs];rw[Ab]at hL;exact hL.1
   by_cases e2:r=i
   ·subst e2;rw[hg,C4];have:=hirr hg;rw[this];rfl
   ·rw[Be.2 e2,Cg];cases hg2:G (oAt O p) (oAt O r)with
    |true=>rw[hirr hg2];simp
    |false=>simp
def AaW{B}(t:n<=5)(o:∀x∈B,x < n)(p:B.Nodup)(v:B.length<=5)(d:Bnd n G):
  Ay (E6<|oI B) fz (Zd n G,0)=some (Zd n λa b=>if B.contains a=true then(G a b || B.contains b)&&b !=a else G a b):=by
 have f:∀u:Nat,(oI B).contains (u:Int)=B.contains u:=λu=>by
  have:=d4 B B.length u
  rwa [<-EI B,AQ,EI,AQ]at this
 have g:=Cm (body:=E6 (oI B)) (out:=Zd n λa b=>if(B.take B.length).contains a=true then(G a b || B.contains b)&&b !=a else G a b) (λj=>(Zd n λa b=>if(B.take j).contains a=true then(G a b || B.contains b)&&b !=a else G a b,(j:Int))) B.length (λj h w=>by
  unfold E6;simp only;have i:=o _<|Ae h;have l:(B.take j).contains B[j]=false:=by rw[LK,Ne,Ag,DN];rintro⟨k,D,e⟩;have:=(DZ p).1 e;omega
  rw[EI,Bq h,wrap_in (n:=(j:Int)+1) aG,aF h,Px h];simp only[Ac,Aa];rw[pP _ i];simp only;rw[QA (T:=G B[j]) (λu _=>by rw[l];simp),<-j0 aG (d B[j]),dT (by rw[EI];unfold lim;omega) (λx r=>by unfold oI at r;obtain⟨u,s,rfl⟩:=Aw.1 r;have:=o u s;omega)];simp only;have z:=Nc 100<|Wg (G B[j])<|oI B;have m:∀u,n<=u->Wg (G B[j]) (oI B) u=false:=λu s=>by unfold Wg;rw[d _ u s,f,Cg,LK,Ne,Ag];intro A;have:=o u A;omega
  rw[je uY,j0 aG m,Zn];simp only;rw[xX _ _ i]
  have:(Zd n λa b=>if a=B[j]then Wg (G B[j]) (oI B) b&&((b:Int)!=(B[j]:Int))else if(B.take j).contains a=true then(G a b || B.contains b)&&b !=a else G a b)=Zd n λa b=>if(B.take<|j+1).contains a=true then(G a b || B.contains b)&&b !=a else G a b:=by
   refine XJ λx y r F=>?_
   have C:(B.take<|j+1).contains x=((B.take j).contains x || x==B[j]):=by rw[Bb,BZ,Ag,Ag,Bv,A3 h,Al,As]
   rw[C];by_cases c:x=B[j]
   ·subst c;rw[Az rfl,Az nF,Yt];unfold Wg;rw[f]
   ·rw[AA c,Be.2 c,Dv]
  rw[this];rfl) (λrec=>by
  unfold E6;simp only;rw[EI,Bh];rfl) fz (Dp uY)
 rw[AQ]at g;rw[<-g];congr 2
def AkC{bag}(c:bag.length<=lim){i:Nat}(p:Nat->Bool)(b:∀k,i < k->k < O.length->bag.contains ((oAt O k:Nat):Int)=p k):∀(d m:Nat) (x:Int),i+d < O.length->O.length<=5->d < m->Ay (Do (oI O) (i:Int) bag) m (x,((i+d:Nat):Int))=some ((((List.range' (i+1) d).find? p).map λ(x:Nat)=>(x:Int)).getD x)
 |0,m+1,x,f,g,j=>by rw[Cn];generalize Ay (Do (oI O) (i:Int) bag) m=a;unfold Do;simp only;rw[D5,Ah aG];rfl
 |d+1,m+1,x,f,g,j=>by
  have l:∀a:(Int×Int)->Option Int,Do (oI O) (i:Int) bag a (x,((i+(d+1):Nat):Int))=a (cond (p<|i+(d+1)) ((i+(d+1):Nat):Int) x,((i+d:Nat):Int)):=λrec=>by unfold Do Gd;simp only;rw[Ak aG,aF aG];simp only[Ac,Aa];rw[ah c];simp only;rw[b _ aG f,wrap_in aG,show((i+(d+1):Nat):Int) - 1=((i+d:Nat):Int)from by omega];cases p (i+(d+1))<;>rfl
  rw[Cn,l,AkC c p b d m _ aG g aG,List.range'_concat,List.find?_append];cases(List.range' (i+1) d).find? p with
  |some k=>rfl
  |none=>have e:i+1+1 * d=i+(d+1):=aG;rw[e];cases o:p (i+(d+1))<;>simp[o]
 |_,0,_,_,_,h=>by omega
def Akl(hq:MA q)(hv:Du q=true)(hp:ZU O)(hl:O.length=q.1.toNat):HD q (oI O)=some (Qj O<|GB q,true):=by
 have⟨h1,h5⟩:=LA hv;have hn:q.1=(O.length:Int):=aG;have hn5:1<=O.length∧O.length<=5:=aG;have hnb:=AhP hv;rw[<-hl]at hnb;unfold HD;rw[kR hq (by rw[EI];unfold lim;omega),yl hv hp hl];simp only[Aa,Au,Ad];rw[AO uY,Afd hq hv,<-hl];simp only
 have:=Cm (body:=E5 q (oI O)) (out:=Qj O (GB q)) (λi=>(Zd O.length (UQ O (GB q) i),(List.range i).map (OQ O (GB q)),(List.range i).map (MX O (GB q)),(i:Int))) O.length (λi hi rec=>by
  unfold E5 Gc;simp only;have hoi:=Vz hp hi;have hbd:=wH hp hnb i aG;have hal:=Nc O.length<|UQ O (GB q) i<|oAt O i;rw[EI,Bq hi,aF hi,hn,wrap_in (n:=(i:Int)+1) aG,wrap_in (n:=(O.length:Int) - 1) aG];simp only[Ac,Aa];rw[pP _ hoi];simp only;have hsub:CZ (oI O) ((i:Int)+1) (O.length:Int)=(oI O).drop (i+1):=by unfold CZ;rw[Ax,<-EI O,AQ];rfl
  rw[AO aG,hsub,Xu uY (by rw[BH,EI];unfold lim;omega),Zn];simp only;have hlat:Ds O.length (λu=>UQ O (GB q) i (oAt O i) u&&((oI O).drop<|i+1).contains (u:Int))=oI ((List.range O.length).filter<|av O (UQ O (GB q) i) i):=rfl;rw[hlat]
  have hsingle:[((oAt O i:Nat):Int)]=Ds 100 λu=>u==oAt O i:=by
   have:(List.range 100).filter (λu=>u==oAt O i)=[oAt O i]:=fq aG (C4 _)<|λk _ h=>Bv.1 h
   unfold Ds;rw[this];rfl
  have hll:=VT O.length<|av O (UQ O (GB q) i) i;rw[hsingle,dT (by rw[EI];unfold lim;omega) (λx hx=>by unfold oI at hx;obtain⟨u,hu,rfl⟩:=Aw.1 hx;have:=dP u hu;omega)];simp only;have hfc:∀u:Nat,(oI<|(List.range O.length).filter<|av O (UQ O (GB q) i) i).contains (u:Int)=(decide (u < O.length)&&av O (UQ O (GB q) i) i u):=λu=>by rw[<-j3,ZZ]
  have hbag:Ds 100 (Wg (λu=>u==oAt O i)<|oI<|(List.range O.length).filter<|av O (UQ O (GB q) i) i)=OQ O (GB q) i:=by
   rw[j0 (n:=O.length) aG (λu hu=>by unfold Wg;show(u==oAt O i || _)=false;rw[hfc,Be.2 aG,Ah aG];rfl)];refine QA λu hu=>?_
   unfold Wg;rw[hfc,Ak hu,AK,kY hp hi hu];rfl
  rw[hbag,AaW (n:=O.length) hn5.2 dP (rK _ _) aG hbd];simp only
  have hstep:(Zd O.length λa b=>if((List.range O.length).filter<|av O (UQ O (GB q) i) i).contains a=true then(UQ O (GB q) i a b || ((List.range O.length).filter<|av O (UQ O (GB q) i) i).contains b)&&b !=a else UQ O (GB q) i a b)=Zd O.length (UQ O (GB q)<|i+1):=by
   refine XJ λx y hx hy=>?_
   rw[Xo hx,Xo hy];exact xj hp (wJ (xS q) i) (wI (AhT q) i) hi hx hy
  rw[hstep];have hup:=λ(x:Int)=>AkC (O:=O) (bag:=oI ((List.range O.length).filter (av O (UQ O (GB q) i) i))) (by rw[EI];unfold lim;omega) (i:=i) (λk=>Vo O (GB q) i (oAt O k)) (λk hk hkl=>by rw[hfc,Ak (Vz hp hkl),AK,kX hp hkl,eN hp hi hkl,Be.2 aG,Ak hk,Ak (aG:i<=k)];simp) (O.length - 1 - i) fz x aG hn5.2 (Nat.lt_of_le_of_lt (aG:O.length - 1 - i<=5) (Dp uY))
  have hix:((O.length:Int) - 1)=((i+(O.length - 1 - i):Nat):Int):=aG;rw[hix];have hpar:∀x z:Int,(((List.range' (i+1)<|O.length - 1 - i).find? λk=>Vo O (GB q) i<|oAt O k).map λ(x:Nat)=>(x:Int)).getD x=z->z=MX O (GB q) i->chk (((List.range i).map<|OQ O<|GB q).length+[OQ O (GB q) i].length<=lim) (Aa (Ay (Do (oI O) (i:Int)<|oI<|(List.range O.length).filter<|av O (UQ O (GB q) i) i) fz (x,((i+(O.length - 1 - i):Nat):Int))) λz49=>chk (((List.range i).map<|MX O<|GB q).length+[z49].length<=lim)<|rec (Zd O.length<|UQ O (GB q)<|i+1,(List.range i).map (OQ O<|GB q)++[OQ O (GB q) i],(List.range i).map (MX O<|GB q)++[z49],(i:Int)+1))=rec (Zd O.length<|UQ O (GB q)<|i+1,(List.range<|i+1).map<|OQ O<|GB q,(List.range<|i+1).map<|MX O<|GB q,((i+1:Nat):Int)):=λx z hz hx=>by rw[hup x,hz,hx];simp only[Aa];rw[AO (by simp;unfold lim;omega),AO (by simp;unfold lim;omega),aB,aB];rfl
  by_cases he:i+1=O.length
  ·rw[Ah (aG:¬(i:Int) < ((i+(O.length - 1 - i):Nat):Int)),Ad];refine hpar (-1) (-1) ?_ ?_
   ·rw[show O.length - 1 - i=0 from by omega];rfl
   ·unfold MX;rw[Bv.2 he];rfl
  ·rw[Ak (aG:(i:Int) < ((i+(O.length - 1 - i):Nat):Int)),Ac];refine hpar _ _ rfl ?_;rw[show((i:Int)+1)=((i+1:Nat):Int)from rfl,nA];unfold MX nxt;rw[Be.2 he,Ad]) (λrec=>by
  unfold E5;simp only;rw[EI,Bh];rfl) fz (Dp uY)
 rw[show((Zd O.length<|GB q,([]:List zI),([]:zI),(0:Int)):List zI×List zI×zI×Int)=(Zd O.length<|UQ O (GB q) 0,(List.range 0).map<|OQ O<|GB q,(List.range 0).map<|MX O<|GB q,((0:Nat):Int))from rfl,this]
end
def ext1(n:Nat)(l:zN):List zN:=((List.range n).filter λv=> !l.contains v).map λv=>l++[v]
def fg(n:Nat):Nat->zN->List zN
 |0,l=>[l]
 |d+1,l=>(ext1 n l).flatMap<|fg n d
def QL(n:Nat):Nat->List zN
 |0=>[[]]
 |k+1=>(QL n k).flatMap<|ext1 n
def qJ(n:Nat):∀(k d:Nat),(QL n k).flatMap (fg n d)=fg n (k+d) []
 |0,d=>by rw[QL,AR,Ip,A7,C9]
 |k+1,d=>by rw[QL,List.flatMap_assoc,show k+1+d=k+(d+1)from by omega,<-qJ n k (d+1)];rfl
def UY(n:Nat):List zN:=fg n n []
def Aac(n:Nat):QL n n=UY n:=by
 have:=qJ n n 0;rw[D5]at this;rw[UY,<-this];have:fg n 0=λl=>[l]:=by funext l;rfl
 rw[this];simp
def fk(n:Nat)(l:zN):(ext1 n l).length<=n:=by unfold ext1;rw[Ai];exact Bm (BY _ _) nF
def ab{α β:Type}{f:α->List β}{c:Nat}:∀{l:List α},(∀x∈l,(f x).length<=c)->(l.flatMap f).length<=l.length * c
 |[],_=>by simp
 |x::l,h=>by
  rw[AR,An,AC,DS];have b:=h x BD;have d:=ab (l:=l) λy a=>h y<|AW _ a
  omega
def rr{n:Nat}(a:n<=5):∀(d:Nat) (l:zN),(fg n d l).length<=5 ^ d
 |0,l=>by simp[fg]
 |d+1,l=>by
  rw[fg];have:=ab (l:=ext1 n l) λx _=>rr a d x
  have b:(ext1 n l).length * 5 ^ d<=5 * 5 ^ d:=Cd _<|Bm (fk n l) a;rw[Fb];omega
def qK{n:Nat}(a:n<=5):∀(k:Nat),(QL n k).length<=5 ^ k
 |0=>by simp[QL]
 |k+1=>by
  rw[QL];have:=ab (l:=QL n k) (f:=ext1 n) (c:=5) λx _=>Bm (fk n x) a
  have b:=Cd 5<|qK a k;rw[Fb];omega
def Par(n:Nat)(l:zN):Prop:=l.Nodup∧∀x∈l,x < n
def wo{n l}(h:Par n l):∀x∈ext1 n l,Par n x∧x.length=l.length+1:=λx hx=>by
 unfold ext1 at hx;obtain⟨v,hv,rfl⟩:=Aw.1 hx;have⟨h1,h2⟩:=AM.1 hv;have hc:v∉l:=λhm=>by rw[Ag.2 hm]at h2;cases h2
 refine⟨⟨AI.2 ⟨h.1,nF,λa ha b hb e=>?_⟩,λy hy=>?_⟩,nF⟩
 ·rw[As]at hb;subst hb;subst e;exact hc ha
 ·rcases Al.1 hy with hy|hy
  ·exact h.2 y hy
  ·rw[As]at hy;rw[hy];exact Ao.1 h1
def ru{n}:∀(d:Nat) (l:zN),Par n l->∀x∈fg n d l,Par n x∧x.length=l.length+d
 |0,l,h,x,a=>by rw[fg,As]at a;rw[a];exact⟨h,rfl⟩
 |d+1,l,h,x,a=>by rw[fg]at a;have⟨y,c,b⟩:=B6.1 a;have⟨e,g⟩:=wo h y c;have⟨f,i⟩:=ru d y e x b;exact⟨f,aG⟩
def lr{n}:∀O∈UY n,ZU O∧O.length=n:=λO c=>by
 have⟨a,d⟩:=ru n [] ⟨AZ,nF⟩ O c;have b:O.length=n:=by simpa using d
 exact⟨⟨a.1,λx e=>by rw[b];exact a.2 x e⟩,b⟩
def Ah4(B:zN)(u:Nat):(oI B).contains (u:Int)=B.contains u:=by
 have:=d4 B B.length u
 rwa [<-EI B,AQ,EI,AQ]at this
def dZ(l:zN)(v:Nat):oI l++[(v:Int)]=oI (l++[v]):=by simp[oI]
section
variable {q:EM}
def Ake(u:MA q)(i:Du q=true):QR q=some ((UY q.1.toNat).map oI):=by
 have w:=LA i;unfold QR;rw[OS u,i];simp only[Aa,Au,Ad]
 have m:=Cm (body:=NK q) (out:=(QL q.1.toNat q.1.toNat).map oI) (λk=>((QL q.1.toNat k).map oI,(k:Int))) q.1.toNat (λk G b=>by
  unfold NK;simp only;rw[Ak (aG:(k:Int) < q.1),wrap_in aG,Ac];have z:=qK (n:=q.1.toNat) aG k;have o:5 ^ k<=5 ^ 4:=EG aG aG
  have d:=Cm (body:=NL q ((QL q.1.toNat k).map oI)) (out:=(QL q.1.toNat (k+1)).map oI) (λj=>((((QL q.1.toNat k).take j).flatMap (ext1 q.1.toNat)).map oI,(j:Int))) (QL q.1.toNat k).length (λj h b=>by
   unfold NL;simp only;have B:AU ((QL q.1.toNat k).map oI) (j:Int)=some (oI (QL q.1.toNat k)[j]):=by rw[AV (by rw[Ai];exact h),Bl]
   have p:(QL q.1.toNat k)[j].length < 2000:=by
    have:∀(k:Nat) (l:zN),l∈QL q.1.toNat k->l.length=k:=λk=>by
     induction k with
     |zero=>intro l a;rw[QL,As]at a;rw[a];rfl
     |succ k C=>intro l a;rw[QL]at a;have⟨y,D,a⟩:=B6.1 a;unfold ext1 at a;obtain⟨v,_,rfl⟩:=Aw.1 a;simp[C y D]
    rw[this k _ (Ae h)];omega
   rw[Ai,Bq h,B,wrap_in aG];simp only[Ac,Aa];have e:(QL q.1.toNat k).take (j+1)=(QL q.1.toNat k).take j++[(QL q.1.toNat k)[j]]:=A3 h;generalize(QL q.1.toNat k)[j]=l at p e⊢
   have r:(((QL q.1.toNat k).take j).flatMap<|ext1 q.1.toNat).length<=3125:=by
    have:=ab (l:=(QL q.1.toNat k).take j) (f:=ext1 q.1.toNat) (c:=5) λx _=>Bm (fk _ x) aG
    have H:((QL q.1.toNat k).take j).length<=5 ^ 4:=Bm (by rw[AH];omega) o;omega
   have g:=λ(A:List zN) (I:A.length<=3125)=>Cm (body:=KO q (oI l)) (out:=(A++ext1 q.1.toNat l).map oI) (λv=>((A++((List.range v).filter λv=> !l.contains v).map λv=>l++[v]).map oI,(v:Int))) q.1.toNat (λv i b=>by
    unfold KO NM;simp only;have F:((List.range v).filter λv=> !l.contains v).length<=5:=Bm (BY _ _) (by simp;omega);rw[Ak (aG:(v:Int) < q.1),ah (by rw[EI];unfold lim;omega),wrap_in aG,Ah4];simp only[Ac,Aa];rw[CO,CQ,Br];cases s:l.contains v with
    |true=>
     have:([v].filter λv=> !l.contains v)=[]:=by rw[DD,s];rfl
     rw[this];simp
    |false=>
     have:([v].filter λv=> !l.contains v)=[v]:=by rw[DD,s];rfl
     rw[this,Cq,Ac,ag (by rw[EI];unfold lim;omega)];simp only;rw[AO (by rw[EI];unfold lim;simp;omega),AO (by unfold lim;simp only[An,Ai,AC,Bn];omega),dZ];simp) (λrec=>by
    unfold KO;simp only;rw[Ah (aG:¬((q.1.toNat:Nat):Int) < q.1)];rfl) fz (Dp uY)
   have t:=g _ r;simp only[List.range_zero,DM,DE,A7]at t;rw[show(0:Int)=((0:Nat):Int)from rfl,t,e,Dw,AR,Ip,A7];rfl) (λrec=>by
   unfold NL;simp only;rw[Ai,Bh,AQ];rfl) fz (Dp uY)
  rw[show((([]:List zI),(0:Int)):List zI×Int)=((((QL q.1.toNat k).take 0).flatMap<|ext1 q.1.toNat).map oI,((0:Nat):Int))from rfl,d];rfl) (λrec=>by
  unfold NK;simp only;rw[Ah (aG:¬((q.1.toNat:Nat):Int) < q.1)];rfl) fz (Dp uY)
 rw[show(([[]]:List zI),(0:Int))=((QL q.1.toNat 0).map oI,((0:Nat):Int))from rfl,m,Aac]
end
def j5(n:Nat)(S:Nat->Bool):zN:=(List.range n).filter S
section
variable {q:EM}{O:zN}
def uZ(q:EM)(S:Nat->Bool):Prop:=∃u,u < q.1.toNat∧S u=true
def j6(a:Du q=true){S:Nat->Bool}(h:uZ q S):SmG q (j5 q.1.toNat S):=by have⟨e,f,g,i⟩:=Jk a;have⟨u,b,c⟩:=h;have d:u∈j5 q.1.toNat S:=AM.2 ⟨Ao.2 b,c⟩;refine⟨EQ d,?_,λv a=>Ao.1 (AM.1 a).1⟩;have:=VT q.1.toNat S;unfold j5;omega
def mm(a:Du q=true){S:Nat->Bool}(h:uZ q S):RZ q.1 (oI<|j5 q.1.toNat S)=true:=by have⟨b,c,d,f⟩:=Jk a;have:=qw (n:=q.1.toNat) aG h;rw[j3]at this;have e:((q.1.toNat:Nat):Int)=q.1:=aG;rw[e]at this;exact this
def wdS(w v:Rt):Rt:=cond (decide (0 < RQ v w)) v w
def oR(q:EM)(O:zN)(i:Nat):Nat->Bool:=Vo O (GB q) i
def wdP(q:EM)(O:zN)(i:Nat):Rt:=(wB q<|j5 q.1.toNat<|oR q O i).1
def wdK(q:EM)(O:zN)(k:Nat):Rt:=((List.range k).map<|wdP q O).foldl wdS (0,1)
def wdB(q:EM)(O:zN):Rt:=wdK q O q.1.toNat
def AdM(k:Nat):wdK q O (k+1)=wdS (wdK q O k) (wdP q O k):=by unfold wdK;rw[CO,Br,C2];rfl
def iR(a:ZU O)(b:O.length=q.1.toNat){i:Nat}(hi:i < q.1.toNat):uZ q (oR q O i):=
 ⟨oAt O i,by rw[<-b];exact Vz a aG,by unfold oR;rw[eN a aG aG];simp⟩
def AiU(a:Du q=true)(b:ZU O)(c:O.length=q.1.toNat){i:Nat}(hi:i < q.1.toNat):nnR (wdP q O i):=
 (AdL a<|j6 a<|iR b c hi).2
def Amy(a:Du q=true)(b:ZU O)(c:O.length=q.1.toNat)(d:0 < q.1.toNat):wdK q O 1=wdP q O 0:=by
 rw[AdM];show wdS (0,1) (wdP q O 0)=wdP q O 0;unfold wdS;cases e:decide (0 < RQ (wdP q O 0) (0,1))with
 |true=>rfl
 |false=>rw[Ad,Abv (AiU a b c d) e]
def ff(a:O.length=q.1.toNat):(Qj O<|GB q).1=(List.range q.1.toNat).map λi=>oI (j5 q.1.toNat<|oR q O i):=by
 unfold Qj;rw[a];refine Bd λi _=>?_
 unfold OQ;rw[a,j3];rfl
def bdS(q:EM)(st:(List zI×zI)×Rt×Bool)(O:zN):(List zI×zI)×Rt×Bool:=cond (!st.2.2 || decide (RQ (wdB q O) st.2.1 < 0)) (Qj O<|GB q,wdB q O,true) st
def S7(q:EM)(k:Nat):(List zI×zI)×Rt×Bool:=((UY q.1.toNat).take k).foldl (bdS q) (([],[]),(0,0),false)
def iv(q:EM):(List zI×zI)×Rt×Bool:=S7 q (UY q.1.toNat).length
def qD{k}(h:k < (UY q.1.toNat).length):S7 q (k+1)=bdS q (S7 q k) (UY q.1.toNat)[k]:=by unfold S7;rw[A3 h,C2];rfl
def AbE(a:Du q=true):(UY q.1.toNat).length<=3125:=by have⟨b,c,d,e⟩:=Jk a;unfold UY;have:=rr (n:=q.1.toNat) aG q.1.toNat [];have f:5 ^ q.1.toNat<=5 ^ 5:=EG aG aG;omega
end
section
variable {q:EM}{B:zN}
def Akv(b:MA q)(a:Du q=true):NV q=some (dx<|cpP q):=by unfold NV;rw[Ann b];unfold cpB;rw[a];simp only[Aa,Ac];rw[wU (AjS a)]
end
section
variable {q:EM}{O:zN}
def mF(a:O.length=q.1.toNat){i:Nat}(hi:i < q.1.toNat):AU (Qj O<|GB q).1 (i:Int)=some (oI<|j5 q.1.toNat<|oR q O i):=by rw[ff a,AV (by simpa using hi)];simp
def Wm(a:O.length=q.1.toNat):(Qj O<|GB q).1.length=q.1.toNat∧(Qj O<|GB q).2.length=q.1.toNat:=by unfold Qj;simp[a]
def AiV{k:Nat}(h:k<=100):wZ ((k:Int)+1)=((k+1:Nat):Int):=by rw[wrap_in aG];omega
def AeC(c:Du q=true)(a:O.length=q.1.toNat):de (Qj O<|GB q):=by have⟨d,e,f,g⟩:=Jk c;refine⟨by rw[(Wm a).1];unfold lim;omega,λb b=>?_,by rw[(Wm a).2];unfold lim;omega⟩;rw[ff a]at b;obtain⟨i,_,rfl⟩:=Aw.1 b;rw[EI];have:=VT q.1.toNat<|oR q O i;unfold j5 lim;omega
def AkD(f:MA q)(a:Du q=true)(g:ZU O)(b:O.length=q.1.toNat):I6 q (Qj O<|GB q)=some (wdB q O,true):=by
 have⟨l,m,n,o⟩:=Jk a;unfold I6;rw[wP f (AeC a b),vY a g b];simp only[Aa,Au,Ad]
 have h:=Cm (body:=E7 q (Qj O (GB q))) (out:=((wdB q O).1,(wdB q O).2)) (λk=>(cond (k==0) (0,0,0) ((wdK q O k).1,(wdK q O k).2,(k:Int)))) q.1.toNat (λk d c=>by
  have e:=iR (q:=q) g b d;unfold E7 HM HN;cases k with
  |zero=>show cond (decide (((0:Nat):Int) < (((Qj O<|GB q).1.length:Nat):Int))) _ _=_;rw[(Wm b).1,Bq d,Ac,show(0:Int)=((0:Nat):Int)from rfl,mF b d];simp only[Aa];rw[wN f a (j6 a e).2.1 (mm a e)];show c _=c ((wdK q O 1).1,(wdK q O 1).2,((1:Nat):Int));rw[Amy a g b d];rfl
  |succ k=>show cond (decide (((k+1:Nat):Int) < (((Qj O<|GB q).1.length:Nat):Int))) _ _=_;rw[(Wm b).1,Bq d,Ac,mF b d];simp only[Aa];rw[wN f a (j6 a e).2.1 (mm a e)];simp only;have i:(((k+1:Nat):Int)==0)=false:=Be.2 aG;rw[i,Ad,fE];simp only;rw[AiV aG];show _=c ((wdK q O<|k+1+1).1,(wdK q O<|k+1+1).2,((k+1+1:Nat):Int));rw[AdM (k+1)];unfold wdS;show cond (decide (0 < RQ (wdP q O<|k+1) (wdK q O<|k+1))) _ _=_;cases decide (0 < RQ (wdP q O (k+1)) (wdK q O (k+1)))<;>rfl) (λrec=>by
  unfold E7;obtain⟨j,p⟩:∃j,q.1.toNat=j+1:=⟨q.1.toNat - 1,aG⟩;have i:(q.1.toNat==0)=false:=Be.2 aG;simp only[i,Ad];rw[(Wm b).1,Bh];rfl) fz (Dp uY)
 rw[show((0:Int),(0:Int),(0:Int))=(λk=>(cond (k==0) (0,0,0) ((wdK q O k).1,(wdK q O k).2,(k:Int)))) 0 from rfl,h]
def Akg(c:MA q)(a:Du q=true):JJ q=some (iv q):=by
 have h:=AbE a;unfold JJ;rw[Ake c a];simp only[Aa]
 have d:=Cm (body:=Fo q ((UY q.1.toNat).map oI)) (out:=((iv q).1.1,(iv q).1.2,(iv q).2.1.1,(iv q).2.1.2,(iv q).2.2)) (λk=>((S7 q k).1.1,(S7 q k).1.2,(S7 q k).2.1.1,(S7 q k).2.1.2,(S7 q k).2.2,(k:Int))) (UY q.1.toNat).length (λk b i=>by
  have⟨e,g⟩:=lr _<|Ae b;unfold Fo Ib Ic;simp only;rw[Ai,Bq b,Ac,AV (by rw[Ai];exact b),Bl];simp only[Aa];rw[Akl c a e g];simp only;rw[AkD c a e g];simp only;rw[wrap_in aG,fE,qD b];generalize S7 q k=st;have⟨⟨b1,b2⟩,⟨j,l⟩,f⟩:=st;unfold bdS;cases f with
  |false=>rfl
  |true=>simp only[Au,Cg,Ad];cases decide (RQ (wdB q (UY q.1.toNat)[k]) (j,l) < 0)<;>rfl) (λrec=>by
  unfold Fo;simp only;rw[Ai,Bh];rfl) fz (Dp uY)
 rw[show(([]:List zI),([]:zI),(0:Int),(0:Int),false,(0:Int))=((S7 q 0).1.1,(S7 q 0).1.2,(S7 q 0).2.1.1,(S7 q 0).2.1.2,(S7 q 0).2.2,((0:Nat):Int))from rfl,d]
end
def aH(q:EM)(j:Nat)(v:Int):Bool:=HJ q.2.1 j λa=>a.2.contains v
def YP(q:EM)(L:Nat->Bool)(i k:Nat):Bool:=(List.range q.1.toNat).all λv=> !aH q i (v:Int) || (!((List.range q.2.1.length).any λj=>(L j&&j !=i)&&aH q j (v:Int)) || aH q k (v:Int))
def YN(q:EM)(L:Nat->Bool)(i:Nat):Option Nat:=(List.range q.2.1.length).findSome? λk=>if(L k&&k !=i)&&YP q L i k then some k else none
def S9(q:EM)(L:Nat->Bool):Option (Nat×Nat):=(List.range q.2.1.length).findSome? λi=>if L i then(YN q L i).map λk=>(i,k)else none
def runM(q:EM):Nat->zN->(Nat->Int)->(Nat->Bool)->zN×(Nat->Int)
 |0,out,up,_=>(out,up)
 |f+1,out,up,L=>match S9 q L with
  |none=>(out,up)
  |some (i,k)=>runM q f (out++[i]) (λj=>if j=i then(k:Int)else up j)<|λj=>L j&&j !=i
def RN(m:Nat)(up:Nat->Int):zI:=(List.range m).map up
def gyM(q:EM):zI×zI:=(oI (runM q q.2.1.length [] (λ_=> -1)<|λ_=>true).1,RN q.2.1.length (runM q q.2.1.length [] (λ_=> -1)<|λ_=>true).2)
def QO(m:Nat)(L:Nat->Bool):Nat:=((List.range m).filter L).length
def Tl{α:Type}{m j:Nat}(f:Nat->α)(h:j < m):AU ((List.range m).map f) (j:Int)=some (f j):=by rw[AV (by simp;exact h)];simp
def ZJ{α:Type}{m j:Nat}(f:Nat->α)(x:α)(h:j < m):CY ((List.range m).map f) (j:Int) x=(List.range m).map λt=>if t=j then x else f t:=by
 unfold CY;rw[Ax];refine JD λt=>?_
 by_cases b:t < m
 ·rw[FG,BS,BS,C8 b,BP,BP];by_cases a:j=t
  ·subst a;rw[Az rfl,Az (by simp;exact h),Az rfl]
  ·rw[AA a,AA (λe=>a e.symm)]
 ·rw[Bt (by simp;omega),Bt (by simp;omega)]
def TZ{q L i k}(h:S9 q L=some (i,k)):i < q.2.1.length∧k < q.2.1.length∧L i=true:=by
 unfold S9 at h;have⟨a,g,d⟩:=Dh h;split at d
 ·rename_i j;unfold YN at d;cases e:(List.range q.2.1.length).findSome? λk=>if(L k&&k !=a)&&YP q L a k then some k else none with
  |none=>rw[e]at d;cases d
  |some b=>
   rw[e]at d;simp only[BP,Av,Ch]at d;obtain⟨rfl,rfl⟩:=d;have⟨c,l,f⟩:=Dh e;split at f
   ·cases f;exact⟨Ao.1 g,Ao.1 l,j⟩
   ·cases f
 ·cases d
def mz{m L i}(hi:i < m)(h:L i=true):QO m (λj=>L j&&j !=i) < QO m L:=by
 unfold QO;have e:(List.range m).filter (λj=>L j&&j !=i)=((List.range m).filter L).filter (λj=>j !=i):=by rw[K3];congr 1;funext j;exact GZ _ _
 rw[e];have a:i∈(List.range m).filter L:=AM.2 ⟨Ao.2 hi,h⟩;have:=List.length_filter_lt_length_iff_exists (p:=λj=>j !=i) (l:=(List.range m).filter L);exact this.2 ⟨i,a,nF⟩
def rm{m L i}(hi:i < m)(h:L i=true):0 < QO m L:=by unfold QO;exact EQ<|AM.2 ⟨Ao.2 hi,h⟩
section
variable {q:EM}{L:Nat->Bool}
def Xc{j}(h:j < q.2.1.length)(v:Int):q.2.1[j].2.contains v=aH q j v:=by unfold aH;rw[B5 h]
def Ami(b:MA q)(i:Nat)(v:Int):Ay (Ms q (uL q.2.1.length L) (i:Int) v) fz (false,0)=some ((List.range q.2.1.length).any λj=>(L j&&j !=i)&&aH q j v):=by have:=Cm (body:=Ms q (uL q.2.1.length L) (i:Int) v) (out:=(List.range q.2.1.length).any λj=>(L j&&j !=i)&&aH q j v) (λk=>((List.range k).any λj=>(L j&&j !=i)&&aH q j v,(k:Int))) q.2.1.length (λk a c=>by have d:=b.2.1 _<|Ae a;unfold Ms Mu;simp only;rw[Bq a,BA a (Bk b.1),show AU (uL q.2.1.length L) (k:Int)=some (L k)from Tl L a,AV a,Yt];simp only[Ac,Aa,nW d.2];rw[Xc a,CO,Jj,G1,List.any_nil,Dv];cases(List.range k).any λj=>(L j&&j !=i)&&aH q j v<;>cases L k<;>cases k !=i<;>cases aH q k v<;>rfl) (λrec=>by unfold Ms;simp only;rw[Bh];rfl) fz (Dp b.1);simpa using this
def Aio(a:MA q)(e:Du q=true){i k:Nat}(hi:i < q.2.1.length)(b:k < q.2.1.length):Ay (Mr q (uL q.2.1.length L) (i:Int) (k:Int)) fz (true,0)=some (YP q L i k):=by
 have⟨g,h⟩:=LA e
 have:=Cm (body:=Mr q (uL q.2.1.length L) (i:Int) (k:Int)) (out:=YP q L i k) (λt=>((List.range t).all λv=> !aH q i (v:Int) || (!((List.range q.2.1.length).any λj=>(L j&&j !=i)&&aH q j (v:Int)) || aH q k (v:Int)),(t:Int))) q.1.toNat (λt l f=>by
  have c:=a.2.1 _<|Ae hi;have d:=a.2.1 _<|Ae b;unfold Mr Mv;simp only;rw[Ak (aG:(t:Int) < q.1),Ami a,wrap_in aG,AV hi,AV b];simp only[Ac,Aa,nW c.2,nW d.2];rw[Xc hi,Xc b,CO,ED,BM,Fa,CX];cases(List.range t).all λv=> !aH q i (v:Int) || (!((List.range q.2.1.length).any λj=>(L j&&j !=i)&&aH q j (v:Int)) || aH q k (v:Int))<;>cases aH q i (t:Int)<;>cases((List.range q.2.1.length).any λj=>(L j&&j !=i)&&aH q j (t:Int))<;>cases aH q k (t:Int)<;>rfl) (λrec=>by
  unfold Mr;simp only;rw[Ah (aG:¬((q.1.toNat:Nat):Int) < q.1)];rfl) fz (Dp uY)
 simpa using this
def Amc(a:MA q)(f:Du q=true):Vg q (uL q.2.1.length L)=some (match S9 q L with|some (i,k)=>((i:Int),(k:Int))|none=>(-1,-1)):=by
 unfold Vg
 have c:=T6 (B:=Rz q (uL q.2.1.length L)) (n:=q.2.1.length) (λi=>if L i then(YN q L i).map (λ(k:Nat)=>((i:Int),(k:Int)))else none) a.1 (λi hi d=>by
  unfold Rz
  have g:=T6 (B:=OE q (uL q.2.1.length L) (i:Int)) (n:=q.2.1.length) (λk=>if L i then(if(L k&&k !=i)&&YP q L i k then some ((i:Int),(k:Int))else none)else none) a.1 (λk b d=>by
   unfold OE Mt;rw[Bq b,BA b (Bk a.1),show AU (uL q.2.1.length L) (i:Int)=some (L i)from Tl L hi,show AU (uL q.2.1.length L) (k:Int)=some (L k)from Tl L b,ld];simp only[Ac,Aa,Aio a f hi b];have e:(i==k)= !(k !=i):=by rw[Bb];simp;exact eq_comm
   rw[e];cases L i<;>cases L k<;>cases k !=i<;>cases YP q L i k<;>rfl) (λrec=>by unfold OE;rw[Bh];rfl)
  rw[Bq hi,g,BA hi (Bk a.1)];simp only[Ac,Aa];cases h:L i with
  |false=>
   have:((List.range q.2.1.length).findSome? λk=>if(false:Bool)=true then(if(L k&&k !=i)&&YP q L i k then some ((i:Int),(k:Int))else none)else none)=none:=by rw[List.findSome?_eq_none_iff];intro x _;rfl
   rw[this];rfl
  |true=>
   have:((List.range q.2.1.length).findSome? λk=>if(true:Bool)=true then(if(L k&&k !=i)&&YP q L i k then some ((i:Int),(k:Int))else none)else none)=(YN q L i).map λ(k:Nat)=>((i:Int),(k:Int)):=by unfold YN;rw[Hp];congr 1;funext k;simp only[Function.comp,FB];split<;>rfl
   rw[this,Az rfl];cases YN q L i<;>rfl) (λrec=>by unfold Rz;rw[Bh];rfl)
 rw[c]
 have e:((List.range q.2.1.length).findSome? λi=>if L i then(YN q L i).map (λ(k:Nat)=>((i:Int),(k:Int)))else none)=(S9 q L).map λ(x:Nat×Nat)=>((x.1:Int),(x.2:Int)):=by
  unfold S9;rw[Hp];congr 1;funext i;simp only[Function.comp];split
  ·rw[Option.map_map];rfl
  ·rfl
 rw[e];cases S9 q L<;>rfl
def yX(h:MA q)(l:Du q=true):∀(c:Nat) (out:zN) (up:Nat->Int) (L:Nat->Bool) (M:Nat),QO q.2.1.length L<=c->c < M->out.length+c<=100->Ay (RC q) M (oI out,RN q.2.1.length up,uL q.2.1.length L)=some (.inr (oI (runM q c out up L).1,RN q.2.1.length (runM q c out up L).2))
 |c,out,up,L,0,m,n,_=>by omega
 |c,out,up,L,M+1,m,n,p=>by
  rw[Cn]
  have b:∀d:(zI×zI×List Bool)->Option (Sum Unit<|zI×zI),RC q d (oI out,RN q.2.1.length up,uL q.2.1.length L)=match S9 q L with
    |none=>some<|.inr (oI out,RN q.2.1.length up)
    |some (i,k)=>d (oI<|out++[i],RN q.2.1.length (λj=>if j=i then(k:Int)else up j),uL q.2.1.length<|λj=>L j&&j !=i):=λrec=>by
   unfold RC;simp only;rw[Amc h l];simp only[Aa];cases e:S9 q L with
   |none=>rfl
   |some x=>
    have⟨i,k⟩:=x;have⟨a,e2,f⟩:=TZ e;simp only;rw[Ah (aG:¬(i:Int) < 0),Ad,AO (by rw[EI];unfold lim;simp;omega),AO (by simp[RN];omega),show AU (RN q.2.1.length up) (i:Int)=some (up i)from Tl up a];simp only;rw[AO (by simp[uL];omega),show AU (uL q.2.1.length L) (i:Int)=some (L i)from Tl L a];simp only;rw[dZ];congr 1;congr 1;congr 1
    ·exact ZJ up _ a
    ·unfold uL;rw[ZJ L _ a];refine Bd λt _=>?_
     by_cases g:t=i
     ·subst g;simp
     ·rw[AA g];simp[g]
  rw[b];cases c with
  |zero=>
   have o:S9 q L=none:=by
    cases e:S9 q L with
    |none=>rfl
    |some x=>have⟨i,k⟩:=x;have⟨a,e2,f⟩:=TZ e;have:=rm a f;omega
   rw[o];rfl
  |succ c=>
   rw[runM];cases e:S9 q L with
   |none=>rfl
   |some x=>have⟨i,k⟩:=x;have⟨a,e2,f⟩:=TZ e;have:=mz a f;exact yX h l c _ _ _ M aG aG (by simp;omega)
def Ais(d:MA q)(f:Du q=true):SW q=some (gyM q):=by
 have⟨_,_,k,_⟩:=Qw f;unfold SW;rw[Ax,AO uY,AO uY]
 have e:=Cm (body:=RB) (out:=(RN q.2.1.length (λ_=> -1),uL q.2.1.length (λ_=>true))) (λt=>(RN q.2.1.length (λj=>if j < t then -1 else 0),uL q.2.1.length (λj=>decide (j < t)),(t:Int))) q.2.1.length (λt b g=>by
  unfold RB;simp only;rw[cQ,Bq b,BA b (Bk d.1),AO aG,show AU (uL q.2.1.length<|λj=>decide (j < t)) (t:Int)=some (decide (t < t))from Tl _ b];simp only[Ac,Aa];rw[AO (by simp[RN];omega),show AU (RN q.2.1.length (λj=>if j < t then -1 else 0)) (t:Int)=some (if t < t then -1 else 0)from Tl (λj=>if j < t then(-1:Int)else 0) b];simp only;congr 1;congr 1
  ·unfold RN;rw[ZJ _ _ b];refine Bd λx _=>?_
   by_cases a:x=t
   ·subst a;rw[Az rfl,Az aG]
   ·rw[AA a];by_cases c:x < t
    ·rw[Az c,Az aG]
    ·rw[AA c,AA aG]
  ·congr 1;unfold uL;rw[ZJ _ _ b];refine Bd λx _=>?_
   by_cases a:x=t
   ·subst a;rw[Az rfl,Ak aG]
   ·rw[AA a,Bb,AN,AN];omega) (λrec=>by
  unfold RB;simp only;rw[cQ,Bh,Ad];congr 1;congr 1
  ·exact Bd λx a=>by rw[Az (Ao.1 a)]
  ·exact Bd λx a=>Ak (Ao.1 a)) fz (Dp d.1)
 have h:((List.replicate q.2.1.length (0:Int),List.replicate q.2.1.length false,(0:Int)):zI×List Bool×Int)=(RN q.2.1.length (λj=>if j < 0 then -1 else 0),uL q.2.1.length<|λj=>decide (j < 0),((0:Nat):Int)):=by
  congr 1
  ·unfold RN;have:(λj:Nat=>if j < 0 then(-1:Int)else 0)=λ_=>0:=by funext j;rw[AA aG]
   rw[this,GA,BJ]
  ·congr 1;unfold uL;have:(λj:Nat=>decide (j < 0))=λ_=>false:=by funext j;exact Ah aG
   rw[this,GA,BJ]
 rw[h,e];simp only[Aa];have i:=yX d f q.2.1.length [] (λ_=> -1) (λ_=>true) fz (by unfold QO;exact Bm (BY _ _) nF) (Dp d.1) (by simp;omega);rw[show(([]:zI),RN q.2.1.length<|λ_=> -1,uL q.2.1.length<|λ_=>true)=(oI [],RN q.2.1.length<|λ_=> -1,uL q.2.1.length<|λ_=>true)from rfl,i];rfl
end
section
variable {q:EM}{L:Nat->Bool}
def okY(q:EM)(L:Nat->Bool)(i k:Nat)(v:Int)(j:Nat):Bool:= !((j !=i&&L j)&&aH q j v) || aH q k v
def Ae4(o:Du q=true){i k:Nat}(hi:i < q.2.1.length):(q.2.1[i].2.all λv=>(List.range q.2.1.length).all<|okY q L i k v)=YP q L i k:=by
 have⟨_,_,_,d⟩:=Qw o;have f:=(d _<|Ae hi).2;rw[Bb];unfold YP;rw[Aq,Aq];constructor
 ·intro h u m;have m:=Ao.1 m;cases n:aH q i (u:Int)with
  |false=>rfl
  |true=>
   rw[<-Xc hi]at n;have a:=Aq.1<|h _<|Ag.1 n;cases g:aH q k (u:Int)with
   |true=>simp
   |false=>rw[Au,Cg,Dv,At,BU];intro j l c;have:=a j l;unfold okY at this;rw[g,Dv,At]at this;rw[Ab,Ab]at c;rw[c.1.1,c.1.2,c.2]at this;cases this
 ·intro h v b;have⟨b1,b2⟩:=f v b;have a:=h v.toNat<|Ao.2 aG;have e:((v.toNat:Nat):Int)=v:=aG;rw[e,<-Xc hi,Ag.2 b,Au,Cg]at a;rw[Aq];intro j l;unfold okY;cases g:aH q k v with
  |true=>simp
  |false=>
   rw[g,Dv,At,BU]at a;have:=a j l;rw[Dv,At,Hn];cases p:aH q j v with
   |false=>right;rfl
   |true=>left;rw[p,CX]at this;rw[GZ];exact LK.2 this
def Ada(e:MA q){i k:Nat}(f:k < q.2.1.length)(v:Int):∀(d j M:Nat) (a:Bool),j+d=q.2.1.length->d < M->Ay (Hl (i:Int) (q.2.1.length:Int) (uL q.2.1.length λj=> !L j) q (k:Int) v) M (a,(j:Int))=some (a&&(List.range' j d).all (okY q L i k v))
 |0,j,M+1,a,m,n=>by rw[Cn];generalize Ay (Hl (i:Int) (q.2.1.length:Int) (uL q.2.1.length λj=> !L j) q (k:Int) v) M=b;unfold Hl;simp only;rw[Ah aG];simp
 |d+1,j,M+1,a,m,n=>by
  have c:j < q.2.1.length:=aG;have o:∀b:(Bool×Int)->Option Bool,Hl (i:Int) (q.2.1.length:Int) (uL q.2.1.length λj=> !L j) q (k:Int) v b (a,(j:Int))=cond a (b (okY q L i k v j,((j+1:Nat):Int))) (some false):=λrec=>by have g:=e.2.1 _<|Ae c;have l:=e.2.1 _<|Ae f;unfold Hl Mb O1;simp only;rw[Ak (aG:(j:Int) < (q.2.1.length:Int)),Yt,show AU (uL q.2.1.length λj=> !L j) (j:Int)=some (!L j)from Tl (λj=> !L j) c,AV c,AV f,BA c (Bk e.1)];simp only[Ac,Aa,bW g.2,bW l.2];rw[Xc c,Xc f];unfold okY;cases a<;>cases j !=i<;>cases L j<;>cases aH q j v<;>cases aH q k v<;>rfl
  rw[Cn,o,D0,BM];cases a with
  |false=>rfl
  |true=>rw[Ac,Ada e f v d (j+1) M _ aG aG];rfl
 |_,_,0,_,_,h=>by omega
def Afn(d:MA q)(e:Du q=true){i k:Nat}(hi:i < q.2.1.length)(f:k < q.2.1.length):Ay (L9 (i:Int) (q.2.1.length:Int) (uL q.2.1.length λj=> !L j) q (k:Int) q.2.1[i]) fz (true,0)=some (YP q L i k):=by have b:=d.2.1 _<|Ae hi;rw[<-Ae4 e hi];generalize q.2.1[i]=a at b;have:=Cm (body:=L9 (i:Int) (q.2.1.length:Int) (uL q.2.1.length λj=> !L j) q (k:Int) a) (out:=a.2.all λv=>(List.range q.2.1.length).all (okY q L i k v)) (λt=>((a.2.take t).all λv=>(List.range q.2.1.length).all (okY q L i k v),(t:Int))) a.2.length (λt c g=>by unfold L9;simp only;have:=Ada (q:=q) (L:=L) d (i:=i) f a.2[t] q.2.1.length 0 fz ((a.2.take t).all λv=>(List.range q.2.1.length).all<|okY q L i k v) aG<|Dp d.1;rw[Bq c,AV c,BA c (Bk b.2)];simp only[Ac,Aa];rw[show(0:Int)=((0:Nat):Int)from rfl,this];simp only;rw[A3 c,ED,BM,Fa,CX,<-Gg]) (λrec=>by unfold L9;simp only;rw[Bh,AQ];rfl) fz (Dp b.2);simpa using this
def Akm(b:MA q)(d:Du q=true){i:Nat}(hi:i < q.2.1.length):So (i:Int) (q.2.1.length:Int) (uL q.2.1.length λj=> !L j) q=some (match YN q L i with|some k=>(k:Int)|none=> -1):=by
 unfold So
 have c:=T6 (B:=L8 (i:Int) (q.2.1.length:Int) (uL q.2.1.length λj=> !L j) q) (n:=q.2.1.length) (λk=>if(L k&&k !=i)&&YP q L i k then some ((k:Nat):Int)else none) b.1 (λk a f=>by
  unfold L8 Ma;rw[Bq a,BA a (Bk b.1),ld,show AU (uL q.2.1.length λj=> !L j) (k:Int)=some (!L k)from Tl (λj=> !L j) a,AV hi];simp only[Ac,Aa,Afn b d hi a];have e:(k==i)= !(k !=i):=by unfold bne;rw[Bool.not_not]
  rw[e];cases L k<;>cases k !=i<;>cases YP q L i k<;>rfl) (λrec=>by unfold L8;rw[Bh];rfl)
 rw[c];have e:((List.range q.2.1.length).findSome? λk=>if(L k&&k !=i)&&YP q L i k then some ((k:Nat):Int)else none)=(YN q L i).map λ(k:Nat)=>(k:Int):=by unfold YN;rw[Hp];congr 1;funext k;simp only[Function.comp];split<;>rfl
 rw[e];cases YN q L i<;>rfl
def np(q:EM)(L:Nat->Bool)(i:Nat):Option (Nat×Nat):=if L i then(YN q L i).map λk=>(i,k)else none
def w7(f:MA q)(l:Du q=true){out:zN}{up:Nat->Int}(m:out.length<=100):∀(d i M:Nat),i+d=q.2.1.length->d+1 < M->Ay (HR q) M (RN q.2.1.length up,uL q.2.1.length (λj=> !L j),oI out,false,(i:Int))=some (match(List.range' i d).findSome? (np q L)with
  |none=>(RN q.2.1.length up,uL q.2.1.length<|λj=> !L j,oI out,false)
  |some (i,k)=>(RN q.2.1.length (λj=>if j=i then(k:Int)else up j),uL q.2.1.length (λj=> !(L j&&j !=i)),oI (out++[i]),true))
 |0,i,M+1,n,o=>by rw[Cn];generalize Ay (HR q) M=e;unfold HR;simp only;rw[Ah aG];rfl
 |d+1,i,M+1,n,o=>by
  have hi:i < q.2.1.length:=aG
  have p:∀e:(zI×List Bool×zI×Bool×Int)->Option (zI×List Bool×zI×Bool),HR q e (RN q.2.1.length up,uL q.2.1.length<|λj=> !L j,oI out,false,(i:Int))=match np q L i with
    |none=>e (RN q.2.1.length up,uL q.2.1.length<|λj=> !L j,oI out,false,((i+1:Nat):Int))
    |some (i,k)=>e (RN q.2.1.length (λj=>if j=i then(k:Int)else up j),uL q.2.1.length<|λj=> !(L j&&j !=i),oI<|out++[i],true,((i+1:Nat):Int)):=λrec=>by
   unfold HR Ot np;simp only;rw[Bq hi,BA hi (Bk f.1),show AU (uL q.2.1.length λj=> !L j) (i:Int)=some (!L i)from Tl (λj=> !L j) hi];simp only[Ac,Aa,Cq];cases s:L i with
   |false=>rfl
   |true=>
    rw[Au,Ad,Akm f l hi,Az rfl];simp only;cases YN q L i with
    |none=>rfl
    |some k=>
     simp only[BP];rw[Ak (aG:(0:Int)<=(k:Int)),Ac,AO (by simp[RN];omega),show AU (RN q.2.1.length up) (i:Int)=some (up i)from Tl up hi];simp only;rw[AO (by simp[uL];omega),AO (by rw[EI];unfold lim;simp;omega),dZ];congr 1;congr 1
     ·exact ZJ up _ hi
     ·congr 1;unfold uL;rw[ZJ (λj=> !L j) _ hi];refine Bd λt _=>?_
      by_cases g:t=i
      ·subst g;simp
      ·rw[AA g];simp[g]
  have r:∀(e:(zI×List Bool×zI×Bool×Int)->Option (zI×List Bool×zI×Bool)) (a:zI) (b:List Bool) (c:zI) (x:Int),HR q e (a,b,c,true,x)=some (a,b,c,true):=λrec a b c x=>by unfold HR;simp only;cases decide (x < (q.2.1.length:Int))<;>rfl
  rw[Cn,p,D0,List.findSome?_cons];cases u:np q L i with
  |none=>exact w7 f l m d (i+1) M aG aG
  |some x=>
   have⟨v,k⟩:=x;simp only;cases M with
   |zero=>omega
   |succ M=>rw[Cn,r]
 |_,_,0,_,h=>by omega
def w6(o:MA q)(l:Du q=true):∀(c:Nat) (out:zN) (up:Nat->Int) (L:Nat->Bool) (M:Nat),QO q.2.1.length L<=c->c+1 < M->out.length+c<=100->Ay (Mc q) M (RN q.2.1.length up,uL q.2.1.length<|λj=> !L j,oI out,true)=some (RN q.2.1.length (runM q c out up L).2,oI (runM q c out up L).1)
 |c,out,up,L,0,r,s,_=>by omega
 |c,out,up,L,M+1,r,s,v=>by
  have d:=w7 (L:=L) o l (out:=out) (up:=up) aG q.2.1.length 0 fz aG<|Dp (by have:=(Qw l).2.2.1;unfold lim;omega);have t:(List.range' 0 q.2.1.length).findSome? (np q L)=S9 q L:=by rw[<-Gg];rfl
  rw[t]at d;have u:∀(e:(zI×List Bool×zI×Bool)->Option (zI×zI)) (a:zI) (b:List Bool) (c:zI),Mc q e (a,b,c,false)=some (a,c):=λrec a b c=>rfl
  have f:∀e:(zI×List Bool×zI×Bool)->Option (zI×zI),Mc q e (RN q.2.1.length up,uL q.2.1.length<|λj=> !L j,oI out,true)=match S9 q L with
    |none=>e (RN q.2.1.length up,uL q.2.1.length<|λj=> !L j,oI out,false)
    |some (i,k)=>e (RN q.2.1.length (λj=>if j=i then(k:Int)else up j),uL q.2.1.length<|λj=> !(L j&&j !=i),oI<|out++[i],true):=λrec=>by
   unfold Mc;simp only[Ac];rw[show(0:Int)=((0:Nat):Int)from rfl,d];cases S9 q L with
   |none=>rfl
   |some x=>have⟨i,k⟩:=x;rfl
  rw[Cn,f]
  have g:S9 q L=none->Ay (Mc q) M (RN q.2.1.length up,uL q.2.1.length<|λj=> !L j,oI out,false)=some (RN q.2.1.length up,oI out):=λ_=>by
   cases M with
   |zero=>omega
   |succ M=>rw[Cn,u]
  cases c with
  |zero=>
   have p:S9 q L=none:=by
    cases h:S9 q L with
    |none=>rfl
    |some x=>have⟨i,k⟩:=x;have⟨m,e2,n⟩:=TZ h;have:=rm m n;omega
   rw[p];exact g p
  |succ c=>
   rw[runM];cases h:S9 q L with
   |none=>exact g h
   |some x=>have⟨i,k⟩:=x;have⟨m,e2,n⟩:=TZ h;have:=mz m n;exact w6 o l c _ _ _ M aG aG (by simp;omega)
def w4(d:MA q)(f:Du q=true):SN q=some (gyM q):=by
 have⟨_,_,l,_⟩:=Qw f;unfold SN;rw[Ax,AO uY,AO uY]
 have e:=Cm (body:=Rc q) (out:=RN q.2.1.length (λ_=> -1)) (λt=>(RN q.2.1.length (λj=>if j < t then -1 else 0),(t:Int))) q.2.1.length (λt b g=>by
  unfold Rc;simp only;rw[Ax,CH,Bq b,BA b (Bk d.1),AO (by simp[RN];omega),show AU (RN q.2.1.length (λj=>if j < t then -1 else 0)) (t:Int)=some (if t < t then -1 else 0)from Tl (λj=>if j < t then(-1:Int)else 0) b];simp only[Ac,Aa];congr 1;congr 1;unfold RN;rw[ZJ _ _ b];refine Bd λx _=>?_
  by_cases c:x=t
  ·subst c;rw[Az rfl,Az aG]
  ·rw[AA c];by_cases a:x < t
   ·rw[Az a,Az aG]
   ·rw[AA a,AA aG]) (λrec=>by
  unfold Rc;simp only;rw[Ax,CH,Bh,Ad];congr 1;exact Bd λx c=>by rw[Az (Ao.1 c)]) fz (Dp d.1)
 have h:((List.replicate q.2.1.length (0:Int),(0:Int)):zI×Int)=(RN q.2.1.length (λj=>if j < 0 then -1 else 0),((0:Nat):Int)):=by
  congr 1;unfold RN;have:(λj:Nat=>if j < 0 then(-1:Int)else 0)=λ_=>0:=by funext j;rw[AA aG]
  rw[this,GA,BJ]
 have i:List.replicate q.2.1.length false=uL q.2.1.length (λj=> !(λ_=>true:Nat->Bool) j):=by unfold uL;rw[show(λj:Nat=> !(λ_=>true:Nat->Bool) j)=λ_=>false from rfl,GA,BJ]
 rw[h,e,i];simp only[Aa];have k:=w6 d f q.2.1.length [] (λ_=> -1) (λ_=>true) fz (by unfold QO;exact Bm (BY _ _) nF) (Dp uY) (by simp;omega);rw[show((RN q.2.1.length<|λ_=> -1,uL q.2.1.length<|λj=> !(λ_=>true:Nat->Bool) j,([]:zI),true):zI×List Bool×zI×Bool)=(RN q.2.1.length<|λ_=> -1,uL q.2.1.length<|λj=> !(λ_=>true:Nat->Bool) j,oI [],true)from rfl,k];rfl
def dl(q:EM):Bool:=((gyM q).1.length:Int)==(q.2.1.length:Int) - 1
def Al9(b:MA q)(a:Du q=true):Ir q=some (cond (dl q) ((gyM q).2,true) ([],false)):=by have⟨_,_,c,_⟩:=Qw a;unfold Ir Rw PD La;rw[Sq b,a];simp only[Aa,Ac,Au,Ad,Ais b a];rw[wrap_in aG];unfold dl;cases((gyM q).1.length:Int)==(q.2.1.length:Int) - 1<;>rfl
def Akh(b:MA q)(a:Du q=true):MK q=some (cond (dl q) ((gyM q).2,true) ([],false)):=by have⟨_,_,c,_⟩:=Qw a;unfold MK Uk Ps NR;rw[OS b,a];simp only[Aa,Ac,Au,Ad,w4 b a];rw[wrap_in aG];unfold dl;cases((gyM q).1.length:Int)==(q.2.1.length:Int) - 1<;>rfl
end
def awN(q:EM)(v:Nat):zN:=(List.range q.2.1.length).filter λj=>aH q j (v:Int)
def WW(q:EM)(out:zI)(v:Nat):Bool:=(Ds q.1.toNat<|GB q v).any out.contains
def SZ(s:zI)(i:Nat):Int:=s.getD i 0
def cv(q:EM)(s:zI)(v:Nat):Int:=(awN q v).tail.foldl (λn i=>if SZ s i < n then SZ s i else n)<|SZ s<|(awN q v).headD 0
def AjE(q:EM)(s:zI)(v w:Nat):Bool:=cond (((awN q v).length:Int)!=(awN q w).length) (decide (((awN q w).length:Int) < (awN q v).length))<|decide (cv q s v < cv q s w)
def Aab(q:EM)(s out:zI)(v w:Nat):Bool:=(WW q out v&& !WW q out w) || (WW q out v==WW q out w&&AjE q s v w)
def UC(q:EM)(s out:zI)(k:Nat):Option Nat:=(List.range k).foldl (λ(b:Option Nat) (v:Nat)=>if out.contains (v:Int)then b else match b with
 |none=>some v
 |some w=>if Aab q s out v w then some v else some w) none
def bI(b:Option Nat):Int:=match b with
 |none=> -1
 |some v=>(v:Int)
def WC(q:EM)(s:zI):Nat->zI
 |0=>[]
 |t+1=>WC q s t++[bI (UC q s (WC q s t) q.1.toNat)]
def Uz(q:EM)(s:zI):∀t,(WC q s t).length=t
 |0=>rfl
 |t+1=>by rw[WC,An,Uz q s t];rfl
def lD(q:EM)(s out:zI):∀k w,UC q s out k=some w->w < k
 |0,w,h=>by cases h
 |k+1,w,h=>by
  unfold UC at h;rw[CO,C2,Ca,Ez]at h;have a:=lD q s out k;unfold UC at a;revert h a;generalize(List.range k).foldl _ none=b;intro h a;split at h
  ·have:=a w h;omega
  ·split at h
   ·cases h;omega
   ·rename_i w';split at h
    ·cases h;omega
    ·cases h;have:=a _ rfl;omega
section
variable {q:EM}{s out:zI}
def AjD(g:Du q=true){v:Nat}(h:v < q.1.toNat):awN q v≠[]:=λe=>by have b:=g;unfold Du at b;simp only[Ab,At]at b;have c:=b.2.2.2.2;rw[BU]at c;have:=c v<|Ao.2 h;rw[At,H1]at this;unfold JI at this;have⟨a,i,k⟩:=BR.1 this;obtain⟨j,d,rfl⟩:=AE.1 i;have f:j∈awN q v:=AM.2 ⟨Ao.2 d,by rw[<-Xc d];exact k⟩;rw[e]at f;cases f
def AjC{v i}(h:i∈awN q v):i < q.2.1.length:=Ao.1 (AM.1 h).1
def Am1(v k:Nat):(List.range<|k+1).filter (λj=>aH q j (v:Int))=(List.range k).filter (λj=>aH q j (v:Int))++cond (aH q k (v:Int)) [k] []:=by rw[CO,CQ,DD,DM];cases aH q k (v:Int)<;>rfl
def Ac3(b:MA q)(c:Du q=true)(v:Nat):HL q (v:Int)=some (oI<|awN q v):=by have g:=(Qw c).2.2.1;unfold HL;rw[OS b,c];simp only[Aa,Au,Ad];have:=Cm (body:=Gp q (v:Int)) (out:=oI (awN q v)) (λk=>(oI ((List.range k).filter λj=>aH q j (v:Int)),(k:Int))) q.2.1.length (λk a d=>by have e:=b.2.1 _<|Ae a;have f:=BY (λj=>aH q j (v:Int))<|List.range k;rw[BJ]at f;unfold Gp Ia;simp only;rw[Bq a,AV a,BA a (Bk b.1),Am1];simp only[Ac,Aa,bW e.2];rw[Xc a,AO (by rw[EI];unfold lim;simp;omega),dZ];cases aH q k (v:Int)<;>simp) (λrec=>by unfold Gp;simp only;rw[Bh];rfl) fz (Dp b.1);rw[show(([]:zI),(0:Int))=(oI<|(List.range 0).filter λj=>aH q j (v:Int),((0:Nat):Int))from rfl,this]
def wQ(a:MA q)(b:Du q=true)(v:Nat):JC q (v:Int)=some ((awN q v).length:Int):=by unfold JC;rw[Ac3 a b];simp only[Aa,EI]
def Amr(a:s.length=q.2.1.length){i:Nat}(h:i < q.2.1.length):AU s (i:Int)=some (SZ s i):=by rw[AV aG];unfold SZ;rw[AF,Af aG];rfl
def t8(s:zI)(l:zN)(x:Int)(i:Nat):(l++[i]).foldl (λn i=>if SZ s i < n then SZ s i else n) x=if SZ s i < l.foldl (λn i=>if SZ s i < n then SZ s i else n) x then SZ s i else l.foldl (λn i=>if SZ s i < n then SZ s i else n) x:=by rw[C2];rfl
def mZ(g:MA q)(e:Du q=true)(j:s.length=q.2.1.length){v:Nat}(h:v < q.1.toNat):Kb (v:Int) q s=some (cv q s v):=by
 have p:=(Qw e).2.2.1;unfold Kb cv;rw[Ac3 g e];have b:=λi (hi:i∈awN q v)=>AjC hi
 have c:=AjD e h;have f:(awN q v).length<=4:=Bm (BY _ _) (by simp;omega);generalize awN q v=A at b c f;cases A with
 |nil=>exact absurd rfl c
 |cons a A=>
  simp only[Aa,List.tail_cons,List.headD_cons];rw[AC]at f
  have:=Cm (body:=GG s (oI (a::A))) (out:=A.foldl (λn i=>if SZ s i < n then SZ s i else n) (SZ s a)) (λk=>(cond (k==0) 0 ((A.take (k - 1)).foldl (λn i=>if SZ s i < n then SZ s i else n) (SZ s a)),(k:Int))) (A.length+1) (λk l m=>by
   have o:oAt (a::A) k∈a::A:=by rw[Px (by simp;omega)];exact Ae _
   unfold GG Ks Kt;simp only;rw[EI,AC,Bq l,aF (by simp;omega),wrap_in aG];simp only[Ac,Aa];rw[Amr j (b _ o)];simp only;cases k with
   |zero=>rfl
   |succ k=>
    rw[show(((k+1:Nat):Int)==0)=false from Be.2 aG,Ad,show(k+1==0)=false from rfl,show(k+1+1==0)=false from rfl,Ad,Ad,show k+1 - 1=k from rfl,show k+1+1 - 1=k+1 from rfl,show oAt (a::A) (k+1)=A[k]'aG from by rw[Px (by simp;omega)];rfl,A3 aG,t8];by_cases d:SZ s (A[k]'aG) < (A.take k).foldl (λn i=>if SZ s i < n then SZ s i else n) (SZ s a)
    ·rw[Ak d,Az d];rfl
    ·rw[Ah d,AA d];rfl) (λrec=>by
   unfold GG;simp only;rw[EI,AC,Bh,show(A.length+1==0)=false from rfl,Ad,Ad,Nat.add_sub_cancel,AQ]) fz (Dp uY)
  rw[show((0:Int),(0:Int))=(cond (0==0) 0<|(A.take<|0 - 1).foldl (λn i=>if SZ s i < n then SZ s i else n)<|SZ s a,((0:Nat):Int))from rfl,this]
def rY(d:MA q)(c:Du q=true)(f:out.length<=lim)(v:Nat):Ka (v:Int) out q=some (cond (WW q out v) 1 0):=by
 have b:=Nc q.1.toNat<|GB q v;have j:=LA c;unfold Ka Uq WW;rw[Adb d c];simp only[Aa];rw[Xu uY f];simp only;generalize Ds q.1.toNat (GB q v)=l at b
 have e:decide ((0:Int) < ((l.filter out.contains).length:Int))=l.any out.contains:=by
  rw[Bb,AN,BR];constructor
  ·intro h;have g:0 < (l.filter out.contains).length:=aG;have⟨x,a⟩:=List.exists_mem_of_length_pos g;exact⟨x,(AM.1 a).1,(AM.1 a).2⟩
  ·rintro⟨x,a,i⟩;have:=EQ<|AM.2 ⟨a,i⟩;omega
 rw[e];cases l.any out.contains<;>rfl
def pU(k:Nat):UC q s out (k+1)=if out.contains (k:Int)then UC q s out k else match UC q s out k with
 |none=>some k
 |some w=>if Aab q s out k w then some k else some w:=by
 unfold UC;rw[CO,C2,Ca,Ez]
def AaX(d:MA q)(c:Du q=true)(h:s.length=q.2.1.length)(f:out.length<=lim):Ay (Gu q s out) fz ((-1),0)=some (bI<|UC q s out q.1.toNat):=by
 have p:=LA c
 exact Cm (body:=Gu q s out) (out:=bI (UC q s out q.1.toNat)) (λk=>(bI (UC q s out k),(k:Int))) q.1.toNat (λk j l=>by
  unfold Gu Gv HZ;simp only;rw[Ak (aG:(k:Int) < q.1),ah f,wrap_in aG];simp only[Ac,Aa];rw[pU];cases r:out.contains (k:Int)with
  |true=>rw[Ac,Az rfl];rfl
  |false=>
   rw[Ad,AA nF];cases m:UC q s out k with
   |none=>rfl
   |some w=>
    have t:=lD q s out k w m;have e:bI (some w)=(w:Int):=rfl;simp only[e];rw[Ah (aG:¬(w:Int) < 0),Ad,rY d c f,rY d c f,wQ d c,wQ d c,mZ d c h j,mZ d c h aG];simp only;unfold Aab AjE;generalize((awN q k).length:Int)=a;generalize((awN q w).length:Int)=b;have g:(a !=b)= !(a==b):=rfl;rw[g];by_cases i:b < a
    ·have n:(a==b)=false:=Be.2 aG;rw[Ak i,n];cases WW q out k<;>cases WW q out w<;>simp[bI]
    ·rw[Ah i];cases o:a==b with
     |true=>cases WW q out k<;>cases WW q out w<;>cases decide (cv q s k < cv q s w)<;>simp[bI]
     |false=>cases WW q out k<;>cases WW q out w<;>simp[bI]) (λrec=>by
  unfold Gu;simp only;rw[Ah (aG:¬((q.1.toNat:Nat):Int) < q.1)];rfl) fz (Dp uY)
def Anu(b:MA q)(a:Du q=true)(c:s.length=q.2.1.length):OU q s=some (WC q s q.1.toNat):=by
 have f:=LA a;unfold OU;rw[OS b,a,show((s.length:Int)!=(q.2.1.length:Int))=false from by rw[c];simp];simp only[Aa,Au,Ad]
 have:=Cm (body:=LG q s) (out:=WC q s q.1.toNat) (λt=>WC q s t) q.1.toNat (λt g d=>by
  unfold LG;have e:=Uz q s t;rw[e,Ak (aG:(t:Int) < q.1),AaX b a c uY];simp only[Ac,Aa];rw[AO (by unfold lim;simp;omega)];rfl) (λrec=>by
  unfold LG;rw[Uz,Ah (aG:¬((q.1.toNat:Nat):Int) < q.1)];rfl) fz (Dp uY)
 rw[show([]:zI)=WC q s 0 from rfl,this]
end
abbrev AmT:=Int×zI×zI×List zI×zI
section
variable {q:EM}{s:zI}
def chP(q:EM)(s:zI):AmT×Bool:=cond (Du q) (cond ((s.length:Int)!=(q.2.1.length:Int)) ((0,[],[],([],[])),false)<|cond (dl q) ((1,[],(gyM q).2,([],[])),true)<|cond (decide (RQ (iv q).2.1 (dx<|cpP q).2.1 < 0)) ((2,[],[],(iv q).1),true) ((3,WC q s q.1.toNat,[],([],[])),true)) ((0,[],[],([],[])),false)
def AcT:∀k,k<=(UY q.1.toNat).length->(S7 q k).2.2=false->(S7 q k).2.1=(0,0)
 |0,_,_=>rfl
 |k+1,c,h=>by
  have a:=AcT k aG;rw[qD c]at h⊢;generalize S7 q k=st at a h⊢;unfold bdS at h⊢;cases b: !st.2.2 || decide (RQ (wdB q (UY q.1.toNat)[k]) st.2.1 < 0)with
  |true=>rw[b]at h;cases h
  |false=>rw[b]at h;exact a h
def vy:∀k,k<=(UY q.1.toNat).length->(S7 q k).1=([],[])∨∃O∈UY q.1.toNat,(S7 q k).1=Qj O (GB q)
 |0,_=>.inl rfl
 |k+1,a=>by
  have b:=vy k aG;rw[qD a];generalize S7 q k=st at b⊢;unfold bdS;cases !st.2.2 || decide (RQ (wdB q (UY q.1.toNat)[k]) st.2.1 < 0)with
  |true=>exact .inr ⟨_,Ae a,rfl⟩
  |false=>exact b
def Aex(r:Rt):RQ (0,0) r=0:=rfl
def Ac5(a:MA q):P0 q s=some (chP q s):=by
 unfold P0 chP;rw[OS a];simp only[Aa];cases b:Du q with
 |false=>rfl
 |true=>
  rw[Au,Ad,Ac];cases d:(s.length:Int)!=(q.2.1.length:Int)with
  |true=>rfl
  |false=>
   have c:s.length=q.2.1.length:=by have:=bne_eq_false_iff_eq.1 d;omega
   rw[Ad,Ad,Akh a b];simp only;cases dl q with
   |true=>rfl
   |false=>rw[Ad,Ad,Ad,Akg a b];simp only;rw[Akv a b];simp only;rw[fE,Anu a b c];simp only;cases decide (RQ (iv q).2.1 (dx<|cpP q).2.1 < 0)<;>rfl
end
def obs{α β:Type}(a:α)(f:α->Option β):Aa (some a) f=f a:=rfl
def dgI(n:Nat):zI:=if n < 10 then [48+(n:Int)]else dgI (n / 10)++[48+((n % 10:Nat):Int)]
termination_by n
decreasing_by omega
def Z8{n:Nat}(h:n < 10):dgI n=[48+(n:Int)]:=by rw[dgI,Az h]
def Xm{n}(h:¬n < 10):dgI n=dgI (n / 10)++[48+((n % 10:Nat):Int)]:=by rw[dgI,AA h]
def rx:∀(k n:Nat),n < 10 ^ (k+1)->(dgI n).length<=k+1
 |0,n,h=>by rw[Z8 aG];simp
 |k+1,n,h=>by
  by_cases a:n < 10
  ·rw[Z8 a];simp
  ·rw[Xm a,An,Aj];have:=rx k (n / 10) (by rw[Fb]at h;omega);omega
def dm(n:Nat):zU:=bytesOf<|dgI n
def YM(n:Int):zU:=if n < 0 then 45::dm n.natAbs else dm n.toNat
def bC(a b:zI):bytesOf (a++b)=bytesOf a++bytesOf b:=by simp[bytesOf]
def bD(a:zI):(bytesOf a).length=a.length:=by simp[bytesOf]
def Uc{n}(h:n < 10000000000000000000):(dm n).length<=19:=by unfold dm;rw[bD];exact rx 18 n (by simpa using h)
def SA{n}(h:ir n):(YM n).length<=20:=by
 unfold ir at h;unfold YM;split
 ·rw[AC];have:=Uc (n:=n.natAbs) aG;omega
 ·have:=Uc (n:=n.toNat) aG;omega
def ry{d:Nat}(h:d < 10):IntKind.u8.wrap (wZ<|48+(d:Int))=48+(d:Int):=by
 rw[wrap_in aG]
 (try unfold wZ)<;>unfold IntKind.wrap
 simp[IntKind.signed,IntKind.bits]<;>omega
def xL(m:Nat):(m:Int).tmod 10=((m % 10:Nat):Int):=by rw[G0 aG];omega
def v8(m:Nat):(m:Int).tdiv 10=((m / 10:Nat):Int):=by rw[Jv aG];omega
def Adp(m:Nat):(-(m:Int)).tmod 10= -((m % 10:Nat):Int):=by rw[Int.neg_tmod,xL]
def AcY(m:Nat):(-(m:Int)).tdiv 10= -((m / 10:Nat):Int):=by rw[Int.neg_tdiv,v8]
def mX:∀(k m:Nat) (x:Int) (ds:zI) (f:Nat),m < 10 ^ (k+1)->x.natAbs=m->ir x->ds.length+k<=100->k < f->Ay KS f (x,ds)=some (dgI m++ds)
 |k,m,x,ds,0,_,_,_,_,c=>absurd c aG
 |k,m,x,ds,f+1,d,l,hi,n,c=>by
  unfold ir at hi
  have g:(x.tdiv 10).natAbs=m / 10:=by
   by_cases h:x < 0
   ·obtain rfl:x= -(m:Int):=aG;rw[AcY];omega
   ·obtain rfl:x=(m:Int):=aG;rw[v8];omega
  have i:∀a:Int×zI->Option zI,KS a (x,ds)=KT a x ds ((m % 10:Nat):Int):=by
   intro a;rw[KS];by_cases h:x < 0
   ·obtain rfl:x= -(m:Int):=aG;rw[Adp];by_cases j:m % 10=0
    ·rw[j];rfl
    ·rw[Ak aG,Ac,wrap_in aG];congr 1;omega
   ·obtain rfl:x=(m:Int):=aG;rw[xL,Ah aG];rfl
  rw[Cn,i,KT,ry aG,AO (by simp only[Aj];unfold lim;omega),wrap_in aG];by_cases b:m < 10
  ·have e:(x.tdiv 10==0)=true:=by simp;omega
   rw[e,Ac,Z8 b,DF b]
  ·have e:(x.tdiv 10==0)=false:=by simp;omega
   rw[e,Ad,Xm b];cases k with
   |zero=>omega
   |succ k=>rw[mX k (m / 10) (x.tdiv 10) _ f (by rw[Fb]at d;omega) g (by unfold ir;omega) (by simp;omega) aG,Bw]
def Ac8{n}(h:ir n):Og n=some (YM n):=by
 have b:=SA h;unfold ir at h;unfold Og;rw[mX 18 n.natAbs n [] fz (by rw[show(10:Nat) ^ (18+1)=10000000000000000000 from by decide];omega) rfl h nF (by unfold fz;omega),obs,A7];unfold YM at b⊢;by_cases a:n < 0
 ·rw[Az a,AC]at b;rw[Ak a,Ac,Az a,AO (by unfold dm at b;simp only[Aj];unfold lim;omega)];rfl
 ·rw[Ah a,Ad,AA a];show some (dm n.natAbs)=some (dm n.toNat);rw[show n.natAbs=n.toNat by omega]
def cJ:∀(k m f:Nat),m < 10 ^ (k+1)->k<=18->k < f->Ay Lj f (m:Int)=some (dm m)
 |k,m,0,_,_,b=>absurd b aG
 |k,m,f+1,c,h,b=>by
  have d:m < 10000000000000000000:=by have:(10:Nat) ^ (k+1)<=10 ^ 19:=EG aG aG;have e:(10:Nat) ^ 19=10000000000000000000:=oJ;omega
  rw[Cn,Lj,Ah (aG:¬(m:Int)<= -10),Ah (aG:¬(m:Int) < 0)];simp only[Ad];by_cases a:m < 10
  ·rw[Ak aG,Ac,ry a];unfold dm;rw[Z8 a]
  ·rw[Ah aG,Ad,v8,xL];by_cases i:m < 9223372036854775808
   ·cases k with
    |zero=>omega
    |succ k=>have g:=Uc (n:=m / 10) aG;rw[wrap_in aG,cJ k (m / 10) f (by rw[Fb]at c;omega) aG aG,obs,ry aG,AO (by rw[bD];simp only[Aj];unfold lim;omega)];unfold dm;rw[Xm a,bC]
   ·cases k with
    |zero=>omega
    |succ k=>have g:=Uc (n:=m / 10) aG;rw[wrap_in aG,cJ k (m / 10) f (by rw[Fb]at c;omega) aG aG,obs,ry aG,AO (by rw[bD];simp only[Aj];unfold lim;omega)];unfold dm;rw[Xm a,bC]
def lI{n}(h:ir n):UH n=some (YM n):=by
 unfold ir at h;have f:(10:Nat) ^ (18+1)=10000000000000000000:=oJ;unfold UH YM;by_cases e:n < 0
 ·rw[Az e];obtain⟨m,rfl⟩:∃m:Nat,n= -(m:Int):=⟨n.natAbs,aG⟩;have b:(-(m:Int)).natAbs=m:=aG;have c:fz=(fz - 1)+1:=by unfold fz;rfl
  rw[c,Cn,Lj,b];have a:18 < fz - 1:=by unfold fz;omega
  generalize fz - 1=F at a;by_cases d:m < 10
  ·have g:=Uc (n:=m) aG;rw[Ah aG,Ad,Ak aG,Ac,wrap_in aG,show(0:Int) - -(m:Int)=(m:Int)by omega,cJ 18 m F aG aG a,obs,AO (by simp only[Aj];unfold lim;omega)];rfl
  ·have g:=Uc (n:=m / 10) aG;have i:=Uc (n:=m % 10) aG
   rw[Ak aG,Ac,AcY,Adp,wrap_in (n:= -((m / 10:Nat):Int)) aG,wrap_in (n:=0 - -((m / 10:Nat):Int)) aG,wrap_in (n:=0 - -((m % 10:Nat):Int)) aG,show(0:Int) - -((m / 10:Nat):Int)=((m / 10:Nat):Int)by omega,show(0:Int) - -((m % 10:Nat):Int)=((m % 10:Nat):Int)by omega,
    cJ 18 (m / 10) F aG aG a,obs,AO (by simp only[Aj];unfold lim;omega),cJ 18 (m % 10) F aG aG a,obs,AO (by simp only[An,Aj];unfold lim;omega)]
   unfold dm;rw[Xm d,bC,Z8 (n:=m % 10) aG];rfl
 ·rw[AA e];obtain⟨m,rfl⟩:∃m:Nat,n=(m:Int):=⟨n.toNat,aG⟩;rw[Ax];exact cJ 18 m fz aG aG (by unfold fz;omega)
def nameB(v:Int):zU:=if HH v 0 4=true then CZ [88,89,90,85,86] v (v+1)else []
def cw(v:Int):(nameB v).length<=1:=by
 unfold nameB;split
 ·rename_i h;unfold HH at h;simp only[Ab,AN]at h;unfold CZ;rw[BH,AH];omega
 ·simp
def Ack(v:Int):Js v=some (nameB v):=by
 unfold Js nameB;rw[Sg,obs];cases h:HH v 0 4 with
 |false=>rfl
 |true=>unfold HH at h;simp only[Ab,AN]at h;rw[Au,Ad,wrap_in aG,AO (by simp;omega),Az rfl]
def Aa2(v:Int):NX v=some (nameB v):=by
 unfold NX nameB;rw[Ig,obs];cases h:HH v 0 4 with
 |false=>rfl
 |true=>unfold HH at h;simp only[Ab,AN]at h;rw[Au,Ad,wrap_in aG,AO (by simp;omega),Az rfl]
def Rn(l:zI):zU:=l.flatMap nameB
def QG:∀l:zI,(Rn l).length<=l.length
 |[]=>by simp[Rn]
 |x::l=>by have b:=cw x;have a:=QG l;unfold Rn at a⊢;rw[AR,An,AC];omega
def ww{α β:Type}(f:α->List β){l:List α}{k:Nat}(a:k < l.length):(l.take<|k+1).flatMap f=(l.take k).flatMap f++f l[k]:=by rw[A3 a,Dw];simp
def rX{l}(h:l.length < lim):Q7 l=some (Rn l):=by unfold Q7;have:=Cm (body:=P3 l) (out:=Rn l) (λk=>(Rn (l.take k),(k:Int))) l.length (λk a b=>by have c:=QG<|l.take k;have d:=cw l[k];rw[AH]at c;rw[P3];rw[Bq a,AV a,BA a (Bk aG),Ac,obs,Aa2,obs,AO aG];unfold Rn;rw[ww _ a]) (λrec=>by rw[P3];rw[Bh,AQ];rfl) fz (Dp aG);rw[show((([]:zU),(0:Int)))=(Rn<|l.take 0,((0:Nat):Int))from rfl,this];rfl
def yY{l}(h:l.length+2<=lim):OI l=some (40::(Rn l++[41])):=by unfold OI;have d:=QG l;have:=Cm (body:=RL l) (out:=40::Rn l) (λk=>(40::Rn (l.take k),(k:Int))) l.length (λk a b=>by have c:=QG<|l.take k;have e:=cw l[k];rw[AH]at c;rw[RL];rw[Bq a,AV a,BA a (Bk aG),Ac,obs,Ack,obs,AO (by rw[AC];omega)];unfold Rn;rw[ww _ a];rfl) (λrec=>by rw[RL];rw[Bh,AQ];rfl) fz (Dp aG);rw[show((([40]:zU),(0:Int)))=(40::Rn (l.take 0),((0:Nat):Int))from rfl,this,obs,AO (by simp only[AC,Bn];omega)];rfl
def MD(a:zU):List zU->zU
 |[]=>[]
 |w::b=>w++b.flatMap λu=>a++u
def ct(a:zU)(w:zU):∀b:List zU,MD a (b++[w])=if b.length=0 then w else MD a b++a++w
 |[]=>by simp[MD]
 |v::b=>by rw[AA nF,CR,MD,MD,Dw];simp
def XE(a:zU)(L:Nat):∀b:List zU,(∀w∈b,w.length+a.length<=L)->(MD a b).length<=b.length * L
 |[],_=>by simp[MD]
 |w::b,h=>by
  have i:=h w nF
  have c:∀us:List zU,(∀w∈us,w.length+a.length<=L)->(us.flatMap λu=>a++u).length<=us.length * L:=by
   intro us;induction us with
   |nil=>intro _;simp
   |cons u us f=>
    intro e;have g:=e u nF;have j:=f<|λw d=>e w<|by simp[d]
    rw[AR,An,An,AC,DS];omega
  have g:=c b<|λw d=>h w<|by simp[d]
  rw[MD,An,AC,DS];omega
def wS{a sep L}(h:∀w∈a,w.length+sep.length<=L)(g:a.length * L<=lim)(c:a.length<=lim):VZ a sep=some (MD sep a):=by
 unfold VZ
 have:=Cm (body:=Q4 a sep) (out:=MD sep a) (λk=>(MD sep (a.take k),(k:Int))) a.length (λk b d=>by
  have e:=XE sep L (a.take k)<|λw f=>h w<|Dd f
  rw[AH,CS aG]at e;have i:=h _<|Ae b;have j:k * L+L<=a.length * L:=by rw[<-HU];exact Cd _ b
  rw[Q4];rw[Bq b,AV b,Ac,obs,A3 b,ct,AH,CS aG];by_cases l:0 < k
  ·rw[Ak (aG:(0:Int) < (k:Int)),Ac,AA aG,AO aG,Q6,AO (by rw[An];omega),BA b (Bk c)]
  ·obtain rfl:k=0:=aG;rw[Ah nF,Ad,Az rfl,Q6,BA b (Bk c)];rw[AO (by simp[MD];omega)];simp[MD]) (λrec=>by rw[Q4];rw[Bh,AQ];rfl) fz (Dp c)
 rw[show((([]:zU),(0:Int)))=(MD sep<|a.take 0,((0:Nat):Int))from rfl,this];rfl
def jf(a:zU)(l:zI):zU:=MD a<|l.map YM
def AaT{l c}(g:l.length<=1048576)(h:∀x∈l,ir x):P2 l [c]=some (jf [c] l):=by
 unfold P2 jf
 rw[Kg (a:=l) (h:=YM) uY (λk b d=>by
  rw[Qq];rw[Bq b,AV b,BA b (by unfold maxLen;omega),Ac,obs,Ac8 (h _ (Ae b)),obs,AO (by simp only[Ai,AH,Aj];unfold lim;omega)]) (λrec y=>by rw[Qq];rw[Bh];rfl),obs,
  wS (L:=21) (λw e=>by obtain⟨x,f,rfl⟩:=Aw.1 e;have:=SA<|h x f;simp only[Aj];omega) (by rw[Ai];unfold lim;omega) (by rw[Ai];unfold lim;omega),obs]
def Aip{l}(i:l.length<=1048576)(h:∀x∈l,ir x):TR l=some (jf [32] l):=by
 unfold TR jf
 have:=Cm (body:=Nr l) (out:=MD [32] (l.map YM)) (λk=>(MD [32] ((l.map YM).take k),(k:Int))) l.length (λk a c=>by
  have b:k < (l.map YM).length:=by rw[Ai];exact a
  have d:=XE [32] 21 ((l.map YM).take k) (λw f=>by obtain⟨x,g,rfl⟩:=Aw.1<|Dd f;have:=SA<|h x g;simp only[Aj];omega);rw[AH,CS aG]at d;have j:=SA<|h _<|Ae a;rw[Nr];rw[Bq a,Ac,A3 b,ct,AH,CS aG,Bl];by_cases m:0 < k
  ·rw[Ak (aG:(0:Int) < (k:Int)),Ac,AA aG,AO (by simp only[Aj];unfold lim;omega),Ns,AV a,obs,lI (h _<|Ae a),obs,AO (by rw[An];simp only[Aj];unfold lim;omega),BA a (by unfold maxLen;omega)]
  ·obtain rfl:k=0:=aG;rw[Ah nF,Ad,Az rfl,Ns,AV a,obs,lI (h _<|Ae a),obs,BA a (by unfold maxLen;omega)];rw[AO (by simp[MD];unfold lim;omega)];simp[MD]) (λrec=>by
   have e:(l.map YM).take l.length=l.map YM:=by rw[ER nF]
   rw[Nr];rw[Bh,e];rfl) fz (Dp uY)
 rw[show((([]:zU),(0:Int)))=(MD [32]<|(l.map YM).take 0,((0:Nat):Int))from rfl,this];rfl
end Go.Proofs.YtdmpnamllcigdaaGreatDoor
