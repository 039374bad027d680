/- Certificates read from text: the program's reading, and that it agrees with the reference's. On the printed functions; conditions: the text's length. -/
import Derived.Test.YtpnoalhfjnjeaaaGreatDoorPfFC1
import Derived.Test.YtpnoalhfjnjeaaaGreatDoorGeFC1
import Derived.Test.YtpnoalhfjnjeaaaGreatDoorIcFC1
import Derived.Test.YtpnoalhfjnjeaaaGreatDoorKc
import Derived.Test.YtpnoalhfjnjeaaaGreatDoorFdFC1
open Go.RowKit
set_option linter.all false
namespace Go.Proofs.YtpnoalhfjnjeaaaGreatDoor
section
def Afs(S:zU)(b:zI)(o:Option zI)(a:Option (List<|Int×Int))(r k:Option Int):Option Ur:=match o,a,r,k with
 |some o,some a,some r,some k=>if cB EJ (o,a,b,r,k)=S then some (o,a,b,r,k)else none
 |_,_,_,_=>none
def AfL{S p0 p1 p2 p3 p4 sz}(o:Option zI)(a:Option (List<|Int×Int))(e:∀d b r k,o=some d->a=some b->U5 11 p3=some r->U5 11 p4=some k->i8 (d,b,sz,r,k)):
  E2 S [p0,p1,p2,p3,p4] (AdV o) (uT a) sz=some (lN<|Afs S sz o a (U5 11 p3)<|U5 11 p4):=by
 unfold E2;rw[show AF [p0,p1,p2,p3,p4] 3=some p3 from rfl,show AF [p0,p1,p2,p3,p4] 4=some p4 from rfl];simp only[obs];rw[nn,nn];simp only[obs];cases o with
 |none=>rfl
 |some o=>
  cases a with
  |none=>rfl
  |some a=>
   cases f:U5 11 p3 with
   |none=>rfl
   |some r=>
    cases g:U5 11 p4 with
    |none=>rfl
    |some k=>
     show G (Ds (o,a,sz,r,k)) _=_;rw[jj (e o a r k rfl rfl f g),obs];unfold Afs;by_cases c:cB EJ (o,a,sz,r,k)=S
     ·simp only[c,BP,EL];rfl
     ·simp only[As c];rw[show(cB EJ (o,a,sz,r,k)==S)=false by simp[c]];rfl
def AfP{S}(n:S.length<=1048576):Hb S=some (lN<|Xg EJ S):=by
 unfold Hb Xg;rw[pk 59 (a:=59) rfl n,obs];have f:=(S3 59 n).2;generalize FQ 59 S=ws at f
 match ws,f with
 |[p0,p1,p2,p3,p4],f=>
  have l0:=f p0 (by simp);have p:=f p1 (by simp);have j:=f p2 (by simp);rw[show(((List.length [p0,p1,p2,p3,p4]:Nat):Int)!=5)=false from rfl,Aa];rw[show AF [p0,p1,p2,p3,p4] 0=some p0 from rfl,show AF [p0,p1,p2,p3,p4] 1=some p1 from rfl,show AF [p0,p1,p2,p3,p4] 2=some p2 from rfl];simp only[obs];rw[tR l0,xC p];simp only[obs];rw[PC];have u:∀b,szI p2=some b->∀l d r k,pnB p0=some l->Re EJ p1=some d->U5 11 p3=some r->U5 11 p4=some k->i8 (l,d,b,r,k):=by intro b c l d r k v g w x;have:=tp (p0:=p0) (p1:=p1) (p2:=p2) (p3:=p3) (p4:=p4) l0 p j;rw[z9 v,g,Aan c,bX (by omega) w,bX (by omega) x,BQ]at this;exact this
  have h:∀b,szI p2=some b->E2 S [p0,p1,p2,p3,p4] (AdV (pnB p0)) (uT (Re EJ p1)) b=some (lN (match szI p2,pnB p0,Re EJ p1,U5 11 p3,U5 11 p4 with
    |some b,some o,some q,some i,some s=>if cB EJ (o,q,b,i,s)=S then some (o,q,b,i,s)else none
    |_,_,_,_,_=>none)):=by
   intro b c;rw[AfL _ _ (u b c),c];cases pnB p0<;>cases Re EJ p1<;>cases U5 11 p3<;>cases U5 11 p4<;>rfl
  by_cases g:p2=[]
  ·rw[Ae g,Ai,Aa];exact h [] (by unfold szI;rw[At g])
  ·have A:=(S3 32 j).1;have e:szI p2=NP (U5 11) (FQ 32 p2):=by unfold szI;rw[As g]
   rw[Ac g,BT,Ab,pk 32 (a:=32) rfl j,obs]
   rw[X4 (ws:=FQ 32 p2) (U5 11) ((([],[],[],0,0):Ur),false) (by unfold lim;omega) (λk t acc m B=>by
    rw[K9];rw[Bc t,Ab,AG t,obs,nn,obs,wrap_in (by omega)];cases U5 11 (FQ 32 p2)[k]with
    |none=>rfl
    |some y=>show cond (!true) _ _=_;rw[Ai,Aa,Aw (by simp only[Af];unfold lim;omega)];rfl) (λacc m=>by rw[K9];rw[A2];rfl),obs]
   cases c:NP (U5 11) (FQ 32 p2)with
   |some z=>have:=h z<|e.trans c;rw[e,c]at this;rw[e,c];exact this
   |none=>rw[e,c];rfl
 |[],_=>rfl
 |[_],_=>rfl
 |[_,_],_=>rfl
 |[_,_,_],_=>rfl
 |[_,_,_,_],_=>rfl
 |_::_::_::_::_::_::ws,_=>rw[show(((List.length (_::_::_::_::_::_::ws):Nat):Int)!=5)=true by simp only[Ar];rw[CY];omega];rfl
section
variable {d:List Tp}{q:K8}{c:Crt}
def lr(h:icB q c=true):Un q c.1=true∧V0 q c.2.1=true∧c.2.2.1.length=q.2.1.length∧(∀e∈c.2.2.1,0<=e∧e<=16)∧GY q=true:=by unfold icB at h;simp only[Ad,AY,BK]at h;have⟨a,b,l,f,_,g,_⟩:=h;refine⟨a,b,by omega,λe i=>?_,g⟩;obtain⟨k,j,rfl⟩:=Es i;have:=HA f j;simp only[CK]at this;exact H0.1 this
def Abj(h:icB q c=true):c.1.length<=5∧(∀v∈c.1,0<=v∧v<=4)∧c.2.1.length<=4∧(∀r∈c.2.1,I1 r=true)∧c.2.2.1.length<=4∧∀x∈c.2.2.1,0<=x∧x<=16:=by have⟨b,a,n,e,f⟩:=lr h;have⟨g1,g2,o,p⟩:=OC f;have⟨s,_,g,_⟩:=LD b;unfold V0 at a;simp only[Ad,AY,BK]at a;have⟨_,c2,i,_⟩:=a;refine⟨by omega,λv j=>by have:=g v j;omega,by omega,λr l=>?_,by omega,e⟩;obtain⟨k,m,rfl⟩:=Es l;have:=HA i m;simp only[CK]at this;unfold wOk at this;rw[Ad]at this;exact this.1
def zO(h:jq d q c=true):icB q c=true∧(mcB d q c.1).2=true∧(mcB d q c.1).1.2.2.1=c.2.2.1∧(mcB d q c.1).1.2.2.2.1=c.2.2.2.1∧(mcB d q c.1).1.2.2.2.2=c.2.2.2.2:=by
 unfold jq at h;simp only[Ad,BK]at h;have⟨f,g,a,i,j,b⟩:=h;have⟨p,r,k,l,m⟩:=lr a
 have n:(bcB q<|Yj d q).2=true:=by
  unfold bcB;rw[b,m,Ab,show((c.2.2.1.length:Int)!=(q.2.1.length:Int))=false from by rw[k];simp,Aa];have:(c.2.2.1.all λe=>FX e 0 16)=true:=Ap.2 λe o=>H0.2<|l e o
  rw[this];rfl
 unfold mcB;rw[f,g,n];exact⟨a,rfl,b,i,j⟩
end
def Aig(r:Rt):EJ r=I1 r:=by unfold EJ;rw[ST];rfl
def xH{q}{c:Crt}(h:icB q c=true)(a:c.2.2.2.1.natAbs < 100000000000)(b:c.2.2.2.2.natAbs < 100000000000):Xg EJ (cB EJ c)=some c:=by have⟨d,e,f,g,i,j⟩:=Abj h;exact qY EJ eN (c:=c) d f i e (λr k=>by rw[Aig];exact g r k) (λx l=>by have:=j x l;omega) a b
def CtD(x:Crt):Prop:=x.1.length<=5∧x.2.1.length<=5∧x.2.2.1.length<=5∧(∀e∈x.2.2.1,-1<=e∧e<=18)∧(-1<=x.2.2.2.1∧x.2.2.2.1<=2000000)∧0<=x.2.2.2.2∧x.2.2.2.2<=2000000000
def Afk:CtD ([],[],[],0,0):=⟨Dc _,Dc _,Dc _,λe a=>(by cases a),by decide,by decide⟩
def CtD.sm{x}(h:CtD x):smC x:=by have⟨c,d,f,a,g,i⟩:=h;unfold smC lim;exact⟨by omega,by omega,by omega,λe b=>by have:=a e b;omega,by omega,by omega⟩
def CtD.fit{x}(h:CtD x):i8 x:=by have⟨c,d,f,a,g,i⟩:=h;unfold i8 Y4;exact⟨by omega,by omega,by omega,λe b=>by have:=a e b;omega,by omega,by omega⟩
def Ahw{d q o}(g:T4 q)(h:o.length<=5):CtD (mcB d q o).1∧(mcB d q o).1.2.2.2.1<=1048576∧0<=(mcB d q o).1.2.2.2.1∧(mcB d q o).1.2.2.2.2<=1398100000:=by
 have⟨i,j,k⟩:=AdE (d:=d) (o:=o) g;have b:CtD (([],[],[],0,0):Crt)∧((0:Int)<=1048576)∧((0:Int)<=0)∧((0:Int)<=1398100000):=⟨Afk,by decide,by decide,by decide⟩;unfold mcB;cases(bV d q o).2.2 with
 |false=>exact b
 |true=>
  cases e:Ju d q with
  |false=>exact b
  |true=>
   cases(bcB q<|Yj d q).2 with
   |false=>exact b
   |true=>
    have⟨g1,g2,l⟩:=TZ e;simp only[Ab];refine⟨⟨h,AaD q _,BH (ka e) (by decide),λe c=>?_,?_,i,?_⟩,?_,?_,j⟩
    ·simp only at c;unfold Yj at c;obtain⟨a,f,rfl⟩:=Bq.1 c;have:=(mF (g2 a f).1 (g2 a f).2).2;omega
    ·simp only;omega
    ·simp only;omega
    ·omega
    ·omega
section
variable {c:Cur}
def zt(h:EU c){n:Int}(f:0 < n)(l:n<=1000000):Dr (B8 c n) λv=>0<=v∧v < n:=by
 by_cases g:n<=256
 ·exact DT h f g
 unfold B8;rw[Ac (by omega),Ac g];simp only[Aa];have⟨x,m,i,o,a⟩:=VY h;rw[i];simp only[G];have⟨y,c2,e2,p,b⟩:=VY a;rw[e2];simp only;have⟨z,q,j,r,d⟩:=VY b;rw[j];simp only;have⟨w,s,k,t,e⟩:=VY d;rw[k];simp only;rw[Aw (by omega),wrap_in (n:=x * 16777216) (by omega),wrap_in (n:=y * 65536) (by omega),wrap_in (n:=z * 256) (by omega),wrap_in (n:=x * 16777216+y * 65536) (by omega),wrap_in (n:=x * 16777216+y * 65536+z * 256) (by omega),wrap_in (by omega)];refine⟨_,_,rfl,?_,e⟩;rw[D6 (by omega)];exact⟨Int.emod_nonneg _ (by omega),Int.emod_lt_of_pos _ f⟩
def ze(h:EU c):Dr (UL c 3) λs=>s.length<=10:=by
 unfold UL;have⟨m,q,t,F,f⟩:=DT h (n:=4) (by omega) (by omega);rw[t];simp only[G];rw[wrap_in (n:=3+1) (by omega)];have⟨k,c2,e2,H,g⟩:=DT f (n:=3+1) (by omega) (by omega);rw[e2];simp only
 have⟨o,e,u,d⟩:=H9 (B:=JE (m,q)) (λs=>EU (s.1,s.2.1,s.2.2.1)∧(s.2.2.2.1.length:Int)+max 0 s.2.2.2.2<=10∧s.2.2.2.2<=10) (λs=>s.2.2.2.2.toNat) (λo=>EU (o.1,o.2.1,o.2.2.1)∧o.2.2.2.length<=10) (λs w=>by
  have⟨b,i,r,l,k⟩:=s;have⟨j,y,z⟩:=w;simp only at j y z;by_cases d:0 < k
  ·right;have⟨v,c',e,I,A⟩:=VY j
   have p:∃x:Int,∀a,JE (m,q) a (b,i,r,l,k)=a (c'.1,c'.2.1,c'.2.2,l++[IntKind.u8.wrap x],k - 1):=by
    have C:∀(x:Int) a,Oh a l k (v,c') x=a (c'.1,c'.2.1,c'.2.2,l++[IntKind.u8.wrap x],k - 1):=λx a=>by unfold Oh;rw[Aw (by unfold lim;simp only[Af];omega),wrap_in (by omega)]
    simp only[JE,Q3];rw[Ae d,e];simp only[Ab,G,C];cases m==1 with
    |true=>
     cases m==2 with
     |true=>exact⟨_,λrec=>rfl⟩
     |false=>exact⟨_,λrec=>rfl⟩
    |false=>
     cases m==2 with
     |true=>exact⟨_,λrec=>rfl⟩
     |false=>exact⟨_,λrec=>rfl⟩
   have⟨x,D⟩:=p;refine⟨(c'.1,c'.2.1,c'.2.2,l++[IntKind.u8.wrap x],k - 1),⟨A,?_,?_⟩,?_,D⟩
   ·simp only[Ak,Af];omega
   ·simp only;omega
   ·simp only;omega
  ·left;refine⟨(b,i,r,l),⟨j,by simp only;omega⟩,λrec=>?_⟩;simp only[JE];rw[Ac d];rfl) fz (c2.1,c2.2.1,c2.2.2,([]:zI),k) ⟨g,by simp only[Bw];omega,by simp only;omega⟩ (by unfold fz;simp only;omega)
 rw[e];exact⟨_,_,rfl,by show(bytesOf _).length<=10;rw[LH];exact d,u⟩
def yy(h:EU c):Dr (Wx c) λ_=>True:=by
 unfold Wx;have⟨x,m,g,_,b⟩:=DT h (n:=41) (by omega) (by omega);rw[g];simp only[G];have⟨y,c2,e2,_,d⟩:=DT b (n:=12) (by omega) (by omega);rw[e2];simp only;rw[bz];simp only;have⟨w,o,i,_,a⟩:=XY d (n:=12) (by omega) (by omega);rw[i];simp only;unfold R5;cases w with
 |false=>exact⟨_,_,rfl,trivial,a⟩
 |true=>simp only[Ab];have⟨u,p,j,_,e⟩:=Mb a (l:=[1000000000,-1000000000,999999937,1]) (by simp) (by simp);rw[j];simp only;have⟨v,q,k,_,f⟩:=Mb e (l:=[1,1000000000,999999893]) (by simp) (by simp);rw[k];simp only;rw[bz];exact⟨_,_,rfl,trivial,f⟩
def yx(h:EU c):Dr (Wv c) λ_=>True:=by
 unfold Wv;have⟨r,i,f,_,d⟩:=yy h;rw[f];simp only[G];have⟨w,c2,e2,_,a⟩:=DT d (n:=14) (by omega) (by omega);rw[e2];simp only;unfold Pj;cases w==0 with
 |true=>simp only[Ab];have⟨u,g,e,_,b⟩:=Mb a (l:=[0,-1,1000000001]) (by simp) (by simp);rw[e];exact⟨_,_,rfl,trivial,b⟩
 |false=>
  cases w==1 with
  |true=>simp only[Ab,Aa];have⟨u,g,e,_,b⟩:=Mb a (l:=[1000000001,-1000000001,wZ (2 * r.2)]) (by simp) (by simp);rw[e];exact⟨_,_,rfl,trivial,b⟩
  |false=>exact⟨_,_,rfl,trivial,a⟩
def AeG(h:EU c):Dr (PH c 1) λl=>l.length=1:=by
 unfold PH
 have⟨o,e,p,a⟩:=H9 (B:=MM 1) (λs=>EU (s.1,s.2.1,s.2.2.1)∧s.2.2.2.length<=1) (λs=>1 - s.2.2.2.length) (λo=>EU (o.1,o.2.1,o.2.2.1)∧o.2.2.2.length=1) (λs t=>by
  have⟨b,i,q,l⟩:=s;have⟨f,u⟩:=t;simp only at f u;by_cases a:(l.length:Int) < 1
  ·right;have⟨x,D,v,_,g⟩:=DT f (n:=4) (by omega) (by omega);have⟨y,c2,e2,_,j⟩:=Mb g (l:=[1,2,2,3]) (by simp) (by simp);refine⟨(c2.1,c2.2.1,c2.2.2,l++[(rNew x y).1]),⟨j,?_⟩,?_,λrec=>?_⟩
   ·simp only[Ak,Af];omega
   ·simp only[Ak,Af];omega
   ·simp only[MM];rw[Ae a,v];simp only[Ab,G];rw[e2];simp only;rw[bz];simp only;rw[Aw (by unfold lim;simp only[Af];omega)]
  ·left;refine⟨(b,i,q,l),⟨f,by simp only;omega⟩,λrec=>?_⟩;simp only[MM];rw[Ac a];rfl) fz (c.1,c.2.1,c.2.2,([]:List Rt)) ⟨h,by simp⟩ (by unfold fz;simp)
 rw[e];have⟨b,i,q,l⟩:=o;simp only at p a;simp only[G];rw[Ae (by omega:(0:Int) < (l.length:Int)),Ab];have⟨w,F,z,_,d⟩:=XY p (n:=12) (by omega) (by omega);rw[z];simp only;unfold MN MO;cases w with
 |false=>exact⟨_,_,rfl,a,d⟩
 |true=>simp only[Ab];have⟨r,H,A,_,m⟩:=yx d;have C:AF l 0=some (l[0]'(by omega)):=AG (k:=0) (by omega);rw[Aw (by omega),A];simp only[G,C];exact⟨_,_,rfl,by show(CL l 0 r).length=1;unfold CL;rw[Bd];exact a,m⟩
def yW{l v}(b:∀e∈l,-1<=e∧e<=18)(d: -1<=v∧v<=18):∀e∈CL l 0 v,-1<=e∧e<=18:=λe a=>by
 unfold CL at a;rcases CG a with h|h
 ·exact b e h
 ·rw[h];exact d
def sU(h:EU c):∃d q x c',Q6 c=some (d,q,x,c')∧Up d∧T4 q∧CtD x∧EU c':=by
 unfold Q6 Wt F1;have⟨d,q,c1,e1,hd,hq,hc1⟩:=both_ok h;rw[e1];simp only[G];have⟨o,c2,e2,ho,hc2⟩:=AdX hc1 q;rw[e2];simp only;rw[Aje hd.sm hq.sm (by unfold lim;omega)];simp only;have⟨⟨m1,m2,m3,m4,m5,m6⟩,n1,n2,n3⟩:=Ahw (d:=d) (o:=o) hq.sm ho;generalize(mcB d q o).1=x at m1 m2 m3 m4 m5 m6 n1 n2 n3;have⟨w,c3,e3,hw,hc3⟩:=DT hc2 (n:=8) (by omega) (by omega);rw[e3];simp only;cases w==0 with
 |true=>
  simp only[Ab];have⟨u,c4,e4,hu,hc4⟩:=Mb hc3 (l:=[1,50,-1]) (by simp) (by simp);have hu': -1<=u∧u<=50:=by simp at hu;omega
  rw[e4];refine⟨_,_,_,_,rfl,hd.sm,hq.sm,⟨m1,m2,m3,m4,?_,m6⟩,hc4⟩;simp only;rw[wrap_in (by omega)];omega
 |false=>
  cases w==1 with
  |true=>
   simp only[Ab,Aa];have⟨u,c4,e4,hu,hc4⟩:=Mb hc3 (l:=[1,5000]) (by simp) (by simp);have hu':1<=u∧u<=5000:=by simp at hu;omega
   rw[e4];refine⟨_,_,_,_,rfl,hd.sm,hq.sm,⟨m1,m2,m3,m4,m5,?_⟩,hc4⟩;simp only;rw[wrap_in (by omega)];omega
  |false=>
   cases w==2 with
   |true=>
    simp only[Ab,Aa];by_cases hp:0 < x.2.1.length
    ·rw[Ae (by omega:(0:Int) < (x.2.1.length:Int)),Ab,Aw hp];have⟨l,c4,e4,hl,hc4⟩:=AeG hc3;have g0:AF l 0=some (l[0]'(by omega)):=AG (k:=0) (by omega);have g1:AF x.2.1 0=some (x.2.1[0]'hp):=AG (k:=0) hp;rw[e4];simp only[G,g0,g1];exact⟨_,_,_,_,rfl,hd.sm,hq.sm,⟨m1,by simp only;unfold CL;rw[Bd];exact m2,m3,m4,m5,m6⟩,hc4⟩
    ·rw[Ac (by omega:¬(0:Int) < (x.2.1.length:Int)),Aa];exact⟨_,_,_,_,rfl,hd.sm,hq.sm,⟨m1,m2,m3,m4,m5,m6⟩,hc3⟩
   |false=>
    cases w==3 with
    |true=>
     simp only[Ab,Aa];by_cases hp:0 < x.2.2.1.length
     ·rw[Ae (by omega:(0:Int) < (x.2.2.1.length:Int)),Ab,Aw hp];have⟨v,c4,e4,hv,hc4⟩:=DT hc3 (n:=19) (by omega) (by omega);have g1:AF x.2.2.1 0=some (x.2.2.1[0]'hp):=AG (k:=0) hp;rw[e4];simp only[G,g1];refine⟨_,_,_,_,rfl,hd.sm,hq.sm,⟨m1,m2,by simp only;unfold CL;rw[Bd];exact m3,yW m4 ?_,m5,m6⟩,hc4⟩;rw[wrap_in (by omega)];omega
     ·rw[Ac (by omega:¬(0:Int) < (x.2.2.1.length:Int)),Aa];exact⟨_,_,_,_,rfl,hd.sm,hq.sm,⟨m1,m2,m3,m4,m5,m6⟩,hc3⟩
    |false=>exact⟨_,_,_,_,rfl,hd.sm,hq.sm,⟨m1,m2,m3,m4,m5,m6⟩,hc3⟩
def y5(l:zU)(a b:Int):(B5 l a b).length<=l.length:=by unfold B5;rw[Be,Av];omega
def wa(h:EU c){s:zU}(y:s.length<=10000):Dr (Tk c s) λr=>r.length<=30000:=by
 unfold Tk;have e:=λa b=>y5 s a b
 cases l:(s.length:Int)==0 with
 |true=>simp only[Ab];have⟨t,m,i,z,f⟩:=ze h;rw[i];exact⟨_,_,rfl,by simp only;omega,f⟩
 |false=>
  have l:¬(s.length:Int)=0:=by simpa using l
  simp only[Aa];have⟨k,m,i,o,f⟩:=zt h (n:=(s.length:Int)) (by omega) (by omega);rw[i];simp only[G];have⟨w,c2,e2,A,d⟩:=DT f (n:=4) (by omega) (by omega);rw[e2];simp only;rw[wrap_in (n:=k+1) (by omega)];have B:=e 0 k;have C:=e (k+1) (s.length:Int);have D:=e k (s.length:Int);cases w==0 with
  |true=>rw[Ab,Aw (by omega),Aw (by omega),Aw (by unfold lim;omega)];exact⟨_,_,rfl,by simp only[Ak];omega,d⟩
  |false=>
   rw[Aa];cases w==1 with
   |true=>have⟨v,p,j,q,g⟩:=VY d;rw[Ab,Aw (by omega),j];simp only;rw[Aw (by rw[LH];unfold lim;simp only[Af];omega),Aw (by omega),Aw (by rw[Ak,LH];unfold lim;simp only[Af];omega)];exact⟨_,_,rfl,by simp only[Ak,LH,Af];omega,g⟩
   |false=>
    rw[Aa];cases w==2 with
    |true=>rw[Ab,Aw (by omega)];exact⟨_,_,rfl,by simp only;omega,d⟩
    |false=>obtain⟨u,x⟩:∃u,AF s k=some u:=⟨_,by unfold AF;rw[At o.1,Ah (by omega)]⟩;have⟨v,p,j,q,g⟩:=DT d (n:=255) (by omega) (by omega);rw[Aa,Aw (by omega),x];simp only;rw[j];simp only;rw[Aw (by rw[LH];unfold lim;simp only[Af];omega),Aw (by omega),Aw (by rw[Ak,LH];unfold lim;simp only[Af];omega)];exact⟨_,_,rfl,by simp only[Ak,LH,Af];omega,g⟩
end
def oS{x}(h:CtD x):(cB EJ x).length<=1250:=by
 have⟨d,b,c,e,f,g⟩:=h;have i:=CtD.fit ⟨d,b,c,e,f,g⟩;have⟨_,_,_,j,k,l⟩:=i;unfold cB;split
 ·exact Dc _
 ·refine BH (VA [59] 250 _<|λw a=>?_) (by unfold P1;show 5 * 250<=1250;decide);unfold P1 at a;simp only[AA,F5,N8]at a;have m:=Tt x.1;have n:=jb b;have o:=dW c j;have p:=HB k;have q:=HB l;rcases a with rfl|rfl|rfl|rfl|rfl
  ·simp only[Ar,Ak,Bw];omega
  ·simp only[Af];omega
  ·simp only[Af];omega
  ·simp only[Af];omega
  ·simp only[Af];omega
def w9{b}(h:b.length<=1048576):∃d q x,G5 b=some (d,q,x)∧Up d∧T4 q∧CtD x:=by unfold G5;have⟨c,e,a⟩:=uK h;rw[e];simp only[G];have⟨d,q,x,k,f,g,i,j,_⟩:=sU a;rw[f];exact⟨d,q,x,rfl,g,i,j⟩
def xa{b}(h:b.length<=1048576):∃s,FK b=some s∧s.length<=1048576:=by
 unfold FK;have⟨c,e,k⟩:=uK h;rw[e];simp only[G];have⟨d,q,x,t,m,u,v,j,g⟩:=sU k;rw[m];simp only;have y:=oS j;rw[jW j.fit];simp only;have⟨w,c2,e2,z,a⟩:=DT g (n:=4) (by omega) (by omega);rw[e2];simp only;cases w==0 with
 |true=>simp only[Ab];have⟨r,o,i,f,_⟩:=wa a (s:=cB EJ x) (by omega);rw[i];have p:r.length<=30000:=f;exact⟨_,rfl,by show r.length<=1048576;omega⟩
 |false=>
  cases w==1 with
  |true=>simp only[Ab,Aa];have⟨r,o,i,f,_⟩:=cK a (l:=[[],[59,59,59,59],[40,41,59,59,59,48,59,48],[40,41,59,59,59,48,48,59,48],[40,88,41,59,49,47,49,59,59,48,59,48],[40,88,41,59,49,59,50,59,51],[40,88,41,59,49,59,50,59,51,59,52],[40,88,41,59,49,59,50,32,59,51,59,52]]) (by simp) (by simp);rw[i];refine⟨_,rfl,?_⟩;simp only[AA,F5,N8]at f;show r.length<=1048576;rcases f with rfl|rfl|rfl|rfl|rfl|rfl|rfl|rfl<;>decide
  |false=>exact⟨_,rfl,by omega⟩
open Go.RowKit Go.ChangeShapes Go.WideShapes Go.Deep
set_option maxRecDepth 100000
def Afb(x:zI):List V:=[dL G1 x]
section
variable {H:Type}{enc:TypeId×Value->H}{w:World}{base:Nat}{spare:Nat->Bool}{held:Bool}
def AhC(x:zI):Prop:=x.length<=maxLen∧∀a∈x,(0<=a∧a<=255)
def Ai5:Opens enc Tryz.prog w base spare held 22 Afb AhC:=u4 Tryz.underlying22 (by kernel_rfl) (Nat.le_of_ble_eq_true rfl) cr<|u5 Tryz.underlying5
end
end
section
def nY{a}(h:a.length<=lim):RV a a=some true:=by
 unfold RV;have e:((a.length:Int)!=(a.length:Int))=false:=by simp
 rw[e];simp only[Aa]
 have:=DQ (body:=L6 a a) (out:=(.inl ():Sum Unit Bool)) (λk=>(k:Int)) a.length (λk b c=>by
  unfold L6;rw[Bc b,AG b,Bm b (Ba h)];simp only[Ab,G];have:(a[k]!=a[k])=false:=by simp
  rw[this];rfl) (λrec=>by unfold L6;rw[A2];rfl) fz (EC h)
 have d:Aq (L6 a a) fz 0=some (.inl ()):=by simpa using this
 rw[d];rfl
def AhV{x}(h:smC x):IT x x=some true:=by have⟨a,b,c,_⟩:=h;unfold IT D2;rw[Xq a,W9,Aad b,Xq c,W9];simp[G]
def AfM{x}(h:smC x):IF x x=some true:=by have⟨a,b,c,_⟩:=h;unfold IF DZ;rw[nl a,zG b,nl c];simp[G]
def vp{S c}(b:S.length<=1048576)(h:Xg EJ S=some c):cB EJ c=S∧i8 c:=by
 rw[<-gc]at h;unfold mo at h;split at h
 ·rename_i p0 p1 p2 p3 p4 d;have a:=(S3 59 b).2;rw[d]at a;split at h
  ·rename_i e;injection h with h
   subst h;exact⟨e,tp (a p0<|by simp) (a p1<|by simp)<|a p2<|by simp⟩
  ·cases h
 ·cases h
def YO{b}(k:AhC b):Ly b=some true:=by
 by_cases A:1048576 < b.length
 ·unfold Ly ZH;rw[Ae (by omega:(1048576:Int) < (b.length:Int))];rfl
 have⟨d,q,x,e,j,h,a⟩:=w9 (b:=b) (by omega);have⟨s,e2,l⟩:=xa (b:=b) (by omega)
 have i:D9 b (d,q,x) false=some true:=by
  unfold D9;have B:=oS a;rw[Aa,jj a.fit];simp only[G];rw[AfP (by omega)];simp only;rw[e2];simp only;rw[AfP l,Ajg l,gc,jW a.fit];simp only[BP,Ab];rw[Ad9 h a.sm];simp only
  have c:cond (!(lN<|Xg EJ s).2) (Co true) (G (Ds (lN<|Xg EJ s).1) λv=>Co<|v==s)=some true:=by
   cases o:Xg EJ s with
   |none=>rfl
   |some y=>have⟨p,r⟩:=vp l o;show G (Ds y) (λv=>Co<|v==s)=some true;rw[jj r,p];show Co (s==s)=some true;rw[BP];rfl
  cases hi:icB q x with
  |false=>rw[BT,Ab];exact c
  |true=>have⟨_,_,_,_,m,n⟩:=a;have g:=xH hi (by omega) (by omega);rw[g,show lN (some x)=(x,true)from rfl];simp only[Ai,Aa,Ab];rw[AhV (CtD.sm ⟨by assumption,by assumption,by assumption,by assumption,m,n⟩),AfM (CtD.sm ⟨by assumption,by assumption,by assumption,by assumption,m,n⟩)];simp only[Ab];exact c
 have f:EP b (d,q,x) (jq d q x) false=some true:=by
  unfold EP;have t:=a.sm.1;rw[Aa,AiR j h t];simp only[G];cases hi:jq d q x with
  |false=>exact i
  |true=>have⟨g1,g2,u,w,z⟩:=zO hi;simp only[Ab];rw[g2,u,w,z,nY a.sm.2.2.1];simp only[Ai,Aa,Dq];exact i
 unfold Ly ZH;rw[Ac (by omega:¬(1048576:Int) < (b.length:Int))];simp only[G,Aa];rw[e];simp only;rw[AiP j h a.sm,Ajb j h a.sm];simp only[BP,Ai,Aa];rw[AfN h a.sm,Ad9 h a.sm];simp only[BP,Ai,Aa];cases hi:jq d q x with
 |false=>rw[Aa];rw[hi]at f;exact f
 |true=>rw[(zO hi).1,Ab,Ai];rw[hi]at f;exact f
end
end Go.Proofs.YtpnoalhfjnjeaaaGreatDoor
