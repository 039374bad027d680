/- Parents that form a tree: two ways to say it. Plain lists; no conditions. -/
import Derived.Test.YtdnlfoelbfcmnaaGreatDoorQuRP1
open Go.RowKit
set_option linter.all false
namespace Go.Proofs.YtdnlfoelbfcmnaaGreatDoor
def J0{α:Type}{l:List α}{f:Nat->α->Bool}(h:∀i (hi:i < l.length),f i l[i]=false):Bt l f=false:=by unfold Bt;rw[Cz];intro k a;have a:=AB.1 a;rw[BV a,h k a];simp
def X1(f:Int->Bool)(l:zI)(k:Nat):zN:=(List.range k).filter λi=>Hg l i f
def AbI(f:Int->Bool)(l:zI)(k:Nat):X1 f l (k+1)=X1 f l k++(if Hg l k f=true then [k]else []):=by unfold X1;rw[Fb,CA,Gn,EE]
def Su{f l k i}:i∈X1 f l k↔i < k∧Hg l i f=true:=by unfold X1;rw[Bj,AB]
def wi{l:zN}{r:Nat}(c:l.Nodup)(d:r∈l)(h:∀i∈l,i=r):l=[r]:=by
 cases l with
 |nil=>cases d
 |cons a l=>
  have e:=h a (by simp);subst e;cases l with
  |nil=>rfl
  |cons b l=>have f:=h b (by simp);subst f;rw[BF]at c;exact absurd (by simp) c.1
def cN{f l n r}:X1 f l n=[r]↔(r < n∧Hg l r f=true)∧∀i,i < n->Hg l i f=true->i=r:=by
 constructor
 ·intro h;refine⟨Su.1 (by rw[h];simp),λi hi a=>?_⟩;have:=Su.2 ⟨hi,a⟩;rw[h]at this;simpa using this
 ·rintro⟨b,c⟩;refine wi ?_ (Su.2 b)<|λi hi=>c i (Su.1 hi).1 (Su.1 hi).2
  exact H7 E7 Ed
def LA(p:zI):Int:=match X1 (λx=>x== -1) p p.length with
 |[r]=>(r:Int)
 |_=> -1
def VF(p:zI)(a:Int):Int:=(p[a.toNat]?).getD (-1)
def inP(p:zI)(a:Int):Bool:=Hv a (-1)<|(p.length:Int) - 1
def fS(p:zI):Nat->Int->Option Int
 |0,a=>some a
 |m+1,a=>if 0<=a then(if inP p (VF p a)=true then fS p m (VF p a)else none)else some a
def endsB(p:zI)(i:Nat):Bool:=match fS p (p.length+1) i with
 |some a=>decide (a < 0)
 |none=>false
def UT(p:zI):Bool:=(!Bt p λi x=> !inP p x || !endsB p i)&&(((X1 (λx=>decide (x < 0)) p p.length).length:Int)==1)
def Er(p:zI):Nat->Int->zI
 |0,_=>[]
 |m+1,a=>if 0<=a∧a < (p.length:Int)then a::Er p m (VF p a)else []
def Qe(p:zI)(i:Nat):Bool:=decide ((Er p (p.length+1) i).length<=p.length)&&((Er p (p.length+1) i).getLast?==some (LA p))
def T5(p:zI):Bool:=decide (0<=LA p)&& !Bt p λi _=> !Qe p i
def goUp(p:zI):Nat->Int->Int
 |0,a=>a
 |m+1,a=>if 0<=a then goUp p m (VF p a)else a
def uW{p a}(h:a < 0):∀m,goUp p m a=a
 |0=>rfl
 |m+1=>by rw[goUp,Ay (by omega)]
def ao{p}:∀{m:Nat}{a:Int},goUp p m a < 0->goUp p (m+1) a < 0
 |0,a,h=>by rw[uW (show a < 0 from h)];exact h
 |m+1,a,h=>by
  rw[goUp]at h⊢;split
  ·rename_i b;rw[Aw b]at h;exact ao h
  ·rename_i b;rw[Ay b]at h;exact h
def wide(p:zI):Prop:=∀(i:Nat) (h:i < p.length),-1<=p[i]∧p[i]<=(p.length:Int) - 1
def cW{p}(c:wide p){a:Int}(d:0<=a)(e:a < (p.length:Int)): -1<=VF p a∧VF p a < (p.length:Int):=by
 have b:a.toNat < p.length:=by omega
 have:=c a.toNat b;unfold VF;rw[Ae b];simp only[B8];omega
def li{p}(b:wide p):∀(m:Nat) {a:Int},a < (p.length:Int)->fS p m a=some (goUp p m a)
 |0,a,_=>rfl
 |m+1,a,h=>by
  rw[fS,goUp];split
  ·rename_i c;have:=cW b c h;rw[Aw (by unfold inP Hv;simp;omega)];exact li b m this.2
  ·rfl
def iP{p}(d:wide p):∀(m:Nat) {a:Int},0<=a->a < (p.length:Int)->goUp p m a < 0->∃l,(Er p m a).getLast?=some l∧0<=l∧l < (p.length:Int)∧VF p l < 0
 |0,a,b,_,h=>absurd (show a < 0 from h) (by omega)
 |m+1,a,b,c,h=>by
  rw[goUp,Aw b]at h;have f:=cW d b c;rw[Er,Aw ⟨b,c⟩];by_cases g:VF p a < 0
  ·refine⟨a,?_,b,c,g⟩;have:Er p m (VF p a)=[]:=by cases m<;>simp[Er];omega
   rw[this];rfl
  ·have⟨l,e,q⟩:=iP d m (by omega) f.2 h;refine⟨l,?_,q⟩;rw[List.getLast?_cons,e];rfl
def ra{p}:∀(m:Nat) {a x:Int},x∈Er p m a->0<=x∧x < (p.length:Int)
 |0,_,_,h=>by cases h
 |m+1,a,x,h=>by
  rw[Er]at h;split at h
  ·rename_i b;rcases AE.1 h with rfl|h
   ·exact b
   ·exact ra m h
  ·cases h
def iO{p}:∀(m:Nat) {a x:Int}{j:Nat},x∈Er p m a->goUp p j a < 0->goUp p j x < 0
 |0,_,_,_,h,_=>by cases h
 |m+1,a,x,j,h,b=>by
  rw[Er]at h;split at h
  ·rename_i c;rcases AE.1 h with rfl|h
   ·exact b
   ·cases j with
    |zero=>exact absurd (show a < 0 from b) (by omega)
    |succ j=>rw[goUp,Aw c.1]at b;exact ao<|iO m h b
  ·cases h
def iw{p a}:∀j,goUp p j a < 0->∃k,goUp p k a < 0∧∀i,i < k->¬goUp p i a < 0
 |0,h=>⟨0,h,λi hi=>absurd hi<|by omega⟩
 |j+1,h=>by
  by_cases h':goUp p j a < 0
  ·exact iw j h'
  ·refine⟨j+1,h,λi hi b=>h' ?_⟩
   have:∀d,i+d<=j->goUp p (i+d) a < 0:=by
    intro d;induction d with
    |zero=>intro _;exact b
    |succ d c=>intro e;exact ao<|c<|by omega
   have:=this (j - i) (by omega)
   rwa [show i+(j - i)=j by omega]at this
def ff{p}:∀(m:Nat) {a:Int}{j:Nat},goUp p j a < 0->(Er p m a).Nodup
 |0,_,_,_=>AP
 |m+1,a,j,h=>by
  rw[Er];split
  ·rename_i hc;have⟨k,h1,h2⟩:=iw j h;cases k with
   |zero=>exact absurd (show a < 0 from h1) (by omega)
   |succ k=>have h3:=h1;rw[goUp,Aw hc.1]at h3;refine BF.2 ⟨λhm=>?_,ff m h3⟩;exact h2 k (by omega)<|iO m hm h3
  ·exact AP
def fg{p}(b:wide p):∀(m:Nat) {a:Int},a < (p.length:Int)->(Er p m a).length < m->goUp p m a < 0
 |0,_,_,h=>absurd h (by omega)
 |m+1,a,c,h=>by
  rw[goUp];split
  ·rename_i d;rw[Er,Aw ⟨d,c⟩,AD]at h;exact fg b m (cW b d c).2 (by omega)
  ·omega
def nj{p}(h:0<=LA p):∃r:Nat,LA p=(r:Int)∧X1 (λx=>x== -1) p p.length=[r]:=by
 unfold LA at *;split at h
 ·rename_i r e;exact⟨r,rfl,e⟩
 ·omega
def wO{p}(a:wide p):X1 (λx=>decide (x < 0)) p p.length=X1 (λx=>x== -1) p p.length:=by
 unfold X1;refine IX λi hi=>?_
 have hi:=AB.1 hi;rw[BV hi,BV hi,BX];have:=a i hi;simp;omega
def lj{p}(h:∀i (hi:i < p.length),inP p p[i]=true):wide p:=λi hi=>by have:=h i hi;unfold inP Hv at this;simp only[Aa,Bf]at this;exact this
def VE(p:zI):UT p=T5 p:=by
 rw[BX];constructor
 ·intro h;unfold UT at h;simp only[Aa,AH,BG]at h;have⟨q,s⟩:=h;have d:∀i (hi:i < p.length),inP p p[i]=true∧endsB p i=true:=λi hi=>by have:=FJ q hi;simpa using this
  have b:=lj λi hi=>(d i hi).1
  have e:∀i,i < p.length->goUp p (p.length+1) i < 0:=λi hi=>by have:=(d i hi).2;unfold endsB at this;rw[li b _ (by omega)]at this;simpa using this
  rw[wO b]at s;obtain⟨r,f⟩:∃r,X1 (λx=>x== -1) p p.length=[r]:=List.length_eq_one_iff.1 (by omega);have c:LA p=(r:Int):=by unfold LA;rw[f]
  have t:=cN.1 f;unfold T5;simp only[Aa,Bf,AH];refine⟨by omega,J0 λi hi=>?_⟩;have g:=e i hi;have⟨l,v,z,A,u⟩:=iP b (p.length+1) (a:=i) (by omega) (by omega) g;have j:=few p.length (Er p (p.length+1) i) (ff _ g)<|λx w=>ra _ w
  have k:l=LA p:=by
   have o:l.toNat < p.length:=by omega
   have:=t.2 l.toNat o (by rw[BV o];unfold VF at u;rw[Ae o]at u;simp only[B8]at u;have:=b l.toNat o;simp;omega);omega
  unfold Qe;rw[v,k];simp;exact j
 ·intro h;unfold T5 at h;simp only[Aa,Bf,AH]at h;have⟨q,s⟩:=h;have⟨r,c,f⟩:=nj q;have t:=cN.1 f;have g:∀i,i < p.length->(Er p (p.length+1) i).length<=p.length∧(Er p (p.length+1) i).getLast?=some (LA p):=λi hi=>by have:=FJ s hi;unfold Qe at this;simpa using this
  have n:∀i (hi:i < p.length),inP p p[i]=true:=λi hi=>by
   unfold inP Hv;simp only[Aa,Bf];have k:=(g i hi).2;rw[Er,Aw (by omega)]at k;have y:VF p i=p[i]:=by unfold VF;rw[Aq,Ae hi];rfl
   by_cases B:0<=p[i]∧p[i] < (p.length:Int)
   ·omega
   ·have:Er p p.length (VF p i)=[]:=by
     rw[y];cases C:p.length with
     |zero=>rfl
     |succ m=>rw[Er,Ay (by omega)]
    rw[this]at k;simp only[List.getLast?_singleton,Ar]at k;have:i=r:=by omega
    subst this;have:=t.1.2;rw[BV hi]at this;have:p[i]= -1:=by simpa using this
    omega
  have b:=lj n;unfold UT;simp only[Aa,AH,BG];refine⟨J0 λi hi=>?_,by rw[wO b,f];rfl⟩;rw[n i hi];have:=fg b (p.length+1) (a:=i) (by omega) (by have:=(g i hi).1;omega);unfold endsB;rw[li b _ (by omega)];simpa using this
def kg{α:Type}[DecidableEq α]:∀{l m:List α},l.Nodup->(∀x∈l,x∈m)->l.length<=m.length
 |[],m,_,_=>Cd _
 |x::l,m,h,a=>by
  have⟨d,e⟩:=BF.1 h;have b:=a x BH;have:=kg (m:=m.erase x) e λy c=>(List.mem_erase_of_ne<|by rintro rfl;exact d c).2<|a y<|A3 _ c
  have f:=List.length_erase_of_mem b;have g:=List.length_pos_of_mem b;rw[AD];omega
def jR{α β:Type}{f g:α->List β}:∀{l:List α},(∀x∈l,f x=g x)->l.flatMap f=l.flatMap g
 |[],_=>rfl
 |x::l,h=>by rw[Ax,Ax,h x BH,jR λy a=>h y (A3 _ a)]
def l6{α:Type}:∀l:List α,(l.flatMap λp=>[p])=l
 |[]=>rfl
 |x::l=>by rw[Ax,l6 l];rfl
def bp{β:Type}{f:Nat->List β}{c0:Nat}:∀{l:zN},c0∈l->l.Nodup->(∀c∈l,c≠c0->f c=[])->l.flatMap f=f c0
 |[],h,_,_=>by cases h
 |x::l,h,hn,h0=>by
  obtain⟨h1,h2⟩:=BF.1 hn;rw[Ax];by_cases e:x=c0
  ·subst e;rw[jR (g:=λ_=>[]) λy hy=>h0 y (A3 _ hy) λe=>h1 (e ▸ hy)];simp
  ·rw[h0 x BH e,BI];exact bp ((AE.1 h).resolve_left λe'=>e e'.symm) h2 λy hy=>h0 y<|A3 _ hy
def Af5{p:Nat->Bool}{x:Nat}{pre a c:zN}(g:(pre++x::a).Nodup)(b:(pre++x::a).filter p=c++[x])(h:p x=true):pre.filter p=c∧a.filter p=[]:=by
 rw[CA,JW h]at b;rcases List.eq_nil_or_concat (a.filter p)with e|⟨C,y,e⟩
 ·rw[e]at b;exact⟨(List.append_inj' b rfl).1,e⟩
 ·exfalso;rw[e,show pre.filter p++x::C.concat y=(pre.filter p++x::C)++[y]by simp]at b;have d:=(List.append_inj' b rfl).2;have f:y∈a:=(Bj.1<|show y∈a.filter p by rw[e];simp).1;rw[Ds]at d;rw[d.1]at f;have:=(AA.1 g).2.1;exact(BF.1 this).1 f
structure TrN (n r:Nat) (up:Nat->Option Nat) (K:Nat->zN) (D:Nat->Nat):Prop where
 rn:r < n
 root:up r=none
 upD:∀i,i < n->i≠r->∃j,up i=some j∧j < n∧D i=D j+1
 kid:∀i c,c∈K i↔c < n∧up c=some i
 knd:∀i,(K i).Nodup
 dn:∀i,i < n->D i < n
inductive SbT (up:Nat->Option Nat) (c:Nat):Nat->Prop
 |self:SbT up c c
 |up {x j:Nat}:up x=some j->SbT up c j->SbT up c x
def Jx(K:Nat->zN):Nat->Nat->zN
 |0,_=>[]
 |m+1,k=>(K k).flatMap (Jx K m)++[k]
def gX(a:Nat->Option Nat)(x y:Nat):Bool:=(a y==some x) || (y==x)
def uX(a:Nat->Option Nat)(x y:Nat):Bool:=a y==some x
section
variable {n r:Nat}{up:Nat->Option Nat}{K:Nat->zN}{D:Nat->Nat}
def Aao{c k x}(a:SbT up c x)(e:up c=some k):SbT up k x:=by
 induction a with
 |self=>exact .up e .self
 |up b _ d=>exact .up b d
variable (h:TrN n r up K D)
include h
def QL{i c}(f:c∈K i):c < n∧i < n∧D c=D i+1:=by
 have⟨d,a⟩:=(h.kid i c).1 f;have b:c≠r:=λe=>by subst e;rw[h.root]at a;cases a
 have⟨j,e,g,k⟩:=h.upD c d b;rw[a]at e;cases e;exact⟨d,g,k⟩
def ZI{x j}(a:x < n)(e:up x=some j):j < n∧D x=D j+1:=by have:=QL h<|(h.kid j x).2 ⟨a,e⟩;exact⟨this.2.1,this.2.2⟩
def AfZ{c x}(hs:SbT up c x):x < n->D c<=D x∧c < n:=by
 induction hs with
 |self=>exactλhx=>⟨AJ _,hx⟩
 |up e _ ih=>intro hx;have a:=ZI h hx e;have b:=ih a.1;exact⟨by omega,b.2⟩
def w8{c c' x}(d:SbT up c x):x < n->SbT up c' x->D c=D c'->c=c':=by
 induction d with
 |self=>
  intro f g j;cases g with
  |self=>rfl
  |up e i=>have a:=ZI h f e;have b:=AfZ h i a.1;omega
 |up e d l=>
  intro f g j;have a:=ZI h f e;cases g with
  |self=>have b:=AfZ h d a.1;omega
  |up k i=>rw[e]at k;cases k;exact l a.1 i j
def np{k x}(a:SbT up k x):x < n->x=k∨∃c,c∈K k∧SbT up c x:=by
 induction a with
 |self=>exactλ_=>.inl rfl
 | @up x j e a d=>
  intro b;rcases d (ZI h b e).1 with rfl|⟨c,f,g⟩
  ·exact .inr ⟨x,(h.kid _ _).2 ⟨b,e⟩,.self⟩
  ·exact .inr ⟨c,f,.up e g⟩
def Aap:∀d x,D x<=d->x < n->SbT up r x:=by
 intro d;induction d with
 |zero=>
  intro x b a;by_cases e:x=r
  ·subst e;exact .self
  ·have⟨j,_,_,c⟩:=h.upD x a e;omega
 |succ d f=>
  intro x b a;by_cases e:x=r
  ·subst e;exact .self
  ·have⟨j,g,i,c⟩:=h.upD x a e;exact .up g<|f j (by omega) i
def wD:∀m k,k < n->n<=m+D k->(∀x,x∈Jx K m k↔x < n∧SbT up k x)∧(Jx K m k).Nodup∧∀x∈Jx K m k,(Jx K m k).filter (gX up x)=K x++[x]
 |0,k,I,S=>by have:=h.dn k I;omega
 |m+1,k,I,S=>by
  have i:∀c∈K k,(∀x,x∈Jx K m c↔x < n∧SbT up c x)∧(Jx K m c).Nodup∧∀x∈Jx K m c,(Jx K m c).filter (gX up x)=K x++[x]:=λc d=>by have a:=QL h d;exact wD m c a.1 (by omega)
  have A:∀c∈K k,∀c'∈K k,∀x,x < n->SbT up c x->SbT up c' x->c=c':=λc d c' B x f s1 s2=>by have a:=QL h d;have b:=QL h B;exact w8 h s1 f s2 (by omega)
  have t:∀c∈K k,∀x,x < n->SbT up c x->D k < D x:=λc d x f s=>by have a:=QL h d;have b:=AfZ h s f;omega
  have p:∀x,x∈Jx K (m+1) k↔x < n∧SbT up k x:=λx=>by
   rw[Jx,Ak,BU,AC];constructor
   ·rintro(⟨c,d,f⟩|rfl)
    ·have⟨u,w⟩:=((i c d).1 x).1 f;exact⟨u,Aao w ((h.kid k c).1 d).2⟩
    ·exact⟨I,.self⟩
   ·rintro⟨u,w⟩;rcases np h w u with rfl|⟨c,d,C⟩
    ·exact .inr rfl
    ·exact .inl ⟨c,d,((i c d).1 x).2 ⟨u,C⟩⟩
  have J:(Jx K (m+1) k).Nodup:=by
   rw[Jx,AA];refine⟨?_,by simp,?_⟩
   ·unfold List.Nodup;rw[Ix];refine⟨λc d=>(i c d).2.1,(h.knd k).imp_of_mem λ{c c'} u w v x f y q e=>?_⟩;subst e;have⟨a1,o⟩:=((i c u).1 x).1 f;exact v<|A c u c' w x a1 o (((i c' w).1 x).1 q).2
   ·intro x f y q e;rw[AC]at q;subst q;subst e;have⟨c,d,f⟩:=BU.1 f;have⟨a1,o⟩:=((i c d).1 x).1 f;have:=t c d x a1 o;omega
  refine⟨p,J,λx f=>?_⟩;have j:=(p x).1 f;rw[Jx,CA,List.filter_flatMap];by_cases e:x=k
  ·subst e;have T:[x].filter (gX up x)=[x]:=by rw[JW (by unfold gX;simp)];rfl
   rw[T];congr 1;rw[jR (g:=λc=>[c]) λc d=>?_,l6];have L:c∈Jx K m c:=((i c d).1 c).2 ⟨(QL h d).1,.self⟩;refine wi ((i c d).2.1.sublist E7) (Bj.2 ⟨L,by unfold gX;rw[((h.kid x c).1 d).2];simp⟩) λy q=>?_
   have⟨U,F⟩:=Bj.1 q;have⟨a1,o⟩:=((i c d).1 y).1 U;unfold gX at F;rw[Ck,BG,BG]at F;rcases F with F|rfl
   ·have M:=(h.kid x y).2 ⟨a1,F⟩;have:=QL h M;have B:=QL h d;exact(w8 h o a1 .self<|by omega).symm
   ·have:=t c d y a1 o;omega
  ·rcases np h j.2 j.1 with W|⟨H,l,C⟩
   ·exact absurd W e
   ·have N:x∈Jx K m H:=((i H l).1 x).2 ⟨j.1,C⟩;have X:D k < D x:=t H l x j.1 C;rw[bp l (h.knd k) λc d v=>?_,(i H l).2.2 x N]
    ·rw[show [k].filter (gX up x)=[]from FO (by
      unfold gX;rw[Ck,BG,BG];rintro(O|O)
      ·have:=ZI h I O;omega
      ·exact e O.symm),AR]
    ·rw[List.filter_eq_nil_iff];intro y q z;have⟨a1,o⟩:=((i c d).1 y).1 q;unfold gX at z;rw[Ck,BG,BG]at z
     have P:SbT up c x:=by
      rcases z with z|rfl
      ·cases o with
       |self=>have Q:=((h.kid k c).1 d).2;rw[z]at Q;cases Q;omega
       |up R Y=>rw[z]at R;cases R;exact Y
      ·exact o
     exact v<|A c d H l x j.1 P C
def NB{m}(hm:n<=m):(∀x,x∈Jx K m r↔x < n)∧(Jx K m r).Nodup∧(∀k (hk:k < (Jx K m r).length),((Jx K m r).take k).filter (uX up (Jx K m r)[k])=K (Jx K m r)[k])∧∀x,x < n->(Jx K m r).filter (uX up x)=K x:=by
 have⟨h1,h2,h3⟩:=wD h m r h.rn (by omega);have hmem:∀x,x∈Jx K m r↔x < n:=λx=>by rw[h1 x];exact⟨λa=>a.1,λa=>⟨a,Aap h (D x) x (AJ _) a⟩⟩
 have hu:∀{x:Nat}{l:zN},x∉l->l.filter (uX up x)=l.filter (gX up x):=λ{x l} hx=>by
  refine IX λy hy=>?_
  unfold uX gX;rw[show(y==x)=false from Cg.2 λe=>hx (e ▸ hy),FC]
 have hg:∀x,gX up x x=true:=λx=>by unfold gX;simp
 have key:∀(k:Nat) (hk:k < (Jx K m r).length),((Jx K m r).take k).filter (gX up (Jx K m r)[k])=K (Jx K m r)[k]∧((Jx K m r).drop<|k+1).filter (gX up (Jx K m r)[k])=[]:=λk hk=>by
  have e:Jx K m r=(Jx K m r).take k++(Jx K m r)[k]::(Jx K m r).drop (k+1):=by rw[KL,Bv]
  refine Af5 (x:=(Jx K m r)[k]) (by rw[<-e];exact h2) (by rw[<-e];exact h3 _<|Ad hk)<|hg _
 have hnot:∀(k:Nat) (hk:k < (Jx K m r).length),(Jx K m r)[k]∉(Jx K m r).take k∧(Jx K m r)[k]∉(Jx K m r).drop (k+1):=λk hk=>by
  have e:Jx K m r=(Jx K m r).take k++(Jx K m r)[k]::(Jx K m r).drop (k+1):=by rw[KL,Bv]
  have:=h2;rw[e,AA]at this;exact⟨λhx=>this.2.2 _ hx _ BH rfl,(BF.1 this.2.1).1⟩
 refine⟨hmem,h2,λk hk=>?_,λx hx=>?_⟩
 ·rw[hu (hnot k hk).1];exact(key k hk).1
 ·obtain⟨k,hk,rfl⟩:=AY.1 ((hmem x).2 hx);have e:Jx K m r=(Jx K m r).take k++(Jx K m r)[k]::(Jx K m r).drop (k+1):=by rw[KL,Bv]
  generalize ho:(Jx K m r)[k]=x at *;rw[e,CA,hu (ho ▸ (hnot k hk).1),show((Jx K m r).take k).filter (gX up x)=K x from ho ▸ (key k hk).1,FO (by unfold uX;rw[BG];intro e3;have:=ZI h hx e3;omega),hu (ho ▸ (hnot k hk).2),show((Jx K m r).drop (k+1)).filter (gX up x)=[]from ho ▸ (key k hk).2,AR]
def Ajs{m}(f:n<=m){k:Nat}(g:k < (Jx K m r).length){j:Nat}(a:up (Jx K m r)[k]=some j):∃i,∃hi:i < (Jx K m r).length,k < i∧(Jx K m r)[i]=j:=by
 have⟨b,l,o,q⟩:=NB h f;have c:=(b _).1<|Ad g;have⟨i,hi,e⟩:=AY.1<|(b j).2 (ZI h c a).1;refine⟨i,hi,?_,e⟩;have d:(Jx K m r)[k]∈K (Jx K m r)[i]:=by rw[e];exact(h.kid j _).2 ⟨c,a⟩
 rw[<-o i hi]at d;have⟨t,s,p⟩:=Fa.1 (Bj.1 d).1;have:=(DP l).1 p;omega
structure BfI (n r:Nat) (K:Nat->zN) (O:zN) (k:Nat):Prop where
 nd:O.Nodup
 lt:∀x∈O,x < n
 rt:r∈O
 src:∀x∈O,x=r∨∃j,∃hj:j < O.length,j < k∧x∈K O[j]
 dst:∀j (hj:j < O.length),j < k->∀c∈K O[j],∃i,∃hi:i < O.length,j < i∧O[i]=c
def Ake:BfI n r K [r] 0:=⟨by simp,λx a=>by rw[AC.1 a];exact h.rn,by simp,λx a=>.inl<|AC.1 a,λj _ b=>by omega⟩
def Akf{O k}(b:BfI n r K O k)(o:k < O.length):BfI n r K (O++K O[k]) (k+1):=by
 refine⟨AA.2 ⟨b.nd,h.knd _,λx a y s e=>?_⟩,λx a=>?_,AF _ b.rt,λx a=>?_,λj m d c g=>?_⟩
 ·subst e;have l:=((h.kid _ _).1 s).2;rcases b.src x a with rfl|⟨j,m,d,p⟩
  ·rw[h.root]at l;cases l
  ·have q:=((h.kid _ _).1 p).2;rw[l,Ar]at q;have:=(DP b.nd).1 q;omega
 ·rcases Ak.1 a with a|a
  ·exact b.lt x a
  ·exact(QL h a).1
 ·rcases Ak.1 a with a|a
  ·rcases b.src x a with e|⟨j,m,d,p⟩
   ·exact .inl e
   ·exact .inr ⟨j,by rw[Au];omega,by omega,by rwa [Dn m]⟩
  ·exact .inr ⟨k,by rw[Au];omega,by omega,by rwa [Dn o]⟩
 ·by_cases e:j=k
  ·subst e;rw[Dn o]at g;have⟨t,v,e⟩:=AY.1 g;exact⟨O.length+t,by rw[Au];omega,by omega,by rw[E9 (by omega)];simpa using e⟩
  ·have f:j < O.length:=by omega
   rw[Dn f]at g;have⟨i,hi,u,l⟩:=b.dst j f (by omega) c g;exact⟨i,by rw[Au];omega,u,by rwa [Dn hi]⟩
omit h in
def Ya{O k}(b:BfI n r K O k):O.length<=n:=by
 have:=kg (m:=List.range n) b.nd λx a=>AB.2<|b.lt x a
 rwa [C9]at this
def jq{O}(b:BfI n r K O O.length)(x:Nat):x∈O↔x < n:=by
 refine⟨b.lt x,λhx=>?_⟩
 have:∀d x,D x<=d->x < n->x∈O:=by
  intro d;induction d with
  |zero=>
   intro x hd hx;by_cases e:x=r
   ·subst e;exact b.rt
   ·have⟨j,_,_,h3⟩:=h.upD x hx e;omega
  |succ d ih=>
   intro x hd hx;by_cases e:x=r
   ·subst e;exact b.rt
   ·have⟨j,h1,h2,h3⟩:=h.upD x hx e;obtain⟨t,ht,rfl⟩:=AY.1<|ih j (by omega) h2;have⟨i,hi,_,h5⟩:=b.dst t ht ht x<|(h.kid _ x).2 ⟨hx,h1⟩;exact h5 ▸ Ad hi
 exact this _ x (AJ _) hx
omit h in
def Acn{O}(b:BfI n r K O O.length){j:Nat}(a:j < O.length){c:Nat}(d:c∈K O[j]):∃i,∃hi:i < O.length,j < i∧O[i]=c:=b.dst j a a c d
def Ag4{O:zN}(b:BfI n r K O O.length){j:Nat}(d:j < O.length){x:Nat}(a:up O[j]=some x):∃i,∃hi:i < O.length,i < j∧O[i]=x:=by have c:=b.lt _<|Ad d;obtain⟨i,hi,e⟩:=AY.1<|(jq h b x).2 (ZI h c a).1;obtain⟨t,g,k,f⟩:=b.dst i hi hi _ (by rw[e];exact(h.kid x _).2 ⟨c,a⟩);have:=(DP b.nd).1 f;exact⟨i,hi,by omega,e⟩
end
def QH{α:Type}(f:Nat->α)(i:Nat)(v:α):Nat->α:=λj=>if j=i then v else f j
def NN{α:Type}(K:Nat->zN)(op:α->α->α)(B:Nat->α):Nat->Nat->α
 |0,k=>B k
 |m+1,k=>((K k).map<|NN K op B m).foldl op<|B k
def TT{α:Type}(a:Nat->Option Nat)(op:α->α->α)(S:Nat->α):Nat->Nat->α
 |0,k=>S k
 |m+1,k=>match a k with
  |none=>S k
  |some j=>op (S k)<|TT a op S m j
def gE{α:Type}(a:Nat->Option Nat)(op:α->α->α)(B N:Nat->α)(pre:zN)(i:Nat):α:=((pre.filter<|uX a i).map N).foldl op<|B i
section
variable {α:Type}{n r:Nat}{up:Nat->Option Nat}{K:Nat->zN}{D:Nat->Nat}{op:α->α->α}{B:Nat->α}
def yx{N pre x j}(e:up x=some j):gE up op B N (pre++[x])=QH (gE up op B N pre) j (op (gE up op B N pre j)<|N x):=by
 funext i;unfold gE QH;rw[CA];by_cases hi:i=j
 ·subst hi;rw[Aw rfl,JW (by unfold uX;rw[e];simp),EE,Bd,Dy];rfl
 ·rw[Ay hi,FO (by unfold uX;rw[e,BG,Ar];exactλe=>hi e.symm),EE,AR]
variable (h:TrN n r up K D)
include h
def AaU:∀a b k,k < n->n<=a+D k->n<=b+D k->NN K op B a k=NN K op B b k
 |0,_,k,d,e,_=>by have:=h.dn k d;omega
 |_+1,0,k,d,_,f=>by have:=h.dn k d;omega
 |a+1,b+1,k,d,e,f=>by
  rw[NN,NN];congr 1;refine Cf λc g=>?_
  have:=QL h g;exact AaU a b c this.1 (by omega) (by omega)
def UZ{k}(b:k < n):NN K op B n k=((K k).map<|NN K op B n).foldl op (B k):=by
 cases n with
 |zero=>omega
 |succ m=>
  rw[NN];congr 1;refine Cf λc a=>?_
  have:=QL h a;exact AaU h _ _ c this.1 (by omega) (by omega)
def AgC{S}:∀c f k,k < n->D k<=c->D k<=f->TT up op S c k=TT up op S f k:=by
 have b:∀m k,k < n->D k<=m->TT up op S m k=TT up op S (D k) k:=by
  intro m;induction m with
  |zero=>intro k a g;rw[show D k=0 by omega]
  |succ m i=>
   intro k a g;cases p:D k with
   |zero=>
    rw[TT,TT];cases e:up k with
    |none=>rfl
    |some j=>have:=ZI h a e;omega
   |succ d=>
    rw[TT,TT];cases e:up k with
    |none=>rfl
    |some j=>have:=ZI h a e;simp only;rw[i j this.1 (by omega),show D j=d by omega]
 intro c f k a l o;rw[b c k a l,b f k a o]
def AgB{S}:TT up op S n r=S r:=by
 cases n with
 |zero=>rfl
 |succ m=>rw[TT,h.root]
def tF{S k j}(c:k < n)(e:up k=some j):TT up op S n k=op (S k) (TT up op S n j):=by
 have a:=ZI h c e;have b:=h.dn k c;have d:TT up op S (n - 1+1) k=op (S k) (TT up op S (n - 1) j):=by rw[TT,e]
 rw[AgC h (n - 1) n j a.1 (by omega) (by omega),show n - 1+1=n by omega]at d;exact d
end
def GP(d:List QE)(a:MA):Bool:=(H4 d a.1).2&&((H4 d a.1).1.1==(a.2.length:Int))
def E3(d:List QE)(q:Jz):Bool:=JZ q&&(dbB d&& !Bt q.2.1 λ_ a=> !GP d a)
def kL{d q}(h:Ql d)(c:Th q):IP d q=some (E3 d q):=by
 unfold IP E3 Bt
 rw[DJ (λk=>Hg q.2.1 k λa=> !GP d a) c.1 (λk b e=>by
  unfold Pn;rw[Bi b,AI b,Bm b (Ba c.1),BV b];simp only[Ac,G,wU h,GP];cases(H4 d q.2.1[k].1).2 with
  |false=>rfl
  |true=>simp only[An,Ab,AL,bne]) (λrec=>by unfold Pn;rw[Bc];rfl)]
 simp only[Zs c,AfP h,G,Mh];cases(List.range q.2.1.length).any λk=>Hg q.2.1 k λa=> !GP d a<;>cases JZ q<;>cases dbB d<;>rfl
def oF{d q}(h:Ql d)(c:Th q):J1 d q=some (E3 d q):=by
 unfold J1 E3 Bt;simp only[YW c,AhD h,G]
 rw[DJ (λk=>Hg q.2.1 k λa=> !GP d a) c.1 (λk b e=>by
  unfold O8;rw[Bi b,AI b,Bm b (Ba c.1),BV b];simp only[Ac,G,u6 h,GP];cases(H4 d q.2.1[k].1).2 with
  |false=>rfl
  |true=>simp only[An,Ab,AL,bne]) (λrec=>by unfold O8;rw[Bc];rfl)]
 cases(List.range q.2.1.length).any λk=>Hg q.2.1 k λa=> !GP d a<;>cases JZ q<;>cases dbB d<;>rfl
def wY{l:zI}(h:l.length<=lim):JH l=some (!Bt l (HC (l.length:Int) l)&&decide ((l.length:Int)<=5)):=by unfold JH Bt;rw[DJ (λk=>Hg l k (HC (l.length:Int) l k)) h (λk a b=>by unfold MR;rw[Bi a,AI a,Bm a (Ba h),BV a];simp only[Ac,G,Qk];rw[A1 (by omega),WM];simp only[Ot (l:=l.take k) (by rw[At];omega),HB,HC];cases Hv l[k] 0 (wZ ((l.length:Int) - 1))<;>rfl) (λrec=>by unfold MR;rw[Bc];rfl)];cases(List.range l.length).any λk=>Hg l k (HC (l.length:Int) l k)<;>simp[G]
def TB(q:Jz)(o:zI):Bool:=JZ q&&(((o.length:Int)==q.1)&& !Bt o (HC q.1 o))
def Sg{q}(h:JZ q=true):1<=q.1∧q.1<=5:=by unfold JZ Hv at h;simp only[Aa,Bf]at h;exact h.1
def ro{q o}(b:Th q)(c:o.length<=lim):KA q o=some (TB q o):=by
 unfold KA If TB;simp only[Zs b,wY c,G];cases d:JZ q with
 |false=>rfl
 |true=>
  have e:=Sg d;cases a:((o.length:Int)==q.1)with
  |false=>rfl
  |true=>
   have a:(o.length:Int)=q.1:=by simpa using a
   rw[a,Ai e.2];simp
def yI{q o}(a:Th q)(b:o.length<=lim):MW q o=some (TB q o):=by
 unfold MW HY TB;simp only[YW a,qx b,G];cases JZ q with
 |false=>rfl
 |true=>cases((o.length:Int)==q.1)<;>rfl
def AV{α β:Type}(a:α)(f:α->Option β):G (some a) f=f a:=rfl
def nS{S O:Type}(v:O){B:(S×Int->Option (Sum S O))->S×Int->Option (Sum S O)}{n:Nat}(s:Nat->S)(a:Nat->Bool)(l:n<=lim)(o:∀k,k < n->∀b,B b (s k,(k:Int))=cond (a k) (some<|.inr v) (b (s<|k+1,((k+1:Nat):Int))))(p:∀b,B b (s n,(n:Int))=some (.inl<|s n)):
  Ap B fz (s 0,0)=some (cond ((List.range n).any a) (.inr v)<|.inl<|s n):=by
 have e:∀d k,k+d=n->(∀j,j < k->a j=false)->∀m,d < m->Ap B m (s k,(k:Int))=some (cond ((List.range n).any a) (.inr v)<|.inl<|s n):=by
  intro d;induction d with
  |zero=>
   intro k q f m r;cases m with
   |zero=>omega
   |succ m=>
    have g:k=n:=by omega
    have:(List.range n).any a=false:=by rw[Cz];intro x t;rw[f x (by have:=AB.1 t;omega)];simp
    show B (Ap B m) (s k,(k:Int))=_;rw[g,p,this];rfl
  |succ d u=>
   intro k q f m r;cases m with
   |zero=>omega
   |succ m=>
    show B (Ap B m) (s k,(k:Int))=_;rw[o k (by omega)];cases c:a k with
    |true=>
     have:(List.range n).any a=true:=by rw[Cx];exact⟨k,AB.2 (by omega),c⟩
     rw[this];rfl
    |false=>
     exact u (k+1) (by omega) (λj i=>by
      rcases Bb j k with h|h
      ·exact f j h
      ·rw[show j=k by omega];exact c) m (by omega)
 have:=e n 0 (by omega) (λj i=>absurd i<|by omega) fz<|DN l;simpa using this
def Aad(f:Int->Bool)(l:zI)(k:Nat):(X1 f l k).length<=k:=by unfold X1;exact BC (Ca _ _) (by simp)
def Us{n:Nat}(h:n<=lim):wZ ((n:Int) - 1)=(n:Int) - 1:=wrap_in (by unfold lim at h;omega)
def ZN{k:Nat}(h:k<=lim):wZ ((k:Int)+1)=((k+1:Nat):Int):=by rw[wrap_in (by unfold lim at h;omega)];simp
def ja{p}{k:Nat}(h:k < p.length):VF p (k:Int)=p[k]:=by unfold VF;rw[Aq,Ae h];rfl
def vi{p}(d:p.length<=lim):∀(m k:Nat) (a:Int),k+m=p.length+1->a < (p.length:Int)->∀f,m < f->Ap (Nq p) f (a,(k:Int))=some (match fS p m a with|some b=>.inl b|none=>.inr false)
 |0,k,a,h,i,f,j=>by
  cases f with
  |zero=>omega
  |succ f=>rw[CM,Nq];rw[Af (by omega:¬(k:Int)<=(p.length:Int))];rfl
 |m+1,k,a,h,i,f,j=>by
  cases f with
  |zero=>omega
  |succ f=>
   rw[CM,Nq];rw[Ai (by omega:(k:Int)<=(p.length:Int)),Ac,fS];by_cases c:0<=a
   ·have g:a.toNat < p.length:=by omega
    have e:a=((a.toNat:Nat):Int):=by omega
    have l:AN p a=some (VF p a):=by rw[e,AI g,ja g]
    rw[Ai c,Aw c,Ac,l];simp only[AV,HT,Us d];show(cond (!inP p (VF p a)) _ _)=_;cases hi:inP p (VF p a)with
    |false=>rfl
    |true=>rw[ZN (by omega)];have:=vi d m (k+1) (VF p a) (by omega) (by unfold inP Hv at hi;simp at hi;omega) f (by omega);exact this
   ·rw[Af c,Ay c];rfl
def mn{p}(hp:p.length < lim):RG p=some (UT p):=by
 unfold RG UT Bt;have h0:(0:Int)=(((X1 (λx=>decide (x < 0)) p 0).length:Nat):Int):=rfl
 have:=nS false (B:=Np p) (n:=p.length) (λk=>(((X1 (λx=>decide (x < 0)) p k).length:Nat):Int)) (λk=>Hg p k λx=> !inP p x || !endsB p k) (by omega) (λk hk rec=>by
  have hw:=vi (p:=p) (by omega) (p.length+1) 0 (k:Int) (by omega) (by omega) fz (by unfold fz;unfold lim at hp;omega);have hlen:=Aad (λx=>decide (x < 0)) p k;unfold Np PQ;simp only;rw[Bi hk,AI hk,BV hk,ZN (show k<=lim by omega)];simp only[Ac,AV,HT,Us (show p.length<=lim by omega)];show(cond (!inP p p[k]) _ _)=_;cases hi:inP p p[k]with
  |false=>rfl
  |true=>
   simp only[An,Ab,C3]
   have key:∀r:Int,(G (Ap (Nq p) fz ((k:Int),0)) λo3=>(match o3 with|.inl z15=>(cond (decide (0<=z15)) (some<|.inr false)<|rec (r,((k+1:Nat):Int)))|.inr r=>some<|.inr r))=cond (!endsB p k) (some<|.inr false) (rec (r,((k+1:Nat):Int))):=by
    intro r;rw[show((k:Int),(0:Int))=((k:Int),((0:Nat):Int))from rfl,hw,AV];unfold endsB;cases fS p (p.length+1) (k:Int)with
    |none=>rfl
    |some a=>
     simp only;by_cases ha:a < 0
     ·rw[Af (by omega:¬0<=a),Ai ha];rfl
     ·rw[Ai (by omega:0<=a),Af ha];rfl
   have hs:∀r:Int,r=(((X1 (λx=>decide (x < 0)) p<|k+1).length:Nat):Int)->cond (!endsB p k) (some<|Sum.inr false) (rec (r,((k+1:Nat):Int)))=cond (!endsB p k) (some<|.inr false) (rec ((((X1 (λx=>decide (x < 0)) p<|k+1).length:Nat):Int),((k+1:Nat):Int))):=λr e=>by rw[e]
   have hstep:=AbI (λx=>decide (x < 0)) p k;rw[BV hk]at hstep;by_cases hn:p[k] < 0
   ·rw[Ai hn,Ac];refine(key _).trans<|hs _ ?_;rw[wrap_in (by unfold lim at hp;omega),hstep,Ai hn];simp
   ·rw[Af hn,Ab];refine(key _).trans<|hs _ ?_;rw[hstep,Af hn];simp) (λrec=>by unfold Np;simp only;rw[Bc];rfl)
 rw[<-h0]at this;rw[this];cases(List.range p.length).any λk=>Hg p k λx=> !inP p x || !endsB p k with
 |true=>rfl
 |false=>rfl
def fc(p:zI)(k:Nat):Int:=match X1 (λx=>x== -1) p k with
 |[]=> -1
 |r::_=>(r:Int)
def zH(p:zI)(k:Nat):decide (0<=fc p k)= !(X1 (λx=>x== -1) p k).isEmpty:=by
 unfold fc;cases X1 (λx=>x== -1) p k with
 |nil=>rfl
 |cons r l=>simp
def WE{p}(z:p.length<=lim):Dh p=some (LA p):=by
 unfold Dh;have D:(-1:Int)=fc p 0:=rfl
 have:=nS (-1:Int) (B:=Fz p) (n:=p.length) (fc p) (λk=>(Hg p k λx=>x== -1)&& !(X1 (λx=>x== -1) p k).isEmpty) z (λk f F=>by
  unfold Fz Ig;simp only;rw[Bi f,AI f,Bm f (Ba z),BV f,zH];simp only[Ac,G];have c:=AbI (λx=>x== -1) p k;rw[BV f]at c;cases o:(p[k]== -1)with
  |false=>
   rw[o]at c;have e:fc p (k+1)=fc p k:=by unfold fc;rw[c];simp
   rw[e];rfl
  |true=>
   rw[o]at c;cases d:(X1 (λx=>x== -1) p k)with
   |nil=>
    have e:fc p (k+1)=(k:Int):=by unfold fc;rw[c,d];rfl
    rw[e];rfl
   |cons r l=>rfl) (λrec=>by unfold Fz;simp only;rw[Bc];rfl)
 rw[<-D]at this;rw[this]
 have g:∀k,((Hg p k λx=>x== -1)&& !(X1 (λx=>x== -1) p k).isEmpty)=true↔(Hg p k λx=>x== -1)=true∧∃j,j < k∧(Hg p j λx=>x== -1)=true:=by
  intro k;rw[Aa];refine and_congr CY ?_;constructor
  ·intro h;cases d:X1 (λx=>x== -1) p k with
   |nil=>rw[d]at h;cases h
   |cons r l=>exact⟨r,Su.1<|by rw[d];simp⟩
  ·rintro⟨j,t,A⟩;have:=Su.2 ⟨t,A⟩;cases d:X1 (λx=>x== -1) p k with
   |nil=>rw[d]at this;cases this
   |cons r l=>rfl
 cases i:(List.range p.length).any λk=>(Hg p k λx=>x== -1)&& !(X1 (λx=>x== -1) p k).isEmpty with
 |true=>
  have⟨k,f,o⟩:=Cx.1 i;have⟨t,j,A,H⟩:=(g k).1 o;have f:=AB.1 f
  have e:LA p= -1:=by
   unfold LA;split
   ·rename_i r d;have C:=cN.1 d;have K:=C.2 k f t;have L:=C.2 j (by omega) H;omega
   ·rfl
  rw[e];rfl
 |false=>
  have e:LA p=fc p p.length:=by
   unfold LA fc;cases d:X1 (λx=>x== -1) p p.length with
   |nil=>rfl
   |cons r l=>
    cases l with
    |nil=>rfl
    |cons q l=>
     exfalso;have m:(X1 (λx=>x== -1) p p.length).Nodup:=H7 E7 Ed;rw[d]at m;have u:=Su.1 (show r∈X1 (λx=>x== -1) p p.length by rw[d];simp);have v:=Su.1 (show q∈X1 (λx=>x== -1) p p.length by rw[d];simp);have I:r≠q:=λe=>by subst e;rw[BF]at m;exact m.1 (by simp)
     have s:∀a b,a < b->b < p.length->(Hg p a λx=>x== -1)=true->(Hg p b λx=>x== -1)=true->False:=λa b w o J y=>by have:=Cz.1 i b<|AB.2 o;exact this<|(g b).2 ⟨y,a,w,J⟩
     rcases Bb r q with h|h
     ·exact s r q h v.1 u.2 v.2
     ·exact s q r (by omega) u.1 v.2 u.2
  rw[e];rfl
def rp{p}(g:p.length < lim):∀(m:Nat) (acc:zI) (a:Int),acc.length+m=p.length+1->∀f,m < f->Ap (OV p) f (a,acc)=some (acc++Er p m a)
 |0,acc,a,h,f,i=>by
  cases f with
  |zero=>omega
  |succ f=>rw[CM,OV];simp only[Qk,AV];rw[Af (by omega:¬(acc.length:Int)<=(p.length:Int))];cases Hv a 0 (wZ<|(p.length:Int) - 1)<;>simp[Er]
 |m+1,acc,a,h,f,i=>by
  cases f with
  |zero=>omega
  |succ f=>
   rw[CM,OV];simp only[Qk,AV,Us (show p.length<=lim by omega)];rw[Ai (by omega:(acc.length:Int)<=(p.length:Int)),Ac,Er];by_cases c:0<=a∧a < (p.length:Int)
   ·have d:a.toNat < p.length:=by omega
    have e:a=((a.toNat:Nat):Int):=by omega
    have j:AN p a=some (VF p a):=by rw[e,AI d,ja d]
    have b:Hv a 0 ((p.length:Int) - 1)=true:=by unfold Hv;simp;omega
    rw[b,Aw c,Ac,A1 (by simp;omega),j,AV];have:=rp g m (acc++[a]) (VF p a) (by simp;omega) f (by omega);rw[this,Bk];rfl
   ·have b:Hv a 0 ((p.length:Int) - 1)=false:=by unfold Hv;simp;omega
    rw[b,Ay c];simp
def wX{p}(b:p.length < lim)(a:Int):Qt p a=some (Er p (p.length+1) a):=by unfold Qt;rw[rp b (p.length+1) [] a (by simp) fz (by unfold fz;unfold lim at b;omega)];simp[G]
def m9{p}:∀(m:Nat) (a:Int),(Er p m a).length<=m
 |0,_=>by simp[Er]
 |m+1,a=>by
  rw[Er];split
  ·rw[AD];have:=m9 (p:=p) m<|VF p a;omega
  ·simp
def zR{p}{k:Nat}(a:k < p.length):0 < (Er p (p.length+1) (k:Int)).length:=by rw[Er,Aw (by omega)];simp
def wv{p}(c:p.length < lim){k:Nat}(b:k < p.length):∃x,AN (Er p (p.length+1) (k:Int)) (wZ<|((Er p (p.length+1) (k:Int)).length:Int) - 1)=some x∧(Er p (p.length+1) (k:Int)).getLast?=some x:=by
 have d:=zR b;have e:=m9 (p:=p) (p.length+1) (k:Int);have a:(Er p (p.length+1) (k:Int)).length - 1 < (Er p (p.length+1) (k:Int)).length:=by omega
 refine⟨(Er p (p.length+1) (k:Int))[(Er p (p.length+1) (k:Int)).length - 1],?_,by rw[List.getLast?_eq_getElem?,Ae a]⟩
 ·rw[Us (by omega),show((Er p (p.length+1) (k:Int)).length:Int) - 1=(((Er p (p.length+1) (k:Int)).length - 1:Nat):Int)by omega,AI a]
def m8{p}(b:p.length < lim){k:Nat}(c:k < p.length){α:Type}(x y:Option α):cond (decide ((p.length:Int) < ((Er p (p.length+1) (k:Int)).length:Int))) x (G (AN (Er p (p.length+1) (k:Int))<|wZ<|((Er p (p.length+1) (k:Int)).length:Int) - 1) λe=>cond (e !=LA p) x y)=cond (!Qe p k) x y:=by
 have⟨e,d,f⟩:=wv b c;unfold Qe;rw[d,f];simp only[G];by_cases a:(Er p (p.length+1) (k:Int)).length<=p.length
 ·rw[Af (by omega),Ai a,Ab,AL,bne];rfl
 ·rw[Ai (by omega),Af a];rfl
def kX{α:Type}(g:α->zI)(l:List α)(p:zI)(v:Int)(i:Nat):Bool:=Hg l i λx=>(g x).contains v&&Hg p i λy=>decide (y < 0) || !Hg l y.toNat λz=>(g z).contains v
def OK{α:Type}(g:α->zI)(l:List α)(p:zI)(v:Int)(k:Nat):Nat:=((List.range k).filter<|kX g l p v).length
def pr{α:Type}(g:α->zI)(l:List α)(p:zI)(v:Int)(k:Nat):OK g l p v (k+1)=OK g l p v k+cond (kX g l p v k) 1 0:=by unfold OK;rw[Fb,CA,Gn,EE,Au];cases kX g l p v k<;>rfl
def kY{α:Type}(g:α->zI)(l:List α)(p:zI)(v:Int)(k:Nat):OK g l p v k<=k:=BC (Ca _ _) (by simp)
def ve{ls p}(hw:wide p)(hl:ls.length=p.length)(hp:p.length<=lim)(hs:∀l∈ls,l.length<=lim)(v:Int):RI ls p v=some ((OK id ls p v p.length:Nat):Int):=by
 unfold RI
 have:=CD (body:=Lp ls p v) (out:=((OK id ls p v p.length:Nat):Int)) (λk=>(((OK id ls p v k:Nat):Int),(k:Int))) p.length (λk hk rec=>by
  have hk':k < ls.length:=by omega
  have hle:=kY id ls p v k;have hst:=pr id ls p v k;unfold kX at hst;rw[BV hk',BV hk]at hst;unfold Lp Nr PX;simp only;rw[Bi hk',AI hk',AI hk,Bm hk (Ba hp),hst];simp only[Ac,G,ip (hs _<|Ad hk'),id];have hwrap:wZ (((OK id ls p v k:Nat):Int)+1)=((OK id ls p v k+1:Nat):Int):=ZN (by omega);cases ls[k].contains v with
  |false=>simp
  |true=>
   simp only[Ac,AL];have hwk:=hw k hk;by_cases hn:p[k] < 0
   ·rw[Ai hn];simp only[Ac,Nt,hwrap]
   ·rw[Af hn];have hj:p[k].toNat < ls.length:=by omega
    have hg:AN ls p[k]=some ls[p[k].toNat]:=by
     have e:p[k]=((p[k].toNat:Nat):Int):=by omega
     conv=>lhs;rw[e]
     exact AI hj
    rw[hg,BV hj];simp only[Ab,C3,ip (hs _<|Ad hj)];cases ls[p[k].toNat].contains v with
    |true=>simp
    |false=>simp only[CF,Ac,hwrap]) (λrec=>by unfold Lp;simp only;rw[hl,Bc];rfl) fz (DN hp)
 have h0:OK id ls p v 0=0:=rfl;simp only[h0]at this;rw[show((0:Int),(0:Int))=(((0:Nat):Int),((0:Nat):Int))from rfl,this];rfl
def WB{q}(h:JZ q=true):1<=q.1∧q.1<=5∧q.2.1.length<=4∧∀a∈q.2.1,a.2.length<=5∧∀v∈a.2,0<=v∧v < q.1:=by
 have d:=Sg h;unfold JZ at h;simp only[Aa,AH]at h;obtain⟨n,e,-,f,-⟩:=h;have o:1<=(q.2.1.length:Int)∧(q.2.1.length:Int)<=4:=by unfold Hv at e;simpa using e
 refine⟨d.1,d.2,by omega,λa g=>?_⟩;obtain⟨k,i,rfl⟩:=AY.1 g;have b:=FJ f i;unfold PB at b;simp only[B9,Dm]at b;have p:1<=((q.2.1[k]).2.length:Int)∧((q.2.1[k]).2.length:Int)<=5:=by have:=b.2.1;unfold Hv at this;simpa using this
 refine⟨by omega,λv l=>?_⟩;obtain⟨j,m,rfl⟩:=AY.1 l;have c:=FJ b.2.2 m;simp only[Dm]at c;rw[wrap_in (by omega)]at c;unfold Hv at c;simp only[Aa,Bf]at c;omega
def dO(l:zI)(v:Int):decide (CN l v < 0)= !l.contains v:=by
 rw[<-HB];by_cases h:0<=CN l v
 ·rw[Ai h,Af (by omega)];rfl
 ·rw[Af h,Ai (by omega)];rfl
def xA(l:List MA)(p:zI)(v:Int)(i:Nat):kX id (l.map λa=>a.2) p v i=kX (λa:MA=>a.2) l p v i:=by
 unfold kX Hg;simp only[BP,id];cases l[i]? with
 |none=>rfl
 |some a=>
  simp only[Cb];congr 1;cases p[i]? with
  |none=>rfl
  |some x=>simp only;cases l[x.toNat]? <;>rfl
def xB(l:List MA)(p:zI)(v:Int)(k:Nat):OK id (l.map λa=>a.2) p v k=OK (λa:MA=>a.2) l p v k:=by unfold OK;congr 1;exact IX λi _=>xA l p v i
def i9{α:Type}(g:α->zI)(l:List α)(p:zI)(n:Nat):Bool:=(List.range n).any λv=>((OK g l p (v:Int) p.length:Nat):Int)!=1
def Aai{q p}(g:Th q)(m:wide p)(n:q.2.1.length=p.length)(v:Int):Ap (Ey q p v) fz (0,0)=some ((OK (λa:MA=>a.2) q.2.1 p v p.length:Nat):Int):=by
 have j:p.length<=lim:=by rw[<-n];exact g.1
 have:=CD (body:=Ey q p v) (out:=((OK (λa:MA=>a.2) q.2.1 p v p.length:Nat):Int)) (λk=>(((OK (λa:MA=>a.2) q.2.1 p v k:Nat):Int),(k:Int))) p.length (λk f o=>by
  have c:k < q.2.1.length:=by omega
  have r:=kY (λa:MA=>a.2) q.2.1 p v k;have d:=pr (λa:MA=>a.2) q.2.1 p v k;unfold kX at d;rw[BV c,BV f]at d;unfold Ey GF ID;simp only;rw[Bi f,AI c,AI f,Bm f (Ba j),d];simp only[Ac,AV,tg (g.2.1 _<|Ad c).2];have b:wZ (((OK (λa:MA=>a.2) q.2.1 p v k:Nat):Int)+1)=((OK (λa:MA=>a.2) q.2.1 p v k+1:Nat):Int):=ZN (by omega);cases q.2.1[k].2.contains v with
  |false=>simp
  |true=>
   simp only[Ac,AL];have s:=m k f;by_cases l:p[k] < 0
   ·have h:(p[k]== -1)=true:=by simp;omega
    rw[h,Ai l];simp only[Ac,Nt,b]
   ·have h:(p[k]== -1)=false:=by simp;omega
    rw[h,Af l];have i:p[k].toNat < q.2.1.length:=by omega
    have t:AN q.2.1 p[k]=some q.2.1[p[k].toNat]:=by
     have e:p[k]=((p[k].toNat:Nat):Int):=by omega
     conv=>lhs;rw[e]
     exact AI i
    rw[t,BV i];simp only[Ab,C3,AV,tg (g.2.1 _<|Ad i).2];cases q.2.1[p[k].toNat].2.contains v with
    |true=>simp
    |false=>simp only[CF,Ac,b]) (λrec=>by unfold Ey;simp only;rw[Bc];rfl) fz (DN j)
 exact this
def Aah{ls p}(hw:wide p)(hl:ls.length=p.length)(hp:p.length<=lim)(hs:∀l∈ls,l.length<=lim)(v:Int):Ap (Dw (ls,p) v) fz (0,0)=some ((OK id ls p v p.length:Nat):Int):=by
 have:=CD (body:=Dw (ls,p) v) (out:=((OK id ls p v p.length:Nat):Int)) (λk=>(((OK id ls p v k:Nat):Int),(k:Int))) p.length (λk hk rec=>by
  have hk':k < ls.length:=by omega
  have hle:=kY id ls p v k;have hst:=pr id ls p v k;unfold kX at hst;rw[BV hk',BV hk]at hst;unfold Dw EV Gj;simp only;rw[Bi hk',AI hk',AI hk,Bm hk (Ba hp),hst];simp only[Ac,AV,Ot (hs _<|Ad hk'),HB,id];have hwrap:wZ (((OK id ls p v k:Nat):Int)+1)=((OK id ls p v k+1:Nat):Int):=ZN (by omega);cases ls[k].contains v with
  |false=>simp
  |true=>
   simp only[Ac,AL];have hwk:=hw k hk;by_cases hn:p[k] < 0
   ·have e1:(p[k]== -1)=true:=by simp;omega
    rw[e1,Ai hn];simp only[Ac,Nt,hwrap]
   ·have e1:(p[k]== -1)=false:=by simp;omega
    rw[e1,Af hn];have hj:p[k].toNat < ls.length:=by omega
    have hg:AN ls p[k]=some ls[p[k].toNat]:=by
     have e:p[k]=((p[k].toNat:Nat):Int):=by omega
     conv=>lhs;rw[e]
     exact AI hj
    rw[hg,BV hj];simp only[Ab,C3,AV,Ot (hs _<|Ad hj),dO];cases ls[p[k].toNat].contains v with
    |true=>simp
    |false=>simp only[CF,Ac,hwrap]) (λrec=>by unfold Dw;simp only;rw[hl,Bc];rfl) fz (DN hp)
 exact this
def ZM{B:(Int->zS)->Int->zS}{n:Int}(c:1<=n∧n<=5)(f:Int->Int)(b:∀a v,B a v=cond (decide (v < n)) (cond (f v !=1) (some<|.inr false)<|a<|wZ<|v+1) (some<|.inl ())):
  Ap B fz 0=some (cond ((List.range n.toNat).any λv=>f (v:Int)!=1) (.inr false)<|.inl ()):=by
 refine DJ (λv=>f (v:Int)!=1) (by unfold lim;omega) (λk d a=>?_)<|λrec=>?_
 ·rw[b,Ai (by omega:(k:Int) < n),wrap_in (by omega),Ac];rfl
 ·rw[b,Af (by omega:¬((n.toNat:Nat):Int) < n)];rfl
def jtB(q:Jz)(p:zI):Bool:=JZ q&&(((p.length:Int)==(q.2.1.length:Int))&&(T5 p&& !i9 (λa:MA=>a.2) q.2.1 p q.1.toNat))
def Xe{m n:Nat}(h:((m:Int)==(n:Int))=true):m=n:=by have h:=eq_of_beq h;omega
def UU{p}(h:UT p=true):wide p:=by unfold UT at h;simp only[Aa,AH]at h;exact lj λi hi=>by have:=FJ h.1 hi;simp at this;exact this.1
def AkF{q p}(b:Th q)(e:p.length < lim):Kd q p=some (jtB q p):=by
 unfold Kd jtB;simp only[YW b,AV,mn e];rw[show((p.length:Int)!=(q.2.1.length:Int))= !((p.length:Int)==(q.2.1.length:Int))from rfl];cases f:JZ q with
 |false=>rfl
 |true=>
  cases c:((p.length:Int)==(q.2.1.length:Int))with
  |false=>rfl
  |true=>
   have k:=Xe c;rw[<-VE];cases g:UT p with
   |false=>rfl
   |true=>simp only[An,Ab,AL];rw[H5 (a:=q.2.1) (h:=λa:MA=>a.2) b.1 (λk d i=>by unfold Li;simp only;rw[Bi d,AI d,Bm d (Ba b.1)];simp only[Ac,AV];rw[A1 (by simp only[Aj,At,Al];have:=b.1;omega)]) (λrec y=>by unfold Li;simp only;rw[Bc];rfl)];rw[AV,ZM (Sg f) (λv=>((OK (λa:MA=>a.2) q.2.1 p v p.length:Nat):Int)) (λrec v=>by unfold Pu;rw[ve (UU g) (by simp;omega) (by omega) (λl c=>by obtain⟨a,j,rfl⟩:=A5.1 c;exact(b.2.1 a j).2),xB];rfl)];unfold i9;cases(List.range q.1.toNat).any λv=>((OK (λa:MA=>a.2) q.2.1 p (v:Int) p.length:Nat):Int)!=1<;>rfl
def AjG{q p}(e:Th q)(f:p.length < lim):Ie q p=some (jtB q p):=by
 unfold Ie jtB;simp only[Zs e,AV,WE (show p.length<=lim by omega)];rw[show((p.length:Int)!=(q.2.1.length:Int))= !((p.length:Int)==(q.2.1.length:Int))from rfl];cases h:JZ q with
 |false=>rfl
 |true=>
  cases j:((p.length:Int)==(q.2.1.length:Int))with
  |false=>rfl
  |true=>
   have l:=Xe j;simp only[An,Ab,AL];by_cases g:0<=LA p
   ·rw[Af (by omega:¬LA p < 0),Ab];have b:Ap (IC p) fz 0=some (cond (Bt p λi _=> !Qe p i) (.inr false)<|.inl ()):=by unfold Bt;refine DJ (λk=>Hg p k λ_=> !Qe p k) (by omega) (λk c m=>?_) (λrec=>by unfold IC;rw[Bc];rfl);unfold IC;rw[Bi c,wX f,Bm c (Ba<|show p.length<=lim by omega),BV c];simp only[Ac,AV,WE (show p.length<=lim by omega)];exact m8 f c _ _
    have d:T5 p= !Bt p λi _=> !Qe p i:=by unfold T5;rw[Ai g,AL]
    rw[b,AV,d];cases n:(Bt p λi _=> !Qe p i)with
    |true=>rfl
    |false=>have o:wide p:=UU (by rw[VE,d,n];rfl);simp only[Ab,CF,AL];rw[ZM (Sg h) (λv=>((OK (λa:MA=>a.2) q.2.1 p v p.length:Nat):Int)) (λrec v=>by unfold Pw;rw[Aai e o l.symm];rfl)];unfold i9;cases(List.range q.1.toNat).any λv=>((OK (λa:MA=>a.2) q.2.1 p (v:Int) p.length:Nat):Int)!=1<;>rfl
   ·rw[Ai (by omega:LA p < 0)];have d:T5 p=false:=by unfold T5;rw[Af g,Hx]
    rw[d];rfl
def U1{α:Type}(l:List α)(f g:Nat->α->Bool):Bt l (λk e=>f k e || g k e)=(Bt l f || Bt l g):=by
 unfold Bt;induction List.range l.length with
 |nil=>rfl
 |cons k b a=>
  rw[Gd,Gd,Gd,a];unfold Hg;cases l[k]? with
  |none=>simp
  |some e=>simp only;cases f k e<;>cases g k e<;>simp
def nY{α β:Type}{l:List α}{m:List β}(h:l.length=m.length)(f:Nat->Bool):Bt l (λk _=>f k)=Bt m λk _=>f k:=by
 unfold Bt;rw[h];rw[BX,Cx,Cx];constructor
 ·rintro⟨k,b,c⟩;have a:=AB.1 b;rw[BV (by omega)]at c;exact⟨k,b,by rw[BV a];exact c⟩
 ·rintro⟨k,b,c⟩;have a:=AB.1 b;rw[BV a]at c;exact⟨k,b,by rw[BV (by omega)];exact c⟩
def Pi(n:Int)(e:Int):Bool:= !Hv e 0 (wZ<|n - 1)
def Tw(n:Int)(b:zI):Bool:=(!Bt b λk e=>Pi n e || Fm b k e)&&decide (0 < (b.length:Int))
theorem AbL{q:Jz}{b:zI}(h:b.length<=lim):RS q b=some (Tw q.1 b):=by
 unfold RS Tw Bt
 rw[DJ (λk=>Hg b k λe=>Pi q.1 e || Fm b k e) h (λk hk rec=>by
  unfold Qx NG
  rw[Bi hk,AI hk,Bm hk (Ba h),BV hk]
  simp only[Ac,AV,Qk,Pi,Fm]
  cases Hv b[k] 0 (wZ (q.1 - 1))with
  |false=>rfl
  |true=>
   by_cases h0:0 < k
   ·have hk':k - 1 < b.length:=by omega
    rw[WT hk h0 (Ba h),AI hk',BV hk',Ai (by omega:(0:Int) < (k:Int)),Ai h0]
    rfl
   ·rw[Af (by omega:¬(0:Int) < (k:Int)),Af h0];rfl) (λrec=>by unfold Qx;rw[Bc];rfl)]
 cases(List.range b.length).any λk=>Hg b k λe=>Pi q.1 e || Fm b k e<;>rfl
theorem nV{l:zI}(h:Bt l (Fm l)=false):∀(d j:Nat) (hd:j+1+d < l.length),l[j]'(by omega) < l[j+1+d]'hd
 |0,j,hd=>by
  have:=FJ h hd
  unfold Fm at this
  rw[Ai (by omega),AL,BV (by omega:j+1+0 - 1 < l.length)]at this
  simp only[CV,Int.not_le]at this
  exact this
 |d+1,j,hd=>by
  have h1:=nV h d j (by omega)
  have h2:=FJ h hd
  unfold Fm at h2
  rw[Ai (by omega),AL,BV (by omega:j+1+(d+1) - 1 < l.length)]at h2
  simp only[CV,Int.not_le]at h2
  have e:l[j+1+(d+1) - 1]'(by omega)=l[j+1+d]'(by omega):=by congr 1
  rw[e]at h2
  omega
theorem Aar{n:Int}{l:zI}(h:Bt l (Fm l)=false):Bt l (HC n l)=Bt l λ_ e=>Pi n e:=by
 have e:Bt l (HC n l)=(Bt l (λ_ e=>Pi n e) || Bt l (λk e=>(l.take k).contains e)):=by
  rw[<-U1];rfl
 have e2:Bt l (λk e=>(l.take k).contains e)=false:=J0 λi hi=>by
  rw[<-Gm,Av]
  intro hm
  obtain⟨j,hj,he⟩:=AY.1 hm
  rw[At]at hj
  rw[IY]at he
  have:=nV h (i - j - 1) j (by omega)
  have e3:l[j+1+(i - j - 1)]'(by omega)=l[i]:=by congr 1;omega
  rw[e3]at this
  omega
 rw[e,e2,FC]
theorem Aa8{q:Jz}{b:zI}(h:b.length<=lim):SU q b=some (Tw q.1 b):=by
 unfold SU OD Tw
 simp only[Aa5 h,qx h,AV]
 rw[U1]
 cases hu:Bt b (Fm b)with
 |true=>cases decide (0 < (b.length:Int))<;>simp
 |false=>
  rw[Aar hu]
  cases decide (0 < (b.length:Int))<;>cases(Bt b λ_ e=>Pi q.1 e)<;>rfl
def IG(a:MA)(k:Nat):zI:=((List.range k).filter λ(v:Nat)=>a.2.contains (v:Int)).map λ(v:Nat)=>(v:Int)
def AaX(a:MA)(k:Nat):IG a (k+1)=IG a k++cond (a.2.contains (k:Int)) [(k:Int)] []:=by unfold IG;rw[Fb,CA,Bd,Gn,EE];cases a.2.contains (k:Int)<;>rfl
def LR(a:MA)(k:Nat):(IG a k).length<=k:=by unfold IG;rw[Aj];exact BC (Ca _ _) (by simp)
theorem uZ{a:MA}(h:a.2.length<=lim)(hcv:∀v,DV a v=some (a.2.contains v)):EL a=some (IG a 5):=by
 unfold EL
 have:=CD (body:=Hq a) (out:=IG a 5) (λk=>(IG a k,(k:Int))) 5 (λk hk rec=>by
  have hl:=LR a k
  unfold Hq JL
  simp only
  rw[Ai (by omega:(k:Int) < 5),hcv,wrap_in (by omega),AaX]
  simp only[Ac,AV]
  cases a.2.contains (k:Int)with
  |true=>rw[Ac,A1 (by unfold lim;simp;omega)];rfl
  |false=>rw[Ab,Ab,AR];rfl) (λrec=>by unfold Hq;simp only;rfl) fz (by unfold fz;omega)
 rw[show((([]:zI),(0:Int)))=(IG a 0,((0:Nat):Int))from rfl,this]
 rfl
def U9{α:Type}(f:α->Bool){l:List α}{k:Nat}(a:k < l.length):(l.take<|k+1).filter f=(l.take k).filter f++cond (f l[k]) [l[k]] []:=by rw[A6 a,CA,Gn,EE];cases f l[k]<;>rfl
def dV{a b}(f:a.length < lim)(d:b.length<=lim):Pv a b=some (a.filter b.contains):=by
 unfold Pv
 have:=CD (body:=Nm a b) (out:=a.filter b.contains) (λk=>((a.take k).filter b.contains,(k:Int))) a.length (λk c e=>by
  have g:((a.take k).filter b.contains).length<=k:=BC (Ca _ _) (by simp;omega);unfold Nm PN;simp only;rw[Bi c,AI c,Bm c (Ba<|by omega),U9 _ c];simp only[Ac,AV,ip d];cases b.contains a[k]with
  |true=>rw[Ac,A1 (by simp only[Al];omega)];rfl
  |false=>rw[Ab,Ab,AR]) (λrec=>by unfold Nm;simp only;rw[Bc,AT];rfl) fz (DN (by omega))
 rw[show((([]:zI),(0:Int)))=((a.take 0).filter b.contains,((0:Nat):Int))from by simp,this];rfl
def UH(a:MA)(b:zI):Bool:=a.2.all b.contains
theorem w7{a:MA}{b:zI}(ha:a.2.length<=lim)(hb:b.length<=lim):Qy a b=some (UH a b):=by
 unfold Qy
 rw[DJ (λk=>Hg a.2 k λv=> !b.contains v) ha (λk hk rec=>by
  unfold Qz
  rw[Bi hk,AI hk,Bm hk (Ba ha),BV hk]
  simp only[Ac,AV,Ot hb,dO]) (λrec=>by unfold Qz;rw[Bc];rfl)]
 have e:UH a b= !(List.range a.2.length).any λk=>Hg a.2 k λv=> !b.contains v:=by
  rw[BX]
  unfold UH
  rw[Am,AH,Cz]
  constructor
  ·intro h k hk
   have hk:=AB.1 hk
   rw[BV hk,h _ (Ad hk)];simp
  ·intro h v hv
   obtain⟨k,hk,rfl⟩:=AY.1 hv
   have:=h k (AB.2 hk)
   rw[BV hk]at this
   simpa using this
 rw[e]
 cases(List.range a.2.length).any λk=>Hg a.2 k λv=> !b.contains v<;>rfl
def yP{a}(h:∀v∈a.2,0<=v∧v < 5)(b:zI):(((((IG a 5).filter b.contains).length:Nat):Int)==(((IG a 5).length:Nat):Int))=UH a b:=by
 have e:(((((IG a 5).filter b.contains).length:Nat):Int)==(((IG a 5).length:Nat):Int))=true↔((IG a 5).filter b.contains).length=(IG a 5).length:=by rw[BG];omega
 rw[BX,e,List.length_filter_eq_length_iff];unfold UH;rw[Am];constructor
 ·intro d v c;have g:=h v c;refine d v ?_;unfold IG;rw[A5];exact⟨v.toNat,Bj.2 ⟨AB.2 (by omega),by rw[show((v.toNat:Nat):Int)=v by omega];simpa using c⟩,by omega⟩
 ·intro d v c;unfold IG at c;rw[A5]at c;obtain⟨n,f,rfl⟩:=c;have:=(Bj.1 f).2;exact d _ (by simpa using this)
def AaW{α:Type}(f:α->Bool){l:List α}{k:Nat}(a:k < l.length):(l.take<|k+1).any f=((l.take k).any f || f l[k]):=by rw[A6 a,List.any_append];simp
def Z3(q:Jz)(x:List zI×zI):Bool:=JZ q&&(((x.2.length:Int)==(x.1.length:Int))&&(T5 x.2&&((!Bt x.1 λ_ b=> !Tw q.1 b)&&((!Bt q.2.1 λ_ a=> !x.1.any (UH a))&& !i9 id x.1 x.2 q.1.toNat))))
def Zu(x:List zI×zI):Prop:=x.1.length < lim∧(∀b∈x.1,b.length < lim)∧x.2.length < lim
def AjF{q x}(d:Th q)(e:Zu x):Ap (Gg q x) fz 0=some (cond (Bt q.2.1 λ_ a=> !x.1.any (UH a)) (.inr false)<|.inl ()):=by
 unfold Bt;refine DJ (λk=>Hg q.2.1 k λa=> !x.1.any (UH a)) d.1 (λk b f=>?_) (λrec=>by unfold Gg;rw[Bc];rfl);have g:Ap (D5 q x (k:Int)) fz (false,0)=some (x.1.any<|UH q.2.1[k]):=by have:=CD (body:=D5 q x (k:Int)) (out:=x.1.any (UH q.2.1[k])) (λj=>((x.1.take j).any (UH q.2.1[k]),(j:Int))) x.1.length (λj c f=>by unfold D5 Gi;simp only;rw[Bi c,AI b,AI c,Bm c (Ba<|B4 e.1),AaW _ c];simp only[Ac,AV,w7 (d.2.1 _<|Ad b).2 (B4<|e.2.1 _<|Ad c)];cases(x.1.take j).any (UH q.2.1[k])<;>rfl) (λrec=>by unfold D5;simp only;rw[Bc,AT];rfl) fz (DN (B4 e.1));simpa using this
 unfold Gg;rw[Bi b,g,Bm b (Ba d.1),BV b];rfl
def AhK{q x}(e:Th q)(f:JZ q=true)(g:∀a:MA,a.2.length<=lim->∀v,DV a v=some (a.2.contains v))(h:Zu x):Ap (F8 q x) fz 0=some (cond (Bt q.2.1 λ_ a=> !x.1.any (UH a)) (.inr false)<|.inl ()):=by
 have p:=WB f;unfold Bt;refine DJ (λk=>Hg q.2.1 k λa=> !x.1.any (UH a)) e.1 (λk c i=>?_) (λrec=>by unfold F8;rw[Bc];rfl);have o:=(e.2.1 _<|Ad c).2;have l:=uZ o<|g _ o;have m:∀v∈q.2.1[k].2,0<=v∧v < 5:=λv f=>by have:=(p.2.2.2 _<|Ad c).2 v f;omega
 have n:Ap (D4 x q.2.1[k]) fz (false,0)=some (x.1.any<|UH q.2.1[k]):=by have:=CD (body:=D4 x q.2.1[k]) (out:=x.1.any (UH q.2.1[k])) (λj=>((x.1.take j).any (UH q.2.1[k]),(j:Int))) x.1.length (λj d i=>by have r:=LR q.2.1[k] 5;unfold D4 F9;simp only;rw[Bi d,AI d,Bm d (Ba<|B4 h.1),AaW _ d];simp only[Ac,AV,l,dV (a:=IG q.2.1[k] 5) (b:=x.1[j]) (by unfold lim;omega) (B4<|h.2.1 _<|Ad d),yP m];cases(x.1.take j).any (UH q.2.1[k])<;>rfl) (λrec=>by unfold D4;simp only;rw[Bc,AT];rfl) fz (DN (B4 h.1));simpa using this
 unfold F8;rw[Bi c,AI c,AV,n,Bm c (Ba e.1),BV c];rfl
theorem mm{a:MA}(h:a.2.length<=lim)(v:Int):DV a v=some (a.2.contains v):=by
 unfold DV
 simp only[ip h,AV]
def AhE{q x}(g:Th q)(c:Zu x):Hm q x=some (Z3 q x):=by
 unfold Hm Z3;simp only[YW g,AV,mn c.2.2];rw[show((x.1.length:Int)!=(x.2.length:Int))= !((x.2.length:Int)==(x.1.length:Int))from by rw[bne];congr 1;rw[BX];simp;omega];cases h:JZ q with
 |false=>rfl
 |true=>
  cases f:((x.2.length:Int)==(x.1.length:Int))with
  |false=>rfl
  |true=>
   have i:=Xe f;rw[<-VE];cases j:UT x.2 with
   |false=>rfl
   |true=>
    have d:Ap (F7 q x) fz 0=some (cond (Bt x.1 λ_ b=> !Tw q.1 b) (.inr false)<|.inl ()):=by unfold Bt;refine DJ (λk=>Hg x.1 k λb=> !Tw q.1 b) (B4 c.1) (λk e m=>?_) (λrec=>by unfold F7;rw[Bc];rfl);unfold F7;rw[Bi e,AI e,Bm e (Ba<|B4 c.1),BV e];simp only[Ac,AV,Aa8 (B4<|c.2.1 _<|Ad e)]
    simp only[An,Ab,AL];rw[d,AV];cases(Bt x.1 λ_ b=> !Tw q.1 b)with
    |true=>rfl
    |false=>
     simp only[Ab,CF,AL];rw[AhK g h (λa n v=>mm n v) c,AV];cases(Bt q.2.1 λ_ a=> !x.1.any (UH a))with
     |true=>rfl
     |false=>simp only[Ab,CF,AL];rw[ZM (Sg h) (λv=>((OK id x.1 x.2 v x.2.length:Nat):Int)) (λrec v=>by unfold Mo;rw[ve (UU j) i.symm (B4 c.2.2) (λl f=>B4<|c.2.1 l f)];rfl)];unfold i9;cases(List.range q.1.toNat).any λv=>((OK id x.1 x.2 (v:Int) x.2.length:Nat):Int)!=1<;>rfl
def AbM{q x}(h:Th q)(c:Zu x):FSQ q x=some (Z3 q x):=by
 unfold FSQ Z3;simp only[Zs h,AV,WE (B4 c.2.2)];rw[show((x.2.length:Int)!=(x.1.length:Int))= !((x.2.length:Int)==(x.1.length:Int))from rfl];cases n:JZ q with
 |false=>rfl
 |true=>
  cases g:((x.2.length:Int)==(x.1.length:Int))with
  |false=>rfl
  |true=>
   have j:=Xe g;simp only[An,Ab,AL];by_cases m:0<=LA x.2
   ·rw[Af (by omega:¬LA x.2 < 0),Ab]
    have d:Ap (Gf q x) fz 0=some (cond (Bt x.1 λi b=> !Tw q.1 b || !Qe x.2 i) (.inr false)<|.inl ()):=by
     unfold Bt;refine DJ (λk=>Hg x.1 k λb=> !Tw q.1 b || !Qe x.2 k) (B4 c.1) (λk e o=>?_) (λrec=>by unfold Gf;rw[Bc];rfl);unfold Gf;rw[Bi e,wX c.2.2,AI e,Bm e (Ba<|B4 c.1),BV e];simp only[Ac,AV,WE (B4 c.2.2),AbL (B4<|c.2.1 _<|Ad e)];cases Tw q.1 x.1[k]with
     |false=>rfl
     |true=>simp only[An,Ab,C3];exact m8 c.2.2 (by omega) _ _
    have f:T5 x.2= !Bt x.1 λi _=> !Qe x.2 i:=by unfold T5;rw[Ai m,AL,nY j]
    rw[d,AV,U1,f];cases p:(Bt x.1 λi _=> !Qe x.2 i)with
    |true=>cases(Bt x.1 λ_ b=> !Tw q.1 b)<;>rfl
    |false=>
     have r:wide x.2:=UU (by rw[VE,f,p];rfl);cases(Bt x.1 λ_ b=> !Tw q.1 b)with
     |true=>rfl
     |false=>
      simp only[Ab,CF,AL,FC];rw[AjF h c,AV];cases(Bt q.2.1 λ_ a=> !x.1.any (UH a))with
      |true=>rfl
      |false=>simp only[Ab,CF,AL];rw[ZM (Sg n) (λv=>((OK id x.1 x.2 v x.2.length:Nat):Int)) (λrec v=>by unfold Mu;have:=Aah (ls:=x.1) r j.symm (B4 c.2.2) (λl g=>B4<|c.2.1 l g) v;rw[show(x.1,x.2)=x from rfl]at this;rw[this];rfl)];unfold i9;cases(List.range q.1.toNat).any λv=>((OK id x.1 x.2 (v:Int) x.2.length:Nat):Int)!=1<;>rfl
   ·rw[Ai (by omega:LA x.2 < 0)];have f:T5 x.2=false:=by unfold T5;rw[Af m,Hx]
    rw[f];rfl
abbrev Pln:=Int×zI×zI×(List zI×zI)
def ry(p:Pln):Prop:=p.2.1.length<=lim∧p.2.2.1.length < lim∧Zu p.2.2.2
def s8(q:Jz)(p:Pln):Bool:=cond (p.1==1) (jtB q p.2.2.1)<|cond (p.1==2) (Z3 q p.2.2.2)<|cond (p.1==3) (TB q p.2.1) false
def AjJ{q p}(a:Th q)(b:ry p):N3 q p=some (s8 q p):=by unfold N3 s8;simp only[AjG a b.2.1,AbM a b.2.2,ro a b.1,AV];cases p.1==1<;>cases p.1==2<;>cases p.1==3<;>rfl
def Pp(p:zI)(i:Nat):Option Nat:=if 0<=VF p i then some (VF p i).toNat else none
def Oe(p:zI)(i:Nat):zN:=(List.range p.length).filter λc=>Pp p c==some i
def dpN(p:zI)(i:Nat):Nat:=(Er p (p.length+1) i).length - 1
def rc{p}:∀(m:Nat) (a:Int),(Er p m a).length < m->Er p (m+1) a=Er p m a
 |0,_,h=>by omega
 |m+1,a,h=>by
  rw[show Er p (m+1+1) a=if 0<=a∧a < (p.length:Int)then a::Er p (m+1) (VF p a)else []from rfl,show Er p (m+1) a=if 0<=a∧a < (p.length:Int)then a::Er p m (VF p a)else []from rfl];rw[Er]at h;by_cases b:0<=a∧a < (p.length:Int)
  ·rw[Aw b]at h;rw[Aw b,Aw b,rc m (VF p a) (by rw[AD]at h;omega)]
  ·rw[Ay b,Ay b]
def pu{p}(h:UT p=true):wide p∧(∀i,i < p.length->(Er p (p.length+1) (i:Int)).length<=p.length)∧∃r:Nat,LA p=(r:Int)∧r < p.length∧VF p r= -1∧∀i,i < p.length->VF p i= -1->i=r:=by have a:=h;rw[VE]at a;unfold T5 at a;rw[Aa,Bf,AH]at a;have⟨r,e,d⟩:=nj a.1;have⟨⟨b,c⟩,f⟩:=cN.1 d;rw[BV b,BG]at c;refine⟨UU h,λi hi=>?_,r,e,b,by rw[ja b];exact c,λi hi g=>f i hi<|by rw[BV hi,BG,<-ja hi];exact g⟩;have:=FJ a.2 hi;unfold Qe at this;rw[Dm,Aa,Bf]at this;exact this.1
def WQ{p}(h:UT p=true):∃r:Nat,LA p=(r:Int)∧TrN p.length r (Pp p) (Oe p) (dpN p):=by
 have⟨m,g,r,e,n,o,q⟩:=pu h;have d:∀i,i < p.length->(Er p (p.length+1) (i:Int)).length=(Er p p.length<|VF p i).length+1:=λi hi=>by rw[Er,Aw ⟨by omega,by omega⟩,AD]
 refine⟨r,e,n,?_,λi hi j=>?_,λi c=>?_,λi=>H7 E7 Ed,λi hi=>?_⟩
 ·unfold Pp;rw[o];rfl
 ·have t:=cW m (a:=(i:Int)) (by omega) (by omega);have u:VF p i≠ -1:=λe=>j<|q i hi e
  have s:0<=VF p i:=by omega
  have k:((VF p i).toNat:Int)=VF p i:=by omega
  refine⟨(VF p i).toNat,by unfold Pp;rw[Aw s],by omega,?_⟩;have a:=d i hi;have b:=g i hi;have l:=d (VF p i).toNat (by omega);have f:=g (VF p i).toNat (by omega);unfold dpN;rw[k]at l f;rw[k];have st:=rc (p:=p) p.length (VF p i) (by omega);rw[st]at l f⊢;rw[a];omega
 ·unfold Oe;rw[Bj,AB,BG]
 ·have:=g i hi;have a:=d i hi;unfold dpN;omega
abbrev Row:=zI
def SJ:∀a:Row,Eh a a=0
 |[]=>rfl
 |x::a=>by rw[Eh,Ay (by omega),Ay (by omega)];exact SJ a
def RA:∀{a b:Row},Eh a b=0->a=b
 |[],[],_=>rfl
 |[],_::_,h=>by simp[Eh]at h
 |_::_,[],h=>by simp[Eh]at h
 |x::a,y::b,h=>by
  rw[Eh]at h;split at h
  ·simp at h
  ·split at h
   ·simp at h
   ·have:x=y:=by omega
    rw[this,RA h]
def cmp_neg:∀a b:Row,Eh b a= - Eh a b
 |[],[]=>rfl
 |[],_::_=>rfl
 |_::_,[]=>rfl
 |x::a,y::b=>by
  rw[Eh,Eh];by_cases c:x < y
  ·rw[Ay (by omega),Aw c,Aw c];rfl
  ·rw[Ay c];by_cases d:y < x
   ·rw[Aw d,Aw d,Ay c]
   ·rw[Ay d,Ay d,Ay c];exact cmp_neg a b
def NK:∀{a b c:Row},Eh a b < 0->Eh b c < 0->Eh a c < 0
 |[],[],_,h,_=>by simp[Eh]at h
 |[],_::_,[],_,h=>by simp[Eh]at h
 |[],_::_,_::_,_,_=>by simp[Eh]
 |_::_,[],_,h,_=>by simp[Eh]at h
 |_::_,_::_,[],_,h=>by simp[Eh]at h
 |x::a,y::b,z::c,e,d=>by
  rw[Eh]at e d⊢;by_cases j:x < y
  ·by_cases g:y < z
   ·rw[Aw (by omega)];simp
   ·rw[Ay g]at d;by_cases f:z < y
    ·rw[Aw f]at d;simp at d
    ·rw[Aw (by omega)];simp
  ·rw[Ay j]at e;by_cases f:y < x
   ·rw[Aw f]at e;simp at e
   ·rw[Ay f]at e;by_cases g:y < z
    ·rw[Aw (by omega)];simp
    ·rw[Ay g]at d;by_cases i:z < y
     ·rw[Aw i]at d;simp at d
     ·rw[Ay i]at d;rw[Ay (by omega),Ay (by omega)];exact NK e d
def WW(l:List Row):Prop:=l.Pairwise λa b=>Eh a b < 0
def xk:∀{a b:List Row},WW a->WW b->(∀x,x∈a↔x∈b)->a=b
 |[],[],_,_,_=>rfl
 |[],y::b,_,_,h=>by have:=(h y).2 (by simp);simp at this
 |x::a,[],_,_,h=>by have:=(h x).1 (by simp);simp at this
 |x::a,y::b,ha,hb,h=>by
  have⟨a1,a2⟩:=Cn.1 ha;have⟨b1,b2⟩:=Cn.1 hb
  have hxy:x=y:=by
   rcases AE.1 ((h x).1<|by simp)with e|hx
   ·exact e
   ·rcases AE.1 ((h y).2<|by simp)with e|hy
    ·exact e.symm
    ·have h1:=b1 x hx;have h2:=a1 y hy;have:=cmp_neg x y;omega
  subst hxy;have hne:∀z∈a,z≠x:=λz hz e=>by subst e;have:=a1 z hz;rw[SJ]at this;omega
  have hne':∀z∈b,z≠x:=λz hz e=>by subst e;have:=b1 z hz;rw[SJ]at this;omega
  rw[xk a2 b2 (λz=>⟨λhz=>(AE.1<|(h z).1<|by simp[hz]).resolve_left<|hne z hz,λhz=>(AE.1<|(h z).2<|by simp[hz]).resolve_left<|hne' z hz⟩)]
def Yn(x:Row):List Row->List Row
 |[]=>[x]
 |y::l=>if Eh x y < 0 then x::y::l else if Eh x y=0 then y::l else y::Yn x l
def sortB(l:List Row):List Row:=l.foldr Yn []
def j0(x:Row):∀(l:List Row) (z:Row),z∈Yn x l↔z=x∨z∈l
 |[],z=>by simp[Yn]
 |y::l,z=>by
  rw[Yn];split
  ·simp
  ·split
   ·rename_i _ h;rw[RA h];simp
   ·rw[AE,j0 x l z,AE];constructor
    ·rintro(h|h|h)<;>simp[h]
    ·rintro(h|h|h)<;>simp[h]
def qE(x:Row):∀(l:List Row),WW l->WW (Yn x l)
 |[],_=>D2 _ _
 |y::l,h=>by
  have⟨b,d⟩:=Cn.1 h;rw[Yn];split
  ·rename_i c;refine Cn.2 ⟨λz a=>?_,h⟩;rcases AE.1 a with rfl|a
   ·exact c
   ·exact NK c<|b z a
  ·split
   ·exact h
   ·rename_i e f;refine Cn.2 ⟨λz a=>?_,qE x l d⟩;rcases(j0 x l z).1 a with rfl|a
    ·have:=cmp_neg z y;omega
    ·exact b z a
def Qn:∀l:List Row,WW (sortB l)
 |[]=>List.Pairwise.nil
 |x::l=>qE x _<|Qn l
def Mt:∀(l:List Row) (z:Row),z∈sortB l↔z∈l
 |[],z=>CY
 |x::l,z=>by rw[show sortB (x::l)=Yn x (sortB l)from rfl,j0,Mt l z,AE]
def Zz{l r}(a:WW r)(b:∀z,z∈r↔z∈l):r=sortB l:=xk a (Qn l) (λz=>by rw[b,Mt])
def qz(x:Row):∀l:List Row,(Yn x l).length<=l.length+1
 |[]=>by simp[Yn]
 |y::l=>by
  rw[Yn];split
  ·simp
  ·split
   ·simp
   ·have:=qz x l;simp;omega
def ND:∀l:List Row,(sortB l).length<=l.length
 |[]=>by simp[sortB]
 |x::l=>by have a:=ND l;have b:=qz x<|sortB l;rw[show sortB (x::l)=Yn x (sortB l)from rfl,AD];omega
def GV{S O:Type}{B}(I:S->Prop)(μ:S->Nat)(R:O->Prop)(h:∀s,I s->(∃o,R o∧∀a,B a s=some o)∨∃b,I b∧μ b < μ s∧∀a,B a s=a b):∀(m:Nat) (s:S),I s->μ s < m->∃o,Ap B m s=some o∧R o
 |0,_,_,d=>by omega
 |m+1,s,e,d=>by
  rw[CM];rcases h s e with⟨o,f,c⟩|⟨b,g,i,c⟩
  ·exact⟨o,c _,f⟩
  ·rw[c];exact GV I μ R h m b g (by omega)
def MM{α:Type}(x:α)(l:List α):C2 (x::l) 1 ((x::l).length:Int)=l:=by unfold C2;rw[Aq,AT];rfl
def OB{α β:Type}(x:α)(l:List α)(y:Option β):chk ((0:Int)<=1∧1<=(List.length (x::l):Int)∧(List.length (x::l):Int)<=(List.length (x::l):Int)) y=y:=A1 (by simp only[AD];omega)
def Ud{α:Type}(x:α)(l:List α):AN (x::l) 0=some x:=rfl
def Qf{α:Type}(x:α)(l:List α):decide (0 < ((x::l).length:Int))=true:=Ai (by simp only[AD];omega)
def Q8{α:Type}(x:α)(l:List α):(((x::l).length:Int)==0)=false:=by simp only[AD,Cg];omega
section
variable {A0 B0:List Row}
abbrev Xx:=Nat×Row
structure MInv (A0 B0:List Row) (a b out:List Xx):Prop where
 nd:((out++(a++b)).map (·.1)).Nodup
 at_:∀p∈out++(a++b),(A0++B0)[p.1]? =some p.2
 so:WW (out.map (·.2))
 sa:WW (a.map (·.2))
 sb:WW (b.map (·.2))
 lt:∀x∈out,∀y∈a++b,Eh x.2 y.2 < 0
 mem:∀z,(z∈(out++(a++b)).map (·.2))↔z∈A0++B0
 len:∀p∈a++b,p.2.length<=lim
 few:out.length+a.length+b.length<=lim
theorem fL{l:List Row}{x:Row}(h:WW l)(hx:∀y∈l,Eh y x < 0):WW (l++[x]):=by
 unfold WW
 rw[GX]
 exact⟨h,D2 _ _,λa ha b hb=>by rw[AC]at hb;subst hb;exact hx a ha⟩
def MInv.takeA{x:Xx}{a b out}(h:MInv A0 B0 (x::a) b out)(g:∀y∈b,Eh x.2 y.2 < 0):MInv A0 B0 a b (out++[x]):=by
 have f:=h.sa;rw[AM]at f;have⟨s1,s2⟩:=Cn.1 f;have e:out++[x]++(a++b)=out++(x::a++b):=by simp
 refine⟨by rw[e];exact h.nd,by rw[e];exact h.at_,?_,s2,h.sb,?_,by rw[e];exact h.mem,λp c=>h.len p (by simp only[BY,AE];exact .inr c),by have:=h.few;simp only[Au,AD,Cl]at this⊢;omega⟩
 ·rw[Bd];exact fL h.so (λy d=>by obtain⟨p,c,rfl⟩:=A5.1 d;exact h.lt p c x<|by simp)
 ·intro p c y d;rcases Ak.1 c with c|c
  ·exact h.lt p c y (by simp only[BY,AE];exact .inr d)
  ·rw[AC]at c;subst c;rcases Ak.1 d with d|d
   ·exact s1 y.2<|Cu d
   ·exact g y d
def MInv.takeB{y:Xx}{a b out}(h:MInv A0 B0 a (y::b) out)(g:∀x∈a,Eh y.2 x.2 < 0):MInv A0 B0 a b (out++[y]):=by
 have f:=h.sb;rw[AM]at f;have⟨s1,s2⟩:=Cn.1 f;have e:(out++[y]++(a++b)).Perm (out++(a++y::b)):=by rw[Bk];exact List.Perm.append_left _ (by rw[Gy];exact(List.perm_middle (l₁:=a)).symm)
 refine⟨((e.map _).nodup_iff).2 h.nd,λp c=>h.at_ p<|e.mem_iff.1 c,?_,h.sa,s2,?_,λz=>by rw[(e.map _).mem_iff];exact h.mem z,λp c=>h.len p (by rcases Ak.1 c with c|c<;>simp[c]),by have:=h.few;simp only[Au,AD,Cl]at this⊢;omega⟩
 ·rw[Bd];exact fL h.so (λz d=>by obtain⟨p,c,rfl⟩:=A5.1 d;exact h.lt p c y<|by simp)
 ·intro p c z d;rcases Ak.1 c with c|c
  ·exact h.lt p c z (by rcases Ak.1 d with d|d<;>simp[d])
  ·rw[AC]at c;subst c;rcases Ak.1 d with d|d
   ·exact g z d
   ·exact s1 z.2<|Cu d
def MInv.Agb{x y:Xx}{a b out}(h:MInv A0 B0 (x::a) (y::b) out)(e:x.2=y.2):MInv A0 B0 a b (out++[x]):=by
 have sb:=h.sb;rw[AM]at sb;have⟨s1,s2⟩:=Cn.1 sb;have h2:MInv A0 B0 (x::a) b out->MInv A0 B0 a b (out++[x]):=λh'=>h'.takeA (λz hz=>by rw[e];exact s1 z.2<|Cu hz)
 refine h2 ?_;have sub2:∀{z:Xx},z∈x::a++b->z∈x::a++y::b:=λhz=>(MQ (List.Sublist.refl _)<|List.sublist_cons_self _ _).subset hz
 have sub:List.Sublist (out++(x::a++b)) (out++(x::a++y::b)):=MQ (List.Sublist.refl _)<|MQ (List.Sublist.refl _)<|List.sublist_cons_self _ _;refine⟨h.nd.sublist<|sub.map _,λp hp=>h.at_ p<|sub.subset hp,h.so,h.sa,s2,λp hp z hz=>h.lt p hp z<|sub2 hz,λz=>?_,λp hp=>h.len p<|sub2 hp,by have:=h.few;simp only[AD]at this⊢;omega⟩;rw[<-h.mem z];constructor
 ·intro hz;exact(sub.map _).subset hz
 ·intro hz;obtain⟨p,hp,rfl⟩:=A5.1 hz;by_cases hy:p=y
  ·subst hy;rw[<-e];exact Cu (by simp)
  ·refine Cu ?_;simp only[Ak,AE]at hp⊢;rcases hp with hp|(hp|hp)|hp|hp
   ·exact .inl hp
   ·exact .inr<|.inl<|.inl hp
   ·exact .inr<|.inl<|.inr hp
   ·exact absurd hp hy
   ·exact .inr<|.inr hp
def qM{x y:Xx}{b}(c:WW ((y::b).map (·.2)))(h:Eh x.2 y.2 < 0):∀z∈y::b,Eh x.2 z.2 < 0:=by
 rw[AM]at c;have⟨s1,s2⟩:=Cn.1 c;intro z a;rcases AE.1 a with rfl|a
 ·exact h
 ·exact NK h<|s1 z.2<|Cu a
def yH{a b}(g:MInv A0 B0 a b []):∃o,Ap ER fz (a,b,([]:List Xx))=some o∧MInv A0 B0 [] [] o:=by
 refine GV (B:=ER) (λs=>MInv A0 B0 s.1 s.2.1 s.2.2) (λs=>s.1.length+s.2.1.length) (λo=>MInv A0 B0 [] [] o) ?_ fz (a,b,[]) g (by have:=g.few;simp at this⊢;unfold lim at this;unfold fz;omega);rintro⟨a,b,out⟩ h;change MInv A0 B0 a b out at h;have d:=h.few;cases a with
 |nil=>
  cases b with
  |nil=>exact .inl ⟨out,h,λrec=>rfl⟩
  |cons y b=>refine .inr ⟨([],b,out++[y]),h.takeB (by simp),by simp,λrec=>?_⟩;simp only[ER,H2,Cl,Qf,Int.natCast_zero];rw[show decide ((0:Int) < 0)=false from rfl];simp only[Ab,Ac,show((0:Int)==0)=true from rfl,GU,H3,Ud,G];rw[show decide ((1:Int)<=0)=false from rfl,show decide ((0:Int)<=1)=true from rfl,show decide ((0:Int) < 1)=true from rfl];simp only[Ab,Ac];rw[A1 (by simp only[AD,Cl]at d⊢;omega)];simp only[Lo,OB,MM]
 |cons x a=>
  cases b with
  |nil=>refine .inr ⟨(a,[],out++[x]),h.takeA (by simp),by simp,λrec=>?_⟩;simp only[ER,H2,Qf,Ac,Q8,Ab,Cl];rw[show decide ((0:Int) < ((0:Nat):Int))=false from rfl];simp only[Ab,GU,Ud,G];rw[show decide ((-1:Int)<=0)=true from rfl,Ac,A1 (by simp only[AD,Cl]at d⊢;omega)];simp only[OB,MM,H3];rfl
  |cons y b=>
   have c:=h.len x (by simp);rcases Int.lt_trichotomy (Eh x.2 y.2) 0 with e|e|e
   ·refine .inr ⟨(a,y::b,out++[x]),h.takeA<|qM h.sb e,by simp,λrec=>?_⟩;simp only[ER,H2,Qf,Ac,Q8,Ab,Ud,G,io c,GU];rw[Ai (by omega:Eh x.2 y.2<=0),Ac,A1 (by simp only[AD,Cl]at d⊢;omega)];simp only[OB,MM,H3];rw[Af (by omega:¬0<=Eh x.2 y.2),Ab]
   ·refine .inr ⟨(a,b,out++[x]),h.Agb<|RA e,by simp;omega,λrec=>?_⟩;simp only[ER,H2,Qf,Ac,Q8,Ab,Ud,G,io c,GU];rw[Ai (by omega:Eh x.2 y.2<=0),Ac,A1 (by simp only[AD,Cl]at d⊢;omega)];simp only[OB,MM,H3];rw[Ai (by omega:0<=Eh x.2 y.2),Ac,Af (by omega:¬0 < Eh x.2 y.2),Ab];simp only[Lo,OB,MM]
   ·have f:Eh y.2 x.2 < 0:=by have:=cmp_neg x.2 y.2;omega
    refine .inr ⟨(x::a,b,out++[y]),h.takeB<|qM h.sa f,by simp,λrec=>?_⟩;simp only[ER,H2,Qf,Ac,Q8,Ab,Ud,G,io c,GU];rw[Af (by omega:¬Eh x.2 y.2<=0),Ab];simp only[H3,Ud,G];rw[Ai (by omega:0<=Eh x.2 y.2),Ac,Ai (by omega:0 < Eh x.2 y.2),Ac,A1 (by simp only[AD,Cl]at d⊢;omega)];simp only[Lo,OB,MM]
def qV{l}:∀(o:List Xx) (a:zN),(o.map (·.1)).Nodup->(∀p∈o,p.1∉a)->(∀p∈o,l[p.1]? =some p.2)->okJ l (o.map Sum.inl) a=true
 |[],_,_,_,_=>rfl
 |p::o,a,c,d,f=>by rw[AM]at c;have⟨g,h⟩:=BF.1 c;simp only[AM,okJ,f p (by simp),Dj,AL,Aa,AH];refine⟨by simpa using d p (by simp),qV o _ h (λq b=>?_)<|λq b=>f q<|by simp[b]⟩;simp only[AE,not_or];exact⟨λe=>g (by rw[<-e];exact Cu b),d q<|by simp[b]⟩
def QW:∀(k:Nat) (l:List Row),(GO k l).map (·.2)=l
 |_,[]=>rfl
 |k,x::l=>by rw[GO,AM,QW (k+1) l]
def Z8:∀(k:Nat) (l:List Row),(GO k l).map (·.1)=List.range' k l.length
 |_,[]=>rfl
 |k,x::l=>by rw[GO,AM,Z8 (k+1) l,AD,DR]
def dH:∀(k:Nat) (l:List Row) (p:Xx),p∈GO k l->k<=p.1∧l[p.1 - k]? =some p.2
 |_,[],p,h=>by simp[GO]at h
 |k,x::l,p,h=>by
  rw[GO]at h;rcases AE.1 h with rfl|h
  ·simp
  ·have⟨b,a⟩:=dH (k+1) l p h;refine⟨by omega,?_⟩;rw[show p.1 - k=(p.1 - (k+1))+1 by omega];simpa using a
def tq(d:WW A0)(e:WW B0)(g:A0.length+B0.length<=lim)(i:∀x∈A0++B0,x.length<=lim):MInv A0 B0 (GO 0 A0) (GO A0.length B0) []:=by
 refine⟨?_,?_,List.Pairwise.nil,by rw[QW];exact d,by rw[QW];exact e,by simp,?_,?_,by simp[W9];exact g⟩
 ·rw[BI,Bd,Z8,Z8,show List.range' 0 A0.length++List.range' A0.length B0.length=List.range' 0 (A0.length+B0.length)by have:=List.range'_append_1 (s:=0) (m:=A0.length) (n:=B0.length);rwa [CH]at this];exact List.nodup_range'
 ·intro p a;rw[BI]at a;rcases Ak.1 a with a|a
  ·have⟨_,b⟩:=dH 0 A0 p a;rw[Nat.sub_zero]at b
   have c:p.1 < A0.length:=by
    rcases Bb p.1 A0.length with h|h
    ·exact h
    ·rw[Bu h]at b;cases b
   rw[BZ c];exact b
  ·have⟨j,b⟩:=dH A0.length B0 p a;rw[BT j];exact b
 ·intro z;rw[BI,Bd,QW,QW]
 ·intro p a;refine i p.2 ?_;rcases Ak.1 a with a|a
  ·have:=Cu (f:=λx:Xx=>x.2) a;rw[QW]at this;simp[this]
  ·have:=Cu (f:=λx:Xx=>x.2) a;rw[QW]at this;simp[this]
end
def qq{n:Nat}(a:n<=lim):wZ (Int.tdiv (n:Int) 2)=((n / 2:Nat):Int):=by rw[show Int.tdiv (n:Int) 2=((n / 2:Nat):Int)by rw[IOQ (by omega)];omega];exact wrap_in (by unfold lim at a;omega)
def dX:∀(m:Nat) (l:List Row),l.length < m->l.length<=lim->(∀r∈l,r.length<=lim)->Ap KI m l=some (sortB l)
 |0,_,h,_,_=>by omega
 |m+1,l,q,e,b=>by
  rw[CM,KI];by_cases d:(l.length:Int) < 2
  ·rw[Ai d,Ac,qt ⟨e,b⟩]
   have:WW l:=by
    match l,d with
    |[],_=>exact List.Pairwise.nil
    |[x],_=>exact D2 _ _
    |x::y::l,h=>simp at h;omega
   simp only[G];rw[<-Zz this (λz=>CY)]
  ·rw[Af d,Ab,qq e];have f:C2 l 0 ((l.length / 2:Nat):Int)=l.take (l.length / 2):=by unfold C2;rw[Aq];rfl
   have g:C2 l ((l.length / 2:Nat):Int) (l.length:Int)=l.drop (l.length / 2):=by unfold C2;rw[Aq,Aq,AT]
   have i:(l.take<|l.length / 2).length < m:=by rw[At];omega
   have j:(l.drop<|l.length / 2).length < m:=by rw[Bx];omega
   rw[A1 (by omega),f,dX m _ i (by rw[At];omega) (λr h=>b r<|CB h)];simp only[G];rw[A1 (by omega),g,dX m _ j (by rw[Bx];omega) (λr h=>b r<|GW h)];have s1:=ND<|l.take<|l.length / 2;have s2:=ND<|l.drop<|l.length / 2;rw[At]at s1;rw[Bx]at s2;have a:∀z,z∈sortB (l.take<|l.length / 2)++sortB (l.drop<|l.length / 2)↔z∈l:=λz=>by rw[Ak,Mt,Mt,<-Ak,Bv]
   have⟨o,k,c⟩:=yH<|tq (Qn<|l.take<|l.length / 2) (Qn<|l.drop<|l.length / 2) (by omega)<|λx n=>b x<|(a x).1 n
   simp only[k];rw[A1 (qV o [] (by have:=c.nd;simpa using this) (by simp) (by have:=c.at_;simpa using this))];have p:List.map getM (List.map Sum.inl o)=o.map (·.2):=by rw[EU];rfl
   rw[p,Zz (l:=l) c.so (λz=>by have:=c.mem z;simp only[AR]at this;rw[this,a])]
theorem oK{l:List Row}(h:GN l):RH l=some (sortB l):=dX fz l (DN h.1) h.1 h.2
structure SInv (l0:List Row) (a b out:List Row):Prop where
 so:WW out
 sa:WW a
 sb:WW b
 le:∀x∈out,∀y∈a++b,Eh x y<=0
 mem:∀z,z∈out++(a++b)↔z∈l0
 len:∀p∈out++(a++b),p.length<=lim
 few:out.length+a.length+b.length<=lim
def Zn(out:List Row)(x:Row):List Row:=match out.getLast? with
 |none=>[x]
 |some y=>if Eh y x=0 then out else out++[x]
theorem push_inv{l0 a b a' b' out:List Row}{x:Row}(h:SInv l0 a b out)(ha:WW a')(hb:WW b')(hlt:∀y∈a'++b',Eh x y<=0)(hx:x∈a++b)(hm:∀z,z∈x::(a'++b')↔z∈a++b)(hf:1+a'.length+b'.length<=a.length+b.length):SInv l0 a' b' (Zn out x)∧(Zn out x).length<=out.length+1:=by
 have hxl:=h.len x (by simp only[Ak]at hx⊢;exact .inr hx)
 have key:∀out',WW out'->(∀z,z∈out'↔z∈out∨z=x)->out'.length<=out.length+1->SInv l0 a' b' out'∧out'.length<=out.length+1:=λout' s m l=>by
  have hsub:∀y,y∈a'++b'->y∈a++b:=λy hy=>(hm y).1 (by simp only[AE];exact .inr hy)
  refine⟨⟨s,ha,hb,λy hy z hz=>?_,λz=>?_,λp hp=>?_,by have:=h.few;omega⟩,l⟩
  ·rcases(m y).1 hy with hy|rfl
   ·exact h.le y hy z (hsub z hz)
   ·exact hlt z hz
  ·rw[<-h.mem z,(Ak:z∈out'++(a'++b')↔_),(Ak:z∈out++(a++b)↔_),m z,<-hm z,AE]
   constructor
   ·rintro((h|h)|h)
    ·exact .inl h
    ·exact .inr (.inl h)
    ·exact .inr (.inr h)
   ·rintro(h|h|h)
    ·exact .inl (.inl h)
    ·exact .inl (.inr h)
    ·exact .inr h
  ·rcases Ak.1 hp with hp|hp
   ·rcases(m p).1 hp with hp|rfl
    ·exact h.len p (by simp[hp])
    ·exact hxl
   ·exact h.len p (Az _ (hsub p hp))
 unfold Zn
 cases hl:out.getLast? with
 |none=>
  have:out=[]:=by simpa using hl
  subst this
  exact key [x] (D2 _ _) (λz=>by simp) (by simp)
 |some y=>
  simp only
  have hy:y∈out:=List.mem_of_getLast? hl
  have hyx:=h.le y hy x hx
  split
  ·rename_i hc
   have hxy:=RA hc
   refine key out h.so (λz=>⟨.inl,λhz=>hz.elim id (λe=>by rw[e,<-hxy];exact hy)⟩) (by omega)
  ·rename_i hc
   refine key (out++[x]) (fL h.so (λz hz=>?_)) (λz=>by simp) (by simp)
   have hzy:z=y∨Eh z y < 0:=by
    obtain⟨ys,e⟩:=List.getLast?_eq_some_iff.1 hl
    rw[e]at hz
    rcases Ak.1 hz with hz|hz
    ·right
     have:=h.so
     rw[e]at this
     exact(GX.1 this).2.2 z hz y (by simp)
    ·left;simpa using hz
   rcases hzy with rfl|hzy
   ·omega
   ·exact NK hzy (by omega)
theorem kK{rec:(List Row×List Row×List Row)->Option (List Row)}{out a b:List Row}{x:Row}(hl:∀r∈out,r.length<=lim)(hf:out.length+1<=lim):NI rec out a b x=rec (a,b,Zn out x):=by
 unfold NI Zn
 cases hg:out.getLast? with
 |none=>
  have:out=[]:=by simpa using hg
  subst this
  simp only[Cl,show(((0:Nat):Int)==0)=true from rfl,Ac,NJ]
  rw[A1 (by simp;unfold lim;omega)];rfl
 |some y=>
  obtain⟨ys,e⟩:=List.getLast?_eq_some_iff.1 hg
  have hpos:0 < out.length:=by rw[e];simp
  have h0:((out.length:Int)==0)=false:=by rw[Cg];omega
  have hgi:AN out (wZ ((out.length:Int) - 1))=some y:=by
   rw[wrap_in (by unfold lim at hf;omega),show(out.length:Int) - 1=((out.length - 1:Nat):Int)by omega,Hp,e]
   simp
  rw[h0,Ab,hgi]
  simp only[G,WD (hl y (List.mem_of_getLast? hg)),NJ]
  by_cases hc:Eh y x=0
  ·rw[Aw hc,show(Eh y x !=0)=false by rw[hc];rfl,Ab]
  ·rw[Ay hc,show(Eh y x !=0)=true by simpa using hc,Ac,A1 (by simpa using hf)]
def Aaj{l0 a b}(n:SInv l0 a b []):∃o,Ap FA fz (a,b,([]:List Row))=some o∧SInv l0 [] [] o:=by
 refine GV (B:=FA) (λs=>SInv l0 s.1 s.2.1 s.2.2) (λs=>s.1.length+s.2.1.length) (λo=>SInv l0 [] [] o) ?_ fz (a,b,[]) n (by have:=n.few;simp at this⊢;unfold lim at this;unfold fz;omega);rintro⟨a,b,out⟩ h;change SInv l0 a b out at h;have i:=h.few;have d:∀r∈out,r.length<=lim:=λr t=>h.len r (by simp[t])
 cases a with
 |nil=>
  cases b with
  |nil=>exact .inl ⟨out,h,λrec=>rfl⟩
  |cons y b=>have⟨s1,s2⟩:=Cn.1 h.sb;have⟨e,j⟩:=push_inv (x:=y) (a':=[]) (b':=b) h List.Pairwise.nil s2 (λz c=>by have:=s1 z (by simpa using c);omega) (by simp) (λz=>by simp) (by simp;omega);refine .inr ⟨([],b,Zn out y),e,by simp,λrec=>?_⟩;simp only[FA,JJ,Cl,Qf,Int.natCast_zero];rw[show decide ((0:Int) < 0)=false from rfl];simp only[Ab,Ac,show((0:Int)==0)=true from rfl,Ij,Ud,G];rw[show decide ((0:Int) < 1)=true from rfl];simp only[Ac,OB,MM];exact kK d (by simp at i;omega)
 |cons x a=>
  have⟨k,p⟩:=Cn.1 h.sa;cases b with
  |nil=>have⟨e,j⟩:=push_inv (x:=x) (a':=a) (b':=[]) h p List.Pairwise.nil (λz c=>by have:=k z (by simpa using c);omega) (by simp) (λz=>by simp) (by simp;omega);refine .inr ⟨(a,[],Zn out x),e,by simp,λrec=>?_⟩;simp only[FA,JJ,Qf,Ac,Q8,Ab,Cl];rw[show decide ((0:Int) < ((0:Nat):Int))=false from rfl];simp only[Ab,Ij,Ud,G];rw[show decide ((0:Int) < -1)=false from rfl];simp only[Ab,OB,MM];exact kK d (by simp at i;omega)
  |cons y b=>
   have⟨s1,s2⟩:=Cn.1 h.sb;have f:=h.len x (by simp);by_cases q:0 < Eh x y
   ·have l:Eh y x < 0:=by have:=cmp_neg x y;omega
    have⟨e,j⟩:=push_inv (x:=y) (a':=x::a) (b':=b) h h.sa s2 (λz c=>by
     rcases Ak.1 c with c|c
     ·rcases AE.1 c with rfl|c
      ·omega
      ·have:=NK l<|k z c;omega
     ·have:=s1 z c;omega) (by simp) (λz=>by simp only[AE,Ak];constructor<;>(intro g;rcases g with g|(g|g)|g<;>simp_all)) (by simp;omega)
    refine .inr ⟨(x::a,b,Zn out y),e,by simp,λrec=>?_⟩;simp only[FA,JJ,Qf,Ac,Q8,Ab,Ud,G,WD f,Ij];rw[Ai q];simp only[Ac,OB,MM];exact kK d (by simp at i;omega)
   ·have m:Eh x y<=0:=by omega
    have⟨e,j⟩:=push_inv (x:=x) (a':=a) (b':=y::b) h p h.sb (λz c=>by
     rcases Ak.1 c with c|c
     ·have:=k z c;omega
     ·rcases AE.1 c with rfl|c
      ·exact m
      ·have u:=s1 z c;by_cases v:Eh x y=0
       ·rw[RA v];omega
       ·have:=NK (by omega:Eh x y < 0) u;omega) (by simp) (λz=>by simp) (by simp;omega)
    refine .inr ⟨(a,y::b,Zn out x),e,by simp,λrec=>?_⟩;simp only[FA,JJ,Qf,Ac,Q8,Ab,Ud,G,WD f,Ij];rw[Af q];simp only[Ab,OB,MM];exact kK d (by simp at i;omega)
def fx:∀(m:Nat) (l:List Row),l.length < m->l.length<=lim->(∀r∈l,r.length<=lim)->Ap KP m l=some (sortB l)
 |0,_,h,_,_=>by omega
 |m+1,l,t,g,d=>by
  rw[CM,KP];by_cases e:(l.length:Int) < 2
  ·rw[Ai e,Ac]
   have:WW l:=by
    match l,e with
    |[],_=>exact List.Pairwise.nil
    |[x],_=>exact D2 _ _
    |x::y::l,h=>simp at h;omega
   rw[<-Zz this (λz=>CY)]
  ·rw[Af e,Ab,qq g];have i:C2 l 0 ((l.length / 2:Nat):Int)=l.take (l.length / 2):=by unfold C2;rw[Aq];rfl
   have j:C2 l ((l.length / 2:Nat):Int) (l.length:Int)=l.drop (l.length / 2):=by unfold C2;rw[Aq,Aq,AT]
   have k:(l.take<|l.length / 2).length < m:=by rw[At];omega
   have n:(l.drop<|l.length / 2).length < m:=by rw[Bx];omega
   rw[A1 (by omega),i,fx m _ k (by rw[At];omega) (λr h=>d r<|CB h)];simp only[G];rw[A1 (by omega),j,fx m _ n (by rw[Bx];omega) (λr h=>d r<|GW h)];have s1:=ND<|l.take<|l.length / 2;have s2:=ND<|l.drop<|l.length / 2;rw[At]at s1;rw[Bx]at s2;have c:∀z,z∈sortB (l.take<|l.length / 2)++sortB (l.drop<|l.length / 2)↔z∈l:=λz=>by rw[Ak,Mt,Mt,<-Ak,Bv]
   have⟨o,q,f⟩:=Aaj (l0:=l) (a:=sortB<|l.take<|l.length / 2) (b:=sortB<|l.drop<|l.length / 2) ⟨List.Pairwise.nil,Qn _,Qn _,by simp,λz=>by rw[BI];exact c z,λp s=>d p<|(c p).1<|by simpa using s,by simp;omega⟩;simp only[q];rw[Zz (l:=l) f.so (λz=>by have:=f.mem z;simpa using this)]
theorem AfW{l:List Row}(h:GN l):WL l=some (sortB l):=fx fz l (DN h.1) h.1 h.2
def nL(l:zN):zI:=l.map λ(v:Nat)=>(v:Int)
def F4(l:zN):(nL l).length=l.length:=Aj _
def VS{l}{k:Nat}(h:k < l.length):AN (nL l) (k:Int)=some ((l[k]:Nat):Int):=by rw[AI (by rw[F4];exact h)];unfold nL;rw[BL]
def eN(a b:zN):nL (a++b)=nL a++nL b:=Bd
def xD{p}{i k:Nat}(hi:i < p.length):(Pp p i==some k)=(p[i]==(k:Int)):=by
 unfold Pp;rw[ja hi,BX,BG,BG];constructor
 ·intro h;split at h
  ·rw[Ar]at h;omega
  ·cases h
 ·intro h;rw[Aw (by omega),h];simp
def Ajx(n:Nat)(f:Nat->Bool):(List.range<|n+1).filter f=(List.range n).filter f++cond (f n) [n] []:=by rw[Fb,CA,Gn,EE];cases f n<;>rfl
def ft(n:Nat)(f:Nat->Bool):((List.range n).filter f).length<=n:=BC (Ca _ _) (by rw[C9];exact AJ _)
def AfR{p}(d:p.length<=lim)(k:Nat):JU p (k:Int)=some (nL<|Oe p k):=by
 have b:=CD (body:=E2 p (k:Int)) (out:=nL (Oe p k)) (λj=>(nL ((List.range j).filter λc=>Pp p c==some k),(j:Int))) p.length (λj a e=>by
  have f:=ft j λc=>Pp p c==some k
  unfold E2 HP HQ;simp only;rw[Bi a,Ac,AI a,AV,Bm a (Ba d),Ajx,xD a,eN,Ai (show(0:Int)<=(k:Int)by omega)];cases p[j]==(k:Int)with
  |true=>rw[Ac,Ac,A1 (by rw[F4,Al];omega)];rfl
  |false=>rw[Ab,Ab];simp[nL]) (λrec=>by unfold E2;simp only;rw[Bc];rfl) fz (DN d)
 unfold JU;rw[show((([]:zI),(0:Int)))=(nL<|(List.range 0).filter λc=>Pp p c==some k,((0:Nat):Int))from rfl,b];rfl
def oD{p}(d:p.length<=lim)(k:Nat):E6 p (k:Int)=some (nL<|Oe p k):=by
 have b:=CD (body:=E1 p (k:Int)) (out:=nL (Oe p k)) (λj=>(nL ((List.range j).filter λc=>Pp p c==some k),(j:Int))) p.length (λj a e=>by
  have f:=ft j λc=>Pp p c==some k
  unfold E1 HG HH;simp only;rw[Bi a,Ac,AI a,AV,Bm a (Ba d),Ajx,xD a,eN,Ai (show(0:Int)<=(k:Int)by omega)];cases p[j]==(k:Int)with
  |true=>rw[Ac,Ac,A1 (by rw[F4,Al];omega)];rfl
  |false=>rw[Ab,Ab];simp[nL]) (λrec=>by unfold E1;simp only;rw[Bc];rfl) fz (DN d)
 unfold E6;rw[show((([]:zI),(0:Int)))=(nL<|(List.range 0).filter λc=>Pp p c==some k,((0:Nat):Int))from rfl,b];rfl
def tf(p:zI):GR p=Dh p:=by
 have a:Kf p=Fz p:=by funext rec s;have⟨b,c⟩:=s;unfold Kf Fz Kg Ig;simp only;congr 2;funext e;unfold bne;cases e==(-1)<;>rfl
 unfold GR Dh;rw[a];rfl
def oJ{p}(a:p.length<=lim):GR p=some (LA p):=by rw[tf,WE a]
section
variable {p:zI}{r:Nat}{D:Nat->Nat}(hp:p.length<=lim)(h:TrN p.length r (Pp p) (Oe p) D)
include h
def wC{m k}(a:k < p.length)(b:p.length<=m+D k):(Jx (Oe p) m k).length<=p.length:=by
 obtain⟨c,d,-⟩:=wD h m k a b;have:=kg (m:=List.range p.length) d λx e=>AB.2 ((c x).1 e).1
 rwa [C9]at this
include hp
def AbO:∀(m k:Nat),k < p.length->p.length<=m+D k->∀f,m < f->Ap Hk f (p,(k:Int))=some (nL<|Jx (Oe p) m k)
 |0,k,e,g,_,_=>by have:=h.dn k e;omega
 |m+1,k,e,g,0,l=>by omega
 |m+1,k,e,g,f+1,l=>by
  have b:=wC h e g;rw[Jx,Au,Al]at b;have c:∀j,((Oe p k).take j).flatMap (Jx (Oe p) m)++((Oe p k).drop j).flatMap (Jx (Oe p) m)=(Oe p k).flatMap (Jx (Oe p) m):=λj=>by rw[<-CK,Bv]
  have d:∀j,(((Oe p k).take j).flatMap<|Jx (Oe p) m).length+1<=p.length:=λj=>by have:=congrArg List.length<|c j;rw[Au]at this;omega
  have n:(Oe p k).length<=p.length:=ft _ _
  have i:=CD (body:=N5 p (nL (Oe p k)) (Ap Hk f)) (out:=nL ((Oe p k).flatMap (Jx (Oe p) m))) (λj=>(nL (((Oe p k).take j).flatMap (Jx (Oe p) m)),(j:Int))) (Oe p k).length (λj a o=>by
   have q:=QL h<|Ad a;have s:=d<|j+1;rw[I0,Ae a,Ku,CK,Ax,Fv,AR,Au]at s;unfold N5;simp only;rw[F4,Bi a,Ac,VS a,AV,AbO m _ q.1 (by omega) f (by omega),AV,A1 (by rw[F4,F4];omega),Bm a (Ba (by omega)),I0,Ae a,Ku,CK,Ax,Fv,AR,eN]) (λrec=>by
   unfold N5;simp only;rw[F4,Bc,Ab,AT]) fz (DN (by omega))
  rw[CM,Hk,AfR hp,AV];rw[show((([]:zI),(0:Int)))=(nL<|((Oe p k).take 0).flatMap<|Jx (Oe p) m,((0:Nat):Int))from by simp[nL],i,AV,A1 (by rw[F4,Al];omega),Jx,eN];rfl
def AfS:OI p (r:Int)=some (nL<|Jx (Oe p) p.length r):=AbO hp h p.length r h.rn (by omega) fz<|DN hp
end
def ce(L:zI)(i:Nat):zI:=(List.range L.length).map λt=>L.getD (if t < i∨L.length - 1 - t < i then L.length - 1 - t else t) 0
def NC(L:zI)(i:Nat):(ce L i).length=L.length:=by unfold ce;rw[Aj,C9]
def Vz{L i t}(a:t < L.length):(ce L i)[t]'(by rw[NC];exact a)=L.getD (if t < i∨L.length - 1 - t < i then L.length - 1 - t else t) 0:=by unfold ce;rw[BL,Fw]
def Ac9{L}(k:L.length<=lim):Ap Mq fz (L,0,wZ<|(L.length:Int) - 1)=some L.reverse:=by
 rw[wrap_in (by unfold lim at k;omega)];have r:L=ce L 0:=Di (NC L 0).symm λt b c=>by rw[Vz b,Ay (by omega),AO,Ae b];rfl
 have d:∀i:Nat,L.length<=2 * i+1->ce L i=L.reverse:=λi hi=>Di (by rw[NC,C4]) λt b c=>by
  rw[NC]at b;rw[Vz b,Mc];by_cases n:t < i∨L.length - 1 - t < i
  ·rw[Aw n,AO,Ae (by omega)];rfl
  ·rw[Ay n,AO,Ae b];simp only[B8];congr 1;omega
 have⟨o,e,s⟩:=GV (B:=Mq) (λst=>∃i:Nat,st=(ce L i,(i:Int),(L.length:Int) - 1 - (i:Int))∧i<=L.length) (λst=>L.length - st.2.1.toNat) (λo=>o=L.reverse) (λst l=>by
  obtain⟨i,rfl,hi⟩:=l;by_cases f:(i:Int) < (L.length:Int) - 1 - (i:Int)
  ·right;obtain⟨j,u⟩:∃j:Nat,j=L.length - 1 - i:=⟨_,rfl⟩;have m:(L.length:Int) - 1 - (i:Int)=(j:Int):=by omega
   have g:i < L.length:=by omega
   have a:j < L.length:=by omega
   have g1:AN (ce L i) (j:Int)=some (L.getD j 0):=by rw[AI (by rw[NC];exact a),Vz a,Ay (by omega)]
   have g2:AN (ce L i) (i:Int)=some (L.getD i 0):=by rw[AI (by rw[NC];exact g),Vz g,Ay (by omega)]
   have h:En (En (ce L i) (i:Int)<|L.getD j 0) (j:Int) (L.getD i 0)=ce L (i+1):=by
    unfold En;rw[Aq,Aq];refine Di (by rw[Ch,Ch,NC,NC]) λt b c=>?_
    rw[NC]at c;rw[DQ,DQ,Vz c,Vz c];by_cases p:j=t
    ·subst p;rw[Aw rfl,Aw (by omega)];congr 1;omega
    ·rw[Ay p];by_cases c2:i=t
     ·subst c2;rw[Aw rfl,Aw (by omega)];congr 1
     ·rw[Ay c2];by_cases q:t < i∨L.length - 1 - t < i
      ·rw[Aw q,Aw (by omega)]
      ·rw[Ay q,Ay (by omega)]
   refine⟨_,⟨i+1,rfl,by omega⟩,by simp only[Aq];omega,λrec=>?_⟩;unfold lim at k;unfold Mq;simp only;rw[Ai f,Ac,A1 (by rw[NC];omega),m,g1,AV,g2,AV,AV];rw[show AN (En (ce L i) (i:Int) (L.getD j 0)) (j:Int)=some (L.getD j 0)from by unfold En;rw[AI (by rw[Ch,NC];exact a),DQ,Ay (by rw[Aq];omega),Vz a,Ay (by omega)],AV,h,wrap_in (by omega),wrap_in (by omega)];congr 3;omega
  ·left;refine⟨_,rfl,λrec=>?_⟩;unfold Mq;simp only;rw[Af f,Ab,d i (by omega)]) fz (L,0,(L.length:Int) - 1) ⟨0,by rw[<-r];simp,Cd _⟩ (by unfold fz;unfold lim at k;simp only;omega)
 rw[e,s]
def vg{p}{r:Nat}{D}(d:p.length<=lim)(h:TrN p.length r (Pp p) (Oe p) D)(j:LA p=(r:Int)):∃O:zN,BfI p.length r (Oe p) O O.length∧NX p=some (nL O.reverse):=by
 have⟨o,e,O,l,b⟩:=GV (B:=Mp p) (λst=>∃O:zN,∃k:Nat,st=(nL O,(k:Int))∧k<=O.length∧BfI p.length r (Oe p) O k) (λst=>p.length - st.2.toNat) (λo=>∃O:zN,o=nL O∧BfI p.length r (Oe p) O O.length) (λst f=>by
  obtain⟨O,k,rfl,i,b⟩:=f;have m:=Ya b;by_cases a:k < O.length
  ·right;have c:=Akf h b a;have g:=Ya c;rw[Au]at g;refine⟨_,⟨O++Oe p O[k],k+1,rfl,by rw[Au];omega,c⟩,by simp only[Aq];omega,λrec=>?_⟩;unfold Mp;simp only;rw[F4,Bi a,Ac,VS a,AV,oD d,AV,F4,A1 (by omega),Bm a (Ba<|by omega),eN]
  ·left;have i:k=O.length:=by omega
   subst i;refine⟨_,⟨O,rfl,b⟩,λrec=>?_⟩;unfold Mp;simp only;rw[F4,Bc,Ab]) fz (nL [r],0) ⟨[r],0,rfl,by simp,Ake h⟩ (by unfold fz;unfold lim at d;simp only;omega)
 refine⟨O,b,?_⟩;have m:=Ya b;unfold NX;rw[oJ d,AV,j];have n:Ap (Mp p) fz ([(r:Int)],0)=some (nL O):=l ▸ e;rw[n,AV,Ac9 (by rw[F4];omega),AV];unfold nL;rw[List.map_reverse]
def Ux{O:Type}{B:(Int->Option (Sum Unit O))->Int->Option (Sum Unit O)}{n:Nat}(a:Nat->Bool)(o:O)(l:n<=lim)(p:∀k,k < n->∀b,B b (k:Int)=cond (a k) (some<|.inr o) (b ((k+1:Nat):Int)))(q:∀b,B b (n:Int)=some (.inl ())):
  Ap B fz 0=some (cond ((List.range n).any a) (.inr o)<|.inl ()):=by
 have e:∀d k,k+d=n->(∀j,j < k->a j=false)->∀m,d < m->Ap B m (k:Int)=some (cond ((List.range n).any a) (.inr o)<|.inl ()):=by
  intro d;induction d with
  |zero=>
   intro k r f m s;cases m with
   |zero=>omega
   |succ m=>
    have g:k=n:=by omega
    have:(List.range n).any a=false:=by rw[Cz];intro x t;rw[f x (by have:=AB.1 t;omega)];simp
    show B (Ap B m) (k:Int)=_;rw[g,q,this];rfl
  |succ d u=>
   intro k r f m s;cases m with
   |zero=>omega
   |succ m=>
    show B (Ap B m) (k:Int)=_;rw[p k (by omega)];cases c:a k with
    |true=>
     have:(List.range n).any a=true:=by rw[Cx];exact⟨k,AB.2 (by omega),c⟩
     rw[this];rfl
    |false=>
     exact u (k+1) (by omega) (λj i=>by
      rcases Bb j k with h|h
      ·exact f j h
      ·rw[show j=k by omega];exact c) m (by omega)
 have:=e n 0 (by omega) (λj i=>absurd i<|by omega) fz<|DN l;simpa using this
theorem ZA{l:List Row}(h:GN l):GN (sortB l):=⟨BC (ND l) h.1,λr hr=>h.2 r ((Mt l r).1 hr)⟩
def S7(a:Int)(x:Row):Bool:=((x.length:Int)!=a) || !Py x
def nrB(a:Int)(l:List Row):(Int×List Row)×Bool:=cond (Bt l λ_ x=>S7 a x) ((0,[]),false)<|cond (!Mr (a,sortB l)) ((0,[]),false) ((a,sortB l),true)
def wW{a:Int}{l:List Row}(h:GN l):HE a l=some (nrB a l):=by
 unfold HE nrB Bt;rw[Ux (λk=>Hg l k λx=>S7 a x) _ h.1 (λk b c=>by unfold Ov;rw[Bi b,AI b,Bm b (Ba h.1),BV b];simp only[Ac,G,AbK (h.2 _<|Ad b),S7];cases((List.length l[k]:Int)!=a)<;>cases Py l[k]<;>rfl) (λrec=>by unfold Ov;rw[Bc];rfl)];cases(List.range l.length).any λk=>Hg l k λx=>S7 a x with
 |true=>rfl
 |false=>simp only[G,Ab,AfW h,wT (r:=(a,sortB l)) (ZA h),iZ (r:=(a,sortB l)) (ZA h)];cases Mr (a,sortB l)<;>rfl
def AhN{a:Int}{l:List Row}(h:GN l):NP a l=some (nrB a l):=by
 unfold NP nrB Bt;rw[Ux (λk=>Hg l k λx=>S7 a x) _ h.1 (λk b c=>by unfold Ol;rw[Bi b,AI b,Bm b (Ba h.1),BV b];simp only[Ac,G,Aa7 (h.2 _<|Ad b),S7];cases((List.length l[k]:Int)!=a)<;>cases Py l[k]<;>rfl) (λrec=>by unfold Ol;rw[Bc];rfl)];cases(List.range l.length).any λk=>Hg l k λx=>S7 a x with
 |true=>rfl
 |false=>simp only[G,Ab,oK h,dW (r:=(a,sortB l)) (ZA h)];cases Mr (a,sortB l)<;>rfl
abbrev Rln:=Int×List Row
def di{α:Type}{l:List α}{f:Nat->α->Bool}(h:∀i (hi:i < l.length),f i l[i]=false):Bt l f=false:=by unfold Bt;rw[Cz];intro i hi;have hi:=AB.1 hi;rw[BV hi,h i hi];simp
def kI(r:Rln):Mr r=true↔(0<=r.1∧r.1<=5)∧r.2.length<=4000∧(∀x∈r.2,(x.length:Int)=r.1∧Py x=true)∧WW r.2:=by
 unfold Mr Hv;simp only[Aa,Bf,AH,CV];constructor
 ·rintro⟨c,l,b⟩;refine⟨c,by omega,λx m=>?_,?_⟩
  ·obtain⟨i,hi,rfl⟩:=AY.1 m;have:=FJ b hi;unfold R8 at this;simp only[B9,Dm]at this;exact⟨by simpa using this.1.1,this.1.2⟩
  ·have d:∀k (e:k+1 < r.2.length),Eh (r.2[k]'(by omega)) r.2[k+1] < 0:=by
    intro k e;have:=FJ b e;unfold R8 at this;simp only[B9,Bool.and_eq_false_iff]at this;rcases this.2 with a|a
    ·simp at a
    ·rw[show k+1 - 1=k by omega,BV (by omega)]at a;have:=Kv a;omega
   unfold WW;rw[BK];intro i j hi f n;induction j with
   |zero=>omega
   |succ j o=>
    rcases Bb i j with a|a
    ·exact NK (o (by omega) a)<|d j f
    ·have:i=j:=by omega
     subst this;exact d i f
 ·rintro⟨c,l,b,a⟩;refine⟨c,by omega,di λi hi=>?_⟩;have g:=b _<|Ad hi;unfold R8;rw[g.2,g.1];simp only[Dz,An,C3];by_cases h:0 < i
  ·rw[Ai h,AL,BV (by omega:i - 1 < r.2.length)];have:=BK.1 a (i - 1) i (by omega) hi (by omega);exact Af (by omega)
  ·rw[Af h,Hx]
end Go.Proofs.YtdnlfoelbfcmnaaGreatDoor
