/- When a join tree, a decomposition and a plan are valid: the reference and the program agree. On the printed functions; conditions: lengths. -/
import Derived.Test.YtdmpnamllcigdaaGreatDoorQfFP1
open Go.RowKit
set_option linter.all false
namespace Go.Proofs.YtdmpnamllcigdaaGreatDoor
def Bj{α β:Type}(a:α)(f:α->Option β):Aa (some a) f=f a:=rfl
def u9{S O:Type}(v:O){B:(S×Int->Option (Sum S O))->S×Int->Option (Sum S O)}{n:Nat}(s:Nat->S)(a:Nat->Bool)(l:n<=lim)(o:∀k,k < n->∀b,B b (s k,(k:Int))=cond (a k) (some<|.inr v) (b (s<|k+1,((k+1:Nat):Int))))(p:∀b,B b (s n,(n:Int))=some (.inl<|s n)):
  Ay B fz (s 0,0)=some (cond ((List.range n).any a) (.inr v)<|.inl<|s n):=by
 have e:∀d k,k+d=n->(∀j,j < k->a j=false)->∀m,d < m->Ay B m (s k,(k:Int))=some (cond ((List.range n).any a) (.inr v)<|.inl<|s n):=by
  intro d;induction d with
  |zero=>
   intro k q f m r;cases m with
   |zero=>omega
   |succ m=>
    have g:k=n:=aG;have:(List.range n).any a=false:=by rw[BU];intro x t;rw[f x (by have:=Ao.1 t;omega)];simp
    show B (Ay B m) (s k,(k:Int))=_;rw[g,p,this];rfl
  |succ d u=>
   intro k q f m r;cases m with
   |zero=>omega
   |succ m=>
    show B (Ay B m) (s k,(k:Int))=_;rw[o k aG];cases c:a k with
    |true=>
     have:(List.range n).any a=true:=by rw[BR];exact⟨k,Ao.2 aG,c⟩
     rw[this];rfl
    |false=>
     exact u (k+1) aG (λj i=>by
      rcases Bi j k with h|h
      ·exact f j h
      ·rw[show j=k by omega];exact c) m aG
 have:=e n 0 aG (λj i=>absurd i aG) fz<|Dp l;simpa using this
def Ab7(f:Int->Bool)(l:zI)(k:Nat):(YB f l k).length<=k:=by unfold YB;exact Bm (BY _ _) nF
def l8{n:Nat}(h:n<=lim):wZ ((n:Int) - 1)=(n:Int) - 1:=wrap_in (by unfold lim at h;omega)
def be{k:Nat}(h:k<=lim):wZ ((k:Int)+1)=((k+1:Nat):Int):=by rw[wrap_in (by unfold lim at h;omega)];simp
def di{p}{k:Nat}(h:k < p.length):VG p (k:Int)=p[k]:=by unfold VG;rw[Ax,Af h];rfl
def xa{p}(d:p.length<=lim):∀(m k:Nat) (a:Int),k+m=p.length+1->a < (p.length:Int)->∀f,m < f->Ay (Oq p) f (a,(k:Int))=some (match X6 p m a with|some b=>.inl b|none=>.inr false)
 |0,k,a,h,i,f,j=>by
  cases f with
  |zero=>omega
  |succ f=>rw[Cn,Oq];rw[Ah (aG:¬(k:Int)<=(p.length:Int))];rfl
 |m+1,k,a,h,i,f,j=>by
  cases f with
  |zero=>omega
  |succ f=>
   rw[Cn,Oq];rw[Ak (aG:(k:Int)<=(p.length:Int)),Ac,X6];by_cases c:0<=a
   ·have g:a.toNat < p.length:=aG;have e:a=((a.toNat:Nat):Int):=aG;have l:AU p a=some (VG p a):=by rw[e,AV g,di g]
    rw[Ak c,Az c,Ac,l];simp only[Bj,Ig,l8 d];show(cond (!kU p (VG p a)) _ _)=_;cases hi:kU p (VG p a)with
    |false=>rfl
    |true=>rw[be aG];have:=xa d m (k+1) (VG p a) aG (by unfold kU HH at hi;simp at hi;omega) f aG;exact this
   ·rw[Ah c,AA c];rfl
def mY{p}(hp:p.length < lim):SM p=some (Tz p):=by
 unfold SM Tz BK;have h0:(0:Int)=(((YB (λx=>decide (x < 0)) p 0).length:Nat):Int):=rfl
 have:=u9 false (B:=Oo p) (n:=p.length) (λk=>(((YB (λx=>decide (x < 0)) p k).length:Nat):Int)) (λk=>HJ p k λx=> !kU p x || !endsB p k) aG (λk hk rec=>by
  have hw:=xa (p:=p) aG (p.length+1) 0 (k:Int) aG aG fz (by unfold fz;unfold lim at hp;omega);have hlen:=Ab7 (λx=>decide (x < 0)) p k;unfold Oo Q3;simp only;rw[Bq hk,AV hk,B5 hk,be (show k<=lim by omega)];simp only[Ac,Bj,Ig,l8 (show p.length<=lim by omega)];show(cond (!kU p p[k]) _ _)=_;cases hi:kU p p[k]with
  |false=>rfl
  |true=>
   simp only[Au,Ad,Cg]
   have key:∀r:Int,(Aa (Ay (Oq p) fz ((k:Int),0)) λo3=>(match o3 with|.inl z15=>(cond (decide (0<=z15)) (some<|.inr false)<|rec (r,((k+1:Nat):Int)))|.inr r=>some<|.inr r))=cond (!endsB p k) (some<|.inr false) (rec (r,((k+1:Nat):Int))):=by
    intro r;rw[show((k:Int),(0:Int))=((k:Int),((0:Nat):Int))from rfl,hw,Bj];unfold endsB;cases X6 p (p.length+1) (k:Int)with
    |none=>rfl
    |some a=>
     simp only;by_cases ha:a < 0
     ·rw[Ah (aG:¬0<=a),Ak ha];rfl
     ·rw[Ak (aG:0<=a),Ah ha];rfl
   have hs:∀r:Int,r=(((YB (λx=>decide (x < 0)) p<|k+1).length:Nat):Int)->cond (!endsB p k) (some<|Sum.inr false) (rec (r,((k+1:Nat):Int)))=cond (!endsB p k) (some<|.inr false) (rec ((((YB (λx=>decide (x < 0)) p<|k+1).length:Nat):Int),((k+1:Nat):Int))):=λr e=>by rw[e]
   have hstep:=AdB (λx=>decide (x < 0)) p k;rw[B5 hk]at hstep;by_cases hn:p[k] < 0
   ·rw[Ak hn,Ac];refine(key _).trans<|hs _ ?_;rw[wrap_in (by unfold lim at hp;omega),hstep,Ak hn];simp
   ·rw[Ah hn,Ad];refine(key _).trans<|hs _ ?_;rw[hstep,Ah hn];simp) (λrec=>by unfold Oo;simp only;rw[Bh];rfl)
 rw[<-h0]at this;rw[this];cases(List.range p.length).any λk=>HJ p k λx=> !kU p x || !endsB p k with
 |true=>rfl
 |false=>rfl
def gm(p:zI)(k:Nat):Int:=match YB (λx=>x== -1) p k with
 |[]=> -1
 |r::_=>(r:Int)
def AbF(p:zI)(k:Nat):decide (0<=gm p k)= !(YB (λx=>x== -1) p k).isEmpty:=by
 unfold gm;cases YB (λx=>x== -1) p k with
 |nil=>rfl
 |cons r l=>simp
def gP{p}(z:p.length<=lim):FP p=some (Mo p):=by
 unfold FP;have D:(-1:Int)=gm p 0:=rfl
 have:=u9 (-1:Int) (B:=F6 p) (n:=p.length) (gm p) (λk=>(HJ p k λx=>x== -1)&& !(YB (λx=>x== -1) p k).isEmpty) z (λk f F=>by
  unfold F6 I0;simp only;rw[Bq f,AV f,BA f (Bk z),B5 f,AbF];simp only[Ac,Aa];have c:=AdB (λx=>x== -1) p k;rw[B5 f]at c;cases o:(p[k]== -1)with
  |false=>
   rw[o]at c;have e:gm p (k+1)=gm p k:=by unfold gm;rw[c];simp
   rw[e];rfl
  |true=>
   rw[o]at c;cases d:(YB (λx=>x== -1) p k)with
   |nil=>
    have e:gm p (k+1)=(k:Int):=by unfold gm;rw[c,d];rfl
    rw[e];rfl
   |cons r l=>rfl) (λrec=>by unfold F6;simp only;rw[Bh];rfl)
 rw[<-D]at this;rw[this]
 have g:∀k,((HJ p k λx=>x== -1)&& !(YB (λx=>x== -1) p k).isEmpty)=true↔(HJ p k λx=>x== -1)=true∧∃j,j < k∧(HJ p j λx=>x== -1)=true:=by
  intro k;rw[Ab];refine and_congr Ea ?_;constructor
  ·intro h;cases d:YB (λx=>x== -1) p k with
   |nil=>rw[d]at h;cases h
   |cons r l=>exact⟨r,TM.1<|by rw[d];simp⟩
  ·rintro⟨j,t,A⟩;have:=TM.2 ⟨t,A⟩;cases d:YB (λx=>x== -1) p k with
   |nil=>rw[d]at this;cases this
   |cons r l=>rfl
 cases i:(List.range p.length).any λk=>(HJ p k λx=>x== -1)&& !(YB (λx=>x== -1) p k).isEmpty with
 |true=>
  have⟨k,f,o⟩:=BR.1 i;have⟨t,j,A,G⟩:=(g k).1 o;have f:=Ao.1 f
  have e:Mo p= -1:=by
   unfold Mo;split
   ·rename_i r d;have C:=aR.1 d;have J:=C.2 k f t;have e2:=C.2 j aG G;omega
   ·rfl
  rw[e];rfl
 |false=>
  have e:Mo p=gm p p.length:=by
   unfold Mo gm;cases d:YB (λx=>x== -1) p p.length with
   |nil=>rfl
   |cons r l=>
    cases l with
    |nil=>rfl
    |cons q l=>
     exfalso;have m:(YB (λx=>x== -1) p p.length).Nodup:=F5 DY C3;rw[d]at m;have u:=TM.1 (show r∈YB (λx=>x== -1) p p.length by rw[d];simp);have v:=TM.1 (show q∈YB (λx=>x== -1) p p.length by rw[d];simp);have H:r≠q:=λe=>by subst e;rw[BI]at m;exact m.1 nF
     have s:∀a b,a < b->b < p.length->(HJ p a λx=>x== -1)=true->(HJ p b λx=>x== -1)=true->False:=λa b w o I y=>by have:=BU.1 i b<|Ao.2 o;exact this<|(g b).2 ⟨y,a,w,I⟩
     rcases Bi r q with h|h
     ·exact s r q h v.1 u.2 v.2
     ·exact s q r aG u.1 v.2 u.2
  rw[e];rfl
def th{p}(g:p.length < lim):∀(m:Nat) (acc:zI) (a:Int),acc.length+m=p.length+1->∀f,m < f->Ay (P9 p) f (a,acc)=some (acc++E1 p m a)
 |0,acc,a,h,f,i=>by
  cases f with
  |zero=>omega
  |succ f=>rw[Cn,P9];simp only[Sg,Bj];rw[Ah (aG:¬(acc.length:Int)<=(p.length:Int))];cases HH a 0 (wZ<|(p.length:Int) - 1)<;>simp[E1]
 |m+1,acc,a,h,f,i=>by
  cases f with
  |zero=>omega
  |succ f=>
   rw[Cn,P9];simp only[Sg,Bj,l8 (show p.length<=lim by omega)];rw[Ak (aG:(acc.length:Int)<=(p.length:Int)),Ac,E1];by_cases c:0<=a∧a < (p.length:Int)
   ·have d:a.toNat < p.length:=aG;have e:a=((a.toNat:Nat):Int):=aG;have j:AU p a=some (VG p a):=by rw[e,AV d,di d]
    have b:HH a 0 ((p.length:Int) - 1)=true:=by unfold HH;simp;omega
    rw[b,Az c,Ac,AO (by simp;omega),j,Bj];have:=th g m (acc++[a]) (VG p a) (by simp;omega) f aG;rw[this,Bw];rfl
   ·have b:HH a 0 ((p.length:Int) - 1)=false:=by unfold HH;simp;omega
    rw[b,AA c];simp
def yV{p}(b:p.length < lim)(a:Int):RA p a=some (E1 p (p.length+1) a):=by unfold RA;rw[th b (p.length+1) [] a nF fz (by unfold fz;unfold lim at b;omega)];simp[Aa]
def nH{p}:∀(m:Nat) (a:Int),(E1 p m a).length<=m
 |0,_=>by simp[E1]
 |m+1,a=>by
  rw[E1];split
  ·rw[AC];have:=nH (p:=p) m<|VG p a;omega
  ·simp
def AbP{p}{k:Nat}(a:k < p.length):0 < (E1 p (p.length+1) (k:Int)).length:=by rw[E1,Az aG];simp
def yu{p}(c:p.length < lim){k:Nat}(b:k < p.length):∃x,AU (E1 p (p.length+1) (k:Int)) (wZ<|((E1 p (p.length+1) (k:Int)).length:Int) - 1)=some x∧(E1 p (p.length+1) (k:Int)).getLast?=some x:=by
 have d:=AbP b;have e:=nH (p:=p) (p.length+1) (k:Int);have a:(E1 p (p.length+1) (k:Int)).length - 1 < (E1 p (p.length+1) (k:Int)).length:=aG;refine⟨(E1 p (p.length+1) (k:Int))[(E1 p (p.length+1) (k:Int)).length - 1],?_,by rw[List.getLast?_eq_getElem?,Af a]⟩
 ·rw[l8 aG,show((E1 p (p.length+1) (k:Int)).length:Int) - 1=(((E1 p (p.length+1) (k:Int)).length - 1:Nat):Int)by omega,AV a]
def nG{p}(b:p.length < lim){k:Nat}(c:k < p.length){α:Type}(x y:Option α):cond (decide ((p.length:Int) < ((E1 p (p.length+1) (k:Int)).length:Int))) x (Aa (AU (E1 p (p.length+1) (k:Int))<|wZ<|((E1 p (p.length+1) (k:Int)).length:Int) - 1) λe=>cond (e !=Mo p) x y)=cond (!Rp p k) x y:=by
 have⟨e,d,f⟩:=yu b c;unfold Rp;rw[d,f];simp only[Aa];by_cases a:(E1 p (p.length+1) (k:Int)).length<=p.length
 ·rw[Ah aG,Ak a,Ad,AK,bne];rfl
 ·rw[Ak aG,Ah a];rfl
def aX{α:Type}(g:α->zI)(l:List α)(p:zI)(v:Int)(i:Nat):Bool:=HJ l i λx=>(g x).contains v&&HJ p i λy=>decide (y < 0) || !HJ l y.toNat λz=>(g z).contains v
def Nt{α:Type}(g:α->zI)(l:List α)(p:zI)(v:Int)(k:Nat):Nat:=((List.range k).filter<|aX g l p v).length
def qm{α:Type}(g:α->zI)(l:List α)(p:zI)(v:Int)(k:Nat):Nt g l p v (k+1)=Nt g l p v k+cond (aX g l p v k) 1 0:=by unfold Nt;rw[CO,CQ,DD,DM,An];cases aX g l p v k<;>rfl
def lX{α:Type}(g:α->zI)(l:List α)(p:zI)(v:Int)(k:Nat):Nt g l p v k<=k:=Bm (BY _ _) nF
def w8{ls p}(hw:wide p)(hl:ls.length=p.length)(hp:p.length<=lim)(hs:∀l∈ls,l.length<=lim)(v:Int):SP ls p v=some ((Nt id ls p v p.length:Nat):Int):=by
 unfold SP
 have:=Cm (body:=Me ls p v) (out:=((Nt id ls p v p.length:Nat):Int)) (λk=>(((Nt id ls p v k:Nat):Int),(k:Int))) p.length (λk hk rec=>by
  have hk':k < ls.length:=aG;have hle:=lX id ls p v k;have hst:=qm id ls p v k;unfold aX at hst;rw[B5 hk',B5 hk]at hst;unfold Me Ou Rf;simp only;rw[Bq hk',AV hk',AV hk,BA hk (Bk hp),hst];simp only[Ac,Aa,ah (hs _<|Ae hk'),id];have hwrap:wZ (((Nt id ls p v k:Nat):Int)+1)=((Nt id ls p v k+1:Nat):Int):=be aG;cases ls[k].contains v with
  |false=>simp
  |true=>
   simp only[Ac,AK];have hwk:=hw k hk;by_cases hn:p[k] < 0
   ·rw[Ak hn];simp only[Ac,Ki,hwrap]
   ·rw[Ah hn];have hj:p[k].toNat < ls.length:=aG
    have hg:AU ls p[k]=some ls[p[k].toNat]:=by
     have e:p[k]=((p[k].toNat:Nat):Int):=aG
     conv=>lhs;rw[e]
     exact AV hj
    rw[hg,B5 hj];simp only[Ad,Cg,ah (hs _<|Ae hj)];cases ls[p[k].toNat].contains v with
    |true=>simp
    |false=>simp only[Cq,Ac,hwrap]) (λrec=>by unfold Me;simp only;rw[hl,Bh];rfl) fz (Dp hp)
 have h0:Nt id ls p v 0=0:=rfl;simp only[h0]at this;rw[show((0:Int),(0:Int))=(((0:Nat):Int),((0:Nat):Int))from rfl,this];rfl
def Qw{q}(h:Du q=true):1<=q.1∧q.1<=5∧q.2.1.length<=4∧∀a∈q.2.1,a.2.length<=5∧∀v∈a.2,0<=v∧v < q.1:=by
 have d:=LA h;unfold Du at h;simp only[Ab,At]at h;obtain⟨n,e,-,f,-⟩:=h;have e2:1<=(q.2.1.length:Int)∧(q.2.1.length:Int)<=4:=by unfold HH at e;simpa using e
 refine⟨d.1,d.2,aG,λa g=>?_⟩;obtain⟨k,i,rfl⟩:=AE.1 g;have b:=FW f i;unfold PX at b;simp only[BN,B8]at b;have o:1<=((q.2.1[k]).2.length:Int)∧((q.2.1[k]).2.length:Int)<=5:=by have:=b.2.1;unfold HH at this;simpa using this
 refine⟨aG,λv l=>?_⟩;obtain⟨j,m,rfl⟩:=AE.1 l;have c:=FW b.2.2 m;simp only[B8]at c;rw[wrap_in aG]at c;unfold HH at c;simp only[Ab,AN]at c;omega
def fu(l:zI)(v:Int):decide (CA l v < 0)= !l.contains v:=by
 rw[<-J6];by_cases h:0<=CA l v
 ·rw[Ak h,Ah aG];rfl
 ·rw[Ah h,Ak aG];rfl
def zy(l:List J7)(p:zI)(v:Int)(i:Nat):aX id (l.map λa=>a.2) p v i=aX (λa:J7=>a.2) l p v i:=by
 unfold aX HJ;simp only[BS,id];cases l[i]? with
 |none=>rfl
 |some a=>
  simp only[BP];congr 1;cases p[i]? with
  |none=>rfl
  |some x=>simp only;cases l[x.toNat]? <;>rfl
def zA(l:List J7)(p:zI)(v:Int)(k:Nat):Nt id (l.map λa=>a.2) p v k=Nt (λa:J7=>a.2) l p v k:=by unfold Nt;congr 1;exact FF λi _=>zy l p v i
def aY{α:Type}(g:α->zI)(l:List α)(p:zI)(n:Nat):Bool:=(List.range n).any λv=>((Nt g l p (v:Int) p.length:Nat):Int)!=1
def Ace{q p}(g:MA q)(m:wide p)(n:q.2.1.length=p.length)(v:Int):Ay (Fj q p v) fz (0,0)=some ((Nt (λa:J7=>a.2) q.2.1 p v p.length:Nat):Int):=by
 have j:p.length<=lim:=by rw[<-n];exact g.1
 have:=Cm (body:=Fj q p v) (out:=((Nt (λa:J7=>a.2) q.2.1 p v p.length:Nat):Int)) (λk=>(((Nt (λa:J7=>a.2) q.2.1 p v k:Nat):Int),(k:Int))) p.length (λk f o=>by
  have c:k < q.2.1.length:=aG;have r:=lX (λa:J7=>a.2) q.2.1 p v k;have d:=qm (λa:J7=>a.2) q.2.1 p v k;unfold aX at d;rw[B5 c,B5 f]at d;unfold Fj Hw Jo;simp only;rw[Bq f,AV c,AV f,BA f (Bk j),d];simp only[Ac,Bj,nW (g.2.1 _<|Ae c).2];have b:wZ (((Nt (λa:J7=>a.2) q.2.1 p v k:Nat):Int)+1)=((Nt (λa:J7=>a.2) q.2.1 p v k+1:Nat):Int):=be aG;cases q.2.1[k].2.contains v with
  |false=>simp
  |true=>
   simp only[Ac,AK];have s:=m k f;by_cases l:p[k] < 0
   ·have h:(p[k]== -1)=true:=by simp;omega
    rw[h,Ak l];simp only[Ac,Ki,b]
   ·have h:(p[k]== -1)=false:=by simp;omega
    rw[h,Ah l];have i:p[k].toNat < q.2.1.length:=aG
    have t:AU q.2.1 p[k]=some q.2.1[p[k].toNat]:=by
     have e:p[k]=((p[k].toNat:Nat):Int):=aG
     conv=>lhs;rw[e]
     exact AV i
    rw[t,B5 i];simp only[Ad,Cg,Bj,nW (g.2.1 _<|Ae i).2];cases q.2.1[p[k].toNat].2.contains v with
    |true=>simp
    |false=>simp only[Cq,Ac,b]) (λrec=>by unfold Fj;simp only;rw[Bh];rfl) fz (Dp j)
 exact this
def Acd{ls p}(hw:wide p)(hl:ls.length=p.length)(hp:p.length<=lim)(hs:∀l∈ls,l.length<=lim)(v:Int):Ay (D1 (ls,p) v) fz (0,0)=some ((Nt id ls p v p.length:Nat):Int):=by
 have:=Cm (body:=D1 (ls,p) v) (out:=((Nt id ls p v p.length:Nat):Int)) (λk=>(((Nt id ls p v k:Nat):Int),(k:Int))) p.length (λk hk rec=>by
  have hk':k < ls.length:=aG;have hle:=lX id ls p v k;have hst:=qm id ls p v k;unfold aX at hst;rw[B5 hk',B5 hk]at hst;unfold D1 Fw G6;simp only;rw[Bq hk',AV hk',AV hk,BA hk (Bk hp),hst];simp only[Ac,Bj,VC (hs _<|Ae hk'),J6,id];have hwrap:wZ (((Nt id ls p v k:Nat):Int)+1)=((Nt id ls p v k+1:Nat):Int):=be aG;cases ls[k].contains v with
  |false=>simp
  |true=>
   simp only[Ac,AK];have hwk:=hw k hk;by_cases hn:p[k] < 0
   ·have e1:(p[k]== -1)=true:=by simp;omega
    rw[e1,Ak hn];simp only[Ac,Ki,hwrap]
   ·have e1:(p[k]== -1)=false:=by simp;omega
    rw[e1,Ah hn];have hj:p[k].toNat < ls.length:=aG
    have hg:AU ls p[k]=some ls[p[k].toNat]:=by
     have e:p[k]=((p[k].toNat:Nat):Int):=aG
     conv=>lhs;rw[e]
     exact AV hj
    rw[hg,B5 hj];simp only[Ad,Cg,Bj,VC (hs _<|Ae hj),fu];cases ls[p[k].toNat].contains v with
    |true=>simp
    |false=>simp only[Cq,Ac,hwrap]) (λrec=>by unfold D1;simp only;rw[hl,Bh];rfl) fz (Dp hp)
 exact this
def bd{B:(Int->zS)->Int->zS}{n:Int}(c:1<=n∧n<=5)(f:Int->Int)(b:∀a v,B a v=cond (decide (v < n)) (cond (f v !=1) (some<|.inr false)<|a<|wZ<|v+1) (some<|.inl ())):
  Ay B fz 0=some (cond ((List.range n.toNat).any λv=>f (v:Int)!=1) (.inr false)<|.inl ()):=by
 refine Ew (λv=>f (v:Int)!=1) uY (λk d a=>?_)<|λrec=>?_
 ·rw[b,Ak (aG:(k:Int) < n),wrap_in aG,Ac];rfl
 ·rw[b,Ah (aG:¬((n.toNat:Nat):Int) < n)];rfl
def jtB(q:EM)(p:zI):Bool:=Du q&&(((p.length:Int)==(q.2.1.length:Int))&&(UN p&& !aY (λa:J7=>a.2) q.2.1 p q.1.toNat))
def Wu{m n:Nat}(h:((m:Int)==(n:Int))=true):m=n:=by have h:=DL h;omega
def Wb{p}(h:Tz p=true):wide p:=by unfold Tz at h;simp only[Ab,At]at h;exact l7 λi hi=>by have:=FW h.1 hi;simp at this;exact this.1
def Akt{q p}(b:MA q)(e:p.length < lim):IOQ q p=some (jtB q p):=by
 unfold IOQ jtB;simp only[OS b,Bj,mY e];rw[show((p.length:Int)!=(q.2.1.length:Int))= !((p.length:Int)==(q.2.1.length:Int))from rfl];cases f:Du q with
 |false=>rfl
 |true=>
  cases c:((p.length:Int)==(q.2.1.length:Int))with
  |false=>rfl
  |true=>
   have k:=Wu c;rw[<-TV];cases g:Tz p with
   |false=>rfl
   |true=>simp only[Au,Ad,AK];rw[Kg (a:=q.2.1) (h:=λa:J7=>a.2) b.1 (λk d i=>by unfold LY;simp only;rw[Bq d,AV d,BA d (Bk b.1)];simp only[Ac,Bj];rw[AO (by simp only[Ai,AH,Aj];have:=b.1;omega)]) (λrec y=>by unfold LY;simp only;rw[Bh];rfl)];rw[Bj,bd (LA f) (λv=>((Nt (λa:J7=>a.2) q.2.1 p v p.length:Nat):Int)) (λrec v=>by unfold QE;rw[w8 (Wb g) (by simp;omega) aG (λl c=>by obtain⟨a,j,rfl⟩:=Aw.1 c;exact(b.2.1 a j).2),zA];rfl)];unfold aY;cases(List.range q.1.toNat).any λv=>((Nt (λa:J7=>a.2) q.2.1 p (v:Int) p.length:Nat):Int)!=1<;>rfl
def AnQ{q p}(e:MA q)(f:p.length < lim):Lb q p=some (jtB q p):=by
 unfold Lb jtB;simp only[Sq e,Bj,gP (show p.length<=lim by omega)];rw[show((p.length:Int)!=(q.2.1.length:Int))= !((p.length:Int)==(q.2.1.length:Int))from rfl];cases h:Du q with
 |false=>rfl
 |true=>
  cases j:((p.length:Int)==(q.2.1.length:Int))with
  |false=>rfl
  |true=>
   have l:=Wu j;simp only[Au,Ad,AK];by_cases g:0<=Mo p
   ·rw[Ah (aG:¬Mo p < 0),Ad];have b:Ay (Jm p) fz 0=some (cond (BK p λi _=> !Rp p i) (.inr false)<|.inl ()):=by unfold BK;refine Ew (λk=>HJ p k λ_=> !Rp p k) aG (λk c m=>?_) (λrec=>by unfold Jm;rw[Bh];rfl);unfold Jm;rw[Bq c,yV f,BA c (Bk<|show p.length<=lim by omega),B5 c];simp only[Ac,Bj,gP (show p.length<=lim by omega)];exact nG f c _ _
    have d:UN p= !BK p λi _=> !Rp p i:=by unfold UN;rw[Ak g,AK]
    rw[b,Bj,d];cases n:(BK p λi _=> !Rp p i)with
    |true=>rfl
    |false=>have o:wide p:=Wb (by rw[TV,d,n];rfl);simp only[Ad,Cq,AK];rw[bd (LA h) (λv=>((Nt (λa:J7=>a.2) q.2.1 p v p.length:Nat):Int)) (λrec v=>by unfold QI;rw[Ace e o l.symm];rfl)];unfold aY;cases(List.range q.1.toNat).any λv=>((Nt (λa:J7=>a.2) q.2.1 p (v:Int) p.length:Nat):Int)!=1<;>rfl
   ·rw[Ak (aG:Mo p < 0)];have d:UN p=false:=by unfold UN;rw[Ah g,Ho]
    rw[d];rfl
def TC{α:Type}(l:List α)(f g:Nat->α->Bool):BK l (λk e=>f k e || g k e)=(BK l f || BK l g):=by
 unfold BK;induction List.range l.length with
 |nil=>rfl
 |cons k b a=>
  rw[G1,G1,G1,a];unfold HJ;cases l[k]? with
  |none=>simp
  |some e=>simp only;cases f k e<;>cases g k e<;>simp
def oQ{α β:Type}{l:List α}{m:List β}(h:l.length=m.length)(f:Nat->Bool):BK l (λk _=>f k)=BK m λk _=>f k:=by
 unfold BK;rw[h];rw[Bb,BR,BR];constructor
 ·rintro⟨k,b,c⟩;have a:=Ao.1 b;rw[B5 aG]at c;exact⟨k,b,by rw[B5 a];exact c⟩
 ·rintro⟨k,b,c⟩;have a:=Ao.1 b;rw[B5 a]at c;exact⟨k,b,by rw[B5 aG];exact c⟩
def Py(n:Int)(e:Int):Bool:= !HH e 0 (wZ<|n - 1)
def RZ(n:Int)(b:zI):Bool:=(!BK b λk e=>Py n e || Iw b k e)&&decide (0 < (b.length:Int))
def Al8{q:EM}{b:zI}(h:b.length<=lim):Vh q b=some (RZ q.1 b):=by
 unfold Vh RZ BK
 rw[Ew (λk=>HJ b k λe=>Py q.1 e || Iw b k e) h (λk a f=>by
  unfold RF OF;rw[Bq a,AV a,BA a (Bk h),B5 a];simp only[Ac,Bj,Sg,Py,Iw];cases HH b[k] 0 (wZ<|q.1 - 1)with
  |false=>rfl
  |true=>
   by_cases d:0 < k
   ·have c:k - 1 < b.length:=aG;rw[ZT a d (Bk h),AV c,B5 c,Ak (aG:(0:Int) < (k:Int)),Ak d];rfl
   ·rw[Ah (aG:¬(0:Int) < (k:Int)),Ah d];rfl) (λrec=>by unfold RF;rw[Bh];rfl)]
 cases(List.range b.length).any λk=>HJ b k λe=>Py q.1 e || Iw b k e<;>rfl
def oN{l:zI}(h:BK l (Iw l)=false):∀(d j:Nat) (hd:j+1+d < l.length),l[j]'aG < l[j+1+d]'hd
 |0,j,hd=>by have:=FW h hd;unfold Iw at this;rw[Ak aG,AK,B5 (aG:j+1+0 - 1 < l.length)]at this;simp only[C1,Int.not_le]at this;exact this
 |d+1,j,hd=>by
  have h1:=oN h d j aG;have h2:=FW h hd;unfold Iw at h2;rw[Ak aG,AK,B5 (aG:j+1+(d+1) - 1 < l.length)]at h2;simp only[C1,Int.not_le]at h2;have e:l[j+1+(d+1) - 1]'aG=l[j+1+d]'aG:=by congr 1
  rw[e]at h2;omega
def tq{n:Int}{l:zI}(h:BK l (Iw l)=false):BK l (GP n l)=BK l λ_ e=>Py n e:=by
 have e:BK l (GP n l)=(BK l (λ_ e=>Py n e) || BK l (λk e=>(l.take k).contains e)):=by rw[<-TC];rfl
 have e2:BK l (λk e=>(l.take k).contains e)=false:=FSQ λi hi=>by
  rw[<-F3,Ag];intro a;obtain⟨j,b,c⟩:=AE.1 a;rw[AH]at b;rw[Gw]at c;have:=oN h (i - j - 1) j aG;have d:l[j+1+(i - j - 1)]'aG=l[i]:=by congr 1;omega
  rw[d]at this;omega
 rw[e,e2,Dv]
def Ac4{q:EM}{b:zI}(h:b.length<=lim):Ur q b=some (RZ q.1 b):=by
 unfold Ur PO RZ;simp only[Ac0 h,r7 h,Bj];rw[TC];cases a:BK b (Iw b)with
 |true=>cases decide (0 < (b.length:Int))<;>simp
 |false=>rw[tq a];cases decide (0 < (b.length:Int))<;>cases(BK b λ_ e=>Py q.1 e)<;>rfl
def FJ(a:J7)(k:Nat):zI:=((List.range k).filter λ(v:Nat)=>a.2.contains (v:Int)).map λ(v:Nat)=>(v:Int)
def AcS(a:J7)(k:Nat):FJ a (k+1)=FJ a k++cond (a.2.contains (k:Int)) [(k:Int)] []:=by unfold FJ;rw[CO,CQ,Br,DD,DM];cases a.2.contains (k:Int)<;>rfl
def NJ(a:J7)(k:Nat):(FJ a k).length<=k:=by unfold FJ;rw[Ai];exact Bm (BY _ _) nF
def ub{a:J7}(h:a.2.length<=lim)(b:∀v,C7 a v=some (a.2.contains v)):EO a=some (FJ a 5):=by
 unfold EO
 have:=Cm (body:=Ih a) (out:=FJ a 5) (λk=>(FJ a k,(k:Int))) 5 (λk d c=>by
  have e:=NJ a k;unfold Ih Kn;simp only;rw[Ak (aG:(k:Int) < 5),b,wrap_in aG,AcS];simp only[Ac,Bj];cases a.2.contains (k:Int)with
  |true=>rw[Ac,AO (by unfold lim;simp;omega)];rfl
  |false=>rw[Ad,Ad,A7];rfl) (λrec=>by unfold Ih;simp only;rfl) fz (by unfold fz;omega)
 rw[show((([]:zI),(0:Int)))=(FJ a 0,((0:Nat):Int))from rfl,this];rfl
def ft{α:Type}(f:α->Bool){l:List α}{k:Nat}(a:k < l.length):(l.take<|k+1).filter f=(l.take k).filter f++cond (f l[k]) [l[k]] []:=by rw[A3 a,CQ,DD,DM];cases f l[k]<;>rfl
def Xu{a b}(f:a.length < lim)(d:b.length<=lim):MC a b=some (a.filter b.contains):=by
 unfold MC
 have:=Cm (body:=Ol a b) (out:=a.filter b.contains) (λk=>((a.take k).filter b.contains,(k:Int))) a.length (λk c e=>by
  have g:((a.take k).filter b.contains).length<=k:=Bm (BY _ _) (by simp;omega);unfold Ol QZ;simp only;rw[Bq c,AV c,BA c (Bk aG),ft _ c];simp only[Ac,Bj,ah d];cases b.contains a[k]with
  |true=>rw[Ac,AO (by simp only[Aj];omega)];rfl
  |false=>rw[Ad,Ad,A7]) (λrec=>by unfold Ol;simp only;rw[Bh,AQ];rfl) fz (Dp aG)
 rw[show((([]:zI),(0:Int)))=((a.take 0).filter b.contains,((0:Nat):Int))from by simp,this];rfl
def TI(a:J7)(b:zI):Bool:=a.2.all b.contains
def yZ{a:J7}{b:zI}(d:a.2.length<=lim)(f:b.length<=lim):RI a b=some (TI a b):=by
 unfold RI;rw[Ew (λk=>HJ a.2 k λv=> !b.contains v) d (λk c g=>by unfold RJ;rw[Bq c,AV c,BA c (Bk d),B5 c];simp only[Ac,Bj,VC f,fu]) (λrec=>by unfold RJ;rw[Bh];rfl)]
 have e:TI a b= !(List.range a.2.length).any λk=>HJ a.2 k λv=> !b.contains v:=by
  rw[Bb];unfold TI;rw[Aq,At,BU];constructor
  ·intro h k c;have c:=Ao.1 c;rw[B5 c,h _ (Ae c)];simp
  ·intro h v i;obtain⟨k,c,rfl⟩:=AE.1 i;have:=h k<|Ao.2 c;rw[B5 c]at this;simpa using this
 rw[e];cases(List.range a.2.length).any λk=>HJ a.2 k λv=> !b.contains v<;>rfl
def Aa4{a}(h:∀v∈a.2,0<=v∧v < 5)(b:zI):(((((FJ a 5).filter b.contains).length:Nat):Int)==(((FJ a 5).length:Nat):Int))=TI a b:=by
 have e:(((((FJ a 5).filter b.contains).length:Nat):Int)==(((FJ a 5).length:Nat):Int))=true↔((FJ a 5).filter b.contains).length=(FJ a 5).length:=by rw[Bv];omega
 rw[Bb,e,List.length_filter_eq_length_iff];unfold TI;rw[Aq];constructor
 ·intro d v c;have g:=h v c;refine d v ?_;unfold FJ;rw[Aw];exact⟨v.toNat,AM.2 ⟨Ao.2 aG,by rw[show((v.toNat:Nat):Int)=v by omega];simpa using c⟩,aG⟩
 ·intro d v c;unfold FJ at c;rw[Aw]at c;obtain⟨n,f,rfl⟩:=c;have:=(AM.1 f).2;exact d _ (by simpa using this)
def AcQ{α:Type}(f:α->Bool){l:List α}{k:Nat}(a:k < l.length):(l.take<|k+1).any f=((l.take k).any f || f l[k]):=by rw[A3 a,Jj];simp
def Vp(q:EM)(x:List zI×zI):Bool:=Du q&&(((x.2.length:Int)==(x.1.length:Int))&&(UN x.2&&((!BK x.1 λ_ b=> !RZ q.1 b)&&((!BK q.2.1 λ_ a=> !x.1.any (TI a))&& !aY id x.1 x.2 q.1.toNat))))
def de(x:List zI×zI):Prop:=x.1.length < lim∧(∀b∈x.1,b.length < lim)∧x.2.length < lim
def Ame{q x}(d:MA q)(e:de x):Ay (G4 q x) fz 0=some (cond (BK q.2.1 λ_ a=> !x.1.any (TI a)) (.inr false)<|.inl ()):=by
 unfold BK;refine Ew (λk=>HJ q.2.1 k λa=> !x.1.any (TI a)) d.1 (λk b f=>?_) (λrec=>by unfold G4;rw[Bh];rfl);have g:Ay (EA q x (k:Int)) fz (false,0)=some (x.1.any<|TI q.2.1[k]):=by have:=Cm (body:=EA q x (k:Int)) (out:=x.1.any (TI q.2.1[k])) (λj=>((x.1.take j).any (TI q.2.1[k]),(j:Int))) x.1.length (λj c f=>by unfold EA G5;simp only;rw[Bq c,AV b,AV c,BA c (Bk<|Ck e.1),AcQ _ c];simp only[Ac,Bj,yZ (d.2.1 _<|Ae b).2 (Ck<|e.2.1 _<|Ae c)];cases(x.1.take j).any (TI q.2.1[k])<;>rfl) (λrec=>by unfold EA;simp only;rw[Bh,AQ];rfl) fz (Dp (Ck e.1));simpa using this
 unfold G4;rw[Bq b,g,BA b (Bk d.1),B5 b];rfl
def Aks{q x}(e:MA q)(f:Du q=true)(g:∀a:J7,a.2.length<=lim->∀v,C7 a v=some (a.2.contains v))(h:de x):Ay (GV q x) fz 0=some (cond (BK q.2.1 λ_ a=> !x.1.any (TI a)) (.inr false)<|.inl ()):=by
 have p:=Qw f;unfold BK;refine Ew (λk=>HJ q.2.1 k λa=> !x.1.any (TI a)) e.1 (λk c i=>?_) (λrec=>by unfold GV;rw[Bh];rfl);have o:=(e.2.1 _<|Ae c).2;have l:=ub o<|g _ o;have m:∀v∈q.2.1[k].2,0<=v∧v < 5:=λv f=>by have:=(p.2.2.2 _<|Ae c).2 v f;omega
 have n:Ay (Ey x q.2.1[k]) fz (false,0)=some (x.1.any<|TI q.2.1[k]):=by have:=Cm (body:=Ey x q.2.1[k]) (out:=x.1.any (TI q.2.1[k])) (λj=>((x.1.take j).any (TI q.2.1[k]),(j:Int))) x.1.length (λj d i=>by have r:=NJ q.2.1[k] 5;unfold Ey GW;simp only;rw[Bq d,AV d,BA d (Bk<|Ck h.1),AcQ _ d];simp only[Ac,Bj,l,Xu (a:=FJ q.2.1[k] 5) (b:=x.1[j]) uY (Ck<|h.2.1 _<|Ae d),Aa4 m];cases(x.1.take j).any (TI q.2.1[k])<;>rfl) (λrec=>by unfold Ey;simp only;rw[Bh,AQ];rfl) fz (Dp (Ck h.1));simpa using this
 unfold GV;rw[Bq c,AV c,Bj,n,BA c (Bk e.1),B5 c];rfl
def bW{a:J7}(h:a.2.length<=lim)(v:Int):C7 a v=some (a.2.contains v):=by unfold C7;simp only[ah h,Bj]
def wP{q x}(g:MA q)(c:de x):Fp q x=some (Vp q x):=by
 unfold Fp Vp;simp only[OS g,Bj,mY c.2.2];rw[show((x.1.length:Int)!=(x.2.length:Int))= !((x.2.length:Int)==(x.1.length:Int))from by rw[bne];congr 1;rw[Bb];simp;omega];cases h:Du q with
 |false=>rfl
 |true=>
  cases f:((x.2.length:Int)==(x.1.length:Int))with
  |false=>rfl
  |true=>
   have i:=Wu f;rw[<-TV];cases j:Tz x.2 with
   |false=>rfl
   |true=>
    have d:Ay (GU q x) fz 0=some (cond (BK x.1 λ_ b=> !RZ q.1 b) (.inr false)<|.inl ()):=by unfold BK;refine Ew (λk=>HJ x.1 k λb=> !RZ q.1 b) (Ck c.1) (λk e m=>?_) (λrec=>by unfold GU;rw[Bh];rfl);unfold GU;rw[Bq e,AV e,BA e (Bk<|Ck c.1),B5 e];simp only[Ac,Bj,Ac4 (Ck<|c.2.1 _<|Ae e)]
    simp only[Au,Ad,AK];rw[d,Bj];cases(BK x.1 λ_ b=> !RZ q.1 b)with
    |true=>rfl
    |false=>
     simp only[Ad,Cq,AK];rw[Aks g h (λa n v=>bW n v) c,Bj];cases(BK q.2.1 λ_ a=> !x.1.any (TI a))with
     |true=>rfl
     |false=>simp only[Ad,Cq,AK];rw[bd (LA h) (λv=>((Nt id x.1 x.2 v x.2.length:Nat):Int)) (λrec v=>by unfold Nf;rw[w8 (Wb j) i.symm (Ck c.2.2) (λl f=>Ck<|c.2.1 l f)];rfl)];unfold aY;cases(List.range q.1.toNat).any λv=>((Nt id x.1 x.2 (v:Int) x.2.length:Nat):Int)!=1<;>rfl
def Ama{q x}(h:MA q)(c:de x):If q x=some (Vp q x):=by
 unfold If Vp;simp only[Sq h,Bj,gP (Ck c.2.2)];rw[show((x.2.length:Int)!=(x.1.length:Int))= !((x.2.length:Int)==(x.1.length:Int))from rfl];cases n:Du q with
 |false=>rfl
 |true=>
  cases g:((x.2.length:Int)==(x.1.length:Int))with
  |false=>rfl
  |true=>
   have j:=Wu g;simp only[Au,Ad,AK];by_cases m:0<=Mo x.2
   ·rw[Ah (aG:¬Mo x.2 < 0),Ad]
    have d:Ay (G3 q x) fz 0=some (cond (BK x.1 λi b=> !RZ q.1 b || !Rp x.2 i) (.inr false)<|.inl ()):=by
     unfold BK;refine Ew (λk=>HJ x.1 k λb=> !RZ q.1 b || !Rp x.2 k) (Ck c.1) (λk e o=>?_) (λrec=>by unfold G3;rw[Bh];rfl);unfold G3;rw[Bq e,yV c.2.2,AV e,BA e (Bk<|Ck c.1),B5 e];simp only[Ac,Bj,gP (Ck c.2.2),Al8 (Ck<|c.2.1 _<|Ae e)];cases RZ q.1 x.1[k]with
     |false=>rfl
     |true=>simp only[Au,Ad,Cg];exact nG c.2.2 aG _ _
    have f:UN x.2= !BK x.1 λi _=> !Rp x.2 i:=by unfold UN;rw[Ak m,AK,oQ j]
    rw[d,Bj,TC,f];cases p:(BK x.1 λi _=> !Rp x.2 i)with
    |true=>cases(BK x.1 λ_ b=> !RZ q.1 b)<;>rfl
    |false=>
     have r:wide x.2:=Wb (by rw[TV,f,p];rfl);cases(BK x.1 λ_ b=> !RZ q.1 b)with
     |true=>rfl
     |false=>
      simp only[Ad,Cq,AK,Dv];rw[Ame h c,Bj];cases(BK q.2.1 λ_ a=> !x.1.any (TI a))with
      |true=>rfl
      |false=>simp only[Ad,Cq,AK];rw[bd (LA n) (λv=>((Nt id x.1 x.2 v x.2.length:Nat):Int)) (λrec v=>by unfold Nn;have:=Acd (ls:=x.1) r j.symm (Ck c.2.2) (λl g=>Ck<|c.2.1 l g) v;rw[show(x.1,x.2)=x from rfl]at this;rw[this];rfl)];unfold aY;cases(List.range q.1.toNat).any λv=>((Nt id x.1 x.2 (v:Int) x.2.length:Nat):Int)!=1<;>rfl
   ·rw[Ak (aG:Mo x.2 < 0)];have f:UN x.2=false:=by unfold UN;rw[Ah m,Ho]
    rw[f];rfl
abbrev Pln:=Int×zI×zI×(List zI×zI)
def gY(p:Pln):Prop:=p.2.1.length<=lim∧p.2.2.1.length < lim∧de p.2.2.2
def cA(q:EM)(p:Pln):Bool:=cond (p.1==1) (jtB q p.2.2.1)<|cond (p.1==2) (Vp q p.2.2.2)<|cond (p.1==3) (Sf q p.2.1) false
def yW{q p}(a:MA q)(b:gY p):Iu q p=some (cA q p):=by unfold Iu cA;simp only[AnQ a b.2.1,Ama a b.2.2,lJ a b.1,Bj];cases p.1==1<;>cases p.1==2<;>cases p.1==3<;>rfl
def wX{q p}(a:MA q)(b:gY p):J0 q p=some (cA q p):=by unfold J0 cA;simp only[Akt a b.2.1,wP a b.2.2,kR a b.1,Bj];cases p.1==1<;>cases p.1==2<;>cases p.1==3<;>rfl
def Sk(p:zI)(i:Nat):Option Nat:=if 0<=VG p i then some (VG p i).toNat else none
def U8(p:zI)(i:Nat):zN:=(List.range p.length).filter λc=>Sk p c==some i
def dpN(p:zI)(i:Nat):Nat:=(E1 p (p.length+1) i).length - 1
def sS{p}:∀(m:Nat) (a:Int),(E1 p m a).length < m->E1 p (m+1) a=E1 p m a
 |0,_,h=>by omega
 |m+1,a,h=>by
  rw[show E1 p (m+1+1) a=if 0<=a∧a < (p.length:Int)then a::E1 p (m+1) (VG p a)else []from rfl,show E1 p (m+1) a=if 0<=a∧a < (p.length:Int)then a::E1 p m (VG p a)else []from rfl];rw[E1]at h;by_cases b:0<=a∧a < (p.length:Int)
  ·rw[Az b]at h;rw[Az b,Az b,sS m (VG p a) (by rw[AC]at h;omega)]
  ·rw[AA b,AA b]
def ig{p}(h:Tz p=true):wide p∧(∀i,i < p.length->(E1 p (p.length+1) (i:Int)).length<=p.length)∧∃r:Nat,Mo p=(r:Int)∧r < p.length∧VG p r= -1∧∀i,i < p.length->VG p i= -1->i=r:=by have a:=h;rw[TV]at a;unfold UN at a;rw[Ab,AN,At]at a;have⟨r,e,d⟩:=nU a.1;have⟨⟨b,c⟩,f⟩:=aR.1 d;rw[B5 b,Bv]at c;refine⟨Wb h,λi hi=>?_,r,e,b,by rw[di b];exact c,λi hi g=>f i hi<|by rw[B5 hi,Bv,<-di hi];exact g⟩;have:=FW a.2 hi;unfold Rp at this;rw[B8,Ab,AN]at this;exact this.1
def ZS{p}(h:Tz p=true):∃r:Nat,Mo p=(r:Int)∧TrN p.length r (Sk p) (U8 p) (dpN p):=by
 have⟨m,g,r,e,n,o,q⟩:=ig h;have d:∀i,i < p.length->(E1 p (p.length+1) (i:Int)).length=(E1 p p.length<|VG p i).length+1:=λi hi=>by rw[E1,Az ⟨aG,aG⟩,AC]
 refine⟨r,e,n,?_,λi hi j=>?_,λi c=>?_,λi=>F5 DY C3,λi hi=>?_⟩
 ·unfold Sk;rw[o];rfl
 ·have t:=ep m (a:=(i:Int)) aG aG;have u:VG p i≠ -1:=λe=>j<|q i hi e
  have s:0<=VG p i:=aG;have k:((VG p i).toNat:Int)=VG p i:=aG;refine⟨(VG p i).toNat,by unfold Sk;rw[Az s],aG,?_⟩;have a:=d i hi;have b:=g i hi;have l:=d (VG p i).toNat aG;have f:=g (VG p i).toNat aG;unfold dpN;rw[k]at l f;rw[k];have st:=sS (p:=p) p.length (VG p i) aG;rw[st]at l f⊢;rw[a];omega
 ·unfold U8;rw[AM,Ao,Bv]
 ·have:=g i hi;have a:=d i hi;unfold dpN;omega
abbrev Row:=zI
def Sz:∀a:Row,DV a a=0
 |[]=>rfl
 |x::a=>by rw[DV,AA aG,AA aG];exact Sz a
def Ub:∀{a b:Row},DV a b=0->a=b
 |[],[],_=>rfl
 |[],_::_,h=>by simp[DV]at h
 |_::_,[],h=>by simp[DV]at h
 |x::a,y::b,h=>by
  rw[DV]at h;split at h
  ·simp at h
  ·split at h
   ·simp at h
   ·have:x=y:=aG;rw[this,Ub h]
def cmp_neg:∀a b:Row,DV b a= - DV a b
 |[],[]=>rfl
 |[],_::_=>rfl
 |_::_,[]=>rfl
 |x::a,y::b=>by
  rw[DV,DV];by_cases c:x < y
  ·rw[AA aG,Az c,Az c];rfl
  ·rw[AA c];by_cases d:y < x
   ·rw[Az d,Az d,AA c]
   ·rw[AA d,AA d,AA c];exact cmp_neg a b
def QB:∀{a b c:Row},DV a b < 0->DV b c < 0->DV a c < 0
 |[],[],_,h,_=>by simp[DV]at h
 |[],_::_,[],_,h=>by simp[DV]at h
 |[],_::_,_::_,_,_=>by simp[DV]
 |_::_,[],_,h,_=>by simp[DV]at h
 |_::_,_::_,[],_,h=>by simp[DV]at h
 |x::a,y::b,z::c,e,d=>by
  rw[DV]at e d⊢;by_cases i:x < y
  ·by_cases e2:y < z
   ·rw[Az aG];simp
   ·rw[AA e2]at d;by_cases f:z < y
    ·rw[Az f]at d;simp at d
    ·rw[Az aG];simp
  ·rw[AA i]at e;by_cases f:y < x
   ·rw[Az f]at e;simp at e
   ·rw[AA f]at e;by_cases e2:y < z
    ·rw[Az aG];simp
    ·rw[AA e2]at d;by_cases g:z < y
     ·rw[Az g]at d;simp at d
     ·rw[AA g]at d;rw[AA aG,AA aG];exact QB e d
def X8(l:List Row):Prop:=l.Pairwise λa b=>DV a b < 0
def qh:∀{a b:List Row},X8 a->X8 b->(∀x,x∈a↔x∈b)->a=b
 |[],[],_,_,_=>rfl
 |[],y::b,_,_,h=>by have:=(h y).2 nF;simp at this
 |x::a,[],_,_,h=>by have:=(h x).1 nF;simp at this
 |x::a,y::b,ha,hb,h=>by
  have⟨a1,a2⟩:=Ct.1 ha;have⟨b1,b2⟩:=Ct.1 hb
  have hxy:x=y:=by
   rcases AL.1 ((h x).1 nF)with e|hx
   ·exact e
   ·rcases AL.1 ((h y).2 nF)with e|hy
    ·exact e.symm
    ·have h1:=b1 x hx;have h2:=a1 y hy;have:=cmp_neg x y;omega
  subst hxy;have hne:∀z∈a,z≠x:=λz hz e=>by subst e;have:=a1 z hz;rw[Sz]at this;omega
  have hne':∀z∈b,z≠x:=λz hz e=>by subst e;have:=b1 z hz;rw[Sz]at this;omega
  rw[qh a2 b2 (λz=>⟨λhz=>(AL.1<|(h z).1<|by simp[hz]).resolve_left<|hne z hz,λhz=>(AL.1<|(h z).2<|by simp[hz]).resolve_left<|hne' z hz⟩)]
def dv(x:Row):List Row->List Row
 |[]=>[x]
 |y::l=>if DV x y < 0 then x::y::l else if DV x y=0 then y::l else y::dv x l
def sortB(l:List Row):List Row:=l.foldr dv []
def kV(x:Row):∀(l:List Row) (z:Row),z∈dv x l↔z=x∨z∈l
 |[],z=>by simp[dv]
 |y::l,z=>by
  rw[dv];split
  ·simp
  ·split
   ·rename_i _ h;rw[Ub h];simp
   ·rw[AL,kV x l z,AL];constructor
    ·rintro(h|h|h)<;>simp[h]
    ·rintro(h|h|h)<;>simp[h]
def se(x:Row):∀(l:List Row),X8 l->X8 (dv x l)
 |[],_=>D2 _ _
 |y::l,h=>by
  have⟨b,d⟩:=Ct.1 h;rw[dv];split
  ·rename_i c;refine Ct.2 ⟨λz a=>?_,h⟩;rcases AL.1 a with rfl|a
   ·exact c
   ·exact QB c<|b z a
  ·split
   ·exact h
   ·rename_i e f;refine Ct.2 ⟨λz a=>?_,se x l d⟩;rcases(kV x l z).1 a with rfl|a
    ·have:=cmp_neg z y;omega
    ·exact b z a
def Nm:∀l:List Row,X8 (sortB l)
 |[]=>List.Pairwise.nil
 |x::l=>se x _<|Nm l
def Fd:∀(l:List Row) (z:Row),z∈sortB l↔z∈l
 |[],z=>Ea
 |x::l,z=>by rw[show sortB (x::l)=dv x (sortB l)from rfl,kV,Fd l z,AL]
def WF{l r}(a:X8 r)(b:∀z,z∈r↔z∈l):r=sortB l:=qh a (Nm l) (λz=>by rw[b,Fd])
def r9(x:Row):∀l:List Row,(dv x l).length<=l.length+1
 |[]=>by simp[dv]
 |y::l=>by
  rw[dv];split
  ·simp
  ·split
   ·simp
   ·have:=r9 x l;simp;omega
def K8:∀l:List Row,(sortB l).length<=l.length
 |[]=>by simp[sortB]
 |x::l=>by have a:=K8 l;have b:=r9 x<|sortB l;rw[show sortB (x::l)=dv x (sortB l)from rfl,AC];omega
def Fu{S O:Type}{B}(I:S->Prop)(μ:S->Nat)(R:O->Prop)(h:∀s,I s->(∃o,R o∧∀a,B a s=some o)∨∃b,I b∧μ b < μ s∧∀a,B a s=a b):∀(m:Nat) (s:S),I s->μ s < m->∃o,Ay B m s=some o∧R o
 |0,_,_,d=>by omega
 |m+1,s,e,d=>by
  rw[Cn];rcases h s e with⟨o,f,c⟩|⟨b,g,i,c⟩
  ·exact⟨o,c _,f⟩
  ·rw[c];exact Fu I μ R h m b g aG
def Nz{α:Type}(x:α)(l:List α):CZ (x::l) 1 ((x::l).length:Int)=l:=by unfold CZ;rw[Ax,AQ];rfl
def PH{α β:Type}(x:α)(l:List α)(y:Option β):chk ((0:Int)<=1∧1<=(List.length (x::l):Int)∧(List.length (x::l):Int)<=(List.length (x::l):Int)) y=y:=AO (by simp only[AC];omega)
def Vs{α:Type}(x:α)(l:List α):AU (x::l) 0=some x:=rfl
def Rq{α:Type}(x:α)(l:List α):decide (0 < ((x::l).length:Int))=true:=Ak (by simp only[AC];omega)
def Sb{α:Type}(x:α)(l:List α):(((x::l).length:Int)==0)=false:=by simp only[AC,Be];omega
section
variable {A0 B0:List Row}
abbrev YK:=Nat×Row
structure MInv (A0 B0:List Row) (a b out:List YK):Prop where
 nd:((out++(a++b)).map (·.1)).Nodup
 at_:∀p∈out++(a++b),(A0++B0)[p.1]? =some p.2
 so:X8 (out.map (·.2))
 sa:X8 (a.map (·.2))
 sb:X8 (b.map (·.2))
 lt:∀x∈out,∀y∈a++b,DV x.2 y.2 < 0
 mem:∀z,(z∈(out++(a++b)).map (·.2))↔z∈A0++B0
 len:∀p∈a++b,p.2.length<=lim
 few:out.length+a.length+b.length<=lim
def ia{l:List Row}{x:Row}(h:X8 l)(d:∀y∈l,DV y x < 0):X8 (l++[x]):=by unfold X8;rw[EF];exact⟨h,D2 _ _,λa e b c=>by rw[As]at c;subst c;exact d a e⟩
def MInv.takeA{x:YK}{a b out}(h:MInv A0 B0 (x::a) b out)(g:∀y∈b,DV x.2 y.2 < 0):MInv A0 B0 a b (out++[x]):=by
 have f:=h.sa;rw[AP]at f;have⟨s1,s2⟩:=Ct.1 f;have e:out++[x]++(a++b)=out++(x::a++b):=nF;refine⟨by rw[e];exact h.nd,by rw[e];exact h.at_,?_,s2,h.sb,?_,by rw[e];exact h.mem,λp c=>h.len p (by simp only[CR,AL];exact .inr c),by have:=h.few;simp only[An,AC,Bn]at this⊢;omega⟩
 ·rw[Br];exact ia h.so (λy d=>by obtain⟨p,c,rfl⟩:=Aw.1 d;exact h.lt p c x nF)
 ·intro p c y d;rcases Al.1 c with c|c
  ·exact h.lt p c y (by simp only[CR,AL];exact .inr d)
  ·rw[As]at c;subst c;rcases Al.1 d with d|d
   ·exact s1 y.2<|CE d
   ·exact g y d
def MInv.takeB{y:YK}{a b out}(h:MInv A0 B0 a (y::b) out)(g:∀x∈a,DV y.2 x.2 < 0):MInv A0 B0 a b (out++[y]):=by
 have f:=h.sb;rw[AP]at f;have⟨s1,s2⟩:=Ct.1 f;have e:(out++[y]++(a++b)).Perm (out++(a++y::b)):=by rw[Bw];exact Mh _ (by rw[Hq];exact(List.perm_middle (l₁:=a)).symm)
 refine⟨((e.map _).nodup_iff).2 h.nd,λp c=>h.at_ p<|e.mem_iff.1 c,?_,h.sa,s2,?_,λz=>by rw[(e.map _).mem_iff];exact h.mem z,λp c=>h.len p (by rcases Al.1 c with c|c<;>simp[c]),by have:=h.few;simp only[An,AC,Bn]at this⊢;omega⟩
 ·rw[Br];exact ia h.so (λz d=>by obtain⟨p,c,rfl⟩:=Aw.1 d;exact h.lt p c y nF)
 ·intro p c z d;rcases Al.1 c with c|c
  ·exact h.lt p c z (by rcases Al.1 d with d|d<;>simp[d])
  ·rw[As]at c;subst c;rcases Al.1 d with d|d
   ·exact g z d
   ·exact s1 z.2<|CE d
def MInv.AiD{x y:YK}{a b out}(h:MInv A0 B0 (x::a) (y::b) out)(e:x.2=y.2):MInv A0 B0 a b (out++[x]):=by
 have sb:=h.sb;rw[AP]at sb;have⟨s1,s2⟩:=Ct.1 sb;have h2:MInv A0 B0 (x::a) b out->MInv A0 B0 a b (out++[x]):=λh'=>h'.takeA (λz hz=>by rw[e];exact s1 z.2<|CE hz)
 refine h2 ?_;have sub2:∀{z:YK},z∈x::a++b->z∈x::a++y::b:=λhz=>(ND (List.Sublist.refl _)<|List.sublist_cons_self _ _).subset hz
 have sub:List.Sublist (out++(x::a++b)) (out++(x::a++y::b)):=ND (List.Sublist.refl _)<|ND (List.Sublist.refl _)<|List.sublist_cons_self _ _;refine⟨h.nd.sublist<|sub.map _,λp hp=>h.at_ p<|sub.subset hp,h.so,h.sa,s2,λp hp z hz=>h.lt p hp z<|sub2 hz,λz=>?_,λp hp=>h.len p<|sub2 hp,by have:=h.few;simp only[AC]at this⊢;omega⟩;rw[<-h.mem z];constructor
 ·intro hz;exact(sub.map _).subset hz
 ·intro hz;obtain⟨p,hp,rfl⟩:=Aw.1 hz;by_cases hy:p=y
  ·subst hy;rw[<-e];exact CE nF
  ·refine CE ?_;simp only[Al,AL]at hp⊢;rcases hp with hp|(hp|hp)|hp|hp
   ·exact .inl hp
   ·exact .inr<|.inl<|.inl hp
   ·exact .inr<|.inl<|.inr hp
   ·exact absurd hp hy
   ·exact .inr<|.inr hp
def sy{x y:YK}{b}(c:X8 ((y::b).map (·.2)))(h:DV x.2 y.2 < 0):∀z∈y::b,DV x.2 z.2 < 0:=by
 rw[AP]at c;have⟨s1,s2⟩:=Ct.1 c;intro z a;rcases AL.1 a with rfl|a
 ·exact h
 ·exact QB h<|s1 z.2<|CE a
def AaV{a b}(g:MInv A0 B0 a b []):∃o,Ay Fv fz (a,b,([]:List YK))=some o∧MInv A0 B0 [] [] o:=by
 refine Fu (B:=Fv) (λs=>MInv A0 B0 s.1 s.2.1 s.2.2) (λs=>s.1.length+s.2.1.length) (λo=>MInv A0 B0 [] [] o) ?_ fz (a,b,[]) g (by have:=g.few;simp at this⊢;unfold lim at this;unfold fz;omega);rintro⟨a,b,out⟩ h;change MInv A0 B0 a b out at h;have d:=h.few;cases a with
 |nil=>
  cases b with
  |nil=>exact .inl ⟨out,h,λrec=>rfl⟩
  |cons y b=>refine .inr ⟨([],b,out++[y]),h.takeB nF,nF,λrec=>?_⟩;simp only[Fv,IT,Bn,Rq,Int.natCast_zero];rw[show decide ((0:Int) < 0)=false from rfl];simp only[Ad,Ac,show((0:Int)==0)=true from rfl,HS,IU,Vs,Aa];rw[show decide ((1:Int)<=0)=false from rfl,show decide ((0:Int)<=1)=true from rfl,show decide ((0:Int) < 1)=true from rfl];simp only[Ad,Ac];rw[AO (by simp only[AC,Bn]at d⊢;omega)];simp only[Md,PH,Nz]
 |cons x a=>
  cases b with
  |nil=>refine .inr ⟨(a,[],out++[x]),h.takeA nF,nF,λrec=>?_⟩;simp only[Fv,IT,Rq,Ac,Sb,Ad,Bn];rw[show decide ((0:Int) < ((0:Nat):Int))=false from rfl];simp only[Ad,HS,Vs,Aa];rw[show decide ((-1:Int)<=0)=true from rfl,Ac,AO (by simp only[AC,Bn]at d⊢;omega)];simp only[PH,Nz,IU];rfl
  |cons y b=>
   have c:=h.len x nF;rcases Int.lt_trichotomy (DV x.2 y.2) 0 with e|e|e
   ·refine .inr ⟨(a,y::b,out++[x]),h.takeA<|sy h.sb e,nF,λrec=>?_⟩;simp only[Fv,IT,Rq,Ac,Sb,Ad,Vs,Aa,jd c,HS];rw[Ak (aG:DV x.2 y.2<=0),Ac,AO (by simp only[AC,Bn]at d⊢;omega)];simp only[PH,Nz,IU];rw[Ah (aG:¬0<=DV x.2 y.2),Ad]
   ·refine .inr ⟨(a,b,out++[x]),h.AiD<|Ub e,by simp;omega,λrec=>?_⟩;simp only[Fv,IT,Rq,Ac,Sb,Ad,Vs,Aa,jd c,HS];rw[Ak (aG:DV x.2 y.2<=0),Ac,AO (by simp only[AC,Bn]at d⊢;omega)];simp only[PH,Nz,IU];rw[Ak (aG:0<=DV x.2 y.2),Ac,Ah (aG:¬0 < DV x.2 y.2),Ad];simp only[Md,PH,Nz]
   ·have f:DV y.2 x.2 < 0:=by have:=cmp_neg x.2 y.2;omega
    refine .inr ⟨(x::a,b,out++[y]),h.takeB<|sy h.sa f,nF,λrec=>?_⟩;simp only[Fv,IT,Rq,Ac,Sb,Ad,Vs,Aa,jd c,HS];rw[Ah (aG:¬DV x.2 y.2<=0),Ad];simp only[IU,Vs,Aa];rw[Ak (aG:0<=DV x.2 y.2),Ac,Ak (aG:0 < DV x.2 y.2),Ac,AO (by simp only[AC,Bn]at d⊢;omega)];simp only[Md,PH,Nz]
def sL{l}:∀(o:List YK) (a:zN),(o.map (·.1)).Nodup->(∀p∈o,p.1∉a)->(∀p∈o,l[p.1]? =some p.2)->okJ l (o.map Sum.inl) a=true
 |[],_,_,_,_=>rfl
 |p::o,a,c,d,f=>by rw[AP]at c;have⟨g,h⟩:=BI.1 c;simp only[AP,okJ,f p nF,C4,AK,Ab,At];refine⟨by simpa using d p nF,sL o _ h (λq b=>?_)<|λq b=>f q<|by simp[b]⟩;simp only[AL,not_or];exact⟨λe=>g (by rw[<-e];exact CE b),d q<|by simp[b]⟩
def R1:∀(k:Nat) (l:List Row),(HG k l).map (·.2)=l
 |_,[]=>rfl
 |k,x::l=>by rw[HG,AP,R1 (k+1) l]
def bM:∀(k:Nat) (l:List Row),(HG k l).map (·.1)=List.range' k l.length
 |_,[]=>rfl
 |k,x::l=>by rw[HG,AP,bM (k+1) l,AC,D0]
def fi:∀(k:Nat) (l:List Row) (p:YK),p∈HG k l->k<=p.1∧l[p.1 - k]? =some p.2
 |_,[],p,h=>by simp[HG]at h
 |k,x::l,p,h=>by
  rw[HG]at h;rcases AL.1 h with rfl|h
  ·simp
  ·have⟨b,a⟩:=fi (k+1) l p h;refine⟨aG,?_⟩;rw[show p.1 - k=(p.1 - (k+1))+1 by omega];simpa using a
def uQ(d:X8 A0)(e:X8 B0)(g:A0.length+B0.length<=lim)(i:∀x∈A0++B0,x.length<=lim):MInv A0 B0 (HG 0 A0) (HG A0.length B0) []:=by
 refine⟨?_,?_,List.Pairwise.nil,by rw[R1];exact d,by rw[R1];exact e,nF,?_,?_,by simp[Yj];exact g⟩
 ·rw[BX,Br,bM,bM,show List.range' 0 A0.length++List.range' A0.length B0.length=List.range' 0 (A0.length+B0.length)by have:=List.range'_append_1 (s:=0) (m:=A0.length) (n:=B0.length);rwa [C9]at this];exact List.nodup_range'
 ·intro p a;rw[BX]at a;rcases Al.1 a with a|a
  ·have⟨_,b⟩:=fi 0 A0 p a;rw[Nat.sub_zero]at b
   have c:p.1 < A0.length:=by
    rcases Bi p.1 A0.length with h|h
    ·exact h
    ·rw[Bt h]at b;cases b
   rw[Cc c];exact b
  ·have⟨j,b⟩:=fi A0.length B0 p a;rw[CF j];exact b
 ·intro z;rw[BX,Br,R1,R1]
 ·intro p a;refine i p.2 ?_;rcases Al.1 a with a|a
  ·have:=CE (f:=λx:YK=>x.2) a;rw[R1]at this;simp[this]
  ·have:=CE (f:=λx:YK=>x.2) a;rw[R1]at this;simp[this]
end
def rS{n:Nat}(a:n<=lim):wZ (Int.tdiv (n:Int) 2)=((n / 2:Nat):Int):=by rw[show Int.tdiv (n:Int) 2=((n / 2:Nat):Int)by rw[Jv aG];omega];exact wrap_in (by unfold lim at a;omega)
def fG:∀(m:Nat) (l:List Row),l.length < m->l.length<=lim->(∀r∈l,r.length<=lim)->Ay Lp m l=some (sortB l)
 |0,_,h,_,_=>by omega
 |m+1,l,p,e,b=>by
  rw[Cn,Lp];by_cases d:(l.length:Int) < 2
  ·rw[Ak d,Ac,rU ⟨e,b⟩]
   have:X8 l:=by
    match l,d with
    |[],_=>exact List.Pairwise.nil
    |[x],_=>exact D2 _ _
    |x::y::l,h=>simp at h;omega
   simp only[Aa];rw[<-WF this (λz=>Ea)]
  ·rw[Ah d,Ad,rS e];have f:CZ l 0 ((l.length / 2:Nat):Int)=l.take (l.length / 2):=by unfold CZ;rw[Ax];rfl
   have e2:CZ l ((l.length / 2:Nat):Int) (l.length:Int)=l.drop (l.length / 2):=by unfold CZ;rw[Ax,Ax,AQ]
   have g:(l.take<|l.length / 2).length < m:=by rw[AH];omega
   have i:(l.drop<|l.length / 2).length < m:=by rw[BH];omega
   rw[AO aG,f,fG m _ g (by rw[AH];omega) (λr h=>b r<|Dd h)];simp only[Aa];rw[AO aG,e2,fG m _ i (by rw[BH];omega) (λr h=>b r<|JU h)];have s1:=K8<|l.take<|l.length / 2;have s2:=K8<|l.drop<|l.length / 2;rw[AH]at s1;rw[BH]at s2;have a:∀z,z∈sortB (l.take<|l.length / 2)++sortB (l.drop<|l.length / 2)↔z∈l:=λz=>by rw[Al,Fd,Fd,<-Al,CI]
   have⟨o,j,c⟩:=AaV<|uQ (Nm<|l.take<|l.length / 2) (Nm<|l.drop<|l.length / 2) aG<|λx k=>b x<|(a x).1 k
   simp only[j];rw[AO (sL o [] (by have:=c.nd;simpa using this) nF (by have:=c.at_;simpa using this))];have n:List.map getM (List.map Sum.inl o)=o.map (·.2):=by rw[D4];rfl
   rw[n,WF (l:=l) c.so (λz=>by have:=c.mem z;simp only[A7]at this;rw[this,a])]
def po{l:List Row}(h:GQ l):SO l=some (sortB l):=fG fz l (Dp h.1) h.1 h.2
structure SInv (l0:List Row) (a b out:List Row):Prop where
 so:X8 out
 sa:X8 a
 sb:X8 b
 le:∀x∈out,∀y∈a++b,DV x y<=0
 mem:∀z,z∈out++(a++b)↔z∈l0
 len:∀p∈out++(a++b),p.length<=lim
 few:out.length+a.length+b.length<=lim
def aM(out:List Row)(x:Row):List Row:=match out.getLast? with
 |none=>[x]
 |some y=>if DV y x=0 then out else out++[x]
def push_inv{l0 a b a' b' out:List Row}{x:Row}(h:SInv l0 a b out)(ha:X8 a')(hb:X8 b')(hlt:∀y∈a'++b',DV x y<=0)(hx:x∈a++b)(hm:∀z,z∈x::(a'++b')↔z∈a++b)(hf:1+a'.length+b'.length<=a.length+b.length):SInv l0 a' b' (aM out x)∧(aM out x).length<=out.length+1:=by
 have hxl:=h.len x (by simp only[Al]at hx⊢;exact .inr hx)
 have key:∀out',X8 out'->(∀z,z∈out'↔z∈out∨z=x)->out'.length<=out.length+1->SInv l0 a' b' out'∧out'.length<=out.length+1:=λout' s m l=>by
  have hsub:∀y,y∈a'++b'->y∈a++b:=λy hy=>(hm y).1 (by simp only[AL];exact .inr hy)
  refine⟨⟨s,ha,hb,λy hy z hz=>?_,λz=>?_,λp hp=>?_,by have:=h.few;omega⟩,l⟩
  ·rcases(m y).1 hy with hy|rfl
   ·exact h.le y hy z<|hsub z hz
   ·exact hlt z hz
  ·rw[<-h.mem z,(Al:z∈out'++(a'++b')↔_),(Al:z∈out++(a++b)↔_),m z,<-hm z,AL];constructor
   ·rintro((h|h)|h)
    ·exact .inl h
    ·exact .inr<|.inl h
    ·exact .inr<|.inr h
   ·rintro(h|h|h)
    ·exact .inl<|.inl h
    ·exact .inl<|.inr h
    ·exact .inr h
  ·rcases Al.1 hp with hp|hp
   ·rcases(m p).1 hp with hp|rfl
    ·exact h.len p (by simp[hp])
    ·exact hxl
   ·exact h.len p<|AB _<|hsub p hp
 unfold aM;cases hl:out.getLast? with
 |none=>
  have:out=[]:=by simpa using hl
  subst this;exact key [x] (D2 _ _) (λz=>by simp) nF
 |some y=>
  simp only;have hy:y∈out:=JT hl;have hyx:=h.le y hy x hx;split
  ·rename_i hc;have hxy:=Ub hc;refine key out h.so (λz=>⟨.inl,λhz=>hz.elim id<|λe=>by rw[e,<-hxy];exact hy⟩) aG
  ·rename_i hc;refine key (out++[x]) (ia h.so<|λz hz=>?_) (λz=>by simp) nF
   have hzy:z=y∨DV z y < 0:=by
    obtain⟨ys,e⟩:=JS.1 hl;rw[e]at hz;rcases Al.1 hz with hz|hz
    ·right;have:=h.so;rw[e]at this;exact(EF.1 this).2.2 z hz y nF
    ·left;simpa using hz
   rcases hzy with rfl|hzy
   ·omega
   ·exact QB hzy aG
def lK{c:(List Row×List Row×List Row)->Option (List Row)}{out a b:List Row}{x:Row}(j:∀r∈out,r.length<=lim)(h:out.length+1<=lim):OG c out a b x=c (a,b,aM out x):=by
 unfold OG aM;cases f:out.getLast? with
 |none=>
  have:out=[]:=by simpa using f
  subst this;simp only[Bn,show(((0:Nat):Int)==0)=true from rfl,Ac,OH];rw[AO (by simp;unfold lim;omega)];rfl
 |some y=>
  obtain⟨l,e⟩:=JS.1 f;have i:0 < out.length:=by rw[e];simp
  have k:((out.length:Int)==0)=false:=by rw[Be];omega
  have g:AU out (wZ<|(out.length:Int) - 1)=some y:=by rw[wrap_in (by unfold lim at h;omega),show(out.length:Int) - 1=((out.length - 1:Nat):Int)by omega,PI,e];simp
  rw[k,Ad,g];simp only[Aa,XM (j y<|JT f),OH];by_cases d:DV y x=0
  ·rw[Az d,show(DV y x !=0)=false by rw[d];rfl,Ad]
  ·rw[AA d,show(DV y x !=0)=true by simpa using d,Ac,AO (by simpa using h)]
def Acf{l0 a b}(n:SInv l0 a b []):∃o,Ay F7 fz (a,b,([]:List Row))=some o∧SInv l0 [] [] o:=by
 refine Fu (B:=F7) (λs=>SInv l0 s.1 s.2.1 s.2.2) (λs=>s.1.length+s.2.1.length) (λo=>SInv l0 [] [] o) ?_ fz (a,b,[]) n (by have:=n.few;simp at this⊢;unfold lim at this;unfold fz;omega);rintro⟨a,b,out⟩ h;change SInv l0 a b out at h;have i:=h.few;have d:∀r∈out,r.length<=lim:=λr t=>h.len r (by simp[t])
 cases a with
 |nil=>
  cases b with
  |nil=>exact .inl ⟨out,h,λrec=>rfl⟩
  |cons y b=>have⟨s1,s2⟩:=Ct.1 h.sb;have⟨e,j⟩:=push_inv (x:=y) (a':=[]) (b':=b) h List.Pairwise.nil s2 (λz c=>by have:=s1 z (by simpa using c);omega) nF (λz=>by simp) (by simp;omega);refine .inr ⟨([],b,aM out y),e,nF,λrec=>?_⟩;simp only[F7,Kl,Bn,Rq,Int.natCast_zero];rw[show decide ((0:Int) < 0)=false from rfl];simp only[Ad,Ac,show((0:Int)==0)=true from rfl,I3,Vs,Aa];rw[show decide ((0:Int) < 1)=true from rfl];simp only[Ac,PH,Nz];exact lK d (by simp at i;omega)
 |cons x a=>
  have⟨k,p⟩:=Ct.1 h.sa;cases b with
  |nil=>have⟨e,j⟩:=push_inv (x:=x) (a':=a) (b':=[]) h p List.Pairwise.nil (λz c=>by have:=k z (by simpa using c);omega) nF (λz=>by simp) (by simp;omega);refine .inr ⟨(a,[],aM out x),e,nF,λrec=>?_⟩;simp only[F7,Kl,Rq,Ac,Sb,Ad,Bn];rw[show decide ((0:Int) < ((0:Nat):Int))=false from rfl];simp only[Ad,I3,Vs,Aa];rw[show decide ((0:Int) < -1)=false from rfl];simp only[Ad,PH,Nz];exact lK d (by simp at i;omega)
  |cons y b=>
   have⟨s1,s2⟩:=Ct.1 h.sb;have f:=h.len x nF;by_cases q:0 < DV x y
   ·have l:DV y x < 0:=by have:=cmp_neg x y;omega
    have⟨e,j⟩:=push_inv (x:=y) (a':=x::a) (b':=b) h h.sa s2 (λz c=>by
     rcases Al.1 c with c|c
     ·rcases AL.1 c with rfl|c
      ·omega
      ·have:=QB l<|k z c;omega
     ·have:=s1 z c;omega) nF (λz=>by simp only[AL,Al];constructor<;>(intro g;rcases g with g|(g|g)|g<;>simp_all)) (by simp;omega)
    refine .inr ⟨(x::a,b,aM out y),e,nF,λrec=>?_⟩;simp only[F7,Kl,Rq,Ac,Sb,Ad,Vs,Aa,XM f,I3];rw[Ak q];simp only[Ac,PH,Nz];exact lK d (by simp at i;omega)
   ·have m:DV x y<=0:=aG
    have⟨e,j⟩:=push_inv (x:=x) (a':=a) (b':=y::b) h p h.sb (λz c=>by
     rcases Al.1 c with c|c
     ·have:=k z c;omega
     ·rcases AL.1 c with rfl|c
      ·exact m
      ·have u:=s1 z c;by_cases v:DV x y=0
       ·rw[Ub v];omega
       ·have:=QB (aG:DV x y < 0) u;omega) nF (λz=>by simp) (by simp;omega)
    refine .inr ⟨(a,y::b,aM out x),e,nF,λrec=>?_⟩;simp only[F7,Kl,Rq,Ac,Sb,Ad,Vs,Aa,XM f,I3];rw[Ah q];simp only[Ad,PH,Nz];exact lK d (by simp at i;omega)
def gQ:∀(m:Nat) (l:List Row),l.length < m->l.length<=lim->(∀r∈l,r.length<=lim)->Ay Lv m l=some (sortB l)
 |0,_,h,_,_=>by omega
 |m+1,l,s,g,d=>by
  rw[Cn,Lv];by_cases e:(l.length:Int) < 2
  ·rw[Ak e,Ac]
   have:X8 l:=by
    match l,e with
    |[],_=>exact List.Pairwise.nil
    |[x],_=>exact D2 _ _
    |x::y::l,h=>simp at h;omega
   rw[<-WF this (λz=>Ea)]
  ·rw[Ah e,Ad,rS g];have i:CZ l 0 ((l.length / 2:Nat):Int)=l.take (l.length / 2):=by unfold CZ;rw[Ax];rfl
   have e2:CZ l ((l.length / 2:Nat):Int) (l.length:Int)=l.drop (l.length / 2):=by unfold CZ;rw[Ax,Ax,AQ]
   have j:(l.take<|l.length / 2).length < m:=by rw[AH];omega
   have k:(l.drop<|l.length / 2).length < m:=by rw[BH];omega
   rw[AO aG,i,gQ m _ j (by rw[AH];omega) (λr h=>d r<|Dd h)];simp only[Aa];rw[AO aG,e2,gQ m _ k (by rw[BH];omega) (λr h=>d r<|JU h)];have s1:=K8<|l.take<|l.length / 2;have s2:=K8<|l.drop<|l.length / 2;rw[AH]at s1;rw[BH]at s2;have c:∀z,z∈sortB (l.take<|l.length / 2)++sortB (l.drop<|l.length / 2)↔z∈l:=λz=>by rw[Al,Fd,Fd,<-Al,CI]
   have⟨o,n,f⟩:=Acf (l0:=l) (a:=sortB<|l.take<|l.length / 2) (b:=sortB<|l.drop<|l.length / 2) ⟨List.Pairwise.nil,Nm _,Nm _,nF,λz=>by rw[BX];exact c z,λp q=>d p<|(c p).1<|by simpa using q,by simp;omega⟩;simp only[n];rw[WF (l:=l) f.so (λz=>by have:=f.mem z;simpa using this)]
def Ait{l:List Row}(h:GQ l):XX l=some (sortB l):=gQ fz l (Dp h.1) h.1 h.2
def nL(l:zN):zI:=l.map λ(v:Nat)=>(v:Int)
def NC(l:zN):(nL l).length=l.length:=Ai _
def fV{l}{k:Nat}(h:k < l.length):AU (nL l) (k:Int)=some ((l[k]:Nat):Int):=by rw[AV (by rw[NC];exact h)];unfold nL;rw[Bl]
def xP(a b:zN):nL (a++b)=nL a++nL b:=Br
def AdJ{p}{i k:Nat}(hi:i < p.length):(Sk p i==some k)=(p[i]==(k:Int)):=by
 unfold Sk;rw[di hi,Bb,Bv,Bv];constructor
 ·intro h;split at h
  ·rw[Av]at h;omega
  ·cases h
 ·intro h;rw[Az aG,h];simp
def AnN(n:Nat)(f:Nat->Bool):(List.range<|n+1).filter f=(List.range n).filter f++cond (f n) [n] []:=by rw[CO,CQ,DD,DM];cases f n<;>rfl
def p8(n:Nat)(f:Nat->Bool):((List.range n).filter f).length<=n:=Bm (BY _ _) (by rw[BJ];exact A5 _)
def pi{p}(d:p.length<=lim)(k:Nat):FI p (k:Int)=some (nL<|U8 p k):=by
 have b:=Cm (body:=Fz p (k:Int)) (out:=nL (U8 p k)) (λj=>(nL ((List.range j).filter λc=>Sk p c==some k),(j:Int))) p.length (λj a e=>by
  have f:=p8 j λc=>Sk p c==some k
  unfold Fz Iy Iz;simp only;rw[Bq a,Ac,AV a,Bj,BA a (Bk d),AnN,AdJ a,xP,Ak (show(0:Int)<=(k:Int)by omega)];cases p[j]==(k:Int)with
  |true=>rw[Ac,Ac,AO (by rw[NC,Aj];omega)];rfl
  |false=>rw[Ad,Ad];simp[nL]) (λrec=>by unfold Fz;simp only;rw[Bh];rfl) fz (Dp d)
 unfold FI;rw[show((([]:zI),(0:Int)))=(nL<|(List.range 0).filter λc=>Sk p c==some k,((0:Nat):Int))from rfl,b];rfl
def uJ(p:zI):HP p=FP p:=by
 have a:KV p=F6 p:=by funext rec s;have⟨b,c⟩:=s;unfold KV F6 KW I0;simp only;congr 2;funext e;unfold bne;cases e==(-1)<;>rfl
 unfold HP FP;rw[a];rfl
def pn{p}(a:p.length<=lim):HP p=some (Mo p):=by rw[uJ,gP a]
section
variable {p:zI}{r:Nat}{D:Nat->Nat}(hp:p.length<=lim)(h:TrN p.length r (Sk p) (U8 p) D)
include h
include hp
end
def dA(L:zI)(i:Nat):zI:=(List.range L.length).map λt=>L.getD (if t < i∨L.length - 1 - t < i then L.length - 1 - t else t) 0
def OC(L:zI)(i:Nat):(dA L i).length=L.length:=by unfold dA;rw[Ai,BJ]
def WD{L i t}(a:t < L.length):(dA L i)[t]'(by rw[OC];exact a)=L.getD (if t < i∨L.length - 1 - t < i then L.length - 1 - t else t) 0:=by unfold dA;rw[Bl,Ei]
def Afg{L}(k:L.length<=lim):Ay Ni fz (L,0,wZ<|(L.length:Int) - 1)=some L.reverse:=by
 rw[wrap_in (by unfold lim at k;omega)];have r:L=dA L 0:=Cp (OC L 0).symm λt b c=>by rw[WD b,AA aG,AF,Af b];rfl
 have d:∀i:Nat,L.length<=2 * i+1->dA L i=L.reverse:=λi hi=>Cp (by rw[OC,Dx]) λt b c=>by
  rw[OC]at b;rw[WD b,MV];by_cases n:t < i∨L.length - 1 - t < i
  ·rw[Az n,AF,Af aG];rfl
  ·rw[AA n,AF,Af b];simp only[Bz];congr 1;omega
 have⟨o,e,s⟩:=Fu (B:=Ni) (λst=>∃i:Nat,st=(dA L i,(i:Int),(L.length:Int) - 1 - (i:Int))∧i<=L.length) (λst=>L.length - st.2.1.toNat) (λo=>o=L.reverse) (λst l=>by
  obtain⟨i,rfl,hi⟩:=l;by_cases f:(i:Int) < (L.length:Int) - 1 - (i:Int)
  ·right;obtain⟨j,u⟩:∃j:Nat,j=L.length - 1 - i:=⟨_,rfl⟩;have m:(L.length:Int) - 1 - (i:Int)=(j:Int):=aG;have g:i < L.length:=aG;have a:j < L.length:=aG;have g1:AU (dA L i) (j:Int)=some (L.getD j 0):=by rw[AV (by rw[OC];exact a),WD a,AA aG]
   have g2:AU (dA L i) (i:Int)=some (L.getD i 0):=by rw[AV (by rw[OC];exact g),WD g,AA aG]
   have h:CY (CY (dA L i) (i:Int)<|L.getD j 0) (j:Int) (L.getD i 0)=dA L (i+1):=by
    unfold CY;rw[Ax,Ax];refine Cp (by rw[By,By,OC,OC]) λt b c=>?_
    rw[OC]at c;rw[Di,Di,WD c,WD c];by_cases p:j=t
    ·subst p;rw[Az rfl,Az aG];congr 1;omega
    ·rw[AA p];by_cases c2:i=t
     ·subst c2;rw[Az rfl,Az aG];congr 1
     ·rw[AA c2];by_cases q:t < i∨L.length - 1 - t < i
      ·rw[Az q,Az aG]
      ·rw[AA q,AA aG]
   refine⟨_,⟨i+1,rfl,aG⟩,by simp only[Ax];omega,λrec=>?_⟩;unfold lim at k;unfold Ni;simp only;rw[Ak f,Ac,AO (by rw[OC];omega),m,g1,Bj,g2,Bj,Bj];rw[show AU (CY (dA L i) (i:Int) (L.getD j 0)) (j:Int)=some (L.getD j 0)from by unfold CY;rw[AV (by rw[By,OC];exact a),Di,AA (by rw[Ax];omega),WD a,AA aG],Bj,h,wrap_in aG,wrap_in aG];congr 3;omega
  ·left;refine⟨_,rfl,λrec=>?_⟩;unfold Ni;simp only;rw[Ah f,Ad,d i aG]) fz (L,0,(L.length:Int) - 1) ⟨0,by rw[<-r];simp,BF _⟩ (by unfold fz;unfold lim at k;simp only;omega)
 rw[e,s]
def w9{p}{r:Nat}{D}(d:p.length<=lim)(h:TrN p.length r (Sk p) (U8 p) D)(j:Mo p=(r:Int)):∃O:zN,BfI p.length r (U8 p) O O.length∧O3 p=some (nL O.reverse):=by
 have⟨o,e,O,l,b⟩:=Fu (B:=Nh p) (λst=>∃O:zN,∃k:Nat,st=(nL O,(k:Int))∧k<=O.length∧BfI p.length r (U8 p) O k) (λst=>p.length - st.2.toNat) (λo=>∃O:zN,o=nL O∧BfI p.length r (U8 p) O O.length) (λst f=>by
  obtain⟨O,k,rfl,i,b⟩:=f;have m:=Zp b;by_cases a:k < O.length
  ·right;have c:=Am3 h b a;have g:=Zp c;rw[An]at g;refine⟨_,⟨O++U8 p O[k],k+1,rfl,by rw[An];omega,c⟩,by simp only[Ax];omega,λrec=>?_⟩;unfold Nh;simp only;rw[NC,Bq a,Ac,fV a,Bj,pi d,Bj,NC,AO aG,BA a (Bk aG),xP]
  ·left;have i:k=O.length:=aG;subst i;refine⟨_,⟨O,rfl,b⟩,λrec=>?_⟩;unfold Nh;simp only;rw[NC,Bh,Ad]) fz (nL [r],0) ⟨[r],0,rfl,nF,Am2 h⟩ (by unfold fz;unfold lim at d;simp only;omega)
 refine⟨O,b,?_⟩;have m:=Zp b;unfold O3;rw[pn d,Bj,j];have n:Ay (Nh p) fz ([(r:Int)],0)=some (nL O):=l ▸ e;rw[n,Bj,Afg (by rw[NC];omega),Bj];unfold nL;rw[List.map_reverse]
def Z2{O:Type}{B:(Int->Option (Sum Unit O))->Int->Option (Sum Unit O)}{n:Nat}(a:Nat->Bool)(o:O)(l:n<=lim)(p:∀k,k < n->∀b,B b (k:Int)=cond (a k) (some<|.inr o) (b ((k+1:Nat):Int)))(q:∀b,B b (n:Int)=some (.inl ())):
  Ay B fz 0=some (cond ((List.range n).any a) (.inr o)<|.inl ()):=by
 have e:∀d k,k+d=n->(∀j,j < k->a j=false)->∀m,d < m->Ay B m (k:Int)=some (cond ((List.range n).any a) (.inr o)<|.inl ()):=by
  intro d;induction d with
  |zero=>
   intro k r f m s;cases m with
   |zero=>omega
   |succ m=>
    have g:k=n:=aG;have:(List.range n).any a=false:=by rw[BU];intro x t;rw[f x (by have:=Ao.1 t;omega)];simp
    show B (Ay B m) (k:Int)=_;rw[g,q,this];rfl
  |succ d u=>
   intro k r f m s;cases m with
   |zero=>omega
   |succ m=>
    show B (Ay B m) (k:Int)=_;rw[p k aG];cases c:a k with
    |true=>
     have:(List.range n).any a=true:=by rw[BR];exact⟨k,Ao.2 aG,c⟩
     rw[this];rfl
    |false=>
     exact u (k+1) aG (λj i=>by
      rcases Bi j k with h|h
      ·exact f j h
      ·rw[show j=k by omega];exact c) m aG
 have:=e n 0 aG (λj i=>absurd i aG) fz<|Dp l;simpa using this
def ee{l:List Row}(h:GQ l):GQ (sortB l):=⟨Bm (K8 l) h.1,λr a=>h.2 r<|(Fd l r).1 a⟩
def SS(a:Int)(x:Row):Bool:=((x.length:Int)!=a) || !Qg x
def dY(a:Int)(l:List Row):(Int×List Row)×Bool:=cond (BK l λ_ x=>SS a x) ((0,[]),false)<|cond (!Ml (a,sortB l)) ((0,[]),false) ((a,sortB l),true)
def Acg{a:Int}{l:List Row}(h:GQ l):Iv a l=some (dY a l):=by
 unfold Iv dY BK;rw[Z2 (λk=>HJ l k λx=>SS a x) _ h.1 (λk b c=>by unfold PC;rw[Bq b,AV b,BA b (Bk h.1),B5 b];simp only[Ac,Aa,AdC (h.2 _<|Ae b),SS];cases((List.length l[k]:Int)!=a)<;>cases Qg l[k]<;>rfl) (λrec=>by unfold PC;rw[Bh];rfl)];cases(List.range l.length).any λk=>HJ l k λx=>SS a x with
 |true=>rfl
 |false=>simp only[Aa,Ad,Ait h,yR (r:=(a,sortB l)) (ee h),ti (r:=(a,sortB l)) (ee h)];cases Ml (a,sortB l)<;>rfl
def Akx{a:Int}{l:List Row}(h:GQ l):OV a l=some (dY a l):=by
 unfold OV dY BK;rw[Z2 (λk=>HJ l k λx=>SS a x) _ h.1 (λk b c=>by unfold Pr;rw[Bq b,AV b,BA b (Bk h.1),B5 b];simp only[Ac,Aa,Ac2 (h.2 _<|Ae b),SS];cases((List.length l[k]:Int)!=a)<;>cases Qg l[k]<;>rfl) (λrec=>by unfold Pr;rw[Bh];rfl)];cases(List.range l.length).any λk=>HJ l k λx=>SS a x with
 |true=>rfl
 |false=>simp only[Aa,Ad,po h,fF (r:=(a,sortB l)) (ee h)];cases Ml (a,sortB l)<;>rfl
abbrev Rln:=Int×List Row
def Z3{α:Type}{l:List α}{f:Nat->α->Bool}(h:∀i (hi:i < l.length),f i l[i]=false):BK l f=false:=by unfold BK;rw[BU];intro i hi;have hi:=Ao.1 hi;rw[B5 hi,h i hi];simp
def TL(r:Rln):Ml r=true↔(0<=r.1∧r.1<=5)∧r.2.length<=4000∧(∀x∈r.2,(x.length:Int)=r.1∧Qg x=true)∧X8 r.2:=by
 unfold Ml HH;simp only[Ab,AN,At,C1];constructor
 ·rintro⟨c,l,b⟩;refine⟨c,aG,λx m=>?_,?_⟩
  ·obtain⟨i,hi,rfl⟩:=AE.1 m;have:=FW b hi;unfold Tm at this;simp only[BN,B8]at this;exact⟨by simpa using this.1.1,this.1.2⟩
  ·have d:∀k (e:k+1 < r.2.length),DV (r.2[k]'aG) r.2[k+1] < 0:=by
    intro k e;have:=FW b e;unfold Tm at this;simp only[BN,Hn]at this;rcases this.2 with a|a
    ·simp at a
    ·rw[show k+1 - 1=k by omega,B5 aG]at a;have:=K6 a;omega
   unfold X8;rw[B3];intro i j hi f n;induction j with
   |zero=>omega
   |succ j o=>
    rcases Bi i j with a|a
    ·exact QB (o aG a)<|d j f
    ·have:i=j:=aG;subst this;exact d i f
 ·rintro⟨c,l,b,a⟩;refine⟨c,aG,Z3 λi hi=>?_⟩;have g:=b _<|Ae hi;unfold Tm;rw[g.2,g.1];simp only[E2,Au,Cg];by_cases h:0 < i
  ·rw[Ak h,AK,B5 (aG:i - 1 < r.2.length)];have:=B3.1 a (i - 1) i aG hi aG;exact Ah aG
  ·rw[Ah h,Ho]
def AaH{l v k}(h:Xp l v=some k):∃d:k < l.length,l[k]=v:=by
 unfold Xp at h;have⟨j,b,a⟩:=Dh h;have b:=Ao.1 b;rw[B5 b]at a;split at a
 ·rename_i c;injection a with a
  subst a;exact⟨b,by simpa using c⟩
 ·cases a
def Hs{l v}(h:l.contains v=true):∃k:Nat,∃a:k < l.length,CA l v=(k:Int)∧l[k]=v:=by rw[<-Zu]at h;have⟨k,a⟩:=HV.1 h;have⟨b,c⟩:=AaH a;exact⟨k,b,by unfold CA;rw[a],c⟩
def AnP{a:J7}(h:a.2.length<=lim):M1 a=some (FJ a 5):=by
 unfold M1
 have:=Cm (body:=Il a) (out:=FJ a 5) (λk=>(FJ a k,(k:Int))) 5 (λk c b=>by
  have d:=NJ a k;unfold Il Kw;simp only;rw[Ak (aG:(k:Int) < 5),nW h,wrap_in aG,AcS];simp only[Ac,Bj];cases a.2.contains (k:Int)with
  |true=>rw[Ac,AO (by unfold lim;simp;omega)];rfl
  |false=>rw[Ad,Ad,A7];rfl) (λrec=>by unfold Il;simp only;rfl) fz (by unfold fz;omega)
 rw[show((([]:zI),(0:Int)))=(FJ a 0,((0:Nat):Int))from rfl,this];rfl
def J8{a v}:v∈FJ a 5↔(0<=v∧v < 5)∧a.2.contains v=true:=by
 unfold FJ;rw[Aw];constructor
 ·rintro⟨n,d,rfl⟩;have b:=AM.1 d;have c:=Ao.1 b.1;exact⟨aG,b.2⟩
 ·rintro⟨b,c⟩;exact⟨v.toNat,AM.2 ⟨Ao.2 aG,by rw[show((v.toNat:Nat):Int)=v by omega];exact c⟩,aG⟩
def LR(a:J7):Prop:=a.2.length<=5∧∀v∈a.2,0<=v∧v < 5
def Vr(V r:zI)(k:Nat):Bool:=(List.range k).all λi=>EL r (CA V<|EL V (i:Int))==EL r (i:Int)
def pa(V r:zI)(k:Nat):Vr V r (k+1)=(Vr V r k&&(EL r (CA V<|EL V (k:Int))==EL r (k:Int))):=by unfold Vr;rw[CO,ED];simp
def rowOf(a:J7)(r:zI):zI:=(FJ a 5).map λv=>EL r<|CA a.2 v
def Dz{l}{k:Nat}(h:k < l.length):EL l (k:Int)=l[k]:=by unfold EL;rw[AV h];rfl
def Amj{a:J7}{r}(c:LR a)(i:r.length=a.2.length){R:List zI}{m:Int}{j:Nat}(d:AU R (j:Int)=some r):Ay (K9 a (FJ a 5) ((m,R),true) (j:Int)) fz (([]:zI),0)=some (rowOf a r):=by have k:=NJ a 5;unfold rowOf;exact Kg (a:=FJ a 5) (h:=λv=>EL r (CA a.2 v)) uY (λk b e=>by have f:=(J8.1<|Ae b).2;have⟨p,l,g,e2⟩:=Hs f;rw[K9];rw[Bq b,d,AV b,BA b (by unfold maxLen;omega),Ac,Bj,Bj,VC (by have:=c.1;unfold lim;omega),Bj,g,AV (aG:p < r.length),Bj,AO (by simp only[Ai,AH,Aj];unfold lim;omega),Dz (aG:p < r.length)]) (λrec y=>by rw[K9];rw[Bh];rfl)
def Amd{a r}(g:LR a)(t:r.length=a.2.length){R:List zI}{m:Int}{j:Nat}(n:AU R (j:Int)=some r):Ay (Hu a (FJ a 5) ((m,R),true) (j:Int)<|rowOf a r) fz (true,0)=some (Vr a.2 r a.2.length):=by
 have u:=NJ a 5
 have:=Cm (body:=Hu a (FJ a 5) ((m,R),true) (j:Int) (rowOf a r)) (out:=Vr a.2 r a.2.length) (λk=>(Vr a.2 r k,(k:Int))) a.2.length (λk d e=>by
  have c:=Ae d;have o:=g.2 _ c;have h:a.2.contains a.2[k]=true:=by rw[Ag];exact c
  have i:(FJ a 5).contains a.2[k]=true:=by rw[Ag];exact J8.2 ⟨o,h⟩
  have⟨p,q,s,e2⟩:=Hs i;have f:AU (rowOf a r) (p:Int)=some (EL r<|CA a.2 a.2[k]):=by rw[PI];unfold rowOf;rw[BS,Af q,e2];rfl
  have l:∀b:Bool,Hv e (k:Int) b=e (b,((k+1:Nat):Int)):=λb=>by rw[Hv,BA d (by have:=g.1;unfold maxLen;omega)]
  rw[Hu,pa,Dz d];rw[Bq d,AV d,Ac,Bj,VC uY,Bj,s,Ak (aG:(0:Int)<=(p:Int)),Ac,f,Bj,n,Bj,AV (aG:k < r.length),Bj,Dz (aG:k < r.length),l,l];cases Vr a.2 r k<;>rfl) (λrec=>by rw[Hu];rw[Bh];rfl) fz (Dp (by have:=g.1;unfold lim;omega))
 exact this
def fp{α β:Type}(f:α->Bool)(g:α->β){l:List α}{k:Nat}(a:k < l.length):((l.take<|k+1).filter f).map g=((l.take k).filter f).map g++cond (f l[k]) [g l[k]] []:=by rw[ft f a,Br];cases f l[k]<;>rfl
def Tr(a:J7)(R:List zI):List zI:=(R.filter λr=>Vr a.2 r a.2.length).map<|rowOf a
def iS(a:J7)(R:List zI)(k:Nat):((((R.take k).filter λr=>Vr a.2 r a.2.length).map<|rowOf a)).length<=k:=by rw[Ai];exact Bm (BY _ _) (by simp;omega)
def Aca{a}(d:LR a){R:List zI}{m:Int}(g:∀r∈R,r.length=a.2.length)(h:R.length<=4000):Ay (Ht a (FJ a 5) ((m,R),true)) fz (([]:List zI),0)=some (Tr a R):=by
 have:=Cm (body:=Ht a (FJ a 5) ((m,R),true)) (out:=Tr a R) (λk=>(((R.take k).filter λr=>Vr a.2 r a.2.length).map (rowOf a),(k:Int))) R.length (λk b c=>by
  have e:=g _<|Ae b;have i:=iS a R k;have f:∀y:List zI,IW c (k:Int) y=c (y,((k+1:Nat):Int)):=λy=>by rw[IW,BA b (by unfold maxLen;omega)]
  rw[Ht,fp _ _ b];rw[Bq b,Ac,Amj d e (AV b),Bj,Amd d e (AV b),Bj,f,f];cases Vr a.2 R[k] a.2.length with
  |true=>rw[Ac,AO (by simp only[Aj];unfold lim;omega)];rfl
  |false=>rw[Ad,Ad,A7]) (λrec=>by rw[Ht];rw[Bh,AQ];rfl) fz (Dp uY)
 exact this
def X5(V r:zI):Nat->zI
 |0=>List.replicate 5 0
 |k+1=>(X5 V r k).set (EL V (k:Int)).toNat<|EL r (k:Int)
def bc(V r:zI):∀k,(X5 V r k).length=5
 |0=>rfl
 |k+1=>by rw[X5,By];exact bc V r k
def tL{V r}(f:∀v∈V,0<=v∧v < 5):∀k,k<=V.length->Vr V r k=true->∀v:Int,0<=v->(∃i,∃hi:i < k,EL V (i:Int)=v)->EL (X5 V r k) v=EL r (CA V v)
 |0,_,_,v,_,⟨i,hi,_⟩=>absurd hi aG
 |k+1,t,g,v,o,⟨i,hi,j⟩=>by
  rw[pa,Ab]at g;have a:k < V.length:=aG;have p:=f _<|Ae a;have m:=bc V r k;by_cases b:EL V (k:Int)=v
  ·have d:EL r (CA V<|EL V (k:Int))=EL r (k:Int):=by simpa using g.2
   rw[b]at d;rw[d,X5,b];rw[Dz a]at b;obtain⟨w,rfl⟩:∃w:Nat,v=(w:Int):=⟨v.toNat,aG⟩;rw[Ax,Dz (by rw[By];omega),List.getElem_set_self]
  ·have l:i < k:=by
    rcases Bi i k with h|h
    ·exact h
    ·exfalso;apply b;rw[<-j];congr 1;omega
   have q:=tL f k aG g.1 v o ⟨i,l,j⟩;have s:v < 5:=by have c:i < V.length:=aG;rw[<-j,Dz c];exact(f _<|Ae c).2
   rw[<-q,X5];have e:v=((v.toNat:Nat):Int):=aG;have n:v.toNat < (X5 V r k).length:=aG;have d:v.toNat < ((X5 V r k).set (EL V (k:Int)).toNat<|EL r (k:Int)).length:=by rw[By];exact n
   conv=>lhs;rw[e]
   conv=>rhs;rw[e]
   rw[Dz d,Dz n,Di];rw[AA (λe2=>by rw[Dz a]at e2 b;omega)]
def Afm{a r}(g:LR a)(o:r.length=a.2.length):Ay (He a r) fz (List.replicate (Int.toNat 5) (0:Int),true,0)=some (X5 a.2 r a.2.length,Vr a.2 r a.2.length):=by
 have:=Cm (body:=He a r) (out:=(X5 a.2 r a.2.length,Vr a.2 r a.2.length)) (λk=>(X5 a.2 r k,Vr a.2 r k,(k:Int))) a.2.length (λk e f=>by
  have d:=Ae e;have q:=g.2 _ d;have h:a.2.contains a.2[k]=true:=by rw[Ag];exact d
  have⟨p,s,l,e2⟩:=Hs h;have i:=bc a.2 r k;have c:k < r.length:=aG
  have j:∀b:Bool,IK f r (X5 a.2 r k) (k:Int) a.2[k] b=f (X5 a.2 r<|k+1,b,((k+1:Nat):Int)):=by
   intro b;have m:a.2[k]=((a.2[k].toNat:Nat):Int):=aG;rw[IK,AV c,Bj,BA e (by have:=g.1;unfold maxLen;omega),X5,Dz e,Dz c]
   have n:AU (X5 a.2 r k) a.2[k]=some ((X5 a.2 r k)[a.2[k].toNat]'aG):=by
    conv=>lhs;rw[m]
    exact AV aG
   rw[n,Bj];rfl
  rw[He,pa,Dz e];rw[Bq e,AV e,Ac,Bj,R4 (by have:=g.1;unfold lim;omega),Bj,l,AV (aG:p < r.length),AV c,Bj,Bj,j,j,Dz (aG:p < r.length),Dz c];cases Vr a.2 r k<;>rfl) (λrec=>by rw[He];rw[Bh];rfl) fz (Dp (by have:=g.1;unfold lim;omega))
 exact this
def AaS{a}(g:LR a){R:List zI}{m:Int}(l:∀r∈R,r.length=a.2.length)(s:R.length<=4000):Ay (Hd a (FJ a 5) ((m,R),true)) fz (([]:List zI),0)=some (Tr a R):=by
 have:=Cm (body:=Hd a (FJ a 5) ((m,R),true)) (out:=Tr a R) (λk=>(((R.take k).filter λr=>Vr a.2 r a.2.length).map (rowOf a),(k:Int))) R.length (λk c d=>by
  have n:=l _<|Ae c;have t:=iS a R k
  have b:Vr a.2 R[k] a.2.length=true->T0 (X5 a.2 R[k] a.2.length) (FJ a 5)=some (rowOf a R[k]):=by
   intro f;have o:=NJ a 5;rw[pj uY (λc p=>by have:=(J8.1 p).1;rw[bc];omega)];unfold Fc rowOf;congr 1;refine Bd λv q=>?_
   have h:=J8.1 q;refine tL g.2 a.2.length (A5 _) f v h.1.1 ?_;have:=h.2;rw[Ag]at this;have⟨i,hi,e⟩:=AE.1 this;exact⟨i,hi,by rw[Dz hi];exact e⟩
  rw[Hd,fp _ _ c];rw[Bq c,AV c,Ac,Bj,AO uY,Afm g n,Bj];simp only;have j:∀y:List zI,IL d (k:Int) y=d (y,((k+1:Nat):Int)):=λy=>by rw[IL,BA c (by unfold maxLen;omega)]
  cases f:Vr a.2 R[k] a.2.length with
  |true=>rw[Ac,b f,Bj,AO (by simp only[Aj];unfold lim;omega),j];rfl
  |false=>rw[Ad,Ad,A7,j]) (λrec=>by rw[Hd];rw[Bh,AQ];rfl) fz (Dp uY)
 exact this
def aP{m:Int}{L:List zI}(c:HH m 0 5=true)(e:L.length<=4000)(d:∀r∈L,(r.length:Int)=m∧Qg r=true):Ml (m,sortB L)=true:=by
 unfold Ml;simp only[Ab,At,C1];refine⟨c,by have:=K8 L;omega,FSQ λi hi=>?_⟩;have a:=d _<|(Fd L _).1<|Ae hi;unfold Tm;rw[a.2,a.1];simp only[E2,Au,Cg];by_cases b:0 < i
 ·rw[Ak b,AK,B5 (aG:i - 1 < (sortB L).length)];have:=B3.1 (Nm L) (i - 1) i aG hi aG;exact Ah aG
 ·rw[Ah b,Ho]
def xW{m:Int}{L:List zI}(c:HH m 0 5=true)(d:L.length<=4000)(a:∀r∈L,(r.length:Int)=m∧Qg r=true):dY m L=((m,sortB L),true):=by
 unfold dY;have e:BK L (λ_ x=>SS m x)=false:=FSQ λi hi=>by have b:=a _<|Ae hi;unfold SS;rw[b.2,b.1];simp
 rw[e,aP c d a];rfl
def Mm{r}(h:Ml r=true):0<=r.1∧r.1<=5∧r.2.length<=4000∧∀x∈r.2,(x.length:Int)=r.1∧Qg x=true:=by unfold Ml HH at h;simp only[Ab,AN,At,C1]at h;refine⟨h.1.1,h.1.2,aG,λx a=>?_⟩;obtain⟨i,hi,rfl⟩:=AE.1 a;have:=FW h.2.2 hi;unfold Tm at this;simp only[BN,B8]at this;exact⟨by simpa using this.1.1,this.1.2⟩
def Zo{x}(h:Qg x=true){k:Nat}(a:k < x.length):0<=x[k]∧x[k]<=99:=by unfold Qg at h;simp only[At]at h;have:=FW h a;unfold HH at this;simpa using this
def bw{x}(h:∀v∈x,0<=v∧v<=99):Qg x=true:=by unfold Qg;rw[FSQ λi hi=>by have:=h _ (Ae hi);unfold HH;simp;omega];rfl
def nj{d nm}(h:(F2 d nm).2=true):Ml (F2 d nm).1=true∧(F2 d nm).1.2.length<=16:=by
 unfold F2 at *;split at h
 ·rename_i a;rw[Az a];cases b:d.find? (λt=>t.1==nm)with
  |none=>rw[b]at h;cases h
  |some t=>simp only;have c:=List.mem_of_find?_eq_some b;unfold dbB at a;simp only[Ab,At]at a;obtain⟨i,hi,rfl⟩:=AE.1 c;have:=FW a.2 hi;unfold X3 at this;simp only[BN,B8,C1]at this;exact⟨this.1.1.2,by have:=this.1.2;omega⟩
 ·cases h
def VM(d:List N9)(a:J7):Int×List zI:=(((FJ a 5).length:Int),sortB<|Tr a (F2 d a.1).1.2)
def Aih{a r}(f:LR a)(g:r.length=a.2.length)(c:Qg r=true):((rowOf a r).length:Int)=((FJ a 5).length:Int)∧Qg (rowOf a r)=true:=by refine⟨by unfold rowOf;rw[Ai],bw λv b=>?_⟩;unfold rowOf at b;obtain⟨u,d,rfl⟩:=Aw.1 b;have⟨p,h,e,e2⟩:=Hs (J8.1 d).2;rw[e,Dz (aG:p < r.length)];exact Zo c aG
def Wf{d a}(i:LR a)(b:FK d a=true):(∀r∈(F2 d a.1).1.2,r.length=a.2.length)∧(F2 d a.1).1.2.length<=16∧∀r∈Tr a (F2 d a.1).1.2,(r.length:Int)=((FJ a 5).length:Int)∧Qg r=true:=by
 unfold FK at b;rw[Ab]at b;have f:=nj b.1;have g:=Mm f.1;have j:(F2 d a.1).1.1=(a.2.length:Int):=by simpa using b.2
 have h:∀r∈(F2 d a.1).1.2,r.length=a.2.length:=λr c=>by have:=(g.2.2.2 r c).1;omega
 refine⟨h,f.2,λr c=>?_⟩;unfold Tr at c;obtain⟨x,e,rfl⟩:=Aw.1 c;have e:=(AM.1 e).1;exact Aih i (h x e) (g.2.2.2 x e).2
def dI(a:J7)(R:List zI):(Tr a R).length<=R.length:=by unfold Tr;rw[Ai];exact BY _ _
def av5(a:J7):HH ((FJ a 5).length:Int) 0 5=true:=by have:=NJ a 5;unfold HH;simp;omega
def qO{d a}(b:LR a)(c:FK d a=true):GQ (Tr a (F2 d a.1).1.2):=by have⟨g,h,e⟩:=Wf b c;have i:=dI a (F2 d a.1).1.2;have j:=NJ a 5;exact⟨uY,λr f=>by have:=(e r f).1;unfold lim;omega⟩
def AnO{d a}(h:Tn d)(c:LR a)(f:FK d a=true):N2 d a=some (VM d a):=by
 have⟨i,k,j⟩:=Wf c f;have l:=dI a (F2 d a.1).1.2;have b:=f;unfold FK at b;rw[Ab]at b;unfold N2 VM;rw[AnP (by have:=c.1;unfold lim;omega),Bj,qb h,Bj,b.1,Au,Ad,show((F2 d a.1).1.1 !=(a.2.length:Int))=false by rw[bne,b.2];rfl,Ad];have g:=Aca c (R:=(F2 d a.1).1.2) (m:=(F2 d a.1).1.1) i aG;have e:F2 d a.1=(((F2 d a.1).1.1,(F2 d a.1).1.2),true):=by rw[<-b.1]
 rw[<-e]at g;rw[g,Bj,Acg (qO c f),Bj,xW (av5 a) aG j];rfl
def wO{n l}(c:1<=n∧n<=5)(d:l.length<=5)(h:∀v∈l,0<=v∧v < n):GX n l=some true:=by
 unfold GX;rw[Ah aG,Ad,Ew (n:=l.length) (λk=>HJ l k λv=>Py n v) uY (λk a b=>by rw[F1];rw[Bq a,AV a,BA a (by unfold maxLen;omega),B5 a,Ac,Bj,Ig,Bj];rfl) (λrec=>by rw[F1];rw[Bh];rfl),Bj];have e:((List.range l.length).any λk=>HJ l k λv=>Py n v)=false:=FSQ (l:=l) (f:=λ_ v=>Py n v) λi hi=>by have:=h _<|Ae hi;unfold Py HH;rw[wrap_in aG];simp;omega
 rw[e];rfl
def Akd{d a}(h:Tn d)(c:LR a)(g:FK d a=true):KP d a=some (VM d a):=by
 have⟨j,k,l⟩:=Wf c g;have b:=g;unfold FK at b;rw[Ab]at b;have f:a.2.length<=lim:=by have:=c.1;unfold lim;omega
 unfold KP VM;rw[ub f (λv=>bW f v),Bj,wT h,Bj,b.1,Au,Ad,show((F2 d a.1).1.1 !=(a.2.length:Int))=false by rw[bne,b.2];rfl,Ad,wO aG c.1 c.2,Bj,Au,Ad];have i:=AaS c (R:=(F2 d a.1).1.2) (m:=(F2 d a.1).1.1) j aG;have e:F2 d a.1=(((F2 d a.1).1.1,(F2 d a.1).1.2),true):=by rw[<-b.1]
 rw[<-e]at i;rw[i,Bj,po (qO c g),Bj]
def Xd{d a}(b:LR a)(c:FK d a=true):Ml (VM d a)=true∧(VM d a).2.length<=16:=by have⟨f,g,e⟩:=Wf b c;have h:=dI a (F2 d a.1).1.2;have i:=K8<|Tr a (F2 d a.1).1.2;exact⟨aP (av5 a) aG e,by unfold VM;simp only;omega⟩
def DG{d q}(h:D7 d q=true):Du q=true∧(∀a∈q.2.1,LR a∧FK d a=true)∧q.2.1.length<=4:=by
 unfold D7 at h;simp only[Ab,At]at h;have⟨c,j,f⟩:=h;have⟨g1,g2,g,e⟩:=De c;refine⟨c,λa b=>⟨⟨(e a b).2.1,λv i=>?_⟩,?_⟩,g⟩
 ·have:=(e a b).2.2 v i;omega
 ·have:=Ln f b;simpa using this
def rl{α β:Type}[DecidableEq β](f:α->β)(c:Nat):∀(B:List β) (rows:List α),(∀x∈rows,f x∈B)->(∀b∈B,(rows.filter λx=>decide (f x=b)).length<=c)->rows.length<=B.length * c
 |[],rows,h,_=>by
  cases rows with
  |nil=>simp
  |cons x l=>exact absurd (h x<|BD ..) nF
 |b::B,rows,h,d=>by
  have j:=d b<|BD ..
  have k:(rows.filter λx=>decide (f x=b)).length+(rows.filter λx=> !decide (f x=b)).length=rows.length:=by
   clear h d j;induction rows with
   |nil=>rfl
   |cons x l o=>rw[DD,DD];cases decide (f x=b)<;>simp<;>omega
  have p:=rl f c B (rows.filter λx=> !decide (f x=b)) (λx m=>by
   have⟨g,a⟩:=AM.1 m;rcases AL.1 (h x g)with i|i
   ·rw[Ak i]at a;cases a
   ·exact i) (λe n=>by
   refine Bm (List.Sublist.length_le ?_)<|d e<|AW _ n;exact List.Sublist.filter _ DY)
  rw[AC,DS,FA];omega
def gz{α β:Type}[DecidableEq β]:∀(F:List ((α->β)×List β)) (rows:List α),rows.Nodup->(∀x∈rows,∀p∈F,p.1 x∈p.2)->(∀x∈rows,∀y∈rows,(∀p∈F,p.1 x=p.1 y)->x=y)->rows.length<=(F.map λp=>p.2.length).prod
 |[],rows,c,_,hi=>by
  cases rows with
  |nil=>simp
  |cons x l=>
   cases l with
   |nil=>simp
   |cons y l=>have:=hi x nF y nF (λp i=>by cases i);subst this;rw[BI]at c;exact absurd nF c.1
 |p::F,rows,c,h,hi=>by
  rw[AP,List.prod_cons];refine rl p.1 _ p.2 rows (λx a=>h x a p<|BD ..)<|λb m=>?_
  refine gz F _ (F5 DY c) (λx a r b=>h x (AM.1 a).1 r<|AW _ b)<|λx a y j k=>?_
  have⟨d,e⟩:=AM.1 a;have⟨f,g⟩:=AM.1 j;refine hi x d y f λr b=>?_
  rcases AL.1 b with rfl|b
  ·rw[Gx e,Gx g]
  ·exact k r b
section
variable {d:List N9}{q:EM}
def IsB(d:List N9)(q:EM)(x:zI):Prop:=(x.length:Int)=q.1∧∀a∈q.2.1,Fc x a.2∈(F2 d a.1).1.2
def Z1{x l:zI}{c:Int}(h:0<=c∧c < l.length):EL (Fc x l) c=EL x (EL l c):=by obtain⟨k,rfl⟩:=CT h.1;have a:k < l.length:=aG;rw[Dz (l:=l) a,Dz (l:=Fc x l) (by unfold Fc;rw[Ai];exact a)];unfold Fc;rw[Bl]
def dz(a:J7)(x:zI):zI:=(FJ a 5).map λv=>EL x v
def Aig{a x}(f:LR a)(h:Fc x a.2∈(F2 d a.1).1.2):dz a x∈(VM d a).2:=by
 unfold VM;refine(Fd _ _).2 ?_;unfold Tr;refine Aw.2 ⟨Fc x a.2,AM.2 ⟨h,?_⟩,?_⟩
 ·unfold Vr;rw[Aq];intro i hi;have hi:=Ao.1 hi;rw[Dz hi];have⟨k,b,c,e2⟩:=Hs (l:=a.2) (v:=a.2[i])<|Ag.2<|Ae hi;rw[c,Z1 aG,Z1 aG,Dz b,Dz hi,e2];simp
 ·unfold rowOf dz;refine Bd λv e=>?_
  have⟨k,b,c,e2⟩:=Hs (J8.1 e).2;rw[c,Z1 aG,Dz b,e2]
def at_set{x:zI}{u v e:Int}(b:0<=v∧v < x.length)(c:0<=u∧u < x.length):EL (CY x v e) u=if u=v then e else EL x u:=by
 obtain⟨i,rfl⟩:=CT b.1;obtain⟨k,rfl⟩:=CT c.1;have a:k < x.length:=aG;unfold CY;rw[Dz (l:=x) a,Dz (l:=x.set (i:Int).toNat e) (by rw[By];exact a),Di];simp only[Ax];by_cases h:i=k
 ·subst h;simp
 ·rw[AA h,AA aG]
def WkG(d:List N9)(q:EM)(n:Nat)(row z:zI):Prop:=
 z.length=row.length∧(∀v:Int,0<=v->v < row.length->EL row v= -1∨EL z v=EL row v)∧∀i (hi:i < q.2.1.length),n<=i->Fc z (q.2.1[i]).2∈(F2 d (q.2.1[i]).1).1.2
def WkC(row V w z:zI):Prop:=z.length=row.length∧(∀v:Int,0<=v->v < row.length->EL row v= -1∨EL row v=EL z v)∧∀i (hi:i < V.length),EL w (i:Int)=EL z V[i]
def WkT(d:List N9)(q:EM)(n:Nat)(row z:zI):Prop:=
 z.length=row.length∧(∀v:Int,0<=v->v < row.length->EL row v=EL z v∨(EL row v= -1∧∃i,∃hi:i < q.2.1.length,n<=i∧v∈(q.2.1[i]).2))∧∀i (hi:i < q.2.1.length),n<=i->Fc z (q.2.1[i]).2∈(F2 d (q.2.1[i]).1).1.2
def Ab6{x z}(a:z.length=x.length)(h:∀v:Int,0<=v->v < x.length->EL x v=EL z v):x=z:=by
 refine Cp a.symm λi b c=>?_
 have:=h i aG aG
 rwa [Dz b,Dz c]at this
def Amz{n j:Nat}{V w row:zI}{v6:(Int×List zI)×Bool}(hn:n < q.2.1.length)(hV:(q.2.1[n]).2=V)(hj:AU v6.1.2 (j:Int)=some w)(har:v6.1.1=(V.length:Int))(hw:w.length=V.length)(hl:V.length<=5)(hin:∀v∈V,0<=v∧v < (row.length:Int))(hp:∀e∈w,0<=e):
  ∃x b,Ay (I4 q (n:Int) v6 (j:Int)) fz (row,true,0)=some (x,b)∧x.length=row.length∧(b=true->(∀v:Int,0<=v->v < row.length->EL row v= -1∨EL x v=EL row v)∧(∀i (hi:i < V.length),EL x V[i]=EL w (i:Int))∧∀v:Int,0<=v->v < row.length->v∉V->EL x v=EL row v)∧∀z,WkC row V w z->b=true:=by
 obtain⟨⟨x,b⟩,e,h1,h2,h3⟩:=Fu (B:=I4 q (n:Int) v6 (j:Int)) (λs=>s.1.length=row.length∧∃k:Nat,s.2.2=(k:Int)∧k<=V.length∧(s.2.1=true->(∀v:Int,0<=v->v < row.length->EL row v= -1∨EL s.1 v=EL row v)∧(∀i (hi:i < V.length),i < k->EL s.1 V[i]=EL w (i:Int))∧∀v:Int,0<=v->v < row.length->v∉V->EL s.1 v=EL row v)∧∀z,WkC row V w z->s.2.1=true∧∀v:Int,0<=v->v < row.length->EL s.1 v=EL row v∨EL s.1 v=EL z v)
  (λs=>V.length - s.2.2.toNat) (λo=>o.1.length=row.length∧(o.2=true->(∀v:Int,0<=v->v < row.length->EL row v= -1∨EL o.1 v=EL row v)∧(∀i (hi:i < V.length),EL o.1 V[i]=EL w (i:Int))∧∀v:Int,0<=v->v < row.length->v∉V->EL o.1 v=EL row v)∧∀z,WkC row V w z->o.2=true) (λs hs=>by
  obtain⟨x,b,kk⟩:=s;obtain⟨i1,k,rfl,i3,i4,i7⟩:=hs;simp only at i1 i4 i7;by_cases hk:k < V.length
  ·cases b with
   |false=>left;refine⟨(x,false),⟨i1,(λh=>by cases h),λz hz=>(i7 z hz).1⟩,λrec=>?_⟩;simp only[I4];cases decide ((k:Int) < v6.1.1)<;>rfl
   |true=>
    right;obtain⟨i5,i6,i8⟩:=i4 rfl;have hv:=hin _<|Ae hk;have hx:0<=V[k]∧V[k] < (x.length:Int):=aG;have hwk:AU w (k:Int)=some (EL w (k:Int)):=Yl ⟨aG,aG⟩;have hw0:0<=EL w (k:Int):=by rw[Dz aG];exact hp _<|Ae _
    have hW:wZ ((k:Int)+1)=((k+1:Nat):Int):=by rw[wrap_in aG];simp
    have hJ:∀rec b',OJ rec v6 (j:Int) x (k:Int) V[k] b'=rec (CY x V[k]<|EL w (k:Int),b',((k+1:Nat):Int)):=λrec b'=>by unfold OJ;rw[AO aG,hj,Bj,hwk,Bj,Yl hx,Bj,hW]
    have hB:∀rec,I4 q (n:Int) v6 (j:Int) rec (x,true,(k:Int))=rec (CY x V[k]<|EL w (k:Int),(EL x V[k]== -1 || EL x V[k]==EL w (k:Int)),((k+1:Nat):Int)):=λrec=>by simp only[I4];rw[har,Bq hk,Ac,Ac,AV hn,Bj,hV,AV hk,Bj,Yl hx,Bj,Bj,hj,Bj,hwk,Bj,hJ,hJ];cases EL x V[k]== -1<;>rfl
    refine⟨_,⟨by unfold CY;rw[By];exact i1,k+1,rfl,hk,λhb=>?_,λz hz=>?_⟩,by simp only[Ax];omega,hB⟩
    case refine_2=>
     have hwz:EL w (k:Int)=EL z V[k]:=hz.2.2 k hk;have h7:=(i7 z hz).2;refine⟨?_,λv h0 h1=>?_⟩
     ·simp only[BZ,Bv];rcases h7 _ hv.1 hv.2 with h|h
      ·rcases hz.2.1 _ hv.1 hv.2 with h'|h'
       ·exact .inl aG
       ·exact .inr aG
      ·exact .inr aG
     ·simp only;rw[at_set hx ⟨h0,aG⟩];split
      ·rename_i ev;subst ev;exact .inr hwz
      ·exact h7 v h0 h1
    rw[BZ,Bv,Bv]at hb;refine⟨λv h0 h1=>?_,λi hi hik=>?_,λv h0 h1 hvn=>?_⟩
    rotate_left 2
    ·rw[at_set hx ⟨h0,aG⟩,AA (λe=>hvn<|by rw[e];exact Ae hk)];exact i8 v h0 h1 hvn
    ·rw[at_set hx ⟨h0,aG⟩];split
     ·rename_i ev;subst ev;rcases i5 _ h0 h1 with h|h
      ·exact .inl h
      ·rcases hb with hb|hb
       ·exact .inl aG
       ·exact .inr aG
     ·exact i5 v h0 h1
    ·have hvi:=hin _ (Ae hi);rw[at_set hx ⟨hvi.1,aG⟩];rcases Bi i k with h|h
     ·split
      ·rename_i ev;have h6:=i6 i hi h;rw[ev]at h6;have:0<=EL w (i:Int):=by rw[Dz aG];exact hp _<|Ae _
       rcases hb with hb|hb
       ·omega
       ·omega
      ·exact i6 i hi h
     ·have:i=k:=aG;subst this;rw[Az rfl]
  ·left;have hkl:k=V.length:=aG;refine⟨(x,b),⟨i1,λhb=>⟨(i4 hb).1,λi hi=>(i4 hb).2.1 i hi aG,(i4 hb).2.2⟩,λz hz=>(i7 z hz).1⟩,λrec=>?_⟩;simp only[I4];rw[har,Ah (aG:¬(k:Int) < (V.length:Int))];rfl) fz (row,true,0) ⟨rfl,0,rfl,BF _,λ_=>⟨λv _ _=>.inr rfl,λi hi h=>absurd h aG,λv _ _ _=>rfl⟩,λz hz=>⟨rfl,λv _ _=>.inl rfl⟩⟩ (by unfold fz;simp only;omega)
 exact⟨x,b,e,h1,h2,h3⟩
def tO(h:Tn d)(hq:D7 d q=true):∀(r n:Nat),n+r=q.2.1.length->∀(row:zI) (m:Nat),(row.length:Int)=q.1->r < m->∃out,Ay GR m (d,q,(n:Int),row)=some out∧out.length<=16 ^ r∧(∀z∈out,WkG d q n row z)∧∀z,WkT d q n row z->z∈out
 |0,n,hn,row,m,hrow,hm=>by
  have⟨g1,g2,g3⟩:=DG hq;obtain⟨q1,q2,-⟩:=De g1;obtain⟨m,rfl⟩:∃k,m=k+1:=⟨m - 1,aG⟩;refine⟨[row],?_,nF,λz hz=>?_,λz hz=>?_⟩
  rotate_right
  ·rw[As];refine(Ab6 hz.1 λv h0 h1=>?_).symm;rcases hz.2.1 v h0 h1 with h|⟨-,i,hi,hni,-⟩
   ·exact h
   ·omega
  ·rw[Cn,GR];rw[show((n:Int)==(q.2.1.length:Int))=true by rw[Bv];omega,Ac,BX,AO (by simp only[Bn];unfold lim;omega)]
  ·rw[As]at hz;subst hz;exact⟨rfl,λv _ _=>.inr rfl,λi hi h=>absurd h aG⟩
 |r+1,n,hn,row,m,hrow,hm=>by
  have⟨g1,g2,g3⟩:=DG hq;obtain⟨q1,q2,-,q4⟩:=De g1;obtain⟨m,rfl⟩:∃k,m=k+1:=⟨m - 1,aG⟩;have hlt:n < q.2.1.length:=aG;have hmem:=Ae hlt;have⟨hok,hfit⟩:=g2 _ hmem;obtain⟨f1,f2,-⟩:=Wf hok hfit;have hfit':=hfit;unfold FK at hfit';rw[Ab]at hfit';have har:(F2 d (q.2.1[n]).1).1.1=((q.2.1[n]).2.length:Int):=by simpa using hfit'.2
  have hrel:=Mm (nj hfit'.1).1;have h16:16 ^ r<=65536:=by have:=EG (show 0 < 16 by decide) (show r<=4 by omega);exact this
  generalize hR:F2 d (q.2.1[n]).1=R at f1 f2 har hrel
  have key:∃out,Ay (Km d q (n:Int) row R<|Ay GR m) fz (([]:List zI),0)=some out∧out.length<=16 ^ (r+1)∧(∀z∈out,WkG d q n row z)∧∀z,WkT d q n row z->z∈out:=by
   have⟨out,e,k1,k2,k3⟩:=Fu (B:=Km d q (n:Int) row R (Ay GR m)) (λs=>∃k:Nat,s.2=(k:Int)∧k<=R.1.2.length∧s.1.length<=k * 16 ^ r∧(∀z∈s.1,WkG d q n row z)∧∀z,WkT d q n row z->∀j (hj:j < R.1.2.length),j < k->R.1.2[j]=Fc z (q.2.1[n]).2->z∈s.1) (λs=>R.1.2.length - s.2.toNat) (λo=>o.length<=16 ^ (r+1)∧(∀z∈o,WkG d q n row z)∧∀z,WkT d q n row z->z∈o) (λs hs=>by
    have⟨y,kk⟩:=s;obtain⟨k,rfl,i1,i2,i3,i4⟩:=hs;simp only at i2 i3 i4;by_cases hk:k < R.1.2.length
    ·right;have hw:=Ae hk;have hv:=hrel.2.2.2 _ hw;have⟨x,b,e1,x1,x2,x5⟩:=Amz (q:=q) (v6:=R) (row:=row) (w:=R.1.2[k]) hlt rfl (AV hk) har (f1 _ hw) hok.1 (λv hv=>by have:=(q4 _ hmem).2.2 v hv;omega) (λe he=>by obtain⟨i,hi,rfl⟩:=AE.1 he;exact(Zo hv.2 hi).1);have hW:wZ ((k:Int)+1)=((k+1:Nat):Int):=by rw[wrap_in aG];simp
     have hto:∀z,WkT d q n row z->R.1.2[k]=Fc z (q.2.1[n]).2->WkC row (q.2.1[n]).2 R.1.2[k] z:=λz hz he=>⟨hz.1,λv h0 h1=>(hz.2.1 v h0 h1).elim .inr (λh=>.inl h.1),λi hi=>by rw[he,Z1 aG,Dz hi]⟩
     have hWn:wZ ((n:Int)+1)=((n+1:Nat):Int):=by rw[wrap_in aG];simp
     have hmul:k * 16 ^ r<=16 * 16 ^ r:=Cd _ aG;have hsucc:(k+1) * 16 ^ r=k * 16 ^ r+16 ^ r:=HU k<|16 ^ r;cases b with
     |false=>
      refine⟨(y,((k+1:Nat):Int)),⟨k+1,rfl,hk,by simp only;omega,i3,λz hz j hj hjk he=>?_⟩,by simp only[Ax];omega,λrec=>?_⟩
      ·rcases Bi j k with h|h
       ·exact i4 z hz j hj h he
       ·have:j=k:=aG;subst this;exact absurd (x5 z<|hto z hz he) nF
      simp only[Km];rw[Bq hk,Ac,AO (by simp only[Bn];unfold lim;omega),BX,e1,Bj];simp only[Ad,OK,hW]
     |true=>
      have⟨x3,x4,x6⟩:=x2 rfl;have⟨l,e2,l1,l2,l3⟩:=tO h hq r (n+1) aG x m aG aG;refine⟨(y++l,((k+1:Nat):Int)),⟨k+1,rfl,hk,by simp only[An];omega,λz hz=>?_,λz hz j hj hjk he=>?_⟩,by simp only[Ax];omega,λrec=>?_⟩
      rotate_left
      ·refine Al.2 ?_;rcases Bi j k with h|h
       ·exact .inl<|i4 z hz j hj h he
       ·have:j=k:=aG;subst this;refine .inr<|l3 z ⟨by rw[hz.1,x1],λv h0 h1=>?_,λi hi hni=>hz.2.2 i hi aG⟩;have h1:v < row.length:=aG;by_cases hvV:v∈(q.2.1[n]).2
        ·obtain⟨i,hi,rfl⟩:=AE.1 hvV;left;rw[x4 i hi,he,Z1 aG,Dz hi]
        ·rw[x6 v h0 h1 hvV];rcases hz.2.1 v h0 h1 with h|⟨h,i,hi,hni,hm⟩
         ·exact .inl h
         ·refine .inr ⟨h,i,hi,?_,hm⟩;rcases Bi n i with h'|h'
          ·exact h'
          ·have:i=n:=aG;subst this;exact absurd hm hvV
      rotate_left
      ·rcases Al.1 hz with hz|hz
       ·exact i3 z hz
       ·have⟨z1,z2,z3⟩:=l2 z hz
        have hpk:Fc z (q.2.1[n]).2=R.1.2[k]:=by
         refine Cp (by unfold Fc;rw[Ai];exact(f1 _ hw).symm) λi hi hi'=>?_
         have hiV:i < (q.2.1[n]).2.length:=by unfold Fc at hi;rw[Ai]at hi;exact hi
         have hV:=(q4 _ hmem).2.2 _<|Ae hiV;have h4:=x4 i hiV;have h5:=z2 _ hV.1 aG;rw[h4,Dz hi']at h5;have h6:=Zo hv.2 hi';have e9:(Fc z (q.2.1[n]).2)[i]'hi=EL z ((q.2.1[n]).2[i]'hiV):=Bl<|EL z;rw[e9];rcases h5 with h5|h5
         ·omega
         ·exact h5
        refine⟨aG,λv h0 h1=>?_,λi hi hni=>?_⟩
        ·rcases x3 v h0 h1 with h5|h5
         ·exact .inl h5
         ·rcases z2 v h0 aG with h6|h6
          ·exact .inl aG
          ·exact .inr aG
        ·rcases Bi n i with h5|h5
         ·exact z3 i hi aG
         ·have:i=n:=aG;subst this;rw[hpk,hR];exact hw
      ·simp only[Km];rw[Bq hk,Ac,AO (by simp only[Bn];unfold lim;omega),BX,e1,Bj];simp only[Ac,hWn];rw[e2,Bj,AO uY];simp only[OK,hW]
    ·left;have hmul:k * 16 ^ r<=16 * 16 ^ r:=Cd _ aG;refine⟨y,⟨by rw[Fb];omega,i3,λz hz=>?_⟩,λrec=>?_⟩
     ·have hm:=hz.2.2 n hlt (A5 n);rw[hR]at hm;have⟨j,hj,he⟩:=AE.1 hm;exact i4 z hz j hj aG he
     simp only[Km];rw[Ah (aG:¬(k:Int) < (R.1.2.length:Int))];rfl) fz (([]:List zI),0) ⟨0,rfl,BF _,nF,(λz hz=>by cases hz),λz _ j _ hj=>absurd hj aG⟩ (by unfold fz;simp only;omega)
   exact⟨out,e,k1,k2,k3⟩
  have⟨out,e,k1,k2,k3⟩:=key;refine⟨out,?_,k1,k2,k3⟩;rw[Cn,GR];rw[show((n:Int)==(q.2.1.length:Int))=false by rw[Be];omega,Ad,AV hlt,Bj,qb h,Bj,hR,e];rfl
def Wa{l}(h:X8 l):l.Nodup:=by rw[Cr];exact h.imp λh e=>by subst e;rw[Sz]at h;omega
def yQ(h:Tn d)(hs:MA q):∃r,O8 d q=some r∧(D7 d q=false->r=(0,[]))∧(D7 d q=true->∃out,out.length<=65536∧(∀z,z∈out↔IsB d q z)∧r=(dY q.1 out).1):=by
 unfold O8;rw[gM h hs,Bj];cases hq:D7 d q with
 |false=>exact⟨(0,[]),rfl,λ_=>rfl,λh=>by cases h⟩
 |true=>
  have⟨g1,g2,g3⟩:=DG hq;obtain⟨q1,q2,-,q4⟩:=De g1
  have hrow:Ay (JG q) fz ([]:zI)=some (List.replicate q.1.toNat (-1)):=by
   refine Cm (body:=JG q) (out:=List.replicate q.1.toNat (-1)) (λk=>List.replicate k (-1)) q.1.toNat (λk hk rec=>?_) (λrec=>?_) fz (by unfold fz;omega)
   ·rw[JG];rw[CH,Ak (aG:(k:Int) < q.1),Ac,AO (by simp only[Aj];unfold lim;omega),List.replicate_succ']
   ·rw[JG];rw[CH,Ah (aG:¬((q.1.toNat:Nat):Int) < q.1)];rfl
  have⟨out,e,o1,o2,o3⟩:=tO h hq q.2.1.length 0 aG (List.replicate q.1.toNat (-1)) fz (by rw[CH];omega) (by unfold fz;omega);have e:X1 d q 0 (List.replicate q.1.toNat (-1))=some out:=e;have h16:16 ^ q.2.1.length<=65536:=by have:=EG (show 0 < 16 by decide) g3;exact this
  have hlen:∀z∈out,(z.length:Int)=q.1:=λz hz=>by have:=(o2 z hz).1;rw[CH]at this;omega
  rw[Au,Ad,hrow,Bj,e,Bj,Acg ⟨uY,λz hz=>by have:=hlen z hz;unfold lim;omega⟩,Bj];refine⟨(dY q.1 out).1,?_,λh=>(by cases h),λ_=>⟨out,aG,λz=>⟨λhz=>⟨hlen z hz,λa ha=>?_⟩,λhz=>o3 z ⟨?_,λv h0 h1=>?_,λi hi _=>hz.2 _<|Ae hi⟩⟩,rfl⟩⟩
  ·unfold dY;cases BK out λ_ x=>SS q.1 x with
   |true=>rfl
   |false=>
    cases Ml (q.1,sortB out)with
    |false=>rfl
    |true=>rfl
  ·obtain⟨i,hi,rfl⟩:=AE.1 ha;exact(o2 z hz).2.2 i hi<|BF _
  ·rw[CH];have:=hz.1;omega
  ·rw[CH]at h1;obtain⟨k,rfl⟩:=CT h0;right;refine⟨by rw[Dz (by rw[CH];omega),List.getElem_replicate],?_⟩;unfold Du at g1;simp only[Ab,At]at g1;have hu:=BU.1 g1.2.2.2.2 k<|Ao.2 aG;simp only[At,H1]at hu;unfold JI at hu;have⟨a,ha,hv⟩:=BR.1 hu;obtain⟨i,hi,rfl⟩:=AE.1 ha;exact⟨i,hi,BF _,Ag.1 hv⟩
end
end Go.Proofs.YtdmpnamllcigdaaGreatDoor
