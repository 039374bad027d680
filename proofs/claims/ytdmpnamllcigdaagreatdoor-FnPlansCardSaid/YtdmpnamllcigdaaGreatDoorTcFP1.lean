/- Systems of linear equations: the reference and the program solve them alike. No conditions. -/
import Derived.Test.YtdmpnamllcigdaaGreatDoorSvFP1
import Derived.Test.YtdmpnamllcigdaaGreatDoorAlFP1
import Derived.Test.YtdmpnamllcigdaaGreatDoorQfFP1
open Go.RowKit
set_option linter.all false
namespace Go.Proofs.YtdmpnamllcigdaaGreatDoor
def Y0(n L:Nat)(m:Mx):Prop:=m.length=n∧∀i,i < n->(Od m i).length=L
def Y0.set{n L i m r}(h:Y0 n L m)(hi:i < n)(a:r.length=L):Y0 n L (m.set i r):=
 ⟨by rw[By];exact h.1,λj b=>by
  rw[z8 _ (by rw[h.1];exact hi)];split
  ·exact a
  ·exact h.2 j b⟩
def rB{f}:∀{xs a t:List Rt},elF f xs a=some t->xs.length=a.length->t.length=xs.length
 |[],_,t,h,_=>by cases h;rfl
 |x::xs,[],t,h,b=>by simp at b
 |x::xs,y::a,t,h,b=>by
  rw[elF]at h;cases c:(Rs f y).2&&(lE x (Rs f y).1).2 with
  |false=>rw[c]at h;cases h
  |true=>rw[c,Ac]at h;have⟨g,d,e⟩:=Cj.1 h;rw[<-e,AC,AC,rB d (by simpa using b)]
def iX{p row piv t}(h:fh p row piv=some t)(b:row.length=piv.length)(e:p<=row.length):t.length=row.length:=by
 unfold fh at h;cases a:(cB (atR row p)<|atR piv p).2 with
 |false=>rw[a]at h;cases h
 |true=>rw[a,Ac]at h;have⟨f,c,d⟩:=Cj.1 h;have:=rB c (by rw[BH,BH,b]);rw[<-d,An,AH,this,BH];omega
def zo{n L p i m m'}(h:Y0 n L m)(a:oo p m i=some m')(hi:i < n)(d:p < n)(e:p < L):Y0 n L m':=by
 unfold oo at a;cases b:i==p with
 |true=>rw[b]at a;cases a;exact h
 |false=>
  rw[b,Ad]at a;cases c:(atR (Od m i) p).1==0 with
  |true=>rw[c]at a;cases a;exact h
  |false=>rw[c,Ad]at a;have⟨t,f,g⟩:=Cj.1 a;rw[<-g];exact h.set hi (by rw[iX f (by rw[h.2 i hi,h.2 p d]) (by rw[h.2 i hi];omega),h.2 i hi])
def gG{n L p}(d:p < n)(b:p < L):∀{j i:Nat}{m m':Mx},i+j=n->Y0 n L m->dc p j i m=some m'->Y0 n L m'
 |0,_,_,_,_,h,a=>by cases a;exact h
 |j+1,i,m,m',e,h,a=>by
  rw[dc]at a;cases c:oo p m i with
  |none=>rw[c]at a;cases a
  |some f=>rw[c]at a;exact gG d b aG (zo h c aG d b) a
def jc{m:Mx}{k:Nat}(h:k < m.length):AU (HG 0 m) (k:Int)=some (k,Od m k):=by rw[PI,bL,Af h,Qf h,BP,C9]
def fY{α:Type}{m m':List α}(h:m'.length=m.length):lj m'.length (Ro m) []=true∧Lz m' (Ro m)=m':=by
 have e:Ro m=Ro m':=by rw[Wz,Wz,h]
 rw[e];exact⟨Abz m',yx m'⟩
def kT{b:List Rt}{L p:Nat}(d:p < b.length)(c:p < L)(q:b.length<=lim)(r:L<=lim):∀(j i:Nat) (m:Mx) (f:Nat),i+j=b.length->j < f->Y0 b.length L m->
  Ay (Pj b (p:Int)) f (m,(i:Int))=some (match dc p j i m with|some m'=>.inl m'|none=>.inr ([],false))
 |0,i,m,f,w,x,h=>by obtain⟨f,rfl⟩:∃g,f=g+1:=⟨f - 1,aG⟩;obtain rfl:i=b.length:=aG;rw[Cn];show cond (decide ((b.length:Int) < (b.length:Int))) _ _=_;rw[Bh];rfl
 |j+1,i,m,f,w,x,h=>by
  obtain⟨f,rfl⟩:∃g,f=g+1:=⟨f - 1,aG⟩;have hi:i < b.length:=aG;have s:i < m.length:=by rw[h.1];exact hi
  have k:p < m.length:=by rw[h.1];exact d
  have a:=h.2 i hi;obtain⟨l,n⟩:=fY (m:=m) (m':=m) rfl;rw[Cn,dc];show cond (decide ((i:Int) < (b.length:Int))) _ _=_;rw[Bq hi,Ac,BA hi (Bk q)];have y:((i:Int)!=(p:Int))= !(i==p):=by rw[Bb,Cy,At,Be];omega
  rw[y];unfold oo;cases z:i==p with
  |true=>rw[Au,Ad,AO l,n,Ac];exact kT d c q r j (i+1) m f aG aG h
  |false=>
   rw[Cq,Ac,Ad,jc s,jc k];simp only[Aa];rw[NB (by rw[a];exact c)];simp only[Aa];rw[show((atR (Od m i) p).1 !=0)= !((atR (Od m i) p).1==0)from rfl];cases F:(atR (Od m i) p).1==0 with
   |true=>rw[Au,Ad,AO l,n,Ac];exact kT d c q r j (i+1) m f aG aG h
   |false=>
    have o:i≠p:=by simpa using z
    rw[Cq,Ac,Ad,AO (by
     cases A:Nat.beq i p with
     |false=>rfl
     |true=>exact absurd (CU A) o)]
    have v:=Afc (p:=p) (row:=Od m i) (piv:=Od m p) (by rw[a];exact r) (by rw[h.2 p d,a]) (by rw[a];exact c);cases u:fh p (Od m i) (Od m p)with
    |none=>obtain⟨g,B⟩:=v.2 u;rw[B];simp only[Aa];rw[AO (fY<|by unfold CY;simp).1];rfl
    |some t=>
     rw[v.1 t u];simp only[Aa];have e:CY (CY m (i:Int) t) (p:Int) (Od m p)=m.set i t:=by simp only[CY,Ax];rw[List.set_comm _ _ o,<-Qf k,List.set_getElem_self]
     rw[e];obtain⟨C,D⟩:=fY (m:=m) (m':=m.set i t) nF;rw[AO C,D,Au,Ad,BP];exact kT d c q r j (i+1) _ f aG aG<|h.set hi<|by rw[iX u (by rw[a,h.2 p d]) (by rw[a];omega),a]
def pY(m:Mx)(p:Nat):∀(j k:Nat),k<=bk m p j k∧bk m p j k<=k+j
 |0,k=>⟨A5 _,A5 _⟩
 |j+1,k=>by
  rw[bk];cases(atR (Od m k) p).1==0 with
  |true=>rw[Ac];have:=pY m p j<|k+1;omega
  |false=>rw[Ad];omega
def Adc{b:List Rt}{L p:Nat}{m:Mx}(h:Y0 b.length L m)(c:p < L)(d:b.length<=lim):∀(j k f:Nat),k+j=b.length->j < f->Ay (Pi b m (p:Int)) f (k:Int)=some ((bk m p j k:Nat):Int)
 |0,k,f,e,i=>by obtain⟨f,rfl⟩:∃g,f=g+1:=⟨f - 1,aG⟩;obtain rfl:k=b.length:=aG;rw[Cn];show cond (decide ((b.length:Int) < (b.length:Int))) _ _=_;rw[Bh];rfl
 |j+1,k,f,e,i=>by
  obtain⟨f,rfl⟩:∃g,f=g+1:=⟨f - 1,aG⟩;have a:k < b.length:=aG;rw[Cn,bk];show cond (decide ((k:Int) < (b.length:Int))) _ _=_;rw[Bq a,Ac,Zv (by rw[h.1];exact a)];simp only[Aa];rw[NB (by rw[h.2 k a];exact c)];simp only[Aa];cases(atR (Od m k) p).1==0 with
  |true=>rw[Ac,Ac,BA a (Bk d)];exact Adc h c d j (k+1) f aG aG
  |false=>rfl
def zp{n L p k m}(h:Y0 n L m)(a:p < n)(b:k < n):Y0 n L (swL m p k):=by
 unfold swL;have e:∀i,m.getD i default=Od m i:=λ_=>rfl
 rw[e,e];exact(h.set b<|h.2 p a).set a<|h.2 k b
def mT{m:Mx}{k:Nat}(h:k < m.length):AU (Ro m) (k:Int)=some k:=by rw[Wz,PI,C8 h]
def jb{n}:∀{j p:Nat}{m m':Mx},p+j=n->Y0 n (n+1) m->Wo n j p m=some m'->Y0 n (n+1) m'
 |0,_,_,_,_,h,a=>by cases a;exact h
 |j+1,p,m,m',e,h,a=>by
  rw[Wo]at a;have f:=pY m p (n - p) p;cases b:bk m p (n - p) p==n with
  |true=>rw[b]at a;cases a
  |false=>
   rw[b,Ad]at a;have d:bk m p (n - p) p≠n:=by simpa using b
   cases c:dc p n 0 (swL m p<|bk m p (n - p) p)with
   |none=>rw[c]at a;cases a
   |some g=>rw[c]at a;exact jb aG (gG aG aG aG (zp h aG aG) c) a
def rW{b:List Rt}(n:b.length<=6):∀(j p:Nat) (m:Mx) (f:Nat),p+j=b.length->j < f->Y0 b.length (b.length+1) m->
  Ay (Ph b) f (m,(p:Int))=some (match Wo b.length j p m with|some m'=>.inl m'|none=>.inr ([],false))
 |0,p,m,f,o,q,h=>by obtain⟨f,rfl⟩:∃g,f=g+1:=⟨f - 1,aG⟩;obtain rfl:p=b.length:=aG;rw[Cn];show cond (decide ((b.length:Int) < (b.length:Int))) _ _=_;rw[Bh];rfl
 |j+1,p,m,f,o,q,h=>by
  obtain⟨f,rfl⟩:∃g,f=g+1:=⟨f - 1,aG⟩;have d:p < b.length:=aG;have e:b.length<=lim:=uY;have w:=pY m p (b.length - p) p;rw[Cn,Wo];show cond (decide ((p:Int) < (b.length:Int))) _ _=_;rw[Bq d,Ac,Adc h aG e (b.length - p) p fz aG (by have:=Dp e;omega)];simp only[Aa];rw[show(((bk m p (b.length - p) p:Nat):Int)==(b.length:Int))=(bk m p (b.length - p) p==b.length)from by rw[Bb,Bv,Bv];omega];cases r:bk m p (b.length - p) p==b.length with
  |true=>rfl
  |false=>
   have s:bk m p (b.length - p) p≠b.length:=by simpa using r
   have a:bk m p (b.length - p) p < m.length:=by rw[h.1];omega
   have c:p < m.length:=by rw[h.1];exact d
   rw[Ad,Ad,AO (by rw[Wz,BJ];omega),mT a,mT c];simp only[Aa];have i:CY (Ro m) (p:Int) (bk m p (b.length - p) p)=(List.range m.length).set p (bk m p (b.length - p) p):=by rw[Wz];simp only[CY,Ax]
   have t:CY (CY (Ro m) (p:Int)<|bk m p (b.length - p) p) ((bk m p (b.length - p) p:Nat):Int) p=(List.range m.length).map (sw p<|bk m p (b.length - p) p):=by rw[i,<-zq c a];simp only[CY,Ax]
   rw[t,i];have e2:AU ((List.range m.length).set p<|bk m p (b.length - p) p) ((bk m p (b.length - p) p:Nat):Int)=some (((List.range m.length).set p<|bk m p (b.length - p) p)[bk m p (b.length - p) p]'(by simp;exact a)):=AV _;rw[e2];simp only[Aa];rw[AO (Amq c a),AiB c a];have k:=zp h d (show bk m p (b.length - p) p < b.length by omega);have l:=kT (b:=b) (L:=b.length+1) d aG e uY b.length 0 (swL m p<|bk m p (b.length - p) p) fz aG (Dp e) k;rw[show((0:Nat):Int)=0 from rfl]at l;rw[l];cases u:dc p b.length 0 (swL m p<|bk m p (b.length - p) p)with
   |none=>rfl
   |some v=>simp only[Aa];rw[BA d (Bk e)];exact rW n j (p+1) v f aG aG<|gG d aG aG k u
def fS{α O:Type}{g:Nat->Sum α O}{h:Nat->α}:∀(j k:Nat),(∀i,k<=i->i < k+j->g i=.inl (h i))->Tj g j k=.inl ((List.range' k j).map h)
 |0,_,_=>rfl
 |j+1,k,a=>by rw[Tj,a k (A5 _) aG,fS j (k+1) (λi b c=>a i aG aG),D0];rfl
def nk{α O:Type}{g:Nat->Sum α O}{o:O}{i:Nat}(hi:g i=.inr o):∀(j k:Nat),(∀i,k<=i->i < k+j->(∃x,g i=.inl x)∨g i=.inr o)->k<=i->i < k+j->Tj g j k=.inr o
 |0,k,_,b,c=>by omega
 |j+1,k,d,b,c=>by
  rw[Tj];rcases d k (A5 _) aG with⟨x,a⟩|a
  ·rw[a];by_cases e:k=i
   ·subst e;rw[hi]at a;cases a
   ·simp only;rw[nk hi j (k+1) (λi b c=>d i aG aG) aG aG]
  ·rw[a]
def uj{α O:Type}(c:Nat->Bool)(h:Nat->α)(o:O)(n:Nat):Tj (λk=>cond (c k) (.inl<|h k)<|.inr o) n 0=cond ((List.range n).all c) (.inl<|(List.range' 0 n).map h) (.inr o):=by
 cases b:(List.range n).all c with
 |true=>rw[Ac];exact fS n 0 λi _ hi=>by rw[Aq.1 b i (Ao.2 aG)];rfl
 |false=>
  rw[Ad];obtain⟨i,hi,a⟩:=List.all_eq_false.1 b;rw[Ao]at hi;have a:c i=false:=by simpa using a
  refine nk (i:=i) (by rw[a];rfl) n 0 (λi _ _=>?_) aG aG;cases c i with
  |true=>exact .inl ⟨_,rfl⟩
  |false=>exact .inr rfl
def Ajy(a:Mx)(f:List Rt->Bool):(List.range a.length).all (λk=>f<|Od a k)=a.all f:=by
 rw[Bb,Aq,Aq];constructor
 ·intro h x b;obtain⟨i,hi,rfl⟩:=GH b;rw[Qf hi];exact h i<|Ao.2 hi
 ·intro h i hi;rw[Ao]at hi;rw[<-Qf hi];exact h _<|Ae hi
def Aeg{a b}(h:ie a b=true):Y0 b.length (b.length+1) (iu a b):=by
 unfold ie at h;simp only[Ab,Bv]at h;refine⟨by unfold iu;simp,λi hi=>?_⟩;have d:i < a.length:=by rw[h.1];exact hi
 have c:=Aq.1 h.2.1 _<|Ae d;unfold rowOk at c;rw[Ab,Bv,Qf d]at c;unfold iu;have:Od ((List.range' 0 b.length).map λk=>Od a k++[atR b k]) i=Od a i++[atR b i]:=by rw[<-Qf (by simp;exact hi),Bl];simp
 rw[this,An,c.1];rfl
def AkA{b:List Rt}{m:Mx}(h:Y0 b.length (b.length+1) m)(d:b.length<=lim):Ay (Pk b m) fz ([],0)=some (Tj (dB b.length m) b.length 0):=by
 rw[show(([]:List Rt),(0:Int))=(λ(s:List Rt) (k:Nat)=>(s,(k:Int))) [] 0 from rfl,
  MY (n:=b.length) (O:=List Rt×Bool) (λs k=>(s,(k:Int))) (λk s=>s.length=k) (λk s=>u5 s (dB b.length m k)) id d (λrec s k a hi=>?_) (λrec s hi=>?_) (λk s f a hi c=>?_) [] rfl]
 ·rw[aS];cases Tj (dB b.length m) b.length 0<;>rfl
 ·show cond (decide ((s:Int) < (b.length:Int))) _ _=_;rw[Bq a,Ac,Zv (by rw[h.1];exact a)];simp only[Aa];rw[NB (by rw[h.2 s a];omega),NB (by rw[h.2 s a];omega)];simp only[Aa];rw[w3];simp only[Aa];unfold dB;cases(cB (atR (Od m s) b.length)<|atR (Od m s) s).2 with
  |false=>rfl
  |true=>rw[Au,Ad,AO (by rw[hi,Aj];unfold lim at d⊢;omega),BA a (Bk d)];rfl
 ·show cond (decide ((b.length:Int) < (b.length:Int))) _ _=_;rw[Bh];rfl
 ·unfold dB at c;cases e:(cB (atR (Od m k) b.length)<|atR (Od m k) k).2 with
  |false=>rw[e]at c;cases c
  |true=>rw[e]at c;cases c;rw[An,hi];rfl
def Akf{a:Mx}{b:List Rt}(j:b.length<=6)(e:a.length=b.length):Ay (Pg a b) fz ([],0)=some (cond (a.all<|rowOk b.length) (.inl<|iu a b)<|.inr ([],false)):=by
 have h:b.length<=lim:=uY
 rw[show(([]:Mx),(0:Int))=(λ(s:Mx) (k:Nat)=>(s,(k:Int))) [] 0 from rfl,
  MY (n:=b.length) (O:=List Rt×Bool) (λs k=>(s,(k:Int))) (λk s=>s.length=k) (λk s=>u5 s (cond (rowOk b.length (Od a k)) (.inl (Od a k++[atR b k])) (.inr ([],false)):Sum (List Rt) (List Rt×Bool))) id h (λrec s k f hi=>?_) (λrec s hi=>?_) (λk s l f hi g=>?_) [] rfl]
 ·rw[aS,uj,<-e,Ajy,e];unfold iu;cases a.all (rowOk b.length)<;>rfl
 ·have d:s < a.length:=by rw[e];exact f
  show cond (decide ((s:Int) < (a.length:Int))) _ _=_;rw[Bq d,Ac,Zv d];simp only[Aa];unfold rowOk;by_cases c:(Od a s).length=b.length
  ·rw[c,E2,Ad,C4,AK,bV (by rw[c];exact h)];simp only[Aa];cases(Od a s).all P7 with
   |false=>rfl
   |true=>rw[Au,Ad];unfold Ke;rw[AO (by rw[c];simp;unfold lim;omega),BX];simp only[Aa];rw[NB f];simp only[Aa];rw[AO (by rw[c,Aj];unfold lim;omega),AO (by rw[hi,Aj];unfold lim;omega),BA f (Bk h)];rfl
  ·rw[show(((Od a s).length:Int)!=(b.length:Int))=true from by rw[Cy];omega,Ac,show((Od a s).length==b.length)=false from by simpa using c];rfl
 ·show cond (decide ((b.length:Int) < (a.length:Int))) _ _=_;rw[e,Bh];rfl
 ·cases i:rowOk b.length (Od a k)with
  |false=>rw[i]at g;cases g
  |true=>rw[i]at g;cases g;rw[An,hi];rfl
def Akz{a:Mx}{b:List Rt}(d:b.length<=lim):JO a b=some (XP a b):=by
 unfold JO XP;cases h:decide (6 < (b.length:Int))with
 |true=>rfl
 |false=>
  have e:b.length<=6:=by have:=K6 h;omega
  rw[Ad,Ad];unfold ie;by_cases c:a.length=b.length
  ·rw[c,E2,C4,AK,Ad,bV d];simp only[Aa];cases i:b.all P7 with
   |false=>rw[Gf];rfl
   |true=>
    rw[Au,Ad,Akf e c,CX];simp only[Aa];cases j:a.all (rowOk b.length)with
    |false=>rfl
    |true=>
     rw[Ac,Ac];have f:=Aeg (a:=a) (b:=b) (by unfold ie;rw[c,C4,j,i];rfl);have g:=rW e b.length 0 (iu a b) fz aG (Dp d) f;rw[show((0:Nat):Int)=0 from rfl]at g;simp only[Aa];rw[g];cases k:Wo b.length b.length 0 (iu a b)with
     |none=>rfl
     |some m=>simp only[Aa];rw[AkA (jb aG f k) d];simp only[Aa];cases Tj (dB b.length m) b.length 0<;>rfl
  ·rw[show((a.length:Int)!=(b.length:Int))=true from by rw[Cy];omega,show(a.length==b.length)=false from by simpa using c];rfl
def az{α O:Type}{P:O->Prop}{g:Nat->Sum α O}(h:∀k o,g k=.inr o->P o):∀{j k:Nat}{o:O},Tj g j k=.inr o->P o
 |0,_,_,e=>by cases e
 |j+1,k,o,e=>by
  rw[Tj]at e;cases a:g k with
  |inr c=>rw[a]at e;cases e;exact h k _ a
  |inl x=>
   rw[a]at e;cases b:Tj g j (k+1)with
   |inl l=>simp only[b]at e;cases e
   |inr c=>simp only[b]at e;cases e;exact az h b
def Acs{a b x}(h:XP a b=(x,true)):x.length=b.length:=by
 unfold XP at h;cases e:decide (6 < (b.length:Int))with
 |true=>rw[e]at h;cases h
 |false=>
  rw[e,Ad]at h;cases f:ie a b with
  |false=>rw[f]at h;cases h
  |true=>
   rw[f,Ac]at h;cases i:Wo b.length b.length 0 (iu a b)with
   |none=>rw[i]at h;cases h
   |some m=>
    rw[i]at h;cases d:Tj (dB b.length m) b.length 0 with
    |inl y=>simp only[d]at h;cases h;exact aA d
    |inr o=>
     simp only[d]at h;exfalso
     have:=az (P:=λo=>o.2=false) (g:=dB b.length m) (λk o c=>by
      unfold dB at c;cases j:(cB (atR (Od m k) b.length)<|atR (Od m k) k).2 with
      |false=>rw[j]at c;cases c;rfl
      |true=>rw[j]at c;cases c) d
     rw[h]at this;cases this
abbrev LP:=Mx×List Rt×List Rt
def rI:Rt×Bool:=((0,0),false)
def kD(a b:List Rt)(k:Nat)(x:Rt):Sum Rt (Rt×Bool):=cond (Rs (atR a k)<|atR b k).2 (cond (dy x (Rs (atR a k)<|atR b k).1).2 (.inl (dy x (Rs (atR a k)<|atR b k).1).1)<|.inr rI)<|.inr rI
def QP(a b:List Rt):Rt×Bool:=cond ((a.length:Int)!=(b.length:Int)) rI (match UD (kD a b) a.length 0 (0,1)with
 |.inl x=>(x,true)
 |.inr o=>o)
def Ac6{a b:List Rt}(h:a.length<=lim):Nd a b=some (QP a b):=by
 unfold Nd QP;cases e:(a.length:Int)!=(b.length:Int)with
 |true=>rfl
 |false=>
  have f:a.length=b.length:=by have:=bne_eq_false_iff_eq.1 e;omega
  rw[Ad,Ad]
  have g:=MY (B:=Uh a b) (n:=a.length) (λ(s:Rt) k=>(s.1,s.2,(k:Int))) (λ_ _=>True) (kD a b) (λo=>match o with|.inl x=>.inl (x.1,x.2)|.inr o=>.inr o) h (λrec k s c _=>by
   show cond (decide ((k:Int) < (a.length:Int))) _ _=_;rw[Bq c,Ac,NB c,NB (by rw[<-f];exact c)];simp only[Aa];rw[w5];simp only[Aa];rw[pl];simp only[Aa];unfold kD;rw[BA c (Bk h)];cases(Rs (atR a k)<|atR b k).2 with
   |false=>rfl
   |true=>
    cases d:(dy s (Rs (atR a k)<|atR b k).1).2 with
    |false=>simp only[d,Ac,Ad,Cq,Au];rfl
    |true=>simp only[d,Ac,Ad,Au]) (λrec s _=>by
   show cond (decide ((a.length:Int) < (a.length:Int))) _ _=_;rw[Bh];rfl) (λ_ _ _ _ _ _=>trivial) (0,1) trivial
  rw[show((0:Int),(1:Int),(0:Int))=(((0,1):Rt).1,((0,1):Rt).2,((0:Nat):Int))from rfl,g];simp only[Aa];cases UD (kD a b) a.length 0 (0,1)<;>rfl
def mvG(a:Mx)(x:List Rt)(k:Nat):Sum Rt (List Rt×Bool):=cond (QP (Od a k) x).2 (.inl (QP (Od a k) x).1)<|.inr ([],false)
def jo(a:Mx)(x:List Rt):List Rt×Bool:=match Tj (mvG a x) a.length 0 with
 |.inl l=>(l,true)
 |.inr o=>o
def AhJ(a:Mx)(x:List Rt){k:Nat}{o:List Rt×Bool}(h:mvG a x k=.inr o):o=([],false):=by
 unfold mvG at h;cases b:(QP (Od a k) x).2 with
 |true=>rw[b]at h;cases h
 |false=>rw[b]at h;cases h;rfl
def Abn(a:Mx)(x:List Rt):(jo a x).1.length<=a.length∧((jo a x).2=true->(jo a x).1.length=a.length)∧((jo a x).2=false->(jo a x).1=[]):=by
 unfold jo;cases h:Tj (mvG a x) a.length 0 with
 |inl l=>exact⟨Nat.le_of_eq<|aA h,λ_=>aA h,λh=>by cases h⟩
 |inr o=>have:=az (P:=λo=>o=([],false)) (λk o b=>AhJ a x b) h;subst this;exact⟨BF _,(λh=>by cases h),λ_=>rfl⟩
def Anx{a:Mx}{x:List Rt}(h:a.length<=lim)(f:∀k,k < a.length->(Od a k).length<=lim):IA a x=some (jo a x):=by
 unfold IA jo
 have d:=MY (B:=NU a x) (n:=a.length) (O:=List Rt×Bool) (λ(s:List Rt) k=>(s,(k:Int))) (λk s=>s.length=k) (λk s=>u5 s (mvG a x k)) id h (λrec k s b hi=>by
  show cond (decide ((k:Int) < (a.length:Int))) _ _=_;rw[Bq b,Ac,Zv b];simp only[Aa];rw[Ac6 (f k b)];simp only[Aa];unfold mvG;cases(QP (Od a k) x).2 with
  |false=>rfl
  |true=>rw[Au,Ad,AO (by rw[hi,Aj];unfold lim at h⊢;omega),BA b (Bk h)];rfl) (λrec s hi=>by
  show cond (decide ((a.length:Int) < (a.length:Int))) _ _=_;rw[Bh];rfl) (λk s g b hi c=>by
  unfold mvG at c;cases e:(QP (Od a k) x).2 with
  |false=>rw[e]at c;cases c
  |true=>rw[e]at c;cases c;rw[An,hi];rfl) [] rfl
 rw[show((0:Nat):Int)=0 from rfl]at d;rw[d,aS];cases Tj (mvG a x) a.length 0<;>rfl
def YZ(p:LP):Bool:=HH (p.2.2.length:Int) 1 5&&(HH (p.2.1.length:Int) 1 5&&((p.1.length==p.2.1.length)&&(p.1.all (rowOk p.2.2.length)&&(p.2.1.all P7&&p.2.2.all P7))))
def n8(p:LP):Prop:=p.1.length<=lim∧p.2.1.length<=lim∧p.2.2.length<=lim
def Aku{p}(h:n8 p):Gq p=some (YZ p):=by
 unfold Gq YZ;rw[Ig];simp only[Aa];cases HH (p.2.2.length:Int) 1 5 with
 |false=>rfl
 |true=>
  rw[Au,Ad,Ig,AK];simp only[Aa];cases HH (p.2.1.length:Int) 1 5 with
  |false=>rfl
  |true=>
   rw[Au,Ad,AK];by_cases c:p.1.length=p.2.1.length
   ·rw[c,E2,Ad,C4,AK,bV h.2.1];simp only[Aa];cases p.2.1.all P7 with
    |false=>simp
    |true=>
     rw[Au,Ad,bV h.2.2,AK];simp only[Aa];cases p.2.2.all P7 with
     |false=>rw[Gf];rfl
     |true=>
      rw[Au,Ad,CX,R2 (n:=p.1.length) (λk=>HJ p.1 k λr=> !rowOk p.2.2.length r) false h.1 (λk a d=>by
       show cond (decide ((k:Int) < (p.1.length:Int))) _ _=_;rw[Bq a,Ac,Zv a,B5 a,Qf a];simp only[Aa];unfold rowOk;by_cases b:(Od p.1 k).length=p.2.2.length
       ·rw[b,E2,Ad,C4,AK,bV (by rw[b];exact h.2.2),BA a (Bk h.1)]
       ·rw[show(((Od p.1 k).length:Int)!=(p.2.2.length:Int))=true from by rw[Cy];omega,Ac,show((Od p.1 k).length==p.2.2.length)=false from by simpa using b];rfl) (λrec=>by
       show cond (decide ((p.1.length:Int) < (p.1.length:Int))) _ _=_;rw[Bh];rfl)]
      rw[oM,not_any];cases p.1.all (rowOk p.2.2.length)<;>rfl
   ·rw[show((p.1.length:Int)!=(p.2.1.length:Int))=true from by rw[Cy];omega,show(p.1.length==p.2.1.length)=false from by simpa using c];rfl
def tn(p:LP)(x:List Rt)(sg:Int)(k:Nat):Bool:=decide (wZ (RQ (atR (jo p.1 x).1 k) (atR p.2.1 k) * sg) < 0)
def WZ(p:LP)(x:List Rt)(sg:Int):Bool:=YZ p&&((x.length==p.2.2.length)&&((x.all λr=>P7 r&&decide (0<=r.1))&&((jo p.1 x).2&& !((List.range (jo p.1 x).1.length).any<|tn p x sg))))
def Ux{p}(h:YZ p=true):1<=p.2.2.length∧p.2.2.length<=5∧1<=p.2.1.length∧p.2.1.length<=5∧p.1.length=p.2.1.length∧(∀k,k < p.1.length->(Od p.1 k).length=p.2.2.length):=by unfold YZ at h;simp only[Ab,U2,Bv]at h;refine⟨aG,aG,aG,aG,h.2.2.1,λk a=>?_⟩;have:=Aq.1 h.2.2.2.1 _<|Ae a;unfold rowOk at this;rw[Ab,Bv,Qf a]at this;exact this.1
def AhH{p}(h:YZ p=true):p.1.length<=lim∧∀k,k < p.1.length->(Od p.1 k).length<=lim:=by have⟨d,e,f,g,a,b⟩:=Ux h;refine⟨by rw[a];unfold lim;omega,λk c=>by rw[b k c];unfold lim;omega⟩
def Afj{p:LP}{x:List Rt}{sg:Int}(h:n8 p)(d:x.length<=lim):Sn p x sg=some (WZ p x sg):=by
 unfold Sn WZ;rw[Aku h];simp only[Aa];cases f:YZ p with
 |false=>rfl
 |true=>
  obtain⟨s,t,u,v,l,w⟩:=Ux f;obtain⟨g,m⟩:=AhH f;rw[Au,Ad,AK];by_cases i:x.length=p.2.2.length
  ·rw[i,E2,Ad,C4,AK,bV d];simp only[Aa];have o:(x.all λr=>P7 r&&decide (0<=r.1))=(x.all P7&&x.all λr=>decide (0<=r.1)):=by rw[Bb];simp only[Aq,Ab];exact⟨λh=>⟨λr b=>(h r b).1,λr b=>(h r b).2⟩,λh r b=>⟨h.1 r b,h.2 r b⟩⟩
   rw[o];cases x.all P7 with
   |false=>rfl
   |true=>
    rw[Au,Ad,AK,R2 (n:=x.length) (λk=>HJ x k λr=> !decide (0<=r.1)) false d (λk a e=>by
     show cond (decide ((k:Int) < (x.length:Int))) _ _=_;rw[Bq a,Ac,NB a,B5 a,RY a];simp only[Aa];rw[BA a (Bk d)];by_cases j:(atR x k).1 < 0
     ·rw[Ak j,Ah aG];rfl
     ·rw[Ah j,Ak aG];rfl) (λrec=>by
     show cond (decide ((x.length:Int) < (x.length:Int))) _ _=_;rw[Bh];rfl)]
    rw[oM,not_any];cases x.all (λr=>decide (0<=r.1))with
    |false=>rfl
    |true=>
     rw[Au,Ad,AK];simp only[Aa];rw[Anx g m];simp only[Aa];have q:=Abn p.1 x;have c:(jo p.1 x).1.length<=lim:=Bm q.1 g;cases y:(jo p.1 x).2 with
     |false=>simp
     |true=>
      rw[Au,Ad,AK,R2 (n:=(jo p.1 x).1.length) (tn p x sg) false c (λk a e=>by
       show cond (decide ((k:Int) < ((jo p.1 x).1.length:Int))) _ _=_;rw[Bq a,Ac,NB a,NB (by rw[<-l];omega)];simp only[Aa];rw[fE];simp only[Aa];rw[BA a (Bk c),Int.mul_comm];rfl) (λrec=>by
       show cond (decide (((jo p.1 x).1.length:Int) < ((jo p.1 x).1.length:Int))) _ _=_;rw[Bh];rfl)]
      cases(List.range (jo p.1 x).1.length).any (tn p x sg)<;>rfl
  ·rw[show((x.length:Int)!=(p.2.2.length:Int))=true from by rw[Cy];omega,show(x.length==p.2.2.length)=false from by simpa using i];rfl
def AaD:∀{a b:List Rt},a.length=b.length->((List.range a.length).any λk=> !((atR a k).1==(atR b k).1&&(atR a k).2==(atR b k).2))= !(a==b)
 |a,b,h=>by
  rw[Bb,BR,At];constructor
  ·rintro⟨k,hk,hb⟩;rw[Ao]at hk;rw[Be];rintro rfl;simp at hb
  ·intro hne;rw[Be]at hne;refine Bp λhc=>hne<|Cp h λk h1 h2=>?_
   rw[RY h1,RY h2];have:¬(!((atR a k).1==(atR b k).1&&(atR a k).2==(atR b k).2))=true:=λhb=>hc ⟨k,Ao.2 h1,hb⟩
   rw[At,H1,Ab,Bv,Bv]at this;exact Prod.ext this.1 this.2
def Afq{a b:List Rt}(h:a.length≠b.length):(a==b)=false:=by rw[Be];rintro rfl;exact h rfl
def Akp{a b:List Rt}(h:a.length<=lim):LF a b=some (a==b):=by
 unfold LF;by_cases c:a.length=b.length
 ·rw[c,E2,Ad,R2 (n:=a.length) (λk=> !((atR a k).1==(atR b k).1&&(atR a k).2==(atR b k).2)) false h (λk d e=>by
   show cond (decide ((k:Int) < (a.length:Int))) _ _=_;rw[Bq d,Ac,NB d,NB (by rw[<-c];exact d)];simp only[Aa];rw[BA d (Bk h)]) (λrec=>by
   show cond (decide ((a.length:Int) < (a.length:Int))) _ _=_;rw[Bh];rfl)]
  rw[AaD c];cases a==b<;>rfl
 ·rw[show((a.length:Int)!=(b.length:Int))=true from by rw[Cy];omega,Afq c];rfl
def YC{α β O:Type}(g:Nat->α)(h:Nat->β):∀(j k:Nat) (s:List α×List β),UD (O:=O) (λk s=>.inl (s.1++[g k],s.2++[h k])) j k s=.inl (s.1++(List.range' k j).map g,s.2++(List.range' k j).map h)
 |0,k,s=>by rw[UD];simp
 |j+1,k,s=>by rw[UD];simp only;rw[YC g h j (k+1),D0,AP,AP,Bw,Bw];rfl
def gK{S O:Type}(g:S->Nat->S):∀(j k:Nat) (s:S),UD (O:=O) (λk s=>.inl<|g s k) j k s=.inl ((List.range' k j).foldl g s)
 |0,k,s=>by rw[UD];simp
 |j+1,k,s=>by rw[UD];simp only;rw[gK g j (k+1),D0,Ca]
def getD_map{α β:Type}(d:α)(h:α->β)(l:List α):(List.range' 0 l.length).map (λk=>h<|l.getD k d)=l.map h:=by
 apply Cp
 ·simp
 ·intro i a b;simp only[Ai,K4]at a;rw[Bl,Ii,Bl,AF];simp[Af a]
def bT{α β:Type}{f}(h:∀s x,(f s x).length<=s.length+1):∀(l:List α) (s:List β),(l.foldl f s).length<=s.length+l.length
 |[],s=>by simp
 |x::l,s=>by rw[Ca,AC];have a:=bT h l<|f s x;have b:=h s x;omega
def rL{α β:Type}{f:α->List β}{M:Nat}:∀{l:List α},(∀x∈l,(f x).length<=M)->(l.flatMap f).length<=l.length * M
 |[],_=>by simp
 |x::l,h=>by
  rw[AR,An,AC,HU];have b:=h x BD;have c:=rL (f:=f) (l:=l) λy a=>h y<|AW _ a
  omega
def md{α β:Type}{l:List α}{B:(List β×Int->Option (List β))->List β×Int->Option (List β)}{s0:List β}{h:α->β}(p:s0.length+l.length<=lim)
  (i:∀k (e:k < l.length) s a,s.length=s0.length+k->B a (s,(k:Int))=a (s++[h l[k]],((k+1:Nat):Int))) (m:∀a s,B a (s,(l.length:Int))=some s):Ay B fz (s0,0)=some (s0++l.map h):=by
 have c:∀(j k:Nat) (s:List β) (f:Nat),k+j=l.length->j < f->s.length=s0.length+k->Ay B f (s,(k:Int))=some (s++(l.drop k).map h):=by
  intro j;induction j with
  |zero=>intro k s f e n d;obtain⟨f,rfl⟩:∃g,f=g+1:=⟨f - 1,aG⟩;obtain rfl:k=l.length:=aG;rw[Cn,m,MU];simp
  |succ j o=>intro k s f e n d;obtain⟨f,rfl⟩:∃g,f=g+1:=⟨f - 1,aG⟩;have b:k < l.length:=aG;rw[Cn,i k b s _ d,o (k+1) _ f aG aG (by rw[An,d];simp;omega),BQ b,AP,Bw];rfl
 have:=c l.length 0 s0 fz aG (Dp aG) aG;simpa using this
def eX(t:Nat):Nat->Nat->List zN
 |0,_=>[[]]
 |r+1,fr=>(List.range' fr<|t - r - fr).flatMap λi=>(eX t r<|i+1).map (i:: ·)
def cI(c:zN):zI:=c.map λ(e:Nat)=>(e:Int)
def kq{t:Nat}(a:t<=11):∀(r fr:Nat),(eX t r fr).length<=11 ^ r
 |0,_=>A5 1
 |r+1,fr=>by
  rw[eX];have:=rL (f:=λi=>(eX t r<|i+1).map (i:: ·)) (M:=11 ^ r) (l:=List.range' fr<|t - r - fr) λi _=>by rw[Ai];exact kq a r<|i+1
  refine Bm this ?_;rw[K4,Fb,Rm];exact Nat.mul_le_mul_left _ aG
def vR{t}:∀{r fr:Nat}{c:zN},c∈eX t r fr->c.length=r∧∀e∈c,e < t
 |0,_,c,h=>by rw[eX,As]at h;subst h;exact⟨rfl,nF⟩
 |r+1,fr,c,h=>by
  rw[eX,B6]at h;have⟨i,hi,h⟩:=h;obtain⟨d,b,rfl⟩:=Aw.1 h;have⟨f,g⟩:=vR b;rw[JE]at hi;refine⟨by rw[AC,f],λe a=>?_⟩;rcases AL.1 a with rfl|a
  ·omega
  ·exact g e a
def Ady{r}(h:r<=5):11 ^ r<=161051:=Bm (EG aG h) oJ
def Zk(n i:Nat):List Rt:=(List.replicate n (0,1)).set i (1,1)
def rowAt(p:LP)(j:Nat):List Rt:=if j < p.2.1.length then Od p.1 j else Zk p.2.2.length (j - p.2.1.length)
def JF(p:LP)(j:Nat):Rt:=if j < p.2.1.length then atR p.2.1 j else(0,1)
def visit(p:LP)(sg:Int)(out:Mx)(c:zN):Mx:=cond (XP (c.map<|rowAt p)<|c.map<|JF p).2 (cond (WZ p (XP (c.map<|rowAt p)<|c.map<|JF p).1 sg) (cond (out.any (· ==(XP (c.map<|rowAt p)<|c.map<|JF p).1)) out<|out++[(XP (c.map<|rowAt p)<|c.map<|JF p).1]) out) out
def jP(p:LP)(sg:Int)(out:Mx)(c:zN):(visit p sg out c).length<=out.length+1:=by
 unfold visit;cases(XP (c.map<|rowAt p)<|c.map<|JF p).2 with
 |false=>simp
 |true=>
  cases WZ p (XP (c.map<|rowAt p)<|c.map<|JF p).1 sg with
  |false=>simp
  |true=>
   cases out.any (· ==(XP (c.map<|rowAt p)<|c.map<|JF p).1)with
   |true=>simp
   |false=>simp
def Aiy(a:Mx)(b:List Rt):(XP a b).2=false->(XP a b).1=[]:=by
 unfold XP;cases decide (6 < (b.length:Int))with
 |true=>exactλ_=>rfl
 |false=>
  cases ie a b with
  |false=>exactλ_=>rfl
  |true=>
   simp only[Ad,Ac];cases f:Wo b.length b.length 0 (iu a b)with
   |none=>exactλ_=>rfl
   |some m=>
    simp only;cases e:Tj (dB b.length m) b.length 0 with
    |inl x=>exactλh=>by cases h
    |inr o=>
     exactλ_=>az (P:=λo=>o.1=[]) (λk o c=>by
      unfold dB at c;cases d:(cB (atR (Od m k) b.length)<|atR (Od m k) k).2 with
      |false=>rw[d]at c;cases c;rfl
      |true=>rw[d]at c;cases c) e
def tv{a b}(h:b.length<=lim):(XP a b).1.length<=lim:=by
 cases c:(XP a b).2 with
 |true=>rw[Acs (a:=a) (b:=b) (x:=(XP a b).1) (by rw[<-c])];exact h
 |false=>rw[Aiy a b c];simp
def YA(m:Mx):Prop:=∀r∈m,r.length<=lim
def uV{p}(sg:Int){out:Mx}{c:zN}(b:c.length<=lim)(h:YA out):YA (visit p sg out c):=by
 unfold visit;cases(XP (c.map<|rowAt p)<|c.map<|JF p).2 with
 |false=>exact h
 |true=>
  cases WZ p (XP (c.map<|rowAt p)<|c.map<|JF p).1 sg with
  |false=>exact h
  |true=>
   cases out.any (· ==(XP (c.map<|rowAt p)<|c.map<|JF p).1)with
   |true=>exact h
   |false=>
    intro r a;rcases Al.1 a with a|a
    ·exact h r a
    ·rw[As]at a;subst a;exact tv (by rw[Ai];exact b)
def ZH(p:LP)(sg:Int):Mx:=(eX (p.2.1.length+p.2.2.length) p.2.2.length 0).foldl (visit p sg) []
def bt(b:Bool):Rt:=(cond b 1 0,1)
def gB(l:List Bool)(i:Nat):Bool:=l.getD i false
def allB:Nat->List (List Bool)
 |0=>[[]]
 |n+1=>(allB n).flatMap λl=>[false::l,true::l]
def T8:∀l:List Bool,l∈allB l.length
 |[]=>As.2 rfl
 |b::l=>by
  rw[AC,allB,B6];refine⟨l,T8 l,?_⟩;cases b
  ·exact BD
  ·exact AW _ BD
def Adv(S r:List Bool):Bool:=(List.range S.length).any λi=>(gB S i&&gB r i)&&(List.range S.length).all λj=>j==i || !(gB S j&&gB r j)
def apart(S a b:List Bool):Bool:=(List.range S.length).all λi=> !(gB S i&&(gB a i&&gB b i))
def rc(S:List Bool):List (List Bool):=(allB S.length).filter<|Adv S
def AaP(S:List Bool):Nat->List (List<|List Bool)
 |0=>[[]]
 |k+1=>(AaP S k).flatMap λrs=>((rc S).filter λr=>rs.all<|apart S r).map (· ::rs)
def mR{S}:∀{rs:List (List Bool)},(∀r∈rs,r∈rc S)->rs.Pairwise (λa b=>apart S a b=true)->rs∈AaP S rs.length
 |[],_,_=>As.2 rfl
 |r::rs,h,c=>by have⟨d,e⟩:=Ct.1 c;rw[AC,AaP,B6];refine⟨rs,mR (λr f=>h r<|AW _ f) e,Aw.2 ⟨r,AM.2 ⟨h r BD,Aq.2 d⟩,rfl⟩⟩
def Ue(S:List Bool):zN:=(List.range S.length).filter λj=> !gB S j
def lW(S:List Bool):zN:=(List.range S.length).filter λj=>gB S j
def AdF(S:List Bool)(rs:List (List Bool)):Bool:=(XP (rs.map (λr=>r.map bt)++(Ue S).map (Zk S.length))<|rs.map (λ_=>((1:Int),(1:Int)))++(Ue S).map (λ_=>((0:Int),(1:Int)))).2&&(XP (rs.map (λr=>r.map bt)++(Ue S).map (Zk S.length))<|rs.map (λ_=>((1:Int),(1:Int)))++(Ue S).map (λ_=>((0:Int),(1:Int)))).1==S.map bt
def uS(n:Nat):Bool:=(allB n).all λS=>(AaP S (lW S).length).all<|AdF S
def AnY:uS 1=true:=kh
def AnZ:uS 2=true:=kh
def An0:uS 3=true:=kh
def An1:uS 4=true:=kh
def Ado(a b:List Bool):Bool:=(List.range b.length).any λi=>gB a i&&gB b i
def rA(r S:List Bool):Bool:=(QP (r.map bt)<|S.map bt).2&&(!Ado r S || !decide (wZ (RQ (QP (r.map bt)<|S.map bt).1 (1,1) * 1) < 0))
def tryD(n:Nat):Bool:=(allB n).all λr=>(allB n).all<|rA r
def Ams:tryD 1=true:=kh
def Amt:tryD 2=true:=kh
def Amu:tryD 3=true:=kh
def Amv:tryD 4=true:=kh
def mD{α:Type}(g:Nat->List α):∀(b a fr:Nat),(∀k,fr+a<=k->k < fr+a+b->g k=[])->(List.range' fr<|a+b).flatMap g=(List.range' fr a).flatMap g
 |0,a,fr,_=>rfl
 |b+1,a,fr,h=>by rw[<-Nat.add_assoc,List.range'_concat,Dw,mD g b a fr (λk c d=>h k c aG)];simp[h (fr+(a+b)) aG aG]
def Aao{t r fr}(a:0 < r)(h:t+1<=r+fr):eX t r fr=[]:=by obtain⟨r,rfl⟩:∃q,r=q+1:=⟨r - 1,aG⟩;rw[eX,show t - r - fr=0 from by omega];rfl
def Aan(t r fr:Nat)(h:fr<=t):(List.range' fr<|t - fr).flatMap (λi=>(eX t r<|i+1).map (i:: ·))=eX t (r+1) fr:=by
 rw[eX]
 have:=mD (λi=>(eX t r (i+1)).map (i:: ·)) (t - fr - (t - r - fr)) (t - r - fr) fr (λk b a=>by
  cases r with
  |zero=>omega
  |succ r=>rw[Aao aG aG];rfl)
 rw[<-this,show t - r - fr+(t - fr - (t - r - fr))=t - fr from by omega]
def foldl_flat{α β S:Type}(f:S->β->S)(g:α->List β):∀(l:List α) (s:S),(l.flatMap g).foldl f s=l.foldl (λs x=>(g x).foldl f s) s
 |[],_=>rfl
 |x::l,s=>by rw[AR,C2,Ca,foldl_flat f g l]
def Xi(c:zN):(cI c).length=c.length:=by unfold cI;rw[Ai]
def Aeu(c d:zN):cI (c++d)=cI c++cI d:=by unfold cI;rw[Br]
def Akj{l}(h:l.length<=lim):EP l=some l:=by unfold EP;rw[AO (by simpa using h),BX]
def mN{p sg c}:∀(l:List zN) (s:Mx),(∀d∈l,(c++d).length<=lim)->YA s->YA (l.foldl (λo d=>visit p sg o<|c++d) s)
 |[],_,_,h=>h
 |d::l,s,a,h=>mN l _ (λd b=>a d<|AW _ b)<|uV sg (a d BD) h
def AjA(a:Mx)(f:List Rt->Bool):(List.range a.length).any (λk=>f<|Od a k)=a.any f:=by
 rw[Bb,BR,BR];constructor
 ·rintro⟨i,hi,h⟩;rw[Ao]at hi;rw[<-Qf hi]at h;exact⟨_,Ae hi,h⟩
 ·rintro⟨x,b,h⟩;obtain⟨i,hi,rfl⟩:=GH b;rw[Qf hi]at h;exact⟨i,Ao.2 hi,h⟩
section
variable {p:LP}{R:Mx}{rt:List Rt}
def AkB(t:YZ p=true)(i:R.length=p.2.1.length+p.2.2.length)(d:rt.length=p.2.1.length+p.2.2.length)(l:∀j,j < p.2.1.length+p.2.2.length->Od R j=rowAt p j)(m:∀j,j < p.2.1.length+p.2.2.length->atR rt j=JF p j)
  {c:zN}(u:c.length<=5) (f:∀e∈c,e < p.2.1.length+p.2.2.length):Ay (Qs (cI c) R rt) fz ([],[],0)=some (c.map<|rowAt p,c.map<|JF p):=by
 have h:c.length<=lim:=uY
 have q:=MY (B:=Qs (cI c) R rt) (n:=c.length) (O:=Unit) (λ(s:Mx×List Rt) k=>(s.1,s.2,(k:Int))) (λk s=>s.1.length=k∧s.2.length=k) (λk s=>.inl (s.1++[rowAt p (c.getD k 0)],s.2++[JF p (c.getD k 0)])) (λo=>match o with|.inl s=>s|.inr _=>([],[])) h (λrec k s a hi=>by
  have g:c.getD k 0=c[k]:=by rw[AF,Af a];rfl
  have b:=f c[k]<|Ae a;show cond (decide ((k:Int) < ((cI c).length:Int))) _ _=_;rw[Xi,Bq a,Ac,AV (show k < (cI c).length by rw[Xi];exact a)];simp only[Aa];rw[show(cI c)[k]'(by rw[Xi];exact a)=((c[k]:Nat):Int)from by unfold cI;rw[Bl],g,Zv (by rw[i];exact b)];simp only[Aa];rw[AO (by rw[hi.1];simp;unfold lim;omega),NB (by rw[d];exact b)];simp only[Aa];rw[AO (by rw[hi.2];simp;unfold lim;omega),l _ b,m _ b,BA a (Bk h)]) (λrec s hi=>by
  show cond (decide ((c.length:Int) < ((cI c).length:Int))) _ _=_;rw[Xi,Bh];rfl) (λk s v a hi r=>by cases r;exact⟨by simp[hi.1],by simp[hi.2]⟩) ([],[]) ⟨rfl,rfl⟩
 rw[show(([]:Mx),([]:List Rt),(0:Int))=((([],[]):Mx×List Rt).1,(([],[]):Mx×List Rt).2,((0:Nat):Int))from rfl,q,YC];simp only[BX];rw[getD_map 0 (rowAt p) c,getD_map 0 (JF p) c]
def AaU{out:Mx}{v:List Rt×Bool}(h:out.length<=lim)(b:v.1.length<=lim):Ay (Uv out v) fz 0=some (cond (out.any (· ==v.1)) (.inr out)<|.inl ()):=by
 rw[R2 (n:=out.length) (λk=>v.1==Od out k) out h (λk a c=>by
  show cond (decide ((k:Int) < (out.length:Int))) _ _=_;rw[Bq a,Ac,Zv a];simp only[Aa];rw[Akp b];simp only[Aa];rw[BA a (Bk h)]) (λrec=>by
  show cond (decide ((out.length:Int) < (out.length:Int))) _ _=_;rw[Bh];rfl)]
 rw[AjA out (λx=>v.1==x),show(λx=>v.1==x)=(λx=>x==v.1)from by funext x;rw[Bb,Bv,Bv];exact eq_comm]
def mW{sg}(hv:YZ p=true)(hR:R.length=p.2.1.length+p.2.2.length)(hrt:rt.length=p.2.1.length+p.2.2.length)(hA:∀j,j < p.2.1.length+p.2.2.length->Od R j=rowAt p j)(hB:∀j,j < p.2.1.length+p.2.2.length->atR rt j=JF p j):
  ∀(r:Nat) (c:zN) (fr f:Nat) (out:Mx),c.length+r=p.2.2.length->fr<=p.2.1.length+p.2.2.length->(∀e∈c,e < p.2.1.length+p.2.2.length)->r < f->out.length+11 ^ r<=lim->YA out->
  Ay Gz f ((fr:Int),cI c,(p.2.2.length:Int),R,rt,p,sg,out)=some ((eX (p.2.1.length+p.2.2.length) r fr).foldl (λo d=>visit p sg o<|c++d) out)
 |0,c,fr,f,out,hc,hfr,hin,hf,ho,hol=>by
  obtain⟨f,rfl⟩:∃g,f=g+1:=⟨f - 1,aG⟩;have⟨h1,h2,h3,h4,h5,h6⟩:=Ux hv;have hsm:n8 p:=⟨by rw[h5];unfold lim;omega,uY,uY⟩;have hcl:c.length<=lim:=uY;rw[Cn];show cond (decide (((cI c).length:Int) < (p.2.2.length:Int))) _ _=_;rw[Xi,show c.length=p.2.2.length from by omega,Bh,Ad,AkB hv hR hrt hA hB aG hin];simp only[Aa];rw[Akz (by rw[Ai];exact hcl)];simp only[Aa];rw[eX,Ca,Ez,A7];unfold visit;cases(XP (c.map<|rowAt p)<|c.map<|JF p).2 with
  |false=>rfl
  |true=>
   have hxl:=tv (a:=c.map<|rowAt p) (b:=c.map<|JF p) (by rw[Ai];exact hcl);rw[Au,Ad,Ac,Afj hsm hxl];simp only[Aa];cases WZ p (XP (c.map<|rowAt p)<|c.map<|JF p).1 sg with
   |false=>rfl
   |true=>
    rw[Au,Ad,Ac,AaU aG hxl];simp only[Aa];cases out.any (· ==(XP (c.map<|rowAt p)<|c.map<|JF p).1)with
    |true=>rfl
    |false=>simp only[Ad];rw[AO (by simpa using ho)]
 |r+1,c,fr,f,out,hc,hfr,hin,hf,ho,hol=>by
  obtain⟨f,rfl⟩:∃g,f=g+1:=⟨f - 1,aG⟩;have⟨h1,h2,h3,h4,h5,h6⟩:=Ux hv;have hpw:11 ^ (r+1)=11 ^ r * 11:=Fb ..;have hNm:p.2.1.length+p.2.2.length<=maxLen:=by unfold maxLen;omega
  rw[Cn];show cond (decide (((cI c).length:Int) < (p.2.2.length:Int))) (Aa (Ay (Qr (cI c) (p.2.2.length:Int) R rt p sg<|Ay Gz f) fz (out,(fr:Int))) λz4=>some z4) _=_;rw[Xi,Bq (show c.length < p.2.2.length by omega),Ac]
  have hl:=cH (B:=Qr (cI c) (p.2.2.length:Int) R rt p sg<|Ay Gz f) (n:=p.2.1.length+p.2.2.length) (O:=Unit) (λ(s:Mx) k=>(s,(k:Int))) (λk s=>fr<=k∧s.length<=out.length+(k - fr) * 11 ^ r∧YA s) (λk s=>.inl<|(eX (p.2.1.length+p.2.2.length) r<|k+1).foldl (λo d=>visit p sg o<|c++(k::d)) s) (λo=>match o with|.inl s=>s|.inr _=>[])
   (λrec k s hk hi=>by
    have hkm:(k - fr) * 11 ^ r<=10 * 11 ^ r:=Cd _ aG;show cond (decide ((k:Int) < (R.length:Int))) _ _=_;rw[hR,Bq hk,Ac,Akj (by rw[Xi];unfold lim;omega)];simp only[Aa]
    rw[AO (by rw[Xi];simp;unfold lim;omega),BA hk hNm,show cI c++[(k:Int)]=cI (c++[k])from by rw[Aeu];rfl,mW hv hR hrt hA hB r (c++[k]) (k+1) f s (by rw[An];simp;omega) aG (λe he=>by
     rcases Al.1 he with he|he
     ·exact hin e he
     ·rw[As]at he;subst he;exact hk) aG aG hi.2.2]
    simp only[Aa,Bw,Hq])
   (λrec s hi=>by show cond (decide (((p.2.1.length+p.2.2.length:Nat):Int) < (R.length:Int))) _ _=_;rw[hR,Bh];rfl)
   (λk s s' hk hi hs=>by
    cases hs;refine⟨aG,?_,?_⟩
    ·have h1:=bT (f:=λo d=>visit p sg o<|c++(k::d)) (λs x=>jP p sg s _) (eX (p.2.1.length+p.2.2.length) r<|k+1) s;have h2:=kq (t:=p.2.1.length+p.2.2.length) aG r<|k+1;rw[show k+1 - fr=(k - fr)+1 from by omega,HU];have:=hi.2.1;refine Bm h1 ?_;omega
    ·have:=mN (p:=p) (sg:=sg) (c:=c++[k]) (eX (p.2.1.length+p.2.2.length) r (k+1)) s (λd hd=>by rw[An,An,(vR hd).1];simp;unfold lim;omega) hi.2.2;simpa only[Bw,Hq]using this) (p.2.1.length+p.2.2.length - fr) fr out fz aG (by unfold fz;omega) ⟨A5 _,nF,hol⟩
  rw[hl,gK (λs k=>(eX (p.2.1.length+p.2.2.length) r<|k+1).foldl (λo d=>visit p sg o<|c++(k::d)) s)];simp only[Aa];rw[<-Aan _ r fr hfr,foldl_flat];simp only[List.foldl_map]
end
def uT{p:LP}{i:Nat}(hi:i < p.2.2.length)(h:p.2.2.length<=lim):Ay (R9 p (i:Int)) fz ([],0)=some (Zk p.2.2.length i):=by
 have c:=MY (B:=R9 p (i:Int)) (n:=p.2.2.length) (O:=Unit) (λ(s:List Rt) k=>(s,(k:Int))) (λk s=>s.length=k) (λk s=>.inl (s++[(if i=k then(1:Int)else 0,(1:Int))])) (λo=>match o with|.inl s=>s|.inr _=>[]) h (λrec k s a b=>by
  show cond (decide ((k:Int) < (p.2.2.length:Int))) _ _=_;rw[Bq a,Ac,show((i:Int)==(k:Int))=decide (i=k)from by rw[Bb,Bv,decide_eq_true_iff];omega];unfold Uq;by_cases e:i=k
  ·rw[Ak e,Az e,Ac];simp only[Aa];rw[AO (by rw[b];simp;unfold lim at h⊢;omega),BA a (Bk h)]
  ·rw[Ah e,AA e,Ad];simp only[Aa];rw[AO (by rw[b];simp;unfold lim at h⊢;omega),BA a (Bk h)]) (λrec s _=>by
  show cond (decide ((p.2.2.length:Int) < (p.2.2.length:Int))) _ _=_;rw[Bh];rfl) (λk s d a hi b=>by cases b;simp[hi]) [] rfl
 rw[show((0:Nat):Int)=0 from rfl]at c;rw[c,gJ];simp only[BX];congr 1;unfold Zk;apply Cp
 ·simp
 ·intro k f g;rw[Bl,Ii,Di];simp only[C9,FA,List.getElem_replicate];split<;>rfl
def wY{p sg}(h:YZ p=true):Sp p sg=some (ZH p sg):=by
 have⟨q,l,r,t,a,u⟩:=Ux h;have f:p.2.2.length<=lim:=uY;unfold Sp;rw[AO (by rw[a];simp;unfold lim;omega)];unfold Ke;rw[AO (by simp;unfold lim;omega),BX,BX];simp only[Aa]
 have d:=MY (B:=V0 p) (n:=p.2.2.length) (O:=Unit) (λ(s:Mx×List Rt) k=>(s.1,s.2,(k:Int))) (λk s=>s.1.length=p.2.1.length+k∧s.2.length=p.2.1.length+k) (λk s=>.inl (s.1++[Zk p.2.2.length k],s.2++[((0:Int),(1:Int))])) (λo=>match o with|.inl s=>s|.inr _=>([],[])) f (λrec k s e hi=>by
  show cond (decide ((k:Int) < (p.2.2.length:Int))) _ _=_;rw[Bq e,Ac,uT e f];simp only[Aa];rw[AO (by rw[hi.1];simp;unfold lim;omega),AO (by rw[hi.2];simp;unfold lim;omega),BA e (Bk f)]) (λrec s hi=>by
  show cond (decide ((p.2.2.length:Int) < (p.2.2.length:Int))) _ _=_;rw[Bh];rfl) (λk s v e hi m=>by cases m;exact⟨by simp[hi.1];omega,by simp[hi.2];omega⟩) (p.1,p.2.1) ⟨a,rfl⟩
 rw[show((0:Nat):Int)=0 from rfl]at d;rw[d,YC (λk=>Zk p.2.2.length k) (λ_=>((0:Int),(1:Int)))];simp only;unfold Th;have i:(p.1++(List.range' 0 p.2.2.length).map λk=>Zk p.2.2.length k).length=p.2.1.length+p.2.2.length:=by simp[a]
 have b:(p.2.1++(List.range' 0 p.2.2.length).map λ_=>((0:Int),(1:Int))).length=p.2.1.length+p.2.2.length:=nF
 have j:=mW (p:=p) (R:=p.1++(List.range' 0 p.2.2.length).map λk=>Zk p.2.2.length k) (rt:=p.2.1++(List.range' 0 p.2.2.length).map λ_=>((0:Int),(1:Int))) (sg:=sg) h i b (λj g=>by
  rw[<-Qf (by rw[i];exact g)];unfold rowAt;split
  ·rename_i c;rw[DU (by rw[a];exact c),Qf]
  ·rename_i c;rw[HE (by rw[a];omega),Bl,Ii];simp[a]) (λj g=>by
  rw[<-RY (by rw[b];exact g)];unfold JF;split
  ·rename_i c;rw[DU c,RY]
  ·rename_i c;rw[HE aG,Bl]) p.2.2.length [] 0 fz [] nF aG nF (by unfold fz;omega) (by have:=Ady l;simp;unfold lim;omega) (λr d=>by simp at d)
 rw[show((0:Nat):Int)=0 from rfl,show cI []=[]from rfl]at j;rw[j];simp only[BX];rfl
def U4(q:EM)(v:Int):List Rt:=q.2.1.map λa=>(cond (a.2.contains v) 1 0,1)
def cpP(q:EM):LP:=((List.range' 0 q.1.toNat).map λ(v:Nat)=>U4 q (v:Int),(List.range' 0 q.1.toNat).map<|λ_=>(1,1),q.2.1.map λ_=>(1,1))
def cpB(q:EM):LP×Bool:=cond (Du q) (cpP q,true) (([],[],[]),false)
def Jk{q}(h:Du q=true):1<=q.1∧q.1<=5∧1<=q.2.1.length∧q.2.1.length<=4:=by unfold Du at h;simp only[Ab,U2]at h;omega
section
variable {q:EM}
def rV(b:MA q)(v:Int):Ay (Td q v) fz ([],0)=some (U4 q v):=by
 rw[md (B:=Td q v) (l:=q.2.1) (s0:=[]) (h:=λa=>(cond (a.2.contains v) 1 0,1)) (by simpa using b.1) (λk c s f d=>by
  show cond (decide ((k:Int) < (q.2.1.length:Int))) _ _=_;rw[Bq c,Ac,AV c];simp only[Aa];rw[bW (b.2.1 _<|Ae c).2];simp only[Aa];unfold Uq;have e:=b.1;cases(q.2.1[k]).2.contains v with
  |true=>rw[Ac];simp only[Aa];rw[AO (by rw[d];simp;unfold lim at e⊢;omega),BA c (Bk b.1)];rfl
  |false=>rw[Ad];simp only[Aa];rw[AO (by rw[d];simp;unfold lim at e⊢;omega),BA c (Bk b.1)];rfl) (λrec s=>by
  show cond (decide ((q.2.1.length:Int) < (q.2.1.length:Int))) _ _=_;rw[Bh];rfl),BX]
 rfl
def wW(a:MA q):Ay (Te q) fz ([],0)=some (q.2.1.map λ_=>(1,1)):=by
 rw[md (B:=Te q) (l:=q.2.1) (s0:=[]) (h:=λ_=>(1,1)) (by simpa using a.1) (λk b s c d=>by
  have e:=a.1;show cond (decide ((k:Int) < (q.2.1.length:Int))) _ _=_;rw[Bq b,Ac,AO (by rw[d];simp;unfold lim at e⊢;omega),BA b (Bk a.1)]) (λrec s=>by
  show cond (decide ((q.2.1.length:Int) < (q.2.1.length:Int))) _ _=_;rw[Bh];rfl),BX]
def Ann(c:MA q):NP q=some (cpB q):=by
 unfold NP cpB;rw[OS c];simp only[Aa];cases f:Du q with
 |false=>rfl
 |true=>
  have⟨i,j,l,m⟩:=Jk f;rw[Au,Ad]
  have g:NQ q=some ((List.range' 0 q.1.toNat).map λ(v:Nat)=>(v:Int)):=by
   unfold NQ;rw[OS c,f];simp only[Aa,Au,Ad]
   have d:=MY (B:=SI q) (n:=q.1.toNat) (O:=Unit) (λ(s:zI) k=>(s,(k:Int))) (λk s=>s.length=k) (λk s=>.inl (s++[(k:Int)])) (λo=>match o with|.inl s=>s|.inr _=>[]) uY (λrec k s b hi=>by
    show cond (decide ((k:Int) < q.1)) _ _=_;rw[Ak aG,Ac,AO (by rw[hi];simp;unfold lim;omega),BA b (by unfold maxLen;omega)]) (λrec s hi=>by
    show cond (decide (((q.1.toNat:Nat):Int) < q.1)) _ _=_;rw[Ah aG];rfl) (λk s h b hi e=>by cases e;simp[hi]) [] rfl
   rw[show((0:Nat):Int)=0 from rfl]at d;rw[d,gJ (λ(k:Nat)=>(k:Int))];rfl
  rw[g];simp only[Aa];unfold Q0;have a:((List.range' 0 q.1.toNat).map λ(v:Nat)=>(v:Int)).length=q.1.toNat:=nF
  have d:=MY (B:=Ng q ((List.range' 0 q.1.toNat).map λ(v:Nat)=>(v:Int))) (n:=q.1.toNat) (O:=Unit) (λ(s:Mx×List Rt) k=>(s.1,s.2,(k:Int))) (λk s=>s.1.length=k∧s.2.length=k) (λk s=>.inl (s.1++[U4 q (k:Int)],s.2++[((1:Int),(1:Int))])) (λo=>match o with|.inl s=>s|.inr _=>([],[])) uY (λrec k s b hi=>by
   show cond (decide ((k:Int) < ((((List.range' 0 q.1.toNat).map λ(v:Nat)=>(v:Int)).length:Nat):Int))) _ _=_;rw[a,Bq b,Ac,AV (by rw[a];exact b),Bl,Ii];simp only[Aa,C9,FA];rw[rV c];simp only[Aa];rw[AO (by rw[hi.1];simp;unfold lim;omega),AO (by rw[hi.2];simp;unfold lim;omega),BA b (by unfold maxLen;omega)]) (λrec s hi=>by
   show cond (decide (((q.1.toNat:Nat):Int) < ((((List.range' 0 q.1.toNat).map λ(v:Nat)=>(v:Int)).length:Nat):Int))) _ _=_;rw[a,Bh];rfl) (λk s h b hi e=>by cases e;exact⟨by simp[hi.1],by simp[hi.2]⟩) ([],[]) ⟨rfl,rfl⟩
  rw[show(([]:Mx),([]:List Rt),(0:Int))=((([],[]):Mx×List Rt).1,(([],[]):Mx×List Rt).2,((0:Nat):Int))from rfl,d,YC (λk=>U4 q (k:Int)) (λ_=>((1:Int),(1:Int)))];simp only[BX];rw[wW c];rfl
def AjS(a:Du q=true):n8 (cpP q):=by have⟨b,c,d,e⟩:=Jk a;unfold cpP n8;refine⟨by simp;unfold lim;omega,by simp;unfold lim;omega,by simp;unfold lim;omega⟩
end
section
variable {s:zI}{a b:List Rt}
end
def fB{S i}:gB S i=true->i < S.length:=λh=>by
 refine Bp λhc=>?_
 unfold gB at h;rw[AF,Bt aG]at h;cases h
def wD{S i j}(h:i < S.length):gB (S.set i false) j=(if i=j then false else gB S j):=by
 unfold gB;rw[AF,FG,AF];split
 ·first|rfl|(rename_i e;subst e;rw[Az h];rfl)
 ·rfl
def gW:∀{S:List Bool}{i:Nat},gB S i=true->((S.set i false).filter id).length < (S.filter id).length
 |[],i,h=>by simp[gB]at h
 |b::S,0,h=>by have:b=true:=h;subst this;simp
 |b::S,i+1,h=>by have:=gW (S:=S) (i:=i) h;cases b<;>simp[List.set_cons_succ]<;>simpa using this
def c9{P:List Bool->Prop}{n:Nat}:∀(k:Nat) (S:List Bool),(S.filter id).length<=k->S.length=n->P S->∃S:List Bool,S.length=n∧P S∧∀i,gB S i=true->¬P (S.set i false)
 |0,S,c,a,b=>⟨S,a,b,λi hi _=>by have:=gW hi;omega⟩
 |k+1,S,c,a,b=>by
  by_cases h:∃i,gB S i=true∧P (S.set i false)
  ·obtain⟨i,d,e⟩:=h;have:=gW d;exact c9 k (S.set i false) aG (by rw[By];exact a) e
  ·exact⟨S,a,b,λi hi f=>h ⟨i,hi,f⟩⟩
def mi{t}:∀{c:zN}{i:Nat},(i::c).Pairwise (· < ·)->(∀e∈i::c,e < t)->i+c.length < t
 |[],i,_,h=>by have:=h i BD;simpa using this
 |d::c,i,a,h=>by
  have⟨b,f⟩:=Ct.1 a;have:=mi f λe g=>h e<|AW _ g
  have:=b d BD;rw[AC];omega
def rj{t}:∀{c:zN}{fr:Nat},c.Pairwise (· < ·)->(∀e∈c,fr<=e∧e < t)->c∈eX t c.length fr
 |[],_,_,_=>As.2 rfl
 |i::c,fr,b,h=>by
  have⟨d,f⟩:=Ct.1 b;have g:=mi b λe a=>(h e a).2
  have hi:=h i BD;rw[AC,eX,B6];refine⟨i,JE.2 ⟨hi.1,aG⟩,Aw.2 ⟨c,rj f λe a=>⟨d e a,(h e<|AW _ a).2⟩,rfl⟩⟩
def jk{α:Type}(f:α->Bool):∀l:List α,(l.filter f).length+(l.filter λx=> !f x).length=l.length
 |[]=>rfl
 |x::l=>by have:=jk f l;cases a:f x<;>simp[a]<;>omega
def vM(b:Bool):P7 (bt b)=true∧0<=(bt b).1:=by cases b<;>decide
section
variable {q:EM}
def bits(q:EM)(v:Nat):List Bool:=q.2.1.map λa=>a.2.contains (v:Int)
def Aas(v:Nat):U4 q (v:Int)=(bits q v).map bt:=by unfold U4 bits bt;rw[D4];rfl
def vD(v:Nat):(bits q v).length=q.2.1.length:=by unfold bits;rw[Ai]
def yd:P7 ((1:Int),(1:Int))=true:=oJ
def Aeo{v i:Nat}(h:i < q.2.1.length):gB (bits q v) i=(q.2.1[i]).2.contains (v:Int):=by unfold gB bits;rw[AF,BS,Af h];rfl
def lZ{n}(a:1<=n)(b:n<=4):uS n=true∧tryD n=true:=by
 have:n=1∨n=2∨n=3∨n=4:=aG;rcases this with rfl|rfl|rfl|rfl
 ·exact⟨AnY,Ams⟩
 ·exact⟨AnZ,Amt⟩
 ·exact⟨An0,Amu⟩
 ·exact⟨An1,Amv⟩
end
def W1(q:EM)(B:zN):LP:=(B.map λ(v:Nat)=>U4 q (v:Int),B.map<|λ_=>(1,1),q.2.1.map λ_=>(1,1))
def SmG(q:EM)(B:zN):Prop:=1<=B.length∧B.length<=5∧∀v∈B,v < q.1.toNat
def zE{p sg out c x}(h:x∈out):x∈visit p sg out c:=by
 unfold visit;cases(XP (c.map<|rowAt p)<|c.map<|JF p).2 with
 |false=>exact h
 |true=>
  cases WZ p (XP (c.map<|rowAt p)<|c.map<|JF p).1 sg with
  |false=>exact h
  |true=>
   cases out.any (· ==(XP (c.map<|rowAt p)<|c.map<|JF p).1)with
   |true=>exact h
   |false=>exact AD _ h
def mO{p sg x}:∀(l:List zN) (out:Mx),x∈out->x∈l.foldl (visit p sg) out
 |[],_,h=>h
 |c::l,out,h=>mO l _<|zE h
def i0{p sg c}(a:(XP (c.map<|rowAt p)<|c.map<|JF p).2=true)(b:WZ p (XP (c.map<|rowAt p)<|c.map<|JF p).1 sg=true):∀(l:List zN) (out:Mx),c∈l->(XP (c.map<|rowAt p)<|c.map<|JF p).1∈l.foldl (visit p sg) out
 |d::l,out,h=>by
  rw[Ca];rcases AL.1 h with rfl|h
  ·refine mO l _ ?_;unfold visit;rw[a,b,Ac,Ac];cases f:out.any (· ==(XP (c.map<|rowAt p)<|c.map<|JF p).1)with
   |true=>have⟨y,g,e⟩:=BR.1 f;rw[Bv]at e;rw[<-e];exact g
   |false=>exact AB _<|As.2 rfl
  ·exact i0 a b l _ h
section
variable {q:EM}{B:zN}
def VO(q:EM)(B:zN)(k:Nat):List Bool:=bits q<|B.getD k 0
def eR(v:Nat):(VO q B v).length=q.2.1.length:=vD _
def Aen{v i}(h:i < q.2.1.length):gB (VO q B v) i=(q.2.1[i]).2.contains ((B.getD v 0:Nat):Int):=Aeo h
def Po:(W1 q B).2.1.length=B.length∧(W1 q B).2.2.length=q.2.1.length∧(W1 q B).1.length=B.length:=by unfold W1;simp
def oS{v}(h:v < B.length):Od (W1 q B).1 v=(VO q B v).map bt:=by rw[<-Qf (by rw[Po.2.2];exact h)];unfold VO;rw[<-Aas,AF,Af h];unfold W1;simp only[Bl,Bz]
def AcV(e:Du q=true)(d:SmG q B):YZ (W1 q B)=true:=by
 have⟨h,j,k,l⟩:=Jk e;have f:=d.1;have g:=d.2.1;unfold YZ;rw[Po.1,Po.2.1,Po.2.2];simp only[Ab,U2,Bv];refine⟨aG,aG,trivial,?_,?_,?_⟩
 ·rw[Aq];intro r a;obtain⟨i,hi,rfl⟩:=GH a;have c:i < B.length:=by rw[Po.2.2]at hi;exact hi
  rw[Qf hi,oS c];unfold rowOk;rw[Ai,eR,C4,AK,Mi,Aq];exactλb _=>(vM b).1
 ·rw[Aq];intro r a;unfold W1 at a;obtain⟨_,_,rfl⟩:=Aw.1 a;exact yd
 ·rw[Aq];intro r a;unfold W1 at a;obtain⟨_,_,rfl⟩:=Aw.1 a;exact yd
def AdO(q:EM)(B:zN)(S:List Bool):Prop:=∀v,v < B.length->∃i,gB (VO q B v) i=true∧gB S i=true
def wC(e:Du q=true)(f:SmG q B):AdO q B (List.replicate q.2.1.length true):=λv c=>by
 have b:=e;unfold Du at b;simp only[Ab,At]at b;have d:B.getD v 0 < q.1.toNat:=by rw[AF,Af c];exact f.2.2 _<|Ae c
 have b:=BU.1 b.2.2.2.2 (B.getD v 0)<|Ao.2 d;have b:JI q.2.1 ((B.getD v 0:Nat):Int)=true:=by simpa using b
 unfold JI at b;have⟨a,g,h⟩:=BR.1 b;obtain⟨i,hi,rfl⟩:=GH g;refine⟨i,by rw[Aen hi];exact h,?_⟩;unfold gB;rw[AF,List.getElem?_replicate,Az hi];rfl
def zi(hv:Du q=true)(hs:SmG q B){S:List Bool}(hl:S.length=q.2.1.length)(hc:AdO q B S):WZ (W1 q B) (S.map bt) 1=true:=by
 have⟨h1,h2,h3,h4⟩:=Jk hv;have hD:=(lZ h3 h4).2;have hdot:∀v,v < B.length->rA (VO q B v) S=true:=λv _=>by unfold tryD at hD;have ha:=Aq.1 hD (VO q B v) (by have:=T8<|VO q B v;rwa [eR]at this);exact Aq.1 ha S (by have:=T8 S;rwa [hl]at this)
 have hdo:∀v,v < B.length->(QP (Od (W1 q B).1 v)<|S.map bt).2=true∧decide (wZ (RQ (QP (Od (W1 q B).1 v)<|S.map bt).1 (1,1) * 1) < 0)=false:=λv hvn=>by have hd:=hdot v hvn;unfold rA at hd;rw[Ab,BZ,At,At]at hd;rw[oS hvn];refine⟨hd.1,hd.2.resolve_left λhm=>?_⟩;have⟨i,g1,g2⟩:=hc v hvn;unfold Ado at hm;have:=BU.1 hm i<|Ao.2<|fB g2;rw[g1,g2]at this;exact this rfl
 have hmv:jo (W1 q B).1 (S.map bt)=((List.range' 0 B.length).map<|λv=>(QP (Od (W1 q B).1 v)<|S.map bt).1,true):=by unfold jo;rw[Po.2.2,fS (h:=λv=>(QP (Od (W1 q B).1 v) (S.map bt)).1) B.length 0 (λi _ hi=>by unfold mvG;rw[(hdo i aG).1];rfl)]
 unfold WZ;rw[AcV hv hs,AK,Ai,hl,Po.2.1,C4,AK,hmv,AK,Mi];rw[Ab,At];refine⟨Aq.2 λb _=>?_,BU.2 λv hvn=>?_⟩
 ·show(P7 (bt b)&&decide (0<=(bt b).1))=true;rw[(vM b).1,Ak (vM b).2];rfl
 ·simp only[Ai,K4,Ao]at hvn;unfold tn;rw[hmv];have e1:atR ((List.range' 0 B.length).map λv=>(QP (Od (W1 q B).1 v)<|S.map bt).1) v=(QP (Od (W1 q B).1 v)<|S.map bt).1:=by rw[<-RY (by rw[Ai,K4];exact hvn),Bl,Ii];simp
  have e2:atR (W1 q B).2.1 v=(1,1):=by rw[<-RY (by rw[Po.1];exact hvn)];unfold W1;simp
  simp only;rw[e1,e2,(hdo v hvn).2];simp
def Aei(X:Du q=true)(hs:SmG q B):∃S:List Bool,S.length=q.2.1.length∧S.map bt∈ZH (W1 q B) 1:=by
 obtain⟨h1,h2,h3,h4⟩:=Jk X;unfold ZH;rw[Po.1,Po.2.1];obtain⟨S,I,hc,J⟩:=c9 (P:=AdO q B) (n:=q.2.1.length) _ (List.replicate q.2.1.length true) (A5 _) nF<|wC X hs
 have K:∀i,gB S i=true->∃v,v < B.length∧gB (VO q B v) i=true∧∀j,gB S j=true->gB (VO q B v) j=true->j=i:=λi hi=>by
  have hn:=J i hi;refine Bp λhcon=>hn λv L=>?_
  obtain⟨j,g1,g2⟩:=hc v L;by_cases M:j=i
  ·subst M;refine Bp λhno=>hcon ⟨v,L,g1,λk k1 k2=>Bp λhki=>hno ⟨k,k2,?_⟩⟩
   rw[wD (fB hi),AA (λh=>hki h.symm)];exact k1
  ·exact⟨j,g1,by rw[wD (fB hi),AA (λh=>M h.symm)];exact g2⟩
 obtain⟨f,y⟩:∃f:Nat->Nat,∀i,gB S i=true->f i < B.length∧gB (VO q B<|f i) i=true∧∀j,gB S j=true->gB (VO q B<|f i) j=true->j=i:=
  ⟨λi=>if h:gB S i=true then Classical.choose (K i h)else 0,λi hi=>by simp only[dif_pos hi];exact Classical.choose_spec (K i hi)⟩
 have N:∀i j,gB S i=true->gB S j=true->f i=f j->i=j:=λi j hi m e=>(y j m).2.2 i hi (by rw[<-e];exact(y i hi).2.1)
 have l:∀i,i∈lW S↔gB S i=true:=λi=>by unfold lW;rw[AM,Ao];exact⟨λh=>h.2,λh=>⟨fB h,h⟩⟩
 have Y:((lW S).map f).Nodup:=by unfold List.Nodup;rw[CV];have:(lW S).Pairwise (· ≠ ·):=Ec _ C3;exact List.Pairwise.imp_of_mem (λ{a b} O Q Z e=>Z<|N a b ((l a).1 O) ((l b).1 Q) e) this
 let vs:=(List.range B.length).filter λv=>((lW S).map f).contains v
 have o:∀v,v∈vs↔∃i,gB S i=true∧f i=v:=λv=>by
  show v∈(List.range B.length).filter _↔_;rw[AM,Ao,Ag,Aw];constructor
  ·rintro⟨_,i,hi,e⟩;exact⟨i,(l i).1 hi,e⟩
  ·rintro⟨i,hi,e⟩;exact⟨by rw[<-e];exact(y i hi).1,i,(l i).2 hi,e⟩
 have R:vs.length=(lW S).length:=by
  have hp:vs.Perm ((lW S).map f):=(List.perm_ext_iff_of_nodup (Ec _ C3) Y).2 λv=>by rw[o,Aw];exact⟨λ⟨i,hi,e⟩=>⟨i,(l i).2 hi,e⟩,λ⟨i,hi,e⟩=>⟨i,(l i).1 hi,e⟩⟩
  rw[hp.length_eq,Ai]
 have g:∀v∈vs,v < B.length:=λv d=>by obtain⟨i,hi,e⟩:=(o v).1 d;rw[<-e];exact(y i hi).1
 have s:vs.Pairwise (· < ·):=Ec _ GO;have D:(Ue S).Pairwise (· < ·):=Ec _ GO;have T:∀j∈Ue S,j < q.2.1.length:=λj m=>by unfold Ue at m;rw[AM,Ao]at m;rw[<-I];exact m.1
 have U:(vs++(Ue S).map (B.length+ ·)).length=q.2.1.length:=by rw[An,Ai,R];have:=jk (λj=>gB S j)<|List.range S.length;rw[BJ]at this;unfold lW Ue;omega
 have W:(vs++(Ue S).map (B.length+ ·)).Pairwise (· < ·):=by
  rw[EF];refine⟨s,?_,λv d e F=>?_⟩
  ·rw[CV];exact FE (λh=>by omega) D
  ·obtain⟨j,_,rfl⟩:=Aw.1 F;have:=g v d;omega
 have z:=rj (t:=B.length+q.2.1.length) (fr:=0) W (λe F=>by
  rcases Al.1 F with F|F
  ·have:=g e F;omega
  ·obtain⟨j,m,rfl⟩:=Aw.1 F;have:=T j m;omega)
 rw[U]at z
 have u:(vs++(Ue S).map (B.length+ ·)).map (rowAt<|W1 q B)=(vs.map<|VO q B).map (λr=>r.map bt)++(Ue S).map (Zk S.length):=by
  rw[Br,D4,D4];congr 1
  ·refine Bd λv d=>?_
   unfold rowAt;rw[Po.1,Az (g v d),oS (g v d)];rfl
  ·refine Bd λj _=>?_
   simp only[Function.comp];unfold rowAt;rw[Po.1,Po.2.1,AA aG,Dn,I]
 have w:(vs++(Ue S).map (B.length+ ·)).map (JF<|W1 q B)=(vs.map<|VO q B).map (λ_=>((1:Int),(1:Int)))++(Ue S).map (λ_=>((0:Int),(1:Int))):=by
  rw[Br,D4,D4];congr 1
  ·refine Bd λv d=>?_
   unfold JF;rw[Po.1,Az (g v d),<-RY (by rw[Po.1];exact g v d)];unfold W1;simp
  ·refine Bd λj _=>?_
   simp only[Function.comp];unfold JF;rw[Po.1,AA aG]
 have G:∀r∈vs.map (VO q B),r∈rc S:=λr hr=>by
  obtain⟨v,d,rfl⟩:=Aw.1 hr;obtain⟨i,hi,e⟩:=(o v).1 d;subst e;unfold rc;rw[AM];refine⟨by have:=T8<|VO q B<|f i;rwa [eR,<-I]at this,?_⟩;unfold Adv;refine BR.2 ⟨i,Ao.2<|fB hi,?_⟩;rw[hi,(y i hi).2.1,Ga,AK,Aq];intro j _;rw[BZ,Bv,At];by_cases m:j=i
  ·exact .inl m
  ·refine .inr ?_;cases O:gB S j with
   |false=>rfl
   |true=>
    cases Q:gB (VO q B<|f i) j with
    |false=>rfl
    |true=>exact absurd ((y i hi).2.2 j O Q) m
 have H:(vs.map<|VO q B).Pairwise (λa b=>apart S a b=true):=by
  rw[CV];refine List.Pairwise.imp_of_mem (λ{a b} O Q hlt=>?_) s;obtain⟨i,hi,ei⟩:=(o a).1 O;obtain⟨j,m,ej⟩:=(o b).1 Q;unfold apart;rw[Aq];intro k _;rw[At];cases hk:gB S k with
  |false=>rfl
  |true=>
   cases hka:gB (VO q B a) k with
   |false=>rfl
   |true=>
    cases hkb:gB (VO q B b) k with
    |false=>rfl
    |true=>exfalso;subst ei ej;have e1:=(y i hi).2.2 k hk hka;have e2:=(y j m).2.2 k hk hkb;subst e1;subst e2;omega
 have A:=mR G H;rw[Ai,R]at A;have hS:=(lZ h3 h4).1;unfold uS at hS;have x:=Aq.1 (Aq.1 hS S (by have:=T8 S;rwa [I]at this)) _ A;unfold AdF at x;rw[Ab,Bv]at x;refine⟨S,I,?_⟩;have C:=i0 (p:=W1 q B) (sg:=1) (c:=vs++(Ue S).map (B.length+ ·)) (by rw[u,w];exact x.1) (by rw[u,w,x.2];exact zi X hs I hc) _ [] z;rw[u,w,x.2]at C;exact C
end
def mnS(c:List Rt)(st:List Rt×Rt×Bool)(x:List Rt):List Rt×Rt×Bool:=cond ((QP c x).2&&(!st.2.2 || decide (wZ (RQ (QP c x).1 st.2.1 * 1) < 0))) (x,(QP c x).1,true) st
def mnB(p:LP):List Rt×Rt×Bool:=(ZH p 1).foldl (mnS p.2.2) ([],(0,0),false)
def dx(p:LP):List Rt×Rt×Bool:=cond (YZ p&&p.2.2.all λr=>decide (0<=r.1)) (mnB p) ([],(0,0),false)
def nnR(r:Rt):Prop:=P7 r=true∧0<=r.1
def te{n d}(f:0<=n)(g:0<=d)(h:(rNew n d).2=true):nnR (rNew n d).1:=by
 unfold rNew at h⊢;cases a:d==0 with
 |true=>rw[a]at h;cases h
 |false=>
  rw[a]at h;cases b:HH n (-4000000000000000000) 4000000000000000000 with
  |false=>rw[b]at h;cases h
  |true=>
   rw[b]at h;cases c:HH d (-4000000000000000000) 4000000000000000000 with
   |false=>rw[c]at h;cases h
   |true=>
    rw[c]at h;rw[Ah (aG:¬d < 0)]at h⊢;simp only[Ad,Ac]at h⊢;unfold pZ at h⊢;cases e:P7 (n.tdiv (Nat.gcd n.natAbs d.natAbs:Nat),d.tdiv (Nat.gcd n.natAbs d.natAbs:Nat))with
    |false=>rw[e]at h;cases h
    |true=>exact⟨e,Int.tdiv_nonneg f<|Int.natCast_nonneg _⟩
def Ab3{a b}(e:0<=a.1)(f:0<=b.1)(h:(Rs a b).2=true):nnR (Rs a b).1:=by
 unfold Rs at h⊢;cases c:P7 a with
 |false=>rw[c]at h;cases h
 |true=>
  cases d:P7 b with
  |false=>rw[c,d]at h;cases h
  |true=>rw[c,d]at h;have g:=Mn c;have i:=Mn d;exact te (Mg e f) (Mg aG aG) h
def AbW{a b}(e:0<=a.1)(f:0<=b.1)(h:(dy a b).2=true):nnR (dy a b).1:=by
 unfold dy at h⊢;cases c:P7 a with
 |false=>rw[c]at h;cases h
 |true=>
  cases d:P7 b with
  |false=>rw[c,d]at h;cases h
  |true=>rw[c,d]at h;have g:=Mn c;have i:=Mn d;exact te (Int.add_nonneg (Mg e aG)<|Mg f aG) (Mg aG aG) h
def vi{a}(h:∀r∈a,0<=r.1)(k:Nat):0<=(atR a k).1:=by
 unfold atR;rw[AF];cases b:a[k]? with
 |none=>exact Gb 0
 |some r=>exact h r<|B4 b
def yP{a b}(f:∀r∈a,0<=r.1)(g:∀r∈b,0<=r.1):∀(j k:Nat) (x y:Rt),nnR x->UD (kD a b) j k x=.inl y->nnR y
 |0,k,x,y,d,h=>by cases h;exact d
 |j+1,k,x,y,d,h=>by
  rw[UD]at h;unfold kD at h;cases c:(Rs (atR a k)<|atR b k).2 with
  |false=>rw[c]at h;cases h
  |true=>
   have i:=Ab3 (vi f k) (vi g k) c;cases e:(dy x (Rs (atR a k)<|atR b k).1).2 with
   |false=>rw[c,e]at h;cases h
   |true=>rw[c,e]at h;exact yP f g j (k+1) _ y (AbW d.2 i.2 e) h
def AeD{a b}(f:∀r∈a,0<=r.1)(g:∀r∈b,0<=r.1)(h:(QP a b).2=true):nnR (QP a b).1:=by
 unfold QP at h⊢;cases c:(a.length:Int)!=(b.length:Int)with
 |true=>rw[c]at h;cases h
 |false=>
  rw[Ad];rw[c,Ad]at h;cases d:UD (kD a b) a.length 0 (0,1)with
  |inl x=>exact yP f g _ _ _ x ⟨oJ,Gb 0⟩ d
  |inr o=>
   exfalso;rw[d]at h
   have e:∀(j k:Nat) (x:Rt),UD (kD a b) j k x=.inr o->o=rI:=by
    intro j;induction j with
    |zero=>intro k x h;cases h
    |succ j i=>
     intro k x h;rw[UD]at h;unfold kD at h;cases c:(Rs (atR a k)<|atR b k).2 with
     |false=>rw[c]at h;cases h;rfl
     |true=>
      cases d:(dy x (Rs (atR a k)<|atR b k).1).2 with
      |false=>rw[c,d]at h;cases h;rfl
      |true=>rw[c,d]at h;exact i _ _ h
   rw[e _ _ _ d]at h;cases h
def bU{α β:Type}{f}(P:β->Prop)(c:∀b a,P b->P (f b a)):∀(l:List α) (b:β),P b->P (l.foldl f b)
 |[],_,h=>h
 |a::l,b,h=>bU P c l _<|c b a h
def Aif(p:LP):∀x∈ZH p 1,∀r∈x,0<=r.1:=by
 unfold ZH;refine bU (P:=λout:Mx=>∀x∈out,∀r∈x,0<=r.1) (λout c h=>?_) _ _ (λx a=>by cases a);unfold visit;cases(XP (c.map<|rowAt p)<|c.map<|JF p).2 with
 |false=>exact h
 |true=>
  cases b:WZ p (XP (c.map<|rowAt p)<|c.map<|JF p).1 1 with
  |false=>exact h
  |true=>
   cases out.any (· ==(XP (c.map<|rowAt p)<|c.map<|JF p).1)with
   |true=>exact h
   |false=>
    intro x a r d;rcases Al.1 a with a|a
    ·exact h x a r d
    ·rw[As]at a;subst a;unfold WZ at b;simp only[Ab]at b;have:=Aq.1 b.2.2.1 r d;rw[Ab,AN]at this;exact this.2
def xK{c}(hc:∀r∈c,0<=r.1):∀(l:List (List Rt)) (st:List Rt×Rt×Bool),(∀x∈l,∀r∈x,0<=r.1)->(st.2.2=true->nnR st.2.1)->(l.foldl (mnS c) st).2.2=true->nnR (l.foldl (mnS c) st).2.1
 |[],st,_,h,h2=>h h2
 |x::l,st,hl,h,h2=>by
  refine xK hc l _ (λy hy=>hl y<|AW _ hy) (λh3=>?_) h2;unfold mnS at h3⊢;cases hd:(QP c x).2 with
  |false=>rw[hd]at h3;exact h h3
  |true=>
   rw[hd,AK]at h3;rw[AK];cases ho: !st.2.2 || decide (wZ (RQ (QP c x).1 st.2.1 * 1) < 0)with
   |false=>rw[ho]at h3;exact h h3
   |true=>exact AeD hc (hl x BD) hd
def Abm{c}(l:List (List Rt))(st:List Rt×Rt×Bool)(h:st.2.2=true):(l.foldl (mnS c) st).2.2=true:=by
 refine bU (P:=λst:List Rt×Rt×Bool=>st.2.2=true) (λb a h=>?_) l st h;unfold mnS;cases(QP c a).2&&(!b.2.2 || decide (wZ (RQ (QP c a).1 b.2.1 * 1) < 0))with
 |false=>exact h
 |true=>rfl
def xJ{c x}(a:(QP c x).2=true):∀(l:List (List Rt)) (st:List Rt×Rt×Bool),x∈l->(l.foldl (mnS c) st).2.2=true
 |y::l,st,h=>by
  rw[Ca];rcases AL.1 h with rfl|h
  ·refine Abm l _ ?_;unfold mnS;rw[a,AK];cases b:st.2.2 with
   |true=>
    cases decide (wZ (RQ (QP c x).1 st.2.1 * 1) < 0)with
    |true=>rfl
    |false=>exact b
   |false=>rfl
  ·exact xJ a l _ h
def Abv{r}(h:nnR r)(a:decide (0 < RQ r (0,1))=false):r=(0,1):=by
 have⟨b,e⟩:=h;have f:=Mn b
 have c:r.1=0:=by
  refine Bp λhne=>?_
  have:RQ r (0,1)=1:=by unfold RQ;rw[b,show P7 ((0:Int),(1:Int))=true from by decide,Ac,Ac];simp only;rw[Ah aG,Ak aG];rfl
  rw[this]at a;cases a
 have d:=f.2.2.2;rw[c]at d;simp only[Int.natAbs_zero,Nat.gcd_zero_left]at d;exact Prod.ext c (by show r.2=1;omega)
section
variable {q:EM}{B:zN}
def wB(q:EM)(B:zN):Rt×Bool:=((dx<|W1 q B).2.1,(dx<|W1 q B).2.2)
def Aem(b:Du q=true)(c:SmG q B):dx (W1 q B)=mnB (W1 q B):=by
 unfold dx;rw[AcV b c,AK];have:(W1 q B).2.2.all (λr=>decide (0<=r.1))=true:=by unfold W1;rw[Mi,Aq];intro a _;rfl
 rw[this,Ac]
def vz:∀r∈(W1 q B).2.2,0<=r.1:=λr a=>by unfold W1 at a;obtain⟨_,_,rfl⟩:=Aw.1 a;decide
def AdL(a:Du q=true)(d:SmG q B):(wB q B).2=true∧nnR (wB q B).1:=by
 have b:(mnB<|W1 q B).2.2=true:=by
  have⟨S,g,i⟩:=Aei a d;have⟨m,n,j,k⟩:=Jk a;unfold mnB;refine xJ (x:=S.map bt) ?_ _ _ i;have f:=(lZ j k).2;unfold tryD at f;have l:=Aq.1 f (List.replicate q.2.1.length true) (by have:=T8<|List.replicate q.2.1.length true;rwa [CH]at this);have c:=Aq.1 l S (by have:=T8 S;rwa [g]at this);unfold rA at c;rw[Ab]at c;have e:(W1 q B).2.2=(List.replicate q.2.1.length true).map bt:=by show q.2.1.map (λ_=>((1:Int),(1:Int)))=_;rw[List.map_replicate,GA];rfl
  rw[e];exact c.1
 unfold wB;rw[Aem a d];refine⟨b,?_⟩;unfold mnB at b⊢;exact xK vz _ _ (Aif _) (λh=>by cases h) b
end
def oAt(O:zN)(i:Nat):Nat:=O.getD i 0
def Px{O i}(h:i < O.length):oAt O i=O[i]:=by unfold oAt;rw[AF,Af h];rfl
def oI(O:zN):zI:=O.map λ(x:Nat)=>(x:Int)
def EI(O:zN):(oI O).length=O.length:=by simp[oI]
def aF{O}{i:Nat}(h:i < O.length):AU (oI O) (i:Int)=some ((oAt O i:Nat):Int):=by rw[AV (by rw[EI];exact h),Px h];simp[oI]
def AbU{p}(d:YZ p=true):(ZH p 1).length<=161051:=by have⟨f,e,g,h,i,j⟩:=Ux d;unfold ZH;have a:=bT (jP p 1) (eX (p.2.1.length+p.2.2.length) p.2.2.length 0) [];have b:=kq (t:=p.2.1.length+p.2.2.length) aG p.2.2.length 0;have c:=Ady e;simp only[Bn]at a;omega
def mnT(st:List Rt×Rt×Bool)(k:Nat):List Rt×Int×Int×Bool×Int:=(st.1,st.2.1.1,st.2.1.2,st.2.2,(k:Int))
def Ae8{p}(a:YZ p=true):Yo p 1=some (mnB p):=by
 have i:=AbU a;have j:=(Ux a).2.1;unfold Yo;rw[wY a];simp only[Aa]
 have c:=Cm (body:=OY p 1 (ZH p 1)) (out:=((mnB p).1,(mnB p).2.1.1,(mnB p).2.1.2,(mnB p).2.2)) (λk=>mnT (((ZH p 1).take k).foldl (mnS p.2.2) ([],(0,0),false)) k) (ZH p 1).length (λk d e=>by
  rw[A3 d,C2];generalize((ZH p 1).take k).foldl (mnS p.2.2) ([],(0,0),false)=st;have⟨b,⟨g,h⟩,f⟩:=st;unfold OY mnT;simp only[Ca,Ez];rw[Bq d,Ac,AV d];simp only[Aa];rw[Ac6 uY];simp only;unfold mnS QX TH;rw[wrap_in aG];cases(QP p.2.2 (ZH p 1)[k]).2 with
  |false=>rfl
  |true=>
   cases f with
   |false=>rfl
   |true=>rw[fE];simp only[Au,Ad,Ac,Cg,AK];rw[Int.mul_comm];cases decide (wZ (RQ (QP p.2.2 (ZH p 1)[k]).1 (g,h) * 1) < 0)<;>rfl) (λrec=>by
  unfold OY mnT;simp only;rw[Bh,AQ];rfl) fz (Dp uY)
 rw[show(([]:List Rt),(0:Int),(0:Int),false,(0:Int))=mnT (((ZH p 1).take 0).foldl (mnS p.2.2) ([],(0,0),false)) 0 from rfl,c]
def Abs(c:List Rt):((List.range c.length).any λk=>decide ((atR c k).1 < 0))= !(c.all λr=>decide (0<=r.1)):=by
 rw[Bb,BR,At,<-F3,Aq];constructor
 ·rintro⟨k,hk,h⟩ hc;rw[Ao]at hk;have:=hc _<|Ae hk;rw[RY hk]at this;rw[AN]at h this;omega
 ·intro h;refine Bp λhc=>h λr hr=>?_
  obtain⟨k,hk,rfl⟩:=GH hr;rw[AN];refine Bp λhn=>hc ⟨k,Ao.2 hk,?_⟩
  rw[AN,<-RY hk];omega
def wU{p}(h:n8 p):PK p=some (dx p):=by
 unfold PK dx;rw[Aku h];simp only[Aa];cases b:YZ p with
 |false=>rfl
 |true=>
  rw[Au,Ad,AK]
  rw[R2 (n:=p.2.2.length) (λk=>decide ((atR p.2.2 k).1 < 0)) (([]:List Rt),((0:Int),(0:Int)),false) h.2.2 (λk a c=>by
   unfold R6;rw[Bq a,Ac,NB a,BA a (Bk h.2.2)];rfl) (λrec=>by
   unfold R6;rw[Bh];rfl),Abs]
  cases p.2.2.all λr=>decide (0<=r.1)with
  |false=>rfl
  |true=>rw[Au,Ad,Ac];simp only;rw[Ae8 b]
section
variable {q:EM}{B:zN}
def AjG(b:MA q)(a:B.length<=lim):n8 (W1 q B):=by unfold W1 n8;exact⟨by simpa using a,by simpa using a,by simpa using b.1⟩
def Ah3{k:Nat}(h:k < B.length):AU (oI B) (k:Int)=some ((B[k]:Nat):Int):=by rw[aF h,Px h]
def Am5:∀k (h:k < B.length),(B.take<|k+1).map (λ(v:Nat)=>U4 q (v:Int))=(B.take k).map (λ(v:Nat)=>U4 q (v:Int))++[U4 q ((B[k]:Nat):Int)]:=λk h=>by rw[A3 h,Br];rfl
def Am4:∀k (h:k < B.length),(B.take<|k+1).map (λ_=>((1:Int),(1:Int)))=(B.take k).map (λ_=>((1:Int),(1:Int)))++[((1:Int),(1:Int))]:=λk h=>by rw[A3 h,Br];rfl
def wN(b:MA q)(f:Du q=true)(i:B.length<=5)(g:RZ q.1 (oI B)=true):J9 q (oI B)=some (wB q B):=by
 have a:=EI B;have d:(oI B).length<=lim:=by rw[a];unfold lim;omega
 unfold J9;rw[OS b,f];simp only[Aa,Au,Ad];rw[Ac4 d,g];simp only[Au,Ad];unfold Q0
 have e:=Cm (body:=Ng q (oI B)) (out:=(B.map (λ(v:Nat)=>U4 q (v:Int)),B.map (λ_=>((1:Int),(1:Int))))) (λk=>((B.take k).map (λ(v:Nat)=>U4 q (v:Int)),(B.take k).map (λ_=>((1:Int),(1:Int))),(k:Int))) B.length (λk c h=>by
  unfold Ng;simp only;rw[a,Bq c,Ac,Ah3 c];simp only[Aa];rw[rV b];simp only;rw[AO (by simp;unfold lim;omega),AO (by simp;unfold lim;omega),wrap_in aG,Am5 k c,Am4 k c];rfl) (λrec=>by
  unfold Ng;simp only;rw[a,Bh,AQ];rfl) fz (Dp uY)
 rw[show(([]:Mx),([]:List Rt),(0:Int))=((B.take 0).map λ(v:Nat)=>U4 q (v:Int),(B.take 0).map<|λ_=>((1:Int),(1:Int)),((0:Nat):Int))from rfl,e];simp only[Aa];rw[wW b];simp only;rw[show(B.map λ(v:Nat)=>U4 q (v:Int),B.map<|λ_=>((1:Int),(1:Int)),q.2.1.map λ_=>((1:Int),(1:Int)))=W1 q B from rfl,wU (AjG b uY)];rfl
end
def vd(n:Nat)(S:Nat->Bool)(p:Int->Bool):(Ds n S).filter p=Ds n λu=>S u&&p (u:Int):=by unfold Ds;rw[List.filter_map,K3];congr 2;funext u;simp[Function.comp,GZ]
def AjB(a:J7):vsB (FJ a 5)=true:=zG _
def vU(a:J7)(b:zI):vsB (JZ (FJ a 5) b)=true:=by unfold JZ;rw[show FJ a 5=Ds 5 λv=>a.2.contains (v:Int)from rfl,vd];exact zG _
section
variable {d:List N9}{q:EM}
def atV(d:List N9)(a:J7):JY:=(FJ a 5,VM d a)
def AcR{a}(b:LR a)(c:FK d a=true):QJ (atV d a)=true:=by have:=(Xd b c).1;unfold QJ atV;simp only;rw[AjB,this];unfold VM;simp
def Ac1{a}(h:Tn d)(b:LR a)(e:FK d a=true):KQ d a=some (atV d a):=by
 have c:a.2.length<=lim:=by have:=b.1;unfold lim;omega
 unfold KQ;rw[ub c (λv=>bW c v),Bj,Akd h b e,Bj];rfl
def Vd(d:List N9)(a:J7)(b:zI):JY:=(JZ (FJ a 5) b,(pjG (VM d a)<|(JZ (FJ a 5) b).map<|CA<|FJ a 5).1)
def bG(A B:zI):∀e∈(JZ A B).map (CA A),0<=e∧e < (A.length:Int):=λe a=>by obtain⟨v,b,rfl⟩:=Aw.1 a;obtain⟨j,f,c,-⟩:=Hs<|Ag.2 (AM.1 b).1;rw[c];omega
def kz(A B:zI):(JZ A B).length<=A.length:=BY _ _
def pV{a}(f:LR a)(g:FK d a=true)(b:zI):QJ (Vd d a b)=true:=by
 have j:=kz (FJ a 5) b;have k:=NJ a 5;have⟨h,p2⟩:=Yw (r:=VM d a) (c:=(JZ (FJ a 5) b).map<|CA<|FJ a 5) (Xd f g).1 (by rw[Ai];omega)<|λe i=>bG _ _ e i
 unfold QJ Vd;simp only;rw[vU,h,p2];simp
def bgS(d:List N9)(b:zI)(acc:Option JY)(a:J7):Option JY:=match acc with
 |none=>none
 |some x=>cond (((JZ (FJ a 5) b).length:Int)==0) (some x)<|Se (some x)<|some<|Vd d a b
def kc(d:List N9)(q:EM)(b:zI):Option JY:=q.2.1.foldl (bgS d b)<|some ([],0,[[]])
def brI(d:List N9)(q:EM)(b:zI)(k:Nat):Option JY:=(q.2.1.take k).foldl (bgS d b)<|some ([],0,[[]])
def Aer{b k}(h:k < q.2.1.length):brI d q b (k+1)=bgS d b (brI d q b k) q.2.1[k]:=by unfold brI;rw[S0 h,C2];rfl
def qL(b:zI):∀l:List J7,l.foldl (bgS d b) none=none
 |[]=>rfl
 |a::l=>by rw[Ca];exact qL b l
def Aaj{b k}(h:brI d q b k=none):kc d q b=none:=by unfold kc;unfold brI at h;rw[<-CI k q.2.1,C2,h,qL]
def vK(f:D7 d q=true){b:zI}:∀k v,k<=q.2.1.length->brI d q b k=some v->QJ v=true
 |0,v,_,e=>by have:v=([],0,[[]]):=(EH e).symm;subst this;rfl
 |k+1,v,g,e=>by
  rw[Aer g]at e;cases c:brI d q b k with
  |none=>rw[c]at e;cases e
  |some x=>
   have h:=vK f k x aG c;rw[c]at e;unfold bgS at e;simp only at e;obtain⟨g1,g2,-⟩:=DG f;have⟨j,l⟩:=g2 _<|Ae g;cases i:((JZ (FJ q.2.1[k] 5) b).length:Int)==0 with
   |true=>rw[i,Ac,Av]at e;exact e ▸ h
   |false=>
    rw[i,Ad]at e;cases a:S8 x (Vd d q.2.1[k] b)with
    |true=>rw[show Se (some x) (some<|Vd d q.2.1[k] b)=none by unfold Se;simp only;rw[a];rfl]at e;cases e
    |false=>rw[show Se (some x) (some<|Vd d q.2.1[k] b)=some (lg x<|Vd d q.2.1[k] b)by unfold Se;simp only;rw[a];rfl,Av]at e;exact e ▸ nq h (pV j l b) a
def brB(d:List N9)(q:EM)(b:zI):JY×Bool:=match kc d q b with
 |some v=>(v,true)
 |none=>(([],(0,[])),false)
def kf{b}:brI d q b q.2.1.length=kc d q b:=by unfold brI kc;rw[AQ]
def Aej(f:Du q=true){b:zI}(a:RZ q.1 b=true):vsB b=true:=by
 obtain⟨g,h,-⟩:=De f;unfold RZ at a;unfold vsB;rw[Ab,At]at a;have c:=a.1;rw[TC b (λ_ e=>Py q.1 e) (λk e=>Iw b k e),BN]at c;rw[At,TC b (λ_ e=> !HH e 0 4) (λk e=>Iw b k e),c.2,Dv];refine FSQ λi hi=>?_
 have:=FW c.1 hi;unfold Py HH at this;rw[wrap_in aG]at this;unfold HH;simp at this⊢;omega
def Aeh(h:Du q=true){b:zI}(a:RZ q.1 b=true):∃B:zN,b=oI B∧B.length<=5∧SmG q B:=by
 have g:=Aej h a;obtain⟨j,l,-⟩:=De h;have i:=l6 g;have c:∀e∈b,0<=e∧e < q.1:=λe f=>by unfold RZ at a;rw[Ab,At,TC b (λ_ e=>Py q.1 e) (λk e=>Iw b k e),BN]at a;have:=Ln a.1.1 f;unfold Py HH at this;rw[wrap_in aG]at this;simp at this;omega
 refine⟨b.map Int.toNat,?_,by rw[Ai];exact i,by rw[Ai];unfold RZ at a;rw[Ab,AN]at a;omega,by rw[Ai];exact i,λv g=>?_⟩
 ·unfold oI;rw[D4];refine(List.map_id b).symm.trans<|Bd λe f=>?_
  have:=c e f;show e=((e.toNat:Nat):Int);omega
 ·obtain⟨e,f,rfl⟩:=Aw.1 g;have:=c e f;omega
def Aky{a:J7}(e:LR a)(f:FK d a=true){b:zI}(g:b.length<=lim):Ra (atV d a) b=some (Vd d a b):=by have k:=NJ a 5;have i:=kz (FJ a 5) b;unfold Ra;rw[show(atV d a).1=FJ a 5 from rfl,Xu uY g,Bj];rw[show(FJ a 5).filter b.contains=JZ (FJ a 5) b from rfl];rw[Kg (a:=JZ (FJ a 5) b) (h:=CA (FJ a 5)) uY (λk c j=>by unfold Rb;simp only;rw[Bq c,Ac,AV c,Bj,show(atV d a).1=FJ a 5 from rfl,R4 uY,Bj,AO (by simp only[Ai,AH,Aj];unfold lim;omega),BA c (by unfold maxLen;omega)]) (λrec y=>by unfold Rb;simp only;rw[Bh];rfl),Bj,show(atV d a).2=VM d a from rfl,AaY (r:=VM d a) (dj (AcR e f)).2.1 (by rw[Ai];unfold lim;omega),Bj];rfl
def Anj(h:Tn d)(r:MA q)(i:Du q=true){b:zI}(u:RZ q.1 b=true)(w:b.length<=lim):OT d q b=some (cond (D7 d q) (brB d q b) (([],(0,[])),false)):=by
 obtain⟨B,rfl,y,z⟩:=Aeh i u;have A:q.2.1.length<=lim:=r.1;unfold OT;rw[wN r i y u,Bj,(AdL i z).1,Au,Ad,pk h r,Bj];cases x:D7 d q with
 |false=>rfl
 |true=>
  obtain⟨g1,g2,-⟩:=DG x;obtain⟨-,-,H,-⟩:=De g1
  have⟨o,e,C⟩:=Fu (B:=HX d q (oI B)) (λst=>∃k:Nat,∃v:JY,st=(v.1,v.2.1,v.2.2,(k:Int))∧k<=q.2.1.length∧brI d q (oI B) k=some v) (λst=>q.2.1.length - st.2.2.2.toNat) (λo=>(o=.inr (([],(0,[])),false)∧kc d q (oI B)=none)∨∃v:JY,o=.inl (v.1,v.2.1,v.2.2)∧kc d q (oI B)=some v) (λst s=>by
   obtain⟨k,v,rfl,n,i⟩:=s;by_cases c:k < q.2.1.length
   ·have⟨p,t⟩:=g2 _ (Ae c);have D:=vK x k v n i;have F:=pV p t<|oI B;have I:=NJ q.2.1[k] 5;have m:(q.2.1[k]).2.length<=lim:=by have:=p.1;unfold lim;omega
    have f:∀j,HX d q (oI B) j (v.1,v.2.1,v.2.2,(k:Int))=cond (((JZ (FJ q.2.1[k] 5)<|oI B).length:Int)==0) (j (v.1,v.2.1,v.2.2,((k+1:Nat):Int))) (cond (S8 v<|Vd d q.2.1[k]<|oI B) (some<|.inr (([],(0,[])),false))<|j ((lg v<|Vd d q.2.1[k]<|oI B).1,(lg v<|Vd d q.2.1[k]<|oI B).2.1,(lg v<|Vd d q.2.1[k]<|oI B).2.2,((k+1:Nat):Int))):=λrec=>by
     unfold HX LD;simp only;rw[Bq c,Ac,AV c,Bj,ub m (λv=>bW m v),Bj,Xu uY w,Bj,BA c (Bk A),show(FJ q.2.1[k] 5).filter (oI B).contains=JZ (FJ q.2.1[k] 5) (oI B)from rfl];cases((JZ (FJ q.2.1[k] 5)<|oI B).length:Int)==0 with
     |true=>rfl
     |false=>simp only[Ad];rw[Ac1 h p t,Bj,Aky p t w,Bj,show Hi (v.1,v.2.1,v.2.2) (Vd d q.2.1[k]<|oI B)=Hi v (Vd d q.2.1[k]<|oI B)from rfl,Akw D F,Bj];cases S8 v (Vd d q.2.1[k]<|oI B)<;>rfl
    have a:=Aer (d:=d) (q:=q) (b:=oI B) c;rw[i]at a;cases l:((JZ (FJ q.2.1[k] 5)<|oI B).length:Int)==0 with
    |true=>right;refine⟨_,⟨k+1,v,rfl,c,by rw[a];unfold bgS;simp only;rw[l];rfl⟩,by simp only[Ax];omega,λrec=>by rw[f,l,Ac]⟩
    |false=>
     cases g:S8 v (Vd d q.2.1[k]<|oI B)with
     |true=>left;refine⟨_,.inl ⟨rfl,Aaj (k:=k+1)<|by rw[a];unfold bgS Se;simp only;rw[l,g];rfl⟩,λrec=>by rw[f,l,g];rfl⟩
     |false=>right;refine⟨_,⟨k+1,lg v<|Vd d q.2.1[k]<|oI B,rfl,c,by rw[a];unfold bgS Se;simp only;rw[l,g];rfl⟩,by simp only[Ax];omega,λrec=>by rw[f,l,g];rfl⟩
   ·left;have n:k=q.2.1.length:=aG;refine⟨_,.inr ⟨v,rfl,by rw[<-kf,<-n];exact i⟩,λrec=>?_⟩;unfold HX;simp only;rw[n,Bh,Ad]) fz (([]:zI),0,([[]]:List zI),0) ⟨0,([],0,[[]]),rfl,BF _,rfl⟩ (by unfold fz;simp only;omega)
  rw[Au,Ad,e,Bj,Ac];unfold brB;rcases C with⟨rfl,G⟩|⟨v,rfl,i⟩
  ·rw[G]
  ·rw[i]
end
abbrev YL:=Int×List zI
def sub_le{r:zI}{lo hi:Int}:(CZ r lo hi).length<=r.length:=by unfold CZ;rw[BH,AH];omega
def AbX{t:YL}{pre:zI}(h:GQ t.2):L6 t pre=CJ t pre:=by
 funext rec y;rw[L6,CJ];cases b:AU t.2 y with
 |none=>rfl
 |some e=>have c:e∈t.2:=B4 (B9 b).2.2;have a:(CZ e 0 (pre.length:Int)).length<=lim:=Bm sub_le<|h.2 e c;rw[Bj,Bj,XM a,jd a]
def AbY{t:YL}{pre:zI}(h:GQ t.2):L7 t pre=CK t pre:=by
 funext rec y;rw[L7,CK];cases b:AU t.2 y with
 |none=>rfl
 |some e=>have c:e∈t.2:=B4 (B9 b).2.2;have a:(CZ e 0 (pre.length:Int)).length<=lim:=Bm sub_le<|h.2 e c;rw[Bj,Bj,XM a,jd a]
def Tq(t:YL)(n:Nat):Prop:=Ml t=true∧(n:Int)<=t.1
def VE{t n}(h:Tq t n):GQ t.2∧t.2.length<=4000∧∀r∈t.2,(r.length:Int)=t.1∧r.length<=5:=by have a:=Mm h.1;exact⟨⟨by have:=a.2.2.1;unfold lim;omega,λx c=>by have:=(a.2.2.2 x c).1;unfold lim;omega⟩,a.2.2.1,λr b=>⟨(a.2.2.2 r b).1,by have:=(a.2.2.2 r b).1;omega⟩⟩
def yG{t pre}(h:Tq t pre.length):∃o,Ay (CJ t pre) fz 0=some o∧∃k:Nat,o=(k:Int)∧k<=t.2.length:=by
 have⟨c,l,g⟩:=VE h;refine Fu (B:=CJ t pre) (λs=>∃k:Nat,s=(k:Int)∧k<=t.2.length) (λs=>t.2.length - s.toNat) (λo=>∃k:Nat,o=(k:Int)∧k<=t.2.length) ?_ fz 0 ⟨0,rfl,aG⟩ (by unfold fz;omega);rintro s ⟨k,rfl,d⟩;rcases Bi k t.2.length with a|i
 ·have m:=g _ (Ae a);have j:(CZ t.2[k] 0 (pre.length:Int)).length<=lim:=Bm sub_le<|c.2 _<|Ae a;have e:∀b,CJ t pre b (k:Int)=cond (decide (DV (CZ t.2[k] 0 (pre.length:Int)) pre < 0)) (b ((k+1:Nat):Int)) (some (k:Int)):=λrec=>by rw[CJ];rw[Bq a,AV a,BA a (Bk c.1),Ac,Bj,AO (by have:=h.2;omega),XM j,Bj]
  cases f:decide (DV (CZ t.2[k] 0 (pre.length:Int)) pre < 0)with
  |true=>exact .inr ⟨((k+1:Nat):Int),⟨k+1,rfl,a⟩,by rw[Ax,Ax];omega,λrec=>by rw[e,f];rfl⟩
  |false=>exact .inl ⟨(k:Int),⟨k,rfl,d⟩,λrec=>by rw[e,f];rfl⟩
 ·refine .inl ⟨(k:Int),⟨k,rfl,d⟩,λrec=>?_⟩;rw[CJ];rw[Ah (aG:¬(k:Int) < (t.2.length:Int))];rfl
def yF{t pre}(h:Tq t pre.length){lo:Nat}(d:lo<=t.2.length):∃o,Ay (CK t pre) fz (lo:Int)=some o∧∃k:Nat,o=(k:Int)∧lo<=k∧k<=t.2.length:=by
 have⟨f,n,j⟩:=VE h;refine Fu (B:=CK t pre) (λs=>∃k:Nat,s=(k:Int)∧lo<=k∧k<=t.2.length) (λs=>t.2.length - s.toNat) (λo=>∃k:Nat,o=(k:Int)∧lo<=k∧k<=t.2.length) ?_ fz (lo:Int) ⟨lo,rfl,A5 _,d⟩ (by unfold fz;omega);rintro s ⟨k,rfl,b,g⟩;rcases Bi k t.2.length with a|l
 ·have p:=j _ (Ae a);have m:(CZ t.2[k] 0 (pre.length:Int)).length<=lim:=Bm sub_le<|f.2 _<|Ae a;have e:∀c,CK t pre c (k:Int)=cond (DV (CZ t.2[k] 0 (pre.length:Int)) pre==0) (c ((k+1:Nat):Int)) (some (k:Int)):=λrec=>by rw[CK];rw[Bq a,AV a,BA a (Bk f.1),Ac,Bj,AO (by have:=h.2;omega),XM m,Bj]
  cases i:(DV (CZ t.2[k] 0 (pre.length:Int)) pre==0)with
  |true=>exact .inr ⟨((k+1:Nat):Int),⟨k+1,rfl,aG,a⟩,by rw[Ax,Ax];omega,λrec=>by rw[e,i];rfl⟩
  |false=>exact .inl ⟨(k:Int),⟨k,rfl,b,g⟩,λrec=>by rw[e,i];rfl⟩
 ·refine .inl ⟨(k:Int),⟨k,rfl,b,g⟩,λrec=>?_⟩;rw[CK];rw[Ah (aG:¬(k:Int) < (t.2.length:Int))];rfl
def lF{t pre}(h:Tq t pre.length):∃lo hi:Nat,lo<=hi∧hi<=t.2.length∧Ay (CJ t pre) fz 0=some (lo:Int)∧Ay (CK t pre) fz (lo:Int)=some (hi:Int)∧Hz t pre=some ((lo:Int),(hi:Int)):=by have⟨d,e,f⟩:=VE h;obtain⟨g,c,lo,rfl,b⟩:=yG h;obtain⟨i,e2,hi,rfl,a⟩:=yF h b;refine⟨lo,hi,a.1,a.2,c,e2,?_⟩;unfold Hz Si XW;rw[Bj,ti d,Bj,Bj,h.1,Au,Ad,Ah (by have:=h.2;omega),Ad,c,Bj,e2,Bj]
def AbZ{t pre}(h:Tq t pre.length){lo hi:Nat}(b:Ay (CJ t pre) fz 0=some (lo:Int))(e2:Ay (CK t pre) fz (lo:Int)=some (hi:Int)):IS t pre=some ((lo:Int),(hi:Int)):=by have⟨a,c,d⟩:=VE h;unfold IS L4 P1;rw[Ah (by have:=h.2;omega),Ad,Bj,fF a,Bj,Bj,h.1,Au,Ad,AbX a,AbY a,b,Bj,e2,Bj]
def pushB(out:zI)(v:Int):Bool:=match out.getLast? with
 |none=>true
 |some x=>x !=v
def Wk(S:List zI)(p:Nat):Nat->zI
 |0=>[]
 |k+1=>Wk S p k++cond (pushB (Wk S p k)<|EL ((S[k]?).getD []) (p:Int)) [EL ((S[k]?).getD []) (p:Int)] []
def dJ(S:List zI)(p:Nat):∀k,(Wk S p k).length<=k
 |0=>by simp[Wk]
 |k+1=>by
  have:=dJ S p k;rw[Wk,An];cases pushB (Wk S p k) (EL ((S[k]?).getD []) (p:Int))
  ·rw[Ad,Bn];omega
  ·rw[Ac,Aj];omega
def ji{out:zI}(h:out.length<=4000)(v:Int){α:Type}(f:Bool->Option α):cond ((out.length:Int)==0) (f true) (Aa (AU out<|wZ<|(out.length:Int) - 1) λe=>f<|e !=v)=f (pushB out v):=by
 by_cases b:out.length=0
 ·have:out=[]:=BG b;subst this;rfl
 ·have a:out.length - 1 < out.length:=aG;have e:((out.length:Int)==0)=false:=by rw[Be];omega
  rw[e,Ad,wrap_in aG,show(out.length:Int) - 1=((out.length - 1:Nat):Int)by omega,AV a,Bj];unfold pushB;rw[List.getLast?_eq_getElem?,Af a]
def Aew{t pre}(h:Tq t pre.length){lo hi:Nat}(j:lo<=hi)(l:hi<=t.2.length)(es:Hz t pre=some ((lo:Int),(hi:Int))):Li t pre=some (if(pre.length:Int) < t.1 then Wk (CZ t.2 (lo:Int) (hi:Int)) pre.length (hi - lo)else []):=by
 have⟨q,s,m⟩:=VE h;by_cases e:(pre.length:Int) < t.1
 ·rw[Az e];have n:(CZ t.2 (lo:Int) (hi:Int)).length=hi - lo:=by unfold CZ;rw[Ax,Ax,BH,AH];omega
  have o:∀k,k < hi - lo->(CZ t.2 (lo:Int) (hi:Int))[k]? =t.2[lo+k]?:=λk d=>by unfold CZ;rw[Ax,Ax,Ej,EE,Az aG]
  have f:∀k,k < hi - lo->∃r,t.2[lo+k]? =some r∧r∈t.2∧AU r (pre.length:Int)=some (EL r (pre.length:Int)):=λk d=>by have a:lo+k < t.2.length:=aG;have u:=m _<|Ae a;exact⟨_,Af a,Ae a,by rw[AV aG,Dz aG]⟩
  unfold Li;rw[es,Bj]
  have:=Cm (body:=EJ t pre ((lo:Int),(hi:Int))) (out:=Wk (CZ t.2 (lo:Int) (hi:Int)) pre.length (hi - lo)) (λk=>(Wk (CZ t.2 (lo:Int) (hi:Int)) pre.length k,((lo+k:Nat):Int))) (hi - lo) (λk d c=>by
   have⟨r,g,v,e2⟩:=f k d;have w:=dJ (CZ t.2 (lo:Int) (hi:Int)) pre.length k
   have p:∀b:Bool,Hy c (Wk (CZ t.2 (lo:Int) (hi:Int)) pre.length k) ((lo+k:Nat):Int) (EL r (pre.length:Int)) b=c (Wk (CZ t.2 (lo:Int) (hi:Int)) pre.length k++cond b [EL r (pre.length:Int)] [],((lo+(k+1):Nat):Int)):=λb=>by
    have i:wZ (((lo+k:Nat):Int)+1)=((lo+(k+1):Nat):Int):=by rw[wrap_in aG];omega
    rw[Hy];cases b with
    |true=>rw[Ac,AO (by simp only[Aj];unfold lim;omega),I1,i];rfl
    |false=>rw[Ad,I1,i,Ad,A7]
   rw[EJ,Wk,o k d,g];rw[Ak (aG:((lo+k:Nat):Int) < (hi:Int)),Ac,Ak e,Ac,PI,g,Bj,e2,Bj,Bz];rw[ji aG (EL r (pre.length:Int)) (λb=>Hy c (Wk (CZ t.2 (lo:Int) (hi:Int)) pre.length k) ((lo+k:Nat):Int) (EL r (pre.length:Int)) b),p]) (λrec=>by
   rw[EJ];rw[Ah (aG:¬((lo+(hi - lo):Nat):Int) < (hi:Int))];rfl) fz (by unfold fz;omega)
  rw[show((([]:zI),(lo:Int)))=(Wk (CZ t.2 (lo:Int) (hi:Int)) pre.length 0,((lo+0:Nat):Int))from rfl,this];rfl
 ·rw[AA e];unfold Li;rw[es,Bj];have:Ay (EJ t pre ((lo:Int),(hi:Int))) fz (([]:zI),(lo:Int))=some []:=Cm (body:=EJ t pre ((lo:Int),(hi:Int))) (λ_=>(([]:zI),(lo:Int))) 0 (λk d=>absurd d aG) (λrec=>by rw[EJ];rw[Ah e];cases decide ((lo:Int) < (hi:Int))<;>rfl) fz (by unfold fz;omega);rw[show(((lo:Int),(hi:Int)):Int×Int).1=(lo:Int)from rfl,this];rfl
def AjO{t pre}(h:Tq t pre.length){lo hi:Nat}(j:lo<=hi)(l:hi<=t.2.length)(m:IS t pre=some ((lo:Int),(hi:Int))):Jd t pre=some (if(pre.length:Int) < t.1 then Wk (CZ t.2 (lo:Int) (hi:Int)) pre.length (hi - lo)else []):=by
 have⟨n,u,o⟩:=VE h;by_cases g:(pre.length:Int) < t.1
 ·rw[Az g];have d:(CZ t.2 (lo:Int) (hi:Int)).length=hi - lo:=by unfold CZ;rw[Ax,Ax,BH,AH];omega
  have p:∀k,k < hi - lo->(CZ t.2 (lo:Int) (hi:Int))[k]? =t.2[lo+k]?:=λk e=>by unfold CZ;rw[Ax,Ax,Ej,EE,Az aG]
  have f:∀k,k < hi - lo->∃r,t.2[lo+k]? =some r∧r∈t.2∧AU r (pre.length:Int)=some (EL r (pre.length:Int)):=λk e=>by have a:lo+k < t.2.length:=aG;have v:=o _<|Ae a;exact⟨_,Af a,Ae a,by rw[AV aG,Dz aG]⟩
  unfold Jd;rw[Ah (aG:¬t.1<=(pre.length:Int)),Ad];unfold L4 P1;rw[Bj,fF n,Bj,Bj,h.1,Au,Ad,m,Bj,AO (by simp only;omega)]
  have:=Cm (body:=Hj t pre ((lo:Int),(hi:Int))) (out:=Wk (CZ t.2 (lo:Int) (hi:Int)) pre.length (hi - lo)) (λk=>(Wk (CZ t.2 (lo:Int) (hi:Int)) pre.length k,(k:Int))) (hi - lo) (λk e c=>by
   have⟨r,q,w,e2⟩:=f k e;have x:=dJ (CZ t.2 (lo:Int) (hi:Int)) pre.length k
   have s:∀b:Bool,Hk c pre (Wk (CZ t.2 (lo:Int) (hi:Int)) pre.length k) (k:Int) r b=c (Wk (CZ t.2 (lo:Int) (hi:Int)) pre.length k++cond b [EL r (pre.length:Int)] [],((k+1:Nat):Int)):=λb=>by
    have i:wZ ((k:Int)+1)=((k+1:Nat):Int):=by rw[wrap_in aG];omega
    rw[Hk];cases b with
    |true=>rw[Ac,e2,Bj,AO (by simp only[Aj];unfold lim;omega),IR,i];rfl
    |false=>rw[Ad,IR,i,Ad,A7]
   rw[Hj,Wk];rw[d,Ak (aG:(k:Int) < ((hi - lo:Nat):Int)),Ac,PI,p k e,q,Bj,e2,Bz];simp only[Bj];rw[ji aG (EL r (pre.length:Int)) (λb=>Hk c pre (Wk (CZ t.2 (lo:Int) (hi:Int)) pre.length k) (k:Int) r b),s]) (λrec=>by
   rw[Hj];rw[d,Bh];rfl) fz (by unfold fz;omega)
  rw[show((([]:zI),(0:Int)))=(Wk (CZ t.2 (lo:Int) (hi:Int)) pre.length 0,((0:Nat):Int))from rfl,this];rfl
 ·rw[AA g];unfold Jd;rw[Ak (aG:t.1<=(pre.length:Int))];rfl
def iU(t:YL)(pre:zI):zI:=(Li t pre).getD []
def Anm{t pre}(h:Tq t pre.length):Jd t pre=some (iU t pre):=by have⟨lo,hi,a,b,c,e2,e⟩:=lF h;unfold iU;rw[Aew h a b e,AjO h a b (AbZ h c e2)];rfl
def ixK(q:EM)(v:Int)(k:Nat):zN:=(List.range k).filter λi=>HJ q.2.1 i λa=>a.2.contains v
def AkI(q:EM)(v:Int)(k:Nat):ixK q v (k+1)=ixK q v k++cond (HJ q.2.1 k λa=>a.2.contains v) [k] []:=by unfold ixK;rw[CO,CQ,DD,DM];cases(HJ q.2.1 k λa=>a.2.contains v)<;>rfl
def sh(q:EM)(v:Int)(k:Nat):(ixK q v k).length<=k:=by unfold ixK;exact Bm (BY _ _) nF
def xf{q v i}(h:i∈ixK q v q.2.1.length):∃hi:i < q.2.1.length,(q.2.1[i]).2.contains v=true:=by unfold ixK at h;have a:=AM.1 h;have b:=Ao.1 a.1;exact⟨b,by have:=a.2;rw[B5 b]at this;exact this⟩
def fe(a:J7)(o:zI)(k:Nat):Nat:=((o.take k).filter a.2.contains).length
def AcX(a:J7){o:zI}{k:Nat}(b:k < o.length):fe a o (k+1)=fe a o k+cond (a.2.contains o[k]) 1 0:=by unfold fe;rw[ft _ b,An];cases a.2.contains o[k]<;>rfl
def AeB(a:J7)(o:zI)(k:Nat):fe a o k<=k:=by unfold fe;exact Bm (BY _ _) (by simp;omega)
structure TriesOk (T:List YL) (q:EM) (o:zI):Prop where
 sm:MA q
 qv:Du q=true
 ov:Sf q o=true
 len:T.length=q.2.1.length
 rel:∀(i:Nat) (hi:i < q.2.1.length),Ml (T[i]'(by rw[len];exact hi))=true∧(T[i]'(by rw[len];exact hi)).1=((FJ q.2.1[i] 5).length:Int)
def el{T q o}(h:TriesOk T q o){i k:Nat}(hi:i < q.2.1.length)(e:k<=o.length):Tq (T[i]'(by rw[h.len];exact hi)) (fe q.2.1[i] o k):=by
 have a:=h.rel i hi;refine⟨a.1,?_⟩;rw[a.2];have b:=K7 h.ov;have f:=LA h.qv;have:((o.take k).filter q.2.1[i].2.contains).length<=(FJ q.2.1[i] 5).length:=XI ((b.2.1.sublist<|List.take_sublist _ _).sublist DY) λv d=>by have c:=AM.1 d;have g:=b.2.2.1 v<|Dd c.1;exact J8.2 ⟨aG,c.2⟩
 unfold fe;omega
def Afp{q}(c:Du q=true){v:Int}(h:0<=v)(j:v < q.1):(ixK q v q.2.1.length).length≠0:=by
 unfold Du at c;simp only[Ab,At]at c;have d:=c.2.2.2.2;have b:=BU.1 d v.toNat<|Ao.2 aG;rw[show((v.toNat:Nat):Int)=v by omega]at b;simp only[F3,B8]at b;unfold JI at b;have⟨a,f,g⟩:=BR.1 b;obtain⟨i,hi,rfl⟩:=AE.1 f;have:i∈ixK q v q.2.1.length:=by unfold ixK;exact AM.2 ⟨Ao.2 hi,by rw[B5 hi];exact g⟩
 intro e;rw[BG e]at this;cases this
def aZ{d q o}(f:MA q)(g:D7 d q=true)(c:Sf q o=true):TriesOk (q.2.1.map<|dh d o) q o:=by have a:=iG g;refine⟨f,a.1,c,by rw[Ai],λi hi=>?_⟩;have b:=Ae hi;have⟨h,e⟩:=jU a.1 c b<|a.2.2 _ b;rw[Bl];refine⟨(nQ e).1,?_⟩;show((eY q.2.1[i] o).length:Int)=_;exact e.2.1
end Go.Proofs.YtdmpnamllcigdaaGreatDoor
