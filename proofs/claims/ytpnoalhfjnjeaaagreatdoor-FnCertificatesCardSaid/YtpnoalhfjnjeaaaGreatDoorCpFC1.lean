/- Systems of linear equations: what both solve. No conditions. -/
import Derived.Test.YtpnoalhfjnjeaaaGreatDoorGeFC1
import Derived.Test.YtpnoalhfjnjeaaaGreatDoorAbFC1
open Go.RowKit
set_option linter.all false
namespace Go.Proofs.YtpnoalhfjnjeaaaGreatDoor
abbrev Mx:=List<|List Rt
def atR(l:List Rt)(k:Nat):Rt:=l.getD k (0,0)
def EW(m:Mx)(k:Nat):List Rt:=m.getD k []
def rowOk(n:Nat)(r:List Rt):Bool:=(r.length==n)&&r.all I1
def aa(a:Mx)(b:List Rt):Bool:=(a.length==b.length)&&(a.all (rowOk b.length)&&b.all I1)
def elF(f:Rt):List Rt->List Rt->Option (List Rt)
 |x::xs,y::a=>cond ((MY f y).2&&(VI x (MY f y).1).2) ((elF f xs a).map ((VI x (MY f y).1).1:: ·)) none
 |_,_=>some []
def bO(p:Nat)(row piv:List Rt):Option (List Rt):=cond (Uo (atR row p)<|atR piv p).2 ((elF (Uo (atR row p)<|atR piv p).1 (row.drop p)<|piv.drop p).map (row.take p++ ·)) none
def il(p:Nat)(m:Mx)(i:Nat):Option Mx:=cond (i==p) (some m)<|cond ((atR (EW m i) p).1==0) (some m)<|(bO p (EW m i)<|EW m p).map (m.set i ·)
def UF(p:Nat):Nat->Nat->Mx->Option Mx
 |0,_,m=>some m
 |j+1,i,m=>match il p m i with
  |none=>none
  |some m'=>UF p j (i+1) m'
def Td(m:Mx)(p:Nat):Nat->Nat->Nat
 |0,k=>k
 |j+1,k=>cond ((atR (EW m k) p).1==0) (Td m p j<|k+1) k
def Sx(n:Nat):Nat->Nat->Mx->Option Mx
 |0,_,m=>some m
 |j+1,p,m=>cond (Td m p (n - p) p==n) none (match UF p n 0 (swL m p (Td m p (n - p) p))with
  |none=>none
  |some m'=>Sx n j (p+1) m')
def WU(n:Nat)(m:Mx)(p:Nat):Sum Rt (List Rt×Bool):=cond (Uo (atR (EW m p) n)<|atR (EW m p) p).2 (.inl (Uo (atR (EW m p) n)<|atR (EW m p) p).1)<|.inr ([],false)
def Y9(a:Mx)(b:List Rt):Mx:=(List.range' 0 b.length).map λk=>EW a k++[atR b k]
def VV(a:Mx)(b:List Rt):List Rt×Bool:=cond (decide (6 < (b.length:Int))) ([],false) (cond (aa a b) (match Sx b.length b.length 0 (Y9 a b)with
 |none=>([],false)
 |some m=>match QH (WU b.length m) b.length 0 with
  |.inl x=>(x,true)
  |.inr o=>o) ([],false))
def yC(n d:Int):(rNew n d).1.1.natAbs<=1000000000:=by
 have a:∀n d:Int,(mg n d).1.1.natAbs<=1000000000:=λn d=>by
  unfold mg;cases h:I1 (n.tdiv (Nat.gcd n.natAbs d.natAbs:Nat),d.tdiv (Nat.gcd n.natAbs d.natAbs:Nat))with
  |false=>simp
  |true=>exact(Kb h).2.2.1
 unfold rNew;cases d==0 with
 |true=>simp
 |false=>
  cases FX n (-4000000000000000000) 4000000000000000000 with
  |false=>simp
  |true=>
   cases FX d (-4000000000000000000) 4000000000000000000 with
   |false=>simp
   |true=>
    cases decide (d < 0)with
    |true=>exact a _ _
    |false=>exact a _ _
def yB(a b:Rt): -9223372036854775808<=(MY a b).1.1∧(MY a b).1.1<=9223372036854775807:=by
 have h:(MY a b).1.1.natAbs<=1000000000:=by
  unfold MY;cases I1 a with
  |false=>simp
  |true=>
   cases I1 b with
   |false=>simp
   |true=>exact yC _ _
 omega
def de{α:Type}(f:α->Bool):∀l:List α,BL l (λ_ e=>f e)=l.any f
 |[]=>rfl
 |x::l=>by rw[bM,de f l,Ft]
def W0{α:Type}(l:List α)(f:α->Bool):((List.range l.length).any λk=>I0 l k f)=l.any f:=de f l
def not_any{α:Type}(l:List α)(f:α->Bool):(l.any λx=> !f x)= !l.all f:=by rw[List.not_all_eq_any_not]
def OZ{l k}(h:k < l.length):l[k]=atR l k:=by unfold atR;rw[A1,Ah h];rfl
def ID{m k}(h:k < m.length):m[k]=EW m k:=by unfold EW;rw[A1,Ah h];rfl
def Fw{l}{k:Nat}(h:k < l.length):AF l (k:Int)=some (atR l k):=by rw[AG h,OZ h]
def Je{m}{k:Nat}(h:k < m.length):AF m (k:Int)=some (EW m k):=by rw[AG h,ID h]
def Ah4{a}{i:Nat}(hi:i < a.length)(c:(EW a i).length<=lim):Aq (UJ a ((EW a i).length:Int) (i:Int)) fz 0=some (cond ((EW a i).all I1) (.inl ())<|.inr false):=by
 rw[H1 (n:=(EW a i).length) (λk=>I0 (EW a i) k λr=> !I1 r) false c (λk b d=>by
  show cond (decide ((k:Int) < ((EW a i).length:Int))) _ _=_;rw[Bc b,Ab,Je hi];simp only[G];rw[AG b];simp only[G];rw[ST];simp only[G];rw[Bm b (Ba c),Cx b]) (λrec=>by
  show cond (decide (((EW a i).length:Int) < ((EW a i).length:Int))) _ _=_;rw[A2,Aa])]
 rw[W0,not_any];cases(EW a i).all I1<;>rfl
def yU{a}{m:Nat}(c:a.length<=lim)(e:m<=lim)(n:Int):JD a n (m:Int)=some (a.all (rowOk m)&&((a.length:Int)==n)):=by
 unfold JD
 rw[H1 (n:=a.length) (λk=>I0 a k λr=> !rowOk m r) false c (λk b f=>by
  show cond (decide ((k:Int) < (a.length:Int))) _ _=_;rw[Bc b,Ab,Je b,Cx b,ID b];simp only[G];unfold rowOk;by_cases d:(EW a k).length=m
  ·subst d;rw[Ah4 b e,Bm b (Ba c),Dq,Aa,BP,AK];cases(EW a k).all I1<;>rfl
  ·rw[show(((EW a k).length:Int)!=(m:Int))=true from by rw[CY];omega,Ab,show((EW a k).length==m)=false from by simpa using d];rfl) (λrec=>by
  show cond (decide ((a.length:Int) < (a.length:Int))) _ _=_;rw[A2,Aa])]
 rw[W0,not_any];cases a.all (rowOk m)<;>rfl
def aV{r}(h:r.length<=lim):Hv r=some (r.all I1):=by
 unfold Hv
 rw[H1 (n:=r.length) (λk=>I0 r k λe=> !I1 e) false h (λk a b=>by
  show cond (decide ((k:Int) < (r.length:Int))) _ _=_;rw[Bc a,Ab,AG a];simp only[G];rw[gq];simp only[G];rw[Bm a (Ba h),Cx a]) (λrec=>by
  show cond (decide ((r.length:Int) < (r.length:Int))) _ _=_;rw[A2,Aa])]
 rw[W0,not_any];cases r.all I1<;>rfl
def cQ{row:List Rt}{k:Nat}(h:k < row.length)(y:Rt):(row.set k y).drop (k+1)=row.drop (k+1)∧(row.set k y).take (k+1)=row.take k++[y]:=by
 constructor
 ·rw[List.drop_set_of_lt (ME k)]
 ·rw[List.take_set,A7 h,List.set_append_right _ _ (by rw[Av];omega),Av,Ce (HP h),QL];rfl
def iE{m i j}(r:List Rt)(h:i < m.length):EW (m.set i r) j=if i=j then r else EW m j:=by
 unfold EW;rw[A1,GU,A1];split
 ·first|rfl|(rename_i e;subst e;rw[At h];rfl)
 ·rfl
def vN{p i:Nat}{d:Rt×Bool}{piv:List Rt}:∀(j k:Nat) (m:Mx) (f:Nat),k+j=(EW m i).length->j < f->(EW m i).length<=lim->i < m.length->p < m.length->i≠p->EW m p=piv->piv.length=(EW m i).length->
  (∀t,elF d.1 ((EW m i).drop k) (piv.drop k)=some t->Aq (Fu (p:Int) (i:Int) d) f (m,true,(k:Int))=some (m.set i<|(EW m i).take k++t,true))∧
  (elF d.1 ((EW m i).drop k) (piv.drop k)=none->∃g,Aq (Fu (p:Int) (i:Int) d) f (m,true,(k:Int))=some (g,false))
 |0,k,m,f,hk,hf,hl,hi,hp,hne,hv,hvl=>by
  obtain⟨f,rfl⟩:∃g,f=g+1:=⟨f - 1,by omega⟩;obtain rfl:k=(EW m i).length:=by omega
  rw[CJ,<-hvl,CJ];refine⟨λt ht=>?_,λh=>by cases h⟩;cases ht;rw[A6];show G (AF m (i:Int)) _=_;rw[Je hi];simp only[G];rw[hvl,A2,Aa,Bl,AN];congr 2;rw[<-ID hi,List.set_getElem_self]
 |j+1,k,m,f,hk,hf,hl,hi,hp,hne,hv,hvl=>by
  obtain⟨f,rfl⟩:∃g,f=g+1:=⟨f - 1,by omega⟩;have hk1:k < (EW m i).length:=by omega
  have hk2:k < piv.length:=by omega
  have hm1:∀y,EW (m.set i<|(EW m i).set k y) i=(EW m i).set k y:=λy=>by rw[iE _ hi,At rfl]
  have hmp:∀y,EW (m.set i<|(EW m i).set k y) p=piv:=λy=>by rw[iE _ hi,As hne,hv]
  rw[AS hk1,AS hk2,elF,OZ hk1,OZ hk2]
  have hstep:Aq (Fu (p:Int) (i:Int) d) (f+1) (m,true,(k:Int))=Aq (Fu (p:Int) (i:Int) d) f (m.set i<|(EW m i).set k (VI (atR (EW m i) k) (MY d.1<|atR piv k).1).1,(MY d.1<|atR piv k).2&&(VI (atR (EW m i) k) (MY d.1<|atR piv k).1).2,((k+1:Nat):Int)):=by
   rw[A6];show G (AF m (i:Int)) _=_;rw[Je hi];simp only[G];rw[Bc hk1,Ab,Ab,Je hp,hv];simp only[G];rw[Fw hk2];simp only[G];rw[vM];simp only[G];rw[Fw hk1];simp only[G];rw[Aef];simp only[G];have hJ:∀x,M4 (Aq (Fu (p:Int) (i:Int) d) f) (i:Int) m (k:Int) (VI (atR (EW m i) k) (MY d.1<|atR piv k).1) x=Aq (Fu (p:Int) (i:Int) d) f (m.set i<|(EW m i).set k (VI (atR (EW m i) k) (MY d.1<|atR piv k).1).1,x,((k+1:Nat):Int)):=λx=>by unfold M4;rw[Aw (by omega),Je hi];simp only[G];rw[Aw (by omega),Fw hk1,Bm hk1 (Ba hl)];simp only[G,CL,AB]
   cases(MY d.1<|atR piv k).2 with
   |true=>rw[Ab,hJ,AK]
   |false=>rw[Aa,hJ,Hm]
  rw[hstep];cases hb:(MY d.1<|atR piv k).2&&(VI (atR (EW m i) k) (MY d.1<|atR piv k).1).2 with
  |true=>rw[Ab];have ih:=vN (p:=p) (i:=i) (d:=d) (piv:=piv) j (k+1) (m.set i<|(EW m i).set k (VI (atR (EW m i) k) (MY d.1<|atR piv k).1).1) f (by rw[hm1,Bd];omega) (by omega) (by rw[hm1,Bd];exact hl) (by rw[Bd];exact hi) (by rw[Bd];exact hp) hne (hmp _) (by rw[hm1,Bd];exact hvl);rw[hm1,(cQ hk1 _).1,(cQ hk1 _).2]at ih;refine⟨λt ht=>?_,λhn=>ih.2<|by simpa using hn⟩;obtain⟨t',h1,h2⟩:=BY.1 ht;rw[ih.1 t' h1,<-h2,Bg,List.set_set];rfl
  |false=>rw[Aa];refine⟨λt ht=>(by cases ht),λ_=>?_⟩;obtain⟨f',rfl⟩:∃g,f=g+1:=⟨f - 1,by omega⟩;refine⟨m.set i<|(EW m i).set k (VI (atR (EW m i) k) (MY d.1<|atR piv k).1).1,?_⟩;rw[A6];show G (AF (m.set i<|(EW m i).set k (VI (atR (EW m i) k) (MY d.1<|atR piv k).1).1) (i:Int)) _=_;rw[Je (by rw[Bd];exact hi)];simp only[G];cases decide (((k+1:Nat):Int) < ((EW (m.set i<|(EW m i).set k (VI (atR (EW m i) k) (MY d.1<|atR piv k).1).1) i).length:Int))<;>rfl
def zK{d:Rt×Bool}{piv:List Rt}:∀(j k:Nat) (row:List Rt) (f:Nat),k+j=row.length->j < f->row.length<=lim->piv.length=row.length->
  (∀t,elF d.1 (row.drop k) (piv.drop k)=some t->Aq (H5 piv d) f (row,(k:Int))=some (.inl<|row.take k++t))∧
  (elF d.1 (row.drop k) (piv.drop k)=none->∃g,Aq (H5 piv d) f (row,(k:Int))=some (.inr (false,g)))
 |0,k,row,f,hk,hf,hl,hvl=>by
  obtain⟨f,rfl⟩:∃g,f=g+1:=⟨f - 1,by omega⟩;obtain rfl:k=row.length:=by omega
  rw[CJ,<-hvl,CJ];refine⟨λt ht=>?_,λh=>by cases h⟩;cases ht;rw[A6];show cond (decide ((piv.length:Int) < (row.length:Int))) _ _=_;rw[hvl,A2,Aa,Bl,AN]
 |j+1,k,row,f,hk,hf,hl,hvl=>by
  obtain⟨f,rfl⟩:∃g,f=g+1:=⟨f - 1,by omega⟩;have hk1:k < row.length:=by omega
  have hk2:k < piv.length:=by omega
  rw[AS hk1,AS hk2,elF,OZ hk1,OZ hk2,A6];have hB:H5 piv d (Aq (H5 piv d) f) (row,(k:Int))=cond (!(MY d.1<|atR piv k).2) (some<|.inr (false,row,piv)) (cond (!(VI (atR row k) (MY d.1<|atR piv k).1).2) (some<|.inr (false,row,piv))<|Aq (H5 piv d) f (row.set k (VI (atR row k) (MY d.1<|atR piv k).1).1,((k+1:Nat):Int))):=by show cond (decide ((k:Int) < (row.length:Int))) _ _=_;rw[Bc hk1,Ab,Fw hk2];simp only[G];rw[tY];simp only[G];rw[Fw hk1];simp only[G];rw[Abe (yB _ _)];simp only[G];rw[Aw (by omega),Bm hk1 (Ba hl)];simp only[CL,AB]
  rw[hB];cases(MY d.1<|atR piv k).2 with
  |false=>exact⟨λt ht=>(by cases ht),λ_=>⟨_,rfl⟩⟩
  |true=>
   rw[AK,Ai,Aa];cases(VI (atR row k) (MY d.1<|atR piv k).1).2 with
   |false=>exact⟨λt ht=>(by cases ht),λ_=>⟨_,rfl⟩⟩
   |true=>rw[Ab,Ai,Aa];have ih:=zK (d:=d) (piv:=piv) j (k+1) (row.set k (VI (atR row k) (MY d.1<|atR piv k).1).1) f (by rw[Bd];omega) (by omega) (by rw[Bd];exact hl) (by rw[Bd];exact hvl);rw[(cQ hk1 _).1,(cQ hk1 _).2]at ih;refine⟨λt ht=>?_,λhn=>ih.2<|by simpa using hn⟩;obtain⟨t',h1,h2⟩:=BY.1 ht;rw[ih.1 t' h1,<-h2,Bg];rfl
def Aa8{row piv}{p:Nat}(hl:row.length<=lim)(hvl:piv.length=row.length)(hp:p < row.length):(∀t,bO p row piv=some t->NY row piv (p:Int)=some (true,t,piv))∧(bO p row piv=none->∃g,NY row piv (p:Int)=some (false,g)):=by
 unfold NY bO;rw[Fw hp,Fw (by omega:p < piv.length)];simp only[G];rw[tX];simp only[G];cases(Uo (atR row p)<|atR piv p).2 with
 |false=>exact⟨λt ht=>(by cases ht),λ_=>⟨_,rfl⟩⟩
 |true=>
  rw[Ab,Ai,Aa];have h:=zK (d:=Uo (atR row p)<|atR piv p) (piv:=piv) (row.length - p) p row fz (by omega) (by have:=EC hl;omega) hl hvl;refine⟨λt ht=>?_,λhn=>?_⟩
  ·have⟨t',h1,h2⟩:=BY.1 ht;rw[h.1 t' h1,<-h2]
  ·have⟨g,hg⟩:=h.2 (by simpa using hn);exact⟨g,by rw[hg]⟩
def U3(n L:Nat)(m:Mx):Prop:=m.length=n∧∀i,i < n->(EW m i).length=L
def U3.set{n L i m r}(h:U3 n L m)(hi:i < n)(a:r.length=L):U3 n L (m.set i r):=
 ⟨by rw[Bd];exact h.1,λj b=>by
  rw[iE _ (by rw[h.1];exact hi)];split
  ·exact a
  ·exact h.2 j b⟩
def iY{f}:∀{xs a t:List Rt},elF f xs a=some t->xs.length=a.length->t.length=xs.length
 |[],_,t,h,_=>by cases h;rfl
 |x::xs,[],t,h,b=>by simp at b
 |x::xs,y::a,t,h,b=>by
  rw[elF]at h;cases c:(MY f y).2&&(VI x (MY f y).1).2 with
  |false=>rw[c]at h;cases h
  |true=>rw[c,Ab]at h;have⟨g,d,e⟩:=BY.1 h;rw[<-e,Ar,Ar,iY d (by simpa using b)]
def ge{p row piv t}(h:bO p row piv=some t)(b:row.length=piv.length)(e:p<=row.length):t.length=row.length:=by
 unfold bO at h;cases a:(Uo (atR row p)<|atR piv p).2 with
 |false=>rw[a]at h;cases h
 |true=>rw[a,Ab]at h;have⟨f,c,d⟩:=BY.1 h;have:=iY c (by rw[Be,Be,b]);rw[<-d,Ak,Av,this,Be];omega
def wc{n L p i m m'}(h:U3 n L m)(a:il p m i=some m')(hi:i < n)(d:p < n)(e:p < L):U3 n L m':=by
 unfold il at a;cases b:i==p with
 |true=>rw[b]at a;cases a;exact h
 |false=>
  rw[b,Aa]at a;cases c:(atR (EW m i) p).1==0 with
  |true=>rw[c]at a;cases a;exact h
  |false=>rw[c,Aa]at a;have⟨t,f,g⟩:=BY.1 a;rw[<-g];exact h.set hi (by rw[ge f (by rw[h.2 i hi,h.2 p d]) (by rw[h.2 i hi];omega),h.2 i hi])
def ZX{n L p}(d:p < n)(b:p < L):∀{j i:Nat}{m m':Mx},i+j=n->U3 n L m->UF p j i m=some m'->U3 n L m'
 |0,_,_,_,_,h,a=>by cases a;exact h
 |j+1,i,m,m',e,h,a=>by
  rw[UF]at a;cases c:il p m i with
  |none=>rw[c]at a;cases a
  |some f=>rw[c]at a;exact ZX d b (by omega) (wc h c (by omega) d b) a
def vO{p i f:Nat}{d m}{k:Nat}(hi:i < m.length):Aq (Fu (p:Int) (i:Int) d) (f+1) (m,false,(k:Int))=some (m,false):=by rw[A6];show G (AF m (i:Int)) _=_;rw[Je hi];simp only[G];cases decide ((k:Int) < ((EW m i).length:Int))<;>rfl
def jY{n L p}(hp:p < n)(hpl:p < L)(hn:n<=lim)(hL:L<=lim):∀(j i:Nat) (m:Mx) (f:Nat),i+j=n->j < f->U3 n L m->
  (∀m',UF p j i m=some m'->Aq (EZ (p:Int)) f (m,(i:Int))=some (.inl m'))∧(UF p j i m=none->∃g,Aq (EZ (p:Int)) f (m,(i:Int))=some (.inr (false,g)))
 |0,i,m,f,hj,hf,h=>by
  obtain⟨f,rfl⟩:∃g,f=g+1:=⟨f - 1,by omega⟩;obtain rfl:i=n:=by omega
  refine⟨λm' hm=>?_,λhm=>by cases hm⟩;cases hm;rw[A6];show cond (decide ((i:Int) < (m.length:Int))) _ _=_;rw[h.1,A2];rfl
 |j+1,i,m,f,hj,hf,h=>by
  obtain⟨f,rfl⟩:∃g,f=g+1:=⟨f - 1,by omega⟩;have hi:i < n:=by omega
  have hiL:=h.2 i hi;have hJ:∀x:Mx,F0 (Aq (EZ (p:Int)) f) (i:Int) x=Aq (EZ (p:Int)) f (x,((i+1:Nat):Int)):=λx=>by unfold F0;rw[Bm hi (Ba hn)]
  have hq:EZ (p:Int) (Aq (EZ (p:Int)) f) (m,(i:Int))=cond (((i:Int))==(p:Int)) (F0 (Aq (EZ (p:Int)) f) (i:Int) m) (cond ((atR (EW m i) p).1==0) (F0 (Aq (EZ (p:Int)) f) (i:Int) m) (G (Aq (Fu (p:Int) (i:Int) (Uo (atR (EW m i) p) (atR (EW m p) p))) fz (m,(Uo (atR (EW m i) p) (atR (EW m p) p)).2,(p:Int))) λo3=>(match o3 with
    |(z25,z26)=>(cond (!z26) (some (.inr (false,z25))) (F0 (Aq (EZ (p:Int)) f) (i:Int) z25))))):=by
   show cond (decide ((i:Int) < (m.length:Int))) _ _=_;rw[h.1,Bc hi,Ab,Je (by rw[h.1];exact hi),Je (by rw[h.1];exact hp)];simp only[G];rw[Fw (by rw[hiL];exact hpl),Fw (by rw[h.2 p hp];exact hpl)];simp only[G];rw[vL]
  rw[A6,UF];unfold il;have hc:((i:Int)==(p:Int))=(i==p):=by rw[Ck,BK,BK];omega
  cases h1:i==p with
  |true=>rw[Ab];rw[hq,hc,h1,Ab,hJ];exact jY hp hpl hn hL j (i+1) m f (by omega) (by omega) h
  |false=>
   rw[Aa];rw[hq,hc,h1,Aa];cases h2:(atR (EW m i) p).1==0 with
   |true=>rw[Ab,Ab,hJ];exact jY hp hpl hn hL j (i+1) m f (by omega) (by omega) h
   |false=>
    rw[Aa,Aa];unfold bO;cases hd:(Uo (atR (EW m i) p)<|atR (EW m p) p).2 with
    |false=>rw[Aa,show fz=fz - 1+1 from by unfold fz;rfl,vO (by rw[h.1];exact hi)];exact⟨λm' hm=>(by cases hm),λ_=>⟨_,rfl⟩⟩
    |true=>
     rw[Ab];have hr:=vN (p:=p) (i:=i) (d:=Uo (atR (EW m i) p)<|atR (EW m p) p) (piv:=EW m p) (L - p) p m fz (by rw[hiL];omega) (by have:=EC hL;omega) (by rw[hiL];exact hL) (by rw[h.1];exact hi) (by rw[h.1];exact hp) (by simpa using h1) rfl (by rw[h.2 p hp,hiL]);cases he:elF (Uo (atR (EW m i) p)<|atR (EW m p) p).1 ((EW m i).drop p) ((EW m p).drop p)with
     |none=>have⟨g,hg⟩:=hr.2 he;rw[hg];exact⟨λm' hm=>(by cases hm),λ_=>⟨g,rfl⟩⟩
     |some t=>rw[hr.1 t he];have ho:U3 n L (m.set i ((EW m i).take p++t)):=h.set hi (by rw[Ak,Av,iY he (by rw[Be,Be,hiL,h.2 p hp]),Be,hiL];omega);have ih:=jY hp hpl hn hL j (i+1) _ f (by omega) (by omega) ho;simp only[G,Ai,Aa,B3,hJ];exact ih
def Vr{m}{k:Nat}(h:k < m.length):AF (C8 0 m) (k:Int)=some (k,EW m k):=by rw[G8,XN,Ah h,ID h,B3,Cw]
def eo{α:Type}{m m':List α}(h:m'.length=m.length):gH m'.length (Ls m) []=true∧Jt m' (Ls m)=m':=by
 have e:Ls m=Ls m':=by rw[RW,RW,h]
 rw[e];exact⟨ya m',va m'⟩
def jn{b:List Rt}{L p:Nat}(d:p < b.length)(c:p < L)(q:b.length<=lim)(r:L<=lim):∀(j i:Nat) (m:Mx) (f:Nat),i+j=b.length->j < f->U3 b.length L m->
  Aq (OS b (p:Int)) f (m,(i:Int))=some (match UF p j i m with|some m'=>.inl m'|none=>.inr ([],false))
 |0,i,m,f,w,x,h=>by
  obtain⟨f,rfl⟩:∃g,f=g+1:=⟨f - 1,by omega⟩;obtain rfl:i=b.length:=by omega
  rw[A6];show cond (decide ((b.length:Int) < (b.length:Int))) _ _=_;rw[A2];rfl
 |j+1,i,m,f,w,x,h=>by
  obtain⟨f,rfl⟩:∃g,f=g+1:=⟨f - 1,by omega⟩;have hi:i < b.length:=by omega
  have s:i < m.length:=by rw[h.1];exact hi
  have k:p < m.length:=by rw[h.1];exact d
  have a:=h.2 i hi;obtain⟨l,n⟩:=eo (m:=m) (m':=m) rfl;rw[A6,UF];show cond (decide ((i:Int) < (b.length:Int))) _ _=_;rw[Bc hi,Ab,Bm hi (Ba q)];have y:((i:Int)!=(p:Int))= !(i==p):=by rw[Ck,CY,AY,BC];omega
  rw[y];unfold il;cases z:i==p with
  |true=>rw[Ai,Aa,Aw l,n,Ab];exact jn d c q r j (i+1) m f (by omega) (by omega) h
  |false=>
   rw[BT,Ab,Aa,Vr s,Vr k];simp only[G];rw[Fw (by rw[a];exact c)];simp only[G];rw[show((atR (EW m i) p).1 !=0)= !((atR (EW m i) p).1==0)from rfl];cases F:(atR (EW m i) p).1==0 with
   |true=>rw[Ai,Aa,Aw l,n,Ab];exact jn d c q r j (i+1) m f (by omega) (by omega) h
   |false=>
    have o:i≠p:=by simpa using z
    rw[BT,Ab,Aa,Aw (by
     cases A:Nat.beq i p with
     |false=>rfl
     |true=>exact absurd (CV A) o)]
    have v:=Aa8 (p:=p) (row:=EW m i) (piv:=EW m p) (by rw[a];exact r) (by rw[h.2 p d,a]) (by rw[a];exact c);cases u:bO p (EW m i) (EW m p)with
    |none=>obtain⟨g,B⟩:=v.2 u;rw[B];simp only[G];rw[Aw (eo<|by unfold CL;simp).1];rfl
    |some t=>
     rw[v.1 t u];simp only[G];have e:CL (CL m (i:Int) t) (p:Int) (EW m p)=m.set i t:=by simp only[CL,AB];rw[List.set_comm _ _ o,<-ID k,List.set_getElem_self]
     rw[e];obtain⟨C,D⟩:=eo (m:=m) (m':=m.set i t) (by simp);rw[Aw C,D,Ai,Aa,B3];exact jn d c q r j (i+1) _ f (by omega) (by omega)<|h.set hi<|by rw[ge u (by rw[a,h.2 p d]) (by rw[a];omega),a]
def jS(m:Mx)(p:Nat):∀(j k:Nat),k<=Td m p j k∧Td m p j k<=k+j
 |0,k=>⟨Bb _,Bb _⟩
 |j+1,k=>by
  rw[Td];cases(atR (EW m k) p).1==0 with
  |true=>rw[Ab];have:=jS m p j<|k+1;omega
  |false=>rw[Aa];omega
def Aae{b}{L p:Nat}{m}(h:U3 b.length L m)(c:p < L)(d:b.length<=lim):∀(j k f:Nat),k+j=b.length->j < f->Aq (OW b m (p:Int)) f (k:Int)=some ((Td m p j k:Nat):Int)
 |0,k,f,e,i=>by
  obtain⟨f,rfl⟩:∃g,f=g+1:=⟨f - 1,by omega⟩;obtain rfl:k=b.length:=by omega
  rw[A6];show cond (decide ((b.length:Int) < (b.length:Int))) _ _=_;rw[A2];rfl
 |j+1,k,f,e,i=>by
  obtain⟨f,rfl⟩:∃g,f=g+1:=⟨f - 1,by omega⟩;have a:k < b.length:=by omega
  rw[A6,Td];show cond (decide ((k:Int) < (b.length:Int))) _ _=_;rw[Bc a,Ab,Je (by rw[h.1];exact a)];simp only[G];rw[Fw (by rw[h.2 k a];exact c)];simp only[G];cases(atR (EW m k) p).1==0 with
  |true=>rw[Ab,Ab,Bm a (Ba d)];exact Aae h c d j (k+1) f (by omega) (by omega)
  |false=>rfl
def zH{b}{L p:Nat}{m}(h:U3 b.length L m)(c:p < L)(d:b.length<=lim):∀(j k f:Nat),k+j=b.length->j < f->Aq (OR b m (p:Int)) f (k:Int)=some ((Td m p j k:Nat):Int)
 |0,k,f,e,i=>by
  obtain⟨f,rfl⟩:∃g,f=g+1:=⟨f - 1,by omega⟩;obtain rfl:k=b.length:=by omega
  rw[A6];show cond (decide ((b.length:Int) < (b.length:Int))) _ _=_;rw[A2];rfl
 |j+1,k,f,e,i=>by
  obtain⟨f,rfl⟩:∃g,f=g+1:=⟨f - 1,by omega⟩;have a:k < b.length:=by omega
  rw[A6,Td];show cond (decide ((k:Int) < (b.length:Int))) _ _=_;rw[Bc a,Ab,Je (by rw[h.1];exact a)];simp only[G];rw[Fw (by rw[h.2 k a];exact c)];simp only[G];cases(atR (EW m k) p).1==0 with
  |true=>rw[Ab,Ab,Bm a (Ba d)];exact zH h c d j (k+1) f (by omega) (by omega)
  |false=>rfl
def oc{n L p k m}(h:U3 n L m)(a:p < n)(b:k < n):U3 n L (swL m p k):=by
 unfold swL;have e:∀i,m.getD i default=EW m i:=λ_=>rfl
 rw[e,e];exact(h.set b<|h.2 p a).set a<|h.2 k b
def Zu{m:Mx}{k:Nat}(h:k < m.length):AF (Ls m) (k:Int)=some k:=by rw[RW,G8,FR h]
def aU{n}:∀{j p:Nat}{m m':Mx},p+j=n->U3 n (n+1) m->Sx n j p m=some m'->U3 n (n+1) m'
 |0,_,_,_,_,h,a=>by cases a;exact h
 |j+1,p,m,m',e,h,a=>by
  rw[Sx]at a;have f:=jS m p (n - p) p;cases b:Td m p (n - p) p==n with
  |true=>rw[b]at a;cases a
  |false=>
   rw[b,Aa]at a;have d:Td m p (n - p) p≠n:=by simpa using b
   cases c:UF p n 0 (swL m p<|Td m p (n - p) p)with
   |none=>rw[c]at a;cases a
   |some g=>rw[c]at a;exact aU (by omega) (ZX (by omega) (by omega) (by omega) (oc h (by omega)<|by omega) c) a
def qh{b}(hn:b.length<=6):∀(j p:Nat) (m:Mx) (f:Nat),p+j=b.length->j < f->U3 b.length (b.length+1) m->
  Aq (OV b) f (m,(p:Int))=some (match Sx b.length j p m with|some m'=>.inl m'|none=>.inr ([],false))
 |0,p,m,f,hj,hf,h=>by
  obtain⟨f,rfl⟩:∃g,f=g+1:=⟨f - 1,by omega⟩;obtain rfl:p=b.length:=by omega
  rw[A6];show cond (decide ((b.length:Int) < (b.length:Int))) _ _=_;rw[A2];rfl
 |j+1,p,m,f,hj,hf,h=>by
  obtain⟨f,rfl⟩:∃g,f=g+1:=⟨f - 1,by omega⟩;have hp:p < b.length:=by omega
  have hl:b.length<=lim:=by unfold lim;omega
  have hb:=jS m p (b.length - p) p;rw[A6,Sx];show cond (decide ((p:Int) < (b.length:Int))) _ _=_;rw[Bc hp,Ab,Aae h (by omega) hl (b.length - p) p fz (by omega) (by have:=EC hl;omega)];simp only[G];rw[show(((Td m p (b.length - p) p:Nat):Int)==(b.length:Int))=(Td m p (b.length - p) p==b.length)from by rw[Ck,BK,BK];omega];cases hk:Td m p (b.length - p) p==b.length with
  |true=>rfl
  |false=>
   have hk':Td m p (b.length - p) p≠b.length:=by simpa using hk
   have hkb:Td m p (b.length - p) p < m.length:=by rw[h.1];omega
   have hpm:p < m.length:=by rw[h.1];exact hp
   rw[Aa,Aa,Zu hkb,Zu hpm];simp only[G];rw[Aw (by rw[RW,DG];omega),Aw (by rw[RW];simp[CL];omega)];have e0:CL (Ls m) ((Td m p (b.length - p) p:Nat):Int) p=(List.range m.length).set (Td m p (b.length - p) p) p:=by rw[RW];simp only[CL,AB]
   have e1:CL (CL (Ls m) ((Td m p (b.length - p) p:Nat):Int) p) (p:Int) (Td m p (b.length - p) p)=(List.range m.length).map (sw p<|Td m p (b.length - p) p):=by rw[e0,<-zc hpm hkb];simp only[CL,AB]
   rw[e1,e0];have e2:AF ((List.range m.length).set (Td m p (b.length - p) p) p) (p:Int)=some (((List.range m.length).set (Td m p (b.length - p) p) p)[p]'(by simp;exact hpm)):=AG _;rw[e2];simp only[G];rw[Aw (Aam hpm hkb),wd hpm hkb,Aw (by rw[zb];omega)];have ho:=oc h hp (show Td m p (b.length - p) p < b.length by omega);have hs:=jY (L:=b.length+1) hp (by omega) hl (by unfold lim;omega) b.length 0 (swL m p<|Td m p (b.length - p) p) fz (by omega) (EC hl) ho
   have hss:(∀m',UF p b.length 0 (swL m p<|Td m p (b.length - p) p)=some m'->QY (swL m p<|Td m p (b.length - p) p) (p:Int)=some (true,m'))∧(UF p b.length 0 (swL m p<|Td m p (b.length - p) p)=none->∃g,QY (swL m p<|Td m p (b.length - p) p) (p:Int)=some (false,g)):=by
    unfold QY;refine⟨λm' hm=>?_,λhm=>?_⟩
    ·have:=hs.1 m' hm;rw[show((0:Nat):Int)=0 from rfl]at this;rw[this];rfl
    ·have⟨g,hg⟩:=hs.2 hm;rw[show((0:Nat):Int)=0 from rfl]at hg;exact⟨g,by rw[hg];rfl⟩
   cases hr:UF p b.length 0 (swL m p<|Td m p (b.length - p) p)with
   |none=>have⟨g,hg⟩:=hss.2 hr;rw[hg];rfl
   |some m1=>rw[hss.1 m1 hr];simp only[G,Ai,Aa];rw[Bm hp (Ba hl)];exact qh hn j (p+1) m1 f (by omega) (by omega)<|ZX hp (by omega) (by omega) ho hr
def pl{b}(n:b.length<=6):∀(j p:Nat) (m:Mx) (f:Nat),p+j=b.length->j < f->U3 b.length (b.length+1) m->
  Aq (OQ b) f (m,(p:Int))=some (match Sx b.length j p m with|some m'=>.inl m'|none=>.inr ([],false))
 |0,p,m,f,o,q,h=>by
  obtain⟨f,rfl⟩:∃g,f=g+1:=⟨f - 1,by omega⟩;obtain rfl:p=b.length:=by omega
  rw[A6];show cond (decide ((b.length:Int) < (b.length:Int))) _ _=_;rw[A2];rfl
 |j+1,p,m,f,o,q,h=>by
  obtain⟨f,rfl⟩:∃g,f=g+1:=⟨f - 1,by omega⟩;have d:p < b.length:=by omega
  have e:b.length<=lim:=by unfold lim;omega
  have w:=jS m p (b.length - p) p;rw[A6,Sx];show cond (decide ((p:Int) < (b.length:Int))) _ _=_;rw[Bc d,Ab,zH h (by omega) e (b.length - p) p fz (by omega) (by have:=EC e;omega)];simp only[G];rw[show(((Td m p (b.length - p) p:Nat):Int)==(b.length:Int))=(Td m p (b.length - p) p==b.length)from by rw[Ck,BK,BK];omega];cases r:Td m p (b.length - p) p==b.length with
  |true=>rfl
  |false=>
   have s:Td m p (b.length - p) p≠b.length:=by simpa using r
   have a:Td m p (b.length - p) p < m.length:=by rw[h.1];omega
   have c:p < m.length:=by rw[h.1];exact d
   rw[Aa,Aa,Aw (by rw[RW,DG];omega),Zu a,Zu c];simp only[G];have i:CL (Ls m) (p:Int) (Td m p (b.length - p) p)=(List.range m.length).set p (Td m p (b.length - p) p):=by rw[RW];simp only[CL,AB]
   have t:CL (CL (Ls m) (p:Int)<|Td m p (b.length - p) p) ((Td m p (b.length - p) p:Nat):Int) p=(List.range m.length).map (sw p<|Td m p (b.length - p) p):=by rw[i,<-we c a];simp only[CL,AB]
   rw[t,i];have e2:AF ((List.range m.length).set p<|Td m p (b.length - p) p) ((Td m p (b.length - p) p:Nat):Int)=some (((List.range m.length).set p<|Td m p (b.length - p) p)[Td m p (b.length - p) p]'(by simp;exact a)):=AG _;rw[e2];simp only[G];rw[Aw (Aam c a),wd c a];have k:=oc h d (show Td m p (b.length - p) p < b.length by omega);have l:=jn (b:=b) (L:=b.length+1) d (by omega) e (by unfold lim;omega) b.length 0 (swL m p<|Td m p (b.length - p) p) fz (by omega) (EC e) k;rw[show((0:Nat):Int)=0 from rfl]at l;rw[l];cases u:UF p b.length 0 (swL m p<|Td m p (b.length - p) p)with
   |none=>rfl
   |some v=>simp only[G];rw[Bm d (Ba e)];exact pl n j (p+1) v f (by omega) (by omega)<|ZX d (by omega) (by omega) k u
def d5{α O:Type}{g:Nat->Sum α O}{h:Nat->α}:∀(j k:Nat),(∀i,k<=i->i < k+j->g i=.inl (h i))->QH g j k=.inl ((List.range' k j).map h)
 |0,_,_=>rfl
 |j+1,k,a=>by rw[QH,a k (Bb _) (by omega),d5 j (k+1) (λi b c=>a i (by omega)<|by omega),Dm];rfl
def lJ{α O:Type}{g:Nat->Sum α O}{o:O}{i:Nat}(hi:g i=.inr o):∀(j k:Nat),(∀i,k<=i->i < k+j->(∃x,g i=.inl x)∨g i=.inr o)->k<=i->i < k+j->QH g j k=.inr o
 |0,k,_,b,c=>by omega
 |j+1,k,d,b,c=>by
  rw[QH];rcases d k (Bb _) (by omega)with⟨x,a⟩|a
  ·rw[a];by_cases e:k=i
   ·subst e;rw[hi]at a;cases a
   ·simp only;rw[lJ hi j (k+1) (λi b c=>d i (by omega)<|by omega) (by omega) (by omega)]
  ·rw[a]
def gE{α O:Type}(c:Nat->Bool)(h:Nat->α)(o:O)(n:Nat):QH (λk=>cond (c k) (.inl<|h k)<|.inr o) n 0=cond ((List.range n).all c) (.inl<|(List.range' 0 n).map h) (.inr o):=by
 cases b:(List.range n).all c with
 |true=>rw[Ab];exact d5 n 0 λi _ hi=>by rw[Ap.1 b i (AQ.2<|by omega)];rfl
 |false=>
  rw[Aa];obtain⟨i,hi,a⟩:=List.all_eq_false.1 b;rw[AQ]at hi;have a:c i=false:=by simpa using a
  refine lJ (i:=i) (by rw[a];rfl) n 0 (λi _ _=>?_) (by omega) (by omega);cases c i with
  |true=>exact .inl ⟨_,rfl⟩
  |false=>exact .inr rfl
def Ae7(b:List Rt):(List.range b.length).all (λk=>I1<|atR b k)=b.all I1:=by
 rw[Ck,Ap,Ap];constructor
 ·intro h x a;obtain⟨i,hi,rfl⟩:=Es a;rw[OZ hi];exact h i<|AQ.2 hi
 ·intro h i hi;rw[AQ]at hi;rw[<-OZ hi];exact h _<|Aj hi
def Ae6(a:Mx)(f:List Rt->Bool):(List.range a.length).all (λk=>f<|EW a k)=a.all f:=by
 rw[Ck,Ap,Ap];constructor
 ·intro h x b;obtain⟨i,hi,rfl⟩:=Es b;rw[ID hi];exact h i<|AQ.2 hi
 ·intro h i hi;rw[AQ]at hi;rw[<-ID hi];exact h _<|Aj hi
def sB{a b}(h:aa a b=true):U3 b.length (b.length+1) (Y9 a b):=by
 unfold aa at h;simp only[Ad,BK]at h;refine⟨by unfold Y9;simp,λi hi=>?_⟩;have d:i < a.length:=by rw[h.1];exact hi
 have c:=Ap.1 h.2.1 _<|Aj d;unfold rowOk at c;rw[Ad,BK,ID d]at c;unfold Y9;have:EW ((List.range' 0 b.length).map λk=>EW a k++[atR b k]) i=EW a i++[atR b i]:=by rw[<-ID (by simp;exact hi),BO];simp
 rw[this,Ak,c.1];rfl
def Ah3{b m}(h:U3 b.length (b.length+1) m)(d:b.length<=lim):Aq (OX b m) fz ([],0)=some (QH (WU b.length m) b.length 0):=by
 rw[show(([]:List Rt),(0:Int))=(λ(s:List Rt) (k:Nat)=>(s,(k:Int))) [] 0 from rfl,
  E7 (n:=b.length) (O:=List Rt×Bool) (λs k=>(s,(k:Int))) (λk s=>s.length=k) (λk s=>ko s (WU b.length m k)) id d (λrec s k a hi=>?_) (λrec s hi=>?_) (λk s f a hi c=>?_) [] rfl]
 ·rw[T3];cases QH (WU b.length m) b.length 0<;>rfl
 ·show cond (decide ((s:Int) < (b.length:Int))) _ _=_;rw[Bc a,Ab,Je (by rw[h.1];exact a)];simp only[G];rw[Fw (by rw[h.2 s a];omega),Fw (by rw[h.2 s a];omega)];simp only[G];rw[vL];simp only[G];unfold WU;cases(Uo (atR (EW m s) b.length)<|atR (EW m s) s).2 with
  |false=>rfl
  |true=>rw[Ai,Aa,Aw (by rw[hi,Af];unfold lim at d⊢;omega),Bm a (Ba d)];rfl
 ·show cond (decide ((b.length:Int) < (b.length:Int))) _ _=_;rw[A2];rfl
 ·unfold WU at c;cases e:(Uo (atR (EW m k) b.length)<|atR (EW m k) k).2 with
  |false=>rw[e]at c;cases c
  |true=>rw[e]at c;cases c;rw[Ak,hi];rfl
def AfR{b m}(h:U3 b.length (b.length+1) m)(d:b.length<=lim):Aq (OT b m) fz ([],0)=some (QH (WU b.length m) b.length 0):=by
 rw[show(([]:List Rt),(0:Int))=(λ(s:List Rt) (k:Nat)=>(s,(k:Int))) [] 0 from rfl,
  E7 (n:=b.length) (O:=List Rt×Bool) (λs k=>(s,(k:Int))) (λk s=>s.length=k) (λk s=>ko s (WU b.length m k)) id d (λrec s k a hi=>?_) (λrec s hi=>?_) (λk s f a hi c=>?_) [] rfl]
 ·rw[T3];cases QH (WU b.length m) b.length 0<;>rfl
 ·show cond (decide ((s:Int) < (b.length:Int))) _ _=_;rw[Bc a,Ab,Je (by rw[h.1];exact a)];simp only[G];rw[Fw (by rw[h.2 s a];omega),Fw (by rw[h.2 s a];omega)];simp only[G];rw[tX];simp only[G];unfold WU;cases(Uo (atR (EW m s) b.length)<|atR (EW m s) s).2 with
  |false=>rfl
  |true=>rw[Ai,Aa,Aw (by rw[hi,Af];unfold lim at d⊢;omega),Bm a (Ba d)];rfl
 ·show cond (decide ((b.length:Int) < (b.length:Int))) _ _=_;rw[A2];rfl
 ·unfold WU at c;cases e:(Uo (atR (EW m k) b.length)<|atR (EW m k) k).2 with
  |false=>rw[e]at c;cases c
  |true=>rw[e]at c;cases c;rw[Ak,hi];rfl
def AhR{a b}(l:b.length<=6)(i:a.length=b.length)(j:a.all (rowOk b.length)=true):Aq (OU a b) fz ([],0)=some (cond (b.all I1) (.inl<|Y9 a b)<|.inr ([],false)):=by
 have g:b.length<=lim:=by unfold lim;omega
 rw[show(([]:Mx),(0:Int))=(λ(s:Mx) (k:Nat)=>(s,(k:Int))) [] 0 from rfl,
  E7 (n:=b.length) (O:=List Rt×Bool) (λs k=>(s,(k:Int))) (λk s=>s.length=k) (λk s=>ko s (cond (I1 (atR b k)) (.inl (EW a k++[atR b k])) (.inr ([],false)):Sum (List Rt) (List Rt×Bool))) id g (λrec s k e hi=>?_) (λrec s hi=>?_) (λk s m e hi f=>?_) [] rfl]
 ·rw[T3,gE,Ae7];unfold Y9;cases b.all I1<;>rfl
 ·have d:s < a.length:=by rw[i];exact e
  have c:=Ap.1 j _<|Aj d;unfold rowOk at c;rw[Ad,BK,ID d]at c;show cond (decide ((s:Int) < (b.length:Int))) _ _=_;rw[Bc e,Ab,Fw e];simp only[G];rw[ST];simp only[G];cases I1 (atR b s)with
  |false=>rfl
  |true=>rw[Ai,Aa,Je d];simp only[G];rw[Aw (by rw[c.1];simp;unfold lim;omega),Aw (by rw[Bn,c.1,Af];unfold lim;omega),Aw (by rw[hi,Af];unfold lim;omega),Bm e (Ba g),Bn];rfl
 ·show cond (decide ((b.length:Int) < (b.length:Int))) _ _=_;rw[A2];rfl
 ·cases h:I1 (atR b k)with
  |false=>rw[h]at f;cases f
  |true=>rw[h]at f;cases f;rw[Ak,hi];rfl
def AfF{a b}(j:b.length<=6)(e:a.length=b.length):Aq (OP a b) fz ([],0)=some (cond (a.all<|rowOk b.length) (.inl<|Y9 a b)<|.inr ([],false)):=by
 have h:b.length<=lim:=by unfold lim;omega
 rw[show(([]:Mx),(0:Int))=(λ(s:Mx) (k:Nat)=>(s,(k:Int))) [] 0 from rfl,
  E7 (n:=b.length) (O:=List Rt×Bool) (λs k=>(s,(k:Int))) (λk s=>s.length=k) (λk s=>ko s (cond (rowOk b.length (EW a k)) (.inl (EW a k++[atR b k])) (.inr ([],false)):Sum (List Rt) (List Rt×Bool))) id h (λrec s k f hi=>?_) (λrec s hi=>?_) (λk s l f hi g=>?_) [] rfl]
 ·rw[T3,gE,<-e,Ae6,e];unfold Y9;cases a.all (rowOk b.length)<;>rfl
 ·have d:s < a.length:=by rw[e];exact f
  show cond (decide ((s:Int) < (a.length:Int))) _ _=_;rw[Bc d,Ab,Je d];simp only[G];unfold rowOk;by_cases c:(EW a s).length=b.length
  ·rw[c,Dq,Aa,BP,AK,aV (by rw[c];exact h)];simp only[G];cases(EW a s).all I1 with
   |false=>rfl
   |true=>rw[Ai,Aa];unfold Jl;rw[Aw (by rw[c];simp;unfold lim;omega),Bn];simp only[G];rw[Fw f];simp only[G];rw[Aw (by rw[c,Af];unfold lim;omega),Aw (by rw[hi,Af];unfold lim;omega),Bm f (Ba h)];rfl
  ·rw[show(((EW a s).length:Int)!=(b.length:Int))=true from by rw[CY];omega,Ab,show((EW a s).length==b.length)=false from by simpa using c];rfl
 ·show cond (decide ((b.length:Int) < (a.length:Int))) _ _=_;rw[e,A2];rfl
 ·cases i:rowOk b.length (EW a k)with
  |false=>rw[i]at g;cases g
  |true=>rw[i]at g;cases g;rw[Ak,hi];rfl
def Ah2{a b}(i:a.length<=lim)(d:b.length<=lim):IZ a b=some (VV a b):=by
 unfold IZ VV;cases j:decide (6 < (b.length:Int))with
 |true=>rfl
 |false=>
  have e:b.length<=6:=by have:=HQ j;omega
  rw[Aa,Aa,yU i d];simp only[G];unfold aa;by_cases c:a.length=b.length
  ·rw[c,BP,BP,AK,CE];cases f:a.all (rowOk b.length)with
   |false=>rfl
   |true=>
    rw[Ai,Aa,AhR e c f,AK];simp only[G];cases k:b.all I1 with
    |false=>rfl
    |true=>
     rw[Ab,Ab];have g:=sB (a:=a) (b:=b) (by unfold aa;rw[c,BP,f,k];rfl);have h:=qh e b.length 0 (Y9 a b) fz (by omega) (EC d) g;rw[show((0:Nat):Int)=0 from rfl]at h;simp only[G];rw[h];cases l:Sx b.length b.length 0 (Y9 a b)with
     |none=>rfl
     |some m=>simp only[G];rw[Ah3 (aU (by omega) g l) d];simp only[G];cases QH (WU b.length m) b.length 0<;>rfl
  ·rw[show((a.length:Int)==(b.length:Int))=false from by rw[BC];omega,D5,show(a.length==b.length)=false from by simpa using c];rfl
def AfQ{a b}(d:b.length<=lim):IK a b=some (VV a b):=by
 unfold IK VV;cases h:decide (6 < (b.length:Int))with
 |true=>rfl
 |false=>
  have e:b.length<=6:=by have:=HQ h;omega
  rw[Aa,Aa];unfold aa;by_cases c:a.length=b.length
  ·rw[c,Dq,BP,AK,Aa,aV d];simp only[G];cases i:b.all I1 with
   |false=>rw[D5];rfl
   |true=>
    rw[Ai,Aa,AfF e c,CE];simp only[G];cases j:a.all (rowOk b.length)with
    |false=>rfl
    |true=>
     rw[Ab,Ab];have f:=sB (a:=a) (b:=b) (by unfold aa;rw[c,BP,j,i];rfl);have g:=pl e b.length 0 (Y9 a b) fz (by omega) (EC d) f;rw[show((0:Nat):Int)=0 from rfl]at g;simp only[G];rw[g];cases k:Sx b.length b.length 0 (Y9 a b)with
     |none=>rfl
     |some m=>simp only[G];rw[AfR (aU (by omega) f k) d];simp only[G];cases QH (WU b.length m) b.length 0<;>rfl
  ·rw[show((a.length:Int)!=(b.length:Int))=true from by rw[CY];omega,show(a.length==b.length)=false from by simpa using c];rfl
def ZM{α O:Type}{P:O->Prop}{g:Nat->Sum α O}(h:∀k o,g k=.inr o->P o):∀{j k:Nat}{o:O},QH g j k=.inr o->P o
 |0,_,_,e=>by cases e
 |j+1,k,o,e=>by
  rw[QH]at e;cases a:g k with
  |inr c=>rw[a]at e;cases e;exact h k _ a
  |inl x=>
   rw[a]at e;cases b:QH g j (k+1)with
   |inl l=>simp only[b]at e;cases e
   |inr c=>simp only[b]at e;cases e;exact ZM h b
def qx{a b x}(h:VV a b=(x,true)):x.length=b.length:=by
 unfold VV at h;cases e:decide (6 < (b.length:Int))with
 |true=>rw[e]at h;cases h
 |false=>
  rw[e,Aa]at h;cases f:aa a b with
  |false=>rw[f]at h;cases h
  |true=>
   rw[f,Ab]at h;cases i:Sx b.length b.length 0 (Y9 a b)with
   |none=>rw[i]at h;cases h
   |some m=>
    rw[i]at h;cases d:QH (WU b.length m) b.length 0 with
    |inl y=>simp only[d]at h;cases h;exact ZN d
    |inr o=>
     simp only[d]at h;exfalso
     have:=ZM (P:=λo=>o.2=false) (g:=WU b.length m) (λk o c=>by
      unfold WU at c;cases j:(Uo (atR (EW m k) b.length)<|atR (EW m k) k).2 with
      |false=>rw[j]at c;cases c;rfl
      |true=>rw[j]at c;cases c) d
     rw[h]at this;cases this
abbrev LP:=Mx×List Rt×List Rt
def ti:Rt×Bool:=((0,0),false)
def mT(a b:List Rt)(k:Nat)(x:Rt):Sum Rt (Rt×Bool):=cond (MY (atR a k)<|atR b k).2 (cond (WT x (MY (atR a k)<|atR b k).1).2 (.inl (WT x (MY (atR a k)<|atR b k).1).1)<|.inr ti)<|.inr ti
def V2(a b:List Rt):Rt×Bool:=cond ((a.length:Int)!=(b.length:Int)) ti (match SI (mT a b) a.length 0 (0,1)with
 |.inl x=>(x,true)
 |.inr o=>o)
def AhU{a b}(h:a.length<=lim):PF a b=some (V2 a b):=by
 unfold PF V2;cases e:(a.length:Int)!=(b.length:Int)with
 |true=>rfl
 |false=>
  have f:a.length=b.length:=by have:=DW.1 e;omega
  rw[Aa,Aa]
  have g:=E7 (B:=T7 a b) (n:=a.length) (λ(s:Rt) k=>(s.1,s.2,(k:Int))) (λ_ _=>True) (mT a b) (λo=>match o with|.inl x=>.inl (x.1,x.2)|.inr o=>.inr o) h (λrec k s c _=>by
   show cond (decide ((k:Int) < (a.length:Int))) _ _=_;rw[Bc c,Ab,Fw c,Fw (by rw[<-f];exact c)];simp only[G];rw[vM];simp only[G];unfold mT;cases(MY (atR a k)<|atR b k).2 with
   |false=>rfl
   |true=>
    rw[Ai,Aa,nX];simp only[G];rw[Bm c (Ba h)];cases d:(WT s (MY (atR a k)<|atR b k).1).2 with
    |false=>simp only[d,Ab,Aa,BT];rfl
    |true=>simp only[d,Ab,Aa,Ai]) (λrec s _=>by
   show cond (decide ((a.length:Int) < (a.length:Int))) _ _=_;rw[A2];rfl) (λ_ _ _ _ _ _=>trivial) (0,1) trivial
  rw[show((0:Int),(1:Int),(0:Int))=(((0,1):Rt).1,((0,1):Rt).2,((0:Nat):Int))from rfl,g];simp only[G];cases SI (mT a b) a.length 0 (0,1)<;>rfl
def AfK{a b}(h:a.length<=lim):Ps a b=some (V2 a b):=by
 unfold Ps V2;cases e:(a.length:Int)!=(b.length:Int)with
 |true=>rfl
 |false=>
  have f:a.length=b.length:=by have:=DW.1 e;omega
  rw[Aa,Aa]
  have g:=E7 (B:=TI a b) (n:=a.length) (λ(s:Rt) k=>(s.1,s.2,(k:Int))) (λ_ _=>True) (mT a b) (λo=>match o with|.inl x=>.inl (x.1,x.2)|.inr o=>.inr o) h (λrec k s c _=>by
   show cond (decide ((k:Int) < (a.length:Int))) _ _=_;rw[Bc c,Ab,Fw c,Fw (by rw[<-f];exact c)];simp only[G];rw[tY];simp only[G];rw[jm];simp only[G];unfold mT;rw[Bm c (Ba h)];cases(MY (atR a k)<|atR b k).2 with
   |false=>rfl
   |true=>
    cases d:(WT s (MY (atR a k)<|atR b k).1).2 with
    |false=>simp only[d,Ab,Aa,BT,Ai];rfl
    |true=>simp only[d,Ab,Aa,Ai]) (λrec s _=>by
   show cond (decide ((a.length:Int) < (a.length:Int))) _ _=_;rw[A2];rfl) (λ_ _ _ _ _ _=>trivial) (0,1) trivial
  rw[show((0:Int),(1:Int),(0:Int))=(((0,1):Rt).1,((0,1):Rt).2,((0:Nat):Int))from rfl,g];simp only[G];cases SI (mT a b) a.length 0 (0,1)<;>rfl
def mvG(a:Mx)(x:List Rt)(k:Nat):Sum Rt (List Rt×Bool):=cond (V2 (EW a k) x).2 (.inl (V2 (EW a k) x).1)<|.inr ([],false)
def ZO(a:Mx)(x:List Rt):List Rt×Bool:=match QH (mvG a x) a.length 0 with
 |.inl l=>(l,true)
 |.inr o=>o
def AdI(a:Mx)(x:List Rt){k:Nat}{o:List Rt×Bool}(h:mvG a x k=.inr o):o=([],false):=by
 unfold mvG at h;cases b:(V2 (EW a k) x).2 with
 |true=>rw[b]at h;cases h
 |false=>rw[b]at h;cases h;rfl
def pK(a:Mx)(x:List Rt):(ZO a x).1.length<=a.length∧((ZO a x).2=true->(ZO a x).1.length=a.length)∧((ZO a x).2=false->(ZO a x).1=[]):=by
 unfold ZO;cases h:QH (mvG a x) a.length 0 with
 |inl l=>exact⟨Nat.le_of_eq<|ZN h,λ_=>ZN h,λh=>by cases h⟩
 |inr o=>have:=ZM (P:=λo=>o=([],false)) (λk o b=>AdI a x b) h;subst this;exact⟨Dc _,(λh=>by cases h),λ_=>rfl⟩
def Ajf{a x}(h:a.length<=lim)(f:∀k,k < a.length->(EW a k).length<=lim):Hz a x=some (ZO a x):=by
 unfold Hz ZO
 have d:=E7 (B:=NK a x) (n:=a.length) (O:=List Rt×Bool) (λ(s:List Rt) k=>(s,(k:Int))) (λk s=>s.length=k) (λk s=>ko s (mvG a x k)) id h (λrec k s b hi=>by
  show cond (decide ((k:Int) < (a.length:Int))) _ _=_;rw[Bc b,Ab,Je b];simp only[G];rw[AhU (f k b)];simp only[G];unfold mvG;cases(V2 (EW a k) x).2 with
  |false=>rfl
  |true=>rw[Ai,Aa,Aw (by rw[hi,Af];unfold lim at h⊢;omega),Bm b (Ba h)];rfl) (λrec s hi=>by
  show cond (decide ((a.length:Int) < (a.length:Int))) _ _=_;rw[A2];rfl) (λk s g b hi c=>by
  unfold mvG at c;cases e:(V2 (EW a k) x).2 with
  |false=>rw[e]at c;cases c
  |true=>rw[e]at c;cases c;rw[Ak,hi];rfl) [] rfl
 rw[show((0:Nat):Int)=0 from rfl]at d;rw[d,T3];cases QH (mvG a x) a.length 0<;>rfl
def AiS{a x}(h:a.length<=lim)(f:∀k,k < a.length->(EW a k).length<=lim):Hu a x=some (ZO a x):=by
 unfold Hu ZO
 have d:=E7 (B:=NB a x) (n:=a.length) (O:=List Rt×Bool) (λ(s:List Rt) k=>(s,(k:Int))) (λk s=>s.length=k) (λk s=>ko s (mvG a x k)) id h (λrec k s b hi=>by
  show cond (decide ((k:Int) < (a.length:Int))) _ _=_;rw[Bc b,Ab,Je b];simp only[G];rw[AfK (f k b)];simp only[G];unfold mvG;cases(V2 (EW a k) x).2 with
  |false=>rfl
  |true=>rw[Ai,Aa,Aw (by rw[hi,Af];unfold lim at h⊢;omega),Bm b (Ba h)];rfl) (λrec s hi=>by
  show cond (decide ((a.length:Int) < (a.length:Int))) _ _=_;rw[A2];rfl) (λk s g b hi c=>by
  unfold mvG at c;cases e:(V2 (EW a k) x).2 with
  |false=>rw[e]at c;cases c
  |true=>rw[e]at c;cases c;rw[Ak,hi];rfl) [] rfl
 rw[show((0:Nat):Int)=0 from rfl]at d;rw[d,T3];cases QH (mvG a x) a.length 0<;>rfl
def U1(p:LP):Bool:=FX (p.2.2.length:Int) 1 5&&(FX (p.2.1.length:Int) 1 5&&((p.1.length==p.2.1.length)&&(p.1.all (rowOk p.2.2.length)&&(p.2.1.all I1&&p.2.2.all I1))))
def fN(p:LP):Prop:=p.1.length<=lim∧p.2.1.length<=lim∧p.2.2.length<=lim
def one_row(n:Nat)(r:List Rt):[r].all (rowOk n)=rowOk n r:=by simp
def AhY{p}(h:fN p):FM p=some (U1 p):=by
 unfold FM U1;rw[Jv];simp only[G];cases FX (p.2.2.length:Int) 1 5 with
 |false=>rfl
 |true=>
  rw[Ab,Jv,AK];simp only[G];cases FX (p.2.1.length:Int) 1 5 with
  |false=>rfl
  |true=>
   rw[Ab,yU h.1 h.2.2,AK];simp only[G];rw[show(((p.1.length:Int))==(p.2.1.length:Int))=(p.1.length==p.2.1.length)from by rw[Ck,BK,BK];omega];cases p.1.length==p.2.1.length with
   |false=>rw[D5];rfl
   |true=>
    rw[CE,AK];cases p.1.all (rowOk p.2.2.length)with
    |false=>rfl
    |true=>
     rw[Ab,yU (by simp[lim]) h.2.2,one_row,AK];simp only[G];unfold rowOk;rw[BP,AK,show((([p.2.2].length:Nat):Int)==1)=true from rfl,CE];cases p.2.2.all I1 with
     |false=>rw[D5];rfl
     |true=>rw[Ab,yU (by simp[lim]) h.2.1,one_row,CE];simp only[G];unfold rowOk DA;rw[BP,AK,show((([p.2.1].length:Nat):Int)==1)=true from rfl,CE]
def AfO{p}(h:fN p):FD p=some (U1 p):=by
 unfold FD U1;rw[FC];simp only[G];cases FX (p.2.2.length:Int) 1 5 with
 |false=>rfl
 |true=>
  rw[Ai,Aa,FC,AK];simp only[G];cases FX (p.2.1.length:Int) 1 5 with
  |false=>rfl
  |true=>
   rw[Ai,Aa,AK];by_cases c:p.1.length=p.2.1.length
   ·rw[c,Dq,Aa,BP,AK,aV h.2.1];simp only[G];cases p.2.1.all I1 with
    |false=>simp
    |true=>
     rw[Ai,Aa,aV h.2.2,AK];simp only[G];cases p.2.2.all I1 with
     |false=>rw[D5];rfl
     |true=>
      rw[Ai,Aa,CE,H1 (n:=p.1.length) (λk=>I0 p.1 k λr=> !rowOk p.2.2.length r) false h.1 (λk a d=>by
       show cond (decide ((k:Int) < (p.1.length:Int))) _ _=_;rw[Bc a,Ab,Je a,Cx a,ID a];simp only[G];unfold rowOk;by_cases b:(EW p.1 k).length=p.2.2.length
       ·rw[b,Dq,Aa,BP,AK,aV (by rw[b];exact h.2.2),Bm a (Ba h.1)]
       ·rw[show(((EW p.1 k).length:Int)!=(p.2.2.length:Int))=true from by rw[CY];omega,Ab,show((EW p.1 k).length==p.2.2.length)=false from by simpa using b];rfl) (λrec=>by
       show cond (decide ((p.1.length:Int) < (p.1.length:Int))) _ _=_;rw[A2];rfl)]
      rw[W0,not_any];cases p.1.all (rowOk p.2.2.length)<;>rfl
   ·rw[show((p.1.length:Int)!=(p.2.1.length:Int))=true from by rw[CY];omega,show(p.1.length==p.2.1.length)=false from by simpa using c];rfl
def ij(p:LP)(x:List Rt)(sg:Int)(k:Nat):Bool:=decide (wZ (mf (atR (ZO p.1 x).1 k) (atR p.2.1 k) * sg) < 0)
def UH(p:LP)(x:List Rt)(sg:Int):Bool:=U1 p&&((x.length==p.2.2.length)&&((x.all λr=>I1 r&&decide (0<=r.1))&&((ZO p.1 x).2&& !((List.range (ZO p.1 x).1.length).any<|ij p x sg))))
def QG{p}(h:U1 p=true):1<=p.2.2.length∧p.2.2.length<=5∧1<=p.2.1.length∧p.2.1.length<=5∧p.1.length=p.2.1.length∧(∀k,k < p.1.length->(EW p.1 k).length=p.2.2.length):=by unfold U1 at h;simp only[Ad,H0,BK]at h;refine⟨by omega,by omega,by omega,by omega,h.2.2.1,λk a=>?_⟩;have:=Ap.1 h.2.2.2.1 _<|Aj a;unfold rowOk at this;rw[Ad,BK,ID a]at this;exact this.1
def uw{p}(h:U1 p=true):p.1.length<=lim∧∀k,k < p.1.length->(EW p.1 k).length<=lim:=by have⟨d,e,f,g,a,b⟩:=QG h;refine⟨by rw[a];unfold lim;omega,λk c=>by rw[b k c];unfold lim;omega⟩
def Aeh{p x sg}(h:fN p)(e:x.length<=lim):Th p x sg=some (UH p x sg):=by
 unfold Th UH;rw[AhY h];simp only[G];cases f:U1 p with
 |false=>rfl
 |true=>
  have⟨q,s,t,u,m,v⟩:=QG f;have⟨g,o⟩:=uw f;rw[Ai,Aa,AK];by_cases i:x.length=p.2.2.length
  ·rw[i,Dq,Aa,BP,AK,H1 (n:=x.length) (λk=>I0 x k λr=> !(I1 r&&decide (0<=r.1))) false e (λk a c=>by
    show cond (decide ((k:Int) < (x.length:Int))) _ _=_;rw[Bc a,Ab,Fw a,Cx a,OZ a];simp only[G];rw[ST];simp only[G];cases I1 (atR x k)with
    |false=>rfl
    |true=>
     rw[Ai,Aa,AK,Bm a (Ba e)];by_cases j:(atR x k).1 < 0
     ·rw[Ae j,Ac (by omega)];rfl
     ·rw[Ac j,Ae (by omega)];rfl) (λrec=>by
    show cond (decide ((x.length:Int) < (x.length:Int))) _ _=_;rw[A2];rfl)]
   rw[W0,not_any];cases x.all (λr=>I1 r&&decide (0<=r.1))with
   |false=>rfl
   |true=>
    rw[Ai,Aa,AK];simp only[G];rw[Ajf g o];simp only[G];have l:=pK p.1 x;have b:(ZO p.1 x).1.length<=lim:=BH l.1 g
    rw[H1 (n:=(ZO p.1 x).1.length) (ij p x sg) false b (λk a c=>by
     show cond (decide ((k:Int) < ((ZO p.1 x).1.length:Int))) _ _=_;rw[Bc a,Ab,Fw a,Fw (by rw[<-m];omega)];simp only[G];rw[vK];simp only[G];rw[Bm a (Ba b)];rfl) (λrec=>by
     show cond (decide (((ZO p.1 x).1.length:Int) < ((ZO p.1 x).1.length:Int))) _ _=_;rw[A2];rfl)]
    cases d:(ZO p.1 x).2 with
    |true=>cases(List.range (ZO p.1 x).1.length).any (ij p x sg)<;>simp[G,d]
    |false=>rw[l.2.2 d];simp[G,d]
  ·rw[show((x.length:Int)!=(p.2.2.length:Int))=true from by rw[CY];omega,show(x.length==p.2.2.length)=false from by simpa using i];rfl
def Abg{p x sg}(h:fN p)(d:x.length<=lim):RT p x sg=some (UH p x sg):=by
 unfold RT UH;rw[AfO h];simp only[G];cases f:U1 p with
 |false=>rfl
 |true=>
  have⟨s,t,u,v,l,w⟩:=QG f;have⟨g,m⟩:=uw f;rw[Ai,Aa,AK];by_cases i:x.length=p.2.2.length
  ·rw[i,Dq,Aa,BP,AK,aV d];simp only[G];have o:(x.all λr=>I1 r&&decide (0<=r.1))=(x.all I1&&x.all λr=>decide (0<=r.1)):=by rw[Ck];simp only[Ap,Ad];exact⟨λh=>⟨λr b=>(h r b).1,λr b=>(h r b).2⟩,λh r b=>⟨h.1 r b,h.2 r b⟩⟩
   rw[o];cases x.all I1 with
   |false=>rfl
   |true=>
    rw[Ai,Aa,AK,H1 (n:=x.length) (λk=>I0 x k λr=> !decide (0<=r.1)) false d (λk a e=>by
     show cond (decide ((k:Int) < (x.length:Int))) _ _=_;rw[Bc a,Ab,Fw a,Cx a,OZ a];simp only[G];rw[Bm a (Ba d)];by_cases j:(atR x k).1 < 0
     ·rw[Ae j,Ac (by omega)];rfl
     ·rw[Ac j,Ae (by omega)];rfl) (λrec=>by
     show cond (decide ((x.length:Int) < (x.length:Int))) _ _=_;rw[A2];rfl)]
    rw[W0,not_any];cases x.all (λr=>decide (0<=r.1))with
    |false=>rfl
    |true=>
     rw[Ai,Aa,AK];simp only[G];rw[AiS g m];simp only[G];have q:=pK p.1 x;have c:(ZO p.1 x).1.length<=lim:=BH q.1 g;cases y:(ZO p.1 x).2 with
     |false=>simp
     |true=>
      rw[Ai,Aa,AK,H1 (n:=(ZO p.1 x).1.length) (ij p x sg) false c (λk a e=>by
       show cond (decide ((k:Int) < ((ZO p.1 x).1.length:Int))) _ _=_;rw[Bc a,Ab,Fw a,Fw (by rw[<-l];omega)];simp only[G];rw[tW];simp only[G];rw[Bm a (Ba c),Int.mul_comm];rfl) (λrec=>by
       show cond (decide (((ZO p.1 x).1.length:Int) < ((ZO p.1 x).1.length:Int))) _ _=_;rw[A2];rfl)]
      cases(List.range (ZO p.1 x).1.length).any (ij p x sg)<;>rfl
  ·rw[show((x.length:Int)!=(p.2.2.length:Int))=true from by rw[CY];omega,show(x.length==p.2.2.length)=false from by simpa using i];rfl
def oO:∀{a b:List Rt},a.length=b.length->((List.range a.length).any λk=> !((atR a k).1==(atR b k).1&&(atR a k).2==(atR b k).2))= !(a==b)
 |a,b,h=>by
  rw[Ck,C4,AY];constructor
  ·rintro⟨k,hk,hb⟩;rw[AQ]at hk;rw[BC];rintro rfl;simp at hb
  ·intro hne;rw[BC]at hne;refine Bv λhc=>hne<|Ej h λk h1 h2=>?_
   rw[OZ h1,OZ h2];have:¬(!((atR a k).1==(atR b k).1&&(atR a k).2==(atR b k).2))=true:=λhb=>hc ⟨k,AQ.2 h1,hb⟩
   rw[AY,Iv,Ad,BK,BK]at this;exact Prod.ext this.1 this.2
def uj{a b:List Rt}(h:a.length≠b.length):(a==b)=false:=by rw[BC];rintro rfl;exact h rfl
def Aad{a b}(h:a.length<=lim):Iy a b=some (a==b):=by
 unfold Iy;by_cases c:a.length=b.length
 ·rw[c,Dq,Aa,H1 (n:=a.length) (λk=> !((atR a k).1==(atR b k).1&&(atR a k).2==(atR b k).2)) false h (λk d e=>by
   show cond (decide ((k:Int) < (a.length:Int))) _ _=_;rw[Bc d,Ab,Fw d,Fw (by rw[<-c];exact d)];simp only[G];rw[Bm d (Ba h)]) (λrec=>by
   show cond (decide ((a.length:Int) < (a.length:Int))) _ _=_;rw[A2];rfl)]
  rw[oO c];cases a==b<;>rfl
 ·rw[show((a.length:Int)!=(b.length:Int))=true from by rw[CY];omega,uj c];rfl
def zG{a b}(h:a.length<=lim):Ir a b=some (a==b):=by
 unfold Ir;by_cases c:a.length=b.length
 ·rw[c,Dq,Aa,H1 (n:=a.length) (λk=> !((atR a k).1==(atR b k).1&&(atR a k).2==(atR b k).2)) false h (λk d e=>by
   show cond (decide ((k:Int) < (a.length:Int))) _ _=_;rw[Bc d,Ab,Fw d,Fw (by rw[<-c];exact d)];simp only[G];rw[Bm d (Ba h)]) (λrec=>by
   show cond (decide ((a.length:Int) < (a.length:Int))) _ _=_;rw[A2];rfl)]
  rw[oO c];cases a==b<;>rfl
 ·rw[show((a.length:Int)!=(b.length:Int))=true from by rw[CY];omega,uj c];rfl
def mj{α O:Type}(g:Nat->List α):∀(j k:Nat) (s:List α),SI (O:=O) (λk s=>.inl<|s++g k) j k s=.inl (s++(List.range' k j).flatMap g)
 |0,k,s=>by rw[SI];simp
 |j+1,k,s=>by rw[SI];simp only;rw[mj g j (k+1),Dm,AI,Bg]
def Tw{α β O:Type}(g:Nat->α)(h:Nat->β):∀(j k:Nat) (s:List α×List β),SI (O:=O) (λk s=>.inl (s.1++[g k],s.2++[h k])) j k s=.inl (s.1++(List.range' k j).map g,s.2++(List.range' k j).map h)
 |0,k,s=>by rw[SI];simp
 |j+1,k,s=>by rw[SI];simp only;rw[Tw g h j (k+1),Dm,AH,AH,Bg,Bg];rfl
def qe{O:Type}(g:Nat->Bool):∀(j k:Nat) (s:Bool),SI (O:=O) (λk s=>.inl<|s || g k) j k s=.inl (s || (List.range' k j).any g)
 |0,k,s=>by rw[SI];simp
 |j+1,k,s=>by rw[SI];simp only;rw[qe g j (k+1),Dm,Ft,Bool.or_assoc]
def T2{S O:Type}(g:S->Nat->S):∀(j k:Nat) (s:S),SI (O:=O) (λk s=>.inl<|g s k) j k s=.inl ((List.range' k j).foldl g s)
 |0,k,s=>by rw[SI];simp
 |j+1,k,s=>by rw[SI];simp only;rw[T2 g j (k+1),Dm,DR]
def getD_map{α β:Type}(d:α)(h:α->β)(l:List α):(List.range' 0 l.length).map (λk=>h<|l.getD k d)=l.map h:=by
 apply Ej
 ·simp
 ·intro i a b;simp only[Am,KE]at a;rw[BO,Et,BO,A1];simp[Ah a]
def m7{α S:Type}(d:α)(g:S->α->S)(l:List α)(s:S):(List.range' 0 l.length).foldl (λs k=>g s<|l.getD k d) s=l.foldl g s:=by
 have:=getD_map d (λx=>x) l;rw[List.map_id']at this
 conv=>rhs;rw[<-this]
 rw[List.foldl_map]
def aQ{α β:Type}{f}(h:∀s x,(f s x).length<=s.length+1):∀(l:List α) (s:List β),(l.foldl f s).length<=s.length+l.length
 |[],s=>by simp
 |x::l,s=>by rw[DR,Ar];have a:=aQ h l<|f s x;have b:=h s x;omega
def oT{α β:Type}{f:α->List β}{M:Nat}:∀{l:List α},(∀x∈l,(f x).length<=M)->(l.flatMap f).length<=l.length * M
 |[],_=>by simp
 |x::l,h=>by
  rw[AI,Ak,Ar,GO];have b:=h x BG;have c:=oT (f:=f) (l:=l) λy a=>h y<|AV _ a
  omega
def Vh{α β:Type}{l:List α}{B:(List β×Int->Option (List β))->List β×Int->Option (List β)}{s0:List β}{h:α->β}(p:s0.length+l.length<=lim)
  (i:∀k (e:k < l.length) s a,s.length=s0.length+k->B a (s,(k:Int))=a (s++[h l[k]],((k+1:Nat):Int))) (m:∀a s,B a (s,(l.length:Int))=some s):Aq B fz (s0,0)=some (s0++l.map h):=by
 have c:∀(j k:Nat) (s:List β) (f:Nat),k+j=l.length->j < f->s.length=s0.length+k->Aq B f (s,(k:Int))=some (s++(l.drop k).map h):=by
  intro j;induction j with
  |zero=>
   intro k s f e n d;obtain⟨f,rfl⟩:∃g,f=g+1:=⟨f - 1,by omega⟩;obtain rfl:k=l.length:=by omega
   rw[A6,m,CJ];simp
  |succ j o=>
   intro k s f e n d;obtain⟨f,rfl⟩:∃g,f=g+1:=⟨f - 1,by omega⟩;have b:k < l.length:=by omega
   rw[A6,i k b s _ d,o (k+1) _ f (by omega) (by omega) (by rw[Ak,d];simp;omega),AS b,AH,Bg];rfl
 have:=c l.length 0 s0 fz (by omega) (EC<|by omega) (by omega);simpa using this
def Ss(t:Nat):Nat->Nat->List zN
 |0,_=>[[]]
 |r+1,fr=>(List.range' fr<|t - r - fr).flatMap λi=>(Ss t r<|i+1).map (i:: ·)
def cI(c:zN):zI:=c.map λ(e:Nat)=>(e:Int)
def XK{t:Nat}(a:t<=11):∀(r fr:Nat),(Ss t r fr).length<=11 ^ r
 |0,_=>Bb 1
 |r+1,fr=>by
  rw[Ss];have:=oT (f:=λi=>(Ss t r<|i+1).map (i:: ·)) (M:=11 ^ r) (l:=List.range' fr<|t - r - fr) λi _=>by rw[Am];exact XK a r<|i+1
  refine BH this ?_;rw[KE,CX,Ez];exact Nat.mul_le_mul_left _ (by omega)
def az{t}:∀{r fr:Nat}{c:zN},c∈Ss t r fr->c.length=r∧∀e∈c,e < t
 |0,_,c,h=>by rw[Ss,AU]at h;subst h;exact⟨rfl,by simp⟩
 |r+1,fr,c,h=>by
  rw[Ss,CA]at h;have⟨i,hi,h⟩:=h;obtain⟨d,b,rfl⟩:=Bq.1 h;have⟨f,g⟩:=az b;rw[O6]at hi;refine⟨by rw[Ar,f],λe a=>?_⟩;rcases AA.1 a with rfl|a
  ·omega
  ·exact g e a
def pW{r}(h:r<=5):11 ^ r<=161051:=BH (Ec (by omega) h) (by decide)
def vH{t:Nat}(ht:t<=10):∀(r fr f:Nat),r<=5->fr<=11->r < f->Aq HX f ((fr:Int),(t:Int),(r:Int))=some ((Ss t r fr).map cI)
 |0,fr,f,_,_,hf=>by obtain⟨f,rfl⟩:∃g,f=g+1:=⟨f - 1,by omega⟩;rfl
 |r+1,fr,f,hr,hfr,hf=>by
  obtain⟨f,rfl⟩:∃g,f=g+1:=⟨f - 1,by omega⟩;have hp:=pW (show r<=5 by omega);rw[A6];show cond (((r+1:Nat):Int)==0) (some [[]]) (G (Aq (SJ (t:Int) ((r+1:Nat):Int)<|Aq HX f) fz ([],(fr:Int))) λz4=>some z4)=_;rw[show(((r+1:Nat):Int)==0)=false from by rw[BC];omega,Aa]
  have hl:=VL (B:=SJ (t:Int) ((r+1:Nat):Int)<|Aq HX f) (n:=fr+(t - r - fr)) (O:=Unit) (λ(s:List zI) k=>(s,(k:Int))) (λk s=>fr<=k∧s.length<=(k - fr) * 11 ^ r) (λk s=>.inl<|s++((Ss t r<|k+1).map cI).map ([(k:Int)]++ ·)) (λo=>match o with|.inl s=>s|.inr _=>[])
   (λrec k s hk hi=>by
    have hkt:k+r+1<=t:=by omega
    show cond (decide (wZ ((k:Int)+((r+1:Nat):Int))<=(t:Int))) _ _=_;rw[wrap_in (by omega),Ae (by omega),Ab,show wZ ((k:Int)+1)=((k+1:Nat):Int)from by rw[wrap_in (by omega)];omega,show wZ (((r+1:Nat):Int) - 1)=(r:Int)from by rw[wrap_in (by omega)];omega,vH ht r (k+1) f (by omega) (by omega) (by omega)];simp only[G];have hc:=XK (t:=t) (by omega) r<|k+1;have hm:(k - fr) * 11 ^ r<=11 * 161051:=Fy (by omega) hp
    rw[Vh (B:=WN (k:Int) ((Ss t r (k+1)).map cI)) (l:=(Ss t r (k+1)).map cI) (s0:=s) (h:=([(k:Int)]++ ·)) (by rw[Am];unfold lim;omega) (λq hq s' rec hs=>by
     show cond (decide ((q:Int) < (((Ss t r<|k+1).map cI).length:Int))) _ _=_;rw[Bc hq,Ab,AG hq];simp only[G];have hql:q < (Ss t r<|k+1).length:=by simpa using hq
     have he:(((Ss t r<|k+1).map cI)[q]).length=r:=by rw[BO];unfold cI;rw[Am];exact(az<|Aj hql).1
     rw[Aw (by rw[he];simp;unfold lim;omega),Aw (by rw[hs];simp;unfold lim;omega),Bm hq (by rw[Am];unfold maxLen;omega)]) (λrec s'=>by
     show cond (decide ((((Ss t r<|k+1).map cI).length:Int) < (((Ss t r<|k+1).map cI).length:Int))) _ _=_;rw[A2];rfl)])
   (λrec s hi=>by show cond (decide (wZ (((fr+(t - r - fr):Nat):Int)+((r+1:Nat):Int))<=(t:Int))) _ _=_;rw[wrap_in (by omega),Ac (by omega)];rfl)
   (λk s s' hk hi hs=>by cases hs;refine⟨by omega,?_⟩;rw[Ak,Am,Am,show k+1 - fr=(k - fr)+1 from by omega,GO];have hc:=XK (t:=t) (by omega) r<|k+1;omega) (t - r - fr) fr [] fz rfl (by unfold fz;omega) ⟨Bb _,by simp⟩
  rw[hl,mj];simp only[G,Bn];rw[Ss,List.map_flatMap];congr 2;funext k;rw[EY,EY];congr 1
def Yt(n i:Nat):List Rt:=(List.replicate n (0,1)).set i (1,1)
def rowAt(p:LP)(j:Nat):List Rt:=if j < p.2.1.length then EW p.1 j else Yt p.2.2.length (j - p.2.1.length)
def Gp(p:LP)(j:Nat):Rt:=if j < p.2.1.length then atR p.2.1 j else(0,1)
def visit(p:LP)(sg:Int)(out:Mx)(c:zN):Mx:=cond (VV (c.map<|rowAt p)<|c.map<|Gp p).2 (cond (UH p (VV (c.map<|rowAt p)<|c.map<|Gp p).1 sg) (cond (out.any (· ==(VV (c.map<|rowAt p)<|c.map<|Gp p).1)) out<|out++[(VV (c.map<|rowAt p)<|c.map<|Gp p).1]) out) out
def bK(p:LP)(sg:Int)(out:Mx)(c:zN):(visit p sg out c).length<=out.length+1:=by
 unfold visit;cases(VV (c.map<|rowAt p)<|c.map<|Gp p).2 with
 |false=>simp
 |true=>
  cases UH p (VV (c.map<|rowAt p)<|c.map<|Gp p).1 sg with
  |false=>simp
  |true=>
   cases out.any (· ==(VV (c.map<|rowAt p)<|c.map<|Gp p).1)with
   |true=>simp
   |false=>simp
def Aep(a:Mx)(b:List Rt):(VV a b).2=false->(VV a b).1=[]:=by
 unfold VV;cases decide (6 < (b.length:Int))with
 |true=>exactλ_=>rfl
 |false=>
  cases aa a b with
  |false=>exactλ_=>rfl
  |true=>
   simp only[Aa,Ab];cases f:Sx b.length b.length 0 (Y9 a b)with
   |none=>exactλ_=>rfl
   |some m=>
    simp only;cases e:QH (WU b.length m) b.length 0 with
    |inl x=>exactλh=>by cases h
    |inr o=>
     exactλ_=>ZM (P:=λo=>o.1=[]) (λk o c=>by
      unfold WU at c;cases d:(Uo (atR (EW m k) b.length)<|atR (EW m k) k).2 with
      |false=>rw[d]at c;cases c;rfl
      |true=>rw[d]at c;cases c) e
def j2{a b}(h:b.length<=lim):(VV a b).1.length<=lim:=by
 cases c:(VV a b).2 with
 |true=>rw[qx (a:=a) (b:=b) (x:=(VV a b).1) (by rw[<-c])];exact h
 |false=>rw[Aep a b c];simp
def oe{p:LP}(h:p.2.2.length<=lim):Aq (Q0 p) fz ([],0)=some (List.replicate p.2.2.length (0,1)):=by
 rw[Vh (B:=Q0 p) (l:=p.2.2) (s0:=[]) (h:=λ_=>((0:Int),(1:Int))) (by simpa using h) (λk a s b c=>by
  show cond (decide ((k:Int) < (p.2.2.length:Int))) _ _=_;rw[Bc a,Ab,Aw (by rw[c];simp;unfold lim at h⊢;omega),Bm a (Ba h)]) (λrec s=>by
  show cond (decide ((p.2.2.length:Int) < (p.2.2.length:Int))) _ _=_;rw[A2];rfl),Bn,List.map_const']
def Ah6{p}(hv:U1 p=true){v1:List zI}{y:Int}{c:zN}(hg:AF v1 y=some (cI c))(hc:c.length=p.2.2.length)(hin:∀e∈c,e < p.2.1.length+p.2.2.length):
  Aq (NN p v1 y) fz ([],[],0)=some (c.map<|rowAt p,c.map<|Gp p):=by
 have⟨h1,h2,h3,h4,h5,h6⟩:=QG hv;have hl:p.2.2.length<=lim:=by unfold lim;omega
 have hr:=E7 (B:=NN p v1 y) (n:=p.2.2.length) (O:=Unit) (λ(s:Mx×List Rt) k=>(s.1,s.2,(k:Int))) (λk s=>s.1.length=k∧s.2.length=k) (λk s=>.inl (s.1++[rowAt p (c.getD k 0)],s.2++[Gp p (c.getD k 0)])) (λo=>match o with|.inl s=>s|.inr _=>([],[])) hl (λrec k s hk hi=>by
  have hkc:k < c.length:=by rw[hc];exact hk
  have hck:c.getD k 0=c[k]:=by rw[A1,Ah hkc];rfl
  have he:=hin c[k]<|Aj hkc;show cond (decide ((k:Int) < (p.2.2.length:Int))) _ _=_;rw[Bc hk,Ab,hg];simp only[G];rw[AG (show k < (cI c).length by unfold cI;rw[Am];exact hkc)];simp only[G];rw[show(cI c)[k]'(by unfold cI;rw[Am];exact hkc)=((c[k]:Nat):Int)from by unfold cI;rw[BO],hck];unfold rowAt Gp;have hJ:∀a b,K0 rec (k:Int) a b=rec (a,b,((k+1:Nat):Int)):=λa b=>by unfold K0;rw[Bm hk (Ba hl)]
  by_cases hm:c[k] < p.2.1.length
  ·rw[At hm,At hm,Bc hm,Ab,Je (by rw[h5];exact hm)];simp only[G];rw[Aw (by rw[hi.1];simp;unfold lim;omega),Fw hm];simp only[G];rw[Aw (by rw[hi.2];simp;unfold lim;omega),hJ]
  ·have hz:(List.replicate p.2.2.length ((0:Int),(1:Int))).length=p.2.2.length:=CI;have hw:wZ (((c[k]:Nat):Int) - (p.2.1.length:Int))=((c[k] - p.2.1.length:Nat):Int):=by rw[wrap_in (by omega)];omega
   rw[As hm,As hm,Ac (by omega),Aa,oe hl];simp only[G];rw[Aw (by rw[hz];omega),hw,AG (show c[k] - p.2.1.length < (List.replicate p.2.2.length ((0:Int),(1:Int))).length by rw[hz];omega)];simp only[G];rw[Aw (by rw[hi.1];simp;unfold lim;omega),Aw (by rw[hi.2];simp;unfold lim;omega),hJ];simp only[CL,AB];rfl) (λrec s hi=>by
  show cond (decide ((p.2.2.length:Int) < (p.2.2.length:Int))) _ _=_;rw[A2];rfl) (λk s s' hk hi hs=>by cases hs;exact⟨by simp[hi.1],by simp[hi.2]⟩) ([],[]) ⟨rfl,rfl⟩
 rw[show(([]:Mx),([]:List Rt),(0:Int))=((([],[]):Mx×List Rt).1,(([],[]):Mx×List Rt).2,((0:Nat):Int))from rfl,hr,Tw];simp only[Bn];rw[<-hc,getD_map 0 (rowAt p) c,getD_map 0 (Gp p) c]
def yM{out v}(h:out.length<=lim)(hr:∀r∈out,r.length<=lim):Aq (NO out v) fz (false,0)=some (out.any (· ==v.1)):=by
 have hl:=E7 (B:=NO out v) (n:=out.length) (O:=Unit) (λ(s:Bool) k=>(s,(k:Int))) (λ_ _=>True) (λk s=>.inl (s || (out.getD k []==v.1))) (λo=>match o with|.inl s=>s|.inr _=>false) h (λrec k s hk _=>by
  show cond (decide ((k:Int) < (out.length:Int))) _ _=_;have hJ:∀b,K2 rec (k:Int) b=rec (b,((k+1:Nat):Int)):=λb=>by unfold K2;rw[Bm hk (Ba h)]
  rw[Bc hk,Ab];cases s with
  |true=>rw[Ab,hJ];rfl
  |false=>rw[Aa,Je hk];simp only[G];rw[Aad (by rw[<-ID hk];exact hr _<|Aj hk)];simp only[G];rw[hJ];rfl) (λrec s _=>by
  show cond (decide ((out.length:Int) < (out.length:Int))) _ _=_;rw[A2];rfl) (λ_ _ _ _ _ _=>trivial) false trivial
 rw[show((0:Nat):Int)=0 from rfl]at hl;rw[hl,qe];simp only[CH];have:(List.range' 0 out.length).any (λk=>out.getD k []==v.1)=((List.range' 0 out.length).map<|λk=>(λx=>x==v.1)<|out.getD k []).any id:=by rw[List.any_map];rfl
 rw[this,getD_map [] (λx=>x==v.1) out,List.any_map];rfl
def Wj(m:Mx):Prop:=∀r∈m,r.length<=lim
def ir{p}(sg:Int){out:Mx}{c:zN}(b:c.length<=lim)(h:Wj out):Wj (visit p sg out c):=by
 unfold visit;cases(VV (c.map<|rowAt p)<|c.map<|Gp p).2 with
 |false=>exact h
 |true=>
  cases UH p (VV (c.map<|rowAt p)<|c.map<|Gp p).1 sg with
  |false=>exact h
  |true=>
   cases out.any (· ==(VV (c.map<|rowAt p)<|c.map<|Gp p).1)with
   |true=>exact h
   |false=>
    intro r a;rcases Al.1 a with a|a
    ·exact h r a
    ·rw[AU]at a;subst a;exact j2 (by rw[Am];exact b)
def rT(p:LP)(sg:Int):Mx:=(Ss (p.2.1.length+p.2.2.length) p.2.2.length 0).foldl (visit p sg) []
def vI{p sg}(hv:U1 p=true):QZ p sg=some (rT p sg):=by
 have⟨h1,h2,h3,h4,h5,h6⟩:=QG hv;have hsm:fN p:=⟨by rw[h5];unfold lim;omega,by unfold lim;omega,by unfold lim;omega⟩;unfold QZ rT;rw[show wZ ((p.2.1.length:Int)+(p.2.2.length:Int))=((p.2.1.length+p.2.2.length:Nat):Int)from by rw[wrap_in (by omega)];omega];unfold Ws;have hp:=vH (t:=p.2.1.length+p.2.2.length) (by omega) p.2.2.length 0 fz (by omega) (by omega) (by unfold fz;omega);rw[show((0:Nat):Int)=0 from rfl]at hp;rw[hp];simp only[G];have hcl:=XK (t:=p.2.1.length+p.2.2.length) (by omega) p.2.2.length 0;have hpw:=pW h2;have hll:(Ss (p.2.1.length+p.2.2.length) p.2.2.length 0).length<=lim:=by unfold lim;omega
 have hl:=E7 (B:=NM p sg ((Ss (p.2.1.length+p.2.2.length) p.2.2.length 0).map cI)) (n:=(Ss (p.2.1.length+p.2.2.length) p.2.2.length 0).length) (O:=Unit) (λ(s:Mx) k=>(s,(k:Int))) (λk s=>s.length<=k∧Wj s) (λk s=>.inl (visit p sg s ((Ss (p.2.1.length+p.2.2.length) p.2.2.length 0).getD k []))) (λo=>match o with|.inl s=>s|.inr _=>[]) hll (λrec k s hk hi=>by
  have hcm:=az<|Aj hk;have hgd:(Ss (p.2.1.length+p.2.2.length) p.2.2.length 0).getD k []=(Ss (p.2.1.length+p.2.2.length) p.2.2.length 0)[k]:=by rw[A1,Ah hk];rfl
  rw[hgd];show cond (decide ((k:Int) < (((Ss (p.2.1.length+p.2.2.length) p.2.2.length 0).map cI).length:Int))) _ _=_;rw[Am,Bc hk,Ab,Ah6 hv (y:=(k:Int)) (c:=(Ss (p.2.1.length+p.2.2.length) p.2.2.length 0)[k]) (by rw[AG (by rw[Am];exact hk),BO]) hcm.1 hcm.2];simp only[G];have hc1:(Ss (p.2.1.length+p.2.2.length) p.2.2.length 0)[k].length<=lim:=by rw[hcm.1];unfold lim;omega
  rw[Ah2 (by rw[Am];exact hc1) (by rw[Am];exact hc1)];simp only[G];unfold visit;have hJ:∀b,Ih rec (k:Int) b=rec (b,((k+1:Nat):Int)):=λb=>by unfold Ih;rw[Bm hk (Ba hll)]
  cases(VV (((Ss (p.2.1.length+p.2.2.length) p.2.2.length 0)[k]).map<|rowAt p)<|((Ss (p.2.1.length+p.2.2.length) p.2.2.length 0)[k]).map<|Gp p).2 with
  |false=>unfold K1;rw[Aa,Aa,hJ];rfl
  |true=>
   rw[Ab,Ab,Aeh hsm (j2<|by rw[Am];exact hc1)];simp only[G];unfold K1;cases UH p (VV (((Ss (p.2.1.length+p.2.2.length) p.2.2.length 0)[k]).map<|rowAt p)<|((Ss (p.2.1.length+p.2.2.length) p.2.2.length 0)[k]).map<|Gp p).1 sg with
   |false=>rw[Aa,Aa,hJ]
   |true=>
    rw[Ab,Ab,yM (by unfold lim;omega) hi.2];simp only[G];cases s.any (· ==(VV (((Ss (p.2.1.length+p.2.2.length) p.2.2.length 0)[k]).map<|rowAt p)<|((Ss (p.2.1.length+p.2.2.length) p.2.2.length 0)[k]).map<|Gp p).1)with
    |true=>rw[Ai,Aa,Ab,hJ]
    |false=>rw[BT,Ab,Aa,Aw (by simp;unfold lim;omega),hJ]) (λrec s _=>by
  show cond (decide ((((Ss (p.2.1.length+p.2.2.length) p.2.2.length 0).length:Nat):Int) < (((Ss (p.2.1.length+p.2.2.length) p.2.2.length 0).map cI).length:Int))) _ _=_;rw[Am,A2];rfl) (λk s s' hk hi hs=>by
  cases hs;have:=bK p sg s<|(Ss (p.2.1.length+p.2.2.length) p.2.2.length 0).getD k [];refine⟨by omega,ir sg ?_ hi.2⟩;rw[A1,Ah hk,BQ,(az (Aj hk)).1];unfold lim;omega) [] ⟨by simp,λr hr=>by simp at hr⟩
 rw[show((0:Nat):Int)=0 from rfl]at hl;rw[hl,T2 (λs k=>visit p sg s<|(Ss (p.2.1.length+p.2.2.length) p.2.2.length 0).getD k []),m7 [] (visit p sg)]
def bt(b:Bool):Rt:=(cond b 1 0,1)
def gB(l:List Bool)(i:Nat):Bool:=l.getD i false
def allB:Nat->List (List Bool)
 |0=>[[]]
 |n+1=>(allB n).flatMap λl=>[false::l,true::l]
def WZ:∀l:List Bool,l∈allB l.length
 |[]=>AU.2 rfl
 |b::l=>by
  rw[Ar,allB,CA];refine⟨l,WZ l,?_⟩;cases b
  ·exact BG
  ·exact AV _ BG
def z7(S r:List Bool):Bool:=(List.range S.length).any λi=>(gB S i&&gB r i)&&(List.range S.length).all λj=>j==i || !(gB S j&&gB r j)
def apart(S a b:List Bool):Bool:=(List.range S.length).all λi=> !(gB S i&&(gB a i&&gB b i))
def oA(S:List Bool):List (List Bool):=(allB S.length).filter<|z7 S
def xp(S:List Bool):Nat->List (List<|List Bool)
 |0=>[[]]
 |k+1=>(xp S k).flatMap λrs=>((oA S).filter λr=>rs.all<|apart S r).map (· ::rs)
def lf{S}:∀{rs:List (List Bool)},(∀r∈rs,r∈oA S)->rs.Pairwise (λa b=>apart S a b=true)->rs∈xp S rs.length
 |[],_,_=>AU.2 rfl
 |r::rs,h,c=>by have⟨d,e⟩:=Cy.1 c;rw[Ar,xp,CA];refine⟨rs,lf (λr f=>h r<|AV _ f) e,Bq.2 ⟨r,CC.2 ⟨h r BG,Ap.2 d⟩,rfl⟩⟩
def TF(S:List Bool):zN:=(List.range S.length).filter λj=> !gB S j
def kc(S:List Bool):zN:=(List.range S.length).filter λj=>gB S j
def Aak(S:List Bool)(rs:List (List Bool)):Bool:=(VV (rs.map (λr=>r.map bt)++(TF S).map (Yt S.length))<|rs.map (λ_=>((1:Int),(1:Int)))++(TF S).map (λ_=>((0:Int),(1:Int)))).2&&(VV (rs.map (λr=>r.map bt)++(TF S).map (Yt S.length))<|rs.map (λ_=>((1:Int),(1:Int)))++(TF S).map (λ_=>((0:Int),(1:Int)))).1==S.map bt
def si(n:Nat):Bool:=(allB n).all λS=>(xp S (kc S).length).all<|Aak S
def Ajo:si 1=true:=by kernel_rfl
def Ajp:si 2=true:=by kernel_rfl
def Ajq:si 3=true:=by kernel_rfl
def Ajr:si 4=true:=by kernel_rfl
def zZ(a b:List Bool):Bool:=(List.range b.length).any λi=>gB a i&&gB b i
def sZ(r S:List Bool):Bool:=(V2 (r.map bt)<|S.map bt).2&&(!zZ r S || !decide (wZ (mf (V2 (r.map bt)<|S.map bt).1 (1,1) * 1) < 0))
def tryD(n:Nat):Bool:=(allB n).all λr=>(allB n).all<|sZ r
def Aib:tryD 1=true:=by kernel_rfl
def Aic:tryD 2=true:=by kernel_rfl
def Aid:tryD 3=true:=by kernel_rfl
def Aie:tryD 4=true:=by kernel_rfl
def kN{α:Type}(g:Nat->List α):∀(b a fr:Nat),(∀k,fr+a<=k->k < fr+a+b->g k=[])->(List.range' fr<|a+b).flatMap g=(List.range' fr a).flatMap g
 |0,a,fr,_=>rfl
 |b+1,a,fr,h=>by rw[<-MX,List.range'_concat,Dg,kN g b a fr (λk c d=>h k c<|by omega)];simp[h (fr+(a+b)) (by omega) (by omega)]
def wX{t r fr}(a:0 < r)(h:t+1<=r+fr):Ss t r fr=[]:=by obtain⟨r,rfl⟩:∃q,r=q+1:=⟨r - 1,by omega⟩;rw[Ss,show t - r - fr=0 from by omega];rfl
def wW(t r fr:Nat)(h:fr<=t):(List.range' fr<|t - fr).flatMap (λi=>(Ss t r<|i+1).map (i:: ·))=Ss t (r+1) fr:=by
 rw[Ss]
 have:=kN (λi=>(Ss t r (i+1)).map (i:: ·)) (t - fr - (t - r - fr)) (t - r - fr) fr (λk b a=>by
  cases r with
  |zero=>omega
  |succ r=>rw[wX (by omega) (by omega)];rfl)
 rw[<-this,show t - r - fr+(t - fr - (t - r - fr))=t - fr from by omega]
def foldl_flat{α β S:Type}(f:S->β->S)(g:α->List β):∀(l:List α) (s:S),(l.flatMap g).foldl f s=l.foldl (λs x=>(g x).foldl f s) s
 |[],_=>rfl
 |x::l,s=>by rw[AI,Lz,DR,foldl_flat f g l]
def W5(c:zN):(cI c).length=c.length:=by unfold cI;rw[Am]
def AaH(c d:zN):cI (c++d)=cI c++cI d:=by unfold cI;rw[BM]
def zF{l}(h:l.length<=lim):Hw l=some l:=by unfold Hw;rw[Aw (by simpa using h),Bn]
def kX{p sg c}:∀(l:List zN) (s:Mx),(∀d∈l,(c++d).length<=lim)->Wj s->Wj (l.foldl (λo d=>visit p sg o<|c++d) s)
 |[],_,_,h=>h
 |d::l,s,a,h=>kX l _ (λd b=>a d<|AV _ b)<|ir sg (a d BG) h
def Ae9(a:Mx)(f:List Rt->Bool):(List.range a.length).any (λk=>f<|EW a k)=a.any f:=by
 rw[Ck,C4,C4];constructor
 ·rintro⟨i,hi,h⟩;rw[AQ]at hi;rw[<-ID hi]at h;exact⟨_,Aj hi,h⟩
 ·rintro⟨x,b,h⟩;obtain⟨i,hi,rfl⟩:=Es b;rw[ID hi]at h;exact⟨i,AQ.2 hi,h⟩
section
variable {p:LP}{R:Mx}{rt:List Rt}
def AfT(t:U1 p=true)(i:R.length=p.2.1.length+p.2.2.length)(d:rt.length=p.2.1.length+p.2.2.length)(l:∀j,j < p.2.1.length+p.2.2.length->EW R j=rowAt p j)(m:∀j,j < p.2.1.length+p.2.2.length->atR rt j=Gp p j)
  {c:zN}(u:c.length<=5) (f:∀e∈c,e < p.2.1.length+p.2.2.length):Aq (PY (cI c) R rt) fz ([],[],0)=some (c.map<|rowAt p,c.map<|Gp p):=by
 have h:c.length<=lim:=by unfold lim;omega
 have q:=E7 (B:=PY (cI c) R rt) (n:=c.length) (O:=Unit) (λ(s:Mx×List Rt) k=>(s.1,s.2,(k:Int))) (λk s=>s.1.length=k∧s.2.length=k) (λk s=>.inl (s.1++[rowAt p (c.getD k 0)],s.2++[Gp p (c.getD k 0)])) (λo=>match o with|.inl s=>s|.inr _=>([],[])) h (λrec k s a hi=>by
  have g:c.getD k 0=c[k]:=by rw[A1,Ah a];rfl
  have b:=f c[k]<|Aj a;show cond (decide ((k:Int) < ((cI c).length:Int))) _ _=_;rw[W5,Bc a,Ab,AG (show k < (cI c).length by rw[W5];exact a)];simp only[G];rw[show(cI c)[k]'(by rw[W5];exact a)=((c[k]:Nat):Int)from by unfold cI;rw[BO],g,Je (by rw[i];exact b)];simp only[G];rw[Aw (by rw[hi.1];simp;unfold lim;omega),Fw (by rw[d];exact b)];simp only[G];rw[Aw (by rw[hi.2];simp;unfold lim;omega),l _ b,m _ b,Bm a (Ba h)]) (λrec s hi=>by
  show cond (decide ((c.length:Int) < ((cI c).length:Int))) _ _=_;rw[W5,A2];rfl) (λk s v a hi r=>by cases r;exact⟨by simp[hi.1],by simp[hi.2]⟩) ([],[]) ⟨rfl,rfl⟩
 rw[show(([]:Mx),([]:List Rt),(0:Int))=((([],[]):Mx×List Rt).1,(([],[]):Mx×List Rt).2,((0:Nat):Int))from rfl,q,Tw];simp only[Bn];rw[getD_map 0 (rowAt p) c,getD_map 0 (Gp p) c]
def xz{out v}(h:out.length<=lim)(b:v.1.length<=lim):Aq (TS out v) fz 0=some (cond (out.any (· ==v.1)) (.inr out)<|.inl ()):=by
 rw[H1 (n:=out.length) (λk=>v.1==EW out k) out h (λk a c=>by
  show cond (decide ((k:Int) < (out.length:Int))) _ _=_;rw[Bc a,Ab,Je a];simp only[G];rw[zG b];simp only[G];rw[Bm a (Ba h)]) (λrec=>by
  show cond (decide ((out.length:Int) < (out.length:Int))) _ _=_;rw[A2];rfl)]
 rw[Ae9 out (λx=>v.1==x),show(λx=>v.1==x)=(λx=>x==v.1)from by funext x;rw[Ck,BK,BK];exact eq_comm]
def lj{sg}(hv:U1 p=true)(hR:R.length=p.2.1.length+p.2.2.length)(hrt:rt.length=p.2.1.length+p.2.2.length)(hA:∀j,j < p.2.1.length+p.2.2.length->EW R j=rowAt p j)(hB:∀j,j < p.2.1.length+p.2.2.length->atR rt j=Gp p j):
  ∀(r:Nat) (c:zN) (fr f:Nat) (out:Mx),c.length+r=p.2.2.length->fr<=p.2.1.length+p.2.2.length->(∀e∈c,e < p.2.1.length+p.2.2.length)->r < f->out.length+11 ^ r<=lim->Wj out->
  Aq FP f ((fr:Int),cI c,(p.2.2.length:Int),R,rt,p,sg,out)=some ((Ss (p.2.1.length+p.2.2.length) r fr).foldl (λo d=>visit p sg o<|c++d) out)
 |0,c,fr,f,out,hc,hfr,hin,hf,ho,hol=>by
  obtain⟨f,rfl⟩:∃g,f=g+1:=⟨f - 1,by omega⟩;have⟨h1,h2,h3,h4,h5,h6⟩:=QG hv;have hsm:fN p:=⟨by rw[h5];unfold lim;omega,by unfold lim;omega,by unfold lim;omega⟩;have hcl:c.length<=lim:=by unfold lim;omega
  rw[A6];show cond (decide (((cI c).length:Int) < (p.2.2.length:Int))) _ _=_;rw[W5,show c.length=p.2.2.length from by omega,A2,Aa,AfT hv hR hrt hA hB (by omega) hin];simp only[G];rw[AfQ (by rw[Am];exact hcl)];simp only[G];rw[Ss,DR,List.foldl_nil,AN];unfold visit;cases(VV (c.map<|rowAt p)<|c.map<|Gp p).2 with
  |false=>rfl
  |true=>
   have hxl:=j2 (a:=c.map<|rowAt p) (b:=c.map<|Gp p) (by rw[Am];exact hcl);rw[Ai,Aa,Ab,Abg hsm hxl];simp only[G];cases UH p (VV (c.map<|rowAt p)<|c.map<|Gp p).1 sg with
   |false=>rfl
   |true=>
    rw[Ai,Aa,Ab,xz (by omega) hxl];simp only[G];cases out.any (· ==(VV (c.map<|rowAt p)<|c.map<|Gp p).1)with
    |true=>rfl
    |false=>simp only[Aa];rw[Aw (by simpa using ho)]
 |r+1,c,fr,f,out,hc,hfr,hin,hf,ho,hol=>by
  obtain⟨f,rfl⟩:∃g,f=g+1:=⟨f - 1,by omega⟩;have⟨h1,h2,h3,h4,h5,h6⟩:=QG hv;have hpw:11 ^ (r+1)=11 ^ r * 11:=CX ..;have hNm:p.2.1.length+p.2.2.length<=maxLen:=by unfold maxLen;omega
  rw[A6];show cond (decide (((cI c).length:Int) < (p.2.2.length:Int))) (G (Aq (PX (cI c) (p.2.2.length:Int) R rt p sg<|Aq FP f) fz (out,(fr:Int))) λz4=>some z4) _=_;rw[W5,Bc (show c.length < p.2.2.length by omega),Ab]
  have hl:=VL (B:=PX (cI c) (p.2.2.length:Int) R rt p sg<|Aq FP f) (n:=p.2.1.length+p.2.2.length) (O:=Unit) (λ(s:Mx) k=>(s,(k:Int))) (λk s=>fr<=k∧s.length<=out.length+(k - fr) * 11 ^ r∧Wj s) (λk s=>.inl<|(Ss (p.2.1.length+p.2.2.length) r<|k+1).foldl (λo d=>visit p sg o<|c++(k::d)) s) (λo=>match o with|.inl s=>s|.inr _=>[])
   (λrec k s hk hi=>by
    have hkm:(k - fr) * 11 ^ r<=10 * 11 ^ r:=BW _ (by omega);show cond (decide ((k:Int) < (R.length:Int))) _ _=_;rw[hR,Bc hk,Ab,zF (by rw[W5];unfold lim;omega)];simp only[G]
    rw[Aw (by rw[W5];simp;unfold lim;omega),Bm hk hNm,show cI c++[(k:Int)]=cI (c++[k])from by rw[AaH];rfl,lj hv hR hrt hA hB r (c++[k]) (k+1) f s (by rw[Ak];simp;omega) (by omega) (λe he=>by
     rcases Al.1 he with he|he
     ·exact hin e he
     ·rw[AU]at he;subst he;exact hk) (by omega) (by omega) hi.2.2]
    simp only[G,Bg,Fd])
   (λrec s hi=>by show cond (decide (((p.2.1.length+p.2.2.length:Nat):Int) < (R.length:Int))) _ _=_;rw[hR,A2];rfl)
   (λk s s' hk hi hs=>by
    cases hs;refine⟨by omega,?_,?_⟩
    ·have h1:=aQ (f:=λo d=>visit p sg o<|c++(k::d)) (λs x=>bK p sg s _) (Ss (p.2.1.length+p.2.2.length) r<|k+1) s;have h2:=XK (t:=p.2.1.length+p.2.2.length) (by omega) r<|k+1;rw[show k+1 - fr=(k - fr)+1 from by omega,GO];have:=hi.2.1;refine BH h1 ?_;omega
    ·have:=kX (p:=p) (sg:=sg) (c:=c++[k]) (Ss (p.2.1.length+p.2.2.length) r (k+1)) s (λd hd=>by rw[Ak,Ak,(az hd).1];simp;unfold lim;omega) hi.2.2;simpa only[Bg,Fd]using this) (p.2.1.length+p.2.2.length - fr) fr out fz (by omega) (by unfold fz;omega) ⟨Bb _,by simp,hol⟩
  rw[hl,T2 (λs k=>(Ss (p.2.1.length+p.2.2.length) r<|k+1).foldl (λo d=>visit p sg o<|c++(k::d)) s)];simp only[G];rw[<-wW _ r fr hfr,foldl_flat];simp only[List.foldl_map]
end
def sn{p}{i:Nat}(hi:i < p.2.2.length)(h:p.2.2.length<=lim):Aq (RE p (i:Int)) fz ([],0)=some (Yt p.2.2.length i):=by
 have c:=E7 (B:=RE p (i:Int)) (n:=p.2.2.length) (O:=Unit) (λ(s:List Rt) k=>(s,(k:Int))) (λk s=>s.length=k) (λk s=>.inl (s++[(if i=k then(1:Int)else 0,(1:Int))])) (λo=>match o with|.inl s=>s|.inr _=>[]) h (λrec k s a b=>by
  show cond (decide ((k:Int) < (p.2.2.length:Int))) _ _=_;rw[Bc a,Ab,show((i:Int)==(k:Int))=decide (i=k)from by rw[Ck,BK,decide_eq_true_iff];omega];unfold Xj;by_cases e:i=k
  ·rw[Ae e,At e,Ab];simp only[G];rw[Aw (by rw[b];simp;unfold lim at h⊢;omega),Bm a (Ba h)]
  ·rw[Ac e,As e,Aa];simp only[G];rw[Aw (by rw[b];simp;unfold lim at h⊢;omega),Bm a (Ba h)]) (λrec s _=>by
  show cond (decide ((p.2.2.length:Int) < (p.2.2.length:Int))) _ _=_;rw[A2];rfl) (λk s d a hi b=>by cases b;simp[hi]) [] rfl
 rw[show((0:Nat):Int)=0 from rfl]at c;rw[c,eU];simp only[Bn];congr 1;unfold Yt;apply Ej
 ·simp
 ·intro k f g;rw[BO,Et,ER];simp only[Cw,DK,Ld];split<;>rfl
def tS{p sg}(h:U1 p=true):RU p sg=some (rT p sg):=by
 have⟨q,l,r,t,a,u⟩:=QG h;have f:p.2.2.length<=lim:=by unfold lim;omega
 unfold RU;rw[Aw (by rw[a];simp;unfold lim;omega)];unfold Jl;rw[Aw (by simp;unfold lim;omega),Bn,Bn];simp only[G]
 have d:=E7 (B:=Vz p) (n:=p.2.2.length) (O:=Unit) (λ(s:Mx×List Rt) k=>(s.1,s.2,(k:Int))) (λk s=>s.1.length=p.2.1.length+k∧s.2.length=p.2.1.length+k) (λk s=>.inl (s.1++[Yt p.2.2.length k],s.2++[((0:Int),(1:Int))])) (λo=>match o with|.inl s=>s|.inr _=>([],[])) f (λrec k s e hi=>by
  show cond (decide ((k:Int) < (p.2.2.length:Int))) _ _=_;rw[Bc e,Ab,sn e f];simp only[G];rw[Aw (by rw[hi.1];simp;unfold lim;omega),Aw (by rw[hi.2];simp;unfold lim;omega),Bm e (Ba f)]) (λrec s hi=>by
  show cond (decide ((p.2.2.length:Int) < (p.2.2.length:Int))) _ _=_;rw[A2];rfl) (λk s v e hi m=>by cases m;exact⟨by simp[hi.1];omega,by simp[hi.2];omega⟩) (p.1,p.2.1) ⟨a,rfl⟩
 rw[show((0:Nat):Int)=0 from rfl]at d;rw[d,Tw (λk=>Yt p.2.2.length k) (λ_=>((0:Int),(1:Int)))];simp only;unfold SF;have i:(p.1++(List.range' 0 p.2.2.length).map λk=>Yt p.2.2.length k).length=p.2.1.length+p.2.2.length:=by simp[a]
 have b:(p.2.1++(List.range' 0 p.2.2.length).map λ_=>((0:Int),(1:Int))).length=p.2.1.length+p.2.2.length:=by simp
 have j:=lj (p:=p) (R:=p.1++(List.range' 0 p.2.2.length).map λk=>Yt p.2.2.length k) (rt:=p.2.1++(List.range' 0 p.2.2.length).map λ_=>((0:Int),(1:Int))) (sg:=sg) h i b (λj g=>by
  rw[<-ID (by rw[i];exact g)];unfold rowAt;split
  ·rename_i c;rw[Jq (by rw[a];exact c),ID]
  ·rename_i c;rw[GD (by rw[a];omega),BO,Et];simp[a]) (λj g=>by
  rw[<-OZ (by rw[b];exact g)];unfold Gp;split
  ·rename_i c;rw[Jq c,OZ]
  ·rename_i c;rw[GD (by omega),BO]) p.2.2.length [] 0 fz [] (by simp) (by omega) (by simp) (by unfold fz;omega) (by have:=pW l;simp;unfold lim;omega) (λr d=>by simp at d)
 rw[show((0:Nat):Int)=0 from rfl,show cI []=[]from rfl]at j;rw[j];simp only[Bn];rfl
def Qo(p:LP):Mx:=cond (U1 p) (rT p 1) []
def Aja{p}(h:fN p):JS p=some (Qo p):=by
 unfold JS Qo;rw[AhY h];simp only[G];cases a:U1 p with
 |false=>rfl
 |true=>rw[Ai,Aa,vI a];rfl
def AiO{p}(h:fN p):JK p=some (Qo p):=by
 unfold JK Qo;rw[AfO h];simp only[G];cases a:U1 p with
 |false=>rfl
 |true=>rw[Ai,Aa,tS a];rfl
def Zj(q:K8)(v:Int):List Rt:=q.2.1.map λa=>(cond (a.2.contains v) 1 0,1)
def Mq(q:K8):LP:=((List.range' 0 q.1.toNat).map λ(v:Nat)=>Zj q (v:Int),(List.range' 0 q.1.toNat).map<|λ_=>(1,1),q.2.1.map λ_=>(1,1))
def cpB(q:K8):LP×Bool:=cond (GY q) (Mq q,true) (([],[],[]),false)
def OC{q}(h:GY q=true):1<=q.1∧q.1<=5∧1<=q.2.1.length∧q.2.1.length<=4:=by unfold GY at h;simp only[Ad,H0]at h;omega
section
variable {q:K8}
def yJ(b:T4 q)(v:Int):Aq (KL q v) fz ([],0)=some (Zj q v):=by
 rw[Vh (B:=KL q v) (l:=q.2.1) (s0:=[]) (h:=λa=>(cond (a.2.contains v) 1 0,1)) (by simpa using b.1) (λk c s f d=>by
  show cond (decide ((k:Int) < (q.2.1.length:Int))) _ _=_;rw[Bc c,Ab,AG c];simp only[G];rw[rX (b.2.1 _<|Aj c).2];simp only[G];unfold KM;have e:=b.1;cases(q.2.1[k]).2.contains v with
  |true=>rw[Ab,Aw (by rw[d];simp;unfold lim at e⊢;omega),Bm c (Ba b.1)];rfl
  |false=>rw[Aa,Aw (by rw[d];simp;unfold lim at e⊢;omega),Bm c (Ba b.1)];rfl) (λrec s=>by
  show cond (decide ((q.2.1.length:Int) < (q.2.1.length:Int))) _ _=_;rw[A2];rfl),Bn]
 rfl
def xv(b:T4 q)(v:Int):Aq (Sz q v) fz ([],0)=some (Zj q v):=by
 rw[Vh (B:=Sz q v) (l:=q.2.1) (s0:=[]) (h:=λa=>(cond (a.2.contains v) 1 0,1)) (by simpa using b.1) (λk c s f d=>by
  show cond (decide ((k:Int) < (q.2.1.length:Int))) _ _=_;rw[Bc c,Ab,AG c];simp only[G];rw[ro (b.2.1 _<|Aj c).2];simp only[G];unfold Xj;have e:=b.1;cases(q.2.1[k]).2.contains v with
  |true=>rw[Ab];simp only[G];rw[Aw (by rw[d];simp;unfold lim at e⊢;omega),Bm c (Ba b.1)];rfl
  |false=>rw[Aa];simp only[G];rw[Aw (by rw[d];simp;unfold lim at e⊢;omega),Bm c (Ba b.1)];rfl) (λrec s=>by
  show cond (decide ((q.2.1.length:Int) < (q.2.1.length:Int))) _ _=_;rw[A2];rfl),Bn]
 rfl
def Aed(a:T4 q):Aq (Oe q) fz ([],0)=some (q.2.1.map λ_=>(1,1)):=by
 rw[Vh (B:=Oe q) (l:=q.2.1) (s0:=[]) (h:=λ_=>(1,1)) (by simpa using a.1) (λk b s c d=>by
  have e:=a.1;show cond (decide ((k:Int) < (q.2.1.length:Int))) _ _=_;rw[Bc b,Ab,Aw (by rw[d];simp;unfold lim at e⊢;omega),Bm b (Ba a.1)]) (λrec s=>by
  show cond (decide ((q.2.1.length:Int) < (q.2.1.length:Int))) _ _=_;rw[A2];rfl),Bn]
def Abb(a:T4 q):Aq (SA q) fz ([],0)=some (q.2.1.map λ_=>(1,1)):=by
 rw[Vh (B:=SA q) (l:=q.2.1) (s0:=[]) (h:=λ_=>(1,1)) (by simpa using a.1) (λk b s c d=>by
  have e:=a.1;show cond (decide ((k:Int) < (q.2.1.length:Int))) _ _=_;rw[Bc b,Ab,Aw (by rw[d];simp;unfold lim at e⊢;omega),Bm b (Ba a.1)]) (λrec s=>by
  show cond (decide ((q.2.1.length:Int) < (q.2.1.length:Int))) _ _=_;rw[A2];rfl),Bn]
def Ai8(a:T4 q):NI q=some (cpB q):=by
 unfold NI cpB;rw[UG a];simp only[G];cases c:GY q with
 |false=>rfl
 |true=>
  have⟨f,g,h,i⟩:=OC c;have j:((q.1.toNat:Nat):Int)=q.1:=by omega
  rw[Ai,Aa]
  have d:=E7 (B:=So q) (n:=q.1.toNat) (O:=Unit) (λ(s:Mx×List Rt) k=>(s.1,s.2,(k:Int))) (λk s=>s.1.length=k∧s.2.length=k) (λk s=>.inl (s.1++[Zj q (k:Int)],s.2++[((1:Int),(1:Int))])) (λo=>match o with|.inl s=>s|.inr _=>([],[])) (by unfold lim;omega) (λrec k s b hi=>by
   show cond (decide ((k:Int) < q.1)) _ _=_;rw[Ae (by omega),Ab,yJ a];simp only[G];rw[Aw (by rw[hi.1];simp;unfold lim;omega),Aw (by rw[hi.2];simp;unfold lim;omega),Bm b (by unfold maxLen;omega)]) (λrec s hi=>by
   show cond (decide (((q.1.toNat:Nat):Int) < q.1)) _ _=_;rw[Ac (by omega)];rfl) (λk s l b hi e=>by cases e;exact⟨by simp[hi.1],by simp[hi.2]⟩) ([],[]) ⟨rfl,rfl⟩
  rw[show(([]:Mx),([]:List Rt),(0:Int))=((([],[]):Mx×List Rt).1,(([],[]):Mx×List Rt).2,((0:Nat):Int))from rfl,d,Tw (λk=>Zj q (k:Int)) (λ_=>((1:Int),(1:Int)))];simp only[Bn];rw[Aed a];rfl
def AiM(c:T4 q):Ny q=some (cpB q):=by
 unfold Ny cpB;rw[Uw c];simp only[G];cases f:GY q with
 |false=>rfl
 |true=>
  have⟨i,j,l,m⟩:=OC f;rw[Ai,Aa]
  have g:Nz q=some ((List.range' 0 q.1.toNat).map λ(v:Nat)=>(v:Int)):=by
   unfold Nz;rw[Uw c,f];simp only[G,Ai,Aa]
   have d:=E7 (B:=Sf q) (n:=q.1.toNat) (O:=Unit) (λ(s:zI) k=>(s,(k:Int))) (λk s=>s.length=k) (λk s=>.inl (s++[(k:Int)])) (λo=>match o with|.inl s=>s|.inr _=>[]) (by unfold lim;omega) (λrec k s b hi=>by
    show cond (decide ((k:Int) < q.1)) _ _=_;rw[Ae (by omega),Ab,Aw (by rw[hi];simp;unfold lim;omega),Bm b (by unfold maxLen;omega)]) (λrec s hi=>by
    show cond (decide (((q.1.toNat:Nat):Int) < q.1)) _ _=_;rw[Ac (by omega)];rfl) (λk s h b hi e=>by cases e;simp[hi]) [] rfl
   rw[show((0:Nat):Int)=0 from rfl]at d;rw[d,eU (λ(k:Nat)=>(k:Int))];rfl
  rw[g];simp only[G];unfold V9;have a:((List.range' 0 q.1.toNat).map λ(v:Nat)=>(v:Int)).length=q.1.toNat:=by simp
  have d:=E7 (B:=WJ q ((List.range' 0 q.1.toNat).map λ(v:Nat)=>(v:Int))) (n:=q.1.toNat) (O:=Unit) (λ(s:Mx×List Rt) k=>(s.1,s.2,(k:Int))) (λk s=>s.1.length=k∧s.2.length=k) (λk s=>.inl (s.1++[Zj q (k:Int)],s.2++[((1:Int),(1:Int))])) (λo=>match o with|.inl s=>s|.inr _=>([],[])) (by unfold lim;omega) (λrec k s b hi=>by
   show cond (decide ((k:Int) < ((((List.range' 0 q.1.toNat).map λ(v:Nat)=>(v:Int)).length:Nat):Int))) _ _=_;rw[a,Bc b,Ab,AG (by rw[a];exact b),BO,Et];simp only[G,Cw,DK];rw[xv c];simp only[G];rw[Aw (by rw[hi.1];simp;unfold lim;omega),Aw (by rw[hi.2];simp;unfold lim;omega),Bm b (by unfold maxLen;omega)]) (λrec s hi=>by
   show cond (decide (((q.1.toNat:Nat):Int) < ((((List.range' 0 q.1.toNat).map λ(v:Nat)=>(v:Int)).length:Nat):Int))) _ _=_;rw[a,A2];rfl) (λk s h b hi e=>by cases e;exact⟨by simp[hi.1],by simp[hi.2]⟩) ([],[]) ⟨rfl,rfl⟩
  rw[show(([]:Mx),([]:List Rt),(0:Int))=((([],[]):Mx×List Rt).1,(([],[]):Mx×List Rt).2,((0:Nat):Int))from rfl,d,Tw (λk=>Zj q (k:Int)) (λ_=>((1:Int),(1:Int)))];simp only[Bn];rw[Abb c];rfl
def zA(a:GY q=true):fN (Mq q):=by have⟨b,c,d,e⟩:=OC a;unfold Mq fN;refine⟨by simp;unfold lim;omega,by simp;unfold lim;omega,by simp;unfold lim;omega⟩
end
def am(l:zI)(n:Int):zI:=l.map λx=>wZ<|x * n
def agB(s:zI)(a b:List Rt):Int×Bool:=cond ((PD a).2==0) (0,false) (cond ((PD b).2==0) (0,false) (cond (a.length !=s.length) (0,false) (cond (b.length !=s.length) (0,false) (match Ta s (am (PD a).1 (PD b).2),Ta s (am (PD b).1 (PD a).2)with
 |some m,some n=>(lb m n,true)
 |_,_=>(0,false)))))
def Wk{w}(h:((PD w).2==0)=false):(PD w).1.length=w.length:=by
 unfold PD at h⊢;cases a:Yr 1 w with
 |inl d=>simp
 |inr o=>
  rw[a]at h;exfalso;unfold Yr at a;cases b:BL w λ_ r=> !YU r with
  |true=>rw[b]at a;cases a;cases h
  |false=>
   rw[b,Aa]at a;cases c:scD 1 w with
   |none=>rw[c]at a;cases a;cases h
   |some d=>rw[c]at a;cases a
def lq{l}(n:Int)(h:l.length<=lim):Si l n=some (am l n):=by
 unfold Si am
 rw[Jo (a:=l) (h:=λx=>wZ (x * n)) h (λk b c=>by
  show cond (decide ((k:Int) < (l.length:Int))) _ _=_;rw[Bc b,Ab,AG b];simp only[G];rw[Aw (by simp only[Am,Av,Af];omega),Bm b (Ba h)]) (λrec y=>by
  show cond (decide ((l.length:Int) < (l.length:Int))) _ _=_;rw[A2];rfl)]
 rfl
def vP{v w}(h:v.1.length<=lim)(d:v.1.length=w.1.length):Aq (Lf v w) fz (v.1,w.1,0)=some (am v.1 w.2,am w.1 v.2):=by
 have b:∀(j k:Nat) (f:Nat),k+j=v.1.length->j < f->Aq (Lf v w) f ((am (v.1.take k) w.2)++v.1.drop k,(am (w.1.take k) v.2)++w.1.drop k,(k:Int))=some (am v.1 w.2,am w.1 v.2):=by
  intro j;induction j with
  |zero=>
   intro k f a m;obtain⟨f,rfl⟩:∃g,f=g+1:=⟨f - 1,by omega⟩;obtain rfl:k=v.1.length:=by omega
   rw[A6,Bl,CJ,d,Bl,CJ,AN,AN];show cond (decide ((w.1.length:Int) < (((am v.1 w.2).length:Nat):Int))) _ _=_;rw[show(am v.1 w.2).length=w.1.length from by unfold am;rw[Am,d],A2];rfl
  |succ j o=>
   intro k f a m;obtain⟨f,rfl⟩:∃g,f=g+1:=⟨f - 1,by omega⟩;have c:k < v.1.length:=by omega
   have p:k < w.1.length:=by omega
   have i:∀(l:zI) (n:Int) (a:k < l.length),((am (l.take k) n)++l.drop k).length=l.length∧AF ((am (l.take k) n)++l.drop k) (k:Int)=some l[k]∧CL ((am (l.take k) n)++l.drop k) (k:Int) (wZ<|l[k] * n)=(am (l.take<|k+1) n)++l.drop (k+1):=by
    intro l n a;have e:(am (l.take k) n).length=k:=by unfold am;rw[Am,Av];omega
    refine⟨by rw[Ak,e,Be];omega,?_,?_⟩
    ·rw[G8,Cu (by omega),e,QL,Du,Di,Ah a]
    ·unfold CL;rw[AB,List.set_append_right _ _ (by omega),e,QL,AS a,N5,A7 a];unfold am;rw[BM,Bg];rfl
   have⟨q,r,s⟩:=i v.1 w.2 c;have⟨b1,b2,t⟩:=i w.1 v.2 p;rw[A6];show cond (decide ((k:Int) < (((am (v.1.take k) w.2++v.1.drop k).length:Nat):Int))) _ _=_;rw[q,Bc c,Ab,Aw (by omega),r];simp only[G];rw[b1,Aw (by omega),b2];simp only[G];rw[s,t,Bm c (Ba h)];exact o (k+1) f (by omega) (by omega)
 have:=b v.1.length 0 fz (by omega)<|EC h;simpa[am]using this
section
variable {s:zI}{a b:List Rt}
def cH(x y:Nat):((x:Int)!=(y:Int))=(x !=y):=by rw[Ck,CY,CY];omega
def AhP(f:s.length<=lim)(g:∀e∈s,e<=9223372036854775807)(h:a.length<=lim)(j:b.length<=lim):JR s a b=some (agB s a b):=by
 unfold JR agB;rw[cN h];simp only[G];rw[cN j];simp only[G];cases c:(PD a).2==0 with
 |true=>rfl
 |false=>
  cases i:(PD b).2==0 with
  |true=>rfl
  |false=>
   rw[Aa,Aa,Aa,Aa,Wk c,Wk i,cH,cH];cases k:a.length !=s.length with
   |true=>rfl
   |false=>
    cases l:b.length !=s.length with
    |true=>rfl
    |false=>
     rw[DW]at k l;rw[Aa,Aa,Aa,Aa,vP (by rw[Wk c];exact h) (by rw[Wk c,Wk i];omega)];simp only[G];rw[qm f g];simp only[G];rw[qm f g];simp only[G];cases o:Ta s (am (PD a).1 (PD b).2)with
     |none=>rfl
     |some m=>
      cases d:Ta s (am (PD b).1 (PD a).2)with
      |none=>rfl
      |some n=>simp only[toR,Ai,Aa];rw[nU (Tc o) (Tc d)]
def AfC(d:s.length<=lim)(f:∀e∈s,e<=9223372036854775807)(g:a.length<=lim)(h:b.length<=lim):JJ s a b=some (agB s a b):=by
 unfold JJ agB;rw[jo g];simp only[G];rw[jo h];simp only[G];rw[cH,cH];cases i:(PD a).2==0 with
 |true=>cases a.length !=s.length<;>cases b.length !=s.length<;>rfl
 |false=>
  cases j:(PD b).2==0 with
  |true=>cases a.length !=s.length<;>cases b.length !=s.length<;>rfl
  |false=>
   simp only[Aa];cases l:a.length !=s.length with
   |true=>rfl
   |false=>
    cases o:b.length !=s.length with
    |true=>rfl
    |false=>
     simp only[Aa];rw[lq _ (by rw[Wk i];exact g)];simp only[G];rw[tT d f];simp only[G];rw[lq _ (by rw[Wk j];exact h)];simp only[G];rw[tT d f];simp only[G];cases k:Ta s (am (PD a).1 (PD b).2)with
     |none=>rfl
     |some m=>
      cases c:Ta s (am (PD b).1 (PD a).2)with
      |none=>rfl
      |some n=>simp only[toR,Ai,Aa];rw[tK (Tc k) (Tc c)]
end
def wE(s:zI)(a b:List Rt):decide ((agB s a b).1 < 0)=((agB s a b).1== -1):=by
 have c:(agB s a b).1=0∨(agB s a b).1=1∨(agB s a b).1= -1:=by
  unfold agB;cases(PD a).2==0 with
  |true=>exact .inl rfl
  |false=>
   cases(PD b).2==0 with
   |true=>exact .inl rfl
   |false=>
    cases a.length !=s.length with
    |true=>exact .inl rfl
    |false=>
     cases b.length !=s.length with
     |true=>exact .inl rfl
     |false=>
      simp only[Aa];cases Ta s (am (PD a).1 (PD b).2)with
      |none=>exact .inl rfl
      |some m=>
       cases Ta s (am (PD b).1 (PD a).2)with
       |none=>exact .inl rfl
       |some n=>
        simp only;unfold lb;cases decide (m < n)with
        |true=>exact .inr<|.inr rfl
        |false=>
         cases decide (n < m)with
         |true=>exact .inr<|.inl rfl
         |false=>exact .inl rfl
 rcases c with h|h|h<;>rw[h]<;>rfl
end Go.Proofs.YtpnoalhfjnjeaaaGreatDoor
