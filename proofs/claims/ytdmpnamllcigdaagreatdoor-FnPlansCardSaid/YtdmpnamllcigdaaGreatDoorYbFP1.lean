/- The leapfrog intersection: what the reference and the program compute. On the printed functions; conditions: sizes. -/
import Derived.Test.YtdmpnamllcigdaaGreatDoorTcFP1
import Derived.Test.YtdmpnamllcigdaaGreatDoorSvFP1
import Derived.Test.YtdmpnamllcigdaaGreatDoorAlFP1
open Go.RowKit
set_option linter.all false
namespace Go.Proofs.YtdmpnamllcigdaaGreatDoor
def PR(l:zI)(i:Nat)(t:Int):Nat:=i+((l.drop i).takeWhile λx=>decide (x < t)).length
def YD{l i t}(h:∀hi:i < l.length,¬l[i] < t):PR l i t=i:=by
 unfold PR;rcases Bi i l.length with hi|hi
 ·rw[BQ hi,List.takeWhile_cons,AA (by simpa using h hi)];rfl
 ·rw[DR hi];rfl
def lM{l i t}(hi:i < l.length)(h:l[i] < t):PR l i t=PR l (i+1) t:=by unfold PR;rw[BQ hi,List.takeWhile_cons,Az (by simpa using h),AC];omega
def d9{l t}:∀(d i:Nat),i+d=l.length->i<=PR l i t∧PR l i t<=l.length∧(∀k (a:k < l.length),i<=k->k < PR l i t->l[k] < t)∧(∀h:PR l i t < l.length,t<=l[PR l i t])
 |0,i,h=>by
  have e:PR l i t=i:=YD λhi=>absurd hi aG
  rw[e];exact⟨A5 _,aG,λk a f b=>by omega,λh=>by omega⟩
 |d+1,i,h=>by
  have hi:i < l.length:=aG;by_cases c:l[i] < t
  ·have⟨f,b,j,m⟩:=d9 (l:=l) (t:=t) d (i+1) aG;rw[lM hi c];refine⟨aG,b,λk a o n=>?_,m⟩;rcases Bi i k with g|g
   ·exact j k a g n
   ·have:k=i:=aG;subst this;exact c
  ·have e:PR l i t=i:=YD λ_=>c
   rw[e];exact⟨A5 _,aG,λk a f b=>by omega,λ_=>by omega⟩
def gL(M:List zI)(j:Nat):zI:=(M[j]?).getD []
def gN(A:zN)(j:Nat):Nat:=(A[j]?).getD 0
def gI(l:zI)(i:Nat):Int:=(l[i]?).getD 0
def Xr{M j}(h:j < M.length):gL M j=M[j]:=by unfold gL;rw[Af h];rfl
def Aka{A j}(h:j < A.length):gN A j=A[j]:=by unfold gN;rw[Af h];rfl
def U5{l i}(h:i < l.length):gI l i=l[i]:=by unfold gI;rw[Af h];rfl
def kK{A p j v}(a:p < A.length):gN (A.set p v) j=if j=p then v else gN A j:=by
 unfold gN;rw[FG];by_cases h:p=j
 ·subst h;rw[Az rfl,Az a,Az rfl];rfl
 ·rw[AA h,AA (λe=>h e.symm)]
abbrev LfS:=zI×zN×Nat×Int×Nat
def fP(M:List zI)(s:LfS):Nat:=cond (gI (gL M s.2.2.1) (gN s.2.1 s.2.2.1)==s.2.2.2.1) (gN s.2.1 s.2.2.1+1)<|PR (gL M s.2.2.1) (gN s.2.1 s.2.2.1) s.2.2.2.1
def lfO(M:List zI)(s:LfS):zI:=cond (gI (gL M s.2.2.1) (gN s.2.1 s.2.2.1)==s.2.2.2.1) (s.1++[s.2.2.2.1]) s.1
def lfR(M:List zI):Nat->LfS->Option (zI×Nat)
 |0,_=>none
 |m+1,s=>cond (fP M s==(gL M s.2.2.1).length) (some (lfO M s,s.2.2.2.2+1))<|lfR M m (lfO M s,s.2.1.set s.2.2.1<|fP M s,(s.2.2.1+1) % M.length,gI (gL M s.2.2.1)<|fP M s,s.2.2.2.2+1)
def Asc(l:zI):Prop:=l.Pairwise λa b=>a < b
def val(M:List zI)(A:zN)(j:Nat):Int:=gI (gL M j)<|gN A j
def ZI(M:List zI)(A:zN):Nat->Nat
 |0=>0
 |k+1=>ZI M A k+((gL M k).length - gN A k)
def Comm(M:List zI)(x:Int):Prop:=∀l∈M,x∈l
structure LfOk (M:List zI) (s:LfS):Prop where
 len:s.2.1.length=M.length
 p:s.2.2.1 < M.length
 at_:∀j,j < M.length->gN s.2.1 j < (gL M j).length
 ord:∀a b,a<=b->b < M.length->val M s.2.1 ((s.2.2.1+a) % M.length)<=val M s.2.1 ((s.2.2.1+b) % M.length)
 top:val M s.2.1 ((s.2.2.1+(M.length - 1)) % M.length)=s.2.2.2.1
 asc:Asc s.1
 low:∀x∈s.1,x < s.2.2.2.1
 com:∀x∈s.1,Comm M x
 all:∀x,Comm M x->x∈s.1∨s.2.2.2.1<=x
section
variable {M:List zI}{s:LfS}
def fQ{l}(h:Asc l){i j:Nat}(b:j < l.length)(a:i < j):l[i]'aG < l[j]:=B3.1 h i j aG b a
def j4{l}(h:Asc l){x:Int}(c:x∈l){i:Nat}(hi:∀k (b:k < l.length),k < i->l[k] < x)(d:i < l.length):l[i]<=x:=by
 obtain⟨k,b,rfl⟩:=AE.1 c;rcases Nat.lt_trichotomy k i with a|a|a
 ·exact absurd (hi k b a) aG
 ·subst a;exact Gb _
 ·exact Rk<|fQ h b a
def pD(h:LfOk M s):∃a:gN s.2.1 s.2.2.1 < (gL M s.2.2.1).length,gI (gL M s.2.2.1) (gN s.2.1 s.2.2.1)=(gL M s.2.2.1)[gN s.2.1 s.2.2.1]∧(gL M s.2.2.1)[gN s.2.1 s.2.2.1]<=s.2.2.2.1:=by have a:=h.at_ _ h.p;refine⟨a,U5 a,?_⟩;have b:=h.ord 0 (M.length - 1) aG (by have:=h.p;omega);rw[D5,DF h.p,h.top]at b;unfold val at b;rw[U5 a]at b;exact b
def sq(h:LfOk M s):gN s.2.1 s.2.2.1 < fP M s∧fP M s<=(gL M s.2.2.1).length:=by
 have⟨c,d,e2⟩:=pD h;unfold fP;cases e:(gI (gL M s.2.2.1) (gN s.2.1 s.2.2.1)==s.2.2.2.1)with
 |true=>exact⟨G8 _,c⟩
 |false=>
  have a:¬gI (gL M s.2.2.1) (gN s.2.1 s.2.2.1)=s.2.2.2.1:=by simpa using e
  rw[d]at a;have b:(gL M s.2.2.1)[gN s.2.1 s.2.2.1] < s.2.2.2.1:=aG;have⟨i,f,j,k⟩:=d9 (l:=gL M s.2.2.1) (t:=s.2.2.2.1) ((gL M s.2.2.1).length - gN s.2.1 s.2.2.1) (gN s.2.1 s.2.2.1) aG;have g:PR (gL M s.2.2.1) (gN s.2.1 s.2.2.1) s.2.2.2.1=PR (gL M s.2.2.1) (gN s.2.1 s.2.2.1+1) s.2.2.2.1:=lM c b;have⟨m,_⟩:=d9 (l:=gL M s.2.2.1) (t:=s.2.2.2.1) ((gL M s.2.2.1).length - (gN s.2.1 s.2.2.1+1)) (gN s.2.1 s.2.2.1+1) aG;exact⟨by rw[Ad,g];omega,f⟩
def Wy{j}(a:j < M.length):gL M j∈M:=by rw[Xr a];exact Ae a
def xr(h:LfOk M s)(H:∀l∈M,Asc l):Asc (lfO M s)∧(∀x∈lfO M s,Comm M x∧x<=s.2.2.2.1)∧(∀x,Comm M x->x∈lfO M s∨∃hi:fP M s < (gL M s.2.2.1).length,(gL M s.2.2.1)[fP M s]<=x)∧(∀hi:fP M s < (gL M s.2.2.1).length,s.2.2.2.1<=(gL M s.2.2.1)[fP M s]∧∀x∈lfO M s,x < (gL M s.2.2.1)[fP M s]):=by
 have⟨B,u,e2⟩:=pD h;have n:=H _<|Wy h.p;unfold fP lfO;cases C:(gI (gL M s.2.2.1) (gN s.2.1 s.2.2.1)==s.2.2.2.1)with
 |true=>
  have v:gI (gL M s.2.2.1) (gN s.2.1 s.2.2.1)=s.2.2.2.1:=by simpa using C
  rw[u]at v;simp only[Ac]
  have o:Comm M s.2.2.2.1:=by
   intro l w;obtain⟨j,r,rfl⟩:=AE.1 w
   have g:∃a,a < M.length∧(s.2.2.1+a) % M.length=j:=by
    rcases Bi j s.2.2.1 with e|e
    ·refine⟨j+M.length - s.2.2.1,by have:=h.p;omega,?_⟩;rw[show s.2.2.1+(j+M.length - s.2.2.1)=j+M.length by have:=h.p;omega,Nat.add_mod_right,DF r]
    ·exact⟨j - s.2.2.1,aG,by rw[show s.2.2.1+(j - s.2.2.1)=j by omega,DF r]⟩
   have⟨a,y,D⟩:=g;have e:=h.ord 0 a aG y;have i:=h.ord a (M.length - 1) aG aG;rw[D5,DF h.p]at e;rw[h.top,D]at i;rw[D]at e;unfold val at e i;have p:=h.at_ j r;rw[u,v]at e;rw[U5 p]at e i;have:(gL M j)[gN s.2.1 j]=s.2.2.2.1:=aG;have q:=Ae p;rw[this,Xr r]at q;exact q
  refine⟨?_,?_,?_,?_⟩
  ·refine EF.2 ⟨h.asc,D2 _ _,λa y b F=>?_⟩;rw[As]at F;subst F;exact h.low a y
  ·intro x d;rcases Al.1 d with d|d
   ·exact⟨h.com x d,Rk<|h.low x d⟩
   ·rw[As]at d;subst d;exact⟨o,Gb _⟩
  ·intro x d;rcases h.all x d with e|e
   ·exact .inl<|AD _ e
   ·by_cases z:x=s.2.2.2.1
    ·left;subst z;exact AB _ nF
    ·right;have f:=d _<|Wy h.p
     have c:∀k (g:k < (gL M s.2.2.1).length),k < gN s.2.1 s.2.2.1+1->(gL M s.2.2.1)[k] < x:=λk g i=>by
      rcases Bi k (gN s.2.1 s.2.2.1)with m|m
      ·have:=fQ n B m;omega
      ·have:k=gN s.2.1 s.2.2.1:=aG;subst this;omega
     have hi:gN s.2.1 s.2.2.1+1 < (gL M s.2.2.1).length:=by apply Bp;intro I;obtain⟨k,g,rfl⟩:=AE.1 f;have:=c k g aG;omega
     exact⟨hi,j4 n f c hi⟩
  ·intro hi;have e:=fQ n hi<|G8 _;rw[v]at e;refine⟨Rk e,λx d=>?_⟩;rcases Al.1 d with d|d
   ·have:=h.low x d;omega
   ·rw[As]at d;subst d;exact e
 |false=>
  have A:¬gI (gL M s.2.2.1) (gN s.2.1 s.2.2.1)=s.2.2.2.1:=by simpa using C
  rw[u]at A;simp only[Ad];have⟨K,L,J,G⟩:=d9 (l:=gL M s.2.2.1) (t:=s.2.2.2.1) ((gL M s.2.2.1).length - gN s.2.1 s.2.2.1) (gN s.2.1 s.2.2.1) aG;refine⟨h.asc,λx d=>⟨h.com x d,Rk<|h.low x d⟩,λx d=>?_,λhi=>⟨G hi,λx d=>by have:=h.low x d;have:=G hi;omega⟩⟩;rcases h.all x d with e|e
  ·exact .inl e
  ·right;have f:=d _<|Wy h.p
   have c:∀k (g:k < (gL M s.2.2.1).length),k < PR (gL M s.2.2.1) (gN s.2.1 s.2.2.1) s.2.2.2.1->(gL M s.2.2.1)[k] < x:=λk g i=>by
    rcases Bi k (gN s.2.1 s.2.2.1)with m|m
    ·have:=fQ n B m;omega
    ·have:=J k g m i;omega
   have hi:PR (gL M s.2.2.1) (gN s.2.1 s.2.2.1) s.2.2.2.1 < (gL M s.2.2.1).length:=by apply Bp;intro I;obtain⟨k,g,rfl⟩:=AE.1 f;have:=c k g aG;omega
   exact⟨hi,j4 n f c hi⟩
def sr(h:LfOk M s)(t:∀l∈M,Asc l)(hi:fP M s < (gL M s.2.2.1).length):LfOk M (lfO M s,s.2.1.set s.2.2.1<|fP M s,(s.2.2.1+1) % M.length,gI (gL M s.2.2.1)<|fP M s,s.2.2.2.2+1):=by
 have f:s.2.2.1 < s.2.1.length:=by rw[h.len];exact h.p
 have o:0 < M.length:=by have:=h.p;omega
 have⟨u,v,w,y⟩:=xr h t;have⟨C,z⟩:=y hi
 have p:∀j,val M (s.2.1.set s.2.2.1<|fP M s) j=if j=s.2.2.1 then(gL M s.2.2.1)[fP M s]else val M s.2.1 j:=λj=>by
  unfold val;rw[kK f];by_cases g:j=s.2.2.1
  ·subst g;rw[Az rfl,Az rfl,U5 hi]
  ·rw[AA g,AA g]
 have c:∀a,a < M.length->((s.2.2.1+1) % M.length+a) % M.length=if a+1=M.length then s.2.2.1 else(s.2.2.1+(a+1)) % M.length:=λa D=>by
  rw[Nat.mod_add_mod];split
  ·rename_i i;rw[show s.2.2.1+1+a=s.2.2.1+M.length by omega,Nat.add_mod_right,DF h.p]
  ·rw[show s.2.2.1+1+a=s.2.2.1+(a+1)by omega]
 have d:∀a,0 < a->a < M.length->(s.2.2.1+a) % M.length≠s.2.2.1:=λa F i r=>by
  rcases Bi (s.2.2.1+a) M.length with q|q
  ·rw[DF q]at r;omega
  ·rw[Nat.mod_eq_sub_mod q,DF (by have:=h.p;omega)]at r;omega
 refine⟨by simp only[By];exact h.len,O6 _ o,λj g=>?_,λa b A B=>?_,?_,u,λx k=>?_,λx k=>(v x k).1,λx k=>?_⟩
 ·simp only;rw[kK f];split
  ·rename_i e;subst e;exact hi
  ·exact h.at_ j g
 ·simp only;rw[c a aG,c b B,p,p];by_cases m:b+1=M.length
  ·rw[Az m,Az rfl];by_cases n:a+1=M.length
   ·rw[Az n,Az rfl];exact Gb _
   ·rw[AA n,AA (d (a+1) aG aG)];have:=h.ord (a+1) (M.length - 1) aG aG;rw[h.top]at this;omega
  ·rw[AA m,AA (aG:¬a+1=M.length),AA (d (b+1) aG aG),AA (d (a+1) aG aG)];exact h.ord (a+1) (b+1) aG aG
 ·simp only;rw[c (M.length - 1) aG,Az aG,p,Az rfl,U5 hi]
 ·simp only;rw[U5 hi];exact z x k
 ·simp only;rw[U5 hi];rcases w x k with i|⟨_,i⟩
  ·exact .inl i
  ·exact .inr i
def lG{A p v}(a:p < A.length)(d:gN A p < v)(e:v<=(gL M p).length):∀K,(K<=p->ZI M (A.set p v) K=ZI M A K)∧(p < K->ZI M (A.set p v) K < ZI M A K)
 |0=>⟨λ_=>rfl,λh=>absurd h aG⟩
 |K+1=>by
  have⟨b,f⟩:=lG a d e K;rw[ZI,ZI,kK a];refine⟨λh=>?_,λh=>?_⟩
  ·rw[b aG,AA aG]
  ·by_cases c:K=p
   ·subst c;rw[b (A5 _),Az rfl];omega
   ·rw[AA c];have:=f aG;omega
def xt(hA:∀l∈M,Asc l):∀(m:Nat) (s:LfS),LfOk M s->ZI M s.2.1 M.length < m->∃out n,lfR M m s=some (out,n)∧Asc out∧(∀x,x∈out↔Comm M x)∧n<=s.2.2.2.2+ZI M s.2.1 M.length
 |0,s,h,hm=>by omega
 |m+1,s,h,hm=>by
  have⟨o1,o2,o3,o4⟩:=xr h hA;have⟨n1,n2⟩:=sq h;have hpl:s.2.2.1 < s.2.1.length:=by rw[h.len];exact h.p
  have hrem:=(lG (M:=M) hpl n1 n2 M.length).2 h.p;rw[lfR];cases hc:(fP M s==(gL M s.2.2.1).length)with
  |true=>
   have hc:fP M s=(gL M s.2.2.1).length:=by simpa using hc
   refine⟨_,_,rfl,o1,λx=>⟨λhx=>(o2 x hx).1,λhx=>?_⟩,aG⟩;rcases o3 x hx with h1|⟨h1,_⟩
   ·exact h1
   ·omega
  |false=>
   have hc:¬fP M s=(gL M s.2.2.1).length:=by simpa using hc
   have⟨out,n,e,q1,q2,q3⟩:=xt hA m _ (sr h hA aG) (by simp only;omega);exact⟨out,n,e,q1,q2,by simp only at q3;omega⟩
end
def Xt(l:zI):Int:=gI l 0
def scP(H:zI)(h:Int):Nat->Nat
 |0=>0
 |k+1=>if h < gI H k then scP H h k else k+1
def tj(H:zI)(h:Int):∀k,scP H h k<=k
 |0=>A5 _
 |k+1=>by
  rw[scP];split
  ·have:=tj H h k;omega
  ·exact A5 _
def AdD(H:zI)(h:Int):∀k,(∀j,scP H h k<=j->j < k->h < gI H j)∧(0 < scP H h k->gI H (scP H h k - 1)<=h)
 |0=>⟨λj a b=>by omega,λh=>by rw[scP]at h;omega⟩
 |k+1=>by
  have⟨e,f⟩:=AdD H h k;rw[scP];split
  ·rename_i c;refine⟨λj a b=>?_,f⟩;rcases Bi j k with d|d
   ·exact e j a d
   ·have:j=k:=aG;subst this;exact c
  ·rename_i c;exact⟨λj a b=>by omega,λ_=>by rw[Nat.add_sub_cancel];omega⟩
def putAt{α:Type}(l:List α)(k:Nat)(x:α):List α:=l.take k++x::l.drop k
def AbV{α:Type}{l:List α}{k:Nat}{x:α}(h:k<=l.length):(putAt l k x).length=l.length+1:=by unfold putAt;rw[An,AH,AC,BH];omega
def put_mem{α:Type}{l:List α}{k:Nat}{x y:α}:y∈putAt l k x↔y=x∨y∈l:=by
 unfold putAt
 conv=>rhs;rhs;rw[<-CI k l]
 rw[Al,AL,Al];constructor
 ·rintro(h|h|h)
  ·exact .inr<|.inl h
  ·exact .inl h
  ·exact .inr<|.inr h
 ·rintro(h|h|h)
  ·exact .inr<|.inl h
  ·exact .inl h
  ·exact .inr<|.inr h
def sW{α β:Type}(f:α->β)(l:List α)(k:Nat)(x:α):(putAt l k x).map f=putAt (l.map f) k (f x):=by unfold putAt;rw[Br,AP,List.map_take,List.map_drop]
def pX{l:zI}(c:l.Pairwise λa b=>a<=b)(h:Int):(putAt l (scP l h l.length) h).Pairwise λa b=>a<=b:=by
 obtain⟨m,n⟩:=AdD l h l.length;have d:=tj l h l.length;generalize scP l h l.length=k at m n d;unfold putAt;refine EF.2 ⟨c.sublist<|List.take_sublist _ _,Ct.2 ⟨λy p=>?_,c.sublist<|List.drop_sublist _ _⟩,λa q b e=>?_⟩
 ·obtain⟨j,f,rfl⟩:=AE.1 p;rw[BH]at f;rw[Pt];have:=m (k+j) aG aG;rw[U5 aG]at this;omega
 ·obtain⟨j,f,rfl⟩:=AE.1 q;rw[AH]at f;rw[Gw];have g:=n aG;rw[U5 aG]at g
  have r:l[j]<=l[k - 1]:=by
   rcases Bi j (k - 1)with o|o
   ·exact B3.1 c j (k - 1) aG aG o
   ·have:j=k - 1:=aG;subst this;exact Gb _
  rcases AL.1 e with rfl|e
  ·omega
  ·obtain⟨i,hi,rfl⟩:=AE.1 e;rw[BH]at hi;rw[Pt];exact B3.1 c j (k+i) aG aG aG
def bj(L:List zI):Nat->zN
 |0=>[]
 |i+1=>putAt (bj L i) (scP ((bj L i).map λj=>Xt<|gL L j) (Xt<|gL L i) i) i
def gq(L:List zI):∀i,(bj L i).length=i
 |0=>rfl
 |i+1=>by have h:=gq L i;rw[bj,AbV (by rw[h];exact tj _ _ _),h]
def lz(L:List zI):∀i j,j∈bj L i↔j < i
 |0,j=>by simp[bj]
 |i+1,j=>by rw[bj,put_mem,lz L i];omega
def jx(L:List zI):∀i,((bj L i).map λj=>Xt<|gL L j).Pairwise λa b=>a<=b
 |0=>List.Pairwise.nil
 |i+1=>by rw[bj,sW];have:=pX (jx L i)<|Xt<|gL L i;rw[Ai,gq]at this;exact this
def IG(L:List zI):List zI:=(bj L L.length).map<|gL L
def cE(L:List zI):(IG L).length=L.length:=by unfold IG;rw[Ai,gq]
def VB(L:List zI)(l:zI):l∈IG L↔l∈L:=by
 unfold IG;rw[Aw];constructor
 ·rintro⟨j,a,rfl⟩;exact Wy<|(lz L _ j).1 a
 ·intro h;obtain⟨j,a,rfl⟩:=AE.1 h;exact⟨j,(lz L _ j).2 a,Xr a⟩
def Aar(L:List zI)(x:Int):Comm (IG L) x↔∀l∈L,x∈l:=⟨λh l a=>h l<|(VB L l).2 a,λh l a=>h l<|(VB L l).1 a⟩
def wF{α:Type}(f:α->zI)(l:List α){j:Nat}(h:j < l.length):gL (l.map f) j=f l[j]:=by rw[Xr (by rw[Ai];exact h),Bl]
def zeros(k:Nat):zN:=List.replicate k 0
def AaO(k j:Nat):gN (zeros k) j=0:=by unfold gN zeros;rw[List.getElem?_replicate];split<;>rfl
def lf0(M:List zI):LfS:=([],zeros M.length,0,Xt<|gL M<|M.length - 1,0)
def xp{L}(r:0 < L.length)(g:∀l∈L,0 < l.length)(s:∀l∈L,Asc l):LfOk (IG L) (lf0<|IG L):=by
 have n:0 < (IG L).length:=by rw[cE];exact r
 have o:∀j,gN (lf0<|IG L).2.1 j=0:=λj=>AaO _ _
 have c:∀j,val (IG L) (lf0<|IG L).2.1 j=Xt (gL (IG L) j):=λj=>by unfold val;rw[o];rfl
 have d:∀j,j < (IG L).length->0 < (gL (IG L) j).length:=λj i=>g _<|(VB L _).1<|Wy i
 have t:∀a b,a<=b->b < (IG L).length->Xt (gL (IG L) a)<=Xt (gL (IG L) b):=λa b e k=>by
  have u:=jx L L.length;have v:(bj L L.length).length=(IG L).length:=by rw[gq,cE]
  unfold IG;rw[wF _ _ aG,wF _ _ aG];rcases Bi a b with p|p
  ·have:=B3.1 u a b (by rw[Ai];omega) (by rw[Ai];omega) p;rw[Bl,Bl]at this;exact this
  ·have:a=b:=aG;subst this;exact Gb _
 refine⟨by show(zeros _).length=_;unfold zeros;rw[CH],n,λj i=>by rw[o];exact d j i,λa b e k=>?_,?_,List.Pairwise.nil,λx f=>(by cases f),λx f=>(by cases f),λx f=>.inr ?_⟩
 ·rw[c,c];show Xt (gL (IG L)<|(0+a) % (IG L).length)<=Xt (gL (IG L)<|(0+b) % (IG L).length);rw[C9,C9,DF aG,DF k];exact t a b e k
 ·rw[c];show Xt (gL (IG L)<|(0+((IG L).length - 1)) % (IG L).length)=_;rw[C9,DF aG];rfl
 ·show Xt (gL (IG L)<|(IG L).length - 1)<=x;have m:=f _<|Wy<|show(IG L).length - 1 < (IG L).length by omega
  have w:=s _<|(VB L _).1<|Wy<|show(IG L).length - 1 < (IG L).length by omega
  have q:=d _ (show(IG L).length - 1 < (IG L).length by omega);unfold Xt;rw[U5 q];exact j4 w m (λk n h=>absurd h aG) q
def p7{M A B}(h:∀l∈M,l.length<=B):∀K,K<=M.length->ZI M A K<=K * B
 |0,_=>by rw[ZI];omega
 |K+1,a=>by
  have b:=p7 (A:=A) h K aG;have c:=h _<|Wy<|show K < M.length by omega
  rw[ZI,DS,FA];omega
section
variable {L:List zI}
end
def iE(L:List zI):Prop:=L.length<=5∧∀l∈L,l.length<=4000
def iE.lim{L}(h:iE L):L.length<=Go.Proofs.YtdmpnamllcigdaaGreatDoor.lim∧∀l∈L,l.length<=Go.Proofs.YtdmpnamllcigdaaGreatDoor.lim:=⟨by have:=h.1;unfold Go.Proofs.YtdmpnamllcigdaaGreatDoor.lim;omega,λl a=>by have:=h.2 l a;unfold Go.Proofs.YtdmpnamllcigdaaGreatDoor.lim;omega⟩
def Y5(L:List zI):Bool:= !(BK L λ_ l=>BK l<|Iw l)&&decide (0 < (L.length:Int))
def Aee{l:zI}(h:BK l (Iw l)=false):Asc l:=by
 have a:∀k (b:k+1 < l.length),l[k]'aG < l[k+1]:=λk b=>by have:=FW h b;unfold Iw at this;rw[Ak aG,AK,show k+1 - 1=k by omega,B5 aG]at this;have:=K6 this;omega
 unfold Asc;rw[B3];intro i j hi c e;induction j with
 |zero=>omega
 |succ j f=>
  rcases Bi i j with d|d
  ·have:=f aG d;have:=a j c;omega
  ·have:i=j:=aG;subst this;exact a i c
def Ah5{l}(h:Asc l):BK l (Iw l)=false:=by
 refine Z3 λi hi=>?_
 unfold Iw;by_cases a:0 < i
 ·rw[Ak a,AK,B5 aG,Ah];have:=fQ h hi (show i - 1 < i by omega);omega
 ·rw[Ah a];rfl
section
variable {L:List zI}
def shK(L:List zI):Nat->Int
 |0=>0
 |k+1=>if k=0∨((gL L k).length:Int) < shK L k then((gL L k).length:Int)else shK L k
def lP:∀{k:Nat},0 < k->k<=L.length->(shK L k=0↔∃j,j < k∧(gL L j).length=0)∧0<=shK L k
 |0,h,_=>absurd h aG
 |k+1,_,i=>by
  rw[shK];by_cases d:k=0
  ·subst d;rw[Az (.inl rfl)];refine⟨⟨λh=>⟨0,aG,aG⟩,λ⟨j,b,e⟩=>?_⟩,aG⟩;have:j=0:=aG;subst this;omega
  ·have⟨c,f⟩:=lP (k:=k) aG aG;by_cases g:((gL L k).length:Int) < shK L k
   ·rw[Az (.inr g)];refine⟨⟨λh=>⟨k,aG,aG⟩,λ⟨j,b,e⟩=>?_⟩,aG⟩;rcases Bi j k with a|a
    ·have:=c.2 ⟨j,a,e⟩;omega
    ·have:j=k:=aG;subst this;omega
   ·rw[AA aG];refine⟨⟨λh=>?_,λ⟨j,b,e⟩=>?_⟩,f⟩
    ·have⟨j,b,e⟩:=c.1 h;exact⟨j,aG,e⟩
    ·rcases Bi j k with a|a
     ·exact c.2 ⟨j,a,e⟩
     ·have:j=k:=aG;subst this;omega
def lfB(L:List zI):zI×Int:=cond (Y5 L&& !(shK L L.length==0)) (((lfR (IG L) fz<|lf0<|IG L).map λr=>(r.1,(r.2:Int))).getD ([],0)) ([],0)
def eJ(h:Y5 L=true):0 < L.length∧∀l∈L,Asc l:=by unfold Y5 at h;rw[Ab,At,AN]at h;refine⟨aG,λl a=>?_⟩;obtain⟨k,b,rfl⟩:=AE.1 a;exact Aee<|FW h.1 b
def n7(c:0 < L.length)(h:(shK L L.length==0)=false):∀l∈L,0 < l.length:=λl d=>by
 obtain⟨k,b,rfl⟩:=AE.1 d;rcases DI (L[k].length)with a|a
 ·have:=((lP c<|A5 _).1).2 ⟨k,b,by rw[Xr b];exact a⟩;rw[this]at h;cases h
 ·exact a
def xq(h:iE L)(g:Y5 L=true)(i:(shK L L.length==0)=false):∃out n,lfR (IG L) fz (lf0<|IG L)=some (out,n)∧Asc out∧(∀x,x∈out↔∀l∈L,x∈l)∧n<=20000:=by have⟨c,d⟩:=eJ g;have j:=n7 c i;have a:=xp c j d;have k:=p7 (M:=IG L) (A:=(lf0<|IG L).2.1) (B:=4000) (λl b=>h.2 l<|(VB L l).1 b) (IG L).length<|A5 _;have f:=h.1;rw[<-cE L]at f;have m:ZI (IG L) (lf0<|IG L).2.1 (IG L).length<=20000:=Bm k (by have:=Cd 4000 f;omega);have⟨out,n,e,o,p,q⟩:=xt (M:=IG L) (λl b=>d l<|(VB L l).1 b) fz _ a (by unfold fz;omega);exact⟨out,n,e,o,λx=>by rw[p];exact Aar L x,by have:(lf0<|IG L).2.2.2.2=0:=rfl;omega⟩
def su(h:iE L):Asc (lfB L).1∧(∀x∈(lfB L).1,∀l∈L,x∈l)∧(∀l∈L,(lfB L).1.length<=l.length)∧0<=(lfB L).2∧(lfB L).2<=20000:=by
 unfold lfB;cases f:Y5 L with
 |false=>exact⟨List.Pairwise.nil,λx a=>(by cases a),λl b=>BF _,nF,nF⟩
 |true=>
  cases g:(shK L L.length==0)with
  |true=>exact⟨List.Pairwise.nil,λx a=>(by cases a),λl b=>BF _,nF,nF⟩
  |false=>have⟨out,n,e,c,d,i⟩:=xq h f g;simp only[Cq,Ga,Ac,e,BP,Bz];refine⟨c,λx a=>(d x).1 a,λl b=>?_,aG,aG⟩;exact XI (Cr.2<|c.imp λh e=>by omega) λx a=>(d x).1 a l b
end
def AjP{t pre}(h:Tq t pre.length):iU t pre=[]∨∃lo hi:Nat,lo<=hi∧hi<=t.2.length∧(pre.length:Int) < t.1∧iU t pre=Wk (CZ t.2 (lo:Int) (hi:Int)) pre.length (hi - lo):=by
 have⟨lo,hi,a,b,_,_,es⟩:=lF h;unfold iU;rw[Aew h a b es,Bz];by_cases c:(pre.length:Int) < t.1
 ·rw[Az c];exact .inr ⟨lo,hi,a,b,c,rfl⟩
 ·rw[AA c];exact .inl rfl
def mw(S:List zI)(p:Nat):∀n,n<=S.length->∀x∈Wk S p n,∃r∈S,x=EL r (p:Int)
 |0,_,x,a=>by rw[Wk]at a;cases a
 |n+1,c,x,a=>by
  rw[Wk]at a;rcases Al.1 a with a|a
  ·exact mw S p n aG x a
  ·cases b:pushB (Wk S p n) (EL ((S[n]?).getD []) (p:Int))with
   |false=>rw[b]at a;cases a
   |true=>rw[b,Ac,As]at a;refine⟨S[n],Ae _,?_⟩;rw[a,Af aG];rfl
def vO{t pre}(h:Tq t pre.length):(iU t pre).length<=t.2.length∧∀x∈iU t pre,0<=x∧x<=99:=by
 rcases AjP h with e|⟨lo,hi,f,g,i,e⟩
 ·rw[e];exact⟨BF _,λx a=>by cases a⟩
 ·rw[e];have j:=dJ (CZ t.2 (lo:Int) (hi:Int)) pre.length<|hi - lo;refine⟨aG,λx a=>?_⟩;obtain⟨r,b,rfl⟩:=mw _ _ _ (by unfold CZ;rw[Ax,Ax,BH,AH];omega) x a;have d:r∈t.2:=by unfold CZ at b;exact Dd<|JU b
  have c:=(Mm h.1).2.2.2 r d;have:=c.1;rw[Dz aG];exact Zo c.2 aG
def S4(a:J7)(o pre:zI):Nat->zI
 |0=>[]
 |i+1=>S4 a o pre i++cond (a.2.contains<|EL o (i:Int)) [EL pre (i:Int)] []
def cy(a:J7)(o pre:zI):∀k,k<=o.length->(S4 a o pre k).length=fe a o k
 |0,_=>by simp[S4,fe]
 |k+1,b=>by rw[S4,An,cy a o pre k aG,AcX a aG,Dz aG];cases a.2.contains o[k]<;>rfl
section
variable {T:List YL}{q:EM}{o:zI}
def kyL(T:List YL)(q:EM)(o pre:zI):List zI:=(ixK q (EL o (pre.length:Int)) q.2.1.length).map λi=>iU ((T[i]?).getD (0,[]))<|S4 ((q.2.1[i]?).getD ([],[])) o pre pre.length
def ky(T:List YL)(q:EM)(o pre:zI):zI×Int:=lfB<|kyL T q o pre
def si(h:TriesOk T q o){pre:zI}(c:pre.length < o.length):∀i∈ixK q (EL o (pre.length:Int)) q.2.1.length,∃(hi:i < q.2.1.length),Tq (T[i]'(by rw[h.len];exact hi)) (S4 q.2.1[i] o pre pre.length).length∧iU ((T[i]?).getD (0,[])) (S4 ((q.2.1[i]?).getD ([],[])) o pre pre.length)=iU (T[i]'(by rw[h.len];exact hi)) (S4 q.2.1[i] o pre pre.length):=λi hi=>by have⟨a,d⟩:=xf hi;have b:=el h a (k:=pre.length) aG;refine⟨a,by rw[cy _ _ _ _ aG];exact b,?_⟩;rw[Af (by rw[h.len];exact a),Af a];rfl
def sn(h:TriesOk T q o){pre:zI}(a:pre.length < o.length):iE (kyL T q o pre)∧0 < (kyL T q o pre).length:=by have d:=(Qw h.qv).2.2.1;have f:=sh q (EL o (pre.length:Int)) q.2.1.length;have g:=K7 h.ov;have b:=g.2.2.1 _<|Ae a;have l:=Afp h.qv b.1 b.2;unfold iE kyL;rw[Ai];refine⟨⟨aG,λl j=>?_⟩,by rw[Dz a];omega⟩;obtain⟨i,hi,rfl⟩:=Aw.1 j;have⟨k,c,e⟩:=si h a i hi;rw[e];have m:=(vO c).1;have n:=(VE c).2.1;omega
def wk(T:List YL)(q:EM)(o:zI):Nat->zI->List zI×Int
 |0,pre=>([pre],0)
 |r+1,pre=>((ky T q o pre).1.flatMap<|λv=>(wk T q o r<|pre++[v]).1,(ky T q o pre).1.foldl (λn v=>wZ<|n+(wk T q o r<|pre++[v]).2) (ky T q o pre).2)
def fN(h:TriesOk T q o)(b:∀t∈T,t.2.length<=16){pre:zI}(e:pre.length < o.length):(ky T q o pre).1.length<=16∧Asc (ky T q o pre).1∧(∀x∈(ky T q o pre).1,0<=x∧x<=99):=by
 have⟨g,j⟩:=sn h e;have⟨k,l,m,_⟩:=su g;have c:=Ae j;have a:=c;unfold kyL at a;have⟨i,hi,d⟩:=Aw.1 a;have⟨n,p,e2⟩:=si h e i hi;have f:=vO p;rw[e2]at d;refine⟨?_,k,λx r=>?_⟩
 ·refine Bm (m _ c) ?_;rw[show(kyL T q o pre)[0]=_ from d.symm];exact Bm f.1<|b _<|Ae _
 ·have:=l x r _ c;rw[show(kyL T q o pre)[0]=_ from d.symm]at this;exact f.2 x this
def ij(h:TriesOk T q o)(h16:∀t∈T,t.2.length<=16):∀(r:Nat) (pre:zI),pre.length+r=o.length->(wk T q o r pre).1.length<=16 ^ r∧(∀z∈(wk T q o r pre).1,z.length=o.length∧z.take pre.length=pre∧((∀x∈pre,0<=x∧x<=99)->∀x∈z,0<=x∧x<=99))
 |0,pre,hr=>by rw[wk];refine⟨nF,λz hz=>?_⟩;rw[As]at hz;subst hz;exact⟨aG,AQ,λh=>h⟩
 |r+1,pre,hr=>by
  have⟨k1,k2,k3⟩:=fN h h16 (pre:=pre) aG;have ih:=λv=>ij h h16 r (pre++[v]) (by rw[An,Aj];omega)
  rw[wk];refine⟨?_,λz hz=>?_⟩
  ·have key:∀l:zI,(l.flatMap<|λv=>(wk T q o r<|pre++[v]).1).length<=l.length * 16 ^ r:=by
    intro l;induction l with
    |nil=>simp
    |cons v l ihl=>rw[AR,An,AC,DS,FA];have:=(ih v).1;omega
   have h1:=key (ky T q o pre).1;have h2:(ky T q o pre).1.length * 16 ^ r<=16 * 16 ^ r:=Cd _ k1;rw[Fb];simp only;omega
  ·have⟨v,hv,hz⟩:=B6.1 hz;have⟨z1,z2,z3⟩:=(ih v).2 z hz;refine⟨z1,?_,λhp=>z3 λx hx=>?_⟩
   ·have:(z.take (pre++[v]).length).take pre.length=pre:=by rw[z2,List.take_left' rfl]
    rw[List.take_take,An,Aj,CS aG]at this;exact this
   ·rcases Al.1 hx with hx|hx
    ·exact hp x hx
    ·rw[As]at hx;subst hx;exact k3 _ hv
end
def emB(T:List YL):Bool:=BK T λ_ t=>(t.2.length:Int)==0
section
variable {d:List N9}{q:EM}{o:zI}
def a9(d:List N9)(q:EM)(o:zI):List YL:=q.2.1.map<|dh d o
def lY(f:D7 d q=true)(h:Sf q o=true):∀t∈a9 d q o,t.2.length<=16:=λt e=>by unfold a9 at e;obtain⟨a,b,rfl⟩:=Aw.1 e;have g:=iG f;have⟨c,i⟩:=jU g.1 h b<|g.2.2 a b;exact Bm (nQ i).2 (Xd c<|g.2.2 a b).2
def ljB(d:List N9)(q:EM)(o:zI):(Int×List zI)×Int×Bool:=cond (D7 d q&&Sf q o) (cond (emB<|a9 d q o) (((o.length:Int),[]),0,true)<|cond (dY (o.length:Int) (wk (a9 d q o) q o o.length []).1).2 ((dY (o.length:Int) (wk (a9 d q o) q o o.length []).1).1,(wk (a9 d q o) q o o.length []).2,true) ((0,[]),0,false)) ((0,[]),0,false)
def AmA(c:MA q)(a:D7 d q=true)(b:Sf q o=true):GQ (wk (a9 d q o) q o o.length []).1:=by
 have e:=K7 b;have f:=LA (iG a).1;have⟨g,h⟩:=ij (aZ (d:=d) c a b) (lY a b) o.length [] nF;have i:16 ^ o.length<=1048576:=by have:=EG (show 0 < 16 by decide) (show o.length<=5 by omega);exact this
 exact⟨Bm g uY,λr j=>by have:=(h r j).1;unfold lim;omega⟩
def AlQ{a:Int}{l:List Row}(h:GQ l):GQ (dY a l).1.2:=by
 unfold dY;cases BK l λ_ x=>SS a x with
 |true=>exact⟨BF _,λr b=>(by cases b)⟩
 |false=>
  simp only[Ad];cases Ml (a,sortB l)with
  |false=>exact⟨BF _,λr b=>(by cases b)⟩
  |true=>exact ee h
def AlN(c:MA q):GQ (ljB d q o).1.2:=by
 unfold ljB;cases e:D7 d q with
 |false=>exact⟨BF _,λr a=>(by cases a)⟩
 |true=>
  cases b:Sf q o with
  |false=>exact⟨BF _,λr a=>(by cases a)⟩
  |true=>
   simp only[Ga,Ac];cases emB (a9 d q o)with
   |true=>exact⟨BF _,λr a=>(by cases a)⟩
   |false=>
    simp only[Ad];cases(dY (o.length:Int) (wk (a9 d q o) q o o.length []).1).2 with
    |false=>exact⟨BF _,λr a=>(by cases a)⟩
    |true=>exact AlQ<|AmA c e b
end
def Afi{l}{i:Nat}{t}(c:l.length<=lim)(hi:i<=l.length):QW l (i:Int) t=some ((PR l i t:Nat):Int):=by
 unfold QW;rw[show(if(0:Int) < (i:Int)then(i:Int)else 0)=(i:Int)by split<;>omega]
 have⟨o,e,k,h,n,d⟩:=Fu (B:=KY l t) (λs=>∃k:Nat,s=(k:Int)∧k<=l.length∧PR l k t=PR l i t) (λs=>l.length - s.toNat) (λo=>∃k:Nat,(o=.inr (k:Int)∨(o=.inl ()∧k=l.length))∧k<=l.length∧k=PR l i t) (λs j=>by
  obtain⟨k,rfl,f,b⟩:=j;rcases Bi k l.length with a|a
  ·by_cases g:l[k] < t
   ·right;refine⟨((k+1:Nat):Int),⟨k+1,rfl,a,by rw[<-lM a g];exact b⟩,by simp only[Ax];omega,λrec=>?_⟩;unfold KY;rw[Bq a,AV a,BA a (Bk c)];simp only[Ac,Aa];rw[Ah aG];rfl
   ·left;refine⟨.inr (k:Int),⟨k,.inl rfl,f,by rw[<-b];exact(YD λ_=>g).symm⟩,λrec=>?_⟩;unfold KY;rw[Bq a,AV a];simp only[Ac,Aa];rw[Ak aG];rfl
  ·left;refine⟨.inl (),⟨k,.inr ⟨rfl,aG⟩,f,by rw[<-b];exact(YD λhi=>absurd hi aG).symm⟩,λrec=>?_⟩;unfold KY;rw[Ah aG];rfl) fz (i:Int) ⟨i,rfl,hi,rfl⟩ (by unfold fz;unfold lim at c;omega)
 rw[e];simp only[Aa];rcases h with rfl|⟨rfl,m⟩
 ·simp only;rw[d]
 ·simp only;rw[<-d,m]
section
variable {L:List zI}
def Ae7(h:iE L):LJ L=some (Y5 L):=by
 unfold LJ Y5;have b:=h.lim;have:=Ew (B:=JP L) (n:=L.length) (λk=>HJ L k λl=>BK l (Iw l)) b.1 (λk a c=>by unfold JP;rw[Bq a,AV a,BA a (Bk b.1),B5 a];simp only[Ac,Aa];rw[Ac0 (b.2 _<|Ae a)];simp only;cases BK L[k] (Iw L[k])<;>rfl) (λrec=>by unfold JP;rw[Bh];rfl);rw[this];have e:(List.range L.length).any (λk=>HJ L k λl=>BK l<|Iw l)=BK L λ_ l=>BK l (Iw l):=rfl
 rw[e];cases BK L λ_ l=>BK l (Iw l)<;>rfl
def Aa0(h:iE L):LI L=some (shK L L.length):=by
 unfold LI;have e:=h.lim
 have:=Cm (body:=Ft L) (out:=shK L L.length) (λk=>(shK L k,(k:Int))) L.length (λk b a=>by
  have c:∀x,HQ a (k:Int) x=a (x,((k+1:Nat):Int)):=λx=>by unfold HQ;rw[BA b (Bk e.1)]
  unfold Ft;simp only;rw[Bq b,shK,Xr b,AV b];simp only[Ac,Aa];by_cases f:k=0
  ·subst f;rw[Az (.inl rfl)];exact c _
  ·rw[show(((k:Nat):Int)==0)=false by rw[Be];omega];simp only[Ad];by_cases d:(L[k].length:Int) < shK L k
   ·rw[Az (.inr d),Ak d];exact c _
   ·rw[AA aG,Ah d];exact c _) (λrec=>by unfold Ft;simp only;rw[Bh];rfl) fz (Dp e.1)
 have g:Ay (Ft L) fz (0,0)=some (shK L L.length):=this;rw[g];rfl
def pf{l:zI}(hp:0 < l.length):AU l 0=some (Xt l):=by have e:AU l ((0:Nat):Int)=some (l[0]'hp):=AV hp;unfold Xt;rw[U5 hp];exact e
def Aff(h:iE L)(d:∀l∈L,0 < l.length):Ay (Gr L) fz (([]:List zI),0)=some (IG L):=by
 have x:=h.lim;have z:=h.1
 have:=Cm (body:=Gr L) (out:=IG L) (λi=>((bj L i).map (gL L),(i:Int))) L.length (λi hi a=>by
  have q:=gq L i;have r:=d _<|Ae hi;have f:gL L i=L[i]:=Xr hi;generalize t:(bj L i).map (gL L)=Y;have u:Y.length=i:=by rw[<-t,Ai,q]
  have g:Ay (Fq Y L[i]) fz (Y.length:Int)=some ((scP ((bj L i).map λj=>Xt<|gL L j) (Xt<|gL L i) i:Nat):Int):=by
   obtain⟨o,e,k,rfl,F,A⟩:=Fu (B:=Fq Y L[i]) (λs=>∃k:Nat,s=(k:Int)∧k<=i∧scP ((bj L i).map λj=>Xt (gL L j)) (Xt (gL L i)) k=scP ((bj L i).map λj=>Xt (gL L j)) (Xt (gL L i)) i) (λs=>s.toNat) (λo=>∃k:Nat,o=(k:Int)∧k<=i∧k=scP ((bj L i).map λj=>Xt (gL L j)) (Xt (gL L i)) i) (λs C=>by
    obtain⟨k,rfl,y,c⟩:=C;cases k with
    |zero=>left;exact⟨((0:Nat):Int),⟨0,rfl,y,by rw[<-c];rfl⟩,λrec=>by unfold Fq;rfl⟩
    |succ k=>
     have b:k < (bj L i).length:=aG;have m:(bj L i)[k] < L.length:=by have:=(lz L i _).1<|Ae b;omega
     have g1:AU Y (wZ<|((k+1:Nat):Int) - 1)=some (gL L (bj L i)[k]):=by rw[wrap_in aG,show((k+1:Nat):Int) - 1=(k:Int)by omega,<-t,PI,BS,Af b];rfl
     have D:gI ((bj L i).map λj=>Xt<|gL L j) k=Xt (gL L (bj L i)[k]):=by rw[U5 (by rw[Ai];exact b),Bl]
     have v:0 < (gL L (bj L i)[k]).length:=by rw[Xr m];exact d _<|Ae m
     have n:∀a,Fq Y L[i] a ((k+1:Nat):Int)=cond (decide (Xt (gL L i) < Xt (gL L (bj L i)[k]))) (a (k:Int)) (some ((k+1:Nat):Int)):=λrec=>by unfold Fq;rw[Ak (aG:(0:Int) < ((k+1:Nat):Int)),g1];simp only[Ac,Aa];rw[pf v];simp only;rw[pf r];simp only;rw[wrap_in aG,show((k+1:Nat):Int) - 1=(k:Int)by omega,f]
     rw[scP,D]at c;by_cases p:Xt (gL L i) < Xt (gL L (bj L i)[k])
     ·right;rw[Az p]at c;exact⟨(k:Int),⟨k,rfl,aG,c⟩,by simp only[Ax];omega,λrec=>by rw[n,Ak p];rfl⟩
     ·left;rw[AA p]at c;exact⟨((k+1:Nat):Int),⟨k+1,rfl,y,c⟩,λrec=>by rw[n,Ah p];rfl⟩) fz (Y.length:Int) ⟨i,by rw[u],A5 _,rfl⟩ (by unfold fz;simp only[Ax];omega)
   rw[e,A]
  have w:=tj ((bj L i).map λj=>Xt<|gL L j) (Xt<|gL L i) i;rw[bj,sW,t];generalize scP ((bj L i).map λj=>Xt<|gL L j) (Xt<|gL L i) i=k at g w;unfold Gr;simp only;rw[Bq hi,AV hi];simp only[Ac,Aa];rw[g];simp only[BX];have n:CZ Y 0 (k:Int)=Y.take k:=by unfold CZ;rw[Ax];rfl
  have e2:CZ Y (k:Int) (Y.length:Int)=Y.drop k:=by unfold CZ;rw[Ax,Ax,AQ]
  rw[n,e2,AO aG,AO (by simp only[Bn,AH];unfold lim;omega),AO (by simp only[AH,Aj];unfold lim;omega),AO aG,AO (by simp only[An,AH,Aj,BH];unfold lim;omega),BA hi (Bk x.1)];unfold putAt;rw[Bw,f];rfl) (λrec=>by unfold Gr;simp only;rw[Bh];rfl) fz (Dp x.1)
 exact this
def aC(l:zN):zI:=l.map λ(j:Nat)=>(j:Int)
def xR(l:zN)(p v:Nat):CY (aC l) (p:Int) (v:Int)=aC (l.set p v):=by unfold CY aC;rw[Ax,List.map_set]
def nn{l}{p:Nat}(h:p < l.length):AU (aC l) (p:Int)=some ((gN l p:Nat):Int):=by unfold aC;rw[PI,BS,Af h,Aka h];rfl
def Adg(A:L.length<=lim)(f:∀l∈L,l.length<=lim)(B:∀l∈L,Asc l):∀(m:Nat) (s:LfS),LfOk (IG L) s->s.2.2.1=s.2.2.2.2 % (IG L).length->s.1.length<=s.2.2.2.2->s.2.2.2.2+ZI (IG L) s.2.1 (IG L).length<=lim->
  Ay (Gs<|IG L) m (aC s.2.1,s.2.2.2.1,s.1,((s.2.2.2.2+1:Nat):Int))=(lfR (IG L) m s).map λr=>.inr (r.1,(r.2:Int))
 |0,s,h,c,g,v=>rfl
 |m+1,s,h,c,g,v=>by
  have x:∀l∈IG L,Asc l:=λl H=>B l<|(VB L l).1 H
  have⟨out,a,p,d,n⟩:=s;have⟨w,I,e2⟩:=pD h;have⟨C,y⟩:=sq h;have J:0 < (IG L).length:=by have:=h.p;omega
  have b:=h.p;have e:p < a.length:=by have:=h.len;simp only at this b;omega
  have j:=(lG (M:=IG L) e C y (IG L).length).2 h.p;simp only at w I e2 C y j v c g b;have t:=f _<|(VB L _).1<|Wy b;have K:(IG L).length<=lim:=by rw[cE];exact A
  have D:Int.tmod (wZ<|((n+1:Nat):Int) - 1) ((IG L).length:Int)=(p:Int):=by
   unfold lim at v;rw[wrap_in aG,show((n+1:Nat):Int) - 1=(n:Int)by omega,G0 aG,c]
   norm_cast
  have g2:AU (IG L) (p:Int)=some (gL (IG L) p):=by rw[AV b,Xr b]
  have N:AU (aC a) (p:Int)=some ((gN a p:Nat):Int):=nn e;have O:AU (gL (IG L) p) ((gN a p:Nat):Int)=some (gI (gL (IG L) p)<|gN a p):=by rw[AV w,U5 w]
  have P:wZ (((n+1:Nat):Int)+1)=((n+1+1:Nat):Int):=by unfold lim at v;rw[wrap_in aG];omega
  have F:∀(o:zI) (i:Nat),o=lfO (IG L) (out,a,p,d,n)->i=fP (IG L) (out,a,p,d,n)->o.length<=n+1->
    Gt (Ay (Gs<|IG L) m) (IG L) ((n+1:Nat):Int) (gL (IG L) p) (CY (aC a) (p:Int) (i:Int)) o=(lfR (IG L) (m+1) (out,a,p,d,n)).map λr=>.inr (r.1,(r.2:Int)):=by
   intro o i G hi z;unfold Gt;rw[xR,D];have Q:AU (aC<|a.set p i) (p:Int)=some (i:Int):=by rw[nn (by rw[By];exact e),kK e,Az rfl]
   rw[Q];simp only[Aa];rw[lfR];simp only[<-G,<-hi];by_cases k:i=(gL (IG L) p).length
   ·rw[show((i:Int)==((gL (IG L) p).length:Int))=true by rw[Bv];omega,show(i==(gL (IG L) p).length)=true by rw[Bv];exact k];rfl
   ·rw[show((i:Int)==((gL (IG L) p).length:Int))=false by rw[Be];omega,show(i==(gL (IG L) p).length)=false by rw[Be];exact k];have q:i < (gL (IG L) p).length:=by rw[<-hi]at y;omega
    rw[show AU (gL (IG L) p) (i:Int)=some (gI (gL (IG L) p) i)by rw[AV q,U5 q]];simp only[Ad];rw[P];have u:=sr h x (by simp only;rw[<-hi];exact q);simp only[<-G,<-hi]at u j;exact Adg A f B m (o,a.set p i,(p+1) % (IG L).length,gI (gL (IG L) p) i,n+1) u (by simp only;rw[c,Nat.mod_add_mod]) z (by simp only;omega)
  rw[Cn,Gs];simp only;rw[AO aG,D,g2];simp only[Aa];rw[N];simp only;rw[O];simp only;cases k:(gI (gL (IG L) p) (gN a p)==d)with
  |true=>simp only[Ac];rw[AO (by simp only[Aj];omega),show wZ (((gN a p:Nat):Int)+1)=((gN a p+1:Nat):Int)by unfold lim at t;rw[wrap_in aG];omega];exact F _ _ (by unfold lfO;simp only;rw[k];rfl) (by unfold fP;simp only;rw[k];rfl) (by simp only[An,Aj];omega)
  |false=>simp only[Ad];rw[Afi t (Ck w)];exact F _ _ (by unfold lfO;simp only;rw[k];rfl) (by unfold fP;simp only;rw[k];rfl) aG
def Anv(h:iE L):JM L=some (lfB L):=by
 have c:=h.lim;have d:=h.1;unfold JM lfB;rw[Ae7 h];simp only[Aa];cases m:Y5 L with
 |false=>rfl
 |true=>
  simp only[Au,Ad,AK];rw[Aa0 h];simp only;cases o:(shK L L.length==0)with
  |true=>rfl
  |false=>
   have⟨f,p⟩:=eJ m;have g:=n7 f o;have⟨out,n,e,_,_,w⟩:=xq h m o;simp only[Ad,Cq,Ac];rw[Aff h g];simp only;have q:0 < (IG L).length:=by rw[cE];exact f
   have i:(IG L).length<=5:=by rw[cE];exact d
   have a:(IG L).length - 1 < (IG L).length:=aG;have r:=g _<|(VB L _).1<|Ae a;rw[AO (by rw[Ax];unfold lim;omega),wrap_in aG,show((IG L).length:Int) - 1=(((IG L).length - 1:Nat):Int)by omega,AV a];simp only;rw[pf r];simp only;have j:=xp f g p;have s:=p7 (M:=IG L) (A:=(lf0<|IG L).2.1) (B:=4000) (λl c=>h.2 l<|(VB L l).1 c) (IG L).length<|A5 _;have t:ZI (IG L) (lf0<|IG L).2.1 (IG L).length<=20000:=Bm s (by have:=Cd 4000 i;omega);have b:=Adg c.1 c.2 p fz (lf0<|IG L) j (by show 0=0 % _;rw[Nat.zero_mod]) (A5 _) (by have:(lf0<|IG L).2.2.2.2=0:=rfl;unfold lim;omega);have u:aC (lf0<|IG L).2.1=List.replicate (IG L).length (0:Int):=by show aC (zeros _)=_;unfold aC zeros;rw[List.map_replicate];rfl
   have v:(lf0<|IG L).2.2.2.1=Xt (IG L)[(IG L).length - 1]:=by show Xt (gL (IG L)<|(IG L).length - 1)=_;rw[Xr a]
   rw[Ax,<-v,<-u];have k:(aC (lf0<|IG L).2.1,(lf0<|IG L).2.2.2.1,([]:zI),(1:Int))=(aC (lf0<|IG L).2.1,(lf0<|IG L).2.2.2.1,(lf0<|IG L).1,(((lf0<|IG L).2.2.2.2+1:Nat):Int)):=rfl;rw[k,b,e];rfl
end
def wrap_add(a b:Int):wZ (wZ a+b)=wZ (a+b):=by
 (try unfold wZ)<;>unfold IntKind.wrap
 simp only[IntKind.signed,IntKind.bits,AK,AN,ge_iff_le];split<;>split<;>(try split)<;>omega
def Pe{α:Type}(f:α->Int):List α->Int
 |[]=>0
 |x::l=>f x+Pe f l
def ot{α:Type}(f:α->Int):∀a b:List α,Pe f (a++b)=Pe f a+Pe f b
 |[],b=>by simp[Pe]
 |x::a,b=>by rw[CR,Pe,Pe,ot f a b];omega
def jJ{α β:Type}(f:β->Int)(g:α->List β):∀l:List α,Pe f (l.flatMap g)=Pe (λx=>Pe f<|g x) l
 |[]=>rfl
 |x::l=>by rw[AR,ot,Pe,jJ f g l]
def ou{α β:Type}(f:β->Int)(g:α->β):∀l:List α,Pe f (l.map g)=Pe (λx=>f<|g x) l
 |[]=>rfl
 |x::l=>by rw[AP,Pe,Pe,ou f g l]
def oq{α:Type}(f g:α->Int):∀l:List α,Pe (λx=>f x+g x) l=Pe f l+Pe g l
 |[]=>rfl
 |x::l=>by rw[Pe,Pe,Pe,oq f g l];omega
def jK{α:Type}:∀l:List α,Pe (λ_=>(0:Int)) l=0
 |[]=>rfl
 |x::l=>by rw[Pe,jK l];rfl
def bS{α:Type}(f g:α->Int)(b:∀n v,wZ (n+f v)=wZ (n+g v)):∀(l:List α) (a:Int),l.foldl (λn v=>wZ<|n+f v) (wZ a)=wZ (a+Pe g l)
 |[],a=>by rw[Ez,Pe];congr 1;omega
 |x::l,a=>by rw[Ca,b,wrap_add,bS f g b l,Pe];congr 1;omega
section
variable {T:List YL}{q:EM}{o:zI}
def Anz{a:J7}{pre:zI}(e:a.2.length<=lim)(h:pre.length<=o.length)(i:o.length<=5):Ay (Jg o pre a) fz (([]:zI),0)=some (S4 a o pre pre.length):=by
 have d:pre.length<=lim:=uY
 have:=Cm (body:=Jg o pre a) (out:=S4 a o pre pre.length) (λk=>(S4 a o pre k,(k:Int))) pre.length (λk c b=>by
  have f:=cy a o pre k aG;have j:=AeB a o k;have g:∀y,K0 b (k:Int) y=b (y,((k+1:Nat):Int)):=λy=>by unfold K0;rw[BA c (Bk d)]
  unfold Jg;simp only;rw[Bq c,AV c,AV (l:=o) aG,S4,Dz (l:=o) aG,Dz c];simp only[Ac,Aa];rw[bW e];simp only[g];cases a.2.contains o[k]with
  |true=>simp only[Ac];rw[AO (by simp only[Aj];unfold lim;omega)]
  |false=>simp only[Ad,A7]) (λrec=>by unfold Jg;simp only;rw[Bh];rfl) fz (Dp d)
 exact this
def Afe(h:TriesOk T q o){pre:zI}(d:pre.length < o.length):Q8 q T o pre=some (kyL T q o pre):=by
 have n:=K7 h.ov;have g:=LA h.qv;have j:=(Qw h.qv).2.2.1;unfold Q8 kyL
 have:=Cm (body:=Jf q T o pre) (out:=(ixK q (EL o (pre.length:Int)) q.2.1.length).map λi=>iU ((T[i]?).getD (0,[])) (S4 ((q.2.1[i]?).getD ([],[])) o pre pre.length)) (λi=>((ixK q (EL o (pre.length:Int)) i).map λi=>iU ((T[i]?).getD (0,[])) (S4 ((q.2.1[i]?).getD ([],[])) o pre pre.length),(i:Int))) q.2.1.length (λi hi a=>by
  have e:=sh q (EL o (pre.length:Int)) i;have b:=(h.sm.2.1 _<|Ae hi).2;have c:i < T.length:=by rw[h.len];exact hi
  have l:=el h hi (k:=pre.length) aG;have f:∀y,KZ a (i:Int) y=a (y,((i+1:Nat):Int)):=λy=>by unfold KZ;rw[BA hi (Bk h.sm.1)]
  unfold Jf;simp only;rw[Bq hi,AV hi,AV d,AkI,B5 hi,Br,Dz d];simp only[Ac,Aa];rw[bW b];simp only;cases p:q.2.1[i].2.contains o[pre.length]with
  |false=>simp only[Cq,Ac,Ad,DE,A7];exact f _
  |true=>simp only[Au,Ad,Ac];rw[Anz b aG aG];simp only;rw[AV c];simp only;rw[Anm (by rw[cy _ _ _ _ aG];exact l)];simp only;rw[AO (by rw[Ai];simp only[Aj];unfold lim;rw[Dz d]at e;omega),f,AP,DE,Af c,Af hi];rfl) (λrec=>by unfold Jf;simp only;rw[Bh];rfl) fz (Dp h.sm.1)
 have m:Ay (Jf q T o pre) fz (([]:List zI),0)=some ((ixK q (EL o (pre.length:Int)) q.2.1.length).map λi=>iU ((T[i]?).getD (0,[]))<|S4 ((q.2.1[i]?).getD ([],[])) o pre pre.length):=this;rw[m];rfl
def UR(T:List YL)(q:EM)(o:zI):Nat->List zI
 |0=>[[]]
 |k+1=>(UR T q o k).flatMap λp=>(ky T q o p).1.map λv=>p++[v]
def stK(T:List YL)(q:EM)(o:zI):Nat->Int
 |0=>0
 |k+1=>(UR T q o k).foldl (λn p=>wZ<|n+(ky T q o p).2)<|stK T q o k
def lc:∀(k:Nat) (p:zI),p∈UR T q o k->p.length=k
 |0,p,h=>by rw[UR,As]at h;subst h;rfl
 |k+1,p,h=>by rw[UR]at h;have⟨b,a,c⟩:=B6.1 h;obtain⟨v,_,rfl⟩:=Aw.1 c;rw[An,lc k b a,Aj]
def fv{α β:Type}{f:α->List β}{B:Nat}:∀(l:List α),(∀x∈l,(f x).length<=B)->(l.flatMap f).length<=l.length * B
 |[],_=>by simp
 |x::l,h=>by
  have b:=h x nF;have c:=fv l λy a=>h y (by simp[a])
  rw[AR,An,AC,DS,FA];omega
def xG(h:TriesOk T q o)(a:∀t∈T,t.2.length<=16):∀k,k<=o.length->(UR T q o k).length<=16 ^ k
 |0,_=>by rw[UR];simp
 |k+1,d=>by have b:=xG h a k aG;rw[UR,Fb];refine Bm (fv _ λp c=>?_)<|Cd 16 b;rw[Ai];exact(fN h a<|by rw[lc k p c];omega).1
def AlX{k}(h:k<=5):16 ^ k<=1048576:=EG (show 0 < 16 by decide) h
def AaZ(h:TriesOk T q o)(a:∀t∈T,t.2.length<=16){n:Nat}(C:n<=o.length):GY q T o (n:Int)=some (UR T q o n,stK T q o n,decide (((UR T q o n).length:Int)<=4000)):=by
 have D:=K7 h.ov;have w:=LA h.qv;unfold GY
 have:=Cm (body:=EV q T o (n:Int)) (out:=(UR T q o n,stK T q o n)) (λk=>(UR T q o k,stK T q o k,(k:Int))) n (λk s b=>by
  have x:=xG h a k aG;have u:=AlX (show k<=5 by omega)
  have m:=Cm (body:=EW q T o (UR T q o k)) (out:=(stK T q o (k+1),UR T q o (k+1))) (λj=>(((UR T q o k).take j).foldl (λn p=>wZ (n+(ky T q o p).2)) (stK T q o k),((UR T q o k).take j).flatMap (λp=>(ky T q o p).1.map λv=>p++[v]),(j:Int))) (UR T q o k).length (λj c b=>by
   have y:(UR T q o k)[j].length=k:=lc k _<|Ae c;have⟨F,G,H⟩:=fN h a (pre:=(UR T q o k)[j]) aG;have d:(((UR T q o k).take j).flatMap<|λp=>(ky T q o p).1.map λv=>p++[v]).length<=16777216:=by have:=fv (f:=λp=>(ky T q o p).1.map λv=>p++[v]) (B:=16) ((UR T q o k).take j) (λp z=>by rw[Ai];exact(fN h a (by rw[lc k p (Dd z)];omega)).1);rw[AH]at this;omega
   generalize e:((UR T q o k).take j).flatMap (λp=>(ky T q o p).1.map λv=>p++[v])=acc at d;have g:=Cm (body:=EX (UR T q o k)[j] (ky T q o (UR T q o k)[j])) (out:=acc++(ky T q o (UR T q o k)[j]).1.map λv=>(UR T q o k)[j]++[v]) (λi=>(acc++((ky T q o (UR T q o k)[j]).1.take i).map (λv=>(UR T q o k)[j]++[v]),(i:Int))) (ky T q o (UR T q o k)[j]).1.length (λi hi b=>by unfold EX;simp only;rw[Bq hi,AV hi];simp only[Ac,Aa];rw[rT uY];simp only;rw[AO (by simp only[Aj];unfold lim;omega),AO (by simp only[An,Ai,AH,Aj];unfold lim;omega),BA hi (by unfold maxLen;omega),A3 hi,Br,Bw];rfl) (λrec=>by unfold EX;simp only;rw[Bh,AQ];rfl) fz (by unfold fz;omega);unfold EW;simp only;rw[Bq c,AV c];simp only[Ac,Aa];rw[Afe h aG];simp only;rw[Anv (sn h aG).1];simp only;rw[show lfB (kyL T q o (UR T q o k)[j])=ky T q o (UR T q o k)[j]from rfl];rw[O5,DE,A7]at g;have r:Ay (EX (UR T q o k)[j]<|ky T q o (UR T q o k)[j]) fz (acc,0)=some (acc++(ky T q o (UR T q o k)[j]).1.map λv=>(UR T q o k)[j]++[v]):=g;rw[r];simp only;rw[A3 c,C2,Dw,e,AR,Ip,A7,BA c (by unfold maxLen;omega)];rfl) (λrec=>by unfold EW;simp only;rw[Bh,AQ];rfl) fz (by unfold fz;omega)
  have l:Ay (EW q T o<|UR T q o k) fz (stK T q o k,([]:List zI),0)=some (stK T q o<|k+1,UR T q o<|k+1):=m;unfold EV;simp only;rw[Bq s,l,BA s (by unfold maxLen;omega)];rfl) (λrec=>by unfold EV;simp only;rw[Bh];rfl) fz (by unfold fz;omega)
 have A:Ay (EV q T o (n:Int)) fz (([[]]:List zI),0,0)=some (UR T q o n,stK T q o n):=this;rw[A];rfl
def mL{α:Type}:∀l:List α,(l.flatMap λp=>[p])=l
 |[]=>rfl
 |x::l=>by rw[AR,mL l];rfl
def Adn:∀(k r:Nat),(UR T q o k).flatMap (λp=>(wk T q o r p).1)=(wk T q o (k+r) []).1
 |0,r=>by rw[UR,AR,Ip,A7,C9]
 |k+1,r=>by rw[UR,List.flatMap_assoc,show k+1+r=k+(r+1)by omega,<-Adn k (r+1)];congr 1;funext p;rw[List.flatMap_map];rfl
def tk(T:List YL)(q:EM)(o:zI):Nat->zI->Int
 |0,_=>0
 |r+1,pre=>(ky T q o pre).2+Pe (λv=>tk T q o r<|pre++[v]) (ky T q o pre).1
def AkJ(h:TriesOk T q o){pre:zI}(a:pre.length < o.length):wZ (ky T q o pre).2=(ky T q o pre).2:=by have:=su (sn h a).1;have b:=this.2.2.2;exact wrap_in (by unfold ky;omega)
def AdN(h:TriesOk T q o):∀(r:Nat) (pre:zI),pre.length+r=o.length->(wk T q o r pre).2=wZ (tk T q o r pre)
 |0,pre,b=>rfl
 |r+1,pre,b=>by
  have a:∀v:Int,(pre++[v]).length+r=o.length:=λv=>by rw[An,Aj];omega
  have c:=λv=>AdN h r (pre++[v])<|a v
  rw[wk,tk];simp only;rw[<-bS (λv=>(wk T q o r<|pre++[v]).2) (λv=>tk T q o r<|pre++[v]) (λn v=>by rw[c v,Int.add_comm,wrap_add,Int.add_comm]),AkJ h aG]
def sK(T:List YL)(q:EM)(o:zI):Nat->Int
 |0=>0
 |k+1=>sK T q o k+Pe (λp=>(ky T q o p).2) (UR T q o k)
def Amo:∀k,stK T q o k=wZ (sK T q o k)
 |0=>rfl
 |k+1=>by rw[stK,Amo k,sK,bS _ (λp=>(ky T q o p).2) (λn v=>rfl)]
def Aml:∀(k r:Nat),sK T q o k+Pe (λp=>tk T q o r p) (UR T q o k)=tk T q o (k+r) []
 |0,r=>by rw[sK,UR,Pe,Pe,C9];omega
 |k+1,r=>by
  rw[show k+1+r=k+(r+1)by omega,<-Aml k (r+1),sK,UR,jJ];have e:(λp=>tk T q o (r+1) p)=λp=>(ky T q o p).2+Pe (λv=>tk T q o r<|p++[v]) (ky T q o p).1:=by funext p;rw[tk]
  have e2:(λp=>Pe (λp=>tk T q o r p)<|(ky T q o p).1.map λv=>p++[v])=λp=>Pe (λv=>tk T q o r<|p++[v]) (ky T q o p).1:=by funext p;rw[ou]
  rw[e,oq,e2];omega
def AhI:UR T q o o.length=(wk T q o o.length []).1:=by have:=Adn (T:=T) (q:=q) (o:=o) o.length 0;rw[D5]at this;rw[<-this];exact(mL _).symm
def AiA(h:TriesOk T q o):stK T q o o.length=(wk T q o o.length []).2:=by
 have:=Aml (T:=T) (q:=q) (o:=o) o.length 0;rw[D5]at this;rw[Amo,AdN h o.length [] nF,<-this];have e:(λp=>tk T q o 0 p)=λ_=>(0:Int):=by funext p;rw[tk]
 rw[e,jK,Int.add_zero]
def kt:∀(p a b:zI),DV (p++a) (p++b)=DV a b
 |[],a,b=>rfl
 |x::p,a,b=>by rw[CR,CR,DV,AA aG,AA aG];exact kt p a b
def qp(h:TriesOk T q o)(b:∀t∈T,t.2.length<=16):∀(r:Nat) (pre:zI),pre.length+r=o.length->X8 (wk T q o r pre).1
 |0,pre,i=>by rw[wk];exact D2 _ _
 |r+1,pre,i=>by
  have a:∀v:Int,(pre++[v]).length+r=o.length:=λv=>by rw[An,Aj];omega
  have j:=λv=>qp h b r (pre++[v])<|a v
  have⟨p,k,s⟩:=fN h b (pre:=pre) aG;rw[wk];unfold X8;simp only;rw[Mk];refine⟨λv _=>j v,k.imp λ{v c} l x m y n=>?_⟩;have d:=((ij h b r (pre++[v])<|a v).2 x m).2.1;have e:=((ij h b r (pre++[c])<|a c).2 y n).2.1;have f:=CI (pre++[v]).length x;have g:=CI (pre++[c]).length y;rw[d]at f;rw[e]at g;rw[<-f,<-g,Bw,Bw,kt];show DV (v::_) (c::_) < 0;rw[DV,Az l];omega
def z9{x}(h:∀e∈x,0<=e∧e<=99):Qg x=true:=by
 unfold Qg
 rw[Z3 λi hi=>by
  have:=h _<|Ae hi
  first
   |(rw[B5 hi];unfold HH;simp;omega)
   |(unfold HH;simp;omega)]
 rfl
def Ads(h:TriesOk T q o)(c:∀t∈T,t.2.length<=16):dY (o.length:Int) (wk T q o o.length []).1=cond (decide (((wk T q o o.length []).1.length:Int)<=4000)) (((o.length:Int),(wk T q o o.length []).1),true) ((0,[]),false):=by
 have l:=K7 h.ov;have j:=LA h.qv;have⟨m,f⟩:=ij h c o.length [] nF;have g:=qp h c o.length [] nF;have a:∀x∈(wk T q o o.length []).1,x.length=o.length∧Qg x=true:=λx d=>⟨(f x d).1,z9<|(f x d).2.2 λe k=>by cases k⟩
 have b:sortB (wk T q o o.length []).1=(wk T q o o.length []).1:=(WF g λz=>Ea).symm;unfold dY
 rw[b,Z3 λi hi=>by
  have:=a _<|Ae hi
  first
   |(unfold SS;rw[this.1,this.2];simp)
   |(rw[B5 hi];unfold SS;rw[this.1,this.2];simp)]
 rw[Ad]
 have e:Ml ((o.length:Int),(wk T q o o.length []).1)=decide (((wk T q o o.length []).1.length:Int)<=4000):=by
  rw[Bb,TL,AN];constructor
  ·rintro⟨_,i,_⟩;simp only at i;omega
  ·intro i;exact⟨⟨by simp only;omega,by simp only;omega⟩,by simp only;omega,λx d=>⟨by rw[(a x d).1],(a x d).2⟩,g⟩
 rw[e];cases decide (((wk T q o o.length []).1.length:Int)<=4000)<;>rfl
end
def Anr{T:List YL}(b:T.length<=lim):Re T=some (emB T):=by
 unfold Re emB;have:=Z2 (B:=N0 T) (n:=T.length) (λk=>HJ T k λt=>(t.2.length:Int)==0) true b (λk a c=>by unfold N0;rw[Bq a,AV a,BA a (Bk b),B5 a];rfl) (λrec=>by unfold N0;rw[Bh];rfl);rw[this];have e:(List.range T.length).any (λk=>HJ T k λt=>(t.2.length:Int)==0)=BK T λ_ t=>(t.2.length:Int)==0:=rfl
 rw[e];cases BK T λ_ t=>(t.2.length:Int)==0<;>rfl
section
variable {d:List N9}{q:EM}{o:zI}
def Anw(h:Tn d)(c:MA q)(g:o.length<=lim):NT d q o=some (ljB d q o):=by
 unfold NT ljB;rw[Aa1 h c g];unfold qn;cases e:D7 d q with
 |false=>rfl
 |true=>
  cases a:Sf q o with
  |false=>rfl
  |true=>
   simp only[Ga,Ac,Aa,Au,Ad];have b:=aZ (d:=d) c e a;have f:=K7 a;rw[show q.2.1.map (dh d o)=a9 d q o from rfl]at b⊢;rw[Anr (by rw[b.len];exact c.1)];simp only;rw[<-f.1];cases emB (a9 d q o)with
   |true=>rfl
   |false=>simp only[Ad];rw[AaZ b (lY e a) (A5 _)];simp only;rw[AhI,AiA b,Ads b (lY e a)];cases decide (((wk (a9 d q o) q o o.length []).1.length:Int)<=4000)<;>rfl
end
section
variable {d:List N9}{q:EM}
def VQ{x}(h:Vp q x=true):Du q=true∧x.2.length=x.1.length∧Tz x.2=true∧∀b∈x.1,RZ q.1 b=true:=by unfold Vp at h;rw[Ab,Ab,Ab,Ab,At]at h;obtain⟨a,c,e,f,-⟩:=h;refine⟨a,Wu c,by rw[TV];exact e,λb g=>?_⟩;have:=Ln f g;simpa using this
def XF{p}(h:jtB q p=true):Du q=true∧p.length=q.2.1.length∧Tz p=true:=by unfold jtB at h;rw[Ab,Ab,Ab]at h;obtain⟨a,b,c,-⟩:=h;exact⟨a,Wu b,by rw[TV];exact c⟩
def bsV(d:List N9)(q:EM)(b:zI):JY:=(kc d q b).getD ([],0,[])
def kg(d:List N9)(q:EM)(l:List zI):Bool:=l.all λb=>(kc d q b).isSome
def bsB(d:List N9)(q:EM)(x:List zI×zI):List JY×Bool:=cond (Vp q x&&(D7 d q&&kg d q x.1)) (x.1.map<|bsV d q,true) ([],false)
def Aet{l:List zI}{k:Nat}(h:k < l.length):(l.take<|k+1).map (bsV d q)=(l.take k).map (bsV d q)++[bsV d q l[k]]:=by rw[S0 h,Br];rfl
def Aes(b:zI):brB d q b=(bsV d q b,(kc d q b).isSome):=by unfold brB bsV;cases kc d q b<;>rfl
def AjH{l k}(h:k < l.length)(a:(kc d q l[k]).isSome=false):kg d q l=false:=by unfold kg;rw[List.all_eq_false];exact⟨_,Ae h,by rw[a];simp⟩
def vL{l}(h:∀i (hi:i < l.length),(kc d q l[i]).isSome=true):kg d q l=true:=by unfold kg;rw[Aq];intro b a;obtain⟨i,hi,rfl⟩:=AE.1 a;exact h i hi
def Ank(h:Tn d)(t:MA q){x:List zI×zI}(j:de x):NO d q x=some (bsB d q x):=by
 unfold NO bsB;rw[wP t j,Bj];cases z:Vp q x with
 |false=>rfl
 |true=>
  obtain⟨A,u,l,C⟩:=VQ z;have D:=j.1;have c:0 < x.1.length:=by obtain⟨r,-,F⟩:=ZS l;have:=F.rn;omega
  obtain⟨o,e,G⟩:=Fu (B:=IM d q x) (λst=>∃k:Nat,st=((x.1.take k).map (bsV d q),(k:Int))∧k<=x.1.length∧(0 < k->D7 d q=true)∧∀i (hi:i < x.1.length),i < k->(kc d q x.1[i]).isSome=true) (λst=>x.1.length - st.2.toNat) (λo=>(o=.inr (([]:List JY),false)∧(D7 d q&&kg d q x.1)=false)∨(o=.inl (x.1.map (bsV d q))∧(D7 d q&&kg d q x.1)=true)) (λst m=>by
   obtain⟨k,rfl,v,n,w⟩:=m;by_cases a:k < x.1.length
   ·have y:=Ae a
    have b:∀f,IM d q x f ((x.1.take k).map<|bsV d q,(k:Int))=cond (!(D7 d q&&(kc d q x.1[k]).isSome)) (some<|.inr ([],false)) (f ((x.1.take<|k+1).map<|bsV d q,((k+1:Nat):Int))):=λrec=>by
     unfold IM;simp only;rw[Bq a,Ac,AV a,Bj,Anj h t A (C _ y) (by have:=j.2.1 _ y;omega),Bj,Aes,BA a (Bk aG),Aet a];cases D7 d q with
     |false=>rfl
     |true=>
      cases(kc d q x.1[k]).isSome with
      |false=>rfl
      |true=>simp only[Ac,Au,Ad,CX];rw[AO (by simp only[Ai,AH,Aj];omega)]
    cases p:D7 d q with
    |false=>exact .inl ⟨_,.inl ⟨rfl,rfl⟩,λrec=>by rw[b,p];rfl⟩
    |true=>
     cases g:(kc d q x.1[k]).isSome with
     |false=>exact .inl ⟨_,.inl ⟨rfl,by rw[AjH a g];rfl⟩,λrec=>by rw[b,p,g];rfl⟩
     |true=>
      right;refine⟨_,⟨k+1,rfl,a,λ_=>rfl,λi hi H=>?_⟩,by simp only[Ax];omega,λrec=>by rw[b,p,g];rfl⟩;by_cases e:i=k
      ·subst e;exact g
      ·exact w i hi aG
   ·left;have v:k=x.1.length:=aG;subst v;refine⟨_,.inr ⟨rfl,by rw[n c,vL λi hi=>w i hi hi];rfl⟩,λrec=>?_⟩;unfold IM;simp only;rw[Bh,Ad,AQ]) fz (([]:List JY),0) ⟨0,nF,BF _,λh=>by omega,λi _ hi=>by omega⟩ (by unfold fz;unfold lim at D;simp only;omega)
  rw[Au,Ad,e,Bj,AK];rcases G with⟨rfl,s⟩|⟨rfl,s⟩
  ·rw[s];rfl
  ·rw[s];rfl
def iw(d:List N9)(q:EM)(x:List zI×zI):Nat->JY:=λi=>(x.1.map<|bsV d q).getD i ([],0,[])
def AaC(q:EM)(o:Option JY):Rln×Bool:=match o with
 |some v=>pjG v.2 q.2.2
 |none=>((0,[]),false)
def edB(d:List N9)(q:EM)(x:List zI×zI):Rln×Bool:=cond (bsB d q x).2 (AaC q<|nnJ x.2 (cx x.2<|iw d q x) (Mo x.2).toNat) ((0,[]),false)
def wg{x}(h:(bsB d q x).2=true):D7 d q=true∧Vp q x=true∧(bsB d q x).1=Jx x.2.length (iw d q x)∧∀i,i < x.2.length->QJ (iw d q x i)=true:=by
 unfold bsB at h⊢;cases c:Vp q x&&(D7 d q&&kg d q x.1)with
 |false=>rw[c]at h;cases h
 |true=>
  rw[Ab,Ab]at c;have⟨f,c2,g⟩:=c;obtain⟨-,a,-,-⟩:=VQ f;refine⟨c2,f,?_,λi hi=>?_⟩
  ·rw[Ac];show x.1.map (bsV d q)=_;rw[zr (x.1.map<|bsV d q),Ai,a];rfl
  ·unfold iw;have b:i < x.1.length:=aG;rw[AF,Af (by rw[Ai];exact b),Bz,Bl];unfold kg at g;have:=Aq.1 g _<|Ae b;unfold bsV;cases e:kc d q x.1[i]with
   |none=>rw[e]at this;cases this
   |some v=>rw[<-kf]at e;exact vK c2 _ v (A5 _) e
def Ano(h:Tn d)(l:MA q){x:List zI×zI}(m:de x):GS d q x=some (edB d q x):=by
 unfold GS edB;rw[Ank h l m,Bj];cases t:(bsB d q x).2 with
 |false=>rfl
 |true=>
  obtain⟨-,u,v,n⟩:=wg t;obtain⟨-,-,j,-⟩:=VQ u;have⟨r,k,a⟩:=ZS j;have⟨w,p⟩:=x;have g:p.length<=lim:=Ck m.2.2;have c:∀i,i < p.length->QJ (cx p (iw d q (w,p)) i)=true:=λi hi=>Xb a n _ i hi
  have⟨O,b,y⟩:=w9 g a k;have⟨o,e,z⟩:=Ac7 g a c b;rw[Au,Ad];simp only;rw[y,Bj,v,Akn g a n b,Bj,we,e,Bj,Ac,k,Ax];rcases z with⟨rfl,A⟩|⟨f,rfl,s⟩
  ·rw[A];rfl
  ·have B:=Xa a c _ r _ a.rn s;simp only;rw[pn g,Bj,k,Sx a.rn,Bj,AaY (dj B).2.1 l.2.2,Bj,s];rfl
def atT(d:List N9)(q:EM):Nat->JY:=λi=>(q.2.1.map<|atV d).getD i ([],0,[])
def frT(d:List N9)(q:EM)(p:zI):Nat->JY:=ttS p<|cx p<|atT d q
def frB(d:List N9)(q:EM)(p:zI):List JY×Bool:=cond (D7 d q&&jtB q p) (Jx p.length<|frT d q p,true) ([],false)
def ejB(d:List N9)(q:EM)(p:zI):Rln×Bool:=cond (D7 d q&&jtB q p) (AaC q<|nnJ p (frT d q p) (Mo p).toNat) ((0,[]),false)
def oP{p}(c:D7 d q=true)(e:jtB q p=true):q.2.1.map (atV d)=Jx p.length (atT d q)∧∀i,i < p.length->QJ (atT d q i)=true:=by obtain⟨-,a,-⟩:=XF e;obtain⟨-,g2,-⟩:=DG c;refine⟨by rw[zr (q.2.1.map<|atV d),Ai,a];rfl,λi hi=>?_⟩;unfold atT;have b:i < q.2.1.length:=aG;rw[AF,Af (by rw[Ai];exact b),Bz,Bl];have⟨f,g⟩:=g2 _<|Ae b;exact AcR f g
def Ant(h:Tn d)(e:MA q){p:zI}(l:p.length < lim):MM d q p=some (frB d q p):=by
 unfold MM frB Vx O2;rw[pk h e,Bj,Akt e l];cases m:D7 d q with
 |false=>rfl
 |true=>
  rw[Ac,Bj,Bj,AK];cases n:jtB q p with
  |false=>rfl
  |true=>
   obtain⟨-,o,j⟩:=XF n;obtain⟨-,g2,-⟩:=DG m;have⟨t,s⟩:=oP m n;have⟨r,u,f⟩:=ZS j;have c:p.length<=lim:=Ck l;have k:∀i,i < p.length->QJ (cx p (atT d q) i)=true:=λi hi=>Xb f s _ i hi
   have⟨O,b,v⟩:=w9 c f u;rw[Au,Ad,Kg (a:=q.2.1) (h:=atV d) (B:=Ko d q) e.1 (λk g w=>by have⟨x,z⟩:=g2 _<|Ae g;unfold Ko;simp only;rw[Bq g,Ac,AV g,Bj,Ac1 h x z,Bj,AO (by simp only[Ai,AH,Aj];omega),BA g (Bk e.1)]) (λrec y=>by unfold Ko;simp only;rw[Bh];rfl),Bj,v,Bj,t,Akq c f s b,Bj,Akr c f k b,Bj];rfl
def AcZ{p}(f:D7 d q=true)(b:jtB q p=true):∀i,i < p.length->QJ (frT d q p i)=true:=λi hi=>by obtain⟨-,c,a⟩:=XF b;have⟨h,g⟩:=oP f b;have⟨r,j,e⟩:=ZS a;exact qt e (λi hi=>Xb e g _ i hi) _ i hi
def Anp(h:Tn d)(k:MA q){p:zI}(l:p.length < lim):I7 d q p=some (ejB d q p):=by
 unfold I7 ejB;rw[Ant h k l,Bj];unfold frB;cases g:D7 d q&&jtB q p with
 |false=>rfl
 |true=>
  rw[Ab]at g;obtain⟨-,-,i⟩:=XF g.2;have⟨r,j,c⟩:=ZS i;have a:p.length<=lim:=Ck l;have m:=AcZ g.1 g.2;have⟨O,b,s⟩:=w9 a c j;have⟨o,e,t⟩:=Ac7 a c m b;simp only[Ac,Au,Ad];rw[s,Bj,e,Bj,j,Ax];rcases t with⟨rfl,u⟩|⟨f,rfl,n⟩
  ·rw[u];rfl
  ·have v:=Xa c m _ r _ c.rn n;simp only;rw[pn a,Bj,j,Sx c.rn,Bj,AaY (dj v).2.1 k.2.2,Bj,n];rfl
def elB(d:List N9)(q:EM)(o:zI):Rln×Bool:=cond (ljB d q o).2.2 (pjG (ljB d q o).1<|q.2.2.map<|CA o) ((0,[]),false)
def Anq(h:Tn d)(b:MA q){o:zI}(e:o.length<=lim):I8 d q o=some (elB d q o):=by
 unfold I8 elB;rw[Anw h b e,Bj];cases(ljB d q o).2.2 with
 |false=>rfl
 |true=>unfold XC;rw[Au,Ad,Kg (a:=q.2.2) (h:=CA o) (B:=Q9 q o) b.2.2 (λk c f=>by unfold Q9;simp only;rw[Bq c,Ac,AV c,Bj,R4 e,Bj,AO (by have:=b.2.2;simp only[Ai,AH,Aj];omega),BA c (Bk b.2.2)]) (λrec y=>by unfold Q9;simp only;rw[Bh];rfl),Bj,Bj,AaY (AlN b) (by rw[Ai];exact b.2.2),Bj];rfl
def AhF{o}(h:(ljB d q o).2.2=true):D7 d q=true∧Sf q o=true:=by
 unfold ljB at h;cases a:D7 d q&&Sf q o with
 |false=>rw[a]at h;cases h
 |true=>rw[Ab]at a;exact a
def rpB(d:List N9)(q:EM)(p:Pln):Rln×Bool:=cond (cA q p&&D7 d q) (cond (p.1==1) (ejB d q p.2.2.1)<|cond (p.1==2) (edB d q p.2.2.2)<|elB d q p.2.1) ((0,[]),false)
def AnA(h:Tn d)(b:MA q){p:Pln}(c:gY p):TG d q p=some (rpB d q p):=by
 unfold TG rpB cA;rw[Anp h b c.2.1,Bj,Ano h b c.2.2,Bj,Anq h b c.1,Bj];cases p.1==1 with
 |true=>
  simp only[Ac];cases a:jtB q p.2.2.1&&D7 d q with
  |true=>rfl
  |false=>unfold ejB;rw[GZ]at a;rw[a];rfl
 |false=>
  simp only[Ad];cases p.1==2 with
  |true=>
   simp only[Ac];cases a:Vp q p.2.2.2&&D7 d q with
   |true=>rfl
   |false=>
    have:(bsB d q p.2.2.2).2=false:=by unfold bsB;rw[<-Bool.and_assoc,a,Ho];rfl
    unfold edB;rw[this];rfl
  |false=>
   simp only[Ad];cases p.1==3 with
   |false=>rfl
   |true=>
    simp only[Ac];cases a:Sf q p.2.1&&D7 d q with
    |true=>rfl
    |false=>
     have:(ljB d q p.2.1).2.2=false:=by
      cases e:(ljB d q p.2.1).2.2 with
      |false=>rfl
      |true=>have⟨f,g⟩:=AhF e;rw[f,g]at a;cases a
     unfold elB;rw[this];rfl
end
def Ij(V z:zI):zI:=V.map<|EL z
def s9(V z:zI):(Ij V z).length=V.length:=Ai _
def d8{u V z}(h:∀v∈V,v∈u):Mp u (Ij u z) V=Ij V z:=Bd λv a=>Wi (EL z)<|h v a
section
variable {a b:JY}(ha:QJ a=true)(hb:QJ b=true)
include ha hb
def pK(z:zI):Ij (GD a.1 b.1) z∈iq a b↔Ij a.1 z∈a.2.2∧Ij b.1 z∈b.2.2:=by obtain⟨a1,-⟩:=EK ha;obtain⟨b1,-⟩:=EK hb;rw[fX ha hb,s9,d8 λv c=>(M7 a1 b1 v).2 (.inl c),d8 λv c=>(M7 a1 b1 v).2 (.inr c)];exact⟨λh=>h.2,λh=>⟨rfl,h⟩⟩
def sE(z:zI):Ij (lg a b).1 z∈(lg a b).2.2↔Ij a.1 z∈a.2.2∧Ij b.1 z∈b.2.2:=by rw[<-pK ha hb];exact Fd _ _
def Acu{z}(h:Ij b.1 z∈b.2.2):smK a.1 b (Ij a.1 z)=true:=by
 obtain⟨a1,-⟩:=EK ha;obtain⟨b1,-⟩:=EK hb;unfold smK;refine BR.2 ⟨_,h,?_⟩;rw[tQ a1 b1,Bv];have d:Mp a.1 (Ij a.1 z) (JZ a.1 b.1)=Ij (JZ a.1 b.1) z:=d8 λv c=>(AM.1 c).1
 have e:Mp b.1 (Ij b.1 z) (JZ a.1 b.1)=Ij (JZ a.1 b.1) z:=d8 λv c=>Ag.1 (AM.1 c).2
 rw[d,e]
end
def Fam(n:Nat)(f:Nat->JY)(z:zI):Prop:=∀i,i < n->Ij (f i).1 z∈(f i).2.2
def zk(l:List JY)(a:JY):(l.foldl Wd a).1=a.1:=by rw[YF]
def Acv(l:List JY)(a:JY){x:Row}(h:x∈(l.foldl Wd a).2.2):x∈a.2.2:=by rw[YF]at h;exact(AM.1 h).1
def zj:∀(l:List JY) (a:JY) {z:zI},QJ a=true->(∀b∈l,QJ b=true∧Ij b.1 z∈b.2.2)->Ij a.1 z∈a.2.2->Ij a.1 z∈(l.foldl Wd a).2.2:=λl a z e c h=>by rw[YF];refine AM.2 ⟨h,Aq.2 λb d=>?_⟩;exact Acu e (c b d).1 (c b d).2
section
variable {n r:Nat}{up:Nat->Option Nat}{K:Nat->zN}{D:Nat->Nat}(h:TrN n r up K D){B:Nat->JY}(hB:∀i,i < n->QJ (B i)=true)
def dX(m k:Nat):(NN K Wd B m k).1=(B k).1:=by
 cases m with
 |zero=>rfl
 |succ m=>rw[NN];exact zk _ _
def pN(m k:Nat){x:Row}(h:x∈(NN K Wd B m k).2.2):x∈(B k).2.2:=by
 cases m with
 |zero=>exact h
 |succ m=>rw[NN]at h;exact Acv _ _ h
def l5{S}(m k:Nat):(TT up Wd S m k).1=(S k).1:=by
 cases m with
 |zero=>rfl
 |succ m=>rw[TT];cases up k<;>rfl
def zC{S}(m k:Nat){x:Row}(h:x∈(TT up Wd S m k).2.2):x∈(S k).2.2:=by
 cases m with
 |zero=>exact h
 |succ m=>
  rw[TT]at h;cases e:up k with
  |none=>rw[e]at h;exact h
  |some j=>rw[e]at h;exact(AM.1 h).1
include h hB
def Adr{z}(b:Fam n B z):∀m k,k < n->Ij (NN K Wd B m k).1 z∈(NN K Wd B m k).2.2
 |0,k,a=>b k a
 |m+1,k,a=>by rw[dX,NN];refine zj _ _ (hB k a) (λb d=>?_)<|b k a;obtain⟨c,e,rfl⟩:=Aw.1 d;have:=(QF h e).1;exact⟨Xb h hB m c this,Adr b m c this⟩
def wu(z:zI):Fam n (NN K Wd B n) z↔Fam n B z:=by refine⟨λhz i hi=>?_,λhz i hi=>Adr h hB hz n i hi⟩;have:=hz i hi;rw[dX]at this;exact pN _ _ this
def AdI{z}(b:Fam n B z):∀m k,k < n->Ij (TT up Wd B m k).1 z∈(TT up Wd B m k).2.2
 |0,k,a=>b k a
 |m+1,k,a=>by
  rw[l5,TT];cases e:up k with
  |none=>exact b k a
  |some j=>have c:=(dE h a e).1;have:=zj [TT up Wd B m j] (B k) (z:=z) (hB k a) (λb d=>by rw[As]at d;subst d;exact⟨qt h hB m j c,AdI b m j c⟩) (b k a);exact this
def Ae3(z:zI):Fam n (TT up Wd B n) z↔Fam n B z:=by refine⟨λhz i hi=>?_,λhz i hi=>AdI h hB hz n i hi⟩;have:=hz i hi;rw[l5]at this;exact zC _ _ this
end
def pA:∀(l:List (Option JY)) (a v:JY),QJ a=true->(∀b,some b∈l->QJ b=true)->l.foldl Se (some a)=some v->QJ v=true∧(∀o∈l,∃b,o=some b)∧(∀x,x∈v.1↔x∈a.1∨∃b,some b∈l∧x∈b.1)∧∀z,Ij v.1 z∈v.2.2↔Ij a.1 z∈a.2.2∧∀b,some b∈l->Ij b.1 z∈b.2.2
 |[],a,v,f,_,e=>by rw[Ez,Av]at e;subst e;exact⟨f,λo g=>(by cases g),λx=>nF,λz=>nF⟩
 |none::l,a,v,f,j,e=>by rw[Ca,sM,Wn]at e;cases e
 |some b::l,a,v,f,j,e=>by
  rw[Ca]at e;have k:=j b BD;cases m:S8 a b with
  |true=>rw[show Se (some a) (some b)=none by unfold Se;simp only;rw[m];rfl,Wn]at e;cases e
  |false=>
   rw[show Se (some a) (some b)=some (lg a b)by unfold Se;simp only;rw[m];rfl]at e;have⟨p,q,r,s⟩:=pA l _ v (nq f k m) (λc d=>j c<|AW _ d) e;refine⟨p,λo g=>?_,λx=>?_,λz=>?_⟩
   ·rcases AL.1 g with rfl|g
    ·exact⟨b,rfl⟩
    ·exact q o g
   ·rw[r];have t:x∈(lg a b).1↔x∈a.1∨x∈b.1:=M7 (EK f).1 (EK k).1 x;rw[t];constructor
    ·rintro((h|h)|⟨c,d,h⟩)
     ·exact .inl h
     ·exact .inr ⟨b,BD,h⟩
     ·exact .inr ⟨c,AW _ d,h⟩
    ·rintro(h|⟨c,d,h⟩)
     ·exact .inl<|.inl h
     ·rcases AL.1 d with e|d
      ·rw[Av]at e;subst e;exact .inl<|.inr h
      ·exact .inr ⟨c,d,h⟩
   ·rw[s,sE f k];constructor
    ·rintro⟨⟨n,i⟩,u⟩;refine⟨n,λc d=>?_⟩;rcases AL.1 d with e|d
     ·rw[Av]at e;subst e;exact i
     ·exact u c d
    ·rintro⟨n,i⟩;exact⟨⟨n,i b BD⟩,λc d=>i c<|AW _ d⟩
section
variable {n r:Nat}{up:Nat->Option Nat}{K:Nat->zN}{D:Nat->Nat}(h:TrN n r up K D){B:Nat->JY}(hB:∀i,i < n->QJ (B i)=true)
include h hB
theorem dW:∀m k v,k < n->n<=m+D k->NN K Se (λi=>some (B i)) m k=some v->(∀x,x∈v.1↔∃i,i < n∧SbT up k i∧x∈(B i).1)∧∀z,Ij v.1 z∈v.2.2↔∀i,i < n->SbT up k i->Ij (B i).1 z∈(B i).2.2
 |0,k,v,hk,hm,_=>by have:=h.dn k hk;omega
 |m+1,k,v,hk,hm,e=>by
  rw[NN]at e
  have hval:∀b,some b∈(K k).map (NN K Se (λi=>some (B i)) m)->QJ b=true:=λb hb=>by
   obtain⟨c,hc,e2⟩:=Aw.1 hb
   exact Xa h hB m c b (QF h hc).1 e2
  obtain⟨h1,h2,h3,h4⟩:=pA _ _ v (hB k hk) hval e
  have kid:∀c∈K k,∃w,NN K Se (λi=>some (B i)) m c=some w∧(∀x,x∈w.1↔∃i,i < n∧SbT up c i∧x∈(B i).1)∧∀z,Ij w.1 z∈w.2.2↔∀i,i < n->SbT up c i->Ij (B i).1 z∈(B i).2.2:=λc hc=>by
   obtain⟨w,hw⟩:=h2 _ (Aw.2 ⟨c,hc,rfl⟩)
   have a:=QF h hc
   exact⟨w,hw,dW m c w a.1 aG hw⟩
  have sub:∀i,i < n->(SbT up k i↔i=k∨∃c,c∈K k∧SbT up c i):=λi hi=>by
   refine⟨λhs=>y4 h hs hi,?_⟩
   rintro(rfl|⟨c,hc,hs⟩)
   ·exact .self
   ·exact Acl hs ((h.kid k c).1 hc).2
  refine⟨λx=>?_,λz=>?_⟩
  ·rw[h3]
   constructor
   ·rintro(hx|⟨b,hb,hx⟩)
    ·exact⟨k,hk,.self,hx⟩
    ·obtain⟨c,hc,e2⟩:=Aw.1 hb
     obtain⟨w,hw,w1,-⟩:=kid c hc
     rw[hw,Av]at e2
     subst e2
     obtain⟨i,hi,hs,hx⟩:=(w1 x).1 hx
     exact⟨i,hi,(sub i hi).2 (.inr ⟨c,hc,hs⟩),hx⟩
   ·rintro⟨i,hi,hs,hx⟩
    rcases(sub i hi).1 hs with rfl|⟨c,hc,hs⟩
    ·exact .inl hx
    ·obtain⟨w,hw,w1,-⟩:=kid c hc
     exact .inr ⟨w,Aw.2 ⟨c,hc,hw⟩,(w1 x).2 ⟨i,hi,hs,hx⟩⟩
  ·rw[h4]
   constructor
   ·rintro⟨h5,h6⟩ i hi hs
    rcases(sub i hi).1 hs with rfl|⟨c,hc,hs⟩
    ·exact h5
    ·obtain⟨w,hw,-,w2⟩:=kid c hc
     exact(w2 z).1 (h6 w (Aw.2 ⟨c,hc,hw⟩)) i hi hs
   ·intro h5
    refine⟨h5 k hk .self,λb hb=>?_⟩
    obtain⟨c,hc,e2⟩:=Aw.1 hb
    obtain⟨w,hw,-,w2⟩:=kid c hc
    rw[hw,Av]at e2
    subst e2
    exact(w2 z).2 λi hi hs=>h5 i hi ((sub i hi).2 (.inr ⟨c,hc,hs⟩))
theorem sF{v:JY}(e:NN K Se (λi=>some (B i)) n r=some v):(∀x,x∈v.1↔∃i,i < n∧x∈(B i).1)∧∀z,Ij v.1 z∈v.2.2↔Fam n B z:=by
 obtain⟨c,d⟩:=dW h hB n r v h.rn aG e
 have b:∀i,i < n->SbT up r i:=λi hi=>Acm h (D i) i (A5 _) hi
 refine⟨λx=>?_,λz=>?_⟩
 ·rw[c]
  exact⟨λ⟨i,hi,_,a⟩=>⟨i,hi,a⟩,λ⟨i,hi,a⟩=>⟨i,hi,b i hi,a⟩⟩
 ·rw[d]
  exact⟨λg i hi=>g i hi (b i hi),λg i hi _=>g i hi⟩
theorem sG(o:∀(m k:Nat) (b:zN) (c:Nat) (d:zN) (a w:JY),k < n->n<=m+1+D k->K k=b++c::d->(b.map (NN K Se (λi=>some (B i)) m)).foldl Se (some (B k))=some a->NN K Se (λi=>some (B i)) m c=some w->S8 a w=false):∀m k,k < n->n<=m+D k->∃v,NN K Se (λi=>some (B i)) m k=some v
 |0,k,f,q=>by have:=h.dn k f;omega
 |m+1,k,f,q=>by
  rw[NN]
  have g:∀(d b:zN),K k=b++d->∀a,(b.map (NN K Se (λi=>some (B i)) m)).foldl Se (some (B k))=some a->∃v,(d.map (NN K Se (λi=>some (B i)) m)).foldl Se (some a)=some v:=by
   intro d
   induction d with
   |nil=>intro b _ a _;exact⟨a,rfl⟩
   |cons c d s=>
    intro b j a p
    have t:c∈K k:=by rw[j];simp
    have u:=QF h t
    obtain⟨w,l⟩:=sG o m c u.1 aG
    have x:=o m k b c d a w f aG j p l
    have e:Se (some a) (some w)=some (lg a w):=by unfold Se;simp only;rw[x];rfl
    rw[AP,Ca,l,e]
    refine s (b++[c]) (by rw[j];simp) (lg a w) ?_
    rw[Br,C2,p,AP,DE,Ca,Ez,l,e]
  exact g (K k) [] rfl (B k) rfl
end
def six(x:Row):Prop:=∀e∈x,0<=e∧e < 6
theorem kv{L:List Row}{k:Nat}(f:L.Nodup)(d:∀x∈L,x.length=k)(q:k<=4)(g:∀x∈L,six x):L.length<=1296:=by
 have h:=gz ((List.range k).map λi=>((λx:Row=>x.getD i 0),([0,1,2,3,4,5]:zI))) L f (λx c p j=>by
  obtain⟨i,hi,rfl⟩:=Aw.1 j
  have hi:=Ao.1 hi
  have l:=d x c
  have:=g x c _ (Ae (aG:i < x.length))
  simp only
  rw[AF,Af aG,Bz]
  have m:x[i]=0∨x[i]=1∨x[i]=2∨x[i]=3∨x[i]=4∨x[i]=5:=aG
  rcases m with e|e|e|e|e|e<;>rw[e]<;>simp) (λx c y n o=>by
  have r:=d x c
  have s:=d y n
  refine Cp aG λi a b=>?_
  have:=o _ (Aw.2 ⟨i,Ao.2 aG,rfl⟩)
  simp only at this
  rwa [AF,Af a,AF,Af b]at this)
 refine Bm h ?_
 have:k=0∨k=1∨k=2∨k=3∨k=4:=aG
 rcases this with rfl|rfl|rfl|rfl|rfl<;>decide
theorem yB{α:Type}:∀(F:List (zI×List Row)),(∀p∈F,p.2.length<=9)->∀g:(zI×List Row)->(α->Row),((F.map λp=>(g p,p.2)).map λp=>p.2.length).prod<=9 ^ F.length
 |[],_,_=>by simp
 |p::F,h,g=>by
  have a:=yB F (λp b=>h p (AW _ b)) g
  have c:=h p BD
  rw[AP,AP,List.prod_cons,AC,Fb,Rm]
  exact Hr a c
theorem dM{L:List Row}{u:zI}(F:List (zI×List Row))(k:L.Nodup)(l:u.Nodup)(j:∀x∈L,x.length=u.length)(t:F.length<=3)(m:∀p∈F,p.2.length<=9)(c:∀x∈L,∀p∈F,Mp u x p.1∈p.2)(n:∀v∈u,∃p∈F,v∈p.1):L.length<=729:=by
 have h:=gz (F.map λp=>((λx:Row=>Mp u x p.1),p.2)) L k (λx d p f=>by
  obtain⟨o,g,rfl⟩:=Aw.1 f
  exact c x d o g) (λx d y q r=>by
  have w:=j x d
  have z:=j y q
  refine Cp aG λi a b=>?_
  have hi:i < u.length:=aG
  obtain⟨p,f,s⟩:=n _ (Ae hi)
  have:=r _ (Aw.2 ⟨p,f,rfl⟩)
  simp only at this
  unfold Mp at this
  have:=Pu.1 this _ s
  rwa [V3 l hi,Dz a,Dz b]at this)
 refine Bm h (Bm (yB F m λp x=>Mp u x p.1) ?_)
 have:F.length=0∨F.length=1∨F.length=2∨F.length=3:=aG
 rcases this with e|e|e|e<;>rw[e]<;>decide
theorem kA{m:Nat}(x:m<=4){V:Nat->zI}{S:Nat->Prop}{u:zI}(l:∀v∈u,∃i,i < m∧S i∧v∈V i)(j:∀v∈V 1,v∈V 0∨v∈V 2):∃T:zN,T.length<=3∧(∀i∈T,i < m∧S i)∧∀v∈u,∃i∈T,v∈V i:=by
 by_cases c:m=4∧∀i,i < 4->S i
 ·obtain⟨rfl,q⟩:=c
  refine⟨[0,2,3],nF,λi hi=>?_,λv k=>?_⟩
  ·simp only[AL,MW,or_false]at hi
   have:i < 4:=aG
   exact⟨this,q i this⟩
  ·obtain⟨i,hi,-,f⟩:=l v k
   have:i=0∨i=1∨i=2∨i=3:=aG
   rcases this with rfl|rfl|rfl|rfl
   ·exact⟨0,nF,f⟩
   ·rcases j v f with h|h
    ·exact⟨0,nF,h⟩
    ·exact⟨2,nF,h⟩
   ·exact⟨2,nF,f⟩
   ·exact⟨3,nF,f⟩
 ·have g:∀i,S i∨¬S i:=λi=>Classical.em _
  obtain⟨T,o,d⟩:∃T:zN,T.Sublist (List.range m)∧∀i,i∈T↔i < m∧S i:=by
   have:∀n,∃T:zN,T.Sublist (List.range n)∧∀i,i∈T↔i < n∧S i:=by
    intro n
    induction n with
    |zero=>exact⟨[],List.Sublist.refl _,λi=>by simp⟩
    |succ n r=>
     obtain⟨T,j,p⟩:=r
     rw[CO]
     rcases g n with h|h
     ·refine⟨T++[n],j.append (List.Sublist.refl _),λi=>?_⟩
      rw[Al,As,p]
      constructor
      ·rintro(⟨a,b⟩|rfl)
       ·exact⟨aG,b⟩
       ·exact⟨aG,h⟩
      ·rintro⟨a,b⟩
       by_cases e:i=n
       ·exact .inr e
       ·exact .inl ⟨aG,b⟩
     ·refine⟨T,j.trans (List.sublist_append_left _ _),λi=>?_⟩
      rw[p]
      constructor
      ·rintro⟨a,b⟩;exact⟨aG,b⟩
      ·rintro⟨a,b⟩
       by_cases e:i=n
       ·subst e;exact absurd b h
       ·exact⟨aG,b⟩
   exact this m
  refine⟨T,?_,λi hi=>(d i).1 hi,λv k=>?_⟩
  ·have s:=o.length_le
   rw[BJ]at s
   by_cases e:T.length<=3
   ·exact e
   ·exfalso
    have t:T=List.range m:=o.eq_of_length (by rw[BJ];omega)
    refine c ⟨aG,λi hi=>?_⟩
    exact((d i).1 (by rw[t];exact Ao.2 aG)).2
  ·obtain⟨i,hi,w,f⟩:=l v k
   exact⟨i,(d i).2 ⟨hi,w⟩,f⟩
theorem tp{u z W:zI}(c:z.length=u.length)(a:u.Nodup){P:Int->Prop}(h:∀e∈Mp u z W,P e){i:Nat}(hi:i < u.length)(b:u[i]∈W):P (z[i]'aG):=by
 have:=h (EL z (CA u u[i])) (Aw.2 ⟨u[i],b,rfl⟩)
 rwa [V3 a hi,Dz aG]at this
theorem pL{a b:JY}(c:QJ a=true)(d:QJ b=true)(g:∀x∈a.2.2,six x)(j:∀x∈b.2.2,six x):∀z∈iq a b,six z:=λz k e l=>by
 obtain⟨a1,-⟩:=EK c
 obtain⟨b1,-⟩:=EK d
 obtain⟨f,m,n⟩:=(fX c d z).1 k
 obtain⟨i,hi,rfl⟩:=AE.1 l
 rcases(M7 a1 b1 _).1 (Ae (aG:i < (GD a.1 b.1).length))with h|h
 ·exact tp f (VF _ _) (g _ m) aG h
 ·exact tp f (VF _ _) (j _ n) aG h
theorem fy:∀(l:List (Option JY)) (a v:JY),QJ a=true->(∀b,some b∈l->QJ b=true)->(∀x∈a.2.2,six x)->(∀b,some b∈l->∀x∈b.2.2,six x)->l.foldl Se (some a)=some v->∀x∈v.2.2,six x
 |[],a,v,_,_,d,_,e=>by rw[Ez,Av]at e;exact e ▸ d
 |none::l,a,v,_,_,_,_,e=>by rw[Ca,sM,Wn]at e;cases e
 |some b::l,a,v,h,i,d,j,e=>by
  rw[Ca]at e
  have k:=i b BD
  cases f:S8 a b with
  |true=>rw[show Se (some a) (some b)=none by unfold Se;simp only;rw[f];rfl,Wn]at e;cases e
  |false=>
   rw[show Se (some a) (some b)=some (lg a b)by unfold Se;simp only;rw[f];rfl]at e
   exact fy l _ v (nq h k f) (λc g=>i c (AW _ g)) (λx m=>pL h k d (j b BD) x ((Fd _ x).1 m)) (λc g=>j c (AW _ g)) e
def i9(u x:zI):zI:=(List.range 5).map λ(v:Nat)=>EL x (CA u (v:Int))
theorem AaN{u x:zI}{v:Int}(a:0<=v)(b:v<=4):EL (i9 u x) v=EL x (CA u v):=by
 obtain⟨n,rfl⟩:=CT a
 unfold i9
 rw[Dz (by simp;omega)]
 simp
theorem Xq{u x V:zI}(h:∀v∈V,0<=v∧v<=4):Ij V (i9 u x)=Mp u x V:=Bd λv a=>AaN (h v a).1 (h v a).2
theorem ja{u x:zI}(a:u.Nodup)(b:x.length=u.length)(h:∀v∈u,0<=v∧v<=4):Ij u (i9 u x)=x:=by rw[Xq h,XN a b]
section
variable {n r:Nat}{up:Nat->Option Nat}{K:Nat->zN}{D:Nat->Nat}(h:TrN n r up K D){B:Nat->JY}(hB:∀i,i < n->QJ (B i)=true)
def stS(up:Nat->Option Nat)(k:Nat)(l:zN)(i:Nat):Prop:=i=k∨∃c,c∈l∧SbT up c i
include h hB
theorem pM(d:∀i,i < n->∀x∈(B i).2.2,six x):∀m k v,k < n->NN K Se (λi=>some (B i)) m k=some v->∀x∈v.2.2,six x
 |0,k,v,a,e=>by rw[NN,Av]at e;exact e ▸ d k a
 |m+1,k,v,a,e=>by
  rw[NN]at e
  refine fy _ _ v (hB k a) (λb f=>?_) (d k a) (λb f=>?_) e
  ·obtain⟨c,g,e2⟩:=Aw.1 f
   exact Xa h hB m c b (QF h g).1 e2
  ·obtain⟨c,g,e2⟩:=Aw.1 f
   exact pM d m c b (QF h g).1 e2
theorem xV(J:∀i,i < n->∀x∈(B i).2.2,six x)
  (Y:∀(k:Nat) (l:zN) (u:zI) (L:List Row),k < n->(∀c∈l,c∈K k)->(∀v,v∈u↔∃i,i < n∧stS up k l i∧v∈(B i).1)->u.Nodup->u.length=5->L.Nodup->(∀x∈L,x.length=u.length∧∀i,i < n->stS up k l i->Mp u x (B i).1∈(B i).2.2)->L.length<=729):∃v,NN K Se (λi=>some (B i)) n r=some v:=by
 refine sG h hB (λm k A c l2 a w C hm Q R M=>?_) n r h.rn aG
 have S:c∈K k:=by rw[Q];simp
 have s:=QF h S
 have j:∀c'∈A,c'∈K k:=λc' d=>by rw[Q];exact AD _ d
 have o:∀b,some b∈A.map (NN K Se (λi=>some (B i)) m)->QJ b=true:=λb p=>by
  obtain⟨c',d,e2⟩:=Aw.1 p
  exact Xa h hB m c' b (QF h (j c' d)).1 e2
 obtain⟨F,Z,h3,T⟩:=pA _ _ a (hB k C) o R
 have G:=Xa h hB m c w s.1 M
 obtain⟨w1,w2⟩:=dW h hB m c w s.1 aG M
 have t:∀c'∈A,∃b,NN K Se (λi=>some (B i)) m c'=some b∧(∀x,x∈b.1↔∃i,i < n∧SbT up c' i∧x∈(B i).1)∧∀z,Ij b.1 z∈b.2.2↔∀i,i < n->SbT up c' i->Ij (B i).1 z∈(B i).2.2:=λc' d=>by
  obtain⟨b,p⟩:=Z _ (Aw.2 ⟨c',d,rfl⟩)
  have a:=QF h (j c' d)
  exact⟨b,p,dW h hB m c' b a.1 aG p⟩
 have a1:=(EK F).1
 have b1:=(EK G).1
 have hu:∀v,v∈GD a.1 w.1↔∃i,i < n∧stS up k (A++[c]) i∧v∈(B i).1:=λv=>by
  rw[M7 a1 b1,h3,w1]
  constructor
  ·rintro((e|⟨b,p,e⟩)|⟨i,hi,f,e⟩)
   ·exact⟨k,C,.inl rfl,e⟩
   ·obtain⟨c',d,e2⟩:=Aw.1 p
    obtain⟨b',g,N,-⟩:=t c' d
    rw[g,Av]at e2
    subst e2
    obtain⟨i,hi,f,e⟩:=(N v).1 e
    exact⟨i,hi,.inr ⟨c',AD _ d,f⟩,e⟩
   ·exact⟨i,hi,.inr ⟨c,nF,f⟩,e⟩
  ·rintro⟨i,hi,f,e⟩
   rcases f with rfl|⟨c',d,f⟩
   ·exact .inl (.inl e)
   ·rcases Al.1 d with d|d
    ·obtain⟨b',g,N,-⟩:=t c' d
     exact .inl (.inr ⟨b',Aw.2 ⟨c',d,g⟩,(N v).2 ⟨i,hi,f,e⟩⟩)
    ·rw[As]at d
     subst d
     exact .inr ⟨i,hi,f,e⟩
 have O:∀v∈GD a.1 w.1,0<=v∧v<=4:=λv P=>((M7 a1 b1 v).1 P).elim ((Wc a1).2 v) ((Wc b1).2 v)
 have q:∀x∈iq a w,x.length=(GD a.1 w.1).length∧∀i,i < n->stS up k (A++[c]) i->Mp (GD a.1 w.1) x (B i).1∈(B i).2.2:=λx e=>by
  have H:x.length=(GD a.1 w.1).length:=((fX F G x).1 e).1
  refine⟨H,λi hi f=>?_⟩
  have y:=ja (VF a.1 w.1) H O
  rw[<-y]at e
  obtain⟨U,r2⟩:=(pK F G _).1 e
  rw[<-Xq λv P=>(Wc (EK (hB i hi)).1).2 v P]
  rcases f with rfl|⟨c',d,f⟩
  ·exact((T _).1 U).1
  ·rcases Al.1 d with d|d
   ·obtain⟨b',g,-,k2⟩:=t c' d
    exact(k2 _).1 (((T _).1 U).2 b' (Aw.2 ⟨c',d,g⟩)) i hi f
   ·rw[As]at d
    subst d
    exact(w2 _).1 r2 i hi f
 have I:=Adq F G
 have W:=eo a.1 w.1
 have X:(iq a w).length<=1296:=by
  by_cases h5:(GD a.1 w.1).length=5
  ·have:=Y k (A++[c]) (GD a.1 w.1) (iq a w) C (λc' d=>by
    rcases Al.1 d with h|h
    ·exact j c' h
    ·rw[As]at h;exact h ▸ S) hu (VF _ _) h5 I q
   omega
  ·exact kv I (λx e=>(q x e).1) aG (pL F G (fy _ _ a (hB k C) o (J k C) (λb p=>by
    obtain⟨c',d,e2⟩:=Aw.1 p
    exact pM h hB J m c' b (QF h (j c' d)).1 e2) R) (pM h hB J m c w s.1 M))
 unfold S8
 rw[C1]
 omega
end
end Go.Proofs.YtdmpnamllcigdaaGreatDoor
