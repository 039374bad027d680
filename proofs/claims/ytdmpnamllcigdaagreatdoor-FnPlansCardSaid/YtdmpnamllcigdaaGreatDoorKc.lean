/- A machine on data, part 3: how a law's arguments read as data. Over any program; no conditions. -/
import Derived.Test.YtdmpnamllcigdaaGreatDoorKa
import Derived.Deep.Slices
import Derived.OpenShut
import Derived.Lib.SmallJoins
import Derived.Carry
import Derived.ProofKit
import Derived.Test.YtdmpnamllcigdaaGreatDoorKq
open Go.RowKit
set_option linter.all false
namespace Go.Proofs.YtdmpnamllcigdaaGreatDoor
section
open Go.RowKit Go.ChangeShapes Go.WideShapes Go.Deep
def pF{α:Type}[Inhabited α]{n:Nat}{p:Nat->α->Prop}(h:∀i,i < n->∃x,p i x):∃l:List α,l.length=n∧∀i (hi:i < l.length),p i l[i]:=by have⟨f,a⟩:=choose_lt h;refine⟨(List.range n).map f,nF,λi hi=>?_⟩;simp only[Ai,BJ]at hi;simpa using a i hi
def flat_get{size:Nat}{f:Nat->List Value}:∀(n:Nat),(∀i,i < n->(f i).length=size)->((List.range n).flatMap f).length=n * size∧
  ∀i j,i < n->j < size->((List.range n).flatMap f)[i * size+j]? =(f i)[j]?:=by
 intro n;induction n with
 |zero=>intro _;exact⟨nF,λi j hi=>absurd hi aG⟩
 |succ n b=>
  intro h;obtain⟨a,c⟩:=b<|λi hi=>h i aG
  rw[CO,Dw,List.flatMap_singleton];refine⟨by rw[An,a,h n aG,HU],λi j hi d=>?_⟩;by_cases e:i=n
  ·subst e;rw[CF aG,a,Dn]
  ·have g:i * size+j < n * size:=by have:(i+1) * size<=n * size:=Cd _ aG;rw[HU]at this;omega
   rw[Cc aG,c i j aG d]
section
variable {H:Type}{enc:TypeId×Value->H}{P:Program}{w:World}{base:Nat}{spare:Nat->Bool}{held:Bool}
def oK{a:Addr}{j:Nat}{u:Value}(e:∃v,w.cell? (a.add 0)=some v)(h:w.cell? (a.add j)=some u):∃b off,a=⟨b,off,none⟩∧w.cell? ⟨b,off+j,none⟩=some u:=by
 obtain⟨v,e⟩:=e;obtain⟨b,off,d⟩:=a;have c:d=none:=by simpa[Addr.add]using World.cell?_spot e
 subst c;exact⟨b,off,rfl,by rw[<-Go.WideShapes.add_plain];exact h⟩
def open_row{t e:TypeId}{size fuel:Nat}{v:Value}{x:DataW H×List MemPlace}(ht:P.underlying t=some (.slice e))(hC:P.cellsOf e=size)(hs:0 < size)
  (h:DataW.trod enc P w base spare held fuel t [v]=some x):
  ∃(n:Nat) (xs:List Value),QN w size v n xs∧∀i,i < n->∃y m,DataW.trod enc P w base spare held m e ((xs.drop<|i * size).take size)=some y:=by
 rcases open_slice ht h with⟨hv,_⟩|⟨a,len,cap,m,fl,D,Pl,hv,hb,hl,hm,hmm,hx,hi⟩
 ·obtain rfl:v=.slice none 0 0:=by simpa using hv
  exact⟨0,[],⟨none,0,rfl,aG,nF,λh0=>absurd h0 aG⟩,λi hi=>absurd hi aG⟩
 ·obtain rfl:v=.slice (some a) len cap:=by simpa using hv
  subst hC;have hlm:len<=m:=by rw[hmm];split<;>omega
  obtain⟨f,hf⟩:=choose_lt (α:=List Value)<|λi hlt=>hi i<|BV hlt hlm
  have hfl:∀i,i < len->(f i).length=P.cellsOf e:=λi hlt=>(World.cells?_some (hf i hlt).1).2.1
  obtain⟨g1,g2⟩:=flat_get (size:=P.cellsOf e) (f:=f) len hfl
  have hcell:∀j u,((List.range len).flatMap f)[j]? =some u->w.cell? (a.add j)=some u:=by
   intro j u hu
   have hj:j < len * P.cellsOf e:=by
    rcases Bi j (len * P.cellsOf e)with h1|h1
    ·exact h1
    ·rw[Bt aG]at hu;cases hu
   have hd:j / P.cellsOf e < len:=by rw[Nat.div_lt_iff_lt_mul hs];exact hj
   have hr:j % P.cellsOf e < P.cellsOf e:=O6 _ hs;have he:j / P.cellsOf e * P.cellsOf e+j % P.cellsOf e=j:=by rw[Rm];exact Nat.div_add_mod _ _
   have:=g2 _ _ hd hr;rw[he,hu]at this;have h3:=(World.cells?_some (hf _ hd).1).2.2 _ hr;rw[Go.Deep.add_add,he]at h3;rw[h3];exact this.symm
  refine⟨len,(List.range len).flatMap f,⟨some a,cap,rfl,by unfold maxLen at hm;omega,g1,λhn=>?_⟩,λi hlt=>?_⟩
  ·have h00:∃v,w.cell? (a.add 0)=some v:=by
    have hp:0 < ((List.range len).flatMap f).length:=by rw[g1];exact Nat.mul_pos hn hs
    exact⟨_,hcell 0 _<|Af hp⟩
   obtain⟨v0,h0⟩:=h00;obtain⟨b,off,rfl,_⟩:=oK ⟨v0,h0⟩ h0;refine⟨b,off,rfl,λj u hu=>?_⟩;rw[<-Go.WideShapes.add_plain];exact hcell j u hu
  ·refine⟨(D i,Pl i),fl,?_⟩;rw[<-(hf i hlt).2];congr 1;apply JD;intro j;rw[EE,Ej];by_cases hj:j < P.cellsOf e
   ·rw[Az hj,g2 i j hlt hj]
   ·rw[AA hj,Bt (by rw[hfl i hlt];omega)]
end
end
section
open Go.RowKit Go.ChangeShapes Go.WideShapes
section
variable {H:Type}{enc:TypeId×Value->H}{P:Program}
def iL{W W'}(f:laidOutB P=true)(g:Below W.heap.size W W'):∀(ts:List TypeId) {vs:List Value}{ds:List (DataW H)}{p:List MemPlace},
  ts.all (λt=>P.readableRec t&&decide (t < P.types.size))=true->DataW.TrodAll enc P W 0 (λ_=>true) true ts vs ds p->(∀x∈p,x.block < W.heap.size)->
  DataW.TrodAll enc P W' 0 (λb=>decide (b < W.heap.size)) true ts vs ds p:=by
 intro ts;induction ts with
 |nil=>intro vs ds p _ h _;obtain⟨rfl,rfl,rfl⟩:=trodAll_nil h;exact trodAll_mk0
 |cons t ts i=>intro vs ds p a h c;obtain⟨v,j,d,k,n,q,rfl,rfl,rfl,l,m⟩:=trodAll_cons h;simp only[BM,Ab,AN]at a;exact trodAll_cons_mk (Below.trod f a.1.1 a.1.2 l g<|λx e=>c x<|AD _ e)<|i a.2 m<|λx e=>c x<|AB _ e
end
end
section
open Go.RowKit Go.ChangeShapes Go.WideShapes Go.Deep
def StA(w:World):Nat->Nat->Prop:=λb _=>b < w.heap.size
section
variable {H:Type}(enc:TypeId×Value->H)(P:Program)(w:World)(base:Nat)(spare:Nat->Bool)(held:Bool)
def Opens(t:TypeId){α:Type}(c:α->List V)(b:α->Prop):Prop:=∀(fuel:Nat) (cs:List Value) (x:DataW H×List MemPlace),DataW.trod enc P w base spare held fuel t cs=some x->∃a,S5 w (StA w) (c a) cs∧b a
end
def ir(n:Int):Prop:= -9223372036854775808<=n∧n<=9223372036854775807
section
variable {H:Type}{enc:TypeId×Value->H}{P:Program}{w:World}{base:Nat}{spare:Nat->Bool}{held:Bool}
def yk{t}(a:P.underlying t=some (.int .u8)):Opens enc P w base spare held t Lo (λn=>0<=n∧n<=255):=by intro fuel cs x h;obtain⟨n,rfl,_,b⟩:=DataW.trod_int a h;exact⟨n,⟨_,[],rfl,rfl,rfl⟩,by simpa[Lit.wf,IntKind.min,IntKind.max,IntKind.signed,IntKind.bits]using b⟩
def s5{St}:∀{cs ds:List V}{us vs:List Value},S5 w St cs us->S5 w St ds vs->S5 w St (cs++ds) (us++vs)
 |[],_,_,_,h,a=>by rw[show _=[]from h];exact a
 |c::cs,_,_,_,⟨u,b,e,d,f⟩,a=>by rw[e];exact⟨u,b++_,rfl,d,s5 f a⟩
def nS{St}{α:Type}{c n}:∀(l:List α) (xs:List Value),xs.length=l.length * n->(∀i (hi:i < l.length),S5 w St (c l[i])<|(xs.drop<|i * n).take n)->S5 w St (l.flatMap c) xs
 |[],xs,b,_=>by have:xs=[]:=BG (by simpa using b);rw[this];rfl
 |a::l,xs,b,h=>by
  rw[AR,<-CI n xs];have e:=h 0 nF;rw[Nat.zero_mul,Mj,List.getElem_cons_zero]at e;have d:(xs.drop n).length=l.length * n:=by rw[BH,b,AC,HU];omega
  refine s5 e<|nS l (xs.drop n) d<|λi hi=>?_
  have:=h (i+1) (by simpa using hi);rw[List.getElem_cons_succ]at this;rw[J5,show n+i * n=(i+1) * n by rw[DS];omega];exact this
def yH{b off cs us}(d:S5 w (StA w) cs us)(e:∀(j:Nat) (u:Value),us[j]? =some u->w.cell? ⟨b,off+j,none⟩=some u)(a:b < w.heap.size):El w (StA w) b off cs:=by
 refine El.mk<|λj c f=>?_
 have⟨u,g,h⟩:=d.get j c f;exact⟨a,u,e j u g,h⟩
def cell_lt{b o u}(h:w.cell? ⟨b,o,none⟩=some u):b < w.heap.size:=by
 rcases Bi b w.heap.size with a|a
 ·exact a
 ·simp[World.cell?,GM a]at h
def yj{t e}{α:Type}[Inhabited α]{c:α->List V}{ok:α->Prop}{n:Nat}(ht:P.underlying t=some (.slice e))(hC:P.cellsOf e=n)(hn:0 < n)(hsz:∀a,(c a).length=n)(he:Opens enc P w base spare held e c ok):
  Opens enc P w base spare held t (λl:List α=>[.dat l.length (l.flatMap c)]) (λl=>l.length<=maxLen∧∀a∈l,ok a):=by
 intro fuel cs x h
 have hcs:∃v,cs=[v]∧∃A k cp,v=.slice A k cp∧k<=cp∧cp<=maxLen:=by
  rcases open_slice ht h with⟨h0,_⟩|⟨a,len,cap,m,fl,D,Pl,hv,hb,hl,hm,_⟩
  ·exact⟨_,h0,none,0,0,rfl,A5 _,BF _⟩
  ·exact⟨_,hv,some a,len,cap,rfl,hl,hm⟩
 obtain⟨v,rfl,A,k,cp,hv,hkc,hcm⟩:=hcs;have⟨k',xs,hr,hi⟩:=open_row ht hC hn h;have⟨A',cp',hv',hk,hlx,hrow⟩:=hr;rw[hv]at hv';injection hv' with e1 e2 e3
 subst e1 e2 e3;have⟨l,hl,hp⟩:=pF (α:=α) (n:=k) (p:=λi a=>S5 w (StA w) (c a) ((xs.drop (i * n)).take n)∧ok a) (λi hlt=>by have⟨y,m,hy⟩:=hi i hlt;exact he _ _ _ hy);have hrd:=nS l xs (by rw[hlx,hl])<|λi hi=>(hp i hi).1
 refine⟨l,⟨v,[],rfl,?_,rfl⟩,by rw[hl];omega,λa ha=>?_⟩
 ·rw[hv];refine⟨by rw[hl];omega,A,cp,by rw[hl],by rw[hl];exact hkc,λhpos=>?_,λh0=>?_⟩
  ·obtain⟨b,off,rfl,hcell⟩:=hrow aG;refine⟨b,off,rfl,yH hrd hcell ?_⟩;have:0 < xs.length:=by rw[hlx];exact Nat.mul_pos aG hn
   exact cell_lt<|hcell 0 _<|Af this
  ·rw[BG h0];rfl
 ·obtain⟨i,hi',rfl⟩:=AE.1 ha;exact(hp i hi').2
def zZ{t:TypeId}{α:Type}{c:α->List V}{g:α->V}{f:α->Prop}{v:Value}{d:DataW H}{p:List MemPlace}(l:Opens enc P w base spare held t c f)(m:∀a,c a=[g a])(n:∀a,(g a).D3=true)(o:v.cells= #[v])(h:DataW.Trod enc P w base spare held t v d p):∃a,jS w (StA w) (g a) v∧f a:=by
 obtain⟨fuel,i⟩:=h;rw[o]at i;obtain⟨a,j,q⟩:=l _ _ _ i;rw[m]at j;obtain⟨u,r,e,k,s⟩:=j;injection e with e1 e2
 subst e1;refine⟨a,?_,q⟩;have:=n a;cases b:g a<;>rw[b]at k this<;>first|exact k|cases this
def ue{f args vs}(a:MI P f args (.bool true))(b:Glb w (StA w))(h:RW w (StA w) args vs):Calls P f vs.toArray w (λe w'=>e=.returned (.bool true)∧Below w.heap.size w w'):=by refine(a.2 w (StA w) vs (λb o h=>h) b h).mono ?_;rintro e w' ⟨v,bs,St',rfl,c,_,_,d,_⟩;have g:v=.bool true:=d.2;rw[g];exact⟨rfl,c⟩
end
end
end Go.Proofs.YtdmpnamllcigdaaGreatDoor
