/- A machine on data, part 3: how a law's arguments read as data. Over any program; no conditions. -/
import Derived.Test.YtpnoalhfjnjeaaaGreatDoorKa
import Derived.Deep.Slices
import Derived.OpenShut
import Derived.Lib.SmallJoins
import Derived.Carry
import Derived.ProofKit
import Derived.Test.YtpnoalhfjnjeaaaGreatDoorKq
open Go.RowKit
set_option linter.all false
namespace Go.Proofs.YtpnoalhfjnjeaaaGreatDoor
section
open Go.RowKit Go.ChangeShapes Go.WideShapes Go.Deep
def nC{α:Type}[Inhabited α]{n:Nat}{p:Nat->α->Prop}(h:∀i,i < n->∃x,p i x):∃l:List α,l.length=n∧∀i (hi:i < l.length),p i l[i]:=by have⟨f,a⟩:=choose_lt h;refine⟨(List.range n).map f,by simp,λi hi=>?_⟩;simp only[Am,DG]at hi;simpa using a i hi
def flat_get{size:Nat}{f:Nat->List Value}:∀(n:Nat),(∀i,i < n->(f i).length=size)->((List.range n).flatMap f).length=n * size∧
  ∀i j,i < n->j < size->((List.range n).flatMap f)[i * size+j]? =(f i)[j]?:=by
 intro n;induction n with
 |zero=>intro _;exact⟨by simp,λi j hi=>absurd hi<|by omega⟩
 |succ n b=>
  intro h;obtain⟨a,c⟩:=b<|λi hi=>h i<|by omega
  rw[Ib,Dg,List.flatMap_singleton];refine⟨by rw[Ak,a,h n (by omega),GO],λi j hi d=>?_⟩;by_cases e:i=n
  ·subst e;rw[Cu (by omega),a,CT]
  ·have g:i * size+j < n * size:=by have:(i+1) * size<=n * size:=BW _ (by omega);rw[GO]at this;omega
   rw[B7 (by omega),c i j (by omega) d]
section
variable {H:Type}{enc:TypeId×Value->H}{P:Program}{w:World}{base:Nat}{spare:Nat->Bool}{held:Bool}
def mG{a:Addr}{j:Nat}{u:Value}(e:∃v,w.cell? (a.add 0)=some v)(h:w.cell? (a.add j)=some u):∃b off,a=⟨b,off,none⟩∧w.cell? ⟨b,off+j,none⟩=some u:=by
 obtain⟨v,e⟩:=e;obtain⟨b,off,d⟩:=a;have c:d=none:=by simpa[Addr.add]using World.cell?_spot e
 subst c;exact⟨b,off,rfl,by rw[<-Go.WideShapes.add_plain];exact h⟩
def open_row{t e:TypeId}{size fuel:Nat}{v:Value}{x:DataW H×List MemPlace}(ht:P.underlying t=some (.slice e))(hC:P.cellsOf e=size)(hs:0 < size)
  (h:DataW.trod enc P w base spare held fuel t [v]=some x):
  ∃(n:Nat) (xs:List Value),Qh w size v n xs∧∀i,i < n->∃y m,DataW.trod enc P w base spare held m e ((xs.drop<|i * size).take size)=some y:=by
 rcases open_slice ht h with⟨hv,_⟩|⟨a,len,cap,m,fl,D,Pl,hv,hb,hl,hm,hmm,hx,hi⟩
 ·obtain rfl:v=.slice none 0 0:=by simpa using hv
  exact⟨0,[],⟨none,0,rfl,by omega,by simp,λh0=>absurd h0<|by omega⟩,λi hi=>absurd hi<|by omega⟩
 ·obtain rfl:v=.slice (some a) len cap:=by simpa using hv
  subst hC;have hlm:len<=m:=by rw[hmm];split<;>omega
  obtain⟨f,hf⟩:=choose_lt (α:=List Value)<|λi hlt=>hi i<|BA hlt hlm
  have hfl:∀i,i < len->(f i).length=P.cellsOf e:=λi hlt=>(World.cells?_some (hf i hlt).1).2.1
  obtain⟨g1,g2⟩:=flat_get (size:=P.cellsOf e) (f:=f) len hfl
  have hcell:∀j u,((List.range len).flatMap f)[j]? =some u->w.cell? (a.add j)=some u:=by
   intro j u hu
   have hj:j < len * P.cellsOf e:=by
    rcases Bi j (len * P.cellsOf e)with h1|h1
    ·exact h1
    ·rw[BJ (by omega)]at hu;cases hu
   have hd:j / P.cellsOf e < len:=by rw[Nat.div_lt_iff_lt_mul hs];exact hj
   have hr:j % P.cellsOf e < P.cellsOf e:=QK _ hs;have he:j / P.cellsOf e * P.cellsOf e+j % P.cellsOf e=j:=by rw[Ez];exact Nat.div_add_mod _ _
   have:=g2 _ _ hd hr;rw[he,hu]at this;have h3:=(World.cells?_some (hf _ hd).1).2.2 _ hr;rw[Go.Deep.add_add,he]at h3;rw[h3];exact this.symm
  refine⟨len,(List.range len).flatMap f,⟨some a,cap,rfl,by unfold maxLen at hm;omega,g1,λhn=>?_⟩,λi hlt=>?_⟩
  ·have h00:∃v,w.cell? (a.add 0)=some v:=by
    have hp:0 < ((List.range len).flatMap f).length:=by rw[g1];exact Nat.mul_pos hn hs
    exact⟨_,hcell 0 _<|Ah hp⟩
   obtain⟨v0,h0⟩:=h00;obtain⟨b,off,rfl,_⟩:=mG ⟨v0,h0⟩ h0;refine⟨b,off,rfl,λj u hu=>?_⟩;rw[<-Go.WideShapes.add_plain];exact hcell j u hu
  ·refine⟨(D i,Pl i),fl,?_⟩;rw[<-(hf i hlt).2];congr 1;apply List.ext_getElem?;intro j;rw[Eb,Du];by_cases hj:j < P.cellsOf e
   ·rw[At hj,g2 i j hlt hj]
   ·rw[As hj,BJ (by rw[hfl i hlt];omega)]
end
end
section
open Go.RowKit Go.ChangeShapes Go.WideShapes
section
variable {H:Type}{enc:TypeId×Value->H}{P:Program}
def fU{W W'}(f:laidOutB P=true)(g:Below W.heap.size W W'):∀(ts:List TypeId) {vs:List Value}{ds:List (DataW H)}{p:List MemPlace},
  ts.all (λt=>P.readableRec t&&decide (t < P.types.size))=true->DataW.TrodAll enc P W 0 (λ_=>true) true ts vs ds p->(∀x∈p,x.block < W.heap.size)->
  DataW.TrodAll enc P W' 0 (λb=>decide (b < W.heap.size)) true ts vs ds p:=by
 intro ts;induction ts with
 |nil=>intro vs ds p _ h _;obtain⟨rfl,rfl,rfl⟩:=trodAll_nil h;exact trodAll_mk0
 |cons t ts i=>intro vs ds p a h c;obtain⟨v,j,d,k,p1,q,rfl,rfl,rfl,l,m⟩:=trodAll_cons h;simp only[Bz,Ad,Bu]at a;exact trodAll_cons_mk (Below.trod f a.1.1 a.1.2 l g<|λx e=>c x<|Az _ e)<|i a.2 m<|λx e=>c x<|Au _ e
end
end
section
open Go.RowKit Go.ChangeShapes Go.WideShapes Go.Deep
def StA(w:World):Nat->Nat->Prop:=λb _=>b < w.heap.size
section
variable {H:Type}(enc:TypeId×Value->H)(P:Program)(w:World)(base:Nat)(spare:Nat->Bool)(held:Bool)
def Opens(t:TypeId){α:Type}(c:α->List V)(b:α->Prop):Prop:=∀(fuel:Nat) (cs:List Value) (x:DataW H×List MemPlace),DataW.trod enc P w base spare held fuel t cs=some x->∃a,Su w (StA w) (c a) cs∧b a
end
def Y4(n:Int):Prop:= -9223372036854775808<=n∧n<=9223372036854775807
section
variable {H:Type}{enc:TypeId×Value->H}{P:Program}{w:World}{base:Nat}{spare:Nat->Bool}{held:Bool}
def u5{t}(a:P.underlying t=some (.int .u8)):Opens enc P w base spare held t G1 (λn=>0<=n∧n<=255):=by intro fuel cs x h;obtain⟨n,rfl,_,b⟩:=DataW.trod_int a h;exact⟨n,⟨_,[],rfl,rfl,rfl⟩,by simpa[Lit.wf,IntKind.min,IntKind.max,IntKind.signed,IntKind.bits]using b⟩
def p8{St}:∀{cs ds:List V}{us vs:List Value},Su w St cs us->Su w St ds vs->Su w St (cs++ds) (us++vs)
 |[],_,_,_,h,a=>by rw[show _=[]from h];exact a
 |c::cs,_,_,_,⟨u,b,e,d,f⟩,a=>by rw[e];exact⟨u,b++_,rfl,d,p8 f a⟩
def mi{St}{α:Type}{c n}:∀(l:List α) (xs:List Value),xs.length=l.length * n->(∀i (hi:i < l.length),Su w St (c l[i])<|(xs.drop<|i * n).take n)->Su w St (l.flatMap c) xs
 |[],xs,b,_=>by have:xs=[]:=Bf (by simpa using b);rw[this];rfl
 |a::l,xs,b,h=>by
  rw[AI,<-Db n xs];have e:=h 0 (by simp);rw[Nat.zero_mul,Cj,Lc]at e;have d:(xs.drop n).length=l.length * n:=by rw[Be,b,Ar,GO];omega
  refine p8 e<|mi l (xs.drop n) d<|λi hi=>?_
  have:=h (i+1) (by simpa using hi);rw[Hx]at this;rw[Ja,show n+i * n=(i+1) * n by rw[CN];omega];exact this
def vn{b off cs us}(d:Su w (StA w) cs us)(e:∀(j:Nat) (u:Value),us[j]? =some u->w.cell? ⟨b,off+j,none⟩=some u)(a:b < w.heap.size):DO w (StA w) b off cs:=by
 refine DO.mk<|λj c f=>?_
 have⟨u,g,h⟩:=d.get j c f;exact⟨a,u,e j u g,h⟩
def cell_lt{b o u}(h:w.cell? ⟨b,o,none⟩=some u):b < w.heap.size:=by
 rcases Bi b w.heap.size with a|a
 ·exact a
 ·simp[World.cell?,FSQ a]at h
def u4{t e}{α:Type}[Inhabited α]{c:α->List V}{ok:α->Prop}{n:Nat}(ht:P.underlying t=some (.slice e))(hC:P.cellsOf e=n)(hn:0 < n)(hsz:∀a,(c a).length=n)(he:Opens enc P w base spare held e c ok):
  Opens enc P w base spare held t (λl:List α=>[.dat l.length (l.flatMap c)]) (λl=>l.length<=maxLen∧∀a∈l,ok a):=by
 intro fuel cs x h
 have hcs:∃v,cs=[v]∧∃A k cp,v=.slice A k cp∧k<=cp∧cp<=maxLen:=by
  rcases open_slice ht h with⟨h0,_⟩|⟨a,len,cap,m,fl,D,Pl,hv,hb,hl,hm,_⟩
  ·exact⟨_,h0,none,0,0,rfl,Bb _,Dc _⟩
  ·exact⟨_,hv,some a,len,cap,rfl,hl,hm⟩
 obtain⟨v,rfl,A,k,cp,hv,hkc,hcm⟩:=hcs;have⟨k',xs,hr,hi⟩:=open_row ht hC hn h;have⟨A',cp',hv',hk,hlx,hrow⟩:=hr;rw[hv]at hv';injection hv' with e1 e2 e3
 subst e1 e2 e3;have⟨l,hl,hp⟩:=nC (α:=α) (n:=k) (p:=λi a=>Su w (StA w) (c a) ((xs.drop (i * n)).take n)∧ok a) (λi hlt=>by have⟨y,m,hy⟩:=hi i hlt;exact he _ _ _ hy);have hrd:=mi l xs (by rw[hlx,hl])<|λi hi=>(hp i hi).1
 refine⟨l,⟨v,[],rfl,?_,rfl⟩,by rw[hl];omega,λa ha=>?_⟩
 ·rw[hv];refine⟨by rw[hl];omega,A,cp,by rw[hl],by rw[hl];exact hkc,λhpos=>?_,λh0=>?_⟩
  ·obtain⟨b,off,rfl,hcell⟩:=hrow (by omega);refine⟨b,off,rfl,vn hrd hcell ?_⟩;have:0 < xs.length:=by rw[hlx];exact Nat.mul_pos (by omega) hn
   exact cell_lt<|hcell 0 _<|Ah this
  ·rw[Bf h0];rfl
 ·obtain⟨i,hi',rfl⟩:=Br.1 ha;exact(hp i hi').2
def wJ{t:TypeId}{α:Type}{c:α->List V}{g:α->V}{f:α->Prop}{v:Value}{d:DataW H}{p:List MemPlace}(l:Opens enc P w base spare held t c f)(m:∀a,c a=[g a])(n:∀a,(g a).DF=true)(o:v.cells= #[v])(h:DataW.Trod enc P w base spare held t v d p):∃a,iw w (StA w) (g a) v∧f a:=by
 obtain⟨fuel,i⟩:=h;rw[o]at i;obtain⟨a,j,q⟩:=l _ _ _ i;rw[m]at j;obtain⟨u,r,e,k,s⟩:=j;injection e with e1 e2
 subst e1;refine⟨a,?_,q⟩;have:=n a;cases b:g a<;>rw[b]at k this<;>first|exact k|cases this
def rr{f args vs}(a:Mp P f args (.bool true))(b:Glb w (StA w))(h:Rr w (StA w) args vs):Calls P f vs.toArray w (λe w'=>e=.returned (.bool true)∧Below w.heap.size w w'):=by refine(a.2 w (StA w) vs (λb o h=>h) b h).mono ?_;rintro e w' ⟨v,bs,St',rfl,c,_,_,d,_⟩;have g:v=.bool true:=d.2;rw[g];exact⟨rfl,c⟩
end
end
end Go.Proofs.YtpnoalhfjnjeaaaGreatDoor
