/-
 A machine on data, part 3: how a law's arguments read as data. Over any program; no conditions.
-/
import Derived.Test.YthghcmmlmfgkbaaGreatDoorKa
import Derived.Deep.Slices
import Derived.OpenShut
import Derived.Lib.SmallJoins
import Derived.Carry
import Derived.ProofKit
import Derived.Test.YthghcmmlmfgkbaaGreatDoorKq
open Go.RowKit
set_option linter.unusedVariables false
set_option linter.unusedSimpArgs false
namespace Go.Proofs.YthghcmmlmfgkbaaGreatDoor
section
open Go.RowKit Go.ChangeShapes Go.WideShapes Go.Deep
theorem dY{α:Type}[Inhabited α]{n:Nat}{p:Nat->α->Prop}(h:∀i,i < n->∃x,p i x):∃l:List α,l.length=n∧∀i (hi:i < l.length),p i l[i]:=by
 obtain⟨f,hf⟩:=choose_lt h
 refine⟨(List.range n).map f,by simp,λi hi=>?_⟩
 simp only[Ak,BV]at hi
 simpa using hf i hi
theorem flat_get{size:Nat}{f:Nat->List Value}:∀(n:Nat),(∀i,i < n->(f i).length=size)->((List.range n).flatMap f).length=n * size∧
  ∀i j,i < n->j < size->((List.range n).flatMap f)[i * size+j]? =(f i)[j]?:=by
 intro n
 induction n with
 |zero=>intro _;exact⟨by simp,λi j hi=>absurd hi (by omega)⟩
 |succ n ih=>
  intro h
  obtain⟨h1,h2⟩:=ih (λi hi=>h i (by omega))
  rw[EP,DQ,List.flatMap_singleton]
  refine⟨by rw[Aw,h1,h n (by omega),FC],λi j hi hj=>?_⟩
  by_cases e:i=n
  ·subst e
   rw[CF (by omega),h1,De]
  ·have hlt:i * size+j < n * size:=by
    have:(i+1) * size<=n * size:=CA _ (by omega)
    rw[FC]at this
    omega
   rw[B4 (by omega),h2 i j (by omega) hj]
section
variable {H:Type}{enc:TypeId×Value->H}{P:Program}{w:World}{base:Nat}{spare:Nat->Bool}{held:Bool}
theorem da{a:Addr}{j:Nat}{u:Value}(h0:∃v,w.cell? (a.add 0)=some v)(h:w.cell? (a.add j)=some u):∃b off,a=⟨b,off,none⟩∧w.cell? ⟨b,off+j,none⟩=some u:=by
 obtain⟨v,h0⟩:=h0
 obtain⟨b,off,spot⟩:=a
 have hspot:spot=none:=by simpa[Addr.add]using World.cell?_spot h0
 subst hspot
 exact⟨b,off,rfl,by rw[<-Go.WideShapes.add_plain];exact h⟩
theorem open_row{t e:TypeId}{size fuel:Nat}{v:Value}{x:DataW H×List MemPlace}(ht:P.underlying t=some (.slice e))(hC:P.cellsOf e=size)(hs:0 < size)
  (h:DataW.trod enc P w base spare held fuel t [v]=some x):
  ∃(n:Nat) (xs:List Value),M2 w size v n xs∧∀i,i < n->∃y m,DataW.trod enc P w base spare held m e ((xs.drop (i * size)).take size)=some y:=by
 rcases open_slice ht h with⟨hv,_⟩|⟨a,len,cap,m,fl,D,Pl,hv,hb,hl,hm,hmm,hx,hi⟩
 ·obtain rfl:v=.slice none 0 0:=by simpa using hv
  exact⟨0,[],⟨none,0,rfl,by omega,by simp,λh0=>absurd h0 (by omega)⟩,λi hi=>absurd hi (by omega)⟩
 ·obtain rfl:v=.slice (some a) len cap:=by simpa using hv
  subst hC
  have hlm:len<=m:=by rw[hmm];split<;>omega
  obtain⟨f,hf⟩:=choose_lt (α:=List Value) (λi hlt=>hi i (Bo hlt hlm))
  have hfl:∀i,i < len->(f i).length=P.cellsOf e:=λi hlt=>(World.cells?_some (hf i hlt).1).2.1
  obtain⟨g1,g2⟩:=flat_get (size:=P.cellsOf e) (f:=f) len hfl
  have hcell:∀j u,((List.range len).flatMap f)[j]? =some u->w.cell? (a.add j)=some u:=by
   intro j u hu
   have hj:j < len * P.cellsOf e:=by
    rcases A9 j (len * P.cellsOf e)with h1|h1
    ·exact h1
    ·rw[A2 (by omega)]at hu;cases hu
   have hd:j / P.cellsOf e < len:=by
    rw[Nat.div_lt_iff_lt_mul hs];exact hj
   have hr:j % P.cellsOf e < P.cellsOf e:=Nat.mod_lt _ hs
   have he:j / P.cellsOf e * P.cellsOf e+j % P.cellsOf e=j:=by rw[C6];exact Nat.div_add_mod _ _
   have:=g2 _ _ hd hr
   rw[he,hu]at this
   have h3:=(World.cells?_some (hf _ hd).1).2.2 _ hr
   rw[Go.Deep.add_add,he]at h3
   rw[h3];exact this.symm
  refine⟨len,(List.range len).flatMap f,⟨some a,cap,rfl,by unfold maxLen at hm;omega,g1,λhn=>?_⟩,λi hlt=>?_⟩
  ·have h00:∃v,w.cell? (a.add 0)=some v:=by
    have hp:0 < ((List.range len).flatMap f).length:=by rw[g1];exact Nat.mul_pos hn hs
    exact⟨_,hcell 0 _ (Ac hp)⟩
   obtain⟨v0,h0⟩:=h00
   obtain⟨b,off,rfl,_⟩:=da ⟨v0,h0⟩ h0
   refine⟨b,off,rfl,λj u hu=>?_⟩
   rw[<-Go.WideShapes.add_plain]
   exact hcell j u hu
  ·refine⟨(D i,Pl i),fl,?_⟩
   rw[<-(hf i hlt).2]
   congr 1
   apply List.ext_getElem?
   intro j
   rw[EA,DF]
   by_cases hj:j < P.cellsOf e
   ·rw[Av hj,g2 i j hlt hj]
   ·rw[At hj,A2 (by rw[hfl i hlt];omega)]
end
end
section
open Go.RowKit Go.ChangeShapes Go.WideShapes
section
variable {H:Type}{enc:TypeId×Value->H}{P:Program}
theorem Yb{W W':World}(hl:laidOutB P=true)(hb:Below W.heap.size W W'):∀(ts:List TypeId) {vs:List Value}{ds:List (DataW H)}{p:List MemPlace},
  ts.all (λt=>P.readableRec t&&decide (t < P.types.size))=true->DataW.TrodAll enc P W 0 (λ_=>true) true ts vs ds p->(∀x∈p,x.block < W.heap.size)->
  DataW.TrodAll enc P W' 0 (λb=>decide (b < W.heap.size)) true ts vs ds p:=by
 intro ts
 induction ts with
 |nil=>
  intro vs ds p _ h _
  obtain⟨rfl,rfl,rfl⟩:=trodAll_nil h
  exact trodAll_mk0
 |cons t ts ih=>
  intro vs ds p hall h hlt
  obtain⟨v,vs',d,ds',p1,q,rfl,rfl,rfl,h0,hr⟩:=trodAll_cons h
  simp only[Bz,Aa,AN]at hall
  exact trodAll_cons_mk (Below.trod hl hall.1.1 hall.1.2 h0 hb (λx hx=>hlt x (Az _ hx))) (ih hall.2 hr (λx hx=>hlt x (Ar _ hx)))
end
end
section
open Go.RowKit Go.ChangeShapes Go.WideShapes Go.Deep
def StA(w:World):Nat->Nat->Prop:=λb _=>b < w.heap.size
section
variable {H:Type}(enc:TypeId×Value->H)(P:Program)(w:World)(base:Nat)(spare:Nat->Bool)(held:Bool)
def Opens(t:TypeId){α:Type}(c:α->List V)(ok:α->Prop):Prop:=∀(fuel:Nat) (cs:List Value) (x:DataW H×List MemPlace),DataW.trod enc P w base spare held fuel t cs=some x->∃a,Oo w (StA w) (c a) cs∧ok a
end
section
variable {H:Type}{enc:TypeId×Value->H}{P:Program}{w:World}{base:Nat}{spare:Nat->Bool}{held:Bool}
theorem mr{t:TypeId}(ht:P.underlying t=some (.int .u8)):Opens enc P w base spare held t Qm (λn=>0<=n∧n<=255):=by
 intro fuel cs x h
 obtain⟨n,rfl,_,hw⟩:=DataW.trod_int ht h
 exact⟨n,⟨_,[],rfl,rfl,rfl⟩,by simpa[Lit.wf,IntKind.min,IntKind.max,IntKind.signed,IntKind.bits]using hw⟩
theorem g6{St:Nat->Nat->Prop}:∀{cs ds:List V}{us vs:List Value},Oo w St cs us->Oo w St ds vs->Oo w St (cs++ds) (us++vs)
 |[],_,_,_,h,h2=>by rw[show _=[]from h];exact h2
 |c::cs,_,_,_,⟨u,us',e,h1,h3⟩,h2=>by rw[e];exact⟨u,us'++_,rfl,h1,g6 h3 h2⟩
theorem cB{St:Nat->Nat->Prop}{α:Type}{c:α->List V}{n:Nat}:∀(l:List α) (xs:List Value),xs.length=l.length * n->(∀i (hi:i < l.length),Oo w St (c l[i]) ((xs.drop (i * n)).take n))->Oo w St (l.flatMap c) xs
 |[],xs,hl,_=>by
  have:xs=[]:=A1 (by simpa using hl)
  rw[this];rfl
 |a::l,xs,hl,h=>by
  rw[AH,<-C8 n xs]
  have h0:=h 0 (by simp)
  rw[Nat.zero_mul,Fi,Iv]at h0
  have hl2:(xs.drop n).length=l.length * n:=by rw[Bt,hl,AQ,FC];omega
  refine g6 h0 (cB l (xs.drop n) hl2 (λi hi=>?_))
  have:=h (i+1) (by simpa using hi)
  rw[F3]at this
  rw[Hi,show n+i * n=(i+1) * n by rw[C4];omega]
  exact this
theorem mO{b off:Nat}{cs:List V}{us:List Value}(hr:Oo w (StA w) cs us)(hb:∀(j:Nat) (u:Value),us[j]? =some u->w.cell? ⟨b,off+j,none⟩=some u)(hlt:b < w.heap.size):Dp w (StA w) b off cs:=by
 refine Dp.mk (λj c hc=>?_)
 obtain⟨u,h1,h2⟩:=hr.get j c hc
 exact⟨hlt,u,hb j u h1,h2⟩
theorem cell_lt{b o:Nat}{u:Value}(h:w.cell? ⟨b,o,none⟩=some u):b < w.heap.size:=by
 rcases A9 b w.heap.size with h1|h1
 ·exact h1
 ·simp[World.cell?,EU h1]at h
theorem mq{t e:TypeId}{α:Type}[Inhabited α]{c:α->List V}{ok:α->Prop}{n:Nat}(ht:P.underlying t=some (.slice e))(hC:P.cellsOf e=n)(hn:0 < n)(hsz:∀a,(c a).length=n)(he:Opens enc P w base spare held e c ok):
  Opens enc P w base spare held t (λl:List α=>[.dat l.length (l.flatMap c)]) (λl=>l.length<=maxLen∧∀a∈l,ok a):=by
 intro fuel cs x h
 have hcs:∃v,cs=[v]∧∃A k cp,v=.slice A k cp∧k<=cp∧cp<=maxLen:=by
  rcases open_slice ht h with⟨h0,_⟩|⟨a,len,cap,m,fl,D,Pl,hv,hb,hl,hm,_⟩
  ·exact⟨_,h0,none,0,0,rfl,AT _,CB _⟩
  ·exact⟨_,hv,some a,len,cap,rfl,hl,hm⟩
 obtain⟨v,rfl,A,k,cp,hv,hkc,hcm⟩:=hcs
 obtain⟨k',xs,hr,hi⟩:=open_row ht hC hn h
 obtain⟨A',cp',hv',hk,hlx,hrow⟩:=hr
 rw[hv]at hv'
 injection hv' with e1 e2 e3
 subst e1 e2 e3
 obtain⟨l,hl,hp⟩:=dY (α:=α) (n:=k) (p:=λi a=>Oo w (StA w) (c a) ((xs.drop (i * n)).take n)∧ok a) (λi hlt=>by
  obtain⟨y,m,hy⟩:=hi i hlt
  exact he _ _ _ hy)
 have hrd:=cB l xs (by rw[hlx,hl]) (λi hi=>(hp i hi).1)
 refine⟨l,⟨v,[],rfl,?_,rfl⟩,by rw[hl];omega,λa ha=>?_⟩
 ·rw[hv]
  refine⟨by rw[hl];omega,A,cp,by rw[hl],by rw[hl];exact hkc,λhpos=>?_,λh0=>?_⟩
  ·obtain⟨b,off,rfl,hcell⟩:=hrow (by omega)
   refine⟨b,off,rfl,mO hrd hcell ?_⟩
   have:0 < xs.length:=by rw[hlx];exact Nat.mul_pos (by omega) hn
   exact cell_lt (hcell 0 _ (Ac this))
  ·rw[A1 h0];rfl
 ·obtain⟨i,hi',rfl⟩:=Bf.1 ha
  exact(hp i hi').2
theorem n9{t:TypeId}{α:Type}{c:α->List V}{g:α->V}{ok:α->Prop}{v:Value}{d:DataW H}{p:List MemPlace}(ho:Opens enc P w base spare held t c ok)(hc:∀a,c a=[g a])(hg:∀a,(g a).Ds=true)(hv:v.cells= #[v])(h:DataW.Trod enc P w base spare held t v d p):∃a,Y6 w (StA w) (g a) v∧ok a:=by
 obtain⟨fuel,hf⟩:=h
 rw[hv]at hf
 obtain⟨a,h1,h2⟩:=ho _ _ _ hf
 rw[hc]at h1
 obtain⟨u,us',e,h3,h4⟩:=h1
 injection e with e1 e2
 subst e1
 refine⟨a,?_,h2⟩
 have:=hg a
 cases hga:g a<;>rw[hga]at h3 this<;>first|exact h3|cases this
theorem jh{f:FuncId}{args:List V}{vs:List Value}(hs:Ks P f args (.bool true))(hg:Glb w (StA w))(h:NC w (StA w) args vs):Calls P f vs.toArray w (λe w'=>e=.returned (.bool true)∧Below w.heap.size w w'):=by
 refine(hs.2 w (StA w) vs (λb o h=>h) hg h).mono ?_
 rintro e w' ⟨v,bs,St',rfl,hb,_,_,ho,_⟩
 have hv:v=.bool true:=ho.2
 rw[hv]
 exact⟨rfl,hb⟩
end
end
end Go.Proofs.YthghcmmlmfgkbaaGreatDoor
