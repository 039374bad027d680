/-
 A machine on data, part 3: how a law's arguments read as data. Over any program; no conditions.
-/
import Derived.Test.YtckmdkajoiegmaaGreatDoorKa
import Derived.Deep.Slices
import Derived.OpenShut
import Derived.Lib.SmallJoins
import Derived.Carry
import Derived.ProofKit
import Derived.Test.YtckmdkajoiegmaaGreatDoorKq
open Go.RowKit
set_option linter.unusedVariables false
set_option linter.unusedSimpArgs false
namespace Go.Proofs.YtckmdkajoiegmaaGreatDoor
open Go.RowKit Go.ChangeShapes Go.WideShapes Go.Deep
theorem dy{α:Type}[Inhabited α]{n:Nat}{p:Nat->α->Prop}(h:∀i,i < n->∃x,p i x):∃l:List α,l.length=n∧∀i (hi:i < l.length),p i l[i]:=by
 obtain⟨f,hf⟩:=choose_lt h
 refine⟨(List.range n).map f,by simp,λi hi=>?_⟩
 simp only[Ar,BS]at hi
 simpa using hf i hi
theorem flat_get{size:Nat}{f:Nat->List Value}:∀(n:Nat),(∀i,i < n->(f i).length=size)->((List.range n).flatMap f).length=n * size∧
  ∀i j,i < n->j < size->((List.range n).flatMap f)[i * size+j]? =(f i)[j]?:=by
 intro n
 induction n with
 |zero=>intro _;exact⟨by simp,λi j hi=>absurd hi (by omega)⟩
 |succ n ih=>
  intro h
  obtain⟨h1,h2⟩:=ih (λi hi=>h i (by omega))
  rw[CK,DJ,List.flatMap_singleton]
  refine⟨by rw[AR,h1,h n (by omega),E3],λi j hi hj=>?_⟩
  by_cases e:i=n
  ·subst e
   rw[Bn (by omega),h1,CC]
  ·have hlt:i * size+j < n * size:=by
    have:(i+1) * size<=n * size:=Co _ (by omega)
    rw[E3]at this
    omega
   rw[BA (by omega),h2 i j (by omega) hj]
section
variable {H:Type}{enc:TypeId×Value->H}{P:Program}{w:World}{base:Nat}{spare:Nat->Bool}{held:Bool}
theorem cT{a:Addr}{j:Nat}{u:Value}(h0:∃v,w.cell? (a.add 0)=some v)(h:w.cell? (a.add j)=some u):∃b off,a=⟨b,off,none⟩∧w.cell? ⟨b,off+j,none⟩=some u:=by
 obtain⟨v,h0⟩:=h0
 obtain⟨b,off,spot⟩:=a
 have hspot:spot=none:=by simpa[Addr.add]using World.cell?_spot h0
 subst hspot
 exact⟨b,off,rfl,by rw[<-Go.WideShapes.add_plain];exact h⟩
theorem open_row{t e:TypeId}{size fuel:Nat}{v:Value}{x:DataW H×List MemPlace}(ht:P.underlying t=some (.slice e))(hC:P.cellsOf e=size)(hs:0 < size)
  (h:DataW.trod enc P w base spare held fuel t [v]=some x):
  ∃(n:Nat) (xs:List Value),Mm w size v n xs∧∀i,i < n->∃y m,DataW.trod enc P w base spare held m e ((xs.drop (i * size)).take size)=some y:=by
 rcases open_slice ht h with⟨hv,_⟩|⟨a,len,cap,m,fl,D,Pl,hv,hb,hl,hm,hmm,hx,hi⟩
 ·obtain rfl:v=.slice none 0 0:=by simpa using hv
  exact⟨0,[],⟨none,0,rfl,by omega,by simp,λh0=>absurd h0 (by omega)⟩,λi hi=>absurd hi (by omega)⟩
 ·obtain rfl:v=.slice (some a) len cap:=by simpa using hv
  subst hC
  have hlm:len<=m:=by rw[hmm];split<;>omega
  obtain⟨f,hf⟩:=choose_lt (α:=List Value) (λi hlt=>hi i (A6 hlt hlm))
  have hfl:∀i,i < len->(f i).length=P.cellsOf e:=λi hlt=>(World.cells?_some (hf i hlt).1).2.1
  obtain⟨g1,g2⟩:=flat_get (size:=P.cellsOf e) (f:=f) len hfl
  have hcell:∀j u,((List.range len).flatMap f)[j]? =some u->w.cell? (a.add j)=some u:=by
   intro j u hu
   have hj:j < len * P.cellsOf e:=by
    rcases BZ j (len * P.cellsOf e)with h1|h1
    ·exact h1
    ·rw[AU (by omega)]at hu;cases hu
   have hd:j / P.cellsOf e < len:=by
    rw[Nat.div_lt_iff_lt_mul hs];exact hj
   have hr:j % P.cellsOf e < P.cellsOf e:=MK _ hs
   have he:j / P.cellsOf e * P.cellsOf e+j % P.cellsOf e=j:=by rw[Nat.mul_comm];exact Nat.div_add_mod _ _
   have:=g2 _ _ hd hr
   rw[he,hu]at this
   have h3:=(World.cells?_some (hf _ hd).1).2.2 _ hr
   rw[Go.Deep.add_add,he]at h3
   rw[h3];exact this.symm
  refine⟨len,(List.range len).flatMap f,⟨some a,cap,rfl,by unfold maxLen at hm;omega,g1,λhn=>?_⟩,λi hlt=>?_⟩
  ·have h00:∃v,w.cell? (a.add 0)=some v:=by
    have hp:0 < ((List.range len).flatMap f).length:=by rw[g1];exact Nat.mul_pos hn hs
    exact⟨_,hcell 0 _ (Ae hp)⟩
   obtain⟨v0,h0⟩:=h00
   obtain⟨b,off,rfl,_⟩:=cT ⟨v0,h0⟩ h0
   refine⟨b,off,rfl,λj u hu=>?_⟩
   rw[<-Go.WideShapes.add_plain]
   exact hcell j u hu
  ·refine⟨(D i,Pl i),fl,?_⟩
   rw[<-(hf i hlt).2]
   congr 1
   apply GF
   intro j
   rw[D2,Dm]
   by_cases hj:j < P.cellsOf e
   ·rw[AJ hj,g2 i j hlt hj]
   ·rw[AN hj,AU (by rw[hfl i hlt];omega)]
theorem uX{n:Int}(h:(Lit.int .i64 n).wf=true): -9223372036854775808<=n∧n<=9223372036854775807:=by
 simpa[Lit.wf,IntKind.min,IntKind.max,IntKind.signed,IntKind.bits]using h
end
end Go.Proofs.YtckmdkajoiegmaaGreatDoor
namespace Go.Proofs.YtckmdkajoiegmaaGreatDoor
open Go.RowKit Go.ChangeShapes Go.WideShapes
section
variable {H:Type}{enc:TypeId×Value->H}{P:Program}
theorem YB{W W':World}(hl:laidOutB P=true)(hb:Below W.heap.size W W'):∀(ts:List TypeId) {vs:List Value}{ds:List (DataW H)}{p:List MemPlace},
  ts.all (λt=>P.readableRec t&&decide (t < P.types.size))=true->DataW.TrodAll enc P W 0 (λ_=>true) true ts vs ds p->(∀x∈p,x.block < W.heap.size)->
  DataW.TrodAll enc P W' 0 (λb=>decide (b < W.heap.size)) true ts vs ds p:=by
 intro ts
 induction ts with
 |nil=>
  intro vs ds p _ h _
  obtain⟨rfl,rfl,rfl⟩:=trodAll_nil h
  exact trodAll_mk0
 |cons t ts ih=>
  intro vs ds p hall h hlt
  obtain⟨v,vs',d,ds',p1,q,rfl,rfl,rfl,h0,hr⟩:=trodAll_cons h
  simp only[A7,Ab,AB]at hall
  exact trodAll_cons_mk (Below.trod hl hall.1.1 hall.1.2 h0 hb (λx hx=>hlt x (AA _ hx))) (ih hall.2 hr (λx hx=>hlt x (Aw _ hx)))
end
end Go.Proofs.YtckmdkajoiegmaaGreatDoor
namespace Go.Proofs.YtckmdkajoiegmaaGreatDoor
open Go.RowKit Go.ChangeShapes Go.WideShapes Go.Deep
def YC(w:World):Nat->Nat->Prop:=λb _=>b < w.heap.size
section
variable {H:Type}(enc:TypeId×Value->H)(P:Program)(w:World)(base:Nat)(spare:Nat->Bool)(held:Bool)
def Opens(t:TypeId){α:Type}(c:α->List V)(ok:α->Prop):Prop:=∀(fuel:Nat) (cs:List Value) (x:DataW H×List MemPlace),DataW.trod enc P w base spare held fuel t cs=some x->∃a,Ml w (YC w) (c a) cs∧ok a
end
def InI(n:Int):Prop:= -9223372036854775808<=n∧n<=9223372036854775807
section
variable {H:Type}{enc:TypeId×Value->H}{P:Program}{w:World}{base:Nat}{spare:Nat->Bool}{held:Bool}
theorem Y7{t:TypeId}(ht:P.underlying t=some (.int .i64)):Opens enc P w base spare held t Am InI:=by
 intro fuel cs x h
 obtain⟨n,rfl,_,hw⟩:=DataW.trod_int ht h
 exact⟨n,⟨_,[],rfl,rfl,rfl⟩,uX hw⟩
theorem ii{t:TypeId}(ht:P.underlying t=some .string):Opens enc P w base spare held t cst (λu=>u.length<=maxLen):=by
 intro fuel cs x h
 obtain⟨s,rfl,_,hs⟩:=DataW.trod_string ht h
 have hl:s.data.toList.length<=maxLen:=by rw[BD];exact hs
 exact⟨s.data.toList,⟨_,[],rfl,⟨by cases s;simp,hl⟩,rfl⟩,hl⟩
theorem aD{St:Nat->Nat->Prop}:∀{cs ds:List V}{us vs:List Value},Ml w St cs us->Ml w St ds vs->Ml w St (cs++ds) (us++vs)
 |[],_,_,_,h,h2=>by rw[show _=[]from h];exact h2
 |c::cs,_,_,_,⟨u,us',e,h1,h3⟩,h2=>by rw[e];exact⟨u,us'++_,rfl,h1,aD h3 h2⟩
theorem cB{St:Nat->Nat->Prop}{α:Type}{c:α->List V}{n:Nat}:∀(l:List α) (xs:List Value),xs.length=l.length * n->(∀i (hi:i < l.length),Ml w St (c l[i]) ((xs.drop (i * n)).take n))->Ml w St (l.flatMap c) xs
 |[],xs,hl,_=>by
  have:xs=[]:=Bt (by simpa using hl)
  rw[this];rfl
 |a::l,xs,hl,h=>by
  rw[Ay,<-Cc n xs]
  have h0:=h 0 (by simp)
  rw[Nat.zero_mul,IL,List.getElem_cons_zero]at h0
  have hl2:(xs.drop n).length=l.length * n:=by rw[BO,hl,AL,E3];omega
  refine aD h0 (cB l (xs.drop n) hl2 (λi hi=>?_))
  have:=h (i+1) (by simpa using hi)
  rw[List.getElem_cons_succ]at this
  rw[Fi,show n+i * n=(i+1) * n by rw[DX];omega]
  exact this
theorem lw{b off:Nat}{cs:List V}{us:List Value}(hr:Ml w (YC w) cs us)(hb:∀(j:Nat) (u:Value),us[j]? =some u->w.cell? ⟨b,off+j,none⟩=some u)(hlt:b < w.heap.size):Da w (YC w) b off cs:=by
 refine Da.mk (λj c hc=>?_)
 obtain⟨u,h1,h2⟩:=hr.get j c hc
 exact⟨hlt,u,hb j u h1,h2⟩
theorem cell_lt{b o:Nat}{u:Value}(h:w.cell? ⟨b,o,none⟩=some u):b < w.heap.size:=by
 rcases BZ b w.heap.size with h1|h1
 ·exact h1
 ·simp[World.cell?,F2 h1]at h
theorem cm{t e:TypeId}{α:Type}[Inhabited α]{c:α->List V}{ok:α->Prop}{n:Nat}(ht:P.underlying t=some (.slice e))(hC:P.cellsOf e=n)(hn:0 < n)(hsz:∀a,(c a).length=n)(he:Opens enc P w base spare held e c ok):
  Opens enc P w base spare held t (λl:List α=>[.dat l.length (l.flatMap c)]) (λl=>l.length<=maxLen∧∀a∈l,ok a):=by
 intro fuel cs x h
 have hcs:∃v,cs=[v]∧∃A k cp,v=.slice A k cp∧k<=cp∧cp<=maxLen:=by
  rcases open_slice ht h with⟨h0,_⟩|⟨a,len,cap,m,fl,D,Pl,hv,hb,hl,hm,_⟩
  ·exact⟨_,h0,none,0,0,rfl,A9 _,DY _⟩
  ·exact⟨_,hv,some a,len,cap,rfl,hl,hm⟩
 obtain⟨v,rfl,A,k,cp,hv,hkc,hcm⟩:=hcs
 obtain⟨k',xs,hr,hi⟩:=open_row ht hC hn h
 obtain⟨A',cp',hv',hk,hlx,hrow⟩:=hr
 rw[hv]at hv'
 injection hv' with e1 e2 e3
 subst e1 e2 e3
 obtain⟨l,hl,hp⟩:=dy (α:=α) (n:=k) (p:=λi a=>Ml w (YC w) (c a) ((xs.drop (i * n)).take n)∧ok a) (λi hlt=>by
  obtain⟨y,m,hy⟩:=hi i hlt
  exact he _ _ _ hy)
 have hrd:=cB l xs (by rw[hlx,hl]) (λi hi=>(hp i hi).1)
 refine⟨l,⟨v,[],rfl,?_,rfl⟩,by rw[hl];omega,λa ha=>?_⟩
 ·rw[hv]
  refine⟨by rw[hl];omega,A,cp,by rw[hl],by rw[hl];exact hkc,λhpos=>?_,λh0=>?_⟩
  ·obtain⟨b,off,rfl,hcell⟩:=hrow (by omega)
   refine⟨b,off,rfl,lw hrd hcell ?_⟩
   have:0 < xs.length:=by rw[hlx];exact Nat.mul_pos (by omega) hn
   exact cell_lt (hcell 0 _ (Ae this))
  ·rw[Bt h0];rfl
 ·obtain⟨i,hi',rfl⟩:=CJ.1 ha
  exact(hp i hi').2
theorem Qs{St:Nat->Nat->Prop}{cs ds:List V}{us:List Value}{off n:Nat}(h1:Ml w St cs ((us.drop off).take n))(h2:Ml w St ds (us.drop (off+n))):Ml w St (cs++ds) (us.drop off):=by
 rw[<-Cc n (us.drop off),Fi]
 exact aD h1 h2
theorem fI{St:Nat->Nat->Prop}{us:List Value}{n:Nat}(h:us.length=n):Ml w St [] (us.drop n):=by
 rw[Dk (by omega)];rfl
theorem R4{t:TypeId}{fs:Array Field}{cs:List Value}{fuel:Nat}{x:DataW H×List MemPlace}(hs:P.underlying t=some (.struct fs))(h:DataW.trod enc P w base spare held fuel t cs=some x){j:Nat}{f:Field}(hj:fs[j]? =some f):∃y n,DataW.trod enc P w base spare held n f.type ((cs.drop f.offset).take (P.cellsOf f.type))=some y:=by
 obtain⟨ys,n,_,_,_,hlen,hf⟩:=DataW.trod_struct hs h
 have hjl:j < fs.size:=(E7.1 hj).1
 exact⟨_,n,(hf j f hj).trans (Ae (by omega))⟩
theorem st_len{t:TypeId}{fs:Array Field}{cs:List Value}{fuel:Nat}{x:DataW H×List MemPlace}(hs:P.underlying t=some (.struct fs))(h:DataW.trod enc P w base spare held fuel t cs=some x):cs.length=P.cellsOf t:=by
 obtain⟨ys,n,_,_,hl,_,_⟩:=DataW.trod_struct hs h
 exact hl
theorem mE{t:TypeId}{α:Type}{c:α->List V}{g:α->V}{ok:α->Prop}{v:Value}{d:DataW H}{p:List MemPlace}(ho:Opens enc P w base spare held t c ok)(hc:∀a,c a=[g a])(hg:∀a,(g a).C5=true)(hv:v.cells= #[v])(h:DataW.Trod enc P w base spare held t v d p):∃a,Wi w (YC w) (g a) v∧ok a:=by
 obtain⟨fuel,hf⟩:=h
 rw[hv]at hf
 obtain⟨a,h1,h2⟩:=ho _ _ _ hf
 rw[hc]at h1
 obtain⟨u,us',e,h3,h4⟩:=h1
 injection e with e1 e2
 subst e1
 refine⟨a,?_,h2⟩
 have:=hg a
 cases hga:g a<;>rw[hga]at h3 this<;>first|exact h3|cases this
theorem qL{t:TypeId}{α:Type}{c:α->List V}{ok:α->Prop}{cs:Array Value}{d:DataW H}{p:List MemPlace}(ho:Opens enc P w base spare held t c ok)(h:DataW.Trod enc P w base spare held t (.agg cs) d p):∃a,Wi w (YC w) (.agg (c a)) (.agg cs)∧ok a:=by
 obtain⟨fuel,hf⟩:=h
 obtain⟨a,h1,h2⟩:=ho _ _ _ hf
 exact⟨a,⟨cs.toList,by simp,h1⟩,h2⟩
theorem gJ{f:FuncId}{args:List V}{vs:List Value}(hs:AI P f args (.bool true))(hg:Glb w (YC w))(h:Mk w (YC w) args vs):Calls P f vs.toArray w (λe w'=>e=.returned (.bool true)∧Below w.heap.size w w'):=by
 refine(hs.2 w (YC w) vs (λb o h=>h) hg h).mono ?_
 rintro e w' ⟨v,bs,St',rfl,hb,_,_,ho,_⟩
 have hv:v=.bool true:=ho.2
 rw[hv]
 exact⟨rfl,hb⟩
end
end Go.Proofs.YtckmdkajoiegmaaGreatDoor
