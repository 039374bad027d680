/- A machine on data, part 1: data, memory, operations. Over no program; no conditions. -/
import Derived.Test.YtdnlfoelbfcmnaaGreatDoorKz
open Go.RowKit
set_option linter.all false
namespace Go.Proofs.YtdnlfoelbfcmnaaGreatDoor
section
def dj(w:World)(o:Obj):Below w.heap.size w (w.alloc o):=(Below.refl _ _).alloc (AJ _) _
def PA(w:World)(size:Nat)(v:Value)(n:Nat)(xs:List Value):Prop:=
 ∃A c,v=.slice A n c∧n<=9223372036854775807∧xs.length=n * size∧(0 < n->∃b off,A=some ⟨b,off,none⟩∧∀j u,xs[j]? =some u->w.cell? ⟨b,off+j,none⟩=some u)
end
section
section
variable {w w':World}{base:Nat}{e:TypeId}{size:Nat}{v:Value}{n:Nat}{xs:List Value}
def PA.Up(h:w.ownsRow base e size v n xs):PA w size v n xs:=by
 rcases h.2 with⟨rfl,rfl⟩|⟨g,cap,cur,rfl,_,hh,hnc,hm,hsz,hx⟩
 ·exact⟨none,0,rfl,by omega,h.1,λh0=>absurd h0<|by omega⟩
 ·refine⟨some ⟨g,0,none⟩,cap,rfl,by unfold maxLen at hm;omega,h.1,λ_=>⟨g,0,rfl,λj u hu=>?_⟩⟩
  have hj:j < xs.length:=by
   rcases Bb j xs.length with h1|h1
   ·exact h1
   ·rw[Bu h1]at hu;cases hu
  simp only[World.cell?,hh,CH];rw[<-hx,DE]at hu;rw[h.1]at hj;rw[Aw hj]at hu;simpa using hu
end
section
variable {t tl:TypeId}{w w':World}{base:Nat}{vs:List Value}{ll:List zI}{v:Value}
end
structure Fr (lo hi:Nat) (w w':World):Prop where
 os:w'.os=w.os
 tape:w'.tape=w.tape
 output:w'.output=w.output
 size:w.heap.size<=w'.heap.size
 block:∀k,k < w.heap.size->(k < lo∨hi<=k)->w'.heap[k]? =w.heap[k]?
structure FrS (S:Nat->Prop) (w w':World):Prop where
 os:w'.os=w.os
 tape:w'.tape=w.tape
 output:w'.output=w.output
 size:w.heap.size<=w'.heap.size
 block:∀k,k < w.heap.size->¬S k->w'.heap[k]? =w.heap[k]?
section
variable {t tl:TypeId}{w w':World}{S S':Nat->Prop}{v:Value}{l:zI}{ll:List zI}
end
def PA.drop_at{w size A m c news}(h:PA w size (.slice A m c) m news):
  news.length=m * size∧(A=none->m=0)∧∀ad,A=some ad->∀j u,news[j]? =some u->w.cell? (ad.add j)=some u:=by
 have⟨A',c',he,_,hl,hi⟩:=h;injection he with h1 _ h2
 subst h1;refine⟨hl,λh0=>?_,λad had j u hu=>?_⟩
 ·rcases C1 m with hm|hm
  ·exact hm
  ·have⟨b,off,hb,_⟩:=hi hm;rw[h0]at hb;cases hb
 ·rcases C1 m with hm|hm
  ·subst hm;have:news=[]:=Bp (by simpa using hl);subst this;simp at hu
  ·have⟨b,off,hb,hc⟩:=hi hm;rw[had]at hb;injection hb with hb
   subst hb;have:=hc j u hu;unfold Addr.add;by_cases hj:j=0
   ·subst hj;simpa using this
   ·simpa[hj]using this
end
section
inductive V where
 |int (k:IntKind) (n:Int)
 |bool (b:Bool)
 |str (s:zU)
  |own (e:TypeId) (n:Nat) (cs:List V)
  |dat (n:Nat) (cs:List V)
  |arg (n:Nat) (cs:List V)
  |pin (u:Value) (n:Nat) (cs:List V)
 |agg (cs:List V)
 |tup (cs:List V)
  |box (cs:List V)
  |uni (e:TypeId) (n:Nat) (cs:List V)
  |same (s:Nat)
  |cref (s off:Nat)
  |adr (cs:List V) (off:Nat)
  |gh (us:List Value) (cs:List V)
  |fn (f:FuncId)
  |tok (u:Value)
  |val (s:Nat) (u:Value)
 |undef
def V.DB:V->Bool
 |.int .. |.bool .. |.str .. |.own .. |.dat .. |.arg .. |.pin .. |.fn .. |.tok .. =>true
 |_=>false
def Ub(P:Program)(e:TypeId):Nat:=((P.info? e).map (·.size)).getD 0
def lim:Nat:=1099511627776
def Ba{n}(h:n<=lim):n<=maxLen:=by unfold lim at h;unfold maxLen;omega
section
variable (w:World)(St:Nat->Nat->Prop)
mutual
def Rd:V->Value->Prop
 |.int k n,v=>v=.int k n
 |.bool b,v=>v=.bool b
 |.str s,v=>v=.string ⟨s.toArray⟩∧s.length<=maxLen
 |.own _ n cs,v=>n<=maxLen∧∃A c,v=.slice A n c∧n<=c∧(0 < n->∃b off,A=some ⟨b,off,none⟩∧Dp b off cs)∧(n=0->cs=[])
 |.dat n cs,v=>n<=maxLen∧∃A c,v=.slice A n c∧n<=c∧(0 < n->∃b off,A=some ⟨b,off,none⟩∧Dp b off cs)∧(n=0->cs=[])
 |.pin u n cs,v=>v=u∧n<=maxLen∧∃A c,v=.slice A n c∧n<=c∧(0 < n->∃b off,A=some ⟨b,off,none⟩∧Dp b off cs)∧(n=0->cs=[])
 |.arg n cs,v=>n<=maxLen∧∃A c,v=.slice A n c∧n<=c∧(0 < n->∃b off,A=some ⟨b,off,none⟩∧(cs≠[]->∀o,St b o)∧Dp b off cs)∧(n=0->cs=[])
 |.fn f,v=>v=.func (.func f) #[] #[]
 |.tok u,v=>v=u∧u.oneCell'=true
 |_,_=>False
def Dp(b:Nat):Nat->List V->Prop
 |_,[]=>True
 |off,c::cs=>(St b off∧∃u,w.cell? ⟨b,off,none⟩=some u∧Rd c u)∧Dp b (off+1) cs
end
def Pz:List V->List Value->Prop
 |[],us=>us=[]
 |c::cs,us=>∃u a,us=u::a∧Rd w St c u∧Pz cs a
def fZ:V->Value->Prop
 |.agg cs,v=>∃us:List Value,v=.agg us.toArray∧Pz w St cs us
 |c,v=>Rd w St c v
end
def Ext(a:Nat->Nat->Prop)(w w':World):Prop:=∀b o,a b o->w'.cell? ⟨b,o,none⟩=w.cell? ⟨b,o,none⟩
section
variable {w w':World}{St St':Nat->Nat->Prop}
mutual
def Rd.mono(hs:∀b o,St b o->St' b o)(he:Ext St w w'):∀(c:V) {v:Value},Rd w St c v->Rd w' St' c v
 |.int _ _,_,h=>h
 |.bool _,_,h=>h
 |.str _,_,h=>h
 |.own _ _ cs,_,⟨hn,A,c,e,hc,h,h0⟩=>⟨hn,A,c,e,hc,λhp=>let⟨b,off,ea,hr⟩:=h hp;⟨b,off,ea,Dp.mono hs he b off cs hr⟩,h0⟩
 |.dat _ cs,_,⟨hn,A,c,e,hc,h,h0⟩=>⟨hn,A,c,e,hc,λhp=>let⟨b,off,ea,hr⟩:=h hp;⟨b,off,ea,Dp.mono hs he b off cs hr⟩,h0⟩
 |.pin _ _ cs,_,⟨hu,hn,A,c,e,hc,h,h0⟩=>⟨hu,hn,A,c,e,hc,λhp=>let⟨b,off,ea,hr⟩:=h hp;⟨b,off,ea,Dp.mono hs he b off cs hr⟩,h0⟩
 |.arg _ cs,_,⟨hn,A,c,e,hc,h,h0⟩=>⟨hn,A,c,e,hc,λhp=>let⟨b,off,ea,hw,hr⟩:=h hp;⟨b,off,ea,λhc o=>hs b o<|hw hc o,Dp.mono hs he b off cs hr⟩,h0⟩
 |.agg _,_,h=>h.elim
 |.tup _,_,h=>h.elim
 |.box _,_,h=>h.elim
 |.uni _ _ _,_,h=>h.elim
 |.same _,_,h=>h.elim
 |.val _ _,_,h=>h.elim
 |.cref _ _,_,h=>h.elim
 |.adr _ _,_,h=>h.elim
 |.gh _ _,_,h=>h.elim
 |.fn _,_,h=>h
 |.tok _,_,h=>h
 |.undef,_,h=>h.elim
def Dp.mono(a:∀b o,St b o->St' b o)(d:Ext St w w')(b:Nat):∀(off:Nat) (cs:List V),Dp w St b off cs->Dp w' St' b off cs
 |_,[],_=>trivial
 |off,c::cs,⟨⟨e,u,f,g⟩,h⟩=>⟨⟨a b off e,u,(d b off e).trans f,Rd.mono a d c g⟩,Dp.mono a d b (off+1) cs h⟩
end
def Pz.mono(d:∀b o,St b o->St' b o)(f:Ext St w w'):∀(cs:List V) {us:List Value},Pz w St cs us->Pz w' St' cs us
 |[],_,h=>h
 |c::cs,_,⟨u,a,e,g,i⟩=>⟨u,a,e,Rd.mono d f c g,Pz.mono d f cs i⟩
def fZ.mono(a:∀b o,St b o->St' b o)(d:Ext St w w'):∀(c:V) {v:Value},fZ w St c v->fZ w' St' c v
 |.agg cs,_,⟨us,e,h⟩=>⟨us,e,h.mono a d⟩
 |.int _ _,_,h=>h
 |.bool _,_,h=>h
 |.str _,_,h=>h
 |.own _ _ _,_,h=>Rd.mono a d _ h
 |.dat _ _,_,h=>Rd.mono a d _ h
 |.pin _ _ _,_,h=>Rd.mono a d _ h
 |.arg _ _,_,h=>Rd.mono a d _ h
 |.tup _,_,h=>h.elim
 |.box _,_,h=>h.elim
 |.uni _ _ _,_,h=>h.elim
 |.same _,_,h=>h.elim
 |.val _ _,_,h=>h.elim
 |.cref _ _,_,h=>h.elim
 |.adr _ _,_,h=>h.elim
 |.gh _ _,_,h=>h.elim
 |.fn _,_,h=>h
 |.tok _,_,h=>h
 |.undef,_,h=>h.elim
def Rd.oneCell{c v}(h:Rd w St c v):v.oneCell'=true:=by
 cases c<;>simp only[Rd]at h
 ·subst h;rfl
 ·subst h;rfl
 ·rw[h.1];rfl
 all_goals first|(rw[h.1];exact h.2)|(subst h;rfl)|(obtain⟨_,A,c,rfl,_⟩:=h;rfl)|(have⟨_,_,A,c,e,_⟩:=h;rw[e];rfl)
def Rd.DB{c v}(h:Rd w St c v):c.DB=true:=by cases c<;>simp only[Rd]at h<;>rfl
def Pz.length:∀{cs:List V}{us:List Value},Pz w St cs us->us.length=cs.length
 |[],_,h=>by cases h;rfl
 |_::_,_,⟨_,_,e,_,h⟩=>by rw[e,AD,AD,Pz.length h]
def Dp.at_{b}:∀{cs:List V}{off:Nat},Dp w St b off cs->∀(j:Nat) (c:V),cs[j]? =some c->St b (off+j)∧∃u,w.cell? ⟨b,off+j,none⟩=some u∧Rd w St c u
 |[],_,_,j,c,h=>by simp at h
 |d::cs,off,h,0,c,e=>by simp only[Ce,Ar]at e;subst e;exact h.1
 |d::cs,off,h,j+1,c,e=>by have a:Dp w St b (off+1) cs:=h.2;have:=Dp.at_ a j c (by simpa using e);rw[show off+(j+1)=off+1+j by omega];exact this
def Dp.drop{b}:∀{cs:List V}{off:Nat}(k:Nat),Dp w St b off cs->Dp w St b (off+k) (cs.drop k)
 |[],_,k,_=>by simp[Dp]
 |_::_,_,0,h=>by simpa using h
 |_::cs,off,k+1,h=>by have:=Dp.drop (cs:=cs) (off:=off+1) k h.2;rw[show off+(k+1)=off+1+k by omega];simpa using this
def Dp.take{b}:∀{cs:List V}{off:Nat}(k:Nat),Dp w St b off cs->Dp w St b off (cs.take k)
 |[],_,k,_=>by simp[Dp]
 |_::_,_,0,h=>by simp[Dp]
 |_::cs,off,k+1,h=>by rw[Ep];exact⟨h.1,Dp.take (cs:=cs) k h.2⟩
def Dp.mk{b}:∀{cs:List V}{off:Nat},(∀(j:Nat) (c:V),cs[j]? =some c->St b (off+j)∧∃u,w.cell? ⟨b,off+j,none⟩=some u∧Rd w St c u)->Dp w St b off cs
 |[],_,_=>trivial
 |d::cs,off,h=>⟨h 0 d rfl,Dp.mk λj c e=>by have:=h (j+1) c (by simpa using e);rw[show off+1+j=off+(j+1)by omega];exact this⟩
def Dp.list{b}:∀{cs:List V}{off:Nat},Dp w St b off cs->∃us:List Value,Pz w St cs us∧∀(j:Nat) (u:Value),us[j]? =some u->w.cell? ⟨b,off+j,none⟩=some u
 |[],_,_=>⟨[],rfl,by simp⟩
 |c::cs,off,⟨⟨_,u,d,e⟩,f⟩=>by
  have⟨us,g,h⟩:=Dp.list f;refine⟨u::us,⟨u,us,rfl,e,g⟩,λj x a=>?_⟩;cases j with
  |zero=>simp only[Ce,Ar]at a;subst a;exact d
  |succ j=>rw[show off+(j+1)=off+1+j by omega];exact h j x (by simpa using a)
def Pz.get:∀{cs:List V}{us:List Value},Pz w St cs us->∀(j:Nat) (c:V),cs[j]? =some c->∃u,us[j]? =some u∧Rd w St c u
 |[],_,_,j,c,e=>by simp at e
 |_::_,_,⟨u,b,e,d,f⟩,0,c,a=>by simp only[Ce,Ar]at a;subst a;exact⟨u,by rw[e];rfl,d⟩
 |_::_,_,⟨u,b,e,d,f⟩,j+1,c,a=>by rw[e];simpa using Pz.get f j c (by simpa using a)
def Pz.oneCell:∀{cs:List V}{us:List Value},Pz w St cs us->∀u∈us,u.oneCell'=true
 |[],_,h,u,a=>by rw[show _=[]from h]at a;simp at a
 |c::cs,_,⟨x,b,e,d,f⟩,u,a=>by
  rw[e]at a;rcases AE.1 a with rfl|a
  ·exact d.oneCell
  ·exact Pz.oneCell f u a
end
section
variable (P:Program)(w:World)(St:Nat->Nat->Prop)
mutual
def Ow:V->Value->zN->Prop
 |.int k n,v,bs=>bs=[]∧Rd w St (.int k n) v
 |.bool b,v,bs=>bs=[]∧Rd w St (.bool b) v
 |.str s,v,bs=>bs=[]∧Rd w St (.str s) v
 |.dat n cs,v,bs=>bs=[]∧Rd w St (.dat n cs) v
 |.arg n cs,v,bs=>bs=[]∧Rd w St (.arg n cs) v
 |.pin u n cs,v,bs=>bs=[]∧Rd w St (.pin u n cs) v
 |.own e n cs,v,bs=>n<=lim∧∃xs a,w.ownsRow 0 e (Ub P e) v n xs∧Bn cs xs a∧bs=v.ownBlock.toList++a∧(∀g,v.ownBlock=some g->∀o,St g o↔o < n * Ub P e)∧(n=0->cs=[])
 |.agg cs,v,bs=>∃us:List Value,v=.agg us.toArray∧Bn cs us bs
 |.tup cs,v,bs=>∃us:List Value,v=.tuple us.toArray∧LK cs us bs
 |.fn f,v,bs=>bs=[]∧Rd w St (.fn f) v
 |.tok u,v,bs=>bs=[]∧Rd w St (.tok u) v
 |_,_,_=>False
def Bn:List V->List Value->zN->Prop
 |[],us,bs=>us=[]∧bs=[]
 |c::cs,us,bs=>∃u a b1 b2,us=u::a∧bs=b1++b2∧c.DB=true∧Ow c u b1∧Bn cs a b2
def LK:List V->List Value->zN->Prop
 |[],us,bs=>us=[]∧bs=[]
 |c::cs,us,bs=>∃u a b1 b2,us=u::a∧bs=b1++b2∧Ow c u b1∧LK cs a b2
end
end
section
variable {P:Program}{w w':World}{St St':Nat->Nat->Prop}
mutual
def Ow.mono(i:∀b o,St b o->St' b o)(j:Ext St w w'):∀(c:V) {v:Value}{bs:zN},Ow P w St c v bs->(∀g∈bs,w'.heap[g]? =w.heap[g]? ∧∀o,St' g o↔St g o)->Ow P w' St' c v bs
 |.int _ _,_,_,⟨a,d⟩,_=>⟨a,d⟩
 |.bool _,_,_,⟨a,d⟩,_=>⟨a,d⟩
 |.str _,_,_,⟨a,d⟩,_=>⟨a,d⟩
 |.dat _ _,_,_,⟨a,d⟩,_=>⟨a,d.mono i j⟩
 |.arg _ _,_,_,⟨a,d⟩,_=>⟨a,d.mono i j⟩
 |.pin _ _ _,_,_,⟨a,d⟩,_=>⟨a,d.mono i j⟩
 |.own e n cs,v,bs,⟨s,xs,m,a,d,l,t,u⟩,f=>by
  refine⟨s,xs,m,?_,Bn.mono i j cs d<|λg k=>f g<|by rw[l];exact Az _ k,l,λg k o=>?_,u⟩
  ·refine⟨a.1,?_⟩;rcases a.2 with h|⟨g,p,q,rfl,k,x,r⟩
   ·exact .inl h
   ·exact .inr ⟨g,p,q,rfl,k,by rw[(f g<|by rw[l];simp[Value.ownBlock]).1];exact x,r⟩
  ·rw[(f g<|by rw[l,k];simp).2 o];exact t g k o
 |.agg cs,_,_,⟨us,e,h⟩,f=>⟨us,e,Bn.mono i j cs h f⟩
 |.tup cs,_,_,⟨us,e,h⟩,f=>⟨us,e,LK.mono i j cs h f⟩
 |.box _,_,_,h,_=>h.elim
 |.uni _ _ _,_,_,h,_=>h.elim
 |.same _,_,_,h,_=>h.elim
 |.val _ _,_,_,h,_=>h.elim
 |.cref _ _,_,_,h,_=>h.elim
 |.adr _ _,_,_,h,_=>h.elim
 |.gh _ _,_,_,h,_=>h.elim
 |.fn _,_,_,⟨a,d⟩,_=>⟨a,d⟩
 |.tok _,_,_,⟨a,d⟩,_=>⟨a,d⟩
 |.undef,_,_,h,_=>h.elim
def Bn.mono(f:∀b o,St b o->St' b o)(i:Ext St w w'):∀(cs:List V) {us:List Value}{bs:zN},Bn P w St cs us bs->(∀g∈bs,w'.heap[g]? =w.heap[g]? ∧∀o,St' g o↔St g o)->Bn P w' St' cs us bs
 |[],_,_,h,_=>h
 |c::cs,_,_,⟨u,a,b1,b2,k,d,l,m,n⟩,j=>⟨u,a,b1,b2,k,d,l,Ow.mono f i c m<|λg e=>j g<|by rw[d];exact AF _ e,Bn.mono f i cs n<|λg e=>j g<|by rw[d];exact Az _ e⟩
def LK.mono(f:∀b o,St b o->St' b o)(i:Ext St w w'):∀(cs:List V) {us:List Value}{bs:zN},LK P w St cs us bs->(∀g∈bs,w'.heap[g]? =w.heap[g]? ∧∀o,St' g o↔St g o)->LK P w' St' cs us bs
 |[],_,_,h,_=>h
 |c::cs,_,_,⟨u,a,b1,b2,k,d,l,m⟩,j=>⟨u,a,b1,b2,k,d,Ow.mono f i c l<|λg e=>j g<|by rw[d];exact AF _ e,LK.mono f i cs m<|λg e=>j g<|by rw[d];exact Az _ e⟩
end
mutual
def Ow.rd:∀(c:V) {v:Value}{bs:zN},Ow P w St c v bs->c.DB=true->Rd w St c v
 |.int _ _,_,_,h,_=>h.2
 |.bool _,_,_,h,_=>h.2
 |.str _,_,_,h,_=>h.2
 |.dat _ _,_,_,h,_=>h.2
 |.arg _ _,_,_,h,_=>h.2
 |.pin _ _ _,_,_,h,_=>h.2
 |.own e n cs,v,bs,⟨i,xs,o,k,p,A,q,l⟩,_=>by
  have r:=k.1;rcases k.2 with⟨rfl,rfl⟩|⟨g,d,s,rfl,B,t,x,C,y,z⟩
  ·exact⟨Ba i,none,0,rfl,AJ _,λh=>absurd h (by omega),l⟩
  ·refine⟨Ba i,_,d,rfl,x,λ_=>⟨g,0,rfl,?_⟩,l⟩;have f:=q g rfl
   have a:∀(j:Nat) (u:Value),xs[j]? =some u->St g j∧w.cell? ⟨g,j,none⟩=some u:=by
    intro j u b
    have m:j < n * Ub P e:=by
     rw[<-r];rcases Bb j xs.length with h|h
     ·exact h
     ·rw[Bu h]at b;cases b
    refine⟨(f j).2 m,?_⟩;simp only[World.cell?,t];rw[<-z,DE,Aw m]at b;simpa using b
   exact Bn.AbH cs 0 p (λj u b=>by simpa using a j u b)
 |.agg _,_,_,_,h=>by cases h
 |.tup _,_,_,_,h=>by cases h
 |.box _,_,_,h,_=>h.elim
 |.uni _ _ _,_,_,h,_=>h.elim
 |.same _,_,_,h,_=>h.elim
 |.val _ _,_,_,h,_=>h.elim
 |.cref _ _,_,_,h,_=>h.elim
 |.adr _ _,_,_,h,_=>h.elim
 |.gh _ _,_,_,h,_=>h.elim
 |.fn _,_,_,h,_=>h.2
 |.tok _,_,_,h,_=>h.2
 |.undef,_,_,h,_=>h.elim
def Bn.AbH{g}:∀(cs:List V) (off:Nat) {us:List Value}{bs:zN},Bn P w St cs us bs->(∀(j:Nat) (u:Value),us[j]? =some u->St g (off+j)∧w.cell? ⟨g,off+j,none⟩=some u)->Dp w St g off cs
 |[],_,_,_,_,_=>trivial
 |c::cs,off,_,_,⟨u,e,b1,b2,a,l,f,h,i⟩,b=>by have d:=b 0 u (by rw[a];rfl);refine⟨⟨by simpa using d.1,u,by simpa using d.2,Ow.rd c h f⟩,Bn.AbH cs (off+1) i<|λj x k=>?_⟩;have:=b (j+1) x (by rw[a];simpa using k);rw[show off+1+j=off+(j+1)by omega];exact this
end
def Bn.rdL:∀(cs:List V) {us:List Value}{bs:zN},Bn P w St cs us bs->Pz w St cs us
 |[],_,_,h=>h.1
 |_::cs,_,_,⟨u,a,_,_,b,_,c,d,e⟩=>⟨u,a,b,Ow.rd _ d c,Bn.rdL cs e⟩
def Bn.length{cs us bs}(h:Bn P w St cs us bs):us.length=cs.length:=(Bn.rdL cs h).length
end
def VY:V->V
 |.own _ n cs=>.dat n cs
 |c=>c
def dg2:V->V
 |.agg cs=>.agg<|cs.map VY
 |c=>VY c
def dg:V->V
 |.tup cs=>.tup<|cs.map dg2
 |c=>dg2 c
section
variable {P:Program}{w w':World}{St St':Nat->Nat->Prop}
def Yo{c}(h:c.DB=true):(VY c).DB=true:=by cases c<;>first|rfl|exact h
def Rd.bJ{c v}(h:Rd w St c v):Rd w St (VY c) v:=by cases c<;>exact h
def Ow.bJ{c v bs}(h:Ow P w St c v bs)(a:c.DB=true):Ow P w St (VY c) v []:=by have b:=(Ow.rd c h a).bJ;cases c<;>first|exact⟨rfl,b⟩|cases a
def Bn.bJ:∀(cs:List V) {us:List Value}{bs:zN},Bn P w St cs us bs->Bn P w St (cs.map VY) us []
 |[],_,_,h=>⟨h.1,rfl⟩
 |c::cs,_,_,⟨u,a,b1,b2,d,g,b,e,f⟩=>⟨u,a,[],[],d,rfl,Yo b,e.bJ b,Bn.bJ cs f⟩
def Ow.yl{c v bs}(h:Ow P w St c v bs)(a:c.DB=true∨∃cs,c=.agg cs):Ow P w St (dg2 c) v []:=by
 rcases a with a|⟨cs,rfl⟩
 ·have:dg2 c=VY c:=by cases c<;>first|rfl|cases a
  rw[this];exact h.bJ a
 ·have⟨us,e,h⟩:=h;exact⟨us,e,h.bJ⟩
def V.isArg:V->Bool
 |.agg _=>true
 |c=>c.DB
def vk{c:V}(h:c.isArg=true):c.DB=true∨∃cs,c=.agg cs:=by cases c<;>first|exact .inl h|exact .inr ⟨_,rfl⟩
def Ow.Nd{c v bs}(h:Ow P w St c v bs)(a:c.isArg=true):Ow P w St (dg2 c) v []:=h.yl<|vk a
def Ow.rda{c v bs}(h:Ow P w St c v bs)(a:c.isArg=true):fZ w St c v:=by
 cases c<;>first|exact Ow.rd _ h a|cases a|skip
 have⟨us,e,h⟩:=h;exact⟨us,e,h.rdL⟩
def LK.yl:∀(cs:List V) {us:List Value}{bs:zN},LK P w St cs us bs->cs.all V.isArg=true->LK P w St (cs.map dg2) us []
 |[],_,_,h,_=>⟨h.1,rfl⟩
 |c::cs,_,_,⟨u,a,b1,b2,d,g,e,f⟩,b=>by simp only[By,Aa]at b;exact⟨u,a,[],[],d,rfl,e.Nd b.1,LK.yl cs f b.2⟩
def V.isVal:V->Bool
 |.tup cs=>cs.all V.isArg
 |c=>c.isArg
def Ow.deg{c v bs}(h:Ow P w St c v bs)(a:c.isVal=true):Ow P w St (dg c) v []:=by
 cases c<;>first|exact h.Nd a|cases a|skip
 have⟨us,e,h⟩:=h;exact⟨us,e,LK.yl _ h a⟩
def Ow.Agd{c v}(h:Rd w St (VY c) v):Ow P w St (VY c) v []:=by cases c<;>first|exact⟨rfl,h⟩|exact h.elim
def Bn.wc:∀(cs:List V) {us:List Value},Pz w St cs us->Bn P w St (cs.map VY) us []
 |[],_,h=>⟨h,rfl⟩
 |c::cs,_,⟨u,a,e,b,d⟩=>⟨u,a,[],[],e,rfl,Yo b.DB,Ow.Agd b.bJ,Bn.wc cs d⟩
end
mutual
def er:V->V
 |.own _ n cs=>.dat n<|QF cs
 |.dat n cs=>.dat n<|QF cs
 |.arg n cs=>.dat n<|QF cs
 |.pin _ n cs=>.dat n<|QF cs
 |.agg cs=>.agg<|QF cs
 |.int k n=>.int k n
 |.bool b=>.bool b
 |.str s=>.str s
 |.fn f=>.fn f
 |.tok u=>.tok u
 |_=>.undef
def QF:List V->List V
 |[]=>[]
 |c::cs=>er c::QF cs
end
section
variable {P:Program}{w w':World}{St St':Nat->Nat->Prop}
def cy{cs}(h:cs=[]):QF cs=[]:=by subst h;rfl
mutual
def Rd.erase:∀(c:V) {v:Value},Rd w St c v->Rd w St (er c) v
 |.int _ _,_,h=>h
 |.bool _,_,h=>h
 |.str _,_,h=>h
 |.own _ _ cs,_,⟨hn,A,c,e,hc,h,h0⟩=>⟨hn,A,c,e,hc,λhp=>let⟨b,off,ea,hr⟩:=h hp;⟨b,off,ea,Dp.erase b off cs hr⟩,λhz=>cy<|h0 hz⟩
 |.dat _ cs,_,⟨hn,A,c,e,hc,h,h0⟩=>⟨hn,A,c,e,hc,λhp=>let⟨b,off,ea,hr⟩:=h hp;⟨b,off,ea,Dp.erase b off cs hr⟩,λhz=>cy<|h0 hz⟩
 |.pin _ _ cs,_,⟨_,hn,A,c,e,hc,h,h0⟩=>⟨hn,A,c,e,hc,λhp=>let⟨b,off,ea,hr⟩:=h hp;⟨b,off,ea,Dp.erase b off cs hr⟩,λhz=>cy<|h0 hz⟩
 |.arg _ cs,_,⟨hn,A,c,e,hc,h,h0⟩=>⟨hn,A,c,e,hc,λhp=>let⟨b,off,ea,_,hr⟩:=h hp;⟨b,off,ea,Dp.erase b off cs hr⟩,λhz=>cy<|h0 hz⟩
 |.agg _,_,h=>h.elim
 |.tup _,_,h=>h.elim
 |.box _,_,h=>h.elim
 |.uni _ _ _,_,h=>h.elim
 |.same _,_,h=>h.elim
 |.val _ _,_,h=>h.elim
 |.cref _ _,_,h=>h.elim
 |.adr _ _,_,h=>h.elim
 |.gh _ _,_,h=>h.elim
 |.fn _,_,h=>h
 |.tok _,_,h=>h
 |.undef,_,h=>h.elim
def Dp.erase(b:Nat):∀(off:Nat) (cs:List V),Dp w St b off cs->Dp w St b off (QF cs)
 |_,[],_=>trivial
 |off,c::cs,⟨⟨a,u,d,e⟩,f⟩=>⟨⟨a,u,d,Rd.erase c e⟩,Dp.erase b (off+1) cs f⟩
end
def Pz.erase:∀(cs:List V) {us:List Value},Pz w St cs us->Pz w St (QF cs) us
 |[],_,h=>h
 |c::cs,_,⟨u,a,e,b,d⟩=>⟨u,a,e,Rd.erase c b,Pz.erase cs d⟩
def fZ.erase{c v}(h:fZ w St c v):fZ w St (er c) v:=by
 cases c<;>first|exact Rd.erase _ h|exact h.elim|skip
 have⟨us,e,h⟩:=h;exact⟨us,e,h.erase⟩
end
end
section
def upd{α:Type}(f:Nat->α)(d:Nat)(x:α):Nat->α:=λs=>if s=d then x else f s
def upd_same{α:Type}(f:Nat->α)(d:Nat)(x:α):upd f d x d=x:=by simp[upd]
def upd_ne{α:Type}(f:Nat->α){d s:Nat}(x:α)(h:s≠d):upd f d x s=f s:=by simp[upd,h]
abbrev PS:=Nat->V
def tm(a:Act)(s:Nat):Value:=a.tmps.getD s undef
def bd(a:Act)(d:Nat)(v:Value)(h:d < a.tmps.size):tm (a.put (some d) v)=upd (tm a) d v:=by
 funext s;simp only[tm,Act.put,upd];by_cases e:s=d
 ·subst e;simp[h]
 ·simp only[Ay e,CQ];rw[Array.getElem?_setIfInBounds_ne (by omega)]
def size_put(a:Act)(d:Option Tmp)(v:Value):(a.put d v).tmps.size=a.tmps.size:=by cases d<;>simp[Act.put]
def U6(a:Act)(d:Option Tmp)(v:Value):(a.put d v).defers=a.defers:=by cases d<;>simp[Act.put]
def bh:Value->Option Nat
 |.pointer (some ⟨g,0,none⟩)=>some g
 |.slice (some ⟨g,0,none⟩) _ _=>some g
 |_=>none
def C6:V->Option (List V)
 |.box cs=>some cs
 |.uni _ _ cs=>some cs
 |_=>none
def VT(c:V)(cs:List V):V:=match c with
 |.uni e n _=>.uni e n cs
 |_=>.box cs
def dq(c:V)(cs:List V):C6 (VT c cs)=some cs:=by cases c<;>rfl
def D3:V->Option Nat
 |.cref b _=>some b
 |.same b=>some b
 |.val b _=>some b
 |_=>none
section
variable (P:Program)(w:World)(St:Nat->Nat->Prop)(t:Nat->Value)
def Cr:V->Value->zN->Prop
 |.undef,_,bs=>bs=[]
 |.box cs,v,bs=>∃g T a,∃c:Array Value,v=.pointer (some ⟨g,0,none⟩)∧w.heap[g]? =some (.cells c T (0,0))∧Bn P w St cs c.toList a∧bs=g::a∧∀o,¬St g o
 |.uni e n cs,v,bs=>∃g a,∃c:Array Value,v=.slice (some ⟨g,0,none⟩) n n∧w.heap[g]? =some (.cells c e (0,0))∧Bn P w St cs c.toList a∧bs=g::a∧(∀o,¬St g o)∧n<=lim∧cs.length=n * Ub P e
 |.same s,v,bs=>bs=[]∧v=t s
 |.val s u,_,bs=>bs=[]∧u=t s
 |.cref s off,v,bs=>bs=[]∧∃g,bh (t s)=some g∧v=.pointer (some ⟨g,off,none⟩)
 |.adr cs off,v,bs=>bs=[]∧∃b o,v=.pointer (some ⟨b,o,none⟩)∧Dp w St b o (cs.drop off)
 |.int k n,v,bs=>Ow P w St (.int k n) v bs
 |.bool b,v,bs=>Ow P w St (.bool b) v bs
 |.str s,v,bs=>Ow P w St (.str s) v bs
 |.own e n cs,v,bs=>Ow P w St (.own e n cs) v bs
 |.dat n cs,v,bs=>Ow P w St (.dat n cs) v bs
 |.arg n cs,v,bs=>Ow P w St (.arg n cs) v bs
 |.pin u n cs,v,bs=>Ow P w St (.pin u n cs) v bs
 |.gh us cs,_,bs=>Bn P w St cs us bs
 |.agg cs,v,bs=>Ow P w St (.agg cs) v bs
 |.tup cs,v,bs=>Ow P w St (.tup cs) v bs
 |.fn f,v,bs=>Ow P w St (.fn f) v bs
 |.tok u,v,bs=>Ow P w St (.tok u) v bs
end
section
variable {P:Program}{w w':World}{St St':Nat->Nat->Prop}{t t':Nat->Value}
def Cr.ow{c v bs}(h:Cr P w St t c v bs)(a:c.isVal=true):Ow P w St c v bs:=by cases c<;>first|exact h|cases a
def Ow.slot{c v bs}(h:Ow P w St c v bs):Cr P w St t c v bs:=by cases c<;>first|exact h|exact h.elim
def Cr.mono(d:∀b o,St b o->St' b o)(i:Ext St w w'){c:V}{v:Value}{bs:zN}(h:Cr P w St t c v bs)
  (a:∀g∈bs,w'.heap[g]? =w.heap[g]? ∧∀o,St' g o↔St g o) (r:∀b,D3 c=some b->t' b=t b):Cr P w' St' t' c v bs:=by
 cases c with
 |undef=>exact h
 |box cs=>obtain⟨g,T,l,m,y,z,j,rfl,p⟩:=h;have q:=a g (by simp);exact⟨g,T,l,m,y,by rw[q.1];exact z,j.mono d i _<|λx A=>a x<|by simp[A],rfl,λo B=>p o<|(q.2 o).1 B⟩
 |uni e n cs=>obtain⟨g,l,m,y,z,j,rfl,p,C⟩:=h;have q:=a g (by simp);exact⟨g,l,m,y,by rw[q.1];exact z,j.mono d i _<|λx A=>a x<|by simp[A],rfl,λo B=>p o<|(q.2 o).1 B,C⟩
 |same s=>have⟨e,j⟩:=h;exact⟨e,by rw[r s rfl];exact j⟩
 |val s u=>have⟨e,j⟩:=h;exact⟨e,by rw[r s rfl];exact j⟩
 |cref s off=>have⟨e,g,j,p⟩:=h;exact⟨e,g,by rw[r s rfl];exact j,p⟩
 |adr cs off=>have⟨e,b,o,j,p⟩:=h;exact⟨e,b,o,j,Dp.mono d i b o _ p⟩
 |int k n=>exact Ow.mono d i _ h a
 |bool k=>exact Ow.mono d i _ h a
 |str k=>exact Ow.mono d i _ h a
 |own e n cs=>exact Ow.mono d i _ h a
 |dat n cs=>exact Ow.mono d i _ h a
 |arg n cs=>exact Ow.mono d i _ h a
 |pin u n cs=>exact Ow.mono d i _ h a
 |gh us cs=>exact Bn.mono d i _ h a
 |agg cs=>exact Ow.mono d i _ h a
 |tup cs=>exact Ow.mono d i _ h a
 |fn f=>exact Ow.mono d i _ h a
 |tok u=>exact Ow.mono d i _ h a
end
structure Bs where
 K:Nat->Prop
 pin:List (Nat×Value)
instance:CoeFun Bs (λ_=>Nat->Prop):=⟨Bs.K⟩
def TP:Nat:=1000000
def lays:List (Nat×List (IntKind×Int)):=[(0,[(.i64,1),(.i64,1)])]
def Glb(w:World)(a:Nat->Nat->Prop):Prop:=∀p∈lays,(∀o,a p.1 o)∧∀i x,p.2[i]? =some x->w.cell? ⟨p.1,i,none⟩=some (.int x.1 x.2)
def Glb.of{w w' St St'}(h:Glb w St)(c:∀b,(∀o,St b o)->∀o,St' b o)(d:∀b o,(∀o,St b o)->w'.cell? ⟨b,o,none⟩=w.cell? ⟨b,o,none⟩):Glb w' St':=
 λp a=>⟨c _ (h p a).1,λi x e=>(d _ _ (h p a).1).trans<|(h p a).2 i x e⟩
structure HSim (P:Program) (nt:Nat) (bx:zN) (base:Bs) (St:Nat->Nat->Prop) (B:Nat->zN) (hand:zN) (σ:PS) (a:Act) (w:World):Prop where
 size:a.tmps.size=nt
 defers:a.defers=[]
 slot:∀s,Cr P w St (tm a) (σ s) (tm a s) (B s)
 boxes:∀s cs,C6 (σ s)=some cs->s∈bx
 crefs:∀s b,D3 (σ s)=some b->∃cs,C6 (σ b)=some cs
 nodup:∀s,(B s).Nodup
 apart:∀s t,s≠t->∀g∈B s,g∉B t
 hnodup:hand.Nodup
 hapart:∀s,∀g∈B s,g∉hand
 range:∀s,∀g∈B s,¬base g∧g < w.heap.size
 hrange:∀g∈hand,¬base g∧g < w.heap.size
 st:∀b o,St b o->b < w.heap.size
 gl:Glb w St
 pin:∀p∈base.pin,tm a p.1=p.2∧p.1∈bx∧TP+p.1∈bx
section
variable {P:Program}{nt:Nat}{base:Bs}{bx:zN}{St St':Nat->Nat->Prop}{B:Nat->zN}{hand:zN}{σ:PS}{a:Act}{w w':World}
def HSim.world(h:HSim P nt bx base St B hand σ a w)(f:∀b o,St b o->St' b o)(i:Ext St w w')(j:w.heap.size<=w'.heap.size)
  (c:∀s,∀g∈B s,w'.heap[g]? =w.heap[g]? ∧∀o,St' g o↔St g o) (e:∀b o,St' b o->b < w'.heap.size):HSim P nt bx base St' B hand σ a w':=
 {h with
  slot:=λs=>(h.slot s).mono f i (c s)<|λ_ _=>rfl
  range:=λs g d=>⟨(h.range s g d).1,Bz (h.range s g d).2 j⟩
  hrange:=λg d=>⟨(h.hrange g d).1,Bz (h.hrange g d).2 j⟩
  st:=e
  gl:=h.gl.of (λb c o=>f b o (c o)) (λb o c=>i b o (c o))}
def HSim.less(h:HSim P nt bx base St B hand σ a w){hand':zN}(d:hand'.Nodup)(c:∀g∈hand',g∈hand):HSim P nt bx base St B hand' σ a w:=
 {h with
  hnodup:=d
  hapart:=λs g b e=>h.hapart s g b<|c g e
  hrange:=λg b=>h.hrange g (c g b)}
def Z6{c}(h:c.isVal=true):C6 (dg c)=none∧D3 (dg c)=none:=by cases c<;>first|(constructor<;>rfl)|cases h
def VG{c}(h:c.isVal=true):C6 c=none∧D3 c=none:=by cases c<;>first|(constructor<;>rfl)|cases h
def HSim.take(h:HSim P nt bx base St B hand σ a w)(s:Nat)(hv:(σ s).isVal=true):
  Ow P w St (σ s) (tm a s) (B s)∧HSim P nt bx base St (upd B s []) (hand++B s) (upd σ s<|dg<|σ s) a w:=by
 have ho:=(h.slot s).ow hv;have hnb:=Z6 hv;refine⟨ho,?_⟩
 have hB:∀q,∀g∈upd B s [] q,q≠s∧g∈B q:=by
  intro q g hg;by_cases e:q=s
  ·subst e;rw[upd_same]at hg;simp at hg
  ·rw[upd_ne _ _ e]at hg;exact⟨e,hg⟩
 exact
 {h with
  slot:=λq=>by
   by_cases e:q=s
   ·subst e;rw[upd_same,upd_same];exact(ho.deg hv).slot
   ·rw[upd_ne _ _ e,upd_ne _ _ e];exact h.slot q
  boxes:=λq cs e=>by
   by_cases eq:q=s
   ·subst eq;rw[upd_same,hnb.1]at e;cases e
   ·rw[upd_ne _ _ eq]at e;exact h.boxes q cs e
  crefs:=λq b e=>by
   by_cases eq:q=s
   ·subst eq;rw[upd_same,hnb.2]at e;cases e
   ·rw[upd_ne _ _ eq]at e;have⟨cs,hcs⟩:=h.crefs q b e;refine⟨cs,?_⟩;rw[upd_ne _ _ (λeb=>by subst eb;rw[(VG hv).1]at hcs;cases hcs)];exact hcs
  nodup:=λq=>by
   by_cases e:q=s
   ·subst e;rw[upd_same];exact AP
   ·rw[upd_ne _ _ e];exact h.nodup q
  apart:=λq r hqr g hg hg'=>h.apart q r hqr g (hB q g hg).2 (hB r g hg').2
  hnodup:=AA.2 ⟨h.hnodup,h.nodup s,λx hx y hy e=>by subst e;exact h.hapart s x hy hx⟩
  hapart:=λq g hg hm=>by
   have⟨hq,hg⟩:=hB q g hg;rcases Ak.1 hm with hm|hm
   ·exact h.hapart q g hg hm
   ·exact h.apart q s hq g hg hm
  range:=λq g hg=>h.range q g (hB q g hg).2
  hrange:=λg hg=>by
   rcases Ak.1 hg with hg|hg
   ·exact h.hrange g hg
   ·exact h.range s g hg}
def HSim.put(h:HSim P nt bx base St B hand σ a w){d:Nat}(hd:d < nt)(hx:d∉bx){c:V}{v:Value}{bs:zN}(hc:Cr P w St (tm a) c v bs)
  (hn:bs.Nodup) (hs:∀g∈bs,g∈hand) (hnb:C6 c=none) (hcr:∀b,D3 c=some b->∃cs,C6 (σ b)=some cs):
  HSim P nt bx base St (upd B d bs) [] (upd σ d c) (a.put (some d) v) w:=by
 have ht:=bd a d v (by rw[h.size];exact hd);have hbd:∀b cs,C6 (σ b)=some cs->b≠d:=λb cs e eb=>hx<|eb ▸ h.boxes b cs e
 have hbox:∀b,(∃cs,C6 (σ b)=some cs)->∃cs,C6 (upd σ d c b)=some cs:=λb ⟨cs,e⟩=>⟨cs,by rw[upd_ne _ _ (hbd b cs e)];exact e⟩
 refine
 {size:=by rw[size_put];exact h.size
  defers:=by rw[U6];exact h.defers
  slot:=λq=>by
   rw[ht];by_cases e:q=d
   ·subst e;rw[upd_same,upd_same,upd_same];exact hc.mono (λ_ _ h=>h) (λ_ _ _=>rfl) (λ_ _=>⟨rfl,λ_=>CY⟩)<|λb eb=>upd_ne _ _ (by have⟨cs,e⟩:=hcr b eb;exact hbd b cs e)
   ·rw[upd_ne _ _ e,upd_ne _ _ e,upd_ne _ _ e];exact(h.slot q).mono (λ_ _ h=>h) (λ_ _ _=>rfl) (λ_ _=>⟨rfl,λ_=>CY⟩)<|λb eb=>upd_ne _ _ (by have⟨cs,e⟩:=h.crefs q b eb;exact hbd b cs e)
  boxes:=λq cs e=>by
   by_cases eq:q=d
   ·subst eq;rw[upd_same,hnb]at e;cases e
   ·rw[upd_ne _ _ eq]at e;exact h.boxes q cs e
  crefs:=λq b e=>by
   by_cases eq:q=d
   ·subst eq;rw[upd_same]at e;exact hbox b<|hcr b e
   ·rw[upd_ne _ _ eq]at e;exact hbox b<|h.crefs q b e
  nodup:=λq=>by
   by_cases e:q=d
   ·subst e;rw[upd_same];exact hn
   ·rw[upd_ne _ _ e];exact h.nodup q
  apart:=λq r hqr g hg hg'=>by
   by_cases e:q=d
   ·subst e;rw[upd_same]at hg;rw[upd_ne _ _ (Ne.symm hqr)]at hg';exact h.hapart r g hg'<|hs g hg
   ·rw[upd_ne _ _ e]at hg;by_cases e':r=d
    ·subst e';rw[upd_same]at hg';exact h.hapart q g hg<|hs g hg'
    ·rw[upd_ne _ _ e']at hg';exact h.apart q r hqr g hg hg'
  hnodup:=AP
  hapart:=λ_ _ _=>by simp
  range:=λq g hg=>by
   by_cases e:q=d
   ·subst e;rw[upd_same]at hg;exact h.hrange g<|hs g hg
   ·rw[upd_ne _ _ e]at hg;exact h.range q g hg
  hrange:=by simp
  st:=h.st
  gl:=h.gl
  pin:=λv0 e=>by have hp:=h.pin v0 e;rw[ht,upd_ne _ _ (show v0.1≠d from λe0=>hx (e0 ▸ hp.2.1))];exact hp}
def HSim.fk(h:HSim P nt bx base St B hand σ a w){d:Nat}(hd:d < nt)(hx:d∈bx)(hd0:TP+d∉bx)(hold:C6 (σ d)=none){c:V}{v:Value}{bs:zN}(hc:Cr P w St (tm a) c v bs)
  (hn:bs.Nodup) (hs:∀g∈bs,g∈hand) (hrf:D3 c=none):HSim P nt bx base St (upd B d bs) [] (upd σ d c) (a.put (some d) v) w:=by
 have ht:=bd a d v (by rw[h.size];exact hd);have hbd:∀b cs,C6 (σ b)=some cs->b≠d:=λb cs e eb=>by subst eb;rw[hold]at e;cases e
 have hbox:∀b,(∃cs,C6 (σ b)=some cs)->∃cs',C6 (upd σ d c b)=some cs':=λb ⟨cs',e⟩=>⟨cs',by rw[upd_ne _ _ (hbd b cs' e)];exact e⟩
 refine
 {size:=by rw[size_put];exact h.size
  defers:=by rw[U6];exact h.defers
  slot:=λq=>by
   rw[ht];by_cases e:q=d
   ·subst e;rw[upd_same,upd_same,upd_same];exact hc.mono (λ_ _ h=>h) (λ_ _ _=>rfl) (λ_ _=>⟨rfl,λ_=>CY⟩) (λb eb=>by rw[hrf]at eb;cases eb)
   ·rw[upd_ne _ _ e,upd_ne _ _ e,upd_ne _ _ e];exact(h.slot q).mono (λ_ _ h=>h) (λ_ _ _=>rfl) (λ_ _=>⟨rfl,λ_=>CY⟩)<|λb eb=>upd_ne _ _ (by have⟨cs,e⟩:=h.crefs q b eb;exact hbd b cs e)
  boxes:=λq cs e=>by
   by_cases eq:q=d
   ·subst eq;exact hx
   ·rw[upd_ne _ _ eq]at e;exact h.boxes q cs e
  crefs:=λq b e=>by
   by_cases eq:q=d
   ·subst eq;rw[upd_same,hrf]at e;cases e
   ·rw[upd_ne _ _ eq]at e;exact hbox b<|h.crefs q b e
  nodup:=λq=>by
   by_cases e:q=d
   ·subst e;rw[upd_same];exact hn
   ·rw[upd_ne _ _ e];exact h.nodup q
  apart:=λq r hqr g hg hg'=>by
   by_cases e:q=d
   ·subst e;rw[upd_same]at hg;rw[upd_ne _ _ (Ne.symm hqr)]at hg';exact h.hapart r g hg'<|hs g hg
   ·rw[upd_ne _ _ e]at hg;by_cases e':r=d
    ·subst e';rw[upd_same]at hg';exact h.hapart q g hg<|hs g hg'
    ·rw[upd_ne _ _ e']at hg';exact h.apart q r hqr g hg hg'
  hnodup:=AP
  hapart:=λ_ _ _=>by simp
  range:=λq g hg=>by
   by_cases e:q=d
   ·subst e;rw[upd_same]at hg;exact h.hrange g<|hs g hg
   ·rw[upd_ne _ _ e]at hg;exact h.range q g hg
  hrange:=by simp
  st:=h.st
  gl:=h.gl
  pin:=λv0 e=>by have hp:=h.pin v0 e;rw[ht,upd_ne _ _ (show v0.1≠d from λe0=>hd0 (e0 ▸ hp.2.2))];exact hp}
def HSim.Af0(h:HSim P nt bx base St B hand σ a w){s:Nat}{cs cs':List V}{c':V}(t:C6 (σ s)=some cs)(i:C6 c'=some cs'){bs:zN}{hand':zN}(A:Cr P w St (tm a) c' (tm a s) bs)
  (C:bs.Nodup) (u:∀g∈bs,g∈B s∨g∈hand) (v:hand'.Nodup) (m:∀g∈hand',g∈B s∨g∈hand) (x:∀g∈bs,g∉hand'):
  HSim P nt bx base St (upd B s bs) hand' (upd σ s c') a w:=by
 have y:D3 c'=none:=by cases c'<;>first|rfl|cases i
 have n:∀b,(∃cs,C6 (σ b)=some cs)->∃o,C6 (upd σ s c' b)=some o:=λb ⟨cs,e⟩=>by
  by_cases z:b=s
  ·subst z;exact⟨cs',by rw[upd_same];exact i⟩
  ·exact⟨cs,by rw[upd_ne _ _ z];exact e⟩
 have f:∀q,q≠s->∀g∈B q,¬(g∈B s∨g∈hand):=λq D g c j=>by
  rcases j with j|j
  ·exact h.apart q s D g c j
  ·exact h.hapart q g c j
 refine
 {h with
  slot:=λq=>by
   by_cases e:q=s
   ·subst e;rw[upd_same,upd_same];exact A
   ·rw[upd_ne _ _ e,upd_ne _ _ e];exact h.slot q
  boxes:=λq cs e=>by
   by_cases p:q=s
   ·subst p;exact h.boxes _ _ t
   ·rw[upd_ne _ _ p]at e;exact h.boxes q cs e
  crefs:=λq b e=>by
   by_cases p:q=s
   ·subst p;rw[upd_same,y]at e;cases e
   ·rw[upd_ne _ _ p]at e;exact n b<|h.crefs q b e
  nodup:=λq=>by
   by_cases e:q=s
   ·subst e;rw[upd_same];exact C
   ·rw[upd_ne _ _ e];exact h.nodup q
  apart:=λq r k g c d=>by
   by_cases e:q=s
   ·subst e;rw[upd_same]at c;rw[upd_ne _ _ (Ne.symm k)]at d;exact f r (Ne.symm k) g d<|u g c
   ·rw[upd_ne _ _ e]at c;by_cases e':r=s
    ·subst e';rw[upd_same]at d;exact f q e g c<|u g d
    ·rw[upd_ne _ _ e']at d;exact h.apart q r k g c d
  hnodup:=v
  hapart:=λq g c j=>by
   by_cases e:q=s
   ·subst e;rw[upd_same]at c;exact x g c j
   ·rw[upd_ne _ _ e]at c;exact f q e g c<|m g j
  range:=λq g c=>by
   by_cases e:q=s
   ·subst e;rw[upd_same]at c;rcases u g c with l|l
    ·exact h.range _ g l
    ·exact h.hrange g l
   ·rw[upd_ne _ _ e]at c;exact h.range q g c
  hrange:=λg c=>by
   rcases m g c with l|l
   ·exact h.range _ g l
   ·exact h.hrange g l}
def HSim.fresh(h:HSim P nt bx base St B hand σ a w){bs:zN}(d:bs.Nodup)(f:∀g∈bs,¬base g∧g < w.heap.size)(i:∀s,∀g∈B s,g∉bs)(j:∀g∈hand,g∉bs):
  HSim P nt bx base St B (hand++bs) σ a w:=
 {h with
  hnodup:=AA.2 ⟨h.hnodup,d,λx k y l e=>by subst e;exact j x k l⟩
  hapart:=λs g b c=>by
   rcases Ak.1 c with c|c
   ·exact h.hapart s g b c
   ·exact i s g b c
  hrange:=λg b=>by
   rcases Ak.1 b with b|b
   ·exact h.hrange g b
   ·exact f g b}
end
end
section
inductive TyD where
 |sc (z:V)
 |st (size:Nat) (zero:List V) (fields:List (Nat×Nat))
 |sl (e:TypeId) (es eb:Nat) (ez:List V)
abbrev Tb:=TypeId->Option TyD
def TyD.size:TyD->Nat
 |.sc _=>1
 |.st n _ _=>n
 |.sl .. =>1
def TyD.Xy:TyD->Bool
 |.st .. =>true
 |_=>false
def TyD.two:TyD->Bool
 |.st 2 [.int _ _,.int _ _] [(0,1),(1,1)]=>true
 |_=>false
def ZL(P:Program)(zs:List V)(us:List Value):Prop:=∀w a,Bn P w a zs us []
def Ng(P:Program)(t:TypeId):TyD->Prop
 |.sc z=>∃i zv d,P.info? t=some i∧i.size=1∧i.zero=some zv∧ZL P [z] [zv]∧P.underlying t=some d∧(match z with|.int k _=>d=.int k|.bool _=>d=.bool|.str _=>d=.string|.tok _=>(∃ps rs v,d=.func ps rs v)|_=>False)
 |.st size zero fields=>∃i arr fs,P.info? t=some i∧i.size=size∧i.zero=some (.agg arr)∧ZL P zero arr.toList∧P.underlying t=some (.struct fs)∧fs.toList.map (λf=>(f.offset,Ub P f.type))=fields∧(∀f∈fields,0 < f.2)∧((TyD.st size zero fields).two=true->P.stoodInHeld t=false∧P.eqGuardType P.depth t=false∧∀f∈fs.toList,f.name≠ "_" ∧∃k,P.underlying f.type=some (.int k))
 |.sl e es eb ez=>∃i j zv,P.info? t=some i∧i.size=1∧i.zero=some (.slice none 0 0)∧P.underlying t=some (.slice e)∧P.info? e=some j∧j.zero=some zv∧j.size=es∧j.bytes=eb∧ZL P ez zv.cells.toList∧ez.length=es∧0 < es∧0 < eb∧eb<=128
def Jr(P:Program)(tb:Tb):Prop:=∀t d,tb t=some d->Ng P t d
def cV:Value->V
 |.int k n=>.int k n
 |.bool b=>.bool b
 |.string s=>if s.data.toList.length<=lim then .str s.data.toList else .undef
 |.slice none 0 0=>.dat 0 []
 |_=>.undef
def CC(σ:PS):Operand->V
 |.tmp t=>σ t
 |.const v=>cV v
 |.func f=>.fn f
 |_=>.undef
def eq2:List V->List V->Bool
 |[.int _ a,.int _ b],[.int _ c,.int _ d]=>a==c&&b==d
 |_,_=>false
def AaI(d:Option TyD):List V->List V->Prop
 |[.int k _,.int l _],[.int a _,.int b _]=>k=a∧l=b∧d.elim false TyD.two=true
 |_,_=>False
def n7:BinOp->V->V->V
 |.shl,.int k a,.int _ b=>.int k<|k.wrap<|a * 2 ^ (min b.toNat k.bits)
 |.shr,.int k a,.int _ b=>.int k<|a.fdiv<|2 ^ (min b.toNat k.bits)
 |.add,.int k a,.int _ b=>.int k<|k.wrap<|a+b
 |.sub,.int k a,.int _ b=>.int k<|k.wrap<|a - b
 |.mul,.int k a,.int _ b=>.int k<|k.wrap<|a * b
 |.quo,.int k a,.int _ b=>.int k<|k.wrap<|a.tdiv b
 |.rem,.int k a,.int _ b=>.int k<|a.tmod b
 |.and,.int k a,.int _ b=>.int k<|k.wrap (BitVec.ofInt k.bits a&&& BitVec.ofInt k.bits b).toNat
 |.or,.int k a,.int _ b=>.int k<|k.wrap (BitVec.ofInt k.bits a ||| BitVec.ofInt k.bits b).toNat
 |.xor,.int k a,.int _ b=>.int k<|k.wrap (BitVec.ofInt k.bits a ^^^ BitVec.ofInt k.bits b).toNat
 |.andNot,.int k a,.int _ b=>.int k<|k.wrap (BitVec.ofInt k.bits a&&& ~~~BitVec.ofInt k.bits b).toNat
 |.eql,.int _ a,.int _ b=>.bool<|a==b
 |.neq,.int _ a,.int _ b=>.bool<|a !=b
 |.lss,.int _ a,.int _ b=>.bool<|decide (a < b)
 |.leq,.int _ a,.int _ b=>.bool<|decide (a<=b)
 |.gtr,.int _ a,.int _ b=>.bool<|decide (b < a)
 |.geq,.int _ a,.int _ b=>.bool<|decide (b<=a)
 |.add,.str s,.str t=>.str<|s++t
 |.eql,.str s,.str t=>.bool<|s==t
 |.neq,.str s,.str t=>.bool (!(s==t))
 |.lss,.str s,.str t=>.bool<|Op.bytesLess s t
 |.leq,.str s,.str t=>.bool<|Op.bytesLess s t || s==t
 |.gtr,.str s,.str t=>.bool (!(Op.bytesLess s t || s==t))
 |.geq,.str s,.str t=>.bool (!Op.bytesLess s t)
 |.eql,.bool a,.bool b=>.bool<|a==b
 |.neq,.bool a,.bool b=>.bool (!(a==b))
 |.eql,.agg a,.agg b=>.bool<|eq2 a b
 |.neq,.agg a,.agg b=>.bool (!eq2 a b)
 |_,_,_=>.undef
def jr(d:Option TyD):BinOp->V->V->Prop
 |.shl,.int _ _,.int _ b=>0<=b
 |.shr,.int _ _,.int _ b=>0<=b
 |.quo,.int k _,.int c b=>k=c∧b≠0
 |.rem,.int k _,.int c b=>k=c∧b≠0
 |.add,.str s,.str t=>s.length+t.length<=lim
 |_,.int k _,.int c _=>k=c
 |.eql,.str _,.str _=>True
 |.neq,.str _,.str _=>True
 |.lss,.str _,.str _=>True
 |.leq,.str _,.str _=>True
 |.gtr,.str _,.str _=>True
 |.geq,.str _,.str _=>True
 |.eql,.bool _,.bool _=>d=some (.sc<|.bool false)
 |.neq,.bool _,.bool _=>d=some (.sc<|.bool false)
 |.eql,.agg a,.agg b=>AaI d a b
 |.neq,.agg a,.agg b=>AaI d a b
 |_,_,_=>False
def unV:UnOp->V->V
 |.not,.bool b=>.bool (!b)
 |.neg,.int k n=>.int k<|k.wrap<|0 - n
 |_,_=>.undef
def unC:UnOp->V->Prop
 |.not,.bool _=>True
 |.neg,.int _ _=>True
 |_,_=>False
section
variable {P:Program}{w:World}{St:Nat->Nat->Prop}{t:Nat->Value}
def G2{k n v bs}(h:Cr P w St t (.int k n) v bs):v=.int k n:=h.2
def Rj{b v bs}(h:Cr P w St t (.bool b) v bs):v=.bool b:=h.2
def RP{s v bs}(h:Cr P w St t (.str s) v bs):v=.string ⟨s.toArray⟩∧s.length<=maxLen:=h.2
def Ra(k:IntKind)(n:Int):Cr P w St t (.int k n) (.int k n) []:=⟨rfl,rfl⟩
def Xj(b:Bool):Cr P w St t (.bool b) (.bool b) []:=⟨rfl,rfl⟩
def oY{s}(h:s.length<=maxLen):Cr P w St t (.str s) (.string ⟨s.toArray⟩) []:=⟨rfl,rfl,h⟩
def oq{ty}(a:P.underlying ty=some .bool)(n:Nat)(x y:Bool):(Op.equalIn (n+1) ty (.bool x)<|.bool y).run P w=.ok (x==y) w:=by simp[Op.equalIn,Bw a]
def nK{k l a b v bs}(h:Cr P w St t (.agg [.int k a,.int l b]) v bs):v=.agg #[.int k a,.int l b]:=by obtain⟨us,rfl,u,c,b1,b2,rfl,_,_,d,i,e,j,m,rfl,_,_,f,g⟩:=h;obtain⟨rfl,_⟩:=g;rw[d.2,f.2]
def AaJ{ty d}(s:Ng P ty d)(h:d.two=true)(x y:Operand){k l:IntKind}(a b a' b':Int):
  (do eqGuard .eql ty x y (.agg #[.int k a,.int l b]) (.agg #[.int k a',.int l b']);binOp .eql ty (.agg #[.int k a,.int l b]) (.agg #[.int k a',.int l b']):Sem Value).run P w=.ok (.bool<|a==a'&&b==b') w∧
  (do eqGuard .neq ty x y (.agg #[.int k a,.int l b]) (.agg #[.int k a',.int l b']);binOp .neq ty (.agg #[.int k a,.int l b]) (.agg #[.int k a',.int l b']):Sem Value).run P w=.ok (.bool (!(a==a'&&b==b'))) w:=by
 have e:=h;unfold TyD.two at e;split at e
 ·have⟨i,z,A,_,_,_,_,j,c,_,B⟩:=s;have⟨C,m,n⟩:=B h;have⟨L⟩:=A;rcases L with _|⟨f,_|⟨g,_|⟨R,L⟩⟩⟩
  ·simp at c
  ·simp at c
  rotate_left
  ·simp at c
  simp only[AM,CZ,Ds,Cq,and_true]at c;have⟨⟨D,_⟩,F,_⟩:=c;have⟨H,I,o⟩:=n f (by simp);have⟨J,K,p⟩:=n g (by simp);have q:P.fieldsOf ty= #[f,g]:=by unfold Program.fieldsOf;rw[j]
  have r:(Op.equalIn 10000 ty (.agg #[.int k a,.int l b])<|.agg #[.int k a',.int l b']).run P w=.ok (a==a'&&b==b') w:=by
   rw[run_equalIn_struct w 9999 ty _ _ (by rw[q];exact j) C,q];have M:∀(u v:Value),(part f.type #[u,v] f.offset).run P w=.ok u w:=λu v=>by rw[D];simp[part,Go.isAgg,Bw o]
   have N:∀(u v:Value),(part g.type #[u,v] g.offset).run P w=.ok v w:=λu v=>by rw[F];simp[part,Go.isAgg,Bw p]
   have O:=λx y=>run_equalIn_int (P:=P) w 9998 f.type k I x y o
   have Q:=λx y=>run_equalIn_int (P:=P) w 9998 g.type l K x y p
   simp only[Op.eqFields,ne_eq,H,J,not_false_eq_true,Fl,A8,M,AU,O];cases a==a' with
   |false=>simp
   |true=>simp only[An,Ct,Dv,A8,N,AU,Q];cases b==b'<;>simp
  constructor
  ·rw[A8,run_eqGuard_agg w .eql ty x y _ _ m,AU,run_eql_struct,r];rfl
  ·rw[A8,run_eqGuard_agg w .neq ty x y _ _ m,AU,run_neq_struct,r];rfl
 ·cases e
def x5(op:BinOp)(ty:TypeId)(x y:Operand){h c2:V}{i j:Value}{b1 b2:zN}(e:Cr P w St t h i b1)(f:Cr P w St t c2 j b2){d:Option TyD}(m:∀x,d=some x->Ng P ty x)(c:jr d op h c2):
  ∃v,(do eqGuard op ty x y i j;binOp op ty i j:Sem Value).run P w=.ok v w∧Cr P w St t (n7 op h c2) v []:=by
 unfold jr at c;split at c
 case h_1|h_2=>obtain rfl:=G2 e;obtain rfl:=G2 f;exact⟨_,by simp[eqGuard,binOp,Op.shift,Int.not_lt.2 c],Ra _ _⟩
 case h_3|h_4=>obtain rfl:=G2 e;obtain rfl:=G2 f;obtain⟨rfl,o⟩:=c;exact⟨_,by simp[eqGuard,binOp,Op.intDiv,o],Ra _ _⟩
 case h_5 s u=>
  obtain⟨rfl,p⟩:=RP e;obtain⟨rfl,q⟩:=RP f;refine⟨.string ⟨(s++u).toArray⟩,?_,oY<|by rw[Au];exact Ba c⟩;have r:¬IntKind.i64.max < ((s.length+u.length:Nat):Int):=by have:IntKind.i64.max=9223372036854775807:=rfl;unfold lim at *;rw[this];exact Int.not_lt.2 (by omega)
  have e:(⟨s.toArray⟩:ByteArray)++⟨u.toArray⟩=⟨(s++u).toArray⟩:=by apply OT;simp
  simp only[eqGuard,binOp,Op.stringOp,ByteArray.size,IZ,e,GT.gt,r,Dv];simp
 case h_6=>
  obtain rfl:=G2 e;obtain rfl:=G2 f;subst c
  cases op<;>first
   |(refine⟨_,?_,Ra _ _⟩;simp only[eqGuard,binOp,Op.intArith,ne_eq,I1,Dv,A8];rfl)
   |(refine⟨_,?_,Ra _ _⟩;simp only[eqGuard,binOp,ne_eq,I1,Dv,A8];rfl)
   |(refine⟨_,?_,Xj _⟩;simp only[eqGuard,binOp,Op.intCmp,ne_eq,I1,Dv,A8];rfl)
   |(exfalso;simp_all;done)
 case h_7|h_8|h_9|h_10|h_11|h_12=>obtain⟨rfl,p⟩:=RP e;obtain⟨rfl,q⟩:=RP f;exact⟨_,by simp[eqGuard,binOp,Op.stringOp,ByteArray.toList_eq],Xj _⟩
 case h_13|h_14=>
  obtain rfl:=Rj e;obtain rfl:=Rj f;refine⟨_,?_,Xj _⟩;have⟨_,_,_,_,_,_,_,z,n⟩:=m _ c;simp only at n;subst n;have A:∀x y:Bool,(Op.equal ty (.bool x)<|.bool y).run P w=.ok (x==y) w:=λx y=>oq z 9999 x y
  simp[eqGuard,binOp,A]
 case h_15|h_16=>
  unfold AaI at c;split at c
  case h_2=>exact c.elim
  rename_i k a l b B a' C b';obtain⟨rfl,rfl,g⟩:=c;cases d with
  |none=>cases g
  |some d=>
   obtain rfl:=nK e;obtain rfl:=nK f;refine⟨_,?_,Xj _⟩;have:=AaJ (P:=P) (w:=w) (m _ rfl) g x y (k:=k) (l:=l) a b a' b'
   first|exact this.1|exact this.2
 case h_17=>exact c.elim
def Agk(op:UnOp){c:V}{v:Value}{b:zN}(h:Cr P w St t c v b)(a:unC op c):∃u,(Op.unary op v).run P w=.ok u w∧Cr P w St t (unV op c) u []:=by
 unfold unC at a;split at a
 ·obtain rfl:=Rj h;exact⟨_,rfl,Xj _⟩
 ·obtain rfl:=G2 h;exact⟨_,rfl,Ra _ _⟩
 ·exact a.elim
def add_plain(b o j:Nat):(⟨b,o,none⟩:Addr).add j=⟨b,o+j,none⟩:=by
 unfold Addr.add;split
 ·rename_i h;subst h;rfl
 ·rfl
end
def mz(g:Nat):V:=match lays.lookup g with
 |some l=>.adr (l.map λx=>.int x.1 x.2) 0
 |none=>.undef
def vr{g cs off}(h:mz g=.adr cs off):∃l,(g,l)∈lays∧cs=(l.map λx=>.int x.1 x.2)∧off=0:=by
 unfold mz at h;split at h
 ·rename_i l a;injection h with h1 h2
  refine⟨l,?_,h1.symm,h2.symm⟩
  have:∀L:List (Nat×List (IntKind×Int)),L.lookup g=some l->(g,l)∈L:=by
   intro L;induction L with
   |nil=>intro h;cases h
   |cons p L b=>
    intro h;rw[List.lookup_cons]at h;split at h
    ·rename_i e;injection h with h
     have e:=eq_of_beq e;subst h;subst e;exact BH ..
    ·exact A3 _<|b h
  exact this _ a
 ·cases h
def S3{g}:(∀s o,mz g≠.cref s o)∧(∀u,mz g≠.tok u)∧(∀cs,mz g≠.box cs):=by unfold mz;split<;>exact⟨λ_ _ h=>(by cases h),λ_ h=>(by cases h),λ_ h=>(by cases h)⟩
def Nh(σ:PS):Operand->V
 |.tmp s=>match σ s with
  |.box _=>.cref s 0
  |c=>c
 |.global g=>mz g
 |_=>.undef
def getCells(d:TyD)(cs:List V)(off:Nat):V:=
 match d with
 |.st n _ _=>.agg<|((cs.drop off).take n).map VY
 |_=>match cs[off]? with
  |some c=>VY c
  |none=>.undef
def Za(d:TyD)(σ:PS):V->V
 |.cref s off=>match C6 (σ s)with
  |some cs=>getCells d cs off
  |none=>.undef
 |.adr cs off=>getCells d cs off
 |_=>.undef
def Wx(d:TyD)(σ:PS):V->Prop
 |.cref s off=>match C6 (σ s)with
  |some cs=>off+d.size<=cs.length
  |none=>False
 |.adr cs off=>off+d.size<=cs.length
 |_=>False
section
variable {P:Program}{w:World}{St:Nat->Nat->Prop}{t:Nat->Value}
def Ng.isAgg{ty d}(h:Ng P ty d):(isAgg ty).run P w=.ok d.Xy w:=by
 cases d with
 |sc z=>have⟨i,zv,d,_,_,_,_,a,b⟩:=h;cases z<;>simp only at b<;>first|exact b.elim|(subst b;simp[Go.isAgg,Bw a,TyD.Xy];done)|(obtain⟨ps,rs,v,rfl⟩:=b;simp[Go.isAgg,Bw a,TyD.Xy])
 |st n z f=>have⟨i,c,g,_,_,_,_,a,_⟩:=h;simp[Go.isAgg,Bw a,TyD.Xy]
 |sl e es k l=>have⟨i,j,zv,_,_,_,a,_⟩:=h;simp[Go.isAgg,Bw a,TyD.Xy]
def Ng.sizeOf{ty d}(h:Ng P ty d):(Go.sizeOf ty).run P w=.ok d.size w:=by
 cases d with
 |sc z=>have⟨i,zv,d,hi,a,_⟩:=h;simp[Go.sizeOf,typeInfo,hi,a,TyD.size]
 |st n z f=>have⟨i,b,c,hi,a,_⟩:=h;simp[Go.sizeOf,typeInfo,hi,a,TyD.size]
 |sl e es g k=>have⟨i,j,zv,hi,a,_⟩:=h;simp[Go.sizeOf,typeInfo,hi,a,TyD.size]
def Pz.take:∀{cs:List V}{us:List Value}(n:Nat),Pz w St cs us->Pz w St (cs.take n) (us.take n)
 |[],_,n,h=>by rw[show _=[]from h];simp[Pz]
 |c::cs,_,0,h=>by simp[Pz]
 |c::cs,_,n+1,⟨u,a,e,b,d⟩=>by rw[e,Ep,Ep];exact⟨u,a.take n,rfl,b,Pz.take n d⟩
def Pz.drop:∀{cs:List V}{us:List Value}(n:Nat),Pz w St cs us->Pz w St (cs.drop n) (us.drop n)
 |[],_,n,h=>by rw[show _=[]from h];simp[Pz]
 |c::cs,_,0,h=>by simpa using h
 |c::cs,_,n+1,⟨u,a,e,d,b⟩=>by rw[e,List.drop_succ_cons,List.drop_succ_cons];exact Pz.drop n b
def j8{ty d}(m:Ng P ty d){cs:List V}{off:Nat}{us:List Value}{b o:Nat}(h:Pz w St (cs.drop off) us)(r:∀(j:Nat) (u:Value),us[j]? =some u->w.cell? ⟨b,o+j,none⟩=some u)(s:off+d.size<=cs.length)(A:0 < d.size∨d.Xy=true):
  ∃v,(Instr.loadAt ty<|.pointer<|some ⟨b,o,none⟩).run P w=.ok v w∧Ow P w St (getCells d cs off) v []:=by
 have i:=h.length;rw[Bx]at i;cases a:d.Xy with
 |true=>
  cases d with
  |sc z=>cases a
  |sl e es B C=>cases a
  |st n z f=>
   simp only[TyD.size]at s;have x:=Pz.take n h;refine⟨.agg (us.take n).toArray,?_,us.take n,rfl,Bn.wc _ x⟩
   have h:=Fk (P:=P) (w:=w) ⟨b,o,none⟩ (us.take n) (λj v l=>by
    rw[add_plain];rw[DE]at l;split at l
    ·exact r j v l
    ·cases l)
   rw[At,C8 (by omega)]at h;simp[Instr.loadAt,Instr.sureAddr,loadVar,m.isAgg,m.sizeOf,TyD.Xy,TyD.size,h]
 |false=>
  have D:d.size=1:=by cases d<;>first|rfl|cases a
  have k:off < cs.length:=by omega
  have y:(cs.drop off)[0]? =some cs[off]:=by simp[k]
  have⟨u,p,q⟩:=h.get 0 _ y;have g:=r 0 u p;refine⟨u,?_,?_⟩
  ·have c:w.cell? ⟨b,o,none⟩=some u:=by simpa using g
   simp[Instr.loadAt,Instr.sureAddr,loadVar,m.isAgg,a,c]
  ·have:getCells d cs off=VY cs[off]:=by cases d<;>first|(simp only[getCells,Ae k];done)|cases a
   rw[this];exact Ow.Agd q.bJ
end
section
variable {P:Program}{nt:Nat}{base:Bs}{bx:zN}{St:Nat->Nat->Prop}{B:Nat->zN}{hand:zN}{σ:PS}{a:Act}{w:World}
def Aau{t c v bs cs}(e:C6 c=some cs)(h:Cr P w St t c v bs):
  ∃g T b,∃d:Array Value,bh v=some g∧w.heap[g]? =some (.cells d T (0,0))∧Bn P w St cs d.toList b∧bs=g::b∧∀o,¬St g o:=by
 cases c<;>simp only[C6,Ar,reduceCtorEq]at e
 ·subst e;obtain⟨g,T,b,d,rfl,f,i,j,k⟩:=h;exact⟨g,T,b,d,rfl,f,i,j,k⟩
 ·subst e;obtain⟨g,b,d,rfl,f,i,j,k,_⟩:=h;exact⟨g,_,b,d,rfl,f,i,j,k⟩
def fF{t w' c v bs bs'' cs cs' arr arr' T g}(j:C6 c=some cs)(h:Cr P w St t c v bs)(i:bh v=some g)(n:w.heap[g]? =some (.cells arr T (0,0)))
  (d:w'.heap[g]? =some (.cells arr' T (0,0))) (m:Bn P w' St cs' arr'.toList bs'') (e:∀o,¬St g o) (p:cs'.length=cs.length):Cr P w' St t (VT c cs') v (g::bs''):=by
 cases c<;>simp only[C6,Ar,reduceCtorEq]at j
 ·subst j;obtain⟨k,y,l,f,rfl,b,q,r,s⟩:=h;simp only[bh,Ar]at i;subst i;exact⟨k,T,bs'',arr',rfl,d,m,rfl,e⟩
 ·subst j;obtain⟨k,l,f,rfl,b,q,r,s,u,x⟩:=h;simp only[bh,Ar]at i;subst i;rw[n]at b;injection b with b
  injection b with _ b
  subst b;exact⟨k,bs'',arr',rfl,d,m,rfl,e,u,p.trans x⟩
def SE(h:HSim P nt bx base St B hand σ a w){x:Operand}{s off:Nat}{cs:List V}(e:Nh σ x=.cref s off)(t:C6 (σ s)=some cs):
  ∃g T b,∃c:Array Value,a.eval x=.pointer (some ⟨g,off,none⟩)∧bh (tm a s)=some g∧w.heap[g]? =some (.cells c T (0,0))∧Bn P w St cs c.toList b∧B s=g::b∧∀o,¬St g o:=by
 have⟨g,T,b,c,i,l,m,n,p⟩:=Aau t<|h.slot s;cases x with
 |tmp q=>
  simp only[Nh]at e;split at e
  ·rename_i cs' k;simp only[V.cref.injEq]at e;obtain⟨rfl,rfl⟩:=e;have j:=h.slot q;rw[k]at j;have⟨r,_,_,_,d,_⟩:=j;rw[d]at i;simp only[bh,Ar]at i;subst i;exact⟨r,T,b,c,d,by rw[d];rfl,l,m,n,p⟩
  ·have j:=h.slot q;rw[e]at j;have⟨_,r,d,u⟩:=j;rw[i]at d;injection d with d
   subst d;exact⟨g,T,b,c,u,i,l,m,n,p⟩
 |const v=>cases e
 |global g=>exact absurd e<|S3.1 _ _
 |func f=>cases e
def jl(h:HSim P nt bx base St B hand σ a w){x:Operand}{cs:List V}{off:Nat}(e:Nh σ x=.adr cs off):∃b o,a.eval x=.pointer (some ⟨b,o,none⟩)∧Dp w St b o (cs.drop off):=by
 cases x with
 |tmp q=>
  simp only[Nh]at e;split at e
  ·cases e
  ·have d:=h.slot q;rw[e]at d;have⟨_,b,o,m,n⟩:=d;exact⟨b,o,m,n⟩
 |const v=>cases e
 |global g=>
  obtain⟨l,p,rfl,rfl⟩:=vr e;have⟨r,s⟩:=h.gl _ p;refine⟨g,0,rfl,?_⟩;rw[Jw]
  have c:∀(l:List (IntKind×Int)) (j:Nat),(∀i x,l[i]? =some x->w.cell? ⟨g,j+i,none⟩=some (.int x.1 x.2))->Dp w St g j (l.map λx=>.int x.1 x.2):=by
   intro l;induction l with
   |nil=>intro j _;exact trivial
   |cons x l t=>exactλj k=>⟨⟨r j,_,by simpa using k 0 x rfl,rfl⟩,t (j+1) λi y u=>by have:=k (i+1) y (by rw[D1];exact u);rw[show j+1+i=j+(i+1)by omega];exact this⟩
  exact c l 0 (λi x z=>by rw[CH];exact s i x z)
 |func f=>cases e
def vK(h:HSim P nt bx base St B hand σ a w){ty:TypeId}{d:TyD}(hd:Ng P ty d){x:Operand}(hc:Wx d σ (Nh σ x)):
  ∃v,(Instr.loadAt ty<|a.eval x).run P w=.ok v w∧Ow P w St (Za d σ<|Nh σ x) v []:=by
 have hp:0 < d.size∨d.Xy=true:=by cases d<;>first|exact .inl (Nat.zero_lt_one)|exact .inr rfl
 cases e:Nh σ x with
 |cref s off=>
  rw[e]at hc;simp only[Wx]at hc;simp only[Za];split at hc
  ·rename_i cs hs;have⟨g,T,bs',arr,h1,h2,h3,h4,h5,h6⟩:=SE h e hs;rw[h1];refine j8 hd (us:=arr.toList.drop off) ((Bn.rdL cs h4).drop off) (λj u hu=>?_) hc hp;rw[Do]at hu;simpa[World.cell?,h3]using hu
  ·exact hc.elim
 |adr cs off=>rw[e]at hc;simp only[Wx]at hc;simp only[Za];have⟨b,o,h1,h2⟩:=jl h e;have⟨us,h3,h4⟩:=h2.list;rw[h1];exact j8 hd h3 h4 hc hp
 |_=>rw[e]at hc;exact hc.elim
def tokF(off:Nat):Value->V
 |.pointer (some ⟨g,o,none⟩)=>.tok<|.pointer<|some ⟨g,o+off,none⟩
 |_=>.undef
def rD(off:Nat)(u:Value):C6 (tokF off u)=none∧D3 (tokF off u)=none:=by unfold tokF;split<;>exact⟨rfl,rfl⟩
def yX:Value->Bool
 |.pointer (some ⟨_,_,none⟩)=>true
 |_=>false
def faV(off:Nat):V->V
 |.tok u=>tokF off u
 |.cref s o=>.cref s<|o+off
 |.adr cs o=>.adr cs<|o+off
 |_=>.undef
def faC(σ:PS):V->Prop
 |.cref s _=>∃cs,C6 (σ s)=some cs
 |.adr _ _=>True
 |.tok u=>yX u=true
 |_=>False
def qG{u}(h:yX u=true):∃g o,u=.pointer (some ⟨g,o,none⟩):=by
 unfold yX at h;split at h
 ·exact⟨_,_,rfl⟩
 ·cases h
def ZD(h:HSim P nt bx base St B hand σ a w){x:Operand}{u:Value}(b:Nh σ x=.tok u):a.eval x=u:=by
 cases x with
 |tmp s=>
  have c:σ s=.tok u:=by
   unfold Nh at b;simp only at b;split at b
   ·cases b
   ·exact b
  have:=h.slot s;rw[c]at this;exact this.2.1
 |global g=>exact absurd b<|S3.2.1 _
 |_=>cases b
def sn(h:HSim P nt bx base St B hand σ a w){ty:TypeId}{n:Nat}{z:List V}{D:List (Nat×Nat)}(I:Ng P ty (.st n z D)){f off F:Nat}(r:D[f]? =some (off,F)){x:Operand}(l:faC σ (Nh σ x)):
  ∃v,(Instr.fieldAt ty (a.eval x) f).run P w=.ok v w∧Cr P w St (tm a) (faV off<|Nh σ x) v []:=by
 have⟨i,J,K,_,_,_,_,L,t,m,_⟩:=I
 have M:∃d,K[f]? =some d∧d.offset=off∧Ub P d.type=F:=by
  rw[<-t,BP]at r;have⟨d,p,k⟩:=B5.1 r;injection k with k h3
  exact⟨d,by simpa using p,k,h3⟩
 obtain⟨d,y,rfl,A⟩:=M;have q:0 < Ub P d.type:=by rw[A];exact m _<|B3 r
 obtain⟨j,N,C⟩:∃j,P.info? d.type=some j∧j.size≠0:=by
  unfold Ub at q;cases hi:P.info? d.type with
  |none=>rw[hi]at q;simp at q
  |some j=>rw[hi]at q;exact⟨j,rfl,by simp at q;omega⟩
 have c:∀b o,(Instr.fieldAt ty (.pointer<|some ⟨b,o,none⟩) f).run P w=.ok (.pointer<|some ⟨b,o+d.offset,none⟩) w:=by intro b o;simp[Instr.fieldAt,Bw L,y,Instr.sureAddr,fieldPlace,Go.sizeOf,typeInfo,N,C,add_plain]
 cases e:Nh σ x with
 |cref s o=>rw[e]at l;have⟨cs,O⟩:=l;have⟨g,T,Q,H,p,k,_⟩:=SE h e O;rw[p];exact⟨_,c _ _,rfl,g,k,rfl⟩
 |adr cs o=>have⟨b,R,p,k⟩:=jl h e;rw[p];refine⟨_,c _ _,rfl,b,_,rfl,?_⟩;rw[<-Gx];exact k.drop _
 |tok u=>rw[e]at l;obtain⟨g,o,rfl⟩:=qG l;rw[ZD h e];exact⟨_,c _ _,rfl,rfl,rfl⟩
 |_=>rw[e]at l;exact l.elim
def rv{e n cs v bs t c}(b:c=.own e n cs∨c=.dat n cs)(h:Cr P w St t c v bs):Rd w St (.dat n cs) v:=by
 rcases b with rfl|rfl
 ·have:=Ow.rd (.own e n cs) (show Ow P w St (.own e n cs) v bs from h) rfl;simp only[Rd]at this⊢;exact this
 ·exact Ow.rd (.dat n cs) (show Ow P w St (.dat n cs) v bs from h) rfl
def LJ:V->Option (Nat×List V)
 |.own _ n cs=>some (n,cs)
 |.dat n cs=>some (n,cs)
 |.arg n cs=>some (n,cs)
 |.pin _ n cs=>some (n,cs)
 |_=>none
def MK{t c v bs n cs}(hc:LJ c=some (n,cs))(h:Cr P w St t c v bs):Rd w St (.dat n cs) v:=by
 cases c<;>simp only[LJ,Ar,Cq,reduceCtorEq]at hc
 ·obtain⟨rfl,rfl⟩:=hc;exact rv (.inl rfl) h
 ·obtain⟨rfl,rfl⟩:=hc;exact rv (e:=0) (.inr rfl) h
 ·obtain⟨rfl,rfl⟩:=hc;have⟨_,hn,A,c,e,hc,h,h0⟩:=h;exact⟨hn,A,c,e,hc,λhp=>let⟨b,off,ea,_,hr⟩:=h hp;⟨b,off,ea,hr⟩,h0⟩
 ·obtain⟨rfl,rfl⟩:=hc;exact h.2.2
def R6:V->Option Int
 |.int _ n=>some n
 |_=>none
def Zt{t c v bs i}(b:R6 c=some i)(h:Cr P w St t c v bs):∃k,v=.int k i:=by
 cases c<;>simp only[R6,Ar,reduceCtorEq]at b
 subst b;exact⟨_,G2 h⟩
def iaV(es:Nat)(x i:V):V:=match LJ x,R6 i with
 |some (_,cs),some i=>.adr (cs.drop<|i.toNat * es) 0
 |_,_=>.undef
def iaC(x i:V):Prop:=match LJ x,R6 i with
 |some (n,_),some i=>0<=i∧i < n
 |_,_=>False
def oO{t ty e es eb ez}(m:Ng P ty (.sl e es eb ez)){c d:V}{v u:Value}{b1 b2:zN}(o:Cr P w St t c v b1)(p:Cr P w St t d u b2)(g:iaC c d):
  ∃r,(Instr.indexAt ty v u).run P w=.ok r w∧Cr P w St t (iaV es c d) r []:=by
 have⟨i,j,zv,_,_,_,q,s,_,h,_⟩:=m;unfold iaC at g;split at g
 ·rename_i n cs x l hi;obtain⟨C,A,y,rfl,_,f,_⟩:=MK l o;obtain⟨k,rfl⟩:=Zt hi p;obtain⟨b,off,rfl,z⟩:=f (by omega);simp only[iaV,l,hi];refine⟨.pointer<|some ⟨b,off+x.toNat * es,none⟩,?_,rfl,b,_,rfl,by rw[Jw];exact z.drop _⟩;simp[Instr.indexAt,asIntOf,Bw q,g,Go.sizeOf,typeInfo,s,h,add_plain]
 ·exact g.elim
end
def ti(x i:V):V:=match x,R6 i with
 |.str s,some i=>match s[i.toNat]? with
  |some b=>.int .u8 b.toNat
  |none=>.undef
 |_,_=>.undef
def th(x i:V):Prop:=match x,R6 i with
 |.str s,some i=>0<=i∧i < s.length
 |_,_=>False
def lenV:V->V
 |.str s=>.int .i64 s.length
 |c=>match LJ c with
  |some (n,_)=>.int .i64 n
  |none=>.undef
def sC(d:Option TyD):V->Prop
 |.str _=>d=some (.sc<|.str [])
 |c=>match LJ c,d with
  |some _,some (.sl ..)=>True
  |_,_=>False
def X9(a:Int):Option V->Option Int
 |none=>some a
 |some c=>R6 c
def bC:V->Nat->List V->V
 |.arg _ _,n,cs=>.arg n cs
 |_,n,cs=>.dat n cs
def WA(d:Option TyD)(x:V)(lo hi:Option V):V:=match d,x with
 |some (.sc _),.str s=>match X9 0 lo,X9 s.length hi with
  |some l,some h=>.str<|(s.take h.toNat).drop l.toNat
  |_,_=>.undef
 |some (.sl _ es _ _),x=>match LJ x with
  |some (n,cs)=>match X9 0 lo,X9 n hi with
   |some l,some h=>bC x (h.toNat - l.toNat)<|(cs.take<|h.toNat * es).drop<|l.toNat * es
   |_,_=>.undef
  |none=>.undef
 |_,_=>.undef
def fe(d:Option TyD)(x:V)(lo hi:Option V):Prop:=match d,x with
 |some (.sc<|.str []),.str s=>match X9 0 lo,X9 s.length hi with
  |some l,some h=>0<=l∧l<=h∧h<=s.length
  |_,_=>False
 |some (.sl _ es _ _),x=>match LJ x with
  |some (n,cs)=>match X9 0 lo,X9 n hi with
   |some l,some h=>0<=l∧l<=h∧h<=n∧cs.length=n * es
   |_,_=>False
  |none=>False
 |_,_=>False
def lE:V->UInt8
 |.int _ n=>UInt8.ofNat n.toNat
 |_=>0
def Adh:V->Bool
 |.int .u8 _=>true
 |_=>false
def ia(dd:Option TyD)(x:V):V:=match dd,x with
 |some (.sc<|.int k _),.int _ n=>.int k<|k.wrap n
 |some (.sc<|.str _),x=>match LJ x with
  |some (_,cs)=>.str<|cs.map lE
  |none=>.undef
 |_,_=>.undef
def dz(tb:Tb)(a b:TypeId)(x:V):Prop:=match tb a,tb b,x with
 |some _,some (.sc<|.int _ _),.int _ _=>True
 |some (.sl e _ _ _),some (.sc<|.str _),x=>match LJ x,tb e with
  |some (n,cs),some (.sc<|.int .u8 _)=>cs.length=n∧cs.all Adh=true
  |_,_=>False
 |_,_,_=>False
def mxV(c:Bool)(x y:V):V:=match x,y with
 |.int k a,.int _ b=>.int k (if c then(if a < b then b else a)else(if b < a then b else a))
 |_,_=>.undef
def mxC(x y:V):Prop:=match x,y with
 |.int _ _,.int _ _=>True
 |_,_=>False
section
variable {P:Program}{w:World}{St:Nat->Nat->Prop}{t:Nat->Value}
def Ng.und{ty d}(h:Ng P ty d):∃u,P.underlying ty=some u:=by
 cases d with
 |sc z=>have⟨i,zv,d,_,_,_,_,a,c⟩:=h;exact⟨_,a⟩
 |st n z f=>have⟨i,b,g,_,_,_,_,a,_⟩:=h;exact⟨_,a⟩
 |sl e es k l=>have⟨i,j,zv,_,_,_,a,_⟩:=h;exact⟨_,a⟩
def Ng.str{ty s}(h:Ng P ty (.sc<|.str s)):P.underlying ty=some .string:=by have⟨i,zv,d,_,_,_,_,b,a⟩:=h;rw[b];simp only at a;rw[a]
def Ng.int{ty k n}(h:Ng P ty (.sc<|.int k n)):P.underlying ty=some (.int k):=by have⟨i,zv,d,_,_,_,_,b,a⟩:=h;rw[b];simp only at a;rw[a]
def size_bytes(s:zU):(⟨s.toArray⟩:ByteArray).size=s.length:=by show s.toArray.size=_;simp
def gk(s:zU)(i:Nat):(⟨s.toArray⟩:ByteArray)[i]? =s[i]?:=by
 simp only[getElem?,decidableGetElem?];by_cases h:i < s.length
 ·have a:i < (⟨s.toArray⟩:ByteArray).size:=by simpa[ByteArray.size]using h
  rw[dif_pos a];show some (s.toArray[i]'_)=_;simp[h]
 ·have a:¬i < (⟨s.toArray⟩:ByteArray).size:=by simpa[ByteArray.size]using h
  rw[dif_neg a];simp[h]
def Aat{ty s0}(e:Ng P ty (.sc<|.str s0)){c d:V}{v u:Value}{b1 b2:zN}(f:Cr P w St t c v b1)(g:Cr P w St t d u b2)(b:th c d):
  ∃r,(Instr.index ty v u).run P w=.ok r w∧Cr P w St t (ti c d) r []:=by
 have h:=e.str;unfold th at b;split at b
 ·rename_i s i hi;obtain⟨rfl,_⟩:=RP f;obtain⟨k,rfl⟩:=Zt hi g;have a:i.toNat < s.length:=by omega
  have j:(⟨s.toArray⟩:ByteArray)[i.toNat]? =some s[i.toNat]:=by rw[gk,Ae a]
  simp only[ti,hi,Ae a];exact⟨_,by simp[Instr.index,asIntOf,Bw h,b.1,j],Ra _ _⟩
 ·exact b.elim
def y4{ty rt d}(h:∀x,d=some x->Ng P ty x){c:V}{v:Value}{b1:zN}(k:Cr P w St t c v b1)(b:sC d c):
  ∃r,(Builtin.len_ #[ty] rt #[v]).run P w=.ok r w∧Cr P w St t (lenV c) r []:=by
 unfold sC at b;split at b
 ·rename_i s;obtain⟨rfl,_⟩:=RP k;refine⟨.int .i64 s.length,?_,Ra _ _⟩;have g:=Bw (h _ b).str;simp only[Builtin.len_,A8,List.getElem?_toArray,Ce,g,AU,size_bytes,BA,goInt]
 ·rename_i l;cases a:LJ c with
  |none=>rw[a]at b;exact b.elim
  |some z=>
   have⟨n,cs⟩:=z;rw[a]at b;cases d with
   |none=>exact b.elim
   |some d=>
    cases d with
    |sc z=>exact b.elim
    |st n z f=>exact b.elim
    |sl e es o p=>
     obtain⟨_,A,m,rfl,_⟩:=MK a k;have⟨i,j,zv,_,_,_,g,_⟩:=h _ rfl;have:lenV c=.int .i64 n:=by cases c<;>first|(simp only[LJ,Ar,Cq]at a;simp[lenV,LJ,a.1];done)|cases a
     rw[this];exact⟨_,by simp[Builtin.len_,Bw g,goInt],Ra _ _⟩
def gj(s:zU)(l h:Nat):(⟨s.toArray⟩:ByteArray).extract l h=⟨((s.take h).drop l).toArray⟩:=by apply OT;rw[ByteArray.data_extract];apply Array.ext';rw[Array.toList_extract,List.extract_eq_take_drop,NZ]
def BdR(a i:Int)(v:Option Value):Prop:=(v=none∧i=a)∨∃k,v=some (.int k i)
def pF{lo vl l dflt}(a:X9 dflt lo=some l)(d:∀c,lo=some c->∃v b,vl=some v∧Cr P w St t c v b)(f:lo=none->vl=none):BdR dflt l vl:=by
 cases lo with
 |none=>simp only[X9,Ar]at a;exact .inl ⟨f rfl,a.symm⟩
 |some c=>have⟨v,b,e,h⟩:=d c rfl;obtain⟨k,rfl⟩:=Zt a h;exact .inr ⟨k,e⟩
def dl(c:Bool)(b a:Nat){l h:Int}{vl vh:Option Value}(f:BdR 0 l vl)(g:BdR b h vh)(d:0<=l)(i:l<=h)(e:h<=a):
  (Instr.sliceBounds c b a vl vh none).run P w=.ok (l.toNat,h.toNat,a) w:=by
 rcases f with⟨rfl,rfl⟩|⟨k,rfl⟩<;>rcases g with⟨rfl,rfl⟩|⟨j,rfl⟩
 ·simp[Instr.sliceBounds]
 ·simp[Instr.sliceBounds,Instr.sliceBound,asIntOf,show 0<=h by omega,e]
 ·simp[Instr.sliceBounds,Instr.sliceBound,asIntOf,d,i]
 ·simp[Instr.sliceBounds,Instr.sliceBound,asIntOf,show 0<=h by omega,e,d];intro m;omega
def wu{ty d}(hd:∀x,d=some x->Ng P ty x){c:V}{v:Value}{b1:zN}(h1:Cr P w St t c v b1){lo hi:Option V}{vl vh:Option Value}
  (hlv:∀c,lo=some c->∃v b,vl=some v∧Cr P w St t c v b) (hln:lo=none->vl=none) (hhv:∀c,hi=some c->∃v b,vh=some v∧Cr P w St t c v b) (hhn:hi=none->vh=none) (hc:fe d c lo hi):
  ∃r,(Instr.sliceAt ty v vl vh none).run P w=.ok r w∧Cr P w St t (WA d c lo hi) r []:=by
 unfold fe at hc;split at hc
 ·rename_i s;obtain⟨rfl,hs⟩:=RP h1;have hu:=Bw (P:=P) (hd _ rfl).str w;split at hc
  ·rename_i l h hl hh;have e:=dl (P:=P) (w:=w) false s.length s.length (pF hl hlv hln) (pF hh hhv hhn) hc.1 hc.2.1 hc.2.2;refine⟨.string ⟨((s.take h.toNat).drop l.toNat).toArray⟩,?_,?_⟩
   ·simp[Instr.sliceAt,Instr.slice,hu,size_bytes,e,gj]
   ·simp only[WA,hl,hh];exact oY (by simp;omega)
  ·exact hc.elim
 ·rename_i e es eb ez;cases hsl:LJ c with
  |none=>rw[hsl]at hc;exact hc.elim
  |some z=>
   have⟨n,cs⟩:=z;rw[hsl]at hc;simp only at hc;split at hc
   ·rename_i l h hl hh;obtain⟨hn,A,cap,rfl,hcap,hrow,h0⟩:=MK hsl h1;have⟨i,j,zv,_,_,_,hu,hj,_,hes,_⟩:=hd _ rfl;have hbd:=dl (P:=P) (w:=w) true n cap (pF hl hlv hln) (pF hh hhv hhn) hc.1 hc.2.1 (by omega);have hv:WA (some<|.sl e es eb ez) c lo hi=bC c (h.toNat - l.toNat) ((cs.take<|h.toNat * es).drop<|l.toNat * es):=by cases c<;>simp only[LJ,Ar,Cq,reduceCtorEq]at hsl<;>simp[WA,LJ,hsl,hl,hh]
    rw[hv];refine⟨.slice (if cap=l.toNat then A else A.map (·.add (l.toNat * es))) (h.toNat - l.toNat)<|cap - l.toNat,?_,?_⟩
    ·simp[Instr.sliceAt,Instr.slice,Bw hu,hbd,Go.sizeOf,typeInfo,hj,hes]
    ·have hdat:Rd w St (.dat (h.toNat - l.toNat)<|(cs.take<|h.toNat * es).drop<|l.toNat * es) (.slice (if cap=l.toNat then A else A.map (·.add (l.toNat * es))) (h.toNat - l.toNat)<|cap - l.toNat):=by
      refine⟨BC (by omega) hn,_,_,rfl,by omega,λhp=>?_,λhz=>?_⟩
      ·obtain⟨b,off,rfl,hr⟩:=hrow (by omega);refine⟨b,off+l.toNat * es,by rw[Ay (by omega)];simp[add_plain],?_⟩;rw[NZ];exact(hr.drop _).take _
      ·have:l.toNat=h.toNat:=by omega
       rw[this];simp
     have hother:bC c (h.toNat - l.toNat) ((cs.take<|h.toNat * es).drop<|l.toNat * es)=.dat (h.toNat - l.toNat) ((cs.take<|h.toNat * es).drop<|l.toNat * es)∨c=.arg n cs:=by cases c<;>simp only[LJ,Ar,Cq,reduceCtorEq]at hsl<;>first|exact .inl rfl|(obtain⟨rfl,rfl⟩:=hsl;exact .inr rfl)
     rcases hother with ho|rfl
     ·rw[ho];exact⟨rfl,hdat⟩
     ·have⟨_,_,A',cap',e1,_,hrow',_⟩:=h1;injection e1 with e1 _ _
      subst e1;refine⟨rfl,BC (by omega) hn,_,_,rfl,by omega,λhp=>?_,λhz=>?_⟩
      ·obtain⟨b,off,rfl,hw,hr⟩:=hrow' (by omega);refine⟨b,off+l.toNat * es,by rw[Ay (by omega)];simp[add_plain],λhne=>hw<|λh0=>hne<|by rw[h0];simp,?_⟩;rw[NZ];exact(hr.drop _).take _
      ·have:l.toNat=h.toNat:=by omega
       rw[this];simp
   ·exact hc.elim
 ·exact hc.elim
def y9{rt ts c d v u b1 b2}(b:Cr P w St t c v b1)(e:Cr P w St t d u b2)(a:mxC c d):
  ∃r,(Builtin.max_ ts rt #[v,u]).run P w=.ok r w∧Cr P w St t (mxV true c d) r []:=by
 unfold mxC at a;split at a
 ·obtain rfl:=G2 b;obtain rfl:=G2 e;refine⟨_,?_,Ra _ _⟩;simp[Builtin.max_,Builtin.max2]
 ·exact a.elim
def zb{rt ts c d v u b1 b2}(b:Cr P w St t c v b1)(e:Cr P w St t d u b2)(a:mxC c d):
  ∃r,(Builtin.min_ ts rt #[v,u]).run P w=.ok r w∧Cr P w St t (mxV false c d) r []:=by
 unfold mxC at a;split at a
 ·obtain rfl:=G2 b;obtain rfl:=G2 e;refine⟨_,?_,Ra _ _⟩;simp[Builtin.min_,Builtin.min2]
 ·exact a.elim
def foldl_push(a:zI):∀(s:ByteArray),a.foldl (λr n=>r.push<|UInt8.ofNat n.toNat) s=⟨(s.data.toList++a.map λn=>UInt8.ofNat n.toNat).toArray⟩:=by
 induction a with
 |nil=>intro s;apply OT;simp
 |cons n a b=>intro s;rw[CL,b];apply OT;simp[ByteArray.push]
def u8s:∀{cs:List V},cs.all Adh=true->∃a:zI,cs=a.map (V.int .u8)
 |[],_=>⟨[],rfl⟩
 |c::cs,h=>by
  simp only[By,Aa]at h;obtain⟨a,rfl⟩:=u8s h.2;have b:=h.1;cases c with
  |int k n=>cases k<;>first|exact⟨n::a,rfl⟩|cases b
  |_=>cases b
def wJ:∀{a:zI}{us:List Value},Pz w St (a.map<|V.int .u8) us->us=a.map (Value.int .u8)
 |[],_,h=>h
 |n::a,_,⟨u,b,e,c,d⟩=>by rw[e,AM,wJ d,show u=.int .u8 n from c]
def dA{z c n cs}(h:LJ c=some (n,cs)):ia (some<|.sc<|.str z) c=.str (cs.map lE):=by cases c<;>first|(simp only[ia,h];done)|cases h
def uq{tb}(a:Jr P tb){u l:TypeId}{c:V}{v:Value}{b1:zN}(I:Cr P w St t c v b1)(s:dz tb u l c):
  ∃r,(convert u l v).run P w=.ok r w∧Cr P w St t (ia (tb l) c) r []:=by
 unfold dz at s;split at s
 ·rename_i ds k z R n C x;obtain rfl:=G2 I;have⟨us,m⟩:=(a _ _ C).und;have o:=(a _ _ x).int;rw[x];exact⟨_,by simp[convert,Bw m,Bw o,Conv.intToInt],Ra _ _⟩
 ·rename_i e es S T z C x;split at s
  ·rename_i n cs U y L;have⟨d,B⟩:=s;obtain⟨f,rfl⟩:=u8s B;have⟨i,j,zv,_,_,_,m,_⟩:=a _ _ C;have o:=(a _ _ x).str;have D:=(a _ _ L).int;have F:=MK y I;obtain⟨W,A,p,rfl,J,g,X⟩:=F;rw[Aj]at d;rw[x,dA y];have H:(f.map<|V.int .u8).map lE=f.map λn=>UInt8.ofNat n.toNat:=by simp[EU,Function.comp_def,lE]
   rw[H];refine⟨.string ⟨(f.map λn=>UInt8.ofNat n.toNat).toArray⟩,?_,oY<|by simp;omega⟩
   have q:(Conv.bytesToString<|.slice A n p).run P w=.ok (.string ⟨(f.map λn=>UInt8.ofNat n.toNat).toArray⟩) w:=by
    cases A with
    |none=>
     have Y:n=0:=by
      rcases C1 n with h|h
      ·exact h
      ·have⟨_,_,h,_⟩:=g h;cases h
     have:f=[]:=Bp (by omega);subst this;rfl
    |some M=>
     rcases C1 n with h|h
     ·subst h;have:f=[]:=Bp d;subst this;have:=run_bytesToString (P:=P) w M 0 p [] (by simp[loadCells,loadCellsFrom]);rw[this,foldl_push];simp
     ·have⟨b,off,e,N⟩:=g h;injection e with e
      subst e;have⟨us,O,Q⟩:=N.list;have:=wJ O;subst this;have K:=Fk (P:=P) (w:=w) ⟨b,off,none⟩ (f.map<|Value.int .u8) (λj v H=>by rw[add_plain];exact Q j v H);rw[Aj,d]at K;rw[run_bytesToString (P:=P) w _ n p f K,foldl_push];simp
   simp only[convert,A8,Bw m,Bw o,AU,Bw D,q]
  ·exact s.elim
 ·exact s.elim
end
def AaF(es:Nat):Value->Option Int->V
 |.slice (some ⟨g,0,none⟩) _ _,some i=>.tok<|.pointer<|some ⟨g,i.toNat * es,none⟩
 |_,_=>.undef
def rE:Value->Option Int->Prop
 |.slice (some ⟨_,0,none⟩) n _,some i=>0<=i∧i < n
 |_,_=>False
def iaS(σ:PS)(es:Nat)(x i:V):V:=match x with
 |.tok u=>AaF es u<|R6 i
 |.same s=>match σ s,R6 i with
  |.uni _ _ _,some i=>.cref s<|i.toNat * es
  |_,_=>.undef
 |x=>iaV es x i
def dY(σ:PS)(x i:V):Prop:=match x with
 |.tok u=>rE u<|R6 i
 |.same s=>match σ s,R6 i with
  |.uni _ n _,some i=>0<=i∧i < n
  |_,_=>False
 |x=>iaC x i
def gw(σ:PS)(x:V):V:=match x with
 |.same s=>match σ s with
  |.uni _ n _=>.int .i64 n
  |_=>.undef
 |x=>lenV x
def XZ(d:Option TyD)(σ:PS)(x:V):Prop:=match x with
 |.same s=>match σ s,d with
  |.uni _ _ _,some (.sl ..)=>True
  |_,_=>False
 |x=>sC d x
def mvV(σ:PS):Operand->V
 |.tmp s=>match σ s with
  |.uni _ _ _=>.same s
  |.same b=>.same b
  |.box _=>.cref s 0
  |.cref b o=>.cref b o
  |c=>dg c
 |x=>dg<|CC σ x
def mvC(σ:PS):Operand->Prop
 |.tmp s=>match σ s with
  |.uni _ _ _=>True
  |.same _=>True
  |.box _=>True
  |.cref _ _=>True
  |c=>c.isVal=true
 |x=>(CC σ x).isVal=true
section
variable {P:Program}{nt:Nat}{base:Bs}{bx:zN}{St:Nat->Nat->Prop}{B:Nat->zN}{hand:zN}{σ:PS}{a:Act}{w:World}
def nn(h:HSim P nt bx base St B hand σ a w){s q:Nat}{e:TypeId}{n:Nat}{cs:List V}(f:σ q=.same s)(i:σ s=.uni e n cs):∃g,tm a q=.slice (some ⟨g,0,none⟩) n n∧tm a s=.slice (some ⟨g,0,none⟩) n n:=by have b:=h.slot q;have c:=h.slot s;rw[f]at b;rw[i]at c;have⟨g,_,_,d,_⟩:=c;exact⟨g,by rw[b.2,d],d⟩
def oP(h:HSim P nt bx base St B hand σ a w){ty e:TypeId}{es c:Nat}{f:List V}(l:Ng P ty (.sl e es c f)){s q:Nat}{m:TypeId}{n:Nat}{cs:List V}(o:σ q=.same s)(p:σ s=.uni m n cs){d:V}{i:Int}{u:Value}{b2:zN}(hi:R6 d=some i)(t:Cr P w St (tm a) d u b2)(v:0<=i∧i < n):
  ∃r,(Instr.indexAt ty (tm a q) u).run P w=.ok r w∧Cr P w St (tm a) (.cref s<|i.toNat * es) r []:=by
 have⟨C,j,zv,_,_,_,x,y,_,b,_⟩:=l;have⟨g,z,A⟩:=nn h o p;obtain⟨k,rfl⟩:=Zt hi t;rw[z];refine⟨.pointer<|some ⟨g,0+i.toNat * es,none⟩,?_,rfl,g,by rw[A];rfl,by rw[CH]⟩;simp[Instr.indexAt,asIntOf,Bw x,v,Go.sizeOf,typeInfo,y,b,add_plain]
def oQ{ty e es eb ez}(f:Ng P ty (.sl e es eb ez)){x:Value}{d:V}{u:Value}{b2:zN}{t:Nat->Value}(h:Cr P w St t d u b2)(b:rE x (R6 d)):
  ∃r,(Instr.indexAt ty x u).run P w=.ok r w∧(∃q,AaF es x (R6 d)=.tok q)∧Cr P w St t (AaF es x<|R6 d) r []:=by
 have⟨p,j,zv,_,_,_,l,o,_,c,_⟩:=f;unfold rE at b;split at b
 ·rename_i g n m i hi;obtain⟨k,rfl⟩:=Zt hi h;rw[hi];refine⟨.pointer<|some ⟨g,0+i.toNat * es,none⟩,?_,⟨_,rfl⟩,rfl,by simp,rfl⟩;simp[Instr.indexAt,asIntOf,Bw l,b,Go.sizeOf,typeInfo,o,c,add_plain]
 ·exact b.elim
def vt(h:HSim P nt bx base St B hand σ a w){ty rt e:TypeId}{es b:Nat}{c:List V}(d:Ng P ty (.sl e es b c)){s q:Nat}{f:TypeId}{n:Nat}{cs:List V}(i:σ q=.same s)(k:σ s=.uni f n cs):
  ∃r,(Builtin.len_ #[ty] rt #[tm a q]).run P w=.ok r w∧Cr P w St (tm a) (.int .i64 n) r []:=by
 have⟨p,j,zv,_,_,_,l,t,_,m,_⟩:=d;have⟨g,o,u⟩:=nn h i k;rw[o];exact⟨_,by simp[Builtin.len_,Bw l,goInt],Ra _ _⟩
end
end
section
def Qg(σ:PS):Callee->List Operand->V
 |.builtin .len,[x]=>gw σ<|CC σ x
 |.builtin .max,[x,y]=>mxV true (CC σ x)<|CC σ y
 |.builtin .min,[x,y]=>mxV false (CC σ x)<|CC σ y
 |_,_=>.undef
def Tc(tb:Tb)(σ:PS):Callee->List Operand->List TypeId->Prop
 |.builtin .len,[x],[t]=>XZ (tb t) σ<|CC σ x
 |.builtin .max,[x,y],_=>mxC (CC σ x)<|CC σ y
 |.builtin .min,[x,y],_=>mxC (CC σ x)<|CC σ y
 |_,_,_=>False
def fj(σ:PS)(a b:Operand):V->V
 |.bool q=>if q then dg (CC σ a)else dg (CC σ b)
 |_=>.undef
def fi(σ:PS)(a b:Operand):V->Prop
 |.bool q=>if q then(CC σ a).isVal=true else(CC σ b).isVal=true
 |_=>False
def uN(d:Option TyD)(f:Nat)(x:V):V:=match d with
 |some (.st _ _ a)=>match a[f]? with
  |some (off,_)=>faV off x
  |none=>.undef
 |_=>.undef
def lZ(d:Option TyD)(f:Nat)(σ:PS)(x:V):Prop:=match d with
 |some (.st _ _ a)=>match a[f]? with
  |some _=>faC σ x
  |none=>False
 |_=>False
def oN(d:Option TyD)(σ:PS)(x i:V):V:=match d with
 |some (.sl _ es _ _)=>iaS σ es x i
 |_=>.undef
def oM(d:Option TyD)(σ:PS)(x i:V):Prop:=match d with
 |some (.sl ..)=>dY σ x i
 |_=>False
def Vs(d:Option TyD)(σ:PS)(x:V):V:=match d with
 |some d=>Za d σ x
 |none=>.undef
def Vr(d:Option TyD)(σ:PS)(x:V):Prop:=match d with
 |some d=>Wx d σ x
 |none=>False
def pv(tb:Tb)(σ:PS):Op->V
 |.move x=>mvV σ x
 |.pick c a b=>fj σ a b<|CC σ c
 |.binOp op _ x y _=>n7 op (CC σ x)<|CC σ y
 |.unOp op _ x=>unV op<|CC σ x
 |.convert _ d x=>ia (tb d)<|CC σ x
 |.load t x=>Vs (tb t) σ<|Nh σ x
 |.nilCheck x=>Nh σ x
 |.fieldAddr t x f=>uN (tb t) f<|Nh σ x
 |.indexAddr t x i=>oN (tb t) σ (CC σ x)<|CC σ i
 |.index _ x i=>ti (CC σ x)<|CC σ i
 |.slice t x lo hi none=>WA (tb t) (CC σ x) (lo.map<|CC σ)<|hi.map<|CC σ
 |.call c=>Qg σ c.callee c.args.toList
 |_=>.undef
def pc(tb:Tb)(σ:PS):Op->Prop
 |.move x=>mvC σ x
 |.pick c a b=>fi σ a b<|CC σ c
 |.binOp op t x y _=>jr (tb t) op (CC σ x)<|CC σ y
 |.unOp op _ x=>unC op<|CC σ x
 |.convert s d x=>dz tb s d<|CC σ x
 |.load t x=>Vr (tb t) σ<|Nh σ x
 |.nilCheck x=>faC σ<|Nh σ x
 |.fieldAddr t x f=>lZ (tb t) f σ<|Nh σ x
 |.indexAddr t x i=>oM (tb t) σ (CC σ x)<|CC σ i
 |.index t x i=>tb t=some (.sc<|.str [])∧th (CC σ x) (CC σ i)
 |.slice t x lo hi none=>fe (tb t) (CC σ x) (lo.map<|CC σ)<|hi.map<|CC σ
 |.call c=>Tc tb σ c.callee c.args.toList c.argTypes.toList
 |_=>False
section
variable {P:Program}{nt:Nat}{base:Bs}{bx:zN}{St:Nat->Nat->Prop}{B:Nat->zN}{hand:zN}{σ:PS}{a:Act}{w:World}
def jx(v:Value):Cr P w St (tm a) (cV v) v []:=by
 unfold cV;split
 ·exact Ra _ _
 ·exact Xj _
 ·split
  ·rename_i s h;exact⟨rfl,by cases s;simp,Ba h⟩
  ·rfl
 ·exact⟨rfl,Cd _,none,0,rfl,AJ _,λh=>absurd h (by omega),λ_=>rfl⟩
 ·rfl
def NA(h:HSim P nt bx base St B hand σ a w)(x:Operand):∃b,Cr P w St (tm a) (CC σ x) (a.eval x) b:=by
 cases x with
 |tmp s=>exact⟨_,h.slot s⟩
 |const v=>exact⟨[],jx v⟩
 |global g=>exact⟨[],rfl⟩
 |func f=>exact⟨[],rfl,rfl⟩
def Ow.DS{c v bs}(h:Ow P w St c v bs):C6 c=none∧D3 c=none:=by cases c<;>first|exact⟨rfl,rfl⟩|exact h.elim
def Ow.RN{c v bs}(h:Ow P w St c v bs){p:Nat->Prop}:∀b,D3 c=some b->p b:=λb e=>by rw[h.DS.2]at e;cases e
def Gives(P:Program)(w:World)(St:Nat->Nat->Prop)(σ:PS)(t:Nat->Value)(c:V)(v:Value)(bs:zN):Prop:=
 Cr P w St t c v bs∧C6 c=none∧∀b,D3 c=some b->∃cs,C6 (σ b)=some cs
def Gives.ow{t c v bs}(h:Ow P w St c v bs):Gives P w St σ t c v bs:=⟨h.slot,h.DS.1,h.RN⟩
def Gives.of{t c v bs}(h:Cr P w St t c v bs)(b:c.isVal=true):Gives P w St σ t c v bs:=.ow<|h.ow b
def tW{op d c1 c2}(h:jr d op c1 c2):(n7 op c1 c2).isVal=true:=by
 unfold jr at h;split at h<;>first|rfl|exact h.elim|skip
 cases op<;>first|rfl|(exfalso;simp_all;done)
def AaK{op c}(h:unC op c):(unV op c).isVal=true:=by unfold unC at h;split at h<;>first|rfl|exact h.elim
def s7{d c lo hi}(h:fe d c lo hi):(WA d c lo hi).isVal=true:=by
 unfold fe at h;split at h
 ·split at h
  ·rename_i e f;simp only[WA,e,f];rfl
  ·exact h.elim
 ·cases b:LJ c with
  |none=>rw[b]at h;exact h.elim
  |some z=>
   have⟨n,cs⟩:=z;rw[b]at h;simp only at h;split at h
   ·rename_i l q e f;cases c<;>simp only[LJ,Ar,Cq,reduceCtorEq]at b<;>obtain⟨rfl,rfl⟩:=b<;>simp[WA,bC,LJ,e,f,V.isVal,V.isArg,V.DB]
   ·exact h.elim
 ·exact h.elim
def vu{d c}(h:sC d c):(lenV c).isVal=true:=by cases c<;>first|rfl|exact h.elim
def qQ{b c d}(h:mxC c d):(mxV b c d).isVal=true:=by unfold mxC at h;split at h<;>first|rfl|exact h.elim
def pure_run{tb}(htb:Jr P tb)(h:HSim P nt bx base St B hand σ a w)(o:Oper)(hc:pc tb σ o.op):
  ∃v,(execOp a.eval o).run P w=.ok (.value v) w∧Gives P w St σ (tm a) (pv tb σ o.op) v []:=by
 cases ho:o.op with
 |move x=>
  rw[ho]at hc;have⟨b,hx⟩:=NA h x;refine⟨a.eval x,by simp[execOp,ho],?_⟩;have hval:(CC σ x).isVal=true->Gives P w St σ (tm a) (dg<|CC σ x) (a.eval x) []:=λhc=>.ow<|(hx.ow hc).deg hc
  simp only[pc,pv]at *;cases x with
  |tmp s=>
   cases hs:σ s with
   |uni e n cs=>simp only[mvV,hs];exact⟨⟨rfl,rfl⟩,rfl,λb e=>by simp only[D3,Ar]at e;subst e;exact⟨cs,by rw[hs];rfl⟩⟩
   |same q=>simp only[mvV,hs];have h1:=h.slot s;rw[hs]at h1;exact⟨⟨rfl,h1.2⟩,rfl,λb e=>h.crefs s b<|by rw[hs];exact e⟩
   |box cs=>simp only[mvV,hs];have h1:=h.slot s;rw[hs]at h1;have⟨g,T,bs',arr,e1,_⟩:=h1;exact⟨⟨rfl,g,by rw[e1];rfl,e1⟩,rfl,λb e=>by simp only[D3,Ar]at e;subst e;exact⟨cs,by rw[hs];rfl⟩⟩
   |cref q o'=>simp only[mvV,hs];have h1:=h.slot s;rw[hs]at h1;exact⟨⟨rfl,h1.2⟩,rfl,λb e=>h.crefs s b<|by rw[hs];exact e⟩
   |_=>simp only[mvV,mvC,hs]at hc⊢;have:=hval (by show(σ s).isVal=true;rw[hs];exact hc);rw[show CC σ (.tmp s)=σ s from rfl,hs]at this;exact this
  |const v=>exact hval hc
  |global g=>exact hval hc
  |func f=>exact hval hc
 |pick c x y=>
  rw[ho]at hc;simp only[pc,pv]at *;have⟨b,hcc⟩:=NA h c;have⟨b1,hx⟩:=NA h x;have⟨b2,hy⟩:=NA h y;cases hq:CC σ c with
  |bool q=>
   rw[hq]at hc hcc;have e:=Rj hcc;cases q with
   |true=>exact⟨a.eval x,by simp[execOp,ho,e,asBool],.ow<|(hx.ow hc).deg hc⟩
   |false=>exact⟨a.eval y,by simp[execOp,ho,e,asBool],.ow<|(hy.ow hc).deg hc⟩
  |_=>rw[hq]at hc;exact hc.elim
 |binOp op t x y t'=>rw[ho]at hc;have⟨b1,hx⟩:=NA h x;have⟨b2,hy⟩:=NA h y;have⟨v,hr,hv⟩:=x5 (ty:=t) (x:=x) (y:=y) op hx hy (λd e=>htb _ _ e) hc;refine⟨v,?_,.of hv<|tW hc⟩;simp only[execOp,ho,A8,hr,AU,BA]
 |unOp op t x=>rw[ho]at hc;have⟨b1,hx⟩:=NA h x;have⟨v,hr,hv⟩:=Agk op hx hc;refine⟨v,?_,.of hv<|AaK hc⟩;simp only[execOp,ho,A8,hr,AU,BA]
 |convert s d x=>
  rw[ho]at hc;have⟨b1,hx⟩:=NA h x;have⟨v,hr,hv⟩:=uq htb hx hc;refine⟨v,?_,.of hv ?_⟩
  ·simp only[execOp,ho,A8,hr,AU,BA]
  ·simp only[pc,pv,dz]at hc⊢;split at hc
   ·rename_i hs hd hx;rw[hd,hx];rfl
   ·rename_i hs hd;split at hc
    ·rename_i hsl _;rw[hd,dA hsl];rfl
    ·exact hc.elim
   ·exact hc.elim
 |load t x=>
  rw[ho]at hc;simp only[pc,pv]at *;cases ht:tb t with
  |none=>rw[ht]at hc;exact hc.elim
  |some d=>rw[ht]at hc;have⟨v,hr,hv⟩:=vK h (htb _ _ ht) (x:=x) hc;refine⟨v,?_,.ow hv⟩;simp only[execOp,ho,A8,hr,AU,BA]
 |nilCheck x=>
  rw[ho]at hc;simp only[pc,pv]at *;cases e:Nh σ x with
  |cref s o'=>
   rw[e]at hc;have⟨cs,hs⟩:=hc;have⟨g,T,bs',arr',h1,h2,_⟩:=SE h e hs;refine⟨.pointer<|some ⟨g,o',none⟩,?_,⟨rfl,g,h2,rfl⟩,rfl,λb e=>?_⟩
   ·simp only[execOp,ho,h1];rfl
   ·simp only[D3,Ar]at e;subst e;exact⟨cs,hs⟩
  |adr cs o'=>have⟨b,o2,h1,h2⟩:=jl h e;refine⟨.pointer<|some ⟨b,o2,none⟩,?_,⟨rfl,b,o2,rfl,h2⟩,rfl,λb e=>by cases e⟩;simp only[execOp,ho,h1];rfl
  |tok u=>rw[e]at hc;obtain⟨g,o2,rfl⟩:=qG hc;have h1:=ZD h e;refine⟨.pointer<|some ⟨g,o2,none⟩,?_,⟨rfl,rfl,rfl⟩,rfl,λb e=>by cases e⟩;simp only[execOp,ho,h1];rfl
  |_=>rw[e]at hc;exact hc.elim
 |fieldAddr t x f=>
  rw[ho]at hc;simp only[pc,pv]at *;cases ht:tb t with
  |none=>rw[ht]at hc;exact hc.elim
  |some d=>
   rw[ht]at hc;cases d with
   |sc z=>exact hc.elim
   |sl e es eb ez=>exact hc.elim
   |st n z fs=>
    simp only[lZ,uN]at *;cases hf:fs[f]? with
    |none=>rw[hf]at hc;exact hc.elim
    |some q=>
     have⟨off,sz⟩:=q;rw[hf]at hc;simp only at *;have⟨v,hr,hv⟩:=sn h (htb _ _ ht) hf hc;refine⟨v,?_,hv,?_,?_⟩
     ·simp only[execOp,ho,A8,hr,AU,BA]
     ·cases hx:Nh σ x with
      |tok u=>exact(rD off u).1
      |_=>rfl
     ·intro b e;cases hx:Nh σ x with
      |tok u=>rw[hx]at e;simp only[faV,(rD off u).2]at e;cases e
      |cref s o'=>rw[hx]at e hc;simp only[faV,D3,Ar]at e;subst e;exact hc
      |_=>rw[hx]at e;cases e
 |indexAddr t x i=>
  rw[ho]at hc;simp only[pc,pv]at *;have⟨b1,hx⟩:=NA h x;have⟨b2,hi⟩:=NA h i;cases ht:tb t with
  |none=>rw[ht]at hc;exact hc.elim
  |some d=>
   rw[ht]at hc;cases d with
   |sc z=>exact hc.elim
   |st n z fs=>exact hc.elim
   |sl e es eb ez=>
    simp only[oM,oN]at *;by_cases hsm:∃q,CC σ x=.same q
    ·have⟨q,hq⟩:=hsm;rw[hq]at hc⊢;simp only[dY,iaS]at hc⊢;cases x with
     |tmp p=>
      have hp:σ p=.same q:=hq;split at hc
      ·rename_i e' n cs ix hs hix;have⟨v,hr,hv⟩:=oP h (htb _ _ ht) hp hs hix hi hc;refine⟨v,?_,hv,rfl,λb e=>?_⟩
       ·have e1:a.eval (.tmp p)=tm a p:=rfl;simp only[execOp,ho,A8,e1,hr,AU,BA]
       ·simp only[D3,Ar]at e;subst e;exact⟨cs,by rw[hs];rfl⟩
      ·exact hc.elim
     |const v=>exfalso;simp only[CC,cV]at hq;split at hq<;>(try split at hq)<;>cases hq
     |global g=>cases hq
     |func f=>cases hq
    by_cases htk:∃q,CC σ x=.tok q
    ·have⟨q,hq⟩:=htk;rw[hq]at hc hx⊢;simp only[dY,iaS]at hc⊢;have⟨v,hr,⟨q',hq'⟩,hv⟩:=oQ (htb _ _ ht) hi hc;rw[hq']at hv⊢;refine⟨v,?_,hv,rfl,λb e=>by cases e⟩;have e1:a.eval x=q:=hx.2.1;simp only[execOp,ho,A8,e1,hr,AU,BA]
    have h1:dY σ (CC σ x) (CC σ i)=iaC (CC σ x) (CC σ i):=by
     cases hx':CC σ x with
     |same q=>exact absurd ⟨q,hx'⟩ hsm
     |tok q=>exact absurd ⟨q,hx'⟩ htk
     |_=>rfl
    have h2:iaS σ es (CC σ x) (CC σ i)=iaV es (CC σ x) (CC σ i):=by
     cases hx':CC σ x with
     |same q=>exact absurd ⟨q,hx'⟩ hsm
     |tok q=>exact absurd ⟨q,hx'⟩ htk
     |_=>rfl
    rw[h1]at hc;rw[h2];have⟨v,hr,hv⟩:=oO (htb _ _ ht) hx hi hc
    have hia:∃cs n,iaV es (CC σ x) (CC σ i)=.adr cs n:=by
     unfold iaC at hc;split at hc
     ·rename_i n cs ix hs hi';exact⟨cs.drop<|ix.toNat * es,0,by simp only[iaV,hs,hi']⟩
     ·exact hc.elim
    refine⟨v,?_,hv,?_,?_⟩
    ·simp only[execOp,ho,A8,hr,AU,BA]
    ·have⟨_,_,e'⟩:=hia;rw[e'];rfl
    ·intro b e;have⟨_,_,e'⟩:=hia;rw[e']at e;cases e
 |index t x i=>
  rw[ho]at hc;simp only[pc,pv]at *;have⟨b1,hx⟩:=NA h x;have⟨b2,hi⟩:=NA h i;have⟨v,hr,hv⟩:=Aat (htb _ _ hc.1) hx hi hc.2;refine⟨v,?_,.of hv ?_⟩
  ·simp only[execOp,ho,A8,hr,AU,BA]
  ·have hc2:=hc.2;unfold th at hc2;split at hc2
   ·rename_i s j hs hi';have:j.toNat < s.length:=by omega
    simp only[ti,hs,hi',Ae this];rfl
   ·exact hc2.elim
 |slice t x lo hi mx=>
  rw[ho]at hc;cases mx with
  |some m=>exact hc.elim
  |none=>
   simp only[pc,pv]at *;have⟨b1,hx⟩:=NA h x
   have⟨v,hr,hv⟩:=wu (ty:=t) (d:=tb t) (λd e=>htb _ _ e) hx (lo:=lo.map<|CC σ) (hi:=hi.map<|CC σ) (vl:=lo.map a.eval) (vh:=hi.map a.eval)
    (λc e=>by obtain⟨y,rfl,rfl⟩:=B5.1 e;have⟨b,hy⟩:=NA h y;exact⟨_,b,rfl,hy⟩) (λe=>by cases lo<;>first|rfl|cases e)
    (λc e=>by obtain⟨y,rfl,rfl⟩:=B5.1 e;have⟨b,hy⟩:=NA h y;exact⟨_,b,rfl,hy⟩) (λe=>by cases hi<;>first|rfl|cases e) hc
   refine⟨v,?_,.of hv ?_⟩
   ·simp only[execOp,ho,A8,Option.map_none,hr,AU,BA]
   ·exact s7 hc
 |call c=>
  rw[ho]at hc;simp only[pc,pv]at *;have⟨callee,args,ts⟩:=c;simp only at *;obtain⟨args,rfl⟩:∃l:List Operand,args=l.toArray:=⟨args.toList,by simp⟩;obtain⟨ts,rfl⟩:∃l:List TypeId,ts=l.toArray:=⟨ts.toList,by simp⟩;change Tc tb σ callee args ts at hc;change ∃v,_∧Gives P w St σ (tm a) (Qg σ callee args) v [];unfold Tc at hc;split at hc
  ·rename_i x t;have⟨b1,hx⟩:=NA h x;by_cases hsm:∃q,CC σ x=.same q
   ·have⟨q,hq⟩:=hsm;simp only[Qg];rw[hq]at hc⊢;simp only[XZ,gw]at hc⊢;cases x with
    |tmp p=>
     have hp:σ p=.same q:=hq;split at hc
     ·rename_i e' n cs e es eb ez hs ht;have⟨v,hr,hv⟩:=vt (rt:=o.type) h (htb _ _ ht) hp hs;simp only[hs];refine⟨v,?_,.of hv rfl⟩;have e1:a.eval (.tmp p)=tm a p:=rfl;simp only[execOp,ho,resolve,invoke,builtin,A8,BA,AU,Hz,AM,CZ,e1,hr]
     ·exact hc.elim
    |const v=>exfalso;simp only[CC,cV]at hq;split at hq<;>(try split at hq)<;>cases hq
    |global g=>cases hq
    |func f=>cases hq
   have h1:XZ (tb t) σ (CC σ x)=sC (tb t) (CC σ x):=by cases hx':CC σ x<;>first|rfl|exact absurd ⟨_,hx'⟩ hsm
   have h2:gw σ (CC σ x)=lenV (CC σ x):=by cases hx':CC σ x<;>first|rfl|exact absurd ⟨_,hx'⟩ hsm
   rw[h1]at hc;simp only[Qg,h2];have⟨v,hr,hv⟩:=y4 (rt:=o.type) (λd e=>htb _ _ e) hx hc;refine⟨v,?_,.of hv ?_⟩
   ·simp only[execOp,ho,resolve,invoke,builtin,A8,BA,AU,Hz,AM,CZ,hr]
   ·exact vu hc
  ·rename_i x y;have⟨b1,hx⟩:=NA h x;have⟨b2,hy⟩:=NA h y;have⟨v,hr,hv⟩:=y9 (rt:=o.type) (ts:=ts.toArray) hx hy hc;refine⟨v,?_,.of hv ?_⟩
   ·simp only[execOp,ho,resolve,invoke,builtin,A8,BA,AU,Hz,AM,CZ,hr]
   ·simp only[Qg];exact qQ hc
  ·rename_i x y;have⟨b1,hx⟩:=NA h x;have⟨b2,hy⟩:=NA h y;have⟨v,hr,hv⟩:=zb (rt:=o.type) (ts:=ts.toArray) hx hy hc;refine⟨v,?_,.of hv ?_⟩
   ·simp only[execOp,ho,resolve,invoke,builtin,A8,BA,AU,Hz,AM,CZ,hr]
   ·simp only[Qg];exact qQ hc
  ·exact hc.elim
 |_=>rw[ho]at hc;exact hc.elim
end
end
section
def wQ{P}(w:World)(t ty e:TypeId)(z:Value)(size b:Nat)(J:P.underlying t=some (.slice e))
  (x:(P.info? e).map (λi=>(i.zero,i.size,i.bytes))=some (some z,size,b)) (T:z.cells.size=size) (U:0 < size) (W:0 < b)
  (v:Value) (n:Nat) (xs:List Value) (d:w.ownsRow 0 e size v n xs)
  (vx:Value) (m:Nat) (a:List Value) (F:PA w size vx m a) (h1:∀u∈a,u.oneCell'=true) (l:(n+m) * b<=140737488355328):
  ∃H w',(Builtin.append_ #[t,t] ty #[v,vx]).run P w=.ok H w'∧w'.ownsRow 0 e size H (n+m) (xs++a)∧w.grownBy w' v.ownBlock∧
   (H.ownBlock=v.ownBlock∨H.ownBlock=some w.heap.size)∧∀g,v.ownBlock=some g->∀o,o < n * size->w'.cell? ⟨g,o,none⟩=w.cell? ⟨g,o,none⟩:=by
 have⟨i,hi,K⟩:=B5.1 x;simp only[Cq]at K;have⟨hz,X,hb⟩:=K;have L:n+m<=maxLen:=by have:n+m<=(n+m) * b:=Nat.le_mul_of_pos_right _ W;unfold maxLen;omega
 have Y:=F;obtain⟨A,c,rfl,_⟩:=Y;have⟨M,y,k⟩:=F.drop_at;cases A with
 |none=>
  have hm:=y rfl;subst hm;have hn:a=[]:=Bp (by simpa using M);subst hn;refine⟨v,w,?_,by simpa using d,World.grownBy.refl w _,.inl rfl,λ_ _ _ _=>rfl⟩;rcases d.2 with⟨rfl,rfl⟩|⟨g,r,B,rfl,_,_,N,_⟩
  ·simp[Builtin.append_,Bw J,sizeOf,typeInfo,hi,Builtin.lenOf,Builtin.firstCells]
  ·simp[Builtin.append_,Bw J,sizeOf,typeInfo,hi,Builtin.lenOf,Builtin.firstCells,N,storeCells]
 |some I=>
  have⟨H,w',f,h2,h3,_,h5⟩:=run_append_own_at (P:=P) w 0 t ty e i z size b J hi hz X hb T U v n xs d I m c a M (k I rfl) h1 L l<|Cd _;refine⟨H,w',f,h2,h3,h5,λg Z o ho=>?_⟩;rcases d.2 with⟨rfl,rfl⟩|⟨s,r,B,rfl,_,S,N,hcm,hcs,hx⟩
  ·cases Z
  ·simp only[Value.ownBlock,Ar]at Z;subst Z;have O:w.cell? ⟨s,o,none⟩=xs[o]?:=by simp only[World.cell?,S,Ny,Ct,Dv];rw[<-hx,DE,Aw ho];simp
   by_cases q:n+m<=r
   ·subst X;have Q:n * i.size+a.length<=B.size:=by rw[M,hcs,<-DY];exact Cy _ q
    have F:=run_append_room (P:=P) w t ty e i J hi s n r B S I m c a M (k I rfl) h1 q Q;rw[F]at f;injection f with e1 e2
    subst e1;rcases h2.2 with⟨h,_⟩|⟨g2,cap2,R,C,_,hh2,_,_,_,hx2⟩
    ·cases h
    ·injection C with C e4 e5
     injection C with C
     injection C with C
     subst C;rw[O];simp only[World.cell?,hh2,Ny,Ct,Dv];have h7:(R.toList.take<|(n+m) * i.size)[o]? =(xs++a)[o]?:=by rw[hx2]
     rw[DE,Aw (by rw[DY];omega),BZ (by rw[d.1];exact ho)]at h7;simpa using h7
   ·subst X;have D:∀j u,xs[j]? =some u->w.cell? ((⟨s,0,none⟩:Addr).add j)=some u:=d.cells (g:=s) rfl;have F:=run_append_grow (P:=P) w t ty e i z J hi hz ⟨s,0,none⟩ n r xs d.1 D I m c a M (k I rfl) (by omega) (by unfold maxLen at L;omega)<|growslice_fits (by omega)<|by rw[hb];exact l
    rw[F]at f;injection f with e1 e2
    subst e2
    have hlt:s < w.heap.size:=by
     rcases Bb s w.heap.size with h|h
     ·exact h
     ·rw[HM h]at S;cases S
    exact(((Below.refl w.heap.size w).drew).alloc (AJ _) _).cell (p:=⟨s,o,none⟩) hlt
structure BelowK (K:Nat->Prop) (w w':World):Prop where
 os:w'.os=w.os
 tape:w'.tape=w.tape
 output:w'.output=w.output
 size:w.heap.size<=w'.heap.size
 block:∀k,K k->w'.heap[k]? =w.heap[k]?
def BelowK.refl(K:Nat->Prop)(w:World):BelowK K w w:=⟨rfl,rfl,rfl,AJ _,λ_ _=>rfl⟩
def BelowK.trans{K a b c}(h:BelowK K a b)(k:BelowK K b c):BelowK K a c:=
 ⟨k.os.trans h.os,k.tape.trans h.tape,k.output.trans h.output,BC h.size k.size,λi hi=>(k.block i hi).trans<|h.block i hi⟩
def BelowK.of{K n w w'}(h:Below n w w')(a:∀b,K b->b < n):BelowK K w w':=⟨h.os,h.tape,h.output,h.size,λk c=>h.block k<|a k c⟩
def BelowK.below{K a w w'}(h:BelowK K a w)(c:Below w.heap.size w w')(d:∀b,K b->b < w.heap.size):BelowK K a w':=h.trans<|.of c d
def BelowK.alloc{K a w}(h:BelowK K a w)(d:∀b,K b->b < w.heap.size)(c:Obj):BelowK K a (w.alloc c):=
 h.below ((Below.refl _ _).alloc (AJ _) c) d
def BelowK.grown{K a w w' row}(h:BelowK K a w)(c:w.grownBy w' row)(f:∀b,K b->b < w.heap.size)(g:∀k,row=some k->¬K k):BelowK K a w':=
 h.trans ⟨c.os,c.tape,c.output,c.size,λk d=>c.block k (f k d)<|λe=>g k e.symm d⟩
def Y5{K:Nat->Prop}{w:World}(a:∀b,K b->b < w.heap.size)(c:Obj):∀b,K b->b < (w.alloc c).heap.size:=λb d=>by have:=a b d;simp;omega
def SZ{K:Nat->Prop}{w w':World}(a:∀b,K b->b < w.heap.size)(h:w.heap.size<=w'.heap.size):∀b,K b->b < w'.heap.size:=λb c=>Bz (a b c) h
def vq{K:Nat->Prop}{n:Nat}(a:∀b,K b->b < n):¬K n:=λh=>J6 _<|a _ h
def Rel(P:Program)(nt:Nat)(bx:zN)(base:Bs)(St0:Nat->Nat->Prop)(d:World)(σ:PS)(a:Act)(w:World):Prop:=
 ∃c B,HSim P nt bx base c B [] σ a w∧BelowK base.K d w∧(∀b o,base b->(c b o↔St0 b o))∧∀b,base b->b < w.heap.size
def V5(P:Program)(nt:Nat)(bx:zN)(base:Bs)(St0:Nat->Nat->Prop)(b:World)(o:Oper)(σ:PS)(K:PS->Prop):Prop:=
 ∀a w Q,Rel P nt bx base St0 b σ a w->o.wp P a w (λa' w'=>∃σ',K σ'∧Rel P nt bx base St0 b σ' a' w') Q
section
variable {P:Program}{nt:Nat}{base:Bs}{bx:zN}{St St' St0:Nat->Nat->Prop}{B:Nat->zN}{hand:zN}{σ:PS}{a:Act}{w w' w0:World}{K:PS->Prop}{Q:Exit->Act->World->Prop}{o:Oper}
def HSim.grow(h:HSim P nt bx base St B hand σ a w)(f:Below w.heap.size w w')(c:∀b o,b < w.heap.size->(St' b o↔St b o))(d:∀b o,St' b o->b < w'.heap.size):HSim P nt bx base St' B hand σ a w':=
 h.world (λb o e=>(c b o<|h.st b o e).2 e) (λb o e=>f.cell (p:=⟨b,o,none⟩)<|h.st b o e) f.size (λs g i=>⟨f.block g (h.range s g i).2,λo=>c g o (h.range s g i).2⟩) d
def JK{K' v}(b:(execOp a.eval o).run P w=.ok (.value v) w')(c:K' (a.put o.dst v) w'):o.wp P a w K' Q:=by unfold Oper.wp;rw[b];exact c
def pz{K'}(b:(execOp a.eval o).run P w=.ok .skip w')(c:K' (a.put o.dst undef) w'):o.wp P a w K' Q:=by unfold Oper.wp;rw[b];exact c
def eY{tb}(b:Jr P tb){d:Nat}(f:o.dst=some d)(g:d < nt)(i:d∉bx)(j:pc tb σ o.op)(k:K (upd σ d<|pv tb σ o.op)):V5 P nt bx base St0 w0 o σ K:=by rintro a w Q ⟨St,B,h,l,c,m⟩;have⟨v,n,p,q,e⟩:=pure_run b h o j;refine JK n ⟨_,k,St,upd B d [],?_,l,c,m⟩;rw[f];exact h.put g i p AP (by simp) q e
def C5(σ:PS):Operand->PS
 |.tmp s=>upd σ s<|dg<|σ s
 |_=>σ
def VD(h:HSim P nt bx base St B hand σ a w)(x:Operand)(b:(CC σ x).isVal=true):
  ∃bs B',Ow P w St (CC σ x) (a.eval x) bs∧HSim P nt bx base St B' (hand++bs) (C5 σ x) a w∧(hand++bs).Nodup:=by
 cases x with
 |tmp s=>have⟨d,c⟩:=h.take s b;exact⟨B s,_,d,c,c.hnodup⟩
 |const v=>exact⟨[],B,(jx (a:=a) v).ow b,by simpa[C5]using h,by simpa using h.hnodup⟩
 |global g=>cases b
 |func f=>exact⟨[],B,⟨rfl,rfl⟩,by simpa[C5]using h,by simpa using h.hnodup⟩
theorem eZ{x:Operand}{d:Nat}(hop:o.op=.assign x∨o.op=.move x)(ho:o.dst=some d)(hd:d < nt)(hx:d∉bx)(hv:(CC σ x).isVal=true)(hk:K (upd (C5 σ x) d (CC σ x))):V5 P nt bx base St0 w0 o σ K:=by
 rintro a w Q ⟨St,B,h,hb,hst,hz⟩
 obtain⟨bs,B',h1,h2,h3⟩:=VD h x hv
 have hr:(execOp a.eval o).run P w=.ok (.value (a.eval x)) w:=by rcases hop with e|e<;>simp[execOp,e]
 refine JK hr ⟨_,hk,St,upd B' d bs,?_,hb,hst,hz⟩
 rw[ho]
 exact h2.put hd hx h1.slot (by simpa using h3) (by simp) h1.DS.1 h1.RN
theorem zG{d:Nat}{e:TypeId}(hop:o.op=.assign (.const (.slice none 0 0))∨o.op=.move (.const (.slice none 0 0)))(ho:o.dst=some d)(hd:d < nt)(hx:d∉bx)(hk:K (upd σ d (.own e 0 []))):V5 P nt bx base St0 w0 o σ K:=by
 rintro a w Q ⟨St,B,h,hb,hst,hz⟩
 have hr:(execOp a.eval o).run P w=.ok (.value (.slice none 0 0)) w:=by rcases hop with e|e<;>simp[execOp,e,Act.eval]
 refine JK hr ⟨_,hk,St,upd B d [],?_,hb,hst,hz⟩
 rw[ho]
 have hw:Ow P w St (.own e 0 []) (.slice none 0 0) []:=⟨Cd _,[],[],L9 _ _ _ _,⟨rfl,rfl⟩,rfl,(λg hg=>by cases hg),λ_=>rfl⟩
 exact h.put hd hx hw.slot AP (by simp) hw.DS.1 hw.RN
theorem wo{d:Nat}(hop:o.op=.assign (.const (.pointer none))∨o.op=.move (.const (.pointer none)))(ho:o.dst=some d)(hd:d < nt)(hx:d∉bx)(hk:K (upd σ d .undef)):V5 P nt bx base St0 w0 o σ K:=by
 rintro a w Q ⟨St,B,h,hb,hst,hz⟩
 have hr:(execOp a.eval o).run P w=.ok (.value (.pointer none)) w:=by rcases hop with e|e<;>simp[execOp,e,Act.eval]
 refine JK hr ⟨_,hk,St,upd B d [],?_,hb,hst,hz⟩
 rw[ho]
 exact h.put hd hx (c:=.undef) rfl AP (by simp) rfl (λb e=>by cases e)
def LK.split:∀(cs:List V) (i:Nat) {us:List Value}{bs:zN}{c:V},LK P w St cs us bs->cs[i]? =some c->cs.all V.isArg=true->bs.Nodup->∃u b1 b2,us[i]? =some u∧Ow P w St c u b1∧LK P w St (cs.set i<|dg2 c) us b2∧b1.Nodup∧b2.Nodup∧(∀g∈b1,g∈bs)∧(∀g∈b2,g∈bs)∧∀g∈b1,g∉b2
 |[],i,_,_,_,_,e,_,_=>by simp at e
 |d::cs,0,_,_,c,⟨u,j,b1,b2,l,q,p,r⟩,e,m,n=>by simp only[Ce,Ar]at e;subst e;simp only[By,Aa]at m;rw[q]at n⊢;have b:=AA.1 n;refine⟨u,b1,b2,by rw[l];rfl,p,⟨u,j,[],b2,l,rfl,p.Nd m.1,r⟩,b.1,b.2.1,λg f=>AF _ f,λg f=>Az _ f,λg f k=>b.2.2 g f g k rfl⟩
 |d::cs,i+1,_,_,c,⟨u,j,b1,b2,l,q,p,r⟩,e,m,n=>by
  simp only[By,Aa]at m;rw[q]at n⊢;have b:=AA.1 n;obtain⟨x,t,c2,v,z,A,C,D,s1,s2,F⟩:=LK.split cs i r (by simpa using e) m.2 b.2.1;refine⟨x,t,b1++c2,by rw[l];simpa using v,z,⟨u,j,b1,c2,l,rfl,p,A⟩,C,?_,λg f=>Az _<|s1 g f,λg f=>?_,λg f k=>?_⟩
  ·exact AA.2 ⟨b.1,D,λx H y I s=>b.2.2 x H y (s2 y I) s⟩
  ·rcases Ak.1 f with h|h
   ·exact AF _ h
   ·exact Az _<|s2 g h
  ·rcases Ak.1 k with h|h
   ·exact b.2.2 g h g (s1 g f) rfl
   ·exact F g f h
def HSim.part(h:HSim P nt bx base St B hand σ a w)(s:Nat)(hold:C6 (σ s)=none){c:V}{b1 b2:zN}(hc:Cr P w St (tm a) c (tm a s) b2)(hnb:C6 c=none)(hcr:D3 c=none)
  (n1:b1.Nodup) (n2:b2.Nodup) (s1:∀g∈b1,g∈B s) (s2:∀g∈b2,g∈B s) (hap:∀g∈b1,g∉b2):HSim P nt bx base St (upd B s b2) (hand++b1) (upd σ s c) a w:=by
 have hB:∀q,∀g∈upd B s b2 q,g∈B q:=by
  intro q g hg;by_cases e:q=s
  ·subst e;rw[upd_same]at hg;exact s2 g hg
  ·rw[upd_ne _ _ e]at hg;exact hg
 exact
 {h with
  slot:=λq=>by
   by_cases e:q=s
   ·subst e;rw[upd_same,upd_same];exact hc
   ·rw[upd_ne _ _ e,upd_ne _ _ e];exact h.slot q
  boxes:=λq cs e=>by
   by_cases eq:q=s
   ·subst eq;rw[upd_same,hnb]at e;cases e
   ·rw[upd_ne _ _ eq]at e;exact h.boxes q cs e
  crefs:=λq b e=>by
   by_cases eq:q=s
   ·subst eq;rw[upd_same,hcr]at e;cases e
   ·rw[upd_ne _ _ eq]at e;have⟨cs,hcs⟩:=h.crefs q b e;refine⟨cs,?_⟩;rw[upd_ne _ _ (λeb=>by subst eb;rw[hold]at hcs;cases hcs)];exact hcs
  nodup:=λq=>by
   by_cases e:q=s
   ·subst e;rw[upd_same];exact n2
   ·rw[upd_ne _ _ e];exact h.nodup q
  apart:=λq r hqr g hg hg'=>h.apart q r hqr g (hB q g hg)<|hB r g hg'
  hnodup:=AA.2 ⟨h.hnodup,n1,λx hx y hy e=>by subst e;exact h.hapart s x (s1 x hy) hx⟩
  hapart:=λq g hg hm=>by
   rcases Ak.1 hm with hm|hm
   ·exact h.hapart q g (hB q g hg) hm
   ·by_cases e:q=s
    ·subst e;rw[upd_same]at hg;exact hap g hm hg
    ·exact h.apart q s e g (hB q g hg)<|s1 g hm
  range:=λq g hg=>h.range q g<|hB q g hg
  hrange:=λg hg=>by
   rcases Ak.1 hg with hg|hg
   ·exact h.hrange g hg
   ·exact h.range s g (s1 g hg)}
theorem mW{s i d:Nat}(hop:o.op=.extract (.tmp s) i)(ho:o.dst=some d)(hd:d < nt)(hx:d∉bx){cs:List V}{c:V}(hs:σ s=.tup cs)(hi:cs[i]? =some c)(ha:cs.all V.isArg=true)
  (hk:K (upd (upd σ s (.tup (cs.set i (dg2 c)))) d c)):V5 P nt bx base St0 w0 o σ K:=by
 rintro a w Q ⟨St,B,h,hb,hst,hz⟩
 have hsl:=h.slot s
 rw[hs]at hsl
 obtain⟨us,e1,h1⟩:=hsl
 obtain⟨u,b1,b2,h2,h3,h4,n1,n2,s1,s2,ap⟩:=LK.split cs i h1 hi ha (h.nodup s)
 have hr:(execOp a.eval o).run P w=.ok (.value u) w:=by
  have e2:a.eval (.tmp s)=.tuple us.toArray:=e1
  simp[execOp,hop,e2,Instr.extract,h2]
 have h5:=h.part s (by rw[hs];rfl) (c:=.tup (cs.set i (dg2 c))) (b1:=b1) (b2:=b2) ⟨us,e1,h4⟩ rfl rfl n1 n2 s1 s2 ap
 refine JK hr ⟨_,hk,St,upd (upd B s b2) d b1,?_,hb,hst,hz⟩
 rw[ho]
 exact h5.put hd hx h3.slot n1 (by simp) h3.DS.1 h3.RN
def Bn.app:∀{cs ds:List V}{us:List Value}{bs:zN},Bn P w St (cs++ds) us bs->∃b d b1 b2,us=b++d∧bs=b1++b2∧Bn P w St cs b b1∧Bn P w St ds d b2
 |[],ds,us,bs,h=>⟨[],us,[],bs,rfl,rfl,⟨rfl,rfl⟩,h⟩
 |c::cs,ds,us,bs,⟨u,f,b1,b2,g,i,j,k,l⟩=>by have⟨b,d,e,c2,m,n,p,q⟩:=Bn.app l;exact⟨u::b,d,b1++e,c2,by rw[g,m];rfl,by rw[i,n,Bk],⟨u,b,b1,e,rfl,rfl,j,k,p⟩,q⟩
def Bn.join:∀{cs ds:List V}{d b:List Value}{b1 b2:zN},Bn P w St cs d b1->Bn P w St ds b b2->Bn P w St (cs++ds) (d++b) (b1++b2)
 |[],ds,_,b,_,b2,⟨e,f⟩,h=>by subst e f;exact h
 |c::cs,ds,_,b,_,b2,⟨u,g,i,c2,e,f,j,k,l⟩,h=>⟨u,g++b,i,c2++b2,by rw[e];rfl,by rw[f,Bk],j,k,Bn.join l h⟩
def IH:V->List V
 |.agg cs=>cs
 |c=>[c]
def Ow.cells{c v bs}(h:Ow P w St c v bs)(b:c.isArg=true):Bn P w St (IH c) v.cells.toList bs:=by
 have d:∀c:V,c.DB=true->Ow P w St c v bs->Bn P w St [c] v.cells.toList bs:=by
  intro c b h;have e:=(Ow.rd c h b).oneCell;have:v.cells= #[v]:=by cases v<;>first|rfl|cases e
  rw[this];exact⟨v,[],bs,[],rfl,by simp,b,h,rfl,rfl⟩
 cases c<;>first|exact d _ b h|cases b|skip
 obtain⟨us,rfl,h⟩:=h;exact h
def Rf{α:Type}(cs:List α)(off:Nat)(b:List α):List α:=cs.take off++b++cs.drop (off+b.length)
def bD{α:Type}{cs b:List α}{off:Nat}(h:off+b.length<=cs.length):(Rf cs off b).length=cs.length:=by simp[Rf];omega
def kz{α:Type}(cs:List α)(off n:Nat):cs=cs.take off++((cs.drop off).take n++cs.drop (off+n)):=by rw[<-Gx,Bv,Bv]
def HSim.Akm(h:HSim P nt bx base St B hand σ a w){s g:Nat}{cs cs':List V}{c':V}{bs':zN}(hcs:C6 (σ s)=some cs)(hcs':C6 c'=some cs')(hB:B s=g::bs')(hng:∀o,¬St g o)(hkeep:∀k,k≠g->w'.heap[k]? =w.heap[k]?)(hz:w'.heap.size=w.heap.size)
  {bs:zN}{hand':zN}(hc:Cr P w' St (tm a) c' (tm a s) bs)
  (hn:bs.Nodup) (hs:∀g∈bs,g∈B s∨g∈hand) (hn':hand'.Nodup) (hs':∀g∈hand',g∈B s∨g∈hand) (hap:∀g∈bs,g∉hand'):
  HSim P nt bx base St (upd B s bs) hand' (upd σ s c') a w':=by
 have hrf:D3 c'=none:=by cases c'<;>first|rfl|cases hcs'
 have hbox:∀b,(∃cs,C6 (σ b)=some cs)->∃cs'',C6 (upd σ s c' b)=some cs'':=λb ⟨cs,e⟩=>by
  by_cases eb:b=s
  ·subst eb;exact⟨cs',by rw[upd_same];exact hcs'⟩
  ·exact⟨cs,by rw[upd_ne _ _ eb];exact e⟩
 have hout:∀q,q≠s->∀g∈B q,¬(g∈B s∨g∈hand):=λq hq g hg hm=>by
  rcases hm with hm|hm
  ·exact h.apart q s hq g hg hm
  ·exact h.hapart q g hg hm
 refine
 {size:=h.size
  defers:=h.defers
  slot:=λq=>by
   by_cases e:q=s
   ·subst e;rw[upd_same,upd_same];exact hc
   ·rw[upd_ne _ _ e,upd_ne _ _ e];refine(h.slot q).mono (λ_ _ h=>h) (λb o hs=>?_) (λk hk=>⟨hkeep k<|λek=>?_,λ_=>CY⟩)<|λ_ _=>rfl
    ·exact B6<|hkeep b<|λeb=>hng o<|eb ▸ hs
    ·subst ek;exact h.apart q s e k hk (by rw[hB];simp)
  boxes:=λq cs e=>by
   by_cases eq:q=s
   ·subst eq;exact h.boxes _ _ hcs
   ·rw[upd_ne _ _ eq]at e;exact h.boxes q cs e
  crefs:=λq b e=>by
   by_cases eq:q=s
   ·subst eq;rw[upd_same,hrf]at e;cases e
   ·rw[upd_ne _ _ eq]at e;exact hbox b<|h.crefs q b e
  nodup:=λq=>by
   by_cases e:q=s
   ·subst e;rw[upd_same];exact hn
   ·rw[upd_ne _ _ e];exact h.nodup q
  apart:=λq r hqr g hg hg'=>by
   by_cases e:q=s
   ·subst e;rw[upd_same]at hg;rw[upd_ne _ _ (Ne.symm hqr)]at hg';exact hout r (Ne.symm hqr) g hg'<|hs g hg
   ·rw[upd_ne _ _ e]at hg;by_cases e':r=s
    ·subst e';rw[upd_same]at hg';exact hout q e g hg<|hs g hg'
    ·rw[upd_ne _ _ e']at hg';exact h.apart q r hqr g hg hg'
  hnodup:=hn'
  hapart:=λq g hg hm=>by
   by_cases e:q=s
   ·subst e;rw[upd_same]at hg;exact hap g hg hm
   ·rw[upd_ne _ _ e]at hg;exact hout q e g hg<|hs' g hm
  range:=λq g hg=>by
   rw[hz];by_cases e:q=s
   ·subst e;rw[upd_same]at hg;rcases hs g hg with h1|h1
    ·exact h.range _ g h1
    ·exact h.hrange g h1
   ·rw[upd_ne _ _ e]at hg;exact h.range q g hg
  hrange:=λg hg=>by
   rw[hz];rcases hs' g hg with h1|h1
   ·exact h.range _ g h1
   ·exact h.hrange g h1
  st:=λb o hs=>by rw[hz];exact h.st b o hs
  gl:=h.gl.of (λb hb o=>hb o)<|λb o hb=>B6<|hkeep b<|λeb=>hng o<|eb ▸ hb o
  pin:=h.pin}
end
end
section
def S9(d:TyD)(cs:List V)(off:Nat):V:=
 match d with
 |.st n _ _=>.agg<|(cs.drop off).take n
 |_=>match cs[off]? with
  |some c=>c
  |none=>.undef
def Q7(n:Nat)(cs:List V)(off:Nat):List V:=Rf cs off<|((cs.drop off).take n).map VY
section
variable {P:Program}{nt:Nat}{base:Bs}{bx:zN}{St St' St0:Nat->Nat->Prop}{B:Nat->zN}{hand:zN}{σ:PS}{a:Act}{w w' w0:World}{K:PS->Prop}{Q:Exit->Act->World->Prop}{o:Oper}
def take_one{α:Type}{cs:List α}{off:Nat}(h:off < cs.length):(cs.drop off).take 1=[cs[off]]:=by rw[BB h,Ep,List.take_zero]
def kt{tb}(htb:Jr P tb){t:TypeId}{dd:TyD}{x:Operand}{s off d:Nat}{cs:List V}(F:o.op=.load t x)(ht:tb t=some dd)(H:Nh σ x=.cref s off)(W:C6 (σ s)=some cs)(hl:off+dd.size<=cs.length)
  (ho:o.dst=some d) (hd:d < nt) (hx:d∉bx) (hk:K (upd (upd σ s<|VT (σ s)<|Q7 dd.size cs off) d<|S9 dd cs off)):V5 P nt bx base St0 w0 o σ K:=by
 rintro a w Q ⟨St,B,h,hb,hst,hz⟩;have⟨g,T,bs',arr,h1,h2,h3,h4,h5,h6⟩:=SE h H W;have hlc:Wx dd σ (Nh σ x):=by rw[H];simp only[Wx,W];exact hl
 have l:=htb _ _ ht;have e0:=kz cs off dd.size;rw[e0]at h4;have⟨us1,us2,b1,b2,eu,X,r1,r2⟩:=Bn.app h4;have⟨b,us4,I,Y,J,C,L,r4⟩:=Bn.app r2;have l1:us1.length=off:=by rw[r1.length,At,C8 (by omega)]
 have l3:b.length=dd.size:=by rw[L.length,At,Bx,C8 (by omega)]
 have hnd:(g::(b1++(I++Y))).Nodup:=by have:=h.nodup s;rw[h5,X,C]at this;exact this
 have m:∀(j:Nat) (u:Value),b[j]? =some u->w.cell? ⟨g,off+j,none⟩=some u:=by
  intro j u hu
  have Z:j < b.length:=by
   rcases Bb j b.length with h|h
   ·exact h
   ·rw[Bu h]at hu;cases hu
  simp only[World.cell?,h3,Ny,Ct,Dv];have:arr.toList[off+j]? =some u:=by rw[eu,J,BT (by omega),l1,CU,BZ Z];exact hu
  simpa using this
 have M:∃v,(execOp a.eval o).run P w=.ok (.value v) w∧Ow P w St (S9 dd cs off) v I:=by
  cases p:dd.Xy with
  |true=>
   cases dd with
   |sc z=>cases p
   |sl e es X ez=>cases p
   |st n z f=>refine⟨.agg b.toArray,?_,b,rfl,L⟩;have hr:=Fk (P:=P) (w:=w) ⟨g,off,none⟩ b (λj v N=>by rw[add_plain];exact m j v N);simp only[TyD.size]at l3;rw[l3]at hr;simp[execOp,F,h1,Instr.loadAt,Instr.sureAddr,loadVar,l.isAgg,l.sizeOf,TyD.Xy,TyD.size,hr]
  |false=>
   have hs1:dd.size=1:=by cases dd<;>first|rfl|cases p
   have O:off < cs.length:=by omega
   rw[hs1,take_one O]at L;have⟨u,us',c1,c2,e1,e2,hc,q1,q2⟩:=L;obtain⟨rfl,rfl⟩:=q2;have hcl:=m 0 u (by rw[e1];rfl);refine⟨u,?_,?_⟩
   ·have A:w.cell? ⟨g,off,none⟩=some u:=by simpa using hcl
    simp[execOp,F,h1,Instr.loadAt,Instr.sureAddr,loadVar,l.isAgg,p,A]
   ·have:S9 dd cs off=cs[off]:=by cases dd<;>first|(simp only[S9,Ae O];done)|cases p
    rw[this,e2,AR];exact q1
 have⟨v,hr,N⟩:=M
 have R:Cr P w St (tm a) (VT (σ s)<|Q7 dd.size cs off) (tm a s) (g::(b1++Y)):=by
  have S:(Q7 dd.size cs off).length=cs.length:=bD (by rw[Aj,At,Bx,C8 (by omega)];exact hl);refine fF W (h.slot s) h2 h3 h3 ?_ h6 S;have Z:=r1.join<|(Bn.bJ _ L).join r4;rw[BI]at Z;have ll:(((cs.drop off).take dd.size).map VY).length=dd.size:=by rw[Aj,At,Bx,C8 (by omega)]
  unfold Q7 Rf;rw[ll,eu,J,Bk];exact Z
 have r:=BF.1 hnd;have c:=AA.1 r.2;have i:=AA.1 c.2.1
 have U:∀q∈g::(b1++Y),q∈B s∨q∈([]:zN):=by
  intro q k;rw[h5,X,C];simp only[AE,Ak]at *;rcases k with h|h|h
  ·exact .inl<|.inl h
  ·exact .inl<|.inr<|.inl h
  ·exact .inl<|.inr<|.inr<|.inr h
 have hb3:∀q∈I,q∈B s:=by intro q k;rw[h5,X,C];simp only[AE,Ak];exact .inr<|.inr<|.inl k
 have h7:=h.Af0 (hand':=I) W (dq _ _) R (BF.2 ⟨λhm=>r.1 (by
   rcases Ak.1 hm with hm|hm
   ·exact AF _ hm
   ·exact Az _ (Az _ hm)),AA.2 ⟨c.1,i.2.1,λx hx y hy=>c.2.2 x hx y (Az _ hy)⟩⟩) U i.1 (λq k=>.inl (hb3 q k)) (by
  intro q k D;rcases AE.1 k with rfl|k
  ·exact r.1<|Az _<|AF _ D
  ·rcases Ak.1 k with k|k
   ·exact c.2.2 q k q (AF _ D) rfl
   ·exact i.2.2 q D q k rfl)
 refine JK hr ⟨_,hk,St,upd (upd B s<|g::(b1++Y)) d I,?_,hb,hst,hz⟩;rw[ho];exact h7.put hd hx N.slot i.1 (by simp) N.DS.1 N.RN
def xv{y s cs}(b:C6 (σ s)=some cs)(c:(CC σ y).isVal=true):C5 σ y s=σ s:=by
 cases y with
 |tmp q=>
  simp only[C5];by_cases e:s=q
  ·subst e;rw[show CC σ (.tmp s)=σ s from rfl]at c;rw[(VG c).1]at b;cases b
  ·rw[upd_ne _ _ e]
 |_=>rfl
def xu{x y s off}(b:Nh σ x=.cref s off)(c:(CC σ y).isVal=true):Nh (C5 σ y) x=.cref s off:=by
 cases y with
 |tmp q=>
  cases x with
  |tmp p=>
   have d:p≠q:=by
    intro e;subst e;rw[show CC σ (.tmp p)=σ p from rfl]at c;simp only[Nh]at b;split at b
    ·rename_i h;rw[h]at c;cases c
    ·rw[b]at c;cases c
   simp only[C5,Nh]at *;rw[upd_ne _ _ d];exact b
  |_=>exact b
 |_=>exact b
def sY{tb}(htb:Jr P tb){t:TypeId}{dd:TyD}{x y:Operand}{s off:Nat}{cs:List V}(hop:o.op=.store t x y)(ht:tb t=some dd)(hax:Nh σ x=.cref s off)(hs:C6 (σ s)=some cs)
  (Z:(CC σ y).isArg=true) (hn:(IH<|CC σ y).length=dd.size) (hl:off+dd.size<=cs.length) (ho:o.dst=none) (c:K (upd (C5 σ y) s<|VT (σ s)<|Rf cs off<|IH<|CC σ y)):V5 P nt bx base St0 w0 o σ K:=by
 have A:(CC σ y).isVal=true:=by cases h:CC σ y<;>rw[h]at Z<;>first|exact Z|cases Z
 rintro a w Q ⟨St,B,h,hb,hst,hz⟩;have⟨bs,B',hw,v,I⟩:=VD h y A;rw[BI]at v I;have J:=xv hs A;have L:C6 (C5 σ y s)=some cs:=by rw[J];exact hs
 have⟨g,T,bs',m,q1,q2,q3,q4,F,q6⟩:=SE v (xu hax A) L;have M:=htb _ _ ht;have f:=hw.cells Z;have e0:=kz cs off dd.size;rw[e0]at q4;have⟨i,us2,b1,b2,eu,eb,r1,r2⟩:=Bn.app q4;have⟨us3,l,b3,H,N,O,r3,r4⟩:=Bn.app r2;have l1:i.length=off:=by rw[r1.length,At,C8 (by omega)]
 have l3:us3.length=dd.size:=by rw[r3.length,At,Bx,C8 (by omega)]
 have lv:(a.eval y).cells.toList.length=dd.size:=by rw[f.length,hn]
 have la:m.toList.length=cs.length:=by rw[eu,N,Au,Au,l1,l3,r4.length,Bx];omega
 have z:=run_storeCells_at (P:=P) g off T (a.eval y).cells.toList 0 m w q3 (by rw[lv];rw[BR]at la;omega)<|(Bn.rdL _ f).oneCell
 have R:m.toList.take (off+0)++(a.eval y).cells.toList++m.toList.drop (off+0+(a.eval y).cells.toList.length)=i++((a.eval y).cells.toList++l):=by
  rw[lv,CG,eu,N,Bk];congr 1
  ·rw[<-l1];simp
  ·congr 1;rw[<-Bk,DA (by simp[l1,l3]),CI (by simp[l1,l3])];simp
 rw[R]at z
 have hr:(execOp a.eval o).run P w=.ok .skip (w.setRow g (i++((a.eval y).cells.toList++l)).toArray):=by
  have hsz:(a.eval y).cells.size=dd.size:=by rw[<-lv,BR]
  simp[execOp,hop,q1,Instr.storeAt,Instr.sureAddr,storeVar,M.sizeOf,hsz,z]
 have d:∀k,k≠g->(w.setRow g (i++((a.eval y).cells.toList++l)).toArray).heap[k]? =w.heap[k]?:=λk c=>Ks w g k _ c
 have j:(w.setRow g (i++((a.eval y).cells.toList++l)).toArray).heap.size=w.heap.size:=by simp[World.setRow]
 have n:Ext St w (w.setRow g (i++((a.eval y).cells.toList++l)).toArray):=λb o' hs'=>B6<|d b<|λe=>q6 o'<|e ▸ hs'
 have hnd:(g::(b1++(b3++H))).Nodup:=by have:=v.nodup s;rw[F,eb,O]at this;exact this
 have p:=BF.1 hnd;have q:=AA.1 p.2;have S:=AA.1 q.2.1;have u:∀k∈bs,k≠g:=λk c e=>v.hapart s g (by rw[F];simp)<|e ▸ c
 have C:∀k,k∈b1∨k∈H->k∈B' s:=by
  intro k c;rw[F,eb,O];simp only[AE,Ak];rcases c with c|c
  ·exact .inr<|.inl c
  ·exact .inr<|.inr<|.inr c
 have U:∀k∈b1,k≠g:=λk c e=>p.1<|e ▸ AF _ c
 have W:∀k∈H,k≠g:=λk c e=>p.1<|e ▸ Az _ (Az _ c)
 have m1:=Bn.mono (St':=St) (λ_ _ h=>h) n _ r1<|λk c=>⟨d k<|U k c,λ_=>CY⟩
 have m4:=Bn.mono (St':=St) (λ_ _ h=>h) n _ r4<|λk c=>⟨d k<|W k c,λ_=>CY⟩
 have mv:=Bn.mono (St':=St) (λ_ _ h=>h) n _ f<|λk c=>⟨d k<|u k c,λ_=>CY⟩
 have X:Cr P (w.setRow g (i++((a.eval y).cells.toList++l)).toArray) St (tm a) (VT (σ s)<|Rf cs off<|IH<|CC σ y) (tm a s) (g::(b1++(bs++H))):=by
  refine fF hs (by have:=v.slot s;rw[J]at this;exact this) q2 q3 (setRow_heap w g m _ T _ q3) ?_ q6<|bD<|by rw[hn];exact hl
  unfold Rf;rw[hn,Bk];exact m1.join<|mv.join m4
 have Y:∀k∈bs,¬(k∈b1∨k∈H):=λk c r=>v.hapart s k (C k r) c
 refine pz hr ⟨_,c,St,upd B' s<|g::(b1++(bs++H)),?_,?_,hst,by rw[j];exact hz⟩
 ·rw[ho];refine v.Akm L (dq _ _) F q6 d j X ?_ ?_ AP (by simp) (by simp)
  ·refine BF.2 ⟨?_,AA.2 ⟨q.1,AA.2 ⟨I,S.2.1,λx hx y D e=>Y x hx<|.inr<|e ▸ D⟩,?_⟩⟩
   ·intro r;rcases Ak.1 r with r|r
    ·exact U g r rfl
    ·rcases Ak.1 r with r|r
     ·exact u g r rfl
     ·exact W g r rfl
   ·intro x hx y D e;rcases Ak.1 D with D|D
    ·exact Y y D<|.inl<|e ▸ hx
    ·exact q.2.2 x hx y (Az _ D) e
  ·intro k c;rcases AE.1 c with rfl|c
   ·exact .inl (by rw[F];simp)
   ·rcases Ak.1 c with c|c
    ·exact .inl<|C k<|.inl c
    ·rcases Ak.1 c with c|c
     ·exact .inr c
     ·exact .inl<|C k<|.inr c
 ·have u:¬base g:=(v.range s g<|by rw[F];simp).1;exact hb.trans ⟨rfl,rfl,rfl,by rw[j];exact AJ _,λk c=>d k<|λe=>u<|e ▸ c⟩
def fT:TyD->List V
 |.sc z=>[z]
 |.st _ z _=>z
 |.sl e _ _ _=>[.own e 0 []]
def oZ(e:TypeId):Ow P w St (.own e 0 []) (.slice none 0 0) []:=⟨Cd _,[],[],L9 _ _ _ _,⟨rfl,rfl⟩,rfl,(λg b=>by cases b),λ_=>rfl⟩
def xK{t d}(h:Ng P t d):∃zv,(zeroValue t).run P w=.ok zv w∧∀w St,Bn P w St (fT d) zv.cells.toList []:=by
 cases d with
 |sc z=>
  have⟨i,zv,d,hi,_,c,b,_⟩:=h;refine⟨zv,by simp[zeroValue,typeInfo,hi,c],λw St=>?_⟩;have k:=b w St;have l:=(Bn.rdL _ k).oneCell zv (by simp);have:zv.cells= #[zv]:=by cases zv<;>first|rfl|cases l
  rw[this];exact k
 |st n z f=>have⟨i,g,m,hi,_,c,b,_⟩:=h;exact⟨.agg g,by simp[zeroValue,typeInfo,hi,c],λw St=>b w St⟩
 |sl e es p q=>have⟨i,j,zv,hi,_,c,_⟩:=h;exact⟨.slice none 0 0,by simp[zeroValue,typeInfo,hi,c],λw St=>⟨.slice none 0 0,[],[],[],rfl,rfl,rfl,oZ e,rfl,rfl⟩⟩
def alloc_heap_new(w:World)(b:Obj):(w.alloc b).heap[w.heap.size]? =some b:=heap_alloc_new w b
def HSim.alloc(h:HSim P nt bx base St B hand σ a w)(j:∀b,base b->b < w.heap.size)(e:Obj)(f:∀b o,b < w.heap.size->(St' b o↔St b o))(d:∀b o,St' b o->b<=w.heap.size):
  HSim P nt bx base St' B (hand++[w.heap.size]) σ a (w.alloc e):=by
 have k:=h.grow (w':=w.alloc e) (dj w e) f (λb o l=>by rw[World.size_alloc];exact Nat.lt_succ_of_le<|d b o l);refine k.fresh (by simp) ?_ ?_ ?_
 ·intro g c;simp only[AC]at c;subst c;exact⟨vq j,by simp⟩
 ·intro s g c i;simp only[AC]at i;have:=(h.range s g c).2;omega
 ·intro g c i;simp only[AC]at i;have:=(h.hrange g c).2;omega
def sN{tb}(f:Jr P tb){t:TypeId}{dd:TyD}{d:Nat}(g:o.op=.alloc t)(p:tb t=some dd)(q:o.dst=some d)(r:d < nt)(s:d∈bx)(i:TP+d∉bx)(e:C6 (σ d)=none)(u:K (upd σ d<|.box<|fT dd)):V5 P nt bx base St0 w0 o σ K:=by
 rintro a w Q ⟨St,B,h,v,j,k⟩;have⟨zv,l,m⟩:=xK (w:=w)<|f _ _ p;have x:(execOp a.eval o).run P w=.ok (.value<|.pointer<|some ⟨w.heap.size,0,none⟩) (w.alloc<|.cells zv.cells t):=by simp[execOp,g,Instr.alloc,l,newVar,newRow]
 have y:=h.alloc (St':=St) k (.cells zv.cells t) (λ_ _ _=>CY)<|λb o n=>B4<|h.st b o n
 refine JK x ⟨_,u,St,upd B d [w.heap.size],?_,v.alloc k _,j,Y5 k _⟩;rw[q];refine y.fk r s i e (c:=.box<|fT dd) ⟨w.heap.size,t,[],zv.cells,rfl,alloc_heap_new w _,m _ _,rfl,λo n=>absurd (h.st _ o n)<|by omega⟩ (by simp) (by simp) rfl
def aT(h:HSim P nt bx base St B hand σ a w){cs:List V}{us:List Value}{bs:zN}(j:Bn P w St cs us bs)(f:∀g∈bs,g∈hand)(e:Obj)(c:∀b o,b < w.heap.size->(St' b o↔St b o)):Bn P (w.alloc e) St' cs us bs:=
 Bn.mono (λb o d=>(c b o<|h.st b o d).2 d) (λb o d=>(dj w e).cell (p:=⟨b,o,none⟩)<|h.st b o d) cs j (λg i=>⟨(dj w e).block g (h.hrange g<|f g i).2,λo=>c g o (h.hrange g<|f g i).2⟩)
def Mj{c:V}(h:c.isArg=true):c.isVal=true:=by cases c<;>first|exact h|cases h
theorem zE{t:TypeId}{x:Operand}{d:Nat}(hop:o.op=.box t x)(ho:o.dst=some d)(hd:d < nt)(hx:d∈bx)(hd0:TP+d∉bx)(hv:(CC σ x).isArg=true)(hold:C6 (C5 σ x d)=none)(hk:K (upd (C5 σ x) d (.box (IH (CC σ x))))):V5 P nt bx base St0 w0 o σ K:=by
 rintro a w Q ⟨St,B,h,hb,hst,hz⟩
 obtain⟨bs,B',hw,h2,hnb⟩:=VD h x (Mj hv)
 rw[BI]at h2 hnb
 have hr:(execOp a.eval o).run P w=.ok (.value (.pointer (some ⟨w.heap.size,0,none⟩))) (w.alloc (.cells (a.eval x).cells t)):=by
  simp[execOp,hop,Instr.box,newVar,newRow]
 have h1:=h2.alloc (St':=St) hz (.cells (a.eval x).cells t) (λ_ _ _=>CY) (λb o hs=>B4 (h.st b o hs))
 have hrow:=aT (St':=St) h2 (hw.cells hv) (λ_ h=>h) (.cells (a.eval x).cells t) (λ_ _ _=>CY)
 have hgn:w.heap.size∉bs:=λhm=>by have:=(h2.hrange _ hm).2;omega
 refine JK hr ⟨_,hk,St,upd B' d (w.heap.size::bs),?_,hb.alloc hz _,hst,Y5 hz _⟩
 rw[ho]
 refine h1.fk hd hx hd0 hold (c:=.box (IH (CC σ x))) ⟨w.heap.size,t,bs,_,rfl,alloc_heap_new w _,hrow,rfl,λo hs=>absurd (h.st _ o hs) (by omega)⟩ (BF.2 ⟨hgn,hnb⟩) (by
  intro g hg
  rcases AE.1 hg with rfl|hg
  ·simp
  ·exact AF _ hg) rfl
def Sb(b:Nat->Option (Nat×Nat)):List (Nat×Operand)->PS->List V->Option (PS×List V)
 |[],σ,cs=>some (σ,cs)
 |(i,x)::r,σ,cs=>match b i with
  |some (off,c)=>if(CC σ x).isArg=true∧(IH<|CC σ x).length=c∧off+c<=cs.length then Sb b r (C5 σ x) (Rf cs off<|IH<|CC σ x)else none
  |none=>none
def xc(d:List Value):∀(k off:Nat) (b:Array Value),off+k+d.length<=b.size->
  (d.zipIdx k).foldl (λcs (c,j)=>cs.setIfInBounds (off+j) c) b=(b.toList.take (off+k)++d++b.toList.drop (off+k+d.length)).toArray:=by
 induction d with
 |nil=>intro k off b _;simp
 |cons u d e=>
  intro k off b f;simp only[AD]at f;rw[List.zipIdx_cons,CL,e (k+1) off _ (by simp;omega)];have g:off+k < b.toList.length:=by rw[BR];omega
  have h:(b.setIfInBounds (off+k) u).toList=b.toList.set (off+k) u:=by simp
  have i:(b.toList.set (off+k) u).take (off+(k+1))=b.toList.take (off+k)++[u]:=by rw[show off+(k+1)=off+k+1 by omega,A6 (by rw[Ch];exact g),List.take_set_of_le (by omega)];simp
  have l:(b.toList.set (off+k) u).drop (off+(k+1)+d.length)=b.toList.drop (off+k+(u::d).length):=by rw[List.drop_set_of_lt (by omega),AD];congr 1;omega
  simp only;rw[h,i,l];simp
def jQ(c:Nat->Option (Nat×Nat)):∀(parts:List (Nat×Operand)) (σ σ':PS) (B:Nat->zN) (hand:zN) (cs cs':List V) (b:Array Value) (bs:zN),HSim P nt bx base St B hand σ a w->Bn P w St cs b.toList bs->bs.Nodup->(∀g∈bs,g∈hand)->Sb c parts σ cs=some (σ',cs')->
  ∃B' hand' r t,Instr.fill c b (parts.map λp=>(p.1,a.eval p.2))=some r∧HSim P nt bx base St B' hand' σ' a w∧Bn P w St cs' r.toList t∧t.Nodup∧∀g∈t,g∈hand'
 |[],σ,σ',B,hand,cs,cs',b,bs,h,H,I,z,e=>by simp only[Sb,Ar,Cq]at e;obtain⟨rfl,rfl⟩:=e;exact⟨B,hand,b,bs,rfl,h,H,I,z⟩
 |(i,x)::parts,σ,σ',B,hand,cs,cs',b,bs,h,H,I,z,e=>by
  simp only[Sb]at e;cases N:c i with
  |none=>rw[N]at e;cases e
  |some q=>
   have⟨off,J⟩:=q;rw[N]at e;simp only at e;split at e
   ·rename_i hc;have⟨hv,hl,hlen⟩:=hc;have⟨O,B',hw,h2,R⟩:=VD h x<|Mj hv;have d:=hw.cells hv;have e0:=kz cs off J;rw[e0]at H;have⟨j,us2,b1,b2,eu,eb,r1,r2⟩:=Bn.app H;have⟨S,n,b3,T,A,U,r3,r4⟩:=Bn.app r2;have L:j.length=off:=by rw[r1.length,At,C8 (by omega)]
    have W:S.length=J:=by rw[r3.length,At,Bx,C8 (by omega)]
    have lv:(a.eval x).cells.toList.length=J:=by rw[d.length,hl]
    have la:b.toList.length=cs.length:=by rw[eu,A,Au,Au,L,W,r4.length,Bx];omega
    rw[BR]at la;have s:=xc (a.eval x).cells.toList 0 off b (by omega)
    have C:b.toList.take (off+0)++(a.eval x).cells.toList++b.toList.drop (off+0+(a.eval x).cells.toList.length)=j++((a.eval x).cells.toList++n):=by
     rw[lv,CG,eu,A,Bk];congr 1
     ·rw[<-L];simp
     ·congr 1;rw[<-Bk,DA (by simp[L,W]),CI (by simp[L,W])];simp
    rw[C]at s;have D:Bn P w St (Rf cs off<|IH<|CC σ x) (j++((a.eval x).cells.toList++n)) (b1++(O++T)):=by unfold Rf;rw[hl,Bk];exact r1.join<|d.join r4
    rw[eb,U]at I z;have X:=AA.1 I;have n2:=AA.1 X.2.1;have k:=AA.1 R;have l:∀g∈b1,g∈hand:=λg f=>z g<|AF _ f
    have m:∀g∈T,g∈hand:=λg f=>z g<|Az _<|Az _ f
    have⟨B2,u,F,Y,hf,h3,h4,h5,h6⟩:=jQ c parts (C5 σ x) σ' B' (hand++O) (Rf cs off<|IH<|CC σ x) cs' (j++((a.eval x).cells.toList++n)).toArray (b1++(O++T)) h2 D
     (AA.2 ⟨X.1,AA.2 ⟨k.2.1,n2.2.1,λx M y v e=>k.2.2 y (m y v) x M e.symm⟩,λx M y v e=>by
      rcases Ak.1 v with v|v
      ·exact k.2.2 x (l x M) y v e
      ·exact X.2.2 x M y (Az _ v) e⟩)
     (λg f=>by
      rcases Ak.1 f with f|f
      ·exact AF _<|l g f
      ·rcases Ak.1 f with f|f
       ·exact Az _ f
       ·exact AF _ (m g f)) e
    refine⟨B2,u,F,Y,?_,h3,h4,h5,h6⟩;simp only[AM,Instr.fill,N];have Z:(a.eval x).cells.size=J:=by rw[<-lv,BR]
    rw[Ay (by simp[Z];omega)];have hz:(Array.foldl (λcs (x:Value×Nat)=>cs.setIfInBounds (off+x.2) x.1) b (a.eval x).cells.zipIdx)=(j++((a.eval x).cells.toList++n)).toArray:=by rw[<-Array.foldl_toList,Array.toList_zipIdx];exact s
    rw[<-hf];congr 1
   ·cases e
end
end
section
section
variable {P:Program}{nt:Nat}{base:Bs}{bx:zN}{St St' St0:Nat->Nat->Prop}{B:Nat->zN}{hand:zN}{σ σ':PS}{a:Act}{w w' w0:World}{K:PS->Prop}{Q:Exit->Act->World->Prop}{o:Oper}
def iC(parts:Array (Nat×Operand))(f:Operand->Value):(parts.map λ(i,x)=>(i,f x)).toList=parts.toList.map λp=>(p.1,f p.2):=by simp
def mG(b:List Field)(c:∀f∈b,0 < Ub P f.type):(b.mapM λf=>do pure (f.offset,<-Go.sizeOf f.type):Sem (List<|Nat×Nat)).run P w=.ok (b.map λf=>(f.offset,Ub P f.type)) w:=by
 induction b with
 |nil=>rfl
 |cons f b d=>
  have e:(Go.sizeOf f.type).run P w=.ok (Ub P f.type) w:=by
   have:=c f (by simp);unfold Ub at *;cases hi:P.info? f.type with
   |none=>rw[hi]at this;simp at this
   |some i=>simp[Go.sizeOf,typeInfo,hi]
  simp only[List.mapM_cons,A8,e,AU,BA,d (λf g=>c f<|by simp[g])];rfl
def sO{tb}(m:Jr P tb){t:TypeId}{n:Nat}{z:List V}{c:List (Nat×Nat)}{parts:Array (Nat×Operand)}{d:Nat}{cs:List V}(p:o.op=.build t parts)(D:tb t=some (.st n z c))
  (q:Sb (λi=>c[i]?) parts.toList σ z=some (σ',cs)) (F:o.dst=some d) (H:d < nt) (I:d∉bx) (J:K (upd σ' d<|.agg cs)):V5 P nt bx base St0 w0 o σ K:=by
 rintro a w Q ⟨St,B,h,L,r,M⟩;have⟨i,e,C,hi,_,s,u,N,j,k,_⟩:=m _ _ D;have⟨B',hand',b,l,O,R,S,T,U⟩:=jQ (λi=>c[i]?) parts.toList σ σ' B [] z cs e [] h (u w St) AP (by simp) q;have v:(C.mapM λf=>do pure (f.offset,<-Go.sizeOf f.type):Sem (Array<|Nat×Nat)).run P w=.ok c.toArray w:=by have:=mG (P:=P) (w:=w) C.toList (λf q=>by have:=k (f.offset,Ub P f.type) (by rw[<-j];exact Cu q);exact this);rw[j]at this;rw[Array.mapM_eq_mapM_toList,Sem.run_map,this];rfl
 have W:(execOp a.eval o).run P w=.ok (.value<|.agg b) w:=by
  have y:(zeroValue t).run P w=.ok (.agg e) w:=by simp[zeroValue,typeInfo,hi,s]
  have g:Instr.fill (λx=>c.toArray[x]?) (Value.agg e).cells (parts.map λ(i,x)=>(i,a.eval x)).toList=some b:=by
   rw[iC];have:(λ(x:Nat)=>c.toArray[x]?)=λ(i:Nat)=>c[i]?:=by funext x;simp
   rw[this];exact O
  simp only[execOp,p,Instr.build,A8,y,AU,Bw N,v,g,BA]
 have A:Ow P w St (.agg cs) (.agg b) l:=⟨b.toList,by simp,S⟩;refine JK W ⟨_,J,St,upd B' d l,?_,L,r,M⟩;rw[F];exact R.put H I A.slot T U A.DS.1 A.RN
def TE(b:List V)(es n:Nat):List V:=(List.range<|n * es).map λi=>b.getD (i % es) .undef
def iL:∀(cs:List V) (us:List Value),cs.length=us.length->(∀(j:Nat) (c:V) (u:Value),cs[j]? =some c->us[j]? =some u->c.DB=true∧Ow P w St c u [])->Bn P w St cs us []
 |[],us,b,_=>⟨Bp b.symm,rfl⟩
 |c::cs,[],b,_=>by simp at b
 |c::cs,u::us,b,h=>by have⟨d,e⟩:=h 0 c u rfl rfl;exact⟨u,us,[],[],rfl,rfl,d,e,iL cs us (by simpa using b)<|λj x y f g=>h (j+1) x y (by simpa using f)<|by simpa using g⟩
def iM:∀{cs:List V}{us:List Value},Bn P w St cs us []->∀(j:Nat) (c:V) (u:Value),cs[j]? =some c->us[j]? =some u->c.DB=true∧Ow P w St c u []
 |[],_,_,j,c,u,e,_=>by simp at e
 |d::cs,_,⟨x,h,b1,b2,g,i,e,k,l⟩,j,c,u,f,b=>by
  have m:b1=[]∧b2=[]:=by simpa using i.symm
  obtain⟨rfl,rfl⟩:=m;cases j with
  |zero=>rw[g]at b;simp only[Ce,Ar]at f b;subst f b;exact⟨e,k⟩
  |succ j=>rw[g]at b;exact iM l j c u (by simpa using f) (by simpa using b)
def ln{d:List V}{us:Array Value}(g:Bn P w St d us.toList []){es:Nat}(f:0 < es)(l:d.length=es)(n:Nat):Bn P w St (TE d es n) ((Array.range (n * es)).map (us[· % us.size]!)).toList []:=by
 have b:us.size=es:=by rw[<-l,<-g.length,BR]
 refine iL _ _ (by simp[TE]) (λj c u e i=>?_)
 have k:j < n * es:=by
  rcases Bb j (n * es)with h|h
  ·exact h
  ·rw[Bu (by simp[TE];omega)]at e;cases e
 have m:j % es < es:=Qb _ f
 have p:d[j % es]? =some c:=by
  simp only[TE,BP,F1 k,Cb,Ar]at e
  rw[<-e,Ae (by omega),AO,Ae (by omega)]
  rfl
 have q:us.toList[j % es]? =some u:=by
  simp only[JG,Array.toList_range,BP,F1 k,Cb,Ar]at i
  rw[<-i,b]
  simp[b,m]
 exact iM g (j % es) c u p q
def jJ{t e es eb ez}(h:Ng P t (.sl e es eb ez)):Ub P e=es:=by have⟨i,j,zv,_,_,_,_,c,_,b,_⟩:=h;simp[Ub,c,b]
def fm{e es n d cs arr bs}(hcsz:Ub P e=es)(hes0:0 < es)(h2:HSim P nt bx base St B hand σ a w)(h3:Bn P w St cs arr.toList bs)(h4:bs.Nodup)(h5:∀g∈bs,g∈hand)
  (hb:BelowK base.K w0 w) (hst:∀b o,base b->(St b o↔St0 b o)) (hz:∀b,base b->b < w.heap.size) (hcs:cs.length=n * es) (hnl:n<=lim) (hd:d < nt) (hx:d∉bx):
  Rel P nt bx base St0 w0 (upd σ d<|.own e n cs) (a.put (some d)<|.slice (some ⟨w.heap.size,0,none⟩) n n) (w.alloc<|.cells arr e):=by
 have hsz:arr.size=n * es:=by rw[<-BR,h3.length,hcs]
 have hm:n<=maxLen:=by unfold maxLen;unfold lim at hnl;omega
 have hst1:∀b o,b < w.heap.size->((St b o∨(b=w.heap.size∧o < n * es))↔St b o):=λb o hlt=>⟨λh=>h.elim id (λh=>by omega),.inl⟩
 have h6:=h2.alloc (St':=λb o=>St b o∨(b=w.heap.size∧o < n * es)) hz (.cells arr e) hst1 (λb o hs=>by
  rcases hs with hs|hs
  ·exact B4<|h2.st b o hs
  ·omega)
 have h7:=aT (St':=λb o=>St b o∨(b=w.heap.size∧o < n * es)) h2 h3 h5 (.cells arr e) hst1;have hgn:w.heap.size∉bs:=λhm=>by have:=(h2.hrange _<|h5 _ hm).2;omega
 have hv:Ow P (w.alloc<|.cells arr e) (λb o=>St b o∨(b=w.heap.size∧o < n * es)) (.own e n cs) (.slice (some ⟨w.heap.size,0,none⟩) n n) (w.heap.size::bs):=by
  refine⟨hnl,arr.toList,bs,?_,h7,rfl,?_,?_⟩
  ·rw[hcsz];exact World.ownsRow_lit w arr n (Cd _) hm hsz
  ·intro g hg o';simp only[Value.ownBlock,Ar]at hg;subst hg;rw[hcsz];exact⟨λh'=>h'.elim (λh'=>absurd (h2.st _ _ h')<|by omega) (·.2),λh'=>.inr ⟨rfl,h'⟩⟩
  ·intro hn0;subst hn0;exact Bp (by simpa using hcs)
 refine⟨(λb o=>St b o∨(b=w.heap.size∧o < n * es)),upd B d<|w.heap.size::bs,?_,hb.alloc hz _,?_,Y5 hz _⟩
 ·exact h6.put hd hx hv.slot (BF.2 ⟨hgn,h4⟩) (by
   intro g hg;rcases AE.1 hg with rfl|hg
   ·simp
   ·exact AF _ (h5 g hg)) hv.DS.1 hv.RN
 ·intro b o' hlt;rw[<-hst b o' hlt];exact hst1 b o'<|hz b hlt
def eX{tb:Tb}(c:Jr P tb){t e:TypeId}{es O n:Nat}{u:List V}{parts:Array (Nat×Operand)}{d:Nat}{cs:List V}(g:o.op=.buildSlice t n parts)(J:tb t=some (.sl e es O u))
  (hn:n * es<=16777216) (R:Sb (λi=>some (i * es,es)) parts.toList σ (TE u es n)=some (σ',cs)) (v:cs.length=n * es) (S:o.dst=some d) (T:d < nt) (U:d∉bx) (W:K (upd σ' d (.own e n cs))):V5 P nt bx base St0 w0 o σ K:=by
 rintro a w Q ⟨St,B,h,X,y,Y⟩
 have k:=jJ (c _ _ J)
 obtain⟨i,j,zv,hi,_,_,L,M,z,A,Z,C,D,b,_⟩:=c _ _ J
 have l:=ln (C w St) b D n
 obtain⟨B',hand',m,bs',F,h2,h3,h4,h5⟩:=jQ (λi=>some (i * es,es)) parts.toList σ σ' B [] (TE u es n) cs ((Array.range (n * es)).map (zv.cells[· % zv.cells.size]!)) [] h l AP (by simp) R
 have hr:(execOp a.eval o).run P w=.ok (.value (.slice (some ⟨w.heap.size,0,none⟩) n n)) (w.alloc (.cells m e)):=by
  have q:(Go.sizeOf e).run P w=.ok es w:=by simp[Go.sizeOf,typeInfo,M,A]
  have H:(zeroValue e).run P w=.ok zv w:=by simp[zeroValue,typeInfo,M,z]
  have r:¬(n * es > 2 ^ 24):=by omega
  have s:(parts.map λ(i,x)=>(i,a.eval x)).toList=parts.toList.map λp=>(p.1,a.eval p.2):=iC _ _
  by_cases I:n * es=0
  ·have N:∀f:Nat->Value,(Array.range (n * es)).map f= #[]:=by intro f;rw[I];simp
   rw[N]at F
   simp only[execOp,g,Instr.buildSlice,A8,AU,Bw L,q,r,Dv,Aw I,N,s,F,BA,newRow,run_newObj]
   rfl
  ·simp only[execOp,g,Instr.buildSlice,A8,AU,Bw L,q,r,Dv,Ay I,H,s,F,BA,newRow,run_newObj]
   rfl
 refine JK hr ⟨_,W,?_⟩
 rw[S]
 exact fm k b h2 h3 h4 h5 X y Y v (by unfold lim;have:n<=n * es:=Nat.le_mul_of_pos_right _ b;omega) T U
def wn{tb:Tb}(f:Jr P tb){t e:TypeId}{es q:Nat}{I:List V}{x y:Operand}{d n:Nat}{k s:IntKind}(u:o.op=.makeSlice t x y)(J:tb t=some (.sl e es q I))(O:CC σ x=.int k n)(R:CC σ y=.int s n)(v:n<=lim)
  (S:o.dst=some d) (T:d < nt) (r:d∉bx) (U:K (upd σ d (.own e n (TE I es n)))):V5 P nt bx base St0 w0 o σ K:=by
 rintro a w Q ⟨St,B,h,W,z,X⟩
 have g:=jJ (f _ _ J)
 obtain⟨i,j,zv,hi,_,_,Y,Z,A,C,D,F,H,c,L,l⟩:=f _ _ J
 have m:=ln (F w St) c H n
 have e1:a.eval x=.int k n:=by obtain⟨b,r⟩:=NA h x;rw[O]at r;exact G2 r
 have e2:a.eval y=.int s n:=by obtain⟨b,M⟩:=NA h y;rw[R]at M;exact G2 M
 have hr:(execOp a.eval o).run P w=.ok (.value (.slice (some ⟨w.heap.size,0,none⟩) n n)) (w.alloc (.cells ((Array.range (n * es)).map (zv.cells[· % zv.cells.size]!)) e)):=by
  have p:(j.bytes:Int) * (n:Int)<=281474976710656:=by
   rw[D]
   have h3:q * n<=128 * 1099511627776:=Ly l v
   have h4:((q * n:Nat):Int)=(q:Int) * n:=by simp
   rw[<-h4]
   omega
  have N:=run_make (P:=P) w t e j zv Y Z A k s n n (by omega) (HN _) p (by unfold lim at v;omega)
  simp only[Aq,C]at N
  simp only[execOp,u,e1,e2,A8,N,AU,BA]
  rfl
 refine JK hr ⟨_,U,?_⟩
 rw[S]
 exact fm g c h m AP (by simp) W z X (by simp[TE]) v T r
def ZV:V->List V
 |.own _ _ ds=>ds
 |.dat _ ds=>ds.map VY
 |.arg _ ds=>ds.map VY
 |.pin _ _ ds=>ds.map VY
 |_=>[]
def xR{c v bs m es ds}(h:Ow P w St c v bs)(hc:LJ c=some (m,ds))(hl:ds.length=m * es)(hes:0 < es)(hn:bs.Nodup):
  ∃us b2,PA w es v m us∧Bn P w St (ZV c) us b2∧b2.Nodup∧∀g∈b2,g∈bs:=by
 have key:∀us:List Value,Rd w St (.dat m ds) v->us.length=ds.length->(∀b off A cp,v=.slice A m cp->A=some ⟨b,off,none⟩->Dp w St b off ds->∀(j:Nat) (u:Value),us[j]? =some u->w.cell? ⟨b,off+j,none⟩=some u)->PA w es v m us:=by intro us hr hlu hcell;obtain⟨hm,A,cp,rfl,_,hrow,h0⟩:=hr;refine⟨A,cp,rfl,by unfold maxLen at hm;omega,by rw[hlu,hl],λhp=>?_⟩;obtain⟨b,off,rfl,hrr⟩:=hrow hp;exact⟨b,off,rfl,hcell b off _ cp rfl rfl hrr⟩
 cases c with
 |own e n cs=>
  simp only[LJ,Ar,Cq]at hc;obtain⟨rfl,rfl⟩:=hc;have hrd:=Ow.rd _ h rfl;have⟨hm,xs,bs',h1,h2,h3,h4,h5⟩:=h;refine⟨xs,bs',?_,h2,?_,?_⟩
  ·have hx:=PA.Up h1;have⟨A,cp,e1,e2,e3,e4⟩:=hx;exact⟨A,cp,e1,e2,by rw[h2.length,hl],e4⟩
  ·rw[h3]at hn;exact(AA.1 hn).2.1
  ·intro g hg;rw[h3];exact Az _ hg
 |dat n cs=>
  simp only[LJ,Ar,Cq]at hc;obtain⟨rfl,rfl⟩:=hc;obtain⟨rfl,hr⟩:=h;have hr':=hr;obtain⟨hm,A,cp,rfl,hcp,hrow,h0⟩:=hr;rcases C1 n with hz|hp
  ·have:=h0 hz;subst this;subst hz;exact⟨[],[],⟨A,cp,rfl,by omega,by simp,λh=>absurd h<|by omega⟩,⟨rfl,rfl⟩,AP,by simp⟩
  ·obtain⟨b,off,rfl,hrr⟩:=hrow hp;have⟨us,h3,h4⟩:=hrr.list;refine⟨us,[],⟨_,cp,rfl,by unfold maxLen at hm;omega,by rw[h3.length,hl],λ_=>⟨b,off,rfl,h4⟩⟩,Bn.wc _ h3,AP,by simp⟩
 |arg n cs=>
  have hr:Rd w St (.dat m ds) v:=MK (P:=P) (t:=λ_=>.bool true) hc h.slot;simp only[LJ,Ar,Cq]at hc;obtain⟨rfl,rfl⟩:=hc;obtain⟨rfl,_⟩:=h;have hr':=hr;obtain⟨hm,A,cp,rfl,hcp,hrow,h0⟩:=hr;rcases C1 n with hz|hp
  ·have:=h0 hz;subst this;subst hz;exact⟨[],[],⟨A,cp,rfl,by omega,by simp,λh=>absurd h<|by omega⟩,⟨rfl,rfl⟩,AP,by simp⟩
  ·obtain⟨b,off,rfl,hrr⟩:=hrow hp;have⟨us,h3,h4⟩:=hrr.list;refine⟨us,[],⟨_,cp,rfl,by unfold maxLen at hm;omega,by rw[h3.length,hl],λ_=>⟨b,off,rfl,h4⟩⟩,Bn.wc _ h3,AP,by simp⟩
 |pin u n cs=>
  have hr:Rd w St (.dat m ds) v:=MK (P:=P) (t:=λ_=>.bool true) hc h.slot;simp only[LJ,Ar,Cq]at hc;obtain⟨rfl,rfl⟩:=hc;obtain⟨rfl,_⟩:=h;have hr':=hr;obtain⟨hm,A,cp,rfl,hcp,hrow,h0⟩:=hr;rcases C1 n with hz|hp
  ·have:=h0 hz;subst this;subst hz;exact⟨[],[],⟨A,cp,rfl,by omega,by simp,λh=>absurd h<|by omega⟩,⟨rfl,rfl⟩,AP,by simp⟩
  ·obtain⟨b,off,rfl,hrr⟩:=hrow hp;have⟨us,h3,h4⟩:=hrr.list;refine⟨us,[],⟨_,cp,rfl,by unfold maxLen at hm;omega,by rw[h3.length,hl],λ_=>⟨b,off,rfl,h4⟩⟩,Bn.wc _ h3,AP,by simp⟩
 |_=>cases hc
def eW{tb}(htb:Jr P tb){t e:TypeId}{es eb:Nat}{ez:List V}{x y:Operand}{d n m:Nat}{cs ds:List V}(hop:o.op=.call {callee:=.builtin .append,args:= #[x,y],argTypes:= #[t,t]})(ht:tb t=some (.sl e es eb ez))
  (h1:CC σ x=.own e n cs) (h2:LJ (CC (C5 σ x) y)=some (m,ds)) (hds:ds.length=m * es) (hlim:n+m<=lim) (ho:o.dst=some d) (hd:d < nt) (hx:d∉bx)
  (hk:K (upd (C5 (C5 σ x) y) d<|.own e (n+m)<|cs++ZV (CC (C5 σ x) y))):V5 P nt bx base St0 w0 o σ K:=by
 rintro a w Q ⟨St,B,h,hb,hst,hz⟩;have hcsz:=jJ<|htb _ _ ht;have⟨i,j,zv,hi,_,_,hu,hj,hjz,hes,heb,hzl,hlz,hes0,heb0,heb1⟩:=htb _ _ ht;have⟨b1,B1,w1,q1,n1⟩:=VD h x (by rw[h1];rfl);rw[BI]at q1 n1;have hyv:(CC (C5 σ x) y).isVal=true:=by cases hc:CC (C5 σ x) y<;>rw[hc]at h2<;>first|rfl|cases h2
 have⟨b2,B2,w2,q2,n2⟩:=VD q1 y hyv;rw[h1]at w1;have⟨hnl,xs,bs1,r1,r2,r3,r4,r5⟩:=w1;rw[hcsz]at r1 r4;have n12:=AA.1 n2;have⟨us,b3,s1,s2,s3,s4⟩:=xR w2 h2 hds hes0 n12.2.1;have hzs:zv.cells.size=es:=by rw[<-hlz,<-(hzl w St).length,BR]
 have hbytes:(n+m) * eb<=140737488355328:=BC (Ly hlim heb1) (by unfold lim;omega);have⟨v',w',hrun,o1,o2,o3,o4⟩:=wQ (P:=P) w t o.type e zv es eb hu (by simp[hj,hjz,hes,heb]) hzs hes0 heb0 (a.eval x) n xs r1 (a.eval y) m us s1 ((Bn.rdL _ s2).oneCell) hbytes;have hr:(execOp a.eval o).run P w=.ok (.value v') w':=by simp only[execOp,hop,resolve,invoke,builtin,A8,BA,AU,Hz,AM,CZ,hrun]
 have hxb:∀g,(a.eval x).ownBlock=some g->g∈b1:=λg hg=>by rw[r3,hg];simp
 have hext:Ext St w w':=by
  intro b o' hs;by_cases e1:some b=(a.eval x).ownBlock
  ·exact o4 b e1.symm o'<|(r4 b e1.symm o').1 hs
  ·exact B6<|o2.block b (h.st b o' hs) e1
 have hst1:∀g,g < w.heap.size->(∀q,(a.eval x).ownBlock=some q->g≠q)->∀o',(St g o'∨(v'.ownBlock=some g∧o' < (n+m) * es))↔St g o':=by
  intro g hg hq o';refine⟨λhh=>hh.elim id<|λhh=>?_,.inl⟩;rcases o3 with e1|e1
  ·rw[hh.1]at e1;exact absurd rfl<|hq g e1.symm
  ·rw[hh.1]at e1;simp only[Ar]at e1;omega
 have hheap:∀g,g < w.heap.size->(∀q,(a.eval x).ownBlock=some q->g≠q)->w'.heap[g]? =w.heap[g]?:=λg hg hq=>o2.block g hg<|λe1=>hq g e1.symm rfl
 have h3:=q2.world (w':=w') (St':=λb o'=>St b o'∨(v'.ownBlock=some b∧o' < (n+m) * es)) (λb o' hs=>.inl hs) hext o2.size
  (λs g hg=>by
   have hlt:=(q2.range s g hg).2;have hne:∀q,(a.eval x).ownBlock=some q->g≠q:=λq hq e1=>q2.hapart s g hg<|AF _<|e1 ▸ hxb q hq
   exact⟨hheap g hlt hne,hst1 g hlt hne⟩)
  (λb o' hs=>by
   rcases hs with hs|hs
   ·exact Bz (h.st b o' hs) o2.size
   ·exact(o1.lt b hs.1).2)
 have hn1:((a.eval x).ownBlock.toList++bs1).Nodup:=by rw[<-r3];exact n12.1
 have hn1':=AA.1 hn1;have hrng:∀g,g∈b1++b2->g < w.heap.size:=λg hg=>(q2.hrange g hg).2
 have hbs1:∀g∈bs1,g∈b1:=λg hg=>by rw[r3];exact Az _ hg
 have hne1:∀g∈bs1,∀q,(a.eval x).ownBlock=some q->g≠q:=λg hg q hq e1=>hn1'.2.2 q (by rw[hq];simp) g hg e1.symm
 have hne3:∀g∈b3,∀q,(a.eval x).ownBlock=some q->g≠q:=λg hg q hq e1=>n12.2.2 q (hxb q hq) g (s4 g hg) e1.symm
 have t1:=Bn.mono (w':=w') (St':=λb o'=>St b o'∨(v'.ownBlock=some b∧o' < (n+m) * es)) (λb o' hs=>.inl hs) hext _ r2 (λg hg=>by have hlt:=hrng g<|AF _<|hbs1 g hg;exact⟨hheap g hlt (hne1 g hg),hst1 g hlt (hne1 g hg)⟩);have t2:=Bn.mono (w':=w') (St':=λb o'=>St b o'∨(v'.ownBlock=some b∧o' < (n+m) * es)) (λb o' hs=>.inl hs) hext _ s2 (λg hg=>by have hlt:=hrng g<|Az _<|s4 g hg;exact⟨hheap g hlt (hne3 g hg),hst1 g hlt (hne3 g hg)⟩)
 have hv:Ow P w' (λb o'=>St b o'∨(v'.ownBlock=some b∧o' < (n+m) * es)) (.own e (n+m)<|cs++ZV (CC (C5 σ x) y)) v' (v'.ownBlock.toList++(bs1++b3)):=by
  refine⟨hlim,xs++us,bs1++b3,by rw[hcsz];exact o1,t1.join t2,rfl,?_,?_⟩
  ·intro g hg o';rw[hcsz];refine⟨λhh=>?_,λhh=>.inr ⟨hg,hh⟩⟩;rcases hh with hh|hh
   ·rcases o3 with e1|e1
    ·have:=(r4 g (by rw[<-e1];exact hg) o').1 hh;exact Bz this<|Cy _<|by omega
    ·rw[hg]at e1;simp only[Ar]at e1;have:=h.st g o' hh;omega
   ·exact hh.2
  ·intro h0;have hn0:n=0:=by omega
   have hm0:m=0:=by omega
   rw[r5 hn0];have hl0:us.length=0:=by have⟨_,_,_,_,hl0,_⟩:=s1;rw[hl0,hm0];simp
   rw[s2.length]at hl0;rw[Bp hl0];rfl
 have hnd3:(bs1++b3).Nodup:=AA.2 ⟨hn1'.2.1,s3,λp hp q hq e1=>n12.2.2 p (hbs1 p hp) q (s4 q hq) e1⟩
 have fin:∀hand2,HSim P nt bx base (λb o'=>St b o'∨(v'.ownBlock=some b∧o' < (n+m) * es)) B2 hand2 (C5 (C5 σ x) y) a w'->(∀g∈v'.ownBlock.toList,g∈hand2)->(∀g∈b1++b2,g∈hand2)->(∀g∈v'.ownBlock.toList,g∉bs1++b3)->
   Rel P nt bx base St0 w0 (upd (C5 (C5 σ x) y) d<|.own e (n+m)<|cs++ZV (CC (C5 σ x) y)) (a.put (some d) v') w':=by
  intro hand2 g1 g2 g3 g4;refine⟨_,upd B2 d<|v'.ownBlock.toList++(bs1++b3),g1.put hd hx hv.slot ?_ ?_ hv.DS.1 hv.RN,?_,?_,SZ hz o2.size⟩
  ·refine AA.2 ⟨by cases v'.ownBlock<;>simp,hnd3,λp hp q hq e1=>g4 p hp<|e1 ▸ hq⟩
  ·intro g hg;rcases Ak.1 hg with hg|hg
   ·exact g2 g hg
   ·rcases Ak.1 hg with hg|hg
    ·exact g3 g<|AF _<|hbs1 g hg
    ·exact g3 g<|Az _<|s4 g hg
  ·exact hb.grown o2 hz<|λg hg=>(q2.hrange g<|AF _<|hxb g hg).1
  ·intro b o' hlt;rw[<-hst b o' hlt];exact hst1 b (hz b hlt) (λq hq e1=>(q2.hrange q<|AF _<|hxb q hq).1<|e1 ▸ hlt) o'
 refine JK hr ⟨_,hk,?_⟩;rw[ho];rcases o3 with e1|e1
 ·refine fin (b1++b2) h3 (λg hg=>?_) (λ_ h=>h) (λg hg hm=>?_)
  ·rw[e1]at hg;rw[r3];exact AF _<|AF _ hg
  ·rw[e1]at hg;have hq:(a.eval x).ownBlock=some g:=by simpa using hg
   rcases Ak.1 hm with hm|hm
   ·exact hne1 g hm g hq rfl
   ·exact hne3 g hm g hq rfl
 ·have hlt:=(o1.lt _ e1).2
  have h4:=h3.fresh (bs:=[w.heap.size]) (by simp) (by intro g hg;simp only[AC]at hg;subst hg;exact⟨vq hz,hlt⟩)
   (by intro s g hg hm;simp only[AC]at hm;have:=(q2.range s g hg).2;omega)
   (by intro g hg hm;simp only[AC]at hm;have:=hrng g hg;omega)
  refine fin _ h4 (λg hg=>?_) (λg hg=>AF _ hg)<|λg hg hm=>?_
  ·rw[e1]at hg;exact Az _ (by simpa using hg)
  ·rw[e1]at hg;have hq:g=w.heap.size:=by simpa using hg
   have:g < w.heap.size:=by
    rcases Ak.1 hm with hm|hm
    ·exact hrng g<|AF _<|hbs1 g hm
    ·exact hrng g<|Az _<|s4 g hm
   omega
end
end
section
section
variable {P:Program}{nt:Nat}{base:Bs}{bx:zN}{St St' St0:Nat->Nat->Prop}{B:Nat->zN}{hand:zN}{σ σ':PS}{a:Act}{w w' w0:World}{K:PS->Prop}{Q:Exit->Act->World->Prop}{o:Oper}
def kill(D:zN)(σ:PS):PS:=λs=>if D.contains s=true then .undef else match D3 (σ s)with
 |some b=>if D.contains b=true then .undef else σ s
 |none=>σ s
def TQ(D:zN)(σ:PS)(s:Nat):kill D σ s=.undef∨kill D σ s=σ s:=by
 unfold kill;split
 ·exact .inl rfl
 ·split
  ·split
   ·exact .inl rfl
   ·exact .inr rfl
  ·exact .inr rfl
def Vk{D σ s}(h:D.contains s=true):kill D σ s=.undef:=by unfold kill;rw[Aw h]
def mw{D σ s b}(h:D3 (kill D σ s)=some b):D3 (σ s)=some b∧D.contains b=false:=by
 rcases TQ D σ s with e|e
 ·rw[e]at h;cases h
 ·have c:=h;rw[e]at c;refine⟨c,?_⟩;unfold kill at h;split at h
  ·cases h
  ·rw[c]at h;simp only at h;split at h
   ·cases h
   ·rename_i d;simpa using d
def iu{D σ s cs}(h:C6 (σ s)=some cs)(b:D.contains s=false):kill D σ s=σ s:=by
 have c:D3 (σ s)=none:=by cases d:σ s<;>rw[d]at h<;>first|rfl|cases h
 unfold kill;rw[Ay (by rw[b];simp),c]
def Yj(D:zN)(h:HSim P nt bx base St B hand σ a w):∃B',HSim P nt bx base St B' hand (kill D σ) a w∧(∀s,D.contains s=true->B' s=[])∧(∀s,B' s=[]∨B' s=B s)∧∀s,D.contains s=false->kill D σ s=σ s->B' s=B s:=by
 have j:∀s,∃b:zN,Cr P w St (tm a) (kill D σ s) (tm a s) b∧(b=[]∨b=B s)∧(D.contains s=true->b=[])∧(D.contains s=false->kill D σ s=σ s->b=B s):=by
  intro s;rcases TQ D σ s with e|e
  ·exact⟨[],by rw[e];rfl,.inl rfl,λ_=>rfl,λ_ k=>by have r:=h.slot s;rw[<-k,e]at r;exact(show B s=[]from r).symm⟩
  ·by_cases l:D.contains s=true
   ·exact⟨[],by rw[Vk l];rfl,.inl rfl,λ_=>rfl,λe=>by rw[l]at e;cases e⟩
   ·exact⟨B s,by rw[e];exact h.slot s,.inr rfl,λe=>absurd e l,λ_ _=>rfl⟩
 have⟨B',i⟩:=Classical.axiomOfChoice j;have u:=λs=>(i s).1
 have m:=λs=>(i s).2.1
 have c:∀s,∀g∈B' s,g∈B s:=by
  intro s g d;rcases m s with e|e
  ·rw[e]at d;simp at d
  ·rw[e]at d;exact d
 refine⟨B',?_,λs=>(i s).2.2.1,m,λs=>(i s).2.2.2⟩;exact
 {h with
  slot:=u
  boxes:=λs cs e=>by
   rcases TQ D σ s with n|n
   ·rw[n]at e;cases e
   ·rw[n]at e;exact h.boxes s cs e
  crefs:=λs b e=>by have⟨v,k⟩:=mw e;have⟨cs,f⟩:=h.crefs s b v;exact⟨cs,by rw[iu f k];exact f⟩
  nodup:=λs=>by
   rcases m s with e|e
   ·rw[e];exact AP
   ·rw[e];exact h.nodup s
  apart:=λs t p g d q=>h.apart s t p g (c s g d)<|c t g q
  hapart:=λs g d=>h.hapart s g<|c s g d
  range:=λs g d=>h.range s g (c s g d)}
def Xc(D:zN)(h:HSim P nt bx base St B hand σ a w):∃B',HSim P nt bx base St B' hand (kill D σ) a w∧(∀s,D.contains s=true->B' s=[])∧∀s,B' s=[]∨B' s=B s:=
 let⟨B',b,c,d,_⟩:=Yj D h
 ⟨B',b,c,d⟩
def HSim.giveUp(h:HSim P nt bx base St B hand σ a w)(p:Nat):∃B',HSim P nt bx base St B' (hand++B p) (kill [p] σ) a w∧B' p=[]:=by
 have⟨B',j,i,k⟩:=Xc [p] h
 have c:∀s,∀g∈B' s,g∈B s∧s≠p:=by
  intro s g b;have f:s≠p:=λe=>by subst e;rw[i s (by simp)]at b;simp at b
  rcases k s with e|e
  ·rw[e]at b;simp at b
  ·rw[e]at b;exact⟨b,f⟩
 exact⟨B',
 {j with
  hnodup:=AA.2 ⟨h.hnodup,h.nodup p,λx l y m e=>by subst e;exact h.hapart p x m l⟩
  hapart:=λs g b d=>by
   have⟨g1,g2⟩:=c s g b;rcases Ak.1 d with d|d
   ·exact h.hapart s g g1 d
   ·exact h.apart s p g2 g g1 d
  hrange:=λg b=>by
   rcases Ak.1 b with b|b
   ·exact h.hrange g b
   ·exact h.range p g b},i p (by simp)⟩
def HSim.swap(h:HSim P nt bx base St B hand σ a w){s:Nat}(hx:s∈bx)(hno:∀q,D3 (σ q)≠some s)(hB:B s=[]){c:V}{bs:zN}(hc:Cr P w St (tm a) c (tm a s) bs)(hrf:D3 c=none)(hn:bs.Nodup)(hs:∀g∈bs,g∈hand):
  HSim P nt bx base St (upd B s bs) [] (upd σ s c) a w:=by
 refine
 {h with
  slot:=λq=>by
   by_cases e:q=s
   ·subst e;rw[upd_same,upd_same];exact hc
   ·rw[upd_ne _ _ e,upd_ne _ _ e];exact h.slot q
  boxes:=λq cs e=>by
   by_cases eq:q=s
   ·subst eq;exact hx
   ·rw[upd_ne _ _ eq]at e;exact h.boxes q cs e
  crefs:=λq b e=>by
   by_cases eq:q=s
   ·subst eq;rw[upd_same,hrf]at e;cases e
   ·rw[upd_ne _ _ eq]at e;have⟨cs,hcs⟩:=h.crefs q b e;exact⟨cs,by rw[upd_ne _ _ (λeb=>by subst eb;exact hno q e)];exact hcs⟩
  nodup:=λq=>by
   by_cases e:q=s
   ·subst e;rw[upd_same];exact hn
   ·rw[upd_ne _ _ e];exact h.nodup q
  apart:=λq r hqr g hg hg'=>by
   by_cases e:q=s
   ·subst e;rw[upd_same]at hg;rw[upd_ne _ _ (Ne.symm hqr)]at hg';exact h.hapart r g hg'<|hs g hg
   ·rw[upd_ne _ _ e]at hg;by_cases e':r=s
    ·subst e';rw[upd_same]at hg';exact h.hapart q g hg<|hs g hg'
    ·rw[upd_ne _ _ e']at hg';exact h.apart q r hqr g hg hg'
  hnodup:=AP
  hapart:=λ_ _ _=>by simp
  range:=λq g hg=>by
   by_cases e:q=s
   ·subst e;rw[upd_same]at hg;exact h.hrange g<|hs g hg
   ·rw[upd_ne _ _ e]at hg;exact h.range q g hg
  hrange:=by simp}
def pj{s e n cs}(hs:σ s=.uni e n cs)(hr:Rel P nt bx base St0 w0 σ a w):Rel P nt bx base St0 w0 (upd (kill [s] σ) s<|.own e n cs) a w:=by
 have⟨St,B,h,hb,hst,hz⟩:=hr;have hsl:=h.slot s;rw[hs]at hsl;have⟨g,bs',arr,e1,e2,h1,hB,h2,hl,hlen⟩:=hsl;have hx:s∈bx:=h.boxes s cs (by rw[hs];rfl);have hrg:=h.range s g (by rw[hB];simp);have⟨B1,h3,hB1⟩:=h.giveUp s;rw[BI,hB]at h3;have hnd:(g::bs').Nodup:=by have:=h.nodup s;rw[hB]at this;exact this
 have hnd2:=BF.1 hnd;have hgB:∀q,∀k∈B1 q,k≠g:=λq k hk e=>h3.hapart q k hk (by rw[e];simp)
 have hsame:∀k,k≠g->∀o',(St k o'∨(k=g∧o' < n * Ub P e))↔St k o':=λk hk o'=>⟨λhh=>hh.elim id<|λhh=>absurd hh.1 hk,.inl⟩
 have h4:=h3.world (w':=w) (St':=λb o'=>St b o'∨(b=g∧o' < n * Ub P e)) (λb o' hs=>.inl hs) (λ_ _ _=>rfl) (AJ _) (λq k hk=>⟨rfl,hsame k (hgB q k hk)⟩) (λb o' hs=>by
  rcases hs with hs|hs
  ·exact h.st b o' hs
  ·rw[hs.1];exact hrg.2)
 have hrow:=Bn.mono (w':=w) (St':=λb o'=>St b o'∨(b=g∧o' < n * Ub P e)) (λb o' hs=>.inl hs) (λ_ _ _=>rfl) cs h1<|λk hk=>⟨rfl,hsame k<|λe=>hnd2.1<|e ▸ hk⟩
 have harr:arr.size=n * Ub P e:=by rw[<-BR,h1.length,hlen]
 have hv:Ow P w (λb o'=>St b o'∨(b=g∧o' < n * Ub P e)) (.own e n cs) (tm a s) (g::bs'):=by
  refine⟨hl,arr.toList,bs',?_,hrow,by rw[e1];rfl,λk hk o'=>?_,λh0=>?_⟩
  ·rw[e1];refine⟨by rw[BR,harr],.inr ⟨g,n,arr,rfl,Cd _,e2,AJ _,?_,harr,?_⟩⟩
   ·unfold maxLen;unfold lim at hl;omega
   ·rw[<-harr,<-BR,AT]
  ·rw[e1]at hk;simp only[Value.ownBlock,Ar]at hk;subst hk;exact⟨λhh=>hh.elim (λhh=>absurd hh<|h2 o') (·.2),λhh=>.inr ⟨rfl,hh⟩⟩
  ·subst h0;exact Bp (by simpa using hlen)
 have hno:∀q,D3 (kill [s] σ q)≠some s:=λq hq=>by have:=(mw hq).2;simp at this
 refine⟨_,_,h4.swap hx hno hB1 hv.slot rfl hnd<|λk hk=>hk,hb,?_,hz⟩;intro b o' hlt;rw[<-hst b o' hlt];exact hsame b (λe=>hrg.1<|e ▸ hlt) o'
def sX{tb:Tb}(f:Jr P tb){t e:TypeId}{es s:Nat}{v:List V}{x y:Operand}{d n:Nat}{k z:IntKind}(A:o.op=.makeSlice t x y)(R:tb t=some (.sl e es s v))(W:CC σ x=.int k n)(X:CC σ y=.int z n)(C:n<=lim)
  (Y:o.dst=some d) (Z:d < nt) (u:d∈bx) (D:TP+d∉bx) (g:C6 (σ d)=none) (hk:K (upd σ d (.uni e n (TE v es n)))):V5 P nt bx base St0 w0 o σ K:=by
 rintro a w Q ⟨St,B,h,hb,F,H⟩
 have l:=jJ (f _ _ R)
 obtain⟨i,j,zv,hi,_,_,hu,hj,I,J,L,M,N,m,S,p⟩:=f _ _ R
 have q:=ln (M w St) m N n
 have e1:a.eval x=.int k n:=by obtain⟨b,u⟩:=NA h x;rw[W]at u;exact G2 u
 have e2:a.eval y=.int z n:=by obtain⟨b,T⟩:=NA h y;rw[X]at T;exact G2 T
 have hr:(execOp a.eval o).run P w=.ok (.value (.slice (some ⟨w.heap.size,0,none⟩) n n)) (w.alloc (.cells ((Array.range (n * es)).map (zv.cells[· % zv.cells.size]!)) e)):=by
  have r:(j.bytes:Int) * (n:Int)<=281474976710656:=by
   rw[L]
   have h3:s * n<=128 * 1099511627776:=Ly p C
   have h4:((s * n:Nat):Int)=(s:Int) * n:=by simp
   rw[<-h4]
   omega
  have U:=run_make (P:=P) w t e j zv hu hj I k z n n (by omega) (HN _) r (by unfold lim at C;omega)
  simp only[Aq,J]at U
  simp only[execOp,A,e1,e2,A8,U,AU,BA]
  rfl
 have h6:=h.alloc (St':=St) H (.cells ((Array.range (n * es)).map (zv.cells[· % zv.cells.size]!)) e) (λ_ _ _=>CY) (λb o O=>B4 (h.st b o O))
 have h7:=aT (St':=St) h q (by simp) (.cells ((Array.range (n * es)).map (zv.cells[· % zv.cells.size]!)) e) (λ_ _ _=>CY)
 refine JK hr ⟨_,hk,St,upd B d [w.heap.size],?_,hb.alloc H _,F,Y5 H _⟩
 rw[Y]
 exact h6.fk Z u D g (c:=.uni e n (TE v es n)) ⟨w.heap.size,[],_,rfl,alloc_heap_new w _,h7,rfl,λo O=>absurd (h.st _ o O) (by omega),C,by rw[l];simp[TE]⟩ (by simp) (by simp) rfl
theorem wm{p d:Nat}{e:TypeId}{n:Nat}{cs:List V}(hop:o.op=.assign (.tmp p)∨o.op=.move (.tmp p))(hs:σ p=.uni e n cs)(ho:o.dst=some d)(hd:d < nt)(hx:d∈bx)(hd0:TP+d∉bx)(hold:C6 (kill [p] σ d)=none)(hk:K (upd (kill [p] σ) d (.uni e n cs))):V5 P nt bx base St0 w0 o σ K:=by
 rintro a w Q ⟨St,B,h,hb,hst,hz⟩
 have hr:(execOp a.eval o).run P w=.ok (.value (tm a p)) w:=by rcases hop with e|e<;>simp[execOp,e]<;>rfl
 have hsl:=h.slot p
 rw[hs]at hsl
 obtain⟨B1,h3,hB1⟩:=h.giveUp p
 rw[BI]at h3
 refine JK hr ⟨_,hk,St,upd B1 d (B p),?_,hb,hst,hz⟩
 rw[ho]
 exact h3.fk hd hx hd0 hold (c:=.uni e n cs) hsl (h.nodup p) (λ_ h=>h) rfl
theorem sZ{p d:Nat}{e:TypeId}{n:Nat}{cs:List V}(hop:o.op=.assign (.tmp p)∨o.op=.move (.tmp p))(hs:σ p=.uni e n cs)(ho:o.dst=some d)(hd:d < nt)(hx:d∉bx)(hk:K (upd (upd (kill [p] σ) p (.dat n cs)) d (.own e n cs))):V5 P nt bx base St0 w0 o σ K:=by
 intro a w Q hr
 have h1:=pj hs hr
 have h2:CC (upd (kill [p] σ) p (.own e n cs)) (.tmp p)=.own e n cs:=by simp[CC,upd_same]
 have h3:C5 (upd (kill [p] σ) p (.own e n cs)) (.tmp p)=upd (kill [p] σ) p (.dat n cs):=by
  simp only[C5,upd_same,dg,dg2,VY]
  funext q
  unfold upd
  split<;>rfl
 refine eZ (K:=K) (x:=.tmp p) hop ho hd hx (by rw[h2];rfl) ?_ a w Q h1
 rw[h2,h3]
 exact hk
end
end
section
section
variable {P:Program}{w:World}{St:Nat->Nat->Prop}
def jN{c v}(h:Rd w St (er c) v):Ow P w St (er c) v []∧(er c).DB=true:=by cases c<;>first|exact⟨⟨rfl,h⟩,rfl⟩|exact h.elim
def uI:∀(cs:List V) {us:List Value},Pz w St (QF cs) us->Bn P w St (QF cs) us []
 |[],_,h=>⟨h,rfl⟩
 |c::cs,_,⟨u,a,e,b,d⟩=>⟨u,a,[],[],e,rfl,(jN (P:=P) b).2,(jN b).1,uI cs d⟩
def AcI{c v bs}(b:c.isArg=true)(h:Ow P w St c v bs):Ow P w St (er c) v []:=by
 have a:=(h.rda b).erase;cases c<;>first|(cases b;done)|exact⟨rfl,a⟩|skip
 have⟨us,e,a⟩:=a;exact⟨us,e,uI _ a⟩
def AcJ{c}(a:c.isArg=true):C6 (er c)=none∧D3 (er c)=none∧c.isVal=true:=by cases c<;>first|(cases a;done)|exact⟨rfl,rfl,rfl⟩
end
structure Kp (c c':V):Prop where
 rd:∀(P:Program) (w:World) (St:Nat->Nat->Prop) (t:Nat->Value) (v:Value) (bs:zN),Cr P w St t c v bs->bs.Nodup->∃bs',Cr P w St t c' v bs'∧(∀g∈bs',g∈bs)∧bs'.Nodup
 bx:(C6 c').isSome=(C6 c).isSome
 rf:∀b,D3 c'=some b->D3 c=some b
def kr{c}:Kp c c:=⟨λ_ _ _ _ _ bs h a=>⟨bs,h,λ_ h=>h,a⟩,rfl,λ_ h=>h⟩
def kd{c c'}(a:c.isVal=true)(b:dg c=c'):Kp c c':=by
 subst b;refine⟨λP w d t v bs h e=>⟨[],((h.ow a).deg a).slot,by simp,AP⟩,?_,λb h=>?_⟩
 ·rw[(Z6 a).1,(VG a).1]
 ·rw[(Z6 a).2]at h;cases h
def ke{c c'}(a:c.isArg=true)(d:er c=c'):Kp c c':=by
 subst d;have⟨e,f,b⟩:=AcJ a;refine⟨λP w g t v bs h i=>⟨[],(AcI a<|h.ow b).slot,by simp,AP⟩,?_,λb h=>?_⟩
 ·rw[e,(VG b).1]
 ·rw[f]at h;cases h
def CW:List V->List V->Prop
 |[],cs'=>cs'=[]
 |c::cs,cs'=>∃d ds,cs'=d::ds∧(c=d∨(c.DB=true∧(VY c=d∨er c=d)))∧CW cs ds
def cwd{c d:V}{cs ds}(a:c.DB=true)(b:VY c=d)(h:CW cs ds):CW (c::cs) (d::ds):=⟨d,ds,rfl,.inr ⟨a,.inl b⟩,h⟩
def Aa1:∀cs:List V,cs.all V.DB=true->CW cs (cs.map VY)
 |[],_=>rfl
 |c::cs,h=>by rw[By,Aa]at h;exact cwd h.1 rfl<|Aa1 cs h.2
def ol{P w St}:∀{cs cs':List V}{us:List Value}{bs:zN},CW cs cs'->Bn P w St cs us bs->bs.Nodup->∃i,Bn P w St cs' us i∧(∀g∈i,g∈bs)∧i.Nodup
 |[],_,_,bs,h,t,l=>by rw[show _=[]from h];exact⟨bs,t,λ_ h=>h,l⟩
 |c::cs,_,_,_,⟨d,ds,e,v,m⟩,⟨u,n,b1,b2,x,y,o,p,z⟩,l=>by
  subst e y;have⟨A,B,C⟩:=AA.1 l;have⟨k,D,r,F⟩:=ol m z B
  have q:∃f,d.DB=true∧Ow P w St d u f∧(∀g∈f,g∈b1)∧f.Nodup:=by
   rcases v with rfl|⟨j,rfl|rfl⟩
   ·exact⟨b1,o,p,λ_ h=>h,A⟩
   ·exact⟨[],Yo j,p.bJ j,by simp,AP⟩
   ·have:=jN (P:=P) (Rd.erase c<|Ow.rd c p j);exact⟨[],this.2,this.1,by simp,AP⟩
  have⟨f,H,I,s,J⟩:=q;refine⟨f++k,⟨u,n,f,k,x,rfl,H,I,D⟩,λg K=>?_,AA.2 ⟨J,F,λa L b M=>C a (s a L) b<|r b M⟩⟩;rcases Ak.1 K with h|h
  ·exact AF _<|s g h
  ·exact Az _<|r g h
def ki{e n cs cs'}(h:CW cs cs'):Kp (.own e n cs) (.own e n cs'):=by
 refine⟨?_,rfl,λb h=>by cases h⟩;rintro P w St t v bs ⟨hl,xs,bs',hx,hr,rfl,hst,h0⟩ hn;have⟨n1,n2,n3⟩:=AA.1 hn;have⟨b',q1,q2,q3⟩:=ol h hr n2;refine⟨v.ownBlock.toList++b',⟨hl,xs,b',hx,q1,rfl,hst,λhz=>?_⟩,λg hg=>?_,AA.2 ⟨n1,q3,λa ha b hb=>n3 a ha b<|q2 b hb⟩⟩
 ·rw[h0 hz]at h;exact h
 ·rcases Ak.1 hg with h|h
  ·exact AF _ h
  ·exact Az _<|q2 g h
section
variable {P:Program}{nt:Nat}{base:Bs}{bx:zN}{St0:Nat->Nat->Prop}{w0 w:World}{σ σ':PS}{a:Act}{K:PS->Prop}{o:Oper}
def wK(j:∀s,σ' s=.undef∨Kp (σ s) (σ' s))(u:∀s b,D3 (σ' s)=some b->σ' b≠.undef)(v:Rel P nt bx base St0 w0 σ a w):Rel P nt bx base St0 w0 σ' a w:=by
 have⟨m,B,h,d,f,x⟩:=v
 have n:∀s,∃b:zN,Cr P w m (tm a) (σ' s) (tm a s) b∧(∀g∈b,g∈B s)∧b.Nodup:=by
  intro s;rcases j s with e|k
  ·exact⟨[],by rw[e];rfl,by simp,AP⟩
  ·exact k.rd P w m (tm a) (tm a s) (B s) (h.slot s)<|h.nodup s
 have⟨B',p⟩:=Classical.axiomOfChoice n;have c:∀s,∀g∈B' s,g∈B s:=λs=>(p s).2.1
 refine⟨m,B',?_,d,f,x⟩;exact
 {h with
  slot:=λs=>(p s).1
  boxes:=λs cs e=>by
   rcases j s with i|k
   ·rw[i]at e;cases e
   ·have d:=k.bx;rw[e]at d;have⟨ds,y⟩:=G0.1 d.symm;exact h.boxes s ds y
  crefs:=λs b e=>by
   rcases j s with i|k
   ·rw[i]at e;cases e
   ·have⟨cs,q⟩:=h.crefs s b (k.rf b e);rcases j b with i|z
    ·exact absurd i<|u s b e
    ·have d:=z.bx;rw[q]at d;exact G0.1 d
  nodup:=λs=>(p s).2.2
  apart:=λs t f g l r=>h.apart s t f g (c s g l)<|c t g r
  hapart:=λs g l=>by simp
  range:=λs g l=>h.range s g (c s g l)}
def z7{d c'}(c:Kp (σ d) c')(i:c'≠.undef)(j:Rel P nt bx base St0 w0 σ a w)(f:∀s b,D3 (σ s)=some b->σ b≠.undef):Rel P nt bx base St0 w0 (upd σ d c') a w:=by
 refine wK (λs=>.inr ?_) (λs b e=>?_) j
 ·by_cases e:s=d
  ·subst e;rw[upd_same];exact c
  ·rw[upd_ne _ _ e];exact kr
 ·by_cases g:b=d
  ·subst g;rw[upd_same];exact i
  ·rw[upd_ne _ _ g];by_cases h:s=d
   ·subst h;rw[upd_same]at e;exact f s b<|c.rf b e
   ·rw[upd_ne _ _ h]at e;exact f s b e
def jb{o:Oper}{a:Act}{K e:Act->World->Prop}{R:Exit->Act->World->Prop}(b:∀a w,K a w->e a w):∀r,o.upon P a K R r->o.upon P a e R r:=by
 intro r h;unfold Oper.upon at *;split<;>simp only at h
 ·exact b _ _ h
 ·exact b _ _ h
 ·exact b _ _ h
 ·refine Calls.mono h ?_;rintro(v|c|_) w' d
  ·exact b _ _ d
  ·exact d
  ·exact d
 ·exact Rows.mono h<|λv w' d=>b _ _ d
 ·exact h
def AfG{σA:PS}{d:Nat}{c':V}(h:V5 P nt bx base St0 w0 o σ (λσ'=>σ'=σA))(i:Kp (σA d) c')(j:c'≠.undef)(k:K (upd σA d c')):V5 P nt bx base St0 w0 o σ K:=by intro a w Q l;have g:=h a w Q l;unfold Oper.wp at g⊢;refine jb (λa' w' m=>?_) _ g;obtain⟨σ',e,c⟩:=m;subst e;refine⟨_,k,z7 i j c<|λs b e=>?_⟩;obtain⟨q,B,n,_⟩:=c;obtain⟨cs,f⟩:=n.crefs s b e;intro p;rw[p]at f;cases f
end
end
section
mutual
def deep:V->Bool
 |.tok _=>true
 |.int _ _=>true
 |.bool _=>true
 |.str _=>true
 |.own _ _ cs=>Cw cs
 |.agg cs=>Cw cs
 |_=>false
def Cw:List V->Bool
 |[]=>true
 |c::cs=>deep c&&Cw cs
end
structure FrB (bs:zN) (w w':World):Prop where
 os:w'.os=w.os
 tape:w'.tape=w.tape
 output:w'.output=w.output
 size:w.heap.size<=w'.heap.size
 block:∀g,g < w.heap.size->g∉bs->w'.heap[g]? =w.heap[g]?
def FrB.refl(bs:zN)(w:World):FrB bs w w:=⟨rfl,rfl,rfl,AJ _,λ_ _ _=>rfl⟩
def FrB.trans{bs a b c}(h:FrB bs a b)(k:FrB bs b c):FrB bs a c:=
 ⟨k.os.trans h.os,k.tape.trans h.tape,k.output.trans h.output,BC h.size k.size,λg d e=>(k.block g (Bz d h.size) e).trans<|h.block g d e⟩
def FrB.more{bs bs' a b}(h:FrB bs a b)(hs:∀g∈bs,g∈bs'):FrB bs' a b:=⟨h.os,h.tape,h.output,h.size,λg hg hb=>h.block g hg<|λhm=>hb<|hs g hm⟩
def FrB.set{bs w g p}(a:g∈bs)(u:Value):FrB bs w (w.setCell ⟨g,p,none⟩ u):=
 ⟨rfl,rfl,rfl,by simp[World.setCell],λk _ b=>Below.heap_setCell _ _ _ _<|λe=>b<|by rw[e];exact a⟩
def FrB.below{bs w w'}(h:Below w.heap.size w w'):FrB bs w w':=⟨h.os,h.tape,h.output,h.size,λg a _=>h.block g a⟩
section
variable {P:Program}{w w':World}{St St':Nat->Nat->Prop}
mutual
def Ow.kept:∀(c:V) {v:Value}{bs:zN},deep c=true->Ow P w St c v bs->(∀g∈bs,w'.heap[g]? =w.heap[g]? ∧∀o,St' g o↔St g o)->Ow P w' St' c v bs
 |.tok _,_,_,_,⟨b,d⟩,_=>⟨b,d⟩
 |.int _ _,_,_,_,⟨b,d⟩,_=>⟨b,d⟩
 |.bool _,_,_,_,⟨b,d⟩,_=>⟨b,d⟩
 |.str _,_,_,_,⟨b,d⟩,_=>⟨b,d⟩
 |.own e n cs,v,bs,a,⟨p,xs,k,b,d,j,q,s⟩,i=>by
  refine⟨p,xs,k,?_,Bn.kept cs a d<|λg f=>i g<|by rw[j];exact Az _ f,j,λg f o=>?_,s⟩
  ·refine⟨b.1,?_⟩;rcases b.2 with h|⟨g,l,m,rfl,f,t,r⟩
   ·exact .inl h
   ·exact .inr ⟨g,l,m,rfl,f,by rw[(i g<|by rw[j];simp[Value.ownBlock]).1];exact t,r⟩
  ·rw[(i g<|by rw[j,f];simp).2 o];exact q g f o
 |.agg cs,_,_,a,⟨us,e,h⟩,i=>⟨us,e,Bn.kept cs a h i⟩
 |.dat _ _,_,_,a,_,_=>by cases a
 |.arg _ _,_,_,a,_,_=>by cases a
 |.pin _ _ _,_,_,a,_,_=>by cases a
 |.tup _,_,_,a,_,_=>by cases a
 |.box _,_,_,a,_,_=>by cases a
 |.uni _ _ _,_,_,a,_,_=>by cases a
 |.same _,_,_,a,_,_=>by cases a
 |.val _ _,_,_,a,_,_=>by cases a
 |.cref _ _,_,_,a,_,_=>by cases a
 |.adr _ _,_,_,a,_,_=>by cases a
 |.gh _ _,_,_,a,_,_=>by cases a
 |.undef,_,_,a,_,_=>by cases a
def Bn.kept:∀(cs:List V) {us:List Value}{bs:zN},Cw cs=true->Bn P w St cs us bs->(∀g∈bs,w'.heap[g]? =w.heap[g]? ∧∀o,St' g o↔St g o)->Bn P w' St' cs us bs
 |[],_,_,_,h,_=>h
 |c::cs,_,_,i,⟨u,b,b1,b2,j,d,k,l,m⟩,f=>by
  have a:deep c=true∧Cw cs=true:=by simpa[Cw]using i
  exact⟨u,b,b1,b2,j,d,k,Ow.kept c a.1 l<|λg e=>f g<|by rw[d];exact AF _ e,Bn.kept cs a.2 m<|λg e=>f g<|by rw[d];exact Az _ e⟩
end
end
mutual
def Nd:V->Bool
 |.int _ _=>true
 |.bool _=>true
 |.str _=>true
 |.arg _ cs=>HF cs
 |.tok _=>true
 |_=>false
def HF:List V->Bool
 |[]=>true
 |c::cs=>Nd c&&HF cs
end
mutual
def QM:V->Bool
 |.tok _=>true
 |.int _ _=>true
 |.bool _=>true
 |.str _=>true
 |.own _ _ cs=>EF cs
 |.agg cs=>EF cs
 |.arg _ cs=>HF cs
 |_=>false
def EF:List V->Bool
 |[]=>true
 |c::cs=>QM c&&EF cs
end
mutual
def AjP:∀{c:V},deep c=true->QM c=true
 |.tok _,_=>rfl
 |.int _ _,_=>rfl
 |.bool _,_=>rfl
 |.str _,_=>rfl
 |.own _ _ cs,h=>by rw[QM];exact UR (by rw[deep]at h;exact h)
 |.agg cs,h=>by rw[QM];exact UR (by rw[deep]at h;exact h)
 |.dat _ _,h=>by cases h
 |.arg _ _,h=>by cases h
 |.pin _ _ _,h=>by cases h
 |.tup _,h=>by cases h
 |.box _,h=>by cases h
 |.uni _ _ _,h=>by cases h
 |.same _,h=>by cases h
 |.val _ _,h=>by cases h
 |.cref _ _,h=>by cases h
 |.adr _ _,h=>by cases h
 |.gh _ _,h=>by cases h
 |.fn _,h=>by cases h
 |.undef,h=>by cases h
def UR:∀{cs:List V},Cw cs=true->EF cs=true
 |[],_=>rfl
 |c::cs,h=>by rw[Cw,Aa]at h;rw[EF,AjP h.1,UR h.2];rfl
end
def xa{c}(h:Nd c=true):QM c=true:=by
 cases c with
 |arg n cs=>rw[QM];rw[Nd]at h;exact h
 |_=>first|rfl|cases h
def Ri:∀{cs:List V},EF cs=true↔∀c∈cs,QM c=true
 |[]=>by simp[EF]
 |c::cs=>by rw[EF,Aa,Ri (cs:=cs)];simp
def sdF{α:Type}{f}(h:∀x,EF (f x)=true)(l:List α):EF (l.flatMap f)=true:=Ri.2 λc b=>by have⟨a,_,b⟩:=BU.1 b;exact Ri.1 (h a) c b
def RO(c:V):Bool:=QM c
def KT:V->Bool
 |.undef=>true
 |.agg cs=>cs.all RO
 |.box cs=>cs.all RO
 |.cref _ _=>true
 |.same _=>true
 |.val _ _=>true
 |.own _ _ cs=>EF cs
 |.gh _ cs=>EF cs
 |.arg _ cs=>HF cs
 |.int _ _=>true
 |.bool _=>true
 |.str _=>true
 |.tok _=>true
 |_=>false
section
variable {P:Program}{w w':World}{St St':Nat->Nat->Prop}{bs:zN}
mutual
def Rd.tM(hf:FrB bs w w')(hl:∀g∈bs,∃o,¬St g o)(hst:∀b o,St b o->b < w.heap.size)(hS:∀k o,k∉bs->St k o->St' k o):∀(c:V) {v:Value},Nd c=true->Rd w St c v->Rd w' St' c v
 |.int _ _,_,_,h=>h
 |.bool _,_,_,h=>h
 |.str _,_,_,h=>h
 |.arg _ cs,_,hd,⟨hn,A,c,e,hc,h,h0⟩=>⟨hn,A,c,e,hc,λhp=>let⟨b,off,ea,hw,hr⟩:=h hp;⟨b,off,ea,λhne o=>hS b o (λhb=>let⟨o',ho⟩:=hl b hb;ho<|hw hne o')<|hw hne o,Dp.tM hf hl hst hS b (cs0:=cs) (λhne hb=>let⟨o,ho⟩:=hl b hb;ho<|hw hne o) off cs hd (λh=>h) hr⟩,h0⟩
 |.own _ _ _,_,hd,_=>by cases hd
 |.dat _ _,_,hd,_=>by cases hd
 |.pin _ _ _,_,hd,_=>by cases hd
 |.agg _,_,hd,_=>by cases hd
 |.tup _,_,hd,_=>by cases hd
 |.box _,_,hd,_=>by cases hd
 |.uni _ _ _,_,hd,_=>by cases hd
 |.same _,_,hd,_=>by cases hd
 |.val _ _,_,hd,_=>by cases hd
 |.cref _ _,_,hd,_=>by cases hd
 |.adr _ _,_,hd,_=>by cases hd
 |.gh _ _,_,hd,_=>by cases hd
 |.tok _,_,_,h=>h
 |.undef,_,hd,_=>by cases hd
def Dp.tM(h:FrB bs w w')(j:∀g∈bs,∃o,¬St g o)(a:∀b o,St b o->b < w.heap.size)(i:∀k o,k∉bs->St k o->St' k o)(b:Nat){cs0:List V}(l:cs0≠[]->b∉bs):∀(off:Nat) (cs:List V),HF cs=true->(cs≠[]->cs0≠[])->Dp w St b off cs->Dp w' St' b off cs
 |_,[],_,_,_=>trivial
 |off,c::cs,n,d,⟨⟨m,u,p,q⟩,r⟩=>by
  have e:Nd c=true∧HF cs=true:=by simpa[HF]using n
  have f:=l<|d<|by simp
  exact⟨⟨i b off f m,u,(B6 (w:=w)<|h.block b (a b off m) f).trans p,Rd.tM h j a i c e.1 q⟩,Dp.tM h j a i b l (off+1) cs e.2 (λ_=>d<|by simp) r⟩
end
mutual
def Ow.Sv:∀(c:V) {v:Value}{b:zN},deep c=true->Ow P w St c v b->∀g∈b,∃o,¬St g o
 |.tok _,_,_,_,h,g,hg=>by rw[h.1]at hg;cases hg
 |.int _ _,_,_,_,h,g,hg=>by rw[h.1]at hg;cases hg
 |.bool _,_,_,_,h,g,hg=>by rw[h.1]at hg;cases hg
 |.str _,_,_,_,h,g,hg=>by rw[h.1]at hg;cases hg
 |.own e n cs,v,b,hd,⟨hn,xs,bs',h1,h2,h3,h4,h5⟩,g,hg=>by
  rw[h3]at hg;rcases Ak.1 hg with hg|hg
  ·exact⟨n * Ub P e,λhs=>absurd ((h4 g (by simpa using hg) _).1 hs)<|J6 _⟩
  ·exact Bn.Sv cs hd h2 g hg
 |.agg cs,_,_,hd,⟨us,e,h⟩,g,hg=>Bn.Sv cs hd h g hg
 |.dat _ _,_,_,hd,_,_,_=>by cases hd
 |.arg _ _,_,_,hd,_,_,_=>by cases hd
 |.pin _ _ _,_,_,hd,_,_,_=>by cases hd
 |.tup _,_,_,hd,_,_,_=>by cases hd
 |.box _,_,_,hd,_,_,_=>by cases hd
 |.uni _ _ _,_,_,hd,_,_,_=>by cases hd
 |.same _,_,_,hd,_,_,_=>by cases hd
 |.val _ _,_,_,hd,_,_,_=>by cases hd
 |.cref _ _,_,_,hd,_,_,_=>by cases hd
 |.adr _ _,_,_,hd,_,_,_=>by cases hd
 |.gh _ _,_,_,hd,_,_,_=>by cases hd
 |.undef,_,_,hd,_,_,_=>by cases hd
def Bn.Sv:∀(cs:List V) {us:List Value}{b:zN},Cw cs=true->Bn P w St cs us b->∀g∈b,∃o,¬St g o
 |[],_,_,_,h,g,a=>by rw[h.2]at a;cases a
 |c::cs,_,_,e,⟨u,f,b1,b2,l,i,m,j,k⟩,g,a=>by
  have d:deep c=true∧Cw cs=true:=by simpa[Cw]using e
  rw[i]at a;rcases Ak.1 a with a|a
  ·exact Ow.Sv c d.1 j g a
  ·exact Bn.Sv cs d.2 k g a
end
def xT{c v b}(a:Nd c=true)(h:Ow P w St c v b):b=[]∧Rd w St c v:=by cases c<;>first|exact h|cases a
def zJ{c v}(a:Nd c=true)(h:Rd w St c v):Ow P w St c v []:=by cases c<;>first|exact⟨rfl,h⟩|cases a
mutual
def Ow.Ws(q:FrB bs w w')(s:∀g∈bs,∃o,¬St g o)(i:∀b o,St b o->b < w.heap.size)(t:∀k o,k∉bs->St k o->St' k o):∀(c:V) {v:Value}{b:zN},QM c=true->Ow P w St c v b->(∀g∈b,w'.heap[g]? =w.heap[g]? ∧∀o,St' g o↔St g o)->Ow P w' St' c v b
 |.tok _,_,_,_,⟨f,d⟩,_=>⟨f,d⟩
 |.int _ _,_,_,_,⟨f,d⟩,_=>⟨f,d⟩
 |.bool _,_,_,_,⟨f,d⟩,_=>⟨f,d⟩
 |.str _,_,_,_,⟨f,d⟩,_=>⟨f,d⟩
 |.own e n cs,v,b,a,⟨z,xs,u,f,d,p,A,B⟩,m=>by
  refine⟨z,xs,u,?_,Bn.Ws q s i t cs (by rw[QM]at a;exact a) d<|λg l=>m g<|by rw[p];exact Az _ l,p,λg l o=>by rw[(m g<|by rw[p,l];simp).2 o];exact A g l o,B⟩;refine⟨f.1,?_⟩;rcases f.2 with h|⟨g,x,y,rfl,l,C,r⟩
  ·exact .inl h
  ·exact .inr ⟨g,x,y,rfl,l,by rw[(m g<|by rw[p];simp[Value.ownBlock]).1];exact C,r⟩
 |.agg cs,_,_,a,⟨us,e,h⟩,m=>⟨us,e,Bn.Ws q s i t cs (by rw[QM]at a;exact a) h m⟩
 |.arg n cs,_,_,a,h,_=>by
  have j:Nd (.arg n cs)=true:=by rw[Nd];rw[QM]at a;exact a
  obtain⟨rfl,d⟩:=xT j h;exact zJ j<|Rd.tM q s i t _ j d
 |.dat _ _,_,_,a,_,_=>by cases a
 |.pin _ _ _,_,_,a,_,_=>by cases a
 |.tup _,_,_,a,_,_=>by cases a
 |.box _,_,_,a,_,_=>by cases a
 |.uni _ _ _,_,_,a,_,_=>by cases a
 |.same _,_,_,a,_,_=>by cases a
 |.val _ _,_,_,a,_,_=>by cases a
 |.cref _ _,_,_,a,_,_=>by cases a
 |.adr _ _,_,_,a,_,_=>by cases a
 |.gh _ _,_,_,a,_,_=>by cases a
 |.fn _,_,_,a,_,_=>by cases a
 |.undef,_,_,a,_,_=>by cases a
def Bn.Ws(j:FrB bs w w')(l:∀g∈bs,∃o,¬St g o)(a:∀b o,St b o->b < w.heap.size)(m:∀k o,k∉bs->St k o->St' k o):∀(cs:List V) {us:List Value}{b:zN},EF cs=true->Bn P w St cs us b->(∀g∈b,w'.heap[g]? =w.heap[g]? ∧∀o,St' g o↔St g o)->Bn P w' St' cs us b
 |[],_,_,_,h,_=>h
 |c::cs,_,_,n,⟨u,e,b1,b2,q,f,r,s,t⟩,p=>by
  have d:QM c=true∧EF cs=true:=by rw[EF,Aa]at n;exact n
  exact⟨u,e,b1,b2,q,f,r,Ow.Ws j l a m c d.1 s<|λg i=>p g<|by rw[f];exact AF _ i,Bn.Ws j l a m cs d.2 t<|λg i=>p g<|by rw[f];exact Az _ i⟩
end
def i4(d:FrB bs w w')(e:∀g∈bs,∃o,¬St g o)(a:∀b o,St b o->b < w.heap.size)(f:∀k o,k∉bs->St k o->St' k o){c:V}{v:Value}{b:zN}(i:RO c=true)(h:Ow P w St c v b)(j:∀g∈b,w'.heap[g]? =w.heap[g]? ∧∀o,St' g o↔St g o):Ow P w' St' c v b:=Ow.Ws d e a f c i h j
def fy(j:FrB bs w w')(l:∀g∈bs,∃o,¬St g o)(a:∀b o,St b o->b < w.heap.size)(m:∀k o,k∉bs->St k o->St' k o):∀(cs:List V) {us:List Value}{b:zN},cs.all RO=true->Bn P w St cs us b->(∀g∈b,w'.heap[g]? =w.heap[g]? ∧∀o,St' g o↔St g o)->Bn P w' St' cs us b
 |[],_,_,_,h,_=>h
 |c::cs,_,_,d,⟨u,e,b1,b2,p,f,q,r,s⟩,n=>by simp only[By,Aa]at d;exact⟨u,e,b1,b2,p,f,q,i4 j l a m d.1 r<|λg i=>n g<|by rw[f];exact AF _ i,fy j l a m cs d.2 s<|λg i=>n g<|by rw[f];exact Az _ i⟩
def SB(j:FrB bs w w')(l:∀g∈bs,∃o,¬St g o)(a:∀b o,St b o->b < w.heap.size)(m:∀k o,k∉bs->St k o->St' k o){t:Nat->Value}{c:V}{v:Value}{b:zN}(d:KT c=true)(h:Cr P w St t c v b)(i:∀g∈b,w'.heap[g]? =w.heap[g]? ∧∀o,St' g o↔St g o):Cr P w' St' t c v b:=by
 cases c with
 |undef=>exact h
 |agg cs=>have⟨us,e,h⟩:=h;exact⟨us,e,fy j l a m cs d h i⟩
 |box cs=>obtain⟨g,T,p,q,r,y,z,rfl,A⟩:=h;exact⟨g,T,p,q,r,by rw[(i g<|by simp).1];exact y,fy j l a m cs d z<|λx B=>i x<|by simp[B],rfl,λo C=>A o<|((i g<|by simp).2 o).1 C⟩
 |cref s off=>exact h
 |same s=>exact h
 |val s u=>exact h
 |own e n cs=>exact Ow.Ws j l a m (.own e n cs) (by rw[QM];exact d) h i
 |arg n cs=>exact i4 (P:=P) (c:=.arg n cs) j l a m (by rw[RO,QM];exact d) h i
 |int k n=>exact h
 |bool k=>exact h
 |str k=>exact h
 |dat n cs=>cases d
 |pin u n cs=>cases d
 |fn f=>cases d
 |tok u=>exact h
 |gh us cs=>exact Bn.Ws j l a m cs d h i
 |tup cs=>cases d
 |uni e n cs=>cases d
 |adr cs o=>cases d
end
section
variable {P:Program}{nt:Nat}{base:Bs}{bx:zN}{St St' St0:Nat->Nat->Prop}{B:Nat->zN}{hand:zN}{σ σ':PS}{a:Act}{w w' w0:World}{K:PS->Prop}
def sv(h:HSim P nt bx base St B hand σ a w){s:Nat}{c':V}{bs:zN}(hbs:∀g∈bs,g∈B s)(hf:FrB bs w w')(hl:∀g∈bs,∃o,¬St g o)(hs:∀q,q≠s->KT (σ q)=true)
  (hc:Cr P w' St (tm a) c' (tm a s) (B s)) (hb:(C6 c').isSome=(C6<|σ s).isSome) (hrf:D3 c'=none):HSim P nt bx base St B hand (upd σ s c') a w':=by
 have hsome:∀cs,C6 c'=some cs->∃ds,C6 (σ s)=some ds:=λcs e=>by
  rw[e]at hb;cases hx:C6 (σ s)with
  |none=>rw[hx]at hb;cases hb
  |some ds=>exact⟨ds,rfl⟩
 have hsome':∀cs,C6 (σ s)=some cs->∃ds,C6 c'=some ds:=λcs e=>by
  rw[e]at hb;cases hx:C6 c' with
  |none=>rw[hx]at hb;cases hb
  |some ds=>exact⟨ds,rfl⟩
 exact
 {h with
  slot:=λq=>by
   by_cases e:q=s
   ·subst e;rw[upd_same];exact hc
   ·rw[upd_ne _ _ e];exact SB hf hl h.st (λ_ _ _ h=>h) (hs q e) (h.slot q)<|λg hg=>⟨hf.block g (h.range q g hg).2<|λhm=>h.apart q s e g hg<|hbs g hm,λ_=>CY⟩
  boxes:=λq cs e=>by
   by_cases eq:q=s
   ·subst eq;rw[upd_same]at e;have⟨ds,hd⟩:=hsome cs e;exact h.boxes q ds hd
   ·rw[upd_ne _ _ eq]at e;exact h.boxes q cs e
  crefs:=λq b e=>by
   by_cases eq:q=s
   ·subst eq;rw[upd_same,hrf]at e;cases e
   ·rw[upd_ne _ _ eq]at e;have⟨cs,hcs⟩:=h.crefs q b e;by_cases eb:b=s
    ·subst eb;rw[upd_same];exact hsome' cs hcs
    ·rw[upd_ne _ _ eb];exact⟨cs,hcs⟩
  range:=λq g hg=>⟨(h.range q g hg).1,Bz (h.range q g hg).2 hf.size⟩
  hrange:=λg hg=>⟨(h.hrange g hg).1,Bz (h.hrange g hg).2 hf.size⟩
  st:=λb o hs=>Bz (h.st b o hs) hf.size
  gl:=h.gl.of (λb hb o=>hb o) (λb o hb=>B6 (hf.block b (h.st b o (hb o)) λhm=>(hl b hm).elim λo' ho=>ho (hb o')))}
end
end
section
def gS:Nat:=900003
def gU:Nat:=900004
def yT:Operand->zN
 |.tmp t=>[t]
 |_=>[]
section
variable {P:Program}{nt:Nat}{base:Bs}{bx:zN}{St St' St0:Nat->Nat->Prop}{B:Nat->zN}{hand:zN}{σ σ':PS}{a:Act}{w w' w0:World}{K:PS->Prop}{o:Oper}
def oB(h:HSim P nt bx base St B hand σ a w){s g:Nat}{c':V}{bs:zN}(hg:g∈B s)(hf:FrB [g] w w')(hl:∃o,¬St g o)(hs:∀q,q≠s->KT (σ q)=true)(hbx:C6 (σ s)=none)(hbx':C6 c'=none)(hrf:D3 c'=none)
  (hc:Cr P w' St (tm a) c' (tm a s) bs) (hn:bs.Nodup) (hsub:∀k∈bs,k∈B s∨k∈hand):HSim P nt bx base St (upd B s bs) [] (upd σ s c') a w':=by
 have hother:∀q,q≠s->∀k∈B q,k∉bs:=λq hq k hk hm=>by
  rcases hsub k hm with h1|h1
  ·exact h.apart q s hq k hk h1
  ·exact h.hapart q k hk h1
 have hrange:∀k∈bs,¬base k∧k < w.heap.size:=λk hk=>by
  rcases hsub k hk with h1|h1
  ·exact h.range s k h1
  ·exact h.hrange k h1
 exact
 {h with
  slot:=λq=>by
   by_cases e:q=s
   ·subst e;rw[upd_same,upd_same];exact hc
   ·rw[upd_ne _ _ e,upd_ne _ _ e];exact SB hf (λk hk=>by simp only[AC]at hk;subst hk;exact hl) h.st (λ_ _ _ h=>h) (hs q e) (h.slot q)<|λk hk=>⟨hf.block k (h.range q k hk).2 (λhm=>by simp only[AC]at hm;subst hm;exact h.apart q s e k hk hg),λ_=>CY⟩
  boxes:=λq cs e=>by
   by_cases eq:q=s
   ·subst eq;rw[upd_same,hbx']at e;cases e
   ·rw[upd_ne _ _ eq]at e;exact h.boxes q cs e
  crefs:=λq b e=>by
   by_cases eq:q=s
   ·subst eq;rw[upd_same,hrf]at e;cases e
   ·rw[upd_ne _ _ eq]at e;have⟨cs,hcs⟩:=h.crefs q b e;exact⟨cs,by rw[upd_ne _ _ (λeb=>by subst eb;rw[hbx]at hcs;cases hcs)];exact hcs⟩
  nodup:=λq=>by
   by_cases e:q=s
   ·subst e;rw[upd_same];exact hn
   ·rw[upd_ne _ _ e];exact h.nodup q
  apart:=λq r hqr k hk hk'=>by
   by_cases e:q=s
   ·subst e;rw[upd_same]at hk;rw[upd_ne _ _ (Ne.symm hqr)]at hk';exact hother r (Ne.symm hqr) k hk' hk
   ·rw[upd_ne _ _ e]at hk;by_cases e':r=s
    ·subst e';rw[upd_same]at hk';exact hother q e k hk hk'
    ·rw[upd_ne _ _ e']at hk';exact h.apart q r hqr k hk hk'
  hnodup:=AP
  hapart:=λ_ _ _=>by simp
  range:=λq k hk=>by
   by_cases e:q=s
   ·subst e;rw[upd_same]at hk;exact⟨(hrange k hk).1,Bz (hrange k hk).2 hf.size⟩
   ·rw[upd_ne _ _ e]at hk;exact⟨(h.range q k hk).1,Bz (h.range q k hk).2 hf.size⟩
  hrange:=by simp
  st:=λb o hs=>Bz (h.st b o hs) hf.size
  gl:=h.gl.of (λb hb o=>hb o) (λb o hb=>B6 (hf.block b (h.st b o (hb o)) λhm=>by simp only[AC]at hm;subst hm;exact hl.elim λo' ho=>ho (hb o')))}
def Z4:∀{cs:List V},Cw cs=true↔∀c∈cs,deep c=true
 |[]=>by simp[Cw]
 |c::cs=>by rw[Cw,Aa,Z4 (cs:=cs)];simp
def s6{e n off g m cs new vs b1 bs}(h:Ow P w St (.own e n cs) (.slice (some ⟨g,0,none⟩) n m) b1)(hn:b1.Nodup)(hbn:bs.Nodup)(F:∀k∈bs,k∉b1)
  (hd:EF cs=true) (hd':EF new=true) (H:∀b o,St b o->b < w.heap.size) (z:Bn P w St new vs bs) (hl:off+new.length<=cs.length):
  g∈b1∧(∃o,¬St g o)∧∃f:Array Value,w.heap[g]? =some (.cells f e (0,0))∧off+vs.length<=f.size∧∃b2,Ow P (w.setRow g (f.toList.take off++vs++f.toList.drop (off+vs.length)).toArray) St (.own e n<|Rf cs off new) (.slice (some ⟨g,0,none⟩) n m) b2∧b2.Nodup∧∀k∈b2,k∈b1∨k∈bs:=by
 have⟨hn1,xs,I,R,J,hb1,L,h0⟩:=h;have S:b1=g::I:=by rw[hb1];rfl
 subst S;have⟨C,hr⟩:=R;rcases hr with⟨hr,_⟩|⟨g',cap,f,eg,hg0,hh,q1,q2,q3,q4⟩
 ·cases hr
 cases eg;have lx:xs.length=cs.length:=J.length;have lv:vs.length=new.length:=z.length
 have hN:n * Ub P e<=f.size:=by
  have:(f.toList.take<|n * Ub P e).length=n * Ub P e:=by rw[q4];exact C
  rw[At,BR]at this;omega
 have hle:off+vs.length<=n * Ub P e:=by rw[<-C,lx,lv];exact hl
 have e0:=kz cs off new.length;rw[e0]at J;have⟨j,us2,T,c2,eu,eb,r1,r2⟩:=Bn.app J;have⟨U,p,c3,W,X,Y,r3,r4⟩:=Bn.app r2;have l1:j.length=off:=by rw[r1.length,At,C8 (by omega)]
 have l3:U.length=new.length:=by rw[r3.length,At,Bx,C8 (by omega)]
 have D:=BF.1 hn
 have q:∀k,k∈T∨k∈W->k∈I:=by
  intro k d;rw[eb,Y];simp only[Ak];rcases d with d|d
  ·exact .inl d
  ·exact .inr<|.inr d
 have i:∀(A:Array Value) (k:Nat),k≠g->(w.setRow g A).heap[k]? =w.heap[k]?:=λA k d=>Ks w g k _ d
 have r:=BH (a:=g) (l:=I);have s:=Ri.1 hd;have M:∃o,¬St g o:=⟨n * Ub P e,λhs=>absurd ((L g rfl _).1 hs)<|J6 _⟩;have N:∀A:Array Value,FrB [g] w (w.setRow g A):=λA=>⟨rfl,rfl,rfl,by simp[World.setRow],λk _ d=>Ks w g k _<|by simpa using d⟩
 have O:∀k∈[g],∃o,¬St k o:=λk d=>by simp only[AC]at d;subst d;exact M
 refine⟨r,⟨n * Ub P e,λhs=>absurd ((L g rfl _).1 hs)<|J6 _⟩,f,hh,by omega,?_⟩;have Z:(T++(c3++W)).Nodup:=by rw[<-Y,<-eb];exact D.2
 have t:=AA.1 Z;have hnd5:=AA.1 t.2.1;have hgb:∀k∈bs,k≠g:=λk d e=>F k d<|e ▸ r
 have u:∀k,k∈T∨k∈W->k≠g:=λk d e=>D.1<|e ▸ q k d
 generalize hA:(f.toList.take off++vs++f.toList.drop (off+vs.length))=A;have m1:=Bn.Ws (N A.toArray) O H (λ_ _ _ h=>h) (cs.take off) (Ri.2 λc hc=>s c<|CB hc) r1<|λk d=>⟨i _ k<|u k<|.inl d,λ_=>CY⟩
 have m4:=Bn.Ws (N A.toArray) O H (λ_ _ _ h=>h) (cs.drop<|off+new.length) (Ri.2 λc hc=>s c<|GW hc) r4<|λk d=>⟨i _ k<|u k<|.inr d,λ_=>CY⟩
 have mv:=Bn.Ws (N A.toArray) O H (λ_ _ _ h=>h) new hd' z<|λk d=>⟨i _ k<|hgb k d,λ_=>CY⟩
 have hx':A.take (n * Ub P e)=j++(vs++p):=by
  have e1:j=f.toList.take off:=by
   have h2:xs.take off=j:=by rw[eu,<-l1,List.take_left]
   rw[<-h2,<-q4,List.take_take,C8 (by omega)]
  have e4:p=(f.toList.drop<|off+vs.length).take (n * Ub P e - (off+vs.length)):=by
   have h2:xs.drop (off+vs.length)=p:=by rw[eu,X,<-Bk,DA (by simp[l1,l3,lv]),CI (by simp[l1,l3,lv]),BI]
   rw[<-h2,<-q4,NZ]
  rw[<-hA,<-e1,Bk,Pf,C7 (by omega),Pf,C7 (by omega),e4];congr 3;omega
 refine⟨g::(T++(bs++W)),⟨hn1,j++(vs++p),T++(bs++W),⟨?_,.inr ⟨g,m,A.toArray,rfl,hg0,setRow_heap w g f _ e _ hh,q1,q2,?_,by simpa using hx'⟩⟩,?_,rfl,L,λhz=>?_⟩,?_,?_⟩
 ·have:xs.length=j.length+(U.length+p.length):=by rw[eu,X];simp
  simp only[Au];omega
 ·rw[<-q3,<-hA];simp;omega
 ·unfold Rf;rw[Bk];exact m1.join<|mv.join m4
 ·have:=h0 hz;subst this;simp only[Cl,Nat.le_zero_eq,Nat.add_eq_zero_iff]at hl;have:=Bp hl.2;subst this;simp[Rf]
 ·refine BF.2 ⟨?_,AA.2 ⟨t.1,AA.2 ⟨hbn,hnd5.2.1,λx hx y Q e=>F x hx<|A3 _<|e ▸ q y (.inr Q)⟩,?_⟩⟩
  ·intro v;rcases Ak.1 v with v|v
   ·exact u g (.inl v) rfl
   ·rcases Ak.1 v with v|v
    ·exact hgb g v rfl
    ·exact u g (.inr v) rfl
  ·intro x hx y Q e;rcases Ak.1 Q with Q|Q
   ·exact F y Q<|A3 _<|e ▸ q x (.inl hx)
   ·exact t.2.2 x hx y (Az _ Q) e
 ·intro k d;rcases AE.1 d with rfl|d
  ·exact .inl r
  ·rcases Ak.1 d with d|d
   ·exact .inl<|A3 _<|q k<|.inl d
   ·rcases Ak.1 d with d|d
    ·exact .inr d
    ·exact .inl<|A3 _<|q k<|.inr d
def Yp{D σ s}(b:D.contains s=false)(c:D3 (σ s)=none):kill D σ s=σ s:=by unfold kill;rw[Ay (by rw[b];simp),c]
def sW{tb}(r:Jr P tb){t:TypeId}{dd:TyD}{x:Operand}{d q g off n m:Nat}{e:TypeId}{cs:List V}(s:o.op=.load t x)(S:tb t=some dd)(y:Nh σ x=.tok (.pointer<|some ⟨g,off,none⟩))(T:σ q=.gh [.slice (some ⟨g,0,none⟩) n m] [.own e n cs])(J:off+dd.size<=cs.length)(U:0 < dd.size)
  (W:o.dst=some d) (X:d < nt) (Y:d∉bx) (Z:K (upd σ d<|getCells dd cs off)):V5 P nt bx base St0 w0 o σ K:=by
 rintro a w Q ⟨St,B,h,hb,z,i⟩;have C:=ZD h y;have L:=h.slot q;rw[T]at L;have⟨u,us',b1,b2,M,eb,_,D,N⟩:=L;simp only[Ds]at M;obtain⟨rfl,-⟩:=M;have j:=Ow.rd (.own e n cs) (show Ow P w St (.own e n cs) _ b1 from D) rfl;simp only[Rd]at j;have⟨hn,A,c,O,hc,k,h0⟩:=j;simp only[Value.slice.injEq]at O;obtain⟨rfl,-⟩:=O
 have F:0 < n:=by
  rcases C1 n with i|i
  ·have:=h0 i;subst this;simp only[Cl]at J;omega
  ·exact i
 have⟨b,R,l,H⟩:=k F;simp only[Ar,Addr.mk.injEq]at l;obtain⟨rfl,rfl,-⟩:=l;have p:=H.drop off;rw[CH]at p;have⟨us,h3,h4⟩:=p.list;have⟨v,I,f⟩:=j8 (r _ _ S) h3 h4 J<|.inl U;have H:(execOp a.eval o).run P w=.ok (.value v) w:=by simp[execOp,s,C,I]
 refine JK H ⟨_,Z,St,upd B d [],?_,hb,z,i⟩;rw[W];exact h.put X Y f.slot AP (by simp) f.DS.1 f.RN
def Af7(σ:PS)(y:Operand)(b:List V):Prop:=((CC σ y).isArg=true∧b=IH (CC σ y))∨(y=.const (.slice none 0 0)∧∃e,b=[.own e 0 []])
def wq{tb:Tb}(O:Jr P tb){t:TypeId}{dd:TyD}{x y:Operand}{e:TypeId}{n off g m:Nat}{cs:List V}(R:o.op=.store t x y)(ht:tb t=some dd)(S:Nh σ x=.tok (.pointer<|some ⟨g,off,none⟩))
  (hg:σ gS=.gh [.slice (some ⟨g,0,none⟩) n m] [.own e n cs]) (hd:EF cs=true) {z:List V}(l:Af7 σ y z) (T:EF z=true) (hn:z.length=dd.size) (hl:off+dd.size<=cs.length) (ho:o.dst=none)
  (D:zN) (U:((yT y).contains gS || D.contains gS)=false) (i:∀q,q≠gS->D.contains q=true∨KT (C5 σ y q)=true)
  (d:K (upd (kill D<|C5 σ y) gS<|.gh [.slice (some ⟨g,0,none⟩) n m] [.own e n (Rf cs off z)])):V5 P nt bx base St0 w0 o σ K:=by
 have W:(CC σ y).isVal=true:=by
  rcases l with⟨l,-⟩|⟨rfl,-⟩
  ·exact Mj l
  ·rfl
 rintro a w Q ⟨St,B,h,hb,X,hz⟩;have Y:=ZD h S;rw[B9]at U;obtain⟨bs,B1,hw,h2,C⟩:=VD h y W;rw[BI]at h2 C
 have Z:∀q,(yT y).contains q=false->C5 σ y q=σ q:=by
  intro q L;cases y with
  |tmp p=>simp only[yT,List.contains_cons,List.contains_nil,FC,Cg,ne_eq]at L;simp only[C5];rw[upd_ne _ _ L]
  |_=>rfl
 obtain⟨B2,r,_,hBs⟩:=Xc D h2
 have hsub3:∀q,∀k∈B2 q,k∈B1 q:=λq k d=>by
  rcases hBs q with e|e
  ·rw[e]at d;cases d
  ·rw[e]at d;exact d
 have F:C5 σ y gS=.gh [.slice (some ⟨g,0,none⟩) n m] [.own e n cs]:=by rw[Z gS U.1];exact hg
 have H:kill D (C5 σ y) gS=.gh [.slice (some ⟨g,0,none⟩) n m] [.own e n cs]:=by rw[Yp U.2 (by rw[F];rfl)];exact F
 have hG:=r.slot gS;rw[H]at hG;obtain⟨u,us',b1,b2,eu,v,_,hOw,I⟩:=hG;simp only[Ds]at eu;obtain⟨rfl,rfl⟩:=eu;have hb2:b2=[]:=I.2;subst hb2;rw[AR]at v;have hnd:b1.Nodup:=by have:=r.nodup gS;rwa [v]at this
 have b:Bn P w St z (a.eval y).cells.toList bs:=by
  rcases l with⟨l,rfl⟩|⟨rfl,e',rfl⟩
  ·exact hw.cells l
  ·have hb0:bs=[]:=hw.1;subst hb0;exact⟨.slice none 0 0,[],[],[],rfl,rfl,rfl,oZ e',rfl,rfl⟩
 have lv:(a.eval y).cells.toList.length=dd.size:=by rw[b.length,hn]
 obtain⟨k1,k2,j,k3,k4,bn,k5,k6,k7⟩:=s6 hOw hnd C (λk d hm=>r.hapart gS k (by rw[v];exact hm) d) hd T r.st b (by rw[hn];exact hl);have f:=run_storeCells_at (P:=P) g off e (a.eval y).cells.toList 0 j w k3 (by rw[CG];exact k4)<|(Bn.rdL _ b).oneCell;simp only[CG]at f;have J:=O _ _ ht;generalize hA:(j.toList.take off++(a.eval y).cells.toList++j.toList.drop (off+(a.eval y).cells.toList.length)).toArray=A at f k5
 have hr:(execOp a.eval o).run P w=.ok .skip (w.setRow g A):=by
  have hsz:(a.eval y).cells.size=dd.size:=by rw[<-lv,BR]
  simp[execOp,R,Y,Instr.storeAt,Instr.sureAddr,storeVar,J.sizeOf,hsz,f]
 have c:(w.setRow g A).heap.size=w.heap.size:=by simp[World.setRow]
 have hf:FrB [g] w (w.setRow g A):=⟨rfl,rfl,rfl,by rw[c];exact AJ _,λk _ d=>Ks w g k _<|by simpa using d⟩;have hgb:¬base g:=(r.range gS g<|by rw[v];exact k1).1;refine pz hr ⟨_,d,St,upd B2 gS bn,?_,?_,X,by rw[c];exact hz⟩
 ·rw[ho];refine oB r (s:=gS) (g:=g) (by rw[v];exact k1) hf k2 (λq L=>?_) (by rw[H];rfl) rfl rfl ⟨_,[],bn,[],rfl,by simp,rfl,k5,rfl,rfl⟩ k6 (λk d=>by rw[v];exact k7 k d);rcases TQ D (C5 σ y) q with M|M
  ·rw[M];rfl
  ·rw[M];cases hc:D.contains q with
   |true=>rw[<-M,Vk hc];rfl
   |false=>
    rcases i q L with N|N
    ·rw[hc]at N;cases N
    ·exact N
 ·exact hb.trans ⟨rfl,rfl,rfl,by rw[c];exact AJ _,λk d=>Ks w g k _<|λe=>hgb<|e ▸ d⟩
end
end
end Go.Proofs.YtdnlfoelbfcmnaaGreatDoor
