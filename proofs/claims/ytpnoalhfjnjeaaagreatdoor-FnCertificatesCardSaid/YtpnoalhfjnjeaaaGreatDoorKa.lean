/- A machine on data, part 1: data, memory, operations. Over no program; no conditions. -/
import Derived.Test.YtpnoalhfjnjeaaaGreatDoorKz
open Go.RowKit
set_option linter.all false
namespace Go.Proofs.YtpnoalhfjnjeaaaGreatDoor
section
def dh(w:World)(o:Obj):Below w.heap.size w (w.alloc o):=(Below.refl _ _).alloc (Bb _) _
def Qh(w:World)(size:Nat)(v:Value)(n:Nat)(xs:List Value):Prop:=
 ∃A c,v=.slice A n c∧n<=9223372036854775807∧xs.length=n * size∧(0 < n->∃b off,A=some ⟨b,off,none⟩∧∀j u,xs[j]? =some u->w.cell? ⟨b,off+j,none⟩=some u)
end
section
section
variable {w w':World}{base:Nat}{e:TypeId}{size:Nat}{v:Value}{n:Nat}{xs:List Value}
def Qh.U4(h:w.ownsRow base e size v n xs):Qh w size v n xs:=by
 rcases h.2 with⟨rfl,rfl⟩|⟨g,cap,cur,rfl,_,hh,hnc,hm,hsz,hx⟩
 ·exact⟨none,0,rfl,by omega,h.1,λh0=>absurd h0<|by omega⟩
 ·refine⟨some ⟨g,0,none⟩,cap,rfl,by unfold maxLen at hm;omega,h.1,λ_=>⟨g,0,rfl,λj u hu=>?_⟩⟩
  have hj:j < xs.length:=by
   rcases Bi j xs.length with h1|h1
   ·exact h1
   ·rw[BJ h1]at hu;cases hu
  simp only[World.cell?,hh,Cw];rw[<-hx,Eb]at hu;rw[h.1]at hj;rw[At hj]at hu;simpa using hu
end
section
variable {t tl:TypeId}{w w':World}{base:Nat}{vs:List Value}{ll:List zI}{v:Value}
end
structure Fr (lo hi:Nat) (w w':World):Prop where
 os:w'.os=w.os
 tape:w'.tape=w.tape
 output:w'.output=w.output
 size:w.heap.size<=w'.heap.size
 block:∀k,k < w.heap.size->(k < lo∨hi<=k)->w'.heap[k]? =w.heap[k]?
structure FrS (S:Nat->Prop) (w w':World):Prop where
 os:w'.os=w.os
 tape:w'.tape=w.tape
 output:w'.output=w.output
 size:w.heap.size<=w'.heap.size
 block:∀k,k < w.heap.size->¬S k->w'.heap[k]? =w.heap[k]?
section
variable {t tl:TypeId}{w w':World}{S S':Nat->Prop}{v:Value}{l:zI}{ll:List zI}
end
def Qh.drop_at{w size A m c news}(h:Qh w size (.slice A m c) m news):
  news.length=m * size∧(A=none->m=0)∧∀ad,A=some ad->∀j u,news[j]? =some u->w.cell? (ad.add j)=some u:=by
 have⟨A',c',he,_,hl,hi⟩:=h;injection he with h1 _ h2
 subst h1;refine⟨hl,λh0=>?_,λad had j u hu=>?_⟩
 ·rcases BD m with hm|hm
  ·exact hm
  ·have⟨b,off,hb,_⟩:=hi hm;rw[h0]at hb;cases hb
 ·rcases BD m with hm|hm
  ·subst hm;have:news=[]:=Bf (by simpa using hl);subst this;simp at hu
  ·have⟨b,off,hb,hc⟩:=hi hm;rw[had]at hb;injection hb with hb
   subst hb;have:=hc j u hu;unfold Addr.add;by_cases hj:j=0
   ·subst hj;simpa using this
   ·simpa[hj]using this
end
section
inductive V where
 |int (k:IntKind) (n:Int)
 |bool (b:Bool)
 |str (s:zU)
  |own (e:TypeId) (n:Nat) (cs:List V)
  |dat (n:Nat) (cs:List V)
  |arg (n:Nat) (cs:List V)
  |pin (u:Value) (n:Nat) (cs:List V)
 |agg (cs:List V)
 |tup (cs:List V)
  |box (cs:List V)
  |uni (e:TypeId) (n:Nat) (cs:List V)
  |same (s:Nat)
  |cref (s off:Nat)
  |adr (cs:List V) (off:Nat)
  |gh (us:List Value) (cs:List V)
  |fn (f:FuncId)
  |tok (u:Value)
  |val (s:Nat) (u:Value)
 |undef
def V.DF:V->Bool
 |.int .. |.bool .. |.str .. |.own .. |.dat .. |.arg .. |.pin .. |.fn .. |.tok .. =>true
 |_=>false
def V1(P:Program)(e:TypeId):Nat:=((P.info? e).map (·.size)).getD 0
def lim:Nat:=1099511627776
def Ba{n}(h:n<=lim):n<=maxLen:=by unfold lim at h;unfold maxLen;omega
section
variable (w:World)(St:Nat->Nat->Prop)
mutual
def Rd:V->Value->Prop
 |.int k n,v=>v=.int k n
 |.bool b,v=>v=.bool b
 |.str s,v=>v=.string ⟨s.toArray⟩∧s.length<=maxLen
 |.own _ n cs,v=>n<=maxLen∧∃A c,v=.slice A n c∧n<=c∧(0 < n->∃b off,A=some ⟨b,off,none⟩∧DO b off cs)∧(n=0->cs=[])
 |.dat n cs,v=>n<=maxLen∧∃A c,v=.slice A n c∧n<=c∧(0 < n->∃b off,A=some ⟨b,off,none⟩∧DO b off cs)∧(n=0->cs=[])
 |.pin u n cs,v=>v=u∧n<=maxLen∧∃A c,v=.slice A n c∧n<=c∧(0 < n->∃b off,A=some ⟨b,off,none⟩∧DO b off cs)∧(n=0->cs=[])
 |.arg n cs,v=>n<=maxLen∧∃A c,v=.slice A n c∧n<=c∧(0 < n->∃b off,A=some ⟨b,off,none⟩∧(cs≠[]->∀o,St b o)∧DO b off cs)∧(n=0->cs=[])
 |.fn f,v=>v=.func (.func f) #[] #[]
 |.tok u,v=>v=u∧u.oneCell'=true
 |_,_=>False
def DO(b:Nat):Nat->List V->Prop
 |_,[]=>True
 |off,c::cs=>(St b off∧∃u,w.cell? ⟨b,off,none⟩=some u∧Rd c u)∧DO b (off+1) cs
end
def Su:List V->List Value->Prop
 |[],us=>us=[]
 |c::cs,us=>∃u a,us=u::a∧Rd w St c u∧Su cs a
def iw:V->Value->Prop
 |.agg cs,v=>∃us:List Value,v=.agg us.toArray∧Su w St cs us
 |c,v=>Rd w St c v
end
def Ext(a:Nat->Nat->Prop)(w w':World):Prop:=∀b o,a b o->w'.cell? ⟨b,o,none⟩=w.cell? ⟨b,o,none⟩
section
variable {w w':World}{St St':Nat->Nat->Prop}
mutual
def Rd.mono(hs:∀b o,St b o->St' b o)(he:Ext St w w'):∀(c:V) {v:Value},Rd w St c v->Rd w' St' c v
 |.int _ _,_,h=>h
 |.bool _,_,h=>h
 |.str _,_,h=>h
 |.own _ _ cs,_,⟨hn,A,c,e,hc,h,h0⟩=>⟨hn,A,c,e,hc,λhp=>let⟨b,off,ea,hr⟩:=h hp;⟨b,off,ea,DO.mono hs he b off cs hr⟩,h0⟩
 |.dat _ cs,_,⟨hn,A,c,e,hc,h,h0⟩=>⟨hn,A,c,e,hc,λhp=>let⟨b,off,ea,hr⟩:=h hp;⟨b,off,ea,DO.mono hs he b off cs hr⟩,h0⟩
 |.pin _ _ cs,_,⟨hu,hn,A,c,e,hc,h,h0⟩=>⟨hu,hn,A,c,e,hc,λhp=>let⟨b,off,ea,hr⟩:=h hp;⟨b,off,ea,DO.mono hs he b off cs hr⟩,h0⟩
 |.arg _ cs,_,⟨hn,A,c,e,hc,h,h0⟩=>⟨hn,A,c,e,hc,λhp=>let⟨b,off,ea,hw,hr⟩:=h hp;⟨b,off,ea,λhc o=>hs b o<|hw hc o,DO.mono hs he b off cs hr⟩,h0⟩
 |.agg _,_,h=>h.elim
 |.tup _,_,h=>h.elim
 |.box _,_,h=>h.elim
 |.uni _ _ _,_,h=>h.elim
 |.same _,_,h=>h.elim
 |.val _ _,_,h=>h.elim
 |.cref _ _,_,h=>h.elim
 |.adr _ _,_,h=>h.elim
 |.gh _ _,_,h=>h.elim
 |.fn _,_,h=>h
 |.tok _,_,h=>h
 |.undef,_,h=>h.elim
def DO.mono(a:∀b o,St b o->St' b o)(d:Ext St w w')(b:Nat):∀(off:Nat) (cs:List V),DO w St b off cs->DO w' St' b off cs
 |_,[],_=>trivial
 |off,c::cs,⟨⟨e,u,f,g⟩,h⟩=>⟨⟨a b off e,u,(d b off e).trans f,Rd.mono a d c g⟩,DO.mono a d b (off+1) cs h⟩
end
def Su.mono(d:∀b o,St b o->St' b o)(f:Ext St w w'):∀(cs:List V) {us:List Value},Su w St cs us->Su w' St' cs us
 |[],_,h=>h
 |c::cs,_,⟨u,a,e,g,i⟩=>⟨u,a,e,Rd.mono d f c g,Su.mono d f cs i⟩
def iw.mono(a:∀b o,St b o->St' b o)(d:Ext St w w'):∀(c:V) {v:Value},iw w St c v->iw w' St' c v
 |.agg cs,_,⟨us,e,h⟩=>⟨us,e,h.mono a d⟩
 |.int _ _,_,h=>h
 |.bool _,_,h=>h
 |.str _,_,h=>h
 |.own _ _ _,_,h=>Rd.mono a d _ h
 |.dat _ _,_,h=>Rd.mono a d _ h
 |.pin _ _ _,_,h=>Rd.mono a d _ h
 |.arg _ _,_,h=>Rd.mono a d _ h
 |.tup _,_,h=>h.elim
 |.box _,_,h=>h.elim
 |.uni _ _ _,_,h=>h.elim
 |.same _,_,h=>h.elim
 |.val _ _,_,h=>h.elim
 |.cref _ _,_,h=>h.elim
 |.adr _ _,_,h=>h.elim
 |.gh _ _,_,h=>h.elim
 |.fn _,_,h=>h
 |.tok _,_,h=>h
 |.undef,_,h=>h.elim
def Rd.oneCell{c v}(h:Rd w St c v):v.oneCell'=true:=by
 cases c<;>simp only[Rd]at h
 ·subst h;rfl
 ·subst h;rfl
 ·rw[h.1];rfl
 all_goals first|(rw[h.1];exact h.2)|(subst h;rfl)|(obtain⟨_,A,c,rfl,_⟩:=h;rfl)|(have⟨_,_,A,c,e,_⟩:=h;rw[e];rfl)
def Rd.DF{c v}(h:Rd w St c v):c.DF=true:=by cases c<;>simp only[Rd]at h<;>rfl
def Su.length:∀{cs:List V}{us:List Value},Su w St cs us->us.length=cs.length
 |[],_,h=>by cases h;rfl
 |_::_,_,⟨_,_,e,_,h⟩=>by rw[e,Ar,Ar,Su.length h]
def DO.at_{b}:∀{cs:List V}{off:Nat},DO w St b off cs->∀(j:Nat) (c:V),cs[j]? =some c->St b (off+j)∧∃u,w.cell? ⟨b,off+j,none⟩=some u∧Rd w St c u
 |[],_,_,j,c,h=>by simp at h
 |d::cs,off,h,0,c,e=>by simp only[Cd,Ay]at e;subst e;exact h.1
 |d::cs,off,h,j+1,c,e=>by have a:DO w St b (off+1) cs:=h.2;have:=DO.at_ a j c (by simpa using e);rw[show off+(j+1)=off+1+j by omega];exact this
def DO.drop{b}:∀{cs:List V}{off:Nat}(k:Nat),DO w St b off cs->DO w St b (off+k) (cs.drop k)
 |[],_,k,_=>by simp[DO]
 |_::_,_,0,h=>by simpa using h
 |_::cs,off,k+1,h=>by have:=DO.drop (cs:=cs) (off:=off+1) k h.2;rw[show off+(k+1)=off+1+k by omega];simpa using this
def DO.take{b}:∀{cs:List V}{off:Nat}(k:Nat),DO w St b off cs->DO w St b off (cs.take k)
 |[],_,k,_=>by simp[DO]
 |_::_,_,0,h=>by simp[DO]
 |_::cs,off,k+1,h=>by rw[Dx];exact⟨h.1,DO.take (cs:=cs) k h.2⟩
def DO.mk{b}:∀{cs:List V}{off:Nat},(∀(j:Nat) (c:V),cs[j]? =some c->St b (off+j)∧∃u,w.cell? ⟨b,off+j,none⟩=some u∧Rd w St c u)->DO w St b off cs
 |[],_,_=>trivial
 |d::cs,off,h=>⟨h 0 d rfl,DO.mk λj c e=>by have:=h (j+1) c (by simpa using e);rw[show off+1+j=off+(j+1)by omega];exact this⟩
def DO.list{b}:∀{cs:List V}{off:Nat},DO w St b off cs->∃us:List Value,Su w St cs us∧∀(j:Nat) (u:Value),us[j]? =some u->w.cell? ⟨b,off+j,none⟩=some u
 |[],_,_=>⟨[],rfl,by simp⟩
 |c::cs,off,⟨⟨_,u,d,e⟩,f⟩=>by
  have⟨us,g,h⟩:=DO.list f;refine⟨u::us,⟨u,us,rfl,e,g⟩,λj x a=>?_⟩;cases j with
  |zero=>simp only[Cd,Ay]at a;subst a;exact d
  |succ j=>rw[show off+(j+1)=off+1+j by omega];exact h j x (by simpa using a)
def Su.get:∀{cs:List V}{us:List Value},Su w St cs us->∀(j:Nat) (c:V),cs[j]? =some c->∃u,us[j]? =some u∧Rd w St c u
 |[],_,_,j,c,e=>by simp at e
 |_::_,_,⟨u,b,e,d,f⟩,0,c,a=>by simp only[Cd,Ay]at a;subst a;exact⟨u,by rw[e];rfl,d⟩
 |_::_,_,⟨u,b,e,d,f⟩,j+1,c,a=>by rw[e];simpa using Su.get f j c (by simpa using a)
def Su.oneCell:∀{cs:List V}{us:List Value},Su w St cs us->∀u∈us,u.oneCell'=true
 |[],_,h,u,a=>by rw[show _=[]from h]at a;simp at a
 |c::cs,_,⟨x,b,e,d,f⟩,u,a=>by
  rw[e]at a;rcases AA.1 a with rfl|a
  ·exact d.oneCell
  ·exact Su.oneCell f u a
end
section
variable (P:Program)(w:World)(St:Nat->Nat->Prop)
mutual
def Ow:V->Value->zN->Prop
 |.int k n,v,bs=>bs=[]∧Rd w St (.int k n) v
 |.bool b,v,bs=>bs=[]∧Rd w St (.bool b) v
 |.str s,v,bs=>bs=[]∧Rd w St (.str s) v
 |.dat n cs,v,bs=>bs=[]∧Rd w St (.dat n cs) v
 |.arg n cs,v,bs=>bs=[]∧Rd w St (.arg n cs) v
 |.pin u n cs,v,bs=>bs=[]∧Rd w St (.pin u n cs) v
 |.own e n cs,v,bs=>n<=lim∧∃xs a,w.ownsRow 0 e (V1 P e) v n xs∧Bj cs xs a∧bs=v.ownBlock.toList++a∧(∀g,v.ownBlock=some g->∀o,St g o↔o < n * V1 P e)∧(n=0->cs=[])
 |.agg cs,v,bs=>∃us:List Value,v=.agg us.toArray∧Bj cs us bs
 |.tup cs,v,bs=>∃us:List Value,v=.tuple us.toArray∧Ml cs us bs
 |.fn f,v,bs=>bs=[]∧Rd w St (.fn f) v
 |.tok u,v,bs=>bs=[]∧Rd w St (.tok u) v
 |_,_,_=>False
def Bj:List V->List Value->zN->Prop
 |[],us,bs=>us=[]∧bs=[]
 |c::cs,us,bs=>∃u a b1 b2,us=u::a∧bs=b1++b2∧c.DF=true∧Ow c u b1∧Bj cs a b2
def Ml:List V->List Value->zN->Prop
 |[],us,bs=>us=[]∧bs=[]
 |c::cs,us,bs=>∃u a b1 b2,us=u::a∧bs=b1++b2∧Ow c u b1∧Ml cs a b2
end
end
section
variable {P:Program}{w w':World}{St St':Nat->Nat->Prop}
mutual
def Ow.mono(i:∀b o,St b o->St' b o)(j:Ext St w w'):∀(c:V) {v:Value}{bs:zN},Ow P w St c v bs->(∀g∈bs,w'.heap[g]? =w.heap[g]? ∧∀o,St' g o↔St g o)->Ow P w' St' c v bs
 |.int _ _,_,_,⟨a,d⟩,_=>⟨a,d⟩
 |.bool _,_,_,⟨a,d⟩,_=>⟨a,d⟩
 |.str _,_,_,⟨a,d⟩,_=>⟨a,d⟩
 |.dat _ _,_,_,⟨a,d⟩,_=>⟨a,d.mono i j⟩
 |.arg _ _,_,_,⟨a,d⟩,_=>⟨a,d.mono i j⟩
 |.pin _ _ _,_,_,⟨a,d⟩,_=>⟨a,d.mono i j⟩
 |.own e n cs,v,bs,⟨q,xs,m,a,d,l,s,t⟩,f=>by
  refine⟨q,xs,m,?_,Bj.mono i j cs d<|λg k=>f g<|by rw[l];exact Au _ k,l,λg k o=>?_,t⟩
  ·refine⟨a.1,?_⟩;rcases a.2 with h|⟨g,cap,p,rfl,k,u,r⟩
   ·exact .inl h
   ·exact .inr ⟨g,cap,p,rfl,k,by rw[(f g<|by rw[l];simp[Value.ownBlock]).1];exact u,r⟩
  ·rw[(f g<|by rw[l,k];simp).2 o];exact s g k o
 |.agg cs,_,_,⟨us,e,h⟩,f=>⟨us,e,Bj.mono i j cs h f⟩
 |.tup cs,_,_,⟨us,e,h⟩,f=>⟨us,e,Ml.mono i j cs h f⟩
 |.box _,_,_,h,_=>h.elim
 |.uni _ _ _,_,_,h,_=>h.elim
 |.same _,_,_,h,_=>h.elim
 |.val _ _,_,_,h,_=>h.elim
 |.cref _ _,_,_,h,_=>h.elim
 |.adr _ _,_,_,h,_=>h.elim
 |.gh _ _,_,_,h,_=>h.elim
 |.fn _,_,_,⟨a,d⟩,_=>⟨a,d⟩
 |.tok _,_,_,⟨a,d⟩,_=>⟨a,d⟩
 |.undef,_,_,h,_=>h.elim
def Bj.mono(e:∀b o,St b o->St' b o)(f:Ext St w w'):∀(cs:List V) {us:List Value}{bs:zN},Bj P w St cs us bs->(∀g∈bs,w'.heap[g]? =w.heap[g]? ∧∀o,St' g o↔St g o)->Bj P w' St' cs us bs
 |[],_,_,h,_=>h
 |c::cs,_,_,⟨u,a,b1,b2,j,e2,k,l,m⟩,i=>⟨u,a,b1,b2,j,e2,k,Ow.mono e f c l<|λg d=>i g<|by rw[e2];exact Az _ d,Bj.mono e f cs m<|λg d=>i g<|by rw[e2];exact Au _ d⟩
def Ml.mono(e:∀b o,St b o->St' b o)(f:Ext St w w'):∀(cs:List V) {us:List Value}{bs:zN},Ml P w St cs us bs->(∀g∈bs,w'.heap[g]? =w.heap[g]? ∧∀o,St' g o↔St g o)->Ml P w' St' cs us bs
 |[],_,_,h,_=>h
 |c::cs,_,_,⟨u,a,b1,b2,j,e2,k,l⟩,i=>⟨u,a,b1,b2,j,e2,Ow.mono e f c k<|λg d=>i g<|by rw[e2];exact Az _ d,Ml.mono e f cs l<|λg d=>i g<|by rw[e2];exact Au _ d⟩
end
mutual
def Ow.rd:∀(c:V) {v:Value}{bs:zN},Ow P w St c v bs->c.DF=true->Rd w St c v
 |.int _ _,_,_,h,_=>h.2
 |.bool _,_,_,h,_=>h.2
 |.str _,_,_,h,_=>h.2
 |.dat _ _,_,_,h,_=>h.2
 |.arg _ _,_,_,h,_=>h.2
 |.pin _ _ _,_,_,h,_=>h.2
 |.own e n cs,v,bs,⟨f,xs,m,i,o,z,p,k⟩,_=>by
  have q:=i.1;rcases i.2 with⟨rfl,rfl⟩|⟨g,cap,r,rfl,A,s,t,B,x,y⟩
  ·exact⟨Ba f,none,0,rfl,Bb _,λh=>absurd h (by omega),k⟩
  ·refine⟨Ba f,_,cap,rfl,t,λ_=>⟨g,0,rfl,?_⟩,k⟩;have d:=p g rfl
   have a:∀(j:Nat) (u:Value),xs[j]? =some u->St g j∧w.cell? ⟨g,j,none⟩=some u:=by
    intro j u b
    have l:j < n * V1 P e:=by
     rw[<-q];rcases Bi j xs.length with h|h
     ·exact h
     ·rw[BJ h]at b;cases b
    refine⟨(d j).2 l,?_⟩;simp only[World.cell?,s];rw[<-y,Eb,At l]at b;simpa using b
   exact Bj.Aaa cs 0 o (λj u b=>by simpa using a j u b)
 |.agg _,_,_,_,h=>by cases h
 |.tup _,_,_,_,h=>by cases h
 |.box _,_,_,h,_=>h.elim
 |.uni _ _ _,_,_,h,_=>h.elim
 |.same _,_,_,h,_=>h.elim
 |.val _ _,_,_,h,_=>h.elim
 |.cref _ _,_,_,h,_=>h.elim
 |.adr _ _,_,_,h,_=>h.elim
 |.gh _ _,_,_,h,_=>h.elim
 |.fn _,_,_,h,_=>h.2
 |.tok _,_,_,h,_=>h.2
 |.undef,_,_,h,_=>h.elim
def Bj.Aaa{g}:∀(cs:List V) (off:Nat) {us:List Value}{bs:zN},Bj P w St cs us bs->(∀(j:Nat) (u:Value),us[j]? =some u->St g (off+j)∧w.cell? ⟨g,off+j,none⟩=some u)->DO w St g off cs
 |[],_,_,_,_,_=>trivial
 |c::cs,off,_,_,⟨u,e,b1,b2,a,e2,f,h,i⟩,b=>by have d:=b 0 u (by rw[a];rfl);refine⟨⟨by simpa using d.1,u,by simpa using d.2,Ow.rd c h f⟩,Bj.Aaa cs (off+1) i<|λj x k=>?_⟩;have:=b (j+1) x (by rw[a];simpa using k);rw[show off+1+j=off+(j+1)by omega];exact this
end
def Bj.rdL:∀(cs:List V) {us:List Value}{bs:zN},Bj P w St cs us bs->Su w St cs us
 |[],_,_,h=>h.1
 |_::cs,_,_,⟨u,a,_,_,b,_,c,d,e⟩=>⟨u,a,b,Ow.rd _ d c,Bj.rdL cs e⟩
def Bj.length{cs us bs}(h:Bj P w St cs us bs):us.length=cs.length:=(Bj.rdL cs h).length
end
def WG:V->V
 |.own _ n cs=>.dat n cs
 |c=>c
def dg2:V->V
 |.agg cs=>.agg<|cs.map WG
 |c=>WG c
def dg:V->V
 |.tup cs=>.tup<|cs.map dg2
 |c=>dg2 c
section
variable {P:Program}{w w':World}{St St':Nat->Nat->Prop}
def YL{c}(h:c.DF=true):(WG c).DF=true:=by cases c<;>first|rfl|exact h
def Rd.cb{c v}(h:Rd w St c v):Rd w St (WG c) v:=by cases c<;>exact h
def Ow.cb{c v bs}(h:Ow P w St c v bs)(a:c.DF=true):Ow P w St (WG c) v []:=by have b:=(Ow.rd c h a).cb;cases c<;>first|exact⟨rfl,b⟩|cases a
def Bj.cb:∀(cs:List V) {us:List Value}{bs:zN},Bj P w St cs us bs->Bj P w St (cs.map WG) us []
 |[],_,_,h=>⟨h.1,rfl⟩
 |c::cs,_,_,⟨u,a,b1,b2,d,e2,b,e,f⟩=>⟨u,a,[],[],d,rfl,YL b,e.cb b,Bj.cb cs f⟩
def Ow.w7{c v bs}(h:Ow P w St c v bs)(a:c.DF=true∨∃cs,c=.agg cs):Ow P w St (dg2 c) v []:=by
 rcases a with a|⟨cs,rfl⟩
 ·have:dg2 c=WG c:=by cases c<;>first|rfl|cases a
  rw[this];exact h.cb a
 ·have⟨us,e,h⟩:=h;exact⟨us,e,h.cb⟩
def V.isArg:V->Bool
 |.agg _=>true
 |c=>c.DF
def t8{c:V}(h:c.isArg=true):c.DF=true∨∃cs,c=.agg cs:=by cases c<;>first|exact .inl h|exact .inr ⟨_,rfl⟩
def Ow.Oq{c v bs}(h:Ow P w St c v bs)(a:c.isArg=true):Ow P w St (dg2 c) v []:=h.w7<|t8 a
def Ow.rda{c v bs}(h:Ow P w St c v bs)(a:c.isArg=true):iw w St c v:=by
 cases c<;>first|exact Ow.rd _ h a|cases a|skip
 have⟨us,e,h⟩:=h;exact⟨us,e,h.rdL⟩
def Ml.w7:∀(cs:List V) {us:List Value}{bs:zN},Ml P w St cs us bs->cs.all V.isArg=true->Ml P w St (cs.map dg2) us []
 |[],_,_,h,_=>⟨h.1,rfl⟩
 |c::cs,_,_,⟨u,a,b1,b2,d,e2,e,f⟩,b=>by simp only[Bz,Ad]at b;exact⟨u,a,[],[],d,rfl,e.Oq b.1,Ml.w7 cs f b.2⟩
def V.isVal:V->Bool
 |.tup cs=>cs.all V.isArg
 |c=>c.isArg
def Ow.deg{c v bs}(h:Ow P w St c v bs)(a:c.isVal=true):Ow P w St (dg c) v []:=by
 cases c<;>first|exact h.Oq a|cases a|skip
 have⟨us,e,h⟩:=h;exact⟨us,e,Ml.w7 _ h a⟩
def Ow.Aev{c v}(h:Rd w St (WG c) v):Ow P w St (WG c) v []:=by cases c<;>first|exact⟨rfl,h⟩|exact h.elim
def Bj.uP:∀(cs:List V) {us:List Value},Su w St cs us->Bj P w St (cs.map WG) us []
 |[],_,h=>⟨h,rfl⟩
 |c::cs,_,⟨u,a,e,b,d⟩=>⟨u,a,[],[],e,rfl,YL b.DF,Ow.Aev b.cb,Bj.uP cs d⟩
end
mutual
def er:V->V
 |.own _ n cs=>.dat n<|NU cs
 |.dat n cs=>.dat n<|NU cs
 |.arg n cs=>.dat n<|NU cs
 |.pin _ n cs=>.dat n<|NU cs
 |.agg cs=>.agg<|NU cs
 |.int k n=>.int k n
 |.bool b=>.bool b
 |.str s=>.str s
 |.fn f=>.fn f
 |.tok u=>.tok u
 |_=>.undef
def NU:List V->List V
 |[]=>[]
 |c::cs=>er c::NU cs
end
section
variable {P:Program}{w w':World}{St St':Nat->Nat->Prop}
def cA{cs}(h:cs=[]):NU cs=[]:=by subst h;rfl
mutual
def Rd.erase:∀(c:V) {v:Value},Rd w St c v->Rd w St (er c) v
 |.int _ _,_,h=>h
 |.bool _,_,h=>h
 |.str _,_,h=>h
 |.own _ _ cs,_,⟨hn,A,c,e,hc,h,h0⟩=>⟨hn,A,c,e,hc,λhp=>let⟨b,off,ea,hr⟩:=h hp;⟨b,off,ea,DO.erase b off cs hr⟩,λhz=>cA<|h0 hz⟩
 |.dat _ cs,_,⟨hn,A,c,e,hc,h,h0⟩=>⟨hn,A,c,e,hc,λhp=>let⟨b,off,ea,hr⟩:=h hp;⟨b,off,ea,DO.erase b off cs hr⟩,λhz=>cA<|h0 hz⟩
 |.pin _ _ cs,_,⟨_,hn,A,c,e,hc,h,h0⟩=>⟨hn,A,c,e,hc,λhp=>let⟨b,off,ea,hr⟩:=h hp;⟨b,off,ea,DO.erase b off cs hr⟩,λhz=>cA<|h0 hz⟩
 |.arg _ cs,_,⟨hn,A,c,e,hc,h,h0⟩=>⟨hn,A,c,e,hc,λhp=>let⟨b,off,ea,_,hr⟩:=h hp;⟨b,off,ea,DO.erase b off cs hr⟩,λhz=>cA<|h0 hz⟩
 |.agg _,_,h=>h.elim
 |.tup _,_,h=>h.elim
 |.box _,_,h=>h.elim
 |.uni _ _ _,_,h=>h.elim
 |.same _,_,h=>h.elim
 |.val _ _,_,h=>h.elim
 |.cref _ _,_,h=>h.elim
 |.adr _ _,_,h=>h.elim
 |.gh _ _,_,h=>h.elim
 |.fn _,_,h=>h
 |.tok _,_,h=>h
 |.undef,_,h=>h.elim
def DO.erase(b:Nat):∀(off:Nat) (cs:List V),DO w St b off cs->DO w St b off (NU cs)
 |_,[],_=>trivial
 |off,c::cs,⟨⟨a,u,d,e⟩,f⟩=>⟨⟨a,u,d,Rd.erase c e⟩,DO.erase b (off+1) cs f⟩
end
def Su.erase:∀(cs:List V) {us:List Value},Su w St cs us->Su w St (NU cs) us
 |[],_,h=>h
 |c::cs,_,⟨u,a,e,b,d⟩=>⟨u,a,e,Rd.erase c b,Su.erase cs d⟩
def iw.erase{c v}(h:iw w St c v):iw w St (er c) v:=by
 cases c<;>first|exact Rd.erase _ h|exact h.elim|skip
 have⟨us,e,h⟩:=h;exact⟨us,e,h.erase⟩
end
end
section
def upd{α:Type}(f:Nat->α)(d:Nat)(x:α):Nat->α:=λs=>if s=d then x else f s
def upd_same{α:Type}(f:Nat->α)(d:Nat)(x:α):upd f d x d=x:=by simp[upd]
def upd_ne{α:Type}(f:Nat->α){d s:Nat}(x:α)(h:s≠d):upd f d x s=f s:=by simp[upd,h]
abbrev PS:=Nat->V
def tm(a:Act)(s:Nat):Value:=a.tmps.getD s undef
def wl(a:Act)(d:Nat)(v:Value)(h:d < a.tmps.size):tm (a.put (some d) v)=upd (tm a) d v:=by
 funext s;simp only[tm,Act.put,upd];by_cases e:s=d
 ·subst e;simp[h]
 ·simp only[As e,Dt];rw[Array.getElem?_setIfInBounds_ne (by omega)]
def size_put(a:Act)(d:Option Tmp)(v:Value):(a.put d v).tmps.size=a.tmps.size:=by cases d<;>simp[Act.put]
def dx(a:Act)(d:Option Tmp)(v:Value):(a.put d v).defers=a.defers:=by cases d<;>simp[Act.put]
def Za:Value->Option Nat
 |.pointer (some ⟨g,0,none⟩)=>some g
 |.slice (some ⟨g,0,none⟩) _ _=>some g
 |_=>none
def C0:V->Option (List V)
 |.box cs=>some cs
 |.uni _ _ cs=>some cs
 |_=>none
def WM(c:V)(cs:List V):V:=match c with
 |.uni e n _=>.uni e n cs
 |_=>.box cs
def dl(c:V)(cs:List V):C0 (WM c cs)=some cs:=by cases c<;>rfl
def D4:V->Option Nat
 |.cref b _=>some b
 |.same b=>some b
 |.val b _=>some b
 |_=>none
section
variable (P:Program)(w:World)(St:Nat->Nat->Prop)(t:Nat->Value)
def Ci:V->Value->zN->Prop
 |.undef,_,bs=>bs=[]
 |.box cs,v,bs=>∃g T a,∃c:Array Value,v=.pointer (some ⟨g,0,none⟩)∧w.heap[g]? =some (.cells c T (0,0))∧Bj P w St cs c.toList a∧bs=g::a∧∀o,¬St g o
 |.uni e n cs,v,bs=>∃g a,∃c:Array Value,v=.slice (some ⟨g,0,none⟩) n n∧w.heap[g]? =some (.cells c e (0,0))∧Bj P w St cs c.toList a∧bs=g::a∧(∀o,¬St g o)∧n<=lim∧cs.length=n * V1 P e
 |.same s,v,bs=>bs=[]∧v=t s
 |.val s u,_,bs=>bs=[]∧u=t s
 |.cref s off,v,bs=>bs=[]∧∃g,Za (t s)=some g∧v=.pointer (some ⟨g,off,none⟩)
 |.adr cs off,v,bs=>bs=[]∧∃b o,v=.pointer (some ⟨b,o,none⟩)∧DO w St b o (cs.drop off)
 |.int k n,v,bs=>Ow P w St (.int k n) v bs
 |.bool b,v,bs=>Ow P w St (.bool b) v bs
 |.str s,v,bs=>Ow P w St (.str s) v bs
 |.own e n cs,v,bs=>Ow P w St (.own e n cs) v bs
 |.dat n cs,v,bs=>Ow P w St (.dat n cs) v bs
 |.arg n cs,v,bs=>Ow P w St (.arg n cs) v bs
 |.pin u n cs,v,bs=>Ow P w St (.pin u n cs) v bs
 |.gh us cs,_,bs=>Bj P w St cs us bs
 |.agg cs,v,bs=>Ow P w St (.agg cs) v bs
 |.tup cs,v,bs=>Ow P w St (.tup cs) v bs
 |.fn f,v,bs=>Ow P w St (.fn f) v bs
 |.tok u,v,bs=>Ow P w St (.tok u) v bs
end
section
variable {P:Program}{w w':World}{St St':Nat->Nat->Prop}{t t':Nat->Value}
def Ci.ow{c v bs}(h:Ci P w St t c v bs)(a:c.isVal=true):Ow P w St c v bs:=by cases c<;>first|exact h|cases a
def Ow.slot{c v bs}(h:Ow P w St c v bs):Ci P w St t c v bs:=by cases c<;>first|exact h|exact h.elim
def Ci.mono(d:∀b o,St b o->St' b o)(i:Ext St w w'){c:V}{v:Value}{bs:zN}(h:Ci P w St t c v bs)
  (a:∀g∈bs,w'.heap[g]? =w.heap[g]? ∧∀o,St' g o↔St g o) (r:∀b,D4 c=some b->t' b=t b):Ci P w' St' t' c v bs:=by
 cases c with
 |undef=>exact h
 |box cs=>obtain⟨g,T,l,m,y,e2,j,rfl,p⟩:=h;have q:=a g (by simp);exact⟨g,T,l,m,y,by rw[q.1];exact e2,j.mono d i _<|λx z=>a x<|by simp[z],rfl,λo A=>p o<|(q.2 o).1 A⟩
 |uni e n cs=>obtain⟨g,l,m,y,e2,j,rfl,p,B⟩:=h;have q:=a g (by simp);exact⟨g,l,m,y,by rw[q.1];exact e2,j.mono d i _<|λx z=>a x<|by simp[z],rfl,λo A=>p o<|(q.2 o).1 A,B⟩
 |same s=>have⟨e,j⟩:=h;exact⟨e,by rw[r s rfl];exact j⟩
 |val s u=>have⟨e,j⟩:=h;exact⟨e,by rw[r s rfl];exact j⟩
 |cref s off=>have⟨e,g,j,p⟩:=h;exact⟨e,g,by rw[r s rfl];exact j,p⟩
 |adr cs off=>have⟨e,b,o,j,p⟩:=h;exact⟨e,b,o,j,DO.mono d i b o _ p⟩
 |int k n=>exact Ow.mono d i _ h a
 |bool k=>exact Ow.mono d i _ h a
 |str k=>exact Ow.mono d i _ h a
 |own e n cs=>exact Ow.mono d i _ h a
 |dat n cs=>exact Ow.mono d i _ h a
 |arg n cs=>exact Ow.mono d i _ h a
 |pin u n cs=>exact Ow.mono d i _ h a
 |gh us cs=>exact Bj.mono d i _ h a
 |agg cs=>exact Ow.mono d i _ h a
 |tup cs=>exact Ow.mono d i _ h a
 |fn f=>exact Ow.mono d i _ h a
 |tok u=>exact Ow.mono d i _ h a
end
structure Bs where
 K:Nat->Prop
 pin:List (Nat×Value)
instance:CoeFun Bs (λ_=>Nat->Prop):=⟨Bs.K⟩
def Sj:Nat:=1000000
def lays:List (Nat×List (IntKind×Int)):=[(0,[(.i64,1),(.i64,1)])]
def Glb(w:World)(a:Nat->Nat->Prop):Prop:=∀p∈lays,(∀o,a p.1 o)∧∀i x,p.2[i]? =some x->w.cell? ⟨p.1,i,none⟩=some (.int x.1 x.2)
def Glb.of{w w' St St'}(h:Glb w St)(c:∀b,(∀o,St b o)->∀o,St' b o)(d:∀b o,(∀o,St b o)->w'.cell? ⟨b,o,none⟩=w.cell? ⟨b,o,none⟩):Glb w' St':=
 λp a=>⟨c _ (h p a).1,λi x e=>(d _ _ (h p a).1).trans<|(h p a).2 i x e⟩
structure HSim (P:Program) (nt:Nat) (bx:zN) (base:Bs) (St:Nat->Nat->Prop) (B:Nat->zN) (hand:zN) (σ:PS) (a:Act) (w:World):Prop where
 size:a.tmps.size=nt
 defers:a.defers=[]
 slot:∀s,Ci P w St (tm a) (σ s) (tm a s) (B s)
 boxes:∀s cs,C0 (σ s)=some cs->s∈bx
 crefs:∀s b,D4 (σ s)=some b->∃cs,C0 (σ b)=some cs
 nodup:∀s,(B s).Nodup
 apart:∀s t,s≠t->∀g∈B s,g∉B t
 hnodup:hand.Nodup
 hapart:∀s,∀g∈B s,g∉hand
 range:∀s,∀g∈B s,¬base g∧g < w.heap.size
 hrange:∀g∈hand,¬base g∧g < w.heap.size
 st:∀b o,St b o->b < w.heap.size
 gl:Glb w St
 pin:∀p∈base.pin,tm a p.1=p.2∧p.1∈bx∧Sj+p.1∈bx
section
variable {P:Program}{nt:Nat}{base:Bs}{bx:zN}{St St':Nat->Nat->Prop}{B:Nat->zN}{hand:zN}{σ:PS}{a:Act}{w w':World}
def HSim.world(h:HSim P nt bx base St B hand σ a w)(f:∀b o,St b o->St' b o)(i:Ext St w w')(j:w.heap.size<=w'.heap.size)
  (c:∀s,∀g∈B s,w'.heap[g]? =w.heap[g]? ∧∀o,St' g o↔St g o) (e:∀b o,St' b o->b < w'.heap.size):HSim P nt bx base St' B hand σ a w':=
 {h with
  slot:=λs=>(h.slot s).mono f i (c s)<|λ_ _=>rfl
  range:=λs g d=>⟨(h.range s g d).1,BA (h.range s g d).2 j⟩
  hrange:=λg d=>⟨(h.hrange g d).1,BA (h.hrange g d).2 j⟩
  st:=e
  gl:=h.gl.of (λb c o=>f b o (c o)) (λb o c=>i b o (c o))}
def HSim.less(h:HSim P nt bx base St B hand σ a w){hand':zN}(d:hand'.Nodup)(c:∀g∈hand',g∈hand):HSim P nt bx base St B hand' σ a w:=
 {h with
  hnodup:=d
  hapart:=λs g b e=>h.hapart s g b<|c g e
  hrange:=λg b=>h.hrange g (c g b)}
def aE{c}(h:c.isVal=true):C0 (dg c)=none∧D4 (dg c)=none:=by cases c<;>first|(constructor<;>rfl)|cases h
def WD{c}(h:c.isVal=true):C0 c=none∧D4 c=none:=by cases c<;>first|(constructor<;>rfl)|cases h
def HSim.take(h:HSim P nt bx base St B hand σ a w)(s:Nat)(hv:(σ s).isVal=true):
  Ow P w St (σ s) (tm a s) (B s)∧HSim P nt bx base St (upd B s []) (hand++B s) (upd σ s<|dg<|σ s) a w:=by
 have ho:=(h.slot s).ow hv;have hnb:=aE hv;refine⟨ho,?_⟩
 have hB:∀q,∀g∈upd B s [] q,q≠s∧g∈B q:=by
  intro q g hg;by_cases e:q=s
  ·subst e;rw[upd_same]at hg;simp at hg
  ·rw[upd_ne _ _ e]at hg;exact⟨e,hg⟩
 exact
 {h with
  slot:=λq=>by
   by_cases e:q=s
   ·subst e;rw[upd_same,upd_same];exact(ho.deg hv).slot
   ·rw[upd_ne _ _ e,upd_ne _ _ e];exact h.slot q
  boxes:=λq cs e=>by
   by_cases eq:q=s
   ·subst eq;rw[upd_same,hnb.1]at e;cases e
   ·rw[upd_ne _ _ eq]at e;exact h.boxes q cs e
  crefs:=λq b e=>by
   by_cases eq:q=s
   ·subst eq;rw[upd_same,hnb.2]at e;cases e
   ·rw[upd_ne _ _ eq]at e;have⟨cs,hcs⟩:=h.crefs q b e;refine⟨cs,?_⟩;rw[upd_ne _ _ (λeb=>by subst eb;rw[(WD hv).1]at hcs;cases hcs)];exact hcs
  nodup:=λq=>by
   by_cases e:q=s
   ·subst e;rw[upd_same];exact AR
   ·rw[upd_ne _ _ e];exact h.nodup q
  apart:=λq r hqr g hg hg'=>h.apart q r hqr g (hB q g hg).2 (hB r g hg').2
  hnodup:=Ax.2 ⟨h.hnodup,h.nodup s,λx hx y hy e=>by subst e;exact h.hapart s x hy hx⟩
  hapart:=λq g hg hm=>by
   have⟨hq,hg⟩:=hB q g hg;rcases Al.1 hm with hm|hm
   ·exact h.hapart q g hg hm
   ·exact h.apart q s hq g hg hm
  range:=λq g hg=>h.range q g (hB q g hg).2
  hrange:=λg hg=>by
   rcases Al.1 hg with hg|hg
   ·exact h.hrange g hg
   ·exact h.range s g hg}
def HSim.put(h:HSim P nt bx base St B hand σ a w){d:Nat}(hd:d < nt)(hx:d∉bx){c:V}{v:Value}{bs:zN}(hc:Ci P w St (tm a) c v bs)
  (hn:bs.Nodup) (hs:∀g∈bs,g∈hand) (hnb:C0 c=none) (hcr:∀b,D4 c=some b->∃cs,C0 (σ b)=some cs):
  HSim P nt bx base St (upd B d bs) [] (upd σ d c) (a.put (some d) v) w:=by
 have ht:=wl a d v (by rw[h.size];exact hd);have hbd:∀b cs,C0 (σ b)=some cs->b≠d:=λb cs e eb=>hx<|eb ▸ h.boxes b cs e
 have hbox:∀b,(∃cs,C0 (σ b)=some cs)->∃cs,C0 (upd σ d c b)=some cs:=λb ⟨cs,e⟩=>⟨cs,by rw[upd_ne _ _ (hbd b cs e)];exact e⟩
 refine
 {size:=by rw[size_put];exact h.size
  defers:=by rw[dx];exact h.defers
  slot:=λq=>by
   rw[ht];by_cases e:q=d
   ·subst e;rw[upd_same,upd_same,upd_same];exact hc.mono (λ_ _ h=>h) (λ_ _ _=>rfl) (λ_ _=>⟨rfl,λ_=>DL⟩)<|λb eb=>upd_ne _ _ (by have⟨cs,e⟩:=hcr b eb;exact hbd b cs e)
   ·rw[upd_ne _ _ e,upd_ne _ _ e,upd_ne _ _ e];exact(h.slot q).mono (λ_ _ h=>h) (λ_ _ _=>rfl) (λ_ _=>⟨rfl,λ_=>DL⟩)<|λb eb=>upd_ne _ _ (by have⟨cs,e⟩:=h.crefs q b eb;exact hbd b cs e)
  boxes:=λq cs e=>by
   by_cases eq:q=d
   ·subst eq;rw[upd_same,hnb]at e;cases e
   ·rw[upd_ne _ _ eq]at e;exact h.boxes q cs e
  crefs:=λq b e=>by
   by_cases eq:q=d
   ·subst eq;rw[upd_same]at e;exact hbox b<|hcr b e
   ·rw[upd_ne _ _ eq]at e;exact hbox b<|h.crefs q b e
  nodup:=λq=>by
   by_cases e:q=d
   ·subst e;rw[upd_same];exact hn
   ·rw[upd_ne _ _ e];exact h.nodup q
  apart:=λq r hqr g hg hg'=>by
   by_cases e:q=d
   ·subst e;rw[upd_same]at hg;rw[upd_ne _ _ (Ne.symm hqr)]at hg';exact h.hapart r g hg'<|hs g hg
   ·rw[upd_ne _ _ e]at hg;by_cases e':r=d
    ·subst e';rw[upd_same]at hg';exact h.hapart q g hg<|hs g hg'
    ·rw[upd_ne _ _ e']at hg';exact h.apart q r hqr g hg hg'
  hnodup:=AR
  hapart:=λ_ _ _=>by simp
  range:=λq g hg=>by
   by_cases e:q=d
   ·subst e;rw[upd_same]at hg;exact h.hrange g<|hs g hg
   ·rw[upd_ne _ _ e]at hg;exact h.range q g hg
  hrange:=by simp
  st:=h.st
  gl:=h.gl
  pin:=λv0 e=>by have hp:=h.pin v0 e;rw[ht,upd_ne _ _ (show v0.1≠d from λe0=>hx (e0 ▸ hp.2.1))];exact hp}
def HSim.eK(h:HSim P nt bx base St B hand σ a w){d:Nat}(hd:d < nt)(hx:d∈bx)(hd0:Sj+d∉bx)(hold:C0 (σ d)=none){c:V}{v:Value}{bs:zN}(hc:Ci P w St (tm a) c v bs)
  (hn:bs.Nodup) (hs:∀g∈bs,g∈hand) (hrf:D4 c=none):HSim P nt bx base St (upd B d bs) [] (upd σ d c) (a.put (some d) v) w:=by
 have ht:=wl a d v (by rw[h.size];exact hd);have hbd:∀b cs,C0 (σ b)=some cs->b≠d:=λb cs e eb=>by subst eb;rw[hold]at e;cases e
 have hbox:∀b,(∃cs,C0 (σ b)=some cs)->∃cs',C0 (upd σ d c b)=some cs':=λb ⟨cs',e⟩=>⟨cs',by rw[upd_ne _ _ (hbd b cs' e)];exact e⟩
 refine
 {size:=by rw[size_put];exact h.size
  defers:=by rw[dx];exact h.defers
  slot:=λq=>by
   rw[ht];by_cases e:q=d
   ·subst e;rw[upd_same,upd_same,upd_same];exact hc.mono (λ_ _ h=>h) (λ_ _ _=>rfl) (λ_ _=>⟨rfl,λ_=>DL⟩) (λb eb=>by rw[hrf]at eb;cases eb)
   ·rw[upd_ne _ _ e,upd_ne _ _ e,upd_ne _ _ e];exact(h.slot q).mono (λ_ _ h=>h) (λ_ _ _=>rfl) (λ_ _=>⟨rfl,λ_=>DL⟩)<|λb eb=>upd_ne _ _ (by have⟨cs,e⟩:=h.crefs q b eb;exact hbd b cs e)
  boxes:=λq cs e=>by
   by_cases eq:q=d
   ·subst eq;exact hx
   ·rw[upd_ne _ _ eq]at e;exact h.boxes q cs e
  crefs:=λq b e=>by
   by_cases eq:q=d
   ·subst eq;rw[upd_same,hrf]at e;cases e
   ·rw[upd_ne _ _ eq]at e;exact hbox b<|h.crefs q b e
  nodup:=λq=>by
   by_cases e:q=d
   ·subst e;rw[upd_same];exact hn
   ·rw[upd_ne _ _ e];exact h.nodup q
  apart:=λq r hqr g hg hg'=>by
   by_cases e:q=d
   ·subst e;rw[upd_same]at hg;rw[upd_ne _ _ (Ne.symm hqr)]at hg';exact h.hapart r g hg'<|hs g hg
   ·rw[upd_ne _ _ e]at hg;by_cases e':r=d
    ·subst e';rw[upd_same]at hg';exact h.hapart q g hg<|hs g hg'
    ·rw[upd_ne _ _ e']at hg';exact h.apart q r hqr g hg hg'
  hnodup:=AR
  hapart:=λ_ _ _=>by simp
  range:=λq g hg=>by
   by_cases e:q=d
   ·subst e;rw[upd_same]at hg;exact h.hrange g<|hs g hg
   ·rw[upd_ne _ _ e]at hg;exact h.range q g hg
  hrange:=by simp
  st:=h.st
  gl:=h.gl
  pin:=λv0 e=>by have hp:=h.pin v0 e;rw[ht,upd_ne _ _ (show v0.1≠d from λe0=>hd0 (e0 ▸ hp.2.2))];exact hp}
def HSim.Aem(h:HSim P nt bx base St B hand σ a w){s:Nat}{cs cs':List V}{c':V}(t:C0 (σ s)=some cs)(i:C0 c'=some cs'){bs:zN}{hand':zN}(A:Ci P w St (tm a) c' (tm a s) bs)
  (C:bs.Nodup) (u:∀g∈bs,g∈B s∨g∈hand) (v:hand'.Nodup) (m:∀g∈hand',g∈B s∨g∈hand) (x:∀g∈bs,g∉hand'):
  HSim P nt bx base St (upd B s bs) hand' (upd σ s c') a w:=by
 have y:D4 c'=none:=by cases c'<;>first|rfl|cases i
 have n:∀b,(∃cs,C0 (σ b)=some cs)->∃o,C0 (upd σ s c' b)=some o:=λb ⟨cs,e⟩=>by
  by_cases z:b=s
  ·subst z;exact⟨cs',by rw[upd_same];exact i⟩
  ·exact⟨cs,by rw[upd_ne _ _ z];exact e⟩
 have f:∀q,q≠s->∀g∈B q,¬(g∈B s∨g∈hand):=λq D g c j=>by
  rcases j with j|j
  ·exact h.apart q s D g c j
  ·exact h.hapart q g c j
 refine
 {h with
  slot:=λq=>by
   by_cases e:q=s
   ·subst e;rw[upd_same,upd_same];exact A
   ·rw[upd_ne _ _ e,upd_ne _ _ e];exact h.slot q
  boxes:=λq cs e=>by
   by_cases p:q=s
   ·subst p;exact h.boxes _ _ t
   ·rw[upd_ne _ _ p]at e;exact h.boxes q cs e
  crefs:=λq b e=>by
   by_cases p:q=s
   ·subst p;rw[upd_same,y]at e;cases e
   ·rw[upd_ne _ _ p]at e;exact n b<|h.crefs q b e
  nodup:=λq=>by
   by_cases e:q=s
   ·subst e;rw[upd_same];exact C
   ·rw[upd_ne _ _ e];exact h.nodup q
  apart:=λq r k g c d=>by
   by_cases e:q=s
   ·subst e;rw[upd_same]at c;rw[upd_ne _ _ (Ne.symm k)]at d;exact f r (Ne.symm k) g d<|u g c
   ·rw[upd_ne _ _ e]at c;by_cases e':r=s
    ·subst e';rw[upd_same]at d;exact f q e g c<|u g d
    ·rw[upd_ne _ _ e']at d;exact h.apart q r k g c d
  hnodup:=v
  hapart:=λq g c j=>by
   by_cases e:q=s
   ·subst e;rw[upd_same]at c;exact x g c j
   ·rw[upd_ne _ _ e]at c;exact f q e g c<|m g j
  range:=λq g c=>by
   by_cases e:q=s
   ·subst e;rw[upd_same]at c;rcases u g c with l|l
    ·exact h.range _ g l
    ·exact h.hrange g l
   ·rw[upd_ne _ _ e]at c;exact h.range q g c
  hrange:=λg c=>by
   rcases m g c with l|l
   ·exact h.range _ g l
   ·exact h.hrange g l}
def HSim.fresh(h:HSim P nt bx base St B hand σ a w){bs:zN}(d:bs.Nodup)(f:∀g∈bs,¬base g∧g < w.heap.size)(i:∀s,∀g∈B s,g∉bs)(j:∀g∈hand,g∉bs):
  HSim P nt bx base St B (hand++bs) σ a w:=
 {h with
  hnodup:=Ax.2 ⟨h.hnodup,d,λx k y l e=>by subst e;exact j x k l⟩
  hapart:=λs g b c=>by
   rcases Al.1 c with c|c
   ·exact h.hapart s g b c
   ·exact i s g b c
  hrange:=λg b=>by
   rcases Al.1 b with b|b
   ·exact h.hrange g b
   ·exact f g b}
end
end
section
inductive TyD where
 |sc (z:V)
 |st (size:Nat) (zero:List V) (fields:List (Nat×Nat))
 |sl (e:TypeId) (es eb:Nat) (ez:List V)
abbrev Tb:=TypeId->Option TyD
def TyD.size:TyD->Nat
 |.sc _=>1
 |.st n _ _=>n
 |.sl .. =>1
def TyD.ar:TyD->Bool
 |.st .. =>true
 |_=>false
def TyD.two:TyD->Bool
 |.st 2 [.int _ _,.int _ _] [(0,1),(1,1)]=>true
 |_=>false
def ZL(P:Program)(zs:List V)(us:List Value):Prop:=∀w a,Bj P w a zs us []
def P5(P:Program)(t:TypeId):TyD->Prop
 |.sc z=>∃i zv d,P.info? t=some i∧i.size=1∧i.zero=some zv∧ZL P [z] [zv]∧P.underlying t=some d∧(match z with|.int k _=>d=.int k|.bool _=>d=.bool|.str _=>d=.string|.tok _=>(∃ps rs v,d=.func ps rs v)|_=>False)
 |.st size zero fields=>∃i arr fs,P.info? t=some i∧i.size=size∧i.zero=some (.agg arr)∧ZL P zero arr.toList∧P.underlying t=some (.struct fs)∧fs.toList.map (λf=>(f.offset,V1 P f.type))=fields∧(∀f∈fields,0 < f.2)∧((TyD.st size zero fields).two=true->P.stoodInHeld t=false∧P.eqGuardType P.depth t=false∧∀f∈fs.toList,f.name≠ "_" ∧∃k,P.underlying f.type=some (.int k))
 |.sl e es eb ez=>∃i j zv,P.info? t=some i∧i.size=1∧i.zero=some (.slice none 0 0)∧P.underlying t=some (.slice e)∧P.info? e=some j∧j.zero=some zv∧j.size=es∧j.bytes=eb∧ZL P ez zv.cells.toList∧ez.length=es∧0 < es∧0 < eb∧eb<=128
def Lr(P:Program)(tb:Tb):Prop:=∀t d,tb t=some d->P5 P t d
def cV:Value->V
 |.int k n=>.int k n
 |.bool b=>.bool b
 |.string s=>if s.data.toList.length<=lim then .str s.data.toList else .undef
 |.slice none 0 0=>.dat 0 []
 |_=>.undef
def Cz(σ:PS):Operand->V
 |.tmp t=>σ t
 |.const v=>cV v
 |.func f=>.fn f
 |_=>.undef
def eq2:List V->List V->Bool
 |[.int _ a,.int _ b],[.int _ c,.int _ d]=>a==c&&b==d
 |_,_=>false
def zl(d:Option TyD):List V->List V->Prop
 |[.int k _,.int l _],[.int a _,.int b _]=>k=a∧l=b∧d.elim false TyD.two=true
 |_,_=>False
def mK:BinOp->V->V->V
 |.shl,.int k a,.int _ b=>.int k<|k.wrap<|a * 2 ^ (min b.toNat k.bits)
 |.shr,.int k a,.int _ b=>.int k<|a.fdiv<|2 ^ (min b.toNat k.bits)
 |.add,.int k a,.int _ b=>.int k<|k.wrap<|a+b
 |.sub,.int k a,.int _ b=>.int k<|k.wrap<|a - b
 |.mul,.int k a,.int _ b=>.int k<|k.wrap<|a * b
 |.quo,.int k a,.int _ b=>.int k<|k.wrap<|a.tdiv b
 |.rem,.int k a,.int _ b=>.int k<|a.tmod b
 |.and,.int k a,.int _ b=>.int k<|k.wrap (BitVec.ofInt k.bits a&&& BitVec.ofInt k.bits b).toNat
 |.or,.int k a,.int _ b=>.int k<|k.wrap (BitVec.ofInt k.bits a ||| BitVec.ofInt k.bits b).toNat
 |.xor,.int k a,.int _ b=>.int k<|k.wrap (BitVec.ofInt k.bits a ^^^ BitVec.ofInt k.bits b).toNat
 |.andNot,.int k a,.int _ b=>.int k<|k.wrap (BitVec.ofInt k.bits a&&& ~~~BitVec.ofInt k.bits b).toNat
 |.eql,.int _ a,.int _ b=>.bool<|a==b
 |.neq,.int _ a,.int _ b=>.bool<|a !=b
 |.lss,.int _ a,.int _ b=>.bool<|decide (a < b)
 |.leq,.int _ a,.int _ b=>.bool<|decide (a<=b)
 |.gtr,.int _ a,.int _ b=>.bool<|decide (b < a)
 |.geq,.int _ a,.int _ b=>.bool<|decide (b<=a)
 |.add,.str s,.str t=>.str<|s++t
 |.eql,.str s,.str t=>.bool<|s==t
 |.neq,.str s,.str t=>.bool (!(s==t))
 |.lss,.str s,.str t=>.bool<|Op.bytesLess s t
 |.leq,.str s,.str t=>.bool<|Op.bytesLess s t || s==t
 |.gtr,.str s,.str t=>.bool (!(Op.bytesLess s t || s==t))
 |.geq,.str s,.str t=>.bool (!Op.bytesLess s t)
 |.eql,.bool a,.bool b=>.bool<|a==b
 |.neq,.bool a,.bool b=>.bool (!(a==b))
 |.eql,.agg a,.agg b=>.bool<|eq2 a b
 |.neq,.agg a,.agg b=>.bool (!eq2 a b)
 |_,_,_=>.undef
def iH(d:Option TyD):BinOp->V->V->Prop
 |.shl,.int _ _,.int _ b=>0<=b
 |.shr,.int _ _,.int _ b=>0<=b
 |.quo,.int k _,.int c b=>k=c∧b≠0
 |.rem,.int k _,.int c b=>k=c∧b≠0
 |.add,.str s,.str t=>s.length+t.length<=lim
 |_,.int k _,.int c _=>k=c
 |.eql,.str _,.str _=>True
 |.neq,.str _,.str _=>True
 |.lss,.str _,.str _=>True
 |.leq,.str _,.str _=>True
 |.gtr,.str _,.str _=>True
 |.geq,.str _,.str _=>True
 |.eql,.bool _,.bool _=>d=some (.sc<|.bool false)
 |.neq,.bool _,.bool _=>d=some (.sc<|.bool false)
 |.eql,.agg a,.agg b=>zl d a b
 |.neq,.agg a,.agg b=>zl d a b
 |_,_,_=>False
def unV:UnOp->V->V
 |.not,.bool b=>.bool (!b)
 |.neg,.int k n=>.int k<|k.wrap<|0 - n
 |_,_=>.undef
def unC:UnOp->V->Prop
 |.not,.bool _=>True
 |.neg,.int _ _=>True
 |_,_=>False
section
variable {P:Program}{w:World}{St:Nat->Nat->Prop}{t:Nat->Value}
def Hd{k n v bs}(h:Ci P w St t (.int k n) v bs):v=.int k n:=h.2
def RK{b v bs}(h:Ci P w St t (.bool b) v bs):v=.bool b:=h.2
def Sm{s v bs}(h:Ci P w St t (.str s) v bs):v=.string ⟨s.toArray⟩∧s.length<=maxLen:=h.2
def RH(k:IntKind)(n:Int):Ci P w St t (.int k n) (.int k n) []:=⟨rfl,rfl⟩
def XX(b:Bool):Ci P w St t (.bool b) (.bool b) []:=⟨rfl,rfl⟩
def nE{s}(h:s.length<=maxLen):Ci P w St t (.str s) (.string ⟨s.toArray⟩) []:=⟨rfl,rfl,h⟩
def mX{ty}(a:P.underlying ty=some .bool)(n:Nat)(x y:Bool):(Op.equalIn (n+1) ty (.bool x)<|.bool y).run P w=.ok (x==y) w:=by simp[Op.equalIn,By a]
def mz{k l a b v bs}(h:Ci P w St t (.agg [.int k a,.int l b]) v bs):v=.agg #[.int k a,.int l b]:=by obtain⟨us,rfl,u,c,b1,b2,rfl,_,_,d,i,e,j,m,rfl,_,_,f,g⟩:=h;obtain⟨rfl,_⟩:=g;rw[d.2,f.2]
def zm{ty d}(s:P5 P ty d)(h:d.two=true)(x y:Operand){k l:IntKind}(a b a' b':Int):
  (do eqGuard .eql ty x y (.agg #[.int k a,.int l b]) (.agg #[.int k a',.int l b']);binOp .eql ty (.agg #[.int k a,.int l b]) (.agg #[.int k a',.int l b']):Sem Value).run P w=.ok (.bool<|a==a'&&b==b') w∧
  (do eqGuard .neq ty x y (.agg #[.int k a,.int l b]) (.agg #[.int k a',.int l b']);binOp .neq ty (.agg #[.int k a,.int l b]) (.agg #[.int k a',.int l b']):Sem Value).run P w=.ok (.bool (!(a==a'&&b==b'))) w:=by
 have e:=h;unfold TyD.two at e;split at e
 ·have⟨i,z,A,_,_,_,_,j,c,_,B⟩:=s;have⟨C,m,n⟩:=B h;have⟨L⟩:=A;rcases L with _|⟨f,_|⟨g,_|⟨O,L⟩⟩⟩
  ·simp at c
  ·simp at c
  rotate_left
  ·simp at c
  simp only[AH,Dv,CQ,Ch,and_true]at c;have⟨⟨D,_⟩,F,_⟩:=c;have⟨H,I,o⟩:=n f (by simp);have⟨J,K,p⟩:=n g (by simp);have q:P.fieldsOf ty= #[f,g]:=by unfold Program.fieldsOf;rw[j]
  have r:(Op.equalIn 10000 ty (.agg #[.int k a,.int l b])<|.agg #[.int k a',.int l b']).run P w=.ok (a==a'&&b==b') w:=by
   rw[run_equalIn_struct w 9999 ty _ _ (by rw[q];exact j) C,q];have p0:∀(u v:Value),(part f.type #[u,v] f.offset).run P w=.ok u w:=λu v=>by rw[D];simp[part,Go.isAgg,By o]
   have p1:∀(u v:Value),(part g.type #[u,v] g.offset).run P w=.ok v w:=λu v=>by rw[F];simp[part,Go.isAgg,By p]
   have M:=λx y=>run_equalIn_int (P:=P) w 9998 f.type k I x y o
   have N:=λx y=>run_equalIn_int (P:=P) w 9998 g.type l K x y p
   simp only[Op.eqFields,ne_eq,H,J,not_false_eq_true,EL,Bp,p0,A4,M];cases a==a' with
   |false=>simp
   |true=>simp only[Ai,Ca,Dz,Bp,p1,A4,N];cases b==b'<;>simp
  constructor
  ·rw[Bp,run_eqGuard_agg w .eql ty x y _ _ m,A4,run_eql_struct,r];rfl
  ·rw[Bp,run_eqGuard_agg w .neq ty x y _ _ m,A4,run_neq_struct,r];rfl
 ·cases e
def wS(op:BinOp)(ty:TypeId)(x y:Operand){h c2:V}{i j:Value}{b1 b2:zN}(e:Ci P w St t h i b1)(f:Ci P w St t c2 j b2){d:Option TyD}(m:∀x,d=some x->P5 P ty x)(c:iH d op h c2):
  ∃v,(do eqGuard op ty x y i j;binOp op ty i j:Sem Value).run P w=.ok v w∧Ci P w St t (mK op h c2) v []:=by
 unfold iH at c;split at c
 case h_1|h_2=>obtain rfl:=Hd e;obtain rfl:=Hd f;exact⟨_,by simp[eqGuard,binOp,Op.shift,Int.not_lt.2 c],RH _ _⟩
 case h_3|h_4=>obtain rfl:=Hd e;obtain rfl:=Hd f;obtain⟨rfl,o⟩:=c;exact⟨_,by simp[eqGuard,binOp,Op.intDiv,o],RH _ _⟩
 case h_5 s u=>
  obtain⟨rfl,p⟩:=Sm e;obtain⟨rfl,q⟩:=Sm f;refine⟨.string ⟨(s++u).toArray⟩,?_,nE<|by rw[Ak];exact Ba c⟩;have r:¬IntKind.i64.max < ((s.length+u.length:Nat):Int):=by have:IntKind.i64.max=9223372036854775807:=rfl;unfold lim at *;rw[this];exact Int.not_lt.2 (by omega)
  have e:(⟨s.toArray⟩:ByteArray)++⟨u.toArray⟩=⟨(s++u).toArray⟩:=by apply PB;simp
  simp only[eqGuard,binOp,Op.stringOp,ByteArray.size,LA,e,GT.gt,r,Dz];simp
 case h_6=>
  obtain rfl:=Hd e;obtain rfl:=Hd f;subst c
  cases op<;>first
   |(refine⟨_,?_,RH _ _⟩;simp only[eqGuard,binOp,Op.intArith,ne_eq,LB,Dz,Bp];rfl)
   |(refine⟨_,?_,RH _ _⟩;simp only[eqGuard,binOp,ne_eq,LB,Dz,Bp];rfl)
   |(refine⟨_,?_,XX _⟩;simp only[eqGuard,binOp,Op.intCmp,ne_eq,LB,Dz,Bp];rfl)
   |(exfalso;simp_all;done)
 case h_7|h_8|h_9|h_10|h_11|h_12=>obtain⟨rfl,p⟩:=Sm e;obtain⟨rfl,q⟩:=Sm f;exact⟨_,by simp[eqGuard,binOp,Op.stringOp,ByteArray.toList_eq],XX _⟩
 case h_13|h_14=>
  obtain rfl:=RK e;obtain rfl:=RK f;refine⟨_,?_,XX _⟩;have⟨_,_,_,_,_,_,_,z,n⟩:=m _ c;simp only at n;subst n;have A:∀x y:Bool,(Op.equal ty (.bool x)<|.bool y).run P w=.ok (x==y) w:=λx y=>mX z 9999 x y
  simp[eqGuard,binOp,A]
 case h_15|h_16=>
  unfold zl at c;split at c
  case h_2=>exact c.elim
  rename_i k a l b B a' C b';obtain⟨rfl,rfl,g⟩:=c;cases d with
  |none=>cases g
  |some d=>
   obtain rfl:=mz e;obtain rfl:=mz f;refine⟨_,?_,XX _⟩;have:=zm (P:=P) (w:=w) (m _ rfl) g x y (k:=k) (l:=l) a b a' b'
   first|exact this.1|exact this.2
 case h_17=>exact c.elim
def Aez(op:UnOp){c:V}{v:Value}{b:zN}(h:Ci P w St t c v b)(a:unC op c):∃u,(Op.unary op v).run P w=.ok u w∧Ci P w St t (unV op c) u []:=by
 unfold unC at a;split at a
 ·obtain rfl:=RK h;exact⟨_,rfl,XX _⟩
 ·obtain rfl:=Hd h;exact⟨_,rfl,RH _ _⟩
 ·exact a.elim
def add_plain(b o j:Nat):(⟨b,o,none⟩:Addr).add j=⟨b,o+j,none⟩:=by
 unfold Addr.add;split
 ·rename_i h;subst h;rfl
 ·rfl
end
def lD(g:Nat):V:=match lays.lookup g with
 |some l=>.adr (l.map λx=>.int x.1 x.2) 0
 |none=>.undef
def uf{g cs off}(h:lD g=.adr cs off):∃l,(g,l)∈lays∧cs=(l.map λx=>.int x.1 x.2)∧off=0:=by
 unfold lD at h;split at h
 ·rename_i l a;injection h with h1 h2
  refine⟨l,?_,h1.symm,h2.symm⟩
  have:∀L:List (Nat×List (IntKind×Int)),L.lookup g=some l->(g,l)∈L:=by
   intro L;induction L with
   |nil=>intro h;cases h
   |cons p L b=>
    intro h;rw[List.lookup_cons]at h;split at h
    ·rename_i e;injection h with h
     have e:=eq_of_beq e;subst h;subst e;exact BG ..
    ·exact AV _<|b h
  exact this _ a
 ·cases h
def TU{g}:(∀s o,lD g≠.cref s o)∧(∀u,lD g≠.tok u)∧(∀cs,lD g≠.box cs):=by unfold lD;split<;>exact⟨λ_ _ h=>(by cases h),λ_ h=>(by cases h),λ_ h=>(by cases h)⟩
def NQ(σ:PS):Operand->V
 |.tmp s=>match σ s with
  |.box _=>.cref s 0
  |c=>c
 |.global g=>lD g
 |_=>.undef
def getCells(d:TyD)(cs:List V)(off:Nat):V:=
 match d with
 |.st n _ _=>.agg<|((cs.drop off).take n).map WG
 |_=>match cs[off]? with
  |some c=>WG c
  |none=>.undef
def ZJ(d:TyD)(σ:PS):V->V
 |.cref s off=>match C0 (σ s)with
  |some cs=>getCells d cs off
  |none=>.undef
 |.adr cs off=>getCells d cs off
 |_=>.undef
def Xm(d:TyD)(σ:PS):V->Prop
 |.cref s off=>match C0 (σ s)with
  |some cs=>off+d.size<=cs.length
  |none=>False
 |.adr cs off=>off+d.size<=cs.length
 |_=>False
section
variable {P:Program}{w:World}{St:Nat->Nat->Prop}{t:Nat->Value}
def P5.isAgg{ty d}(h:P5 P ty d):(isAgg ty).run P w=.ok d.ar w:=by
 cases d with
 |sc z=>have⟨i,zv,d,_,_,_,_,a,b⟩:=h;cases z<;>simp only at b<;>first|exact b.elim|(subst b;simp[Go.isAgg,By a,TyD.ar];done)|(obtain⟨ps,rs,v,rfl⟩:=b;simp[Go.isAgg,By a,TyD.ar])
 |st n z f=>have⟨i,c,g,_,_,_,_,a,_⟩:=h;simp[Go.isAgg,By a,TyD.ar]
 |sl e es k l=>have⟨i,j,zv,_,_,_,a,_⟩:=h;simp[Go.isAgg,By a,TyD.ar]
def P5.sizeOf{ty d}(h:P5 P ty d):(Go.sizeOf ty).run P w=.ok d.size w:=by
 cases d with
 |sc z=>have⟨i,zv,d,hi,a,_⟩:=h;simp[Go.sizeOf,typeInfo,hi,a,TyD.size]
 |st n z f=>have⟨i,b,c,hi,a,_⟩:=h;simp[Go.sizeOf,typeInfo,hi,a,TyD.size]
 |sl e es g k=>have⟨i,j,zv,hi,a,_⟩:=h;simp[Go.sizeOf,typeInfo,hi,a,TyD.size]
def Su.take:∀{cs:List V}{us:List Value}(n:Nat),Su w St cs us->Su w St (cs.take n) (us.take n)
 |[],_,n,h=>by rw[show _=[]from h];simp[Su]
 |c::cs,_,0,h=>by simp[Su]
 |c::cs,_,n+1,⟨u,a,e,b,d⟩=>by rw[e,Dx,Dx];exact⟨u,a.take n,rfl,b,Su.take n d⟩
def Su.drop:∀{cs:List V}{us:List Value}(n:Nat),Su w St cs us->Su w St (cs.drop n) (us.drop n)
 |[],_,n,h=>by rw[show _=[]from h];simp[Su]
 |c::cs,_,0,h=>by simpa using h
 |c::cs,_,n+1,⟨u,a,e,d,b⟩=>by rw[e,Nq,Nq];exact Su.drop n b
def jC{ty d}(m:P5 P ty d){cs:List V}{off:Nat}{us:List Value}{b o:Nat}(h:Su w St (cs.drop off) us)(r:∀(j:Nat) (u:Value),us[j]? =some u->w.cell? ⟨b,o+j,none⟩=some u)(s:off+d.size<=cs.length)(A:0 < d.size∨d.ar=true):
  ∃v,(Instr.loadAt ty<|.pointer<|some ⟨b,o,none⟩).run P w=.ok v w∧Ow P w St (getCells d cs off) v []:=by
 have i:=h.length;rw[Be]at i;cases a:d.ar with
 |true=>
  cases d with
  |sc z=>cases a
  |sl e es B C=>cases a
  |st n z f=>
   simp only[TyD.size]at s;have x:=Su.take n h;refine⟨.agg (us.take n).toArray,?_,us.take n,rfl,Bj.uP _ x⟩
   have h:=Ia (P:=P) (w:=w) ⟨b,o,none⟩ (us.take n) (λj v l=>by
    rw[add_plain];rw[Eb]at l;split at l
    ·exact r j v l
    ·cases l)
   rw[Av,Ce (by omega)]at h;simp[Instr.loadAt,Instr.sureAddr,loadVar,m.isAgg,m.sizeOf,TyD.ar,TyD.size,h]
 |false=>
  have D:d.size=1:=by cases d<;>first|rfl|cases a
  have k:off < cs.length:=by omega
  have y:(cs.drop off)[0]? =some cs[off]:=by simp[k]
  have⟨u,p,q⟩:=h.get 0 _ y;have g:=r 0 u p;refine⟨u,?_,?_⟩
  ·have c:w.cell? ⟨b,o,none⟩=some u:=by simpa using g
   simp[Instr.loadAt,Instr.sureAddr,loadVar,m.isAgg,a,c]
  ·have:getCells d cs off=WG cs[off]:=by cases d<;>first|(simp only[getCells,Ah k];done)|cases a
   rw[this];exact Ow.Aev q.cb
end
section
variable {P:Program}{nt:Nat}{base:Bs}{bx:zN}{St:Nat->Nat->Prop}{B:Nat->zN}{hand:zN}{σ:PS}{a:Act}{w:World}
def y3{t c v bs cs}(e:C0 c=some cs)(h:Ci P w St t c v bs):
  ∃g T b,∃d:Array Value,Za v=some g∧w.heap[g]? =some (.cells d T (0,0))∧Bj P w St cs d.toList b∧bs=g::b∧∀o,¬St g o:=by
 cases c<;>simp only[C0,Ay,reduceCtorEq]at e
 ·subst e;obtain⟨g,T,b,d,rfl,f,i,j,k⟩:=h;exact⟨g,T,b,d,rfl,f,i,j,k⟩
 ·subst e;obtain⟨g,b,d,rfl,f,i,j,k,_⟩:=h;exact⟨g,_,b,d,rfl,f,i,j,k⟩
def fc{t w' c v bs bs'' cs cs' arr arr' T g}(j:C0 c=some cs)(h:Ci P w St t c v bs)(i:Za v=some g)(n:w.heap[g]? =some (.cells arr T (0,0)))
  (d:w'.heap[g]? =some (.cells arr' T (0,0))) (m:Bj P w' St cs' arr'.toList bs'') (e:∀o,¬St g o) (p:cs'.length=cs.length):Ci P w' St t (WM c cs') v (g::bs''):=by
 cases c<;>simp only[C0,Ay,reduceCtorEq]at j
 ·subst j;obtain⟨k,y,l,f,rfl,b,q,r,s⟩:=h;simp only[Za,Ay]at i;subst i;exact⟨k,T,bs'',arr',rfl,d,m,rfl,e⟩
 ·subst j;obtain⟨k,l,f,rfl,b,q,r,s,u,x⟩:=h;simp only[Za,Ay]at i;subst i;rw[n]at b;injection b with b
  injection b with _ b
  subst b;exact⟨k,bs'',arr',rfl,d,m,rfl,e,u,p.trans x⟩
def TA(h:HSim P nt bx base St B hand σ a w){x:Operand}{s off:Nat}{cs:List V}(e:NQ σ x=.cref s off)(t:C0 (σ s)=some cs):
  ∃g T b,∃c:Array Value,a.eval x=.pointer (some ⟨g,off,none⟩)∧Za (tm a s)=some g∧w.heap[g]? =some (.cells c T (0,0))∧Bj P w St cs c.toList b∧B s=g::b∧∀o,¬St g o:=by
 have⟨g,T,b,c,i,l,m,n,p⟩:=y3 t<|h.slot s;cases x with
 |tmp q=>
  simp only[NQ]at e;split at e
  ·rename_i cs' k;simp only[V.cref.injEq]at e;obtain⟨rfl,rfl⟩:=e;have j:=h.slot q;rw[k]at j;have⟨r,_,_,_,d,_⟩:=j;rw[d]at i;simp only[Za,Ay]at i;subst i;exact⟨r,T,b,c,d,by rw[d];rfl,l,m,n,p⟩
  ·have j:=h.slot q;rw[e]at j;have⟨_,r,d,e2⟩:=j;rw[i]at d;injection d with d
   subst d;exact⟨g,T,b,c,e2,i,l,m,n,p⟩
 |const v=>cases e
 |global g=>exact absurd e<|TU.1 _ _
 |func f=>cases e
def iA(h:HSim P nt bx base St B hand σ a w){x:Operand}{cs:List V}{off:Nat}(e:NQ σ x=.adr cs off):∃b o,a.eval x=.pointer (some ⟨b,o,none⟩)∧DO w St b o (cs.drop off):=by
 cases x with
 |tmp q=>
  simp only[NQ]at e;split at e
  ·cases e
  ·have d:=h.slot q;rw[e]at d;have⟨_,b,o,m,e2⟩:=d;exact⟨b,o,m,e2⟩
 |const v=>cases e
 |global g=>
  obtain⟨l,n,rfl,rfl⟩:=uf e;have⟨p,r⟩:=h.gl _ n;refine⟨g,0,rfl,?_⟩;rw[Cj]
  have c:∀(l:List (IntKind×Int)) (j:Nat),(∀i x,l[i]? =some x->w.cell? ⟨g,j+i,none⟩=some (.int x.1 x.2))->DO w St g j (l.map λx=>.int x.1 x.2):=by
   intro l;induction l with
   |nil=>intro j _;exact trivial
   |cons x l s=>exactλj k=>⟨⟨p j,_,by simpa using k 0 x rfl,rfl⟩,s (j+1) λi y t=>by have:=k (i+1) y (by rw[CS];exact t);rw[show j+1+i=j+(i+1)by omega];exact this⟩
  exact c l 0 (λi x u=>by rw[Cw];exact r i x u)
 |func f=>cases e
def uu(h:HSim P nt bx base St B hand σ a w){ty:TypeId}{d:TyD}(hd:P5 P ty d){x:Operand}(hc:Xm d σ (NQ σ x)):
  ∃v,(Instr.loadAt ty<|a.eval x).run P w=.ok v w∧Ow P w St (ZJ d σ<|NQ σ x) v []:=by
 have hp:0 < d.size∨d.ar=true:=by cases d<;>first|exact .inl (Nat.zero_lt_one)|exact .inr rfl
 cases e:NQ σ x with
 |cref s off=>
  rw[e]at hc;simp only[Xm]at hc;simp only[ZJ];split at hc
  ·rename_i cs hs;have⟨g,T,bs',arr,h1,h2,h3,h4,h5,h6⟩:=TA h e hs;rw[h1];refine jC hd (us:=arr.toList.drop off) ((Bj.rdL cs h4).drop off) (λj u hu=>?_) hc hp;rw[Du]at hu;simpa[World.cell?,h3]using hu
  ·exact hc.elim
 |adr cs off=>rw[e]at hc;simp only[Xm]at hc;simp only[ZJ];have⟨b,o,h1,h2⟩:=iA h e;have⟨us,h3,h4⟩:=h2.list;rw[h1];exact jC hd h3 h4 hc hp
 |_=>rw[e]at hc;exact hc.elim
def tokF(off:Nat):Value->V
 |.pointer (some ⟨g,o,none⟩)=>.tok<|.pointer<|some ⟨g,o+off,none⟩
 |_=>.undef
def qD(off:Nat)(u:Value):C0 (tokF off u)=none∧D4 (tokF off u)=none:=by unfold tokF;split<;>exact⟨rfl,rfl⟩
def xO:Value->Bool
 |.pointer (some ⟨_,_,none⟩)=>true
 |_=>false
def faV(off:Nat):V->V
 |.tok u=>tokF off u
 |.cref s o=>.cref s<|o+off
 |.adr cs o=>.adr cs<|o+off
 |_=>.undef
def faC(σ:PS):V->Prop
 |.cref s _=>∃cs,C0 (σ s)=some cs
 |.adr _ _=>True
 |.tok u=>xO u=true
 |_=>False
def pz{u}(h:xO u=true):∃g o,u=.pointer (some ⟨g,o,none⟩):=by
 unfold xO at h;split at h
 ·exact⟨_,_,rfl⟩
 ·cases h
def ac(h:HSim P nt bx base St B hand σ a w){x:Operand}{u:Value}(b:NQ σ x=.tok u):a.eval x=u:=by
 cases x with
 |tmp s=>
  have c:σ s=.tok u:=by
   unfold NQ at b;simp only at b;split at b
   ·cases b
   ·exact b
  have:=h.slot s;rw[c]at this;exact this.2.1
 |global g=>exact absurd b<|TU.2.1 _
 |_=>cases b
def rl(h:HSim P nt bx base St B hand σ a w){ty:TypeId}{n:Nat}{z:List V}{D:List (Nat×Nat)}(I:P5 P ty (.st n z D)){f off F:Nat}(r:D[f]? =some (off,F)){x:Operand}(l:faC σ (NQ σ x)):
  ∃v,(Instr.fieldAt ty (a.eval x) f).run P w=.ok v w∧Ci P w St (tm a) (faV off<|NQ σ x) v []:=by
 have⟨i,J,K,_,_,_,_,L,t,m,_⟩:=I
 have M:∃d,K[f]? =some d∧d.offset=off∧V1 P d.type=F:=by
  rw[<-t,BZ]at r;have⟨d,p,k⟩:=BY.1 r;injection k with k h3
  exact⟨d,by simpa using p,k,h3⟩
 obtain⟨d,y,rfl,A⟩:=M;have q:0 < V1 P d.type:=by rw[A];exact m _<|BV r
 obtain⟨j,N,C⟩:∃j,P.info? d.type=some j∧j.size≠0:=by
  unfold V1 at q;cases hi:P.info? d.type with
  |none=>rw[hi]at q;simp at q
  |some j=>rw[hi]at q;exact⟨j,rfl,by simp at q;omega⟩
 have c:∀b o,(Instr.fieldAt ty (.pointer<|some ⟨b,o,none⟩) f).run P w=.ok (.pointer<|some ⟨b,o+d.offset,none⟩) w:=by intro b o;simp[Instr.fieldAt,By L,y,Instr.sureAddr,fieldPlace,Go.sizeOf,typeInfo,N,C,add_plain]
 cases e:NQ σ x with
 |cref s o=>rw[e]at l;have⟨cs,O⟩:=l;have⟨g,T,Q,H,p,k,_⟩:=TA h e O;rw[p];exact⟨_,c _ _,rfl,g,k,rfl⟩
 |adr cs o=>have⟨b,R,p,k⟩:=iA h e;rw[p];refine⟨_,c _ _,rfl,b,_,rfl,?_⟩;rw[<-Ja];exact k.drop _
 |tok u=>rw[e]at l;obtain⟨g,o,rfl⟩:=pz l;rw[ac h e];exact⟨_,c _ _,rfl,rfl,rfl⟩
 |_=>rw[e]at l;exact l.elim
def qw{e n cs v bs t c}(b:c=.own e n cs∨c=.dat n cs)(h:Ci P w St t c v bs):Rd w St (.dat n cs) v:=by
 rcases b with rfl|rfl
 ·have:=Ow.rd (.own e n cs) (show Ow P w St (.own e n cs) v bs from h) rfl;simp only[Rd]at this⊢;exact this
 ·exact Ow.rd (.dat n cs) (show Ow P w St (.dat n cs) v bs from h) rfl
def Mk:V->Option (Nat×List V)
 |.own _ n cs=>some (n,cs)
 |.dat n cs=>some (n,cs)
 |.arg n cs=>some (n,cs)
 |.pin _ n cs=>some (n,cs)
 |_=>none
def Nh{t c v bs n cs}(hc:Mk c=some (n,cs))(h:Ci P w St t c v bs):Rd w St (.dat n cs) v:=by
 cases c<;>simp only[Mk,Ay,Ch,reduceCtorEq]at hc
 ·obtain⟨rfl,rfl⟩:=hc;exact qw (.inl rfl) h
 ·obtain⟨rfl,rfl⟩:=hc;exact qw (e:=0) (.inr rfl) h
 ·obtain⟨rfl,rfl⟩:=hc;have⟨_,hn,A,c,e,hc,h,h0⟩:=h;exact⟨hn,A,c,e,hc,λhp=>let⟨b,off,ea,_,hr⟩:=h hp;⟨b,off,ea,hr⟩,h0⟩
 ·obtain⟨rfl,rfl⟩:=hc;exact h.2.2
def SG:V->Option Int
 |.int _ n=>some n
 |_=>none
def ZY{t c v bs i}(b:SG c=some i)(h:Ci P w St t c v bs):∃k,v=.int k i:=by
 cases c<;>simp only[SG,Ay,reduceCtorEq]at b
 subst b;exact⟨_,Hd h⟩
def iaV(es:Nat)(x i:V):V:=match Mk x,SG i with
 |some (_,cs),some i=>.adr (cs.drop<|i.toNat * es) 0
 |_,_=>.undef
def iaC(x i:V):Prop:=match Mk x,SG i with
 |some (n,_),some i=>0<=i∧i < n
 |_,_=>False
def nr{t ty e es eb ez}(m:P5 P ty (.sl e es eb ez)){c d:V}{v u:Value}{b1 b2:zN}(o:Ci P w St t c v b1)(p:Ci P w St t d u b2)(g:iaC c d):
  ∃r,(Instr.indexAt ty v u).run P w=.ok r w∧Ci P w St t (iaV es c d) r []:=by
 have⟨i,j,zv,_,_,_,q,s,_,h,_⟩:=m;unfold iaC at g;split at g
 ·rename_i n cs x l hi;obtain⟨z,A,cap,rfl,_,f,_⟩:=Nh l o;obtain⟨k,rfl⟩:=ZY hi p;obtain⟨b,off,rfl,y⟩:=f (by omega);simp only[iaV,l,hi];refine⟨.pointer<|some ⟨b,off+x.toNat * es,none⟩,?_,rfl,b,_,rfl,by rw[Cj];exact y.drop _⟩;simp[Instr.indexAt,asIntOf,By q,g,Go.sizeOf,typeInfo,s,h,add_plain]
 ·exact g.elim
end
def r7(x i:V):V:=match x,SG i with
 |.str s,some i=>match s[i.toNat]? with
  |some b=>.int .u8 b.toNat
  |none=>.undef
 |_,_=>.undef
def r6(x i:V):Prop:=match x,SG i with
 |.str s,some i=>0<=i∧i < s.length
 |_,_=>False
def lenV:V->V
 |.str s=>.int .i64 s.length
 |c=>match Mk c with
  |some (n,_)=>.int .i64 n
  |none=>.undef
def rx(d:Option TyD):V->Prop
 |.str _=>d=some (.sc<|.str [])
 |c=>match Mk c,d with
  |some _,some (.sl ..)=>True
  |_,_=>False
def W2(a:Int):Option V->Option Int
 |none=>some a
 |some c=>SG c
def ZS:V->Nat->List V->V
 |.arg _ _,n,cs=>.arg n cs
 |_,n,cs=>.dat n cs
def WL(d:Option TyD)(x:V)(lo hi:Option V):V:=match d,x with
 |some (.sc _),.str s=>match W2 0 lo,W2 s.length hi with
  |some l,some h=>.str<|(s.take h.toNat).drop l.toNat
  |_,_=>.undef
 |some (.sl _ es _ _),x=>match Mk x with
  |some (n,cs)=>match W2 0 lo,W2 n hi with
   |some l,some h=>ZS x (h.toNat - l.toNat)<|(cs.take<|h.toNat * es).drop<|l.toNat * es
   |_,_=>.undef
  |none=>.undef
 |_,_=>.undef
def bW(d:Option TyD)(x:V)(lo hi:Option V):Prop:=match d,x with
 |some (.sc<|.str []),.str s=>match W2 0 lo,W2 s.length hi with
  |some l,some h=>0<=l∧l<=h∧h<=s.length
  |_,_=>False
 |some (.sl _ es _ _),x=>match Mk x with
  |some (n,cs)=>match W2 0 lo,W2 n hi with
   |some l,some h=>0<=l∧l<=h∧h<=n∧cs.length=n * es
   |_,_=>False
  |none=>False
 |_,_=>False
def kB:V->UInt8
 |.int _ n=>UInt8.ofNat n.toNat
 |_=>0
def Abk:V->Bool
 |.int .u8 _=>true
 |_=>false
def gd(dd:Option TyD)(x:V):V:=match dd,x with
 |some (.sc<|.int k _),.int _ n=>.int k<|k.wrap n
 |some (.sc<|.str _),x=>match Mk x with
  |some (_,cs)=>.str<|cs.map kB
  |none=>.undef
 |_,_=>.undef
def dq(tb:Tb)(a b:TypeId)(x:V):Prop:=match tb a,tb b,x with
 |some _,some (.sc<|.int _ _),.int _ _=>True
 |some (.sl e _ _ _),some (.sc<|.str _),x=>match Mk x,tb e with
  |some (n,cs),some (.sc<|.int .u8 _)=>cs.length=n∧cs.all Abk=true
  |_,_=>False
 |_,_,_=>False
def mxV(c:Bool)(x y:V):V:=match x,y with
 |.int k a,.int _ b=>.int k (if c then(if a < b then b else a)else(if b < a then b else a))
 |_,_=>.undef
def mxC(x y:V):Prop:=match x,y with
 |.int _ _,.int _ _=>True
 |_,_=>False
section
variable {P:Program}{w:World}{St:Nat->Nat->Prop}{t:Nat->Value}
def P5.und{ty d}(h:P5 P ty d):∃u,P.underlying ty=some u:=by
 cases d with
 |sc z=>have⟨i,zv,d,_,_,_,_,a,c⟩:=h;exact⟨_,a⟩
 |st n z f=>have⟨i,b,g,_,_,_,_,a,_⟩:=h;exact⟨_,a⟩
 |sl e es k l=>have⟨i,j,zv,_,_,_,a,_⟩:=h;exact⟨_,a⟩
def P5.str{ty s}(h:P5 P ty (.sc<|.str s)):P.underlying ty=some .string:=by have⟨i,zv,d,_,_,_,_,b,a⟩:=h;rw[b];simp only at a;rw[a]
def P5.int{ty k n}(h:P5 P ty (.sc<|.int k n)):P.underlying ty=some (.int k):=by have⟨i,zv,d,_,_,_,_,b,a⟩:=h;rw[b];simp only at a;rw[a]
def size_bytes(s:zU):(⟨s.toArray⟩:ByteArray).size=s.length:=by show s.toArray.size=_;simp
def fK(s:zU)(i:Nat):(⟨s.toArray⟩:ByteArray)[i]? =s[i]?:=by
 simp only[getElem?,decidableGetElem?];by_cases h:i < s.length
 ·have a:i < (⟨s.toArray⟩:ByteArray).size:=by simpa[ByteArray.size]using h
  rw[dif_pos a];show some (s.toArray[i]'_)=_;simp[h]
 ·have a:¬i < (⟨s.toArray⟩:ByteArray).size:=by simpa[ByteArray.size]using h
  rw[dif_neg a];simp[h]
def yZ{ty s0}(e:P5 P ty (.sc<|.str s0)){c d:V}{v u:Value}{b1 b2:zN}(f:Ci P w St t c v b1)(g:Ci P w St t d u b2)(b:r6 c d):
  ∃r,(Instr.index ty v u).run P w=.ok r w∧Ci P w St t (r7 c d) r []:=by
 have h:=e.str;unfold r6 at b;split at b
 ·rename_i s i hi;obtain⟨rfl,_⟩:=Sm f;obtain⟨k,rfl⟩:=ZY hi g;have a:i.toNat < s.length:=by omega
  have j:(⟨s.toArray⟩:ByteArray)[i.toNat]? =some s[i.toNat]:=by rw[fK,Ah a]
  simp only[r7,hi,Ah a];exact⟨_,by simp[Instr.index,asIntOf,By h,b.1,j],RH _ _⟩
 ·exact b.elim
def xQ{ty rt d}(h:∀x,d=some x->P5 P ty x){c:V}{v:Value}{b1:zN}(k:Ci P w St t c v b1)(b:rx d c):
  ∃r,(Builtin.len_ #[ty] rt #[v]).run P w=.ok r w∧Ci P w St t (lenV c) r []:=by
 unfold rx at b;split at b
 ·rename_i s;obtain⟨rfl,_⟩:=Sm k;refine⟨.int .i64 s.length,?_,RH _ _⟩;have g:=By (h _ b).str;simp only[Builtin.len_,Bp,List.getElem?_toArray,Cd,g,A4,size_bytes,BI,goInt]
 ·rename_i l;cases a:Mk c with
  |none=>rw[a]at b;exact b.elim
  |some z=>
   have⟨n,cs⟩:=z;rw[a]at b;cases d with
   |none=>exact b.elim
   |some d=>
    cases d with
    |sc z=>exact b.elim
    |st n z f=>exact b.elim
    |sl e es m o=>
     obtain⟨_,A,cap,rfl,_⟩:=Nh a k;have⟨i,j,zv,_,_,_,g,_⟩:=h _ rfl;have:lenV c=.int .i64 n:=by cases c<;>first|(simp only[Mk,Ay,Ch]at a;simp[lenV,Mk,a.1];done)|cases a
     rw[this];exact⟨_,by simp[Builtin.len_,By g,goInt],RH _ _⟩
def fI(s:zU)(l h:Nat):(⟨s.toArray⟩:ByteArray).extract l h=⟨((s.take h).drop l).toArray⟩:=by apply PB;rw[ByteArray.data_extract];apply Array.ext';rw[Array.toList_extract,List.extract_eq_take_drop,OA]
def BdR(a i:Int)(v:Option Value):Prop:=(v=none∧i=a)∨∃k,v=some (.int k i)
def oq{lo vl l dflt}(a:W2 dflt lo=some l)(d:∀c,lo=some c->∃v b,vl=some v∧Ci P w St t c v b)(f:lo=none->vl=none):BdR dflt l vl:=by
 cases lo with
 |none=>simp only[W2,Ay]at a;exact .inl ⟨f rfl,a.symm⟩
 |some c=>have⟨v,b,e,h⟩:=d c rfl;obtain⟨k,rfl⟩:=ZY a h;exact .inr ⟨k,e⟩
def dj(b:Bool)(a cap:Nat){l h:Int}{vl vh:Option Value}(e:BdR 0 l vl)(f:BdR a h vh)(c:0<=l)(g:l<=h)(d:h<=cap):
  (Instr.sliceBounds b a cap vl vh none).run P w=.ok (l.toNat,h.toNat,cap) w:=by
 rcases e with⟨rfl,rfl⟩|⟨k,rfl⟩<;>rcases f with⟨rfl,rfl⟩|⟨i,rfl⟩
 ·simp[Instr.sliceBounds]
 ·simp[Instr.sliceBounds,Instr.sliceBound,asIntOf,show 0<=h by omega,d]
 ·simp[Instr.sliceBounds,Instr.sliceBound,asIntOf,c,g]
 ·simp[Instr.sliceBounds,Instr.sliceBound,asIntOf,show 0<=h by omega,d,c];intro j;omega
def u9{ty d}(hd:∀x,d=some x->P5 P ty x){c:V}{v:Value}{b1:zN}(h1:Ci P w St t c v b1){lo hi:Option V}{vl vh:Option Value}
  (hlv:∀c,lo=some c->∃v b,vl=some v∧Ci P w St t c v b) (hln:lo=none->vl=none) (hhv:∀c,hi=some c->∃v b,vh=some v∧Ci P w St t c v b) (hhn:hi=none->vh=none) (hc:bW d c lo hi):
  ∃r,(Instr.sliceAt ty v vl vh none).run P w=.ok r w∧Ci P w St t (WL d c lo hi) r []:=by
 unfold bW at hc;split at hc
 ·rename_i s;obtain⟨rfl,hs⟩:=Sm h1;have hu:=By (P:=P) (hd _ rfl).str w;split at hc
  ·rename_i l h hl hh;have e:=dj (P:=P) (w:=w) false s.length s.length (oq hl hlv hln) (oq hh hhv hhn) hc.1 hc.2.1 hc.2.2;refine⟨.string ⟨((s.take h.toNat).drop l.toNat).toArray⟩,?_,?_⟩
   ·simp[Instr.sliceAt,Instr.slice,hu,size_bytes,e,fI]
   ·simp only[WL,hl,hh];exact nE (by simp;omega)
  ·exact hc.elim
 ·rename_i e es eb ez;cases hsl:Mk c with
  |none=>rw[hsl]at hc;exact hc.elim
  |some z=>
   have⟨n,cs⟩:=z;rw[hsl]at hc;simp only at hc;split at hc
   ·rename_i l h hl hh;obtain⟨hn,A,cap,rfl,hcap,hrow,h0⟩:=Nh hsl h1;have⟨i,j,zv,_,_,_,hu,hj,_,hes,_⟩:=hd _ rfl;have hbd:=dj (P:=P) (w:=w) true n cap (oq hl hlv hln) (oq hh hhv hhn) hc.1 hc.2.1 (by omega);have hv:WL (some<|.sl e es eb ez) c lo hi=ZS c (h.toNat - l.toNat) ((cs.take<|h.toNat * es).drop<|l.toNat * es):=by cases c<;>simp only[Mk,Ay,Ch,reduceCtorEq]at hsl<;>simp[WL,Mk,hsl,hl,hh]
    rw[hv];refine⟨.slice (if cap=l.toNat then A else A.map (·.add (l.toNat * es))) (h.toNat - l.toNat)<|cap - l.toNat,?_,?_⟩
    ·simp[Instr.sliceAt,Instr.slice,By hu,hbd,Go.sizeOf,typeInfo,hj,hes]
    ·have hdat:Rd w St (.dat (h.toNat - l.toNat)<|(cs.take<|h.toNat * es).drop<|l.toNat * es) (.slice (if cap=l.toNat then A else A.map (·.add (l.toNat * es))) (h.toNat - l.toNat)<|cap - l.toNat):=by
      refine⟨BH (by omega) hn,_,_,rfl,by omega,λhp=>?_,λhz=>?_⟩
      ·obtain⟨b,off,rfl,hr⟩:=hrow (by omega);refine⟨b,off+l.toNat * es,by rw[As (by omega)];simp[add_plain],?_⟩;rw[OA];exact(hr.drop _).take _
      ·have:l.toNat=h.toNat:=by omega
       rw[this];simp
     have hother:ZS c (h.toNat - l.toNat) ((cs.take<|h.toNat * es).drop<|l.toNat * es)=.dat (h.toNat - l.toNat) ((cs.take<|h.toNat * es).drop<|l.toNat * es)∨c=.arg n cs:=by cases c<;>simp only[Mk,Ay,Ch,reduceCtorEq]at hsl<;>first|exact .inl rfl|(obtain⟨rfl,rfl⟩:=hsl;exact .inr rfl)
     rcases hother with ho|rfl
     ·rw[ho];exact⟨rfl,hdat⟩
     ·have⟨_,_,A',cap',e1,_,hrow',_⟩:=h1;injection e1 with e1 _ _
      subst e1;refine⟨rfl,BH (by omega) hn,_,_,rfl,by omega,λhp=>?_,λhz=>?_⟩
      ·obtain⟨b,off,rfl,hw,hr⟩:=hrow' (by omega);refine⟨b,off+l.toNat * es,by rw[As (by omega)];simp[add_plain],λhne=>hw<|λh0=>hne<|by rw[h0];simp,?_⟩;rw[OA];exact(hr.drop _).take _
      ·have:l.toNat=h.toNat:=by omega
       rw[this];simp
   ·exact hc.elim
 ·exact hc.elim
def xX{rt ts c d v u b1 b2}(b:Ci P w St t c v b1)(e:Ci P w St t d u b2)(a:mxC c d):
  ∃r,(Builtin.max_ ts rt #[v,u]).run P w=.ok r w∧Ci P w St t (mxV true c d) r []:=by
 unfold mxC at a;split at a
 ·obtain rfl:=Hd b;obtain rfl:=Hd e;refine⟨_,?_,RH _ _⟩;simp[Builtin.max_,Builtin.max2]
 ·exact a.elim
def xY{rt ts c d v u b1 b2}(b:Ci P w St t c v b1)(e:Ci P w St t d u b2)(a:mxC c d):
  ∃r,(Builtin.min_ ts rt #[v,u]).run P w=.ok r w∧Ci P w St t (mxV false c d) r []:=by
 unfold mxC at a;split at a
 ·obtain rfl:=Hd b;obtain rfl:=Hd e;refine⟨_,?_,RH _ _⟩;simp[Builtin.min_,Builtin.min2]
 ·exact a.elim
def foldl_push(a:zI):∀(s:ByteArray),a.foldl (λr n=>r.push<|UInt8.ofNat n.toNat) s=⟨(s.data.toList++a.map λn=>UInt8.ofNat n.toNat).toArray⟩:=by
 induction a with
 |nil=>intro s;apply PB;simp
 |cons n a b=>intro s;rw[DR,b];apply PB;simp[ByteArray.push]
def u8s:∀{cs:List V},cs.all Abk=true->∃a:zI,cs=a.map (V.int .u8)
 |[],_=>⟨[],rfl⟩
 |c::cs,h=>by
  simp only[Bz,Ad]at h;obtain⟨a,rfl⟩:=u8s h.2;have b:=h.1;cases c with
  |int k n=>cases k<;>first|exact⟨n::a,rfl⟩|cases b
  |_=>cases b
def vo:∀{a:zI}{us:List Value},Su w St (a.map<|V.int .u8) us->us=a.map (Value.int .u8)
 |[],_,h=>h
 |n::a,_,⟨u,b,e,c,d⟩=>by rw[e,AH,vo d,show u=.int .u8 n from c]
def dr{z c n cs}(h:Mk c=some (n,cs)):gd (some<|.sc<|.str z) c=.str (cs.map kB):=by cases c<;>first|(simp only[gd,h];done)|cases h
def sT{tb}(a:Lr P tb){s l:TypeId}{c:V}{v:Value}{b1:zN}(H:Ci P w St t c v b1)(q:dq tb s l c):
  ∃r,(convert s l v).run P w=.ok r w∧Ci P w St t (gd (tb l) c) r []:=by
 unfold dq at q;split at q
 ·rename_i ds k z Q n B u;obtain rfl:=Hd H;have⟨us,m⟩:=(a _ _ B).und;have o:=(a _ _ u).int;rw[u];exact⟨_,by simp[convert,By m,By o,Conv.intToInt],RH _ _⟩
 ·rename_i e es R S z B u;split at q
  ·rename_i n cs T x K;have⟨d,y⟩:=q;obtain⟨f,rfl⟩:=u8s y;have⟨i,j,zv,_,_,_,m,_⟩:=a _ _ B;have o:=(a _ _ u).str;have C:=(a _ _ K).int;have D:=Nh x H;obtain⟨U,A,cap,rfl,I,g,W⟩:=D;rw[Am]at d;rw[u,dr x];have F:(f.map<|V.int .u8).map kB=f.map λn=>UInt8.ofNat n.toNat:=by simp[EY,Function.comp_def,kB]
   rw[F];refine⟨.string ⟨(f.map λn=>UInt8.ofNat n.toNat).toArray⟩,?_,nE<|by simp;omega⟩
   have p:(Conv.bytesToString<|.slice A n cap).run P w=.ok (.string ⟨(f.map λn=>UInt8.ofNat n.toNat).toArray⟩) w:=by
    cases A with
    |none=>
     have X:n=0:=by
      rcases BD n with h|h
      ·exact h
      ·have⟨_,_,h,_⟩:=g h;cases h
     have:f=[]:=Bf (by omega);subst this;rfl
    |some L=>
     rcases BD n with h|h
     ·subst h;have:f=[]:=Bf d;subst this;have:=run_bytesToString (P:=P) w L 0 cap [] (by simp[loadCells,loadCellsFrom]);rw[this,foldl_push];simp
     ·have⟨b,off,e,M⟩:=g h;injection e with e
      subst e;have⟨us,N,O⟩:=M.list;have:=vo N;subst this;have J:=Ia (P:=P) (w:=w) ⟨b,off,none⟩ (f.map<|Value.int .u8) (λj v F=>by rw[add_plain];exact O j v F);rw[Am,d]at J;rw[run_bytesToString (P:=P) w _ n cap f J,foldl_push];simp
   simp only[convert,Bp,By m,By o,A4,By C,p]
  ·exact q.elim
 ·exact q.elim
end
def zi(es:Nat):Value->Option Int->V
 |.slice (some ⟨g,0,none⟩) _ _,some i=>.tok<|.pointer<|some ⟨g,i.toNat * es,none⟩
 |_,_=>.undef
def qE:Value->Option Int->Prop
 |.slice (some ⟨_,0,none⟩) n _,some i=>0<=i∧i < n
 |_,_=>False
def iaS(σ:PS)(es:Nat)(x i:V):V:=match x with
 |.tok u=>zi es u<|SG i
 |.same s=>match σ s,SG i with
  |.uni _ _ _,some i=>.cref s<|i.toNat * es
  |_,_=>.undef
 |x=>iaV es x i
def dO(σ:PS)(x i:V):Prop:=match x with
 |.tok u=>qE u<|SG i
 |.same s=>match σ s,SG i with
  |.uni _ n _,some i=>0<=i∧i < n
  |_,_=>False
 |x=>iaC x i
def fL(σ:PS)(x:V):V:=match x with
 |.same s=>match σ s with
  |.uni _ n _=>.int .i64 n
  |_=>.undef
 |x=>lenV x
def Yo(d:Option TyD)(σ:PS)(x:V):Prop:=match x with
 |.same s=>match σ s,d with
  |.uni _ _ _,some (.sl ..)=>True
  |_,_=>False
 |x=>rx d x
def mvV(σ:PS):Operand->V
 |.tmp s=>match σ s with
  |.uni _ _ _=>.same s
  |.same b=>.same b
  |.box _=>.cref s 0
  |.cref b o=>.cref b o
  |c=>dg c
 |x=>dg<|Cz σ x
def mvC(σ:PS):Operand->Prop
 |.tmp s=>match σ s with
  |.uni _ _ _=>True
  |.same _=>True
  |.box _=>True
  |.cref _ _=>True
  |c=>c.isVal=true
 |x=>(Cz σ x).isVal=true
section
variable {P:Program}{nt:Nat}{base:Bs}{bx:zN}{St:Nat->Nat->Prop}{B:Nat->zN}{hand:zN}{σ:PS}{a:Act}{w:World}
def mm(h:HSim P nt bx base St B hand σ a w){s q:Nat}{e:TypeId}{n:Nat}{cs:List V}(f:σ q=.same s)(i:σ s=.uni e n cs):∃g,tm a q=.slice (some ⟨g,0,none⟩) n n∧tm a s=.slice (some ⟨g,0,none⟩) n n:=by have b:=h.slot q;have c:=h.slot s;rw[f]at b;rw[i]at c;have⟨g,_,_,d,_⟩:=c;exact⟨g,by rw[b.2,d],d⟩
def nu(h:HSim P nt bx base St B hand σ a w){ty e:TypeId}{es c:Nat}{f:List V}(l:P5 P ty (.sl e es c f)){s q:Nat}{m:TypeId}{n:Nat}{cs:List V}(o:σ q=.same s)(p:σ s=.uni m n cs){d:V}{i:Int}{u:Value}{b2:zN}(hi:SG d=some i)(t:Ci P w St (tm a) d u b2)(v:0<=i∧i < n):
  ∃r,(Instr.indexAt ty (tm a q) u).run P w=.ok r w∧Ci P w St (tm a) (.cref s<|i.toNat * es) r []:=by
 have⟨A,j,zv,_,_,_,x,y,_,b,_⟩:=l;have⟨g,z,e2⟩:=mm h o p;obtain⟨k,rfl⟩:=ZY hi t;rw[z];refine⟨.pointer<|some ⟨g,0+i.toNat * es,none⟩,?_,rfl,g,by rw[e2];rfl,by rw[Cw]⟩;simp[Instr.indexAt,asIntOf,By x,v,Go.sizeOf,typeInfo,y,b,add_plain]
def nv{ty e es eb ez}(f:P5 P ty (.sl e es eb ez)){x:Value}{d:V}{u:Value}{b2:zN}{t:Nat->Value}(h:Ci P w St t d u b2)(b:qE x (SG d)):
  ∃r,(Instr.indexAt ty x u).run P w=.ok r w∧(∃q,zi es x (SG d)=.tok q)∧Ci P w St t (zi es x<|SG d) r []:=by
 have⟨p,j,zv,_,_,_,l,o,_,c,_⟩:=f;unfold qE at b;split at b
 ·rename_i g n m i hi;obtain⟨k,rfl⟩:=ZY hi h;rw[hi];refine⟨.pointer<|some ⟨g,0+i.toNat * es,none⟩,?_,⟨_,rfl⟩,rfl,by simp,rfl⟩;simp[Instr.indexAt,asIntOf,By l,b,Go.sizeOf,typeInfo,o,c,add_plain]
 ·exact b.elim
def ug(h:HSim P nt bx base St B hand σ a w){ty rt e:TypeId}{es b:Nat}{c:List V}(d:P5 P ty (.sl e es b c)){s q:Nat}{f:TypeId}{n:Nat}{cs:List V}(i:σ q=.same s)(k:σ s=.uni f n cs):
  ∃r,(Builtin.len_ #[ty] rt #[tm a q]).run P w=.ok r w∧Ci P w St (tm a) (.int .i64 n) r []:=by
 have⟨p,j,zv,_,_,_,l,t,_,m,_⟩:=d;have⟨g,o,e2⟩:=mm h i k;rw[o];exact⟨_,by simp[Builtin.len_,By l,goInt],RH _ _⟩
end
end
section
def QP(σ:PS):Callee->List Operand->V
 |.builtin .len,[x]=>fL σ<|Cz σ x
 |.builtin .max,[x,y]=>mxV true (Cz σ x)<|Cz σ y
 |.builtin .min,[x,y]=>mxV false (Cz σ x)<|Cz σ y
 |_,_=>.undef
def TY(tb:Tb)(σ:PS):Callee->List Operand->List TypeId->Prop
 |.builtin .len,[x],[t]=>Yo (tb t) σ<|Cz σ x
 |.builtin .max,[x,y],_=>mxC (Cz σ x)<|Cz σ y
 |.builtin .min,[x,y],_=>mxC (Cz σ x)<|Cz σ y
 |_,_,_=>False
def eI(σ:PS)(a b:Operand):V->V
 |.bool q=>if q then dg (Cz σ a)else dg (Cz σ b)
 |_=>.undef
def eH(σ:PS)(a b:Operand):V->Prop
 |.bool q=>if q then(Cz σ a).isVal=true else(Cz σ b).isVal=true
 |_=>False
def tg(d:Option TyD)(f:Nat)(x:V):V:=match d with
 |some (.st _ _ a)=>match a[f]? with
  |some (off,_)=>faV off x
  |none=>.undef
 |_=>.undef
def kT(d:Option TyD)(f:Nat)(σ:PS)(x:V):Prop:=match d with
 |some (.st _ _ a)=>match a[f]? with
  |some _=>faC σ x
  |none=>False
 |_=>False
def nq(d:Option TyD)(σ:PS)(x i:V):V:=match d with
 |some (.sl _ es _ _)=>iaS σ es x i
 |_=>.undef
def np(d:Option TyD)(σ:PS)(x i:V):Prop:=match d with
 |some (.sl ..)=>dO σ x i
 |_=>False
def We(d:Option TyD)(σ:PS)(x:V):V:=match d with
 |some d=>ZJ d σ x
 |none=>.undef
def Wd(d:Option TyD)(σ:PS)(x:V):Prop:=match d with
 |some d=>Xm d σ x
 |none=>False
def pv(tb:Tb)(σ:PS):Op->V
 |.move x=>mvV σ x
 |.pick c a b=>eI σ a b<|Cz σ c
 |.binOp op _ x y _=>mK op (Cz σ x)<|Cz σ y
 |.unOp op _ x=>unV op<|Cz σ x
 |.convert _ d x=>gd (tb d)<|Cz σ x
 |.load t x=>We (tb t) σ<|NQ σ x
 |.nilCheck x=>NQ σ x
 |.fieldAddr t x f=>tg (tb t) f<|NQ σ x
 |.indexAddr t x i=>nq (tb t) σ (Cz σ x)<|Cz σ i
 |.index _ x i=>r7 (Cz σ x)<|Cz σ i
 |.slice t x lo hi none=>WL (tb t) (Cz σ x) (lo.map<|Cz σ)<|hi.map<|Cz σ
 |.call c=>QP σ c.callee c.args.toList
 |_=>.undef
def pc(tb:Tb)(σ:PS):Op->Prop
 |.move x=>mvC σ x
 |.pick c a b=>eH σ a b<|Cz σ c
 |.binOp op t x y _=>iH (tb t) op (Cz σ x)<|Cz σ y
 |.unOp op _ x=>unC op<|Cz σ x
 |.convert s d x=>dq tb s d<|Cz σ x
 |.load t x=>Wd (tb t) σ<|NQ σ x
 |.nilCheck x=>faC σ<|NQ σ x
 |.fieldAddr t x f=>kT (tb t) f σ<|NQ σ x
 |.indexAddr t x i=>np (tb t) σ (Cz σ x)<|Cz σ i
 |.index t x i=>tb t=some (.sc<|.str [])∧r6 (Cz σ x) (Cz σ i)
 |.slice t x lo hi none=>bW (tb t) (Cz σ x) (lo.map<|Cz σ)<|hi.map<|Cz σ
 |.call c=>TY tb σ c.callee c.args.toList c.argTypes.toList
 |_=>False
section
variable {P:Program}{nt:Nat}{base:Bs}{bx:zN}{St:Nat->Nat->Prop}{B:Nat->zN}{hand:zN}{σ:PS}{a:Act}{w:World}
def iK(v:Value):Ci P w St (tm a) (cV v) v []:=by
 unfold cV;split
 ·exact RH _ _
 ·exact XX _
 ·split
  ·rename_i s h;exact⟨rfl,by cases s;simp,Ba h⟩
  ·rfl
 ·exact⟨rfl,Dc _,none,0,rfl,Bb _,λh=>absurd h (by omega),λ_=>rfl⟩
 ·rfl
def N9(h:HSim P nt bx base St B hand σ a w)(x:Operand):∃b,Ci P w St (tm a) (Cz σ x) (a.eval x) b:=by
 cases x with
 |tmp s=>exact⟨_,h.slot s⟩
 |const v=>exact⟨[],iK v⟩
 |global g=>exact⟨[],rfl⟩
 |func f=>exact⟨[],rfl,rfl⟩
def Ow.DM{c v bs}(h:Ow P w St c v bs):C0 c=none∧D4 c=none:=by cases c<;>first|exact⟨rfl,rfl⟩|exact h.elim
def Ow.Sk{c v bs}(h:Ow P w St c v bs){p:Nat->Prop}:∀b,D4 c=some b->p b:=λb e=>by rw[h.DM.2]at e;cases e
def Gives(P:Program)(w:World)(St:Nat->Nat->Prop)(σ:PS)(t:Nat->Value)(c:V)(v:Value)(bs:zN):Prop:=
 Ci P w St t c v bs∧C0 c=none∧∀b,D4 c=some b->∃cs,C0 (σ b)=some cs
def Gives.ow{t c v bs}(h:Ow P w St c v bs):Gives P w St σ t c v bs:=⟨h.slot,h.DM.1,h.Sk⟩
def Gives.of{t c v bs}(h:Ci P w St t c v bs)(b:c.isVal=true):Gives P w St σ t c v bs:=.ow<|h.ow b
def sH{op d c1 c2}(h:iH d op c1 c2):(mK op c1 c2).isVal=true:=by
 unfold iH at h;split at h<;>first|rfl|exact h.elim|skip
 cases op<;>first|rfl|(exfalso;simp_all;done)
def zo{op c}(h:unC op c):(unV op c).isVal=true:=by unfold unC at h;split at h<;>first|rfl|exact h.elim
def rQ{d c lo hi}(h:bW d c lo hi):(WL d c lo hi).isVal=true:=by
 unfold bW at h;split at h
 ·split at h
  ·rename_i e f;simp only[WL,e,f];rfl
  ·exact h.elim
 ·cases b:Mk c with
  |none=>rw[b]at h;exact h.elim
  |some z=>
   have⟨n,cs⟩:=z;rw[b]at h;simp only at h;split at h
   ·rename_i l q e f;cases c<;>simp only[Mk,Ay,Ch,reduceCtorEq]at b<;>obtain⟨rfl,rfl⟩:=b<;>simp[WL,ZS,Mk,e,f,V.isVal,V.isArg,V.DF]
   ·exact h.elim
 ·exact h.elim
def uh{d c}(h:rx d c):(lenV c).isVal=true:=by cases c<;>first|rfl|exact h.elim
def pL{b c d}(h:mxC c d):(mxV b c d).isVal=true:=by unfold mxC at h;split at h<;>first|rfl|exact h.elim
def pure_run{tb}(htb:Lr P tb)(h:HSim P nt bx base St B hand σ a w)(o:Oper)(hc:pc tb σ o.op):
  ∃v,(execOp a.eval o).run P w=.ok (.value v) w∧Gives P w St σ (tm a) (pv tb σ o.op) v []:=by
 cases ho:o.op with
 |move x=>
  rw[ho]at hc;have⟨b,hx⟩:=N9 h x;refine⟨a.eval x,by simp[execOp,ho],?_⟩;have hval:(Cz σ x).isVal=true->Gives P w St σ (tm a) (dg<|Cz σ x) (a.eval x) []:=λhc=>.ow<|(hx.ow hc).deg hc
  simp only[pc,pv]at *;cases x with
  |tmp s=>
   cases hs:σ s with
   |uni e n cs=>simp only[mvV,hs];exact⟨⟨rfl,rfl⟩,rfl,λb e=>by simp only[D4,Ay]at e;subst e;exact⟨cs,by rw[hs];rfl⟩⟩
   |same q=>simp only[mvV,hs];have h1:=h.slot s;rw[hs]at h1;exact⟨⟨rfl,h1.2⟩,rfl,λb e=>h.crefs s b<|by rw[hs];exact e⟩
   |box cs=>simp only[mvV,hs];have h1:=h.slot s;rw[hs]at h1;have⟨g,T,bs',arr,e1,_⟩:=h1;exact⟨⟨rfl,g,by rw[e1];rfl,e1⟩,rfl,λb e=>by simp only[D4,Ay]at e;subst e;exact⟨cs,by rw[hs];rfl⟩⟩
   |cref q o'=>simp only[mvV,hs];have h1:=h.slot s;rw[hs]at h1;exact⟨⟨rfl,h1.2⟩,rfl,λb e=>h.crefs s b<|by rw[hs];exact e⟩
   |_=>simp only[mvV,mvC,hs]at hc⊢;have:=hval (by show(σ s).isVal=true;rw[hs];exact hc);rw[show Cz σ (.tmp s)=σ s from rfl,hs]at this;exact this
  |const v=>exact hval hc
  |global g=>exact hval hc
  |func f=>exact hval hc
 |pick c x y=>
  rw[ho]at hc;simp only[pc,pv]at *;have⟨b,hcc⟩:=N9 h c;have⟨b1,hx⟩:=N9 h x;have⟨b2,hy⟩:=N9 h y;cases hq:Cz σ c with
  |bool q=>
   rw[hq]at hc hcc;have e:=RK hcc;cases q with
   |true=>exact⟨a.eval x,by simp[execOp,ho,e,asBool],.ow<|(hx.ow hc).deg hc⟩
   |false=>exact⟨a.eval y,by simp[execOp,ho,e,asBool],.ow<|(hy.ow hc).deg hc⟩
  |_=>rw[hq]at hc;exact hc.elim
 |binOp op t x y t'=>rw[ho]at hc;have⟨b1,hx⟩:=N9 h x;have⟨b2,hy⟩:=N9 h y;have⟨v,hr,hv⟩:=wS (ty:=t) (x:=x) (y:=y) op hx hy (λd e=>htb _ _ e) hc;refine⟨v,?_,.of hv<|sH hc⟩;simp only[execOp,ho,Bp,hr,A4,BI]
 |unOp op t x=>rw[ho]at hc;have⟨b1,hx⟩:=N9 h x;have⟨v,hr,hv⟩:=Aez op hx hc;refine⟨v,?_,.of hv<|zo hc⟩;simp only[execOp,ho,Bp,hr,A4,BI]
 |convert s d x=>
  rw[ho]at hc;have⟨b1,hx⟩:=N9 h x;have⟨v,hr,hv⟩:=sT htb hx hc;refine⟨v,?_,.of hv ?_⟩
  ·simp only[execOp,ho,Bp,hr,A4,BI]
  ·simp only[pc,pv,dq]at hc⊢;split at hc
   ·rename_i hs hd hx;rw[hd,hx];rfl
   ·rename_i hs hd;split at hc
    ·rename_i hsl _;rw[hd,dr hsl];rfl
    ·exact hc.elim
   ·exact hc.elim
 |load t x=>
  rw[ho]at hc;simp only[pc,pv]at *;cases ht:tb t with
  |none=>rw[ht]at hc;exact hc.elim
  |some d=>rw[ht]at hc;have⟨v,hr,hv⟩:=uu h (htb _ _ ht) (x:=x) hc;refine⟨v,?_,.ow hv⟩;simp only[execOp,ho,Bp,hr,A4,BI]
 |nilCheck x=>
  rw[ho]at hc;simp only[pc,pv]at *;cases e:NQ σ x with
  |cref s o'=>
   rw[e]at hc;have⟨cs,hs⟩:=hc;have⟨g,T,bs',arr',h1,h2,_⟩:=TA h e hs;refine⟨.pointer<|some ⟨g,o',none⟩,?_,⟨rfl,g,h2,rfl⟩,rfl,λb e=>?_⟩
   ·simp only[execOp,ho,h1];rfl
   ·simp only[D4,Ay]at e;subst e;exact⟨cs,hs⟩
  |adr cs o'=>have⟨b,o2,h1,h2⟩:=iA h e;refine⟨.pointer<|some ⟨b,o2,none⟩,?_,⟨rfl,b,o2,rfl,h2⟩,rfl,λb e=>by cases e⟩;simp only[execOp,ho,h1];rfl
  |tok u=>rw[e]at hc;obtain⟨g,o2,rfl⟩:=pz hc;have h1:=ac h e;refine⟨.pointer<|some ⟨g,o2,none⟩,?_,⟨rfl,rfl,rfl⟩,rfl,λb e=>by cases e⟩;simp only[execOp,ho,h1];rfl
  |_=>rw[e]at hc;exact hc.elim
 |fieldAddr t x f=>
  rw[ho]at hc;simp only[pc,pv]at *;cases ht:tb t with
  |none=>rw[ht]at hc;exact hc.elim
  |some d=>
   rw[ht]at hc;cases d with
   |sc z=>exact hc.elim
   |sl e es eb ez=>exact hc.elim
   |st n z fs=>
    simp only[kT,tg]at *;cases hf:fs[f]? with
    |none=>rw[hf]at hc;exact hc.elim
    |some q=>
     have⟨off,sz⟩:=q;rw[hf]at hc;simp only at *;have⟨v,hr,hv⟩:=rl h (htb _ _ ht) hf hc;refine⟨v,?_,hv,?_,?_⟩
     ·simp only[execOp,ho,Bp,hr,A4,BI]
     ·cases hx:NQ σ x with
      |tok u=>exact(qD off u).1
      |_=>rfl
     ·intro b e;cases hx:NQ σ x with
      |tok u=>rw[hx]at e;simp only[faV,(qD off u).2]at e;cases e
      |cref s o'=>rw[hx]at e hc;simp only[faV,D4,Ay]at e;subst e;exact hc
      |_=>rw[hx]at e;cases e
 |indexAddr t x i=>
  rw[ho]at hc;simp only[pc,pv]at *;have⟨b1,hx⟩:=N9 h x;have⟨b2,hi⟩:=N9 h i;cases ht:tb t with
  |none=>rw[ht]at hc;exact hc.elim
  |some d=>
   rw[ht]at hc;cases d with
   |sc z=>exact hc.elim
   |st n z fs=>exact hc.elim
   |sl e es eb ez=>
    simp only[np,nq]at *;by_cases hsm:∃q,Cz σ x=.same q
    ·have⟨q,hq⟩:=hsm;rw[hq]at hc⊢;simp only[dO,iaS]at hc⊢;cases x with
     |tmp p=>
      have hp:σ p=.same q:=hq;split at hc
      ·rename_i e' n cs ix hs hix;have⟨v,hr,hv⟩:=nu h (htb _ _ ht) hp hs hix hi hc;refine⟨v,?_,hv,rfl,λb e=>?_⟩
       ·have e1:a.eval (.tmp p)=tm a p:=rfl;simp only[execOp,ho,Bp,e1,hr,A4,BI]
       ·simp only[D4,Ay]at e;subst e;exact⟨cs,by rw[hs];rfl⟩
      ·exact hc.elim
     |const v=>exfalso;simp only[Cz,cV]at hq;split at hq<;>(try split at hq)<;>cases hq
     |global g=>cases hq
     |func f=>cases hq
    by_cases htk:∃q,Cz σ x=.tok q
    ·have⟨q,hq⟩:=htk;rw[hq]at hc hx⊢;simp only[dO,iaS]at hc⊢;have⟨v,hr,⟨q',hq'⟩,hv⟩:=nv (htb _ _ ht) hi hc;rw[hq']at hv⊢;refine⟨v,?_,hv,rfl,λb e=>by cases e⟩;have e1:a.eval x=q:=hx.2.1;simp only[execOp,ho,Bp,e1,hr,A4,BI]
    have h1:dO σ (Cz σ x) (Cz σ i)=iaC (Cz σ x) (Cz σ i):=by
     cases hx':Cz σ x with
     |same q=>exact absurd ⟨q,hx'⟩ hsm
     |tok q=>exact absurd ⟨q,hx'⟩ htk
     |_=>rfl
    have h2:iaS σ es (Cz σ x) (Cz σ i)=iaV es (Cz σ x) (Cz σ i):=by
     cases hx':Cz σ x with
     |same q=>exact absurd ⟨q,hx'⟩ hsm
     |tok q=>exact absurd ⟨q,hx'⟩ htk
     |_=>rfl
    rw[h1]at hc;rw[h2];have⟨v,hr,hv⟩:=nr (htb _ _ ht) hx hi hc
    have hia:∃cs n,iaV es (Cz σ x) (Cz σ i)=.adr cs n:=by
     unfold iaC at hc;split at hc
     ·rename_i n cs ix hs hi';exact⟨cs.drop<|ix.toNat * es,0,by simp only[iaV,hs,hi']⟩
     ·exact hc.elim
    refine⟨v,?_,hv,?_,?_⟩
    ·simp only[execOp,ho,Bp,hr,A4,BI]
    ·have⟨_,_,e'⟩:=hia;rw[e'];rfl
    ·intro b e;have⟨_,_,e'⟩:=hia;rw[e']at e;cases e
 |index t x i=>
  rw[ho]at hc;simp only[pc,pv]at *;have⟨b1,hx⟩:=N9 h x;have⟨b2,hi⟩:=N9 h i;have⟨v,hr,hv⟩:=yZ (htb _ _ hc.1) hx hi hc.2;refine⟨v,?_,.of hv ?_⟩
  ·simp only[execOp,ho,Bp,hr,A4,BI]
  ·have hc2:=hc.2;unfold r6 at hc2;split at hc2
   ·rename_i s j hs hi';have:j.toNat < s.length:=by omega
    simp only[r7,hs,hi',Ah this];rfl
   ·exact hc2.elim
 |slice t x lo hi mx=>
  rw[ho]at hc;cases mx with
  |some m=>exact hc.elim
  |none=>
   simp only[pc,pv]at *;have⟨b1,hx⟩:=N9 h x
   have⟨v,hr,hv⟩:=u9 (ty:=t) (d:=tb t) (λd e=>htb _ _ e) hx (lo:=lo.map<|Cz σ) (hi:=hi.map<|Cz σ) (vl:=lo.map a.eval) (vh:=hi.map a.eval)
    (λc e=>by obtain⟨y,rfl,rfl⟩:=BY.1 e;have⟨b,hy⟩:=N9 h y;exact⟨_,b,rfl,hy⟩) (λe=>by cases lo<;>first|rfl|cases e)
    (λc e=>by obtain⟨y,rfl,rfl⟩:=BY.1 e;have⟨b,hy⟩:=N9 h y;exact⟨_,b,rfl,hy⟩) (λe=>by cases hi<;>first|rfl|cases e) hc
   refine⟨v,?_,.of hv ?_⟩
   ·simp only[execOp,ho,Bp,Option.map_none,hr,A4,BI]
   ·exact rQ hc
 |call c=>
  rw[ho]at hc;simp only[pc,pv]at *;have⟨callee,args,ts⟩:=c;simp only at *;obtain⟨args,rfl⟩:∃l:List Operand,args=l.toArray:=⟨args.toList,by simp⟩;obtain⟨ts,rfl⟩:∃l:List TypeId,ts=l.toArray:=⟨ts.toList,by simp⟩;change TY tb σ callee args ts at hc;change ∃v,_∧Gives P w St σ (tm a) (QP σ callee args) v [];unfold TY at hc;split at hc
  ·rename_i x t;have⟨b1,hx⟩:=N9 h x;by_cases hsm:∃q,Cz σ x=.same q
   ·have⟨q,hq⟩:=hsm;simp only[QP];rw[hq]at hc⊢;simp only[Yo,fL]at hc⊢;cases x with
    |tmp p=>
     have hp:σ p=.same q:=hq;split at hc
     ·rename_i e' n cs e es eb ez hs ht;have⟨v,hr,hv⟩:=ug (rt:=o.type) h (htb _ _ ht) hp hs;simp only[hs];refine⟨v,?_,.of hv rfl⟩;have e1:a.eval (.tmp p)=tm a p:=rfl;simp only[execOp,ho,resolve,invoke,builtin,Bp,BI,A4,Jr,AH,Dv,e1,hr]
     ·exact hc.elim
    |const v=>exfalso;simp only[Cz,cV]at hq;split at hq<;>(try split at hq)<;>cases hq
    |global g=>cases hq
    |func f=>cases hq
   have h1:Yo (tb t) σ (Cz σ x)=rx (tb t) (Cz σ x):=by cases hx':Cz σ x<;>first|rfl|exact absurd ⟨_,hx'⟩ hsm
   have h2:fL σ (Cz σ x)=lenV (Cz σ x):=by cases hx':Cz σ x<;>first|rfl|exact absurd ⟨_,hx'⟩ hsm
   rw[h1]at hc;simp only[QP,h2];have⟨v,hr,hv⟩:=xQ (rt:=o.type) (λd e=>htb _ _ e) hx hc;refine⟨v,?_,.of hv ?_⟩
   ·simp only[execOp,ho,resolve,invoke,builtin,Bp,BI,A4,Jr,AH,Dv,hr]
   ·exact uh hc
  ·rename_i x y;have⟨b1,hx⟩:=N9 h x;have⟨b2,hy⟩:=N9 h y;have⟨v,hr,hv⟩:=xX (rt:=o.type) (ts:=ts.toArray) hx hy hc;refine⟨v,?_,.of hv ?_⟩
   ·simp only[execOp,ho,resolve,invoke,builtin,Bp,BI,A4,Jr,AH,Dv,hr]
   ·simp only[QP];exact pL hc
  ·rename_i x y;have⟨b1,hx⟩:=N9 h x;have⟨b2,hy⟩:=N9 h y;have⟨v,hr,hv⟩:=xY (rt:=o.type) (ts:=ts.toArray) hx hy hc;refine⟨v,?_,.of hv ?_⟩
   ·simp only[execOp,ho,resolve,invoke,builtin,Bp,BI,A4,Jr,AH,Dv,hr]
   ·simp only[QP];exact pL hc
  ·exact hc.elim
 |_=>rw[ho]at hc;exact hc.elim
end
end
section
def vv{P}(w:World)(t ty e:TypeId)(z:Value)(size b:Nat)(I:P.underlying t=some (.slice e))
  (s:(P.info? e).map (λi=>(i.zero,i.size,i.bytes))=some (some z,size,b)) (S:z.cells.size=size) (T:0 < size) (U:0 < b)
  (v:Value) (n:Nat) (xs:List Value) (d:w.ownsRow 0 e size v n xs)
  (vx:Value) (m:Nat) (a:List Value) (D:Qh w size vx m a) (h1:∀u∈a,u.oneCell'=true) (l:(n+m) * b<=140737488355328):
  ∃F w',(Builtin.append_ #[t,t] ty #[v,vx]).run P w=.ok F w'∧w'.ownsRow 0 e size F (n+m) (xs++a)∧w.grownBy w' v.ownBlock∧
   (F.ownBlock=v.ownBlock∨F.ownBlock=some w.heap.size)∧∀g,v.ownBlock=some g->∀o,o < n * size->w'.cell? ⟨g,o,none⟩=w.cell? ⟨g,o,none⟩:=by
 have⟨i,hi,J⟩:=BY.1 s;simp only[Ch]at J;have⟨hz,W,hb⟩:=J;have K:n+m<=maxLen:=by have:n+m<=(n+m) * b:=Nat.le_mul_of_pos_right _ U;unfold maxLen;omega
 have X:=D;obtain⟨A,c,rfl,_⟩:=X;have⟨L,x,k⟩:=D.drop_at;cases A with
 |none=>
  have hm:=x rfl;subst hm;have hn:a=[]:=Bf (by simpa using L);subst hn;refine⟨v,w,?_,by simpa using d,World.grownBy.refl w _,.inl rfl,λ_ _ _ _=>rfl⟩;rcases d.2 with⟨rfl,rfl⟩|⟨g,cap,y,rfl,_,_,M,_⟩
  ·simp[Builtin.append_,By I,sizeOf,typeInfo,hi,Builtin.lenOf,Builtin.firstCells]
  ·simp[Builtin.append_,By I,sizeOf,typeInfo,hi,Builtin.lenOf,Builtin.firstCells,M,storeCells]
 |some H=>
  have⟨F,w',f,h2,h3,_,h5⟩:=run_append_own_at (P:=P) w 0 t ty e i z size b I hi hz W hb S T v n xs d H m c a L (k H rfl) h1 K l<|Dc _;refine⟨F,w',f,h2,h3,h5,λg Y o ho=>?_⟩;rcases d.2 with⟨rfl,rfl⟩|⟨r,cap,y,rfl,_,R,M,hcm,Z,hx⟩
  ·cases Y
  ·simp only[Value.ownBlock,Ay]at Y;subst Y;have N:w.cell? ⟨r,o,none⟩=xs[o]?:=by simp only[World.cell?,R,N7,Ca,Dz];rw[<-hx,Eb,At ho];simp
   by_cases q:n+m<=cap
   ·subst W;have O:n * i.size+a.length<=y.size:=by rw[L,Z,<-CN];exact BW _ q
    have D:=run_append_room (P:=P) w t ty e i I hi r n cap y R H m c a L (k H rfl) h1 q O;rw[D]at f;injection f with e1 e2
    subst e1;rcases h2.2 with⟨h,_⟩|⟨g2,cap2,Q,B,_,hh2,_,_,_,hx2⟩
    ·cases h
    ·injection B with B e4 e5
     injection B with B
     injection B with B
     subst B;rw[N];simp only[World.cell?,hh2,N7,Ca,Dz];have h7:(Q.toList.take<|(n+m) * i.size)[o]? =(xs++a)[o]?:=by rw[hx2]
     rw[Eb,At (by rw[CN];omega),B7 (by rw[d.1];exact ho)]at h7;simpa using h7
   ·subst W;have C:∀j u,xs[j]? =some u->w.cell? ((⟨r,0,none⟩:Addr).add j)=some u:=d.cells (g:=r) rfl;have D:=run_append_grow (P:=P) w t ty e i z I hi hz ⟨r,0,none⟩ n cap xs d.1 C H m c a L (k H rfl) (by omega) (by unfold maxLen at K;omega)<|growslice_fits (by omega)<|by rw[hb];exact l
    rw[D]at f;injection f with e1 e2
    subst e2
    have hlt:r < w.heap.size:=by
     rcases Bi r w.heap.size with h|h
     ·exact h
     ·rw[FSQ h]at R;cases R
    exact(((Below.refl w.heap.size w).drew).alloc (Bb _) _).cell (p:=⟨r,o,none⟩) hlt
structure BelowK (K:Nat->Prop) (w w':World):Prop where
 os:w'.os=w.os
 tape:w'.tape=w.tape
 output:w'.output=w.output
 size:w.heap.size<=w'.heap.size
 block:∀k,K k->w'.heap[k]? =w.heap[k]?
def BelowK.refl(K:Nat->Prop)(w:World):BelowK K w w:=⟨rfl,rfl,rfl,Bb _,λ_ _=>rfl⟩
def BelowK.trans{K a b c}(h:BelowK K a b)(k:BelowK K b c):BelowK K a c:=
 ⟨k.os.trans h.os,k.tape.trans h.tape,k.output.trans h.output,BH h.size k.size,λi hi=>(k.block i hi).trans<|h.block i hi⟩
def BelowK.of{K n w w'}(h:Below n w w')(a:∀b,K b->b < n):BelowK K w w':=⟨h.os,h.tape,h.output,h.size,λk c=>h.block k<|a k c⟩
def BelowK.below{K a w w'}(h:BelowK K a w)(c:Below w.heap.size w w')(d:∀b,K b->b < w.heap.size):BelowK K a w':=h.trans<|.of c d
def BelowK.alloc{K a w}(h:BelowK K a w)(d:∀b,K b->b < w.heap.size)(c:Obj):BelowK K a (w.alloc c):=
 h.below ((Below.refl _ _).alloc (Bb _) c) d
def BelowK.grown{K a w w' row}(h:BelowK K a w)(c:w.grownBy w' row)(f:∀b,K b->b < w.heap.size)(g:∀k,row=some k->¬K k):BelowK K a w':=
 h.trans ⟨c.os,c.tape,c.output,c.size,λk d=>c.block k (f k d)<|λe=>g k e.symm d⟩
def ZG{K:Nat->Prop}{w:World}(a:∀b,K b->b < w.heap.size)(c:Obj):∀b,K b->b < (w.alloc c).heap.size:=λb d=>by have:=a b d;simp;omega
def UC{K:Nat->Prop}{w w':World}(a:∀b,K b->b < w.heap.size)(h:w.heap.size<=w'.heap.size):∀b,K b->b < w'.heap.size:=λb c=>BA (a b c) h
def ue{K:Nat->Prop}{n:Nat}(a:∀b,K b->b < n):¬K n:=λh=>Ka _<|a _ h
def Rel(P:Program)(nt:Nat)(bx:zN)(base:Bs)(St0:Nat->Nat->Prop)(d:World)(σ:PS)(a:Act)(w:World):Prop:=
 ∃c B,HSim P nt bx base c B [] σ a w∧BelowK base.K d w∧(∀b o,base b->(c b o↔St0 b o))∧∀b,base b->b < w.heap.size
def WY(P:Program)(nt:Nat)(bx:zN)(base:Bs)(St0:Nat->Nat->Prop)(b:World)(o:Oper)(σ:PS)(K:PS->Prop):Prop:=
 ∀a w Q,Rel P nt bx base St0 b σ a w->o.wp P a w (λa' w'=>∃σ',K σ'∧Rel P nt bx base St0 b σ' a' w') Q
section
variable {P:Program}{nt:Nat}{base:Bs}{bx:zN}{St St' St0:Nat->Nat->Prop}{B:Nat->zN}{hand:zN}{σ:PS}{a:Act}{w w' w0:World}{K:PS->Prop}{Q:Exit->Act->World->Prop}{o:Oper}
def HSim.grow(h:HSim P nt bx base St B hand σ a w)(f:Below w.heap.size w w')(c:∀b o,b < w.heap.size->(St' b o↔St b o))(d:∀b o,St' b o->b < w'.heap.size):HSim P nt bx base St' B hand σ a w':=
 h.world (λb o e=>(c b o<|h.st b o e).2 e) (λb o e=>f.cell (p:=⟨b,o,none⟩)<|h.st b o e) f.size (λs g i=>⟨f.block g (h.range s g i).2,λo=>c g o (h.range s g i).2⟩) d
def Nv{K' v}(b:(execOp a.eval o).run P w=.ok (.value v) w')(c:K' (a.put o.dst v) w'):o.wp P a w K' Q:=by unfold Oper.wp;rw[b];exact c
def ww{K'}(b:(execOp a.eval o).run P w=.ok .skip w')(c:K' (a.put o.dst undef) w'):o.wp P a w K' Q:=by unfold Oper.wp;rw[b];exact c
def eD{tb}(b:Lr P tb){d:Nat}(f:o.dst=some d)(g:d < nt)(i:d∉bx)(j:pc tb σ o.op)(k:K (upd σ d<|pv tb σ o.op)):WY P nt bx base St0 w0 o σ K:=by rintro a w Q ⟨St,B,h,l,c,m⟩;have⟨v,n,p,q,e⟩:=pure_run b h o j;refine Nv n ⟨_,k,St,upd B d [],?_,l,c,m⟩;rw[f];exact h.put g i p AR (by simp) q e
def CZ(σ:PS):Operand->PS
 |.tmp s=>upd σ s<|dg<|σ s
 |_=>σ
def WB(h:HSim P nt bx base St B hand σ a w)(x:Operand)(b:(Cz σ x).isVal=true):
  ∃bs B',Ow P w St (Cz σ x) (a.eval x) bs∧HSim P nt bx base St B' (hand++bs) (CZ σ x) a w∧(hand++bs).Nodup:=by
 cases x with
 |tmp s=>have⟨d,c⟩:=h.take s b;exact⟨B s,_,d,c,c.hnodup⟩
 |const v=>exact⟨[],B,(iK (a:=a) v).ow b,by simpa[CZ]using h,by simpa using h.hnodup⟩
 |global g=>cases b
 |func f=>exact⟨[],B,⟨rfl,rfl⟩,by simpa[CZ]using h,by simpa using h.hnodup⟩
def eE{x d}(b:o.op=.assign x∨o.op=.move x)(g:o.dst=some d)(i:d < nt)(j:d∉bx)(k:(Cz σ x).isVal=true)(l:K (upd (CZ σ x) d<|Cz σ x)):WY P nt bx base St0 w0 o σ K:=by
 rintro a w Q ⟨St,B,h,m,c,n⟩;have⟨bs,B',f,p,q⟩:=WB h x k;have r:(execOp a.eval o).run P w=.ok (.value<|a.eval x) w:=by rcases b with e|e<;>simp[execOp,e]
 refine Nv r ⟨_,l,St,upd B' d bs,?_,m,c,n⟩;rw[g];exact p.put i j f.slot (by simpa using q) (by simp) f.DM.1 f.Sk
def yf{d e}(b:o.op=.assign (.const<|.slice none 0 0)∨o.op=.move (.const<|.slice none 0 0))(g:o.dst=some d)(i:d < nt)(j:d∉bx)(k:K (upd σ d<|.own e 0 [])):WY P nt bx base St0 w0 o σ K:=by
 rintro a w Q ⟨St,B,h,l,c,m⟩;have n:(execOp a.eval o).run P w=.ok (.value<|.slice none 0 0) w:=by rcases b with e|e<;>simp[execOp,e,Act.eval]
 refine Nv n ⟨_,k,St,upd B d [],?_,l,c,m⟩;rw[g];have f:Ow P w St (.own e 0 []) (.slice none 0 0) []:=⟨Dc _,[],[],MB _ _ _ _,⟨rfl,rfl⟩,rfl,(λg p=>by cases p),λ_=>rfl⟩;exact h.put i j f.slot AR (by simp) f.DM.1 f.Sk
def uZ{d}(b:o.op=.assign (.const<|.pointer none)∨o.op=.move (.const<|.pointer none))(g:o.dst=some d)(i:d < nt)(j:d∉bx)(k:K (upd σ d .undef)):WY P nt bx base St0 w0 o σ K:=by
 rintro a w Q ⟨St,B,h,l,f,m⟩;have n:(execOp a.eval o).run P w=.ok (.value<|.pointer none) w:=by rcases b with e|e<;>simp[execOp,e,Act.eval]
 refine Nv n ⟨_,k,St,upd B d [],?_,l,f,m⟩;rw[g];exact h.put i j (c:=.undef) rfl AR (by simp) rfl (λb e=>by cases e)
def Ml.split:∀(cs:List V) (i:Nat) {us:List Value}{bs:zN}{c:V},Ml P w St cs us bs->cs[i]? =some c->cs.all V.isArg=true->bs.Nodup->∃u b1 b2,us[i]? =some u∧Ow P w St c u b1∧Ml P w St (cs.set i<|dg2 c) us b2∧b1.Nodup∧b2.Nodup∧(∀g∈b1,g∈bs)∧(∀g∈b2,g∈bs)∧∀g∈b1,g∉b2
 |[],i,_,_,_,_,e,_,_=>by simp at e
 |d::cs,0,_,_,c,⟨u,j,b1,b2,l,e2,p,q⟩,e,m,n=>by simp only[Cd,Ay]at e;subst e;simp only[Bz,Ad]at m;rw[e2]at n⊢;have b:=Ax.1 n;refine⟨u,b1,b2,by rw[l];rfl,p,⟨u,j,[],b2,l,rfl,p.Oq m.1,q⟩,b.1,b.2.1,λg f=>Az _ f,λg f=>Au _ f,λg f k=>b.2.2 g f g k rfl⟩
 |d::cs,i+1,_,_,c,⟨u,j,b1,b2,l,e2,p,q⟩,e,m,n=>by
  simp only[Bz,Ad]at m;rw[e2]at n⊢;have b:=Ax.1 n;obtain⟨x,s,c2,t,v,z,A,C,s1,s2,D⟩:=Ml.split cs i q (by simpa using e) m.2 b.2.1;refine⟨x,s,b1++c2,by rw[l];simpa using t,v,⟨u,j,b1,c2,l,rfl,p,z⟩,A,?_,λg f=>Au _<|s1 g f,λg f=>?_,λg f k=>?_⟩
  ·exact Ax.2 ⟨b.1,C,λx F y H r=>b.2.2 x F y (s2 y H) r⟩
  ·rcases Al.1 f with h|h
   ·exact Az _ h
   ·exact Au _<|s2 g h
  ·rcases Al.1 k with h|h
   ·exact b.2.2 g h g (s1 g f) rfl
   ·exact D g f h
def HSim.part(h:HSim P nt bx base St B hand σ a w)(s:Nat)(hold:C0 (σ s)=none){c:V}{b1 b2:zN}(hc:Ci P w St (tm a) c (tm a s) b2)(hnb:C0 c=none)(hcr:D4 c=none)
  (n1:b1.Nodup) (n2:b2.Nodup) (s1:∀g∈b1,g∈B s) (s2:∀g∈b2,g∈B s) (hap:∀g∈b1,g∉b2):HSim P nt bx base St (upd B s b2) (hand++b1) (upd σ s c) a w:=by
 have hB:∀q,∀g∈upd B s b2 q,g∈B q:=by
  intro q g hg;by_cases e:q=s
  ·subst e;rw[upd_same]at hg;exact s2 g hg
  ·rw[upd_ne _ _ e]at hg;exact hg
 exact
 {h with
  slot:=λq=>by
   by_cases e:q=s
   ·subst e;rw[upd_same,upd_same];exact hc
   ·rw[upd_ne _ _ e,upd_ne _ _ e];exact h.slot q
  boxes:=λq cs e=>by
   by_cases eq:q=s
   ·subst eq;rw[upd_same,hnb]at e;cases e
   ·rw[upd_ne _ _ eq]at e;exact h.boxes q cs e
  crefs:=λq b e=>by
   by_cases eq:q=s
   ·subst eq;rw[upd_same,hcr]at e;cases e
   ·rw[upd_ne _ _ eq]at e;have⟨cs,hcs⟩:=h.crefs q b e;refine⟨cs,?_⟩;rw[upd_ne _ _ (λeb=>by subst eb;rw[hold]at hcs;cases hcs)];exact hcs
  nodup:=λq=>by
   by_cases e:q=s
   ·subst e;rw[upd_same];exact n2
   ·rw[upd_ne _ _ e];exact h.nodup q
  apart:=λq r hqr g hg hg'=>h.apart q r hqr g (hB q g hg)<|hB r g hg'
  hnodup:=Ax.2 ⟨h.hnodup,n1,λx hx y hy e=>by subst e;exact h.hapart s x (s1 x hy) hx⟩
  hapart:=λq g hg hm=>by
   rcases Al.1 hm with hm|hm
   ·exact h.hapart q g (hB q g hg) hm
   ·by_cases e:q=s
    ·subst e;rw[upd_same]at hg;exact hap g hm hg
    ·exact h.apart q s e g (hB q g hg)<|s1 g hm
  range:=λq g hg=>h.range q g<|hB q g hg
  hrange:=λg hg=>by
   rcases Al.1 hg with hg|hg
   ·exact h.hrange g hg
   ·exact h.range s g (s1 g hg)}
def lV{s i d}(e:o.op=.extract (.tmp s) i)(m:o.dst=some d)(n:d < nt)(p:d∉bx){cs:List V}{c:V}(j:σ s=.tup cs)(hi:cs[i]? =some c)(q:cs.all V.isArg=true)
  (r:K (upd (upd σ s<|.tup<|cs.set i<|dg2 c) d c)):WY P nt bx base St0 w0 o σ K:=by
 rintro a w Q ⟨St,B,h,t,f,v⟩;have b:=h.slot s;rw[j]at b;have⟨us,k,x⟩:=b;have⟨u,b1,b2,y,g,z,l,A,s1,s2,C⟩:=Ml.split cs i x hi q<|h.nodup s;have D:(execOp a.eval o).run P w=.ok (.value u) w:=by have e2:a.eval (.tmp s)=.tuple us.toArray:=k;simp[execOp,e,e2,Instr.extract,y]
 have F:=h.part s (by rw[j];rfl) (c:=.tup<|cs.set i<|dg2 c) (b1:=b1) (b2:=b2) ⟨us,k,z⟩ rfl rfl l A s1 s2 C;refine Nv D ⟨_,r,St,upd (upd B s b2) d b1,?_,t,f,v⟩;rw[m];exact F.put n p g.slot l (by simp) g.DM.1 g.Sk
def Bj.app:∀{cs ds:List V}{us:List Value}{bs:zN},Bj P w St (cs++ds) us bs->∃b d b1 b2,us=b++d∧bs=b1++b2∧Bj P w St cs b b1∧Bj P w St ds d b2
 |[],ds,us,bs,h=>⟨[],us,[],bs,rfl,rfl,⟨rfl,rfl⟩,h⟩
 |c::cs,ds,us,bs,⟨u,f,b1,b2,g,e2,i,j,k⟩=>by have⟨b,d,e,c2,l,m,n,p⟩:=Bj.app k;exact⟨u::b,d,b1++e,c2,by rw[g,l];rfl,by rw[e2,m,Bg],⟨u,b,b1,e,rfl,rfl,i,j,n⟩,p⟩
def Bj.join:∀{cs ds:List V}{d b:List Value}{b1 b2:zN},Bj P w St cs d b1->Bj P w St ds b b2->Bj P w St (cs++ds) (d++b) (b1++b2)
 |[],ds,_,b,_,b2,⟨e,e2⟩,h=>by subst e e2;exact h
 |c::cs,ds,_,b,_,b2,⟨u,f,g,c2,e,e2,i,j,k⟩,h=>⟨u,f++b,g,c2++b2,by rw[e];rfl,by rw[e2,Bg],i,j,Bj.join k h⟩
def Ij:V->List V
 |.agg cs=>cs
 |c=>[c]
def Ow.cells{c v bs}(h:Ow P w St c v bs)(b:c.isArg=true):Bj P w St (Ij c) v.cells.toList bs:=by
 have d:∀c:V,c.DF=true->Ow P w St c v bs->Bj P w St [c] v.cells.toList bs:=by
  intro c b h;have e:=(Ow.rd c h b).oneCell;have:v.cells= #[v]:=by cases v<;>first|rfl|cases e
  rw[this];exact⟨v,[],bs,[],rfl,by simp,b,h,rfl,rfl⟩
 cases c<;>first|exact d _ b h|cases b|skip
 obtain⟨us,rfl,h⟩:=h;exact h
def Qg{α:Type}(cs:List α)(off:Nat)(b:List α):List α:=cs.take off++b++cs.drop (off+b.length)
def bY{α:Type}{cs b:List α}{off:Nat}(h:off+b.length<=cs.length):(Qg cs off b).length=cs.length:=by simp[Qg];omega
def jP{α:Type}(cs:List α)(off n:Nat):cs=cs.take off++((cs.drop off).take n++cs.drop (off+n)):=by rw[<-Ja,Db,Db]
def HSim.AiG(h:HSim P nt bx base St B hand σ a w){s g:Nat}{cs cs':List V}{c':V}{bs':zN}(hcs:C0 (σ s)=some cs)(hcs':C0 c'=some cs')(hB:B s=g::bs')(hng:∀o,¬St g o)(hkeep:∀k,k≠g->w'.heap[k]? =w.heap[k]?)(hz:w'.heap.size=w.heap.size)
  {bs:zN}{hand':zN}(hc:Ci P w' St (tm a) c' (tm a s) bs)
  (hn:bs.Nodup) (hs:∀g∈bs,g∈B s∨g∈hand) (hn':hand'.Nodup) (hs':∀g∈hand',g∈B s∨g∈hand) (hap:∀g∈bs,g∉hand'):
  HSim P nt bx base St (upd B s bs) hand' (upd σ s c') a w':=by
 have hrf:D4 c'=none:=by cases c'<;>first|rfl|cases hcs'
 have hbox:∀b,(∃cs,C0 (σ b)=some cs)->∃cs'',C0 (upd σ s c' b)=some cs'':=λb ⟨cs,e⟩=>by
  by_cases eb:b=s
  ·subst eb;exact⟨cs',by rw[upd_same];exact hcs'⟩
  ·exact⟨cs,by rw[upd_ne _ _ eb];exact e⟩
 have hout:∀q,q≠s->∀g∈B q,¬(g∈B s∨g∈hand):=λq hq g hg hm=>by
  rcases hm with hm|hm
  ·exact h.apart q s hq g hg hm
  ·exact h.hapart q g hg hm
 refine
 {size:=h.size
  defers:=h.defers
  slot:=λq=>by
   by_cases e:q=s
   ·subst e;rw[upd_same,upd_same];exact hc
   ·rw[upd_ne _ _ e,upd_ne _ _ e];refine(h.slot q).mono (λ_ _ h=>h) (λb o hs=>?_) (λk hk=>⟨hkeep k<|λek=>?_,λ_=>DL⟩)<|λ_ _=>rfl
    ·exact B9<|hkeep b<|λeb=>hng o<|eb ▸ hs
    ·subst ek;exact h.apart q s e k hk (by rw[hB];simp)
  boxes:=λq cs e=>by
   by_cases eq:q=s
   ·subst eq;exact h.boxes _ _ hcs
   ·rw[upd_ne _ _ eq]at e;exact h.boxes q cs e
  crefs:=λq b e=>by
   by_cases eq:q=s
   ·subst eq;rw[upd_same,hrf]at e;cases e
   ·rw[upd_ne _ _ eq]at e;exact hbox b<|h.crefs q b e
  nodup:=λq=>by
   by_cases e:q=s
   ·subst e;rw[upd_same];exact hn
   ·rw[upd_ne _ _ e];exact h.nodup q
  apart:=λq r hqr g hg hg'=>by
   by_cases e:q=s
   ·subst e;rw[upd_same]at hg;rw[upd_ne _ _ (Ne.symm hqr)]at hg';exact hout r (Ne.symm hqr) g hg'<|hs g hg
   ·rw[upd_ne _ _ e]at hg;by_cases e':r=s
    ·subst e';rw[upd_same]at hg';exact hout q e g hg<|hs g hg'
    ·rw[upd_ne _ _ e']at hg';exact h.apart q r hqr g hg hg'
  hnodup:=hn'
  hapart:=λq g hg hm=>by
   by_cases e:q=s
   ·subst e;rw[upd_same]at hg;exact hap g hg hm
   ·rw[upd_ne _ _ e]at hg;exact hout q e g hg<|hs' g hm
  range:=λq g hg=>by
   rw[hz];by_cases e:q=s
   ·subst e;rw[upd_same]at hg;rcases hs g hg with h1|h1
    ·exact h.range _ g h1
    ·exact h.hrange g h1
   ·rw[upd_ne _ _ e]at hg;exact h.range q g hg
  hrange:=λg hg=>by
   rw[hz];rcases hs' g hg with h1|h1
   ·exact h.range _ g h1
   ·exact h.hrange g h1
  st:=λb o hs=>by rw[hz];exact h.st b o hs
  gl:=h.gl.of (λb hb o=>hb o)<|λb o hb=>B9<|hkeep b<|λeb=>hng o<|eb ▸ hb o
  pin:=h.pin}
end
end
section
def TW(d:TyD)(cs:List V)(off:Nat):V:=
 match d with
 |.st n _ _=>.agg<|(cs.drop off).take n
 |_=>match cs[off]? with
  |some c=>c
  |none=>.undef
def RF(n:Nat)(cs:List V)(off:Nat):List V:=Qg cs off<|((cs.drop off).take n).map WG
section
variable {P:Program}{nt:Nat}{base:Bs}{bx:zN}{St St' St0:Nat->Nat->Prop}{B:Nat->zN}{hand:zN}{σ:PS}{a:Act}{w w' w0:World}{K:PS->Prop}{Q:Exit->Act->World->Prop}{o:Oper}
def take_one{α:Type}{cs:List α}{off:Nat}(h:off < cs.length):(cs.drop off).take 1=[cs[off]]:=by rw[AS h,Dx,L9]
def jL{tb}(htb:Lr P tb){t:TypeId}{dd:TyD}{x:Operand}{s off d:Nat}{cs:List V}(F:o.op=.load t x)(ht:tb t=some dd)(H:NQ σ x=.cref s off)(W:C0 (σ s)=some cs)(hl:off+dd.size<=cs.length)
  (ho:o.dst=some d) (hd:d < nt) (hx:d∉bx) (hk:K (upd (upd σ s<|WM (σ s)<|RF dd.size cs off) d<|TW dd cs off)):WY P nt bx base St0 w0 o σ K:=by
 rintro a w Q ⟨St,B,h,hb,hst,hz⟩;have⟨g,T,bs',arr,h1,h2,h3,h4,h5,h6⟩:=TA h H W;have hlc:Xm dd σ (NQ σ x):=by rw[H];simp only[Xm,W];exact hl
 have l:=htb _ _ ht;have e0:=jP cs off dd.size;rw[e0]at h4;have⟨us1,us2,b1,b2,eu,X,r1,r2⟩:=Bj.app h4;have⟨b,us4,I,Y,J,C,L,r4⟩:=Bj.app r2;have l1:us1.length=off:=by rw[r1.length,Av,Ce (by omega)]
 have l3:b.length=dd.size:=by rw[L.length,Av,Be,Ce (by omega)]
 have hnd:(g::(b1++(I++Y))).Nodup:=by have:=h.nodup s;rw[h5,X,C]at this;exact this
 have m:∀(j:Nat) (u:Value),b[j]? =some u->w.cell? ⟨g,off+j,none⟩=some u:=by
  intro j u hu
  have Z:j < b.length:=by
   rcases Bi j b.length with h|h
   ·exact h
   ·rw[BJ h]at hu;cases hu
  simp only[World.cell?,h3,N7,Ca,Dz];have:arr.toList[off+j]? =some u:=by rw[eu,J,Cu (by omega),l1,CT,B7 Z];exact hu
  simpa using this
 have M:∃v,(execOp a.eval o).run P w=.ok (.value v) w∧Ow P w St (TW dd cs off) v I:=by
  cases p:dd.ar with
  |true=>
   cases dd with
   |sc z=>cases p
   |sl e es X ez=>cases p
   |st n z f=>refine⟨.agg b.toArray,?_,b,rfl,L⟩;have hr:=Ia (P:=P) (w:=w) ⟨g,off,none⟩ b (λj v N=>by rw[add_plain];exact m j v N);simp only[TyD.size]at l3;rw[l3]at hr;simp[execOp,F,h1,Instr.loadAt,Instr.sureAddr,loadVar,l.isAgg,l.sizeOf,TyD.ar,TyD.size,hr]
  |false=>
   have hs1:dd.size=1:=by cases dd<;>first|rfl|cases p
   have O:off < cs.length:=by omega
   rw[hs1,take_one O]at L;have⟨u,us',c1,c2,e1,e2,hc,q1,q2⟩:=L;obtain⟨rfl,rfl⟩:=q2;have hcl:=m 0 u (by rw[e1];rfl);refine⟨u,?_,?_⟩
   ·have A:w.cell? ⟨g,off,none⟩=some u:=by simpa using hcl
    simp[execOp,F,h1,Instr.loadAt,Instr.sureAddr,loadVar,l.isAgg,p,A]
   ·have:TW dd cs off=cs[off]:=by cases dd<;>first|(simp only[TW,Ah O];done)|cases p
    rw[this,e2,AN];exact q1
 have⟨v,hr,N⟩:=M
 have R:Ci P w St (tm a) (WM (σ s)<|RF dd.size cs off) (tm a s) (g::(b1++Y)):=by
  have S:(RF dd.size cs off).length=cs.length:=bY (by rw[Am,Av,Be,Ce (by omega)];exact hl);refine fc W (h.slot s) h2 h3 h3 ?_ h6 S;have Z:=r1.join<|(Bj.cb _ L).join r4;rw[Bn]at Z;have ll:(((cs.drop off).take dd.size).map WG).length=dd.size:=by rw[Am,Av,Be,Ce (by omega)]
  unfold RF Qg;rw[ll,eu,J,Bg];exact Z
 have r:=BF.1 hnd;have c:=Ax.1 r.2;have i:=Ax.1 c.2.1
 have U:∀q∈g::(b1++Y),q∈B s∨q∈([]:zN):=by
  intro q k;rw[h5,X,C];simp only[AA,Al]at *;rcases k with h|h|h
  ·exact .inl<|.inl h
  ·exact .inl<|.inr<|.inl h
  ·exact .inl<|.inr<|.inr<|.inr h
 have hb3:∀q∈I,q∈B s:=by intro q k;rw[h5,X,C];simp only[AA,Al];exact .inr<|.inr<|.inl k
 have h7:=h.Aem (hand':=I) W (dl _ _) R (BF.2 ⟨λhm=>r.1 (by
   rcases Al.1 hm with hm|hm
   ·exact Az _ hm
   ·exact Au _ (Au _ hm)),Ax.2 ⟨c.1,i.2.1,λx hx y hy=>c.2.2 x hx y (Au _ hy)⟩⟩) U i.1 (λq k=>.inl (hb3 q k)) (by
  intro q k D;rcases AA.1 k with rfl|k
  ·exact r.1<|Au _<|Az _ D
  ·rcases Al.1 k with k|k
   ·exact c.2.2 q k q (Az _ D) rfl
   ·exact i.2.2 q D q k rfl)
 refine Nv hr ⟨_,hk,St,upd (upd B s<|g::(b1++Y)) d I,?_,hb,hst,hz⟩;rw[ho];exact h7.put hd hx N.slot i.1 (by simp) N.DM.1 N.Sk
def wj{y s cs}(b:C0 (σ s)=some cs)(c:(Cz σ y).isVal=true):CZ σ y s=σ s:=by
 cases y with
 |tmp q=>
  simp only[CZ];by_cases e:s=q
  ·subst e;rw[show Cz σ (.tmp s)=σ s from rfl]at c;rw[(WD c).1]at b;cases b
  ·rw[upd_ne _ _ e]
 |_=>rfl
def wi{x y s off}(b:NQ σ x=.cref s off)(c:(Cz σ y).isVal=true):NQ (CZ σ y) x=.cref s off:=by
 cases y with
 |tmp q=>
  cases x with
  |tmp p=>
   have d:p≠q:=by
    intro e;subst e;rw[show Cz σ (.tmp p)=σ p from rfl]at c;simp only[NQ]at b;split at b
    ·rename_i h;rw[h]at c;cases c
    ·rw[b]at c;cases c
   simp only[CZ,NQ]at *;rw[upd_ne _ _ d];exact b
  |_=>exact b
 |_=>exact b
def rM{tb}(htb:Lr P tb){t:TypeId}{dd:TyD}{x y:Operand}{s off:Nat}{cs:List V}(hop:o.op=.store t x y)(ht:tb t=some dd)(hax:NQ σ x=.cref s off)(hs:C0 (σ s)=some cs)
  (Z:(Cz σ y).isArg=true) (hn:(Ij<|Cz σ y).length=dd.size) (hl:off+dd.size<=cs.length) (ho:o.dst=none) (c:K (upd (CZ σ y) s<|WM (σ s)<|Qg cs off<|Ij<|Cz σ y)):WY P nt bx base St0 w0 o σ K:=by
 have A:(Cz σ y).isVal=true:=by cases h:Cz σ y<;>rw[h]at Z<;>first|exact Z|cases Z
 rintro a w Q ⟨St,B,h,hb,hst,hz⟩;have⟨bs,B',hw,v,I⟩:=WB h y A;rw[Bn]at v I;have J:=wj hs A;have L:C0 (CZ σ y s)=some cs:=by rw[J];exact hs
 have⟨g,T,bs',m,q1,q2,q3,q4,F,q6⟩:=TA v (wi hax A) L;have M:=htb _ _ ht;have f:=hw.cells Z;have e0:=jP cs off dd.size;rw[e0]at q4;have⟨i,us2,b1,b2,eu,eb,r1,r2⟩:=Bj.app q4;have⟨us3,l,b3,H,N,O,r3,r4⟩:=Bj.app r2;have l1:i.length=off:=by rw[r1.length,Av,Ce (by omega)]
 have l3:us3.length=dd.size:=by rw[r3.length,Av,Be,Ce (by omega)]
 have lv:(a.eval y).cells.toList.length=dd.size:=by rw[f.length,hn]
 have la:m.toList.length=cs.length:=by rw[eu,N,Ak,Ak,l1,l3,r4.length,Be];omega
 have z:=run_storeCells_at (P:=P) g off T (a.eval y).cells.toList 0 m w q3 (by rw[lv];rw[BX]at la;omega)<|(Bj.rdL _ f).oneCell
 have R:m.toList.take (off+0)++(a.eval y).cells.toList++m.toList.drop (off+0+(a.eval y).cells.toList.length)=i++((a.eval y).cells.toList++l):=by
  rw[lv,Di,eu,N,Bg];congr 1
  ·rw[<-l1];simp
  ·congr 1;rw[<-Bg,C9 (by simp[l1,l3]),Cl (by simp[l1,l3])];simp
 rw[R]at z
 have hr:(execOp a.eval o).run P w=.ok .skip (w.setRow g (i++((a.eval y).cells.toList++l)).toArray):=by
  have hsz:(a.eval y).cells.size=dd.size:=by rw[<-lv,BX]
  simp[execOp,hop,q1,Instr.storeAt,Instr.sureAddr,storeVar,M.sizeOf,hsz,z]
 have d:∀k,k≠g->(w.setRow g (i++((a.eval y).cells.toList++l)).toArray).heap[k]? =w.heap[k]?:=λk c=>KD w g k _ c
 have j:(w.setRow g (i++((a.eval y).cells.toList++l)).toArray).heap.size=w.heap.size:=by simp[World.setRow]
 have n:Ext St w (w.setRow g (i++((a.eval y).cells.toList++l)).toArray):=λb o' hs'=>B9<|d b<|λe=>q6 o'<|e ▸ hs'
 have hnd:(g::(b1++(b3++H))).Nodup:=by have:=v.nodup s;rw[F,eb,O]at this;exact this
 have p:=BF.1 hnd;have q:=Ax.1 p.2;have S:=Ax.1 q.2.1;have u:∀k∈bs,k≠g:=λk c e=>v.hapart s g (by rw[F];simp)<|e ▸ c
 have C:∀k,k∈b1∨k∈H->k∈B' s:=by
  intro k c;rw[F,eb,O];simp only[AA,Al];rcases c with c|c
  ·exact .inr<|.inl c
  ·exact .inr<|.inr<|.inr c
 have U:∀k∈b1,k≠g:=λk c e=>p.1<|e ▸ Az _ c
 have W:∀k∈H,k≠g:=λk c e=>p.1<|e ▸ Au _ (Au _ c)
 have m1:=Bj.mono (St':=St) (λ_ _ h=>h) n _ r1<|λk c=>⟨d k<|U k c,λ_=>DL⟩
 have m4:=Bj.mono (St':=St) (λ_ _ h=>h) n _ r4<|λk c=>⟨d k<|W k c,λ_=>DL⟩
 have mv:=Bj.mono (St':=St) (λ_ _ h=>h) n _ f<|λk c=>⟨d k<|u k c,λ_=>DL⟩
 have X:Ci P (w.setRow g (i++((a.eval y).cells.toList++l)).toArray) St (tm a) (WM (σ s)<|Qg cs off<|Ij<|Cz σ y) (tm a s) (g::(b1++(bs++H))):=by
  refine fc hs (by have:=v.slot s;rw[J]at this;exact this) q2 q3 (setRow_heap w g m _ T _ q3) ?_ q6<|bY<|by rw[hn];exact hl
  unfold Qg;rw[hn,Bg];exact m1.join<|mv.join m4
 have Y:∀k∈bs,¬(k∈b1∨k∈H):=λk c r=>v.hapart s k (C k r) c
 refine ww hr ⟨_,c,St,upd B' s<|g::(b1++(bs++H)),?_,?_,hst,by rw[j];exact hz⟩
 ·rw[ho];refine v.AiG L (dl _ _) F q6 d j X ?_ ?_ AR (by simp) (by simp)
  ·refine BF.2 ⟨?_,Ax.2 ⟨q.1,Ax.2 ⟨I,S.2.1,λx hx y D e=>Y x hx<|.inr<|e ▸ D⟩,?_⟩⟩
   ·intro r;rcases Al.1 r with r|r
    ·exact U g r rfl
    ·rcases Al.1 r with r|r
     ·exact u g r rfl
     ·exact W g r rfl
   ·intro x hx y D e;rcases Al.1 D with D|D
    ·exact Y y D<|.inl<|e ▸ hx
    ·exact q.2.2 x hx y (Au _ D) e
  ·intro k c;rcases AA.1 c with rfl|c
   ·exact .inl (by rw[F];simp)
   ·rcases Al.1 c with c|c
    ·exact .inl<|C k<|.inl c
    ·rcases Al.1 c with c|c
     ·exact .inr c
     ·exact .inl<|C k<|.inr c
 ·have u:¬base g:=(v.range s g<|by rw[F];simp).1;exact hb.trans ⟨rfl,rfl,rfl,by rw[j];exact Bb _,λk c=>d k<|λe=>u<|e ▸ c⟩
def fC:TyD->List V
 |.sc z=>[z]
 |.st _ z _=>z
 |.sl e _ _ _=>[.own e 0 []]
def nJ(e:TypeId):Ow P w St (.own e 0 []) (.slice none 0 0) []:=⟨Dc _,[],[],MB _ _ _ _,⟨rfl,rfl⟩,rfl,(λg b=>by cases b),λ_=>rfl⟩
def wx{t d}(h:P5 P t d):∃zv,(zeroValue t).run P w=.ok zv w∧∀w St,Bj P w St (fC d) zv.cells.toList []:=by
 cases d with
 |sc z=>
  have⟨i,zv,d,hi,_,c,b,_⟩:=h;refine⟨zv,by simp[zeroValue,typeInfo,hi,c],λw St=>?_⟩;have k:=b w St;have l:=(Bj.rdL _ k).oneCell zv (by simp);have:zv.cells= #[zv]:=by cases zv<;>first|rfl|cases l
  rw[this];exact k
 |st n z f=>have⟨i,g,m,hi,_,c,b,_⟩:=h;exact⟨.agg g,by simp[zeroValue,typeInfo,hi,c],λw St=>b w St⟩
 |sl e es p q=>have⟨i,j,zv,hi,_,c,_⟩:=h;exact⟨.slice none 0 0,by simp[zeroValue,typeInfo,hi,c],λw St=>⟨.slice none 0 0,[],[],[],rfl,rfl,rfl,nJ e,rfl,rfl⟩⟩
def alloc_heap_new(w:World)(b:Obj):(w.alloc b).heap[w.heap.size]? =some b:=heap_alloc_new w b
def HSim.alloc(h:HSim P nt bx base St B hand σ a w)(j:∀b,base b->b < w.heap.size)(e:Obj)(f:∀b o,b < w.heap.size->(St' b o↔St b o))(d:∀b o,St' b o->b<=w.heap.size):
  HSim P nt bx base St' B (hand++[w.heap.size]) σ a (w.alloc e):=by
 have k:=h.grow (w':=w.alloc e) (dh w e) f (λb o l=>by rw[World.size_alloc];exact Nat.lt_succ_of_le<|d b o l);refine k.fresh (by simp) ?_ ?_ ?_
 ·intro g c;simp only[AU]at c;subst c;exact⟨ue j,by simp⟩
 ·intro s g c i;simp only[AU]at i;have:=(h.range s g c).2;omega
 ·intro g c i;simp only[AU]at i;have:=(h.hrange g c).2;omega
def rB{tb}(f:Lr P tb){t:TypeId}{dd:TyD}{d:Nat}(g:o.op=.alloc t)(p:tb t=some dd)(q:o.dst=some d)(r:d < nt)(s:d∈bx)(i:Sj+d∉bx)(e:C0 (σ d)=none)(u:K (upd σ d<|.box<|fC dd)):WY P nt bx base St0 w0 o σ K:=by
 rintro a w Q ⟨St,B,h,v,j,k⟩;have⟨zv,l,m⟩:=wx (w:=w)<|f _ _ p;have x:(execOp a.eval o).run P w=.ok (.value<|.pointer<|some ⟨w.heap.size,0,none⟩) (w.alloc<|.cells zv.cells t):=by simp[execOp,g,Instr.alloc,l,newVar,newRow]
 have y:=h.alloc (St':=St) k (.cells zv.cells t) (λ_ _ _=>DL)<|λb o n=>HP<|h.st b o n
 refine Nv x ⟨_,u,St,upd B d [w.heap.size],?_,v.alloc k _,j,ZG k _⟩;rw[q];refine y.eK r s i e (c:=.box<|fC dd) ⟨w.heap.size,t,[],zv.cells,rfl,alloc_heap_new w _,m _ _,rfl,λo n=>absurd (h.st _ o n)<|by omega⟩ (by simp) (by simp) rfl
def br(h:HSim P nt bx base St B hand σ a w){cs:List V}{us:List Value}{bs:zN}(j:Bj P w St cs us bs)(f:∀g∈bs,g∈hand)(e:Obj)(c:∀b o,b < w.heap.size->(St' b o↔St b o)):Bj P (w.alloc e) St' cs us bs:=
 Bj.mono (λb o d=>(c b o<|h.st b o d).2 d) (λb o d=>(dh w e).cell (p:=⟨b,o,none⟩)<|h.st b o d) cs j (λg i=>⟨(dh w e).block g (h.hrange g<|f g i).2,λo=>c g o (h.hrange g<|f g i).2⟩)
def MR{c:V}(h:c.isArg=true):c.isVal=true:=by cases c<;>first|exact h|cases h
def yd{t x d}(hop:o.op=.box t x)(ho:o.dst=some d)(hd:d < nt)(hx:d∈bx)(hd0:Sj+d∉bx)(hv:(Cz σ x).isArg=true)(hold:C0 (CZ σ x d)=none)(hk:K (upd (CZ σ x) d<|.box<|Ij<|Cz σ x)):WY P nt bx base St0 w0 o σ K:=by
 rintro a w Q ⟨St,B,h,hb,hst,hz⟩;have⟨bs,B',hw,h2,hnb⟩:=WB h x<|MR hv;rw[Bn]at h2 hnb;have hr:(execOp a.eval o).run P w=.ok (.value<|.pointer<|some ⟨w.heap.size,0,none⟩) (w.alloc<|.cells (a.eval x).cells t):=by simp[execOp,hop,Instr.box,newVar,newRow]
 have h1:=h2.alloc (St':=St) hz (.cells (a.eval x).cells t) (λ_ _ _=>DL)<|λb o hs=>HP<|h.st b o hs
 have hrow:=br (St':=St) h2 (hw.cells hv) (λ_ h=>h) (.cells (a.eval x).cells t)<|λ_ _ _=>DL
 have hgn:w.heap.size∉bs:=λhm=>by have:=(h2.hrange _ hm).2;omega
 refine Nv hr ⟨_,hk,St,upd B' d<|w.heap.size::bs,?_,hb.alloc hz _,hst,ZG hz _⟩;rw[ho]
 refine h1.eK hd hx hd0 hold (c:=.box (Ij (Cz σ x))) ⟨w.heap.size,t,bs,_,rfl,alloc_heap_new w _,hrow,rfl,λo hs=>absurd (h.st _ o hs) (by omega)⟩ (BF.2 ⟨hgn,hnb⟩) (by
  intro g hg;rcases AA.1 hg with rfl|hg
  ·simp
  ·exact Az _ hg) rfl
def SM(b:Nat->Option (Nat×Nat)):List (Nat×Operand)->PS->List V->Option (PS×List V)
 |[],σ,cs=>some (σ,cs)
 |(i,x)::r,σ,cs=>match b i with
  |some (off,c)=>if(Cz σ x).isArg=true∧(Ij<|Cz σ x).length=c∧off+c<=cs.length then SM b r (CZ σ x) (Qg cs off<|Ij<|Cz σ x)else none
  |none=>none
def vV(d:List Value):∀(k off:Nat) (b:Array Value),off+k+d.length<=b.size->
  (d.zipIdx k).foldl (λcs (c,j)=>cs.setIfInBounds (off+j) c) b=(b.toList.take (off+k)++d++b.toList.drop (off+k+d.length)).toArray:=by
 induction d with
 |nil=>intro k off b _;simp
 |cons u d e=>
  intro k off b f;simp only[Ar]at f;rw[List.zipIdx_cons,DR,e (k+1) off _ (by simp;omega)];have g:off+k < b.toList.length:=by rw[BX];omega
  have h:(b.setIfInBounds (off+k) u).toList=b.toList.set (off+k) u:=by simp
  have e2:(b.toList.set (off+k) u).take (off+(k+1))=b.toList.take (off+k)++[u]:=by rw[show off+(k+1)=off+k+1 by omega,A7 (by rw[Bd];exact g),List.take_set_of_le (by omega)];simp
  have i:(b.toList.set (off+k) u).drop (off+(k+1)+d.length)=b.toList.drop (off+k+(u::d).length):=by rw[List.drop_set_of_lt (by omega),Ar];congr 1;omega
  simp only;rw[h,e2,i];simp
def i7(c:Nat->Option (Nat×Nat)):∀(parts:List (Nat×Operand)) (σ σ':PS) (B:Nat->zN) (hand:zN) (cs cs':List V) (b:Array Value) (bs:zN),HSim P nt bx base St B hand σ a w->Bj P w St cs b.toList bs->bs.Nodup->(∀g∈bs,g∈hand)->SM c parts σ cs=some (σ',cs')->
  ∃B' hand' r t,Instr.fill c b (parts.map λp=>(p.1,a.eval p.2))=some r∧HSim P nt bx base St B' hand' σ' a w∧Bj P w St cs' r.toList t∧t.Nodup∧∀g∈t,g∈hand'
 |[],σ,σ',B,hand,cs,cs',b,bs,h,H,I,z,e=>by simp only[SM,Ay,Ch]at e;obtain⟨rfl,rfl⟩:=e;exact⟨B,hand,b,bs,rfl,h,H,I,z⟩
 |(i,x)::parts,σ,σ',B,hand,cs,cs',b,bs,h,H,I,z,e=>by
  simp only[SM]at e;cases N:c i with
  |none=>rw[N]at e;cases e
  |some q=>
   have⟨off,J⟩:=q;rw[N]at e;simp only at e;split at e
   ·rename_i hc;have⟨hv,hl,hlen⟩:=hc;have⟨O,B',hw,h2,R⟩:=WB h x<|MR hv;have d:=hw.cells hv;have e0:=jP cs off J;rw[e0]at H;have⟨j,us2,b1,b2,eu,eb,r1,r2⟩:=Bj.app H;have⟨S,n,b3,T,A,U,r3,r4⟩:=Bj.app r2;have L:j.length=off:=by rw[r1.length,Av,Ce (by omega)]
    have W:S.length=J:=by rw[r3.length,Av,Be,Ce (by omega)]
    have lv:(a.eval x).cells.toList.length=J:=by rw[d.length,hl]
    have la:b.toList.length=cs.length:=by rw[eu,A,Ak,Ak,L,W,r4.length,Be];omega
    rw[BX]at la;have s:=vV (a.eval x).cells.toList 0 off b (by omega)
    have C:b.toList.take (off+0)++(a.eval x).cells.toList++b.toList.drop (off+0+(a.eval x).cells.toList.length)=j++((a.eval x).cells.toList++n):=by
     rw[lv,Di,eu,A,Bg];congr 1
     ·rw[<-L];simp
     ·congr 1;rw[<-Bg,C9 (by simp[L,W]),Cl (by simp[L,W])];simp
    rw[C]at s;have D:Bj P w St (Qg cs off<|Ij<|Cz σ x) (j++((a.eval x).cells.toList++n)) (b1++(O++T)):=by unfold Qg;rw[hl,Bg];exact r1.join<|d.join r4
    rw[eb,U]at I z;have X:=Ax.1 I;have n2:=Ax.1 X.2.1;have k:=Ax.1 R;have l:∀g∈b1,g∈hand:=λg f=>z g<|Az _ f
    have m:∀g∈T,g∈hand:=λg f=>z g<|Au _<|Au _ f
    have⟨B2,u,F,Y,hf,h3,h4,h5,h6⟩:=i7 c parts (CZ σ x) σ' B' (hand++O) (Qg cs off<|Ij<|Cz σ x) cs' (j++((a.eval x).cells.toList++n)).toArray (b1++(O++T)) h2 D
     (Ax.2 ⟨X.1,Ax.2 ⟨k.2.1,n2.2.1,λx M y v e=>k.2.2 y (m y v) x M e.symm⟩,λx M y v e=>by
      rcases Al.1 v with v|v
      ·exact k.2.2 x (l x M) y v e
      ·exact X.2.2 x M y (Au _ v) e⟩)
     (λg f=>by
      rcases Al.1 f with f|f
      ·exact Az _<|l g f
      ·rcases Al.1 f with f|f
       ·exact Au _ f
       ·exact Az _ (m g f)) e
    refine⟨B2,u,F,Y,?_,h3,h4,h5,h6⟩;simp only[AH,Instr.fill,N];have Z:(a.eval x).cells.size=J:=by rw[<-lv,BX]
    rw[As (by simp[Z];omega)];have hz:(Array.foldl (λcs (x:Value×Nat)=>cs.setIfInBounds (off+x.2) x.1) b (a.eval x).cells.zipIdx)=(j++((a.eval x).cells.toList++n)).toArray:=by rw[<-Array.foldl_toList,Array.toList_zipIdx];exact s
    rw[<-hf];congr 1
   ·cases e
end
end
section
section
variable {P:Program}{nt:Nat}{base:Bs}{bx:zN}{St St' St0:Nat->Nat->Prop}{B:Nat->zN}{hand:zN}{σ σ':PS}{a:Act}{w w' w0:World}{K:PS->Prop}{Q:Exit->Act->World->Prop}{o:Oper}
def gF(parts:Array (Nat×Operand))(f:Operand->Value):(parts.map λ(i,x)=>(i,f x)).toList=parts.toList.map λp=>(p.1,f p.2):=by simp
def lK(b:List Field)(c:∀f∈b,0 < V1 P f.type):(b.mapM λf=>do pure (f.offset,<-Go.sizeOf f.type):Sem (List<|Nat×Nat)).run P w=.ok (b.map λf=>(f.offset,V1 P f.type)) w:=by
 induction b with
 |nil=>rfl
 |cons f b d=>
  have e:(Go.sizeOf f.type).run P w=.ok (V1 P f.type) w:=by
   have:=c f (by simp);unfold V1 at *;cases hi:P.info? f.type with
   |none=>rw[hi]at this;simp at this
   |some i=>simp[Go.sizeOf,typeInfo,hi]
  simp only[List.mapM_cons,Bp,e,A4,BI,d (λf g=>c f<|by simp[g])];rfl
def rC{tb}(m:Lr P tb){t:TypeId}{n:Nat}{z:List V}{c:List (Nat×Nat)}{parts:Array (Nat×Operand)}{d:Nat}{cs:List V}(p:o.op=.build t parts)(D:tb t=some (.st n z c))
  (q:SM (λi=>c[i]?) parts.toList σ z=some (σ',cs)) (F:o.dst=some d) (H:d < nt) (I:d∉bx) (J:K (upd σ' d<|.agg cs)):WY P nt bx base St0 w0 o σ K:=by
 rintro a w Q ⟨St,B,h,L,r,M⟩;have⟨i,e,C,hi,_,s,u,N,j,k,_⟩:=m _ _ D;have⟨B',hand',b,l,O,R,S,T,U⟩:=i7 (λi=>c[i]?) parts.toList σ σ' B [] z cs e [] h (u w St) AR (by simp) q;have v:(C.mapM λf=>do pure (f.offset,<-Go.sizeOf f.type):Sem (Array<|Nat×Nat)).run P w=.ok c.toArray w:=by have:=lK (P:=P) (w:=w) C.toList (λf q=>by have:=k (f.offset,V1 P f.type) (by rw[<-j];exact Cf q);exact this);rw[j]at this;rw[IM,Sem.run_map,this];rfl
 have W:(execOp a.eval o).run P w=.ok (.value<|.agg b) w:=by
  have y:(zeroValue t).run P w=.ok (.agg e) w:=by simp[zeroValue,typeInfo,hi,s]
  have g:Instr.fill (λx=>c.toArray[x]?) (Value.agg e).cells (parts.map λ(i,x)=>(i,a.eval x)).toList=some b:=by
   rw[gF];have:(λ(x:Nat)=>c.toArray[x]?)=λ(i:Nat)=>c[i]?:=by funext x;simp
   rw[this];exact O
  simp only[execOp,p,Instr.build,Bp,y,A4,By N,v,g,BI]
 have A:Ow P w St (.agg cs) (.agg b) l:=⟨b.toList,by simp,S⟩;refine Nv W ⟨_,J,St,upd B' d l,?_,L,r,M⟩;rw[F];exact R.put H I A.slot T U A.DM.1 A.Sk
def Uq(b:List V)(es n:Nat):List V:=(List.range<|n * es).map λi=>b.getD (i % es) .undef
def gX:∀(cs:List V) (us:List Value),cs.length=us.length->(∀(j:Nat) (c:V) (u:Value),cs[j]? =some c->us[j]? =some u->c.DF=true∧Ow P w St c u [])->Bj P w St cs us []
 |[],us,b,_=>⟨Bf b.symm,rfl⟩
 |c::cs,[],b,_=>by simp at b
 |c::cs,u::us,b,h=>by have⟨d,e⟩:=h 0 c u rfl rfl;exact⟨u,us,[],[],rfl,rfl,d,e,gX cs us (by simpa using b)<|λj x y f g=>h (j+1) x y (by simpa using f)<|by simpa using g⟩
def gY:∀{cs:List V}{us:List Value},Bj P w St cs us []->∀(j:Nat) (c:V) (u:Value),cs[j]? =some c->us[j]? =some u->c.DF=true∧Ow P w St c u []
 |[],_,_,j,c,u,e,_=>by simp at e
 |d::cs,_,⟨x,h,b1,b2,g,e2,e,i,k⟩,j,c,u,f,b=>by
  have l:b1=[]∧b2=[]:=by simpa using e2.symm
  obtain⟨rfl,rfl⟩:=l;cases j with
  |zero=>rw[g]at b;simp only[Cd,Ay]at f b;subst f b;exact⟨e,i⟩
  |succ j=>rw[g]at b;exact gY k j c u (by simpa using f) (by simpa using b)
def kj{d:List V}{us:Array Value}(g:Bj P w St d us.toList []){es:Nat}(f:0 < es)(l:d.length=es)(n:Nat):Bj P w St (Uq d es n) ((Array.range (n * es)).map (us[· % us.size]!)).toList []:=by
 have b:us.size=es:=by rw[<-l,<-g.length,BX]
 refine gX _ _ (by simp[Uq]) (λj c u e i=>?_)
 have k:j < n * es:=by
  rcases Bi j (n * es)with h|h
  ·exact h
  ·rw[BJ (by simp[Uq];omega)]at e;cases e
 have m:j % es < es:=QK _ f
 have p:d[j % es]? =some c:=by
  simp only[Uq,BZ,FR k,B3,Ay]at e
  rw[<-e,Ah (by omega),A1,Ah (by omega)]
  rfl
 have e2:us.toList[j % es]? =some u:=by
  simp only[Jp,Array.toList_range,BZ,FR k,B3,Ay]at i
  rw[<-i,b]
  simp[b,m]
 exact gY g (j % es) c u p e2
def iS{t e es eb ez}(h:P5 P t (.sl e es eb ez)):V1 P e=es:=by have⟨i,j,zv,_,_,_,_,c,_,b,_⟩:=h;simp[V1,c,b]
def eO{e es n d cs arr bs}(hcsz:V1 P e=es)(hes0:0 < es)(h2:HSim P nt bx base St B hand σ a w)(h3:Bj P w St cs arr.toList bs)(h4:bs.Nodup)(h5:∀g∈bs,g∈hand)
  (hb:BelowK base.K w0 w) (hst:∀b o,base b->(St b o↔St0 b o)) (hz:∀b,base b->b < w.heap.size) (hcs:cs.length=n * es) (hnl:n<=lim) (hd:d < nt) (hx:d∉bx):
  Rel P nt bx base St0 w0 (upd σ d<|.own e n cs) (a.put (some d)<|.slice (some ⟨w.heap.size,0,none⟩) n n) (w.alloc<|.cells arr e):=by
 have hsz:arr.size=n * es:=by rw[<-BX,h3.length,hcs]
 have hm:n<=maxLen:=by unfold maxLen;unfold lim at hnl;omega
 have hst1:∀b o,b < w.heap.size->((St b o∨(b=w.heap.size∧o < n * es))↔St b o):=λb o hlt=>⟨λh=>h.elim id (λh=>by omega),.inl⟩
 have h6:=h2.alloc (St':=λb o=>St b o∨(b=w.heap.size∧o < n * es)) hz (.cells arr e) hst1 (λb o hs=>by
  rcases hs with hs|hs
  ·exact HP<|h2.st b o hs
  ·omega)
 have h7:=br (St':=λb o=>St b o∨(b=w.heap.size∧o < n * es)) h2 h3 h5 (.cells arr e) hst1;have hgn:w.heap.size∉bs:=λhm=>by have:=(h2.hrange _<|h5 _ hm).2;omega
 have hv:Ow P (w.alloc<|.cells arr e) (λb o=>St b o∨(b=w.heap.size∧o < n * es)) (.own e n cs) (.slice (some ⟨w.heap.size,0,none⟩) n n) (w.heap.size::bs):=by
  refine⟨hnl,arr.toList,bs,?_,h7,rfl,?_,?_⟩
  ·rw[hcsz];exact World.ownsRow_lit w arr n (Dc _) hm hsz
  ·intro g hg o';simp only[Value.ownBlock,Ay]at hg;subst hg;rw[hcsz];exact⟨λh'=>h'.elim (λh'=>absurd (h2.st _ _ h')<|by omega) (·.2),λh'=>.inr ⟨rfl,h'⟩⟩
  ·intro hn0;subst hn0;exact Bf (by simpa using hcs)
 refine⟨(λb o=>St b o∨(b=w.heap.size∧o < n * es)),upd B d<|w.heap.size::bs,?_,hb.alloc hz _,?_,ZG hz _⟩
 ·exact h6.put hd hx hv.slot (BF.2 ⟨hgn,h4⟩) (by
   intro g hg;rcases AA.1 hg with rfl|hg
   ·simp
   ·exact Az _ (h5 g hg)) hv.DM.1 hv.Sk
 ·intro b o' hlt;rw[<-hst b o' hlt];exact hst1 b o'<|hz b hlt
def eC{tb:Tb}(c:Lr P tb){t e:TypeId}{es O n:Nat}{u:List V}{parts:Array (Nat×Operand)}{d:Nat}{cs:List V}(g:o.op=.buildSlice t n parts)(J:tb t=some (.sl e es O u))
  (hn:n * es<=16777216) (R:SM (λi=>some (i * es,es)) parts.toList σ (Uq u es n)=some (σ',cs)) (v:cs.length=n * es) (S:o.dst=some d) (T:d < nt) (U:d∉bx) (W:K (upd σ' d (.own e n cs))):WY P nt bx base St0 w0 o σ K:=by
 rintro a w Q ⟨St,B,h,X,y,Y⟩
 have k:=iS (c _ _ J)
 obtain⟨i,j,zv,hi,_,_,L,M,z,A,Z,C,D,b,_⟩:=c _ _ J
 have l:=kj (C w St) b D n
 obtain⟨B',hand',m,bs',F,h2,h3,h4,h5⟩:=i7 (λi=>some (i * es,es)) parts.toList σ σ' B [] (Uq u es n) cs ((Array.range (n * es)).map (zv.cells[· % zv.cells.size]!)) [] h l AR (by simp) R
 have hr:(execOp a.eval o).run P w=.ok (.value (.slice (some ⟨w.heap.size,0,none⟩) n n)) (w.alloc (.cells m e)):=by
  have q:(Go.sizeOf e).run P w=.ok es w:=by simp[Go.sizeOf,typeInfo,M,A]
  have H:(zeroValue e).run P w=.ok zv w:=by simp[zeroValue,typeInfo,M,z]
  have r:¬(n * es > 2 ^ 24):=by omega
  have s:(parts.map λ(i,x)=>(i,a.eval x)).toList=parts.toList.map λp=>(p.1,a.eval p.2):=gF _ _
  by_cases I:n * es=0
  ·have N:∀f:Nat->Value,(Array.range (n * es)).map f= #[]:=by intro f;rw[I];simp
   rw[N]at F
   simp only[execOp,g,Instr.buildSlice,Bp,A4,By L,q,r,Dz,At I,N,s,F,BI,newRow,run_newObj]
   rfl
  ·simp only[execOp,g,Instr.buildSlice,Bp,A4,By L,q,r,Dz,As I,H,s,F,BI,newRow,run_newObj]
   rfl
 refine Nv hr ⟨_,W,?_⟩
 rw[S]
 exact eO k b h2 h3 h4 h5 X y Y v (by unfold lim;have:n<=n * es:=Nat.le_mul_of_pos_right _ b;omega) T U
def uY{tb:Tb}(f:Lr P tb){t e:TypeId}{es q:Nat}{I:List V}{x y:Operand}{d n:Nat}{k s:IntKind}(u:o.op=.makeSlice t x y)(J:tb t=some (.sl e es q I))(O:Cz σ x=.int k n)(R:Cz σ y=.int s n)(v:n<=lim)
  (S:o.dst=some d) (T:d < nt) (r:d∉bx) (U:K (upd σ d (.own e n (Uq I es n)))):WY P nt bx base St0 w0 o σ K:=by
 rintro a w Q ⟨St,B,h,W,z,X⟩
 have g:=iS (f _ _ J)
 obtain⟨i,j,zv,hi,_,_,Y,Z,A,C,D,F,H,c,L,l⟩:=f _ _ J
 have m:=kj (F w St) c H n
 have e1:a.eval x=.int k n:=by obtain⟨b,r⟩:=N9 h x;rw[O]at r;exact Hd r
 have e2:a.eval y=.int s n:=by obtain⟨b,M⟩:=N9 h y;rw[R]at M;exact Hd M
 have hr:(execOp a.eval o).run P w=.ok (.value (.slice (some ⟨w.heap.size,0,none⟩) n n)) (w.alloc (.cells ((Array.range (n * es)).map (zv.cells[· % zv.cells.size]!)) e)):=by
  have p:(j.bytes:Int) * (n:Int)<=281474976710656:=by
   rw[D]
   have h3:q * n<=128 * 1099511627776:=Fy l v
   have h4:((q * n:Nat):Int)=(q:Int) * n:=by simp
   rw[<-h4]
   omega
  have N:=run_make (P:=P) w t e j zv Y Z A k s n n (by omega) (ED _) p (by unfold lim at v;omega)
  simp only[AB,C]at N
  simp only[execOp,u,e1,e2,Bp,N,A4,BI]
  rfl
 refine Nv hr ⟨_,U,?_⟩
 rw[S]
 exact eO g c h m AR (by simp) W z X (by simp[Uq]) v T r
def au:V->List V
 |.own _ _ ds=>ds
 |.dat _ ds=>ds.map WG
 |.arg _ ds=>ds.map WG
 |.pin _ _ ds=>ds.map WG
 |_=>[]
def wG{c v bs m es ds}(h:Ow P w St c v bs)(hc:Mk c=some (m,ds))(hl:ds.length=m * es)(hes:0 < es)(hn:bs.Nodup):
  ∃us b2,Qh w es v m us∧Bj P w St (au c) us b2∧b2.Nodup∧∀g∈b2,g∈bs:=by
 have key:∀us:List Value,Rd w St (.dat m ds) v->us.length=ds.length->(∀b off A cp,v=.slice A m cp->A=some ⟨b,off,none⟩->DO w St b off ds->∀(j:Nat) (u:Value),us[j]? =some u->w.cell? ⟨b,off+j,none⟩=some u)->Qh w es v m us:=by intro us hr hlu hcell;obtain⟨hm,A,cp,rfl,_,hrow,h0⟩:=hr;refine⟨A,cp,rfl,by unfold maxLen at hm;omega,by rw[hlu,hl],λhp=>?_⟩;obtain⟨b,off,rfl,hrr⟩:=hrow hp;exact⟨b,off,rfl,hcell b off _ cp rfl rfl hrr⟩
 cases c with
 |own e n cs=>
  simp only[Mk,Ay,Ch]at hc;obtain⟨rfl,rfl⟩:=hc;have hrd:=Ow.rd _ h rfl;have⟨hm,xs,bs',h1,h2,h3,h4,h5⟩:=h;refine⟨xs,bs',?_,h2,?_,?_⟩
  ·have hx:=Qh.U4 h1;have⟨A,cp,e1,e2,e3,e4⟩:=hx;exact⟨A,cp,e1,e2,by rw[h2.length,hl],e4⟩
  ·rw[h3]at hn;exact(Ax.1 hn).2.1
  ·intro g hg;rw[h3];exact Au _ hg
 |dat n cs=>
  simp only[Mk,Ay,Ch]at hc;obtain⟨rfl,rfl⟩:=hc;obtain⟨rfl,hr⟩:=h;have hr':=hr;obtain⟨hm,A,cp,rfl,hcp,hrow,h0⟩:=hr;rcases BD n with hz|hp
  ·have:=h0 hz;subst this;subst hz;exact⟨[],[],⟨A,cp,rfl,by omega,by simp,λh=>absurd h<|by omega⟩,⟨rfl,rfl⟩,AR,by simp⟩
  ·obtain⟨b,off,rfl,hrr⟩:=hrow hp;have⟨us,h3,h4⟩:=hrr.list;refine⟨us,[],⟨_,cp,rfl,by unfold maxLen at hm;omega,by rw[h3.length,hl],λ_=>⟨b,off,rfl,h4⟩⟩,Bj.uP _ h3,AR,by simp⟩
 |arg n cs=>
  have hr:Rd w St (.dat m ds) v:=Nh (P:=P) (t:=λ_=>.bool true) hc h.slot;simp only[Mk,Ay,Ch]at hc;obtain⟨rfl,rfl⟩:=hc;obtain⟨rfl,_⟩:=h;have hr':=hr;obtain⟨hm,A,cp,rfl,hcp,hrow,h0⟩:=hr;rcases BD n with hz|hp
  ·have:=h0 hz;subst this;subst hz;exact⟨[],[],⟨A,cp,rfl,by omega,by simp,λh=>absurd h<|by omega⟩,⟨rfl,rfl⟩,AR,by simp⟩
  ·obtain⟨b,off,rfl,hrr⟩:=hrow hp;have⟨us,h3,h4⟩:=hrr.list;refine⟨us,[],⟨_,cp,rfl,by unfold maxLen at hm;omega,by rw[h3.length,hl],λ_=>⟨b,off,rfl,h4⟩⟩,Bj.uP _ h3,AR,by simp⟩
 |pin u n cs=>
  have hr:Rd w St (.dat m ds) v:=Nh (P:=P) (t:=λ_=>.bool true) hc h.slot;simp only[Mk,Ay,Ch]at hc;obtain⟨rfl,rfl⟩:=hc;obtain⟨rfl,_⟩:=h;have hr':=hr;obtain⟨hm,A,cp,rfl,hcp,hrow,h0⟩:=hr;rcases BD n with hz|hp
  ·have:=h0 hz;subst this;subst hz;exact⟨[],[],⟨A,cp,rfl,by omega,by simp,λh=>absurd h<|by omega⟩,⟨rfl,rfl⟩,AR,by simp⟩
  ·obtain⟨b,off,rfl,hrr⟩:=hrow hp;have⟨us,h3,h4⟩:=hrr.list;refine⟨us,[],⟨_,cp,rfl,by unfold maxLen at hm;omega,by rw[h3.length,hl],λ_=>⟨b,off,rfl,h4⟩⟩,Bj.uP _ h3,AR,by simp⟩
 |_=>cases hc
def eB{tb}(htb:Lr P tb){t e:TypeId}{es eb:Nat}{ez:List V}{x y:Operand}{d n m:Nat}{cs ds:List V}(hop:o.op=.call {callee:=.builtin .append,args:= #[x,y],argTypes:= #[t,t]})(ht:tb t=some (.sl e es eb ez))
  (h1:Cz σ x=.own e n cs) (h2:Mk (Cz (CZ σ x) y)=some (m,ds)) (hds:ds.length=m * es) (hlim:n+m<=lim) (ho:o.dst=some d) (hd:d < nt) (hx:d∉bx)
  (hk:K (upd (CZ (CZ σ x) y) d<|.own e (n+m)<|cs++au (Cz (CZ σ x) y))):WY P nt bx base St0 w0 o σ K:=by
 rintro a w Q ⟨St,B,h,hb,hst,hz⟩;have hcsz:=iS<|htb _ _ ht;have⟨i,j,zv,hi,_,_,hu,hj,hjz,hes,heb,hzl,hlz,hes0,heb0,heb1⟩:=htb _ _ ht;have⟨b1,B1,w1,q1,n1⟩:=WB h x (by rw[h1];rfl);rw[Bn]at q1 n1;have hyv:(Cz (CZ σ x) y).isVal=true:=by cases hc:Cz (CZ σ x) y<;>rw[hc]at h2<;>first|rfl|cases h2
 have⟨b2,B2,w2,q2,n2⟩:=WB q1 y hyv;rw[h1]at w1;have⟨hnl,xs,bs1,r1,r2,r3,r4,r5⟩:=w1;rw[hcsz]at r1 r4;have n12:=Ax.1 n2;have⟨us,b3,s1,s2,s3,s4⟩:=wG w2 h2 hds hes0 n12.2.1;have hzs:zv.cells.size=es:=by rw[<-hlz,<-(hzl w St).length,BX]
 have hbytes:(n+m) * eb<=140737488355328:=BH (Fy hlim heb1) (by unfold lim;omega);have⟨v',w',hrun,o1,o2,o3,o4⟩:=vv (P:=P) w t o.type e zv es eb hu (by simp[hj,hjz,hes,heb]) hzs hes0 heb0 (a.eval x) n xs r1 (a.eval y) m us s1 ((Bj.rdL _ s2).oneCell) hbytes;have hr:(execOp a.eval o).run P w=.ok (.value v') w':=by simp only[execOp,hop,resolve,invoke,builtin,Bp,BI,A4,Jr,AH,Dv,hrun]
 have hxb:∀g,(a.eval x).ownBlock=some g->g∈b1:=λg hg=>by rw[r3,hg];simp
 have hext:Ext St w w':=by
  intro b o' hs;by_cases e1:some b=(a.eval x).ownBlock
  ·exact o4 b e1.symm o'<|(r4 b e1.symm o').1 hs
  ·exact B9<|o2.block b (h.st b o' hs) e1
 have hst1:∀g,g < w.heap.size->(∀q,(a.eval x).ownBlock=some q->g≠q)->∀o',(St g o'∨(v'.ownBlock=some g∧o' < (n+m) * es))↔St g o':=by
  intro g hg hq o';refine⟨λhh=>hh.elim id<|λhh=>?_,.inl⟩;rcases o3 with e1|e1
  ·rw[hh.1]at e1;exact absurd rfl<|hq g e1.symm
  ·rw[hh.1]at e1;simp only[Ay]at e1;omega
 have hheap:∀g,g < w.heap.size->(∀q,(a.eval x).ownBlock=some q->g≠q)->w'.heap[g]? =w.heap[g]?:=λg hg hq=>o2.block g hg<|λe1=>hq g e1.symm rfl
 have h3:=q2.world (w':=w') (St':=λb o'=>St b o'∨(v'.ownBlock=some b∧o' < (n+m) * es)) (λb o' hs=>.inl hs) hext o2.size
  (λs g hg=>by
   have hlt:=(q2.range s g hg).2;have hne:∀q,(a.eval x).ownBlock=some q->g≠q:=λq hq e1=>q2.hapart s g hg<|Az _<|e1 ▸ hxb q hq
   exact⟨hheap g hlt hne,hst1 g hlt hne⟩)
  (λb o' hs=>by
   rcases hs with hs|hs
   ·exact BA (h.st b o' hs) o2.size
   ·exact(o1.lt b hs.1).2)
 have hn1:((a.eval x).ownBlock.toList++bs1).Nodup:=by rw[<-r3];exact n12.1
 have hn1':=Ax.1 hn1;have hrng:∀g,g∈b1++b2->g < w.heap.size:=λg hg=>(q2.hrange g hg).2
 have hbs1:∀g∈bs1,g∈b1:=λg hg=>by rw[r3];exact Au _ hg
 have hne1:∀g∈bs1,∀q,(a.eval x).ownBlock=some q->g≠q:=λg hg q hq e1=>hn1'.2.2 q (by rw[hq];simp) g hg e1.symm
 have hne3:∀g∈b3,∀q,(a.eval x).ownBlock=some q->g≠q:=λg hg q hq e1=>n12.2.2 q (hxb q hq) g (s4 g hg) e1.symm
 have t1:=Bj.mono (w':=w') (St':=λb o'=>St b o'∨(v'.ownBlock=some b∧o' < (n+m) * es)) (λb o' hs=>.inl hs) hext _ r2 (λg hg=>by have hlt:=hrng g<|Az _<|hbs1 g hg;exact⟨hheap g hlt (hne1 g hg),hst1 g hlt (hne1 g hg)⟩);have t2:=Bj.mono (w':=w') (St':=λb o'=>St b o'∨(v'.ownBlock=some b∧o' < (n+m) * es)) (λb o' hs=>.inl hs) hext _ s2 (λg hg=>by have hlt:=hrng g<|Au _<|s4 g hg;exact⟨hheap g hlt (hne3 g hg),hst1 g hlt (hne3 g hg)⟩)
 have hv:Ow P w' (λb o'=>St b o'∨(v'.ownBlock=some b∧o' < (n+m) * es)) (.own e (n+m)<|cs++au (Cz (CZ σ x) y)) v' (v'.ownBlock.toList++(bs1++b3)):=by
  refine⟨hlim,xs++us,bs1++b3,by rw[hcsz];exact o1,t1.join t2,rfl,?_,?_⟩
  ·intro g hg o';rw[hcsz];refine⟨λhh=>?_,λhh=>.inr ⟨hg,hh⟩⟩;rcases hh with hh|hh
   ·rcases o3 with e1|e1
    ·have:=(r4 g (by rw[<-e1];exact hg) o').1 hh;exact BA this<|BW _<|by omega
    ·rw[hg]at e1;simp only[Ay]at e1;have:=h.st g o' hh;omega
   ·exact hh.2
  ·intro h0;have hn0:n=0:=by omega
   have hm0:m=0:=by omega
   rw[r5 hn0];have hl0:us.length=0:=by have⟨_,_,_,_,hl0,_⟩:=s1;rw[hl0,hm0];simp
   rw[s2.length]at hl0;rw[Bf hl0];rfl
 have hnd3:(bs1++b3).Nodup:=Ax.2 ⟨hn1'.2.1,s3,λp hp q hq e1=>n12.2.2 p (hbs1 p hp) q (s4 q hq) e1⟩
 have fin:∀hand2,HSim P nt bx base (λb o'=>St b o'∨(v'.ownBlock=some b∧o' < (n+m) * es)) B2 hand2 (CZ (CZ σ x) y) a w'->(∀g∈v'.ownBlock.toList,g∈hand2)->(∀g∈b1++b2,g∈hand2)->(∀g∈v'.ownBlock.toList,g∉bs1++b3)->
   Rel P nt bx base St0 w0 (upd (CZ (CZ σ x) y) d<|.own e (n+m)<|cs++au (Cz (CZ σ x) y)) (a.put (some d) v') w':=by
  intro hand2 g1 g2 g3 g4;refine⟨_,upd B2 d<|v'.ownBlock.toList++(bs1++b3),g1.put hd hx hv.slot ?_ ?_ hv.DM.1 hv.Sk,?_,?_,UC hz o2.size⟩
  ·refine Ax.2 ⟨by cases v'.ownBlock<;>simp,hnd3,λp hp q hq e1=>g4 p hp<|e1 ▸ hq⟩
  ·intro g hg;rcases Al.1 hg with hg|hg
   ·exact g2 g hg
   ·rcases Al.1 hg with hg|hg
    ·exact g3 g<|Az _<|hbs1 g hg
    ·exact g3 g<|Au _<|s4 g hg
  ·exact hb.grown o2 hz<|λg hg=>(q2.hrange g<|Az _<|hxb g hg).1
  ·intro b o' hlt;rw[<-hst b o' hlt];exact hst1 b (hz b hlt) (λq hq e1=>(q2.hrange q<|Az _<|hxb q hq).1<|e1 ▸ hlt) o'
 refine Nv hr ⟨_,hk,?_⟩;rw[ho];rcases o3 with e1|e1
 ·refine fin (b1++b2) h3 (λg hg=>?_) (λ_ h=>h) (λg hg hm=>?_)
  ·rw[e1]at hg;rw[r3];exact Az _<|Az _ hg
  ·rw[e1]at hg;have hq:(a.eval x).ownBlock=some g:=by simpa using hg
   rcases Al.1 hm with hm|hm
   ·exact hne1 g hm g hq rfl
   ·exact hne3 g hm g hq rfl
 ·have hlt:=(o1.lt _ e1).2
  have h4:=h3.fresh (bs:=[w.heap.size]) (by simp) (by intro g hg;simp only[AU]at hg;subst hg;exact⟨ue hz,hlt⟩)
   (by intro s g hg hm;simp only[AU]at hm;have:=(q2.range s g hg).2;omega)
   (by intro g hg hm;simp only[AU]at hm;have:=hrng g hg;omega)
  refine fin _ h4 (λg hg=>?_) (λg hg=>Az _ hg)<|λg hg hm=>?_
  ·rw[e1]at hg;exact Au _ (by simpa using hg)
  ·rw[e1]at hg;have hq:g=w.heap.size:=by simpa using hg
   have:g < w.heap.size:=by
    rcases Al.1 hm with hm|hm
    ·exact hrng g<|Az _<|hbs1 g hm
    ·exact hrng g<|Au _<|s4 g hm
   omega
end
end
section
section
variable {P:Program}{nt:Nat}{base:Bs}{bx:zN}{St St' St0:Nat->Nat->Prop}{B:Nat->zN}{hand:zN}{σ σ':PS}{a:Act}{w w' w0:World}{K:PS->Prop}{Q:Exit->Act->World->Prop}{o:Oper}
def kill(D:zN)(σ:PS):PS:=λs=>if D.contains s=true then .undef else match D4 (σ s)with
 |some b=>if D.contains b=true then .undef else σ s
 |none=>σ s
def UB(D:zN)(σ:PS)(s:Nat):kill D σ s=.undef∨kill D σ s=σ s:=by
 unfold kill;split
 ·exact .inl rfl
 ·split
  ·split
   ·exact .inl rfl
   ·exact .inr rfl
  ·exact .inr rfl
def Wb{D σ s}(h:D.contains s=true):kill D σ s=.undef:=by unfold kill;rw[At h]
def lB{D σ s b}(h:D4 (kill D σ s)=some b):D4 (σ s)=some b∧D.contains b=false:=by
 rcases UB D σ s with e|e
 ·rw[e]at h;cases h
 ·have c:=h;rw[e]at c;refine⟨c,?_⟩;unfold kill at h;split at h
  ·cases h
  ·rw[c]at h;simp only at h;split at h
   ·cases h
   ·rename_i d;simpa using d
def gv{D σ s cs}(h:C0 (σ s)=some cs)(b:D.contains s=false):kill D σ s=σ s:=by
 have c:D4 (σ s)=none:=by cases d:σ s<;>rw[d]at h<;>first|rfl|cases h
 unfold kill;rw[As (by rw[b];simp),c]
def YG(D:zN)(h:HSim P nt bx base St B hand σ a w):∃B',HSim P nt bx base St B' hand (kill D σ) a w∧(∀s,D.contains s=true->B' s=[])∧(∀s,B' s=[]∨B' s=B s)∧∀s,D.contains s=false->kill D σ s=σ s->B' s=B s:=by
 have j:∀s,∃b:zN,Ci P w St (tm a) (kill D σ s) (tm a s) b∧(b=[]∨b=B s)∧(D.contains s=true->b=[])∧(D.contains s=false->kill D σ s=σ s->b=B s):=by
  intro s;rcases UB D σ s with e|e
  ·exact⟨[],by rw[e];rfl,.inl rfl,λ_=>rfl,λ_ e2=>by have q:=h.slot s;rw[<-e2,e]at q;exact(show B s=[]from q).symm⟩
  ·by_cases k:D.contains s=true
   ·exact⟨[],by rw[Wb k];rfl,.inl rfl,λ_=>rfl,λe=>by rw[k]at e;cases e⟩
   ·exact⟨B s,by rw[e];exact h.slot s,.inr rfl,λe=>absurd e k,λ_ _=>rfl⟩
 have⟨B',i⟩:=Classical.axiomOfChoice j;have r:=λs=>(i s).1
 have l:=λs=>(i s).2.1
 have c:∀s,∀g∈B' s,g∈B s:=by
  intro s g d;rcases l s with e|e
  ·rw[e]at d;simp at d
  ·rw[e]at d;exact d
 refine⟨B',?_,λs=>(i s).2.2.1,l,λs=>(i s).2.2.2⟩;exact
 {h with
  slot:=r
  boxes:=λs cs e=>by
   rcases UB D σ s with m|m
   ·rw[m]at e;cases e
   ·rw[m]at e;exact h.boxes s cs e
  crefs:=λs b e=>by have⟨u,e2⟩:=lB e;have⟨cs,f⟩:=h.crefs s b u;exact⟨cs,by rw[gv f e2];exact f⟩
  nodup:=λs=>by
   rcases l s with e|e
   ·rw[e];exact AR
   ·rw[e];exact h.nodup s
  apart:=λs t n g d p=>h.apart s t n g (c s g d)<|c t g p
  hapart:=λs g d=>h.hapart s g<|c s g d
  range:=λs g d=>h.range s g (c s g d)}
def XS(D:zN)(h:HSim P nt bx base St B hand σ a w):∃B',HSim P nt bx base St B' hand (kill D σ) a w∧(∀s,D.contains s=true->B' s=[])∧∀s,B' s=[]∨B' s=B s:=
 let⟨B',b,c,d,_⟩:=YG D h
 ⟨B',b,c,d⟩
def HSim.giveUp(h:HSim P nt bx base St B hand σ a w)(p:Nat):∃B',HSim P nt bx base St B' (hand++B p) (kill [p] σ) a w∧B' p=[]:=by
 have⟨B',j,i,k⟩:=XS [p] h
 have c:∀s,∀g∈B' s,g∈B s∧s≠p:=by
  intro s g b;have f:s≠p:=λe=>by subst e;rw[i s (by simp)]at b;simp at b
  rcases k s with e|e
  ·rw[e]at b;simp at b
  ·rw[e]at b;exact⟨b,f⟩
 exact⟨B',
 {j with
  hnodup:=Ax.2 ⟨h.hnodup,h.nodup p,λx l y m e=>by subst e;exact h.hapart p x m l⟩
  hapart:=λs g b d=>by
   have⟨g1,g2⟩:=c s g b;rcases Al.1 d with d|d
   ·exact h.hapart s g g1 d
   ·exact h.apart s p g2 g g1 d
  hrange:=λg b=>by
   rcases Al.1 b with b|b
   ·exact h.hrange g b
   ·exact h.range p g b},i p (by simp)⟩
def HSim.swap(h:HSim P nt bx base St B hand σ a w){s:Nat}(hx:s∈bx)(hno:∀q,D4 (σ q)≠some s)(hB:B s=[]){c:V}{bs:zN}(hc:Ci P w St (tm a) c (tm a s) bs)(hrf:D4 c=none)(hn:bs.Nodup)(hs:∀g∈bs,g∈hand):
  HSim P nt bx base St (upd B s bs) [] (upd σ s c) a w:=by
 refine
 {h with
  slot:=λq=>by
   by_cases e:q=s
   ·subst e;rw[upd_same,upd_same];exact hc
   ·rw[upd_ne _ _ e,upd_ne _ _ e];exact h.slot q
  boxes:=λq cs e=>by
   by_cases eq:q=s
   ·subst eq;exact hx
   ·rw[upd_ne _ _ eq]at e;exact h.boxes q cs e
  crefs:=λq b e=>by
   by_cases eq:q=s
   ·subst eq;rw[upd_same,hrf]at e;cases e
   ·rw[upd_ne _ _ eq]at e;have⟨cs,hcs⟩:=h.crefs q b e;exact⟨cs,by rw[upd_ne _ _ (λeb=>by subst eb;exact hno q e)];exact hcs⟩
  nodup:=λq=>by
   by_cases e:q=s
   ·subst e;rw[upd_same];exact hn
   ·rw[upd_ne _ _ e];exact h.nodup q
  apart:=λq r hqr g hg hg'=>by
   by_cases e:q=s
   ·subst e;rw[upd_same]at hg;rw[upd_ne _ _ (Ne.symm hqr)]at hg';exact h.hapart r g hg'<|hs g hg
   ·rw[upd_ne _ _ e]at hg;by_cases e':r=s
    ·subst e';rw[upd_same]at hg';exact h.hapart q g hg<|hs g hg'
    ·rw[upd_ne _ _ e']at hg';exact h.apart q r hqr g hg hg'
  hnodup:=AR
  hapart:=λ_ _ _=>by simp
  range:=λq g hg=>by
   by_cases e:q=s
   ·subst e;rw[upd_same]at hg;exact h.hrange g<|hs g hg
   ·rw[upd_ne _ _ e]at hg;exact h.range q g hg
  hrange:=by simp}
def nS{s e n cs}(hs:σ s=.uni e n cs)(hr:Rel P nt bx base St0 w0 σ a w):Rel P nt bx base St0 w0 (upd (kill [s] σ) s<|.own e n cs) a w:=by
 have⟨St,B,h,hb,hst,hz⟩:=hr;have hsl:=h.slot s;rw[hs]at hsl;have⟨g,bs',arr,e1,e2,h1,hB,h2,hl,hlen⟩:=hsl;have hx:s∈bx:=h.boxes s cs (by rw[hs];rfl);have hrg:=h.range s g (by rw[hB];simp);have⟨B1,h3,hB1⟩:=h.giveUp s;rw[Bn,hB]at h3;have hnd:(g::bs').Nodup:=by have:=h.nodup s;rw[hB]at this;exact this
 have hnd2:=BF.1 hnd;have hgB:∀q,∀k∈B1 q,k≠g:=λq k hk e=>h3.hapart q k hk (by rw[e];simp)
 have hsame:∀k,k≠g->∀o',(St k o'∨(k=g∧o' < n * V1 P e))↔St k o':=λk hk o'=>⟨λhh=>hh.elim id<|λhh=>absurd hh.1 hk,.inl⟩
 have h4:=h3.world (w':=w) (St':=λb o'=>St b o'∨(b=g∧o' < n * V1 P e)) (λb o' hs=>.inl hs) (λ_ _ _=>rfl) (Bb _) (λq k hk=>⟨rfl,hsame k (hgB q k hk)⟩) (λb o' hs=>by
  rcases hs with hs|hs
  ·exact h.st b o' hs
  ·rw[hs.1];exact hrg.2)
 have hrow:=Bj.mono (w':=w) (St':=λb o'=>St b o'∨(b=g∧o' < n * V1 P e)) (λb o' hs=>.inl hs) (λ_ _ _=>rfl) cs h1<|λk hk=>⟨rfl,hsame k<|λe=>hnd2.1<|e ▸ hk⟩
 have harr:arr.size=n * V1 P e:=by rw[<-BX,h1.length,hlen]
 have hv:Ow P w (λb o'=>St b o'∨(b=g∧o' < n * V1 P e)) (.own e n cs) (tm a s) (g::bs'):=by
  refine⟨hl,arr.toList,bs',?_,hrow,by rw[e1];rfl,λk hk o'=>?_,λh0=>?_⟩
  ·rw[e1];refine⟨by rw[BX,harr],.inr ⟨g,n,arr,rfl,Dc _,e2,Bb _,?_,harr,?_⟩⟩
   ·unfold maxLen;unfold lim at hl;omega
   ·rw[<-harr,<-BX,Bl]
  ·rw[e1]at hk;simp only[Value.ownBlock,Ay]at hk;subst hk;exact⟨λhh=>hh.elim (λhh=>absurd hh<|h2 o') (·.2),λhh=>.inr ⟨rfl,hh⟩⟩
  ·subst h0;exact Bf (by simpa using hlen)
 have hno:∀q,D4 (kill [s] σ q)≠some s:=λq hq=>by have:=(lB hq).2;simp at this
 refine⟨_,_,h4.swap hx hno hB1 hv.slot rfl hnd<|λk hk=>hk,hb,?_,hz⟩;intro b o' hlt;rw[<-hst b o' hlt];exact hsame b (λe=>hrg.1<|e ▸ hlt) o'
def rL{tb:Tb}(f:Lr P tb){t e:TypeId}{es s:Nat}{v:List V}{x y:Operand}{d n:Nat}{k z:IntKind}(A:o.op=.makeSlice t x y)(R:tb t=some (.sl e es s v))(W:Cz σ x=.int k n)(X:Cz σ y=.int z n)(C:n<=lim)
  (Y:o.dst=some d) (Z:d < nt) (u:d∈bx) (D:Sj+d∉bx) (g:C0 (σ d)=none) (hk:K (upd σ d (.uni e n (Uq v es n)))):WY P nt bx base St0 w0 o σ K:=by
 rintro a w Q ⟨St,B,h,hb,F,H⟩
 have l:=iS (f _ _ R)
 obtain⟨i,j,zv,hi,_,_,hu,hj,I,J,L,M,N,m,S,p⟩:=f _ _ R
 have q:=kj (M w St) m N n
 have e1:a.eval x=.int k n:=by obtain⟨b,u⟩:=N9 h x;rw[W]at u;exact Hd u
 have e2:a.eval y=.int z n:=by obtain⟨b,T⟩:=N9 h y;rw[X]at T;exact Hd T
 have hr:(execOp a.eval o).run P w=.ok (.value (.slice (some ⟨w.heap.size,0,none⟩) n n)) (w.alloc (.cells ((Array.range (n * es)).map (zv.cells[· % zv.cells.size]!)) e)):=by
  have r:(j.bytes:Int) * (n:Int)<=281474976710656:=by
   rw[L]
   have h3:s * n<=128 * 1099511627776:=Fy p C
   have h4:((s * n:Nat):Int)=(s:Int) * n:=by simp
   rw[<-h4]
   omega
  have U:=run_make (P:=P) w t e j zv hu hj I k z n n (by omega) (ED _) r (by unfold lim at C;omega)
  simp only[AB,J]at U
  simp only[execOp,A,e1,e2,Bp,U,A4,BI]
  rfl
 have h6:=h.alloc (St':=St) H (.cells ((Array.range (n * es)).map (zv.cells[· % zv.cells.size]!)) e) (λ_ _ _=>DL) (λb o O=>HP (h.st b o O))
 have h7:=br (St':=St) h q (by simp) (.cells ((Array.range (n * es)).map (zv.cells[· % zv.cells.size]!)) e) (λ_ _ _=>DL)
 refine Nv hr ⟨_,hk,St,upd B d [w.heap.size],?_,hb.alloc H _,F,ZG H _⟩
 rw[Y]
 exact h6.eK Z u D g (c:=.uni e n (Uq v es n)) ⟨w.heap.size,[],_,rfl,alloc_heap_new w _,h7,rfl,λo O=>absurd (h.st _ o O) (by omega),C,by rw[l];simp[Uq]⟩ (by simp) (by simp) rfl
def uX{p d e n cs}(g:o.op=.assign (.tmp p)∨o.op=.move (.tmp p))(l:σ p=.uni e n cs)(m:o.dst=some d)(q:d < nt)(r:d∈bx)(i:Sj+d∉bx)(b:C0 (kill [p] σ d)=none)(s:K (upd (kill [p] σ) d<|.uni e n cs)):WY P nt bx base St0 w0 o σ K:=by
 rintro a w Q ⟨St,B,h,t,j,u⟩;have v:(execOp a.eval o).run P w=.ok (.value<|tm a p) w:=by rcases g with e|e<;>simp[execOp,e]<;>rfl
 have f:=h.slot p;rw[l]at f;have⟨x,k,y⟩:=h.giveUp p;rw[Bn]at k;refine Nv v ⟨_,s,St,upd x d<|B p,?_,t,j,u⟩;rw[m];exact k.eK q r i b (c:=.uni e n cs) f (h.nodup p) (λ_ h=>h) rfl
def rN{p d e n cs}(b:o.op=.assign (.tmp p)∨o.op=.move (.tmp p))(f:σ p=.uni e n cs)(g:o.dst=some d)(h:d < nt)(i:d∉bx)(j:K (upd (upd (kill [p] σ) p<|.dat n cs) d<|.own e n cs)):WY P nt bx base St0 w0 o σ K:=by
 intro a w Q k;have l:=nS f k;have c:Cz (upd (kill [p] σ) p<|.own e n cs) (.tmp p)=.own e n cs:=by simp[Cz,upd_same]
 have m:CZ (upd (kill [p] σ) p<|.own e n cs) (.tmp p)=upd (kill [p] σ) p (.dat n cs):=by simp only[CZ,upd_same,dg,dg2,WG];funext q;unfold upd;split<;>rfl
 refine eE (K:=K) (x:=.tmp p) b g h i (by rw[c];rfl) ?_ a w Q l;rw[c,m];exact j
end
end
section
section
variable {P:Program}{w:World}{St:Nat->Nat->Prop}
def iZ{c v}(h:Rd w St (er c) v):Ow P w St (er c) v []∧(er c).DF=true:=by cases c<;>first|exact⟨⟨rfl,h⟩,rfl⟩|exact h.elim
def s7:∀(cs:List V) {us:List Value},Su w St (NU cs) us->Bj P w St (NU cs) us []
 |[],_,h=>⟨h,rfl⟩
 |c::cs,_,⟨u,a,e,b,d⟩=>⟨u,a,[],[],e,rfl,(iZ (P:=P) b).2,(iZ b).1,s7 cs d⟩
def AaN{c v bs}(b:c.isArg=true)(h:Ow P w St c v bs):Ow P w St (er c) v []:=by
 have a:=(h.rda b).erase;cases c<;>first|(cases b;done)|exact⟨rfl,a⟩|skip
 have⟨us,e,a⟩:=a;exact⟨us,e,s7 _ a⟩
def AaO{c}(a:c.isArg=true):C0 (er c)=none∧D4 (er c)=none∧c.isVal=true:=by cases c<;>first|(cases a;done)|exact⟨rfl,rfl,rfl⟩
end
structure Kp (c c':V):Prop where
 rd:∀(P:Program) (w:World) (St:Nat->Nat->Prop) (t:Nat->Value) (v:Value) (bs:zN),Ci P w St t c v bs->bs.Nodup->∃bs',Ci P w St t c' v bs'∧(∀g∈bs',g∈bs)∧bs'.Nodup
 bx:(C0 c').isSome=(C0 c).isSome
 rf:∀b,D4 c'=some b->D4 c=some b
def kr{c}:Kp c c:=⟨λ_ _ _ _ _ bs h a=>⟨bs,h,λ_ h=>h,a⟩,rfl,λ_ h=>h⟩
def kd{c c'}(a:c.isVal=true)(b:dg c=c'):Kp c c':=by
 subst b;refine⟨λP w d t v bs h e=>⟨[],((h.ow a).deg a).slot,by simp,AR⟩,?_,λb h=>?_⟩
 ·rw[(aE a).1,(WD a).1]
 ·rw[(aE a).2]at h;cases h
def ke{c c'}(a:c.isArg=true)(d:er c=c'):Kp c c':=by
 subst d;have⟨e,e2,b⟩:=AaO a;refine⟨λP w f t v bs h g=>⟨[],(AaN a<|h.ow b).slot,by simp,AR⟩,?_,λb h=>?_⟩
 ·rw[e,(WD b).1]
 ·rw[e2]at h;cases h
def CW:List V->List V->Prop
 |[],cs'=>cs'=[]
 |c::cs,cs'=>∃d ds,cs'=d::ds∧(c=d∨(c.DF=true∧(WG c=d∨er c=d)))∧CW cs ds
def du:CW [] []:=rfl
def cwd{c d:V}{cs ds}(a:c.DF=true)(b:WG c=d)(h:CW cs ds):CW (c::cs) (d::ds):=⟨d,ds,rfl,.inr ⟨a,.inl b⟩,h⟩
def cwe{c d:V}{cs ds}(a:c.DF=true)(b:er c=d)(h:CW cs ds):CW (c::cs) (d::ds):=⟨d,ds,rfl,.inr ⟨a,.inr b⟩,h⟩
def zB:∀cs:List V,cs.all V.DF=true->CW cs (cs.map WG)
 |[],_=>rfl
 |c::cs,h=>by rw[Bz,Ad]at h;exact cwd h.1 rfl<|zB cs h.2
def mR{P w St}:∀{cs cs':List V}{us:List Value}{bs:zN},CW cs cs'->Bj P w St cs us bs->bs.Nodup->∃i,Bj P w St cs' us i∧(∀g∈i,g∈bs)∧i.Nodup
 |[],_,_,bs,h,t,l=>by rw[show _=[]from h];exact⟨bs,t,λ_ h=>h,l⟩
 |c::cs,_,_,_,⟨d,ds,e,v,m⟩,⟨u,n,b1,b2,x,e2,o,p,y⟩,l=>by
  subst e e2;have⟨z,A,B⟩:=Ax.1 l;have⟨k,C,r,D⟩:=mR m y A
  have q:∃f,d.DF=true∧Ow P w St d u f∧(∀g∈f,g∈b1)∧f.Nodup:=by
   rcases v with rfl|⟨j,rfl|rfl⟩
   ·exact⟨b1,o,p,λ_ h=>h,z⟩
   ·exact⟨[],YL j,p.cb j,by simp,AR⟩
   ·have:=iZ (P:=P) (Rd.erase c<|Ow.rd c p j);exact⟨[],this.2,this.1,by simp,AR⟩
  have⟨f,F,H,s,I⟩:=q;refine⟨f++k,⟨u,n,f,k,x,rfl,F,H,C⟩,λg J=>?_,Ax.2 ⟨I,D,λa K b L=>B a (s a K) b<|r b L⟩⟩;rcases Al.1 J with h|h
  ·exact Az _<|s g h
  ·exact Au _<|r g h
def kb{cs cs'}(h:CW cs cs'):Kp (.box cs) (.box cs'):=by
 refine⟨?_,rfl,λb h=>by cases h⟩;rintro P w St t v bs ⟨g,T,bs',arr,e1,e2,hr,rfl,hst⟩ hn;have⟨h1,h2⟩:=BF.1 hn;have⟨b',q1,q2,q3⟩:=mR h hr h2;refine⟨g::b',⟨g,T,b',arr,e1,e2,q1,rfl,hst⟩,λx hx=>?_,BF.2 ⟨λhm=>h1<|q2 _ hm,q3⟩⟩;rcases AA.1 hx with rfl|hx
 ·simp
 ·exact AV _<|q2 x hx
def ki{e n cs cs'}(h:CW cs cs'):Kp (.own e n cs) (.own e n cs'):=by
 refine⟨?_,rfl,λb h=>by cases h⟩;rintro P w St t v bs ⟨hl,xs,bs',hx,hr,rfl,hst,h0⟩ hn;have⟨n1,n2,n3⟩:=Ax.1 hn;have⟨b',q1,q2,q3⟩:=mR h hr n2;refine⟨v.ownBlock.toList++b',⟨hl,xs,b',hx,q1,rfl,hst,λhz=>?_⟩,λg hg=>?_,Ax.2 ⟨n1,q3,λa ha b hb=>n3 a ha b<|q2 b hb⟩⟩
 ·rw[h0 hz]at h;exact h
 ·rcases Al.1 hg with h|h
  ·exact Az _ h
  ·exact Au _<|q2 g h
section
variable {P:Program}{nt:Nat}{base:Bs}{bx:zN}{St0:Nat->Nat->Prop}{w0 w:World}{σ σ':PS}{a:Act}{K:PS->Prop}{o:Oper}
def vq(j:∀s,σ' s=.undef∨Kp (σ s) (σ' s))(u:∀s b,D4 (σ' s)=some b->σ' b≠.undef)(v:Rel P nt bx base St0 w0 σ a w):Rel P nt bx base St0 w0 σ' a w:=by
 have⟨m,B,h,d,f,x⟩:=v
 have n:∀s,∃b:zN,Ci P w m (tm a) (σ' s) (tm a s) b∧(∀g∈b,g∈B s)∧b.Nodup:=by
  intro s;rcases j s with e|k
  ·exact⟨[],by rw[e];rfl,by simp,AR⟩
  ·exact k.rd P w m (tm a) (tm a s) (B s) (h.slot s)<|h.nodup s
 have⟨B',p⟩:=Classical.axiomOfChoice n;have c:∀s,∀g∈B' s,g∈B s:=λs=>(p s).2.1
 refine⟨m,B',?_,d,f,x⟩;exact
 {h with
  slot:=λs=>(p s).1
  boxes:=λs cs e=>by
   rcases j s with i|k
   ·rw[i]at e;cases e
   ·have d:=k.bx;rw[e]at d;have⟨ds,y⟩:=GP.1 d.symm;exact h.boxes s ds y
  crefs:=λs b e=>by
   rcases j s with i|k
   ·rw[i]at e;cases e
   ·have⟨cs,q⟩:=h.crefs s b (k.rf b e);rcases j b with i|z
    ·exact absurd i<|u s b e
    ·have d:=z.bx;rw[q]at d;exact GP.1 d
  nodup:=λs=>(p s).2.2
  apart:=λs t f g l r=>h.apart s t f g (c s g l)<|c t g r
  hapart:=λs g l=>by simp
  range:=λs g l=>h.range s g (c s g l)}
def yA{d c'}(c:Kp (σ d) c')(h:c'≠.undef)(i:Rel P nt bx base St0 w0 σ a w)(f:∀s b,D4 (σ s)=some b->σ b≠.undef):Rel P nt bx base St0 w0 (upd σ d c') a w:=by
 refine vq (λs=>.inr ?_) (λs b e=>?_) i
 ·by_cases e:s=d
  ·subst e;rw[upd_same];exact c
  ·rw[upd_ne _ _ e];exact kr
 ·by_cases e2:b=d
  ·subst e2;rw[upd_same];exact h
  ·rw[upd_ne _ _ e2];by_cases g:s=d
   ·subst g;rw[upd_same]at e;exact f s b<|c.rf b e
   ·rw[upd_ne _ _ g]at e;exact f s b e
def iq{o:Oper}{a:Act}{K e:Act->World->Prop}{R:Exit->Act->World->Prop}(b:∀a w,K a w->e a w):∀r,o.upon P a K R r->o.upon P a e R r:=by
 intro r h;unfold Oper.upon at *;split<;>simp only at h
 ·exact b _ _ h
 ·exact b _ _ h
 ·exact b _ _ h
 ·refine Calls.mono h ?_;rintro(v|c|_) w' d
  ·exact b _ _ d
  ·exact d
  ·exact d
 ·exact Rows.mono h<|λv w' d=>b _ _ d
 ·exact h
def AdW{σA:PS}{d:Nat}{c':V}(h:WY P nt bx base St0 w0 o σ (λσ'=>σ'=σA))(i:Kp (σA d) c')(j:c'≠.undef)(k:K (upd σA d c')):WY P nt bx base St0 w0 o σ K:=by intro a w Q l;have g:=h a w Q l;unfold Oper.wp at g⊢;refine iq (λa' w' m=>?_) _ g;obtain⟨σ',e,c⟩:=m;subst e;refine⟨_,k,yA i j c<|λs b e=>?_⟩;obtain⟨p,B,n,_⟩:=c;obtain⟨cs,f⟩:=n.crefs s b e;intro e2;rw[e2]at f;cases f
end
end
section
mutual
def deep:V->Bool
 |.tok _=>true
 |.int _ _=>true
 |.bool _=>true
 |.str _=>true
 |.own _ _ cs=>F7 cs
 |.agg cs=>F7 cs
 |_=>false
def F7:List V->Bool
 |[]=>true
 |c::cs=>deep c&&F7 cs
end
structure FrB (bs:zN) (w w':World):Prop where
 os:w'.os=w.os
 tape:w'.tape=w.tape
 output:w'.output=w.output
 size:w.heap.size<=w'.heap.size
 block:∀g,g < w.heap.size->g∉bs->w'.heap[g]? =w.heap[g]?
def FrB.refl(bs:zN)(w:World):FrB bs w w:=⟨rfl,rfl,rfl,Bb _,λ_ _ _=>rfl⟩
section
variable {P:Program}{w w':World}{St St':Nat->Nat->Prop}
mutual
def Ow.kept:∀(c:V) {v:Value}{bs:zN},deep c=true->Ow P w St c v bs->(∀g∈bs,w'.heap[g]? =w.heap[g]? ∧∀o,St' g o↔St g o)->Ow P w' St' c v bs
 |.tok _,_,_,_,⟨b,d⟩,_=>⟨b,d⟩
 |.int _ _,_,_,_,⟨b,d⟩,_=>⟨b,d⟩
 |.bool _,_,_,_,⟨b,d⟩,_=>⟨b,d⟩
 |.str _,_,_,_,⟨b,d⟩,_=>⟨b,d⟩
 |.own e n cs,v,bs,a,⟨m,xs,k,b,d,j,p,q⟩,i=>by
  refine⟨m,xs,k,?_,Bj.kept cs a d<|λg f=>i g<|by rw[j];exact Au _ f,j,λg f o=>?_,q⟩
  ·refine⟨b.1,?_⟩;rcases b.2 with h|⟨g,cap,l,rfl,f,s,r⟩
   ·exact .inl h
   ·exact .inr ⟨g,cap,l,rfl,f,by rw[(i g<|by rw[j];simp[Value.ownBlock]).1];exact s,r⟩
  ·rw[(i g<|by rw[j,f];simp).2 o];exact p g f o
 |.agg cs,_,_,a,⟨us,e,h⟩,i=>⟨us,e,Bj.kept cs a h i⟩
 |.dat _ _,_,_,a,_,_=>by cases a
 |.arg _ _,_,_,a,_,_=>by cases a
 |.pin _ _ _,_,_,a,_,_=>by cases a
 |.tup _,_,_,a,_,_=>by cases a
 |.box _,_,_,a,_,_=>by cases a
 |.uni _ _ _,_,_,a,_,_=>by cases a
 |.same _,_,_,a,_,_=>by cases a
 |.val _ _,_,_,a,_,_=>by cases a
 |.cref _ _,_,_,a,_,_=>by cases a
 |.adr _ _,_,_,a,_,_=>by cases a
 |.gh _ _,_,_,a,_,_=>by cases a
 |.undef,_,_,a,_,_=>by cases a
def Bj.kept:∀(cs:List V) {us:List Value}{bs:zN},F7 cs=true->Bj P w St cs us bs->(∀g∈bs,w'.heap[g]? =w.heap[g]? ∧∀o,St' g o↔St g o)->Bj P w' St' cs us bs
 |[],_,_,_,h,_=>h
 |c::cs,_,_,f,⟨u,b,b1,b2,i,e2,j,k,l⟩,e=>by
  have a:deep c=true∧F7 cs=true:=by simpa[F7]using f
  exact⟨u,b,b1,b2,i,e2,j,Ow.kept c a.1 k<|λg d=>e g<|by rw[e2];exact Az _ d,Bj.kept cs a.2 l<|λg d=>e g<|by rw[e2];exact Au _ d⟩
end
end
mutual
def Oq:V->Bool
 |.int _ _=>true
 |.bool _=>true
 |.str _=>true
 |.arg _ cs=>NS cs
 |.tok _=>true
 |_=>false
def NS:List V->Bool
 |[]=>true
 |c::cs=>Oq c&&NS cs
end
mutual
def Sl:V->Bool
 |.tok _=>true
 |.int _ _=>true
 |.bool _=>true
 |.str _=>true
 |.own _ _ cs=>Ee cs
 |.agg cs=>Ee cs
 |.arg _ cs=>NS cs
 |_=>false
def Ee:List V->Bool
 |[]=>true
 |c::cs=>Sl c&&Ee cs
end
mutual
def Aaj:∀{c:V},deep c=true->Sl c=true
 |.tok _,_=>rfl
 |.int _ _,_=>rfl
 |.bool _,_=>rfl
 |.str _,_=>rfl
 |.own _ _ cs,h=>by rw[Sl];exact Wl (by rw[deep]at h;exact h)
 |.agg cs,h=>by rw[Sl];exact Wl (by rw[deep]at h;exact h)
 |.dat _ _,h=>by cases h
 |.arg _ _,h=>by cases h
 |.pin _ _ _,h=>by cases h
 |.tup _,h=>by cases h
 |.box _,h=>by cases h
 |.uni _ _ _,h=>by cases h
 |.same _,h=>by cases h
 |.val _ _,h=>by cases h
 |.cref _ _,h=>by cases h
 |.adr _ _,h=>by cases h
 |.gh _ _,h=>by cases h
 |.fn _,h=>by cases h
 |.undef,h=>by cases h
def Wl:∀{cs:List V},F7 cs=true->Ee cs=true
 |[],_=>rfl
 |c::cs,h=>by rw[F7,Ad]at h;rw[Ee,Aaj h.1,Wl h.2];rfl
end
def vU{c}(h:Oq c=true):Sl c=true:=by
 cases c with
 |arg n cs=>rw[Sl];rw[Oq]at h;exact h
 |_=>first|rfl|cases h
def sdA:∀{cs:List V},NS cs=true->Ee cs=true
 |[],_=>rfl
 |c::cs,h=>by rw[NS,Ad]at h;rw[Ee,vU h.1,sdA h.2];rfl
def Oa:∀{cs:List V},Ee cs=true↔∀c∈cs,Sl c=true
 |[]=>by simp[Ee]
 |c::cs=>by rw[Ee,Ad,Oa (cs:=cs)];simp
def sdF{α:Type}{f}(h:∀x,Ee (f x)=true)(l:List α):Ee (l.flatMap f)=true:=Oa.2 λc b=>by have⟨a,_,b⟩:=CA.1 b;exact Oa.1 (h a) c b
def Yq(c:V):Bool:=Sl c
def MZ:V->Bool
 |.undef=>true
 |.agg cs=>cs.all Yq
 |.box cs=>cs.all Yq
 |.cref _ _=>true
 |.same _=>true
 |.val _ _=>true
 |.own _ _ cs=>Ee cs
 |.gh _ cs=>Ee cs
 |.arg _ cs=>NS cs
 |.int _ _=>true
 |.bool _=>true
 |.str _=>true
 |.tok _=>true
 |_=>false
section
variable {P:Program}{w w':World}{St St':Nat->Nat->Prop}{bs:zN}
mutual
def Rd.sx(hf:FrB bs w w')(hl:∀g∈bs,∃o,¬St g o)(hst:∀b o,St b o->b < w.heap.size)(hS:∀k o,k∉bs->St k o->St' k o):∀(c:V) {v:Value},Oq c=true->Rd w St c v->Rd w' St' c v
 |.int _ _,_,_,h=>h
 |.bool _,_,_,h=>h
 |.str _,_,_,h=>h
 |.arg _ cs,_,hd,⟨hn,A,c,e,hc,h,h0⟩=>⟨hn,A,c,e,hc,λhp=>let⟨b,off,ea,hw,hr⟩:=h hp;⟨b,off,ea,λhne o=>hS b o (λhb=>let⟨o',ho⟩:=hl b hb;ho<|hw hne o')<|hw hne o,DO.sx hf hl hst hS b (cs0:=cs) (λhne hb=>let⟨o,ho⟩:=hl b hb;ho<|hw hne o) off cs hd (λh=>h) hr⟩,h0⟩
 |.own _ _ _,_,hd,_=>by cases hd
 |.dat _ _,_,hd,_=>by cases hd
 |.pin _ _ _,_,hd,_=>by cases hd
 |.agg _,_,hd,_=>by cases hd
 |.tup _,_,hd,_=>by cases hd
 |.box _,_,hd,_=>by cases hd
 |.uni _ _ _,_,hd,_=>by cases hd
 |.same _,_,hd,_=>by cases hd
 |.val _ _,_,hd,_=>by cases hd
 |.cref _ _,_,hd,_=>by cases hd
 |.adr _ _,_,hd,_=>by cases hd
 |.gh _ _,_,hd,_=>by cases hd
 |.tok _,_,_,h=>h
 |.undef,_,hd,_=>by cases hd
def DO.sx(h:FrB bs w w')(j:∀g∈bs,∃o,¬St g o)(a:∀b o,St b o->b < w.heap.size)(i:∀k o,k∉bs->St k o->St' k o)(b:Nat){cs0:List V}(l:cs0≠[]->b∉bs):∀(off:Nat) (cs:List V),NS cs=true->(cs≠[]->cs0≠[])->DO w St b off cs->DO w' St' b off cs
 |_,[],_,_,_=>trivial
 |off,c::cs,n,d,⟨⟨m,u,p,q⟩,r⟩=>by
  have e:Oq c=true∧NS cs=true:=by simpa[NS]using n
  have f:=l<|d<|by simp
  exact⟨⟨i b off f m,u,(B9 (w:=w)<|h.block b (a b off m) f).trans p,Rd.sx h j a i c e.1 q⟩,DO.sx h j a i b l (off+1) cs e.2 (λ_=>d<|by simp) r⟩
end
mutual
def Ow.Wm:∀(c:V) {v:Value}{b:zN},deep c=true->Ow P w St c v b->∀g∈b,∃o,¬St g o
 |.tok _,_,_,_,h,g,hg=>by rw[h.1]at hg;cases hg
 |.int _ _,_,_,_,h,g,hg=>by rw[h.1]at hg;cases hg
 |.bool _,_,_,_,h,g,hg=>by rw[h.1]at hg;cases hg
 |.str _,_,_,_,h,g,hg=>by rw[h.1]at hg;cases hg
 |.own e n cs,v,b,hd,⟨hn,xs,bs',h1,h2,h3,h4,h5⟩,g,hg=>by
  rw[h3]at hg;rcases Al.1 hg with hg|hg
  ·exact⟨n * V1 P e,λhs=>absurd ((h4 g (by simpa using hg) _).1 hs)<|Ka _⟩
  ·exact Bj.Wm cs hd h2 g hg
 |.agg cs,_,_,hd,⟨us,e,h⟩,g,hg=>Bj.Wm cs hd h g hg
 |.dat _ _,_,_,hd,_,_,_=>by cases hd
 |.arg _ _,_,_,hd,_,_,_=>by cases hd
 |.pin _ _ _,_,_,hd,_,_,_=>by cases hd
 |.tup _,_,_,hd,_,_,_=>by cases hd
 |.box _,_,_,hd,_,_,_=>by cases hd
 |.uni _ _ _,_,_,hd,_,_,_=>by cases hd
 |.same _,_,_,hd,_,_,_=>by cases hd
 |.val _ _,_,_,hd,_,_,_=>by cases hd
 |.cref _ _,_,_,hd,_,_,_=>by cases hd
 |.adr _ _,_,_,hd,_,_,_=>by cases hd
 |.gh _ _,_,_,hd,_,_,_=>by cases hd
 |.undef,_,_,hd,_,_,_=>by cases hd
def Bj.Wm:∀(cs:List V) {us:List Value}{b:zN},F7 cs=true->Bj P w St cs us b->∀g∈b,∃o,¬St g o
 |[],_,_,_,h,g,a=>by rw[h.2]at a;cases a
 |c::cs,_,_,e,⟨u,f,b1,b2,k,e2,l,i,j⟩,g,a=>by
  have d:deep c=true∧F7 cs=true:=by simpa[F7]using e
  rw[e2]at a;rcases Al.1 a with a|a
  ·exact Ow.Wm c d.1 i g a
  ·exact Bj.Wm cs d.2 j g a
end
def wK{c v b}(a:Oq c=true)(h:Ow P w St c v b):b=[]∧Rd w St c v:=by cases c<;>first|exact h|cases a
def yi{c v}(a:Oq c=true)(h:Rd w St c v):Ow P w St c v []:=by cases c<;>first|exact⟨rfl,h⟩|cases a
mutual
def Ow.Xl(q:FrB bs w w')(s:∀g∈bs,∃o,¬St g o)(i:∀b o,St b o->b < w.heap.size)(t:∀k o,k∉bs->St k o->St' k o):∀(c:V) {v:Value}{b:zN},Sl c=true->Ow P w St c v b->(∀g∈b,w'.heap[g]? =w.heap[g]? ∧∀o,St' g o↔St g o)->Ow P w' St' c v b
 |.tok _,_,_,_,⟨f,d⟩,_=>⟨f,d⟩
 |.int _ _,_,_,_,⟨f,d⟩,_=>⟨f,d⟩
 |.bool _,_,_,_,⟨f,d⟩,_=>⟨f,d⟩
 |.str _,_,_,_,⟨f,d⟩,_=>⟨f,d⟩
 |.own e n cs,v,b,a,⟨y,xs,u,f,d,p,z,A⟩,m=>by
  refine⟨y,xs,u,?_,Bj.Xl q s i t cs (by rw[Sl]at a;exact a) d<|λg l=>m g<|by rw[p];exact Au _ l,p,λg l o=>by rw[(m g<|by rw[p,l];simp).2 o];exact z g l o,A⟩;refine⟨f.1,?_⟩;rcases f.2 with h|⟨g,cap,x,rfl,l,B,r⟩
  ·exact .inl h
  ·exact .inr ⟨g,cap,x,rfl,l,by rw[(m g<|by rw[p];simp[Value.ownBlock]).1];exact B,r⟩
 |.agg cs,_,_,a,⟨us,e,h⟩,m=>⟨us,e,Bj.Xl q s i t cs (by rw[Sl]at a;exact a) h m⟩
 |.arg n cs,_,_,a,h,_=>by
  have j:Oq (.arg n cs)=true:=by rw[Oq];rw[Sl]at a;exact a
  obtain⟨rfl,d⟩:=wK j h;exact yi j<|Rd.sx q s i t _ j d
 |.dat _ _,_,_,a,_,_=>by cases a
 |.pin _ _ _,_,_,a,_,_=>by cases a
 |.tup _,_,_,a,_,_=>by cases a
 |.box _,_,_,a,_,_=>by cases a
 |.uni _ _ _,_,_,a,_,_=>by cases a
 |.same _,_,_,a,_,_=>by cases a
 |.val _ _,_,_,a,_,_=>by cases a
 |.cref _ _,_,_,a,_,_=>by cases a
 |.adr _ _,_,_,a,_,_=>by cases a
 |.gh _ _,_,_,a,_,_=>by cases a
 |.fn _,_,_,a,_,_=>by cases a
 |.undef,_,_,a,_,_=>by cases a
def Bj.Xl(i:FrB bs w w')(j:∀g∈bs,∃o,¬St g o)(a:∀b o,St b o->b < w.heap.size)(l:∀k o,k∉bs->St k o->St' k o):∀(cs:List V) {us:List Value}{b:zN},Ee cs=true->Bj P w St cs us b->(∀g∈b,w'.heap[g]? =w.heap[g]? ∧∀o,St' g o↔St g o)->Bj P w' St' cs us b
 |[],_,_,_,h,_=>h
 |c::cs,_,_,m,⟨u,e,b1,b2,p,e2,q,r,s⟩,n=>by
  have d:Sl c=true∧Ee cs=true:=by rw[Ee,Ad]at m;exact m
  exact⟨u,e,b1,b2,p,e2,q,Ow.Xl i j a l c d.1 r<|λg f=>n g<|by rw[e2];exact Az _ f,Bj.Xl i j a l cs d.2 s<|λg f=>n g<|by rw[e2];exact Au _ f⟩
end
def ii(d:FrB bs w w')(e:∀g∈bs,∃o,¬St g o)(a:∀b o,St b o->b < w.heap.size)(f:∀k o,k∉bs->St k o->St' k o){c:V}{v:Value}{b:zN}(i:Yq c=true)(h:Ow P w St c v b)(j:∀g∈b,w'.heap[g]? =w.heap[g]? ∧∀o,St' g o↔St g o):Ow P w' St' c v b:=Ow.Xl d e a f c i h j
def eW(i:FrB bs w w')(j:∀g∈bs,∃o,¬St g o)(a:∀b o,St b o->b < w.heap.size)(l:∀k o,k∉bs->St k o->St' k o):∀(cs:List V) {us:List Value}{b:zN},cs.all Yq=true->Bj P w St cs us b->(∀g∈b,w'.heap[g]? =w.heap[g]? ∧∀o,St' g o↔St g o)->Bj P w' St' cs us b
 |[],_,_,_,h,_=>h
 |c::cs,_,_,d,⟨u,e,b1,b2,n,e2,p,q,r⟩,m=>by simp only[Bz,Ad]at d;exact⟨u,e,b1,b2,n,e2,p,ii i j a l d.1 q<|λg f=>m g<|by rw[e2];exact Az _ f,eW i j a l cs d.2 r<|λg f=>m g<|by rw[e2];exact Au _ f⟩
def Tx(j:FrB bs w w')(l:∀g∈bs,∃o,¬St g o)(a:∀b o,St b o->b < w.heap.size)(m:∀k o,k∉bs->St k o->St' k o){t:Nat->Value}{c:V}{v:Value}{b:zN}(d:MZ c=true)(h:Ci P w St t c v b)(i:∀g∈b,w'.heap[g]? =w.heap[g]? ∧∀o,St' g o↔St g o):Ci P w' St' t c v b:=by
 cases c with
 |undef=>exact h
 |agg cs=>have⟨us,e,h⟩:=h;exact⟨us,e,eW j l a m cs d h i⟩
 |box cs=>obtain⟨g,T,p,q,r,e2,y,rfl,z⟩:=h;exact⟨g,T,p,q,r,by rw[(i g<|by simp).1];exact e2,eW j l a m cs d y<|λx A=>i x<|by simp[A],rfl,λo B=>z o<|((i g<|by simp).2 o).1 B⟩
 |cref s off=>exact h
 |same s=>exact h
 |val s u=>exact h
 |own e n cs=>exact Ow.Xl j l a m (.own e n cs) (by rw[Sl];exact d) h i
 |arg n cs=>exact ii (P:=P) (c:=.arg n cs) j l a m (by rw[Yq,Sl];exact d) h i
 |int k n=>exact h
 |bool k=>exact h
 |str k=>exact h
 |dat n cs=>cases d
 |pin u n cs=>cases d
 |fn f=>cases d
 |tok u=>exact h
 |gh us cs=>exact Bj.Xl j l a m cs d h i
 |tup cs=>cases d
 |uni e n cs=>cases d
 |adr cs o=>cases d
end
section
variable {P:Program}{nt:Nat}{base:Bs}{bx:zN}{St St' St0:Nat->Nat->Prop}{B:Nat->zN}{hand:zN}{σ σ':PS}{a:Act}{w w' w0:World}{K:PS->Prop}
end
end
section
def gS:Nat:=900003
def gU:Nat:=900004
def yT:Operand->zN
 |.tmp t=>[t]
 |_=>[]
section
variable {P:Program}{nt:Nat}{base:Bs}{bx:zN}{St St' St0:Nat->Nat->Prop}{B:Nat->zN}{hand:zN}{σ σ':PS}{a:Act}{w w' w0:World}{K:PS->Prop}{o:Oper}
def nf(h:HSim P nt bx base St B hand σ a w){s g:Nat}{c':V}{bs:zN}(hg:g∈B s)(hf:FrB [g] w w')(hl:∃o,¬St g o)(hs:∀q,q≠s->MZ (σ q)=true)(hbx:C0 (σ s)=none)(hbx':C0 c'=none)(hrf:D4 c'=none)
  (hc:Ci P w' St (tm a) c' (tm a s) bs) (hn:bs.Nodup) (hsub:∀k∈bs,k∈B s∨k∈hand):HSim P nt bx base St (upd B s bs) [] (upd σ s c') a w':=by
 have hother:∀q,q≠s->∀k∈B q,k∉bs:=λq hq k hk hm=>by
  rcases hsub k hm with h1|h1
  ·exact h.apart q s hq k hk h1
  ·exact h.hapart q k hk h1
 have hrange:∀k∈bs,¬base k∧k < w.heap.size:=λk hk=>by
  rcases hsub k hk with h1|h1
  ·exact h.range s k h1
  ·exact h.hrange k h1
 exact
 {h with
  slot:=λq=>by
   by_cases e:q=s
   ·subst e;rw[upd_same,upd_same];exact hc
   ·rw[upd_ne _ _ e,upd_ne _ _ e];exact Tx hf (λk hk=>by simp only[AU]at hk;subst hk;exact hl) h.st (λ_ _ _ h=>h) (hs q e) (h.slot q)<|λk hk=>⟨hf.block k (h.range q k hk).2 (λhm=>by simp only[AU]at hm;subst hm;exact h.apart q s e k hk hg),λ_=>DL⟩
  boxes:=λq cs e=>by
   by_cases eq:q=s
   ·subst eq;rw[upd_same,hbx']at e;cases e
   ·rw[upd_ne _ _ eq]at e;exact h.boxes q cs e
  crefs:=λq b e=>by
   by_cases eq:q=s
   ·subst eq;rw[upd_same,hrf]at e;cases e
   ·rw[upd_ne _ _ eq]at e;have⟨cs,hcs⟩:=h.crefs q b e;exact⟨cs,by rw[upd_ne _ _ (λeb=>by subst eb;rw[hbx]at hcs;cases hcs)];exact hcs⟩
  nodup:=λq=>by
   by_cases e:q=s
   ·subst e;rw[upd_same];exact hn
   ·rw[upd_ne _ _ e];exact h.nodup q
  apart:=λq r hqr k hk hk'=>by
   by_cases e:q=s
   ·subst e;rw[upd_same]at hk;rw[upd_ne _ _ (Ne.symm hqr)]at hk';exact hother r (Ne.symm hqr) k hk' hk
   ·rw[upd_ne _ _ e]at hk;by_cases e':r=s
    ·subst e';rw[upd_same]at hk';exact hother q e k hk hk'
    ·rw[upd_ne _ _ e']at hk';exact h.apart q r hqr k hk hk'
  hnodup:=AR
  hapart:=λ_ _ _=>by simp
  range:=λq k hk=>by
   by_cases e:q=s
   ·subst e;rw[upd_same]at hk;exact⟨(hrange k hk).1,BA (hrange k hk).2 hf.size⟩
   ·rw[upd_ne _ _ e]at hk;exact⟨(h.range q k hk).1,BA (h.range q k hk).2 hf.size⟩
  hrange:=by simp
  st:=λb o hs=>BA (h.st b o hs) hf.size
  gl:=h.gl.of (λb hb o=>hb o) (λb o hb=>B9 (hf.block b (h.st b o (hb o)) λhm=>by simp only[AU]at hm;subst hm;exact hl.elim λo' ho=>ho (hb o')))}
def aD:∀{cs:List V},F7 cs=true↔∀c∈cs,deep c=true
 |[]=>by simp[F7]
 |c::cs=>by rw[F7,Ad,aD (cs:=cs)];simp
def rP{e n off g m cs new vs b1 bs}(h:Ow P w St (.own e n cs) (.slice (some ⟨g,0,none⟩) n m) b1)(hn:b1.Nodup)(hbn:bs.Nodup)(F:∀k∈bs,k∉b1)
  (hd:Ee cs=true) (hd':Ee new=true) (H:∀b o,St b o->b < w.heap.size) (z:Bj P w St new vs bs) (hl:off+new.length<=cs.length):
  g∈b1∧(∃o,¬St g o)∧∃f:Array Value,w.heap[g]? =some (.cells f e (0,0))∧off+vs.length<=f.size∧∃b2,Ow P (w.setRow g (f.toList.take off++vs++f.toList.drop (off+vs.length)).toArray) St (.own e n<|Qg cs off new) (.slice (some ⟨g,0,none⟩) n m) b2∧b2.Nodup∧∀k∈b2,k∈b1∨k∈bs:=by
 have⟨hn1,xs,I,R,J,hb1,L,h0⟩:=h;have S:b1=g::I:=by rw[hb1];rfl
 subst S;have⟨C,hr⟩:=R;rcases hr with⟨hr,_⟩|⟨g',cap,f,eg,hg0,hh,q1,q2,q3,q4⟩
 ·cases hr
 cases eg;have lx:xs.length=cs.length:=J.length;have lv:vs.length=new.length:=z.length
 have hN:n * V1 P e<=f.size:=by
  have:(f.toList.take<|n * V1 P e).length=n * V1 P e:=by rw[q4];exact C
  rw[Av,BX]at this;omega
 have hle:off+vs.length<=n * V1 P e:=by rw[<-C,lx,lv];exact hl
 have e0:=jP cs off new.length;rw[e0]at J;have⟨j,us2,T,c2,eu,eb,r1,r2⟩:=Bj.app J;have⟨U,p,c3,W,X,Y,r3,r4⟩:=Bj.app r2;have l1:j.length=off:=by rw[r1.length,Av,Ce (by omega)]
 have l3:U.length=new.length:=by rw[r3.length,Av,Be,Ce (by omega)]
 have D:=BF.1 hn
 have q:∀k,k∈T∨k∈W->k∈I:=by
  intro k d;rw[eb,Y];simp only[Al];rcases d with d|d
  ·exact .inl d
  ·exact .inr<|.inr d
 have i:∀(A:Array Value) (k:Nat),k≠g->(w.setRow g A).heap[k]? =w.heap[k]?:=λA k d=>KD w g k _ d
 have r:=BG (a:=g) (l:=I);have s:=Oa.1 hd;have M:∃o,¬St g o:=⟨n * V1 P e,λhs=>absurd ((L g rfl _).1 hs)<|Ka _⟩;have N:∀A:Array Value,FrB [g] w (w.setRow g A):=λA=>⟨rfl,rfl,rfl,by simp[World.setRow],λk _ d=>KD w g k _<|by simpa using d⟩
 have O:∀k∈[g],∃o,¬St k o:=λk d=>by simp only[AU]at d;subst d;exact M
 refine⟨r,⟨n * V1 P e,λhs=>absurd ((L g rfl _).1 hs)<|Ka _⟩,f,hh,by omega,?_⟩;have Z:(T++(c3++W)).Nodup:=by rw[<-Y,<-eb];exact D.2
 have t:=Ax.1 Z;have hnd5:=Ax.1 t.2.1;have hgb:∀k∈bs,k≠g:=λk d e=>F k d<|e ▸ r
 have u:∀k,k∈T∨k∈W->k≠g:=λk d e=>D.1<|e ▸ q k d
 generalize hA:(f.toList.take off++vs++f.toList.drop (off+vs.length))=A;have m1:=Bj.Xl (N A.toArray) O H (λ_ _ _ h=>h) (cs.take off) (Oa.2 λc hc=>s c<|C5 hc) r1<|λk d=>⟨i _ k<|u k<|.inl d,λ_=>DL⟩
 have m4:=Bj.Xl (N A.toArray) O H (λ_ _ _ h=>h) (cs.drop<|off+new.length) (Oa.2 λc hc=>s c<|Fx hc) r4<|λk d=>⟨i _ k<|u k<|.inr d,λ_=>DL⟩
 have mv:=Bj.Xl (N A.toArray) O H (λ_ _ _ h=>h) new hd' z<|λk d=>⟨i _ k<|hgb k d,λ_=>DL⟩
 have hx':A.take (n * V1 P e)=j++(vs++p):=by
  have e1:j=f.toList.take off:=by
   have h2:xs.take off=j:=by rw[eu,<-l1,List.take_left]
   rw[<-h2,<-q4,List.take_take,Ce (by omega)]
  have e4:p=(f.toList.drop<|off+vs.length).take (n * V1 P e - (off+vs.length)):=by
   have h2:xs.drop (off+vs.length)=p:=by rw[eu,X,<-Bg,C9 (by simp[l1,l3,lv]),Cl (by simp[l1,l3,lv]),Bn]
   rw[<-h2,<-q4,OA]
  rw[<-hA,<-e1,Bg,MC,DJ (by omega),MC,DJ (by omega),e4];congr 3;omega
 refine⟨g::(T++(bs++W)),⟨hn1,j++(vs++p),T++(bs++W),⟨?_,.inr ⟨g,m,A.toArray,rfl,hg0,setRow_heap w g f _ e _ hh,q1,q2,?_,by simpa using hx'⟩⟩,?_,rfl,L,λhz=>?_⟩,?_,?_⟩
 ·have:xs.length=j.length+(U.length+p.length):=by rw[eu,X];simp
  simp only[Ak];omega
 ·rw[<-q3,<-hA];simp;omega
 ·unfold Qg;rw[Bg];exact m1.join<|mv.join m4
 ·have:=h0 hz;subst this;simp only[Bw,Nat.le_zero_eq,Nat.add_eq_zero_iff]at hl;have:=Bf hl.2;subst this;simp[Qg]
 ·refine BF.2 ⟨?_,Ax.2 ⟨t.1,Ax.2 ⟨hbn,hnd5.2.1,λx hx y Q e=>F x hx<|AV _<|e ▸ q y (.inr Q)⟩,?_⟩⟩
  ·intro v;rcases Al.1 v with v|v
   ·exact u g (.inl v) rfl
   ·rcases Al.1 v with v|v
    ·exact hgb g v rfl
    ·exact u g (.inr v) rfl
  ·intro x hx y Q e;rcases Al.1 Q with Q|Q
   ·exact F y Q<|AV _<|e ▸ q x (.inl hx)
   ·exact t.2.2 x hx y (Au _ Q) e
 ·intro k d;rcases AA.1 d with rfl|d
  ·exact .inl r
  ·rcases Al.1 d with d|d
   ·exact .inl<|AV _<|q k<|.inl d
   ·rcases Al.1 d with d|d
    ·exact .inr d
    ·exact .inl<|AV _<|q k<|.inr d
def YM{D σ s}(b:D.contains s=false)(c:D4 (σ s)=none):kill D σ s=σ s:=by unfold kill;rw[As (by rw[b];simp),c]
def rK{tb}(r:Lr P tb){t:TypeId}{dd:TyD}{x:Operand}{d q g off n m:Nat}{e:TypeId}{cs:List V}(s:o.op=.load t x)(S:tb t=some dd)(y:NQ σ x=.tok (.pointer<|some ⟨g,off,none⟩))(T:σ q=.gh [.slice (some ⟨g,0,none⟩) n m] [.own e n cs])(J:off+dd.size<=cs.length)(U:0 < dd.size)
  (W:o.dst=some d) (X:d < nt) (Y:d∉bx) (Z:K (upd σ d<|getCells dd cs off)):WY P nt bx base St0 w0 o σ K:=by
 rintro a w Q ⟨St,B,h,hb,z,i⟩;have C:=ac h y;have L:=h.slot q;rw[T]at L;have⟨u,us',b1,b2,M,eb,_,D,N⟩:=L;simp only[CQ]at M;obtain⟨rfl,-⟩:=M;have j:=Ow.rd (.own e n cs) (show Ow P w St (.own e n cs) _ b1 from D) rfl;simp only[Rd]at j;have⟨hn,A,c,O,hc,k,h0⟩:=j;simp only[Value.slice.injEq]at O;obtain⟨rfl,-⟩:=O
 have F:0 < n:=by
  rcases BD n with i|i
  ·have:=h0 i;subst this;simp only[Bw]at J;omega
  ·exact i
 have⟨b,R,l,H⟩:=k F;simp only[Ay,Addr.mk.injEq]at l;obtain⟨rfl,rfl,-⟩:=l;have p:=H.drop off;rw[Cw]at p;have⟨us,h3,h4⟩:=p.list;have⟨v,I,f⟩:=jC (r _ _ S) h3 h4 J<|.inl U;have H:(execOp a.eval o).run P w=.ok (.value v) w:=by simp[execOp,s,C,I]
 refine Nv H ⟨_,Z,St,upd B d [],?_,hb,z,i⟩;rw[W];exact h.put X Y f.slot AR (by simp) f.DM.1 f.Sk
def Aer(σ:PS)(y:Operand)(vc:List V):Prop:=((Cz σ y).isArg=true∧vc=Ij (Cz σ y))∨(y=.const (.slice none 0 0)∧∃e,vc=[.own e 0 []])
def u3{tb:Tb}(N:Lr P tb){t:TypeId}{dd:TyD}{x y:Operand}{e:TypeId}{n off g m:Nat}{cs:List V}(O:o.op=.store t x y)(ht:tb t=some dd)(R:NQ σ x=.tok (.pointer<|some ⟨g,off,none⟩))
  (hg:σ gS=.gh [.slice (some ⟨g,0,none⟩) n m] [.own e n cs]) (hd:Ee cs=true) {vc:List V}(l:Aer σ y vc) (S:Ee vc=true) (hn:vc.length=dd.size) (hl:off+dd.size<=cs.length) (ho:o.dst=none)
  (D:zN) (T:((yT y).contains gS || D.contains gS)=false) (i:∀q,q≠gS->D.contains q=true∨MZ (CZ σ y q)=true)
  (d:K (upd (kill D<|CZ σ y) gS<|.gh [.slice (some ⟨g,0,none⟩) n m] [.own e n (Qg cs off vc)])):WY P nt bx base St0 w0 o σ K:=by
 have U:(Cz σ y).isVal=true:=by
  rcases l with⟨l,-⟩|⟨rfl,-⟩
  ·exact MR l
  ·rfl
 rintro a w Q ⟨St,B,h,hb,W,hz⟩;have X:=ac h R;rw[Cp]at T;obtain⟨bs,B1,hw,h2,z⟩:=WB h y U;rw[Bn]at h2 z
 have Y:∀q,(yT y).contains q=false->CZ σ y q=σ q:=by
  intro q J;cases y with
  |tmp p=>simp only[yT,List.contains_cons,List.contains_nil,Bool.or_false,BC,ne_eq]at J;simp only[CZ];rw[upd_ne _ _ J]
  |_=>rfl
 obtain⟨B2,r,_,Z⟩:=XS D h2
 have hsub3:∀q,∀k∈B2 q,k∈B1 q:=λq k d=>by
  rcases Z q with e|e
  ·rw[e]at d;cases d
  ·rw[e]at d;exact d
 have C:CZ σ y gS=.gh [.slice (some ⟨g,0,none⟩) n m] [.own e n cs]:=by rw[Y gS T.1];exact hg
 have F:kill D (CZ σ y) gS=.gh [.slice (some ⟨g,0,none⟩) n m] [.own e n cs]:=by rw[YM T.2 (by rw[C];rfl)];exact C
 have hG:=r.slot gS;rw[F]at hG;obtain⟨u,us',b1,b2,eu,v,_,hOw,H⟩:=hG;simp only[CQ]at eu;obtain⟨rfl,rfl⟩:=eu;have hb2:b2=[]:=H.2;subst hb2;rw[AN]at v;have hnd:b1.Nodup:=by have:=r.nodup gS;rwa [v]at this
 have b:Bj P w St vc (a.eval y).cells.toList bs:=by
  rcases l with⟨l,rfl⟩|⟨rfl,e',rfl⟩
  ·exact hw.cells l
  ·have hb0:bs=[]:=hw.1;subst hb0;exact⟨.slice none 0 0,[],[],[],rfl,rfl,rfl,nJ e',rfl,rfl⟩
 have lv:(a.eval y).cells.toList.length=dd.size:=by rw[b.length,hn]
 obtain⟨k1,k2,j,k3,k4,bn,k5,k6,k7⟩:=rP hOw hnd z (λk d hm=>r.hapart gS k (by rw[v];exact hm) d) hd S r.st b (by rw[hn];exact hl);have f:=run_storeCells_at (P:=P) g off e (a.eval y).cells.toList 0 j w k3 (by rw[Di];exact k4)<|(Bj.rdL _ b).oneCell;simp only[Di]at f;have I:=N _ _ ht;generalize hA:(j.toList.take off++(a.eval y).cells.toList++j.toList.drop (off+(a.eval y).cells.toList.length)).toArray=A at f k5
 have hr:(execOp a.eval o).run P w=.ok .skip (w.setRow g A):=by
  have hsz:(a.eval y).cells.size=dd.size:=by rw[<-lv,BX]
  simp[execOp,O,X,Instr.storeAt,Instr.sureAddr,storeVar,I.sizeOf,hsz,f]
 have c:(w.setRow g A).heap.size=w.heap.size:=by simp[World.setRow]
 have hf:FrB [g] w (w.setRow g A):=⟨rfl,rfl,rfl,by rw[c];exact Bb _,λk _ d=>KD w g k _<|by simpa using d⟩;have hgb:¬base g:=(r.range gS g<|by rw[v];exact k1).1;refine ww hr ⟨_,d,St,upd B2 gS bn,?_,?_,W,by rw[c];exact hz⟩
 ·rw[ho];refine nf r (s:=gS) (g:=g) (by rw[v];exact k1) hf k2 (λq J=>?_) (by rw[F];rfl) rfl rfl ⟨_,[],bn,[],rfl,by simp,rfl,k5,rfl,rfl⟩ k6 (λk d=>by rw[v];exact k7 k d);rcases UB D (CZ σ y) q with L|L
  ·rw[L];rfl
  ·rw[L];cases hc:D.contains q with
   |true=>rw[<-L,Wb hc];rfl
   |false=>
    rcases i q J with M|M
    ·rw[hc]at M;cases M
    ·exact M
 ·exact hb.trans ⟨rfl,rfl,rfl,by rw[c];exact Bb _,λk d=>KD w g k _<|λe=>hgb<|e ▸ d⟩
end
end
end Go.Proofs.YtpnoalhfjnjeaaaGreatDoor
