/- A machine on data, part 2a: code and its rules. Over no program; no conditions. -/
import Derived.Test.YtpnoalhfjnjeaaaGreatDoorKa
open Go.RowKit
set_option linter.all false
namespace Go.Proofs.YtpnoalhfjnjeaaaGreatDoor
section
def Rr(w:World)(b:Nat->Nat->Prop):List V->List Value->Prop
 |[],us=>us=[]
 |c::cs,us=>∃u a,us=u::a∧iw w b c u∧Rr w b cs a
def Rr.mono{w w' St St'}(f:∀b o,St b o->St' b o)(g:Ext St w w'):∀{a:List V}{vs:List Value},Rr w St a vs->Rr w' St' a vs
 |[],_,h=>h
 |c::a,_,⟨u,d,e,i,j⟩=>⟨u,d,e,i.mono f g,Rr.mono f g j⟩
mutual
def flt:V->Bool
 |.int _ _=>true
 |.bool _=>true
 |.agg cs=>aO cs
 |.tup cs=>aO cs
 |_=>false
def aO:List V->Bool
 |[]=>true
 |c::cs=>flt c&&aO cs
end
section
variable {P:Program}{w w':World}{St St':Nat->Nat->Prop}
mutual
def nN:∀(c:V) {v:Value}{bs:zN},flt c=true->Ow P w St c v bs->bs=[]∧Ow P w' St' c v []
 |.int _ _,_,_,_,h=>⟨h.1,rfl,h.2⟩
 |.bool _,_,_,_,h=>⟨h.1,rfl,h.2⟩
 |.agg cs,_,_,a,⟨us,e,h⟩=>⟨(XZ cs a h).1,us,e,(XZ cs a h).2⟩
 |.tup cs,_,_,a,⟨us,e,h⟩=>⟨(jM cs a h).1,us,e,(jM cs a h).2⟩
 |.str _,_,_,a,_=>by cases a
 |.dat _ _,_,_,a,_=>by cases a
 |.arg _ _,_,_,a,_=>by cases a
 |.pin _ _ _,_,_,a,_=>by cases a
 |.own _ _ _,_,_,a,_=>by cases a
 |.fn _,_,_,a,_=>by cases a
 |.tok _,_,_,a,_=>by cases a
 |.box _,_,_,a,_=>by cases a
 |.cref _ _,_,_,a,_=>by cases a
 |.adr _ _,_,_,a,_=>by cases a
 |.undef,_,_,a,_=>by cases a
 |.uni _ _ _,_,_,a,_=>by cases a
 |.same _,_,_,a,_=>by cases a
 |.gh _ _,_,_,a,_=>by cases a
 |.val _ _,_,_,a,_=>by cases a
def XZ:∀(cs:List V) {us:List Value}{bs:zN},aO cs=true->Bj P w St cs us bs->bs=[]∧Bj P w' St' cs us []
 |[],_,_,_,h=>⟨h.2,h.1,rfl⟩
 |c::cs,_,_,d,⟨u,b,b1,b2,e,e2,f,g,i⟩=>by
  have a:flt c=true∧aO cs=true:=by simpa[aO]using d
  have⟨j,k⟩:=nN c a.1 g;have⟨l,m⟩:=XZ cs a.2 i;exact⟨by rw[e2,j,l];rfl,u,b,[],[],e,rfl,f,k,m⟩
def jM:∀(cs:List V) {us:List Value}{bs:zN},aO cs=true->Ml P w St cs us bs->bs=[]∧Ml P w' St' cs us []
 |[],_,_,_,h=>⟨h.2,h.1,rfl⟩
 |c::cs,_,_,d,⟨u,b,b1,b2,e,e2,f,g⟩=>by
  have a:flt c=true∧aO cs=true:=by simpa[aO]using d
  have⟨i,j⟩:=nN c a.1 f;have⟨k,l⟩:=jM cs a.2 g;exact⟨by rw[e2,i,k];rfl,u,b,[],[],e,rfl,j,l⟩
end
end
def Ret(P:Program)(w:World)(a:Nat->Nat->Prop)(r:V)(e:Ending)(w':World):Prop:=
 ∃v bs St',e=.returned v∧Below w.heap.size w w'∧(∀b o,b < w.heap.size->(St' b o↔a b o))∧(∀b o,St' b o->b < w'.heap.size)∧Ow P w' St' r v bs∧bs.Nodup∧∀g∈bs,w.heap.size<=g∧g < w'.heap.size
def J5:V->Bool
 |.int .. |.bool .. |.str .. |.dat .. |.arg .. |.fn .. |.tok .. =>true
 |_=>false
def O7:V->Bool
 |.agg cs=>cs.all J5
 |c=>J5 c
def X2{P w St}:∀{cs:List V}{us:List Value}{bs:zN},cs.all J5=true->Bj P w St cs us bs->bs=[]
 |[],_,_,_,h=>h.2
 |c::cs,_,_,a,⟨u,b,b1,b2,g,e2,i,d,e⟩=>by
  simp only[Bz,Ad]at a;have f:b1=[]:=by cases c<;>first|exact d.1|(exfalso;exact absurd a.1<|by simp[J5])
  rw[e2,f,X2 a.2 e];rfl
def AeO(P:Program)(w:World)(c:Nat->Nat->Prop)(g:Nat)(cs':List V)(r:V)(e:Ending)(w':World):Prop:=
 ∃v bs St' T,∃a:Array Value,e=.returned v∧BelowK (λb=>b < w.heap.size∧b≠g) w w'∧(∀b o,b < w.heap.size->(St' b o↔c b o))∧(∀b o,St' b o->b < w'.heap.size)∧
  w'.heap[g]? =some (.cells a T (0,0))∧Bj P w' St' cs' a.toList []∧Ow P w' St' r v bs∧bs.Nodup∧∀k∈bs,w.heap.size<=k∧k < w'.heap.size
def RS(P:Program)(f:FuncId):Prop:=∃fn,P.funcs[f]? =some fn∧fn.body.isNone=false∧(fn.name== "runtime.NumGoroutine")=false
def Mp(P:Program)(f:FuncId)(a:List V)(r:V):Prop:=
 RS P f∧∀w c (vs:List Value),(∀b o,c b o->b < w.heap.size)->Glb w c->Rr w c a vs->Calls P f vs.toArray w (Ret P w c r)
def Kg(P:Program)(f:FuncId)(cs c cs':List V)(r:V):Prop:=
 RS P f∧∀w a (g:Nat) T (d:Array Value) (vs:List Value),(∀b o,a b o->b < w.heap.size)->Glb w a->w.heap[g]? =some (.cells d T (0,0))->Bj P w a cs d.toList []->(∀o,¬a g o)->Rr w a c vs->
  Calls P f (Value.pointer (some ⟨g,0,none⟩)::vs).toArray w (AeO P w a g cs' r)
def Aiw(P:Program)(w:World)(c:Nat->Nat->Prop)(g:Nat)(bs0:zN)(cs':List V)(e:Ending)(w':World):Prop:=
 ∃v bs St' T,∃a:Array Value,e=.returned v∧BelowK (λb=>b < w.heap.size∧b∉g::bs0) w w'∧(∀b o,b < w.heap.size->b∉bs0->(St' b o↔c b o))∧(∀b o,St' b o->b < w'.heap.size)∧
  w'.heap[g]? =some (.cells a T (0,0))∧Bj P w' St' cs' a.toList bs∧Ow P w' St' (.tup []) v []∧(g::bs).Nodup∧∀k∈bs,(k∈bs0∨w.heap.size<=k)∧k < w'.heap.size
def AeM(P:Program)(f:FuncId)(cs c cs':List V):Prop:=
 RS P f∧∀w a (g:Nat) T (d:Array Value) (bs0:zN) (vs:List Value),(∀b o,a b o->b < w.heap.size)->Glb w a->w.heap[g]? =some (.cells d T (0,0))->Bj P w a cs d.toList bs0->(g::bs0).Nodup->(∀k∈bs0,k < w.heap.size)->(∀o,¬a g o)->Rr w (λb o=>a b o∧b∉bs0) c vs->
  Calls P f (Value.pointer (some ⟨g,0,none⟩)::vs).toArray w (Aiw P w a g bs0 cs')
def AeN(P:Program)(w:World)(c:Nat->Nat->Prop)(us:List Value)(bs0:zN)(a:List V)(r:V)(e:Ending)(w':World):Prop:=
 ∃v bs St',e=.returned v∧BelowK (λb=>b < w.heap.size∧b∉bs0) w w'∧(∀b o,b < w.heap.size->b∉bs0->(St' b o↔c b o))∧(∀b o,St' b o->b < w'.heap.size)∧
  Bj P w' St' a us bs∧Ow P w' St' r v []∧bs.Nodup∧∀k∈bs,(k∈bs0∨w.heap.size<=k)∧k < w'.heap.size
def UP(P:Program)(f:FuncId)(g os c e:List V)(r:V):Prop:=
 RS P f∧∀w a (us:List Value) (bs0:zN) (d vs:List Value),(∀b o,a b o->b < w.heap.size)->Glb w a->Bj P w a os us bs0->bs0.Nodup->(∀k∈bs0,k < w.heap.size)->Rr w (λb o=>a b o∧b∉bs0) g d->Rr w (λb o=>a b o∧b∉bs0) c vs->
  Calls P f (d++(us++vs)).toArray w (AeN P w a us bs0 e r)
def NewAt(P:Program)(f:FuncId)(a cs:List V):Prop:=
 RS P f∧∀w d (vs:List Value),(∀b o,d b o->b < w.heap.size)->Glb w d->Rr w d a vs->Calls P f vs.toArray w λe w'=>
  ∃g T St',∃c:Array Value,e=.returned (.pointer<|some ⟨g,0,none⟩)∧Below w.heap.size w w'∧(∀b o,b < w.heap.size->(St' b o↔d b o))∧(∀b o,St' b o->b < w'.heap.size)∧
   w'.heap[g]? =some (.cells c T (0,0))∧Bj P w' St' cs c.toList []∧(∀o,¬St' g o)∧w.heap.size<=g∧g < w'.heap.size
section
variable {P:Program}{nt:Nat}{base:Bs}{bx:zN}{St St' St0:Nat->Nat->Prop}{B:Nat->zN}{hand:zN}{σ σ':PS}{a:Act}{w w' w0:World}{K:PS->Prop}{Q:Exit->Act->World->Prop}{o:Oper}
def Y8(h:HSim P nt bx base St B hand σ a w):∀(xs:List Operand),xs.all (λx=>(Cz σ x).isArg)=true->Rr w St (xs.map λx=>er<|Cz σ x) (xs.map a.eval)
 |[],_=>rfl
 |x::xs,c=>by simp only[Bz,Ad]at c;have⟨b,d⟩:=N9 h x;exact⟨a.eval x,xs.map a.eval,rfl,((d.ow<|MR c.1).rda c.1).erase,Y8 h xs c.2⟩
def erK:V->V
 |.arg n cs=>.arg n cs
 |c=>er c
def da(h:HSim P nt bx base St B hand σ a w):∀(xs:List Operand),xs.all (λx=>(Cz σ x).isArg)=true->Rr w St (xs.map λx=>erK<|Cz σ x) (xs.map a.eval)
 |[],_=>rfl
 |x::xs,d=>by
  simp only[Bz,Ad]at d;have⟨b,f⟩:=N9 h x;have e:=(f.ow<|MR d.1).rda d.1;have g:iw w St (erK<|Cz σ x) (a.eval x):=by generalize Cz σ x=c at e;cases c<;>first|exact e|exact e.erase
  exact⟨a.eval x,xs.map a.eval,rfl,g,da h xs d.2⟩
def kt(h:HSim P nt bx base St B hand σ a w):∀(xs:List Operand),xs.all (λx=>(Cz σ x).isArg)=true->Rr w St (xs.map λx=>Cz σ x) (xs.map a.eval)
 |[],_=>rfl
 |x::xs,c=>by simp only[Bz,Ad]at c;have⟨b,d⟩:=N9 h x;exact⟨a.eval x,xs.map a.eval,rfl,(d.ow<|MR c.1).rda c.1,kt h xs c.2⟩
def km(P:Program)(σ:PS)(f:FuncId)(b:List Operand)(r:V):Prop:=Mp P f (b.map λx=>er<|Cz σ x) r∨Mp P f (b.map λx=>erK<|Cz σ x) r∨Mp P f (b.map λx=>Cz σ x) r
def VH(σ:PS)(d:Option Tmp)(r:V):PS:=match d with
 |some d=>upd σ d r
 |none=>σ
def lU{f cal args ts r}(hcv:Cz σ cal=.fn f)(hop:o.op=.call {callee:=.value cal,args:=args,argTypes:=ts})(hargs:args.toList.all (λx=>(Cz σ x).isArg)=true)
  (hs:km P σ f args.toList r) (hd:∀d,o.dst=some d->d < nt∧d∉bx) (hk:K (VH σ o.dst r)):WY P nt bx base St0 w0 o σ K:=by
 rintro a w Q ⟨St,B,h,hb,hst,hz⟩;have hs':RS P f∧Calls P f (args.toList.map a.eval).toArray w (Ret P w St r):=hs.elim (λh1=>⟨h1.1,h1.2 w St _ h.st h.gl<|Y8 h _ hargs⟩)<|λh0=>h0.elim (λh1=>⟨h1.1,h1.2 w St _ h.st h.gl<|da h _ hargs⟩)<|λh1=>⟨h1.1,h1.2 w St _ h.st h.gl<|kt h _ hargs⟩
 have⟨⟨fn,hf,hbody,hname⟩,hcall⟩:=hs'
 have hr:(execOp a.eval o).run P w=.ok (.enter f (args.toList.map a.eval).toArray) w:=by
  have e1:(args.toList.map a.eval).toArray=args.map a.eval:=by rw[<-Jp,Ea]
  have e2:a.eval cal=.func (.func f) #[] #[]:=by have⟨b,hs⟩:=N9 h cal;rw[hcv]at hs;exact hs.2
  rw[e1];simp only[execOp,hop,resolve,e2,Deferred.ofValue,Bp,BI,A4,invoke,callFunc,run_program,Array.append_empty,N0,hf,hbody,hname];simp
 unfold Oper.wp;rw[hr,Fk];refine hcall.mono ?_;rintro e w1 ⟨v,bs,St1,rfl,h1,h2,h3,h4,h5,h6⟩;refine⟨_,hk,?_⟩;have g1:=h.grow (w':=w1) (St':=St1) h1 h2 h3;have g2:=g1.fresh (bs:=bs) h5 (λg hg=>⟨λh'=>by have:=hz g h';have:=(h6 g hg).1;omega,(h6 g hg).2⟩) (λs g hg hm=>by have:=(h.range s g hg).2;have:=(h6 g hm).1;omega) (by simp);have hst1:∀b o',base b->(St1 b o'↔St0 b o'):=λb o' hlt=>(h2 b o'<|hz b hlt).trans<|hst b o' hlt
 cases hdst:o.dst with
 |none=>exact⟨St1,B,g2.less AR (by simp),hb.below h1 hz,hst1,UC hz h1.size⟩
 |some d=>have⟨hd1,hd2⟩:=hd d hdst;exact⟨St1,upd B d bs,g2.put hd1 hd2 h4.slot h5 (by simp) h4.DM.1 h4.Sk,hb.below h1 hz,hst1,UC hz h1.size⟩
def HSim.AiE(h:HSim P nt bx base St B hand σ a w){s g:Nat}{cs cs':List V}(hs:σ s=.box cs)(hB:B s=[g])(hng:∀o,¬St g o)(hb:BelowK (λb=>b < w.heap.size∧b≠g) w w')
  (hst:∀b o,b < w.heap.size->(St' b o↔St b o)) (hst':∀b o,St' b o->b < w'.heap.size) (hc:Ci P w' St' (tm a) (.box cs') (tm a s) [g]):HSim P nt bx base St' B hand (upd σ s<|.box cs') a w':=
 have hbox:∀b,(∃cs,C0 (σ b)=some cs)->∃cs'',C0 (upd σ s (.box cs') b)=some cs'':=λb ⟨cs,e⟩=>by
  by_cases eb:b=s
  ·subst eb;exact⟨cs',by rw[upd_same];rfl⟩
  ·exact⟨cs,by rw[upd_ne _ _ eb];exact e⟩
 {h with
  slot:=λq=>by
   by_cases e:q=s
   ·subst e;rw[upd_same,hB];exact hc
   ·rw[upd_ne _ _ e];refine(h.slot q).mono (λb o hs=>(hst b o<|h.st b o hs).2 hs) (λb o hs=>?_) (λk hk=>⟨hb.block k ⟨(h.range q k hk).2,λek=>?_⟩,λo=>hst k o (h.range q k hk).2⟩)<|λ_ _=>rfl
    ·exact B9<|hb.block b ⟨h.st b o hs,λeb=>hng o<|eb ▸ hs⟩
    ·subst ek;exact h.apart q s e k hk (by rw[hB];simp)
  boxes:=λq cs e=>by
   by_cases eq:q=s
   ·subst eq;exact h.boxes _ _ (by rw[hs];rfl)
   ·rw[upd_ne _ _ eq]at e;exact h.boxes q cs e
  crefs:=λq b e=>by
   by_cases eq:q=s
   ·subst eq;rw[upd_same]at e;cases e
   ·rw[upd_ne _ _ eq]at e;exact hbox b<|h.crefs q b e
  range:=λq k hk=>⟨(h.range q k hk).1,BA (h.range q k hk).2 hb.size⟩
  hrange:=λk hk=>⟨(h.hrange k hk).1,BA (h.hrange k hk).2 hb.size⟩
  st:=hst'
  gl:=h.gl.of (λb hg o=>(hst b o (h.st b o (hg o))).2 (hg o)) (λb o hg=>B9 (hb.block b ⟨h.st b o (hg o),λeb=>hng o (eb ▸ hg o)⟩))}
def Zq(h:HSim P nt bx base St B hand σ a w){f:FuncId}{c:Operand}(d:Cz σ c=.fn f):a.eval c=.func (.func f) #[] #[]:=by have⟨b,e⟩:=N9 h c;rw[d]at e;exact e.2
def Vo{f cal args ts}(d:o.op=.call {callee:=.value cal,args:=args,argTypes:=ts})(e2:a.eval cal=.func (.func f) #[] #[])(e:RS P f):(execOp a.eval o).run P w=.ok (.enter f (args.toList.map a.eval).toArray) w:=by
 have⟨i,g,b,c⟩:=e;have h:(args.toList.map a.eval).toArray=args.map a.eval:=by rw[<-Jp,Ea]
 rw[h];simp only[execOp,d,resolve,e2,Deferred.ofValue,Bp,BI,A4,invoke,callFunc,run_program,Array.append_empty,N0,g,b,c];simp
def rG{f cal args ts x xs s cs cs' r}(D:Cz σ cal=.fn f)(F:o.op=.call {callee:=.value cal,args:=args,argTypes:=ts})(he:args.toList=x::xs)(H:NQ σ x=.cref s 0)(I:σ s=.box cs)(J:cs.all J5=true)
  (m:xs.all (λx=>(Cz σ x).isArg)=true) (hp:Kg P f cs (xs.map λx=>er<|Cz σ x) cs' r) (hd:∀d,o.dst=some d->d < nt∧d∉bx) (c:K (VH (upd σ s<|.box cs') o.dst r)):WY P nt bx base St0 w0 o σ K:=by
 rintro a w Q ⟨St,B,h,hb,L,p⟩;have⟨g,T,bs',M,q1,N,q3,q4,q5,O⟩:=TA h H (cs:=cs) (by rw[I];rfl);have t:=X2 J q4;subst t;have n:=hp.2 w St g T M (xs.map a.eval) h.st h.gl q3 q4 O<|Y8 h _ m;have hr:=Vo (P:=P) (a:=a) (w:=w) F (Zq h D) hp.1;rw[he,AH,q1]at hr;unfold Oper.wp;rw[hr,Fk];refine n.mono ?_;rintro e w1 ⟨v,bs,St1,T1,u,rfl,i,R,h3,h4,h5,S,h7,U⟩;refine⟨_,c,?_⟩;have y:=h.range s g (by rw[q5];simp);have W:tm a s=.pointer (some ⟨g,0,none⟩):=by have:=h.slot s;rw[I]at this;have⟨g',_,_,_,e1,_⟩:=this;rw[e1]at N;simp only[Za,Ay]at N;rw[e1,N]
 have X:∀o,¬St1 g o:=λo ho=>O o<|(R g o y.2).1 ho
 have g1:=h.AiE (w':=w1) (St':=St1) (cs':=cs') I q5 O i R h3 ⟨g,T1,[],u,W,h4,h5,rfl,X⟩;have g2:=g1.fresh (bs:=bs) h7 (λk c=>⟨λh'=>by have:=p k h';have:=(U k c).1;omega,(U k c).2⟩) (λq k c hm=>by have:=(h.range q k c).2;have:=(U k hm).1;omega) (by simp);have j:BelowK base.K w0 w1:=hb.trans ⟨i.os,i.tape,i.output,i.size,λk c=>i.block k ⟨p k c,λe=>y.1<|e ▸ c⟩⟩;have l:∀b z,base b->(St1 b z↔St0 b z):=λb z A=>(R b z<|p b A).trans<|L b z A
 cases C:o.dst with
 |none=>exact⟨St1,B,g2.less AR (by simp),j,l,UC p i.size⟩
 |some d=>have⟨Y,Z⟩:=hd d C;exact⟨St1,upd B d bs,g2.put Y Z S.slot h7 (by simp) S.DM.1 S.Sk,j,l,UC p i.size⟩
def HSim.AaG(h:HSim P nt bx base St B [] σ a w){s g:Nat}{bs0 bs:zN}{cs cs':List V}(hs:σ s=.box cs)(hB:B s=g::bs0)(hng:∀o,¬St g o)(hd:∀k∈bs0,∃o,¬St k o)(hb:BelowK (λb=>b < w.heap.size∧b∉g::bs0) w w')
  (hst:∀b o,b < w.heap.size->b∉bs0->(St' b o↔St b o)) (hst':∀b o,St' b o->b < w'.heap.size) (hsafe:∀q,q≠s->MZ (σ q)=true) (hn:(g::bs).Nodup) (hbs:∀k∈bs,(k∈bs0∨w.heap.size<=k)∧k < w'.heap.size) (hz:∀b,base b->b < w.heap.size)
  (hc:Ci P w' St' (tm a) (.box cs') (tm a s) (g::bs)):HSim P nt bx base St' (upd B s<|g::bs) [] (upd σ s<|.box cs') a w':=
 have hbox:∀b,(∃cs,C0 (σ b)=some cs)->∃cs'',C0 (upd σ s (.box cs') b)=some cs'':=λb ⟨cs,e⟩=>by
  by_cases eb:b=s
  ·subst eb;exact⟨cs',by rw[upd_same];rfl⟩
  ·exact⟨cs,by rw[upd_ne _ _ eb];exact e⟩
 have hf:FrB (g::bs0) w w':=⟨hb.os,hb.tape,hb.output,hb.size,λk hk hn=>hb.block k ⟨hk,hn⟩⟩;have hoff:∀q,q≠s->∀k∈B q,k∉g::bs0:=λq e k hk hm=>h.apart q s e k hk (by rw[hB];exact hm)
 have hin:∀q,q≠s->∀k∈B q,k∉g::bs:=λq e k hk hm=>by
  rcases AA.1 hm with rfl|hm
  ·exact hoff q e k hk BG
  ·rcases(hbs k hm).1 with h1|h1
   ·exact hoff q e k hk<|AV _ h1
   ·have:=(h.range q k hk).2;omega
 {h with
  slot:=λq=>by
   by_cases e:q=s
   ·subst e;rw[upd_same,upd_same];exact hc
   ·rw[upd_ne _ _ e,upd_ne _ _ e];refine Tx hf (λk hk=>?_) h.st (λk o hk hs=>(hst k o (h.st k o hs)<|λhm=>hk<|AV _ hm).2 hs) (hsafe q e) (h.slot q)<|λk hk=>⟨hb.block k ⟨(h.range q k hk).2,hoff q e k hk⟩,λo=>hst k o (h.range q k hk).2<|λhm=>hoff q e k hk<|AV _ hm⟩
    rcases AA.1 hk with rfl|hk
    ·exact⟨0,hng 0⟩
    ·exact hd k hk
  boxes:=λq cs e=>by
   by_cases eq:q=s
   ·subst eq;exact h.boxes _ _ (by rw[hs];rfl)
   ·rw[upd_ne _ _ eq]at e;exact h.boxes q cs e
  crefs:=λq b e=>by
   by_cases eq:q=s
   ·subst eq;rw[upd_same]at e;cases e
   ·rw[upd_ne _ _ eq]at e;exact hbox b<|h.crefs q b e
  nodup:=λq=>by
   by_cases e:q=s
   ·subst e;rw[upd_same];exact hn
   ·rw[upd_ne _ _ e];exact h.nodup q
  apart:=λq r hqr k hk hk'=>by
   by_cases e:q=s
   ·subst e;rw[upd_same]at hk;rw[upd_ne _ _ (Ne.symm hqr)]at hk';exact hin r (Ne.symm hqr) k hk' hk
   ·rw[upd_ne _ _ e]at hk;by_cases e':r=s
    ·subst e';rw[upd_same]at hk';exact hin q e k hk hk'
    ·rw[upd_ne _ _ e']at hk';exact h.apart q r hqr k hk hk'
  hnodup:=AR
  hapart:=λ_ _ _=>by simp
  range:=λq k hk=>by
   by_cases e:q=s
   ·subst e;rw[upd_same]at hk;rcases AA.1 hk with rfl|hk
    ·have:=h.range q k (by rw[hB];simp);exact⟨this.1,BA this.2 hb.size⟩
    ·refine⟨?_,(hbs k hk).2⟩;rcases(hbs k hk).1 with h1|h1
     ·exact(h.range q k<|by rw[hB];exact AV _ h1).1
     ·exactλhbk=>by have:=hz k hbk;omega
   ·rw[upd_ne _ _ e]at hk;exact⟨(h.range q k hk).1,BA (h.range q k hk).2 hb.size⟩
  hrange:=by simp
  st:=hst'
  gl:=h.gl.of (λb hg o=>(hst b o (h.st b o (hg o)) λhm=>(hd b hm).elim λo' ho=>ho (hg o')).2 (hg o)) (λb o hg=>B9 (hb.block b ⟨h.st b o (hg o),λhm=>(AA.1 hm).elim (λeb=>hng o (eb ▸ hg o)) (λhm=>(hd b hm).elim λo' ho=>ho (hg o'))⟩))}
def HSim.lend(h:HSim P nt bx base St B [] σ a w){s:Nat}{bs0 bs:zN}{c':V}(hx:C0 (σ s)=none)(hx':C0 c'=none)(hrf:D4 c'=none)(hB:B s=bs0)(hd:∀k∈bs0,∃o,¬St k o)(hb:BelowK (λb=>b < w.heap.size∧b∉bs0) w w')
  (hst:∀b o,b < w.heap.size->b∉bs0->(St' b o↔St b o)) (hst':∀b o,St' b o->b < w'.heap.size) (hsafe:∀q,q≠s->MZ (σ q)=true) (hn:bs.Nodup) (hbs:∀k∈bs,(k∈bs0∨w.heap.size<=k)∧k < w'.heap.size) (hz:∀b,base b->b < w.heap.size)
  (hc:Ci P w' St' (tm a) c' (tm a s) bs):HSim P nt bx base St' (upd B s bs) [] (upd σ s c') a w':=
 have hbox:∀b,(∃cs,C0 (σ b)=some cs)->∃cs'',C0 (upd σ s c' b)=some cs'':=λb ⟨cs,e⟩=>by
  by_cases eb:b=s
  ·subst eb;rw[hx]at e;cases e
  ·exact⟨cs,by rw[upd_ne _ _ eb];exact e⟩
 have hf:FrB bs0 w w':=⟨hb.os,hb.tape,hb.output,hb.size,λk hk hn=>hb.block k ⟨hk,hn⟩⟩;have hoff:∀q,q≠s->∀k∈B q,k∉bs0:=λq e k hk hm=>h.apart q s e k hk (by rw[hB];exact hm)
 have hin:∀q,q≠s->∀k∈B q,k∉bs:=λq e k hk hm=>by
  rcases(hbs k hm).1 with h1|h1
  ·exact hoff q e k hk h1
  ·have:=(h.range q k hk).2;omega
 {h with
  slot:=λq=>by
   by_cases e:q=s
   ·subst e;rw[upd_same,upd_same];exact hc
   ·rw[upd_ne _ _ e,upd_ne _ _ e];exact Tx hf hd h.st (λk o hk hs=>(hst k o (h.st k o hs) hk).2 hs) (hsafe q e) (h.slot q)<|λk hk=>⟨hb.block k ⟨(h.range q k hk).2,hoff q e k hk⟩,λo=>hst k o (h.range q k hk).2<|hoff q e k hk⟩
  boxes:=λq cs e=>by
   by_cases eq:q=s
   ·subst eq;rw[upd_same,hx']at e;cases e
   ·rw[upd_ne _ _ eq]at e;exact h.boxes q cs e
  crefs:=λq b e=>by
   by_cases eq:q=s
   ·subst eq;rw[upd_same,hrf]at e;cases e
   ·rw[upd_ne _ _ eq]at e;exact hbox b<|h.crefs q b e
  nodup:=λq=>by
   by_cases e:q=s
   ·subst e;rw[upd_same];exact hn
   ·rw[upd_ne _ _ e];exact h.nodup q
  apart:=λq r hqr k hk hk'=>by
   by_cases e:q=s
   ·subst e;rw[upd_same]at hk;rw[upd_ne _ _ (Ne.symm hqr)]at hk';exact hin r (Ne.symm hqr) k hk' hk
   ·rw[upd_ne _ _ e]at hk;by_cases e':r=s
    ·subst e';rw[upd_same]at hk';exact hin q e k hk hk'
    ·rw[upd_ne _ _ e']at hk';exact h.apart q r hqr k hk hk'
  hnodup:=AR
  hapart:=λ_ _ _=>by simp
  range:=λq k hk=>by
   by_cases e:q=s
   ·subst e;rw[upd_same]at hk;refine⟨?_,(hbs k hk).2⟩;rcases(hbs k hk).1 with h1|h1
    ·exact(h.range q k<|by rw[hB];exact h1).1
    ·exactλhbk=>by have:=hz k hbk;omega
   ·rw[upd_ne _ _ e]at hk;exact⟨(h.range q k hk).1,BA (h.range q k hk).2 hb.size⟩
  hrange:=by simp
  st:=hst'
  gl:=h.gl.of (λb hg o=>(hst b o (h.st b o (hg o)) λhm=>(hd b hm).elim λo' ho=>ho (hg o')).2 (hg o)) (λb o hg=>B9 (hb.block b ⟨h.st b o (hg o),λhm=>(hd b hm).elim λo' ho=>ho (hg o')⟩))}
def nL(D:zN):Operand->Bool
 |.tmp p=> !D.contains p
 |.const (.int _ _)=>true
 |.const (.bool _)=>true
 |.const (.string _)=>true
 |_=>false
def Y7(h:HSim P nt bx base St B hand σ a w){s:Nat}{bs0 D:zN}(i:(σ s).isArg=false)(n:∀k∈bs0,k∈B s)(r:∀k∈bs0,∃o,¬St k o)(c:∀q,q≠s->D.contains q=true∨MZ (σ q)=true):
  ∀(xs:List Operand),xs.all (λx=>(Cz σ x).isArg&&nL D x)=true->Rr w (λb o=>St b o∧b∉bs0) (xs.map λx=>er<|Cz σ x) (xs.map a.eval)
 |[],_=>rfl
 |x::xs,j=>by
  simp only[Bz,Ad]at j;refine⟨a.eval x,xs.map a.eval,rfl,?_,Y7 h i n r c xs j.2⟩;have⟨d,f⟩:=j.1
  have l:∃b,Ci P w St (tm a) (Cz σ x) (a.eval x) b∧MZ (Cz σ x)=true∧∀k∈b,k∉bs0:=by
   cases x with
   |tmp p=>
    have t:p≠s:=λe=>by subst e;rw[show Cz σ (.tmp p)=σ p from rfl]at d;rw[i]at d;cases d
    refine⟨B p,h.slot p,?_,λk g u=>h.apart p s t k g<|n k u⟩;rcases c p t with m|m
    ·simp only[nL,m]at f;cases f
    ·exact m
   |const v=>
    refine⟨[],iK v,?_,by simp⟩;cases v<;>first|rfl|(cases f;done)|skip
    simp only[Cz,cV];split<;>rfl
   |_=>cases f
  have⟨b,y,z,A⟩:=l;have C:=Tx (FrB.refl bs0 w) r h.st (St':=λb o=>St b o∧b∉bs0) (λk o g i=>⟨i,g⟩) z y<|λk g=>⟨rfl,λo=>⟨λh=>h.1,λh=>⟨h,A k g⟩⟩⟩
  exact((C.ow<|MR d).rda d).erase
def rF{f cal args ts xs s cs cs' D}(L:Cz σ cal=.fn f)(M:o.op=.call {callee:=.value cal,args:=args,argTypes:=ts})(he:args.toList=.tmp s::xs)(J:σ s=.box cs)(N:F7 cs=true)
  (n:xs.all (λx=>(Cz σ x).isArg&&nL D x)=true) (hp:AeM P f cs (xs.map λx=>er<|Cz σ x) cs') (hD:D.contains s=false) (c:∀q,q≠s->D.contains q=true∨MZ (σ q)=true) (hd:∀d,o.dst=some d->d < nt∧d∉bx) (i:K (VH (upd (kill D σ) s<|.box cs') o.dst<|.tup [])):WY P nt bx base St0 w0 o σ K:=by
 rintro a w Q ⟨St,B,h,hb,O,y⟩;have z:=h.slot s;rw[J]at z;have⟨g,T,bs0,R,e1,e2,e3,p,S⟩:=z;have r:=h.nodup s;rw[p]at r;have A:=Bj.Wm cs N e3;have U:=Y7 h (s:=s) (bs0:=bs0) (D:=D) (by rw[J];rfl) (λk i=>by rw[p];exact AV _ i) A c xs n;have W:∀k∈bs0,k < w.heap.size:=λk i=>(h.range s k<|by rw[p];exact AV _ i).2
 have t:=hp.2 w St g T R bs0 (xs.map a.eval) h.st h.gl e2 e3 r W S U;have hr:=Vo (P:=P) (a:=a) (w:=w) M (Zq h L) hp.1;rw[he,AH,show a.eval (.tmp s)=tm a s from rfl,e1]at hr;unfold Oper.wp;rw[hr,Fk];refine t.mono ?_;rintro e w1 ⟨v,bs,St1,T1,C,rfl,j,X,h3,h4,h5,Y,h7,h8⟩;refine⟨_,i,?_⟩;have⟨B2,k3,_,Z⟩:=XS D h;have F:kill D σ s=.box cs:=by rw[YM hD (by rw[J];rfl)];exact J
 have hB3:B2 s=g::bs0:=by
  rcases Z s with e|e
  ·have:=k3.slot s;rw[F]at this;have⟨_,_,_,_,_,_,_,e',_⟩:=this;rw[e]at e';cases e'
  ·rw[e,p]
 have hgr:=h.range s g (by rw[p];simp);have hng:∀o,¬St1 g o:=λo ho=>S o<|(X g o hgr.2 (BF.1 r).1).1 ho
 have g1:=k3.AaG (w':=w1) (St':=St1) (cs':=cs') (bs:=bs) F hB3 S A j X h3 (λq hq=>by
  rcases UB D σ q with e|e
  ·rw[e];rfl
  ·cases hc:D.contains q with
   |true=>rw[Wb hc];rfl
   |false=>rw[e];exact(c q hq).elim (λh=>by rw[hc]at h;cases h) id) h7 h8 y ⟨g,T1,bs,C,e1,h4,h5,rfl,hng⟩
 have l:BelowK base.K w0 w1:=hb.trans ⟨j.os,j.tape,j.output,j.size,λk i=>j.block k ⟨y k i,λhm=>(h.range s k<|by rw[p];exact hm).1 i⟩⟩;have m:∀b H,base b->(St1 b H↔St0 b H):=λb H u=>(X b H (y b u)<|λhm=>(h.range s b<|by rw[p];exact AV _ hm).1 u).trans<|O b H u
 cases I:o.dst with
 |none=>exact⟨St1,_,g1,l,m,UC y j.size⟩
 |some d=>have⟨hd1,hd2⟩:=hd d I;exact⟨St1,_,g1.put hd1 hd2 Y.slot AR (by simp) Y.DM.1 Y.Sk,l,m,UC y j.size⟩
def my(h:HSim P nt bx base St B hand σ a w):∀(xs:List Operand) (us:List Value),xs.map (Cz σ)=us.map V.tok->xs.map a.eval=us
 |[],[],_=>rfl
 |[],_::_,e=>by cases e
 |_::_,[],e=>by cases e
 |x::xs,u::us,e=>by
  simp only[AH,CQ]at e;have d:a.eval x=u:=by have⟨b,c⟩:=N9 h x;rw[e.1]at c;exact c.2.1
  rw[AH,d,my h xs us e.2]
def rD{f cal args ts zs xs ys us os os' r D}(J:Cz σ cal=.fn f)(L:o.op=.call {callee:=.value cal,args:=args,argTypes:=ts})(he:args.toList=zs++(xs++ys))(hx:xs.map (Cz σ)=us.map V.tok)(y:σ gS=.gh us os)(M:F7 os=true)
  (c:(zs++ys).all (λx=>(Cz σ x).isArg&&nL D x)=true) (Z:UP P f (zs.map λx=>er<|Cz σ x) os (ys.map λx=>er<|Cz σ x) os' r) (hD:D.contains gS=false) (g:∀q,q≠gS->D.contains q=true∨MZ (σ q)=true) (hd:∀d,o.dst=some d->d < nt∧d∉bx) (i:K (VH (upd (kill D σ) gS<|.gh us os') o.dst r)):WY P nt bx base St0 w0 o σ K:=by
 rintro a w Q ⟨St,B,h,hb,N,z⟩;have A:=h.slot gS;rw[y]at A;have j:Bj P w St os us (B gS):=A;have O:=h.nodup gS;have p:=Bj.Wm os M j;rw[E9,Ad]at c;have R:=Y7 h (s:=gS) (bs0:=B gS) (D:=D) (by rw[y];rfl) (λk i=>i) p g ys c.2;have C:=Y7 h (s:=gS) (bs0:=B gS) (D:=D) (by rw[y];rfl) (λk i=>i) p g zs c.1;have S:∀k∈B gS,k < w.heap.size:=λk i=>(h.range gS k i).2
 have t:=Z.2 w St us (B gS) (zs.map a.eval) (ys.map a.eval) h.st h.gl j O S C R;have hr:=Vo (P:=P) (a:=a) (w:=w) L (Zq h J) Z.1;rw[he,BM,BM,my h xs us hx]at hr;unfold Oper.wp;rw[hr,Fk];refine t.mono ?_;rintro e w1 ⟨v,bs,St1,rfl,l,h2,h3,h5,T,h7,h8⟩;refine⟨_,i,?_⟩;have⟨B2,k3,_,_,U⟩:=YG D h;have F:kill D σ gS=.gh us os:=by rw[YM hD (by rw[y];rfl)];exact y
 have W:B2 gS=B gS:=U gS hD (by rw[F,y])
 have g1:=k3.lend (w':=w1) (St':=St1) (c':=.gh us os') (bs:=bs) (by rw[F];rfl) rfl rfl W p l h2 h3 (λq hq=>by
  rcases UB D σ q with e|e
  ·rw[e];rfl
  ·cases hc:D.contains q with
   |true=>rw[Wb hc];rfl
   |false=>rw[e];exact(g q hq).elim (λh=>by rw[hc]at h;cases h) id) h7 h8 z h5
 have m:BelowK base.K w0 w1:=hb.trans ⟨l.os,l.tape,l.output,l.size,λk i=>l.block k ⟨z k i,λhm=>(h.range gS k hm).1 i⟩⟩;have n:∀b H,base b->(St1 b H↔St0 b H):=λb H u=>(h2 b H (z b u)<|λhm=>(h.range gS b hm).1 u).trans<|N b H u
 cases I:o.dst with
 |none=>exact⟨St1,_,g1,m,n,UC z l.size⟩
 |some d=>have⟨X,Y⟩:=hd d I;exact⟨St1,_,g1.put X Y T.slot AR (by simp) T.DM.1 T.Sk,m,n,UC z l.size⟩
def HSim.AiF(h:HSim P nt bx base St B hand σ a w){s g:Nat}{c':V}{cs cs':List V}(hs:C0 (σ s)=some cs)(hc':C0 c'=some cs')(hrf:D4 c'=none)(hB:B s=[g])(hng:∀o,¬St g o)(hb:BelowK (λb=>b < w.heap.size∧b≠g) w w')
  (hst:∀b o,b < w.heap.size->(St' b o↔St b o)) (hst':∀b o,St' b o->b < w'.heap.size) (hc:Ci P w' St' (tm a) c' (tm a s) [g]):HSim P nt bx base St' B hand (upd σ s c') a w':=
 have hbox:∀b,(∃cs,C0 (σ b)=some cs)->∃cs'',C0 (upd σ s c' b)=some cs'':=λb ⟨cs,e⟩=>by
  by_cases eb:b=s
  ·subst eb;exact⟨cs',by rw[upd_same];exact hc'⟩
  ·exact⟨cs,by rw[upd_ne _ _ eb];exact e⟩
 {h with
  slot:=λq=>by
   by_cases e:q=s
   ·subst e;rw[upd_same,hB];exact hc
   ·rw[upd_ne _ _ e];refine(h.slot q).mono (λb o hs=>(hst b o<|h.st b o hs).2 hs) (λb o hs=>?_) (λk hk=>⟨hb.block k ⟨(h.range q k hk).2,λek=>?_⟩,λo=>hst k o (h.range q k hk).2⟩)<|λ_ _=>rfl
    ·exact B9<|hb.block b ⟨h.st b o hs,λeb=>hng o<|eb ▸ hs⟩
    ·subst ek;exact h.apart q s e k hk (by rw[hB];simp)
  boxes:=λq cs1 e=>by
   by_cases eq:q=s
   ·subst eq;exact h.boxes _ _ hs
   ·rw[upd_ne _ _ eq]at e;exact h.boxes q cs1 e
  crefs:=λq b e=>by
   by_cases eq:q=s
   ·subst eq;rw[upd_same,hrf]at e;cases e
   ·rw[upd_ne _ _ eq]at e;exact hbox b<|h.crefs q b e
  range:=λq k hk=>⟨(h.range q k hk).1,BA (h.range q k hk).2 hb.size⟩
  hrange:=λk hk=>⟨(h.hrange k hk).1,BA (h.hrange k hk).2 hb.size⟩
  st:=hst'
  gl:=h.gl.of (λb hg o=>(hst b o (h.st b o (hg o))).2 (hg o)) (λb o hg=>B9 (hb.block b ⟨h.st b o (hg o),λeb=>hng o (eb ▸ hg o)⟩))}
def rH{f cal x args ts zs s n n' e cs cs' r}(hcv:Cz σ cal=.fn f)(hop:o.op=.call {callee:=.value cal,args:=args,argTypes:=ts})(he:args.toList=zs++[x])(hx:Cz σ x=.same s)(hs:σ s=.uni e n cs)(hf:aO cs=true)(hf':aO cs'=true)(hfr:flt r=true)
  (hargs:zs.all (λx=>(Cz σ x).isArg)=true) (hp:UP P f (zs.map λx=>er<|Cz σ x) [.own e n cs] [] [.own e n' cs'] r) (hd:∀d,o.dst=some d->d < nt∧d∉bx) (hk:K (VH (upd σ s<|.uni e n' cs') o.dst r)):WY P nt bx base St0 w0 o σ K:=by
 rintro a w Q ⟨St,B,h,hb,hst,hz⟩;have hsl:=h.slot s;rw[hs]at hsl;have⟨g,bs',arr,e1,e2,h1,hB,h2,hl,hlen⟩:=hsl;have hnil:bs'=[]:=(XZ (w':=w) (St':=St) cs hf h1).1;subst hnil;have hgr:=h.range s g (by rw[hB];simp);have hxv:a.eval x=tm a s:=by have⟨b,q⟩:=N9 h x;rw[hx]at q;exact q.2
 have harr:arr.size=n * V1 P e:=by rw[<-BX,h1.length,hlen]
 have hown:Ow P w (λb o'=>St b o'∨(b=g∧o' < n * V1 P e)) (.own e n cs) (tm a s) [g]:=by
  refine⟨hl,arr.toList,[],?_,(XZ cs hf h1).2,by rw[e1];rfl,λk hk o'=>?_,λh0=>?_⟩
  ·rw[e1];refine⟨by rw[BX,harr],.inr ⟨g,n,arr,rfl,Dc _,e2,Bb _,?_,harr,?_⟩⟩
   ·unfold maxLen;unfold lim at hl;omega
   ·rw[<-harr,<-BX,Bl]
  ·rw[e1]at hk;simp only[Value.ownBlock,Ay]at hk;subst hk;exact⟨λhh=>hh.elim (λhh=>absurd hh<|h2 o') (·.2),λhh=>.inr ⟨rfl,hh⟩⟩
  ·subst h0;exact Bf (by simpa using hlen)
 have hrd:=(Y8 h zs hargs).mono (w':=w) (St':=λb o'=>(St b o'∨(b=g∧o' < n * V1 P e))∧b∉[g]) (λb o' hh=>⟨.inl hh,λhm=>h2 o'<|by rw[AU]at hm;exact hm ▸ hh⟩)<|λ_ _ _=>rfl
 have hcall:=hp.2 w (λb o'=>St b o'∨(b=g∧o' < n * V1 P e)) [tm a s] [g] (zs.map a.eval) [] (λb o' hh=>hh.elim (h.st b o')<|λhh=>by rw[hh.1];exact hgr.2) (h.gl.of (λb hg o'=>.inl<|hg o')<|λ_ _ _=>rfl)
  ⟨tm a s,[],[g],[],rfl,rfl,rfl,hown,rfl,rfl⟩ (by simp) (by simpa using hgr.2) hrd rfl
 have hr:=Vo (P:=P) (a:=a) (w:=w) hop (Zq h hcv) hp.1;rw[he,BM,List.map_singleton,hxv]at hr;unfold Oper.wp;rw[hr,Fk];refine hcall.mono ?_;rintro e' w1 ⟨v,bs,St1,rfl,k1,k2,k3,k5,k6,k7,k8⟩;refine⟨_,hk,?_⟩;have⟨u,us',b1,b2,p1,p2,p3,p4,p5⟩:=k5;simp only[CQ]at p1;obtain⟨rfl,rfl⟩:=p1;have⟨hl',xs,bs2,⟨hxl,ho⟩,hrow3,hb1,hst3,hnil3⟩:=p4;rw[e1]at ho
 obtain rfl:n=n':=by
  rcases ho with⟨ho,_⟩|⟨g',cap,cur,ho,_⟩
  ·cases ho
  ·exact(Value.slice.inj ho).2.1
 obtain⟨cur,hc1,hc2,hc3⟩:∃cur:Array Value,w1.heap[g]? =some (.cells cur e (0,0))∧cur.size=n * V1 P e∧cur.toList.take (n * V1 P e)=xs:=by
  rcases ho with⟨ho,_⟩|⟨g',cap,cur,ho,_,hh,_,_,hsz,hx'⟩
  ·cases ho
  ·injection ho with ho1 ho2 ho3
   injection ho1 with ho1
   injection ho1 with ho1
   subst ho1 ho3;exact⟨cur,hh,hsz,hx'⟩
 have hxc:cur.toList=xs:=by rw[<-hc3,<-hc2,<-BX,Bl]
 have g1:=h.AiF (w':=w1) (St':=λb o'=>St1 b o'∧b≠g) (s:=s) (c':=.uni e n cs') (by rw[hs];rfl) rfl rfl hB h2 ⟨k1.os,k1.tape,k1.output,k1.size,λk hk=>k1.block k ⟨hk.1,by simpa using hk.2⟩⟩
  (λb o' hlt=>⟨λhh=>((k2 b o' hlt (by simpa using hh.2)).1 hh.1).elim id (λh=>absurd h.1 hh.2),λhh=>by
   have hne:b≠g:=λe=>h2 o'<|e ▸ hh
   exact⟨(k2 b o' hlt (by simpa using hne)).2 (.inl hh),hne⟩⟩) (λb o' hh=>k3 b o' hh.1)
  ⟨g,[],cur,e1,hc1,by rw[hxc];exact(XZ cs' hf' hrow3).2,rfl,λo' hh=>hh.2 rfl,hl,by rw[<-hrow3.length,hxl]⟩
 have hbel:BelowK base.K w0 w1:=hb.trans ⟨k1.os,k1.tape,k1.output,k1.size,λk hk=>k1.block k ⟨hz k hk,λhm=>hgr.1<|by rw[AU]at hm;exact hm ▸ hk⟩⟩
 have hst1:∀b o',base b->((St1 b o'∧b≠g)↔St0 b o'):=λb o' hlt=>by
  have hne:b≠g:=λe=>hgr.1<|e ▸ hlt
  have:=k2 b o' (hz b hlt) (by simpa using hne);rw[<-hst b o' hlt];exact⟨λhh=>(this.1 hh.1).elim id<|λh=>absurd h.1 hne,λhh=>⟨this.2<|.inl hh,hne⟩⟩
 have hr6:=(nN (w':=w1) (St':=λb o'=>St1 b o'∧b≠g) r hfr k6).2;cases hdst:o.dst with
 |none=>exact⟨_,_,g1.less AR (by simp),hbel,hst1,UC hz k1.size⟩
 |some d=>have⟨hd1,hd2⟩:=hd d hdst;exact⟨_,_,g1.put hd1 hd2 hr6.slot AR (by simp) hr6.DM.1 hr6.Sk,hbel,hst1,UC hz k1.size⟩
def rE{f cal args ts cs d}(hcv:Cz σ cal=.fn f)(hop:o.op=.call {callee:=.value cal,args:=args,argTypes:=ts})
  (hargs:args.toList.all (λx=>(Cz σ x).isArg)=true) (hp:NewAt P f (args.toList.map λx=>erK<|Cz σ x) cs) (ho:o.dst=some d) (hd:d < nt) (hx:d∈bx) (hd0:Sj+d∉bx) (hold:C0 (σ d)=none) (hk:K (upd σ d<|.box cs)):WY P nt bx base St0 w0 o σ K:=by
 rintro a w Q ⟨St,B,h,hb,hst,hz⟩;have hcall:=hp.2 w St (args.toList.map a.eval) h.st h.gl<|da h _ hargs;have hr:=Vo (P:=P) (a:=a) (w:=w) hop (Zq h hcv) hp.1;unfold Oper.wp;rw[hr,Fk];refine hcall.mono ?_;rintro e w1 ⟨g,T,St1,arr,rfl,h1,h2,h3,h4,h5,h6,h7,h8⟩;refine⟨_,hk,?_⟩;have g1:=h.grow (w':=w1) (St':=St1) h1 h2 h3;have g2:=g1.fresh (bs:=[g]) (by simp) (λk hk=>by simp only[AU]at hk;subst hk;exact⟨λh'=>by have:=hz k h';omega,h8⟩) (λq k hk hm=>by simp only[AU]at hm;subst hm;have:=(h.range q k hk).2;omega) (by simp);have hst1:∀b o',base b->(St1 b o'↔St0 b o'):=λb o' hlt=>(h2 b o'<|hz b hlt).trans<|hst b o' hlt
 refine⟨St1,upd B d [g],?_,hb.below h1 hz,hst1,UC hz h1.size⟩;rw[ho];exact g2.eK hd hx hd0 hold (c:=.box cs) ⟨g,T,[],arr,rfl,h4,h5,rfl,h6⟩ (by simp) (by simp) rfl
def gW{p d s off}(i:o.op=.assign (.tmp p)∨o.op=.move (.tmp p))(k:NQ σ (.tmp p)=.cref s off)(b:(∃cs,C0 (σ s)=some cs)∨D4 (σ p)=some s)(l:o.dst=some d)(m:d < nt)(n:d∉bx)(q:K (upd σ d<|.cref s off)):WY P nt bx base St0 w0 o σ K:=by
 rintro a w Q ⟨St,B,h,r,j,t⟩;obtain⟨cs,f⟩:∃cs,C0 (σ s)=some cs:=b.elim id<|h.crefs p s;have⟨g,T,u,v,x,y,A,C,D,F⟩:=TA h k f;have z:(execOp a.eval o).run P w=.ok (.value<|a.eval<|.tmp p) w:=by rcases i with e|e<;>simp[execOp,e]
 refine Nv z ⟨_,q,St,upd B d [],?_,r,j,t⟩;rw[l];exact h.put m n (c:=.cref s off) ⟨rfl,g,y,x⟩ AR (by simp) rfl (λb e=>by simp only[D4,Ay]at e;subst e;exact⟨cs,f⟩)
end
def UO(P:Program)(w:World)(c:Nat->Nat->Prop):List (List V)->List Value->zN->Prop
 |[],us,bs=>us=[]∧bs=[]
 |cs::b,us,bs=>∃u a b1 b2,us=u::a∧bs=b1++b2∧Ci P w c (λ_=>undef) (.box cs) u b1∧UO P w c b a b2
def Aap(P:Program)(w:World)(c:Nat->Nat->Prop)(us:List Value)(bs0:zN)(a:List (List V))(r:V)(e:Ending)(w':World):Prop:=
 ∃v bs St',e=.returned v∧BelowK (λb=>b < w.heap.size∧b∉bs0) w w'∧(∀b o,b < w.heap.size->b∉bs0->(St' b o↔c b o))∧(∀b o,St' b o->b < w'.heap.size)∧
  UO P w' St' a us bs∧Ow P w' St' r v []∧bs.Nodup∧∀k∈bs,(k∈bs0∨w.heap.size<=k)∧k < w'.heap.size
def Y5(P:Program)(f:FuncId)(us:List Value)(e:List (List V))(a:List V)(c:List (List V))(r:V):Prop:=
 RS P f∧∀w d (bs0:zN) (vs:List Value),(∀b o,d b o->b < w.heap.size)->Glb w d->UO P w d e us bs0->bs0.Nodup->(∀k∈bs0,k < w.heap.size)->Rr w d a vs->
  Calls P f (vs++us).toArray w (Aap P w d us bs0 c r)
section
variable {P:Program}{nt:Nat}{base:Bs}{bx:zN}{St St' St0:Nat->Nat->Prop}{B B':Nat->zN}{hand:zN}{σ σ':PS}{a:Act}{w w' w0:World}{o:Oper}{K:PS->Prop}
def UO.length:∀{b:List (List V)}{us:List Value}{bs:zN},UO P w St b us bs->us.length=b.length
 |[],_,_,h=>by rw[h.1];rfl
 |cs::b,_,_,⟨u,c,b1,b2,d,e2,f,e⟩=>by rw[d,Ar,Ar,e.length]
def oy{t t' cs v b}(h:Ci P w St t (.box cs) v b):Ci P w St t' (.box cs) v b:=h
def aw:∀{ss:zN}{g:List (List V)}{us:List Value}{bs:zN},UO P w St g us bs->bs.Nodup->ss.Nodup->ss.length=g.length->
  ∃β:Nat->zN,(∀(i s:Nat) (cs:List V) (u:Value),ss[i]? =some s->g[i]? =some cs->us[i]? =some u->Ci P w St (λ_=>undef) (.box cs) u (β s))∧(∀s∈ss,∀k∈β s,k∈bs)∧(∀s,(β s).Nodup)∧∀s∈ss,∀t∈ss,s≠t->∀k∈β s,k∉β t
 |[],[],_,_,_,_,_,_=>⟨λ_=>[],by simp,by simp,λ_=>AR,by simp⟩
 |[],_::_,_,_,_,_,_,e=>by cases e
 |_::_,[],_,_,_,_,_,e=>by cases e
 |s::ss,cs::g,_,_,⟨u,y,b1,b2,h,e2,z,A⟩,C,D,F=>by
  subst h e2;have⟨H,I,r⟩:=Ax.1 C;have⟨J,L⟩:=BF.1 D;have⟨β,M,n,N,O⟩:=aw (ss:=ss) A I L (by simpa using F);have off:∀q∈ss,q≠s:=λq d e=>J<|e ▸ d
  refine⟨λq=>if q=s then b1 else β q,?_,?_,?_,?_⟩
  ·intro i q c v d l m;cases i with
   |zero=>simp only[Cd,Ay]at d l m;subst d l m;simp only[EL];exact z
   |succ i=>simp only[CS]at d l m;simp only[As (off q<|BV d)];exact M i q c v d l m
  ·intro q d k f;dsimp only at f;split at f
   ·exact Az _ f
   ·rename_i p;exact Au _<|n q ((AA.1 d).resolve_left p) k f
  ·intro q;dsimp only;split
   ·exact H
   ·exact N q
  ·intro q d t x j k f b;dsimp only at f b;split at f
   ·rename_i h;split at b
    ·rename_i e2;exact j<|h.trans e2.symm
    ·rename_i e2;exact r k f k (n t ((AA.1 x).resolve_left e2) k b) rfl
   ·rename_i h;split at b
    ·exact r k b k (n q ((AA.1 d).resolve_left h) k f) rfl
    ·rename_i e2;exact O q ((AA.1 d).resolve_left h) t ((AA.1 x).resolve_left e2) j k f b
def HSim.vars(h:HSim P nt bx base St B [] σ a w){ss:zN}{bs0:zN}(hB0:∀k∈bs0,∃s∈ss,k∈B s)(hB1:∀s∈ss,∀k∈B s,k∈bs0)(hd:∀k∈bs0,∃o,¬St k o)(hb:BelowK (λb=>b < w.heap.size∧b∉bs0) w w')
  (hst:∀b o,b < w.heap.size->b∉bs0->(St' b o↔St b o)) (hst':∀b o,St' b o->b < w'.heap.size) (hz:∀b,base b->b < w.heap.size)
  (hoff:∀q,q∉ss->σ' q=σ q∧B' q=B q∧MZ (σ q)=true)
  (hin:∀s∈ss,Ci P w' St' (tm a) (σ' s) (tm a s) (B' s)∧(∃cs,C0 (σ s)=some cs)∧(∃cs,C0 (σ' s)=some cs)∧D4 (σ' s)=none∧(B' s).Nodup∧∀k∈B' s,(k∈bs0∨w.heap.size<=k)∧k < w'.heap.size)
  (hap:∀s∈ss,∀t∈ss,s≠t->∀k∈B' s,k∉B' t):HSim P nt bx base St' B' [] σ' a w':=
 have hf:FrB bs0 w w':=⟨hb.os,hb.tape,hb.output,hb.size,λk hk hn=>hb.block k ⟨hk,hn⟩⟩;have hno:∀q,q∉ss->∀k∈B q,k∉bs0:=λq hq k hk hm=>by have⟨s,hs,hks⟩:=hB0 k hm;exact h.apart q s (λe=>hq<|e ▸ hs) k hk hks
 have hbase:∀k,k∈bs0->¬base k:=λk hk=>by have⟨s,hs,hks⟩:=hB0 k hk;exact(h.range s k hks).1
 have hmix:∀q s,q∉ss->s∈ss->∀k∈B q,k∉B' s:=λq s hq hs k hk hk'=>by
  rcases((hin s hs).2.2.2.2.2 k hk').1 with h1|h1
  ·exact hno q hq k hk h1
  ·have:=(h.range q k hk).2;omega
 {h with
  slot:=λq=>by
   by_cases hq:q∈ss
   ·exact(hin q hq).1
   ·have⟨e1,e2,e3⟩:=hoff q hq;rw[e1,e2];exact Tx hf hd h.st (λk o hk hs=>(hst k o (h.st k o hs) hk).2 hs) e3 (h.slot q)<|λk hk=>⟨hb.block k ⟨(h.range q k hk).2,hno q hq k hk⟩,λo=>hst k o (h.range q k hk).2<|hno q hq k hk⟩
  boxes:=λq cs e=>by
   by_cases hq:q∈ss
   ·have⟨ds,hds⟩:=(hin q hq).2.1;exact h.boxes q ds hds
   ·rw[(hoff q hq).1]at e;exact h.boxes q cs e
  crefs:=λq b e=>by
   have hr:D4 (σ q)=some b:=by
    by_cases hq:q∈ss
    ·rw[(hin q hq).2.2.2.1]at e;cases e
    ·rw[(hoff q hq).1]at e;exact e
   have⟨cs,hcs⟩:=h.crefs q b hr;by_cases hb':b∈ss
   ·exact(hin b hb').2.2.1
   ·exact⟨cs,by rw[(hoff b hb').1];exact hcs⟩
  nodup:=λq=>by
   by_cases hq:q∈ss
   ·exact(hin q hq).2.2.2.2.1
   ·rw[(hoff q hq).2.1];exact h.nodup q
  apart:=λq r hqr k hk hk'=>by
   by_cases hq:q∈ss
   ·by_cases hr:r∈ss
    ·exact hap q hq r hr hqr k hk hk'
    ·rw[(hoff r hr).2.1]at hk';exact hmix r q hr hq k hk' hk
   ·rw[(hoff q hq).2.1]at hk;by_cases hr:r∈ss
    ·exact hmix q r hq hr k hk hk'
    ·rw[(hoff r hr).2.1]at hk';exact h.apart q r hqr k hk hk'
  hnodup:=AR
  hapart:=λ_ _ _=>by simp
  range:=λq k hk=>by
   by_cases hq:q∈ss
   ·have⟨h1,h2⟩:=(hin q hq).2.2.2.2.2 k hk;refine⟨?_,h2⟩;rcases h1 with h1|h1
    ·exact hbase k h1
    ·exactλhbk=>by have:=hz k hbk;omega
   ·rw[(hoff q hq).2.1]at hk;exact⟨(h.range q k hk).1,BA (h.range q k hk).2 hb.size⟩
  hrange:=by simp
  st:=hst'
  gl:=h.gl.of (λb hg o=>(hst b o (h.st b o (hg o)) λhm=>(hd b hm).elim λo' ho=>ho (hg o')).2 (hg o)) (λb o hg=>B9 (hb.block b ⟨h.st b o (hg o),λhm=>(hd b hm).elim λo' ho=>ho (hg o')⟩))}
end
section
variable {P:Program}{w:World}{St:Nat->Nat->Prop}
mutual
def Ow.b6:∀(c:V) {v:Value}{b:zN},c.DF=true->Ow P w St c v b->∀g∈b,∃o,¬St g o
 |.tok _,_,_,_,h,g,hg=>by rw[h.1]at hg;cases hg
 |.int _ _,_,_,_,h,g,hg=>by rw[h.1]at hg;cases hg
 |.bool _,_,_,_,h,g,hg=>by rw[h.1]at hg;cases hg
 |.str _,_,_,_,h,g,hg=>by rw[h.1]at hg;cases hg
 |.dat _ _,_,_,_,h,g,hg=>by rw[h.1]at hg;cases hg
 |.arg _ _,_,_,_,h,g,hg=>by rw[h.1]at hg;cases hg
 |.pin _ _ _,_,_,_,h,g,hg=>by rw[h.1]at hg;cases hg
 |.fn _,_,_,_,h,g,hg=>by rw[h.1]at hg;cases hg
 |.own e n cs,v,b,_,⟨hn,xs,bs',h1,h2,h3,h4,h5⟩,g,hg=>by
  rw[h3]at hg;rcases Al.1 hg with hg|hg
  ·exact⟨n * V1 P e,λhs=>absurd ((h4 g (by simpa using hg) _).1 hs)<|Ka _⟩
  ·exact Bj.b6 cs h2 g hg
 |.agg _,_,_,hc,_,_,_=>by cases hc
 |.tup _,_,_,hc,_,_,_=>by cases hc
 |.box _,_,_,hc,_,_,_=>by cases hc
 |.uni _ _ _,_,_,hc,_,_,_=>by cases hc
 |.same _,_,_,hc,_,_,_=>by cases hc
 |.val _ _,_,_,hc,_,_,_=>by cases hc
 |.cref _ _,_,_,hc,_,_,_=>by cases hc
 |.adr _ _,_,_,hc,_,_,_=>by cases hc
 |.gh _ _,_,_,hc,_,_,_=>by cases hc
 |.undef,_,_,hc,_,_,_=>by cases hc
def Bj.b6:∀(cs:List V) {us:List Value}{b:zN},Bj P w St cs us b->∀g∈b,∃o,¬St g o
 |[],_,_,h,g,a=>by rw[h.2]at a;cases a
 |c::cs,_,_,⟨u,d,b1,b2,j,e2,e,f,i⟩,g,a=>by
  rw[e2]at a;rcases Al.1 a with a|a
  ·exact Ow.b6 c e f g a
  ·exact Bj.b6 cs i g a
end
def UO.b6:∀{b:List (List V)}{us:List Value}{bs:zN},UO P w St b us bs->∀g∈bs,∃o,¬St g o
 |[],_,_,h,g,a=>by rw[h.2]at a;cases a
 |cs::b,_,_,⟨u,c,b1,b2,l,e2,⟨m,T,d,e,n,p,f,i,j⟩,k⟩,g,a=>by
  rw[e2,i]at a;rcases Al.1 a with a|a
  ·rcases AA.1 a with rfl|a
   ·exact⟨0,j 0⟩
   ·exact Bj.b6 cs f g a
  ·exact k.b6 g a
end
def fA(σ:PS):zN->List (List V)->PS
 |s::ss,cs::a=>upd (fA σ ss a) s<|.box cs
 |_,_=>σ
def mA{σ q}:∀{ss:zN}{css:List (List V)},q∉ss->fA σ ss css q=σ q
 |[],_,_=>rfl
 |_::_,[],_=>rfl
 |s::ss,cs::css,h=>by rw[fA,upd_ne _ _ (show q≠s from λe=>h<|by rw[e];exact BG),mA (λhm=>h<|AV _ hm)]
def qM{σ}:∀{ss:zN}{a:List (List V)}{i s:Nat}{cs:List V},ss.Nodup->ss[i]? =some s->a[i]? =some cs->fA σ ss a s=.box cs
 |[],_,_,_,_,_,h,_=>by simp at h
 |_::_,[],_,_,_,_,_,h=>by simp at h
 |s0::ss,cs0::a,i,s,cs,d,b,c=>by
  have⟨f,g⟩:=BF.1 d;cases i with
  |zero=>simp only[Cd,Ay]at b c;subst b c;rw[fA,upd_same]
  |succ i=>simp only[CS]at b c;rw[fA,upd_ne _ _ (show s≠s0 from λe=>f<|by rw[<-e];exact BV b)];exact qM g b c
def gV(s:Nat):Nat:=910000+s
section
variable {P:Program}{nt:Nat}{base:Bs}{bx:zN}{St St0:Nat->Nat->Prop}{B:Nat->zN}{hand:zN}{σ:PS}{a:Act}{w w0:World}{o:Oper}{K:PS->Prop}
def ox(h:HSim P nt bx base St B hand σ a w):∀{ss:zN}{b:List (List V)}{us:List Value},ss.map σ=b.map V.box->(ss.map λs=>σ<|gV s)=(ss.zip us).map (λp=>V.val p.1 p.2)->ss.length=us.length->UO P w St b us (ss.flatMap B)
 |[],[],[],_,_,_=>⟨rfl,rfl⟩
 |[],_::_,_,e,_,_=>by cases e
 |[],[],_::_,_,_,e=>by cases e
 |_::_,[],_,e,_,_=>by cases e
 |_::_,_::_,[],_,_,e=>by cases e
 |s::ss,cs::b,u::us,c,e2,i=>by simp only[AH,CQ,List.zip_cons_cons]at c e2;have d:=h.slot s;rw[c.1]at d;have g:=h.slot<|gV s;rw[e2.1]at g;have f:u=tm a s:=g.2;rw[<-f]at d;exact⟨u,us,B s,ss.flatMap B,rfl,by rw[AI],oy d,ox h c.2 e2.2<|by simpa using i⟩
def rj{f cal args ts us}(d:o.op=.call {callee:=.value cal,args:=args,argTypes:=ts})(e2:a.eval cal=.func (.func f) #[] us.toArray)(e:RS P f):(execOp a.eval o).run P w=.ok (.enter f (args.toList.map a.eval++us).toArray) w:=by
 have⟨i,g,b,c⟩:=e;have h:(args.toList.map a.eval++us).toArray=args.map a.eval++us.toArray:=by rw[<-List.append_toArray,<-Jp,Ea]
 rw[h];simp only[execOp,d,resolve,e2,Deferred.ofValue,Bp,BI,A4,invoke,callFunc,run_program,N0,g,b,c];simp
end
section
variable {P:Program}{nt:Nat}{base:Bs}{bx:zN}{St0:Nat->Nat->Prop}{σ:PS}{w0:World}{o:Oper}{K:PS->Prop}
def dG{B:Nat->zN}(h1:∀s,(B s).Nodup)(h2:∀s t,s≠t->∀g∈B s,g∉B t):∀{ss:zN},ss.Nodup->(ss.flatMap B).Nodup
 |[],_=>AR
 |s::ss,h=>by obtain⟨m1,m2⟩:=BF.1 h;rw[AI];refine Ax.2 ⟨h1 s,dG h1 h2 m2,λa ha b hb e=>?_⟩;obtain⟨t,ht,hbt⟩:=CA.1 hb;exact h2 s t (λe'=>m1<|e' ▸ ht) a ha<|e ▸ hbt
def iC:V->V
 |.dat 0 []=>.arg 0 []
 |c=>c
def iw.iC{w St c v}(h:iw w St c v):iw w St (iC c) v:=by
 unfold Proofs.YtpnoalhfjnjeaaaGreatDoor.iC;split
 ·have⟨hn,A,c,e,hc,_,h0⟩:=h;exact⟨hn,A,c,e,hc,λhp=>absurd hp (by omega),h0⟩
 ·exact h
def ku{bx base nt St B hand a w}(h:HSim P nt bx base St B hand σ a w):∀(xs:List Operand),xs.all (λx=>(Cz σ x).isArg)=true->Rr w St (xs.map λx=>iC<|Cz σ x) (xs.map a.eval)
 |[],_=>rfl
 |x::xs,c=>by simp only[Bz,Ad]at c;have⟨b,d⟩:=N9 h x;exact⟨a.eval x,xs.map a.eval,rfl,((d.ow<|MR c.1).rda c.1).iC,ku h xs c.2⟩
def Aaq(P:Program)(σ:PS)(f:FuncId)(us:List Value)(c:List (List V))(a:List Operand)(b:List (List V))(r:V):Prop:=Y5 P f us c (a.map λx=>er<|Cz σ x) b r∨Y5 P f us c (a.map λx=>iC<|Cz σ x) b r
def rI{f:FuncId}{cal:Operand}{args:Array Operand}{ts:Array TypeId}{us:List Value}{ss:zN}{css css':List (List V)}{r:V}{D:zN}(hcv:Cz σ cal=.tok (.func (.func f) #[] us.toArray))(hop:o.op=.call {callee:=.value cal,args:=args,argTypes:=ts})
  (hσ:ss.map σ=css.map V.box) (hv:(ss.map λs=>σ<|gV s)=(ss.zip us).map (λp=>V.val p.1 p.2)) (hl:ss.length=us.length) (hnd:ss.Nodup) (hargs:args.toList.all (λx=>(Cz σ x).isArg)=true) (hp:Aaq P σ f us css args.toList css' r)
  (hD:∀s∈ss,D.contains s=false) (hsafe:∀q,q∉ss->D.contains q=true∨MZ (σ q)=true) (hd:∀d,o.dst=some d->d < nt∧d∉bx) (hk:K (VH (fA (kill D σ) ss css') o.dst r)):WY P nt bx base St0 w0 o σ K:=by
 rintro a w Q ⟨St,B,h,hb,hst,hz⟩;have hrow:=ox h hσ hv hl;have hndB:=dG h.nodup h.apart hnd;have hmem:∀k,k∈ss.flatMap B↔∃s∈ss,k∈B s:=λk=>CA
 have hrg:∀k∈ss.flatMap B,k < w.heap.size:=λk hk=>by obtain⟨s,_,hks⟩:=(hmem k).1 hk;exact(h.range s k hks).2
 have hnb:∀k∈ss.flatMap B,¬base k:=λk hk=>by obtain⟨s,_,hks⟩:=(hmem k).1 hk;exact(h.range s k hks).1
 obtain⟨hbody,hcall⟩:RS P f∧Calls P f (args.toList.map a.eval++us).toArray w (Aap P w St us (ss.flatMap B) css' r):=hp.elim (λh1=>⟨h1.1,h1.2 w St _ (args.toList.map a.eval) h.st h.gl hrow hndB hrg<|Y8 h _ hargs⟩)<|λh1=>⟨h1.1,h1.2 w St _ (args.toList.map a.eval) h.st h.gl hrow hndB hrg<|ku h _ hargs⟩
 have e2:a.eval cal=.func (.func f) #[] us.toArray:=by obtain⟨b,hx⟩:=N9 h cal;rw[hcv]at hx;exact hx.2.1
 have hr:=rj (P:=P) (a:=a) (w:=w) hop e2 hbody;unfold Oper.wp;rw[hr,Fk];refine hcall.mono ?_;rintro e w1 ⟨v,bs,St1,rfl,h1,h2,h3,h5,h6,h7,h8⟩;refine⟨_,hk,?_⟩;obtain⟨B2,k3,_,hB2,hBs⟩:=YG D h;have hsl:css.length=ss.length:=by have:=congrArg List.length hσ;simpa using this.symm
 have hul:=h5.length
 have hat:∀s∈ss,∃i cs cs' u,ss[i]? =some s∧css'[i]? =some cs'∧us[i]? =some u∧σ s=.box cs∧tm a s=u:=λs hs=>by
  obtain⟨i,hi,e1⟩:=Es hs;have hi2:i < us.length:=by omega
  have hc:σ s=.box (css[i]'(by omega)):=by have:=congrArg (λl=>l[i]?) hσ;simp only[BZ,Ah hi,Ah (show i < css.length by omega),B3,Ay]at this;rw[<-e1];exact this
  have hf:σ (gV s)=.val s us[i]:=by have:=congrArg (λl=>l[i]?) hv;simp only[BZ,Ah hi,B3]at this;rw[Ah (by simp;omega)]at this;simp only[Ho,B3,Ay]at this;rw[e1]at this;exact this
  have hg:=h.slot<|gV s;rw[hf]at hg;exact⟨i,_,css'[i]'(by omega),us[i],by rw[Ah hi,e1],Ah _,Ah hi2,hc,hg.2.symm⟩
 have hkeep:∀s∈ss,kill D σ s=σ s:=λs hs=>by obtain⟨i,cs,cs',u,_,_,_,q,_⟩:=hat s hs;exact gv (by rw[q];rfl)<|hD s hs
 have hB3:∀s∈ss,B2 s=B s:=λs hs=>hBs s (hD s hs)<|hkeep s hs
 obtain⟨β,m1,m2,m3,m4⟩:=aw (ss:=ss) h5 h7 hnd (by omega)
 have g1:=k3.vars (σ':=fA (kill D σ) ss css') (B':=λq=>if q∈ss then β q else B2 q) (ss:=ss) (bs0:=ss.flatMap B) (w':=w1) (St':=St1)
  (λk hk=>by obtain⟨s,hs,hks⟩:=(hmem k).1 hk;exact⟨s,hs,by rw[hB3 s hs];exact hks⟩)
  (λs hs k hk=>(hmem k).2 ⟨s,hs,by rw[<-hB3 s hs];exact hk⟩) hrow.b6 h1 h2 h3 hz
  (λq hq=>⟨mA hq,As hq,by
   rcases UB D σ q with e|e
   ·rw[e];rfl
   ·cases hc:D.contains q with
    |true=>rw[Wb hc];rfl
    |false=>rw[e];exact(hsafe q hq).elim (λh=>by rw[hc]at h;cases h) id⟩)
  (λs hs=>by obtain⟨i,cs,cs',u,q1,q2,q3,q4,q5⟩:=hat s hs;simp only[At hs];rw[qM hnd q1 q2,q5,hkeep s hs,q4];exact⟨oy (m1 i s cs' u q1 q2 q3),⟨cs,rfl⟩,⟨cs',rfl⟩,rfl,m3 s,λk hk=>h8 k (m2 s hs k hk)⟩)
  (λs hs t ht hne k hk=>by simp only[At hs]at hk;simp only[At ht];exact m4 s hs t ht hne k hk)
 have hbel:BelowK base.K w0 w1:=hb.trans ⟨h1.os,h1.tape,h1.output,h1.size,λk hk=>h1.block k ⟨hz k hk,λhm=>hnb k hm hk⟩⟩;have hst1:∀b o',base b->(St1 b o'↔St0 b o'):=λb o' hlt=>(h2 b o' (hz b hlt)<|λhm=>hnb b hm hlt).trans<|hst b o' hlt
 cases hdst:o.dst with
 |none=>exact⟨St1,_,g1,hbel,hst1,UC hz h1.size⟩
 |some d=>obtain⟨hd1,hd2⟩:=hd d hdst;exact⟨St1,_,g1.put hd1 hd2 h6.slot AR (by simp) h6.DM.1 h6.Sk,hbel,hst1,UC hz h1.size⟩
end
def known:V->Bool
 |.undef=>false
 |.gh _ _=>false
 |.same _=>false
 |.val _ _=>false
 |.tok _=>false
 |_=>true
def cE(b:Bool):V->Bool
 |.bool c=>c==b
 |_=>false
def gD(a:Array Oper)(j:Nat):Option Nat:=(a[j]?).bind (·.dst)
structure LO where
 dst:Option Nat
 op:Op
 ty:TypeId
 g:Option (Option Nat×Bool)
def CO(a:Array Oper)(o:Oper):LO:=⟨o.dst,o.op,o.type,o.guard.map λp=>(gD a p.1,p.2)⟩
def Mn(tb:Tb)(o:LO)(σ:PS)(K:PS->Prop):Prop:=
 match o.dst with
 |none=>False
 |some d=>match o.g with
  |none=>pc tb σ o.op∧K (upd σ d<|pv tb σ o.op)
  |some (none,_)=>False
  |some (some q,b)=>known (σ q)=true∧(cE b (σ q)=true->pc tb σ o.op∧K (upd σ d<|pv tb σ o.op))∧(cE b (σ q)=false->K (upd σ d<|.tup []))
structure Tag (p:Prop) where
 n:Nat
def iv(p:Prop)(_:Tag p):Prop:=p
def TC(P:Program)(o:LO)(f:FuncId)(a:List Operand)(σ:PS)(K:PS->Prop):Prop:=
 match o.g with
 |none=>a.all (λx=>(Cz σ x).isArg)=true∧∃r,km P σ f a r∧iv (K<|VH σ o.dst r) ⟨0⟩
 |some (q,b)=>match q,o.dst with
  |some q,some d=>known (σ q)=true∧(cE b (σ q)=true->a.all (λx=>(Cz σ x).isArg)=true∧∃r,km P σ f a r∧iv (K<|upd σ d r) ⟨0⟩)∧(cE b (σ q)=false->K (upd σ d<|.tup []))
  |_,_=>False
def S4(o:LO)(d:Nat)(σ:PS)(K:PS->Prop)(X:Prop):Prop:=
 match o.g with
 |none=>X
 |some (none,_)=>False
 |some (some q,b)=>known (σ q)=true∧(cE b (σ q)=true->X)∧(cE b (σ q)=false->K (upd σ d<|.tup []))
def DM(c:V):Bool:=match C0 c with
 |none=>true
 |some _=>false
def W7(P:Program)(o:LO)(f:FuncId)(x:Operand)(xs:List Operand)(σ:PS)(K:PS->Prop):Prop:=
 ∃s cs cs' r,NQ σ x=.cref s 0∧σ s=.box cs∧cs.all J5=true∧xs.all (λx=>(Cz σ x).isArg)=true∧Kg P f cs (xs.map λx=>er<|Cz σ x) cs' r∧K (VH (upd σ s<|.box cs') o.dst r)
def Zg(P:Program)(o:LO)(f:FuncId)(a:List Operand)(σ:PS)(K:PS->Prop):Prop:=
 match a with
 |[]=>False
 |x::xs=>match o.dst with
  |none=>o.g=none∧W7 P o f x xs σ K
  |some d=>S4 o d σ K<|W7 P o f x xs σ K
def Afg(P:Program)(d:Option Nat)(f:FuncId)(a:List Operand)(σ:PS)(K:PS->Prop):Prop:=
 ∃s xs cs cs',∃D:zN,a=.tmp s::xs∧σ s=.box cs∧cs.all J5=false∧F7 cs=true∧xs.all (λx=>(Cz σ x).isArg&&nL D x)=true∧AeM P f cs (xs.map λx=>er<|Cz σ x) cs'∧D.contains s=false∧(∀q,q≠s->D.contains q=true∨MZ (σ q)=true)∧K (VH (upd (kill D σ) s<|.box cs') d<|.tup [])
def Afd(P:Program)(d:Option Nat)(f:FuncId)(a:List Operand)(σ:PS)(K:PS->Prop):Prop:=
 ∃zs x xs c us os b r,∃D:zN,a=zs++(x::(xs++c))∧(x::xs).map (Cz σ)=us.map V.tok∧σ gS=.gh us os∧F7 os=true∧(zs++c).all (λx=>(Cz σ x).isArg&&nL D x)=true∧UP P f (zs.map λx=>er<|Cz σ x) os (c.map λx=>er<|Cz σ x) b r∧D.contains gS=false∧(∀q,q≠gS->D.contains q=true∨MZ (σ q)=true)∧K (VH (upd (kill D σ) gS<|.gh us b) d r)
def Aff(P:Program)(d:Option Nat)(f:FuncId)(a:List Operand)(σ:PS)(K:PS->Prop):Prop:=
 ∃zs x s n b e cs cs' r,a=zs++[x]∧Cz σ x=.same s∧σ s=.uni e n cs∧aO cs=true∧aO cs'=true∧flt r=true∧zs.all (λx=>(Cz σ x).isArg)=true∧UP P f (zs.map λx=>er<|Cz σ x) [.own e n cs] [] [.own e b cs'] r∧K (VH (upd σ s<|.uni e b cs') d r)
def Zh(P:Program)(d:Option Nat)(f:FuncId)(a:List Operand)(σ:PS)(K:PS->Prop):Prop:=Afg P d f a σ K∨Afd P d f a σ K∨Aff P d f a σ K
def ax(P:Program)(o:LO)(f:FuncId)(a:List Operand)(σ:PS)(K:PS->Prop):Prop:=
 match o.dst with
 |none=>o.g=none∧Zh P none f a σ K
 |some d=>S4 o d σ K<|Zh P (some d) f a σ K
def Afe(P:Program)(o:LO)(f:FuncId)(a:List Operand)(d:Nat)(σ:PS)(K:PS->Prop):Prop:=
 ∃cs,o.g=none∧DM (σ d)=true∧a.all (λx=>(Cz σ x).isArg)=true∧NewAt P f (a.map λx=>erK<|Cz σ x) cs∧K (upd σ d<|.box cs)
def Lo(P:Program)(b:zN)(o:LO)(f:FuncId)(a:List Operand)(σ:PS)(K:PS->Prop):Prop:=
 if o.dst.toList.any b.contains=true then ∃d,o.dst=some d∧Afe P o f a d σ K else TC P o f a σ K∨Zg P o f a σ K∨ax P o f a σ K
def VZ(P:Program)(d:Option Nat)(u:Value)(a:List Operand)(σ:PS)(K:PS->Prop):Prop:=
 ∃f us ss c b r,∃D:zN,u=.func (.func f) #[] us.toArray∧ss.map σ=c.map V.box∧(ss.map λs=>σ<|gV s)=(ss.zip us).map (λp=>V.val p.1 p.2)∧ss.length=us.length∧ss.Nodup∧a.all (λx=>(Cz σ x).isArg)=true∧Aaq P σ f us c a b r∧(∀s∈ss,D.contains s=false)∧(∀q,q∉ss->D.contains q=true∨MZ (σ q)=true)∧K (VH (fA (kill D σ) ss b) d r)
def YB(P:Program)(b:zN)(o:LO)(u:Value)(a:List Operand)(σ:PS)(K:PS->Prop):Prop:=
 match o.dst with
 |none=>o.g=none∧VZ P none u a σ K
 |some d=>b.contains d=false∧S4 o d σ K (VZ P (some d) u a σ K)
def SZ(tb:Tb)(o:LO)(x:Operand)(d:Nat)(σ:PS)(K:PS->Prop):Prop:=
 match x with
 |.const (.slice none 0 0)=>match tb o.ty with
  |some (.sl e _ _ _)=>K<|upd σ d<|.own e 0 []
  |_=>False
 |.const (.pointer none)=>K<|upd σ d .undef
 |.tmp p=>match σ p with
  |.uni e n cs=>K<|upd (upd (kill [p] σ) p<|.dat n cs) d<|.own e n cs
  |.box _=>K<|upd σ d<|.cref p 0
  |.cref b o=>K<|upd σ d<|.cref b o
  |c=>c.isVal=true∧K (upd (CZ σ<|.tmp p) d c)
 |x=>(Cz σ x).isVal=true∧K (upd (CZ σ x) d<|Cz σ x)
def dc(x:Operand)(d:Nat)(σ:PS)(K:PS->Prop):Prop:=
 match x with
 |.tmp p=>match σ p with
  |.uni e n cs=>DM (kill [p] σ d)=true∧K (upd (kill [p] σ) d<|.uni e n cs)
  |_=>False
 |_=>False
def AdF(u:Value)(dd:TyD)(d:Nat)(σ:PS)(K:PS->Prop):Prop:=
 ∃q g off e n m cs,u=.pointer (some ⟨g,off,none⟩)∧(q=gS∨q=gU)∧σ q=.gh [.slice (some ⟨g,0,none⟩) n m] [.own e n cs]∧off+dd.size<=cs.length∧0 < dd.size∧K (upd σ d<|getCells dd cs off)
def ZI(tb:Tb)(t:TypeId)(x:Operand)(d:Nat)(σ:PS)(K:PS->Prop):Prop:=
 match tb t,NQ σ x with
 |some dd,.cref s off=>match C0 (σ s)with
  |some cs=>off+dd.size<=cs.length∧K (upd (upd σ s<|WM (σ s)<|RF dd.size cs off) d<|TW dd cs off)
  |none=>False
 |some dd,.adr cs off=>off+dd.size<=cs.length∧K (upd σ d<|getCells dd cs off)
 |some dd,.tok u=>AdF u dd d σ K
 |_,_=>False
def kR(s i d:Nat)(σ:PS)(K:PS->Prop):Prop:=
 match σ s with
 |.tup cs=>match cs[i]? with
  |some c=>cs.all V.isArg=true∧K (upd (upd σ s<|.tup<|cs.set i<|dg2 c) d c)
  |none=>False
 |_=>False
def Ajn(u:Value)(dd:TyD)(y:Operand)(σ:PS)(K:PS->Prop):Prop:=
 ∃g off e n m cs,∃D:zN,∃vc:List V,u=.pointer (some ⟨g,off,none⟩)∧σ gS=.gh [.slice (some ⟨g,0,none⟩) n m] [.own e n cs]∧Ee cs=true∧Aer σ y vc∧Ee vc=true∧vc.length=dd.size∧off+dd.size<=cs.length∧((yT y).contains gS || D.contains gS)=false∧
  (∀q,q≠gS->D.contains q=true∨MZ (CZ σ y q)=true)∧K (upd (kill D<|CZ σ y) gS<|.gh [.slice (some ⟨g,0,none⟩) n m] [.own e n (Qg cs off vc)])
def j9(tb:Tb)(t:TypeId)(x y:Operand)(σ:PS)(K:PS->Prop):Prop:=
 match tb t,NQ σ x with
 |some dd,.cref s off=>match C0 (σ s)with
  |some cs=>(Cz σ y).isArg=true∧(Ij<|Cz σ y).length=dd.size∧off+dd.size<=cs.length∧K (upd (CZ σ y) s<|WM (σ s)<|Qg cs off<|Ij<|Cz σ y)
  |none=>False
 |some dd,.tok u=>Ajn u dd y σ K
 |_,_=>False
def Yv(tb:Tb)(t:TypeId)(d:Nat)(σ:PS)(K:PS->Prop):Prop:=
 match tb t with
 |some dd=>DM (σ d)=true∧K (upd σ d<|.box<|fC dd)
 |none=>False
def boxS(x:Operand)(d:Nat)(σ:PS)(K:PS->Prop):Prop:=(Cz σ x).isArg=true∧DM (CZ σ x d)=true∧K (upd (CZ σ x) d<|.box<|Ij<|Cz σ x)
def W4(tb:Tb)(t:TypeId)(parts:List (Nat×Operand))(d:Nat)(σ:PS)(K:PS->Prop):Prop:=
 match tb t with
 |some (.st _ z a)=>match SM (λi=>a[i]?) parts σ z with
  |some (σ',cs)=>K<|upd σ' d<|.agg cs
  |none=>False
 |_=>False
def kA(tb:Tb)(t:TypeId)(n:Nat)(parts:List (Nat×Operand))(d:Nat)(σ:PS)(K:PS->Prop):Prop:=
 match tb t with
 |some (.sl e es _ a)=>match SM (λi=>some (i * es,es)) parts σ (Uq a es n)with
  |some (σ',cs)=>n * es<=16777216∧cs.length=n * es∧K (upd σ' d<|.own e n cs)
  |none=>False
 |_=>False
def gA(tb:Tb)(t:TypeId)(x y:Operand)(d:Nat)(σ:PS)(K:PS->Prop):Prop:=
 match tb t,Cz σ x,Cz σ y with
 |some (.sl e es _ a),.int _ n,.int _ m=>0<=n∧n=m∧n.toNat<=lim∧K (upd σ d<|.own e n.toNat<|Uq a es n.toNat)
 |_,_,_=>False
def gC(tb:Tb)(t:TypeId)(x y:Operand)(d:Nat)(σ:PS)(K:PS->Prop):Prop:=
 match tb t,Cz σ x,Cz σ y with
 |some (.sl e es _ a),.int _ n,.int _ m=>0<=n∧n=m∧n.toNat<=lim∧DM (σ d)=true∧K (upd σ d<|.uni e n.toNat<|Uq a es n.toNat)
 |_,_,_=>False
def cZ(tb:Tb)(t a:TypeId)(x y:Operand)(d:Nat)(σ:PS)(K:PS->Prop):Prop:=
 match tb t,Cz σ x,Mk (Cz (CZ σ x) y)with
 |some (.sl e es _ _),.own b n cs,some (m,ds)=>a=t∧b=e∧ds.length=m * es∧n+m<=lim∧(K (upd (CZ (CZ σ x) y) d<|.own e (n+m)<|cs++au (Cz (CZ σ x) y))∨K (upd (upd (CZ (CZ σ x) y) d<|.own e (n+m)<|cs++au (Cz (CZ σ x) y)) d<|.own e (n+m)<|(cs++au (Cz (CZ σ x) y)).map WG)∧(cs++au (Cz (CZ σ x) y)).all V.DF=true)
 |_,_,_=>False
def e9(a:zN)(o:LO)(σ:PS)(K:PS->Prop):Prop:=
 match o.dst,o.g with
 |some d,some (some q,b)=>a.contains d=false∧known (σ q)=true∧cE b (σ q)=false∧K (upd σ d<|.tup [])
 |_,_=>False
def W6(P:Program)(tb:Tb)(b:zN)(o:LO)(c:Call)(σ:PS)(K:PS->Prop):Prop:=
 match c.callee,o.dst,c.args.toList,c.argTypes.toList with
 |.value x,_,a,_=>match Cz σ x with
  |.fn f=>Lo P b o f a σ K
  |.tok u=>YB P b o u a σ K
  |_=>e9 b o σ K
 |.builtin .append,some d,[x,y],[t,e]=>S4 o d σ K<|cZ tb t e x y d σ K
 |_,_,_,_=>Mn tb o σ K
def xh(P:Program)(t:TypeId)(f:Nat):Option Nat:=match P.underlying t with
 |some (.struct b)=>match b[f]? with
  |some a=>match P.underlying a.type with
   |some (.struct _)=>none
   |some (.array _ _)=>none
   |some _=>some a.offset
   |none=>none
  |none=>none
 |_=>none
def mZ(P:Program)(t:TypeId)(x:Operand)(f d:Nat)(σ:PS)(K:PS->Prop):Prop:=
 match xh P t f,Cz σ x with
 |some off,.agg cs=>match cs[off]? with
  |some c=>K<|upd σ d<|WG c
  |none=>False
 |_,_=>False
def iN(σ:PS):List Operand->Option (List Value)
 |[]=>some []
 |.tmp p::xs=>match σ (gV p)with
  |.val q u=>if q=p then(iN σ xs).map (u:: ·)else none
  |_=>none
 |_::_=>none
def mkF(f:FuncId)(b a:List Operand)(d:Nat)(σ:PS)(K:PS->Prop):Prop:=
 match b,iN σ a with
 |[],some us=>K<|upd σ d<|.tok<|.func (.func f) #[] us.toArray
 |_,_=>False
def Hh(P:Program)(tb:Tb)(a:zN)(o:LO)(σ:PS)(K:PS->Prop):Prop:=
 match o.op,o.dst with
 |.assign x,some d=>if a.contains d=true then o.g=none∧dc x d σ K else o.g=none∧SZ tb o x d σ K
 |.move x,some d=>if a.contains d=true then o.g=none∧SZ tb o x d σ K else Mn tb o σ K
 |.load t x,some d=>if a.contains d=true then o.g=none∧ZI tb t x d σ K else Mn tb o σ K
 |.extract (.tmp s) i,some d=>o.g=none∧kR s i d σ K
 |.store t x y,none=>o.g=none∧j9 tb t x y σ K
 |.alloc t,some d=>o.g=none∧Yv tb t d σ K
 |.box _ x,some d=>o.g=none∧boxS x d σ K
 |.build t ps,some d=>S4 o d σ K<|W4 tb t ps.toList d σ K
 |.buildSlice t n ps,some d=>S4 o d σ K<|kA tb t n ps.toList d σ K
 |.makeSlice t x y,some d=>if a.contains d=true then o.g=none∧gC tb t x y d σ K else o.g=none∧gA tb t x y d σ K
 |.call c,_=>W6 P tb a o c σ K
 |.field t x f,some d=>S4 o d σ K<|mZ P t x f d σ K
 |.makeFunc (.func f) e b,some d=>S4 o d σ K<|mkF f e.toList b.toList d σ K
 |_,_=>Mn tb o σ K
def dK(c:Call):Bool:=match c.callee with
 |.value _=>true
 |_=>false
def gJ(nt:Nat)(bx:zN)(o:Oper):Bool:=
 match o.dst with
 |none=>true
 |some d=>decide (d < nt)&&(match o.op with
  |.alloc _|.box _ _=>bx.contains d
  |.assign _|.makeSlice _ _ _=>true
  |.call c=>dK c || !bx.contains d
  |_=> !bx.contains d)
def z6(bx:zN)(o:Oper):Bool:=
 match o.dst with
 |none=>true
 |some d=> !bx.contains (Sj+d)
def Xn(nt:Nat)(bx:zN)(o:Oper):Bool:=gJ nt bx o&&z6 bx o
def jI{nt bx o}(h:Xn nt bx o=true):gJ nt bx o=true:=by unfold Xn at h;rw[Ad]at h;exact h.1
def ep{nt bx o d}(h:Xn nt bx o=true)(a:o.dst=some d):Sj+d∉bx:=by unfold Xn z6 at h;rw[Ad,a]at h;have h:=h.2;intro b;simp[b]at h
def okA(bx a:zN)(o:LO):Bool:=
 match o.op,o.dst with
 |.assign _,some d=>a.contains d==bx.contains d
 |.makeSlice _ _ _,some d=>a.contains d==bx.contains d
 |.call c,some d=> !dK c || a.contains d==bx.contains d
 |_,_=>true
def Yk(P:Program)(nt:Nat)(bx:zN)(b:Array Oper)(o:Oper)(σ:PS)(K:PS->Prop):Prop:=
 ∀base St0 c a w Q,Rel P nt bx base St0 c σ a w->
  if Region.wanted o (yielded b a.tmps)then o.wp P a w (λa' w'=>∃σ',K σ'∧Rel P nt bx base St0 c σ' a' w') Q else ∃σ',K σ'∧Rel P nt bx base St0 c σ' (a.put o.dst undef) w
section
variable {P:Program}{nt:Nat}{base:Bs}{bx:zN}{ops:Array Oper}{σ:PS}{K:PS->Prop}{o:Oper}{tb:Tb}
def E0(c:o.guard=none)(h:∀base St0 b,WY P nt bx base St0 b o σ K):Yk P nt bx ops o σ K:=by
 intro base St0 b a w Q d;have:Region.wanted o (yielded ops a.tmps)=true:=by simp[Region.wanted,c]
 rw[At this];exact h base St0 b a w Q d
def j1{w St t c b bs}(a:known c=true)(i:cE b c=false):¬Ci P w St t c (.bool b) bs:=by
 intro h;cases c with
 |undef=>cases a
 |gh us cs=>cases a
 |same s=>cases a
 |val s u=>cases a
 |bool c=>have:=RK h;simp only[Value.bool.injEq]at this;subst this;simp[cE]at i
 |int k n=>have:=Hd h;cases this
 |str s=>have:=(Sm h).1;cases this
 |own e n cs=>have⟨_,A,c,e,_⟩:=Nh (c:=.own e n cs) rfl h;cases e
 |dat n cs=>have⟨_,A,c,e,_⟩:=Nh (c:=.dat n cs) rfl h;cases e
 |agg cs=>have⟨us,e,_⟩:=h;cases e
 |tup cs=>have⟨us,e,_⟩:=h;cases e
 |arg n cs=>have⟨_,A,c,e,_⟩:=Nh (c:=.arg n cs) rfl h;cases e
 |pin u n cs=>have⟨_,A,c,e,_⟩:=Nh (c:=.pin u n cs) rfl h;cases e
 |fn f=>have e:=h.2;cases e
 |tok u=>cases a
 |box cs=>have⟨g,T,b',d,e,_⟩:=h;cases e
 |uni e n cs=>have⟨g,b',d,e,_⟩:=h;cases e
 |cref s o=>have⟨_,g,_,e⟩:=h;cases e
 |adr cs o=>have⟨_,g,_,e,_⟩:=h;cases e
def guard_of{St0 w0 w a}(m:Rel P nt bx base St0 w0 σ a w){j q:Nat}{b:Bool}(n:o.guard=some (j,b))(l:gD ops j=some q)(d:known (σ q)=true):Region.wanted o (yielded ops a.tmps)=cE b (σ q):=by
 have⟨t,B,h,_⟩:=m;have i:=h.slot q;have p:Region.wanted o (yielded ops a.tmps)=((match a.tmps[q]? with|some (.bool c)=>some c|_=>none:Option Bool)==some b):=by unfold gD at l;simp only[Region.wanted,n,yielded,l,PZ];rfl
 have g:∀v,a.tmps[q]? =some v->tm a q=v:=by intro v e;unfold tm;rw[Dt,e];rfl
 rw[p];cases f:σ q with
 |bool c=>
  rw[f]at i;have e:=RK i;cases k:a.tmps[q]? with
  |none=>unfold tm at e;rw[Dt,k]at e;simp[undef]at e
  |some u=>rw[g u k]at e;subst e;simp[cE]
 |undef=>rw[f]at d;cases d
 |gh us cs=>rw[f]at d;cases d
 |same s=>rw[f]at d;cases d
 |val s u=>rw[f]at d;cases d
 |tok u=>rw[f]at d;cases d
 |_=>
  cases k:a.tmps[q]? with
  |none=>rfl
  |some u=>
   have r:=g u k;rw[f,r]at i;cases u with
   |bool c=>exact absurd i<|j1 (by rfl)<|by rfl
   |_=>rfl
def ZV{St0 w0 w a}(g:Rel P nt bx base St0 w0 σ a w){d:Nat}(i:d < nt)(j:d∉bx):Rel P nt bx base St0 w0 (upd σ d<|.tup []) (a.put (some d) undef) w:=by have⟨f,B,h,k,c,l⟩:=g;have m:Ow P w f (.tup []) undef []:=⟨[],rfl,rfl,rfl⟩;exact⟨f,upd B d [],h.put i j m.slot AR (by simp) rfl (by intro b e;cases e),k,c,l⟩
def uH:Op->Bool
 |.alloc _|.box _ _|.assign _|.makeSlice _ _ _=>true
 |.call c=>dK c
 |_=>false
def Wh{d}(h:Xn nt bx o=true)(c:o.dst=some d)(a:uH o.op=false):d < nt∧d∉bx:=by replace h:=jI h;unfold gJ at h;rw[c]at h;simp only[Ad,Bu]at h;refine⟨h.1,?_⟩;have b:=h.2;cases e:o.op<;>rw[e]at b a<;>first|(cases a;done)|(simpa using b;done)|(simp only[uH]at a;simp only[a,CH]at b;simpa using b;done)
def uS{d}(h:Xn nt bx o=true)(c:o.dst=some d)(a:(match o.op with|.alloc _|.box _ _=>true|_=>false)=true):d < nt∧d∈bx:=by replace h:=jI h;unfold gJ at h;rw[c]at h;simp only[Ad,Bu]at h;refine⟨h.1,?_⟩;have b:=h.2;cases e:o.op<;>rw[e]at b a<;>first|(cases a;done)|(simpa using b;done)
def pQ{cns d c}(a:Xn nt bx o=true)(g:okA bx cns (CO ops o)=true)(b:o.op=.call c)(i:dK c=true)(e:o.dst=some d):d < nt∧(cns.contains d=true->d∈bx)∧(cns.contains d=false->d∉bx):=by
 have j:d < nt:=by replace a:=jI a;unfold gJ at a;rw[e]at a;simp only[Ad,Bu]at a;exact a.1
 have f:cns.contains d=bx.contains d:=by simpa[okA,CO,b,e,i]using g
 refine⟨j,λh=>?_,λh k=>?_⟩
 ·rw[f]at h;simpa using h
 ·rw[f]at h;simp at h;exact h k
def UE(i:Lr P tb)(l:Xn nt bx o=true)(m:uH o.op=false)(h:Mn tb (CO ops o) σ K):Yk P nt bx ops o σ K:=by
 simp only[Mn,CO]at h;cases f:o.dst with
 |none=>rw[f]at h;exact h.elim
 |some d=>
  rw[f]at h;have⟨c,e⟩:=Wh l f m;simp only at h;cases k:o.guard with
  |none=>rw[k]at h;exact E0 k<|λbase St0 t=>eD i f c e h.1 h.2
  |some g=>
   have⟨j,b⟩:=g;rw[k]at h;simp only[B3]at h;cases n:gD ops j with
   |none=>rw[n]at h;exact h.elim
   |some q=>
    rw[n]at h;have⟨u,s,v⟩:=h;intro base St0 t a w Q p;rw[guard_of p k n u];cases r:cE b (σ q)with
    |true=>simp only[EL];exact eD i f c e (s r).1 (s r).2 a w Q p
    |false=>simp only[Ca,Dz];rw[f];exact⟨_,v r,ZV p c e⟩
def P7{d}{X:Prop}(p:o.dst=some d)(e:d < nt)(f:d∉bx)(m:X->∀base St0 i,WY P nt bx base St0 i o σ K)(h:S4 (CO ops o) d σ K X):Yk P nt bx ops o σ K:=by
 simp only[S4,CO]at h;cases c:o.guard with
 |none=>rw[c]at h;exact E0 c<|m h
 |some g=>
  have⟨j,b⟩:=g;rw[c]at h;simp only[B3]at h;cases k:gD ops j with
  |none=>rw[k]at h;exact h.elim
  |some q=>
   rw[k]at h;have⟨r,s,t⟩:=h;intro base St0 i a w Q l;rw[guard_of l c k r];cases n:cE b (σ q)with
   |true=>simp only[EL];exact m (s n) base St0 i a w Q l
   |false=>simp only[Ca,Dz];rw[p];exact⟨_,t n,ZV l e f⟩
def kF{f cal args c}(l:Cz σ cal=.fn f)(p:o.op=.call c)(m:c.callee=.value cal)(e:c.args.toList=args)(k:∀d,o.dst=some d->d < nt∧d∉bx)(h:TC P (CO ops o) f args σ K):Yk P nt bx ops o σ K:=by
 have i:o.op=.call {callee:=.value cal,args:=c.args,argTypes:=c.argTypes}:=by rw[p,<-m]
 simp only[TC,CO]at h;cases n:o.guard with
 |none=>rw[n]at h;have⟨s,r,t,u⟩:=h;exact E0 n<|λbase St0 B=>lU l i (by rw[e];exact s) (by rw[e];exact t) k u
 |some g=>
  have⟨j,b⟩:=g;rw[n]at h;simp only[B3]at h;split at h
  ·rename_i q d C v;have⟨s,t,u⟩:=h;have⟨x,y⟩:=k d v;intro base St0 B a w Q z;rw[guard_of z n C s];cases A:cE b (σ q)with
   |true=>simp only[EL];have⟨D,r,F,H⟩:=t A;refine lU l i (by rw[e];exact D) (by rw[e];exact F) k ?_ a w Q z;rw[v];exact H
   |false=>simp only[Ca,Dz];rw[v];exact⟨_,u A,ZV z x y⟩
  ·exact h.elim
def kE{f cal args c}(j:Cz σ cal=.fn f)(k:o.op=.call c)(b:c.callee=.value cal)(a:c.args.toList=args)(e:∀d,o.dst=some d->d < nt∧d∉bx)(h:Zg P (CO ops o) f args σ K):Yk P nt bx ops o σ K:=by
 have g:o.op=.call {callee:=.value cal,args:=c.args,argTypes:=c.argTypes}:=by rw[k,<-b]
 unfold Zg at h;split at h
 ·exact h.elim
 ·rename_i x xs;have i:W7 P (CO ops o) f x xs σ K->∀base St0 n,WY P nt bx base St0 n o σ K:=λ⟨s,cs,cs',r,q,t,u,v,w,y⟩ base St0 n=>rG j g a q t u v w e y
  split at h
  ·exact E0 (by simpa[CO]using h.1)<|i h.2
  ·rename_i d p;have⟨l,m⟩:=e d p;exact P7 p l m i h
def iL{f cal args c}(i:Cz σ cal=.fn f)(A:o.op=.call c)(j:c.callee=.value cal)(a:c.args.toList=args)(g:∀d,o.dst=some d->d < nt∧d∉bx)(h:ax P (CO ops o) f args σ K):Yk P nt bx ops o σ K:=by
 have b:o.op=.call {callee:=.value cal,args:=c.args,argTypes:=c.argTypes}:=by rw[A,<-j]
 have k:Zh P o.dst f args σ K->∀base St0 F,WY P nt bx base St0 F o σ K:=λh base St0 F=>h.elim (λ⟨s,xs,cs,cs',D,l,m,z,p,q,t,u,v,w⟩=>rF i b (by rw[a];exact l) m p q t u v g w)
  (λh=>h.elim (λ⟨zs,x,xs,I,us,os,H,r,D,l,m,z,p,q,t,u,v,w⟩=>rD i b (zs:=zs) (xs:=x::xs) (by rw[a];exact l) m z p q t u v g w)
   (λ⟨zs,x,s,n,J,e,cs,cs',r,l,m,z,p,q,t,u,v,w⟩=>rH i b (by rw[a];exact l) m z p q t u v g w))
 unfold ax at h;split at h
 ·rename_i y;exact E0 (by simpa[CO]using h.1)<|k<|by rw[show o.dst=none from y];exact h.2
 ·rename_i d y;have⟨B,C⟩:=g d y;exact P7 y B C (λh=>k<|by rw[show o.dst=some d from y];exact h) h
def iM{u cal args c cns}(hcv:Cz σ cal=.tok u)(hop:o.op=.call c)(hcal:c.callee=.value cal)(hargs:c.args.toList=args)(hdd:∀d,o.dst=some d->cns.contains d=false->d < nt∧d∉bx)(h:YB P cns (CO ops o) u args σ K):Yk P nt bx ops o σ K:=by
 have hop':o.op=.call {callee:=.value cal,args:=c.args,argTypes:=c.argTypes}:=by rw[hop,<-hcal]
 have key:(∀d,o.dst=some d->d < nt∧d∉bx)->VZ P o.dst u args σ K->∀base St0 w0,WY P nt bx base St0 w0 o σ K:=λhdd ⟨f,us,ss,css,css',r,D,q1,q2,q3,q4,q5,q6,q7,q8,q9,q10⟩ base St0 w0=>rI (by rw[hcv,q1]) hop' q2 q3 q4 q5 (by rw[hargs];exact q6) (by rw[hargs];exact q7) q8 q9 hdd q10
 unfold YB at h;split at h
 ·rename_i hd;have hd:o.dst=none:=hd;exact E0 (by simpa[CO]using h.1)<|key (λd e=>by rw[hd]at e;cases e)<|by rw[hd];exact h.2
 ·rename_i d hd;have hd:o.dst=some d:=hd;have⟨hd1,hd2⟩:=hdd d hd h.1;exact P7 hd hd1 hd2 (λh=>key (λd' e=>by rw[hd]at e;cases e;exact⟨hd1,hd2⟩)<|by rw[hd];exact h) h.2
def VD{c}(h:DM c=true):C0 c=none:=by
 unfold DM at h;split at h
 ·rename_i e;exact e
 ·cases h
def z5{cns d}(a:Xn nt bx o=true)(f:okA bx cns (CO ops o)=true)(b:(∃x,o.op=.assign x)∨∃t x y,o.op=.makeSlice t x y)(c:o.dst=some d):d < nt∧(cns.contains d=true->d∈bx)∧(cns.contains d=false->d∉bx):=by
 have g:d < nt:=by replace a:=jI a;unfold gJ at a;rw[c]at a;simp only[Ad,Bu]at a;exact a.1
 have e:cns.contains d=bx.contains d:=by rcases b with⟨x,b⟩|⟨t,x,y,b⟩<;>simpa[okA,CO,b,c]using f
 refine⟨g,λh=>?_,λh i=>?_⟩
 ·rw[e]at h;simpa using h
 ·rw[e]at h;simp at h;exact h i
def db{x d}(a:o.op=.assign x∨o.op=.move x)(g:o.dst=some d)(i:o.guard=none)(c:d < nt)(f:d∉bx)(h:SZ tb (CO ops o) x d σ K):Yk P nt bx ops o σ K:=by
 unfold SZ at h;split at h
 ·split at h
  ·exact E0 i<|λbase St0 k=>yf a g c f h
  ·exact h.elim
 ·exact E0 i<|λbase St0 k=>uZ a g c f h
 ·rename_i p;split at h
  ·rename_i e n cs j;exact E0 i<|λbase St0 k=>rN a j g c f h
  ·rename_i cs j;exact E0 i<|λbase St0 k=>gW a (by simp only[NQ,j]) (.inl ⟨cs,by rw[j];rfl⟩) g c f h
  ·rename_i b l j;exact E0 i<|λbase St0 k=>gW a (by simp only[NQ,j]) (.inr<|by rw[j];rfl) g c f h
  ·exact E0 i<|λbase St0 k=>eE a g c f h.1 h.2
 ·exact E0 i<|λbase St0 k=>eE a g c f h.1 h.2
def mI{x d}(a:o.op=.assign x)(g:o.dst=some d)(i:o.guard=none)(b:d < nt)(c:d∈bx)(f:Sj+d∉bx)(h:dc x d σ K):Yk P nt bx ops o σ K:=by
 unfold dc at h;split at h
 ·rename_i p;split at h
  ·rename_i e n cs j;exact E0 i<|λbase St0 k=>uX (.inl a) j g b c f (VD h.1) h.2
  ·exact h.elim
 ·exact h.elim
def rJ{St0 w0 t x f d off cs c}(k:o.op=.field t x f)(e:xh P t f=some off)(z:Cz σ x=.agg cs)(A:cs[off]? =some c)(C:o.dst=some d)(D:d < nt)(F:d∉bx)(H:K (upd σ d<|WG c)):WY P nt bx base St0 w0 o σ K:=by
 rintro a w Q ⟨s,B,h,I,l,J⟩;have⟨b,v⟩:=N9 h x;rw[z]at v;have⟨us,L,M⟩:=v;have⟨u,N,O⟩:=(Bj.rdL cs M).get off c A;have g:Ow P w s (WG c) u []:=Ow.Aev O.cb
 have i:(execOp a.eval o).run P w=.ok (.value u) w:=by
  unfold xh at e;split at e
  ·rename_i S m;split at e
   ·rename_i y n
    have j:us.toArray[y.offset]? =some u∧(isAgg y.type).run P w=.ok false w:=by
     split at e
     ·cases e
     ·cases e
     ·rename_i R p q r;injection e with e
      subst e;refine⟨by simpa using N,?_⟩;simp only[Go.isAgg,Bp,By r,A4];cases R<;>first|rfl|exact absurd rfl (p _)|exact absurd rfl<|q _ _
     ·cases e
    simp only[execOp,k,Instr.field,Bp,By m,A4,n,L,asAgg,BI,part,j.2,Ca,Dz,j.1]
   ·cases e
  ·cases e
 refine Nv i ⟨_,H,s,upd B d [],?_,I,l,J⟩;rw[C];exact h.put D F g.slot AR (by simp) g.DM.1 g.Sk
def kG{St B hand a w}(h:HSim P nt bx base St B hand σ a w):∀{xs:List Operand}{us:List Value},iN σ xs=some us->xs.map a.eval=us
 |[],us,e=>by simp only[iN,Ay]at e;subst e;rfl
 |.tmp p::xs,us,e=>by
  unfold iN at e;split at e
  ·rename_i q u f;split at e
   ·rename_i b;subst b;cases c:iN σ xs with
    |none=>rw[c]at e;cases e
    |some vs=>rw[c]at e;simp only[B3,Ay]at e;subst e;have d:=h.slot<|gV q;rw[f]at d;rw[AH,kG h c];have:a.eval (.tmp q)=u:=d.2.symm;rw[this]
   ·cases e
  ·cases e
 |.const _::_,us,e=>by cases e
 |.global _::_,us,e=>by cases e
 |.func _::_,us,e=>by cases e
def ye{St0 w0 f fs caps us d}(e:o.op=.makeFunc (.func f) fs caps)(j:fs.toList=[])(k:iN σ caps.toList=some us)(l:o.dst=some d)(m:d < nt)(n:d∉bx)(p:K (upd σ d<|.tok<|.func (.func f) #[] us.toArray)):WY P nt bx base St0 w0 o σ K:=by
 rintro a w Q ⟨i,B,h,q,g,r⟩;have s:fs= #[]:=by rw[<-Ea (xs:=fs),j]
 have e2:caps.map a.eval=us.toArray:=by rw[<-kG h k,<-Jp,Ea]
 have c:(execOp a.eval o).run P w=.ok (.value<|.func (.func f) #[] us.toArray) w:=by simp[execOp,e,Instr.makeFunc,s,e2]
 refine Nv c ⟨_,p,i,upd B d [],?_,q,g,r⟩;rw[l];have b:Ow P w i (.tok<|.func (.func f) #[] us.toArray) (.func (.func f) #[] us.toArray) []:=⟨rfl,rfl,rfl⟩;exact h.put m n b.slot AR (by simp) b.DM.1 b.Sk
def aI(C:Lr P tb){Z:zN}(A:Xn nt bx o=true)(hA:okA bx Z (CO ops o)=true)(h:Hh P tb Z (CO ops o) σ K):Yk P nt bx ops o σ K:=by
 have H:(CO ops o).g=none->o.guard=none:=by intro e;simpa[CO]using e
 have hlo:(CO ops o).op=o.op:=rfl;have hld:(CO ops o).dst=o.dst:=rfl;unfold Hh at h;rw[hlo,hld]at h;split at h
 ·rename_i x d v p;have⟨U,q2,Y⟩:=z5 A hA (.inl ⟨x,v⟩) p;split at h
  ·rename_i J;exact mI v p (H h.1) U (q2 J) (ep A p) h.2
  ·rename_i J;exact db (.inl v) p (H h.1) U (Y<|by simpa using J) h.2
 ·rename_i x d v p;split at h
  ·have⟨r,l⟩:=Wh A p (by rw[v];rfl);exact db (.inr v) p (H h.1) r l h.2
  ·exact UE C A (by rw[v];rfl) h
 ·rename_i t x d v p;split at h
  ·have⟨B,h⟩:=h;replace B:=H B;have⟨r,l⟩:=Wh A p (by rw[v];rfl);unfold ZI at h;split at h
   ·rename_i dd s off I L;split at h
    ·rename_i cs hs;exact E0 B<|λbase St0 O=>jL C v I L hs h.1 p r l h.2
    ·exact h.elim
   ·rename_i dd cs off I L;refine E0 B<|λbase St0 O=>eD C p r l ?_ ?_
    ·rw[v];simp only[pc,I,L,Wd,Xm];exact h.1
    ·rw[v];simp only[pv,I,L,We,ZJ];exact h.2
   ·rename_i dd u I L;obtain⟨q,g,off,e,n,m,cs,rfl,-,k1,k2,k3,k4⟩:=h;exact E0 B<|λbase St0 O=>rK C v I L k1 k2 k3 p r l k4
   ·exact h.elim
  ·exact UE C A (by rw[v];rfl) h
 ·rename_i s i d v p;have⟨B,h⟩:=h;replace B:=H B;have⟨r,l⟩:=Wh A p (by rw[v];rfl);unfold kR at h;split at h
  ·rename_i cs hs;split at h
   ·rename_i c J;exact E0 B<|λbase St0 O=>lV v p r l hs J h.1 h.2
   ·exact h.elim
  ·exact h.elim
 ·rename_i t x y v p;have⟨B,h⟩:=h;replace B:=H B;unfold j9 at h;split at h
  ·rename_i dd s off I L;split at h
   ·rename_i cs hs;have⟨T,R,N,W⟩:=h;exact E0 B<|λbase St0 O=>rM C v I L hs T R N p W
   ·exact h.elim
  ·rename_i dd u I L;obtain⟨g,off,e,n,m,cs,D,vc,rfl,T,R,N,W,h5,h6,h7,h8,h9⟩:=h;exact E0 B<|λbase St0 O=>u3 C v I L T R N W h5 h6 p D h7 h8 h9
  ·exact h.elim
 ·rename_i t d v p;have⟨B,h⟩:=h;replace B:=H B;have⟨r,l⟩:=uS A p (by rw[v]);unfold Yv at h;split at h
  ·rename_i dd I;exact E0 B<|λbase St0 O=>rB C v I p r l (ep A p) (VD h.1) h.2
  ·exact h.elim
 ·rename_i t x d v p;have⟨B,h⟩:=h;replace B:=H B;have⟨r,l⟩:=uS A p (by rw[v]);have⟨T,R,N⟩:=h;exact E0 B<|λbase St0 O=>yd v p r l (ep A p) T (VD R) N
 ·rename_i t ps d v p;have⟨r,l⟩:=Wh A p (by rw[v];rfl);refine P7 p r l (λh base St0 O=>?_) h;unfold W4 at h;split at h
  ·rename_i n z fs I;split at h
   ·rename_i σ' cs hf;exact rC C v I hf p r l h
   ·exact h.elim
  ·exact h.elim
 ·rename_i t n ps d v p;have⟨r,l⟩:=Wh A p (by rw[v];rfl);refine P7 p r l (λh base St0 O=>?_) h;unfold kA at h;split at h
  ·rename_i e es eb ez I;split at h
   ·rename_i σ' cs hf;have⟨T,R,N⟩:=h;exact eC C v I T hf R p r l N
   ·exact h.elim
  ·exact h.elim
 ·rename_i t x y d v p;have⟨r,hd3,hd4⟩:=z5 A hA (.inr ⟨t,x,y,v⟩) p;split at h
  ·rename_i J;have l:=hd3 J;have⟨B,h⟩:=h;replace B:=H B;unfold gC at h;split at h
   ·rename_i e es eb ez k n k' m I M hy;obtain⟨h0,rfl,R,W,N⟩:=h;obtain⟨n,rfl⟩:=Int.eq_ofNat_of_zero_le h0;exact E0 B<|λbase St0 O=>rL C v I M hy (by simpa using R) p r l (ep A p) (VD W)<|by simpa using N
   ·exact h.elim
  ·rename_i J;have l:=hd4 (by simpa using J);have⟨B,h⟩:=h;replace B:=H B;unfold gA at h;split at h
   ·rename_i e es eb ez k n k' m I M hy;obtain⟨h0,rfl,R,N⟩:=h;obtain⟨n,rfl⟩:=Int.eq_ofNat_of_zero_le h0;exact E0 B<|λbase St0 O=>uY C v I M hy (by simpa using R) p r l<|by simpa using N
   ·exact h.elim
 ·rename_i d c v;unfold W6 at h;split at h
  ·rename_i x F;have X:dK c=true:=by unfold dK;rw[F]
   split at h
   ·rename_i f S;unfold Lo at h;split at h
    ·rename_i J;have⟨d',hd',cs,h0,T,R,N,W⟩:=h;have l:o.dst=some d':=hd';have⟨U,q2,Y⟩:=pQ A hA v X l;have hcc:Z.contains d'=true:=by have:(CO ops o).dst=some d':=hd';rw[this]at J;simpa using J
     exact E0 (H h0)<|λbase St0 O=>rE S (by rw[v,<-F]) R N l U (q2 hcc) (ep A l) (VD T) W
    ·rename_i J;have hdd:∀d,o.dst=some d->d < nt∧d∉bx:=λd p=>by have⟨U,q2,Y⟩:=pQ A hA v X p;refine⟨U,Y ?_⟩;have:(CO ops o).dst=some d:=p;rw[this]at J;simpa using J
     rcases h with h|h|h
     ·exact kF S v F rfl hdd h
     ·exact kE S v F rfl hdd h
     ·exact iL S v F rfl hdd h
   ·rename_i u S;exact iM S v F rfl (λd p J=>by have⟨U,q2,Y⟩:=pQ A hA v X p;exact⟨U,Y J⟩) h
   ·unfold e9 at h;split at h
    ·rename_i d q b p B;have p:o.dst=some d:=p;have⟨U,q2,Y⟩:=pQ A hA v X p;cases hgo':o.guard with
     |none=>simp[CO,hgo']at B
     |some g=>have⟨j,b'⟩:=g;simp only[CO,hgo',B3,Ay,Ch]at B;have⟨hg1,hg2⟩:=B;subst hg2;intro base St0 O a w Q hr;rw[guard_of hr hgo' hg1 h.2.1,h.2.2.1];simp only[Ca,Dz];rw[p];exact⟨_,h.2.2.2,ZV hr U<|Y h.1⟩
    ·exact h.elim
  ·rename_i d' x y t t' F p hargs hts;have⟨r,l⟩:=Wh A p (by rw[v];simp only[uH,dK,F]);refine P7 p r l (λh base St0 O=>?_) h;unfold cZ at h;split at h
   ·rename_i e es eb ez e' n cs m ds I M hy;obtain⟨rfl,rfl,T,R,N⟩:=h
    have hop:o.op=.call {callee:=.builtin .append,args:= #[x,y],argTypes:= #[t',t']}:=by
     rw[v];have e1:c.args= #[x,y]:=by rw[<-Ea (xs:=c.args),hargs]
     have e2:c.argTypes= #[t',t']:=by rw[<-Ea (xs:=c.argTypes),hts]
     rw[<-F,<-e1,<-e2]
    rcases N with N|⟨N,W⟩
    ·exact eB C hop I M hy T R p r l N
    ·exact AdW (eB (K:=λσ'=>σ'=_) C hop I M hy T R p r l rfl) (by rw[upd_same];exact ki<|zB _ W) (by simp) N
   ·exact h.elim
  ·rename_i hne _;exact UE C A (by rw[v];simp only[uH,dK]) h
 ·rename_i t x f d v p;have⟨r,l⟩:=Wh A p (by rw[v];rfl);refine P7 p r l (λh base St0 O=>?_) h;unfold mZ at h;split at h
  ·rename_i off cs hf M;split at h
   ·rename_i c J;exact rJ v hf M J p r l h
   ·exact h.elim
  ·exact h.elim
 ·rename_i f fs caps d v p;have⟨r,l⟩:=Wh A p (by rw[v];rfl);refine P7 p r l (λh base St0 O=>?_) h;unfold mkF at h;split at h
  ·rename_i us hfs J;exact ye v hfs J p r l h
  ·exact h.elim
 ·cases p:o.dst with
  |none=>simp only[Mn,CO]at h;rw[p]at h;exact h.elim
  |some d=>exact UE C A (by clear hA h;cases v:o.op<;>first|rfl|(exfalso;simp_all;done)|(exfalso;rename_i M _ _ _;exact M _ _ _ _ v p)|(exfalso;rename_i M _ _ _ _;exact M _ _ _ _ v p)|(exfalso;rename_i M _ _ _ _ _;exact M _ _ _ _ v p)|(exfalso;rename_i M _ _ _ _ _ _;exact M _ _ _ _ v p)|(exfalso;simp_all;rename_i M _ _;exact M _ _ _ _ rfl rfl rfl rfl)|(exfalso;simp_all;rename_i M _;exact M _ _ _ _ rfl rfl rfl rfl)) h
end
end
section
def aJ(P:Program)(tb:Tb)(a:zN):List LO->PS->(PS->Prop)->Prop
 |[],σ,K=>K σ
 |o::os,σ,K=>Hh P tb a o σ<|λσ'=>aJ P tb a os σ' K
def Sd{K K'}(c:∀σ,K σ->K' σ){o:LO}{d:Nat}{σ:PS}{X a:Prop}(b:X->a)(h:S4 o d σ K X):S4 o d σ K' a:=by
 unfold S4 at *;split at h
 ·exact b h
 ·exact h
 ·exact⟨h.1,λe=>b<|h.2.1 e,λe=>c _<|h.2.2 e⟩
def s9{P tb cns K K'}(hk:∀σ,K σ->K' σ){o:LO}{σ:PS}(h:Hh P tb cns o σ K):Hh P tb cns o σ K':=by
 have hp:∀{o:LO}{σ:PS},Mn tb o σ K->Mn tb o σ K':=by
  intro o σ h;unfold Mn at *;split at h
  ·exact h
  ·split at h
   ·exact⟨h.1,hk _ h.2⟩
   ·exact h
   ·exact⟨h.1,λe=>⟨(h.2.1 e).1,hk _ (h.2.1 e).2⟩,λe=>hk _<|h.2.2 e⟩
 have hcS:∀{o:LO}{f:FuncId}{args:List Operand}{σ:PS},TC P o f args σ K->TC P o f args σ K':=by
  intro o f args σ h;unfold TC at *;split at h
  ·exact⟨h.1,h.2.choose,h.2.choose_spec.1,hk _ h.2.choose_spec.2⟩
  ·split at h
   ·exact⟨h.1,λe=>⟨(h.2.1 e).1,(h.2.1 e).2.choose,(h.2.1 e).2.choose_spec.1,hk _ (h.2.1 e).2.choose_spec.2⟩,λe=>hk _<|h.2.2 e⟩
   ·exact h
 have ha:∀{o:LO}{x:Operand}{d:Nat}{σ:PS},SZ tb o x d σ K->SZ tb o x d σ K':=by
  intro o x d σ h;unfold SZ at *;split at h
  ·split at h
   ·exact hk _ h
   ·exact h
  ·exact hk _ h
  ·split at h
   ·exact hk _ h
   ·exact hk _ h
   ·exact hk _ h
   ·exact⟨h.1,hk _ h.2⟩
  ·exact⟨h.1,hk _ h.2⟩
 have hF:∀{o:LO}{f:FuncId}{args:List Operand}{σ:PS},Lo P cns o f args σ K->Lo P cns o f args σ K':=by
  intro o f args σ h;unfold Lo at *;split at h
  ·rename_i hc;rw[At hc];have⟨d,hd,cs,q0,q1,q2,q3,q4⟩:=h;exact⟨d,hd,cs,q0,q1,q2,q3,hk _ q4⟩
  ·rename_i hc;rw[As hc];rcases h with h|h|h
   ·exact .inl<|hcS h
   ·refine .inr (.inl ?_);unfold Zg at *;split at h
    ·exact h
    ·rename_i x xs;have key:W7 P o f x xs σ K->W7 P o f x xs σ K':=λ⟨s,cs,cs',r,q1,q2,q3,q4,q5,q6⟩=>⟨s,cs,cs',r,q1,q2,q3,q4,q5,hk _ q6⟩
     split at h
     ·exact⟨h.1,key h.2⟩
     ·exact Sd hk key h
   ·refine .inr (.inr ?_)
    have key:∀{d},Zh P d f args σ K->Zh P d f args σ K':=λh=>h.imp (λ⟨s,xs,cs,cs',D,q1,q2,q3,q4,q5,q6,q7,q8,q9⟩=>⟨s,xs,cs,cs',D,q1,q2,q3,q4,q5,q6,q7,q8,hk _ q9⟩)
     (Or.imp (λ⟨zs,x,xs,ys,us,os,os',r,D,q1,q2,q3,q4,q5,q6,q7,q8,q9⟩=>⟨zs,x,xs,ys,us,os,os',r,D,q1,q2,q3,q4,q5,q6,q7,q8,hk _ q9⟩)
      (λ⟨zs,x,s,n,n',e,cs,cs',r,q1,q2,q3,q4,q5,q6,q7,q8,q9⟩=>⟨zs,x,s,n,n',e,cs,cs',r,q1,q2,q3,q4,q5,q6,q7,q8,hk _ q9⟩))
    unfold ax at *;split at h
    ·exact⟨h.1,key h.2⟩
    ·exact Sd hk key h
 have hu:∀{x:Operand}{d:Nat}{σ:PS},dc x d σ K->dc x d σ K':=by
  intro x d σ h;unfold dc at *;split at h
  ·split at h
   ·exact⟨h.1,hk _ h.2⟩
   ·exact h
  ·exact h
 unfold Hh at *;split at h
 ·split at h
  ·rename_i hc;rw[At hc];exact⟨h.1,hu h.2⟩
  ·rename_i hc;rw[As hc];exact⟨h.1,ha h.2⟩
 ·split at h
  ·rename_i hc;rw[At hc];exact⟨h.1,ha h.2⟩
  ·rename_i hc;rw[As hc];exact hp h
 ·split at h
  ·rename_i hc;rw[At hc];refine⟨h.1,?_⟩;have h2:=h.2;unfold ZI at *;split at h2
   ·split at h2
    ·exact⟨h2.1,hk _ h2.2⟩
    ·exact h2
   ·exact⟨h2.1,hk _ h2.2⟩
   ·have⟨q,g,off,e,n,m,cs,k0,hq,k1,k2,k3,k4⟩:=h2;exact⟨q,g,off,e,n,m,cs,k0,hq,k1,k2,k3,hk _ k4⟩
   ·exact h2
  ·rename_i hc;rw[As hc];exact hp h
 ·refine⟨h.1,?_⟩;have h2:=h.2;unfold kR at *;split at h2
  ·split at h2
   ·exact⟨h2.1,hk _ h2.2⟩
   ·exact h2
  ·exact h2
 ·refine⟨h.1,?_⟩;have h2:=h.2;unfold j9 at *;split at h2
  ·split at h2
   ·exact⟨h2.1,h2.2.1,h2.2.2.1,hk _ h2.2.2.2⟩
   ·exact h2
  ·have⟨g,off,e,n,m,cs,D,vc,q1,q2,q3,q4,q5,q6,q7,q8,q9,q10⟩:=h2;exact⟨g,off,e,n,m,cs,D,vc,q1,q2,q3,q4,q5,q6,q7,q8,q9,hk _ q10⟩
  ·exact h2
 ·refine⟨h.1,?_⟩;have h2:=h.2;unfold Yv at *;split at h2
  ·exact⟨h2.1,hk _ h2.2⟩
  ·exact h2
 ·exact⟨h.1,h.2.1,h.2.2.1,hk _ h.2.2.2⟩
 ·refine Sd hk (λh2=>?_) h;unfold W4 at *;split at h2
  ·split at h2
   ·exact hk _ h2
   ·exact h2
  ·exact h2
 ·refine Sd hk (λh2=>?_) h;unfold kA at *;split at h2
  ·split at h2
   ·exact⟨h2.1,h2.2.1,hk _ h2.2.2⟩
   ·exact h2
  ·exact h2
 ·split at h
  ·rename_i hc;rw[At hc];refine⟨h.1,?_⟩;have h2:=h.2;unfold gC at *;split at h2
   ·exact⟨h2.1,h2.2.1,h2.2.2.1,h2.2.2.2.1,hk _ h2.2.2.2.2⟩
   ·exact h2
  ·rename_i hc;rw[As hc];refine⟨h.1,?_⟩;have h2:=h.2;unfold gA at *;split at h2
   ·exact⟨h2.1,h2.2.1,h2.2.2.1,hk _ h2.2.2.2⟩
   ·exact h2
 ·unfold W6 at *;split at h
  ·split at h
   ·exact hF h
   ·have key:∀{d u args},VZ P d u args σ K->VZ P d u args σ K':=λ⟨f,us,ss,css,css',r,D,q1,q2,q3,q4,q5,q6,q7,q8,q9,q10⟩=>⟨f,us,ss,css,css',r,D,q1,q2,q3,q4,q5,q6,q7,q8,q9,hk _ q10⟩
    unfold YB at *;split at h
    ·exact⟨h.1,key h.2⟩
    ·exact⟨h.1,Sd hk key h.2⟩
   ·unfold e9 at *;split at h
    ·exact⟨h.1,h.2.1,h.2.2.1,hk _ h.2.2.2⟩
    ·exact h
  ·refine Sd hk (λh2=>?_) h;unfold cZ at *;split at h2
   ·exact⟨h2.1,h2.2.1,h2.2.2.1,h2.2.2.2.1,h2.2.2.2.2.imp (hk _)<|λh=>⟨hk _ h.1,h.2⟩⟩
   ·exact h2
  ·exact hp h
 ·refine Sd hk (λh2=>?_) h;unfold mZ at *;split at h2
  ·split at h2
   ·exact hk _ h2
   ·exact h2
  ·exact h2
 ·refine Sd hk (λh2=>?_) h;unfold mkF at *;split at h2
  ·exact hk _ h2
  ·exact h2
 ·exact hp h
def ON(P:Program)(nt:Nat)(bx:zN)(c:Code)(σ:PS)(Q:Exit->PS->Prop):Prop:=
 ∀base St0 b a w,Rel P nt bx base St0 b σ a w->c.wp P (λe a' w'=>∃σ',Q e σ'∧Rel P nt bx base St0 b σ' a' w') a w
def Xy(K:PS->Prop)(Q:Exit->PS->Prop):Exit->PS->Prop
 |.normal,σ=>K σ
 |e,σ=>Q e σ
def YA(b:Nat)(Q:Exit->PS->Prop):Exit->PS->Prop
 |.exit a,σ=>if a=b then Q .normal σ else Q (.exit a) σ
 |e,σ=>Q e σ
section
variable {P:Program}{nt:Nat}{bx:zN}{σ:PS}{Q:Exit->PS->Prop}{tb:Tb}
def aK(d:Lr P tb){f:zN}{e:Array Oper}{base:Bs}{St0:Nat->Nat->Prop}{i:World}{R:Exit->Act->World->Prop}{K:PS->Prop}(j:∀σ' a' w',K σ'->Rel P nt bx base St0 i σ' a' w'->R .normal a' w'):
  ∀(os:List Oper) (σ:PS) (a:Act) (w:World),os.all (Xn nt bx)=true->(os.map<|CO e).all (okA bx f)=true->aJ P tb f (os.map<|CO e) σ K->Rel P nt bx base St0 i σ a w->wpList P e R os a w
 |[],σ,a,w,_,_,h,k=>j σ a w h k
 |o::os,σ,a,w,b,g,h,k=>by
  simp only[Bz,AH,Ad]at b g;have c:=aI d b.1 g.1 h base St0 i a w R k;unfold wpList;split
  ·rename_i l;rw[At l]at c;exact .inl<|iq (λa' w' ⟨σ',m,n⟩=>aK d j os σ' a' w' b.2 g.2 m n) _ c
  ·rename_i l;rw[As l]at c;have⟨σ',m,n⟩:=c;exact aK d j os σ' _ w b.2 g.2 m n
def iP(d:Lr P tb)(c:zN){f:Nat}{b:Array Oper}(e:b.toList.all (Xn nt bx)=true)(g:(b.toList.map<|CO b).all (okA bx c)=true)(h:aJ P tb c (b.toList.map<|CO b) σ (Q .normal)):ON P nt bx (.region f b false) σ Q:=
 λbase St0 l a w i=>wp_region_list<|aK d (λσ' a' w' j k=>⟨σ',j,k⟩) b.toList σ a w e g h i
def mO{c Q'}(h:ON P nt bx c σ Q)(b:∀e σ,Q e σ->Q' e σ):ON P nt bx c σ Q':=
 λbase St0 d a w f=>GL (h base St0 d a w f)<|λe a w ⟨σ',g,i⟩=>⟨σ',b e σ' g,i⟩
def rc{x y}(h:ON P nt bx x σ (Xy (λσ'=>ON P nt bx y σ' Q) Q)):ON P nt bx (.seq x y) σ Q:=by
 intro base St0 b a w f;refine wp_seq<|GL (h base St0 b a w f) ?_;rintro(_|g|l|_|c|_) a' w' ⟨σ',d,e⟩
 ·exact d base St0 b a' w' e
 all_goals exact⟨σ',d,e⟩
def mP(h:Q .normal σ):ON P nt bx .skip σ Q:=λbase St0 c a w b=>wp_skip ⟨σ,h,b⟩
def mN{id}(h:Q (.exit id) σ):ON P nt bx (.exit id) σ Q:=λbase St0 c a w b=>wp_exit ⟨σ,h,b⟩
def ra(h:Q .ret σ):ON P nt bx .ret σ Q:=λbase St0 c a w b=>wp_ret ⟨σ,h,b⟩
def kK{id c}(h:ON P nt bx c σ (YA id Q)):ON P nt bx (.block id c) σ Q:=by
 intro base St0 f a w g;refine wp_block<|GL (h base St0 f a w g) ?_;rintro(_|i|l|_|c|_) a' w' ⟨σ',b,d⟩
 ·exact⟨σ',b,d⟩
 ·simp only[YA]at b;simp only[Exit.inBlock];split at b
  ·rename_i e;rw[At e];exact⟨σ',b,d⟩
  ·rename_i e;rw[As e];exact⟨σ',b,d⟩
 all_goals exact⟨σ',b,d⟩
def mM{c x y b}(i:Cz σ c=.bool b)(j:b=true->ON P nt bx x σ Q)(k:b=false->ON P nt bx y σ Q):ON P nt bx (.cond c x y) σ Q:=by
 intro base St0 f a w d;have l:a.eval c=.bool b:=by have⟨m,B,h,_⟩:=d;have⟨q,g⟩:=N9 h c;rw[i]at g;exact RK g
 exact wp_cond_split l (λe=>j e base St0 f a w d)<|λe=>k e base St0 f a w d
end
section
variable {P:Program}{nt:Nat}{bx:zN}{σ:PS}{Q:Exit->PS->Prop}{tb:Tb}
end
inductive LC where
 |skip
 |rgn (cns:zN) (ops:List LO)
 |drw (cns:zN) (fps:List (zN×zN)) (es:List zN) (ops:List LO)
 |seq (a b:LC)
 |cond (c:Operand) (a b:LC)
 |blk (id:Nat) (a:LC)
 |loop (D:zN) (a:LC)
 |exit (id:Nat)
 |ret
 |bad
def X9(o:Oper):zN:=(o.after.toList.filter<|Region.binds .any).map (·.on)
def Lp:Code->LC
 |.skip=>.skip
 |.region _ e d=>if d then .drw [] [] (e.toList.map X9) (e.toList.map<|CO e)else .rgn [] (e.toList.map<|CO e)
 |.seq a b=>.seq (Lp a)<|Lp b
 |.cond c a b=>.cond c (Lp a)<|Lp b
 |.block f a=>.blk f<|Lp a
 |.loop a=>.loop []<|Lp a
 |.exit f=>.exit f
 |.ret=>.ret
 |_=>.bad
def aj:LC->LC
 |.skip=>.skip
 |.rgn _ d=>.rgn [] d
 |.drw _ _ es d=>.drw [] [] es d
 |.seq a b=>.seq (aj a)<|aj b
 |.cond c a b=>.cond c (aj a)<|aj b
 |.blk e a=>.blk e<|aj a
 |.loop _ a=>.loop []<|aj a
 |.exit e=>.exit e
 |.ret=>.ret
 |.bad=>.bad
def okC(nt:Nat)(bx:zN):Code->Bool
 |.region _ c _=>c.toList.all<|Xn nt bx
 |.seq a b=>okC nt bx a&&okC nt bx b
 |.cond _ a b=>okC nt bx a&&okC nt bx b
 |.block _ a=>okC nt bx a
 |.loop a=>okC nt bx a
 |_=>true
def okL(bx:zN):LC->Bool
 |.rgn c d=>d.all<|okA bx c
 |.drw c _ _ d=>d.all<|okA bx c
 |.seq a b=>okL bx a&&okL bx b
 |.cond _ a b=>okL bx a&&okL bx b
 |.blk _ a=>okL bx a
 |.loop _ a=>okL bx a
 |_=>true
def LS(P:Program)(nt:Nat)(bx:zN)(l:LC)(σ:PS)(Q:Exit->PS->Prop):Prop:=∀c,Lp c=aj l->okC nt bx c=true->okL bx l=true->ON P nt bx c σ Q
section
variable {P:Program}{nt:Nat}{bx:zN}{σ:PS}{Q:Exit->PS->Prop}{tb:Tb}
def uB(f:Lr P tb){a:zN}{e:List LO}(h:aJ P tb a e σ (Q .normal)):LS P nt bx (.rgn a e) σ Q:=by
 intro c b g j;cases c<;>first|cases b|skip
 rename_i l i d;simp only[Lp,aj]at b;split at b
 ·cases b
 ·rename_i k;simp only[LC.rgn.injEq,true_and]at b;have:d=false:=by simpa using k
  subst this;exact iP f a g (by rw[b];exact j) (by rw[b];exact h)
def jD{x y}(h:LS P nt bx x σ (Xy (λσ'=>LS P nt bx y σ' Q) Q)):LS P nt bx (.seq x y) σ Q:=by
 intro c d e f;cases c<;>first|cases d|skip
 ·simp only[Lp,aj]at d;split at d<;>cases d
 ·rename_i a b;simp only[Lp,aj,LC.seq.injEq]at d;simp only[okC,Ad]at e;simp only[okL,Ad]at f;refine rc<|mO (h a d.1 e.1 f.1) ?_;rintro(_|i|l|_|c|_) σ' g
  ·exact g b d.2 e.2 f.2
  all_goals exact g
def An{x y}(h:∀K:PS->Prop,(∀σ',LS P nt bx y σ' Q->K σ')->LS P nt bx x σ (Xy K Q)):LS P nt bx (.seq x y) σ Q:=jD<|h _ λ_ h=>h
def B6(h:Q .normal σ):LS P nt bx .skip σ Q:=by
 intro c a b d;cases c<;>first|cases a|skip
 ·exact mP h
 ·simp only[Lp,aj]at a;split at a<;>cases a
def AC{id}(h:Q (.exit id) σ):LS P nt bx (.exit id) σ Q:=by
 intro c a b d;cases c<;>first|(cases a;done)|skip
 ·simp only[Lp,aj]at a;split at a<;>cases a
 ·simp only[Lp,aj,LC.exit.injEq]at a;subst a;exact mN h
def Ag(h:Q .ret σ):LS P nt bx .ret σ Q:=by
 intro c a b d;cases c<;>first|(cases a;done)|skip
 ·simp only[Lp,aj]at a;split at a<;>cases a
 ·exact ra h
def AO{id x}(h:LS P nt bx x σ (YA id Q)):LS P nt bx (.blk id x) σ Q:=by
 intro c a b d;cases c<;>first|(cases a;done)|skip
 ·simp only[Lp,aj]at a;split at a<;>cases a
 ·simp only[Lp,aj,LC.blk.injEq]at a;obtain⟨rfl,a⟩:=a;exact kK<|h _ a b d
def pC{c x y b}(g:Cz σ c=.bool b)(h:b=true->LS P nt bx x σ Q)(i:b=false->LS P nt bx y σ Q):LS P nt bx (.cond c x y) σ Q:=by
 intro c d a f;cases c<;>first|(cases d;done)|skip
 ·simp only[Lp,aj]at d;split at d<;>cases d
 ·simp only[Lp,aj,LC.cond.injEq]at d;obtain⟨rfl,j,k⟩:=d;simp only[okC,Ad]at a;simp only[okL,Ad]at f;exact mM g (λe=>h e _ j a.1 f.1)<|λe=>i e _ k a.2 f.2
end
section
variable {P:Program}{nt:Nat}{bx:zN}{σ:PS}{Q:Exit->PS->Prop}{tb:Tb}
end
def MF:ResultVar->Nat
 |.tmp t=>t
 |.cell t _=>t
def resV(tb:Tb)(σ:PS):ResultVar->Option V
 |.tmp t=>if(σ t).isArg=true then some (σ t)else none
 |.cell t ty=>match σ t,tb ty with
  |.box cs,some (.st n _ _)=>if cs.length=n then some (.agg cs)else none
  |.box [c],some (.sc _)=>some c
  |.box [c],some (.sl ..)=>some c
  |_,_=>none
def rW(tb:Tb)(σ:PS):List ResultVar->Option (List V)
 |[]=>some []
 |r::rs=>match resV tb σ r,rW tb σ rs with
  |some c,some cs=>some<|c::cs
  |_,_=>none
def bq(tb:Tb)(σ:PS)(rs:List ResultVar):Option V:=
 match rW tb σ rs with
 |some [c]=>some c
 |some cs=>some<|.tup cs
 |none=>none
section
variable {P:Program}{nt:Nat}{base:Bs}{bx:zN}{St:Nat->Nat->Prop}{B:Nat->zN}{σ:PS}{a:Act}{w:World}{tb:Tb}
def TV(b:Array Value):ResultVar->Sem Value
 |.tmp t=>pure<|b.getD t undef
 |.cell a t=>do loadVar t (<-asAddr (b.getD a undef))
def res_one(D:Lr P tb)(h:HSim P nt bx base St B [] σ a w){r:ResultVar}{c:V}(b:resV tb σ r=some c):
  ∃v bs,(TV a.tmps r).run P w=.ok v w∧Ow P w St c v bs∧bs.Nodup∧(∀g∈bs,g∈B (MF r))∧c.isArg=true:=by
 cases r with
 |tmp t=>
  simp only[resV]at b;split at b
  ·rename_i J;simp only[Ay]at b;subst b;exact⟨_,B t,rfl,(h.slot t).ow<|MR J,h.nodup t,λ_ h=>h,J⟩
  ·cases b
 |cell t ty=>
  have O:=h.slot t;have F:=h.nodup t;cases k:σ t with
  |box cs=>
   rw[k]at O;have⟨g,T,C,l,U,e2,L,Q,e5⟩:=O;rw[Q]at F;have p:=(BF.1 F).2;have s:∀q∈C,q∈B t:=λq W=>by rw[Q];exact AV _ W
   have H:a.tmps.getD t undef=.pointer (some ⟨g,0,none⟩):=U;have m:∀(j:Nat) (u:Value),l.toList[j]? =some u->w.cell? ⟨g,0+j,none⟩=some u:=by intro j u K;simpa[World.cell?,e2]using K
   have y:∀(o:V) (dd:TyD),cs=[o]->tb ty=some dd->dd.ar=false->∃v bs,(TV a.tmps<|.cell t ty).run P w=.ok v w∧Ow P w St o v bs∧bs.Nodup∧(∀g∈bs,g∈B t)∧o.isArg=true:=by intro o dd M i N;subst M;have⟨u,X,b1,b2,Y,R,Z,q4,q5⟩:=L;obtain⟨rfl,rfl⟩:=q5;have K:=m 0 u (by rw[Y];rfl);rw[AN]at R;subst R;refine⟨u,C,?_,q4,p,s,by cases o<;>first|rfl|cases Z⟩;simp only[Di]at K;simp[TV,H,asAddr,loadVar,(D _ _ i).isAgg,N,K]
   cases i:tb ty with
   |none=>simp only[resV,k,i]at b;cases cs with
    |nil=>cases b
    |cons x xs=>cases xs<;>cases b
   |some d=>
    cases d with
    |st n z f=>
     simp only[resV,k,i]at b;split at b
     ·rename_i hl;simp only[Ay]at b;subst b;refine⟨.agg l,C,?_,⟨l.toList,by simp,L⟩,p,s,rfl⟩;have A:=D _ _ i;have S:=Ia (P:=P) (w:=w) ⟨g,0,none⟩ l.toList (λj v J=>by rw[add_plain];exact m j v J);have I:l.toList.length=n:=by rw[L.length,hl]
      rw[I]at S;simp only[TV,H,asAddr,loadVar,Bp,BI,A4,A.isAgg,TyD.ar,EL,A.sizeOf,TyD.size,S,Ea]
     ·cases b
    |sc z=>
     match cs,k,b with
     |[o],k,b=>simp only[resV,k,i,Ay]at b;subst b;exact y o _ rfl i rfl
     |[],k,b=>simp only[resV,k,i]at b;cases b
     |_::_::_,k,b=>simp only[resV,k,i]at b;cases b
    |sl e es eb ez=>
     match cs,k,b with
     |[o],k,b=>simp only[resV,k,i,Ay]at b;subst b;exact y o _ rfl i rfl
     |[],k,b=>simp only[resV,k,i]at b;cases b
     |_::_::_,k,b=>simp only[resV,k,i]at b;cases b
  |_=>simp only[resV,k]at b;cases b
def eQ(b:Lr P tb)(h:HSim P nt bx base St B [] σ a w):∀(rs:List ResultVar) (cs:List V),(rs.map MF).Nodup->rW tb σ rs=some cs->
  ∃us bs,(rs.mapM<|TV a.tmps).run P w=.ok us w∧Ml P w St cs us bs∧bs.Nodup∧(∀g∈bs,∃r∈rs,g∈B (MF r))∧us.length=cs.length∧(∀c,cs=[c]->∃u,us=[u]∧Ow P w St c u bs)
 |[],cs,_,e=>by simp only[rW,Ay]at e;subst e;exact⟨[],[],rfl,⟨rfl,rfl⟩,AR,by simp,rfl,by simp⟩
 |r::rs,cs,i,e=>by
  simp only[rW]at e;split at e
  ·rename_i c cs' s j;simp only[Ay]at e;subst e;simp only[AH,BF]at i;have⟨v,b1,t,p,z,s1,_⟩:=res_one b h s;have⟨us,b2,A,q,C,s2,D,K⟩:=eQ b h rs cs' i.2 j;refine⟨v::us,b1++b2,?_,⟨v,us,b1,b2,rfl,rfl,p,q⟩,?_,?_,by simp[D],?_⟩
   ·simp only[List.mapM_cons,Bp,t,A4,A,BI]
   ·refine Ax.2 ⟨z,C,λx F y H k=>?_⟩;subst k;have⟨l,m,n⟩:=s2 x H;have o:MF r≠MF l:=λe=>i.1<|e ▸ Cf m
    exact h.apart _ _ o x (s1 x F) n
   ·intro g d;rcases Al.1 d with d|d
    ·exact⟨r,by simp,s1 g d⟩
    ·have⟨l,I,J⟩:=s2 g d;exact⟨l,by simp[I],J⟩
   ·intro L f;simp only[CQ]at f;obtain⟨rfl,rfl⟩:=f;obtain⟨rfl,rfl⟩:=q;exact⟨v,rfl,by rw[AN];exact p⟩
  ·cases e
def ZW(i:Lr P tb)(h:HSim P nt bx base St B [] σ a w){b:Func}(p:(b.results.toList.map MF).Nodup){c:V}(d:bq tb σ b.results.toList=some c):
  ∃v bs,(results b a.tmps).run P w=.ok v w∧Ow P w St c v bs∧bs.Nodup∧∀g∈bs,∃r∈b.results.toList,g∈B (MF r):=by
 unfold bq at d
 have f:∀us,(b.results.toList.mapM<|TV a.tmps).run P w=.ok us w->(results b a.tmps).run P w=.ok (if h:us.toArray.size=1 then us.toArray[0]else .tuple us.toArray) w:=by
  intro us q;have s:(b.results.mapM (TV a.tmps):Sem (Array Value)).run P w=.ok us.toArray w:=by rw[IM,Sem.run_map,q];rfl
  have e2:results b a.tmps=(do let vs <-b.results.mapM (TV a.tmps);pure (if h:vs.size=1 then vs[0]else .tuple vs):Sem Value):=by unfold results;congr 1
  rw[e2];simp only[Bp,s,A4,BI]
 split at d
 ·rename_i y k;simp only[Ay]at d;subst d;have⟨us,bs,l,_,m,s1,_,t⟩:=eQ i h _ _ p k;obtain⟨u,rfl,n⟩:=t _ rfl;exact⟨u,bs,by rw[f _ l];rfl,n,m,s1⟩
 ·rename_i cs o k;simp only[Ay]at d;subst d;have⟨us,bs,l,n,m,s1,x,_⟩:=eQ i h _ _ p k;have j:us.toArray.size≠1:=by intro e;simp only[LA]at e;rw[x]at e;have⟨c,d⟩:=List.length_eq_one_iff.1 e;exact o c d
  exact⟨.tuple us.toArray,bs,by rw[f _ l,dif_neg j],⟨us,rfl,n⟩,m,s1⟩
 ·cases d
def qc(b:Lr P tb)(h:HSim P nt bx base St B [] σ a w){d:Func}(e:(d.results.toList.map MF).Nodup){c:V}(f:bq tb σ d.results.toList=some c):
  ∃v bs,(results d a.tmps).run P w=.ok v w∧Ow P w St c v bs∧bs.Nodup∧∀g∈bs,¬base g∧g < w.heap.size:=by
 have⟨v,bs,i,j,k,l⟩:=ZW b h e f;exact⟨v,bs,i,j,k,λg m=>by have⟨r,_,n⟩:=l g m;exact h.range _ g n⟩
def mc{c v}(b:J5 c=true)(h:Rd w St c v):Ow P w St c v []:=by cases c<;>first|exact⟨rfl,h⟩|cases b
def ia:∀(cs:List V) {us:List Value},cs.all J5=true->Su w St cs us->Bj P w St cs us []
 |[],_,_,h=>⟨h,rfl⟩
 |c::cs,_,b,⟨u,d,e,f,g⟩=>by simp only[Bz,Ad]at b;exact⟨u,d,[],[],e,rfl,f.DF,mc b.1 f,ia cs b.2 g⟩
def X1{c v}(b:O7 c=true)(h:iw w St c v):Ow P w St c v []:=by
 cases c<;>first|exact mc b h|cases b|skip
 have⟨us,e,h⟩:=h;exact⟨us,e,ia _ b h⟩
def Gm(b:List V):PS:=λs=>(b[s]?).getD<|.tup []
def args_at:∀{b:List V}{vs:List Value},Rr w St b vs->vs.length=b.length∧∀(s:Nat) (c:V),b[s]? =some c->∃v,vs[s]? =some v∧iw w St c v
 |[],_,h=>by rw[show _=[]from h];exact⟨rfl,by simp⟩
 |c::b,_,⟨u,g,e,i,j⟩=>by
  have⟨l,k⟩:=args_at j;refine⟨by rw[e];simp[l],λs d f=>?_⟩;cases s with
  |zero=>simp only[Cd,Ay]at f;subst f;exact⟨u,by rw[e];rfl,i⟩
  |succ s=>rw[e];simpa using k s d (by simpa using f)
def bp{nt bx args vs}(j:∀b o,St b o->b < w.heap.size)(k:Glb w St)(l:Rr w St args vs)(r:args.length<=nt)(d:args.all O7=true):Rel P nt bx ⟨λb=>b < w.heap.size,[]⟩ St w (Gm args) {tmps:=vs.toArray++Array.replicate (nt - vs.toArray.size) undef,defers:=[]} w:=by
 have⟨x,m⟩:=args_at l
 have n:∀s,tm {tmps:=vs.toArray++Array.replicate (nt - vs.toArray.size) undef,defers:=[]} s=(vs[s]?).getD undef:=by
  intro s;unfold tm;rw[Dt,Array.getElem?_append];split
  ·simp
  ·rename_i p;rw[LA]at p;rw[BJ (by omega)];rw[Ex];split<;>rfl
 refine⟨St,λ_=>[],?_,BelowK.refl _ _,λ_ _ _=>DL,λ_ h=>h⟩;refine
 {size:=by simp;omega
  defers:=rfl
  slot:=λs=>?_
  boxes:=λs cs e=>?_
  crefs:=λs b e=>?_
  nodup:=λ_=>AR
  apart:=λ_ _ _ g i=>by simp at i
  hnodup:=AR
  hapart:=λ_ g i=>by simp at i
  range:=λ_ g i=>by simp at i
  hrange:=λg i=>by simp at i
  st:=j
  gl:=k
  pin:=λv e=>by cases e}
 ·rw[n];cases f:args[s]? with
  |none=>
   have:vs[s]? =none:=by rw[GE]at f⊢;omega
   simp only[Gm,f,this,P0];exact⟨[],rfl,rfl,rfl⟩
  |some c=>have⟨v,t,u⟩:=m s c f;simp only[Gm,f,t,BQ];exact(X1 (Ap.1 d c<|BV f) u).slot
 ·simp only[Gm]at e;cases f:args[s]? with
  |none=>rw[f]at e;cases e
  |some c=>rw[f]at e;have q:=Ap.1 d c<|BV f;simp only[BQ]at e;cases c<;>first|(cases q;done)|(cases e;done)
 ·simp only[Gm]at e;cases f:args[s]? with
  |none=>rw[f]at e;cases e
  |some c=>rw[f]at e;have q:=Ap.1 d c<|BV f;simp only[BQ]at e;cases c<;>first|(cases q;done)|(cases e;done)
def v7(htb:Lr P tb){f:FuncId}{fn:Func}{c:Code}{args:List V}{r:V}(hf:P.funcs[f]? =some fn)(hb:fn.body=some c)(hname:(fn.name== "runtime.NumGoroutine")=false)(bx:zN)(hlen:args.length<=fn.ntmps)(hargs:args.all O7=true)
  (hn:(fn.results.toList.map MF).Nodup) (h:ON P fn.ntmps bx c (Gm args) (λe σ=>(e=.ret∨e=.normal)∧bq tb σ fn.results.toList=some r)):Mp P f args r:=by
 refine⟨⟨fn,hf,by rw[hb];rfl,hname⟩,λw St vs hst hgl hvs=>?_⟩;have⟨hl,hat⟩:=args_at hvs;refine I9 hf hb ?_;have hrel:=bp (P:=P) (bx:=bx) hst hgl hvs hlen hargs;refine GL (h _ _ _ _ _ hrel) ?_;rintro e a' w' ⟨σ',⟨he,hres⟩,St',B',h1,h2,h3,h4⟩;have hfin:a'.defers=[]∧∃v,(results fn a'.tmps).run P w'=.ok v w'∧Ret P w St r (.returned v) w':=by have⟨v,bs,q1,q2,q3,q4⟩:=qc htb h1 hn hres;exact⟨h1.defers,v,q1,v,bs,St',rfl,⟨h2.os,h2.tape,h2.output,h2.size,h2.block⟩,h3,h1.st,q2,q3,λg hg=>⟨MD (q4 g hg).1,(q4 g hg).2⟩⟩
 rcases he with rfl|rfl
 ·exact hfin
 ·exact hfin
def WC{vs:List Value}{nt:Nat}(s:Nat):tm {tmps:=vs.toArray++Array.replicate (nt - vs.toArray.size) undef,defers:=[]} s=(vs[s]?).getD undef:=by
 unfold tm;rw[Dt,Array.getElem?_append];split
 ·simp
 ·rename_i b;rw[LA]at b;rw[BJ (by omega)];rw[Ex];split<;>rfl
def Ad2(htb:Lr P tb){f:FuncId}{fn:Func}{c:Code}{cs args cs':List V}{r:V}(hf:P.funcs[f]? =some fn)(hb:fn.body=some c)(hname:(fn.name== "runtime.NumGoroutine")=false)(bx:zN)(hlen:args.length+1<=fn.ntmps)(h0:0∈bx)(hk0:Sj∈bx)(hargs:args.all O7=true)
  (hn:(fn.results.toList.map MF).Nodup) (h0r:0∉fn.results.toList.map MF) (hcs':cs'.all J5=true) (h:ON P fn.ntmps bx c (Gm<|.box cs::args) (λe σ=>(e=.ret∨e=.normal)∧bq tb σ fn.results.toList=some r∧σ 0=.box cs')):Kg P f cs args cs' r:=by
 refine⟨⟨fn,hf,by rw[hb];rfl,hname⟩,λw St g T arr vs hst hgl hg hcs hng hvs=>?_⟩;obtain⟨hl,hat⟩:=args_at hvs;refine I9 hf hb ?_
 have hgs:g < w.heap.size:=by
  rcases Bi g w.heap.size with h|h
  ·exact h
  ·rw[FSQ h]at hg;cases hg
 have hrel:Rel P fn.ntmps bx ⟨λb=>b < w.heap.size∧b≠g,[(0,.pointer<|some ⟨g,0,none⟩)]⟩ St w (Gm<|.box cs::args) {tmps:=(Value.pointer (some ⟨g,0,none⟩)::vs).toArray++Array.replicate (fn.ntmps - (Value.pointer (some ⟨g,0,none⟩)::vs).toArray.size) undef,defers:=[]} w:=by
  refine⟨St,λs=>if s=0 then [g]else [],?_,BelowK.refl _ _,λ_ _ _=>DL,λ_ h=>h.1⟩;refine
  {size:=by simp;omega
   defers:=rfl
   slot:=λs=>?_
   boxes:=λs cs e=>?_
   crefs:=λs b e=>?_
   nodup:=λs=>by split<;>simp
   apart:=λs t hst k hk hk'=>by
    split at hk
    ·split at hk'
     ·omega
     ·simp at hk'
    ·simp at hk
   hnodup:=AR
   hapart:=λ_ k hk=>by simp
   range:=λs k hk=>by
    split at hk
    ·simp only[AU]at hk;subst hk;exact⟨λh=>h.2 rfl,hgs⟩
    ·simp at hk
   hrange:=λk hk=>by simp at hk
   st:=hst
   gl:=hgl
   pin:=λv e=>by rw[AU]at e;subst e;rw[WC];exact⟨rfl,h0,hk0⟩}
  ·rw[WC];cases s with
   |zero=>exact⟨g,T,[],arr,rfl,hg,hcs,rfl,hng⟩
   |succ s=>
    rw[As (by omega)];cases hc:args[s]? with
    |none=>
     have:vs[s]? =none:=by rw[GE]at hc⊢;omega
     simp only[Gm,CS,hc,this,P0];exact⟨[],rfl,rfl,rfl⟩
    |some c=>obtain⟨v,hv,hr⟩:=hat s c hc;simp only[Gm,CS,hc,hv,BQ];exact(X1 (Ap.1 hargs c<|BV hc) hr).slot
  ·cases s with
   |zero=>exact h0
   |succ s=>
    simp only[Gm,CS]at e;cases hc:args[s]? with
    |none=>rw[hc]at e;cases e
    |some c=>rw[hc]at e;have hp:=Ap.1 hargs c<|BV hc;simp only[BQ]at e;cases c<;>first|(cases hp;done)|(cases e;done)
  ·cases s with
   |zero=>cases e
   |succ s=>
    simp only[Gm,CS]at e;cases hc:args[s]? with
    |none=>rw[hc]at e;cases e
    |some c=>rw[hc]at e;have hp:=Ap.1 hargs c<|BV hc;simp only[BQ]at e;cases c<;>first|(cases hp;done)|(cases e;done)
 refine GL (h _ _ _ _ _ hrel) ?_;rintro e a' w' ⟨σ',⟨he,hres,hbox⟩,St',B',h1,h2,h3,h4⟩
 have hfin:a'.defers=[]∧∃v,(results fn a'.tmps).run P w'=.ok v w'∧AeO P w St g cs' r (.returned v) w':=by
  obtain⟨v,bs,q1,q2,q3,q4⟩:=ZW htb h1 hn hres;have hs0:=h1.slot 0;rw[hbox]at hs0;obtain⟨g',T',bs',arr',e1,e2,e3,e4,e5⟩:=hs0;have hnil:=X2 hcs' e3;subst hnil
  have hgg:g'=g:=by
   have:=(h1.pin _<|AU.2 rfl).1;rw[e1]at this;injection this with this
   injection this with this
   injection this
  subst hgg;refine⟨h1.defers,v,q1,v,bs,St',T',arr',rfl,h2,?_,h1.st,e2,e3,q2,q3,λk hk=>?_⟩
  ·intro b o hb;by_cases e:b=g'
   ·subst e;exact⟨λhh=>absurd hh<|e5 o,λhh=>absurd hh<|hng o⟩
   ·exact h3 b o ⟨hb,e⟩
  ·obtain⟨rv,hrv,hkb⟩:=q4 k hk;have hne:MF rv≠0:=λe=>h0r<|e ▸ Cf hrv
   have hr1:=h1.range _ k hkb;have hkg:k≠g':=λe=>h1.apart _ 0 hne k hkb (by rw[e4,e];simp)
   exact⟨Bv λhlt=>hr1.1 ⟨by omega,hkg⟩,hr1.2⟩
 rcases he with rfl|rfl
 ·exact hfin
 ·exact hfin
def vr(tb:Tb)(rs:List ResultVar)(r:V)(e:Exit)(σ:PS):Prop:=(e=.ret∨e=.normal)∧bq tb σ rs=some r
structure Lit (P:Program) (f:FuncId) (nt:Nat) (bx:zN) (rs:List ResultVar) (l:LC):Prop where
 ex:∃fn c,P.funcs[f]? =some fn∧fn.body=some c∧(fn.name== "runtime.NumGoroutine")=false∧fn.ntmps=nt∧fn.results.toList=rs∧Lp c=aj l∧okC nt bx c=true
 nd:(rs.map MF).Nodup
 ok:okL bx l=true
def AhM(tb:Tb)(rs:List ResultVar)(r:V)(cs':List V)(e:Exit)(σ:PS):Prop:=(e=.ret∨e=.normal)∧bq tb σ rs=some r∧σ 0=.box cs'
def yq(i:Lr P tb){f:FuncId}{nt:Nat}{bx:zN}{rs:List ResultVar}{l:LC}{cs b cs':List V}{r:V}(m:Lit P f nt bx rs l)(e:b.length+1<=nt)(j:(bx.contains 0&&bx.contains Sj)=true)(d:b.all O7=true)(k:(rs.map MF).contains 0=false)(g:cs'.all J5=true)
  (h:LS P nt bx l (Gm<|.box cs::b) (AhM tb rs r cs')):Kg P f cs b cs' r:=by
 obtain⟨⟨v,c,n,o,p,rfl,rfl,q,s⟩,t,u⟩:=m;simp only[Ad,Bk]at j;exact Ad2 i n o p bx e j.1 j.2 d t (by simpa using k) g<|h c q s u
def AhL(t:Nat)(cs:List V)(e:Exit)(σ:PS):Prop:=(e=.ret∨e=.normal)∧∃b,σ t=.cref b 0∧σ b=.box cs
def x5{f nt bx l args cs t}(M:Lit P f nt bx [.tmp t] l)(m:args.length<=nt)(k:args.all O7=true)(x:cs.all J5=true)
  (h:LS P nt bx l (Gm args) (AhL t cs)):NewAt P f args cs:=by
 obtain⟨⟨n,c,I,J,N,rfl,y,O,Q⟩,hn,R⟩:=M;refine⟨⟨n,I,by rw[J];rfl,N⟩,λw St vs z A C=>?_⟩;refine I9 I J ?_;refine GL (h c O Q R _ _ _ _ _<|bp z A C m k) ?_;rintro e a' w' ⟨σ',⟨S,d⟩,St',B',p,q,U,q4⟩;have⟨b,W,d⟩:=d;have r:=p.slot b;rw[d]at r;have⟨g,T,X,i,Y,e2,K,Z,e5⟩:=r;have e1:tm a' t=.pointer (some ⟨g,0,none⟩):=by have s:=p.slot t;rw[W]at s;have⟨_,g',D,k2⟩:=s;rw[Y]at D;simp only[Za,Ay]at D;rw[k2,D]
 have u:=X2 x K;subst u;have L:=p.range b g (by rw[Z];simp)
 have j:a'.defers=[]∧∃v,(results n a'.tmps).run P w'=.ok v w'∧(∃g T St',∃i:Array Value,Ending.returned v=.returned (.pointer (some ⟨g,0,none⟩))∧Below w.heap.size w w'∧(∀b o,b < w.heap.size->(St' b o↔St b o))∧(∀b o,St' b o->b < w'.heap.size)∧
   w'.heap[g]? =some (.cells i T (0,0))∧Bj P w' St' cs i.toList []∧(∀o,¬St' g o)∧w.heap.size<=g∧g < w'.heap.size):=by
  refine⟨p.defers,.pointer<|some ⟨g,0,none⟩,?_,g,T,St',i,rfl,⟨q.os,q.tape,q.output,q.size,q.block⟩,U,p.st,e2,K,e5,MD L.1,L.2⟩;have F:(n.results.mapM (TV a'.tmps):Sem (Array Value)).run P w'=.ok #[.pointer (some ⟨g,0,none⟩)] w':=by rw[IM,Sem.run_map,y];have:a'.tmps.getD t undef=.pointer (some ⟨g,0,none⟩):=e1;simp[TV,this]
  have H:results n a'.tmps=(do let vs <-n.results.mapM (TV a'.tmps);pure (if h:vs.size=1 then vs[0]else .tuple vs):Sem Value):=by unfold results;congr 1
  rw[H];simp only[Bp,F,A4,BI];rfl
 rcases S with rfl|rfl
 ·exact j
 ·exact j
def se(g:Lr P tb){f:FuncId}{nt:Nat}{bx:zN}{rs:List ResultVar}{l:LC}{b:List V}{r:V}(i:Lit P f nt bx rs l)(e:b.length<=nt)(d:b.all O7=true)
  (h:LS P nt bx l (Gm b) (vr tb rs r)):Mp P f b r:=by
 obtain⟨⟨s,c,j,k,m,rfl,rfl,n,o⟩,p,q⟩:=i;exact v7 g j k m bx e d p<|h c n o q
end
end
section
def Le:Operand->zN
 |.tmp t=>[t]
 |_=>[]
def VE(o:Op):zN:=o.operands.toList.flatMap Le
def fD(R:zN):V->Bool
 |.cref s _=>R.contains s
 |.same s=>R.contains s
 |.uni _ _ _=>false
 |.tok _=>R.contains gS&&R.contains gU
 |_=>true
def simple(cns:zN)(o:LO):Bool:=
 match o.op,o.dst with
 |.assign _,_=>false
 |.move _,some d=> !cns.contains d
 |.load _ _,some d=> !cns.contains d || cns.contains (1500000+d)
 |.extract _ _,_=>false
 |.store _ _ _,_=>false
 |.alloc _,_=>false
 |.box _ _,_=>false
 |.build _ _,_=>false
 |.buildSlice _ _ _,_=>false
 |.makeSlice _ _ _,_=>false
 |.call c,_=>match c.callee with
  |.builtin .append=>false
  |_=>true
 |_,_=>true
def gT(o:LO):zN:=match o.g with
 |some (some q,_)=>[q]
 |_=>[]
def gO(o:LO)(s:Nat):Bool:=(gT o).contains s&& !(VE o.op).contains s
def Ya(cns R W:zN)(o:LO):Bool:=
 (VE o.op).all R.contains&&(gT o).all R.contains&&(o.dst.toList).all W.contains&&W.all (λs=>R.contains s || o.dst==some s)&&(simple cns o || R.all (λs=>W.contains s || gO o s))&&(match o.op with
  |.alloc _=>o.dst.toList.all R.contains
  |.box _ _=>false
  |.select _ _=>false
  |.makeFunc _ _ _=>false
  |.assign _|.makeSlice _ _ _=>o.dst.toList.all<|λd=> !cns.contains d
  |.call c=> !dK c || o.dst.toList.all (λd=> !cns.contains d || R.contains d)
  |_=>true)
def adP:Op->zN
 |.load _ x=>Le x
 |.fieldAddr _ x _=>Le x
 |.nilCheck x=>Le x
 |.store _ x _=>Le x
 |.indexAddr _ x _=>Le x
 |.call c=>match c.callee,c.args.toList with
  |.builtin .len,[x]=>Le x
  |.value _,x::_=>Le x
  |_,_=>[]
 |_=>[]
def adC:Op->zN
 |.call c=>match c.callee,c.args.toList with
  |.value _,x::_=>Le x
  |_,_=>[]
 |_=>[]
def kx(R W:zN)(p:Nat):V->Bool
 |.box cs=>W.contains p&&cs.all J5
 |.cref s _=>R.contains s&&W.contains s
 |.tok _=>false
 |_=>true
def adS:Op->zN
 |.store _ x _=>Le x
 |.call c=>match c.callee with
  |.value x=>Le x++c.args.toList.flatMap Le
  |_=>[]
 |_=>[]
def ZQ:V->Bool
 |.tok _=>false
 |.same _=>false
 |_=>true
def aq(R W:zN)(op:Op)(σ:PS):Bool:=(adP op).all (λp=>fD R<|σ p)&&((adC op).all (λp=>kx R W p<|σ p)&&(adS op).all (λp=>ZQ<|σ p))
def sr{R W op σ}(h:aq R W op σ=true):(adP op).all (λp=>fD R<|σ p)=true:=by unfold aq at h;rw[Ad]at h;exact h.1
def adU(a:zN)(o:LO):zN:=match o.op,o.dst with
 |.assign x,_=>Le x
 |.move x,some d=>if a.contains d=true then Le x else []
 |_,_=>[]
def adT(a:zN)(o:LO):zN:=match o.op,o.dst with
 |.load _ x,some d=>if a.contains (1500000+d)=true then Le x else []
 |_,_=>[]
def t9:V->Bool
 |.tok _=>true
 |_=>false
def tt(a R W:zN)(o:LO)(σ:PS):Prop:=Ya a R W o=true∧aq R W o.op σ=true∧((adU a o).all (λp=>fD R<|σ p)&&(adT a o).all (λp=>t9<|σ p))=true
def pt(W:zN)(σ' τ:PS):PS:=λs=>if W.contains s=true then σ' s else τ s
def Sr(σ:PS):List (Nat×V)->PS
 |[]=>σ
 |(s,v)::us=>upd (Sr σ us) s v
def GF(R:zN)(σ τ:PS):Prop:=∀s,R.contains s=true->τ s=σ s
def Ra{σ}:∀{us:List (Nat×V)}{s:Nat},s∉us.map (·.1)->Sr σ us s=σ s
 |[],_,_=>rfl
 |(q,v)::us,s,h=>by simp only[AH,AA,Fn]at h;simp only[Sr];rw[upd_ne _ _ h.1];exact Ra h.2
def cU{σ τ}:∀{us:List (Nat×V)}{s:Nat},s∈us.map (·.1)->Sr τ us s=Sr σ us s
 |[],_,h=>by simp at h
 |(q,v)::us,s,h=>by
  simp only[Sr];by_cases e:s=q
  ·subst e;rw[upd_same,upd_same]
  ·rw[upd_ne _ _ e,upd_ne _ _ e];simp only[AH,AA]at h;exact cU<|h.resolve_left e
def zp{R W σ τ}(ha:GF R σ τ){us:List (Nat×V)}(h1:∀s∈us.map (·.1),W.contains s=true)(h2:∀s,W.contains s=true->s∈us.map (·.1)∨R.contains s=true):
  Sr τ us=pt W (Sr σ us) τ∧∀s,W.contains s=false->Sr σ us s=σ s:=by
 constructor
 ·funext s;unfold pt;split
  ·rename_i hw;by_cases hk:s∈us.map (·.1)
   ·exact cU hk
   ·rw[Ra hk,Ra hk];exact ha s<|(h2 s hw).resolve_left hk
  ·rename_i hw;exact Ra<|λhk=>hw<|h1 s hk
 ·intro s hw;exact Ra (λhk=>by rw[h1 s hk]at hw;cases hw)
section
variable {P:Program}{tb:Tb}{cns R W:zN}{σ τ:PS}{o:LO}{K:PS->Prop}
def IQ(b:GF R σ τ){x:Operand}(a:(Le x).all R.contains=true):Cz τ x=Cz σ x:=by
 cases x with
 |tmp t=>simp only[Le,Bz,Fl,CE]at a;exact b t a
 |_=>rfl
def XE(b:GF R σ τ){x:Operand}(a:(Le x).all R.contains=true):NQ τ x=NQ σ x:=by
 cases x with
 |tmp t=>simp only[Le,Bz,Fl,CE]at a;simp only[NQ,b t a]
 |_=>rfl
def XH{x s off}(a:(Le x).all (λp=>fD R<|σ p)=true)(b:(Le x).all R.contains=true)(h:NQ σ x=.cref s off):R.contains s=true:=by
 cases x with
 |tmp t=>
  simp only[Le,Bz,Fl,CE]at a b;simp only[NQ]at h;split at h
  ·simp only[V.cref.injEq]at h;rw[<-h.1];exact b
  ·rw[h]at a;exact a
 |global g=>exact absurd h<|TU.1 _ _
 |_=>cases h
def ut(a:GF R σ τ){x:Operand}(d:Option TyD)(c:(Le x).all (λp=>fD R<|σ p)=true)(b:(Le x).all R.contains=true):We d τ (NQ τ x)=We d σ (NQ σ x)∧Wd d τ (NQ τ x)=Wd d σ (NQ σ x):=by
 rw[XE a b];cases d with
 |none=>exact⟨rfl,rfl⟩
 |some d=>
  cases h:NQ σ x with
  |cref s off=>have:=a s<|XH c b h;simp only[We,Wd,ZJ,Xm,this];exact⟨trivial,trivial⟩
  |_=>exact⟨rfl,rfl⟩
def SY{α:Type}{f g:Operand->List α}{p:α->Bool}{xs:List Operand}{x:Operand}(h:(xs.flatMap f).all p=true)(b:x∈xs):(f x).all p=true:=by rw[Ap]at h⊢;exactλa c=>h a<|CA.2 ⟨x,b,c⟩
def ml(b:GF R σ τ){x:Operand}(a:(Le x).all (λp=>fD R<|σ p)=true){s:Nat}(h:Cz σ x=.same s):τ s=σ s:=by
 cases x with
 |tmp t=>simp only[Le,Bz,Fl,CE]at a;rw[show σ t=.same s from h]at a;exact b s a
 |const v=>exfalso;simp only[Cz,cV]at h;split at h<;>(try split at h)<;>cases h
 |_=>cases h
def lE(a:GF R σ τ){x:Operand}(d:Option TyD)(b:(Le x).all (λp=>fD R<|σ p)=true):fL τ (Cz σ x)=fL σ (Cz σ x)∧Yo d τ (Cz σ x)=Yo d σ (Cz σ x):=by
 cases h:Cz σ x with
 |same s=>have:=ml a b h;simp only[fL,Yo,this];exact⟨trivial,trivial⟩
 |_=>exact⟨rfl,rfl⟩
def pu(a:GF R σ τ){x:Operand}(es:Nat)(i:V)(b:(Le x).all (λp=>fD R<|σ p)=true):iaS τ es (Cz σ x) i=iaS σ es (Cz σ x) i∧dO τ (Cz σ x) i=dO σ (Cz σ x) i:=by
 cases h:Cz σ x with
 |same s=>have:=ml a b h;simp only[iaS,dO,this];exact⟨trivial,trivial⟩
 |_=>exact⟨rfl,rfl⟩
def qW(c:GF R σ τ)(b:Callee)(a:List Operand)(ts:List TypeId)(h:∀x∈a,Cz τ x=Cz σ x)(d:(match b,a with|.builtin .len,[x]=>Le x|_,_=>[]).all (λp=>fD R<|σ p)=true):QP τ b a=QP σ b a∧TY tb τ b a ts=TY tb σ b a ts:=by
 constructor
 ·unfold QP;split
  ·rw[h _ (by simp)];exact(lE c none d).1
  ·rw[h _ (by simp),h _ (by simp)]
  ·rw[h _ (by simp),h _ (by simp)]
  ·rfl
 ·unfold TY;split
  ·rw[h _ (by simp)];exact(lE c _ d).2
  ·rw[h _ (by simp),h _ (by simp)]
  ·rw[h _ (by simp),h _ (by simp)]
  ·rfl
def vf(j:GF R σ τ){op:Op}(n:(VE op).all R.contains=true)(q:(adP op).all (λp=>fD R<|σ p)=true):pv tb τ op=pv tb σ op∧pc tb τ op=pc tb σ op:=by
 have e:∀x,x∈op.operands.toList->Cz τ x=Cz σ x:=λx h=>IQ j<|SY (g:=Le) n h
 cases op with
 |move x=>
  have a:=e x (by simp[Op.operands]);cases x with
  |tmp t=>simp only[pv,pc,mvV,mvC,show τ t=σ t from a];exact⟨trivial,trivial⟩
  |_=>exact⟨rfl,rfl⟩
 |pick c x y=>
  have a:=e c (by simp[Op.operands]);have b:=e x (by simp[Op.operands]);have r:=e y (by simp[Op.operands]);have u:∀v,eI τ x y v=eI σ x y v:=by intro v;cases v<;>first|rfl|simp only[eI,b,r]
  have e2:∀v,eH τ x y v=eH σ x y v:=by intro v;cases v<;>first|rfl|simp only[eH,b,r]
  simp only[pv,pc,a,u,e2];exact⟨trivial,trivial⟩
 |binOp op t x y A=>have a:=e x (by simp[Op.operands]);have b:=e y (by simp[Op.operands]);simp only[pv,pc,a,b];exact⟨trivial,trivial⟩
 |unOp op t x=>have a:=e x (by simp[Op.operands]);simp only[pv,pc,a];exact⟨trivial,trivial⟩
 |convert s d x=>have a:=e x (by simp[Op.operands]);simp only[pv,pc,a];exact⟨trivial,trivial⟩
 |load t x=>
  have k:x∈(Op.load t x).operands.toList:=by simp[Op.operands]
  have:=ut j (x:=x) (tb t) q<|SY (g:=Le) n k;simp only[pv,pc,this.1,this.2];exact⟨trivial,trivial⟩
 |nilCheck x=>
  have k:x∈(Op.nilCheck x).operands.toList:=by simp[Op.operands]
  have a:=XE j<|SY (g:=Le) n k
  have b:faC τ (NQ σ x)=faC σ (NQ σ x):=by
   cases h:NQ σ x with
   |cref s off=>have:=j s<|XH q (SY (g:=Le) n k) h;simp only[faC,this]
   |_=>rfl
  simp only[pv,pc,a,b];exact⟨trivial,trivial⟩
 |fieldAddr t x f=>
  have k:x∈(Op.fieldAddr t x f).operands.toList:=by simp[Op.operands]
  have a:=XE j<|SY (g:=Le) n k
  have b:∀d,kT d f τ (NQ σ x)=kT d f σ (NQ σ x):=by
   intro d;cases h:NQ σ x with
   |cref s off=>have:=j s<|XH q (SY (g:=Le) n k) h;simp only[kT,faC,this]
   |_=>rfl
  simp only[pv,pc,a,b];exact⟨trivial,trivial⟩
 |indexAddr t x i=>
  have a:=e x (by simp[Op.operands]);have b:=e i (by simp[Op.operands]);simp only[pv,pc,a,b,nq,np];constructor
  ·split
   ·exact(pu j _ _ q).1
   ·rfl
  ·split
   ·exact(pu j 0 _ q).2
   ·rfl
 |index t x i=>have a:=e x (by simp[Op.operands]);have b:=e i (by simp[Op.operands]);simp only[pv,pc,a,b];exact⟨trivial,trivial⟩
 |slice t x lo hi z=>
  have a:=e x (by simp[Op.operands]);have b:lo.map (Cz τ)=lo.map (Cz σ):=by cases lo with|none=>rfl|some l=>simp only[B3,e l (by simp[Op.operands])]
  have r:hi.map (Cz τ)=hi.map (Cz σ):=by cases hi with|none=>rfl|some l=>simp only[B3,e l (by simp[Op.operands])]
  cases z with
  |none=>simp only[pv,pc,a,b,r];exact⟨trivial,trivial⟩
  |some m=>exact⟨rfl,rfl⟩
 |call c=>
  have a:∀x∈c.args.toList,Cz τ x=Cz σ x:=λx h=>e x (by simp[Op.operands,Call.operands];exact .inr<|by simpa using h)
  have w:(match c.callee,c.args.toList with|.builtin .len,[x]=>Le x|_,_=>[]).all (λp=>fD R<|σ p)=true:=by
   split
   ·rename_i x u e2;simpa[adP,u,e2]using q
   ·rfl
  have b:=qW (tb:=tb) j c.callee c.args.toList c.argTypes.toList a w;simp only[pv,pc,b.1,b.2];exact⟨trivial,trivial⟩
 |_=>exact⟨rfl,rfl⟩
def Loc(W:zN)(σ τ:PS)(K:PS->Prop)(τ':PS):Prop:=∃σ',K σ'∧τ'=pt W σ' τ∧∀s,W.contains s=false->σ' s=σ s
def XV(a:GF R σ τ){us:List (Nat×V)}(b:∀s∈us.map (·.1),W.contains s=true)(c:∀s,W.contains s=true->s∈us.map (·.1)∨R.contains s=true)(d:K (Sr σ us)):Loc W σ τ K (Sr τ us):=by have⟨e,e2⟩:=zp a b c;exact⟨_,d,e,e2⟩
def Xw(σ:PS)(x:Operand):∃us:List (Nat×V),us.map (·.1)=Le x∧CZ σ x=Sr σ us∧∀τ,GF (Le x) σ τ->CZ τ x=Sr τ us:=by
 cases x with
 |tmp t=>refine⟨[(t,dg<|σ t)],rfl,rfl,λτ h=>?_⟩;have:=h t (by simp[Le]);simp only[CZ,Sr,this]
 |const v=>exact⟨[],rfl,rfl,λ_ _=>rfl⟩
 |global g=>exact⟨[],rfl,rfl,λ_ _=>rfl⟩
 |func f=>exact⟨[],rfl,rfl,λ_ _=>rfl⟩
def af(σ:PS)(us vs:List (Nat×V)):Sr (Sr σ vs) us=Sr σ (us++vs):=by
 induction us with
 |nil=>rfl
 |cons p us a=>have⟨s,v⟩:=p;simp only[Sr,Cq,a]
def P6(h:Ya cns R W o=true):(VE o.op).all R.contains=true∧(∀q b,o.g=some (some q,b)->R.contains q=true)∧(∀d,o.dst=some d->W.contains d=true)∧(∀s,W.contains s=true->R.contains s=true∨o.dst=some s)∧(simple cns o=true∨∀s,R.contains s=true->W.contains s=true∨gO o s=true):=by
 simp only[Ya,Ad]at h;have⟨⟨⟨⟨⟨i,c⟩,f⟩,j⟩,g⟩,_⟩:=h;refine⟨i,λq b e=>?_,λd e=>?_,λs a=>?_,?_⟩
 ·rw[gT,e]at c;simpa using c
 ·rw[e]at f;simpa using f
 ·have:=Ap.1 j s (by simpa using a);simp only[CP,BK]at this;exact this
 ·simp only[CP]at g;rcases g with h|h
  ·exact .inl h
  ·exact .inr λs a=>by simpa using List.all_eq_true.1 h s (by simpa using a)
def Zs(a:o.g=none)(h:∀s,R.contains s=true->W.contains s=true∨gO o s=true):∀s,R.contains s=true->W.contains s=true:=λs b=>by
 rcases h s b with h|h
 ·exact h
 ·simp[gO,gT,a]at h
def na(b:(VE o.op).all R.contains=true)(h:∀s,R.contains s=true->W.contains s=true∨gO o s=true):(VE o.op).all W.contains=true:=by
 rw[Ap];intro s a;rcases h s (Ap.1 b s a)with h|h
 ·exact h
 ·simp[gO,a]at h
def JP(c:GF R σ τ)(e:Ya cns R W o=true){d:Nat}(b:o.dst=some d){v:V}(f:K (upd σ d v)):Loc W σ τ K (upd τ d v):=by
 have⟨j,k,g,i,l⟩:=P6 e;refine XV (us:=[(d,v)]) c (λs a=>?_) (λs a=>?_) f
 ·simp only[AH,Dv,AU]at a;subst a;exact g _ b
 ·rcases i s a with h|h
  ·exact .inr h
  ·rw[b]at h;injection h with h;subst h;exact .inl (by simp)
def X3(a:GF R σ τ)(c:tt cns R W o σ)(h:Mn tb o σ K):Mn tb o τ (Loc W σ τ K):=by
 have⟨k,l,m,n,p⟩:=P6 c.1;have i:=vf (tb:=tb) a k<|sr c.2.1;unfold Mn at *;cases f:o.dst with
 |none=>rw[f]at h;exact h
 |some d=>
  rw[f]at h;simp only at h⊢;cases j:o.g with
  |none=>rw[j]at h;rw[i.1,i.2];exact⟨h.1,JP a c.1 f h.2⟩
  |some g=>
   have⟨q,b⟩:=g;rw[j]at h;cases q with
   |none=>exact h
   |some q=>simp only at h⊢;rw[a q (l q b j),i.1,i.2];exact⟨h.1,λe=>⟨(h.2.1 e).1,JP a c.1 f (h.2.1 e).2⟩,λe=>JP a c.1 f<|h.2.2 e⟩
def XR(c:GF R σ τ)(f:tt cns R W o σ){d:Nat}(k:o.dst=some d){X i:Prop}(j:X->i)(h:S4 o d σ K X):S4 o d τ (Loc W σ τ K) i:=by
 have⟨m,l,n,p,r⟩:=P6 f.1;unfold S4 at *;cases a:o.g with
 |none=>rw[a]at h;exact j h
 |some g=>
  have⟨q,b⟩:=g;rw[a]at h;cases q with
  |none=>exact h
  |some q=>simp only at h⊢;rw[c q (l q b a)];exact⟨h.1,λe=>j<|h.2.1 e,λe=>JP c f.1 k<|h.2.2 e⟩
def qV(j:GF R σ τ)(n:tt cns R W o σ){f:FuncId}{a:List Operand}(c:∀x∈a,(Le x).all R.contains=true)(h:TC P o f a σ K):TC P o f a τ (Loc W σ τ K):=by
 have⟨H,w,I,y,J⟩:=P6 n.1;have z:(a.map λx=>er<|Cz τ x)=a.map λx=>er (Cz σ x):=Dh λx i=>by rw[IQ j (c x i)]
 have p:(a.map λx=>erK<|Cz τ x)=a.map λx=>erK (Cz σ x):=Dh λx i=>by rw[IQ j (c x i)]
 have m:(a.map λx=>Cz τ x)=a.map λx=>Cz σ x:=Dh λx i=>by rw[IQ j (c x i)]
 have A:km P τ f a=km P σ f a:=by unfold km;rw[z,p,m]
 have e2:a.all (λx=>(Cz τ x).isArg)=a.all (λx=>(Cz σ x).isArg):=by rw[Ck,Ap,Ap];exact⟨λh x i=>by have:=h x i;rwa [IQ j (c x i)]at this,λh x i=>by rw[IQ j (c x i)];exact h x i⟩
 unfold TC at *;rw[A,e2];cases t:o.g with
 |none=>
  rw[t]at h;have⟨u,r,v,l⟩:=h;refine⟨u,r,v,?_⟩;cases k:o.dst with
  |none=>
   rw[k]at l;simp only[VH]at l⊢;refine XV (us:=[]) j (by simp) (λs B=>?_) l;rcases y s B with h|h
   ·exact .inr h
   ·rw[k]at h;cases h
  |some d=>rw[k]at l;exact JP j n.1 k l
 |some g=>
  have⟨q,b⟩:=g;rw[t]at h;simp only at h⊢;cases q with
  |none=>exact h
  |some q=>
   cases k:o.dst with
   |none=>rw[k]at h;exact h
   |some d=>rw[k]at h;simp only at h⊢;rw[j q (w q b t)];have⟨u,v,l⟩:=h;refine⟨u,λe=>?_,λe=>JP j n.1 k<|l e⟩;have⟨C,r,D,F⟩:=v e;exact⟨C,r,D,JP j n.1 k F⟩
def XU(a:GF R σ τ)(b:Ya cns R W o=true){us:List (Nat×V)}(c:∀s∈us.map (·.1),W.contains s=true)(e:∀d,o.dst=some d->d∈us.map (·.1))(f:K (Sr σ us)):Loc W σ τ K (Sr τ us):=by
 have⟨j,k,l,g,m⟩:=P6 b;refine XV a c (λs i=>?_) f;rcases g s i with h|h
 ·exact .inr h
 ·exact .inl<|e s h
def qU(j:GF R σ τ)(w:tt cns R W o σ){f:FuncId}{b:List Operand}(a:∀x∈b,(Le x).all R.contains=true)(u:∀x xs,b=x::xs->(Le x).all (λp=>kx R W p<|σ p)=true)(h:Zg P o f b σ K):Zg P o f b τ (Loc W σ τ K):=by
 have⟨I,J,A,y,L⟩:=P6 w.1;unfold Zg at *;split at h
 ·exact h
 ·rename_i x xs
  have v:W7 P o f x xs σ K->W7 P o f x xs τ (Loc W σ τ K):=by
   rintro⟨s,cs,cs',r,e,B,C,z,D,m⟩;have i:=a x (by simp);have n:=u x xs rfl
   have k:R.contains s=true∧W.contains s=true:=by
    cases x with
    |tmp t=>
     simp only[Le,Bz,Fl,CE]at n i;simp only[NQ]at e;split at e
     ·rename_i cs0 F;simp only[V.cref.injEq]at e;rw[F]at n;rw[<-e.1];simp only[kx,Ad]at n;exact⟨i,n.1⟩
     ·rw[e]at n;simpa[kx]using n
    |global g=>exact absurd e<|TU.1 _ _
    |_=>cases e
   have H:(xs.map λx=>er<|Cz τ x)=xs.map λx=>er (Cz σ x):=Dh λx i=>by rw[IQ j (a x<|by simp[i])]
   have e2:xs.all (λx=>(Cz τ x).isArg)=true:=by rw[Ap]at z⊢;exactλx i=>by rw[IQ j (a x<|by simp[i])];exact z x i
   refine⟨s,cs,cs',r,by rw[XE j i];exact e,by rw[j s k.1];exact B,C,e2,by rw[H];exact D,?_⟩;cases l:o.dst with
   |none=>
    rw[l]at m;simp only[VH]at m⊢;refine XV (us:=[(s,.box cs')]) j (λq c=>?_) (λq c=>?_) m
    ·simp only[AH,Dv,AU]at c;subst c;exact k.2
    ·rcases y q c with h|h
     ·exact .inr h
     ·rw[l]at h;cases h
   |some d=>
    rw[l]at m;simp only[VH]at m⊢;refine XV (us:=[(d,r),(s,.box cs')]) j (λq c=>?_) (λq c=>?_) m
    ·simp only[AH,Dv,AA,F5,N8]at c;rcases c with rfl|rfl
     ·exact A _ l
     ·exact k.2
    ·rcases y q c with h|h
     ·exact .inr h
     ·rw[l]at h;injection h with h;subst h;exact .inl (by simp)
  split at h
  ·exact⟨h.1,v h.2⟩
  ·rename_i d l;exact XR j w l v h
def ZK(c:GF R σ τ)(e:Ya cns R W o=true)(a:∀s,R.contains s=true->W.contains s=true){us:List (Nat×V)}(f:∀s∈us.map (·.1),R.contains s=true∨o.dst=some s)(g:∀d,o.dst=some d->d∈us.map (·.1))(i:K (Sr σ us)):Loc W σ τ K (Sr τ us):=by
 have⟨l,m,j,k,n⟩:=P6 e;refine XV c (λs b=>?_) (λs b=>?_) i
 ·rcases f s b with h|h
  ·exact a s h
  ·exact j s h
 ·rcases k s b with h|h
  ·exact .inr h
  ·exact .inl<|g s h
def Y6{x}(a:GF R σ τ)(b:(Le x).all R.contains=true):GF (Le x) σ τ:=λs c=>a s<|Ap.1 b s<|by simpa using c
def XW{x s}(a:(Le x).all R.contains=true)(h:s∈Le x):R.contains s=true:=Ap.1 a s h
def lI(c:GF R σ τ)(i:Ya cns R W o=true)(b:∀s,R.contains s=true->W.contains s=true){x:Operand}(e:(Le x).all R.contains=true){d:Nat}{v:V}(f:o.dst=some d)(g:K (upd (CZ σ x) d v)):Loc W σ τ K (upd (CZ τ x) d v):=by
 have⟨us,j,e2,k⟩:=Xw σ x;rw[k τ (Y6 c e)];rw[e2]at g;refine ZK (us:=(d,v)::us) c i b (λs a=>?_) (λd' h=>?_) g
 ·simp only[AH,AA,j]at a;rcases a with rfl|a
  ·exact .inr f
  ·exact .inl<|XW e a
 ·rw[f]at h;injection h with h;subst h;simp
def kw(a:GF R σ τ)(b:Ya cns R W o=true)(e:∀s,R.contains s=true->W.contains s=true){x:Operand}(f:(Le x).all R.contains=true)(g:(Le x).all (λp=>fD R<|σ p)=true){d:Nat}(c:o.dst=some d)(h:SZ tb o x d σ K):SZ tb o x d τ (Loc W σ τ K):=by
 unfold SZ at *;split at h
 ·split at h
  ·exact JP a b c h
  ·exact h
 ·exact JP a b c h
 ·rename_i p;have i:τ p=σ p:=IQ a f;rw[i];split at h
  ·rename_i j;simp only[Le,Bz,Fl,CE,j,fD]at g;cases g
  ·exact JP a b c h
  ·exact JP a b c h
  ·exact⟨h.1,lI a b e f c h.2⟩
 ·rw[IQ a f];exact⟨h.1,lI a b e f c h.2⟩
def dD(a:Nat->Option (Nat×Nat)):∀(parts:List (Nat×Operand)) (σ σ':PS) (cs cs':List V),SM a parts σ cs=some (σ',cs')->∃us:List (Nat×V),(∀s∈us.map (·.1),s∈parts.flatMap (λp=>Le p.2))∧σ'=Sr σ us∧∀τ,GF (parts.flatMap<|λp=>Le p.2) σ τ->SM a parts τ cs=some (Sr τ us,cs')
 |[],σ,σ',cs,cs',h=>by simp only[SM,Ay,Ch]at h;obtain⟨rfl,rfl⟩:=h;exact⟨[],by simp,rfl,λτ _=>rfl⟩
 |(i,x)::parts,σ,σ',cs,cs',h=>by
  simp only[SM]at h;cases e:a i with
  |none=>rw[e]at h;cases h
  |some q=>
   have⟨off,v⟩:=q;rw[e]at h;simp only at h;split at h
   ·rename_i l;have⟨us,m,e2,n⟩:=dD a parts _ _ _ _ h;have⟨vs,r,j,k⟩:=Xw σ x;refine⟨us++vs,λs b=>?_,by rw[e2,j,af],λτ f=>?_⟩
    ·rw[BM,Al]at b;rw[AI,Al];rcases b with b|b
     ·exact .inr<|m s b
     ·exact .inl (by rw[r]at b;exact b)
    ·have u:Cz τ x=Cz σ x:=by
      cases x with
      |tmp t=>exact f t (by simp[Le])
      |_=>rfl
     have c:GF (Le x) σ τ:=λs b=>f s (by simp only[AI,List.contains_eq_mem,Al,Bu]at *;exact .inl b)
     simp only[SM,e,u];rw[At l]
     have d:GF (parts.flatMap<|λp=>Le p.2) (CZ σ x) (CZ τ x):=by
      intro s b;rw[j,k τ c];by_cases g:s∈vs.map (·.1)
      ·exact cU g
      ·rw[Ra g,Ra g];exact f s (by simp only[AI,List.contains_eq_mem,Al,Bu]at *;exact .inr b)
     rw[n _ d,k τ c,af]
   ·cases h
def X0{R:zN}{parts:Array (Nat×Operand)}(a:((parts.toList.map (·.2)).toArray.toList.flatMap Le).all R.contains=true):∀s∈parts.toList.flatMap (λp=>Le p.2),R.contains s=true:=by intro s b;rw[Ap]at a;refine a s ?_;rw[CA]at b⊢;obtain⟨p,c,h⟩:=b;exact⟨p.2,(show p.2∈parts.toList.map (·.2)from Cf c),h⟩
def qG{x u}(a:NQ σ x=.tok u)(b:(Le x).all (λp=>fD R<|σ p)=true):R.contains gS=true∧R.contains gU=true:=by
 cases x with
 |tmp s=>
  have c:σ s=.tok u:=by
   unfold NQ at a;simp only at a;split at a
   ·cases a
   ·exact a
  simp only[Le,c,Bz,Fl,CE,fD,Ad]at b;exact b
 |global g=>exact absurd a<|TU.2.1 _
 |_=>cases a
def Aew{x u}(a:NQ σ x=.tok u)(b:(Le x).all (λp=>ZQ<|σ p)=true):False:=by
 cases x with
 |tmp s=>
  have c:σ s=.tok u:=by
   unfold NQ at a;simp only at a;split at a
   ·cases a
   ·exact a
  simp[Le,c,ZQ]at b
 |global g=>exact absurd a<|TU.2.1 _
 |_=>cases a
def s8(ha:GF R σ τ)(hf:tt cns R W o σ)(h:Hh P tb cns o σ K):Hh P tb cns o τ (Loc W σ τ K):=by
 have⟨h1,h2,h3,h4,h5⟩:=P6 hf.1;have h2':=h2;have hx:=h1;have hb:=sr hf.2.1;have hub3:=hf.2.2;rw[Ad]at hub3;have hub:=hub3.1;have htk:=hub3.2;unfold Hh at *;split at h
 ·rename_i x d ho hd;rw[ho]at hx;have hcd:¬cns.contains d=true:=by have:=hf.1;simp only[Ya,ho,hd,Ad]at this;have:=this.2;simpa using this
  rw[As hcd]at h⊢;have hns:=Zs h.1<|h5.resolve_left<|by simp[simple,ho]
  exact⟨h.1,kw ha hf.1 hns (by simpa[VE,Op.operands]using hx) (by simpa[adU,ho]using hub) hd h.2⟩
 ·rename_i x d ho hd;split at h
  ·rename_i hc;rw[At hc];have hns:=Zs h.1<|h5.resolve_left<|by simp[simple,ho,hd];simpa using hc
   rw[ho]at hx;have hub':(Le x).all (λp=>fD R<|σ p)=true:=by simp only[adU,ho,hd]at hub;rw[At hc]at hub;exact hub
   exact⟨h.1,kw ha hf.1 hns (by simpa[VE,Op.operands]using hx) hub' hd h.2⟩
  ·rename_i hc;rw[As hc];exact X3 ha hf h
 ·rename_i t x d ho hd;split at h
  ·rename_i hc;rw[At hc];rw[ho]at hx hb;have hx':(Le x).all R.contains=true:=by simpa[VE,Op.operands]using hx
   have hb':(Le x).all (λp=>fD R<|σ p)=true:=hb;refine⟨h.1,?_⟩;have h2:=h.2;unfold ZI at *;rw[XE ha hx'];split at h2
   ·rename_i dd s off ht hax
    have hm:cns.contains (1500000+d)=false:=by
     cases hcc:cns.contains (1500000+d)with
     |false=>rfl
     |true=>
      exfalso;simp only[adT,ho,hd,hcc,EL]at htk;cases x with
      |tmp p=>
       have:t9 (σ p)=true:=by simpa[Le]using htk
       cases hp:σ p<;>rw[hp]at this<;>first|cases this|skip
       simp only[NQ,hp]at hax;cases hax
      |global g=>exact TU.1 s off hax
      |_=>cases hax
    have hns:=Zs h.1<|h5.resolve_left<|by simp[simple,ho,hd];exact⟨by simpa using hc,by simpa using hm⟩
    have hs:=ha s<|XH hb' hx' hax;rw[hs];split at h2
    ·refine⟨h2.1,?_⟩;refine ZK (us:=[(d,_),(s,_)]) ha hf.1 hns (λq hq=>?_) (λd' hd'=>?_) h2.2
     ·simp only[AH,Dv,AA,F5,N8]at hq;rcases hq with rfl|rfl
      ·exact .inr hd
      ·exact .inl<|XH hb' hx' hax
     ·rw[hd]at hd';injection hd' with hd';subst hd';simp
    ·exact h2
   ·exact⟨h2.1,JP ha hf.1 hd h2.2⟩
   ·rename_i hax;have⟨q,g,off,e,n,m,cs,k0,hq,k1,k2,k3,k4⟩:=h2
    have hqR:R.contains q=true:=by
     rcases hq with rfl|rfl
     ·exact(qG hax hb').1
     ·exact(qG hax hb').2
    exact⟨q,g,off,e,n,m,cs,k0,hq,by rw[ha q hqR];exact k1,k2,k3,JP ha hf.1 hd k4⟩
   ·exact h2
  ·rename_i hc;rw[As hc];exact X3 ha hf h
 ·rename_i s i d ho hd;have hns:=Zs h.1<|h5.resolve_left<|by simp[simple,ho]
  rw[ho]at hx;have hs:R.contains s=true:=by simpa[VE,Op.operands,Le]using hx
  refine⟨h.1,?_⟩;have h2:=h.2;unfold kR at *;rw[ha s hs];split at h2
  ·split at h2
   ·refine⟨h2.1,ZK (us:=[(d,_),(s,_)]) ha hf.1 hns (λq hq=>?_) (λd' hd'=>?_) h2.2⟩
    ·simp only[AH,Dv,AA,F5,N8]at hq;rcases hq with rfl|rfl
     ·exact .inr hd
     ·exact .inl hs
    ·rw[hd]at hd';injection hd' with hd';subst hd';simp
   ·exact h2
  ·exact h2
 ·rename_i t x y ho hd;have hns:=Zs h.1<|h5.resolve_left<|by simp[simple,ho]
  rw[ho]at hx hb;have hxy:(Le x).all R.contains=true∧(Le y).all R.contains=true:=by simpa[VE,Op.operands,E9]using hx
  have hb':(Le x).all (λp=>fD R<|σ p)=true:=hb;refine⟨h.1,?_⟩;have h2:=h.2;unfold j9 at *;rw[XE ha hxy.1,IQ ha hxy.2];split at h2
  ·rename_i dd s off ht hax;have hsR:=XH hb' hxy.1 hax;rw[ha s hsR];split at h2
   ·have⟨q1,q2,q3,q4⟩:=h2;refine⟨q1,q2,q3,?_⟩;have⟨us,e1,e2,e3⟩:=Xw σ y;rw[e3 τ (Y6 ha hxy.2)];rw[e2]at q4;refine ZK (us:=(s,_)::us) ha hf.1 hns (λq hq=>?_) (λd' hd'=>by rw[hd]at hd';cases hd') q4;simp only[AH,AA,e1]at hq;rcases hq with rfl|hq
    ·exact .inl hsR
    ·exact .inl<|XW hxy.2 hq
   ·exact h2
  ·rename_i hax;have h9:=hf.2.1;unfold aq at h9;rw[Ad,Ad,ho]at h9;exact(Aew hax h9.2.2).elim
  ·exact h2
 ·rename_i t d ho hd;have hdR:R.contains d=true:=by have:=hf.1;simp only[Ya,ho,hd,Ad]at this;simpa using this.2
  refine⟨h.1,?_⟩;have h2:=h.2;unfold Yv at *;split at h2
  ·exact⟨by rw[ha d hdR];exact h2.1,JP ha hf.1 hd h2.2⟩
  ·exact h2
 ·rename_i t x d ho hd;have:=hf.1;simp[Ya,ho]at this
 ·rename_i t ps d ho hd;have hW:=na h1<|h5.resolve_left<|by simp[simple,ho]
  rw[ho]at hW;rw[ho]at hx;refine XR ha hf hd (λh2=>?_) h;unfold W4 at *;split at h2
  ·split at h2
   ·rename_i σ' cs hfl;have⟨us,e1,e2,e3⟩:=dD _ _ _ _ _ _ hfl;have hp:=X0 (R:=R) (parts:=ps) (by simpa[VE,Op.operands]using hx);have hpW:=X0 (R:=W) (parts:=ps) (by simpa[VE,Op.operands]using hW);rw[e3 τ (λs hs=>ha s<|hp s<|by simpa using hs)];rw[e2]at h2;refine XU (us:=(d,_)::us) ha hf.1 (λq hq=>?_) (λd' hd'=>?_) h2
    ·simp only[AH,AA]at hq;rcases hq with rfl|hq
     ·exact h3 _ hd
     ·exact hpW q<|e1 q hq
    ·rw[hd]at hd';injection hd' with hd';subst hd';simp
   ·exact h2.elim
  ·exact h2
 ·rename_i t n ps d ho hd;have hW:=na h1<|h5.resolve_left<|by simp[simple,ho]
  rw[ho]at hW;rw[ho]at hx;refine XR ha hf hd (λh2=>?_) h;unfold kA at *;split at h2
  ·split at h2
   ·rename_i σ' cs hfl;have⟨us,e1,e2,e3⟩:=dD _ _ _ _ _ _ hfl;have hp:=X0 (R:=R) (parts:=ps) (by simpa[VE,Op.operands]using hx);have hpW:=X0 (R:=W) (parts:=ps) (by simpa[VE,Op.operands]using hW);rw[e3 τ (λs hs=>ha s<|hp s<|by simpa using hs)];rw[e2]at h2;refine⟨h2.1,h2.2.1,XU (us:=(d,_)::us) ha hf.1 (λq hq=>?_) (λd' hd'=>?_) h2.2.2⟩
    ·simp only[AH,AA]at hq;rcases hq with rfl|hq
     ·exact h3 _ hd
     ·exact hpW q<|e1 q hq
    ·rw[hd]at hd';injection hd' with hd';subst hd';simp
   ·exact h2.elim
  ·exact h2
 ·rename_i t x y d ho hd;rw[ho]at hx;have hxy:(Le x).all R.contains=true∧(Le y).all R.contains=true:=by simpa[VE,Op.operands,E9]using hx
  have hcd:¬cns.contains d=true:=by have:=hf.1;simp only[Ya,ho,hd,Ad]at this;have:=this.2;simpa using this
  rw[As hcd]at h⊢;refine⟨h.1,?_⟩;have h2:=h.2;unfold gA at *;rw[IQ ha hxy.1,IQ ha hxy.2];split at h2
  ·exact⟨h2.1,h2.2.1,h2.2.2.1,JP ha hf.1 hd h2.2.2.2⟩
  ·exact h2
 ·rename_i d c ho;rw[ho]at hx;have hargs:∀x∈c.args.toList,(Le x).all R.contains=true:=λx hxm=>SY (g:=Le) hx (by simp only[Op.operands,Call.operands];simp;exact .inr<|by simpa using hxm)
  unfold W6 at *;split at h
  ·rename_i x hcal;have hgo:dK c=true:=by unfold dK;rw[hcal]
   rw[IQ ha (SY (g:=Le) (x:=x) hx<|by simp only[Op.operands,Call.operands,hcal];simp)];split at h
   ·rename_i f hcv;unfold Lo at *;split at h
    ·rename_i hc;rw[At hc];have⟨d',hd',cs,q0,q1,q2,q3,q4⟩:=h;have hcc:cns.contains d'=true:=by rw[hd']at hc;simpa using hc
     have hdR:R.contains d'=true:=by
      have:=hf.1;simp only[Ya,ho,hd',hgo,Ad]at this;have:=this.2;have hm:d'∈cns:=by simpa using hcc
      simpa[hm]using this
     have e1:(c.args.toList.map λx=>erK<|Cz τ x)=c.args.toList.map λx=>erK (Cz σ x):=Dh λx hx=>by rw[IQ ha (hargs x hx)]
     have e2:c.args.toList.all (λx=>(Cz τ x).isArg)=true:=by rw[Ap]at q2⊢;exactλx hx=>by rw[IQ ha (hargs x hx)];exact q2 x hx
     exact⟨d',hd',cs,q0,by rw[ha d' hdR];exact q1,e2,by rw[e1];exact q3,JP ha hf.1 hd' q4⟩
    ·rename_i hc;rw[As hc];have hadc:∀x xs,c.args.toList=x::xs->(Le x).all (λp=>kx R W p<|σ p)=true:=λx xs e=>by have:=hf.2.1;unfold aq at this;rw[Ad,Ad]at this;simpa[adC,ho,hcal,e]using this.2.1
     rcases h with h|h|h
     ·exact .inl<|qV ha hf hargs h
     ·exact .inr<|.inl<|qU ha hf hargs hadc h
     ·have key:∀{d}{X:Prop},Zh P d f c.args.toList σ K->X:=λh=>by
       rcases h with⟨s,xs,cs,cs',D,q2,q3,q4,_⟩|⟨zs,x,xs,ys,us,os,os',r,D,q1,q2,_⟩|⟨zs,x,s,n,n',e,cs,cs',r,q1,q2,q3,_⟩
       ·have h9:=hadc _ _ q2;simp only[Le,Bz,Fl,CE,q3,kx,q4,D5]at h9;cases h9
       ·have h9:(c.args.toList.flatMap Le).all (λp=>ZQ<|σ p)=true:=by have:=hf.2.1;unfold aq at this;rw[Ad,Ad]at this;have:=this.2.2;simp only[adS,ho,hcal,E9,Ad]at this;exact this.2
        cases us with
        |nil=>cases q2
        |cons u us=>
         simp only[AH,CQ]at q2;cases x with
         |tmp p=>have e:σ p=.tok u:=q2.1;have:=Ap.1 h9 p<|CA.2 ⟨.tmp p,by rw[q1];simp,by simp[Le]⟩;rw[e]at this;cases this
         |const v=>have e:cV v=.tok u:=q2.1;unfold cV at e;split at e<;>first|(cases e;done)|(split at e<;>cases e)
         |global g=>cases q2.1
         |func g=>cases q2.1
       ·have h9:(c.args.toList.flatMap Le).all (λp=>ZQ<|σ p)=true:=by have:=hf.2.1;unfold aq at this;rw[Ad,Ad]at this;have:=this.2.2;simp only[adS,ho,hcal,E9,Ad]at this;exact this.2
        cases x with
        |tmp p=>have e:σ p=.same s:=q2;have:=Ap.1 h9 p<|CA.2 ⟨.tmp p,by rw[q1];simp,by simp[Le]⟩;rw[e]at this;cases this
        |const v=>have e:cV v=.same s:=q2;unfold cV at e;split at e<;>first|(cases e;done)|(split at e<;>cases e)
        |global g=>cases q2
        |func g=>cases q2
      refine .inr<|.inr ?_;unfold ax at *;split at h
      ·exact key h.2
      ·rename_i d' hd';exact XR ha hf hd' key h
   ·rename_i u hcv;have h9:=hf.2.1;unfold aq at h9;rw[Ad,Ad]at h9;have h8:(Le x).all (λp=>ZQ<|σ p)=true:=by have:=h9.2.2;simp only[adS,ho,hcal,E9,Ad]at this;exact this.1
    cases x with
    |tmp p=>have e:σ p=.tok u:=hcv;simp[Le,e,ZQ]at h8
    |const v=>have e:cV v=.tok u:=hcv;unfold cV at e;split at e<;>first|(cases e;done)|(split at e<;>cases e)
    |global g=>cases hcv
    |func g=>cases hcv
   ·unfold e9 at *;split at h
    ·rename_i d' q b hd hg;rw[ha q (h2' q b hg)];exact⟨h.1,h.2.1,h.2.2.1,JP ha hf.1 hd h.2.2.2⟩
    ·exact h
  ·rename_i d' x y t t' hcal hd hargs' hts;have hW:=na h1<|h5.resolve_left<|by simp[simple,ho,hcal]
   rw[ho]at hW;have hargsW:∀x∈c.args.toList,(Le x).all W.contains=true:=λx hxm=>SY (g:=Le) hW (by simp only[Op.operands,Call.operands];simp;exact .inr<|by simpa using hxm)
   have hxW:=hargsW x (by rw[hargs'];simp);have hyW:=hargsW y (by rw[hargs'];simp);have hx1:=hargs x (by rw[hargs'];simp);have hy1:=hargs y (by rw[hargs'];simp);refine XR ha hf hd (λh2=>?_) h;unfold cZ at *;have⟨us,e1,e2,e3⟩:=Xw σ x
   have hag:GF R (CZ σ x) (CZ τ x):=by
    intro s hs;rw[e2,e3 τ (Y6 ha hx1)];by_cases hk:s∈us.map (·.1)
    ·exact cU hk
    ·rw[Ra hk,Ra hk];exact ha s hs
   rw[IQ ha hx1,IQ hag hy1];split at h2
   ·have⟨q1,q2,q3,q4,q5⟩:=h2;refine⟨q1,q2,q3,q4,?_⟩;have⟨vs,f1,f2,f3⟩:=Xw (CZ σ x) y;have k1:CZ (CZ σ x) y=Sr σ (vs++us):=by rw[f2,e2,af]
    have k2:CZ (CZ τ x) y=Sr τ (vs++us):=by rw[f3 _ (Y6 hag hy1),e3 τ (Y6 ha hx1),af]
    rw[k1]at q5;rw[k2];refine q5.imp (λq5=>?_)<|λq5=>⟨?_,q5.2⟩
    ·refine XU (us:=(d',_)::(vs++us)) ha hf.1 (λq hq=>?_) (λd'' hd'=>?_) q5
     ·simp only[AH,BM,AA,Al,e1,f1]at hq;rcases hq with rfl|hq|hq
      ·exact h3 _ hd
      ·exact XW hyW hq
      ·exact XW hxW hq
     ·rw[hd]at hd';injection hd' with hd';subst hd';simp
    ·refine XU (us:=(d',_)::(d',_)::(vs++us)) ha hf.1 (λq hq=>?_) (λd'' hd'=>?_) q5.1
     ·simp only[AH,BM,AA,Al,e1,f1]at hq;rcases hq with rfl|rfl|hq|hq
      ·exact h3 _ hd
      ·exact h3 _ hd
      ·exact XW hyW hq
      ·exact XW hxW hq
     ·rw[hd]at hd';injection hd' with hd';subst hd';simp
   ·exact h2
  ·exact X3 ha hf h
 ·rename_i t x f d ho hd;rw[ho]at hx;refine XR ha hf hd (λh2=>?_) h;unfold mZ at *;rw[IQ ha (by simpa[VE,Op.operands]using hx)];split at h2
  ·split at h2
   ·exact JP ha hf.1 hd h2
   ·exact h2
  ·exact h2
 ·rename_i f fs caps d ho hd;have:=hf.1;simp[Ya,ho]at this
 ·exact X3 ha hf h
end
def ptS(a:zN):zN:=(a.filter<|λc=>Nat.ble 2000000 c).map<|λc=>c - 2000000
def sM:V->Bool
 |.box _=>true
 |_=>false
def bxS(a:zN)(σ:PS):Bool:=(ptS a).all<|λp=>sM<|σ p
def spc(cns:zN)(o:LO):Bool:=match o.op,o.dst,o.g with
 |.move (.tmp p),some d,none=> !cns.contains d&&(ptS cns).contains p
 |_,_,_=>false
def fpX(a R W:zN)(o:LO):Bool:=spc a o&&((o.dst.toList).all W.contains&&W.all (λs=>o.dst==some s))
def fpB(a R W:zN)(o:LO):Bool:=Ya a R W o || fpX a R W o
def adB(a R:zN)(o:LO)(σ:PS):Bool:=((adU a o).all (λp=>fD R<|σ p)&&(adT a o).all (λp=>t9<|σ p))&&bxS a σ
def fpS(a R W:zN)(o:LO)(σ:PS):Prop:=fpB a R W o=true∧aq R W o.op σ=true∧adB a R o σ=true
def i0{P tb cns R W σ τ o K}(ha:GF R σ τ)(hτ:bxS cns τ=true)(hf:fpS cns R W o σ)(h:Hh P tb cns o σ K):Hh P tb cns o τ (Loc W σ τ K):=by
 have⟨h1,h2,h3⟩:=hf;unfold adB at h3;rw[Ad]at h3;unfold fpB at h1;rw[CP]at h1;rcases h1 with h1|h1
 ·exact s8 ha ⟨h1,h2,h3.1⟩ h
 ·unfold fpX at h1;rw[Ad,Ad]at h1;have⟨hs,hw1,hw2⟩:=h1;have⟨dst,op,ty,g⟩:=o;unfold spc at hs;split at hs
  ·rename_i p d e1 e2 e3;simp only at e1 e2 e3;subst e1 e2 e3;rw[Ad,AY]at hs;have hp:=Bk.1 hs.2;have hσ:sM (σ p)=true:=Ap.1 h3.2 p hp;have ht:sM (τ p)=true:=Ap.1 hτ p hp;simp only[Hh]at h⊢;rw[As (by rw[hs.1];simp)]at h⊢;cases hσp:σ p<;>rw[hσp]at hσ<;>first|cases hσ|skip
   cases hτp:τ p<;>rw[hτp]at ht<;>first|cases ht|skip
   simp only[Mn,pc,pv,mvV,mvC,hσp,hτp]at h⊢;refine⟨trivial,upd σ d<|.cref p 0,h.2,?_,λq hq=>?_⟩
   ·funext q;unfold pt;by_cases hqd:q=d
    ·subst hqd;have hwq:W.contains q=true:=by simpa using hw1
     rw[At hwq,upd_same,upd_same]
    ·rw[upd_ne _ _ hqd,upd_ne _ _ hqd];rw[As];intro hwq;have:=Ap.1 hw2 q<|Bk.1 hwq;simp only[BK,Ay]at this;exact hqd this.symm
   ·have hqd:q≠d:=λe=>by subst e;simp only[Option.toList_some,Bz,Fl,CE]at hw1;rw[hw1]at hq;cases hq
    rw[upd_ne _ _ hqd]
  ·cases hs
end
end Go.Proofs.YtpnoalhfjnjeaaaGreatDoor
