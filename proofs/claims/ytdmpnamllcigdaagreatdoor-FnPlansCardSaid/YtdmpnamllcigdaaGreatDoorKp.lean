/- A machine on data, part 2a: code and its rules. Over no program; no conditions. -/
import Derived.Test.YtdmpnamllcigdaaGreatDoorKa
open Go.RowKit
set_option linter.all false
namespace Go.Proofs.YtdmpnamllcigdaaGreatDoor
section
def RW(w:World)(b:Nat->Nat->Prop):List V->List Value->Prop
 |[],us=>us=[]
 |c::cs,us=>∃u a,us=u::a∧jS w b c u∧RW w b cs a
def RW.mono{w w' St St'}(f:∀b o,St b o->St' b o)(g:Ext St w w'):∀{a:List V}{vs:List Value},RW w St a vs->RW w' St' a vs
 |[],_,h=>h
 |c::a,_,⟨u,d,e,i,j⟩=>⟨u,d,e,i.mono f g,RW.mono f g j⟩
mutual
def flt:V->Bool
 |.int _ _=>true
 |.bool _=>true
 |.agg cs=>bR cs
 |.tup cs=>bR cs
 |_=>false
def bR:List V->Bool
 |[]=>true
 |c::cs=>flt c&&bR cs
end
section
variable {P:Program}{w w':World}{St St':Nat->Nat->Prop}
mutual
def pS:∀(c:V) {v:Value}{bs:zN},flt c=true->Ow P w St c v bs->bs=[]∧Ow P w' St' c v []
 |.int _ _,_,_,_,h=>⟨h.1,rfl,h.2⟩
 |.bool _,_,_,_,h=>⟨h.1,rfl,h.2⟩
 |.agg cs,_,_,a,⟨us,e,h⟩=>⟨(Yu cs a h).1,us,e,(Yu cs a h).2⟩
 |.tup cs,_,_,a,⟨us,e,h⟩=>⟨(lu cs a h).1,us,e,(lu cs a h).2⟩
 |.str _,_,_,a,_=>by cases a
 |.dat _ _,_,_,a,_=>by cases a
 |.arg _ _,_,_,a,_=>by cases a
 |.pin _ _ _,_,_,a,_=>by cases a
 |.own _ _ _,_,_,a,_=>by cases a
 |.fn _,_,_,a,_=>by cases a
 |.tok _,_,_,a,_=>by cases a
 |.box _,_,_,a,_=>by cases a
 |.cref _ _,_,_,a,_=>by cases a
 |.adr _ _,_,_,a,_=>by cases a
 |.undef,_,_,a,_=>by cases a
 |.uni _ _ _,_,_,a,_=>by cases a
 |.same _,_,_,a,_=>by cases a
 |.gh _ _,_,_,a,_=>by cases a
 |.val _ _,_,_,a,_=>by cases a
def Yu:∀(cs:List V) {us:List Value}{bs:zN},bR cs=true->Bx P w St cs us bs->bs=[]∧Bx P w' St' cs us []
 |[],_,_,_,h=>⟨h.2,h.1,rfl⟩
 |c::cs,_,_,d,⟨u,b,b1,b2,e,e2,f,g,i⟩=>by
  have a:flt c=true∧bR cs=true:=by simpa[bR]using d
  have⟨j,k⟩:=pS c a.1 g;have⟨l,m⟩:=Yu cs a.2 i;exact⟨by rw[e2,j,l];rfl,u,b,[],[],e,rfl,f,k,m⟩
def lu:∀(cs:List V) {us:List Value}{bs:zN},bR cs=true->MB P w St cs us bs->bs=[]∧MB P w' St' cs us []
 |[],_,_,_,h=>⟨h.2,h.1,rfl⟩
 |c::cs,_,_,d,⟨u,b,b1,b2,e,e2,f,g⟩=>by
  have a:flt c=true∧bR cs=true:=by simpa[bR]using d
  have⟨i,j⟩:=pS c a.1 f;have⟨k,l⟩:=lu cs a.2 g;exact⟨by rw[e2,i,k];rfl,u,b,[],[],e,rfl,j,l⟩
end
end
def Ret(P:Program)(w:World)(a:Nat->Nat->Prop)(r:V)(e:Ending)(w':World):Prop:=
 ∃v bs St',e=.returned v∧Below w.heap.size w w'∧(∀b o,b < w.heap.size->(St' b o↔a b o))∧(∀b o,St' b o->b < w'.heap.size)∧Ow P w' St' r v bs∧bs.Nodup∧∀g∈bs,w.heap.size<=g∧g < w'.heap.size
def KA:V->Bool
 |.int .. |.bool .. |.str .. |.dat .. |.arg .. |.fn .. |.tok .. =>true
 |_=>false
def Pz:V->Bool
 |.agg cs=>cs.all KA
 |c=>KA c
def Yy{P w St}:∀{cs:List V}{us:List Value}{bs:zN},cs.all KA=true->Bx P w St cs us bs->bs=[]
 |[],_,_,_,h=>h.2
 |c::cs,_,_,a,⟨u,b,b1,b2,g,e2,i,d,e⟩=>by
  simp only[BM,Ab]at a;have f:b1=[]:=by cases c<;>first|exact d.1|(exfalso;exact absurd a.1<|by simp[KA])
  rw[e2,f,Yy a.2 e];rfl
def Ajb(P:Program)(w:World)(c:Nat->Nat->Prop)(g:Nat)(cs':List V)(r:V)(e:Ending)(w':World):Prop:=
 ∃v bs St' T,∃a:Array Value,e=.returned v∧BelowK (λb=>b < w.heap.size∧b≠g) w w'∧(∀b o,b < w.heap.size->(St' b o↔c b o))∧(∀b o,St' b o->b < w'.heap.size)∧
  w'.heap[g]? =some (.cells a T (0,0))∧Bx P w' St' cs' a.toList []∧Ow P w' St' r v bs∧bs.Nodup∧∀k∈bs,w.heap.size<=k∧k < w'.heap.size
def Sl(P:Program)(f:FuncId):Prop:=∃fn,P.funcs[f]? =some fn∧fn.body.isNone=false∧(fn.name== "runtime.NumGoroutine")=false
def MI(P:Program)(f:FuncId)(a:List V)(r:V):Prop:=
 Sl P f∧∀w c (vs:List Value),(∀b o,c b o->b < w.heap.size)->Glb w c->RW w c a vs->Calls P f vs.toArray w (Ret P w c r)
def Ob(P:Program)(f:FuncId)(cs c cs':List V)(r:V):Prop:=
 Sl P f∧∀w a (g:Nat) T (d:Array Value) (vs:List Value),(∀b o,a b o->b < w.heap.size)->Glb w a->w.heap[g]? =some (.cells d T (0,0))->Bx P w a cs d.toList []->(∀o,¬a g o)->RW w a c vs->
  Calls P f (Value.pointer (some ⟨g,0,none⟩)::vs).toArray w (Ajb P w a g cs' r)
def AmU(P:Program)(w:World)(c:Nat->Nat->Prop)(g:Nat)(bs0:zN)(cs':List V)(e:Ending)(w':World):Prop:=
 ∃v bs St' T,∃a:Array Value,e=.returned v∧BelowK (λb=>b < w.heap.size∧b∉g::bs0) w w'∧(∀b o,b < w.heap.size->b∉bs0->(St' b o↔c b o))∧(∀b o,St' b o->b < w'.heap.size)∧
  w'.heap[g]? =some (.cells a T (0,0))∧Bx P w' St' cs' a.toList bs∧Ow P w' St' (.tup []) v []∧(g::bs).Nodup∧∀k∈bs,(k∈bs0∨w.heap.size<=k)∧k < w'.heap.size
def Ai9(P:Program)(f:FuncId)(cs c cs':List V):Prop:=
 Sl P f∧∀w a (g:Nat) T (d:Array Value) (bs0:zN) (vs:List Value),(∀b o,a b o->b < w.heap.size)->Glb w a->w.heap[g]? =some (.cells d T (0,0))->Bx P w a cs d.toList bs0->(g::bs0).Nodup->(∀k∈bs0,k < w.heap.size)->(∀o,¬a g o)->RW w (λb o=>a b o∧b∉bs0) c vs->
  Calls P f (Value.pointer (some ⟨g,0,none⟩)::vs).toArray w (AmU P w a g bs0 cs')
def Aja(P:Program)(w:World)(c:Nat->Nat->Prop)(us:List Value)(bs0:zN)(a:List V)(r:V)(e:Ending)(w':World):Prop:=
 ∃v bs St',e=.returned v∧BelowK (λb=>b < w.heap.size∧b∉bs0) w w'∧(∀b o,b < w.heap.size->b∉bs0->(St' b o↔c b o))∧(∀b o,St' b o->b < w'.heap.size)∧
  Bx P w' St' a us bs∧Ow P w' St' r v []∧bs.Nodup∧∀k∈bs,(k∈bs0∨w.heap.size<=k)∧k < w'.heap.size
def We(P:Program)(f:FuncId)(g os c e:List V)(r:V):Prop:=
 Sl P f∧∀w a (us:List Value) (bs0:zN) (d vs:List Value),(∀b o,a b o->b < w.heap.size)->Glb w a->Bx P w a os us bs0->bs0.Nodup->(∀k∈bs0,k < w.heap.size)->RW w (λb o=>a b o∧b∉bs0) g d->RW w (λb o=>a b o∧b∉bs0) c vs->
  Calls P f (d++(us++vs)).toArray w (Aja P w a us bs0 e r)
def NewAt(P:Program)(f:FuncId)(a cs:List V):Prop:=
 Sl P f∧∀w d (vs:List Value),(∀b o,d b o->b < w.heap.size)->Glb w d->RW w d a vs->Calls P f vs.toArray w λe w'=>
  ∃g T St',∃c:Array Value,e=.returned (.pointer<|some ⟨g,0,none⟩)∧Below w.heap.size w w'∧(∀b o,b < w.heap.size->(St' b o↔d b o))∧(∀b o,St' b o->b < w'.heap.size)∧
   w'.heap[g]? =some (.cells c T (0,0))∧Bx P w' St' cs c.toList []∧(∀o,¬St' g o)∧w.heap.size<=g∧g < w'.heap.size
section
variable {P:Program}{nt:Nat}{base:Bs}{bx:zN}{St St' St0:Nat->Nat->Prop}{B:Nat->zN}{hand:zN}{σ σ':PS}{a:Act}{w w' w0:World}{K:PS->Prop}{Q:Exit->Act->World->Prop}{o:Oper}
def ZY(h:HSim P nt bx base St B hand σ a w):∀(xs:List Operand),xs.all (λx=>(CP σ x).isArg)=true->RW w St (xs.map λx=>er<|CP σ x) (xs.map a.eval)
 |[],_=>rfl
 |x::xs,c=>by simp only[BM,Ab]at c;have⟨b,d⟩:=OB h x;exact⟨a.eval x,xs.map a.eval,rfl,((d.ow<|M8 c.1).rda c.1).erase,ZY h xs c.2⟩
def erK:V->V
 |.arg n cs=>.arg n cs
 |c=>er c
def eI(h:HSim P nt bx base St B hand σ a w):∀(xs:List Operand),xs.all (λx=>(CP σ x).isArg)=true->RW w St (xs.map λx=>erK<|CP σ x) (xs.map a.eval)
 |[],_=>rfl
 |x::xs,d=>by
  simp only[BM,Ab]at d;have⟨b,f⟩:=OB h x;have e:=(f.ow<|M8 d.1).rda d.1;have g:jS w St (erK<|CP σ x) (a.eval x):=by generalize CP σ x=c at e;cases c<;>first|exact e|exact e.erase
  exact⟨a.eval x,xs.map a.eval,rfl,g,eI h xs d.2⟩
def mg(h:HSim P nt bx base St B hand σ a w):∀(xs:List Operand),xs.all (λx=>(CP σ x).isArg)=true->RW w St (xs.map λx=>CP σ x) (xs.map a.eval)
 |[],_=>rfl
 |x::xs,c=>by simp only[BM,Ab]at c;have⟨b,d⟩:=OB h x;exact⟨a.eval x,xs.map a.eval,rfl,(d.ow<|M8 c.1).rda c.1,mg h xs c.2⟩
def mb(P:Program)(σ:PS)(f:FuncId)(b:List Operand)(r:V):Prop:=MI P f (b.map λx=>er<|CP σ x) r∨MI P f (b.map λx=>erK<|CP σ x) r∨MI P f (b.map λx=>CP σ x) r
def V6(σ:PS)(d:Option Tmp)(r:V):PS:=match d with
 |some d=>upd σ d r
 |none=>σ
def ny{f cal args ts r}(hcv:CP σ cal=.fn f)(hop:o.op=.call {callee:=.value cal,args:=args,argTypes:=ts})(hargs:args.toList.all (λx=>(CP σ x).isArg)=true)
  (hs:mb P σ f args.toList r) (hd:∀d,o.dst=some d->d < nt∧d∉bx) (hk:K (V6 σ o.dst r)):W8 P nt bx base St0 w0 o σ K:=by
 rintro a w Q ⟨St,B,h,hb,hst,hz⟩;have hs':Sl P f∧Calls P f (args.toList.map a.eval).toArray w (Ret P w St r):=hs.elim (λh1=>⟨h1.1,h1.2 w St _ h.st h.gl<|ZY h _ hargs⟩)<|λh0=>h0.elim (λh1=>⟨h1.1,h1.2 w St _ h.st h.gl<|eI h _ hargs⟩)<|λh1=>⟨h1.1,h1.2 w St _ h.st h.gl<|mg h _ hargs⟩
 have⟨⟨fn,hf,hbody,hname⟩,hcall⟩:=hs'
 have hr:(execOp a.eval o).run P w=.ok (.enter f (args.toList.map a.eval).toArray) w:=by
  have e1:(args.toList.map a.eval).toArray=args.map a.eval:=by rw[<-Kh,EC]
  have e2:a.eval cal=.func (.func f) #[] #[]:=by have⟨b,hs⟩:=OB h cal;rw[hcv]at hs;exact hs.2
  rw[e1];simp only[execOp,hop,resolve,e2,Deferred.ofValue,BC,BW,Bg,invoke,callFunc,run_program,Array.append_empty,Ov,hf,hbody,hname];simp
 unfold Oper.wp;rw[hr,F4];refine hcall.mono ?_;rintro e w1 ⟨v,bs,St1,rfl,h1,h2,h3,h4,h5,h6⟩;refine⟨_,hk,?_⟩;have g1:=h.grow (w':=w1) (St':=St1) h1 h2 h3;have g2:=g1.fresh (bs:=bs) h5 (λg hg=>⟨λh'=>by have:=hz g h';have:=(h6 g hg).1;omega,(h6 g hg).2⟩) (λs g hg hm=>by have:=(h.range s g hg).2;have:=(h6 g hm).1;omega) nF;have hst1:∀b o',base b->(St1 b o'↔St0 b o'):=λb o' hlt=>(h2 b o'<|hz b hlt).trans<|hst b o' hlt
 cases hdst:o.dst with
 |none=>exact⟨St1,B,g2.less AZ nF,hb.below h1 hz,hst1,Va hz h1.size⟩
 |some d=>have⟨hd1,hd2⟩:=hd d hdst;exact⟨St1,upd B d bs,g2.put hd1 hd2 h4.slot h5 nF h4.Ek.1 h4.SR,hb.below h1 hz,hst1,Va hz h1.size⟩
def HSim.Am8(h:HSim P nt bx base St B hand σ a w){s g:Nat}{cs cs':List V}(hs:σ s=.box cs)(hB:B s=[g])(hng:∀o,¬St g o)(hb:BelowK (λb=>b < w.heap.size∧b≠g) w w')
  (hst:∀b o,b < w.heap.size->(St' b o↔St b o)) (hst':∀b o,St' b o->b < w'.heap.size) (hc:CC P w' St' (tm a) (.box cs') (tm a s) [g]):HSim P nt bx base St' B hand (upd σ s<|.box cs') a w':=
 have hbox:∀b,(∃cs,DC (σ b)=some cs)->∃cs'',DC (upd σ s (.box cs') b)=some cs'':=λb ⟨cs,e⟩=>by
  by_cases eb:b=s
  ·subst eb;exact⟨cs',by rw[upd_same];rfl⟩
  ·exact⟨cs,by rw[upd_ne _ _ eb];exact e⟩
 {h with
  slot:=λq=>by
   by_cases e:q=s
   ·subst e;rw[upd_same,hB];exact hc
   ·rw[upd_ne _ _ e];refine(h.slot q).mono (λb o hs=>(hst b o<|h.st b o hs).2 hs) (λb o hs=>?_) (λk hk=>⟨hb.block k ⟨(h.range q k hk).2,λek=>?_⟩,λo=>hst k o (h.range q k hk).2⟩)<|λ_ _=>rfl
    ·exact Co<|hb.block b ⟨h.st b o hs,λeb=>hng o<|eb ▸ hs⟩
    ·subst ek;exact h.apart q s e k hk (by rw[hB];simp)
  boxes:=λq cs e=>by
   by_cases eq:q=s
   ·subst eq;exact h.boxes _ _ (by rw[hs];rfl)
   ·rw[upd_ne _ _ eq]at e;exact h.boxes q cs e
  crefs:=λq b e=>by
   by_cases eq:q=s
   ·subst eq;rw[upd_same]at e;cases e
   ·rw[upd_ne _ _ eq]at e;exact hbox b<|h.crefs q b e
  range:=λq k hk=>⟨(h.range q k hk).1,BV (h.range q k hk).2 hb.size⟩
  hrange:=λk hk=>⟨(h.hrange k hk).1,BV (h.hrange k hk).2 hb.size⟩
  st:=hst'
  gl:=h.gl.of (λb hg o=>(hst b o (h.st b o (hg o))).2 (hg o)) (λb o hg=>Co (hb.block b ⟨h.st b o (hg o),λeb=>hng o (eb ▸ hg o)⟩))}
def ac(h:HSim P nt bx base St B hand σ a w){f:FuncId}{c:Operand}(d:CP σ c=.fn f):a.eval c=.func (.func f) #[] #[]:=by have⟨b,e⟩:=OB h c;rw[d]at e;exact e.2
def VS{f cal args ts}(d:o.op=.call {callee:=.value cal,args:=args,argTypes:=ts})(e2:a.eval cal=.func (.func f) #[] #[])(e:Sl P f):(execOp a.eval o).run P w=.ok (.enter f (args.toList.map a.eval).toArray) w:=by
 have⟨i,g,b,c⟩:=e;have h:(args.toList.map a.eval).toArray=args.map a.eval:=by rw[<-Kh,EC]
 rw[h];simp only[execOp,d,resolve,e2,Deferred.ofValue,BC,BW,Bg,invoke,callFunc,run_program,Array.append_empty,Ov,g,b,c];simp
def uv{f cal args ts x xs s cs cs' r}(D:CP σ cal=.fn f)(F:o.op=.call {callee:=.value cal,args:=args,argTypes:=ts})(he:args.toList=x::xs)(G:Oa σ x=.cref s 0)(H:σ s=.box cs)(I:cs.all KA=true)
  (m:xs.all (λx=>(CP σ x).isArg)=true) (Z:Ob P f cs (xs.map λx=>er<|CP σ x) cs' r) (hd:∀d,o.dst=some d->d < nt∧d∉bx) (c:K (V6 (upd σ s<|.box cs') o.dst r)):W8 P nt bx base St0 w0 o σ K:=by
 rintro a w Q ⟨St,B,h,hb,J,p⟩;have⟨g,T,bs',L,q1,M,q3,q4,q5,N⟩:=T7 h G (cs:=cs) (by rw[H];rfl);have t:=Yy I q4;subst t;have n:=Z.2 w St g T L (xs.map a.eval) h.st h.gl q3 q4 N<|ZY h _ m;have hr:=VS (P:=P) (a:=a) (w:=w) F (ac h D) Z.1;rw[he,AP,q1]at hr;unfold Oper.wp;rw[hr,F4];refine n.mono ?_;rintro e w1 ⟨v,bs,St1,T1,u,rfl,i,O,h3,h4,h5,R,h7,S⟩;refine⟨_,c,?_⟩;have y:=h.range s g (by rw[q5];simp);have U:tm a s=.pointer (some ⟨g,0,none⟩):=by have:=h.slot s;rw[H]at this;have⟨g',_,_,_,e1,_⟩:=this;rw[e1]at M;simp only[Z5,Av]at M;rw[e1,M]
 have W:∀o,¬St1 g o:=λo ho=>N o<|(O g o y.2).1 ho
 have g1:=h.Am8 (w':=w1) (St':=St1) (cs':=cs') H q5 N i O h3 ⟨g,T1,[],u,U,h4,h5,rfl,W⟩;have g2:=g1.fresh (bs:=bs) h7 (λk c=>⟨λh'=>by have:=p k h';have:=(S k c).1;omega,(S k c).2⟩) (λq k c hm=>by have:=(h.range q k c).2;have:=(S k hm).1;omega) nF;have j:BelowK base.K w0 w1:=hb.trans ⟨i.os,i.tape,i.output,i.size,λk c=>i.block k ⟨p k c,λe=>y.1<|e ▸ c⟩⟩;have l:∀b z,base b->(St1 b z↔St0 b z):=λb z A=>(O b z<|p b A).trans<|J b z A
 cases C:o.dst with
 |none=>exact⟨St1,B,g2.less AZ nF,j,l,Va p i.size⟩
 |some d=>have⟨X,Y⟩:=hd d C;exact⟨St1,upd B d bs,g2.put X Y R.slot h7 nF R.Ek.1 R.SR,j,l,Va p i.size⟩
def HSim.Aeq(h:HSim P nt bx base St B [] σ a w){s g:Nat}{bs0 bs:zN}{cs cs':List V}(hs:σ s=.box cs)(hB:B s=g::bs0)(hng:∀o,¬St g o)(hd:∀k∈bs0,∃o,¬St k o)(hb:BelowK (λb=>b < w.heap.size∧b∉g::bs0) w w')
  (hst:∀b o,b < w.heap.size->b∉bs0->(St' b o↔St b o)) (hst':∀b o,St' b o->b < w'.heap.size) (hsafe:∀q,q≠s->Nl (σ q)=true) (hn:(g::bs).Nodup) (hbs:∀k∈bs,(k∈bs0∨w.heap.size<=k)∧k < w'.heap.size) (hz:∀b,base b->b < w.heap.size)
  (hc:CC P w' St' (tm a) (.box cs') (tm a s) (g::bs)):HSim P nt bx base St' (upd B s<|g::bs) [] (upd σ s<|.box cs') a w':=
 have hbox:∀b,(∃cs,DC (σ b)=some cs)->∃cs'',DC (upd σ s (.box cs') b)=some cs'':=λb ⟨cs,e⟩=>by
  by_cases eb:b=s
  ·subst eb;exact⟨cs',by rw[upd_same];rfl⟩
  ·exact⟨cs,by rw[upd_ne _ _ eb];exact e⟩
 have hf:FrB (g::bs0) w w':=⟨hb.os,hb.tape,hb.output,hb.size,λk hk hn=>hb.block k ⟨hk,hn⟩⟩;have hoff:∀q,q≠s->∀k∈B q,k∉g::bs0:=λq e k hk hm=>h.apart q s e k hk (by rw[hB];exact hm)
 have hin:∀q,q≠s->∀k∈B q,k∉g::bs:=λq e k hk hm=>by
  rcases AL.1 hm with rfl|hm
  ·exact hoff q e k hk BD
  ·rcases(hbs k hm).1 with h1|h1
   ·exact hoff q e k hk<|AW _ h1
   ·have:=(h.range q k hk).2;omega
 {h with
  slot:=λq=>by
   by_cases e:q=s
   ·subst e;rw[upd_same,upd_same];exact hc
   ·rw[upd_ne _ _ e,upd_ne _ _ e];refine T5 hf (λk hk=>?_) h.st (λk o hk hs=>(hst k o (h.st k o hs)<|λhm=>hk<|AW _ hm).2 hs) (hsafe q e) (h.slot q)<|λk hk=>⟨hb.block k ⟨(h.range q k hk).2,hoff q e k hk⟩,λo=>hst k o (h.range q k hk).2<|λhm=>hoff q e k hk<|AW _ hm⟩
    rcases AL.1 hk with rfl|hk
    ·exact⟨0,hng 0⟩
    ·exact hd k hk
  boxes:=λq cs e=>by
   by_cases eq:q=s
   ·subst eq;exact h.boxes _ _ (by rw[hs];rfl)
   ·rw[upd_ne _ _ eq]at e;exact h.boxes q cs e
  crefs:=λq b e=>by
   by_cases eq:q=s
   ·subst eq;rw[upd_same]at e;cases e
   ·rw[upd_ne _ _ eq]at e;exact hbox b<|h.crefs q b e
  nodup:=λq=>by
   by_cases e:q=s
   ·subst e;rw[upd_same];exact hn
   ·rw[upd_ne _ _ e];exact h.nodup q
  apart:=λq r hqr k hk hk'=>by
   by_cases e:q=s
   ·subst e;rw[upd_same]at hk;rw[upd_ne _ _ (Ne.symm hqr)]at hk';exact hin r (Ne.symm hqr) k hk' hk
   ·rw[upd_ne _ _ e]at hk;by_cases e':r=s
    ·subst e';rw[upd_same]at hk';exact hin q e k hk hk'
    ·rw[upd_ne _ _ e']at hk';exact h.apart q r hqr k hk hk'
  hnodup:=AZ
  hapart:=λ_ _ _=>by simp
  range:=λq k hk=>by
   by_cases e:q=s
   ·subst e;rw[upd_same]at hk;rcases AL.1 hk with rfl|hk
    ·have:=h.range q k (by rw[hB];simp);exact⟨this.1,BV this.2 hb.size⟩
    ·refine⟨?_,(hbs k hk).2⟩;rcases(hbs k hk).1 with h1|h1
     ·exact(h.range q k<|by rw[hB];exact AW _ h1).1
     ·exactλhbk=>by have:=hz k hbk;omega
   ·rw[upd_ne _ _ e]at hk;exact⟨(h.range q k hk).1,BV (h.range q k hk).2 hb.size⟩
  hrange:=nF
  st:=hst'
  gl:=h.gl.of (λb hg o=>(hst b o (h.st b o (hg o)) λhm=>(hd b hm).elim λo' ho=>ho (hg o')).2 (hg o)) (λb o hg=>Co (hb.block b ⟨h.st b o (hg o),λhm=>(AL.1 hm).elim (λeb=>hng o (eb ▸ hg o)) (λhm=>(hd b hm).elim λo' ho=>ho (hg o'))⟩))}
def HSim.lend(h:HSim P nt bx base St B [] σ a w){s:Nat}{bs0 bs:zN}{c':V}(hx:DC (σ s)=none)(hx':DC c'=none)(hrf:Ex c'=none)(hB:B s=bs0)(hd:∀k∈bs0,∃o,¬St k o)(hb:BelowK (λb=>b < w.heap.size∧b∉bs0) w w')
  (hst:∀b o,b < w.heap.size->b∉bs0->(St' b o↔St b o)) (hst':∀b o,St' b o->b < w'.heap.size) (hsafe:∀q,q≠s->Nl (σ q)=true) (hn:bs.Nodup) (hbs:∀k∈bs,(k∈bs0∨w.heap.size<=k)∧k < w'.heap.size) (hz:∀b,base b->b < w.heap.size)
  (hc:CC P w' St' (tm a) c' (tm a s) bs):HSim P nt bx base St' (upd B s bs) [] (upd σ s c') a w':=
 have hbox:∀b,(∃cs,DC (σ b)=some cs)->∃cs'',DC (upd σ s c' b)=some cs'':=λb ⟨cs,e⟩=>by
  by_cases eb:b=s
  ·subst eb;rw[hx]at e;cases e
  ·exact⟨cs,by rw[upd_ne _ _ eb];exact e⟩
 have hf:FrB bs0 w w':=⟨hb.os,hb.tape,hb.output,hb.size,λk hk hn=>hb.block k ⟨hk,hn⟩⟩;have hoff:∀q,q≠s->∀k∈B q,k∉bs0:=λq e k hk hm=>h.apart q s e k hk (by rw[hB];exact hm)
 have hin:∀q,q≠s->∀k∈B q,k∉bs:=λq e k hk hm=>by
  rcases(hbs k hm).1 with h1|h1
  ·exact hoff q e k hk h1
  ·have:=(h.range q k hk).2;omega
 {h with
  slot:=λq=>by
   by_cases e:q=s
   ·subst e;rw[upd_same,upd_same];exact hc
   ·rw[upd_ne _ _ e,upd_ne _ _ e];exact T5 hf hd h.st (λk o hk hs=>(hst k o (h.st k o hs) hk).2 hs) (hsafe q e) (h.slot q)<|λk hk=>⟨hb.block k ⟨(h.range q k hk).2,hoff q e k hk⟩,λo=>hst k o (h.range q k hk).2<|hoff q e k hk⟩
  boxes:=λq cs e=>by
   by_cases eq:q=s
   ·subst eq;rw[upd_same,hx']at e;cases e
   ·rw[upd_ne _ _ eq]at e;exact h.boxes q cs e
  crefs:=λq b e=>by
   by_cases eq:q=s
   ·subst eq;rw[upd_same,hrf]at e;cases e
   ·rw[upd_ne _ _ eq]at e;exact hbox b<|h.crefs q b e
  nodup:=λq=>by
   by_cases e:q=s
   ·subst e;rw[upd_same];exact hn
   ·rw[upd_ne _ _ e];exact h.nodup q
  apart:=λq r hqr k hk hk'=>by
   by_cases e:q=s
   ·subst e;rw[upd_same]at hk;rw[upd_ne _ _ (Ne.symm hqr)]at hk';exact hin r (Ne.symm hqr) k hk' hk
   ·rw[upd_ne _ _ e]at hk;by_cases e':r=s
    ·subst e';rw[upd_same]at hk';exact hin q e k hk hk'
    ·rw[upd_ne _ _ e']at hk';exact h.apart q r hqr k hk hk'
  hnodup:=AZ
  hapart:=λ_ _ _=>by simp
  range:=λq k hk=>by
   by_cases e:q=s
   ·subst e;rw[upd_same]at hk;refine⟨?_,(hbs k hk).2⟩;rcases(hbs k hk).1 with h1|h1
    ·exact(h.range q k<|by rw[hB];exact h1).1
    ·exactλhbk=>by have:=hz k hbk;omega
   ·rw[upd_ne _ _ e]at hk;exact⟨(h.range q k hk).1,BV (h.range q k hk).2 hb.size⟩
  hrange:=nF
  st:=hst'
  gl:=h.gl.of (λb hg o=>(hst b o (h.st b o (hg o)) λhm=>(hd b hm).elim λo' ho=>ho (hg o')).2 (hg o)) (λb o hg=>Co (hb.block b ⟨h.st b o (hg o),λhm=>(hd b hm).elim λo' ho=>ho (hg o')⟩))}
def pQ(D:zN):Operand->Bool
 |.tmp p=> !D.contains p
 |.const (.int _ _)=>true
 |.const (.bool _)=>true
 |.const (.string _)=>true
 |_=>false
def ZX(h:HSim P nt bx base St B hand σ a w){s:Nat}{bs0 D:zN}(i:(σ s).isArg=false)(n:∀k∈bs0,k∈B s)(r:∀k∈bs0,∃o,¬St k o)(c:∀q,q≠s->D.contains q=true∨Nl (σ q)=true):
  ∀(xs:List Operand),xs.all (λx=>(CP σ x).isArg&&pQ D x)=true->RW w (λb o=>St b o∧b∉bs0) (xs.map λx=>er<|CP σ x) (xs.map a.eval)
 |[],_=>rfl
 |x::xs,j=>by
  simp only[BM,Ab]at j;refine⟨a.eval x,xs.map a.eval,rfl,?_,ZX h i n r c xs j.2⟩;have⟨d,f⟩:=j.1
  have l:∃b,CC P w St (tm a) (CP σ x) (a.eval x) b∧Nl (CP σ x)=true∧∀k∈b,k∉bs0:=by
   cases x with
   |tmp p=>
    have t:p≠s:=λe=>by subst e;rw[show CP σ (.tmp p)=σ p from rfl]at d;rw[i]at d;cases d
    refine⟨B p,h.slot p,?_,λk g u=>h.apart p s t k g<|n k u⟩;rcases c p t with m|m
    ·simp only[pQ,m]at f;cases f
    ·exact m
   |const v=>
    refine⟨[],kl v,?_,nF⟩;cases v<;>first|rfl|(cases f;done)|skip
    simp only[CP,cV];split<;>rfl
   |_=>cases f
  have⟨b,y,z,A⟩:=l;have C:=T5 (FrB.refl bs0 w) r h.st (St':=λb o=>St b o∧b∉bs0) (λk o g i=>⟨i,g⟩) z y<|λk g=>⟨rfl,λo=>⟨λh=>h.1,λh=>⟨h,A k g⟩⟩⟩
  exact((C.ow<|M8 d).rda d).erase
def uu{f:FuncId}{cal:Operand}{args:Array Operand}{ts:Array TypeId}{xs:List Operand}{s:Nat}{cs cs':List V}{D:zN}(hcv:CP σ cal=.fn f)(hop:o.op=.call {callee:=.value cal,args:=args,argTypes:=ts})(he:args.toList=.tmp s::xs)(hs:σ s=.box cs)(hdp:GK cs=true)
  (hargs:xs.all (λx=>(CP σ x).isArg&&pQ D x)=true) (hp:Ai9 P f cs (xs.map λx=>er<|CP σ x) cs') (hD:D.contains s=false) (hsafe:∀q,q≠s->D.contains q=true∨Nl (σ q)=true) (hd:∀d,o.dst=some d->d < nt∧d∉bx) (hk:K (V6 (upd (kill D σ) s<|.box cs') o.dst<|.tup [])):W8 P nt bx base St0 w0 o σ K:=by
 rintro a w Q ⟨St,B,h,hb,hst,hz⟩;have hsl:=h.slot s;rw[hs]at hsl;obtain⟨g,T,bs0,arr,e1,e2,e3,e4,e5⟩:=hsl;have hnd:=h.nodup s;rw[e4]at hnd;have hsm:=Bx.WE cs hdp e3;have hrd:=ZX h (s:=s) (bs0:=bs0) (D:=D) (by rw[hs];rfl) (λk hk=>by rw[e4];exact AW _ hk) hsm hsafe xs hargs;have hrg:∀k∈bs0,k < w.heap.size:=λk hk=>(h.range s k<|by rw[e4];exact AW _ hk).2
 have hcall:=hp.2 w St g T arr bs0 (xs.map a.eval) h.st h.gl e2 e3 hnd hrg e5 hrd;have hr:=VS (P:=P) (a:=a) (w:=w) hop (ac h hcv) hp.1;rw[he,AP,show a.eval (.tmp s)=tm a s from rfl,e1]at hr;unfold Oper.wp;rw[hr,F4];refine hcall.mono ?_;rintro e w1 ⟨v,bs,St1,T1,arr1,rfl,h1,h2,h3,h4,h5,h6,h7,h8⟩;refine⟨_,hk,?_⟩;obtain⟨B2,k3,_,hBs⟩:=Yn D h;have hs3:kill D σ s=.box cs:=by rw[ZD hD (by rw[hs];rfl)];exact hs
 have hB3:B2 s=g::bs0:=by
  rcases hBs s with e|e
  ·have:=k3.slot s;rw[hs3]at this;obtain⟨_,_,_,_,_,_,_,e',_⟩:=this;rw[e]at e';cases e'
  ·rw[e,e4]
 have hgr:=h.range s g (by rw[e4];simp);have hng:∀o,¬St1 g o:=λo ho=>e5 o<|(h2 g o hgr.2 (BI.1 hnd).1).1 ho
 have g1:=k3.Aeq (w':=w1) (St':=St1) (cs':=cs') (bs:=bs) hs3 hB3 e5 hsm h1 h2 h3 (λq hq=>by
  rcases U9 D σ q with e|e
  ·rw[e];rfl
  ·cases hc:D.contains q with
   |true=>rw[Wt hc];rfl
   |false=>rw[e];exact(hsafe q hq).elim (λh=>by rw[hc]at h;cases h) id) h7 h8 hz ⟨g,T1,bs,arr1,e1,h4,h5,rfl,hng⟩
 have hbel:BelowK base.K w0 w1:=hb.trans ⟨h1.os,h1.tape,h1.output,h1.size,λk hk=>h1.block k ⟨hz k hk,λhm=>(h.range s k<|by rw[e4];exact hm).1 hk⟩⟩;have hst1:∀b o',base b->(St1 b o'↔St0 b o'):=λb o' hlt=>(h2 b o' (hz b hlt)<|λhm=>(h.range s b<|by rw[e4];exact AW _ hm).1 hlt).trans<|hst b o' hlt
 cases hdst:o.dst with
 |none=>exact⟨St1,_,g1,hbel,hst1,Va hz h1.size⟩
 |some d=>obtain⟨hd1,hd2⟩:=hd d hdst;exact⟨St1,_,g1.put hd1 hd2 h6.slot AZ nF h6.Ek.1 h6.SR,hbel,hst1,Va hz h1.size⟩
def ox(h:HSim P nt bx base St B hand σ a w):∀(xs:List Operand) (us:List Value),xs.map (CP σ)=us.map V.tok->xs.map a.eval=us
 |[],[],_=>rfl
 |[],_::_,e=>by cases e
 |_::_,[],e=>by cases e
 |x::xs,u::us,e=>by
  simp only[AP,Dk]at e;have d:a.eval x=u:=by have⟨b,c⟩:=OB h x;rw[e.1]at c;exact c.2.1
  rw[AP,d,ox h xs us e.2]
def ur{f cal args ts zs xs ys us os os' r D}(I:CP σ cal=.fn f)(J:o.op=.call {callee:=.value cal,args:=args,argTypes:=ts})(he:args.toList=zs++(xs++ys))(hx:xs.map (CP σ)=us.map V.tok)(y:σ gS=.gh us os)(L:GK os=true)
  (c:(zs++ys).all (λx=>(CP σ x).isArg&&pQ D x)=true) (Y:We P f (zs.map λx=>er<|CP σ x) os (ys.map λx=>er<|CP σ x) os' r) (Z:D.contains gS=false) (g:∀q,q≠gS->D.contains q=true∨Nl (σ q)=true) (hd:∀d,o.dst=some d->d < nt∧d∉bx) (i:K (V6 (upd (kill D σ) gS<|.gh us os') o.dst r)):W8 P nt bx base St0 w0 o σ K:=by
 rintro a w Q ⟨St,B,h,hb,M,z⟩;have A:=h.slot gS;rw[y]at A;have j:Bx P w St os us (B gS):=A;have N:=h.nodup gS;have p:=Bx.WE os L j;rw[ED,Ab]at c;have O:=ZX h (s:=gS) (bs0:=B gS) (D:=D) (by rw[y];rfl) (λk i=>i) p g ys c.2;have C:=ZX h (s:=gS) (bs0:=B gS) (D:=D) (by rw[y];rfl) (λk i=>i) p g zs c.1;have R:∀k∈B gS,k < w.heap.size:=λk i=>(h.range gS k i).2
 have t:=Y.2 w St us (B gS) (zs.map a.eval) (ys.map a.eval) h.st h.gl j N R C O;have hr:=VS (P:=P) (a:=a) (w:=w) J (ac h I) Y.1;rw[he,Br,Br,ox h xs us hx]at hr;unfold Oper.wp;rw[hr,F4];refine t.mono ?_;rintro e w1 ⟨v,bs,St1,rfl,l,h2,h3,h5,S,h7,h8⟩;refine⟨_,i,?_⟩;have⟨B2,k3,_,_,T⟩:=Zw D h;have F:kill D σ gS=.gh us os:=by rw[ZD Z (by rw[y];rfl)];exact y
 have U:B2 gS=B gS:=T gS Z (by rw[F,y])
 have g1:=k3.lend (w':=w1) (St':=St1) (c':=.gh us os') (bs:=bs) (by rw[F];rfl) rfl rfl U p l h2 h3 (λq hq=>by
  rcases U9 D σ q with e|e
  ·rw[e];rfl
  ·cases hc:D.contains q with
   |true=>rw[Wt hc];rfl
   |false=>rw[e];exact(g q hq).elim (λh=>by rw[hc]at h;cases h) id) h7 h8 z h5
 have m:BelowK base.K w0 w1:=hb.trans ⟨l.os,l.tape,l.output,l.size,λk i=>l.block k ⟨z k i,λhm=>(h.range gS k hm).1 i⟩⟩;have n:∀b G,base b->(St1 b G↔St0 b G):=λb G u=>(h2 b G (z b u)<|λhm=>(h.range gS b hm).1 u).trans<|M b G u
 cases H:o.dst with
 |none=>exact⟨St1,_,g1,m,n,Va z l.size⟩
 |some d=>have⟨W,X⟩:=hd d H;exact⟨St1,_,g1.put W X S.slot AZ nF S.Ek.1 S.SR,m,n,Va z l.size⟩
def HSim.Am9(h:HSim P nt bx base St B hand σ a w){s g:Nat}{c':V}{cs cs':List V}(hs:DC (σ s)=some cs)(hc':DC c'=some cs')(hrf:Ex c'=none)(hB:B s=[g])(hng:∀o,¬St g o)(hb:BelowK (λb=>b < w.heap.size∧b≠g) w w')
  (hst:∀b o,b < w.heap.size->(St' b o↔St b o)) (hst':∀b o,St' b o->b < w'.heap.size) (hc:CC P w' St' (tm a) c' (tm a s) [g]):HSim P nt bx base St' B hand (upd σ s c') a w':=
 have hbox:∀b,(∃cs,DC (σ b)=some cs)->∃cs'',DC (upd σ s c' b)=some cs'':=λb ⟨cs,e⟩=>by
  by_cases eb:b=s
  ·subst eb;exact⟨cs',by rw[upd_same];exact hc'⟩
  ·exact⟨cs,by rw[upd_ne _ _ eb];exact e⟩
 {h with
  slot:=λq=>by
   by_cases e:q=s
   ·subst e;rw[upd_same,hB];exact hc
   ·rw[upd_ne _ _ e];refine(h.slot q).mono (λb o hs=>(hst b o<|h.st b o hs).2 hs) (λb o hs=>?_) (λk hk=>⟨hb.block k ⟨(h.range q k hk).2,λek=>?_⟩,λo=>hst k o (h.range q k hk).2⟩)<|λ_ _=>rfl
    ·exact Co<|hb.block b ⟨h.st b o hs,λeb=>hng o<|eb ▸ hs⟩
    ·subst ek;exact h.apart q s e k hk (by rw[hB];simp)
  boxes:=λq cs1 e=>by
   by_cases eq:q=s
   ·subst eq;exact h.boxes _ _ hs
   ·rw[upd_ne _ _ eq]at e;exact h.boxes q cs1 e
  crefs:=λq b e=>by
   by_cases eq:q=s
   ·subst eq;rw[upd_same,hrf]at e;cases e
   ·rw[upd_ne _ _ eq]at e;exact hbox b<|h.crefs q b e
  range:=λq k hk=>⟨(h.range q k hk).1,BV (h.range q k hk).2 hb.size⟩
  hrange:=λk hk=>⟨(h.hrange k hk).1,BV (h.hrange k hk).2 hb.size⟩
  st:=hst'
  gl:=h.gl.of (λb hg o=>(hst b o (h.st b o (hg o))).2 (hg o)) (λb o hg=>Co (hb.block b ⟨h.st b o (hg o),λeb=>hng o (eb ▸ hg o)⟩))}
def uw{f cal x args ts zs s n n' e cs cs' r}(hcv:CP σ cal=.fn f)(hop:o.op=.call {callee:=.value cal,args:=args,argTypes:=ts})(he:args.toList=zs++[x])(hx:CP σ x=.same s)(hs:σ s=.uni e n cs)(hf:bR cs=true)(hf':bR cs'=true)(hfr:flt r=true)
  (hargs:zs.all (λx=>(CP σ x).isArg)=true) (hp:We P f (zs.map λx=>er<|CP σ x) [.own e n cs] [] [.own e n' cs'] r) (hd:∀d,o.dst=some d->d < nt∧d∉bx) (hk:K (V6 (upd σ s<|.uni e n' cs') o.dst r)):W8 P nt bx base St0 w0 o σ K:=by
 rintro a w Q ⟨St,B,h,hb,hst,hz⟩;have hsl:=h.slot s;rw[hs]at hsl;have⟨g,bs',arr,e1,e2,h1,hB,h2,hl,hlen⟩:=hsl;have hnil:bs'=[]:=(Yu (w':=w) (St':=St) cs hf h1).1;subst hnil;have hgr:=h.range s g (by rw[hB];simp);have hxv:a.eval x=tm a s:=by have⟨b,q⟩:=OB h x;rw[hx]at q;exact q.2
 have harr:arr.size=n * Wl P e:=by rw[<-Ce,h1.length,hlen]
 have hown:Ow P w (λb o'=>St b o'∨(b=g∧o' < n * Wl P e)) (.own e n cs) (tm a s) [g]:=by
  refine⟨hl,arr.toList,[],?_,(Yu cs hf h1).2,by rw[e1];rfl,λk hk o'=>?_,λh0=>?_⟩
  ·rw[e1];refine⟨by rw[Ce,harr],.inr ⟨g,n,arr,rfl,BF _,e2,A5 _,?_,harr,?_⟩⟩
   ·unfold maxLen;unfold lim at hl;omega
   ·rw[<-harr,<-Ce,AQ]
  ·rw[e1]at hk;simp only[Value.ownBlock,Av]at hk;subst hk;exact⟨λhh=>hh.elim (λhh=>absurd hh<|h2 o') (·.2),λhh=>.inr ⟨rfl,hh⟩⟩
  ·subst h0;exact BG (by simpa using hlen)
 have hrd:=(ZY h zs hargs).mono (w':=w) (St':=λb o'=>(St b o'∨(b=g∧o' < n * Wl P e))∧b∉[g]) (λb o' hh=>⟨.inl hh,λhm=>h2 o'<|by rw[As]at hm;exact hm ▸ hh⟩)<|λ_ _ _=>rfl
 have hcall:=hp.2 w (λb o'=>St b o'∨(b=g∧o' < n * Wl P e)) [tm a s] [g] (zs.map a.eval) [] (λb o' hh=>hh.elim (h.st b o')<|λhh=>by rw[hh.1];exact hgr.2) (h.gl.of (λb hg o'=>.inl<|hg o')<|λ_ _ _=>rfl)
  ⟨tm a s,[],[g],[],rfl,rfl,rfl,hown,rfl,rfl⟩ nF (by simpa using hgr.2) hrd rfl
 have hr:=VS (P:=P) (a:=a) (w:=w) hop (ac h hcv) hp.1;rw[he,Br,List.map_singleton,hxv]at hr;unfold Oper.wp;rw[hr,F4];refine hcall.mono ?_;rintro e' w1 ⟨v,bs,St1,rfl,k1,k2,k3,k5,k6,k7,k8⟩;refine⟨_,hk,?_⟩;have⟨u,us',b1,b2,p1,p2,p3,p4,p5⟩:=k5;simp only[Dk]at p1;obtain⟨rfl,rfl⟩:=p1;have⟨hl',xs,bs2,⟨hxl,ho⟩,hrow3,hb1,hst3,hnil3⟩:=p4;rw[e1]at ho
 obtain rfl:n=n':=by
  rcases ho with⟨ho,_⟩|⟨g',cap,cur,ho,_⟩
  ·cases ho
  ·exact(Value.slice.inj ho).2.1
 obtain⟨cur,hc1,hc2,hc3⟩:∃cur:Array Value,w1.heap[g]? =some (.cells cur e (0,0))∧cur.size=n * Wl P e∧cur.toList.take (n * Wl P e)=xs:=by
  rcases ho with⟨ho,_⟩|⟨g',cap,cur,ho,_,hh,_,_,hsz,hx'⟩
  ·cases ho
  ·injection ho with ho1 ho2 ho3
   injection ho1 with ho1
   injection ho1 with ho1
   subst ho1 ho3;exact⟨cur,hh,hsz,hx'⟩
 have hxc:cur.toList=xs:=by rw[<-hc3,<-hc2,<-Ce,AQ]
 have g1:=h.Am9 (w':=w1) (St':=λb o'=>St1 b o'∧b≠g) (s:=s) (c':=.uni e n cs') (by rw[hs];rfl) rfl rfl hB h2 ⟨k1.os,k1.tape,k1.output,k1.size,λk hk=>k1.block k ⟨hk.1,by simpa using hk.2⟩⟩
  (λb o' hlt=>⟨λhh=>((k2 b o' hlt (by simpa using hh.2)).1 hh.1).elim id (λh=>absurd h.1 hh.2),λhh=>by
   have hne:b≠g:=λe=>h2 o'<|e ▸ hh
   exact⟨(k2 b o' hlt (by simpa using hne)).2 (.inl hh),hne⟩⟩) (λb o' hh=>k3 b o' hh.1)
  ⟨g,[],cur,e1,hc1,by rw[hxc];exact(Yu cs' hf' hrow3).2,rfl,λo' hh=>hh.2 rfl,hl,by rw[<-hrow3.length,hxl]⟩
 have hbel:BelowK base.K w0 w1:=hb.trans ⟨k1.os,k1.tape,k1.output,k1.size,λk hk=>k1.block k ⟨hz k hk,λhm=>hgr.1<|by rw[As]at hm;exact hm ▸ hk⟩⟩
 have hst1:∀b o',base b->((St1 b o'∧b≠g)↔St0 b o'):=λb o' hlt=>by
  have hne:b≠g:=λe=>hgr.1<|e ▸ hlt
  have:=k2 b o' (hz b hlt) (by simpa using hne);rw[<-hst b o' hlt];exact⟨λhh=>(this.1 hh.1).elim id<|λh=>absurd h.1 hne,λhh=>⟨this.2<|.inl hh,hne⟩⟩
 have hr6:=(pS (w':=w1) (St':=λb o'=>St1 b o'∧b≠g) r hfr k6).2;cases hdst:o.dst with
 |none=>exact⟨_,_,g1.less AZ nF,hbel,hst1,Va hz k1.size⟩
 |some d=>have⟨hd1,hd2⟩:=hd d hdst;exact⟨_,_,g1.put hd1 hd2 hr6.slot AZ nF hr6.Ek.1 hr6.SR,hbel,hst1,Va hz k1.size⟩
def ut{f:FuncId}{cal:Operand}{args:Array Operand}{ts:Array TypeId}{cs:List V}{d:Nat}(hcv:CP σ cal=.fn f)(hop:o.op=.call {callee:=.value cal,args:=args,argTypes:=ts})
  (hargs:args.toList.all (λx=>(CP σ x).isArg)=true) (hp:NewAt P f (args.toList.map λx=>erK<|CP σ x) cs) (ho:o.dst=some d) (hd:d < nt) (hx:d∈bx) (hd0:SQ+d∉bx) (hold:DC (σ d)=none) (hk:K (upd σ d<|.box cs)):W8 P nt bx base St0 w0 o σ K:=by
 rintro a w Q ⟨St,B,h,hb,hst,hz⟩;have hcall:=hp.2 w St (args.toList.map a.eval) h.st h.gl<|eI h _ hargs;have hr:=VS (P:=P) (a:=a) (w:=w) hop (ac h hcv) hp.1;unfold Oper.wp;rw[hr,F4];refine hcall.mono ?_;rintro e w1 ⟨g,T,St1,arr,rfl,h1,h2,h3,h4,h5,h6,h7,h8⟩;refine⟨_,hk,?_⟩;have g1:=h.grow (w':=w1) (St':=St1) h1 h2 h3;have g2:=g1.fresh (bs:=[g]) nF (λk hk=>by simp only[As]at hk;subst hk;exact⟨λh'=>by have:=hz k h';omega,h8⟩) (λq k hk hm=>by simp only[As]at hm;subst hm;have:=(h.range q k hk).2;omega) nF;have hst1:∀b o',base b->(St1 b o'↔St0 b o'):=λb o' hlt=>(h2 b o'<|hz b hlt).trans<|hst b o' hlt
 refine⟨St1,upd B d [g],?_,hb.below h1 hz,hst1,Va hz h1.size⟩;rw[ho];exact g2.gA hd hx hd0 hold (c:=.box cs) ⟨g,T,[],arr,rfl,h4,h5,rfl,h6⟩ nF nF rfl
def ju{p d s off:Nat}(i:o.op=.assign (.tmp p)∨o.op=.move (.tmp p))(k:Oa σ (.tmp p)=.cref s off)(b:(∃cs,DC (σ s)=some cs)∨Ex (σ p)=some s)(l:o.dst=some d)(m:d < nt)(n:d∉bx)(q:K (upd σ d<|.cref s off)):W8 P nt bx base St0 w0 o σ K:=by
 rintro a w Q ⟨St,B,h,r,j,t⟩;obtain⟨cs,f⟩:∃cs,DC (σ s)=some cs:=b.elim id<|h.crefs p s;obtain⟨g,T,u,v,x,y,A,C,D,F⟩:=T7 h k f;have z:(execOp a.eval o).run P w=.ok (.value<|a.eval<|.tmp p) w:=by rcases i with e|e<;>simp[execOp,e]
 refine NI z ⟨_,q,St,upd B d [],?_,r,j,t⟩;rw[l];exact h.put m n (c:=.cref s off) ⟨rfl,g,y,x⟩ AZ nF rfl (λb e=>by simp only[Ex,Av]at e;subst e;exact⟨cs,f⟩)
end
def Vm(P:Program)(w:World)(c:Nat->Nat->Prop):List (List V)->List Value->zN->Prop
 |[],us,bs=>us=[]∧bs=[]
 |cs::b,us,bs=>∃u a b1 b2,us=u::a∧bs=b1++b2∧CC P w c (λ_=>undef) (.box cs) u b1∧Vm P w c b a b2
def AdP(P:Program)(w:World)(c:Nat->Nat->Prop)(us:List Value)(bs0:zN)(a:List (List V))(r:V)(e:Ending)(w':World):Prop:=
 ∃v bs St',e=.returned v∧BelowK (λb=>b < w.heap.size∧b∉bs0) w w'∧(∀b o,b < w.heap.size->b∉bs0->(St' b o↔c b o))∧(∀b o,St' b o->b < w'.heap.size)∧
  Vm P w' St' a us bs∧Ow P w' St' r v []∧bs.Nodup∧∀k∈bs,(k∈bs0∨w.heap.size<=k)∧k < w'.heap.size
def VL(P:Program)(f:FuncId)(us:List Value)(e:List (List V))(a:List V)(c:List (List V))(r:V):Prop:=
 Sl P f∧∀w d (bs0:zN) (vs:List Value),(∀b o,d b o->b < w.heap.size)->Glb w d->Vm P w d e us bs0->bs0.Nodup->(∀k∈bs0,k < w.heap.size)->RW w d a vs->
  Calls P f (vs++us).toArray w (AdP P w d us bs0 c r)
section
variable {P:Program}{nt:Nat}{base:Bs}{bx:zN}{St St' St0:Nat->Nat->Prop}{B B':Nat->zN}{hand:zN}{σ σ':PS}{a:Act}{w w' w0:World}{o:Oper}{K:PS->Prop}
def Vm.length:∀{b:List (List V)}{us:List Value}{bs:zN},Vm P w St b us bs->us.length=b.length
 |[],_,_,h=>by rw[h.1];rfl
 |cs::b,_,_,⟨u,c,b1,b2,d,e2,f,e⟩=>by rw[d,AC,AC,e.length]
def qU{t t' cs v b}(h:CC P w St t (.box cs) v b):CC P w St t' (.box cs) v b:=h
def bA:∀{ss:zN}{g:List (List V)}{us:List Value}{bs:zN},Vm P w St g us bs->bs.Nodup->ss.Nodup->ss.length=g.length->
  ∃β:Nat->zN,(∀(i s:Nat) (cs:List V) (u:Value),ss[i]? =some s->g[i]? =some cs->us[i]? =some u->CC P w St (λ_=>undef) (.box cs) u (β s))∧(∀s∈ss,∀k∈β s,k∈bs)∧(∀s,(β s).Nodup)∧∀s∈ss,∀t∈ss,s≠t->∀k∈β s,k∉β t
 |[],[],_,_,_,_,_,_=>⟨λ_=>[],nF,nF,λ_=>AZ,nF⟩
 |[],_::_,_,_,_,_,_,e=>by cases e
 |_::_,[],_,_,_,_,_,e=>by cases e
 |s::ss,cs::g,_,_,⟨u,y,b1,b2,h,e2,z,A⟩,C,D,F=>by
  subst h e2;have⟨G,H,r⟩:=AI.1 C;have⟨I,J⟩:=BI.1 D;have⟨β,L,n,M,N⟩:=bA (ss:=ss) A H J (by simpa using F);have off:∀q∈ss,q≠s:=λq d e=>I<|e ▸ d
  refine⟨λq=>if q=s then b1 else β q,?_,?_,?_,?_⟩
  ·intro i q c v d l m;cases i with
   |zero=>simp only[CB,Av]at d l m;subst d l m;simp only[FB];exact z
   |succ i=>simp only[Dm]at d l m;simp only[AA (off q<|B4 d)];exact L i q c v d l m
  ·intro q d k f;dsimp only at f;split at f
   ·exact AD _ f
   ·rename_i p;exact AB _<|n q ((AL.1 d).resolve_left p) k f
  ·intro q;dsimp only;split
   ·exact G
   ·exact M q
  ·intro q d t x j k f b;dsimp only at f b;split at f
   ·rename_i h;split at b
    ·rename_i e2;exact j<|h.trans e2.symm
    ·rename_i e2;exact r k f k (n t ((AL.1 x).resolve_left e2) k b) rfl
   ·rename_i h;split at b
    ·exact r k b k (n q ((AL.1 d).resolve_left h) k f) rfl
    ·rename_i e2;exact N q ((AL.1 d).resolve_left h) t ((AL.1 x).resolve_left e2) j k f b
def HSim.vars(h:HSim P nt bx base St B [] σ a w){ss:zN}{bs0:zN}(hB0:∀k∈bs0,∃s∈ss,k∈B s)(hB1:∀s∈ss,∀k∈B s,k∈bs0)(hd:∀k∈bs0,∃o,¬St k o)(hb:BelowK (λb=>b < w.heap.size∧b∉bs0) w w')
  (hst:∀b o,b < w.heap.size->b∉bs0->(St' b o↔St b o)) (hst':∀b o,St' b o->b < w'.heap.size) (hz:∀b,base b->b < w.heap.size)
  (hoff:∀q,q∉ss->σ' q=σ q∧B' q=B q∧Nl (σ q)=true)
  (hin:∀s∈ss,CC P w' St' (tm a) (σ' s) (tm a s) (B' s)∧(∃cs,DC (σ s)=some cs)∧(∃cs,DC (σ' s)=some cs)∧Ex (σ' s)=none∧(B' s).Nodup∧∀k∈B' s,(k∈bs0∨w.heap.size<=k)∧k < w'.heap.size)
  (hap:∀s∈ss,∀t∈ss,s≠t->∀k∈B' s,k∉B' t):HSim P nt bx base St' B' [] σ' a w':=
 have hf:FrB bs0 w w':=⟨hb.os,hb.tape,hb.output,hb.size,λk hk hn=>hb.block k ⟨hk,hn⟩⟩;have hno:∀q,q∉ss->∀k∈B q,k∉bs0:=λq hq k hk hm=>by have⟨s,hs,hks⟩:=hB0 k hm;exact h.apart q s (λe=>hq<|e ▸ hs) k hk hks
 have hbase:∀k,k∈bs0->¬base k:=λk hk=>by have⟨s,hs,hks⟩:=hB0 k hk;exact(h.range s k hks).1
 have hmix:∀q s,q∉ss->s∈ss->∀k∈B q,k∉B' s:=λq s hq hs k hk hk'=>by
  rcases((hin s hs).2.2.2.2.2 k hk').1 with h1|h1
  ·exact hno q hq k hk h1
  ·have:=(h.range q k hk).2;omega
 {h with
  slot:=λq=>by
   by_cases hq:q∈ss
   ·exact(hin q hq).1
   ·have⟨e1,e2,e3⟩:=hoff q hq;rw[e1,e2];exact T5 hf hd h.st (λk o hk hs=>(hst k o (h.st k o hs) hk).2 hs) e3 (h.slot q)<|λk hk=>⟨hb.block k ⟨(h.range q k hk).2,hno q hq k hk⟩,λo=>hst k o (h.range q k hk).2<|hno q hq k hk⟩
  boxes:=λq cs e=>by
   by_cases hq:q∈ss
   ·have⟨ds,hds⟩:=(hin q hq).2.1;exact h.boxes q ds hds
   ·rw[(hoff q hq).1]at e;exact h.boxes q cs e
  crefs:=λq b e=>by
   have hr:Ex (σ q)=some b:=by
    by_cases hq:q∈ss
    ·rw[(hin q hq).2.2.2.1]at e;cases e
    ·rw[(hoff q hq).1]at e;exact e
   have⟨cs,hcs⟩:=h.crefs q b hr;by_cases hb':b∈ss
   ·exact(hin b hb').2.2.1
   ·exact⟨cs,by rw[(hoff b hb').1];exact hcs⟩
  nodup:=λq=>by
   by_cases hq:q∈ss
   ·exact(hin q hq).2.2.2.2.1
   ·rw[(hoff q hq).2.1];exact h.nodup q
  apart:=λq r hqr k hk hk'=>by
   by_cases hq:q∈ss
   ·by_cases hr:r∈ss
    ·exact hap q hq r hr hqr k hk hk'
    ·rw[(hoff r hr).2.1]at hk';exact hmix r q hr hq k hk' hk
   ·rw[(hoff q hq).2.1]at hk;by_cases hr:r∈ss
    ·exact hmix q r hq hr k hk hk'
    ·rw[(hoff r hr).2.1]at hk';exact h.apart q r hqr k hk hk'
  hnodup:=AZ
  hapart:=λ_ _ _=>by simp
  range:=λq k hk=>by
   by_cases hq:q∈ss
   ·have⟨h1,h2⟩:=(hin q hq).2.2.2.2.2 k hk;refine⟨?_,h2⟩;rcases h1 with h1|h1
    ·exact hbase k h1
    ·exactλhbk=>by have:=hz k hbk;omega
   ·rw[(hoff q hq).2.1]at hk;exact⟨(h.range q k hk).1,BV (h.range q k hk).2 hb.size⟩
  hrange:=nF
  st:=hst'
  gl:=h.gl.of (λb hg o=>(hst b o (h.st b o (hg o)) λhm=>(hd b hm).elim λo' ho=>ho (hg o')).2 (hg o)) (λb o hg=>Co (hb.block b ⟨h.st b o (hg o),λhm=>(hd b hm).elim λo' ho=>ho (hg o')⟩))}
end
section
variable {P:Program}{w:World}{St:Nat->Nat->Prop}
mutual
def Ow.df:∀(c:V) {v:Value}{b:zN},c.D3=true->Ow P w St c v b->∀g∈b,∃o,¬St g o
 |.tok _,_,_,_,h,g,hg=>by rw[h.1]at hg;cases hg
 |.int _ _,_,_,_,h,g,hg=>by rw[h.1]at hg;cases hg
 |.bool _,_,_,_,h,g,hg=>by rw[h.1]at hg;cases hg
 |.str _,_,_,_,h,g,hg=>by rw[h.1]at hg;cases hg
 |.dat _ _,_,_,_,h,g,hg=>by rw[h.1]at hg;cases hg
 |.arg _ _,_,_,_,h,g,hg=>by rw[h.1]at hg;cases hg
 |.pin _ _ _,_,_,_,h,g,hg=>by rw[h.1]at hg;cases hg
 |.fn _,_,_,_,h,g,hg=>by rw[h.1]at hg;cases hg
 |.own e n cs,v,b,_,⟨hn,xs,bs',h1,h2,h3,h4,h5⟩,g,hg=>by
  rw[h3]at hg;rcases Al.1 hg with hg|hg
  ·exact⟨n * Wl P e,λhs=>absurd ((h4 g (by simpa using hg) _).1 hs)<|G2 _⟩
  ·exact Bx.df cs h2 g hg
 |.agg _,_,_,hc,_,_,_=>by cases hc
 |.tup _,_,_,hc,_,_,_=>by cases hc
 |.box _,_,_,hc,_,_,_=>by cases hc
 |.uni _ _ _,_,_,hc,_,_,_=>by cases hc
 |.same _,_,_,hc,_,_,_=>by cases hc
 |.val _ _,_,_,hc,_,_,_=>by cases hc
 |.cref _ _,_,_,hc,_,_,_=>by cases hc
 |.adr _ _,_,_,hc,_,_,_=>by cases hc
 |.gh _ _,_,_,hc,_,_,_=>by cases hc
 |.undef,_,_,hc,_,_,_=>by cases hc
def Bx.df:∀(cs:List V) {us:List Value}{b:zN},Bx P w St cs us b->∀g∈b,∃o,¬St g o
 |[],_,_,h,g,a=>by rw[h.2]at a;cases a
 |c::cs,_,_,⟨u,d,b1,b2,j,e2,e,f,i⟩,g,a=>by
  rw[e2]at a;rcases Al.1 a with a|a
  ·exact Ow.df c e f g a
  ·exact Bx.df cs i g a
end
def Vm.df:∀{b:List (List V)}{us:List Value}{bs:zN},Vm P w St b us bs->∀g∈bs,∃o,¬St g o
 |[],_,_,h,g,a=>by rw[h.2]at a;cases a
 |cs::b,_,_,⟨u,c,b1,b2,l,e2,⟨m,T,d,e,n,p,f,i,j⟩,k⟩,g,a=>by
  rw[e2,i]at a;rcases Al.1 a with a|a
  ·rcases AL.1 a with rfl|a
   ·exact⟨0,j 0⟩
   ·exact Bx.df cs f g a
  ·exact k.df g a
end
def ii(σ:PS):zN->List (List V)->PS
 |s::ss,cs::a=>upd (ii σ ss a) s<|.box cs
 |_,_=>σ
def oA{σ q}:∀{ss:zN}{css:List (List V)},q∉ss->ii σ ss css q=σ q
 |[],_,_=>rfl
 |_::_,[],_=>rfl
 |s::ss,cs::css,h=>by rw[ii,upd_ne _ _ (show q≠s from λe=>h<|by rw[e];exact BD),oA (λhm=>h<|AW _ hm)]
def tH{σ}:∀{ss:zN}{a:List (List V)}{i s:Nat}{cs:List V},ss.Nodup->ss[i]? =some s->a[i]? =some cs->ii σ ss a s=.box cs
 |[],_,_,_,_,_,h,_=>by simp at h
 |_::_,[],_,_,_,_,_,h=>by simp at h
 |s0::ss,cs0::a,i,s,cs,d,b,c=>by
  have⟨f,g⟩:=BI.1 d;cases i with
  |zero=>simp only[CB,Av]at b c;subst b c;rw[ii,upd_same]
  |succ i=>simp only[Dm]at b c;rw[ii,upd_ne _ _ (show s≠s0 from λe=>f<|by rw[<-e];exact B4 b)];exact tH g b c
def gV(s:Nat):Nat:=910000+s
section
variable {P:Program}{nt:Nat}{base:Bs}{bx:zN}{St St0:Nat->Nat->Prop}{B:Nat->zN}{hand:zN}{σ:PS}{a:Act}{w w0:World}{o:Oper}{K:PS->Prop}
def qS(h:HSim P nt bx base St B hand σ a w):∀{ss:zN}{b:List (List V)}{us:List Value},ss.map σ=b.map V.box->(ss.map λs=>σ<|gV s)=(ss.zip us).map (λp=>V.val p.1 p.2)->ss.length=us.length->Vm P w St b us (ss.flatMap B)
 |[],[],[],_,_,_=>⟨rfl,rfl⟩
 |[],_::_,_,e,_,_=>by cases e
 |[],[],_::_,_,_,e=>by cases e
 |_::_,[],_,e,_,_=>by cases e
 |_::_,_::_,[],_,_,e=>by cases e
 |s::ss,cs::b,u::us,c,e2,i=>by simp only[AP,Dk,List.zip_cons_cons]at c e2;have d:=h.slot s;rw[c.1]at d;have g:=h.slot<|gV s;rw[e2.1]at g;have f:u=tm a s:=g.2;rw[<-f]at d;exact⟨u,us,B s,ss.flatMap B,rfl,by rw[AR],qU d,qS h c.2 e2.2<|by simpa using i⟩
def t5{f cal args ts us}(d:o.op=.call {callee:=.value cal,args:=args,argTypes:=ts})(e2:a.eval cal=.func (.func f) #[] us.toArray)(e:Sl P f):(execOp a.eval o).run P w=.ok (.enter f (args.toList.map a.eval++us).toArray) w:=by
 have⟨i,g,b,c⟩:=e;have h:(args.toList.map a.eval++us).toArray=args.map a.eval++us.toArray:=by rw[<-List.append_toArray,<-Kh,EC]
 rw[h];simp only[execOp,d,resolve,e2,Deferred.ofValue,BC,BW,Bg,invoke,callFunc,run_program,Ov,g,b,c];simp
end
section
variable {P:Program}{nt:Nat}{base:Bs}{bx:zN}{St0:Nat->Nat->Prop}{σ:PS}{w0:World}{o:Oper}{K:PS->Prop}
def fw{B:Nat->zN}(h1:∀s,(B s).Nodup)(h2:∀s t,s≠t->∀g∈B s,g∉B t):∀{ss:zN},ss.Nodup->(ss.flatMap B).Nodup
 |[],_=>AZ
 |s::ss,h=>by obtain⟨m1,m2⟩:=BI.1 h;rw[AR];refine AI.2 ⟨h1 s,fw h1 h2 m2,λa ha b hb e=>?_⟩;obtain⟨t,ht,hbt⟩:=B6.1 hb;exact h2 s t (λe'=>m1<|e' ▸ ht) a ha<|e ▸ hbt
def jY:V->V
 |.dat 0 []=>.arg 0 []
 |c=>c
def jS.jY{w St c v}(h:jS w St c v):jS w St (jY c) v:=by
 unfold Proofs.YtdmpnamllcigdaaGreatDoor.jY;split
 ·have⟨hn,A,c,e,hc,_,h0⟩:=h;exact⟨hn,A,c,e,hc,λhp=>absurd hp aG,h0⟩
 ·exact h
def mh{bx base nt St B hand a w}(h:HSim P nt bx base St B hand σ a w):∀(xs:List Operand),xs.all (λx=>(CP σ x).isArg)=true->RW w St (xs.map λx=>jY<|CP σ x) (xs.map a.eval)
 |[],_=>rfl
 |x::xs,c=>by simp only[BM,Ab]at c;have⟨b,d⟩:=OB h x;exact⟨a.eval x,xs.map a.eval,rfl,((d.ow<|M8 c.1).rda c.1).jY,mh h xs c.2⟩
def AdR(P:Program)(σ:PS)(f:FuncId)(us:List Value)(c:List (List V))(a:List Operand)(b:List (List V))(r:V):Prop:=VL P f us c (a.map λx=>er<|CP σ x) b r∨VL P f us c (a.map λx=>jY<|CP σ x) b r
def ux{f:FuncId}{cal:Operand}{args:Array Operand}{ts:Array TypeId}{us:List Value}{ss:zN}{css css':List (List V)}{r:V}{D:zN}(hcv:CP σ cal=.tok (.func (.func f) #[] us.toArray))(hop:o.op=.call {callee:=.value cal,args:=args,argTypes:=ts})
  (hσ:ss.map σ=css.map V.box) (hv:(ss.map λs=>σ<|gV s)=(ss.zip us).map (λp=>V.val p.1 p.2)) (hl:ss.length=us.length) (hnd:ss.Nodup) (hargs:args.toList.all (λx=>(CP σ x).isArg)=true) (hp:AdR P σ f us css args.toList css' r)
  (hD:∀s∈ss,D.contains s=false) (hsafe:∀q,q∉ss->D.contains q=true∨Nl (σ q)=true) (hd:∀d,o.dst=some d->d < nt∧d∉bx) (hk:K (V6 (ii (kill D σ) ss css') o.dst r)):W8 P nt bx base St0 w0 o σ K:=by
 rintro a w Q ⟨St,B,h,hb,hst,hz⟩;have hrow:=qS h hσ hv hl;have hndB:=fw h.nodup h.apart hnd;have hmem:∀k,k∈ss.flatMap B↔∃s∈ss,k∈B s:=λk=>B6
 have hrg:∀k∈ss.flatMap B,k < w.heap.size:=λk hk=>by obtain⟨s,_,hks⟩:=(hmem k).1 hk;exact(h.range s k hks).2
 have hnb:∀k∈ss.flatMap B,¬base k:=λk hk=>by obtain⟨s,_,hks⟩:=(hmem k).1 hk;exact(h.range s k hks).1
 obtain⟨hbody,hcall⟩:Sl P f∧Calls P f (args.toList.map a.eval++us).toArray w (AdP P w St us (ss.flatMap B) css' r):=hp.elim (λh1=>⟨h1.1,h1.2 w St _ (args.toList.map a.eval) h.st h.gl hrow hndB hrg<|ZY h _ hargs⟩)<|λh1=>⟨h1.1,h1.2 w St _ (args.toList.map a.eval) h.st h.gl hrow hndB hrg<|mh h _ hargs⟩
 have e2:a.eval cal=.func (.func f) #[] us.toArray:=by obtain⟨b,hx⟩:=OB h cal;rw[hcv]at hx;exact hx.2.1
 have hr:=t5 (P:=P) (a:=a) (w:=w) hop e2 hbody;unfold Oper.wp;rw[hr,F4];refine hcall.mono ?_;rintro e w1 ⟨v,bs,St1,rfl,h1,h2,h3,h5,h6,h7,h8⟩;refine⟨_,hk,?_⟩;obtain⟨B2,k3,_,hB2,hBs⟩:=Zw D h;have hsl:css.length=ss.length:=by have:=congrArg List.length hσ;simpa using this.symm
 have hul:=h5.length
 have hat:∀s∈ss,∃i cs cs' u,ss[i]? =some s∧css'[i]? =some cs'∧us[i]? =some u∧σ s=.box cs∧tm a s=u:=λs hs=>by
  obtain⟨i,hi,e1⟩:=GH hs;have hi2:i < us.length:=aG;have hc:σ s=.box (css[i]'aG):=by have:=congrArg (λl=>l[i]?) hσ;simp only[BS,Af hi,Af (show i < css.length by omega),BP,Av]at this;rw[<-e1];exact this
  have hf:σ (gV s)=.val s us[i]:=by have:=congrArg (λl=>l[i]?) hv;simp only[BS,Af hi,BP]at this;rw[Af (by simp;omega)]at this;simp only[List.getElem_zip,BP,Av]at this;rw[e1]at this;exact this
  have hg:=h.slot<|gV s;rw[hf]at hg;exact⟨i,_,css'[i]'aG,us[i],by rw[Af hi,e1],Af _,Af hi2,hc,hg.2.symm⟩
 have hkeep:∀s∈ss,kill D σ s=σ s:=λs hs=>by obtain⟨i,cs,cs',u,_,_,_,q,_⟩:=hat s hs;exact jh (by rw[q];rfl)<|hD s hs
 have hB3:∀s∈ss,B2 s=B s:=λs hs=>hBs s (hD s hs)<|hkeep s hs
 obtain⟨β,m1,m2,m3,m4⟩:=bA (ss:=ss) h5 h7 hnd aG
 have g1:=k3.vars (σ':=ii (kill D σ) ss css') (B':=λq=>if q∈ss then β q else B2 q) (ss:=ss) (bs0:=ss.flatMap B) (w':=w1) (St':=St1)
  (λk hk=>by obtain⟨s,hs,hks⟩:=(hmem k).1 hk;exact⟨s,hs,by rw[hB3 s hs];exact hks⟩)
  (λs hs k hk=>(hmem k).2 ⟨s,hs,by rw[<-hB3 s hs];exact hk⟩) hrow.df h1 h2 h3 hz
  (λq hq=>⟨oA hq,AA hq,by
   rcases U9 D σ q with e|e
   ·rw[e];rfl
   ·cases hc:D.contains q with
    |true=>rw[Wt hc];rfl
    |false=>rw[e];exact(hsafe q hq).elim (λh=>by rw[hc]at h;cases h) id⟩)
  (λs hs=>by obtain⟨i,cs,cs',u,q1,q2,q3,q4,q5⟩:=hat s hs;simp only[Az hs];rw[tH hnd q1 q2,q5,hkeep s hs,q4];exact⟨qU (m1 i s cs' u q1 q2 q3),⟨cs,rfl⟩,⟨cs',rfl⟩,rfl,m3 s,λk hk=>h8 k (m2 s hs k hk)⟩)
  (λs hs t ht hne k hk=>by simp only[Az hs]at hk;simp only[Az ht];exact m4 s hs t ht hne k hk)
 have hbel:BelowK base.K w0 w1:=hb.trans ⟨h1.os,h1.tape,h1.output,h1.size,λk hk=>h1.block k ⟨hz k hk,λhm=>hnb k hm hk⟩⟩;have hst1:∀b o',base b->(St1 b o'↔St0 b o'):=λb o' hlt=>(h2 b o' (hz b hlt)<|λhm=>hnb b hm hlt).trans<|hst b o' hlt
 cases hdst:o.dst with
 |none=>exact⟨St1,_,g1,hbel,hst1,Va hz h1.size⟩
 |some d=>obtain⟨hd1,hd2⟩:=hd d hdst;exact⟨St1,_,g1.put hd1 hd2 h6.slot AZ nF h6.Ek.1 h6.SR,hbel,hst1,Va hz h1.size⟩
end
def known:V->Bool
 |.undef=>false
 |.gh _ _=>false
 |.same _=>false
 |.val _ _=>false
 |.tok _=>false
 |_=>true
def dw(b:Bool):V->Bool
 |.bool c=>c==b
 |_=>false
def gD(a:Array Oper)(j:Nat):Option Nat:=(a[j]?).bind (·.dst)
structure LO where
 dst:Option Nat
 op:Op
 ty:TypeId
 g:Option (Option Nat×Bool)
def Df(a:Array Oper)(o:Oper):LO:=⟨o.dst,o.op,o.type,o.guard.map λp=>(gD a p.1,p.2)⟩
def ME(tb:Tb)(o:LO)(σ:PS)(K:PS->Prop):Prop:=
 match o.dst with
 |none=>False
 |some d=>match o.g with
  |none=>pc tb σ o.op∧K (upd σ d<|pv tb σ o.op)
  |some (none,_)=>False
  |some (some q,b)=>known (σ q)=true∧(dw b (σ q)=true->pc tb σ o.op∧K (upd σ d<|pv tb σ o.op))∧(dw b (σ q)=false->K (upd σ d<|.tup []))
structure Tag (p:Prop) where
 n:Nat
def jR(p:Prop)(_:Tag p):Prop:=p
def T9(P:Program)(o:LO)(f:FuncId)(a:List Operand)(σ:PS)(K:PS->Prop):Prop:=
 match o.g with
 |none=>a.all (λx=>(CP σ x).isArg)=true∧∃r,mb P σ f a r∧jR (K<|V6 σ o.dst r) ⟨0⟩
 |some (q,b)=>match q,o.dst with
  |some q,some d=>known (σ q)=true∧(dw b (σ q)=true->a.all (λx=>(CP σ x).isArg)=true∧∃r,mb P σ f a r∧jR (K<|upd σ d r) ⟨0⟩)∧(dw b (σ q)=false->K (upd σ d<|.tup []))
  |_,_=>False
def TF(o:LO)(d:Nat)(σ:PS)(K:PS->Prop)(X:Prop):Prop:=
 match o.g with
 |none=>X
 |some (none,_)=>False
 |some (some q,b)=>known (σ q)=true∧(dw b (σ q)=true->X)∧(dw b (σ q)=false->K (upd σ d<|.tup []))
def Ek(c:V):Bool:=match DC c with
 |none=>true
 |some _=>false
def Xk(P:Program)(o:LO)(f:FuncId)(x:Operand)(xs:List Operand)(σ:PS)(K:PS->Prop):Prop:=
 ∃s cs cs' r,Oa σ x=.cref s 0∧σ s=.box cs∧cs.all KA=true∧xs.all (λx=>(CP σ x).isArg)=true∧Ob P f cs (xs.map λx=>er<|CP σ x) cs' r∧K (V6 (upd σ s<|.box cs') o.dst r)
def Z6(P:Program)(o:LO)(f:FuncId)(a:List Operand)(σ:PS)(K:PS->Prop):Prop:=
 match a with
 |[]=>False
 |x::xs=>match o.dst with
  |none=>o.g=none∧Xk P o f x xs σ K
  |some d=>TF o d σ K<|Xk P o f x xs σ K
def AjN(P:Program)(d:Option Nat)(f:FuncId)(a:List Operand)(σ:PS)(K:PS->Prop):Prop:=
 ∃s xs cs cs',∃D:zN,a=.tmp s::xs∧σ s=.box cs∧cs.all KA=false∧GK cs=true∧xs.all (λx=>(CP σ x).isArg&&pQ D x)=true∧Ai9 P f cs (xs.map λx=>er<|CP σ x) cs'∧D.contains s=false∧(∀q,q≠s->D.contains q=true∨Nl (σ q)=true)∧K (V6 (upd (kill D σ) s<|.box cs') d<|.tup [])
def AjK(P:Program)(d:Option Nat)(f:FuncId)(a:List Operand)(σ:PS)(K:PS->Prop):Prop:=
 ∃zs x xs c us os b r,∃D:zN,a=zs++(x::(xs++c))∧(x::xs).map (CP σ)=us.map V.tok∧σ gS=.gh us os∧GK os=true∧(zs++c).all (λx=>(CP σ x).isArg&&pQ D x)=true∧We P f (zs.map λx=>er<|CP σ x) os (c.map λx=>er<|CP σ x) b r∧D.contains gS=false∧(∀q,q≠gS->D.contains q=true∨Nl (σ q)=true)∧K (V6 (upd (kill D σ) gS<|.gh us b) d r)
def AjM(P:Program)(d:Option Nat)(f:FuncId)(a:List Operand)(σ:PS)(K:PS->Prop):Prop:=
 ∃zs x s n b e cs cs' r,a=zs++[x]∧CP σ x=.same s∧σ s=.uni e n cs∧bR cs=true∧bR cs'=true∧flt r=true∧zs.all (λx=>(CP σ x).isArg)=true∧We P f (zs.map λx=>er<|CP σ x) [.own e n cs] [] [.own e b cs'] r∧K (V6 (upd σ s<|.uni e b cs') d r)
def Z7(P:Program)(d:Option Nat)(f:FuncId)(a:List Operand)(σ:PS)(K:PS->Prop):Prop:=AjN P d f a σ K∨AjK P d f a σ K∨AjM P d f a σ K
def bF(P:Program)(o:LO)(f:FuncId)(a:List Operand)(σ:PS)(K:PS->Prop):Prop:=
 match o.dst with
 |none=>o.g=none∧Z7 P none f a σ K
 |some d=>TF o d σ K<|Z7 P (some d) f a σ K
def AjL(P:Program)(o:LO)(f:FuncId)(a:List Operand)(d:Nat)(σ:PS)(K:PS->Prop):Prop:=
 ∃cs,o.g=none∧Ek (σ d)=true∧a.all (λx=>(CP σ x).isArg)=true∧NewAt P f (a.map λx=>erK<|CP σ x) cs∧K (upd σ d<|.box cs)
def JW(P:Program)(b:zN)(o:LO)(f:FuncId)(a:List Operand)(σ:PS)(K:PS->Prop):Prop:=
 if o.dst.toList.any b.contains=true then ∃d,o.dst=some d∧AjL P o f a d σ K else T9 P o f a σ K∨Z6 P o f a σ K∨bF P o f a σ K
def Wj(P:Program)(d:Option Nat)(u:Value)(a:List Operand)(σ:PS)(K:PS->Prop):Prop:=
 ∃f us ss c b r,∃D:zN,u=.func (.func f) #[] us.toArray∧ss.map σ=c.map V.box∧(ss.map λs=>σ<|gV s)=(ss.zip us).map (λp=>V.val p.1 p.2)∧ss.length=us.length∧ss.Nodup∧a.all (λx=>(CP σ x).isArg)=true∧AdR P σ f us c a b r∧(∀s∈ss,D.contains s=false)∧(∀q,q∉ss->D.contains q=true∨Nl (σ q)=true)∧K (V6 (ii (kill D σ) ss b) d r)
def Ua(P:Program)(b:zN)(o:LO)(u:Value)(a:List Operand)(σ:PS)(K:PS->Prop):Prop:=
 match o.dst with
 |none=>o.g=none∧Wj P none u a σ K
 |some d=>b.contains d=false∧TF o d σ K (Wj P (some d) u a σ K)
def TD(tb:Tb)(o:LO)(x:Operand)(d:Nat)(σ:PS)(K:PS->Prop):Prop:=
 match x with
 |.const (.slice none 0 0)=>match tb o.ty with
  |some (.sl e _ _ _)=>K<|upd σ d<|.own e 0 []
  |_=>False
 |.const (.pointer none)=>K<|upd σ d .undef
 |.tmp p=>match σ p with
  |.uni e n cs=>K<|upd (upd (kill [p] σ) p<|.dat n cs) d<|.own e n cs
  |.box _=>K<|upd σ d<|.cref p 0
  |.cref b o=>K<|upd σ d<|.cref b o
  |c=>c.isVal=true∧K (upd (DB σ<|.tmp p) d c)
 |x=>(CP σ x).isVal=true∧K (upd (DB σ x) d<|CP σ x)
def eL(x:Operand)(d:Nat)(σ:PS)(K:PS->Prop):Prop:=
 match x with
 |.tmp p=>match σ p with
  |.uni e n cs=>Ek (kill [p] σ d)=true∧K (upd (kill [p] σ) d<|.uni e n cs)
  |_=>False
 |_=>False
section
variable {P:Program}{nt:Nat}{base:Bs}{bx:zN}{St St0:Nat->Nat->Prop}{B:Nat->zN}{hand:zN}{σ:PS}{a:Act}{w w0:World}
def KE(h:HSim P nt bx base St B [] σ a w){s q:Nat}(C:s≠q)(T:DC (σ q)=none){c u:V}{b1 b2:zN}(U:CC P w St (tm a) c (tm a s) b1)(K:CC P w St (tm a) u (tm a q) b2)(W:(b1++b2).Nodup)(v:∀g∈b1++b2,g∈B s∨g∈B q)
  (A:(DC c).isSome=(DC<|σ s).isSome) (L:Ex c=none) (M:DC u=none) (N:Ex u=none):HSim P nt bx base St (upd (upd B s b1) q b2) [] (upd (upd σ s c) q u) a w:=by
 have x:∀cs,DC c=some cs->∃ds,DC (σ s)=some ds:=λcs e=>by
  rw[e]at A;cases O:DC (σ s)with
  |none=>rw[O]at A;cases A
  |some ds=>exact⟨ds,rfl⟩
 have m:∀cs,DC (σ s)=some cs->∃ds,DC c=some ds:=λcs e=>by
  rw[e]at A;cases O:DC c with
  |none=>rw[O]at A;cases A
  |some ds=>exact⟨ds,rfl⟩
 have⟨X,Y,S⟩:=AI.1 W;have D:∀r,r≠s->r≠q->upd (upd B s b1) q b2 r=B r:=λr Q R=>by rw[upd_ne _ _ R,upd_ne _ _ Q]
 have k:upd (upd B s b1) q b2 s=b1:=by rw[upd_ne _ _ C,upd_same]
 have l:upd (upd B s b1) q b2 q=b2:=upd_same _ _ _;have J:∀r,r≠s->r≠q->upd (upd σ s c) q u r=σ r:=λr Q R=>by rw[upd_ne _ _ R,upd_ne _ _ Q]
 have n:upd (upd σ s c) q u s=c:=by rw[upd_ne _ _ C,upd_same]
 have y:upd (upd σ s c) q u q=u:=upd_same _ _ _
 have z:∀r,(∀g∈upd (upd B s b1) q b2 r,g∈B r∨((r=s∨r=q)∧(g∈B s∨g∈B q))):=λr g i=>by
  by_cases d:r=s
  ·subst d;rw[k]at i;exact .inr ⟨.inl rfl,v g<|AD _ i⟩
  ·by_cases e2:r=q
   ·subst e2;rw[l]at i;exact .inr ⟨.inr rfl,v g<|AB _ i⟩
   ·rw[D r d e2]at i;exact .inl i
 exact
 {h with
  slot:=λr=>by
   by_cases d:r=s
   ·subst d;rw[n,k];exact U
   ·by_cases e2:r=q
    ·subst e2;rw[y,l];exact K
    ·rw[J r d e2,D r d e2];exact h.slot r
  boxes:=λr cs e=>by
   by_cases d:r=s
   ·subst d;rw[n]at e;have⟨ds,Z⟩:=x cs e;exact h.boxes r ds Z
   ·by_cases e2:r=q
    ·subst e2;rw[y,M]at e;cases e
    ·rw[J r d e2]at e;exact h.boxes r cs e
  crefs:=λr b e=>by
   have hr:Ex (σ r)=some b:=by
    by_cases d:r=s
    ·subst d;rw[n,L]at e;cases e
    ·by_cases e2:r=q
     ·subst e2;rw[y,N]at e;cases e
     ·rw[J r d e2]at e;exact e
   have⟨cs,o⟩:=h.crefs r b hr;by_cases d:b=s
   ·subst d;rw[n];exact m cs o
   ·by_cases e2:b=q
    ·subst e2;rw[T]at o;cases o
    ·rw[J b d e2];exact⟨cs,o⟩
  nodup:=λr=>by
   by_cases d:r=s
   ·subst d;rw[k];exact X
   ·by_cases e2:r=q
    ·subst e2;rw[l];exact Y
    ·rw[D r d e2];exact h.nodup r
  apart:=λr t p g i j=>by
   by_cases d:(r=s∨r=q)
   ·by_cases e2:(t=s∨t=q)
    ·rcases d with rfl|rfl<;>rcases e2 with rfl|rfl
     ·exact p rfl
     ·rw[k]at i;rw[l]at j;exact S g i g j rfl
     ·rw[l]at i;rw[k]at j;exact S g j g i rfl
     ·exact p rfl
    ·have F:t≠s:=λe=>e2 (.inl e)
     have G:t≠q:=λe=>e2<|.inr e
     rw[D t F G]at j;rcases z r g i with f|⟨_,f⟩
     ·exact h.apart r t p g f j
     ·rcases f with f|f
      ·exact h.apart s t (Ne.symm F) g f j
      ·exact h.apart q t (Ne.symm G) g f j
   ·have H:r≠s:=λe=>d (.inl e)
    have I:r≠q:=λe=>d<|.inr e
    rw[D r H I]at i;rcases z t g j with f|⟨_,f⟩
    ·exact h.apart r t p g i f
    ·rcases f with f|f
     ·exact h.apart r s H g i f
     ·exact h.apart r q I g i f
  hapart:=λr g i=>by simp
  range:=λr g i=>by
   rcases z r g i with f|⟨_,f|f⟩
   ·exact h.range r g f
   ·exact h.range s g f
   ·exact h.range q g f}
def rel_drop{s u e n cs}(c:σ s=.tok u)(f:σ gU=.gh [u] [.own e n cs])(p:Rel P nt bx base St0 w0 σ a w):Rel P nt bx base St0 w0 (upd (upd σ s<|.own e n cs) gU .undef) a w:=by
 have⟨St,B,d,q,r,t⟩:=p;have g:s≠gU:=λe=>by rw[e,f]at c;cases c
 have k:=d.slot s;rw[c]at k;have l:=d.slot gU;rw[f]at l;have⟨y,v,b1,b2,m,h,_,i,b⟩:=l;simp only[Dk]at m;obtain⟨rfl,rfl⟩:=m;have j:b2=[]:=b.2;subst j;rw[A7]at h;have x:tm a s=u:=k.2.1;refine⟨St,_,KE d g (by rw[f];rfl) (show CC P w St (tm a) (.own e n cs) (tm a s) b1 by rw[x];exact i) (show CC P w St (tm a) .undef _ []from rfl) (by rw[A7];have:=d.nodup gU;rwa [h]at this) (λg o=>by rw[A7]at o;exact .inr (by rw[h];exact o)) (by rw[c];rfl) rfl rfl rfl,q,r,t⟩
end
def AhG(u:Value)(dd:TyD)(d:Nat)(σ:PS)(K:PS->Prop):Prop:=
 ∃q g off e n m cs,u=.pointer (some ⟨g,off,none⟩)∧(q=gS∨q=gU)∧σ q=.gh [.slice (some ⟨g,0,none⟩) n m] [.own e n cs]∧off+dd.size<=cs.length∧0 < dd.size∧K (upd σ d<|getCells dd cs off)
def Zb(tb:Tb)(t:TypeId)(x:Operand)(d:Nat)(σ:PS)(K:PS->Prop):Prop:=
 match tb t,Oa σ x with
 |some dd,.cref s off=>match DC (σ s)with
  |some cs=>off+dd.size<=cs.length∧K (upd (upd σ s<|WY (σ s)<|Sa dd.size cs off) d<|UA dd cs off)
  |none=>False
 |some dd,.adr cs off=>off+dd.size<=cs.length∧K (upd σ d<|getCells dd cs off)
 |some dd,.tok u=>AhG u dd d σ K
 |_,_=>False
def mI(s i d:Nat)(σ:PS)(K:PS->Prop):Prop:=
 match σ s with
 |.tup cs=>match cs[i]? with
  |some c=>cs.all V.isArg=true∧K (upd (upd σ s<|.tup<|cs.set i<|dg2 c) d c)
  |none=>False
 |_=>False
def AnX(u:Value)(dd:TyD)(y:Operand)(σ:PS)(K:PS->Prop):Prop:=
 ∃g off e n m cs,∃D:zN,∃vc:List V,u=.pointer (some ⟨g,off,none⟩)∧σ gS=.gh [.slice (some ⟨g,0,none⟩) n m] [.own e n cs]∧Ee cs=true∧Acw σ y vc∧Ee vc=true∧vc.length=dd.size∧off+dd.size<=cs.length∧((yT y).contains gS || D.contains gS)=false∧
  (∀q,q≠gS->D.contains q=true∨Nl (DB σ y q)=true)∧K (upd (kill D<|DB σ y) gS<|.gh [.slice (some ⟨g,0,none⟩) n m] [.own e n (N7 cs off vc)])
def lV(tb:Tb)(t:TypeId)(x y:Operand)(σ:PS)(K:PS->Prop):Prop:=
 match tb t,Oa σ x with
 |some dd,.cref s off=>match DC (σ s)with
  |some cs=>(CP σ y).isArg=true∧(G7<|CP σ y).length=dd.size∧off+dd.size<=cs.length∧K (upd (DB σ y) s<|WY (σ s)<|N7 cs off<|G7<|CP σ y)
  |none=>False
 |some dd,.tok u=>AnX u dd y σ K
 |_,_=>False
def Zl(tb:Tb)(t:TypeId)(d:Nat)(σ:PS)(K:PS->Prop):Prop:=
 match tb t with
 |some dd=>Ek (σ d)=true∧K (upd σ d<|.box<|ip dd)
 |none=>False
def boxS(x:Operand)(d:Nat)(σ:PS)(K:PS->Prop):Prop:=(CP σ x).isArg=true∧Ek (DB σ x d)=true∧K (upd (DB σ x) d<|.box<|G7<|CP σ x)
def Xg(tb:Tb)(t:TypeId)(parts:List (Nat×Operand))(d:Nat)(σ:PS)(K:PS->Prop):Prop:=
 match tb t with
 |some (.st _ z a)=>match Ts (λi=>a[i]?) parts σ z with
  |some (σ',cs)=>K<|upd σ' d<|.agg cs
  |none=>False
 |_=>False
def mo(tb:Tb)(t:TypeId)(n:Nat)(parts:List (Nat×Operand))(d:Nat)(σ:PS)(K:PS->Prop):Prop:=
 match tb t with
 |some (.sl e es _ a)=>match Ts (λi=>some (i * es,es)) parts σ (UZ a es n)with
  |some (σ',cs)=>n * es<=16777216∧cs.length=n * es∧K (upd σ' d<|.own e n cs)
  |none=>False
 |_=>False
def fR(tb:Tb)(t:TypeId)(x y:Operand)(d:Nat)(σ:PS)(K:PS->Prop):Prop:=
 match tb t,CP σ x,CP σ y with
 |some (.sl e es _ a),.int _ n,.int _ m=>0<=n∧n=m∧n.toNat<=lim∧K (upd σ d<|.own e n.toNat<|UZ a es n.toNat)
 |_,_,_=>False
def jm(tb:Tb)(t:TypeId)(x y:Operand)(d:Nat)(σ:PS)(K:PS->Prop):Prop:=
 match tb t,CP σ x,CP σ y with
 |some (.sl e es _ a),.int _ n,.int _ m=>0<=n∧n=m∧n.toNat<=lim∧Ek (σ d)=true∧K (upd σ d<|.uni e n.toNat<|UZ a es n.toNat)
 |_,_,_=>False
def US(tb:Tb)(t a:TypeId)(x y:Operand)(d:Nat)(σ:PS)(K:PS->Prop):Prop:=
 match tb t,CP σ x,Mz (CP (DB σ x) y)with
 |some (.sl e es _ _),.own b n cs,some (m,ds)=>a=t∧b=e∧ds.length=m * es∧n+m<=lim∧(K (upd (DB (DB σ x) y) d<|.own e (n+m)<|cs++ZW (CP (DB σ x) y))∨K (upd (upd (DB (DB σ x) y) d<|.own e (n+m)<|cs++ZW (CP (DB σ x) y)) d<|.own e (n+m)<|(cs++ZW (CP (DB σ x) y)).map WS)∧(cs++ZW (CP (DB σ x) y)).all V.D3=true)
 |_,_,_=>False
def bq{tb t t' x y d σ K K'}(b:∀σ,K σ->K' σ)(a:US tb t t' x y d σ K):US tb t t' x y d σ K':=by
 unfold US at *;split at a
 ·exact⟨a.1,a.2.1,a.2.2.1,a.2.2.2.1,a.2.2.2.2.imp (b _)<|λh=>⟨b _ h.1,h.2⟩⟩
 ·exact a
def appG(tb:Tb)(t a:TypeId)(x y:Operand)(d:Nat)(σ:PS)(K:PS->Prop):Prop:=
 ∃s u e n cs,x=.tmp s∧σ s=.tok u∧σ gU=.gh [u] [.own e n cs]∧US tb t a x y d (upd (upd σ s<|.own e n cs) gU .undef) K
def XO(a:zN)(o:LO)(σ:PS)(K:PS->Prop):Prop:=
 match o.dst,o.g with
 |some d,some (some q,b)=>a.contains d=false∧known (σ q)=true∧dw b (σ q)=false∧K (upd σ d<|.tup [])
 |_,_=>False
def Xj(P:Program)(tb:Tb)(e:zN)(o:LO)(c:Call)(σ:PS)(K:PS->Prop):Prop:=
 match c.callee,o.dst,c.args.toList,c.argTypes.toList with
 |.value x,_,a,_=>match CP σ x with
  |.fn f=>JW P e o f a σ K
  |.tok u=>Ua P e o u a σ K
  |_=>XO e o σ K
 |.builtin .append,some d,[x,y],[t,g]=>TF o d σ K<|US tb t g x y d σ K∨((∀b,o.g≠some (some gU,b))∧appG tb t g x y d σ K)
 |_,_,_,_=>ME tb o σ K
def AaI(P:Program)(t:TypeId)(f:Nat):Option Nat:=match P.underlying t with
 |some (.struct b)=>match b[f]? with
  |some a=>match P.underlying a.type with
   |some (.struct _)=>none
   |some (.array _ _)=>none
   |some _=>some a.offset
   |none=>none
  |none=>none
 |_=>none
def pb(P:Program)(t:TypeId)(x:Operand)(f d:Nat)(σ:PS)(K:PS->Prop):Prop:=
 match AaI P t f,CP σ x with
 |some off,.agg cs=>match cs[off]? with
  |some c=>K<|upd σ d<|WS c
  |none=>False
 |_,_=>False
def ko(σ:PS):List Operand->Option (List Value)
 |[]=>some []
 |.tmp p::xs=>match σ (gV p)with
  |.val q u=>if q=p then(ko σ xs).map (u:: ·)else none
  |_=>none
 |_::_=>none
def mkF(f:FuncId)(b a:List Operand)(d:Nat)(σ:PS)(K:PS->Prop):Prop:=
 match b,ko σ a with
 |[],some us=>K<|upd σ d<|.tok<|.func (.func f) #[] us.toArray
 |_,_=>False
def Hb(P:Program)(tb:Tb)(a:zN)(o:LO)(σ:PS)(K:PS->Prop):Prop:=
 match o.op,o.dst with
 |.assign x,some d=>if a.contains d=true then o.g=none∧eL x d σ K else o.g=none∧TD tb o x d σ K
 |.move x,some d=>if a.contains d=true then o.g=none∧TD tb o x d σ K else ME tb o σ K
 |.load t x,some d=>if a.contains d=true then o.g=none∧Zb tb t x d σ K else ME tb o σ K
 |.extract (.tmp s) i,some d=>o.g=none∧mI s i d σ K
 |.store t x y,none=>o.g=none∧lV tb t x y σ K
 |.alloc t,some d=>o.g=none∧Zl tb t d σ K
 |.box _ x,some d=>o.g=none∧boxS x d σ K
 |.build t ps,some d=>TF o d σ K<|Xg tb t ps.toList d σ K
 |.buildSlice t n ps,some d=>TF o d σ K<|mo tb t n ps.toList d σ K
 |.makeSlice t x y,some d=>if a.contains d=true then o.g=none∧jm tb t x y d σ K else o.g=none∧fR tb t x y d σ K
 |.call c,_=>Xj P tb a o c σ K
 |.field t x f,some d=>TF o d σ K<|pb P t x f d σ K
 |.makeFunc (.func f) e b,some d=>TF o d σ K<|mkF f e.toList b.toList d σ K
 |_,_=>ME tb o σ K
def fC(c:Call):Bool:=match c.callee with
 |.value _=>true
 |_=>false
def jq(nt:Nat)(bx:zN)(o:Oper):Bool:=
 match o.dst with
 |none=>true
 |some d=>decide (d < nt)&&(match o.op with
  |.alloc _|.box _ _=>bx.contains d
  |.assign _|.makeSlice _ _ _=>true
  |.call c=>fC c || !bx.contains d
  |_=> !bx.contains d)
def Adu(bx:zN)(o:Oper):Bool:=
 match o.dst with
 |none=>true
 |some d=> !bx.contains (SQ+d)
def XK(nt:Nat)(bx:zN)(o:Oper):Bool:=jq nt bx o&&Adu bx o
def lm{nt bx o}(h:XK nt bx o=true):jq nt bx o=true:=by unfold XK at h;rw[Ab]at h;exact h.1
def gc{nt:Nat}{bx:zN}{o:Oper}{d:Nat}(h:XK nt bx o=true)(a:o.dst=some d):SQ+d∉bx:=by unfold XK Adu at h;rw[Ab,a]at h;have h:=h.2;intro b;simp[b]at h
def okA(bx a:zN)(o:LO):Bool:=
 match o.op,o.dst with
 |.assign _,some d=>a.contains d==bx.contains d
 |.makeSlice _ _ _,some d=>a.contains d==bx.contains d
 |.call c,some d=> !fC c || a.contains d==bx.contains d
 |_,_=>true
def Y4(P:Program)(nt:Nat)(bx:zN)(b:Array Oper)(o:Oper)(σ:PS)(K:PS->Prop):Prop:=
 ∀base St0 c a w Q,Rel P nt bx base St0 c σ a w->
  if Region.wanted o (yielded b a.tmps)then o.wp P a w (λa' w'=>∃σ',K σ'∧Rel P nt bx base St0 c σ' a' w') Q else ∃σ',K σ'∧Rel P nt bx base St0 c σ' (a.put o.dst undef) w
section
variable {P:Program}{nt:Nat}{base:Bs}{bx:zN}{ops:Array Oper}{σ:PS}{K:PS->Prop}{o:Oper}{tb:Tb}
def Fx(c:o.guard=none)(h:∀base St0 b,W8 P nt bx base St0 b o σ K):Y4 P nt bx ops o σ K:=by
 intro base St0 b a w Q d;have:Region.wanted o (yielded ops a.tmps)=true:=by simp[Region.wanted,c]
 rw[Az this];exact h base St0 b a w Q d
def lQ{w St t c b bs}(a:known c=true)(i:dw b c=false):¬CC P w St t c (.bool b) bs:=by
 intro h;cases c with
 |undef=>cases a
 |gh us cs=>cases a
 |same s=>cases a
 |val s u=>cases a
 |bool c=>have:=Sh h;simp only[Value.bool.injEq]at this;subst this;simp[dw]at i
 |int k n=>have:=Ik h;cases this
 |str s=>have:=(SU h).1;cases this
 |own e n cs=>have⟨_,A,c,e,_⟩:=Ny (c:=.own e n cs) rfl h;cases e
 |dat n cs=>have⟨_,A,c,e,_⟩:=Ny (c:=.dat n cs) rfl h;cases e
 |agg cs=>have⟨us,e,_⟩:=h;cases e
 |tup cs=>have⟨us,e,_⟩:=h;cases e
 |arg n cs=>have⟨_,A,c,e,_⟩:=Ny (c:=.arg n cs) rfl h;cases e
 |pin u n cs=>have⟨_,A,c,e,_⟩:=Ny (c:=.pin u n cs) rfl h;cases e
 |fn f=>have e:=h.2;cases e
 |tok u=>cases a
 |box cs=>have⟨g,T,b',d,e,_⟩:=h;cases e
 |uni e n cs=>have⟨g,b',d,e,_⟩:=h;cases e
 |cref s o=>have⟨_,g,_,e⟩:=h;cases e
 |adr cs o=>have⟨_,g,_,e,_⟩:=h;cases e
def guard_of{St0 w0 w a}(m:Rel P nt bx base St0 w0 σ a w){j q:Nat}{b:Bool}(n:o.guard=some (j,b))(l:gD ops j=some q)(d:known (σ q)=true):Region.wanted o (yielded ops a.tmps)=dw b (σ q):=by
 have⟨t,B,h,_⟩:=m;have i:=h.slot q;have p:Region.wanted o (yielded ops a.tmps)=((match a.tmps[q]? with|some (.bool c)=>some c|_=>none:Option Bool)==some b):=by unfold gD at l;simp only[Region.wanted,n,yielded,l,Qu];rfl
 have g:∀v,a.tmps[q]? =some v->tm a q=v:=by intro v e;unfold tm;rw[DT,e];rfl
 rw[p];cases f:σ q with
 |bool c=>
  rw[f]at i;have e:=Sh i;cases k:a.tmps[q]? with
  |none=>unfold tm at e;rw[DT,k]at e;simp[undef]at e
  |some u=>rw[g u k]at e;subst e;simp[dw]
 |undef=>rw[f]at d;cases d
 |gh us cs=>rw[f]at d;cases d
 |same s=>rw[f]at d;cases d
 |val s u=>rw[f]at d;cases d
 |tok u=>rw[f]at d;cases d
 |_=>
  cases k:a.tmps[q]? with
  |none=>rfl
  |some u=>
   have r:=g u k;rw[f,r]at i;cases u with
   |bool c=>exact absurd i<|lQ (by rfl)<|by rfl
   |_=>rfl
def aO{St0 w0 w a}(g:Rel P nt bx base St0 w0 σ a w){d:Nat}(i:d < nt)(j:d∉bx):Rel P nt bx base St0 w0 (upd σ d<|.tup []) (a.put (some d) undef) w:=by have⟨f,B,h,k,c,l⟩:=g;have m:Ow P w f (.tup []) undef []:=⟨[],rfl,rfl,rfl⟩;exact⟨f,upd B d [],h.put i j m.slot AZ nF rfl (by intro b e;cases e),k,c,l⟩
def xQ:Op->Bool
 |.alloc _|.box _ _|.assign _|.makeSlice _ _ _=>true
 |.call c=>fC c
 |_=>false
def WA{d:Nat}(h:XK nt bx o=true)(c:o.dst=some d)(a:xQ o.op=false):d < nt∧d∉bx:=by replace h:=lm h;unfold jq at h;rw[c]at h;simp only[Ab,AN]at h;refine⟨h.1,?_⟩;have b:=h.2;cases e:o.op<;>rw[e]at b a<;>first|(cases a;done)|(simpa using b;done)|(simp only[xQ]at a;simp only[a,Cg]at b;simpa using b;done)
def ya{d:Nat}(h:XK nt bx o=true)(c:o.dst=some d)(a:(match o.op with|.alloc _|.box _ _=>true|_=>false)=true):d < nt∧d∈bx:=by replace h:=lm h;unfold jq at h;rw[c]at h;simp only[Ab,AN]at h;refine⟨h.1,?_⟩;have b:=h.2;cases e:o.op<;>rw[e]at b a<;>first|(cases a;done)|(simpa using b;done)
def sJ{b:zN}{d:Nat}{c:Call}(a:XK nt bx o=true)(i:okA bx b (Df ops o)=true)(e:o.op=.call c)(j:fC c=true)(f:o.dst=some d):d < nt∧(b.contains d=true->d∈bx)∧(b.contains d=false->d∉bx):=by
 have k:d < nt:=by replace a:=lm a;unfold jq at a;rw[f]at a;simp only[Ab,AN]at a;exact a.1
 have g:b.contains d=bx.contains d:=by simpa[okA,Df,e,f,j]using i
 refine⟨k,λh=>?_,λh l=>?_⟩
 ·rw[g]at h;simpa using h
 ·rw[g]at h;simp at h;exact h l
def Ve(i:LB P tb)(l:XK nt bx o=true)(m:xQ o.op=false)(h:ME tb (Df ops o) σ K):Y4 P nt bx ops o σ K:=by
 simp only[ME,Df]at h;cases f:o.dst with
 |none=>rw[f]at h;exact h.elim
 |some d=>
  rw[f]at h;have⟨c,e⟩:=WA l f m;simp only at h;cases k:o.guard with
  |none=>rw[k]at h;exact Fx k<|λbase St0 t=>gg i f c e h.1 h.2
  |some g=>
   have⟨j,b⟩:=g;rw[k]at h;simp only[BP]at h;cases n:gD ops j with
   |none=>rw[n]at h;exact h.elim
   |some q=>
    rw[n]at h;have⟨u,s,v⟩:=h;intro base St0 t a w Q p;rw[guard_of p k n u];cases r:dw b (σ q)with
    |true=>simp only[FB];exact gg i f c e (s r).1 (s r).2 a w Q p
    |false=>simp only[CD,Ed];rw[f];exact⟨_,v r,aO p c e⟩
def QD{d:Nat}{X:Prop}(p:o.dst=some d)(e:d < nt)(f:d∉bx)(m:X->∀base St0 i,W8 P nt bx base St0 i o σ K)(h:TF (Df ops o) d σ K X):Y4 P nt bx ops o σ K:=by
 simp only[TF,Df]at h;cases c:o.guard with
 |none=>rw[c]at h;exact Fx c<|m h
 |some g=>
  obtain⟨j,b⟩:=g;rw[c]at h;simp only[BP]at h;cases k:gD ops j with
  |none=>rw[k]at h;exact h.elim
  |some q=>
   rw[k]at h;obtain⟨r,s,t⟩:=h;intro base St0 i a w Q l;rw[guard_of l c k r];cases n:dw b (σ q)with
   |true=>simp only[FB];exact m (s n) base St0 i a w Q l
   |false=>simp only[CD,Ed];rw[p];exact⟨_,t n,aO l e f⟩
def ms{f cal args c}(l:CP σ cal=.fn f)(p:o.op=.call c)(m:c.callee=.value cal)(e:c.args.toList=args)(k:∀d,o.dst=some d->d < nt∧d∉bx)(h:T9 P (Df ops o) f args σ K):Y4 P nt bx ops o σ K:=by
 have i:o.op=.call {callee:=.value cal,args:=c.args,argTypes:=c.argTypes}:=by rw[p,<-m]
 simp only[T9,Df]at h;cases n:o.guard with
 |none=>rw[n]at h;have⟨s,r,t,u⟩:=h;exact Fx n<|λbase St0 B=>ny l i (by rw[e];exact s) (by rw[e];exact t) k u
 |some g=>
  have⟨j,b⟩:=g;rw[n]at h;simp only[BP]at h;split at h
  ·rename_i q d C v;have⟨s,t,u⟩:=h;have⟨x,y⟩:=k d v;intro base St0 B a w Q z;rw[guard_of z n C s];cases A:dw b (σ q)with
   |true=>simp only[FB];have⟨D,r,F,G⟩:=t A;refine ny l i (by rw[e];exact D) (by rw[e];exact F) k ?_ a w Q z;rw[v];exact G
   |false=>simp only[CD,Ed];rw[v];exact⟨_,u A,aO z x y⟩
  ·exact h.elim
def mr{f cal args c}(j:CP σ cal=.fn f)(k:o.op=.call c)(b:c.callee=.value cal)(a:c.args.toList=args)(e:∀d,o.dst=some d->d < nt∧d∉bx)(h:Z6 P (Df ops o) f args σ K):Y4 P nt bx ops o σ K:=by
 have g:o.op=.call {callee:=.value cal,args:=c.args,argTypes:=c.argTypes}:=by rw[k,<-b]
 unfold Z6 at h;split at h
 ·exact h.elim
 ·rename_i x xs;have i:Xk P (Df ops o) f x xs σ K->∀base St0 n,W8 P nt bx base St0 n o σ K:=λ⟨s,cs,cs',r,q,t,u,v,w,y⟩ base St0 n=>uv j g a q t u v w e y
  split at h
  ·exact Fx (by simpa[Df]using h.1)<|i h.2
  ·rename_i d p;have⟨l,m⟩:=e d p;exact QD p l m i h
def km{f cal args c}(hcv:CP σ cal=.fn f)(hop:o.op=.call c)(hcal:c.callee=.value cal)(hargs:c.args.toList=args)(hdd:∀d,o.dst=some d->d < nt∧d∉bx)(h:bF P (Df ops o) f args σ K):Y4 P nt bx ops o σ K:=by
 have hop':o.op=.call {callee:=.value cal,args:=c.args,argTypes:=c.argTypes}:=by rw[hop,<-hcal]
 have key:Z7 P o.dst f args σ K->∀base St0 w0,W8 P nt bx base St0 w0 o σ K:=λh base St0 w0=>h.elim (λ⟨s,xs,cs,cs',D,q1,q2,q3,q4,q5,q6,q7,q8,q9⟩=>uu hcv hop' (by rw[hargs];exact q1) q2 q4 q5 q6 q7 q8 hdd q9)
  (λh=>h.elim (λ⟨zs,x,xs,ys,us,os,os',r,D,q1,q2,q3,q4,q5,q6,q7,q8,q9⟩=>ur hcv hop' (zs:=zs) (xs:=x::xs) (by rw[hargs];exact q1) q2 q3 q4 q5 q6 q7 q8 hdd q9)
   (λ⟨zs,x,s,n,n',e,cs,cs',r,q1,q2,q3,q4,q5,q6,q7,q8,q9⟩=>uw hcv hop' (by rw[hargs];exact q1) q2 q3 q4 q5 q6 q7 q8 hdd q9))
 unfold bF at h;split at h
 ·rename_i hd;exact Fx (by simpa[Df]using h.1)<|key<|by rw[show o.dst=none from hd];exact h.2
 ·rename_i d hd;have⟨hd1,hd2⟩:=hdd d hd;exact QD hd hd1 hd2 (λh=>key<|by rw[show o.dst=some d from hd];exact h) h
def kn{u cal args c cns}(hcv:CP σ cal=.tok u)(hop:o.op=.call c)(hcal:c.callee=.value cal)(hargs:c.args.toList=args)(hdd:∀d,o.dst=some d->cns.contains d=false->d < nt∧d∉bx)(h:Ua P cns (Df ops o) u args σ K):Y4 P nt bx ops o σ K:=by
 have hop':o.op=.call {callee:=.value cal,args:=c.args,argTypes:=c.argTypes}:=by rw[hop,<-hcal]
 have key:(∀d,o.dst=some d->d < nt∧d∉bx)->Wj P o.dst u args σ K->∀base St0 w0,W8 P nt bx base St0 w0 o σ K:=λhdd ⟨f,us,ss,css,css',r,D,q1,q2,q3,q4,q5,q6,q7,q8,q9,q10⟩ base St0 w0=>ux (by rw[hcv,q1]) hop' q2 q3 q4 q5 (by rw[hargs];exact q6) (by rw[hargs];exact q7) q8 q9 hdd q10
 unfold Ua at h;split at h
 ·rename_i hd;have hd:o.dst=none:=hd;exact Fx (by simpa[Df]using h.1)<|key (λd e=>by rw[hd]at e;cases e)<|by rw[hd];exact h.2
 ·rename_i d hd;have hd:o.dst=some d:=hd;have⟨hd1,hd2⟩:=hdd d hd h.1;exact QD hd hd1 hd2 (λh=>key (λd' e=>by rw[hd]at e;cases e;exact⟨hd1,hd2⟩)<|by rw[hd];exact h) h.2
def V4{c}(h:Ek c=true):DC c=none:=by
 unfold Ek at h;split at h
 ·rename_i e;exact e
 ·cases h
def Adt{b:zN}{d:Nat}(a:XK nt bx o=true)(g:okA bx b (Df ops o)=true)(c:(∃x,o.op=.assign x)∨∃t x y,o.op=.makeSlice t x y)(e:o.dst=some d):d < nt∧(b.contains d=true->d∈bx)∧(b.contains d=false->d∉bx):=by
 have i:d < nt:=by replace a:=lm a;unfold jq at a;rw[e]at a;simp only[Ab,AN]at a;exact a.1
 have f:b.contains d=bx.contains d:=by rcases c with⟨x,c⟩|⟨t,x,y,c⟩<;>simpa[okA,Df,c,e]using g
 refine⟨i,λh=>?_,λh j=>?_⟩
 ·rw[f]at h;simpa using h
 ·rw[f]at h;simp at h;exact h j
def eK{x:Operand}{d:Nat}(a:o.op=.assign x∨o.op=.move x)(g:o.dst=some d)(i:o.guard=none)(c:d < nt)(f:d∉bx)(h:TD tb (Df ops o) x d σ K):Y4 P nt bx ops o σ K:=by
 unfold TD at h;split at h
 ·split at h
  ·exact Fx i<|λbase St0 k=>AbD a g c f h
  ·exact h.elim
 ·exact Fx i<|λbase St0 k=>yh a g c f h
 ·rename_i p;split at h
  ·rename_i e n cs j;exact Fx i<|λbase St0 k=>uC a j g c f h
  ·rename_i cs j;exact Fx i<|λbase St0 k=>ju a (by simp only[Oa,j]) (.inl ⟨cs,by rw[j];rfl⟩) g c f h
  ·rename_i b l j;exact Fx i<|λbase St0 k=>ju a (by simp only[Oa,j]) (.inr<|by rw[j];rfl) g c f h
  ·exact Fx i<|λbase St0 k=>gj a g c f h.1 h.2
 ·exact Fx i<|λbase St0 k=>gj a g c f h.1 h.2
def oO{x:Operand}{d:Nat}(a:o.op=.assign x)(g:o.dst=some d)(i:o.guard=none)(b:d < nt)(c:d∈bx)(f:SQ+d∉bx)(h:eL x d σ K):Y4 P nt bx ops o σ K:=by
 unfold eL at h;split at h
 ·rename_i p;split at h
  ·rename_i e n cs j;exact Fx i<|λbase St0 k=>yf (.inl a) j g b c f (V4 h.1) h.2
  ·exact h.elim
 ·exact h.elim
def uy{St0:Nat->Nat->Prop}{z:World}{t:TypeId}{x:Operand}{f d off:Nat}{cs:List V}{c:V}(k:o.op=.field t x f)(e:AaI P t f=some off)(A:CP σ x=.agg cs)(C:cs[off]? =some c)(D:o.dst=some d)(F:d < nt)(G:d∉bx)(H:K (upd σ d<|WS c)):W8 P nt bx base St0 z o σ K:=by
 rintro a w Q ⟨s,B,h,I,l,J⟩;obtain⟨b,v⟩:=OB h x;rw[A]at v;obtain⟨us,L,M⟩:=v;obtain⟨u,N,O⟩:=(Bx.rdL cs M).get off c C;have g:Ow P w s (WS c) u []:=Ow.AiF O.dp
 have i:(execOp a.eval o).run P w=.ok (.value u) w:=by
  unfold AaI at e;split at e
  ·rename_i S m;split at e
   ·rename_i y n
    have j:us.toArray[y.offset]? =some u∧(isAgg y.type).run P w=.ok false w:=by
     split at e
     ·cases e
     ·cases e
     ·rename_i R p q r;injection e with e
      subst e;refine⟨by simpa using N,?_⟩;simp only[Go.isAgg,BC,BO r,Bg];cases R<;>first|rfl|exact absurd rfl (p _)|exact absurd rfl<|q _ _
     ·cases e
    simp only[execOp,k,Instr.field,BC,BO m,Bg,n,L,asAgg,BW,part,j.2,CD,Ed,j.1]
   ·cases e
  ·cases e
 refine NI i ⟨_,H,s,upd B d [],?_,I,l,J⟩;rw[D];exact h.put F G g.slot AZ nF g.Ek.1 g.SR
def mt{St B hand a w}(h:HSim P nt bx base St B hand σ a w):∀{xs:List Operand}{us:List Value},ko σ xs=some us->xs.map a.eval=us
 |[],us,e=>by simp only[ko,Av]at e;subst e;rfl
 |.tmp p::xs,us,e=>by
  unfold ko at e;split at e
  ·rename_i q u f;split at e
   ·rename_i b;subst b;cases c:ko σ xs with
    |none=>rw[c]at e;cases e
    |some vs=>rw[c]at e;simp only[BP,Av]at e;subst e;have d:=h.slot<|gV q;rw[f]at d;rw[AP,mt h c];have:a.eval (.tmp q)=u:=d.2.symm;rw[this]
   ·cases e
  ·cases e
 |.const _::_,us,e=>by cases e
 |.global _::_,us,e=>by cases e
 |.func _::_,us,e=>by cases e
def AbC{St0:Nat->Nat->Prop}{l:World}{f:FuncId}{g b:Array Operand}{us:List Value}{d:Nat}(i:o.op=.makeFunc (.func f) g b)(m:g.toList=[])(n:ko σ b.toList=some us)(p:o.dst=some d)(q:d < nt)(r:d∉bx)(s:K (upd σ d<|.tok<|.func (.func f) #[] us.toArray)):W8 P nt bx base St0 l o σ K:=by
 rintro a w Q ⟨k,B,h,t,j,u⟩;have v:g= #[]:=by rw[<-EC (xs:=g),m]
 have e2:b.map a.eval=us.toArray:=by rw[<-mt h n,<-Kh,EC]
 have e:(execOp a.eval o).run P w=.ok (.value<|.func (.func f) #[] us.toArray) w:=by simp[execOp,i,Instr.makeFunc,v,e2]
 refine NI e ⟨_,s,k,upd B d [],?_,t,j,u⟩;rw[p];have c:Ow P w k (.tok<|.func (.func f) #[] us.toArray) (.func (.func f) #[] us.toArray) []:=⟨rfl,rfl,rfl⟩;exact h.put q r c.slot AZ nF c.Ek.1 c.SR
def bN(htb:LB P tb){cns:zN}(hok:XK nt bx o=true)(hA:okA bx cns (Df ops o)=true)(h:Hb P tb cns (Df ops o) σ K):Y4 P nt bx ops o σ K:=by
 have hgn:(Df ops o).g=none->o.guard=none:=by intro e;simpa[Df]using e
 have hlo:(Df ops o).op=o.op:=rfl;have hld:(Df ops o).dst=o.dst:=rfl;unfold Hb at h;rw[hlo,hld]at h;split at h
 ·rename_i x d ho hd;have⟨q1,q2,q3⟩:=Adt hok hA (.inl ⟨x,ho⟩) hd;split at h
  ·rename_i hc;exact oO ho hd (hgn h.1) q1 (q2 hc) (gc hok hd) h.2
  ·rename_i hc;exact eK (.inl ho) hd (hgn h.1) q1 (q3<|by simpa using hc) h.2
 ·rename_i x d ho hd;split at h
  ·have⟨hd1,hd2⟩:=WA hok hd (by rw[ho];rfl);exact eK (.inr ho) hd (hgn h.1) hd1 hd2 h.2
  ·exact Ve htb hok (by rw[ho];rfl) h
 ·rename_i t x d ho hd;split at h
  ·have⟨hg,h⟩:=h;replace hg:=hgn hg;have⟨hd1,hd2⟩:=WA hok hd (by rw[ho];rfl);unfold Zb at h;split at h
   ·rename_i dd s off ht hax;split at h
    ·rename_i cs hs;exact Fx hg<|λbase St0 w0=>lq htb ho ht hax hs h.1 hd hd1 hd2 h.2
    ·exact h.elim
   ·rename_i dd cs off ht hax;refine Fx hg<|λbase St0 w0=>gg htb hd hd1 hd2 ?_ ?_
    ·rw[ho];simp only[pc,ht,hax,Ww,XH];exact h.1
    ·rw[ho];simp only[pv,ht,hax,Wx,ax];exact h.2
   ·rename_i dd u ht hax;obtain⟨q,g,off,e,n,m,cs,rfl,-,k1,k2,k3,k4⟩:=h;exact Fx hg<|λbase St0 w0=>uz htb ho ht hax k1 k2 k3 hd hd1 hd2 k4
   ·exact h.elim
  ·exact Ve htb hok (by rw[ho];rfl) h
 ·rename_i s i d ho hd;have⟨hg,h⟩:=h;replace hg:=hgn hg;have⟨hd1,hd2⟩:=WA hok hd (by rw[ho];rfl);unfold mI at h;split at h
  ·rename_i cs hs;split at h
   ·rename_i c hc;exact Fx hg<|λbase St0 w0=>nz ho hd hd1 hd2 hs hc h.1 h.2
   ·exact h.elim
  ·exact h.elim
 ·rename_i t x y ho hd;have⟨hg,h⟩:=h;replace hg:=hgn hg;unfold lV at h;split at h
  ·rename_i dd s off ht hax;split at h
   ·rename_i cs hs;have⟨h1,h2,h3,h4⟩:=h;exact Fx hg<|λbase St0 w0=>uB htb ho ht hax hs h1 h2 h3 hd h4
   ·exact h.elim
  ·rename_i dd u ht hax;obtain⟨g,off,e,n,m,cs,D,vc,rfl,h1,h2,h3,h4,h5,h6,h7,h8,h9⟩:=h;exact Fx hg<|λbase St0 w0=>yi htb ho ht hax h1 h2 h3 h4 h5 h6 hd D h7 h8 h9
  ·exact h.elim
 ·rename_i t d ho hd;have⟨hg,h⟩:=h;replace hg:=hgn hg;have⟨hd1,hd2⟩:=ya hok hd (by rw[ho]);unfold Zl at h;split at h
  ·rename_i dd ht;exact Fx hg<|λbase St0 w0=>uo htb ho ht hd hd1 hd2 (gc hok hd) (V4 h.1) h.2
  ·exact h.elim
 ·rename_i t x d ho hd;have⟨hg,h⟩:=h;replace hg:=hgn hg;have⟨hd1,hd2⟩:=ya hok hd (by rw[ho]);have⟨h1,h2,h3⟩:=h;exact Fx hg<|λbase St0 w0=>AbB ho hd hd1 hd2 (gc hok hd) h1 (V4 h2) h3
 ·rename_i t ps d ho hd;have⟨hd1,hd2⟩:=WA hok hd (by rw[ho];rfl);refine QD hd hd1 hd2 (λh base St0 w0=>?_) h;unfold Xg at h;split at h
  ·rename_i n z fs ht;split at h
   ·rename_i σ' cs hf;exact uq htb ho ht hf hd hd1 hd2 h
   ·exact h.elim
  ·exact h.elim
 ·rename_i t n ps d ho hd;have⟨hd1,hd2⟩:=WA hok hd (by rw[ho];rfl);refine QD hd hd1 hd2 (λh base St0 w0=>?_) h;unfold mo at h;split at h
  ·rename_i e es eb ez ht;split at h
   ·rename_i σ' cs hf;have⟨h1,h2,h3⟩:=h;exact gf htb ho ht h1 hf h2 hd hd1 hd2 h3
   ·exact h.elim
  ·exact h.elim
 ·rename_i t x y d ho hd;have⟨hd1,hd3,hd4⟩:=Adt hok hA (.inr ⟨t,x,y,ho⟩) hd;split at h
  ·rename_i hc;have hd2:=hd3 hc;have⟨hg,h⟩:=h;replace hg:=hgn hg;unfold jm at h;split at h
   ·rename_i e es eb ez k n k' m ht hx hy;obtain⟨h0,rfl,h2,h4,h3⟩:=h;obtain⟨n,rfl⟩:=CT h0;exact Fx hg<|λbase St0 w0=>uA htb ho ht hx hy (by simpa using h2) hd hd1 hd2 (gc hok hd) (V4 h4)<|by simpa using h3
   ·exact h.elim
  ·rename_i hc;have hd2:=hd4 (by simpa using hc);have⟨hg,h⟩:=h;replace hg:=hgn hg;unfold fR at h;split at h
   ·rename_i e es eb ez k n k' m ht hx hy;obtain⟨h0,rfl,h2,h3⟩:=h;obtain⟨n,rfl⟩:=CT h0;exact Fx hg<|λbase St0 w0=>yg htb ho ht hx hy (by simpa using h2) hd hd1 hd2<|by simpa using h3
   ·exact h.elim
 ·rename_i d c ho;unfold Xj at h;split at h
  ·rename_i x hcal;have hgo:fC c=true:=by unfold fC;rw[hcal]
   split at h
   ·rename_i f hcv;unfold JW at h;split at h
    ·rename_i hc;have⟨d',hd',cs,h0,h1,h2,h3,h4⟩:=h;have hd2:o.dst=some d':=hd';have⟨q1,q2,q3⟩:=sJ hok hA ho hgo hd2;have hcc:cns.contains d'=true:=by have:(Df ops o).dst=some d':=hd';rw[this]at hc;simpa using hc
     exact Fx (hgn h0)<|λbase St0 w0=>ut hcv (by rw[ho,<-hcal]) h2 h3 hd2 q1 (q2 hcc) (gc hok hd2) (V4 h1) h4
    ·rename_i hc;have hdd:∀d,o.dst=some d->d < nt∧d∉bx:=λd hd=>by have⟨q1,q2,q3⟩:=sJ hok hA ho hgo hd;refine⟨q1,q3 ?_⟩;have:(Df ops o).dst=some d:=hd;rw[this]at hc;simpa using hc
     rcases h with h|h|h
     ·exact ms hcv ho hcal rfl hdd h
     ·exact mr hcv ho hcal rfl hdd h
     ·exact km hcv ho hcal rfl hdd h
   ·rename_i u hcv;exact kn hcv ho hcal rfl (λd hd hc=>by have⟨q1,q2,q3⟩:=sJ hok hA ho hgo hd;exact⟨q1,q3 hc⟩) h
   ·unfold XO at h;split at h
    ·rename_i d q b hd hg;have hd:o.dst=some d:=hd;have⟨q1,q2,q3⟩:=sJ hok hA ho hgo hd;cases hgo':o.guard with
     |none=>simp[Df,hgo']at hg
     |some g=>have⟨j,b'⟩:=g;simp only[Df,hgo',BP,Av,Ch]at hg;have⟨hg1,hg2⟩:=hg;subst hg2;intro base St0 w0 a w Q hr;rw[guard_of hr hgo' hg1 h.2.1,h.2.2.1];simp only[CD,Ed];rw[hd];exact⟨_,h.2.2.2,aO hr q1<|q3 h.1⟩
    ·exact h.elim
  ·rename_i d' x y t t' hcal hd hargs hts;have⟨hd1,hd2⟩:=WA hok hd (by rw[ho];simp only[xQ,fC,hcal])
   have key:∀{σ:PS}{base St0 w0},US tb t t' x y d' σ K->W8 P nt bx base St0 w0 o σ K:=by
    intro σ base St0 w0 h;unfold US at h;split at h
    ·rename_i e es eb ez e' n cs m ds ht hx hy;obtain⟨rfl,rfl,h1,h2,h3⟩:=h
     have hop:o.op=.call {callee:=.builtin .append,args:= #[x,y],argTypes:= #[t',t']}:=by
      rw[ho];have e1:c.args= #[x,y]:=by rw[<-EC (xs:=c.args),hargs]
      have e2:c.argTypes= #[t',t']:=by rw[<-EC (xs:=c.argTypes),hts]
      rw[<-hcal,<-e1,<-e2]
     rcases h3 with h3|⟨h3,h4⟩
     ·exact ge htb hop ht hx hy h1 h2 hd hd1 hd2 h3
     ·exact Ah6 (ge (K:=λσ'=>σ'=_) htb hop ht hx hy h1 h2 hd hd1 hd2 rfl) (by rw[upd_same];exact ki<|AcW _ h4) nF h3
    ·exact h.elim
   refine QD hd hd1 hd2 (λh base St0 w0=>?_) h;rcases h with h|⟨_,s,u,e,n,cs,_,q1,q2,h⟩
   ·exact key h
   ·intro a w Q hr;exact key h a w Q<|rel_drop q1 q2 hr
  ·rename_i hne _;exact Ve htb hok (by rw[ho];simp only[xQ,fC]) h
 ·rename_i t x f d ho hd;have⟨hd1,hd2⟩:=WA hok hd (by rw[ho];rfl);refine QD hd hd1 hd2 (λh base St0 w0=>?_) h;unfold pb at h;split at h
  ·rename_i off cs hf hx;split at h
   ·rename_i c hc;exact uy ho hf hx hc hd hd1 hd2 h
   ·exact h.elim
  ·exact h.elim
 ·rename_i f fs caps d ho hd;have⟨hd1,hd2⟩:=WA hok hd (by rw[ho];rfl);refine QD hd hd1 hd2 (λh base St0 w0=>?_) h;unfold mkF at h;split at h
  ·rename_i us hfs hc;exact AbC ho hfs hc hd hd1 hd2 h
  ·exact h.elim
 ·cases hd:o.dst with
  |none=>simp only[ME,Df]at h;rw[hd]at h;exact h.elim
  |some d=>exact Ve htb hok (by clear hA h;cases ho:o.op<;>first|rfl|(exfalso;simp_all;done)|(exfalso;rename_i hx _ _ _;exact hx _ _ _ _ ho hd)|(exfalso;rename_i hx _ _ _ _;exact hx _ _ _ _ ho hd)|(exfalso;rename_i hx _ _ _ _ _;exact hx _ _ _ _ ho hd)|(exfalso;rename_i hx _ _ _ _ _ _;exact hx _ _ _ _ ho hd)|(exfalso;simp_all;rename_i hx _ _;exact hx _ _ _ _ rfl rfl rfl rfl)|(exfalso;simp_all;rename_i hx _;exact hx _ _ _ _ rfl rfl rfl rfl)) h
end
end
section
def bh(P:Program)(tb:Tb)(a:zN):List LO->PS->(PS->Prop)->Prop
 |[],σ,K=>K σ
 |o::os,σ,K=>Hb P tb a o σ<|λσ'=>bh P tb a os σ' K
def SF{K K'}(c:∀σ,K σ->K' σ){o:LO}{d:Nat}{σ:PS}{X a:Prop}(b:X->a)(h:TF o d σ K X):TF o d σ K' a:=by
 unfold TF at *;split at h
 ·exact b h
 ·exact h
 ·exact⟨h.1,λe=>b<|h.2.1 e,λe=>c _<|h.2.2 e⟩
def wj{P tb cns K K'}(hk:∀σ,K σ->K' σ){o:LO}{σ:PS}(h:Hb P tb cns o σ K):Hb P tb cns o σ K':=by
 have hp:∀{o:LO}{σ:PS},ME tb o σ K->ME tb o σ K':=by
  intro o σ h;unfold ME at *;split at h
  ·exact h
  ·split at h
   ·exact⟨h.1,hk _ h.2⟩
   ·exact h
   ·exact⟨h.1,λe=>⟨(h.2.1 e).1,hk _ (h.2.1 e).2⟩,λe=>hk _<|h.2.2 e⟩
 have hcS:∀{o:LO}{f:FuncId}{args:List Operand}{σ:PS},T9 P o f args σ K->T9 P o f args σ K':=by
  intro o f args σ h;unfold T9 at *;split at h
  ·exact⟨h.1,h.2.choose,h.2.choose_spec.1,hk _ h.2.choose_spec.2⟩
  ·split at h
   ·exact⟨h.1,λe=>⟨(h.2.1 e).1,(h.2.1 e).2.choose,(h.2.1 e).2.choose_spec.1,hk _ (h.2.1 e).2.choose_spec.2⟩,λe=>hk _<|h.2.2 e⟩
   ·exact h
 have ha:∀{o:LO}{x:Operand}{d:Nat}{σ:PS},TD tb o x d σ K->TD tb o x d σ K':=by
  intro o x d σ h;unfold TD at *;split at h
  ·split at h
   ·exact hk _ h
   ·exact h
  ·exact hk _ h
  ·split at h
   ·exact hk _ h
   ·exact hk _ h
   ·exact hk _ h
   ·exact⟨h.1,hk _ h.2⟩
  ·exact⟨h.1,hk _ h.2⟩
 have hF:∀{o:LO}{f:FuncId}{args:List Operand}{σ:PS},JW P cns o f args σ K->JW P cns o f args σ K':=by
  intro o f args σ h;unfold JW at *;split at h
  ·rename_i hc;rw[Az hc];have⟨d,hd,cs,q0,q1,q2,q3,q4⟩:=h;exact⟨d,hd,cs,q0,q1,q2,q3,hk _ q4⟩
  ·rename_i hc;rw[AA hc];rcases h with h|h|h
   ·exact .inl<|hcS h
   ·refine .inr (.inl ?_);unfold Z6 at *;split at h
    ·exact h
    ·rename_i x xs;have key:Xk P o f x xs σ K->Xk P o f x xs σ K':=λ⟨s,cs,cs',r,q1,q2,q3,q4,q5,q6⟩=>⟨s,cs,cs',r,q1,q2,q3,q4,q5,hk _ q6⟩
     split at h
     ·exact⟨h.1,key h.2⟩
     ·exact SF hk key h
   ·refine .inr (.inr ?_)
    have key:∀{d},Z7 P d f args σ K->Z7 P d f args σ K':=λh=>h.imp (λ⟨s,xs,cs,cs',D,q1,q2,q3,q4,q5,q6,q7,q8,q9⟩=>⟨s,xs,cs,cs',D,q1,q2,q3,q4,q5,q6,q7,q8,hk _ q9⟩)
     (Or.imp (λ⟨zs,x,xs,ys,us,os,os',r,D,q1,q2,q3,q4,q5,q6,q7,q8,q9⟩=>⟨zs,x,xs,ys,us,os,os',r,D,q1,q2,q3,q4,q5,q6,q7,q8,hk _ q9⟩)
      (λ⟨zs,x,s,n,n',e,cs,cs',r,q1,q2,q3,q4,q5,q6,q7,q8,q9⟩=>⟨zs,x,s,n,n',e,cs,cs',r,q1,q2,q3,q4,q5,q6,q7,q8,hk _ q9⟩))
    unfold bF at *;split at h
    ·exact⟨h.1,key h.2⟩
    ·exact SF hk key h
 have hu:∀{x:Operand}{d:Nat}{σ:PS},eL x d σ K->eL x d σ K':=by
  intro x d σ h;unfold eL at *;split at h
  ·split at h
   ·exact⟨h.1,hk _ h.2⟩
   ·exact h
  ·exact h
 unfold Hb at *;split at h
 ·split at h
  ·rename_i hc;rw[Az hc];exact⟨h.1,hu h.2⟩
  ·rename_i hc;rw[AA hc];exact⟨h.1,ha h.2⟩
 ·split at h
  ·rename_i hc;rw[Az hc];exact⟨h.1,ha h.2⟩
  ·rename_i hc;rw[AA hc];exact hp h
 ·split at h
  ·rename_i hc;rw[Az hc];refine⟨h.1,?_⟩;have h2:=h.2;unfold Zb at *;split at h2
   ·split at h2
    ·exact⟨h2.1,hk _ h2.2⟩
    ·exact h2
   ·exact⟨h2.1,hk _ h2.2⟩
   ·have⟨q,g,off,e,n,m,cs,k0,hq,k1,k2,k3,k4⟩:=h2;exact⟨q,g,off,e,n,m,cs,k0,hq,k1,k2,k3,hk _ k4⟩
   ·exact h2
  ·rename_i hc;rw[AA hc];exact hp h
 ·refine⟨h.1,?_⟩;have h2:=h.2;unfold mI at *;split at h2
  ·split at h2
   ·exact⟨h2.1,hk _ h2.2⟩
   ·exact h2
  ·exact h2
 ·refine⟨h.1,?_⟩;have h2:=h.2;unfold lV at *;split at h2
  ·split at h2
   ·exact⟨h2.1,h2.2.1,h2.2.2.1,hk _ h2.2.2.2⟩
   ·exact h2
  ·have⟨g,off,e,n,m,cs,D,vc,q1,q2,q3,q4,q5,q6,q7,q8,q9,q10⟩:=h2;exact⟨g,off,e,n,m,cs,D,vc,q1,q2,q3,q4,q5,q6,q7,q8,q9,hk _ q10⟩
  ·exact h2
 ·refine⟨h.1,?_⟩;have h2:=h.2;unfold Zl at *;split at h2
  ·exact⟨h2.1,hk _ h2.2⟩
  ·exact h2
 ·exact⟨h.1,h.2.1,h.2.2.1,hk _ h.2.2.2⟩
 ·refine SF hk (λh2=>?_) h;unfold Xg at *;split at h2
  ·split at h2
   ·exact hk _ h2
   ·exact h2
  ·exact h2
 ·refine SF hk (λh2=>?_) h;unfold mo at *;split at h2
  ·split at h2
   ·exact⟨h2.1,h2.2.1,hk _ h2.2.2⟩
   ·exact h2
  ·exact h2
 ·split at h
  ·rename_i hc;rw[Az hc];refine⟨h.1,?_⟩;have h2:=h.2;unfold jm at *;split at h2
   ·exact⟨h2.1,h2.2.1,h2.2.2.1,h2.2.2.2.1,hk _ h2.2.2.2.2⟩
   ·exact h2
  ·rename_i hc;rw[AA hc];refine⟨h.1,?_⟩;have h2:=h.2;unfold fR at *;split at h2
   ·exact⟨h2.1,h2.2.1,h2.2.2.1,hk _ h2.2.2.2⟩
   ·exact h2
 ·unfold Xj at *;split at h
  ·split at h
   ·exact hF h
   ·have key:∀{d u args},Wj P d u args σ K->Wj P d u args σ K':=λ⟨f,us,ss,css,css',r,D,q1,q2,q3,q4,q5,q6,q7,q8,q9,q10⟩=>⟨f,us,ss,css,css',r,D,q1,q2,q3,q4,q5,q6,q7,q8,q9,hk _ q10⟩
    unfold Ua at *;split at h
    ·exact⟨h.1,key h.2⟩
    ·exact⟨h.1,SF hk key h.2⟩
   ·unfold XO at *;split at h
    ·exact⟨h.1,h.2.1,h.2.2.1,hk _ h.2.2.2⟩
    ·exact h
  ·exact SF hk (λh2=>h2.imp (bq hk) λ⟨hg,s,u,e,n,cs,q1,q2,q3,q4⟩=>⟨hg,s,u,e,n,cs,q1,q2,q3,bq hk q4⟩) h
  ·exact hp h
 ·refine SF hk (λh2=>?_) h;unfold pb at *;split at h2
  ·split at h2
   ·exact hk _ h2
   ·exact h2
  ·exact h2
 ·refine SF hk (λh2=>?_) h;unfold mkF at *;split at h2
  ·exact hk _ h2
  ·exact h2
 ·exact hp h
def Pf(P:Program)(nt:Nat)(bx:zN)(c:Code)(σ:PS)(Q:Exit->PS->Prop):Prop:=
 ∀base St0 b a w,Rel P nt bx base St0 b σ a w->c.wp P (λe a' w'=>∃σ',Q e σ'∧Rel P nt bx base St0 b σ' a' w') a w
def X4(K:PS->Prop)(Q:Exit->PS->Prop):Exit->PS->Prop
 |.normal,σ=>K σ
 |e,σ=>Q e σ
def Zq(b:Nat)(Q:Exit->PS->Prop):Exit->PS->Prop
 |.exit a,σ=>if a=b then Q .normal σ else Q (.exit a) σ
 |e,σ=>Q e σ
section
variable {P:Program}{nt:Nat}{bx:zN}{σ:PS}{Q:Exit->PS->Prop}{tb:Tb}
def bO(d:LB P tb){f:zN}{e:Array Oper}{base:Bs}{St0:Nat->Nat->Prop}{i:World}{R:Exit->Act->World->Prop}{K:PS->Prop}(j:∀σ' a' w',K σ'->Rel P nt bx base St0 i σ' a' w'->R .normal a' w'):
  ∀(os:List Oper) (σ:PS) (a:Act) (w:World),os.all (XK nt bx)=true->(os.map<|Df e).all (okA bx f)=true->bh P tb f (os.map<|Df e) σ K->Rel P nt bx base St0 i σ a w->wpList P e R os a w
 |[],σ,a,w,_,_,h,k=>j σ a w h k
 |o::os,σ,a,w,b,g,h,k=>by
  simp only[BM,AP,Ab]at b g;have c:=bN d b.1 g.1 h base St0 i a w R k;unfold wpList;split
  ·rename_i l;rw[Az l]at c;exact .inl<|jM (λa' w' ⟨σ',m,n⟩=>bO d j os σ' a' w' b.2 g.2 m n) _ c
  ·rename_i l;rw[AA l]at c;have⟨σ',m,n⟩:=c;exact bO d j os σ' _ w b.2 g.2 m n
def kw(d:LB P tb)(c:zN){f:Nat}{b:Array Oper}(e:b.toList.all (XK nt bx)=true)(g:(b.toList.map<|Df b).all (okA bx c)=true)(h:bh P tb c (b.toList.map<|Df b) σ (Q .normal)):Pf P nt bx (.region f b false) σ Q:=
 λbase St0 l a w i=>wp_region_list<|bO d (λσ' a' w' j k=>⟨σ',j,k⟩) b.toList σ a w e g h i
def oX{c Q'}(h:Pf P nt bx c σ Q)(b:∀e σ,Q e σ->Q' e σ):Pf P nt bx c σ Q':=
 λbase St0 d a w f=>HT (h base St0 d a w f)<|λe a w ⟨σ',g,i⟩=>⟨σ',b e σ' g,i⟩
def tW{x y}(h:Pf P nt bx x σ (X4 (λσ'=>Pf P nt bx y σ' Q) Q)):Pf P nt bx (.seq x y) σ Q:=by
 intro base St0 b a w f;refine wp_seq<|HT (h base St0 b a w f) ?_;rintro(_|g|l|_|c|_) a' w' ⟨σ',d,e⟩
 ·exact d base St0 b a' w' e
 all_goals exact⟨σ',d,e⟩
def oY(h:Q .normal σ):Pf P nt bx .skip σ Q:=λbase St0 c a w b=>wp_skip ⟨σ,h,b⟩
def oW{id}(h:Q (.exit id) σ):Pf P nt bx (.exit id) σ Q:=λbase St0 c a w b=>wp_exit ⟨σ,h,b⟩
def tV(h:Q .ret σ):Pf P nt bx .ret σ Q:=λbase St0 c a w b=>wp_ret ⟨σ,h,b⟩
def mA{id c}(h:Pf P nt bx c σ (Zq id Q)):Pf P nt bx (.block id c) σ Q:=by
 intro base St0 f a w g;refine wp_block<|HT (h base St0 f a w g) ?_;rintro(_|i|l|_|c|_) a' w' ⟨σ',b,d⟩
 ·exact⟨σ',b,d⟩
 ·simp only[Zq]at b;simp only[Exit.inBlock];split at b
  ·rename_i e;rw[Az e];exact⟨σ',b,d⟩
  ·rename_i e;rw[AA e];exact⟨σ',b,d⟩
 all_goals exact⟨σ',b,d⟩
def oV{c x y b}(i:CP σ c=.bool b)(j:b=true->Pf P nt bx x σ Q)(k:b=false->Pf P nt bx y σ Q):Pf P nt bx (.cond c x y) σ Q:=by
 intro base St0 f a w d;have l:a.eval c=.bool b:=by have⟨m,B,h,_⟩:=d;have⟨q,g⟩:=OB h c;rw[i]at g;exact Sh g
 exact wp_cond_split l (λe=>j e base St0 f a w d)<|λe=>k e base St0 f a w d
end
section
variable {P:Program}{nt:Nat}{bx:zN}{σ:PS}{Q:Exit->PS->Prop}{tb:Tb}
end
inductive LC where
 |skip
 |rgn (cns:zN) (ops:List LO)
 |drw (cns:zN) (fps:List (zN×zN)) (es:List zN) (ops:List LO)
 |seq (a b:LC)
 |cond (c:Operand) (a b:LC)
 |blk (id:Nat) (a:LC)
 |loop (D:zN) (a:LC)
 |exit (id:Nat)
 |ret
 |bad
def YO(o:Oper):zN:=(o.after.toList.filter<|Region.binds .any).map (·.on)
def Ly:Code->LC
 |.skip=>.skip
 |.region _ e d=>if d then .drw [] [] (e.toList.map YO) (e.toList.map<|Df e)else .rgn [] (e.toList.map<|Df e)
 |.seq a b=>.seq (Ly a)<|Ly b
 |.cond c a b=>.cond c (Ly a)<|Ly b
 |.block f a=>.blk f<|Ly a
 |.loop a=>.loop []<|Ly a
 |.exit f=>.exit f
 |.ret=>.ret
 |_=>.bad
def bg:LC->LC
 |.skip=>.skip
 |.rgn _ d=>.rgn [] d
 |.drw _ _ es d=>.drw [] [] es d
 |.seq a b=>.seq (bg a)<|bg b
 |.cond c a b=>.cond c (bg a)<|bg b
 |.blk e a=>.blk e<|bg a
 |.loop _ a=>.loop []<|bg a
 |.exit e=>.exit e
 |.ret=>.ret
 |.bad=>.bad
def okC(nt:Nat)(bx:zN):Code->Bool
 |.region _ c _=>c.toList.all<|XK nt bx
 |.seq a b=>okC nt bx a&&okC nt bx b
 |.cond _ a b=>okC nt bx a&&okC nt bx b
 |.block _ a=>okC nt bx a
 |.loop a=>okC nt bx a
 |_=>true
def okL(bx:zN):LC->Bool
 |.rgn c d=>d.all<|okA bx c
 |.drw c _ _ d=>d.all<|okA bx c
 |.seq a b=>okL bx a&&okL bx b
 |.cond _ a b=>okL bx a&&okL bx b
 |.blk _ a=>okL bx a
 |.loop _ a=>okL bx a
 |_=>true
def LS(P:Program)(nt:Nat)(bx:zN)(l:LC)(σ:PS)(Q:Exit->PS->Prop):Prop:=∀c,Ly c=bg l->okC nt bx c=true->okL bx l=true->Pf P nt bx c σ Q
section
variable {P:Program}{nt:Nat}{bx:zN}{σ:PS}{Q:Exit->PS->Prop}{tb:Tb}
def xE(f:LB P tb){a:zN}{e:List LO}(h:bh P tb a e σ (Q .normal)):LS P nt bx (.rgn a e) σ Q:=by
 intro c b g j;cases c<;>first|cases b|skip
 rename_i l i d;simp only[Ly,bg]at b;split at b
 ·cases b
 ·rename_i k;simp only[LC.rgn.injEq,true_and]at b;have:d=false:=by simpa using k
  subst this;exact kw f a g (by rw[b];exact j) (by rw[b];exact h)
def lb{x y}(h:LS P nt bx x σ (X4 (λσ'=>LS P nt bx y σ' Q) Q)):LS P nt bx (.seq x y) σ Q:=by
 intro c d e f;cases c<;>first|cases d|skip
 ·simp only[Ly,bg]at d;split at d<;>cases d
 ·rename_i a b;simp only[Ly,bg,LC.seq.injEq]at d;simp only[okC,Ab]at e;simp only[okL,Ab]at f;refine tW<|oX (h a d.1 e.1 f.1) ?_;rintro(_|i|l|_|c|_) σ' g
  ·exact g b d.2 e.2 f.2
  all_goals exact g
def Ar{x y}(h:∀K:PS->Prop,(∀σ',LS P nt bx y σ' Q->K σ')->LS P nt bx x σ (X4 K Q)):LS P nt bx (.seq x y) σ Q:=lb<|h _ λ_ h=>h
def Ci(h:Q .normal σ):LS P nt bx .skip σ Q:=by
 intro c a b d;cases c<;>first|cases a|skip
 ·exact oY h
 ·simp only[Ly,bg]at a;split at a<;>cases a
def AJ{id}(h:Q (.exit id) σ):LS P nt bx (.exit id) σ Q:=by
 intro c a b d;cases c<;>first|(cases a;done)|skip
 ·simp only[Ly,bg]at a;split at a<;>cases a
 ·simp only[Ly,bg,LC.exit.injEq]at a;subst a;exact oW h
def Ap(h:Q .ret σ):LS P nt bx .ret σ Q:=by
 intro c a b d;cases c<;>first|(cases a;done)|skip
 ·simp only[Ly,bg]at a;split at a<;>cases a
 ·exact tV h
def A4{id x}(h:LS P nt bx x σ (Zq id Q)):LS P nt bx (.blk id x) σ Q:=by
 intro c a b d;cases c<;>first|(cases a;done)|skip
 ·simp only[Ly,bg]at a;split at a<;>cases a
 ·simp only[Ly,bg,LC.blk.injEq]at a;obtain⟨rfl,a⟩:=a;exact mA<|h _ a b d
def sx{c x y b}(g:CP σ c=.bool b)(h:b=true->LS P nt bx x σ Q)(i:b=false->LS P nt bx y σ Q):LS P nt bx (.cond c x y) σ Q:=by
 intro c d a f;cases c<;>first|(cases d;done)|skip
 ·simp only[Ly,bg]at d;split at d<;>cases d
 ·simp only[Ly,bg,LC.cond.injEq]at d;obtain⟨rfl,j,k⟩:=d;simp only[okC,Ab]at a;simp only[okL,Ab]at f;exact oV g (λe=>h e _ j a.1 f.1)<|λe=>i e _ k a.2 f.2
end
section
variable {P:Program}{nt:Nat}{bx:zN}{σ:PS}{Q:Exit->PS->Prop}{tb:Tb}
end
def MZ:ResultVar->Nat
 |.tmp t=>t
 |.cell t _=>t
def resV(tb:Tb)(σ:PS):ResultVar->Option V
 |.tmp t=>if(σ t).isArg=true then some (σ t)else none
 |.cell t ty=>match σ t,tb ty with
  |.box cs,some (.st n _ _)=>if cs.length=n then some (.agg cs)else none
  |.box [c],some (.sc _)=>some c
  |.box [c],some (.sl ..)=>some c
  |_,_=>none
def uI(tb:Tb)(σ:PS):List ResultVar->Option (List V)
 |[]=>some []
 |r::rs=>match resV tb σ r,uI tb σ rs with
  |some c,some cs=>some<|c::cs
  |_,_=>none
def cD(tb:Tb)(σ:PS)(rs:List ResultVar):Option V:=
 match uI tb σ rs with
 |some [c]=>some c
 |some cs=>some<|.tup cs
 |none=>none
section
variable {P:Program}{nt:Nat}{base:Bs}{bx:zN}{St:Nat->Nat->Prop}{B:Nat->zN}{σ:PS}{a:Act}{w:World}{tb:Tb}
def Uy(b:Array Value):ResultVar->Sem Value
 |.tmp t=>pure<|b.getD t undef
 |.cell a t=>do loadVar t (<-asAddr (b.getD a undef))
def res_one(D:LB P tb)(h:HSim P nt bx base St B [] σ a w){r:ResultVar}{c:V}(b:resV tb σ r=some c):
  ∃v bs,(Uy a.tmps r).run P w=.ok v w∧Ow P w St c v bs∧bs.Nodup∧(∀g∈bs,g∈B (MZ r))∧c.isArg=true:=by
 cases r with
 |tmp t=>
  simp only[resV]at b;split at b
  ·rename_i I;simp only[Av]at b;subst b;exact⟨_,B t,rfl,(h.slot t).ow<|M8 I,h.nodup t,λ_ h=>h,I⟩
  ·cases b
 |cell t ty=>
  have N:=h.slot t;have F:=h.nodup t;cases k:σ t with
  |box cs=>
   rw[k]at N;have⟨g,T,C,l,S,e2,K,O,e5⟩:=N;rw[O]at F;have p:=(BI.1 F).2;have s:∀q∈C,q∈B t:=λq U=>by rw[O];exact AW _ U
   have G:a.tmps.getD t undef=.pointer (some ⟨g,0,none⟩):=S;have m:∀(j:Nat) (u:Value),l.toList[j]? =some u->w.cell? ⟨g,0+j,none⟩=some u:=by intro j u J;simpa[World.cell?,e2]using J
   have y:∀(o:V) (dd:TyD),cs=[o]->tb ty=some dd->dd.bp=false->∃v bs,(Uy a.tmps<|.cell t ty).run P w=.ok v w∧Ow P w St o v bs∧bs.Nodup∧(∀g∈bs,g∈B t)∧o.isArg=true:=by intro o dd L i M;subst L;have⟨u,W,b1,b2,X,Q,Y,Z,q5⟩:=K;obtain⟨rfl,rfl⟩:=q5;have J:=m 0 u (by rw[X];rfl);rw[A7]at Q;subst Q;refine⟨u,C,?_,Z,p,s,by cases o<;>first|rfl|cases Y⟩;simp only[D5]at J;simp[Uy,G,asAddr,loadVar,(D _ _ i).isAgg,M,J]
   cases i:tb ty with
   |none=>simp only[resV,k,i]at b;cases cs with
    |nil=>cases b
    |cons x xs=>cases xs<;>cases b
   |some d=>
    cases d with
    |st n z f=>
     simp only[resV,k,i]at b;split at b
     ·rename_i hl;simp only[Av]at b;subst b;refine⟨.agg l,C,?_,⟨l.toList,nF,K⟩,p,s,rfl⟩;have A:=D _ _ i;have R:=Ji (P:=P) (w:=w) ⟨g,0,none⟩ l.toList (λj v I=>by rw[add_plain];exact m j v I);have H:l.toList.length=n:=by rw[K.length,hl]
      rw[H]at R;simp only[Uy,G,asAddr,loadVar,BC,BW,Bg,A.isAgg,TyD.bp,FB,A.sizeOf,TyD.size,R,EC]
     ·cases b
    |sc z=>
     match cs,k,b with
     |[o],k,b=>simp only[resV,k,i,Av]at b;subst b;exact y o _ rfl i rfl
     |[],k,b=>simp only[resV,k,i]at b;cases b
     |_::_::_,k,b=>simp only[resV,k,i]at b;cases b
    |sl e es eb ez=>
     match cs,k,b with
     |[o],k,b=>simp only[resV,k,i,Av]at b;subst b;exact y o _ rfl i rfl
     |[],k,b=>simp only[resV,k,i]at b;cases b
     |_::_::_,k,b=>simp only[resV,k,i]at b;cases b
  |_=>simp only[resV,k]at b;cases b
def gF(b:LB P tb)(h:HSim P nt bx base St B [] σ a w):∀(rs:List ResultVar) (cs:List V),(rs.map MZ).Nodup->uI tb σ rs=some cs->
  ∃us bs,(rs.mapM<|Uy a.tmps).run P w=.ok us w∧MB P w St cs us bs∧bs.Nodup∧(∀g∈bs,∃r∈rs,g∈B (MZ r))∧us.length=cs.length∧(∀c,cs=[c]->∃u,us=[u]∧Ow P w St c u bs)
 |[],cs,_,e=>by simp only[uI,Av]at e;subst e;exact⟨[],[],rfl,⟨rfl,rfl⟩,AZ,nF,rfl,nF⟩
 |r::rs,cs,i,e=>by
  simp only[uI]at e;split at e
  ·rename_i c cs' s j;simp only[Av]at e;subst e;simp only[AP,BI]at i;have⟨v,b1,t,p,z,s1,_⟩:=res_one b h s;have⟨us,b2,A,q,C,s2,D,J⟩:=gF b h rs cs' i.2 j;refine⟨v::us,b1++b2,?_,⟨v,us,b1,b2,rfl,rfl,p,q⟩,?_,?_,by simp[D],?_⟩
   ·simp only[List.mapM_cons,BC,t,Bg,A,BW]
   ·refine AI.2 ⟨z,C,λx F y G k=>?_⟩;subst k;have⟨l,m,n⟩:=s2 x G;have o:MZ r≠MZ l:=λe=>i.1<|e ▸ CE m
    exact h.apart _ _ o x (s1 x F) n
   ·intro g d;rcases Al.1 d with d|d
    ·exact⟨r,nF,s1 g d⟩
    ·have⟨l,H,I⟩:=s2 g d;exact⟨l,by simp[H],I⟩
   ·intro K f;simp only[Dk]at f;obtain⟨rfl,rfl⟩:=f;obtain⟨rfl,rfl⟩:=q;exact⟨v,rfl,by rw[A7];exact p⟩
  ·cases e
def aQ(i:LB P tb)(h:HSim P nt bx base St B [] σ a w){b:Func}(p:(b.results.toList.map MZ).Nodup){c:V}(d:cD tb σ b.results.toList=some c):
  ∃v bs,(results b a.tmps).run P w=.ok v w∧Ow P w St c v bs∧bs.Nodup∧∀g∈bs,∃r∈b.results.toList,g∈B (MZ r):=by
 unfold cD at d
 have f:∀us,(b.results.toList.mapM<|Uy a.tmps).run P w=.ok us w->(results b a.tmps).run P w=.ok (if h:us.toArray.size=1 then us.toArray[0]else .tuple us.toArray) w:=by
  intro us q;have s:(b.results.mapM (Uy a.tmps):Sem (Array Value)).run P w=.ok us.toArray w:=by rw[JR,Sem.run_map,q];rfl
  have e2:results b a.tmps=(do let vs <-b.results.mapM (Uy a.tmps);pure (if h:vs.size=1 then vs[0]else .tuple vs):Sem Value):=by unfold results;congr 1
  rw[e2];simp only[BC,s,Bg,BW]
 split at d
 ·rename_i y k;simp only[Av]at d;subst d;have⟨us,bs,l,_,m,s1,_,t⟩:=gF i h _ _ p k;obtain⟨u,rfl,n⟩:=t _ rfl;exact⟨u,bs,by rw[f _ l];rfl,n,m,s1⟩
 ·rename_i cs o k;simp only[Av]at d;subst d;have⟨us,bs,l,n,m,s1,x,_⟩:=gF i h _ _ p k;have j:us.toArray.size≠1:=by intro e;simp only[LL]at e;rw[x]at e;have⟨c,d⟩:=GN.1 e;exact o c d
  exact⟨.tuple us.toArray,bs,by rw[f _ l,dif_neg j],⟨us,rfl,n⟩,m,s1⟩
 ·cases d
def td(b:LB P tb)(h:HSim P nt bx base St B [] σ a w){d:Func}(e:(d.results.toList.map MZ).Nodup){c:V}(f:cD tb σ d.results.toList=some c):
  ∃v bs,(results d a.tmps).run P w=.ok v w∧Ow P w St c v bs∧bs.Nodup∧∀g∈bs,¬base g∧g < w.heap.size:=by
 have⟨v,bs,i,j,k,l⟩:=aQ b h e f;exact⟨v,bs,i,j,k,λg m=>by have⟨r,_,n⟩:=l g m;exact h.range _ g n⟩
def nP{c v}(b:KA c=true)(h:Rd w St c v):Ow P w St c v []:=by cases c<;>first|exact⟨rfl,h⟩|cases b
def jE:∀(cs:List V) {us:List Value},cs.all KA=true->S5 w St cs us->Bx P w St cs us []
 |[],_,_,h=>⟨h,rfl⟩
 |c::cs,_,b,⟨u,d,e,f,g⟩=>by simp only[BM,Ab]at b;exact⟨u,d,[],[],e,rfl,f.D3,nP b.1 f,jE cs b.2 g⟩
def Yx{c v}(b:Pz c=true)(h:jS w St c v):Ow P w St c v []:=by
 cases c<;>first|exact nP b h|cases b|skip
 have⟨us,e,h⟩:=h;exact⟨us,e,jE _ b h⟩
def Hm(b:List V):PS:=λs=>(b[s]?).getD<|.tup []
def args_at:∀{b:List V}{vs:List Value},RW w St b vs->vs.length=b.length∧∀(s:Nat) (c:V),b[s]? =some c->∃v,vs[s]? =some v∧jS w St c v
 |[],_,h=>by rw[show _=[]from h];exact⟨rfl,nF⟩
 |c::b,_,⟨u,g,e,i,j⟩=>by
  have⟨l,k⟩:=args_at j;refine⟨by rw[e];simp[l],λs d f=>?_⟩;cases s with
  |zero=>simp only[CB,Av]at f;subst f;exact⟨u,by rw[e];rfl,i⟩
  |succ s=>rw[e];simpa using k s d (by simpa using f)
def cC{nt bx args vs}(j:∀b o,St b o->b < w.heap.size)(k:Glb w St)(l:RW w St args vs)(r:args.length<=nt)(d:args.all Pz=true):Rel P nt bx ⟨λb=>b < w.heap.size,[]⟩ St w (Hm args) {tmps:=vs.toArray++Array.replicate (nt - vs.toArray.size) undef,defers:=[]} w:=by
 have⟨x,m⟩:=args_at l
 have n:∀s,tm {tmps:=vs.toArray++Array.replicate (nt - vs.toArray.size) undef,defers:=[]} s=(vs[s]?).getD undef:=by
  intro s;unfold tm;rw[DT,Array.getElem?_append];split
  ·simp
  ·rename_i p;rw[LL]at p;rw[Bt aG];rw[E9];split<;>rfl
 refine⟨St,λ_=>[],?_,BelowK.refl _ _,λ_ _ _=>Ea,λ_ h=>h⟩;refine
 {size:=by simp;omega
  defers:=rfl
  slot:=λs=>?_
  boxes:=λs cs e=>?_
  crefs:=λs b e=>?_
  nodup:=λ_=>AZ
  apart:=λ_ _ _ g i=>by simp at i
  hnodup:=AZ
  hapart:=λ_ g i=>by simp at i
  range:=λ_ g i=>by simp at i
  hrange:=λg i=>by simp at i
  st:=j
  gl:=k
  pin:=λv e=>by cases e}
 ·rw[n];cases f:args[s]? with
  |none=>
   have:vs[s]? =none:=by rw[HF]at f⊢;omega
   simp only[Hm,f,this,Qv];exact⟨[],rfl,rfl,rfl⟩
  |some c=>have⟨v,t,u⟩:=m s c f;simp only[Hm,f,t,Bz];exact(Yx (Aq.1 d c<|B4 f) u).slot
 ·simp only[Hm]at e;cases f:args[s]? with
  |none=>rw[f]at e;cases e
  |some c=>rw[f]at e;have q:=Aq.1 d c<|B4 f;simp only[Bz]at e;cases c<;>first|(cases q;done)|(cases e;done)
 ·simp only[Hm]at e;cases f:args[s]? with
  |none=>rw[f]at e;cases e
  |some c=>rw[f]at e;have q:=Aq.1 d c<|B4 f;simp only[Bz]at e;cases c<;>first|(cases q;done)|(cases e;done)
def zm(htb:LB P tb){f:FuncId}{fn:Func}{c:Code}{args:List V}{r:V}(hf:P.funcs[f]? =some fn)(hb:fn.body=some c)(hname:(fn.name== "runtime.NumGoroutine")=false)(bx:zN)(hlen:args.length<=fn.ntmps)(hargs:args.all Pz=true)
  (hn:(fn.results.toList.map MZ).Nodup) (h:Pf P fn.ntmps bx c (Hm args) (λe σ=>(e=.ret∨e=.normal)∧cD tb σ fn.results.toList=some r)):MI P f args r:=by
 refine⟨⟨fn,hf,by rw[hb];rfl,hname⟩,λw St vs hst hgl hvs=>?_⟩;have⟨hl,hat⟩:=args_at hvs;refine J4 hf hb ?_;have hrel:=cC (P:=P) (bx:=bx) hst hgl hvs hlen hargs;refine HT (h _ _ _ _ _ hrel) ?_;rintro e a' w' ⟨σ',⟨he,hres⟩,St',B',h1,h2,h3,h4⟩;have hfin:a'.defers=[]∧∃v,(results fn a'.tmps).run P w'=.ok v w'∧Ret P w St r (.returned v) w':=by have⟨v,bs,q1,q2,q3,q4⟩:=td htb h1 hn hres;exact⟨h1.defers,v,q1,v,bs,St',rfl,⟨h2.os,h2.tape,h2.output,h2.size,h2.block⟩,h3,h1.st,q2,q3,λg hg=>⟨Kk (q4 g hg).1,(q4 g hg).2⟩⟩
 rcases he with rfl|rfl
 ·exact hfin
 ·exact hfin
def WQ{vs:List Value}{nt:Nat}(s:Nat):tm {tmps:=vs.toArray++Array.replicate (nt - vs.toArray.size) undef,defers:=[]} s=(vs[s]?).getD undef:=by
 unfold tm;rw[DT,Array.getElem?_append];split
 ·simp
 ·rename_i b;rw[LL]at b;rw[Bt aG];rw[E9];split<;>rfl
def Aie(htb:LB P tb){f:FuncId}{fn:Func}{c:Code}{cs args cs':List V}{r:V}(hf:P.funcs[f]? =some fn)(hb:fn.body=some c)(hname:(fn.name== "runtime.NumGoroutine")=false)(bx:zN)(hlen:args.length+1<=fn.ntmps)(h0:0∈bx)(hk0:SQ∈bx)(hargs:args.all Pz=true)
  (hn:(fn.results.toList.map MZ).Nodup) (h0r:0∉fn.results.toList.map MZ) (hcs':cs'.all KA=true) (h:Pf P fn.ntmps bx c (Hm<|.box cs::args) (λe σ=>(e=.ret∨e=.normal)∧cD tb σ fn.results.toList=some r∧σ 0=.box cs')):Ob P f cs args cs' r:=by
 refine⟨⟨fn,hf,by rw[hb];rfl,hname⟩,λw St g T arr vs hst hgl hg hcs hng hvs=>?_⟩;obtain⟨hl,hat⟩:=args_at hvs;refine J4 hf hb ?_
 have hgs:g < w.heap.size:=by
  rcases Bi g w.heap.size with h|h
  ·exact h
  ·rw[GM h]at hg;cases hg
 have hrel:Rel P fn.ntmps bx ⟨λb=>b < w.heap.size∧b≠g,[(0,.pointer<|some ⟨g,0,none⟩)]⟩ St w (Hm<|.box cs::args) {tmps:=(Value.pointer (some ⟨g,0,none⟩)::vs).toArray++Array.replicate (fn.ntmps - (Value.pointer (some ⟨g,0,none⟩)::vs).toArray.size) undef,defers:=[]} w:=by
  refine⟨St,λs=>if s=0 then [g]else [],?_,BelowK.refl _ _,λ_ _ _=>Ea,λ_ h=>h.1⟩;refine
  {size:=by simp;omega
   defers:=rfl
   slot:=λs=>?_
   boxes:=λs cs e=>?_
   crefs:=λs b e=>?_
   nodup:=λs=>by split<;>simp
   apart:=λs t hst k hk hk'=>by
    split at hk
    ·split at hk'
     ·omega
     ·simp at hk'
    ·simp at hk
   hnodup:=AZ
   hapart:=λ_ k hk=>by simp
   range:=λs k hk=>by
    split at hk
    ·simp only[As]at hk;subst hk;exact⟨λh=>h.2 rfl,hgs⟩
    ·simp at hk
   hrange:=λk hk=>by simp at hk
   st:=hst
   gl:=hgl
   pin:=λv e=>by rw[As]at e;subst e;rw[WQ];exact⟨rfl,h0,hk0⟩}
  ·rw[WQ];cases s with
   |zero=>exact⟨g,T,[],arr,rfl,hg,hcs,rfl,hng⟩
   |succ s=>
    rw[AA aG];cases hc:args[s]? with
    |none=>
     have:vs[s]? =none:=by rw[HF]at hc⊢;omega
     simp only[Hm,Dm,hc,this,Qv];exact⟨[],rfl,rfl,rfl⟩
    |some c=>obtain⟨v,hv,hr⟩:=hat s c hc;simp only[Hm,Dm,hc,hv,Bz];exact(Yx (Aq.1 hargs c<|B4 hc) hr).slot
  ·cases s with
   |zero=>exact h0
   |succ s=>
    simp only[Hm,Dm]at e;cases hc:args[s]? with
    |none=>rw[hc]at e;cases e
    |some c=>rw[hc]at e;have hp:=Aq.1 hargs c<|B4 hc;simp only[Bz]at e;cases c<;>first|(cases hp;done)|(cases e;done)
  ·cases s with
   |zero=>cases e
   |succ s=>
    simp only[Hm,Dm]at e;cases hc:args[s]? with
    |none=>rw[hc]at e;cases e
    |some c=>rw[hc]at e;have hp:=Aq.1 hargs c<|B4 hc;simp only[Bz]at e;cases c<;>first|(cases hp;done)|(cases e;done)
 refine HT (h _ _ _ _ _ hrel) ?_;rintro e a' w' ⟨σ',⟨he,hres,hbox⟩,St',B',h1,h2,h3,h4⟩
 have hfin:a'.defers=[]∧∃v,(results fn a'.tmps).run P w'=.ok v w'∧Ajb P w St g cs' r (.returned v) w':=by
  obtain⟨v,bs,q1,q2,q3,q4⟩:=aQ htb h1 hn hres;have hs0:=h1.slot 0;rw[hbox]at hs0;obtain⟨g',T',bs',arr',e1,e2,e3,e4,e5⟩:=hs0;have hnil:=Yy hcs' e3;subst hnil
  have hgg:g'=g:=by
   have:=(h1.pin _<|As.2 rfl).1;rw[e1]at this;injection this with this
   injection this with this
   injection this
  subst hgg;refine⟨h1.defers,v,q1,v,bs,St',T',arr',rfl,h2,?_,h1.st,e2,e3,q2,q3,λk hk=>?_⟩
  ·intro b o hb;by_cases e:b=g'
   ·subst e;exact⟨λhh=>absurd hh<|e5 o,λhh=>absurd hh<|hng o⟩
   ·exact h3 b o ⟨hb,e⟩
  ·obtain⟨rv,hrv,hkb⟩:=q4 k hk;have hne:MZ rv≠0:=λe=>h0r<|e ▸ CE hrv
   have hr1:=h1.range _ k hkb;have hkg:k≠g':=λe=>h1.apart _ 0 hne k hkb (by rw[e4,e];simp)
   exact⟨Bp λhlt=>hr1.1 ⟨aG,hkg⟩,hr1.2⟩
 rcases he with rfl|rfl
 ·exact hfin
 ·exact hfin
def yK(tb:Tb)(rs:List ResultVar)(r:V)(e:Exit)(σ:PS):Prop:=(e=.ret∨e=.normal)∧cD tb σ rs=some r
structure Lit (P:Program) (f:FuncId) (nt:Nat) (bx:zN) (rs:List ResultVar) (l:LC):Prop where
 ex:∃fn c,P.funcs[f]? =some fn∧fn.body=some c∧(fn.name== "runtime.NumGoroutine")=false∧fn.ntmps=nt∧fn.results.toList=rs∧Ly c=bg l∧okC nt bx c=true
 nd:(rs.map MZ).Nodup
 ok:okL bx l=true
def Al6(tb:Tb)(rs:List ResultVar)(r:V)(cs':List V)(e:Exit)(σ:PS):Prop:=(e=.ret∨e=.normal)∧cD tb σ rs=some r∧σ 0=.box cs'
def AbT(i:LB P tb){f:FuncId}{nt:Nat}{bx:zN}{rs:List ResultVar}{l:LC}{cs b cs':List V}{r:V}(m:Lit P f nt bx rs l)(e:b.length+1<=nt)(j:(bx.contains 0&&bx.contains SQ)=true)(d:b.all Pz=true)(k:(rs.map MZ).contains 0=false)(g:cs'.all KA=true)
  (h:LS P nt bx l (Hm<|.box cs::b) (Al6 tb rs r cs')):Ob P f cs b cs' r:=by
 obtain⟨⟨v,c,n,o,p,rfl,rfl,q,s⟩,t,u⟩:=m;simp only[Ab,Ag]at j;exact Aie i n o p bx e j.1 j.2 d t (by simpa using k) g<|h c q s u
def Al5(t:Nat)(cs:List V)(e:Exit)(σ:PS):Prop:=(e=.ret∨e=.normal)∧∃b,σ t=.cref b 0∧σ b=.box cs
def Abt{f:FuncId}{nt:Nat}{bx:zN}{l:LC}{d cs:List V}{t:Nat}(M:Lit P f nt bx [.tmp t] l)(n:d.length<=nt)(m:d.all Pz=true)(y:cs.all KA=true)
  (h:LS P nt bx l (Hm d) (Al5 t cs)):NewAt P f d cs:=by
 obtain⟨⟨p,c,I,J,N,rfl,z,O,Q⟩,hn,R⟩:=M;refine⟨⟨p,I,by rw[J];rfl,N⟩,λw St vs A C D=>?_⟩;refine J4 I J ?_;refine HT (h c O Q R _ _ _ _ _<|cC A C D n m) ?_;rintro e a' w' ⟨σ',⟨S,i⟩,St',B',q,r,U,q4⟩;obtain⟨b,W,i⟩:=i;have s:=q.slot b;rw[i]at s;obtain⟨g,T,X,j,Y,e2,K,Z,e5⟩:=s;have e1:tm a' t=.pointer (some ⟨g,0,none⟩):=by have u:=q.slot t;rw[W]at u;obtain⟨_,g',F,k2⟩:=u;rw[Y]at F;simp only[Z5,Av]at F;rw[k2,F]
 have x:=Yy y K;subst x;have L:=q.range b g (by rw[Z];simp)
 have k:a'.defers=[]∧∃v,(results p a'.tmps).run P w'=.ok v w'∧(∃g T St',∃j:Array Value,Ending.returned v=.returned (.pointer (some ⟨g,0,none⟩))∧Below w.heap.size w w'∧(∀b o,b < w.heap.size->(St' b o↔St b o))∧(∀b o,St' b o->b < w'.heap.size)∧
   w'.heap[g]? =some (.cells j T (0,0))∧Bx P w' St' cs j.toList []∧(∀o,¬St' g o)∧w.heap.size<=g∧g < w'.heap.size):=by
  refine⟨q.defers,.pointer<|some ⟨g,0,none⟩,?_,g,T,St',j,rfl,⟨r.os,r.tape,r.output,r.size,r.block⟩,U,q.st,e2,K,e5,Kk L.1,L.2⟩;have G:(p.results.mapM (Uy a'.tmps):Sem (Array Value)).run P w'=.ok #[.pointer (some ⟨g,0,none⟩)] w':=by rw[JR,Sem.run_map,z];have:a'.tmps.getD t undef=.pointer (some ⟨g,0,none⟩):=e1;simp[Uy,this]
  have H:results p a'.tmps=(do let vs <-p.results.mapM (Uy a'.tmps);pure (if h:vs.size=1 then vs[0]else .tuple vs):Sem Value):=by unfold results;congr 1
  rw[H];simp only[BC,G,Bg,BW];rfl
 rcases S with rfl|rfl
 ·exact k
 ·exact k
def uP(g:LB P tb){f:FuncId}{nt:Nat}{bx:zN}{rs:List ResultVar}{l:LC}{b:List V}{r:V}(i:Lit P f nt bx rs l)(e:b.length<=nt)(d:b.all Pz=true)
  (h:LS P nt bx l (Hm b) (yK tb rs r)):MI P f b r:=by
 obtain⟨⟨s,c,j,k,m,rfl,rfl,n,o⟩,p,q⟩:=i;exact zm g j k m bx e d p<|h c n o q
end
end
section
def Kz:Operand->zN
 |.tmp t=>[t]
 |_=>[]
def V5(o:Op):zN:=o.operands.toList.flatMap Kz
def eP(R:zN):V->Bool
 |.cref s _=>R.contains s
 |.same s=>R.contains s
 |.uni _ _ _=>false
 |.tok _=>R.contains gS&&R.contains gU
 |_=>true
def simple(cns:zN)(o:LO):Bool:=
 match o.op,o.dst with
 |.assign _,_=>false
 |.move _,some d=> !cns.contains d
 |.load _ _,some d=> !cns.contains d || cns.contains (1500000+d)
 |.extract _ _,_=>false
 |.store _ _ _,_=>false
 |.alloc _,_=>false
 |.box _ _,_=>false
 |.build _ _,_=>false
 |.buildSlice _ _ _,_=>false
 |.makeSlice _ _ _,_=>false
 |.call c,_=>match c.callee with
  |.builtin .append=>false
  |_=>true
 |_,_=>true
def gT(o:LO):zN:=match o.g with
 |some (some q,_)=>[q]
 |_=>[]
def gO(o:LO)(s:Nat):Bool:=(gT o).contains s&& !(V5 o.op).contains s
def YQ(cns R W:zN)(o:LO):Bool:=
 (V5 o.op).all R.contains&&(gT o).all R.contains&&(o.dst.toList).all W.contains&&W.all (λs=>R.contains s || o.dst==some s)&&(simple cns o || R.all (λs=>W.contains s || gO o s))&&(match o.op with
  |.alloc _=>o.dst.toList.all R.contains
  |.box _ _=>false
  |.select _ _=>false
  |.makeFunc _ _ _=>false
  |.assign _|.makeSlice _ _ _=>o.dst.toList.all<|λd=> !cns.contains d
  |.call c=> !fC c || o.dst.toList.all (λd=> !cns.contains d || R.contains d)
  |_=>true)
def adP:Op->zN
 |.load _ x=>Kz x
 |.fieldAddr _ x _=>Kz x
 |.nilCheck x=>Kz x
 |.store _ x _=>Kz x
 |.indexAddr _ x _=>Kz x
 |.call c=>match c.callee,c.args.toList with
  |.builtin .len,[x]=>Kz x
  |.value _,x::_=>Kz x
  |_,_=>[]
 |_=>[]
def adC:Op->zN
 |.call c=>match c.callee,c.args.toList with
  |.value _,x::_=>Kz x
  |_,_=>[]
 |_=>[]
def mn(R W:zN)(p:Nat):V->Bool
 |.box cs=>W.contains p&&cs.all KA
 |.cref s _=>R.contains s&&W.contains s
 |.tok _=>false
 |_=>true
def adS:Op->zN
 |.store _ x _=>Kz x
 |.call c=>match c.callee with
  |.value x=>Kz x++c.args.toList.flatMap Kz
  |_=>[]
 |_=>[]
def aD:V->Bool
 |.tok _=>false
 |.same _=>false
 |_=>true
def bm(R W:zN)(op:Op)(σ:PS):Bool:=(adP op).all (λp=>eP R<|σ p)&&((adC op).all (λp=>mn R W p<|σ p)&&(adS op).all (λp=>aD<|σ p))
def u4{R W op σ}(h:bm R W op σ=true):(adP op).all (λp=>eP R<|σ p)=true:=by unfold bm at h;rw[Ab]at h;exact h.1
def adU(a:zN)(o:LO):zN:=match o.op,o.dst with
 |.assign x,_=>Kz x
 |.move x,some d=>if a.contains d=true then Kz x else []
 |.call c,_=>match c.callee,c.args.toList with
  |.builtin .append,x::_=>Kz x
  |_,_=>[]
 |_,_=>[]
def adT(a:zN)(o:LO):zN:=match o.op,o.dst with
 |.load _ x,some d=>if a.contains (1500000+d)=true then Kz x else []
 |_,_=>[]
def xe:V->Bool
 |.tok _=>true
 |_=>false
def wx(a R W:zN)(o:LO)(σ:PS):Prop:=YQ a R W o=true∧bm R W o.op σ=true∧((adU a o).all (λp=>eP R<|σ p)&&(adT a o).all (λp=>xe<|σ p))=true
def pt(W:zN)(σ' τ:PS):PS:=λs=>if W.contains s=true then σ' s else τ s
def S3(σ:PS):List (Nat×V)->PS
 |[]=>σ
 |(s,v)::us=>upd (S3 σ us) s v
def GI(R:zN)(σ τ:PS):Prop:=∀s,R.contains s=true->τ s=σ s
def RM{σ}:∀{us:List (Nat×V)}{s:Nat},s∉us.map (·.1)->S3 σ us s=σ s
 |[],_,_=>rfl
 |(q,v)::us,s,h=>by simp only[AP,AL,not_or]at h;simp only[S3];rw[upd_ne _ _ h.1];exact RM h.2
def ew{σ τ}:∀{us:List (Nat×V)}{s:Nat},s∈us.map (·.1)->S3 τ us s=S3 σ us s
 |[],_,h=>by simp at h
 |(q,v)::us,s,h=>by
  simp only[S3];by_cases e:s=q
  ·subst e;rw[upd_same,upd_same]
  ·rw[upd_ne _ _ e,upd_ne _ _ e];simp only[AP,AL]at h;exact ew<|h.resolve_left e
def AcJ{R W σ τ}(ha:GI R σ τ){us:List (Nat×V)}(h1:∀s∈us.map (·.1),W.contains s=true)(h2:∀s,W.contains s=true->s∈us.map (·.1)∨R.contains s=true):
  S3 τ us=pt W (S3 σ us) τ∧∀s,W.contains s=false->S3 σ us s=σ s:=by
 constructor
 ·funext s;unfold pt;split
  ·rename_i hw;by_cases hk:s∈us.map (·.1)
   ·exact ew hk
   ·rw[RM hk,RM hk];exact ha s<|(h2 s hw).resolve_left hk
  ·rename_i hw;exact RM<|λhk=>hw<|h1 s hk
 ·intro s hw;exact RM (λhk=>by rw[h1 s hk]at hw;cases hw)
section
variable {P:Program}{tb:Tb}{cns R W:zN}{σ τ:PS}{o:LO}{K:PS->Prop}
def JV(b:GI R σ τ){x:Operand}(a:(Kz x).all R.contains=true):CP τ x=CP σ x:=by
 cases x with
 |tmp t=>simp only[Kz,BM,Fa,CX]at a;exact b t a
 |_=>rfl
def X9(b:GI R σ τ){x:Operand}(a:(Kz x).all R.contains=true):Oa τ x=Oa σ x:=by
 cases x with
 |tmp t=>simp only[Kz,BM,Fa,CX]at a;simp only[Oa,b t a]
 |_=>rfl
def Yc{x s off}(a:(Kz x).all (λp=>eP R<|σ p)=true)(b:(Kz x).all R.contains=true)(h:Oa σ x=.cref s off):R.contains s=true:=by
 cases x with
 |tmp t=>
  simp only[Kz,BM,Fa,CX]at a b;simp only[Oa]at h;split at h
  ·simp only[V.cref.injEq]at h;rw[<-h.1];exact b
  ·rw[h]at a;exact a
 |global g=>exact absurd h<|Uw.1 _ _
 |_=>cases h
def xy(a:GI R σ τ){x:Operand}(d:Option TyD)(c:(Kz x).all (λp=>eP R<|σ p)=true)(b:(Kz x).all R.contains=true):Wx d τ (Oa τ x)=Wx d σ (Oa σ x)∧Ww d τ (Oa τ x)=Ww d σ (Oa σ x):=by
 rw[X9 a b];cases d with
 |none=>exact⟨rfl,rfl⟩
 |some d=>
  cases h:Oa σ x with
  |cref s off=>have:=a s<|Yc c b h;simp only[Wx,Ww,ax,XH,this];exact⟨trivial,trivial⟩
  |_=>exact⟨rfl,rfl⟩
def TB{α:Type}{f g:Operand->List α}{p:α->Bool}{xs:List Operand}{x:Operand}(h:(xs.flatMap f).all p=true)(b:x∈xs):(f x).all p=true:=by rw[Aq]at h⊢;exactλa c=>h a<|B6.2 ⟨x,b,c⟩
def nX(b:GI R σ τ){x:Operand}(a:(Kz x).all (λp=>eP R<|σ p)=true){s:Nat}(h:CP σ x=.same s):τ s=σ s:=by
 cases x with
 |tmp t=>simp only[Kz,BM,Fa,CX]at a;rw[show σ t=.same s from h]at a;exact b s a
 |const v=>exfalso;simp only[CP,cV]at h;split at h<;>(try split at h)<;>cases h
 |_=>cases h
def ng(a:GI R σ τ){x:Operand}(d:Option TyD)(b:(Kz x).all (λp=>eP R<|σ p)=true):iC τ (CP σ x)=iC σ (CP σ x)∧Za d τ (CP σ x)=Za d σ (CP σ x):=by
 cases h:CP σ x with
 |same s=>have:=nX a b h;simp only[iC,Za,this];exact⟨trivial,trivial⟩
 |_=>exact⟨rfl,rfl⟩
def r8(a:GI R σ τ){x:Operand}(es:Nat)(i:V)(b:(Kz x).all (λp=>eP R<|σ p)=true):iaS τ es (CP σ x) i=iaS σ es (CP σ x) i∧fH τ (CP σ x) i=fH σ (CP σ x) i:=by
 cases h:CP σ x with
 |same s=>have:=nX a b h;simp only[iaS,fH,this];exact⟨trivial,trivial⟩
 |_=>exact⟨rfl,rfl⟩
def tU(c:GI R σ τ)(b:Callee)(a:List Operand)(ts:List TypeId)(h:∀x∈a,CP τ x=CP σ x)(d:(match b,a with|.builtin .len,[x]=>Kz x|_,_=>[]).all (λp=>eP R<|σ p)=true):Rr τ b a=Rr σ b a∧UB tb τ b a ts=UB tb σ b a ts:=by
 constructor
 ·unfold Rr;split
  ·rw[h _ nF];exact(ng c none d).1
  ·rw[h _ nF,h _ nF]
  ·rw[h _ nF,h _ nF]
  ·rfl
 ·unfold UB;split
  ·rw[h _ nF];exact(ng c _ d).2
  ·rw[h _ nF,h _ nF]
  ·rw[h _ nF,h _ nF]
  ·rfl
def yD(j:GI R σ τ){op:Op}(n:(V5 op).all R.contains=true)(q:(adP op).all (λp=>eP R<|σ p)=true):pv tb τ op=pv tb σ op∧pc tb τ op=pc tb σ op:=by
 have e:∀x,x∈op.operands.toList->CP τ x=CP σ x:=λx h=>JV j<|TB (g:=Kz) n h
 cases op with
 |move x=>
  have a:=e x (by simp[Op.operands]);cases x with
  |tmp t=>simp only[pv,pc,mvV,mvC,show τ t=σ t from a];exact⟨trivial,trivial⟩
  |_=>exact⟨rfl,rfl⟩
 |pick c x y=>
  have a:=e c (by simp[Op.operands]);have b:=e x (by simp[Op.operands]);have r:=e y (by simp[Op.operands]);have u:∀v,gw τ x y v=gw σ x y v:=by intro v;cases v<;>first|rfl|simp only[gw,b,r]
  have e2:∀v,gv τ x y v=gv σ x y v:=by intro v;cases v<;>first|rfl|simp only[gv,b,r]
  simp only[pv,pc,a,u,e2];exact⟨trivial,trivial⟩
 |binOp op t x y A=>have a:=e x (by simp[Op.operands]);have b:=e y (by simp[Op.operands]);simp only[pv,pc,a,b];exact⟨trivial,trivial⟩
 |unOp op t x=>have a:=e x (by simp[Op.operands]);simp only[pv,pc,a];exact⟨trivial,trivial⟩
 |convert s d x=>have a:=e x (by simp[Op.operands]);simp only[pv,pc,a];exact⟨trivial,trivial⟩
 |load t x=>
  have k:x∈(Op.load t x).operands.toList:=by simp[Op.operands]
  have:=xy j (x:=x) (tb t) q<|TB (g:=Kz) n k;simp only[pv,pc,this.1,this.2];exact⟨trivial,trivial⟩
 |nilCheck x=>
  have k:x∈(Op.nilCheck x).operands.toList:=by simp[Op.operands]
  have a:=X9 j<|TB (g:=Kz) n k
  have b:faC τ (Oa σ x)=faC σ (Oa σ x):=by
   cases h:Oa σ x with
   |cref s off=>have:=j s<|Yc q (TB (g:=Kz) n k) h;simp only[faC,this]
   |_=>rfl
  simp only[pv,pc,a,b];exact⟨trivial,trivial⟩
 |fieldAddr t x f=>
  have k:x∈(Op.fieldAddr t x f).operands.toList:=by simp[Op.operands]
  have a:=X9 j<|TB (g:=Kz) n k
  have b:∀d,mJ d f τ (Oa σ x)=mJ d f σ (Oa σ x):=by
   intro d;cases h:Oa σ x with
   |cref s off=>have:=j s<|Yc q (TB (g:=Kz) n k) h;simp only[mJ,faC,this]
   |_=>rfl
  simp only[pv,pc,a,b];exact⟨trivial,trivial⟩
 |indexAddr t x i=>
  have a:=e x (by simp[Op.operands]);have b:=e i (by simp[Op.operands]);simp only[pv,pc,a,b,pq,pp];constructor
  ·split
   ·exact(r8 j _ _ q).1
   ·rfl
  ·split
   ·exact(r8 j 0 _ q).2
   ·rfl
 |index t x i=>have a:=e x (by simp[Op.operands]);have b:=e i (by simp[Op.operands]);simp only[pv,pc,a,b];exact⟨trivial,trivial⟩
 |slice t x lo hi z=>
  have a:=e x (by simp[Op.operands]);have b:lo.map (CP τ)=lo.map (CP σ):=by cases lo with|none=>rfl|some l=>simp only[BP,e l (by simp[Op.operands])]
  have r:hi.map (CP τ)=hi.map (CP σ):=by cases hi with|none=>rfl|some l=>simp only[BP,e l (by simp[Op.operands])]
  cases z with
  |none=>simp only[pv,pc,a,b,r];exact⟨trivial,trivial⟩
  |some m=>exact⟨rfl,rfl⟩
 |call c=>
  have a:∀x∈c.args.toList,CP τ x=CP σ x:=λx h=>e x (by simp[Op.operands,Call.operands];exact .inr<|by simpa using h)
  have w:(match c.callee,c.args.toList with|.builtin .len,[x]=>Kz x|_,_=>[]).all (λp=>eP R<|σ p)=true:=by
   split
   ·rename_i x u e2;simpa[adP,u,e2]using q
   ·rfl
  have b:=tU (tb:=tb) j c.callee c.args.toList c.argTypes.toList a w;simp only[pv,pc,b.1,b.2];exact⟨trivial,trivial⟩
 |_=>exact⟨rfl,rfl⟩
def Loc(W:zN)(σ τ:PS)(K:PS->Prop)(τ':PS):Prop:=∃σ',K σ'∧τ'=pt W σ' τ∧∀s,W.contains s=false->σ' s=σ s
def Yr(a:GI R σ τ){us:List (Nat×V)}(b:∀s∈us.map (·.1),W.contains s=true)(c:∀s,W.contains s=true->s∈us.map (·.1)∨R.contains s=true)(d:K (S3 σ us)):Loc W σ τ K (S3 τ us):=by have⟨e,e2⟩:=AcJ a b c;exact⟨_,d,e,e2⟩
def X2(σ:PS)(x:Operand):∃us:List (Nat×V),us.map (·.1)=Kz x∧DB σ x=S3 σ us∧∀τ,GI (Kz x) σ τ->DB τ x=S3 τ us:=by
 cases x with
 |tmp t=>refine⟨[(t,dg<|σ t)],rfl,rfl,λτ h=>?_⟩;have:=h t (by simp[Kz]);simp only[DB,S3,this]
 |const v=>exact⟨[],rfl,rfl,λ_ _=>rfl⟩
 |global g=>exact⟨[],rfl,rfl,λ_ _=>rfl⟩
 |func f=>exact⟨[],rfl,rfl,λ_ _=>rfl⟩
def ba(σ:PS)(us vs:List (Nat×V)):S3 (S3 σ vs) us=S3 σ (us++vs):=by
 induction us with
 |nil=>rfl
 |cons p us a=>have⟨s,v⟩:=p;simp only[S3,CR,a]
def QC(h:YQ cns R W o=true):(V5 o.op).all R.contains=true∧(∀q b,o.g=some (some q,b)->R.contains q=true)∧(∀d,o.dst=some d->W.contains d=true)∧(∀s,W.contains s=true->R.contains s=true∨o.dst=some s)∧(simple cns o=true∨∀s,R.contains s=true->W.contains s=true∨gO o s=true):=by
 simp only[YQ,Ab]at h;have⟨⟨⟨⟨⟨i,c⟩,f⟩,j⟩,g⟩,_⟩:=h;refine⟨i,λq b e=>?_,λd e=>?_,λs a=>?_,?_⟩
 ·rw[gT,e]at c;simpa using c
 ·rw[e]at f;simpa using f
 ·have:=Aq.1 j s (by simpa using a);simp only[BZ,Bv]at this;exact this
 ·simp only[BZ]at g;rcases g with h|h
  ·exact .inl h
  ·exact .inr λs a=>by simpa using List.all_eq_true.1 h s (by simpa using a)
def ae(a:o.g=none)(h:∀s,R.contains s=true->W.contains s=true∨gO o s=true):∀s,R.contains s=true->W.contains s=true:=λs b=>by
 rcases h s b with h|h
 ·exact h
 ·simp[gO,gT,a]at h
def pd(b:(V5 o.op).all R.contains=true)(h:∀s,R.contains s=true->W.contains s=true∨gO o s=true):(V5 o.op).all W.contains=true:=by
 rw[Aq];intro s a;rcases h s (Aq.1 b s a)with h|h
 ·exact h
 ·simp[gO,a]at h
def Kv(c:GI R σ τ)(e:YQ cns R W o=true){d:Nat}(b:o.dst=some d){v:V}(f:K (upd σ d v)):Loc W σ τ K (upd τ d v):=by
 have⟨j,k,g,i,l⟩:=QC e;refine Yr (us:=[(d,v)]) c (λs a=>?_) (λs a=>?_) f
 ·simp only[AP,DE,As]at a;subst a;exact g _ b
 ·rcases i s a with h|h
  ·exact .inr h
  ·rw[b]at h;injection h with h;subst h;exact .inl nF
def Yz(a:GI R σ τ)(c:wx cns R W o σ)(h:ME tb o σ K):ME tb o τ (Loc W σ τ K):=by
 have⟨k,l,m,n,p⟩:=QC c.1;have i:=yD (tb:=tb) a k<|u4 c.2.1;unfold ME at *;cases f:o.dst with
 |none=>rw[f]at h;exact h
 |some d=>
  rw[f]at h;simp only at h⊢;cases j:o.g with
  |none=>rw[j]at h;rw[i.1,i.2];exact⟨h.1,Kv a c.1 f h.2⟩
  |some g=>
   have⟨q,b⟩:=g;rw[j]at h;cases q with
   |none=>exact h
   |some q=>simp only at h⊢;rw[a q (l q b j),i.1,i.2];exact⟨h.1,λe=>⟨(h.2.1 e).1,Kv a c.1 f (h.2.1 e).2⟩,λe=>Kv a c.1 f<|h.2.2 e⟩
def Ym(c:GI R σ τ)(f:wx cns R W o σ){d:Nat}(k:o.dst=some d){X i:Prop}(j:X->i)(h:TF o d σ K X):TF o d τ (Loc W σ τ K) i:=by
 have⟨m,l,n,p,r⟩:=QC f.1;unfold TF at *;cases a:o.g with
 |none=>rw[a]at h;exact j h
 |some g=>
  have⟨q,b⟩:=g;rw[a]at h;cases q with
  |none=>exact h
  |some q=>simp only at h⊢;rw[c q (l q b a)];exact⟨h.1,λe=>j<|h.2.1 e,λe=>Kv c f.1 k<|h.2.2 e⟩
def tT(j:GI R σ τ)(n:wx cns R W o σ){f:FuncId}{a:List Operand}(c:∀x∈a,(Kz x).all R.contains=true)(h:T9 P o f a σ K):T9 P o f a τ (Loc W σ τ K):=by
 have⟨G,w,H,y,I⟩:=QC n.1;have z:(a.map λx=>er<|CP τ x)=a.map λx=>er (CP σ x):=Bd λx i=>by rw[JV j (c x i)]
 have p:(a.map λx=>erK<|CP τ x)=a.map λx=>erK (CP σ x):=Bd λx i=>by rw[JV j (c x i)]
 have m:(a.map λx=>CP τ x)=a.map λx=>CP σ x:=Bd λx i=>by rw[JV j (c x i)]
 have A:mb P τ f a=mb P σ f a:=by unfold mb;rw[z,p,m]
 have e2:a.all (λx=>(CP τ x).isArg)=a.all (λx=>(CP σ x).isArg):=by rw[Bb,Aq,Aq];exact⟨λh x i=>by have:=h x i;rwa [JV j (c x i)]at this,λh x i=>by rw[JV j (c x i)];exact h x i⟩
 unfold T9 at *;rw[A,e2];cases t:o.g with
 |none=>
  rw[t]at h;have⟨u,r,v,l⟩:=h;refine⟨u,r,v,?_⟩;cases k:o.dst with
  |none=>
   rw[k]at l;simp only[V6]at l⊢;refine Yr (us:=[]) j nF (λs B=>?_) l;rcases y s B with h|h
   ·exact .inr h
   ·rw[k]at h;cases h
  |some d=>rw[k]at l;exact Kv j n.1 k l
 |some g=>
  have⟨q,b⟩:=g;rw[t]at h;simp only at h⊢;cases q with
  |none=>exact h
  |some q=>
   cases k:o.dst with
   |none=>rw[k]at h;exact h
   |some d=>rw[k]at h;simp only at h⊢;rw[j q (w q b t)];have⟨u,v,l⟩:=h;refine⟨u,λe=>?_,λe=>Kv j n.1 k<|l e⟩;have⟨C,r,D,F⟩:=v e;exact⟨C,r,D,Kv j n.1 k F⟩
def Yq(a:GI R σ τ)(b:YQ cns R W o=true){us:List (Nat×V)}(c:∀s∈us.map (·.1),W.contains s=true)(e:∀d,o.dst=some d->d∈us.map (·.1))(f:K (S3 σ us)):Loc W σ τ K (S3 τ us):=by
 have⟨j,k,l,g,m⟩:=QC b;refine Yr a c (λs i=>?_) f;rcases g s i with h|h
 ·exact .inr h
 ·exact .inl<|e s h
def tS(j:GI R σ τ)(w:wx cns R W o σ){f:FuncId}{b:List Operand}(a:∀x∈b,(Kz x).all R.contains=true)(u:∀x xs,b=x::xs->(Kz x).all (λp=>mn R W p<|σ p)=true)(h:Z6 P o f b σ K):Z6 P o f b τ (Loc W σ τ K):=by
 have⟨H,I,A,y,J⟩:=QC w.1;unfold Z6 at *;split at h
 ·exact h
 ·rename_i x xs
  have v:Xk P o f x xs σ K->Xk P o f x xs τ (Loc W σ τ K):=by
   rintro⟨s,cs,cs',r,e,B,C,z,D,m⟩;have i:=a x nF;have n:=u x xs rfl
   have k:R.contains s=true∧W.contains s=true:=by
    cases x with
    |tmp t=>
     simp only[Kz,BM,Fa,CX]at n i;simp only[Oa]at e;split at e
     ·rename_i cs0 F;simp only[V.cref.injEq]at e;rw[F]at n;rw[<-e.1];simp only[mn,Ab]at n;exact⟨i,n.1⟩
     ·rw[e]at n;simpa[mn]using n
    |global g=>exact absurd e<|Uw.1 _ _
    |_=>cases e
   have G:(xs.map λx=>er<|CP τ x)=xs.map λx=>er (CP σ x):=Bd λx i=>by rw[JV j (a x<|by simp[i])]
   have e2:xs.all (λx=>(CP τ x).isArg)=true:=by rw[Aq]at z⊢;exactλx i=>by rw[JV j (a x<|by simp[i])];exact z x i
   refine⟨s,cs,cs',r,by rw[X9 j i];exact e,by rw[j s k.1];exact B,C,e2,by rw[G];exact D,?_⟩;cases l:o.dst with
   |none=>
    rw[l]at m;simp only[V6]at m⊢;refine Yr (us:=[(s,.box cs')]) j (λq c=>?_) (λq c=>?_) m
    ·simp only[AP,DE,As]at c;subst c;exact k.2
    ·rcases y q c with h|h
     ·exact .inr h
     ·rw[l]at h;cases h
   |some d=>
    rw[l]at m;simp only[V6]at m⊢;refine Yr (us:=[(d,r),(s,.box cs')]) j (λq c=>?_) (λq c=>?_) m
    ·simp only[AP,DE,AL,MW,or_false]at c;rcases c with rfl|rfl
     ·exact A _ l
     ·exact k.2
    ·rcases y q c with h|h
     ·exact .inr h
     ·rw[l]at h;injection h with h;subst h;exact .inl nF
  split at h
  ·exact⟨h.1,v h.2⟩
  ·rename_i d l;exact Ym j w l v h
def ay(c:GI R σ τ)(e:YQ cns R W o=true)(a:∀s,R.contains s=true->W.contains s=true){us:List (Nat×V)}(f:∀s∈us.map (·.1),R.contains s=true∨o.dst=some s)(g:∀d,o.dst=some d->d∈us.map (·.1))(i:K (S3 σ us)):Loc W σ τ K (S3 τ us):=by
 have⟨l,m,j,k,n⟩:=QC e;refine Yr c (λs b=>?_) (λs b=>?_) i
 ·rcases f s b with h|h
  ·exact a s h
  ·exact j s h
 ·rcases k s b with h|h
  ·exact .inr h
  ·exact .inl<|g s h
def ZV{x}(a:GI R σ τ)(b:(Kz x).all R.contains=true):GI (Kz x) σ τ:=λs c=>a s<|Aq.1 b s<|by simpa using c
def Vb{x s}(a:(Kz x).all R.contains=true)(h:s∈Kz x):R.contains s=true:=Aq.1 a s h
def ni(c:GI R σ τ)(i:YQ cns R W o=true)(b:∀s,R.contains s=true->W.contains s=true){x:Operand}(e:(Kz x).all R.contains=true){d:Nat}{v:V}(f:o.dst=some d)(g:K (upd (DB σ x) d v)):Loc W σ τ K (upd (DB τ x) d v):=by
 have⟨us,j,e2,k⟩:=X2 σ x;rw[k τ (ZV c e)];rw[e2]at g;refine ay (us:=(d,v)::us) c i b (λs a=>?_) (λd' h=>?_) g
 ·simp only[AP,AL,j]at a;rcases a with rfl|a
  ·exact .inr f
  ·exact .inl<|Vb e a
 ·rw[f]at h;injection h with h;subst h;simp
def mj(a:GI R σ τ)(b:YQ cns R W o=true)(e:∀s,R.contains s=true->W.contains s=true){x:Operand}(f:(Kz x).all R.contains=true)(g:(Kz x).all (λp=>eP R<|σ p)=true){d:Nat}(c:o.dst=some d)(h:TD tb o x d σ K):TD tb o x d τ (Loc W σ τ K):=by
 unfold TD at *;split at h
 ·split at h
  ·exact Kv a b c h
  ·exact h
 ·exact Kv a b c h
 ·rename_i p;have i:τ p=σ p:=JV a f;rw[i];split at h
  ·rename_i j;simp only[Kz,BM,Fa,CX,j,eP]at g;cases g
  ·exact Kv a b c h
  ·exact Kv a b c h
  ·exact⟨h.1,ni a b e f c h.2⟩
 ·rw[JV a f];exact⟨h.1,ni a b e f c h.2⟩
def fo(a:Nat->Option (Nat×Nat)):∀(parts:List (Nat×Operand)) (σ σ':PS) (cs cs':List V),Ts a parts σ cs=some (σ',cs')->∃us:List (Nat×V),(∀s∈us.map (·.1),s∈parts.flatMap (λp=>Kz p.2))∧σ'=S3 σ us∧∀τ,GI (parts.flatMap<|λp=>Kz p.2) σ τ->Ts a parts τ cs=some (S3 τ us,cs')
 |[],σ,σ',cs,cs',h=>by simp only[Ts,Av,Ch]at h;obtain⟨rfl,rfl⟩:=h;exact⟨[],nF,rfl,λτ _=>rfl⟩
 |(i,x)::parts,σ,σ',cs,cs',h=>by
  simp only[Ts]at h;cases e:a i with
  |none=>rw[e]at h;cases h
  |some q=>
   have⟨off,v⟩:=q;rw[e]at h;simp only at h;split at h
   ·rename_i l;have⟨us,m,e2,n⟩:=fo a parts _ _ _ _ h;have⟨vs,r,j,k⟩:=X2 σ x;refine⟨us++vs,λs b=>?_,by rw[e2,j,ba],λτ f=>?_⟩
    ·rw[Br,Al]at b;rw[AR,Al];rcases b with b|b
     ·exact .inr<|m s b
     ·exact .inl (by rw[r]at b;exact b)
    ·have u:CP τ x=CP σ x:=by
      cases x with
      |tmp t=>exact f t (by simp[Kz])
      |_=>rfl
     have c:GI (Kz x) σ τ:=λs b=>f s (by simp only[AR,MT,Al,AN]at *;exact .inl b)
     simp only[Ts,e,u];rw[Az l]
     have d:GI (parts.flatMap<|λp=>Kz p.2) (DB σ x) (DB τ x):=by
      intro s b;rw[j,k τ c];by_cases g:s∈vs.map (·.1)
      ·exact ew g
      ·rw[RM g,RM g];exact f s (by simp only[AR,MT,Al,AN]at *;exact .inr b)
     rw[n _ d,k τ c,ba]
   ·cases h
def Yv{R:zN}{parts:Array (Nat×Operand)}(a:((parts.toList.map (·.2)).toArray.toList.flatMap Kz).all R.contains=true):∀s∈parts.toList.flatMap (λp=>Kz p.2),R.contains s=true:=by intro s b;rw[Aq]at a;refine a s ?_;rw[B6]at b⊢;obtain⟨p,c,h⟩:=b;exact⟨p.2,(show p.2∈parts.toList.map (·.2)from CE c),h⟩
def tB{x u}(a:Oa σ x=.tok u)(b:(Kz x).all (λp=>eP R<|σ p)=true):R.contains gS=true∧R.contains gU=true:=by
 cases x with
 |tmp s=>
  have c:σ s=.tok u:=by
   unfold Oa at a;simp only at a;split at a
   ·cases a
   ·exact a
  simp only[Kz,c,BM,Fa,CX,eP,Ab]at b;exact b
 |global g=>exact absurd a<|Uw.2.1 _
 |_=>cases a
def AiG{x u}(a:Oa σ x=.tok u)(b:(Kz x).all (λp=>aD<|σ p)=true):False:=by
 cases x with
 |tmp s=>
  have c:σ s=.tok u:=by
   unfold Oa at a;simp only at a;split at a
   ·cases a
   ·exact a
  simp[Kz,c,aD]at b
 |global g=>exact absurd a<|Uw.2.1 _
 |_=>cases a
def wi(ha:GI R σ τ)(hf:wx cns R W o σ)(h:Hb P tb cns o σ K):Hb P tb cns o τ (Loc W σ τ K):=by
 have⟨h1,h2,h3,h4,h5⟩:=QC hf.1;have h2':=h2;have hx:=h1;have hb:=u4 hf.2.1;have hub3:=hf.2.2;rw[Ab]at hub3;have hub:=hub3.1;have htk:=hub3.2;unfold Hb at *;split at h
 ·rename_i x d ho hd;rw[ho]at hx;have hcd:¬cns.contains d=true:=by have:=hf.1;simp only[YQ,ho,hd,Ab]at this;have:=this.2;simpa using this
  rw[AA hcd]at h⊢;have hns:=ae h.1<|h5.resolve_left<|by simp[simple,ho]
  exact⟨h.1,mj ha hf.1 hns (by simpa[V5,Op.operands]using hx) (by simpa[adU,ho]using hub) hd h.2⟩
 ·rename_i x d ho hd;split at h
  ·rename_i hc;rw[Az hc];have hns:=ae h.1<|h5.resolve_left<|by simp[simple,ho,hd];simpa using hc
   rw[ho]at hx;have hub':(Kz x).all (λp=>eP R<|σ p)=true:=by simp only[adU,ho,hd]at hub;rw[Az hc]at hub;exact hub
   exact⟨h.1,mj ha hf.1 hns (by simpa[V5,Op.operands]using hx) hub' hd h.2⟩
  ·rename_i hc;rw[AA hc];exact Yz ha hf h
 ·rename_i t x d ho hd;split at h
  ·rename_i hc;rw[Az hc];rw[ho]at hx hb;have hx':(Kz x).all R.contains=true:=by simpa[V5,Op.operands]using hx
   have hb':(Kz x).all (λp=>eP R<|σ p)=true:=hb;refine⟨h.1,?_⟩;have h2:=h.2;unfold Zb at *;rw[X9 ha hx'];split at h2
   ·rename_i dd s off ht hax
    have hm:cns.contains (1500000+d)=false:=by
     cases hcc:cns.contains (1500000+d)with
     |false=>rfl
     |true=>
      exfalso;simp only[adT,ho,hd,hcc,FB]at htk;cases x with
      |tmp p=>
       have:xe (σ p)=true:=by simpa[Kz]using htk
       cases hp:σ p<;>rw[hp]at this<;>first|cases this|skip
       simp only[Oa,hp]at hax;cases hax
      |global g=>exact Uw.1 s off hax
      |_=>cases hax
    have hns:=ae h.1<|h5.resolve_left<|by simp[simple,ho,hd];exact⟨by simpa using hc,by simpa using hm⟩
    have hs:=ha s<|Yc hb' hx' hax;rw[hs];split at h2
    ·refine⟨h2.1,?_⟩;refine ay (us:=[(d,_),(s,_)]) ha hf.1 hns (λq hq=>?_) (λd' hd'=>?_) h2.2
     ·simp only[AP,DE,AL,MW,or_false]at hq;rcases hq with rfl|rfl
      ·exact .inr hd
      ·exact .inl<|Yc hb' hx' hax
     ·rw[hd]at hd';injection hd' with hd';subst hd';simp
    ·exact h2
   ·exact⟨h2.1,Kv ha hf.1 hd h2.2⟩
   ·rename_i hax;have⟨q,g,off,e,n,m,cs,k0,hq,k1,k2,k3,k4⟩:=h2
    have hqR:R.contains q=true:=by
     rcases hq with rfl|rfl
     ·exact(tB hax hb').1
     ·exact(tB hax hb').2
    exact⟨q,g,off,e,n,m,cs,k0,hq,by rw[ha q hqR];exact k1,k2,k3,Kv ha hf.1 hd k4⟩
   ·exact h2
  ·rename_i hc;rw[AA hc];exact Yz ha hf h
 ·rename_i s i d ho hd;have hns:=ae h.1<|h5.resolve_left<|by simp[simple,ho]
  rw[ho]at hx;have hs:R.contains s=true:=by simpa[V5,Op.operands,Kz]using hx
  refine⟨h.1,?_⟩;have h2:=h.2;unfold mI at *;rw[ha s hs];split at h2
  ·split at h2
   ·refine⟨h2.1,ay (us:=[(d,_),(s,_)]) ha hf.1 hns (λq hq=>?_) (λd' hd'=>?_) h2.2⟩
    ·simp only[AP,DE,AL,MW,or_false]at hq;rcases hq with rfl|rfl
     ·exact .inr hd
     ·exact .inl hs
    ·rw[hd]at hd';injection hd' with hd';subst hd';simp
   ·exact h2
  ·exact h2
 ·rename_i t x y ho hd;have hns:=ae h.1<|h5.resolve_left<|by simp[simple,ho]
  rw[ho]at hx hb;have hxy:(Kz x).all R.contains=true∧(Kz y).all R.contains=true:=by simpa[V5,Op.operands,ED]using hx
  have hb':(Kz x).all (λp=>eP R<|σ p)=true:=hb;refine⟨h.1,?_⟩;have h2:=h.2;unfold lV at *;rw[X9 ha hxy.1,JV ha hxy.2];split at h2
  ·rename_i dd s off ht hax;have hsR:=Yc hb' hxy.1 hax;rw[ha s hsR];split at h2
   ·have⟨q1,q2,q3,q4⟩:=h2;refine⟨q1,q2,q3,?_⟩;have⟨us,e1,e2,e3⟩:=X2 σ y;rw[e3 τ (ZV ha hxy.2)];rw[e2]at q4;refine ay (us:=(s,_)::us) ha hf.1 hns (λq hq=>?_) (λd' hd'=>by rw[hd]at hd';cases hd') q4;simp only[AP,AL,e1]at hq;rcases hq with rfl|hq
    ·exact .inl hsR
    ·exact .inl<|Vb hxy.2 hq
   ·exact h2
  ·rename_i hax;have h9:=hf.2.1;unfold bm at h9;rw[Ab,Ab,ho]at h9;exact(AiG hax h9.2.2).elim
  ·exact h2
 ·rename_i t d ho hd;have hdR:R.contains d=true:=by have:=hf.1;simp only[YQ,ho,hd,Ab]at this;simpa using this.2
  refine⟨h.1,?_⟩;have h2:=h.2;unfold Zl at *;split at h2
  ·exact⟨by rw[ha d hdR];exact h2.1,Kv ha hf.1 hd h2.2⟩
  ·exact h2
 ·rename_i t x d ho hd;have:=hf.1;simp[YQ,ho]at this
 ·rename_i t ps d ho hd;have hW:=pd h1<|h5.resolve_left<|by simp[simple,ho]
  rw[ho]at hW;rw[ho]at hx;refine Ym ha hf hd (λh2=>?_) h;unfold Xg at *;split at h2
  ·split at h2
   ·rename_i σ' cs hfl;have⟨us,e1,e2,e3⟩:=fo _ _ _ _ _ _ hfl;have hp:=Yv (R:=R) (parts:=ps) (by simpa[V5,Op.operands]using hx);have hpW:=Yv (R:=W) (parts:=ps) (by simpa[V5,Op.operands]using hW);rw[e3 τ (λs hs=>ha s<|hp s<|by simpa using hs)];rw[e2]at h2;refine Yq (us:=(d,_)::us) ha hf.1 (λq hq=>?_) (λd' hd'=>?_) h2
    ·simp only[AP,AL]at hq;rcases hq with rfl|hq
     ·exact h3 _ hd
     ·exact hpW q<|e1 q hq
    ·rw[hd]at hd';injection hd' with hd';subst hd';simp
   ·exact h2.elim
  ·exact h2
 ·rename_i t n ps d ho hd;have hW:=pd h1<|h5.resolve_left<|by simp[simple,ho]
  rw[ho]at hW;rw[ho]at hx;refine Ym ha hf hd (λh2=>?_) h;unfold mo at *;split at h2
  ·split at h2
   ·rename_i σ' cs hfl;have⟨us,e1,e2,e3⟩:=fo _ _ _ _ _ _ hfl;have hp:=Yv (R:=R) (parts:=ps) (by simpa[V5,Op.operands]using hx);have hpW:=Yv (R:=W) (parts:=ps) (by simpa[V5,Op.operands]using hW);rw[e3 τ (λs hs=>ha s<|hp s<|by simpa using hs)];rw[e2]at h2;refine⟨h2.1,h2.2.1,Yq (us:=(d,_)::us) ha hf.1 (λq hq=>?_) (λd' hd'=>?_) h2.2.2⟩
    ·simp only[AP,AL]at hq;rcases hq with rfl|hq
     ·exact h3 _ hd
     ·exact hpW q<|e1 q hq
    ·rw[hd]at hd';injection hd' with hd';subst hd';simp
   ·exact h2.elim
  ·exact h2
 ·rename_i t x y d ho hd;rw[ho]at hx;have hxy:(Kz x).all R.contains=true∧(Kz y).all R.contains=true:=by simpa[V5,Op.operands,ED]using hx
  have hcd:¬cns.contains d=true:=by have:=hf.1;simp only[YQ,ho,hd,Ab]at this;have:=this.2;simpa using this
  rw[AA hcd]at h⊢;refine⟨h.1,?_⟩;have h2:=h.2;unfold fR at *;rw[JV ha hxy.1,JV ha hxy.2];split at h2
  ·exact⟨h2.1,h2.2.1,h2.2.2.1,Kv ha hf.1 hd h2.2.2.2⟩
  ·exact h2
 ·rename_i d c ho;rw[ho]at hx;have hargs:∀x∈c.args.toList,(Kz x).all R.contains=true:=λx hxm=>TB (g:=Kz) hx (by simp only[Op.operands,Call.operands];simp;exact .inr<|by simpa using hxm)
  unfold Xj at *;split at h
  ·rename_i x hcal;have hgo:fC c=true:=by unfold fC;rw[hcal]
   rw[JV ha (TB (g:=Kz) (x:=x) hx<|by simp only[Op.operands,Call.operands,hcal];simp)];split at h
   ·rename_i f hcv;unfold JW at *;split at h
    ·rename_i hc;rw[Az hc];have⟨d',hd',cs,q0,q1,q2,q3,q4⟩:=h;have hcc:cns.contains d'=true:=by rw[hd']at hc;simpa using hc
     have hdR:R.contains d'=true:=by
      have:=hf.1;simp only[YQ,ho,hd',hgo,Ab]at this;have:=this.2;have hm:d'∈cns:=by simpa using hcc
      simpa[hm]using this
     have e1:(c.args.toList.map λx=>erK<|CP τ x)=c.args.toList.map λx=>erK (CP σ x):=Bd λx hx=>by rw[JV ha (hargs x hx)]
     have e2:c.args.toList.all (λx=>(CP τ x).isArg)=true:=by rw[Aq]at q2⊢;exactλx hx=>by rw[JV ha (hargs x hx)];exact q2 x hx
     exact⟨d',hd',cs,q0,by rw[ha d' hdR];exact q1,e2,by rw[e1];exact q3,Kv ha hf.1 hd' q4⟩
    ·rename_i hc;rw[AA hc];have hadc:∀x xs,c.args.toList=x::xs->(Kz x).all (λp=>mn R W p<|σ p)=true:=λx xs e=>by have:=hf.2.1;unfold bm at this;rw[Ab,Ab]at this;simpa[adC,ho,hcal,e]using this.2.1
     rcases h with h|h|h
     ·exact .inl<|tT ha hf hargs h
     ·exact .inr<|.inl<|tS ha hf hargs hadc h
     ·have key:∀{d}{X:Prop},Z7 P d f c.args.toList σ K->X:=λh=>by
       rcases h with⟨s,xs,cs,cs',D,q2,q3,q4,_⟩|⟨zs,x,xs,ys,us,os,os',r,D,q1,q2,_⟩|⟨zs,x,s,n,n',e,cs,cs',r,q1,q2,q3,_⟩
       ·have h9:=hadc _ _ q2;simp only[Kz,BM,Fa,CX,q3,mn,q4,Gf]at h9;cases h9
       ·have h9:(c.args.toList.flatMap Kz).all (λp=>aD<|σ p)=true:=by have:=hf.2.1;unfold bm at this;rw[Ab,Ab]at this;have:=this.2.2;simp only[adS,ho,hcal,ED,Ab]at this;exact this.2
        cases us with
        |nil=>cases q2
        |cons u us=>
         simp only[AP,Dk]at q2;cases x with
         |tmp p=>have e:σ p=.tok u:=q2.1;have:=Aq.1 h9 p<|B6.2 ⟨.tmp p,by rw[q1];simp,by simp[Kz]⟩;rw[e]at this;cases this
         |const v=>have e:cV v=.tok u:=q2.1;unfold cV at e;split at e<;>first|(cases e;done)|(split at e<;>cases e)
         |global g=>cases q2.1
         |func g=>cases q2.1
       ·have h9:(c.args.toList.flatMap Kz).all (λp=>aD<|σ p)=true:=by have:=hf.2.1;unfold bm at this;rw[Ab,Ab]at this;have:=this.2.2;simp only[adS,ho,hcal,ED,Ab]at this;exact this.2
        cases x with
        |tmp p=>have e:σ p=.same s:=q2;have:=Aq.1 h9 p<|B6.2 ⟨.tmp p,by rw[q1];simp,by simp[Kz]⟩;rw[e]at this;cases this
        |const v=>have e:cV v=.same s:=q2;unfold cV at e;split at e<;>first|(cases e;done)|(split at e<;>cases e)
        |global g=>cases q2
        |func g=>cases q2
      refine .inr<|.inr ?_;unfold bF at *;split at h
      ·exact key h.2
      ·rename_i d' hd';exact Ym ha hf hd' key h
   ·rename_i u hcv;have h9:=hf.2.1;unfold bm at h9;rw[Ab,Ab]at h9;have h8:(Kz x).all (λp=>aD<|σ p)=true:=by have:=h9.2.2;simp only[adS,ho,hcal,ED,Ab]at this;exact this.1
    cases x with
    |tmp p=>have e:σ p=.tok u:=hcv;simp[Kz,e,aD]at h8
    |const v=>have e:cV v=.tok u:=hcv;unfold cV at e;split at e<;>first|(cases e;done)|(split at e<;>cases e)
    |global g=>cases hcv
    |func g=>cases hcv
   ·unfold XO at *;split at h
    ·rename_i d' q b hd hg;rw[ha q (h2' q b hg)];exact⟨h.1,h.2.1,h.2.2.1,Kv ha hf.1 hd h.2.2.2⟩
    ·exact h
  ·rename_i d' x y t t' hcal hd hargs' hts;have hW:=pd h1<|h5.resolve_left<|by simp[simple,ho,hcal]
   rw[ho]at hW;have hargsW:∀x∈c.args.toList,(Kz x).all W.contains=true:=λx hxm=>TB (g:=Kz) hW (by simp only[Op.operands,Call.operands];simp;exact .inr<|by simpa using hxm)
   have hxW:=hargsW x (by rw[hargs'];simp);have hyW:=hargsW y (by rw[hargs'];simp);have hx1:=hargs x (by rw[hargs'];simp);have hy1:=hargs y (by rw[hargs'];simp)
   have key:∀{σ τ:PS},GI R σ τ->US tb t t' x y d' σ K->US tb t t' x y d' τ (Loc W σ τ K):=by
    intro σ τ ha h2;unfold US at *;have⟨us,e1,e2,e3⟩:=X2 σ x
    have hag:GI R (DB σ x) (DB τ x):=by
     intro s hs;rw[e2,e3 τ (ZV ha hx1)];by_cases hk:s∈us.map (·.1)
     ·exact ew hk
     ·rw[RM hk,RM hk];exact ha s hs
    rw[JV ha hx1,JV hag hy1];split at h2
    ·have⟨q1,q2,q3,q4,q5⟩:=h2;refine⟨q1,q2,q3,q4,?_⟩;have⟨vs,f1,f2,f3⟩:=X2 (DB σ x) y;have k1:DB (DB σ x) y=S3 σ (vs++us):=by rw[f2,e2,ba]
     have k2:DB (DB τ x) y=S3 τ (vs++us):=by rw[f3 _ (ZV hag hy1),e3 τ (ZV ha hx1),ba]
     rw[k1]at q5;rw[k2];refine q5.imp (λq5=>?_)<|λq5=>⟨?_,q5.2⟩
     ·refine Yq (us:=(d',_)::(vs++us)) ha hf.1 (λq hq=>?_) (λd'' hd'=>?_) q5
      ·simp only[AP,Br,AL,Al,e1,f1]at hq;rcases hq with rfl|hq|hq
       ·exact h3 _ hd
       ·exact Vb hyW hq
       ·exact Vb hxW hq
      ·rw[hd]at hd';injection hd' with hd';subst hd';simp
     ·refine Yq (us:=(d',_)::(d',_)::(vs++us)) ha hf.1 (λq hq=>?_) (λd'' hd'=>?_) q5.1
      ·simp only[AP,Br,AL,Al,e1,f1]at hq;rcases hq with rfl|rfl|hq|hq
       ·exact h3 _ hd
       ·exact h3 _ hd
       ·exact Vb hyW hq
       ·exact Vb hxW hq
      ·rw[hd]at hd';injection hd' with hd';subst hd';simp
    ·exact h2
   refine Ym ha hf hd (λh=>?_) h;rcases h with h|⟨hg,s,u,e,n,cs,q1,q2,q3,q4⟩
   ·exact .inl<|key ha h
   ·right;subst q1;have hb9:=hf.2.2;rw[Ab]at hb9;have hb8:=hb9.1;simp only[adU,ho,hcal,hargs',Kz,BM,Fa,CX,q2,eP,Ab]at hb8;have hsR:R.contains s=true:=Vb hx1 (by simp[Kz]);have hsW:W.contains s=true:=Vb hxW (by simp[Kz])
    have hgW:W.contains gU=true:=by
     rcases h5.resolve_left (by simp[simple,ho,hcal]) gU hb8.2 with h|h
     ·exact h
     ·unfold gO gT at h;rw[Ab]at h;have h':=h.1;split at h'
      ·rename_i q b hq;have:gU=q:=by simpa using h'
       exact absurd hq (by rw[<-this];exact hg b)
      ·simp at h'
    have ha2:GI R (upd (upd σ s<|.own e n cs) gU .undef) (upd (upd τ s<|.own e n cs) gU .undef):=λq hq=>by
     by_cases k1:q=gU
     ·subst k1;rw[upd_same,upd_same]
     ·rw[upd_ne _ _ k1,upd_ne _ _ k1];by_cases k2:q=s
      ·subst k2;rw[upd_same,upd_same]
      ·rw[upd_ne _ _ k2,upd_ne _ _ k2];exact ha q hq
    refine⟨hg,s,u,e,n,cs,rfl,by rw[ha s hsR];exact q2,by rw[ha gU hb8.2];exact q3,bq (λτ' ⟨σ',k1,k2,k3⟩=>⟨σ',k1,?_,λq hq=>?_⟩)<|key ha2 q4⟩
    ·rw[k2];funext q;unfold pt;split
     ·rfl
     ·rename_i hq;rw[upd_ne _ _ (λe=>hq<|by rw[e];exact hgW),upd_ne _ _ (λe=>hq<|by rw[e];exact hsW)]
    ·rw[k3 q hq,upd_ne _ _ (λe=>by rw[e,hgW]at hq;cases hq),upd_ne _ _ (λe=>by rw[e,hsW]at hq;cases hq)]
  ·exact Yz ha hf h
 ·rename_i t x f d ho hd;rw[ho]at hx;refine Ym ha hf hd (λh2=>?_) h;unfold pb at *;rw[JV ha (by simpa[V5,Op.operands]using hx)];split at h2
  ·split at h2
   ·exact Kv ha hf.1 hd h2
   ·exact h2
  ·exact h2
 ·rename_i f fs caps d ho hd;have:=hf.1;simp[YQ,ho]at this
 ·exact Yz ha hf h
end
def ptS(a:zN):zN:=(a.filter<|λc=>Nat.ble 2000000 c).map<|λc=>c - 2000000
def vI:V->Bool
 |.box _=>true
 |_=>false
def bxS(a:zN)(σ:PS):Bool:=(ptS a).all<|λp=>vI<|σ p
def spc(cns:zN)(o:LO):Bool:=match o.op,o.dst,o.g with
 |.move (.tmp p),some d,none=> !cns.contains d&&(ptS cns).contains p
 |_,_,_=>false
def fpX(a R W:zN)(o:LO):Bool:=spc a o&&((o.dst.toList).all W.contains&&W.all (λs=>o.dst==some s))
def fpB(a R W:zN)(o:LO):Bool:=YQ a R W o || fpX a R W o
def adB(a R:zN)(o:LO)(σ:PS):Bool:=((adU a o).all (λp=>eP R<|σ p)&&(adT a o).all (λp=>xe<|σ p))&&bxS a σ
def fpS(a R W:zN)(o:LO)(σ:PS):Prop:=fpB a R W o=true∧bm R W o.op σ=true∧adB a R o σ=true
def kF{P tb cns R W σ τ o K}(ha:GI R σ τ)(hτ:bxS cns τ=true)(hf:fpS cns R W o σ)(h:Hb P tb cns o σ K):Hb P tb cns o τ (Loc W σ τ K):=by
 have⟨h1,h2,h3⟩:=hf;unfold adB at h3;rw[Ab]at h3;unfold fpB at h1;rw[BZ]at h1;rcases h1 with h1|h1
 ·exact wi ha ⟨h1,h2,h3.1⟩ h
 ·unfold fpX at h1;rw[Ab,Ab]at h1;have⟨hs,hw1,hw2⟩:=h1;have⟨dst,op,ty,g⟩:=o;unfold spc at hs;split at hs
  ·rename_i p d e1 e2 e3;simp only at e1 e2 e3;subst e1 e2 e3;rw[Ab,At]at hs;have hp:=Ag.1 hs.2;have hσ:vI (σ p)=true:=Aq.1 h3.2 p hp;have ht:vI (τ p)=true:=Aq.1 hτ p hp;simp only[Hb]at h⊢;rw[AA (by rw[hs.1];simp)]at h⊢;cases hσp:σ p<;>rw[hσp]at hσ<;>first|cases hσ|skip
   cases hτp:τ p<;>rw[hτp]at ht<;>first|cases ht|skip
   simp only[ME,pc,pv,mvV,mvC,hσp,hτp]at h⊢;refine⟨trivial,upd σ d<|.cref p 0,h.2,?_,λq hq=>?_⟩
   ·funext q;unfold pt;by_cases hqd:q=d
    ·subst hqd;have hwq:W.contains q=true:=by simpa using hw1
     rw[Az hwq,upd_same,upd_same]
    ·rw[upd_ne _ _ hqd,upd_ne _ _ hqd];rw[AA];intro hwq;have:=Aq.1 hw2 q<|Ag.1 hwq;simp only[Bv,Av]at this;exact hqd this.symm
   ·have hqd:q≠d:=λe=>by subst e;simp only[OA,BM,Fa,CX]at hw1;rw[hw1]at hq;cases hq
    rw[upd_ne _ _ hqd]
  ·cases hs
end
end Go.Proofs.YtdmpnamllcigdaaGreatDoor
