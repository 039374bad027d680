/- A machine on data, part 2a: code and its rules. Over no program; no conditions. -/
import Derived.Test.YtdnlfoelbfcmnaaGreatDoorKa
open Go.RowKit
set_option linter.all false
namespace Go.Proofs.YtdnlfoelbfcmnaaGreatDoor
section
def QQ(w:World)(b:Nat->Nat->Prop):List V->List Value->Prop
 |[],us=>us=[]
 |c::cs,us=>∃u a,us=u::a∧fZ w b c u∧QQ w b cs a
def QQ.mono{w w' St St'}(f:∀b o,St b o->St' b o)(g:Ext St w w'):∀{a:List V}{vs:List Value},QQ w St a vs->QQ w' St' a vs
 |[],_,h=>h
 |c::a,_,⟨u,d,e,i,j⟩=>⟨u,d,e,i.mono f g,QQ.mono f g j⟩
mutual
def flt:V->Bool
 |.int _ _=>true
 |.bool _=>true
 |.agg cs=>af cs
 |.tup cs=>af cs
 |_=>false
def af:List V->Bool
 |[]=>true
 |c::cs=>flt c&&af cs
end
section
variable {P:Program}{w w':World}{St St':Nat->Nat->Prop}
mutual
def o9:∀(c:V) {v:Value}{bs:zN},flt c=true->Ow P w St c v bs->bs=[]∧Ow P w' St' c v []
 |.int _ _,_,_,_,h=>⟨h.1,rfl,h.2⟩
 |.bool _,_,_,_,h=>⟨h.1,rfl,h.2⟩
 |.agg cs,_,_,a,⟨us,e,h⟩=>⟨(Xl cs a h).1,us,e,(Xl cs a h).2⟩
 |.tup cs,_,_,a,⟨us,e,h⟩=>⟨(ku cs a h).1,us,e,(ku cs a h).2⟩
 |.str _,_,_,a,_=>by cases a
 |.dat _ _,_,_,a,_=>by cases a
 |.arg _ _,_,_,a,_=>by cases a
 |.pin _ _ _,_,_,a,_=>by cases a
 |.own _ _ _,_,_,a,_=>by cases a
 |.fn _,_,_,a,_=>by cases a
 |.tok _,_,_,a,_=>by cases a
 |.box _,_,_,a,_=>by cases a
 |.cref _ _,_,_,a,_=>by cases a
 |.adr _ _,_,_,a,_=>by cases a
 |.undef,_,_,a,_=>by cases a
 |.uni _ _ _,_,_,a,_=>by cases a
 |.same _,_,_,a,_=>by cases a
 |.gh _ _,_,_,a,_=>by cases a
 |.val _ _,_,_,a,_=>by cases a
def Xl:∀(cs:List V) {us:List Value}{bs:zN},af cs=true->Bn P w St cs us bs->bs=[]∧Bn P w' St' cs us []
 |[],_,_,_,h=>⟨h.2,h.1,rfl⟩
 |c::cs,_,_,d,⟨u,b,b1,b2,e,f,g,i,j⟩=>by
  have a:flt c=true∧af cs=true:=by simpa[af]using d
  have⟨k,l⟩:=o9 c a.1 i;have⟨m,n⟩:=Xl cs a.2 j;exact⟨by rw[f,k,m];rfl,u,b,[],[],e,rfl,g,l,n⟩
def ku:∀(cs:List V) {us:List Value}{bs:zN},af cs=true->LK P w St cs us bs->bs=[]∧LK P w' St' cs us []
 |[],_,_,_,h=>⟨h.2,h.1,rfl⟩
 |c::cs,_,_,d,⟨u,b,b1,b2,e,f,g,i⟩=>by
  have a:flt c=true∧af cs=true:=by simpa[af]using d
  have⟨j,k⟩:=o9 c a.1 g;have⟨l,m⟩:=ku cs a.2 i;exact⟨by rw[f,j,l];rfl,u,b,[],[],e,rfl,k,m⟩
end
end
def Ret(P:Program)(w:World)(a:Nat->Nat->Prop)(r:V)(e:Ending)(w':World):Prop:=
 ∃v bs St',e=.returned v∧Below w.heap.size w w'∧(∀b o,b < w.heap.size->(St' b o↔a b o))∧(∀b o,St' b o->b < w'.heap.size)∧Ow P w' St' r v bs∧bs.Nodup∧∀g∈bs,w.heap.size<=g∧g < w'.heap.size
def Pj:V->Bool
 |.int .. |.bool .. |.str .. |.dat .. |.arg .. |.fn .. |.tok .. =>true
 |_=>false
def Te:V->Bool
 |.agg cs=>cs.all Pj
 |c=>Pj c
def iU{P w St}:∀{cs:List V}{us:List Value}{bs:zN},cs.all Pj=true->Bn P w St cs us bs->bs=[]
 |[],_,_,_,h=>h.2
 |c::cs,_,_,a,⟨u,b,b1,b2,i,d,j,e,f⟩=>by
  simp only[By,Aa]at a;have g:b1=[]:=by cases c<;>first|exact e.1|(exfalso;exact absurd a.1<|by simp[Pj])
  rw[d,g,iU a.2 f];rfl
def Aj8(P:Program)(w:World)(c:Nat->Nat->Prop)(g:Nat)(cs':List V)(r:V)(e:Ending)(w':World):Prop:=
 ∃v bs St' T,∃a:Array Value,e=.returned v∧BelowK (λb=>b < w.heap.size∧b≠g) w w'∧(∀b o,b < w.heap.size->(St' b o↔c b o))∧(∀b o,St' b o->b < w'.heap.size)∧
  w'.heap[g]? =some (.cells a T (0,0))∧Bn P w' St' cs' a.toList []∧Ow P w' St' r v bs∧bs.Nodup∧∀k∈bs,w.heap.size<=k∧k < w'.heap.size
def MT(P:Program)(f:FuncId):Prop:=∃fn,P.funcs[f]? =some fn∧fn.body.isNone=false∧(fn.name== "runtime.NumGoroutine")=false
def LQ(P:Program)(f:FuncId)(a:List V)(r:V):Prop:=
 MT P f∧∀w c (vs:List Value),(∀b o,c b o->b < w.heap.size)->Glb w c->QQ w c a vs->Calls P f vs.toArray w (Ret P w c r)
def AaV(P:Program)(f:FuncId)(cs c cs':List V)(r:V):Prop:=
 MT P f∧∀w a (g:Nat) T (d:Array Value) (vs:List Value),(∀b o,a b o->b < w.heap.size)->Glb w a->w.heap[g]? =some (.cells d T (0,0))->Bn P w a cs d.toList []->(∀o,¬a g o)->QQ w a c vs->
  Calls P f (Value.pointer (some ⟨g,0,none⟩)::vs).toArray w (Aj8 P w a g cs' r)
def Aj7(P:Program)(w:World)(c:Nat->Nat->Prop)(g:Nat)(bs0:zN)(cs':List V)(e:Ending)(w':World):Prop:=
 ∃v bs St' T,∃a:Array Value,e=.returned v∧BelowK (λb=>b < w.heap.size∧b∉g::bs0) w w'∧(∀b o,b < w.heap.size->b∉bs0->(St' b o↔c b o))∧(∀b o,St' b o->b < w'.heap.size)∧
  w'.heap[g]? =some (.cells a T (0,0))∧Bn P w' St' cs' a.toList bs∧Ow P w' St' (.tup []) v []∧(g::bs).Nodup∧∀k∈bs,(k∈bs0∨w.heap.size<=k)∧k < w'.heap.size
def Agz(P:Program)(f:FuncId)(cs c cs':List V):Prop:=
 MT P f∧∀w a (g:Nat) T (d:Array Value) (bs0:zN) (vs:List Value),(∀b o,a b o->b < w.heap.size)->Glb w a->w.heap[g]? =some (.cells d T (0,0))->Bn P w a cs d.toList bs0->(g::bs0).Nodup->(∀k∈bs0,k < w.heap.size)->(∀o,¬a g o)->QQ w (λb o=>a b o∧b∉bs0) c vs->
  Calls P f (Value.pointer (some ⟨g,0,none⟩)::vs).toArray w (Aj7 P w a g bs0 cs')
def AgA(P:Program)(w:World)(c:Nat->Nat->Prop)(us:List Value)(bs0:zN)(a:List V)(r:V)(e:Ending)(w':World):Prop:=
 ∃v bs St',e=.returned v∧BelowK (λb=>b < w.heap.size∧b∉bs0) w w'∧(∀b o,b < w.heap.size->b∉bs0->(St' b o↔c b o))∧(∀b o,St' b o->b < w'.heap.size)∧
  Bn P w' St' a us bs∧Ow P w' St' r v []∧bs.Nodup∧∀k∈bs,(k∈bs0∨w.heap.size<=k)∧k < w'.heap.size
def UY(P:Program)(f:FuncId)(g os c e:List V)(r:V):Prop:=
 MT P f∧∀w a (us:List Value) (bs0:zN) (d vs:List Value),(∀b o,a b o->b < w.heap.size)->Glb w a->Bn P w a os us bs0->bs0.Nodup->(∀k∈bs0,k < w.heap.size)->QQ w (λb o=>a b o∧b∉bs0) g d->QQ w (λb o=>a b o∧b∉bs0) c vs->
  Calls P f (d++(us++vs)).toArray w (AgA P w a us bs0 e r)
def NewAt(P:Program)(f:FuncId)(a cs:List V):Prop:=
 MT P f∧∀w d (vs:List Value),(∀b o,d b o->b < w.heap.size)->Glb w d->QQ w d a vs->Calls P f vs.toArray w λe w'=>
  ∃g T St',∃c:Array Value,e=.returned (.pointer<|some ⟨g,0,none⟩)∧Below w.heap.size w w'∧(∀b o,b < w.heap.size->(St' b o↔d b o))∧(∀b o,St' b o->b < w'.heap.size)∧
   w'.heap[g]? =some (.cells c T (0,0))∧Bn P w' St' cs c.toList []∧(∀o,¬St' g o)∧w.heap.size<=g∧g < w'.heap.size
section
variable {P:Program}{nt:Nat}{base:Bs}{bx:zN}{St St' St0:Nat->Nat->Prop}{B:Nat->zN}{hand:zN}{σ σ':PS}{a:Act}{w w' w0:World}{K:PS->Prop}{Q:Exit->Act->World->Prop}{o:Oper}
def YG(h:HSim P nt bx base St B hand σ a w):∀(xs:List Operand),xs.all (λx=>(CC σ x).isArg)=true->QQ w St (xs.map λx=>er<|CC σ x) (xs.map a.eval)
 |[],_=>rfl
 |x::xs,c=>by simp only[By,Aa]at c;have⟨b,d⟩:=NA h x;exact⟨a.eval x,xs.map a.eval,rfl,((d.ow<|Mj c.1).rda c.1).erase,YG h xs c.2⟩
def erK:V->V
 |.arg n cs=>.arg n cs
 |c=>er c
def da(h:HSim P nt bx base St B hand σ a w):∀(xs:List Operand),xs.all (λx=>(CC σ x).isArg)=true->QQ w St (xs.map λx=>erK<|CC σ x) (xs.map a.eval)
 |[],_=>rfl
 |x::xs,d=>by
  simp only[By,Aa]at d;have⟨b,f⟩:=NA h x;have e:=(f.ow<|Mj d.1).rda d.1;have g:fZ w St (erK<|CC σ x) (a.eval x):=by generalize CC σ x=c at e;cases c<;>first|exact e|exact e.erase
  exact⟨a.eval x,xs.map a.eval,rfl,g,da h xs d.2⟩
def lu(h:HSim P nt bx base St B hand σ a w):∀(xs:List Operand),xs.all (λx=>(CC σ x).isArg)=true->QQ w St (xs.map λx=>CC σ x) (xs.map a.eval)
 |[],_=>rfl
 |x::xs,c=>by simp only[By,Aa]at c;have⟨b,d⟩:=NA h x;exact⟨a.eval x,xs.map a.eval,rfl,(d.ow<|Mj c.1).rda c.1,lu h xs c.2⟩
def lp(P:Program)(σ:PS)(f:FuncId)(b:List Operand)(r:V):Prop:=LQ P f (b.map λx=>er<|CC σ x) r∨LQ P f (b.map λx=>erK<|CC σ x) r∨LQ P f (b.map λx=>CC σ x) r
def Vy(σ:PS)(d:Option Tmp)(r:V):PS:=match d with
 |some d=>upd σ d r
 |none=>σ
def mV{f cal args ts r}(hcv:CC σ cal=.fn f)(hop:o.op=.call {callee:=.value cal,args:=args,argTypes:=ts})(hargs:args.toList.all (λx=>(CC σ x).isArg)=true)
  (hs:lp P σ f args.toList r) (hd:∀d,o.dst=some d->d < nt∧d∉bx) (hk:K (Vy σ o.dst r)):V5 P nt bx base St0 w0 o σ K:=by
 rintro a w Q ⟨St,B,h,hb,hst,hz⟩;have hs':MT P f∧Calls P f (args.toList.map a.eval).toArray w (Ret P w St r):=hs.elim (λh1=>⟨h1.1,h1.2 w St _ h.st h.gl<|YG h _ hargs⟩)<|λh0=>h0.elim (λh1=>⟨h1.1,h1.2 w St _ h.st h.gl<|da h _ hargs⟩)<|λh1=>⟨h1.1,h1.2 w St _ h.st h.gl<|lu h _ hargs⟩
 have⟨⟨fn,hf,hbody,hname⟩,hcall⟩:=hs'
 have hr:(execOp a.eval o).run P w=.ok (.enter f (args.toList.map a.eval).toArray) w:=by
  have e1:(args.toList.map a.eval).toArray=args.map a.eval:=by rw[<-JG,DC]
  have e2:a.eval cal=.func (.func f) #[] #[]:=by have⟨b,hs⟩:=NA h cal;rw[hcv]at hs;exact hs.2
  rw[e1];simp only[execOp,hop,resolve,e2,Deferred.ofValue,A8,BA,AU,invoke,callFunc,Lv,Kr,H6,hf,hbody,hname];simp
 unfold Oper.wp;rw[hr,D8];refine hcall.mono ?_;rintro e w1 ⟨v,bs,St1,rfl,h1,h2,h3,h4,h5,h6⟩;refine⟨_,hk,?_⟩;have g1:=h.grow (w':=w1) (St':=St1) h1 h2 h3;have g2:=g1.fresh (bs:=bs) h5 (λg hg=>⟨λh'=>by have:=hz g h';have:=(h6 g hg).1;omega,(h6 g hg).2⟩) (λs g hg hm=>by have:=(h.range s g hg).2;have:=(h6 g hm).1;omega) (by simp);have hst1:∀b o',base b->(St1 b o'↔St0 b o'):=λb o' hlt=>(h2 b o'<|hz b hlt).trans<|hst b o' hlt
 cases hdst:o.dst with
 |none=>exact⟨St1,B,g2.less AP (by simp),hb.below h1 hz,hst1,SZ hz h1.size⟩
 |some d=>have⟨hd1,hd2⟩:=hd d hdst;exact⟨St1,upd B d bs,g2.put hd1 hd2 h4.slot h5 (by simp) h4.DS.1 h4.RN,hb.below h1 hz,hst1,SZ hz h1.size⟩
def HSim.Akk(h:HSim P nt bx base St B hand σ a w){s g:Nat}{cs cs':List V}(hs:σ s=.box cs)(hB:B s=[g])(hng:∀o,¬St g o)(hb:BelowK (λb=>b < w.heap.size∧b≠g) w w')
  (hst:∀b o,b < w.heap.size->(St' b o↔St b o)) (hst':∀b o,St' b o->b < w'.heap.size) (hc:Cr P w' St' (tm a) (.box cs') (tm a s) [g]):HSim P nt bx base St' B hand (upd σ s<|.box cs') a w':=
 have hbox:∀b,(∃cs,C6 (σ b)=some cs)->∃cs'',C6 (upd σ s (.box cs') b)=some cs'':=λb ⟨cs,e⟩=>by
  by_cases eb:b=s
  ·subst eb;exact⟨cs',by rw[upd_same];rfl⟩
  ·exact⟨cs,by rw[upd_ne _ _ eb];exact e⟩
 {h with
  slot:=λq=>by
   by_cases e:q=s
   ·subst e;rw[upd_same,hB];exact hc
   ·rw[upd_ne _ _ e];refine(h.slot q).mono (λb o hs=>(hst b o<|h.st b o hs).2 hs) (λb o hs=>?_) (λk hk=>⟨hb.block k ⟨(h.range q k hk).2,λek=>?_⟩,λo=>hst k o (h.range q k hk).2⟩)<|λ_ _=>rfl
    ·exact B6<|hb.block b ⟨h.st b o hs,λeb=>hng o<|eb ▸ hs⟩
    ·subst ek;exact h.apart q s e k hk (by rw[hB];simp)
  boxes:=λq cs e=>by
   by_cases eq:q=s
   ·subst eq;exact h.boxes _ _ (by rw[hs];rfl)
   ·rw[upd_ne _ _ eq]at e;exact h.boxes q cs e
  crefs:=λq b e=>by
   by_cases eq:q=s
   ·subst eq;rw[upd_same]at e;cases e
   ·rw[upd_ne _ _ eq]at e;exact hbox b<|h.crefs q b e
  range:=λq k hk=>⟨(h.range q k hk).1,Bz (h.range q k hk).2 hb.size⟩
  hrange:=λk hk=>⟨(h.hrange k hk).1,Bz (h.hrange k hk).2 hb.size⟩
  st:=hst'
  gl:=h.gl.of (λb hg o=>(hst b o (h.st b o (hg o))).2 (hg o)) (λb o hg=>B6 (hb.block b ⟨h.st b o (hg o),λeb=>hng o (eb ▸ hg o)⟩))}
def YS(h:HSim P nt bx base St B hand σ a w){f:FuncId}{c:Operand}(d:CC σ c=.fn f):a.eval c=.func (.func f) #[] #[]:=by have⟨b,e⟩:=NA h c;rw[d]at e;exact e.2
def UD{f cal args ts}(d:o.op=.call {callee:=.value cal,args:=args,argTypes:=ts})(e:a.eval cal=.func (.func f) #[] #[])(g:MT P f):(execOp a.eval o).run P w=.ok (.enter f (args.toList.map a.eval).toArray) w:=by
 have⟨j,h,b,c⟩:=g;have i:(args.toList.map a.eval).toArray=args.map a.eval:=by rw[<-JG,DC]
 rw[i];simp only[execOp,d,resolve,e,Deferred.ofValue,A8,BA,AU,invoke,callFunc,Lv,Kr,H6,h,b,c];simp
def sS{f cal args ts x xs s cs cs' r}(D:CC σ cal=.fn f)(F:o.op=.call {callee:=.value cal,args:=args,argTypes:=ts})(he:args.toList=x::xs)(H:Nh σ x=.cref s 0)(I:σ s=.box cs)(J:cs.all Pj=true)
  (m:xs.all (λx=>(CC σ x).isArg)=true) (hp:AaV P f cs (xs.map λx=>er<|CC σ x) cs' r) (hd:∀d,o.dst=some d->d < nt∧d∉bx) (c:K (Vy (upd σ s<|.box cs') o.dst r)):V5 P nt bx base St0 w0 o σ K:=by
 rintro a w Q ⟨St,B,h,hb,L,p⟩;have⟨g,T,bs',M,q1,N,q3,q4,q5,O⟩:=SE h H (cs:=cs) (by rw[I];rfl);have t:=iU J q4;subst t;have n:=hp.2 w St g T M (xs.map a.eval) h.st h.gl q3 q4 O<|YG h _ m;have hr:=UD (P:=P) (a:=a) (w:=w) F (YS h D) hp.1;rw[he,AM,q1]at hr;unfold Oper.wp;rw[hr,D8];refine n.mono ?_;rintro e w1 ⟨v,bs,St1,T1,u,rfl,i,R,h3,h4,h5,S,h7,U⟩;refine⟨_,c,?_⟩;have y:=h.range s g (by rw[q5];simp);have W:tm a s=.pointer (some ⟨g,0,none⟩):=by have:=h.slot s;rw[I]at this;have⟨g',_,_,_,e1,_⟩:=this;rw[e1]at N;simp only[bh,Ar]at N;rw[e1,N]
 have X:∀o,¬St1 g o:=λo ho=>O o<|(R g o y.2).1 ho
 have g1:=h.Akk (w':=w1) (St':=St1) (cs':=cs') I q5 O i R h3 ⟨g,T1,[],u,W,h4,h5,rfl,X⟩;have g2:=g1.fresh (bs:=bs) h7 (λk c=>⟨λh'=>by have:=p k h';have:=(U k c).1;omega,(U k c).2⟩) (λq k c hm=>by have:=(h.range q k c).2;have:=(U k hm).1;omega) (by simp);have j:BelowK base.K w0 w1:=hb.trans ⟨i.os,i.tape,i.output,i.size,λk c=>i.block k ⟨p k c,λe=>y.1<|e ▸ c⟩⟩;have l:∀b z,base b->(St1 b z↔St0 b z):=λb z A=>(R b z<|p b A).trans<|L b z A
 cases C:o.dst with
 |none=>exact⟨St1,B,g2.less AP (by simp),j,l,SZ p i.size⟩
 |some d=>have⟨Y,Z⟩:=hd d C;exact⟨St1,upd B d bs,g2.put Y Z S.slot h7 (by simp) S.DS.1 S.RN,j,l,SZ p i.size⟩
def HSim.Acu(h:HSim P nt bx base St B [] σ a w){s g:Nat}{bs0 bs:zN}{cs cs':List V}(hs:σ s=.box cs)(hB:B s=g::bs0)(hng:∀o,¬St g o)(hd:∀k∈bs0,∃o,¬St k o)(hb:BelowK (λb=>b < w.heap.size∧b∉g::bs0) w w')
  (hst:∀b o,b < w.heap.size->b∉bs0->(St' b o↔St b o)) (hst':∀b o,St' b o->b < w'.heap.size) (hsafe:∀q,q≠s->KT (σ q)=true) (hn:(g::bs).Nodup) (hbs:∀k∈bs,(k∈bs0∨w.heap.size<=k)∧k < w'.heap.size) (hz:∀b,base b->b < w.heap.size)
  (hc:Cr P w' St' (tm a) (.box cs') (tm a s) (g::bs)):HSim P nt bx base St' (upd B s<|g::bs) [] (upd σ s<|.box cs') a w':=
 have hbox:∀b,(∃cs,C6 (σ b)=some cs)->∃cs'',C6 (upd σ s (.box cs') b)=some cs'':=λb ⟨cs,e⟩=>by
  by_cases eb:b=s
  ·subst eb;exact⟨cs',by rw[upd_same];rfl⟩
  ·exact⟨cs,by rw[upd_ne _ _ eb];exact e⟩
 have hf:FrB (g::bs0) w w':=⟨hb.os,hb.tape,hb.output,hb.size,λk hk hn=>hb.block k ⟨hk,hn⟩⟩;have hoff:∀q,q≠s->∀k∈B q,k∉g::bs0:=λq e k hk hm=>h.apart q s e k hk (by rw[hB];exact hm)
 have hin:∀q,q≠s->∀k∈B q,k∉g::bs:=λq e k hk hm=>by
  rcases AE.1 hm with rfl|hm
  ·exact hoff q e k hk BH
  ·rcases(hbs k hm).1 with h1|h1
   ·exact hoff q e k hk<|A3 _ h1
   ·have:=(h.range q k hk).2;omega
 {h with
  slot:=λq=>by
   by_cases e:q=s
   ·subst e;rw[upd_same,upd_same];exact hc
   ·rw[upd_ne _ _ e,upd_ne _ _ e];refine SB hf (λk hk=>?_) h.st (λk o hk hs=>(hst k o (h.st k o hs)<|λhm=>hk<|A3 _ hm).2 hs) (hsafe q e) (h.slot q)<|λk hk=>⟨hb.block k ⟨(h.range q k hk).2,hoff q e k hk⟩,λo=>hst k o (h.range q k hk).2<|λhm=>hoff q e k hk<|A3 _ hm⟩
    rcases AE.1 hk with rfl|hk
    ·exact⟨0,hng 0⟩
    ·exact hd k hk
  boxes:=λq cs e=>by
   by_cases eq:q=s
   ·subst eq;exact h.boxes _ _ (by rw[hs];rfl)
   ·rw[upd_ne _ _ eq]at e;exact h.boxes q cs e
  crefs:=λq b e=>by
   by_cases eq:q=s
   ·subst eq;rw[upd_same]at e;cases e
   ·rw[upd_ne _ _ eq]at e;exact hbox b<|h.crefs q b e
  nodup:=λq=>by
   by_cases e:q=s
   ·subst e;rw[upd_same];exact hn
   ·rw[upd_ne _ _ e];exact h.nodup q
  apart:=λq r hqr k hk hk'=>by
   by_cases e:q=s
   ·subst e;rw[upd_same]at hk;rw[upd_ne _ _ (Ne.symm hqr)]at hk';exact hin r (Ne.symm hqr) k hk' hk
   ·rw[upd_ne _ _ e]at hk;by_cases e':r=s
    ·subst e';rw[upd_same]at hk';exact hin q e k hk hk'
    ·rw[upd_ne _ _ e']at hk';exact h.apart q r hqr k hk hk'
  hnodup:=AP
  hapart:=λ_ _ _=>by simp
  range:=λq k hk=>by
   by_cases e:q=s
   ·subst e;rw[upd_same]at hk;rcases AE.1 hk with rfl|hk
    ·have:=h.range q k (by rw[hB];simp);exact⟨this.1,Bz this.2 hb.size⟩
    ·refine⟨?_,(hbs k hk).2⟩;rcases(hbs k hk).1 with h1|h1
     ·exact(h.range q k<|by rw[hB];exact A3 _ h1).1
     ·exactλhbk=>by have:=hz k hbk;omega
   ·rw[upd_ne _ _ e]at hk;exact⟨(h.range q k hk).1,Bz (h.range q k hk).2 hb.size⟩
  hrange:=by simp
  st:=hst'
  gl:=h.gl.of (λb hg o=>(hst b o (h.st b o (hg o)) λhm=>(hd b hm).elim λo' ho=>ho (hg o')).2 (hg o)) (λb o hg=>B6 (hb.block b ⟨h.st b o (hg o),λhm=>(AE.1 hm).elim (λeb=>hng o (eb ▸ hg o)) (λhm=>(hd b hm).elim λo' ho=>ho (hg o'))⟩))}
def HSim.lend(h:HSim P nt bx base St B [] σ a w){s:Nat}{bs0 bs:zN}{c':V}(hx:C6 (σ s)=none)(hx':C6 c'=none)(hrf:D3 c'=none)(hB:B s=bs0)(hd:∀k∈bs0,∃o,¬St k o)(hb:BelowK (λb=>b < w.heap.size∧b∉bs0) w w')
  (hst:∀b o,b < w.heap.size->b∉bs0->(St' b o↔St b o)) (hst':∀b o,St' b o->b < w'.heap.size) (hsafe:∀q,q≠s->KT (σ q)=true) (hn:bs.Nodup) (hbs:∀k∈bs,(k∈bs0∨w.heap.size<=k)∧k < w'.heap.size) (hz:∀b,base b->b < w.heap.size)
  (hc:Cr P w' St' (tm a) c' (tm a s) bs):HSim P nt bx base St' (upd B s bs) [] (upd σ s c') a w':=
 have hbox:∀b,(∃cs,C6 (σ b)=some cs)->∃cs'',C6 (upd σ s c' b)=some cs'':=λb ⟨cs,e⟩=>by
  by_cases eb:b=s
  ·subst eb;rw[hx]at e;cases e
  ·exact⟨cs,by rw[upd_ne _ _ eb];exact e⟩
 have hf:FrB bs0 w w':=⟨hb.os,hb.tape,hb.output,hb.size,λk hk hn=>hb.block k ⟨hk,hn⟩⟩;have hoff:∀q,q≠s->∀k∈B q,k∉bs0:=λq e k hk hm=>h.apart q s e k hk (by rw[hB];exact hm)
 have hin:∀q,q≠s->∀k∈B q,k∉bs:=λq e k hk hm=>by
  rcases(hbs k hm).1 with h1|h1
  ·exact hoff q e k hk h1
  ·have:=(h.range q k hk).2;omega
 {h with
  slot:=λq=>by
   by_cases e:q=s
   ·subst e;rw[upd_same,upd_same];exact hc
   ·rw[upd_ne _ _ e,upd_ne _ _ e];exact SB hf hd h.st (λk o hk hs=>(hst k o (h.st k o hs) hk).2 hs) (hsafe q e) (h.slot q)<|λk hk=>⟨hb.block k ⟨(h.range q k hk).2,hoff q e k hk⟩,λo=>hst k o (h.range q k hk).2<|hoff q e k hk⟩
  boxes:=λq cs e=>by
   by_cases eq:q=s
   ·subst eq;rw[upd_same,hx']at e;cases e
   ·rw[upd_ne _ _ eq]at e;exact h.boxes q cs e
  crefs:=λq b e=>by
   by_cases eq:q=s
   ·subst eq;rw[upd_same,hrf]at e;cases e
   ·rw[upd_ne _ _ eq]at e;exact hbox b<|h.crefs q b e
  nodup:=λq=>by
   by_cases e:q=s
   ·subst e;rw[upd_same];exact hn
   ·rw[upd_ne _ _ e];exact h.nodup q
  apart:=λq r hqr k hk hk'=>by
   by_cases e:q=s
   ·subst e;rw[upd_same]at hk;rw[upd_ne _ _ (Ne.symm hqr)]at hk';exact hin r (Ne.symm hqr) k hk' hk
   ·rw[upd_ne _ _ e]at hk;by_cases e':r=s
    ·subst e';rw[upd_same]at hk';exact hin q e k hk hk'
    ·rw[upd_ne _ _ e']at hk';exact h.apart q r hqr k hk hk'
  hnodup:=AP
  hapart:=λ_ _ _=>by simp
  range:=λq k hk=>by
   by_cases e:q=s
   ·subst e;rw[upd_same]at hk;refine⟨?_,(hbs k hk).2⟩;rcases(hbs k hk).1 with h1|h1
    ·exact(h.range q k<|by rw[hB];exact h1).1
    ·exactλhbk=>by have:=hz k hbk;omega
   ·rw[upd_ne _ _ e]at hk;exact⟨(h.range q k hk).1,Bz (h.range q k hk).2 hb.size⟩
  hrange:=by simp
  st:=hst'
  gl:=h.gl.of (λb hg o=>(hst b o (h.st b o (hg o)) λhm=>(hd b hm).elim λo' ho=>ho (hg o')).2 (hg o)) (λb o hg=>B6 (hb.block b ⟨h.st b o (hg o),λhm=>(hd b hm).elim λo' ho=>ho (hg o')⟩))}
def o6(D:zN):Operand->Bool
 |.tmp p=> !D.contains p
 |.const (.int _ _)=>true
 |.const (.bool _)=>true
 |.const (.string _)=>true
 |_=>false
def YF(h:HSim P nt bx base St B hand σ a w){s:Nat}{bs0 D:zN}(i:(σ s).isArg=false)(n:∀k∈bs0,k∈B s)(r:∀k∈bs0,∃o,¬St k o)(c:∀q,q≠s->D.contains q=true∨KT (σ q)=true):
  ∀(xs:List Operand),xs.all (λx=>(CC σ x).isArg&&o6 D x)=true->QQ w (λb o=>St b o∧b∉bs0) (xs.map λx=>er<|CC σ x) (xs.map a.eval)
 |[],_=>rfl
 |x::xs,j=>by
  simp only[By,Aa]at j;refine⟨a.eval x,xs.map a.eval,rfl,?_,YF h i n r c xs j.2⟩;have⟨d,f⟩:=j.1
  have l:∃b,Cr P w St (tm a) (CC σ x) (a.eval x) b∧KT (CC σ x)=true∧∀k∈b,k∉bs0:=by
   cases x with
   |tmp p=>
    have t:p≠s:=λe=>by subst e;rw[show CC σ (.tmp p)=σ p from rfl]at d;rw[i]at d;cases d
    refine⟨B p,h.slot p,?_,λk g u=>h.apart p s t k g<|n k u⟩;rcases c p t with m|m
    ·simp only[o6,m]at f;cases f
    ·exact m
   |const v=>
    refine⟨[],jx v,?_,by simp⟩;cases v<;>first|rfl|(cases f;done)|skip
    simp only[CC,cV];split<;>rfl
   |_=>cases f
  have⟨b,y,z,A⟩:=l;have C:=SB (FrB.refl bs0 w) r h.st (St':=λb o=>St b o∧b∉bs0) (λk o g i=>⟨i,g⟩) z y<|λk g=>⟨rfl,λo=>⟨λh=>h.1,λh=>⟨h,A k g⟩⟩⟩
  exact((C.ow<|Mj d).rda d).erase
theorem sR{f:FuncId}{cal:Operand}{args:Array Operand}{ts:Array TypeId}{xs:List Operand}{s:Nat}{cs cs':List V}{D:zN}(hcv:CC σ cal=.fn f)(hop:o.op=.call {callee:=.value cal,args:=args,argTypes:=ts})(he:args.toList=.tmp s::xs)(hs:σ s=.box cs)(hdp:Cw cs=true)
  (hargs:xs.all (λx=>(CC σ x).isArg&&o6 D x)=true) (hp:Agz P f cs (xs.map λx=>er (CC σ x)) cs') (hD:D.contains s=false) (hsafe:∀q,q≠s->D.contains q=true∨KT (σ q)=true) (hd:∀d,o.dst=some d->d < nt∧d∉bx) (hk:K (Vy (upd (kill D σ) s (.box cs')) o.dst (.tup []))):V5 P nt bx base St0 w0 o σ K:=by
 rintro a w Q ⟨St,B,h,hb,hst,hz⟩
 have hsl:=h.slot s
 rw[hs]at hsl
 obtain⟨g,T,bs0,arr,e1,e2,e3,e4,e5⟩:=hsl
 have hnd:=h.nodup s
 rw[e4]at hnd
 have hsm:=Bn.Sv cs hdp e3
 have hrd:=YF h (s:=s) (bs0:=bs0) (D:=D) (by rw[hs];rfl) (λk hk=>by rw[e4];exact A3 _ hk) hsm hsafe xs hargs
 have hrg:∀k∈bs0,k < w.heap.size:=λk hk=>(h.range s k (by rw[e4];exact A3 _ hk)).2
 have hcall:=hp.2 w St g T arr bs0 (xs.map a.eval) h.st h.gl e2 e3 hnd hrg e5 hrd
 have hr:=UD (P:=P) (a:=a) (w:=w) hop (YS h hcv) hp.1
 rw[he,AM,show a.eval (.tmp s)=tm a s from rfl,e1]at hr
 unfold Oper.wp
 rw[hr,D8]
 refine hcall.mono ?_
 rintro e w1 ⟨v,bs,St1,T1,arr1,rfl,h1,h2,h3,h4,h5,h6,h7,h8⟩
 refine⟨_,hk,?_⟩
 obtain⟨B2,k3,_,hBs⟩:=Xc D h
 have hs3:kill D σ s=.box cs:=by rw[Yp hD (by rw[hs];rfl)];exact hs
 have hB3:B2 s=g::bs0:=by
  rcases hBs s with e|e
  ·have:=k3.slot s
   rw[hs3]at this
   obtain⟨_,_,_,_,_,_,_,e',_⟩:=this
   rw[e]at e';cases e'
  ·rw[e,e4]
 have hgr:=h.range s g (by rw[e4];simp)
 have hng:∀o,¬St1 g o:=λo ho=>e5 o ((h2 g o hgr.2 (BF.1 hnd).1).1 ho)
 have g1:=k3.Acu (w':=w1) (St':=St1) (cs':=cs') (bs:=bs) hs3 hB3 e5 hsm h1 h2 h3 (λq hq=>by
  rcases TQ D σ q with e|e
  ·rw[e];rfl
  ·cases hc:D.contains q with
   |true=>rw[Vk hc];rfl
   |false=>rw[e];exact(hsafe q hq).elim (λh=>by rw[hc]at h;cases h) id) h7 h8 hz ⟨g,T1,bs,arr1,e1,h4,h5,rfl,hng⟩
 have hbel:BelowK base.K w0 w1:=hb.trans ⟨h1.os,h1.tape,h1.output,h1.size,λk hk=>h1.block k ⟨hz k hk,λhm=>(h.range s k (by rw[e4];exact hm)).1 hk⟩⟩
 have hst1:∀b o',base b->(St1 b o'↔St0 b o'):=λb o' hlt=>(h2 b o' (hz b hlt) (λhm=>(h.range s b (by rw[e4];exact A3 _ hm)).1 hlt)).trans (hst b o' hlt)
 cases hdst:o.dst with
 |none=>exact⟨St1,_,g1,hbel,hst1,SZ hz h1.size⟩
 |some d=>
  obtain⟨hd1,hd2⟩:=hd d hdst
  exact⟨St1,_,g1.put hd1 hd2 h6.slot AP (by simp) h6.DS.1 h6.RN,hbel,hst1,SZ hz h1.size⟩
def nJ(h:HSim P nt bx base St B hand σ a w):∀(xs:List Operand) (us:List Value),xs.map (CC σ)=us.map V.tok->xs.map a.eval=us
 |[],[],_=>rfl
 |[],_::_,e=>by cases e
 |_::_,[],e=>by cases e
 |x::xs,u::us,e=>by
  simp only[AM,Ds]at e;have d:a.eval x=u:=by have⟨b,c⟩:=NA h x;rw[e.1]at c;exact c.2.1
  rw[AM,d,nJ h xs us e.2]
def sP{f cal args ts zs xs ys us os os' r D}(J:CC σ cal=.fn f)(L:o.op=.call {callee:=.value cal,args:=args,argTypes:=ts})(he:args.toList=zs++(xs++ys))(hx:xs.map (CC σ)=us.map V.tok)(y:σ gS=.gh us os)(M:Cw os=true)
  (c:(zs++ys).all (λx=>(CC σ x).isArg&&o6 D x)=true) (Z:UY P f (zs.map λx=>er<|CC σ x) os (ys.map λx=>er<|CC σ x) os' r) (hD:D.contains gS=false) (g:∀q,q≠gS->D.contains q=true∨KT (σ q)=true) (hd:∀d,o.dst=some d->d < nt∧d∉bx) (i:K (Vy (upd (kill D σ) gS<|.gh us os') o.dst r)):V5 P nt bx base St0 w0 o σ K:=by
 rintro a w Q ⟨St,B,h,hb,N,z⟩;have A:=h.slot gS;rw[y]at A;have j:Bn P w St os us (B gS):=A;have O:=h.nodup gS;have p:=Bn.Sv os M j;rw[E8,Aa]at c;have R:=YF h (s:=gS) (bs0:=B gS) (D:=D) (by rw[y];rfl) (λk i=>i) p g ys c.2;have C:=YF h (s:=gS) (bs0:=B gS) (D:=D) (by rw[y];rfl) (λk i=>i) p g zs c.1;have S:∀k∈B gS,k < w.heap.size:=λk i=>(h.range gS k i).2
 have t:=Z.2 w St us (B gS) (zs.map a.eval) (ys.map a.eval) h.st h.gl j O S C R;have hr:=UD (P:=P) (a:=a) (w:=w) L (YS h J) Z.1;rw[he,Bd,Bd,nJ h xs us hx]at hr;unfold Oper.wp;rw[hr,D8];refine t.mono ?_;rintro e w1 ⟨v,bs,St1,rfl,l,h2,h3,h5,T,h7,h8⟩;refine⟨_,i,?_⟩;have⟨B2,k3,_,_,U⟩:=Yj D h;have F:kill D σ gS=.gh us os:=by rw[Yp hD (by rw[y];rfl)];exact y
 have W:B2 gS=B gS:=U gS hD (by rw[F,y])
 have g1:=k3.lend (w':=w1) (St':=St1) (c':=.gh us os') (bs:=bs) (by rw[F];rfl) rfl rfl W p l h2 h3 (λq hq=>by
  rcases TQ D σ q with e|e
  ·rw[e];rfl
  ·cases hc:D.contains q with
   |true=>rw[Vk hc];rfl
   |false=>rw[e];exact(g q hq).elim (λh=>by rw[hc]at h;cases h) id) h7 h8 z h5
 have m:BelowK base.K w0 w1:=hb.trans ⟨l.os,l.tape,l.output,l.size,λk i=>l.block k ⟨z k i,λhm=>(h.range gS k hm).1 i⟩⟩;have n:∀b H,base b->(St1 b H↔St0 b H):=λb H u=>(h2 b H (z b u)<|λhm=>(h.range gS b hm).1 u).trans<|N b H u
 cases I:o.dst with
 |none=>exact⟨St1,_,g1,m,n,SZ z l.size⟩
 |some d=>have⟨X,Y⟩:=hd d I;exact⟨St1,_,g1.put X Y T.slot AP (by simp) T.DS.1 T.RN,m,n,SZ z l.size⟩
def HSim.Akl(h:HSim P nt bx base St B hand σ a w){s g:Nat}{c':V}{cs cs':List V}(hs:C6 (σ s)=some cs)(hc':C6 c'=some cs')(hrf:D3 c'=none)(hB:B s=[g])(hng:∀o,¬St g o)(hb:BelowK (λb=>b < w.heap.size∧b≠g) w w')
  (hst:∀b o,b < w.heap.size->(St' b o↔St b o)) (hst':∀b o,St' b o->b < w'.heap.size) (hc:Cr P w' St' (tm a) c' (tm a s) [g]):HSim P nt bx base St' B hand (upd σ s c') a w':=
 have hbox:∀b,(∃cs,C6 (σ b)=some cs)->∃cs'',C6 (upd σ s c' b)=some cs'':=λb ⟨cs,e⟩=>by
  by_cases eb:b=s
  ·subst eb;exact⟨cs',by rw[upd_same];exact hc'⟩
  ·exact⟨cs,by rw[upd_ne _ _ eb];exact e⟩
 {h with
  slot:=λq=>by
   by_cases e:q=s
   ·subst e;rw[upd_same,hB];exact hc
   ·rw[upd_ne _ _ e];refine(h.slot q).mono (λb o hs=>(hst b o<|h.st b o hs).2 hs) (λb o hs=>?_) (λk hk=>⟨hb.block k ⟨(h.range q k hk).2,λek=>?_⟩,λo=>hst k o (h.range q k hk).2⟩)<|λ_ _=>rfl
    ·exact B6<|hb.block b ⟨h.st b o hs,λeb=>hng o<|eb ▸ hs⟩
    ·subst ek;exact h.apart q s e k hk (by rw[hB];simp)
  boxes:=λq cs1 e=>by
   by_cases eq:q=s
   ·subst eq;exact h.boxes _ _ hs
   ·rw[upd_ne _ _ eq]at e;exact h.boxes q cs1 e
  crefs:=λq b e=>by
   by_cases eq:q=s
   ·subst eq;rw[upd_same,hrf]at e;cases e
   ·rw[upd_ne _ _ eq]at e;exact hbox b<|h.crefs q b e
  range:=λq k hk=>⟨(h.range q k hk).1,Bz (h.range q k hk).2 hb.size⟩
  hrange:=λk hk=>⟨(h.hrange k hk).1,Bz (h.hrange k hk).2 hb.size⟩
  st:=hst'
  gl:=h.gl.of (λb hg o=>(hst b o (h.st b o (hg o))).2 (hg o)) (λb o hg=>B6 (hb.block b ⟨h.st b o (hg o),λeb=>hng o (eb ▸ hg o)⟩))}
def sT{f cal x args ts zs s n n' e cs cs' r}(hcv:CC σ cal=.fn f)(hop:o.op=.call {callee:=.value cal,args:=args,argTypes:=ts})(he:args.toList=zs++[x])(hx:CC σ x=.same s)(hs:σ s=.uni e n cs)(hf:af cs=true)(hf':af cs'=true)(hfr:flt r=true)
  (hargs:zs.all (λx=>(CC σ x).isArg)=true) (hp:UY P f (zs.map λx=>er<|CC σ x) [.own e n cs] [] [.own e n' cs'] r) (hd:∀d,o.dst=some d->d < nt∧d∉bx) (hk:K (Vy (upd σ s<|.uni e n' cs') o.dst r)):V5 P nt bx base St0 w0 o σ K:=by
 rintro a w Q ⟨St,B,h,hb,hst,hz⟩;have hsl:=h.slot s;rw[hs]at hsl;have⟨g,bs',arr,e1,e2,h1,hB,h2,hl,hlen⟩:=hsl;have hnil:bs'=[]:=(Xl (w':=w) (St':=St) cs hf h1).1;subst hnil;have hgr:=h.range s g (by rw[hB];simp);have hxv:a.eval x=tm a s:=by have⟨b,q⟩:=NA h x;rw[hx]at q;exact q.2
 have harr:arr.size=n * Ub P e:=by rw[<-BR,h1.length,hlen]
 have hown:Ow P w (λb o'=>St b o'∨(b=g∧o' < n * Ub P e)) (.own e n cs) (tm a s) [g]:=by
  refine⟨hl,arr.toList,[],?_,(Xl cs hf h1).2,by rw[e1];rfl,λk hk o'=>?_,λh0=>?_⟩
  ·rw[e1];refine⟨by rw[BR,harr],.inr ⟨g,n,arr,rfl,Cd _,e2,AJ _,?_,harr,?_⟩⟩
   ·unfold maxLen;unfold lim at hl;omega
   ·rw[<-harr,<-BR,AT]
  ·rw[e1]at hk;simp only[Value.ownBlock,Ar]at hk;subst hk;exact⟨λhh=>hh.elim (λhh=>absurd hh<|h2 o') (·.2),λhh=>.inr ⟨rfl,hh⟩⟩
  ·subst h0;exact Bp (by simpa using hlen)
 have hrd:=(YG h zs hargs).mono (w':=w) (St':=λb o'=>(St b o'∨(b=g∧o' < n * Ub P e))∧b∉[g]) (λb o' hh=>⟨.inl hh,λhm=>h2 o'<|by rw[AC]at hm;exact hm ▸ hh⟩)<|λ_ _ _=>rfl
 have hcall:=hp.2 w (λb o'=>St b o'∨(b=g∧o' < n * Ub P e)) [tm a s] [g] (zs.map a.eval) [] (λb o' hh=>hh.elim (h.st b o')<|λhh=>by rw[hh.1];exact hgr.2) (h.gl.of (λb hg o'=>.inl<|hg o')<|λ_ _ _=>rfl)
  ⟨tm a s,[],[g],[],rfl,rfl,rfl,hown,rfl,rfl⟩ (by simp) (by simpa using hgr.2) hrd rfl
 have hr:=UD (P:=P) (a:=a) (w:=w) hop (YS h hcv) hp.1;rw[he,Bd,List.map_singleton,hxv]at hr;unfold Oper.wp;rw[hr,D8];refine hcall.mono ?_;rintro e' w1 ⟨v,bs,St1,rfl,k1,k2,k3,k5,k6,k7,k8⟩;refine⟨_,hk,?_⟩;have⟨u,us',b1,b2,p1,p2,p3,p4,p5⟩:=k5;simp only[Ds]at p1;obtain⟨rfl,rfl⟩:=p1;have⟨hl',xs,bs2,⟨hxl,ho⟩,hrow3,hb1,hst3,hnil3⟩:=p4;rw[e1]at ho
 obtain rfl:n=n':=by
  rcases ho with⟨ho,_⟩|⟨g',cap,cur,ho,_⟩
  ·cases ho
  ·exact(Value.slice.inj ho).2.1
 obtain⟨cur,hc1,hc2,hc3⟩:∃cur:Array Value,w1.heap[g]? =some (.cells cur e (0,0))∧cur.size=n * Ub P e∧cur.toList.take (n * Ub P e)=xs:=by
  rcases ho with⟨ho,_⟩|⟨g',cap,cur,ho,_,hh,_,_,hsz,hx'⟩
  ·cases ho
  ·injection ho with ho1 ho2 ho3
   injection ho1 with ho1
   injection ho1 with ho1
   subst ho1 ho3;exact⟨cur,hh,hsz,hx'⟩
 have hxc:cur.toList=xs:=by rw[<-hc3,<-hc2,<-BR,AT]
 have g1:=h.Akl (w':=w1) (St':=λb o'=>St1 b o'∧b≠g) (s:=s) (c':=.uni e n cs') (by rw[hs];rfl) rfl rfl hB h2 ⟨k1.os,k1.tape,k1.output,k1.size,λk hk=>k1.block k ⟨hk.1,by simpa using hk.2⟩⟩
  (λb o' hlt=>⟨λhh=>((k2 b o' hlt (by simpa using hh.2)).1 hh.1).elim id (λh=>absurd h.1 hh.2),λhh=>by
   have hne:b≠g:=λe=>h2 o'<|e ▸ hh
   exact⟨(k2 b o' hlt (by simpa using hne)).2 (.inl hh),hne⟩⟩) (λb o' hh=>k3 b o' hh.1)
  ⟨g,[],cur,e1,hc1,by rw[hxc];exact(Xl cs' hf' hrow3).2,rfl,λo' hh=>hh.2 rfl,hl,by rw[<-hrow3.length,hxl]⟩
 have hbel:BelowK base.K w0 w1:=hb.trans ⟨k1.os,k1.tape,k1.output,k1.size,λk hk=>k1.block k ⟨hz k hk,λhm=>hgr.1<|by rw[AC]at hm;exact hm ▸ hk⟩⟩
 have hst1:∀b o',base b->((St1 b o'∧b≠g)↔St0 b o'):=λb o' hlt=>by
  have hne:b≠g:=λe=>hgr.1<|e ▸ hlt
  have:=k2 b o' (hz b hlt) (by simpa using hne);rw[<-hst b o' hlt];exact⟨λhh=>(this.1 hh.1).elim id<|λh=>absurd h.1 hne,λhh=>⟨this.2<|.inl hh,hne⟩⟩
 have hr6:=(o9 (w':=w1) (St':=λb o'=>St1 b o'∧b≠g) r hfr k6).2;cases hdst:o.dst with
 |none=>exact⟨_,_,g1.less AP (by simp),hbel,hst1,SZ hz k1.size⟩
 |some d=>have⟨hd1,hd2⟩:=hd d hdst;exact⟨_,_,g1.put hd1 hd2 hr6.slot AP (by simp) hr6.DS.1 hr6.RN,hbel,hst1,SZ hz k1.size⟩
theorem sQ{f:FuncId}{cal:Operand}{args:Array Operand}{ts:Array TypeId}{cs:List V}{d:Nat}(hcv:CC σ cal=.fn f)(hop:o.op=.call {callee:=.value cal,args:=args,argTypes:=ts})
  (hargs:args.toList.all (λx=>(CC σ x).isArg)=true) (hp:NewAt P f (args.toList.map λx=>erK (CC σ x)) cs) (ho:o.dst=some d) (hd:d < nt) (hx:d∈bx) (hd0:TP+d∉bx) (hold:C6 (σ d)=none) (hk:K (upd σ d (.box cs))):V5 P nt bx base St0 w0 o σ K:=by
 rintro a w Q ⟨St,B,h,hb,hst,hz⟩
 have hcall:=hp.2 w St (args.toList.map a.eval) h.st h.gl (da h _ hargs)
 have hr:=UD (P:=P) (a:=a) (w:=w) hop (YS h hcv) hp.1
 unfold Oper.wp
 rw[hr,D8]
 refine hcall.mono ?_
 rintro e w1 ⟨g,T,St1,arr,rfl,h1,h2,h3,h4,h5,h6,h7,h8⟩
 refine⟨_,hk,?_⟩
 have g1:=h.grow (w':=w1) (St':=St1) h1 h2 h3
 have g2:=g1.fresh (bs:=[g]) (by simp) (λk hk=>by simp only[AC]at hk;subst hk;exact⟨λh'=>by have:=hz k h';omega,h8⟩) (λq k hk hm=>by simp only[AC]at hm;subst hm;have:=(h.range q k hk).2;omega) (by simp)
 have hst1:∀b o',base b->(St1 b o'↔St0 b o'):=λb o' hlt=>(h2 b o' (hz b hlt)).trans (hst b o' hlt)
 refine⟨St1,upd B d [g],?_,hb.below h1 hz,hst1,SZ hz h1.size⟩
 rw[ho]
 exact g2.fk hd hx hd0 hold (c:=.box cs) ⟨g,T,[],arr,rfl,h4,h5,rfl,h6⟩ (by simp) (by simp) rfl
theorem iJ{p d s off:Nat}(hop:o.op=.assign (.tmp p)∨o.op=.move (.tmp p))(hs:Nh σ (.tmp p)=.cref s off)(hbx':(∃cs,C6 (σ s)=some cs)∨D3 (σ p)=some s)(ho:o.dst=some d)(hd:d < nt)(hx:d∉bx)(hk:K (upd σ d (.cref s off))):V5 P nt bx base St0 w0 o σ K:=by
 rintro a w Q ⟨St,B,h,hb,hst,hz⟩
 obtain⟨cs,hbx⟩:∃cs,C6 (σ s)=some cs:=hbx'.elim id (h.crefs p s)
 obtain⟨g,T,bs',arr,q1,q2,q3,q4,q5,q6⟩:=SE h hs hbx
 have hr:(execOp a.eval o).run P w=.ok (.value (a.eval (.tmp p))) w:=by rcases hop with e|e<;>simp[execOp,e]
 refine JK hr ⟨_,hk,St,upd B d [],?_,hb,hst,hz⟩
 rw[ho]
 exact h.put hd hx (c:=.cref s off) ⟨rfl,g,q2,q1⟩ AP (by simp) rfl (λb e=>by simp only[D3,Ar]at e;subst e;exact⟨cs,hbx⟩)
end
def Ua(P:Program)(w:World)(c:Nat->Nat->Prop):List (List V)->List Value->zN->Prop
 |[],us,bs=>us=[]∧bs=[]
 |cs::b,us,bs=>∃u a b1 b2,us=u::a∧bs=b1++b2∧Cr P w c (λ_=>undef) (.box cs) u b1∧Ua P w c b a b2
def AbZ(P:Program)(w:World)(c:Nat->Nat->Prop)(us:List Value)(bs0:zN)(a:List (List V))(r:V)(e:Ending)(w':World):Prop:=
 ∃v bs St',e=.returned v∧BelowK (λb=>b < w.heap.size∧b∉bs0) w w'∧(∀b o,b < w.heap.size->b∉bs0->(St' b o↔c b o))∧(∀b o,St' b o->b < w'.heap.size)∧
  Ua P w' St' a us bs∧Ow P w' St' r v []∧bs.Nodup∧∀k∈bs,(k∈bs0∨w.heap.size<=k)∧k < w'.heap.size
def YD(P:Program)(f:FuncId)(us:List Value)(e:List (List V))(a:List V)(c:List (List V))(r:V):Prop:=
 MT P f∧∀w d (bs0:zN) (vs:List Value),(∀b o,d b o->b < w.heap.size)->Glb w d->Ua P w d e us bs0->bs0.Nodup->(∀k∈bs0,k < w.heap.size)->QQ w d a vs->
  Calls P f (vs++us).toArray w (AbZ P w d us bs0 c r)
section
variable {P:Program}{nt:Nat}{base:Bs}{bx:zN}{St St' St0:Nat->Nat->Prop}{B B':Nat->zN}{hand:zN}{σ σ':PS}{a:Act}{w w' w0:World}{o:Oper}{K:PS->Prop}
def Ua.length:∀{b:List (List V)}{us:List Value}{bs:zN},Ua P w St b us bs->us.length=b.length
 |[],_,_,h=>by rw[h.1];rfl
 |cs::b,_,_,⟨u,c,b1,b2,d,f,g,e⟩=>by rw[d,AD,AD,e.length]
def pL{t t' cs v b}(h:Cr P w St t (.box cs) v b):Cr P w St t' (.box cs) v b:=h
def ZZ:∀{ss:zN}{g:List (List V)}{us:List Value}{bs:zN},Ua P w St g us bs->bs.Nodup->ss.Nodup->ss.length=g.length->
  ∃β:Nat->zN,(∀(i s:Nat) (cs:List V) (u:Value),ss[i]? =some s->g[i]? =some cs->us[i]? =some u->Cr P w St (λ_=>undef) (.box cs) u (β s))∧(∀s∈ss,∀k∈β s,k∈bs)∧(∀s,(β s).Nodup)∧∀s∈ss,∀t∈ss,s≠t->∀k∈β s,k∉β t
 |[],[],_,_,_,_,_,_=>⟨λ_=>[],by simp,by simp,λ_=>AP,by simp⟩
 |[],_::_,_,_,_,_,_,e=>by cases e
 |_::_,[],_,_,_,_,_,e=>by cases e
 |s::ss,cs::g,_,_,⟨u,z,b1,b2,j,h,A,C⟩,D,F,H=>by
  subst j h;have⟨I,J,x⟩:=AA.1 D;have⟨L,M⟩:=BF.1 F;have⟨β,N,p,O,Q⟩:=ZZ (ss:=ss) C J M (by simpa using H);have off:∀q∈ss,q≠s:=λq d e=>L<|e ▸ d
  refine⟨λq=>if q=s then b1 else β q,?_,?_,?_,?_⟩
  ·intro i q c v d m n;cases i with
   |zero=>simp only[Ce,Ar]at d m n;subst d m n;simp only[Fl];exact A
   |succ i=>simp only[D1]at d m n;simp only[Ay (off q<|B3 d)];exact N i q c v d m n
  ·intro q d k f;dsimp only at f;split at f
   ·exact AF _ f
   ·rename_i r;exact Az _<|p q ((AE.1 d).resolve_left r) k f
  ·intro q;dsimp only;split
   ·exact I
   ·exact O q
  ·intro q d t y l k f b;dsimp only at f b;split at f
   ·rename_i j;split at b
    ·rename_i h;exact l<|j.trans h.symm
    ·rename_i h;exact x k f k (p t ((AE.1 y).resolve_left h) k b) rfl
   ·rename_i j;split at b
    ·exact x k b k (p q ((AE.1 d).resolve_left j) k f) rfl
    ·rename_i h;exact Q q ((AE.1 d).resolve_left j) t ((AE.1 y).resolve_left h) l k f b
def HSim.vars(h:HSim P nt bx base St B [] σ a w){ss:zN}{bs0:zN}(hB0:∀k∈bs0,∃s∈ss,k∈B s)(hB1:∀s∈ss,∀k∈B s,k∈bs0)(hd:∀k∈bs0,∃o,¬St k o)(hb:BelowK (λb=>b < w.heap.size∧b∉bs0) w w')
  (hst:∀b o,b < w.heap.size->b∉bs0->(St' b o↔St b o)) (hst':∀b o,St' b o->b < w'.heap.size) (hz:∀b,base b->b < w.heap.size)
  (hoff:∀q,q∉ss->σ' q=σ q∧B' q=B q∧KT (σ q)=true)
  (hin:∀s∈ss,Cr P w' St' (tm a) (σ' s) (tm a s) (B' s)∧(∃cs,C6 (σ s)=some cs)∧(∃cs,C6 (σ' s)=some cs)∧D3 (σ' s)=none∧(B' s).Nodup∧∀k∈B' s,(k∈bs0∨w.heap.size<=k)∧k < w'.heap.size)
  (hap:∀s∈ss,∀t∈ss,s≠t->∀k∈B' s,k∉B' t):HSim P nt bx base St' B' [] σ' a w':=
 have hf:FrB bs0 w w':=⟨hb.os,hb.tape,hb.output,hb.size,λk hk hn=>hb.block k ⟨hk,hn⟩⟩;have hno:∀q,q∉ss->∀k∈B q,k∉bs0:=λq hq k hk hm=>by have⟨s,hs,hks⟩:=hB0 k hm;exact h.apart q s (λe=>hq<|e ▸ hs) k hk hks
 have hbase:∀k,k∈bs0->¬base k:=λk hk=>by have⟨s,hs,hks⟩:=hB0 k hk;exact(h.range s k hks).1
 have hmix:∀q s,q∉ss->s∈ss->∀k∈B q,k∉B' s:=λq s hq hs k hk hk'=>by
  rcases((hin s hs).2.2.2.2.2 k hk').1 with h1|h1
  ·exact hno q hq k hk h1
  ·have:=(h.range q k hk).2;omega
 {h with
  slot:=λq=>by
   by_cases hq:q∈ss
   ·exact(hin q hq).1
   ·have⟨e1,e2,e3⟩:=hoff q hq;rw[e1,e2];exact SB hf hd h.st (λk o hk hs=>(hst k o (h.st k o hs) hk).2 hs) e3 (h.slot q)<|λk hk=>⟨hb.block k ⟨(h.range q k hk).2,hno q hq k hk⟩,λo=>hst k o (h.range q k hk).2<|hno q hq k hk⟩
  boxes:=λq cs e=>by
   by_cases hq:q∈ss
   ·have⟨ds,hds⟩:=(hin q hq).2.1;exact h.boxes q ds hds
   ·rw[(hoff q hq).1]at e;exact h.boxes q cs e
  crefs:=λq b e=>by
   have hr:D3 (σ q)=some b:=by
    by_cases hq:q∈ss
    ·rw[(hin q hq).2.2.2.1]at e;cases e
    ·rw[(hoff q hq).1]at e;exact e
   have⟨cs,hcs⟩:=h.crefs q b hr;by_cases hb':b∈ss
   ·exact(hin b hb').2.2.1
   ·exact⟨cs,by rw[(hoff b hb').1];exact hcs⟩
  nodup:=λq=>by
   by_cases hq:q∈ss
   ·exact(hin q hq).2.2.2.2.1
   ·rw[(hoff q hq).2.1];exact h.nodup q
  apart:=λq r hqr k hk hk'=>by
   by_cases hq:q∈ss
   ·by_cases hr:r∈ss
    ·exact hap q hq r hr hqr k hk hk'
    ·rw[(hoff r hr).2.1]at hk';exact hmix r q hr hq k hk' hk
   ·rw[(hoff q hq).2.1]at hk;by_cases hr:r∈ss
    ·exact hmix q r hq hr k hk hk'
    ·rw[(hoff r hr).2.1]at hk';exact h.apart q r hqr k hk hk'
  hnodup:=AP
  hapart:=λ_ _ _=>by simp
  range:=λq k hk=>by
   by_cases hq:q∈ss
   ·have⟨h1,h2⟩:=(hin q hq).2.2.2.2.2 k hk;refine⟨?_,h2⟩;rcases h1 with h1|h1
    ·exact hbase k h1
    ·exactλhbk=>by have:=hz k hbk;omega
   ·rw[(hoff q hq).2.1]at hk;exact⟨(h.range q k hk).1,Bz (h.range q k hk).2 hb.size⟩
  hrange:=by simp
  st:=hst'
  gl:=h.gl.of (λb hg o=>(hst b o (h.st b o (hg o)) λhm=>(hd b hm).elim λo' ho=>ho (hg o')).2 (hg o)) (λb o hg=>B6 (hb.block b ⟨h.st b o (hg o),λhm=>(hd b hm).elim λo' ho=>ho (hg o')⟩))}
end
section
variable {P:Program}{w:World}{St:Nat->Nat->Prop}
mutual
def Ow.bG:∀(c:V) {v:Value}{b:zN},c.DB=true->Ow P w St c v b->∀g∈b,∃o,¬St g o
 |.tok _,_,_,_,h,g,hg=>by rw[h.1]at hg;cases hg
 |.int _ _,_,_,_,h,g,hg=>by rw[h.1]at hg;cases hg
 |.bool _,_,_,_,h,g,hg=>by rw[h.1]at hg;cases hg
 |.str _,_,_,_,h,g,hg=>by rw[h.1]at hg;cases hg
 |.dat _ _,_,_,_,h,g,hg=>by rw[h.1]at hg;cases hg
 |.arg _ _,_,_,_,h,g,hg=>by rw[h.1]at hg;cases hg
 |.pin _ _ _,_,_,_,h,g,hg=>by rw[h.1]at hg;cases hg
 |.fn _,_,_,_,h,g,hg=>by rw[h.1]at hg;cases hg
 |.own e n cs,v,b,_,⟨hn,xs,bs',h1,h2,h3,h4,h5⟩,g,hg=>by
  rw[h3]at hg;rcases Ak.1 hg with hg|hg
  ·exact⟨n * Ub P e,λhs=>absurd ((h4 g (by simpa using hg) _).1 hs)<|J6 _⟩
  ·exact Bn.bG cs h2 g hg
 |.agg _,_,_,hc,_,_,_=>by cases hc
 |.tup _,_,_,hc,_,_,_=>by cases hc
 |.box _,_,_,hc,_,_,_=>by cases hc
 |.uni _ _ _,_,_,hc,_,_,_=>by cases hc
 |.same _,_,_,hc,_,_,_=>by cases hc
 |.val _ _,_,_,hc,_,_,_=>by cases hc
 |.cref _ _,_,_,hc,_,_,_=>by cases hc
 |.adr _ _,_,_,hc,_,_,_=>by cases hc
 |.gh _ _,_,_,hc,_,_,_=>by cases hc
 |.undef,_,_,hc,_,_,_=>by cases hc
def Bn.bG:∀(cs:List V) {us:List Value}{b:zN},Bn P w St cs us b->∀g∈b,∃o,¬St g o
 |[],_,_,h,g,a=>by rw[h.2]at a;cases a
 |c::cs,_,_,⟨u,d,b1,b2,k,e,f,i,j⟩,g,a=>by
  rw[e]at a;rcases Ak.1 a with a|a
  ·exact Ow.bG c f i g a
  ·exact Bn.bG cs j g a
end
def Ua.bG:∀{b:List (List V)}{us:List Value}{bs:zN},Ua P w St b us bs->∀g∈bs,∃o,¬St g o
 |[],_,_,h,g,a=>by rw[h.2]at a;cases a
 |cs::b,_,_,⟨u,c,b1,b2,m,d,⟨n,T,e,f,p,q,i,j,k⟩,l⟩,g,a=>by
  rw[d,j]at a;rcases Ak.1 a with a|a
  ·rcases AE.1 a with rfl|a
   ·exact⟨0,k 0⟩
   ·exact Bn.bG cs i g a
  ·exact l.bG g a
end
def fR(σ:PS):zN->List (List V)->PS
 |s::ss,cs::a=>upd (fR σ ss a) s<|.box cs
 |_,_=>σ
def nM{σ q}:∀{ss:zN}{css:List (List V)},q∉ss->fR σ ss css q=σ q
 |[],_,_=>rfl
 |_::_,[],_=>rfl
 |s::ss,cs::css,h=>by rw[fR,upd_ne _ _ (show q≠s from λe=>h<|by rw[e];exact BH),nM (λhm=>h<|A3 _ hm)]
def rK{σ}:∀{ss:zN}{a:List (List V)}{i s:Nat}{cs:List V},ss.Nodup->ss[i]? =some s->a[i]? =some cs->fR σ ss a s=.box cs
 |[],_,_,_,_,_,h,_=>by simp at h
 |_::_,[],_,_,_,_,_,h=>by simp at h
 |s0::ss,cs0::a,i,s,cs,d,b,c=>by
  have⟨f,g⟩:=BF.1 d;cases i with
  |zero=>simp only[Ce,Ar]at b c;subst b c;rw[fR,upd_same]
  |succ i=>simp only[D1]at b c;rw[fR,upd_ne _ _ (show s≠s0 from λe=>f<|by rw[<-e];exact B3 b)];exact rK g b c
def gV(s:Nat):Nat:=910000+s
section
variable {P:Program}{nt:Nat}{base:Bs}{bx:zN}{St St0:Nat->Nat->Prop}{B:Nat->zN}{hand:zN}{σ:PS}{a:Act}{w w0:World}{o:Oper}{K:PS->Prop}
def pK(h:HSim P nt bx base St B hand σ a w):∀{ss:zN}{b:List (List V)}{us:List Value},ss.map σ=b.map V.box->(ss.map λs=>σ<|gV s)=(ss.zip us).map (λp=>V.val p.1 p.2)->ss.length=us.length->Ua P w St b us (ss.flatMap B)
 |[],[],[],_,_,_=>⟨rfl,rfl⟩
 |[],_::_,_,e,_,_=>by cases e
 |[],[],_::_,_,_,e=>by cases e
 |_::_,[],_,e,_,_=>by cases e
 |_::_,_::_,[],_,_,e=>by cases e
 |s::ss,cs::b,u::us,c,d,j=>by simp only[AM,Ds,List.zip_cons_cons]at c d;have f:=h.slot s;rw[c.1]at f;have i:=h.slot<|gV s;rw[d.1]at i;have g:u=tm a s:=i.2;rw[<-g]at f;exact⟨u,us,B s,ss.flatMap B,rfl,by rw[Ax],pL f,pK h c.2 d.2<|by simpa using j⟩
def sh{f cal args ts us}(d:o.op=.call {callee:=.value cal,args:=args,argTypes:=ts})(e:a.eval cal=.func (.func f) #[] us.toArray)(g:MT P f):(execOp a.eval o).run P w=.ok (.enter f (args.toList.map a.eval++us).toArray) w:=by
 have⟨j,h,b,c⟩:=g;have i:(args.toList.map a.eval++us).toArray=args.map a.eval++us.toArray:=by rw[<-List.append_toArray,<-JG,DC]
 rw[i];simp only[execOp,d,resolve,e,Deferred.ofValue,A8,BA,AU,invoke,callFunc,Lv,H6,h,b,c];simp
end
section
variable {P:Program}{nt:Nat}{base:Bs}{bx:zN}{St0:Nat->Nat->Prop}{σ:PS}{w0:World}{o:Oper}{K:PS->Prop}
def dQ{B:Nat->zN}(h1:∀s,(B s).Nodup)(h2:∀s t,s≠t->∀g∈B s,g∉B t):∀{ss:zN},ss.Nodup->(ss.flatMap B).Nodup
 |[],_=>AP
 |s::ss,h=>by obtain⟨m1,m2⟩:=BF.1 h;rw[Ax];refine AA.2 ⟨h1 s,dQ h1 h2 m2,λa ha b hb e=>?_⟩;obtain⟨t,ht,hbt⟩:=BU.1 hb;exact h2 s t (λe'=>m1<|e' ▸ ht) a ha<|e ▸ hbt
def jn:V->V
 |.dat 0 []=>.arg 0 []
 |c=>c
def fZ.jn{w St c v}(h:fZ w St c v):fZ w St (jn c) v:=by
 unfold Proofs.YtdnlfoelbfcmnaaGreatDoor.jn;split
 ·have⟨hn,A,c,e,hc,_,h0⟩:=h;exact⟨hn,A,c,e,hc,λhp=>absurd hp (by omega),h0⟩
 ·exact h
def lw{bx base nt St B hand a w}(h:HSim P nt bx base St B hand σ a w):∀(xs:List Operand),xs.all (λx=>(CC σ x).isArg)=true->QQ w St (xs.map λx=>jn<|CC σ x) (xs.map a.eval)
 |[],_=>rfl
 |x::xs,c=>by simp only[By,Aa]at c;have⟨b,d⟩:=NA h x;exact⟨a.eval x,xs.map a.eval,rfl,((d.ow<|Mj c.1).rda c.1).jn,lw h xs c.2⟩
def Ab0(P:Program)(σ:PS)(f:FuncId)(us:List Value)(c:List (List V))(a:List Operand)(b:List (List V))(r:V):Prop:=YD P f us c (a.map λx=>er<|CC σ x) b r∨YD P f us c (a.map λx=>jn<|CC σ x) b r
def sU{f:FuncId}{cal:Operand}{args:Array Operand}{ts:Array TypeId}{us:List Value}{ss:zN}{css css':List (List V)}{r:V}{D:zN}(hcv:CC σ cal=.tok (.func (.func f) #[] us.toArray))(hop:o.op=.call {callee:=.value cal,args:=args,argTypes:=ts})
  (hσ:ss.map σ=css.map V.box) (hv:(ss.map λs=>σ<|gV s)=(ss.zip us).map (λp=>V.val p.1 p.2)) (hl:ss.length=us.length) (hnd:ss.Nodup) (hargs:args.toList.all (λx=>(CC σ x).isArg)=true) (hp:Ab0 P σ f us css args.toList css' r)
  (hD:∀s∈ss,D.contains s=false) (hsafe:∀q,q∉ss->D.contains q=true∨KT (σ q)=true) (hd:∀d,o.dst=some d->d < nt∧d∉bx) (hk:K (Vy (fR (kill D σ) ss css') o.dst r)):V5 P nt bx base St0 w0 o σ K:=by
 rintro a w Q ⟨St,B,h,hb,hst,hz⟩;have hrow:=pK h hσ hv hl;have hndB:=dQ h.nodup h.apart hnd;have hmem:∀k,k∈ss.flatMap B↔∃s∈ss,k∈B s:=λk=>BU
 have hrg:∀k∈ss.flatMap B,k < w.heap.size:=λk hk=>by obtain⟨s,_,hks⟩:=(hmem k).1 hk;exact(h.range s k hks).2
 have hnb:∀k∈ss.flatMap B,¬base k:=λk hk=>by obtain⟨s,_,hks⟩:=(hmem k).1 hk;exact(h.range s k hks).1
 obtain⟨hbody,hcall⟩:MT P f∧Calls P f (args.toList.map a.eval++us).toArray w (AbZ P w St us (ss.flatMap B) css' r):=hp.elim (λh1=>⟨h1.1,h1.2 w St _ (args.toList.map a.eval) h.st h.gl hrow hndB hrg<|YG h _ hargs⟩)<|λh1=>⟨h1.1,h1.2 w St _ (args.toList.map a.eval) h.st h.gl hrow hndB hrg<|lw h _ hargs⟩
 have e2:a.eval cal=.func (.func f) #[] us.toArray:=by obtain⟨b,hx⟩:=NA h cal;rw[hcv]at hx;exact hx.2.1
 have hr:=sh (P:=P) (a:=a) (w:=w) hop e2 hbody;unfold Oper.wp;rw[hr,D8];refine hcall.mono ?_;rintro e w1 ⟨v,bs,St1,rfl,h1,h2,h3,h5,h6,h7,h8⟩;refine⟨_,hk,?_⟩;obtain⟨B2,k3,_,hB2,hBs⟩:=Yj D h;have hsl:css.length=ss.length:=by have:=congrArg List.length hσ;simpa using this.symm
 have hul:=h5.length
 have hat:∀s∈ss,∃i cs cs' u,ss[i]? =some s∧css'[i]? =some cs'∧us[i]? =some u∧σ s=.box cs∧tm a s=u:=λs hs=>by
  obtain⟨i,hi,e1⟩:=F0 hs;have hi2:i < us.length:=by omega
  have hc:σ s=.box (css[i]'(by omega)):=by have:=congrArg (λl=>l[i]?) hσ;simp only[BP,Ae hi,Ae (show i < css.length by omega),Cb,Ar]at this;rw[<-e1];exact this
  have hf:σ (gV s)=.val s us[i]:=by have:=congrArg (λl=>l[i]?) hv;simp only[BP,Ae hi,Cb]at this;rw[Ae (by simp;omega)]at this;simp only[List.getElem_zip,Cb,Ar]at this;rw[e1]at this;exact this
  have hg:=h.slot<|gV s;rw[hf]at hg;exact⟨i,_,css'[i]'(by omega),us[i],by rw[Ae hi,e1],Ae _,Ae hi2,hc,hg.2.symm⟩
 have hkeep:∀s∈ss,kill D σ s=σ s:=λs hs=>by obtain⟨i,cs,cs',u,_,_,_,q,_⟩:=hat s hs;exact iu (by rw[q];rfl)<|hD s hs
 have hB3:∀s∈ss,B2 s=B s:=λs hs=>hBs s (hD s hs)<|hkeep s hs
 obtain⟨β,m1,m2,m3,m4⟩:=ZZ (ss:=ss) h5 h7 hnd (by omega)
 have g1:=k3.vars (σ':=fR (kill D σ) ss css') (B':=λq=>if q∈ss then β q else B2 q) (ss:=ss) (bs0:=ss.flatMap B) (w':=w1) (St':=St1)
  (λk hk=>by obtain⟨s,hs,hks⟩:=(hmem k).1 hk;exact⟨s,hs,by rw[hB3 s hs];exact hks⟩)
  (λs hs k hk=>(hmem k).2 ⟨s,hs,by rw[<-hB3 s hs];exact hk⟩) hrow.bG h1 h2 h3 hz
  (λq hq=>⟨nM hq,Ay hq,by
   rcases TQ D σ q with e|e
   ·rw[e];rfl
   ·cases hc:D.contains q with
    |true=>rw[Vk hc];rfl
    |false=>rw[e];exact(hsafe q hq).elim (λh=>by rw[hc]at h;cases h) id⟩)
  (λs hs=>by obtain⟨i,cs,cs',u,q1,q2,q3,q4,q5⟩:=hat s hs;simp only[Aw hs];rw[rK hnd q1 q2,q5,hkeep s hs,q4];exact⟨pL (m1 i s cs' u q1 q2 q3),⟨cs,rfl⟩,⟨cs',rfl⟩,rfl,m3 s,λk hk=>h8 k (m2 s hs k hk)⟩)
  (λs hs t ht hne k hk=>by simp only[Aw hs]at hk;simp only[Aw ht];exact m4 s hs t ht hne k hk)
 have hbel:BelowK base.K w0 w1:=hb.trans ⟨h1.os,h1.tape,h1.output,h1.size,λk hk=>h1.block k ⟨hz k hk,λhm=>hnb k hm hk⟩⟩;have hst1:∀b o',base b->(St1 b o'↔St0 b o'):=λb o' hlt=>(h2 b o' (hz b hlt)<|λhm=>hnb b hm hlt).trans<|hst b o' hlt
 cases hdst:o.dst with
 |none=>exact⟨St1,_,g1,hbel,hst1,SZ hz h1.size⟩
 |some d=>obtain⟨hd1,hd2⟩:=hd d hdst;exact⟨St1,_,g1.put hd1 hd2 h6.slot AP (by simp) h6.DS.1 h6.RN,hbel,hst1,SZ hz h1.size⟩
end
def known:V->Bool
 |.undef=>false
 |.gh _ _=>false
 |.same _=>false
 |.val _ _=>false
 |.tok _=>false
 |_=>true
def cF(b:Bool):V->Bool
 |.bool c=>c==b
 |_=>false
def gD(ops:Array Oper)(j:Nat):Option Nat:=(ops[j]?).bind (·.dst)
structure LO where
 dst:Option Nat
 op:Op
 ty:TypeId
 g:Option (Option Nat×Bool)
abbrev LL(d:Nat)(o:Op)(t:TypeId):LO:=⟨some d,o,t,none⟩
def CR(ops:Array Oper)(o:Oper):LO:=⟨o.dst,o.op,o.type,o.guard.map λp=>(gD ops p.1,p.2)⟩
def LM(tb:Tb)(o:LO)(σ:PS)(K:PS->Prop):Prop:=
 match o.dst with
 |none=>False
 |some d=>match o.g with
  |none=>pc tb σ o.op∧K (upd σ d<|pv tb σ o.op)
  |some (none,_)=>False
  |some (some q,b)=>known (σ q)=true∧(cF b (σ q)=true->pc tb σ o.op∧K (upd σ d<|pv tb σ o.op))∧(cF b (σ q)=false->K (upd σ d<|.tup []))
structure Tag (p:Prop) where
 n:Nat
def jh(p:Prop)(_:Tag p):Prop:=p
def SH(P:Program)(o:LO)(f:FuncId)(a:List Operand)(σ:PS)(K:PS->Prop):Prop:=
 match o.g with
 |none=>a.all (λx=>(CC σ x).isArg)=true∧∃r,lp P σ f a r∧jh (K<|Vy σ o.dst r) ⟨0⟩
 |some (q,b)=>match q,o.dst with
  |some q,some d=>known (σ q)=true∧(cF b (σ q)=true->a.all (λx=>(CC σ x).isArg)=true∧∃r,lp P σ f a r∧jh (K<|upd σ d r) ⟨0⟩)∧(cF b (σ q)=false->K (upd σ d<|.tup []))
  |_,_=>False
def SM(o:LO)(d:Nat)(σ:PS)(K:PS->Prop)(X:Prop):Prop:=
 match o.g with
 |none=>X
 |some (none,_)=>False
 |some (some q,b)=>known (σ q)=true∧(cF b (σ q)=true->X)∧(cF b (σ q)=false->K (upd σ d<|.tup []))
def DS(c:V):Bool:=match C6 c with
 |none=>true
 |some _=>false
def XW(P:Program)(o:LO)(f:FuncId)(x:Operand)(xs:List Operand)(σ:PS)(K:PS->Prop):Prop:=
 ∃s cs cs' r,Nh σ x=.cref s 0∧σ s=.box cs∧cs.all Pj=true∧xs.all (λx=>(CC σ x).isArg)=true∧AaV P f cs (xs.map λx=>er<|CC σ x) cs' r∧K (Vy (upd σ s<|.box cs') o.dst r)
def YI(P:Program)(o:LO)(f:FuncId)(a:List Operand)(σ:PS)(K:PS->Prop):Prop:=
 match a with
 |[]=>False
 |x::xs=>match o.dst with
  |none=>o.g=none∧XW P o f x xs σ K
  |some d=>SM o d σ K<|XW P o f x xs σ K
def Ahb(P:Program)(d:Option Nat)(f:FuncId)(a:List Operand)(σ:PS)(K:PS->Prop):Prop:=
 ∃s xs cs cs',∃D:zN,a=.tmp s::xs∧σ s=.box cs∧cs.all Pj=false∧Cw cs=true∧xs.all (λx=>(CC σ x).isArg&&o6 D x)=true∧Agz P f cs (xs.map λx=>er<|CC σ x) cs'∧D.contains s=false∧(∀q,q≠s->D.contains q=true∨KT (σ q)=true)∧K (Vy (upd (kill D σ) s<|.box cs') d<|.tup [])
def Ag8(P:Program)(d:Option Nat)(f:FuncId)(a:List Operand)(σ:PS)(K:PS->Prop):Prop:=
 ∃zs x xs c us os b r,∃D:zN,a=zs++(x::(xs++c))∧(x::xs).map (CC σ)=us.map V.tok∧σ gS=.gh us os∧Cw os=true∧(zs++c).all (λx=>(CC σ x).isArg&&o6 D x)=true∧UY P f (zs.map λx=>er<|CC σ x) os (c.map λx=>er<|CC σ x) b r∧D.contains gS=false∧(∀q,q≠gS->D.contains q=true∨KT (σ q)=true)∧K (Vy (upd (kill D σ) gS<|.gh us b) d r)
def Aha(P:Program)(d:Option Nat)(f:FuncId)(a:List Operand)(σ:PS)(K:PS->Prop):Prop:=
 ∃zs x s n b e cs cs' r,a=zs++[x]∧CC σ x=.same s∧σ s=.uni e n cs∧af cs=true∧af cs'=true∧flt r=true∧zs.all (λx=>(CC σ x).isArg)=true∧UY P f (zs.map λx=>er<|CC σ x) [.own e n cs] [] [.own e b cs'] r∧K (Vy (upd σ s<|.uni e b cs') d r)
def YJ(P:Program)(d:Option Nat)(f:FuncId)(a:List Operand)(σ:PS)(K:PS->Prop):Prop:=Ahb P d f a σ K∨Ag8 P d f a σ K∨Aha P d f a σ K
def Z1(P:Program)(o:LO)(f:FuncId)(a:List Operand)(σ:PS)(K:PS->Prop):Prop:=
 match o.dst with
 |none=>o.g=none∧YJ P none f a σ K
 |some d=>SM o d σ K<|YJ P (some d) f a σ K
def Ag9(P:Program)(o:LO)(f:FuncId)(a:List Operand)(d:Nat)(σ:PS)(K:PS->Prop):Prop:=
 ∃cs,o.g=none∧DS (σ d)=true∧a.all (λx=>(CC σ x).isArg)=true∧NewAt P f (a.map λx=>erK<|CC σ x) cs∧K (upd σ d<|.box cs)
def N8(P:Program)(cns:zN)(o:LO)(f:FuncId)(a:List Operand)(σ:PS)(K:PS->Prop):Prop:=
 if o.dst.toList.any cns.contains=true then ∃d,o.dst=some d∧Ag9 P o f a d σ K else SH P o f a σ K∨YI P o f a σ K∨Z1 P o f a σ K
def U3(P:Program)(d:Option Nat)(u:Value)(a:List Operand)(σ:PS)(K:PS->Prop):Prop:=
 ∃f us ss c b r,∃D:zN,u=.func (.func f) #[] us.toArray∧ss.map σ=c.map V.box∧(ss.map λs=>σ<|gV s)=(ss.zip us).map (λp=>V.val p.1 p.2)∧ss.length=us.length∧ss.Nodup∧a.all (λx=>(CC σ x).isArg)=true∧Ab0 P σ f us c a b r∧(∀s∈ss,D.contains s=false)∧(∀q,q∉ss->D.contains q=true∨KT (σ q)=true)∧K (Vy (fR (kill D σ) ss b) d r)
def Yc(P:Program)(cns:zN)(o:LO)(u:Value)(a:List Operand)(σ:PS)(K:PS->Prop):Prop:=
 match o.dst with
 |none=>o.g=none∧U3 P none u a σ K
 |some d=>cns.contains d=false∧SM o d σ K (U3 P (some d) u a σ K)
def Sl(tb:Tb)(o:LO)(x:Operand)(d:Nat)(σ:PS)(K:PS->Prop):Prop:=
 match x with
 |.const (.slice none 0 0)=>match tb o.ty with
  |some (.sl e _ _ _)=>K<|upd σ d<|.own e 0 []
  |_=>False
 |.const (.pointer none)=>K<|upd σ d .undef
 |.tmp p=>match σ p with
  |.uni e n cs=>K<|upd (upd (kill [p] σ) p<|.dat n cs) d<|.own e n cs
  |.box _=>K<|upd σ d<|.cref p 0
  |.cref b o=>K<|upd σ d<|.cref b o
  |c=>c.isVal=true∧K (upd (C5 σ<|.tmp p) d c)
 |x=>(CC σ x).isVal=true∧K (upd (C5 σ x) d<|CC σ x)
def dc(x:Operand)(d:Nat)(σ:PS)(K:PS->Prop):Prop:=
 match x with
 |.tmp p=>match σ p with
  |.uni e n cs=>DS (kill [p] σ d)=true∧K (upd (kill [p] σ) d<|.uni e n cs)
  |_=>False
 |_=>False
def Ae9(u:Value)(dd:TyD)(d:Nat)(σ:PS)(K:PS->Prop):Prop:=
 ∃q g off e n m cs,u=.pointer (some ⟨g,off,none⟩)∧(q=gS∨q=gU)∧σ q=.gh [.slice (some ⟨g,0,none⟩) n m] [.own e n cs]∧off+dd.size<=cs.length∧0 < dd.size∧K (upd σ d<|getCells dd cs off)
def bA(tb:Tb)(t:TypeId)(x:Operand)(d:Nat)(σ:PS)(K:PS->Prop):Prop:=
 match tb t,Nh σ x with
 |some dd,.cref s off=>match C6 (σ s)with
  |some cs=>off+dd.size<=cs.length∧K (upd (upd σ s<|VT (σ s)<|Q7 dd.size cs off) d<|S9 dd cs off)
  |none=>False
 |some dd,.adr cs off=>off+dd.size<=cs.length∧K (upd σ d<|getCells dd cs off)
 |some dd,.tok u=>Ae9 u dd d σ K
 |_,_=>False
def lY(s i d:Nat)(σ:PS)(K:PS->Prop):Prop:=
 match σ s with
 |.tup cs=>match cs[i]? with
  |some c=>cs.all V.isArg=true∧K (upd (upd σ s<|.tup<|cs.set i<|dg2 c) d c)
  |none=>False
 |_=>False
def Alo(u:Value)(dd:TyD)(y:Operand)(σ:PS)(K:PS->Prop):Prop:=
 ∃g off e n m cs,∃D:zN,∃a:List V,u=.pointer (some ⟨g,off,none⟩)∧σ gS=.gh [.slice (some ⟨g,0,none⟩) n m] [.own e n cs]∧EF cs=true∧Af7 σ y a∧EF a=true∧a.length=dd.size∧off+dd.size<=cs.length∧((yT y).contains gS || D.contains gS)=false∧
  (∀q,q≠gS->D.contains q=true∨KT (C5 σ y q)=true)∧K (upd (kill D<|C5 σ y) gS<|.gh [.slice (some ⟨g,0,none⟩) n m] [.own e n (Rf cs off a)])
def kT(tb:Tb)(t:TypeId)(x y:Operand)(σ:PS)(K:PS->Prop):Prop:=
 match tb t,Nh σ x with
 |some dd,.cref s off=>match C6 (σ s)with
  |some cs=>(CC σ y).isArg=true∧(IH<|CC σ y).length=dd.size∧off+dd.size<=cs.length∧K (upd (C5 σ y) s<|VT (σ s)<|Rf cs off<|IH<|CC σ y)
  |none=>False
 |some dd,.tok u=>Alo u dd y σ K
 |_,_=>False
def X5(tb:Tb)(t:TypeId)(d:Nat)(σ:PS)(K:PS->Prop):Prop:=
 match tb t with
 |some dd=>DS (σ d)=true∧K (upd σ d<|.box<|fT dd)
 |none=>False
def boxS(x:Operand)(d:Nat)(σ:PS)(K:PS->Prop):Prop:=(CC σ x).isArg=true∧DS (C5 σ x d)=true∧K (upd (C5 σ x) d<|.box<|IH<|CC σ x)
def V9(tb:Tb)(t:TypeId)(parts:List (Nat×Operand))(d:Nat)(σ:PS)(K:PS->Prop):Prop:=
 match tb t with
 |some (.st _ z a)=>match Sb (λi=>a[i]?) parts σ z with
  |some (σ',cs)=>K<|upd σ' d<|.agg cs
  |none=>False
 |_=>False
def lD(tb:Tb)(t:TypeId)(n:Nat)(parts:List (Nat×Operand))(d:Nat)(σ:PS)(K:PS->Prop):Prop:=
 match tb t with
 |some (.sl e es _ a)=>match Sb (λi=>some (i * es,es)) parts σ (TE a es n)with
  |some (σ',cs)=>n * es<=16777216∧cs.length=n * es∧K (upd σ' d<|.own e n cs)
  |none=>False
 |_=>False
def iA(tb:Tb)(t:TypeId)(x y:Operand)(d:Nat)(σ:PS)(K:PS->Prop):Prop:=
 match tb t,CC σ x,CC σ y with
 |some (.sl e es _ a),.int _ n,.int _ m=>0<=n∧n=m∧n.toNat<=lim∧K (upd σ d<|.own e n.toNat<|TE a es n.toNat)
 |_,_,_=>False
def iB(tb:Tb)(t:TypeId)(x y:Operand)(d:Nat)(σ:PS)(K:PS->Prop):Prop:=
 match tb t,CC σ x,CC σ y with
 |some (.sl e es _ a),.int _ n,.int _ m=>0<=n∧n=m∧n.toNat<=lim∧DS (σ d)=true∧K (upd σ d<|.uni e n.toNat<|TE a es n.toNat)
 |_,_,_=>False
def c5(tb:Tb)(t a:TypeId)(x y:Operand)(d:Nat)(σ:PS)(K:PS->Prop):Prop:=
 match tb t,CC σ x,LJ (CC (C5 σ x) y)with
 |some (.sl e es _ _),.own b n cs,some (m,ds)=>a=t∧b=e∧ds.length=m * es∧n+m<=lim∧(K (upd (C5 (C5 σ x) y) d<|.own e (n+m)<|cs++ZV (CC (C5 σ x) y))∨K (upd (upd (C5 (C5 σ x) y) d<|.own e (n+m)<|cs++ZV (CC (C5 σ x) y)) d<|.own e (n+m)<|(cs++ZV (CC (C5 σ x) y)).map VY)∧(cs++ZV (CC (C5 σ x) y)).all V.DB=true)
 |_,_,_=>False
def fE(cns:zN)(o:LO)(σ:PS)(K:PS->Prop):Prop:=
 match o.dst,o.g with
 |some d,some (some q,b)=>cns.contains d=false∧known (σ q)=true∧cF b (σ q)=false∧K (upd σ d<|.tup [])
 |_,_=>False
def Wb(P:Program)(tb:Tb)(cns:zN)(o:LO)(c:Call)(σ:PS)(K:PS->Prop):Prop:=
 match c.callee,o.dst,c.args.toList,c.argTypes.toList with
 |.value x,_,a,_=>match CC σ x with
  |.fn f=>N8 P cns o f a σ K
  |.tok u=>Yc P cns o u a σ K
  |_=>fE cns o σ K
 |.builtin .append,some d,[x,y],[t,b]=>SM o d σ K<|c5 tb t b x y d σ K
 |_,_,_,_=>LM tb o σ K
def AcW(P:Program)(t:TypeId)(f:Nat):Option Nat:=match P.underlying t with
 |some (.struct b)=>match b[f]? with
  |some a=>match P.underlying a.type with
   |some (.struct _)=>none
   |some (.array _ _)=>none
   |some _=>some a.offset
   |none=>none
  |none=>none
 |_=>none
def sq(P:Program)(t:TypeId)(x:Operand)(f d:Nat)(σ:PS)(K:PS->Prop):Prop:=
 match AcW P t f,CC σ x with
 |some off,.agg cs=>match cs[off]? with
  |some c=>K<|upd σ d<|VY c
  |none=>False
 |_,_=>False
def jA(σ:PS):List Operand->Option (List Value)
 |[]=>some []
 |.tmp p::xs=>match σ (gV p)with
  |.val q u=>if q=p then(jA σ xs).map (u:: ·)else none
  |_=>none
 |_::_=>none
def mkF(f:FuncId)(b a:List Operand)(d:Nat)(σ:PS)(K:PS->Prop):Prop:=
 match b,jA σ a with
 |[],some us=>K<|upd σ d<|.tok<|.func (.func f) #[] us.toArray
 |_,_=>False
def Jm(P:Program)(tb:Tb)(cns:zN)(o:LO)(σ:PS)(K:PS->Prop):Prop:=
 match o.op,o.dst with
 |.assign x,some d=>if cns.contains d=true then o.g=none∧dc x d σ K else o.g=none∧Sl tb o x d σ K
 |.move x,some d=>if cns.contains d=true then o.g=none∧Sl tb o x d σ K else LM tb o σ K
 |.load t x,some d=>if cns.contains d=true then o.g=none∧bA tb t x d σ K else LM tb o σ K
 |.extract (.tmp s) i,some d=>o.g=none∧lY s i d σ K
 |.store t x y,none=>o.g=none∧kT tb t x y σ K
 |.alloc t,some d=>o.g=none∧X5 tb t d σ K
 |.box _ x,some d=>o.g=none∧boxS x d σ K
 |.build t ps,some d=>SM o d σ K<|V9 tb t ps.toList d σ K
 |.buildSlice t n ps,some d=>SM o d σ K<|lD tb t n ps.toList d σ K
 |.makeSlice t x y,some d=>if cns.contains d=true then o.g=none∧iB tb t x y d σ K else o.g=none∧iA tb t x y d σ K
 |.call c,_=>Wb P tb cns o c σ K
 |.field t x f,some d=>SM o d σ K<|sq P t x f d σ K
 |.makeFunc (.func f) b a,some d=>SM o d σ K<|mkF f b.toList a.toList d σ K
 |_,_=>LM tb o σ K
def dT(c:Call):Bool:=match c.callee with
 |.value _=>true
 |_=>false
def eR(nt:Nat)(bx:zN)(o:Oper):Bool:=
 match o.dst with
 |none=>true
 |some d=>decide (d < nt)&&(match o.op with
  |.alloc _|.box _ _=>bx.contains d
  |.assign _|.makeSlice _ _ _=>true
  |.call c=>dT c || !bx.contains d
  |_=> !bx.contains d)
def AbB(bx:zN)(o:Oper):Bool:=
 match o.dst with
 |none=>true
 |some d=> !bx.contains (TP+d)
def Vv(nt:Nat)(bx:zN)(o:Oper):Bool:=eR nt bx o&&AbB bx o
def eS{nt bx o}(h:Vv nt bx o=true):eR nt bx o=true:=by unfold Vv at h;rw[Aa]at h;exact h.1
theorem eU{nt:Nat}{bx:zN}{o:Oper}{d:Nat}(h:Vv nt bx o=true)(hd:o.dst=some d):TP+d∉bx:=by
 unfold Vv AbB at h
 rw[Aa,hd]at h
 have h:=h.2
 intro hk
 simp[hk]at h
def okA(bx cns:zN)(o:LO):Bool:=
 match o.op,o.dst with
 |.assign _,some d=>cns.contains d==bx.contains d
 |.makeSlice _ _ _,some d=>cns.contains d==bx.contains d
 |.call c,some d=> !dT c || cns.contains d==bx.contains d
 |_,_=>true
def XV(P:Program)(nt:Nat)(bx:zN)(ops:Array Oper)(o:Oper)(σ:PS)(K:PS->Prop):Prop:=
 ∀base St0 b a w Q,Rel P nt bx base St0 b σ a w->
  if Region.wanted o (yielded ops a.tmps)then o.wp P a w (λa' w'=>∃σ',K σ'∧Rel P nt bx base St0 b σ' a' w') Q else ∃σ',K σ'∧Rel P nt bx base St0 b σ' (a.put o.dst undef) w
section
variable {P:Program}{nt:Nat}{base:Bs}{bx:zN}{ops:Array Oper}{σ:PS}{K:PS->Prop}{o:Oper}{tb:Tb}
def EW(c:o.guard=none)(h:∀base St0 b,V5 P nt bx base St0 b o σ K):XV P nt bx ops o σ K:=by
 intro base St0 b a w Q d;have:Region.wanted o (yielded ops a.tmps)=true:=by simp[Region.wanted,c]
 rw[Aw this];exact h base St0 b a w Q d
def kO{w St t c b bs}(a:known c=true)(i:cF b c=false):¬Cr P w St t c (.bool b) bs:=by
 intro h;cases c with
 |undef=>cases a
 |gh us cs=>cases a
 |same s=>cases a
 |val s u=>cases a
 |bool c=>have:=Rj h;simp only[Value.bool.injEq]at this;subst this;simp[cF]at i
 |int k n=>have:=G2 h;cases this
 |str s=>have:=(RP h).1;cases this
 |own e n cs=>have⟨_,A,c,e,_⟩:=MK (c:=.own e n cs) rfl h;cases e
 |dat n cs=>have⟨_,A,c,e,_⟩:=MK (c:=.dat n cs) rfl h;cases e
 |agg cs=>have⟨us,e,_⟩:=h;cases e
 |tup cs=>have⟨us,e,_⟩:=h;cases e
 |arg n cs=>have⟨_,A,c,e,_⟩:=MK (c:=.arg n cs) rfl h;cases e
 |pin u n cs=>have⟨_,A,c,e,_⟩:=MK (c:=.pin u n cs) rfl h;cases e
 |fn f=>have e:=h.2;cases e
 |tok u=>cases a
 |box cs=>have⟨g,T,b',d,e,_⟩:=h;cases e
 |uni e n cs=>have⟨g,b',d,e,_⟩:=h;cases e
 |cref s o=>have⟨_,g,_,e⟩:=h;cases e
 |adr cs o=>have⟨_,g,_,e,_⟩:=h;cases e
def guard_of{St0 w0 w a}(m:Rel P nt bx base St0 w0 σ a w){j q:Nat}{b:Bool}(n:o.guard=some (j,b))(l:gD ops j=some q)(d:known (σ q)=true):Region.wanted o (yielded ops a.tmps)=cF b (σ q):=by
 have⟨t,B,h,_⟩:=m;have i:=h.slot q;have p:Region.wanted o (yielded ops a.tmps)=((match a.tmps[q]? with|some (.bool c)=>some c|_=>none:Option Bool)==some b):=by unfold gD at l;simp only[Region.wanted,n,yielded,l,Ph];rfl
 have g:∀v,a.tmps[q]? =some v->tm a q=v:=by intro v e;unfold tm;rw[CQ,e];rfl
 rw[p];cases f:σ q with
 |bool c=>
  rw[f]at i;have e:=Rj i;cases k:a.tmps[q]? with
  |none=>unfold tm at e;rw[CQ,k]at e;simp[undef]at e
  |some u=>rw[g u k]at e;subst e;simp[cF]
 |undef=>rw[f]at d;cases d
 |gh us cs=>rw[f]at d;cases d
 |same s=>rw[f]at d;cases d
 |val s u=>rw[f]at d;cases d
 |tok u=>rw[f]at d;cases d
 |_=>
  cases k:a.tmps[q]? with
  |none=>rfl
  |some u=>
   have r:=g u k;rw[f,r]at i;cases u with
   |bool c=>exact absurd i<|kO (by rfl)<|by rfl
   |_=>rfl
def Zp{St0 w0 w a}(g:Rel P nt bx base St0 w0 σ a w){d:Nat}(i:d < nt)(j:d∉bx):Rel P nt bx base St0 w0 (upd σ d<|.tup []) (a.put (some d) undef) w:=by have⟨f,B,h,k,c,l⟩:=g;have m:Ow P w f (.tup []) undef []:=⟨[],rfl,rfl,rfl⟩;exact⟨f,upd B d [],h.put i j m.slot AP (by simp) rfl (by intro b e;cases e),k,c,l⟩
def sH:Op->Bool
 |.alloc _|.box _ _|.assign _|.makeSlice _ _ _=>true
 |.call c=>dT c
 |_=>false
theorem S8{d:Nat}(h:Vv nt bx o=true)(hd:o.dst=some d)(hna:sH o.op=false):d < nt∧d∉bx:=by
 replace h:=eS h
 unfold eR at h
 rw[hd]at h
 simp only[Aa,Bf]at h
 refine⟨h.1,?_⟩
 have h2:=h.2
 cases ho:o.op<;>rw[ho]at h2 hna<;>first|(cases hna;done)|(simpa using h2;done)|(simp only[sH]at hna;simp only[hna,C3]at h2;simpa using h2;done)
theorem wh{d:Nat}(h:Vv nt bx o=true)(hd:o.dst=some d)(hna:(match o.op with|.alloc _|.box _ _=>true|_=>false)=true):d < nt∧d∈bx:=by
 replace h:=eS h
 unfold eR at h
 rw[hd]at h
 simp only[Aa,Bf]at h
 refine⟨h.1,?_⟩
 have h2:=h.2
 cases ho:o.op<;>rw[ho]at h2 hna<;>first|(cases hna;done)|(simpa using h2;done)
theorem mP{cns:zN}{d:Nat}{c:Call}(hok:Vv nt bx o=true)(hA:okA bx cns (CR ops o)=true)(hop:o.op=.call c)(hg:dT c=true)(hd:o.dst=some d):d < nt∧(cns.contains d=true->d∈bx)∧(cns.contains d=false->d∉bx):=by
 have h1:d < nt:=by
  replace hok:=eS hok
  unfold eR at hok
  rw[hd]at hok
  simp only[Aa,Bf]at hok
  exact hok.1
 have h2:cns.contains d=bx.contains d:=by
  simpa[okA,CR,hop,hd,hg]using hA
 refine⟨h1,λh=>?_,λh hm=>?_⟩
 ·rw[h2]at h;simpa using h
 ·rw[h2]at h;simp at h;exact h hm
def T0(i:Jr P tb)(l:Vv nt bx o=true)(m:sH o.op=false)(h:LM tb (CR ops o) σ K):XV P nt bx ops o σ K:=by
 simp only[LM,CR]at h;cases f:o.dst with
 |none=>rw[f]at h;exact h.elim
 |some d=>
  rw[f]at h;have⟨c,e⟩:=S8 l f m;simp only at h;cases k:o.guard with
  |none=>rw[k]at h;exact EW k<|λbase St0 t=>eY i f c e h.1 h.2
  |some g=>
   have⟨j,b⟩:=g;rw[k]at h;simp only[Cb]at h;cases n:gD ops j with
   |none=>rw[n]at h;exact h.elim
   |some q=>
    rw[n]at h;have⟨u,s,v⟩:=h;intro base St0 t a w Q p;rw[guard_of p k n u];cases r:cF b (σ q)with
    |true=>simp only[Fl];exact eY i f c e (s r).1 (s r).2 a w Q p
    |false=>simp only[Ct,Dv];rw[f];exact⟨_,v r,Zp p c e⟩
theorem Ps{d:Nat}{X:Prop}(hd:o.dst=some d)(hd1:d < nt)(hd2:d∉bx)(hX:X->∀base St0 w0,V5 P nt bx base St0 w0 o σ K)(h:SM (CR ops o) d σ K X):XV P nt bx ops o σ K:=by
 simp only[SM,CR]at h
 cases hg:o.guard with
 |none=>rw[hg]at h;exact EW hg (hX h)
 |some g=>
  obtain⟨j,b⟩:=g
  rw[hg]at h
  simp only[Cb]at h
  cases hq:gD ops j with
  |none=>rw[hq]at h;exact h.elim
  |some q=>
   rw[hq]at h
   obtain⟨h1,h2,h3⟩:=h
   intro base St0 w0 a w Q hr
   rw[guard_of hr hg hq h1]
   cases hb:cF b (σ q)with
   |true=>
    simp only[Fl]
    exact hX (h2 hb) base St0 w0 a w Q hr
   |false=>
    simp only[Ct,Dv]
    rw[hd]
    exact⟨_,h3 hb,Zp hr hd1 hd2⟩
def lH{f cal args c}(l:CC σ cal=.fn f)(p:o.op=.call c)(m:c.callee=.value cal)(e:c.args.toList=args)(k:∀d,o.dst=some d->d < nt∧d∉bx)(h:SH P (CR ops o) f args σ K):XV P nt bx ops o σ K:=by
 have i:o.op=.call {callee:=.value cal,args:=c.args,argTypes:=c.argTypes}:=by rw[p,<-m]
 simp only[SH,CR]at h;cases n:o.guard with
 |none=>rw[n]at h;have⟨s,r,t,u⟩:=h;exact EW n<|λbase St0 B=>mV l i (by rw[e];exact s) (by rw[e];exact t) k u
 |some g=>
  have⟨j,b⟩:=g;rw[n]at h;simp only[Cb]at h;split at h
  ·rename_i q d C v;have⟨s,t,u⟩:=h;have⟨x,y⟩:=k d v;intro base St0 B a w Q z;rw[guard_of z n C s];cases A:cF b (σ q)with
   |true=>simp only[Fl];have⟨D,r,F,H⟩:=t A;refine mV l i (by rw[e];exact D) (by rw[e];exact F) k ?_ a w Q z;rw[v];exact H
   |false=>simp only[Ct,Dv];rw[v];exact⟨_,u A,Zp z x y⟩
  ·exact h.elim
def lG{f cal args c}(j:CC σ cal=.fn f)(k:o.op=.call c)(b:c.callee=.value cal)(a:c.args.toList=args)(e:∀d,o.dst=some d->d < nt∧d∉bx)(h:YI P (CR ops o) f args σ K):XV P nt bx ops o σ K:=by
 have g:o.op=.call {callee:=.value cal,args:=c.args,argTypes:=c.argTypes}:=by rw[k,<-b]
 unfold YI at h;split at h
 ·exact h.elim
 ·rename_i x xs;have i:XW P (CR ops o) f x xs σ K->∀base St0 n,V5 P nt bx base St0 n o σ K:=λ⟨s,cs,cs',r,q,t,u,v,w,y⟩ base St0 n=>sS j g a q t u v w e y
  split at h
  ·exact EW (by simpa[CR]using h.1)<|i h.2
  ·rename_i d p;have⟨l,m⟩:=e d p;exact Ps p l m i h
def jy{f cal args c}(i:CC σ cal=.fn f)(A:o.op=.call c)(j:c.callee=.value cal)(a:c.args.toList=args)(g:∀d,o.dst=some d->d < nt∧d∉bx)(h:Z1 P (CR ops o) f args σ K):XV P nt bx ops o σ K:=by
 have b:o.op=.call {callee:=.value cal,args:=c.args,argTypes:=c.argTypes}:=by rw[A,<-j]
 have k:YJ P o.dst f args σ K->∀base St0 F,V5 P nt bx base St0 F o σ K:=λh base St0 F=>h.elim (λ⟨s,xs,cs,cs',D,l,m,z,p,q,t,u,v,w⟩=>sR i b (by rw[a];exact l) m p q t u v g w)
  (λh=>h.elim (λ⟨zs,x,xs,I,us,os,H,r,D,l,m,z,p,q,t,u,v,w⟩=>sP i b (zs:=zs) (xs:=x::xs) (by rw[a];exact l) m z p q t u v g w)
   (λ⟨zs,x,s,n,J,e,cs,cs',r,l,m,z,p,q,t,u,v,w⟩=>sT i b (by rw[a];exact l) m z p q t u v g w))
 unfold Z1 at h;split at h
 ·rename_i y;exact EW (by simpa[CR]using h.1)<|k<|by rw[show o.dst=none from y];exact h.2
 ·rename_i d y;have⟨B,C⟩:=g d y;exact Ps y B C (λh=>k<|by rw[show o.dst=some d from y];exact h) h
def jz{u cal args c cns}(hcv:CC σ cal=.tok u)(hop:o.op=.call c)(hcal:c.callee=.value cal)(hargs:c.args.toList=args)(hdd:∀d,o.dst=some d->cns.contains d=false->d < nt∧d∉bx)(h:Yc P cns (CR ops o) u args σ K):XV P nt bx ops o σ K:=by
 have hop':o.op=.call {callee:=.value cal,args:=c.args,argTypes:=c.argTypes}:=by rw[hop,<-hcal]
 have key:(∀d,o.dst=some d->d < nt∧d∉bx)->U3 P o.dst u args σ K->∀base St0 w0,V5 P nt bx base St0 w0 o σ K:=λhdd ⟨f,us,ss,css,css',r,D,q1,q2,q3,q4,q5,q6,q7,q8,q9,q10⟩ base St0 w0=>sU (by rw[hcv,q1]) hop' q2 q3 q4 q5 (by rw[hargs];exact q6) (by rw[hargs];exact q7) q8 q9 hdd q10
 unfold Yc at h;split at h
 ·rename_i hd;have hd:o.dst=none:=hd;exact EW (by simpa[CR]using h.1)<|key (λd e=>by rw[hd]at e;cases e)<|by rw[hd];exact h.2
 ·rename_i d hd;have hd:o.dst=some d:=hd;have⟨hd1,hd2⟩:=hdd d hd h.1;exact Ps hd hd1 hd2 (λh=>key (λd' e=>by rw[hd]at e;cases e;exact⟨hd1,hd2⟩)<|by rw[hd];exact h) h.2
def UN{c}(h:DS c=true):C6 c=none:=by
 unfold DS at h;split at h
 ·rename_i e;exact e
 ·cases h
theorem wd{cns:zN}{d:Nat}(hok:Vv nt bx o=true)(hA:okA bx cns (CR ops o)=true)(hop:(∃x,o.op=.assign x)∨∃t x y,o.op=.makeSlice t x y)(hd:o.dst=some d):d < nt∧(cns.contains d=true->d∈bx)∧(cns.contains d=false->d∉bx):=by
 have h1:d < nt:=by
  replace hok:=eS hok
  unfold eR at hok
  rw[hd]at hok
  simp only[Aa,Bf]at hok
  exact hok.1
 have h2:cns.contains d=bx.contains d:=by
  rcases hop with⟨x,hop⟩|⟨t,x,y,hop⟩<;>simpa[okA,CR,hop,hd]using hA
 refine⟨h1,λh=>?_,λh hm=>?_⟩
 ·rw[h2]at h;simpa using h
 ·rw[h2]at h;simp at h;exact h hm
theorem db{x:Operand}{d:Nat}(hop:o.op=.assign x∨o.op=.move x)(hd:o.dst=some d)(hg:o.guard=none)(hd1:d < nt)(hd2:d∉bx)(h:Sl tb (CR ops o) x d σ K):XV P nt bx ops o σ K:=by
 unfold Sl at h
 split at h
 ·split at h
  ·exact EW hg (λbase St0 w0=>zG hop hd hd1 hd2 h)
  ·exact h.elim
 ·exact EW hg (λbase St0 w0=>wo hop hd hd1 hd2 h)
 ·rename_i p
  split at h
  ·rename_i e n cs hs
   exact EW hg (λbase St0 w0=>sZ hop hs hd hd1 hd2 h)
  ·rename_i cs hs
   exact EW hg (λbase St0 w0=>iJ hop (by simp only[Nh,hs]) (.inl ⟨cs,by rw[hs];rfl⟩) hd hd1 hd2 h)
  ·rename_i b o' hs
   exact EW hg (λbase St0 w0=>iJ hop (by simp only[Nh,hs]) (.inr (by rw[hs];rfl)) hd hd1 hd2 h)
  ·exact EW hg (λbase St0 w0=>eZ hop hd hd1 hd2 h.1 h.2)
 ·exact EW hg (λbase St0 w0=>eZ hop hd hd1 hd2 h.1 h.2)
theorem nW{x:Operand}{d:Nat}(hop:o.op=.assign x)(hd:o.dst=some d)(hg:o.guard=none)(hd1:d < nt)(hd2:d∈bx)(hd0:TP+d∉bx)(h:dc x d σ K):XV P nt bx ops o σ K:=by
 unfold dc at h
 split at h
 ·rename_i p
  split at h
  ·rename_i e n cs hs
   exact EW hg (λbase St0 w0=>wm (.inl hop) hs hd hd1 hd2 hd0 (UN h.1) h.2)
  ·exact h.elim
 ·exact h.elim
theorem sV{St0:Nat->Nat->Prop}{w0:World}{t:TypeId}{x:Operand}{f d off:Nat}{cs:List V}{c:V}(hop:o.op=.field t x f)(hf:AcW P t f=some off)(hx:CC σ x=.agg cs)(hc:cs[off]? =some c)(ho:o.dst=some d)(hd:d < nt)(hn:d∉bx)(hk:K (upd σ d (VY c))):V5 P nt bx base St0 w0 o σ K:=by
 rintro a w Q ⟨St,B,h,hb,hst,hz⟩
 obtain⟨b,hs⟩:=NA h x
 rw[hx]at hs
 obtain⟨us,e1,h1⟩:=hs
 obtain⟨u,hu,hr⟩:=(Bn.rdL cs h1).get off c hc
 have how:Ow P w St (VY c) u []:=Ow.Agd hr.bJ
 have hrun:(execOp a.eval o).run P w=.ok (.value u) w:=by
  unfold AcW at hf
  split at hf
  ·rename_i gs hgs
   split at hf
   ·rename_i fd hfd
    have hu':us.toArray[fd.offset]? =some u∧(isAgg fd.type).run P w=.ok false w:=by
     split at hf
     ·cases hf
     ·cases hf
     ·rename_i d' hn1 hn2 hdt
      injection hf with hf
      subst hf
      refine⟨by simpa using hu,?_⟩
      simp only[Go.isAgg,A8,Bw hdt,AU]
      cases d'<;>first|rfl|exact absurd rfl (hn1 _)|exact absurd rfl (hn2 _ _)
     ·cases hf
    simp only[execOp,hop,Instr.field,A8,Bw hgs,AU,hfd,e1,asAgg,BA,part,hu'.2,Ct,Dv,hu'.1]
   ·cases hf
  ·cases hf
 refine JK hrun ⟨_,hk,St,upd B d [],?_,hb,hst,hz⟩
 rw[ho]
 exact h.put hd hn how.slot AP (by simp) how.DS.1 how.RN
def lI{St B hand a w}(h:HSim P nt bx base St B hand σ a w):∀{xs:List Operand}{us:List Value},jA σ xs=some us->xs.map a.eval=us
 |[],us,e=>by simp only[jA,Ar]at e;subst e;rfl
 |.tmp p::xs,us,e=>by
  unfold jA at e;split at e
  ·rename_i q u f;split at e
   ·rename_i b;subst b;cases c:jA σ xs with
    |none=>rw[c]at e;cases e
    |some vs=>rw[c]at e;simp only[Cb,Ar]at e;subst e;have d:=h.slot<|gV q;rw[f]at d;rw[AM,lI h c];have:a.eval (.tmp q)=u:=d.2.symm;rw[this]
   ·cases e
  ·cases e
 |.const _::_,us,e=>by cases e
 |.global _::_,us,e=>by cases e
 |.func _::_,us,e=>by cases e
theorem zF{St0:Nat->Nat->Prop}{w0:World}{f:FuncId}{fs caps:Array Operand}{us:List Value}{d:Nat}(hop:o.op=.makeFunc (.func f) fs caps)(hf:fs.toList=[])(hc:jA σ caps.toList=some us)(ho:o.dst=some d)(hd:d < nt)(hn:d∉bx)(hk:K (upd σ d (.tok (.func (.func f) #[] us.toArray)))):V5 P nt bx base St0 w0 o σ K:=by
 rintro a w Q ⟨St,B,h,hb,hst,hz⟩
 have e1:fs= #[]:=by rw[<-DC (xs:=fs),hf]
 have e2:caps.map a.eval=us.toArray:=by rw[<-lI h hc,<-JG,DC]
 have hrun:(execOp a.eval o).run P w=.ok (.value (.func (.func f) #[] us.toArray)) w:=by
  simp[execOp,hop,Instr.makeFunc,e1,e2]
 refine JK hrun ⟨_,hk,St,upd B d [],?_,hb,hst,hz⟩
 rw[ho]
 have how:Ow P w St (.tok (.func (.func f) #[] us.toArray)) (.func (.func f) #[] us.toArray) []:=⟨rfl,rfl,rfl⟩
 exact h.put hd hn how.slot AP (by simp) how.DS.1 how.RN
def aa(C:Jr P tb){cns:zN}(A:Vv nt bx o=true)(Z:okA bx cns (CR ops o)=true)(h:Jm P tb cns (CR ops o) σ K):XV P nt bx ops o σ K:=by
 have H:(CR ops o).g=none->o.guard=none:=by intro e;simpa[CR]using e
 have hlo:(CR ops o).op=o.op:=rfl;have hld:(CR ops o).dst=o.dst:=rfl;unfold Jm at h;rw[hlo,hld]at h;split at h
 ·rename_i x d v p;have⟨U,q2,Y⟩:=wd A Z (.inl ⟨x,v⟩) p;split at h
  ·rename_i J;exact nW v p (H h.1) U (q2 J) (eU A p) h.2
  ·rename_i J;exact db (.inl v) p (H h.1) U (Y<|by simpa using J) h.2
 ·rename_i x d v p;split at h
  ·have⟨r,l⟩:=S8 A p (by rw[v];rfl);exact db (.inr v) p (H h.1) r l h.2
  ·exact T0 C A (by rw[v];rfl) h
 ·rename_i t x d v p;split at h
  ·have⟨B,h⟩:=h;replace B:=H B;have⟨r,l⟩:=S8 A p (by rw[v];rfl);unfold bA at h;split at h
   ·rename_i dd s off I L;split at h
    ·rename_i cs hs;exact EW B<|λbase St0 O=>kt C v I L hs h.1 p r l h.2
    ·exact h.elim
   ·rename_i dd cs off I L;refine EW B<|λbase St0 O=>eY C p r l ?_ ?_
    ·rw[v];simp only[pc,I,L,Vr,Wx];exact h.1
    ·rw[v];simp only[pv,I,L,Vs,Za];exact h.2
   ·rename_i dd u I L;obtain⟨q,g,off,e,n,m,cs,rfl,-,k1,k2,k3,k4⟩:=h;exact EW B<|λbase St0 O=>sW C v I L k1 k2 k3 p r l k4
   ·exact h.elim
  ·exact T0 C A (by rw[v];rfl) h
 ·rename_i s i d v p;have⟨B,h⟩:=h;replace B:=H B;have⟨r,l⟩:=S8 A p (by rw[v];rfl);unfold lY at h;split at h
  ·rename_i cs hs;split at h
   ·rename_i c J;exact EW B<|λbase St0 O=>mW v p r l hs J h.1 h.2
   ·exact h.elim
  ·exact h.elim
 ·rename_i t x y v p;have⟨B,h⟩:=h;replace B:=H B;unfold kT at h;split at h
  ·rename_i dd s off I L;split at h
   ·rename_i cs hs;have⟨T,R,N,W⟩:=h;exact EW B<|λbase St0 O=>sY C v I L hs T R N p W
   ·exact h.elim
  ·rename_i dd u I L;obtain⟨g,off,e,n,m,cs,D,vc,rfl,T,R,N,W,h5,h6,h7,h8,h9⟩:=h;exact EW B<|λbase St0 O=>wq C v I L T R N W h5 h6 p D h7 h8 h9
  ·exact h.elim
 ·rename_i t d v p;have⟨B,h⟩:=h;replace B:=H B;have⟨r,l⟩:=wh A p (by rw[v]);unfold X5 at h;split at h
  ·rename_i dd I;exact EW B<|λbase St0 O=>sN C v I p r l (eU A p) (UN h.1) h.2
  ·exact h.elim
 ·rename_i t x d v p;have⟨B,h⟩:=h;replace B:=H B;have⟨r,l⟩:=wh A p (by rw[v]);have⟨T,R,N⟩:=h;exact EW B<|λbase St0 O=>zE v p r l (eU A p) T (UN R) N
 ·rename_i t ps d v p;have⟨r,l⟩:=S8 A p (by rw[v];rfl);refine Ps p r l (λh base St0 O=>?_) h;unfold V9 at h;split at h
  ·rename_i n z fs I;split at h
   ·rename_i σ' cs hf;exact sO C v I hf p r l h
   ·exact h.elim
  ·exact h.elim
 ·rename_i t n ps d v p;have⟨r,l⟩:=S8 A p (by rw[v];rfl);refine Ps p r l (λh base St0 O=>?_) h;unfold lD at h;split at h
  ·rename_i e es eb ez I;split at h
   ·rename_i σ' cs hf;have⟨T,R,N⟩:=h;exact eX C v I T hf R p r l N
   ·exact h.elim
  ·exact h.elim
 ·rename_i t x y d v p;have⟨r,hd3,hd4⟩:=wd A Z (.inr ⟨t,x,y,v⟩) p;split at h
  ·rename_i J;have l:=hd3 J;have⟨B,h⟩:=h;replace B:=H B;unfold iB at h;split at h
   ·rename_i e es eb ez k n k' m I M hy;obtain⟨h0,rfl,R,W,N⟩:=h;obtain⟨n,rfl⟩:=JV h0;exact EW B<|λbase St0 O=>sX C v I M hy (by simpa using R) p r l (eU A p) (UN W)<|by simpa using N
   ·exact h.elim
  ·rename_i J;have l:=hd4 (by simpa using J);have⟨B,h⟩:=h;replace B:=H B;unfold iA at h;split at h
   ·rename_i e es eb ez k n k' m I M hy;obtain⟨h0,rfl,R,N⟩:=h;obtain⟨n,rfl⟩:=JV h0;exact EW B<|λbase St0 O=>wn C v I M hy (by simpa using R) p r l<|by simpa using N
   ·exact h.elim
 ·rename_i d c v;unfold Wb at h;split at h
  ·rename_i x F;have X:dT c=true:=by unfold dT;rw[F]
   split at h
   ·rename_i f S;unfold N8 at h;split at h
    ·rename_i J;have⟨d',hd',cs,h0,T,R,N,W⟩:=h;have l:o.dst=some d':=hd';have⟨U,q2,Y⟩:=mP A Z v X l;have hcc:cns.contains d'=true:=by have:(CR ops o).dst=some d':=hd';rw[this]at J;simpa using J
     exact EW (H h0)<|λbase St0 O=>sQ S (by rw[v,<-F]) R N l U (q2 hcc) (eU A l) (UN T) W
    ·rename_i J;have hdd:∀d,o.dst=some d->d < nt∧d∉bx:=λd p=>by have⟨U,q2,Y⟩:=mP A Z v X p;refine⟨U,Y ?_⟩;have:(CR ops o).dst=some d:=p;rw[this]at J;simpa using J
     rcases h with h|h|h
     ·exact lH S v F rfl hdd h
     ·exact lG S v F rfl hdd h
     ·exact jy S v F rfl hdd h
   ·rename_i u S;exact jz S v F rfl (λd p J=>by have⟨U,q2,Y⟩:=mP A Z v X p;exact⟨U,Y J⟩) h
   ·unfold fE at h;split at h
    ·rename_i d q b p B;have p:o.dst=some d:=p;have⟨U,q2,Y⟩:=mP A Z v X p;cases hgo':o.guard with
     |none=>simp[CR,hgo']at B
     |some g=>have⟨j,b'⟩:=g;simp only[CR,hgo',Cb,Ar,Cq]at B;have⟨hg1,hg2⟩:=B;subst hg2;intro base St0 O a w Q hr;rw[guard_of hr hgo' hg1 h.2.1,h.2.2.1];simp only[Ct,Dv];rw[p];exact⟨_,h.2.2.2,Zp hr U<|Y h.1⟩
    ·exact h.elim
  ·rename_i d' x y t t' F p hargs hts;have⟨r,l⟩:=S8 A p (by rw[v];simp only[sH,dT,F]);refine Ps p r l (λh base St0 O=>?_) h;unfold c5 at h;split at h
   ·rename_i e es eb ez e' n cs m ds I M hy;obtain⟨rfl,rfl,T,R,N⟩:=h
    have hop:o.op=.call {callee:=.builtin .append,args:= #[x,y],argTypes:= #[t',t']}:=by
     rw[v];have e1:c.args= #[x,y]:=by rw[<-DC (xs:=c.args),hargs]
     have e2:c.argTypes= #[t',t']:=by rw[<-DC (xs:=c.argTypes),hts]
     rw[<-F,<-e1,<-e2]
    rcases N with N|⟨N,W⟩
    ·exact eW C hop I M hy T R p r l N
    ·exact AfG (eW (K:=λσ'=>σ'=_) C hop I M hy T R p r l rfl) (by rw[upd_same];exact ki<|Aa1 _ W) (by simp) N
   ·exact h.elim
  ·rename_i hne _;exact T0 C A (by rw[v];simp only[sH,dT]) h
 ·rename_i t x f d v p;have⟨r,l⟩:=S8 A p (by rw[v];rfl);refine Ps p r l (λh base St0 O=>?_) h;unfold sq at h;split at h
  ·rename_i off cs hf M;split at h
   ·rename_i c J;exact sV v hf M J p r l h
   ·exact h.elim
  ·exact h.elim
 ·rename_i f fs caps d v p;have⟨r,l⟩:=S8 A p (by rw[v];rfl);refine Ps p r l (λh base St0 O=>?_) h;unfold mkF at h;split at h
  ·rename_i us hfs J;exact zF v hfs J p r l h
  ·exact h.elim
 ·cases p:o.dst with
  |none=>simp only[LM,CR]at h;rw[p]at h;exact h.elim
  |some d=>exact T0 C A (by clear Z h;cases v:o.op<;>first|rfl|(exfalso;simp_all;done)|(exfalso;rename_i M _ _ _;exact M _ _ _ _ v p)|(exfalso;rename_i M _ _ _ _;exact M _ _ _ _ v p)|(exfalso;rename_i M _ _ _ _ _;exact M _ _ _ _ v p)|(exfalso;rename_i M _ _ _ _ _ _;exact M _ _ _ _ v p)|(exfalso;simp_all;rename_i M _ _;exact M _ _ _ _ rfl rfl rfl rfl)|(exfalso;simp_all;rename_i M _;exact M _ _ _ _ rfl rfl rfl rfl)) h
end
end
section
def bo(P:Program)(tb:Tb)(cns:zN):List LO->PS->(PS->Prop)->Prop
 |[],σ,K=>K σ
 |o::os,σ,K=>Jm P tb cns o σ<|λσ'=>bo P tb cns os σ' K
def RE{K K'}(c:∀σ,K σ->K' σ){o:LO}{d:Nat}{σ:PS}{X a:Prop}(b:X->a)(h:SM o d σ K X):SM o d σ K' a:=by
 unfold SM at *;split at h
 ·exact b h
 ·exact h
 ·exact⟨h.1,λe=>b<|h.2.1 e,λe=>c _<|h.2.2 e⟩
def uK{P tb cns K K'}(hk:∀σ,K σ->K' σ){o:LO}{σ:PS}(h:Jm P tb cns o σ K):Jm P tb cns o σ K':=by
 have hp:∀{o:LO}{σ:PS},LM tb o σ K->LM tb o σ K':=by
  intro o σ h;unfold LM at *;split at h
  ·exact h
  ·split at h
   ·exact⟨h.1,hk _ h.2⟩
   ·exact h
   ·exact⟨h.1,λe=>⟨(h.2.1 e).1,hk _ (h.2.1 e).2⟩,λe=>hk _<|h.2.2 e⟩
 have hcS:∀{o:LO}{f:FuncId}{args:List Operand}{σ:PS},SH P o f args σ K->SH P o f args σ K':=by
  intro o f args σ h;unfold SH at *;split at h
  ·exact⟨h.1,h.2.choose,h.2.choose_spec.1,hk _ h.2.choose_spec.2⟩
  ·split at h
   ·exact⟨h.1,λe=>⟨(h.2.1 e).1,(h.2.1 e).2.choose,(h.2.1 e).2.choose_spec.1,hk _ (h.2.1 e).2.choose_spec.2⟩,λe=>hk _<|h.2.2 e⟩
   ·exact h
 have ha:∀{o:LO}{x:Operand}{d:Nat}{σ:PS},Sl tb o x d σ K->Sl tb o x d σ K':=by
  intro o x d σ h;unfold Sl at *;split at h
  ·split at h
   ·exact hk _ h
   ·exact h
  ·exact hk _ h
  ·split at h
   ·exact hk _ h
   ·exact hk _ h
   ·exact hk _ h
   ·exact⟨h.1,hk _ h.2⟩
  ·exact⟨h.1,hk _ h.2⟩
 have hF:∀{o:LO}{f:FuncId}{args:List Operand}{σ:PS},N8 P cns o f args σ K->N8 P cns o f args σ K':=by
  intro o f args σ h;unfold N8 at *;split at h
  ·rename_i hc;rw[Aw hc];have⟨d,hd,cs,q0,q1,q2,q3,q4⟩:=h;exact⟨d,hd,cs,q0,q1,q2,q3,hk _ q4⟩
  ·rename_i hc;rw[Ay hc];rcases h with h|h|h
   ·exact .inl<|hcS h
   ·refine .inr (.inl ?_);unfold YI at *;split at h
    ·exact h
    ·rename_i x xs;have key:XW P o f x xs σ K->XW P o f x xs σ K':=λ⟨s,cs,cs',r,q1,q2,q3,q4,q5,q6⟩=>⟨s,cs,cs',r,q1,q2,q3,q4,q5,hk _ q6⟩
     split at h
     ·exact⟨h.1,key h.2⟩
     ·exact RE hk key h
   ·refine .inr (.inr ?_)
    have key:∀{d},YJ P d f args σ K->YJ P d f args σ K':=λh=>h.imp (λ⟨s,xs,cs,cs',D,q1,q2,q3,q4,q5,q6,q7,q8,q9⟩=>⟨s,xs,cs,cs',D,q1,q2,q3,q4,q5,q6,q7,q8,hk _ q9⟩)
     (Or.imp (λ⟨zs,x,xs,ys,us,os,os',r,D,q1,q2,q3,q4,q5,q6,q7,q8,q9⟩=>⟨zs,x,xs,ys,us,os,os',r,D,q1,q2,q3,q4,q5,q6,q7,q8,hk _ q9⟩)
      (λ⟨zs,x,s,n,n',e,cs,cs',r,q1,q2,q3,q4,q5,q6,q7,q8,q9⟩=>⟨zs,x,s,n,n',e,cs,cs',r,q1,q2,q3,q4,q5,q6,q7,q8,hk _ q9⟩))
    unfold Z1 at *;split at h
    ·exact⟨h.1,key h.2⟩
    ·exact RE hk key h
 have hu:∀{x:Operand}{d:Nat}{σ:PS},dc x d σ K->dc x d σ K':=by
  intro x d σ h;unfold dc at *;split at h
  ·split at h
   ·exact⟨h.1,hk _ h.2⟩
   ·exact h
  ·exact h
 unfold Jm at *;split at h
 ·split at h
  ·rename_i hc;rw[Aw hc];exact⟨h.1,hu h.2⟩
  ·rename_i hc;rw[Ay hc];exact⟨h.1,ha h.2⟩
 ·split at h
  ·rename_i hc;rw[Aw hc];exact⟨h.1,ha h.2⟩
  ·rename_i hc;rw[Ay hc];exact hp h
 ·split at h
  ·rename_i hc;rw[Aw hc];refine⟨h.1,?_⟩;have h2:=h.2;unfold bA at *;split at h2
   ·split at h2
    ·exact⟨h2.1,hk _ h2.2⟩
    ·exact h2
   ·exact⟨h2.1,hk _ h2.2⟩
   ·have⟨q,g,off,e,n,m,cs,k0,hq,k1,k2,k3,k4⟩:=h2;exact⟨q,g,off,e,n,m,cs,k0,hq,k1,k2,k3,hk _ k4⟩
   ·exact h2
  ·rename_i hc;rw[Ay hc];exact hp h
 ·refine⟨h.1,?_⟩;have h2:=h.2;unfold lY at *;split at h2
  ·split at h2
   ·exact⟨h2.1,hk _ h2.2⟩
   ·exact h2
  ·exact h2
 ·refine⟨h.1,?_⟩;have h2:=h.2;unfold kT at *;split at h2
  ·split at h2
   ·exact⟨h2.1,h2.2.1,h2.2.2.1,hk _ h2.2.2.2⟩
   ·exact h2
  ·have⟨g,off,e,n,m,cs,D,vc,q1,q2,q3,q4,q5,q6,q7,q8,q9,q10⟩:=h2;exact⟨g,off,e,n,m,cs,D,vc,q1,q2,q3,q4,q5,q6,q7,q8,q9,hk _ q10⟩
  ·exact h2
 ·refine⟨h.1,?_⟩;have h2:=h.2;unfold X5 at *;split at h2
  ·exact⟨h2.1,hk _ h2.2⟩
  ·exact h2
 ·exact⟨h.1,h.2.1,h.2.2.1,hk _ h.2.2.2⟩
 ·refine RE hk (λh2=>?_) h;unfold V9 at *;split at h2
  ·split at h2
   ·exact hk _ h2
   ·exact h2
  ·exact h2
 ·refine RE hk (λh2=>?_) h;unfold lD at *;split at h2
  ·split at h2
   ·exact⟨h2.1,h2.2.1,hk _ h2.2.2⟩
   ·exact h2
  ·exact h2
 ·split at h
  ·rename_i hc;rw[Aw hc];refine⟨h.1,?_⟩;have h2:=h.2;unfold iB at *;split at h2
   ·exact⟨h2.1,h2.2.1,h2.2.2.1,h2.2.2.2.1,hk _ h2.2.2.2.2⟩
   ·exact h2
  ·rename_i hc;rw[Ay hc];refine⟨h.1,?_⟩;have h2:=h.2;unfold iA at *;split at h2
   ·exact⟨h2.1,h2.2.1,h2.2.2.1,hk _ h2.2.2.2⟩
   ·exact h2
 ·unfold Wb at *;split at h
  ·split at h
   ·exact hF h
   ·have key:∀{d u args},U3 P d u args σ K->U3 P d u args σ K':=λ⟨f,us,ss,css,css',r,D,q1,q2,q3,q4,q5,q6,q7,q8,q9,q10⟩=>⟨f,us,ss,css,css',r,D,q1,q2,q3,q4,q5,q6,q7,q8,q9,hk _ q10⟩
    unfold Yc at *;split at h
    ·exact⟨h.1,key h.2⟩
    ·exact⟨h.1,RE hk key h.2⟩
   ·unfold fE at *;split at h
    ·exact⟨h.1,h.2.1,h.2.2.1,hk _ h.2.2.2⟩
    ·exact h
  ·refine RE hk (λh2=>?_) h;unfold c5 at *;split at h2
   ·exact⟨h2.1,h2.2.1,h2.2.2.1,h2.2.2.2.1,h2.2.2.2.2.imp (hk _)<|λh=>⟨hk _ h.1,h.2⟩⟩
   ·exact h2
  ·exact hp h
 ·refine RE hk (λh2=>?_) h;unfold sq at *;split at h2
  ·split at h2
   ·exact hk _ h2
   ·exact h2
  ·exact h2
 ·refine RE hk (λh2=>?_) h;unfold mkF at *;split at h2
  ·exact hk _ h2
  ·exact h2
 ·exact hp h
def Oy(P:Program)(nt:Nat)(bx:zN)(c:Code)(σ:PS)(Q:Exit->PS->Prop):Prop:=
 ∀base St0 b a w,Rel P nt bx base St0 b σ a w->c.wp P (λe a' w'=>∃σ',Q e σ'∧Rel P nt bx base St0 b σ' a' w') a w
def WP(K:PS->Prop)(Q:Exit->PS->Prop):Exit->PS->Prop
 |.normal,σ=>K σ
 |e,σ=>Q e σ
def Yb(b:Nat)(Q:Exit->PS->Prop):Exit->PS->Prop
 |.exit a,σ=>if a=b then Q .normal σ else Q (.exit a) σ
 |e,σ=>Q e σ
section
variable {P:Program}{nt:Nat}{bx:zN}{σ:PS}{Q:Exit->PS->Prop}{tb:Tb}
def ab(d:Jr P tb){cns:zN}{ops:Array Oper}{base:Bs}{St0:Nat->Nat->Prop}{f:World}{R:Exit->Act->World->Prop}{K:PS->Prop}(g:∀σ' a' w',K σ'->Rel P nt bx base St0 f σ' a' w'->R .normal a' w'):
  ∀(os:List Oper) (σ:PS) (a:Act) (w:World),os.all (Vv nt bx)=true->(os.map<|CR ops).all (okA bx cns)=true->bo P tb cns (os.map<|CR ops) σ K->Rel P nt bx base St0 f σ a w->wpList P ops R os a w
 |[],σ,a,w,_,_,h,i=>g σ a w h i
 |o::os,σ,a,w,b,e,h,i=>by
  simp only[By,AM,Aa]at b e;have c:=aa d b.1 e.1 h base St0 f a w R i;unfold wpList;split
  ·rename_i j;rw[Aw j]at c;exact .inl<|jb (λa' w' ⟨σ',k,l⟩=>ab d g os σ' a' w' b.2 e.2 k l) _ c
  ·rename_i j;rw[Ay j]at c;have⟨σ',k,l⟩:=c;exact ab d g os σ' _ w b.2 e.2 k l
def jE(b:Jr P tb)(cns:zN){d:Nat}{ops:Array Oper}(c:ops.toList.all (Vv nt bx)=true)(e:(ops.toList.map<|CR ops).all (okA bx cns)=true)(h:bo P tb cns (ops.toList.map<|CR ops) σ (Q .normal)):Oy P nt bx (.region d ops false) σ Q:=
 λbase St0 j a w f=>wp_region_list<|ab b (λσ' a' w' g i=>⟨σ',g,i⟩) ops.toList σ a w c e h f
def og{c Q'}(h:Oy P nt bx c σ Q)(b:∀e σ,Q e σ->Q' e σ):Oy P nt bx c σ Q':=
 λbase St0 d a w f=>FF (h base St0 d a w f)<|λe a w ⟨σ',g,i⟩=>⟨σ',b e σ' g,i⟩
def r6{x y}(h:Oy P nt bx x σ (WP (λσ'=>Oy P nt bx y σ' Q) Q)):Oy P nt bx (.seq x y) σ Q:=by
 intro base St0 b a w f;refine wp_seq<|FF (h base St0 b a w f) ?_;rintro(_|g|l|_|c|_) a' w' ⟨σ',d,e⟩
 ·exact d base St0 b a' w' e
 all_goals exact⟨σ',d,e⟩
def oh(h:Q .normal σ):Oy P nt bx .skip σ Q:=λbase St0 c a w b=>wp_skip ⟨σ,h,b⟩
def oe{id}(h:Q (.exit id) σ):Oy P nt bx (.exit id) σ Q:=λbase St0 c a w b=>wp_exit ⟨σ,h,b⟩
def rY(h:Q .ret σ):Oy P nt bx .ret σ Q:=λbase St0 c a w b=>wp_ret ⟨σ,h,b⟩
def lP{id c}(h:Oy P nt bx c σ (Yb id Q)):Oy P nt bx (.block id c) σ Q:=by
 intro base St0 f a w g;refine wp_block<|FF (h base St0 f a w g) ?_;rintro(_|i|l|_|c|_) a' w' ⟨σ',b,d⟩
 ·exact⟨σ',b,d⟩
 ·simp only[Yb]at b;simp only[Exit.inBlock];split at b
  ·rename_i e;rw[Aw e];exact⟨σ',b,d⟩
  ·rename_i e;rw[Ay e];exact⟨σ',b,d⟩
 all_goals exact⟨σ',b,d⟩
def od{c x y b}(i:CC σ c=.bool b)(j:b=true->Oy P nt bx x σ Q)(k:b=false->Oy P nt bx y σ Q):Oy P nt bx (.cond c x y) σ Q:=by
 intro base St0 f a w d;have l:a.eval c=.bool b:=by have⟨m,B,h,_⟩:=d;have⟨q,g⟩:=NA h c;rw[i]at g;exact Rj g
 exact wp_cond_split l (λe=>j e base St0 f a w d)<|λe=>k e base St0 f a w d
end
section
variable {P:Program}{nt:Nat}{bx:zN}{σ:PS}{Q:Exit->PS->Prop}{tb:Tb}
end
inductive LC where
 |skip
 |rgn (cns:zN) (ops:List LO)
 |drw (cns:zN) (fps:List (zN×zN)) (es:List zN) (ops:List LO)
 |seq (a b:LC)
 |cond (c:Operand) (a b:LC)
 |blk (id:Nat) (a:LC)
 |loop (D:zN) (a:LC)
 |exit (id:Nat)
 |ret
 |bad
def Xz(o:Oper):zN:=(o.after.toList.filter<|Region.binds .any).map (·.on)
def F3:Code->LC
 |.skip=>.skip
 |.region _ ops d=>if d then .drw [] [] (ops.toList.map Xz) (ops.toList.map<|CR ops)else .rgn [] (ops.toList.map<|CR ops)
 |.seq a b=>.seq (F3 a)<|F3 b
 |.cond c a b=>.cond c (F3 a)<|F3 b
 |.block e a=>.blk e<|F3 a
 |.loop a=>.loop []<|F3 a
 |.exit e=>.exit e
 |.ret=>.ret
 |_=>.bad
def Uc:LC->LC
 |.skip=>.skip
 |.rgn _ ops=>.rgn [] ops
 |.drw _ _ es ops=>.drw [] [] es ops
 |.seq a b=>.seq (Uc a)<|Uc b
 |.cond c a b=>.cond c (Uc a)<|Uc b
 |.blk d a=>.blk d<|Uc a
 |.loop _ a=>.loop []<|Uc a
 |.exit d=>.exit d
 |.ret=>.ret
 |.bad=>.bad
def okC(nt:Nat)(bx:zN):Code->Bool
 |.region _ ops _=>ops.toList.all<|Vv nt bx
 |.seq a b=>okC nt bx a&&okC nt bx b
 |.cond _ a b=>okC nt bx a&&okC nt bx b
 |.block _ a=>okC nt bx a
 |.loop a=>okC nt bx a
 |_=>true
def okL(bx:zN):LC->Bool
 |.rgn cns ops=>ops.all<|okA bx cns
 |.drw cns _ _ ops=>ops.all<|okA bx cns
 |.seq a b=>okL bx a&&okL bx b
 |.cond _ a b=>okL bx a&&okL bx b
 |.blk _ a=>okL bx a
 |.loop _ a=>okL bx a
 |_=>true
def LS(P:Program)(nt:Nat)(bx:zN)(l:LC)(σ:PS)(Q:Exit->PS->Prop):Prop:=∀c,F3 c=Uc l->okC nt bx c=true->okL bx l=true->Oy P nt bx c σ Q
section
variable {P:Program}{nt:Nat}{bx:zN}{σ:PS}{Q:Exit->PS->Prop}{tb:Tb}
def vQ(b:Jr P tb){cns:zN}{ops:List LO}(h:bo P tb cns ops σ (Q .normal)):LS P nt bx (.rgn cns ops) σ Q:=by
 intro c a e g;cases c<;>first|cases a|skip
 rename_i j f d;simp only[F3,Uc]at a;split at a
 ·cases a
 ·rename_i i;simp only[LC.rgn.injEq,Nz]at a;have:d=false:=by simpa using i
  subst this;exact jE b cns e (by rw[a];exact g) (by rw[a];exact h)
def eF{x y}(h:LS P nt bx x σ (WP (λσ'=>LS P nt bx y σ' Q) Q)):LS P nt bx (.seq x y) σ Q:=by
 intro c d e f;cases c<;>first|cases d|skip
 ·simp only[F3,Uc]at d;split at d<;>cases d
 ·rename_i a b;simp only[F3,Uc,LC.seq.injEq]at d;simp only[okC,Aa]at e;simp only[okL,Aa]at f;refine r6<|og (h a d.1 e.1 f.1) ?_;rintro(_|i|l|_|c|_) σ' g
  ·exact g b d.2 e.2 f.2
  all_goals exact g
def Ao{x y}(h:∀K:PS->Prop,(∀σ',LS P nt bx y σ' Q->K σ')->LS P nt bx x σ (WP K Q)):LS P nt bx (.seq x y) σ Q:=eF<|h _ λ_ h=>h
def DF(h:Q .normal σ):LS P nt bx .skip σ Q:=by
 intro c a b d;cases c<;>first|cases a|skip
 ·exact oh h
 ·simp only[F3,Uc]at a;split at a<;>cases a
def AG{id}(h:Q (.exit id) σ):LS P nt bx (.exit id) σ Q:=by
 intro c a b d;cases c<;>first|(cases a;done)|skip
 ·simp only[F3,Uc]at a;split at a<;>cases a
 ·simp only[F3,Uc,LC.exit.injEq]at a;subst a;exact oe h
def Ag(h:Q .ret σ):LS P nt bx .ret σ Q:=by
 intro c a b d;cases c<;>first|(cases a;done)|skip
 ·simp only[F3,Uc]at a;split at a<;>cases a
 ·exact rY h
def A4{id x}(h:LS P nt bx x σ (Yb id Q)):LS P nt bx (.blk id x) σ Q:=by
 intro c a b d;cases c<;>first|(cases a;done)|skip
 ·simp only[F3,Uc]at a;split at a<;>cases a
 ·simp only[F3,Uc,LC.blk.injEq]at a;obtain⟨rfl,a⟩:=a;exact lP<|h _ a b d
def qL{c x y b}(g:CC σ c=.bool b)(h:b=true->LS P nt bx x σ Q)(i:b=false->LS P nt bx y σ Q):LS P nt bx (.cond c x y) σ Q:=by
 intro c d a f;cases c<;>first|(cases d;done)|skip
 ·simp only[F3,Uc]at d;split at d<;>cases d
 ·simp only[F3,Uc,LC.cond.injEq]at d;obtain⟨rfl,j,k⟩:=d;simp only[okC,Aa]at a;simp only[okL,Aa]at f;exact od g (λe=>h e _ j a.1 f.1)<|λe=>i e _ k a.2 f.2
end
section
variable {P:Program}{nt:Nat}{bx:zN}{σ:PS}{Q:Exit->PS->Prop}{tb:Tb}
end
def Qj:ResultVar->Nat
 |.tmp t=>t
 |.cell t _=>t
def resV(tb:Tb)(σ:PS):ResultVar->Option V
 |.tmp t=>if(σ t).isArg=true then some (σ t)else none
 |.cell t ty=>match σ t,tb ty with
  |.box cs,some (.st n _ _)=>if cs.length=n then some (.agg cs)else none
  |.box [c],some (.sc _)=>some c
  |.box [c],some (.sl ..)=>some c
  |_,_=>none
def te(tb:Tb)(σ:PS):List ResultVar->Option (List V)
 |[]=>some []
 |r::rs=>match resV tb σ r,te tb σ rs with
  |some c,some cs=>some<|c::cs
  |_,_=>none
def fo(tb:Tb)(σ:PS)(rs:List ResultVar):Option V:=
 match te tb σ rs with
 |some [c]=>some c
 |some cs=>some<|.tup cs
 |none=>none
section
variable {P:Program}{nt:Nat}{base:Bs}{bx:zN}{St:Nat->Nat->Prop}{B:Nat->zN}{σ:PS}{a:Act}{w:World}{tb:Tb}
def Wz(b:Array Value):ResultVar->Sem Value
 |.tmp t=>pure<|b.getD t undef
 |.cell a t=>do loadVar t (<-asAddr (b.getD a undef))
def res_one(D:Jr P tb)(h:HSim P nt bx base St B [] σ a w){r:ResultVar}{c:V}(b:resV tb σ r=some c):
  ∃v bs,(Wz a.tmps r).run P w=.ok v w∧Ow P w St c v bs∧bs.Nodup∧(∀g∈bs,g∈B (Qj r))∧c.isArg=true:=by
 cases r with
 |tmp t=>
  simp only[resV]at b;split at b
  ·rename_i J;simp only[Ar]at b;subst b;exact⟨_,B t,rfl,(h.slot t).ow<|Mj J,h.nodup t,λ_ h=>h,J⟩
  ·cases b
 |cell t ty=>
  have O:=h.slot t;have F:=h.nodup t;cases k:σ t with
  |box cs=>
   rw[k]at O;have⟨g,T,C,l,U,W,L,Q,e5⟩:=O;rw[Q]at F;have p:=(BF.1 F).2;have s:∀q∈C,q∈B t:=λq X=>by rw[Q];exact A3 _ X
   have H:a.tmps.getD t undef=.pointer (some ⟨g,0,none⟩):=U;have m:∀(j:Nat) (u:Value),l.toList[j]? =some u->w.cell? ⟨g,0+j,none⟩=some u:=by intro j u K;simpa[World.cell?,W]using K
   have y:∀(o:V) (dd:TyD),cs=[o]->tb ty=some dd->dd.Xy=false->∃v bs,(Wz a.tmps<|.cell t ty).run P w=.ok v w∧Ow P w St o v bs∧bs.Nodup∧(∀g∈bs,g∈B t)∧o.isArg=true:=by intro o dd M i N;subst M;have⟨u,Y,b1,b2,Z,R,q3,q4,q5⟩:=L;obtain⟨rfl,rfl⟩:=q5;have K:=m 0 u (by rw[Z];rfl);rw[AR]at R;subst R;refine⟨u,C,?_,q4,p,s,by cases o<;>first|rfl|cases q3⟩;simp only[CG]at K;simp[Wz,H,asAddr,loadVar,(D _ _ i).isAgg,N,K]
   cases i:tb ty with
   |none=>simp only[resV,k,i]at b;cases cs with
    |nil=>cases b
    |cons x xs=>cases xs<;>cases b
   |some d=>
    cases d with
    |st n z f=>
     simp only[resV,k,i]at b;split at b
     ·rename_i hl;simp only[Ar]at b;subst b;refine⟨.agg l,C,?_,⟨l.toList,by simp,L⟩,p,s,rfl⟩;have A:=D _ _ i;have S:=Fk (P:=P) (w:=w) ⟨g,0,none⟩ l.toList (λj v J=>by rw[add_plain];exact m j v J);have I:l.toList.length=n:=by rw[L.length,hl]
      rw[I]at S;simp only[Wz,H,asAddr,loadVar,A8,BA,AU,A.isAgg,TyD.Xy,Fl,A.sizeOf,TyD.size,S,DC]
     ·cases b
    |sc z=>
     match cs,k,b with
     |[o],k,b=>simp only[resV,k,i,Ar]at b;subst b;exact y o _ rfl i rfl
     |[],k,b=>simp only[resV,k,i]at b;cases b
     |_::_::_,k,b=>simp only[resV,k,i]at b;cases b
    |sl e es eb ez=>
     match cs,k,b with
     |[o],k,b=>simp only[resV,k,i,Ar]at b;subst b;exact y o _ rfl i rfl
     |[],k,b=>simp only[resV,k,i]at b;cases b
     |_::_::_,k,b=>simp only[resV,k,i]at b;cases b
  |_=>simp only[resV,k]at b;cases b
def fp(b:Jr P tb)(h:HSim P nt bx base St B [] σ a w):∀(rs:List ResultVar) (cs:List V),(rs.map Qj).Nodup->te tb σ rs=some cs->
  ∃us bs,(rs.mapM<|Wz a.tmps).run P w=.ok us w∧LK P w St cs us bs∧bs.Nodup∧(∀g∈bs,∃r∈rs,g∈B (Qj r))∧us.length=cs.length∧(∀c,cs=[c]->∃u,us=[u]∧Ow P w St c u bs)
 |[],cs,_,e=>by simp only[te,Ar]at e;subst e;exact⟨[],[],rfl,⟨rfl,rfl⟩,AP,by simp,rfl,by simp⟩
 |r::rs,cs,i,e=>by
  simp only[te]at e;split at e
  ·rename_i c cs' s j;simp only[Ar]at e;subst e;simp only[AM,BF]at i;have⟨v,b1,t,p,z,s1,_⟩:=res_one b h s;have⟨us,b2,A,q,C,s2,D,K⟩:=fp b h rs cs' i.2 j;refine⟨v::us,b1++b2,?_,⟨v,us,b1,b2,rfl,rfl,p,q⟩,?_,?_,by simp[D],?_⟩
   ·simp only[List.mapM_cons,A8,t,AU,A,BA]
   ·refine AA.2 ⟨z,C,λx F y H k=>?_⟩;subst k;have⟨l,m,n⟩:=s2 x H;have o:Qj r≠Qj l:=λe=>i.1<|e ▸ Cu m
    exact h.apart _ _ o x (s1 x F) n
   ·intro g d;rcases Ak.1 d with d|d
    ·exact⟨r,by simp,s1 g d⟩
    ·have⟨l,I,J⟩:=s2 g d;exact⟨l,by simp[I],J⟩
   ·intro L f;simp only[Ds]at f;obtain⟨rfl,rfl⟩:=f;obtain⟨rfl,rfl⟩:=q;exact⟨v,rfl,by rw[AR];exact p⟩
  ·cases e
def fq(i:Jr P tb)(h:HSim P nt bx base St B [] σ a w){b:Func}(p:(b.results.toList.map Qj).Nodup){c:V}(d:fo tb σ b.results.toList=some c):
  ∃v bs,(results b a.tmps).run P w=.ok v w∧Ow P w St c v bs∧bs.Nodup∧∀g∈bs,∃r∈b.results.toList,g∈B (Qj r):=by
 unfold fo at d
 have f:∀us,(b.results.toList.mapM<|Wz a.tmps).run P w=.ok us w->(results b a.tmps).run P w=.ok (if h:us.toArray.size=1 then us.toArray[0]else .tuple us.toArray) w:=by
  intro us q;have s:(b.results.mapM (Wz a.tmps):Sem (Array Value)).run P w=.ok us.toArray w:=by rw[Array.mapM_eq_mapM_toList,Sem.run_map,q];rfl
  have t:results b a.tmps=(do let vs <-b.results.mapM (Wz a.tmps);pure (if h:vs.size=1 then vs[0]else .tuple vs):Sem Value):=by unfold results;congr 1
  rw[t];simp only[A8,s,AU,BA]
 split at d
 ·rename_i z k;simp only[Ar]at d;subst d;have⟨us,bs,l,_,m,s1,_,x⟩:=fp i h _ _ p k;obtain⟨u,rfl,n⟩:=x _ rfl;exact⟨u,bs,by rw[f _ l];rfl,n,m,s1⟩
 ·rename_i cs o k;simp only[Ar]at d;subst d;have⟨us,bs,l,n,m,s1,y,_⟩:=fp i h _ _ p k;have j:us.toArray.size≠1:=by intro e;simp only[IZ]at e;rw[y]at e;have⟨c,d⟩:=List.length_eq_one_iff.1 e;exact o c d
  exact⟨.tuple us.toArray,bs,by rw[f _ l,dif_neg j],⟨us,rfl,n⟩,m,s1⟩
 ·cases d
def ri(b:Jr P tb)(h:HSim P nt bx base St B [] σ a w){d:Func}(e:(d.results.toList.map Qj).Nodup){c:V}(f:fo tb σ d.results.toList=some c):
  ∃v bs,(results d a.tmps).run P w=.ok v w∧Ow P w St c v bs∧bs.Nodup∧∀g∈bs,¬base g∧g < w.heap.size:=by
 have⟨v,bs,i,j,k,l⟩:=fq b h e f;exact⟨v,bs,i,j,k,λg m=>by have⟨r,_,n⟩:=l g m;exact h.range _ g n⟩
def ne{c v}(b:Pj c=true)(h:Rd w St c v):Ow P w St c v []:=by cases c<;>first|exact⟨rfl,h⟩|cases b
def iV:∀(cs:List V) {us:List Value},cs.all Pj=true->Pz w St cs us->Bn P w St cs us []
 |[],_,_,h=>⟨h,rfl⟩
 |c::cs,_,b,⟨u,d,e,f,g⟩=>by simp only[By,Aa]at b;exact⟨u,d,[],[],e,rfl,f.DB,ne b.1 f,iV cs b.2 g⟩
def aP{c v}(b:Te c=true)(h:fZ w St c v):Ow P w St c v []:=by
 cases c<;>first|exact ne b h|cases b|skip
 have⟨us,e,h⟩:=h;exact⟨us,e,iV _ b h⟩
def IW(b:List V):PS:=λs=>(b[s]?).getD<|.tup []
def args_at:∀{b:List V}{vs:List Value},QQ w St b vs->vs.length=b.length∧∀(s:Nat) (c:V),b[s]? =some c->∃v,vs[s]? =some v∧fZ w St c v
 |[],_,h=>by rw[show _=[]from h];exact⟨rfl,by simp⟩
 |c::b,_,⟨u,g,e,i,j⟩=>by
  have⟨l,k⟩:=args_at j;refine⟨by rw[e];simp[l],λs d f=>?_⟩;cases s with
  |zero=>simp only[Ce,Ar]at f;subst f;exact⟨u,by rw[e];rfl,i⟩
  |succ s=>rw[e];simpa using k s d (by simpa using f)
def iW{nt bx args vs}(j:∀b o,St b o->b < w.heap.size)(k:Glb w St)(l:QQ w St args vs)(r:args.length<=nt)(d:args.all Te=true):Rel P nt bx ⟨λb=>b < w.heap.size,[]⟩ St w (IW args) {tmps:=vs.toArray++Array.replicate (nt - vs.toArray.size) undef,defers:=[]} w:=by
 have⟨x,m⟩:=args_at l
 have n:∀s,tm {tmps:=vs.toArray++Array.replicate (nt - vs.toArray.size) undef,defers:=[]} s=(vs[s]?).getD undef:=by
  intro s;unfold tm;rw[CQ,Ls];split
  ·simp
  ·rename_i p;rw[IZ]at p;rw[Bu (by omega)];rw[DO];split<;>rfl
 refine⟨St,λ_=>[],?_,BelowK.refl _ _,λ_ _ _=>CY,λ_ h=>h⟩;refine
 {size:=by simp;omega
  defers:=rfl
  slot:=λs=>?_
  boxes:=λs cs e=>?_
  crefs:=λs b e=>?_
  nodup:=λ_=>AP
  apart:=λ_ _ _ g i=>by simp at i
  hnodup:=AP
  hapart:=λ_ g i=>by simp at i
  range:=λ_ g i=>by simp at i
  hrange:=λg i=>by simp at i
  st:=j
  gl:=k
  pin:=λv e=>by cases e}
 ·rw[n];cases f:args[s]? with
  |none=>
   have:vs[s]? =none:=by rw[Jf]at f⊢;omega
   simp only[IW,f,this,Option.getD_none];exact⟨[],rfl,rfl,rfl⟩
  |some c=>have⟨v,t,u⟩:=m s c f;simp only[IW,f,t,B8];exact(aP (Am.1 d c<|B3 f) u).slot
 ·simp only[IW]at e;cases f:args[s]? with
  |none=>rw[f]at e;cases e
  |some c=>rw[f]at e;have q:=Am.1 d c<|B3 f;simp only[B8]at e;cases c<;>first|(cases q;done)|(cases e;done)
 ·simp only[IW]at e;cases f:args[s]? with
  |none=>rw[f]at e;cases e
  |some c=>rw[f]at e;have q:=Am.1 d c<|B3 f;simp only[B8]at e;cases c<;>first|(cases q;done)|(cases e;done)
def xj(htb:Jr P tb){f:FuncId}{fn:Func}{c:Code}{args:List V}{r:V}(hf:P.funcs[f]? =some fn)(hb:fn.body=some c)(hname:(fn.name== "runtime.NumGoroutine")=false)(bx:zN)(hlen:args.length<=fn.ntmps)(hargs:args.all Te=true)
  (hn:(fn.results.toList.map Qj).Nodup) (h:Oy P fn.ntmps bx c (IW args) (λe σ=>(e=.ret∨e=.normal)∧fo tb σ fn.results.toList=some r)):LQ P f args r:=by
 refine⟨⟨fn,hf,by rw[hb];rfl,hname⟩,λw St vs hst hgl hvs=>?_⟩;have⟨hl,hat⟩:=args_at hvs;refine Lt hf hb ?_;have hrel:=iW (P:=P) (bx:=bx) hst hgl hvs hlen hargs;refine FF (h _ _ _ _ _ hrel) ?_;rintro e a' w' ⟨σ',⟨he,hres⟩,St',B',h1,h2,h3,h4⟩;have hfin:a'.defers=[]∧∃v,(results fn a'.tmps).run P w'=.ok v w'∧Ret P w St r (.returned v) w':=by have⟨v,bs,q1,q2,q3,q4⟩:=ri htb h1 hn hres;exact⟨h1.defers,v,q1,v,bs,St',rfl,⟨h2.os,h2.tape,h2.output,h2.size,h2.block⟩,h3,h1.st,q2,q3,λg hg=>⟨Pg (q4 g hg).1,(q4 g hg).2⟩⟩
 rcases he with rfl|rfl
 ·exact hfin
 ·exact hfin
def ZC{vs:List Value}{nt:Nat}(s:Nat):tm {tmps:=vs.toArray++Array.replicate (nt - vs.toArray.size) undef,defers:=[]} s=(vs[s]?).getD undef:=by
 unfold tm;rw[CQ,Ls];split
 ·simp
 ·rename_i b;rw[IZ]at b;rw[Bu (by omega)];rw[DO];split<;>rfl
def wM(tb:Tb)(rs:List ResultVar)(r:V)(e:Exit)(σ:PS):Prop:=(e=.ret∨e=.normal)∧fo tb σ rs=some r
structure Lit (P:Program) (f:FuncId) (nt:Nat) (bx:zN) (rs:List ResultVar) (l:LC):Prop where
 ex:∃fn c,P.funcs[f]? =some fn∧fn.body=some c∧(fn.name== "runtime.NumGoroutine")=false∧fn.ntmps=nt∧fn.results.toList=rs∧F3 c=Uc l∧okC nt bx c=true
 nd:(rs.map Qj).Nodup
 ok:okL bx l=true
def tp(g:Jr P tb){f:FuncId}{nt:Nat}{bx:zN}{rs:List ResultVar}{l:LC}{b:List V}{r:V}(i:Lit P f nt bx rs l)(e:b.length<=nt)(d:b.all Te=true)
  (h:LS P nt bx l (IW b) (wM tb rs r)):LQ P f b r:=by
 obtain⟨⟨s,c,j,k,m,rfl,rfl,n,o⟩,p,q⟩:=i;exact xj g j k m bx e d p<|h c n o q
end
end
section
def KN:Operand->zN
 |.tmp t=>[t]
 |_=>[]
def UO(o:Op):zN:=o.operands.toList.flatMap KN
def fU(R:zN):V->Bool
 |.cref s _=>R.contains s
 |.same s=>R.contains s
 |.uni _ _ _=>false
 |.tok _=>R.contains gS&&R.contains gU
 |_=>true
def simple(cns:zN)(o:LO):Bool:=
 match o.op,o.dst with
 |.assign _,_=>false
 |.move _,some d=> !cns.contains d
 |.load _ _,some d=> !cns.contains d || cns.contains (1500000+d)
 |.extract _ _,_=>false
 |.store _ _ _,_=>false
 |.alloc _,_=>false
 |.box _ _,_=>false
 |.build _ _,_=>false
 |.buildSlice _ _ _,_=>false
 |.makeSlice _ _ _,_=>false
 |.call c,_=>match c.callee with
  |.builtin .append=>false
  |_=>true
 |_,_=>true
def gT(o:LO):zN:=match o.g with
 |some (some q,_)=>[q]
 |_=>[]
def gO(o:LO)(s:Nat):Bool:=(gT o).contains s&& !(UO o.op).contains s
def XA(cns R W:zN)(o:LO):Bool:=
 (UO o.op).all R.contains&&(gT o).all R.contains&&(o.dst.toList).all W.contains&&W.all (λs=>R.contains s || o.dst==some s)&&(simple cns o || R.all (λs=>W.contains s || gO o s))&&(match o.op with
  |.alloc _=>o.dst.toList.all R.contains
  |.box _ _=>false
  |.select _ _=>false
  |.makeFunc _ _ _=>false
  |.assign _|.makeSlice _ _ _=>o.dst.toList.all<|λd=> !cns.contains d
  |.call c=> !dT c || o.dst.toList.all (λd=> !cns.contains d || R.contains d)
  |_=>true)
def adP:Op->zN
 |.load _ x=>KN x
 |.fieldAddr _ x _=>KN x
 |.nilCheck x=>KN x
 |.store _ x _=>KN x
 |.indexAddr _ x _=>KN x
 |.call c=>match c.callee,c.args.toList with
  |.builtin .len,[x]=>KN x
  |.value _,x::_=>KN x
  |_,_=>[]
 |_=>[]
def adC:Op->zN
 |.call c=>match c.callee,c.args.toList with
  |.value _,x::_=>KN x
  |_,_=>[]
 |_=>[]
def lC(R W:zN)(p:Nat):V->Bool
 |.box cs=>W.contains p&&cs.all Pj
 |.cref s _=>R.contains s&&W.contains s
 |.tok _=>false
 |_=>true
def adS:Op->zN
 |.store _ x _=>KN x
 |.call c=>match c.callee with
  |.value x=>KN x++c.args.toList.flatMap KN
  |_=>[]
 |_=>[]
def Zi:V->Bool
 |.tok _=>false
 |.same _=>false
 |_=>true
def ZT(R W:zN)(op:Op)(σ:PS):Bool:=(adP op).all (λp=>fU R<|σ p)&&((adC op).all (λp=>lC R W p<|σ p)&&(adS op).all (λp=>Zi<|σ p))
def tH{R W op σ}(h:ZT R W op σ=true):(adP op).all (λp=>fU R<|σ p)=true:=by unfold ZT at h;rw[Aa]at h;exact h.1
def adU(cns:zN)(o:LO):zN:=match o.op,o.dst with
 |.assign x,_=>KN x
 |.move x,some d=>if cns.contains d=true then KN x else []
 |_,_=>[]
def adT(cns:zN)(o:LO):zN:=match o.op,o.dst with
 |.load _ x,some d=>if cns.contains (1500000+d)=true then KN x else []
 |_,_=>[]
def vm:V->Bool
 |.tok _=>true
 |_=>false
def uP(cns R W:zN)(o:LO)(σ:PS):Prop:=XA cns R W o=true∧ZT R W o.op σ=true∧((adU cns o).all (λp=>fU R<|σ p)&&(adT cns o).all (λp=>vm<|σ p))=true
def pt(W:zN)(σ' τ:PS):PS:=λs=>if W.contains s=true then σ' s else τ s
def RV(σ:PS):List (Nat×V)->PS
 |[]=>σ
 |(s,v)::us=>upd (RV σ us) s v
def GL(R:zN)(σ τ:PS):Prop:=∀s,R.contains s=true->τ s=σ s
def QC{σ}:∀{us:List (Nat×V)}{s:Nat},s∉us.map (·.1)->RV σ us s=σ s
 |[],_,_=>rfl
 |(q,v)::us,s,h=>by simp only[AM,AE,not_or]at h;simp only[RV];rw[upd_ne _ _ h.1];exact QC h.2
def cX{σ τ}:∀{us:List (Nat×V)}{s:Nat},s∈us.map (·.1)->RV τ us s=RV σ us s
 |[],_,h=>by simp at h
 |(q,v)::us,s,h=>by
  simp only[RV];by_cases e:s=q
  ·subst e;rw[upd_same,upd_same]
  ·rw[upd_ne _ _ e,upd_ne _ _ e];simp only[AM,AE]at h;exact cX<|h.resolve_left e
def AaN{R W σ τ}(ha:GL R σ τ){us:List (Nat×V)}(h1:∀s∈us.map (·.1),W.contains s=true)(h2:∀s,W.contains s=true->s∈us.map (·.1)∨R.contains s=true):
  RV τ us=pt W (RV σ us) τ∧∀s,W.contains s=false->RV σ us s=σ s:=by
 constructor
 ·funext s;unfold pt;split
  ·rename_i hw;by_cases hk:s∈us.map (·.1)
   ·exact cX hk
   ·rw[QC hk,QC hk];exact ha s<|(h2 s hw).resolve_left hk
  ·rename_i hw;exact QC<|λhk=>hw<|h1 s hk
 ·intro s hw;exact QC (λhk=>by rw[h1 s hk]at hw;cases hw)
section
variable {P:Program}{tb:Tb}{cns R W:zN}{σ τ:PS}{o:LO}{K:PS->Prop}
def Jh(b:GL R σ τ){x:Operand}(a:(KN x).all R.contains=true):CC τ x=CC σ x:=by
 cases x with
 |tmp t=>simp only[KN,By,Fu,DG]at a;exact b t a
 |_=>rfl
def WX(b:GL R σ τ){x:Operand}(a:(KN x).all R.contains=true):Nh τ x=Nh σ x:=by
 cases x with
 |tmp t=>simp only[KN,By,Fu,DG]at a;simp only[Nh,b t a]
 |_=>rfl
def W1{x s off}(a:(KN x).all (λp=>fU R<|σ p)=true)(b:(KN x).all R.contains=true)(h:Nh σ x=.cref s off):R.contains s=true:=by
 cases x with
 |tmp t=>
  simp only[KN,By,Fu,DG]at a b;simp only[Nh]at h;split at h
  ·simp only[V.cref.injEq]at h;rw[<-h.1];exact b
  ·rw[h]at a;exact a
 |global g=>exact absurd h<|S3.1 _ _
 |_=>cases h
def vJ(a:GL R σ τ){x:Operand}(d:Option TyD)(c:(KN x).all (λp=>fU R<|σ p)=true)(b:(KN x).all R.contains=true):Vs d τ (Nh τ x)=Vs d σ (Nh σ x)∧Vr d τ (Nh τ x)=Vr d σ (Nh σ x):=by
 rw[WX a b];cases d with
 |none=>exact⟨rfl,rfl⟩
 |some d=>
  cases h:Nh σ x with
  |cref s off=>have:=a s<|W1 c b h;simp only[Vs,Vr,Za,Wx,this];exact⟨trivial,trivial⟩
  |_=>exact⟨rfl,rfl⟩
def Sk{α:Type}{f g:Operand->List α}{p:α->Bool}{xs:List Operand}{x:Operand}(h:(xs.flatMap f).all p=true)(b:x∈xs):(f x).all p=true:=by rw[Am]at h⊢;exactλa c=>h a<|BU.2 ⟨x,b,c⟩
def nl(b:GL R σ τ){x:Operand}(a:(KN x).all (λp=>fU R<|σ p)=true){s:Nat}(h:CC σ x=.same s):τ s=σ s:=by
 cases x with
 |tmp t=>simp only[KN,By,Fu,DG]at a;rw[show σ t=.same s from h]at a;exact b s a
 |const v=>exfalso;simp only[CC,cV]at h;split at h<;>(try split at h)<;>cases h
 |_=>cases h
def mA(a:GL R σ τ){x:Operand}(d:Option TyD)(b:(KN x).all (λp=>fU R<|σ p)=true):gw τ (CC σ x)=gw σ (CC σ x)∧XZ d τ (CC σ x)=XZ d σ (CC σ x):=by
 cases h:CC σ x with
 |same s=>have:=nl a b h;simp only[gw,XZ,this];exact⟨trivial,trivial⟩
 |_=>exact⟨rfl,rfl⟩
def qy(a:GL R σ τ){x:Operand}(es:Nat)(i:V)(b:(KN x).all (λp=>fU R<|σ p)=true):iaS τ es (CC σ x) i=iaS σ es (CC σ x) i∧dY τ (CC σ x) i=dY σ (CC σ x) i:=by
 cases h:CC σ x with
 |same s=>have:=nl a b h;simp only[iaS,dY,this];exact⟨trivial,trivial⟩
 |_=>exact⟨rfl,rfl⟩
def rU(c:GL R σ τ)(b:Callee)(a:List Operand)(ts:List TypeId)(h:∀x∈a,CC τ x=CC σ x)(d:(match b,a with|.builtin .len,[x]=>KN x|_,_=>[]).all (λp=>fU R<|σ p)=true):Qg τ b a=Qg σ b a∧Tc tb τ b a ts=Tc tb σ b a ts:=by
 constructor
 ·unfold Qg;split
  ·rw[h _ (by simp)];exact(mA c none d).1
  ·rw[h _ (by simp),h _ (by simp)]
  ·rw[h _ (by simp),h _ (by simp)]
  ·rfl
 ·unfold Tc;split
  ·rw[h _ (by simp)];exact(mA c _ d).2
  ·rw[h _ (by simp),h _ (by simp)]
  ·rw[h _ (by simp),h _ (by simp)]
  ·rfl
def wF(j:GL R σ τ){op:Op}(n:(UO op).all R.contains=true)(q:(adP op).all (λp=>fU R<|σ p)=true):pv tb τ op=pv tb σ op∧pc tb τ op=pc tb σ op:=by
 have e:∀x,x∈op.operands.toList->CC τ x=CC σ x:=λx h=>Jh j<|Sk (g:=KN) n h
 cases op with
 |move x=>
  have a:=e x (by simp[Op.operands]);cases x with
  |tmp t=>simp only[pv,pc,mvV,mvC,show τ t=σ t from a];exact⟨trivial,trivial⟩
  |_=>exact⟨rfl,rfl⟩
 |pick c x y=>
  have a:=e c (by simp[Op.operands]);have b:=e x (by simp[Op.operands]);have r:=e y (by simp[Op.operands]);have u:∀v,fj τ x y v=fj σ x y v:=by intro v;cases v<;>first|rfl|simp only[fj,b,r]
  have w:∀v,fi τ x y v=fi σ x y v:=by intro v;cases v<;>first|rfl|simp only[fi,b,r]
  simp only[pv,pc,a,u,w];exact⟨trivial,trivial⟩
 |binOp op t x y B=>have a:=e x (by simp[Op.operands]);have b:=e y (by simp[Op.operands]);simp only[pv,pc,a,b];exact⟨trivial,trivial⟩
 |unOp op t x=>have a:=e x (by simp[Op.operands]);simp only[pv,pc,a];exact⟨trivial,trivial⟩
 |convert s d x=>have a:=e x (by simp[Op.operands]);simp only[pv,pc,a];exact⟨trivial,trivial⟩
 |load t x=>
  have k:x∈(Op.load t x).operands.toList:=by simp[Op.operands]
  have:=vJ j (x:=x) (tb t) q<|Sk (g:=KN) n k;simp only[pv,pc,this.1,this.2];exact⟨trivial,trivial⟩
 |nilCheck x=>
  have k:x∈(Op.nilCheck x).operands.toList:=by simp[Op.operands]
  have a:=WX j<|Sk (g:=KN) n k
  have b:faC τ (Nh σ x)=faC σ (Nh σ x):=by
   cases h:Nh σ x with
   |cref s off=>have:=j s<|W1 q (Sk (g:=KN) n k) h;simp only[faC,this]
   |_=>rfl
  simp only[pv,pc,a,b];exact⟨trivial,trivial⟩
 |fieldAddr t x f=>
  have k:x∈(Op.fieldAddr t x f).operands.toList:=by simp[Op.operands]
  have a:=WX j<|Sk (g:=KN) n k
  have b:∀d,lZ d f τ (Nh σ x)=lZ d f σ (Nh σ x):=by
   intro d;cases h:Nh σ x with
   |cref s off=>have:=j s<|W1 q (Sk (g:=KN) n k) h;simp only[lZ,faC,this]
   |_=>rfl
  simp only[pv,pc,a,b];exact⟨trivial,trivial⟩
 |indexAddr t x i=>
  have a:=e x (by simp[Op.operands]);have b:=e i (by simp[Op.operands]);simp only[pv,pc,a,b,oN,oM];constructor
  ·split
   ·exact(qy j _ _ q).1
   ·rfl
  ·split
   ·exact(qy j 0 _ q).2
   ·rfl
 |index t x i=>have a:=e x (by simp[Op.operands]);have b:=e i (by simp[Op.operands]);simp only[pv,pc,a,b];exact⟨trivial,trivial⟩
 |slice t x lo hi A=>
  have a:=e x (by simp[Op.operands]);have b:lo.map (CC τ)=lo.map (CC σ):=by cases lo with|none=>rfl|some l=>simp only[Cb,e l (by simp[Op.operands])]
  have r:hi.map (CC τ)=hi.map (CC σ):=by cases hi with|none=>rfl|some l=>simp only[Cb,e l (by simp[Op.operands])]
  cases A with
  |none=>simp only[pv,pc,a,b,r];exact⟨trivial,trivial⟩
  |some m=>exact⟨rfl,rfl⟩
 |call c=>
  have a:∀x∈c.args.toList,CC τ x=CC σ x:=λx h=>e x (by simp[Op.operands,Call.operands];exact .inr<|by simpa using h)
  have z:(match c.callee,c.args.toList with|.builtin .len,[x]=>KN x|_,_=>[]).all (λp=>fU R<|σ p)=true:=by
   split
   ·rename_i x u w;simpa[adP,u,w]using q
   ·rfl
  have b:=rU (tb:=tb) j c.callee c.args.toList c.argTypes.toList a z;simp only[pv,pc,b.1,b.2];exact⟨trivial,trivial⟩
 |_=>exact⟨rfl,rfl⟩
def Loc(W:zN)(σ τ:PS)(K:PS->Prop)(τ':PS):Prop:=∃σ',K σ'∧τ'=pt W σ' τ∧∀s,W.contains s=false->σ' s=σ s
def Xh(a:GL R σ τ){us:List (Nat×V)}(b:∀s∈us.map (·.1),W.contains s=true)(c:∀s,W.contains s=true->s∈us.map (·.1)∨R.contains s=true)(d:K (RV σ us)):Loc W σ τ K (RV τ us):=by have⟨e,f⟩:=AaN a b c;exact⟨_,d,e,f⟩
def WN(σ:PS)(x:Operand):∃us:List (Nat×V),us.map (·.1)=KN x∧C5 σ x=RV σ us∧∀τ,GL (KN x) σ τ->C5 τ x=RV τ us:=by
 cases x with
 |tmp t=>refine⟨[(t,dg<|σ t)],rfl,rfl,λτ h=>?_⟩;have:=h t (by simp[KN]);simp only[C5,RV,this]
 |const v=>exact⟨[],rfl,rfl,λ_ _=>rfl⟩
 |global g=>exact⟨[],rfl,rfl,λ_ _=>rfl⟩
 |func f=>exact⟨[],rfl,rfl,λ_ _=>rfl⟩
def ZJ(σ:PS)(us vs:List (Nat×V)):RV (RV σ vs) us=RV σ (us++vs):=by
 induction us with
 |nil=>rfl
 |cons p us a=>have⟨s,v⟩:=p;simp only[RV,BY,a]
def Pr(h:XA cns R W o=true):(UO o.op).all R.contains=true∧(∀q b,o.g=some (some q,b)->R.contains q=true)∧(∀d,o.dst=some d->W.contains d=true)∧(∀s,W.contains s=true->R.contains s=true∨o.dst=some s)∧(simple cns o=true∨∀s,R.contains s=true->W.contains s=true∨gO o s=true):=by
 simp only[XA,Aa]at h;have⟨⟨⟨⟨⟨i,c⟩,f⟩,j⟩,g⟩,_⟩:=h;refine⟨i,λq b e=>?_,λd e=>?_,λs a=>?_,?_⟩
 ·rw[gT,e]at c;simpa using c
 ·rw[e]at f;simpa using f
 ·have:=Am.1 j s (by simpa using a);simp only[Ck,BG]at this;exact this
 ·simp only[Ck]at g;rcases g with h|h
  ·exact .inl h
  ·exact .inr λs a=>by simpa using List.all_eq_true.1 h s (by simpa using a)
def YT(a:o.g=none)(h:∀s,R.contains s=true->W.contains s=true∨gO o s=true):∀s,R.contains s=true->W.contains s=true:=λs b=>by
 rcases h s b with h|h
 ·exact h
 ·simp[gO,gT,a]at h
def oy(b:(UO o.op).all R.contains=true)(h:∀s,R.contains s=true->W.contains s=true∨gO o s=true):(UO o.op).all W.contains=true:=by
 rw[Am];intro s a;rcases h s (Am.1 b s a)with h|h
 ·exact h
 ·simp[gO,a]at h
def JQ(c:GL R σ τ)(e:XA cns R W o=true){d:Nat}(b:o.dst=some d){v:V}(f:K (upd σ d v)):Loc W σ τ K (upd τ d v):=by
 have⟨j,k,g,i,l⟩:=Pr e;refine Xh (us:=[(d,v)]) c (λs a=>?_) (λs a=>?_) f
 ·simp only[AM,CZ,AC]at a;subst a;exact g _ b
 ·rcases i s a with h|h
  ·exact .inr h
  ·rw[b]at h;injection h with h;subst h;exact .inl (by simp)
def Xn(a:GL R σ τ)(c:uP cns R W o σ)(h:LM tb o σ K):LM tb o τ (Loc W σ τ K):=by
 have⟨k,l,m,n,p⟩:=Pr c.1;have i:=wF (tb:=tb) a k<|tH c.2.1;unfold LM at *;cases f:o.dst with
 |none=>rw[f]at h;exact h
 |some d=>
  rw[f]at h;simp only at h⊢;cases j:o.g with
  |none=>rw[j]at h;rw[i.1,i.2];exact⟨h.1,JQ a c.1 f h.2⟩
  |some g=>
   have⟨q,b⟩:=g;rw[j]at h;cases q with
   |none=>exact h
   |some q=>simp only at h⊢;rw[a q (l q b j),i.1,i.2];exact⟨h.1,λe=>⟨(h.2.1 e).1,JQ a c.1 f (h.2.1 e).2⟩,λe=>JQ a c.1 f<|h.2.2 e⟩
def Xb(c:GL R σ τ)(f:uP cns R W o σ){d:Nat}(k:o.dst=some d){X i:Prop}(j:X->i)(h:SM o d σ K X):SM o d τ (Loc W σ τ K) i:=by
 have⟨m,l,n,p,r⟩:=Pr f.1;unfold SM at *;cases a:o.g with
 |none=>rw[a]at h;exact j h
 |some g=>
  have⟨q,b⟩:=g;rw[a]at h;cases q with
  |none=>exact h
  |some q=>simp only at h⊢;rw[c q (l q b a)];exact⟨h.1,λe=>j<|h.2.1 e,λe=>JQ c f.1 k<|h.2.2 e⟩
def rT(j:GL R σ τ)(n:uP cns R W o σ){f:FuncId}{a:List Operand}(c:∀x∈a,(KN x).all R.contains=true)(h:SH P o f a σ K):SH P o f a τ (Loc W σ τ K):=by
 have⟨I,w,J,y,L⟩:=Pr n.1;have z:(a.map λx=>er<|CC τ x)=a.map λx=>er (CC σ x):=Cf λx i=>by rw[Jh j (c x i)]
 have p:(a.map λx=>erK<|CC τ x)=a.map λx=>erK (CC σ x):=Cf λx i=>by rw[Jh j (c x i)]
 have m:(a.map λx=>CC τ x)=a.map λx=>CC σ x:=Cf λx i=>by rw[Jh j (c x i)]
 have A:lp P τ f a=lp P σ f a:=by unfold lp;rw[z,p,m]
 have B:a.all (λx=>(CC τ x).isArg)=a.all (λx=>(CC σ x).isArg):=by rw[BX,Am,Am];exact⟨λh x i=>by have:=h x i;rwa [Jh j (c x i)]at this,λh x i=>by rw[Jh j (c x i)];exact h x i⟩
 unfold SH at *;rw[A,B];cases t:o.g with
 |none=>
  rw[t]at h;have⟨u,r,v,l⟩:=h;refine⟨u,r,v,?_⟩;cases k:o.dst with
  |none=>
   rw[k]at l;simp only[Vy]at l⊢;refine Xh (us:=[]) j (by simp) (λs C=>?_) l;rcases y s C with h|h
   ·exact .inr h
   ·rw[k]at h;cases h
  |some d=>rw[k]at l;exact JQ j n.1 k l
 |some g=>
  have⟨q,b⟩:=g;rw[t]at h;simp only at h⊢;cases q with
  |none=>exact h
  |some q=>
   cases k:o.dst with
   |none=>rw[k]at h;exact h
   |some d=>rw[k]at h;simp only at h⊢;rw[j q (w q b t)];have⟨u,v,l⟩:=h;refine⟨u,λe=>?_,λe=>JQ j n.1 k<|l e⟩;have⟨D,r,F,H⟩:=v e;exact⟨D,r,F,JQ j n.1 k H⟩
def Xg(a:GL R σ τ)(b:XA cns R W o=true){us:List (Nat×V)}(c:∀s∈us.map (·.1),W.contains s=true)(e:∀d,o.dst=some d->d∈us.map (·.1))(f:K (RV σ us)):Loc W σ τ K (RV τ us):=by
 have⟨j,k,l,g,m⟩:=Pr b;refine Xh a c (λs i=>?_) f;rcases g s i with h|h
 ·exact .inr h
 ·exact .inl<|e s h
def rS(j:GL R σ τ)(w:uP cns R W o σ){f:FuncId}{b:List Operand}(a:∀x∈b,(KN x).all R.contains=true)(u:∀x xs,b=x::xs->(KN x).all (λp=>lC R W p<|σ p)=true)(h:YI P o f b σ K):YI P o f b τ (Loc W σ τ K):=by
 have⟨J,L,A,y,M⟩:=Pr w.1;unfold YI at *;split at h
 ·exact h
 ·rename_i x xs
  have v:XW P o f x xs σ K->XW P o f x xs τ (Loc W σ τ K):=by
   rintro⟨s,cs,cs',r,e,B,C,z,D,m⟩;have i:=a x (by simp);have n:=u x xs rfl
   have k:R.contains s=true∧W.contains s=true:=by
    cases x with
    |tmp t=>
     simp only[KN,By,Fu,DG]at n i;simp only[Nh]at e;split at e
     ·rename_i cs0 F;simp only[V.cref.injEq]at e;rw[F]at n;rw[<-e.1];simp only[lC,Aa]at n;exact⟨i,n.1⟩
     ·rw[e]at n;simpa[lC]using n
    |global g=>exact absurd e<|S3.1 _ _
    |_=>cases e
   have H:(xs.map λx=>er<|CC τ x)=xs.map λx=>er (CC σ x):=Cf λx i=>by rw[Jh j (a x<|by simp[i])]
   have I:xs.all (λx=>(CC τ x).isArg)=true:=by rw[Am]at z⊢;exactλx i=>by rw[Jh j (a x<|by simp[i])];exact z x i
   refine⟨s,cs,cs',r,by rw[WX j i];exact e,by rw[j s k.1];exact B,C,I,by rw[H];exact D,?_⟩;cases l:o.dst with
   |none=>
    rw[l]at m;simp only[Vy]at m⊢;refine Xh (us:=[(s,.box cs')]) j (λq c=>?_) (λq c=>?_) m
    ·simp only[AM,CZ,AC]at c;subst c;exact k.2
    ·rcases y q c with h|h
     ·exact .inr h
     ·rw[l]at h;cases h
   |some d=>
    rw[l]at m;simp only[Vy]at m⊢;refine Xh (us:=[(d,r),(s,.box cs')]) j (λq c=>?_) (λq c=>?_) m
    ·simp only[AM,CZ,AE,Pe,or_false]at c;rcases c with rfl|rfl
     ·exact A _ l
     ·exact k.2
    ·rcases y q c with h|h
     ·exact .inr h
     ·rw[l]at h;injection h with h;subst h;exact .inl (by simp)
  split at h
  ·exact⟨h.1,v h.2⟩
  ·rename_i d l;exact Xb j w l v h
def Zb(c:GL R σ τ)(e:XA cns R W o=true)(a:∀s,R.contains s=true->W.contains s=true){us:List (Nat×V)}(f:∀s∈us.map (·.1),R.contains s=true∨o.dst=some s)(g:∀d,o.dst=some d->d∈us.map (·.1))(i:K (RV σ us)):Loc W σ τ K (RV τ us):=by
 have⟨l,m,j,k,n⟩:=Pr e;refine Xh c (λs b=>?_) (λs b=>?_) i
 ·rcases f s b with h|h
  ·exact a s h
  ·exact j s h
 ·rcases k s b with h|h
  ·exact .inr h
  ·exact .inl<|g s h
def YE{x}(a:GL R σ τ)(b:(KN x).all R.contains=true):GL (KN x) σ τ:=λs c=>a s<|Am.1 b s<|by simpa using c
def Xi{x s}(a:(KN x).all R.contains=true)(h:s∈KN x):R.contains s=true:=Am.1 a s h
def mD(c:GL R σ τ)(i:XA cns R W o=true)(b:∀s,R.contains s=true->W.contains s=true){x:Operand}(e:(KN x).all R.contains=true){d:Nat}{v:V}(f:o.dst=some d)(g:K (upd (C5 σ x) d v)):Loc W σ τ K (upd (C5 τ x) d v):=by
 have⟨us,j,k,l⟩:=WN σ x;rw[l τ (YE c e)];rw[k]at g;refine Zb (us:=(d,v)::us) c i b (λs a=>?_) (λd' h=>?_) g
 ·simp only[AM,AE,j]at a;rcases a with rfl|a
  ·exact .inr f
  ·exact .inl<|Xi e a
 ·rw[f]at h;injection h with h;subst h;simp
def lz(a:GL R σ τ)(b:XA cns R W o=true)(e:∀s,R.contains s=true->W.contains s=true){x:Operand}(f:(KN x).all R.contains=true)(g:(KN x).all (λp=>fU R<|σ p)=true){d:Nat}(c:o.dst=some d)(h:Sl tb o x d σ K):Sl tb o x d τ (Loc W σ τ K):=by
 unfold Sl at *;split at h
 ·split at h
  ·exact JQ a b c h
  ·exact h
 ·exact JQ a b c h
 ·rename_i p;have i:τ p=σ p:=Jh a f;rw[i];split at h
  ·rename_i j;simp only[KN,By,Fu,DG,j,fU]at g;cases g
  ·exact JQ a b c h
  ·exact JQ a b c h
  ·exact⟨h.1,mD a b e f c h.2⟩
 ·rw[Jh a f];exact⟨h.1,mD a b e f c h.2⟩
def dM(a:Nat->Option (Nat×Nat)):∀(parts:List (Nat×Operand)) (σ σ':PS) (cs cs':List V),Sb a parts σ cs=some (σ',cs')->∃us:List (Nat×V),(∀s∈us.map (·.1),s∈parts.flatMap (λp=>KN p.2))∧σ'=RV σ us∧∀τ,GL (parts.flatMap<|λp=>KN p.2) σ τ->Sb a parts τ cs=some (RV τ us,cs')
 |[],σ,σ',cs,cs',h=>by simp only[Sb,Ar,Cq]at h;obtain⟨rfl,rfl⟩:=h;exact⟨[],by simp,rfl,λτ _=>rfl⟩
 |(i,x)::parts,σ,σ',cs,cs',h=>by
  simp only[Sb]at h;cases e:a i with
  |none=>rw[e]at h;cases h
  |some q=>
   have⟨off,w⟩:=q;rw[e]at h;simp only at h;split at h
   ·rename_i l;have⟨us,m,n,r⟩:=dM a parts _ _ _ _ h;have⟨vs,u,j,k⟩:=WN σ x;refine⟨us++vs,λs b=>?_,by rw[n,j,ZJ],λτ f=>?_⟩
    ·rw[Bd,Ak]at b;rw[Ax,Ak];rcases b with b|b
     ·exact .inr<|m s b
     ·exact .inl (by rw[u]at b;exact b)
    ·have v:CC τ x=CC σ x:=by
      cases x with
      |tmp t=>exact f t (by simp[KN])
      |_=>rfl
     have c:GL (KN x) σ τ:=λs b=>f s (by simp only[Ax,Ma,Ak,Bf]at *;exact .inl b)
     simp only[Sb,e,v];rw[Aw l]
     have d:GL (parts.flatMap<|λp=>KN p.2) (C5 σ x) (C5 τ x):=by
      intro s b;rw[j,k τ c];by_cases g:s∈vs.map (·.1)
      ·exact cX g
      ·rw[QC g,QC g];exact f s (by simp only[Ax,Ma,Ak,Bf]at *;exact .inr b)
     rw[r _ d,k τ c,ZJ]
   ·cases h
def Xm{R:zN}{parts:Array (Nat×Operand)}(a:((parts.toList.map (·.2)).toArray.toList.flatMap KN).all R.contains=true):∀s∈parts.toList.flatMap (λp=>KN p.2),R.contains s=true:=by intro s b;rw[Am]at a;refine a s ?_;rw[BU]at b⊢;obtain⟨p,c,h⟩:=b;exact⟨p.2,(show p.2∈parts.toList.map (·.2)from Cu c),h⟩
def rF{x u}(a:Nh σ x=.tok u)(b:(KN x).all (λp=>fU R<|σ p)=true):R.contains gS=true∧R.contains gU=true:=by
 cases x with
 |tmp s=>
  have c:σ s=.tok u:=by
   unfold Nh at a;simp only at a;split at a
   ·cases a
   ·exact a
  simp only[KN,c,By,Fu,DG,fU,Aa]at b;exact b
 |global g=>exact absurd a<|S3.2.1 _
 |_=>cases a
def Agf{x u}(a:Nh σ x=.tok u)(b:(KN x).all (λp=>Zi<|σ p)=true):False:=by
 cases x with
 |tmp s=>
  have c:σ s=.tok u:=by
   unfold Nh at a;simp only at a;split at a
   ·cases a
   ·exact a
  simp[KN,c,Zi]at b
 |global g=>exact absurd a<|S3.2.1 _
 |_=>cases a
def uJ(ha:GL R σ τ)(hf:uP cns R W o σ)(h:Jm P tb cns o σ K):Jm P tb cns o τ (Loc W σ τ K):=by
 have⟨h1,h2,h3,h4,h5⟩:=Pr hf.1;have h2':=h2;have hx:=h1;have hb:=tH hf.2.1;have hub3:=hf.2.2;rw[Aa]at hub3;have hub:=hub3.1;have htk:=hub3.2;unfold Jm at *;split at h
 ·rename_i x d ho hd;rw[ho]at hx;have hcd:¬cns.contains d=true:=by have:=hf.1;simp only[XA,ho,hd,Aa]at this;have:=this.2;simpa using this
  rw[Ay hcd]at h⊢;have hns:=YT h.1<|h5.resolve_left<|by simp[simple,ho]
  exact⟨h.1,lz ha hf.1 hns (by simpa[UO,Op.operands]using hx) (by simpa[adU,ho]using hub) hd h.2⟩
 ·rename_i x d ho hd;split at h
  ·rename_i hc;rw[Aw hc];have hns:=YT h.1<|h5.resolve_left<|by simp[simple,ho,hd];simpa using hc
   rw[ho]at hx;have hub':(KN x).all (λp=>fU R<|σ p)=true:=by simp only[adU,ho,hd]at hub;rw[Aw hc]at hub;exact hub
   exact⟨h.1,lz ha hf.1 hns (by simpa[UO,Op.operands]using hx) hub' hd h.2⟩
  ·rename_i hc;rw[Ay hc];exact Xn ha hf h
 ·rename_i t x d ho hd;split at h
  ·rename_i hc;rw[Aw hc];rw[ho]at hx hb;have hx':(KN x).all R.contains=true:=by simpa[UO,Op.operands]using hx
   have hb':(KN x).all (λp=>fU R<|σ p)=true:=hb;refine⟨h.1,?_⟩;have h2:=h.2;unfold bA at *;rw[WX ha hx'];split at h2
   ·rename_i dd s off ht hax
    have hm:cns.contains (1500000+d)=false:=by
     cases hcc:cns.contains (1500000+d)with
     |false=>rfl
     |true=>
      exfalso;simp only[adT,ho,hd,hcc,Fl]at htk;cases x with
      |tmp p=>
       have:vm (σ p)=true:=by simpa[KN]using htk
       cases hp:σ p<;>rw[hp]at this<;>first|cases this|skip
       simp only[Nh,hp]at hax;cases hax
      |global g=>exact S3.1 s off hax
      |_=>cases hax
    have hns:=YT h.1<|h5.resolve_left<|by simp[simple,ho,hd];exact⟨by simpa using hc,by simpa using hm⟩
    have hs:=ha s<|W1 hb' hx' hax;rw[hs];split at h2
    ·refine⟨h2.1,?_⟩;refine Zb (us:=[(d,_),(s,_)]) ha hf.1 hns (λq hq=>?_) (λd' hd'=>?_) h2.2
     ·simp only[AM,CZ,AE,Pe,or_false]at hq;rcases hq with rfl|rfl
      ·exact .inr hd
      ·exact .inl<|W1 hb' hx' hax
     ·rw[hd]at hd';injection hd' with hd';subst hd';simp
    ·exact h2
   ·exact⟨h2.1,JQ ha hf.1 hd h2.2⟩
   ·rename_i hax;have⟨q,g,off,e,n,m,cs,k0,hq,k1,k2,k3,k4⟩:=h2
    have hqR:R.contains q=true:=by
     rcases hq with rfl|rfl
     ·exact(rF hax hb').1
     ·exact(rF hax hb').2
    exact⟨q,g,off,e,n,m,cs,k0,hq,by rw[ha q hqR];exact k1,k2,k3,JQ ha hf.1 hd k4⟩
   ·exact h2
  ·rename_i hc;rw[Ay hc];exact Xn ha hf h
 ·rename_i s i d ho hd;have hns:=YT h.1<|h5.resolve_left<|by simp[simple,ho]
  rw[ho]at hx;have hs:R.contains s=true:=by simpa[UO,Op.operands,KN]using hx
  refine⟨h.1,?_⟩;have h2:=h.2;unfold lY at *;rw[ha s hs];split at h2
  ·split at h2
   ·refine⟨h2.1,Zb (us:=[(d,_),(s,_)]) ha hf.1 hns (λq hq=>?_) (λd' hd'=>?_) h2.2⟩
    ·simp only[AM,CZ,AE,Pe,or_false]at hq;rcases hq with rfl|rfl
     ·exact .inr hd
     ·exact .inl hs
    ·rw[hd]at hd';injection hd' with hd';subst hd';simp
   ·exact h2
  ·exact h2
 ·rename_i t x y ho hd;have hns:=YT h.1<|h5.resolve_left<|by simp[simple,ho]
  rw[ho]at hx hb;have hxy:(KN x).all R.contains=true∧(KN y).all R.contains=true:=by simpa[UO,Op.operands,E8]using hx
  have hb':(KN x).all (λp=>fU R<|σ p)=true:=hb;refine⟨h.1,?_⟩;have h2:=h.2;unfold kT at *;rw[WX ha hxy.1,Jh ha hxy.2];split at h2
  ·rename_i dd s off ht hax;have hsR:=W1 hb' hxy.1 hax;rw[ha s hsR];split at h2
   ·have⟨q1,q2,q3,q4⟩:=h2;refine⟨q1,q2,q3,?_⟩;have⟨us,e1,e2,e3⟩:=WN σ y;rw[e3 τ (YE ha hxy.2)];rw[e2]at q4;refine Zb (us:=(s,_)::us) ha hf.1 hns (λq hq=>?_) (λd' hd'=>by rw[hd]at hd';cases hd') q4;simp only[AM,AE,e1]at hq;rcases hq with rfl|hq
    ·exact .inl hsR
    ·exact .inl<|Xi hxy.2 hq
   ·exact h2
  ·rename_i hax;have h9:=hf.2.1;unfold ZT at h9;rw[Aa,Aa,ho]at h9;exact(Agf hax h9.2.2).elim
  ·exact h2
 ·rename_i t d ho hd;have hdR:R.contains d=true:=by have:=hf.1;simp only[XA,ho,hd,Aa]at this;simpa using this.2
  refine⟨h.1,?_⟩;have h2:=h.2;unfold X5 at *;split at h2
  ·exact⟨by rw[ha d hdR];exact h2.1,JQ ha hf.1 hd h2.2⟩
  ·exact h2
 ·rename_i t x d ho hd;have:=hf.1;simp[XA,ho]at this
 ·rename_i t ps d ho hd;have hW:=oy h1<|h5.resolve_left<|by simp[simple,ho]
  rw[ho]at hW;rw[ho]at hx;refine Xb ha hf hd (λh2=>?_) h;unfold V9 at *;split at h2
  ·split at h2
   ·rename_i σ' cs hfl;have⟨us,e1,e2,e3⟩:=dM _ _ _ _ _ _ hfl;have hp:=Xm (R:=R) (parts:=ps) (by simpa[UO,Op.operands]using hx);have hpW:=Xm (R:=W) (parts:=ps) (by simpa[UO,Op.operands]using hW);rw[e3 τ (λs hs=>ha s<|hp s<|by simpa using hs)];rw[e2]at h2;refine Xg (us:=(d,_)::us) ha hf.1 (λq hq=>?_) (λd' hd'=>?_) h2
    ·simp only[AM,AE]at hq;rcases hq with rfl|hq
     ·exact h3 _ hd
     ·exact hpW q<|e1 q hq
    ·rw[hd]at hd';injection hd' with hd';subst hd';simp
   ·exact h2.elim
  ·exact h2
 ·rename_i t n ps d ho hd;have hW:=oy h1<|h5.resolve_left<|by simp[simple,ho]
  rw[ho]at hW;rw[ho]at hx;refine Xb ha hf hd (λh2=>?_) h;unfold lD at *;split at h2
  ·split at h2
   ·rename_i σ' cs hfl;have⟨us,e1,e2,e3⟩:=dM _ _ _ _ _ _ hfl;have hp:=Xm (R:=R) (parts:=ps) (by simpa[UO,Op.operands]using hx);have hpW:=Xm (R:=W) (parts:=ps) (by simpa[UO,Op.operands]using hW);rw[e3 τ (λs hs=>ha s<|hp s<|by simpa using hs)];rw[e2]at h2;refine⟨h2.1,h2.2.1,Xg (us:=(d,_)::us) ha hf.1 (λq hq=>?_) (λd' hd'=>?_) h2.2.2⟩
    ·simp only[AM,AE]at hq;rcases hq with rfl|hq
     ·exact h3 _ hd
     ·exact hpW q<|e1 q hq
    ·rw[hd]at hd';injection hd' with hd';subst hd';simp
   ·exact h2.elim
  ·exact h2
 ·rename_i t x y d ho hd;rw[ho]at hx;have hxy:(KN x).all R.contains=true∧(KN y).all R.contains=true:=by simpa[UO,Op.operands,E8]using hx
  have hcd:¬cns.contains d=true:=by have:=hf.1;simp only[XA,ho,hd,Aa]at this;have:=this.2;simpa using this
  rw[Ay hcd]at h⊢;refine⟨h.1,?_⟩;have h2:=h.2;unfold iA at *;rw[Jh ha hxy.1,Jh ha hxy.2];split at h2
  ·exact⟨h2.1,h2.2.1,h2.2.2.1,JQ ha hf.1 hd h2.2.2.2⟩
  ·exact h2
 ·rename_i d c ho;rw[ho]at hx;have hargs:∀x∈c.args.toList,(KN x).all R.contains=true:=λx hxm=>Sk (g:=KN) hx (by simp only[Op.operands,Call.operands];simp;exact .inr<|by simpa using hxm)
  unfold Wb at *;split at h
  ·rename_i x hcal;have hgo:dT c=true:=by unfold dT;rw[hcal]
   rw[Jh ha (Sk (g:=KN) (x:=x) hx<|by simp only[Op.operands,Call.operands,hcal];simp)];split at h
   ·rename_i f hcv;unfold N8 at *;split at h
    ·rename_i hc;rw[Aw hc];have⟨d',hd',cs,q0,q1,q2,q3,q4⟩:=h;have hcc:cns.contains d'=true:=by rw[hd']at hc;simpa using hc
     have hdR:R.contains d'=true:=by
      have:=hf.1;simp only[XA,ho,hd',hgo,Aa]at this;have:=this.2;have hm:d'∈cns:=by simpa using hcc
      simpa[hm]using this
     have e1:(c.args.toList.map λx=>erK<|CC τ x)=c.args.toList.map λx=>erK (CC σ x):=Cf λx hx=>by rw[Jh ha (hargs x hx)]
     have e2:c.args.toList.all (λx=>(CC τ x).isArg)=true:=by rw[Am]at q2⊢;exactλx hx=>by rw[Jh ha (hargs x hx)];exact q2 x hx
     exact⟨d',hd',cs,q0,by rw[ha d' hdR];exact q1,e2,by rw[e1];exact q3,JQ ha hf.1 hd' q4⟩
    ·rename_i hc;rw[Ay hc];have hadc:∀x xs,c.args.toList=x::xs->(KN x).all (λp=>lC R W p<|σ p)=true:=λx xs e=>by have:=hf.2.1;unfold ZT at this;rw[Aa,Aa]at this;simpa[adC,ho,hcal,e]using this.2.1
     rcases h with h|h|h
     ·exact .inl<|rT ha hf hargs h
     ·exact .inr<|.inl<|rS ha hf hargs hadc h
     ·have key:∀{d}{X:Prop},YJ P d f c.args.toList σ K->X:=λh=>by
       rcases h with⟨s,xs,cs,cs',D,q2,q3,q4,_⟩|⟨zs,x,xs,ys,us,os,os',r,D,q1,q2,_⟩|⟨zs,x,s,n,n',e,cs,cs',r,q1,q2,q3,_⟩
       ·have h9:=hadc _ _ q2;simp only[KN,By,Fu,DG,q3,lC,q4,Jv]at h9;cases h9
       ·have h9:(c.args.toList.flatMap KN).all (λp=>Zi<|σ p)=true:=by have:=hf.2.1;unfold ZT at this;rw[Aa,Aa]at this;have:=this.2.2;simp only[adS,ho,hcal,E8,Aa]at this;exact this.2
        cases us with
        |nil=>cases q2
        |cons u us=>
         simp only[AM,Ds]at q2;cases x with
         |tmp p=>have e:σ p=.tok u:=q2.1;have:=Am.1 h9 p<|BU.2 ⟨.tmp p,by rw[q1];simp,by simp[KN]⟩;rw[e]at this;cases this
         |const v=>have e:cV v=.tok u:=q2.1;unfold cV at e;split at e<;>first|(cases e;done)|(split at e<;>cases e)
         |global g=>cases q2.1
         |func g=>cases q2.1
       ·have h9:(c.args.toList.flatMap KN).all (λp=>Zi<|σ p)=true:=by have:=hf.2.1;unfold ZT at this;rw[Aa,Aa]at this;have:=this.2.2;simp only[adS,ho,hcal,E8,Aa]at this;exact this.2
        cases x with
        |tmp p=>have e:σ p=.same s:=q2;have:=Am.1 h9 p<|BU.2 ⟨.tmp p,by rw[q1];simp,by simp[KN]⟩;rw[e]at this;cases this
        |const v=>have e:cV v=.same s:=q2;unfold cV at e;split at e<;>first|(cases e;done)|(split at e<;>cases e)
        |global g=>cases q2
        |func g=>cases q2
      refine .inr<|.inr ?_;unfold Z1 at *;split at h
      ·exact key h.2
      ·rename_i d' hd';exact Xb ha hf hd' key h
   ·rename_i u hcv;have h9:=hf.2.1;unfold ZT at h9;rw[Aa,Aa]at h9;have h8:(KN x).all (λp=>Zi<|σ p)=true:=by have:=h9.2.2;simp only[adS,ho,hcal,E8,Aa]at this;exact this.1
    cases x with
    |tmp p=>have e:σ p=.tok u:=hcv;simp[KN,e,Zi]at h8
    |const v=>have e:cV v=.tok u:=hcv;unfold cV at e;split at e<;>first|(cases e;done)|(split at e<;>cases e)
    |global g=>cases hcv
    |func g=>cases hcv
   ·unfold fE at *;split at h
    ·rename_i d' q b hd hg;rw[ha q (h2' q b hg)];exact⟨h.1,h.2.1,h.2.2.1,JQ ha hf.1 hd h.2.2.2⟩
    ·exact h
  ·rename_i d' x y t t' hcal hd hargs' hts;have hW:=oy h1<|h5.resolve_left<|by simp[simple,ho,hcal]
   rw[ho]at hW;have hargsW:∀x∈c.args.toList,(KN x).all W.contains=true:=λx hxm=>Sk (g:=KN) hW (by simp only[Op.operands,Call.operands];simp;exact .inr<|by simpa using hxm)
   have hxW:=hargsW x (by rw[hargs'];simp);have hyW:=hargsW y (by rw[hargs'];simp);have hx1:=hargs x (by rw[hargs'];simp);have hy1:=hargs y (by rw[hargs'];simp);refine Xb ha hf hd (λh2=>?_) h;unfold c5 at *;have⟨us,e1,e2,e3⟩:=WN σ x
   have hag:GL R (C5 σ x) (C5 τ x):=by
    intro s hs;rw[e2,e3 τ (YE ha hx1)];by_cases hk:s∈us.map (·.1)
    ·exact cX hk
    ·rw[QC hk,QC hk];exact ha s hs
   rw[Jh ha hx1,Jh hag hy1];split at h2
   ·have⟨q1,q2,q3,q4,q5⟩:=h2;refine⟨q1,q2,q3,q4,?_⟩;have⟨vs,f1,f2,f3⟩:=WN (C5 σ x) y;have k1:C5 (C5 σ x) y=RV σ (vs++us):=by rw[f2,e2,ZJ]
    have k2:C5 (C5 τ x) y=RV τ (vs++us):=by rw[f3 _ (YE hag hy1),e3 τ (YE ha hx1),ZJ]
    rw[k1]at q5;rw[k2];refine q5.imp (λq5=>?_)<|λq5=>⟨?_,q5.2⟩
    ·refine Xg (us:=(d',_)::(vs++us)) ha hf.1 (λq hq=>?_) (λd'' hd'=>?_) q5
     ·simp only[AM,Bd,AE,Ak,e1,f1]at hq;rcases hq with rfl|hq|hq
      ·exact h3 _ hd
      ·exact Xi hyW hq
      ·exact Xi hxW hq
     ·rw[hd]at hd';injection hd' with hd';subst hd';simp
    ·refine Xg (us:=(d',_)::(d',_)::(vs++us)) ha hf.1 (λq hq=>?_) (λd'' hd'=>?_) q5.1
     ·simp only[AM,Bd,AE,Ak,e1,f1]at hq;rcases hq with rfl|rfl|hq|hq
      ·exact h3 _ hd
      ·exact h3 _ hd
      ·exact Xi hyW hq
      ·exact Xi hxW hq
     ·rw[hd]at hd';injection hd' with hd';subst hd';simp
   ·exact h2
  ·exact Xn ha hf h
 ·rename_i t x f d ho hd;rw[ho]at hx;refine Xb ha hf hd (λh2=>?_) h;unfold sq at *;rw[Jh ha (by simpa[UO,Op.operands]using hx)];split at h2
  ·split at h2
   ·exact JQ ha hf.1 hd h2
   ·exact h2
  ·exact h2
 ·rename_i f fs caps d ho hd;have:=hf.1;simp[XA,ho]at this
 ·exact Xn ha hf h
end
def ptS(cns:zN):zN:=(cns.filter<|λc=>Nat.ble 2000000 c).map<|λc=>c - 2000000
def t8:V->Bool
 |.box _=>true
 |_=>false
def bxS(cns:zN)(σ:PS):Bool:=(ptS cns).all<|λp=>t8<|σ p
def spc(cns:zN)(o:LO):Bool:=match o.op,o.dst,o.g with
 |.move (.tmp p),some d,none=> !cns.contains d&&(ptS cns).contains p
 |_,_,_=>false
def fpX(cns R W:zN)(o:LO):Bool:=spc cns o&&((o.dst.toList).all W.contains&&W.all (λs=>o.dst==some s))
def fpB(cns R W:zN)(o:LO):Bool:=XA cns R W o || fpX cns R W o
def adB(cns R:zN)(o:LO)(σ:PS):Bool:=((adU cns o).all (λp=>fU R<|σ p)&&(adT cns o).all (λp=>vm<|σ p))&&bxS cns σ
def fpS(cns R W:zN)(o:LO)(σ:PS):Prop:=fpB cns R W o=true∧ZT R W o.op σ=true∧adB cns R o σ=true
def jO{P tb cns R W σ τ o K}(x:GL R σ τ)(y:bxS cns τ=true)(z:fpS cns R W o σ)(h:Jm P tb cns o σ K):Jm P tb cns o τ (Loc W σ τ K):=by
 have⟨b,A,l⟩:=z;unfold adB at l;rw[Aa]at l;unfold fpB at b;rw[Ck]at b;rcases b with b|b
 ·exact uJ x ⟨b,A,l.1⟩ h
 ·unfold fpX at b;rw[Aa,Aa]at b;have⟨i,c,m⟩:=b;have⟨B,op,ty,g⟩:=o;unfold spc at i;split at i
  ·rename_i p d n r s;simp only at n r s;subst n r s;rw[Aa,AH]at i;have t:=Av.1 i.2;have u:t8 (σ p)=true:=Am.1 l.2 p t;have v:t8 (τ p)=true:=Am.1 y p t;simp only[Jm]at h⊢;rw[Ay (by rw[i.1];simp)]at h⊢;cases j:σ p<;>rw[j]at u<;>first|cases u|skip
   cases k:τ p<;>rw[k]at v<;>first|cases v|skip
   simp only[LM,pc,pv,mvV,mvC,j,k]at h⊢;refine⟨trivial,upd σ d<|.cref p 0,h.2,?_,λq w=>?_⟩
   ·funext q;unfold pt;by_cases a:q=d
    ·subst a;have f:W.contains q=true:=by simpa using c
     rw[Aw f,upd_same,upd_same]
    ·rw[upd_ne _ _ a,upd_ne _ _ a];rw[Ay];intro f;have:=Am.1 m q<|Av.1 f;simp only[BG,Ar]at this;exact a this.symm
   ·have a:q≠d:=λe=>by subst e;simp only[Ku,By,Fu,DG]at c;rw[c]at w;cases w
    rw[upd_ne _ _ a]
  ·cases i
end
end Go.Proofs.YtdnlfoelbfcmnaaGreatDoor
