/-
 A machine on data, part 2a: code and its rules. Over no program; no conditions.
-/
import Derived.Test.YthghcmmlmfgkbaaGreatDoorKa
open Go.RowKit
set_option linter.unusedVariables false
set_option linter.unusedSimpArgs false
namespace Go.Proofs.YthghcmmlmfgkbaaGreatDoor
section
def NC(w:World)(St:Nat->Nat->Prop):List V->List Value->Prop
 |[],us=>us=[]
 |c::cs,us=>∃u us',us=u::us'∧Y6 w St c u∧NC w St cs us'
theorem NC.mono{w w':World}{St St':Nat->Nat->Prop}(hs:∀b o,St b o->St' b o)(he:Ext St w w'):∀{args:List V}{vs:List Value},NC w St args vs->NC w' St' args vs
 |[],_,h=>h
 |c::args,_,⟨u,us',e,h1,h2⟩=>⟨u,us',e,h1.mono hs he,NC.mono hs he h2⟩
mutual
def flt:V->Bool
 |.int _ _=>true
 |.bool _=>true
 |.agg cs=>U7 cs
 |.tup cs=>U7 cs
 |_=>false
def U7:List V->Bool
 |[]=>true
 |c::cs=>flt c&&U7 cs
end
section
variable {P:Program}{w w':World}{St St':Nat->Nat->Prop}
mutual
theorem ey:∀(c:V) {v:Value}{bs:zN},flt c=true->Ow P w St c v bs->bs=[]∧Ow P w' St' c v []
 |.int _ _,_,_,_,h=>⟨h.1,rfl,h.2⟩
 |.bool _,_,_,_,h=>⟨h.1,rfl,h.2⟩
 |.agg cs,_,_,hf,⟨us,e,h⟩=>⟨(SC cs hf h).1,us,e,(SC cs hf h).2⟩
 |.tup cs,_,_,hf,⟨us,e,h⟩=>⟨(Z0 cs hf h).1,us,e,(Z0 cs hf h).2⟩
 |.str _,_,_,hf,_=>by cases hf
 |.dat _ _,_,_,hf,_=>by cases hf
 |.arg _ _,_,_,hf,_=>by cases hf
 |.pin _ _ _,_,_,hf,_=>by cases hf
 |.own _ _ _,_,_,hf,_=>by cases hf
 |.fn _,_,_,hf,_=>by cases hf
 |.tok _,_,_,hf,_=>by cases hf
 |.box _,_,_,hf,_=>by cases hf
 |.cref _ _,_,_,hf,_=>by cases hf
 |.adr _ _,_,_,hf,_=>by cases hf
 |.undef,_,_,hf,_=>by cases hf
 |.uni _ _ _,_,_,hf,_=>by cases hf
 |.same _,_,_,hf,_=>by cases hf
 |.gh _ _,_,_,hf,_=>by cases hf
 |.val _ _,_,_,hf,_=>by cases hf
theorem SC:∀(cs:List V) {us:List Value}{bs:zN},U7 cs=true->A7 P w St cs us bs->bs=[]∧A7 P w' St' cs us []
 |[],_,_,_,h=>⟨h.2,h.1,rfl⟩
 |c::cs,_,_,hf,⟨u,us',b1,b2,e1,e2,h1,h2,h3⟩=>by
  have hf':flt c=true∧U7 cs=true:=by simpa[U7]using hf
  obtain⟨q1,q2⟩:=ey c hf'.1 h2
  obtain⟨q3,q4⟩:=SC cs hf'.2 h3
  exact⟨by rw[e2,q1,q3];rfl,u,us',[],[],e1,rfl,h1,q2,q4⟩
theorem Z0:∀(cs:List V) {us:List Value}{bs:zN},U7 cs=true->Js P w St cs us bs->bs=[]∧Js P w' St' cs us []
 |[],_,_,_,h=>⟨h.2,h.1,rfl⟩
 |c::cs,_,_,hf,⟨u,us',b1,b2,e1,e2,h2,h3⟩=>by
  have hf':flt c=true∧U7 cs=true:=by simpa[U7]using hf
  obtain⟨q1,q2⟩:=ey c hf'.1 h2
  obtain⟨q3,q4⟩:=Z0 cs hf'.2 h3
  exact⟨by rw[e2,q1,q3];rfl,u,us',[],[],e1,rfl,q2,q4⟩
end
end
def Ret(P:Program)(w:World)(St:Nat->Nat->Prop)(r:V)(e:Ending)(w':World):Prop:=
 ∃v bs St',e=.returned v∧Below w.heap.size w w'∧(∀b o,b < w.heap.size->(St' b o↔St b o))∧(∀b o,St' b o->b < w'.heap.size)∧Ow P w' St' r v bs∧bs.Nodup∧∀g∈bs,w.heap.size<=g∧g < w'.heap.size
def HV:V->Bool
 |.int .. |.bool .. |.str .. |.dat .. |.arg .. |.fn .. |.tok .. =>true
 |_=>false
def L6:V->Bool
 |.agg cs=>cs.all HV
 |c=>HV c
theorem SF{P:Program}{w:World}{St:Nat->Nat->Prop}:∀{cs:List V}{us:List Value}{bs:zN},cs.all HV=true->A7 P w St cs us bs->bs=[]
 |[],_,_,_,h=>h.2
 |c::cs,_,_,hp,⟨u,us',b1,b2,e1,e2,hc,h1,h2⟩=>by
  simp only[Bz,Aa]at hp
  have e3:b1=[]:=by cases c<;>first|exact h1.1|(exfalso;exact absurd hp.1 (by simp[HV]))
  rw[e2,e3,SF hp.2 h2];rfl
def wc(P:Program)(w:World)(St:Nat->Nat->Prop)(g:Nat)(cs':List V)(r:V)(e:Ending)(w':World):Prop:=
 ∃v bs St' T,∃arr:Array Value,e=.returned v∧BelowK (λb=>b < w.heap.size∧b≠g) w w'∧(∀b o,b < w.heap.size->(St' b o↔St b o))∧(∀b o,St' b o->b < w'.heap.size)∧
  w'.heap[g]? =some (.cells arr T (0,0))∧A7 P w' St' cs' arr.toList []∧Ow P w' St' r v bs∧bs.Nodup∧∀k∈bs,w.heap.size<=k∧k < w'.heap.size
def NP(P:Program)(f:FuncId):Prop:=∃fn,P.funcs[f]? =some fn∧fn.body.isNone=false∧(fn.name== "runtime.NumGoroutine")=false
def Ks(P:Program)(f:FuncId)(args:List V)(r:V):Prop:=
 NP P f∧∀w St (vs:List Value),(∀b o,St b o->b < w.heap.size)->Glb w St->NC w St args vs->Calls P f vs.toArray w (Ret P w St r)
def O1(P:Program)(f:FuncId)(cs args cs':List V)(r:V):Prop:=
 NP P f∧∀w St (g:Nat) T (arr:Array Value) (vs:List Value),(∀b o,St b o->b < w.heap.size)->Glb w St->w.heap[g]? =some (.cells arr T (0,0))->A7 P w St cs arr.toList []->(∀o,¬St g o)->NC w St args vs->
  Calls P f (Value.pointer (some ⟨g,0,none⟩)::vs).toArray w (wc P w St g cs' r)
def Aao(P:Program)(w:World)(St:Nat->Nat->Prop)(g:Nat)(bs0:zN)(cs':List V)(e:Ending)(w':World):Prop:=
 ∃v bs St' T,∃arr:Array Value,e=.returned v∧BelowK (λb=>b < w.heap.size∧b∉g::bs0) w w'∧(∀b o,b < w.heap.size->b∉bs0->(St' b o↔St b o))∧(∀b o,St' b o->b < w'.heap.size)∧
  w'.heap[g]? =some (.cells arr T (0,0))∧A7 P w' St' cs' arr.toList bs∧Ow P w' St' (.tup []) v []∧(g::bs).Nodup∧∀k∈bs,(k∈bs0∨w.heap.size<=k)∧k < w'.heap.size
def wa(P:Program)(f:FuncId)(cs args cs':List V):Prop:=
 NP P f∧∀w St (g:Nat) T (arr:Array Value) (bs0:zN) (vs:List Value),(∀b o,St b o->b < w.heap.size)->Glb w St->w.heap[g]? =some (.cells arr T (0,0))->A7 P w St cs arr.toList bs0->(g::bs0).Nodup->(∀k∈bs0,k < w.heap.size)->(∀o,¬St g o)->NC w (λb o=>St b o∧b∉bs0) args vs->
  Calls P f (Value.pointer (some ⟨g,0,none⟩)::vs).toArray w (Aao P w St g bs0 cs')
def wb(P:Program)(w:World)(St:Nat->Nat->Prop)(us:List Value)(bs0:zN)(os':List V)(r:V)(e:Ending)(w':World):Prop:=
 ∃v bs St',e=.returned v∧BelowK (λb=>b < w.heap.size∧b∉bs0) w w'∧(∀b o,b < w.heap.size->b∉bs0->(St' b o↔St b o))∧(∀b o,St' b o->b < w'.heap.size)∧
  A7 P w' St' os' us bs∧Ow P w' St' r v []∧bs.Nodup∧∀k∈bs,(k∈bs0∨w.heap.size<=k)∧k < w'.heap.size
def P3(P:Program)(f:FuncId)(as os args os':List V)(r:V):Prop:=
 NP P f∧∀w St (us:List Value) (bs0:zN) (vs1 vs:List Value),(∀b o,St b o->b < w.heap.size)->Glb w St->A7 P w St os us bs0->bs0.Nodup->(∀k∈bs0,k < w.heap.size)->NC w (λb o=>St b o∧b∉bs0) as vs1->NC w (λb o=>St b o∧b∉bs0) args vs->
  Calls P f (vs1++(us++vs)).toArray w (wb P w St us bs0 os' r)
def NewAt(P:Program)(f:FuncId)(args cs:List V):Prop:=
 NP P f∧∀w St (vs:List Value),(∀b o,St b o->b < w.heap.size)->Glb w St->NC w St args vs->Calls P f vs.toArray w λe w'=>
  ∃g T St',∃arr:Array Value,e=.returned (.pointer (some ⟨g,0,none⟩))∧Below w.heap.size w w'∧(∀b o,b < w.heap.size->(St' b o↔St b o))∧(∀b o,St' b o->b < w'.heap.size)∧
   w'.heap[g]? =some (.cells arr T (0,0))∧A7 P w' St' cs arr.toList []∧(∀o,¬St' g o)∧w.heap.size<=g∧g < w'.heap.size
section
variable {P:Program}{nt:Nat}{base:Bs}{bx:zN}{St St' St0:Nat->Nat->Prop}{B:Nat->zN}{hand:zN}{σ σ':PS}{a:Act}{w w' w0:World}{K:PS->Prop}{Q:Exit->Act->World->Prop}{o:Oper}
theorem TY(h:HSim P nt bx base St B hand σ a w):∀(xs:List Operand),xs.all (λx=>(Co σ x).isArg)=true->NC w St (xs.map λx=>er (Co σ x)) (xs.map a.eval)
 |[],_=>rfl
 |x::xs,hv=>by
  simp only[Bz,Aa]at hv
  obtain⟨b,hx⟩:=Ld h x
  exact⟨a.eval x,xs.map a.eval,rfl,((hx.ow (JU hv.1)).rda hv.1).erase,TY h xs hv.2⟩
def erK:V->V
 |.arg n cs=>.arg n cs
 |c=>er c
theorem Wt(h:HSim P nt bx base St B hand σ a w):∀(xs:List Operand),xs.all (λx=>(Co σ x).isArg)=true->NC w St (xs.map λx=>erK (Co σ x)) (xs.map a.eval)
 |[],_=>rfl
 |x::xs,hv=>by
  simp only[Bz,Aa]at hv
  obtain⟨b,hx⟩:=Ld h x
  have h0:=(hx.ow (JU hv.1)).rda hv.1
  have h1:Y6 w St (erK (Co σ x)) (a.eval x):=by
   generalize Co σ x=c at h0
   cases c<;>first|exact h0|exact h0.erase
  exact⟨a.eval x,xs.map a.eval,rfl,h1,Wt h xs hv.2⟩
theorem aH(h:HSim P nt bx base St B hand σ a w):∀(xs:List Operand),xs.all (λx=>(Co σ x).isArg)=true->NC w St (xs.map λx=>Co σ x) (xs.map a.eval)
 |[],_=>rfl
 |x::xs,hv=>by
  simp only[Bz,Aa]at hv
  obtain⟨b,hx⟩:=Ld h x
  exact⟨a.eval x,xs.map a.eval,rfl,(hx.ow (JU hv.1)).rda hv.1,aH h xs hv.2⟩
def aD(P:Program)(σ:PS)(f:FuncId)(args:List Operand)(r:V):Prop:=Ks P f (args.map λx=>er (Co σ x)) r∨Ks P f (args.map λx=>erK (Co σ x)) r∨Ks P f (args.map λx=>Co σ x) r
def QC(σ:PS)(d:Option Tmp)(r:V):PS:=match d with
 |some d=>upd σ d r
 |none=>σ
theorem cd{f:FuncId}{cal:Operand}{args:Array Operand}{ts:Array TypeId}{r:V}(hcv:Co σ cal=.fn f)(hop:o.op=.call {callee:=.value cal,args:=args,argTypes:=ts})(hargs:args.toList.all (λx=>(Co σ x).isArg)=true)
  (hs:aD P σ f args.toList r) (hd:∀d,o.dst=some d->d < nt∧d∉bx) (hk:K (QC σ o.dst r)):RD P nt bx base St0 w0 o σ K:=by
 rintro a w Q ⟨St,B,h,hb,hst,hz⟩
 have hs':NP P f∧Calls P f (args.toList.map a.eval).toArray w (Ret P w St r):=hs.elim (λh1=>⟨h1.1,h1.2 w St _ h.st h.gl (TY h _ hargs)⟩) (λh0=>h0.elim (λh1=>⟨h1.1,h1.2 w St _ h.st h.gl (Wt h _ hargs)⟩) (λh1=>⟨h1.1,h1.2 w St _ h.st h.gl (aH h _ hargs)⟩))
 obtain⟨⟨fn,hf,hbody,hname⟩,hcall⟩:=hs'
 have hr:(execOp a.eval o).run P w=.ok (.enter f (args.toList.map a.eval).toArray) w:=by
  have e1:(args.toList.map a.eval).toArray=args.map a.eval:=by rw[<-Hp,DE]
  have e2:a.eval cal=.func (.func f) #[] #[]:=by
   obtain⟨b,hs⟩:=Ld h cal
   rw[hcv]at hs
   exact hs.2
  rw[e1]
  simp only[execOp,hop,resolve,e2,Deferred.ofValue,A6,BA,AM,invoke,callFunc,run_program,Array.append_empty,K2,hf,hbody,hname]
  simp
 unfold Oper.wp
 rw[hr,Ey]
 refine hcall.mono ?_
 rintro e w1 ⟨v,bs,St1,rfl,h1,h2,h3,h4,h5,h6⟩
 refine⟨_,hk,?_⟩
 have g1:=h.grow (w':=w1) (St':=St1) h1 h2 h3
 have g2:=g1.fresh (bs:=bs) h5 (λg hg=>⟨λh'=>by have:=hz g h';have:=(h6 g hg).1;omega,(h6 g hg).2⟩) (λs g hg hm=>by have:=(h.range s g hg).2;have:=(h6 g hm).1;omega) (by simp)
 have hst1:∀b o',base b->(St1 b o'↔St0 b o'):=λb o' hlt=>(h2 b o' (hz b hlt)).trans (hst b o' hlt)
 cases hdst:o.dst with
 |none=>exact⟨St1,B,g2.less AG (by simp),hb.below h1 hz,hst1,PR hz h1.size⟩
 |some d=>
  obtain⟨hd1,hd2⟩:=hd d hdst
  exact⟨St1,upd B d bs,g2.put hd1 hd2 h4.slot h5 (by simp) h4.Do.1 h4.Oa,hb.below h1 hz,hst1,PR hz h1.size⟩
theorem HSim.Aax(h:HSim P nt bx base St B hand σ a w){s g:Nat}{cs cs':List V}(hs:σ s=.box cs)(hB:B s=[g])(hng:∀o,¬St g o)(hb:BelowK (λb=>b < w.heap.size∧b≠g) w w')
  (hst:∀b o,b < w.heap.size->(St' b o↔St b o)) (hst':∀b o,St' b o->b < w'.heap.size) (hc:Cf P w' St' (tm a) (.box cs') (tm a s) [g]):HSim P nt bx base St' B hand (upd σ s (.box cs')) a w':=
 have hbox:∀b,(∃cs,CS (σ b)=some cs)->∃cs'',CS (upd σ s (.box cs') b)=some cs'':=λb ⟨cs,e⟩=>by
  by_cases eb:b=s
  ·subst eb;exact⟨cs',by rw[upd_same];rfl⟩
  ·exact⟨cs,by rw[upd_ne _ _ eb];exact e⟩
 {h with
  slot:=λq=>by
   by_cases e:q=s
   ·subst e;rw[upd_same,hB];exact hc
   ·rw[upd_ne _ _ e]
    refine(h.slot q).mono (λb o hs=>(hst b o (h.st b o hs)).2 hs) (λb o hs=>?_) (λk hk=>⟨hb.block k ⟨(h.range q k hk).2,λek=>?_⟩,λo=>hst k o (h.range q k hk).2⟩) (λ_ _=>rfl)
    ·exact BS (hb.block b ⟨h.st b o hs,λeb=>hng o (eb ▸ hs)⟩)
    ·subst ek;exact h.apart q s e k hk (by rw[hB];simp)
  boxes:=λq cs e=>by
   by_cases eq:q=s
   ·subst eq;exact h.boxes _ _ (by rw[hs];rfl)
   ·rw[upd_ne _ _ eq]at e;exact h.boxes q cs e
  crefs:=λq b e=>by
   by_cases eq:q=s
   ·subst eq;rw[upd_same]at e;cases e
   ·rw[upd_ne _ _ eq]at e;exact hbox b (h.crefs q b e)
  range:=λq k hk=>⟨(h.range q k hk).1,Bo (h.range q k hk).2 hb.size⟩
  hrange:=λk hk=>⟨(h.hrange k hk).1,Bo (h.hrange k hk).2 hb.size⟩
  st:=hst'
  gl:=h.gl.of (λb hg o=>(hst b o (h.st b o (hg o))).2 (hg o)) (λb o hg=>BS (hb.block b ⟨h.st b o (hg o),λeb=>hng o (eb ▸ hg o)⟩))}
theorem Ud(h:HSim P nt bx base St B hand σ a w){f:FuncId}{cal:Operand}(hcv:Co σ cal=.fn f):a.eval cal=.func (.func f) #[] #[]:=by
 obtain⟨b,hs⟩:=Ld h cal
 rw[hcv]at hs
 exact hs.2
theorem Qn{f:FuncId}{cal:Operand}{args:Array Operand}{ts:Array TypeId}(hop:o.op=.call {callee:=.value cal,args:=args,argTypes:=ts})(e2:a.eval cal=.func (.func f) #[] #[])(hb:NP P f):(execOp a.eval o).run P w=.ok (.enter f (args.toList.map a.eval).toArray) w:=by
 obtain⟨fn,hf,hbody,hname⟩:=hb
 have e1:(args.toList.map a.eval).toArray=args.map a.eval:=by rw[<-Hp,DE]
 rw[e1]
 simp only[execOp,hop,resolve,e2,Deferred.ofValue,A6,BA,AM,invoke,callFunc,run_program,Array.append_empty,K2,hf,hbody,hname]
 simp
theorem jt{f:FuncId}{cal:Operand}{args:Array Operand}{ts:Array TypeId}{x:Operand}{xs:List Operand}{s:Nat}{cs cs':List V}{r:V}(hcv:Co σ cal=.fn f)(hop:o.op=.call {callee:=.value cal,args:=args,argTypes:=ts})(he:args.toList=x::xs)(hax:KQ σ x=.cref s 0)(hs:σ s=.box cs)(hpl:cs.all HV=true)
  (hargs:xs.all (λx=>(Co σ x).isArg)=true) (hp:O1 P f cs (xs.map λx=>er (Co σ x)) cs' r) (hd:∀d,o.dst=some d->d < nt∧d∉bx) (hk:K (QC (upd σ s (.box cs')) o.dst r)):RD P nt bx base St0 w0 o σ K:=by
 rintro a w Q ⟨St,B,h,hb,hst,hz⟩
 obtain⟨g,T,bs',arr,q1,q2,q3,q4,q5,q6⟩:=O4 h hax (cs:=cs) (by rw[hs];rfl)
 have hnil:=SF hpl q4
 subst hnil
 have hcall:=hp.2 w St g T arr (xs.map a.eval) h.st h.gl q3 q4 q6 (TY h _ hargs)
 have hr:=Qn (P:=P) (a:=a) (w:=w) hop (Ud h hcv) hp.1
 rw[he,AC,q1]at hr
 unfold Oper.wp
 rw[hr,Ey]
 refine hcall.mono ?_
 rintro e w1 ⟨v,bs,St1,T1,arr1,rfl,h1,h2,h3,h4,h5,h6,h7,h8⟩
 refine⟨_,hk,?_⟩
 have hgr:=h.range s g (by rw[q5];simp)
 have hpt:tm a s=.pointer (some ⟨g,0,none⟩):=by
  have:=h.slot s
  rw[hs]at this
  obtain⟨g',_,_,_,e1,_⟩:=this
  rw[e1]at q2
  simp only[T3,Ap]at q2
  rw[e1,q2]
 have hng:∀o,¬St1 g o:=λo ho=>q6 o ((h2 g o hgr.2).1 ho)
 have g1:=h.Aax (w':=w1) (St':=St1) (cs':=cs') hs q5 q6 h1 h2 h3 ⟨g,T1,[],arr1,hpt,h4,h5,rfl,hng⟩
 have g2:=g1.fresh (bs:=bs) h7 (λk hk=>⟨λh'=>by have:=hz k h';have:=(h8 k hk).1;omega,(h8 k hk).2⟩) (λq k hk hm=>by have:=(h.range q k hk).2;have:=(h8 k hm).1;omega) (by simp)
 have hbel:BelowK base.K w0 w1:=hb.trans ⟨h1.os,h1.tape,h1.output,h1.size,λk hk=>h1.block k ⟨hz k hk,λe=>hgr.1 (e ▸ hk)⟩⟩
 have hst1:∀b o',base b->(St1 b o'↔St0 b o'):=λb o' hlt=>(h2 b o' (hz b hlt)).trans (hst b o' hlt)
 cases hdst:o.dst with
 |none=>exact⟨St1,B,g2.less AG (by simp),hbel,hst1,PR hz h1.size⟩
 |some d=>
  obtain⟨hd1,hd2⟩:=hd d hdst
  exact⟨St1,upd B d bs,g2.put hd1 hd2 h6.slot h7 (by simp) h6.Do.1 h6.Oa,hbel,hst1,PR hz h1.size⟩
theorem HSim.te(h:HSim P nt bx base St B [] σ a w){s g:Nat}{bs0 bs:zN}{cs cs':List V}(hs:σ s=.box cs)(hB:B s=g::bs0)(hng:∀o,¬St g o)(hd:∀k∈bs0,∃o,¬St k o)(hb:BelowK (λb=>b < w.heap.size∧b∉g::bs0) w w')
  (hst:∀b o,b < w.heap.size->b∉bs0->(St' b o↔St b o)) (hst':∀b o,St' b o->b < w'.heap.size) (hsafe:∀q,q≠s->J6 (σ q)=true) (hn:(g::bs).Nodup) (hbs:∀k∈bs,(k∈bs0∨w.heap.size<=k)∧k < w'.heap.size) (hz:∀b,base b->b < w.heap.size)
  (hc:Cf P w' St' (tm a) (.box cs') (tm a s) (g::bs)):HSim P nt bx base St' (upd B s (g::bs)) [] (upd σ s (.box cs')) a w':=
 have hbox:∀b,(∃cs,CS (σ b)=some cs)->∃cs'',CS (upd σ s (.box cs') b)=some cs'':=λb ⟨cs,e⟩=>by
  by_cases eb:b=s
  ·subst eb;exact⟨cs',by rw[upd_same];rfl⟩
  ·exact⟨cs,by rw[upd_ne _ _ eb];exact e⟩
 have hf:FrB (g::bs0) w w':=⟨hb.os,hb.tape,hb.output,hb.size,λk hk hn=>hb.block k ⟨hk,hn⟩⟩
 have hoff:∀q,q≠s->∀k∈B q,k∉g::bs0:=λq e k hk hm=>h.apart q s e k hk (by rw[hB];exact hm)
 have hin:∀q,q≠s->∀k∈B q,k∉g::bs:=λq e k hk hm=>by
  rcases AB.1 hm with rfl|hm
  ·exact hoff q e k hk Bg
  ·rcases(hbs k hm).1 with h1|h1
   ·exact hoff q e k hk (AE _ h1)
   ·have:=(h.range q k hk).2;omega
 {h with
  slot:=λq=>by
   by_cases e:q=s
   ·subst e;rw[upd_same,upd_same];exact hc
   ·rw[upd_ne _ _ e,upd_ne _ _ e]
    refine O0 hf (λk hk=>?_) h.st (λk o hk hs=>(hst k o (h.st k o hs) (λhm=>hk (AE _ hm))).2 hs) (hsafe q e) (h.slot q) (λk hk=>⟨hb.block k ⟨(h.range q k hk).2,hoff q e k hk⟩,λo=>hst k o (h.range q k hk).2 (λhm=>hoff q e k hk (AE _ hm))⟩)
    rcases AB.1 hk with rfl|hk
    ·exact⟨0,hng 0⟩
    ·exact hd k hk
  boxes:=λq cs e=>by
   by_cases eq:q=s
   ·subst eq;exact h.boxes _ _ (by rw[hs];rfl)
   ·rw[upd_ne _ _ eq]at e;exact h.boxes q cs e
  crefs:=λq b e=>by
   by_cases eq:q=s
   ·subst eq;rw[upd_same]at e;cases e
   ·rw[upd_ne _ _ eq]at e;exact hbox b (h.crefs q b e)
  nodup:=λq=>by
   by_cases e:q=s
   ·subst e;rw[upd_same];exact hn
   ·rw[upd_ne _ _ e];exact h.nodup q
  apart:=λq r hqr k hk hk'=>by
   by_cases e:q=s
   ·subst e;rw[upd_same]at hk;rw[upd_ne _ _ (Ne.symm hqr)]at hk';exact hin r (Ne.symm hqr) k hk' hk
   ·rw[upd_ne _ _ e]at hk
    by_cases e':r=s
    ·subst e';rw[upd_same]at hk';exact hin q e k hk hk'
    ·rw[upd_ne _ _ e']at hk';exact h.apart q r hqr k hk hk'
  hnodup:=AG
  hapart:=λ_ _ _=>by simp
  range:=λq k hk=>by
   by_cases e:q=s
   ·subst e
    rw[upd_same]at hk
    rcases AB.1 hk with rfl|hk
    ·have:=h.range q k (by rw[hB];simp);exact⟨this.1,Bo this.2 hb.size⟩
    ·refine⟨?_,(hbs k hk).2⟩
     rcases(hbs k hk).1 with h1|h1
     ·exact(h.range q k (by rw[hB];exact AE _ h1)).1
     ·exactλhbk=>by have:=hz k hbk;omega
   ·rw[upd_ne _ _ e]at hk;exact⟨(h.range q k hk).1,Bo (h.range q k hk).2 hb.size⟩
  hrange:=by simp
  st:=hst'
  gl:=h.gl.of (λb hg o=>(hst b o (h.st b o (hg o)) λhm=>(hd b hm).elim λo' ho=>ho (hg o')).2 (hg o)) (λb o hg=>BS (hb.block b ⟨h.st b o (hg o),λhm=>(AB.1 hm).elim (λeb=>hng o (eb ▸ hg o)) (λhm=>(hd b hm).elim λo' ho=>ho (hg o'))⟩))}
theorem HSim.lend(h:HSim P nt bx base St B [] σ a w){s:Nat}{bs0 bs:zN}{c':V}(hx:CS (σ s)=none)(hx':CS c'=none)(hrf:DI c'=none)(hB:B s=bs0)(hd:∀k∈bs0,∃o,¬St k o)(hb:BelowK (λb=>b < w.heap.size∧b∉bs0) w w')
  (hst:∀b o,b < w.heap.size->b∉bs0->(St' b o↔St b o)) (hst':∀b o,St' b o->b < w'.heap.size) (hsafe:∀q,q≠s->J6 (σ q)=true) (hn:bs.Nodup) (hbs:∀k∈bs,(k∈bs0∨w.heap.size<=k)∧k < w'.heap.size) (hz:∀b,base b->b < w.heap.size)
  (hc:Cf P w' St' (tm a) c' (tm a s) bs):HSim P nt bx base St' (upd B s bs) [] (upd σ s c') a w':=
 have hbox:∀b,(∃cs,CS (σ b)=some cs)->∃cs'',CS (upd σ s c' b)=some cs'':=λb ⟨cs,e⟩=>by
  by_cases eb:b=s
  ·subst eb;rw[hx]at e;cases e
  ·exact⟨cs,by rw[upd_ne _ _ eb];exact e⟩
 have hf:FrB bs0 w w':=⟨hb.os,hb.tape,hb.output,hb.size,λk hk hn=>hb.block k ⟨hk,hn⟩⟩
 have hoff:∀q,q≠s->∀k∈B q,k∉bs0:=λq e k hk hm=>h.apart q s e k hk (by rw[hB];exact hm)
 have hin:∀q,q≠s->∀k∈B q,k∉bs:=λq e k hk hm=>by
  rcases(hbs k hm).1 with h1|h1
  ·exact hoff q e k hk h1
  ·have:=(h.range q k hk).2;omega
 {h with
  slot:=λq=>by
   by_cases e:q=s
   ·subst e;rw[upd_same,upd_same];exact hc
   ·rw[upd_ne _ _ e,upd_ne _ _ e]
    exact O0 hf hd h.st (λk o hk hs=>(hst k o (h.st k o hs) hk).2 hs) (hsafe q e) (h.slot q) (λk hk=>⟨hb.block k ⟨(h.range q k hk).2,hoff q e k hk⟩,λo=>hst k o (h.range q k hk).2 (hoff q e k hk)⟩)
  boxes:=λq cs e=>by
   by_cases eq:q=s
   ·subst eq;rw[upd_same,hx']at e;cases e
   ·rw[upd_ne _ _ eq]at e;exact h.boxes q cs e
  crefs:=λq b e=>by
   by_cases eq:q=s
   ·subst eq;rw[upd_same,hrf]at e;cases e
   ·rw[upd_ne _ _ eq]at e;exact hbox b (h.crefs q b e)
  nodup:=λq=>by
   by_cases e:q=s
   ·subst e;rw[upd_same];exact hn
   ·rw[upd_ne _ _ e];exact h.nodup q
  apart:=λq r hqr k hk hk'=>by
   by_cases e:q=s
   ·subst e;rw[upd_same]at hk;rw[upd_ne _ _ (Ne.symm hqr)]at hk';exact hin r (Ne.symm hqr) k hk' hk
   ·rw[upd_ne _ _ e]at hk
    by_cases e':r=s
    ·subst e';rw[upd_same]at hk';exact hin q e k hk hk'
    ·rw[upd_ne _ _ e']at hk';exact h.apart q r hqr k hk hk'
  hnodup:=AG
  hapart:=λ_ _ _=>by simp
  range:=λq k hk=>by
   by_cases e:q=s
   ·subst e
    rw[upd_same]at hk
    refine⟨?_,(hbs k hk).2⟩
    rcases(hbs k hk).1 with h1|h1
    ·exact(h.range q k (by rw[hB];exact h1)).1
    ·exactλhbk=>by have:=hz k hbk;omega
   ·rw[upd_ne _ _ e]at hk;exact⟨(h.range q k hk).1,Bo (h.range q k hk).2 hb.size⟩
  hrange:=by simp
  st:=hst'
  gl:=h.gl.of (λb hg o=>(hst b o (h.st b o (hg o)) λhm=>(hd b hm).elim λo' ho=>ho (hg o')).2 (hg o)) (λb o hg=>BS (hb.block b ⟨h.st b o (hg o),λhm=>(hd b hm).elim λo' ho=>ho (hg o')⟩))}
def eh(D:zN):Operand->Bool
 |.tmp p=> !D.contains p
 |.const (.int _ _)=>true
 |.const (.bool _)=>true
 |.const (.string _)=>true
 |_=>false
theorem TX(h:HSim P nt bx base St B hand σ a w){s:Nat}{bs0 D:zN}(hs:(σ s).isArg=false)(hB:∀k∈bs0,k∈B s)(hd:∀k∈bs0,∃o,¬St k o)(hsafe:∀q,q≠s->D.contains q=true∨J6 (σ q)=true):
  ∀(xs:List Operand),xs.all (λx=>(Co σ x).isArg&&eh D x)=true->NC w (λb o=>St b o∧b∉bs0) (xs.map λx=>er (Co σ x)) (xs.map a.eval)
 |[],_=>rfl
 |x::xs,hv=>by
  simp only[Bz,Aa]at hv
  refine⟨a.eval x,xs.map a.eval,rfl,?_,TX h hs hB hd hsafe xs hv.2⟩
  obtain⟨hv1,hv2⟩:=hv.1
  have key:∃b,Cf P w St (tm a) (Co σ x) (a.eval x) b∧J6 (Co σ x)=true∧∀k∈b,k∉bs0:=by
   cases x with
   |tmp p=>
    have hp:p≠s:=λe=>by subst e;rw[show Co σ (.tmp p)=σ p from rfl]at hv1;rw[hs]at hv1;cases hv1
    refine⟨B p,h.slot p,?_,λk hk hm=>h.apart p s hp k hk (hB k hm)⟩
    rcases hsafe p hp with h1|h1
    ·simp only[eh,h1]at hv2;cases hv2
    ·exact h1
   |const v=>
    refine⟨[],Zk v,?_,by simp⟩
    cases v<;>first|rfl|(cases hv2;done)|skip
    simp only[Co,cV];split<;>rfl
   |_=>cases hv2
  obtain⟨b,q1,q2,q3⟩:=key
  have q4:=O0 (FrB.refl bs0 w) hd h.st (St':=λb o=>St b o∧b∉bs0) (λk o hk hs=>⟨hs,hk⟩) q2 q1 (λk hk=>⟨rfl,λo=>⟨λh=>h.1,λh=>⟨h,q3 k hk⟩⟩⟩)
  exact((q4.ow (JU hv1)).rda hv1).erase
theorem js{f:FuncId}{cal:Operand}{args:Array Operand}{ts:Array TypeId}{xs:List Operand}{s:Nat}{cs cs':List V}{D:zN}(hcv:Co σ cal=.fn f)(hop:o.op=.call {callee:=.value cal,args:=args,argTypes:=ts})(he:args.toList=.tmp s::xs)(hs:σ s=.box cs)(hdp:E1 cs=true)
  (hargs:xs.all (λx=>(Co σ x).isArg&&eh D x)=true) (hp:wa P f cs (xs.map λx=>er (Co σ x)) cs') (hD:D.contains s=false) (hsafe:∀q,q≠s->D.contains q=true∨J6 (σ q)=true) (hd:∀d,o.dst=some d->d < nt∧d∉bx) (hk:K (QC (upd (kill D σ) s (.box cs')) o.dst (.tup []))):RD P nt bx base St0 w0 o σ K:=by
 rintro a w Q ⟨St,B,h,hb,hst,hz⟩
 have hsl:=h.slot s
 rw[hs]at hsl
 obtain⟨g,T,bs0,arr,e1,e2,e3,e4,e5⟩:=hsl
 have hnd:=h.nodup s
 rw[e4]at hnd
 have hsm:=A7.Q7 cs hdp e3
 have hrd:=TX h (s:=s) (bs0:=bs0) (D:=D) (by rw[hs];rfl) (λk hk=>by rw[e4];exact AE _ hk) hsm hsafe xs hargs
 have hrg:∀k∈bs0,k < w.heap.size:=λk hk=>(h.range s k (by rw[e4];exact AE _ hk)).2
 have hcall:=hp.2 w St g T arr bs0 (xs.map a.eval) h.st h.gl e2 e3 hnd hrg e5 hrd
 have hr:=Qn (P:=P) (a:=a) (w:=w) hop (Ud h hcv) hp.1
 rw[he,AC,show a.eval (.tmp s)=tm a s from rfl,e1]at hr
 unfold Oper.wp
 rw[hr,Ey]
 refine hcall.mono ?_
 rintro e w1 ⟨v,bs,St1,T1,arr1,rfl,h1,h2,h3,h4,h5,h6,h7,h8⟩
 refine⟨_,hk,?_⟩
 obtain⟨B2,k3,_,hBs⟩:=Sw D h
 have hs3:kill D σ s=.box cs:=by rw[TI hD (by rw[hs];rfl)];exact hs
 have hB3:B2 s=g::bs0:=by
  rcases hBs s with e|e
  ·have:=k3.slot s
   rw[hs3]at this
   obtain⟨_,_,_,_,_,_,_,e',_⟩:=this
   rw[e]at e';cases e'
  ·rw[e,e4]
 have hgr:=h.range s g (by rw[e4];simp)
 have hng:∀o,¬St1 g o:=λo ho=>e5 o ((h2 g o hgr.2 (Bw.1 hnd).1).1 ho)
 have g1:=k3.te (w':=w1) (St':=St1) (cs':=cs') (bs:=bs) hs3 hB3 e5 hsm h1 h2 h3 (λq hq=>by
  rcases PQ D σ q with e|e
  ·rw[e];rfl
  ·cases hc:D.contains q with
   |true=>rw[QY hc];rfl
   |false=>rw[e];exact(hsafe q hq).elim (λh=>by rw[hc]at h;cases h) id) h7 h8 hz ⟨g,T1,bs,arr1,e1,h4,h5,rfl,hng⟩
 have hbel:BelowK base.K w0 w1:=hb.trans ⟨h1.os,h1.tape,h1.output,h1.size,λk hk=>h1.block k ⟨hz k hk,λhm=>(h.range s k (by rw[e4];exact hm)).1 hk⟩⟩
 have hst1:∀b o',base b->(St1 b o'↔St0 b o'):=λb o' hlt=>(h2 b o' (hz b hlt) (λhm=>(h.range s b (by rw[e4];exact AE _ hm)).1 hlt)).trans (hst b o' hlt)
 cases hdst:o.dst with
 |none=>exact⟨St1,_,g1,hbel,hst1,PR hz h1.size⟩
 |some d=>
  obtain⟨hd1,hd2⟩:=hd d hdst
  exact⟨St1,_,g1.put hd1 hd2 h6.slot AG (by simp) h6.Do.1 h6.Oa,hbel,hst1,PR hz h1.size⟩
theorem cX(h:HSim P nt bx base St B hand σ a w):∀(xs:List Operand) (us:List Value),xs.map (Co σ)=us.map V.tok->xs.map a.eval=us
 |[],[],_=>rfl
 |[],_::_,e=>by cases e
 |_::_,[],e=>by cases e
 |x::xs,u::us,e=>by
  simp only[AC,C2]at e
  have h1:a.eval x=u:=by
   obtain⟨b,hx⟩:=Ld h x
   rw[e.1]at hx
   exact hx.2.1
  rw[AC,h1,cX h xs us e.2]
theorem jq{f:FuncId}{cal:Operand}{args:Array Operand}{ts:Array TypeId}{zs xs ys:List Operand}{us:List Value}{os os':List V}{r:V}{D:zN}(hcv:Co σ cal=.fn f)(hop:o.op=.call {callee:=.value cal,args:=args,argTypes:=ts})(he:args.toList=zs++(xs++ys))(hx:xs.map (Co σ)=us.map V.tok)(hs:σ gS=.gh us os)(hdp:E1 os=true)
  (hargs:(zs++ys).all (λx=>(Co σ x).isArg&&eh D x)=true) (hp:P3 P f (zs.map λx=>er (Co σ x)) os (ys.map λx=>er (Co σ x)) os' r) (hD:D.contains gS=false) (hsafe:∀q,q≠gS->D.contains q=true∨J6 (σ q)=true) (hd:∀d,o.dst=some d->d < nt∧d∉bx) (hk:K (QC (upd (kill D σ) gS (.gh us os')) o.dst r)):RD P nt bx base St0 w0 o σ K:=by
 rintro a w Q ⟨St,B,h,hb,hst,hz⟩
 have hsl:=h.slot gS
 rw[hs]at hsl
 have hrow:A7 P w St os us (B gS):=hsl
 have hnd:=h.nodup gS
 have hsm:=A7.Q7 os hdp hrow
 rw[EO,Aa]at hargs
 have hrd:=TX h (s:=gS) (bs0:=B gS) (D:=D) (by rw[hs];rfl) (λk hk=>hk) hsm hsafe ys hargs.2
 have hrd1:=TX h (s:=gS) (bs0:=B gS) (D:=D) (by rw[hs];rfl) (λk hk=>hk) hsm hsafe zs hargs.1
 have hrg:∀k∈B gS,k < w.heap.size:=λk hk=>(h.range gS k hk).2
 have hcall:=hp.2 w St us (B gS) (zs.map a.eval) (ys.map a.eval) h.st h.gl hrow hnd hrg hrd1 hrd
 have hr:=Qn (P:=P) (a:=a) (w:=w) hop (Ud h hcv) hp.1
 rw[he,B7,B7,cX h xs us hx]at hr
 unfold Oper.wp
 rw[hr,Ey]
 refine hcall.mono ?_
 rintro e w1 ⟨v,bs,St1,rfl,h1,h2,h3,h5,h6,h7,h8⟩
 refine⟨_,hk,?_⟩
 obtain⟨B2,k3,_,_,hBs⟩:=TC D h
 have hs3:kill D σ gS=.gh us os:=by rw[TI hD (by rw[hs];rfl)];exact hs
 have hB3:B2 gS=B gS:=hBs gS hD (by rw[hs3,hs])
 have g1:=k3.lend (w':=w1) (St':=St1) (c':=.gh us os') (bs:=bs) (by rw[hs3];rfl) rfl rfl hB3 hsm h1 h2 h3 (λq hq=>by
  rcases PQ D σ q with e|e
  ·rw[e];rfl
  ·cases hc:D.contains q with
   |true=>rw[QY hc];rfl
   |false=>rw[e];exact(hsafe q hq).elim (λh=>by rw[hc]at h;cases h) id) h7 h8 hz h5
 have hbel:BelowK base.K w0 w1:=hb.trans ⟨h1.os,h1.tape,h1.output,h1.size,λk hk=>h1.block k ⟨hz k hk,λhm=>(h.range gS k hm).1 hk⟩⟩
 have hst1:∀b o',base b->(St1 b o'↔St0 b o'):=λb o' hlt=>(h2 b o' (hz b hlt) (λhm=>(h.range gS b hm).1 hlt)).trans (hst b o' hlt)
 cases hdst:o.dst with
 |none=>exact⟨St1,_,g1,hbel,hst1,PR hz h1.size⟩
 |some d=>
  obtain⟨hd1,hd2⟩:=hd d hdst
  exact⟨St1,_,g1.put hd1 hd2 h6.slot AG (by simp) h6.Do.1 h6.Oa,hbel,hst1,PR hz h1.size⟩
theorem HSim.Aay(h:HSim P nt bx base St B hand σ a w){s g:Nat}{c':V}{cs cs':List V}(hs:CS (σ s)=some cs)(hc':CS c'=some cs')(hrf:DI c'=none)(hB:B s=[g])(hng:∀o,¬St g o)(hb:BelowK (λb=>b < w.heap.size∧b≠g) w w')
  (hst:∀b o,b < w.heap.size->(St' b o↔St b o)) (hst':∀b o,St' b o->b < w'.heap.size) (hc:Cf P w' St' (tm a) c' (tm a s) [g]):HSim P nt bx base St' B hand (upd σ s c') a w':=
 have hbox:∀b,(∃cs,CS (σ b)=some cs)->∃cs'',CS (upd σ s c' b)=some cs'':=λb ⟨cs,e⟩=>by
  by_cases eb:b=s
  ·subst eb;exact⟨cs',by rw[upd_same];exact hc'⟩
  ·exact⟨cs,by rw[upd_ne _ _ eb];exact e⟩
 {h with
  slot:=λq=>by
   by_cases e:q=s
   ·subst e;rw[upd_same,hB];exact hc
   ·rw[upd_ne _ _ e]
    refine(h.slot q).mono (λb o hs=>(hst b o (h.st b o hs)).2 hs) (λb o hs=>?_) (λk hk=>⟨hb.block k ⟨(h.range q k hk).2,λek=>?_⟩,λo=>hst k o (h.range q k hk).2⟩) (λ_ _=>rfl)
    ·exact BS (hb.block b ⟨h.st b o hs,λeb=>hng o (eb ▸ hs)⟩)
    ·subst ek;exact h.apart q s e k hk (by rw[hB];simp)
  boxes:=λq cs1 e=>by
   by_cases eq:q=s
   ·subst eq;exact h.boxes _ _ hs
   ·rw[upd_ne _ _ eq]at e;exact h.boxes q cs1 e
  crefs:=λq b e=>by
   by_cases eq:q=s
   ·subst eq;rw[upd_same,hrf]at e;cases e
   ·rw[upd_ne _ _ eq]at e;exact hbox b (h.crefs q b e)
  range:=λq k hk=>⟨(h.range q k hk).1,Bo (h.range q k hk).2 hb.size⟩
  hrange:=λk hk=>⟨(h.hrange k hk).1,Bo (h.hrange k hk).2 hb.size⟩
  st:=hst'
  gl:=h.gl.of (λb hg o=>(hst b o (h.st b o (hg o))).2 (hg o)) (λb o hg=>BS (hb.block b ⟨h.st b o (hg o),λeb=>hng o (eb ▸ hg o)⟩))}
theorem ju{f:FuncId}{cal x:Operand}{args:Array Operand}{ts:Array TypeId}{zs:List Operand}{s n n':Nat}{e:TypeId}{cs cs':List V}{r:V}(hcv:Co σ cal=.fn f)(hop:o.op=.call {callee:=.value cal,args:=args,argTypes:=ts})(he:args.toList=zs++[x])(hx:Co σ x=.same s)(hs:σ s=.uni e n cs)(hf:U7 cs=true)(hf':U7 cs'=true)(hfr:flt r=true)
  (hargs:zs.all (λx=>(Co σ x).isArg)=true) (hp:P3 P f (zs.map λx=>er (Co σ x)) [.own e n cs] [] [.own e n' cs'] r) (hd:∀d,o.dst=some d->d < nt∧d∉bx) (hk:K (QC (upd σ s (.uni e n' cs')) o.dst r)):RD P nt bx base St0 w0 o σ K:=by
 rintro a w Q ⟨St,B,h,hb,hst,hz⟩
 have hsl:=h.slot s
 rw[hs]at hsl
 obtain⟨g,bs',arr,e1,e2,h1,hB,h2,hl,hlen⟩:=hsl
 have hnil:bs'=[]:=(SC (w':=w) (St':=St) cs hf h1).1
 subst hnil
 have hgr:=h.range s g (by rw[hB];simp)
 have hxv:a.eval x=tm a s:=by
  obtain⟨b,q⟩:=Ld h x
  rw[hx]at q
  exact q.2
 have harr:arr.size=n * QS P e:=by rw[<-BN,h1.length,hlen]
 have hown:Ow P w (λb o'=>St b o'∨(b=g∧o' < n * QS P e)) (.own e n cs) (tm a s) [g]:=by
  refine⟨hl,arr.toList,[],?_,(SC cs hf h1).2,by rw[e1];rfl,λk hk o'=>?_,λh0=>?_⟩
  ·rw[e1]
   refine⟨by rw[BN,harr],.inr ⟨g,n,arr,rfl,CB _,e2,AT _,?_,harr,?_⟩⟩
   ·unfold maxLen;unfold lim at hl;omega
   ·rw[<-harr,<-BN,BT]
  ·rw[e1]at hk
   simp only[Value.ownBlock,Ap]at hk
   subst hk
   exact⟨λhh=>hh.elim (λhh=>absurd hh (h2 o')) (·.2),λhh=>.inr ⟨rfl,hh⟩⟩
  ·subst h0;exact A1 (by simpa using hlen)
 have hrd:=(TY h zs hargs).mono (w':=w) (St':=λb o'=>(St b o'∨(b=g∧o' < n * QS P e))∧b∉[g]) (λb o' hh=>⟨.inl hh,λhm=>h2 o' (by rw[AP]at hm;exact hm ▸ hh)⟩) (λ_ _ _=>rfl)
 have hcall:=hp.2 w (λb o'=>St b o'∨(b=g∧o' < n * QS P e)) [tm a s] [g] (zs.map a.eval) [] (λb o' hh=>hh.elim (h.st b o') (λhh=>by rw[hh.1];exact hgr.2)) (h.gl.of (λb hg o'=>.inl (hg o')) (λ_ _ _=>rfl))
  ⟨tm a s,[],[g],[],rfl,rfl,rfl,hown,rfl,rfl⟩ (by simp) (by simpa using hgr.2) hrd rfl
 have hr:=Qn (P:=P) (a:=a) (w:=w) hop (Ud h hcv) hp.1
 rw[he,B7,List.map_singleton,hxv]at hr
 unfold Oper.wp
 rw[hr,Ey]
 refine hcall.mono ?_
 rintro e' w1 ⟨v,bs,St1,rfl,k1,k2,k3,k5,k6,k7,k8⟩
 refine⟨_,hk,?_⟩
 obtain⟨u,us',b1,b2,p1,p2,p3,p4,p5⟩:=k5
 simp only[C2]at p1
 obtain⟨rfl,rfl⟩:=p1
 obtain⟨hl',xs,bs2,⟨hxl,ho⟩,hrow3,hb1,hst3,hnil3⟩:=p4
 rw[e1]at ho
 obtain rfl:n=n':=by
  rcases ho with⟨ho,_⟩|⟨g',cap,cur,ho,_⟩
  ·cases ho
  ·exact(Value.slice.inj ho).2.1
 obtain⟨cur,hc1,hc2,hc3⟩:∃cur:Array Value,w1.heap[g]? =some (.cells cur e (0,0))∧cur.size=n * QS P e∧cur.toList.take (n * QS P e)=xs:=by
  rcases ho with⟨ho,_⟩|⟨g',cap,cur,ho,_,hh,_,_,hsz,hx'⟩
  ·cases ho
  ·injection ho with ho1 ho2 ho3
   injection ho1 with ho1
   injection ho1 with ho1
   subst ho1 ho3
   exact⟨cur,hh,hsz,hx'⟩
 have hxc:cur.toList=xs:=by rw[<-hc3,<-hc2,<-BN,BT]
 have g1:=h.Aay (w':=w1) (St':=λb o'=>St1 b o'∧b≠g) (s:=s) (c':=.uni e n cs') (by rw[hs];rfl) rfl rfl hB h2 ⟨k1.os,k1.tape,k1.output,k1.size,λk hk=>k1.block k ⟨hk.1,by simpa using hk.2⟩⟩
  (λb o' hlt=>⟨λhh=>((k2 b o' hlt (by simpa using hh.2)).1 hh.1).elim id (λh=>absurd h.1 hh.2),λhh=>by
   have hne:b≠g:=λe=>h2 o' (e ▸ hh)
   exact⟨(k2 b o' hlt (by simpa using hne)).2 (.inl hh),hne⟩⟩) (λb o' hh=>k3 b o' hh.1)
  ⟨g,[],cur,e1,hc1,by rw[hxc];exact(SC cs' hf' hrow3).2,rfl,λo' hh=>hh.2 rfl,hl,by rw[<-hrow3.length,hxl]⟩
 have hbel:BelowK base.K w0 w1:=hb.trans ⟨k1.os,k1.tape,k1.output,k1.size,λk hk=>k1.block k ⟨hz k hk,λhm=>hgr.1 (by rw[AP]at hm;exact hm ▸ hk)⟩⟩
 have hst1:∀b o',base b->((St1 b o'∧b≠g)↔St0 b o'):=λb o' hlt=>by
  have hne:b≠g:=λe=>hgr.1 (e ▸ hlt)
  have:=k2 b o' (hz b hlt) (by simpa using hne)
  rw[<-hst b o' hlt]
  exact⟨λhh=>(this.1 hh.1).elim id (λh=>absurd h.1 hne),λhh=>⟨this.2 (.inl hh),hne⟩⟩
 have hr6:=(ey (w':=w1) (St':=λb o'=>St1 b o'∧b≠g) r hfr k6).2
 cases hdst:o.dst with
 |none=>exact⟨_,_,g1.less AG (by simp),hbel,hst1,PR hz k1.size⟩
 |some d=>
  obtain⟨hd1,hd2⟩:=hd d hdst
  exact⟨_,_,g1.put hd1 hd2 hr6.slot AG (by simp) hr6.Do.1 hr6.Oa,hbel,hst1,PR hz k1.size⟩
theorem jr{f:FuncId}{cal:Operand}{args:Array Operand}{ts:Array TypeId}{cs:List V}{d:Nat}(hcv:Co σ cal=.fn f)(hop:o.op=.call {callee:=.value cal,args:=args,argTypes:=ts})
  (hargs:args.toList.all (λx=>(Co σ x).isArg)=true) (hp:NewAt P f (args.toList.map λx=>erK (Co σ x)) cs) (ho:o.dst=some d) (hd:d < nt) (hx:d∈bx) (hd0:N9+d∉bx) (hold:CS (σ d)=none) (hk:K (upd σ d (.box cs))):RD P nt bx base St0 w0 o σ K:=by
 rintro a w Q ⟨St,B,h,hb,hst,hz⟩
 have hcall:=hp.2 w St (args.toList.map a.eval) h.st h.gl (Wt h _ hargs)
 have hr:=Qn (P:=P) (a:=a) (w:=w) hop (Ud h hcv) hp.1
 unfold Oper.wp
 rw[hr,Ey]
 refine hcall.mono ?_
 rintro e w1 ⟨g,T,St1,arr,rfl,h1,h2,h3,h4,h5,h6,h7,h8⟩
 refine⟨_,hk,?_⟩
 have g1:=h.grow (w':=w1) (St':=St1) h1 h2 h3
 have g2:=g1.fresh (bs:=[g]) (by simp) (λk hk=>by simp only[AP]at hk;subst hk;exact⟨λh'=>by have:=hz k h';omega,h8⟩) (λq k hk hm=>by simp only[AP]at hm;subst hm;have:=(h.range q k hk).2;omega) (by simp)
 have hst1:∀b o',base b->(St1 b o'↔St0 b o'):=λb o' hlt=>(h2 b o' (hz b hlt)).trans (hst b o' hlt)
 refine⟨St1,upd B d [g],?_,hb.below h1 hz,hst1,PR hz h1.size⟩
 rw[ho]
 exact g2.Xo hd hx hd0 hold (c:=.box cs) ⟨g,T,[],arr,rfl,h4,h5,rfl,h6⟩ (by simp) (by simp) rfl
theorem YG{p d s off:Nat}(hop:o.op=.assign (.tmp p)∨o.op=.move (.tmp p))(hs:KQ σ (.tmp p)=.cref s off)(hbx':(∃cs,CS (σ s)=some cs)∨DI (σ p)=some s)(ho:o.dst=some d)(hd:d < nt)(hx:d∉bx)(hk:K (upd σ d (.cref s off))):RD P nt bx base St0 w0 o σ K:=by
 rintro a w Q ⟨St,B,h,hb,hst,hz⟩
 obtain⟨cs,hbx⟩:∃cs,CS (σ s)=some cs:=hbx'.elim id (h.crefs p s)
 obtain⟨g,T,bs',arr,q1,q2,q3,q4,q5,q6⟩:=O4 h hs hbx
 have hr:(execOp a.eval o).run P w=.ok (.value (a.eval (.tmp p))) w:=by rcases hop with e|e<;>simp[execOp,e]
 refine Kr hr ⟨_,hk,St,upd B d [],?_,hb,hst,hz⟩
 rw[ho]
 exact h.put hd hx (c:=.cref s off) ⟨rfl,g,q2,q1⟩ AG (by simp) rfl (λb e=>by simp only[DI,Ap]at e;subst e;exact⟨cs,hbx⟩)
end
def P2(P:Program)(w:World)(St:Nat->Nat->Prop):List (List V)->List Value->zN->Prop
 |[],us,bs=>us=[]∧bs=[]
 |cs::css,us,bs=>∃u us' b1 b2,us=u::us'∧bs=b1++b2∧Cf P w St (λ_=>undef) (.box cs) u b1∧P2 P w St css us' b2
def sN(P:Program)(w:World)(St:Nat->Nat->Prop)(us:List Value)(bs0:zN)(css':List (List V))(r:V)(e:Ending)(w':World):Prop:=
 ∃v bs St',e=.returned v∧BelowK (λb=>b < w.heap.size∧b∉bs0) w w'∧(∀b o,b < w.heap.size->b∉bs0->(St' b o↔St b o))∧(∀b o,St' b o->b < w'.heap.size)∧
  P2 P w' St' css' us bs∧Ow P w' St' r v []∧bs.Nodup∧∀k∈bs,(k∈bs0∨w.heap.size<=k)∧k < w'.heap.size
def TT(P:Program)(f:FuncId)(us:List Value)(css:List (List V))(args:List V)(css':List (List V))(r:V):Prop:=
 NP P f∧∀w St (bs0:zN) (vs:List Value),(∀b o,St b o->b < w.heap.size)->Glb w St->P2 P w St css us bs0->bs0.Nodup->(∀k∈bs0,k < w.heap.size)->NC w St args vs->
  Calls P f (vs++us).toArray w (sN P w St us bs0 css' r)
section
variable {P:Program}{nt:Nat}{base:Bs}{bx:zN}{St St' St0:Nat->Nat->Prop}{B B':Nat->zN}{hand:zN}{σ σ':PS}{a:Act}{w w' w0:World}{o:Oper}{K:PS->Prop}
theorem P2.length:∀{css:List (List V)}{us:List Value}{bs:zN},P2 P w St css us bs->us.length=css.length
 |[],_,_,h=>by rw[h.1];rfl
 |cs::css,_,_,⟨u,us',b1,b2,e1,e2,h1,h2⟩=>by rw[e1,AQ,AQ,h2.length]
theorem fj{t t':Nat->Value}{cs:List V}{v:Value}{b:zN}(h:Cf P w St t (.box cs) v b):Cf P w St t' (.box cs) v b:=h
theorem UX:∀{ss:zN}{css:List (List V)}{us:List Value}{bs:zN},P2 P w St css us bs->bs.Nodup->ss.Nodup->ss.length=css.length->
  ∃β:Nat->zN,(∀(i s:Nat) (cs:List V) (u:Value),ss[i]? =some s->css[i]? =some cs->us[i]? =some u->Cf P w St (λ_=>undef) (.box cs) u (β s))∧(∀s∈ss,∀k∈β s,k∈bs)∧(∀s,(β s).Nodup)∧∀s∈ss,∀t∈ss,s≠t->∀k∈β s,k∉β t
 |[],[],_,_,_,_,_,_=>⟨λ_=>[],by simp,by simp,λ_=>AG,by simp⟩
 |[],_::_,_,_,_,_,_,e=>by cases e
 |_::_,[],_,_,_,_,_,e=>by cases e
 |s::ss,cs::css,_,_,⟨u,us',b1,b2,e1,e2,h1,h2⟩,hn,hs,hl=>by
  subst e1 e2
  obtain⟨n1,n2,n3⟩:=Aq.1 hn
  obtain⟨m1,m2⟩:=Bw.1 hs
  obtain⟨β,k1,k2,k3,k4⟩:=UX (ss:=ss) h2 n2 m2 (by simpa using hl)
  have off:∀q∈ss,q≠s:=λq hq e=>m1 (e ▸ hq)
  refine⟨λq=>if q=s then b1 else β q,?_,?_,?_,?_⟩
  ·intro i q c v hq hc hv
   cases i with
   |zero=>
    simp only[B6,Ap]at hq hc hv
    subst hq hc hv
    simp only[ER]
    exact h1
   |succ i=>
    simp only[Ct]at hq hc hv
    simp only[At (off q (BU hq))]
    exact k1 i q c v hq hc hv
  ·intro q hq k hk
   dsimp only at hk
   split at hk
   ·exact Az _ hk
   ·rename_i hne
    exact Ar _ (k2 q ((AB.1 hq).resolve_left hne) k hk)
  ·intro q
   dsimp only
   split
   ·exact n1
   ·exact k3 q
  ·intro q hq t ht hqt k hk hk'
   dsimp only at hk hk'
   split at hk
   ·rename_i e1
    split at hk'
    ·rename_i e2;exact hqt (e1.trans e2.symm)
    ·rename_i e2
     exact n3 k hk k (k2 t ((AB.1 ht).resolve_left e2) k hk') rfl
   ·rename_i e1
    split at hk'
    ·exact n3 k hk' k (k2 q ((AB.1 hq).resolve_left e1) k hk) rfl
    ·rename_i e2
     exact k4 q ((AB.1 hq).resolve_left e1) t ((AB.1 ht).resolve_left e2) hqt k hk hk'
theorem HSim.vars(h:HSim P nt bx base St B [] σ a w){ss:zN}{bs0:zN}(hB0:∀k∈bs0,∃s∈ss,k∈B s)(hB1:∀s∈ss,∀k∈B s,k∈bs0)(hd:∀k∈bs0,∃o,¬St k o)(hb:BelowK (λb=>b < w.heap.size∧b∉bs0) w w')
  (hst:∀b o,b < w.heap.size->b∉bs0->(St' b o↔St b o)) (hst':∀b o,St' b o->b < w'.heap.size) (hz:∀b,base b->b < w.heap.size)
  (hoff:∀q,q∉ss->σ' q=σ q∧B' q=B q∧J6 (σ q)=true)
  (hin:∀s∈ss,Cf P w' St' (tm a) (σ' s) (tm a s) (B' s)∧(∃cs,CS (σ s)=some cs)∧(∃cs,CS (σ' s)=some cs)∧DI (σ' s)=none∧(B' s).Nodup∧∀k∈B' s,(k∈bs0∨w.heap.size<=k)∧k < w'.heap.size)
  (hap:∀s∈ss,∀t∈ss,s≠t->∀k∈B' s,k∉B' t):HSim P nt bx base St' B' [] σ' a w':=
 have hf:FrB bs0 w w':=⟨hb.os,hb.tape,hb.output,hb.size,λk hk hn=>hb.block k ⟨hk,hn⟩⟩
 have hno:∀q,q∉ss->∀k∈B q,k∉bs0:=λq hq k hk hm=>by
  obtain⟨s,hs,hks⟩:=hB0 k hm
  exact h.apart q s (λe=>hq (e ▸ hs)) k hk hks
 have hbase:∀k,k∈bs0->¬base k:=λk hk=>by
  obtain⟨s,hs,hks⟩:=hB0 k hk
  exact(h.range s k hks).1
 have hmix:∀q s,q∉ss->s∈ss->∀k∈B q,k∉B' s:=λq s hq hs k hk hk'=>by
  rcases((hin s hs).2.2.2.2.2 k hk').1 with h1|h1
  ·exact hno q hq k hk h1
  ·have:=(h.range q k hk).2;omega
 {h with
  slot:=λq=>by
   by_cases hq:q∈ss
   ·exact(hin q hq).1
   ·obtain⟨e1,e2,e3⟩:=hoff q hq
    rw[e1,e2]
    exact O0 hf hd h.st (λk o hk hs=>(hst k o (h.st k o hs) hk).2 hs) e3 (h.slot q) (λk hk=>⟨hb.block k ⟨(h.range q k hk).2,hno q hq k hk⟩,λo=>hst k o (h.range q k hk).2 (hno q hq k hk)⟩)
  boxes:=λq cs e=>by
   by_cases hq:q∈ss
   ·obtain⟨ds,hds⟩:=(hin q hq).2.1
    exact h.boxes q ds hds
   ·rw[(hoff q hq).1]at e;exact h.boxes q cs e
  crefs:=λq b e=>by
   have hr:DI (σ q)=some b:=by
    by_cases hq:q∈ss
    ·rw[(hin q hq).2.2.2.1]at e;cases e
    ·rw[(hoff q hq).1]at e;exact e
   obtain⟨cs,hcs⟩:=h.crefs q b hr
   by_cases hb':b∈ss
   ·exact(hin b hb').2.2.1
   ·exact⟨cs,by rw[(hoff b hb').1];exact hcs⟩
  nodup:=λq=>by
   by_cases hq:q∈ss
   ·exact(hin q hq).2.2.2.2.1
   ·rw[(hoff q hq).2.1];exact h.nodup q
  apart:=λq r hqr k hk hk'=>by
   by_cases hq:q∈ss
   ·by_cases hr:r∈ss
    ·exact hap q hq r hr hqr k hk hk'
    ·rw[(hoff r hr).2.1]at hk';exact hmix r q hr hq k hk' hk
   ·rw[(hoff q hq).2.1]at hk
    by_cases hr:r∈ss
    ·exact hmix q r hq hr k hk hk'
    ·rw[(hoff r hr).2.1]at hk';exact h.apart q r hqr k hk hk'
  hnodup:=AG
  hapart:=λ_ _ _=>by simp
  range:=λq k hk=>by
   by_cases hq:q∈ss
   ·obtain⟨h1,h2⟩:=(hin q hq).2.2.2.2.2 k hk
    refine⟨?_,h2⟩
    rcases h1 with h1|h1
    ·exact hbase k h1
    ·exactλhbk=>by have:=hz k hbk;omega
   ·rw[(hoff q hq).2.1]at hk;exact⟨(h.range q k hk).1,Bo (h.range q k hk).2 hb.size⟩
  hrange:=by simp
  st:=hst'
  gl:=h.gl.of (λb hg o=>(hst b o (h.st b o (hg o)) λhm=>(hd b hm).elim λo' ho=>ho (hg o')).2 (hg o)) (λb o hg=>BS (hb.block b ⟨h.st b o (hg o),λhm=>(hd b hm).elim λo' ho=>ho (hg o')⟩))}
end
section
variable {P:Program}{w:World}{St:Nat->Nat->Prop}
mutual
theorem Ow.VS:∀(c:V) {v:Value}{b:zN},c.Ds=true->Ow P w St c v b->∀g∈b,∃o,¬St g o
 |.tok _,_,_,_,h,g,hg=>by rw[h.1]at hg;cases hg
 |.int _ _,_,_,_,h,g,hg=>by rw[h.1]at hg;cases hg
 |.bool _,_,_,_,h,g,hg=>by rw[h.1]at hg;cases hg
 |.str _,_,_,_,h,g,hg=>by rw[h.1]at hg;cases hg
 |.dat _ _,_,_,_,h,g,hg=>by rw[h.1]at hg;cases hg
 |.arg _ _,_,_,_,h,g,hg=>by rw[h.1]at hg;cases hg
 |.pin _ _ _,_,_,_,h,g,hg=>by rw[h.1]at hg;cases hg
 |.fn _,_,_,_,h,g,hg=>by rw[h.1]at hg;cases hg
 |.own e n cs,v,b,_,⟨hn,xs,bs',h1,h2,h3,h4,h5⟩,g,hg=>by
  rw[h3]at hg
  rcases Al.1 hg with hg|hg
  ·exact⟨n * QS P e,λhs=>absurd ((h4 g (by simpa using hg) _).1 hs) (H1 _)⟩
  ·exact A7.VS cs h2 g hg
 |.agg _,_,_,hc,_,_,_=>by cases hc
 |.tup _,_,_,hc,_,_,_=>by cases hc
 |.box _,_,_,hc,_,_,_=>by cases hc
 |.uni _ _ _,_,_,hc,_,_,_=>by cases hc
 |.same _,_,_,hc,_,_,_=>by cases hc
 |.val _ _,_,_,hc,_,_,_=>by cases hc
 |.cref _ _,_,_,hc,_,_,_=>by cases hc
 |.adr _ _,_,_,hc,_,_,_=>by cases hc
 |.gh _ _,_,_,hc,_,_,_=>by cases hc
 |.undef,_,_,hc,_,_,_=>by cases hc
theorem A7.VS:∀(cs:List V) {us:List Value}{b:zN},A7 P w St cs us b->∀g∈b,∃o,¬St g o
 |[],_,_,h,g,hg=>by rw[h.2]at hg;cases hg
 |c::cs,_,_,⟨u,us',b1,b2,e1,e2,hc,h1,h2⟩,g,hg=>by
  rw[e2]at hg
  rcases Al.1 hg with hg|hg
  ·exact Ow.VS c hc h1 g hg
  ·exact A7.VS cs h2 g hg
end
theorem P2.VS:∀{css:List (List V)}{us:List Value}{bs:zN},P2 P w St css us bs->∀g∈bs,∃o,¬St g o
 |[],_,_,h,g,hg=>by rw[h.2]at hg;cases hg
 |cs::css,_,_,⟨u,us',b1,b2,e1,e2,⟨g0,T,bs',arr,q1,q2,q3,q4,q5⟩,h2⟩,g,hg=>by
  rw[e2,q4]at hg
  rcases Al.1 hg with hg|hg
  ·rcases AB.1 hg with rfl|hg
   ·exact⟨0,q5 0⟩
   ·exact A7.VS cs q3 g hg
  ·exact h2.VS g hg
end
def XR(σ:PS):zN->List (List V)->PS
 |s::ss,cs::css=>upd (XR σ ss css) s (.box cs)
 |_,_=>σ
theorem cZ{σ:PS}{q:Nat}:∀{ss:zN}{css:List (List V)},q∉ss->XR σ ss css q=σ q
 |[],_,_=>rfl
 |_::_,[],_=>rfl
 |s::ss,cs::css,h=>by
  rw[XR,upd_ne _ _ (show q≠s from λe=>h (by rw[e];exact Bg)),cZ (λhm=>h (AE _ hm))]
theorem iJ{σ:PS}:∀{ss:zN}{css:List (List V)}{i s:Nat}{cs:List V},ss.Nodup->ss[i]? =some s->css[i]? =some cs->XR σ ss css s=.box cs
 |[],_,_,_,_,_,h,_=>by simp at h
 |_::_,[],_,_,_,_,_,h=>by simp at h
 |s0::ss,cs0::css,i,s,cs,hn,h1,h2=>by
  obtain⟨m1,m2⟩:=Bw.1 hn
  cases i with
  |zero=>
   simp only[B6,Ap]at h1 h2
   subst h1 h2
   rw[XR,upd_same]
  |succ i=>
   simp only[Ct]at h1 h2
   rw[XR,upd_ne _ _ (show s≠s0 from λe=>m1 (by rw[<-e];exact BU h1))]
   exact iJ m2 h1 h2
def gV(s:Nat):Nat:=910000+s
section
variable {P:Program}{nt:Nat}{base:Bs}{bx:zN}{St St0:Nat->Nat->Prop}{B:Nat->zN}{hand:zN}{σ:PS}{a:Act}{w w0:World}{o:Oper}{K:PS->Prop}
theorem fi(h:HSim P nt bx base St B hand σ a w):∀{ss:zN}{css:List (List V)}{us:List Value},ss.map σ=css.map V.box->(ss.map λs=>σ (gV s))=(ss.zip us).map (λp=>V.val p.1 p.2)->ss.length=us.length->P2 P w St css us (ss.flatMap B)
 |[],[],[],_,_,_=>⟨rfl,rfl⟩
 |[],_::_,_,e,_,_=>by cases e
 |[],[],_::_,_,_,e=>by cases e
 |_::_,[],_,e,_,_=>by cases e
 |_::_,_::_,[],_,_,e=>by cases e
 |s::ss,cs::css,u::us,e1,e2,e3=>by
  simp only[AC,C2,K9]at e1 e2
  have hs:=h.slot s
  rw[e1.1]at hs
  have hv:=h.slot (gV s)
  rw[e2.1]at hv
  have hv':u=tm a s:=hv.2
  rw[<-hv']at hs
  exact⟨u,us,B s,ss.flatMap B,rfl,by rw[AH],fj hs,fi h e1.2 e2.2 (by simpa using e3)⟩
theorem ja{f:FuncId}{cal:Operand}{args:Array Operand}{ts:Array TypeId}{us:List Value}(hop:o.op=.call {callee:=.value cal,args:=args,argTypes:=ts})(e2:a.eval cal=.func (.func f) #[] us.toArray)(hb:NP P f):(execOp a.eval o).run P w=.ok (.enter f (args.toList.map a.eval++us).toArray) w:=by
 obtain⟨fn,hf,hbody,hname⟩:=hb
 have e1:(args.toList.map a.eval++us).toArray=args.map a.eval++us.toArray:=by
  rw[<-List.append_toArray,<-Hp,DE]
 rw[e1]
 simp only[execOp,hop,resolve,e2,Deferred.ofValue,A6,BA,AM,invoke,callFunc,run_program,K2,hf,hbody,hname]
 simp
end
section
variable {P:Program}{nt:Nat}{base:Bs}{bx:zN}{St0:Nat->Nat->Prop}{σ:PS}{w0:World}{o:Oper}{K:PS->Prop}
theorem WT{B:Nat->zN}(h1:∀s,(B s).Nodup)(h2:∀s t,s≠t->∀g∈B s,g∉B t):∀{ss:zN},ss.Nodup->(ss.flatMap B).Nodup
 |[],_=>AG
 |s::ss,h=>by
  obtain⟨m1,m2⟩:=Bw.1 h
  rw[AH]
  refine Aq.2 ⟨h1 s,WT h1 h2 m2,λa ha b hb e=>?_⟩
  obtain⟨t,ht,hbt⟩:=Cj.1 hb
  exact h2 s t (λe'=>m1 (e' ▸ ht)) a ha (e ▸ hbt)
def Zb:V->V
 |.dat 0 []=>.arg 0 []
 |c=>c
theorem Y6.Zb{w:World}{St:Nat->Nat->Prop}{c:V}{v:Value}(h:Y6 w St c v):Y6 w St (Zb c) v:=by
 unfold Proofs.YthghcmmlmfgkbaaGreatDoor.Zb
 split
 ·obtain⟨hn,A,c,e,hc,_,h0⟩:=h
  exact⟨hn,A,c,e,hc,λhp=>absurd hp (by omega),h0⟩
 ·exact h
theorem aI{bx:zN}{base:Bs}{nt:Nat}{St:Nat->Nat->Prop}{B:Nat->zN}{hand:zN}{a:Act}{w:World}(h:HSim P nt bx base St B hand σ a w):∀(xs:List Operand),xs.all (λx=>(Co σ x).isArg)=true->NC w St (xs.map λx=>Zb (Co σ x)) (xs.map a.eval)
 |[],_=>rfl
 |x::xs,hv=>by
  simp only[Bz,Aa]at hv
  obtain⟨b,hx⟩:=Ld h x
  exact⟨a.eval x,xs.map a.eval,rfl,((hx.ow (JU hv.1)).rda hv.1).Zb,aI h xs hv.2⟩
def sP(P:Program)(σ:PS)(f:FuncId)(us:List Value)(css:List (List V))(args:List Operand)(css':List (List V))(r:V):Prop:=TT P f us css (args.map λx=>er (Co σ x)) css' r∨TT P f us css (args.map λx=>Zb (Co σ x)) css' r
theorem jv{f:FuncId}{cal:Operand}{args:Array Operand}{ts:Array TypeId}{us:List Value}{ss:zN}{css css':List (List V)}{r:V}{D:zN}(hcv:Co σ cal=.tok (.func (.func f) #[] us.toArray))(hop:o.op=.call {callee:=.value cal,args:=args,argTypes:=ts})
  (hσ:ss.map σ=css.map V.box) (hv:(ss.map λs=>σ (gV s))=(ss.zip us).map (λp=>V.val p.1 p.2)) (hl:ss.length=us.length) (hnd:ss.Nodup) (hargs:args.toList.all (λx=>(Co σ x).isArg)=true) (hp:sP P σ f us css args.toList css' r)
  (hD:∀s∈ss,D.contains s=false) (hsafe:∀q,q∉ss->D.contains q=true∨J6 (σ q)=true) (hd:∀d,o.dst=some d->d < nt∧d∉bx) (hk:K (QC (XR (kill D σ) ss css') o.dst r)):RD P nt bx base St0 w0 o σ K:=by
 rintro a w Q ⟨St,B,h,hb,hst,hz⟩
 have hrow:=fi h hσ hv hl
 have hndB:=WT h.nodup h.apart hnd
 have hmem:∀k,k∈ss.flatMap B↔∃s∈ss,k∈B s:=λk=>Cj
 have hrg:∀k∈ss.flatMap B,k < w.heap.size:=λk hk=>by
  obtain⟨s,_,hks⟩:=(hmem k).1 hk
  exact(h.range s k hks).2
 have hnb:∀k∈ss.flatMap B,¬base k:=λk hk=>by
  obtain⟨s,_,hks⟩:=(hmem k).1 hk
  exact(h.range s k hks).1
 obtain⟨hbody,hcall⟩:NP P f∧Calls P f (args.toList.map a.eval++us).toArray w (sN P w St us (ss.flatMap B) css' r):=hp.elim (λh1=>⟨h1.1,h1.2 w St _ (args.toList.map a.eval) h.st h.gl hrow hndB hrg (TY h _ hargs)⟩) (λh1=>⟨h1.1,h1.2 w St _ (args.toList.map a.eval) h.st h.gl hrow hndB hrg (aI h _ hargs)⟩)
 have e2:a.eval cal=.func (.func f) #[] us.toArray:=by
  obtain⟨b,hx⟩:=Ld h cal
  rw[hcv]at hx
  exact hx.2.1
 have hr:=ja (P:=P) (a:=a) (w:=w) hop e2 hbody
 unfold Oper.wp
 rw[hr,Ey]
 refine hcall.mono ?_
 rintro e w1 ⟨v,bs,St1,rfl,h1,h2,h3,h5,h6,h7,h8⟩
 refine⟨_,hk,?_⟩
 obtain⟨B2,k3,_,hB2,hBs⟩:=TC D h
 have hsl:css.length=ss.length:=by have:=congrArg List.length hσ;simpa using this.symm
 have hul:=h5.length
 have hat:∀s∈ss,∃i cs cs' u,ss[i]? =some s∧css'[i]? =some cs'∧us[i]? =some u∧σ s=.box cs∧tm a s=u:=λs hs=>by
  obtain⟨i,hi,e1⟩:=BO hs
  have hi2:i < us.length:=by omega
  have hc:σ s=.box (css[i]'(by omega)):=by
   have:=congrArg (λl=>l[i]?) hσ
   simp only[AW,Ac hi,Ac (show i < css.length by omega),B8,Ap]at this
   rw[<-e1];exact this
  have hf:σ (gV s)=.val s us[i]:=by
   have:=congrArg (λl=>l[i]?) hv
   simp only[AW,Ac hi,B8]at this
   rw[Ac (by simp;omega)]at this
   simp only[MF,B8,Ap]at this
   rw[e1]at this
   exact this
  have hg:=h.slot (gV s)
  rw[hf]at hg
  exact⟨i,_,css'[i]'(by omega),us[i],by rw[Ac hi,e1],Ac _,Ac hi2,hc,hg.2.symm⟩
 have hkeep:∀s∈ss,kill D σ s=σ s:=λs hs=>by
  obtain⟨i,cs,cs',u,_,_,_,q,_⟩:=hat s hs
  exact Yv (by rw[q];rfl) (hD s hs)
 have hB3:∀s∈ss,B2 s=B s:=λs hs=>hBs s (hD s hs) (hkeep s hs)
 obtain⟨β,m1,m2,m3,m4⟩:=UX (ss:=ss) h5 h7 hnd (by omega)
 have g1:=k3.vars (σ':=XR (kill D σ) ss css') (B':=λq=>if q∈ss then β q else B2 q) (ss:=ss) (bs0:=ss.flatMap B) (w':=w1) (St':=St1)
  (λk hk=>by obtain⟨s,hs,hks⟩:=(hmem k).1 hk;exact⟨s,hs,by rw[hB3 s hs];exact hks⟩)
  (λs hs k hk=>(hmem k).2 ⟨s,hs,by rw[<-hB3 s hs];exact hk⟩) hrow.VS h1 h2 h3 hz
  (λq hq=>⟨cZ hq,At hq,by
   rcases PQ D σ q with e|e
   ·rw[e];rfl
   ·cases hc:D.contains q with
    |true=>rw[QY hc];rfl
    |false=>rw[e];exact(hsafe q hq).elim (λh=>by rw[hc]at h;cases h) id⟩)
  (λs hs=>by
   obtain⟨i,cs,cs',u,q1,q2,q3,q4,q5⟩:=hat s hs
   simp only[Av hs]
   rw[iJ hnd q1 q2,q5,hkeep s hs,q4]
   exact⟨fj (m1 i s cs' u q1 q2 q3),⟨cs,rfl⟩,⟨cs',rfl⟩,rfl,m3 s,λk hk=>h8 k (m2 s hs k hk)⟩)
  (λs hs t ht hne k hk=>by
   simp only[Av hs]at hk
   simp only[Av ht]
   exact m4 s hs t ht hne k hk)
 have hbel:BelowK base.K w0 w1:=hb.trans ⟨h1.os,h1.tape,h1.output,h1.size,λk hk=>h1.block k ⟨hz k hk,λhm=>hnb k hm hk⟩⟩
 have hst1:∀b o',base b->(St1 b o'↔St0 b o'):=λb o' hlt=>(h2 b o' (hz b hlt) (λhm=>hnb b hm hlt)).trans (hst b o' hlt)
 cases hdst:o.dst with
 |none=>exact⟨St1,_,g1,hbel,hst1,PR hz h1.size⟩
 |some d=>
  obtain⟨hd1,hd2⟩:=hd d hdst
  exact⟨St1,_,g1.put hd1 hd2 h6.slot AG (by simp) h6.Do.1 h6.Oa,hbel,hst1,PR hz h1.size⟩
end
def known:V->Bool
 |.undef=>false
 |.gh _ _=>false
 |.same _=>false
 |.val _ _=>false
 |.tok _=>false
 |_=>true
def Wd(b:Bool):V->Bool
 |.bool c=>c==b
 |_=>false
def gD(ops:Array Oper)(j:Nat):Option Nat:=(ops[j]?).bind (·.dst)
structure LO where
 dst:Option Nat
 op:Op
 ty:TypeId
 g:Option (Option Nat×Bool)
def CG(ops:Array Oper)(o:Oper):LO:=⟨o.dst,o.op,o.type,o.guard.map λp=>(gD ops p.1,p.2)⟩
def Jv(tb:Tb)(o:LO)(σ:PS)(K:PS->Prop):Prop:=
 match o.dst with
 |none=>False
 |some d=>match o.g with
  |none=>pc tb σ o.op∧K (upd σ d (pv tb σ o.op))
  |some (none,_)=>False
  |some (some q,b)=>known (σ q)=true∧(Wd b (σ q)=true->pc tb σ o.op∧K (upd σ d (pv tb σ o.op)))∧(Wd b (σ q)=false->K (upd σ d (.tup [])))
structure Tag (p:Prop) where
 n:Nat
def Y5(p:Prop)(_:Tag p):Prop:=p
def O5(P:Program)(o:LO)(f:FuncId)(args:List Operand)(σ:PS)(K:PS->Prop):Prop:=
 match o.g with
 |none=>args.all (λx=>(Co σ x).isArg)=true∧∃r,aD P σ f args r∧Y5 (K (QC σ o.dst r)) ⟨0⟩
 |some (q,b)=>match q,o.dst with
  |some q,some d=>known (σ q)=true∧(Wd b (σ q)=true->args.all (λx=>(Co σ x).isArg)=true∧∃r,aD P σ f args r∧Y5 (K (upd σ d r)) ⟨0⟩)∧(Wd b (σ q)=false->K (upd σ d (.tup [])))
  |_,_=>False
def OM(o:LO)(d:Nat)(σ:PS)(K:PS->Prop)(X:Prop):Prop:=
 match o.g with
 |none=>X
 |some (none,_)=>False
 |some (some q,b)=>known (σ q)=true∧(Wd b (σ q)=true->X)∧(Wd b (σ q)=false->K (upd σ d (.tup [])))
def Do(c:V):Bool:=match CS c with
 |none=>true
 |some _=>false
def RM(P:Program)(o:LO)(f:FuncId)(x:Operand)(xs:List Operand)(σ:PS)(K:PS->Prop):Prop:=
 ∃s cs cs' r,KQ σ x=.cref s 0∧σ s=.box cs∧cs.all HV=true∧xs.all (λx=>(Co σ x).isArg)=true∧O1 P f cs (xs.map λx=>er (Co σ x)) cs' r∧K (QC (upd σ s (.box cs')) o.dst r)
def T5(P:Program)(o:LO)(f:FuncId)(args:List Operand)(σ:PS)(K:PS->Prop):Prop:=
 match args with
 |[]=>False
 |x::xs=>match o.dst with
  |none=>o.g=none∧RM P o f x xs σ K
  |some d=>OM o d σ K (RM P o f x xs σ K)
def wH(P:Program)(d:Option Nat)(f:FuncId)(args:List Operand)(σ:PS)(K:PS->Prop):Prop:=
 ∃s xs cs cs',∃D:zN,args=.tmp s::xs∧σ s=.box cs∧cs.all HV=false∧E1 cs=true∧xs.all (λx=>(Co σ x).isArg&&eh D x)=true∧wa P f cs (xs.map λx=>er (Co σ x)) cs'∧D.contains s=false∧(∀q,q≠s->D.contains q=true∨J6 (σ q)=true)∧K (QC (upd (kill D σ) s (.box cs')) d (.tup []))
def wE(P:Program)(d:Option Nat)(f:FuncId)(args:List Operand)(σ:PS)(K:PS->Prop):Prop:=
 ∃zs x xs ys us os os' r,∃D:zN,args=zs++(x::(xs++ys))∧(x::xs).map (Co σ)=us.map V.tok∧σ gS=.gh us os∧E1 os=true∧(zs++ys).all (λx=>(Co σ x).isArg&&eh D x)=true∧P3 P f (zs.map λx=>er (Co σ x)) os (ys.map λx=>er (Co σ x)) os' r∧D.contains gS=false∧(∀q,q≠gS->D.contains q=true∨J6 (σ q)=true)∧K (QC (upd (kill D σ) gS (.gh us os')) d r)
def wG(P:Program)(d:Option Nat)(f:FuncId)(args:List Operand)(σ:PS)(K:PS->Prop):Prop:=
 ∃zs x s n n' e cs cs' r,args=zs++[x]∧Co σ x=.same s∧σ s=.uni e n cs∧U7 cs=true∧U7 cs'=true∧flt r=true∧zs.all (λx=>(Co σ x).isArg)=true∧P3 P f (zs.map λx=>er (Co σ x)) [.own e n cs] [] [.own e n' cs'] r∧K (QC (upd σ s (.uni e n' cs')) d r)
def T6(P:Program)(d:Option Nat)(f:FuncId)(args:List Operand)(σ:PS)(K:PS->Prop):Prop:=wH P d f args σ K∨wE P d f args σ K∨wG P d f args σ K
def UY(P:Program)(o:LO)(f:FuncId)(args:List Operand)(σ:PS)(K:PS->Prop):Prop:=
 match o.dst with
 |none=>o.g=none∧T6 P none f args σ K
 |some d=>OM o d σ K (T6 P (some d) f args σ K)
def wF(P:Program)(o:LO)(f:FuncId)(args:List Operand)(d:Nat)(σ:PS)(K:PS->Prop):Prop:=
 ∃cs,o.g=none∧Do (σ d)=true∧args.all (λx=>(Co σ x).isArg)=true∧NewAt P f (args.map λx=>erK (Co σ x)) cs∧K (upd σ d (.box cs))
def JZ(P:Program)(cns:zN)(o:LO)(f:FuncId)(args:List Operand)(σ:PS)(K:PS->Prop):Prop:=
 if o.dst.toList.any cns.contains=true then ∃d,o.dst=some d∧wF P o f args d σ K else O5 P o f args σ K∨T5 P o f args σ K∨UY P o f args σ K
def QQ(P:Program)(d:Option Nat)(u:Value)(args:List Operand)(σ:PS)(K:PS->Prop):Prop:=
 ∃f us ss css css' r,∃D:zN,u=.func (.func f) #[] us.toArray∧ss.map σ=css.map V.box∧(ss.map λs=>σ (gV s))=(ss.zip us).map (λp=>V.val p.1 p.2)∧ss.length=us.length∧ss.Nodup∧args.all (λx=>(Co σ x).isArg)=true∧sP P σ f us css args css' r∧(∀s∈ss,D.contains s=false)∧(∀q,q∉ss->D.contains q=true∨J6 (σ q)=true)∧K (QC (XR (kill D σ) ss css') d r)
def UZ(P:Program)(cns:zN)(o:LO)(u:Value)(args:List Operand)(σ:PS)(K:PS->Prop):Prop:=
 match o.dst with
 |none=>o.g=none∧QQ P none u args σ K
 |some d=>cns.contains d=false∧OM o d σ K (QQ P (some d) u args σ K)
def OL(tb:Tb)(o:LO)(x:Operand)(d:Nat)(σ:PS)(K:PS->Prop):Prop:=
 match x with
 |.const (.slice none 0 0)=>match tb o.ty with
  |some (.sl e _ _ _)=>K (upd σ d (.own e 0 []))
  |_=>False
 |.const (.pointer none)=>K (upd σ d .undef)
 |.tmp p=>match σ p with
  |.uni e n cs=>K (upd (upd (kill [p] σ) p (.dat n cs)) d (.own e n cs))
  |.box _=>K (upd σ d (.cref p 0))
  |.cref b o=>K (upd σ d (.cref b o))
  |c=>c.isVal=true∧K (upd (CO σ (.tmp p)) d c)
 |x=>(Co σ x).isVal=true∧K (upd (CO σ x) d (Co σ x))
def Wv(x:Operand)(d:Nat)(σ:PS)(K:PS->Prop):Prop:=
 match x with
 |.tmp p=>match σ p with
  |.uni e n cs=>Do (kill [p] σ d)=true∧K (upd (kill [p] σ) d (.uni e n cs))
  |_=>False
 |_=>False
section
variable {P:Program}{nt:Nat}{base:Bs}{bx:zN}{St St0:Nat->Nat->Prop}{B:Nat->zN}{hand:zN}{σ:PS}{a:Act}{w w0:World}
theorem Ki(h:HSim P nt bx base St B [] σ a w){s q:Nat}(hsq:s≠q)(hq:CS (σ q)=none){c cq:V}{b1 b2:zN}(hc:Cf P w St (tm a) c (tm a s) b1)(hcq:Cf P w St (tm a) cq (tm a q) b2)(hn:(b1++b2).Nodup)(hsub:∀g∈b1++b2,g∈B s∨g∈B q)
  (hb:(CS c).isSome=(CS (σ s)).isSome) (hrf:DI c=none) (hbq:CS cq=none) (hrq:DI cq=none):HSim P nt bx base St (upd (upd B s b1) q b2) [] (upd (upd σ s c) q cq) a w:=by
 have hsome:∀cs,CS c=some cs->∃ds,CS (σ s)=some ds:=λcs e=>by
  rw[e]at hb
  cases hx:CS (σ s)with
  |none=>rw[hx]at hb;cases hb
  |some ds=>exact⟨ds,rfl⟩
 have hsome':∀cs,CS (σ s)=some cs->∃ds,CS c=some ds:=λcs e=>by
  rw[e]at hb
  cases hx:CS c with
  |none=>rw[hx]at hb;cases hb
  |some ds=>exact⟨ds,rfl⟩
 obtain⟨n1,n2,n3⟩:=Aq.1 hn
 have hB:∀r,r≠s->r≠q->upd (upd B s b1) q b2 r=B r:=λr h1 h2=>by rw[upd_ne _ _ h2,upd_ne _ _ h1]
 have hBs:upd (upd B s b1) q b2 s=b1:=by rw[upd_ne _ _ hsq,upd_same]
 have hBq:upd (upd B s b1) q b2 q=b2:=upd_same _ _ _
 have hS:∀r,r≠s->r≠q->upd (upd σ s c) q cq r=σ r:=λr h1 h2=>by rw[upd_ne _ _ h2,upd_ne _ _ h1]
 have hSs:upd (upd σ s c) q cq s=c:=by rw[upd_ne _ _ hsq,upd_same]
 have hSq:upd (upd σ s c) q cq q=cq:=upd_same _ _ _
 have hin:∀r,(∀g∈upd (upd B s b1) q b2 r,g∈B r∨((r=s∨r=q)∧(g∈B s∨g∈B q))):=λr g hg=>by
  by_cases e1:r=s
  ·subst e1;rw[hBs]at hg;exact .inr ⟨.inl rfl,hsub g (Az _ hg)⟩
  ·by_cases e2:r=q
   ·subst e2;rw[hBq]at hg;exact .inr ⟨.inr rfl,hsub g (Ar _ hg)⟩
   ·rw[hB r e1 e2]at hg;exact .inl hg
 exact
 {h with
  slot:=λr=>by
   by_cases e1:r=s
   ·subst e1;rw[hSs,hBs];exact hc
   ·by_cases e2:r=q
    ·subst e2;rw[hSq,hBq];exact hcq
    ·rw[hS r e1 e2,hB r e1 e2];exact h.slot r
  boxes:=λr cs e=>by
   by_cases e1:r=s
   ·subst e1;rw[hSs]at e;obtain⟨ds,hd⟩:=hsome cs e;exact h.boxes r ds hd
   ·by_cases e2:r=q
    ·subst e2;rw[hSq,hbq]at e;cases e
    ·rw[hS r e1 e2]at e;exact h.boxes r cs e
  crefs:=λr b e=>by
   have hr:DI (σ r)=some b:=by
    by_cases e1:r=s
    ·subst e1;rw[hSs,hrf]at e;cases e
    ·by_cases e2:r=q
     ·subst e2;rw[hSq,hrq]at e;cases e
     ·rw[hS r e1 e2]at e;exact e
   obtain⟨cs,hcs⟩:=h.crefs r b hr
   by_cases e1:b=s
   ·subst e1;rw[hSs];exact hsome' cs hcs
   ·by_cases e2:b=q
    ·subst e2;rw[hq]at hcs;cases hcs
    ·rw[hS b e1 e2];exact⟨cs,hcs⟩
  nodup:=λr=>by
   by_cases e1:r=s
   ·subst e1;rw[hBs];exact n1
   ·by_cases e2:r=q
    ·subst e2;rw[hBq];exact n2
    ·rw[hB r e1 e2];exact h.nodup r
  apart:=λr t hrt g hg hg'=>by
   by_cases e1:(r=s∨r=q)
   ·by_cases e2:(t=s∨t=q)
    ·rcases e1 with rfl|rfl<;>rcases e2 with rfl|rfl
     ·exact hrt rfl
     ·rw[hBs]at hg;rw[hBq]at hg';exact n3 g hg g hg' rfl
     ·rw[hBq]at hg;rw[hBs]at hg';exact n3 g hg' g hg rfl
     ·exact hrt rfl
    ·have ht1:t≠s:=λe=>e2 (.inl e)
     have ht2:t≠q:=λe=>e2 (.inr e)
     rw[hB t ht1 ht2]at hg'
     rcases hin r g hg with hh|⟨_,hh⟩
     ·exact h.apart r t hrt g hh hg'
     ·rcases hh with hh|hh
      ·exact h.apart s t (Ne.symm ht1) g hh hg'
      ·exact h.apart q t (Ne.symm ht2) g hh hg'
   ·have hr1:r≠s:=λe=>e1 (.inl e)
    have hr2:r≠q:=λe=>e1 (.inr e)
    rw[hB r hr1 hr2]at hg
    rcases hin t g hg' with hh|⟨_,hh⟩
    ·exact h.apart r t hrt g hg hh
    ·rcases hh with hh|hh
     ·exact h.apart r s hr1 g hg hh
     ·exact h.apart r q hr2 g hg hh
  hapart:=λr g hg=>by simp
  range:=λr g hg=>by
   rcases hin r g hg with hh|⟨_,hh|hh⟩
   ·exact h.range r g hh
   ·exact h.range s g hh
   ·exact h.range q g hh}
theorem rel_drop{s:Nat}{u:Value}{e:TypeId}{n:Nat}{cs:List V}(hs:σ s=.tok u)(hq:σ gU=.gh [u] [.own e n cs])(hr:Rel P nt bx base St0 w0 σ a w):Rel P nt bx base St0 w0 (upd (upd σ s (.own e n cs)) gU .undef) a w:=by
 obtain⟨St,B,hS,r1,r2,r3⟩:=hr
 have hsq:s≠gU:=λe=>by rw[e,hq]at hs;cases hs
 have h1:=hS.slot s
 rw[hs]at h1
 have h2:=hS.slot gU
 rw[hq]at h2
 obtain⟨u',us',b1,b2,eu,eb,_,hOw,hnil⟩:=h2
 simp only[C2]at eu
 obtain⟨rfl,rfl⟩:=eu
 have hb2:b2=[]:=hnil.2
 subst hb2
 rw[AY]at eb
 have hv:tm a s=u:=h1.2.1
 refine⟨St,_,Ki hS hsq (by rw[hq];rfl) (show Cf P w St (tm a) (.own e n cs) (tm a s) b1 by rw[hv];exact hOw) (show Cf P w St (tm a) .undef _ []from rfl) (by rw[AY];have:=hS.nodup gU;rwa [eb]at this) (λg hg=>by
  rw[AY]at hg
  exact .inr (by rw[eb];exact hg)) (by rw[hs];rfl) rfl rfl rfl,r1,r2,r3⟩
end
def uJ(u:Value)(dd:TyD)(d:Nat)(σ:PS)(K:PS->Prop):Prop:=
 ∃q g off e n m cs,u=.pointer (some ⟨g,off,none⟩)∧(q=gS∨q=gU)∧σ q=.gh [.slice (some ⟨g,0,none⟩) n m] [.own e n cs]∧off+dd.size<=cs.length∧0 < dd.size∧K (upd σ d (getCells dd cs off))
def Up(tb:Tb)(t:TypeId)(x:Operand)(d:Nat)(σ:PS)(K:PS->Prop):Prop:=
 match tb t,KQ σ x with
 |some dd,.cref s off=>match CS (σ s)with
  |some cs=>off+dd.size<=cs.length∧K (upd (upd σ s (Rr (σ s) (NJ dd.size cs off))) d (Po dd cs off))
  |none=>False
 |some dd,.adr cs off=>off+dd.size<=cs.length∧K (upd σ d (getCells dd cs off))
 |some dd,.tok u=>uJ u dd d σ K
 |_,_=>False
def be(s i d:Nat)(σ:PS)(K:PS->Prop):Prop:=
 match σ s with
 |.tup cs=>match cs[i]? with
  |some c=>cs.all V.isArg=true∧K (upd (upd σ s (.tup (cs.set i (dg2 c)))) d c)
  |none=>False
 |_=>False
def Abc(u:Value)(dd:TyD)(y:Operand)(σ:PS)(K:PS->Prop):Prop:=
 ∃g off e n m cs,∃D:zN,∃vc:List V,u=.pointer (some ⟨g,off,none⟩)∧σ gS=.gh [.slice (some ⟨g,0,none⟩) n m] [.own e n cs]∧DA cs=true∧re σ y vc∧DA vc=true∧vc.length=dd.size∧off+dd.size<=cs.length∧((yT y).contains gS || D.contains gS)=false∧
  (∀q,q≠gS->D.contains q=true∨J6 (CO σ y q)=true)∧K (upd (kill D (CO σ y)) gS (.gh [.slice (some ⟨g,0,none⟩) n m] [.own e n (Mg cs off vc)]))
def ao(tb:Tb)(t:TypeId)(x y:Operand)(σ:PS)(K:PS->Prop):Prop:=
 match tb t,KQ σ x with
 |some dd,.cref s off=>match CS (σ s)with
  |some cs=>(Co σ y).isArg=true∧(GJ (Co σ y)).length=dd.size∧off+dd.size<=cs.length∧K (upd (CO σ y) s (Rr (σ s) (Mg cs off (GJ (Co σ y)))))
  |none=>False
 |some dd,.tok u=>Abc u dd y σ K
 |_,_=>False
def Tn(tb:Tb)(t:TypeId)(d:Nat)(σ:PS)(K:PS->Prop):Prop:=
 match tb t with
 |some dd=>Do (σ d)=true∧K (upd σ d (.box (XT dd)))
 |none=>False
def boxS(x:Operand)(d:Nat)(σ:PS)(K:PS->Prop):Prop:=(Co σ x).isArg=true∧Do (CO σ x d)=true∧K (upd (CO σ x) d (.box (GJ (Co σ x))))
def RJ(tb:Tb)(t:TypeId)(parts:List (Nat×Operand))(d:Nat)(σ:PS)(K:PS->Prop):Prop:=
 match tb t with
 |some (.st _ z fs)=>match OG (λi=>fs[i]?) parts σ z with
  |some (σ',cs)=>K (upd σ' d (.agg cs))
  |none=>False
 |_=>False
def aS(tb:Tb)(t:TypeId)(n:Nat)(parts:List (Nat×Operand))(d:Nat)(σ:PS)(K:PS->Prop):Prop:=
 match tb t with
 |some (.sl e es _ ez)=>match OG (λi=>some (i * es,es)) parts σ (PM ez es n)with
  |some (σ',cs)=>n * es<=16777216∧cs.length=n * es∧K (upd σ' d (.own e n cs))
  |none=>False
 |_=>False
def Yw(tb:Tb)(t:TypeId)(x y:Operand)(d:Nat)(σ:PS)(K:PS->Prop):Prop:=
 match tb t,Co σ x,Co σ y with
 |some (.sl e es _ ez),.int _ n,.int _ m=>0<=n∧n=m∧n.toNat<=lim∧K (upd σ d (.own e n.toNat (PM ez es n.toNat)))
 |_,_,_=>False
def Yx(tb:Tb)(t:TypeId)(x y:Operand)(d:Nat)(σ:PS)(K:PS->Prop):Prop:=
 match tb t,Co σ x,Co σ y with
 |some (.sl e es _ ez),.int _ n,.int _ m=>0<=n∧n=m∧n.toNat<=lim∧Do (σ d)=true∧K (upd σ d (.uni e n.toNat (PM ez es n.toNat)))
 |_,_,_=>False
def QN(tb:Tb)(t t':TypeId)(x y:Operand)(d:Nat)(σ:PS)(K:PS->Prop):Prop:=
 match tb t,Co σ x,J7 (Co (CO σ x) y)with
 |some (.sl e es _ _),.own e' n cs,some (m,ds)=>t'=t∧e'=e∧ds.length=m * es∧n+m<=lim∧(K (upd (CO (CO σ x) y) d (.own e (n+m) (cs++TW (Co (CO σ x) y))))∨K (upd (upd (CO (CO σ x) y) d (.own e (n+m) (cs++TW (Co (CO σ x) y)))) d (.own e (n+m) ((cs++TW (Co (CO σ x) y)).map QT)))∧(cs++TW (Co (CO σ x) y)).all V.Ds=true)
 |_,_,_=>False
theorem UV{tb:Tb}{t t':TypeId}{x y:Operand}{d:Nat}{σ:PS}{K K':PS->Prop}(hk:∀σ,K σ->K' σ)(h2:QN tb t t' x y d σ K):QN tb t t' x y d σ K':=by
 unfold QN at *
 split at h2
 ·exact⟨h2.1,h2.2.1,h2.2.2.1,h2.2.2.2.1,h2.2.2.2.2.imp (hk _) (λh=>⟨hk _ h.1,h.2⟩)⟩
 ·exact h2
def appG(tb:Tb)(t t':TypeId)(x y:Operand)(d:Nat)(σ:PS)(K:PS->Prop):Prop:=
 ∃s u e n cs,x=.tmp s∧σ s=.tok u∧σ gU=.gh [u] [.own e n cs]∧QN tb t t' x y d (upd (upd σ s (.own e n cs)) gU .undef) K
def YZ(cns:zN)(o:LO)(σ:PS)(K:PS->Prop):Prop:=
 match o.dst,o.g with
 |some d,some (some q,b)=>cns.contains d=false∧known (σ q)=true∧Wd b (σ q)=false∧K (upd σ d (.tup []))
 |_,_=>False
def RL(P:Program)(tb:Tb)(cns:zN)(o:LO)(c:Call)(σ:PS)(K:PS->Prop):Prop:=
 match c.callee,o.dst,c.args.toList,c.argTypes.toList with
 |.value x,_,args,_=>match Co σ x with
  |.fn f=>JZ P cns o f args σ K
  |.tok u=>UZ P cns o u args σ K
  |_=>YZ cns o σ K
 |.builtin .append,some d,[x,y],[t,t']=>OM o d σ K (QN tb t t' x y d σ K∨((∀b,o.g≠some (some gU,b))∧appG tb t t' x y d σ K))
 |_,_,_,_=>Jv tb o σ K
def oV(P:Program)(t:TypeId)(f:Nat):Option Nat:=match P.underlying t with
 |some (.struct gs)=>match gs[f]? with
  |some fd=>match P.underlying fd.type with
   |some (.struct _)=>none
   |some (.array _ _)=>none
   |some _=>some fd.offset
   |none=>none
  |none=>none
 |_=>none
def dC(P:Program)(t:TypeId)(x:Operand)(f d:Nat)(σ:PS)(K:PS->Prop):Prop:=
 match oV P t f,Co σ x with
 |some off,.agg cs=>match cs[off]? with
  |some c=>K (upd σ d (QT c))
  |none=>False
 |_,_=>False
def Zn(σ:PS):List Operand->Option (List Value)
 |[]=>some []
 |.tmp p::xs=>match σ (gV p)with
  |.val q u=>if q=p then(Zn σ xs).map (u:: ·)else none
  |_=>none
 |_::_=>none
def mkF(f:FuncId)(fs caps:List Operand)(d:Nat)(σ:PS)(K:PS->Prop):Prop:=
 match fs,Zn σ caps with
 |[],some us=>K (upd σ d (.tok (.func (.func f) #[] us.toArray)))
 |_,_=>False
def F0(P:Program)(tb:Tb)(cns:zN)(o:LO)(σ:PS)(K:PS->Prop):Prop:=
 match o.op,o.dst with
 |.assign x,some d=>if cns.contains d=true then o.g=none∧Wv x d σ K else o.g=none∧OL tb o x d σ K
 |.move x,some d=>if cns.contains d=true then o.g=none∧OL tb o x d σ K else Jv tb o σ K
 |.load t x,some d=>if cns.contains d=true then o.g=none∧Up tb t x d σ K else Jv tb o σ K
 |.extract (.tmp s) i,some d=>o.g=none∧be s i d σ K
 |.store t x y,none=>o.g=none∧ao tb t x y σ K
 |.alloc t,some d=>o.g=none∧Tn tb t d σ K
 |.box _ x,some d=>o.g=none∧boxS x d σ K
 |.build t ps,some d=>OM o d σ K (RJ tb t ps.toList d σ K)
 |.buildSlice t n ps,some d=>OM o d σ K (aS tb t n ps.toList d σ K)
 |.makeSlice t x y,some d=>if cns.contains d=true then o.g=none∧Yx tb t x y d σ K else o.g=none∧Yw tb t x y d σ K
 |.call c,_=>RL P tb cns o c σ K
 |.field t x f,some d=>OM o d σ K (dC P t x f d σ K)
 |.makeFunc (.func f) fs caps,some d=>OM o d σ K (mkF f fs.toList caps.toList d σ K)
 |_,_=>Jv tb o σ K
def WW(c:Call):Bool:=match c.callee with
 |.value _=>true
 |_=>false
def YC(nt:Nat)(bx:zN)(o:Oper):Bool:=
 match o.dst with
 |none=>true
 |some d=>decide (d < nt)&&(match o.op with
  |.alloc _|.box _ _=>bx.contains d
  |.assign _|.makeSlice _ _ _=>true
  |.call c=>WW c || !bx.contains d
  |_=> !bx.contains d)
def r9(bx:zN)(o:Oper):Bool:=
 match o.dst with
 |none=>true
 |some d=> !bx.contains (N9+d)
def R3(nt:Nat)(bx:zN)(o:Oper):Bool:=YC nt bx o&&r9 bx o
theorem ZV{nt:Nat}{bx:zN}{o:Oper}(h:R3 nt bx o=true):YC nt bx o=true:=by unfold R3 at h;rw[Aa]at h;exact h.1
theorem Xe{nt:Nat}{bx:zN}{o:Oper}{d:Nat}(h:R3 nt bx o=true)(hd:o.dst=some d):N9+d∉bx:=by
 unfold R3 r9 at h
 rw[Aa,hd]at h
 have h:=h.2
 intro hk
 simp[hk]at h
def okA(bx cns:zN)(o:LO):Bool:=
 match o.op,o.dst with
 |.assign _,some d=>cns.contains d==bx.contains d
 |.makeSlice _ _ _,some d=>cns.contains d==bx.contains d
 |.call c,some d=> !WW c || cns.contains d==bx.contains d
 |_,_=>true
def Ta(P:Program)(nt:Nat)(bx:zN)(ops:Array Oper)(o:Oper)(σ:PS)(K:PS->Prop):Prop:=
 ∀base St0 w0 a w Q,Rel P nt bx base St0 w0 σ a w->
  if Region.wanted o (yielded ops a.tmps)then o.wp P a w (λa' w'=>∃σ',K σ'∧Rel P nt bx base St0 w0 σ' a' w') Q else ∃σ',K σ'∧Rel P nt bx base St0 w0 σ' (a.put o.dst undef) w
section
variable {P:Program}{nt:Nat}{base:Bs}{bx:zN}{ops:Array Oper}{σ:PS}{K:PS->Prop}{o:Oper}{tb:Tb}
theorem Ei(hg:o.guard=none)(h:∀base St0 w0,RD P nt bx base St0 w0 o σ K):Ta P nt bx ops o σ K:=by
 intro base St0 w0 a w Q hr
 have:Region.wanted o (yielded ops a.tmps)=true:=by simp[Region.wanted,hg]
 rw[Av this]
 exact h base St0 w0 a w Q hr
theorem ag{w:World}{St:Nat->Nat->Prop}{t:Nat->Value}{c:V}{b:Bool}{bs:zN}(hk:known c=true)(hb:Wd b c=false):¬Cf P w St t c (.bool b) bs:=by
 intro h
 cases c with
 |undef=>cases hk
 |gh us cs=>cases hk
 |same s=>cases hk
 |val s u=>cases hk
 |bool c=>have:=NM h;simp only[Value.bool.injEq]at this;subst this;simp[Wd]at hb
 |int k n=>have:=FR h;cases this
 |str s=>have:=(Og h).1;cases this
 |own e n cs=>obtain⟨_,A,c,e,_⟩:=Kl (c:=.own e n cs) rfl h;cases e
 |dat n cs=>obtain⟨_,A,c,e,_⟩:=Kl (c:=.dat n cs) rfl h;cases e
 |agg cs=>obtain⟨us,e,_⟩:=h;cases e
 |tup cs=>obtain⟨us,e,_⟩:=h;cases e
 |arg n cs=>obtain⟨_,A,c,e,_⟩:=Kl (c:=.arg n cs) rfl h;cases e
 |pin u n cs=>obtain⟨_,A,c,e,_⟩:=Kl (c:=.pin u n cs) rfl h;cases e
 |fn f=>have e:=h.2;cases e
 |tok u=>cases hk
 |box cs=>obtain⟨g,T,b',arr,e,_⟩:=h;cases e
 |uni e n cs=>obtain⟨g,b',arr,e,_⟩:=h;cases e
 |cref s o=>obtain⟨_,g,_,e⟩:=h;cases e
 |adr cs o=>obtain⟨_,g,_,e,_⟩:=h;cases e
theorem guard_of{St0:Nat->Nat->Prop}{w0 w:World}{a:Act}(hr:Rel P nt bx base St0 w0 σ a w){j q:Nat}{b:Bool}(hg:o.guard=some (j,b))(hq:gD ops j=some q)(hk:known (σ q)=true):Region.wanted o (yielded ops a.tmps)=Wd b (σ q):=by
 obtain⟨St,B,h,_⟩:=hr
 have hs:=h.slot q
 have hw:Region.wanted o (yielded ops a.tmps)=((match a.tmps[q]? with|some (.bool c)=>some c|_=>none:Option Bool)==some b):=by
  unfold gD at hq
  simp only[Region.wanted,hg,yielded,hq,MJ]
  rfl
 have htm:∀v,a.tmps[q]? =some v->tm a q=v:=by
  intro v hv
  unfold tm
  rw[C5,hv];rfl
 rw[hw]
 cases hc:σ q with
 |bool c=>
  rw[hc]at hs
  have hv:=NM hs
  cases hx:a.tmps[q]? with
  |none=>
   unfold tm at hv
   rw[C5,hx]at hv
   simp[undef]at hv
  |some u=>
   rw[htm u hx]at hv
   subst hv
   simp[Wd]
 |undef=>rw[hc]at hk;cases hk
 |gh us cs=>rw[hc]at hk;cases hk
 |same s=>rw[hc]at hk;cases hk
 |val s u=>rw[hc]at hk;cases hk
 |tok u=>rw[hc]at hk;cases hk
 |_=>
  cases hx:a.tmps[q]? with
  |none=>rfl
  |some u=>
   have hu:=htm u hx
   rw[hc,hu]at hs
   cases u with
   |bool c=>exact absurd hs (ag (by rfl) (by rfl))
   |_=>rfl
theorem UF{St0:Nat->Nat->Prop}{w0 w:World}{a:Act}(hr:Rel P nt bx base St0 w0 σ a w){d:Nat}(hd:d < nt)(hx:d∉bx):Rel P nt bx base St0 w0 (upd σ d (.tup [])) (a.put (some d) undef) w:=by
 obtain⟨St,B,h,hb,hst,hz⟩:=hr
 have hv:Ow P w St (.tup []) undef []:=⟨[],rfl,rfl,rfl⟩
 exact⟨St,upd B d [],h.put hd hx hv.slot AG (by simp) rfl (by intro b e;cases e),hb,hst,hz⟩
def l8:Op->Bool
 |.alloc _|.box _ _|.assign _|.makeSlice _ _ _=>true
 |.call c=>WW c
 |_=>false
theorem Q3{d:Nat}(h:R3 nt bx o=true)(hd:o.dst=some d)(hna:l8 o.op=false):d < nt∧d∉bx:=by
 replace h:=ZV h
 unfold YC at h
 rw[hd]at h
 simp only[Aa,AN]at h
 refine⟨h.1,?_⟩
 have h2:=h.2
 cases ho:o.op<;>rw[ho]at h2 hna<;>first|(cases hna;done)|(simpa using h2;done)|(simp only[l8]at hna;simp only[hna,BZ]at h2;simpa using h2;done)
theorem mi{d:Nat}(h:R3 nt bx o=true)(hd:o.dst=some d)(hna:(match o.op with|.alloc _|.box _ _=>true|_=>false)=true):d < nt∧d∈bx:=by
 replace h:=ZV h
 unfold YC at h
 rw[hd]at h
 simp only[Aa,AN]at h
 refine⟨h.1,?_⟩
 have h2:=h.2
 cases ho:o.op<;>rw[ho]at h2 hna<;>first|(cases hna;done)|(simpa using h2;done)
theorem gJ{cns:zN}{d:Nat}{c:Call}(hok:R3 nt bx o=true)(hA:okA bx cns (CG ops o)=true)(hop:o.op=.call c)(hg:WW c=true)(hd:o.dst=some d):d < nt∧(cns.contains d=true->d∈bx)∧(cns.contains d=false->d∉bx):=by
 have h1:d < nt:=by
  replace hok:=ZV hok
  unfold YC at hok
  rw[hd]at hok
  simp only[Aa,AN]at hok
  exact hok.1
 have h2:cns.contains d=bx.contains d:=by
  simpa[okA,CG,hop,hd,hg]using hA
 refine⟨h1,λh=>?_,λh hm=>?_⟩
 ·rw[h2]at h;simpa using h
 ·rw[h2]at h;simp at h;exact h hm
theorem PV(htb:IG P tb)(hok:R3 nt bx o=true)(hna:l8 o.op=false)(h:Jv tb (CG ops o) σ K):Ta P nt bx ops o σ K:=by
 simp only[Jv,CG]at h
 cases hd:o.dst with
 |none=>rw[hd]at h;exact h.elim
 |some d=>
  rw[hd]at h
  obtain⟨hd1,hd2⟩:=Q3 hok hd hna
  simp only at h
  cases hg:o.guard with
  |none=>rw[hg]at h;exact Ei hg (λbase St0 w0=>Xi htb hd hd1 hd2 h.1 h.2)
  |some g=>
   obtain⟨j,b⟩:=g
   rw[hg]at h
   simp only[B8]at h
   cases hq:gD ops j with
   |none=>rw[hq]at h;exact h.elim
   |some q=>
    rw[hq]at h
    obtain⟨h1,h2,h3⟩:=h
    intro base St0 w0 a w Q hr
    rw[guard_of hr hg hq h1]
    cases hb:Wd b (σ q)with
    |true=>
     simp only[ER]
     exact Xi htb hd hd1 hd2 (h2 hb).1 (h2 hb).2 a w Q hr
    |false=>
     simp only[Cm,Dz]
     rw[hd]
     exact⟨_,h3 hb,UF hr hd1 hd2⟩
theorem MS{d:Nat}{X:Prop}(hd:o.dst=some d)(hd1:d < nt)(hd2:d∉bx)(hX:X->∀base St0 w0,RD P nt bx base St0 w0 o σ K)(h:OM (CG ops o) d σ K X):Ta P nt bx ops o σ K:=by
 simp only[OM,CG]at h
 cases hg:o.guard with
 |none=>rw[hg]at h;exact Ei hg (hX h)
 |some g=>
  obtain⟨j,b⟩:=g
  rw[hg]at h
  simp only[B8]at h
  cases hq:gD ops j with
  |none=>rw[hq]at h;exact h.elim
  |some q=>
   rw[hq]at h
   obtain⟨h1,h2,h3⟩:=h
   intro base St0 w0 a w Q hr
   rw[guard_of hr hg hq h1]
   cases hb:Wd b (σ q)with
   |true=>
    simp only[ER]
    exact hX (h2 hb) base St0 w0 a w Q hr
   |false=>
    simp only[Cm,Dz]
    rw[hd]
    exact⟨_,h3 hb,UF hr hd1 hd2⟩
theorem aV{f:FuncId}{cal:Operand}{args:List Operand}{c:Call}(hcv:Co σ cal=.fn f)(hop:o.op=.call c)(hcal:c.callee=.value cal)(hargs:c.args.toList=args)(hdd:∀d,o.dst=some d->d < nt∧d∉bx)(h:O5 P (CG ops o) f args σ K):Ta P nt bx ops o σ K:=by
 have hop':o.op=.call {callee:=.value cal,args:=c.args,argTypes:=c.argTypes}:=by rw[hop,<-hcal]
 simp only[O5,CG]at h
 cases hg:o.guard with
 |none=>
  rw[hg]at h
  obtain⟨h1,r,h2,h3⟩:=h
  exact Ei hg (λbase St0 w0=>cd hcv hop' (by rw[hargs];exact h1) (by rw[hargs];exact h2) hdd h3)
 |some g=>
  obtain⟨j,b⟩:=g
  rw[hg]at h
  simp only[B8]at h
  split at h
  ·rename_i q d hq hd
   obtain⟨h1,h2,h3⟩:=h
   obtain⟨hd1,hd2⟩:=hdd d hd
   intro base St0 w0 a w Q hr
   rw[guard_of hr hg hq h1]
   cases hb:Wd b (σ q)with
   |true=>
    simp only[ER]
    obtain⟨h4,r,h5,h6⟩:=h2 hb
    refine cd hcv hop' (by rw[hargs];exact h4) (by rw[hargs];exact h5) hdd ?_ a w Q hr
    rw[hd];exact h6
   |false=>
    simp only[Cm,Dz]
    rw[hd]
    exact⟨_,h3 hb,UF hr hd1 hd2⟩
  ·exact h.elim
theorem aU{f:FuncId}{cal:Operand}{args:List Operand}{c:Call}(hcv:Co σ cal=.fn f)(hop:o.op=.call c)(hcal:c.callee=.value cal)(hargs:c.args.toList=args)(hdd:∀d,o.dst=some d->d < nt∧d∉bx)(h:T5 P (CG ops o) f args σ K):Ta P nt bx ops o σ K:=by
 have hop':o.op=.call {callee:=.value cal,args:=c.args,argTypes:=c.argTypes}:=by rw[hop,<-hcal]
 unfold T5 at h
 split at h
 ·exact h.elim
 ·rename_i x xs
  have key:RM P (CG ops o) f x xs σ K->∀base St0 w0,RD P nt bx base St0 w0 o σ K:=λ⟨s,cs,cs',r,q1,q2,q3,q4,q5,q6⟩ base St0 w0=>jt hcv hop' hargs q1 q2 q3 q4 q5 hdd q6
  split at h
  ·exact Ei (by simpa[CG]using h.1) (key h.2)
  ·rename_i d hd
   obtain⟨hd1,hd2⟩:=hdd d hd
   exact MS hd hd1 hd2 key h
theorem Zl{f:FuncId}{cal:Operand}{args:List Operand}{c:Call}(hcv:Co σ cal=.fn f)(hop:o.op=.call c)(hcal:c.callee=.value cal)(hargs:c.args.toList=args)(hdd:∀d,o.dst=some d->d < nt∧d∉bx)(h:UY P (CG ops o) f args σ K):Ta P nt bx ops o σ K:=by
 have hop':o.op=.call {callee:=.value cal,args:=c.args,argTypes:=c.argTypes}:=by rw[hop,<-hcal]
 have key:T6 P o.dst f args σ K->∀base St0 w0,RD P nt bx base St0 w0 o σ K:=λh base St0 w0=>h.elim (λ⟨s,xs,cs,cs',D,q1,q2,q3,q4,q5,q6,q7,q8,q9⟩=>js hcv hop' (by rw[hargs];exact q1) q2 q4 q5 q6 q7 q8 hdd q9)
  (λh=>h.elim (λ⟨zs,x,xs,ys,us,os,os',r,D,q1,q2,q3,q4,q5,q6,q7,q8,q9⟩=>jq hcv hop' (zs:=zs) (xs:=x::xs) (by rw[hargs];exact q1) q2 q3 q4 q5 q6 q7 q8 hdd q9)
   (λ⟨zs,x,s,n,n',e,cs,cs',r,q1,q2,q3,q4,q5,q6,q7,q8,q9⟩=>ju hcv hop' (by rw[hargs];exact q1) q2 q3 q4 q5 q6 q7 q8 hdd q9))
 unfold UY at h
 split at h
 ·rename_i hd
  exact Ei (by simpa[CG]using h.1) (key (by rw[show o.dst=none from hd];exact h.2))
 ·rename_i d hd
  obtain⟨hd1,hd2⟩:=hdd d hd
  exact MS hd hd1 hd2 (λh=>key (by rw[show o.dst=some d from hd];exact h)) h
theorem Zm{u:Value}{cal:Operand}{args:List Operand}{c:Call}{cns:zN}(hcv:Co σ cal=.tok u)(hop:o.op=.call c)(hcal:c.callee=.value cal)(hargs:c.args.toList=args)(hdd:∀d,o.dst=some d->cns.contains d=false->d < nt∧d∉bx)(h:UZ P cns (CG ops o) u args σ K):Ta P nt bx ops o σ K:=by
 have hop':o.op=.call {callee:=.value cal,args:=c.args,argTypes:=c.argTypes}:=by rw[hop,<-hcal]
 have key:(∀d,o.dst=some d->d < nt∧d∉bx)->QQ P o.dst u args σ K->∀base St0 w0,RD P nt bx base St0 w0 o σ K:=λhdd ⟨f,us,ss,css,css',r,D,q1,q2,q3,q4,q5,q6,q7,q8,q9,q10⟩ base St0 w0=>
  jv (by rw[hcv,q1]) hop' q2 q3 q4 q5 (by rw[hargs];exact q6) (by rw[hargs];exact q7) q8 q9 hdd q10
 unfold UZ at h
 split at h
 ·rename_i hd
  have hd:o.dst=none:=hd
  exact Ei (by simpa[CG]using h.1) (key (λd e=>by rw[hd]at e;cases e) (by rw[hd];exact h.2))
 ·rename_i d hd
  have hd:o.dst=some d:=hd
  obtain⟨hd1,hd2⟩:=hdd d hd h.1
  exact MS hd hd1 hd2 (λh=>key (λd' e=>by rw[hd]at e;cases e;exact⟨hd1,hd2⟩) (by rw[hd];exact h)) h.2
theorem Qz{c:V}(h:Do c=true):CS c=none:=by
 unfold Do at h
 split at h
 ·rename_i e;exact e
 ·cases h
theorem r8{cns:zN}{d:Nat}(hok:R3 nt bx o=true)(hA:okA bx cns (CG ops o)=true)(hop:(∃x,o.op=.assign x)∨∃t x y,o.op=.makeSlice t x y)(hd:o.dst=some d):d < nt∧(cns.contains d=true->d∈bx)∧(cns.contains d=false->d∉bx):=by
 have h1:d < nt:=by
  replace hok:=ZV hok
  unfold YC at hok
  rw[hd]at hok
  simp only[Aa,AN]at hok
  exact hok.1
 have h2:cns.contains d=bx.contains d:=by
  rcases hop with⟨x,hop⟩|⟨t,x,y,hop⟩<;>simpa[okA,CG,hop,hd]using hA
 refine⟨h1,λh=>?_,λh hm=>?_⟩
 ·rw[h2]at h;simpa using h
 ·rw[h2]at h;simp at h;exact h hm
theorem Wu{x:Operand}{d:Nat}(hop:o.op=.assign x∨o.op=.move x)(hd:o.dst=some d)(hg:o.guard=none)(hd1:d < nt)(hd2:d∉bx)(h:OL tb (CG ops o) x d σ K):Ta P nt bx ops o σ K:=by
 unfold OL at h
 split at h
 ·split at h
  ·exact Ei hg (λbase St0 w0=>qb hop hd hd1 hd2 h)
  ·exact h.elim
 ·exact Ei hg (λbase St0 w0=>mo hop hd hd1 hd2 h)
 ·rename_i p
  split at h
  ·rename_i e n cs hs
   exact Ei hg (λbase St0 w0=>jA hop hs hd hd1 hd2 h)
  ·rename_i cs hs
   exact Ei hg (λbase St0 w0=>YG hop (by simp only[KQ,hs]) (.inl ⟨cs,by rw[hs];rfl⟩) hd hd1 hd2 h)
  ·rename_i b o' hs
   exact Ei hg (λbase St0 w0=>YG hop (by simp only[KQ,hs]) (.inr (by rw[hs];rfl)) hd hd1 hd2 h)
  ·exact Ei hg (λbase St0 w0=>Xj hop hd hd1 hd2 h.1 h.2)
 ·exact Ei hg (λbase St0 w0=>Xj hop hd hd1 hd2 h.1 h.2)
theorem dc{x:Operand}{d:Nat}(hop:o.op=.assign x)(hd:o.dst=some d)(hg:o.guard=none)(hd1:d < nt)(hd2:d∈bx)(hd0:N9+d∉bx)(h:Wv x d σ K):Ta P nt bx ops o σ K:=by
 unfold Wv at h
 split at h
 ·rename_i p
  split at h
  ·rename_i e n cs hs
   exact Ei hg (λbase St0 w0=>mm (.inl hop) hs hd hd1 hd2 hd0 (Qz h.1) h.2)
  ·exact h.elim
 ·exact h.elim
theorem jw{St0:Nat->Nat->Prop}{w0:World}{t:TypeId}{x:Operand}{f d off:Nat}{cs:List V}{c:V}(hop:o.op=.field t x f)(hf:oV P t f=some off)(hx:Co σ x=.agg cs)(hc:cs[off]? =some c)(ho:o.dst=some d)(hd:d < nt)(hn:d∉bx)(hk:K (upd σ d (QT c))):RD P nt bx base St0 w0 o σ K:=by
 rintro a w Q ⟨St,B,h,hb,hst,hz⟩
 obtain⟨b,hs⟩:=Ld h x
 rw[hx]at hs
 obtain⟨us,e1,h1⟩:=hs
 obtain⟨u,hu,hr⟩:=(A7.rdL cs h1).get off c hc
 have how:Ow P w St (QT c) u []:=Ow.vL hr.VU
 have hrun:(execOp a.eval o).run P w=.ok (.value u) w:=by
  unfold oV at hf
  split at hf
  ·rename_i gs hgs
   split at hf
   ·rename_i fd hfd
    have hu':us.toArray[fd.offset]? =some u∧(isAgg fd.type).run P w=.ok false w:=by
     split at hf
     ·cases hf
     ·cases hf
     ·rename_i d' hn1 hn2 hdt
      injection hf with hf
      subst hf
      refine⟨by simpa using hu,?_⟩
      simp only[Go.isAgg,A6,Bp hdt,AM]
      cases d'<;>first|rfl|exact absurd rfl (hn1 _)|exact absurd rfl (hn2 _ _)
     ·cases hf
    simp only[execOp,hop,Instr.field,A6,Bp hgs,AM,hfd,e1,asAgg,BA,part,hu'.2,Cm,Dz,hu'.1]
   ·cases hf
  ·cases hf
 refine Kr hrun ⟨_,hk,St,upd B d [],?_,hb,hst,hz⟩
 rw[ho]
 exact h.put hd hn how.slot AG (by simp) how.Do.1 how.Oa
theorem aW{St:Nat->Nat->Prop}{B:Nat->zN}{hand:zN}{a:Act}{w:World}(h:HSim P nt bx base St B hand σ a w):∀{xs:List Operand}{us:List Value},Zn σ xs=some us->xs.map a.eval=us
 |[],us,e=>by simp only[Zn,Ap]at e;subst e;rfl
 |.tmp p::xs,us,e=>by
  unfold Zn at e
  split at e
  ·rename_i q u hq
   split at e
   ·rename_i hqp
    subst hqp
    cases hc:Zn σ xs with
    |none=>rw[hc]at e;cases e
    |some vs=>
     rw[hc]at e
     simp only[B8,Ap]at e
     subst e
     have hs:=h.slot (gV q)
     rw[hq]at hs
     rw[AC,aW h hc]
     have:a.eval (.tmp q)=u:=hs.2.symm
     rw[this]
   ·cases e
  ·cases e
 |.const _::_,us,e=>by cases e
 |.global _::_,us,e=>by cases e
 |.func _::_,us,e=>by cases e
theorem p9{St0:Nat->Nat->Prop}{w0:World}{f:FuncId}{fs caps:Array Operand}{us:List Value}{d:Nat}(hop:o.op=.makeFunc (.func f) fs caps)(hf:fs.toList=[])(hc:Zn σ caps.toList=some us)(ho:o.dst=some d)(hd:d < nt)(hn:d∉bx)(hk:K (upd σ d (.tok (.func (.func f) #[] us.toArray)))):RD P nt bx base St0 w0 o σ K:=by
 rintro a w Q ⟨St,B,h,hb,hst,hz⟩
 have e1:fs= #[]:=by rw[<-DE (xs:=fs),hf]
 have e2:caps.map a.eval=us.toArray:=by rw[<-aW h hc,<-Hp,DE]
 have hrun:(execOp a.eval o).run P w=.ok (.value (.func (.func f) #[] us.toArray)) w:=by
  simp[execOp,hop,Instr.makeFunc,e1,e2]
 refine Kr hrun ⟨_,hk,St,upd B d [],?_,hb,hst,hz⟩
 rw[ho]
 have how:Ow P w St (.tok (.func (.func f) #[] us.toArray)) (.func (.func f) #[] us.toArray) []:=⟨rfl,rfl,rfl⟩
 exact h.put hd hn how.slot AG (by simp) how.Do.1 how.Oa
theorem U3(htb:IG P tb){cns:zN}(hok:R3 nt bx o=true)(hA:okA bx cns (CG ops o)=true)(h:F0 P tb cns (CG ops o) σ K):Ta P nt bx ops o σ K:=by
 have hgn:(CG ops o).g=none->o.guard=none:=by
  intro e
  simpa[CG]using e
 have hlo:(CG ops o).op=o.op:=rfl
 have hld:(CG ops o).dst=o.dst:=rfl
 unfold F0 at h
 rw[hlo,hld]at h
 split at h
 ·rename_i x d ho hd
  obtain⟨q1,q2,q3⟩:=r8 hok hA (.inl ⟨x,ho⟩) hd
  split at h
  ·rename_i hc;exact dc ho hd (hgn h.1) q1 (q2 hc) (Xe hok hd) h.2
  ·rename_i hc;exact Wu (.inl ho) hd (hgn h.1) q1 (q3 (by simpa using hc)) h.2
 ·rename_i x d ho hd
  split at h
  ·obtain⟨hd1,hd2⟩:=Q3 hok hd (by rw[ho];rfl)
   exact Wu (.inr ho) hd (hgn h.1) hd1 hd2 h.2
  ·exact PV htb hok (by rw[ho];rfl) h
 ·rename_i t x d ho hd
  split at h
  ·obtain⟨hg,h⟩:=h
   replace hg:=hgn hg
   obtain⟨hd1,hd2⟩:=Q3 hok hd (by rw[ho];rfl)
   unfold Up at h
   split at h
   ·rename_i dd s off ht hax
    split at h
    ·rename_i cs hs
     exact Ei hg (λbase St0 w0=>ZZ htb ho ht hax hs h.1 hd hd1 hd2 h.2)
    ·exact h.elim
   ·rename_i dd cs off ht hax
    refine Ei hg (λbase St0 w0=>Xi htb hd hd1 hd2 ?_ ?_)
    ·rw[ho];simp only[pc,ht,hax,Q1,R1];exact h.1
    ·rw[ho];simp only[pv,ht,hax,Q2,Uq];exact h.2
   ·rename_i dd u ht hax
    obtain⟨q,g,off,e,n,m,cs,rfl,-,k1,k2,k3,k4⟩:=h
    exact Ei hg (λbase St0 w0=>jx htb ho ht hax k1 k2 k3 hd hd1 hd2 k4)
   ·exact h.elim
  ·exact PV htb hok (by rw[ho];rfl) h
 ·rename_i s i d ho hd
  obtain⟨hg,h⟩:=h
  replace hg:=hgn hg
  obtain⟨hd1,hd2⟩:=Q3 hok hd (by rw[ho];rfl)
  unfold be at h
  split at h
  ·rename_i cs hs
   split at h
   ·rename_i c hc
    exact Ei hg (λbase St0 w0=>ce ho hd hd1 hd2 hs hc h.1 h.2)
   ·exact h.elim
  ·exact h.elim
 ·rename_i t x y ho hd
  obtain⟨hg,h⟩:=h
  replace hg:=hgn hg
  unfold ao at h
  split at h
  ·rename_i dd s off ht hax
   split at h
   ·rename_i cs hs
    obtain⟨h1,h2,h3,h4⟩:=h
    exact Ei hg (λbase St0 w0=>jz htb ho ht hax hs h1 h2 h3 hd h4)
   ·exact h.elim
  ·rename_i dd u ht hax
   obtain⟨g,off,e,n,m,cs,D,vc,rfl,h1,h2,h3,h4,h5,h6,h7,h8,h9⟩:=h
   exact Ei hg (λbase St0 w0=>mp htb ho ht hax h1 h2 h3 h4 h5 h6 hd D h7 h8 h9)
  ·exact h.elim
 ·rename_i t d ho hd
  obtain⟨hg,h⟩:=h
  replace hg:=hgn hg
  obtain⟨hd1,hd2⟩:=mi hok hd (by rw[ho])
  unfold Tn at h
  split at h
  ·rename_i dd ht
   exact Ei hg (λbase St0 w0=>jo htb ho ht hd hd1 hd2 (Xe hok hd) (Qz h.1) h.2)
  ·exact h.elim
 ·rename_i t x d ho hd
  obtain⟨hg,h⟩:=h
  replace hg:=hgn hg
  obtain⟨hd1,hd2⟩:=mi hok hd (by rw[ho])
  obtain⟨h1,h2,h3⟩:=h
  exact Ei hg (λbase St0 w0=>p8 ho hd hd1 hd2 (Xe hok hd) h1 (Qz h2) h3)
 ·rename_i t ps d ho hd
  obtain⟨hd1,hd2⟩:=Q3 hok hd (by rw[ho];rfl)
  refine MS hd hd1 hd2 (λh base St0 w0=>?_) h
  unfold RJ at h
  split at h
  ·rename_i n z fs ht
   split at h
   ·rename_i σ' cs hf
    exact jp htb ho ht hf hd hd1 hd2 h
   ·exact h.elim
  ·exact h.elim
 ·rename_i t n ps d ho hd
  obtain⟨hd1,hd2⟩:=Q3 hok hd (by rw[ho];rfl)
  refine MS hd hd1 hd2 (λh base St0 w0=>?_) h
  unfold aS at h
  split at h
  ·rename_i e es eb ez ht
   split at h
   ·rename_i σ' cs hf
    obtain⟨h1,h2,h3⟩:=h
    exact Xh htb ho ht h1 hf h2 hd hd1 hd2 h3
   ·exact h.elim
  ·exact h.elim
 ·rename_i t x y d ho hd
  obtain⟨hd1,hd3,hd4⟩:=r8 hok hA (.inr ⟨t,x,y,ho⟩) hd
  split at h
  ·rename_i hc
   have hd2:=hd3 hc
   obtain⟨hg,h⟩:=h
   replace hg:=hgn hg
   unfold Yx at h
   split at h
   ·rename_i e es eb ez k n k' m ht hx hy
    obtain⟨h0,rfl,h2,h4,h3⟩:=h
    obtain⟨n,rfl⟩:=CH h0
    exact Ei hg (λbase St0 w0=>jy htb ho ht hx hy (by simpa using h2) hd hd1 hd2 (Xe hok hd) (Qz h4) (by simpa using h3))
   ·exact h.elim
  ·rename_i hc
   have hd2:=hd4 (by simpa using hc)
   obtain⟨hg,h⟩:=h
   replace hg:=hgn hg
   unfold Yw at h
   split at h
   ·rename_i e es eb ez k n k' m ht hx hy
    obtain⟨h0,rfl,h2,h3⟩:=h
    obtain⟨n,rfl⟩:=CH h0
    exact Ei hg (λbase St0 w0=>mn htb ho ht hx hy (by simpa using h2) hd hd1 hd2 (by simpa using h3))
   ·exact h.elim
 ·rename_i d c ho
  unfold RL at h
  split at h
  ·rename_i x hcal
   have hgo:WW c=true:=by unfold WW;rw[hcal]
   split at h
   ·rename_i f hcv
    unfold JZ at h
    split at h
    ·rename_i hc
     obtain⟨d',hd',cs,h0,h1,h2,h3,h4⟩:=h
     have hd2:o.dst=some d':=hd'
     obtain⟨q1,q2,q3⟩:=gJ hok hA ho hgo hd2
     have hcc:cns.contains d'=true:=by
      have:(CG ops o).dst=some d':=hd'
      rw[this]at hc
      simpa using hc
     exact Ei (hgn h0) (λbase St0 w0=>jr hcv (by rw[ho,<-hcal]) h2 h3 hd2 q1 (q2 hcc) (Xe hok hd2) (Qz h1) h4)
    ·rename_i hc
     have hdd:∀d,o.dst=some d->d < nt∧d∉bx:=λd hd=>by
      obtain⟨q1,q2,q3⟩:=gJ hok hA ho hgo hd
      refine⟨q1,q3 ?_⟩
      have:(CG ops o).dst=some d:=hd
      rw[this]at hc
      simpa using hc
     rcases h with h|h|h
     ·exact aV hcv ho hcal rfl hdd h
     ·exact aU hcv ho hcal rfl hdd h
     ·exact Zl hcv ho hcal rfl hdd h
   ·rename_i u hcv
    exact Zm hcv ho hcal rfl (λd hd hc=>by
     obtain⟨q1,q2,q3⟩:=gJ hok hA ho hgo hd
     exact⟨q1,q3 hc⟩) h
   ·unfold YZ at h
    split at h
    ·rename_i d q b hd hg
     have hd:o.dst=some d:=hd
     obtain⟨q1,q2,q3⟩:=gJ hok hA ho hgo hd
     cases hgo':o.guard with
     |none=>simp[CG,hgo']at hg
     |some g=>
      obtain⟨j,b'⟩:=g
      simp only[CG,hgo',B8,Ap,B3]at hg
      obtain⟨hg1,hg2⟩:=hg
      subst hg2
      intro base St0 w0 a w Q hr
      rw[guard_of hr hgo' hg1 h.2.1,h.2.2.1]
      simp only[Cm,Dz]
      rw[hd]
      exact⟨_,h.2.2.2,UF hr q1 (q3 h.1)⟩
    ·exact h.elim
  ·rename_i d' x y t t' hcal hd hargs hts
   obtain⟨hd1,hd2⟩:=Q3 hok hd (by rw[ho];simp only[l8,WW,hcal])
   have key:∀{σ:PS}{base St0 w0},QN tb t t' x y d' σ K->RD P nt bx base St0 w0 o σ K:=by
    intro σ base St0 w0 h
    unfold QN at h
    split at h
    ·rename_i e es eb ez e' n cs m ds ht hx hy
     obtain⟨rfl,rfl,h1,h2,h3⟩:=h
     have hop:o.op=.call {callee:=.builtin .append,args:= #[x,y],argTypes:= #[t',t']}:=by
      rw[ho]
      have e1:c.args= #[x,y]:=by rw[<-DE (xs:=c.args),hargs]
      have e2:c.argTypes= #[t',t']:=by rw[<-DE (xs:=c.argTypes),hts]
      rw[<-hcal,<-e1,<-e2]
     rcases h3 with h3|⟨h3,h4⟩
     ·exact Xg htb hop ht hx hy h1 h2 hd hd1 hd2 h3
     ·exact u6 (Xg (K:=λσ'=>σ'=_) htb hop ht hx hy h1 h2 hd hd1 hd2 rfl) (by rw[upd_same];exact ki (rK _ h4)) (by simp) h3
    ·exact h.elim
   refine MS hd hd1 hd2 (λh base St0 w0=>?_) h
   rcases h with h|⟨_,s,u,e,n,cs,_,q1,q2,h⟩
   ·exact key h
   ·intro a w Q hr
    exact key h a w Q (rel_drop q1 q2 hr)
  ·rename_i hne _
   exact PV htb hok (by rw[ho];simp only[l8,WW]) h
 ·rename_i t x f d ho hd
  obtain⟨hd1,hd2⟩:=Q3 hok hd (by rw[ho];rfl)
  refine MS hd hd1 hd2 (λh base St0 w0=>?_) h
  unfold dC at h
  split at h
  ·rename_i off cs hf hx
   split at h
   ·rename_i c hc
    exact jw ho hf hx hc hd hd1 hd2 h
   ·exact h.elim
  ·exact h.elim
 ·rename_i f fs caps d ho hd
  obtain⟨hd1,hd2⟩:=Q3 hok hd (by rw[ho];rfl)
  refine MS hd hd1 hd2 (λh base St0 w0=>?_) h
  unfold mkF at h
  split at h
  ·rename_i us hfs hc
   exact p9 ho hfs hc hd hd1 hd2 h
  ·exact h.elim
 ·cases hd:o.dst with
  |none=>simp only[Jv,CG]at h;rw[hd]at h;exact h.elim
  |some d=>exact PV htb hok (by clear hA h;cases ho:o.op<;>first|rfl|(exfalso;simp_all;done)|(exfalso;rename_i hx _ _ _;exact hx _ _ _ _ ho hd)|(exfalso;rename_i hx _ _ _ _;exact hx _ _ _ _ ho hd)|(exfalso;rename_i hx _ _ _ _ _;exact hx _ _ _ _ ho hd)|(exfalso;rename_i hx _ _ _ _ _ _;exact hx _ _ _ _ ho hd)|(exfalso;simp_all;rename_i hx _ _;exact hx _ _ _ _ rfl rfl rfl rfl)|(exfalso;simp_all;rename_i hx _;exact hx _ _ _ _ rfl rfl rfl rfl)) h
end
end
section
def UQ(P:Program)(tb:Tb)(cns:zN):List LO->PS->(PS->Prop)->Prop
 |[],σ,K=>K σ
 |o::os,σ,K=>F0 P tb cns o σ (λσ'=>UQ P tb cns os σ' K)
theorem N3{K K':PS->Prop}(hk:∀σ,K σ->K' σ){o:LO}{d:Nat}{σ:PS}{X X':Prop}(hX:X->X')(h:OM o d σ K X):OM o d σ K' X':=by
 unfold OM at *
 split at h
 ·exact hX h
 ·exact h
 ·exact⟨h.1,λe=>hX (h.2.1 e),λe=>hk _ (h.2.2 e)⟩
theorem kG{P:Program}{tb:Tb}{cns:zN}{K K':PS->Prop}(hk:∀σ,K σ->K' σ){o:LO}{σ:PS}(h:F0 P tb cns o σ K):F0 P tb cns o σ K':=by
 have hp:∀{o:LO}{σ:PS},Jv tb o σ K->Jv tb o σ K':=by
  intro o σ h
  unfold Jv at *
  split at h
  ·exact h
  ·split at h
   ·exact⟨h.1,hk _ h.2⟩
   ·exact h
   ·exact⟨h.1,λe=>⟨(h.2.1 e).1,hk _ (h.2.1 e).2⟩,λe=>hk _ (h.2.2 e)⟩
 have hcS:∀{o:LO}{f:FuncId}{args:List Operand}{σ:PS},O5 P o f args σ K->O5 P o f args σ K':=by
  intro o f args σ h
  unfold O5 at *
  split at h
  ·exact⟨h.1,h.2.choose,h.2.choose_spec.1,hk _ h.2.choose_spec.2⟩
  ·split at h
   ·exact⟨h.1,λe=>⟨(h.2.1 e).1,(h.2.1 e).2.choose,(h.2.1 e).2.choose_spec.1,hk _ (h.2.1 e).2.choose_spec.2⟩,λe=>hk _ (h.2.2 e)⟩
   ·exact h
 have ha:∀{o:LO}{x:Operand}{d:Nat}{σ:PS},OL tb o x d σ K->OL tb o x d σ K':=by
  intro o x d σ h
  unfold OL at *
  split at h
  ·split at h
   ·exact hk _ h
   ·exact h
  ·exact hk _ h
  ·split at h
   ·exact hk _ h
   ·exact hk _ h
   ·exact hk _ h
   ·exact⟨h.1,hk _ h.2⟩
  ·exact⟨h.1,hk _ h.2⟩
 have hF:∀{o:LO}{f:FuncId}{args:List Operand}{σ:PS},JZ P cns o f args σ K->JZ P cns o f args σ K':=by
  intro o f args σ h
  unfold JZ at *
  split at h
  ·rename_i hc
   rw[Av hc]
   obtain⟨d,hd,cs,q0,q1,q2,q3,q4⟩:=h
   exact⟨d,hd,cs,q0,q1,q2,q3,hk _ q4⟩
  ·rename_i hc
   rw[At hc]
   rcases h with h|h|h
   ·exact .inl (hcS h)
   ·refine .inr (.inl ?_)
    unfold T5 at *
    split at h
    ·exact h
    ·rename_i x xs
     have key:RM P o f x xs σ K->RM P o f x xs σ K':=λ⟨s,cs,cs',r,q1,q2,q3,q4,q5,q6⟩=>⟨s,cs,cs',r,q1,q2,q3,q4,q5,hk _ q6⟩
     split at h
     ·exact⟨h.1,key h.2⟩
     ·exact N3 hk key h
   ·refine .inr (.inr ?_)
    have key:∀{d},T6 P d f args σ K->T6 P d f args σ K':=λh=>h.imp (λ⟨s,xs,cs,cs',D,q1,q2,q3,q4,q5,q6,q7,q8,q9⟩=>⟨s,xs,cs,cs',D,q1,q2,q3,q4,q5,q6,q7,q8,hk _ q9⟩)
     (Or.imp (λ⟨zs,x,xs,ys,us,os,os',r,D,q1,q2,q3,q4,q5,q6,q7,q8,q9⟩=>⟨zs,x,xs,ys,us,os,os',r,D,q1,q2,q3,q4,q5,q6,q7,q8,hk _ q9⟩)
      (λ⟨zs,x,s,n,n',e,cs,cs',r,q1,q2,q3,q4,q5,q6,q7,q8,q9⟩=>⟨zs,x,s,n,n',e,cs,cs',r,q1,q2,q3,q4,q5,q6,q7,q8,hk _ q9⟩))
    unfold UY at *
    split at h
    ·exact⟨h.1,key h.2⟩
    ·exact N3 hk key h
 have hu:∀{x:Operand}{d:Nat}{σ:PS},Wv x d σ K->Wv x d σ K':=by
  intro x d σ h
  unfold Wv at *
  split at h
  ·split at h
   ·exact⟨h.1,hk _ h.2⟩
   ·exact h
  ·exact h
 unfold F0 at *
 split at h
 ·split at h
  ·rename_i hc;rw[Av hc];exact⟨h.1,hu h.2⟩
  ·rename_i hc;rw[At hc];exact⟨h.1,ha h.2⟩
 ·split at h
  ·rename_i hc;rw[Av hc];exact⟨h.1,ha h.2⟩
  ·rename_i hc;rw[At hc];exact hp h
 ·split at h
  ·rename_i hc
   rw[Av hc]
   refine⟨h.1,?_⟩
   have h2:=h.2
   unfold Up at *
   split at h2
   ·split at h2
    ·exact⟨h2.1,hk _ h2.2⟩
    ·exact h2
   ·exact⟨h2.1,hk _ h2.2⟩
   ·obtain⟨q,g,off,e,n,m,cs,k0,hq,k1,k2,k3,k4⟩:=h2
    exact⟨q,g,off,e,n,m,cs,k0,hq,k1,k2,k3,hk _ k4⟩
   ·exact h2
  ·rename_i hc;rw[At hc];exact hp h
 ·refine⟨h.1,?_⟩
  have h2:=h.2
  unfold be at *
  split at h2
  ·split at h2
   ·exact⟨h2.1,hk _ h2.2⟩
   ·exact h2
  ·exact h2
 ·refine⟨h.1,?_⟩
  have h2:=h.2
  unfold ao at *
  split at h2
  ·split at h2
   ·exact⟨h2.1,h2.2.1,h2.2.2.1,hk _ h2.2.2.2⟩
   ·exact h2
  ·obtain⟨g,off,e,n,m,cs,D,vc,q1,q2,q3,q4,q5,q6,q7,q8,q9,q10⟩:=h2
   exact⟨g,off,e,n,m,cs,D,vc,q1,q2,q3,q4,q5,q6,q7,q8,q9,hk _ q10⟩
  ·exact h2
 ·refine⟨h.1,?_⟩
  have h2:=h.2
  unfold Tn at *
  split at h2
  ·exact⟨h2.1,hk _ h2.2⟩
  ·exact h2
 ·exact⟨h.1,h.2.1,h.2.2.1,hk _ h.2.2.2⟩
 ·refine N3 hk (λh2=>?_) h
  unfold RJ at *
  split at h2
  ·split at h2
   ·exact hk _ h2
   ·exact h2
  ·exact h2
 ·refine N3 hk (λh2=>?_) h
  unfold aS at *
  split at h2
  ·split at h2
   ·exact⟨h2.1,h2.2.1,hk _ h2.2.2⟩
   ·exact h2
  ·exact h2
 ·split at h
  ·rename_i hc
   rw[Av hc]
   refine⟨h.1,?_⟩
   have h2:=h.2
   unfold Yx at *
   split at h2
   ·exact⟨h2.1,h2.2.1,h2.2.2.1,h2.2.2.2.1,hk _ h2.2.2.2.2⟩
   ·exact h2
  ·rename_i hc
   rw[At hc]
   refine⟨h.1,?_⟩
   have h2:=h.2
   unfold Yw at *
   split at h2
   ·exact⟨h2.1,h2.2.1,h2.2.2.1,hk _ h2.2.2.2⟩
   ·exact h2
 ·unfold RL at *
  split at h
  ·split at h
   ·exact hF h
   ·have key:∀{d u args},QQ P d u args σ K->QQ P d u args σ K':=λ⟨f,us,ss,css,css',r,D,q1,q2,q3,q4,q5,q6,q7,q8,q9,q10⟩=>⟨f,us,ss,css,css',r,D,q1,q2,q3,q4,q5,q6,q7,q8,q9,hk _ q10⟩
    unfold UZ at *
    split at h
    ·exact⟨h.1,key h.2⟩
    ·exact⟨h.1,N3 hk key h.2⟩
   ·unfold YZ at *
    split at h
    ·exact⟨h.1,h.2.1,h.2.2.1,hk _ h.2.2.2⟩
    ·exact h
  ·exact N3 hk (λh2=>h2.imp (UV hk) λ⟨hg,s,u,e,n,cs,q1,q2,q3,q4⟩=>⟨hg,s,u,e,n,cs,q1,q2,q3,UV hk q4⟩) h
  ·exact hp h
 ·refine N3 hk (λh2=>?_) h
  unfold dC at *
  split at h2
  ·split at h2
   ·exact hk _ h2
   ·exact h2
  ·exact h2
 ·refine N3 hk (λh2=>?_) h
  unfold mkF at *
  split at h2
  ·exact hk _ h2
  ·exact h2
 ·exact hp h
def LH(P:Program)(nt:Nat)(bx:zN)(c:Code)(σ:PS)(Q:Exit->PS->Prop):Prop:=
 ∀base St0 w0 a w,Rel P nt bx base St0 w0 σ a w->c.wp P (λe a' w'=>∃σ',Q e σ'∧Rel P nt bx base St0 w0 σ' a' w') a w
def Sg(K:PS->Prop)(Q:Exit->PS->Prop):Exit->PS->Prop
 |.normal,σ=>K σ
 |e,σ=>Q e σ
def Tr(id:Nat)(Q:Exit->PS->Prop):Exit->PS->Prop
 |.exit id',σ=>if id'=id then Q .normal σ else Q (.exit id') σ
 |e,σ=>Q e σ
section
variable {P:Program}{nt:Nat}{bx:zN}{σ:PS}{Q:Exit->PS->Prop}{tb:Tb}
theorem U4(htb:IG P tb){cns:zN}{ops:Array Oper}{base:Bs}{St0:Nat->Nat->Prop}{w0:World}{R:Exit->Act->World->Prop}{K:PS->Prop}(hR:∀σ' a' w',K σ'->Rel P nt bx base St0 w0 σ' a' w'->R .normal a' w'):
  ∀(os:List Oper) (σ:PS) (a:Act) (w:World),os.all (R3 nt bx)=true->(os.map (CG ops)).all (okA bx cns)=true->UQ P tb cns (os.map (CG ops)) σ K->Rel P nt bx base St0 w0 σ a w->wpList P ops R os a w
 |[],σ,a,w,_,_,h,hr=>hR σ a w h hr
 |o::os,σ,a,w,hok,hA,h,hr=>by
  simp only[Bz,AC,Aa]at hok hA
  have hst:=U3 htb hok.1 hA.1 h base St0 w0 a w R hr
  unfold wpList
  split
  ·rename_i hw
   rw[Av hw]at hst
   exact .inl (Y2 (λa' w' ⟨σ',h1,h2⟩=>U4 htb hR os σ' a' w' hok.2 hA.2 h1 h2) _ hst)
  ·rename_i hw
   rw[At hw]at hst
   obtain⟨σ',h1,h2⟩:=hst
   exact U4 htb hR os σ' _ w hok.2 hA.2 h1 h2
theorem Zs(htb:IG P tb)(cns:zN){id:Nat}{ops:Array Oper}(hok:ops.toList.all (R3 nt bx)=true)(hA:(ops.toList.map (CG ops)).all (okA bx cns)=true)(h:UQ P tb cns (ops.toList.map (CG ops)) σ (Q .normal)):LH P nt bx (.region id ops false) σ Q:=
 λbase St0 w0 a w hr=>wp_region_list (U4 htb (λσ' a' w' h1 h2=>⟨σ',h1,h2⟩) ops.toList σ a w hok hA h hr)
theorem dq{c:Code}{Q':Exit->PS->Prop}(h:LH P nt bx c σ Q)(hq:∀e σ,Q e σ->Q' e σ):LH P nt bx c σ Q':=
 λbase St0 w0 a w hr=>Fy (h base St0 w0 a w hr) (λe a w ⟨σ',h1,h2⟩=>⟨σ',hq e σ' h1,h2⟩)
theorem iZ{x y:Code}(h:LH P nt bx x σ (Sg (λσ'=>LH P nt bx y σ' Q) Q)):LH P nt bx (.seq x y) σ Q:=by
 intro base St0 w0 a w hr
 refine wp_seq (Fy (h base St0 w0 a w hr) ?_)
 rintro(_|id|l|_|c|_) a' w' ⟨σ',h1,h2⟩
 ·exact h1 base St0 w0 a' w' h2
 all_goals exact⟨σ',h1,h2⟩
theorem dr(h:Q .normal σ):LH P nt bx .skip σ Q:=λbase St0 w0 a w hr=>wp_skip ⟨σ,h,hr⟩
theorem dp{id:Nat}(h:Q (.exit id) σ):LH P nt bx (.exit id) σ Q:=λbase St0 w0 a w hr=>wp_exit ⟨σ,h,hr⟩
theorem iY(h:Q .ret σ):LH P nt bx .ret σ Q:=λbase St0 w0 a w hr=>wp_ret ⟨σ,h,hr⟩
theorem a6{id:Nat}{c:Code}(h:LH P nt bx c σ (Tr id Q)):LH P nt bx (.block id c) σ Q:=by
 intro base St0 w0 a w hr
 refine wp_block (Fy (h base St0 w0 a w hr) ?_)
 rintro(_|id'|l|_|c|_) a' w' ⟨σ',h1,h2⟩
 ·exact⟨σ',h1,h2⟩
 ·simp only[Tr]at h1
  simp only[Exit.inBlock]
  split at h1
  ·rename_i e;rw[Av e];exact⟨σ',h1,h2⟩
  ·rename_i e;rw[At e];exact⟨σ',h1,h2⟩
 all_goals exact⟨σ',h1,h2⟩
theorem dm{c:Operand}{x y:Code}{b:Bool}(hc:Co σ c=.bool b)(ht:b=true->LH P nt bx x σ Q)(hf:b=false->LH P nt bx y σ Q):LH P nt bx (.cond c x y) σ Q:=by
 intro base St0 w0 a w hr
 have he:a.eval c=.bool b:=by
  obtain⟨St,B,h,_⟩:=hr
  obtain⟨q,hs⟩:=Ld h c
  rw[hc]at hs
  exact NM hs
 exact wp_cond_split he (λe=>ht e base St0 w0 a w hr) (λe=>hf e base St0 w0 a w hr)
end
section
variable {P:Program}{nt:Nat}{bx:zN}{σ:PS}{Q:Exit->PS->Prop}{tb:Tb}
end
inductive LC where
 |skip
 |rgn (cns:zN) (ops:List LO)
 |drw (cns:zN) (fps:List (zN×zN)) (es:List zN) (ops:List LO)
 |seq (a b:LC)
 |cond (c:Operand) (a b:LC)
 |blk (id:Nat) (a:LC)
 |loop (D:zN) (a:LC)
 |exit (id:Nat)
 |ret
 |bad
def SW(o:Oper):zN:=(o.after.toList.filter (Region.binds .any)).map (·.on)
def IE:Code->LC
 |.skip=>.skip
 |.region _ ops d=>if d then .drw [] [] (ops.toList.map SW) (ops.toList.map (CG ops))else .rgn [] (ops.toList.map (CG ops))
 |.seq a b=>.seq (IE a) (IE b)
 |.cond c a b=>.cond c (IE a) (IE b)
 |.block id a=>.blk id (IE a)
 |.loop a=>.loop [] (IE a)
 |.exit id=>.exit id
 |.ret=>.ret
 |_=>.bad
def UP:LC->LC
 |.skip=>.skip
 |.rgn _ ops=>.rgn [] ops
 |.drw _ _ es ops=>.drw [] [] es ops
 |.seq a b=>.seq (UP a) (UP b)
 |.cond c a b=>.cond c (UP a) (UP b)
 |.blk id a=>.blk id (UP a)
 |.loop _ a=>.loop [] (UP a)
 |.exit id=>.exit id
 |.ret=>.ret
 |.bad=>.bad
def okC(nt:Nat)(bx:zN):Code->Bool
 |.region _ ops _=>ops.toList.all (R3 nt bx)
 |.seq a b=>okC nt bx a&&okC nt bx b
 |.cond _ a b=>okC nt bx a&&okC nt bx b
 |.block _ a=>okC nt bx a
 |.loop a=>okC nt bx a
 |_=>true
def okL(bx:zN):LC->Bool
 |.rgn cns ops=>ops.all (okA bx cns)
 |.drw cns _ _ ops=>ops.all (okA bx cns)
 |.seq a b=>okL bx a&&okL bx b
 |.cond _ a b=>okL bx a&&okL bx b
 |.blk _ a=>okL bx a
 |.loop _ a=>okL bx a
 |_=>true
def LS(P:Program)(nt:Nat)(bx:zN)(l:LC)(σ:PS)(Q:Exit->PS->Prop):Prop:=∀c,IE c=UP l->okC nt bx c=true->okL bx l=true->LH P nt bx c σ Q
section
variable {P:Program}{nt:Nat}{bx:zN}{σ:PS}{Q:Exit->PS->Prop}{tb:Tb}
theorem lX(htb:IG P tb){cns:zN}{ops:List LO}(h:UQ P tb cns ops σ (Q .normal)):LS P nt bx (.rgn cns ops) σ Q:=by
 intro c hc hok hL
 cases c<;>first|cases hc|skip
 rename_i id ops' d
 simp only[IE,UP]at hc
 split at hc
 ·cases hc
 ·rename_i hd
  simp only[LC.rgn.injEq,true_and]at hc
  have:d=false:=by simpa using hd
  subst this
  exact Zs htb cns hok (by rw[hc];exact hL) (by rw[hc];exact h)
theorem ZR{x y:LC}(h:LS P nt bx x σ (Sg (λσ'=>LS P nt bx y σ' Q) Q)):LS P nt bx (.seq x y) σ Q:=by
 intro c hc hok hL
 cases c<;>first|cases hc|skip
 ·simp only[IE,UP]at hc;split at hc<;>cases hc
 ·rename_i a b
  simp only[IE,UP,LC.seq.injEq]at hc
  simp only[okC,Aa]at hok
  simp only[okL,Aa]at hL
  refine iZ (dq (h a hc.1 hok.1 hL.1) ?_)
  rintro(_|id|l|_|c|_) σ' hq
  ·exact hq b hc.2 hok.2 hL.2
  all_goals exact hq
theorem As{x y:LC}(h:∀K:PS->Prop,(∀σ',LS P nt bx y σ' Q->K σ')->LS P nt bx x σ (Sg K Q)):LS P nt bx (.seq x y) σ Q:=ZR (h _ λ_ h=>h)
theorem DZ(h:Q .normal σ):LS P nt bx .skip σ Q:=by
 intro c hc hok hL
 cases c<;>first|cases hc|skip
 ·exact dr h
 ·simp only[IE,UP]at hc;split at hc<;>cases hc
theorem AI{id:Nat}(h:Q (.exit id) σ):LS P nt bx (.exit id) σ Q:=by
 intro c hc hok hL
 cases c<;>first|(cases hc;done)|skip
 ·simp only[IE,UP]at hc;split at hc<;>cases hc
 ·simp only[IE,UP,LC.exit.injEq]at hc;subst hc;exact dp h
theorem Am(h:Q .ret σ):LS P nt bx .ret σ Q:=by
 intro c hc hok hL
 cases c<;>first|(cases hc;done)|skip
 ·simp only[IE,UP]at hc;split at hc<;>cases hc
 ·exact iY h
theorem A8{id:Nat}{x:LC}(h:LS P nt bx x σ (Tr id Q)):LS P nt bx (.blk id x) σ Q:=by
 intro c hc hok hL
 cases c<;>first|(cases hc;done)|skip
 ·simp only[IE,UP]at hc;split at hc<;>cases hc
 ·simp only[IE,UP,LC.blk.injEq]at hc;obtain⟨rfl,hc⟩:=hc;exact a6 (h _ hc hok hL)
theorem gv{c:Operand}{x y:LC}{b:Bool}(hb:Co σ c=.bool b)(ht:b=true->LS P nt bx x σ Q)(hf:b=false->LS P nt bx y σ Q):LS P nt bx (.cond c x y) σ Q:=by
 intro c hc hok hL
 cases c<;>first|(cases hc;done)|skip
 ·simp only[IE,UP]at hc;split at hc<;>cases hc
 ·simp only[IE,UP,LC.cond.injEq]at hc
  obtain⟨rfl,h1,h2⟩:=hc
  simp only[okC,Aa]at hok
  simp only[okL,Aa]at hL
  exact dm hb (λe=>ht e _ h1 hok.1 hL.1) (λe=>hf e _ h2 hok.2 hL.2)
end
section
variable {P:Program}{nt:Nat}{bx:zN}{σ:PS}{Q:Exit->PS->Prop}{tb:Tb}
end
def JL:ResultVar->Nat
 |.tmp t=>t
 |.cell t _=>t
def resV(tb:Tb)(σ:PS):ResultVar->Option V
 |.tmp t=>if(σ t).isArg=true then some (σ t)else none
 |.cell t ty=>match σ t,tb ty with
  |.box cs,some (.st n _ _)=>if cs.length=n then some (.agg cs)else none
  |.box [c],some (.sc _)=>some c
  |.box [c],some (.sl ..)=>some c
  |_,_=>none
def jF(tb:Tb)(σ:PS):List ResultVar->Option (List V)
 |[]=>some []
 |r::rs=>match resV tb σ r,jF tb σ rs with
  |some c,some cs=>some (c::cs)
  |_,_=>none
def Vt(tb:Tb)(σ:PS)(rs:List ResultVar):Option V:=
 match jF tb σ rs with
 |some [c]=>some c
 |some cs=>some (.tup cs)
 |none=>none
section
variable {P:Program}{nt:Nat}{base:Bs}{bx:zN}{St:Nat->Nat->Prop}{B:Nat->zN}{σ:PS}{a:Act}{w:World}{tb:Tb}
def Pn(tmps:Array Value):ResultVar->Sem Value
 |.tmp t=>pure (tmps.getD t undef)
 |.cell a t=>do loadVar t (<-asAddr (tmps.getD a undef))
theorem res_one(htb:IG P tb)(h:HSim P nt bx base St B [] σ a w){r:ResultVar}{c:V}(hc:resV tb σ r=some c):
  ∃v bs,(Pn a.tmps r).run P w=.ok v w∧Ow P w St c v bs∧bs.Nodup∧(∀g∈bs,g∈B (JL r))∧c.isArg=true:=by
 cases r with
 |tmp t=>
  simp only[resV]at hc
  split at hc
  ·rename_i hv
   simp only[Ap]at hc
   subst hc
   exact⟨_,B t,rfl,(h.slot t).ow (JU hv),h.nodup t,λ_ h=>h,hv⟩
  ·cases hc
 |cell t ty=>
  have hs:=h.slot t
  have hnd:=h.nodup t
  cases hb:σ t with
  |box cs=>
   rw[hb]at hs
   obtain⟨g,T,bs',arr,e1,e2,e3,e4,e5⟩:=hs
   rw[e4]at hnd
   have hnd':=(Bw.1 hnd).2
   have hsub:∀q∈bs',q∈B t:=λq hq=>by rw[e4];exact AE _ hq
   have e1':a.tmps.getD t undef=.pointer (some ⟨g,0,none⟩):=e1
   have hcell:∀(j:Nat) (u:Value),arr.toList[j]? =some u->w.cell? ⟨g,0+j,none⟩=some u:=by
    intro j u hu
    simpa[World.cell?,e2]using hu
   have hone:∀(c0:V) (dd:TyD),cs=[c0]->tb ty=some dd->dd.UU=false->∃v bs,(Pn a.tmps (.cell t ty)).run P w=.ok v w∧Ow P w St c0 v bs∧bs.Nodup∧(∀g∈bs,g∈B t)∧c0.isArg=true:=by
    intro c0 dd hcs hty hag
    subst hcs
    obtain⟨u,us',b1,b2,q1,q2,q3,q4,q5⟩:=e3
    obtain⟨rfl,rfl⟩:=q5
    have hu:=hcell 0 u (by rw[q1];rfl)
    rw[AY]at q2
    subst q2
    refine⟨u,bs',?_,q4,hnd',hsub,by cases c0<;>first|rfl|cases q3⟩
    simp only[Dt]at hu
    simp[Pn,e1',asAddr,loadVar,(htb _ _ hty).isAgg,hag,hu]
   cases hty:tb ty with
   |none=>simp only[resV,hb,hty]at hc;cases cs with
    |nil=>cases hc
    |cons x xs=>cases xs<;>cases hc
   |some d=>
    cases d with
    |st n z f=>
     simp only[resV,hb,hty]at hc
     split at hc
     ·rename_i hl
      simp only[Ap]at hc
      subst hc
      refine⟨.agg arr,bs',?_,⟨arr.toList,by simp,e3⟩,hnd',hsub,rfl⟩
      have hagr:=htb _ _ hty
      have hr:=GB (P:=P) (w:=w) ⟨g,0,none⟩ arr.toList (λj v hv=>by rw[add_plain];exact hcell j v hv)
      have hlen:arr.toList.length=n:=by rw[e3.length,hl]
      rw[hlen]at hr
      simp only[Pn,e1',asAddr,loadVar,A6,BA,AM,hagr.isAgg,TyD.UU,ER,hagr.sizeOf,TyD.size,hr,DE]
     ·cases hc
    |sc z=>
     match cs,hb,hc with
     |[c0],hb,hc=>
      simp only[resV,hb,hty,Ap]at hc
      subst hc
      exact hone c0 _ rfl hty rfl
     |[],hb,hc=>simp only[resV,hb,hty]at hc;cases hc
     |_::_::_,hb,hc=>simp only[resV,hb,hty]at hc;cases hc
    |sl e es eb ez=>
     match cs,hb,hc with
     |[c0],hb,hc=>
      simp only[resV,hb,hty,Ap]at hc
      subst hc
      exact hone c0 _ rfl hty rfl
     |[],hb,hc=>simp only[resV,hb,hty]at hc;cases hc
     |_::_::_,hb,hc=>simp only[resV,hb,hty]at hc;cases hc
  |_=>simp only[resV,hb]at hc;cases hc
theorem Xr(htb:IG P tb)(h:HSim P nt bx base St B [] σ a w):∀(rs:List ResultVar) (cs:List V),(rs.map JL).Nodup->jF tb σ rs=some cs->
  ∃us bs,(rs.mapM (Pn a.tmps)).run P w=.ok us w∧Js P w St cs us bs∧bs.Nodup∧(∀g∈bs,∃r∈rs,g∈B (JL r))∧us.length=cs.length∧(∀c,cs=[c]->∃u,us=[u]∧Ow P w St c u bs)
 |[],cs,_,e=>by
  simp only[jF,Ap]at e
  subst e
  exact⟨[],[],rfl,⟨rfl,rfl⟩,AG,by simp,rfl,by simp⟩
 |r::rs,cs,hn,e=>by
  simp only[jF]at e
  split at e
  ·rename_i c cs' hc hcs
   simp only[Ap]at e
   subst e
   simp only[AC,Bw]at hn
   obtain⟨v,b1,r1,o1,n1,s1,_⟩:=res_one htb h hc
   obtain⟨us,b2,r2,o2,n2,s2,l2,l3⟩:=Xr htb h rs cs' hn.2 hcs
   refine⟨v::us,b1++b2,?_,⟨v,us,b1,b2,rfl,rfl,o1,o2⟩,?_,?_,by simp[l2],?_⟩
   ·simp only[List.mapM_cons,A6,r1,AM,r2,BA]
   ·refine Aq.2 ⟨n1,n2,λx hx y hy exy=>?_⟩
    subst exy
    obtain⟨r',hr',hx'⟩:=s2 x hy
    have hne:JL r≠JL r':=λe=>hn.1 (e ▸ CE hr')
    exact h.apart _ _ hne x (s1 x hx) hx'
   ·intro g hg
    rcases Al.1 hg with hg|hg
    ·exact⟨r,by simp,s1 g hg⟩
    ·obtain⟨r',h1,h2⟩:=s2 g hg;exact⟨r',by simp[h1],h2⟩
   ·intro c0 hc0
    simp only[C2]at hc0
    obtain⟨rfl,rfl⟩:=hc0
    obtain⟨rfl,rfl⟩:=o2
    exact⟨v,rfl,by rw[AY];exact o1⟩
  ·cases e
theorem UG(htb:IG P tb)(h:HSim P nt bx base St B [] σ a w){fn:Func}(hn:(fn.results.toList.map JL).Nodup){c:V}(hc:Vt tb σ fn.results.toList=some c):
  ∃v bs,(results fn a.tmps).run P w=.ok v w∧Ow P w St c v bs∧bs.Nodup∧∀g∈bs,∃r∈fn.results.toList,g∈B (JL r):=by
 unfold Vt at hc
 have hrun:∀us,(fn.results.toList.mapM (Pn a.tmps)).run P w=.ok us w->(results fn a.tmps).run P w=.ok (if h:us.toArray.size=1 then us.toArray[0]else .tuple us.toArray) w:=by
  intro us hr
  have h0:(fn.results.mapM (Pn a.tmps):Sem (Array Value)).run P w=.ok us.toArray w:=by
   rw[G3,Sem.run_map,hr];rfl
  have e2:results fn a.tmps=(do let vs <-fn.results.mapM (Pn a.tmps);pure (if h:vs.size=1 then vs[0]else .tuple vs):Sem Value):=by
   unfold results
   congr 1
  rw[e2]
  simp only[A6,h0,AM,BA]
 split at hc
 ·rename_i c0 hl
  simp only[Ap]at hc
  subst hc
  obtain⟨us,bs,r1,_,n1,s1,_,l3⟩:=Xr htb h _ _ hn hl
  obtain⟨u,rfl,o1⟩:=l3 _ rfl
  exact⟨u,bs,by rw[hrun _ r1];rfl,o1,n1,s1⟩
 ·rename_i cs hne hl
  simp only[Ap]at hc
  subst hc
  obtain⟨us,bs,r1,o1,n1,s1,l2,_⟩:=Xr htb h _ _ hn hl
  have hlen:us.toArray.size≠1:=by
   intro e
   simp only[IP]at e
   rw[l2]at e
   obtain⟨c,hc⟩:=List.length_eq_one_iff.1 e
   exact hne c hc
  exact⟨.tuple us.toArray,bs,by rw[hrun _ r1,dif_neg hlen],⟨us,rfl,o1⟩,n1,s1⟩
 ·cases hc
theorem hH(htb:IG P tb)(h:HSim P nt bx base St B [] σ a w){fn:Func}(hn:(fn.results.toList.map JL).Nodup){c:V}(hc:Vt tb σ fn.results.toList=some c):
  ∃v bs,(results fn a.tmps).run P w=.ok v w∧Ow P w St c v bs∧bs.Nodup∧∀g∈bs,¬base g∧g < w.heap.size:=by
 obtain⟨v,bs,h1,h2,h3,h4⟩:=UG htb h hn hc
 exact⟨v,bs,h1,h2,h3,λg hg=>by obtain⟨r,_,h5⟩:=h4 g hg;exact h.range _ g h5⟩
theorem cu{c:V}{v:Value}(hp:HV c=true)(h:Rd w St c v):Ow P w St c v []:=by
 cases c<;>first|exact⟨rfl,h⟩|cases hp
theorem YO:∀(cs:List V) {us:List Value},cs.all HV=true->Oo w St cs us->A7 P w St cs us []
 |[],_,_,h=>⟨h,rfl⟩
 |c::cs,_,hp,⟨u,us',e,h1,h2⟩=>by
  simp only[Bz,Aa]at hp
  exact⟨u,us',[],[],e,rfl,h1.Ds,cu hp.1 h1,YO cs hp.2 h2⟩
theorem SE{c:V}{v:Value}(hp:L6 c=true)(h:Y6 w St c v):Ow P w St c v []:=by
 cases c<;>first|exact cu hp h|cases hp|skip
 obtain⟨us,e,h⟩:=h
 exact⟨us,e,YO _ hp h⟩
def Fc(args:List V):PS:=λs=>(args[s]?).getD (.tup [])
theorem args_at:∀{args:List V}{vs:List Value},NC w St args vs->vs.length=args.length∧∀(s:Nat) (c:V),args[s]? =some c->∃v,vs[s]? =some v∧Y6 w St c v
 |[],_,h=>by rw[show _=[]from h];exact⟨rfl,by simp⟩
 |c::args,_,⟨u,us',e,h1,h2⟩=>by
  obtain⟨l,hr⟩:=args_at h2
  refine⟨by rw[e];simp[l],λs d hd=>?_⟩
  cases s with
  |zero=>simp only[B6,Ap]at hd;subst hd;exact⟨u,by rw[e];rfl,h1⟩
  |succ s=>rw[e];simpa using hr s d (by simpa using hd)
theorem Vs{nt:Nat}{bx:zN}{args:List V}{vs:List Value}(hst:∀b o,St b o->b < w.heap.size)(hgl:Glb w St)(hvs:NC w St args vs)(hlen:args.length<=nt)(hargs:args.all L6=true):Rel P nt bx ⟨λb=>b < w.heap.size,[]⟩ St w (Fc args) {tmps:=vs.toArray++Array.replicate (nt - vs.toArray.size) undef,defers:=[]} w:=by
 obtain⟨hl,hat⟩:=args_at hvs
 have htm:∀s,tm {tmps:=vs.toArray++Array.replicate (nt - vs.toArray.size) undef,defers:=[]} s=(vs[s]?).getD undef:=by
  intro s
  unfold tm
  rw[C5,Array.getElem?_append]
  split
  ·simp
  ·rename_i hlt
   rw[IP]at hlt
   rw[A2 (by omega)]
   rw[DW]
   split<;>rfl
 refine⟨St,λ_=>[],?_,BelowK.refl _ _,λ_ _ _=>Dx,λ_ h=>h⟩
 refine
 {size:=by simp;omega
  defers:=rfl
  slot:=λs=>?_
  boxes:=λs cs e=>?_
  crefs:=λs b e=>?_
  nodup:=λ_=>AG
  apart:=λ_ _ _ g hg=>by simp at hg
  hnodup:=AG
  hapart:=λ_ g hg=>by simp at hg
  range:=λ_ g hg=>by simp at hg
  hrange:=λg hg=>by simp at hg
  st:=hst
  gl:=hgl
  pin:=λv e=>by cases e}
 ·rw[htm]
  cases hc:args[s]? with
  |none=>
   have:vs[s]? =none:=by
    rw[Fs]at hc⊢;omega
   simp only[Fc,hc,this,MK]
   exact⟨[],rfl,rfl,rfl⟩
  |some c=>
   obtain⟨v,hv,hr⟩:=hat s c hc
   simp only[Fc,hc,hv,Cy]
   exact(SE (Ah.1 hargs c (BU hc)) hr).slot
 ·simp only[Fc]at e
  cases hc:args[s]? with
  |none=>rw[hc]at e;cases e
  |some c=>
   rw[hc]at e
   have hp:=Ah.1 hargs c (BU hc)
   simp only[Cy]at e
   cases c<;>first|(cases hp;done)|(cases e;done)
 ·simp only[Fc]at e
  cases hc:args[s]? with
  |none=>rw[hc]at e;cases e
  |some c=>
   rw[hc]at e
   have hp:=Ah.1 hargs c (BU hc)
   simp only[Cy]at e
   cases c<;>first|(cases hp;done)|(cases e;done)
theorem ny(htb:IG P tb){f:FuncId}{fn:Func}{c:Code}{args:List V}{r:V}(hf:P.funcs[f]? =some fn)(hb:fn.body=some c)(hname:(fn.name== "runtime.NumGoroutine")=false)(bx:zN)(hlen:args.length<=fn.ntmps)(hargs:args.all L6=true)
  (hn:(fn.results.toList.map JL).Nodup) (h:LH P fn.ntmps bx c (Fc args) (λe σ=>(e=.ret∨e=.normal)∧Vt tb σ fn.results.toList=some r)):Ks P f args r:=by
 refine⟨⟨fn,hf,by rw[hb];rfl,hname⟩,λw St vs hst hgl hvs=>?_⟩
 obtain⟨hl,hat⟩:=args_at hvs
 refine Hh hf hb ?_
 have hrel:=Vs (P:=P) (bx:=bx) hst hgl hvs hlen hargs
 refine Fy (h _ _ _ _ _ hrel) ?_
 rintro e a' w' ⟨σ',⟨he,hres⟩,St',B',h1,h2,h3,h4⟩
 have hfin:a'.defers=[]∧∃v,(results fn a'.tmps).run P w'=.ok v w'∧Ret P w St r (.returned v) w':=by
  obtain⟨v,bs,q1,q2,q3,q4⟩:=hH htb h1 hn hres
  exact⟨h1.defers,v,q1,v,bs,St',rfl,⟨h2.os,h2.tape,h2.output,h2.size,h2.block⟩,h3,h1.st,q2,q3,λg hg=>⟨JJ (q4 g hg).1,(q4 g hg).2⟩⟩
 rcases he with rfl|rfl
 ·exact hfin
 ·exact hfin
theorem Rl{vs:List Value}{nt:Nat}(s:Nat):tm {tmps:=vs.toArray++Array.replicate (nt - vs.toArray.size) undef,defers:=[]} s=(vs[s]?).getD undef:=by
 unfold tm
 rw[C5,Array.getElem?_append]
 split
 ·simp
 ·rename_i hlt
  rw[IP]at hlt
  rw[A2 (by omega)]
  rw[DW]
  split<;>rfl
theorem vd(htb:IG P tb){f:FuncId}{fn:Func}{c:Code}{cs args cs':List V}{r:V}(hf:P.funcs[f]? =some fn)(hb:fn.body=some c)(hname:(fn.name== "runtime.NumGoroutine")=false)(bx:zN)(hlen:args.length+1<=fn.ntmps)(h0:0∈bx)(hk0:N9∈bx)(hargs:args.all L6=true)
  (hn:(fn.results.toList.map JL).Nodup) (h0r:0∉fn.results.toList.map JL) (hcs':cs'.all HV=true) (h:LH P fn.ntmps bx c (Fc (.box cs::args)) (λe σ=>(e=.ret∨e=.normal)∧Vt tb σ fn.results.toList=some r∧σ 0=.box cs')):O1 P f cs args cs' r:=by
 refine⟨⟨fn,hf,by rw[hb];rfl,hname⟩,λw St g T arr vs hst hgl hg hcs hng hvs=>?_⟩
 obtain⟨hl,hat⟩:=args_at hvs
 refine Hh hf hb ?_
 have hgs:g < w.heap.size:=by
  rcases A9 g w.heap.size with h|h
  ·exact h
  ·rw[EU h]at hg;cases hg
 have hrel:Rel P fn.ntmps bx ⟨λb=>b < w.heap.size∧b≠g,[(0,.pointer (some ⟨g,0,none⟩))]⟩ St w (Fc (.box cs::args)) {tmps:=(Value.pointer (some ⟨g,0,none⟩)::vs).toArray++Array.replicate (fn.ntmps - (Value.pointer (some ⟨g,0,none⟩)::vs).toArray.size) undef,defers:=[]} w:=by
  refine⟨St,λs=>if s=0 then [g]else [],?_,BelowK.refl _ _,λ_ _ _=>Dx,λ_ h=>h.1⟩
  refine
  {size:=by simp;omega
   defers:=rfl
   slot:=λs=>?_
   boxes:=λs cs e=>?_
   crefs:=λs b e=>?_
   nodup:=λs=>by split<;>simp
   apart:=λs t hst k hk hk'=>by
    split at hk
    ·split at hk'
     ·omega
     ·simp at hk'
    ·simp at hk
   hnodup:=AG
   hapart:=λ_ k hk=>by simp
   range:=λs k hk=>by
    split at hk
    ·simp only[AP]at hk;subst hk;exact⟨λh=>h.2 rfl,hgs⟩
    ·simp at hk
   hrange:=λk hk=>by simp at hk
   st:=hst
   gl:=hgl
   pin:=λv e=>by
    rw[AP]at e
    subst e
    rw[Rl]
    exact⟨rfl,h0,hk0⟩}
  ·rw[Rl]
   cases s with
   |zero=>exact⟨g,T,[],arr,rfl,hg,hcs,rfl,hng⟩
   |succ s=>
    rw[At (by omega)]
    cases hc:args[s]? with
    |none=>
     have:vs[s]? =none:=by
      rw[Fs]at hc⊢;omega
     simp only[Fc,Ct,hc,this,MK]
     exact⟨[],rfl,rfl,rfl⟩
    |some c=>
     obtain⟨v,hv,hr⟩:=hat s c hc
     simp only[Fc,Ct,hc,hv,Cy]
     exact(SE (Ah.1 hargs c (BU hc)) hr).slot
  ·cases s with
   |zero=>exact h0
   |succ s=>
    simp only[Fc,Ct]at e
    cases hc:args[s]? with
    |none=>rw[hc]at e;cases e
    |some c=>
     rw[hc]at e
     have hp:=Ah.1 hargs c (BU hc)
     simp only[Cy]at e
     cases c<;>first|(cases hp;done)|(cases e;done)
  ·cases s with
   |zero=>cases e
   |succ s=>
    simp only[Fc,Ct]at e
    cases hc:args[s]? with
    |none=>rw[hc]at e;cases e
    |some c=>
     rw[hc]at e
     have hp:=Ah.1 hargs c (BU hc)
     simp only[Cy]at e
     cases c<;>first|(cases hp;done)|(cases e;done)
 refine Fy (h _ _ _ _ _ hrel) ?_
 rintro e a' w' ⟨σ',⟨he,hres,hbox⟩,St',B',h1,h2,h3,h4⟩
 have hfin:a'.defers=[]∧∃v,(results fn a'.tmps).run P w'=.ok v w'∧wc P w St g cs' r (.returned v) w':=by
  obtain⟨v,bs,q1,q2,q3,q4⟩:=UG htb h1 hn hres
  have hs0:=h1.slot 0
  rw[hbox]at hs0
  obtain⟨g',T',bs',arr',e1,e2,e3,e4,e5⟩:=hs0
  have hnil:=SF hcs' e3
  subst hnil
  have hgg:g'=g:=by
   have:=(h1.pin _ (AP.2 rfl)).1
   rw[e1]at this
   injection this with this
   injection this with this
   injection this
  subst hgg
  refine⟨h1.defers,v,q1,v,bs,St',T',arr',rfl,h2,?_,h1.st,e2,e3,q2,q3,λk hk=>?_⟩
  ·intro b o hb
   by_cases e:b=g'
   ·subst e;exact⟨λhh=>absurd hh (e5 o),λhh=>absurd hh (hng o)⟩
   ·exact h3 b o ⟨hb,e⟩
  ·obtain⟨rv,hrv,hkb⟩:=q4 k hk
   have hne:JL rv≠0:=λe=>h0r (e ▸ CE hrv)
   have hr1:=h1.range _ k hkb
   have hkg:k≠g':=λe=>h1.apart _ 0 hne k hkb (by rw[e4,e];simp)
   exact⟨Cp λhlt=>hr1.1 ⟨by omega,hkg⟩,hr1.2⟩
 rcases he with rfl|rfl
 ·exact hfin
 ·exact hfin
def mS(tb:Tb)(rs:List ResultVar)(r:V)(e:Exit)(σ:PS):Prop:=(e=.ret∨e=.normal)∧Vt tb σ rs=some r
structure Lit (P:Program) (f:FuncId) (nt:Nat) (bx:zN) (rs:List ResultVar) (l:LC):Prop where
 ex:∃fn c,P.funcs[f]? =some fn∧fn.body=some c∧(fn.name== "runtime.NumGoroutine")=false∧fn.ntmps=nt∧fn.results.toList=rs∧IE c=UP l∧okC nt bx c=true
 nd:(rs.map JL).Nodup
 ok:okL bx l=true
def zF(tb:Tb)(rs:List ResultVar)(r:V)(cs':List V)(e:Exit)(σ:PS):Prop:=(e=.ret∨e=.normal)∧Vt tb σ rs=some r∧σ 0=.box cs'
theorem qp(htb:IG P tb){f:FuncId}{nt:Nat}{bx:zN}{rs:List ResultVar}{l:LC}{cs args cs':List V}{r:V}(hl:Lit P f nt bx rs l)(hlen:args.length+1<=nt)(hb:(bx.contains 0&&bx.contains N9)=true)(hargs:args.all L6=true)(h0r:(rs.map JL).contains 0=false)(hcs':cs'.all HV=true)
  (h:LS P nt bx l (Fc (.box cs::args)) (zF tb rs r cs')):O1 P f cs args cs' r:=by
 obtain⟨⟨fn,c,h1,h2,h3,rfl,rfl,h6,h7⟩,hn,hL⟩:=hl
 simp only[Aa,AS]at hb
 exact vd htb h1 h2 h3 bx hlen hb.1 hb.2 hargs hn (by simpa using h0r) hcs' (h c h6 h7 hL)
def zE(t:Nat)(cs:List V)(e:Exit)(σ:PS):Prop:=(e=.ret∨e=.normal)∧∃b,σ t=.cref b 0∧σ b=.box cs
theorem pW{f:FuncId}{nt:Nat}{bx:zN}{l:LC}{args cs:List V}{t:Nat}(hl:Lit P f nt bx [.tmp t] l)(hlen:args.length<=nt)(hargs:args.all L6=true)(hcs:cs.all HV=true)
  (h:LS P nt bx l (Fc args) (zE t cs)):NewAt P f args cs:=by
 obtain⟨⟨fn,c,h1,h2,h3,rfl,hrs,h6,h7⟩,hn,hL⟩:=hl
 refine⟨⟨fn,h1,by rw[h2];rfl,h3⟩,λw St vs hst hgl hvs=>?_⟩
 refine Hh h1 h2 ?_
 refine Fy (h c h6 h7 hL _ _ _ _ _ (Vs hst hgl hvs hlen hargs)) ?_
 rintro e a' w' ⟨σ',⟨he,hbox⟩,St',B',q1,q2,q3,q4⟩
 obtain⟨b,ht,hbox⟩:=hbox
 have hs0:=q1.slot b
 rw[hbox]at hs0
 obtain⟨g,T,bs',arr,e0,e2,e3,e4,e5⟩:=hs0
 have e1:tm a' t=.pointer (some ⟨g,0,none⟩):=by
  have hs1:=q1.slot t
  rw[ht]at hs1
  obtain⟨_,g',k1,k2⟩:=hs1
  rw[e0]at k1
  simp only[T3,Ap]at k1
  rw[k2,k1]
 have hnil:=SF hcs e3
 subst hnil
 have hr:=q1.range b g (by rw[e4];simp)
 have hfin:a'.defers=[]∧∃v,(results fn a'.tmps).run P w'=.ok v w'∧(∃g T St',∃arr:Array Value,Ending.returned v=.returned (.pointer (some ⟨g,0,none⟩))∧Below w.heap.size w w'∧(∀b o,b < w.heap.size->(St' b o↔St b o))∧(∀b o,St' b o->b < w'.heap.size)∧
   w'.heap[g]? =some (.cells arr T (0,0))∧A7 P w' St' cs arr.toList []∧(∀o,¬St' g o)∧w.heap.size<=g∧g < w'.heap.size):=by
  refine⟨q1.defers,.pointer (some ⟨g,0,none⟩),?_,g,T,St',arr,rfl,⟨q2.os,q2.tape,q2.output,q2.size,q2.block⟩,q3,q1.st,e2,e3,e5,JJ hr.1,hr.2⟩
  have hr0:(fn.results.mapM (Pn a'.tmps):Sem (Array Value)).run P w'=.ok #[.pointer (some ⟨g,0,none⟩)] w':=by
   rw[G3,Sem.run_map,hrs]
   have:a'.tmps.getD t undef=.pointer (some ⟨g,0,none⟩):=e1
   simp[Pn,this]
  have e2':results fn a'.tmps=(do let vs <-fn.results.mapM (Pn a'.tmps);pure (if h:vs.size=1 then vs[0]else .tuple vs):Sem Value):=by
   unfold results
   congr 1
  rw[e2']
  simp only[A6,hr0,AM,BA]
  rfl
 rcases he with rfl|rfl
 ·exact hfin
 ·exact hfin
theorem jL(htb:IG P tb){f:FuncId}{nt:Nat}{bx:zN}{rs:List ResultVar}{l:LC}{args:List V}{r:V}(hl:Lit P f nt bx rs l)(hlen:args.length<=nt)(hargs:args.all L6=true)
  (h:LS P nt bx l (Fc args) (mS tb rs r)):Ks P f args r:=by
 obtain⟨⟨fn,c,h1,h2,h3,rfl,rfl,h6,h7⟩,hn,hL⟩:=hl
 exact ny htb h1 h2 h3 bx hlen hargs hn (h c h6 h7 hL)
end
end
section
def HU:Operand->zN
 |.tmp t=>[t]
 |_=>[]
def QB(o:Op):zN:=o.operands.toList.flatMap HU
def Wx(R:zN):V->Bool
 |.cref s _=>R.contains s
 |.same s=>R.contains s
 |.uni _ _ _=>false
 |.tok _=>R.contains gS&&R.contains gU
 |_=>true
def simple(cns:zN)(o:LO):Bool:=
 match o.op,o.dst with
 |.assign _,_=>false
 |.move _,some d=> !cns.contains d
 |.load _ _,some d=> !cns.contains d || cns.contains (1500000+d)
 |.extract _ _,_=>false
 |.store _ _ _,_=>false
 |.alloc _,_=>false
 |.box _ _,_=>false
 |.build _ _,_=>false
 |.buildSlice _ _ _,_=>false
 |.makeSlice _ _ _,_=>false
 |.call c,_=>match c.callee with
  |.builtin .append=>false
  |_=>true
 |_,_=>true
def gT(o:LO):zN:=match o.g with
 |some (some q,_)=>[q]
 |_=>[]
def gO(o:LO)(s:Nat):Bool:=(gT o).contains s&& !(QB o.op).contains s
def SX(cns R W:zN)(o:LO):Bool:=
 (QB o.op).all R.contains&&(gT o).all R.contains&&(o.dst.toList).all W.contains&&W.all (λs=>R.contains s || o.dst==some s)&&(simple cns o || R.all (λs=>W.contains s || gO o s))&&(match o.op with
  |.alloc _=>o.dst.toList.all R.contains
  |.box _ _=>false
  |.select _ _=>false
  |.makeFunc _ _ _=>false
  |.assign _|.makeSlice _ _ _=>o.dst.toList.all (λd=> !cns.contains d)
  |.call c=> !WW c || o.dst.toList.all (λd=> !cns.contains d || R.contains d)
  |_=>true)
def adP:Op->zN
 |.load _ x=>HU x
 |.fieldAddr _ x _=>HU x
 |.nilCheck x=>HU x
 |.store _ x _=>HU x
 |.indexAddr _ x _=>HU x
 |.call c=>match c.callee,c.args.toList with
  |.builtin .len,[x]=>HU x
  |.value _,x::_=>HU x
  |_,_=>[]
 |_=>[]
def adC:Op->zN
 |.call c=>match c.callee,c.args.toList with
  |.value _,x::_=>HU x
  |_,_=>[]
 |_=>[]
def aO(R W:zN)(p:Nat):V->Bool
 |.box cs=>W.contains p&&cs.all HV
 |.cref s _=>R.contains s&&W.contains s
 |.tok _=>false
 |_=>true
def adS:Op->zN
 |.store _ x _=>HU x
 |.call c=>match c.callee with
  |.value x=>HU x++c.args.toList.flatMap HU
  |_=>[]
 |_=>[]
def Uu:V->Bool
 |.tok _=>false
 |.same _=>false
 |_=>true
def UT(R W:zN)(op:Op)(σ:PS):Bool:=(adP op).all (λp=>Wx R (σ p))&&((adC op).all (λp=>aO R W p (σ p))&&(adS op).all (λp=>Uu (σ p)))
theorem jS{R W:zN}{op:Op}{σ:PS}(h:UT R W op σ=true):(adP op).all (λp=>Wx R (σ p))=true:=by unfold UT at h;rw[Aa]at h;exact h.1
def adU(cns:zN)(o:LO):zN:=match o.op,o.dst with
 |.assign x,_=>HU x
 |.move x,some d=>if cns.contains d=true then HU x else []
 |.call c,_=>match c.callee,c.args.toList with
  |.builtin .append,x::_=>HU x
  |_,_=>[]
 |_,_=>[]
def adT(cns:zN)(o:LO):zN:=match o.op,o.dst with
 |.load _ x,some d=>if cns.contains (1500000+d)=true then HU x else []
 |_,_=>[]
def lr:V->Bool
 |.tok _=>true
 |_=>false
def kO(cns R W:zN)(o:LO)(σ:PS):Prop:=SX cns R W o=true∧UT R W o.op σ=true∧((adU cns o).all (λp=>Wx R (σ p))&&(adT cns o).all (λp=>lr (σ p)))=true
def pt(W:zN)(σ' τ:PS):PS:=λs=>if W.contains s=true then σ' s else τ s
def Ol(σ:PS):List (Nat×V)->PS
 |[]=>σ
 |(s,v)::us=>upd (Ol σ us) s v
def ET(R:zN)(σ τ:PS):Prop:=∀s,R.contains s=true->τ s=σ s
theorem Nu{σ:PS}:∀{us:List (Nat×V)}{s:Nat},s∉us.map (·.1)->Ol σ us s=σ s
 |[],_,_=>rfl
 |(q,v)::us,s,h=>by
  simp only[AC,AB,not_or]at h
  simp only[Ol]
  rw[upd_ne _ _ h.1]
  exact Nu h.2
theorem Wo{σ τ:PS}:∀{us:List (Nat×V)}{s:Nat},s∈us.map (·.1)->Ol τ us s=Ol σ us s
 |[],_,h=>by simp at h
 |(q,v)::us,s,h=>by
  simp only[Ol]
  by_cases e:s=q
  ·subst e;rw[upd_same,upd_same]
  ·rw[upd_ne _ _ e,upd_ne _ _ e]
   simp only[AC,AB]at h
   exact Wo (h.resolve_left e)
theorem rC{R W:zN}{σ τ:PS}(ha:ET R σ τ){us:List (Nat×V)}(h1:∀s∈us.map (·.1),W.contains s=true)(h2:∀s,W.contains s=true->s∈us.map (·.1)∨R.contains s=true):
  Ol τ us=pt W (Ol σ us) τ∧∀s,W.contains s=false->Ol σ us s=σ s:=by
 constructor
 ·funext s
  unfold pt
  split
  ·rename_i hw
   by_cases hk:s∈us.map (·.1)
   ·exact Wo hk
   ·rw[Nu hk,Nu hk]
    exact ha s ((h2 s hw).resolve_left hk)
  ·rename_i hw
   exact Nu (λhk=>hw (h1 s hk))
 ·intro s hw
  exact Nu (λhk=>by rw[h1 s hk]at hw;cases hw)
section
variable {P:Program}{tb:Tb}{cns R W:zN}{σ τ:PS}{o:LO}{K:PS->Prop}
theorem G8(ha:ET R σ τ){x:Operand}(hx:(HU x).all R.contains=true):Co τ x=Co σ x:=by
 cases x with
 |tmp t=>simp only[HU,Bz,EV,CC]at hx;exact ha t hx
 |_=>rfl
theorem Sj(ha:ET R σ τ){x:Operand}(hx:(HU x).all R.contains=true):KQ τ x=KQ σ x:=by
 cases x with
 |tmp t=>simp only[HU,Bz,EV,CC]at hx;simp only[KQ,ha t hx]
 |_=>rfl
theorem Sm{x:Operand}{s off:Nat}(hb:(HU x).all (λp=>Wx R (σ p))=true)(hx:(HU x).all R.contains=true)(h:KQ σ x=.cref s off):R.contains s=true:=by
 cases x with
 |tmp t=>
  simp only[HU,Bz,EV,CC]at hb hx
  simp only[KQ]at h
  split at h
  ·simp only[V.cref.injEq]at h;rw[<-h.1];exact hx
  ·rw[h]at hb;exact hb
 |global g=>exact absurd h (Pk.1 _ _)
 |_=>cases h
theorem lP(ha:ET R σ τ){x:Operand}(d:Option TyD)(hb:(HU x).all (λp=>Wx R (σ p))=true)(hx:(HU x).all R.contains=true):Q2 d τ (KQ τ x)=Q2 d σ (KQ σ x)∧Q1 d τ (KQ τ x)=Q1 d σ (KQ σ x):=by
 rw[Sj ha hx]
 cases d with
 |none=>exact⟨rfl,rfl⟩
 |some d=>
  cases h:KQ σ x with
  |cref s off=>
   have:=ha s (Sm hb hx h)
   simp only[Q2,Q1,Uq,R1,this]
   exact⟨trivial,trivial⟩
  |_=>exact⟨rfl,rfl⟩
theorem OK{α:Type}{f g:Operand->List α}{p:α->Bool}{xs:List Operand}{x:Operand}(h:(xs.flatMap f).all p=true)(hx:x∈xs):(f x).all p=true:=by
 rw[Ah]at h⊢
 exactλa ha=>h a (Cj.2 ⟨x,hx,ha⟩)
theorem cL(ha:ET R σ τ){x:Operand}(hb:(HU x).all (λp=>Wx R (σ p))=true){s:Nat}(h:Co σ x=.same s):τ s=σ s:=by
 cases x with
 |tmp t=>
  simp only[HU,Bz,EV,CC]at hb
  rw[show σ t=.same s from h]at hb
  exact ha s hb
 |const v=>exfalso;simp only[Co,cV]at h;split at h<;>(try split at h)<;>cases h
 |_=>cases h
theorem bS(ha:ET R σ τ){x:Operand}(d:Option TyD)(hb:(HU x).all (λp=>Wx R (σ p))=true):X5 τ (Co σ x)=X5 σ (Co σ x)∧Tg d τ (Co σ x)=Tg d σ (Co σ x):=by
 cases h:Co σ x with
 |same s=>have:=cL ha hb h;simp only[X5,Tg,this];exact⟨trivial,trivial⟩
 |_=>exact⟨rfl,rfl⟩
theorem gc(ha:ET R σ τ){x:Operand}(es:Nat)(i:V)(hb:(HU x).all (λp=>Wx R (σ p))=true):iaS τ es (Co σ x) i=iaS σ es (Co σ x) i∧WY τ (Co σ x) i=WY σ (Co σ x) i:=by
 cases h:Co σ x with
 |same s=>have:=cL ha hb h;simp only[iaS,WY,this];exact⟨trivial,trivial⟩
 |_=>exact⟨rfl,rfl⟩
theorem iX(ha:ET R σ τ)(cal:Callee)(args:List Operand)(ts:List TypeId)(h:∀x∈args,Co τ x=Co σ x)(hb:(match cal,args with|.builtin .len,[x]=>HU x|_,_=>[]).all (λp=>Wx R (σ p))=true):Ni τ cal args=Ni σ cal args∧Pp tb τ cal args ts=Pp tb σ cal args ts:=by
 constructor
 ·unfold Ni
  split
  ·rw[h _ (by simp)];exact(bS ha none hb).1
  ·rw[h _ (by simp),h _ (by simp)]
  ·rw[h _ (by simp),h _ (by simp)]
  ·rfl
 ·unfold Pp
  split
  ·rw[h _ (by simp)];exact(bS ha _ hb).2
  ·rw[h _ (by simp),h _ (by simp)]
  ·rw[h _ (by simp),h _ (by simp)]
  ·rfl
theorem mH(ha:ET R σ τ){op:Op}(hx:(QB op).all R.contains=true)(hb:(adP op).all (λp=>Wx R (σ p))=true):pv tb τ op=pv tb σ op∧pc tb τ op=pc tb σ op:=by
 have ho:∀x,x∈op.operands.toList->Co τ x=Co σ x:=λx h=>G8 ha (OK (g:=HU) hx h)
 cases op with
 |move x=>
  have h1:=ho x (by simp[Op.operands])
  cases x with
  |tmp t=>simp only[pv,pc,mvV,mvC,show τ t=σ t from h1];exact⟨trivial,trivial⟩
  |_=>exact⟨rfl,rfl⟩
 |pick c x y=>
  have h1:=ho c (by simp[Op.operands]);have h2:=ho x (by simp[Op.operands]);have h3:=ho y (by simp[Op.operands])
  have e1:∀v,Xm τ x y v=Xm σ x y v:=by intro v;cases v<;>first|rfl|simp only[Xm,h2,h3]
  have e2:∀v,Xl τ x y v=Xl σ x y v:=by intro v;cases v<;>first|rfl|simp only[Xl,h2,h3]
  simp only[pv,pc,h1,e1,e2];exact⟨trivial,trivial⟩
 |binOp op t x y t'=>have h1:=ho x (by simp[Op.operands]);have h2:=ho y (by simp[Op.operands]);simp only[pv,pc,h1,h2];exact⟨trivial,trivial⟩
 |unOp op t x=>have h1:=ho x (by simp[Op.operands]);simp only[pv,pc,h1];exact⟨trivial,trivial⟩
 |convert s d x=>have h1:=ho x (by simp[Op.operands]);simp only[pv,pc,h1];exact⟨trivial,trivial⟩
 |load t x=>
  have hm:x∈(Op.load t x).operands.toList:=by simp[Op.operands]
  have:=lP ha (x:=x) (tb t) hb (OK (g:=HU) hx hm)
  simp only[pv,pc,this.1,this.2];exact⟨trivial,trivial⟩
 |nilCheck x=>
  have hm:x∈(Op.nilCheck x).operands.toList:=by simp[Op.operands]
  have h1:=Sj ha (OK (g:=HU) hx hm)
  have h2:faC τ (KQ σ x)=faC σ (KQ σ x):=by
   cases h:KQ σ x with
   |cref s off=>
    have:=ha s (Sm hb (OK (g:=HU) hx hm) h)
    simp only[faC,this]
   |_=>rfl
  simp only[pv,pc,h1,h2];exact⟨trivial,trivial⟩
 |fieldAddr t x f=>
  have hm:x∈(Op.fieldAddr t x f).operands.toList:=by simp[Op.operands]
  have h1:=Sj ha (OK (g:=HU) hx hm)
  have h2:∀d,bg d f τ (KQ σ x)=bg d f σ (KQ σ x):=by
   intro d
   cases h:KQ σ x with
   |cref s off=>
    have:=ha s (Sm hb (OK (g:=HU) hx hm) h)
    simp only[bg,faC,this]
   |_=>rfl
  simp only[pv,pc,h1,h2];exact⟨trivial,trivial⟩
 |indexAddr t x i=>
  have h1:=ho x (by simp[Op.operands]);have h2:=ho i (by simp[Op.operands])
  simp only[pv,pc,h1,h2,dO,dM]
  constructor
  ·split
   ·exact(gc ha _ _ hb).1
   ·rfl
  ·split
   ·exact(gc ha 0 _ hb).2
   ·rfl
 |index t x i=>have h1:=ho x (by simp[Op.operands]);have h2:=ho i (by simp[Op.operands]);simp only[pv,pc,h1,h2];exact⟨trivial,trivial⟩
 |slice t x lo hi mx=>
  have h1:=ho x (by simp[Op.operands])
  have h2:lo.map (Co τ)=lo.map (Co σ):=by cases lo with|none=>rfl|some l=>simp only[B8,ho l (by simp[Op.operands])]
  have h3:hi.map (Co τ)=hi.map (Co σ):=by cases hi with|none=>rfl|some l=>simp only[B8,ho l (by simp[Op.operands])]
  cases mx with
  |none=>simp only[pv,pc,h1,h2,h3];exact⟨trivial,trivial⟩
  |some m=>exact⟨rfl,rfl⟩
 |call c=>
  have h1:∀x∈c.args.toList,Co τ x=Co σ x:=λx h=>ho x (by simp[Op.operands,Call.operands];exact .inr (by simpa using h))
  have hb':(match c.callee,c.args.toList with|.builtin .len,[x]=>HU x|_,_=>[]).all (λp=>Wx R (σ p))=true:=by
   split
   ·rename_i x e1 e2;simpa[adP,e1,e2]using hb
   ·rfl
  have h2:=iX (tb:=tb) ha c.callee c.args.toList c.argTypes.toList h1 hb'
  simp only[pv,pc,h2.1,h2.2];exact⟨trivial,trivial⟩
 |_=>exact⟨rfl,rfl⟩
def Loc(W:zN)(σ τ:PS)(K:PS->Prop)(τ':PS):Prop:=∃σ',K σ'∧τ'=pt W σ' τ∧∀s,W.contains s=false->σ' s=σ s
theorem Sz(ha:ET R σ τ){us:List (Nat×V)}(h1:∀s∈us.map (·.1),W.contains s=true)(h2:∀s,W.contains s=true->s∈us.map (·.1)∨R.contains s=true)(hk:K (Ol σ us)):Loc W σ τ K (Ol τ us):=by
 obtain⟨e1,e2⟩:=rC ha h1 h2
 exact⟨_,hk,e1,e2⟩
theorem Sf(σ:PS)(x:Operand):∃us:List (Nat×V),us.map (·.1)=HU x∧CO σ x=Ol σ us∧∀τ,ET (HU x) σ τ->CO τ x=Ol τ us:=by
 cases x with
 |tmp t=>
  refine⟨[(t,dg (σ t))],rfl,rfl,λτ h=>?_⟩
  have:=h t (by simp[HU])
  simp only[CO,Ol,this]
 |const v=>exact⟨[],rfl,rfl,λ_ _=>rfl⟩
 |global g=>exact⟨[],rfl,rfl,λ_ _=>rfl⟩
 |func f=>exact⟨[],rfl,rfl,λ_ _=>rfl⟩
theorem UO(σ:PS)(us vs:List (Nat×V)):Ol (Ol σ vs) us=Ol σ (us++vs):=by
 induction us with
 |nil=>rfl
 |cons p us ih=>obtain⟨s,v⟩:=p;simp only[Ol,Da,ih]
theorem MR(h:SX cns R W o=true):(QB o.op).all R.contains=true∧(∀q b,o.g=some (some q,b)->R.contains q=true)∧(∀d,o.dst=some d->W.contains d=true)∧(∀s,W.contains s=true->R.contains s=true∨o.dst=some s)∧(simple cns o=true∨∀s,R.contains s=true->W.contains s=true∨gO o s=true):=by
 simp only[SX,Aa]at h
 obtain⟨⟨⟨⟨⟨h1,h2⟩,h3⟩,h4⟩,h5⟩,_⟩:=h
 refine⟨h1,λq b e=>?_,λd e=>?_,λs hs=>?_,?_⟩
 ·rw[gT,e]at h2;simpa using h2
 ·rw[e]at h3;simpa using h3
 ·have:=Ah.1 h4 s (by simpa using hs)
  simp only[BP,Bc]at this
  exact this
 ·simp only[BP]at h5
  rcases h5 with h|h
  ·exact .inl h
  ·exact .inr λs hs=>by simpa using List.all_eq_true.1 h s (by simpa using hs)
theorem Uf(hg:o.g=none)(h:∀s,R.contains s=true->W.contains s=true∨gO o s=true):∀s,R.contains s=true->W.contains s=true:=λs hs=>by
 rcases h s hs with h|h
 ·exact h
 ·simp[gO,gT,hg]at h
theorem dE(h1:(QB o.op).all R.contains=true)(h:∀s,R.contains s=true->W.contains s=true∨gO o s=true):(QB o.op).all W.contains=true:=by
 rw[Ah]
 intro s hs
 rcases h s (Ah.1 h1 s hs)with h|h
 ·exact h
 ·simp[gO,hs]at h
theorem HK(ha:ET R σ τ)(hp:SX cns R W o=true){d:Nat}(hd:o.dst=some d){v:V}(hk:K (upd σ d v)):Loc W σ τ K (upd τ d v):=by
 obtain⟨h1,h2,h3,h4,h5⟩:=MR hp
 refine Sz (us:=[(d,v)]) ha (λs hs=>?_) (λs hs=>?_) hk
 ·simp only[AC,DX,AP]at hs;subst hs;exact h3 _ hd
 ·rcases h4 s hs with h|h
  ·exact .inr h
  ·rw[hd]at h;injection h with h;subst h;exact .inl (by simp)
theorem SG(ha:ET R σ τ)(hf:kO cns R W o σ)(h:Jv tb o σ K):Jv tb o τ (Loc W σ τ K):=by
 obtain⟨h1,h2,h3,h4,h5⟩:=MR hf.1
 have hp:=mH (tb:=tb) ha h1 (jS hf.2.1)
 unfold Jv at *
 cases hd:o.dst with
 |none=>rw[hd]at h;exact h
 |some d=>
  rw[hd]at h
  simp only at h⊢
  cases hg:o.g with
  |none=>rw[hg]at h;rw[hp.1,hp.2];exact⟨h.1,HK ha hf.1 hd h.2⟩
  |some g=>
   obtain⟨q,b⟩:=g
   rw[hg]at h
   cases q with
   |none=>exact h
   |some q=>
    simp only at h⊢
    rw[ha q (h2 q b hg),hp.1,hp.2]
    exact⟨h.1,λe=>⟨(h.2.1 e).1,HK ha hf.1 hd (h.2.1 e).2⟩,λe=>HK ha hf.1 hd (h.2.2 e)⟩
theorem Sv(ha:ET R σ τ)(hf:kO cns R W o σ){d:Nat}(hd:o.dst=some d){X X':Prop}(hX:X->X')(h:OM o d σ K X):OM o d τ (Loc W σ τ K) X':=by
 obtain⟨h1,h2,h3,h4,h5⟩:=MR hf.1
 unfold OM at *
 cases hg:o.g with
 |none=>rw[hg]at h;exact hX h
 |some g=>
  obtain⟨q,b⟩:=g
  rw[hg]at h
  cases q with
  |none=>exact h
  |some q=>
   simp only at h⊢
   rw[ha q (h2 q b hg)]
   exact⟨h.1,λe=>hX (h.2.1 e),λe=>HK ha hf.1 hd (h.2.2 e)⟩
theorem iW(ha:ET R σ τ)(hf:kO cns R W o σ){f:FuncId}{args:List Operand}(hargs:∀x∈args,(HU x).all R.contains=true)(h:O5 P o f args σ K):O5 P o f args τ (Loc W σ τ K):=by
 obtain⟨h1,h2,h3,h4,h5⟩:=MR hf.1
 have e0:(args.map λx=>er (Co τ x))=args.map λx=>er (Co σ x):=Ca λx hx=>by rw[G8 ha (hargs x hx)]
 have e0':(args.map λx=>erK (Co τ x))=args.map λx=>erK (Co σ x):=Ca λx hx=>by rw[G8 ha (hargs x hx)]
 have e0'':(args.map λx=>Co τ x)=args.map λx=>Co σ x:=Ca λx hx=>by rw[G8 ha (hargs x hx)]
 have e1:aD P τ f args=aD P σ f args:=by unfold aD;rw[e0,e0',e0'']
 have e2:args.all (λx=>(Co τ x).isArg)=args.all (λx=>(Co σ x).isArg):=by
  rw[B5,Ah,Ah]
  exact⟨λh x hx=>by have:=h x hx;rwa [G8 ha (hargs x hx)]at this,λh x hx=>by rw[G8 ha (hargs x hx)];exact h x hx⟩
 unfold O5 at *
 rw[e1,e2]
 cases hg:o.g with
 |none=>
  rw[hg]at h
  obtain⟨q1,r,q2,q3⟩:=h
  refine⟨q1,r,q2,?_⟩
  cases hd:o.dst with
  |none=>
   rw[hd]at q3
   simp only[QC]at q3⊢
   refine Sz (us:=[]) ha (by simp) (λs hs=>?_) q3
   rcases h4 s hs with h|h
   ·exact .inr h
   ·rw[hd]at h;cases h
  |some d=>rw[hd]at q3;exact HK ha hf.1 hd q3
 |some g=>
  obtain⟨q,b⟩:=g
  rw[hg]at h
  simp only at h⊢
  cases q with
  |none=>exact h
  |some q=>
   cases hd:o.dst with
   |none=>rw[hd]at h;exact h
   |some d=>
    rw[hd]at h
    simp only at h⊢
    rw[ha q (h2 q b hg)]
    obtain⟨q1,q2,q3⟩:=h
    refine⟨q1,λe=>?_,λe=>HK ha hf.1 hd (q3 e)⟩
    obtain⟨q4,r,q5,q6⟩:=q2 e
    exact⟨q4,r,q5,HK ha hf.1 hd q6⟩
theorem Sy(ha:ET R σ τ)(hp:SX cns R W o=true){us:List (Nat×V)}(h1:∀s∈us.map (·.1),W.contains s=true)(h2:∀d,o.dst=some d->d∈us.map (·.1))(hk:K (Ol σ us)):Loc W σ τ K (Ol τ us):=by
 obtain⟨q1,q2,q3,q4,q5⟩:=MR hp
 refine Sz ha h1 (λs hs=>?_) hk
 rcases q4 s hs with h|h
 ·exact .inr h
 ·exact .inl (h2 s h)
theorem iV(ha:ET R σ τ)(hf:kO cns R W o σ){f:FuncId}{args:List Operand}(hargs:∀x∈args,(HU x).all R.contains=true)(hadc:∀x xs,args=x::xs->(HU x).all (λp=>aO R W p (σ p))=true)(h:T5 P o f args σ K):T5 P o f args τ (Loc W σ τ K):=by
 obtain⟨h1,h2,h3,h4,h5⟩:=MR hf.1
 unfold T5 at *
 split at h
 ·exact h
 ·rename_i x xs
  have key:RM P o f x xs σ K->RM P o f x xs τ (Loc W σ τ K):=by
   rintro⟨s,cs,cs',r,q1,q2,q3,q4,q5,q6⟩
   have hx:=hargs x (by simp)
   have hw:=hadc x xs rfl
   have hsw:R.contains s=true∧W.contains s=true:=by
    cases x with
    |tmp t=>
     simp only[HU,Bz,EV,CC]at hw hx
     simp only[KQ]at q1
     split at q1
     ·rename_i cs0 hb
      simp only[V.cref.injEq]at q1
      rw[hb]at hw
      rw[<-q1.1]
      simp only[aO,Aa]at hw
      exact⟨hx,hw.1⟩
     ·rw[q1]at hw
      simpa[aO]using hw
    |global g=>exact absurd q1 (Pk.1 _ _)
    |_=>cases q1
   have e1:(xs.map λx=>er (Co τ x))=xs.map λx=>er (Co σ x):=Ca λx hx=>by rw[G8 ha (hargs x (by simp[hx]))]
   have e2:xs.all (λx=>(Co τ x).isArg)=true:=by
    rw[Ah]at q4⊢
    exactλx hx=>by rw[G8 ha (hargs x (by simp[hx]))];exact q4 x hx
   refine⟨s,cs,cs',r,by rw[Sj ha hx];exact q1,by rw[ha s hsw.1];exact q2,q3,e2,by rw[e1];exact q5,?_⟩
   cases hd:o.dst with
   |none=>
    rw[hd]at q6
    simp only[QC]at q6⊢
    refine Sz (us:=[(s,.box cs')]) ha (λq hq=>?_) (λq hq=>?_) q6
    ·simp only[AC,DX,AP]at hq;subst hq;exact hsw.2
    ·rcases h4 q hq with h|h
     ·exact .inr h
     ·rw[hd]at h;cases h
   |some d=>
    rw[hd]at q6
    simp only[QC]at q6⊢
    refine Sz (us:=[(d,r),(s,.box cs')]) ha (λq hq=>?_) (λq hq=>?_) q6
    ·simp only[AC,DX,AB,MG,or_false]at hq
     rcases hq with rfl|rfl
     ·exact h3 _ hd
     ·exact hsw.2
    ·rcases h4 q hq with h|h
     ·exact .inr h
     ·rw[hd]at h;injection h with h;subst h;exact .inl (by simp)
  split at h
  ·exact⟨h.1,key h.2⟩
  ·rename_i d hd
   exact Sv ha hf hd key h
theorem Ur(ha:ET R σ τ)(hp:SX cns R W o=true)(hns:∀s,R.contains s=true->W.contains s=true){us:List (Nat×V)}(h1:∀s∈us.map (·.1),R.contains s=true∨o.dst=some s)(h2:∀d,o.dst=some d->d∈us.map (·.1))(hk:K (Ol σ us)):Loc W σ τ K (Ol τ us):=by
 obtain⟨q1,q2,q3,q4,q5⟩:=MR hp
 refine Sz ha (λs hs=>?_) (λs hs=>?_) hk
 ·rcases h1 s hs with h|h
  ·exact hns s h
  ·exact q3 s h
 ·rcases q4 s hs with h|h
  ·exact .inr h
  ·exact .inl (h2 s h)
theorem TU{x:Operand}(ha:ET R σ τ)(hx:(HU x).all R.contains=true):ET (HU x) σ τ:=λs hs=>ha s (Ah.1 hx s (by simpa using hs))
theorem PT{x:Operand}{s:Nat}(hx:(HU x).all R.contains=true)(h:s∈HU x):R.contains s=true:=Ah.1 hx s h
theorem bU(ha:ET R σ τ)(hp:SX cns R W o=true)(hns:∀s,R.contains s=true->W.contains s=true){x:Operand}(hx:(HU x).all R.contains=true){d:Nat}{v:V}(hd:o.dst=some d)(hk:K (upd (CO σ x) d v)):Loc W σ τ K (upd (CO τ x) d v):=by
 obtain⟨us,e1,e2,e3⟩:=Sf σ x
 rw[e3 τ (TU ha hx)]
 rw[e2]at hk
 refine Ur (us:=(d,v)::us) ha hp hns (λs hs=>?_) (λd' h=>?_) hk
 ·simp only[AC,AB,e1]at hs
  rcases hs with rfl|hs
  ·exact .inr hd
  ·exact .inl (PT hx hs)
 ·rw[hd]at h;injection h with h;subst h;simp
theorem aK(ha:ET R σ τ)(hp:SX cns R W o=true)(hns:∀s,R.contains s=true->W.contains s=true){x:Operand}(hx:(HU x).all R.contains=true)(hu:(HU x).all (λp=>Wx R (σ p))=true){d:Nat}(hd:o.dst=some d)(h:OL tb o x d σ K):OL tb o x d τ (Loc W σ τ K):=by
 unfold OL at *
 split at h
 ·split at h
  ·exact HK ha hp hd h
  ·exact h
 ·exact HK ha hp hd h
 ·rename_i p
  have e1:τ p=σ p:=G8 ha hx
  rw[e1]
  split at h
  ·rename_i hs
   simp only[HU,Bz,EV,CC,hs,Wx]at hu
   cases hu
  ·exact HK ha hp hd h
  ·exact HK ha hp hd h
  ·exact⟨h.1,bU ha hp hns hx hd h.2⟩
 ·rw[G8 ha hx]
  exact⟨h.1,bU ha hp hns hx hd h.2⟩
theorem WR(place:Nat->Option (Nat×Nat)):∀(parts:List (Nat×Operand)) (σ σ':PS) (cs cs':List V),OG place parts σ cs=some (σ',cs')->∃us:List (Nat×V),(∀s∈us.map (·.1),s∈parts.flatMap (λp=>HU p.2))∧σ'=Ol σ us∧∀τ,ET (parts.flatMap (λp=>HU p.2)) σ τ->OG place parts τ cs=some (Ol τ us,cs')
 |[],σ,σ',cs,cs',h=>by
  simp only[OG,Ap,B3]at h
  obtain⟨rfl,rfl⟩:=h
  exact⟨[],by simp,rfl,λτ _=>rfl⟩
 |(i,x)::parts,σ,σ',cs,cs',h=>by
  simp only[OG]at h
  cases hp:place i with
  |none=>rw[hp]at h;cases h
  |some q=>
   obtain⟨off,sz⟩:=q
   rw[hp]at h
   simp only at h
   split at h
   ·rename_i hc
    obtain⟨us,e1,e2,e3⟩:=WR place parts _ _ _ _ h
    obtain⟨vs,f1,f2,f3⟩:=Sf σ x
    refine⟨us++vs,λs hs=>?_,by rw[e2,f2,UO],λτ ha=>?_⟩
    ·rw[B7,Al]at hs
     rw[AH,Al]
     rcases hs with hs|hs
     ·exact .inr (e1 s hs)
     ·exact .inl (by rw[f1]at hs;exact hs)
    ·have hx:Co τ x=Co σ x:=by
      cases x with
      |tmp t=>exact ha t (by simp[HU])
      |_=>rfl
     have hag:ET (HU x) σ τ:=λs hs=>ha s (by simp only[AH,List.contains_eq_mem,Al,AN]at *;exact .inl hs)
     simp only[OG,hp,hx]
     rw[Av hc]
     have hag2:ET (parts.flatMap (λp=>HU p.2)) (CO σ x) (CO τ x):=by
      intro s hs
      rw[f2,f3 τ hag]
      by_cases hk:s∈vs.map (·.1)
      ·exact Wo hk
      ·rw[Nu hk,Nu hk]
       exact ha s (by simp only[AH,List.contains_eq_mem,Al,AN]at *;exact .inr hs)
     rw[e3 _ hag2,f3 τ hag,UO]
   ·cases h
theorem SD{R:zN}{parts:Array (Nat×Operand)}(hx:((parts.toList.map (·.2)).toArray.toList.flatMap HU).all R.contains=true):∀s∈parts.toList.flatMap (λp=>HU p.2),R.contains s=true:=by
 intro s hs
 rw[Ah]at hx
 refine hx s ?_
 rw[Cj]at hs⊢
 obtain⟨p,hp,h⟩:=hs
 exact⟨p.2,(show p.2∈parts.toList.map (·.2)from CE hp),h⟩
theorem iF{x:Operand}{u:Value}(hx:KQ σ x=.tok u)(hb:(HU x).all (λp=>Wx R (σ p))=true):R.contains gS=true∧R.contains gU=true:=by
 cases x with
 |tmp s=>
  have hs:σ s=.tok u:=by
   unfold KQ at hx
   simp only at hx
   split at hx
   ·cases hx
   ·exact hx
  simp only[HU,hs,Bz,EV,CC,Wx,Aa]at hb
  exact hb
 |global g=>exact absurd hx (Pk.2.1 _)
 |_=>cases hx
theorem vM{x:Operand}{u:Value}(hx:KQ σ x=.tok u)(hb:(HU x).all (λp=>Uu (σ p))=true):False:=by
 cases x with
 |tmp s=>
  have hs:σ s=.tok u:=by
   unfold KQ at hx
   simp only at hx
   split at hx
   ·cases hx
   ·exact hx
  simp[HU,hs,Uu]at hb
 |global g=>exact absurd hx (Pk.2.1 _)
 |_=>cases hx
theorem kF(ha:ET R σ τ)(hf:kO cns R W o σ)(h:F0 P tb cns o σ K):F0 P tb cns o τ (Loc W σ τ K):=by
 obtain⟨h1,h2,h3,h4,h5⟩:=MR hf.1
 have h2':=h2
 have hx:=h1
 have hb:=jS hf.2.1
 have hub3:=hf.2.2
 rw[Aa]at hub3
 have hub:=hub3.1
 have htk:=hub3.2
 unfold F0 at *
 split at h
 ·rename_i x d ho hd
  rw[ho]at hx
  have hcd:¬cns.contains d=true:=by
   have:=hf.1
   simp only[SX,ho,hd,Aa]at this
   have:=this.2
   simpa using this
  rw[At hcd]at h⊢
  have hns:=Uf h.1 (h5.resolve_left (by simp[simple,ho]))
  exact⟨h.1,aK ha hf.1 hns (by simpa[QB,Op.operands]using hx) (by simpa[adU,ho]using hub) hd h.2⟩
 ·rename_i x d ho hd
  split at h
  ·rename_i hc
   rw[Av hc]
   have hns:=Uf h.1 (h5.resolve_left (by simp[simple,ho,hd];simpa using hc))
   rw[ho]at hx
   have hub':(HU x).all (λp=>Wx R (σ p))=true:=by
    simp only[adU,ho,hd]at hub
    rw[Av hc]at hub
    exact hub
   exact⟨h.1,aK ha hf.1 hns (by simpa[QB,Op.operands]using hx) hub' hd h.2⟩
  ·rename_i hc;rw[At hc];exact SG ha hf h
 ·rename_i t x d ho hd
  split at h
  ·rename_i hc
   rw[Av hc]
   rw[ho]at hx hb
   have hx':(HU x).all R.contains=true:=by simpa[QB,Op.operands]using hx
   have hb':(HU x).all (λp=>Wx R (σ p))=true:=hb
   refine⟨h.1,?_⟩
   have h2:=h.2
   unfold Up at *
   rw[Sj ha hx']
   split at h2
   ·rename_i dd s off ht hax
    have hm:cns.contains (1500000+d)=false:=by
     cases hcc:cns.contains (1500000+d)with
     |false=>rfl
     |true=>
      exfalso
      simp only[adT,ho,hd,hcc,ER]at htk
      cases x with
      |tmp p=>
       have:lr (σ p)=true:=by simpa[HU]using htk
       cases hp:σ p<;>rw[hp]at this<;>first|cases this|skip
       simp only[KQ,hp]at hax
       cases hax
      |global g=>exact Pk.1 s off hax
      |_=>cases hax
    have hns:=Uf h.1 (h5.resolve_left (by simp[simple,ho,hd];exact⟨by simpa using hc,by simpa using hm⟩))
    have hs:=ha s (Sm hb' hx' hax)
    rw[hs]
    split at h2
    ·refine⟨h2.1,?_⟩
     refine Ur (us:=[(d,_),(s,_)]) ha hf.1 hns (λq hq=>?_) (λd' hd'=>?_) h2.2
     ·simp only[AC,DX,AB,MG,or_false]at hq
      rcases hq with rfl|rfl
      ·exact .inr hd
      ·exact .inl (Sm hb' hx' hax)
     ·rw[hd]at hd';injection hd' with hd';subst hd';simp
    ·exact h2
   ·exact⟨h2.1,HK ha hf.1 hd h2.2⟩
   ·rename_i hax
    obtain⟨q,g,off,e,n,m,cs,k0,hq,k1,k2,k3,k4⟩:=h2
    have hqR:R.contains q=true:=by
     rcases hq with rfl|rfl
     ·exact(iF hax hb').1
     ·exact(iF hax hb').2
    exact⟨q,g,off,e,n,m,cs,k0,hq,by rw[ha q hqR];exact k1,k2,k3,HK ha hf.1 hd k4⟩
   ·exact h2
  ·rename_i hc;rw[At hc];exact SG ha hf h
 ·rename_i s i d ho hd
  have hns:=Uf h.1 (h5.resolve_left (by simp[simple,ho]))
  rw[ho]at hx
  have hs:R.contains s=true:=by simpa[QB,Op.operands,HU]using hx
  refine⟨h.1,?_⟩
  have h2:=h.2
  unfold be at *
  rw[ha s hs]
  split at h2
  ·split at h2
   ·refine⟨h2.1,Ur (us:=[(d,_),(s,_)]) ha hf.1 hns (λq hq=>?_) (λd' hd'=>?_) h2.2⟩
    ·simp only[AC,DX,AB,MG,or_false]at hq
     rcases hq with rfl|rfl
     ·exact .inr hd
     ·exact .inl hs
    ·rw[hd]at hd';injection hd' with hd';subst hd';simp
   ·exact h2
  ·exact h2
 ·rename_i t x y ho hd
  have hns:=Uf h.1 (h5.resolve_left (by simp[simple,ho]))
  rw[ho]at hx hb
  have hxy:(HU x).all R.contains=true∧(HU y).all R.contains=true:=by simpa[QB,Op.operands,EO]using hx
  have hb':(HU x).all (λp=>Wx R (σ p))=true:=hb
  refine⟨h.1,?_⟩
  have h2:=h.2
  unfold ao at *
  rw[Sj ha hxy.1,G8 ha hxy.2]
  split at h2
  ·rename_i dd s off ht hax
   have hsR:=Sm hb' hxy.1 hax
   rw[ha s hsR]
   split at h2
   ·obtain⟨q1,q2,q3,q4⟩:=h2
    refine⟨q1,q2,q3,?_⟩
    obtain⟨us,e1,e2,e3⟩:=Sf σ y
    rw[e3 τ (TU ha hxy.2)]
    rw[e2]at q4
    refine Ur (us:=(s,_)::us) ha hf.1 hns (λq hq=>?_) (λd' hd'=>by rw[hd]at hd';cases hd') q4
    simp only[AC,AB,e1]at hq
    rcases hq with rfl|hq
    ·exact .inl hsR
    ·exact .inl (PT hxy.2 hq)
   ·exact h2
  ·rename_i hax
   have h9:=hf.2.1
   unfold UT at h9
   rw[Aa,Aa,ho]at h9
   exact(vM hax h9.2.2).elim
  ·exact h2
 ·rename_i t d ho hd
  have hdR:R.contains d=true:=by
   have:=hf.1
   simp only[SX,ho,hd,Aa]at this
   simpa using this.2
  refine⟨h.1,?_⟩
  have h2:=h.2
  unfold Tn at *
  split at h2
  ·exact⟨by rw[ha d hdR];exact h2.1,HK ha hf.1 hd h2.2⟩
  ·exact h2
 ·rename_i t x d ho hd;have:=hf.1;simp[SX,ho]at this
 ·rename_i t ps d ho hd
  have hW:=dE h1 (h5.resolve_left (by simp[simple,ho]))
  rw[ho]at hW
  rw[ho]at hx
  refine Sv ha hf hd (λh2=>?_) h
  unfold RJ at *
  split at h2
  ·split at h2
   ·rename_i σ' cs hfl
    obtain⟨us,e1,e2,e3⟩:=WR _ _ _ _ _ _ hfl
    have hp:=SD (R:=R) (parts:=ps) (by simpa[QB,Op.operands]using hx)
    have hpW:=SD (R:=W) (parts:=ps) (by simpa[QB,Op.operands]using hW)
    rw[e3 τ (λs hs=>ha s (hp s (by simpa using hs)))]
    rw[e2]at h2
    refine Sy (us:=(d,_)::us) ha hf.1 (λq hq=>?_) (λd' hd'=>?_) h2
    ·simp only[AC,AB]at hq
     rcases hq with rfl|hq
     ·exact h3 _ hd
     ·exact hpW q (e1 q hq)
    ·rw[hd]at hd';injection hd' with hd';subst hd';simp
   ·exact h2.elim
  ·exact h2
 ·rename_i t n ps d ho hd
  have hW:=dE h1 (h5.resolve_left (by simp[simple,ho]))
  rw[ho]at hW
  rw[ho]at hx
  refine Sv ha hf hd (λh2=>?_) h
  unfold aS at *
  split at h2
  ·split at h2
   ·rename_i σ' cs hfl
    obtain⟨us,e1,e2,e3⟩:=WR _ _ _ _ _ _ hfl
    have hp:=SD (R:=R) (parts:=ps) (by simpa[QB,Op.operands]using hx)
    have hpW:=SD (R:=W) (parts:=ps) (by simpa[QB,Op.operands]using hW)
    rw[e3 τ (λs hs=>ha s (hp s (by simpa using hs)))]
    rw[e2]at h2
    refine⟨h2.1,h2.2.1,Sy (us:=(d,_)::us) ha hf.1 (λq hq=>?_) (λd' hd'=>?_) h2.2.2⟩
    ·simp only[AC,AB]at hq
     rcases hq with rfl|hq
     ·exact h3 _ hd
     ·exact hpW q (e1 q hq)
    ·rw[hd]at hd';injection hd' with hd';subst hd';simp
   ·exact h2.elim
  ·exact h2
 ·rename_i t x y d ho hd
  rw[ho]at hx
  have hxy:(HU x).all R.contains=true∧(HU y).all R.contains=true:=by simpa[QB,Op.operands,EO]using hx
  have hcd:¬cns.contains d=true:=by
   have:=hf.1
   simp only[SX,ho,hd,Aa]at this
   have:=this.2
   simpa using this
  rw[At hcd]at h⊢
  refine⟨h.1,?_⟩
  have h2:=h.2
  unfold Yw at *
  rw[G8 ha hxy.1,G8 ha hxy.2]
  split at h2
  ·exact⟨h2.1,h2.2.1,h2.2.2.1,HK ha hf.1 hd h2.2.2.2⟩
  ·exact h2
 ·rename_i d c ho
  rw[ho]at hx
  have hargs:∀x∈c.args.toList,(HU x).all R.contains=true:=λx hxm=>OK (g:=HU) hx (by simp only[Op.operands,Call.operands];simp;exact .inr (by simpa using hxm))
  unfold RL at *
  split at h
  ·rename_i x hcal
   have hgo:WW c=true:=by unfold WW;rw[hcal]
   rw[G8 ha (OK (g:=HU) (x:=x) hx (by simp only[Op.operands,Call.operands,hcal];simp))]
   split at h
   ·rename_i f hcv
    unfold JZ at *
    split at h
    ·rename_i hc
     rw[Av hc]
     obtain⟨d',hd',cs,q0,q1,q2,q3,q4⟩:=h
     have hcc:cns.contains d'=true:=by rw[hd']at hc;simpa using hc
     have hdR:R.contains d'=true:=by
      have:=hf.1
      simp only[SX,ho,hd',hgo,Aa]at this
      have:=this.2
      have hm:d'∈cns:=by simpa using hcc
      simpa[hm]using this
     have e1:(c.args.toList.map λx=>erK (Co τ x))=c.args.toList.map λx=>erK (Co σ x):=Ca λx hx=>by rw[G8 ha (hargs x hx)]
     have e2:c.args.toList.all (λx=>(Co τ x).isArg)=true:=by
      rw[Ah]at q2⊢
      exactλx hx=>by rw[G8 ha (hargs x hx)];exact q2 x hx
     exact⟨d',hd',cs,q0,by rw[ha d' hdR];exact q1,e2,by rw[e1];exact q3,HK ha hf.1 hd' q4⟩
    ·rename_i hc
     rw[At hc]
     have hadc:∀x xs,c.args.toList=x::xs->(HU x).all (λp=>aO R W p (σ p))=true:=λx xs e=>by
      have:=hf.2.1
      unfold UT at this
      rw[Aa,Aa]at this
      simpa[adC,ho,hcal,e]using this.2.1
     rcases h with h|h|h
     ·exact .inl (iW ha hf hargs h)
     ·exact .inr (.inl (iV ha hf hargs hadc h))
     ·have key:∀{d}{X:Prop},T6 P d f c.args.toList σ K->X:=λh=>by
       rcases h with⟨s,xs,cs,cs',D,q2,q3,q4,_⟩|⟨zs,x,xs,ys,us,os,os',r,D,q1,q2,_⟩|⟨zs,x,s,n,n',e,cs,cs',r,q1,q2,q3,_⟩
       ·have h9:=hadc _ _ q2
        simp only[HU,Bz,EV,CC,q3,aO,q4,FX]at h9
        cases h9
       ·have h9:(c.args.toList.flatMap HU).all (λp=>Uu (σ p))=true:=by
         have:=hf.2.1
         unfold UT at this
         rw[Aa,Aa]at this
         have:=this.2.2
         simp only[adS,ho,hcal,EO,Aa]at this
         exact this.2
        cases us with
        |nil=>cases q2
        |cons u us=>
         simp only[AC,C2]at q2
         cases x with
         |tmp p=>
          have e:σ p=.tok u:=q2.1
          have:=Ah.1 h9 p (Cj.2 ⟨.tmp p,by rw[q1];simp,by simp[HU]⟩)
          rw[e]at this
          cases this
         |const v=>
          have e:cV v=.tok u:=q2.1
          unfold cV at e
          split at e<;>first|(cases e;done)|(split at e<;>cases e)
         |global g=>cases q2.1
         |func g=>cases q2.1
       ·have h9:(c.args.toList.flatMap HU).all (λp=>Uu (σ p))=true:=by
         have:=hf.2.1
         unfold UT at this
         rw[Aa,Aa]at this
         have:=this.2.2
         simp only[adS,ho,hcal,EO,Aa]at this
         exact this.2
        cases x with
        |tmp p=>
         have e:σ p=.same s:=q2
         have:=Ah.1 h9 p (Cj.2 ⟨.tmp p,by rw[q1];simp,by simp[HU]⟩)
         rw[e]at this
         cases this
        |const v=>
         have e:cV v=.same s:=q2
         unfold cV at e
         split at e<;>first|(cases e;done)|(split at e<;>cases e)
        |global g=>cases q2
        |func g=>cases q2
      refine .inr (.inr ?_)
      unfold UY at *
      split at h
      ·exact key h.2
      ·rename_i d' hd'
       exact Sv ha hf hd' key h
   ·rename_i u hcv
    have h9:=hf.2.1
    unfold UT at h9
    rw[Aa,Aa]at h9
    have h8:(HU x).all (λp=>Uu (σ p))=true:=by
     have:=h9.2.2
     simp only[adS,ho,hcal,EO,Aa]at this
     exact this.1
    cases x with
    |tmp p=>
     have e:σ p=.tok u:=hcv
     simp[HU,e,Uu]at h8
    |const v=>
     have e:cV v=.tok u:=hcv
     unfold cV at e
     split at e<;>first|(cases e;done)|(split at e<;>cases e)
    |global g=>cases hcv
    |func g=>cases hcv
   ·unfold YZ at *
    split at h
    ·rename_i d' q b hd hg
     rw[ha q (h2' q b hg)]
     exact⟨h.1,h.2.1,h.2.2.1,HK ha hf.1 hd h.2.2.2⟩
    ·exact h
  ·rename_i d' x y t t' hcal hd hargs' hts
   have hW:=dE h1 (h5.resolve_left (by simp[simple,ho,hcal]))
   rw[ho]at hW
   have hargsW:∀x∈c.args.toList,(HU x).all W.contains=true:=λx hxm=>OK (g:=HU) hW (by simp only[Op.operands,Call.operands];simp;exact .inr (by simpa using hxm))
   have hxW:=hargsW x (by rw[hargs'];simp)
   have hyW:=hargsW y (by rw[hargs'];simp)
   have hx1:=hargs x (by rw[hargs'];simp)
   have hy1:=hargs y (by rw[hargs'];simp)
   have key:∀{σ τ:PS},ET R σ τ->QN tb t t' x y d' σ K->QN tb t t' x y d' τ (Loc W σ τ K):=by
    intro σ τ ha h2
    unfold QN at *
    obtain⟨us,e1,e2,e3⟩:=Sf σ x
    have hag:ET R (CO σ x) (CO τ x):=by
     intro s hs
     rw[e2,e3 τ (TU ha hx1)]
     by_cases hk:s∈us.map (·.1)
     ·exact Wo hk
     ·rw[Nu hk,Nu hk];exact ha s hs
    rw[G8 ha hx1,G8 hag hy1]
    split at h2
    ·obtain⟨q1,q2,q3,q4,q5⟩:=h2
     refine⟨q1,q2,q3,q4,?_⟩
     obtain⟨vs,f1,f2,f3⟩:=Sf (CO σ x) y
     have k1:CO (CO σ x) y=Ol σ (vs++us):=by rw[f2,e2,UO]
     have k2:CO (CO τ x) y=Ol τ (vs++us):=by rw[f3 _ (TU hag hy1),e3 τ (TU ha hx1),UO]
     rw[k1]at q5
     rw[k2]
     refine q5.imp (λq5=>?_) (λq5=>⟨?_,q5.2⟩)
     ·refine Sy (us:=(d',_)::(vs++us)) ha hf.1 (λq hq=>?_) (λd'' hd'=>?_) q5
      ·simp only[AC,B7,AB,Al,e1,f1]at hq
       rcases hq with rfl|hq|hq
       ·exact h3 _ hd
       ·exact PT hyW hq
       ·exact PT hxW hq
      ·rw[hd]at hd';injection hd' with hd';subst hd';simp
     ·refine Sy (us:=(d',_)::(d',_)::(vs++us)) ha hf.1 (λq hq=>?_) (λd'' hd'=>?_) q5.1
      ·simp only[AC,B7,AB,Al,e1,f1]at hq
       rcases hq with rfl|rfl|hq|hq
       ·exact h3 _ hd
       ·exact h3 _ hd
       ·exact PT hyW hq
       ·exact PT hxW hq
      ·rw[hd]at hd';injection hd' with hd';subst hd';simp
    ·exact h2
   refine Sv ha hf hd (λh=>?_) h
   rcases h with h|⟨hg,s,u,e,n,cs,q1,q2,q3,q4⟩
   ·exact .inl (key ha h)
   ·right
    subst q1
    have hb9:=hf.2.2
    rw[Aa]at hb9
    have hb8:=hb9.1
    simp only[adU,ho,hcal,hargs',HU,Bz,EV,CC,q2,Wx,Aa]at hb8
    have hsR:R.contains s=true:=PT hx1 (by simp[HU])
    have hsW:W.contains s=true:=PT hxW (by simp[HU])
    have hgW:W.contains gU=true:=by
     rcases h5.resolve_left (by simp[simple,ho,hcal]) gU hb8.2 with h|h
     ·exact h
     ·unfold gO gT at h
      rw[Aa]at h
      have h':=h.1
      split at h'
      ·rename_i q b hq
       have:gU=q:=by simpa using h'
       exact absurd hq (by rw[<-this];exact hg b)
      ·simp at h'
    have ha2:ET R (upd (upd σ s (.own e n cs)) gU .undef) (upd (upd τ s (.own e n cs)) gU .undef):=λq hq=>by
     by_cases k1:q=gU
     ·subst k1;rw[upd_same,upd_same]
     ·rw[upd_ne _ _ k1,upd_ne _ _ k1]
      by_cases k2:q=s
      ·subst k2;rw[upd_same,upd_same]
      ·rw[upd_ne _ _ k2,upd_ne _ _ k2];exact ha q hq
    refine⟨hg,s,u,e,n,cs,rfl,by rw[ha s hsR];exact q2,by rw[ha gU hb8.2];exact q3,UV (λτ' ⟨σ',k1,k2,k3⟩=>⟨σ',k1,?_,λq hq=>?_⟩) (key ha2 q4)⟩
    ·rw[k2]
     funext q
     unfold pt
     split
     ·rfl
     ·rename_i hq
      rw[upd_ne _ _ (λe=>hq (by rw[e];exact hgW)),upd_ne _ _ (λe=>hq (by rw[e];exact hsW))]
    ·rw[k3 q hq,upd_ne _ _ (λe=>by rw[e,hgW]at hq;cases hq),upd_ne _ _ (λe=>by rw[e,hsW]at hq;cases hq)]
  ·exact SG ha hf h
 ·rename_i t x f d ho hd
  rw[ho]at hx
  refine Sv ha hf hd (λh2=>?_) h
  unfold dC at *
  rw[G8 ha (by simpa[QB,Op.operands]using hx)]
  split at h2
  ·split at h2
   ·exact HK ha hf.1 hd h2
   ·exact h2
  ·exact h2
 ·rename_i f fs caps d ho hd
  have:=hf.1
  simp[SX,ho]at this
 ·exact SG ha hf h
end
def ptS(cns:zN):zN:=(cns.filter (λc=>Nat.ble 2000000 c)).map (λc=>c - 2000000)
def ka:V->Bool
 |.box _=>true
 |_=>false
def bxS(cns:zN)(σ:PS):Bool:=(ptS cns).all (λp=>ka (σ p))
def spc(cns:zN)(o:LO):Bool:=match o.op,o.dst,o.g with
 |.move (.tmp p),some d,none=> !cns.contains d&&(ptS cns).contains p
 |_,_,_=>false
def fpX(cns R W:zN)(o:LO):Bool:=spc cns o&&((o.dst.toList).all W.contains&&W.all (λs=>o.dst==some s))
def fpB(cns R W:zN)(o:LO):Bool:=SX cns R W o || fpX cns R W o
def adB(cns R:zN)(o:LO)(σ:PS):Bool:=((adU cns o).all (λp=>Wx R (σ p))&&(adT cns o).all (λp=>lr (σ p)))&&bxS cns σ
def fpS(cns R W:zN)(o:LO)(σ:PS):Prop:=fpB cns R W o=true∧UT R W o.op σ=true∧adB cns R o σ=true
theorem Zz{P:Program}{tb:Tb}{cns R W:zN}{σ τ:PS}{o:LO}{K:PS->Prop}(ha:ET R σ τ)(hτ:bxS cns τ=true)(hf:fpS cns R W o σ)(h:F0 P tb cns o σ K):F0 P tb cns o τ (Loc W σ τ K):=by
 obtain⟨h1,h2,h3⟩:=hf
 unfold adB at h3
 rw[Aa]at h3
 unfold fpB at h1
 rw[BP]at h1
 rcases h1 with h1|h1
 ·exact kF ha ⟨h1,h2,h3.1⟩ h
 ·unfold fpX at h1
  rw[Aa,Aa]at h1
  obtain⟨hs,hw1,hw2⟩:=h1
  obtain⟨dst,op,ty,g⟩:=o
  unfold spc at hs
  split at hs
  ·rename_i p d e1 e2 e3
   simp only at e1 e2 e3
   subst e1 e2 e3
   rw[Aa,Ax]at hs
   have hp:=AS.1 hs.2
   have hσ:ka (σ p)=true:=Ah.1 h3.2 p hp
   have ht:ka (τ p)=true:=Ah.1 hτ p hp
   simp only[F0]at h⊢
   rw[At (by rw[hs.1];simp)]at h⊢
   cases hσp:σ p<;>rw[hσp]at hσ<;>first|cases hσ|skip
   cases hτp:τ p<;>rw[hτp]at ht<;>first|cases ht|skip
   simp only[Jv,pc,pv,mvV,mvC,hσp,hτp]at h⊢
   refine⟨trivial,upd σ d (.cref p 0),h.2,?_,λq hq=>?_⟩
   ·funext q
    unfold pt
    by_cases hqd:q=d
    ·subst hqd
     have hwq:W.contains q=true:=by simpa using hw1
     rw[Av hwq,upd_same,upd_same]
    ·rw[upd_ne _ _ hqd,upd_ne _ _ hqd]
     rw[At]
     intro hwq
     have:=Ah.1 hw2 q (AS.1 hwq)
     simp only[Bc,Ap]at this
     exact hqd this.symm
   ·have hqd:q≠d:=λe=>by
     subst e
     simp only[Option.toList_some,Bz,EV,CC]at hw1
     rw[hw1]at hq;cases hq
    rw[upd_ne _ _ hqd]
  ·cases hs
end
end Go.Proofs.YthghcmmlmfgkbaaGreatDoor
