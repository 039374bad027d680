/-
 A machine on data, part 5: lists that are lent. Over no program; no conditions.
-/
import Derived.Test.YtplejokflpkcbaaGreatDoorKb
open Go.RowKit
set_option linter.unusedVariables false
set_option linter.unusedSimpArgs false
namespace Go.Proofs.YtplejokflpkcbaaGreatDoor
def M4(B:Nat->List Nat):Nat->Nat->List Nat
 |_,0=>[]
 |k,n+1=>B k++M4 B (k+1) n
theorem MM{B:Nat->List Nat}{g:Nat}:∀{n k:Nat},g∈M4 B k n->∃i,k<=i∧i < k+n∧g∈B i
 |0,_,h=>by simp[M4]at h
 |n+1,k,h=>by
  rw[M4,Aq]at h
  rcases h with h|h
  ·exact⟨k,Bl _,by omega,h⟩
  ·obtain⟨i,h1,h2,h3⟩:=MM h
   exact⟨i,by omega,by omega,h3⟩
theorem MN{B:Nat->List Nat}(h1:∀i,(B i).Nodup)(h2:∀i j,i≠j->∀g∈B i,g∉B j):∀(n k:Nat),(M4 B k n).Nodup
 |0,_=>AD
 |n+1,k=>by
  rw[M4]
  refine Ay.2 ⟨h1 k,MN h1 h2 n (k+1),λa ha b hb e=>?_⟩
  obtain⟨i,q1,_,q3⟩:=MM hb
  exact h2 k i (by omega) a ha (e ▸ q3)
section
variable {P:Program}{w:World}{St:Nat->Nat->Prop}
theorem Ti{B:Nat->List Nat}:∀(os:List V) (us:List Value) (k:Nat),us.length=os.length->(∀i c u,os[i]? =some c->us[i]? =some u->c.Di=true∧Ow P w St c u (B (k+i)))->Bd P w St os us (M4 B k os.length)
 |[],us,_,hl,_=>⟨HP.1 hl,rfl⟩
 |c::os,[],_,hl,_=>by cases hl
 |c::os,u::us,k,hl,h=>by
  obtain⟨h1,h2⟩:=h 0 c u rfl rfl
  refine⟨u,us,B k,M4 B (k+1) os.length,rfl,rfl,h1,h2,Ti os us (k+1) (by simpa using hl) λi c' u' hc hu=>?_⟩
  have:=h (i+1) c' u' (by simpa using hc) (by simpa using hu)
  rwa [show k+(i+1)=k+1+i from by omega]at this
end
section
variable {P:Program}{tb:Tb}
def slots(σ:PS)(n:Nat):List V:=(List.range n).map σ
def jy(bx:List Nat)(n:Nat):Bool:=(List.range n).all λi=>bx.contains i&&bx.contains (Nk+i)
theorem mL(htb:H1 P tb){f:FuncId}{fn:Func}{c:Code}{os args os':List V}{rb:Bool}(hf:P.funcs[f]? =some fn)(hb:fn.body=some c)(hname:(fn.name== "runtime.NumGoroutine")=false)(bx:List Nat)(hlen:os.length+args.length<=fn.ntmps)(h0:jy bx os.length=true)(hargs:args.all Hl=true)
  (hn:(fn.results.toList.map I7).Nodup) (hcs:Ez os=true) (hob:os.all Ss=true) (hcs':Ez os'=true) (hcl:os'.all V.Di=true) (h:KD P fn.ntmps bx c (Ej (os++args.map He)) (λe σ=>(e=.ret∨e=.normal)∧Ue tb σ fn.results.toList=some (.bool rb)∧slots σ os.length=os')):Mv P f [] os args os' (.bool rb):=by
 refine⟨⟨fn,hf,by rw[hb];rfl,hname⟩,λw St us bs0 vs1 vs hst hgl hrow hnd hrg hv1 hvs=>?_⟩
 cases hv1
 have hN:∀b o,(St b o∧b∉bs0)->(b < w.heap.size∧b∉bs0):=λb o h=>⟨hst b o h.1,h.2⟩
 have hvs0:=M1.KE (N:=λb=>b < w.heap.size∧b∉bs0) hN hargs hvs
 have hvs':M1 w (λb o=>St b o∨(b < w.heap.size∧b∉bs0)) (args.map He) vs:=hvs0.mono (λb o h=>h.imp (·.1) id) (λ_ _ _=>rfl)
 have hst':∀b o,(St b o∨(b < w.heap.size∧b∉bs0))->b < w.heap.size:=λb o h=>h.elim (hst b o) (·.1)
 have hrow':Bd P w (λb o=>St b o∨(b < w.heap.size∧b∉bs0)) os us bs0:=Bd.kept os hcs hrow (λk hk=>⟨rfl,λo=>⟨λh=>h.elim id (λh=>absurd hk h.2),.inl⟩⟩)
 have hpl:(args.map He).all KX=true:=by
  rw[Hv,Ae]
  exactλx hx=>TT (Ae.1 hargs x hx)
 obtain⟨hl,hat⟩:=args_at hvs'
 rw[As]at hl
 have hul:=Bd.length hrow
 obtain⟨β,k1,k2,k3,k4⟩:=Ra hrow' hnd
 have hbx:∀i,i < os.length->i∈bx∧Nk+i∈bx:=λi hi=>by
  have:=Ae.1 h0 i (An.2 hi)
  simpa[Ab,Av]using this
 have hin:∀s,s < os.length->∃c u,os[s]? =some c∧us[s]? =some u∧Ej (os++args.map He) s=c∧Ss c=true:=λs hs=>by
  refine⟨os[s],us[s]'(by omega),Af hs,Af _,?_,Ae.1 hob _ (Ak hs)⟩
  simp only[Ej,BT hs,Af hs,BB]
 have hout:∀s,¬s < os.length->Ej (os++args.map He) s=(((args.map He)[s - os.length]?).getD (.tup [])):=λs hs=>by
  simp only[Ej,BJ (JE hs)]
 refine Gd hf hb ?_
 have hrel:Rel P fn.ntmps bx ⟨λb=>b < w.heap.size∧b∉bs0,(List.range os.length).map λi=>(i,us.getD i undef)⟩ (λb o=>St b o∨(b < w.heap.size∧b∉bs0)) w (Ej (os++args.map He)) {tmps:=(us++vs).toArray++Array.replicate (fn.ntmps - (us++vs).toArray.size) undef,defers:=[]} w:=by
  refine⟨_,λs=>if s < os.length then β s else [],?_,BelowK.refl _ _,λ_ _ _=>DB,λ_ h=>h.1⟩
  refine
  {size:=by simp;omega
   defers:=rfl
   slot:=λs=>?_
   boxes:=λs cs e=>?_
   crefs:=λs b e=>?_
   nodup:=λs=>by
    split
    ·exact k3 s
    ·exact AD
   apart:=λs t hst k hk hk'=>by
    split at hk
    ·split at hk'
     ·exact k4 s t hst k hk hk'
     ·simp at hk'
    ·simp at hk
   hnodup:=AD
   hapart:=λ_ k hk=>by simp
   range:=λs k hk=>by
    split at hk
    ·exact⟨λh=>h.2 (k2 s k hk),hrg k (k2 s k hk)⟩
    ·simp at hk
   hrange:=λk hk=>by simp at hk
   st:=hst'
   gl:=hgl.of (λb hb o=>.inl (hb o)) (λ_ _ _=>rfl)
   pin:=λv e=>by
    obtain⟨i,hi,rfl⟩:=Bh.1 e
    rw[An]at hi
    rw[Ph]
    refine⟨?_,hbx i hi⟩
    simp only[BT (show i < us.length by omega),Au]}
  ·rw[Ph]
   by_cases hs:s < os.length
   ·obtain⟨c,u,q1,q2,q3,q4⟩:=hin s hs
    rw[AI hs,q3,BT (show s < us.length by omega),q2,BB]
    exact(k1 s c u q1 q2).slot
   ·rw[AJ hs,hout s hs,BJ (show us.length<=s by omega),hul]
    cases hc:(args.map He)[s - os.length]? with
    |none=>
     have:vs[s - os.length]? =none:=by
      rw[Et,As]at hc
      rw[Et];omega
     simp only[this,HA]
     exact⟨[],rfl,rfl,rfl⟩
    |some c=>
     obtain⟨v,hv,hr⟩:=hat (s - os.length) c hc
     simp only[hv,BB]
     exact(Q7 (Ae.1 hpl c (Bo hc)) hr).slot
  ·by_cases hs:s < os.length
   ·obtain⟨c,u,q1,q2,q3,q4⟩:=hin s hs
    exact(hbx s hs).1
   ·rw[hout s hs]at e
    cases hc:(args.map He)[s - os.length]? with
    |none=>rw[hc]at e;cases e
    |some c=>
     rw[hc]at e
     have hp:=Ae.1 hpl c (Bo hc)
     simp only[BB]at e
     cases c<;>first|(cases hp;done)|(cases e;done)
  ·by_cases hs:s < os.length
   ·obtain⟨c,u,q1,q2,q3,q4⟩:=hin s hs
    rw[q3]at e
    cases c<;>first|(cases q4;done)|(cases e;done)
   ·rw[hout s hs]at e
    cases hc:(args.map He)[s - os.length]? with
    |none=>rw[hc]at e;cases e
    |some c=>
     rw[hc]at e
     have hp:=Ae.1 hpl c (Bo hc)
     simp only[BB]at e
     cases c<;>first|(cases hp;done)|(cases e;done)
 refine Fs (h _ _ _ _ _ hrel) ?_
 rintro e a' w' ⟨σ',⟨he,hres,hbox⟩,St1,B',h1,h2,h3,h4⟩
 have hfin:a'.defers=[]∧∃v,(results fn a'.tmps).run P w'=.ok v w'∧pj P w St us bs0 os' (.bool rb) (.returned v) w':=by
  obtain⟨v,bs,q1,q2,q3,q4⟩:=SF htb h1 hn hres
  have hl':os'.length=os.length:=by rw[<-hbox];simp[slots]
  have hk:∀k∈M4 B' 0 os'.length,(k∈bs0∨w.heap.size<=k)∧k < w'.heap.size:=λk hk=>by
   obtain⟨i,_,_,hm⟩:=MM hk
   have hr:=h1.range i k hm
   refine⟨Bn λhc=>?_,hr.2⟩
   rw[not_or]at hc
   exact hr.1 ⟨by omega,hc.1⟩
  have hrow2:Bd P w' St1 os' us (M4 B' 0 os'.length):=by
   refine Ti os' us 0 (by omega) λi c u hc hu=>?_
   have hi:i < os.length:=by have:=(B5.1 hc).1;omega
   have hcc:V.Di c=true:=Ae.1 hcl c (Bo hc)
   have e1:σ' i=c:=by
    rw[<-hbox]at hc
    simp only[slots,BE,CE hi,Br,Ao]at hc
    exact hc
   have e2:tm a' i=u:=by
    have:=(h1.pin (i,us.getD i undef) (Bh.2 ⟨i,An.2 hi,rfl⟩)).1
    rw[Au,hu]at this
    exact this
   have hs:=h1.slot i
   rw[e1,e2]at hs
   rw[Dv]
   refine⟨hcc,?_⟩
   cases c<;>first|exact hs|cases hcc
  refine⟨h1.defers,v,q1,v,M4 B' 0 os'.length,λb o=>(b < w.heap.size∧b∉bs0∧St b o)∨((w.heap.size<=b∨b∈bs0)∧St1 b o),rfl,h2,λb o hb hbn=>?_,λb o hh=>?_,?_,⟨rfl,q2.2⟩,MN h1.nodup h1.apart _ _,hk⟩
  ·exact⟨λhh=>hh.elim (·.2.2) (λhh=>hh.1.elim (λh=>absurd hb (by omega)) (λh=>absurd h hbn)),λhh=>.inl ⟨hb,hbn,hh⟩⟩
  ·exact hh.elim (λhh=>Bv hh.1 h2.size) (λhh=>h1.st b o hh.2)
  ·exact Bd.kept os' hcs' hrow2 (λk hk'=>⟨rfl,λo=>⟨λhh=>hh.elim (λhh=>(hk k hk').1.elim (λh=>absurd h hh.2.1) (λh=>absurd hh.1 (by omega))) (·.2),λhh=>.inr ⟨(hk k hk').1.symm,hh⟩⟩⟩)
 rcases he with rfl|rfl
 ·exact hfin
 ·exact hfin
def aE(σ:PS)(m n:Nat):List V:=(List.range n).map λi=>σ (m+i)
def jz(bx:List Nat)(m n:Nat):Bool:=(List.range n).all λi=>bx.contains (m+i)&&bx.contains (Nk+(m+i))
theorem jx(htb:H1 P tb){f:FuncId}{fn:Func}{c:Code}{os args os':List V}{r:V}(hf:P.funcs[f]? =some fn)(hb:fn.body=some c)(hname:(fn.name== "runtime.NumGoroutine")=false)(bx:List Nat)(hlen:args.length+os.length<=fn.ntmps)(h0:jz bx args.length os.length=true)(hfl:flt r=true)(hargs:args.all Hl=true)
  (hn:(fn.results.toList.map I7).Nodup) (hcs:Ez os=true) (hob:os.all Ss=true) (hcs':Ez os'=true) (hcl:os'.all V.Di=true) (h:KD P fn.ntmps bx c (Ej (args.map He++os)) (λe σ=>(e=.ret∨e=.normal)∧Ue tb σ fn.results.toList=some r∧aE σ args.length os.length=os')):Mv P f args os [] os' r:=by
 refine⟨⟨fn,hf,by rw[hb];rfl,hname⟩,λw St us bs0 vs vs1 hst hgl hrow hnd hrg hvs hv1=>?_⟩
 cases hv1
 rw[Bp]
 have hN:∀b o,(St b o∧b∉bs0)->(b < w.heap.size∧b∉bs0):=λb o h=>⟨hst b o h.1,h.2⟩
 have hvs0:=M1.KE (N:=λb=>b < w.heap.size∧b∉bs0) hN hargs hvs
 have hvs':M1 w (λb o=>St b o∨(b < w.heap.size∧b∉bs0)) (args.map He) vs:=hvs0.mono (λb o h=>h.imp (·.1) id) (λ_ _ _=>rfl)
 have hst':∀b o,(St b o∨(b < w.heap.size∧b∉bs0))->b < w.heap.size:=λb o h=>h.elim (hst b o) (·.1)
 have hrow':Bd P w (λb o=>St b o∨(b < w.heap.size∧b∉bs0)) os us bs0:=Bd.kept os hcs hrow (λk hk=>⟨rfl,λo=>⟨λh=>h.elim id (λh=>absurd hk h.2),.inl⟩⟩)
 have hpl:(args.map He).all KX=true:=by
  rw[Hv,Ae]
  exactλx hx=>TT (Ae.1 hargs x hx)
 obtain⟨hl,hat⟩:=args_at hvs'
 rw[As]at hl
 have hul:=Bd.length hrow
 obtain⟨β,k1,k2,k3,k4⟩:=Ra hrow' hnd
 have hbx:∀i,i < os.length->args.length+i∈bx∧Nk+(args.length+i)∈bx:=λi hi=>by
  have:=Ae.1 h0 i (An.2 hi)
  simpa[Ab,Av]using this
 have hml:(args.map He).length=args.length:=As _
 have hin:∀s,args.length<=s->s < args.length+os.length->∃c u,os[s - args.length]? =some c∧us[s - args.length]? =some u∧Ej (args.map He++os) s=c∧Ss c=true:=λs hm hs=>by
  have hs':s - args.length < os.length:=by omega
  refine⟨os[s - args.length],us[s - args.length]'(by omega),Af hs',Af _,?_,Ae.1 hob _ (Ak hs')⟩
  simp only[Ej,BJ (show(args.map He).length<=s by omega),hml,Af hs',BB]
 have hlo:∀s,s < args.length->Ej (args.map He++os) s=(((args.map He)[s]?).getD (.tup [])):=λs hs=>by
  simp only[Ej,BT (show s < (args.map He).length by omega)]
 have hhi:∀s,args.length+os.length<=s->Ej (args.map He++os) s=.tup []:=λs hs=>by
  simp only[Ej,BJ (show(args.map He).length<=s by omega),A8 (show os.length<=s - (args.map He).length by omega),HA]
 refine Gd hf hb ?_
 have hrel:Rel P fn.ntmps bx ⟨λb=>b < w.heap.size∧b∉bs0,(List.range os.length).map λi=>(args.length+i,us.getD i undef)⟩ (λb o=>St b o∨(b < w.heap.size∧b∉bs0)) w (Ej (args.map He++os)) {tmps:=(vs++us).toArray++Array.replicate (fn.ntmps - (vs++us).toArray.size) undef,defers:=[]} w:=by
  refine⟨_,λs=>if args.length<=s∧s < args.length+os.length then β (s - args.length)else [],?_,BelowK.refl _ _,λ_ _ _=>DB,λ_ h=>h.1⟩
  refine
  {size:=by simp;omega
   defers:=rfl
   slot:=λs=>?_
   boxes:=λs cs e=>?_
   crefs:=λs b e=>?_
   nodup:=λs=>by
    split
    ·exact k3 _
    ·exact AD
   apart:=λs t hst k hk hk'=>by
    split at hk
    ·split at hk'
     ·exact k4 _ _ (by omega) k hk hk'
     ·simp at hk'
    ·simp at hk
   hnodup:=AD
   hapart:=λ_ k hk=>by simp
   range:=λs k hk=>by
    split at hk
    ·exact⟨λh=>h.2 (k2 _ k hk),hrg k (k2 _ k hk)⟩
    ·simp at hk
   hrange:=λk hk=>by simp at hk
   st:=hst'
   gl:=hgl.of (λb hb o=>.inl (hb o)) (λ_ _ _=>rfl)
   pin:=λv e=>by
    obtain⟨i,hi,rfl⟩:=Bh.1 e
    rw[An]at hi
    rw[Ph]
    refine⟨?_,hbx i hi⟩
    simp only[BJ (show vs.length<=args.length+i by omega),hl,CY,Au]}
  ·rw[Ph]
   by_cases hs:s < args.length
   ·rw[AJ (by omega),hlo s hs,BT (show s < vs.length by omega)]
    cases hc:(args.map He)[s]? with
    |none=>rw[Et]at hc;omega
    |some c=>
     obtain⟨v,hv,hr⟩:=hat s c hc
     simp only[hv,BB]
     exact(Q7 (Ae.1 hpl c (Bo hc)) hr).slot
   ·by_cases hs2:s < args.length+os.length
    ·obtain⟨c,u,q1,q2,q3,q4⟩:=hin s (by omega) hs2
     rw[AI ⟨by omega,hs2⟩,q3,BJ (show vs.length<=s by omega),hl,q2,BB]
     exact(k1 _ c u q1 q2).slot
    ·rw[AJ (by omega),hhi s (by omega),BJ (show vs.length<=s by omega),A8 (show us.length<=s - vs.length by omega),HA]
     exact⟨[],rfl,rfl,rfl⟩
  ·by_cases hs:s < args.length
   ·rw[hlo s hs]at e
    cases hc:(args.map He)[s]? with
    |none=>rw[hc]at e;cases e
    |some c=>
     rw[hc]at e
     have hp:=Ae.1 hpl c (Bo hc)
     simp only[BB]at e
     cases c<;>first|(cases hp;done)|(cases e;done)
   ·by_cases hs2:s < args.length+os.length
    ·have:=(hbx (s - args.length) (by omega)).1
     rwa [show args.length+(s - args.length)=s from by omega]at this
    ·rw[hhi s (by omega)]at e;cases e
  ·by_cases hs:s < args.length
   ·rw[hlo s hs]at e
    cases hc:(args.map He)[s]? with
    |none=>rw[hc]at e;cases e
    |some c=>
     rw[hc]at e
     have hp:=Ae.1 hpl c (Bo hc)
     simp only[BB]at e
     cases c<;>first|(cases hp;done)|(cases e;done)
   ·by_cases hs2:s < args.length+os.length
    ·obtain⟨c,u,q1,q2,q3,q4⟩:=hin s (by omega) hs2
     rw[q3]at e
     cases c<;>first|(cases q4;done)|(cases e;done)
    ·rw[hhi s (by omega)]at e;cases e
 refine Fs (h _ _ _ _ _ hrel) ?_
 rintro e a' w' ⟨σ',⟨he,hres,hbox⟩,St1,B',h1,h2,h3,h4⟩
 have hfin:a'.defers=[]∧∃v,(results fn a'.tmps).run P w'=.ok v w'∧pj P w St us bs0 os' r (.returned v) w':=by
  obtain⟨v,bs,q1,q2,q3,q4⟩:=SF htb h1 hn hres
  have hl':os'.length=os.length:=by rw[<-hbox];simp[aE]
  have hk:∀k∈M4 B' args.length os'.length,(k∈bs0∨w.heap.size<=k)∧k < w'.heap.size:=λk hk=>by
   obtain⟨i,_,_,hm⟩:=MM hk
   have hr:=h1.range i k hm
   refine⟨Bn λhc=>?_,hr.2⟩
   rw[not_or]at hc
   exact hr.1 ⟨by omega,hc.1⟩
  have hrow2:Bd P w' St1 os' us (M4 B' args.length os'.length):=by
   refine Ti os' us args.length (by omega) λi c u hc hu=>?_
   have hi:i < os.length:=by have:=(B5.1 hc).1;omega
   have hcc:V.Di c=true:=Ae.1 hcl c (Bo hc)
   have e1:σ' (args.length+i)=c:=by
    rw[<-hbox]at hc
    simp only[aE,BE,CE hi,Br,Ao]at hc
    exact hc
   have e2:tm a' (args.length+i)=u:=by
    have:=(h1.pin (args.length+i,us.getD i undef) (Bh.2 ⟨i,An.2 hi,rfl⟩)).1
    rw[Au,hu]at this
    exact this
   have hs:=h1.slot (args.length+i)
   rw[e1,e2]at hs
   refine⟨hcc,?_⟩
   cases c<;>first|exact hs|cases hcc
  refine⟨h1.defers,v,q1,v,M4 B' args.length os'.length,λb o=>(b < w.heap.size∧b∉bs0∧St b o)∨((w.heap.size<=b∨b∈bs0)∧St1 b o),rfl,h2,λb o hb hbn=>?_,λb o hh=>?_,?_,(aj r hfl q2).2,MN h1.nodup h1.apart _ _,hk⟩
  ·exact⟨λhh=>hh.elim (·.2.2) (λhh=>hh.1.elim (λh=>absurd hb (by omega)) (λh=>absurd h hbn)),λhh=>.inl ⟨hb,hbn,hh⟩⟩
  ·exact hh.elim (λhh=>Bv hh.1 h2.size) (λhh=>h1.st b o hh.2)
  ·exact Bd.kept os' hcs' hrow2 (λk hk'=>⟨rfl,λo=>⟨λhh=>hh.elim (λhh=>(hk k hk').1.elim (λh=>absurd h hh.2.1) (λh=>absurd hh.1 (by omega))) (·.2),λhh=>.inr ⟨(hk k hk').1.symm,hh⟩⟩⟩)
 rcases he with rfl|rfl
 ·exact hfin
 ·exact hfin
def wY(tb:Tb)(rs:List ResultVar)(n:Nat)(os':List V)(r:V)(e:Exit)(σ:PS):Prop:=(e=.ret∨e=.normal)∧Ue tb σ rs=some r∧slots σ n=os'
theorem jw(htb:H1 P tb){f:FuncId}{nt:Nat}{bx:List Nat}{rs:List ResultVar}{l:LC}{os args os':List V}{rb:Bool}(hl:Lit P f nt bx rs l)(hlen:os.length+args.length<=nt)(hb:jy bx os.length=true)(hargs:args.all Hl=true)(hcs:Ez os=true)(hob:os.all Ss=true)(hcs':Ez os'=true)(hcl:os'.all V.Di=true)
  (h:LS P nt bx l (Ej (os++args.map He)) (wY tb rs os.length os' (.bool rb))):Mv P f [] os args os' (.bool rb):=by
 obtain⟨⟨fn,c,h1,h2,h3,rfl,rfl,h6,h7⟩,hn,hL⟩:=hl
 exact mL htb h1 h2 h3 bx hlen hb hargs hn hcs hob hcs' hcl (h c h6 h7 hL)
def oU(tb:Tb)(rs:List ResultVar)(m n:Nat)(os':List V)(r:V)(e:Exit)(σ:PS):Prop:=(e=.ret∨e=.normal)∧Ue tb σ rs=some r∧aE σ m n=os'
theorem fY(htb:H1 P tb){f:FuncId}{nt:Nat}{bx:List Nat}{rs:List ResultVar}{l:LC}{os args os':List V}{r:V}(hl:Lit P f nt bx rs l)(hlen:args.length+os.length<=nt)(hb:jz bx args.length os.length=true)(hfl:flt r=true)(hargs:args.all Hl=true)(hcs:Ez os=true)(hob:os.all Ss=true)(hcs':Ez os'=true)(hcl:os'.all V.Di=true)
  (h:LS P nt bx l (Ej (args.map He++os)) (oU tb rs args.length os.length os' r)):Mv P f args os [] os' r:=by
 obtain⟨⟨fn,c,h1,h2,h3,rfl,rfl,h6,h7⟩,hn,hL⟩:=hl
 exact jx htb h1 h2 h3 bx hlen hb hfl hargs hn hcs hob hcs' hcl (h c h6 h7 hL)
end
theorem fE{L:PL}:∀{xs:List Operand}{us:List Value},xs.map (Pk L)=us.map (λu=>some (V.tok u))->xs.map (Cl (Ce L))=us.map V.tok
 |[],[],_=>rfl
 |[],_::_,e=>by cases e
 |_::_,[],e=>by cases e
 |x::xs,u::us,e=>by
  simp only[AO,Db]at e
  rw[AO,AO,Dy e.1,fE e.2]
section
variable {P:Program}{tb:Tb}{cns:List Nat}{L:PL}{K:PS->Prop}{t:TypeId}
theorem qZ{d:Nat}{f:FuncId}{args:Array Operand}{ts:Array TypeId}{us:List Value}{ys:List Operand}{os as1 as os':List V}{r:V}{L1:PL}(S:List Nat)(zs xs:List Operand)(ha:args.toList=zs++(xs++ys))(hne:xs.isEmpty=false)(hs:lk L gS=some (.gh us os))(hm:xs.map (Pk L)=us.map (λu=>some (V.tok u)))(hx:(!S.contains gS&&(zs++ys).all (wR S))=true)(he1:erA (Ce L) zs as1)(he:erA (Ce L) ys as)(hd:Ez os=true)(hp:Mv P f as1 os as os' r)(hk:Sv L S=some L1)(hsf:sfY L1)(k:K (Ce ((d,r)::(gS,.gh us os')::L1)))(hc:cns.contains d=false:=by rfl):
  F0 P tb cns ⟨some d,.call {callee:=.value (.func f),args:=args,argTypes:=ts},t,none⟩ (Ce L) K:=by
 obtain⟨h1,h2⟩:=TZ he
 subst h2
 obtain⟨h3,h4⟩:=TZ he1
 subst h4
 rw[Ab,AC]at hx
 show Hm P cns _ f args.toList (Ce L) K
 unfold Hm
 rw[AJ (by simpa using hc)]
 cases xs with
 |nil=>cases hne
 |cons x xs=>
 refine .inr (.inr (.inr (.inl ⟨zs,x,xs,ys,us,os,os',r,Qn L (gS::S),ha,fE hm,CO hs,hd,?_,hp,?_,λq hq=>?_,?_⟩)))
 ·rw[Ae]at h1 h3⊢
  intro x hxm
  rw[Ab]
  refine⟨(Aq.1 hxm).elim (h3 x) (h1 x),?_⟩
  have:=Ae.1 hx.2 x hxm
  unfold wR at this
  split at this
  ·rename_i q
   simp only[dq,AC]
   cases hc:(Qn L (gS::S)).contains q with
   |false=>rfl
   |true=>exact absurd (AX _ (by simpa using this)) (Lo.1 hc).2
  ·rfl
  ·rfl
  ·rfl
  ·cases this
 ·cases hc:(Qn L (gS::S)).contains gS with
  |false=>rfl
  |true=>exact absurd (BO) (Lo.1 hc).2
 ·by_cases hD:(Qn L (gS::S)).contains q=true
  ·exact .inl hD
  ·right
   by_cases hm:q∈L.map (·.1)
   ·have hS:q∈S:=Bn λh=>hD (Lo.2 ⟨hm,λh'=>(AV.1 h').elim hq h⟩)
    obtain⟨L',k1,k2⟩:=AQ hk
    obtain⟨_,k2⟩:=Dq k2
    cases k2
    rw[CO ((Q4 k1).1 q hS)]
    exact aC hsf q
   ·rw[S5 hm];rfl
 ·have e4:upd (kill (Qn L (gS::S)) (Ce L)) gS (.gh us os')=Ce ((gS,.gh us os')::L1):=by
   rw[D4]
   funext q
   by_cases hq:q=gS
   ·subst hq;rw[upd_same,upd_same]
   ·rw[upd_ne _ _ hq,upd_ne _ _ hq];exact V4 hk hq
  show K (upd (upd (kill (Qn L (gS::S)) (Ce L)) gS (.gh us os')) d r)
  rw[e4]
  exact k
theorem ux:∀{a b:List V},Qi a=true->Qi b=true->Qi (a++b)=true
 |[],_,_,h=>h
 |c::a,b,h1,h2=>by
  rw[Qi,Ab]at h1
  rw[CS,Qi,Ab]
  exact⟨h1.1,ux h1.2 h2⟩
theorem qd{α:Type}{f:α->List V}(h:∀x,Qi (f x)=true):∀l:List α,Qi (l.flatMap f)=true
 |[]=>rfl
 |x::l=>by rw[AG];exact ux (h x) (qd h l)
theorem qU{d:Nat}{f:FuncId}{args:Array Operand}{ts:Array TypeId}{x:Operand}{s n n':Nat}{e:TypeId}{cs cs' as1:List V}{r:V}(zs:List Operand)(ha:args.toList=zs++[x])(hx:Pk L x=some (.same s))(hs:lk L s=some (.uni e n cs))(hf1:Qi cs=true)(hf2:Qi cs'=true)(hf3:flt r=true)(he1:erA (Ce L) zs as1)(hp:Mv P f as1 [.own e n cs] [] [.own e n' cs'] r)(k:K (Ce ((d,r)::(s,.uni e n' cs')::L)))(hc:cns.contains d=false:=by rfl):
  F0 P tb cns ⟨some d,.call {callee:=.value (.func f),args:=args,argTypes:=ts},t,none⟩ (Ce L) K:=by
 obtain⟨h3,h4⟩:=TZ he1
 subst h4
 show Hm P cns _ f args.toList (Ce L) K
 unfold Hm
 rw[AJ (by simpa using hc)]
 exact .inr (.inr (.inr (.inr ⟨zs,x,s,n,n',e,cs,cs',r,ha,Dy hx,CO hs,hf1,hf2,hf3,h3,hp,k⟩)))
end
end Go.Proofs.YtplejokflpkcbaaGreatDoor
namespace Go.Proofs.YtplejokflpkcbaaGreatDoor
def tE(U:Nat->Value)(j:Nat):List V:=[.tok (U j)]
theorem ztE{U:Nat->Value}(j:Nat):(tE U j).length=1:=rfl
theorem dtE{U:Nat->Value}(j:Nat):DE (tE U j)=true:=rfl
def IG{α:Type}(l:List α):List Nat:=(IC 0 l).map (·.1)
def YX(n:Nat):List Nat->List Nat->Bool
 |[],_=>true
 |j::J,seen=>(Nat.blt j n&& !seen.contains j)&&YX n J (j::seen)
def HC{α:Type}(l:List α)(J:List Nat):List α:=J.flatMap λj=>(l[j]?).toList
def Uc:List V->Bool
 |[.own _ _ _]=>true
 |_=>false
theorem e9:∀{ds:List V},Uc ds=true->∃e n cs,ds=[.own e n cs]
 |[],h=>by cases h
 |[c],h=>by cases c<;>first|exact⟨_,_,_,rfl⟩|cases h
 |c::d::ds,h=>by cases c<;>cases h
theorem tok1{ds:List V}(h:Uc ds=true):ds=[GZ ds]∧Ss (GZ ds)=true:=by
 obtain⟨e,n,cs,rfl⟩:=e9 h
 exact⟨rfl,rfl⟩
theorem XJ{c:V}(h:Ss c=true):∃e n cs,c=.own e n cs:=by
 cases c<;>first|exact⟨_,_,_,rfl⟩|cases h
theorem Y7{α:Type}{l:List α}:∀{J seen:List Nat},YX l.length J seen=true->(HC l J).length=J.length
 |[],_,_=>rfl
 |j::J,seen,h=>by
  simp only[YX,Ab]at h
  have hj:j < l.length:=by simpa[Nat.blt_eq]using h.1.1
  have:=Y7 h.2
  unfold HC at this⊢
  rw[AG,Ar,this,Af hj]
  simp;omega
section
variable {P:Program}{w:World}{St:Nat->Nat->Prop}{α:Type}{f:α->List V}{U:Nat->Value}
theorem cg(h1:∀x,Uc (f x)=true):∀(L:List (Nat×α)) {xs:List Value}{b:List Nat},Bd P w St (L.flatMap (pE f U)) xs b->Bd P w St ((L.map (·.1)).flatMap (tE U)) xs b
 |[],_,_,h=>h
 |p::L,_,_,h=>by
  obtain⟨e,n,cs,ef⟩:=e9 (h1 p.2)
  rw[AG]at h
  have e2:pE f U p=[.pin (U p.1) n (NI cs)]:=by unfold pE;rw[ef];rfl
  rw[e2]at h
  obtain⟨u,us',b1,b2,q1,q2,q3,⟨q4,q5⟩,q6⟩:=h
  rw[AO,AG]
  exact⟨u,us',b1,b2,q1,q2,rfl,⟨q4,q5.1,q5.1 ▸ q5.oneCell⟩,cg h1 L q6⟩
theorem kl(h1:∀x,Uc (f x)=true){l:List α}{us:List Value}{bs:List Nat}(ht:Bd P w St (l.map λx=>GZ (f x)) us bs)(hn:bs.Nodup)(hU:∀i,i < l.length->U i=us.getD i undef):
  ∀(J:List Nat) {xs:List Value}{b0:List Nat},YX l.length J []=true->Bd P w St (J.flatMap (tE U)) xs b0->∃b',Bd P w St ((HC l J).flatMap f) xs b'∧b'.Nodup∧∀g∈b',g∈bs:=by
 obtain⟨β,k1,k2,k3,k4⟩:=Ra ht hn
 have hlen:=ht.length
 rw[As]at hlen
 have key:∀(J seen:List Nat) {xs:List Value}{b0:List Nat},YX l.length J seen=true->Bd P w St (J.flatMap (tE U)) xs b0->
   ∃b',Bd P w St ((HC l J).flatMap f) xs b'∧b'.Nodup∧(∀g∈b',g∈bs)∧∀i∈seen,∀g∈β i,g∉b':=by
  intro J
  induction J with
  |nil=>
   intro seen xs b0 _ h
   exact⟨[],⟨h.1,rfl⟩,AD,by simp,by simp⟩
  |cons j J ih=>
   intro seen xs b0 hok h
   rw[AG]at h
   obtain⟨u,us',b1,b2,q1,q2,q3,⟨q4,q5,q6⟩,q7⟩:=h
   simp only[YX,Ab,AC]at hok
   obtain⟨⟨g1,g2⟩,g3⟩:=hok
   have hj:j < l.length:=by simpa[Nat.blt_eq]using g1
   obtain⟨b',r1,r2,r3,r4⟩:=ih (j::seen) g3 q7
   have hus:us[j]? =some u:=by
    have:=hU j hj
    rw[<-q5]at this
    rw[this,Au,Af (by omega)]
    rfl
   have htok:=k1 j _ _ (by rw[BE,Af hj];rfl) hus
   refine⟨β j++b',?_,?_,?_,?_⟩
   ·unfold HC
    rw[AG,Dd,Af hj]
    have e3:([l[j]]:List α).flatMap f=[GZ (f l[j])]:=by
     rw[AG,JB,Bp]
     exact(tok1 (h1 _)).1
    show Bd P w St (([l[j]]:List α).flatMap f++_) xs _
    rw[e3,q1]
    obtain⟨e,n,cs,ec⟩:=XJ (tok1 (h1 l[j])).2
    exact⟨u,us',β j,b',rfl,rfl,by rw[ec];rfl,htok,r1⟩
   ·refine Ay.2 ⟨k3 j,r2,λa ha b hb e=>?_⟩
    subst e
    exact r4 j (by simp) a ha hb
   ·intro g hg
    rcases Aq.1 hg with hg|hg
    ·exact k2 j g hg
    ·exact r3 g hg
   ·intro i hi g hg hm
    rcases Aq.1 hm with hm|hm
    ·have hne:i≠j:=λe=>by
      subst e
      have:seen.contains i=true:=by simpa using hi
      rw[this]at g2;cases g2
     exact k4 i j hne g hg hm
    ·exact r4 i (by simp[hi]) g hg hm
 intro J xs b0 hok h
 obtain⟨b',q1,q2,q3,_⟩:=key J [] hok h
 exact⟨b',q1,q2,q3⟩
theorem am(h1:∀x,Uc (f x)=true){e:TypeId}{J:List Nat}{v:Value}{b1:List Nat}{l:List α}{us:List Value}{bs:List Nat}(h:Ow P w St (.own e J.length (J.flatMap (tE U))) v b1)(ht:Bd P w St (l.map λx=>GZ (f x)) us bs)(hn:bs.Nodup)
  (hU:∀i,i < l.length->U i=us.getD i undef) (hok:YX l.length J []=true) (hb1:b1.Nodup) (hd:∀g∈b1,g∉bs):∃b',Ow P w St (.own e (HC l J).length ((HC l J).flatMap f)) v b'∧b'.Nodup∧∀g∈b',g∈b1∨g∈bs:=by
 obtain⟨hl,xs,bs',hx,hr,rfl,hst,h0⟩:=h
 obtain⟨n1,n2,n3⟩:=Ay.1 hb1
 obtain⟨b',q1,q2,q3⟩:=kl h1 ht hn hU J hok hr
 have hlen:=Y7 hok
 refine⟨v.ownBlock.toList++b',⟨by rw[hlen];exact hl,xs,b',by rw[hlen];exact hx,q1,rfl,by rw[hlen];exact hst,λhz=>?_⟩,?_,?_⟩
 ·have:HC l J=[]:=Bz hz
  rw[this];rfl
 ·refine Ay.2 ⟨n1,q2,λa ha b hb e=>?_⟩
  subst e
  exact hd a (AF _ ha) (q3 a hb)
 ·intro g hg
  rcases Aq.1 hg with hg|hg
  ·exact .inl (AF _ hg)
  ·exact .inr (q3 g hg)
end
section
variable {P:Program}{nt:Nat}{bx:List Nat}{σ:PS}{K:PS->Prop}{L:PL}{α:Type}{f:α->List V}{U:Nat->Value}{e:TypeId}
theorem eD{s:Nat}{c c':V}(hs:σ s=c)(W:∀w St t v bs,Cj P w St t c v bs->Cj P w St t c' v bs)(hb:(C2 c').isSome=(C2 c).isSome)(hrf:DL c'=none)(h:Gh P nt bx (upd σ s c') K):Gh P nt bx σ K:=
 i0 hs (λw St t v bs h hn=>⟨[],bs,by simp,λg hg=>hg,hn,(W w St t v bs h).mono (λ_ _ h=>.inl h) (λ_ _ _=>rfl) (λg hg=>⟨rfl,λo=>⟨λh=>h.elim id (λh=>by simp at h),.inl⟩⟩) (λ_ _=>rfl)⟩) hb hrf h
theorem gWl{s:Nat}{l:List (Nat×α)}(hs:lk L s=some (.own e l.length (l.flatMap (pE f U))))(h1:∀x,Uc (f x)=true)(h:Gh P nt bx (Ce ((s,.own e (l.map (·.1)).length ((l.map (·.1)).flatMap (tE U)))::L)) K):Gh P nt bx (Ce L) K:=by
 refine eD (c':=.own e (l.map (·.1)).length ((l.map (·.1)).flatMap (tE U))) (CO hs) (λw St t v bs hh=>?_) rfl rfl (by rw[D4]at h;exact h)
 obtain⟨hl,xs,bs',hx,hr,hb,hst,h0⟩:=(show Ow P w St _ v bs from hh)
 refine⟨by rw[As];exact hl,xs,bs',by rw[As];exact hx,cg h1 l hr,hb,by rw[As];exact hst,λhz=>?_⟩
 have:l=[]:=Bz (by rw[As]at hz;exact hz)
 subst this;rfl
theorem gWt{s:Nat}{u:Value}{n:Nat}{cs:List V}(hs:lk L s=some (.pin u n cs))(h:Gh P nt bx (Ce ((s,.tok u)::L)) K):Gh P nt bx (Ce L) K:=by
 refine eD (c':=.tok u) (CO hs) (λw St t v bs hh=>?_) rfl rfl (by rw[D4]at h;exact h)
 obtain⟨h1,h2⟩:=(show Ow P w St (.pin u n cs) v bs from hh)
 exact⟨h1,h2.1,(show v=u from h2.1) ▸ h2.oneCell⟩
theorem gTj{s q:Nat}{l:List α}{us:List Value}{J:List Nat}(hs:lk L s=some (.own e J.length (J.flatMap (tE U))))(hq:lk L q=some (.gh us (l.map λx=>GZ (f x))))(hsq:Nat.beq s q=false)(h1:∀x,Uc (f x)=true)(hU:∀i,i < l.length->U i=us.getD i undef)(hok:YX l.length J []=true)
  (h:Gh P nt bx (Ce ((q,.undef)::(s,.own e (HC l J).length ((HC l J).flatMap f))::L)) K):Gh P nt bx (Ce L) K:=by
 have hne:s≠q:=λe=>by rw[e]at hsq;simp at hsq
 rintro base St0 w0 a w ⟨St,B,hS,r1,r2,r3⟩
 have k1:=hS.slot s
 rw[CO hs]at k1
 have k2:=hS.slot q
 rw[CO hq]at k2
 obtain⟨b',q1,q2,q3⟩:=am h1 (show Ow P w St _ _ (B s)from k1) k2 (hS.nodup q) hU hok (hS.nodup s) (λg hg=>hS.apart s q hne g hg)
 refine h base St0 w0 a w ⟨St,upd (upd B s b') q [],?_,r1,r2,r3⟩
 rw[D4,D4,show upd (upd (Ce L) s (V.own e (HC l J).length ((HC l J).flatMap f))) q .undef=upd (upd (Ce L) s (V.own e (HC l J).length ((HC l J).flatMap f))) q .undef from rfl]
 exact Pi hS hne (by rw[CO hq];rfl) q1 (show Cj P w St (tm a) .undef _ []from rfl) (by rw[Bp];exact q2) (λg hg=>by rw[Bp]at hg;exact q3 g hg) (by rw[CO hs];rfl) rfl rfl rfl
theorem UN{l:List α}{i:Int}{x:α}(h:AZ l i=some x):l[i.toNat]? =some x:=by
 obtain⟨h1,h2,h3⟩:=CX h
 exact h3
end
section
variable {P:Program}{w:World}{St:Nat->Nat->Prop}
def SS(P:Program)(w:World)(St:Nat->Nat->Prop)(cs:List V)(us:List Value)(β:Nat->List Nat):Prop:=
 us.length=cs.length∧∀j c u,cs[j]? =some c->us[j]? =some u->c.Di=true∧Ow P w St c u (β j)
theorem SS.fill{cs:List V}{us:List Value}{β:Nat->List Nat}(h:SS P w St cs us β){i:Nat}{u:Value}{c:V}{d:List Nat}(hu:us[i]? =some u)(hc:c.Di=true)(ho:Ow P w St c u d):SS P w St (cs.set i c) us (λj=>if j=i then d else β j):=by
 refine⟨by rw[BG];exact h.1,λj c' u' h1 h2=>?_⟩
 rw[DM]at h1
 by_cases e:i=j
 ·subst e
  rw[AI rfl]at h1
  split at h1
  ·cases h1
   rw[hu]at h2
   cases h2
   dsimp only
   rw[AI rfl]
   exact⟨hc,ho⟩
  ·cases h1
 ·rw[AJ e]at h1
  dsimp only
  rw[AJ (λe':j=i=>e e'.symm)]
  exact h.2 j c' u' h1 h2
theorem SS.row{cs:List V}{us:List Value}{β:Nat->List Nat}(h:SS P w St cs us β):Bd P w St cs us (M4 β 0 cs.length):=
 Ti cs us 0 h.1 λi c u h1 h2=>by rw[Dv];exact h.2 i c u h1 h2
theorem bf{c:V}{u:Value}{b:List Nat}(hc:c.Di=true)(h:Ow P w St c u b):Ow P w St (.tok u) u []:=
 ⟨rfl,rfl,(Ow.rd c h (by cases c<;>first|rfl|cases hc)).oneCell⟩
theorem Bd.dX{cs:List V}{us:List Value}{bs:List Nat}(h:Bd P w St cs us bs)(hn:bs.Nodup)(hc:cs.all V.Di=true):∃β,SS P w St cs us β∧(∀i,∀g∈β i,g∈bs)∧(∀i,(β i).Nodup)∧∀i j,i≠j->∀g∈β i,g∉β j:=by
 obtain⟨β,k1,k2,k3,k4⟩:=Ra h hn
 exact⟨β,⟨h.length,λj c u h1 h2=>⟨Ae.1 hc c (Bo h1),k1 j c u h1 h2⟩⟩,k2,k3,k4⟩
end
theorem lc{β:Type}{cs:List β}{i p:Nat}{a b c d:β}(h:i≠p):(((cs.set i a).set p b).set i c).set p d=(cs.set i c).set p d:=by
 apply GV
 intro j
 simp only[DM,BG]
 by_cases e1:p=j
 ·simp[e1]
 ·by_cases e2:i=j
  ·subst e2;simp[e1]
  ·simp[e1,e2]
section
variable {P:Program}{nt:Nat}{bx:List Nat}{K:PS->Prop}{L:PL}{α:Type}{f:α->List V}{U:Nat->Value}
theorem Zj(h1:∀x,Uc (f x)=true)(l:List α):(l.map λx=>GZ (f x)).all V.Di=true:=by
 rw[Hv,Ae]
 intro x _
 obtain⟨e,n,cs,ec⟩:=XJ (tok1 (h1 x)).2
 show V.Di (GZ (f x))=true
 rw[ec];rfl
theorem Tk(h1:∀x,Uc (f x)=true)(x:α):(GZ (f x)).Di=true:=by
 obtain⟨e,n,cs,ec⟩:=XJ (tok1 (h1 x)).2
 rw[ec];rfl
theorem gT2{q:Nat}{l:List α}{us:List Value}{i p:Int}{x y:α}(hq:lk L q=some (.gh us (l.map λx=>GZ (f x))))(hg:lk L gS=none)(hqs:Nat.beq q gS=false)(h1:∀x,Uc (f x)=true)(hU:∀i,i < l.length->U i=us.getD i undef)(gi:AZ l i=some x)(gp:AZ l p=some y)(hip:Nat.beq i.toNat p.toNat=false)
  (h:Gh P nt bx (Ce ((gS,.gh [U i.toNat,U p.toNat] [GZ (f x),GZ (f y)])::(q,.gh us (((l.map λx=>GZ (f x)).set i.toNat (.tok (U i.toNat))).set p.toNat (.tok (U p.toNat))))::L)) K):Gh P nt bx (Ce L) K:=by
 have hne:q≠gS:=λe=>by rw[e]at hqs;simp at hqs
 have hip':i.toNat≠p.toNat:=λe=>by rw[e]at hip;simp at hip
 rintro base St0 w0 a w ⟨St,B,hS,r1,r2,r3⟩
 have k2:=hS.slot q
 rw[CO hq]at k2
 have k2':Bd P w St (l.map λx=>GZ (f x)) us (B q):=k2
 obtain⟨β,k1,kk2,k3,k4⟩:=k2'.dX (hS.nodup q) (Zj h1 l)
 have hlen:=k1.1
 rw[As]at hlen
 have hi:=UN gi
 have hp:=UN gp
 have hus:∀j z,l[j]? =some z->us[j]? =some (U j)∧Ow P w St (GZ (f z)) (U j) (β j):=λj z hz=>by
  have hj:=(B5.1 hz).1
  have e1:us[j]? =some (U j):=by rw[hU j hj,Au,Af (by omega)];rfl
  exact⟨e1,(k1.2 j _ _ (by rw[BE,hz];rfl) e1).2⟩
 obtain⟨ui,oi⟩:=hus _ _ hi
 obtain⟨up,op⟩:=hus _ _ hp
 have m1:=(k1.fill ui (c:=.tok (U i.toNat)) rfl (bf (Tk h1 x) oi)).fill up (c:=.tok (U p.toNat)) rfl (bf (Tk h1 y) op)
 have hβ:∀j g,g∈(if j=p.toNat then([]:List Nat)else if j=i.toNat then []else β j)->g∈β j∧j≠i.toNat∧j≠p.toNat:=λj g hg=>by
  split at hg
  ·simp at hg
  ·split at hg
   ·simp at hg
   ·exact⟨hg,by assumption,by assumption⟩
 obtain⟨bb,hbb,m2⟩:∃bb,bb=_∧Bd P w St _ us bb:=⟨_,rfl,m1.row⟩
 refine h base St0 w0 a w ⟨St,upd (upd B q bb) gS (β i.toNat++β p.toNat),?_,r1,r2,r3⟩
 rw[D4,D4]
 refine Pi hS hne (by rw[NS,hg];rfl) (show Cj P w St (tm a) (.gh us _) _ bb from m2) (show Cj P w St (tm a) (.gh [U i.toNat,U p.toNat] _) _ (β i.toNat++β p.toNat)from⟨_,_,β i.toNat,β p.toNat,rfl,rfl,Tk h1 x,oi,_,_,β p.toNat,[],rfl,(Bp _).symm,Tk h1 y,op,rfl,rfl⟩) ?_ ?_ (by rw[CO hq];rfl) rfl rfl rfl<;>subst hbb
 ·refine Ay.2 ⟨MN (λj=>?_) (λj k hjk g hg hg'=>k4 j k hjk g (hβ j g hg).1 (hβ k g hg').1) _ _,Ay.2 ⟨k3 _,k3 _,λa ha b hb e=>k4 _ _ hip' a ha (e ▸ hb)⟩,λa ha b hb e=>?_⟩
  ·split
   ·exact AD
   ·split
    ·exact AD
    ·exact k3 j
  ·subst e
   obtain⟨j,_,_,hj⟩:=MM ha
   obtain⟨q1,q2,q3⟩:=hβ j a hj
   rcases Aq.1 hb with hb|hb
   ·exact k4 j _ q2 a q1 hb
   ·exact k4 j _ q3 a q1 hb
 ·intro g hg
  left
  rcases Aq.1 hg with hg|hg
  ·obtain⟨j,_,_,hj⟩:=MM hg
   exact kk2 j g (hβ j g hj).1
  ·rcases Aq.1 hg with hg|hg
   ·exact kk2 _ g hg
   ·exact kk2 _ g hg
theorem gJ2{q:Nat}{l:List α}{us:List Value}{i p:Int}{x y x' y':α}(hg:lk L gS=some (.gh [U i.toNat,U p.toNat] [GZ (f x'),GZ (f y')]))(hq:lk L q=some (.gh us (((l.map λx=>GZ (f x)).set i.toNat (.tok (U i.toNat))).set p.toNat (.tok (U p.toNat)))))(hqs:Nat.beq q gS=false)(h1:∀x,Uc (f x)=true)(hU:∀i,i < l.length->U i=us.getD i undef)(gi:AZ l i=some x)(gp:AZ l p=some y)(hip:Nat.beq i.toNat p.toNat=false)
  (h:Gh P nt bx (Ce ((gS,.undef)::(q,.gh us ((Da (Da l i x') p y').map λx=>GZ (f x)))::L)) K):Gh P nt bx (Ce L) K:=by
 have hne:q≠gS:=λe=>by rw[e]at hqs;simp at hqs
 have hip':i.toNat≠p.toNat:=λe=>by rw[e]at hip;simp at hip
 rintro base St0 w0 a w ⟨St,B,hS,r1,r2,r3⟩
 have k2:=hS.slot q
 rw[CO hq]at k2
 have k2':Bd P w St _ us (B q):=k2
 have kS:=hS.slot gS
 rw[CO hg]at kS
 obtain⟨u1,us1,d1,d2',e1,e2,c1,o1,u2,us2,d2,d3,e3,e4,c2,o2,e5,e6⟩:=(show Bd P w St [GZ (f x'),GZ (f y')] _ (B gS)from kS)
 obtain⟨rfl,rfl⟩:=List.cons.inj e1
 obtain⟨rfl,rfl⟩:=List.cons.inj e3
 subst e6
 rw[Bp]at e4
 rw[e4]at e2
 have hcell:(((l.map λx=>GZ (f x)).set i.toNat (.tok (U i.toNat))).set p.toNat (.tok (U p.toNat))).all V.Di=true:=by
  rw[Ae]
  intro c hc
  rcases Ev hc with hc|rfl
  ·rcases Ev hc with hc|rfl
   ·exact Ae.1 (Zj h1 l) c hc
   ·rfl
  ·rfl
 obtain⟨β,k1,kk2,k3,k4⟩:=k2'.dX (hS.nodup q) hcell
 have hlen:=k1.1
 rw[BG,BG,As]at hlen
 have hi:=(B5.1 (UN gi)).1
 have hp:=(B5.1 (UN gp)).1
 have hus:∀j,j < l.length->us[j]? =some (U j):=λj hj=>by rw[hU j hj,Au,Af (by omega)];rfl
 have m1:=(k1.fill (hus _ hi) c1 o1).fill (hus _ hp) c2 o2
 rw[lc hip',<-List.map_set (f:=λx=>GZ (f x)),<-List.map_set (f:=λx=>GZ (f x))]at m1
 have hndS:=hS.nodup gS
 rw[e2]at hndS
 obtain⟨n1,n2,n3⟩:=Ay.1 hndS
 have hoff:∀j g,g∈β j->g∉d1∧g∉d2:=λj g hgm=>by
  have:=hS.apart q gS hne g (kk2 j g hgm)
  rw[e2,Aq,not_or]at this
  exact this
 have hβ:∀j g,g∈(if j=p.toNat then d2 else if j=i.toNat then d1 else β j)->(j=p.toNat∧g∈d2)∨(j=i.toNat∧g∈d1)∨g∈β j:=λj g hg=>by
  split at hg
  ·rename_i e;exact .inl ⟨e,hg⟩
  ·split at hg
   ·rename_i e;exact .inr (.inl ⟨e,hg⟩)
   ·exact .inr (.inr hg)
 obtain⟨bb,hbb,m2⟩:∃bb,bb=_∧Bd P w St _ us bb:=⟨_,rfl,m1.row⟩
 refine h base St0 w0 a w ⟨St,upd (upd B q bb) gS [],?_,r1,r2,r3⟩
 rw[D4,D4]
 refine Pi hS hne (by rw[CO hg];rfl) (show Cj P w St (tm a) (.gh us _) _ bb from m2) (show Cj P w St (tm a) .undef _ []from rfl) ?_ ?_ (by rw[CO hq];rfl) rfl rfl rfl<;>subst hbb
 ·rw[Bp]
  refine MN (λj=>?_) (λj k hjk g hg hg'=>?_) _ _
  ·split
   ·exact n2
   ·split
    ·exact n1
    ·exact k3 j
  ·rcases hβ j g hg with⟨q1,q2⟩|⟨q1,q2⟩|q2<;>rcases hβ k g hg' with⟨q3,q4⟩|⟨q3,q4⟩|q4
   ·exact hjk (q1.trans q3.symm)
   ·exact n3 g q4 g q2 rfl
   ·exact(hoff k g q4).2 q2
   ·exact n3 g q2 g q4 rfl
   ·exact hjk (q1.trans q3.symm)
   ·exact(hoff k g q4).1 q2
   ·exact(hoff j g q2).2 q4
   ·exact(hoff j g q2).1 q4
   ·exact k4 j k hjk g q2 q4
 ·intro g hg
  rw[Bp]at hg
  obtain⟨j,_,_,hj⟩:=MM hg
  rcases hβ j g hj with⟨_,q⟩|⟨_,q⟩|q
  ·exact .inr (by rw[e2];exact Az _ q)
  ·exact .inr (by rw[e2];exact AF _ q)
  ·exact .inl (kk2 j g q)
theorem hU2{l:List α}{us:List Value}{i p:Int}{x y:α}(hU:∀i,i < l.length->U i=us.getD i undef):∀j,j < (Da (Da l i x) p y).length->U j=us.getD j undef:=λj hj=>hU j (by simpa[Da]using hj)
end
theorem gJ{α:Type}{f:α->List V}{us:List Value}(h1:∀x,Uc (f x)=true)(hd:∀x,DE (f x)=true):∀(l:List α),JT (.gh us (l.map λx=>GZ (f x)))=true
 |[]=>rfl
 |x::l=>by
  have h2:DE (l.map λx=>GZ (f x))=true:=gJ (us:=us) h1 hd l
  have h3:=hd x
  rw[(tok1 (h1 x)).1,DE,Ab]at h3
  show DE (GZ (f x)::l.map λx=>GZ (f x))=true
  rw[DE,h3.1,h2]
  rfl
theorem VI{α:Type}:∀(l:List α) (k j:Nat),(IC k l)[j]? =(l[j]?).map λx=>(k+j,x)
 |[],_,_=>by simp[IC]
 |x::l,k,0=>by simp[IC]
 |x::l,k,j+1=>by
  rw[IC,CJ,CJ,VI l (k+1) j,show k+1+j=k+(j+1)from by omega]
theorem eC{α:Type}{l:List α}{i:Int}{a:Nat×α}(h:AZ (IC 0 l) i=some a):a.1=i.toNat∧AZ l i=some a.2:=by
 obtain⟨h1,h2,h3⟩:=CX h
 rw[VI,Dv]at h3
 cases hx:l[i.toNat]? with
 |none=>rw[hx]at h3;cases h3
 |some x=>
  rw[hx]at h3
  cases h3
  refine⟨rfl,?_⟩
  rw[VJ]at h2
  unfold AZ
  rw[AI h1]
  exact hx
section
variable {P:Program}{nt:Nat}{bx:List Nat}{K:PS->Prop}{L:PL}{α:Type}{f:α->List V}{U:Nat->Value}
theorem gT3{q:Nat}{l:List α}{us:List Value}{i p:Int}{a b:Nat×α}(hq:lk L q=some (.gh us (l.map λx=>GZ (f x))))(hg:lk L gS=none)(hqs:Nat.beq q gS=false)(h1:∀x,Uc (f x)=true)(hU:∀i,i < l.length->U i=us.getD i undef)(ga:AZ (IC 0 l) i=some a)(gb:AZ (IC 0 l) p=some b)(hip:Nat.beq a.1 b.1=false)
  (h:Gh P nt bx (Ce ((gS,.gh [U a.1,U b.1] [GZ (f a.2),GZ (f b.2)])::(q,.gh us (((l.map λx=>GZ (f x)).set a.1 (.tok (U a.1))).set b.1 (.tok (U b.1))))::L)) K):Gh P nt bx (Ce L) K:=by
 obtain⟨e1,g1⟩:=eC ga
 obtain⟨e2,g2⟩:=eC gb
 rw[e1,e2]at hip h
 exact gT2 hq hg hqs h1 hU g1 g2 hip h
theorem gJ3{q:Nat}{l:List α}{us:List Value}{i p:Int}{a b:Nat×α}{x' y':α}(hg:lk L gS=some (.gh [U a.1,U b.1] [GZ (f x'),GZ (f y')]))(hq:lk L q=some (.gh us (((l.map λx=>GZ (f x)).set a.1 (.tok (U a.1))).set b.1 (.tok (U b.1)))))(hqs:Nat.beq q gS=false)(h1:∀x,Uc (f x)=true)(hU:∀i,i < l.length->U i=us.getD i undef)(ga:AZ (IC 0 l) i=some a)(gb:AZ (IC 0 l) p=some b)(hip:Nat.beq a.1 b.1=false)
  (h:Gh P nt bx (Ce ((gS,.undef)::(q,.gh us ((Da (Da l i x') p y').map λx=>GZ (f x)))::L)) K):Gh P nt bx (Ce L) K:=by
 obtain⟨e1,g1⟩:=eC ga
 obtain⟨e2,g2⟩:=eC gb
 rw[e1,e2]at hip hg hq
 exact gJ2 hg hq hqs h1 hU g1 g2 hip h
end
theorem dx:∀{cs:List V}{i:Nat}{c:V},DE cs=true->Ov c=true->DE (cs.set i c)=true
 |[],_,_,_,_=>rfl
 |d::cs,0,c,h,hc=>by
  rw[DE,Ab]at h
  rw[List.set_cons_zero,DE,hc,h.2];rfl
 |d::cs,i+1,c,h,hc=>by
  rw[DE,Ab]at h
  rw[List.set_cons_succ,DE,h.1,dx h.2 hc];rfl
theorem yz{α:Type}{f:α->List V}{us:List Value}(h1:∀x,Uc (f x)=true)(hd:∀x,DE (f x)=true)(l:List α){i j:Nat}{u v:Value}:JT (.gh us (((l.map λx=>GZ (f x)).set i (.tok u)).set j (.tok v)))=true:=
 dx (dx (gJ (us:=us) h1 hd l) rfl) rfl
theorem qIp{P:Program}{tb:Tb}{cns:List Nat}{L:PL}{K:PS->Prop}{s t:TypeId}{x y:Operand}{d:Nat}{α:Type}{f g:α->List V}{l:List α}{i:Int}{e:α}{n:Nat}(h:iaO tb L s x y=some (l.length,NI (l.flatMap f),i,n))(he:∀x,NI (f x)=g x)(hf:∀x,(g x).length=n)(hi:AZ l i=some e)(k:K (Ce ((d,.adr (g e++(l.drop (i.toNat+1)).flatMap g) 0)::L))):F0 P tb cns ⟨some d,.indexAddr s x y,t,none⟩ (Ce L) K:=
 qI (by rw[h,Sh he]) hf hi k
end Go.Proofs.YtplejokflpkcbaaGreatDoor
namespace Go.Proofs.YtplejokflpkcbaaGreatDoor
section
variable {P:Program}{nt:Nat}{base:Bs}{bx:List Nat}{St St0:Nat->Nat->Prop}{B:Nat->List Nat}{hand:List Nat}{σ:PS}{a:Act}{w w0:World}{K:PS->Prop}{L:PL}
theorem HSim.fact(h:HSim P nt bx base St B hand σ a w){s q:Nat}(hs:∃cs,C2 (σ s)=some cs)(hq:C2 (σ q)=none):HSim P nt bx base St (upd B q []) hand (upd σ q (.val s (tm a s))) a w:=
 have hne:∀b,(∃cs,C2 (σ b)=some cs)->b≠q:=λb ⟨cs,e⟩ e'=>by rw[e',hq]at e;cases e
 have hin:∀r,∀g∈upd B q [] r,g∈B r:=λr g hg=>by
  by_cases e:r=q
  ·subst e;rw[upd_same]at hg;simp at hg
  ·rw[upd_ne _ _ e]at hg;exact hg
 {h with
  slot:=λr=>by
   by_cases e:r=q
   ·subst e;rw[upd_same,upd_same];exact⟨rfl,rfl⟩
   ·rw[upd_ne _ _ e,upd_ne _ _ e];exact h.slot r
  boxes:=λr cs e=>by
   by_cases e':r=q
   ·subst e';rw[upd_same]at e;cases e
   ·rw[upd_ne _ _ e']at e;exact h.boxes r cs e
  crefs:=λr b e=>by
   by_cases e':r=q
   ·subst e'
    rw[upd_same]at e
    simp only[DL,Ao]at e
    subst e
    rw[upd_ne _ _ (hne _ hs)];exact hs
   ·rw[upd_ne _ _ e']at e
    have:=h.crefs r b e
    rw[upd_ne _ _ (hne _ this)];exact this
  nodup:=λr=>by
   by_cases e:r=q
   ·subst e;rw[upd_same];exact AD
   ·rw[upd_ne _ _ e];exact h.nodup r
  apart:=λr t hrt g hg hg'=>h.apart r t hrt g (hin r g hg) (hin t g hg')
  hapart:=λr g hg=>h.hapart r g (hin r g hg)
  range:=λr g hg=>h.range r g (hin r g hg)}
theorem gFv{s:Nat}{cs:List V}(hs:lk L s=some (.box cs))(hq:lk L (gV s)=none)(h:∀u,Gh P nt bx (Ce ((gV s,.val s u)::L)) K):Gh P nt bx (Ce L) K:=by
 rintro base St0 w0 a w ⟨St,B,hS,r1,r2,r3⟩
 have h1:=hS.fact (s:=s) (q:=gV s) ⟨cs,by rw[CO hs];rfl⟩ (by rw[NS,hq];rfl)
 exact h (tm a s) base St0 w0 a w ⟨St,_,by rw[D4];exact h1,r1,r2,r3⟩
end
def RJ:Nat->List Value->PS->PS
 |_,[],σ=>σ
 |m,u::us,σ=>upd (RJ (m+1) us σ) (gV m) (.val m u)
theorem VM{σ:PS}{q:Nat}:∀{us:List Value}{m:Nat},(∀j,m<=j->q≠gV j)->RJ m us σ q=σ q
 |[],_,_=>rfl
 |u::us,m,h=>by rw[RJ,upd_ne _ _ (h m (Bl _)),VM λj hj=>h j (by omega)]
def tq(bx:List Nat)(m n:Nat):Bool:=(List.range n).all λi=>bx.contains (m+i)&&bx.contains (Nk+(m+i))
section
variable {P:Program}{nt:Nat}{base:Bs}{bx:List Nat}{St:Nat->Nat->Prop}{a:Act}{w:World}
theorem XC{σ:PS}:∀{us:List Value}{m:Nat}{B:Nat->List Nat},HSim P nt bx base St B [] σ a w->(∀i u,us[i]? =some u->tm a (m+i)=u∧(∃cs,C2 (σ (m+i))=some cs)∧m+i < 910000)->(∀j,m<=j->C2 (σ (gV j))=none)->∃B',HSim P nt bx base St B' [] (RJ m us σ) a w
 |[],_,B,h,_,_=>⟨B,h⟩
 |u::us,m,B,h,hu,hg=>by
  obtain⟨B1,h1⟩:=XC (us:=us) (m:=m+1) h (λi v hv=>by
   have:=hu (i+1) v (by simpa using hv)
   rwa [show m+(i+1)=m+1+i from by omega]at this) (λj hj=>hg j (by omega))
  obtain⟨q1,q2,q3⟩:=hu 0 u rfl
  rw[Ec]at q1 q2 q3
  have e1:RJ (m+1) us σ m=σ m:=VM λj _=>by unfold gV;omega
  have e2:RJ (m+1) us σ (gV m)=σ (gV m):=VM λj hj=>by unfold gV;omega
  have:=h1.fact (s:=m) (q:=gV m) (by rw[e1];exact q2) (by rw[e2];exact hg m (Bl _))
  rw[q1]at this
  exact⟨_,this⟩
end
section
variable {P:Program}{tb:Tb}
theorem tr(htb:H1 P tb){f:FuncId}{fn:Func}{c:Code}{us:List Value}{css css':List (List V)}{args:List V}{r:V}(hf:P.funcs[f]? =some fn)(hb:fn.body=some c)(hname:(fn.name== "runtime.NumGoroutine")=false)(bx:List Nat)(hlen:args.length+css.length<=fn.ntmps)(hnt:fn.ntmps<=910000)(h0:tq bx args.length css.length=true)(hargs:args.all KX=true)
  (hn:(fn.results.toList.map I7).Nodup) (hrp:r=.tup []∨HR r=true) (h:KD P fn.ntmps bx c (RJ args.length us (Ej (args++css.map V.box))) (λe σ=>(e=.ret∨e=.normal)∧Ue tb σ fn.results.toList=some r∧((List.range css.length).map λi=>σ (args.length+i))=css'.map V.box)):QT P f us css args css' r:=by
 refine⟨⟨fn,hf,by rw[hb];rfl,hname⟩,λw St bs0 vs hst hgl hrow hnd hrg hvs=>?_⟩
 obtain⟨hl,hat⟩:=args_at hvs
 have hul:=hrow.length
 have hss:((List.range css.length).map (args.length+ ·)).Nodup:=by
  unfold List.Nodup
  rw[E8]
  exact GU (λh e=>h (by omega)) (show(List.range css.length).Pairwise (· ≠ ·)from EJ)
 obtain⟨β,m1,m2,m3,m4⟩:=VA (ss:=(List.range css.length).map (args.length+ ·)) hrow hnd hss (by simp)
 have hssm:∀s,s∈(List.range css.length).map (args.length+ ·)↔args.length<=s∧s < args.length+css.length:=λs=>by
  rw[Bh]
  constructor
  ·rintro⟨i,hi,rfl⟩;rw[An]at hi;omega
  ·rintro⟨h1,h2⟩;exact⟨s - args.length,An.2 (by omega),by omega⟩
 have hbx:∀i,i < css.length->args.length+i∈bx∧Nk+(args.length+i)∈bx:=λi hi=>by
  have:=Ae.1 h0 i (An.2 hi)
  simpa[Ab,Av]using this
 have hini:∀s,s < args.length->Ej (args++css.map V.box) s=(args[s]?).getD (.tup []):=λs hs=>by
  simp only[Ej,BT hs]
 have hinb:∀s,args.length<=s->Ej (args++css.map V.box) s=((css[s - args.length]?).map V.box).getD (.tup []):=λs hs=>by
  simp only[Ej,BJ hs,BE]
 refine Gd hf hb ?_
 have hsim:HSim P fn.ntmps bx ⟨λb=>b < w.heap.size∧b∉bs0,(List.range css.length).map λi=>(args.length+i,us.getD i undef)⟩ St (λs=>if args.length<=s∧s < args.length+css.length then β s else []) [] (Ej (args++css.map V.box)) {tmps:=(vs++us).toArray++Array.replicate (fn.ntmps - (vs++us).toArray.size) undef,defers:=[]} w:=by
  refine
  {size:=by simp;omega
   defers:=rfl
   slot:=λs=>?_
   boxes:=λs cs e=>?_
   crefs:=λs b e=>?_
   nodup:=λs=>by
    split
    ·exact m3 s
    ·exact AD
   apart:=λs t hst k hk hk'=>by
    split at hk
    ·split at hk'
     ·rename_i q1 q2
      exact m4 s ((hssm s).2 q1) t ((hssm t).2 q2) hst k hk hk'
     ·simp at hk'
    ·simp at hk
   hnodup:=AD
   hapart:=λ_ k hk=>by simp
   range:=λs k hk=>by
    split at hk
    ·rename_i q1
     exact⟨λh=>h.2 (m2 s ((hssm s).2 q1) k hk),hrg k (m2 s ((hssm s).2 q1) k hk)⟩
    ·simp at hk
   hrange:=λk hk=>by simp at hk
   st:=hst
   gl:=hgl
   pin:=λv e=>by
    obtain⟨i,hi,rfl⟩:=Bh.1 e
    rw[An]at hi
    rw[Ph]
    refine⟨?_,hbx i hi⟩
    rw[BJ (by omega),hl,CY,Au]}
  ·rw[Ph]
   by_cases hs:s < args.length
   ·rw[AJ (by omega),hini s hs,BT (by omega)]
    obtain⟨v,hv,hr⟩:=hat s args[s] (Af hs)
    rw[Af hs,hv,BB,BB]
    exact(Q7 (Ae.1 hargs _ (Ak hs)) hr).slot
   ·rw[hinb s (by omega),BJ (by omega),hl]
    by_cases hs2:s < args.length+css.length
    ·rw[AI ⟨by omega,hs2⟩,Af (show s - args.length < css.length by omega),Af (show s - args.length < us.length by omega)]
     simp only[Br,BB]
     refine dR (m1 (s - args.length) s _ _ ?_ (Af _) (Af _))
     rw[BE,CE (by omega),Br]
     congr 1;omega
    ·rw[AJ (by omega),A8 (by omega),A8 (by omega)]
     exact⟨[],rfl,rfl,rfl⟩
  ·by_cases hs:s < args.length
   ·rw[hini s hs,Af hs,BB]at e
    have hp:=Ae.1 hargs _ (Ak hs)
    cases hc:args[s]<;>rw[hc]at e hp<;>first|(cases hp;done)|(cases e;done)
   ·by_cases hs2:s < args.length+css.length
    ·have:=(hbx (s - args.length) (by omega)).1
     rwa [show args.length+(s - args.length)=s from by omega]at this
    ·rw[hinb s (by omega),A8 (by omega)]at e
     cases e
  ·by_cases hs:s < args.length
   ·rw[hini s hs,Af hs,BB]at e
    have hp:=Ae.1 hargs _ (Ak hs)
    cases hc:args[s]<;>rw[hc]at e hp<;>first|(cases hp;done)|(cases e;done)
   ·rw[hinb s (by omega)]at e
    cases hc:css[s - args.length]? with
    |none=>rw[hc]at e;cases e
    |some cs=>rw[hc]at e;cases e
 obtain⟨B1,hsim1⟩:=XC (us:=us) (m:=args.length) hsim (λi u hu=>by
  have hi:i < css.length:=by have:=(B5.1 hu).1;omega
  refine⟨?_,?_,by omega⟩
  ·rw[Ph,BJ (by omega),hl,CY,hu];rfl
  ·rw[hinb _ (by omega),CY,Af hi]
   exact⟨_,rfl⟩) (λj _=>by
  have:args.length+css.length<=gV j:=by unfold gV;omega
  rw[hinb _ (by omega),A8 (by omega)];rfl)
 have hrel:Rel P fn.ntmps bx _ St w (RJ args.length us (Ej (args++css.map V.box))) _ w:=⟨St,B1,hsim1,BelowK.refl _ _,λ_ _ _=>DB,λ_ h=>h.1⟩
 refine Fs (h _ _ _ _ _ hrel) ?_
 rintro e a' w' ⟨σ',⟨he,hres,hbox⟩,St1,B',h1,h2,h3,h4⟩
 have hfin:a'.defers=[]∧∃v,(results fn a'.tmps).run P w'=.ok v w'∧pk P w St us bs0 css' r (.returned v) w':=by
  obtain⟨v,bs,q1,q2,q3,q4⟩:=SF htb h1 hn hres
  have hbs:bs=[]:=by
   rcases hrp with rfl|hrp
   ·obtain⟨_,_,h5⟩:=q2;exact h5.2
   ·cases r<;>first|exact q2.1|cases hrp
  subst hbs
  have hl':css'.length=css.length:=by have:=congrArg List.length hbox;simpa using this.symm
  have hbr:∀(n k:Nat) (ds:List (List V)) (vs':List Value),ds.length=n->vs'.length=n->(∀i d u,ds[i]? =some d->vs'[i]? =some u->σ' (args.length+(k+i))=.box d∧tm a' (args.length+(k+i))=u)->QE P w' St1 ds vs' (M4 B' (args.length+k) n):=by
   intro n
   induction n with
   |zero=>intro k ds vs' e1 e2 _;rw[HP.1 e1,HP.1 e2];exact⟨rfl,rfl⟩
   |succ n ih=>
    intro k ds vs' e1 e2 hh
    cases ds with
    |nil=>cases e1
    |cons d ds=>
     cases vs' with
     |nil=>cases e2
     |cons u vs'=>
      obtain⟨g1,g2⟩:=hh 0 d u rfl rfl
      have hs:=h1.slot (args.length+k)
      rw[Ec]at g1 g2
      rw[g1,g2]at hs
      refine⟨u,vs',B' (args.length+k),M4 B' (args.length+k+1) n,rfl,rfl,dR hs,?_⟩
      have:=ih (k+1) ds vs' (by simpa using e1) (by simpa using e2) (λi d' u' hd hu=>by
       have:=hh (i+1) d' u' (by simpa using hd) (by simpa using hu)
       rwa [show k+(i+1)=k+1+i from by omega]at this)
      rwa [show args.length+(k+1)=args.length+k+1 from by omega]at this
  have hk:∀k∈M4 B' (args.length+0) css'.length,(k∈bs0∨w.heap.size<=k)∧k < w'.heap.size:=λk hk=>by
   obtain⟨i,_,_,hm⟩:=MM hk
   have hr:=h1.range i k hm
   refine⟨Bn λhc=>?_,hr.2⟩
   rw[not_or]at hc
   exact hr.1 ⟨by omega,hc.1⟩
  refine⟨h1.defers,v,q1,v,M4 B' (args.length+0) css'.length,St1,rfl,h2,λb o hb hbn=>h3 b o ⟨hb,hbn⟩,h1.st,hbr css'.length 0 css' us rfl (by omega) (λi d u hd hu=>?_),q2,MN h1.nodup h1.apart _ _,hk⟩
  have hi:i < css.length:=by have:=(B5.1 hd).1;omega
  rw[Dv]
  refine⟨?_,?_⟩
  ·have:=congrArg (λl=>l[i]?) hbox
   simp only[BE,CE hi,Br,hd,Ao]at this
   exact this
  ·have:=(h1.pin (args.length+i,us.getD i undef) (Bh.2 ⟨i,An.2 hi,rfl⟩)).1
   rw[Au,hu]at this
   exact this
 rcases he with rfl|rfl
 ·exact hfin
 ·exact hfin
end
section
variable {P:Program}{tb:Tb}
def w4(tb:Tb)(rs:List ResultVar)(m n:Nat)(css':List (List V))(r:V)(e:Exit)(σ:PS):Prop:=(e=.ret∨e=.normal)∧Ue tb σ rs=some r∧((List.range n).map λi=>σ (m+i))=css'.map V.box
theorem n6(htb:H1 P tb){f:FuncId}{nt:Nat}{bx:List Nat}{rs:List ResultVar}{l:LC}{us:List Value}{css css':List (List V)}{args:List V}{r:V}(hl:Lit P f nt bx rs l)(hlen:args.length+css.length<=nt)(hnt:nt<=910000)(hb:tq bx args.length css.length=true)(hargs:args.all KX=true)(hrp:r=.tup []∨HR r=true)
  (h:LS P nt bx l (RJ args.length us (Ej (args++css.map V.box))) (w4 tb rs args.length css.length css' r)):QT P f us css args css' r:=by
 obtain⟨⟨fn,c,h1,h2,h3,rfl,rfl,h6,h7⟩,hn,hL⟩:=hl
 exact tr htb h1 h2 h3 bx hlen hnt hb hargs hn hrp (h c h6 h7 hL)
end
def VB(L:PL):List Nat->Option (List (List V))
 |[]=>some []
 |s::ss=>match lk L s with
  |some (.box cs)=>Aa (VB L ss) λr=>some (cs::r)
  |_=>none
def Zl(L:PL):List Nat->Option (List Value)
 |[]=>some []
 |s::ss=>match lk L (gV s)with
  |some (.val q u)=>RZ (Nat.beq q s) (Aa (Zl L ss) λr=>some (u::r))
  |_=>none
theorem YF{L:PL}:∀{ss:List Nat}{css:List (List V)},VB L ss=some css->ss.map (Ce L)=css.map V.box
 |[],_,h=>by cases h;rfl
 |s::ss,_,h=>by
  unfold VB at h
  split at h
  ·rename_i cs hs
   obtain⟨r,h1,h⟩:=AQ h
   cases h
   rw[AO,AO,CO hs,YF h1]
  ·cases h
theorem cB{L:PL}:∀{ss:List Nat}{us:List Value},Zl L ss=some us->(ss.map λs=>Ce L (gV s))=(ss.zip us).map (λp=>V.val p.1 p.2)∧ss.length=us.length
 |[],_,h=>by cases h;exact⟨rfl,rfl⟩
 |s::ss,_,h=>by
  unfold Zl at h
  split at h
  ·rename_i q u hs
   obtain⟨hq,h⟩:=Dq h
   obtain⟨r,h1,h⟩:=AQ h
   cases h
   have hq:=CN hq
   subst hq
   obtain⟨h2,h3⟩:=cB h1
   exact⟨by rw[AO,List.zip_cons_cons,AO,CO hs,h2],by rw[Ax,Ax,h3]⟩
  ·cases h
def ma(L:PL):List Operand->Option (List Value)
 |[]=>some []
 |.tmp p::xs=>match lk L (gV p)with
  |some (.val q u)=>RZ (Nat.beq q p) (Aa (ma L xs) λr=>some (u::r))
  |_=>none
 |_::_=>none
theorem dW{L:PL}:∀{xs:List Operand}{us:List Value},ma L xs=some us->ZK (Ce L) xs=some us
 |[],_,h=>by cases h;rfl
 |.tmp p::xs,_,h=>by
  unfold ma at h
  split at h
  ·rename_i q u hs
   obtain⟨hq,h⟩:=Dq h
   obtain⟨r,h1,h⟩:=AQ h
   cases h
   have hq:=CN hq
   subst hq
   unfold ZK
   rw[CO hs]
   simp only[Fh,dW h1,Br]
  ·cases h
 |.const _::_,_,h=>by cases h
 |.global _::_,_,h=>by cases h
 |.func _::_,_,h=>by cases h
def sfV(ss:List Nat):PL->Prop
 |[]=>True
 |(q,c)::L=>(ss.contains q=true∨JT c=true)∧sfV ss L
theorem yvn{ss:List Nat}:sfV ss []:=trivial
theorem Yr{ss:List Nat}{q:Nat}{c:V}{L:PL}(h:ss.contains q=true)(k:sfV ss L):sfV ss ((q,c)::L):=⟨.inl h,k⟩
theorem Mu{ss:List Nat}{q:Nat}{c:V}{L:PL}(h:JT c=true)(k:sfV ss L):sfV ss ((q,c)::L):=⟨.inr h,k⟩
theorem ld{ss:List Nat}:∀{L:PL},sfV ss L->∀q,q∉ss->JT (Ce L q)=true
 |[],_,q,_=>rfl
 |(p,c)::L,⟨h1,h2⟩,q,hq=>by
  rw[D4]
  by_cases e:q=p
  ·subst e;rw[upd_same];exact h1.resolve_left λh=>hq (Av.1 h)
  ·rw[upd_ne _ _ e];exact ld h2 q hq
def gR:List Nat->List (List V)->PL->PL
 |s::ss,cs::css,L=>(s,.box cs)::gR ss css L
 |_,_,L=>L
theorem fG{L:PL}:∀{ss:List Nat}{css:List (List V)},Yo (Ce L) ss css=Ce (gR ss css L)
 |[],_=>rfl
 |_::_,[]=>rfl
 |s::ss,cs::css=>by rw[Yo,gR,D4,fG]
def gc:List Nat->Bool
 |[]=>true
 |s::ss=> !ss.contains s&&gc ss
theorem eW:∀{ss:List Nat},gc ss=true->ss.Nodup
 |[],_=>AD
 |s::ss,h=>by
  rw[gc,Ab,AC,<-Jy,Av]at h
  exact BH.2 ⟨h.1,eW h.2⟩
theorem de{L L1:PL}{S:List Nat}(h:Sv L S=some L1):kill (Qn L S) (Ce L)=Ce L1:=by
 obtain⟨L',h1,h⟩:=AQ h
 obtain⟨h2,h⟩:=Dq h
 cases h
 obtain⟨i1,i2,i3⟩:=Q4 h1
 funext q
 by_cases hq:q∈S
 ·have e1:=CO (i1 q hq)
  have hD:¬(Qn L S).contains q=true:=λh=>(Lo.1 h).2 hq
  unfold kill
  rw[AJ hD,e1]
  cases hr:DL (Ce L1 q)with
  |none=>rfl
  |some b=>
   have hb:b∈S:=by
    obtain⟨p,hp,hpr⟩:=ab hr
    have:=Ae.1 h2 p hp
    rw[hpr,i3]at this
    exact Av.1 this
   have hD':¬(Qn L S).contains b=true:=λh=>(Lo.1 h).2 hb
   simp only[AJ hD']
 ·rw[i2 q hq]
  by_cases hk:q∈L.map (·.1)
  ·exact Ro (Lo.2 ⟨hk,hq⟩)
  ·unfold kill
   rw[S5 hk]
   split<;>rfl
section
variable {P:Program}{tb:Tb}{cns:List Nat}{L:PL}{K:PS->Prop}{t:TypeId}{x:Operand}
def zrA(σ:PS):List Operand->List V->Prop
 |[],as=>as=[]
 |x::xs,as=>∃a as',as=a::as'∧(Cl σ x).isArg=true∧Zv (Cl σ x)=a∧zrA σ xs as'
theorem lM{σ:PS}:∀{xs:List Operand}{as:List V},zrA σ xs as->xs.all (λx=>(Cl σ x).isArg)=true∧(xs.map λx=>Zv (Cl σ x))=as
 |[],_,h=>by cases h;exact⟨rfl,rfl⟩
 |x::xs,_,⟨a,as',e,h1,h2,h3⟩=>by
  obtain⟨h4,h5⟩:=lM h3
  subst e
  exact⟨by rw[Bt,h1,h4];rfl,by rw[AO,h2,h5]⟩
theorem zn:zrA (Ce L) [] []:=rfl
theorem za{c a:V}{xs:List Operand}{as:List V}(h1:lR L x=some c)(h2:Zv c=a)(h3:zrA (Ce L) xs as):zrA (Ce L) (x::xs) (a::as):=⟨a,as,rfl,(by rw[(SV h1).1];exact(SV h1).2),(by rw[(SV h1).1];exact h2),h3⟩
theorem dU{d:Option Nat}{f:FuncId}{args:List Operand}{us:List Value}{css css':List (List V)}{r:V}{L1:PL}(ss S:List Nat)(hb:VB L ss=some css)(hv:Zl L ss=some us)(hn:gc ss=true)(ha:args.all (λx=>(Cl (Ce L) x).isArg)=true)(hp:pl P (Ce L) f us css args css' r)
  (hk:Sv L (ss++S)=some L1) (hsf:sfV ss L1) (k:K (Q8 (Ce (gR ss css' L1)) d r)):Rj P d (.func (.func f) #[] us.toArray) args (Ce L) K:=by
 obtain⟨v1,v2⟩:=cB hv
 refine⟨f,us,ss,css,css',r,Qn L (ss++S),rfl,YF hb,v1,v2,eW hn,ha,hp,λs hs=>?_,λq hq=>?_,?_⟩
 ·cases hc:(Qn L (ss++S)).contains s with
  |false=>rfl
  |true=>exact absurd (AF _ hs) (Lo.1 hc).2
 ·by_cases hD:(Qn L (ss++S)).contains q=true
  ·exact .inl hD
  ·right
   by_cases hm:q∈L.map (·.1)
   ·have hS:q∈ss++S:=Bn λh=>hD (Lo.2 ⟨hm,h⟩)
    obtain⟨L',k1,k2⟩:=AQ hk
    obtain⟨_,k2⟩:=Dq k2
    cases k2
    rw[CO ((Q4 k1).1 q hS)]
    exact ld hsf q hq
   ·rw[S5 hm];rfl
 ·rw[de hk,fG]
  exact k
theorem qV{d p:Nat}{f:FuncId}{args:Array Operand}{ts:Array TypeId}{us:List Value}{css css':List (List V)}{as:List V}{r:V}{L1:PL}(ss S:List Nat)(hl:lk L p=some (.tok (.func (.func f) #[] us.toArray)))(hb:VB L ss=some css)(hv:Zl L ss=some us)(hn:gc ss=true)(he:erA (Ce L) args.toList as)(hp:QT P f us css as css' r)
  (hk:Sv L (ss++S)=some L1) (hsf:sfV ss L1) (k:K (Ce ((d,r)::gR ss css' L1))) (hc:cns.contains d=false:=by rfl):F0 P tb cns ⟨some d,.call {callee:=.value (.tmp p),args:=args,argTypes:=ts},t,none⟩ (Ce L) K:=by
 obtain⟨h1,h2⟩:=TZ he
 show(match Cl (Ce L) (.tmp p)with
  |.fn f=>Hm P cns _ f args.toList (Ce L) K
  |.tok u=>QF P cns _ u args.toList (Ce L) K
  |_=>TI cns _ (Ce L) K)
 rw[show Cl (Ce L) (.tmp p)=.tok (.func (.func f) #[] us.toArray)from CO hl]
 exact⟨hc,dU ss S hb hv hn h1 (.inl (by rw[h2];exact hp)) hk hsf k⟩
theorem qVz{d p:Nat}{f:FuncId}{args:Array Operand}{ts:Array TypeId}{us:List Value}{css css':List (List V)}{as:List V}{r:V}{L1:PL}(ss S:List Nat)(hl:lk L p=some (.tok (.func (.func f) #[] us.toArray)))(hb:VB L ss=some css)(hv:Zl L ss=some us)(hn:gc ss=true)(he:zrA (Ce L) args.toList as)(hp:QT P f us css as css' r)
  (hk:Sv L (ss++S)=some L1) (hsf:sfV ss L1) (k:K (Ce ((d,r)::gR ss css' L1))) (hc:cns.contains d=false:=by rfl):F0 P tb cns ⟨some d,.call {callee:=.value (.tmp p),args:=args,argTypes:=ts},t,none⟩ (Ce L) K:=by
 obtain⟨h1,h2⟩:=lM he
 show(match Cl (Ce L) (.tmp p)with
  |.fn f=>Hm P cns _ f args.toList (Ce L) K
  |.tok u=>QF P cns _ u args.toList (Ce L) K
  |_=>TI cns _ (Ce L) K)
 rw[show Cl (Ce L) (.tmp p)=.tok (.func (.func f) #[] us.toArray)from CO hl]
 exact⟨hc,dU ss S hb hv hn h1 (.inr (by rw[h2];exact hp)) hk hsf k⟩
theorem qVg{d p q:Nat}{u:Value}{e b:Bool}{args:Array Operand}{ts:Array TypeId}(g:e=b)(hq:lk L q=some (.bool e))(hl:lk L p=some (.tok u))(k:F0 P tb cns ⟨some d,.call {callee:=.value (.tmp p),args:=args,argTypes:=ts},t,none⟩ (Ce L) K):
  F0 P tb cns ⟨some d,.call {callee:=.value (.tmp p),args:=args,argTypes:=ts},t,some (some q,b)⟩ (Ce L) K:=by
 replace k:(match Cl (Ce L) (.tmp p)with
  |.fn f=>Hm P cns _ f args.toList (Ce L) K
  |.tok u=>QF P cns ⟨some d,.call {callee:=.value (.tmp p),args:=args,argTypes:=ts},t,none⟩ u args.toList (Ce L) K
  |_=>TI cns _ (Ce L) K):=k
 show(match Cl (Ce L) (.tmp p)with
  |.fn f=>Hm P cns _ f args.toList (Ce L) K
  |.tok u=>QF P cns ⟨some d,.call {callee:=.value (.tmp p),args:=args,argTypes:=ts},t,some (some q,b)⟩ u args.toList (Ce L) K
  |_=>TI cns _ (Ce L) K)
 rw[show Cl (Ce L) (.tmp p)=.tok u from CO hl]at k⊢
 subst g
 have hk:Ce L q=.bool e:=CO hq
 refine⟨k.1,?_⟩
 show known (Ce L q)=true∧_
 rw[hk]
 exact⟨rfl,λ_=>k.2,λh=>by simp[WH]at h⟩
def skL(L:PL)(q:Nat)(b:Bool):Bool:=match lk L q with
 |some (.bool e)=>e !=b
 |some (.tup _)=>true
 |_=>false
theorem qVs{d p q:Nat}{b:Bool}{args:Array Operand}{ts:Array TypeId}(hq:skL L q b=true)(hl:lk L p=some (.tup []))(k:K (Ce ((d,.tup [])::L)))(hc:cns.contains d=false:=by rfl):
  F0 P tb cns ⟨some d,.call {callee:=.value (.tmp p),args:=args,argTypes:=ts},t,some (some q,b)⟩ (Ce L) K:=by
 show(match Cl (Ce L) (.tmp p)with
  |.fn f=>Hm P cns _ f args.toList (Ce L) K
  |.tok u=>QF P cns _ u args.toList (Ce L) K
  |_=>TI cns ⟨some d,.call {callee:=.value (.tmp p),args:=args,argTypes:=ts},t,some (some q,b)⟩ (Ce L) K)
 rw[show Cl (Ce L) (.tmp p)=.tup []from CO hl]
 unfold skL at hq
 split at hq
 ·rename_i e he
  have he:Ce L q=.bool e:=CO he
  refine⟨hc,?_⟩
  rw[he]
  refine⟨rfl,?_,k⟩
  cases e<;>cases b<;>first|rfl|cases hq
 ·rename_i cs he
  have he:Ce L q=.tup cs:=CO he
  refine⟨hc,?_⟩
  rw[he]
  exact⟨rfl,rfl,k⟩
 ·cases hq
theorem qMf{d:Nat}{f:FuncId}{fs caps:Array Operand}{us:List Value}(hf:fs.toList=[])(hc:ma L caps.toList=some us)(k:K (Ce ((d,.tok (.func (.func f) #[] us.toArray))::L))):F0 P tb cns ⟨some d,.makeFunc (.func f) fs caps,t,none⟩ (Ce L) K:=by
 show mkF f fs.toList caps.toList d (Ce L) K
 unfold mkF
 rw[hf,dW hc]
 exact k
end
def UH:Nat->List Value->PL->PL
 |_,[],L=>L
 |m,u::us,L=>(gV m,.val m u)::UH (m+1) us L
theorem iS{L:PL}{σ:PS}(hL:∀p∈L,p.1 < 910000)(h:YW σ L):∀(us:List Value) (m:Nat),YW (RJ m us σ) (UH m us L)
 |[],m=>h
 |u::us,m=>by
  have key:∀(us:List Value) (m:Nat) (σ:PS) (v:V),YW σ (UH (m+1) us L)->YW (upd σ (gV m) v) (UH (m+1) us L):=by
   have h0:∀(L':PL) (σ:PS) (q:Nat) (v:V),(∀p∈L',p.1≠q)->YW σ L'->YW (upd σ q v) L':=by
    intro L'
    induction L' with
    |nil=>intro _ _ _ _ _;trivial
    |cons p L' ih=>
     obtain⟨r,c⟩:=p
     intro σ q v hne hk
     exact⟨by rw[upd_ne _ _ (hne (r,c) BO)];exact hk.1,ih σ q v (λp hp=>hne p (AX _ hp)) hk.2⟩
   intro us m σ v hk
   refine h0 _ _ _ _ (λp hp e=>?_) hk
   have:∀(us:List Value) (k:Nat),m < k->p∉UH k us L:=by
    intro us
    induction us with
    |nil=>intro k _ hm;have:=hL p hm;rw[e]at this;unfold gV at this;omega
    |cons u us ih=>
     intro k hk hm
     rcases AV.1 hm with rfl|hm
     ·simp only[gV]at e;omega
     ·exact ih (k+1) (by omega) hm
   exact this us (m+1) (by omega) hp
  refine⟨?_,key us m _ _ (iS hL h us (m+1))⟩
  rw[RJ,upd_same]
  exact kr
theorem jl:∀(cs:List V) (i:Nat),∀p∈Om i cs,p.1 < i+cs.length
 |[],_,p,hp=>by simp[Om]at hp
 |c::cs,i,p,hp=>by
  rw[Om]at hp
  rcases AV.1 hp with rfl|hp
  ·simp
  ·have:=jl cs (i+1) p hp
   rw[Ax];omega
theorem qiv{P:Program}{nt:Nat}{bx:List Nat}{l:LC}{Q:Exit->PS->Prop}{xs:List V}{us:List Value}{m:Nat}(hl:xs.length<=910000)(hr:okR (UH m us (Om 0 xs))=true)(k:LS P nt bx l (Ce (UH m us (Om 0 xs))) Q):LS P nt bx l (RJ m us (Ej xs)) Q:=
 Nl _ (iS (λp hp=>by have:=jl xs 0 p hp;omega) (db xs 0 0) us m) hr k
end Go.Proofs.YtplejokflpkcbaaGreatDoor
