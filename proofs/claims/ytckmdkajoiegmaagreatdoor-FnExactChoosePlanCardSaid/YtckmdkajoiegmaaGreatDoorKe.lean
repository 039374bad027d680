/-
 A machine on data, part 5: lists that are lent. Over no program; no conditions.
-/
import Derived.Test.YtckmdkajoiegmaaGreatDoorKb
open Go.RowKit
set_option linter.unusedVariables false
set_option linter.unusedSimpArgs false
namespace Go.Proofs.YtckmdkajoiegmaaGreatDoor
def Mq(B:Nat->List Nat):Nat->Nat->List Nat
 |_,0=>[]
 |k,n+1=>B k++Mq B (k+1) n
theorem L9{B:Nat->List Nat}{g:Nat}:∀{n k:Nat},g∈Mq B k n->∃i,k<=i∧i < k+n∧g∈B i
 |0,_,h=>by simp[Mq]at h
 |n+1,k,h=>by
  rw[Mq,An]at h
  rcases h with h|h
  ·exact⟨k,A9 _,by omega,h⟩
  ·obtain⟨i,h1,h2,h3⟩:=L9 h
   exact⟨i,by omega,by omega,h3⟩
theorem Ma{B:Nat->List Nat}(h1:∀i,(B i).Nodup)(h2:∀i j,i≠j->∀g∈B i,g∉B j):∀(n k:Nat),(Mq B k n).Nodup
 |0,_=>Ax
 |n+1,k=>by
  rw[Mq]
  refine As.2 ⟨h1 k,Ma h1 h2 n (k+1),λa ha b hb e=>?_⟩
  obtain⟨i,q1,_,q3⟩:=L9 hb
  exact h2 k i (by omega) a ha (e ▸ q3)
section
variable {P:Program}{w:World}{St:Nat->Nat->Prop}
theorem SF{B:Nat->List Nat}:∀(os:List V) (us:List Value) (k:Nat),us.length=os.length->(∀i c u,os[i]? =some c->us[i]? =some u->c.C5=true∧Ow P w St c u (B (k+i)))->AY P w St os us (Mq B k os.length)
 |[],us,_,hl,_=>⟨HI.1 hl,rfl⟩
 |c::os,[],_,hl,_=>by cases hl
 |c::os,u::us,k,hl,h=>by
  obtain⟨h1,h2⟩:=h 0 c u rfl rfl
  refine⟨u,us,B k,Mq B (k+1) os.length,rfl,rfl,h1,h2,SF os us (k+1) (by simpa using hl) λi c' u' hc hu=>?_⟩
  have:=h (i+1) c' u' (by simpa using hc) (by simpa using hu)
  rwa [show k+(i+1)=k+1+i from by omega]at this
end
section
variable {P:Program}{tb:Tb}
def slots(σ:PS)(n:Nat):List V:=(List.range n).map σ
def j6(bx:List Nat)(n:Nat):Bool:=(List.range n).all λi=>bx.contains i&&bx.contains (N6+i)
theorem nB(htb:GA P tb){f:FuncId}{fn:Func}{c:Code}{os args os':List V}{rb:Bool}(hf:P.funcs[f]? =some fn)(hb:fn.body=some c)(hname:(fn.name== "runtime.NumGoroutine")=false)(bx:List Nat)(hlen:os.length+args.length<=fn.ntmps)(h0:j6 bx os.length=true)(hargs:args.all Hc=true)
  (hn:(fn.results.toList.map L4).Nodup) (hcs:Ca os=true) (hob:os.all RN=true) (hcs':Ca os'=true) (hcl:os'.all V.C5=true) (h:K5 P fn.ntmps bx c (Fc (os++args.map G5)) (λe σ=>(e=.ret∨e=.normal)∧Vu tb σ fn.results.toList=some (.bool rb)∧slots σ os.length=os')):LJ P f [] os args os' (.bool rb):=by
 refine⟨⟨fn,hf,by rw[hb];rfl,hname⟩,λw St us bs0 vs1 vs hst hgl hrow hnd hrg hv1 hvs=>?_⟩
 cases hv1
 have hN:∀b o,(St b o∧b∉bs0)->(b < w.heap.size∧b∉bs0):=λb o h=>⟨hst b o h.1,h.2⟩
 have hvs0:=Mk.JG (N:=λb=>b < w.heap.size∧b∉bs0) hN hargs hvs
 have hvs':Mk w (λb o=>St b o∨(b < w.heap.size∧b∉bs0)) (args.map G5) vs:=hvs0.mono (λb o h=>h.imp (·.1) id) (λ_ _ _=>rfl)
 have hst':∀b o,(St b o∨(b < w.heap.size∧b∉bs0))->b < w.heap.size:=λb o h=>h.elim (hst b o) (·.1)
 have hrow':AY P w (λb o=>St b o∨(b < w.heap.size∧b∉bs0)) os us bs0:=AY.kept os hcs hrow (λk hk=>⟨rfl,λo=>⟨λh=>h.elim id (λh=>absurd hk h.2),.inl⟩⟩)
 have hpl:(args.map G5).all NZ=true:=by
  rw[Hk,Af]
  exactλx hx=>Tc (Af.1 hargs x hx)
 obtain⟨hl,hat⟩:=args_at hvs'
 rw[Ar]at hl
 have hul:=AY.length hrow
 obtain⟨β,k1,k2,k3,k4⟩:=Qt hrow' hnd
 have hbx:∀i,i < os.length->i∈bx∧N6+i∈bx:=λi hi=>by
  have:=Af.1 h0 i (Al.2 hi)
  simpa[Ab,Av]using this
 have hin:∀s,s < os.length->∃c u,os[s]? =some c∧us[s]? =some u∧Fc (os++args.map G5) s=c∧RN c=true:=λs hs=>by
  refine⟨os[s],us[s]'(by omega),Ae hs,Ae _,?_,Af.1 hob _ (Ao hs)⟩
  simp only[Fc,BA hs,Ae hs,BJ]
 have hout:∀s,¬s < os.length->Fc (os++args.map G5) s=(((args.map G5)[s - os.length]?).getD (.tup [])):=λs hs=>by
  simp only[Fc,Bn (LW hs)]
 refine G8 hf hb ?_
 have hrel:Rel P fn.ntmps bx ⟨λb=>b < w.heap.size∧b∉bs0,(List.range os.length).map λi=>(i,us.getD i undef)⟩ (λb o=>St b o∨(b < w.heap.size∧b∉bs0)) w (Fc (os++args.map G5)) {tmps:=(us++vs).toArray++Array.replicate (fn.ntmps - (us++vs).toArray.size) undef,defers:=[]} w:=by
  refine⟨_,λs=>if s < os.length then β s else [],?_,BelowK.refl _ _,λ_ _ _=>CV,λ_ h=>h.1⟩
  refine
  {size:=by simp;omega
   defers:=rfl
   slot:=λs=>?_
   boxes:=λs cs e=>?_
   crefs:=λs b e=>?_
   nodup:=λs=>by
    split
    ·exact k3 s
    ·exact Ax
   apart:=λs t hst k hk hk'=>by
    split at hk
    ·split at hk'
     ·exact k4 s t hst k hk hk'
     ·simp at hk'
    ·simp at hk
   hnodup:=Ax
   hapart:=λ_ k hk=>by simp
   range:=λs k hk=>by
    split at hk
    ·exact⟨λh=>h.2 (k2 s k hk),hrg k (k2 s k hk)⟩
    ·simp at hk
   hrange:=λk hk=>by simp at hk
   st:=hst'
   gl:=hgl.of (λb hb o=>.inl (hb o)) (λ_ _ _=>rfl)
   pin:=λv e=>by
    obtain⟨i,hi,rfl⟩:=Bw.1 e
    rw[Al]at hi
    rw[QU]
    refine⟨?_,hbx i hi⟩
    simp only[BA (show i < us.length by omega),At]}
  ·rw[QU]
   by_cases hs:s < os.length
   ·obtain⟨c,u,q1,q2,q3,q4⟩:=hin s hs
    rw[AJ hs,q3,BA (show s < us.length by omega),q2,BJ]
    exact(k1 s c u q1 q2).slot
   ·rw[AN hs,hout s hs,Bn (show us.length<=s by omega),hul]
    cases hc:(args.map G5)[s - os.length]? with
    |none=>
     have:vs[s - os.length]? =none:=by
      rw[Fp,Ar]at hc
      rw[Fp];omega
     simp only[this,Jh]
     exact⟨[],rfl,rfl,rfl⟩
    |some c=>
     obtain⟨v,hv,hr⟩:=hat (s - os.length) c hc
     simp only[hv,BJ]
     exact(SD (Af.1 hpl c (Bu hc)) hr).slot
  ·by_cases hs:s < os.length
   ·obtain⟨c,u,q1,q2,q3,q4⟩:=hin s hs
    exact(hbx s hs).1
   ·rw[hout s hs]at e
    cases hc:(args.map G5)[s - os.length]? with
    |none=>rw[hc]at e;cases e
    |some c=>
     rw[hc]at e
     have hp:=Af.1 hpl c (Bu hc)
     simp only[BJ]at e
     cases c<;>first|(cases hp;done)|(cases e;done)
  ·by_cases hs:s < os.length
   ·obtain⟨c,u,q1,q2,q3,q4⟩:=hin s hs
    rw[q3]at e
    cases c<;>first|(cases q4;done)|(cases e;done)
   ·rw[hout s hs]at e
    cases hc:(args.map G5)[s - os.length]? with
    |none=>rw[hc]at e;cases e
    |some c=>
     rw[hc]at e
     have hp:=Af.1 hpl c (Bu hc)
     simp only[BJ]at e
     cases c<;>first|(cases hp;done)|(cases e;done)
 refine Ek (h _ _ _ _ _ hrel) ?_
 rintro e a' w' ⟨σ',⟨he,hres,hbox⟩,St1,B',h1,h2,h3,h4⟩
 have hfin:a'.defers=[]∧∃v,(results fn a'.tmps).run P w'=.ok v w'∧qm P w St us bs0 os' (.bool rb) (.returned v) w':=by
  obtain⟨v,bs,q1,q2,q3,q4⟩:=Un htb h1 hn hres
  have hl':os'.length=os.length:=by rw[<-hbox];simp[slots]
  have hk:∀k∈Mq B' 0 os'.length,(k∈bs0∨w.heap.size<=k)∧k < w'.heap.size:=λk hk=>by
   obtain⟨i,_,_,hm⟩:=L9 hk
   have hr:=h1.range i k hm
   refine⟨Bq λhc=>?_,hr.2⟩
   rw[not_or]at hc
   exact hr.1 ⟨by omega,hc.1⟩
  have hrow2:AY P w' St1 os' us (Mq B' 0 os'.length):=by
   refine SF os' us 0 (by omega) λi c u hc hu=>?_
   have hi:i < os.length:=by have:=(B4.1 hc).1;omega
   have hcc:V.C5 c=true:=Af.1 hcl c (Bu hc)
   have e1:σ' i=c:=by
    rw[<-hbox]at hc
    simp only[slots,BB,Cy hi,Bp,Ak]at hc
    exact hc
   have e2:tm a' i=u:=by
    have:=(h1.pin (i,us.getD i undef) (Bw.2 ⟨i,Al.2 hi,rfl⟩)).1
    rw[At,hu]at this
    exact this
   have hs:=h1.slot i
   rw[e1,e2]at hs
   rw[CL]
   refine⟨hcc,?_⟩
   cases c<;>first|exact hs|cases hcc
  refine⟨h1.defers,v,q1,v,Mq B' 0 os'.length,λb o=>(b < w.heap.size∧b∉bs0∧St b o)∨((w.heap.size<=b∨b∈bs0)∧St1 b o),rfl,h2,λb o hb hbn=>?_,λb o hh=>?_,?_,⟨rfl,q2.2⟩,Ma h1.nodup h1.apart _ _,hk⟩
  ·exact⟨λhh=>hh.elim (·.2.2) (λhh=>hh.1.elim (λh=>absurd hb (by omega)) (λh=>absurd h hbn)),λhh=>.inl ⟨hb,hbn,hh⟩⟩
  ·exact hh.elim (λhh=>A6 hh.1 h2.size) (λhh=>h1.st b o hh.2)
  ·exact AY.kept os' hcs' hrow2 (λk hk'=>⟨rfl,λo=>⟨λhh=>hh.elim (λhh=>(hk k hk').1.elim (λh=>absurd h hh.2.1) (λh=>absurd hh.1 (by omega))) (·.2),λhh=>.inr ⟨(hk k hk').1.symm,hh⟩⟩⟩)
 rcases he with rfl|rfl
 ·exact hfin
 ·exact hfin
def aJ(σ:PS)(m n:Nat):List V:=(List.range n).map λi=>σ (m+i)
def j7(bx:List Nat)(m n:Nat):Bool:=(List.range n).all λi=>bx.contains (m+i)&&bx.contains (N6+(m+i))
theorem j5(htb:GA P tb){f:FuncId}{fn:Func}{c:Code}{os args os':List V}{r:V}(hf:P.funcs[f]? =some fn)(hb:fn.body=some c)(hname:(fn.name== "runtime.NumGoroutine")=false)(bx:List Nat)(hlen:args.length+os.length<=fn.ntmps)(h0:j7 bx args.length os.length=true)(hfl:flt r=true)(hargs:args.all Hc=true)
  (hn:(fn.results.toList.map L4).Nodup) (hcs:Ca os=true) (hob:os.all RN=true) (hcs':Ca os'=true) (hcl:os'.all V.C5=true) (h:K5 P fn.ntmps bx c (Fc (args.map G5++os)) (λe σ=>(e=.ret∨e=.normal)∧Vu tb σ fn.results.toList=some r∧aJ σ args.length os.length=os')):LJ P f args os [] os' r:=by
 refine⟨⟨fn,hf,by rw[hb];rfl,hname⟩,λw St us bs0 vs vs1 hst hgl hrow hnd hrg hvs hv1=>?_⟩
 cases hv1
 rw[Bm]
 have hN:∀b o,(St b o∧b∉bs0)->(b < w.heap.size∧b∉bs0):=λb o h=>⟨hst b o h.1,h.2⟩
 have hvs0:=Mk.JG (N:=λb=>b < w.heap.size∧b∉bs0) hN hargs hvs
 have hvs':Mk w (λb o=>St b o∨(b < w.heap.size∧b∉bs0)) (args.map G5) vs:=hvs0.mono (λb o h=>h.imp (·.1) id) (λ_ _ _=>rfl)
 have hst':∀b o,(St b o∨(b < w.heap.size∧b∉bs0))->b < w.heap.size:=λb o h=>h.elim (hst b o) (·.1)
 have hrow':AY P w (λb o=>St b o∨(b < w.heap.size∧b∉bs0)) os us bs0:=AY.kept os hcs hrow (λk hk=>⟨rfl,λo=>⟨λh=>h.elim id (λh=>absurd hk h.2),.inl⟩⟩)
 have hpl:(args.map G5).all NZ=true:=by
  rw[Hk,Af]
  exactλx hx=>Tc (Af.1 hargs x hx)
 obtain⟨hl,hat⟩:=args_at hvs'
 rw[Ar]at hl
 have hul:=AY.length hrow
 obtain⟨β,k1,k2,k3,k4⟩:=Qt hrow' hnd
 have hbx:∀i,i < os.length->args.length+i∈bx∧N6+(args.length+i)∈bx:=λi hi=>by
  have:=Af.1 h0 i (Al.2 hi)
  simpa[Ab,Av]using this
 have hml:(args.map G5).length=args.length:=Ar _
 have hin:∀s,args.length<=s->s < args.length+os.length->∃c u,os[s - args.length]? =some c∧us[s - args.length]? =some u∧Fc (args.map G5++os) s=c∧RN c=true:=λs hm hs=>by
  have hs':s - args.length < os.length:=by omega
  refine⟨os[s - args.length],us[s - args.length]'(by omega),Ae hs',Ae _,?_,Af.1 hob _ (Ao hs')⟩
  simp only[Fc,Bn (show(args.map G5).length<=s by omega),hml,Ae hs',BJ]
 have hlo:∀s,s < args.length->Fc (args.map G5++os) s=(((args.map G5)[s]?).getD (.tup [])):=λs hs=>by
  simp only[Fc,BA (show s < (args.map G5).length by omega)]
 have hhi:∀s,args.length+os.length<=s->Fc (args.map G5++os) s=.tup []:=λs hs=>by
  simp only[Fc,Bn (show(args.map G5).length<=s by omega),AU (show os.length<=s - (args.map G5).length by omega),Jh]
 refine G8 hf hb ?_
 have hrel:Rel P fn.ntmps bx ⟨λb=>b < w.heap.size∧b∉bs0,(List.range os.length).map λi=>(args.length+i,us.getD i undef)⟩ (λb o=>St b o∨(b < w.heap.size∧b∉bs0)) w (Fc (args.map G5++os)) {tmps:=(vs++us).toArray++Array.replicate (fn.ntmps - (vs++us).toArray.size) undef,defers:=[]} w:=by
  refine⟨_,λs=>if args.length<=s∧s < args.length+os.length then β (s - args.length)else [],?_,BelowK.refl _ _,λ_ _ _=>CV,λ_ h=>h.1⟩
  refine
  {size:=by simp;omega
   defers:=rfl
   slot:=λs=>?_
   boxes:=λs cs e=>?_
   crefs:=λs b e=>?_
   nodup:=λs=>by
    split
    ·exact k3 _
    ·exact Ax
   apart:=λs t hst k hk hk'=>by
    split at hk
    ·split at hk'
     ·exact k4 _ _ (by omega) k hk hk'
     ·simp at hk'
    ·simp at hk
   hnodup:=Ax
   hapart:=λ_ k hk=>by simp
   range:=λs k hk=>by
    split at hk
    ·exact⟨λh=>h.2 (k2 _ k hk),hrg k (k2 _ k hk)⟩
    ·simp at hk
   hrange:=λk hk=>by simp at hk
   st:=hst'
   gl:=hgl.of (λb hb o=>.inl (hb o)) (λ_ _ _=>rfl)
   pin:=λv e=>by
    obtain⟨i,hi,rfl⟩:=Bw.1 e
    rw[Al]at hi
    rw[QU]
    refine⟨?_,hbx i hi⟩
    simp only[Bn (show vs.length<=args.length+i by omega),hl,CC,At]}
  ·rw[QU]
   by_cases hs:s < args.length
   ·rw[AN (by omega),hlo s hs,BA (show s < vs.length by omega)]
    cases hc:(args.map G5)[s]? with
    |none=>rw[Fp]at hc;omega
    |some c=>
     obtain⟨v,hv,hr⟩:=hat s c hc
     simp only[hv,BJ]
     exact(SD (Af.1 hpl c (Bu hc)) hr).slot
   ·by_cases hs2:s < args.length+os.length
    ·obtain⟨c,u,q1,q2,q3,q4⟩:=hin s (by omega) hs2
     rw[AJ ⟨by omega,hs2⟩,q3,Bn (show vs.length<=s by omega),hl,q2,BJ]
     exact(k1 _ c u q1 q2).slot
    ·rw[AN (by omega),hhi s (by omega),Bn (show vs.length<=s by omega),AU (show us.length<=s - vs.length by omega),Jh]
     exact⟨[],rfl,rfl,rfl⟩
  ·by_cases hs:s < args.length
   ·rw[hlo s hs]at e
    cases hc:(args.map G5)[s]? with
    |none=>rw[hc]at e;cases e
    |some c=>
     rw[hc]at e
     have hp:=Af.1 hpl c (Bu hc)
     simp only[BJ]at e
     cases c<;>first|(cases hp;done)|(cases e;done)
   ·by_cases hs2:s < args.length+os.length
    ·have:=(hbx (s - args.length) (by omega)).1
     rwa [show args.length+(s - args.length)=s from by omega]at this
    ·rw[hhi s (by omega)]at e;cases e
  ·by_cases hs:s < args.length
   ·rw[hlo s hs]at e
    cases hc:(args.map G5)[s]? with
    |none=>rw[hc]at e;cases e
    |some c=>
     rw[hc]at e
     have hp:=Af.1 hpl c (Bu hc)
     simp only[BJ]at e
     cases c<;>first|(cases hp;done)|(cases e;done)
   ·by_cases hs2:s < args.length+os.length
    ·obtain⟨c,u,q1,q2,q3,q4⟩:=hin s (by omega) hs2
     rw[q3]at e
     cases c<;>first|(cases q4;done)|(cases e;done)
    ·rw[hhi s (by omega)]at e;cases e
 refine Ek (h _ _ _ _ _ hrel) ?_
 rintro e a' w' ⟨σ',⟨he,hres,hbox⟩,St1,B',h1,h2,h3,h4⟩
 have hfin:a'.defers=[]∧∃v,(results fn a'.tmps).run P w'=.ok v w'∧qm P w St us bs0 os' r (.returned v) w':=by
  obtain⟨v,bs,q1,q2,q3,q4⟩:=Un htb h1 hn hres
  have hl':os'.length=os.length:=by rw[<-hbox];simp[aJ]
  have hk:∀k∈Mq B' args.length os'.length,(k∈bs0∨w.heap.size<=k)∧k < w'.heap.size:=λk hk=>by
   obtain⟨i,_,_,hm⟩:=L9 hk
   have hr:=h1.range i k hm
   refine⟨Bq λhc=>?_,hr.2⟩
   rw[not_or]at hc
   exact hr.1 ⟨by omega,hc.1⟩
  have hrow2:AY P w' St1 os' us (Mq B' args.length os'.length):=by
   refine SF os' us args.length (by omega) λi c u hc hu=>?_
   have hi:i < os.length:=by have:=(B4.1 hc).1;omega
   have hcc:V.C5 c=true:=Af.1 hcl c (Bu hc)
   have e1:σ' (args.length+i)=c:=by
    rw[<-hbox]at hc
    simp only[aJ,BB,Cy hi,Bp,Ak]at hc
    exact hc
   have e2:tm a' (args.length+i)=u:=by
    have:=(h1.pin (args.length+i,us.getD i undef) (Bw.2 ⟨i,Al.2 hi,rfl⟩)).1
    rw[At,hu]at this
    exact this
   have hs:=h1.slot (args.length+i)
   rw[e1,e2]at hs
   refine⟨hcc,?_⟩
   cases c<;>first|exact hs|cases hcc
  refine⟨h1.defers,v,q1,v,Mq B' args.length os'.length,λb o=>(b < w.heap.size∧b∉bs0∧St b o)∨((w.heap.size<=b∨b∈bs0)∧St1 b o),rfl,h2,λb o hb hbn=>?_,λb o hh=>?_,?_,(av r hfl q2).2,Ma h1.nodup h1.apart _ _,hk⟩
  ·exact⟨λhh=>hh.elim (·.2.2) (λhh=>hh.1.elim (λh=>absurd hb (by omega)) (λh=>absurd h hbn)),λhh=>.inl ⟨hb,hbn,hh⟩⟩
  ·exact hh.elim (λhh=>A6 hh.1 h2.size) (λhh=>h1.st b o hh.2)
  ·exact AY.kept os' hcs' hrow2 (λk hk'=>⟨rfl,λo=>⟨λhh=>hh.elim (λhh=>(hk k hk').1.elim (λh=>absurd h hh.2.1) (λh=>absurd hh.1 (by omega))) (·.2),λhh=>.inr ⟨(hk k hk').1.symm,hh⟩⟩⟩)
 rcases he with rfl|rfl
 ·exact hfin
 ·exact hfin
def xN(tb:Tb)(rs:List ResultVar)(n:Nat)(os':List V)(r:V)(e:Exit)(σ:PS):Prop:=(e=.ret∨e=.normal)∧Vu tb σ rs=some r∧slots σ n=os'
theorem j4(htb:GA P tb){f:FuncId}{nt:Nat}{bx:List Nat}{rs:List ResultVar}{l:LC}{os args os':List V}{rb:Bool}(hl:Lit P f nt bx rs l)(hlen:os.length+args.length<=nt)(hb:j6 bx os.length=true)(hargs:args.all Hc=true)(hcs:Ca os=true)(hob:os.all RN=true)(hcs':Ca os'=true)(hcl:os'.all V.C5=true)
  (h:LS P nt bx l (Fc (os++args.map G5)) (xN tb rs os.length os' (.bool rb))):LJ P f [] os args os' (.bool rb):=by
 obtain⟨⟨fn,c,h1,h2,h3,rfl,rfl,h6,h7⟩,hn,hL⟩:=hl
 exact nB htb h1 h2 h3 bx hlen hb hargs hn hcs hob hcs' hcl (h c h6 h7 hL)
def pX(tb:Tb)(rs:List ResultVar)(m n:Nat)(os':List V)(r:V)(e:Exit)(σ:PS):Prop:=(e=.ret∨e=.normal)∧Vu tb σ rs=some r∧aJ σ m n=os'
theorem gM(htb:GA P tb){f:FuncId}{nt:Nat}{bx:List Nat}{rs:List ResultVar}{l:LC}{os args os':List V}{r:V}(hl:Lit P f nt bx rs l)(hlen:args.length+os.length<=nt)(hb:j7 bx args.length os.length=true)(hfl:flt r=true)(hargs:args.all Hc=true)(hcs:Ca os=true)(hob:os.all RN=true)(hcs':Ca os'=true)(hcl:os'.all V.C5=true)
  (h:LS P nt bx l (Fc (args.map G5++os)) (pX tb rs args.length os.length os' r)):LJ P f args os [] os' r:=by
 obtain⟨⟨fn,c,h1,h2,h3,rfl,rfl,h6,h7⟩,hn,hL⟩:=hl
 exact j5 htb h1 h2 h3 bx hlen hb hfl hargs hn hcs hob hcs' hcl (h c h6 h7 hL)
end
theorem gc{L:PL}:∀{xs:List Operand}{us:List Value},xs.map (Ps L)=us.map (λu=>some (V.tok u))->xs.map (Ce (Cd L))=us.map V.tok
 |[],[],_=>rfl
 |[],_::_,e=>by cases e
 |_::_,[],e=>by cases e
 |x::xs,u::us,e=>by
  simp only[AK,CS]at e
  rw[AK,AK,D0 e.1,gc e.2]
section
variable {P:Program}{tb:Tb}{cns:List Nat}{L:PL}{K:PS->Prop}{t:TypeId}
theorem qZ{d:Nat}{f:FuncId}{args:Array Operand}{ts:Array TypeId}{us:List Value}{ys:List Operand}{os as1 as os':List V}{r:V}{L1:PL}(S:List Nat)(zs xs:List Operand)(ha:args.toList=zs++(xs++ys))(hne:xs.isEmpty=false)(hs:lk L gS=some (.gh us os))(hm:xs.map (Ps L)=us.map (λu=>some (V.tok u)))(hx:(!S.contains gS&&(zs++ys).all (xH S))=true)(he1:erA (Cd L) zs as1)(he:erA (Cd L) ys as)(hd:Ca os=true)(hp:LJ P f as1 os as os' r)(hk:S0 L S=some L1)(hsf:sfY L1)(k:K (Cd ((d,r)::(gS,.gh us os')::L1)))(hc:cns.contains d=false:=by rfl):
  F7 P tb cns ⟨some d,.call {callee:=.value (.func f),args:=args,argTypes:=ts},t,none⟩ (Cd L) K:=by
 obtain⟨h1,h2⟩:=UY he
 subst h2
 obtain⟨h3,h4⟩:=UY he1
 subst h4
 rw[Ab,AD]at hx
 show Jp P cns _ f args.toList (Cd L) K
 unfold Jp
 rw[AN (by simpa using hc)]
 cases xs with
 |nil=>cases hne
 |cons x xs=>
 refine .inr (.inr (.inr (.inl ⟨zs,x,xs,ys,us,os,os',r,Pr L (gS::S),ha,gc hm,CF hs,hd,?_,hp,?_,λq hq=>?_,?_⟩)))
 ·rw[Af]at h1 h3⊢
  intro x hxm
  rw[Ab]
  refine⟨(An.1 hxm).elim (h3 x) (h1 x),?_⟩
  have:=Af.1 hx.2 x hxm
  unfold xH at this
  split at this
  ·rename_i q
   simp only[dH,AD]
   cases hc:(Pr L (gS::S)).contains q with
   |false=>rfl
   |true=>exact absurd (AQ _ (by simpa using this)) (KW.1 hc).2
  ·rfl
  ·rfl
  ·rfl
  ·cases this
 ·cases hc:(Pr L (gS::S)).contains gS with
  |false=>rfl
  |true=>exact absurd (BK) (KW.1 hc).2
 ·by_cases hD:(Pr L (gS::S)).contains q=true
  ·exact .inl hD
  ·right
   by_cases hm:q∈L.map (·.1)
   ·have hS:q∈S:=Bq λh=>hD (KW.2 ⟨hm,λh'=>(AO.1 h').elim hq h⟩)
    obtain⟨L',k1,k2⟩:=AT hk
    obtain⟨_,k2⟩:=Du k2
    cases k2
    rw[CF ((Qm k1).1 q hS)]
    exact aG hsf q
   ·rw[Sr hm];rfl
 ·have e4:upd (kill (Pr L (gS::S)) (Cd L)) gS (.gh us os')=Cd ((gS,.gh us os')::L1):=by
   rw[D3]
   funext q
   by_cases hq:q=gS
   ·subst hq;rw[upd_same,upd_same]
   ·rw[upd_ne _ _ hq,upd_ne _ _ hq];exact Vk hk hq
  show K (upd (upd (kill (Pr L (gS::S)) (Cd L)) gS (.gh us os')) d r)
  rw[e4]
  exact k
theorem vV:∀{a b:List V},Pn a=true->Pn b=true->Pn (a++b)=true
 |[],_,_,h=>h
 |c::a,b,h1,h2=>by
  rw[Pn,Ab]at h1
  rw[BN,Pn,Ab]
  exact⟨h1.1,vV h1.2 h2⟩
theorem rK{α:Type}{f:α->List V}(h:∀x,Pn (f x)=true):∀l:List α,Pn (l.flatMap f)=true
 |[]=>rfl
 |x::l=>by rw[Ay];exact vV (h x) (rK h l)
theorem qU{d:Nat}{f:FuncId}{args:Array Operand}{ts:Array TypeId}{x:Operand}{s n n':Nat}{e:TypeId}{cs cs' as1:List V}{r:V}(zs:List Operand)(ha:args.toList=zs++[x])(hx:Ps L x=some (.same s))(hs:lk L s=some (.uni e n cs))(hf1:Pn cs=true)(hf2:Pn cs'=true)(hf3:flt r=true)(he1:erA (Cd L) zs as1)(hp:LJ P f as1 [.own e n cs] [] [.own e n' cs'] r)(k:K (Cd ((d,r)::(s,.uni e n' cs')::L)))(hc:cns.contains d=false:=by rfl):
  F7 P tb cns ⟨some d,.call {callee:=.value (.func f),args:=args,argTypes:=ts},t,none⟩ (Cd L) K:=by
 obtain⟨h3,h4⟩:=UY he1
 subst h4
 show Jp P cns _ f args.toList (Cd L) K
 unfold Jp
 rw[AN (by simpa using hc)]
 exact .inr (.inr (.inr (.inr ⟨zs,x,s,n,n',e,cs,cs',r,ha,D0 hx,CF hs,hf1,hf2,hf3,h3,hp,k⟩)))
end
end Go.Proofs.YtckmdkajoiegmaaGreatDoor
namespace Go.Proofs.YtckmdkajoiegmaaGreatDoor
def tE(U:Nat->Value)(j:Nat):List V:=[.tok (U j)]
theorem ztE{U:Nat->Value}(j:Nat):(tE U j).length=1:=rfl
theorem dtE{U:Nat->Value}(j:Nat):DE (tE U j)=true:=rfl
def Im{α:Type}(l:List α):List Nat:=(Ik 0 l).map (·.1)
def Y2(n:Nat):List Nat->List Nat->Bool
 |[],_=>true
 |j::J,seen=>(Nat.blt j n&& !seen.contains j)&&Y2 n J (j::seen)
def Hq{α:Type}(l:List α)(J:List Nat):List α:=J.flatMap λj=>(l[j]?).toList
def Tu:List V->Bool
 |[.own _ _ _]=>true
 |_=>false
theorem fE:∀{ds:List V},Tu ds=true->∃e n cs,ds=[.own e n cs]
 |[],h=>by cases h
 |[c],h=>by cases c<;>first|exact⟨_,_,_,rfl⟩|cases h
 |c::d::ds,h=>by cases c<;>cases h
theorem tok1{ds:List V}(h:Tu ds=true):ds=[GN ds]∧RN (GN ds)=true:=by
 obtain⟨e,n,cs,rfl⟩:=fE h
 exact⟨rfl,rfl⟩
theorem Xo{c:V}(h:RN c=true):∃e n cs,c=.own e n cs:=by
 cases c<;>first|exact⟨_,_,_,rfl⟩|cases h
theorem Zd{α:Type}{l:List α}:∀{J seen:List Nat},Y2 l.length J seen=true->(Hq l J).length=J.length
 |[],_,_=>rfl
 |j::J,seen,h=>by
  simp only[Y2,Ab]at h
  have hj:j < l.length:=by simpa[Nat.blt_eq]using h.1.1
  have:=Zd h.2
  unfold Hq at this⊢
  rw[Ay,AR,this,Ae hj]
  simp;omega
section
variable {P:Program}{w:World}{St:Nat->Nat->Prop}{α:Type}{f:α->List V}{U:Nat->Value}
theorem cy(h1:∀x,Tu (f x)=true):∀(L:List (Nat×α)) {xs:List Value}{b:List Nat},AY P w St (L.flatMap (pE f U)) xs b->AY P w St ((L.map (·.1)).flatMap (tE U)) xs b
 |[],_,_,h=>h
 |p::L,_,_,h=>by
  obtain⟨e,n,cs,ef⟩:=fE (h1 p.2)
  rw[Ay]at h
  have e2:pE f U p=[.pin (U p.1) n (OK cs)]:=by unfold pE;rw[ef];rfl
  rw[e2]at h
  obtain⟨u,us',b1,b2,q1,q2,q3,⟨q4,q5⟩,q6⟩:=h
  rw[AK,Ay]
  exact⟨u,us',b1,b2,q1,q2,rfl,⟨q4,q5.1,q5.1 ▸ q5.oneCell⟩,cy h1 L q6⟩
theorem lf(h1:∀x,Tu (f x)=true){l:List α}{us:List Value}{bs:List Nat}(ht:AY P w St (l.map λx=>GN (f x)) us bs)(hn:bs.Nodup)(hU:∀i,i < l.length->U i=us.getD i undef):
  ∀(J:List Nat) {xs:List Value}{b0:List Nat},Y2 l.length J []=true->AY P w St (J.flatMap (tE U)) xs b0->∃b',AY P w St ((Hq l J).flatMap f) xs b'∧b'.Nodup∧∀g∈b',g∈bs:=by
 obtain⟨β,k1,k2,k3,k4⟩:=Qt ht hn
 have hlen:=ht.length
 rw[Ar]at hlen
 have key:∀(J seen:List Nat) {xs:List Value}{b0:List Nat},Y2 l.length J seen=true->AY P w St (J.flatMap (tE U)) xs b0->
   ∃b',AY P w St ((Hq l J).flatMap f) xs b'∧b'.Nodup∧(∀g∈b',g∈bs)∧∀i∈seen,∀g∈β i,g∉b':=by
  intro J
  induction J with
  |nil=>
   intro seen xs b0 _ h
   exact⟨[],⟨h.1,rfl⟩,Ax,by simp,by simp⟩
  |cons j J ih=>
   intro seen xs b0 hok h
   rw[Ay]at h
   obtain⟨u,us',b1,b2,q1,q2,q3,⟨q4,q5,q6⟩,q7⟩:=h
   simp only[Y2,Ab,AD]at hok
   obtain⟨⟨g1,g2⟩,g3⟩:=hok
   have hj:j < l.length:=by simpa[Nat.blt_eq]using g1
   obtain⟨b',r1,r2,r3,r4⟩:=ih (j::seen) g3 q7
   have hus:us[j]? =some u:=by
    have:=hU j hj
    rw[<-q5]at this
    rw[this,At,Ae (by omega)]
    rfl
   have htok:=k1 j _ _ (by rw[BB,Ae hj];rfl) hus
   refine⟨β j++b',?_,?_,?_,?_⟩
   ·unfold Hq
    rw[Ay,DJ,Ae hj]
    have e3:([l[j]]:List α).flatMap f=[GN (f l[j])]:=by
     rw[Ay,Jf,Bm]
     exact(tok1 (h1 _)).1
    show AY P w St (([l[j]]:List α).flatMap f++_) xs _
    rw[e3,q1]
    obtain⟨e,n,cs,ec⟩:=Xo (tok1 (h1 l[j])).2
    exact⟨u,us',β j,b',rfl,rfl,by rw[ec];rfl,htok,r1⟩
   ·refine As.2 ⟨k3 j,r2,λa ha b hb e=>?_⟩
    subst e
    exact r4 j (by simp) a ha hb
   ·intro g hg
    rcases An.1 hg with hg|hg
    ·exact k2 j g hg
    ·exact r3 g hg
   ·intro i hi g hg hm
    rcases An.1 hm with hm|hm
    ·have hne:i≠j:=λe=>by
      subst e
      have:seen.contains i=true:=by simpa using hi
      rw[this]at g2;cases g2
     exact k4 i j hne g hg hm
    ·exact r4 i (by simp[hi]) g hg hm
 intro J xs b0 hok h
 obtain⟨b',q1,q2,q3,_⟩:=key J [] hok h
 exact⟨b',q1,q2,q3⟩
theorem ax(h1:∀x,Tu (f x)=true){e:TypeId}{J:List Nat}{v:Value}{b1:List Nat}{l:List α}{us:List Value}{bs:List Nat}(h:Ow P w St (.own e J.length (J.flatMap (tE U))) v b1)(ht:AY P w St (l.map λx=>GN (f x)) us bs)(hn:bs.Nodup)
  (hU:∀i,i < l.length->U i=us.getD i undef) (hok:Y2 l.length J []=true) (hb1:b1.Nodup) (hd:∀g∈b1,g∉bs):∃b',Ow P w St (.own e (Hq l J).length ((Hq l J).flatMap f)) v b'∧b'.Nodup∧∀g∈b',g∈b1∨g∈bs:=by
 obtain⟨hl,xs,bs',hx,hr,rfl,hst,h0⟩:=h
 obtain⟨n1,n2,n3⟩:=As.1 hb1
 obtain⟨b',q1,q2,q3⟩:=lf h1 ht hn hU J hok hr
 have hlen:=Zd hok
 refine⟨v.ownBlock.toList++b',⟨by rw[hlen];exact hl,xs,b',by rw[hlen];exact hx,q1,rfl,by rw[hlen];exact hst,λhz=>?_⟩,?_,?_⟩
 ·have:Hq l J=[]:=Bt hz
  rw[this];rfl
 ·refine As.2 ⟨n1,q2,λa ha b hb e=>?_⟩
  subst e
  exact hd a (AA _ ha) (q3 a hb)
 ·intro g hg
  rcases An.1 hg with hg|hg
  ·exact .inl (AA _ hg)
  ·exact .inr (q3 g hg)
end
section
variable {P:Program}{nt:Nat}{bx:List Nat}{σ:PS}{K:PS->Prop}{L:PL}{α:Type}{f:α->List V}{U:Nat->Value}{e:TypeId}
theorem eY{s:Nat}{c c':V}(hs:σ s=c)(W:∀w St t v bs,Cb P w St t c v bs->Cb P w St t c' v bs)(hb:(CN c').isSome=(CN c).isSome)(hrf:DG c'=none)(h:Gh P nt bx (upd σ s c') K):Gh P nt bx σ K:=
 jD hs (λw St t v bs h hn=>⟨[],bs,by simp,λg hg=>hg,hn,(W w St t v bs h).mono (λ_ _ h=>.inl h) (λ_ _ _=>rfl) (λg hg=>⟨rfl,λo=>⟨λh=>h.elim id (λh=>by simp at h),.inl⟩⟩) (λ_ _=>rfl)⟩) hb hrf h
theorem gWl{s:Nat}{l:List (Nat×α)}(hs:lk L s=some (.own e l.length (l.flatMap (pE f U))))(h1:∀x,Tu (f x)=true)(h:Gh P nt bx (Cd ((s,.own e (l.map (·.1)).length ((l.map (·.1)).flatMap (tE U)))::L)) K):Gh P nt bx (Cd L) K:=by
 refine eY (c':=.own e (l.map (·.1)).length ((l.map (·.1)).flatMap (tE U))) (CF hs) (λw St t v bs hh=>?_) rfl rfl (by rw[D3]at h;exact h)
 obtain⟨hl,xs,bs',hx,hr,hb,hst,h0⟩:=(show Ow P w St _ v bs from hh)
 refine⟨by rw[Ar];exact hl,xs,bs',by rw[Ar];exact hx,cy h1 l hr,hb,by rw[Ar];exact hst,λhz=>?_⟩
 have:l=[]:=Bt (by rw[Ar]at hz;exact hz)
 subst this;rfl
theorem gWt{s:Nat}{u:Value}{n:Nat}{cs:List V}(hs:lk L s=some (.pin u n cs))(h:Gh P nt bx (Cd ((s,.tok u)::L)) K):Gh P nt bx (Cd L) K:=by
 refine eY (c':=.tok u) (CF hs) (λw St t v bs hh=>?_) rfl rfl (by rw[D3]at h;exact h)
 obtain⟨h1,h2⟩:=(show Ow P w St (.pin u n cs) v bs from hh)
 exact⟨h1,h2.1,(show v=u from h2.1) ▸ h2.oneCell⟩
theorem gTj{s q:Nat}{l:List α}{us:List Value}{J:List Nat}(hs:lk L s=some (.own e J.length (J.flatMap (tE U))))(hq:lk L q=some (.gh us (l.map λx=>GN (f x))))(hsq:Nat.beq s q=false)(h1:∀x,Tu (f x)=true)(hU:∀i,i < l.length->U i=us.getD i undef)(hok:Y2 l.length J []=true)
  (h:Gh P nt bx (Cd ((q,.undef)::(s,.own e (Hq l J).length ((Hq l J).flatMap f))::L)) K):Gh P nt bx (Cd L) K:=by
 have hne:s≠q:=λe=>by rw[e]at hsq;simp at hsq
 rintro base St0 w0 a w ⟨St,B,hS,r1,r2,r3⟩
 have k1:=hS.slot s
 rw[CF hs]at k1
 have k2:=hS.slot q
 rw[CF hq]at k2
 obtain⟨b',q1,q2,q3⟩:=ax h1 (show Ow P w St _ _ (B s)from k1) k2 (hS.nodup q) hU hok (hS.nodup s) (λg hg=>hS.apart s q hne g hg)
 refine h base St0 w0 a w ⟨St,upd (upd B s b') q [],?_,r1,r2,r3⟩
 rw[D3,D3,show upd (upd (Cd L) s (V.own e (Hq l J).length ((Hq l J).flatMap f))) q .undef=upd (upd (Cd L) s (V.own e (Hq l J).length ((Hq l J).flatMap f))) q .undef from rfl]
 exact Oz hS hne (by rw[CF hq];rfl) q1 (show Cb P w St (tm a) .undef _ []from rfl) (by rw[Bm];exact q2) (λg hg=>by rw[Bm]at hg;exact q3 g hg) (by rw[CF hs];rfl) rfl rfl rfl
theorem T2{l:List α}{i:Int}{x:α}(h:A4 l i=some x):l[i.toNat]? =some x:=by
 obtain⟨h1,h2,h3⟩:=Cn h
 exact h3
end
section
variable {P:Program}{w:World}{St:Nat->Nat->Prop}
def Sb(P:Program)(w:World)(St:Nat->Nat->Prop)(cs:List V)(us:List Value)(β:Nat->List Nat):Prop:=
 us.length=cs.length∧∀j c u,cs[j]? =some c->us[j]? =some u->c.C5=true∧Ow P w St c u (β j)
theorem Sb.fill{cs:List V}{us:List Value}{β:Nat->List Nat}(h:Sb P w St cs us β){i:Nat}{u:Value}{c:V}{d:List Nat}(hu:us[i]? =some u)(hc:c.C5=true)(ho:Ow P w St c u d):Sb P w St (cs.set i c) us (λj=>if j=i then d else β j):=by
 refine⟨by rw[B5];exact h.1,λj c' u' h1 h2=>?_⟩
 rw[DM]at h1
 by_cases e:i=j
 ·subst e
  rw[AJ rfl]at h1
  split at h1
  ·cases h1
   rw[hu]at h2
   cases h2
   dsimp only
   rw[AJ rfl]
   exact⟨hc,ho⟩
  ·cases h1
 ·rw[AN e]at h1
  dsimp only
  rw[AN (λe':j=i=>e e'.symm)]
  exact h.2 j c' u' h1 h2
theorem Sb.row{cs:List V}{us:List Value}{β:Nat->List Nat}(h:Sb P w St cs us β):AY P w St cs us (Mq β 0 cs.length):=
 SF cs us 0 h.1 λi c u h1 h2=>by rw[CL];exact h.2 i c u h1 h2
theorem bm{c:V}{u:Value}{b:List Nat}(hc:c.C5=true)(h:Ow P w St c u b):Ow P w St (.tok u) u []:=
 ⟨rfl,rfl,(Ow.rd c h (by cases c<;>first|rfl|cases hc)).oneCell⟩
theorem AY.eC{cs:List V}{us:List Value}{bs:List Nat}(h:AY P w St cs us bs)(hn:bs.Nodup)(hc:cs.all V.C5=true):∃β,Sb P w St cs us β∧(∀i,∀g∈β i,g∈bs)∧(∀i,(β i).Nodup)∧∀i j,i≠j->∀g∈β i,g∉β j:=by
 obtain⟨β,k1,k2,k3,k4⟩:=Qt h hn
 exact⟨β,⟨h.length,λj c u h1 h2=>⟨Af.1 hc c (Bu h1),k1 j c u h1 h2⟩⟩,k2,k3,k4⟩
end
theorem lX{β:Type}{cs:List β}{i p:Nat}{a b c d:β}(h:i≠p):(((cs.set i a).set p b).set i c).set p d=(cs.set i c).set p d:=by
 apply GF
 intro j
 simp only[DM,B5]
 by_cases e1:p=j
 ·simp[e1]
 ·by_cases e2:i=j
  ·subst e2;simp[e1]
  ·simp[e1,e2]
section
variable {P:Program}{nt:Nat}{bx:List Nat}{K:PS->Prop}{L:PL}{α:Type}{f:α->List V}{U:Nat->Value}
theorem Zr(h1:∀x,Tu (f x)=true)(l:List α):(l.map λx=>GN (f x)).all V.C5=true:=by
 rw[Hk,Af]
 intro x _
 obtain⟨e,n,cs,ec⟩:=Xo (tok1 (h1 x)).2
 show V.C5 (GN (f x))=true
 rw[ec];rfl
theorem SH(h1:∀x,Tu (f x)=true)(x:α):(GN (f x)).C5=true:=by
 obtain⟨e,n,cs,ec⟩:=Xo (tok1 (h1 x)).2
 rw[ec];rfl
theorem gT2{q:Nat}{l:List α}{us:List Value}{i p:Int}{x y:α}(hq:lk L q=some (.gh us (l.map λx=>GN (f x))))(hg:lk L gS=none)(hqs:Nat.beq q gS=false)(h1:∀x,Tu (f x)=true)(hU:∀i,i < l.length->U i=us.getD i undef)(gi:A4 l i=some x)(gp:A4 l p=some y)(hip:Nat.beq i.toNat p.toNat=false)
  (h:Gh P nt bx (Cd ((gS,.gh [U i.toNat,U p.toNat] [GN (f x),GN (f y)])::(q,.gh us (((l.map λx=>GN (f x)).set i.toNat (.tok (U i.toNat))).set p.toNat (.tok (U p.toNat))))::L)) K):Gh P nt bx (Cd L) K:=by
 have hne:q≠gS:=λe=>by rw[e]at hqs;simp at hqs
 have hip':i.toNat≠p.toNat:=λe=>by rw[e]at hip;simp at hip
 rintro base St0 w0 a w ⟨St,B,hS,r1,r2,r3⟩
 have k2:=hS.slot q
 rw[CF hq]at k2
 have k2':AY P w St (l.map λx=>GN (f x)) us (B q):=k2
 obtain⟨β,k1,kk2,k3,k4⟩:=k2'.eC (hS.nodup q) (Zr h1 l)
 have hlen:=k1.1
 rw[Ar]at hlen
 have hi:=T2 gi
 have hp:=T2 gp
 have hus:∀j z,l[j]? =some z->us[j]? =some (U j)∧Ow P w St (GN (f z)) (U j) (β j):=λj z hz=>by
  have hj:=(B4.1 hz).1
  have e1:us[j]? =some (U j):=by rw[hU j hj,At,Ae (by omega)];rfl
  exact⟨e1,(k1.2 j _ _ (by rw[BB,hz];rfl) e1).2⟩
 obtain⟨ui,oi⟩:=hus _ _ hi
 obtain⟨up,op⟩:=hus _ _ hp
 have m1:=(k1.fill ui (c:=.tok (U i.toNat)) rfl (bm (SH h1 x) oi)).fill up (c:=.tok (U p.toNat)) rfl (bm (SH h1 y) op)
 have hβ:∀j g,g∈(if j=p.toNat then([]:List Nat)else if j=i.toNat then []else β j)->g∈β j∧j≠i.toNat∧j≠p.toNat:=λj g hg=>by
  split at hg
  ·simp at hg
  ·split at hg
   ·simp at hg
   ·exact⟨hg,by assumption,by assumption⟩
 obtain⟨bb,hbb,m2⟩:∃bb,bb=_∧AY P w St _ us bb:=⟨_,rfl,m1.row⟩
 refine h base St0 w0 a w ⟨St,upd (upd B q bb) gS (β i.toNat++β p.toNat),?_,r1,r2,r3⟩
 rw[D3,D3]
 refine Oz hS hne (by rw[Nc,hg];rfl) (show Cb P w St (tm a) (.gh us _) _ bb from m2) (show Cb P w St (tm a) (.gh [U i.toNat,U p.toNat] _) _ (β i.toNat++β p.toNat)from⟨_,_,β i.toNat,β p.toNat,rfl,rfl,SH h1 x,oi,_,_,β p.toNat,[],rfl,(Bm _).symm,SH h1 y,op,rfl,rfl⟩) ?_ ?_ (by rw[CF hq];rfl) rfl rfl rfl<;>subst hbb
 ·refine As.2 ⟨Ma (λj=>?_) (λj k hjk g hg hg'=>k4 j k hjk g (hβ j g hg).1 (hβ k g hg').1) _ _,As.2 ⟨k3 _,k3 _,λa ha b hb e=>k4 _ _ hip' a ha (e ▸ hb)⟩,λa ha b hb e=>?_⟩
  ·split
   ·exact Ax
   ·split
    ·exact Ax
    ·exact k3 j
  ·subst e
   obtain⟨j,_,_,hj⟩:=L9 ha
   obtain⟨q1,q2,q3⟩:=hβ j a hj
   rcases An.1 hb with hb|hb
   ·exact k4 j _ q2 a q1 hb
   ·exact k4 j _ q3 a q1 hb
 ·intro g hg
  left
  rcases An.1 hg with hg|hg
  ·obtain⟨j,_,_,hj⟩:=L9 hg
   exact kk2 j g (hβ j g hj).1
  ·rcases An.1 hg with hg|hg
   ·exact kk2 _ g hg
   ·exact kk2 _ g hg
theorem gJ2{q:Nat}{l:List α}{us:List Value}{i p:Int}{x y x' y':α}(hg:lk L gS=some (.gh [U i.toNat,U p.toNat] [GN (f x'),GN (f y')]))(hq:lk L q=some (.gh us (((l.map λx=>GN (f x)).set i.toNat (.tok (U i.toNat))).set p.toNat (.tok (U p.toNat)))))(hqs:Nat.beq q gS=false)(h1:∀x,Tu (f x)=true)(hU:∀i,i < l.length->U i=us.getD i undef)(gi:A4 l i=some x)(gp:A4 l p=some y)(hip:Nat.beq i.toNat p.toNat=false)
  (h:Gh P nt bx (Cd ((gS,.undef)::(q,.gh us ((Dj (Dj l i x') p y').map λx=>GN (f x)))::L)) K):Gh P nt bx (Cd L) K:=by
 have hne:q≠gS:=λe=>by rw[e]at hqs;simp at hqs
 have hip':i.toNat≠p.toNat:=λe=>by rw[e]at hip;simp at hip
 rintro base St0 w0 a w ⟨St,B,hS,r1,r2,r3⟩
 have k2:=hS.slot q
 rw[CF hq]at k2
 have k2':AY P w St _ us (B q):=k2
 have kS:=hS.slot gS
 rw[CF hg]at kS
 obtain⟨u1,us1,d1,d2',e1,e2,c1,o1,u2,us2,d2,d3,e3,e4,c2,o2,e5,e6⟩:=(show AY P w St [GN (f x'),GN (f y')] _ (B gS)from kS)
 obtain⟨rfl,rfl⟩:=List.cons.inj e1
 obtain⟨rfl,rfl⟩:=List.cons.inj e3
 subst e6
 rw[Bm]at e4
 rw[e4]at e2
 have hcell:(((l.map λx=>GN (f x)).set i.toNat (.tok (U i.toNat))).set p.toNat (.tok (U p.toNat))).all V.C5=true:=by
  rw[Af]
  intro c hc
  rcases GW hc with hc|rfl
  ·rcases GW hc with hc|rfl
   ·exact Af.1 (Zr h1 l) c hc
   ·rfl
  ·rfl
 obtain⟨β,k1,kk2,k3,k4⟩:=k2'.eC (hS.nodup q) hcell
 have hlen:=k1.1
 rw[B5,B5,Ar]at hlen
 have hi:=(B4.1 (T2 gi)).1
 have hp:=(B4.1 (T2 gp)).1
 have hus:∀j,j < l.length->us[j]? =some (U j):=λj hj=>by rw[hU j hj,At,Ae (by omega)];rfl
 have m1:=(k1.fill (hus _ hi) c1 o1).fill (hus _ hp) c2 o2
 rw[lX hip',<-List.map_set (f:=λx=>GN (f x)),<-List.map_set (f:=λx=>GN (f x))]at m1
 have hndS:=hS.nodup gS
 rw[e2]at hndS
 obtain⟨n1,n2,n3⟩:=As.1 hndS
 have hoff:∀j g,g∈β j->g∉d1∧g∉d2:=λj g hgm=>by
  have:=hS.apart q gS hne g (kk2 j g hgm)
  rw[e2,An,not_or]at this
  exact this
 have hβ:∀j g,g∈(if j=p.toNat then d2 else if j=i.toNat then d1 else β j)->(j=p.toNat∧g∈d2)∨(j=i.toNat∧g∈d1)∨g∈β j:=λj g hg=>by
  split at hg
  ·rename_i e;exact .inl ⟨e,hg⟩
  ·split at hg
   ·rename_i e;exact .inr (.inl ⟨e,hg⟩)
   ·exact .inr (.inr hg)
 obtain⟨bb,hbb,m2⟩:∃bb,bb=_∧AY P w St _ us bb:=⟨_,rfl,m1.row⟩
 refine h base St0 w0 a w ⟨St,upd (upd B q bb) gS [],?_,r1,r2,r3⟩
 rw[D3,D3]
 refine Oz hS hne (by rw[CF hg];rfl) (show Cb P w St (tm a) (.gh us _) _ bb from m2) (show Cb P w St (tm a) .undef _ []from rfl) ?_ ?_ (by rw[CF hq];rfl) rfl rfl rfl<;>subst hbb
 ·rw[Bm]
  refine Ma (λj=>?_) (λj k hjk g hg hg'=>?_) _ _
  ·split
   ·exact n2
   ·split
    ·exact n1
    ·exact k3 j
  ·rcases hβ j g hg with⟨q1,q2⟩|⟨q1,q2⟩|q2<;>rcases hβ k g hg' with⟨q3,q4⟩|⟨q3,q4⟩|q4
   ·exact hjk (q1.trans q3.symm)
   ·exact n3 g q4 g q2 rfl
   ·exact(hoff k g q4).2 q2
   ·exact n3 g q2 g q4 rfl
   ·exact hjk (q1.trans q3.symm)
   ·exact(hoff k g q4).1 q2
   ·exact(hoff j g q2).2 q4
   ·exact(hoff j g q2).1 q4
   ·exact k4 j k hjk g q2 q4
 ·intro g hg
  rw[Bm]at hg
  obtain⟨j,_,_,hj⟩:=L9 hg
  rcases hβ j g hj with⟨_,q⟩|⟨_,q⟩|q
  ·exact .inr (by rw[e2];exact Aw _ q)
  ·exact .inr (by rw[e2];exact AA _ q)
  ·exact .inl (kk2 j g q)
theorem hU2{l:List α}{us:List Value}{i p:Int}{x y:α}(hU:∀i,i < l.length->U i=us.getD i undef):∀j,j < (Dj (Dj l i x) p y).length->U j=us.getD j undef:=λj hj=>hU j (by simpa[Dj]using hj)
end
theorem iu{α:Type}{f:α->List V}{us:List Value}(h1:∀x,Tu (f x)=true)(hd:∀x,DE (f x)=true):∀(l:List α),H0 (.gh us (l.map λx=>GN (f x)))=true
 |[]=>rfl
 |x::l=>by
  have h2:DE (l.map λx=>GN (f x))=true:=iu (us:=us) h1 hd l
  have h3:=hd x
  rw[(tok1 (h1 x)).1,DE,Ab]at h3
  show DE (GN (f x)::l.map λx=>GN (f x))=true
  rw[DE,h3.1,h2]
  rfl
theorem UV{α:Type}:∀(l:List α) (k j:Nat),(Ik k l)[j]? =(l[j]?).map λx=>(k+j,x)
 |[],_,_=>by simp[Ik]
 |x::l,k,0=>by simp[Ik]
 |x::l,k,j+1=>by
  rw[Ik,Dx,Dx,UV l (k+1) j,show k+1+j=k+(j+1)from by omega]
theorem eX{α:Type}{l:List α}{i:Int}{a:Nat×α}(h:A4 (Ik 0 l) i=some a):a.1=i.toNat∧A4 l i=some a.2:=by
 obtain⟨h1,h2,h3⟩:=Cn h
 rw[UV,CL]at h3
 cases hx:l[i.toNat]? with
 |none=>rw[hx]at h3;cases h3
 |some x=>
  rw[hx]at h3
  cases h3
  refine⟨rfl,?_⟩
  rw[UW]at h2
  unfold A4
  rw[AJ h1]
  exact hx
section
variable {P:Program}{nt:Nat}{bx:List Nat}{K:PS->Prop}{L:PL}{α:Type}{f:α->List V}{U:Nat->Value}
theorem gT3{q:Nat}{l:List α}{us:List Value}{i p:Int}{a b:Nat×α}(hq:lk L q=some (.gh us (l.map λx=>GN (f x))))(hg:lk L gS=none)(hqs:Nat.beq q gS=false)(h1:∀x,Tu (f x)=true)(hU:∀i,i < l.length->U i=us.getD i undef)(ga:A4 (Ik 0 l) i=some a)(gb:A4 (Ik 0 l) p=some b)(hip:Nat.beq a.1 b.1=false)
  (h:Gh P nt bx (Cd ((gS,.gh [U a.1,U b.1] [GN (f a.2),GN (f b.2)])::(q,.gh us (((l.map λx=>GN (f x)).set a.1 (.tok (U a.1))).set b.1 (.tok (U b.1))))::L)) K):Gh P nt bx (Cd L) K:=by
 obtain⟨e1,g1⟩:=eX ga
 obtain⟨e2,g2⟩:=eX gb
 rw[e1,e2]at hip h
 exact gT2 hq hg hqs h1 hU g1 g2 hip h
theorem gJ3{q:Nat}{l:List α}{us:List Value}{i p:Int}{a b:Nat×α}{x' y':α}(hg:lk L gS=some (.gh [U a.1,U b.1] [GN (f x'),GN (f y')]))(hq:lk L q=some (.gh us (((l.map λx=>GN (f x)).set a.1 (.tok (U a.1))).set b.1 (.tok (U b.1)))))(hqs:Nat.beq q gS=false)(h1:∀x,Tu (f x)=true)(hU:∀i,i < l.length->U i=us.getD i undef)(ga:A4 (Ik 0 l) i=some a)(gb:A4 (Ik 0 l) p=some b)(hip:Nat.beq a.1 b.1=false)
  (h:Gh P nt bx (Cd ((gS,.undef)::(q,.gh us ((Dj (Dj l i x') p y').map λx=>GN (f x)))::L)) K):Gh P nt bx (Cd L) K:=by
 obtain⟨e1,g1⟩:=eX ga
 obtain⟨e2,g2⟩:=eX gb
 rw[e1,e2]at hip hg hq
 exact gJ2 hg hq hqs h1 hU g1 g2 hip h
end
theorem dQ:∀{cs:List V}{i:Nat}{c:V},DE cs=true->MQ c=true->DE (cs.set i c)=true
 |[],_,_,_,_=>rfl
 |d::cs,0,c,h,hc=>by
  rw[DE,Ab]at h
  rw[Kx,DE,hc,h.2];rfl
 |d::cs,i+1,c,h,hc=>by
  rw[DE,Ab]at h
  rw[List.set_cons_succ,DE,h.1,dQ h.2 hc];rfl
theorem zk{α:Type}{f:α->List V}{us:List Value}(h1:∀x,Tu (f x)=true)(hd:∀x,DE (f x)=true)(l:List α){i j:Nat}{u v:Value}:H0 (.gh us (((l.map λx=>GN (f x)).set i (.tok u)).set j (.tok v)))=true:=
 dQ (dQ (iu (us:=us) h1 hd l) rfl) rfl
theorem qIp{P:Program}{tb:Tb}{cns:List Nat}{L:PL}{K:PS->Prop}{s t:TypeId}{x y:Operand}{d:Nat}{α:Type}{f g:α->List V}{l:List α}{i:Int}{e:α}{n:Nat}(h:iaO tb L s x y=some (l.length,OK (l.flatMap f),i,n))(he:∀x,OK (f x)=g x)(hf:∀x,(g x).length=n)(hi:A4 l i=some e)(k:K (Cd ((d,.adr (g e++(l.drop (i.toNat+1)).flatMap g) 0)::L))):F7 P tb cns ⟨some d,.indexAddr s x y,t,none⟩ (Cd L) K:=
 qI (by rw[h,RB he]) hf hi k
end Go.Proofs.YtckmdkajoiegmaaGreatDoor
namespace Go.Proofs.YtckmdkajoiegmaaGreatDoor
section
variable {P:Program}{nt:Nat}{base:Bs}{bx:List Nat}{St St0:Nat->Nat->Prop}{B:Nat->List Nat}{hand:List Nat}{σ:PS}{a:Act}{w w0:World}{K:PS->Prop}{L:PL}
theorem HSim.fact(h:HSim P nt bx base St B hand σ a w){s q:Nat}(hs:∃cs,CN (σ s)=some cs)(hq:CN (σ q)=none):HSim P nt bx base St (upd B q []) hand (upd σ q (.val s (tm a s))) a w:=
 have hne:∀b,(∃cs,CN (σ b)=some cs)->b≠q:=λb ⟨cs,e⟩ e'=>by rw[e',hq]at e;cases e
 have hin:∀r,∀g∈upd B q [] r,g∈B r:=λr g hg=>by
  by_cases e:r=q
  ·subst e;rw[upd_same]at hg;simp at hg
  ·rw[upd_ne _ _ e]at hg;exact hg
 {h with
  slot:=λr=>by
   by_cases e:r=q
   ·subst e;rw[upd_same,upd_same];exact⟨rfl,rfl⟩
   ·rw[upd_ne _ _ e,upd_ne _ _ e];exact h.slot r
  boxes:=λr cs e=>by
   by_cases e':r=q
   ·subst e';rw[upd_same]at e;cases e
   ·rw[upd_ne _ _ e']at e;exact h.boxes r cs e
  crefs:=λr b e=>by
   by_cases e':r=q
   ·subst e'
    rw[upd_same]at e
    simp only[DG,Ak]at e
    subst e
    rw[upd_ne _ _ (hne _ hs)];exact hs
   ·rw[upd_ne _ _ e']at e
    have:=h.crefs r b e
    rw[upd_ne _ _ (hne _ this)];exact this
  nodup:=λr=>by
   by_cases e:r=q
   ·subst e;rw[upd_same];exact Ax
   ·rw[upd_ne _ _ e];exact h.nodup r
  apart:=λr t hrt g hg hg'=>h.apart r t hrt g (hin r g hg) (hin t g hg')
  hapart:=λr g hg=>h.hapart r g (hin r g hg)
  range:=λr g hg=>h.range r g (hin r g hg)}
theorem gFv{s:Nat}{cs:List V}(hs:lk L s=some (.box cs))(hq:lk L (gV s)=none)(h:∀u,Gh P nt bx (Cd ((gV s,.val s u)::L)) K):Gh P nt bx (Cd L) K:=by
 rintro base St0 w0 a w ⟨St,B,hS,r1,r2,r3⟩
 have h1:=hS.fact (s:=s) (q:=gV s) ⟨cs,by rw[CF hs];rfl⟩ (by rw[Nc,hq];rfl)
 exact h (tm a s) base St0 w0 a w ⟨St,_,by rw[D3];exact h1,r1,r2,r3⟩
end
def QZ:Nat->List Value->PS->PS
 |_,[],σ=>σ
 |m,u::us,σ=>upd (QZ (m+1) us σ) (gV m) (.val m u)
theorem U3{σ:PS}{q:Nat}:∀{us:List Value}{m:Nat},(∀j,m<=j->q≠gV j)->QZ m us σ q=σ q
 |[],_,_=>rfl
 |u::us,m,h=>by rw[QZ,upd_ne _ _ (h m (A9 _)),U3 λj hj=>h j (by omega)]
def uU(bx:List Nat)(m n:Nat):Bool:=(List.range n).all λi=>bx.contains (m+i)&&bx.contains (N6+(m+i))
section
variable {P:Program}{nt:Nat}{base:Bs}{bx:List Nat}{St:Nat->Nat->Prop}{a:Act}{w:World}
theorem Xh{σ:PS}:∀{us:List Value}{m:Nat}{B:Nat->List Nat},HSim P nt bx base St B [] σ a w->(∀i u,us[i]? =some u->tm a (m+i)=u∧(∃cs,CN (σ (m+i))=some cs)∧m+i < 910000)->(∀j,m<=j->CN (σ (gV j))=none)->∃B',HSim P nt bx base St B' [] (QZ m us σ) a w
 |[],_,B,h,_,_=>⟨B,h⟩
 |u::us,m,B,h,hu,hg=>by
  obtain⟨B1,h1⟩:=Xh (us:=us) (m:=m+1) h (λi v hv=>by
   have:=hu (i+1) v (by simpa using hv)
   rwa [show m+(i+1)=m+1+i from by omega]at this) (λj hj=>hg j (by omega))
  obtain⟨q1,q2,q3⟩:=hu 0 u rfl
  rw[CP]at q1 q2 q3
  have e1:QZ (m+1) us σ m=σ m:=U3 λj _=>by unfold gV;omega
  have e2:QZ (m+1) us σ (gV m)=σ (gV m):=U3 λj hj=>by unfold gV;omega
  have:=h1.fact (s:=m) (q:=gV m) (by rw[e1];exact q2) (by rw[e2];exact hg m (A9 _))
  rw[q1]at this
  exact⟨_,this⟩
end
section
variable {P:Program}{tb:Tb}
theorem uV(htb:GA P tb){f:FuncId}{fn:Func}{c:Code}{us:List Value}{css css':List (List V)}{args:List V}{r:V}(hf:P.funcs[f]? =some fn)(hb:fn.body=some c)(hname:(fn.name== "runtime.NumGoroutine")=false)(bx:List Nat)(hlen:args.length+css.length<=fn.ntmps)(hnt:fn.ntmps<=910000)(h0:uU bx args.length css.length=true)(hargs:args.all NZ=true)
  (hn:(fn.results.toList.map L4).Nodup) (hrp:r=.tup []∨LZ r=true) (h:K5 P fn.ntmps bx c (QZ args.length us (Fc (args++css.map V.box))) (λe σ=>(e=.ret∨e=.normal)∧Vu tb σ fn.results.toList=some r∧((List.range css.length).map λi=>σ (args.length+i))=css'.map V.box)):Qd P f us css args css' r:=by
 refine⟨⟨fn,hf,by rw[hb];rfl,hname⟩,λw St bs0 vs hst hgl hrow hnd hrg hvs=>?_⟩
 obtain⟨hl,hat⟩:=args_at hvs
 have hul:=hrow.length
 have hss:((List.range css.length).map (args.length+ ·)).Nodup:=by
  unfold List.Nodup
  rw[ES]
  exact GE (λh e=>h (by omega)) (show(List.range css.length).Pairwise (· ≠ ·)from Fd)
 obtain⟨β,m1,m2,m3,m4⟩:=UM (ss:=(List.range css.length).map (args.length+ ·)) hrow hnd hss (by simp)
 have hssm:∀s,s∈(List.range css.length).map (args.length+ ·)↔args.length<=s∧s < args.length+css.length:=λs=>by
  rw[Bw]
  constructor
  ·rintro⟨i,hi,rfl⟩;rw[Al]at hi;omega
  ·rintro⟨h1,h2⟩;exact⟨s - args.length,Al.2 (by omega),by omega⟩
 have hbx:∀i,i < css.length->args.length+i∈bx∧N6+(args.length+i)∈bx:=λi hi=>by
  have:=Af.1 h0 i (Al.2 hi)
  simpa[Ab,Av]using this
 have hini:∀s,s < args.length->Fc (args++css.map V.box) s=(args[s]?).getD (.tup []):=λs hs=>by
  simp only[Fc,BA hs]
 have hinb:∀s,args.length<=s->Fc (args++css.map V.box) s=((css[s - args.length]?).map V.box).getD (.tup []):=λs hs=>by
  simp only[Fc,Bn hs,BB]
 refine G8 hf hb ?_
 have hsim:HSim P fn.ntmps bx ⟨λb=>b < w.heap.size∧b∉bs0,(List.range css.length).map λi=>(args.length+i,us.getD i undef)⟩ St (λs=>if args.length<=s∧s < args.length+css.length then β s else []) [] (Fc (args++css.map V.box)) {tmps:=(vs++us).toArray++Array.replicate (fn.ntmps - (vs++us).toArray.size) undef,defers:=[]} w:=by
  refine
  {size:=by simp;omega
   defers:=rfl
   slot:=λs=>?_
   boxes:=λs cs e=>?_
   crefs:=λs b e=>?_
   nodup:=λs=>by
    split
    ·exact m3 s
    ·exact Ax
   apart:=λs t hst k hk hk'=>by
    split at hk
    ·split at hk'
     ·rename_i q1 q2
      exact m4 s ((hssm s).2 q1) t ((hssm t).2 q2) hst k hk hk'
     ·simp at hk'
    ·simp at hk
   hnodup:=Ax
   hapart:=λ_ k hk=>by simp
   range:=λs k hk=>by
    split at hk
    ·rename_i q1
     exact⟨λh=>h.2 (m2 s ((hssm s).2 q1) k hk),hrg k (m2 s ((hssm s).2 q1) k hk)⟩
    ·simp at hk
   hrange:=λk hk=>by simp at hk
   st:=hst
   gl:=hgl
   pin:=λv e=>by
    obtain⟨i,hi,rfl⟩:=Bw.1 e
    rw[Al]at hi
    rw[QU]
    refine⟨?_,hbx i hi⟩
    rw[Bn (by omega),hl,CC,At]}
  ·rw[QU]
   by_cases hs:s < args.length
   ·rw[AN (by omega),hini s hs,BA (by omega)]
    obtain⟨v,hv,hr⟩:=hat s args[s] (Ae hs)
    rw[Ae hs,hv,BJ,BJ]
    exact(SD (Af.1 hargs _ (Ao hs)) hr).slot
   ·rw[hinb s (by omega),Bn (by omega),hl]
    by_cases hs2:s < args.length+css.length
    ·rw[AJ ⟨by omega,hs2⟩,Ae (show s - args.length < css.length by omega),Ae (show s - args.length < us.length by omega)]
     simp only[Bp,BJ]
     refine eo (m1 (s - args.length) s _ _ ?_ (Ae _) (Ae _))
     rw[BB,Cy (by omega),Bp]
     congr 1;omega
    ·rw[AN (by omega),AU (by omega),AU (by omega)]
     exact⟨[],rfl,rfl,rfl⟩
  ·by_cases hs:s < args.length
   ·rw[hini s hs,Ae hs,BJ]at e
    have hp:=Af.1 hargs _ (Ao hs)
    cases hc:args[s]<;>rw[hc]at e hp<;>first|(cases hp;done)|(cases e;done)
   ·by_cases hs2:s < args.length+css.length
    ·have:=(hbx (s - args.length) (by omega)).1
     rwa [show args.length+(s - args.length)=s from by omega]at this
    ·rw[hinb s (by omega),AU (by omega)]at e
     cases e
  ·by_cases hs:s < args.length
   ·rw[hini s hs,Ae hs,BJ]at e
    have hp:=Af.1 hargs _ (Ao hs)
    cases hc:args[s]<;>rw[hc]at e hp<;>first|(cases hp;done)|(cases e;done)
   ·rw[hinb s (by omega)]at e
    cases hc:css[s - args.length]? with
    |none=>rw[hc]at e;cases e
    |some cs=>rw[hc]at e;cases e
 obtain⟨B1,hsim1⟩:=Xh (us:=us) (m:=args.length) hsim (λi u hu=>by
  have hi:i < css.length:=by have:=(B4.1 hu).1;omega
  refine⟨?_,?_,by omega⟩
  ·rw[QU,Bn (by omega),hl,CC,hu];rfl
  ·rw[hinb _ (by omega),CC,Ae hi]
   exact⟨_,rfl⟩) (λj _=>by
  have:args.length+css.length<=gV j:=by unfold gV;omega
  rw[hinb _ (by omega),AU (by omega)];rfl)
 have hrel:Rel P fn.ntmps bx _ St w (QZ args.length us (Fc (args++css.map V.box))) _ w:=⟨St,B1,hsim1,BelowK.refl _ _,λ_ _ _=>CV,λ_ h=>h.1⟩
 refine Ek (h _ _ _ _ _ hrel) ?_
 rintro e a' w' ⟨σ',⟨he,hres,hbox⟩,St1,B',h1,h2,h3,h4⟩
 have hfin:a'.defers=[]∧∃v,(results fn a'.tmps).run P w'=.ok v w'∧qn P w St us bs0 css' r (.returned v) w':=by
  obtain⟨v,bs,q1,q2,q3,q4⟩:=Un htb h1 hn hres
  have hbs:bs=[]:=by
   rcases hrp with rfl|hrp
   ·obtain⟨_,_,h5⟩:=q2;exact h5.2
   ·cases r<;>first|exact q2.1|cases hrp
  subst hbs
  have hl':css'.length=css.length:=by have:=congrArg List.length hbox;simpa using this.symm
  have hbr:∀(n k:Nat) (ds:List (List V)) (vs':List Value),ds.length=n->vs'.length=n->(∀i d u,ds[i]? =some d->vs'[i]? =some u->σ' (args.length+(k+i))=.box d∧tm a' (args.length+(k+i))=u)->PO P w' St1 ds vs' (Mq B' (args.length+k) n):=by
   intro n
   induction n with
   |zero=>intro k ds vs' e1 e2 _;rw[HI.1 e1,HI.1 e2];exact⟨rfl,rfl⟩
   |succ n ih=>
    intro k ds vs' e1 e2 hh
    cases ds with
    |nil=>cases e1
    |cons d ds=>
     cases vs' with
     |nil=>cases e2
     |cons u vs'=>
      obtain⟨g1,g2⟩:=hh 0 d u rfl rfl
      have hs:=h1.slot (args.length+k)
      rw[CP]at g1 g2
      rw[g1,g2]at hs
      refine⟨u,vs',B' (args.length+k),Mq B' (args.length+k+1) n,rfl,rfl,eo hs,?_⟩
      have:=ih (k+1) ds vs' (by simpa using e1) (by simpa using e2) (λi d' u' hd hu=>by
       have:=hh (i+1) d' u' (by simpa using hd) (by simpa using hu)
       rwa [show k+(i+1)=k+1+i from by omega]at this)
      rwa [show args.length+(k+1)=args.length+k+1 from by omega]at this
  have hk:∀k∈Mq B' (args.length+0) css'.length,(k∈bs0∨w.heap.size<=k)∧k < w'.heap.size:=λk hk=>by
   obtain⟨i,_,_,hm⟩:=L9 hk
   have hr:=h1.range i k hm
   refine⟨Bq λhc=>?_,hr.2⟩
   rw[not_or]at hc
   exact hr.1 ⟨by omega,hc.1⟩
  refine⟨h1.defers,v,q1,v,Mq B' (args.length+0) css'.length,St1,rfl,h2,λb o hb hbn=>h3 b o ⟨hb,hbn⟩,h1.st,hbr css'.length 0 css' us rfl (by omega) (λi d u hd hu=>?_),q2,Ma h1.nodup h1.apart _ _,hk⟩
  have hi:i < css.length:=by have:=(B4.1 hd).1;omega
  rw[CL]
  refine⟨?_,?_⟩
  ·have:=congrArg (λl=>l[i]?) hbox
   simp only[BB,Cy hi,Bp,hd,Ak]at this
   exact this
  ·have:=(h1.pin (args.length+i,us.getD i undef) (Bw.2 ⟨i,Al.2 hi,rfl⟩)).1
   rw[At,hu]at this
   exact this
 rcases he with rfl|rfl
 ·exact hfin
 ·exact hfin
end
section
variable {P:Program}{tb:Tb}
def xO(tb:Tb)(rs:List ResultVar)(m n:Nat)(css':List (List V))(r:V)(e:Exit)(σ:PS):Prop:=(e=.ret∨e=.normal)∧Vu tb σ rs=some r∧((List.range n).map λi=>σ (m+i))=css'.map V.box
theorem pg(htb:GA P tb){f:FuncId}{nt:Nat}{bx:List Nat}{rs:List ResultVar}{l:LC}{us:List Value}{css css':List (List V)}{args:List V}{r:V}(hl:Lit P f nt bx rs l)(hlen:args.length+css.length<=nt)(hnt:nt<=910000)(hb:uU bx args.length css.length=true)(hargs:args.all NZ=true)(hrp:r=.tup []∨LZ r=true)
  (h:LS P nt bx l (QZ args.length us (Fc (args++css.map V.box))) (xO tb rs args.length css.length css' r)):Qd P f us css args css' r:=by
 obtain⟨⟨fn,c,h1,h2,h3,rfl,rfl,h6,h7⟩,hn,hL⟩:=hl
 exact uV htb h1 h2 h3 bx hlen hnt hb hargs hn hrp (h c h6 h7 hL)
end
def UN(L:PL):List Nat->Option (List (List V))
 |[]=>some []
 |s::ss=>match lk L s with
  |some (.box cs)=>Aa (UN L ss) λr=>some (cs::r)
  |_=>none
def Zt(L:PL):List Nat->Option (List Value)
 |[]=>some []
 |s::ss=>match lk L (gV s)with
  |some (.val q u)=>RG (Nat.beq q s) (Aa (Zt L ss) λr=>some (u::r))
  |_=>none
theorem YI{L:PL}:∀{ss:List Nat}{css:List (List V)},UN L ss=some css->ss.map (Cd L)=css.map V.box
 |[],_,h=>by cases h;rfl
 |s::ss,_,h=>by
  unfold UN at h
  split at h
  ·rename_i cs hs
   obtain⟨r,h1,h⟩:=AT h
   cases h
   rw[AK,AK,CF hs,YI h1]
  ·cases h
theorem cQ{L:PL}:∀{ss:List Nat}{us:List Value},Zt L ss=some us->(ss.map λs=>Cd L (gV s))=(ss.zip us).map (λp=>V.val p.1 p.2)∧ss.length=us.length
 |[],_,h=>by cases h;exact⟨rfl,rfl⟩
 |s::ss,_,h=>by
  unfold Zt at h
  split at h
  ·rename_i q u hs
   obtain⟨hq,h⟩:=Du h
   obtain⟨r,h1,h⟩:=AT h
   cases h
   have hq:=CE hq
   subst hq
   obtain⟨h2,h3⟩:=cQ h1
   exact⟨by rw[AK,List.zip_cons_cons,AK,CF hs,h2],by rw[AL,AL,h3]⟩
  ·cases h
def mR(L:PL):List Operand->Option (List Value)
 |[]=>some []
 |.tmp p::xs=>match lk L (gV p)with
  |some (.val q u)=>RG (Nat.beq q p) (Aa (mR L xs) λr=>some (u::r))
  |_=>none
 |_::_=>none
theorem eB{L:PL}:∀{xs:List Operand}{us:List Value},mR L xs=some us->ZM (Cd L) xs=some us
 |[],_,h=>by cases h;rfl
 |.tmp p::xs,_,h=>by
  unfold mR at h
  split at h
  ·rename_i q u hs
   obtain⟨hq,h⟩:=Du h
   obtain⟨r,h1,h⟩:=AT h
   cases h
   have hq:=CE hq
   subst hq
   unfold ZM
   rw[CF hs]
   simp only[Er,eB h1,Bp]
  ·cases h
 |.const _::_,_,h=>by cases h
 |.global _::_,_,h=>by cases h
 |.func _::_,_,h=>by cases h
def sfV(ss:List Nat):PL->Prop
 |[]=>True
 |(q,c)::L=>(ss.contains q=true∨H0 c=true)∧sfV ss L
theorem yvn{ss:List Nat}:sfV ss []:=trivial
theorem Yg{ss:List Nat}{q:Nat}{c:V}{L:PL}(h:ss.contains q=true)(k:sfV ss L):sfV ss ((q,c)::L):=⟨.inl h,k⟩
theorem LI{ss:List Nat}{q:Nat}{c:V}{L:PL}(h:H0 c=true)(k:sfV ss L):sfV ss ((q,c)::L):=⟨.inr h,k⟩
theorem lY{ss:List Nat}:∀{L:PL},sfV ss L->∀q,q∉ss->H0 (Cd L q)=true
 |[],_,q,_=>rfl
 |(p,c)::L,⟨h1,h2⟩,q,hq=>by
  rw[D3]
  by_cases e:q=p
  ·subst e;rw[upd_same];exact h1.resolve_left λh=>hq (Av.1 h)
  ·rw[upd_ne _ _ e];exact lY h2 q hq
def iF:List Nat->List (List V)->PL->PL
 |s::ss,cs::css,L=>(s,.box cs)::iF ss css L
 |_,_,L=>L
theorem gj{L:PL}:∀{ss:List Nat}{css:List (List V)},Ye (Cd L) ss css=Cd (iF ss css L)
 |[],_=>rfl
 |_::_,[]=>rfl
 |s::ss,cs::css=>by rw[Ye,iF,D3,gj]
def gX:List Nat->Bool
 |[]=>true
 |s::ss=> !ss.contains s&&gX ss
theorem fA:∀{ss:List Nat},gX ss=true->ss.Nodup
 |[],_=>Ax
 |s::ss,h=>by
  rw[gX,Ab,AD,<-Jc,Av]at h
  exact Bx.2 ⟨h.1,fA h.2⟩
theorem dx{L L1:PL}{S:List Nat}(h:S0 L S=some L1):kill (Pr L S) (Cd L)=Cd L1:=by
 obtain⟨L',h1,h⟩:=AT h
 obtain⟨h2,h⟩:=Du h
 cases h
 obtain⟨i1,i2,i3⟩:=Qm h1
 funext q
 by_cases hq:q∈S
 ·have e1:=CF (i1 q hq)
  have hD:¬(Pr L S).contains q=true:=λh=>(KW.1 h).2 hq
  unfold kill
  rw[AN hD,e1]
  cases hr:DG (Cd L1 q)with
  |none=>rfl
  |some b=>
   have hb:b∈S:=by
    obtain⟨p,hp,hpr⟩:=al hr
    have:=Af.1 h2 p hp
    rw[hpr,i3]at this
    exact Av.1 this
   have hD':¬(Pr L S).contains b=true:=λh=>(KW.1 h).2 hb
   simp only[AN hD']
 ·rw[i2 q hq]
  by_cases hk:q∈L.map (·.1)
  ·exact QG (KW.2 ⟨hk,hq⟩)
  ·unfold kill
   rw[Sr hk]
   split<;>rfl
section
variable {P:Program}{tb:Tb}{cns:List Nat}{L:PL}{K:PS->Prop}{t:TypeId}{x:Operand}
def zrA(σ:PS):List Operand->List V->Prop
 |[],as=>as=[]
 |x::xs,as=>∃a as',as=a::as'∧(Ce σ x).isArg=true∧Zz (Ce σ x)=a∧zrA σ xs as'
theorem mw{σ:PS}:∀{xs:List Operand}{as:List V},zrA σ xs as->xs.all (λx=>(Ce σ x).isArg)=true∧(xs.map λx=>Zz (Ce σ x))=as
 |[],_,h=>by cases h;exact⟨rfl,rfl⟩
 |x::xs,_,⟨a,as',e,h1,h2,h3⟩=>by
  obtain⟨h4,h5⟩:=mw h3
  subst e
  exact⟨by rw[A7,h1,h4];rfl,by rw[AK,h2,h5]⟩
theorem zn:zrA (Cd L) [] []:=rfl
theorem za{c a:V}{xs:List Operand}{as:List V}(h1:mD L x=some c)(h2:Zz c=a)(h3:zrA (Cd L) xs as):zrA (Cd L) (x::xs) (a::as):=⟨a,as,rfl,(by rw[(Sf h1).1];exact(Sf h1).2),(by rw[(Sf h1).1];exact h2),h3⟩
theorem ew{d:Option Nat}{f:FuncId}{args:List Operand}{us:List Value}{css css':List (List V)}{r:V}{L1:PL}(ss S:List Nat)(hb:UN L ss=some css)(hv:Zt L ss=some us)(hn:gX ss=true)(ha:args.all (λx=>(Ce (Cd L) x).isArg)=true)(hp:qo P (Cd L) f us css args css' r)
  (hk:S0 L (ss++S)=some L1) (hsf:sfV ss L1) (k:K (QO (Cd (iF ss css' L1)) d r)):Qz P d (.func (.func f) #[] us.toArray) args (Cd L) K:=by
 obtain⟨v1,v2⟩:=cQ hv
 refine⟨f,us,ss,css,css',r,Pr L (ss++S),rfl,YI hb,v1,v2,fA hn,ha,hp,λs hs=>?_,λq hq=>?_,?_⟩
 ·cases hc:(Pr L (ss++S)).contains s with
  |false=>rfl
  |true=>exact absurd (AA _ hs) (KW.1 hc).2
 ·by_cases hD:(Pr L (ss++S)).contains q=true
  ·exact .inl hD
  ·right
   by_cases hm:q∈L.map (·.1)
   ·have hS:q∈ss++S:=Bq λh=>hD (KW.2 ⟨hm,h⟩)
    obtain⟨L',k1,k2⟩:=AT hk
    obtain⟨_,k2⟩:=Du k2
    cases k2
    rw[CF ((Qm k1).1 q hS)]
    exact lY hsf q hq
   ·rw[Sr hm];rfl
 ·rw[dx hk,gj]
  exact k
theorem qV{d p:Nat}{f:FuncId}{args:Array Operand}{ts:Array TypeId}{us:List Value}{css css':List (List V)}{as:List V}{r:V}{L1:PL}(ss S:List Nat)(hl:lk L p=some (.tok (.func (.func f) #[] us.toArray)))(hb:UN L ss=some css)(hv:Zt L ss=some us)(hn:gX ss=true)(he:erA (Cd L) args.toList as)(hp:Qd P f us css as css' r)
  (hk:S0 L (ss++S)=some L1) (hsf:sfV ss L1) (k:K (Cd ((d,r)::iF ss css' L1))) (hc:cns.contains d=false:=by rfl):F7 P tb cns ⟨some d,.call {callee:=.value (.tmp p),args:=args,argTypes:=ts},t,none⟩ (Cd L) K:=by
 obtain⟨h1,h2⟩:=UY he
 show(match Ce (Cd L) (.tmp p)with
  |.fn f=>Jp P cns _ f args.toList (Cd L) K
  |.tok u=>PQ P cns _ u args.toList (Cd L) K
  |_=>S5 cns _ (Cd L) K)
 rw[show Ce (Cd L) (.tmp p)=.tok (.func (.func f) #[] us.toArray)from CF hl]
 exact⟨hc,ew ss S hb hv hn h1 (.inl (by rw[h2];exact hp)) hk hsf k⟩
theorem qVz{d p:Nat}{f:FuncId}{args:Array Operand}{ts:Array TypeId}{us:List Value}{css css':List (List V)}{as:List V}{r:V}{L1:PL}(ss S:List Nat)(hl:lk L p=some (.tok (.func (.func f) #[] us.toArray)))(hb:UN L ss=some css)(hv:Zt L ss=some us)(hn:gX ss=true)(he:zrA (Cd L) args.toList as)(hp:Qd P f us css as css' r)
  (hk:S0 L (ss++S)=some L1) (hsf:sfV ss L1) (k:K (Cd ((d,r)::iF ss css' L1))) (hc:cns.contains d=false:=by rfl):F7 P tb cns ⟨some d,.call {callee:=.value (.tmp p),args:=args,argTypes:=ts},t,none⟩ (Cd L) K:=by
 obtain⟨h1,h2⟩:=mw he
 show(match Ce (Cd L) (.tmp p)with
  |.fn f=>Jp P cns _ f args.toList (Cd L) K
  |.tok u=>PQ P cns _ u args.toList (Cd L) K
  |_=>S5 cns _ (Cd L) K)
 rw[show Ce (Cd L) (.tmp p)=.tok (.func (.func f) #[] us.toArray)from CF hl]
 exact⟨hc,ew ss S hb hv hn h1 (.inr (by rw[h2];exact hp)) hk hsf k⟩
theorem qVg{d p q:Nat}{u:Value}{e b:Bool}{args:Array Operand}{ts:Array TypeId}(g:e=b)(hq:lk L q=some (.bool e))(hl:lk L p=some (.tok u))(k:F7 P tb cns ⟨some d,.call {callee:=.value (.tmp p),args:=args,argTypes:=ts},t,none⟩ (Cd L) K):
  F7 P tb cns ⟨some d,.call {callee:=.value (.tmp p),args:=args,argTypes:=ts},t,some (some q,b)⟩ (Cd L) K:=by
 replace k:(match Ce (Cd L) (.tmp p)with
  |.fn f=>Jp P cns _ f args.toList (Cd L) K
  |.tok u=>PQ P cns ⟨some d,.call {callee:=.value (.tmp p),args:=args,argTypes:=ts},t,none⟩ u args.toList (Cd L) K
  |_=>S5 cns _ (Cd L) K):=k
 show(match Ce (Cd L) (.tmp p)with
  |.fn f=>Jp P cns _ f args.toList (Cd L) K
  |.tok u=>PQ P cns ⟨some d,.call {callee:=.value (.tmp p),args:=args,argTypes:=ts},t,some (some q,b)⟩ u args.toList (Cd L) K
  |_=>S5 cns _ (Cd L) K)
 rw[show Ce (Cd L) (.tmp p)=.tok u from CF hl]at k⊢
 subst g
 have hk:Cd L q=.bool e:=CF hq
 refine⟨k.1,?_⟩
 show known (Cd L q)=true∧_
 rw[hk]
 exact⟨rfl,λ_=>k.2,λh=>by simp[V2]at h⟩
def skL(L:PL)(q:Nat)(b:Bool):Bool:=match lk L q with
 |some (.bool e)=>e !=b
 |some (.tup _)=>true
 |_=>false
theorem qVs{d p q:Nat}{b:Bool}{args:Array Operand}{ts:Array TypeId}(hq:skL L q b=true)(hl:lk L p=some (.tup []))(k:K (Cd ((d,.tup [])::L)))(hc:cns.contains d=false:=by rfl):
  F7 P tb cns ⟨some d,.call {callee:=.value (.tmp p),args:=args,argTypes:=ts},t,some (some q,b)⟩ (Cd L) K:=by
 show(match Ce (Cd L) (.tmp p)with
  |.fn f=>Jp P cns _ f args.toList (Cd L) K
  |.tok u=>PQ P cns _ u args.toList (Cd L) K
  |_=>S5 cns ⟨some d,.call {callee:=.value (.tmp p),args:=args,argTypes:=ts},t,some (some q,b)⟩ (Cd L) K)
 rw[show Ce (Cd L) (.tmp p)=.tup []from CF hl]
 unfold skL at hq
 split at hq
 ·rename_i e he
  have he:Cd L q=.bool e:=CF he
  refine⟨hc,?_⟩
  rw[he]
  refine⟨rfl,?_,k⟩
  cases e<;>cases b<;>first|rfl|cases hq
 ·rename_i cs he
  have he:Cd L q=.tup cs:=CF he
  refine⟨hc,?_⟩
  rw[he]
  exact⟨rfl,rfl,k⟩
 ·cases hq
theorem qMf{d:Nat}{f:FuncId}{fs caps:Array Operand}{us:List Value}(hf:fs.toList=[])(hc:mR L caps.toList=some us)(k:K (Cd ((d,.tok (.func (.func f) #[] us.toArray))::L))):F7 P tb cns ⟨some d,.makeFunc (.func f) fs caps,t,none⟩ (Cd L) K:=by
 show mkF f fs.toList caps.toList d (Cd L) K
 unfold mkF
 rw[hf,eB hc]
 exact k
end
def TW:Nat->List Value->PL->PL
 |_,[],L=>L
 |m,u::us,L=>(gV m,.val m u)::TW (m+1) us L
theorem jx{L:PL}{σ:PS}(hL:∀p∈L,p.1 < 910000)(h:Y1 σ L):∀(us:List Value) (m:Nat),Y1 (QZ m us σ) (TW m us L)
 |[],m=>h
 |u::us,m=>by
  have key:∀(us:List Value) (m:Nat) (σ:PS) (v:V),Y1 σ (TW (m+1) us L)->Y1 (upd σ (gV m) v) (TW (m+1) us L):=by
   have h0:∀(L':PL) (σ:PS) (q:Nat) (v:V),(∀p∈L',p.1≠q)->Y1 σ L'->Y1 (upd σ q v) L':=by
    intro L'
    induction L' with
    |nil=>intro _ _ _ _ _;trivial
    |cons p L' ih=>
     obtain⟨r,c⟩:=p
     intro σ q v hne hk
     exact⟨by rw[upd_ne _ _ (hne (r,c) BK)];exact hk.1,ih σ q v (λp hp=>hne p (AQ _ hp)) hk.2⟩
   intro us m σ v hk
   refine h0 _ _ _ _ (λp hp e=>?_) hk
   have:∀(us:List Value) (k:Nat),m < k->p∉TW k us L:=by
    intro us
    induction us with
    |nil=>intro k _ hm;have:=hL p hm;rw[e]at this;unfold gV at this;omega
    |cons u us ih=>
     intro k hk hm
     rcases AO.1 hm with rfl|hm
     ·simp only[gV]at e;omega
     ·exact ih (k+1) (by omega) hm
   exact this us (m+1) (by omega) hp
  refine⟨?_,key us m _ _ (jx hL h us (m+1))⟩
  rw[QZ,upd_same]
  exact kr
theorem jU:∀(cs:List V) (i:Nat),∀p∈Pq i cs,p.1 < i+cs.length
 |[],_,p,hp=>by simp[Pq]at hp
 |c::cs,i,p,hp=>by
  rw[Pq]at hp
  rcases AO.1 hp with rfl|hp
  ·simp
  ·have:=jU cs (i+1) p hp
   rw[AL];omega
theorem qiv{P:Program}{nt:Nat}{bx:List Nat}{l:LC}{Q:Exit->PS->Prop}{xs:List V}{us:List Value}{m:Nat}(hl:xs.length<=910000)(hr:okR (TW m us (Pq 0 xs))=true)(k:LS P nt bx l (Cd (TW m us (Pq 0 xs))) Q):LS P nt bx l (QZ m us (Fc xs)) Q:=
 MG _ (jx (λp hp=>by have:=jU xs 0 p hp;omega) (dv xs 0 0) us m) hr k
end Go.Proofs.YtckmdkajoiegmaaGreatDoor
