/-
 A machine on data, part 5: lists that are lent. Over no program; no conditions.
-/
import Derived.Test.YthghcmmlmfgkbaaGreatDoorKb
open Go.RowKit
set_option linter.unusedVariables false
set_option linter.unusedSimpArgs false
namespace Go.Proofs.YthghcmmlmfgkbaaGreatDoor
section
def OH(B:Nat->zN):Nat->Nat->zN
 |_,0=>[]
 |k,n+1=>B k++OH B (k+1) n
theorem NE{B:Nat->zN}{g:Nat}:∀{n k:Nat},g∈OH B k n->∃i,k<=i∧i < k+n∧g∈B i
 |0,_,h=>by simp[OH]at h
 |n+1,k,h=>by
  rw[OH,Al]at h
  rcases h with h|h
  ·exact⟨k,AT _,by omega,h⟩
  ·obtain⟨i,h1,h2,h3⟩:=NE h
   exact⟨i,by omega,by omega,h3⟩
theorem N1{B:Nat->zN}(h1:∀i,(B i).Nodup)(h2:∀i j,i≠j->∀g∈B i,g∉B j):∀(n k:Nat),(OH B k n).Nodup
 |0,_=>AG
 |n+1,k=>by
  rw[OH]
  refine Aq.2 ⟨h1 k,N1 h1 h2 n (k+1),λa ha b hb e=>?_⟩
  obtain⟨i,q1,_,q3⟩:=NE hb
  exact h2 k i (by omega) a ha (e ▸ q3)
section
variable {P:Program}{w:World}{St:Nat->Nat->Prop}
theorem Vv{B:Nat->zN}:∀(os:List V) (us:List Value) (k:Nat),us.length=os.length->(∀i c u,os[i]? =some c->us[i]? =some u->c.Ds=true∧Ow P w St c u (B (k+i)))->A7 P w St os us (OH B k os.length)
 |[],us,_,hl,_=>⟨HS.1 hl,rfl⟩
 |c::os,[],_,hl,_=>by cases hl
 |c::os,u::us,k,hl,h=>by
  obtain⟨h1,h2⟩:=h 0 c u rfl rfl
  refine⟨u,us,B k,OH B (k+1) os.length,rfl,rfl,h1,h2,Vv os us (k+1) (by simpa using hl) λi c' u' hc hu=>?_⟩
  have:=h (i+1) c' u' (by simpa using hc) (by simpa using hu)
  rwa [show k+(i+1)=k+1+i from by omega]at this
end
section
variable {P:Program}{tb:Tb}
def slots(σ:PS)(n:Nat):List V:=(List.range n).map σ
def lJ(bx:zN)(n:Nat):Bool:=(List.range n).all λi=>bx.contains i&&bx.contains (N9+i)
theorem pF(htb:IG P tb){f:FuncId}{fn:Func}{c:Code}{os args os':List V}{rb:Bool}(hf:P.funcs[f]? =some fn)(hb:fn.body=some c)(hname:(fn.name== "runtime.NumGoroutine")=false)(bx:zN)(hlen:os.length+args.length<=fn.ntmps)(h0:lJ bx os.length=true)(hargs:args.all JX=true)
  (hn:(fn.results.toList.map JL).Nodup) (hcs:E1 os=true) (hob:os.all W6=true) (hcs':E1 os'=true) (hcl:os'.all V.Ds=true) (h:LH P fn.ntmps bx c (Fc (os++args.map MY)) (λe σ=>(e=.ret∨e=.normal)∧Vt tb σ fn.results.toList=some (.bool rb)∧slots σ os.length=os')):P3 P f [] os args os' (.bool rb):=by
 refine⟨⟨fn,hf,by rw[hb];rfl,hname⟩,λw St us bs0 vs1 vs hst hgl hrow hnd hrg hv1 hvs=>?_⟩
 cases hv1
 have hN:∀b o,(St b o∧b∉bs0)->(b < w.heap.size∧b∉bs0):=λb o h=>⟨hst b o h.1,h.2⟩
 have hvs0:=NC.Lq (N:=λb=>b < w.heap.size∧b∉bs0) hN hargs hvs
 have hvs':NC w (λb o=>St b o∨(b < w.heap.size∧b∉bs0)) (args.map MY) vs:=hvs0.mono (λb o h=>h.imp (·.1) id) (λ_ _ _=>rfl)
 have hst':∀b o,(St b o∨(b < w.heap.size∧b∉bs0))->b < w.heap.size:=λb o h=>h.elim (hst b o) (·.1)
 have hrow':A7 P w (λb o=>St b o∨(b < w.heap.size∧b∉bs0)) os us bs0:=A7.kept os hcs hrow (λk hk=>⟨rfl,λo=>⟨λh=>h.elim id (λh=>absurd hk h.2),.inl⟩⟩)
 have hpl:(args.map MY).all L6=true:=by
  rw[K4,Ah]
  exactλx hx=>Wp (Ah.1 hargs x hx)
 obtain⟨hl,hat⟩:=args_at hvs'
 rw[Ak]at hl
 have hul:=A7.length hrow
 obtain⟨β,k1,k2,k3,k4⟩:=QE hrow' hnd
 have hbx:∀i,i < os.length->i∈bx∧N9+i∈bx:=λi hi=>by
  have:=Ah.1 h0 i (Ao.2 hi)
  simpa[Aa,AS]using this
 have hin:∀s,s < os.length->∃c u,os[s]? =some c∧us[s]? =some u∧Fc (os++args.map MY) s=c∧W6 c=true:=λs hs=>by
  refine⟨os[s],us[s]'(by omega),Ac hs,Ac _,?_,Ah.1 hob _ (Aj hs)⟩
  simp only[Fc,B4 hs,Ac hs,Cy]
 have hout:∀s,¬s < os.length->Fc (os++args.map MY) s=(((args.map MY)[s - os.length]?).getD (.tup [])):=λs hs=>by
  simp only[Fc,CF (JJ hs)]
 refine Hh hf hb ?_
 have hrel:Rel P fn.ntmps bx ⟨λb=>b < w.heap.size∧b∉bs0,(List.range os.length).map λi=>(i,us.getD i undef)⟩ (λb o=>St b o∨(b < w.heap.size∧b∉bs0)) w (Fc (os++args.map MY)) {tmps:=(us++vs).toArray++Array.replicate (fn.ntmps - (us++vs).toArray.size) undef,defers:=[]} w:=by
  refine⟨_,λs=>if s < os.length then β s else [],?_,BelowK.refl _ _,λ_ _ _=>Dx,λ_ h=>h.1⟩
  refine
  {size:=by simp;omega
   defers:=rfl
   slot:=λs=>?_
   boxes:=λs cs e=>?_
   crefs:=λs b e=>?_
   nodup:=λs=>by
    split
    ·exact k3 s
    ·exact AG
   apart:=λs t hst k hk hk'=>by
    split at hk
    ·split at hk'
     ·exact k4 s t hst k hk hk'
     ·simp at hk'
    ·simp at hk
   hnodup:=AG
   hapart:=λ_ k hk=>by simp
   range:=λs k hk=>by
    split at hk
    ·exact⟨λh=>h.2 (k2 s k hk),hrg k (k2 s k hk)⟩
    ·simp at hk
   hrange:=λk hk=>by simp at hk
   st:=hst'
   gl:=hgl.of (λb hb o=>.inl (hb o)) (λ_ _ _=>rfl)
   pin:=λv e=>by
    obtain⟨i,hi,rfl⟩:=A3.1 e
    rw[Ao]at hi
    rw[Rl]
    refine⟨?_,hbx i hi⟩
    simp only[B4 (show i < us.length by omega),Af]}
  ·rw[Rl]
   by_cases hs:s < os.length
   ·obtain⟨c,u,q1,q2,q3,q4⟩:=hin s hs
    rw[Av hs,q3,B4 (show s < us.length by omega),q2,Cy]
    exact(k1 s c u q1 q2).slot
   ·rw[At hs,hout s hs,CF (show us.length<=s by omega),hul]
    cases hc:(args.map MY)[s - os.length]? with
    |none=>
     have:vs[s - os.length]? =none:=by
      rw[Fs,Ak]at hc
      rw[Fs];omega
     simp only[this,MK]
     exact⟨[],rfl,rfl,rfl⟩
    |some c=>
     obtain⟨v,hv,hr⟩:=hat (s - os.length) c hc
     simp only[hv,Cy]
     exact(SE (Ah.1 hpl c (BU hc)) hr).slot
  ·by_cases hs:s < os.length
   ·obtain⟨c,u,q1,q2,q3,q4⟩:=hin s hs
    exact(hbx s hs).1
   ·rw[hout s hs]at e
    cases hc:(args.map MY)[s - os.length]? with
    |none=>rw[hc]at e;cases e
    |some c=>
     rw[hc]at e
     have hp:=Ah.1 hpl c (BU hc)
     simp only[Cy]at e
     cases c<;>first|(cases hp;done)|(cases e;done)
  ·by_cases hs:s < os.length
   ·obtain⟨c,u,q1,q2,q3,q4⟩:=hin s hs
    rw[q3]at e
    cases c<;>first|(cases q4;done)|(cases e;done)
   ·rw[hout s hs]at e
    cases hc:(args.map MY)[s - os.length]? with
    |none=>rw[hc]at e;cases e
    |some c=>
     rw[hc]at e
     have hp:=Ah.1 hpl c (BU hc)
     simp only[Cy]at e
     cases c<;>first|(cases hp;done)|(cases e;done)
 refine Fy (h _ _ _ _ _ hrel) ?_
 rintro e a' w' ⟨σ',⟨he,hres,hbox⟩,St1,B',h1,h2,h3,h4⟩
 have hfin:a'.defers=[]∧∃v,(results fn a'.tmps).run P w'=.ok v w'∧wb P w St us bs0 os' (.bool rb) (.returned v) w':=by
  obtain⟨v,bs,q1,q2,q3,q4⟩:=UG htb h1 hn hres
  have hl':os'.length=os.length:=by rw[<-hbox];simp[slots]
  have hk:∀k∈OH B' 0 os'.length,(k∈bs0∨w.heap.size<=k)∧k < w'.heap.size:=λk hk=>by
   obtain⟨i,_,_,hm⟩:=NE hk
   have hr:=h1.range i k hm
   refine⟨Cp λhc=>?_,hr.2⟩
   rw[not_or]at hc
   exact hr.1 ⟨by omega,hc.1⟩
  have hrow2:A7 P w' St1 os' us (OH B' 0 os'.length):=by
   refine Vv os' us 0 (by omega) λi c u hc hu=>?_
   have hi:i < os.length:=by have:=(Ch.1 hc).1;omega
   have hcc:V.Ds c=true:=Ah.1 hcl c (BU hc)
   have e1:σ' i=c:=by
    rw[<-hbox]at hc
    simp only[slots,AW,DS hi,B8,Ap]at hc
    exact hc
   have e2:tm a' i=u:=by
    have:=(h1.pin (i,us.getD i undef) (A3.2 ⟨i,Ao.2 hi,rfl⟩)).1
    rw[Af,hu]at this
    exact this
   have hs:=h1.slot i
   rw[e1,e2]at hs
   rw[CR]
   refine⟨hcc,?_⟩
   cases c<;>first|exact hs|cases hcc
  refine⟨h1.defers,v,q1,v,OH B' 0 os'.length,λb o=>(b < w.heap.size∧b∉bs0∧St b o)∨((w.heap.size<=b∨b∈bs0)∧St1 b o),rfl,h2,λb o hb hbn=>?_,λb o hh=>?_,?_,⟨rfl,q2.2⟩,N1 h1.nodup h1.apart _ _,hk⟩
  ·exact⟨λhh=>hh.elim (·.2.2) (λhh=>hh.1.elim (λh=>absurd hb (by omega)) (λh=>absurd h hbn)),λhh=>.inl ⟨hb,hbn,hh⟩⟩
  ·exact hh.elim (λhh=>Bo hh.1 h2.size) (λhh=>h1.st b o hh.2)
  ·exact A7.kept os' hcs' hrow2 (λk hk'=>⟨rfl,λo=>⟨λhh=>hh.elim (λhh=>(hk k hk').1.elim (λh=>absurd h hh.2.1) (λh=>absurd hh.1 (by omega))) (·.2),λhh=>.inr ⟨(hk k hk').1.symm,hh⟩⟩⟩)
 rcases he with rfl|rfl
 ·exact hfin
 ·exact hfin
def zD(tb:Tb)(rs:List ResultVar)(n:Nat)(os':List V)(r:V)(e:Exit)(σ:PS):Prop:=(e=.ret∨e=.normal)∧Vt tb σ rs=some r∧slots σ n=os'
theorem lH(htb:IG P tb){f:FuncId}{nt:Nat}{bx:zN}{rs:List ResultVar}{l:LC}{os args os':List V}{rb:Bool}(hl:Lit P f nt bx rs l)(hlen:os.length+args.length<=nt)(hb:lJ bx os.length=true)(hargs:args.all JX=true)(hcs:E1 os=true)(hob:os.all W6=true)(hcs':E1 os'=true)(hcl:os'.all V.Ds=true)
  (h:LS P nt bx l (Fc (os++args.map MY)) (zD tb rs os.length os' (.bool rb))):P3 P f [] os args os' (.bool rb):=by
 obtain⟨⟨fn,c,h1,h2,h3,rfl,rfl,h6,h7⟩,hn,hL⟩:=hl
 exact pF htb h1 h2 h3 bx hlen hb hargs hn hcs hob hcs' hcl (h c h6 h7 hL)
end
theorem iH{L:PL}:∀{xs:List Operand}{us:List Value},xs.map (OY L)=us.map (λu=>some (V.tok u))->xs.map (Co (Cv L))=us.map V.tok
 |[],[],_=>rfl
 |[],_::_,e=>by cases e
 |_::_,[],e=>by cases e
 |x::xs,u::us,e=>by
  simp only[AC,C2]at e
  rw[AC,AC,DH e.1,iH e.2]
section
variable {P:Program}{tb:Tb}{cns:zN}{L:PL}{K:PS->Prop}{t:TypeId}
theorem qZ{d:Nat}{f:FuncId}{args:Array Operand}{ts:Array TypeId}{us:List Value}{ys:List Operand}{os as1 as os':List V}{r:V}{L1:PL}(S:zN)(zs xs:List Operand)(ha:args.toList=zs++(xs++ys))(hne:xs.isEmpty=false)(hs:lk L gS=some (.gh us os))(hm:xs.map (OY L)=us.map (λu=>some (V.tok u)))(hx:(!S.contains gS&&(zs++ys).all (zu S))=true)(he1:erA (Cv L) zs as1)(he:erA (Cv L) ys as)(hd:E1 os=true)(hp:P3 P f as1 os as os' r)(hk:Tf L S=some L1)(hsf:sfY L1)(k:K (Cv ((d,r)::(gS,.gh us os')::L1)))(hc:cns.contains d=false:=by rfl):
  F0 P tb cns ⟨some d,.call {callee:=.value (.func f),args:=args,argTypes:=ts},t,none⟩ (Cv L) K:=by
 obtain⟨h1,h2⟩:=WN he
 subst h2
 obtain⟨h3,h4⟩:=WN he1
 subst h4
 rw[Aa,Ax]at hx
 show JZ P cns _ f args.toList (Cv L) K
 unfold JZ
 rw[At (by simpa using hc)]
 cases xs with
 |nil=>cases hne
 |cons x xs=>
 refine .inr (.inr (.inr (.inl ⟨zs,x,xs,ys,us,os,os',r,PI L (gS::S),ha,iH hm,CT hs,hd,?_,hp,?_,λq hq=>?_,?_⟩)))
 ·rw[Ah]at h1 h3⊢
  intro x hxm
  rw[Aa]
  refine⟨(Al.1 hxm).elim (h3 x) (h1 x),?_⟩
  have:=Ah.1 hx.2 x hxm
  unfold zu at this
  split at this
  ·rename_i q
   simp only[eh,Ax]
   cases hc:(PI L (gS::S)).contains q with
   |false=>rfl
   |true=>exact absurd (AE _ (by simpa using this)) (Lz.1 hc).2
  ·rfl
  ·rfl
  ·rfl
  ·cases this
 ·cases hc:(PI L (gS::S)).contains gS with
  |false=>rfl
  |true=>exact absurd Bg (Lz.1 hc).2
 ·by_cases hD:(PI L (gS::S)).contains q=true
  ·exact .inl hD
  ·right
   by_cases hm:q∈L.map (·.1)
   ·have hS:q∈S:=Cp λh=>hD (Lz.2 ⟨hm,λh'=>(AB.1 h').elim hq h⟩)
    obtain⟨L',k1,k2⟩:=AK hk
    obtain⟨_,k2⟩:=Dq k2
    cases k2
    rw[CT ((Qx k1).1 q hS)]
    exact af hsf q
   ·rw[Sx hm];rfl
 ·have e4:upd (kill (PI L (gS::S)) (Cv L)) gS (.gh us os')=Cv ((gS,.gh us os')::L1):=by
   rw[D8]
   funext q
   by_cases hq:q=gS
   ·subst hq;rw[upd_same,upd_same]
   ·rw[upd_ne _ _ hq,upd_ne _ _ hq];exact Vo hk hq
  show K (upd (upd (kill (PI L (gS::S)) (Cv L)) gS (.gh us os')) d r)
  rw[e4]
  exact k
end
end
section
def tE(U:Nat->Value)(j:Nat):List V:=[.tok (U j)]
theorem ztE{U:Nat->Value}(j:Nat):(tE U j).length=1:=rfl
theorem dtE{U:Nat->Value}(j:Nat):DA (tE U j)=true:=rfl
def IH{α:Type}(l:List α):zN:=(BW 0 l).map (·.1)
def YB(n:Nat):zN->zN->Bool
 |[],_=>true
 |j::J,seen=>(Nat.blt j n&& !seen.contains j)&&YB n J (j::seen)
def HA{α:Type}(l:List α)(J:zN):List α:=J.flatMap λj=>(l[j]?).toList
def TK:List V->Bool
 |[.own _ _ _]=>true
 |_=>false
theorem gM:∀{ds:List V},TK ds=true->∃e n cs,ds=[.own e n cs]
 |[],h=>by cases h
 |[c],h=>by cases c<;>first|exact⟨_,_,_,rfl⟩|cases h
 |c::d::ds,h=>by cases c<;>cases h
theorem tok1{ds:List V}(h:TK ds=true):ds=[E0 ds]∧W6 (E0 ds)=true:=by
 obtain⟨e,n,cs,rfl⟩:=gM h
 exact⟨rfl,rfl⟩
theorem W7{c:V}(h:W6 c=true):∃e n cs,c=.own e n cs:=by
 cases c<;>first|exact⟨_,_,_,rfl⟩|cases h
theorem YJ{α:Type}{l:List α}:∀{J seen:zN},YB l.length J seen=true->(HA l J).length=J.length
 |[],_,_=>rfl
 |j::J,seen,h=>by
  simp only[YB,Aa]at h
  have hj:j < l.length:=by simpa[Nat.blt_eq]using h.1.1
  have:=YJ h.2
  unfold HA at this⊢
  rw[AH,Aw,this,Ac hj]
  simp;omega
section
variable {P:Program}{w:World}{St:Nat->Nat->Prop}{α:Type}{f:α->List V}{U:Nat->Value}
theorem ct(h1:∀x,TK (f x)=true):∀(L:List (Nat×α)) {xs:List Value}{b:zN},A7 P w St (L.flatMap (pE f U)) xs b->A7 P w St ((L.map (·.1)).flatMap (tE U)) xs b
 |[],_,_,h=>h
 |p::L,_,_,h=>by
  obtain⟨e,n,cs,ef⟩:=gM (h1 p.2)
  rw[AH]at h
  have e2:pE f U p=[.pin (U p.1) n (Mz cs)]:=by unfold pE;rw[ef];rfl
  rw[e2]at h
  obtain⟨u,us',b1,b2,q1,q2,q3,⟨q4,q5⟩,q6⟩:=h
  rw[AC,AH]
  exact⟨u,us',b1,b2,q1,q2,rfl,⟨q4,q5.1,q5.1 ▸ q5.oneCell⟩,ct h1 L q6⟩
theorem ms(h1:∀x,TK (f x)=true){l:List α}{us:List Value}{bs:zN}(ht:A7 P w St (l.map λx=>E0 (f x)) us bs)(hn:bs.Nodup)(hU:∀i,i < l.length->U i=us.getD i undef):
  ∀(J:zN) {xs:List Value}{b0:zN},YB l.length J []=true->A7 P w St (J.flatMap (tE U)) xs b0->∃b',A7 P w St ((HA l J).flatMap f) xs b'∧b'.Nodup∧∀g∈b',g∈bs:=by
 obtain⟨β,k1,k2,k3,k4⟩:=QE ht hn
 have hlen:=ht.length
 rw[Ak]at hlen
 have key:∀(J seen:zN) {xs:List Value}{b0:zN},YB l.length J seen=true->A7 P w St (J.flatMap (tE U)) xs b0->
   ∃b',A7 P w St ((HA l J).flatMap f) xs b'∧b'.Nodup∧(∀g∈b',g∈bs)∧∀i∈seen,∀g∈β i,g∉b':=by
  intro J
  induction J with
  |nil=>
   intro seen xs b0 _ h
   exact⟨[],⟨h.1,rfl⟩,AG,by simp,by simp⟩
  |cons j J ih=>
   intro seen xs b0 hok h
   rw[AH]at h
   obtain⟨u,us',b1,b2,q1,q2,q3,⟨q4,q5,q6⟩,q7⟩:=h
   simp only[YB,Aa,Ax]at hok
   obtain⟨⟨g1,g2⟩,g3⟩:=hok
   have hj:j < l.length:=by simpa[Nat.blt_eq]using g1
   obtain⟨b',r1,r2,r3,r4⟩:=ih (j::seen) g3 q7
   have hus:us[j]? =some u:=by
    have:=hU j hj
    rw[<-q5]at this
    rw[this,Af,Ac (by omega)]
    rfl
   have htok:=k1 j _ _ (by rw[AW,Ac hj];rfl) hus
   refine⟨β j++b',?_,?_,?_,?_⟩
   ·unfold HA
    rw[AH,DQ,Ac hj]
    have e3:([l[j]]:List α).flatMap f=[E0 (f l[j])]:=by
     rw[AH,ME,AY]
     exact(tok1 (h1 _)).1
    show A7 P w St (([l[j]]:List α).flatMap f++_) xs _
    rw[e3,q1]
    obtain⟨e,n,cs,ec⟩:=W7 (tok1 (h1 l[j])).2
    exact⟨u,us',β j,b',rfl,rfl,by rw[ec];rfl,htok,r1⟩
   ·refine Aq.2 ⟨k3 j,r2,λa ha b hb e=>?_⟩
    subst e
    exact r4 j (by simp) a ha hb
   ·intro g hg
    rcases Al.1 hg with hg|hg
    ·exact k2 j g hg
    ·exact r3 g hg
   ·intro i hi g hg hm
    rcases Al.1 hm with hm|hm
    ·have hne:i≠j:=λe=>by
      subst e
      have:seen.contains i=true:=by simpa using hi
      rw[this]at g2;cases g2
     exact k4 i j hne g hg hm
    ·exact r4 i (by simp[hi]) g hg hm
 intro J xs b0 hok h
 obtain⟨b',q1,q2,q3,_⟩:=key J [] hok h
 exact⟨b',q1,q2,q3⟩
theorem Z1(h1:∀x,TK (f x)=true){e:TypeId}{J:zN}{v:Value}{b1:zN}{l:List α}{us:List Value}{bs:zN}(h:Ow P w St (.own e J.length (J.flatMap (tE U))) v b1)(ht:A7 P w St (l.map λx=>E0 (f x)) us bs)(hn:bs.Nodup)
  (hU:∀i,i < l.length->U i=us.getD i undef) (hok:YB l.length J []=true) (hb1:b1.Nodup) (hd:∀g∈b1,g∉bs):∃b',Ow P w St (.own e (HA l J).length ((HA l J).flatMap f)) v b'∧b'.Nodup∧∀g∈b',g∈b1∨g∈bs:=by
 obtain⟨hl,xs,bs',hx,hr,rfl,hst,h0⟩:=h
 obtain⟨n1,n2,n3⟩:=Aq.1 hb1
 obtain⟨b',q1,q2,q3⟩:=ms h1 ht hn hU J hok hr
 have hlen:=YJ hok
 refine⟨v.ownBlock.toList++b',⟨by rw[hlen];exact hl,xs,b',by rw[hlen];exact hx,q1,rfl,by rw[hlen];exact hst,λhz=>?_⟩,?_,?_⟩
 ·have:HA l J=[]:=A1 hz
  rw[this];rfl
 ·refine Aq.2 ⟨n1,q2,λa ha b hb e=>?_⟩
  subst e
  exact hd a (Az _ ha) (q3 a hb)
 ·intro g hg
  rcases Al.1 hg with hg|hg
  ·exact .inl (Az _ hg)
  ·exact .inr (q3 g hg)
end
section
variable {P:Program}{nt:Nat}{bx:zN}{σ:PS}{K:PS->Prop}{L:PL}{α:Type}{f:α->List V}{U:Nat->Value}{e:TypeId}
theorem fV{s:Nat}{c c':V}(hs:σ s=c)(W:∀w St t v bs,Cf P w St t c v bs->Cf P w St t c' v bs)(hb:(CS c').isSome=(CS c).isSome)(hrf:DI c'=none)(h:Gh P nt bx (upd σ s c') K):Gh P nt bx σ K:=
 kW hs (λw St t v bs h hn=>⟨[],bs,by simp,λg hg=>hg,hn,(W w St t v bs h).mono (λ_ _ h=>.inl h) (λ_ _ _=>rfl) (λg hg=>⟨rfl,λo=>⟨λh=>h.elim id (λh=>by simp at h),.inl⟩⟩) (λ_ _=>rfl)⟩) hb hrf h
theorem gWl{s:Nat}{l:List (Nat×α)}(hs:lk L s=some (.own e l.length (l.flatMap (pE f U))))(h1:∀x,TK (f x)=true)(h:Gh P nt bx (Cv ((s,.own e (l.map (·.1)).length ((l.map (·.1)).flatMap (tE U)))::L)) K):Gh P nt bx (Cv L) K:=by
 refine fV (c':=.own e (l.map (·.1)).length ((l.map (·.1)).flatMap (tE U))) (CT hs) (λw St t v bs hh=>?_) rfl rfl (by rw[D8]at h;exact h)
 obtain⟨hl,xs,bs',hx,hr,hb,hst,h0⟩:=(show Ow P w St _ v bs from hh)
 refine⟨by rw[Ak];exact hl,xs,bs',by rw[Ak];exact hx,ct h1 l hr,hb,by rw[Ak];exact hst,λhz=>?_⟩
 have:l=[]:=A1 (by rw[Ak]at hz;exact hz)
 subst this;rfl
theorem gWt{s:Nat}{u:Value}{n:Nat}{cs:List V}(hs:lk L s=some (.pin u n cs))(h:Gh P nt bx (Cv ((s,.tok u)::L)) K):Gh P nt bx (Cv L) K:=by
 refine fV (c':=.tok u) (CT hs) (λw St t v bs hh=>?_) rfl rfl (by rw[D8]at h;exact h)
 obtain⟨h1,h2⟩:=(show Ow P w St (.pin u n cs) v bs from hh)
 exact⟨h1,h2.1,(show v=u from h2.1) ▸ h2.oneCell⟩
theorem gTj{s q:Nat}{l:List α}{us:List Value}{J:zN}(hs:lk L s=some (.own e J.length (J.flatMap (tE U))))(hq:lk L q=some (.gh us (l.map λx=>E0 (f x))))(hsq:Nat.beq s q=false)(h1:∀x,TK (f x)=true)(hU:∀i,i < l.length->U i=us.getD i undef)(hok:YB l.length J []=true)
  (h:Gh P nt bx (Cv ((q,.undef)::(s,.own e (HA l J).length ((HA l J).flatMap f))::L)) K):Gh P nt bx (Cv L) K:=by
 have hne:s≠q:=λe=>by rw[e]at hsq;simp at hsq
 rintro base St0 w0 a w ⟨St,B,hS,r1,r2,r3⟩
 have k1:=hS.slot s
 rw[CT hs]at k1
 have k2:=hS.slot q
 rw[CT hq]at k2
 obtain⟨b',q1,q2,q3⟩:=Z1 h1 (show Ow P w St _ _ (B s)from k1) k2 (hS.nodup q) hU hok (hS.nodup s) (λg hg=>hS.apart s q hne g hg)
 refine h base St0 w0 a w ⟨St,upd (upd B s b') q [],?_,r1,r2,r3⟩
 rw[D8,D8,show upd (upd (Cv L) s (V.own e (HA l J).length ((HA l J).flatMap f))) q .undef=upd (upd (Cv L) s (V.own e (HA l J).length ((HA l J).flatMap f))) q .undef from rfl]
 exact Ki hS hne (by rw[CT hq];rfl) q1 (show Cf P w St (tm a) .undef _ []from rfl) (by rw[AY];exact q2) (λg hg=>by rw[AY]at hg;exact q3 g hg) (by rw[CT hs];rfl) rfl rfl rfl
theorem Uh{l:List α}{i:Int}{x:α}(h:AZ l i=some x):l[i.toNat]? =some x:=by
 obtain⟨h1,h2,h3⟩:=Ea h
 exact h3
end
section
variable {P:Program}{w:World}{St:Nat->Nat->Prop}
def Si(P:Program)(w:World)(St:Nat->Nat->Prop)(cs:List V)(us:List Value)(β:Nat->zN):Prop:=
 us.length=cs.length∧∀j c u,cs[j]? =some c->us[j]? =some u->c.Ds=true∧Ow P w St c u (β j)
theorem Si.fill{cs:List V}{us:List Value}{β:Nat->zN}(h:Si P w St cs us β){i:Nat}{u:Value}{c:V}{d:zN}(hu:us[i]? =some u)(hc:c.Ds=true)(ho:Ow P w St c u d):Si P w St (cs.set i c) us (λj=>if j=i then d else β j):=by
 refine⟨by rw[BM];exact h.1,λj c' u' h1 h2=>?_⟩
 rw[GR]at h1
 by_cases e:i=j
 ·subst e
  rw[Av rfl]at h1
  split at h1
  ·cases h1
   rw[hu]at h2
   cases h2
   dsimp only
   rw[Av rfl]
   exact⟨hc,ho⟩
  ·cases h1
 ·rw[At e]at h1
  dsimp only
  rw[At (λe':j=i=>e e'.symm)]
  exact h.2 j c' u' h1 h2
theorem Si.row{cs:List V}{us:List Value}{β:Nat->zN}(h:Si P w St cs us β):A7 P w St cs us (OH β 0 cs.length):=
 Vv cs us 0 h.1 λi c u h1 h2=>by rw[CR];exact h.2 i c u h1 h2
theorem aX{c:V}{u:Value}{b:zN}(hc:c.Ds=true)(h:Ow P w St c u b):Ow P w St (.tok u) u []:=
 ⟨rfl,rfl,(Ow.rd c h (by cases c<;>first|rfl|cases hc)).oneCell⟩
theorem A7.ft{cs:List V}{us:List Value}{bs:zN}(h:A7 P w St cs us bs)(hn:bs.Nodup)(hc:cs.all V.Ds=true):∃β,Si P w St cs us β∧(∀i,∀g∈β i,g∈bs)∧(∀i,(β i).Nodup)∧∀i j,i≠j->∀g∈β i,g∉β j:=by
 obtain⟨β,k1,k2,k3,k4⟩:=QE h hn
 exact⟨β,⟨h.length,λj c u h1 h2=>⟨Ah.1 hc c (BU h1),k1 j c u h1 h2⟩⟩,k2,k3,k4⟩
end
theorem nw{β:Type}{cs:List β}{i p:Nat}{a b c d:β}(h:i≠p):(((cs.set i a).set p b).set i c).set p d=(cs.set i c).set p d:=by
 apply List.ext_getElem?
 intro j
 simp only[GR,BM]
 by_cases e1:p=j
 ·simp[e1]
 ·by_cases e2:i=j
  ·subst e2;simp[e1]
  ·simp[e1,e2]
section
variable {P:Program}{nt:Nat}{bx:zN}{K:PS->Prop}{L:PL}{α:Type}{f:α->List V}{U:Nat->Value}
theorem Y1(h1:∀x,TK (f x)=true)(l:List α):(l.map λx=>E0 (f x)).all V.Ds=true:=by
 rw[K4,Ah]
 intro x _
 obtain⟨e,n,cs,ec⟩:=W7 (tok1 (h1 x)).2
 show V.Ds (E0 (f x))=true
 rw[ec];rfl
theorem SS(h1:∀x,TK (f x)=true)(x:α):(E0 (f x)).Ds=true:=by
 obtain⟨e,n,cs,ec⟩:=W7 (tok1 (h1 x)).2
 rw[ec];rfl
theorem gT2{q:Nat}{l:List α}{us:List Value}{i p:Int}{x y:α}(hq:lk L q=some (.gh us (l.map λx=>E0 (f x))))(hg:lk L gS=none)(hqs:Nat.beq q gS=false)(h1:∀x,TK (f x)=true)(hU:∀i,i < l.length->U i=us.getD i undef)(gi:AZ l i=some x)(gp:AZ l p=some y)(hip:Nat.beq i.toNat p.toNat=false)
  (h:Gh P nt bx (Cv ((gS,.gh [U i.toNat,U p.toNat] [E0 (f x),E0 (f y)])::(q,.gh us (((l.map λx=>E0 (f x)).set i.toNat (.tok (U i.toNat))).set p.toNat (.tok (U p.toNat))))::L)) K):Gh P nt bx (Cv L) K:=by
 have hne:q≠gS:=λe=>by rw[e]at hqs;simp at hqs
 have hip':i.toNat≠p.toNat:=λe=>by rw[e]at hip;simp at hip
 rintro base St0 w0 a w ⟨St,B,hS,r1,r2,r3⟩
 have k2:=hS.slot q
 rw[CT hq]at k2
 have k2':A7 P w St (l.map λx=>E0 (f x)) us (B q):=k2
 obtain⟨β,k1,kk2,k3,k4⟩:=k2'.ft (hS.nodup q) (Y1 h1 l)
 have hlen:=k1.1
 rw[Ak]at hlen
 have hi:=Uh gi
 have hp:=Uh gp
 have hus:∀j z,l[j]? =some z->us[j]? =some (U j)∧Ow P w St (E0 (f z)) (U j) (β j):=λj z hz=>by
  have hj:=(Ch.1 hz).1
  have e1:us[j]? =some (U j):=by rw[hU j hj,Af,Ac (by omega)];rfl
  exact⟨e1,(k1.2 j _ _ (by rw[AW,hz];rfl) e1).2⟩
 obtain⟨ui,oi⟩:=hus _ _ hi
 obtain⟨up,op⟩:=hus _ _ hp
 have m1:=(k1.fill ui (c:=.tok (U i.toNat)) rfl (aX (SS h1 x) oi)).fill up (c:=.tok (U p.toNat)) rfl (aX (SS h1 y) op)
 have hβ:∀j g,g∈(if j=p.toNat then([]:zN)else if j=i.toNat then []else β j)->g∈β j∧j≠i.toNat∧j≠p.toNat:=λj g hg=>by
  split at hg
  ·simp at hg
  ·split at hg
   ·simp at hg
   ·exact⟨hg,by assumption,by assumption⟩
 obtain⟨bb,hbb,m2⟩:∃bb,bb=_∧A7 P w St _ us bb:=⟨_,rfl,m1.row⟩
 refine h base St0 w0 a w ⟨St,upd (upd B q bb) gS (β i.toNat++β p.toNat),?_,r1,r2,r3⟩
 rw[D8,D8]
 refine Ki hS hne (by rw[Nd,hg];rfl) (show Cf P w St (tm a) (.gh us _) _ bb from m2) (show Cf P w St (tm a) (.gh [U i.toNat,U p.toNat] _) _ (β i.toNat++β p.toNat)from⟨_,_,β i.toNat,β p.toNat,rfl,rfl,SS h1 x,oi,_,_,β p.toNat,[],rfl,(AY _).symm,SS h1 y,op,rfl,rfl⟩) ?_ ?_ (by rw[CT hq];rfl) rfl rfl rfl<;>subst hbb
 ·refine Aq.2 ⟨N1 (λj=>?_) (λj k hjk g hg hg'=>k4 j k hjk g (hβ j g hg).1 (hβ k g hg').1) _ _,Aq.2 ⟨k3 _,k3 _,λa ha b hb e=>k4 _ _ hip' a ha (e ▸ hb)⟩,λa ha b hb e=>?_⟩
  ·split
   ·exact AG
   ·split
    ·exact AG
    ·exact k3 j
  ·subst e
   obtain⟨j,_,_,hj⟩:=NE ha
   obtain⟨q1,q2,q3⟩:=hβ j a hj
   rcases Al.1 hb with hb|hb
   ·exact k4 j _ q2 a q1 hb
   ·exact k4 j _ q3 a q1 hb
 ·intro g hg
  left
  rcases Al.1 hg with hg|hg
  ·obtain⟨j,_,_,hj⟩:=NE hg
   exact kk2 j g (hβ j g hj).1
  ·rcases Al.1 hg with hg|hg
   ·exact kk2 _ g hg
   ·exact kk2 _ g hg
theorem gJ2{q:Nat}{l:List α}{us:List Value}{i p:Int}{x y x' y':α}(hg:lk L gS=some (.gh [U i.toNat,U p.toNat] [E0 (f x'),E0 (f y')]))(hq:lk L q=some (.gh us (((l.map λx=>E0 (f x)).set i.toNat (.tok (U i.toNat))).set p.toNat (.tok (U p.toNat)))))(hqs:Nat.beq q gS=false)(h1:∀x,TK (f x)=true)(hU:∀i,i < l.length->U i=us.getD i undef)(gi:AZ l i=some x)(gp:AZ l p=some y)(hip:Nat.beq i.toNat p.toNat=false)
  (h:Gh P nt bx (Cv ((gS,.undef)::(q,.gh us ((DJ (DJ l i x') p y').map λx=>E0 (f x)))::L)) K):Gh P nt bx (Cv L) K:=by
 have hne:q≠gS:=λe=>by rw[e]at hqs;simp at hqs
 have hip':i.toNat≠p.toNat:=λe=>by rw[e]at hip;simp at hip
 rintro base St0 w0 a w ⟨St,B,hS,r1,r2,r3⟩
 have k2:=hS.slot q
 rw[CT hq]at k2
 have k2':A7 P w St _ us (B q):=k2
 have kS:=hS.slot gS
 rw[CT hg]at kS
 obtain⟨u1,us1,d1,d2',e1,e2,c1,o1,u2,us2,d2,d3,e3,e4,c2,o2,e5,e6⟩:=(show A7 P w St [E0 (f x'),E0 (f y')] _ (B gS)from kS)
 obtain⟨rfl,rfl⟩:=J4 e1
 obtain⟨rfl,rfl⟩:=J4 e3
 subst e6
 rw[AY]at e4
 rw[e4]at e2
 have hcell:(((l.map λx=>E0 (f x)).set i.toNat (.tok (U i.toNat))).set p.toNat (.tok (U p.toNat))).all V.Ds=true:=by
  rw[Ah]
  intro c hc
  rcases Ft hc with hc|rfl
  ·rcases Ft hc with hc|rfl
   ·exact Ah.1 (Y1 h1 l) c hc
   ·rfl
  ·rfl
 obtain⟨β,k1,kk2,k3,k4⟩:=k2'.ft (hS.nodup q) hcell
 have hlen:=k1.1
 rw[BM,BM,Ak]at hlen
 have hi:=(Ch.1 (Uh gi)).1
 have hp:=(Ch.1 (Uh gp)).1
 have hus:∀j,j < l.length->us[j]? =some (U j):=λj hj=>by rw[hU j hj,Af,Ac (by omega)];rfl
 have m1:=(k1.fill (hus _ hi) c1 o1).fill (hus _ hp) c2 o2
 rw[nw hip',<-List.map_set (f:=λx=>E0 (f x)),<-List.map_set (f:=λx=>E0 (f x))]at m1
 have hndS:=hS.nodup gS
 rw[e2]at hndS
 obtain⟨n1,n2,n3⟩:=Aq.1 hndS
 have hoff:∀j g,g∈β j->g∉d1∧g∉d2:=λj g hgm=>by
  have:=hS.apart q gS hne g (kk2 j g hgm)
  rw[e2,Al,not_or]at this
  exact this
 have hβ:∀j g,g∈(if j=p.toNat then d2 else if j=i.toNat then d1 else β j)->(j=p.toNat∧g∈d2)∨(j=i.toNat∧g∈d1)∨g∈β j:=λj g hg=>by
  split at hg
  ·rename_i e;exact .inl ⟨e,hg⟩
  ·split at hg
   ·rename_i e;exact .inr (.inl ⟨e,hg⟩)
   ·exact .inr (.inr hg)
 obtain⟨bb,hbb,m2⟩:∃bb,bb=_∧A7 P w St _ us bb:=⟨_,rfl,m1.row⟩
 refine h base St0 w0 a w ⟨St,upd (upd B q bb) gS [],?_,r1,r2,r3⟩
 rw[D8,D8]
 refine Ki hS hne (by rw[CT hg];rfl) (show Cf P w St (tm a) (.gh us _) _ bb from m2) (show Cf P w St (tm a) .undef _ []from rfl) ?_ ?_ (by rw[CT hq];rfl) rfl rfl rfl<;>subst hbb
 ·rw[AY]
  refine N1 (λj=>?_) (λj k hjk g hg hg'=>?_) _ _
  ·split
   ·exact n2
   ·split
    ·exact n1
    ·exact k3 j
  ·rcases hβ j g hg with⟨q1,q2⟩|⟨q1,q2⟩|q2<;>rcases hβ k g hg' with⟨q3,q4⟩|⟨q3,q4⟩|q4
   ·exact hjk (q1.trans q3.symm)
   ·exact n3 g q4 g q2 rfl
   ·exact(hoff k g q4).2 q2
   ·exact n3 g q2 g q4 rfl
   ·exact hjk (q1.trans q3.symm)
   ·exact(hoff k g q4).1 q2
   ·exact(hoff j g q2).2 q4
   ·exact(hoff j g q2).1 q4
   ·exact k4 j k hjk g q2 q4
 ·intro g hg
  rw[AY]at hg
  obtain⟨j,_,_,hj⟩:=NE hg
  rcases hβ j g hj with⟨_,q⟩|⟨_,q⟩|q
  ·exact .inr (by rw[e2];exact Ar _ q)
  ·exact .inr (by rw[e2];exact Az _ q)
  ·exact .inl (kk2 j g q)
theorem hU2{l:List α}{us:List Value}{i p:Int}{x y:α}(hU:∀i,i < l.length->U i=us.getD i undef):∀j,j < (DJ (DJ l i x) p y).length->U j=us.getD j undef:=λj hj=>hU j (by simpa[DJ]using hj)
end
theorem jH{α:Type}{f:α->List V}{us:List Value}(h1:∀x,TK (f x)=true)(hd:∀x,DA (f x)=true):∀(l:List α),J6 (.gh us (l.map λx=>E0 (f x)))=true
 |[]=>rfl
 |x::l=>by
  have h2:DA (l.map λx=>E0 (f x))=true:=jH (us:=us) h1 hd l
  have h3:=hd x
  rw[(tok1 (h1 x)).1,DA,Aa]at h3
  show DA (E0 (f x)::l.map λx=>E0 (f x))=true
  rw[DA,h3.1,h2]
  rfl
theorem Sr{α:Type}:∀(l:List α) (k j:Nat),(BW k l)[j]? =(l[j]?).map λx=>(k+j,x)
 |[],_,_=>by simp[BW]
 |x::l,k,0=>by simp[BW]
 |x::l,k,j+1=>by
  rw[BW,Ct,Ct,Sr l (k+1) j,show k+1+j=k+(j+1)from by omega]
theorem fU{α:Type}{l:List α}{i:Int}{a:Nat×α}(h:AZ (BW 0 l) i=some a):a.1=i.toNat∧AZ l i=some a.2:=by
 obtain⟨h1,h2,h3⟩:=Ea h
 rw[Sr,CR]at h3
 cases hx:l[i.toNat]? with
 |none=>rw[hx]at h3;cases h3
 |some x=>
  rw[hx]at h3
  cases h3
  refine⟨rfl,?_⟩
  rw[Qo]at h2
  unfold AZ
  rw[Av h1]
  exact hx
section
variable {P:Program}{nt:Nat}{bx:zN}{K:PS->Prop}{L:PL}{α:Type}{f:α->List V}{U:Nat->Value}
theorem gT3{q:Nat}{l:List α}{us:List Value}{i p:Int}{a b:Nat×α}(hq:lk L q=some (.gh us (l.map λx=>E0 (f x))))(hg:lk L gS=none)(hqs:Nat.beq q gS=false)(h1:∀x,TK (f x)=true)(hU:∀i,i < l.length->U i=us.getD i undef)(ga:AZ (BW 0 l) i=some a)(gb:AZ (BW 0 l) p=some b)(hip:Nat.beq a.1 b.1=false)
  (h:Gh P nt bx (Cv ((gS,.gh [U a.1,U b.1] [E0 (f a.2),E0 (f b.2)])::(q,.gh us (((l.map λx=>E0 (f x)).set a.1 (.tok (U a.1))).set b.1 (.tok (U b.1))))::L)) K):Gh P nt bx (Cv L) K:=by
 obtain⟨e1,g1⟩:=fU ga
 obtain⟨e2,g2⟩:=fU gb
 rw[e1,e2]at hip h
 exact gT2 hq hg hqs h1 hU g1 g2 hip h
theorem gJ3{q:Nat}{l:List α}{us:List Value}{i p:Int}{a b:Nat×α}{x' y':α}(hg:lk L gS=some (.gh [U a.1,U b.1] [E0 (f x'),E0 (f y')]))(hq:lk L q=some (.gh us (((l.map λx=>E0 (f x)).set a.1 (.tok (U a.1))).set b.1 (.tok (U b.1)))))(hqs:Nat.beq q gS=false)(h1:∀x,TK (f x)=true)(hU:∀i,i < l.length->U i=us.getD i undef)(ga:AZ (BW 0 l) i=some a)(gb:AZ (BW 0 l) p=some b)(hip:Nat.beq a.1 b.1=false)
  (h:Gh P nt bx (Cv ((gS,.undef)::(q,.gh us ((DJ (DJ l i x') p y').map λx=>E0 (f x)))::L)) K):Gh P nt bx (Cv L) K:=by
 obtain⟨e1,g1⟩:=fU ga
 obtain⟨e2,g2⟩:=fU gb
 rw[e1,e2]at hip hg hq
 exact gJ2 hg hq hqs h1 hU g1 g2 hip h
end
theorem eJ:∀{cs:List V}{i:Nat}{c:V},DA cs=true->Of c=true->DA (cs.set i c)=true
 |[],_,_,_,_=>rfl
 |d::cs,0,c,h,hc=>by
  rw[DA,Aa]at h
  rw[K8,DA,hc,h.2];rfl
 |d::cs,i+1,c,h,hc=>by
  rw[DA,Aa]at h
  rw[K7,DA,h.1,eJ h.2 hc];rfl
theorem Aa8{α:Type}{f:α->List V}{us:List Value}(h1:∀x,TK (f x)=true)(hd:∀x,DA (f x)=true)(l:List α){i j:Nat}{u v:Value}:J6 (.gh us (((l.map λx=>E0 (f x)).set i (.tok u)).set j (.tok v)))=true:=
 eJ (eJ (jH (us:=us) h1 hd l) rfl) rfl
theorem qIp{P:Program}{tb:Tb}{cns:zN}{L:PL}{K:PS->Prop}{s t:TypeId}{x y:Operand}{d:Nat}{α:Type}{f g:α->List V}{l:List α}{i:Int}{e:α}{n:Nat}(h:iaO tb L s x y=some (l.length,Mz (l.flatMap f),i,n))(he:∀x,Mz (f x)=g x)(hf:∀x,(g x).length=n)(hi:AZ l i=some e)(k:K (Cv ((d,.adr (g e++(l.drop (i.toNat+1)).flatMap g) 0)::L))):F0 P tb cns ⟨some d,.indexAddr s x y,t,none⟩ (Cv L) K:=
 qI (by rw[h,O6 he]) hf hi k
end
section
section
variable {P:Program}{nt:Nat}{base:Bs}{bx:zN}{St St0:Nat->Nat->Prop}{B:Nat->zN}{hand:zN}{σ:PS}{a:Act}{w w0:World}{K:PS->Prop}{L:PL}
theorem HSim.fact(h:HSim P nt bx base St B hand σ a w){s q:Nat}(hs:∃cs,CS (σ s)=some cs)(hq:CS (σ q)=none):HSim P nt bx base St (upd B q []) hand (upd σ q (.val s (tm a s))) a w:=
 have hne:∀b,(∃cs,CS (σ b)=some cs)->b≠q:=λb ⟨cs,e⟩ e'=>by rw[e',hq]at e;cases e
 have hin:∀r,∀g∈upd B q [] r,g∈B r:=λr g hg=>by
  by_cases e:r=q
  ·subst e;rw[upd_same]at hg;simp at hg
  ·rw[upd_ne _ _ e]at hg;exact hg
 {h with
  slot:=λr=>by
   by_cases e:r=q
   ·subst e;rw[upd_same,upd_same];exact⟨rfl,rfl⟩
   ·rw[upd_ne _ _ e,upd_ne _ _ e];exact h.slot r
  boxes:=λr cs e=>by
   by_cases e':r=q
   ·subst e';rw[upd_same]at e;cases e
   ·rw[upd_ne _ _ e']at e;exact h.boxes r cs e
  crefs:=λr b e=>by
   by_cases e':r=q
   ·subst e'
    rw[upd_same]at e
    simp only[DI,Ap]at e
    subst e
    rw[upd_ne _ _ (hne _ hs)];exact hs
   ·rw[upd_ne _ _ e']at e
    have:=h.crefs r b e
    rw[upd_ne _ _ (hne _ this)];exact this
  nodup:=λr=>by
   by_cases e:r=q
   ·subst e;rw[upd_same];exact AG
   ·rw[upd_ne _ _ e];exact h.nodup r
  apart:=λr t hrt g hg hg'=>h.apart r t hrt g (hin r g hg) (hin t g hg')
  hapart:=λr g hg=>h.hapart r g (hin r g hg)
  range:=λr g hg=>h.range r g (hin r g hg)}
theorem gFv{s:Nat}{cs:List V}(hs:lk L s=some (.box cs))(hq:lk L (gV s)=none)(h:∀u,Gh P nt bx (Cv ((gV s,.val s u)::L)) K):Gh P nt bx (Cv L) K:=by
 rintro base St0 w0 a w ⟨St,B,hS,r1,r2,r3⟩
 have h1:=hS.fact (s:=s) (q:=gV s) ⟨cs,by rw[CT hs];rfl⟩ (by rw[Nd,hq];rfl)
 exact h (tm a s) base St0 w0 a w ⟨St,_,by rw[D8];exact h1,r1,r2,r3⟩
end
def Rn:Nat->List Value->PS->PS
 |_,[],σ=>σ
 |m,u::us,σ=>upd (Rn (m+1) us σ) (gV m) (.val m u)
theorem U5{σ:PS}{q:Nat}:∀{us:List Value}{m:Nat},(∀j,m<=j->q≠gV j)->Rn m us σ q=σ q
 |[],_,_=>rfl
 |u::us,m,h=>by rw[Rn,upd_ne _ _ (h m (AT _)),U5 λj hj=>h j (by omega)]
def vS(bx:zN)(m n:Nat):Bool:=(List.range n).all λi=>bx.contains (m+i)&&bx.contains (N9+(m+i))
section
variable {P:Program}{nt:Nat}{base:Bs}{bx:zN}{St:Nat->Nat->Prop}{a:Act}{w:World}
theorem WX{σ:PS}:∀{us:List Value}{m:Nat}{B:Nat->zN},HSim P nt bx base St B [] σ a w->(∀i u,us[i]? =some u->tm a (m+i)=u∧(∃cs,CS (σ (m+i))=some cs)∧m+i < 910000)->(∀j,m<=j->CS (σ (gV j))=none)->∃B',HSim P nt bx base St B' [] (Rn m us σ) a w
 |[],_,B,h,_,_=>⟨B,h⟩
 |u::us,m,B,h,hu,hg=>by
  obtain⟨B1,h1⟩:=WX (us:=us) (m:=m+1) h (λi v hv=>by
   have:=hu (i+1) v (by simpa using hv)
   rwa [show m+(i+1)=m+1+i from by omega]at this) (λj hj=>hg j (by omega))
  obtain⟨q1,q2,q3⟩:=hu 0 u rfl
  rw[Dt]at q1 q2 q3
  have e1:Rn (m+1) us σ m=σ m:=U5 λj _=>by unfold gV;omega
  have e2:Rn (m+1) us σ (gV m)=σ (gV m):=U5 λj hj=>by unfold gV;omega
  have:=h1.fact (s:=m) (q:=gV m) (by rw[e1];exact q2) (by rw[e2];exact hg m (AT _))
  rw[q1]at this
  exact⟨_,this⟩
end
section
variable {P:Program}{tb:Tb}
theorem vT(htb:IG P tb){f:FuncId}{fn:Func}{c:Code}{us:List Value}{css css':List (List V)}{args:List V}{r:V}(hf:P.funcs[f]? =some fn)(hb:fn.body=some c)(hname:(fn.name== "runtime.NumGoroutine")=false)(bx:zN)(hlen:args.length+css.length<=fn.ntmps)(hnt:fn.ntmps<=910000)(h0:vS bx args.length css.length=true)(hargs:args.all L6=true)
  (hn:(fn.results.toList.map JL).Nodup) (hrp:r=.tup []∨HV r=true) (h:LH P fn.ntmps bx c (Rn args.length us (Fc (args++css.map V.box))) (λe σ=>(e=.ret∨e=.normal)∧Vt tb σ fn.results.toList=some r∧((List.range css.length).map λi=>σ (args.length+i))=css'.map V.box)):TT P f us css args css' r:=by
 refine⟨⟨fn,hf,by rw[hb];rfl,hname⟩,λw St bs0 vs hst hgl hrow hnd hrg hvs=>?_⟩
 obtain⟨hl,hat⟩:=args_at hvs
 have hul:=hrow.length
 have hss:((List.range css.length).map (args.length+ ·)).Nodup:=by
  unfold List.Nodup
  rw[El]
  exact LZ (λh e=>h (by omega)) (show(List.range css.length).Pairwise (· ≠ ·)from E4)
 obtain⟨β,m1,m2,m3,m4⟩:=UX (ss:=(List.range css.length).map (args.length+ ·)) hrow hnd hss (by simp)
 have hssm:∀s,s∈(List.range css.length).map (args.length+ ·)↔args.length<=s∧s < args.length+css.length:=λs=>by
  rw[A3]
  constructor
  ·rintro⟨i,hi,rfl⟩;rw[Ao]at hi;omega
  ·rintro⟨h1,h2⟩;exact⟨s - args.length,Ao.2 (by omega),by omega⟩
 have hbx:∀i,i < css.length->args.length+i∈bx∧N9+(args.length+i)∈bx:=λi hi=>by
  have:=Ah.1 h0 i (Ao.2 hi)
  simpa[Aa,AS]using this
 have hini:∀s,s < args.length->Fc (args++css.map V.box) s=(args[s]?).getD (.tup []):=λs hs=>by
  simp only[Fc,B4 hs]
 have hinb:∀s,args.length<=s->Fc (args++css.map V.box) s=((css[s - args.length]?).map V.box).getD (.tup []):=λs hs=>by
  simp only[Fc,CF hs,AW]
 refine Hh hf hb ?_
 have hsim:HSim P fn.ntmps bx ⟨λb=>b < w.heap.size∧b∉bs0,(List.range css.length).map λi=>(args.length+i,us.getD i undef)⟩ St (λs=>if args.length<=s∧s < args.length+css.length then β s else []) [] (Fc (args++css.map V.box)) {tmps:=(vs++us).toArray++Array.replicate (fn.ntmps - (vs++us).toArray.size) undef,defers:=[]} w:=by
  refine
  {size:=by simp;omega
   defers:=rfl
   slot:=λs=>?_
   boxes:=λs cs e=>?_
   crefs:=λs b e=>?_
   nodup:=λs=>by
    split
    ·exact m3 s
    ·exact AG
   apart:=λs t hst k hk hk'=>by
    split at hk
    ·split at hk'
     ·rename_i q1 q2
      exact m4 s ((hssm s).2 q1) t ((hssm t).2 q2) hst k hk hk'
     ·simp at hk'
    ·simp at hk
   hnodup:=AG
   hapart:=λ_ k hk=>by simp
   range:=λs k hk=>by
    split at hk
    ·rename_i q1
     exact⟨λh=>h.2 (m2 s ((hssm s).2 q1) k hk),hrg k (m2 s ((hssm s).2 q1) k hk)⟩
    ·simp at hk
   hrange:=λk hk=>by simp at hk
   st:=hst
   gl:=hgl
   pin:=λv e=>by
    obtain⟨i,hi,rfl⟩:=A3.1 e
    rw[Ao]at hi
    rw[Rl]
    refine⟨?_,hbx i hi⟩
    rw[CF (by omega),hl,De,Af]}
  ·rw[Rl]
   by_cases hs:s < args.length
   ·rw[At (by omega),hini s hs,B4 (by omega)]
    obtain⟨v,hv,hr⟩:=hat s args[s] (Ac hs)
    rw[Ac hs,hv,Cy,Cy]
    exact(SE (Ah.1 hargs _ (Aj hs)) hr).slot
   ·rw[hinb s (by omega),CF (by omega),hl]
    by_cases hs2:s < args.length+css.length
    ·rw[Av ⟨by omega,hs2⟩,Ac (show s - args.length < css.length by omega),Ac (show s - args.length < us.length by omega)]
     simp only[B8,Cy]
     refine fj (m1 (s - args.length) s _ _ ?_ (Ac _) (Ac _))
     rw[AW,DS (by omega),B8]
     congr 1;omega
    ·rw[At (by omega),A2 (by omega),A2 (by omega)]
     exact⟨[],rfl,rfl,rfl⟩
  ·by_cases hs:s < args.length
   ·rw[hini s hs,Ac hs,Cy]at e
    have hp:=Ah.1 hargs _ (Aj hs)
    cases hc:args[s]<;>rw[hc]at e hp<;>first|(cases hp;done)|(cases e;done)
   ·by_cases hs2:s < args.length+css.length
    ·have:=(hbx (s - args.length) (by omega)).1
     rwa [show args.length+(s - args.length)=s from by omega]at this
    ·rw[hinb s (by omega),A2 (by omega)]at e
     cases e
  ·by_cases hs:s < args.length
   ·rw[hini s hs,Ac hs,Cy]at e
    have hp:=Ah.1 hargs _ (Aj hs)
    cases hc:args[s]<;>rw[hc]at e hp<;>first|(cases hp;done)|(cases e;done)
   ·rw[hinb s (by omega)]at e
    cases hc:css[s - args.length]? with
    |none=>rw[hc]at e;cases e
    |some cs=>rw[hc]at e;cases e
 obtain⟨B1,hsim1⟩:=WX (us:=us) (m:=args.length) hsim (λi u hu=>by
  have hi:i < css.length:=by have:=(Ch.1 hu).1;omega
  refine⟨?_,?_,by omega⟩
  ·rw[Rl,CF (by omega),hl,De,hu];rfl
  ·rw[hinb _ (by omega),De,Ac hi]
   exact⟨_,rfl⟩) (λj _=>by
  have:args.length+css.length<=gV j:=by unfold gV;omega
  rw[hinb _ (by omega),A2 (by omega)];rfl)
 have hrel:Rel P fn.ntmps bx _ St w (Rn args.length us (Fc (args++css.map V.box))) _ w:=⟨St,B1,hsim1,BelowK.refl _ _,λ_ _ _=>Dx,λ_ h=>h.1⟩
 refine Fy (h _ _ _ _ _ hrel) ?_
 rintro e a' w' ⟨σ',⟨he,hres,hbox⟩,St1,B',h1,h2,h3,h4⟩
 have hfin:a'.defers=[]∧∃v,(results fn a'.tmps).run P w'=.ok v w'∧sN P w St us bs0 css' r (.returned v) w':=by
  obtain⟨v,bs,q1,q2,q3,q4⟩:=UG htb h1 hn hres
  have hbs:bs=[]:=by
   rcases hrp with rfl|hrp
   ·obtain⟨_,_,h5⟩:=q2;exact h5.2
   ·cases r<;>first|exact q2.1|cases hrp
  subst hbs
  have hl':css'.length=css.length:=by have:=congrArg List.length hbox;simpa using this.symm
  have hbr:∀(n k:Nat) (ds:List (List V)) (vs':List Value),ds.length=n->vs'.length=n->(∀i d u,ds[i]? =some d->vs'[i]? =some u->σ' (args.length+(k+i))=.box d∧tm a' (args.length+(k+i))=u)->P2 P w' St1 ds vs' (OH B' (args.length+k) n):=by
   intro n
   induction n with
   |zero=>intro k ds vs' e1 e2 _;rw[HS.1 e1,HS.1 e2];exact⟨rfl,rfl⟩
   |succ n ih=>
    intro k ds vs' e1 e2 hh
    cases ds with
    |nil=>cases e1
    |cons d ds=>
     cases vs' with
     |nil=>cases e2
     |cons u vs'=>
      obtain⟨g1,g2⟩:=hh 0 d u rfl rfl
      have hs:=h1.slot (args.length+k)
      rw[Dt]at g1 g2
      rw[g1,g2]at hs
      refine⟨u,vs',B' (args.length+k),OH B' (args.length+k+1) n,rfl,rfl,fj hs,?_⟩
      have:=ih (k+1) ds vs' (by simpa using e1) (by simpa using e2) (λi d' u' hd hu=>by
       have:=hh (i+1) d' u' (by simpa using hd) (by simpa using hu)
       rwa [show k+(i+1)=k+1+i from by omega]at this)
      rwa [show args.length+(k+1)=args.length+k+1 from by omega]at this
  have hk:∀k∈OH B' (args.length+0) css'.length,(k∈bs0∨w.heap.size<=k)∧k < w'.heap.size:=λk hk=>by
   obtain⟨i,_,_,hm⟩:=NE hk
   have hr:=h1.range i k hm
   refine⟨Cp λhc=>?_,hr.2⟩
   rw[not_or]at hc
   exact hr.1 ⟨by omega,hc.1⟩
  refine⟨h1.defers,v,q1,v,OH B' (args.length+0) css'.length,St1,rfl,h2,λb o hb hbn=>h3 b o ⟨hb,hbn⟩,h1.st,hbr css'.length 0 css' us rfl (by omega) (λi d u hd hu=>?_),q2,N1 h1.nodup h1.apart _ _,hk⟩
  have hi:i < css.length:=by have:=(Ch.1 hd).1;omega
  rw[CR]
  refine⟨?_,?_⟩
  ·have:=congrArg (λl=>l[i]?) hbox
   simp only[AW,DS hi,B8,hd,Ap]at this
   exact this
  ·have:=(h1.pin (args.length+i,us.getD i undef) (A3.2 ⟨i,Ao.2 hi,rfl⟩)).1
   rw[Af,hu]at this
   exact this
 rcases he with rfl|rfl
 ·exact hfin
 ·exact hfin
end
section
variable {P:Program}{tb:Tb}
def zG(tb:Tb)(rs:List ResultVar)(m n:Nat)(css':List (List V))(r:V)(e:Exit)(σ:PS):Prop:=(e=.ret∨e=.normal)∧Vt tb σ rs=some r∧((List.range n).map λi=>σ (m+i))=css'.map V.box
theorem rE(htb:IG P tb){f:FuncId}{nt:Nat}{bx:zN}{rs:List ResultVar}{l:LC}{us:List Value}{css css':List (List V)}{args:List V}{r:V}(hl:Lit P f nt bx rs l)(hlen:args.length+css.length<=nt)(hnt:nt<=910000)(hb:vS bx args.length css.length=true)(hargs:args.all L6=true)(hrp:r=.tup []∨HV r=true)
  (h:LS P nt bx l (Rn args.length us (Fc (args++css.map V.box))) (zG tb rs args.length css.length css' r)):TT P f us css args css' r:=by
 obtain⟨⟨fn,c,h1,h2,h3,rfl,rfl,h6,h7⟩,hn,hL⟩:=hl
 exact vT htb h1 h2 h3 bx hlen hnt hb hargs hn hrp (h c h6 h7 hL)
end
def WE(L:PL):zN->Option (List (List V))
 |[]=>some []
 |s::ss=>match lk L s with
  |some (.box cs)=>Ab (WE L ss) λr=>some (cs::r)
  |_=>none
def c6(L:PL):zN->Option (List Value)
 |[]=>some []
 |s::ss=>match lk L (gV s)with
  |some (.val q u)=>RF (Nat.beq q s) (Ab (c6 L ss) λr=>some (u::r))
  |_=>none
theorem Yh{L:PL}:∀{ss:zN}{css:List (List V)},WE L ss=some css->ss.map (Cv L)=css.map V.box
 |[],_,h=>by cases h;rfl
 |s::ss,_,h=>by
  unfold WE at h
  split at h
  ·rename_i cs hs
   obtain⟨r,h1,h⟩:=AK h
   cases h
   rw[AC,AC,CT hs,Yh h1]
  ·cases h
theorem c7{L:PL}:∀{ss:zN}{us:List Value},c6 L ss=some us->(ss.map λs=>Cv L (gV s))=(ss.zip us).map (λp=>V.val p.1 p.2)∧ss.length=us.length
 |[],_,h=>by cases h;exact⟨rfl,rfl⟩
 |s::ss,_,h=>by
  unfold c6 at h
  split at h
  ·rename_i q u hs
   obtain⟨hq,h⟩:=Dq h
   obtain⟨r,h1,h⟩:=AK h
   cases h
   have hq:=CL hq
   subst hq
   obtain⟨h2,h3⟩:=c7 h1
   exact⟨by rw[AC,K9,AC,CT hs,h2],by rw[AQ,AQ,h3]⟩
  ·cases h
def oB(L:PL):List Operand->Option (List Value)
 |[]=>some []
 |.tmp p::xs=>match lk L (gV p)with
  |some (.val q u)=>RF (Nat.beq q p) (Ab (oB L xs) λr=>some (u::r))
  |_=>none
 |_::_=>none
theorem fq{L:PL}:∀{xs:List Operand}{us:List Value},oB L xs=some us->Zn (Cv L) xs=some us
 |[],_,h=>by cases h;rfl
 |.tmp p::xs,_,h=>by
  unfold oB at h
  split at h
  ·rename_i q u hs
   obtain⟨hq,h⟩:=Dq h
   obtain⟨r,h1,h⟩:=AK h
   cases h
   have hq:=CL hq
   subst hq
   unfold Zn
   rw[CT hs]
   simp only[ER,fq h1,B8]
  ·cases h
 |.const _::_,_,h=>by cases h
 |.global _::_,_,h=>by cases h
 |.func _::_,_,h=>by cases h
def sfV(ss:zN):PL->Prop
 |[]=>True
 |(q,c)::L=>(ss.contains q=true∨J6 c=true)∧sfV ss L
theorem yvn{ss:zN}:sfV ss []:=trivial
theorem yvb{ss:zN}{q:Nat}{c:V}{L:PL}(h:ss.contains q=true)(k:sfV ss L):sfV ss ((q,c)::L):=⟨.inl h,k⟩
theorem yvc{ss:zN}{q:Nat}{c:V}{L:PL}(h:J6 c=true)(k:sfV ss L):sfV ss ((q,c)::L):=⟨.inr h,k⟩
theorem nx{ss:zN}:∀{L:PL},sfV ss L->∀q,q∉ss->J6 (Cv L q)=true
 |[],_,q,_=>rfl
 |(p,c)::L,⟨h1,h2⟩,q,hq=>by
  rw[D8]
  by_cases e:q=p
  ·subst e;rw[upd_same];exact h1.resolve_left λh=>hq (AS.1 h)
  ·rw[upd_ne _ _ e];exact nx h2 q hq
def nN:zN->List (List V)->PL->PL
 |s::ss,cs::css,L=>(s,.box cs)::nN ss css L
 |_,_,L=>L
theorem iK{L:PL}:∀{ss:zN}{css:List (List V)},XR (Cv L) ss css=Cv (nN ss css L)
 |[],_=>rfl
 |_::_,[]=>rfl
 |s::ss,cs::css=>by rw[XR,nN,D8,iK]
def mc:zN->Bool
 |[]=>true
 |s::ss=> !ss.contains s&&mc ss
theorem gH:∀{ss:zN},mc ss=true->ss.Nodup
 |[],_=>AG
 |s::ss,h=>by
  rw[mc,Aa,Ax,<-Ex,AS]at h
  exact Bw.2 ⟨h.1,gH h.2⟩
theorem dV{L L1:PL}{S:zN}(h:Tf L S=some L1):kill (PI L S) (Cv L)=Cv L1:=by
 obtain⟨L',h1,h⟩:=AK h
 obtain⟨h2,h⟩:=Dq h
 cases h
 obtain⟨i1,i2,i3⟩:=Qx h1
 funext q
 by_cases hq:q∈S
 ·have e1:=CT (i1 q hq)
  have hD:¬(PI L S).contains q=true:=λh=>(Lz.1 h).2 hq
  unfold kill
  rw[At hD,e1]
  cases hr:DI (Cv L1 q)with
  |none=>rfl
  |some b=>
   have hb:b∈S:=by
    obtain⟨p,hp,hpr⟩:=ZT hr
    have:=Ah.1 h2 p hp
    rw[hpr,i3]at this
    exact AS.1 this
   have hD':¬(PI L S).contains b=true:=λh=>(Lz.1 h).2 hb
   simp only[At hD']
 ·rw[i2 q hq]
  by_cases hk:q∈L.map (·.1)
  ·exact QY (Lz.2 ⟨hk,hq⟩)
  ·unfold kill
   rw[Sx hk]
   split<;>rfl
section
variable {P:Program}{tb:Tb}{cns:zN}{L:PL}{K:PS->Prop}{t:TypeId}{x:Operand}
def zrA(σ:PS):List Operand->List V->Prop
 |[],as=>as=[]
 |x::xs,as=>∃a as',as=a::as'∧(Co σ x).isArg=true∧Zb (Co σ x)=a∧zrA σ xs as'
theorem nY{σ:PS}:∀{xs:List Operand}{as:List V},zrA σ xs as->xs.all (λx=>(Co σ x).isArg)=true∧(xs.map λx=>Zb (Co σ x))=as
 |[],_,h=>by cases h;exact⟨rfl,rfl⟩
 |x::xs,_,⟨a,as',e,h1,h2,h3⟩=>by
  obtain⟨h4,h5⟩:=nY h3
  subst e
  exact⟨by rw[Bz,h1,h4];rfl,by rw[AC,h2,h5]⟩
theorem zn:zrA (Cv L) [] []:=rfl
theorem za{c a:V}{xs:List Operand}{as:List V}(h1:n8 L x=some c)(h2:Zb c=a)(h3:zrA (Cv L) xs as):zrA (Cv L) (x::xs) (a::as):=⟨a,as,rfl,(by rw[(Sl h1).1];exact(Sl h1).2),(by rw[(Sl h1).1];exact h2),h3⟩
theorem oA{d:Option Nat}{f:FuncId}{args:List Operand}{us:List Value}{css css':List (List V)}{r:V}{L1:PL}(ss S:zN)(hb:WE L ss=some css)(hv:c6 L ss=some us)(hn:mc ss=true)(ha:args.all (λx=>(Co (Cv L) x).isArg)=true)(hp:sP P (Cv L) f us css args css' r)
  (hk:Tf L (ss++S)=some L1) (hsf:sfV ss L1) (k:K (QC (Cv (nN ss css' L1)) d r)):QQ P d (.func (.func f) #[] us.toArray) args (Cv L) K:=by
 obtain⟨v1,v2⟩:=c7 hv
 refine⟨f,us,ss,css,css',r,PI L (ss++S),rfl,Yh hb,v1,v2,gH hn,ha,hp,λs hs=>?_,λq hq=>?_,?_⟩
 ·cases hc:(PI L (ss++S)).contains s with
  |false=>rfl
  |true=>exact absurd (Az _ hs) (Lz.1 hc).2
 ·by_cases hD:(PI L (ss++S)).contains q=true
  ·exact .inl hD
  ·right
   by_cases hm:q∈L.map (·.1)
   ·have hS:q∈ss++S:=Cp λh=>hD (Lz.2 ⟨hm,h⟩)
    obtain⟨L',k1,k2⟩:=AK hk
    obtain⟨_,k2⟩:=Dq k2
    cases k2
    rw[CT ((Qx k1).1 q hS)]
    exact nx hsf q hq
   ·rw[Sx hm];rfl
 ·rw[dV hk,iK]
  exact k
theorem qVz{d p:Nat}{f:FuncId}{args:Array Operand}{ts:Array TypeId}{us:List Value}{css css':List (List V)}{as:List V}{r:V}{L1:PL}(ss S:zN)(hl:lk L p=some (.tok (.func (.func f) #[] us.toArray)))(hb:WE L ss=some css)(hv:c6 L ss=some us)(hn:mc ss=true)(he:zrA (Cv L) args.toList as)(hp:TT P f us css as css' r)
  (hk:Tf L (ss++S)=some L1) (hsf:sfV ss L1) (k:K (Cv ((d,r)::nN ss css' L1))) (hc:cns.contains d=false:=by rfl):F0 P tb cns ⟨some d,.call {callee:=.value (.tmp p),args:=args,argTypes:=ts},t,none⟩ (Cv L) K:=by
 obtain⟨h1,h2⟩:=nY he
 show(match Co (Cv L) (.tmp p)with
  |.fn f=>JZ P cns _ f args.toList (Cv L) K
  |.tok u=>UZ P cns _ u args.toList (Cv L) K
  |_=>YZ cns _ (Cv L) K)
 rw[show Co (Cv L) (.tmp p)=.tok (.func (.func f) #[] us.toArray)from CT hl]
 exact⟨hc,oA ss S hb hv hn h1 (.inr (by rw[h2];exact hp)) hk hsf k⟩
theorem qMf{d:Nat}{f:FuncId}{fs caps:Array Operand}{us:List Value}(hf:fs.toList=[])(hc:oB L caps.toList=some us)(k:K (Cv ((d,.tok (.func (.func f) #[] us.toArray))::L))):F0 P tb cns ⟨some d,.makeFunc (.func f) fs caps,t,none⟩ (Cv L) K:=by
 show mkF f fs.toList caps.toList d (Cv L) K
 unfold mkF
 rw[hf,fq hc]
 exact k
end
def Uc:Nat->List Value->PL->PL
 |_,[],L=>L
 |m,u::us,L=>(gV m,.val m u)::Uc (m+1) us L
theorem kL{L:PL}{σ:PS}(hL:∀p∈L,p.1 < 910000)(h:YA σ L):∀(us:List Value) (m:Nat),YA (Rn m us σ) (Uc m us L)
 |[],m=>h
 |u::us,m=>by
  have key:∀(us:List Value) (m:Nat) (σ:PS) (v:V),YA σ (Uc (m+1) us L)->YA (upd σ (gV m) v) (Uc (m+1) us L):=by
   have h0:∀(L':PL) (σ:PS) (q:Nat) (v:V),(∀p∈L',p.1≠q)->YA σ L'->YA (upd σ q v) L':=by
    intro L'
    induction L' with
    |nil=>intro _ _ _ _ _;trivial
    |cons p L' ih=>
     obtain⟨r,c⟩:=p
     intro σ q v hne hk
     exact⟨by rw[upd_ne _ _ (hne (r,c) Bg)];exact hk.1,ih σ q v (λp hp=>hne p (AE _ hp)) hk.2⟩
   intro us m σ v hk
   refine h0 _ _ _ _ (λp hp e=>?_) hk
   have:∀(us:List Value) (k:Nat),m < k->p∉Uc k us L:=by
    intro us
    induction us with
    |nil=>intro k _ hm;have:=hL p hm;rw[e]at this;unfold gV at this;omega
    |cons u us ih=>
     intro k hk hm
     rcases AB.1 hm with rfl|hm
     ·simp only[gV]at e;omega
     ·exact ih (k+1) (by omega) hm
   exact this us (m+1) (by omega) hp
  refine⟨?_,key us m _ _ (kL hL h us (m+1))⟩
  rw[Rn,upd_same]
  exact kr
theorem ln:∀(cs:List V) (i:Nat),∀p∈OQ i cs,p.1 < i+cs.length
 |[],_,p,hp=>by simp[OQ]at hp
 |c::cs,i,p,hp=>by
  rw[OQ]at hp
  rcases AB.1 hp with rfl|hp
  ·simp
  ·have:=ln cs (i+1) p hp
   rw[AQ];omega
theorem qiv{P:Program}{nt:Nat}{bx:zN}{l:LC}{Q:Exit->PS->Prop}{xs:List V}{us:List Value}{m:Nat}(hl:xs.length<=910000)(hr:okR (Uc m us (OQ 0 xs))=true)(k:LS P nt bx l (Cv (Uc m us (OQ 0 xs))) Q):LS P nt bx l (Rn m us (Fc xs)) Q:=
 G2 _ (kL (λp hp=>by have:=ln xs 0 p hp;omega) (dS xs 0 0) us m) hr k
end
end Go.Proofs.YthghcmmlmfgkbaaGreatDoor
