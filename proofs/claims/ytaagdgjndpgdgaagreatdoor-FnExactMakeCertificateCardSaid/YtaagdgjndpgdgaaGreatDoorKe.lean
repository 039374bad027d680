/-
 A machine on data, part 5: lists that are lent. Over no program; no conditions.
-/
import Derived.Test.YtaagdgjndpgdgaaGreatDoorKb
open Go.RowKit
set_option linter.unusedVariables false
set_option linter.unusedSimpArgs false
namespace Go.Proofs.YtaagdgjndpgdgaaGreatDoor
def P8(B:Nat->List Nat):Nat->Nat->List Nat
 |_,0=>[]
 |k,n+1=>B k++P8 B (k+1) n
theorem O1{B:Nat->List Nat}{g:Nat}:∀{n k:Nat},g∈P8 B k n->∃i,k<=i∧i < k+n∧g∈B i
 |0,_,h=>by simp[P8]at h
 |n+1,k,h=>by
  rw[P8,Ak]at h
  rcases h with h|h
  ·exact⟨k,AW _,by omega,h⟩
  ·obtain⟨i,h1,h2,h3⟩:=O1 h
   exact⟨i,by omega,by omega,h3⟩
theorem Pq{B:Nat->List Nat}(h1:∀i,(B i).Nodup)(h2:∀i j,i≠j->∀g∈B i,g∉B j):∀(n k:Nat),(P8 B k n).Nodup
 |0,_=>AF
 |n+1,k=>by
  rw[P8]
  refine Ax.2 ⟨h1 k,Pq h1 h2 n (k+1),λa ha b hb e=>?_⟩
  obtain⟨i,q1,_,q3⟩:=O1 hb
  exact h2 k i (by omega) a ha (e ▸ q3)
section
variable {P:Program}{w:World}{St:Nat->Nat->Prop}
theorem Yd{B:Nat->List Nat}:∀(os:List V) (us:List Value) (k:Nat),us.length=os.length->(∀i c u,os[i]? =some c->us[i]? =some u->c.Do=true∧Ow P w St c u (B (k+i)))->Bb P w St os us (P8 B k os.length)
 |[],us,_,hl,_=>⟨IG.1 hl,rfl⟩
 |c::os,[],_,hl,_=>by cases hl
 |c::os,u::us,k,hl,h=>by
  obtain⟨h1,h2⟩:=h 0 c u rfl rfl
  refine⟨u,us,B k,P8 B (k+1) os.length,rfl,rfl,h1,h2,Yd os us (k+1) (by simpa using hl) λi c' u' hc hu=>?_⟩
  have:=h (i+1) c' u' (by simpa using hc) (by simpa using hu)
  rwa [show k+(i+1)=k+1+i from by omega]at this
end
section
variable {P:Program}{tb:Tb}
def slots(σ:PS)(n:Nat):List V:=(List.range n).map σ
def pC(bx:List Nat)(n:Nat):Bool:=(List.range n).all λi=>bx.contains i&&bx.contains (RC+i)
theorem tP(htb:H5 P tb){f:FuncId}{fn:Func}{c:Code}{os args os':List V}{rb:Bool}(hf:P.funcs[f]? =some fn)(hb:fn.body=some c)(hname:(fn.name== "runtime.NumGoroutine")=false)(bx:List Nat)(hlen:os.length+args.length<=fn.ntmps)(h0:pC bx os.length=true)(hargs:args.all KK=true)
  (hn:(fn.results.toList.map Oo).Nodup) (hcs:Cm os=true) (hob:os.all aC=true) (hcs':Cm os'=true) (hcl:os'.all V.Do=true) (h:MP P fn.ntmps bx c (HC (os++args.map ND)) (λe σ=>(e=.ret∨e=.normal)∧bo tb σ fn.results.toList=some (.bool rb)∧slots σ os.length=os')):TP P f os args os' (.bool rb):=by
 refine⟨⟨fn,hf,by rw[hb];rfl,hname⟩,λw St us bs0 vs hst hgl hrow hnd hrg hvs=>?_⟩
 have hN:∀b o,(St b o∧b∉bs0)->(b < w.heap.size∧b∉bs0):=λb o h=>⟨hst b o h.1,h.2⟩
 have hvs0:=Pp.LF (N:=λb=>b < w.heap.size∧b∉bs0) hN hargs hvs
 have hvs':Pp w (λb o=>St b o∨(b < w.heap.size∧b∉bs0)) (args.map ND) vs:=hvs0.mono (λb o h=>h.imp (·.1) id) (λ_ _ _=>rfl)
 have hst':∀b o,(St b o∨(b < w.heap.size∧b∉bs0))->b < w.heap.size:=λb o h=>h.elim (hst b o) (·.1)
 have hrow':Bb P w (λb o=>St b o∨(b < w.heap.size∧b∉bs0)) os us bs0:=Bb.kept os hcs hrow (λk hk=>⟨rfl,λo=>⟨λh=>h.elim id (λh=>absurd hk h.2),.inl⟩⟩)
 have hpl:(args.map ND).all Q8=true:=by
  rw[LT,Al]
  exactλx hx=>ZI (Al.1 hargs x hx)
 obtain⟨hl,hat⟩:=args_at hvs'
 rw[Aj]at hl
 have hul:=Bb.length hrow
 obtain⟨β,k1,k2,k3,k4⟩:=SA hrow' hnd
 have hbx:∀i,i < os.length->i∈bx∧RC+i∈bx:=λi hi=>by
  have:=Al.1 h0 i (AL.2 hi)
  simpa[Ac,Bk]using this
 have hin:∀s,s < os.length->∃c u,os[s]? =some c∧us[s]? =some u∧HC (os++args.map ND) s=c∧aC c=true:=λs hs=>by
  refine⟨os[s],us[s]'(by omega),Ad hs,Ad _,?_,Al.1 hob _ (Ag hs)⟩
  simp only[HC,BE hs,Ad hs,Cl]
 have hout:∀s,¬s < os.length->HC (os++args.map ND) s=(((args.map ND)[s - os.length]?).getD (.tup [])):=λs hs=>by
  simp only[HC,BP (Nr hs)]
 refine Ka hf hb ?_
 have hrel:Rel P fn.ntmps bx ⟨λb=>b < w.heap.size∧b∉bs0,(List.range os.length).map λi=>(i,us.getD i undef)⟩ (λb o=>St b o∨(b < w.heap.size∧b∉bs0)) w (HC (os++args.map ND)) {tmps:=(us++vs).toArray++Array.replicate (fn.ntmps - (us++vs).toArray.size) undef,defers:=[]} w:=by
  refine⟨_,λs=>if s < os.length then β s else [],?_,BelowK.refl _ _,λ_ _ _=>CM,λ_ h=>h.1⟩
  refine
  {size:=by simp;omega
   defers:=rfl
   slot:=λs=>?_
   boxes:=λs cs e=>?_
   crefs:=λs b e=>?_
   nodup:=λs=>by
    split
    ·exact k3 s
    ·exact AF
   apart:=λs t hst k hk hk'=>by
    split at hk
    ·split at hk'
     ·exact k4 s t hst k hk hk'
     ·simp at hk'
    ·simp at hk
   hnodup:=AF
   hapart:=λ_ k hk=>by simp
   range:=λs k hk=>by
    split at hk
    ·exact⟨λh=>h.2 (k2 s k hk),hrg k (k2 s k hk)⟩
    ·simp at hk
   hrange:=λk hk=>by simp at hk
   st:=hst'
   gl:=hgl.of (λb hb o=>.inl (hb o)) (λ_ _ _=>rfl)
   pin:=λv e=>by
    obtain⟨i,hi,rfl⟩:=BF.1 e
    rw[AL]at hi
    rw[Xa]
    refine⟨?_,hbx i hi⟩
    simp only[BE (show i < us.length by omega),AQ]}
  ·rw[Xa]
   by_cases hs:s < os.length
   ·obtain⟨c,u,q1,q2,q3,q4⟩:=hin s hs
    rw[AH hs,q3,BE (show s < us.length by omega),q2,Cl]
    exact(k1 s c u q1 q2).slot
   ·rw[AE hs,hout s hs,BP (show us.length<=s by omega),hul]
    cases hc:(args.map ND)[s - os.length]? with
    |none=>
     have:vs[s - os.length]? =none:=by
      rw[HS,Aj]at hc
      rw[HS];omega
     simp only[this,Option.getD_none]
     exact⟨[],rfl,rfl,rfl⟩
    |some c=>
     obtain⟨v,hv,hr⟩:=hat (s - os.length) c hc
     simp only[hv,Cl]
     exact(X8 (Al.1 hpl c (BZ hc)) hr).slot
  ·by_cases hs:s < os.length
   ·obtain⟨c,u,q1,q2,q3,q4⟩:=hin s hs
    exact(hbx s hs).1
   ·rw[hout s hs]at e
    cases hc:(args.map ND)[s - os.length]? with
    |none=>rw[hc]at e;cases e
    |some c=>
     rw[hc]at e
     have hp:=Al.1 hpl c (BZ hc)
     simp only[Cl]at e
     cases c<;>first|(cases hp;done)|(cases e;done)
  ·by_cases hs:s < os.length
   ·obtain⟨c,u,q1,q2,q3,q4⟩:=hin s hs
    rw[q3]at e
    cases c<;>first|(cases q4;done)|(cases e;done)
   ·rw[hout s hs]at e
    cases hc:(args.map ND)[s - os.length]? with
    |none=>rw[hc]at e;cases e
    |some c=>
     rw[hc]at e
     have hp:=Al.1 hpl c (BZ hc)
     simp only[Cl]at e
     cases c<;>first|(cases hp;done)|(cases e;done)
 refine EQ (h _ _ _ _ _ hrel) ?_
 rintro e a' w' ⟨σ',⟨he,hres,hbox⟩,St1,B',h1,h2,h3,h4⟩
 have hfin:a'.defers=[]∧∃v,(results fn a'.tmps).run P w'=.ok v w'∧Abi P w St us bs0 os' (.bool rb) (.returned v) w':=by
  obtain⟨v,bs,q1,q2,q3,q4⟩:=bq htb h1 hn hres
  have hl':os'.length=os.length:=by rw[<-hbox];simp[slots]
  have hk:∀k∈P8 B' 0 os'.length,(k∈bs0∨w.heap.size<=k)∧k < w'.heap.size:=λk hk=>by
   obtain⟨i,_,_,hm⟩:=O1 hk
   have hr:=h1.range i k hm
   refine⟨BW λhc=>?_,hr.2⟩
   rw[not_or]at hc
   exact hr.1 ⟨by omega,hc.1⟩
  have hrow2:Bb P w' St1 os' us (P8 B' 0 os'.length):=by
   refine Yd os' us 0 (by omega) λi c u hc hu=>?_
   have hi:i < os.length:=by have:=(Ce.1 hc).1;omega
   have hcc:V.Do c=true:=Al.1 hcl c (BZ hc)
   have e1:σ' i=c:=by
    rw[<-hbox]at hc
    simp only[slots,BL,Fd hi,BR,Ar]at hc
    exact hc
   have e2:tm a' i=u:=by
    have:=(h1.pin (i,us.getD i undef) (BF.2 ⟨i,AL.2 hi,rfl⟩)).1
    rw[AQ,hu]at this
    exact this
   have hs:=h1.slot i
   rw[e1,e2]at hs
   rw[B6]
   refine⟨hcc,?_⟩
   cases c<;>first|exact hs|cases hcc
  refine⟨h1.defers,v,q1,v,P8 B' 0 os'.length,λb o=>(b < w.heap.size∧b∉bs0∧St b o)∨((w.heap.size<=b∨b∈bs0)∧St1 b o),rfl,h2,λb o hb hbn=>?_,λb o hh=>?_,?_,⟨rfl,q2.2⟩,Pq h1.nodup h1.apart _ _,hk⟩
  ·exact⟨λhh=>hh.elim (·.2.2) (λhh=>hh.1.elim (λh=>absurd hb (by omega)) (λh=>absurd h hbn)),λhh=>.inl ⟨hb,hbn,hh⟩⟩
  ·exact hh.elim (λhh=>Bu hh.1 h2.size) (λhh=>h1.st b o hh.2)
  ·exact Bb.kept os' hcs' hrow2 (λk hk'=>⟨rfl,λo=>⟨λhh=>hh.elim (λhh=>(hk k hk').1.elim (λh=>absurd h hh.2.1) (λh=>absurd hh.1 (by omega))) (·.2),λhh=>.inr ⟨(hk k hk').1.symm,hh⟩⟩⟩)
 rcases he with rfl|rfl
 ·exact hfin
 ·exact hfin
def Adt(tb:Tb)(rs:List ResultVar)(n:Nat)(os':List V)(r:V)(e:Exit)(σ:PS):Prop:=(e=.ret∨e=.normal)∧bo tb σ rs=some r∧slots σ n=os'
theorem pB(htb:H5 P tb){f:FuncId}{nt:Nat}{bx:List Nat}{rs:List ResultVar}{l:LC}{os args os':List V}{rb:Bool}(hl:Lit P f nt bx rs l)(hlen:os.length+args.length<=nt)(hb:pC bx os.length=true)(hargs:args.all KK=true)(hcs:Cm os=true)(hob:os.all aC=true)(hcs':Cm os'=true)(hcl:os'.all V.Do=true)
  (h:LS P nt bx l (HC (os++args.map ND)) (Adt tb rs os.length os' (.bool rb))):TP P f os args os' (.bool rb):=by
 obtain⟨⟨fn,c,h1,h2,h3,rfl,rfl,h6,h7⟩,hn,hL⟩:=hl
 exact tP htb h1 h2 h3 bx hlen hb hargs hn hcs hob hcs' hcl (h c h6 h7 hL)
end
theorem mo{L:PL}:∀{xs:List Operand}{us:List Value},xs.map (Rs L)=us.map (λu=>some (V.tok u))->xs.map (Cs (Ct L))=us.map V.tok
 |[],[],_=>rfl
 |[],_::_,e=>by cases e
 |_::_,[],e=>by cases e
 |x::xs,u::us,e=>by
  simp only[AB,Dg]at e
  rw[AB,AB,D9 e.1,mo e.2]
section
variable {P:Program}{tb:Tb}{cns:List Nat}{L:PL}{K:PS->Prop}{t:TypeId}
theorem qZ{d:Nat}{f:FuncId}{args:Array Operand}{ts:Array TypeId}{us:List Value}{ys:List Operand}{os as os':List V}{r:V}{L1:PL}(S:List Nat)(xs:List Operand)(ha:args.toList=xs++ys)(hne:xs.isEmpty=false)(hs:lk L gS=some (.gh us os))(hm:xs.map (Rs L)=us.map (λu=>some (V.tok u)))(hx:(!S.contains gS&&ys.all (Adl S))=true)(he:erA (Ct L) ys as)(hd:Cm os=true)(hp:TP P f os as os' r)(hk:Ww L S=some L1)(hsf:sfY L1)(k:K (Ct ((d,r)::(gS,.gh us os')::L1)))(hc:cns.contains d=false:=by rfl):
  Hw P tb cns ⟨some d,.call {callee:=.value (.func f),args:=args,argTypes:=ts},t,none⟩ (Ct L) K:=by
 obtain⟨h1,h2⟩:=dZ he
 subst h2
 rw[Ac,AT]at hx
 show Mr P cns _ f args.toList (Ct L) K
 unfold Mr
 rw[AE (by simpa using hc)]
 cases xs with
 |nil=>cases hne
 |cons x xs=>
 refine .inr (.inr (.inr ⟨x,xs,ys,us,os,os',r,Rr L (gS::S),ha,mo hm,Da hs,hd,?_,hp,?_,λq hq=>?_,?_⟩))
 ·rw[Al]at h1⊢
  intro x hxm
  rw[Ac]
  refine⟨h1 x hxm,?_⟩
  have:=Al.1 hx.2 x hxm
  unfold Adl at this
  split at this
  ·rename_i q
   simp only[j4,AT]
   cases hc:(Rr L (gS::S)).contains q with
   |false=>rfl
   |true=>exact absurd (AZ _ (by simpa using this)) (Mk.1 hc).2
  ·rfl
  ·rfl
  ·rfl
  ·cases this
 ·cases hc:(Rr L (gS::S)).contains gS with
  |false=>rfl
  |true=>exact absurd (BK) (Mk.1 hc).2
 ·by_cases hD:(Rr L (gS::S)).contains q=true
  ·exact .inl hD
  ·right
   by_cases hm:q∈L.map (·.1)
   ·have hS:q∈S:=BW λh=>hD (Mk.2 ⟨hm,λh'=>(AC.1 h').elim hq h⟩)
    obtain⟨L',k1,k2⟩:=A4 hk
    obtain⟨_,k2⟩:=DA k2
    cases k2
    rw[Da ((Sm k1).1 q hS)]
    exact fo hsf q
   ·rw[UY hm];rfl
 ·have e4:upd (kill (Rr L (gS::S)) (Ct L)) gS (.gh us os')=Ct ((gS,.gh us os')::L1):=by
   rw[Ed]
   funext q
   by_cases hq:q=gS
   ·subst hq;rw[upd_same,upd_same]
   ·rw[upd_ne _ _ hq,upd_ne _ _ hq];exact XZ hk hq
  show K (upd (upd (kill (Rr L (gS::S)) (Ct L)) gS (.gh us os')) d r)
  rw[e4]
  exact k
end
end Go.Proofs.YtaagdgjndpgdgaaGreatDoor
namespace Go.Proofs.YtaagdgjndpgdgaaGreatDoor
def tE(U:Nat->Value)(j:Nat):List V:=[.tok (U j)]
theorem ztE{U:Nat->Value}(j:Nat):(tE U j).length=1:=rfl
theorem dtE{U:Nat->Value}(j:Nat):DQ (tE U j)=true:=rfl
def JC{α:Type}(l:List α):List Nat:=(CV 0 l).map (·.1)
def cU(n:Nat):List Nat->List Nat->Bool
 |[],_=>true
 |j::J,seen=>(Nat.blt j n&& !seen.contains j)&&cU n J (j::seen)
def Ii{α:Type}(l:List α)(J:List Nat):List α:=J.flatMap λj=>(l[j]?).toList
def VX:List V->Bool
 |[.own _ _ _]=>true
 |_=>false
theorem lY:∀{ds:List V},VX ds=true->∃e n cs,ds=[.own e n cs]
 |[],h=>by cases h
 |[c],h=>by cases c<;>first|exact⟨_,_,_,rfl⟩|cases h
 |c::d::ds,h=>by cases c<;>cases h
theorem tok1{ds:List V}(h:VX ds=true):ds=[D4 ds]∧aC (D4 ds)=true:=by
 obtain⟨e,n,cs,rfl⟩:=lY h
 exact⟨rfl,rfl⟩
theorem aD{c:V}(h:aC c=true):∃e n cs,c=.own e n cs:=by
 cases c<;>first|exact⟨_,_,_,rfl⟩|cases h
theorem da{α:Type}{l:List α}:∀{J seen:List Nat},cU l.length J seen=true->(Ii l J).length=J.length
 |[],_,_=>rfl
 |j::J,seen,h=>by
  simp only[cU,Ac]at h
  have hj:j < l.length:=by simpa[Nat.blt_eq]using h.1.1
  have:=da h.2
  unfold Ii at this⊢
  rw[Au,Aq,this,Ad hj]
  simp;omega
section
variable {P:Program}{w:World}{St:Nat->Nat->Prop}{α:Type}{f:α->List V}{U:Nat->Value}
theorem iH(h1:∀x,VX (f x)=true):∀(L:List (Nat×α)) {xs:List Value}{b:List Nat},Bb P w St (L.flatMap (pE f U)) xs b->Bb P w St ((L.map (·.1)).flatMap (tE U)) xs b
 |[],_,_,h=>h
 |p::L,_,_,h=>by
  obtain⟨e,n,cs,ef⟩:=lY (h1 p.2)
  rw[Au]at h
  have e2:pE f U p=[.pin (U p.1) n (Nx cs)]:=by unfold pE;rw[ef];rfl
  rw[e2]at h
  obtain⟨u,us',b1,b2,q1,q2,q3,⟨q4,q5⟩,q6⟩:=h
  rw[AB,Au]
  exact⟨u,us',b1,b2,q1,q2,rfl,⟨q4,q5.1,q5.1 ▸ q5.oneCell⟩,iH h1 L q6⟩
theorem qy(h1:∀x,VX (f x)=true){l:List α}{us:List Value}{bs:List Nat}(ht:Bb P w St (l.map λx=>D4 (f x)) us bs)(hn:bs.Nodup)(hU:∀i,i < l.length->U i=us.getD i undef):
  ∀(J:List Nat) {xs:List Value}{b0:List Nat},cU l.length J []=true->Bb P w St (J.flatMap (tE U)) xs b0->∃b',Bb P w St ((Ii l J).flatMap f) xs b'∧b'.Nodup∧∀g∈b',g∈bs:=by
 obtain⟨β,k1,k2,k3,k4⟩:=SA ht hn
 have hlen:=ht.length
 rw[Aj]at hlen
 have key:∀(J seen:List Nat) {xs:List Value}{b0:List Nat},cU l.length J seen=true->Bb P w St (J.flatMap (tE U)) xs b0->
   ∃b',Bb P w St ((Ii l J).flatMap f) xs b'∧b'.Nodup∧(∀g∈b',g∈bs)∧∀i∈seen,∀g∈β i,g∉b':=by
  intro J
  induction J with
  |nil=>
   intro seen xs b0 _ h
   exact⟨[],⟨h.1,rfl⟩,AF,by simp,by simp⟩
  |cons j J ih=>
   intro seen xs b0 hok h
   rw[Au]at h
   obtain⟨u,us',b1,b2,q1,q2,q3,⟨q4,q5,q6⟩,q7⟩:=h
   simp only[cU,Ac,AT]at hok
   obtain⟨⟨g1,g2⟩,g3⟩:=hok
   have hj:j < l.length:=by simpa[Nat.blt_eq]using g1
   obtain⟨b',r1,r2,r3,r4⟩:=ih (j::seen) g3 q7
   have hus:us[j]? =some u:=by
    have:=hU j hj
    rw[<-q5]at this
    rw[this,AQ,Ad (by omega)]
    rfl
   have htok:=k1 j _ _ (by rw[BL,Ad hj];rfl) hus
   refine⟨β j++b',?_,?_,?_,?_⟩
   ·unfold Ii
    rw[Au,DB,Ad hj]
    have e3:([l[j]]:List α).flatMap f=[D4 (f l[j])]:=by
     rw[Au,Fq,AD]
     exact(tok1 (h1 _)).1
    show Bb P w St (([l[j]]:List α).flatMap f++_) xs _
    rw[e3,q1]
    obtain⟨e,n,cs,ec⟩:=aD (tok1 (h1 l[j])).2
    exact⟨u,us',β j,b',rfl,rfl,by rw[ec];rfl,htok,r1⟩
   ·refine Ax.2 ⟨k3 j,r2,λa ha b hb e=>?_⟩
    subst e
    exact r4 j (by simp) a ha hb
   ·intro g hg
    rcases Ak.1 hg with hg|hg
    ·exact k2 j g hg
    ·exact r3 g hg
   ·intro i hi g hg hm
    rcases Ak.1 hm with hm|hm
    ·have hne:i≠j:=λe=>by
      subst e
      have:seen.contains i=true:=by simpa using hi
      rw[this]at g2;cases g2
     exact k4 i j hne g hg hm
    ·exact r4 i (by simp[hi]) g hg hm
 intro J xs b0 hok h
 obtain⟨b',q1,q2,q3,_⟩:=key J [] hok h
 exact⟨b',q1,q2,q3⟩
theorem eW(h1:∀x,VX (f x)=true){e:TypeId}{J:List Nat}{v:Value}{b1:List Nat}{l:List α}{us:List Value}{bs:List Nat}(h:Ow P w St (.own e J.length (J.flatMap (tE U))) v b1)(ht:Bb P w St (l.map λx=>D4 (f x)) us bs)(hn:bs.Nodup)
  (hU:∀i,i < l.length->U i=us.getD i undef) (hok:cU l.length J []=true) (hb1:b1.Nodup) (hd:∀g∈b1,g∉bs):∃b',Ow P w St (.own e (Ii l J).length ((Ii l J).flatMap f)) v b'∧b'.Nodup∧∀g∈b',g∈b1∨g∈bs:=by
 obtain⟨hl,xs,bs',hx,hr,rfl,hst,h0⟩:=h
 obtain⟨n1,n2,n3⟩:=Ax.1 hb1
 obtain⟨b',q1,q2,q3⟩:=qy h1 ht hn hU J hok hr
 have hlen:=da hok
 refine⟨v.ownBlock.toList++b',⟨by rw[hlen];exact hl,xs,b',by rw[hlen];exact hx,q1,rfl,by rw[hlen];exact hst,λhz=>?_⟩,?_,?_⟩
 ·have:Ii l J=[]:=Ba hz
  rw[this];rfl
 ·refine Ax.2 ⟨n1,q2,λa ha b hb e=>?_⟩
  subst e
  exact hd a (AA _ ha) (q3 a hb)
 ·intro g hg
  rcases Ak.1 hg with hg|hg
  ·exact .inl (AA _ hg)
  ·exact .inr (q3 g hg)
end
section
variable {P:Program}{nt:Nat}{bx:List Nat}{σ:PS}{K:PS->Prop}{L:PL}{α:Type}{f:α->List V}{U:Nat->Value}{e:TypeId}
theorem lr{s:Nat}{c c':V}(hs:σ s=c)(W:∀w St t v bs,Cd P w St t c v bs->Cd P w St t c' v bs)(hb:(CU c').isSome=(CU c).isSome)(hrf:DK c'=none)(h:Gh P nt bx (upd σ s c') K):Gh P nt bx σ K:=
 o6 hs (λw St t v bs h hn=>⟨[],bs,by simp,λg hg=>hg,hn,(W w St t v bs h).mono (λ_ _ h=>.inl h) (λ_ _ _=>rfl) (λg hg=>⟨rfl,λo=>⟨λh=>h.elim id (λh=>by simp at h),.inl⟩⟩) (λ_ _=>rfl)⟩) hb hrf h
theorem gWl{s:Nat}{l:List (Nat×α)}(hs:lk L s=some (.own e l.length (l.flatMap (pE f U))))(h1:∀x,VX (f x)=true)(h:Gh P nt bx (Ct ((s,.own e (l.map (·.1)).length ((l.map (·.1)).flatMap (tE U)))::L)) K):Gh P nt bx (Ct L) K:=by
 refine lr (c':=.own e (l.map (·.1)).length ((l.map (·.1)).flatMap (tE U))) (Da hs) (λw St t v bs hh=>?_) rfl rfl (by rw[Ed]at h;exact h)
 obtain⟨hl,xs,bs',hx,hr,hb,hst,h0⟩:=(show Ow P w St _ v bs from hh)
 refine⟨by rw[Aj];exact hl,xs,bs',by rw[Aj];exact hx,iH h1 l hr,hb,by rw[Aj];exact hst,λhz=>?_⟩
 have:l=[]:=Ba (by rw[Aj]at hz;exact hz)
 subst this;rfl
theorem gWt{s:Nat}{u:Value}{n:Nat}{cs:List V}(hs:lk L s=some (.pin u n cs))(h:Gh P nt bx (Ct ((s,.tok u)::L)) K):Gh P nt bx (Ct L) K:=by
 refine lr (c':=.tok u) (Da hs) (λw St t v bs hh=>?_) rfl rfl (by rw[Ed]at h;exact h)
 obtain⟨h1,h2⟩:=(show Ow P w St (.pin u n cs) v bs from hh)
 exact⟨h1,h2.1,(show v=u from h2.1) ▸ h2.oneCell⟩
theorem gTj{s q:Nat}{l:List α}{us:List Value}{J:List Nat}(hs:lk L s=some (.own e J.length (J.flatMap (tE U))))(hq:lk L q=some (.gh us (l.map λx=>D4 (f x))))(hsq:Nat.beq s q=false)(h1:∀x,VX (f x)=true)(hU:∀i,i < l.length->U i=us.getD i undef)(hok:cU l.length J []=true)
  (h:Gh P nt bx (Ct ((q,.undef)::(s,.own e (Ii l J).length ((Ii l J).flatMap f))::L)) K):Gh P nt bx (Ct L) K:=by
 have hne:s≠q:=λe=>by rw[e]at hsq;simp at hsq
 rintro base St0 w0 a w ⟨St,B,hS,r1,r2,r3⟩
 have k1:=hS.slot s
 rw[Da hs]at k1
 have k2:=hS.slot q
 rw[Da hq]at k2
 obtain⟨b',q1,q2,q3⟩:=eW h1 (show Ow P w St _ _ (B s)from k1) k2 (hS.nodup q) hU hok (hS.nodup s) (λg hg=>hS.apart s q hne g hg)
 refine h base St0 w0 a w ⟨St,upd (upd B s b') q [],?_,r1,r2,r3⟩
 rw[Ed,Ed,show upd (upd (Ct L) s (V.own e (Ii l J).length ((Ii l J).flatMap f))) q .undef=upd (upd (Ct L) s (V.own e (Ii l J).length ((Ii l J).flatMap f))) q .undef from rfl]
 exact K0 hS hne (by rw[Da hq];rfl) q1 (show Cd P w St (tm a) .undef _ []from rfl) (by rw[AD];exact q2) (λg hg=>by rw[AD]at hg;exact q3 g hg) (by rw[Da hs];rfl) rfl rfl rfl
theorem Wn{l:List α}{i:Int}{x:α}(h:AI l i=some x):l[i.toNat]? =some x:=by
 obtain⟨h1,h2,h3⟩:=Be h
 exact h3
end
section
variable {P:Program}{w:World}{St:Nat->Nat->Prop}
def UE(P:Program)(w:World)(St:Nat->Nat->Prop)(cs:List V)(us:List Value)(β:Nat->List Nat):Prop:=
 us.length=cs.length∧∀j c u,cs[j]? =some c->us[j]? =some u->c.Do=true∧Ow P w St c u (β j)
theorem UE.fill{cs:List V}{us:List Value}{β:Nat->List Nat}(h:UE P w St cs us β){i:Nat}{u:Value}{c:V}{d:List Nat}(hu:us[i]? =some u)(hc:c.Do=true)(ho:Ow P w St c u d):UE P w St (cs.set i c) us (λj=>if j=i then d else β j):=by
 refine⟨by rw[Bx];exact h.1,λj c' u' h1 h2=>?_⟩
 rw[Gg]at h1
 by_cases e:i=j
 ·subst e
  rw[AH rfl]at h1
  split at h1
  ·cases h1
   rw[hu]at h2
   cases h2
   dsimp only
   rw[AH rfl]
   exact⟨hc,ho⟩
  ·cases h1
 ·rw[AE e]at h1
  dsimp only
  rw[AE (λe':j=i=>e e'.symm)]
  exact h.2 j c' u' h1 h2
theorem UE.row{cs:List V}{us:List Value}{β:Nat->List Nat}(h:UE P w St cs us β):Bb P w St cs us (P8 β 0 cs.length):=
 Yd cs us 0 h.1 λi c u h1 h2=>by rw[B6];exact h.2 i c u h1 h2
theorem fY{c:V}{u:Value}{b:List Nat}(hc:c.Do=true)(h:Ow P w St c u b):Ow P w St (.tok u) u []:=
 ⟨rfl,rfl,(Ow.rd c h (by cases c<;>first|rfl|cases hc)).oneCell⟩
theorem Bb.kN{cs:List V}{us:List Value}{bs:List Nat}(h:Bb P w St cs us bs)(hn:bs.Nodup)(hc:cs.all V.Do=true):∃β,UE P w St cs us β∧(∀i,∀g∈β i,g∈bs)∧(∀i,(β i).Nodup)∧∀i j,i≠j->∀g∈β i,g∉β j:=by
 obtain⟨β,k1,k2,k3,k4⟩:=SA h hn
 exact⟨β,⟨h.length,λj c u h1 h2=>⟨Al.1 hc c (BZ h1),k1 j c u h1 h2⟩⟩,k2,k3,k4⟩
end
theorem rF{β:Type}{cs:List β}{i p:Nat}{a b c d:β}(h:i≠p):(((cs.set i a).set p b).set i c).set p d=(cs.set i c).set p d:=by
 apply List.ext_getElem?
 intro j
 simp only[Gg,Bx]
 by_cases e1:p=j
 ·simp[e1]
 ·by_cases e2:i=j
  ·subst e2;simp[e1]
  ·simp[e1,e2]
section
variable {P:Program}{nt:Nat}{bx:List Nat}{K:PS->Prop}{L:PL}{α:Type}{f:α->List V}{U:Nat->Value}
theorem dq(h1:∀x,VX (f x)=true)(l:List α):(l.map λx=>D4 (f x)).all V.Do=true:=by
 rw[LT,Al]
 intro x _
 obtain⟨e,n,cs,ec⟩:=aD (tok1 (h1 x)).2
 show V.Do (D4 (f x))=true
 rw[ec];rfl
theorem U7(h1:∀x,VX (f x)=true)(x:α):(D4 (f x)).Do=true:=by
 obtain⟨e,n,cs,ec⟩:=aD (tok1 (h1 x)).2
 rw[ec];rfl
theorem gT2{q:Nat}{l:List α}{us:List Value}{i p:Int}{x y:α}(hq:lk L q=some (.gh us (l.map λx=>D4 (f x))))(hg:lk L gS=none)(hqs:Nat.beq q gS=false)(h1:∀x,VX (f x)=true)(hU:∀i,i < l.length->U i=us.getD i undef)(gi:AI l i=some x)(gp:AI l p=some y)(hip:Nat.beq i.toNat p.toNat=false)
  (h:Gh P nt bx (Ct ((gS,.gh [U i.toNat,U p.toNat] [D4 (f x),D4 (f y)])::(q,.gh us (((l.map λx=>D4 (f x)).set i.toNat (.tok (U i.toNat))).set p.toNat (.tok (U p.toNat))))::L)) K):Gh P nt bx (Ct L) K:=by
 have hne:q≠gS:=λe=>by rw[e]at hqs;simp at hqs
 have hip':i.toNat≠p.toNat:=λe=>by rw[e]at hip;simp at hip
 rintro base St0 w0 a w ⟨St,B,hS,r1,r2,r3⟩
 have k2:=hS.slot q
 rw[Da hq]at k2
 have k2':Bb P w St (l.map λx=>D4 (f x)) us (B q):=k2
 obtain⟨β,k1,kk2,k3,k4⟩:=k2'.kN (hS.nodup q) (dq h1 l)
 have hlen:=k1.1
 rw[Aj]at hlen
 have hi:=Wn gi
 have hp:=Wn gp
 have hus:∀j z,l[j]? =some z->us[j]? =some (U j)∧Ow P w St (D4 (f z)) (U j) (β j):=λj z hz=>by
  have hj:=(Ce.1 hz).1
  have e1:us[j]? =some (U j):=by rw[hU j hj,AQ,Ad (by omega)];rfl
  exact⟨e1,(k1.2 j _ _ (by rw[BL,hz];rfl) e1).2⟩
 obtain⟨ui,oi⟩:=hus _ _ hi
 obtain⟨up,op⟩:=hus _ _ hp
 have m1:=(k1.fill ui (c:=.tok (U i.toNat)) rfl (fY (U7 h1 x) oi)).fill up (c:=.tok (U p.toNat)) rfl (fY (U7 h1 y) op)
 have hβ:∀j g,g∈(if j=p.toNat then([]:List Nat)else if j=i.toNat then []else β j)->g∈β j∧j≠i.toNat∧j≠p.toNat:=λj g hg=>by
  split at hg
  ·simp at hg
  ·split at hg
   ·simp at hg
   ·exact⟨hg,by assumption,by assumption⟩
 obtain⟨bb,hbb,m2⟩:∃bb,bb=_∧Bb P w St _ us bb:=⟨_,rfl,m1.row⟩
 refine h base St0 w0 a w ⟨St,upd (upd B q bb) gS (β i.toNat++β p.toNat),?_,r1,r2,r3⟩
 rw[Ed,Ed]
 refine K0 hS hne (by rw[P1,hg];rfl) (show Cd P w St (tm a) (.gh us _) _ bb from m2) (show Cd P w St (tm a) (.gh [U i.toNat,U p.toNat] _) _ (β i.toNat++β p.toNat)from⟨_,_,β i.toNat,β p.toNat,rfl,rfl,U7 h1 x,oi,_,_,β p.toNat,[],rfl,(AD _).symm,U7 h1 y,op,rfl,rfl⟩) ?_ ?_ (by rw[Da hq];rfl) rfl rfl rfl<;>subst hbb
 ·refine Ax.2 ⟨Pq (λj=>?_) (λj k hjk g hg hg'=>k4 j k hjk g (hβ j g hg).1 (hβ k g hg').1) _ _,Ax.2 ⟨k3 _,k3 _,λa ha b hb e=>k4 _ _ hip' a ha (e ▸ hb)⟩,λa ha b hb e=>?_⟩
  ·split
   ·exact AF
   ·split
    ·exact AF
    ·exact k3 j
  ·subst e
   obtain⟨j,_,_,hj⟩:=O1 ha
   obtain⟨q1,q2,q3⟩:=hβ j a hj
   rcases Ak.1 hb with hb|hb
   ·exact k4 j _ q2 a q1 hb
   ·exact k4 j _ q3 a q1 hb
 ·intro g hg
  left
  rcases Ak.1 hg with hg|hg
  ·obtain⟨j,_,_,hj⟩:=O1 hg
   exact kk2 j g (hβ j g hj).1
  ·rcases Ak.1 hg with hg|hg
   ·exact kk2 _ g hg
   ·exact kk2 _ g hg
theorem gJ2{q:Nat}{l:List α}{us:List Value}{i p:Int}{x y x' y':α}(hg:lk L gS=some (.gh [U i.toNat,U p.toNat] [D4 (f x'),D4 (f y')]))(hq:lk L q=some (.gh us (((l.map λx=>D4 (f x)).set i.toNat (.tok (U i.toNat))).set p.toNat (.tok (U p.toNat)))))(hqs:Nat.beq q gS=false)(h1:∀x,VX (f x)=true)(hU:∀i,i < l.length->U i=us.getD i undef)(gi:AI l i=some x)(gp:AI l p=some y)(hip:Nat.beq i.toNat p.toNat=false)
  (h:Gh P nt bx (Ct ((gS,.undef)::(q,.gh us ((Dl (Dl l i x') p y').map λx=>D4 (f x)))::L)) K):Gh P nt bx (Ct L) K:=by
 have hne:q≠gS:=λe=>by rw[e]at hqs;simp at hqs
 have hip':i.toNat≠p.toNat:=λe=>by rw[e]at hip;simp at hip
 rintro base St0 w0 a w ⟨St,B,hS,r1,r2,r3⟩
 have k2:=hS.slot q
 rw[Da hq]at k2
 have k2':Bb P w St _ us (B q):=k2
 have kS:=hS.slot gS
 rw[Da hg]at kS
 obtain⟨u1,us1,d1,d2',e1,e2,c1,o1,u2,us2,d2,d3,e3,e4,c2,o2,e5,e6⟩:=(show Bb P w St [D4 (f x'),D4 (f y')] _ (B gS)from kS)
 obtain⟨rfl,rfl⟩:=List.cons.inj e1
 obtain⟨rfl,rfl⟩:=List.cons.inj e3
 subst e6
 rw[AD]at e4
 rw[e4]at e2
 have hcell:(((l.map λx=>D4 (f x)).set i.toNat (.tok (U i.toNat))).set p.toNat (.tok (U p.toNat))).all V.Do=true:=by
  rw[Al]
  intro c hc
  rcases FW hc with hc|rfl
  ·rcases FW hc with hc|rfl
   ·exact Al.1 (dq h1 l) c hc
   ·rfl
  ·rfl
 obtain⟨β,k1,kk2,k3,k4⟩:=k2'.kN (hS.nodup q) hcell
 have hlen:=k1.1
 rw[Bx,Bx,Aj]at hlen
 have hi:=(Ce.1 (Wn gi)).1
 have hp:=(Ce.1 (Wn gp)).1
 have hus:∀j,j < l.length->us[j]? =some (U j):=λj hj=>by rw[hU j hj,AQ,Ad (by omega)];rfl
 have m1:=(k1.fill (hus _ hi) c1 o1).fill (hus _ hp) c2 o2
 rw[rF hip',<-List.map_set (f:=λx=>D4 (f x)),<-List.map_set (f:=λx=>D4 (f x))]at m1
 have hndS:=hS.nodup gS
 rw[e2]at hndS
 obtain⟨n1,n2,n3⟩:=Ax.1 hndS
 have hoff:∀j g,g∈β j->g∉d1∧g∉d2:=λj g hgm=>by
  have:=hS.apart q gS hne g (kk2 j g hgm)
  rw[e2,Ak,not_or]at this
  exact this
 have hβ:∀j g,g∈(if j=p.toNat then d2 else if j=i.toNat then d1 else β j)->(j=p.toNat∧g∈d2)∨(j=i.toNat∧g∈d1)∨g∈β j:=λj g hg=>by
  split at hg
  ·rename_i e;exact .inl ⟨e,hg⟩
  ·split at hg
   ·rename_i e;exact .inr (.inl ⟨e,hg⟩)
   ·exact .inr (.inr hg)
 obtain⟨bb,hbb,m2⟩:∃bb,bb=_∧Bb P w St _ us bb:=⟨_,rfl,m1.row⟩
 refine h base St0 w0 a w ⟨St,upd (upd B q bb) gS [],?_,r1,r2,r3⟩
 rw[Ed,Ed]
 refine K0 hS hne (by rw[Da hg];rfl) (show Cd P w St (tm a) (.gh us _) _ bb from m2) (show Cd P w St (tm a) .undef _ []from rfl) ?_ ?_ (by rw[Da hq];rfl) rfl rfl rfl<;>subst hbb
 ·rw[AD]
  refine Pq (λj=>?_) (λj k hjk g hg hg'=>?_) _ _
  ·split
   ·exact n2
   ·split
    ·exact n1
    ·exact k3 j
  ·rcases hβ j g hg with⟨q1,q2⟩|⟨q1,q2⟩|q2<;>rcases hβ k g hg' with⟨q3,q4⟩|⟨q3,q4⟩|q4
   ·exact hjk (q1.trans q3.symm)
   ·exact n3 g q4 g q2 rfl
   ·exact(hoff k g q4).2 q2
   ·exact n3 g q2 g q4 rfl
   ·exact hjk (q1.trans q3.symm)
   ·exact(hoff k g q4).1 q2
   ·exact(hoff j g q2).2 q4
   ·exact(hoff j g q2).1 q4
   ·exact k4 j k hjk g q2 q4
 ·intro g hg
  rw[AD]at hg
  obtain⟨j,_,_,hj⟩:=O1 hg
  rcases hβ j g hj with⟨_,q⟩|⟨_,q⟩|q
  ·exact .inr (by rw[e2];exact Av _ q)
  ·exact .inr (by rw[e2];exact AA _ q)
  ·exact .inl (kk2 j g q)
theorem hU2{l:List α}{us:List Value}{i p:Int}{x y:α}(hU:∀i,i < l.length->U i=us.getD i undef):∀j,j < (Dl (Dl l i x) p y).length->U j=us.getD j undef:=λj hj=>hU j (by simpa[Dl]using hj)
end
theorem ny{α:Type}{f:α->List V}{us:List Value}(h1:∀x,VX (f x)=true)(hd:∀x,DQ (f x)=true):∀(l:List α),I5 (.gh us (l.map λx=>D4 (f x)))=true
 |[]=>rfl
 |x::l=>by
  have h2:DQ (l.map λx=>D4 (f x))=true:=ny (us:=us) h1 hd l
  have h3:=hd x
  rw[(tok1 (h1 x)).1,DQ,Ac]at h3
  show DQ (D4 (f x)::l.map λx=>D4 (f x))=true
  rw[DQ,h3.1,h2]
  rfl
theorem UR{α:Type}:∀(l:List α) (k j:Nat),(CV k l)[j]? =(l[j]?).map λx=>(k+j,x)
 |[],_,_=>by simp[CV]
 |x::l,k,0=>by simp[CV]
 |x::l,k,j+1=>by
  rw[CV,DE,DE,UR l (k+1) j,show k+1+j=k+(j+1)from by omega]
theorem lm{α:Type}{l:List α}{i:Int}{a:Nat×α}(h:AI (CV 0 l) i=some a):a.1=i.toNat∧AI l i=some a.2:=by
 obtain⟨h1,h2,h3⟩:=Be h
 rw[UR,B6]at h3
 cases hx:l[i.toNat]? with
 |none=>rw[hx]at h3;cases h3
 |some x=>
  rw[hx]at h3
  cases h3
  refine⟨rfl,?_⟩
  rw[OZ]at h2
  unfold AI
  rw[AH h1]
  exact hx
section
variable {P:Program}{nt:Nat}{bx:List Nat}{K:PS->Prop}{L:PL}{α:Type}{f:α->List V}{U:Nat->Value}
theorem gT3{q:Nat}{l:List α}{us:List Value}{i p:Int}{a b:Nat×α}(hq:lk L q=some (.gh us (l.map λx=>D4 (f x))))(hg:lk L gS=none)(hqs:Nat.beq q gS=false)(h1:∀x,VX (f x)=true)(hU:∀i,i < l.length->U i=us.getD i undef)(ga:AI (CV 0 l) i=some a)(gb:AI (CV 0 l) p=some b)(hip:Nat.beq a.1 b.1=false)
  (h:Gh P nt bx (Ct ((gS,.gh [U a.1,U b.1] [D4 (f a.2),D4 (f b.2)])::(q,.gh us (((l.map λx=>D4 (f x)).set a.1 (.tok (U a.1))).set b.1 (.tok (U b.1))))::L)) K):Gh P nt bx (Ct L) K:=by
 obtain⟨e1,g1⟩:=lm ga
 obtain⟨e2,g2⟩:=lm gb
 rw[e1,e2]at hip h
 exact gT2 hq hg hqs h1 hU g1 g2 hip h
theorem gJ3{q:Nat}{l:List α}{us:List Value}{i p:Int}{a b:Nat×α}{x' y':α}(hg:lk L gS=some (.gh [U a.1,U b.1] [D4 (f x'),D4 (f y')]))(hq:lk L q=some (.gh us (((l.map λx=>D4 (f x)).set a.1 (.tok (U a.1))).set b.1 (.tok (U b.1)))))(hqs:Nat.beq q gS=false)(h1:∀x,VX (f x)=true)(hU:∀i,i < l.length->U i=us.getD i undef)(ga:AI (CV 0 l) i=some a)(gb:AI (CV 0 l) p=some b)(hip:Nat.beq a.1 b.1=false)
  (h:Gh P nt bx (Ct ((gS,.undef)::(q,.gh us ((Dl (Dl l i x') p y').map λx=>D4 (f x)))::L)) K):Gh P nt bx (Ct L) K:=by
 obtain⟨e1,g1⟩:=lm ga
 obtain⟨e2,g2⟩:=lm gb
 rw[e1,e2]at hip hg hq
 exact gJ2 hg hq hqs h1 hU g1 g2 hip h
end
theorem kn:∀{cs:List V}{i:Nat}{c:V},DQ cs=true->Oq c=true->DQ (cs.set i c)=true
 |[],_,_,_,_=>rfl
 |d::cs,0,c,h,hc=>by
  rw[DQ,Ac]at h
  rw[GU,DQ,hc,h.2];rfl
 |d::cs,i+1,c,h,hc=>by
  rw[DQ,Ac]at h
  rw[LW,DQ,h.1,kn h.2 hc];rfl
theorem AeT{α:Type}{f:α->List V}{us:List Value}(h1:∀x,VX (f x)=true)(hd:∀x,DQ (f x)=true)(l:List α){i j:Nat}{u v:Value}:I5 (.gh us (((l.map λx=>D4 (f x)).set i (.tok u)).set j (.tok v)))=true:=
 kn (kn (ny (us:=us) h1 hd l) rfl) rfl
theorem qIp{P:Program}{tb:Tb}{cns:List Nat}{L:PL}{K:PS->Prop}{s t:TypeId}{x y:Operand}{d:Nat}{α:Type}{f g:α->List V}{l:List α}{i:Int}{e:α}{n:Nat}(h:iaO tb L s x y=some (l.length,Nx (l.flatMap f),i,n))(he:∀x,Nx (f x)=g x)(hf:∀x,(g x).length=n)(hi:AI l i=some e)(k:K (Ct ((d,.adr (g e++(l.drop (i.toNat+1)).flatMap g) 0)::L))):Hw P tb cns ⟨some d,.indexAddr s x y,t,none⟩ (Ct L) K:=
 qI (by rw[h,QK he]) hf hi k
end Go.Proofs.YtaagdgjndpgdgaaGreatDoor
namespace Go.Proofs.YtaagdgjndpgdgaaGreatDoor
section
variable {P:Program}{nt:Nat}{base:Bs}{bx:List Nat}{St St0:Nat->Nat->Prop}{B:Nat->List Nat}{hand:List Nat}{σ:PS}{a:Act}{w w0:World}{K:PS->Prop}{L:PL}
theorem HSim.fact(h:HSim P nt bx base St B hand σ a w){s q:Nat}(hs:∃cs,CU (σ s)=some cs)(hq:CU (σ q)=none):HSim P nt bx base St (upd B q []) hand (upd σ q (.val s (tm a s))) a w:=
 have hne:∀b,(∃cs,CU (σ b)=some cs)->b≠q:=λb ⟨cs,e⟩ e'=>by rw[e',hq]at e;cases e
 have hin:∀r,∀g∈upd B q [] r,g∈B r:=λr g hg=>by
  by_cases e:r=q
  ·subst e;rw[upd_same]at hg;simp at hg
  ·rw[upd_ne _ _ e]at hg;exact hg
 {h with
  slot:=λr=>by
   by_cases e:r=q
   ·subst e;rw[upd_same,upd_same];exact⟨rfl,rfl⟩
   ·rw[upd_ne _ _ e,upd_ne _ _ e];exact h.slot r
  boxes:=λr cs e=>by
   by_cases e':r=q
   ·subst e';rw[upd_same]at e;cases e
   ·rw[upd_ne _ _ e']at e;exact h.boxes r cs e
  crefs:=λr b e=>by
   by_cases e':r=q
   ·subst e'
    rw[upd_same]at e
    simp only[DK,Ar]at e
    subst e
    rw[upd_ne _ _ (hne _ hs)];exact hs
   ·rw[upd_ne _ _ e']at e
    have:=h.crefs r b e
    rw[upd_ne _ _ (hne _ this)];exact this
  nodup:=λr=>by
   by_cases e:r=q
   ·subst e;rw[upd_same];exact AF
   ·rw[upd_ne _ _ e];exact h.nodup r
  apart:=λr t hrt g hg hg'=>h.apart r t hrt g (hin r g hg) (hin t g hg')
  hapart:=λr g hg=>h.hapart r g (hin r g hg)
  range:=λr g hg=>h.range r g (hin r g hg)}
theorem gFv{s:Nat}{cs:List V}(hs:lk L s=some (.box cs))(hq:lk L (gV s)=none)(h:∀u,Gh P nt bx (Ct ((gV s,.val s u)::L)) K):Gh P nt bx (Ct L) K:=by
 rintro base St0 w0 a w ⟨St,B,hS,r1,r2,r3⟩
 have h1:=hS.fact (s:=s) (q:=gV s) ⟨cs,by rw[Da hs];rfl⟩ (by rw[P1,hq];rfl)
 exact h (tm a s) base St0 w0 a w ⟨St,_,by rw[Ed];exact h1,r1,r2,r3⟩
end
def Tt:Nat->List Value->PS->PS
 |_,[],σ=>σ
 |m,u::us,σ=>upd (Tt (m+1) us σ) (gV m) (.val m u)
theorem XB{σ:PS}{q:Nat}:∀{us:List Value}{m:Nat},(∀j,m<=j->q≠gV j)->Tt m us σ q=σ q
 |[],_,_=>rfl
 |u::us,m,h=>by rw[Tt,upd_ne _ _ (h m (AW _)),XB λj hj=>h j (by omega)]
def Aa9(bx:List Nat)(m n:Nat):Bool:=(List.range n).all λi=>bx.contains (m+i)&&bx.contains (RC+(m+i))
section
variable {P:Program}{nt:Nat}{base:Bs}{bx:List Nat}{St:Nat->Nat->Prop}{a:Act}{w:World}
theorem ar{σ:PS}:∀{us:List Value}{m:Nat}{B:Nat->List Nat},HSim P nt bx base St B [] σ a w->(∀i u,us[i]? =some u->tm a (m+i)=u∧(∃cs,CU (σ (m+i))=some cs)∧m+i < 910000)->(∀j,m<=j->CU (σ (gV j))=none)->∃B',HSim P nt bx base St B' [] (Tt m us σ) a w
 |[],_,B,h,_,_=>⟨B,h⟩
 |u::us,m,B,h,hu,hg=>by
  obtain⟨B1,h1⟩:=ar (us:=us) (m:=m+1) h (λi v hv=>by
   have:=hu (i+1) v (by simpa using hv)
   rwa [show m+(i+1)=m+1+i from by omega]at this) (λj hj=>hg j (by omega))
  obtain⟨q1,q2,q3⟩:=hu 0 u rfl
  rw[Cb]at q1 q2 q3
  have e1:Tt (m+1) us σ m=σ m:=XB λj _=>by unfold gV;omega
  have e2:Tt (m+1) us σ (gV m)=σ (gV m):=XB λj hj=>by unfold gV;omega
  have:=h1.fact (s:=m) (q:=gV m) (by rw[e1];exact q2) (by rw[e2];exact hg m (AW _))
  rw[q1]at this
  exact⟨_,this⟩
end
section
variable {P:Program}{tb:Tb}
theorem Aba(htb:H5 P tb){f:FuncId}{fn:Func}{c:Code}{us:List Value}{css css':List (List V)}{args:List V}{r:V}(hf:P.funcs[f]? =some fn)(hb:fn.body=some c)(hname:(fn.name== "runtime.NumGoroutine")=false)(bx:List Nat)(hlen:args.length+css.length<=fn.ntmps)(hnt:fn.ntmps<=910000)(h0:Aa9 bx args.length css.length=true)(hargs:args.all Q8=true)
  (hn:(fn.results.toList.map Oo).Nodup) (hrp:r=.tup []∨Nt r=true) (h:MP P fn.ntmps bx c (Tt args.length us (HC (args++css.map V.box))) (λe σ=>(e=.ret∨e=.normal)∧bo tb σ fn.results.toList=some r∧((List.range css.length).map λi=>σ (args.length+i))=css'.map V.box)):V9 P f us css args css' r:=by
 refine⟨⟨fn,hf,by rw[hb];rfl,hname⟩,λw St bs0 vs hst hgl hrow hnd hrg hvs=>?_⟩
 obtain⟨hl,hat⟩:=args_at hvs
 have hul:=hrow.length
 have hss:((List.range css.length).map (args.length+ ·)).Nodup:=by
  unfold List.Nodup
  rw[E7]
  exact MI (λh e=>h (by omega)) (show(List.range css.length).Pairwise (· ≠ ·)from Gs)
 obtain⟨β,m1,m2,m3,m4⟩:=Xn (ss:=(List.range css.length).map (args.length+ ·)) hrow hnd hss (by simp)
 have hssm:∀s,s∈(List.range css.length).map (args.length+ ·)↔args.length<=s∧s < args.length+css.length:=λs=>by
  rw[BF]
  constructor
  ·rintro⟨i,hi,rfl⟩;rw[AL]at hi;omega
  ·rintro⟨h1,h2⟩;exact⟨s - args.length,AL.2 (by omega),by omega⟩
 have hbx:∀i,i < css.length->args.length+i∈bx∧RC+(args.length+i)∈bx:=λi hi=>by
  have:=Al.1 h0 i (AL.2 hi)
  simpa[Ac,Bk]using this
 have hini:∀s,s < args.length->HC (args++css.map V.box) s=(args[s]?).getD (.tup []):=λs hs=>by
  simp only[HC,BE hs]
 have hinb:∀s,args.length<=s->HC (args++css.map V.box) s=((css[s - args.length]?).map V.box).getD (.tup []):=λs hs=>by
  simp only[HC,BP hs,BL]
 refine Ka hf hb ?_
 have hsim:HSim P fn.ntmps bx ⟨λb=>b < w.heap.size∧b∉bs0,(List.range css.length).map λi=>(args.length+i,us.getD i undef)⟩ St (λs=>if args.length<=s∧s < args.length+css.length then β s else []) [] (HC (args++css.map V.box)) {tmps:=(vs++us).toArray++Array.replicate (fn.ntmps - (vs++us).toArray.size) undef,defers:=[]} w:=by
  refine
  {size:=by simp;omega
   defers:=rfl
   slot:=λs=>?_
   boxes:=λs cs e=>?_
   crefs:=λs b e=>?_
   nodup:=λs=>by
    split
    ·exact m3 s
    ·exact AF
   apart:=λs t hst k hk hk'=>by
    split at hk
    ·split at hk'
     ·rename_i q1 q2
      exact m4 s ((hssm s).2 q1) t ((hssm t).2 q2) hst k hk hk'
     ·simp at hk'
    ·simp at hk
   hnodup:=AF
   hapart:=λ_ k hk=>by simp
   range:=λs k hk=>by
    split at hk
    ·rename_i q1
     exact⟨λh=>h.2 (m2 s ((hssm s).2 q1) k hk),hrg k (m2 s ((hssm s).2 q1) k hk)⟩
    ·simp at hk
   hrange:=λk hk=>by simp at hk
   st:=hst
   gl:=hgl
   pin:=λv e=>by
    obtain⟨i,hi,rfl⟩:=BF.1 e
    rw[AL]at hi
    rw[Xa]
    refine⟨?_,hbx i hi⟩
    rw[BP (by omega),hl,Cv,AQ]}
  ·rw[Xa]
   by_cases hs:s < args.length
   ·rw[AE (by omega),hini s hs,BE (by omega)]
    obtain⟨v,hv,hr⟩:=hat s args[s] (Ad hs)
    rw[Ad hs,hv,Cl,Cl]
    exact(X8 (Al.1 hargs _ (Ag hs)) hr).slot
   ·rw[hinb s (by omega),BP (by omega),hl]
    by_cases hs2:s < args.length+css.length
    ·rw[AH ⟨by omega,hs2⟩,Ad (show s - args.length < css.length by omega),Ad (show s - args.length < us.length by omega)]
     simp only[BR,Cl]
     refine kG (m1 (s - args.length) s _ _ ?_ (Ad _) (Ad _))
     rw[BL,Fd (by omega),BR]
     congr 1;omega
    ·rw[AE (by omega),Bt (by omega),Bt (by omega)]
     exact⟨[],rfl,rfl,rfl⟩
  ·by_cases hs:s < args.length
   ·rw[hini s hs,Ad hs,Cl]at e
    have hp:=Al.1 hargs _ (Ag hs)
    cases hc:args[s]<;>rw[hc]at e hp<;>first|(cases hp;done)|(cases e;done)
   ·by_cases hs2:s < args.length+css.length
    ·have:=(hbx (s - args.length) (by omega)).1
     rwa [show args.length+(s - args.length)=s from by omega]at this
    ·rw[hinb s (by omega),Bt (by omega)]at e
     cases e
  ·by_cases hs:s < args.length
   ·rw[hini s hs,Ad hs,Cl]at e
    have hp:=Al.1 hargs _ (Ag hs)
    cases hc:args[s]<;>rw[hc]at e hp<;>first|(cases hp;done)|(cases e;done)
   ·rw[hinb s (by omega)]at e
    cases hc:css[s - args.length]? with
    |none=>rw[hc]at e;cases e
    |some cs=>rw[hc]at e;cases e
 obtain⟨B1,hsim1⟩:=ar (us:=us) (m:=args.length) hsim (λi u hu=>by
  have hi:i < css.length:=by have:=(Ce.1 hu).1;omega
  refine⟨?_,?_,by omega⟩
  ·rw[Xa,BP (by omega),hl,Cv,hu];rfl
  ·rw[hinb _ (by omega),Cv,Ad hi]
   exact⟨_,rfl⟩) (λj _=>by
  have:args.length+css.length<=gV j:=by unfold gV;omega
  rw[hinb _ (by omega),Bt (by omega)];rfl)
 have hrel:Rel P fn.ntmps bx _ St w (Tt args.length us (HC (args++css.map V.box))) _ w:=⟨St,B1,hsim1,BelowK.refl _ _,λ_ _ _=>CM,λ_ h=>h.1⟩
 refine EQ (h _ _ _ _ _ hrel) ?_
 rintro e a' w' ⟨σ',⟨he,hres,hbox⟩,St1,B',h1,h2,h3,h4⟩
 have hfin:a'.defers=[]∧∃v,(results fn a'.tmps).run P w'=.ok v w'∧wq P w St us bs0 css' r (.returned v) w':=by
  obtain⟨v,bs,q1,q2,q3,q4⟩:=bq htb h1 hn hres
  have hbs:bs=[]:=by
   rcases hrp with rfl|hrp
   ·obtain⟨_,_,h5⟩:=q2;exact h5.2
   ·cases r<;>first|exact q2.1|cases hrp
  subst hbs
  have hl':css'.length=css.length:=by have:=congrArg List.length hbox;simpa using this.symm
  have hbr:∀(n k:Nat) (ds:List (List V)) (vs':List Value),ds.length=n->vs'.length=n->(∀i d u,ds[i]? =some d->vs'[i]? =some u->σ' (args.length+(k+i))=.box d∧tm a' (args.length+(k+i))=u)->RR P w' St1 ds vs' (P8 B' (args.length+k) n):=by
   intro n
   induction n with
   |zero=>intro k ds vs' e1 e2 _;rw[IG.1 e1,IG.1 e2];exact⟨rfl,rfl⟩
   |succ n ih=>
    intro k ds vs' e1 e2 hh
    cases ds with
    |nil=>cases e1
    |cons d ds=>
     cases vs' with
     |nil=>cases e2
     |cons u vs'=>
      obtain⟨g1,g2⟩:=hh 0 d u rfl rfl
      have hs:=h1.slot (args.length+k)
      rw[Cb]at g1 g2
      rw[g1,g2]at hs
      refine⟨u,vs',B' (args.length+k),P8 B' (args.length+k+1) n,rfl,rfl,kG hs,?_⟩
      have:=ih (k+1) ds vs' (by simpa using e1) (by simpa using e2) (λi d' u' hd hu=>by
       have:=hh (i+1) d' u' (by simpa using hd) (by simpa using hu)
       rwa [show k+(i+1)=k+1+i from by omega]at this)
      rwa [show args.length+(k+1)=args.length+k+1 from by omega]at this
  have hk:∀k∈P8 B' (args.length+0) css'.length,(k∈bs0∨w.heap.size<=k)∧k < w'.heap.size:=λk hk=>by
   obtain⟨i,_,_,hm⟩:=O1 hk
   have hr:=h1.range i k hm
   refine⟨BW λhc=>?_,hr.2⟩
   rw[not_or]at hc
   exact hr.1 ⟨by omega,hc.1⟩
  refine⟨h1.defers,v,q1,v,P8 B' (args.length+0) css'.length,St1,rfl,h2,λb o hb hbn=>h3 b o ⟨hb,hbn⟩,h1.st,hbr css'.length 0 css' us rfl (by omega) (λi d u hd hu=>?_),q2,Pq h1.nodup h1.apart _ _,hk⟩
  have hi:i < css.length:=by have:=(Ce.1 hd).1;omega
  rw[B6]
  refine⟨?_,?_⟩
  ·have:=congrArg (λl=>l[i]?) hbox
   simp only[BL,Fd hi,BR,hd,Ar]at this
   exact this
  ·have:=(h1.pin (args.length+i,us.getD i undef) (BF.2 ⟨i,AL.2 hi,rfl⟩)).1
   rw[AQ,hu]at this
   exact this
 rcases he with rfl|rfl
 ·exact hfin
 ·exact hfin
end
section
variable {P:Program}{tb:Tb}
def Adu(tb:Tb)(rs:List ResultVar)(m n:Nat)(css':List (List V))(r:V)(e:Exit)(σ:PS):Prop:=(e=.ret∨e=.normal)∧bo tb σ rs=some r∧((List.range n).map λi=>σ (m+i))=css'.map V.box
theorem vt(htb:H5 P tb){f:FuncId}{nt:Nat}{bx:List Nat}{rs:List ResultVar}{l:LC}{us:List Value}{css css':List (List V)}{args:List V}{r:V}(hl:Lit P f nt bx rs l)(hlen:args.length+css.length<=nt)(hnt:nt<=910000)(hb:Aa9 bx args.length css.length=true)(hargs:args.all Q8=true)(hrp:r=.tup []∨Nt r=true)
  (h:LS P nt bx l (Tt args.length us (HC (args++css.map V.box))) (Adu tb rs args.length css.length css' r)):V9 P f us css args css' r:=by
 obtain⟨⟨fn,c,h1,h2,h3,rfl,rfl,h6,h7⟩,hn,hL⟩:=hl
 exact Aba htb h1 h2 h3 bx hlen hnt hb hargs hn hrp (h c h6 h7 hL)
end
def ZX(L:PL):List Nat->Option (List (List V))
 |[]=>some []
 |s::ss=>match lk L s with
  |some (.box cs)=>G (ZX L ss) λr=>some (cs::r)
  |_=>none
def jd(L:PL):List Nat->Option (List Value)
 |[]=>some []
 |s::ss=>match lk L (gV s)with
  |some (.val q u)=>Ua (Nat.beq q s) (G (jd L ss) λr=>some (u::r))
  |_=>none
theorem cv{L:PL}:∀{ss:List Nat}{css:List (List V)},ZX L ss=some css->ss.map (Ct L)=css.map V.box
 |[],_,h=>by cases h;rfl
 |s::ss,_,h=>by
  unfold ZX at h
  split at h
  ·rename_i cs hs
   obtain⟨r,h1,h⟩:=A4 h
   cases h
   rw[AB,AB,Da hs,cv h1]
  ·cases h
theorem je{L:PL}:∀{ss:List Nat}{us:List Value},jd L ss=some us->(ss.map λs=>Ct L (gV s))=(ss.zip us).map (λp=>V.val p.1 p.2)∧ss.length=us.length
 |[],_,h=>by cases h;exact⟨rfl,rfl⟩
 |s::ss,_,h=>by
  unfold jd at h
  split at h
  ·rename_i q u hs
   obtain⟨hq,h⟩:=DA h
   obtain⟨r,h1,h⟩:=A4 h
   cases h
   have hq:=CJ hq
   subst hq
   obtain⟨h2,h3⟩:=je h1
   exact⟨by rw[AB,List.zip_cons_cons,AB,Da hs,h2],by rw[Az,Az,h3]⟩
  ·cases h
def sN(L:PL):List Operand->Option (List Value)
 |[]=>some []
 |.tmp p::xs=>match lk L (gV p)with
  |some (.val q u)=>Ua (Nat.beq q p) (G (sN L xs) λr=>some (u::r))
  |_=>none
 |_::_=>none
theorem kL{L:PL}:∀{xs:List Operand}{us:List Value},sN L xs=some us->dN (Ct L) xs=some us
 |[],_,h=>by cases h;rfl
 |.tmp p::xs,_,h=>by
  unfold sN at h
  split at h
  ·rename_i q u hs
   obtain⟨hq,h⟩:=DA h
   obtain⟨r,h1,h⟩:=A4 h
   cases h
   have hq:=CJ hq
   subst hq
   unfold dN
   rw[Da hs]
   simp only[ED,kL h1,BR]
  ·cases h
 |.const _::_,_,h=>by cases h
 |.global _::_,_,h=>by cases h
 |.func _::_,_,h=>by cases h
def sfV(ss:List Nat):PL->Prop
 |[]=>True
 |(q,c)::L=>(ss.contains q=true∨I5 c=true)∧sfV ss L
theorem yvn{ss:List Nat}:sfV ss []:=trivial
theorem yvb{ss:List Nat}{q:Nat}{c:V}{L:PL}(h:ss.contains q=true)(k:sfV ss L):sfV ss ((q,c)::L):=⟨.inl h,k⟩
theorem yvc{ss:List Nat}{q:Nat}{c:V}{L:PL}(h:I5 c=true)(k:sfV ss L):sfV ss ((q,c)::L):=⟨.inr h,k⟩
theorem rG{ss:List Nat}:∀{L:PL},sfV ss L->∀q,q∉ss->I5 (Ct L q)=true
 |[],_,q,_=>rfl
 |(p,c)::L,⟨h1,h2⟩,q,hq=>by
  rw[Ed]
  by_cases e:q=p
  ·subst e;rw[upd_same];exact h1.resolve_left λh=>hq (Bk.1 h)
  ·rw[upd_ne _ _ e];exact rG h2 q hq
def r6:List Nat->List (List V)->PL->PL
 |s::ss,cs::css,L=>(s,.box cs)::r6 ss css L
 |_,_,L=>L
theorem mu{L:PL}:∀{ss:List Nat}{css:List (List V)},bU (Ct L) ss css=Ct (r6 ss css L)
 |[],_=>rfl
 |_::_,[]=>rfl
 |s::ss,cs::css=>by rw[bU,r6,Ed,mu]
def qc:List Nat->Bool
 |[]=>true
 |s::ss=> !ss.contains s&&qc ss
theorem lS:∀{ss:List Nat},qc ss=true->ss.Nodup
 |[],_=>AF
 |s::ss,h=>by
  rw[qc,Ac,AT,<-If,Bk]at h
  exact BQ.2 ⟨h.1,lS h.2⟩
theorem jS{L L1:PL}{S:List Nat}(h:Ww L S=some L1):kill (Rr L S) (Ct L)=Ct L1:=by
 obtain⟨L',h1,h⟩:=A4 h
 obtain⟨h2,h⟩:=DA h
 cases h
 obtain⟨i1,i2,i3⟩:=Sm h1
 funext q
 by_cases hq:q∈S
 ·have e1:=Da (i1 q hq)
  have hD:¬(Rr L S).contains q=true:=λh=>(Mk.1 h).2 hq
  unfold kill
  rw[AE hD,e1]
  cases hr:DK (Ct L1 q)with
  |none=>rfl
  |some b=>
   have hb:b∈S:=by
    obtain⟨p,hp,hpr⟩:=eQ hr
    have:=Al.1 h2 p hp
    rw[hpr,i3]at this
    exact Bk.1 this
   have hD':¬(Rr L S).contains b=true:=λh=>(Mk.1 h).2 hb
   simp only[AE hD']
 ·rw[i2 q hq]
  by_cases hk:q∈L.map (·.1)
  ·exact SW (Mk.2 ⟨hk,hq⟩)
  ·unfold kill
   rw[UY hk]
   split<;>rfl
section
variable {P:Program}{tb:Tb}{cns:List Nat}{L:PL}{K:PS->Prop}{t:TypeId}{x:Operand}
def zrA(σ:PS):List Operand->List V->Prop
 |[],as=>as=[]
 |x::xs,as=>∃a as',as=a::as'∧(Cs σ x).isArg=true∧dA (Cs σ x)=a∧zrA σ xs as'
theorem sh{σ:PS}:∀{xs:List Operand}{as:List V},zrA σ xs as->xs.all (λx=>(Cs σ x).isArg)=true∧(xs.map λx=>dA (Cs σ x))=as
 |[],_,h=>by cases h;exact⟨rfl,rfl⟩
 |x::xs,_,⟨a,as',e,h1,h2,h3⟩=>by
  obtain⟨h4,h5⟩:=sh h3
  subst e
  exact⟨by rw[Bp,h1,h4];rfl,by rw[AB,h2,h5]⟩
theorem zn:zrA (Ct L) [] []:=rfl
theorem za{c a:V}{xs:List Operand}{as:List V}(h1:sv L x=some c)(h2:dA c=a)(h3:zrA (Ct L) xs as):zrA (Ct L) (x::xs) (a::as):=⟨a,as,rfl,(by rw[(UJ h1).1];exact(UJ h1).2),(by rw[(UJ h1).1];exact h2),h3⟩
theorem sM{d:Option Nat}{f:FuncId}{args:List Operand}{us:List Value}{css css':List (List V)}{r:V}{L1:PL}(ss S:List Nat)(hb:ZX L ss=some css)(hv:jd L ss=some us)(hn:qc ss=true)(ha:args.all (λx=>(Cs (Ct L) x).isArg)=true)(hp:wr P (Ct L) f us css args css' r)
  (hk:Ww L (ss++S)=some L1) (hsf:sfV ss L1) (k:K (Uq (Ct (r6 ss css' L1)) d r)):SJ P d (.func (.func f) #[] us.toArray) args (Ct L) K:=by
 obtain⟨v1,v2⟩:=je hv
 refine⟨f,us,ss,css,css',r,Rr L (ss++S),rfl,cv hb,v1,v2,lS hn,ha,hp,λs hs=>?_,λq hq=>?_,?_⟩
 ·cases hc:(Rr L (ss++S)).contains s with
  |false=>rfl
  |true=>exact absurd (AA _ hs) (Mk.1 hc).2
 ·by_cases hD:(Rr L (ss++S)).contains q=true
  ·exact .inl hD
  ·right
   by_cases hm:q∈L.map (·.1)
   ·have hS:q∈ss++S:=BW λh=>hD (Mk.2 ⟨hm,h⟩)
    obtain⟨L',k1,k2⟩:=A4 hk
    obtain⟨_,k2⟩:=DA k2
    cases k2
    rw[Da ((Sm k1).1 q hS)]
    exact rG hsf q hq
   ·rw[UY hm];rfl
 ·rw[jS hk,mu]
  exact k
theorem qVz{d p:Nat}{f:FuncId}{args:Array Operand}{ts:Array TypeId}{us:List Value}{css css':List (List V)}{as:List V}{r:V}{L1:PL}(ss S:List Nat)(hl:lk L p=some (.tok (.func (.func f) #[] us.toArray)))(hb:ZX L ss=some css)(hv:jd L ss=some us)(hn:qc ss=true)(he:zrA (Ct L) args.toList as)(hp:V9 P f us css as css' r)
  (hk:Ww L (ss++S)=some L1) (hsf:sfV ss L1) (k:K (Ct ((d,r)::r6 ss css' L1))) (hc:cns.contains d=false:=by rfl):Hw P tb cns ⟨some d,.call {callee:=.value (.tmp p),args:=args,argTypes:=ts},t,none⟩ (Ct L) K:=by
 obtain⟨h1,h2⟩:=sh he
 show(match Cs (Ct L) (.tmp p)with
  |.fn f=>Mr P cns _ f args.toList (Ct L) K
  |.tok u=>VL P cns _ u args.toList (Ct L) K
  |_=>bE cns _ (Ct L) K)
 rw[show Cs (Ct L) (.tmp p)=.tok (.func (.func f) #[] us.toArray)from Da hl]
 exact⟨hc,sM ss S hb hv hn h1 (.inr (by rw[h2];exact hp)) hk hsf k⟩
theorem qMf{d:Nat}{f:FuncId}{fs caps:Array Operand}{us:List Value}(hf:fs.toList=[])(hc:sN L caps.toList=some us)(k:K (Ct ((d,.tok (.func (.func f) #[] us.toArray))::L))):Hw P tb cns ⟨some d,.makeFunc (.func f) fs caps,t,none⟩ (Ct L) K:=by
 show mkF f fs.toList caps.toList d (Ct L) K
 unfold mkF
 rw[hf,kL hc]
 exact k
end
def Wl:Nat->List Value->PL->PL
 |_,[],L=>L
 |m,u::us,L=>(gV m,.val m u)::Wl (m+1) us L
theorem oQ{L:PL}{σ:PS}(hL:∀p∈L,p.1 < 910000)(h:cT σ L):∀(us:List Value) (m:Nat),cT (Tt m us σ) (Wl m us L)
 |[],m=>h
 |u::us,m=>by
  have key:∀(us:List Value) (m:Nat) (σ:PS) (v:V),cT σ (Wl (m+1) us L)->cT (upd σ (gV m) v) (Wl (m+1) us L):=by
   have h0:∀(L':PL) (σ:PS) (q:Nat) (v:V),(∀p∈L',p.1≠q)->cT σ L'->cT (upd σ q v) L':=by
    intro L'
    induction L' with
    |nil=>intro _ _ _ _ _;trivial
    |cons p L' ih=>
     obtain⟨r,c⟩:=p
     intro σ q v hne hk
     exact⟨by rw[upd_ne _ _ (hne (r,c) BK)];exact hk.1,ih σ q v (λp hp=>hne p (AZ _ hp)) hk.2⟩
   intro us m σ v hk
   refine h0 _ _ _ _ (λp hp e=>?_) hk
   have:∀(us:List Value) (k:Nat),m < k->p∉Wl k us L:=by
    intro us
    induction us with
    |nil=>intro k _ hm;have:=hL p hm;rw[e]at this;unfold gV at this;omega
    |cons u us ih=>
     intro k hk hm
     rcases AC.1 hm with rfl|hm
     ·simp only[gV]at e;omega
     ·exact ih (k+1) (by omega) hm
   exact this us (m+1) (by omega) hp
  refine⟨?_,key us m _ _ (oQ hL h us (m+1))⟩
  rw[Tt,upd_same]
  exact kr
theorem pn:∀(cs:List V) (i:Nat),∀p∈Sl i cs,p.1 < i+cs.length
 |[],_,p,hp=>by simp[Sl]at hp
 |c::cs,i,p,hp=>by
  rw[Sl]at hp
  rcases AC.1 hp with rfl|hp
  ·simp
  ·have:=pn cs (i+1) p hp
   rw[Az];omega
theorem qiv{P:Program}{nt:Nat}{bx:List Nat}{l:LC}{Q:Exit->PS->Prop}{xs:List V}{us:List Value}{m:Nat}(hl:xs.length<=910000)(hr:okR (Wl m us (Sl 0 xs))=true)(k:LS P nt bx l (Ct (Wl m us (Sl 0 xs))) Q):LS P nt bx l (Tt m us (HC xs)) Q:=
 FU _ (oQ (λp hp=>by have:=pn xs 0 p hp;omega) (jQ xs 0 0) us m) hr k
end Go.Proofs.YtaagdgjndpgdgaaGreatDoor
