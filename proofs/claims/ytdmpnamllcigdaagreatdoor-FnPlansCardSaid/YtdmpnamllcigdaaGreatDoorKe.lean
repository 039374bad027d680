/- A machine on data, part 5: lists that are lent. Over no program; no conditions. -/
import Derived.Test.YtdmpnamllcigdaaGreatDoorKb
open Go.RowKit
set_option linter.all false
namespace Go.Proofs.YtdmpnamllcigdaaGreatDoor
section
def Tt(B:Nat->zN):Nat->Nat->zN
 |_,0=>[]
 |k,n+1=>B k++Tt B (k+1) n
def R3{B g}:∀{n k:Nat},g∈Tt B k n->∃i,k<=i∧i < k+n∧g∈B i
 |0,_,h=>by simp[Tt]at h
 |n+1,k,h=>by
  rw[Tt,Al]at h;rcases h with h|h
  ·exact⟨k,A5 _,aG,h⟩
  ·have⟨i,b,c,a⟩:=R3 h;exact⟨i,aG,aG,a⟩
def SC{B}(c:∀i,(B i).Nodup)(d:∀i j,i≠j->∀g∈B i,g∉B j):∀(n k:Nat),(Tt B k n).Nodup
 |0,_=>AZ
 |n+1,k=>by rw[Tt];refine AI.2 ⟨c k,SC c d n<|k+1,λa f b h e=>?_⟩;have⟨i,m,_,l⟩:=R3 h;exact d k i aG a f<|e ▸ l
section
variable {P:Program}{w:World}{St:Nat->Nat->Prop}
def cG{B}:∀(os:List V) (us:List Value) (k:Nat),us.length=os.length->(∀i c u,os[i]? =some c->us[i]? =some u->c.D3=true∧Ow P w St c u (B<|k+i))->Bx P w St os us (Tt B k os.length)
 |[],us,_,a,_=>⟨Fs.1 a,rfl⟩
 |c::os,[],_,a,_=>by cases a
 |c::os,u::us,k,a,h=>by
  have⟨b,d⟩:=h 0 c u rfl rfl;refine⟨u,us,B k,Tt B (k+1) os.length,rfl,rfl,b,d,cG os us (k+1) (by simpa using a) λi c' e f g=>?_⟩;have:=h (i+1) c' e (by simpa using f) (by simpa using g)
  rwa [show k+(i+1)=k+1+i from by omega]at this
end
section
variable {P:Program}{tb:Tb}
def slots(σ:PS)(n:Nat):List V:=(List.range n).map σ
def xo(bx:zN)(n:Nat):Bool:=(List.range n).all λi=>bx.contains i&&bx.contains (SQ+i)
def Abf(htb:LB P tb){f:FuncId}{fn:Func}{c:Code}{os args os':List V}{rb:Bool}(hf:P.funcs[f]? =some fn)(hb:fn.body=some c)(hname:(fn.name== "runtime.NumGoroutine")=false)(bx:zN)(hlen:os.length+args.length<=fn.ntmps)(h0:xo bx os.length=true)(hargs:args.all Na=true)
  (hn:(fn.results.toList.map MZ).Nodup) (hcs:GK os=true) (hob:os.all fL=true) (hcs':GK os'=true) (hcl:os'.all V.D3=true) (h:Pf P fn.ntmps bx c (Hm<|os++args.map QK) (λe σ=>(e=.ret∨e=.normal)∧cD tb σ fn.results.toList=some (.bool rb)∧slots σ os.length=os')):We P f [] os args os' (.bool rb):=by
 refine⟨⟨fn,hf,by rw[hb];rfl,hname⟩,λw St us bs0 vs1 vs hst hgl hrow hnd hrg hv1 hvs=>?_⟩;cases hv1;have hN:∀b o,(St b o∧b∉bs0)->(b < w.heap.size∧b∉bs0):=λb o h=>⟨hst b o h.1,h.2⟩
 have hvs0:=RW.OP (N:=λb=>b < w.heap.size∧b∉bs0) hN hargs hvs;have hvs':RW w (λb o=>St b o∨(b < w.heap.size∧b∉bs0)) (args.map QK) vs:=hvs0.mono (λb o h=>h.imp (·.1) id)<|λ_ _ _=>rfl
 have hst':∀b o,(St b o∨(b < w.heap.size∧b∉bs0))->b < w.heap.size:=λb o h=>h.elim (hst b o) (·.1)
 have hrow':Bx P w (λb o=>St b o∨(b < w.heap.size∧b∉bs0)) os us bs0:=Bx.kept os hcs hrow<|λk hk=>⟨rfl,λo=>⟨λh=>h.elim id<|λh=>absurd hk h.2,.inl⟩⟩
 have hpl:(args.map QK).all Pz=true:=by rw[Mi,Aq];exactλx hx=>eE<|Aq.1 hargs x hx
 have⟨hl,hat⟩:=args_at hvs';rw[Ai]at hl;have hul:=Bx.length hrow;have⟨β,k1,k2,k3,k4⟩:=V8 hrow' hnd;have hbx:∀i,i < os.length->i∈bx∧SQ+i∈bx:=λi hi=>by have:=Aq.1 h0 i<|Ao.2 hi;simpa[Ab,Ag]using this
 have hin:∀s,s < os.length->∃c u,os[s]? =some c∧us[s]? =some u∧Hm (os++args.map QK) s=c∧fL c=true:=λs hs=>by refine⟨os[s],us[s]'aG,Af hs,Af _,?_,Aq.1 hob _<|Ae hs⟩;simp only[Hm,Cc hs,Af hs,Bz]
 have hout:∀s,¬s < os.length->Hm (os++args.map QK) s=(((args.map QK)[s - os.length]?).getD<|.tup []):=λs hs=>by simp only[Hm,CF (Kk hs)]
 refine J4 hf hb ?_
 have hrel:Rel P fn.ntmps bx ⟨λb=>b < w.heap.size∧b∉bs0,(List.range os.length).map λi=>(i,us.getD i undef)⟩ (λb o=>St b o∨(b < w.heap.size∧b∉bs0)) w (Hm<|os++args.map QK) {tmps:=(us++vs).toArray++Array.replicate (fn.ntmps - (us++vs).toArray.size) undef,defers:=[]} w:=by
  refine⟨_,λs=>if s < os.length then β s else [],?_,BelowK.refl _ _,λ_ _ _=>Ea,λ_ h=>h.1⟩;refine
  {size:=by simp;omega
   defers:=rfl
   slot:=λs=>?_
   boxes:=λs cs e=>?_
   crefs:=λs b e=>?_
   nodup:=λs=>by
    split
    ·exact k3 s
    ·exact AZ
   apart:=λs t hst k hk hk'=>by
    split at hk
    ·split at hk'
     ·exact k4 s t hst k hk hk'
     ·simp at hk'
    ·simp at hk
   hnodup:=AZ
   hapart:=λ_ k hk=>by simp
   range:=λs k hk=>by
    split at hk
    ·exact⟨λh=>h.2<|k2 s k hk,hrg k<|k2 s k hk⟩
    ·simp at hk
   hrange:=λk hk=>by simp at hk
   st:=hst'
   gl:=hgl.of (λb hb o=>.inl<|hb o)<|λ_ _ _=>rfl
   pin:=λv e=>by obtain⟨i,hi,rfl⟩:=Aw.1 e;rw[Ao]at hi;rw[WQ];refine⟨?_,hbx i hi⟩;simp only[Cc (show i < us.length by omega),AF]}
  ·rw[WQ];by_cases hs:s < os.length
   ·have⟨c,u,q1,q2,q3,q4⟩:=hin s hs;rw[Az hs,q3,Cc (show s < us.length by omega),q2,Bz];exact(k1 s c u q1 q2).slot
   ·rw[AA hs,hout s hs,CF (show us.length<=s by omega),hul];cases hc:(args.map QK)[s - os.length]? with
    |none=>
     have:vs[s - os.length]? =none:=by rw[HF,Ai]at hc;rw[HF];omega
     simp only[this,Qv];exact⟨[],rfl,rfl,rfl⟩
    |some c=>have⟨v,hv,hr⟩:=hat (s - os.length) c hc;simp only[hv,Bz];exact(Yx (Aq.1 hpl c<|B4 hc) hr).slot
  ·by_cases hs:s < os.length
   ·have⟨c,u,q1,q2,q3,q4⟩:=hin s hs;exact(hbx s hs).1
   ·rw[hout s hs]at e;cases hc:(args.map QK)[s - os.length]? with
    |none=>rw[hc]at e;cases e
    |some c=>rw[hc]at e;have hp:=Aq.1 hpl c<|B4 hc;simp only[Bz]at e;cases c<;>first|(cases hp;done)|(cases e;done)
  ·by_cases hs:s < os.length
   ·have⟨c,u,q1,q2,q3,q4⟩:=hin s hs;rw[q3]at e;cases c<;>first|(cases q4;done)|(cases e;done)
   ·rw[hout s hs]at e;cases hc:(args.map QK)[s - os.length]? with
    |none=>rw[hc]at e;cases e
    |some c=>rw[hc]at e;have hp:=Aq.1 hpl c<|B4 hc;simp only[Bz]at e;cases c<;>first|(cases hp;done)|(cases e;done)
 refine HT (h _ _ _ _ _ hrel) ?_;rintro e a' w' ⟨σ',⟨he,hres,hbox⟩,St1,B',h1,h2,h3,h4⟩
 have hfin:a'.defers=[]∧∃v,(results fn a'.tmps).run P w'=.ok v w'∧Aja P w St us bs0 os' (.bool rb) (.returned v) w':=by
  have⟨v,bs,q1,q2,q3,q4⟩:=aQ htb h1 hn hres;have hl':os'.length=os.length:=by rw[<-hbox];simp[slots]
  have hk:∀k∈Tt B' 0 os'.length,(k∈bs0∨w.heap.size<=k)∧k < w'.heap.size:=λk hk=>by have⟨i,_,_,hm⟩:=R3 hk;have hr:=h1.range i k hm;refine⟨Bp λhc=>?_,hr.2⟩;rw[not_or]at hc;exact hr.1 ⟨aG,hc.1⟩
  have hrow2:Bx P w' St1 os' us (Tt B' 0 os'.length):=by
   refine cG os' us 0 aG λi c u hc hu=>?_
   have hi:i < os.length:=by have:=(Cx.1 hc).1;omega
   have hcc:V.D3 c=true:=Aq.1 hcl c<|B4 hc;have e1:σ' i=c:=by rw[<-hbox]at hc;simp only[slots,BS,C8 hi,BP,Av]at hc;exact hc
   have e2:tm a' i=u:=by have:=(h1.pin (i,us.getD i undef)<|Aw.2 ⟨i,Ao.2 hi,rfl⟩).1;rw[AF,hu]at this;exact this
   have hs:=h1.slot i;rw[e1,e2]at hs;rw[C9];refine⟨hcc,?_⟩;cases c<;>first|exact hs|cases hcc
  refine⟨h1.defers,v,q1,v,Tt B' 0 os'.length,λb o=>(b < w.heap.size∧b∉bs0∧St b o)∨((w.heap.size<=b∨b∈bs0)∧St1 b o),rfl,h2,λb o hb hbn=>?_,λb o hh=>?_,?_,⟨rfl,q2.2⟩,SC h1.nodup h1.apart _ _,hk⟩
  ·exact⟨λhh=>hh.elim (·.2.2)<|λhh=>hh.1.elim (λh=>absurd hb aG)<|λh=>absurd h hbn,λhh=>.inl ⟨hb,hbn,hh⟩⟩
  ·exact hh.elim (λhh=>BV hh.1 h2.size)<|λhh=>h1.st b o hh.2
  ·exact Bx.kept os' hcs' hrow2<|λk hk'=>⟨rfl,λo=>⟨λhh=>hh.elim (λhh=>(hk k hk').1.elim (λh=>absurd h hh.2.1)<|λh=>absurd hh.1 aG) (·.2),λhh=>.inr ⟨(hk k hk').1.symm,hh⟩⟩⟩
 rcases he with rfl|rfl
 ·exact hfin
 ·exact hfin
def Al4(tb:Tb)(rs:List ResultVar)(n:Nat)(a:List V)(r:V)(e:Exit)(σ:PS):Prop:=(e=.ret∨e=.normal)∧cD tb σ rs=some r∧slots σ n=a
def xn(i:LB P tb){f:FuncId}{nt:Nat}{bx:zN}{rs:List ResultVar}{l:LC}{os a b:List V}{n:Bool}(o:Lit P f nt bx rs l)(e:os.length+a.length<=nt)(p:xo bx os.length=true)(d:a.all Na=true)(j:GK os=true)(k:os.all fL=true)(g:GK b=true)(m:b.all V.D3=true)
  (h:LS P nt bx l (Hm<|os++a.map QK) (Al4 tb rs os.length b<|.bool n)):We P f [] os a b (.bool n):=by
 obtain⟨⟨x,c,q,r,s,rfl,rfl,t,u⟩,v,w⟩:=o;exact Abf i q r s bx e p d v j k g m<|h c t u w
end
def tD{L}:∀{xs:List Operand}{us:List Value},xs.map (Tw L)=us.map (λu=>some<|V.tok u)->xs.map (CP<|Cz L)=us.map V.tok
 |[],[],_=>rfl
 |[],_::_,e=>by cases e
 |_::_,[],e=>by cases e
 |x::xs,u::us,e=>by simp only[AP,Dk]at e;rw[AP,AP,Es e.1,tD e.2]
section
variable {P:Program}{tb:Tb}{cns:zN}{L:PL}{K:PS->Prop}{t:TypeId}
def qZ{d f args ts us ys os as1 as os' r L1}(S:zN)(zs xs:List Operand)(ha:args.toList=zs++(xs++ys))(hne:xs.isEmpty=false)(hs:lk L gS=some (.gh us os))(hm:xs.map (Tw L)=us.map (λu=>some<|V.tok u))(hx:(!S.contains gS&&(zs++ys).all (AlR S))=true)(he1:erA (Cz L) zs as1)(he:erA (Cz L) ys as)(hd:GK os=true)(hp:We P f as1 os as os' r)(hk:V2 L S=some L1)(hsf:sfY L1)(k:K (Cz<|(d,r)::(gS,.gh us os')::L1))(hc:cns.contains d=false:=by rfl):
  Hb P tb cns ⟨some d,.call {callee:=.value (.func f),args:=args,argTypes:=ts},t,none⟩ (Cz L) K:=by
 have⟨h1,h2⟩:=Zt he;subst h2;have⟨h3,h4⟩:=Zt he1;subst h4;rw[Ab,At]at hx;show JW P cns _ f args.toList (Cz L) K;unfold JW;rw[AA (by simpa using hc)];cases xs with
 |nil=>cases hne
 |cons x xs=>
 refine .inr<|.inr<|.inr<|.inl ⟨zs,x,xs,ys,us,os,os',r,UX L<|gS::S,ha,tD hm,C6 hs,hd,?_,hp,?_,λq hq=>?_,?_⟩
 ·rw[Aq]at h1 h3⊢;intro x hxm;rw[Ab];refine⟨(Al.1 hxm).elim (h3 x)<|h1 x,?_⟩;have:=Aq.1 hx.2 x hxm;unfold AlR at this;split at this
  ·rename_i q;simp only[pQ,At];cases hc:(UX L<|gS::S).contains q with
   |false=>rfl
   |true=>exact absurd (AW _<|by simpa using this) (O7.1 hc).2
  ·rfl
  ·rfl
  ·rfl
  ·cases this
 ·cases hc:(UX L<|gS::S).contains gS with
  |false=>rfl
  |true=>exact absurd BD (O7.1 hc).2
 ·by_cases hD:(UX L<|gS::S).contains q=true
  ·exact .inl hD
  ·right;by_cases hm:q∈L.map (·.1)
   ·have hS:q∈S:=Bp λh=>hD (O7.2 ⟨hm,λh'=>(AL.1 h').elim hq h⟩)
    have⟨L',k1,k2⟩:=Bc hk;have⟨_,k2⟩:=Em k2;cases k2;rw[C6 ((V1 k1).1 q hS)];exact lO hsf q
   ·rw[Yp hm];rfl
 ·have e4:upd (kill (UX L<|gS::S)<|Cz L) gS (.gh us os')=Cz ((gS,.gh us os')::L1):=by
   rw[EY];funext q;by_cases hq:q=gS
   ·subst hq;rw[upd_same,upd_same]
   ·rw[upd_ne _ _ hq,upd_ne _ _ hq];exact cu hk hq
  show K (upd (upd (kill (UX L<|gS::S)<|Cz L) gS<|.gh us os') d r);rw[e4];exact k
end
end
section
def tE(U:Nat->Value)(j:Nat):List V:=[.tok (U j)]
def ztE{U}(j:Nat):(tE U j).length=1:=rfl
def dtE{U}(j:Nat):Ee (tE U j)=true:=rfl
def Ro{α:Type}(l:List α):zN:=(HG 0 l).map (·.1)
def lj(n:Nat):zN->zN->Bool
 |[],_=>true
 |j::J,seen=>(Nat.blt j n&& !seen.contains j)&&lj n J (j::seen)
def Lz{α:Type}(l:List α)(J:zN):List α:=J.flatMap λj=>(l[j]?).toList
def ZF:List V->Bool
 |[.own _ _ _]=>true
 |_=>false
def sP:∀{ds:List V},ZF ds=true->∃e n cs,ds=[.own e n cs]
 |[],h=>by cases h
 |[c],h=>by cases c<;>first|exact⟨_,_,_,rfl⟩|cases h
 |c::d::ds,h=>by cases c<;>cases h
def tok1{ds}(h:ZF ds=true):ds=[FR ds]∧fL (FR ds)=true:=by obtain⟨e,n,cs,rfl⟩:=sP h;exact⟨rfl,rfl⟩
def fM{c}(h:fL c=true):∃e n cs,c=.own e n cs:=by cases c<;>first|exact⟨_,_,_,rfl⟩|cases h
def jA{α:Type}{l:List α}:∀{J a:zN},lj l.length J a=true->(Lz l J).length=J.length
 |[],_,_=>rfl
 |j::J,a,h=>by
  simp only[lj,Ab]at h;have b:j < l.length:=by simpa[Nat.blt_eq]using h.1.1
  have:=jA h.2;unfold Lz at this⊢;rw[AR,An,this,Af b];simp;omega
section
variable {P:Program}{w:World}{St:Nat->Nat->Prop}{α:Type}{f:α->List V}{U:Nat->Value}
def nN(d:∀x,ZF (f x)=true):∀(L:List (Nat×α)) {xs:List Value}{b:zN},Bx P w St (L.flatMap<|pE f U) xs b->Bx P w St ((L.map (·.1)).flatMap<|tE U) xs b
 |[],_,_,h=>h
 |p::L,_,_,h=>by
  have⟨e,n,cs,g⟩:=sP<|d p.2;rw[AR]at h;have e2:pE f U p=[.pin (U p.1) n (ON cs)]:=by unfold pE;rw[g];rfl
  rw[e2]at h;have⟨u,a,b1,b2,i,j,m,⟨k,c⟩,l⟩:=h;rw[AP,AR];exact⟨u,a,b1,b2,i,j,rfl,⟨k,c.1,c.1 ▸ c.oneCell⟩,nN d L l⟩
def ym(A:∀x,ZF (f x)=true){l:List α}{us:List Value}{bs:zN}(B:Bx P w St (l.map λx=>FR<|f x) us bs)(G:bs.Nodup)(H:∀i,i < l.length->U i=us.getD i undef):
  ∀(J:zN) {xs:List Value}{m:zN},lj l.length J []=true->Bx P w St (J.flatMap<|tE U) xs m->∃b',Bx P w St ((Lz l J).flatMap f) xs b'∧b'.Nodup∧∀g∈b',g∈bs:=by
 have⟨β,I,K,L,M⟩:=V8 B G;have o:=B.length;rw[Ai]at o
 have r:∀(J c:zN) {xs:List Value}{m:zN},lj l.length J c=true->Bx P w St (J.flatMap<|tE U) xs m->
   ∃b',Bx P w St ((Lz l J).flatMap f) xs b'∧b'.Nodup∧(∀g∈b',g∈bs)∧∀i∈c,∀g∈β i,g∉b':=by
  intro J;induction J with
  |nil=>intro c xs m _ h;exact⟨[],⟨h.1,rfl⟩,AZ,nF,nF⟩
  |cons j J N=>
   intro c xs m d h;rw[AR]at h;have⟨u,s,b1,b2,t,C,D,⟨q4,O,q6⟩,Q⟩:=h;simp only[lj,Ab,At]at d;have⟨⟨g1,g2⟩,R⟩:=d;have v:j < l.length:=by simpa[Nat.blt_eq]using g1
   have⟨b',S,T,W,F⟩:=N (j::c) R Q;have y:us[j]? =some u:=by have:=H j v;rw[<-O]at this;rw[this,AF,Af aG];rfl
   have p:=I j _ _ (by rw[BS,Af v];rfl) y;refine⟨β j++b',?_,?_,?_,?_⟩
   ·unfold Lz;rw[AR,Dw,Af v];have X:([l[j]]:List α).flatMap f=[FR (f l[j])]:=by rw[AR,Ip,A7];exact(tok1<|A _).1
    show Bx P w St (([l[j]]:List α).flatMap f++_) xs _;rw[X,t];have⟨e,n,cs,Y⟩:=fM (tok1<|A l[j]).2;exact⟨u,s,β j,b',rfl,rfl,by rw[Y];rfl,p,S⟩
   ·refine AI.2 ⟨L j,T,λa Z b hb e=>?_⟩;subst e;exact F j nF a Z hb
   ·intro g k;rcases Al.1 k with k|k
    ·exact K j g k
    ·exact W g k
   ·intro i hi g k q;rcases Al.1 q with q|q
    ·have z:i≠j:=λe=>by
      subst e;have:c.contains i=true:=by simpa using hi
      rw[this]at g2;cases g2
     exact M i j z g k q
    ·exact F i (by simp[hi]) g k q
 intro J xs m d h;have⟨b',t,C,D,_⟩:=r J [] d h;exact⟨b',t,C,D⟩
def lw(h1:∀x,ZF (f x)=true){e:TypeId}{J:zN}{v:Value}{b1:zN}{l:List α}{us:List Value}{bs:zN}(h:Ow P w St (.own e J.length<|J.flatMap<|tE U) v b1)(ht:Bx P w St (l.map λx=>FR<|f x) us bs)(hn:bs.Nodup)
  (hU:∀i,i < l.length->U i=us.getD i undef) (hok:lj l.length J []=true) (hb1:b1.Nodup) (hd:∀g∈b1,g∉bs):∃b',Ow P w St (.own e (Lz l J).length<|(Lz l J).flatMap f) v b'∧b'.Nodup∧∀g∈b',g∈b1∨g∈bs:=by
 obtain⟨hl,xs,bs',hx,hr,rfl,hst,h0⟩:=h;obtain⟨n1,n2,n3⟩:=AI.1 hb1;obtain⟨b',q1,q2,q3⟩:=ym h1 ht hn hU J hok hr;have hlen:=jA hok;refine⟨v.ownBlock.toList++b',⟨by rw[hlen];exact hl,xs,b',by rw[hlen];exact hx,q1,rfl,by rw[hlen];exact hst,λhz=>?_⟩,?_,?_⟩
 ·have:Lz l J=[]:=BG hz;rw[this];rfl
 ·refine AI.2 ⟨n1,q2,λa ha b hb e=>?_⟩;subst e;exact hd a (AD _ ha)<|q3 a hb
 ·intro g hg;rcases Al.1 hg with hg|hg
  ·exact .inl<|AD _ hg
  ·exact .inr<|q3 g hg
end
section
variable {P:Program}{nt:Nat}{bx:zN}{σ:PS}{K:PS->Prop}{L:PL}{α:Type}{f:α->List V}{U:Nat->Value}{e:TypeId}
def rQ{s c c'}(g:σ s=c)(W:∀w a t v bs,CC P w a t c v bs->CC P w a t c' v bs)(i:(DC c').isSome=(DC c).isSome)(b:Ex c'=none)(h:Gh P nt bx (upd σ s c') K):Gh P nt bx σ K:=
 kM g (λw a t v bs h j=>⟨[],bs,nF,λg d=>d,j,(W w a t v bs h).mono (λ_ _ h=>.inl h) (λ_ _ _=>rfl) (λg d=>⟨rfl,λo=>⟨λh=>h.elim id (λh=>by simp at h),.inl⟩⟩)<|λ_ _=>rfl⟩) i b h
def gWl{s:Nat}{l:List (Nat×α)}(hs:lk L s=some (.own e l.length<|l.flatMap<|pE f U))(h1:∀x,ZF (f x)=true)(h:Gh P nt bx (Cz<|(s,.own e (l.map (·.1)).length<|(l.map (·.1)).flatMap<|tE U)::L) K):Gh P nt bx (Cz L) K:=by refine rQ (c':=.own e (l.map (·.1)).length<|(l.map (·.1)).flatMap<|tE U) (C6 hs) (λw St t v bs hh=>?_) rfl rfl (by rw[EY]at h;exact h);obtain⟨hl,xs,bs',hx,hr,hb,hst,h0⟩:=(show Ow P w St _ v bs from hh);refine⟨by rw[Ai];exact hl,xs,bs',by rw[Ai];exact hx,nN h1 l hr,hb,by rw[Ai];exact hst,λhz=>?_⟩;have:l=[]:=BG (by rw[Ai]at hz;exact hz);subst this;rfl
def gWt{s u n cs}(b:lk L s=some (.pin u n cs))(h:Gh P nt bx (Cz<|(s,.tok u)::L) K):Gh P nt bx (Cz L) K:=by refine rQ (c':=.tok u) (C6 b) (λw c t v bs d=>?_) rfl rfl (by rw[EY]at h;exact h);have⟨g,a⟩:=(show Ow P w c (.pin u n cs) v bs from d);exact⟨g,a.1,(show v=u from a.1) ▸ a.oneCell⟩
def gTj{s q l us J}(n:lk L s=some (.own e J.length<|J.flatMap<|tE U))(o:lk L q=some (.gh us<|l.map λx=>FR<|f x))(c:Nat.beq s q=false)(t:∀x,ZF (f x)=true)(u:∀i,i < l.length->U i=us.getD i undef)(k:lj l.length J []=true)
  (h:Gh P nt bx (Cz<|(q,.undef)::(s,.own e (Lz l J).length<|(Lz l J).flatMap f)::L) K):Gh P nt bx (Cz L) K:=by
 have d:s≠q:=λe=>by rw[e]at c;simp at c
 rintro base St0 v a w ⟨m,B,b,y,z,A⟩;have p:=b.slot s;rw[C6 n]at p;have r:=b.slot q;rw[C6 o]at r;have⟨b',C,D,F⟩:=lw t (show Ow P w m _ _ (B s)from p) r (b.nodup q) u k (b.nodup s)<|λg j=>b.apart s q d g j
 refine h base St0 v a w ⟨m,upd (upd B s b') q [],?_,y,z,A⟩;rw[EY,EY,show upd (upd (Cz L) s<|V.own e (Lz l J).length<|(Lz l J).flatMap f) q .undef=upd (upd (Cz L) s<|V.own e (Lz l J).length<|(Lz l J).flatMap f) q .undef from rfl];exact KE b d (by rw[C6 o];rfl) C (show CC P w m (tm a) .undef _ []from rfl) (by rw[A7];exact D) (λg j=>by rw[A7]at j;exact F g j) (by rw[C6 n];rfl) rfl rfl rfl
def af{l:List α}{i:Int}{x:α}(h:AU l i=some x):l[i.toNat]? =some x:=by obtain⟨b,c,a⟩:=B9 h;exact a
end
section
variable {P:Program}{w:World}{St:Nat->Nat->Prop}
def X7(P:Program)(w:World)(St:Nat->Nat->Prop)(cs:List V)(us:List Value)(β:Nat->zN):Prop:=
 us.length=cs.length∧∀j c u,cs[j]? =some c->us[j]? =some u->c.D3=true∧Ow P w St c u (β j)
def X7.fill{cs us β}(h:X7 P w St cs us β){i:Nat}{u:Value}{c:V}{d:zN}(f:us[i]? =some u)(g:c.D3=true)(k:Ow P w St c u d):X7 P w St (cs.set i c) us (λj=>if j=i then d else β j):=by
 refine⟨by rw[By];exact h.1,λj c' l a b=>?_⟩;rw[FG]at a;by_cases e:i=j
 ·subst e;rw[Az rfl]at a;split at a
  ·cases a;rw[f]at b;cases b;dsimp only;rw[Az rfl];exact⟨g,k⟩
  ·cases a
 ·rw[AA e]at a;dsimp only;rw[AA (λe':j=i=>e e'.symm)];exact h.2 j c' l a b
def X7.row{cs us β}(h:X7 P w St cs us β):Bx P w St cs us (Tt β 0 cs.length):=
 cG cs us 0 h.1 λi c u a b=>by rw[C9];exact h.2 i c u a b
def mu{c u b}(a:c.D3=true)(h:Ow P w St c u b):Ow P w St (.tok u) u []:=
 ⟨rfl,rfl,(Ow.rd c h<|by cases c<;>first|rfl|cases a).oneCell⟩
def Bx.rh{cs us bs}(h:Bx P w St cs us bs)(b:bs.Nodup)(d:cs.all V.D3=true):∃β,X7 P w St cs us β∧(∀i,∀g∈β i,g∈bs)∧(∀i,(β i).Nodup)∧∀i j,i≠j->∀g∈β i,g∉β j:=by have⟨β,e,f,k,l⟩:=V8 h b;exact⟨β,⟨h.length,λj c u a m=>⟨Aq.1 d c<|B4 a,e j c u a m⟩⟩,f,k,l⟩
end
def zg{β:Type}{cs:List β}{i p:Nat}{a b c d:β}(h:i≠p):(((cs.set i a).set p b).set i c).set p d=(cs.set i c).set p d:=by
 apply JD;intro j;simp only[FG,By];by_cases e:p=j
 ·simp[e]
 ·by_cases e2:i=j
  ·subst e2;simp[e]
  ·simp[e,e2]
section
variable {P:Program}{nt:Nat}{bx:zN}{K:PS->Prop}{L:PL}{α:Type}{f:α->List V}{U:Nat->Value}
def jL(a:∀x,ZF (f x)=true)(l:List α):(l.map λx=>FR<|f x).all V.D3=true:=by rw[Mi,Aq];intro x _;have⟨e,n,cs,b⟩:=fM (tok1<|a x).2;show V.D3 (FR<|f x)=true;rw[b];rfl
def YI(a:∀x,ZF (f x)=true)(x:α):(FR<|f x).D3=true:=by have⟨e,n,cs,b⟩:=fM (tok1<|a x).2;rw[b];rfl
def gT2{q:Nat}{l:List α}{us:List Value}{i p:Int}{x y:α}(T:lk L q=some (.gh us<|l.map λx=>FR<|f x))(d:lk L gS=none)(r:Nat.beq q gS=false)(s:∀x,ZF (f x)=true)(hU:∀i,i < l.length->U i=us.getD i undef)(gi:AU l i=some x)(gp:AU l p=some y)(t:Nat.beq i.toNat p.toNat=false)
  (h:Gh P nt bx (Cz<|(gS,.gh [U i.toNat,U p.toNat] [FR (f x),FR (f y)])::(q,.gh us<|((l.map λx=>FR<|f x).set i.toNat<|.tok<|U i.toNat).set p.toNat<|.tok<|U p.toNat)::L) K):Gh P nt bx (Cz L) K:=by
 have H:q≠gS:=λe=>by rw[e]at r;simp at r
 have u:i.toNat≠p.toNat:=λe=>by rw[e]at t;simp at t
 rintro base St0 w0 a w ⟨o,B,I,r1,r2,r3⟩;have W:=I.slot q;rw[C6 T]at W;have J:Bx P w o (l.map λx=>FR<|f x) us (B q):=W;obtain⟨β,M,m,N,F⟩:=J.rh (I.nodup q)<|jL s l;have v:=M.1;rw[Ai]at v;have hi:=af gi;have hp:=af gp
 have A:∀j z,l[j]? =some z->us[j]? =some (U j)∧Ow P w o (FR<|f z) (U j) (β j):=λj z X=>by
  have C:=(Cx.1 X).1;have Y:us[j]? =some (U j):=by rw[hU j C,AF,Af aG];rfl
  exact⟨Y,(M.2 j _ _ (by rw[BS,X];rfl) Y).2⟩
 obtain⟨ui,Z⟩:=A _ _ hi;obtain⟨up,op⟩:=A _ _ hp;have m1:=(M.fill ui (c:=.tok<|U i.toNat) rfl<|mu (YI s x) Z).fill up (c:=.tok<|U p.toNat) rfl<|mu (YI s y) op
 have G:∀j g,g∈(if j=p.toNat then([]:zN)else if j=i.toNat then []else β j)->g∈β j∧j≠i.toNat∧j≠p.toNat:=λj g d=>by
  split at d
  ·simp at d
  ·split at d
   ·simp at d
   ·exact⟨d,by assumption,by assumption⟩
 obtain⟨D,O,m2⟩:∃D,D=_∧Bx P w o _ us D:=⟨_,rfl,m1.row⟩;refine h base St0 w0 a w ⟨o,upd (upd B q D) gS<|β i.toNat++β p.toNat,?_,r1,r2,r3⟩;rw[EY,EY];refine KE I H (by rw[Rj,d];rfl) (show CC P w o (tm a) (.gh us _) _ D from m2) (show CC P w o (tm a) (.gh [U i.toNat,U p.toNat] _) _ (β i.toNat++β p.toNat)from⟨_,_,β i.toNat,β p.toNat,rfl,rfl,YI s x,Z,_,_,β p.toNat,[],rfl,(A7 _).symm,YI s y,op,rfl,rfl⟩) ?_ ?_ (by rw[C6 T];rfl) rfl rfl rfl<;>subst O
 ·refine AI.2 ⟨SC (λj=>?_) (λj k Q g d R=>F j k Q g (G j g d).1 (G k g R).1) _ _,AI.2 ⟨N _,N _,λa S b n e=>F _ _ u a S<|e ▸ n⟩,λa S b n e=>?_⟩
  ·split
   ·exact AZ
   ·split
    ·exact AZ
    ·exact N j
  ·subst e;obtain⟨j,_,_,C⟩:=R3 S;obtain⟨q1,q2,q3⟩:=G j a C;rcases Al.1 n with n|n
   ·exact F j _ q2 a q1 n
   ·exact F j _ q3 a q1 n
 ·intro g d;left;rcases Al.1 d with d|d
  ·obtain⟨j,_,_,C⟩:=R3 d;exact m j g (G j g C).1
  ·rcases Al.1 d with d|d
   ·exact m _ g d
   ·exact m _ g d
def gJ2{q:Nat}{l:List α}{us:List Value}{i p:Int}{x y x' y':α}(d:lk L gS=some (.gh [U i.toNat,U p.toNat] [FR (f x'),FR (f y')]))(Y:lk L q=some (.gh us<|((l.map λx=>FR<|f x).set i.toNat<|.tok<|U i.toNat).set p.toNat<|.tok<|U p.toNat))(v:Nat.beq q gS=false)(h1:∀x,ZF (f x)=true)(hU:∀i,i < l.length->U i=us.getD i undef)(gi:AU l i=some x)(gp:AU l p=some y)(z:Nat.beq i.toNat p.toNat=false)
  (h:Gh P nt bx (Cz<|(gS,.undef)::(q,.gh us<|(CY (CY l i x') p y').map λx=>FR<|f x)::L) K):Gh P nt bx (Cz L) K:=by
 have A:q≠gS:=λe=>by rw[e]at v;simp at v
 have C:i.toNat≠p.toNat:=λe=>by rw[e]at z;simp at z
 rintro base St0 w0 a w ⟨t,B,u,r1,r2,r3⟩;have Z:=u.slot q;rw[C6 Y]at Z;have J:Bx P w t _ us (B q):=Z;have kS:=u.slot gS;rw[C6 d]at kS;obtain⟨u1,us1,M,d2',e1,e2,c1,o1,u2,us2,N,d3,e3,e4,c2,o2,e5,e6⟩:=(show Bx P w t [FR (f x'),FR (f y')] _ (B gS)from kS);obtain⟨rfl,rfl⟩:=List.cons.inj e1;obtain⟨rfl,rfl⟩:=List.cons.inj e3;subst e6;rw[A7]at e4;rw[e4]at e2
 have r:(((l.map λx=>FR<|f x).set i.toNat<|.tok<|U i.toNat).set p.toNat<|.tok<|U p.toNat).all V.D3=true:=by
  rw[Aq];intro c D;rcases Dt D with D|rfl
  ·rcases Dt D with D|rfl
   ·exact Aq.1 (jL h1 l) c D
   ·rfl
  ·rfl
 obtain⟨β,k1,F,k3,k4⟩:=J.rh (u.nodup q) r;have G:=k1.1;rw[By,By,Ai]at G;have hi:=(Cx.1<|af gi).1;have hp:=(Cx.1<|af gp).1;have H:∀j,j < l.length->us[j]? =some (U j):=λj O=>by rw[hU j O,AF,Af aG];rfl
 have m1:=(k1.fill (H _ hi) c1 o1).fill (H _ hp) c2 o2;rw[zg C,<-List.map_set (f:=λx=>FR<|f x),<-List.map_set (f:=λx=>FR<|f x)]at m1;have o:=u.nodup gS;rw[e2]at o;obtain⟨n1,n2,n3⟩:=AI.1 o;have b:∀j g,g∈β j->g∉M∧g∉N:=λj g Q=>by have:=u.apart q gS A g<|F j g Q;rw[e2,Al,not_or]at this;exact this
 have R:∀j g,g∈(if j=p.toNat then N else if j=i.toNat then M else β j)->(j=p.toNat∧g∈N)∨(j=i.toNat∧g∈M)∨g∈β j:=λj g d=>by
  split at d
  ·rename_i e;exact .inl ⟨e,d⟩
  ·split at d
   ·rename_i e;exact .inr<|.inl ⟨e,d⟩
   ·exact .inr<|.inr d
 obtain⟨I,S,m2⟩:∃I,I=_∧Bx P w t _ us I:=⟨_,rfl,m1.row⟩;refine h base St0 w0 a w ⟨t,upd (upd B q I) gS [],?_,r1,r2,r3⟩;rw[EY,EY];refine KE u A (by rw[C6 d];rfl) (show CC P w t (tm a) (.gh us _) _ I from m2) (show CC P w t (tm a) .undef _ []from rfl) ?_ ?_ (by rw[C6 Y];rfl) rfl rfl rfl<;>subst S
 ·rw[A7];refine SC (λj=>?_) (λj k s g d T=>?_) _ _
  ·split
   ·exact n2
   ·split
    ·exact n1
    ·exact k3 j
  ·rcases R j g d with⟨W,m⟩|⟨W,m⟩|m<;>rcases R k g T with⟨X,n⟩|⟨X,n⟩|n
   ·exact s<|W.trans X.symm
   ·exact n3 g n g m rfl
   ·exact(b k g n).2 m
   ·exact n3 g m g n rfl
   ·exact s<|W.trans X.symm
   ·exact(b k g n).1 m
   ·exact(b j g m).2 n
   ·exact(b j g m).1 n
   ·exact k4 j k s g m n
 ·intro g d;rw[A7]at d;obtain⟨j,_,_,O⟩:=R3 d;rcases R j g O with⟨_,q⟩|⟨_,q⟩|q
  ·exact .inr (by rw[e2];exact AB _ q)
  ·exact .inr (by rw[e2];exact AD _ q)
  ·exact .inl<|F j g q
def hU2{l:List α}{us:List Value}{i p:Int}{x y:α}(a:∀i,i < l.length->U i=us.getD i undef):∀j,j < (CY (CY l i x) p y).length->U j=us.getD j undef:=λj b=>a j (by simpa[CY]using b)
end
def Acn{α:Type}{f:α->List V}{us:List Value}(a:∀x,ZF (f x)=true)(b:∀x,Ee (f x)=true):∀(l:List α),Nl (.gh us<|l.map λx=>FR<|f x)=true
 |[]=>rfl
 |x::l=>by have d:Ee (l.map λx=>FR<|f x)=true:=Acn (us:=us) a b l;have c:=b x;rw[(tok1<|a x).1,Ee,Ab]at c;show Ee (FR (f x)::l.map λx=>FR<|f x)=true;rw[Ee,c.1,d];rfl
def bL{α:Type}:∀(l:List α) (k j:Nat),(HG k l)[j]? =(l[j]?).map λx=>(k+j,x)
 |[],_,_=>by simp[HG]
 |x::l,k,0=>by simp[HG]
 |x::l,k,j+1=>by rw[HG,Dm,Dm,bL l (k+1) j,show k+1+j=k+(j+1)from by omega]
def rP{α:Type}{l:List α}{i:Int}{a:Nat×α}(h:AU (HG 0 l) i=some a):a.1=i.toNat∧AU l i=some a.2:=by
 obtain⟨d,e,b⟩:=B9 h;rw[bL,C9]at b;cases c:l[i.toNat]? with
 |none=>rw[c]at b;cases b
 |some x=>rw[c]at b;cases b;refine⟨rfl,?_⟩;rw[Yj]at e;unfold AU;rw[Az d];exact c
section
variable {P:Program}{nt:Nat}{bx:zN}{K:PS->Prop}{L:PL}{α:Type}{f:α->List V}{U:Nat->Value}
def gT3{q:Nat}{l:List α}{us:List Value}{i p:Int}{a b:Nat×α}(e:lk L q=some (.gh us<|l.map λx=>FR<|f x))(g:lk L gS=none)(d:Nat.beq q gS=false)(j:∀x,ZF (f x)=true)(k:∀i,i < l.length->U i=us.getD i undef)(m:AU (HG 0 l) i=some a)(n:AU (HG 0 l) p=some b)(c:Nat.beq a.1 b.1=false)
  (h:Gh P nt bx (Cz<|(gS,.gh [U a.1,U b.1] [FR (f a.2),FR (f b.2)])::(q,.gh us<|((l.map λx=>FR<|f x).set a.1<|.tok<|U a.1).set b.1<|.tok<|U b.1)::L) K):Gh P nt bx (Cz L) K:=by
 obtain⟨o,g1⟩:=rP m;obtain⟨e2,g2⟩:=rP n;rw[o,e2]at c h;exact gT2 e g d j k g1 g2 c h
def gJ3{q:Nat}{l:List α}{us:List Value}{i p:Int}{a b:Nat×α}{x' y':α}(e:lk L gS=some (.gh [U a.1,U b.1] [FR (f x'),FR (f y')]))(g:lk L q=some (.gh us<|((l.map λx=>FR<|f x).set a.1<|.tok<|U a.1).set b.1<|.tok<|U b.1))(d:Nat.beq q gS=false)(j:∀x,ZF (f x)=true)(k:∀i,i < l.length->U i=us.getD i undef)(m:AU (HG 0 l) i=some a)(n:AU (HG 0 l) p=some b)(c:Nat.beq a.1 b.1=false)
  (h:Gh P nt bx (Cz<|(gS,.undef)::(q,.gh us<|(CY (CY l i x') p y').map λx=>FR<|f x)::L) K):Gh P nt bx (Cz L) K:=by
 obtain⟨o,g1⟩:=rP m;obtain⟨e2,g2⟩:=rP n;rw[o,e2]at c e g;exact gJ2 e g d j k g1 g2 c h
end
def qe:∀{cs:List V}{i:Nat}{c:V},Ee cs=true->ST c=true->Ee (cs.set i c)=true
 |[],_,_,_,_=>rfl
 |d::cs,0,c,h,a=>by rw[Ee,Ab]at h;rw[List.set_cons_zero,Ee,a,h.2];rfl
 |d::cs,i+1,c,h,a=>by rw[Ee,Ab]at h;rw[List.set_cons_succ,Ee,h.1,qe h.2 a];rfl
def AnS{α:Type}{f:α->List V}{us:List Value}(a:∀x,ZF (f x)=true)(b:∀x,Ee (f x)=true)(l:List α){i j:Nat}{u v:Value}:Nl (.gh us<|((l.map λx=>FR<|f x).set i<|.tok u).set j<|.tok v)=true:=
 qe (qe (Acn (us:=us) a b l) rfl) rfl
def qIp{P:Program}{tb:Tb}{a:zN}{L:PL}{K:PS->Prop}{s t:TypeId}{x y:Operand}{d:Nat}{α:Type}{f g:α->List V}{l:List α}{i:Int}{e:α}{n:Nat}(h:iaO tb L s x y=some (l.length,ON<|l.flatMap f,i,n))(b:∀x,ON (f x)=g x)(c:∀x,(g x).length=n)(hi:AU l i=some e)(k:K (Cz<|(d,.adr (g e++(l.drop<|i.toNat+1).flatMap g) 0)::L)):Hb P tb a ⟨some d,.indexAddr s x y,t,none⟩ (Cz L) K:=
 qI (by rw[h,Ud b]) c hi k
end
section
section
variable {P:Program}{nt:Nat}{base:Bs}{bx:zN}{St St0:Nat->Nat->Prop}{B:Nat->zN}{hand:zN}{σ:PS}{a:Act}{w w0:World}{K:PS->Prop}{L:PL}
def HSim.fact(h:HSim P nt bx base St B hand σ a w){s q:Nat}(l:∃cs,DC (σ s)=some cs)(m:DC (σ q)=none):HSim P nt bx base St (upd B q []) hand (upd σ q<|.val s<|tm a s) a w:=
 have i:∀b,(∃cs,DC (σ b)=some cs)->b≠q:=λb ⟨cs,e⟩ f=>by rw[f,m]at e;cases e
 have d:∀r,∀g∈upd B q [] r,g∈B r:=λr g c=>by
  by_cases e:r=q
  ·subst e;rw[upd_same]at c;simp at c
  ·rw[upd_ne _ _ e]at c;exact c
 {h with
  slot:=λr=>by
   by_cases e:r=q
   ·subst e;rw[upd_same,upd_same];exact⟨rfl,rfl⟩
   ·rw[upd_ne _ _ e,upd_ne _ _ e];exact h.slot r
  boxes:=λr cs e=>by
   by_cases f:r=q
   ·subst f;rw[upd_same]at e;cases e
   ·rw[upd_ne _ _ f]at e;exact h.boxes r cs e
  crefs:=λr b e=>by
   by_cases f:r=q
   ·subst f;rw[upd_same]at e;simp only[Ex,Av]at e;subst e;rw[upd_ne _ _ (i _ l)];exact l
   ·rw[upd_ne _ _ f]at e;have:=h.crefs r b e;rw[upd_ne _ _ (i _ this)];exact this
  nodup:=λr=>by
   by_cases e:r=q
   ·subst e;rw[upd_same];exact AZ
   ·rw[upd_ne _ _ e];exact h.nodup r
  apart:=λr t j g c k=>h.apart r t j g (d r g c)<|d t g k
  hapart:=λr g c=>h.hapart r g<|d r g c
  range:=λr g c=>h.range r g (d r g c)}
def gFv{s:Nat}{cs}(b:lk L s=some (.box cs))(c:lk L (gV s)=none)(h:∀u,Gh P nt bx (Cz<|(gV s,.val s u)::L) K):Gh P nt bx (Cz L) K:=by rintro base St0 w0 a w ⟨St,B,d,e,f,g⟩;have i:=d.fact (s:=s) (q:=gV s) ⟨cs,by rw[C6 b];rfl⟩ (by rw[Rj,c];rfl);exact h (tm a s) base St0 w0 a w ⟨St,_,by rw[EY];exact i,e,f,g⟩
end
def WT:Nat->List Value->PS->PS
 |_,[],σ=>σ
 |m,u::us,σ=>upd (WT (m+1) us σ) (gV m)<|.val m u
def bP{σ q}:∀{us:List Value}{m:Nat},(∀j,m<=j->q≠gV j)->WT m us σ q=σ q
 |[],_,_=>rfl
 |u::us,m,h=>by rw[WT,upd_ne _ _ (h m<|A5 _),bP λj a=>h j aG]
def AiS(bx:zN)(m n:Nat):Bool:=(List.range n).all λi=>bx.contains (m+i)&&bx.contains (SQ+(m+i))
section
variable {P:Program}{nt:Nat}{base:Bs}{bx:zN}{St:Nat->Nat->Prop}{a:Act}{w:World}
def fD{σ}:∀{us:List Value}{m:Nat}{B:Nat->zN},HSim P nt bx base St B [] σ a w->(∀i u,us[i]? =some u->tm a (m+i)=u∧(∃cs,DC (σ<|m+i)=some cs)∧m+i < 910000)->(∀j,m<=j->DC (σ<|gV j)=none)->∃B',HSim P nt bx base St B' [] (WT m us σ) a w
 |[],_,B,h,_,_=>⟨B,h⟩
 |u::us,m,B,h,b,c=>by
  have⟨o,f⟩:=fD (us:=us) (m:=m+1) h (λi v g=>by
   have:=b (i+1) v (by simpa using g)
   rwa [show m+(i+1)=m+1+i from by omega]at this) (λj k=>c j aG)
  have⟨d,e,l⟩:=b 0 u rfl;rw[D5]at d e l;have n:WT (m+1) us σ m=σ m:=bP λj _=>by unfold gV;omega
  have e2:WT (m+1) us σ (gV m)=σ (gV m):=bP λj k=>by unfold gV;omega
  have:=f.fact (s:=m) (q:=gV m) (by rw[n];exact e) (by rw[e2];exact c m<|A5 _);rw[d]at this;exact⟨_,this⟩
end
section
variable {P:Program}{tb:Tb}
def AiT(htb:LB P tb){f:FuncId}{fn:Func}{c:Code}{us:List Value}{css css':List (List V)}{args:List V}{r:V}(hf:P.funcs[f]? =some fn)(hb:fn.body=some c)(hname:(fn.name== "runtime.NumGoroutine")=false)(bx:zN)(hlen:args.length+css.length<=fn.ntmps)(hnt:fn.ntmps<=910000)(h0:AiS bx args.length css.length=true)(hargs:args.all Pz=true)
  (hn:(fn.results.toList.map MZ).Nodup) (hrp:r=.tup []∨KA r=true) (h:Pf P fn.ntmps bx c (WT args.length us<|Hm<|args++css.map V.box) (λe σ=>(e=.ret∨e=.normal)∧cD tb σ fn.results.toList=some r∧((List.range css.length).map λi=>σ<|args.length+i)=css'.map V.box)):VL P f us css args css' r:=by
 refine⟨⟨fn,hf,by rw[hb];rfl,hname⟩,λw St bs0 vs hst hgl hrow hnd hrg hvs=>?_⟩;have⟨hl,hat⟩:=args_at hvs;have hul:=hrow.length;have hss:((List.range css.length).map (args.length+ ·)).Nodup:=by unfold List.Nodup;rw[CV];exact FE (λh e=>h aG)<|show(List.range css.length).Pairwise (· ≠ ·)from C3
 have⟨β,m1,m2,m3,m4⟩:=bA (ss:=(List.range css.length).map (args.length+ ·)) hrow hnd hss nF
 have hssm:∀s,s∈(List.range css.length).map (args.length+ ·)↔args.length<=s∧s < args.length+css.length:=λs=>by
  rw[Aw];constructor
  ·rintro⟨i,hi,rfl⟩;rw[Ao]at hi;omega
  ·rintro⟨h1,h2⟩;exact⟨s - args.length,Ao.2 aG,aG⟩
 have hbx:∀i,i < css.length->args.length+i∈bx∧SQ+(args.length+i)∈bx:=λi hi=>by have:=Aq.1 h0 i<|Ao.2 hi;simpa[Ab,Ag]using this
 have hini:∀s,s < args.length->Hm (args++css.map V.box) s=(args[s]?).getD (.tup []):=λs hs=>by simp only[Hm,Cc hs]
 have hinb:∀s,args.length<=s->Hm (args++css.map V.box) s=((css[s - args.length]?).map V.box).getD (.tup []):=λs hs=>by simp only[Hm,CF hs,BS]
 refine J4 hf hb ?_
 have hsim:HSim P fn.ntmps bx ⟨λb=>b < w.heap.size∧b∉bs0,(List.range css.length).map λi=>(args.length+i,us.getD i undef)⟩ St (λs=>if args.length<=s∧s < args.length+css.length then β s else []) [] (Hm<|args++css.map V.box) {tmps:=(vs++us).toArray++Array.replicate (fn.ntmps - (vs++us).toArray.size) undef,defers:=[]} w:=by
  refine
  {size:=by simp;omega
   defers:=rfl
   slot:=λs=>?_
   boxes:=λs cs e=>?_
   crefs:=λs b e=>?_
   nodup:=λs=>by
    split
    ·exact m3 s
    ·exact AZ
   apart:=λs t hst k hk hk'=>by
    split at hk
    ·split at hk'
     ·rename_i q1 q2;exact m4 s ((hssm s).2 q1) t ((hssm t).2 q2) hst k hk hk'
     ·simp at hk'
    ·simp at hk
   hnodup:=AZ
   hapart:=λ_ k hk=>by simp
   range:=λs k hk=>by
    split at hk
    ·rename_i q1;exact⟨λh=>h.2<|m2 s ((hssm s).2 q1) k hk,hrg k<|m2 s ((hssm s).2 q1) k hk⟩
    ·simp at hk
   hrange:=λk hk=>by simp at hk
   st:=hst
   gl:=hgl
   pin:=λv e=>by obtain⟨i,hi,rfl⟩:=Aw.1 e;rw[Ao]at hi;rw[WQ];refine⟨?_,hbx i hi⟩;rw[CF aG,hl,Dn,AF]}
  ·rw[WQ];by_cases hs:s < args.length
   ·rw[AA aG,hini s hs,Cc aG];have⟨v,hv,hr⟩:=hat s args[s]<|Af hs;rw[Af hs,hv,Bz,Bz];exact(Yx (Aq.1 hargs _<|Ae hs) hr).slot
   ·rw[hinb s aG,CF aG,hl];by_cases hs2:s < args.length+css.length
    ·rw[Az ⟨aG,hs2⟩,Af (show s - args.length < css.length by omega),Af (show s - args.length < us.length by omega)];simp only[BP,Bz];refine qU<|m1 (s - args.length) s _ _ ?_ (Af _)<|Af _;rw[BS,C8 aG,BP];congr 1;omega
    ·rw[AA aG,Bt aG,Bt aG];exact⟨[],rfl,rfl,rfl⟩
  ·by_cases hs:s < args.length
   ·rw[hini s hs,Af hs,Bz]at e;have hp:=Aq.1 hargs _<|Ae hs;cases hc:args[s]<;>rw[hc]at e hp<;>first|(cases hp;done)|(cases e;done)
   ·by_cases hs2:s < args.length+css.length
    ·have:=(hbx (s - args.length) aG).1
     rwa [show args.length+(s - args.length)=s from by omega]at this
    ·rw[hinb s aG,Bt aG]at e;cases e
  ·by_cases hs:s < args.length
   ·rw[hini s hs,Af hs,Bz]at e;have hp:=Aq.1 hargs _<|Ae hs;cases hc:args[s]<;>rw[hc]at e hp<;>first|(cases hp;done)|(cases e;done)
   ·rw[hinb s aG]at e;cases hc:css[s - args.length]? with
    |none=>rw[hc]at e;cases e
    |some cs=>rw[hc]at e;cases e
 have⟨B1,hsim1⟩:=fD (us:=us) (m:=args.length) hsim (λi u hu=>by
  have hi:i < css.length:=by have:=(Cx.1 hu).1;omega
  refine⟨?_,?_,aG⟩
  ·rw[WQ,CF aG,hl,Dn,hu];rfl
  ·rw[hinb _ aG,Dn,Af hi];exact⟨_,rfl⟩) (λj _=>by
  have:args.length+css.length<=gV j:=by unfold gV;omega
  rw[hinb _ aG,Bt aG];rfl)
 have hrel:Rel P fn.ntmps bx _ St w (WT args.length us<|Hm<|args++css.map V.box) _ w:=⟨St,B1,hsim1,BelowK.refl _ _,λ_ _ _=>Ea,λ_ h=>h.1⟩;refine HT (h _ _ _ _ _ hrel) ?_;rintro e a' w' ⟨σ',⟨he,hres,hbox⟩,St1,B',h1,h2,h3,h4⟩
 have hfin:a'.defers=[]∧∃v,(results fn a'.tmps).run P w'=.ok v w'∧AdP P w St us bs0 css' r (.returned v) w':=by
  have⟨v,bs,q1,q2,q3,q4⟩:=aQ htb h1 hn hres
  have hbs:bs=[]:=by
   rcases hrp with rfl|hrp
   ·have⟨_,_,h5⟩:=q2;exact h5.2
   ·cases r<;>first|exact q2.1|cases hrp
  subst hbs;have hl':css'.length=css.length:=by have:=congrArg List.length hbox;simpa using this.symm
  have hbr:∀(n k:Nat) (ds:List (List V)) (vs':List Value),ds.length=n->vs'.length=n->(∀i d u,ds[i]? =some d->vs'[i]? =some u->σ' (args.length+(k+i))=.box d∧tm a' (args.length+(k+i))=u)->Vm P w' St1 ds vs' (Tt B' (args.length+k) n):=by
   intro n;induction n with
   |zero=>intro k ds vs' e1 e2 _;rw[Fs.1 e1,Fs.1 e2];exact⟨rfl,rfl⟩
   |succ n ih=>
    intro k ds vs' e1 e2 hh;cases ds with
    |nil=>cases e1
    |cons d ds=>
     cases vs' with
     |nil=>cases e2
     |cons u vs'=>
      have⟨g1,g2⟩:=hh 0 d u rfl rfl;have hs:=h1.slot<|args.length+k;rw[D5]at g1 g2;rw[g1,g2]at hs;refine⟨u,vs',B'<|args.length+k,Tt B' (args.length+k+1) n,rfl,rfl,qU hs,?_⟩
      have:=ih (k+1) ds vs' (by simpa using e1) (by simpa using e2) (λi d' u' hd hu=>by
       have:=hh (i+1) d' u' (by simpa using hd) (by simpa using hu)
       rwa [show k+(i+1)=k+1+i from by omega]at this)
      rwa [show args.length+(k+1)=args.length+k+1 from by omega]at this
  have hk:∀k∈Tt B' (args.length+0) css'.length,(k∈bs0∨w.heap.size<=k)∧k < w'.heap.size:=λk hk=>by have⟨i,_,_,hm⟩:=R3 hk;have hr:=h1.range i k hm;refine⟨Bp λhc=>?_,hr.2⟩;rw[not_or]at hc;exact hr.1 ⟨aG,hc.1⟩
  refine⟨h1.defers,v,q1,v,Tt B' (args.length+0) css'.length,St1,rfl,h2,λb o hb hbn=>h3 b o ⟨hb,hbn⟩,h1.st,hbr css'.length 0 css' us rfl aG<|λi d u hd hu=>?_,q2,SC h1.nodup h1.apart _ _,hk⟩;have hi:i < css.length:=by have:=(Cx.1 hd).1;omega
  rw[C9];refine⟨?_,?_⟩
  ·have:=congrArg (λl=>l[i]?) hbox;simp only[BS,C8 hi,BP,hd,Av]at this;exact this
  ·have:=(h1.pin (args.length+i,us.getD i undef)<|Aw.2 ⟨i,Ao.2 hi,rfl⟩).1;rw[AF,hu]at this;exact this
 rcases he with rfl|rfl
 ·exact hfin
 ·exact hfin
end
section
variable {P:Program}{tb:Tb}
def Al7(tb:Tb)(rs:List ResultVar)(m n:Nat)(a:List (List V))(r:V)(e:Exit)(σ:PS):Prop:=(e=.ret∨e=.normal)∧cD tb σ rs=some r∧((List.range n).map λi=>σ<|m+i)=a.map V.box
def AcK(i:LB P tb){f:FuncId}{nt:Nat}{bx:zN}{rs:List ResultVar}{l:LC}{us:List Value}{b d:List (List V)}{a:List V}{r:V}(m:Lit P f nt bx rs l)(g:a.length+b.length<=nt)(j:nt<=910000)(n:AiS bx a.length b.length=true)(e:a.all Pz=true)(k:r=.tup []∨KA r=true)
  (h:LS P nt bx l (WT a.length us<|Hm<|a++b.map V.box) (Al7 tb rs a.length b.length d r)):VL P f us b a d r:=by
 obtain⟨⟨w,c,o,p,q,rfl,rfl,s,t⟩,u,v⟩:=m;exact AiT i o p q bx g j n e u k<|h c s t v
end
def bB(L:PL):zN->Option (List<|List V)
 |[]=>some []
 |s::ss=>match lk L s with
  |some (.box cs)=>Aa (bB L ss) λr=>some<|cs::r
  |_=>none
def jO(L:PL):zN->Option (List Value)
 |[]=>some []
 |s::ss=>match lk L (gV s)with
  |some (.val q u)=>W9 (Nat.beq q s)<|Aa (jO L ss) λr=>some<|u::r
  |_=>none
def iT{L}:∀{ss:zN}{a:List (List V)},bB L ss=some a->ss.map (Cz L)=a.map V.box
 |[],_,h=>by cases h;rfl
 |s::ss,_,h=>by
  unfold bB at h;split at h
  ·rename_i cs b;have⟨r,c,h⟩:=Bc h;cases h;rw[AP,AP,C6 b,iT c]
  ·cases h
def oD{L}:∀{ss:zN}{us:List Value},jO L ss=some us->(ss.map λs=>Cz L<|gV s)=(ss.zip us).map (λp=>V.val p.1 p.2)∧ss.length=us.length
 |[],_,h=>by cases h;exact⟨rfl,rfl⟩
 |s::ss,_,h=>by
  unfold jO at h;split at h
  ·rename_i q u b;have⟨a,h⟩:=Em h;have⟨r,c,h⟩:=Bc h;cases h;have a:=CU a;subst a;have⟨d,e⟩:=oD c;exact⟨by rw[AP,List.zip_cons_cons,AP,C6 b,d],by rw[AC,AC,e]⟩
  ·cases h
def Aal(L:PL):List Operand->Option (List Value)
 |[]=>some []
 |.tmp p::xs=>match lk L (gV p)with
  |some (.val q u)=>W9 (Nat.beq q p)<|Aa (Aal L xs) λr=>some<|u::r
  |_=>none
 |_::_=>none
def re{L}:∀{xs:List Operand}{us:List Value},Aal L xs=some us->ko (Cz L) xs=some us
 |[],_,h=>by cases h;rfl
 |.tmp p::xs,_,h=>by
  unfold Aal at h;split at h
  ·rename_i q u b;have⟨a,h⟩:=Em h;have⟨r,c,h⟩:=Bc h;cases h;have a:=CU a;subst a;unfold ko;rw[C6 b];simp only[FB,re c,BP]
  ·cases h
 |.const _::_,_,h=>by cases h
 |.global _::_,_,h=>by cases h
 |.func _::_,_,h=>by cases h
def sfV(ss:zN):PL->Prop
 |[]=>True
 |(q,c)::L=>(ss.contains q=true∨Nl c=true)∧sfV ss L
def yvn{ss}:sfV ss []:=trivial
def im{ss q c L}(h:ss.contains q=true)(k:sfV ss L):sfV ss ((q,c)::L):=⟨.inl h,k⟩
def Qd{ss q c L}(h:Nl c=true)(k:sfV ss L):sfV ss ((q,c)::L):=⟨.inr h,k⟩
def zh{ss}:∀{L:PL},sfV ss L->∀q,q∉ss->Nl (Cz L q)=true
 |[],_,q,_=>rfl
 |(p,c)::L,⟨b,d⟩,q,a=>by
  rw[EY];by_cases e:q=p
  ·subst e;rw[upd_same];exact b.resolve_left λh=>a<|Ag.1 h
  ·rw[upd_ne _ _ e];exact zh d q a
def uU:zN->List (List V)->PL->PL
 |s::ss,cs::a,L=>(s,.box cs)::uU ss a L
 |_,_,L=>L
def tK{L:PL}:∀{ss:zN}{a:List (List V)},ii (Cz L) ss a=Cz (uU ss a L)
 |[],_=>rfl
 |_::_,[]=>rfl
 |s::ss,cs::a=>by rw[ii,uU,EY,tK]
def ul:zN->Bool
 |[]=>true
 |s::ss=> !ss.contains s&&ul ss
def sH:∀{ss:zN},ul ss=true->ss.Nodup
 |[],_=>AZ
 |s::ss,h=>by rw[ul,Ab,At,<-F3,Ag]at h;exact BI.2 ⟨h.1,sH h.2⟩
def pB{L L1 S}(h:V2 L S=some L1):kill (UX L S) (Cz L)=Cz L1:=by
 have⟨L',f,h⟩:=Bc h;have⟨g,h⟩:=Em h;cases h;have⟨i,j,k⟩:=V1 f;funext q;by_cases a:q∈S
 ·have l:=C6 (i q a);have m:¬(UX L S).contains q=true:=λh=>(O7.1 h).2 a
  unfold kill;rw[AA m,l];cases n:Ex (Cz L1 q)with
  |none=>rfl
  |some b=>
   have o:b∈S:=by have⟨p,r,c⟩:=li n;have:=Aq.1 g p r;rw[c,k]at this;exact Ag.1 this
   have d:¬(UX L S).contains b=true:=λh=>(O7.1 h).2 o
   simp only[AA d]
 ·rw[j q a];by_cases e:q∈L.map (·.1)
  ·exact Wt<|O7.2 ⟨e,a⟩
  ·unfold kill;rw[Yp e];split<;>rfl
section
variable {P:Program}{tb:Tb}{cns:zN}{L:PL}{K:PS->Prop}{t:TypeId}{x:Operand}
def zrA(σ:PS):List Operand->List V->Prop
 |[],c=>c=[]
 |x::xs,c=>∃a b,c=a::b∧(CP σ x).isArg=true∧jY (CP σ x)=a∧zrA σ xs b
def zQ{σ}:∀{xs:List Operand}{b:List V},zrA σ xs b->xs.all (λx=>(CP σ x).isArg)=true∧(xs.map λx=>jY<|CP σ x)=b
 |[],_,h=>by cases h;exact⟨rfl,rfl⟩
 |x::xs,_,⟨a,c,e,d,f,g⟩=>by have⟨i,j⟩:=zQ g;subst e;exact⟨by rw[BM,d,i];rfl,by rw[AP,f,j]⟩
def zn:zrA (Cz L) [] []:=rfl
def za{c a:V}{xs as}(b:zY L x=some c)(d:jY c=a)(e:zrA (Cz L) xs as):zrA (Cz L) (x::xs) (a::as):=⟨a,as,rfl,(by rw[(Yb b).1];exact(Yb b).2),(by rw[(Yb b).1];exact d),e⟩
def ra{d:Option Nat}{f:FuncId}{a:List Operand}{us:List Value}{c b:List (List V)}{r:V}{e:PL}(ss S:zN)(n:bB L ss=some c)(o:jO L ss=some us)(p:ul ss=true)(u:a.all (λx=>(CP (Cz L) x).isArg)=true)(v:AdR P (Cz L) f us c a b r)
  (j:V2 L (ss++S)=some e) (g:sfV ss e) (k:K (V6 (Cz<|uU ss b e) d r)):Wj P d (.func (.func f) #[] us.toArray) a (Cz L) K:=by
 obtain⟨w,y⟩:=oD o;refine⟨f,us,ss,c,b,r,UX L<|ss++S,rfl,iT n,w,y,sH p,u,v,λs z=>?_,λq A=>?_,?_⟩
 ·cases B:(UX L<|ss++S).contains s with
  |false=>rfl
  |true=>exact absurd (AD _ z) (O7.1 B).2
 ·by_cases l:(UX L<|ss++S).contains q=true
  ·exact .inl l
  ·right;by_cases m:q∈L.map (·.1)
   ·have C:q∈ss++S:=Bp λh=>l (O7.2 ⟨m,h⟩)
    obtain⟨L',D,i⟩:=Bc j;obtain⟨_,i⟩:=Em i;cases i;rw[C6 ((V1 D).1 q C)];exact zh g q A
   ·rw[Yp m];rfl
 ·rw[pB j,tK];exact k
def qV{d p f args ts us css css' as r L1}(ss S:zN)(b:lk L p=some (.tok<|.func (.func f) #[] us.toArray))(c:bB L ss=some css)(e:jO L ss=some us)(g:ul ss=true)(h:erA (Cz L) args.toList as)(i:VL P f us css as css' r)
  (j:V2 L (ss++S)=some L1) (a:sfV ss L1) (k:K (Cz<|(d,r)::uU ss css' L1)) (l:cns.contains d=false:=by rfl):Hb P tb cns ⟨some d,.call {callee:=.value (.tmp p),args:=args,argTypes:=ts},t,none⟩ (Cz L) K:=by
 have⟨m,n⟩:=Zt h
 show(match CP (Cz L) (.tmp p)with
  |.fn f=>JW P cns _ f args.toList (Cz L) K
  |.tok u=>Ua P cns _ u args.toList (Cz L) K
  |_=>XO cns _ (Cz L) K)
 rw[show CP (Cz L) (.tmp p)=.tok (.func (.func f) #[] us.toArray)from C6 b];exact⟨l,ra ss S c e g m (.inl<|by rw[n];exact i) j a k⟩
def qVz{d p f args ts us css css' as r L1}(ss S:zN)(b:lk L p=some (.tok<|.func (.func f) #[] us.toArray))(c:bB L ss=some css)(e:jO L ss=some us)(g:ul ss=true)(h:zrA (Cz L) args.toList as)(i:VL P f us css as css' r)
  (j:V2 L (ss++S)=some L1) (a:sfV ss L1) (k:K (Cz<|(d,r)::uU ss css' L1)) (l:cns.contains d=false:=by rfl):Hb P tb cns ⟨some d,.call {callee:=.value (.tmp p),args:=args,argTypes:=ts},t,none⟩ (Cz L) K:=by
 have⟨m,n⟩:=zQ h
 show(match CP (Cz L) (.tmp p)with
  |.fn f=>JW P cns _ f args.toList (Cz L) K
  |.tok u=>Ua P cns _ u args.toList (Cz L) K
  |_=>XO cns _ (Cz L) K)
 rw[show CP (Cz L) (.tmp p)=.tok (.func (.func f) #[] us.toArray)from C6 b];exact⟨l,ra ss S c e g m (.inr<|by rw[n];exact i) j a k⟩
def qVg{d p q u e b args ts}(g:e=b)(a:lk L q=some (.bool e))(c:lk L p=some (.tok u))(k:Hb P tb cns ⟨some d,.call {callee:=.value (.tmp p),args:=args,argTypes:=ts},t,none⟩ (Cz L) K):
  Hb P tb cns ⟨some d,.call {callee:=.value (.tmp p),args:=args,argTypes:=ts},t,some (some q,b)⟩ (Cz L) K:=by
 replace k:(match CP (Cz L) (.tmp p)with
  |.fn f=>JW P cns _ f args.toList (Cz L) K
  |.tok u=>Ua P cns ⟨some d,.call {callee:=.value (.tmp p),args:=args,argTypes:=ts},t,none⟩ u args.toList (Cz L) K
  |_=>XO cns _ (Cz L) K):=k
 show(match CP (Cz L) (.tmp p)with
  |.fn f=>JW P cns _ f args.toList (Cz L) K
  |.tok u=>Ua P cns ⟨some d,.call {callee:=.value (.tmp p),args:=args,argTypes:=ts},t,some (some q,b)⟩ u args.toList (Cz L) K
  |_=>XO cns _ (Cz L) K)
 rw[show CP (Cz L) (.tmp p)=.tok u from C6 c]at k⊢;subst g;have i:Cz L q=.bool e:=C6 a;refine⟨k.1,?_⟩;show known (Cz L q)=true∧_;rw[i];exact⟨rfl,λ_=>k.2,λh=>by simp[dw]at h⟩
def skL(L:PL)(q:Nat)(b:Bool):Bool:=match lk L q with
 |some (.bool e)=>e !=b
 |some (.tup _)=>true
 |_=>false
def qVs{d p q b args ts}(c:skL L q b=true)(h:lk L p=some (.tup []))(k:K (Cz<|(d,.tup [])::L))(g:cns.contains d=false:=by rfl):
  Hb P tb cns ⟨some d,.call {callee:=.value (.tmp p),args:=args,argTypes:=ts},t,some (some q,b)⟩ (Cz L) K:=by
 show(match CP (Cz L) (.tmp p)with
  |.fn f=>JW P cns _ f args.toList (Cz L) K
  |.tok u=>Ua P cns _ u args.toList (Cz L) K
  |_=>XO cns ⟨some d,.call {callee:=.value (.tmp p),args:=args,argTypes:=ts},t,some (some q,b)⟩ (Cz L) K)
 rw[show CP (Cz L) (.tmp p)=.tup []from C6 h];unfold skL at c;split at c
 ·rename_i e a;have a:Cz L q=.bool e:=C6 a;refine⟨g,?_⟩;rw[a];refine⟨rfl,?_,k⟩;cases e<;>cases b<;>first|rfl|cases c
 ·rename_i cs a;have a:Cz L q=.tup cs:=C6 a;refine⟨g,?_⟩;rw[a];exact⟨rfl,rfl,k⟩
 ·cases c
def qMf{d f fs caps us}(a:fs.toList=[])(b:Aal L caps.toList=some us)(k:K (Cz<|(d,.tok<|.func (.func f) #[] us.toArray)::L)):Hb P tb cns ⟨some d,.makeFunc (.func f) fs caps,t,none⟩ (Cz L) K:=by show mkF f fs.toList caps.toList d (Cz L) K;unfold mkF;rw[a,re b];exact k
end
def aa:Nat->List Value->PL->PL
 |_,[],L=>L
 |m,u::us,L=>(gV m,.val m u)::aa (m+1) us L
def wt{L:PL}{σ:PS}(j:∀p∈L,p.1 < 910000)(h:jp σ L):∀(us:List Value) (m:Nat),jp (WT m us σ) (aa m us L)
 |[],m=>h
 |u::us,m=>by
  have f:∀(us:List Value) (m:Nat) (σ:PS) (v:V),jp σ (aa (m+1) us L)->jp (upd σ (gV m) v) (aa (m+1) us L):=by
   have l:∀(L':PL) (σ:PS) (q:Nat) (v:V),(∀p∈L',p.1≠q)->jp σ L'->jp (upd σ q v) L':=by
    intro L';induction L' with
    |nil=>intro _ _ _ _ _;trivial
    |cons p L' g=>obtain⟨r,c⟩:=p;intro σ q v a b;exact⟨by rw[upd_ne _ _ (a (r,c) BD)];exact b.1,g σ q v (λp i=>a p<|AW _ i) b.2⟩
   intro us m σ v b;refine l _ _ _ _ (λp i e=>?_) b
   have:∀(us:List Value) (k:Nat),m < k->p∉aa k us L:=by
    intro us;induction us with
    |nil=>intro k _ d;have:=j p d;rw[e]at this;unfold gV at this;omega
    |cons u us g=>
     intro k b d;rcases AL.1 d with rfl|d
     ·simp only[gV]at e;omega
     ·exact g (k+1) aG d
   exact this us (m+1) aG i
  refine⟨?_,f us m _ _<|wt j h us<|m+1⟩;rw[WT,upd_same];exact kr
def xc:∀(cs:List V) (i:Nat),∀p∈TJ i cs,p.1 < i+cs.length
 |[],_,p,a=>by simp[TJ]at a
 |c::cs,i,p,a=>by
  rw[TJ]at a;rcases AL.1 a with rfl|a
  ·simp
  ·have:=xc cs (i+1) p a;rw[AC];omega
def qiv{P nt bx l Q xs us m}(c:xs.length<=910000)(a:okR (aa m us<|TJ 0 xs)=true)(k:LS P nt bx l (Cz<|aa m us<|TJ 0 xs) Q):LS P nt bx l (WT m us<|Hm xs) Q:=
 P5 _ (wt (λp b=>by have:=xc xs 0 p b;omega) (px xs 0 0) us m) a k
end
end Go.Proofs.YtdmpnamllcigdaaGreatDoor
