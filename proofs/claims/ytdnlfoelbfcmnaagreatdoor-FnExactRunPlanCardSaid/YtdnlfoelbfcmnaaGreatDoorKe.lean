/- A machine on data, part 5: lists that are lent. Over no program; no conditions. -/
import Derived.Test.YtdnlfoelbfcmnaaGreatDoorKb
open Go.RowKit
set_option linter.all false
namespace Go.Proofs.YtdnlfoelbfcmnaaGreatDoor
section
def Sc(B:Nat->zN):Nat->Nat->zN
 |_,0=>[]
 |k,n+1=>B k++Sc B (k+1) n
def QZ{B g}:∀{n k:Nat},g∈Sc B k n->∃i,k<=i∧i < k+n∧g∈B i
 |0,_,h=>by simp[Sc]at h
 |n+1,k,h=>by
  rw[Sc,Ak]at h;rcases h with h|h
  ·exact⟨k,AJ _,by omega,h⟩
  ·have⟨i,b,c,a⟩:=QZ h;exact⟨i,by omega,by omega,a⟩
def RC{B}(c:∀i,(B i).Nodup)(d:∀i j,i≠j->∀g∈B i,g∉B j):∀(n k:Nat),(Sc B k n).Nodup
 |0,_=>AP
 |n+1,k=>by rw[Sc];refine AA.2 ⟨c k,RC c d n<|k+1,λa f b h e=>?_⟩;have⟨i,m,_,l⟩:=QZ h;exact d k i (by omega) a f<|e ▸ l
section
variable {P:Program}{w:World}{St:Nat->Nat->Prop}
def aU{B}:∀(os:List V) (us:List Value) (k:Nat),us.length=os.length->(∀i c u,os[i]? =some c->us[i]? =some u->c.DB=true∧Ow P w St c u (B<|k+i))->Bn P w St os us (Sc B k os.length)
 |[],us,_,a,_=>⟨JY.1 a,rfl⟩
 |c::os,[],_,a,_=>by cases a
 |c::os,u::us,k,a,h=>by
  have⟨b,d⟩:=h 0 c u rfl rfl;refine⟨u,us,B k,Sc B (k+1) os.length,rfl,rfl,b,d,aU os us (k+1) (by simpa using a) λi c' e f g=>?_⟩;have:=h (i+1) c' e (by simpa using f) (by simpa using g)
  rwa [show k+(i+1)=k+1+i from by omega]at this
end
section
variable {P:Program}{tb:Tb}
def slots(σ:PS)(n:Nat):List V:=(List.range n).map σ
def vy(bx:zN)(n:Nat):Bool:=(List.range n).all λi=>bx.contains i&&bx.contains (TP+i)
def y5(htb:Jr P tb){f:FuncId}{fn:Func}{c:Code}{os args os':List V}{rb:Bool}(hf:P.funcs[f]? =some fn)(hb:fn.body=some c)(hname:(fn.name== "runtime.NumGoroutine")=false)(bx:zN)(hlen:os.length+args.length<=fn.ntmps)(h0:vy bx os.length=true)(hargs:args.all Ml=true)
  (hn:(fn.results.toList.map Qj).Nodup) (hcs:Cw os=true) (hob:os.all d8=true) (hcs':Cw os'=true) (hcl:os'.all V.DB=true) (h:Oy P fn.ntmps bx c (IW<|os++args.map Px) (λe σ=>(e=.ret∨e=.normal)∧fo tb σ fn.results.toList=some (.bool rb)∧slots σ os.length=os')):UY P f [] os args os' (.bool rb):=by
 refine⟨⟨fn,hf,by rw[hb];rfl,hname⟩,λw St us bs0 vs1 vs hst hgl hrow hnd hrg hv1 hvs=>?_⟩;cases hv1;have hN:∀b o,(St b o∧b∉bs0)->(b < w.heap.size∧b∉bs0):=λb o h=>⟨hst b o h.1,h.2⟩
 have hvs0:=QQ.Nd (N:=λb=>b < w.heap.size∧b∉bs0) hN hargs hvs;have hvs':QQ w (λb o=>St b o∨(b < w.heap.size∧b∉bs0)) (args.map Px) vs:=hvs0.mono (λb o h=>h.imp (·.1) id)<|λ_ _ _=>rfl
 have hst':∀b o,(St b o∨(b < w.heap.size∧b∉bs0))->b < w.heap.size:=λb o h=>h.elim (hst b o) (·.1)
 have hrow':Bn P w (λb o=>St b o∨(b < w.heap.size∧b∉bs0)) os us bs0:=Bn.kept os hcs hrow<|λk hk=>⟨rfl,λo=>⟨λh=>h.elim id<|λh=>absurd hk h.2,.inl⟩⟩
 have hpl:(args.map Px).all Te=true:=by rw[Lx,Am];exactλx hx=>c6<|Am.1 hargs x hx
 have⟨hl,hat⟩:=args_at hvs';rw[Aj]at hl;have hul:=Bn.length hrow;have⟨β,k1,k2,k3,k4⟩:=UQ hrow' hnd;have hbx:∀i,i < os.length->i∈bx∧TP+i∈bx:=λi hi=>by have:=Am.1 h0 i<|AB.2 hi;simpa[Aa,Av]using this
 have hin:∀s,s < os.length->∃c u,os[s]? =some c∧us[s]? =some u∧IW (os++args.map Px) s=c∧d8 c=true:=λs hs=>by refine⟨os[s],us[s]'(by omega),Ae hs,Ae _,?_,Am.1 hob _<|Ad hs⟩;simp only[IW,BZ hs,Ae hs,B8]
 have hout:∀s,¬s < os.length->IW (os++args.map Px) s=(((args.map Px)[s - os.length]?).getD<|.tup []):=λs hs=>by simp only[IW,BT (Pg hs)]
 refine Lt hf hb ?_
 have hrel:Rel P fn.ntmps bx ⟨λb=>b < w.heap.size∧b∉bs0,(List.range os.length).map λi=>(i,us.getD i undef)⟩ (λb o=>St b o∨(b < w.heap.size∧b∉bs0)) w (IW<|os++args.map Px) {tmps:=(us++vs).toArray++Array.replicate (fn.ntmps - (us++vs).toArray.size) undef,defers:=[]} w:=by
  refine⟨_,λs=>if s < os.length then β s else [],?_,BelowK.refl _ _,λ_ _ _=>CY,λ_ h=>h.1⟩;refine
  {size:=by simp;omega
   defers:=rfl
   slot:=λs=>?_
   boxes:=λs cs e=>?_
   crefs:=λs b e=>?_
   nodup:=λs=>by
    split
    ·exact k3 s
    ·exact AP
   apart:=λs t hst k hk hk'=>by
    split at hk
    ·split at hk'
     ·exact k4 s t hst k hk hk'
     ·simp at hk'
    ·simp at hk
   hnodup:=AP
   hapart:=λ_ k hk=>by simp
   range:=λs k hk=>by
    split at hk
    ·exact⟨λh=>h.2<|k2 s k hk,hrg k<|k2 s k hk⟩
    ·simp at hk
   hrange:=λk hk=>by simp at hk
   st:=hst'
   gl:=hgl.of (λb hb o=>.inl<|hb o)<|λ_ _ _=>rfl
   pin:=λv e=>by obtain⟨i,hi,rfl⟩:=A5.1 e;rw[AB]at hi;rw[ZC];refine⟨?_,hbx i hi⟩;simp only[BZ (show i < us.length by omega),AO]}
  ·rw[ZC];by_cases hs:s < os.length
   ·have⟨c,u,q1,q2,q3,q4⟩:=hin s hs;rw[Aw hs,q3,BZ (show s < us.length by omega),q2,B8];exact(k1 s c u q1 q2).slot
   ·rw[Ay hs,hout s hs,BT (show us.length<=s by omega),hul];cases hc:(args.map Px)[s - os.length]? with
    |none=>
     have:vs[s - os.length]? =none:=by rw[Jf,Aj]at hc;rw[Jf];omega
     simp only[this,Option.getD_none];exact⟨[],rfl,rfl,rfl⟩
    |some c=>have⟨v,hv,hr⟩:=hat (s - os.length) c hc;simp only[hv,B8];exact(aP (Am.1 hpl c<|B3 hc) hr).slot
  ·by_cases hs:s < os.length
   ·have⟨c,u,q1,q2,q3,q4⟩:=hin s hs;exact(hbx s hs).1
   ·rw[hout s hs]at e;cases hc:(args.map Px)[s - os.length]? with
    |none=>rw[hc]at e;cases e
    |some c=>rw[hc]at e;have hp:=Am.1 hpl c<|B3 hc;simp only[B8]at e;cases c<;>first|(cases hp;done)|(cases e;done)
  ·by_cases hs:s < os.length
   ·have⟨c,u,q1,q2,q3,q4⟩:=hin s hs;rw[q3]at e;cases c<;>first|(cases q4;done)|(cases e;done)
   ·rw[hout s hs]at e;cases hc:(args.map Px)[s - os.length]? with
    |none=>rw[hc]at e;cases e
    |some c=>rw[hc]at e;have hp:=Am.1 hpl c<|B3 hc;simp only[B8]at e;cases c<;>first|(cases hp;done)|(cases e;done)
 refine FF (h _ _ _ _ _ hrel) ?_;rintro e a' w' ⟨σ',⟨he,hres,hbox⟩,St1,B',h1,h2,h3,h4⟩
 have hfin:a'.defers=[]∧∃v,(results fn a'.tmps).run P w'=.ok v w'∧AgA P w St us bs0 os' (.bool rb) (.returned v) w':=by
  have⟨v,bs,q1,q2,q3,q4⟩:=fq htb h1 hn hres;have hl':os'.length=os.length:=by rw[<-hbox];simp[slots]
  have hk:∀k∈Sc B' 0 os'.length,(k∈bs0∨w.heap.size<=k)∧k < w'.heap.size:=λk hk=>by have⟨i,_,_,hm⟩:=QZ hk;have hr:=h1.range i k hm;refine⟨BO λhc=>?_,hr.2⟩;rw[not_or]at hc;exact hr.1 ⟨by omega,hc.1⟩
  have hrow2:Bn P w' St1 os' us (Sc B' 0 os'.length):=by
   refine aU os' us 0 (by omega) λi c u hc hu=>?_
   have hi:i < os.length:=by have:=(Dg.1 hc).1;omega
   have hcc:V.DB c=true:=Am.1 hcl c<|B3 hc;have e1:σ' i=c:=by rw[<-hbox]at hc;simp only[slots,BP,F1 hi,Cb,Ar]at hc;exact hc
   have e2:tm a' i=u:=by have:=(h1.pin (i,us.getD i undef)<|A5.2 ⟨i,AB.2 hi,rfl⟩).1;rw[AO,hu]at this;exact this
   have hs:=h1.slot i;rw[e1,e2]at hs;rw[CH];refine⟨hcc,?_⟩;cases c<;>first|exact hs|cases hcc
  refine⟨h1.defers,v,q1,v,Sc B' 0 os'.length,λb o=>(b < w.heap.size∧b∉bs0∧St b o)∨((w.heap.size<=b∨b∈bs0)∧St1 b o),rfl,h2,λb o hb hbn=>?_,λb o hh=>?_,?_,⟨rfl,q2.2⟩,RC h1.nodup h1.apart _ _,hk⟩
  ·exact⟨λhh=>hh.elim (·.2.2)<|λhh=>hh.1.elim (λh=>absurd hb<|by omega)<|λh=>absurd h hbn,λhh=>.inl ⟨hb,hbn,hh⟩⟩
  ·exact hh.elim (λhh=>Bz hh.1 h2.size)<|λhh=>h1.st b o hh.2
  ·exact Bn.kept os' hcs' hrow2<|λk hk'=>⟨rfl,λo=>⟨λhh=>hh.elim (λhh=>(hk k hk').1.elim (λh=>absurd h hh.2.1)<|λh=>absurd hh.1<|by omega) (·.2),λhh=>.inr ⟨(hk k hk').1.symm,hh⟩⟩⟩
 rcases he with rfl|rfl
 ·exact hfin
 ·exact hfin
def Ajv(tb:Tb)(rs:List ResultVar)(n:Nat)(a:List V)(r:V)(e:Exit)(σ:PS):Prop:=(e=.ret∨e=.normal)∧fo tb σ rs=some r∧slots σ n=a
def vw(i:Jr P tb){f:FuncId}{nt:Nat}{bx:zN}{rs:List ResultVar}{l:LC}{os a b:List V}{n:Bool}(o:Lit P f nt bx rs l)(e:os.length+a.length<=nt)(p:vy bx os.length=true)(d:a.all Ml=true)(j:Cw os=true)(k:os.all d8=true)(g:Cw b=true)(m:b.all V.DB=true)
  (h:LS P nt bx l (IW<|os++a.map Px) (Ajv tb rs os.length b<|.bool n)):UY P f [] os a b (.bool n):=by
 obtain⟨⟨x,c,q,r,s,rfl,rfl,t,u⟩,v,w⟩:=o;exact y5 i q r s bx e p d v j k g m<|h c t u w
end
def rH{L}:∀{xs:List Operand}{us:List Value},xs.map (TZ L)=us.map (λu=>some<|V.tok u)->xs.map (CC<|CP L)=us.map V.tok
 |[],[],_=>rfl
 |[],_::_,e=>by cases e
 |_::_,[],e=>by cases e
 |x::xs,u::us,e=>by simp only[AM,Ds]at e;rw[AM,AM,EN e.1,rH e.2]
section
variable {P:Program}{tb:Tb}{cns:zN}{L:PL}{K:PS->Prop}{t:TypeId}
def qZ{d f args ts us ys os as1 as os' r L1}(S:zN)(zs xs:List Operand)(ha:args.toList=zs++(xs++ys))(hne:xs.isEmpty=false)(hs:lk L gS=some (.gh us os))(hm:xs.map (TZ L)=us.map (λu=>some<|V.tok u))(hx:(!S.contains gS&&(zs++ys).all (Ajo S))=true)(he1:erA (CP L) zs as1)(he:erA (CP L) ys as)(hd:Cw os=true)(hp:UY P f as1 os as os' r)(hk:Y3 L S=some L1)(hsf:sfY L1)(k:K (CP<|(d,r)::(gS,.gh us os')::L1))(hc:cns.contains d=false:=by rfl):
  Jm P tb cns ⟨some d,.call {callee:=.value (.func f),args:=args,argTypes:=ts},t,none⟩ (CP L) K:=by
 have⟨h1,h2⟩:=dI he;subst h2;have⟨h3,h4⟩:=dI he1;subst h4;rw[Aa,AH]at hx;show N8 P cns _ f args.toList (CP L) K;unfold N8;rw[Ay (by simpa using hc)];cases xs with
 |nil=>cases hne
 |cons x xs=>
 refine .inr<|.inr<|.inr<|.inl ⟨zs,x,xs,ys,us,os,os',r,TA L<|gS::S,ha,rH hm,Dx hs,hd,?_,hp,?_,λq hq=>?_,?_⟩
 ·rw[Am]at h1 h3⊢;intro x hxm;rw[Aa];refine⟨(Ak.1 hxm).elim (h3 x)<|h1 x,?_⟩;have:=Am.1 hx.2 x hxm;unfold Ajo at this;split at this
  ·rename_i q;simp only[o6,AH];cases hc:(TA L<|gS::S).contains q with
   |false=>rfl
   |true=>exact absurd (A3 _<|by simpa using this) (N0.1 hc).2
  ·rfl
  ·rfl
  ·rfl
  ·cases this
 ·cases hc:(TA L<|gS::S).contains gS with
  |false=>rfl
  |true=>exact absurd BH (N0.1 hc).2
 ·by_cases hD:(TA L<|gS::S).contains q=true
  ·exact .inl hD
  ·right;by_cases hm:q∈L.map (·.1)
   ·have hS:q∈S:=BO λh=>hD (N0.2 ⟨hm,λh'=>(AE.1 h').elim hq h⟩)
    have⟨L',k1,k2⟩:=Be hk;have⟨_,k2⟩:=DU k2;cases k2;rw[Dx ((UK k1).1 q hS)];exact kN hsf q
   ·rw[Xf hm];rfl
 ·have e4:upd (kill (TA L<|gS::S)<|CP L) gS (.gh us os')=CP ((gS,.gh us os')::L1):=by
   rw[EI];funext q;by_cases hq:q=gS
   ·subst hq;rw[upd_same,upd_same]
   ·rw[upd_ne _ _ hq,upd_ne _ _ hq];exact aE hk hq
  show K (upd (upd (kill (TA L<|gS::S)<|CP L) gS<|.gh us os') d r);rw[e4];exact k
end
end
section
def tE(U:Nat->Value)(j:Nat):List V:=[.tok (U j)]
def ztE{U}(j:Nat):(tE U j).length=1:=rfl
def dtE{U}(j:Nat):EF (tE U j)=true:=rfl
def Qc{α:Type}(l:List α):zN:=(GO 0 l).map (·.1)
def km(n:Nat):zN->zN->Bool
 |[],_=>true
 |j::J,seen=>(Nat.blt j n&& !seen.contains j)&&km n J (j::seen)
def KS{α:Type}(l:List α)(J:zN):List α:=J.flatMap λj=>(l[j]?).toList
def Yr:List V->Bool
 |[.own _ _ _]=>true
 |_=>false
def qY:∀{ds:List V},Yr ds=true->∃e n cs,ds=[.own e n cs]
 |[],h=>by cases h
 |[c],h=>by cases c<;>first|exact⟨_,_,_,rfl⟩|cases h
 |c::d::ds,h=>by cases c<;>cases h
def tok1{ds}(h:Yr ds=true):ds=[Fd ds]∧d8 (Fd ds)=true:=by obtain⟨e,n,cs,rfl⟩:=qY h;exact⟨rfl,rfl⟩
def d9{c}(h:d8 c=true):∃e n cs,c=.own e n cs:=by cases c<;>first|exact⟨_,_,_,rfl⟩|cases h
def iR{α:Type}{l:List α}:∀{J a:zN},km l.length J a=true->(KS l J).length=J.length
 |[],_,_=>rfl
 |j::J,a,h=>by
  simp only[km,Aa]at h;have b:j < l.length:=by simpa[Nat.blt_eq]using h.1.1
  have:=iR h.2;unfold KS at this⊢;rw[Ax,Au,this,Ae b];simp;omega
section
variable {P:Program}{w:World}{St:Nat->Nat->Prop}{α:Type}{f:α->List V}{U:Nat->Value}
def nc(d:∀x,Yr (f x)=true):∀(L:List (Nat×α)) {xs:List Value}{b:zN},Bn P w St (L.flatMap<|pE f U) xs b->Bn P w St ((L.map (·.1)).flatMap<|tE U) xs b
 |[],_,_,h=>h
 |p::L,_,_,h=>by
  have⟨e,n,cs,g⟩:=qY<|d p.2;rw[Ax]at h;have i:pE f U p=[.pin (U p.1) n (QF cs)]:=by unfold pE;rw[g];rfl
  rw[i]at h;have⟨u,a,b1,b2,j,k,o,⟨l,c⟩,m⟩:=h;rw[AM,Ax];exact⟨u,a,b1,b2,j,k,rfl,⟨l,c.1,c.1 ▸ c.oneCell⟩,nc d L m⟩
def wr(A:∀x,Yr (f x)=true){l:List α}{us:List Value}{bs:zN}(B:Bn P w St (l.map λx=>Fd<|f x) us bs)(H:bs.Nodup)(I:∀i,i < l.length->U i=us.getD i undef):
  ∀(J:zN) {xs:List Value}{m:zN},km l.length J []=true->Bn P w St (J.flatMap<|tE U) xs m->∃b',Bn P w St ((KS l J).flatMap f) xs b'∧b'.Nodup∧∀g∈b',g∈bs:=by
 have⟨β,K,L,M,N⟩:=UQ B H;have o:=B.length;rw[Aj]at o
 have r:∀(J c:zN) {xs:List Value}{m:zN},km l.length J c=true->Bn P w St (J.flatMap<|tE U) xs m->
   ∃b',Bn P w St ((KS l J).flatMap f) xs b'∧b'.Nodup∧(∀g∈b',g∈bs)∧∀i∈c,∀g∈β i,g∉b':=by
  intro J;induction J with
  |nil=>intro c xs m _ h;exact⟨[],⟨h.1,rfl⟩,AP,by simp,by simp⟩
  |cons j J O=>
   intro c xs m d h;rw[Ax]at h;have⟨u,s,b1,b2,t,C,D,⟨q4,Q,q6⟩,R⟩:=h;simp only[km,Aa,AH]at d;have⟨⟨g1,g2⟩,S⟩:=d;have v:j < l.length:=by simpa[Nat.blt_eq]using g1
   have⟨b',T,W,X,F⟩:=O (j::c) S R;have y:us[j]? =some u:=by have:=I j v;rw[<-Q]at this;rw[this,AO,Ae (by omega)];rfl
   have p:=K j _ _ (by rw[BP,Ae v];rfl) y;refine⟨β j++b',?_,?_,?_,?_⟩
   ·unfold KS;rw[Ax,CK,Ae v];have Y:([l[j]]:List α).flatMap f=[Fd (f l[j])]:=by rw[Ax,Fv,AR];exact(tok1<|A _).1
    show Bn P w St (([l[j]]:List α).flatMap f++_) xs _;rw[Y,t];have⟨e,n,cs,Z⟩:=d9 (tok1<|A l[j]).2;exact⟨u,s,β j,b',rfl,rfl,by rw[Z];rfl,p,T⟩
   ·refine AA.2 ⟨M j,W,λa ha b hb e=>?_⟩;subst e;exact F j (by simp) a ha hb
   ·intro g k;rcases Ak.1 k with k|k
    ·exact L j g k
    ·exact X g k
   ·intro i hi g k q;rcases Ak.1 q with q|q
    ·have z:i≠j:=λe=>by
      subst e;have:c.contains i=true:=by simpa using hi
      rw[this]at g2;cases g2
     exact N i j z g k q
    ·exact F i (by simp[hi]) g k q
 intro J xs m d h;have⟨b',t,C,D,_⟩:=r J [] d h;exact⟨b',t,C,D⟩
def kv(h1:∀x,Yr (f x)=true){e:TypeId}{J:zN}{v:Value}{b1:zN}{l:List α}{us:List Value}{bs:zN}(h:Ow P w St (.own e J.length<|J.flatMap<|tE U) v b1)(ht:Bn P w St (l.map λx=>Fd<|f x) us bs)(hn:bs.Nodup)
  (hU:∀i,i < l.length->U i=us.getD i undef) (hok:km l.length J []=true) (hb1:b1.Nodup) (hd:∀g∈b1,g∉bs):∃b',Ow P w St (.own e (KS l J).length<|(KS l J).flatMap f) v b'∧b'.Nodup∧∀g∈b',g∈b1∨g∈bs:=by
 obtain⟨hl,xs,bs',hx,hr,rfl,hst,h0⟩:=h;obtain⟨n1,n2,n3⟩:=AA.1 hb1;obtain⟨b',q1,q2,q3⟩:=wr h1 ht hn hU J hok hr;have hlen:=iR hok;refine⟨v.ownBlock.toList++b',⟨by rw[hlen];exact hl,xs,b',by rw[hlen];exact hx,q1,rfl,by rw[hlen];exact hst,λhz=>?_⟩,?_,?_⟩
 ·have:KS l J=[]:=Bp hz;rw[this];rfl
 ·refine AA.2 ⟨n1,q2,λa ha b hb e=>?_⟩;subst e;exact hd a (AF _ ha)<|q3 a hb
 ·intro g hg;rcases Ak.1 hg with hg|hg
  ·exact .inl<|AF _ hg
  ·exact .inr<|q3 g hg
end
section
variable {P:Program}{nt:Nat}{bx:zN}{σ:PS}{K:PS->Prop}{L:PL}{α:Type}{f:α->List V}{U:Nat->Value}{e:TypeId}
def qp{s c c'}(g:σ s=c)(W:∀w a t v bs,Cr P w a t c v bs->Cr P w a t c' v bs)(i:(C6 c').isSome=(C6 c).isSome)(b:D3 c'=none)(h:Gh P nt bx (upd σ s c') K):Gh P nt bx σ K:=
 uV g (λw a t v bs h j=>⟨[],bs,by simp,λg d=>d,j,(W w a t v bs h).mono (λ_ _ h=>.inl h) (λ_ _ _=>rfl) (λg d=>⟨rfl,λo=>⟨λh=>h.elim id (λh=>by simp at h),.inl⟩⟩)<|λ_ _=>rfl⟩) i b h
def gWl{s:Nat}{l:List (Nat×α)}(hs:lk L s=some (.own e l.length<|l.flatMap<|pE f U))(h1:∀x,Yr (f x)=true)(h:Gh P nt bx (CP<|(s,.own e (l.map (·.1)).length<|(l.map (·.1)).flatMap<|tE U)::L) K):Gh P nt bx (CP L) K:=by refine qp (c':=.own e (l.map (·.1)).length<|(l.map (·.1)).flatMap<|tE U) (Dx hs) (λw St t v bs hh=>?_) rfl rfl (by rw[EI]at h;exact h);obtain⟨hl,xs,bs',hx,hr,hb,hst,h0⟩:=(show Ow P w St _ v bs from hh);refine⟨by rw[Aj];exact hl,xs,bs',by rw[Aj];exact hx,nc h1 l hr,hb,by rw[Aj];exact hst,λhz=>?_⟩;have:l=[]:=Bp (by rw[Aj]at hz;exact hz);subst this;rfl
def gWt{s u n cs}(b:lk L s=some (.pin u n cs))(h:Gh P nt bx (CP<|(s,.tok u)::L) K):Gh P nt bx (CP L) K:=by refine qp (c':=.tok u) (Dx b) (λw c t v bs d=>?_) rfl rfl (by rw[EI]at h;exact h);have⟨g,a⟩:=(show Ow P w c (.pin u n cs) v bs from d);exact⟨g,a.1,(show v=u from a.1) ▸ a.oneCell⟩
def gTj{s q l us J}(n:lk L s=some (.own e J.length<|J.flatMap<|tE U))(o:lk L q=some (.gh us<|l.map λx=>Fd<|f x))(c:Nat.beq s q=false)(t:∀x,Yr (f x)=true)(u:∀i,i < l.length->U i=us.getD i undef)(k:km l.length J []=true)
  (h:Gh P nt bx (CP<|(q,.undef)::(s,.own e (KS l J).length<|(KS l J).flatMap f)::L) K):Gh P nt bx (CP L) K:=by
 have d:s≠q:=λe=>by rw[e]at c;simp at c
 rintro base St0 v a w ⟨m,B,b,y,z,A⟩;have p:=b.slot s;rw[Dx n]at p;have r:=b.slot q;rw[Dx o]at r;have⟨b',C,D,F⟩:=kv t (show Ow P w m _ _ (B s)from p) r (b.nodup q) u k (b.nodup s)<|λg j=>b.apart s q d g j
 refine h base St0 v a w ⟨m,upd (upd B s b') q [],?_,y,z,A⟩;rw[EI,EI,show upd (upd (CP L) s<|V.own e (KS l J).length<|(KS l J).flatMap f) q .undef=upd (upd (CP L) s<|V.own e (KS l J).length<|(KS l J).flatMap f) q .undef from rfl];exact MB b d (by rw[Dx o];rfl) C (show Cr P w m (tm a) .undef _ []from rfl) (by rw[AR];exact D) (λg j=>by rw[AR]at j;exact F g j) (by rw[Dx n];rfl) rfl rfl rfl
def YU{l:List α}{i:Int}{x:α}(h:AN l i=some x):l[i.toNat]? =some x:=by obtain⟨b,c,a⟩:=BE h;exact a
end
section
variable {P:Program}{w:World}{St:Nat->Nat->Prop}
def WV(P:Program)(w:World)(St:Nat->Nat->Prop)(cs:List V)(us:List Value)(β:Nat->zN):Prop:=
 us.length=cs.length∧∀j c u,cs[j]? =some c->us[j]? =some u->c.DB=true∧Ow P w St c u (β j)
def WV.fill{cs us β}(h:WV P w St cs us β){i:Nat}{u:Value}{c:V}{d:zN}(f:us[i]? =some u)(g:c.DB=true)(k:Ow P w St c u d):WV P w St (cs.set i c) us (λj=>if j=i then d else β j):=by
 refine⟨by rw[Ch];exact h.1,λj c' l a b=>?_⟩;rw[Ha]at a;by_cases e:i=j
 ·subst e;rw[Aw rfl]at a;split at a
  ·cases a;rw[f]at b;cases b;dsimp only;rw[Aw rfl];exact⟨g,k⟩
  ·cases a
 ·rw[Ay e]at a;dsimp only;rw[Ay (λe':j=i=>e e'.symm)];exact h.2 j c' l a b
def WV.row{cs us β}(h:WV P w St cs us β):Bn P w St cs us (Sc β 0 cs.length):=
 aU cs us 0 h.1 λi c u a b=>by rw[CH];exact h.2 i c u a b
def lJ{c u b}(a:c.DB=true)(h:Ow P w St c u b):Ow P w St (.tok u) u []:=
 ⟨rfl,rfl,(Ow.rd c h<|by cases c<;>first|rfl|cases a).oneCell⟩
def Bn.pS{cs us bs}(h:Bn P w St cs us bs)(b:bs.Nodup)(d:cs.all V.DB=true):∃β,WV P w St cs us β∧(∀i,∀g∈β i,g∈bs)∧(∀i,(β i).Nodup)∧∀i j,i≠j->∀g∈β i,g∉β j:=by have⟨β,e,f,k,l⟩:=UQ h b;exact⟨β,⟨h.length,λj c u a m=>⟨Am.1 d c<|B3 a,e j c u a m⟩⟩,f,k,l⟩
end
def xe{β:Type}{cs:List β}{i p:Nat}{a b c d:β}(h:i≠p):(((cs.set i a).set p b).set i c).set p d=(cs.set i c).set p d:=by
 apply List.ext_getElem?;intro j;simp only[Ha,Ch];by_cases e:p=j
 ·simp[e]
 ·by_cases f:i=j
  ·subst f;simp[e]
  ·simp[e,f]
section
variable {P:Program}{nt:Nat}{bx:zN}{K:PS->Prop}{L:PL}{α:Type}{f:α->List V}{U:Nat->Value}
def i8(a:∀x,Yr (f x)=true)(l:List α):(l.map λx=>Fd<|f x).all V.DB=true:=by rw[Lx,Am];intro x _;have⟨e,n,cs,b⟩:=d9 (tok1<|a x).2;show V.DB (Fd<|f x)=true;rw[b];rfl
def Xu(a:∀x,Yr (f x)=true)(x:α):(Fd<|f x).DB=true:=by have⟨e,n,cs,b⟩:=d9 (tok1<|a x).2;rw[b];rfl
def gT2{q:Nat}{l:List α}{us:List Value}{i p:Int}{x y:α}(W:lk L q=some (.gh us<|l.map λx=>Fd<|f x))(d:lk L gS=none)(r:Nat.beq q gS=false)(s:∀x,Yr (f x)=true)(hU:∀i,i < l.length->U i=us.getD i undef)(gi:AN l i=some x)(gp:AN l p=some y)(t:Nat.beq i.toNat p.toNat=false)
  (h:Gh P nt bx (CP<|(gS,.gh [U i.toNat,U p.toNat] [Fd (f x),Fd (f y)])::(q,.gh us<|((l.map λx=>Fd<|f x).set i.toNat<|.tok<|U i.toNat).set p.toNat<|.tok<|U p.toNat)::L) K):Gh P nt bx (CP L) K:=by
 have I:q≠gS:=λe=>by rw[e]at r;simp at r
 have u:i.toNat≠p.toNat:=λe=>by rw[e]at t;simp at t
 rintro base St0 w0 a w ⟨o,B,J,r1,r2,r3⟩;have X:=J.slot q;rw[Dx W]at X;have M:Bn P w o (l.map λx=>Fd<|f x) us (B q):=X;obtain⟨β,N,m,O,F⟩:=M.pS (J.nodup q)<|i8 s l;have v:=N.1;rw[Aj]at v;have hi:=YU gi;have hp:=YU gp
 have A:∀j z,l[j]? =some z->us[j]? =some (U j)∧Ow P w o (Fd<|f z) (U j) (β j):=λj z Y=>by
  have C:=(Dg.1 Y).1;have Z:us[j]? =some (U j):=by rw[hU j C,AO,Ae (by omega)];rfl
  exact⟨Z,(N.2 j _ _ (by rw[BP,Y];rfl) Z).2⟩
 obtain⟨ui,oi⟩:=A _ _ hi;obtain⟨up,op⟩:=A _ _ hp;have m1:=(N.fill ui (c:=.tok<|U i.toNat) rfl<|lJ (Xu s x) oi).fill up (c:=.tok<|U p.toNat) rfl<|lJ (Xu s y) op
 have H:∀j g,g∈(if j=p.toNat then([]:zN)else if j=i.toNat then []else β j)->g∈β j∧j≠i.toNat∧j≠p.toNat:=λj g d=>by
  split at d
  ·simp at d
  ·split at d
   ·simp at d
   ·exact⟨d,by assumption,by assumption⟩
 obtain⟨D,Q,m2⟩:∃D,D=_∧Bn P w o _ us D:=⟨_,rfl,m1.row⟩;refine h base St0 w0 a w ⟨o,upd (upd B q D) gS<|β i.toNat++β p.toNat,?_,r1,r2,r3⟩;rw[EI,EI];refine MB J I (by rw[S4,d];rfl) (show Cr P w o (tm a) (.gh us _) _ D from m2) (show Cr P w o (tm a) (.gh [U i.toNat,U p.toNat] _) _ (β i.toNat++β p.toNat)from⟨_,_,β i.toNat,β p.toNat,rfl,rfl,Xu s x,oi,_,_,β p.toNat,[],rfl,(AR _).symm,Xu s y,op,rfl,rfl⟩) ?_ ?_ (by rw[Dx W];rfl) rfl rfl rfl<;>subst Q
 ·refine AA.2 ⟨RC (λj=>?_) (λj k R g d S=>F j k R g (H j g d).1 (H k g S).1) _ _,AA.2 ⟨O _,O _,λa T b n e=>F _ _ u a T<|e ▸ n⟩,λa T b n e=>?_⟩
  ·split
   ·exact AP
   ·split
    ·exact AP
    ·exact O j
  ·subst e;obtain⟨j,_,_,C⟩:=QZ T;obtain⟨q1,q2,q3⟩:=H j a C;rcases Ak.1 n with n|n
   ·exact F j _ q2 a q1 n
   ·exact F j _ q3 a q1 n
 ·intro g d;left;rcases Ak.1 d with d|d
  ·obtain⟨j,_,_,C⟩:=QZ d;exact m j g (H j g C).1
  ·rcases Ak.1 d with d|d
   ·exact m _ g d
   ·exact m _ g d
def gJ2{q:Nat}{l:List α}{us:List Value}{i p:Int}{x y x' y':α}(d:lk L gS=some (.gh [U i.toNat,U p.toNat] [Fd (f x'),Fd (f y')]))(hq:lk L q=some (.gh us<|((l.map λx=>Fd<|f x).set i.toNat<|.tok<|U i.toNat).set p.toNat<|.tok<|U p.toNat))(v:Nat.beq q gS=false)(h1:∀x,Yr (f x)=true)(hU:∀i,i < l.length->U i=us.getD i undef)(gi:AN l i=some x)(gp:AN l p=some y)(z:Nat.beq i.toNat p.toNat=false)
  (h:Gh P nt bx (CP<|(gS,.undef)::(q,.gh us<|(En (En l i x') p y').map λx=>Fd<|f x)::L) K):Gh P nt bx (CP L) K:=by
 have A:q≠gS:=λe=>by rw[e]at v;simp at v
 have C:i.toNat≠p.toNat:=λe=>by rw[e]at z;simp at z
 rintro base St0 w0 a w ⟨t,B,u,r1,r2,r3⟩;have k2:=u.slot q;rw[Dx hq]at k2;have N:Bn P w t _ us (B q):=k2;have kS:=u.slot gS;rw[Dx d]at kS;obtain⟨u1,us1,O,d2',e1,D,c1,o1,u2,us2,Q,d3,e3,e4,c2,o2,e5,e6⟩:=(show Bn P w t [Fd (f x'),Fd (f y')] _ (B gS)from kS);obtain⟨rfl,rfl⟩:=List.cons.inj e1;obtain⟨rfl,rfl⟩:=List.cons.inj e3;subst e6;rw[AR]at e4;rw[e4]at D
 have r:(((l.map λx=>Fd<|f x).set i.toNat<|.tok<|U i.toNat).set p.toNat<|.tok<|U p.toNat).all V.DB=true:=by
  rw[Am];intro c F;rcases List.mem_or_eq_of_mem_set F with F|rfl
  ·rcases List.mem_or_eq_of_mem_set F with F|rfl
   ·exact Am.1 (i8 h1 l) c F
   ·rfl
  ·rfl
 obtain⟨β,k1,H,k3,k4⟩:=N.pS (u.nodup q) r;have I:=k1.1;rw[Ch,Ch,Aj]at I;have hi:=(Dg.1<|YU gi).1;have hp:=(Dg.1<|YU gp).1;have J:∀j,j < l.length->us[j]? =some (U j):=λj R=>by rw[hU j R,AO,Ae (by omega)];rfl
 have m1:=(k1.fill (J _ hi) c1 o1).fill (J _ hp) c2 o2;rw[xe C,<-List.map_set (f:=λx=>Fd<|f x),<-List.map_set (f:=λx=>Fd<|f x)]at m1;have o:=u.nodup gS;rw[D]at o;obtain⟨n1,n2,n3⟩:=AA.1 o;have b:∀j g,g∈β j->g∉O∧g∉Q:=λj g S=>by have:=u.apart q gS A g<|H j g S;rw[D,Ak,not_or]at this;exact this
 have T:∀j g,g∈(if j=p.toNat then Q else if j=i.toNat then O else β j)->(j=p.toNat∧g∈Q)∨(j=i.toNat∧g∈O)∨g∈β j:=λj g d=>by
  split at d
  ·rename_i e;exact .inl ⟨e,d⟩
  ·split at d
   ·rename_i e;exact .inr<|.inl ⟨e,d⟩
   ·exact .inr<|.inr d
 obtain⟨M,W,m2⟩:∃M,M=_∧Bn P w t _ us M:=⟨_,rfl,m1.row⟩;refine h base St0 w0 a w ⟨t,upd (upd B q M) gS [],?_,r1,r2,r3⟩;rw[EI,EI];refine MB u A (by rw[Dx d];rfl) (show Cr P w t (tm a) (.gh us _) _ M from m2) (show Cr P w t (tm a) .undef _ []from rfl) ?_ ?_ (by rw[Dx hq];rfl) rfl rfl rfl<;>subst W
 ·rw[AR];refine RC (λj=>?_) (λj k s g d X=>?_) _ _
  ·split
   ·exact n2
   ·split
    ·exact n1
    ·exact k3 j
  ·rcases T j g d with⟨Y,m⟩|⟨Y,m⟩|m<;>rcases T k g X with⟨Z,n⟩|⟨Z,n⟩|n
   ·exact s<|Y.trans Z.symm
   ·exact n3 g n g m rfl
   ·exact(b k g n).2 m
   ·exact n3 g m g n rfl
   ·exact s<|Y.trans Z.symm
   ·exact(b k g n).1 m
   ·exact(b j g m).2 n
   ·exact(b j g m).1 n
   ·exact k4 j k s g m n
 ·intro g d;rw[AR]at d;obtain⟨j,_,_,R⟩:=QZ d;rcases T j g R with⟨_,q⟩|⟨_,q⟩|q
  ·exact .inr (by rw[D];exact Az _ q)
  ·exact .inr (by rw[D];exact AF _ q)
  ·exact .inl<|H j g q
def hU2{l:List α}{us:List Value}{i p:Int}{x y:α}(a:∀i,i < l.length->U i=us.getD i undef):∀j,j < (En (En l i x) p y).length->U j=us.getD j undef:=λj b=>a j (by simpa[En]using b)
end
def Aas{α:Type}{f:α->List V}{us:List Value}(a:∀x,Yr (f x)=true)(b:∀x,EF (f x)=true):∀(l:List α),KT (.gh us<|l.map λx=>Fd<|f x)=true
 |[]=>rfl
 |x::l=>by have d:EF (l.map λx=>Fd<|f x)=true:=Aas (us:=us) a b l;have c:=b x;rw[(tok1<|a x).1,EF,Aa]at c;show EF (Fd (f x)::l.map λx=>Fd<|f x)=true;rw[EF,c.1,d];rfl
def Z7{α:Type}:∀(l:List α) (k j:Nat),(GO k l)[j]? =(l[j]?).map λx=>(k+j,x)
 |[],_,_=>by simp[GO]
 |x::l,k,0=>by simp[GO]
 |x::l,k,j+1=>by rw[GO,D1,D1,Z7 l (k+1) j,show k+1+j=k+(j+1)from by omega]
def qo{α:Type}{l:List α}{i:Int}{a:Nat×α}(h:AN (GO 0 l) i=some a):a.1=i.toNat∧AN l i=some a.2:=by
 obtain⟨d,e,b⟩:=BE h;rw[Z7,CH]at b;cases c:l[i.toNat]? with
 |none=>rw[c]at b;cases b
 |some x=>rw[c]at b;cases b;refine⟨rfl,?_⟩;rw[W9]at e;unfold AN;rw[Aw d];exact c
section
variable {P:Program}{nt:Nat}{bx:zN}{K:PS->Prop}{L:PL}{α:Type}{f:α->List V}{U:Nat->Value}
def gT3{q:Nat}{l:List α}{us:List Value}{i p:Int}{a b:Nat×α}(e:lk L q=some (.gh us<|l.map λx=>Fd<|f x))(g:lk L gS=none)(d:Nat.beq q gS=false)(j:∀x,Yr (f x)=true)(k:∀i,i < l.length->U i=us.getD i undef)(m:AN (GO 0 l) i=some a)(n:AN (GO 0 l) p=some b)(c:Nat.beq a.1 b.1=false)
  (h:Gh P nt bx (CP<|(gS,.gh [U a.1,U b.1] [Fd (f a.2),Fd (f b.2)])::(q,.gh us<|((l.map λx=>Fd<|f x).set a.1<|.tok<|U a.1).set b.1<|.tok<|U b.1)::L) K):Gh P nt bx (CP L) K:=by
 obtain⟨o,g1⟩:=qo m;obtain⟨r,g2⟩:=qo n;rw[o,r]at c h;exact gT2 e g d j k g1 g2 c h
def gJ3{q:Nat}{l:List α}{us:List Value}{i p:Int}{a b:Nat×α}{x' y':α}(e:lk L gS=some (.gh [U a.1,U b.1] [Fd (f x'),Fd (f y')]))(g:lk L q=some (.gh us<|((l.map λx=>Fd<|f x).set a.1<|.tok<|U a.1).set b.1<|.tok<|U b.1))(d:Nat.beq q gS=false)(j:∀x,Yr (f x)=true)(k:∀i,i < l.length->U i=us.getD i undef)(m:AN (GO 0 l) i=some a)(n:AN (GO 0 l) p=some b)(c:Nat.beq a.1 b.1=false)
  (h:Gh P nt bx (CP<|(gS,.undef)::(q,.gh us<|(En (En l i x') p y').map λx=>Fd<|f x)::L) K):Gh P nt bx (CP L) K:=by
 obtain⟨o,g1⟩:=qo m;obtain⟨r,g2⟩:=qo n;rw[o,r]at c e g;exact gJ2 e g d j k g1 g2 c h
end
def pn:∀{cs:List V}{i:Nat}{c:V},EF cs=true->QM c=true->EF (cs.set i c)=true
 |[],_,_,_,_=>rfl
 |d::cs,0,c,h,a=>by rw[EF,Aa]at h;rw[Nv,EF,a,h.2];rfl
 |d::cs,i+1,c,h,a=>by rw[EF,Aa]at h;rw[List.set_cons_succ,EF,h.1,pn h.2 a];rfl
def Alk{α:Type}{f:α->List V}{us:List Value}(a:∀x,Yr (f x)=true)(b:∀x,EF (f x)=true)(l:List α){i j:Nat}{u v:Value}:KT (.gh us<|((l.map λx=>Fd<|f x).set i<|.tok u).set j<|.tok v)=true:=
 pn (pn (Aas (us:=us) a b l) rfl) rfl
def qIp{P:Program}{tb:Tb}{cns:zN}{L:PL}{K:PS->Prop}{s t:TypeId}{x y:Operand}{d:Nat}{α:Type}{f g:α->List V}{l:List α}{i:Int}{e:α}{n:Nat}(h:iaO tb L s x y=some (l.length,QF<|l.flatMap f,i,n))(a:∀x,QF (f x)=g x)(b:∀x,(g x).length=n)(hi:AN l i=some e)(k:K (CP<|(d,.adr (g e++(l.drop<|i.toNat+1).flatMap g) 0)::L)):Jm P tb cns ⟨some d,.indexAddr s x y,t,none⟩ (CP L) K:=
 qI (by rw[h,SK a]) b hi k
end
section
section
variable {P:Program}{nt:Nat}{base:Bs}{bx:zN}{St St0:Nat->Nat->Prop}{B:Nat->zN}{hand:zN}{σ:PS}{a:Act}{w w0:World}{K:PS->Prop}{L:PL}
def HSim.fact(h:HSim P nt bx base St B hand σ a w){s q:Nat}(l:∃cs,C6 (σ s)=some cs)(m:C6 (σ q)=none):HSim P nt bx base St (upd B q []) hand (upd σ q<|.val s<|tm a s) a w:=
 have i:∀b,(∃cs,C6 (σ b)=some cs)->b≠q:=λb ⟨cs,e⟩ f=>by rw[f,m]at e;cases e
 have d:∀r,∀g∈upd B q [] r,g∈B r:=λr g c=>by
  by_cases e:r=q
  ·subst e;rw[upd_same]at c;simp at c
  ·rw[upd_ne _ _ e]at c;exact c
 {h with
  slot:=λr=>by
   by_cases e:r=q
   ·subst e;rw[upd_same,upd_same];exact⟨rfl,rfl⟩
   ·rw[upd_ne _ _ e,upd_ne _ _ e];exact h.slot r
  boxes:=λr cs e=>by
   by_cases f:r=q
   ·subst f;rw[upd_same]at e;cases e
   ·rw[upd_ne _ _ f]at e;exact h.boxes r cs e
  crefs:=λr b e=>by
   by_cases f:r=q
   ·subst f;rw[upd_same]at e;simp only[D3,Ar]at e;subst e;rw[upd_ne _ _ (i _ l)];exact l
   ·rw[upd_ne _ _ f]at e;have:=h.crefs r b e;rw[upd_ne _ _ (i _ this)];exact this
  nodup:=λr=>by
   by_cases e:r=q
   ·subst e;rw[upd_same];exact AP
   ·rw[upd_ne _ _ e];exact h.nodup r
  apart:=λr t j g c k=>h.apart r t j g (d r g c)<|d t g k
  hapart:=λr g c=>h.hapart r g<|d r g c
  range:=λr g c=>h.range r g (d r g c)}
def gFv{s:Nat}{cs}(b:lk L s=some (.box cs))(c:lk L (gV s)=none)(h:∀u,Gh P nt bx (CP<|(gV s,.val s u)::L) K):Gh P nt bx (CP L) K:=by rintro base St0 w0 a w ⟨St,B,d,e,f,g⟩;have i:=d.fact (s:=s) (q:=gV s) ⟨cs,by rw[Dx b];rfl⟩ (by rw[S4,c];rfl);exact h (tm a s) base St0 w0 a w ⟨St,_,by rw[EI];exact i,e,f,g⟩
end
def VL:Nat->List Value->PS->PS
 |_,[],σ=>σ
 |m,u::us,σ=>upd (VL (m+1) us σ) (gV m)<|.val m u
def ac{σ q}:∀{us:List Value}{m:Nat},(∀j,m<=j->q≠gV j)->VL m us σ q=σ q
 |[],_,_=>rfl
 |u::us,m,h=>by rw[VL,upd_ne _ _ (h m<|AJ _),ac λj a=>h j (by omega)]
def Agn(bx:zN)(m n:Nat):Bool:=(List.range n).all λi=>bx.contains (m+i)&&bx.contains (TP+(m+i))
section
variable {P:Program}{nt:Nat}{base:Bs}{bx:zN}{St:Nat->Nat->Prop}{a:Act}{w:World}
def dU{σ}:∀{us:List Value}{m:Nat}{B:Nat->zN},HSim P nt bx base St B [] σ a w->(∀i u,us[i]? =some u->tm a (m+i)=u∧(∃cs,C6 (σ<|m+i)=some cs)∧m+i < 910000)->(∀j,m<=j->C6 (σ<|gV j)=none)->∃B',HSim P nt bx base St B' [] (VL m us σ) a w
 |[],_,B,h,_,_=>⟨B,h⟩
 |u::us,m,B,h,b,c=>by
  have⟨p,f⟩:=dU (us:=us) (m:=m+1) h (λi v g=>by
   have:=b (i+1) v (by simpa using g)
   rwa [show m+(i+1)=m+1+i from by omega]at this) (λj k=>c j (by omega))
  have⟨d,e,l⟩:=b 0 u rfl;rw[CG]at d e l;have n:VL (m+1) us σ m=σ m:=ac λj _=>by unfold gV;omega
  have o:VL (m+1) us σ (gV m)=σ (gV m):=ac λj k=>by unfold gV;omega
  have:=f.fact (s:=m) (q:=gV m) (by rw[n];exact e) (by rw[o];exact c m<|AJ _);rw[d]at this;exact⟨_,this⟩
end
section
variable {P:Program}{tb:Tb}
def Ago(htb:Jr P tb){f:FuncId}{fn:Func}{c:Code}{us:List Value}{css css':List (List V)}{args:List V}{r:V}(hf:P.funcs[f]? =some fn)(hb:fn.body=some c)(hname:(fn.name== "runtime.NumGoroutine")=false)(bx:zN)(hlen:args.length+css.length<=fn.ntmps)(hnt:fn.ntmps<=910000)(h0:Agn bx args.length css.length=true)(hargs:args.all Te=true)
  (hn:(fn.results.toList.map Qj).Nodup) (hrp:r=.tup []∨Pj r=true) (h:Oy P fn.ntmps bx c (VL args.length us<|IW<|args++css.map V.box) (λe σ=>(e=.ret∨e=.normal)∧fo tb σ fn.results.toList=some r∧((List.range css.length).map λi=>σ<|args.length+i)=css'.map V.box)):YD P f us css args css' r:=by
 refine⟨⟨fn,hf,by rw[hb];rfl,hname⟩,λw St bs0 vs hst hgl hrow hnd hrg hvs=>?_⟩;have⟨hl,hat⟩:=args_at hvs;have hul:=hrow.length;have hss:((List.range css.length).map (args.length+ ·)).Nodup:=by unfold List.Nodup;rw[Es];exact K5 (λh e=>h<|by omega)<|show(List.range css.length).Pairwise (· ≠ ·)from Ed
 have⟨β,m1,m2,m3,m4⟩:=ZZ (ss:=(List.range css.length).map (args.length+ ·)) hrow hnd hss (by simp)
 have hssm:∀s,s∈(List.range css.length).map (args.length+ ·)↔args.length<=s∧s < args.length+css.length:=λs=>by
  rw[A5];constructor
  ·rintro⟨i,hi,rfl⟩;rw[AB]at hi;omega
  ·rintro⟨h1,h2⟩;exact⟨s - args.length,AB.2 (by omega),by omega⟩
 have hbx:∀i,i < css.length->args.length+i∈bx∧TP+(args.length+i)∈bx:=λi hi=>by have:=Am.1 h0 i<|AB.2 hi;simpa[Aa,Av]using this
 have hini:∀s,s < args.length->IW (args++css.map V.box) s=(args[s]?).getD (.tup []):=λs hs=>by simp only[IW,BZ hs]
 have hinb:∀s,args.length<=s->IW (args++css.map V.box) s=((css[s - args.length]?).map V.box).getD (.tup []):=λs hs=>by simp only[IW,BT hs,BP]
 refine Lt hf hb ?_
 have hsim:HSim P fn.ntmps bx ⟨λb=>b < w.heap.size∧b∉bs0,(List.range css.length).map λi=>(args.length+i,us.getD i undef)⟩ St (λs=>if args.length<=s∧s < args.length+css.length then β s else []) [] (IW<|args++css.map V.box) {tmps:=(vs++us).toArray++Array.replicate (fn.ntmps - (vs++us).toArray.size) undef,defers:=[]} w:=by
  refine
  {size:=by simp;omega
   defers:=rfl
   slot:=λs=>?_
   boxes:=λs cs e=>?_
   crefs:=λs b e=>?_
   nodup:=λs=>by
    split
    ·exact m3 s
    ·exact AP
   apart:=λs t hst k hk hk'=>by
    split at hk
    ·split at hk'
     ·rename_i q1 q2;exact m4 s ((hssm s).2 q1) t ((hssm t).2 q2) hst k hk hk'
     ·simp at hk'
    ·simp at hk
   hnodup:=AP
   hapart:=λ_ k hk=>by simp
   range:=λs k hk=>by
    split at hk
    ·rename_i q1;exact⟨λh=>h.2<|m2 s ((hssm s).2 q1) k hk,hrg k<|m2 s ((hssm s).2 q1) k hk⟩
    ·simp at hk
   hrange:=λk hk=>by simp at hk
   st:=hst
   gl:=hgl
   pin:=λv e=>by obtain⟨i,hi,rfl⟩:=A5.1 e;rw[AB]at hi;rw[ZC];refine⟨?_,hbx i hi⟩;rw[BT (by omega),hl,CU,AO]}
  ·rw[ZC];by_cases hs:s < args.length
   ·rw[Ay (by omega),hini s hs,BZ (by omega)];have⟨v,hv,hr⟩:=hat s args[s]<|Ae hs;rw[Ae hs,hv,B8,B8];exact(aP (Am.1 hargs _<|Ad hs) hr).slot
   ·rw[hinb s (by omega),BT (by omega),hl];by_cases hs2:s < args.length+css.length
    ·rw[Aw ⟨by omega,hs2⟩,Ae (show s - args.length < css.length by omega),Ae (show s - args.length < us.length by omega)];simp only[Cb,B8];refine pL<|m1 (s - args.length) s _ _ ?_ (Ae _)<|Ae _;rw[BP,F1 (by omega),Cb];congr 1;omega
    ·rw[Ay (by omega),Bu (by omega),Bu (by omega)];exact⟨[],rfl,rfl,rfl⟩
  ·by_cases hs:s < args.length
   ·rw[hini s hs,Ae hs,B8]at e;have hp:=Am.1 hargs _<|Ad hs;cases hc:args[s]<;>rw[hc]at e hp<;>first|(cases hp;done)|(cases e;done)
   ·by_cases hs2:s < args.length+css.length
    ·have:=(hbx (s - args.length)<|by omega).1
     rwa [show args.length+(s - args.length)=s from by omega]at this
    ·rw[hinb s (by omega),Bu (by omega)]at e;cases e
  ·by_cases hs:s < args.length
   ·rw[hini s hs,Ae hs,B8]at e;have hp:=Am.1 hargs _<|Ad hs;cases hc:args[s]<;>rw[hc]at e hp<;>first|(cases hp;done)|(cases e;done)
   ·rw[hinb s (by omega)]at e;cases hc:css[s - args.length]? with
    |none=>rw[hc]at e;cases e
    |some cs=>rw[hc]at e;cases e
 have⟨B1,hsim1⟩:=dU (us:=us) (m:=args.length) hsim (λi u hu=>by
  have hi:i < css.length:=by have:=(Dg.1 hu).1;omega
  refine⟨?_,?_,by omega⟩
  ·rw[ZC,BT (by omega),hl,CU,hu];rfl
  ·rw[hinb _ (by omega),CU,Ae hi];exact⟨_,rfl⟩) (λj _=>by
  have:args.length+css.length<=gV j:=by unfold gV;omega
  rw[hinb _ (by omega),Bu (by omega)];rfl)
 have hrel:Rel P fn.ntmps bx _ St w (VL args.length us<|IW<|args++css.map V.box) _ w:=⟨St,B1,hsim1,BelowK.refl _ _,λ_ _ _=>CY,λ_ h=>h.1⟩;refine FF (h _ _ _ _ _ hrel) ?_;rintro e a' w' ⟨σ',⟨he,hres,hbox⟩,St1,B',h1,h2,h3,h4⟩
 have hfin:a'.defers=[]∧∃v,(results fn a'.tmps).run P w'=.ok v w'∧AbZ P w St us bs0 css' r (.returned v) w':=by
  have⟨v,bs,q1,q2,q3,q4⟩:=fq htb h1 hn hres
  have hbs:bs=[]:=by
   rcases hrp with rfl|hrp
   ·have⟨_,_,h5⟩:=q2;exact h5.2
   ·cases r<;>first|exact q2.1|cases hrp
  subst hbs;have hl':css'.length=css.length:=by have:=congrArg List.length hbox;simpa using this.symm
  have hbr:∀(n k:Nat) (ds:List (List V)) (vs':List Value),ds.length=n->vs'.length=n->(∀i d u,ds[i]? =some d->vs'[i]? =some u->σ' (args.length+(k+i))=.box d∧tm a' (args.length+(k+i))=u)->Ua P w' St1 ds vs' (Sc B' (args.length+k) n):=by
   intro n;induction n with
   |zero=>intro k ds vs' e1 e2 _;rw[JY.1 e1,JY.1 e2];exact⟨rfl,rfl⟩
   |succ n ih=>
    intro k ds vs' e1 e2 hh;cases ds with
    |nil=>cases e1
    |cons d ds=>
     cases vs' with
     |nil=>cases e2
     |cons u vs'=>
      have⟨g1,g2⟩:=hh 0 d u rfl rfl;have hs:=h1.slot<|args.length+k;rw[CG]at g1 g2;rw[g1,g2]at hs;refine⟨u,vs',B'<|args.length+k,Sc B' (args.length+k+1) n,rfl,rfl,pL hs,?_⟩
      have:=ih (k+1) ds vs' (by simpa using e1) (by simpa using e2) (λi d' u' hd hu=>by
       have:=hh (i+1) d' u' (by simpa using hd) (by simpa using hu)
       rwa [show k+(i+1)=k+1+i from by omega]at this)
      rwa [show args.length+(k+1)=args.length+k+1 from by omega]at this
  have hk:∀k∈Sc B' (args.length+0) css'.length,(k∈bs0∨w.heap.size<=k)∧k < w'.heap.size:=λk hk=>by have⟨i,_,_,hm⟩:=QZ hk;have hr:=h1.range i k hm;refine⟨BO λhc=>?_,hr.2⟩;rw[not_or]at hc;exact hr.1 ⟨by omega,hc.1⟩
  refine⟨h1.defers,v,q1,v,Sc B' (args.length+0) css'.length,St1,rfl,h2,λb o hb hbn=>h3 b o ⟨hb,hbn⟩,h1.st,hbr css'.length 0 css' us rfl (by omega)<|λi d u hd hu=>?_,q2,RC h1.nodup h1.apart _ _,hk⟩;have hi:i < css.length:=by have:=(Dg.1 hd).1;omega
  rw[CH];refine⟨?_,?_⟩
  ·have:=congrArg (λl=>l[i]?) hbox;simp only[BP,F1 hi,Cb,hd,Ar]at this;exact this
  ·have:=(h1.pin (args.length+i,us.getD i undef)<|A5.2 ⟨i,AB.2 hi,rfl⟩).1;rw[AO,hu]at this;exact this
 rcases he with rfl|rfl
 ·exact hfin
 ·exact hfin
end
section
variable {P:Program}{tb:Tb}
def Ajw(tb:Tb)(rs:List ResultVar)(m n:Nat)(a:List (List V))(r:V)(e:Exit)(σ:PS):Prop:=(e=.ret∨e=.normal)∧fo tb σ rs=some r∧((List.range n).map λi=>σ<|m+i)=a.map V.box
def AaP(i:Jr P tb){f:FuncId}{nt:Nat}{bx:zN}{rs:List ResultVar}{l:LC}{us:List Value}{b d:List (List V)}{a:List V}{r:V}(m:Lit P f nt bx rs l)(g:a.length+b.length<=nt)(j:nt<=910000)(n:Agn bx a.length b.length=true)(e:a.all Te=true)(k:r=.tup []∨Pj r=true)
  (h:LS P nt bx l (VL a.length us<|IW<|a++b.map V.box) (Ajw tb rs a.length b.length d r)):YD P f us b a d r:=by
 obtain⟨⟨w,c,o,p,q,rfl,rfl,s,t⟩,u,v⟩:=m;exact Ago i o p q bx g j n e u k<|h c s t v
end
def dm(L:PL):zN->Option (List<|List V)
 |[]=>some []
 |s::ss=>match lk L s with
  |some (.box cs)=>G (dm L ss) λr=>some<|cs::r
  |_=>none
def nP(L:PL):zN->Option (List Value)
 |[]=>some []
 |s::ss=>match lk L (gV s)with
  |some (.val q u)=>Wj (Nat.beq q s)<|G (nP L ss) λr=>some<|u::r
  |_=>none
def g7{L}:∀{ss:zN}{a:List (List V)},dm L ss=some a->ss.map (CP L)=a.map V.box
 |[],_,h=>by cases h;rfl
 |s::ss,_,h=>by
  unfold dm at h;split at h
  ·rename_i cs b;have⟨r,c,h⟩:=Be h;cases h;rw[AM,AM,Dx b,g7 c]
  ·cases h
def nQ{L}:∀{ss:zN}{us:List Value},nP L ss=some us->(ss.map λs=>CP L<|gV s)=(ss.zip us).map (λp=>V.val p.1 p.2)∧ss.length=us.length
 |[],_,h=>by cases h;exact⟨rfl,rfl⟩
 |s::ss,_,h=>by
  unfold nP at h;split at h
  ·rename_i q u b;have⟨a,h⟩:=DU h;have⟨r,c,h⟩:=Be h;cases h;have a:=C0 a;subst a;have⟨d,e⟩:=nQ c;exact⟨by rw[AM,List.zip_cons_cons,AM,Dx b,d],by rw[AD,AD,e]⟩
  ·cases h
def ya(L:PL):List Operand->Option (List Value)
 |[]=>some []
 |.tmp p::xs=>match lk L (gV p)with
  |some (.val q u)=>Wj (Nat.beq q p)<|G (ya L xs) λr=>some<|u::r
  |_=>none
 |_::_=>none
def pR{L}:∀{xs:List Operand}{us:List Value},ya L xs=some us->jA (CP L) xs=some us
 |[],_,h=>by cases h;rfl
 |.tmp p::xs,_,h=>by
  unfold ya at h;split at h
  ·rename_i q u b;have⟨a,h⟩:=DU h;have⟨r,c,h⟩:=Be h;cases h;have a:=C0 a;subst a;unfold jA;rw[Dx b];simp only[Fl,pR c,Cb]
  ·cases h
 |.const _::_,_,h=>by cases h
 |.global _::_,_,h=>by cases h
 |.func _::_,_,h=>by cases h
def sfV(ss:zN):PL->Prop
 |[]=>True
 |(q,c)::L=>(ss.contains q=true∨KT c=true)∧sfV ss L
def yvn{ss}:sfV ss []:=trivial
def yvb{ss q c L}(h:ss.contains q=true)(k:sfV ss L):sfV ss ((q,c)::L):=⟨.inl h,k⟩
def yvc{ss q c L}(h:KT c=true)(k:sfV ss L):sfV ss ((q,c)::L):=⟨.inr h,k⟩
def xf{ss}:∀{L:PL},sfV ss L->∀q,q∉ss->KT (CP L q)=true
 |[],_,q,_=>rfl
 |(p,c)::L,⟨b,d⟩,q,a=>by
  rw[EI];by_cases e:q=p
  ·subst e;rw[upd_same];exact b.resolve_left λh=>a<|Av.1 h
  ·rw[upd_ne _ _ e];exact xf d q a
def xE:zN->List (List V)->PL->PL
 |s::ss,cs::a,L=>(s,.box cs)::xE ss a L
 |_,_,L=>L
theorem rM{L:PL}:∀{ss:zN}{css:List (List V)},fR (CP L) ss css=CP (xE ss css L)
 |[],_=>rfl
 |_::_,[]=>rfl
 |s::ss,cs::css=>by rw[fR,xE,EI,rM]
def v8:zN->Bool
 |[]=>true
 |s::ss=> !ss.contains s&&v8 ss
def qR:∀{ss:zN},v8 ss=true->ss.Nodup
 |[],_=>AP
 |s::ss,h=>by rw[v8,Aa,AH,<-Gm,Av]at h;exact BF.2 ⟨h.1,qR h.2⟩
def oT{L L1 S}(h:Y3 L S=some L1):kill (TA L S) (CP L)=CP L1:=by
 have⟨L',f,h⟩:=Be h;have⟨g,h⟩:=DU h;cases h;have⟨i,j,k⟩:=UK f;funext q;by_cases a:q∈S
 ·have l:=Dx (i q a);have m:¬(TA L S).contains q=true:=λh=>(N0.1 h).2 a
  unfold kill;rw[Ay m,l];cases n:D3 (CP L1 q)with
  |none=>rfl
  |some b=>
   have o:b∈S:=by have⟨p,r,c⟩:=kl n;have:=Am.1 g p r;rw[c,k]at this;exact Av.1 this
   have d:¬(TA L S).contains b=true:=λh=>(N0.1 h).2 o
   simp only[Ay d]
 ·rw[j q a];by_cases e:q∈L.map (·.1)
  ·exact Vk<|N0.2 ⟨e,a⟩
  ·unfold kill;rw[Xf e];split<;>rfl
section
variable {P:Program}{tb:Tb}{cns:zN}{L:PL}{K:PS->Prop}{t:TypeId}{x:Operand}
def zrA(σ:PS):List Operand->List V->Prop
 |[],c=>c=[]
 |x::xs,c=>∃a b,c=a::b∧(CC σ x).isArg=true∧jn (CC σ x)=a∧zrA σ xs b
def xL{σ}:∀{xs:List Operand}{b:List V},zrA σ xs b->xs.all (λx=>(CC σ x).isArg)=true∧(xs.map λx=>jn<|CC σ x)=b
 |[],_,h=>by cases h;exact⟨rfl,rfl⟩
 |x::xs,_,⟨a,c,e,d,f,g⟩=>by have⟨i,j⟩:=xL g;subst e;exact⟨by rw[By,d,i];rfl,by rw[AM,f,j]⟩
def zn:zrA (CP L) [] []:=rfl
def za{c a:V}{xs as}(b:xS L x=some c)(d:jn c=a)(e:zrA (CP L) xs as):zrA (CP L) (x::xs) (a::as):=⟨a,as,rfl,(by rw[(W0 b).1];exact(W0 b).2),(by rw[(W0 b).1];exact d),e⟩
theorem x9{d:Option Nat}{f:FuncId}{args:List Operand}{us:List Value}{css css':List (List V)}{r:V}{L1:PL}(ss S:zN)(hb:dm L ss=some css)(hv:nP L ss=some us)(hn:v8 ss=true)(ha:args.all (λx=>(CC (CP L) x).isArg)=true)(hp:Ab0 P (CP L) f us css args css' r)
  (hk:Y3 L (ss++S)=some L1) (hsf:sfV ss L1) (k:K (Vy (CP (xE ss css' L1)) d r)):U3 P d (.func (.func f) #[] us.toArray) args (CP L) K:=by
 obtain⟨v1,v2⟩:=nQ hv
 refine⟨f,us,ss,css,css',r,TA L (ss++S),rfl,g7 hb,v1,v2,qR hn,ha,hp,λs hs=>?_,λq hq=>?_,?_⟩
 ·cases hc:(TA L (ss++S)).contains s with
  |false=>rfl
  |true=>exact absurd (AF _ hs) (N0.1 hc).2
 ·by_cases hD:(TA L (ss++S)).contains q=true
  ·exact .inl hD
  ·right
   by_cases hm:q∈L.map (·.1)
   ·have hS:q∈ss++S:=BO λh=>hD (N0.2 ⟨hm,h⟩)
    obtain⟨L',k1,k2⟩:=Be hk
    obtain⟨_,k2⟩:=DU k2
    cases k2
    rw[Dx ((UK k1).1 q hS)]
    exact xf hsf q hq
   ·rw[Xf hm];rfl
 ·rw[oT hk,rM]
  exact k
def qVz{d p f args ts us css css' as r L1}(ss S:zN)(b:lk L p=some (.tok<|.func (.func f) #[] us.toArray))(c:dm L ss=some css)(e:nP L ss=some us)(g:v8 ss=true)(h:zrA (CP L) args.toList as)(i:YD P f us css as css' r)
  (j:Y3 L (ss++S)=some L1) (a:sfV ss L1) (k:K (CP<|(d,r)::xE ss css' L1)) (l:cns.contains d=false:=by rfl):Jm P tb cns ⟨some d,.call {callee:=.value (.tmp p),args:=args,argTypes:=ts},t,none⟩ (CP L) K:=by
 have⟨m,n⟩:=xL h
 show(match CC (CP L) (.tmp p)with
  |.fn f=>N8 P cns _ f args.toList (CP L) K
  |.tok u=>Yc P cns _ u args.toList (CP L) K
  |_=>fE cns _ (CP L) K)
 rw[show CC (CP L) (.tmp p)=.tok (.func (.func f) #[] us.toArray)from Dx b];exact⟨l,x9 ss S c e g m (.inr<|by rw[n];exact i) j a k⟩
def qMf{d f fs caps us}(a:fs.toList=[])(b:ya L caps.toList=some us)(k:K (CP<|(d,.tok<|.func (.func f) #[] us.toArray)::L)):Jm P tb cns ⟨some d,.makeFunc (.func f) fs caps,t,none⟩ (CP L) K:=by show mkF f fs.toList caps.toList d (CP L) K;unfold mkF;rw[a,pR b];exact k
end
def YR:Nat->List Value->PL->PL
 |_,[],L=>L
 |m,u::us,L=>(gV m,.val m u)::YR (m+1) us L
theorem uO{L:PL}{σ:PS}(hL:∀p∈L,p.1 < 910000)(h:iF σ L):∀(us:List Value) (m:Nat),iF (VL m us σ) (YR m us L)
 |[],m=>h
 |u::us,m=>by
  have key:∀(us:List Value) (m:Nat) (σ:PS) (v:V),iF σ (YR (m+1) us L)->iF (upd σ (gV m) v) (YR (m+1) us L):=by
   have h0:∀(L':PL) (σ:PS) (q:Nat) (v:V),(∀p∈L',p.1≠q)->iF σ L'->iF (upd σ q v) L':=by
    intro L'
    induction L' with
    |nil=>intro _ _ _ _ _;trivial
    |cons p L' ih=>
     obtain⟨r,c⟩:=p
     intro σ q v hne hk
     exact⟨by rw[upd_ne _ _ (hne (r,c) BH)];exact hk.1,ih σ q v (λp hp=>hne p (A3 _ hp)) hk.2⟩
   intro us m σ v hk
   refine h0 _ _ _ _ (λp hp e=>?_) hk
   have:∀(us:List Value) (k:Nat),m < k->p∉YR k us L:=by
    intro us
    induction us with
    |nil=>intro k _ hm;have:=hL p hm;rw[e]at this;unfold gV at this;omega
    |cons u us ih=>
     intro k hk hm
     rcases AE.1 hm with rfl|hm
     ·simp only[gV]at e;omega
     ·exact ih (k+1) (by omega) hm
   exact this us (m+1) (by omega) hp
  refine⟨?_,key us m _ _ (uO hL h us (m+1))⟩
  rw[VL,upd_same]
  exact kr
def vj:∀(cs:List V) (i:Nat),∀p∈UI i cs,p.1 < i+cs.length
 |[],_,p,a=>by simp[UI]at a
 |c::cs,i,p,a=>by
  rw[UI]at a;rcases AE.1 a with rfl|a
  ·simp
  ·have:=vj cs (i+1) p a;rw[AD];omega
def qiv{P nt bx l Q xs us m}(c:xs.length<=910000)(a:okR (YR m us<|UI 0 xs)=true)(k:LS P nt bx l (CP<|YR m us<|UI 0 xs) Q):LS P nt bx l (VL m us<|IW xs) Q:=
 TW _ (uO (λp b=>by have:=vj xs 0 p b;omega) (oR xs 0 0) us m) a k
end
end Go.Proofs.YtdnlfoelbfcmnaaGreatDoor
