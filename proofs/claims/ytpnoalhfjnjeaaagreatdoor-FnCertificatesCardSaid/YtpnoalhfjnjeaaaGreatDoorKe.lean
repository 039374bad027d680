/- A machine on data, part 5: lists that are lent. Over no program; no conditions. -/
import Derived.Test.YtpnoalhfjnjeaaaGreatDoorKb
open Go.RowKit
set_option linter.all false
namespace Go.Proofs.YtpnoalhfjnjeaaaGreatDoor
section
def SN(B:Nat->zN):Nat->Nat->zN
 |_,0=>[]
 |k,n+1=>B k++SN B (k+1) n
def Rw{B g}:∀{n k:Nat},g∈SN B k n->∃i,k<=i∧i < k+n∧g∈B i
 |0,_,h=>by simp[SN]at h
 |n+1,k,h=>by
  rw[SN,Al]at h;rcases h with h|h
  ·exact⟨k,Bb _,by omega,h⟩
  ·have⟨i,b,c,a⟩:=Rw h;exact⟨i,by omega,by omega,a⟩
def Sa{B}(c:∀i,(B i).Nodup)(d:∀i j,i≠j->∀g∈B i,g∉B j):∀(n k:Nat),(SN B k n).Nodup
 |0,_=>AR
 |n+1,k=>by rw[SN];refine Ax.2 ⟨c k,Sa c d n<|k+1,λa f b h e=>?_⟩;have⟨i,m,_,l⟩:=Rw h;exact d k i (by omega) a f<|e ▸ l
section
variable {P:Program}{w:World}{St:Nat->Nat->Prop}
def bu{B}:∀(os:List V) (us:List Value) (k:Nat),us.length=os.length->(∀i c u,os[i]? =some c->us[i]? =some u->c.DF=true∧Ow P w St c u (B<|k+i))->Bj P w St os us (SN B k os.length)
 |[],us,_,a,_=>⟨J3.1 a,rfl⟩
 |c::os,[],_,a,_=>by cases a
 |c::os,u::us,k,a,h=>by
  have⟨b,d⟩:=h 0 c u rfl rfl;refine⟨u,us,B k,SN B (k+1) os.length,rfl,rfl,b,d,bu os us (k+1) (by simpa using a) λi c' e f g=>?_⟩;have:=h (i+1) c' e (by simpa using f) (by simpa using g)
  rwa [show k+(i+1)=k+1+i from by omega]at this
end
section
variable {P:Program}{tb:Tb}
def slots(σ:PS)(n:Nat):List V:=(List.range n).map σ
def ul(bx:zN)(n:Nat):Bool:=(List.range n).all λi=>bx.contains i&&bx.contains (Sj+i)
def xR(htb:Lr P tb){f:FuncId}{fn:Func}{c:Code}{os args os':List V}{rb:Bool}(hf:P.funcs[f]? =some fn)(hb:fn.body=some c)(hname:(fn.name== "runtime.NumGoroutine")=false)(bx:zN)(hlen:os.length+args.length<=fn.ntmps)(h0:ul bx os.length=true)(hargs:args.all MT=true)
  (hn:(fn.results.toList.map MF).Nodup) (hcs:F7 os=true) (hob:os.all dX=true) (hcs':F7 os'=true) (hcl:os'.all V.DF=true) (h:ON P fn.ntmps bx c (Gm<|os++args.map Qf) (λe σ=>(e=.ret∨e=.normal)∧bq tb σ fn.results.toList=some (.bool rb)∧slots σ os.length=os')):UP P f [] os args os' (.bool rb):=by
 refine⟨⟨fn,hf,by rw[hb];rfl,hname⟩,λw St us bs0 vs1 vs hst hgl hrow hnd hrg hv1 hvs=>?_⟩;cases hv1;have hN:∀b o,(St b o∧b∉bs0)->(b < w.heap.size∧b∉bs0):=λb o h=>⟨hst b o h.1,h.2⟩
 have hvs0:=Rr.Oq (N:=λb=>b < w.heap.size∧b∉bs0) hN hargs hvs;have hvs':Rr w (λb o=>St b o∨(b < w.heap.size∧b∉bs0)) (args.map Qf) vs:=hvs0.mono (λb o h=>h.imp (·.1) id)<|λ_ _ _=>rfl
 have hst':∀b o,(St b o∨(b < w.heap.size∧b∉bs0))->b < w.heap.size:=λb o h=>h.elim (hst b o) (·.1)
 have hrow':Bj P w (λb o=>St b o∨(b < w.heap.size∧b∉bs0)) os us bs0:=Bj.kept os hcs hrow<|λk hk=>⟨rfl,λo=>⟨λh=>h.elim id<|λh=>absurd hk h.2,.inl⟩⟩
 have hpl:(args.map Qf).all O7=true:=by rw[N2,Ap];exactλx hx=>c6<|Ap.1 hargs x hx
 have⟨hl,hat⟩:=args_at hvs';rw[Am]at hl;have hul:=Bj.length hrow;have⟨β,k1,k2,k3,k4⟩:=VK hrow' hnd;have hbx:∀i,i < os.length->i∈bx∧Sj+i∈bx:=λi hi=>by have:=Ap.1 h0 i<|AQ.2 hi;simpa[Ad,Bk]using this
 have hin:∀s,s < os.length->∃c u,os[s]? =some c∧us[s]? =some u∧Gm (os++args.map Qf) s=c∧dX c=true:=λs hs=>by refine⟨os[s],us[s]'(by omega),Ah hs,Ah _,?_,Ap.1 hob _<|Aj hs⟩;simp only[Gm,B7 hs,Ah hs,BQ]
 have hout:∀s,¬s < os.length->Gm (os++args.map Qf) s=(((args.map Qf)[s - os.length]?).getD<|.tup []):=λs hs=>by simp only[Gm,Cu (MD hs)]
 refine I9 hf hb ?_
 have hrel:Rel P fn.ntmps bx ⟨λb=>b < w.heap.size∧b∉bs0,(List.range os.length).map λi=>(i,us.getD i undef)⟩ (λb o=>St b o∨(b < w.heap.size∧b∉bs0)) w (Gm<|os++args.map Qf) {tmps:=(us++vs).toArray++Array.replicate (fn.ntmps - (us++vs).toArray.size) undef,defers:=[]} w:=by
  refine⟨_,λs=>if s < os.length then β s else [],?_,BelowK.refl _ _,λ_ _ _=>DL,λ_ h=>h.1⟩;refine
  {size:=by simp;omega
   defers:=rfl
   slot:=λs=>?_
   boxes:=λs cs e=>?_
   crefs:=λs b e=>?_
   nodup:=λs=>by
    split
    ·exact k3 s
    ·exact AR
   apart:=λs t hst k hk hk'=>by
    split at hk
    ·split at hk'
     ·exact k4 s t hst k hk hk'
     ·simp at hk'
    ·simp at hk
   hnodup:=AR
   hapart:=λ_ k hk=>by simp
   range:=λs k hk=>by
    split at hk
    ·exact⟨λh=>h.2<|k2 s k hk,hrg k<|k2 s k hk⟩
    ·simp at hk
   hrange:=λk hk=>by simp at hk
   st:=hst'
   gl:=hgl.of (λb hb o=>.inl<|hb o)<|λ_ _ _=>rfl
   pin:=λv e=>by obtain⟨i,hi,rfl⟩:=Bq.1 e;rw[AQ]at hi;rw[WC];refine⟨?_,hbx i hi⟩;simp only[B7 (show i < us.length by omega),A1]}
  ·rw[WC];by_cases hs:s < os.length
   ·have⟨c,u,q1,q2,q3,q4⟩:=hin s hs;rw[At hs,q3,B7 (show s < us.length by omega),q2,BQ];exact(k1 s c u q1 q2).slot
   ·rw[As hs,hout s hs,Cu (show us.length<=s by omega),hul];cases hc:(args.map Qf)[s - os.length]? with
    |none=>
     have:vs[s - os.length]? =none:=by rw[GE,Am]at hc;rw[GE];omega
     simp only[this,P0];exact⟨[],rfl,rfl,rfl⟩
    |some c=>have⟨v,hv,hr⟩:=hat (s - os.length) c hc;simp only[hv,BQ];exact(X1 (Ap.1 hpl c<|BV hc) hr).slot
  ·by_cases hs:s < os.length
   ·have⟨c,u,q1,q2,q3,q4⟩:=hin s hs;exact(hbx s hs).1
   ·rw[hout s hs]at e;cases hc:(args.map Qf)[s - os.length]? with
    |none=>rw[hc]at e;cases e
    |some c=>rw[hc]at e;have hp:=Ap.1 hpl c<|BV hc;simp only[BQ]at e;cases c<;>first|(cases hp;done)|(cases e;done)
  ·by_cases hs:s < os.length
   ·have⟨c,u,q1,q2,q3,q4⟩:=hin s hs;rw[q3]at e;cases c<;>first|(cases q4;done)|(cases e;done)
   ·rw[hout s hs]at e;cases hc:(args.map Qf)[s - os.length]? with
    |none=>rw[hc]at e;cases e
    |some c=>rw[hc]at e;have hp:=Ap.1 hpl c<|BV hc;simp only[BQ]at e;cases c<;>first|(cases hp;done)|(cases e;done)
 refine GL (h _ _ _ _ _ hrel) ?_;rintro e a' w' ⟨σ',⟨he,hres,hbox⟩,St1,B',h1,h2,h3,h4⟩
 have hfin:a'.defers=[]∧∃v,(results fn a'.tmps).run P w'=.ok v w'∧AeN P w St us bs0 os' (.bool rb) (.returned v) w':=by
  have⟨v,bs,q1,q2,q3,q4⟩:=ZW htb h1 hn hres;have hl':os'.length=os.length:=by rw[<-hbox];simp[slots]
  have hk:∀k∈SN B' 0 os'.length,(k∈bs0∨w.heap.size<=k)∧k < w'.heap.size:=λk hk=>by have⟨i,_,_,hm⟩:=Rw hk;have hr:=h1.range i k hm;refine⟨Bv λhc=>?_,hr.2⟩;rw[Fn]at hc;exact hr.1 ⟨by omega,hc.1⟩
  have hrow2:Bj P w' St1 os' us (SN B' 0 os'.length):=by
   refine bu os' us 0 (by omega) λi c u hc hu=>?_
   have hi:i < os.length:=by have:=(Cm.1 hc).1;omega
   have hcc:V.DF c=true:=Ap.1 hcl c<|BV hc;have e1:σ' i=c:=by rw[<-hbox]at hc;simp only[slots,BZ,FR hi,B3,Ay]at hc;exact hc
   have e2:tm a' i=u:=by have:=(h1.pin (i,us.getD i undef)<|Bq.2 ⟨i,AQ.2 hi,rfl⟩).1;rw[A1,hu]at this;exact this
   have hs:=h1.slot i;rw[e1,e2]at hs;rw[Cw];refine⟨hcc,?_⟩;cases c<;>first|exact hs|cases hcc
  refine⟨h1.defers,v,q1,v,SN B' 0 os'.length,λb o=>(b < w.heap.size∧b∉bs0∧St b o)∨((w.heap.size<=b∨b∈bs0)∧St1 b o),rfl,h2,λb o hb hbn=>?_,λb o hh=>?_,?_,⟨rfl,q2.2⟩,Sa h1.nodup h1.apart _ _,hk⟩
  ·exact⟨λhh=>hh.elim (·.2.2)<|λhh=>hh.1.elim (λh=>absurd hb<|by omega)<|λh=>absurd h hbn,λhh=>.inl ⟨hb,hbn,hh⟩⟩
  ·exact hh.elim (λhh=>BA hh.1 h2.size)<|λhh=>h1.st b o hh.2
  ·exact Bj.kept os' hcs' hrow2<|λk hk'=>⟨rfl,λo=>⟨λhh=>hh.elim (λhh=>(hk k hk').1.elim (λh=>absurd h hh.2.1)<|λh=>absurd hh.1<|by omega) (·.2),λhh=>.inr ⟨(hk k hk').1.symm,hh⟩⟩⟩
 rcases he with rfl|rfl
 ·exact hfin
 ·exact hfin
def AhK(tb:Tb)(rs:List ResultVar)(n:Nat)(a:List V)(r:V)(e:Exit)(σ:PS):Prop:=(e=.ret∨e=.normal)∧bq tb σ rs=some r∧slots σ n=a
def uk(i:Lr P tb){f:FuncId}{nt:Nat}{bx:zN}{rs:List ResultVar}{l:LC}{os a b:List V}{n:Bool}(o:Lit P f nt bx rs l)(e:os.length+a.length<=nt)(p:ul bx os.length=true)(d:a.all MT=true)(j:F7 os=true)(k:os.all dX=true)(g:F7 b=true)(m:b.all V.DF=true)
  (h:LS P nt bx l (Gm<|os++a.map Qf) (AhK tb rs os.length b<|.bool n)):UP P f [] os a b (.bool n):=by
 obtain⟨⟨x,c,q,r,s,rfl,rfl,t,u⟩,v,w⟩:=o;exact xR i q r s bx e p d v j k g m<|h c t u w
end
def qJ{L}:∀{xs:List Operand}{us:List Value},xs.map (Tu L)=us.map (λu=>some<|V.tok u)->xs.map (Cz<|CB L)=us.map V.tok
 |[],[],_=>rfl
 |[],_::_,e=>by cases e
 |_::_,[],e=>by cases e
 |x::xs,u::us,e=>by simp only[AH,CQ]at e;rw[AH,AH,D1 e.1,qJ e.2]
section
variable {P:Program}{tb:Tb}{cns:zN}{L:PL}{K:PS->Prop}{t:TypeId}
def qZ{d f args ts us ys os as1 as os' r L1}(S:zN)(zs xs:List Operand)(ha:args.toList=zs++(xs++ys))(hne:xs.isEmpty=false)(hs:lk L gS=some (.gh us os))(hm:xs.map (Tu L)=us.map (λu=>some<|V.tok u))(hx:(!S.contains gS&&(zs++ys).all (AhB S))=true)(he1:erA (CB L) zs as1)(he:erA (CB L) ys as)(hd:F7 os=true)(hp:UP P f as1 os as os' r)(hk:Yn L S=some L1)(hsf:sfY L1)(k:K (CB<|(d,r)::(gS,.gh us os')::L1))(hc:cns.contains d=false:=by rfl):
  Hh P tb cns ⟨some d,.call {callee:=.value (.func f),args:=args,argTypes:=ts},t,none⟩ (CB L) K:=by
 have⟨h1,h2⟩:=aH he;subst h2;have⟨h3,h4⟩:=aH he1;subst h4;rw[Ad,AY]at hx;show Lo P cns _ f args.toList (CB L) K;unfold Lo;rw[As (by simpa using hc)];cases xs with
 |nil=>cases hne
 |cons x xs=>
 refine .inr<|.inr<|.inr<|.inl ⟨zs,x,xs,ys,us,os,os',r,Um L<|gS::S,ha,qJ hm,C3 hs,hd,?_,hp,?_,λq hq=>?_,?_⟩
 ·rw[Ap]at h1 h3⊢;intro x hxm;rw[Ad];refine⟨(Al.1 hxm).elim (h3 x)<|h1 x,?_⟩;have:=Ap.1 hx.2 x hxm;unfold AhB at this;split at this
  ·rename_i q;simp only[nL,AY];cases hc:(Um L<|gS::S).contains q with
   |false=>rfl
   |true=>exact absurd (AV _<|by simpa using this) (OB.1 hc).2
  ·rfl
  ·rfl
  ·rfl
  ·cases this
 ·cases hc:(Um L<|gS::S).contains gS with
  |false=>rfl
  |true=>exact absurd BG (OB.1 hc).2
 ·by_cases hD:(Um L<|gS::S).contains q=true
  ·exact .inl hD
  ·right;by_cases hm:q∈L.map (·.1)
   ·have hS:q∈S:=Bv λh=>hD (OB.2 ⟨hm,λh'=>(AA.1 h').elim hq h⟩)
    have⟨L',k1,k2⟩:=AZ hk;have⟨_,k2⟩:=DP k2;cases k2;rw[C3 ((VB k1).1 q hS)];exact j0 hsf q
   ·rw[XT hm];rfl
 ·have e4:upd (kill (Um L<|gS::S)<|CB L) gS (.gh us os')=CB ((gS,.gh us os')::L1):=by
   rw[EH];funext q;by_cases hq:q=gS
   ·subst hq;rw[upd_same,upd_same]
   ·rw[upd_ne _ _ hq,upd_ne _ _ hq];exact bi hk hq
  show K (upd (upd (kill (Um L<|gS::S)<|CB L) gS<|.gh us os') d r);rw[e4];exact k
end
end
section
def tE(U:Nat->Value)(j:Nat):List V:=[.tok (U j)]
def ztE{U}(j:Nat):(tE U j).length=1:=rfl
def dtE{U}(j:Nat):Ee (tE U j)=true:=rfl
def Ls{α:Type}(l:List α):zN:=(C8 0 l).map (·.1)
def gH(n:Nat):zN->zN->Bool
 |[],_=>true
 |j::J,seen=>(Nat.blt j n&& !seen.contains j)&&gH n J (j::seen)
def Jt{α:Type}(l:List α)(J:zN):List α:=J.flatMap λj=>(l[j]?).toList
def YQ:List V->Bool
 |[.own _ _ _]=>true
 |_=>false
def pV:∀{ds:List V},YQ ds=true->∃e n cs,ds=[.own e n cs]
 |[],h=>by cases h
 |[c],h=>by cases c<;>first|exact⟨_,_,_,rfl⟩|cases h
 |c::d::ds,h=>by cases c<;>cases h
def tok1{ds}(h:YQ ds=true):ds=[Ev ds]∧dX (Ev ds)=true:=by obtain⟨e,n,cs,rfl⟩:=pV h;exact⟨rfl,rfl⟩
def dY{c}(h:dX c=true):∃e n cs,c=.own e n cs:=by cases c<;>first|exact⟨_,_,_,rfl⟩|cases h
def hM{α:Type}{l:List α}:∀{J a:zN},gH l.length J a=true->(Jt l J).length=J.length
 |[],_,_=>rfl
 |j::J,a,h=>by
  simp only[gH,Ad]at h;have b:j < l.length:=by simpa[Nat.blt_eq]using h.1.1
  have:=hM h.2;unfold Jt at this⊢;rw[AI,Ak,this,Ah b];simp;omega
section
variable {P:Program}{w:World}{St:Nat->Nat->Prop}{α:Type}{f:α->List V}{U:Nat->Value}
def mb(d:∀x,YQ (f x)=true):∀(L:List (Nat×α)) {xs:List Value}{b:zN},Bj P w St (L.flatMap<|pE f U) xs b->Bj P w St ((L.map (·.1)).flatMap<|tE U) xs b
 |[],_,_,h=>h
 |p::L,_,_,h=>by
  have⟨e,n,cs,g⟩:=pV<|d p.2;rw[AI]at h;have e2:pE f U p=[.pin (U p.1) n (NU cs)]:=by unfold pE;rw[g];rfl
  rw[e2]at h;have⟨u,a,b1,b2,i,j,m,⟨k,c⟩,l⟩:=h;rw[AH,AI];exact⟨u,a,b1,b2,i,j,rfl,⟨k,c.1,c.1 ▸ c.oneCell⟩,mb d L l⟩
def u6(A:∀x,YQ (f x)=true){l:List α}{us:List Value}{bs:zN}(B:Bj P w St (l.map λx=>Ev<|f x) us bs)(H:bs.Nodup)(I:∀i,i < l.length->U i=us.getD i undef):
  ∀(J:zN) {xs:List Value}{m:zN},gH l.length J []=true->Bj P w St (J.flatMap<|tE U) xs m->∃b',Bj P w St ((Jt l J).flatMap f) xs b'∧b'.Nodup∧∀g∈b',g∈bs:=by
 have⟨β,K,L,M,N⟩:=VK B H;have o:=B.length;rw[Am]at o
 have r:∀(J c:zN) {xs:List Value}{m:zN},gH l.length J c=true->Bj P w St (J.flatMap<|tE U) xs m->
   ∃b',Bj P w St ((Jt l J).flatMap f) xs b'∧b'.Nodup∧(∀g∈b',g∈bs)∧∀i∈c,∀g∈β i,g∉b':=by
  intro J;induction J with
  |nil=>intro c xs m _ h;exact⟨[],⟨h.1,rfl⟩,AR,by simp,by simp⟩
  |cons j J O=>
   intro c xs m d h;rw[AI]at h;have⟨u,s,b1,b2,t,C,D,⟨q4,Q,q6⟩,R⟩:=h;simp only[gH,Ad,AY]at d;have⟨⟨g1,g2⟩,S⟩:=d;have v:j < l.length:=by simpa[Nat.blt_eq]using g1
   have⟨b',T,W,X,F⟩:=O (j::c) S R;have y:us[j]? =some u:=by have:=I j v;rw[<-Q]at this;rw[this,A1,Ah (by omega)];rfl
   have p:=K j _ _ (by rw[BZ,Ah v];rfl) y;refine⟨β j++b',?_,?_,?_,?_⟩
   ·unfold Jt;rw[AI,Dg,Ah v];have Y:([l[j]]:List α).flatMap f=[Ev (f l[j])]:=by rw[AI,F3,AN];exact(tok1<|A _).1
    show Bj P w St (([l[j]]:List α).flatMap f++_) xs _;rw[Y,t];have⟨e,n,cs,Z⟩:=dY (tok1<|A l[j]).2;exact⟨u,s,β j,b',rfl,rfl,by rw[Z];rfl,p,T⟩
   ·refine Ax.2 ⟨M j,W,λa ha b hb e=>?_⟩;subst e;exact F j (by simp) a ha hb
   ·intro g k;rcases Al.1 k with k|k
    ·exact L j g k
    ·exact X g k
   ·intro i hi g k q;rcases Al.1 q with q|q
    ·have z:i≠j:=λe=>by
      subst e;have:c.contains i=true:=by simpa using hi
      rw[this]at g2;cases g2
     exact N i j z g k q
    ·exact F i (by simp[hi]) g k q
 intro J xs m d h;have⟨b',t,C,D,_⟩:=r J [] d h;exact⟨b',t,C,D⟩
def jN(h1:∀x,YQ (f x)=true){e:TypeId}{J:zN}{v:Value}{b1:zN}{l:List α}{us:List Value}{bs:zN}(h:Ow P w St (.own e J.length<|J.flatMap<|tE U) v b1)(ht:Bj P w St (l.map λx=>Ev<|f x) us bs)(hn:bs.Nodup)
  (hU:∀i,i < l.length->U i=us.getD i undef) (hok:gH l.length J []=true) (hb1:b1.Nodup) (hd:∀g∈b1,g∉bs):∃b',Ow P w St (.own e (Jt l J).length<|(Jt l J).flatMap f) v b'∧b'.Nodup∧∀g∈b',g∈b1∨g∈bs:=by
 obtain⟨hl,xs,bs',hx,hr,rfl,hst,h0⟩:=h;obtain⟨n1,n2,n3⟩:=Ax.1 hb1;obtain⟨b',q1,q2,q3⟩:=u6 h1 ht hn hU J hok hr;have hlen:=hM hok;refine⟨v.ownBlock.toList++b',⟨by rw[hlen];exact hl,xs,b',by rw[hlen];exact hx,q1,rfl,by rw[hlen];exact hst,λhz=>?_⟩,?_,?_⟩
 ·have:Jt l J=[]:=Bf hz;rw[this];rfl
 ·refine Ax.2 ⟨n1,q2,λa ha b hb e=>?_⟩;subst e;exact hd a (Az _ ha)<|q3 a hb
 ·intro g hg;rcases Al.1 hg with hg|hg
  ·exact .inl<|Az _ hg
  ·exact .inr<|q3 g hg
end
section
variable {P:Program}{nt:Nat}{bx:zN}{σ:PS}{K:PS->Prop}{L:PL}{α:Type}{f:α->List V}{U:Nat->Value}{e:TypeId}
def pd{s c c'}(g:σ s=c)(W:∀w a t v bs,Ci P w a t c v bs->Ci P w a t c' v bs)(i:(C0 c').isSome=(C0 c).isSome)(b:D4 c'=none)(h:Gh P nt bx (upd σ s c') K):Gh P nt bx σ K:=
 jf g (λw a t v bs h j=>⟨[],bs,by simp,λg d=>d,j,(W w a t v bs h).mono (λ_ _ h=>.inl h) (λ_ _ _=>rfl) (λg d=>⟨rfl,λo=>⟨λh=>h.elim id (λh=>by simp at h),.inl⟩⟩)<|λ_ _=>rfl⟩) i b h
def gWl{s:Nat}{l:List (Nat×α)}(hs:lk L s=some (.own e l.length<|l.flatMap<|pE f U))(h1:∀x,YQ (f x)=true)(h:Gh P nt bx (CB<|(s,.own e (l.map (·.1)).length<|(l.map (·.1)).flatMap<|tE U)::L) K):Gh P nt bx (CB L) K:=by refine pd (c':=.own e (l.map (·.1)).length<|(l.map (·.1)).flatMap<|tE U) (C3 hs) (λw St t v bs hh=>?_) rfl rfl (by rw[EH]at h;exact h);obtain⟨hl,xs,bs',hx,hr,hb,hst,h0⟩:=(show Ow P w St _ v bs from hh);refine⟨by rw[Am];exact hl,xs,bs',by rw[Am];exact hx,mb h1 l hr,hb,by rw[Am];exact hst,λhz=>?_⟩;have:l=[]:=Bf (by rw[Am]at hz;exact hz);subst this;rfl
def gWt{s u n cs}(b:lk L s=some (.pin u n cs))(h:Gh P nt bx (CB<|(s,.tok u)::L) K):Gh P nt bx (CB L) K:=by refine pd (c':=.tok u) (C3 b) (λw c t v bs d=>?_) rfl rfl (by rw[EH]at h;exact h);have⟨g,a⟩:=(show Ow P w c (.pin u n cs) v bs from d);exact⟨g,a.1,(show v=u from a.1) ▸ a.oneCell⟩
def gTj{s q l us J}(n:lk L s=some (.own e J.length<|J.flatMap<|tE U))(o:lk L q=some (.gh us<|l.map λx=>Ev<|f x))(c:Nat.beq s q=false)(t:∀x,YQ (f x)=true)(u:∀i,i < l.length->U i=us.getD i undef)(k:gH l.length J []=true)
  (h:Gh P nt bx (CB<|(q,.undef)::(s,.own e (Jt l J).length<|(Jt l J).flatMap f)::L) K):Gh P nt bx (CB L) K:=by
 have d:s≠q:=λe=>by rw[e]at c;simp at c
 rintro base St0 v a w ⟨m,B,b,y,z,A⟩;have p:=b.slot s;rw[C3 n]at p;have r:=b.slot q;rw[C3 o]at r;have⟨b',C,D,F⟩:=jN t (show Ow P w m _ _ (B s)from p) r (b.nodup q) u k (b.nodup s)<|λg j=>b.apart s q d g j
 refine h base St0 v a w ⟨m,upd (upd B s b') q [],?_,y,z,A⟩;rw[EH,EH,show upd (upd (CB L) s<|V.own e (Jt l J).length<|(Jt l J).flatMap f) q .undef=upd (upd (CB L) s<|V.own e (Jt l J).length<|(Jt l J).flatMap f) q .undef from rfl];exact LK b d (by rw[C3 o];rfl) C (show Ci P w m (tm a) .undef _ []from rfl) (by rw[AN];exact D) (λg j=>by rw[AN]at j;exact F g j) (by rw[C3 n];rfl) rfl rfl rfl
def Zt{l:List α}{i:Int}{x:α}(h:AF l i=some x):l[i.toNat]? =some x:=by obtain⟨b,c,a⟩:=BB h;exact a
end
section
variable {P:Program}{w:World}{St:Nat->Nat->Prop}
def XD(P:Program)(w:World)(St:Nat->Nat->Prop)(cs:List V)(us:List Value)(β:Nat->zN):Prop:=
 us.length=cs.length∧∀j c u,cs[j]? =some c->us[j]? =some u->c.DF=true∧Ow P w St c u (β j)
def XD.fill{cs us β}(h:XD P w St cs us β){i:Nat}{u:Value}{c:V}{d:zN}(f:us[i]? =some u)(g:c.DF=true)(k:Ow P w St c u d):XD P w St (cs.set i c) us (λj=>if j=i then d else β j):=by
 refine⟨by rw[Bd];exact h.1,λj c' l a b=>?_⟩;rw[GU]at a;by_cases e:i=j
 ·subst e;rw[At rfl]at a;split at a
  ·cases a;rw[f]at b;cases b;dsimp only;rw[At rfl];exact⟨g,k⟩
  ·cases a
 ·rw[As e]at a;dsimp only;rw[As (λe':j=i=>e e'.symm)];exact h.2 j c' l a b
def XD.row{cs us β}(h:XD P w St cs us β):Bj P w St cs us (SN β 0 cs.length):=
 bu cs us 0 h.1 λi c u a b=>by rw[Cw];exact h.2 i c u a b
def kH{c u b}(a:c.DF=true)(h:Ow P w St c u b):Ow P w St (.tok u) u []:=
 ⟨rfl,rfl,(Ow.rd c h<|by cases c<;>first|rfl|cases a).oneCell⟩
def Bj.oC{cs us bs}(h:Bj P w St cs us bs)(b:bs.Nodup)(d:cs.all V.DF=true):∃β,XD P w St cs us β∧(∀i,∀g∈β i,g∈bs)∧(∀i,(β i).Nodup)∧∀i j,i≠j->∀g∈β i,g∉β j:=by have⟨β,e,f,k,l⟩:=VK h b;exact⟨β,⟨h.length,λj c u a m=>⟨Ap.1 d c<|BV a,e j c u a m⟩⟩,f,k,l⟩
end
def vX{β:Type}{cs:List β}{i p:Nat}{a b c d:β}(h:i≠p):(((cs.set i a).set p b).set i c).set p d=(cs.set i c).set p d:=by
 apply List.ext_getElem?;intro j;simp only[GU,Bd];by_cases e:p=j
 ·simp[e]
 ·by_cases e2:i=j
  ·subst e2;simp[e]
  ·simp[e,e2]
section
variable {P:Program}{nt:Nat}{bx:zN}{K:PS->Prop}{L:PL}{α:Type}{f:α->List V}{U:Nat->Value}
def ip(a:∀x,YQ (f x)=true)(l:List α):(l.map λx=>Ev<|f x).all V.DF=true:=by rw[N2,Ap];intro x _;have⟨e,n,cs,b⟩:=dY (tok1<|a x).2;show V.DF (Ev<|f x)=true;rw[b];rfl
def X7(a:∀x,YQ (f x)=true)(x:α):(Ev<|f x).DF=true:=by have⟨e,n,cs,b⟩:=dY (tok1<|a x).2;rw[b];rfl
def gT2{q:Nat}{l:List α}{us:List Value}{i p:Int}{x y:α}(W:lk L q=some (.gh us<|l.map λx=>Ev<|f x))(d:lk L gS=none)(r:Nat.beq q gS=false)(s:∀x,YQ (f x)=true)(hU:∀i,i < l.length->U i=us.getD i undef)(gi:AF l i=some x)(gp:AF l p=some y)(t:Nat.beq i.toNat p.toNat=false)
  (h:Gh P nt bx (CB<|(gS,.gh [U i.toNat,U p.toNat] [Ev (f x),Ev (f y)])::(q,.gh us<|((l.map λx=>Ev<|f x).set i.toNat<|.tok<|U i.toNat).set p.toNat<|.tok<|U p.toNat)::L) K):Gh P nt bx (CB L) K:=by
 have I:q≠gS:=λe=>by rw[e]at r;simp at r
 have u:i.toNat≠p.toNat:=λe=>by rw[e]at t;simp at t
 rintro base St0 w0 a w ⟨o,B,J,r1,r2,r3⟩;have X:=J.slot q;rw[C3 W]at X;have M:Bj P w o (l.map λx=>Ev<|f x) us (B q):=X;obtain⟨β,N,m,O,F⟩:=M.oC (J.nodup q)<|ip s l;have v:=N.1;rw[Am]at v;have hi:=Zt gi;have hp:=Zt gp
 have A:∀j z,l[j]? =some z->us[j]? =some (U j)∧Ow P w o (Ev<|f z) (U j) (β j):=λj z Y=>by
  have C:=(Cm.1 Y).1;have Z:us[j]? =some (U j):=by rw[hU j C,A1,Ah (by omega)];rfl
  exact⟨Z,(N.2 j _ _ (by rw[BZ,Y];rfl) Z).2⟩
 obtain⟨ui,oi⟩:=A _ _ hi;obtain⟨up,op⟩:=A _ _ hp;have m1:=(N.fill ui (c:=.tok<|U i.toNat) rfl<|kH (X7 s x) oi).fill up (c:=.tok<|U p.toNat) rfl<|kH (X7 s y) op
 have H:∀j g,g∈(if j=p.toNat then([]:zN)else if j=i.toNat then []else β j)->g∈β j∧j≠i.toNat∧j≠p.toNat:=λj g d=>by
  split at d
  ·simp at d
  ·split at d
   ·simp at d
   ·exact⟨d,by assumption,by assumption⟩
 obtain⟨D,Q,m2⟩:∃D,D=_∧Bj P w o _ us D:=⟨_,rfl,m1.row⟩;refine h base St0 w0 a w ⟨o,upd (upd B q D) gS<|β i.toNat++β p.toNat,?_,r1,r2,r3⟩;rw[EH,EH];refine LK J I (by rw[QF,d];rfl) (show Ci P w o (tm a) (.gh us _) _ D from m2) (show Ci P w o (tm a) (.gh [U i.toNat,U p.toNat] _) _ (β i.toNat++β p.toNat)from⟨_,_,β i.toNat,β p.toNat,rfl,rfl,X7 s x,oi,_,_,β p.toNat,[],rfl,(AN _).symm,X7 s y,op,rfl,rfl⟩) ?_ ?_ (by rw[C3 W];rfl) rfl rfl rfl<;>subst Q
 ·refine Ax.2 ⟨Sa (λj=>?_) (λj k R g d S=>F j k R g (H j g d).1 (H k g S).1) _ _,Ax.2 ⟨O _,O _,λa T b n e=>F _ _ u a T<|e ▸ n⟩,λa T b n e=>?_⟩
  ·split
   ·exact AR
   ·split
    ·exact AR
    ·exact O j
  ·subst e;obtain⟨j,_,_,C⟩:=Rw T;obtain⟨q1,q2,q3⟩:=H j a C;rcases Al.1 n with n|n
   ·exact F j _ q2 a q1 n
   ·exact F j _ q3 a q1 n
 ·intro g d;left;rcases Al.1 d with d|d
  ·obtain⟨j,_,_,C⟩:=Rw d;exact m j g (H j g C).1
  ·rcases Al.1 d with d|d
   ·exact m _ g d
   ·exact m _ g d
def gJ2{q:Nat}{l:List α}{us:List Value}{i p:Int}{x y x' y':α}(d:lk L gS=some (.gh [U i.toNat,U p.toNat] [Ev (f x'),Ev (f y')]))(Z:lk L q=some (.gh us<|((l.map λx=>Ev<|f x).set i.toNat<|.tok<|U i.toNat).set p.toNat<|.tok<|U p.toNat))(v:Nat.beq q gS=false)(h1:∀x,YQ (f x)=true)(hU:∀i,i < l.length->U i=us.getD i undef)(gi:AF l i=some x)(gp:AF l p=some y)(z:Nat.beq i.toNat p.toNat=false)
  (h:Gh P nt bx (CB<|(gS,.undef)::(q,.gh us<|(CL (CL l i x') p y').map λx=>Ev<|f x)::L) K):Gh P nt bx (CB L) K:=by
 have A:q≠gS:=λe=>by rw[e]at v;simp at v
 have C:i.toNat≠p.toNat:=λe=>by rw[e]at z;simp at z
 rintro base St0 w0 a w ⟨t,B,u,r1,r2,r3⟩;have k2:=u.slot q;rw[C3 Z]at k2;have M:Bj P w t _ us (B q):=k2;have kS:=u.slot gS;rw[C3 d]at kS;obtain⟨u1,us1,N,d2',e1,e2,c1,o1,u2,us2,O,d3,e3,e4,c2,o2,e5,e6⟩:=(show Bj P w t [Ev (f x'),Ev (f y')] _ (B gS)from kS);obtain⟨rfl,rfl⟩:=List.cons.inj e1;obtain⟨rfl,rfl⟩:=List.cons.inj e3;subst e6;rw[AN]at e4;rw[e4]at e2
 have r:(((l.map λx=>Ev<|f x).set i.toNat<|.tok<|U i.toNat).set p.toNat<|.tok<|U p.toNat).all V.DF=true:=by
  rw[Ap];intro c D;rcases CG D with D|rfl
  ·rcases CG D with D|rfl
   ·exact Ap.1 (ip h1 l) c D
   ·rfl
  ·rfl
 obtain⟨β,k1,F,k3,k4⟩:=M.oC (u.nodup q) r;have H:=k1.1;rw[Bd,Bd,Am]at H;have hi:=(Cm.1<|Zt gi).1;have hp:=(Cm.1<|Zt gp).1;have I:∀j,j < l.length->us[j]? =some (U j):=λj Q=>by rw[hU j Q,A1,Ah (by omega)];rfl
 have m1:=(k1.fill (I _ hi) c1 o1).fill (I _ hp) c2 o2;rw[vX C,<-List.map_set (f:=λx=>Ev<|f x),<-List.map_set (f:=λx=>Ev<|f x)]at m1;have o:=u.nodup gS;rw[e2]at o;obtain⟨n1,n2,n3⟩:=Ax.1 o;have b:∀j g,g∈β j->g∉N∧g∉O:=λj g R=>by have:=u.apart q gS A g<|F j g R;rw[e2,Al,Fn]at this;exact this
 have S:∀j g,g∈(if j=p.toNat then O else if j=i.toNat then N else β j)->(j=p.toNat∧g∈O)∨(j=i.toNat∧g∈N)∨g∈β j:=λj g d=>by
  split at d
  ·rename_i e;exact .inl ⟨e,d⟩
  ·split at d
   ·rename_i e;exact .inr<|.inl ⟨e,d⟩
   ·exact .inr<|.inr d
 obtain⟨J,T,m2⟩:∃J,J=_∧Bj P w t _ us J:=⟨_,rfl,m1.row⟩;refine h base St0 w0 a w ⟨t,upd (upd B q J) gS [],?_,r1,r2,r3⟩;rw[EH,EH];refine LK u A (by rw[C3 d];rfl) (show Ci P w t (tm a) (.gh us _) _ J from m2) (show Ci P w t (tm a) .undef _ []from rfl) ?_ ?_ (by rw[C3 Z];rfl) rfl rfl rfl<;>subst T
 ·rw[AN];refine Sa (λj=>?_) (λj k s g d W=>?_) _ _
  ·split
   ·exact n2
   ·split
    ·exact n1
    ·exact k3 j
  ·rcases S j g d with⟨X,m⟩|⟨X,m⟩|m<;>rcases S k g W with⟨Y,n⟩|⟨Y,n⟩|n
   ·exact s<|X.trans Y.symm
   ·exact n3 g n g m rfl
   ·exact(b k g n).2 m
   ·exact n3 g m g n rfl
   ·exact s<|X.trans Y.symm
   ·exact(b k g n).1 m
   ·exact(b j g m).2 n
   ·exact(b j g m).1 n
   ·exact k4 j k s g m n
 ·intro g d;rw[AN]at d;obtain⟨j,_,_,Q⟩:=Rw d;rcases S j g Q with⟨_,q⟩|⟨_,q⟩|q
  ·exact .inr (by rw[e2];exact Au _ q)
  ·exact .inr (by rw[e2];exact Az _ q)
  ·exact .inl<|F j g q
def hU2{l:List α}{us:List Value}{i p:Int}{x y:α}(a:∀i,i < l.length->U i=us.getD i undef):∀j,j < (CL (CL l i x) p y).length->U j=us.getD j undef:=λj b=>a j (by simpa[CL]using b)
end
def rY{α:Type}{f:α->List V}{us:List Value}(a:∀x,YQ (f x)=true)(b:∀x,Ee (f x)=true):∀(l:List α),MZ (.gh us<|l.map λx=>Ev<|f x)=true
 |[]=>rfl
 |x::l=>by have d:Ee (l.map λx=>Ev<|f x)=true:=rY (us:=us) a b l;have c:=b x;rw[(tok1<|a x).1,Ee,Ad]at c;show Ee (Ev (f x)::l.map λx=>Ev<|f x)=true;rw[Ee,c.1,d];rfl
def XN{α:Type}:∀(l:List α) (k j:Nat),(C8 k l)[j]? =(l[j]?).map λx=>(k+j,x)
 |[],_,_=>by simp[C8]
 |x::l,k,0=>by simp[C8]
 |x::l,k,j+1=>by rw[C8,CS,CS,XN l (k+1) j,show k+1+j=k+(j+1)from by omega]
def pa{α:Type}{l:List α}{i:Int}{a:Nat×α}(h:AF (C8 0 l) i=some a):a.1=i.toNat∧AF l i=some a.2:=by
 obtain⟨d,e,b⟩:=BB h;rw[XN,Cw]at b;cases c:l[i.toNat]? with
 |none=>rw[c]at b;cases b
 |some x=>rw[c]at b;cases b;refine⟨rfl,?_⟩;rw[Ru]at e;unfold AF;rw[At d];exact c
section
variable {P:Program}{nt:Nat}{bx:zN}{K:PS->Prop}{L:PL}{α:Type}{f:α->List V}{U:Nat->Value}
def gT3{q:Nat}{l:List α}{us:List Value}{i p:Int}{a b:Nat×α}(e:lk L q=some (.gh us<|l.map λx=>Ev<|f x))(g:lk L gS=none)(d:Nat.beq q gS=false)(j:∀x,YQ (f x)=true)(k:∀i,i < l.length->U i=us.getD i undef)(m:AF (C8 0 l) i=some a)(n:AF (C8 0 l) p=some b)(c:Nat.beq a.1 b.1=false)
  (h:Gh P nt bx (CB<|(gS,.gh [U a.1,U b.1] [Ev (f a.2),Ev (f b.2)])::(q,.gh us<|((l.map λx=>Ev<|f x).set a.1<|.tok<|U a.1).set b.1<|.tok<|U b.1)::L) K):Gh P nt bx (CB L) K:=by
 obtain⟨o,g1⟩:=pa m;obtain⟨e2,g2⟩:=pa n;rw[o,e2]at c h;exact gT2 e g d j k g1 g2 c h
def gJ3{q:Nat}{l:List α}{us:List Value}{i p:Int}{a b:Nat×α}{x' y':α}(e:lk L gS=some (.gh [U a.1,U b.1] [Ev (f x'),Ev (f y')]))(g:lk L q=some (.gh us<|((l.map λx=>Ev<|f x).set a.1<|.tok<|U a.1).set b.1<|.tok<|U b.1))(d:Nat.beq q gS=false)(j:∀x,YQ (f x)=true)(k:∀i,i < l.length->U i=us.getD i undef)(m:AF (C8 0 l) i=some a)(n:AF (C8 0 l) p=some b)(c:Nat.beq a.1 b.1=false)
  (h:Gh P nt bx (CB<|(gS,.undef)::(q,.gh us<|(CL (CL l i x') p y').map λx=>Ev<|f x)::L) K):Gh P nt bx (CB L) K:=by
 obtain⟨o,g1⟩:=pa m;obtain⟨e2,g2⟩:=pa n;rw[o,e2]at c e g;exact gJ2 e g d j k g1 g2 c h
end
def n8:∀{cs:List V}{i:Nat}{c:V},Ee cs=true->Sl c=true->Ee (cs.set i c)=true
 |[],_,_,_,_=>rfl
 |d::cs,0,c,h,a=>by rw[Ee,Ad]at h;rw[N5,Ee,a,h.2];rfl
 |d::cs,i+1,c,h,a=>by rw[Ee,Ad]at h;rw[N4,Ee,h.1,n8 h.2 a];rfl
def Ajj{α:Type}{f:α->List V}{us:List Value}(a:∀x,YQ (f x)=true)(b:∀x,Ee (f x)=true)(l:List α){i j:Nat}{u v:Value}:MZ (.gh us<|((l.map λx=>Ev<|f x).set i<|.tok u).set j<|.tok v)=true:=
 n8 (n8 (rY (us:=us) a b l) rfl) rfl
def qIp{P:Program}{tb:Tb}{a:zN}{L:PL}{K:PS->Prop}{s t:TypeId}{x y:Operand}{d:Nat}{α:Type}{f g:α->List V}{l:List α}{i:Int}{e:α}{n:Nat}(h:iaO tb L s x y=some (l.length,NU<|l.flatMap f,i,n))(b:∀x,NU (f x)=g x)(c:∀x,(g x).length=n)(hi:AF l i=some e)(k:K (CB<|(d,.adr (g e++(l.drop<|i.toNat+1).flatMap g) 0)::L)):Hh P tb a ⟨some d,.indexAddr s x y,t,none⟩ (CB L) K:=
 qI (by rw[h,TE b]) c hi k
end
section
section
variable {P:Program}{nt:Nat}{base:Bs}{bx:zN}{St St0:Nat->Nat->Prop}{B:Nat->zN}{hand:zN}{σ:PS}{a:Act}{w w0:World}{K:PS->Prop}{L:PL}
def HSim.fact(h:HSim P nt bx base St B hand σ a w){s q:Nat}(l:∃cs,C0 (σ s)=some cs)(m:C0 (σ q)=none):HSim P nt bx base St (upd B q []) hand (upd σ q<|.val s<|tm a s) a w:=
 have i:∀b,(∃cs,C0 (σ b)=some cs)->b≠q:=λb ⟨cs,e⟩ f=>by rw[f,m]at e;cases e
 have d:∀r,∀g∈upd B q [] r,g∈B r:=λr g c=>by
  by_cases e:r=q
  ·subst e;rw[upd_same]at c;simp at c
  ·rw[upd_ne _ _ e]at c;exact c
 {h with
  slot:=λr=>by
   by_cases e:r=q
   ·subst e;rw[upd_same,upd_same];exact⟨rfl,rfl⟩
   ·rw[upd_ne _ _ e,upd_ne _ _ e];exact h.slot r
  boxes:=λr cs e=>by
   by_cases f:r=q
   ·subst f;rw[upd_same]at e;cases e
   ·rw[upd_ne _ _ f]at e;exact h.boxes r cs e
  crefs:=λr b e=>by
   by_cases f:r=q
   ·subst f;rw[upd_same]at e;simp only[D4,Ay]at e;subst e;rw[upd_ne _ _ (i _ l)];exact l
   ·rw[upd_ne _ _ f]at e;have:=h.crefs r b e;rw[upd_ne _ _ (i _ this)];exact this
  nodup:=λr=>by
   by_cases e:r=q
   ·subst e;rw[upd_same];exact AR
   ·rw[upd_ne _ _ e];exact h.nodup r
  apart:=λr t j g c k=>h.apart r t j g (d r g c)<|d t g k
  hapart:=λr g c=>h.hapart r g<|d r g c
  range:=λr g c=>h.range r g (d r g c)}
def gFv{s:Nat}{cs}(b:lk L s=some (.box cs))(c:lk L (gV s)=none)(h:∀u,Gh P nt bx (CB<|(gV s,.val s u)::L) K):Gh P nt bx (CB L) K:=by rintro base St0 w0 a w ⟨St,B,d,e,f,g⟩;have i:=d.fact (s:=s) (q:=gV s) ⟨cs,by rw[C3 b];rfl⟩ (by rw[QF,c];rfl);exact h (tm a s) base St0 w0 a w ⟨St,_,by rw[EH];exact i,e,f,g⟩
end
def WH:Nat->List Value->PS->PS
 |_,[],σ=>σ
 |m,u::us,σ=>upd (WH (m+1) us σ) (gV m)<|.val m u
def aM{σ q}:∀{us:List Value}{m:Nat},(∀j,m<=j->q≠gV j)->WH m us σ q=σ q
 |[],_,_=>rfl
 |u::us,m,h=>by rw[WH,upd_ne _ _ (h m<|Bb _),aM λj a=>h j (by omega)]
def AeC(bx:zN)(m n:Nat):Bool:=(List.range n).all λi=>bx.contains (m+i)&&bx.contains (Sj+(m+i))
section
variable {P:Program}{nt:Nat}{base:Bs}{bx:zN}{St:Nat->Nat->Prop}{a:Act}{w:World}
def dM{σ}:∀{us:List Value}{m:Nat}{B:Nat->zN},HSim P nt bx base St B [] σ a w->(∀i u,us[i]? =some u->tm a (m+i)=u∧(∃cs,C0 (σ<|m+i)=some cs)∧m+i < 910000)->(∀j,m<=j->C0 (σ<|gV j)=none)->∃B',HSim P nt bx base St B' [] (WH m us σ) a w
 |[],_,B,h,_,_=>⟨B,h⟩
 |u::us,m,B,h,b,c=>by
  have⟨o,f⟩:=dM (us:=us) (m:=m+1) h (λi v g=>by
   have:=b (i+1) v (by simpa using g)
   rwa [show m+(i+1)=m+1+i from by omega]at this) (λj k=>c j (by omega))
  have⟨d,e,l⟩:=b 0 u rfl;rw[Di]at d e l;have n:WH (m+1) us σ m=σ m:=aM λj _=>by unfold gV;omega
  have e2:WH (m+1) us σ (gV m)=σ (gV m):=aM λj k=>by unfold gV;omega
  have:=f.fact (s:=m) (q:=gV m) (by rw[n];exact e) (by rw[e2];exact c m<|Bb _);rw[d]at this;exact⟨_,this⟩
end
section
variable {P:Program}{tb:Tb}
def AeD(htb:Lr P tb){f:FuncId}{fn:Func}{c:Code}{us:List Value}{css css':List (List V)}{args:List V}{r:V}(hf:P.funcs[f]? =some fn)(hb:fn.body=some c)(hname:(fn.name== "runtime.NumGoroutine")=false)(bx:zN)(hlen:args.length+css.length<=fn.ntmps)(hnt:fn.ntmps<=910000)(h0:AeC bx args.length css.length=true)(hargs:args.all O7=true)
  (hn:(fn.results.toList.map MF).Nodup) (hrp:r=.tup []∨J5 r=true) (h:ON P fn.ntmps bx c (WH args.length us<|Gm<|args++css.map V.box) (λe σ=>(e=.ret∨e=.normal)∧bq tb σ fn.results.toList=some r∧((List.range css.length).map λi=>σ<|args.length+i)=css'.map V.box)):Y5 P f us css args css' r:=by
 refine⟨⟨fn,hf,by rw[hb];rfl,hname⟩,λw St bs0 vs hst hgl hrow hnd hrg hvs=>?_⟩;have⟨hl,hat⟩:=args_at hvs;have hul:=hrow.length;have hss:((List.range css.length).map (args.length+ ·)).Nodup:=by unfold List.Nodup;rw[E4];exact O5 (λh e=>h<|by omega)<|show(List.range css.length).Pairwise (· ≠ ·)from F4
 have⟨β,m1,m2,m3,m4⟩:=aw (ss:=(List.range css.length).map (args.length+ ·)) hrow hnd hss (by simp)
 have hssm:∀s,s∈(List.range css.length).map (args.length+ ·)↔args.length<=s∧s < args.length+css.length:=λs=>by
  rw[Bq];constructor
  ·rintro⟨i,hi,rfl⟩;rw[AQ]at hi;omega
  ·rintro⟨h1,h2⟩;exact⟨s - args.length,AQ.2 (by omega),by omega⟩
 have hbx:∀i,i < css.length->args.length+i∈bx∧Sj+(args.length+i)∈bx:=λi hi=>by have:=Ap.1 h0 i<|AQ.2 hi;simpa[Ad,Bk]using this
 have hini:∀s,s < args.length->Gm (args++css.map V.box) s=(args[s]?).getD (.tup []):=λs hs=>by simp only[Gm,B7 hs]
 have hinb:∀s,args.length<=s->Gm (args++css.map V.box) s=((css[s - args.length]?).map V.box).getD (.tup []):=λs hs=>by simp only[Gm,Cu hs,BZ]
 refine I9 hf hb ?_
 have hsim:HSim P fn.ntmps bx ⟨λb=>b < w.heap.size∧b∉bs0,(List.range css.length).map λi=>(args.length+i,us.getD i undef)⟩ St (λs=>if args.length<=s∧s < args.length+css.length then β s else []) [] (Gm<|args++css.map V.box) {tmps:=(vs++us).toArray++Array.replicate (fn.ntmps - (vs++us).toArray.size) undef,defers:=[]} w:=by
  refine
  {size:=by simp;omega
   defers:=rfl
   slot:=λs=>?_
   boxes:=λs cs e=>?_
   crefs:=λs b e=>?_
   nodup:=λs=>by
    split
    ·exact m3 s
    ·exact AR
   apart:=λs t hst k hk hk'=>by
    split at hk
    ·split at hk'
     ·rename_i q1 q2;exact m4 s ((hssm s).2 q1) t ((hssm t).2 q2) hst k hk hk'
     ·simp at hk'
    ·simp at hk
   hnodup:=AR
   hapart:=λ_ k hk=>by simp
   range:=λs k hk=>by
    split at hk
    ·rename_i q1;exact⟨λh=>h.2<|m2 s ((hssm s).2 q1) k hk,hrg k<|m2 s ((hssm s).2 q1) k hk⟩
    ·simp at hk
   hrange:=λk hk=>by simp at hk
   st:=hst
   gl:=hgl
   pin:=λv e=>by obtain⟨i,hi,rfl⟩:=Bq.1 e;rw[AQ]at hi;rw[WC];refine⟨?_,hbx i hi⟩;rw[Cu (by omega),hl,CT,A1]}
  ·rw[WC];by_cases hs:s < args.length
   ·rw[As (by omega),hini s hs,B7 (by omega)];have⟨v,hv,hr⟩:=hat s args[s]<|Ah hs;rw[Ah hs,hv,BQ,BQ];exact(X1 (Ap.1 hargs _<|Aj hs) hr).slot
   ·rw[hinb s (by omega),Cu (by omega),hl];by_cases hs2:s < args.length+css.length
    ·rw[At ⟨by omega,hs2⟩,Ah (show s - args.length < css.length by omega),Ah (show s - args.length < us.length by omega)];simp only[B3,BQ];refine oy<|m1 (s - args.length) s _ _ ?_ (Ah _)<|Ah _;rw[BZ,FR (by omega),B3];congr 1;omega
    ·rw[As (by omega),BJ (by omega),BJ (by omega)];exact⟨[],rfl,rfl,rfl⟩
  ·by_cases hs:s < args.length
   ·rw[hini s hs,Ah hs,BQ]at e;have hp:=Ap.1 hargs _<|Aj hs;cases hc:args[s]<;>rw[hc]at e hp<;>first|(cases hp;done)|(cases e;done)
   ·by_cases hs2:s < args.length+css.length
    ·have:=(hbx (s - args.length)<|by omega).1
     rwa [show args.length+(s - args.length)=s from by omega]at this
    ·rw[hinb s (by omega),BJ (by omega)]at e;cases e
  ·by_cases hs:s < args.length
   ·rw[hini s hs,Ah hs,BQ]at e;have hp:=Ap.1 hargs _<|Aj hs;cases hc:args[s]<;>rw[hc]at e hp<;>first|(cases hp;done)|(cases e;done)
   ·rw[hinb s (by omega)]at e;cases hc:css[s - args.length]? with
    |none=>rw[hc]at e;cases e
    |some cs=>rw[hc]at e;cases e
 have⟨B1,hsim1⟩:=dM (us:=us) (m:=args.length) hsim (λi u hu=>by
  have hi:i < css.length:=by have:=(Cm.1 hu).1;omega
  refine⟨?_,?_,by omega⟩
  ·rw[WC,Cu (by omega),hl,CT,hu];rfl
  ·rw[hinb _ (by omega),CT,Ah hi];exact⟨_,rfl⟩) (λj _=>by
  have:args.length+css.length<=gV j:=by unfold gV;omega
  rw[hinb _ (by omega),BJ (by omega)];rfl)
 have hrel:Rel P fn.ntmps bx _ St w (WH args.length us<|Gm<|args++css.map V.box) _ w:=⟨St,B1,hsim1,BelowK.refl _ _,λ_ _ _=>DL,λ_ h=>h.1⟩;refine GL (h _ _ _ _ _ hrel) ?_;rintro e a' w' ⟨σ',⟨he,hres,hbox⟩,St1,B',h1,h2,h3,h4⟩
 have hfin:a'.defers=[]∧∃v,(results fn a'.tmps).run P w'=.ok v w'∧Aap P w St us bs0 css' r (.returned v) w':=by
  have⟨v,bs,q1,q2,q3,q4⟩:=ZW htb h1 hn hres
  have hbs:bs=[]:=by
   rcases hrp with rfl|hrp
   ·have⟨_,_,h5⟩:=q2;exact h5.2
   ·cases r<;>first|exact q2.1|cases hrp
  subst hbs;have hl':css'.length=css.length:=by have:=congrArg List.length hbox;simpa using this.symm
  have hbr:∀(n k:Nat) (ds:List (List V)) (vs':List Value),ds.length=n->vs'.length=n->(∀i d u,ds[i]? =some d->vs'[i]? =some u->σ' (args.length+(k+i))=.box d∧tm a' (args.length+(k+i))=u)->UO P w' St1 ds vs' (SN B' (args.length+k) n):=by
   intro n;induction n with
   |zero=>intro k ds vs' e1 e2 _;rw[J3.1 e1,J3.1 e2];exact⟨rfl,rfl⟩
   |succ n ih=>
    intro k ds vs' e1 e2 hh;cases ds with
    |nil=>cases e1
    |cons d ds=>
     cases vs' with
     |nil=>cases e2
     |cons u vs'=>
      have⟨g1,g2⟩:=hh 0 d u rfl rfl;have hs:=h1.slot<|args.length+k;rw[Di]at g1 g2;rw[g1,g2]at hs;refine⟨u,vs',B'<|args.length+k,SN B' (args.length+k+1) n,rfl,rfl,oy hs,?_⟩
      have:=ih (k+1) ds vs' (by simpa using e1) (by simpa using e2) (λi d' u' hd hu=>by
       have:=hh (i+1) d' u' (by simpa using hd) (by simpa using hu)
       rwa [show k+(i+1)=k+1+i from by omega]at this)
      rwa [show args.length+(k+1)=args.length+k+1 from by omega]at this
  have hk:∀k∈SN B' (args.length+0) css'.length,(k∈bs0∨w.heap.size<=k)∧k < w'.heap.size:=λk hk=>by have⟨i,_,_,hm⟩:=Rw hk;have hr:=h1.range i k hm;refine⟨Bv λhc=>?_,hr.2⟩;rw[Fn]at hc;exact hr.1 ⟨by omega,hc.1⟩
  refine⟨h1.defers,v,q1,v,SN B' (args.length+0) css'.length,St1,rfl,h2,λb o hb hbn=>h3 b o ⟨hb,hbn⟩,h1.st,hbr css'.length 0 css' us rfl (by omega)<|λi d u hd hu=>?_,q2,Sa h1.nodup h1.apart _ _,hk⟩;have hi:i < css.length:=by have:=(Cm.1 hd).1;omega
  rw[Cw];refine⟨?_,?_⟩
  ·have:=congrArg (λl=>l[i]?) hbox;simp only[BZ,FR hi,B3,hd,Ay]at this;exact this
  ·have:=(h1.pin (args.length+i,us.getD i undef)<|Bq.2 ⟨i,AQ.2 hi,rfl⟩).1;rw[A1,hu]at this;exact this
 rcases he with rfl|rfl
 ·exact hfin
 ·exact hfin
end
section
variable {P:Program}{tb:Tb}
def AhN(tb:Tb)(rs:List ResultVar)(m n:Nat)(a:List (List V))(r:V)(e:Exit)(σ:PS):Prop:=(e=.ret∨e=.normal)∧bq tb σ rs=some r∧((List.range n).map λi=>σ<|m+i)=a.map V.box
def zq(i:Lr P tb){f:FuncId}{nt:Nat}{bx:zN}{rs:List ResultVar}{l:LC}{us:List Value}{b d:List (List V)}{a:List V}{r:V}(m:Lit P f nt bx rs l)(g:a.length+b.length<=nt)(j:nt<=910000)(n:AeC bx a.length b.length=true)(e:a.all O7=true)(k:r=.tup []∨J5 r=true)
  (h:LS P nt bx l (WH a.length us<|Gm<|a++b.map V.box) (AhN tb rs a.length b.length d r)):Y5 P f us b a d r:=by
 obtain⟨⟨w,c,o,p,q,rfl,rfl,s,t⟩,u,v⟩:=m;exact AeD i o p q bx g j n e u k<|h c s t v
end
def dk(L:PL):zN->Option (List<|List V)
 |[]=>some []
 |s::ss=>match lk L s with
  |some (.box cs)=>G (dk L ss) λr=>some<|cs::r
  |_=>none
def mC(L:PL):zN->Option (List Value)
 |[]=>some []
 |s::ss=>match lk L (gV s)with
  |some (.val q u)=>WX (Nat.beq q s)<|G (mC L ss) λr=>some<|u::r
  |_=>none
def fZ{L}:∀{ss:zN}{a:List (List V)},dk L ss=some a->ss.map (CB L)=a.map V.box
 |[],_,h=>by cases h;rfl
 |s::ss,_,h=>by
  unfold dk at h;split at h
  ·rename_i cs b;have⟨r,c,h⟩:=AZ h;cases h;rw[AH,AH,C3 b,fZ c]
  ·cases h
def mD{L}:∀{ss:zN}{us:List Value},mC L ss=some us->(ss.map λs=>CB L<|gV s)=(ss.zip us).map (λp=>V.val p.1 p.2)∧ss.length=us.length
 |[],_,h=>by cases h;exact⟨rfl,rfl⟩
 |s::ss,_,h=>by
  unfold mC at h;split at h
  ·rename_i q u b;have⟨a,h⟩:=DP h;have⟨r,c,h⟩:=AZ h;cases h;have a:=CV a;subst a;have⟨d,e⟩:=mD c;exact⟨by rw[AH,List.zip_cons_cons,AH,C3 b,d],by rw[Ar,Ar,e]⟩
  ·cases h
def wV(L:PL):List Operand->Option (List Value)
 |[]=>some []
 |.tmp p::xs=>match lk L (gV p)with
  |some (.val q u)=>WX (Nat.beq q p)<|G (wV L xs) λr=>some<|u::r
  |_=>none
 |_::_=>none
def oB{L}:∀{xs:List Operand}{us:List Value},wV L xs=some us->iN (CB L) xs=some us
 |[],_,h=>by cases h;rfl
 |.tmp p::xs,_,h=>by
  unfold wV at h;split at h
  ·rename_i q u b;have⟨a,h⟩:=DP h;have⟨r,c,h⟩:=AZ h;cases h;have a:=CV a;subst a;unfold iN;rw[C3 b];simp only[EL,oB c,B3]
  ·cases h
 |.const _::_,_,h=>by cases h
 |.global _::_,_,h=>by cases h
 |.func _::_,_,h=>by cases h
def sfV(ss:zN):PL->Prop
 |[]=>True
 |(q,c)::L=>(ss.contains q=true∨MZ c=true)∧sfV ss L
def yvn{ss}:sfV ss []:=trivial
def yvb{ss q c L}(h:ss.contains q=true)(k:sfV ss L):sfV ss ((q,c)::L):=⟨.inl h,k⟩
def yvc{ss q c L}(h:MZ c=true)(k:sfV ss L):sfV ss ((q,c)::L):=⟨.inr h,k⟩
def vY{ss}:∀{L:PL},sfV ss L->∀q,q∉ss->MZ (CB L q)=true
 |[],_,q,_=>rfl
 |(p,c)::L,⟨b,d⟩,q,a=>by
  rw[EH];by_cases e:q=p
  ·subst e;rw[upd_same];exact b.resolve_left λh=>a<|Bk.1 h
  ·rw[upd_ne _ _ e];exact vY d q a
def wm:zN->List (List V)->PL->PL
 |s::ss,cs::a,L=>(s,.box cs)::wm ss a L
 |_,_,L=>L
def qO{L}:∀{ss:zN}{a:List (List V)},fA (CB L) ss a=CB (wm ss a L)
 |[],_=>rfl
 |_::_,[]=>rfl
 |s::ss,cs::a=>by rw[fA,wm,EH,qO]
def uM:zN->Bool
 |[]=>true
 |s::ss=> !ss.contains s&&uM ss
def pO:∀{ss:zN},uM ss=true->ss.Nodup
 |[],_=>AR
 |s::ss,h=>by rw[uM,Ad,AY,<-Hn,Bk]at h;exact BF.2 ⟨h.1,pO h.2⟩
def ny{L L1 S}(h:Yn L S=some L1):kill (Um L S) (CB L)=CB L1:=by
 have⟨L',f,h⟩:=AZ h;have⟨g,h⟩:=DP h;cases h;have⟨i,j,k⟩:=VB f;funext q;by_cases a:q∈S
 ·have l:=C3 (i q a);have m:¬(Um L S).contains q=true:=λh=>(OB.1 h).2 a
  unfold kill;rw[As m,l];cases n:D4 (CB L1 q)with
  |none=>rfl
  |some b=>
   have o:b∈S:=by have⟨p,r,c⟩:=jH n;have:=Ap.1 g p r;rw[c,k]at this;exact Bk.1 this
   have d:¬(Um L S).contains b=true:=λh=>(OB.1 h).2 o
   simp only[As d]
 ·rw[j q a];by_cases e:q∈L.map (·.1)
  ·exact Wb<|OB.2 ⟨e,a⟩
  ·unfold kill;rw[XT e];split<;>rfl
section
variable {P:Program}{tb:Tb}{cns:zN}{L:PL}{K:PS->Prop}{t:TypeId}{x:Operand}
def zrA(σ:PS):List Operand->List V->Prop
 |[],c=>c=[]
 |x::xs,c=>∃a b,c=a::b∧(Cz σ x).isArg=true∧iC (Cz σ x)=a∧zrA σ xs b
def wy{σ}:∀{xs:List Operand}{b:List V},zrA σ xs b->xs.all (λx=>(Cz σ x).isArg)=true∧(xs.map λx=>iC<|Cz σ x)=b
 |[],_,h=>by cases h;exact⟨rfl,rfl⟩
 |x::xs,_,⟨a,c,e,d,f,g⟩=>by have⟨i,j⟩:=wy g;subst e;exact⟨by rw[Bz,d,i];rfl,by rw[AH,f,j]⟩
def zn:zrA (CB L) [] []:=rfl
def za{c a:V}{xs as}(b:wI L x=some c)(d:iC c=a)(e:zrA (CB L) xs as):zrA (CB L) (x::xs) (a::as):=⟨a,as,rfl,(by rw[(XG b).1];exact(XG b).2),(by rw[(XG b).1];exact d),e⟩
def wU{d f args us css css' r L1}(ss S:zN)(i:dk L ss=some css)(j:mC L ss=some us)(l:uM ss=true)(m:args.all (λx=>(Cz (CB L) x).isArg)=true)(n:Aaq P (CB L) f us css args css' r)
  (c:Yn L (ss++S)=some L1) (a:sfV ss L1) (k:K (VH (CB<|wm ss css' L1) d r)):VZ P d (.func (.func f) #[] us.toArray) args (CB L) K:=by
 have⟨o,p⟩:=mD j;refine⟨f,us,ss,css,css',r,Um L<|ss++S,rfl,fZ i,o,p,pO l,m,n,λs u=>?_,λq v=>?_,?_⟩
 ·cases w:(Um L<|ss++S).contains s with
  |false=>rfl
  |true=>exact absurd (Az _ u) (OB.1 w).2
 ·by_cases e:(Um L<|ss++S).contains q=true
  ·exact .inl e
  ·right;by_cases g:q∈L.map (·.1)
   ·have y:q∈ss++S:=Bv λh=>e (OB.2 ⟨g,h⟩)
    have⟨L',z,b⟩:=AZ c;have⟨_,b⟩:=DP b;cases b;rw[C3 ((VB z).1 q y)];exact vY a q v
   ·rw[XT g];rfl
 ·rw[ny c,qO];exact k
def qVz{d p f args ts us css css' as r L1}(ss S:zN)(b:lk L p=some (.tok<|.func (.func f) #[] us.toArray))(c:dk L ss=some css)(e:mC L ss=some us)(g:uM ss=true)(h:zrA (CB L) args.toList as)(i:Y5 P f us css as css' r)
  (j:Yn L (ss++S)=some L1) (a:sfV ss L1) (k:K (CB<|(d,r)::wm ss css' L1)) (l:cns.contains d=false:=by rfl):Hh P tb cns ⟨some d,.call {callee:=.value (.tmp p),args:=args,argTypes:=ts},t,none⟩ (CB L) K:=by
 have⟨m,n⟩:=wy h
 show(match Cz (CB L) (.tmp p)with
  |.fn f=>Lo P cns _ f args.toList (CB L) K
  |.tok u=>YB P cns _ u args.toList (CB L) K
  |_=>e9 cns _ (CB L) K)
 rw[show Cz (CB L) (.tmp p)=.tok (.func (.func f) #[] us.toArray)from C3 b];exact⟨l,wU ss S c e g m (.inr<|by rw[n];exact i) j a k⟩
def qMf{d f fs caps us}(a:fs.toList=[])(b:wV L caps.toList=some us)(k:K (CB<|(d,.tok<|.func (.func f) #[] us.toArray)::L)):Hh P tb cns ⟨some d,.makeFunc (.func f) fs caps,t,none⟩ (CB L) K:=by show mkF f fs.toList caps.toList d (CB L) K;unfold mkF;rw[a,oB b];exact k
end
def Zp:Nat->List Value->PL->PL
 |_,[],L=>L
 |m,u::us,L=>(gV m,.val m u)::Zp (m+1) us L
def th{L σ}(j:∀p∈L,p.1 < 910000)(h:gG σ L):∀(us:List Value) (m:Nat),gG (WH m us σ) (Zp m us L)
 |[],m=>h
 |u::us,m=>by
  have f:∀(us:List Value) (m:Nat) (σ:PS) (v:V),gG σ (Zp (m+1) us L)->gG (upd σ (gV m) v) (Zp (m+1) us L):=by
   have l:∀(L':PL) (σ:PS) (q:Nat) (v:V),(∀p∈L',p.1≠q)->gG σ L'->gG (upd σ q v) L':=by
    intro L';induction L' with
    |nil=>intro _ _ _ _ _;trivial
    |cons p L' g=>have⟨r,c⟩:=p;intro σ q v a b;exact⟨by rw[upd_ne _ _ (a (r,c) BG)];exact b.1,g σ q v (λp i=>a p<|AV _ i) b.2⟩
   intro us m σ v b;refine l _ _ _ _ (λp i e=>?_) b
   have:∀(us:List Value) (k:Nat),m < k->p∉Zp k us L:=by
    intro us;induction us with
    |nil=>intro k _ d;have:=j p d;rw[e]at this;unfold gV at this;omega
    |cons u us g=>
     intro k b d;rcases AA.1 d with rfl|d
     ·simp only[gV]at e;omega
     ·exact g (k+1) (by omega) d
   exact this us (m+1) (by omega) i
  refine⟨?_,f us m _ _<|th j h us<|m+1⟩;rw[WH,upd_same];exact kr
def t7:∀(cs:List V) (i:Nat),∀p∈S9 i cs,p.1 < i+cs.length
 |[],_,p,a=>by simp[S9]at a
 |c::cs,i,p,a=>by
  rw[S9]at a;rcases AA.1 a with rfl|a
  ·simp
  ·have:=t7 cs (i+1) p a;rw[Ar];omega
def qiv{P nt bx l Q xs us m}(c:xs.length<=910000)(a:okR (Zp m us<|S9 0 xs)=true)(k:LS P nt bx l (CB<|Zp m us<|S9 0 xs) Q):LS P nt bx l (WH m us<|Gm xs) Q:=
 GC _ (th (λp b=>by have:=t7 xs 0 p b;omega) (nw xs 0 0) us m) a k
end
end Go.Proofs.YtpnoalhfjnjeaaaGreatDoor
