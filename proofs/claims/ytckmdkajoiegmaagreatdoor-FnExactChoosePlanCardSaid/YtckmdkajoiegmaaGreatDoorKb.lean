/-
  A machine on data, part 2: code, the rules of the printed walks, loops. Over no program; no conditions.
-/
import Derived.Test.YtckmdkajoiegmaaGreatDoorKq
open Go.RowKit
set_option linter.unusedVariables false
set_option linter.unusedSimpArgs false
namespace Go.Proofs.YtckmdkajoiegmaaGreatDoor
theorem p2{α β:Type}{a a':α}{b b':β}(h:(a,b)=(a',b')):a=a'∧b=b':=Prod.mk.inj h
theorem p3{α β γ:Type}{a a':α}{b b':β}{c c':γ}(h:(a,b,c)=(a',b',c')):a=a'∧b=b'∧c=c':=⟨(p2 h).1,p2 (p2 h).2⟩
theorem p4{α β γ δ:Type}{a a':α}{b b':β}{c c':γ}{d d':δ}(h:(a,b,c,d)=(a',b',c',d')):a=a'∧b=b'∧c=c'∧d=d':=⟨(p2 h).1,p3 (p2 h).2⟩
theorem p5{α β γ δ ε:Type}{a a':α}{b b':β}{c c':γ}{d d':δ}{e e':ε}(h:(a,b,c,d,e)=(a',b',c',d',e')):a=a'∧b=b'∧c=c'∧d=d'∧e=e':=⟨(p2 h).1,p4 (p2 h).2⟩
section
variable {P:Program}{tb:Tb}{cns:List Nat}{σ:PS}{K:PS->Prop}{d s t:Nat}{x y z:Operand}
theorem FD{op:Op}{q:Nat}{e b:Bool}(g:e=b)(h:(gOp cns d op,σ q)=(true,.bool e))(k:F7 P tb cns ⟨some d,op,t,none⟩ σ K):F7 P tb cns ⟨some d,op,t,some (some q,b)⟩ σ K:=by
 subst g;obtain⟨h1,h2⟩:=p2 h;exact vS h1 h2 k
theorem ed{o:LO}{os:List LO}{R W:List Nat}{fps:List (List Nat×List Nat)}(h:(UG R W o.op σ,adB cns R o σ)=(true,true))(k:F7 P tb cns o σ (λσ'=>VK P tb cns fps os σ' K)):VK P tb cns ((R,W)::fps) (o::os) σ K:=evd (p2 h).1 (p2 h).2 k
end
def vA(σ:PS):List (Nat×V)->List V
  |[]=>[]
  |(s,_)::L=>σ s::vA σ L
def vB:List (Nat×V)->List V
  |[]=>[]
  |(_,c)::L=>c::vB L
theorem A0{σ:PS}:∀{L:List (Nat×V)},vA σ L=vB L->Y1 σ L
  |[],_=>trivial
  |(s,c)::L,h=>by
    injection h with h1 h2
    exact⟨h1 ▸ kr,A0 h2⟩
section
variable {P:Program}{nt:Nat}{bx:List Nat}{σ:PS}{Q:Exit->PS->Prop}{tb:Tb}{cns:List Nat}
theorem kp{l:LC}(L:List (Nat×V))(h1:vA σ L=vB L)(h2:okR L=true)(h:LS P nt bx l (Cd L) Q):LS P nt bx l σ Q:=MG L (A0 h1) h2 h
theorem en{l:LC}(L:List (Nat×V))(h1:vA σ L=vB L)(h2:okR L=true)(h:LS P nt bx l (Cd L) Q):U1 P tb cns [] σ (λσ'=>LS P nt bx l σ' Q):=MG L (A0 h1) h2 h
end
end Go.Proofs.YtckmdkajoiegmaaGreatDoor
namespace Go.Proofs.YtckmdkajoiegmaaGreatDoor
abbrev PL:=List (Nat×V)
def RG{α:Type}(b:Bool)(x:Option α):Option α:=match b with
  |true=>x
  |false=>none
theorem Du{α:Type}{b:Bool}{x:Option α}{r:α}(h:RG b x=some r):b=true∧x=some r:=by
  cases b with
  |true=>exact⟨rfl,h⟩
  |false=>cases h
def rL:V->Option V
  |.int k n=>some (.int k n)
  |.bool b=>some (.bool b)
  |.str s=>some (.str s)
  |.own e n cs=>some (.own e n cs)
  |.dat n cs=>some (.dat n cs)
  |.arg n cs=>some (.arg n cs)
  |.pin u n cs=>some (.pin u n cs)
  |.fn f=>some (.fn f)
  |.tok u=>some (.tok u)
  |_=>none
def bK:List V->Option (List V)
  |[]=>some []
  |c::cs=>Aa (rL c) λa=>Aa (bK cs) λas=>some (a::as)
def rM:V->Option V
  |.agg cs=>Aa (bK cs) λas=>some (.agg as)
  |c=>rL c
def jA:List V->Option (List V)
  |[]=>some []
  |c::cs=>Aa (rM c) λa=>Aa (jA cs) λas=>some (a::as)
def U6:V->Option V
  |.tup cs=>Aa (jA cs) λas=>some (.tup as)
  |.box cs=>Aa (bK cs) λas=>some (.box as)
  |.cref s o=>some (.cref s o)
  |.adr cs o=>some (.adr cs o)
  |.same s=>some (.same s)
  |.val s u=>some (.val s u)
  |.uni e n cs=>some (.uni e n cs)
  |c=>rM c
theorem eU{c d:V}(h:rL c=some d):d=c:=by cases c<;>first|(cases h;rfl)|cases h
theorem Wu:∀{cs ds:List V},bK cs=some ds->ds=cs
  |[],_,h=>by cases h;rfl
  |c::cs,_,h=>by
    rw[bK]at h
    obtain⟨a,h1,h⟩:=AT h
    obtain⟨as,h2,h⟩:=AT h
    cases h;rw[eU h1,Wu h2]
theorem eV{c d:V}(h:rM c=some d):d=c:=by
  cases c with
  |agg cs=>obtain⟨as,h2,h⟩:=AT (show Aa (bK cs) _=_ from h);cases h;rw[Wu h2]
  |_=>exact eU h
theorem eW:∀{cs ds:List V},jA cs=some ds->ds=cs
  |[],_,h=>by cases h;rfl
  |c::cs,_,h=>by
    rw[jA]at h
    obtain⟨a,h1,h⟩:=AT h
    obtain⟨as,h2,h⟩:=AT h
    cases h;rw[eV h1,eW h2]
theorem Gy{c d:V}(h:U6 c=some d):d=c:=by
  cases c with
  |tup cs=>obtain⟨as,h2,h⟩:=AT (show Aa (jA cs) _=_ from h);cases h;rw[eW h2]
  |box cs=>obtain⟨as,h2,h⟩:=AT (show Aa (bK cs) _=_ from h);cases h;rw[Wu h2]
  |cref s o=>cases h;rfl
  |adr s o=>cases h;rfl
  |same s=>cases h;rfl
  |val s u=>cases h;rfl
  |uni e n cs=>cases h;rfl
  |_=>exact eV h
def lk:PL->Nat->Option V
  |[],_=>none
  |(s,c)::L,q=>match Nat.beq q s with
    |true=>some c
    |false=>lk L q
theorem D3(s:Nat)(c:V)(L:PL):Cd ((s,c)::L)=upd (Cd L) s c:=rfl
theorem Nc:∀(L:PL) (q:Nat),Cd L q=(lk L q).getD .undef
  |[],_=>rfl
  |(s,c)::L,q=>by
    rw[lk,D3]
    cases h:Nat.beq q s with
    |true=>rw[CE h,upd_same];rfl
    |false=>rw[upd_ne _ _ (Nat.ne_of_beq_eq_false h)];exact Nc L q
theorem CF{L:PL}{q:Nat}{c:V}(h:lk L q=some c):Cd L q=c:=by rw[Nc,h];rfl
def Ps(L:PL):Operand->Option V
  |.tmp s=>lk L s
  |.const v=>U6 (cV v)
  |.func f=>some (.fn f)
  |_=>none
theorem D0{L:PL}{x:Operand}{c:V}(h:Ps L x=some c):Ce (Cd L) x=c:=by
  cases x with
  |tmp s=>exact CF h
  |const v=>exact(Gy h).symm
  |func f=>cases h;rfl
  |_=>cases h
def adO(L:PL):Operand->Option V
  |.tmp s=>Aa (lk L s) λc=>match c with
    |.box _=>some (.cref s 0)
    |c=>some c
  |.global g=>U6 (bX g)
  |_=>none
theorem PP{L:PL}{x:Operand}{c:V}(h:adO L x=some c):Ki (Cd L) x=c:=by
  cases x with
  |tmp s=>
    obtain⟨a,h1,h⟩:=AT (show Aa (lk L s) _=_ from h)
    have:=CF h1
    simp only[Ki,this]
    cases a<;>(cases h;rfl)
  |global g=>exact(Gy h).symm
  |_=>cases h
def n9:V->Bool
  |.own .. =>true
  |_=>false
def oc:V->Bool
  |.agg cs=>cs.any n9
  |c=>n9 c
def xK:V->Bool
  |.tup cs=>cs.any oc
  |c=>oc c
theorem oa{c:V}(h:n9 c=false):Ra c=c:=by cases c<;>first|rfl|cases h
theorem cu:∀{cs:List V},cs.any n9=false->cs.map Ra=cs
  |[],_=>rfl
  |c::cs,h=>by
    rw[E8,C2]at h
    rw[AK,oa h.1,cu h.2]
theorem fD{c:V}(h:oc c=false):dg2 c=c:=by
  cases c with
  |agg cs=>rw[dg2,cu h]
  |_=>first|rfl|cases h
theorem cv:∀{cs:List V},cs.any oc=false->cs.map dg2=cs
  |[],_=>rfl
  |c::cs,h=>by
    rw[E8,C2]at h
    rw[AK,fD h.1,cv h.2]
theorem un{c:V}(h:xK c=false):dg c=c:=by
  cases c with
  |tup cs=>rw[dg,cv h]
  |agg cs=>exact fD (c:=.agg cs) h
  |_=>first|rfl|cases h
theorem cO(σ:PS)(s:Nat):upd σ s (σ s)=σ:=by
  funext q
  by_cases e:q=s
  · rw[e,upd_same]
  · rw[upd_ne _ _ e]
def Q9(L:PL)(x:Operand)(c:V):Option PL:=match x with
  |.tmp s=>match xK c with
    |false=>some L
    |true=>Aa (U6 (dg c)) λc'=>some ((s,c')::L)
  |_=>some L
theorem Lz{L L':PL}{x:Operand}{c:V}(h:Ps L x=some c)(h2:Q9 L x c=some L'):Cd L'=CG (Cd L) x:=by
  cases x with
  |tmp s=>
    have e:=CF h
    simp only[Q9,CG]at h2⊢
    split at h2
    · rename_i ho
      cases h2
      rw[e,un ho,<-e,cO]
    · obtain⟨c',h3,h2⟩:=AT h2
      cases h2
      rw[Gy h3,D3,e]
  |_=>cases h2;rfl
def mvO(L:PL):Operand->Option V
  |.tmp s=>Aa (lk L s) λc=>match c with
    |.uni _ _ _=>some (.same s)
    |.same b=>some (.same b)
    |.box _=>some (.cref s 0)
    |.cref b o=>some (.cref b o)
    |c=>RG c.isVal (U6 (dg c))
  |.const v=>Aa (U6 (cV v)) λc=>RG c.isVal (U6 (dg c))
  |_=>none
def Wx:Option TyD->Bool
  |some (.sc (.bool false))=>true
  |_=>false
def kEq:IntKind->IntKind->Bool
  |.i64,.i64=>true
  |.u8,.u8=>true
  |k,k'=>decide (k=k')
theorem Z9{k k':IntKind}(h:kEq k k'=true):k=k':=by
  cases k<;>cases k'<;>first|rfl|cases h
def o6(d:Option TyD):List V->List V->Bool
  |[.int k _,.int l _],[.int k' _,.int l' _]=>kEq k k'&&(kEq l l'&&d.elim false TyD.two)
  |_,_=>false
theorem o7{d:Option TyD}{a b:List V}(h:o6 d a b=true):o8 d a b:=by
  unfold o6 at h
  split at h
  · rw[Ab,Ab]at h
    exact⟨Z9 h.1,Z9 h.2.1,h.2.2⟩
  · cases h
def mM(d:Option TyD):BinOp->V->V->Bool
  |.shl,.int _ _,.int _ b=>decide (0<=b)
  |.shr,.int _ _,.int _ b=>decide (0<=b)
  |.quo,.int k _,.int k' b=>kEq k k'&& !decide (b=0)
  |.rem,.int k _,.int k' b=>kEq k k'&& !decide (b=0)
  |_,.int k _,.int k' _=>kEq k k'
  |.eql,.str _,.str _=>true
  |.neq,.str _,.str _=>true
  |.lss,.str _,.str _=>true
  |.leq,.str _,.str _=>true
  |.gtr,.str _,.str _=>true
  |.geq,.str _,.str _=>true
  |.eql,.agg a,.agg b=>o6 d a b
  |.neq,.agg a,.agg b=>o6 d a b
  |.eql,.bool _,.bool _=>Wx d
  |.neq,.bool _,.bool _=>Wx d
  |_,_,_=>false
def unB:UnOp->V->Bool
  |.not,.bool _=>true
  |.neg,.int _ _=>true
  |_,_=>false
def cvB(tb:Tb)(s d:TypeId)(x:V):Option V:=match tb s,tb d,x with
  |some _,some (.sc (.int k _)),.int _ n=>some (.int k (k.wrap n))
  |_,_,_=>none
def bxL(L:PL)(s:Nat):Option (List V):=Aa (lk L s) CN
def kj(tb:Tb)(L:PL)(t:TypeId)(x:Operand):Option V:=Aa (tb t) λd=>Aa (adO L x) λc=>match c with
  |.cref s off=>Aa (bxL L s) λcs=>RG (Nat.ble (off+d.size) cs.length) (U6 (getCells d cs off))
  |.adr cs off=>RG (Nat.ble (off+d.size) cs.length) (U6 (getCells d cs off))
  |_=>none
def ptF(k:Nat):Value->Option V
  |.pointer (some ⟨g,o,none⟩)=>some (.tok (.pointer (some ⟨g,o+k,none⟩)))
  |_=>none
theorem uo{k:Nat}{u:Value}{v:V}(h:ptF k u=some v):nx u=true∧tokF k u=v:=by
  unfold ptF at h
  split at h
  · cases h;exact⟨rfl,rfl⟩
  · cases h
def faO(tb:Tb)(L:PL)(t:TypeId)(x:Operand)(f:Nat):Option V:=Aa (tb t) λd=>match d with
  |.st _ _ fs=>Aa (fs[f]?) λp=>Aa (adO L x) λc=>match c with
    |.cref s o=>Aa (bxL L s) λ_=>some (.cref s (o+p.1))
    |.adr cs o=>some (.adr cs (o+p.1))
    |.tok u=>ptF p.1 u
    |_=>none
  |_=>none
def xG(L:PL)(x:Operand):Option V:=Aa (adO L x) λc=>match c with
  |.cref s o=>Aa (bxL L s) λ_=>some (.cref s o)
  |.adr cs o=>some (.adr cs o)
  |_=>none
def Xp:Option TyD->Bool
  |some (.sc (.str []))=>true
  |_=>false
def bR:Option TyD->Bool
  |some (.sl ..)=>true
  |_=>false
def wv(L:PL)(d:Option TyD):V->Option V
  |.str s=>RG (Xp d) (some (.int .i64 s.length))
  |.same b=>Aa (lk L b) λc=>match c with
    |.uni _ n _=>RG (bR d) (some (.int .i64 n))
    |_=>none
  |c=>Aa (I1 c) λp=>RG (bR d) (some (.int .i64 p.1))
def bi(tb:Tb)(L:PL):Callee->List Operand->List TypeId->Option V
  |.builtin .len,[x],[t]=>Aa (Ps L x) (wv L (tb t))
  |.builtin .max,[x,y],_=>Aa (Ps L x) λa=>Aa (Ps L y) λb=>match a,b with
    |.int k a,.int _ b=>some (.int k (if a < b then b else a))
    |_,_=>none
  |.builtin .min,[x,y],_=>Aa (Ps L x) λa=>Aa (Ps L y) λb=>match a,b with
    |.int k a,.int _ b=>some (.int k (if b < a then b else a))
    |_,_=>none
  |_,_,_=>none
def cA(tb:Tb)(L:PL):Op->Option V
  |.move x=>mvO L x
  |.pick c a b=>Aa (Ps L c) λq=>match q with
    |.bool e=>match e with
      |true=>Aa (Ps L a) λc=>RG c.isVal (U6 (dg c))
      |false=>Aa (Ps L b) λc=>RG c.isVal (U6 (dg c))
    |_=>none
  |.binOp op t x y _=>Aa (Ps L x) λa=>Aa (Ps L y) λb=>RG (mM (tb t) op a b) (U6 (cY op a b))
  |.unOp op _ x=>Aa (Ps L x) λa=>RG (unB op a) (U6 (unV op a))
  |.convert s d x=>Aa (Ps L x) λa=>cvB tb s d a
  |.load t x=>kj tb L t x
  |.fieldAddr t x f=>faO tb L t x f
  |.call c=>bi tb L c.callee c.args.toList c.argTypes.toList
  |_=>none
theorem dw{d:Option TyD}(h:Wx d=true):d=some (.sc (.bool false)):=by
  unfold Wx at h
  split at h
  · rfl
  · cases h
theorem YT{d:Option TyD}(h:Xp d=true):d=some (.sc (.str [])):=by
  unfold Xp at h
  split at h
  · rfl
  · cases h
theorem bS{d:Option TyD}(h:bR d=true):∃e es eb ez,d=some (.sl e es eb ez):=by
  unfold bR at h
  split at h
  · exact⟨_,_,_,_,rfl⟩
  · cases h
theorem mN{d:Option TyD}{op:BinOp}{a b:V}(h:mM d op a b=true):ZG d op a b:=by
  cases a<;>cases b<;>cases op<;>first|(cases h;done)|exact trivial|exact dw h|exact Z9 h|exact o7 h|(simp only[mM,AB]at h;exact h)|(simp only[mM,Ab,AD,HJ]at h;exact⟨Z9 h.1,h.2⟩)
theorem uP{op:UnOp}{a:V}(h:unB op a=true):unC op a:=by
  cases a<;>cases op<;>first|(cases h;done)|exact trivial
theorem uT{σ:PS}{s:Nat}{c:V}(e:σ s=c)(h:c.isVal=true):mvC σ (.tmp s)∧mvV σ (.tmp s)=dg c:=by
  subst e
  simp only[mvC,mvV]
  cases hc:σ s<;>rw[hc]at h<;>first|(cases h;done)|exact⟨h,rfl⟩
theorem kH{L:PL}{x:Operand}{v:V}(h:mvO L x=some v):mvC (Cd L) x∧mvV (Cd L) x=v:=by
  cases x with
  |tmp s=>
    obtain⟨c,h1,h⟩:=AT (show Aa (lk L s) _=_ from h)
    have e:=CF h1
    cases c with
    |uni a b c=>cases h;simp only[mvC,mvV,e];exact⟨trivial,trivial⟩
    |same b=>cases h;simp only[mvC,mvV,e];exact⟨trivial,trivial⟩
    |box b=>cases h;simp only[mvC,mvV,e];exact⟨trivial,trivial⟩
    |cref b o=>cases h;simp only[mvC,mvV,e];exact⟨trivial,trivial⟩
    |_=>
      obtain⟨h2,h3⟩:=Du h
      obtain⟨h4,h5⟩:=uT e h2
      exact⟨h4,h5.trans (Gy h3).symm⟩
  |const c=>
    obtain⟨c,h1,h⟩:=AT (show Aa (U6 (cV c)) _=_ from h)
    obtain⟨h2,h3⟩:=Du h
    have e:=Gy h1
    subst e
    exact⟨h2,(Gy h3).symm⟩
  |_=>cases h
theorem bZ{tb:Tb}{L:PL}{t:TypeId}{x:Operand}{v:V}(h:kj tb L t x=some v):QK (tb t) (Cd L) (Ki (Cd L) x)∧QL (tb t) (Cd L) (Ki (Cd L) x)=v:=by
  obtain⟨d,h1,h⟩:=AT h
  obtain⟨c,h2,h⟩:=AT h
  rw[h1,PP h2]
  simp only[QK,QL]
  cases c with
  |cref s off=>
    obtain⟨cs,h3,h⟩:=AT h
    obtain⟨h4,h⟩:=Du h
    obtain⟨c,h5,h6⟩:=AT h3
    have:=CF h5
    simp only[RR,Ua,this,h6]
    exact⟨nb h4,(Gy h).symm⟩
  |adr cs off=>
    obtain⟨h4,h⟩:=Du h
    exact⟨nb h4,(Gy h).symm⟩
  |_=>cases h
theorem jv{tb:Tb}{L:PL}{t:TypeId}{x:Operand}{f:Nat}{v:V}(h:faO tb L t x f=some v):bE (tb t) f (Cd L) (Ki (Cd L) x)∧jw (tb t) f (Ki (Cd L) x)=v:=by
  obtain⟨d,h1,h⟩:=AT h
  cases d with
  |st n z fs=>
    obtain⟨p,h2,h⟩:=AT h
    obtain⟨c,h3,h⟩:=AT h
    rw[h1,PP h3]
    simp only[bE,jw,h2]
    cases c with
    |cref s o=>
      obtain⟨cs,h4,h⟩:=AT h
      obtain⟨c,h5,h6⟩:=AT h4
      cases h
      have:=CF h5
      exact⟨⟨cs,by rw[this,h6]⟩,rfl⟩
    |adr cs o=>cases h;exact⟨trivial,rfl⟩
    |tok u=>exact uo h
    |_=>cases h
  |_=>cases h
theorem nV{L:PL}{x:Operand}{v:V}(h:xG L x=some v):faC (Cd L) (Ki (Cd L) x)∧Ki (Cd L) x=v:=by
  obtain⟨c,h3,h⟩:=AT h
  rw[PP h3]
  cases c with
  |cref s o=>
    obtain⟨cs,h4,h⟩:=AT h
    obtain⟨c,h5,h6⟩:=AT h4
    cases h
    have:=CF h5
    exact⟨⟨cs,by rw[this,h6]⟩,rfl⟩
  |adr cs o=>cases h;exact⟨trivial,rfl⟩
  |_=>cases h
theorem ac{L:PL}{d:Option TyD}{c v:V}{n:Nat}{cs:List V}(hs:I1 c=some (n,cs))(h:RG (bR d) (some (V.int .i64 n))=some v):S2 d (Cd L) c∧Yy (Cd L) c=v:=by
  obtain⟨h2,h⟩:=Du h
  obtain⟨a,b,z,q,rfl⟩:=bS h2
  cases h
  cases c<;>first|(cases hs;done)|(cases hs;exact⟨trivial,rfl⟩)
theorem ny{L:PL}{d:Option TyD}{c v:V}(h:wv L d c=some v):S2 d (Cd L) c∧Yy (Cd L) c=v:=by
  cases c with
  |str s=>
    obtain⟨h1,h⟩:=Du (show RG (Xp d) _=_ from h)
    cases h;exact⟨YT h1,rfl⟩
  |same b=>
    obtain⟨c,h1,h⟩:=AT (show Aa (lk L b) _=_ from h)
    have:=CF h1
    cases c with
    |uni e n cs=>
      obtain⟨h2,h⟩:=Du h
      obtain⟨a,b,c,z,rfl⟩:=bS h2
      cases h
      simp only[S2,Yy,this];exact⟨trivial,trivial⟩
    |_=>cases h
  |own e n cs=>exact ac rfl h
  |dat n cs=>exact ac rfl h
  |arg n cs=>exact ac rfl h
  |pin u n cs=>exact ac rfl h
  |_=>cases h
theorem WY{tb:Tb}{L:PL}{c:Callee}{xs:List Operand}{ts:List TypeId}{v:V}(h:bi tb L c xs ts=some v):O7 tb (Cd L) c xs ts∧ML (Cd L) c xs=v:=by
  unfold bi at h
  split at h
  · obtain⟨a,h1,h⟩:=AT h
    simp only[O7,ML,D0 h1]
    exact ny h
  · obtain⟨a,h1,h⟩:=AT h
    obtain⟨b,h2,h⟩:=AT h
    simp only[O7,ML,D0 h1,D0 h2]
    split at h
    · cases h;exact⟨trivial,rfl⟩
    · cases h
  · obtain⟨a,h1,h⟩:=AT h
    obtain⟨b,h2,h⟩:=AT h
    simp only[O7,ML,D0 h1,D0 h2]
    split at h
    · cases h;exact⟨trivial,rfl⟩
    · cases h
  · cases h
theorem Ul{tb:Tb}{L:PL}{op:Op}{v:V}(h:cA tb L op=some v):pc tb (Cd L) op∧pv tb (Cd L) op=v:=by
  cases op with
  |move x=>exact kH h
  |pick c a b=>
    obtain⟨q,h1,h⟩:=AT (show Aa (Ps L c) _=_ from h)
    simp only[pc,pv,D0 h1]
    cases q with
    |bool e=>
      cases e with
      |true=>
        obtain⟨c,h2,h⟩:=AT h
        obtain⟨h3,h⟩:=Du h
        simp only[XV,XW,D0 h2,Er];exact⟨h3,(Gy h).symm⟩
      |false=>
        obtain⟨c,h2,h⟩:=AT h
        obtain⟨h3,h⟩:=Du h
        simp only[XV,XW,D0 h2,B6,C8];exact⟨h3,(Gy h).symm⟩
    |_=>cases h
  |binOp op t x y t'=>
    obtain⟨a,h1,h⟩:=AT (show Aa (Ps L x) _=_ from h)
    obtain⟨b,h2,h⟩:=AT h
    obtain⟨h3,h⟩:=Du h
    simp only[pc,pv,D0 h1,D0 h2]
    exact⟨mN h3,(Gy h).symm⟩
  |unOp op t x=>
    obtain⟨a,h1,h⟩:=AT (show Aa (Ps L x) _=_ from h)
    obtain⟨h3,h⟩:=Du h
    simp only[pc,pv,D0 h1]
    exact⟨uP h3,(Gy h).symm⟩
  |convert s d x=>
    obtain⟨a,h1,h⟩:=AT (show Aa (Ps L x) _=_ from h)
    simp only[pc,pv,D0 h1]
    unfold cvB at h
    split at h
    · rename_i h2 h3
      cases h
      simp only[W3,YK,h2,h3];exact⟨trivial,trivial⟩
    · cases h
  |load t x=>exact bZ h
  |fieldAddr t x f=>exact jv h
  |call c=>exact WY h
  |_=>cases h
def Po(L:PL)(g:Option (Option Nat×Bool))(d:Nat)(v:Option PL):Option PL:=match g with
  |none=>v
  |some (some q,b)=>Aa (lk L q) λc=>match c with
    |.bool e=>match e,b with
      |true,true=>v
      |false,false=>v
      |_,_=>some ((d,.tup [])::L)
    |.tup _=>some ((d,.tup [])::L)
    |_=>none
  |some (none,_)=>none
def mH(tb:Tb)(t:TypeId)(x:Operand)(d:Nat)(L:PL):Option PL:=match x with
  |.const (.slice none 0 0)=>Aa (tb t) λdd=>match dd with
    |.sl e _ _ _=>some ((d,.own e 0 [])::L)
    |_=>none
  |.const (.pointer none)=>some ((d,.undef)::L)
  |.tmp p=>Aa (lk L p) λc=>match c with
    |.box _=>some ((d,.cref p 0)::L)
    |.cref b o=>some ((d,.cref b o)::L)
    |c=>RG c.isVal (Aa (Q9 L (.tmp p) c) λL'=>some ((d,c)::L'))
  |.const v=>Aa (U6 (cV v)) λc=>RG c.isVal (some ((d,c)::L))
  |_=>none
def loadT(tb:Tb)(t:TypeId)(x:Operand)(d:Nat)(L:PL):Option PL:=Aa (tb t) λdd=>Aa (adO L x) λa=>match a with
  |.cref s off=>Aa (lk L s) λc=>match c with
    |.box cs=>RG (Nat.ble (off+dd.size) cs.length) (Aa (U6 (.box (Nb dd.size cs off))) λb=>Aa (U6 (O6 dd cs off)) λv=>some ((d,v)::(s,b)::L))
    |_=>none
  |.adr cs off=>RG (Nat.ble (off+dd.size) cs.length) (Aa (U6 (getCells dd cs off)) λv=>some ((d,v)::L))
  |_=>none
def yP(s i d:Nat)(L:PL):Option PL:=Aa (lk L s) λt=>match t with
  |.tup cs=>Aa (cs[i]?) λc=>RG (cs.all V.isArg) (Aa (U6 (.tup (cs.set i (dg2 c)))) λt'=>some ((d,c)::(s,t')::L))
  |_=>none
def zo(tb:Tb)(t:TypeId)(x y:Operand)(L:PL):Option PL:=Aa (tb t) λdd=>Aa (adO L x) λa=>match a with
  |.cref s off=>Aa (lk L s) λb=>match b with
    |.box cs=>Aa (Ps L y) λc=>RG (c.isArg&&(Nat.beq (Gx c).length dd.size&&Nat.ble (off+dd.size) cs.length)) (Aa (Q9 L y c) λL'=>Aa (U6 (.box (MP cs off (Gx c)))) λb'=>some ((s,b')::L'))
    |_=>none
  |_=>none
def nbL(L:PL)(d:Nat):Bool:=match lk L d with
  |some c=>Ds c
  |none=>true
theorem ak{L:PL}{d:Nat}(h:nbL L d=true):Ds (Cd L d)=true:=by
  unfold nbL at h
  rw[Nc]
  cases hl:lk L d with
  |none=>rfl
  |some c=>rw[hl]at h;exact h
def alO(tb:Tb)(t:TypeId)(d:Nat)(L:PL):Option PL:=Aa (tb t) λdd=>RG (nbL L d) (Aa (U6 (.box (Yh dd))) λb=>some ((d,b)::L))
def qY(x:Operand)(d:Nat)(L:PL):Option PL:=Aa (Ps L x) λc=>RG c.isArg (Aa (Q9 L x c) λL'=>RG (nbL L' d) (Aa (U6 (.box (Gx c))) λb=>some ((d,b)::L')))
def bF(place:Nat->Option (Nat×Nat)):List (Nat×Operand)->PL->List V->Option (PL×List V)
  |[],L,cs=>some (L,cs)
  |(i,x)::r,L,cs=>Aa (place i) λp=>Aa (Ps L x) λc=>RG (c.isArg&&(Nat.beq (Gx c).length p.2&&Nat.ble (p.1+p.2) cs.length)) (Aa (Q9 L x c) λL'=>bF place r L' (MP cs p.1 (Gx c)))
theorem Xa{place:Nat->Option (Nat×Nat)}:∀{ps:List (Nat×Operand)}{L L':PL}{cs cs':List V},bF place ps L cs=some (L',cs')->N5 place ps (Cd L) cs=some (Cd L',cs')
  |[],_,_,_,_,h=>by cases h;rfl
  |(i,x)::r,L,L',cs,cs',h=>by
    rw[bF]at h
    obtain⟨p,h1,h⟩:=AT h
    obtain⟨c,h2,h⟩:=AT h
    obtain⟨h3,h⟩:=Du h
    obtain⟨L1,h4,h⟩:=AT h
    simp only[Ab]at h3
    rw[N5,h1]
    simp only
    rw[D0 h2,AJ ⟨h3.1,CE h3.2.1,nb h3.2.2⟩,<-Lz h2 h4]
    exact Xa h
def yH(tb:Tb)(t:TypeId)(ps:List (Nat×Operand))(d:Nat)(L:PL):Option PL:=Aa (tb t) λdd=>match dd with
  |.st _ z fs=>Aa (bF (λi=>fs[i]?) ps L z) λq=>Aa (U6 (.agg q.2)) λc=>some ((d,c)::q.1)
  |_=>none
def Lg(tb:Tb)(cns:List Nat)(o:LO)(L:PL):Option PL:=match o with
  |⟨some d,op,t,g⟩=>match op with
    |.assign x=>match g,cns.contains d with
      |none,false=>mH tb t x d L
      |_,_=>none
    |.move x=>match cns.contains d with
      |true=>(match g with
        |none=>mH tb t x d L
        |_=>none)
      |false=>Po L g d (Aa (mvO L x) λv=>some ((d,v)::L))
    |.load t x=>match cns.contains d with
      |true=>(match g with
        |none=>loadT tb t x d L
        |_=>none)
      |false=>Po L g d (Aa (kj tb L t x) λv=>some ((d,v)::L))
    |.extract (.tmp s) i=>match g with
      |none=>yP s i d L
      |_=>none
    |.alloc t=>match g with
      |none=>alO tb t d L
      |_=>none
    |.box _ x=>match g with
      |none=>qY x d L
      |_=>none
    |.build t ps=>Po L g d (yH tb t ps.toList d L)
    |.pick c a b=>Po L g d (Aa (cA tb L (.pick c a b)) λv=>some ((d,v)::L))
    |.binOp p t x y t'=>Po L g d (Aa (cA tb L (.binOp p t x y t')) λv=>some ((d,v)::L))
    |.unOp p t x=>Po L g d (Aa (cA tb L (.unOp p t x)) λv=>some ((d,v)::L))
    |.convert s t x=>Po L g d (Aa (cA tb L (.convert s t x)) λv=>some ((d,v)::L))
    |.fieldAddr t x f=>Po L g d (Aa (faO tb L t x f) λv=>some ((d,v)::L))
    |.nilCheck x=>Po L g d (Aa (xG L x) λv=>some ((d,v)::L))
    |.call c=>match c.callee with
      |.value (.func _)=>(match cns.contains d with
        |true=>none
        |false=>Po L g d none)
      |.value (.tmp _)=>none
      |.value (.const _)=>none
      |.value (.global _)=>none
      |_=>Po L g d (Aa (bi tb L c.callee c.args.toList c.argTypes.toList) λv=>some ((d,v)::L))
    |.index .. =>Po L g d none
    |.indexAddr .. =>Po L g d none
    |.slice .. =>Po L g d none
    |.buildSlice .. =>Po L g d none
    |.field .. =>Po L g d none
    |_=>none
  |⟨none,.store t x y,_,none⟩=>zo tb t x y L
  |_=>none
section
variable {P:Program}{tb:Tb}{cns:List Nat}{L L':PL}{K:PS->Prop}{d:Nat}
theorem Iw{op:Op}{t:TypeId}{g:Option (Option Nat×Bool)}{v:Option V}(hv:∀r,v=some r->pc tb (Cd L) op∧pv tb (Cd L) op=r)(h:Po L g d (Aa v λv=>some ((d,v)::L))=some L')(k:K (Cd L')):I4 tb ⟨some d,op,t,g⟩ (Cd L) K:=by
  have run:∀{L':PL},Aa v (λv=>some ((d,v)::L))=some L'->K (Cd L')->pc tb (Cd L) op∧K (upd (Cd L) d (pv tb (Cd L) op)):=by
    intro L' h k
    obtain⟨r,h1,h⟩:=AT h
    cases h
    obtain⟨h2,h3⟩:=hv r h1
    exact⟨h2,by rw[h3];exact k⟩
  unfold Po at h
  split at h
  · exact run h k
  · rename_i q b
    obtain⟨c,h1,h⟩:=AT h
    simp only[I4,CF h1]
    cases c with
    |bool e=>
      cases e<;>cases b<;>simp only at h<;>first
        |exact⟨rfl,λ_=>run h k,λe=>by cases e⟩
        |(cases h;exact⟨rfl,(λe=>by cases e),λ_=>k⟩)
    |tup cs=>cases h;exact⟨rfl,(λe=>by cases e),λ_=>k⟩
    |_=>cases h
  · cases h
theorem Wv{o:LO}{g:Option (Option Nat×Bool)}{v:Option PL}{X:Prop}(ho:o.g=g)(hv:∀L',v=some L'->K (Cd L')->X)(h:Po L g d v=some L')(k:K (Cd L')):ON o d (Cd L) K X:=by
  subst ho
  unfold Po at h
  unfold ON
  split at h
  · rename_i e;rw[e];exact hv _ h k
  · rename_i q b e
    rw[e]
    obtain⟨c,h1,h⟩:=AT h
    simp only[CF h1]
    cases c with
    |bool e=>
      cases e<;>cases b<;>simp only at h<;>first
        |exact⟨rfl,λ_=>hv _ h k,λe=>by cases e⟩
        |(cases h;exact⟨rfl,(λe=>by cases e),λ_=>k⟩)
    |tup cs=>cases h;exact⟨rfl,(λe=>by cases e),λ_=>k⟩
    |_=>cases h
  · cases h
theorem d6{x:Operand}{o:LO}(h:mH tb o.ty x d L=some L')(k:K (Cd L')):N9 tb o x d (Cd L) K:=by
  unfold mH at h
  split at h
  · obtain⟨dd,h1,h⟩:=AT h
    cases dd with
    |sl e es eb ez=>cases h;simp only[N9,h1];exact k
    |_=>cases h
  · cases h;simp only[N9];exact k
  · rename_i p
    obtain⟨c,h1,h⟩:=AT h
    have gen:RG c.isVal (Aa (Q9 L (.tmp p) c) λL'=>some ((d,c)::L'))=some L'->N9 tb o (.tmp p) d (Cd L) K:=by
      intro h
      obtain⟨h2,h⟩:=Du h
      obtain⟨L1,h3,h⟩:=AT h
      cases h
      have e:=Lz (x:=.tmp p) h1 h3
      rw[D3,e]at k
      exact mI (CF h1) h2 (by rw[<-CF h1];simp only[CG]at k;rw[CF h1]at k⊢;exact k)
    cases c with
    |box cs=>cases h;simp only[N9,CF h1];exact k
    |cref b o=>cases h;simp only[N9,CF h1];exact k
    |_=>exact gen h
  · rename_i v hn hn2
    obtain⟨c,h1,h⟩:=AT h
    obtain⟨h2,h⟩:=Du h
    cases h
    have e:=Gy h1
    subst e
    unfold N9
    split
    · rename_i he;injection he with he;exact absurd (by rw[he]) hn
    · rename_i he;injection he with he;exact absurd (by rw[he]) hn2
    · rename_i he;cases he
    · exact⟨h2,k⟩
  · cases h
theorem vH{t:TypeId}{cal:Callee}{args:Array Operand}{ts:Array TypeId}{g:Option (Option Nat×Bool)}{L L':PL}(h:Po L g d (Aa (bi tb L cal args.toList ts.toList) λv=>some ((d,v)::L))=some L')(k:K (Cd L')):I4 tb ⟨some d,.call ⟨cal,args,ts⟩,t,g⟩ (Cd L) K:=Iw (op:=.call ⟨cal,args,ts⟩) (λr hr=>WY hr) h k
theorem Yc{o:LO}(h:Lg tb cns o L=some L')(k:K (Cd L')):F7 P tb cns o (Cd L) K:=by
  obtain⟨dst,op,t,g⟩:=o
  cases dst with
  |none=>
    unfold Lg at h
    split at h
    · rename_i he;cases he
    · rename_i t' x y ty he
      injection he with e1 e2 e3 e4
      subst e2 e4
      obtain⟨dd,h1,h⟩:=AT h
      obtain⟨a,h2,h⟩:=AT h
      cases a with
      |cref s off=>
        obtain⟨b,h3,h⟩:=AT h
        cases b with
        |box cs=>
          obtain⟨c,h4,h⟩:=AT h
          obtain⟨h5,h⟩:=Du h
          obtain⟨L1,h6,h⟩:=AT h
          obtain⟨b',h7,h⟩:=AT h
          cases h
          simp only[Ab]at h5
          have e:=Gy h7
          subst e
          simp only[F7,aM,h1,PP h2,CF h3,CN,Q5,D0 h4]
          refine⟨trivial,h5.1,CE h5.2.1,nb h5.2.2,?_⟩
          rw[<-Lz h4 h6];exact k
        |_=>cases h
      |_=>cases h
    · cases h
  |some d=>
    cases op with
    |assign x=>
      simp only[Lg]at h
      split at h
      · rename_i hc
        simp only[F7,hc,B6,C8]
        exact⟨trivial,d6 (o:=⟨some d,.assign x,t,none⟩) h k⟩
      · cases h
    |move x=>
      simp only[Lg]at h
      split at h
      · rename_i hc
        cases g with
        |none=>
          simp only[F7,hc,Er]
          exact⟨trivial,d6 (o:=⟨some d,.move x,t,none⟩) h k⟩
        |some g=>cases h
      · rename_i hc
        simp only[F7,hc,B6,C8]
        exact Iw (λr hr=>kH hr) h k
    |load s x=>
      simp only[Lg]at h
      split at h
      · rename_i hc
        cases g with
        |none=>
          simp only[F7,hc,Er]
          refine⟨trivial,?_⟩
          obtain⟨dd,h1,h⟩:=AT h
          obtain⟨a,h2,h⟩:=AT h
          simp only[T9,h1,PP h2]
          cases a with
          |cref b off=>
            obtain⟨c,h3,h⟩:=AT h
            cases c with
            |box cs=>
              obtain⟨h4,h⟩:=Du h
              obtain⟨b',h5,h⟩:=AT h
              obtain⟨v,h6,h⟩:=AT h
              cases h
              rw[Gy h5,Gy h6]at k
              simp only[CF h3,CN,Q5]
              exact⟨nb h4,k⟩
            |_=>cases h
          |adr cs off=>
            obtain⟨h4,h⟩:=Du h
            obtain⟨v,h6,h⟩:=AT h
            cases h
            rw[Gy h6]at k
            exact⟨nb h4,k⟩
          |_=>cases h
        |some g=>cases h
      · rename_i hc
        simp only[F7,hc,B6,C8]
        exact Iw (λr hr=>bZ hr) h k
    |extract x i=>
      cases x with
      |tmp s=>
        cases g with
        |none=>
          simp only[Lg]at h
          obtain⟨a,h1,h⟩:=AT h
          cases a with
          |tup cs=>
            obtain⟨c,h2,h⟩:=AT h
            obtain⟨h3,h⟩:=Du h
            obtain⟨v,h4,h⟩:=AT h
            cases h
            rw[Gy h4]at k
            simp only[F7,bD,CF h1,h2]
            exact⟨trivial,h3,k⟩
          |_=>cases h
        |some g=>cases h
      |_=>cases h
    |alloc s=>
      cases g with
      |none=>
        obtain⟨dd,h1,h⟩:=AT (show Aa (tb s) _=_ from h)
        obtain⟨h2,h⟩:=Du h
        obtain⟨v,h4,h⟩:=AT h
        cases h
        rw[Gy h4]at k
        exact vR (ak h2) h1 k
      |some g=>cases h
    |box ty x=>
      cases g with
      |none=>
        obtain⟨c,h1,h⟩:=AT (show Aa (Ps L x) _=_ from h)
        obtain⟨h2,h⟩:=Du h
        obtain⟨L1,h3,h⟩:=AT h
        obtain⟨h4,h⟩:=Du h
        obtain⟨v,h5,h⟩:=AT h
        cases h
        rw[Gy h5]at k
        have e:=Lz h1 h3
        have h4:=ak h4
        rw[e]at h4
        simp only[F7,boxS,D0 h1]
        exact⟨trivial,h2,h4,by rw[<-e];exact k⟩
      |some g=>cases h
    |build s ps=>
      simp only[Lg]at h
      simp only[F7]
      refine Wv rfl (λL1 h k=>?_) h k
      obtain⟨dd,h1,h⟩:=AT h
      cases dd with
      |st n z fs=>
        obtain⟨q,h2,h⟩:=AT h
        obtain⟨c,h3,h⟩:=AT h
        cases h
        rw[Gy h3]at k
        simp only[Rr,h1,Xa (L':=q.1) (cs':=q.2) h2]
        exact k
      |_=>cases h
    |pick c a b=>simp only[Lg]at h;exact Iw (op:=.pick c a b) (λr hr=>Ul hr) h k
    |binOp p t x y t'=>simp only[Lg]at h;exact Iw (op:=.binOp p t x y t') (λr hr=>Ul hr) h k
    |unOp p t x=>simp only[Lg]at h;exact Iw (op:=.unOp p t x) (λr hr=>Ul hr) h k
    |convert s t x=>simp only[Lg]at h;exact Iw (op:=.convert s t x) (λr hr=>Ul hr) h k
    |fieldAddr t x f=>simp only[Lg]at h;exact Iw (op:=.fieldAddr t x f) (λr hr=>jv hr) h k
    |nilCheck x=>simp only[Lg]at h;exact Iw (op:=.nilCheck x) (λr hr=>nV hr) h k
    |index s x y=>simp only[Lg]at h;exact Iw (op:=.index s x y) (v:=none) (λr hr=>by cases hr) h k
    |indexAddr s x y=>simp only[Lg]at h;exact Iw (op:=.indexAddr s x y) (v:=none) (λr hr=>by cases hr) h k
    |slice s x lo hi m=>simp only[Lg]at h;exact Iw (op:=.slice s x lo hi m) (v:=none) (λr hr=>by cases hr) h k
    |buildSlice s n ps=>simp only[Lg]at h;simp only[F7];exact Wv rfl (λL1 h k=>by cases h) h k
    |field s x f=>simp only[Lg]at h;simp only[F7];exact Wv rfl (λL1 h k=>by cases h) h k
    |call c=>
      obtain⟨cal,args,ts⟩:=c
      simp only[Lg]at h
      cases cal with
      |value x=>
        cases x with
        |func f=>
          simp only at h
          cases hcd:cns.contains d with
          |true=>rw[hcd]at h;cases h
          |false=>
            rw[hcd]at h
            simp only at h
            show Jp P cns ⟨some d,.call ⟨.value (.func f),args,ts⟩,t,g⟩ f args.toList (Cd L) K
            unfold Jp
            rw[AN (by simpa using hcd)]
            left
            unfold OI
            unfold Po at h
            cases g with
            |none=>cases h
            |some g=>
              obtain⟨q,b⟩:=g
              cases q with
              |none=>cases h
              |some q=>
                obtain⟨c,h1,h⟩:=AT (show Aa (lk L q) _=_ from h)
                simp only[CF h1]
                cases c with
                |bool e=>
                  cases e<;>cases b<;>simp only at h<;>first
                    |(cases h;done)
                    |(cases h;exact⟨rfl,(λe=>by cases e),λ_=>k⟩)
                |tup cs=>cases h;exact⟨rfl,(λe=>by cases e),λ_=>k⟩
                |_=>cases h
        |_=>cases h
      |builtin b=>
        have hp:I4 tb ⟨some d,.call ⟨.builtin b,args,ts⟩,t,g⟩ (Cd L) K:=Iw (op:=.call ⟨.builtin b,args,ts⟩) (λr hr=>WY hr) h k
        cases b with
        |append=>
          simp only[F7,Ru]
          split
          · rename_i heq;cases heq
          · rename_i _ heq _ _
            injection heq with heq
            subst heq
            refine Wv rfl (λL1 h k=>?_) h k
            obtain⟨r,hr,_⟩:=AT h
            cases hr
          · exact hp
        |_=>exact hp
      |_=>exact vH h k
    |_=>cases h
end
def cJ(tb:Tb)(cns:List Nat):Nat->List LO->PL->Option (List LO×PL)
  |0,os,L=>some (os,L)
  |_+1,[],_=>none
  |n+1,o::os,L=>Aa (Lg tb cns o L) λL'=>cJ tb cns n os L'
def mJ(L:PL)(R:List Nat)(p:Nat):Bool:=match lk L p with
  |some c=>Yi R c
  |none=>true
theorem d7{L:PL}{R:List Nat}{p:Nat}(h:mJ L R p=true):Yi R (Cd L p)=true:=by
  unfold mJ at h
  rw[Nc]
  cases hl:lk L p with
  |none=>rfl
  |some c=>rw[hl]at h;exact h
def iS(L:PL)(R W:List Nat)(p:Nat):Bool:=match lk L p with
  |some c=>bf R W p c
  |none=>true
theorem iT{L:PL}{R W:List Nat}{p:Nat}(h:iS L R W p=true):bf R W p (Cd L p)=true:=by
  unfold iS at h
  rw[Nc]
  cases hl:lk L p with
  |none=>rfl
  |some c=>rw[hl]at h;exact h
def dE(L:PL)(p:Nat):Bool:=match lk L p with
  |some c=>Ug c
  |none=>true
theorem gW{L:PL}{p:Nat}(h:dE L p=true):Ug (Cd L p)=true:=by
  unfold dE at h
  rw[Nc]
  cases hl:lk L p with
  |none=>rfl
  |some c=>rw[hl]at h;exact h
def qW(L:PL)(p:Nat):Bool:=match lk L p with
  |some c=>i7 c
  |none=>false
theorem mQ{L:PL}{p:Nat}(h:qW L p=true):i7 (Cd L p)=true:=by
  unfold qW at h
  rw[Nc]
  cases hl:lk L p with
  |none=>rw[hl]at h;cases h
  |some c=>rw[hl]at h;exact h
def tkL(L:PL)(p:Nat):Bool:=match lk L p with
  |some c=>jW c
  |none=>false
theorem uH{L:PL}{p:Nat}(h:tkL L p=true):jW (Cd L p)=true:=by
  unfold tkL at h
  rw[Nc]
  cases hl:lk L p with
  |none=>rw[hl]at h;cases h
  |some c=>rw[hl]at h;exact h
def stepD(tb:Tb)(cns:List Nat):Nat->List (List Nat×List Nat)->List LO->PL->Option (List (List Nat×List Nat)×List LO×PL)
  |0,fps,os,L=>some (fps,os,L)
  |n+1,(R,W)::fps,o::os,L=>RG ((adP o.op).all (mJ L R)&&((adC o.op).all (iS L R W)&&((adS o.op).all (dE L)&&(((adU cns o).all (mJ L R)&&(adT cns o).all (tkL L))&&(ptS cns).all (qW L))))) (Aa (Lg tb cns o L) λL'=>stepD tb cns n fps os L')
  |_+1,_,_,_=>none
def YU(L:PL):List Nat->Option PL
  |[]=>some []
  |s::ss=>Aa (lk L s) λc=>Aa (YU L ss) λL'=>some ((s,c)::L')
def S0(L:PL)(ss:List Nat):Option PL:=Aa (YU L ss) λL'=>RG (okR L') (some L')
theorem bT{L:PL}:∀{ss:List Nat}{L':PL},YU L ss=some L'->Y1 (Cd L) L'
  |[],_,h=>by cases h;trivial
  |s::ss,_,h=>by
    rw[YU]at h
    obtain⟨c,h1,h⟩:=AT h
    obtain⟨L1,h2,h⟩:=AT h
    cases h
    exact⟨(CF h1) ▸ kr,bT h2⟩
theorem bU{L L':PL}{ss:List Nat}(h:S0 L ss=some L'):Y1 (Cd L) L'∧okR L'=true:=by
  obtain⟨L1,h1,h⟩:=AT h
  obtain⟨h2,h⟩:=Du h
  cases h
  exact⟨bT h1,h2⟩
def Pq:Nat->List V->PL
  |_,[]=>[]
  |i,c::cs=>(i,c)::Pq (i+1) cs
theorem dv:∀(args:List V) (i s:Nat),Y1 (λq=>(args[q - i]?).getD (.tup [])) (Pq i args)
  |[],_,_=>trivial
  |c::cs,i,s=>by
    refine⟨by simpa using kr,?_⟩
    have h:=dv cs (i+1) s
    have key:∀(L:PL) (f g:PS),(∀p∈L,f p.1=g p.1)->Y1 f L->Y1 g L:=by
      intro L f g
      induction L with
      |nil=>intro _ _;trivial
      |cons p L ih=>
        obtain⟨q,c⟩:=p
        intro he hk
        exact⟨by rw[<-he (q,c) (by simp)];exact hk.1,ih (λp hp=>he p (by simp[hp])) hk.2⟩
    have hlow:∀(cs:List V) (j:Nat),∀p∈Pq j cs,j<=p.1:=by
      intro cs
      induction cs with
      |nil=>intro j p hp;simp[Pq]at hp
      |cons c cs ih=>
        intro j p hp
        simp only[Pq,AO]at hp
        rcases hp with rfl|hp
        · exact A9 _
        · have:=ih (j+1) p hp;omega
    refine key _ _ _ (λp hp=>?_) h
    have:=hlow cs (i+1) p hp
    rw[show p.1 - i=(p.1 - (i+1))+1 by omega,Dx]
section
variable {P:Program}{tb:Tb}{cns:List Nat}{L L':PL}{K:PS->Prop}{ops os:List LO}{fps fps':List (List Nat×List Nat)}
theorem Yb:∀{n:Nat}{ops:List LO}{L:PL},cJ tb cns n ops L=some (os,L')->U1 P tb cns os (Cd L') K->U1 P tb cns ops (Cd L) K
  |0,_,_,h,k=>by cases h;exact k
  |_+1,[],_,h,_=>by cases h
  |n+1,o::ops,L,h,k=>by
    rw[cJ]at h
    obtain⟨L1,h1,h⟩:=AT h
    exact Yc (K:=λσ'=>U1 P tb cns ops σ' K) h1 (Yb h k)
theorem AW(n:Nat)(h:cJ tb cns n ops L=some ([],L'))(k:K (Cd L')):U1 P tb cns ops (Cd L) K:=Yb h k
theorem sp(n:Nat)(h:cJ tb cns n ops L=some (os,L'))(k:U1 P tb cns os (Cd L') K):U1 P tb cns ops (Cd L) K:=Yb h k
theorem cH:∀{n:Nat}{fps:List (List Nat×List Nat)}{ops:List LO}{L:PL},stepD tb cns n fps ops L=some (fps',os,L')->VK P tb cns fps' os (Cd L') K->VK P tb cns fps ops (Cd L) K
  |0,_,_,_,h,k=>by cases h;exact k
  |n+1,[],_,_,h,_=>by cases h
  |n+1,_::_,[],_,h,_=>by cases h
  |n+1,(R,W)::fps,o::ops,L,h,k=>by
    rw[stepD]at h
    obtain⟨h1,h⟩:=Du h
    obtain⟨L1,h2,h⟩:=AT h
    simp only[Ab,Af]at h1
    refine evd (by unfold UG;rw[Ab,Ab];exact⟨Af.2 λp hp=>d7 (h1.1 p hp),Af.2 λp hp=>iT (h1.2.1 p hp),Af.2 λp hp=>gW (h1.2.2.1 p hp)⟩) (by unfold adB bxS;rw[Ab,Ab];exact⟨⟨Af.2 λp hp=>d7 (h1.2.2.2.1.1 p hp),Af.2 λp hp=>uH (h1.2.2.2.1.2 p hp)⟩,Af.2 λp hp=>mQ (h1.2.2.2.2 p hp)⟩) ?_
    exact Yc (K:=λσ'=>VK P tb cns fps ops σ' K) h2 (cH h k)
theorem sd(n:Nat)(h:stepD tb cns n fps ops L=some (fps',os,L'))(k:VK P tb cns fps' os (Cd L') K):VK P tb cns fps ops (Cd L) K:=cH h k
theorem kh{q:Nat}{c b:Bool}(e:c=b)(h:lk L q=some (.bool c)):Cd ((q,.bool b)::L)=Cd L:=by
  subst e
  rw[D3,<-CF h,cO]
theorem qg(q:Nat){c b:Bool}(e:c=b)(h:lk L q=some (.bool c))(k:U1 P tb cns ops (Cd ((q,.bool b)::L)) K):U1 P tb cns ops (Cd L) K:=by rw[kh e h]at k;exact k
theorem WA(q:Nat){c b:Bool}(e:c=b)(h:lk L q=some (.bool c))(k:VK P tb cns fps ops (Cd ((q,.bool b)::L)) K):VK P tb cns fps ops (Cd L) K:=by rw[kh e h]at k;exact k
end
section
variable {P:Program}{nt:Nat}{bx:List Nat}{l:LC}{Q:Exit->PS->Prop}{tb:Tb}{cns:List Nat}{L L':PL}
theorem qk(ss:List Nat)(h:S0 L ss=some L')(k:LS P nt bx l (Cd L') Q):LS P nt bx l (Cd L) Q:=MG L' (bU h).1 (bU h).2 k
theorem qi(args:List V)(hr:okR (Pq 0 args)=true)(k:LS P nt bx l (Cd (Pq 0 args)) Q):LS P nt bx l (Fc args) Q:=MG _ (dv args 0 0) hr k
end
section
variable {P:Program}{tb:Tb}{cns:List Nat}{L:PL}{K:PS->Prop}{d s t:Nat}{x y z:Operand}
def mD(L:PL)(x:Operand):Option V:=Aa (Ps L x) λc=>RG c.isArg (some c)
theorem Sf{c:V}(h:mD L x=some c):Ce (Cd L) x=c∧c.isArg=true:=by
  obtain⟨c',h1,h⟩:=AT h
  obtain⟨h2,h⟩:=Du h
  cases h
  exact⟨D0 h1,h2⟩
theorem qa{c a:V}{xs:List Operand}{as:List V}(h1:mD L x=some c)(h2:er c=a)(h3:erA (Cd L) xs as):erA (Cd L) (x::xs) (a::as):=era (by rw[(Sf h1).1];exact(Sf h1).2) (by rw[(Sf h1).1];exact h2) h3
def yZ:V->Bool
  |.int .. |.bool .. |.str .. |.fn .. =>true
  |_=>false
theorem qs{a:V}{xs:List Operand}{as:List V}(h1:Aa (mD L x) (λc=>RG (yZ c) (some c))=some a)(h3:erA (Cd L) xs as):erA (Cd L) (x::xs) (a::as):=by
  obtain⟨c,h2,h⟩:=AT h1
  obtain⟨h4,h⟩:=Du h
  cases h
  exact qa h2 (by cases a<;>first|rfl|cases h4) h3
theorem cnF(hc:cns.contains d=false):(some d).toList.any cns.contains=false:=by simpa using hc
theorem qC{f:FuncId}{args:Array Operand}{ts:Array TypeId}{as:List V}{r:V}(he:erA (Cd L) args.toList as)(hs:AI P f as r)(k:K (Cd ((d,r)::L)))(hc:cns.contains d=false:=by rfl):F7 P tb cns ⟨some d,.call {callee:=.value (.func f),args:=args,argTypes:=ts},t,none⟩ (Cd L) K:=na (cnF hc) he hs k
def iaO(tb:Tb)(L:PL)(s:TypeId)(x y:Operand):Option (Nat×List V×Int×Nat):=Aa (Ps L x) λa=>Aa (I1 a) λp=>Aa (Ps L y) λb=>match b with
  |.int _ i=>Aa (tb s) λdd=>match dd with
    |.sl _ es _ _=>some (p.1,p.2,i,es)
    |_=>none
  |_=>none
theorem qI{α:Type}{f:α->List V}{l:List α}{i:Int}{e:α}{n:Nat}(h:iaO tb L s x y=some (l.length,l.flatMap f,i,n))(hf:∀x,(f x).length=n)(hi:A4 l i=some e)(k:K (Cd ((d,.adr (f e++(l.drop (i.toNat+1)).flatMap f) 0)::L))):F7 P tb cns ⟨some d,.indexAddr s x y,t,none⟩ (Cd L) K:=by
  obtain⟨a,h1,h⟩:=AT h
  obtain⟨p,h2,h⟩:=AT h
  obtain⟨b,h3,h⟩:=AT h
  obtain⟨g1,g2,g3⟩:=Cn hi
  cases b with
  |int kk j=>
    obtain⟨dd,h4,h⟩:=AT h
    cases dd with
    |sl e' es eb ez=>
      simp only[Ak,B0]at h
      obtain⟨e1,e2,e3,e4⟩:=h
      subst e3 e4
      refine vT (n:=l.length) (cs:=l.flatMap f) (by rw[D0 h1,h2];cases p;cases e1;cases e2;rfl) (D0 h3) h4 ⟨g1,g2⟩ ?_
      have:=(df hf g3 0).resolve_right (by omega)
      rw[CP,IL]at this
      rw[this];exact k
    |_=>cases h
  |_=>cases h
def zl(tb:Tb)(L:PL)(s:TypeId)(x y:Operand):Option (List UInt8×Int):=Aa (Ps L x) λa=>match a with
  |.str u=>Aa (Ps L y) λb=>match b with
    |.int _ i=>RG (Xp (tb s)) (some (u,i))
    |_=>none
  |_=>none
theorem qX{u:List UInt8}{i:Int}{b:UInt8}(h:zl tb L s x y=some (u,i))(hi:A4 u i=some b)(k:K (Cd ((d,.int .u8 b.toNat)::L))):F7 P tb cns ⟨some d,.index s x y,t,none⟩ (Cd L) K:=by
  obtain⟨a,h1,h⟩:=AT h
  cases a with
  |str u'=>
    obtain⟨b',h3,h⟩:=AT h
    cases b' with
    |int kk j=>
      obtain⟨h4,h⟩:=Du h
      cases h
      exact rE (D0 h1) (D0 h3) (YT h4) hi k
    |_=>cases h
  |_=>cases h
def bdO(dflt:Int)(L:PL):Option Operand->Option Int
  |none=>some dflt
  |some x=>Aa (Ps L x) NY
theorem iU{dflt i:Int}{lo:Option Operand}(h:bdO dflt L lo=some i):Te dflt (lo.map (Ce (Cd L)))=some i:=by
  cases lo with
  |none=>exact h
  |some x=>
    obtain⟨c,h1,h⟩:=AT (show Aa (Ps L x) _=_ from h)
    simp only[Bp,Te,D0 h1];exact h
def mC:V->Bool
  |.arg .. =>true
  |_=>false
theorem li{a:V}(h:mC a=false)(n:Nat)(cs:List V):Uk a n cs=.dat n cs:=by cases a<;>first|rfl|cases h
theorem io{a:V}(h:mC a=true)(n:Nat)(cs:List V):Uk a n cs=.arg n cs:=by cases a<;>first|rfl|cases h
def uB(tb:Tb)(L:PL)(b:Bool)(s:TypeId)(x:Operand)(lo hi:Option Operand):Option (Nat×List V×Nat×Int×Int):=Aa (Ps L x) λa=>RG (mC a==b) <| Aa (I1 a) λp=>Aa (tb s) λdd=>match dd with
  |.sl _ es _ _=>Aa (bdO 0 L lo) λl=>Aa (bdO p.1 L hi) λh=>some (p.1,p.2,es,l,h)
  |_=>none
theorem xL{α:Type}{f:α->List V}{lst:List α}{n:Nat}{lo hi:Option Operand}{l h:Int}{b:Bool}(hh:uB tb L b s x lo hi=some (lst.length,lst.flatMap f,n,l,h))(hf:∀x,(f x).length=n)(hb:0<=l∧l<=h∧h<=lst.length)(k:∀a,mC a=b->K (Cd ((d,Uk a (Mj lst l h).length ((Mj lst l h).flatMap f))::L))):F7 P tb cns ⟨some d,.slice s x lo hi none,t,none⟩ (Cd L) K:=by
  obtain⟨a,h1,hh⟩:=AT hh
  obtain⟨hk,hh⟩:=Du hh
  obtain⟨p,h2,hh⟩:=AT hh
  obtain⟨dd,h3,hh⟩:=AT hh
  cases dd with
  |sl e es eb ez=>
    obtain⟨l',h5,hh⟩:=AT hh
    obtain⟨r',h6,hh⟩:=AT hh
    simp only[Ak,B0]at hh
    obtain⟨e1,e2,e3,e4,e5⟩:=hh
    subst e3 e4 e5
    rw[e1]at h6
    exact rF (lst:=lst) (f:=f) (by rw[D0 h1,h2];cases p;cases e1;cases e2;rfl) h3 hf (iU h5) (iU h6) hb (by rw[D0 h1];exact k a (eq_of_beq hk))
  |_=>cases hh
theorem qSl{α:Type}{f:α->List V}{lst:List α}{n:Nat}{lo hi:Option Operand}{l h:Int}(hh:uB tb L false s x lo hi=some (lst.length,lst.flatMap f,n,l,h))(hf:∀x,(f x).length=n)(hb:0<=l∧l<=h∧h<=lst.length)(k:K (Cd ((d,.dat (Mj lst l h).length ((Mj lst l h).flatMap f))::L))):F7 P tb cns ⟨some d,.slice s x lo hi none,t,none⟩ (Cd L) K:=
  xL hh hf hb λa ha=>by rw[li ha];exact k
theorem qSa{α:Type}{f:α->List V}{lst:List α}{n:Nat}{lo hi:Option Operand}{l h:Int}(hh:uB tb L true s x lo hi=some (lst.length,lst.flatMap f,n,l,h))(hf:∀x,(f x).length=n)(hb:0<=l∧l<=h∧h<=lst.length)(k:K (Cd ((d,.arg (Mj lst l h).length ((Mj lst l h).flatMap f))::L))):F7 P tb cns ⟨some d,.slice s x lo hi none,t,none⟩ (Cd L) K:=
  xL hh hf hb λa ha=>by rw[io ha];exact k
def yG(L:PL)(x y:Operand):Option (V×V):=Aa (Ps L x) λa=>Aa (Ps L y) λb=>some (a,b)
theorem qB{op:BinOp}{ta tc:TypeId}{c1 c2 v:V}(h:yG L x y=some (c1,c2))(hc:ZG (tb ta) op c1 c2)(hv:U6 (cY op c1 c2)=some v)(k:K (Cd ((d,v)::L))):F7 P tb cns ⟨some d,.binOp op ta x y tc,t,none⟩ (Cd L) K:=by
  obtain⟨a,h1,h⟩:=AT h
  obtain⟨b,h2,h⟩:=AT h
  cases h
  rw[Gy hv]at k
  exact ry (D0 h1) (D0 h2) hc k
theorem qCs{a b e:TypeId}{es eb:Nat}{ez:List V}{w:List UInt8}{z':Int}{l:List Int}(hx:Aa (Ps L x) I1=some (l.length,l.flatMap cu8))(h1:tb a=some (.sl e es eb ez))(h2:tb b=some (.sc (.str w)))(h3:tb e=some (.sc (.int .u8 z')))(k:K (Cd ((d,.str (bytesOf l))::L))):F7 P tb cns ⟨some d,.convert a b x,t,none⟩ (Cd L) K:=by
  obtain⟨c,g1,g2⟩:=AT hx
  exact rz (by rw[D0 g1];exact g2) h1 h2 h3 k
def vD(tb:Tb)(L:PL)(s:TypeId)(p q:Nat):Option (Nat×List V×Nat×Nat×List V×V×PL):=Aa (lk L p) λa=>match a with
  |.own e n cs=>Aa (Q9 L (.tmp p) (.own e n cs)) λL1=>Aa (lk L1 q) λc=>Aa (I1 c) λr=>Aa (Q9 L1 (.tmp q) c) λL2=>Aa (tb s) λdd=>match dd with
    |.sl e' es _ _=>RG (Nat.beq e e'&&c.isVal) (some (n,cs,es,r.1,r.2,c,L2))
    |_=>none
  |_=>none
theorem qA{α:Type}(f:α->List V)(l m:List α){es p q:Nat}{e:TypeId}{ds:List V}{c:V}{L2:PL}(h:vD tb L s p q=some (l.length,l.flatMap f,es,m.length,ds,c,L2))(he:lk L p=some (.own e l.length (l.flatMap f)))(hd:ds.length=m.length * es)(ha:UJ c=m.flatMap f)(hl:l.length+m.length<=lim)
    (k:K (Cd ((d,.own e (l++m).length ((l++m).flatMap f))::L2))):F7 P tb cns ⟨some d,.call {callee:=.builtin .append,args:= #[.tmp p,.tmp q],argTypes:= #[s,s]},t,none⟩ (Cd L) K:=by
  obtain⟨a,h1,h⟩:=AT h
  rw[he]at h1
  cases h1
  obtain⟨L1,h2,h⟩:=AT h
  obtain⟨c',h3,h⟩:=AT h
  obtain⟨r,h4,h⟩:=AT h
  obtain⟨L3,h5,h⟩:=AT h
  obtain⟨dd,h6,h⟩:=AT h
  cases dd with
  |sl e' es' eb ez=>
    dsimp only at h
    obtain⟨h7,h⟩:=Du h
    simp only[Ab]at h7
    have e1:=CE h7.1
    have h:=DZ h
    simp only[B0]at h
    obtain⟨_,_,e2,e3,e4,e5,e6⟩:=h
    subst e1 e2 e5 e6
    have t1:=Lz (x:=.tmp p) he h2
    have t2:=Lz (x:=.tmp q) h3 h5
    simp only[CG,CF he]at t1
    have t1':Cd L1=upd (Cd L) p (.dat l.length (l.flatMap f)):=t1
    refine rv (f:=f) (l:=l) (m:=m) (c2:=c') (ds:=ds) (CF he) (by rw[<-t1'];exact CF h3) (by rw[h4];cases r;cases e3;cases e4;rfl) hd h6 ha hl h7.2 ?_
    rw[D3,t2]at k
    simp only[CG,CF h3,t1']at k
    exact k
  |_=>cases h
theorem qAd{α:Type}(f g h':α->List V)(l m:List α){es p q:Nat}{e:TypeId}{ds:List V}{c:V}{L2:PL}(h:vD tb L s p q=some (l.length,l.flatMap f,es,m.length,ds,c,L2))(he:lk L p=some (.own e l.length (l.flatMap f)))(hd:ds.length=m.length * es)(ha:UJ c=m.flatMap h')(hl:l.length+m.length<=lim)(hf:∀x,(f x).map Ra=g x)(hh:∀x,(h' x).map Ra=g x)(hfc:∀x,(f x).all V.C5=true)(hhc:∀x,(h' x).all V.C5=true)
    (k:K (Cd ((d,.own e (l++m).length ((l++m).flatMap g))::L2))):F7 P tb cns ⟨some d,.call {callee:=.builtin .append,args:= #[.tmp p,.tmp q],argTypes:= #[s,s]},t,none⟩ (Cd L) K:=by
  obtain⟨a,h1,h⟩:=AT h
  rw[he]at h1
  cases h1
  obtain⟨L1,h2,h⟩:=AT h
  obtain⟨c',h3,h⟩:=AT h
  obtain⟨r,h4,h⟩:=AT h
  obtain⟨L3,h5,h⟩:=AT h
  obtain⟨dd,h6,h⟩:=AT h
  cases dd with
  |sl e' es' eb ez=>
    dsimp only at h
    obtain⟨h7,h⟩:=Du h
    simp only[Ab]at h7
    have e1:=CE h7.1
    have h:=DZ h
    simp only[B0]at h
    obtain⟨_,_,e2,e3,e4,e5,e6⟩:=h
    subst e1 e2 e5 e6
    have t1:=Lz (x:=.tmp p) he h2
    have t2:=Lz (x:=.tmp q) h3 h5
    simp only[CG,CF he]at t1
    have t1':Cd L1=upd (Cd L) p (.dat l.length (l.flatMap f)):=t1
    refine m9 (f:=f) (g:=g) (h:=h') (l:=l) (m:=m) (c2:=c') (ds:=ds) (CF he) (by rw[<-t1'];exact CF h3) (by rw[h4];cases r;cases e3;cases e4;rfl) hd h6 ha hl h7.2 hf hh hfc hhc ?_
    rw[D3,t2]at k
    simp only[CG,CF h3,t1']at k
    exact k
  |_=>cases h
def bsO(tb:Tb)(L:PL)(s:TypeId)(n:Nat)(ps:List (Nat×Operand)):Option (TypeId×Nat×PL×List V):=Aa (tb s) λdd=>match dd with
  |.sl e es _ ez=>RG (Nat.ble (n * es) 16777216) (Aa (bF (λi=>some (i * es,es)) ps L (Pu ez es n)) λq=>Aa (bK q.2) λcs=>some (e,es,q.1,cs))
  |_=>none
theorem GK{α:Type}(f:α->List V)(l:List α){e:TypeId}{es n:Nat}{ps:Array (Nat×Operand)}{L2:PL}{cs:List V}(h:bsO tb L s n ps.toList=some (e,es,L2,cs))(hn:l.length=n)(hc:cs=l.flatMap f)(hf:∀x,(f x).length=es)(k:K (Cd ((d,.own e l.length (l.flatMap f))::L2))):F7 P tb cns ⟨some d,.buildSlice s n ps,t,none⟩ (Cd L) K:=by
  obtain⟨dd,h1,h⟩:=AT h
  cases dd with
  |sl e' es' eb ez=>
    obtain⟨h2,h⟩:=Du h
    obtain⟨q,h3,h⟩:=AT h
    obtain⟨cs',h4,h⟩:=AT h
    cases h
    have e1:=Wu h4
    subst hc
    simp only[F7,ON,bg,h1,Xa (L':=q.1) (cs':=q.2) h3]
    rw[<-e1]
    refine⟨nb h2,?_,?_⟩
    · rw[Bv hf,hn]
    · rw[hn]at k;exact k
  |_=>cases h
def mkO(tb:Tb)(L:PL)(s:TypeId)(x y:Operand):Option (Int×Int×TypeId×Nat×List V):=Aa (Ps L x) λa=>Aa (Ps L y) λb=>match a,b with
  |.int _ n,.int _ m=>Aa (tb s) λdd=>match dd with
    |.sl e es _ ez=>some (n,m,e,es,ez)
    |_=>none
  |_,_=>none
theorem ky{n m:Int}{e:TypeId}{es:Nat}{ez:List V}(h:mkO tb L s x y=some (n,m,e,es,ez)):∃k0 k1 eb,Ce (Cd L) x=.int k0 n∧Ce (Cd L) y=.int k1 m∧tb s=some (.sl e es eb ez):=by
  obtain⟨a,h1,h⟩:=AT h
  obtain⟨b,h2,h⟩:=AT h
  cases a<;>first|(cases h;done)|skip
  cases b<;>first|(cases h;done)|skip
  obtain⟨dd,h3,h⟩:=AT h
  cases dd<;>first|(cases h;done)|skip
  cases h
  exact⟨_,_,_,D0 h1,D0 h2,h3⟩
theorem qM{α:Type}(f:α->List V)(z:α){e:TypeId}{es:Nat}{ez:List V}{n:Int}(hc:cns.contains d=false)(h:mkO tb L s x y=some (n,n,e,es,ez))(hz:f z=ez)(hez:ez.length=es)(hn:0<=n∧n.toNat<=lim)(k:K (Cd ((d,.own e (List.replicate n.toNat z).length ((List.replicate n.toNat z).flatMap f))::L))):F7 P tb cns ⟨some d,.makeSlice s x y,t,none⟩ (Cd L) K:=by
  obtain⟨k0,k1,eb,h1,h2,h3⟩:=ky h
  exact vU hc h1 h2 h3 hz hez hn k
theorem qMu{α:Type}(f:α->List V)(z:α){e:TypeId}{es:Nat}{ez:List V}{n:Int}(hc:cns.contains d=true)(h:mkO tb L s x y=some (n,n,e,es,ez))(hz:f z=ez)(hez:ez.length=es)(hn:0<=n∧n.toNat<=lim)(hb:nbL L d=true)(k:K (Cd ((d,.uni e (List.replicate n.toNat z).length ((List.replicate n.toNat z).flatMap f))::L))):F7 P tb cns ⟨some d,.makeSlice s x y,t,none⟩ (Cd L) K:=by
  obtain⟨k0,k1,eb,h1,h2,h3⟩:=ky h
  exact rD hc h1 h2 h3 hz hez hn (ak hb) k
def bV(D:List Nat)(L:PL):PL:=L.map λp=>(p.1,if D.contains p.1=true then .undef else match DG p.2 with
  |some b=>if D.contains b=true then .undef else p.2
  |none=>p.2)
theorem T6(D:List Nat):∀L:PL,Cd (bV D L)=kill D (Cd L)
  |[]=>by funext s;simp[bV,Cd,kill,DG]
  |(q,c)::L=>by
    have ih:=T6 D L
    funext s
    show Cd ((q,_)::bV D L) s=_
    rw[D3]
    by_cases e:s=q
    · subst e
      rw[upd_same]
      unfold kill
      rw[D3,upd_same]
      rfl
    · rw[upd_ne _ _ e,ih]
      unfold kill
      rw[D3,upd_ne _ _ e]
def frL:PL->Option PL
  |[]=>some []
  |(s,.undef)::L=>Aa (frL L) λL'=>some ((s,.undef)::L')
  |(s,c)::L=>Aa (U6 c) λc=>Aa (frL L) λL'=>some ((s,c)::L')
theorem Z0:∀{L L':PL},frL L=some L'->L'=L
  |[],_,h=>by cases h;rfl
  |(s,c)::L,L',h=>by
    unfold frL at h
    split at h
    · rename_i he;cases he
    · rename_i he;cases he
      obtain⟨L1,h1,h⟩:=AT h
      cases h;rw[Z0 h1]
    · rename_i he;cases he
      obtain⟨c1,h0,h⟩:=AT h
      obtain⟨L1,h1,h⟩:=AT h
      cases h;rw[Z0 h1,Gy h0]
theorem qTu{e:TypeId}{n:Nat}{cs:List V}{L1:PL}(hc:cns.contains d=true)(h:lk L s=some (.uni e n cs))(hk:frL (bV [s] L)=some L1)(k:K (Cd ((d,.own e n cs)::(s,.dat n cs)::L1))):F7 P tb cns ⟨some d,.move (.tmp s),t,none⟩ (Cd L) K:=by
  rw[Z0 hk]at k
  refine nc hc (CF h) ?_
  rw[<-T6];exact k
theorem qAu{e:TypeId}{n:Nat}{cs:List V}{L1:PL}(hc:cns.contains d=true)(h:lk L s=some (.uni e n cs))(hk:frL (bV [s] L)=some L1)(hn:nbL L1 d=true)(k:K (Cd ((d,.uni e n cs)::L1))):F7 P tb cns ⟨some d,.assign (.tmp s),t,none⟩ (Cd L) K:=by
  have e1:=Z0 hk
  subst e1
  refine rx hc (CF h) (by rw[<-T6];exact ak hn) ?_
  rw[<-T6];exact k
def iuO(tb:Tb)(L:PL)(s:TypeId)(x y:Operand):Option (Nat×Nat×Int×Nat):=Aa (Ps L x) λa=>match a with
  |.same b=>Aa (lk L b) λu=>match u with
    |.uni _ n _=>Aa (Ps L y) λc=>match c with
      |.int _ i=>Aa (tb s) λdd=>match dd with
        |.sl _ es _ _=>some (b,n,i,es)
        |_=>none
      |_=>none
    |_=>none
  |_=>none
theorem qIu{b n es:Nat}{i:Int}(h:iuO tb L s x y=some (b,n,i,es))(hi:0<=i∧i < n)(k:K (Cd ((d,.cref b (i.toNat * es))::L))):F7 P tb cns ⟨some d,.indexAddr s x y,t,none⟩ (Cd L) K:=by
  obtain⟨a,h1,h⟩:=AT h
  cases a<;>first|(cases h;done)|skip
  obtain⟨u,h2,h⟩:=AT h
  cases u<;>first|(cases h;done)|skip
  obtain⟨c,h3,h⟩:=AT h
  cases c<;>first|(cases h;done)|skip
  obtain⟨dd,h4,h⟩:=AT h
  cases dd<;>first|(cases h;done)|skip
  cases h
  exact rA (D0 h1) (CF h2) (D0 h3) h4 hi k
theorem qLu{α:Type}{f:α->List V}{n b m:Nat}(off:Nat){l:List α}{i:Int}{e:α}{et:TypeId}{dd:TyD}{v:V}(hc:cns.contains d=false)(hx:adO L x=some (.cref b (i.toNat * n+off)))(hb:lk L b=some (.uni et m (l.flatMap f)))(hf:∀x,(f x).length=n)(hi:A4 l i=some e)(ht:tb s=some dd)(ho:Nat.ble (off+dd.size) n=true)(hg:U6 (getCells dd (f e) off)=some v)(k:K (Cd ((d,v)::L))):F7 P tb cns ⟨some d,.load s x,t,none⟩ (Cd L) K:=by
  rw[Gy hg]at k
  exact rC hc (PP hx) (CF hb) hf hi ht (nb ho) rfl k
theorem qSu{ty:TypeId}{α:Type}{f:α->List V}{n b:Nat}{l:List α}{i:Int}(e:α){et:TypeId}{dd:TyD}{c1:V}{L1:PL}(hx:adO L x=some (.cref b (i.toNat * n)))(hb:lk L b=some (.uni et l.length (l.flatMap f)))(hf:∀x,(f x).length=n)(hi:0<=i∧i < l.length)(hy:Ps L y=some c1)(ht:tb t=some dd)(ha:c1.isArg=true)(hn:n=dd.size)(hc:Gx c1=f e)(hL:Q9 L y c1=some L1)
    (k:K (Cd ((b,.uni et (Dj l i e).length ((Dj l i e).flatMap f))::L1))):F7 P tb cns ⟨none,.store t x y,ty,none⟩ (Cd L) K:=by
  refine rG (PP hx) (CF hb) hf hi (D0 hy) ht ha hn hc ?_
  rw[<-Lz hy hL];exact k
end
section
variable {P:Program}{nt:Nat}{bx:List Nat}{Q:Exit->PS->Prop}{L:PL}
theorem B7{α:Type}{s:Nat}{x y:LC}{b:Bool}{u v:Option α}{r:α}(h:cond b u v=some r)(hb:lk L s=some (.bool b))(k1:u=some r->LS P nt bx x (Cd L) Q)(k2:v=some r->LS P nt bx y (Cd L) Q):LS P nt bx (.cond (.tmp s) x y) (Cd L) Q:=EY h (λe h=>pO (CF hb) e (k1 h)) (λe h=>pN (CF hb) e (k2 h))
theorem qT{s:Nat}{x y:LC}{b:Bool}(hb:lk L s=some (.bool b))(e:b=true)(h:LS P nt bx x (Cd L) Q):LS P nt bx (.cond (.tmp s) x y) (Cd L) Q:=pO (CF hb) e h
theorem qF{s:Nat}{x y:LC}{b:Bool}(hb:lk L s=some (.bool b))(e:b=false)(h:LS P nt bx y (Cd L) Q):LS P nt bx (.cond (.tmp s) x y) (Cd L) Q:=pN (CF hb) e h
end
section
variable {P:Program}{tb:Tb}{cns:List Nat}{L:PL}{K:PS->Prop}{d s t:Nat}{x:Operand}
end
def cF(tb:Tb)(cns:List Nat):List LO->PL->Option PL
  |[],L=>some L
  |o::os,L=>Aa (Lg tb cns o L) λL'=>cF tb cns os L'
def lE(tb:Tb):Nat->LC->PL->Option (LC×PL)
  |0,l,L=>some (l,L)
  |n+1,.seq (.rgn cns ops) y,L=>Aa (cF tb cns ops L) λL'=>lE tb n y L'
  |_+1,_,_=>none
section
variable {P:Program}{nt:Nat}{bx:List Nat}{Q:Exit->PS->Prop}{tb:Tb}
theorem cG{cns:List Nat}{K:PS->Prop}:∀{ops:List LO}{L L':PL},cF tb cns ops L=some L'->K (Cd L')->U1 P tb cns ops (Cd L) K
  |[],_,_,h,k=>by cases h;exact k
  |o::ops,L,_,h,k=>by
    rw[cF]at h
    obtain⟨L1,h1,h⟩:=AT h
    exact Yc (K:=λσ'=>U1 P tb cns ops σ' K) h1 (cG h k)
theorem fO(htb:GA P tb):∀{n:Nat}{l l':LC}{L L':PL},lE tb n l L=some (l',L')->LS P nt bx l' (Cd L') Q->LS P nt bx l (Cd L) Q
  |0,_,_,_,_,h,k=>by cases h;exact k
  |n+1,l,l',L,L',h,k=>by
    cases l with
    |seq a y=>
      cases a with
      |rgn cns ops=>
        obtain⟨L1,h1,h⟩:=AT (show Aa (cF tb cns ops L) (λL'=>lE tb n y L')=_ from h)
        exact ku htb (cG h1 (fO htb h k))
      |_=>exact absurd (show none=some _ from h) (by simp)
    |_=>exact absurd (show none=some _ from h) (by simp)
abbrev Jn(K:PS->Prop)(L:PL):Prop:=∀σ:PS,Y1 σ L->K σ
theorem lh{l:LC}{σ:PS}{L:PL}(hk:Y1 σ L)(h2:okR L=true)(h:LS P nt bx l (Cd L) Q):LS P nt bx l σ Q:=MG L hk h2 h
end
def y9(cns:List Nat)(o:LO):Bool:=match o.op,o.dst with
  |.move _,some d=> !cns.contains d
  |_,_=>false
def fpO(base:List (Nat×Nat))(cns:List Nat)(o:LO):List Nat×List Nat:=match spc cns o with
  |true=>([],o.dst.toList)
  |false=>
  let R:=Qp o.op++match o.op with
    |.alloc _=>o.dst.toList
    |.call _=>o.dst.toList.filter cns.contains
    |_=>[]
  let R:=R++match y9 cns o with
    |true=>[]
    |false=>base.filterMap λp=>if R.contains p.1 then some p.2 else none
  (R++gT o,o.dst.toList++if simple cns o=true then base.filterMap (λp=>if(adC o.op).contains p.1 then some p.2 else none)else R)
def cnO:List (Nat×List Nat)->Nat->List Nat
  |[],_=>[]
  |(i,c)::r,id=>match Nat.beq id i with
    |true=>c
    |false=>cnO r id
def Qn(base:List (Nat×Nat))(cn:List (Nat×List Nat)):Code->LC
  |.skip=>.skip
  |.region id ops d=>match d with
    |true=>.drw (cnO cn id) ((ops.toList.map (Cx ops)).map (fpO base (cnO cn id))) (ops.toList.map SL) (ops.toList.map (Cx ops))
    |false=>.rgn (cnO cn id) (ops.toList.map (Cx ops))
  |.seq a b=>.seq (Qn base cn a) (Qn base cn b)
  |.cond c a b=>.cond c (Qn base cn a) (Qn base cn b)
  |.block id a=>.blk id (Qn base cn a)
  |.loop a=>.loop [] (Qn base cn a)
  |.exit id=>.exit id
  |.ret=>.ret
  |_=>.bad
theorem QJ(base:List (Nat×Nat))(cn:List (Nat×List Nat)):∀c:Code,E2 c=PU (Qn base cn c)
  |.skip=>rfl
  |.region id ops d=>by cases d<;>simp[E2,Qn,PU]
  |.seq a b=>by rw[E2,Qn,PU,QJ base cn a,QJ base cn b]
  |.cond c a b=>by rw[E2,Qn,PU,QJ base cn a,QJ base cn b]
  |.block id a=>by rw[E2,Qn,PU,QJ base cn a]
  |.loop a=>by rw[E2,Qn,PU,QJ base cn a]
  |.exit id=>rfl
  |.ret=>rfl
  |.rangeFunc .. =>rfl
  |.scope .. =>rfl
  |.label .. =>rfl
  |.goto .. =>rfl
  |.refuse .. =>rfl
def cdF(f:Func):Code:=match f.body with
  |some c=>c
  |none=>.skip
def vM(bx:List Nat)(base:List (Nat×Nat))(cn:List (Nat×List Nat))(fn:Func):Bool:=
  fn.body.isSome&&((fn.name== "runtime.NumGoroutine")==false&&(okC fn.ntmps bx (cdF fn)&&(decide (fn.results.toList.map L4).Nodup&&okL bx (Qn base cn (cdF fn)))))
theorem BG{P:Program}{f:Nat}{fn:Func}{bx:List Nat}{base:List (Nat×Nat)}{cn:List (Nat×List Nat)}(h1:P.funcs[f]? =some fn)(h2:vM bx base cn fn=true):Lit P f fn.ntmps bx fn.results.toList (Qn base cn (cdF fn)):=by
  simp only[vM,Ab]at h2
  obtain⟨h2,h3,h4,h5,h6⟩:=h2
  obtain⟨c,hc⟩:=Hp.1 h2
  refine⟨⟨fn,c,h1,hc,eq_of_beq h3,rfl,rfl,?_,?_⟩,Lk h5,h6⟩
  · rw[<-QJ];unfold cdF;rw[hc]
  · unfold cdF at h4;rw[hc]at h4;exact h4
end Go.Proofs.YtckmdkajoiegmaaGreatDoor
namespace Go.Proofs.YtckmdkajoiegmaaGreatDoor
theorem CB{S O:Type}{body:(S->Option O)->S->Option O}{out:O}(f:Nat->S):∀(n:Nat),(∀k,k < n->∀rec,body rec (f k)=rec (f (k+1)))->(∀rec,body rec (f n)=some out)->∀m,n < m->Aq body m (f 0)=some out:=by
  have key:∀(d n:Nat),(∀k,k < n->∀rec,body rec (f k)=rec (f (k+1)))->(∀rec,body rec (f n)=some out)->∀k,k+d=n->∀m,d < m->Aq body m (f k)=some out:=by
    intro d n h1 h2
    induction d with
    |zero=>
      intro k hk m hm
      cases m with
      |zero=>omega
      |succ m=>rw[show k=n by omega];exact h2 _
    |succ d ih=>
      intro k hk m hm
      cases m with
      |zero=>omega
      |succ m=>
        show body (Aq body m) (f k)=some out
        rw[h1 k (by omega)]
        exact ih (k+1) (by omega) m (by omega)
  intro n h1 h2 m hm
  exact key n n h1 h2 0 (by omega) m hm
theorem wrap_in{n:Int}(h: -9223372036854775808<=n∧n<=9223372036854775807):IntKind.i64.wrap n=n:=by
  unfold IntKind.wrap
  simp[IntKind.signed,IntKind.bits]<;>omega
theorem BQ{k n:Nat}(h:k < n)(hn:n<=maxLen):IntKind.i64.wrap ((k:Int)+1)=((k+1:Nat):Int):=by
  rw[wrap_in (by unfold maxLen at hn;omega)];simp
theorem RE{α:Type}(l:List α)(k:Nat):A4 l (k:Int)=l[k]?:=by simp[A4]
theorem BL{α:Type}{l:List α}{k:Nat}(h:k < l.length):A4 l (k:Int)=some l[k]:=by rw[RE,Ae h]
theorem CR{n:Nat}(h:n<=lim):n < fz:=by unfold lim at h;unfold fz;omega
theorem fW{α β:Type}{a:List α}{g:α->Option β}{h:α->β}{B:(List β×Int->Option (List β))->List β×Int->Option (List β)}{z:β}
    (hB:∀rec y i,B rec (y,i)=cond (decide (i < (List.length a:Int))) (Aa (A4 a i) λe=>Aa (g e) λv=>Aa (A4 y i) λ_=>rec (Dj y i v,IntKind.i64.wrap (i+1))) (some y))
    (hg:∀e∈a,g e=some (h e)) (hl:a.length<=lim):Aq B fz (List.replicate (Int.toNat (List.length a:Int)) z,0)=some (a.map h):=by
  have:=CB (body:=B) (out:=a.map h) (λk=>((a.take k).map h++List.replicate (a.length - k) z,(k:Int))) a.length (λk hk rec=>?_) (λrec=>?_) fz (CR hl)
  · simpa using this
  · rw[hB]
    have h1:(decide ((k:Int) < (List.length a:Int)))=true:=by simp;omega
    have hlen:((a.take k).map h++List.replicate (a.length - k) z).length=a.length:=by simp;omega
    rw[h1,Ac,BL hk]
    simp only[Aa]
    rw[hg _ (Ao hk)]
    simp only
    rw[BL (by rw[hlen];exact hk)]
    simp only
    congr 1
    rw[BQ hk (Bo hl)]
    congr 1
    unfold Dj
    rw[Bg]
    have h2:((a.take k).map h).length=k:=by simp;omega
    rw[Gq _ _ (by omega),h2,Ge,Au hk,BY]
    have h3:a.length - k=(a.length - (k+1))+1:=by omega
    rw[h3,List.replicate_succ]
    simp
  · rw[hB]
    simp
theorem ZV{α:Type}{a:List α}{g:α->α->Option Bool}{B:(Int->Option (Sum Unit Bool))->Int->Option (Sum Unit Bool)}
    (hB:∀rec i,B rec i=cond (decide (i < (List.length a:Int))) (Aa (A4 a i) λx=>Aa (A4 a i) λy=>Aa (g x y) λv=>cond (!v) (some (.inr false)) (rec (IntKind.i64.wrap (i+1)))) (some (.inl ())))
    (hg:∀e∈a,g e e=some true) (hl:a.length<=lim):Aq B fz 0=some (.inl ()):=by
  refine CB (body:=B) (λk=>(k:Int)) a.length (λk hk rec=>?_) (λrec=>?_) fz (CR hl)
  · rw[hB]
    have h1:(decide ((k:Int) < (List.length a:Int)))=true:=by simp;omega
    rw[h1,Ac,BL hk]
    simp only[Aa,hg _ (Ao hk),Aj,Ad]
    rw[BQ hk (Bo hl)]
  · rw[hB];simp
theorem AZ{α:Type}{p:Prop}[Decidable p]{x:Option α}(h:p):chk p x=x:=by unfold chk;rw[AJ h]
theorem fm{n:Nat}(h:n<=lim):(0:Int)<=(n:Int)∧Int.toNat (n:Int)<=lim:=by rw[Bg];exact⟨by omega,h⟩
theorem MR{n:Nat}(h:n<=1048576):n<=lim:=by unfold lim;omega
def SzR(left:Int)(s:Option Int)(sm:Prop)(t:Nat):Prop:=∃v,s=some v∧(v < 0∨(v+(t:Int)<=left∧0<=v∧sm))
def tzL{α:Type}(f:α->Nat):List α->Nat
  |[]=>0
  |x::l=>f x+tzL f l
theorem gf{α:Type}{f:α->Nat}:∀(a b:List α),tzL f (a++b)=tzL f a+tzL f b
  |[],b=>by simp[tzL]
  |x::a,b=>by rw[BN,tzL,tzL,gf a b];omega
theorem uG{n:Nat}{left:Int}(h:0<=left∧left<=1048576)(hn:n<=maxLen):∃v,IntKind.i64.wrap (left - (n:Int))=v∧(v < 0∨(v+(n:Int)<=left∧0<=v∧n<=1048576)):=by
  rw[wrap_in (by unfold maxLen at hn;omega)]
  refine⟨_,rfl,?_⟩
  by_cases hl:left - (n:Int) < 0
  · exact .inl hl
  · exact .inr ⟨by omega,by omega,by omega⟩
theorem uF{n:Nat}{left:Int}(h:0<=left∧left<=1048576)(hn:n<=maxLen):SzR left (cond (decide ((IntKind.i64.wrap (left - (n:Int))) < 0)) (some (-1)) (some (IntKind.i64.wrap (left - (n:Int))))) (n<=1048576) n:=by
  obtain⟨v,e,p⟩:=uG h hn
  rw[e]
  rcases p with p|p
  · rw[Ai p];exact⟨-1,rfl,.inl (by omega)⟩
  · rw[Ah (by omega:¬v < 0)];exact⟨v,rfl,.inr p⟩
theorem oT{α:Type}{a:List α}{g:α->Int->Option Int}{sm:α->Prop}{tz:α->Nat}{B:(Int×Int->Option (Sum Int Int))->Int×Int->Option (Sum Int Int)}
    (hB:∀rec l i,B rec (l,i)=cond (decide (i < (List.length a:Int))) (Aa (A4 a i) λe=>Aa (g e l) λv=>cond (decide (v < 0)) (some (.inr (-1))) (rec (v,IntKind.i64.wrap (i+1)))) (some (.inl l)))
    (hg:∀e∈a,∀left,0<=left∧left<=1048576->SzR left (g e left) (sm e) (tz e)) {left:Int}(h:0<=left∧left<=1048576) (hn:a.length<=maxLen):
    SzR left (cond (decide ((IntKind.i64.wrap (left - (List.length a:Int))) < 0)) (some (-1)) (Aa (Aq B fz (IntKind.i64.wrap (left - (List.length a:Int)),0)) λo=>(match o with
      |.inl z=>some z
      |.inr r=>some r))) (a.length<=1048576∧∀e∈a,sm e) (a.length+tzL tz a):=by
  obtain⟨v,e,p⟩:=uG h hn
  rw[e]
  rcases p with p|⟨p1,p2,p3⟩
  · rw[Ai p];exact⟨-1,rfl,.inl (by omega)⟩
  rw[Ah (by omega:¬v < 0),Ad]
  have key:∀d k l,k+d=a.length->0<=l∧l+(tzL tz (a.take k):Int)<=v->(∀e∈a.take k,sm e)->∀m,d < m->∃o,Aq B m (l,(k:Int))=some o∧(o=.inr (-1)∨∃z,o=.inl z∧0<=z∧z+(tzL tz a:Int)<=v∧∀e∈a,sm e):=by
    intro d
    induction d with
    |zero=>
      intro k l hk hl hs m hm
      cases m with
      |zero=>omega
      |succ m=>
        rw[CH (by omega)]at hl
        refine⟨.inl l,?_,.inr ⟨l,rfl,hl.1,hl.2,?_⟩⟩
        · show B (Aq B m) (l,(k:Int))=_
          rw[hB]
          rw[Ah (by omega:¬(k:Int) < (List.length a:Int))]
          rfl
        · rw[CH (by omega)]at hs;exact hs
    |succ d ih=>
      intro k l hk hl hs m hm
      cases m with
      |zero=>omega
      |succ m=>
        have hlt:k < a.length:=by omega
        obtain⟨u,e1,q⟩:=hg a[k] (Ao hlt) l (by omega)
        have hstep:Aq B (m+1) (l,(k:Int))=cond (decide (u < 0)) (some (.inr (-1))) (Aq B m (u,((k+1:Nat):Int))):=by
          show B (Aq B m) (l,(k:Int))=_
          rw[hB,Ai (by omega:(k:Int) < (List.length a:Int)),Ac,BL hlt]
          simp only[Aa,e1,BQ hlt hn]
        rcases q with q|⟨q1,q2,q3⟩
        · exact⟨.inr (-1),by rw[hstep,Ai q];rfl,.inl rfl⟩
        · rw[hstep,Ah (by omega:¬u < 0),Ad]
          have ht:tzL tz (a.take (k+1))=tzL tz (a.take k)+tz a[k]:=by rw[Au hlt,gf];simp[tzL]
          exact ih (k+1) u (by omega) (by rw[ht];omega) (λe he=>by
            rw[Au hlt]at he
            rcases An.1 he with he|he
            · exact hs e he
            · rw[AV.1 he];exact q3) m (by omega)
  obtain⟨o,e2,q⟩:=key a.length 0 v (by omega) (by simp[tzL];omega) (by simp) fz (CR (MR p3))
  have e3:Aq B fz (v,0)=some o:=by simpa using e2
  rw[e3]
  rcases q with rfl|⟨z,rfl,q1,q2,q3⟩
  · exact⟨-1,rfl,.inl (by omega)⟩
  · exact⟨z,rfl,.inr ⟨by omega,q1,p3,q3⟩⟩
end Go.Proofs.YtckmdkajoiegmaaGreatDoor
namespace Go.Proofs.YtckmdkajoiegmaaGreatDoor
def og(u:Value):V->V
  |.own _ n cs=>.pin u n (OK cs)
  |c=>c
def RN:V->Bool
  |.own _ _ _=>true
  |_=>false
def gI:V->Bool
  |.int _ _=>true
  |.bool _=>true
  |.str _=>true
  |_=>false
def RV:List V->Bool
  |[]=>false
  |c::cs=>(RN c&&cs.all gI) || (gI c&&RV cs)
def GN:List V->V
  |[]=>.undef
  |c::cs=>match c with
    |.own e n ds=>.own e n ds
    |_=>GN cs
section
variable {P:Program}{w:World}{St:Nat->Nat->Prop}
theorem qb{c:V}{v:Value}{b:List Nat}(hs:gI c=true)(h:Ow P w St c v b):b=[]:=by
  cases c<;>first|exact h.1|cases hs
theorem lT{c:V}(u:Value)(hs:gI c=true):og u c=c:=by cases c<;>first|rfl|cases hs
theorem lU:∀{cs:List V}{us:List Value}{b:List Nat},cs.all gI=true->AY P w St cs us b->b=[]
  |[],_,_,_,h=>h.2
  |c::cs,_,_,hs,⟨u,us',b1,b2,e1,e2,hc,h1,h2⟩=>by
    simp only[A7,Ab]at hs
    rw[e2,qb hs.1 h1,lU hs.2 h2];rfl
theorem fR:∀{cs:List V}(u:Value),cs.all gI=true->cs.map (og u)=cs
  |[],_,_=>rfl
  |c::cs,u,hs=>by
    simp only[A7,Ab]at hs
    rw[AK,lT u hs.1,fR u hs.2]
theorem od{e:TypeId}{n:Nat}{cs:List V}{u:Value}{b:List Nat}(h:Ow P w St (.own e n cs) u b):Ow P w St (.pin u n (OK cs)) u []:=by
  have:=Rd.erase _ (Ow.rd (.own e n cs) h rfl)
  exact⟨rfl,rfl,this⟩
theorem f4:∀{ds:List V},RV ds=true->∃e n cs,GN ds=.own e n cs
  |[],h=>by cases h
  |c::cs,h=>by
    simp only[RV,Ci,Ab]at h
    rcases h with⟨h1,h2⟩|⟨h1,h2⟩
    · cases c<;>first|exact⟨_,_,_,rfl⟩|cases h1
    · obtain⟨e,n,cs',e1⟩:=f4 h2
      cases c<;>first|(cases h1;done)|exact⟨e,n,cs',e1⟩
theorem Y5:∀{ds:List V}{xs:List Value}{b:List Nat},RV ds=true->AY P w St ds xs b->∃u,Ow P w St (GN ds) u b∧AY P w St (ds.map (og u)) xs []
  |[],_,_,h,_=>by cases h
  |c::cs,_,_,h,⟨u,us',b1,b2,e1,e2,hc,h1,h2⟩=>by
    simp only[RV,Ci,Ab]at h
    rcases h with⟨g1,g2⟩|⟨g1,g2⟩
    · have hb:=lU g2 h2
      subst hb
      rw[Bm]at e2
      subst e2
      cases c<;>first|(cases g1;done)|skip
      refine⟨u,h1,?_⟩
      rw[AK,fR u g2]
      exact⟨u,us',[],[],e1,rfl,rfl,od h1,h2⟩
    · have hb:=qb g1 h1
      subst hb
      rw[Bh]at e2
      subst e2
      obtain⟨u',h3,h4⟩:=Y5 g2 h2
      refine⟨u',?_,?_⟩
      · cases c<;>first|(cases g1;done)|exact h3
      · rw[AK,lT u' g1]
        exact⟨u,us',[],[],e1,rfl,hc,h1,h4⟩
end
def Ik{α:Type}(k:Nat):List α->List (Nat×α)
  |[]=>[]
  |x::l=>(k,x)::Ik (k+1) l
def pE{α:Type}(f:α->List V)(U:Nat->Value)(p:Nat×α):List V:=(f p.2).map (og (U p.1))
section
variable {P:Program}{w:World}{St:Nat->Nat->Prop}{α:Type}{f:α->List V}
theorem ct(h1:∀x,RV (f x)=true):∀(l:List α) (k:Nat) {xs:List Value}{bs:List Nat},AY P w St (l.flatMap f) xs bs->
    ∃us:List Value,us.length=l.length∧AY P w St (l.map λx=>GN (f x)) us bs∧∀U:Nat->Value,(∀i,i < l.length->U (k+i)=us.getD i undef)->AY P w St ((Ik k l).flatMap (pE f U)) xs []
  |[],k,_,_,h=>⟨[],rfl,⟨rfl,h.2⟩,λU _=>⟨h.1,rfl⟩⟩
  |x::l,k,xs,bs,h=>by
    rw[Ay]at h
    obtain⟨xs1,xs2,b1,b2,rfl,rfl,r1,r2⟩:=h.app
    obtain⟨u,h3,h4⟩:=Y5 (h1 x) r1
    obtain⟨us,hl,h5,h6⟩:=ct h1 l (k+1) r2
    obtain⟨e,n,cs,et⟩:=f4 (h1 x)
    refine⟨u::us,by simp[hl],⟨u,us,b1,b2,rfl,rfl,by show(GN (f x)).C5=true;rw[et];rfl,h3,h5⟩,λU hU=>?_⟩
    have hu:U k=u:=by have:=hU 0 (by simp);simpa using this
    rw[Ik,Ay]
    have:=AY.join (b1:=[]) (b2:=[]) (show AY P w St (pE f U (k,x)) xs1 []by unfold pE;rw[hu];exact h4) (h6 U (λi hi=>by
      have:=hU (i+1) (by simp;omega)
      have e:k+1+i=k+(i+1):=by omega
      rw[e,this];simp))
    exact this
theorem Qt:∀{cs:List V}{us:List Value}{bs:List Nat},AY P w St cs us bs->bs.Nodup->∃β:Nat->List Nat,(∀i c u,cs[i]? =some c->us[i]? =some u->Ow P w St c u (β i))∧(∀i,∀g∈β i,g∈bs)∧(∀i,(β i).Nodup)∧∀i j,i≠j->∀g∈β i,g∉β j
  |[],_,_,h,_=>⟨λ_=>[],by simp,by simp,λ_=>Ax,by simp⟩
  |c::cs,_,_,⟨u,us',b1,b2,e1,e2,hc,h1,h2⟩,hn=>by
    subst e1 e2
    obtain⟨n1,n2,n3⟩:=As.1 hn
    obtain⟨β,k1,k2,k3,k4⟩:=Qt h2 n2
    refine⟨λi=>match i with|0=>b1|i+1=>β i,?_,?_,?_,?_⟩
    · intro i c' u' hc' hu'
      cases i with
      |zero=>simp only[BV,Ak]at hc' hu';subst hc' hu';exact h1
      |succ i=>exact k1 i c' u' (by simpa using hc') (by simpa using hu')
    · intro i g hg
      cases i with
      |zero=>exact AA _ hg
      |succ i=>exact Aw _ (k2 i g hg)
    · intro i
      cases i with
      |zero=>exact n1
      |succ i=>exact k3 i
    · intro i j hij g hg hg'
      cases i with
      |zero=>
        cases j with
        |zero=>exact hij rfl
        |succ j=>exact n3 g hg g (k2 j g hg') rfl
      |succ i=>
        cases j with
        |zero=>exact n3 g hg' g (k2 i g hg) rfl
        |succ j=>exact k4 i j (by omega) g hg hg'
end
theorem zpE{α:Type}{f:α->List V}{n:Nat}(h:∀x,(f x).length=n){U:Nat->Value}(p:Nat×α):(pE f U p).length=n:=by unfold pE;rw[Ar,h]
section
variable {P:Program}{α:Type}{f:α->List V}
theorem UW:∀(k:Nat) (l:List α),(Ik k l).length=l.length
  |_,[]=>rfl
  |k,x::l=>by rw[Ik,AL,AL,UW (k+1) l]
def iG(P:Program)(f:α->List V)(c:V)(l:List α)(k:Nat)(c':(Nat->Value)->V):Prop:=
  ∀w St t v bs,Cb P w St t c v bs->bs.Nodup->∃us b1 b2,us.length=l.length∧AY P w St (l.map λx=>GN (f x)) us b2∧(b1++b2).Nodup∧(∀g∈b1++b2,g∈bs)∧∀U:Nat->Value,(∀i,i < l.length->U (k+i)=us.getD i undef)->Cb P w St t (c' U) v b1
theorem ay(h1:∀x,RV (f x)=true){e:TypeId}{l:List α}{k:Nat}{w:World}{St:Nat->Nat->Prop}{v:Value}{bs:List Nat}(h:Ow P w St (.own e l.length (l.flatMap f)) v bs)(hn:bs.Nodup):
    ∃us b1 b2,us.length=l.length∧AY P w St (l.map λx=>GN (f x)) us b2∧bs=b1++b2∧∀U:Nat->Value,(∀i,i < l.length->U (k+i)=us.getD i undef)->Ow P w St (.own e (Ik k l).length ((Ik k l).flatMap (pE f U))) v b1:=by
  obtain⟨hl,xs,bs',hx,hr,hb,hst,h0⟩:=h
  obtain⟨us,hul,ht,hp⟩:=ct h1 l k hr
  refine⟨us,v.ownBlock.toList,bs',hul,ht,hb,λU hU=>?_⟩
  rw[UW]
  refine⟨hl,xs,[],hx,hp U hU,by simp,hst,λhz=>?_⟩
  have:l=[]:=Bt hz
  subst this;rfl
theorem VA(h1:∀x,RV (f x)=true){e:TypeId}{l:List α}{k:Nat}:iG P f (.own e l.length (l.flatMap f)) l k (λU=>.own e (Ik k l).length ((Ik k l).flatMap (pE f U))):=by
  intro w St t v bs h hn
  obtain⟨us,b1,b2,q1,q2,q3,q4⟩:=ay (k:=k) h1 (show Ow P w St _ v bs from h) hn
  exact⟨us,b1,b2,q1,q2,by rw[<-q3];exact hn,λg hg=>by rw[q3];exact hg,λU hU=>q4 U hU⟩
end
section
variable {P:Program}{nt:Nat}{base:Bs}{bx:List Nat}{St St0:Nat->Nat->Prop}{B:Nat->List Nat}{hand:List Nat}{σ:PS}{a:Act}{w w0:World}
theorem Oz(h:HSim P nt bx base St B [] σ a w){s q:Nat}(hsq:s≠q)(hq:CN (σ q)=none){c cq:V}{b1 b2:List Nat}(hc:Cb P w St (tm a) c (tm a s) b1)(hcq:Cb P w St (tm a) cq (tm a q) b2)(hn:(b1++b2).Nodup)(hsub:∀g∈b1++b2,g∈B s∨g∈B q)
    (hb:(CN c).isSome=(CN (σ s)).isSome) (hrf:DG c=none) (hbq:CN cq=none) (hrq:DG cq=none):HSim P nt bx base St (upd (upd B s b1) q b2) [] (upd (upd σ s c) q cq) a w:=by
  have hsome:∀cs,CN c=some cs->∃ds,CN (σ s)=some ds:=λcs e=>by
    rw[e]at hb
    cases hx:CN (σ s)with
    |none=>rw[hx]at hb;cases hb
    |some ds=>exact⟨ds,rfl⟩
  have hsome':∀cs,CN (σ s)=some cs->∃ds,CN c=some ds:=λcs e=>by
    rw[e]at hb
    cases hx:CN c with
    |none=>rw[hx]at hb;cases hb
    |some ds=>exact⟨ds,rfl⟩
  obtain⟨n1,n2,n3⟩:=As.1 hn
  have hB:∀r,r≠s->r≠q->upd (upd B s b1) q b2 r=B r:=λr h1 h2=>by rw[upd_ne _ _ h2,upd_ne _ _ h1]
  have hBs:upd (upd B s b1) q b2 s=b1:=by rw[upd_ne _ _ hsq,upd_same]
  have hBq:upd (upd B s b1) q b2 q=b2:=upd_same _ _ _
  have hS:∀r,r≠s->r≠q->upd (upd σ s c) q cq r=σ r:=λr h1 h2=>by rw[upd_ne _ _ h2,upd_ne _ _ h1]
  have hSs:upd (upd σ s c) q cq s=c:=by rw[upd_ne _ _ hsq,upd_same]
  have hSq:upd (upd σ s c) q cq q=cq:=upd_same _ _ _
  have hin:∀r,(∀g∈upd (upd B s b1) q b2 r,g∈B r∨((r=s∨r=q)∧(g∈B s∨g∈B q))):=λr g hg=>by
    by_cases e1:r=s
    · subst e1;rw[hBs]at hg;exact .inr ⟨.inl rfl,hsub g (AA _ hg)⟩
    · by_cases e2:r=q
      · subst e2;rw[hBq]at hg;exact .inr ⟨.inr rfl,hsub g (Aw _ hg)⟩
      · rw[hB r e1 e2]at hg;exact .inl hg
  exact
  {h with
    slot:=λr=>by
      by_cases e1:r=s
      · subst e1;rw[hSs,hBs];exact hc
      · by_cases e2:r=q
        · subst e2;rw[hSq,hBq];exact hcq
        · rw[hS r e1 e2,hB r e1 e2];exact h.slot r
    boxes:=λr cs e=>by
      by_cases e1:r=s
      · subst e1;rw[hSs]at e;obtain⟨ds,hd⟩:=hsome cs e;exact h.boxes r ds hd
      · by_cases e2:r=q
        · subst e2;rw[hSq,hbq]at e;cases e
        · rw[hS r e1 e2]at e;exact h.boxes r cs e
    crefs:=λr b e=>by
      have hr:DG (σ r)=some b:=by
        by_cases e1:r=s
        · subst e1;rw[hSs,hrf]at e;cases e
        · by_cases e2:r=q
          · subst e2;rw[hSq,hrq]at e;cases e
          · rw[hS r e1 e2]at e;exact e
      obtain⟨cs,hcs⟩:=h.crefs r b hr
      by_cases e1:b=s
      · subst e1;rw[hSs];exact hsome' cs hcs
      · by_cases e2:b=q
        · subst e2;rw[hq]at hcs;cases hcs
        · rw[hS b e1 e2];exact⟨cs,hcs⟩
    nodup:=λr=>by
      by_cases e1:r=s
      · subst e1;rw[hBs];exact n1
      · by_cases e2:r=q
        · subst e2;rw[hBq];exact n2
        · rw[hB r e1 e2];exact h.nodup r
    apart:=λr t hrt g hg hg'=>by
      by_cases e1:(r=s∨r=q)
      · by_cases e2:(t=s∨t=q)
        · rcases e1 with rfl|rfl<;>rcases e2 with rfl|rfl
          · exact hrt rfl
          · rw[hBs]at hg;rw[hBq]at hg';exact n3 g hg g hg' rfl
          · rw[hBq]at hg;rw[hBs]at hg';exact n3 g hg' g hg rfl
          · exact hrt rfl
        · have ht1:t≠s:=λe=>e2 (.inl e)
          have ht2:t≠q:=λe=>e2 (.inr e)
          rw[hB t ht1 ht2]at hg'
          rcases hin r g hg with hh|⟨_,hh⟩
          · exact h.apart r t hrt g hh hg'
          · rcases hh with hh|hh
            · exact h.apart s t (Ne.symm ht1) g hh hg'
            · exact h.apart q t (Ne.symm ht2) g hh hg'
      · have hr1:r≠s:=λe=>e1 (.inl e)
        have hr2:r≠q:=λe=>e1 (.inr e)
        rw[hB r hr1 hr2]at hg
        rcases hin t g hg' with hh|⟨_,hh⟩
        · exact h.apart r t hrt g hg hh
        · rcases hh with hh|hh
          · exact h.apart r s hr1 g hg hh
          · exact h.apart r q hr2 g hg hh
    hapart:=λr g hg=>by simp
    range:=λr g hg=>by
      rcases hin r g hg with hh|⟨_,hh|hh⟩
      · exact h.range r g hh
      · exact h.range s g hh
      · exact h.range q g hh}
variable {Q:Exit->PS->Prop}{α:Type}{f:α->List V}
theorem Vo{x:LC}{s q:Nat}{l:List α}{c:V}{c':(Nat->Value)->V}(hs:σ s=c)(hq:σ q=.undef)(hsq:s≠q)(S:iG P f c l 0 c')(hb:∀U,(CN (c' U)).isSome=(CN c).isSome)(hrf:∀U,DG (c' U)=none)
    (h:∀(U:Nat->Value) (us:List Value),us.length=l.length->(∀i,i < l.length->U i=us.getD i undef)->LS P nt bx x (upd (upd σ s (c' U)) q (.gh us (l.map λx=>GN (f x)))) Q):LS P nt bx x σ Q:=by
  intro cc hc hok hL base St0 w0 a w hr
  obtain⟨St,B,hS,r1,r2,r3⟩:=hr
  have h1:=hS.slot s
  rw[hs]at h1
  obtain⟨us,b1,b2,q1,q2,q3,q4,q5⟩:=S w St (tm a) (tm a s) (B s) h1 (hS.nodup s)
  have hU:∀i,i < l.length->(λi=>us.getD i undef) (0+i)=us.getD i undef:=λi _=>by simp
  refine h (λi=>us.getD i undef) us q1 (λi _=>rfl) cc hc hok hL base St0 w0 a w ⟨St,_,Oz hS hsq (by rw[hq];rfl) (q5 (λi=>us.getD i undef) hU) (show Cb P w St (tm a) (.gh us _) _ b2 from q2) q3 (λg hg=>.inl (q4 g hg)) (by rw[hs];exact hb _) (hrf _) rfl rfl,r1,r2,r3⟩
end
end Go.Proofs.YtckmdkajoiegmaaGreatDoor
namespace Go.Proofs.YtckmdkajoiegmaaGreatDoor
def Gh(P:Program)(nt:Nat)(bx:List Nat)(σ:PS)(K:PS->Prop):Prop:=∀base St0 w0 a w,Rel P nt bx base St0 w0 σ a w->∃σ',K σ'∧Rel P nt bx base St0 w0 σ' a w
def ghQ(P:Program)(nt:Nat)(bx:List Nat)(Q:Exit->PS->Prop):Exit->PS->Prop
  |.normal,σ=>Gh P nt bx σ (Q .normal)
  |e,σ=>Q e σ
section
variable {P:Program}{nt:Nat}{bx:List Nat}{σ:PS}{K:PS->Prop}{Q:Exit->PS->Prop}{x:LC}
theorem Ke(h:K σ):Gh P nt bx σ K:=λ_ _ _ _ _ hr=>⟨σ,h,hr⟩
theorem VO(h:LS P nt bx x σ (ghQ P nt bx Q)):LS P nt bx x σ Q:=by
  intro c hc hok hL base St0 w0 a w hr
  refine Ek (h c hc hok hL base St0 w0 a w hr) ?_
  rintro e a' w' ⟨σ',h1,h2⟩
  cases e with
  |normal=>exact h1 base St0 w0 a' w' h2
  |_=>exact⟨σ',h1,h2⟩
theorem Ej(h:Gh P nt bx σ (λσ'=>LS P nt bx x σ' Q)):LS P nt bx x σ Q:=by
  intro c hc hok hL base St0 w0 a w hr
  obtain⟨σ',h1,h2⟩:=h base St0 w0 a w hr
  exact h1 c hc hok hL base St0 w0 a w h2
def dY(P:Program)(c:V)(e:TypeId)(n:Nat)(cs:List V)(c':Value->V):Prop:=
  ∀w St (t:Nat->Value) v bs,Cb P w St t c v bs->bs.Nodup->∃u b1 b2,Ow P w St (.own e n cs) u b2∧(b1++b2).Nodup∧(∀g∈b1++b2,g∈bs)∧Cb P w St t (c' u) v b1
theorem XR{w:World}{St:Nat->Nat->Prop}{e:TypeId}{n:Nat}{cs:List V}{u:Value}{b:List Nat}(h:Ow P w St (.own e n cs) u b):Ow P w St (.tok u) u []:=⟨rfl,rfl,(Ow.rd (.own e n cs) h rfl).oneCell⟩
theorem ik{w:World}{St:Nat->Nat->Prop}{e:TypeId}{n:Nat}{cs:List V}{u:Value}{b:List Nat}(h:Ow P w St (.own e n cs) u b)(hn:0 < n):∃g m,u=.slice (some ⟨g,0,none⟩) n m:=by
  obtain⟨_,xs,bs',hrow,_⟩:=h
  rcases hrow.2 with⟨_,h0⟩|⟨g,cap,cur,eg,_⟩
  · omega
  · exact⟨g,cap,eg⟩
theorem j9{e:TypeId}{n:Nat}{cs:List V}:dY P (.own e n cs) e n cs .tok:=λw St t v bs h hn=>⟨v,[],bs,h,by simpa using hn,λg hg=>by simpa using hg,(XR (show Ow P w St (.own e n cs) v bs from h)).slot⟩
theorem j8{e:TypeId}{n:Nat}{cs A C:List V}:dY P (.box (A++.own e n cs::C)) e n cs (λu=>.box (A++.tok u::C)):=by
  rintro w St t v bs ⟨g,T,bs',arr,e1,e2,hr,rfl,hst⟩ hn
  obtain⟨us1,us2,p1,p2,eu,eb,r1,r2⟩:=hr.app
  obtain⟨u,us3,p3,p4,eu2,eb2,hc,r3,r4⟩:=r2
  subst eb eb2
  have hn1:=Bx.1 hn
  have hn2:=As.1 hn1.2
  have hn3:=As.1 hn2.2.1
  refine⟨u,g::(p1++p4),p3,r3,?_,?_,g,T,p1++p4,arr,e1,e2,?_,rfl,hst⟩
  · rw[BN,Bx]
    refine⟨λhm=>hn1.1 ?_,As.2 ⟨As.2 ⟨hn2.1,hn3.2.1,λa ha b hb=>hn2.2.2 a ha b (Aw _ hb)⟩,hn3.1,λa ha b hb e=>?_⟩⟩
    · simp only[An]at hm⊢
      rcases hm with(h|h)|h
      · exact .inl h
      · exact .inr (.inr h)
      · exact .inr (.inl h)
    · rcases An.1 ha with ha|ha
      · exact hn2.2.2 a ha b (AA _ hb) e
      · exact hn3.2.2 b hb a ha e.symm
  · intro k hk
    simp only[BN,AO,An]at hk⊢
    rcases hk with h|(h|h)|h
    · exact .inl h
    · exact .inr (.inl h)
    · exact .inr (.inr (.inr h))
    · exact .inr (.inr (.inl h))
  · rw[eu,eu2]
    have:=AY.join r1 (show AY P w St (.tok u::C) (u::us3) p4 from⟨u,us3,[],p4,rfl,by simp,rfl,XR r3,r4⟩)
    exact this
theorem Z2{s q:Nat}{c:V}{e:TypeId}{n:Nat}{cs:List V}{c':Value->V}(hs:σ s=c)(hq:σ q=.undef)(hsq:s≠q)(L:dY P c e n cs c')(hn:0 < n)(hb:∀u,(CN (c' u)).isSome=(CN c).isSome)(hrf:∀u,DG (c' u)=none)
    (h:∀g m,Gh P nt bx (upd (upd σ s (c' (.slice (some ⟨g,0,none⟩) n m))) q (.gh [.slice (some ⟨g,0,none⟩) n m] [.own e n cs])) K):Gh P nt bx σ K:=by
  rintro base St0 w0 a w ⟨St,B,hS,r1,r2,r3⟩
  have h1:=hS.slot s
  rw[hs]at h1
  obtain⟨u,b1,b2,q1,q2,q3,q4⟩:=L w St (tm a) (tm a s) (B s) h1 (hS.nodup s)
  obtain⟨g,m,rfl⟩:=ik q1 hn
  exact h g m base St0 w0 a w ⟨St,_,Oz hS hsq (by rw[hq];rfl) q4 (show Cb P w St (tm a) (.gh [_] [_]) _ b2 from⟨_,[],b2,[],rfl,by simp,rfl,q1,rfl,rfl⟩) q2 (λg hg=>.inl (q3 g hg)) (by rw[hs];exact hb _) (hrf _) rfl rfl,r1,r2,r3⟩
def dX(P:Program)(c':V)(u:Value)(e:TypeId)(n:Nat)(cs:List V)(c:V):Prop:=
  ∀w St (t:Nat->Value) v b1 b2,Cb P w St t c' v b1->Ow P w St (.own e n cs) u b2->(b1++b2).Nodup->∃bs,bs.Nodup∧(∀g∈bs,g∈b1++b2)∧Cb P w St t c v bs
theorem jn{u:Value}{e:TypeId}{n:Nat}{cs:List V}:dX P (.tok u) u e n cs (.own e n cs):=by
  intro w St t v b1 b2 h1 h2 hn
  have hv:v=u:=h1.2.1
  subst hv
  exact⟨b2,(As.1 hn).2.1,λg hg=>Aw _ hg,h2⟩
theorem jm{u:Value}{e:TypeId}{n:Nat}{cs A C:List V}:dX P (.box (A++.tok u::C)) u e n cs (.box (A++.own e n cs::C)):=by
  rintro w St t v b1 b2 ⟨g,T,bs',arr,e1,e2,hr,rfl,hst⟩ h2 hn
  obtain⟨us1,us2,p1,p2,eu,eb,r1,r2⟩:=hr.app
  obtain⟨u',us3,p3,p4,eu2,eb2,hc,r3,r4⟩:=r2
  obtain⟨hp3,hu,_⟩:=r3
  subst hu hp3 eb eb2
  have hn1:=As.1 hn
  have hn2:=Bx.1 hn1.1
  have hn3:=As.1 hn2.2
  refine⟨g::(p1++(b2++p2)),?_,?_,g,T,p1++(b2++p2),arr,e1,e2,?_,rfl,hst⟩
  · refine Bx.2 ⟨λhm=>?_,As.2 ⟨hn3.1,As.2 ⟨hn1.2.1,hn3.2.1,λa ha b hb e=>hn1.2.2 b (AQ _ (Aw _ hb)) a ha e.symm⟩,λa ha b hb e=>?_⟩⟩
    · simp only[An]at hm
      rcases hm with h|h|h
      · exact hn2.1 (AA _ h)
      · exact hn1.2.2 g (BK) g h rfl
      · exact hn2.1 (Aw _ h)
    · rcases An.1 hb with hb|hb
      · exact hn1.2.2 a (AQ _ (AA _ ha)) b hb e
      · exact hn3.2.2 a ha b hb e
  · intro k hk
    simp only[BN,AO,An]at hk⊢
    rcases hk with h|h|h|h
    · exact .inl h
    · exact .inr (.inl (.inl h))
    · exact .inr (.inr h)
    · exact .inr (.inl (.inr h))
  · rw[eu,eu2]
    exact AY.join r1 (show AY P w St (.own e n cs::C) (u'::us3) (b2++p2)from⟨u',us3,b2,p2,rfl,rfl,rfl,h2,r4⟩)
theorem Z1{s q:Nat}{u:Value}{e:TypeId}{n:Nat}{cs:List V}{c c':V}(hs:σ s=c')(hq:σ q=.gh [u] [.own e n cs])(hsq:s≠q)(D:dX P c' u e n cs c)(hb:(CN c).isSome=(CN c').isSome)(hrf:DG c=none)
    (h:Gh P nt bx (upd (upd σ s c) q .undef) K):Gh P nt bx σ K:=by
  rintro base St0 w0 a w ⟨St,B,hS,r1,r2,r3⟩
  have h1:=hS.slot s
  rw[hs]at h1
  have h2:=hS.slot q
  rw[hq]at h2
  obtain⟨u',us',b1,b2,eu,eb,_,hOw,hnil⟩:=h2
  simp only[CS]at eu
  obtain⟨rfl,rfl⟩:=eu
  have hb2:b2=[]:=hnil.2
  subst hb2
  rw[Bm]at eb
  have hnd:(B s++b1).Nodup:=As.2 ⟨hS.nodup s,by have:=hS.nodup q;rwa [eb]at this,λx hx y hy e=>by subst e;exact hS.apart s q hsq x hx (by rw[eb];exact hy)⟩
  obtain⟨bs,q1,q2,q3⟩:=D w St (tm a) (tm a s) (B s) b1 h1 hOw hnd
  exact h base St0 w0 a w ⟨St,_,Oz hS hsq (by rw[hq];rfl) q3 (show Cb P w St (tm a) .undef _ []from rfl) (by simpa using q1) (λg hg=>by
    rw[Bm]at hg
    rcases An.1 (q2 g hg)with hh|hh
    · exact .inl hh
    · exact .inr (by rw[eb];exact hh)) (by rw[hs];exact hb) hrf rfl rfl,r1,r2,r3⟩
theorem Zo{α:Type}{cs:List α}{k:Nat}{c:α}(hk:cs[k]? =some c)(x:α):cs=cs.take k++c::cs.drop (k+1)∧cs.set k x=cs.take k++x::cs.drop (k+1):=by
  obtain⟨hlt,he⟩:=B4.1 hk
  refine⟨?_,by rw[DW,AJ hlt]⟩
  rw[<-he,<-Bz hlt,Cc]
theorem cx(a b c d:List Nat):(a++(b++d)++c).Perm (a++(b++(c++d))):=by
  rw[Bd,Bd]
  exact List.Perm.append_left _ (List.Perm.append_left _ List.perm_append_comm)
theorem nC{u1:Value}{e e2:TypeId}{n m k:Nat}{cs row:List V}(hk:cs[k]? =some (.own e2 m row)):dY P (.gh [u1] [.own e n cs]) e2 m row (λu=>.gh [u1] [.own e n (cs.set k (.tok u))]):=by
  rintro w St t v bs ⟨u,us',b1,b2,eu,eb,hc,⟨hn,xs,bs',hrow,hxs,hb1,hSt,h0⟩,hnil⟩ hnd
  simp only[CS]at eu
  obtain⟨rfl,rfl⟩:=eu
  have hb2:b2=[]:=hnil.2
  subst hb2
  rw[Bm]at eb
  subst eb
  have hlt:=(B4.1 hk).1
  have e0:=λx=>Zo hk x
  rw[(e0 .undef).1]at hxs
  obtain⟨us1,us2,p1,p2,eu,eb2,r1,r2⟩:=AY.app hxs
  obtain⟨u',us3,p3,p4,eu2,eb3,hc',r3,r4⟩:=r2
  subst eb3 eb2 hb1
  have hp:=cx u1.ownBlock.toList p1 p3 p4
  refine⟨u',u1.ownBlock.toList++(p1++p4),p3,r3,hp.nodup_iff.2 hnd,λg hg=>hp.mem_iff.1 hg,u1,[],_,[],rfl,(Bm _).symm,rfl,⟨hn,xs,p1++p4,hrow,?_,rfl,hSt,λhz=>?_⟩,rfl,rfl⟩
  · rw[(e0 (.tok u')).2,eu,eu2]
    exact AY.join r1 (show AY P w St (.tok u'::_) (u'::us3) p4 from⟨u',us3,[],p4,rfl,by simp,rfl,XR r3,r4⟩)
  · have:=h0 hz
    subst this
    simp at hlt
theorem m5{u1 u2:Value}{e e2:TypeId}{n m k:Nat}{cs row:List V}(hk:cs[k]? =some (.tok u2)):dX P (.gh [u1] [.own e n cs]) u2 e2 m row (.gh [u1] [.own e n (cs.set k (.own e2 m row))]):=by
  rintro w St t v c1 c2 ⟨u,us',b1,b2,eu,eb,hc,⟨hn,xs,bs',hrow,hxs,hb1,hSt,h0⟩,hnil⟩ h2 hnd
  simp only[CS]at eu
  obtain⟨rfl,rfl⟩:=eu
  have hb2:b2=[]:=hnil.2
  subst hb2
  rw[Bm]at eb
  subst eb
  have hlt:=(B4.1 hk).1
  have e0:=λx=>Zo hk x
  rw[(e0 .undef).1]at hxs
  obtain⟨us1,us2,p1,p2,eu,eb2,r1,r2⟩:=AY.app hxs
  obtain⟨u',us3,p3,p4,eu2,eb3,hc',r3,r4⟩:=r2
  obtain⟨hp3,hu,_⟩:=r3
  subst hu hp3 eb3 eb2 hb1
  have hp:=cx u1.ownBlock.toList p1 c2 p2
  refine⟨u1.ownBlock.toList++(p1++(c2++p2)),hp.nodup_iff.1 (by simpa using hnd),λg hg=>by have:=hp.mem_iff.2 hg;simpa using this,u1,[],_,[],rfl,(Bm _).symm,rfl,⟨hn,xs,p1++(c2++p2),hrow,?_,rfl,hSt,λhz=>?_⟩,rfl,rfl⟩
  · rw[(e0 (.own e2 m row)).2,eu,eu2]
    exact AY.join r1 (show AY P w St (.own e2 m row::_) (u'::us3) (c2++p2)from⟨u',us3,c2,p2,rfl,rfl,rfl,h2,r4⟩)
  · have:=h0 hz
    subst this
    simp at hlt
variable {α:Type}{f:α->List V}
end
end Go.Proofs.YtckmdkajoiegmaaGreatDoor
namespace Go.Proofs.YtckmdkajoiegmaaGreatDoor
mutual
def G5:V->V
  |.dat n cs=>.arg n (JO cs)
  |.agg cs=>.agg (JO cs)
  |.int k n=>.int k n
  |.bool b=>.bool b
  |.str s=>.str s
  |.fn f=>.fn f
  |_=>.undef
def JO:List V->List V
  |[]=>[]
  |c::cs=>G5 c::JO cs
end
mutual
def Se:V->Bool
  |.dat _ cs=>D8 cs
  |.int _ _=>true
  |.bool _=>true
  |.str _=>true
  |.fn _=>true
  |_=>false
def D8:List V->Bool
  |[]=>true
  |c::cs=>Se c&&D8 cs
end
def Hc:V->Bool
  |.agg cs=>D8 cs
  |c=>Se c
section
variable {P:Program}{w:World}{St:Nat->Nat->Prop}{N:Nat->Prop}
theorem gn{cs:List V}:JO cs≠[]->cs≠[]:=λh e=>h (by subst e;rfl)
mutual
theorem Rd.JG(hst:∀b o,St b o->N b):∀(c:V) {v:Value},Se c=true->Rd w St c v->Rd w (λb o=>St b o∨N b) (G5 c) v
  |.int _ _,_,_,h=>h
  |.bool _,_,_,h=>h
  |.str _,_,_,h=>h
  |.fn _,_,_,h=>h
  |.dat _ cs,_,ha,⟨hn,A,c,e,hc,h,h0⟩=>⟨hn,A,c,e,hc,λhp=>let⟨b,off,ea,hr⟩:=h hp;⟨b,off,ea,λhne o=>.inr (Da.blk hst b off cs (gn hne) hr),Da.JG hst b off cs ha hr⟩,λhz=>by rw[h0 hz];rfl⟩
  |.own _ _ _,_,ha,_=>by cases ha
  |.pin _ _ _,_,ha,_=>by cases ha
  |.arg _ _,_,ha,_=>by cases ha
  |.agg _,_,ha,_=>by cases ha
  |.tup _,_,ha,_=>by cases ha
  |.box _,_,ha,_=>by cases ha
  |.uni _ _ _,_,ha,_=>by cases ha
  |.same _,_,ha,_=>by cases ha
  |.val _ _,_,ha,_=>by cases ha
  |.cref _ _,_,ha,_=>by cases ha
  |.adr _ _,_,ha,_=>by cases ha
  |.gh _ _,_,ha,_=>by cases ha
  |.tok _,_,ha,_=>by cases ha
  |.undef,_,ha,_=>by cases ha
theorem Da.JG(hst:∀b o,St b o->N b)(b:Nat):∀(off:Nat) (cs:List V),D8 cs=true->Da w St b off cs->Da w (λb o=>St b o∨N b) b off (JO cs)
  |_,[],_,_=>trivial
  |off,c::cs,ha,⟨⟨h1,u,hu,hr⟩,h2⟩=>by
    rw[D8,Ab]at ha
    exact⟨⟨.inl h1,u,hu,Rd.JG hst c ha.1 hr⟩,Da.JG hst b (off+1) cs ha.2 h2⟩
theorem Da.blk(hst:∀b o,St b o->N b)(b:Nat):∀(off:Nat) (cs:List V),cs≠[]->Da w St b off cs->N b
  |_,[],h,_=>absurd rfl h
  |off,_::_,_,⟨⟨h1,_⟩,_⟩=>hst b off h1
end
theorem Ml.JG(hst:∀b o,St b o->N b):∀(cs:List V) {us:List Value},D8 cs=true->Ml w St cs us->Ml w (λb o=>St b o∨N b) (JO cs) us
  |[],_,_,h=>h
  |c::cs,_,ha,⟨u,us',e,h1,h2⟩=>by
    rw[D8,Ab]at ha
    exact⟨u,us',e,Rd.JG hst c ha.1 h1,Ml.JG hst cs ha.2 h2⟩
theorem Wi.JG(hst:∀b o,St b o->N b){c:V}{v:Value}(ha:Hc c=true)(h:Wi w St c v):Wi w (λb o=>St b o∨N b) (G5 c) v:=by
  cases c<;>first|exact Rd.JG hst _ ha h|(cases ha;done)|skip
  obtain⟨us,e,h⟩:=h
  exact⟨us,e,Ml.JG hst _ ha h⟩
theorem Mk.JG(hst:∀b o,St b o->N b):∀{args:List V}{vs:List Value},args.all Hc=true->Mk w St args vs->Mk w (λb o=>St b o∨N b) (args.map G5) vs
  |[],_,_,h=>h
  |c::args,_,ha,⟨u,us',e,h1,h2⟩=>by
    simp only[A7,Ab]at ha
    exact⟨u,us',e,Wi.JG hst ha.1 h1,Mk.JG hst ha.2 h2⟩
end
theorem WJ{c:V}(h:Se c=true):LZ (G5 c)=true:=by
  cases c<;>first|rfl|cases h
theorem WK:∀{cs:List V},D8 cs=true->(JO cs).all LZ=true
  |[],_=>rfl
  |c::cs,h=>by
    rw[D8,Ab]at h
    rw[JO,A7,WJ h.1,WK h.2];rfl
theorem Tc{c:V}(h:Hc c=true):NZ (G5 c)=true:=by
  cases c<;>first|exact WJ h|(cases h;done)|skip
  exact WK (show D8 _=true from h)
def eI:V->Bool
  |.tup cs=>Ca cs
  |c=>deep c
section
variable {P:Program}{w w':World}{St St':Nat->Nat->Prop}
theorem I2.kept:∀(cs:List V) {us:List Value}{bs:List Nat},Ca cs=true->I2 P w St cs us bs->(∀g∈bs,w'.heap[g]? =w.heap[g]? ∧∀o,St' g o↔St g o)->I2 P w' St' cs us bs
  |[],_,_,_,h,_=>h
  |c::cs,_,_,hd,⟨u,us',b1,b2,e1,e2,h1,h2⟩,hb=>by
    have hd':deep c=true∧Ca cs=true:=by simpa[Ca]using hd
    exact⟨u,us',b1,b2,e1,e2,Ow.kept c hd'.1 h1 (λg hg=>hb g (by rw[e2];exact AA _ hg)),I2.kept cs hd'.2 h2 (λg hg=>hb g (by rw[e2];exact Aw _ hg))⟩
theorem db{c:V}{v:Value}{bs:List Nat}(hd:eI c=true)(h:Ow P w St c v bs)(hb:∀g∈bs,w'.heap[g]? =w.heap[g]? ∧∀o,St' g o↔St g o):Ow P w' St' c v bs:=by
  cases c<;>first|exact Ow.kept _ hd h hb|skip
  obtain⟨us,e,h⟩:=h
  exact⟨us,e,I2.kept _ hd h hb⟩
end
section
variable {P:Program}{tb:Tb}
theorem iy(htb:GA P tb){f:FuncId}{fn:Func}{c:Code}{args:List V}{r:V}(hf:P.funcs[f]? =some fn)(hb:fn.body=some c)(hname:(fn.name== "runtime.NumGoroutine")=false)(bx:List Nat)(hlen:args.length<=fn.ntmps)(hargs:args.all Hc=true)(hr:eI r=true)
    (hn:(fn.results.toList.map L4).Nodup) (h:K5 P fn.ntmps bx c (Fc (args.map G5)) (λe σ=>(e=.ret∨e=.normal)∧Vu tb σ fn.results.toList=some r)):AI P f args r:=by
  refine⟨⟨fn,hf,by rw[hb];rfl,hname⟩,λw St vs hst hgl hvs=>?_⟩
  have hvs':=Mk.JG hst hargs hvs
  have hst':∀b o,(St b o∨b < w.heap.size)->b < w.heap.size:=λb o h=>h.elim (hst b o) id
  have hpl:(args.map G5).all NZ=true:=by
    rw[Hk,Af]
    exactλx hx=>Tc (Af.1 hargs x hx)
  obtain⟨hl,hat⟩:=args_at hvs'
  refine G8 hf hb ?_
  have hrel:=Zi (P:=P) (bx:=bx) hst' (hgl.of (λb hb o=>.inl (hb o)) (λ_ _ _=>rfl)) hvs' (by simpa using hlen) hpl
  refine Ek (h _ _ _ _ _ hrel) ?_
  rintro e a' w' ⟨σ',⟨he,hres⟩,St1,B',h1,h2,h3,h4⟩
  have hfin:a'.defers=[]∧∃v,(results fn a'.tmps).run P w'=.ok v w'∧Ret P w St r (.returned v) w':=by
    obtain⟨v,bs,q1,q2,q3,q4⟩:=fK htb h1 hn hres
    have hge:∀g∈bs,w.heap.size<=g:=λg hg=>LW (q4 g hg).1
    refine⟨h1.defers,v,q1,v,bs,λb o=>(b < w.heap.size∧St b o)∨(w.heap.size<=b∧St1 b o),rfl,⟨h2.os,h2.tape,h2.output,h2.size,h2.block⟩,λb o hlt=>⟨λhh=>hh.elim (·.2) (λhh=>absurd hh.1 (by omega)),λhh=>.inl ⟨hlt,hh⟩⟩,λb o hh=>?_,?_,q3,λg hg=>⟨hge g hg,(q4 g hg).2⟩⟩
    · rcases hh with hh|hh
      · exact A6 hh.1 h2.size
      · exact h1.st b o hh.2
    · exact db hr q2 (λg hg=>⟨rfl,λo=>⟨λhh=>hh.elim (λhh=>absurd hh.1 (by have:=hge g hg;omega)) (·.2),λhh=>.inr ⟨hge g hg,hh⟩⟩⟩)
  rcases he with rfl|rfl
  · exact hfin
  · exact hfin
end
def sfY:PL->Prop
  |[]=>True
  |(_,c)::L=>H0 c=true∧sfY L
theorem yn:sfY []:=trivial
theorem yc{q:Nat}{c:V}{L:PL}(h:H0 c=true)(k:sfY L):sfY ((q,c)::L):=⟨h,k⟩
theorem aG:∀{L:PL},sfY L->∀q,H0 (Cd L q)=true
  |[],_,q=>rfl
  |(r,c)::L,⟨h1,h2⟩,q=>by
    by_cases e:q=r
    · subst e
      rw[show Cd ((q,c)::L) q=c from by simp[Cd,upd_same]]
      exact h1
    · rw[show Cd ((r,c)::L) q=Cd L q from by simp[Cd,upd_ne _ _ e]]
      exact aG h2 q
theorem Sr:∀{L:PL}{q:Nat},q∉L.map (·.1)->Cd L q=.undef
  |[],_,_=>rfl
  |(s,c)::L,q,h=>by
    rw[AK,AO,not_or]at h
    rw[D3,upd_ne _ _ h.1]
    exact Sr h.2
theorem Qm{L:PL}:∀{ss:List Nat}{L':PL},YU L ss=some L'->(∀q,q∈ss->lk L q=some (Cd L' q))∧(∀q,q∉ss->Cd L' q=.undef)∧L'.map (·.1)=ss
  |[],_,h=>by cases h;exact⟨λq hq=>by simp at hq,λ_ _=>rfl,rfl⟩
  |s::ss,_,h=>by
    rw[YU]at h
    obtain⟨c,h1,h⟩:=AT h
    obtain⟨L1,h2,h⟩:=AT h
    cases h
    obtain⟨i1,i2,i3⟩:=Qm h2
    refine⟨λq hq=>?_,λq hq=>?_,by rw[AK,i3]⟩
    · by_cases e:q=s
      · subst e;rw[D3,upd_same];exact h1
      · rw[D3,upd_ne _ _ e];exact i1 q ((AO.1 hq).resolve_left e)
    · rw[AO,not_or]at hq
      rw[D3,upd_ne _ _ hq.1];exact i2 q hq.2
def Pr(L:PL)(S:List Nat):List Nat:=(L.map (·.1)).filter λq=> !S.contains q
theorem KW{L:PL}{S:List Nat}{q:Nat}:(Pr L S).contains q=true↔q∈L.map (·.1)∧q∉S:=by
  unfold Pr
  rw[Av,Be,AD,<-Jc,Av]
theorem Vk{L L1:PL}{S:List Nat}{g q:Nat}(h:S0 L S=some L1)(hg:q≠g):kill (Pr L (g::S)) (Cd L) q=Cd L1 q:=by
  obtain⟨L',h1,h⟩:=AT h
  obtain⟨h2,h⟩:=Du h
  cases h
  obtain⟨i1,i2,i3⟩:=Qm h1
  by_cases hq:q∈S
  · have e1:=CF (i1 q hq)
    have hD:¬(Pr L (g::S)).contains q=true:=λh=>(KW.1 h).2 (AQ _ hq)
    unfold kill
    rw[AN hD,e1]
    cases hr:DG (Cd L1 q)with
    |none=>rfl
    |some b=>
      have hb:b∈S:=by
        obtain⟨p,hp,hpr⟩:=al hr
        have:=Af.1 h2 p hp
        rw[hpr,i3]at this
        exact Av.1 this
      have hD':¬(Pr L (g::S)).contains b=true:=λh=>(KW.1 h).2 (AQ _ hb)
      simp only[AN hD']
  · rw[i2 q hq]
    by_cases hk:q∈L.map (·.1)
    · exact QG (KW.2 ⟨hk,λh=>(AO.1 h).elim hg hq⟩)
    · unfold kill
      rw[Sr hk]
      split<;>rfl
theorem fJ{α:Type}{f:α->List V}{es:Nat}(z:∀x,(f x).length=es){l:List α}{i:Int}{y:α}(gy:A4 l i=some y){o:Nat}{vs:List V}(ho:o+vs.length<=es){x':α}(hx:MP (f y) o vs=f x'):MP (l.flatMap f) (i.toNat * es+o) vs=(Dj l i x').flatMap f:=by
  obtain⟨g1,g2,g3⟩:=Cn gy
  have hk:i.toNat < l.length:=by omega
  unfold Dj
  rw[<-Zj z hk x',<-hx]
  unfold MP
  have e1:(l.flatMap f).drop (i.toNat * es)=f y++(l.flatMap f).drop ((i.toNat+1) * es):=by
    rw[JA z,JA z]
    obtain⟨hlt,he⟩:=B4.1 g3
    rw[Bz hlt,he,Ay]
  have hl:((f y).take o++vs++(f y).drop (o+vs.length)).length=es:=by
    have:=z y
    simp only[AR,Bk,BO]
    omega
  rw[hl]
  have e2:(l.flatMap f).take (i.toNat * es+o)=(l.flatMap f).take (i.toNat * es)++(f y).take o:=by
    have hlen:i.toNat * es<=(l.flatMap f).length:=by
      rw[Bv z]
      exact Co _ (Df hk)
    rw[List.take_add,e1,FH (by rw[z y];omega)]
  have e3:(l.flatMap f).drop (i.toNat * es+o+vs.length)=(f y).drop (o+vs.length)++(l.flatMap f).drop (i.toNat * es+es):=by
    rw[E9,<-Fi,e1,Dh (by rw[z y];omega),DX,F4]
  rw[e2,e3]
  simp only[Bd]
theorem get_at{α:Type}{f:α->List V}{es:Nat}(z:∀x,(f x).length=es){l:List α}{i:Int}{y:α}(gy:A4 l i=some y){o:Nat}{dd:TyD}(ho:o+dd.size<=es)(hp:0 < dd.size):getCells dd (l.flatMap f) (i.toNat * es+o)=getCells dd (f y) o∧i.toNat * es+o+dd.size<=(l.flatMap f).length:=by
  obtain⟨g1,g2,g3⟩:=Cn gy
  have hk:i.toNat < l.length:=by omega
  have e1:(l.flatMap f).drop (i.toNat * es)=f y++(l.flatMap f).drop ((i.toNat+1) * es):=by
    rw[JA z,JA z]
    obtain⟨hlt,he⟩:=B4.1 g3
    rw[Bz hlt,he,Ay]
  have hz:=z y
  refine⟨?_,?_⟩
  · have e2:∀k,k < es->(l.flatMap f)[i.toNat * es+k]? =(f y)[k]?:=λk hk=>by
      rw[<-Dm,e1,BA (by omega)]
    cases dd with
    |st n zz fs=>
      simp only[getCells,TyD.size]at ho⊢
      rw[<-Fi,e1,Dh (by omega),FH (by rw[BO];omega)]
    |_=>simp only[getCells,TyD.size]at ho⊢;rw[e2 o (by omega)]
  · rw[Bv z]
    have:(i.toNat+1) * es<=l.length * es:=Co _ hk
    rw[DX,F4]at this
    omega
theorem gk{α:Type}{f:α->List V}{es:Nat}(z:∀x,(f x).length=es){l:List α}{i:Int}{y:α}(gy:A4 l i=some y){o:Nat}(ho:Nat.ble (o+1) es=true):i.toNat * es+o < (l.flatMap f).length:=(get_at (dd:=.sc (.bool false)) z gy (o:=o) (nb ho) (Nat.zero_lt_one)).2
theorem sl{α:Type}{n:Nat}{l:List α}{i:Int}{x:α}(h:n=l.length):n=(Dj l i x).length:=by unfold Dj;rw[B5];exact h
section
variable {P:Program}{tb:Tb}{cns:List Nat}{L:PL}{K:PS->Prop}{s t:Nat}{x y:Operand}{nt:Nat}{bx:List Nat}
theorem Yl{d:Nat}{α:Type}{l:List α}{y0:α}{g n m es eb:Nat}{i:Int}{kk:IntKind}{e:TypeId}{ez:List V}(hx:Ps L x=some (.tok (.slice (some ⟨g,0,none⟩) n m)))(hy:Ps L y=some (.int kk i))(ht:tb s=some (.sl e es eb ez))(hn:n=l.length)(gi:A4 l i=some y0)
    (k:K (Cd ((d,.tok (.pointer (some ⟨g,i.toNat * es,none⟩)))::L))):F7 P tb cns ⟨some d,.indexAddr s x y,t,none⟩ (Cd L) K:=by
  obtain⟨g1,g2,g3⟩:=Cn gi
  subst hn
  refine⟨?_,?_⟩
  · simp only[pc,dp,ht,Xk,D0 hx,D0 hy,NY,fY];exact⟨g1,g2⟩
  · simp only[pv,dq,ht,iaS,D0 hx,D0 hy,NY,oZ];exact k
theorem qLe{q d:Nat}{α:Type}{f:α->List V}{l:List α}{y0:α}{i:Int}{g off m n es:Nat}{e:TypeId}{v:V}{dd:TyD}(o:Nat)(hq:(Nat.beq q gS || Nat.beq q gU)=true)(hc:cns.contains d=true)(hx:adO L x=some (.tok (.pointer (some ⟨g,off,none⟩))))(ho:off=i.toNat * es+o)(ht:tb s=some dd)
    (hg:lk L q=some (.gh [.slice (some ⟨g,0,none⟩) n m] [.own e n (l.flatMap f)])) (z:∀x,(f x).length=es) (gy:A4 l i=some y0) (hol:(Nat.ble (o+dd.size) es&&Nat.ble 1 dd.size)=true) (hv:U6 (getCells dd (f y0) o)=some v) (k:K (Cd ((d,v)::L))):
    F7 P tb cns ⟨some d,.load s x,t,none⟩ (Cd L) K:=by
  subst ho
  rw[Ab]at hol
  obtain⟨e1,e2⟩:=get_at (dd:=dd) z gy (nb hol.1) (nb hol.2)
  simp only[F7,hc,Er,T9,ht,PP hx]
  refine⟨trivial,q,g,_,e,n,m,_,rfl,(Bool.or_eq_true_iff.1 hq).imp CE CE,CF hg,e2,nb hol.2,?_⟩
  rw[e1,<-Gy hv]
  exact k
theorem qLh{d:Nat}{u2:Value}{g off k0 m n:Nat}{e:TypeId}{cs:List V}{dd:TyD}(hc:cns.contains d=true)(hx:adO L x=some (.tok (.pointer (some ⟨g,off,none⟩))))(ho:off=k0)(ht:tb s=some dd)(hdd:(match dd with|.st .. =>false|_=>true)=true)
    (hg:lk L gU=some (.gh [.slice (some ⟨g,0,none⟩) n m] [.own e n (cs.set k0 (.tok u2))])) (hk:k0 < cs.length) (k:K (Cd ((d,.tok u2)::L))):F7 P tb cns ⟨some d,.load s x,t,none⟩ (Cd L) K:=by
  subst ho
  have h1:dd.size=1:=by cases dd<;>first|rfl|cases hdd
  simp only[F7,hc,Er,T9,ht,PP hx]
  refine⟨trivial,gU,g,_,e,n,m,_,rfl,.inr rfl,CF hg,by rw[h1,B5];omega,by omega,?_⟩
  have:getCells dd (cs.set off (.tok u2)) off=.tok u2:=by
    cases dd<;>first|(simp only[getCells,List.getElem?_set_self hk];rfl)|cases hdd
  rw[this]
  exact k
theorem ze{α:Type}{f:α->List V}{l:List α}{y0:α}{i:Int}{g off m n es:Nat}{e:TypeId}{c:V}{dd:TyD}{L0 L1:PL}{vc:List V}(o:Nat)(x':α)(S:List Nat)(hx:adO L x=some (.tok (.pointer (some ⟨g,off,none⟩))))(ho:off=i.toNat * es+o)(ht:tb s=some dd)
    (hg:lk L gS=some (.gh [.slice (some ⟨g,0,none⟩) n m] [.own e n (l.flatMap f)])) (hy:Ps L y=some c) (h0:(!(yT y).contains gS&& !S.contains gS)=true) (hvc:uD (Cd L) y vc) (hn:(Nat.beq vc.length dd.size&&Nat.ble (o+dd.size) es)=true) (hk0:Q9 L y c=some L0) (hk:S0 L0 S=some L1)
    (hx':MP (f y0) o vc=f x') (z:∀x,(f x).length=es) (gy:A4 l i=some y0) (hd:∀x,DE (f x)=true) (hd':DE vc=true) (hs:sfY L1) (k:K (Cd ((gS,.gh [.slice (some ⟨g,0,none⟩) n m] [.own e n ((Dj l i x').flatMap f)])::L1))):
    F7 P tb cns ⟨none,.store s x y,t,none⟩ (Cd L) K:=by
  simp only[Ab,AD]at h0 hn
  subst ho
  have e1:=D0 hy
  have hn1:vc.length=dd.size:=CE hn.1
  have hn2:=nb hn.2
  have e0:Cd L0=CG (Cd L) y:=Lz hy hk0
  obtain⟨g1,g2,g3⟩:=Cn gy
  have hfl:i.toNat * es+o+dd.size<=(l.flatMap f).length:=by
    rw[Bv z]
    have:(i.toNat+1) * es<=l.length * es:=Co _ (by omega)
    rw[DX,F4]at this
    omega
  refine⟨rfl,?_⟩
  simp only[aM,ht,PP hx]
  refine⟨g,_,e,n,m,_,Pr L0 (gS::S),vc,rfl,CF hg,?_,hvc,hd',hn1,hfl,?_,λq hq=>?_,?_⟩
  · exact sdF hd l
  · rw[h0.1,Cr]
    cases hc:(Pr L0 (gS::S)).contains gS with
    |false=>rfl
    |true=>exact absurd (BK) (KW.1 hc).2
  · rw[<-e0]
    by_cases hD:(Pr L0 (gS::S)).contains q=true
    · exact .inl hD
    · right
      have e2:=Vk hk hq
      rcases PB (Pr L0 (gS::S)) (Cd L0) q with e3|e3
      · by_cases hm:q∈L0.map (·.1)
        · have hS:q∈S:=Bq λh=>hD (KW.2 ⟨hm,λh'=>(AO.1 h').elim hq h⟩)
          obtain⟨L',k1,k2⟩:=AT hk
          obtain⟨_,k2⟩:=Du k2
          cases k2
          rw[CF ((Qm k1).1 q hS)]
          exact aG hs q
        · rw[Sr hm];rfl
      · rw[<-e3,e2];exact aG hs q
  · rw[<-e0,fJ z gy (by rw[hn1];exact hn2) hx']
    have e4:upd (kill (Pr L0 (gS::S)) (Cd L0)) gS (.gh [.slice (some ⟨g,0,none⟩) n m] [.own e n ((Dj l i x').flatMap f)])=Cd ((gS,.gh [.slice (some ⟨g,0,none⟩) n m] [.own e n ((Dj l i x').flatMap f)])::L1):=by
      rw[D3]
      funext q
      by_cases hq:q=gS
      · subst hq;rw[upd_same,upd_same]
      · rw[upd_ne _ _ hq,upd_ne _ _ hq];exact Vk hk hq
    rw[e4]
    exact k
theorem qSt{α:Type}{f:α->List V}{l:List α}{y0:α}{i:Int}{g off m n es:Nat}{e:TypeId}{c:V}{dd:TyD}{L0 L1:PL}(o:Nat)(x':α)(S:List Nat)(hx:adO L x=some (.tok (.pointer (some ⟨g,off,none⟩))))(ho:off=i.toNat * es+o)(ht:tb s=some dd)
    (hg:lk L gS=some (.gh [.slice (some ⟨g,0,none⟩) n m] [.own e n (l.flatMap f)])) (hy:Ps L y=some c) (h0:(c.isArg&&(!(yT y).contains gS&& !S.contains gS))=true) (hn:(Nat.beq (Gx c).length dd.size&&Nat.ble (o+dd.size) es)=true) (hk0:Q9 L y c=some L0) (hk:S0 L0 S=some L1)
    (hx':MP (f y0) o (Gx c)=f x') (z:∀x,(f x).length=es) (gy:A4 l i=some y0) (hd:∀x,DE (f x)=true) (hd':DE (Gx c)=true) (hs:sfY L1) (k:K (Cd ((gS,.gh [.slice (some ⟨g,0,none⟩) n m] [.own e n ((Dj l i x').flatMap f)])::L1))):
    F7 P tb cns ⟨none,.store s x y,t,none⟩ (Cd L) K:=by
  rw[Ab]at h0
  exact ze o x' S hx ho ht hg hy h0.2 (.inl ⟨by rw[D0 hy];exact h0.1,by rw[D0 hy]⟩) hn hk0 hk hx' z gy hd hd' hs k
section
variable {α:Type}{f:α->List V}{l:List α}{e:TypeId}
theorem gLb{q b:Nat}(A C:List V)(hs:lk L b=some (.box (A++.own e l.length (l.flatMap f)::C)))(hq:lk L q=none)(hsq:Nat.beq b q=false)(hn:0 < l.length)
    (h:∀g m,K (Cd ((q,.gh [.slice (some ⟨g,0,none⟩) l.length m] [.own e l.length (l.flatMap f)])::(b,.box (A++.tok (.slice (some ⟨g,0,none⟩) l.length m)::C))::L))):Gh P nt bx (Cd L) K:=
  Z2 (CF hs) (by rw[Nc,hq];rfl) (λe=>by rw[e]at hsq;simp at hsq) (j8 (A:=A) (C:=C)) hn (λ_=>rfl) (λ_=>rfl) λg m=>Ke (h g m)
theorem gLs{q b:Nat}(hs:lk L b=some (.own e l.length (l.flatMap f)))(hq:lk L q=none)(hsq:Nat.beq b q=false)(hn:0 < l.length)
    (h:∀g m,K (Cd ((q,.gh [.slice (some ⟨g,0,none⟩) l.length m] [.own e l.length (l.flatMap f)])::(b,.tok (.slice (some ⟨g,0,none⟩) l.length m))::L))):Gh P nt bx (Cd L) K:=
  Z2 (CF hs) (by rw[Nc,hq];rfl) (λe=>by rw[e]at hsq;simp at hsq) j9 hn (λ_=>rfl) (λ_=>rfl) λg m=>Ke (h g m)
theorem gDb{q b n:Nat}{u:Value}(A C:List V)(hs:lk L b=some (.box (A++.tok u::C)))(hq:lk L q=some (.gh [u] [.own e n (l.flatMap f)]))(hsq:Nat.beq b q=false)(hn:n=l.length)
    (h:K (Cd ((q,.undef)::(b,.box (A++.own e l.length (l.flatMap f)::C))::L))):Gh P nt bx (Cd L) K:=by
  subst hn
  exact Z1 (CF hs) (CF hq) (λe=>by rw[e]at hsq;simp at hsq) (jm (A:=A) (C:=C)) rfl rfl (Ke h)
theorem gDs{q b n:Nat}{u:Value}(hs:lk L b=some (.tok u))(hq:lk L q=some (.gh [u] [.own e n (l.flatMap f)]))(hsq:Nat.beq b q=false)(hn:n=l.length)
    (h:K (Cd ((q,.undef)::(b,.own e l.length (l.flatMap f))::L))):Gh P nt bx (Cd L) K:=by
  subst hn
  exact Z1 (CF hs) (CF hq) (λe=>by rw[e]at hsq;simp at hsq) jn rfl rfl (Ke h)
variable {β:Type}{f2:β->List V}{l2:List β}{e2:TypeId}{n:Nat}{u1:Value}{y0:α}{i:Int}{es:Nat}
theorem gLg(o:Nat)(hs:lk L gU=some (.gh [u1] [.own e n (l.flatMap f)]))(hq:lk L gS=none)(z:∀x,(f x).length=es)(gy:A4 l i=some y0)(ho:Nat.ble (o+1) es=true)(hv:(f y0)[o]? =some (.own e2 l2.length (l2.flatMap f2)))(hn:0 < l2.length)
    (h:∀g m,K (Cd ((gS,.gh [.slice (some ⟨g,0,none⟩) l2.length m] [.own e2 l2.length (l2.flatMap f2)])::(gU,.gh [u1] [.own e n ((l.flatMap f).set (i.toNat * es+o) (.tok (.slice (some ⟨g,0,none⟩) l2.length m)))])::L))):Gh P nt bx (Cd L) K:=by
  have hk:(l.flatMap f)[i.toNat * es+o]? =some (.own e2 l2.length (l2.flatMap f2)):=by
    obtain⟨g1,g2,g3⟩:=Cn gy
    have e1:(l.flatMap f).drop (i.toNat * es)=f y0++(l.flatMap f).drop ((i.toNat+1) * es):=by
      rw[JA z,JA z]
      obtain⟨hlt,he⟩:=B4.1 g3
      rw[Bz hlt,he,Ay]
    rw[<-Dm,e1,BA (by have:=z y0;have:=nb ho;omega),hv]
  exact Z2 (CF hs) (by rw[Nc,hq];rfl) (by decide) (nC hk) hn (λ_=>rfl) (λ_=>rfl) λg m=>Ke (h g m)
theorem gDg{u2:Value}{n2:Nat}(o:Nat)(x':α)(hs:lk L gU=some (.gh [u1] [.own e n ((l.flatMap f).set (i.toNat * es+o) (.tok u2))]))(hq:lk L gS=some (.gh [u2] [.own e2 n2 (l2.flatMap f2)]))(z:∀x,(f x).length=es)(gy:A4 l i=some y0)(ho:Nat.ble (o+1) es=true)(hn:n2=l2.length)(hx:MP (f y0) o [.own e2 l2.length (l2.flatMap f2)]=f x')
    (h:K (Cd ((gS,.undef)::(gU,.gh [u1] [.own e n ((Dj l i x').flatMap f)])::L))):Gh P nt bx (Cd L) K:=by
  subst hn
  obtain⟨_,g2⟩:=get_at (dd:=.sc (.bool false)) z gy (o:=o) (nb ho) (Nat.zero_lt_one)
  have hlt:i.toNat * es+o < (l.flatMap f).length:=g2
  have hk:((l.flatMap f).set (i.toNat * es+o) (.tok u2))[i.toNat * es+o]? =some (.tok u2):=List.getElem?_set_self hlt
  refine Z1 (CF hs) (CF hq) (by decide) (m5 hk) rfl rfl (Ke ?_)
  have e1:((l.flatMap f).set (i.toNat * es+o) (.tok u2)).set (i.toNat * es+o) (.own e2 l2.length (l2.flatMap f2))=(Dj l i x').flatMap f:=by
    rw[List.set_set,<-fJ z gy (vs:=[.own e2 l2.length (l2.flatMap f2)]) (nb ho) hx]
    rw[DW,AJ hlt]
    simp[MP]
  rw[e1]
  exact h
end
def xH(S:List Nat):Operand->Bool
  |.tmp p=>S.contains p
  |.const (.int _ _)=>true
  |.const (.bool _)=>true
  |.const (.string _)=>true
  |_=>false
theorem dS(htb:GA P tb){f:FuncId}{nt:Nat}{bx:List Nat}{rs:List ResultVar}{l:LC}{args:List V}{r:V}(hl:Lit P f nt bx rs l)(hlen:args.length<=nt)(hargs:args.all Hc=true)(hr:eI r=true)(h:LS P nt bx l (Fc (args.map G5)) (lA tb rs r)):AI P f args r:=by
  obtain⟨⟨fn,c,h1,h2,h3,rfl,rfl,h6,h7⟩,hn,hL⟩:=hl
  exact iy htb h1 h2 h3 bx hlen hargs hr hn (h c h6 h7 hL)
end
theorem TE:Ca []=true:=rfl
theorem Pw{c:V}{cs:List V}(h:deep c=true)(k:Ca cs=true):Ca (c::cs)=true:=by rw[Ca,h,k];rfl
theorem VW{α:Type}{f:α->List V}(h:∀x,Ca (f x)=true)(l:List α):Ca (l.flatMap f)=true:=UR.2 λc hc=>by
  obtain⟨a,_,hc⟩:=Ch.1 hc
  exact UR.1 (h a) c hc
theorem TR{α:Type}{f:α->List V}(h:∀x,Ca (f x)=true)(e:TypeId)(l:List α):deep (.own e l.length (l.flatMap f))=true:=by rw[deep];exact VW h l
theorem sgh{us:List Value}{e:TypeId}{n k:Nat}{cs:List V}{u:Value}(h:DE cs=true):H0 (.gh us [.own e n (cs.set k (.tok u))])=true:=by
  show DE [_]=true
  rw[DE,MQ,Ab]
  refine⟨KE.2 λc hc=>?_,rfl⟩
  rcases GW hc with h1|h1
  · exact KE.1 h c h1
  · subst h1;rfl
theorem dag{cs:List V}(h:Ca cs=true):deep (.agg cs)=true:=by rw[deep];exact h
theorem UK:∀{cs:List V},FV cs=true↔∀c∈cs,JG c=true
  |[]=>by simp[FV]
  |c::cs=>by rw[FV,Ab,UK (cs:=cs)];simp
theorem acc{c:V}{cs:List V}(h:JG c=true)(k:FV cs=true):FV (c::cs)=true:=by rw[FV,h,k];rfl
theorem acf{α:Type}{f:α->List V}(h:∀x,FV (f x)=true)(l:List α):FV (l.flatMap f)=true:=UK.2 λc hc=>by
  obtain⟨a,_,hc⟩:=Ch.1 hc
  exact UK.1 (h a) c hc
theorem aca{α:Type}{f:α->List V}(h:∀x,FV (f x)=true)(l:List α):JG (.arg l.length (l.flatMap f))=true:=by rw[JG];exact acf h l
theorem sO{c:V}(h:deep c=true):M5 c=true:=qc h
theorem sA{c:V}(h:JG c=true):M5 c=true:=lV h
theorem NL{c:V}{cs:List V}(h:M5 c=true)(k:cs.all M5=true):(c::cs).all M5=true:=by rw[A7,h,k];rfl
theorem VG{c:V}{cs:List V}(h:Se c=true)(k:D8 cs=true):D8 (c::cs)=true:=by rw[D8,h,k];rfl
theorem vag{cs cs':List V}(h:JO cs=cs'):G5 (.agg cs)=.agg cs':=by rw[G5,h]
theorem SJ{c:V}{cs:List V}(h:Hc c=true)(k:cs.all Hc=true):(c::cs).all Hc=true:=by rw[A7,h,k];rfl
theorem mvv{c c':V}{cs cs':List V}(h:G5 c=c')(k:cs.map G5=cs'):(c::cs).map G5=c'::cs':=by rw[AK,h,k]
theorem VT{c c':V}{cs cs':List V}(h:G5 c=c')(k:JO cs=cs'):JO (c::cs)=c'::cs':=by rw[JO,h,k]
theorem YE:∀(a b:List V),JO (a++b)=JO a++JO b
  |[],_=>rfl
  |c::a,b=>by rw[BN,JO,JO,YE a b,BN]
theorem WL{α:Type}{f g:α->List V}(h:∀x,JO (f x)=g x):∀l:List α,JO (l.flatMap f)=l.flatMap g
  |[]=>rfl
  |x::l=>by rw[Ay,Ay,YE,h,WL h l]
theorem N8{α:Type}{f g:α->List V}(h:∀x,JO (f x)=g x)(l:List α):G5 (.dat l.length (l.flatMap f))=.arg l.length (l.flatMap g):=by rw[G5,WL h]
theorem a6:∀{a b:List V},D8 a=true->D8 b=true->D8 (a++b)=true
  |[],_,_,h=>h
  |c::a,b,h,k=>by
    rw[D8,Ab]at h
    rw[BN,D8,h.1,a6 h.2 k];rfl
theorem YD{α:Type}{f:α->List V}(h:∀x,D8 (f x)=true):∀l:List α,D8 (l.flatMap f)=true
  |[]=>rfl
  |x::l=>by rw[Ay];exact a6 (h x) (YD h l)
theorem JN{α:Type}{f:α->List V}(h:∀x,D8 (f x)=true)(l:List α):Se (.dat l.length (l.flatMap f))=true:=YD h l
end Go.Proofs.YtckmdkajoiegmaaGreatDoor
namespace Go.Proofs.YtckmdkajoiegmaaGreatDoor
mutual
def frz:V->V
  |.own _ n cs=>.arg n (U7 cs)
  |.dat n cs=>.dat n cs
  |.arg n cs=>.arg n cs
  |.pin u n cs=>.pin u n cs
  |.int k n=>.int k n
  |.bool b=>.bool b
  |.str s=>.str s
  |.fn f=>.fn f
  |.tok u=>.tok u
  |_=>.undef
def U7:List V->List V
  |[]=>[]
  |c::cs=>frz c::U7 cs
end
theorem bM{cs:List V}(h:cs=[]):U7 cs=[]:=by subst h;rfl
section
variable {P:Program}{w:World}{St St':Nat->Nat->Prop}
mutual
theorem Ow.frz(hs:∀b o,St b o->St' b o):∀(c:V) {v:Value}{bs:List Nat},Ow P w St c v bs->c.C5=true->(∀g∈bs,∀o,St' g o)->Rd w St' (frz c) v
  |.int _ _,_,_,h,_,_=>h.2
  |.bool _,_,_,h,_,_=>h.2
  |.str _,_,_,h,_,_=>h.2
  |.dat n cs,_,_,h,_,_=>Rd.mono hs (λ_ _ _=>rfl) (.dat n cs) h.2
  |.arg n cs,_,_,h,_,_=>Rd.mono hs (λ_ _ _=>rfl) (.arg n cs) h.2
  |.pin u n cs,_,_,h,_,_=>Rd.mono hs (λ_ _ _=>rfl) (.pin u n cs) h.2
  |.own e n cs,v,bs,⟨hn,xs,bs',h1,h2,h3,h4,h5⟩,_,hg=>by
    have hl:=h1.1
    rcases h1.2 with⟨rfl,rfl⟩|⟨g,cap,cur,rfl,hg1,hh,hc,hm,hsz,hx⟩
    · exact⟨Bo hn,none,0,rfl,A9 _,λh=>absurd h (by omega),λhz=>bM (h5 hz)⟩
    · have hgo:=hg g (by rw[h3];simp[Value.ownBlock])
      refine⟨Bo hn,_,cap,rfl,hc,λ_=>⟨g,0,rfl,λ_=>hgo,?_⟩,λhz=>bM (h5 hz)⟩
      refine AY.frz hs cs 0 h2 hgo (λj u hu=>?_) (λg' hg'=>hg g' (by rw[h3];exact Aw _ hg'))
      have hj:j < n * PR P e:=by
        rw[<-hl]
        rcases BZ j xs.length with h|h
        · exact h
        · rw[AU h]at hu;cases hu
      rw[CL]
      simp only[World.cell?,hh]
      rw[<-hx,D2,AJ hj]at hu
      simpa using hu
  |.agg _,_,_,_,h,_=>by cases h
  |.tup _,_,_,_,h,_=>by cases h
  |.box _,_,_,h,_,_=>h.elim
  |.uni _ _ _,_,_,h,_,_=>h.elim
  |.same _,_,_,h,_,_=>h.elim
  |.val _ _,_,_,h,_,_=>h.elim
  |.cref _ _,_,_,h,_,_=>h.elim
  |.adr _ _,_,_,h,_,_=>h.elim
  |.gh _ _,_,_,h,_,_=>h.elim
  |.fn _,_,_,h,_,_=>h.2
  |.tok _,_,_,h,_,_=>h.2
  |.undef,_,_,h,_,_=>h.elim
theorem AY.frz(hs:∀b o,St b o->St' b o){g:Nat}:∀(cs:List V) (off:Nat) {us:List Value}{bs:List Nat},AY P w St cs us bs->(∀o,St' g o)->(∀(j:Nat) (u:Value),us[j]? =some u->w.cell? ⟨g,off+j,none⟩=some u)->(∀g∈bs,∀o,St' g o)->Da w St' g off (U7 cs)
  |[],_,_,_,_,_,_,_=>trivial
  |c::cs,off,_,_,⟨u,us',b1,b2,e1,e2,hc,h1,h2⟩,hgo,hu,hg=>by
    have h0:=hu 0 u (by rw[e1];rfl)
    refine⟨⟨hgo off,u,by simpa using h0,Ow.frz hs c h1 hc (λg' hg'=>hg g' (by rw[e2];exact AA _ hg'))⟩,AY.frz hs cs (off+1) h2 hgo (λj x hx=>?_) (λg' hg'=>hg g' (by rw[e2];exact Aw _ hg'))⟩
    have:=hu (j+1) x (by rw[e1];simpa using hx)
    rw[show off+1+j=off+(j+1)by omega];exact this
end
end
def u5(P:Program)(c c':V):Prop:=
  ∀w St (t:Nat->Value) v bs,Cb P w St t c v bs->bs.Nodup->∃fb b1:List Nat,(∀g∈fb,g∈bs)∧(∀g∈b1,g∈bs)∧b1.Nodup∧Cb P w (λb o=>St b o∨b∈fb) t c' v b1
section
variable {P:Program}{w:World}{St St':Nat->Nat->Prop}
end
section
variable {P:Program}{nt:Nat}{bx:List Nat}{σ:PS}{K:PS->Prop}
theorem ne{e:TypeId}{n:Nat}{cs:List V}:u5 P (.own e n cs) (.arg n (U7 cs)):=λw St t v bs h hn=>
  ⟨bs,[],λ_ h=>h,λ_ h=>(by cases h),Ax,⟨rfl,Ow.frz (λ_ _ h=>.inl h) (.own e n cs) h rfl (λg hg o=>.inr hg)⟩⟩
theorem jD{s:Nat}{c c':V}(hs:σ s=c)(F:u5 P c c')(hb:(CN c').isSome=(CN c).isSome)(hrf:DG c'=none)
    (h:Gh P nt bx (upd σ s c') K):Gh P nt bx σ K:=by
  rintro base St0 w0 a w ⟨St,B,hS,r1,r2,r3⟩
  have h1:=hS.slot s
  rw[hs]at h1
  obtain⟨fb,b1,q1,q2,q3,q4⟩:=F w St (tm a) (tm a s) (B s) h1 (hS.nodup s)
  have hB:∀r,r≠s->upd B s b1 r=B r:=λr e=>upd_ne _ _ e
  have hσ:∀r,r≠s->upd σ s c' r=σ r:=λr e=>upd_ne _ _ e
  have hin:∀r,∀g∈upd B s b1 r,g∈B r:=λr g hg=>by
    by_cases e:r=s
    · subst e;rw[upd_same]at hg;exact q2 g hg
    · rw[hB r e]at hg;exact hg
  refine h base St0 w0 a w ⟨λb o=>St b o∨b∈fb,upd B s b1,{hS with
    slot:=λr=>?_
    boxes:=λr cs e=>?_
    crefs:=λr b e=>?_
    nodup:=λr=>?_
    apart:=λr t hrt g hg hg2=>hS.apart r t hrt g (hin r g hg) (hin t g hg2)
    hapart:=λr g hg=>hS.hapart r g (hin r g hg)
    range:=λr g hg=>hS.range r g (hin r g hg)
    st:=λb o hbo=>hbo.elim (hS.st b o) (λhf=>(hS.range s b (q1 b hf)).2)
    gl:=hS.gl.of (λb hb o=>.inl (hb o)) (λ_ _ _=>rfl)},r1,λb o hbb=>⟨λhbo=>hbo.elim (r2 b o hbb).1 (λhf=>absurd hbb (hS.range s b (q1 b hf)).1),λh0=>.inl ((r2 b o hbb).2 h0)⟩,r3⟩
  · by_cases e:r=s
    · subst e;rw[upd_same,upd_same];exact q4
    · rw[hσ r e,hB r e]
      exact(hS.slot r).mono (λ_ _ h=>.inl h) (λ_ _ _=>rfl) (λg hg=>⟨rfl,λo=>⟨λh=>h.elim id (λhf=>absurd (q1 g hf) (hS.apart r s e g hg)),.inl⟩⟩) (λ_ _=>rfl)
  · by_cases e1:r=s
    · subst e1
      rw[upd_same]at e
      rw[e]at hb
      cases hx:CN c with
      |none=>rw[hx]at hb;cases hb
      |some ds=>exact hS.boxes r ds (by rw[hs];exact hx)
    · rw[hσ r e1]at e;exact hS.boxes r cs e
  · by_cases e1:r=s
    · subst e1;rw[upd_same,hrf]at e;cases e
    · rw[hσ r e1]at e
      obtain⟨cs,hc⟩:=hS.crefs r b e
      by_cases e2:b=s
      · subst e2
        rw[hs]at hc
        rw[upd_same]
        cases hx:CN c' with
        |none=>rw[hx,hc]at hb;cases hb
        |some ds=>exact⟨ds,rfl⟩
      · exact⟨cs,by rw[hσ b e2];exact hc⟩
  · by_cases e:r=s
    · subst e;rw[upd_same];exact q3
    · rw[hB r e];exact hS.nodup r
end
theorem bL:∀(a b:List V),U7 (a++b)=U7 a++U7 b
  |[],b=>rfl
  |c::a,b=>by rw[BN,U7,U7,bL a b,BN]
theorem YP{α:Type}{f g:α->List V}(h:∀x,U7 (f x)=g x):∀l:List α,U7 (l.flatMap f)=l.flatMap g
  |[]=>rfl
  |x::l=>by rw[Ay,Ay,bL,h,YP h l]
section
variable {P:Program}{nt:Nat}{bx:List Nat}{K:PS->Prop}{L:PL}{α:Type}{f g:α->List V}{l:List α}{e:TypeId}
theorem gFs{b:Nat}(hs:lk L b=some (.own e l.length (l.flatMap f)))(hf:∀x,U7 (f x)=g x)
    (h:K (Cd ((b,.arg l.length (l.flatMap g))::L))):Gh P nt bx (Cd L) K:=by
  rw[<-YP hf l]at h
  exact jD (CF hs) ne rfl rfl (Ke h)
end
end Go.Proofs.YtckmdkajoiegmaaGreatDoor
