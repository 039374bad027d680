/-
  A machine on data, part 2: code, the rules of the printed walks, loops. Over no program; no conditions.
-/
import Derived.Test.YthghcmmlmfgkbaaGreatDoorKq
open Go.RowKit
set_option linter.unusedVariables false
set_option linter.unusedSimpArgs false
namespace Go.Proofs.YthghcmmlmfgkbaaGreatDoor
section
theorem p2{α β:Type}{a a':α}{b b':β}(h:(a,b)=(a',b')):a=a'∧b=b':=Prod.mk.inj h
theorem p3{α β γ:Type}{a a':α}{b b':β}{c c':γ}(h:(a,b,c)=(a',b',c')):a=a'∧b=b'∧c=c':=⟨(p2 h).1,p2 (p2 h).2⟩
theorem p4{α β γ δ:Type}{a a':α}{b b':β}{c c':γ}{d d':δ}(h:(a,b,c,d)=(a',b',c',d')):a=a'∧b=b'∧c=c'∧d=d':=⟨(p2 h).1,p3 (p2 h).2⟩
theorem p5{α β γ δ ε:Type}{a a':α}{b b':β}{c c':γ}{d d':δ}{e e':ε}(h:(a,b,c,d,e)=(a',b',c',d',e')):a=a'∧b=b'∧c=c'∧d=d'∧e=e':=⟨(p2 h).1,p4 (p2 h).2⟩
section
variable {P:Program}{tb:Tb}{cns:zN}{σ:PS}{K:PS->Prop}{d s t:Nat}{x y z:Operand}
theorem FY{op:Op}{q:Nat}{e b:Bool}(g:e=b)(h:(gOp cns d op,σ q)=(true,.bool e))(k:F0 P tb cns ⟨some d,op,t,none⟩ σ K):F0 P tb cns ⟨some d,op,t,some (some q,b)⟩ σ K:=by
 subst g;obtain⟨h1,h2⟩:=p2 h;exact wQ h1 h2 k
theorem ed{o:LO}{os:List LO}{R W:zN}{fps:List (zN×zN)}(h:(UT R W o.op σ,adB cns R o σ)=(true,true))(k:F0 P tb cns o σ (λσ'=>VI P tb cns fps os σ' K)):VI P tb cns ((R,W)::fps) (o::os) σ K:=evd (p2 h).1 (p2 h).2 k
end
def vA(σ:PS):List (Nat×V)->List V
  |[]=>[]
  |(s,_)::L=>σ s::vA σ L
def vB:List (Nat×V)->List V
  |[]=>[]
  |(_,c)::L=>c::vB L
theorem Bb{σ:PS}:∀{L:List (Nat×V)},vA σ L=vB L->YA σ L
  |[],_=>trivial
  |(s,c)::L,h=>by
    injection h with h1 h2
    exact⟨h1 ▸ kr,Bb h2⟩
section
variable {P:Program}{nt:Nat}{bx:zN}{σ:PS}{Q:Exit->PS->Prop}{tb:Tb}{cns:zN}
theorem kp{l:LC}(L:List (Nat×V))(h1:vA σ L=vB L)(h2:okR L=true)(h:LS P nt bx l (Cv L) Q):LS P nt bx l σ Q:=G2 L (Bb h1) h2 h
theorem en{l:LC}(L:List (Nat×V))(h1:vA σ L=vB L)(h2:okR L=true)(h:LS P nt bx l (Cv L) Q):UQ P tb cns [] σ (λσ'=>LS P nt bx l σ' Q):=G2 L (Bb h1) h2 h
end
end
section
abbrev PL:=List (Nat×V)
def RF{α:Type}(b:Bool)(x:Option α):Option α:=match b with
  |true=>x
  |false=>none
theorem Dq{α:Type}{b:Bool}{x:Option α}{r:α}(h:RF b x=some r):b=true∧x=some r:=by
  cases b with
  |true=>exact⟨rfl,h⟩
  |false=>cases h
def tG:V->Option V
  |.int k n=>some (.int k n)
  |.bool b=>some (.bool b)
  |.str s=>some (.str s)
  |.own e n cs=>some (.own e n cs)
  |.dat n cs=>some (.dat n cs)
  |.arg n cs=>some (.arg n cs)
  |.pin u n cs=>some (.pin u n cs)
  |.fn f=>some (.fn f)
  |.tok u=>some (.tok u)
  |_=>none
def bu:List V->Option (List V)
  |[]=>some []
  |c::cs=>Ab (tG c) λa=>Ab (bu cs) λas=>some (a::as)
def tH:V->Option V
  |.agg cs=>Ab (bu cs) λas=>some (.agg as)
  |c=>tG c
def kP:List V->Option (List V)
  |[]=>some []
  |c::cs=>Ab (tH c) λa=>Ab (kP cs) λas=>some (a::as)
def UR:V->Option V
  |.tup cs=>Ab (kP cs) λas=>some (.tup as)
  |.box cs=>Ab (bu cs) λas=>some (.box as)
  |.cref s o=>some (.cref s o)
  |.adr cs o=>some (.adr cs o)
  |.same s=>some (.same s)
  |.val s u=>some (.val s u)
  |.uni e n cs=>some (.uni e n cs)
  |c=>tH c
theorem fM{c d:V}(h:tG c=some d):d=c:=by cases c<;>first|(cases h;rfl)|cases h
theorem V8:∀{cs ds:List V},bu cs=some ds->ds=cs
  |[],_,h=>by cases h;rfl
  |c::cs,_,h=>by
    rw[bu]at h
    obtain⟨a,h1,h⟩:=AK h
    obtain⟨as,h2,h⟩:=AK h
    cases h;rw[fM h1,V8 h2]
theorem fN{c d:V}(h:tH c=some d):d=c:=by
  cases c with
  |agg cs=>obtain⟨as,h2,h⟩:=AK (show Ab (bu cs) _=_ from h);cases h;rw[V8 h2]
  |_=>exact fM h
theorem fO:∀{cs ds:List V},kP cs=some ds->ds=cs
  |[],_,h=>by cases h;rfl
  |c::cs,_,h=>by
    rw[kP]at h
    obtain⟨a,h1,h⟩:=AK h
    obtain⟨as,h2,h⟩:=AK h
    cases h;rw[fN h1,fO h2]
theorem F7{c d:V}(h:UR c=some d):d=c:=by
  cases c with
  |tup cs=>obtain⟨as,h2,h⟩:=AK (show Ab (kP cs) _=_ from h);cases h;rw[fO h2]
  |box cs=>obtain⟨as,h2,h⟩:=AK (show Ab (bu cs) _=_ from h);cases h;rw[V8 h2]
  |cref s o=>cases h;rfl
  |adr s o=>cases h;rfl
  |same s=>cases h;rfl
  |val s u=>cases h;rfl
  |uni e n cs=>cases h;rfl
  |_=>exact fN h
def lk:PL->Nat->Option V
  |[],_=>none
  |(s,c)::L,q=>match Nat.beq q s with
    |true=>some c
    |false=>lk L q
theorem D8(s:Nat)(c:V)(L:PL):Cv ((s,c)::L)=upd (Cv L) s c:=rfl
theorem Nd:∀(L:PL) (q:Nat),Cv L q=(lk L q).getD .undef
  |[],_=>rfl
  |(s,c)::L,q=>by
    rw[lk,D8]
    cases h:Nat.beq q s with
    |true=>rw[CL h,upd_same];rfl
    |false=>rw[upd_ne _ _ (Nat.ne_of_beq_eq_false h)];exact Nd L q
theorem CT{L:PL}{q:Nat}{c:V}(h:lk L q=some c):Cv L q=c:=by rw[Nd,h];rfl
def OY(L:PL):Operand->Option V
  |.tmp s=>lk L s
  |.const v=>UR (cV v)
  |.func f=>some (.fn f)
  |_=>none
theorem DH{L:PL}{x:Operand}{c:V}(h:OY L x=some c):Co (Cv L) x=c:=by
  cases x with
  |tmp s=>exact CT h
  |const v=>exact(F7 h).symm
  |func f=>cases h;rfl
  |_=>cases h
def adO(L:PL):Operand->Option V
  |.tmp s=>Ab (lk L s) λc=>match c with
    |.box _=>some (.cref s 0)
    |c=>some c
  |.global g=>UR (bR g)
  |_=>none
theorem O3{L:PL}{x:Operand}{c:V}(h:adO L x=some c):KQ (Cv L) x=c:=by
  cases x with
  |tmp s=>
    obtain⟨a,h1,h⟩:=AK (show Ab (lk L s) _=_ from h)
    have:=CT h1
    simp only[KQ,this]
    cases a<;>(cases h;rfl)
  |global g=>exact(F7 h).symm
  |_=>cases h
def qe:V->Bool
  |.own .. =>true
  |_=>false
def qh:V->Bool
  |.agg cs=>cs.any qe
  |c=>qe c
def zA:V->Bool
  |.tup cs=>cs.any qh
  |c=>qh c
theorem qf{c:V}(h:qe c=false):QT c=c:=by cases c<;>first|rfl|cases h
theorem ci:∀{cs:List V},cs.any qe=false->cs.map QT=cs
  |[],_=>rfl
  |c::cs,h=>by
    rw[H0,BF]at h
    rw[AC,qf h.1,ci h.2]
theorem gL{c:V}(h:qh c=false):dg2 c=c:=by
  cases c with
  |agg cs=>rw[dg2,ci h]
  |_=>first|rfl|cases h
theorem cj:∀{cs:List V},cs.any qh=false->cs.map dg2=cs
  |[],_=>rfl
  |c::cs,h=>by
    rw[H0,BF]at h
    rw[AC,gL h.1,cj h.2]
theorem u7{c:V}(h:zA c=false):dg c=c:=by
  cases c with
  |tup cs=>rw[dg,cj h]
  |agg cs=>exact gL (c:=.agg cs) h
  |_=>first|rfl|cases h
theorem c5(σ:PS)(s:Nat):upd σ s (σ s)=σ:=by
  funext q
  by_cases e:q=s
  · rw[e,upd_same]
  · rw[upd_ne _ _ e]
def QH(L:PL)(x:Operand)(c:V):Option PL:=match x with
  |.tmp s=>match zA c with
    |false=>some L
    |true=>Ab (UR (dg c)) λc'=>some ((s,c')::L)
  |_=>some L
theorem Mm{L L':PL}{x:Operand}{c:V}(h:OY L x=some c)(h2:QH L x c=some L'):Cv L'=CO (Cv L) x:=by
  cases x with
  |tmp s=>
    have e:=CT h
    simp only[QH,CO]at h2⊢
    split at h2
    · rename_i ho
      cases h2
      rw[e,u7 ho,<-e,c5]
    · obtain⟨c',h3,h2⟩:=AK h2
      cases h2
      rw[F7 h3,D8,e]
  |_=>cases h2;rfl
def mvO(L:PL):Operand->Option V
  |.tmp s=>Ab (lk L s) λc=>match c with
    |.uni _ _ _=>some (.same s)
    |.same b=>some (.same b)
    |.box _=>some (.cref s 0)
    |.cref b o=>some (.cref b o)
    |c=>RF c.isVal (UR (dg c))
  |.const v=>Ab (UR (cV v)) λc=>RF c.isVal (UR (dg c))
  |_=>none
def We:Option TyD->Bool
  |some (.sc (.bool false))=>true
  |_=>false
def kEq:IntKind->IntKind->Bool
  |.i64,.i64=>true
  |.u8,.u8=>true
  |k,k'=>decide (k=k')
theorem ZO{k k':IntKind}(h:kEq k k'=true):k=k':=by
  cases k<;>cases k'<;>first|rfl|cases h
def ru(d:Option TyD):List V->List V->Bool
  |[.int k _,.int l _],[.int k' _,.int l' _]=>kEq k k'&&(kEq l l'&&d.elim false TyD.two)
  |_,_=>false
theorem rx{d:Option TyD}{a b:List V}(h:ru d a b=true):ry d a b:=by
  unfold ru at h
  split at h
  · rw[Aa,Aa]at h
    exact⟨ZO h.1,ZO h.2.1,h.2.2⟩
  · cases h
def oh(d:Option TyD):BinOp->V->V->Bool
  |.shl,.int _ _,.int _ b=>decide (0<=b)
  |.shr,.int _ _,.int _ b=>decide (0<=b)
  |.quo,.int k _,.int k' b=>kEq k k'&& !decide (b=0)
  |.rem,.int k _,.int k' b=>kEq k k'&& !decide (b=0)
  |_,.int k _,.int k' _=>kEq k k'
  |.eql,.str _,.str _=>true
  |.neq,.str _,.str _=>true
  |.lss,.str _,.str _=>true
  |.leq,.str _,.str _=>true
  |.gtr,.str _,.str _=>true
  |.geq,.str _,.str _=>true
  |.eql,.agg a,.agg b=>ru d a b
  |.neq,.agg a,.agg b=>ru d a b
  |.eql,.bool _,.bool _=>We d
  |.neq,.bool _,.bool _=>We d
  |_,_,_=>false
def unB:UnOp->V->Bool
  |.not,.bool _=>true
  |.neg,.int _ _=>true
  |_,_=>false
def cvB(tb:Tb)(s d:TypeId)(x:V):Option V:=match tb s,tb d,x with
  |some _,some (.sc (.int k _)),.int _ n=>some (.int k (k.wrap n))
  |_,_,_=>none
def bxL(L:PL)(s:Nat):Option (List V):=Ab (lk L s) CS
def lO(tb:Tb)(L:PL)(t:TypeId)(x:Operand):Option V:=Ab (tb t) λd=>Ab (adO L x) λc=>match c with
  |.cref s off=>Ab (bxL L s) λcs=>RF (Nat.ble (off+d.size) cs.length) (UR (getCells d cs off))
  |.adr cs off=>RF (Nat.ble (off+d.size) cs.length) (UR (getCells d cs off))
  |_=>none
def ptF(k:Nat):Value->Option V
  |.pointer (some ⟨g,o,none⟩)=>some (.tok (.pointer (some ⟨g,o+k,none⟩)))
  |_=>none
theorem vb{k:Nat}{u:Value}{v:V}(h:ptF k u=some v):pA u=true∧tokF k u=v:=by
  unfold ptF at h
  split at h
  · cases h;exact⟨rfl,rfl⟩
  · cases h
def faO(tb:Tb)(L:PL)(t:TypeId)(x:Operand)(f:Nat):Option V:=Ab (tb t) λd=>match d with
  |.st _ _ fs=>Ab (fs[f]?) λp=>Ab (adO L x) λc=>match c with
    |.cref s o=>Ab (bxL L s) λ_=>some (.cref s (o+p.1))
    |.adr cs o=>some (.adr cs (o+p.1))
    |.tok u=>ptF p.1 u
    |_=>none
  |_=>none
def zq(L:PL)(x:Operand):Option V:=Ab (adO L x) λc=>match c with
  |.cref s o=>Ab (bxL L s) λ_=>some (.cref s o)
  |.adr cs o=>some (.adr cs o)
  |_=>none
def Vm:Option TyD->Bool
  |some (.sc (.str []))=>true
  |_=>false
def bK:Option TyD->Bool
  |some (.sl ..)=>true
  |_=>false
def xr(L:PL)(d:Option TyD):V->Option V
  |.str s=>RF (Vm d) (some (.int .i64 s.length))
  |.same b=>Ab (lk L b) λc=>match c with
    |.uni _ n _=>RF (bK d) (some (.int .i64 n))
    |_=>none
  |c=>Ab (J7 c) λp=>RF (bK d) (some (.int .i64 p.1))
def aT(tb:Tb)(L:PL):Callee->List Operand->List TypeId->Option V
  |.builtin .len,[x],[t]=>Ab (OY L x) (xr L (tb t))
  |.builtin .max,[x,y],_=>Ab (OY L x) λa=>Ab (OY L y) λb=>match a,b with
    |.int k a,.int _ b=>some (.int k (if a < b then b else a))
    |_,_=>none
  |.builtin .min,[x,y],_=>Ab (OY L x) λa=>Ab (OY L y) λb=>match a,b with
    |.int k a,.int _ b=>some (.int k (if b < a then b else a))
    |_,_=>none
  |_,_,_=>none
def cy(tb:Tb)(L:PL):Op->Option V
  |.move x=>mvO L x
  |.pick c a b=>Ab (OY L c) λq=>match q with
    |.bool e=>match e with
      |true=>Ab (OY L a) λc=>RF c.isVal (UR (dg c))
      |false=>Ab (OY L b) λc=>RF c.isVal (UR (dg c))
    |_=>none
  |.binOp op t x y _=>Ab (OY L x) λa=>Ab (OY L y) λb=>RF (oh (tb t) op a b) (UR (dh op a b))
  |.unOp op _ x=>Ab (OY L x) λa=>RF (unB op a) (UR (unV op a))
  |.convert s d x=>Ab (OY L x) λa=>cvB tb s d a
  |.load t x=>lO tb L t x
  |.fieldAddr t x f=>faO tb L t x f
  |.call c=>aT tb L c.callee c.args.toList c.argTypes.toList
  |_=>none
theorem dU{d:Option TyD}(h:We d=true):d=some (.sc (.bool false)):=by
  unfold We at h
  split at h
  · rfl
  · cases h
theorem Vn{d:Option TyD}(h:Vm d=true):d=some (.sc (.str [])):=by
  unfold Vm at h
  split at h
  · rfl
  · cases h
theorem bL{d:Option TyD}(h:bK d=true):∃e es eb ez,d=some (.sl e es eb ez):=by
  unfold bK at h
  split at h
  · exact⟨_,_,_,_,rfl⟩
  · cases h
theorem ol{d:Option TyD}{op:BinOp}{a b:V}(h:oh d op a b=true):Zf d op a b:=by
  cases a<;>cases b<;>cases op<;>first|(cases h;done)|exact trivial|exact dU h|exact ZO h|exact rx h|(simp only[oh,AN]at h;exact h)|(simp only[oh,Aa,Ax,CI]at h;exact⟨ZO h.1,h.2⟩)
theorem vO{op:UnOp}{a:V}(h:unB op a=true):unC op a:=by
  cases a<;>cases op<;>first|(cases h;done)|exact trivial
theorem vR{σ:PS}{s:Nat}{c:V}(e:σ s=c)(h:c.isVal=true):mvC σ (.tmp s)∧mvV σ (.tmp s)=dg c:=by
  subst e
  simp only[mvC,mvV]
  cases hc:σ s<;>rw[hc]at h<;>first|(cases h;done)|exact⟨h,rfl⟩
theorem l7{L:PL}{x:Operand}{v:V}(h:mvO L x=some v):mvC (Cv L) x∧mvV (Cv L) x=v:=by
  cases x with
  |tmp s=>
    obtain⟨c,h1,h⟩:=AK (show Ab (lk L s) _=_ from h)
    have e:=CT h1
    cases c with
    |uni a b c=>cases h;simp only[mvC,mvV,e];exact⟨trivial,trivial⟩
    |same b=>cases h;simp only[mvC,mvV,e];exact⟨trivial,trivial⟩
    |box b=>cases h;simp only[mvC,mvV,e];exact⟨trivial,trivial⟩
    |cref b o=>cases h;simp only[mvC,mvV,e];exact⟨trivial,trivial⟩
    |_=>
      obtain⟨h2,h3⟩:=Dq h
      obtain⟨h4,h5⟩:=vR e h2
      exact⟨h4,h5.trans (F7 h3).symm⟩
  |const c=>
    obtain⟨c,h1,h⟩:=AK (show Ab (UR (cV c)) _=_ from h)
    obtain⟨h2,h3⟩:=Dq h
    have e:=F7 h1
    subst e
    exact⟨h2,(F7 h3).symm⟩
  |_=>cases h
theorem bT{tb:Tb}{L:PL}{t:TypeId}{x:Operand}{v:V}(h:lO tb L t x=some v):Q1 (tb t) (Cv L) (KQ (Cv L) x)∧Q2 (tb t) (Cv L) (KQ (Cv L) x)=v:=by
  obtain⟨d,h1,h⟩:=AK h
  obtain⟨c,h2,h⟩:=AK h
  rw[h1,O3 h2]
  simp only[Q1,Q2]
  cases c with
  |cref s off=>
    obtain⟨cs,h3,h⟩:=AK h
    obtain⟨h4,h⟩:=Dq h
    obtain⟨c,h5,h6⟩:=AK h3
    have:=CT h5
    simp only[R1,Uq,this,h6]
    exact⟨nb h4,(F7 h).symm⟩
  |adr cs off=>
    obtain⟨h4,h⟩:=Dq h
    exact⟨nb h4,(F7 h).symm⟩
  |_=>cases h
theorem kJ{tb:Tb}{L:PL}{t:TypeId}{x:Operand}{f:Nat}{v:V}(h:faO tb L t x f=some v):bg (tb t) f (Cv L) (KQ (Cv L) x)∧kK (tb t) f (KQ (Cv L) x)=v:=by
  obtain⟨d,h1,h⟩:=AK h
  cases d with
  |st n z fs=>
    obtain⟨p,h2,h⟩:=AK h
    obtain⟨c,h3,h⟩:=AK h
    rw[h1,O3 h3]
    simp only[bg,kK,h2]
    cases c with
    |cref s o=>
      obtain⟨cs,h4,h⟩:=AK h
      obtain⟨c,h5,h6⟩:=AK h4
      cases h
      have:=CT h5
      exact⟨⟨cs,by rw[this,h6]⟩,rfl⟩
    |adr cs o=>cases h;exact⟨trivial,rfl⟩
    |tok u=>exact vb h
    |_=>cases h
  |_=>cases h
theorem pX{L:PL}{x:Operand}{v:V}(h:zq L x=some v):faC (Cv L) (KQ (Cv L) x)∧KQ (Cv L) x=v:=by
  obtain⟨c,h3,h⟩:=AK h
  rw[O3 h3]
  cases c with
  |cref s o=>
    obtain⟨cs,h4,h⟩:=AK h
    obtain⟨c,h5,h6⟩:=AK h4
    cases h
    have:=CT h5
    exact⟨⟨cs,by rw[this,h6]⟩,rfl⟩
  |adr cs o=>cases h;exact⟨trivial,rfl⟩
  |_=>cases h
theorem ZP{L:PL}{d:Option TyD}{c v:V}{n:Nat}{cs:List V}(hs:J7 c=some (n,cs))(h:RF (bK d) (some (V.int .i64 n))=some v):Tg d (Cv L) c∧X5 (Cv L) c=v:=by
  obtain⟨h2,h⟩:=Dq h
  obtain⟨a,b,z,q,rfl⟩:=bL h2
  cases h
  cases c<;>first|(cases hs;done)|(cases hs;exact⟨trivial,rfl⟩)
theorem pB{L:PL}{d:Option TyD}{c v:V}(h:xr L d c=some v):Tg d (Cv L) c∧X5 (Cv L) c=v:=by
  cases c with
  |str s=>
    obtain⟨h1,h⟩:=Dq (show RF (Vm d) _=_ from h)
    cases h;exact⟨Vn h1,rfl⟩
  |same b=>
    obtain⟨c,h1,h⟩:=AK (show Ab (lk L b) _=_ from h)
    have:=CT h1
    cases c with
    |uni e n cs=>
      obtain⟨h2,h⟩:=Dq h
      obtain⟨a,b,c,z,rfl⟩:=bL h2
      cases h
      simp only[Tg,X5,this];exact⟨trivial,trivial⟩
    |_=>cases h
  |own e n cs=>exact ZP rfl h
  |dat n cs=>exact ZP rfl h
  |arg n cs=>exact ZP rfl h
  |pin u n cs=>exact ZP rfl h
  |_=>cases h
theorem WH{tb:Tb}{L:PL}{c:Callee}{xs:List Operand}{ts:List TypeId}{v:V}(h:aT tb L c xs ts=some v):Pp tb (Cv L) c xs ts∧Ni (Cv L) c xs=v:=by
  unfold aT at h
  split at h
  · obtain⟨a,h1,h⟩:=AK h
    simp only[Pp,Ni,DH h1]
    exact pB h
  · obtain⟨a,h1,h⟩:=AK h
    obtain⟨b,h2,h⟩:=AK h
    simp only[Pp,Ni,DH h1,DH h2]
    split at h
    · cases h;exact⟨trivial,rfl⟩
    · cases h
  · obtain⟨a,h1,h⟩:=AK h
    obtain⟨b,h2,h⟩:=AK h
    simp only[Pp,Ni,DH h1,DH h2]
    split at h
    · cases h;exact⟨trivial,rfl⟩
    · cases h
  · cases h
theorem UB{tb:Tb}{L:PL}{op:Op}{v:V}(h:cy tb L op=some v):pc tb (Cv L) op∧pv tb (Cv L) op=v:=by
  cases op with
  |move x=>exact l7 h
  |pick c a b=>
    obtain⟨q,h1,h⟩:=AK (show Ab (OY L c) _=_ from h)
    simp only[pc,pv,DH h1]
    cases q with
    |bool e=>
      cases e with
      |true=>
        obtain⟨c,h2,h⟩:=AK h
        obtain⟨h3,h⟩:=Dq h
        simp only[Xl,Xm,DH h2,ER];exact⟨h3,(F7 h).symm⟩
      |false=>
        obtain⟨c,h2,h⟩:=AK h
        obtain⟨h3,h⟩:=Dq h
        simp only[Xl,Xm,DH h2,Cm,Dz];exact⟨h3,(F7 h).symm⟩
    |_=>cases h
  |binOp op t x y t'=>
    obtain⟨a,h1,h⟩:=AK (show Ab (OY L x) _=_ from h)
    obtain⟨b,h2,h⟩:=AK h
    obtain⟨h3,h⟩:=Dq h
    simp only[pc,pv,DH h1,DH h2]
    exact⟨ol h3,(F7 h).symm⟩
  |unOp op t x=>
    obtain⟨a,h1,h⟩:=AK (show Ab (OY L x) _=_ from h)
    obtain⟨h3,h⟩:=Dq h
    simp only[pc,pv,DH h1]
    exact⟨vO h3,(F7 h).symm⟩
  |convert s d x=>
    obtain⟨a,h1,h⟩:=AK (show Ab (OY L x) _=_ from h)
    simp only[pc,pv,DH h1]
    unfold cvB at h
    split at h
    · rename_i h2 h3
      cases h
      simp only[Yi,Yj,h2,h3];exact⟨trivial,trivial⟩
    · cases h
  |load t x=>exact bT h
  |fieldAddr t x f=>exact kJ h
  |call c=>exact WH h
  |_=>cases h
def PH(L:PL)(g:Option (Option Nat×Bool))(d:Nat)(v:Option PL):Option PL:=match g with
  |none=>v
  |some (some q,b)=>Ab (lk L q) λc=>match c with
    |.bool e=>match e,b with
      |true,true=>v
      |false,false=>v
      |_,_=>some ((d,.tup [])::L)
    |.tup _=>some ((d,.tup [])::L)
    |_=>none
  |some (none,_)=>none
def oc(tb:Tb)(t:TypeId)(x:Operand)(d:Nat)(L:PL):Option PL:=match x with
  |.const (.slice none 0 0)=>Ab (tb t) λdd=>match dd with
    |.sl e _ _ _=>some ((d,.own e 0 [])::L)
    |_=>none
  |.const (.pointer none)=>some ((d,.undef)::L)
  |.tmp p=>Ab (lk L p) λc=>match c with
    |.box _=>some ((d,.cref p 0)::L)
    |.cref b o=>some ((d,.cref b o)::L)
    |c=>RF c.isVal (Ab (QH L (.tmp p) c) λL'=>some ((d,c)::L'))
  |.const v=>Ab (UR (cV v)) λc=>RF c.isVal (some ((d,c)::L))
  |_=>none
def loadT(tb:Tb)(t:TypeId)(x:Operand)(d:Nat)(L:PL):Option PL:=Ab (tb t) λdd=>Ab (adO L x) λa=>match a with
  |.cref s off=>Ab (lk L s) λc=>match c with
    |.box cs=>RF (Nat.ble (off+dd.size) cs.length) (Ab (UR (.box (NJ dd.size cs off))) λb=>Ab (UR (Po dd cs off)) λv=>some ((d,v)::(s,b)::L))
    |_=>none
  |.adr cs off=>RF (Nat.ble (off+dd.size) cs.length) (Ab (UR (getCells dd cs off)) λv=>some ((d,v)::L))
  |_=>none
def AaD(s i d:Nat)(L:PL):Option PL:=Ab (lk L s) λt=>match t with
  |.tup cs=>Ab (cs[i]?) λc=>RF (cs.all V.isArg) (Ab (UR (.tup (cs.set i (dg2 c)))) λt'=>some ((d,c)::(s,t')::L))
  |_=>none
def Abb(tb:Tb)(t:TypeId)(x y:Operand)(L:PL):Option PL:=Ab (tb t) λdd=>Ab (adO L x) λa=>match a with
  |.cref s off=>Ab (lk L s) λb=>match b with
    |.box cs=>Ab (OY L y) λc=>RF (c.isArg&&(Nat.beq (GJ c).length dd.size&&Nat.ble (off+dd.size) cs.length)) (Ab (QH L y c) λL'=>Ab (UR (.box (Mg cs off (GJ c)))) λb'=>some ((s,b')::L'))
    |_=>none
  |_=>none
def nbL(L:PL)(d:Nat):Bool:=match lk L d with
  |some c=>Do c
  |none=>true
theorem Xc{L:PL}{d:Nat}(h:nbL L d=true):Do (Cv L d)=true:=by
  unfold nbL at h
  rw[Nd]
  cases hl:lk L d with
  |none=>rfl
  |some c=>rw[hl]at h;exact h
def alO(tb:Tb)(t:TypeId)(d:Nat)(L:PL):Option PL:=Ab (tb t) λdd=>RF (nbL L d) (Ab (UR (.box (XT dd))) λb=>some ((d,b)::L))
def te(x:Operand)(d:Nat)(L:PL):Option PL:=Ab (OY L x) λc=>RF c.isArg (Ab (QH L x c) λL'=>RF (nbL L' d) (Ab (UR (.box (GJ c))) λb=>some ((d,b)::L')))
def bh(place:Nat->Option (Nat×Nat)):List (Nat×Operand)->PL->List V->Option (PL×List V)
  |[],L,cs=>some (L,cs)
  |(i,x)::r,L,cs=>Ab (place i) λp=>Ab (OY L x) λc=>RF (c.isArg&&(Nat.beq (GJ c).length p.2&&Nat.ble (p.1+p.2) cs.length)) (Ab (QH L x c) λL'=>bh place r L' (Mg cs p.1 (GJ c)))
theorem WQ{place:Nat->Option (Nat×Nat)}:∀{ps:List (Nat×Operand)}{L L':PL}{cs cs':List V},bh place ps L cs=some (L',cs')->OG place ps (Cv L) cs=some (Cv L',cs')
  |[],_,_,_,_,h=>by cases h;rfl
  |(i,x)::r,L,L',cs,cs',h=>by
    rw[bh]at h
    obtain⟨p,h1,h⟩:=AK h
    obtain⟨c,h2,h⟩:=AK h
    obtain⟨h3,h⟩:=Dq h
    obtain⟨L1,h4,h⟩:=AK h
    simp only[Aa]at h3
    rw[OG,h1]
    simp only
    rw[DH h2,Av ⟨h3.1,CL h3.2.1,nb h3.2.2⟩,<-Mm h2 h4]
    exact WQ h
def Aaw(tb:Tb)(t:TypeId)(ps:List (Nat×Operand))(d:Nat)(L:PL):Option PL:=Ab (tb t) λdd=>match dd with
  |.st _ z fs=>Ab (bh (λi=>fs[i]?) ps L z) λq=>Ab (UR (.agg q.2)) λc=>some ((d,c)::q.1)
  |_=>none
def LU(tb:Tb)(cns:zN)(o:LO)(L:PL):Option PL:=match o with
  |⟨some d,op,t,g⟩=>match op with
    |.assign x=>match g,cns.contains d with
      |none,false=>oc tb t x d L
      |_,_=>none
    |.move x=>match cns.contains d with
      |true=>(match g with
        |none=>oc tb t x d L
        |_=>none)
      |false=>PH L g d (Ab (mvO L x) λv=>some ((d,v)::L))
    |.load t x=>match cns.contains d with
      |true=>(match g with
        |none=>loadT tb t x d L
        |_=>none)
      |false=>PH L g d (Ab (lO tb L t x) λv=>some ((d,v)::L))
    |.extract (.tmp s) i=>match g with
      |none=>AaD s i d L
      |_=>none
    |.alloc t=>match g with
      |none=>alO tb t d L
      |_=>none
    |.box _ x=>match g with
      |none=>te x d L
      |_=>none
    |.build t ps=>PH L g d (Aaw tb t ps.toList d L)
    |.pick c a b=>PH L g d (Ab (cy tb L (.pick c a b)) λv=>some ((d,v)::L))
    |.binOp p t x y t'=>PH L g d (Ab (cy tb L (.binOp p t x y t')) λv=>some ((d,v)::L))
    |.unOp p t x=>PH L g d (Ab (cy tb L (.unOp p t x)) λv=>some ((d,v)::L))
    |.convert s t x=>PH L g d (Ab (cy tb L (.convert s t x)) λv=>some ((d,v)::L))
    |.fieldAddr t x f=>PH L g d (Ab (faO tb L t x f) λv=>some ((d,v)::L))
    |.nilCheck x=>PH L g d (Ab (zq L x) λv=>some ((d,v)::L))
    |.call c=>match c.callee with
      |.value (.func _)=>(match cns.contains d with
        |true=>none
        |false=>PH L g d none)
      |.value (.tmp _)=>none
      |.value (.const _)=>none
      |.value (.global _)=>none
      |_=>PH L g d (Ab (aT tb L c.callee c.args.toList c.argTypes.toList) λv=>some ((d,v)::L))
    |.index .. =>PH L g d none
    |.indexAddr .. =>PH L g d none
    |.slice .. =>PH L g d none
    |.buildSlice .. =>PH L g d none
    |.field .. =>PH L g d none
    |_=>none
  |⟨none,.store t x y,_,none⟩=>Abb tb t x y L
  |_=>none
section
variable {P:Program}{tb:Tb}{cns:zN}{L L':PL}{K:PS->Prop}{d:Nat}
theorem I1{op:Op}{t:TypeId}{g:Option (Option Nat×Bool)}{v:Option V}(hv:∀r,v=some r->pc tb (Cv L) op∧pv tb (Cv L) op=r)(h:PH L g d (Ab v λv=>some ((d,v)::L))=some L')(k:K (Cv L')):Jv tb ⟨some d,op,t,g⟩ (Cv L) K:=by
  have run:∀{L':PL},Ab v (λv=>some ((d,v)::L))=some L'->K (Cv L')->pc tb (Cv L) op∧K (upd (Cv L) d (pv tb (Cv L) op)):=by
    intro L' h k
    obtain⟨r,h1,h⟩:=AK h
    cases h
    obtain⟨h2,h3⟩:=hv r h1
    exact⟨h2,by rw[h3];exact k⟩
  unfold PH at h
  split at h
  · exact run h k
  · rename_i q b
    obtain⟨c,h1,h⟩:=AK h
    simp only[Jv,CT h1]
    cases c with
    |bool e=>
      cases e<;>cases b<;>simp only at h<;>first
        |exact⟨rfl,λ_=>run h k,λe=>by cases e⟩
        |(cases h;exact⟨rfl,(λe=>by cases e),λ_=>k⟩)
    |tup cs=>cases h;exact⟨rfl,(λe=>by cases e),λ_=>k⟩
    |_=>cases h
  · cases h
theorem Wb{o:LO}{g:Option (Option Nat×Bool)}{v:Option PL}{X:Prop}(ho:o.g=g)(hv:∀L',v=some L'->K (Cv L')->X)(h:PH L g d v=some L')(k:K (Cv L')):OM o d (Cv L) K X:=by
  subst ho
  unfold PH at h
  unfold OM
  split at h
  · rename_i e;rw[e];exact hv _ h k
  · rename_i q b e
    rw[e]
    obtain⟨c,h1,h⟩:=AK h
    simp only[CT h1]
    cases c with
    |bool e=>
      cases e<;>cases b<;>simp only at h<;>first
        |exact⟨rfl,λ_=>hv _ h k,λe=>by cases e⟩
        |(cases h;exact⟨rfl,(λe=>by cases e),λ_=>k⟩)
    |tup cs=>cases h;exact⟨rfl,(λe=>by cases e),λ_=>k⟩
    |_=>cases h
  · cases h
theorem eW{x:Operand}{o:LO}(h:oc tb o.ty x d L=some L')(k:K (Cv L')):OL tb o x d (Cv L) K:=by
  unfold oc at h
  split at h
  · obtain⟨dd,h1,h⟩:=AK h
    cases dd with
    |sl e es eb ez=>cases h;simp only[OL,h1];exact k
    |_=>cases h
  · cases h;simp only[OL];exact k
  · rename_i p
    obtain⟨c,h1,h⟩:=AK h
    have gen:RF c.isVal (Ab (QH L (.tmp p) c) λL'=>some ((d,c)::L'))=some L'->OL tb o (.tmp p) d (Cv L) K:=by
      intro h
      obtain⟨h2,h⟩:=Dq h
      obtain⟨L1,h3,h⟩:=AK h
      cases h
      have e:=Mm (x:=.tmp p) h1 h3
      rw[D8,e]at k
      exact od (CT h1) h2 (by rw[<-CT h1];simp only[CO]at k;rw[CT h1]at k⊢;exact k)
    cases c with
    |box cs=>cases h;simp only[OL,CT h1];exact k
    |cref b o=>cases h;simp only[OL,CT h1];exact k
    |_=>exact gen h
  · rename_i v hn hn2
    obtain⟨c,h1,h⟩:=AK h
    obtain⟨h2,h⟩:=Dq h
    cases h
    have e:=F7 h1
    subst e
    unfold OL
    split
    · rename_i he;injection he with he;exact absurd (by rw[he]) hn
    · rename_i he;injection he with he;exact absurd (by rw[he]) hn2
    · rename_i he;cases he
    · exact⟨h2,k⟩
  · cases h
theorem wD{t:TypeId}{cal:Callee}{args:Array Operand}{ts:Array TypeId}{g:Option (Option Nat×Bool)}{L L':PL}(h:PH L g d (Ab (aT tb L cal args.toList ts.toList) λv=>some ((d,v)::L))=some L')(k:K (Cv L')):Jv tb ⟨some d,.call ⟨cal,args,ts⟩,t,g⟩ (Cv L) K:=I1 (op:=.call ⟨cal,args,ts⟩) (λr hr=>WH hr) h k
theorem XM{o:LO}(h:LU tb cns o L=some L')(k:K (Cv L')):F0 P tb cns o (Cv L) K:=by
  obtain⟨dst,op,t,g⟩:=o
  cases dst with
  |none=>
    unfold LU at h
    split at h
    · rename_i he;cases he
    · rename_i t' x y ty he
      injection he with e1 e2 e3 e4
      subst e2 e4
      obtain⟨dd,h1,h⟩:=AK h
      obtain⟨a,h2,h⟩:=AK h
      cases a with
      |cref s off=>
        obtain⟨b,h3,h⟩:=AK h
        cases b with
        |box cs=>
          obtain⟨c,h4,h⟩:=AK h
          obtain⟨h5,h⟩:=Dq h
          obtain⟨L1,h6,h⟩:=AK h
          obtain⟨b',h7,h⟩:=AK h
          cases h
          simp only[Aa]at h5
          have e:=F7 h7
          subst e
          simp only[F0,ao,h1,O3 h2,CT h3,CS,Rr,DH h4]
          refine⟨trivial,h5.1,CL h5.2.1,nb h5.2.2,?_⟩
          rw[<-Mm h4 h6];exact k
        |_=>cases h
      |_=>cases h
    · cases h
  |some d=>
    cases op with
    |assign x=>
      simp only[LU]at h
      split at h
      · rename_i hc
        simp only[F0,hc,Cm,Dz]
        exact⟨trivial,eW (o:=⟨some d,.assign x,t,none⟩) h k⟩
      · cases h
    |move x=>
      simp only[LU]at h
      split at h
      · rename_i hc
        cases g with
        |none=>
          simp only[F0,hc,ER]
          exact⟨trivial,eW (o:=⟨some d,.move x,t,none⟩) h k⟩
        |some g=>cases h
      · rename_i hc
        simp only[F0,hc,Cm,Dz]
        exact I1 (λr hr=>l7 hr) h k
    |load s x=>
      simp only[LU]at h
      split at h
      · rename_i hc
        cases g with
        |none=>
          simp only[F0,hc,ER]
          refine⟨trivial,?_⟩
          obtain⟨dd,h1,h⟩:=AK h
          obtain⟨a,h2,h⟩:=AK h
          simp only[Up,h1,O3 h2]
          cases a with
          |cref b off=>
            obtain⟨c,h3,h⟩:=AK h
            cases c with
            |box cs=>
              obtain⟨h4,h⟩:=Dq h
              obtain⟨b',h5,h⟩:=AK h
              obtain⟨v,h6,h⟩:=AK h
              cases h
              rw[F7 h5,F7 h6]at k
              simp only[CT h3,CS,Rr]
              exact⟨nb h4,k⟩
            |_=>cases h
          |adr cs off=>
            obtain⟨h4,h⟩:=Dq h
            obtain⟨v,h6,h⟩:=AK h
            cases h
            rw[F7 h6]at k
            exact⟨nb h4,k⟩
          |_=>cases h
        |some g=>cases h
      · rename_i hc
        simp only[F0,hc,Cm,Dz]
        exact I1 (λr hr=>bT hr) h k
    |extract x i=>
      cases x with
      |tmp s=>
        cases g with
        |none=>
          simp only[LU]at h
          obtain⟨a,h1,h⟩:=AK h
          cases a with
          |tup cs=>
            obtain⟨c,h2,h⟩:=AK h
            obtain⟨h3,h⟩:=Dq h
            obtain⟨v,h4,h⟩:=AK h
            cases h
            rw[F7 h4]at k
            simp only[F0,be,CT h1,h2]
            exact⟨trivial,h3,k⟩
          |_=>cases h
        |some g=>cases h
      |_=>cases h
    |alloc s=>
      cases g with
      |none=>
        obtain⟨dd,h1,h⟩:=AK (show Ab (tb s) _=_ from h)
        obtain⟨h2,h⟩:=Dq h
        obtain⟨v,h4,h⟩:=AK h
        cases h
        rw[F7 h4]at k
        exact wP (Xc h2) h1 k
      |some g=>cases h
    |box ty x=>
      cases g with
      |none=>
        obtain⟨c,h1,h⟩:=AK (show Ab (OY L x) _=_ from h)
        obtain⟨h2,h⟩:=Dq h
        obtain⟨L1,h3,h⟩:=AK h
        obtain⟨h4,h⟩:=Dq h
        obtain⟨v,h5,h⟩:=AK h
        cases h
        rw[F7 h5]at k
        have e:=Mm h1 h3
        have h4:=Xc h4
        rw[e]at h4
        simp only[F0,boxS,DH h1]
        exact⟨trivial,h2,h4,by rw[<-e];exact k⟩
      |some g=>cases h
    |build s ps=>
      simp only[LU]at h
      simp only[F0]
      refine Wb rfl (λL1 h k=>?_) h k
      obtain⟨dd,h1,h⟩:=AK h
      cases dd with
      |st n z fs=>
        obtain⟨q,h2,h⟩:=AK h
        obtain⟨c,h3,h⟩:=AK h
        cases h
        rw[F7 h3]at k
        simp only[RJ,h1,WQ (L':=q.1) (cs':=q.2) h2]
        exact k
      |_=>cases h
    |pick c a b=>simp only[LU]at h;exact I1 (op:=.pick c a b) (λr hr=>UB hr) h k
    |binOp p t x y t'=>simp only[LU]at h;exact I1 (op:=.binOp p t x y t') (λr hr=>UB hr) h k
    |unOp p t x=>simp only[LU]at h;exact I1 (op:=.unOp p t x) (λr hr=>UB hr) h k
    |convert s t x=>simp only[LU]at h;exact I1 (op:=.convert s t x) (λr hr=>UB hr) h k
    |fieldAddr t x f=>simp only[LU]at h;exact I1 (op:=.fieldAddr t x f) (λr hr=>kJ hr) h k
    |nilCheck x=>simp only[LU]at h;exact I1 (op:=.nilCheck x) (λr hr=>pX hr) h k
    |index s x y=>simp only[LU]at h;exact I1 (op:=.index s x y) (v:=none) (λr hr=>by cases hr) h k
    |indexAddr s x y=>simp only[LU]at h;exact I1 (op:=.indexAddr s x y) (v:=none) (λr hr=>by cases hr) h k
    |slice s x lo hi m=>simp only[LU]at h;exact I1 (op:=.slice s x lo hi m) (v:=none) (λr hr=>by cases hr) h k
    |buildSlice s n ps=>simp only[LU]at h;simp only[F0];exact Wb rfl (λL1 h k=>by cases h) h k
    |field s x f=>simp only[LU]at h;simp only[F0];exact Wb rfl (λL1 h k=>by cases h) h k
    |call c=>
      obtain⟨cal,args,ts⟩:=c
      simp only[LU]at h
      cases cal with
      |value x=>
        cases x with
        |func f=>
          simp only at h
          cases hcd:cns.contains d with
          |true=>rw[hcd]at h;cases h
          |false=>
            rw[hcd]at h
            simp only at h
            show JZ P cns ⟨some d,.call ⟨.value (.func f),args,ts⟩,t,g⟩ f args.toList (Cv L) K
            unfold JZ
            rw[At (by simpa using hcd)]
            left
            unfold O5
            unfold PH at h
            cases g with
            |none=>cases h
            |some g=>
              obtain⟨q,b⟩:=g
              cases q with
              |none=>cases h
              |some q=>
                obtain⟨c,h1,h⟩:=AK (show Ab (lk L q) _=_ from h)
                simp only[CT h1]
                cases c with
                |bool e=>
                  cases e<;>cases b<;>simp only at h<;>first
                    |(cases h;done)
                    |(cases h;exact⟨rfl,(λe=>by cases e),λ_=>k⟩)
                |tup cs=>cases h;exact⟨rfl,(λe=>by cases e),λ_=>k⟩
                |_=>cases h
        |_=>cases h
      |builtin b=>
        have hp:Jv tb ⟨some d,.call ⟨.builtin b,args,ts⟩,t,g⟩ (Cv L) K:=I1 (op:=.call ⟨.builtin b,args,ts⟩) (λr hr=>WH hr) h k
        cases b with
        |append=>
          simp only[F0,RL]
          split
          · rename_i heq;cases heq
          · rename_i _ heq _ _
            injection heq with heq
            subst heq
            refine Wb rfl (λL1 h k=>?_) h k
            obtain⟨r,hr,_⟩:=AK h
            cases hr
          · exact hp
        |_=>exact hp
      |_=>exact wD h k
    |_=>cases h
end
def cW(tb:Tb)(cns:zN):Nat->List LO->PL->Option (List LO×PL)
  |0,os,L=>some (os,L)
  |_+1,[],_=>none
  |n+1,o::os,L=>Ab (LU tb cns o L) λL'=>cW tb cns n os L'
def og(L:PL)(R:zN)(p:Nat):Bool:=match lk L p with
  |some c=>Wx R c
  |none=>true
theorem eY{L:PL}{R:zN}{p:Nat}(h:og L R p=true):Wx R (Cv L p)=true:=by
  unfold og at h
  rw[Nd]
  cases hl:lk L p with
  |none=>rfl
  |some c=>rw[hl]at h;exact h
def j1(L:PL)(R W:zN)(p:Nat):Bool:=match lk L p with
  |some c=>aO R W p c
  |none=>true
theorem j2{L:PL}{R W:zN}{p:Nat}(h:j1 L R W p=true):aO R W p (Cv L p)=true:=by
  unfold j1 at h
  rw[Nd]
  cases hl:lk L p with
  |none=>rfl
  |some c=>rw[hl]at h;exact h
def d8(L:PL)(p:Nat):Bool:=match lk L p with
  |some c=>Uu c
  |none=>true
theorem jl{L:PL}{p:Nat}(h:d8 L p=true):Uu (Cv L p)=true:=by
  unfold d8 at h
  rw[Nd]
  cases hl:lk L p with
  |none=>rfl
  |some c=>rw[hl]at h;exact h
def td(L:PL)(p:Nat):Bool:=match lk L p with
  |some c=>ka c
  |none=>false
theorem ov{L:PL}{p:Nat}(h:td L p=true):ka (Cv L p)=true:=by
  unfold td at h
  rw[Nd]
  cases hl:lk L p with
  |none=>rw[hl]at h;cases h
  |some c=>rw[hl]at h;exact h
def tkL(L:PL)(p:Nat):Bool:=match lk L p with
  |some c=>lr c
  |none=>false
theorem vK{L:PL}{p:Nat}(h:tkL L p=true):lr (Cv L p)=true:=by
  unfold tkL at h
  rw[Nd]
  cases hl:lk L p with
  |none=>rw[hl]at h;cases h
  |some c=>rw[hl]at h;exact h
def stepD(tb:Tb)(cns:zN):Nat->List (zN×zN)->List LO->PL->Option (List (zN×zN)×List LO×PL)
  |0,fps,os,L=>some (fps,os,L)
  |n+1,(R,W)::fps,o::os,L=>RF ((adP o.op).all (og L R)&&((adC o.op).all (j1 L R W)&&((adS o.op).all (d8 L)&&(((adU cns o).all (og L R)&&(adT cns o).all (tkL L))&&(ptS cns).all (td L))))) (Ab (LU tb cns o L) λL'=>stepD tb cns n fps os L')
  |_+1,_,_,_=>none
def Yu(L:PL):zN->Option PL
  |[]=>some []
  |s::ss=>Ab (lk L s) λc=>Ab (Yu L ss) λL'=>some ((s,c)::L')
def Tf(L:PL)(ss:zN):Option PL:=Ab (Yu L ss) λL'=>RF (okR L') (some L')
theorem bM{L:PL}:∀{ss:zN}{L':PL},Yu L ss=some L'->YA (Cv L) L'
  |[],_,h=>by cases h;trivial
  |s::ss,_,h=>by
    rw[Yu]at h
    obtain⟨c,h1,h⟩:=AK h
    obtain⟨L1,h2,h⟩:=AK h
    cases h
    exact⟨(CT h1) ▸ kr,bM h2⟩
theorem bN{L L':PL}{ss:zN}(h:Tf L ss=some L'):YA (Cv L) L'∧okR L'=true:=by
  obtain⟨L1,h1,h⟩:=AK h
  obtain⟨h2,h⟩:=Dq h
  cases h
  exact⟨bM h1,h2⟩
def OQ:Nat->List V->PL
  |_,[]=>[]
  |i,c::cs=>(i,c)::OQ (i+1) cs
theorem dS:∀(args:List V) (i s:Nat),YA (λq=>(args[q - i]?).getD (.tup [])) (OQ i args)
  |[],_,_=>trivial
  |c::cs,i,s=>by
    refine⟨by simpa using kr,?_⟩
    have h:=dS cs (i+1) s
    have key:∀(L:PL) (f g:PS),(∀p∈L,f p.1=g p.1)->YA f L->YA g L:=by
      intro L f g
      induction L with
      |nil=>intro _ _;trivial
      |cons p L ih=>
        obtain⟨q,c⟩:=p
        intro he hk
        exact⟨by rw[<-he (q,c) (by simp)];exact hk.1,ih (λp hp=>he p (by simp[hp])) hk.2⟩
    have hlow:∀(cs:List V) (j:Nat),∀p∈OQ j cs,j<=p.1:=by
      intro cs
      induction cs with
      |nil=>intro j p hp;simp[OQ]at hp
      |cons c cs ih=>
        intro j p hp
        simp only[OQ,AB]at hp
        rcases hp with rfl|hp
        · exact AT _
        · have:=ih (j+1) p hp;omega
    refine key _ _ _ (λp hp=>?_) h
    have:=hlow cs (i+1) p hp
    rw[show p.1 - i=(p.1 - (i+1))+1 by omega,Ct]
section
variable {P:Program}{tb:Tb}{cns:zN}{L L':PL}{K:PS->Prop}{ops os:List LO}{fps fps':List (zN×zN)}
theorem XL:∀{n:Nat}{ops:List LO}{L:PL},cW tb cns n ops L=some (os,L')->UQ P tb cns os (Cv L') K->UQ P tb cns ops (Cv L) K
  |0,_,_,h,k=>by cases h;exact k
  |_+1,[],_,h,_=>by cases h
  |n+1,o::ops,L,h,k=>by
    rw[cW]at h
    obtain⟨L1,h1,h⟩:=AK h
    exact XM (K:=λσ'=>UQ P tb cns ops σ' K) h1 (XL h k)
theorem AU(n:Nat)(h:cW tb cns n ops L=some ([],L'))(k:K (Cv L')):UQ P tb cns ops (Cv L) K:=XL h k
theorem sp(n:Nat)(h:cW tb cns n ops L=some (os,L'))(k:UQ P tb cns os (Cv L') K):UQ P tb cns ops (Cv L) K:=XL h k
theorem cT:∀{n:Nat}{fps:List (zN×zN)}{ops:List LO}{L:PL},stepD tb cns n fps ops L=some (fps',os,L')->VI P tb cns fps' os (Cv L') K->VI P tb cns fps ops (Cv L) K
  |0,_,_,_,h,k=>by cases h;exact k
  |n+1,[],_,_,h,_=>by cases h
  |n+1,_::_,[],_,h,_=>by cases h
  |n+1,(R,W)::fps,o::ops,L,h,k=>by
    rw[stepD]at h
    obtain⟨h1,h⟩:=Dq h
    obtain⟨L1,h2,h⟩:=AK h
    simp only[Aa,Ah]at h1
    refine evd (by unfold UT;rw[Aa,Aa];exact⟨Ah.2 λp hp=>eY (h1.1 p hp),Ah.2 λp hp=>j2 (h1.2.1 p hp),Ah.2 λp hp=>jl (h1.2.2.1 p hp)⟩) (by unfold adB bxS;rw[Aa,Aa];exact⟨⟨Ah.2 λp hp=>eY (h1.2.2.2.1.1 p hp),Ah.2 λp hp=>vK (h1.2.2.2.1.2 p hp)⟩,Ah.2 λp hp=>ov (h1.2.2.2.2 p hp)⟩) ?_
    exact XM (K:=λσ'=>VI P tb cns fps ops σ' K) h2 (cT h k)
theorem sd(n:Nat)(h:stepD tb cns n fps ops L=some (fps',os,L'))(k:VI P tb cns fps' os (Cv L') K):VI P tb cns fps ops (Cv L) K:=cT h k
theorem lN{q:Nat}{c b:Bool}(e:c=b)(h:lk L q=some (.bool c)):Cv ((q,.bool b)::L)=Cv L:=by
  subst e
  rw[D8,<-CT h,c5]
theorem qg(q:Nat){c b:Bool}(e:c=b)(h:lk L q=some (.bool c))(k:UQ P tb cns ops (Cv ((q,.bool b)::L)) K):UQ P tb cns ops (Cv L) K:=by rw[lN e h]at k;exact k
theorem NV(q:Nat){c b:Bool}(e:c=b)(h:lk L q=some (.bool c))(k:VI P tb cns fps ops (Cv ((q,.bool b)::L)) K):VI P tb cns fps ops (Cv L) K:=by rw[lN e h]at k;exact k
end
section
variable {P:Program}{nt:Nat}{bx:zN}{l:LC}{Q:Exit->PS->Prop}{tb:Tb}{cns:zN}{L L':PL}
theorem qk(ss:zN)(h:Tf L ss=some L')(k:LS P nt bx l (Cv L') Q):LS P nt bx l (Cv L) Q:=G2 L' (bN h).1 (bN h).2 k
theorem qi(args:List V)(hr:okR (OQ 0 args)=true)(k:LS P nt bx l (Cv (OQ 0 args)) Q):LS P nt bx l (Fc args) Q:=G2 _ (dS args 0 0) hr k
end
section
variable {P:Program}{tb:Tb}{cns:zN}{L:PL}{K:PS->Prop}{d s t:Nat}{x y z:Operand}
def n8(L:PL)(x:Operand):Option V:=Ab (OY L x) λc=>RF c.isArg (some c)
theorem Sl{c:V}(h:n8 L x=some c):Co (Cv L) x=c∧c.isArg=true:=by
  obtain⟨c',h1,h⟩:=AK h
  obtain⟨h2,h⟩:=Dq h
  cases h
  exact⟨DH h1,h2⟩
theorem qa{c a:V}{xs:List Operand}{as:List V}(h1:n8 L x=some c)(h2:er c=a)(h3:erA (Cv L) xs as):erA (Cv L) (x::xs) (a::as):=era (by rw[(Sl h1).1];exact(Sl h1).2) (by rw[(Sl h1).1];exact h2) h3
def AaM:V->Bool
  |.int .. |.bool .. |.str .. |.fn .. =>true
  |_=>false
theorem qs{a:V}{xs:List Operand}{as:List V}(h1:Ab (n8 L x) (λc=>RF (AaM c) (some c))=some a)(h3:erA (Cv L) xs as):erA (Cv L) (x::xs) (a::as):=by
  obtain⟨c,h2,h⟩:=AK h1
  obtain⟨h4,h⟩:=Dq h
  cases h
  exact qa h2 (by cases a<;>first|rfl|cases h4) h3
theorem cnF(hc:cns.contains d=false):(some d).toList.any cns.contains=false:=by simpa using hc
theorem qC{f:FuncId}{args:Array Operand}{ts:Array TypeId}{as:List V}{r:V}(he:erA (Cv L) args.toList as)(hs:Ks P f as r)(k:K (Cv ((d,r)::L)))(hc:cns.contains d=false:=by rfl):F0 P tb cns ⟨some d,.call {callee:=.value (.func f),args:=args,argTypes:=ts},t,none⟩ (Cv L) K:=oS (cnF hc) he hs k
def iaO(tb:Tb)(L:PL)(s:TypeId)(x y:Operand):Option (Nat×List V×Int×Nat):=Ab (OY L x) λa=>Ab (J7 a) λp=>Ab (OY L y) λb=>match b with
  |.int _ i=>Ab (tb s) λdd=>match dd with
    |.sl _ es _ _=>some (p.1,p.2,i,es)
    |_=>none
  |_=>none
theorem qI{α:Type}{f:α->List V}{l:List α}{i:Int}{e:α}{n:Nat}(h:iaO tb L s x y=some (l.length,l.flatMap f,i,n))(hf:∀x,(f x).length=n)(hi:AZ l i=some e)(k:K (Cv ((d,.adr (f e++(l.drop (i.toNat+1)).flatMap f) 0)::L))):F0 P tb cns ⟨some d,.indexAddr s x y,t,none⟩ (Cv L) K:=by
  obtain⟨a,h1,h⟩:=AK h
  obtain⟨p,h2,h⟩:=AK h
  obtain⟨b,h3,h⟩:=AK h
  obtain⟨g1,g2,g3⟩:=Ea hi
  cases b with
  |int kk j=>
    obtain⟨dd,h4,h⟩:=AK h
    cases dd with
    |sl e' es eb ez=>
      simp only[Ap,B3]at h
      obtain⟨e1,e2,e3,e4⟩:=h
      subst e3 e4
      refine wR (n:=l.length) (cs:=l.flatMap f) (by rw[DH h1,h2];cases p;cases e1;cases e2;rfl) (DH h3) h4 ⟨g1,g2⟩ ?_
      have:=(kN hf g3 0).resolve_right (by omega)
      rw[Dt,Fi]at this
      rw[this];exact k
    |_=>cases h
  |_=>cases h
def Aa9(tb:Tb)(L:PL)(s:TypeId)(x y:Operand):Option (zU×Int):=Ab (OY L x) λa=>match a with
  |.str u=>Ab (OY L y) λb=>match b with
    |.int _ i=>RF (Vm (tb s)) (some (u,i))
    |_=>none
  |_=>none
theorem qX{u:zU}{i:Int}{b:UInt8}(h:Aa9 tb L s x y=some (u,i))(hi:AZ u i=some b)(k:K (Cv ((d,.int .u8 b.toNat)::L))):F0 P tb cns ⟨some d,.index s x y,t,none⟩ (Cv L) K:=by
  obtain⟨a,h1,h⟩:=AK h
  cases a with
  |str u'=>
    obtain⟨b',h3,h⟩:=AK h
    cases b' with
    |int kk j=>
      obtain⟨h4,h⟩:=Dq h
      cases h
      exact tx (DH h1) (DH h3) (Vn h4) hi k
    |_=>cases h
  |_=>cases h
def bdO(dflt:Int)(L:PL):Option Operand->Option Int
  |none=>some dflt
  |some x=>Ab (OY L x) OD
theorem Ze{dflt i:Int}{lo:Option Operand}(h:bdO dflt L lo=some i):RH dflt (lo.map (Co (Cv L)))=some i:=by
  cases lo with
  |none=>exact h
  |some x=>
    obtain⟨c,h1,h⟩:=AK (show Ab (OY L x) _=_ from h)
    simp only[B8,RH,DH h1];exact h
def Aba(tb:Tb)(L:PL)(s:TypeId)(x:Operand)(lo hi:Option Operand):Option (zU×Int×Int):=Ab (OY L x) λa=>match a with
  |.str u=>RF (Vm (tb s)) (Ab (bdO 0 L lo) λl=>Ab (bdO u.length L hi) λh=>some (u,l,h))
  |_=>none
theorem qSs{u:zU}{lo hi:Option Operand}{l h:Int}(hh:Aba tb L s x lo hi=some (u,l,h))(hb:0<=l∧l<=h∧h<=u.length)(k:K (Cv ((d,.str (Ef u l h))::L))):F0 P tb cns ⟨some d,.slice s x lo hi none,t,none⟩ (Cv L) K:=by
  obtain⟨a,h1,hh⟩:=AK hh
  cases a with
  |str u'=>
    obtain⟨h4,hh⟩:=Dq hh
    obtain⟨l',h5,hh⟩:=AK hh
    obtain⟨r',h6,hh⟩:=AK hh
    cases hh
    exact tA (DH h1) (Vn h4) (Ze h5) (Ze h6) hb k
  |_=>cases hh
def s8:V->Bool
  |.arg .. =>true
  |_=>false
theorem mt{a:V}(h:s8 a=false)(n:Nat)(cs:List V):VN a n cs=.dat n cs:=by cases a<;>first|rfl|cases h
def zY(tb:Tb)(L:PL)(b:Bool)(s:TypeId)(x:Operand)(lo hi:Option Operand):Option (Nat×List V×Nat×Int×Int):=Ab (OY L x) λa=>RF (s8 a==b) <| Ab (J7 a) λp=>Ab (tb s) λdd=>match dd with
  |.sl _ es _ _=>Ab (bdO 0 L lo) λl=>Ab (bdO p.1 L hi) λh=>some (p.1,p.2,es,l,h)
  |_=>none
theorem AaW{α:Type}{f:α->List V}{lst:List α}{n:Nat}{lo hi:Option Operand}{l h:Int}{b:Bool}(hh:zY tb L b s x lo hi=some (lst.length,lst.flatMap f,n,l,h))(hf:∀x,(f x).length=n)(hb:0<=l∧l<=h∧h<=lst.length)(k:∀a,s8 a=b->K (Cv ((d,VN a (Ef lst l h).length ((Ef lst l h).flatMap f))::L))):F0 P tb cns ⟨some d,.slice s x lo hi none,t,none⟩ (Cv L) K:=by
  obtain⟨a,h1,hh⟩:=AK hh
  obtain⟨hk,hh⟩:=Dq hh
  obtain⟨p,h2,hh⟩:=AK hh
  obtain⟨dd,h3,hh⟩:=AK hh
  cases dd with
  |sl e es eb ez=>
    obtain⟨l',h5,hh⟩:=AK hh
    obtain⟨r',h6,hh⟩:=AK hh
    simp only[Ap,B3]at hh
    obtain⟨e1,e2,e3,e4,e5⟩:=hh
    subst e3 e4 e5
    rw[e1]at h6
    exact tz (lst:=lst) (f:=f) (by rw[DH h1,h2];cases p;cases e1;cases e2;rfl) h3 hf (Ze h5) (Ze h6) hb (by rw[DH h1];exact k a (Dv hk))
  |_=>cases hh
theorem qSl{α:Type}{f:α->List V}{lst:List α}{n:Nat}{lo hi:Option Operand}{l h:Int}(hh:zY tb L false s x lo hi=some (lst.length,lst.flatMap f,n,l,h))(hf:∀x,(f x).length=n)(hb:0<=l∧l<=h∧h<=lst.length)(k:K (Cv ((d,.dat (Ef lst l h).length ((Ef lst l h).flatMap f))::L))):F0 P tb cns ⟨some d,.slice s x lo hi none,t,none⟩ (Cv L) K:=
  AaW hh hf hb λa ha=>by rw[mt ha];exact k
def Aav(L:PL)(x y:Operand):Option (V×V):=Ab (OY L x) λa=>Ab (OY L y) λb=>some (a,b)
theorem qB{op:BinOp}{ta tc:TypeId}{c1 c2 v:V}(h:Aav L x y=some (c1,c2))(hc:Zf (tb ta) op c1 c2)(hv:UR (dh op c1 c2)=some v)(k:K (Cv ((d,v)::L))):F0 P tb cns ⟨some d,.binOp op ta x y tc,t,none⟩ (Cv L) K:=by
  obtain⟨a,h1,h⟩:=AK h
  obtain⟨b,h2,h⟩:=AK h
  cases h
  rw[F7 hv]at k
  exact tr (DH h1) (DH h2) hc k
def s7(tb:Tb)(L:PL)(s:TypeId)(p q:Nat):Option (Nat×List V×Nat×Nat×List V×V×PL):=Ab (lk L p) λa=>match a with
  |.own e n cs=>Ab (QH L (.tmp p) (.own e n cs)) λL1=>Ab (lk L1 q) λc=>Ab (J7 c) λr=>Ab (QH L1 (.tmp q) c) λL2=>Ab (tb s) λdd=>match dd with
    |.sl e' es _ _=>RF (Nat.beq e e'&&c.isVal) (some (n,cs,es,r.1,r.2,c,L2))
    |_=>none
  |_=>none
theorem qA{α:Type}(f:α->List V)(l m:List α){es p q:Nat}{e:TypeId}{ds:List V}{c:V}{L2:PL}(h:s7 tb L s p q=some (l.length,l.flatMap f,es,m.length,ds,c,L2))(he:lk L p=some (.own e l.length (l.flatMap f)))(hd:ds.length=m.length * es)(ha:TW c=m.flatMap f)(hl:l.length+m.length<=lim)
    (k:K (Cv ((d,.own e (l++m).length ((l++m).flatMap f))::L2))):F0 P tb cns ⟨some d,.call {callee:=.builtin .append,args:= #[.tmp p,.tmp q],argTypes:= #[s,s]},t,none⟩ (Cv L) K:=by
  obtain⟨a,h1,h⟩:=AK h
  rw[he]at h1
  cases h1
  obtain⟨L1,h2,h⟩:=AK h
  obtain⟨c',h3,h⟩:=AK h
  obtain⟨r,h4,h⟩:=AK h
  obtain⟨L3,h5,h⟩:=AK h
  obtain⟨dd,h6,h⟩:=AK h
  cases dd with
  |sl e' es' eb ez=>
    dsimp only at h
    obtain⟨h7,h⟩:=Dq h
    simp only[Aa]at h7
    have e1:=CL h7.1
    have h:=DG h
    simp only[B3]at h
    obtain⟨_,_,e2,e3,e4,e5,e6⟩:=h
    subst e1 e2 e5 e6
    have t1:=Mm (x:=.tmp p) he h2
    have t2:=Mm (x:=.tmp q) h3 h5
    simp only[CO,CT he]at t1
    have t1':Cv L1=upd (Cv L) p (.dat l.length (l.flatMap f)):=t1
    refine tp (f:=f) (l:=l) (m:=m) (c2:=c') (ds:=ds) (CT he) (by rw[<-t1'];exact CT h3) (by rw[h4];cases r;cases e3;cases e4;rfl) hd h6 ha hl h7.2 ?_
    rw[D8,t2]at k
    simp only[CO,CT h3,t1']at k
    exact k
  |_=>cases h
theorem qAd{α:Type}(f g h':α->List V)(l m:List α){es p q:Nat}{e:TypeId}{ds:List V}{c:V}{L2:PL}(h:s7 tb L s p q=some (l.length,l.flatMap f,es,m.length,ds,c,L2))(he:lk L p=some (.own e l.length (l.flatMap f)))(hd:ds.length=m.length * es)(ha:TW c=m.flatMap h')(hl:l.length+m.length<=lim)(hf:∀x,(f x).map QT=g x)(hh:∀x,(h' x).map QT=g x)(hfc:∀x,(f x).all V.Ds=true)(hhc:∀x,(h' x).all V.Ds=true)
    (k:K (Cv ((d,.own e (l++m).length ((l++m).flatMap g))::L2))):F0 P tb cns ⟨some d,.call {callee:=.builtin .append,args:= #[.tmp p,.tmp q],argTypes:= #[s,s]},t,none⟩ (Cv L) K:=by
  obtain⟨a,h1,h⟩:=AK h
  rw[he]at h1
  cases h1
  obtain⟨L1,h2,h⟩:=AK h
  obtain⟨c',h3,h⟩:=AK h
  obtain⟨r,h4,h⟩:=AK h
  obtain⟨L3,h5,h⟩:=AK h
  obtain⟨dd,h6,h⟩:=AK h
  cases dd with
  |sl e' es' eb ez=>
    dsimp only at h
    obtain⟨h7,h⟩:=Dq h
    simp only[Aa]at h7
    have e1:=CL h7.1
    have h:=DG h
    simp only[B3]at h
    obtain⟨_,_,e2,e3,e4,e5,e6⟩:=h
    subst e1 e2 e5 e6
    have t1:=Mm (x:=.tmp p) he h2
    have t2:=Mm (x:=.tmp q) h3 h5
    simp only[CO,CT he]at t1
    have t1':Cv L1=upd (Cv L) p (.dat l.length (l.flatMap f)):=t1
    refine oR (f:=f) (g:=g) (h:=h') (l:=l) (m:=m) (c2:=c') (ds:=ds) (CT he) (by rw[<-t1'];exact CT h3) (by rw[h4];cases r;cases e3;cases e4;rfl) hd h6 ha hl h7.2 hf hh hfc hhc ?_
    rw[D8,t2]at k
    simp only[CO,CT h3,t1']at k
    exact k
  |_=>cases h
def bsO(tb:Tb)(L:PL)(s:TypeId)(n:Nat)(ps:List (Nat×Operand)):Option (TypeId×Nat×PL×List V):=Ab (tb s) λdd=>match dd with
  |.sl e es _ ez=>RF (Nat.ble (n * es) 16777216) (Ab (bh (λi=>some (i * es,es)) ps L (PM ez es n)) λq=>Ab (bu q.2) λcs=>some (e,es,q.1,cs))
  |_=>none
theorem EW{α:Type}(f:α->List V)(l:List α){e:TypeId}{es n:Nat}{ps:Array (Nat×Operand)}{L2:PL}{cs:List V}(h:bsO tb L s n ps.toList=some (e,es,L2,cs))(hn:l.length=n)(hc:cs=l.flatMap f)(hf:∀x,(f x).length=es)(k:K (Cv ((d,.own e l.length (l.flatMap f))::L2))):F0 P tb cns ⟨some d,.buildSlice s n ps,t,none⟩ (Cv L) K:=by
  obtain⟨dd,h1,h⟩:=AK h
  cases dd with
  |sl e' es' eb ez=>
    obtain⟨h2,h⟩:=Dq h
    obtain⟨q,h3,h⟩:=AK h
    obtain⟨cs',h4,h⟩:=AK h
    cases h
    have e1:=V8 h4
    subst hc
    simp only[F0,OM,aS,h1,WQ (L':=q.1) (cs':=q.2) h3]
    rw[<-e1]
    refine⟨nb h2,?_,?_⟩
    · rw[Bh hf,hn]
    · rw[hn]at k;exact k
  |_=>cases h
theorem qBk{α:Type}(f:α->List V)(l:List α)(e:TypeId)(es:Nat){n:Nat}{ps:Array (Nat×Operand)}(h:bsO tb L s n ps.toList=some (e,es,L,l.flatMap f))(hn:l.length=n)(hf:∀x,(f x).length=es)(k:K (Cv ((d,.own e l.length (l.flatMap f))::L))):F0 P tb cns ⟨some d,.buildSlice s n ps,t,none⟩ (Cv L) K:=EW f l h hn rfl hf k
def mkO(tb:Tb)(L:PL)(s:TypeId)(x y:Operand):Option (Int×Int×TypeId×Nat×List V):=Ab (OY L x) λa=>Ab (OY L y) λb=>match a,b with
  |.int _ n,.int _ m=>Ab (tb s) λdd=>match dd with
    |.sl e es _ ez=>some (n,m,e,es,ez)
    |_=>none
  |_,_=>none
theorem uK{n m:Int}{e:TypeId}{es:Nat}{ez:List V}(h:mkO tb L s x y=some (n,m,e,es,ez)):∃k0 k1 eb,Co (Cv L) x=.int k0 n∧Co (Cv L) y=.int k1 m∧tb s=some (.sl e es eb ez):=by
  obtain⟨a,h1,h⟩:=AK h
  obtain⟨b,h2,h⟩:=AK h
  cases a<;>first|(cases h;done)|skip
  cases b<;>first|(cases h;done)|skip
  obtain⟨dd,h3,h⟩:=AK h
  cases dd<;>first|(cases h;done)|skip
  cases h
  exact⟨_,_,_,DH h1,DH h2,h3⟩
theorem qMu{α:Type}(f:α->List V)(z:α){e:TypeId}{es:Nat}{ez:List V}{n:Int}(hc:cns.contains d=true)(h:mkO tb L s x y=some (n,n,e,es,ez))(hz:f z=ez)(hez:ez.length=es)(hn:0<=n∧n.toNat<=lim)(hb:nbL L d=true)(k:K (Cv ((d,.uni e (List.replicate n.toNat z).length ((List.replicate n.toNat z).flatMap f))::L))):F0 P tb cns ⟨some d,.makeSlice s x y,t,none⟩ (Cv L) K:=by
  obtain⟨k0,k1,eb,h1,h2,h3⟩:=uK h
  exact tw hc h1 h2 h3 hz hez hn (Xc hb) k
def bO(D:zN)(L:PL):PL:=L.map λp=>(p.1,if D.contains p.1=true then .undef else match DI p.2 with
  |some b=>if D.contains b=true then .undef else p.2
  |none=>p.2)
theorem Un(D:zN):∀L:PL,Cv (bO D L)=kill D (Cv L)
  |[]=>by funext s;simp[bO,Cv,kill,DI]
  |(q,c)::L=>by
    have ih:=Un D L
    funext s
    show Cv ((q,_)::bO D L) s=_
    rw[D8]
    by_cases e:s=q
    · subst e
      rw[upd_same]
      unfold kill
      rw[D8,upd_same]
      rfl
    · rw[upd_ne _ _ e,ih]
      unfold kill
      rw[D8,upd_ne _ _ e]
def frL:PL->Option PL
  |[]=>some []
  |(s,.undef)::L=>Ab (frL L) λL'=>some ((s,.undef)::L')
  |(s,c)::L=>Ab (UR c) λc=>Ab (frL L) λL'=>some ((s,c)::L')
theorem ZD:∀{L L':PL},frL L=some L'->L'=L
  |[],_,h=>by cases h;rfl
  |(s,c)::L,L',h=>by
    unfold frL at h
    split at h
    · rename_i he;cases he
    · rename_i he;cases he
      obtain⟨L1,h1,h⟩:=AK h
      cases h;rw[ZD h1]
    · rename_i he;cases he
      obtain⟨c1,h0,h⟩:=AK h
      obtain⟨L1,h1,h⟩:=AK h
      cases h;rw[ZD h1,F7 h0]
theorem qTu{e:TypeId}{n:Nat}{cs:List V}{L1:PL}(hc:cns.contains d=true)(h:lk L s=some (.uni e n cs))(hk:frL (bO [s] L)=some L1)(k:K (Cv ((d,.own e n cs)::(s,.dat n cs)::L1))):F0 P tb cns ⟨some d,.move (.tmp s),t,none⟩ (Cv L) K:=by
  rw[ZD hk]at k
  refine oT hc (CT h) ?_
  rw[<-Un];exact k
theorem qAu{e:TypeId}{n:Nat}{cs:List V}{L1:PL}(hc:cns.contains d=true)(h:lk L s=some (.uni e n cs))(hk:frL (bO [s] L)=some L1)(hn:nbL L1 d=true)(k:K (Cv ((d,.uni e n cs)::L1))):F0 P tb cns ⟨some d,.assign (.tmp s),t,none⟩ (Cv L) K:=by
  have e1:=ZD hk
  subst e1
  refine tq hc (CT h) (by rw[<-Un];exact Xc hn) ?_
  rw[<-Un];exact k
def iuO(tb:Tb)(L:PL)(s:TypeId)(x y:Operand):Option (Nat×Nat×Int×Nat):=Ab (OY L x) λa=>match a with
  |.same b=>Ab (lk L b) λu=>match u with
    |.uni _ n _=>Ab (OY L y) λc=>match c with
      |.int _ i=>Ab (tb s) λdd=>match dd with
        |.sl _ es _ _=>some (b,n,i,es)
        |_=>none
      |_=>none
    |_=>none
  |_=>none
theorem qIu{b n es:Nat}{i:Int}(h:iuO tb L s x y=some (b,n,i,es))(hi:0<=i∧i < n)(k:K (Cv ((d,.cref b (i.toNat * es))::L))):F0 P tb cns ⟨some d,.indexAddr s x y,t,none⟩ (Cv L) K:=by
  obtain⟨a,h1,h⟩:=AK h
  cases a<;>first|(cases h;done)|skip
  obtain⟨u,h2,h⟩:=AK h
  cases u<;>first|(cases h;done)|skip
  obtain⟨c,h3,h⟩:=AK h
  cases c<;>first|(cases h;done)|skip
  obtain⟨dd,h4,h⟩:=AK h
  cases dd<;>first|(cases h;done)|skip
  cases h
  exact tt (DH h1) (CT h2) (DH h3) h4 hi k
theorem qLu{α:Type}{f:α->List V}{n b m:Nat}(off:Nat){l:List α}{i:Int}{e:α}{et:TypeId}{dd:TyD}{v:V}(hc:cns.contains d=false)(hx:adO L x=some (.cref b (i.toNat * n+off)))(hb:lk L b=some (.uni et m (l.flatMap f)))(hf:∀x,(f x).length=n)(hi:AZ l i=some e)(ht:tb s=some dd)(ho:Nat.ble (off+dd.size) n=true)(hg:UR (getCells dd (f e) off)=some v)(k:K (Cv ((d,v)::L))):F0 P tb cns ⟨some d,.load s x,t,none⟩ (Cv L) K:=by
  rw[F7 hg]at k
  exact tv hc (O3 hx) (CT hb) hf hi ht (nb ho) rfl k
theorem qSu{ty:TypeId}{α:Type}{f:α->List V}{n b:Nat}{l:List α}{i:Int}(e:α){et:TypeId}{dd:TyD}{c1:V}{L1:PL}(hx:adO L x=some (.cref b (i.toNat * n)))(hb:lk L b=some (.uni et l.length (l.flatMap f)))(hf:∀x,(f x).length=n)(hi:0<=i∧i < l.length)(hy:OY L y=some c1)(ht:tb t=some dd)(ha:c1.isArg=true)(hn:n=dd.size)(hc:GJ c1=f e)(hL:QH L y c1=some L1)
    (k:K (Cv ((b,.uni et (DJ l i e).length ((DJ l i e).flatMap f))::L1))):F0 P tb cns ⟨none,.store t x y,ty,none⟩ (Cv L) K:=by
  refine tB (O3 hx) (CT hb) hf hi (DH hy) ht ha hn hc ?_
  rw[<-Mm hy hL];exact k
end
section
variable {P:Program}{nt:Nat}{bx:zN}{Q:Exit->PS->Prop}{L:PL}
theorem Ce{α:Type}{s:Nat}{x y:LC}{b:Bool}{u v:Option α}{r:α}(h:cond b u v=some r)(hb:lk L s=some (.bool b))(k1:u=some r->LS P nt bx x (Cv L) Q)(k2:v=some r->LS P nt bx y (Cv L) Q):LS P nt bx (.cond (.tmp s) x y) (Cv L) Q:=Ew h (λe h=>rW (CT hb) e (k1 h)) (λe h=>rV (CT hb) e (k2 h))
theorem qT{s:Nat}{x y:LC}{b:Bool}(hb:lk L s=some (.bool b))(e:b=true)(h:LS P nt bx x (Cv L) Q):LS P nt bx (.cond (.tmp s) x y) (Cv L) Q:=rW (CT hb) e h
theorem qF{s:Nat}{x y:LC}{b:Bool}(hb:lk L s=some (.bool b))(e:b=false)(h:LS P nt bx y (Cv L) Q):LS P nt bx (.cond (.tmp s) x y) (Cv L) Q:=rV (CT hb) e h
end
section
variable {P:Program}{tb:Tb}{cns:zN}{L:PL}{K:PS->Prop}{d s t:Nat}{x:Operand}
theorem qFd{f:Nat}(off:Nat){v:V}(hf:oV P s f=some off)(h:Ab (OY L x) (λa=>match a with
  |.agg cs=>Ab (cs[off]?) λc=>UR (QT c)
  |_=>none)=some v) (k:K (Cv ((d,v)::L))):F0 P tb cns ⟨some d,.field s x f,t,none⟩ (Cv L) K:=by
  obtain⟨a,h1,h⟩:=AK h
  cases a with
  |agg cs=>
    obtain⟨c,h2,h⟩:=AK h
    rw[F7 h]at k
    simp only[F0,OM,dC,hf,DH h1,h2]
    exact k
  |_=>cases h
end
def cR(tb:Tb)(cns:zN):List LO->PL->Option PL
  |[],L=>some L
  |o::os,L=>Ab (LU tb cns o L) λL'=>cR tb cns os L'
def mX(tb:Tb):Nat->LC->PL->Option (LC×PL)
  |0,l,L=>some (l,L)
  |n+1,.seq (.rgn cns ops) y,L=>Ab (cR tb cns ops L) λL'=>mX tb n y L'
  |_+1,_,_=>none
section
variable {P:Program}{nt:Nat}{bx:zN}{Q:Exit->PS->Prop}{tb:Tb}
theorem cS{cns:zN}{K:PS->Prop}:∀{ops:List LO}{L L':PL},cR tb cns ops L=some L'->K (Cv L')->UQ P tb cns ops (Cv L) K
  |[],_,_,h,k=>by cases h;exact k
  |o::ops,L,_,h,k=>by
    rw[cR]at h
    obtain⟨L1,h1,h⟩:=AK h
    exact XM (K:=λσ'=>UQ P tb cns ops σ' K) h1 (cS h k)
theorem ia(htb:IG P tb):∀{n:Nat}{l l':LC}{L L':PL},mX tb n l L=some (l',L')->LS P nt bx l' (Cv L') Q->LS P nt bx l (Cv L) Q
  |0,_,_,_,_,h,k=>by cases h;exact k
  |n+1,l,l',L,L',h,k=>by
    cases l with
    |seq a y=>
      cases a with
      |rgn cns ops=>
        obtain⟨L1,h1,h⟩:=AK (show Ab (cR tb cns ops L) (λL'=>mX tb n y L')=_ from h)
        exact lY htb (cS h1 (ia htb h k))
      |_=>exact absurd (show none=some _ from h) (by simp)
    |_=>exact absurd (show none=some _ from h) (by simp)
abbrev Jn(K:PS->Prop)(L:PL):Prop:=∀σ:PS,YA σ L->K σ
theorem lh{l:LC}{σ:PS}{L:PL}(hk:YA σ L)(h2:okR L=true)(h:LS P nt bx l (Cv L) Q):LS P nt bx l σ Q:=G2 L hk h2 h
end
def AaU(cns:zN)(o:LO):Bool:=match o.op,o.dst with
  |.move _,some d=> !cns.contains d
  |_,_=>false
def fpO(base:List (Nat×Nat))(cns:zN)(o:LO):zN×zN:=match spc cns o with
  |true=>([],o.dst.toList)
  |false=>
  let R:=QB o.op++match o.op with
    |.alloc _=>o.dst.toList
    |.call _=>o.dst.toList.filter cns.contains
    |_=>[]
  let R:=R++match AaU cns o with
    |true=>[]
    |false=>base.filterMap λp=>if R.contains p.1 then some p.2 else none
  (R++gT o,o.dst.toList++if simple cns o=true then base.filterMap (λp=>if(adC o.op).contains p.1 then some p.2 else none)else R)
def cnO:List (Nat×zN)->Nat->zN
  |[],_=>[]
  |(i,c)::r,id=>match Nat.beq id i with
    |true=>c
    |false=>cnO r id
def P7(base:List (Nat×Nat))(cn:List (Nat×zN)):Code->LC
  |.skip=>.skip
  |.region id ops d=>match d with
    |true=>.drw (cnO cn id) ((ops.toList.map (CG ops)).map (fpO base (cnO cn id))) (ops.toList.map SW) (ops.toList.map (CG ops))
    |false=>.rgn (cnO cn id) (ops.toList.map (CG ops))
  |.seq a b=>.seq (P7 base cn a) (P7 base cn b)
  |.cond c a b=>.cond c (P7 base cn a) (P7 base cn b)
  |.block id a=>.blk id (P7 base cn a)
  |.loop a=>.loop [] (P7 base cn a)
  |.exit id=>.exit id
  |.ret=>.ret
  |_=>.bad
theorem Q0(base:List (Nat×Nat))(cn:List (Nat×zN)):∀c:Code,IE c=UP (P7 base cn c)
  |.skip=>rfl
  |.region id ops d=>by cases d<;>simp[IE,P7,UP]
  |.seq a b=>by rw[IE,P7,UP,Q0 base cn a,Q0 base cn b]
  |.cond c a b=>by rw[IE,P7,UP,Q0 base cn a,Q0 base cn b]
  |.block id a=>by rw[IE,P7,UP,Q0 base cn a]
  |.loop a=>by rw[IE,P7,UP,Q0 base cn a]
  |.exit id=>rfl
  |.ret=>rfl
  |.rangeFunc .. =>rfl
  |.scope .. =>rfl
  |.label .. =>rfl
  |.goto .. =>rfl
  |.refuse .. =>rfl
def cdF(f:Func):Code:=match f.body with
  |some c=>c
  |none=>.skip
def wI(bx:zN)(base:List (Nat×Nat))(cn:List (Nat×zN))(fn:Func):Bool:=
  fn.body.isSome&&((fn.name== "runtime.NumGoroutine")==false&&(okC fn.ntmps bx (cdF fn)&&(decide (fn.results.toList.map JL).Nodup&&okL bx (P7 base cn (cdF fn)))))
theorem BL{P:Program}{f:Nat}{fn:Func}{bx:zN}{base:List (Nat×Nat)}{cn:List (Nat×zN)}(h1:P.funcs[f]? =some fn)(h2:wI bx base cn fn=true:=by kernel_rfl):Lit P f fn.ntmps bx fn.results.toList (P7 base cn (cdF fn)):=by
  simp only[wI,Aa]at h2
  obtain⟨h2,h3,h4,h5,h6⟩:=h2
  obtain⟨c,hc⟩:=FD.1 h2
  refine⟨⟨fn,c,h1,hc,Dv h3,rfl,rfl,?_,?_⟩,Dj h5,h6⟩
  · rw[<-Q0];unfold cdF;rw[hc]
  · unfold cdF at h4;rw[hc]at h4;exact h4
end
section
theorem GA{S O:Type}{body:(S->Option O)->S->Option O}{out:O}(f:Nat->S):∀(n:Nat),(∀k,k < n->∀rec,body rec (f k)=rec (f (k+1)))->(∀rec,body rec (f n)=some out)->∀m,n < m->Au body m (f 0)=some out:=by
  have key:∀(d n:Nat),(∀k,k < n->∀rec,body rec (f k)=rec (f (k+1)))->(∀rec,body rec (f n)=some out)->∀k,k+d=n->∀m,d < m->Au body m (f k)=some out:=by
    intro d n h1 h2
    induction d with
    |zero=>
      intro k hk m hm
      cases m with
      |zero=>omega
      |succ m=>rw[show k=n by omega];exact h2 _
    |succ d ih=>
      intro k hk m hm
      cases m with
      |zero=>omega
      |succ m=>
        show body (Au body m) (f k)=some out
        rw[h1 k (by omega)]
        exact ih (k+1) (by omega) m (by omega)
  intro n h1 h2 m hm
  exact key n n h1 h2 0 (by omega) m hm
theorem wrap_in{n:Int}(h: -9223372036854775808<=n∧n<=9223372036854775807):wZ n=n:=by
  (try unfold wZ)<;>unfold IntKind.wrap
  simp[IntKind.signed,IntKind.bits]<;>omega
theorem BG{k n:Nat}(h:k < n)(hn:n<=maxLen):wZ ((k:Int)+1)=((k+1:Nat):Int):=by
  rw[wrap_in (by unfold maxLen at hn;omega)];simp
theorem Qp{α:Type}(l:List α)(k:Nat):AZ l (k:Int)=l[k]?:=by simp[AZ]
theorem Bd{α:Type}{l:List α}{k:Nat}(h:k < l.length):AZ l (k:Int)=some l[k]:=by rw[Qp,Ac h]
theorem Ho{n:Nat}(h:n<=lim):n < fz:=by unfold lim at h;unfold fz;omega
theorem AX{α:Type}{p:Prop}[Decidable p]{x:Option α}(h:p):chk p x=x:=by unfold chk;rw[Av h]
end
section
def Z3(u:Value):V->V
  |.own _ n cs=>.pin u n (Mz cs)
  |c=>c
def W6:V->Bool
  |.own _ _ _=>true
  |_=>false
def jf:V->Bool
  |.int _ _=>true
  |.bool _=>true
  |.str _=>true
  |_=>false
def Lc:List V->Bool
  |[]=>false
  |c::cs=>(W6 c&&cs.all jf) || (jf c&&Lc cs)
def E0:List V->V
  |[]=>.undef
  |c::cs=>match c with
    |.own e n ds=>.own e n ds
    |_=>E0 cs
section
variable {P:Program}{w:World}{St:Nat->Nat->Prop}
theorem nl{c:V}{v:Value}{b:zN}(hs:jf c=true)(h:Ow P w St c v b):b=[]:=by
  cases c<;>first|exact h.1|cases hs
theorem eH{c:V}(u:Value)(hs:jf c=true):Z3 u c=c:=by cases c<;>first|rfl|cases hs
theorem eI:∀{cs:List V}{us:List Value}{b:zN},cs.all jf=true->A7 P w St cs us b->b=[]
  |[],_,_,_,h=>h.2
  |c::cs,_,_,hs,⟨u,us',b1,b2,e1,e2,hc,h1,h2⟩=>by
    simp only[Bz,Aa]at hs
    rw[e2,nl hs.1 h1,eI hs.2 h2];rfl
theorem ae:∀{cs:List V}(u:Value),cs.all jf=true->cs.map (Z3 u)=cs
  |[],_,_=>rfl
  |c::cs,u,hs=>by
    simp only[Bz,Aa]at hs
    rw[AC,eH u hs.1,ae u hs.2]
theorem qj{e:TypeId}{n:Nat}{cs:List V}{u:Value}{b:zN}(h:Ow P w St (.own e n cs) u b):Ow P w St (.pin u n (Mz cs)) u []:=by
  have:=Rd.erase _ (Ow.rd (.own e n cs) h rfl)
  exact⟨rfl,rfl,this⟩
theorem iG:∀{ds:List V},Lc ds=true->∃e n cs,E0 ds=.own e n cs
  |[],h=>by cases h
  |c::cs,h=>by
    simp only[Lc,BP,Aa]at h
    rcases h with⟨h1,h2⟩|⟨h1,h2⟩
    · cases c<;>first|exact⟨_,_,_,rfl⟩|cases h1
    · obtain⟨e,n,cs',e1⟩:=iG h2
      cases c<;>first|(cases h1;done)|exact⟨e,n,cs',e1⟩
theorem YF:∀{ds:List V}{xs:List Value}{b:zN},Lc ds=true->A7 P w St ds xs b->∃u,Ow P w St (E0 ds) u b∧A7 P w St (ds.map (Z3 u)) xs []
  |[],_,_,h,_=>by cases h
  |c::cs,_,_,h,⟨u,us',b1,b2,e1,e2,hc,h1,h2⟩=>by
    simp only[Lc,BP,Aa]at h
    rcases h with⟨g1,g2⟩|⟨g1,g2⟩
    · have hb:=eI g2 h2
      subst hb
      rw[AY]at e2
      subst e2
      cases c<;>first|(cases g1;done)|skip
      refine⟨u,h1,?_⟩
      rw[AC,ae u g2]
      exact⟨u,us',[],[],e1,rfl,rfl,qj h1,h2⟩
    · have hb:=nl g1 h1
      subst hb
      rw[Bl]at e2
      subst e2
      obtain⟨u',h3,h4⟩:=YF g2 h2
      refine⟨u',?_,?_⟩
      · cases c<;>first|(cases g1;done)|exact h3
      · rw[AC,eH u' g1]
        exact⟨u,us',[],[],e1,rfl,hc,h1,h4⟩
theorem b9:∀{ds:List V}{xs:List Value}{b0 b:zN}{u:Value},Lc ds=true->A7 P w St (ds.map (Z3 u)) xs b0->Ow P w St (E0 ds) u b->A7 P w St ds xs b
  |[],_,_,_,_,h,_,_=>by cases h
  |c::cs,_,_,b,u,h,⟨u',us',b1,b2,e1,e2,hc,h1,h2⟩,ht=>by
    simp only[Lc,BP,Aa]at h
    rcases h with⟨g1,g2⟩|⟨g1,g2⟩
    · cases c<;>first|(cases g1;done)|skip
      have hu:u'=u:=h1.2.1
      subst hu
      change A7 P w St (cs.map (Z3 u')) us' b2 at h2
      rw[ae u' g2]at h2
      have hb:=eI g2 h2
      subst hb
      exact⟨u',us',b,[],e1,by simp,rfl,ht,h2⟩
    · have ht':Ow P w St (E0 cs) u b:=by cases c<;>first|(cases g1;done)|exact ht
      change Ow P w St (Z3 u c) u' b1 at h1
      rw[eH u g1]at h1
      have hb:=nl g1 h1
      subst hb
      have h3:=b9 g2 h2 ht'
      have hcc:c.Ds=true:=by cases c<;>first|rfl|cases g1
      exact⟨u',us',[],b,e1,by simp,hcc,h1,h3⟩
end
def BW{α:Type}(k:Nat):List α->List (Nat×α)
  |[]=>[]
  |x::l=>(k,x)::BW (k+1) l
def pE{α:Type}(f:α->List V)(U:Nat->Value)(p:Nat×α):List V:=(f p.2).map (Z3 (U p.1))
def mE{α:Type}(f:α->List V)(U:Nat->Value):Nat×α ⊕ α->List V
  |.inl p=>pE f U p
  |.inr x=>f x
def getM{α:Type}:Nat×α ⊕ α->α
  |.inl p=>p.2
  |.inr x=>x
def ZU{α:Type}[BEq α](l:List α):List (Nat×α ⊕ α)->zN->Bool
  |[],_=>true
  |.inl p::L,seen=>(match l[p.1]? with
    |some x=>x==p.2
    |none=>false)&& !seen.contains p.1&&ZU l L (p.1::seen)
  |.inr _::L,seen=>ZU l L seen
section
variable {P:Program}{w:World}{St:Nat->Nat->Prop}{α:Type}{f:α->List V}
theorem cg(h1:∀x,Lc (f x)=true):∀(l:List α) (k:Nat) {xs:List Value}{bs:zN},A7 P w St (l.flatMap f) xs bs->
    ∃us:List Value,us.length=l.length∧A7 P w St (l.map λx=>E0 (f x)) us bs∧∀U:Nat->Value,(∀i,i < l.length->U (k+i)=us.getD i undef)->A7 P w St ((BW k l).flatMap (pE f U)) xs []
  |[],k,_,_,h=>⟨[],rfl,⟨rfl,h.2⟩,λU _=>⟨h.1,rfl⟩⟩
  |x::l,k,xs,bs,h=>by
    rw[AH]at h
    obtain⟨xs1,xs2,b1,b2,rfl,rfl,r1,r2⟩:=h.app
    obtain⟨u,h3,h4⟩:=YF (h1 x) r1
    obtain⟨us,hl,h5,h6⟩:=cg h1 l (k+1) r2
    obtain⟨e,n,cs,et⟩:=iG (h1 x)
    refine⟨u::us,by simp[hl],⟨u,us,b1,b2,rfl,rfl,by show(E0 (f x)).Ds=true;rw[et];rfl,h3,h5⟩,λU hU=>?_⟩
    have hu:U k=u:=by have:=hU 0 (by simp);simpa using this
    rw[BW,AH]
    have:=A7.join (b1:=[]) (b2:=[]) (show A7 P w St (pE f U (k,x)) xs1 []by unfold pE;rw[hu];exact h4) (h6 U (λi hi=>by
      have:=hU (i+1) (by simp;omega)
      have e:k+1+i=k+(i+1):=by omega
      rw[e,this];simp))
    exact this
theorem QE:∀{cs:List V}{us:List Value}{bs:zN},A7 P w St cs us bs->bs.Nodup->∃β:Nat->zN,(∀i c u,cs[i]? =some c->us[i]? =some u->Ow P w St c u (β i))∧(∀i,∀g∈β i,g∈bs)∧(∀i,(β i).Nodup)∧∀i j,i≠j->∀g∈β i,g∉β j
  |[],_,_,h,_=>⟨λ_=>[],by simp,by simp,λ_=>AG,by simp⟩
  |c::cs,_,_,⟨u,us',b1,b2,e1,e2,hc,h1,h2⟩,hn=>by
    subst e1 e2
    obtain⟨n1,n2,n3⟩:=Aq.1 hn
    obtain⟨β,k1,k2,k3,k4⟩:=QE h2 n2
    refine⟨λi=>match i with|0=>b1|i+1=>β i,?_,?_,?_,?_⟩
    · intro i c' u' hc' hu'
      cases i with
      |zero=>simp only[B6,Ap]at hc' hu';subst hc' hu';exact h1
      |succ i=>exact k1 i c' u' (by simpa using hc') (by simpa using hu')
    · intro i g hg
      cases i with
      |zero=>exact Az _ hg
      |succ i=>exact Ar _ (k2 i g hg)
    · intro i
      cases i with
      |zero=>exact n1
      |succ i=>exact k3 i
    · intro i j hij g hg hg'
      cases i with
      |zero=>
        cases j with
        |zero=>exact hij rfl
        |succ j=>exact n3 g hg g (k2 j g hg') rfl
      |succ i=>
        cases j with
        |zero=>exact n3 g hg' g (k2 i g hg) rfl
        |succ j=>exact k4 i j (by omega) g hg hg'
theorem gK[BEq α][LawfulBEq α](h1:∀x,Lc (f x)=true){l:List α}{us:List Value}{bs:zN}(ht:A7 P w St (l.map λx=>E0 (f x)) us bs)(hn:bs.Nodup){U:Nat->Value}(hU:∀i,i < l.length->U i=us.getD i undef):
    ∀(L:List (Nat×α ⊕ α)) {xs:List Value}{b0:zN},ZU l L []=true->A7 P w St (L.flatMap (mE f U)) xs b0->b0.Nodup->(∀g∈b0,g∉bs)->∃b',A7 P w St ((L.map getM).flatMap f) xs b'∧b'.Nodup∧∀g∈b',g∈b0∨g∈bs:=by
  obtain⟨β,k1,k2,k3,k4⟩:=QE ht hn
  have hlen:=ht.length
  rw[Ak]at hlen
  have key:∀(L:List (Nat×α ⊕ α)) (seen:zN) {xs:List Value}{b0:zN},ZU l L seen=true->A7 P w St (L.flatMap (mE f U)) xs b0->b0.Nodup->(∀g∈b0,g∉bs)->
      ∃b',A7 P w St ((L.map getM).flatMap f) xs b'∧b'.Nodup∧(∀g∈b',g∈b0∨g∈bs)∧∀i∈seen,∀g∈β i,g∉b':=by
    intro L
    induction L with
    |nil=>
      intro seen xs b0 _ h hnb hd
      exact⟨[],⟨h.1,rfl⟩,AG,by simp,by simp⟩
    |cons p L ih=>
      intro seen xs b0 hok h hnb hd
      rw[AH]at h
      obtain⟨xs1,xs2,b1,b2,rfl,rfl,r1,r2⟩:=h.app
      obtain⟨n1,n2,n3⟩:=Aq.1 hnb
      cases p with
      |inr x=>
        simp only[ZU]at hok
        obtain⟨b',q1,q2,q3,q4⟩:=ih seen hok r2 n2 (λg hg=>hd g (Ar _ hg))
        refine⟨b1++b',?_,?_,?_,?_⟩
        · rw[AC,AH];exact A7.join r1 q1
        · refine Aq.2 ⟨n1,q2,λa ha b hb e=>?_⟩
          subst e
          rcases q3 a hb with h|h
          · exact n3 a ha a h rfl
          · exact hd a (Az _ ha) h
        · intro g hg
          rcases Al.1 hg with hg|hg
          · exact .inl (Az _ hg)
          · exact(q3 g hg).imp (Ar _) id
        · intro i hi g hg hm
          rcases Al.1 hm with hm|hm
          · exact hd g (Az _ hm) (k2 i g hg)
          · exact q4 i hi g hg hm
      |inl p=>
        simp only[ZU,Aa,Ax]at hok
        obtain⟨⟨g1,g2⟩,g3⟩:=hok
        obtain⟨b',q1,q2,q3,q4⟩:=ih (p.1::seen) g3 r2 n2 (λg hg=>hd g (Ar _ hg))
        have hp:l[p.1]? =some p.2:=by
          split at g1
          · rename_i x hx;rw[hx];simpa using g1
          · cases g1
        have hpl:p.1 < l.length:=by
          rcases A9 p.1 l.length with h|h
          · exact h
          · rw[A2 h]at hp;cases hp
        have hus:us[p.1]? =some (U p.1):=by
          rw[hU p.1 hpl]
          have:p.1 < us.length:=by omega
          simp[this]
        have htok:=k1 p.1 _ _ (by rw[AW,hp];rfl) hus
        have r1':A7 P w St (f p.2) xs1 (β p.1):=b9 (h1 p.2) (show A7 P w St ((f p.2).map (Z3 (U p.1))) xs1 b1 from r1) htok
        refine⟨β p.1++b',?_,?_,?_,?_⟩
        · rw[AC,AH];exact A7.join r1' q1
        · refine Aq.2 ⟨k3 p.1,q2,λa ha b hb e=>?_⟩
          subst e
          exact q4 p.1 (by simp) a ha hb
        · intro g hg
          rcases Al.1 hg with hg|hg
          · exact .inr (k2 p.1 g hg)
          · exact(q3 g hg).imp (Ar _) id
        · intro i hi g hg hm
          rcases Al.1 hm with hm|hm
          · have hne:i≠p.1:=λe=>by
              subst e
              have:seen.contains p.1=true:=by simpa using hi
              rw[this]at g2;cases g2
            exact k4 i p.1 hne g hg hm
          · exact q4 i (by simp[hi]) g hg hm
  intro L xs b0 hok h hnb hd
  obtain⟨b',q1,q2,q3,_⟩:=key L [] hok h hnb hd
  exact⟨b',q1,q2,q3⟩
end
theorem zpE{α:Type}{f:α->List V}{n:Nat}(h:∀x,(f x).length=n){U:Nat->Value}(p:Nat×α):(pE f U p).length=n:=by unfold pE;rw[Ak,h]
theorem erP{α:Type}{f g:α->List V}(h:∀x,Mz (f x)=g x)(hg:∀x,Mz (g x)=g x)(l:List α){u:Value}:er (.pin u l.length (Mz (l.flatMap f)))=.dat l.length (l.flatMap g):=by rw[er,O6 h,O6 hg]
theorem gw{α:Type}{f:α->List V}{U:Nat->Value}(l:List (Nat×α)):(l.flatMap (pE f U)).map QT=l.flatMap (pE f U):=by
  rw[List.map_flatMap]
  congr 1
  funext p
  unfold pE
  rw[C0]
  apply Ca
  intro c _
  cases c<;>rfl
section
variable {P:Program}{α:Type}{f:α->List V}
theorem Qo:∀(k:Nat) (l:List α),(BW k l).length=l.length
  |_,[]=>rfl
  |k,x::l=>by rw[BW,AQ,AQ,Qo (k+1) l]
def Y7(P:Program)(f:α->List V)(c:V)(l:List α)(k:Nat)(c':(Nat->Value)->V):Prop:=
  ∀w St t v bs,Cf P w St t c v bs->bs.Nodup->∃us b1 b2,us.length=l.length∧A7 P w St (l.map λx=>E0 (f x)) us b2∧(b1++b2).Nodup∧(∀g∈b1++b2,g∈bs)∧∀U:Nat->Value,(∀i,i < l.length->U (k+i)=us.getD i undef)->Cf P w St t (c' U) v b1
theorem Ux(h1:∀x,Lc (f x)=true){e:TypeId}{l:List α}{k:Nat}{w:World}{St:Nat->Nat->Prop}{v:Value}{bs:zN}(h:Ow P w St (.own e l.length (l.flatMap f)) v bs)(hn:bs.Nodup):
    ∃us b1 b2,us.length=l.length∧A7 P w St (l.map λx=>E0 (f x)) us b2∧bs=b1++b2∧∀U:Nat->Value,(∀i,i < l.length->U (k+i)=us.getD i undef)->Ow P w St (.own e (BW k l).length ((BW k l).flatMap (pE f U))) v b1:=by
  obtain⟨hl,xs,bs',hx,hr,hb,hst,h0⟩:=h
  obtain⟨us,hul,ht,hp⟩:=cg h1 l k hr
  refine⟨us,v.ownBlock.toList,bs',hul,ht,hb,λU hU=>?_⟩
  rw[Qo]
  refine⟨hl,xs,[],hx,hp U hU,by simp,hst,λhz=>?_⟩
  have:l=[]:=A1 hz
  subst this;rfl
theorem SQ(h1:∀x,Lc (f x)=true){e:TypeId}{l:List α}{k:Nat}:Y7 P f (.own e l.length (l.flatMap f)) l k (λU=>.own e (BW k l).length ((BW k l).flatMap (pE f U))):=by
  intro w St t v bs h hn
  obtain⟨us,b1,b2,q1,q2,q3,q4⟩:=Ux (k:=k) h1 (show Ow P w St _ v bs from h) hn
  exact⟨us,b1,b2,q1,q2,by rw[<-q3];exact hn,λg hg=>by rw[q3];exact hg,λU hU=>q4 U hU⟩
theorem jM(h1:∀x,Lc (f x)=true){e:TypeId}{l:List α}{k:Nat}{A C:List V}:Y7 P f (.box (A++.own e l.length (l.flatMap f)::C)) l k (λU=>.box (A++.own e (BW k l).length ((BW k l).flatMap (pE f U))::C)):=by
  rintro w St t v bs ⟨g,T,bs',arr,e1,e2,hr,rfl,hst⟩ hn
  obtain⟨us1,us2,p1,p2,eu,eb,r1,r2⟩:=hr.app
  obtain⟨u,us3,p3,p4,eu2,eb2,hc,r3,r4⟩:=r2
  subst eb eb2
  have hn1:=Bw.1 hn
  have hn2:=Aq.1 hn1.2
  have hn3:=Aq.1 hn2.2.1
  obtain⟨us,b1,b2,q1,q2,q3,q4⟩:=Ux (k:=k) h1 r3 hn3.1
  subst q3
  have hn4:=Aq.1 hn3.1
  refine⟨us,g::(p1++(b1++p4)),b2,q1,q2,?_,?_,λU hU=>⟨g,T,p1++(b1++p4),arr,e1,e2,?_,rfl,hst⟩⟩
  · rw[Da,Bw]
    refine⟨λhm=>hn1.1 ?_,?_⟩
    · simp only[Al]at hm⊢
      rcases hm with(h|h|h)|h
      · exact .inl h
      · exact .inr (.inl (.inl h))
      · exact .inr (.inr h)
      · exact .inr (.inl (.inr h))
    · refine Aq.2 ⟨Aq.2 ⟨hn2.1,Aq.2 ⟨hn4.1,hn3.2.1,λa ha b hb=>hn3.2.2 a (Az _ ha) b hb⟩,λa ha b hb=>hn2.2.2 a ha b (by simp only[Al]at hb⊢;rcases hb with h|h;exact .inl (.inl h);exact .inr h)⟩,hn4.2.1,λa ha b hb e=>?_⟩
      subst e
      simp only[Al]at ha
      rcases ha with h|h|h
      · exact hn2.2.2 a h a (by simp[hb]) rfl
      · exact hn4.2.2 a h a hb rfl
      · exact hn3.2.2 a (Ar _ hb) a h rfl
  · intro x hx
    simp only[Al,AB]at hx⊢
    rcases hx with(h|h|h|h)|h
    · exact .inl h
    · exact .inr (.inl h)
    · exact .inr (.inr (.inl (.inl h)))
    · exact .inr (.inr (.inr h))
    · exact .inr (.inr (.inl (.inr h)))
  · rw[eu,eu2]
    exact A7.join r1 ⟨u,us3,b1,p4,rfl,rfl,rfl,q4 U hU,r4⟩
def eS(P:Program)[BEq α](f:α->List V)(U:Nat->Value)(c:V)(L:List (Nat×α ⊕ α))(c':V):Prop:=
  ∀w St t v b1 (l:List α) us bs,Cf P w St t c v b1->A7 P w St (l.map λx=>E0 (f x)) us bs->bs.Nodup->(∀i,i < l.length->U i=us.getD i undef)->ZU l L []=true->b1.Nodup->(∀g∈b1,g∉bs)->∃b',Cf P w St t c' v b'∧b'.Nodup∧∀g∈b',g∈b1∨g∈bs
theorem cf[BEq α][LawfulBEq α](h1:∀x,Lc (f x)=true){e:TypeId}{L:List (Nat×α ⊕ α)}{U:Nat->Value}{w:World}{St:Nat->Nat->Prop}{v:Value}{b1:zN}{l:List α}{us:List Value}{bs:zN}(h:Ow P w St (.own e L.length (L.flatMap (mE f U))) v b1)(ht:A7 P w St (l.map λx=>E0 (f x)) us bs)(hn:bs.Nodup)
    (hU:∀i,i < l.length->U i=us.getD i undef) (hok:ZU l L []=true) (hb1:b1.Nodup) (hd:∀g∈b1,g∉bs):∃b',Ow P w St (.own e (L.map getM).length ((L.map getM).flatMap f)) v b'∧b'.Nodup∧∀g∈b',g∈b1∨g∈bs:=by
  obtain⟨hl,xs,bs',hx,hr,rfl,hst,h0⟩:=h
  obtain⟨n1,n2,n3⟩:=Aq.1 hb1
  obtain⟨b',q1,q2,q3⟩:=gK h1 ht hn hU L hok hr n2 (λg hg=>hd g (Ar _ hg))
  refine⟨v.ownBlock.toList++b',⟨by rw[Ak];exact hl,xs,b',by rw[Ak];exact hx,q1,rfl,by rw[Ak];exact hst,λhz=>?_⟩,?_,?_⟩
  · rw[Ak]at hz
    have:L=[]:=A1 hz
    subst this;rfl
  · refine Aq.2 ⟨n1,q2,λa ha b hb e=>?_⟩
    subst e
    rcases q3 a hb with h|h
    · exact n3 a ha a h rfl
    · exact hd a (Az _ ha) h
  · intro g hg
    rcases Al.1 hg with hg|hg
    · exact .inl (Az _ hg)
    · exact(q3 g hg).imp (Ar _) id
theorem lu[BEq α][LawfulBEq α](h1:∀x,Lc (f x)=true){U:Nat->Value}{p:Nat×α}{e:TypeId}{n:Nat}{cs:List V}(he:f p.2=[.own e n cs]):eS P f U (.pin (U p.1) n (Mz cs)) [.inl p] (.own e n cs):=by
  intro w St t v b1 l us bs h ht hn hU hok hb1 hd
  have h2:Ow P w St (.pin (U p.1) n (Mz cs)) v b1:=h
  have hr:A7 P w St (([.inl p]:List (Nat×α ⊕ α)).flatMap (mE f U)) [v] b1:=by
    rw[AH,ME,AY]
    show A7 P w St ((f p.2).map (Z3 (U p.1))) [v] b1
    rw[he]
    exact⟨v,[],b1,[],rfl,(AY _).symm,rfl,h2,rfl,rfl⟩
  obtain⟨b',q1,q2,q3⟩:=gK h1 ht hn hU _ hok hr hb1 hd
  rw[AC,DX,AH,ME,AY]at q1
  rw[show getM (Sum.inl p:Nat×α ⊕ α)=p.2 from rfl,he]at q1
  obtain⟨u,us',c1,c2,e1,e2,_,q4,q5⟩:=q1
  obtain⟨rfl,rfl⟩:=J4 e1
  have:c2=[]:=q5.2
  subst this
  rw[AY]at e2
  subst e2
  exact⟨b',q4,q2,q3⟩
theorem ls[BEq α][LawfulBEq α](h1:∀x,Lc (f x)=true){e:TypeId}{L:List (Nat×α ⊕ α)}{U:Nat->Value}{A C:List V}:eS P f U (.box (A++.own e L.length (L.flatMap (mE f U))::C)) L (.box (A++.own e (L.map getM).length ((L.map getM).flatMap f)::C)):=by
  rintro w St t v b1 l us bs ⟨g,T,bs',arr,e1,e2,hr,rfl,hst⟩ ht hn hU hok hb1 hd
  obtain⟨us1,us2,p1,p2,eu,eb,r1,r2⟩:=hr.app
  obtain⟨u,us3,p3,p4,eu2,eb2,hc,r3,r4⟩:=r2
  subst eb eb2
  have hn1:=Bw.1 hb1
  have hn2:=Aq.1 hn1.2
  have hn3:=Aq.1 hn2.2.1
  obtain⟨b',q1,q2,q3⟩:=cf h1 r3 ht hn hU hok hn3.1 (λx hx=>hd x (by simp[hx]))
  have hgb:g∉bs:=hd g (by simp)
  refine⟨g::(p1++(b'++p4)),⟨g,T,p1++(b'++p4),arr,e1,e2,by rw[eu,eu2];exact A7.join r1 ⟨u,us3,b',p4,rfl,rfl,rfl,q1,r4⟩,rfl,hst⟩,?_,?_⟩
  · rw[Bw]
    refine⟨λhm=>?_,Aq.2 ⟨hn2.1,Aq.2 ⟨q2,hn3.2.1,λa ha b hb e=>?_⟩,λa ha b hb e=>?_⟩⟩
    · simp only[Al]at hm
      rcases hm with h|h|h
      · exact hn1.1 (by simp[h])
      · rcases q3 g h with h|h
        · exact hn1.1 (by simp[h])
        · exact hgb h
      · exact hn1.1 (by simp[h])
    · subst e
      rcases q3 a ha with h|h
      · exact hn3.2.2 a h a hb rfl
      · exact hd a (by simp[hb]) h
    · subst e
      rcases Al.1 hb with hb|hb
      · rcases q3 a hb with h|h
        · exact hn2.2.2 a ha a (by simp[h]) rfl
        · exact hd a (by simp[ha]) h
      · exact hn2.2.2 a ha a (by simp[hb]) rfl
  · intro x hx
    simp only[AB,Al]at hx⊢
    rcases hx with h|h|h|h
    · exact .inl (.inl h)
    · exact .inl (.inr (.inl h))
    · rcases q3 x h with h|h
      · exact .inl (.inr (.inr (.inl h)))
      · exact .inr h
    · exact .inl (.inr (.inr (.inr h)))
end
section
variable {P:Program}{nt:Nat}{base:Bs}{bx:zN}{St St0:Nat->Nat->Prop}{B:Nat->zN}{hand:zN}{σ:PS}{a:Act}{w w0:World}
variable {Q:Exit->PS->Prop}{α:Type}{f:α->List V}
theorem SA{x:LC}{s q:Nat}{l:List α}{c:V}{c':(Nat->Value)->V}(hs:σ s=c)(hq:σ q=.undef)(hsq:s≠q)(S:Y7 P f c l 0 c')(hb:∀U,(CS (c' U)).isSome=(CS c).isSome)(hrf:∀U,DI (c' U)=none)
    (h:∀(U:Nat->Value) (us:List Value),us.length=l.length->(∀i,i < l.length->U i=us.getD i undef)->LS P nt bx x (upd (upd σ s (c' U)) q (.gh us (l.map λx=>E0 (f x)))) Q):LS P nt bx x σ Q:=by
  intro cc hc hok hL base St0 w0 a w hr
  obtain⟨St,B,hS,r1,r2,r3⟩:=hr
  have h1:=hS.slot s
  rw[hs]at h1
  obtain⟨us,b1,b2,q1,q2,q3,q4,q5⟩:=S w St (tm a) (tm a s) (B s) h1 (hS.nodup s)
  have hU:∀i,i < l.length->(λi=>us.getD i undef) (0+i)=us.getD i undef:=λi _=>by simp
  refine h (λi=>us.getD i undef) us q1 (λi _=>rfl) cc hc hok hL base St0 w0 a w ⟨St,_,Ki hS hsq (by rw[hq];rfl) (q5 (λi=>us.getD i undef) hU) (show Cf P w St (tm a) (.gh us _) _ b2 from q2) q3 (λg hg=>.inl (q4 g hg)) (by rw[hs];exact hb _) (hrf _) rfl rfl,r1,r2,r3⟩
theorem lV[BEq α]{x:LC}{s q:Nat}{l:List α}{us:List Value}{U:Nat->Value}{L:List (Nat×α ⊕ α)}{c c':V}{cs:List V}(hs:σ s=c)(hq:σ q=.gh us cs)(hcs:cs=l.map λx=>E0 (f x))(hsq:s≠q)(J:eS P f U c L c')(hU:∀i,i < l.length->U i=us.getD i undef)(hok:ZU l L []=true)
    (hb:(CS c').isSome=(CS c).isSome) (hrf:DI c'=none) (h:LS P nt bx x (upd (upd σ s c') q .undef) Q):LS P nt bx x σ Q:=by
  intro cc hc hok' hL base St0 w0 a w hr
  obtain⟨St,B,hS,r1,r2,r3⟩:=hr
  have k1:=hS.slot s
  rw[hs]at k1
  have k2:=hS.slot q
  rw[hq,hcs]at k2
  obtain⟨b',q1,q2,q3⟩:=J w St (tm a) (tm a s) (B s) l us (B q) k1 k2 (hS.nodup q) hU hok (hS.nodup s) (λg hg=>hS.apart s q hsq g hg)
  exact h cc hc hok' hL base St0 w0 a w ⟨St,_,Ki hS hsq (by rw[hq];rfl) q1 (show Cf P w St (tm a) .undef _ []from rfl) (by rw[AY];exact q2) (λg hg=>by rw[AY]at hg;exact q3 g hg) (by rw[hs];exact hb) hrf rfl rfl,r1,r2,r3⟩
end
end
section
def Gh(P:Program)(nt:Nat)(bx:zN)(σ:PS)(K:PS->Prop):Prop:=∀base St0 w0 a w,Rel P nt bx base St0 w0 σ a w->∃σ',K σ'∧Rel P nt bx base St0 w0 σ' a w
def ghQ(P:Program)(nt:Nat)(bx:zN)(Q:Exit->PS->Prop):Exit->PS->Prop
  |.normal,σ=>Gh P nt bx σ (Q .normal)
  |e,σ=>Q e σ
section
variable {P:Program}{nt:Nat}{bx:zN}{σ:PS}{K:PS->Prop}{Q:Exit->PS->Prop}{x:LC}
theorem MA(h:K σ):Gh P nt bx σ K:=λ_ _ _ _ _ hr=>⟨σ,h,hr⟩
theorem W9(h:LS P nt bx x σ (ghQ P nt bx Q)):LS P nt bx x σ Q:=by
  intro c hc hok hL base St0 w0 a w hr
  refine Fy (h c hc hok hL base St0 w0 a w hr) ?_
  rintro e a' w' ⟨σ',h1,h2⟩
  cases e with
  |normal=>exact h1 base St0 w0 a' w' h2
  |_=>exact⟨σ',h1,h2⟩
theorem Gf(h:Gh P nt bx σ (λσ'=>LS P nt bx x σ' Q)):LS P nt bx x σ Q:=by
  intro c hc hok hL base St0 w0 a w hr
  obtain⟨σ',h1,h2⟩:=h base St0 w0 a w hr
  exact h1 c hc hok hL base St0 w0 a w h2
def eT(P:Program)(c:V)(e:TypeId)(n:Nat)(cs:List V)(c':Value->V):Prop:=
  ∀w St (t:Nat->Value) v bs,Cf P w St t c v bs->bs.Nodup->∃u b1 b2,Ow P w St (.own e n cs) u b2∧(b1++b2).Nodup∧(∀g∈b1++b2,g∈bs)∧Cf P w St t (c' u) v b1
theorem Xk{w:World}{St:Nat->Nat->Prop}{e:TypeId}{n:Nat}{cs:List V}{u:Value}{b:zN}(h:Ow P w St (.own e n cs) u b):Ow P w St (.tok u) u []:=⟨rfl,rfl,(Ow.rd (.own e n cs) h rfl).oneCell⟩
theorem jB{w:World}{St:Nat->Nat->Prop}{e:TypeId}{n:Nat}{cs:List V}{u:Value}{b:zN}(h:Ow P w St (.own e n cs) u b)(hn:0 < n):∃g m,u=.slice (some ⟨g,0,none⟩) n m:=by
  obtain⟨_,xs,bs',hrow,_⟩:=h
  rcases hrow.2 with⟨_,h0⟩|⟨g,cap,cur,eg,_⟩
  · omega
  · exact⟨g,cap,eg⟩
theorem lL{e:TypeId}{n:Nat}{cs:List V}:eT P (.own e n cs) e n cs .tok:=λw St t v bs h hn=>⟨v,[],bs,h,by simpa using hn,λg hg=>by simpa using hg,(Xk (show Ow P w St (.own e n cs) v bs from h)).slot⟩
theorem lK{e:TypeId}{n:Nat}{cs A C:List V}:eT P (.box (A++.own e n cs::C)) e n cs (λu=>.box (A++.tok u::C)):=by
  rintro w St t v bs ⟨g,T,bs',arr,e1,e2,hr,rfl,hst⟩ hn
  obtain⟨us1,us2,p1,p2,eu,eb,r1,r2⟩:=hr.app
  obtain⟨u,us3,p3,p4,eu2,eb2,hc,r3,r4⟩:=r2
  subst eb eb2
  have hn1:=Bw.1 hn
  have hn2:=Aq.1 hn1.2
  have hn3:=Aq.1 hn2.2.1
  refine⟨u,g::(p1++p4),p3,r3,?_,?_,g,T,p1++p4,arr,e1,e2,?_,rfl,hst⟩
  · rw[Da,Bw]
    refine⟨λhm=>hn1.1 ?_,Aq.2 ⟨Aq.2 ⟨hn2.1,hn3.2.1,λa ha b hb=>hn2.2.2 a ha b (Ar _ hb)⟩,hn3.1,λa ha b hb e=>?_⟩⟩
    · simp only[Al]at hm⊢
      rcases hm with(h|h)|h
      · exact .inl h
      · exact .inr (.inr h)
      · exact .inr (.inl h)
    · rcases Al.1 ha with ha|ha
      · exact hn2.2.2 a ha b (Az _ hb) e
      · exact hn3.2.2 b hb a ha e.symm
  · intro k hk
    simp only[Da,AB,Al]at hk⊢
    rcases hk with h|(h|h)|h
    · exact .inl h
    · exact .inr (.inl h)
    · exact .inr (.inr (.inr h))
    · exact .inr (.inr (.inl h))
  · rw[eu,eu2]
    have:=A7.join r1 (show A7 P w St (.tok u::C) (u::us3) p4 from⟨u,us3,[],p4,rfl,by simp,rfl,Xk r3,r4⟩)
    exact this
theorem ZH{s q:Nat}{c:V}{e:TypeId}{n:Nat}{cs:List V}{c':Value->V}(hs:σ s=c)(hq:σ q=.undef)(hsq:s≠q)(L:eT P c e n cs c')(hn:0 < n)(hb:∀u,(CS (c' u)).isSome=(CS c).isSome)(hrf:∀u,DI (c' u)=none)
    (h:∀g m,Gh P nt bx (upd (upd σ s (c' (.slice (some ⟨g,0,none⟩) n m))) q (.gh [.slice (some ⟨g,0,none⟩) n m] [.own e n cs])) K):Gh P nt bx σ K:=by
  rintro base St0 w0 a w ⟨St,B,hS,r1,r2,r3⟩
  have h1:=hS.slot s
  rw[hs]at h1
  obtain⟨u,b1,b2,q1,q2,q3,q4⟩:=L w St (tm a) (tm a s) (B s) h1 (hS.nodup s)
  obtain⟨g,m,rfl⟩:=jB q1 hn
  exact h g m base St0 w0 a w ⟨St,_,Ki hS hsq (by rw[hq];rfl) q4 (show Cf P w St (tm a) (.gh [_] [_]) _ b2 from⟨_,[],b2,[],rfl,by simp,rfl,q1,rfl,rfl⟩) q2 (λg hg=>.inl (q3 g hg)) (by rw[hs];exact hb _) (hrf _) rfl rfl,r1,r2,r3⟩
def eR(P:Program)(c':V)(u:Value)(e:TypeId)(n:Nat)(cs:List V)(c:V):Prop:=
  ∀w St (t:Nat->Value) v b1 b2,Cf P w St t c' v b1->Ow P w St (.own e n cs) u b2->(b1++b2).Nodup->∃bs,bs.Nodup∧(∀g∈bs,g∈b1++b2)∧Cf P w St t c v bs
theorem kA{u:Value}{e:TypeId}{n:Nat}{cs:List V}:eR P (.tok u) u e n cs (.own e n cs):=by
  intro w St t v b1 b2 h1 h2 hn
  have hv:v=u:=h1.2.1
  subst hv
  exact⟨b2,(Aq.1 hn).2.1,λg hg=>Ar _ hg,h2⟩
theorem kz{u:Value}{e:TypeId}{n:Nat}{cs A C:List V}:eR P (.box (A++.tok u::C)) u e n cs (.box (A++.own e n cs::C)):=by
  rintro w St t v b1 b2 ⟨g,T,bs',arr,e1,e2,hr,rfl,hst⟩ h2 hn
  obtain⟨us1,us2,p1,p2,eu,eb,r1,r2⟩:=hr.app
  obtain⟨u',us3,p3,p4,eu2,eb2,hc,r3,r4⟩:=r2
  obtain⟨hp3,hu,_⟩:=r3
  subst hu hp3 eb eb2
  have hn1:=Aq.1 hn
  have hn2:=Bw.1 hn1.1
  have hn3:=Aq.1 hn2.2
  refine⟨g::(p1++(b2++p2)),?_,?_,g,T,p1++(b2++p2),arr,e1,e2,?_,rfl,hst⟩
  · refine Bw.2 ⟨λhm=>?_,Aq.2 ⟨hn3.1,Aq.2 ⟨hn1.2.1,hn3.2.1,λa ha b hb e=>hn1.2.2 b (AE _ (Ar _ hb)) a ha e.symm⟩,λa ha b hb e=>?_⟩⟩
    · simp only[Al]at hm
      rcases hm with h|h|h
      · exact hn2.1 (Az _ h)
      · exact hn1.2.2 g Bg g h rfl
      · exact hn2.1 (Ar _ h)
    · rcases Al.1 hb with hb|hb
      · exact hn1.2.2 a (AE _ (Az _ ha)) b hb e
      · exact hn3.2.2 a ha b hb e
  · intro k hk
    simp only[Da,AB,Al]at hk⊢
    rcases hk with h|h|h|h
    · exact .inl h
    · exact .inr (.inl (.inl h))
    · exact .inr (.inr h)
    · exact .inr (.inl (.inr h))
  · rw[eu,eu2]
    exact A7.join r1 (show A7 P w St (.own e n cs::C) (u'::us3) (b2++p2)from⟨u',us3,b2,p2,rfl,rfl,rfl,h2,r4⟩)
theorem ZG{s q:Nat}{u:Value}{e:TypeId}{n:Nat}{cs:List V}{c c':V}(hs:σ s=c')(hq:σ q=.gh [u] [.own e n cs])(hsq:s≠q)(D:eR P c' u e n cs c)(hb:(CS c).isSome=(CS c').isSome)(hrf:DI c=none)
    (h:Gh P nt bx (upd (upd σ s c) q .undef) K):Gh P nt bx σ K:=by
  rintro base St0 w0 a w ⟨St,B,hS,r1,r2,r3⟩
  have h1:=hS.slot s
  rw[hs]at h1
  have h2:=hS.slot q
  rw[hq]at h2
  obtain⟨u',us',b1,b2,eu,eb,_,hOw,hnil⟩:=h2
  simp only[C2]at eu
  obtain⟨rfl,rfl⟩:=eu
  have hb2:b2=[]:=hnil.2
  subst hb2
  rw[AY]at eb
  have hnd:(B s++b1).Nodup:=Aq.2 ⟨hS.nodup s,by have:=hS.nodup q;rwa [eb]at this,λx hx y hy e=>by subst e;exact hS.apart s q hsq x hx (by rw[eb];exact hy)⟩
  obtain⟨bs,q1,q2,q3⟩:=D w St (tm a) (tm a s) (B s) b1 h1 hOw hnd
  exact h base St0 w0 a w ⟨St,_,Ki hS hsq (by rw[hq];rfl) q3 (show Cf P w St (tm a) .undef _ []from rfl) (by simpa using q1) (λg hg=>by
    rw[AY]at hg
    rcases Al.1 (q2 g hg)with hh|hh
    · exact .inl hh
    · exact .inr (by rw[eb];exact hh)) (by rw[hs];exact hb) hrf rfl rfl,r1,r2,r3⟩
theorem YX{α:Type}{cs:List α}{k:Nat}{c:α}(hk:cs[k]? =some c)(x:α):cs=cs.take k++c::cs.drop (k+1)∧cs.set k x=cs.take k++x::cs.drop (k+1):=by
  obtain⟨hlt,he⟩:=Ch.1 hk
  refine⟨?_,by rw[D0,Av hlt]⟩
  rw[<-he,<-AR hlt,C8]
theorem co(a b c d:zN):(a++(b++d)++c).Perm (a++(b++(c++d))):=by
  rw[Bj,Bj]
  exact List.Perm.append_left _ (List.Perm.append_left _ List.perm_append_comm)
theorem pG{u1:Value}{e e2:TypeId}{n m k:Nat}{cs row:List V}(hk:cs[k]? =some (.own e2 m row)):eT P (.gh [u1] [.own e n cs]) e2 m row (λu=>.gh [u1] [.own e n (cs.set k (.tok u))]):=by
  rintro w St t v bs ⟨u,us',b1,b2,eu,eb,hc,⟨hn,xs,bs',hrow,hxs,hb1,hSt,h0⟩,hnil⟩ hnd
  simp only[C2]at eu
  obtain⟨rfl,rfl⟩:=eu
  have hb2:b2=[]:=hnil.2
  subst hb2
  rw[AY]at eb
  subst eb
  have hlt:=(Ch.1 hk).1
  have e0:=λx=>YX hk x
  rw[(e0 .undef).1]at hxs
  obtain⟨us1,us2,p1,p2,eu,eb2,r1,r2⟩:=A7.app hxs
  obtain⟨u',us3,p3,p4,eu2,eb3,hc',r3,r4⟩:=r2
  subst eb3 eb2 hb1
  have hp:=co u1.ownBlock.toList p1 p3 p4
  refine⟨u',u1.ownBlock.toList++(p1++p4),p3,r3,hp.nodup_iff.2 hnd,λg hg=>hp.mem_iff.1 hg,u1,[],_,[],rfl,(AY _).symm,rfl,⟨hn,xs,p1++p4,hrow,?_,rfl,hSt,λhz=>?_⟩,rfl,rfl⟩
  · rw[(e0 (.tok u')).2,eu,eu2]
    exact A7.join r1 (show A7 P w St (.tok u'::_) (u'::us3) p4 from⟨u',us3,[],p4,rfl,by simp,rfl,Xk r3,r4⟩)
  · have:=h0 hz
    subst this
    simp at hlt
theorem oM{u1 u2:Value}{e e2:TypeId}{n m k:Nat}{cs row:List V}(hk:cs[k]? =some (.tok u2)):eR P (.gh [u1] [.own e n cs]) u2 e2 m row (.gh [u1] [.own e n (cs.set k (.own e2 m row))]):=by
  rintro w St t v c1 c2 ⟨u,us',b1,b2,eu,eb,hc,⟨hn,xs,bs',hrow,hxs,hb1,hSt,h0⟩,hnil⟩ h2 hnd
  simp only[C2]at eu
  obtain⟨rfl,rfl⟩:=eu
  have hb2:b2=[]:=hnil.2
  subst hb2
  rw[AY]at eb
  subst eb
  have hlt:=(Ch.1 hk).1
  have e0:=λx=>YX hk x
  rw[(e0 .undef).1]at hxs
  obtain⟨us1,us2,p1,p2,eu,eb2,r1,r2⟩:=A7.app hxs
  obtain⟨u',us3,p3,p4,eu2,eb3,hc',r3,r4⟩:=r2
  obtain⟨hp3,hu,_⟩:=r3
  subst hu hp3 eb3 eb2 hb1
  have hp:=co u1.ownBlock.toList p1 c2 p2
  refine⟨u1.ownBlock.toList++(p1++(c2++p2)),hp.nodup_iff.1 (by simpa using hnd),λg hg=>by have:=hp.mem_iff.2 hg;simpa using this,u1,[],_,[],rfl,(AY _).symm,rfl,⟨hn,xs,p1++(c2++p2),hrow,?_,rfl,hSt,λhz=>?_⟩,rfl,rfl⟩
  · rw[(e0 (.own e2 m row)).2,eu,eu2]
    exact A7.join r1 (show A7 P w St (.own e2 m row::_) (u'::us3) (c2++p2)from⟨u',us3,c2,p2,rfl,rfl,rfl,h2,r4⟩)
  · have:=h0 hz
    subst this
    simp at hlt
variable {α:Type}{f:α->List V}
theorem kX{s q:Nat}{l:List α}{c:V}{c':(Nat->Value)->V}(hs:σ s=c)(hq:σ q=.undef)(hsq:s≠q)(S:Y7 P f c l 0 c')(hb:∀U,(CS (c' U)).isSome=(CS c).isSome)(hrf:∀U,DI (c' U)=none)
    (h:∀(U:Nat->Value) (us:List Value),us.length=l.length->(∀i,i < l.length->U i=us.getD i undef)->Gh P nt bx (upd (upd σ s (c' U)) q (.gh us (l.map λx=>E0 (f x)))) K):Gh P nt bx σ K:=by
  rintro base St0 w0 a w ⟨St,B,hS,r1,r2,r3⟩
  have h1:=hS.slot s
  rw[hs]at h1
  obtain⟨us,b1,b2,q1,q2,q3,q4,q5⟩:=S w St (tm a) (tm a s) (B s) h1 (hS.nodup s)
  have hU:∀i,i < l.length->(λi=>us.getD i undef) (0+i)=us.getD i undef:=λi _=>by simp
  exact h (λi=>us.getD i undef) us q1 (λi _=>rfl) base St0 w0 a w ⟨St,_,Ki hS hsq (by rw[hq];rfl) (q5 (λi=>us.getD i undef) hU) (show Cf P w St (tm a) (.gh us _) _ b2 from q2) q3 (λg hg=>.inl (q4 g hg)) (by rw[hs];exact hb _) (hrf _) rfl rfl,r1,r2,r3⟩
theorem o6[BEq α]{s q:Nat}{l:List α}{us:List Value}{U:Nat->Value}{L:List (Nat×α ⊕ α)}{c c':V}{cs:List V}(hs:σ s=c)(hq:σ q=.gh us cs)(hcs:cs=l.map λx=>E0 (f x))(hsq:s≠q)(J:eS P f U c L c')(hU:∀i,i < l.length->U i=us.getD i undef)(hok:ZU l L []=true)
    (hb:(CS c').isSome=(CS c).isSome) (hrf:DI c'=none) (h:Gh P nt bx (upd (upd σ s c') q .undef) K):Gh P nt bx σ K:=by
  rintro base St0 w0 a w ⟨St,B,hS,r1,r2,r3⟩
  have k1:=hS.slot s
  rw[hs]at k1
  have k2:=hS.slot q
  rw[hq,hcs]at k2
  obtain⟨b',q1,q2,q3⟩:=J w St (tm a) (tm a s) (B s) l us (B q) k1 k2 (hS.nodup q) hU hok (hS.nodup s) (λg hg=>hS.apart s q hsq g hg)
  exact h base St0 w0 a w ⟨St,_,Ki hS hsq (by rw[hq];rfl) q1 (show Cf P w St (tm a) .undef _ []from rfl) (by rw[AY];exact q2) (λg hg=>by rw[AY]at hg;exact q3 g hg) (by rw[hs];exact hb) hrf rfl rfl,r1,r2,r3⟩
end
end
section
mutual
def MY:V->V
  |.dat n cs=>.arg n (JY cs)
  |.agg cs=>.agg (JY cs)
  |.int k n=>.int k n
  |.bool b=>.bool b
  |.str s=>.str s
  |.fn f=>.fn f
  |_=>.undef
def JY:List V->List V
  |[]=>[]
  |c::cs=>MY c::JY cs
end
mutual
def Sk:V->Bool
  |.dat _ cs=>D4 cs
  |.int _ _=>true
  |.bool _=>true
  |.str _=>true
  |.fn _=>true
  |_=>false
def D4:List V->Bool
  |[]=>true
  |c::cs=>Sk c&&D4 cs
end
def JX:V->Bool
  |.agg cs=>D4 cs
  |c=>Sk c
section
variable {P:Program}{w:World}{St:Nat->Nat->Prop}{N:Nat->Prop}
theorem iS{cs:List V}:JY cs≠[]->cs≠[]:=λh e=>h (by subst e;rfl)
mutual
theorem Rd.Lq(hst:∀b o,St b o->N b):∀(c:V) {v:Value},Sk c=true->Rd w St c v->Rd w (λb o=>St b o∨N b) (MY c) v
  |.int _ _,_,_,h=>h
  |.bool _,_,_,h=>h
  |.str _,_,_,h=>h
  |.fn _,_,_,h=>h
  |.dat _ cs,_,ha,⟨hn,A,c,e,hc,h,h0⟩=>⟨hn,A,c,e,hc,λhp=>let⟨b,off,ea,hr⟩:=h hp;⟨b,off,ea,λhne o=>.inr (Dp.blk hst b off cs (iS hne) hr),Dp.Lq hst b off cs ha hr⟩,λhz=>by rw[h0 hz];rfl⟩
  |.own _ _ _,_,ha,_=>by cases ha
  |.pin _ _ _,_,ha,_=>by cases ha
  |.arg _ _,_,ha,_=>by cases ha
  |.agg _,_,ha,_=>by cases ha
  |.tup _,_,ha,_=>by cases ha
  |.box _,_,ha,_=>by cases ha
  |.uni _ _ _,_,ha,_=>by cases ha
  |.same _,_,ha,_=>by cases ha
  |.val _ _,_,ha,_=>by cases ha
  |.cref _ _,_,ha,_=>by cases ha
  |.adr _ _,_,ha,_=>by cases ha
  |.gh _ _,_,ha,_=>by cases ha
  |.tok _,_,ha,_=>by cases ha
  |.undef,_,ha,_=>by cases ha
theorem Dp.Lq(hst:∀b o,St b o->N b)(b:Nat):∀(off:Nat) (cs:List V),D4 cs=true->Dp w St b off cs->Dp w (λb o=>St b o∨N b) b off (JY cs)
  |_,[],_,_=>trivial
  |off,c::cs,ha,⟨⟨h1,u,hu,hr⟩,h2⟩=>by
    rw[D4,Aa]at ha
    exact⟨⟨.inl h1,u,hu,Rd.Lq hst c ha.1 hr⟩,Dp.Lq hst b (off+1) cs ha.2 h2⟩
theorem Dp.blk(hst:∀b o,St b o->N b)(b:Nat):∀(off:Nat) (cs:List V),cs≠[]->Dp w St b off cs->N b
  |_,[],h,_=>absurd rfl h
  |off,_::_,_,⟨⟨h1,_⟩,_⟩=>hst b off h1
end
theorem Oo.Lq(hst:∀b o,St b o->N b):∀(cs:List V) {us:List Value},D4 cs=true->Oo w St cs us->Oo w (λb o=>St b o∨N b) (JY cs) us
  |[],_,_,h=>h
  |c::cs,_,ha,⟨u,us',e,h1,h2⟩=>by
    rw[D4,Aa]at ha
    exact⟨u,us',e,Rd.Lq hst c ha.1 h1,Oo.Lq hst cs ha.2 h2⟩
theorem Y6.Lq(hst:∀b o,St b o->N b){c:V}{v:Value}(ha:JX c=true)(h:Y6 w St c v):Y6 w (λb o=>St b o∨N b) (MY c) v:=by
  cases c<;>first|exact Rd.Lq hst _ ha h|(cases ha;done)|skip
  obtain⟨us,e,h⟩:=h
  exact⟨us,e,Oo.Lq hst _ ha h⟩
theorem NC.Lq(hst:∀b o,St b o->N b):∀{args:List V}{vs:List Value},args.all JX=true->NC w St args vs->NC w (λb o=>St b o∨N b) (args.map MY) vs
  |[],_,_,h=>h
  |c::args,_,ha,⟨u,us',e,h1,h2⟩=>by
    simp only[Bz,Aa]at ha
    exact⟨u,us',e,Y6.Lq hst ha.1 h1,NC.Lq hst ha.2 h2⟩
end
theorem Wq{c:V}(h:Sk c=true):HV (MY c)=true:=by
  cases c<;>first|rfl|cases h
theorem Wr:∀{cs:List V},D4 cs=true->(JY cs).all HV=true
  |[],_=>rfl
  |c::cs,h=>by
    rw[D4,Aa]at h
    rw[JY,Bz,Wq h.1,Wr h.2];rfl
theorem Wp{c:V}(h:JX c=true):L6 (MY c)=true:=by
  cases c<;>first|exact Wq h|(cases h;done)|skip
  exact Wr (show D4 _=true from h)
def fB:V->Bool
  |.tup cs=>E1 cs
  |c=>deep c
section
variable {P:Program}{w w':World}{St St':Nat->Nat->Prop}
theorem Js.kept:∀(cs:List V) {us:List Value}{bs:zN},E1 cs=true->Js P w St cs us bs->(∀g∈bs,w'.heap[g]? =w.heap[g]? ∧∀o,St' g o↔St g o)->Js P w' St' cs us bs
  |[],_,_,_,h,_=>h
  |c::cs,_,_,hd,⟨u,us',b1,b2,e1,e2,h1,h2⟩,hb=>by
    have hd':deep c=true∧E1 cs=true:=by simpa[E1]using hd
    exact⟨u,us',b1,b2,e1,e2,Ow.kept c hd'.1 h1 (λg hg=>hb g (by rw[e2];exact Az _ hg)),Js.kept cs hd'.2 h2 (λg hg=>hb g (by rw[e2];exact Ar _ hg))⟩
theorem dx{c:V}{v:Value}{bs:zN}(hd:fB c=true)(h:Ow P w St c v bs)(hb:∀g∈bs,w'.heap[g]? =w.heap[g]? ∧∀o,St' g o↔St g o):Ow P w' St' c v bs:=by
  cases c<;>first|exact Ow.kept _ hd h hb|skip
  obtain⟨us,e,h⟩:=h
  exact⟨us,e,Js.kept _ hd h hb⟩
end
section
variable {P:Program}{tb:Tb}
theorem jK(htb:IG P tb){f:FuncId}{fn:Func}{c:Code}{args:List V}{r:V}(hf:P.funcs[f]? =some fn)(hb:fn.body=some c)(hname:(fn.name== "runtime.NumGoroutine")=false)(bx:zN)(hlen:args.length<=fn.ntmps)(hargs:args.all JX=true)(hr:fB r=true)
    (hn:(fn.results.toList.map JL).Nodup) (h:LH P fn.ntmps bx c (Fc (args.map MY)) (λe σ=>(e=.ret∨e=.normal)∧Vt tb σ fn.results.toList=some r)):Ks P f args r:=by
  refine⟨⟨fn,hf,by rw[hb];rfl,hname⟩,λw St vs hst hgl hvs=>?_⟩
  have hvs':=NC.Lq hst hargs hvs
  have hst':∀b o,(St b o∨b < w.heap.size)->b < w.heap.size:=λb o h=>h.elim (hst b o) id
  have hpl:(args.map MY).all L6=true:=by
    rw[K4,Ah]
    exactλx hx=>Wp (Ah.1 hargs x hx)
  obtain⟨hl,hat⟩:=args_at hvs'
  refine Hh hf hb ?_
  have hrel:=Vs (P:=P) (bx:=bx) hst' (hgl.of (λb hb o=>.inl (hb o)) (λ_ _ _=>rfl)) hvs' (by simpa using hlen) hpl
  refine Fy (h _ _ _ _ _ hrel) ?_
  rintro e a' w' ⟨σ',⟨he,hres⟩,St1,B',h1,h2,h3,h4⟩
  have hfin:a'.defers=[]∧∃v,(results fn a'.tmps).run P w'=.ok v w'∧Ret P w St r (.returned v) w':=by
    obtain⟨v,bs,q1,q2,q3,q4⟩:=hH htb h1 hn hres
    have hge:∀g∈bs,w.heap.size<=g:=λg hg=>JJ (q4 g hg).1
    refine⟨h1.defers,v,q1,v,bs,λb o=>(b < w.heap.size∧St b o)∨(w.heap.size<=b∧St1 b o),rfl,⟨h2.os,h2.tape,h2.output,h2.size,h2.block⟩,λb o hlt=>⟨λhh=>hh.elim (·.2) (λhh=>absurd hh.1 (by omega)),λhh=>.inl ⟨hlt,hh⟩⟩,λb o hh=>?_,?_,q3,λg hg=>⟨hge g hg,(q4 g hg).2⟩⟩
    · rcases hh with hh|hh
      · exact Bo hh.1 h2.size
      · exact h1.st b o hh.2
    · exact dx hr q2 (λg hg=>⟨rfl,λo=>⟨λhh=>hh.elim (λhh=>absurd hh.1 (by have:=hge g hg;omega)) (·.2),λhh=>.inr ⟨hge g hg,hh⟩⟩⟩)
  rcases he with rfl|rfl
  · exact hfin
  · exact hfin
end
def sfY:PL->Prop
  |[]=>True
  |(_,c)::L=>J6 c=true∧sfY L
theorem yn:sfY []:=trivial
theorem yc{q:Nat}{c:V}{L:PL}(h:J6 c=true)(k:sfY L):sfY ((q,c)::L):=⟨h,k⟩
theorem af:∀{L:PL},sfY L->∀q,J6 (Cv L q)=true
  |[],_,q=>rfl
  |(r,c)::L,⟨h1,h2⟩,q=>by
    by_cases e:q=r
    · subst e
      rw[show Cv ((q,c)::L) q=c from by simp[Cv,upd_same]]
      exact h1
    · rw[show Cv ((r,c)::L) q=Cv L q from by simp[Cv,upd_ne _ _ e]]
      exact af h2 q
theorem Sx:∀{L:PL}{q:Nat},q∉L.map (·.1)->Cv L q=.undef
  |[],_,_=>rfl
  |(s,c)::L,q,h=>by
    rw[AC,AB,not_or]at h
    rw[D8,upd_ne _ _ h.1]
    exact Sx h.2
theorem Qx{L:PL}:∀{ss:zN}{L':PL},Yu L ss=some L'->(∀q,q∈ss->lk L q=some (Cv L' q))∧(∀q,q∉ss->Cv L' q=.undef)∧L'.map (·.1)=ss
  |[],_,h=>by cases h;exact⟨λq hq=>by simp at hq,λ_ _=>rfl,rfl⟩
  |s::ss,_,h=>by
    rw[Yu]at h
    obtain⟨c,h1,h⟩:=AK h
    obtain⟨L1,h2,h⟩:=AK h
    cases h
    obtain⟨i1,i2,i3⟩:=Qx h2
    refine⟨λq hq=>?_,λq hq=>?_,by rw[AC,i3]⟩
    · by_cases e:q=s
      · subst e;rw[D8,upd_same];exact h1
      · rw[D8,upd_ne _ _ e];exact i1 q ((AB.1 hq).resolve_left e)
    · rw[AB,not_or]at hq
      rw[D8,upd_ne _ _ hq.1];exact i2 q hq.2
def PI(L:PL)(S:zN):zN:=(L.map (·.1)).filter λq=> !S.contains q
theorem Lz{L:PL}{S:zN}{q:Nat}:(PI L S).contains q=true↔q∈L.map (·.1)∧q∉S:=by
  unfold PI
  rw[AS,BE,Ax,<-Ex,AS]
theorem Vo{L L1:PL}{S:zN}{g q:Nat}(h:Tf L S=some L1)(hg:q≠g):kill (PI L (g::S)) (Cv L) q=Cv L1 q:=by
  obtain⟨L',h1,h⟩:=AK h
  obtain⟨h2,h⟩:=Dq h
  cases h
  obtain⟨i1,i2,i3⟩:=Qx h1
  by_cases hq:q∈S
  · have e1:=CT (i1 q hq)
    have hD:¬(PI L (g::S)).contains q=true:=λh=>(Lz.1 h).2 (AE _ hq)
    unfold kill
    rw[At hD,e1]
    cases hr:DI (Cv L1 q)with
    |none=>rfl
    |some b=>
      have hb:b∈S:=by
        obtain⟨p,hp,hpr⟩:=ZT hr
        have:=Ah.1 h2 p hp
        rw[hpr,i3]at this
        exact AS.1 this
      have hD':¬(PI L (g::S)).contains b=true:=λh=>(Lz.1 h).2 (AE _ hb)
      simp only[At hD']
  · rw[i2 q hq]
    by_cases hk:q∈L.map (·.1)
    · exact QY (Lz.2 ⟨hk,λh=>(AB.1 h).elim hg hq⟩)
    · unfold kill
      rw[Sx hk]
      split<;>rfl
theorem g9{α:Type}{f:α->List V}{es:Nat}(z:∀x,(f x).length=es){l:List α}{i:Int}{y:α}(gy:AZ l i=some y){o:Nat}{vs:List V}(ho:o+vs.length<=es){x':α}(hx:Mg (f y) o vs=f x'):Mg (l.flatMap f) (i.toNat * es+o) vs=(DJ l i x').flatMap f:=by
  obtain⟨g1,g2,g3⟩:=Ea gy
  have hk:i.toNat < l.length:=by omega
  unfold DJ
  rw[<-YS z hk x',<-hx]
  unfold Mg
  have e1:(l.flatMap f).drop (i.toNat * es)=f y++(l.flatMap f).drop ((i.toNat+1) * es):=by
    rw[Kh z,Kh z]
    obtain⟨hlt,he⟩:=Ch.1 g3
    rw[AR hlt,he,AH]
  have hl:((f y).take o++vs++(f y).drop (o+vs.length)).length=es:=by
    have:=z y
    simp only[Aw,AJ,Bt]
    omega
  rw[hl]
  have e2:(l.flatMap f).take (i.toNat * es+o)=(l.flatMap f).take (i.toNat * es)++(f y).take o:=by
    have hlen:i.toNat * es<=(l.flatMap f).length:=by
      rw[Bh z]
      exact CA _ (Eg hk)
    rw[List.take_add,e1,FJ (by rw[z y];omega)]
  have e3:(l.flatMap f).drop (i.toNat * es+o+vs.length)=(f y).drop (o+vs.length)++(l.flatMap f).drop (i.toNat * es+es):=by
    rw[J5,<-Hi,e1,Dk (by rw[z y];omega),C4,Dn]
  rw[e2,e3]
  simp only[Bj]
theorem get_at{α:Type}{f:α->List V}{es:Nat}(z:∀x,(f x).length=es){l:List α}{i:Int}{y:α}(gy:AZ l i=some y){o:Nat}{dd:TyD}(ho:o+dd.size<=es)(hp:0 < dd.size):getCells dd (l.flatMap f) (i.toNat * es+o)=getCells dd (f y) o∧i.toNat * es+o+dd.size<=(l.flatMap f).length:=by
  obtain⟨g1,g2,g3⟩:=Ea gy
  have hk:i.toNat < l.length:=by omega
  have e1:(l.flatMap f).drop (i.toNat * es)=f y++(l.flatMap f).drop ((i.toNat+1) * es):=by
    rw[Kh z,Kh z]
    obtain⟨hlt,he⟩:=Ch.1 g3
    rw[AR hlt,he,AH]
  have hz:=z y
  refine⟨?_,?_⟩
  · have e2:∀k,k < es->(l.flatMap f)[i.toNat * es+k]? =(f y)[k]?:=λk hk=>by
      rw[<-DF,e1,B4 (by omega)]
    cases dd with
    |st n zz fs=>
      simp only[getCells,TyD.size]at ho⊢
      rw[<-Hi,e1,Dk (by omega),FJ (by rw[Bt];omega)]
    |_=>simp only[getCells,TyD.size]at ho⊢;rw[e2 o (by omega)]
  · rw[Bh z]
    have:(i.toNat+1) * es<=l.length * es:=CA _ hk
    rw[C4,Dn]at this
    omega
theorem gk{α:Type}{f:α->List V}{es:Nat}(z:∀x,(f x).length=es){l:List α}{i:Int}{y:α}(gy:AZ l i=some y){o:Nat}(ho:Nat.ble (o+1) es=true):i.toNat * es+o < (l.flatMap f).length:=(get_at (dd:=.sc (.bool false)) z gy (o:=o) (nb ho) (Nat.zero_lt_one)).2
theorem sl{α:Type}{n:Nat}{l:List α}{i:Int}{x:α}(h:n=l.length):n=(DJ l i x).length:=by unfold DJ;rw[BM];exact h
section
variable {P:Program}{tb:Tb}{cns:zN}{L:PL}{K:PS->Prop}{s t:Nat}{x y:Operand}{nt:Nat}{bx:zN}
theorem qIt{d:Nat}{α:Type}{l:List α}{y0:α}{g n m es eb:Nat}{i:Int}{kk:IntKind}{e:TypeId}{ez:List V}(hx:OY L x=some (.tok (.slice (some ⟨g,0,none⟩) n m)))(hy:OY L y=some (.int kk i))(ht:tb s=some (.sl e es eb ez))(hn:n=l.length)(gi:AZ l i=some y0)
    (k:K (Cv ((d,.tok (.pointer (some ⟨g,i.toNat * es,none⟩)))::L))):F0 P tb cns ⟨some d,.indexAddr s x y,t,none⟩ (Cv L) K:=by
  obtain⟨g1,g2,g3⟩:=Ea gi
  subst hn
  refine⟨?_,?_⟩
  · simp only[pc,dM,ht,WY,DH hx,DH hy,OD,iD];exact⟨g1,g2⟩
  · simp only[pv,dO,ht,iaS,DH hx,DH hy,OD,rr];exact k
theorem qLe{q d:Nat}{α:Type}{f:α->List V}{l:List α}{y0:α}{i:Int}{g off m n es:Nat}{e:TypeId}{v:V}{dd:TyD}(o:Nat)(hq:(Nat.beq q gS || Nat.beq q gU)=true)(hc:cns.contains d=true)(hx:adO L x=some (.tok (.pointer (some ⟨g,off,none⟩))))(ho:off=i.toNat * es+o)(ht:tb s=some dd)
    (hg:lk L q=some (.gh [.slice (some ⟨g,0,none⟩) n m] [.own e n (l.flatMap f)])) (z:∀x,(f x).length=es) (gy:AZ l i=some y0) (hol:(Nat.ble (o+dd.size) es&&Nat.ble 1 dd.size)=true) (hv:UR (getCells dd (f y0) o)=some v) (k:K (Cv ((d,v)::L))):
    F0 P tb cns ⟨some d,.load s x,t,none⟩ (Cv L) K:=by
  subst ho
  rw[Aa]at hol
  obtain⟨e1,e2⟩:=get_at (dd:=dd) z gy (nb hol.1) (nb hol.2)
  simp only[F0,hc,ER,Up,ht,O3 hx]
  refine⟨trivial,q,g,_,e,n,m,_,rfl,(Bool.or_eq_true_iff.1 hq).imp CL CL,CT hg,e2,nb hol.2,?_⟩
  rw[e1,<-F7 hv]
  exact k
theorem qLh{d:Nat}{u2:Value}{g off k0 m n:Nat}{e:TypeId}{cs:List V}{dd:TyD}(hc:cns.contains d=true)(hx:adO L x=some (.tok (.pointer (some ⟨g,off,none⟩))))(ho:off=k0)(ht:tb s=some dd)(hdd:(match dd with|.st .. =>false|_=>true)=true)
    (hg:lk L gU=some (.gh [.slice (some ⟨g,0,none⟩) n m] [.own e n (cs.set k0 (.tok u2))])) (hk:k0 < cs.length) (k:K (Cv ((d,.tok u2)::L))):F0 P tb cns ⟨some d,.load s x,t,none⟩ (Cv L) K:=by
  subst ho
  have h1:dd.size=1:=by cases dd<;>first|rfl|cases hdd
  simp only[F0,hc,ER,Up,ht,O3 hx]
  refine⟨trivial,gU,g,_,e,n,m,_,rfl,.inr rfl,CT hg,by rw[h1,BM];omega,by omega,?_⟩
  have:getCells dd (cs.set off (.tok u2)) off=.tok u2:=by
    cases dd<;>first|(simp only[getCells,List.getElem?_set_self hk];rfl)|cases hdd
  rw[this]
  exact k
theorem AaX{g off n m:Nat}{e:TypeId}{cs:List V}{c:V}{dd:TyD}{L0 L1:PL}{vc:List V}(S:zN)(hx:adO L x=some (.tok (.pointer (some ⟨g,off,none⟩))))(ht:tb s=some dd)
    (hg:lk L gS=some (.gh [.slice (some ⟨g,0,none⟩) n m] [.own e n cs])) (hy:OY L y=some c) (h0:(!(yT y).contains gS&& !S.contains gS)=true) (hvc:re (Cv L) y vc) (hn1:vc.length=dd.size) (hfl:off+dd.size<=cs.length) (hk0:QH L y c=some L0) (hk:Tf L0 S=some L1)
    (hd:DA cs=true) (hd':DA vc=true) (hs:sfY L1) (k:K (Cv ((gS,.gh [.slice (some ⟨g,0,none⟩) n m] [.own e n (Mg cs off vc)])::L1))):
    F0 P tb cns ⟨none,.store s x y,t,none⟩ (Cv L) K:=by
  simp only[Aa,Ax]at h0
  have e1:=DH hy
  have e0:Cv L0=CO (Cv L) y:=Mm hy hk0
  refine⟨rfl,?_⟩
  simp only[ao,ht,O3 hx]
  refine⟨g,_,e,n,m,_,PI L0 (gS::S),vc,rfl,CT hg,hd,hvc,hd',hn1,hfl,?_,λq hq=>?_,?_⟩
  · rw[h0.1,BZ]
    cases hc:(PI L0 (gS::S)).contains gS with
    |false=>rfl
    |true=>exact absurd Bg (Lz.1 hc).2
  · rw[<-e0]
    by_cases hD:(PI L0 (gS::S)).contains q=true
    · exact .inl hD
    · right
      have e2:=Vo hk hq
      rcases PQ (PI L0 (gS::S)) (Cv L0) q with e3|e3
      · by_cases hm:q∈L0.map (·.1)
        · have hS:q∈S:=Cp λh=>hD (Lz.2 ⟨hm,λh'=>(AB.1 h').elim hq h⟩)
          obtain⟨L',k1,k2⟩:=AK hk
          obtain⟨_,k2⟩:=Dq k2
          cases k2
          rw[CT ((Qx k1).1 q hS)]
          exact af hs q
        · rw[Sx hm];rfl
      · rw[<-e3,e2];exact af hs q
  · rw[<-e0]
    have e4:upd (kill (PI L0 (gS::S)) (Cv L0)) gS (.gh [.slice (some ⟨g,0,none⟩) n m] [.own e n (Mg cs off vc)])=Cv ((gS,.gh [.slice (some ⟨g,0,none⟩) n m] [.own e n (Mg cs off vc)])::L1):=by
      rw[D8]
      funext q
      by_cases hq:q=gS
      · subst hq;rw[upd_same,upd_same]
      · rw[upd_ne _ _ hq,upd_ne _ _ hq];exact Vo hk hq
    rw[e4]
    exact k
theorem AaY{α:Type}{f:α->List V}{l:List α}{y0:α}{i:Int}{g off m n es:Nat}{e:TypeId}{c:V}{dd:TyD}{L0 L1:PL}{vc:List V}(o:Nat)(x':α)(S:zN)(hx:adO L x=some (.tok (.pointer (some ⟨g,off,none⟩))))(ho:off=i.toNat * es+o)(ht:tb s=some dd)
    (hg:lk L gS=some (.gh [.slice (some ⟨g,0,none⟩) n m] [.own e n (l.flatMap f)])) (hy:OY L y=some c) (h0:(!(yT y).contains gS&& !S.contains gS)=true) (hvc:re (Cv L) y vc) (hn:(Nat.beq vc.length dd.size&&Nat.ble (o+dd.size) es)=true) (hk0:QH L y c=some L0) (hk:Tf L0 S=some L1)
    (hx':Mg (f y0) o vc=f x') (z:∀x,(f x).length=es) (gy:AZ l i=some y0) (hd:∀x,DA (f x)=true) (hd':DA vc=true) (hs:sfY L1) (k:K (Cv ((gS,.gh [.slice (some ⟨g,0,none⟩) n m] [.own e n ((DJ l i x').flatMap f)])::L1))):
    F0 P tb cns ⟨none,.store s x y,t,none⟩ (Cv L) K:=by
  simp only[Aa]at hn
  subst ho
  have hn1:vc.length=dd.size:=CL hn.1
  have hn2:=nb hn.2
  obtain⟨g1,g2,g3⟩:=Ea gy
  have hfl:i.toNat * es+o+dd.size<=(l.flatMap f).length:=by
    rw[Bh z]
    have:(i.toNat+1) * es<=l.length * es:=CA _ (by omega)
    rw[C4,Dn]at this
    omega
  exact AaX S hx ht hg hy h0 hvc hn1 hfl hk0 hk (sdF hd l) hd' hs (by rw[g9 z gy (by rw[hn1];exact hn2) hx'];exact k)
theorem qSt{α:Type}{f:α->List V}{l:List α}{y0:α}{i:Int}{g off m n es:Nat}{e:TypeId}{c:V}{dd:TyD}{L0 L1:PL}(o:Nat)(x':α)(S:zN)(hx:adO L x=some (.tok (.pointer (some ⟨g,off,none⟩))))(ho:off=i.toNat * es+o)(ht:tb s=some dd)
    (hg:lk L gS=some (.gh [.slice (some ⟨g,0,none⟩) n m] [.own e n (l.flatMap f)])) (hy:OY L y=some c) (h0:(c.isArg&&(!(yT y).contains gS&& !S.contains gS))=true) (hn:(Nat.beq (GJ c).length dd.size&&Nat.ble (o+dd.size) es)=true) (hk0:QH L y c=some L0) (hk:Tf L0 S=some L1)
    (hx':Mg (f y0) o (GJ c)=f x') (z:∀x,(f x).length=es) (gy:AZ l i=some y0) (hd:∀x,DA (f x)=true) (hd':DA (GJ c)=true) (hs:sfY L1) (k:K (Cv ((gS,.gh [.slice (some ⟨g,0,none⟩) n m] [.own e n ((DJ l i x').flatMap f)])::L1))):
    F0 P tb cns ⟨none,.store s x y,t,none⟩ (Cv L) K:=by
  rw[Aa]at h0
  exact AaY o x' S hx ho ht hg hy h0.2 (.inl ⟨by rw[DH hy];exact h0.1,by rw[DH hy]⟩) hn hk0 hk hx' z gy hd hd' hs k
section
variable {α:Type}{f:α->List V}{l:List α}{e:TypeId}
theorem gLb{q b:Nat}(A C:List V)(hs:lk L b=some (.box (A++.own e l.length (l.flatMap f)::C)))(hq:lk L q=none)(hsq:Nat.beq b q=false)(hn:0 < l.length)
    (h:∀g m,K (Cv ((q,.gh [.slice (some ⟨g,0,none⟩) l.length m] [.own e l.length (l.flatMap f)])::(b,.box (A++.tok (.slice (some ⟨g,0,none⟩) l.length m)::C))::L))):Gh P nt bx (Cv L) K:=
  ZH (CT hs) (by rw[Nd,hq];rfl) (λe=>by rw[e]at hsq;simp at hsq) (lK (A:=A) (C:=C)) hn (λ_=>rfl) (λ_=>rfl) λg m=>MA (h g m)
theorem gLs{q b:Nat}(hs:lk L b=some (.own e l.length (l.flatMap f)))(hq:lk L q=none)(hsq:Nat.beq b q=false)(hn:0 < l.length)
    (h:∀g m,K (Cv ((q,.gh [.slice (some ⟨g,0,none⟩) l.length m] [.own e l.length (l.flatMap f)])::(b,.tok (.slice (some ⟨g,0,none⟩) l.length m))::L))):Gh P nt bx (Cv L) K:=
  ZH (CT hs) (by rw[Nd,hq];rfl) (λe=>by rw[e]at hsq;simp at hsq) lL hn (λ_=>rfl) (λ_=>rfl) λg m=>MA (h g m)
theorem gDb{q b n:Nat}{u:Value}(A C:List V)(hs:lk L b=some (.box (A++.tok u::C)))(hq:lk L q=some (.gh [u] [.own e n (l.flatMap f)]))(hsq:Nat.beq b q=false)(hn:n=l.length)
    (h:K (Cv ((q,.undef)::(b,.box (A++.own e l.length (l.flatMap f)::C))::L))):Gh P nt bx (Cv L) K:=by
  subst hn
  exact ZG (CT hs) (CT hq) (λe=>by rw[e]at hsq;simp at hsq) (kz (A:=A) (C:=C)) rfl rfl (MA h)
theorem gDs{q b n:Nat}{u:Value}(hs:lk L b=some (.tok u))(hq:lk L q=some (.gh [u] [.own e n (l.flatMap f)]))(hsq:Nat.beq b q=false)(hn:n=l.length)
    (h:K (Cv ((q,.undef)::(b,.own e l.length (l.flatMap f))::L))):Gh P nt bx (Cv L) K:=by
  subst hn
  exact ZG (CT hs) (CT hq) (λe=>by rw[e]at hsq;simp at hsq) kA rfl rfl (MA h)
theorem gSb{q b:Nat}(A C:List V)(hs:lk L b=some (.box (A++.own e l.length (l.flatMap f)::C)))(hq:lk L q=none)(hsq:Nat.beq b q=false)(h1:∀x,Lc (f x)=true)
    (h:∀(U:Nat->Value) (us:List Value),(∀i,i < l.length->U i=us.getD i undef)->K (Cv ((q,.gh us (l.map λx=>E0 (f x)))::(b,.box (A++.own e (BW 0 l).length ((BW 0 l).flatMap (pE f U))::C))::L))):Gh P nt bx (Cv L) K:=
  kX (CT hs) (by rw[Nd,hq];rfl) (λe=>by rw[e]at hsq;simp at hsq) (jM h1 (A:=A) (C:=C)) (λ_=>rfl) (λ_=>rfl) λU us _ hU=>MA (h U us hU)
theorem gJb[BEq α][LawfulBEq α]{q b n:Nat}{cs:List V}{us:List Value}{U:Nat->Value}(A C:List V)(L':List (Nat×α ⊕ α))(hs:lk L b=some (.box (A++.own e n cs::C)))(hc:V.own e n cs=.own e L'.length (L'.flatMap (mE f U)))(hq:lk L q=some (.gh us (l.map λx=>E0 (f x))))(hsq:Nat.beq b q=false)(h1:∀x,Lc (f x)=true)(hU:∀i,i < l.length->U i=us.getD i undef)(hok:ZU l L' []=true)
    (h:K (Cv ((q,.undef)::(b,.box (A++.own e (L'.map getM).length ((L'.map getM).flatMap f)::C))::L))):Gh P nt bx (Cv L) K:=
  o6 (CT (by rw[hs,hc])) (CT hq) rfl (λe=>by rw[e]at hsq;simp at hsq) (ls h1 (A:=A) (C:=C)) hU hok rfl rfl (MA h)
variable {β:Type}{f2:β->List V}{l2:List β}{e2:TypeId}{n:Nat}{u1:Value}{y0:α}{i:Int}{es:Nat}
theorem gLg(o:Nat)(hs:lk L gU=some (.gh [u1] [.own e n (l.flatMap f)]))(hq:lk L gS=none)(z:∀x,(f x).length=es)(gy:AZ l i=some y0)(ho:Nat.ble (o+1) es=true)(hv:(f y0)[o]? =some (.own e2 l2.length (l2.flatMap f2)))(hn:0 < l2.length)
    (h:∀g m,K (Cv ((gS,.gh [.slice (some ⟨g,0,none⟩) l2.length m] [.own e2 l2.length (l2.flatMap f2)])::(gU,.gh [u1] [.own e n ((l.flatMap f).set (i.toNat * es+o) (.tok (.slice (some ⟨g,0,none⟩) l2.length m)))])::L))):Gh P nt bx (Cv L) K:=by
  have hk:(l.flatMap f)[i.toNat * es+o]? =some (.own e2 l2.length (l2.flatMap f2)):=by
    obtain⟨g1,g2,g3⟩:=Ea gy
    have e1:(l.flatMap f).drop (i.toNat * es)=f y0++(l.flatMap f).drop ((i.toNat+1) * es):=by
      rw[Kh z,Kh z]
      obtain⟨hlt,he⟩:=Ch.1 g3
      rw[AR hlt,he,AH]
    rw[<-DF,e1,B4 (by have:=z y0;have:=nb ho;omega),hv]
  exact ZH (CT hs) (by rw[Nd,hq];rfl) (by decide) (pG hk) hn (λ_=>rfl) (λ_=>rfl) λg m=>MA (h g m)
theorem gDg{u2:Value}{n2:Nat}(o:Nat)(x':α)(hs:lk L gU=some (.gh [u1] [.own e n ((l.flatMap f).set (i.toNat * es+o) (.tok u2))]))(hq:lk L gS=some (.gh [u2] [.own e2 n2 (l2.flatMap f2)]))(z:∀x,(f x).length=es)(gy:AZ l i=some y0)(ho:Nat.ble (o+1) es=true)(hn:n2=l2.length)(hx:Mg (f y0) o [.own e2 l2.length (l2.flatMap f2)]=f x')
    (h:K (Cv ((gS,.undef)::(gU,.gh [u1] [.own e n ((DJ l i x').flatMap f)])::L))):Gh P nt bx (Cv L) K:=by
  subst hn
  obtain⟨_,g2⟩:=get_at (dd:=.sc (.bool false)) z gy (o:=o) (nb ho) (Nat.zero_lt_one)
  have hlt:i.toNat * es+o < (l.flatMap f).length:=g2
  have hk:((l.flatMap f).set (i.toNat * es+o) (.tok u2))[i.toNat * es+o]? =some (.tok u2):=List.getElem?_set_self hlt
  refine ZG (CT hs) (CT hq) (by decide) (oM hk) rfl rfl (MA ?_)
  have e1:((l.flatMap f).set (i.toNat * es+o) (.tok u2)).set (i.toNat * es+o) (.own e2 l2.length (l2.flatMap f2))=(DJ l i x').flatMap f:=by
    rw[List.set_set,<-g9 z gy (vs:=[.own e2 l2.length (l2.flatMap f2)]) (nb ho) hx]
    rw[D0,Av hlt]
    simp[Mg]
  rw[e1]
  exact h
end
theorem qP{d:Nat}{f:FuncId}{args:Array Operand}{ts:Array TypeId}{xs:List Operand}{s:Nat}{as cs cs':List V}{r:V}(ha:args.toList=x::xs)(hx:adO L x=some (.cref s 0))(hs:lk L s=some (.box cs))(hpl:cs.all HV=true)(he:erA (Cv L) xs as)(hp:O1 P f cs as cs' r)(k:K (Cv ((d,r)::(s,.box cs')::L)))(hc:cns.contains d=false:=by rfl):
    F0 P tb cns ⟨some d,.call {callee:=.value (.func f),args:=args,argTypes:=ts},t,none⟩ (Cv L) K:=kI (cnF hc) ha (O3 hx) (CT hs) hpl he hp k
def zu(S:zN):Operand->Bool
  |.tmp p=>S.contains p
  |.const (.int _ _)=>true
  |.const (.bool _)=>true
  |.const (.string _)=>true
  |_=>false
theorem qCk{d:Nat}{f:FuncId}{args:Array Operand}{ts:Array TypeId}{n:Nat}{as:List V}{r:V}(ha:args.toList=[x])(hx:OY L x=some (.arg n as))(hs:Ks P f [.arg n as] r)(k:K (Cv ((d,r)::L)))(hc:cns.contains d=false:=by rfl):F0 P tb cns ⟨some d,.call {callee:=.value (.func f),args:=args,argTypes:=ts},t,none⟩ (Cv L) K:=by
  show JZ P cns _ f args.toList (Cv L) K
  unfold JZ
  rw[At (by simpa using hc)]
  refine .inl ⟨?_,r,.inr (.inl ?_),k⟩
  · rw[ha,Bz,DH hx];rfl
  · rw[ha,AC,DH hx];exact hs
theorem qN{d:Nat}{f:FuncId}{args:Array Operand}{ts:Array TypeId}{n:Nat}{as cs:List V}(hc:cns.contains d=true)(hb:nbL L d=true)(ha:args.toList=[x])(hx:OY L x=some (.arg n as))(hp:NewAt P f [.arg n as] cs)(k:K (Cv ((d,.box cs)::L))):
    F0 P tb cns ⟨some d,.call {callee:=.value (.func f),args:=args,argTypes:=ts},t,none⟩ (Cv L) K:=by
  refine kH hc (Xc hb) ?_ ?_ hp k
  · rw[ha,Bz,DH hx];rfl
  · rw[ha,AC,DH hx];rfl
theorem eL(htb:IG P tb){f:FuncId}{nt:Nat}{bx:zN}{rs:List ResultVar}{l:LC}{args:List V}{r:V}(hl:Lit P f nt bx rs l)(hlen:args.length<=nt)(hargs:args.all JX=true)(hr:fB r=true)(h:LS P nt bx l (Fc (args.map MY)) (mS tb rs r)):Ks P f args r:=by
  obtain⟨⟨fn,c,h1,h2,h3,rfl,rfl,h6,h7⟩,hn,hL⟩:=hl
  exact jK htb h1 h2 h3 bx hlen hargs hr hn (h c h6 h7 hL)
end
def OR{α:Type}(x:List (Nat×α)):List (Nat×α ⊕ α):=x.map Sum.inl
def RZ{α:Type}(x:List α):List (Nat×α ⊕ α):=x.map Sum.inr
theorem bQ{α:Type}{x:List (Nat×α)}:x.length=(OR x).length:=(Ak _).symm
theorem lB{α:Type}{x:List α}:x.length=(RZ x).length:=(Ak _).symm
theorem rJ{α:Type}{f:α->List V}{U:Nat->Value}{x:List (Nat×α)}:x.flatMap (pE f U)=(OR x).flatMap (mE f U):=by unfold OR;rw[List.flatMap_map];rfl
theorem wC{α:Type}{f:α->List V}{U:Nat->Value}{x:List α}:x.flatMap f=(RZ x).flatMap (mE f U):=by unfold RZ;rw[List.flatMap_map];rfl
theorem qA2{P:Program}{tb:Tb}{cns:zN}{L:PL}{K:PS->Prop}{s d t:Nat}{α:Type}(f:α->List V)(l m:List α){n0 m0 es p q:Nat}{e:TypeId}{cs0 ds:List V}{c:V}{L2:PL}(h:s7 tb L s p q=some (n0,cs0,es,m0,ds,c,L2))(he:lk L p=some (.own e n0 cs0))(hd:ds.length=m0 * es)(h1:n0=l.length)(h2:cs0=l.flatMap f)(h3:m0=m.length)(ha:TW c=m.flatMap f)(hl:l.length+m.length<=lim)
    (k:K (Cv ((d,.own e (l++m).length ((l++m).flatMap f))::L2))):F0 P tb cns ⟨some d,.call {callee:=.builtin .append,args:= #[.tmp p,.tmp q],argTypes:= #[s,s]},t,none⟩ (Cv L) K:=by
  subst h1 h2 h3
  exact qA f l m h he hd ha hl k
theorem XX:E1 []=true:=rfl
theorem RE{c:V}{cs:List V}(h:deep c=true)(k:E1 cs=true):E1 (c::cs)=true:=by rw[E1,h,k];rfl
theorem dcf{α:Type}{f:α->List V}(h:∀x,E1 (f x)=true)(l:List α):E1 (l.flatMap f)=true:=U1.2 λc hc=>by
  obtain⟨a,_,hc⟩:=Cj.1 hc
  exact U1.1 (h a) c hc
theorem XU{α:Type}{f:α->List V}(h:∀x,E1 (f x)=true)(e:TypeId)(l:List α):deep (.own e l.length (l.flatMap f))=true:=by rw[deep];exact dcf h l
theorem sgh{us:List Value}{e:TypeId}{n k:Nat}{cs:List V}{u:Value}(h:DA cs=true):J6 (.gh us [.own e n (cs.set k (.tok u))])=true:=by
  show DA [_]=true
  rw[DA,Of,Aa]
  refine⟨Lg.2 λc hc=>?_,rfl⟩
  rcases Ft hc with h1|h1
  · exact Lg.1 h c h1
  · subst h1;rfl
theorem dag{cs:List V}(h:E1 cs=true):deep (.agg cs)=true:=by rw[deep];exact h
theorem UW:∀{cs:List V},KR cs=true↔∀c∈cs,Lq c=true
  |[]=>by simp[KR]
  |c::cs=>by rw[KR,Aa,UW (cs:=cs)];simp
theorem acc{c:V}{cs:List V}(h:Lq c=true)(k:KR cs=true):KR (c::cs)=true:=by rw[KR,h,k];rfl
theorem acf{α:Type}{f:α->List V}(h:∀x,KR (f x)=true)(l:List α):KR (l.flatMap f)=true:=UW.2 λc hc=>by
  obtain⟨a,_,hc⟩:=Cj.1 hc
  exact UW.1 (h a) c hc
theorem aca{α:Type}{f:α->List V}(h:∀x,KR (f x)=true)(l:List α):Lq (.arg l.length (l.flatMap f))=true:=by rw[Lq];exact acf h l
theorem sO{c:V}(h:deep c=true):Th c=true:=sI h
theorem sA{c:V}(h:Lq c=true):Th c=true:=nq h
theorem V0{c:V}{cs:List V}(h:Th c=true)(k:cs.all Th=true):(c::cs).all Th=true:=by rw[Bz,h,k];rfl
theorem Zd{c:V}{cs:List V}(h:Sk c=true)(k:D4 cs=true):D4 (c::cs)=true:=by rw[D4,h,k];rfl
theorem vag{cs cs':List V}(h:JY cs=cs'):MY (.agg cs)=.agg cs':=by rw[MY,h]
theorem SU{c:V}{cs:List V}(h:JX c=true)(k:cs.all JX=true):(c::cs).all JX=true:=by rw[Bz,h,k];rfl
theorem mvv{c c':V}{cs cs':List V}(h:MY c=c')(k:cs.map MY=cs'):(c::cs).map MY=c'::cs':=by rw[AC,h,k]
theorem aw{c c':V}{cs cs':List V}(h:MY c=c')(k:JY cs=cs'):JY (c::cs)=c'::cs':=by rw[JY,h,k]
theorem Yf:∀(a b:List V),JY (a++b)=JY a++JY b
  |[],_=>rfl
  |c::a,b=>by rw[Da,JY,JY,Yf a b,Da]
theorem Ws{α:Type}{f g:α->List V}(h:∀x,JY (f x)=g x):∀l:List α,JY (l.flatMap f)=l.flatMap g
  |[]=>rfl
  |x::l=>by rw[AH,AH,Yf,h,Ws h l]
theorem Ru{α:Type}{f g:α->List V}(h:∀x,JY (f x)=g x)(l:List α):MY (.dat l.length (l.flatMap f))=.arg l.length (l.flatMap g):=by rw[MY,Ws h]
theorem aE:∀{a b:List V},D4 a=true->D4 b=true->D4 (a++b)=true
  |[],_,_,h=>h
  |c::a,b,h,k=>by
    rw[D4,Aa]at h
    rw[Da,D4,h.1,aE h.2 k];rfl
theorem Ye{α:Type}{f:α->List V}(h:∀x,D4 (f x)=true):∀l:List α,D4 (l.flatMap f)=true
  |[]=>rfl
  |x::l=>by rw[AH];exact aE (h x) (Ye h l)
theorem Nx{α:Type}{f:α->List V}(h:∀x,D4 (f x)=true)(l:List α):Sk (.dat l.length (l.flatMap f))=true:=Ye h l
end
section
mutual
def frz:V->V
  |.own _ n cs=>.arg n (U9 cs)
  |.dat n cs=>.dat n cs
  |.arg n cs=>.arg n cs
  |.pin u n cs=>.pin u n cs
  |.int k n=>.int k n
  |.bool b=>.bool b
  |.str s=>.str s
  |.fn f=>.fn f
  |.tok u=>.tok u
  |_=>.undef
def U9:List V->List V
  |[]=>[]
  |c::cs=>frz c::U9 cs
end
theorem bz{cs:List V}(h:cs=[]):U9 cs=[]:=by subst h;rfl
section
variable {P:Program}{w:World}{St St':Nat->Nat->Prop}
mutual
theorem Ow.frz(hs:∀b o,St b o->St' b o):∀(c:V) {v:Value}{bs:zN},Ow P w St c v bs->c.Ds=true->(∀g∈bs,∀o,St' g o)->Rd w St' (frz c) v
  |.int _ _,_,_,h,_,_=>h.2
  |.bool _,_,_,h,_,_=>h.2
  |.str _,_,_,h,_,_=>h.2
  |.dat n cs,_,_,h,_,_=>Rd.mono hs (λ_ _ _=>rfl) (.dat n cs) h.2
  |.arg n cs,_,_,h,_,_=>Rd.mono hs (λ_ _ _=>rfl) (.arg n cs) h.2
  |.pin u n cs,_,_,h,_,_=>Rd.mono hs (λ_ _ _=>rfl) (.pin u n cs) h.2
  |.own e n cs,v,bs,⟨hn,xs,bs',h1,h2,h3,h4,h5⟩,_,hg=>by
    have hl:=h1.1
    rcases h1.2 with⟨rfl,rfl⟩|⟨g,cap,cur,rfl,hg1,hh,hc,hm,hsz,hx⟩
    · exact⟨Bq hn,none,0,rfl,AT _,λh=>absurd h (by omega),λhz=>bz (h5 hz)⟩
    · have hgo:=hg g (by rw[h3];simp[Value.ownBlock])
      refine⟨Bq hn,_,cap,rfl,hc,λ_=>⟨g,0,rfl,λ_=>hgo,?_⟩,λhz=>bz (h5 hz)⟩
      refine A7.frz hs cs 0 h2 hgo (λj u hu=>?_) (λg' hg'=>hg g' (by rw[h3];exact Ar _ hg'))
      have hj:j < n * QS P e:=by
        rw[<-hl]
        rcases A9 j xs.length with h|h
        · exact h
        · rw[A2 h]at hu;cases hu
      rw[CR]
      simp only[World.cell?,hh]
      rw[<-hx,EA,Av hj]at hu
      simpa using hu
  |.agg _,_,_,_,h,_=>by cases h
  |.tup _,_,_,_,h,_=>by cases h
  |.box _,_,_,h,_,_=>h.elim
  |.uni _ _ _,_,_,h,_,_=>h.elim
  |.same _,_,_,h,_,_=>h.elim
  |.val _ _,_,_,h,_,_=>h.elim
  |.cref _ _,_,_,h,_,_=>h.elim
  |.adr _ _,_,_,h,_,_=>h.elim
  |.gh _ _,_,_,h,_,_=>h.elim
  |.fn _,_,_,h,_,_=>h.2
  |.tok _,_,_,h,_,_=>h.2
  |.undef,_,_,h,_,_=>h.elim
theorem A7.frz(hs:∀b o,St b o->St' b o){g:Nat}:∀(cs:List V) (off:Nat) {us:List Value}{bs:zN},A7 P w St cs us bs->(∀o,St' g o)->(∀(j:Nat) (u:Value),us[j]? =some u->w.cell? ⟨g,off+j,none⟩=some u)->(∀g∈bs,∀o,St' g o)->Dp w St' g off (U9 cs)
  |[],_,_,_,_,_,_,_=>trivial
  |c::cs,off,_,_,⟨u,us',b1,b2,e1,e2,hc,h1,h2⟩,hgo,hu,hg=>by
    have h0:=hu 0 u (by rw[e1];rfl)
    refine⟨⟨hgo off,u,by simpa using h0,Ow.frz hs c h1 hc (λg' hg'=>hg g' (by rw[e2];exact Az _ hg'))⟩,A7.frz hs cs (off+1) h2 hgo (λj x hx=>?_) (λg' hg'=>hg g' (by rw[e2];exact Ar _ hg'))⟩
    have:=hu (j+1) x (by rw[e1];simpa using hx)
    rw[show off+1+j=off+(j+1)by omega];exact this
end
end
def v7(P:Program)(c c':V):Prop:=
  ∀w St (t:Nat->Value) v bs,Cf P w St t c v bs->bs.Nodup->∃fb b1:zN,(∀g∈fb,g∈bs)∧(∀g∈b1,g∈bs)∧b1.Nodup∧Cf P w (λb o=>St b o∨b∈fb) t c' v b1
section
variable {P:Program}{w:World}{St St':Nat->Nat->Prop}
end
section
variable {P:Program}{nt:Nat}{bx:zN}{σ:PS}{K:PS->Prop}
theorem oW{e:TypeId}{n:Nat}{cs:List V}:v7 P (.own e n cs) (.arg n (U9 cs)):=λw St t v bs h hn=>
  ⟨bs,[],λ_ h=>h,λ_ h=>(by cases h),AG,⟨rfl,Ow.frz (λ_ _ h=>.inl h) (.own e n cs) h rfl (λg hg o=>.inr hg)⟩⟩
theorem kW{s:Nat}{c c':V}(hs:σ s=c)(F:v7 P c c')(hb:(CS c').isSome=(CS c).isSome)(hrf:DI c'=none)
    (h:Gh P nt bx (upd σ s c') K):Gh P nt bx σ K:=by
  rintro base St0 w0 a w ⟨St,B,hS,r1,r2,r3⟩
  have h1:=hS.slot s
  rw[hs]at h1
  obtain⟨fb,b1,q1,q2,q3,q4⟩:=F w St (tm a) (tm a s) (B s) h1 (hS.nodup s)
  have hB:∀r,r≠s->upd B s b1 r=B r:=λr e=>upd_ne _ _ e
  have hσ:∀r,r≠s->upd σ s c' r=σ r:=λr e=>upd_ne _ _ e
  have hin:∀r,∀g∈upd B s b1 r,g∈B r:=λr g hg=>by
    by_cases e:r=s
    · subst e;rw[upd_same]at hg;exact q2 g hg
    · rw[hB r e]at hg;exact hg
  refine h base St0 w0 a w ⟨λb o=>St b o∨b∈fb,upd B s b1,{hS with
    slot:=λr=>?_
    boxes:=λr cs e=>?_
    crefs:=λr b e=>?_
    nodup:=λr=>?_
    apart:=λr t hrt g hg hg2=>hS.apart r t hrt g (hin r g hg) (hin t g hg2)
    hapart:=λr g hg=>hS.hapart r g (hin r g hg)
    range:=λr g hg=>hS.range r g (hin r g hg)
    st:=λb o hbo=>hbo.elim (hS.st b o) (λhf=>(hS.range s b (q1 b hf)).2)
    gl:=hS.gl.of (λb hb o=>.inl (hb o)) (λ_ _ _=>rfl)},r1,λb o hbb=>⟨λhbo=>hbo.elim (r2 b o hbb).1 (λhf=>absurd hbb (hS.range s b (q1 b hf)).1),λh0=>.inl ((r2 b o hbb).2 h0)⟩,r3⟩
  · by_cases e:r=s
    · subst e;rw[upd_same,upd_same];exact q4
    · rw[hσ r e,hB r e]
      exact(hS.slot r).mono (λ_ _ h=>.inl h) (λ_ _ _=>rfl) (λg hg=>⟨rfl,λo=>⟨λh=>h.elim id (λhf=>absurd (q1 g hf) (hS.apart r s e g hg)),.inl⟩⟩) (λ_ _=>rfl)
  · by_cases e1:r=s
    · subst e1
      rw[upd_same]at e
      rw[e]at hb
      cases hx:CS c with
      |none=>rw[hx]at hb;cases hb
      |some ds=>exact hS.boxes r ds (by rw[hs];exact hx)
    · rw[hσ r e1]at e;exact hS.boxes r cs e
  · by_cases e1:r=s
    · subst e1;rw[upd_same,hrf]at e;cases e
    · rw[hσ r e1]at e
      obtain⟨cs,hc⟩:=hS.crefs r b e
      by_cases e2:b=s
      · subst e2
        rw[hs]at hc
        rw[upd_same]
        cases hx:CS c' with
        |none=>rw[hx,hc]at hb;cases hb
        |some ds=>exact⟨ds,rfl⟩
      · exact⟨cs,by rw[hσ b e2];exact hc⟩
  · by_cases e:r=s
    · subst e;rw[upd_same];exact q3
    · rw[hB r e];exact hS.nodup r
end
theorem bw:∀(a b:List V),U9 (a++b)=U9 a++U9 b
  |[],b=>rfl
  |c::a,b=>by rw[Da,U9,U9,bw a b,Da]
theorem Yp{α:Type}{f g:α->List V}(h:∀x,U9 (f x)=g x):∀l:List α,U9 (l.flatMap f)=l.flatMap g
  |[]=>rfl
  |x::l=>by rw[AH,AH,bw,h,Yp h l]
section
variable {P:Program}{nt:Nat}{bx:zN}{K:PS->Prop}{L:PL}{α:Type}{f g:α->List V}{l:List α}{e:TypeId}
theorem gFs{b:Nat}(hs:lk L b=some (.own e l.length (l.flatMap f)))(hf:∀x,U9 (f x)=g x)
    (h:K (Cv ((b,.arg l.length (l.flatMap g))::L))):Gh P nt bx (Cv L) K:=by
  rw[<-Yp hf l]at h
  exact kW (CT hs) oW rfl rfl (MA h)
end
end
end Go.Proofs.YthghcmmlmfgkbaaGreatDoor
