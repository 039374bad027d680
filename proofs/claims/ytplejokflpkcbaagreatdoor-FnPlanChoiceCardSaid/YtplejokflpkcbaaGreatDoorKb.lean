/-
  A machine on data, part 2: code, the rules of the printed walks, loops. Over no program; no conditions.
-/
import Derived.Test.YtplejokflpkcbaaGreatDoorKq
open Go.RowKit
set_option linter.unusedVariables false
set_option linter.unusedSimpArgs false
namespace Go.Proofs.YtplejokflpkcbaaGreatDoor
theorem p2{α β:Type}{a a':α}{b b':β}(h:(a,b)=(a',b')):a=a'∧b=b':=Prod.mk.inj h
theorem p3{α β γ:Type}{a a':α}{b b':β}{c c':γ}(h:(a,b,c)=(a',b',c')):a=a'∧b=b'∧c=c':=⟨(p2 h).1,p2 (p2 h).2⟩
theorem p4{α β γ δ:Type}{a a':α}{b b':β}{c c':γ}{d d':δ}(h:(a,b,c,d)=(a',b',c',d')):a=a'∧b=b'∧c=c'∧d=d':=⟨(p2 h).1,p3 (p2 h).2⟩
theorem p5{α β γ δ ε:Type}{a a':α}{b b':β}{c c':γ}{d d':δ}{e e':ε}(h:(a,b,c,d,e)=(a',b',c',d',e')):a=a'∧b=b'∧c=c'∧d=d'∧e=e':=⟨(p2 h).1,p4 (p2 h).2⟩
section
variable {P:Program}{tb:Tb}{cns:List Nat}{σ:PS}{K:PS->Prop}{d s t:Nat}{x y z:Operand}
theorem EP{op:Op}{q:Nat}{e b:Bool}(g:e=b)(h:(gOp cns d op,σ q)=(true,.bool e))(k:F0 P tb cns ⟨some d,op,t,none⟩ σ K):F0 P tb cns ⟨some d,op,t,some (some q,b)⟩ σ K:=by
 subst g;obtain⟨h1,h2⟩:=p2 h;exact uu h1 h2 k
theorem ed{o:LO}{os:List LO}{R W:List Nat}{fps:List (List Nat×List Nat)}(h:(Vt R W o.op σ,adB cns R o σ)=(true,true))(k:F0 P tb cns o σ (λσ'=>Wo P tb cns fps os σ' K)):Wo P tb cns ((R,W)::fps) (o::os) σ K:=evd (p2 h).1 (p2 h).2 k
end
def vA(σ:PS):List (Nat×V)->List V
  |[]=>[]
  |(s,_)::L=>σ s::vA σ L
def vB:List (Nat×V)->List V
  |[]=>[]
  |(_,c)::L=>c::vB L
theorem AU{σ:PS}:∀{L:List (Nat×V)},vA σ L=vB L->YW σ L
  |[],_=>trivial
  |(s,c)::L,h=>by
    injection h with h1 h2
    exact⟨h1 ▸ kr,AU h2⟩
section
variable {P:Program}{nt:Nat}{bx:List Nat}{σ:PS}{Q:Exit->PS->Prop}{tb:Tb}{cns:List Nat}
theorem kp{l:LC}(L:List (Nat×V))(h1:vA σ L=vB L)(h2:okR L=true)(h:LS P nt bx l (Ce L) Q):LS P nt bx l σ Q:=Nl L (AU h1) h2 h
theorem en{l:LC}(L:List (Nat×V))(h1:vA σ L=vB L)(h2:okR L=true)(h:LS P nt bx l (Ce L) Q):Vr P tb cns [] σ (λσ'=>LS P nt bx l σ' Q):=Nl L (AU h1) h2 h
end
end Go.Proofs.YtplejokflpkcbaaGreatDoor
namespace Go.Proofs.YtplejokflpkcbaaGreatDoor
abbrev PL:=List (Nat×V)
def RZ{α:Type}(b:Bool)(x:Option α):Option α:=match b with
  |true=>x
  |false=>none
theorem Dq{α:Type}{b:Bool}{x:Option α}{r:α}(h:RZ b x=some r):b=true∧x=some r:=by
  cases b with
  |true=>exact⟨rfl,h⟩
  |false=>cases h
def qe:V->Option V
  |.int k n=>some (.int k n)
  |.bool b=>some (.bool b)
  |.str s=>some (.str s)
  |.own e n cs=>some (.own e n cs)
  |.dat n cs=>some (.dat n cs)
  |.arg n cs=>some (.arg n cs)
  |.pin u n cs=>some (.pin u n cs)
  |.fn f=>some (.fn f)
  |.tok u=>some (.tok u)
  |_=>none
def br:List V->Option (List V)
  |[]=>some []
  |c::cs=>Aa (qe c) λa=>Aa (br cs) λas=>some (a::as)
def qf:V->Option V
  |.agg cs=>Aa (br cs) λas=>some (.agg as)
  |c=>qe c
def iX:List V->Option (List V)
  |[]=>some []
  |c::cs=>Aa (qf c) λa=>Aa (iX cs) λas=>some (a::as)
def VP:V->Option V
  |.tup cs=>Aa (iX cs) λas=>some (.tup as)
  |.box cs=>Aa (br cs) λas=>some (.box as)
  |.cref s o=>some (.cref s o)
  |.adr cs o=>some (.adr cs o)
  |.same s=>some (.same s)
  |.val s u=>some (.val s u)
  |.uni e n cs=>some (.uni e n cs)
  |c=>qf c
theorem ew{c d:V}(h:qe c=some d):d=c:=by cases c<;>first|(cases h;rfl)|cases h
theorem WY:∀{cs ds:List V},br cs=some ds->ds=cs
  |[],_,h=>by cases h;rfl
  |c::cs,_,h=>by
    rw[br]at h
    obtain⟨a,h1,h⟩:=AQ h
    obtain⟨as,h2,h⟩:=AQ h
    cases h;rw[ew h1,WY h2]
theorem ey{c d:V}(h:qf c=some d):d=c:=by
  cases c with
  |agg cs=>obtain⟨as,h2,h⟩:=AQ (show Aa (br cs) _=_ from h);cases h;rw[WY h2]
  |_=>exact ew h
theorem eB:∀{cs ds:List V},iX cs=some ds->ds=cs
  |[],_,h=>by cases h;rfl
  |c::cs,_,h=>by
    rw[iX]at h
    obtain⟨a,h1,h⟩:=AQ h
    obtain⟨as,h2,h⟩:=AQ h
    cases h;rw[ey h1,eB h2]
theorem GN{c d:V}(h:VP c=some d):d=c:=by
  cases c with
  |tup cs=>obtain⟨as,h2,h⟩:=AQ (show Aa (iX cs) _=_ from h);cases h;rw[eB h2]
  |box cs=>obtain⟨as,h2,h⟩:=AQ (show Aa (br cs) _=_ from h);cases h;rw[WY h2]
  |cref s o=>cases h;rfl
  |adr s o=>cases h;rfl
  |same s=>cases h;rfl
  |val s u=>cases h;rfl
  |uni e n cs=>cases h;rfl
  |_=>exact ey h
def lk:PL->Nat->Option V
  |[],_=>none
  |(s,c)::L,q=>match Nat.beq q s with
    |true=>some c
    |false=>lk L q
theorem D4(s:Nat)(c:V)(L:PL):Ce ((s,c)::L)=upd (Ce L) s c:=rfl
theorem NS:∀(L:PL) (q:Nat),Ce L q=(lk L q).getD .undef
  |[],_=>rfl
  |(s,c)::L,q=>by
    rw[lk,D4]
    cases h:Nat.beq q s with
    |true=>rw[CN h,upd_same];rfl
    |false=>rw[upd_ne _ _ (Nat.ne_of_beq_eq_false h)];exact NS L q
theorem CO{L:PL}{q:Nat}{c:V}(h:lk L q=some c):Ce L q=c:=by rw[NS,h];rfl
def Pk(L:PL):Operand->Option V
  |.tmp s=>lk L s
  |.const v=>VP (cV v)
  |.func f=>some (.fn f)
  |_=>none
theorem Dy{L:PL}{x:Operand}{c:V}(h:Pk L x=some c):Cl (Ce L) x=c:=by
  cases x with
  |tmp s=>exact CO h
  |const v=>exact(GN h).symm
  |func f=>cases h;rfl
  |_=>cases h
def adO(L:PL):Operand->Option V
  |.tmp s=>Aa (lk L s) λc=>match c with
    |.box _=>some (.cref s 0)
    |c=>some c
  |.global g=>VP (bM g)
  |_=>none
theorem Pp{L:PL}{x:Operand}{c:V}(h:adO L x=some c):KC (Ce L) x=c:=by
  cases x with
  |tmp s=>
    obtain⟨a,h1,h⟩:=AQ (show Aa (lk L s) _=_ from h)
    have:=CO h1
    simp only[KC,this]
    cases a<;>(cases h;rfl)
  |global g=>exact(GN h).symm
  |_=>cases h
def nf:V->Bool
  |.own .. =>true
  |_=>false
def nh:V->Bool
  |.agg cs=>cs.any nf
  |c=>nf c
def wU:V->Bool
  |.tup cs=>cs.any nh
  |c=>nh c
theorem ng{c:V}(h:nf c=false):RR c=c:=by cases c<;>first|rfl|cases h
theorem b9:∀{cs:List V},cs.any nf=false->cs.map RR=cs
  |[],_=>rfl
  |c::cs,h=>by
    rw[EM,CF]at h
    rw[AO,ng h.1,b9 h.2]
theorem e8{c:V}(h:nh c=false):dg2 c=c:=by
  cases c with
  |agg cs=>rw[dg2,b9 h]
  |_=>first|rfl|cases h
theorem ca:∀{cs:List V},cs.any nh=false->cs.map dg2=cs
  |[],_=>rfl
  |c::cs,h=>by
    rw[EM,CF]at h
    rw[AO,e8 h.1,ca h.2]
theorem sH{c:V}(h:wU c=false):dg c=c:=by
  cases c with
  |tup cs=>rw[dg,ca h]
  |agg cs=>exact e8 (c:=.agg cs) h
  |_=>first|rfl|cases h
theorem cA(σ:PS)(s:Nat):upd σ s (σ s)=σ:=by
  funext q
  by_cases e:q=s
  · rw[e,upd_same]
  · rw[upd_ne _ _ e]
def RQ(L:PL)(x:Operand)(c:V):Option PL:=match x with
  |.tmp s=>match wU c with
    |false=>some L
    |true=>Aa (VP (dg c)) λc'=>some ((s,c')::L)
  |_=>some L
theorem Mh{L L':PL}{x:Operand}{c:V}(h:Pk L x=some c)(h2:RQ L x c=some L'):Ce L'=CR (Ce L) x:=by
  cases x with
  |tmp s=>
    have e:=CO h
    simp only[RQ,CR]at h2⊢
    split at h2
    · rename_i ho
      cases h2
      rw[e,sH ho,<-e,cA]
    · obtain⟨c',h3,h2⟩:=AQ h2
      cases h2
      rw[GN h3,D4,e]
  |_=>cases h2;rfl
def mvO(L:PL):Operand->Option V
  |.tmp s=>Aa (lk L s) λc=>match c with
    |.uni _ _ _=>some (.same s)
    |.same b=>some (.same b)
    |.box _=>some (.cref s 0)
    |.cref b o=>some (.cref b o)
    |c=>RZ c.isVal (VP (dg c))
  |.const v=>Aa (VP (cV v)) λc=>RZ c.isVal (VP (dg c))
  |_=>none
def W0:Option TyD->Bool
  |some (.sc (.bool false))=>true
  |_=>false
def kEq:IntKind->IntKind->Bool
  |.i64,.i64=>true
  |.u8,.u8=>true
  |k,k'=>decide (k=k')
theorem Z3{k k':IntKind}(h:kEq k k'=true):k=k':=by
  cases k<;>cases k'<;>first|rfl|cases h
def nV(d:Option TyD):List V->List V->Bool
  |[.int k _,.int l _],[.int k' _,.int l' _]=>kEq k k'&&(kEq l l'&&d.elim false TyD.two)
  |_,_=>false
theorem nW{d:Option TyD}{a b:List V}(h:nV d a b=true):nX d a b:=by
  unfold nV at h
  split at h
  · rw[Ab,Ab]at h
    exact⟨Z3 h.1,Z3 h.2.1,h.2.2⟩
  · cases h
def l4(d:Option TyD):BinOp->V->V->Bool
  |.shl,.int _ _,.int _ b=>decide (0<=b)
  |.shr,.int _ _,.int _ b=>decide (0<=b)
  |.quo,.int k _,.int k' b=>kEq k k'&& !decide (b=0)
  |.rem,.int k _,.int k' b=>kEq k k'&& !decide (b=0)
  |_,.int k _,.int k' _=>kEq k k'
  |.eql,.str _,.str _=>true
  |.neq,.str _,.str _=>true
  |.lss,.str _,.str _=>true
  |.leq,.str _,.str _=>true
  |.gtr,.str _,.str _=>true
  |.geq,.str _,.str _=>true
  |.eql,.agg a,.agg b=>nV d a b
  |.neq,.agg a,.agg b=>nV d a b
  |.eql,.bool _,.bool _=>W0 d
  |.neq,.bool _,.bool _=>W0 d
  |_,_,_=>false
def unB:UnOp->V->Bool
  |.not,.bool _=>true
  |.neg,.int _ _=>true
  |_,_=>false
def cvB(tb:Tb)(s d:TypeId)(x:V):Option V:=match tb s,tb d,x with
  |some _,some (.sc (.int k _)),.int _ n=>some (.int k (k.wrap n))
  |_,_,_=>none
def bxL(L:PL)(s:Nat):Option (List V):=Aa (lk L s) C2
def jD(tb:Tb)(L:PL)(t:TypeId)(x:Operand):Option V:=Aa (tb t) λd=>Aa (adO L x) λc=>match c with
  |.cref s off=>Aa (bxL L s) λcs=>RZ (Nat.ble (off+d.size) cs.length) (VP (getCells d cs off))
  |.adr cs off=>RZ (Nat.ble (off+d.size) cs.length) (VP (getCells d cs off))
  |_=>none
def ptF(k:Nat):Value->Option V
  |.pointer (some ⟨g,o,none⟩)=>some (.tok (.pointer (some ⟨g,o+k,none⟩)))
  |_=>none
theorem sJ{k:Nat}{u:Value}{v:V}(h:ptF k u=some v):mI u=true∧tokF k u=v:=by
  unfold ptF at h
  split at h
  · cases h;exact⟨rfl,rfl⟩
  · cases h
def faO(tb:Tb)(L:PL)(t:TypeId)(x:Operand)(f:Nat):Option V:=Aa (tb t) λd=>match d with
  |.st _ _ fs=>Aa (fs[f]?) λp=>Aa (adO L x) λc=>match c with
    |.cref s o=>Aa (bxL L s) λ_=>some (.cref s (o+p.1))
    |.adr cs o=>some (.adr cs (o+p.1))
    |.tok u=>ptF p.1 u
    |_=>none
  |_=>none
def wQ(L:PL)(x:Operand):Option V:=Aa (adO L x) λc=>match c with
  |.cref s o=>Aa (bxL L s) λ_=>some (.cref s o)
  |.adr cs o=>some (.adr cs o)
  |_=>none
def V1:Option TyD->Bool
  |some (.sc (.str []))=>true
  |_=>false
def bF:Option TyD->Bool
  |some (.sl ..)=>true
  |_=>false
def uZ(L:PL)(d:Option TyD):V->Option V
  |.str s=>RZ (V1 d) (some (.int .i64 s.length))
  |.same b=>Aa (lk L b) λc=>match c with
    |.uni _ n _=>RZ (bF d) (some (.int .i64 n))
    |_=>none
  |c=>Aa (Jm c) λp=>RZ (bF d) (some (.int .i64 p.1))
def ba(tb:Tb)(L:PL):Callee->List Operand->List TypeId->Option V
  |.builtin .len,[x],[t]=>Aa (Pk L x) (uZ L (tb t))
  |.builtin .max,[x,y],_=>Aa (Pk L x) λa=>Aa (Pk L y) λb=>match a,b with
    |.int k a,.int _ b=>some (.int k (if a < b then b else a))
    |_,_=>none
  |.builtin .min,[x,y],_=>Aa (Pk L x) λa=>Aa (Pk L y) λb=>match a,b with
    |.int k a,.int _ b=>some (.int k (if b < a then b else a))
    |_,_=>none
  |_,_,_=>none
def cj(tb:Tb)(L:PL):Op->Option V
  |.move x=>mvO L x
  |.pick c a b=>Aa (Pk L c) λq=>match q with
    |.bool e=>match e with
      |true=>Aa (Pk L a) λc=>RZ c.isVal (VP (dg c))
      |false=>Aa (Pk L b) λc=>RZ c.isVal (VP (dg c))
    |_=>none
  |.binOp op t x y _=>Aa (Pk L x) λa=>Aa (Pk L y) λb=>RZ (l4 (tb t) op a b) (VP (cK op a b))
  |.unOp op _ x=>Aa (Pk L x) λa=>RZ (unB op a) (VP (unV op a))
  |.convert s d x=>Aa (Pk L x) λa=>cvB tb s d a
  |.load t x=>jD tb L t x
  |.fieldAddr t x f=>faO tb L t x f
  |.call c=>ba tb L c.callee c.args.toList c.argTypes.toList
  |_=>none
theorem dc{d:Option TyD}(h:W0 d=true):d=some (.sc (.bool false)):=by
  unfold W0 at h
  split at h
  · rfl
  · cases h
theorem V2{d:Option TyD}(h:V1 d=true):d=some (.sc (.str [])):=by
  unfold V1 at h
  split at h
  · rfl
  · cases h
theorem bG{d:Option TyD}(h:bF d=true):∃e es eb ez,d=some (.sl e es eb ez):=by
  unfold bF at h
  split at h
  · exact⟨_,_,_,_,rfl⟩
  · cases h
theorem l5{d:Option TyD}{op:BinOp}{a b:V}(h:l4 d op a b=true):ZE d op a b:=by
  cases a<;>cases b<;>cases op<;>first|(cases h;done)|exact trivial|exact dc h|exact Z3 h|exact nW h|(simp only[l4,AE]at h;exact h)|(simp only[l4,Ab,AC,HQ]at h;exact⟨Z3 h.1,h.2⟩)
theorem th{op:UnOp}{a:V}(h:unB op a=true):unC op a:=by
  cases a<;>cases op<;>first|(cases h;done)|exact trivial
theorem tp{σ:PS}{s:Nat}{c:V}(e:σ s=c)(h:c.isVal=true):mvC σ (.tmp s)∧mvV σ (.tmp s)=dg c:=by
  subst e
  simp only[mvC,mvV]
  cases hc:σ s<;>rw[hc]at h<;>first|(cases h;done)|exact⟨h,rfl⟩
theorem jS{L:PL}{x:Operand}{v:V}(h:mvO L x=some v):mvC (Ce L) x∧mvV (Ce L) x=v:=by
  cases x with
  |tmp s=>
    obtain⟨c,h1,h⟩:=AQ (show Aa (lk L s) _=_ from h)
    have e:=CO h1
    cases c with
    |uni a b c=>cases h;simp only[mvC,mvV,e];exact⟨trivial,trivial⟩
    |same b=>cases h;simp only[mvC,mvV,e];exact⟨trivial,trivial⟩
    |box b=>cases h;simp only[mvC,mvV,e];exact⟨trivial,trivial⟩
    |cref b o=>cases h;simp only[mvC,mvV,e];exact⟨trivial,trivial⟩
    |_=>
      obtain⟨h2,h3⟩:=Dq h
      obtain⟨h4,h5⟩:=tp e h2
      exact⟨h4,h5.trans (GN h3).symm⟩
  |const c=>
    obtain⟨c,h1,h⟩:=AQ (show Aa (VP (cV c)) _=_ from h)
    obtain⟨h2,h3⟩:=Dq h
    have e:=GN h1
    subst e
    exact⟨h2,(GN h3).symm⟩
  |_=>cases h
theorem bO{tb:Tb}{L:PL}{t:TypeId}{x:Operand}{v:V}(h:jD tb L t x=some v):Rq (tb t) (Ce L) (KC (Ce L) x)∧Rr (tb t) (Ce L) (KC (Ce L) x)=v:=by
  obtain⟨d,h1,h⟩:=AQ h
  obtain⟨c,h2,h⟩:=AQ h
  rw[h1,Pp h2]
  simp only[Rq,Rr]
  cases c with
  |cref s off=>
    obtain⟨cs,h3,h⟩:=AQ h
    obtain⟨h4,h⟩:=Dq h
    obtain⟨c,h5,h6⟩:=AQ h3
    have:=CO h5
    simp only[Sy,U0,this,h6]
    exact⟨nb h4,(GN h).symm⟩
  |adr cs off=>
    obtain⟨h4,h⟩:=Dq h
    exact⟨nb h4,(GN h).symm⟩
  |_=>cases h
theorem iQ{tb:Tb}{L:PL}{t:TypeId}{x:Operand}{f:Nat}{v:V}(h:faO tb L t x f=some v):bm (tb t) f (Ce L) (KC (Ce L) x)∧iR (tb t) f (KC (Ce L) x)=v:=by
  obtain⟨d,h1,h⟩:=AQ h
  cases d with
  |st n z fs=>
    obtain⟨p,h2,h⟩:=AQ h
    obtain⟨c,h3,h⟩:=AQ h
    rw[h1,Pp h3]
    simp only[bm,iR,h2]
    cases c with
    |cref s o=>
      obtain⟨cs,h4,h⟩:=AQ h
      obtain⟨c,h5,h6⟩:=AQ h4
      cases h
      have:=CO h5
      exact⟨⟨cs,by rw[this,h6]⟩,rfl⟩
    |adr cs o=>cases h;exact⟨trivial,rfl⟩
    |tok u=>exact sJ h
    |_=>cases h
  |_=>cases h
theorem mY{L:PL}{x:Operand}{v:V}(h:wQ L x=some v):faC (Ce L) (KC (Ce L) x)∧KC (Ce L) x=v:=by
  obtain⟨c,h3,h⟩:=AQ h
  rw[Pp h3]
  cases c with
  |cref s o=>
    obtain⟨cs,h4,h⟩:=AQ h
    obtain⟨c,h5,h6⟩:=AQ h4
    cases h
    have:=CO h5
    exact⟨⟨cs,by rw[this,h6]⟩,rfl⟩
  |adr cs o=>cases h;exact⟨trivial,rfl⟩
  |_=>cases h
theorem Z6{L:PL}{d:Option TyD}{c v:V}{n:Nat}{cs:List V}(hs:Jm c=some (n,cs))(h:RZ (bF d) (some (V.int .i64 n))=some v):TF d (Ce L) c∧Yy (Ce L) c=v:=by
  obtain⟨h2,h⟩:=Dq h
  obtain⟨a,b,z,q,rfl⟩:=bG h2
  cases h
  cases c<;>first|(cases hs;done)|(cases hs;exact⟨trivial,rfl⟩)
theorem mJ{L:PL}{d:Option TyD}{c v:V}(h:uZ L d c=some v):TF d (Ce L) c∧Yy (Ce L) c=v:=by
  cases c with
  |str s=>
    obtain⟨h1,h⟩:=Dq (show RZ (V1 d) _=_ from h)
    cases h;exact⟨V2 h1,rfl⟩
  |same b=>
    obtain⟨c,h1,h⟩:=AQ (show Aa (lk L b) _=_ from h)
    have:=CO h1
    cases c with
    |uni e n cs=>
      obtain⟨h2,h⟩:=Dq h
      obtain⟨a,b,c,z,rfl⟩:=bG h2
      cases h
      simp only[TF,Yy,this];exact⟨trivial,trivial⟩
    |_=>cases h
  |own e n cs=>exact Z6 rfl h
  |dat n cs=>exact Z6 rfl h
  |arg n cs=>exact Z6 rfl h
  |pin u n cs=>exact Z6 rfl h
  |_=>cases h
theorem Xm{tb:Tb}{L:PL}{c:Callee}{xs:List Operand}{ts:List TypeId}{v:V}(h:ba tb L c xs ts=some v):PW tb (Ce L) c xs ts∧Nr (Ce L) c xs=v:=by
  unfold ba at h
  split at h
  · obtain⟨a,h1,h⟩:=AQ h
    simp only[PW,Nr,Dy h1]
    exact mJ h
  · obtain⟨a,h1,h⟩:=AQ h
    obtain⟨b,h2,h⟩:=AQ h
    simp only[PW,Nr,Dy h1,Dy h2]
    split at h
    · cases h;exact⟨trivial,rfl⟩
    · cases h
  · obtain⟨a,h1,h⟩:=AQ h
    obtain⟨b,h2,h⟩:=AQ h
    simp only[PW,Nr,Dy h1,Dy h2]
    split at h
    · cases h;exact⟨trivial,rfl⟩
    · cases h
  · cases h
theorem Va{tb:Tb}{L:PL}{op:Op}{v:V}(h:cj tb L op=some v):pc tb (Ce L) op∧pv tb (Ce L) op=v:=by
  cases op with
  |move x=>exact jS h
  |pick c a b=>
    obtain⟨q,h1,h⟩:=AQ (show Aa (Pk L c) _=_ from h)
    simp only[pc,pv,Dy h1]
    cases q with
    |bool e=>
      cases e with
      |true=>
        obtain⟨c,h2,h⟩:=AQ h
        obtain⟨h3,h⟩:=Dq h
        simp only[X2,X4,Dy h2,Fh];exact⟨h3,(GN h).symm⟩
      |false=>
        obtain⟨c,h2,h⟩:=AQ h
        obtain⟨h3,h⟩:=Dq h
        simp only[X2,X4,Dy h2,B7,Dm];exact⟨h3,(GN h).symm⟩
    |_=>cases h
  |binOp op t x y t'=>
    obtain⟨a,h1,h⟩:=AQ (show Aa (Pk L x) _=_ from h)
    obtain⟨b,h2,h⟩:=AQ h
    obtain⟨h3,h⟩:=Dq h
    simp only[pc,pv,Dy h1,Dy h2]
    exact⟨l5 h3,(GN h).symm⟩
  |unOp op t x=>
    obtain⟨a,h1,h⟩:=AQ (show Aa (Pk L x) _=_ from h)
    obtain⟨h3,h⟩:=Dq h
    simp only[pc,pv,Dy h1]
    exact⟨th h3,(GN h).symm⟩
  |convert s d x=>
    obtain⟨a,h1,h⟩:=AQ (show Aa (Pk L x) _=_ from h)
    simp only[pc,pv,Dy h1]
    unfold cvB at h
    split at h
    · rename_i h2 h3
      cases h
      simp only[Xo,YG,h2,h3];exact⟨trivial,trivial⟩
    · cases h
  |load t x=>exact bO h
  |fieldAddr t x f=>exact iQ h
  |call c=>exact Xm h
  |_=>cases h
def Qj(L:PL)(g:Option (Option Nat×Bool))(d:Nat)(v:Option PL):Option PL:=match g with
  |none=>v
  |some (some q,b)=>Aa (lk L q) λc=>match c with
    |.bool e=>match e,b with
      |true,true=>v
      |false,false=>v
      |_,_=>some ((d,.tup [])::L)
    |.tup _=>some ((d,.tup [])::L)
    |_=>none
  |some (none,_)=>none
def lV(tb:Tb)(t:TypeId)(x:Operand)(d:Nat)(L:PL):Option PL:=match x with
  |.const (.slice none 0 0)=>Aa (tb t) λdd=>match dd with
    |.sl e _ _ _=>some ((d,.own e 0 [])::L)
    |_=>none
  |.const (.pointer none)=>some ((d,.undef)::L)
  |.tmp p=>Aa (lk L p) λc=>match c with
    |.box _=>some ((d,.cref p 0)::L)
    |.cref b o=>some ((d,.cref b o)::L)
    |c=>RZ c.isVal (Aa (RQ L (.tmp p) c) λL'=>some ((d,c)::L'))
  |.const v=>Aa (VP (cV v)) λc=>RZ c.isVal (some ((d,c)::L))
  |_=>none
def loadT(tb:Tb)(t:TypeId)(x:Operand)(d:Nat)(L:PL):Option PL:=Aa (tb t) λdd=>Aa (adO L x) λa=>match a with
  |.cref s off=>Aa (lk L s) λc=>match c with
    |.box cs=>RZ (Nat.ble (off+dd.size) cs.length) (Aa (VP (.box (NR dd.size cs off))) λb=>Aa (VP (PV dd cs off)) λv=>some ((d,v)::(s,b)::L))
    |_=>none
  |.adr cs off=>RZ (Nat.ble (off+dd.size) cs.length) (Aa (VP (getCells dd cs off)) λv=>some ((d,v)::L))
  |_=>none
def x9(s i d:Nat)(L:PL):Option PL:=Aa (lk L s) λt=>match t with
  |.tup cs=>Aa (cs[i]?) λc=>RZ (cs.all V.isArg) (Aa (VP (.tup (cs.set i (dg2 c)))) λt'=>some ((d,c)::(s,t')::L))
  |_=>none
def yE(tb:Tb)(t:TypeId)(x y:Operand)(L:PL):Option PL:=Aa (tb t) λdd=>Aa (adO L x) λa=>match a with
  |.cref s off=>Aa (lk L s) λb=>match b with
    |.box cs=>Aa (Pk L y) λc=>RZ (c.isArg&&(Nat.beq (GM c).length dd.size&&Nat.ble (off+dd.size) cs.length)) (Aa (RQ L y c) λL'=>Aa (VP (.box (MZ cs off (GM c)))) λb'=>some ((s,b')::L'))
    |_=>none
  |_=>none
def nbL(L:PL)(d:Nat):Bool:=match lk L d with
  |some c=>Do c
  |none=>true
theorem XP{L:PL}{d:Nat}(h:nbL L d=true):Do (Ce L d)=true:=by
  unfold nbL at h
  rw[NS]
  cases hl:lk L d with
  |none=>rfl
  |some c=>rw[hl]at h;exact h
def alO(tb:Tb)(t:TypeId)(d:Nat)(L:PL):Option PL:=Aa (tb t) λdd=>RZ (nbL L d) (Aa (VP (.box (Ys dd))) λb=>some ((d,b)::L))
def pD(x:Operand)(d:Nat)(L:PL):Option PL:=Aa (Pk L x) λc=>RZ c.isArg (Aa (RQ L x c) λL'=>RZ (nbL L' d) (Aa (VP (.box (GM c))) λb=>some ((d,b)::L')))
def bo(place:Nat->Option (Nat×Nat)):List (Nat×Operand)->PL->List V->Option (PL×List V)
  |[],L,cs=>some (L,cs)
  |(i,x)::r,L,cs=>Aa (place i) λp=>Aa (Pk L x) λc=>RZ (c.isArg&&(Nat.beq (GM c).length p.2&&Nat.ble (p.1+p.2) cs.length)) (Aa (RQ L x c) λL'=>bo place r L' (MZ cs p.1 (GM c)))
theorem Xv{place:Nat->Option (Nat×Nat)}:∀{ps:List (Nat×Operand)}{L L':PL}{cs cs':List V},bo place ps L cs=some (L',cs')->OW place ps (Ce L) cs=some (Ce L',cs')
  |[],_,_,_,_,h=>by cases h;rfl
  |(i,x)::r,L,L',cs,cs',h=>by
    rw[bo]at h
    obtain⟨p,h1,h⟩:=AQ h
    obtain⟨c,h2,h⟩:=AQ h
    obtain⟨h3,h⟩:=Dq h
    obtain⟨L1,h4,h⟩:=AQ h
    simp only[Ab]at h3
    rw[OW,h1]
    simp only
    rw[Dy h2,AI ⟨h3.1,CN h3.2.1,nb h3.2.2⟩,<-Mh h2 h4]
    exact Xv h
def xY(tb:Tb)(t:TypeId)(ps:List (Nat×Operand))(d:Nat)(L:PL):Option PL:=Aa (tb t) λdd=>match dd with
  |.st _ z fs=>Aa (bo (λi=>fs[i]?) ps L z) λq=>Aa (VP (.agg q.2)) λc=>some ((d,c)::q.1)
  |_=>none
def LM(tb:Tb)(cns:List Nat)(o:LO)(L:PL):Option PL:=match o with
  |⟨some d,op,t,g⟩=>match op with
    |.assign x=>match g,cns.contains d with
      |none,false=>lV tb t x d L
      |_,_=>none
    |.move x=>match cns.contains d with
      |true=>(match g with
        |none=>lV tb t x d L
        |_=>none)
      |false=>Qj L g d (Aa (mvO L x) λv=>some ((d,v)::L))
    |.load t x=>match cns.contains d with
      |true=>(match g with
        |none=>loadT tb t x d L
        |_=>none)
      |false=>Qj L g d (Aa (jD tb L t x) λv=>some ((d,v)::L))
    |.extract (.tmp s) i=>match g with
      |none=>x9 s i d L
      |_=>none
    |.alloc t=>match g with
      |none=>alO tb t d L
      |_=>none
    |.box _ x=>match g with
      |none=>pD x d L
      |_=>none
    |.build t ps=>Qj L g d (xY tb t ps.toList d L)
    |.pick c a b=>Qj L g d (Aa (cj tb L (.pick c a b)) λv=>some ((d,v)::L))
    |.binOp p t x y t'=>Qj L g d (Aa (cj tb L (.binOp p t x y t')) λv=>some ((d,v)::L))
    |.unOp p t x=>Qj L g d (Aa (cj tb L (.unOp p t x)) λv=>some ((d,v)::L))
    |.convert s t x=>Qj L g d (Aa (cj tb L (.convert s t x)) λv=>some ((d,v)::L))
    |.fieldAddr t x f=>Qj L g d (Aa (faO tb L t x f) λv=>some ((d,v)::L))
    |.nilCheck x=>Qj L g d (Aa (wQ L x) λv=>some ((d,v)::L))
    |.call c=>match c.callee with
      |.value (.func _)=>(match cns.contains d with
        |true=>none
        |false=>Qj L g d none)
      |.value (.tmp _)=>none
      |.value (.const _)=>none
      |.value (.global _)=>none
      |_=>Qj L g d (Aa (ba tb L c.callee c.args.toList c.argTypes.toList) λv=>some ((d,v)::L))
    |.index .. =>Qj L g d none
    |.indexAddr .. =>Qj L g d none
    |.slice .. =>Qj L g d none
    |.buildSlice .. =>Qj L g d none
    |.field .. =>Qj L g d none
    |_=>none
  |⟨none,.store t x y,_,none⟩=>yE tb t x y L
  |_=>none
section
variable {P:Program}{tb:Tb}{cns:List Nat}{L L':PL}{K:PS->Prop}{d:Nat}
theorem IR{op:Op}{t:TypeId}{g:Option (Option Nat×Bool)}{v:Option V}(hv:∀r,v=some r->pc tb (Ce L) op∧pv tb (Ce L) op=r)(h:Qj L g d (Aa v λv=>some ((d,v)::L))=some L')(k:K (Ce L')):Js tb ⟨some d,op,t,g⟩ (Ce L) K:=by
  have run:∀{L':PL},Aa v (λv=>some ((d,v)::L))=some L'->K (Ce L')->pc tb (Ce L) op∧K (upd (Ce L) d (pv tb (Ce L) op)):=by
    intro L' h k
    obtain⟨r,h1,h⟩:=AQ h
    cases h
    obtain⟨h2,h3⟩:=hv r h1
    exact⟨h2,by rw[h3];exact k⟩
  unfold Qj at h
  split at h
  · exact run h k
  · rename_i q b
    obtain⟨c,h1,h⟩:=AQ h
    simp only[Js,CO h1]
    cases c with
    |bool e=>
      cases e<;>cases b<;>simp only at h<;>first
        |exact⟨rfl,λ_=>run h k,λe=>by cases e⟩
        |(cases h;exact⟨rfl,(λe=>by cases e),λ_=>k⟩)
    |tup cs=>cases h;exact⟨rfl,(λe=>by cases e),λ_=>k⟩
    |_=>cases h
  · cases h
theorem WZ{o:LO}{g:Option (Option Nat×Bool)}{v:Option PL}{X:Prop}(ho:o.g=g)(hv:∀L',v=some L'->K (Ce L')->X)(h:Qj L g d v=some L')(k:K (Ce L')):PA o d (Ce L) K X:=by
  subst ho
  unfold Qj at h
  unfold PA
  split at h
  · rename_i e;rw[e];exact hv _ h k
  · rename_i q b e
    rw[e]
    obtain⟨c,h1,h⟩:=AQ h
    simp only[CO h1]
    cases c with
    |bool e=>
      cases e<;>cases b<;>simp only at h<;>first
        |exact⟨rfl,λ_=>hv _ h k,λe=>by cases e⟩
        |(cases h;exact⟨rfl,(λe=>by cases e),λ_=>k⟩)
    |tup cs=>cases h;exact⟨rfl,(λe=>by cases e),λ_=>k⟩
    |_=>cases h
  · cases h
theorem dJ{x:Operand}{o:LO}(h:lV tb o.ty x d L=some L')(k:K (Ce L')):O2 tb o x d (Ce L) K:=by
  unfold lV at h
  split at h
  · obtain⟨dd,h1,h⟩:=AQ h
    cases dd with
    |sl e es eb ez=>cases h;simp only[O2,h1];exact k
    |_=>cases h
  · cases h;simp only[O2];exact k
  · rename_i p
    obtain⟨c,h1,h⟩:=AQ h
    have gen:RZ c.isVal (Aa (RQ L (.tmp p) c) λL'=>some ((d,c)::L'))=some L'->O2 tb o (.tmp p) d (Ce L) K:=by
      intro h
      obtain⟨h2,h⟩:=Dq h
      obtain⟨L1,h3,h⟩:=AQ h
      cases h
      have e:=Mh (x:=.tmp p) h1 h3
      rw[D4,e]at k
      exact lW (CO h1) h2 (by rw[<-CO h1];simp only[CR]at k;rw[CO h1]at k⊢;exact k)
    cases c with
    |box cs=>cases h;simp only[O2,CO h1];exact k
    |cref b o=>cases h;simp only[O2,CO h1];exact k
    |_=>exact gen h
  · rename_i v hn hn2
    obtain⟨c,h1,h⟩:=AQ h
    obtain⟨h2,h⟩:=Dq h
    cases h
    have e:=GN h1
    subst e
    unfold O2
    split
    · rename_i he;injection he with he;exact absurd (by rw[he]) hn
    · rename_i he;injection he with he;exact absurd (by rw[he]) hn2
    · rename_i he;cases he
    · exact⟨h2,k⟩
  · cases h
theorem ud{t:TypeId}{cal:Callee}{args:Array Operand}{ts:Array TypeId}{g:Option (Option Nat×Bool)}{L L':PL}(h:Qj L g d (Aa (ba tb L cal args.toList ts.toList) λv=>some ((d,v)::L))=some L')(k:K (Ce L')):Js tb ⟨some d,.call ⟨cal,args,ts⟩,t,g⟩ (Ce L) K:=IR (op:=.call ⟨cal,args,ts⟩) (λr hr=>Xm hr) h k
theorem Ym{o:LO}(h:LM tb cns o L=some L')(k:K (Ce L')):F0 P tb cns o (Ce L) K:=by
  obtain⟨dst,op,t,g⟩:=o
  cases dst with
  |none=>
    unfold LM at h
    split at h
    · rename_i he;cases he
    · rename_i t' x y ty he
      injection he with e1 e2 e3 e4
      subst e2 e4
      obtain⟨dd,h1,h⟩:=AQ h
      obtain⟨a,h2,h⟩:=AQ h
      cases a with
      |cref s off=>
        obtain⟨b,h3,h⟩:=AQ h
        cases b with
        |box cs=>
          obtain⟨c,h4,h⟩:=AQ h
          obtain⟨h5,h⟩:=Dq h
          obtain⟨L1,h6,h⟩:=AQ h
          obtain⟨b',h7,h⟩:=AQ h
          cases h
          simp only[Ab]at h5
          have e:=GN h7
          subst e
          simp only[F0,aJ,h1,Pp h2,CO h3,C2,RM,Dy h4]
          refine⟨trivial,h5.1,CN h5.2.1,nb h5.2.2,?_⟩
          rw[<-Mh h4 h6];exact k
        |_=>cases h
      |_=>cases h
    · cases h
  |some d=>
    cases op with
    |assign x=>
      simp only[LM]at h
      split at h
      · rename_i hc
        simp only[F0,hc,B7,Dm]
        exact⟨trivial,dJ (o:=⟨some d,.assign x,t,none⟩) h k⟩
      · cases h
    |move x=>
      simp only[LM]at h
      split at h
      · rename_i hc
        cases g with
        |none=>
          simp only[F0,hc,Fh]
          exact⟨trivial,dJ (o:=⟨some d,.move x,t,none⟩) h k⟩
        |some g=>cases h
      · rename_i hc
        simp only[F0,hc,B7,Dm]
        exact IR (λr hr=>jS hr) h k
    |load s x=>
      simp only[LM]at h
      split at h
      · rename_i hc
        cases g with
        |none=>
          simp only[F0,hc,Fh]
          refine⟨trivial,?_⟩
          obtain⟨dd,h1,h⟩:=AQ h
          obtain⟨a,h2,h⟩:=AQ h
          simp only[UZ,h1,Pp h2]
          cases a with
          |cref b off=>
            obtain⟨c,h3,h⟩:=AQ h
            cases c with
            |box cs=>
              obtain⟨h4,h⟩:=Dq h
              obtain⟨b',h5,h⟩:=AQ h
              obtain⟨v,h6,h⟩:=AQ h
              cases h
              rw[GN h5,GN h6]at k
              simp only[CO h3,C2,RM]
              exact⟨nb h4,k⟩
            |_=>cases h
          |adr cs off=>
            obtain⟨h4,h⟩:=Dq h
            obtain⟨v,h6,h⟩:=AQ h
            cases h
            rw[GN h6]at k
            exact⟨nb h4,k⟩
          |_=>cases h
        |some g=>cases h
      · rename_i hc
        simp only[F0,hc,B7,Dm]
        exact IR (λr hr=>bO hr) h k
    |extract x i=>
      cases x with
      |tmp s=>
        cases g with
        |none=>
          simp only[LM]at h
          obtain⟨a,h1,h⟩:=AQ h
          cases a with
          |tup cs=>
            obtain⟨c,h2,h⟩:=AQ h
            obtain⟨h3,h⟩:=Dq h
            obtain⟨v,h4,h⟩:=AQ h
            cases h
            rw[GN h4]at k
            simp only[F0,bl,CO h1,h2]
            exact⟨trivial,h3,k⟩
          |_=>cases h
        |some g=>cases h
      |_=>cases h
    |alloc s=>
      cases g with
      |none=>
        obtain⟨dd,h1,h⟩:=AQ (show Aa (tb s) _=_ from h)
        obtain⟨h2,h⟩:=Dq h
        obtain⟨v,h4,h⟩:=AQ h
        cases h
        rw[GN h4]at k
        exact ut (XP h2) h1 k
      |some g=>cases h
    |box ty x=>
      cases g with
      |none=>
        obtain⟨c,h1,h⟩:=AQ (show Aa (Pk L x) _=_ from h)
        obtain⟨h2,h⟩:=Dq h
        obtain⟨L1,h3,h⟩:=AQ h
        obtain⟨h4,h⟩:=Dq h
        obtain⟨v,h5,h⟩:=AQ h
        cases h
        rw[GN h5]at k
        have e:=Mh h1 h3
        have h4:=XP h4
        rw[e]at h4
        simp only[F0,boxS,Dy h1]
        exact⟨trivial,h2,h4,by rw[<-e];exact k⟩
      |some g=>cases h
    |build s ps=>
      simp only[LM]at h
      simp only[F0]
      refine WZ rfl (λL1 h k=>?_) h k
      obtain⟨dd,h1,h⟩:=AQ h
      cases dd with
      |st n z fs=>
        obtain⟨q,h2,h⟩:=AQ h
        obtain⟨c,h3,h⟩:=AQ h
        cases h
        rw[GN h3]at k
        simp only[R8,h1,Xv (L':=q.1) (cs':=q.2) h2]
        exact k
      |_=>cases h
    |pick c a b=>simp only[LM]at h;exact IR (op:=.pick c a b) (λr hr=>Va hr) h k
    |binOp p t x y t'=>simp only[LM]at h;exact IR (op:=.binOp p t x y t') (λr hr=>Va hr) h k
    |unOp p t x=>simp only[LM]at h;exact IR (op:=.unOp p t x) (λr hr=>Va hr) h k
    |convert s t x=>simp only[LM]at h;exact IR (op:=.convert s t x) (λr hr=>Va hr) h k
    |fieldAddr t x f=>simp only[LM]at h;exact IR (op:=.fieldAddr t x f) (λr hr=>iQ hr) h k
    |nilCheck x=>simp only[LM]at h;exact IR (op:=.nilCheck x) (λr hr=>mY hr) h k
    |index s x y=>simp only[LM]at h;exact IR (op:=.index s x y) (v:=none) (λr hr=>by cases hr) h k
    |indexAddr s x y=>simp only[LM]at h;exact IR (op:=.indexAddr s x y) (v:=none) (λr hr=>by cases hr) h k
    |slice s x lo hi m=>simp only[LM]at h;exact IR (op:=.slice s x lo hi m) (v:=none) (λr hr=>by cases hr) h k
    |buildSlice s n ps=>simp only[LM]at h;simp only[F0];exact WZ rfl (λL1 h k=>by cases h) h k
    |field s x f=>simp only[LM]at h;simp only[F0];exact WZ rfl (λL1 h k=>by cases h) h k
    |call c=>
      obtain⟨cal,args,ts⟩:=c
      simp only[LM]at h
      cases cal with
      |value x=>
        cases x with
        |func f=>
          simp only at h
          cases hcd:cns.contains d with
          |true=>rw[hcd]at h;cases h
          |false=>
            rw[hcd]at h
            simp only at h
            show Hm P cns ⟨some d,.call ⟨.value (.func f),args,ts⟩,t,g⟩ f args.toList (Ce L) K
            unfold Hm
            rw[AJ (by simpa using hcd)]
            left
            unfold Pt
            unfold Qj at h
            cases g with
            |none=>cases h
            |some g=>
              obtain⟨q,b⟩:=g
              cases q with
              |none=>cases h
              |some q=>
                obtain⟨c,h1,h⟩:=AQ (show Aa (lk L q) _=_ from h)
                simp only[CO h1]
                cases c with
                |bool e=>
                  cases e<;>cases b<;>simp only at h<;>first
                    |(cases h;done)
                    |(cases h;exact⟨rfl,(λe=>by cases e),λ_=>k⟩)
                |tup cs=>cases h;exact⟨rfl,(λe=>by cases e),λ_=>k⟩
                |_=>cases h
        |_=>cases h
      |builtin b=>
        have hp:Js tb ⟨some d,.call ⟨.builtin b,args,ts⟩,t,g⟩ (Ce L) K:=IR (op:=.call ⟨.builtin b,args,ts⟩) (λr hr=>Xm hr) h k
        cases b with
        |append=>
          simp only[F0,Sb]
          split
          · rename_i heq;cases heq
          · rename_i _ heq _ _
            injection heq with heq
            subst heq
            refine WZ rfl (λL1 h k=>?_) h k
            obtain⟨r,hr,_⟩:=AQ h
            cases hr
          · exact hp
        |_=>exact hp
      |_=>exact ud h k
    |_=>cases h
end
def cw(tb:Tb)(cns:List Nat):Nat->List LO->PL->Option (List LO×PL)
  |0,os,L=>some (os,L)
  |_+1,[],_=>none
  |n+1,o::os,L=>Aa (LM tb cns o L) λL'=>cw tb cns n os L'
def lX(L:PL)(R:List Nat)(p:Nat):Bool:=match lk L p with
  |some c=>Yt R c
  |none=>true
theorem dK{L:PL}{R:List Nat}{p:Nat}(h:lX L R p=true):Yt R (Ce L p)=true:=by
  unfold lX at h
  rw[NS]
  cases hl:lk L p with
  |none=>rfl
  |some c=>rw[hl]at h;exact h
def ij(L:PL)(R W:List Nat)(p:Nat):Bool:=match lk L p with
  |some c=>a7 R W p c
  |none=>true
theorem ik{L:PL}{R W:List Nat}{p:Nat}(h:ij L R W p=true):a7 R W p (Ce L p)=true:=by
  unfold ij at h
  rw[NS]
  cases hl:lk L p with
  |none=>rfl
  |some c=>rw[hl]at h;exact h
def dm(L:PL)(p:Nat):Bool:=match lk L p with
  |some c=>U6 c
  |none=>true
theorem fZ{L:PL}{p:Nat}(h:dm L p=true):U6 (Ce L p)=true:=by
  unfold dm at h
  rw[NS]
  cases hl:lk L p with
  |none=>rfl
  |some c=>rw[hl]at h;exact h
def pC(L:PL)(p:Nat):Bool:=match lk L p with
  |some c=>iw c
  |none=>false
theorem l8{L:PL}{p:Nat}(h:pC L p=true):iw (Ce L p)=true:=by
  unfold pC at h
  rw[NS]
  cases hl:lk L p with
  |none=>rw[hl]at h;cases h
  |some c=>rw[hl]at h;exact h
def tkL(L:PL)(p:Nat):Bool:=match lk L p with
  |some c=>jn c
  |none=>false
theorem s8{L:PL}{p:Nat}(h:tkL L p=true):jn (Ce L p)=true:=by
  unfold tkL at h
  rw[NS]
  cases hl:lk L p with
  |none=>rw[hl]at h;cases h
  |some c=>rw[hl]at h;exact h
def stepD(tb:Tb)(cns:List Nat):Nat->List (List Nat×List Nat)->List LO->PL->Option (List (List Nat×List Nat)×List LO×PL)
  |0,fps,os,L=>some (fps,os,L)
  |n+1,(R,W)::fps,o::os,L=>RZ ((adP o.op).all (lX L R)&&((adC o.op).all (ij L R W)&&((adS o.op).all (dm L)&&(((adU cns o).all (lX L R)&&(adT cns o).all (tkL L))&&(ptS cns).all (pC L))))) (Aa (LM tb cns o L) λL'=>stepD tb cns n fps os L')
  |_+1,_,_,_=>none
def YP(L:PL):List Nat->Option PL
  |[]=>some []
  |s::ss=>Aa (lk L s) λc=>Aa (YP L ss) λL'=>some ((s,c)::L')
def Sv(L:PL)(ss:List Nat):Option PL:=Aa (YP L ss) λL'=>RZ (okR L') (some L')
theorem bH{L:PL}:∀{ss:List Nat}{L':PL},YP L ss=some L'->YW (Ce L) L'
  |[],_,h=>by cases h;trivial
  |s::ss,_,h=>by
    rw[YP]at h
    obtain⟨c,h1,h⟩:=AQ h
    obtain⟨L1,h2,h⟩:=AQ h
    cases h
    exact⟨(CO h1) ▸ kr,bH h2⟩
theorem bJ{L L':PL}{ss:List Nat}(h:Sv L ss=some L'):YW (Ce L) L'∧okR L'=true:=by
  obtain⟨L1,h1,h⟩:=AQ h
  obtain⟨h2,h⟩:=Dq h
  cases h
  exact⟨bH h1,h2⟩
def Om:Nat->List V->PL
  |_,[]=>[]
  |i,c::cs=>(i,c)::Om (i+1) cs
theorem db:∀(args:List V) (i s:Nat),YW (λq=>(args[q - i]?).getD (.tup [])) (Om i args)
  |[],_,_=>trivial
  |c::cs,i,s=>by
    refine⟨by simpa using kr,?_⟩
    have h:=db cs (i+1) s
    have key:∀(L:PL) (f g:PS),(∀p∈L,f p.1=g p.1)->YW f L->YW g L:=by
      intro L f g
      induction L with
      |nil=>intro _ _;trivial
      |cons p L ih=>
        obtain⟨q,c⟩:=p
        intro he hk
        exact⟨by rw[<-he (q,c) (by simp)];exact hk.1,ih (λp hp=>he p (by simp[hp])) hk.2⟩
    have hlow:∀(cs:List V) (j:Nat),∀p∈Om j cs,j<=p.1:=by
      intro cs
      induction cs with
      |nil=>intro j p hp;simp[Om]at hp
      |cons c cs ih=>
        intro j p hp
        simp only[Om,AV]at hp
        rcases hp with rfl|hp
        · exact Bl _
        · have:=ih (j+1) p hp;omega
    refine key _ _ _ (λp hp=>?_) h
    have:=hlow cs (i+1) p hp
    rw[show p.1 - i=(p.1 - (i+1))+1 by omega,CJ]
section
variable {P:Program}{tb:Tb}{cns:List Nat}{L L':PL}{K:PS->Prop}{ops os:List LO}{fps fps':List (List Nat×List Nat)}
theorem Yl:∀{n:Nat}{ops:List LO}{L:PL},cw tb cns n ops L=some (os,L')->Vr P tb cns os (Ce L') K->Vr P tb cns ops (Ce L) K
  |0,_,_,h,k=>by cases h;exact k
  |_+1,[],_,h,_=>by cases h
  |n+1,o::ops,L,h,k=>by
    rw[cw]at h
    obtain⟨L1,h1,h⟩:=AQ h
    exact Ym (K:=λσ'=>Vr P tb cns ops σ' K) h1 (Yl h k)
theorem AS(n:Nat)(h:cw tb cns n ops L=some ([],L'))(k:K (Ce L')):Vr P tb cns ops (Ce L) K:=Yl h k
theorem sp(n:Nat)(h:cw tb cns n ops L=some (os,L'))(k:Vr P tb cns os (Ce L') K):Vr P tb cns ops (Ce L) K:=Yl h k
theorem cv:∀{n:Nat}{fps:List (List Nat×List Nat)}{ops:List LO}{L:PL},stepD tb cns n fps ops L=some (fps',os,L')->Wo P tb cns fps' os (Ce L') K->Wo P tb cns fps ops (Ce L) K
  |0,_,_,_,h,k=>by cases h;exact k
  |n+1,[],_,_,h,_=>by cases h
  |n+1,_::_,[],_,h,_=>by cases h
  |n+1,(R,W)::fps,o::ops,L,h,k=>by
    rw[stepD]at h
    obtain⟨h1,h⟩:=Dq h
    obtain⟨L1,h2,h⟩:=AQ h
    simp only[Ab,Ae]at h1
    refine evd (by unfold Vt;rw[Ab,Ab];exact⟨Ae.2 λp hp=>dK (h1.1 p hp),Ae.2 λp hp=>ik (h1.2.1 p hp),Ae.2 λp hp=>fZ (h1.2.2.1 p hp)⟩) (by unfold adB bxS;rw[Ab,Ab];exact⟨⟨Ae.2 λp hp=>dK (h1.2.2.2.1.1 p hp),Ae.2 λp hp=>s8 (h1.2.2.2.1.2 p hp)⟩,Ae.2 λp hp=>l8 (h1.2.2.2.2 p hp)⟩) ?_
    exact Ym (K:=λσ'=>Wo P tb cns fps ops σ' K) h2 (cv h k)
theorem sd(n:Nat)(h:stepD tb cns n fps ops L=some (fps',os,L'))(k:Wo P tb cns fps' os (Ce L') K):Wo P tb cns fps ops (Ce L) K:=cv h k
theorem jC{q:Nat}{c b:Bool}(e:c=b)(h:lk L q=some (.bool c)):Ce ((q,.bool b)::L)=Ce L:=by
  subst e
  rw[D4,<-CO h,cA]
theorem qg(q:Nat){c b:Bool}(e:c=b)(h:lk L q=some (.bool c))(k:Vr P tb cns ops (Ce ((q,.bool b)::L)) K):Vr P tb cns ops (Ce L) K:=by rw[jC e h]at k;exact k
theorem N5(q:Nat){c b:Bool}(e:c=b)(h:lk L q=some (.bool c))(k:Wo P tb cns fps ops (Ce ((q,.bool b)::L)) K):Wo P tb cns fps ops (Ce L) K:=by rw[jC e h]at k;exact k
end
section
variable {P:Program}{nt:Nat}{bx:List Nat}{l:LC}{Q:Exit->PS->Prop}{tb:Tb}{cns:List Nat}{L L':PL}
theorem qk(ss:List Nat)(h:Sv L ss=some L')(k:LS P nt bx l (Ce L') Q):LS P nt bx l (Ce L) Q:=Nl L' (bJ h).1 (bJ h).2 k
theorem qi(args:List V)(hr:okR (Om 0 args)=true)(k:LS P nt bx l (Ce (Om 0 args)) Q):LS P nt bx l (Ej args) Q:=Nl _ (db args 0 0) hr k
end
section
variable {P:Program}{tb:Tb}{cns:List Nat}{L:PL}{K:PS->Prop}{d s t:Nat}{x y z:Operand}
def lR(L:PL)(x:Operand):Option V:=Aa (Pk L x) λc=>RZ c.isArg (some c)
theorem SV{c:V}(h:lR L x=some c):Cl (Ce L) x=c∧c.isArg=true:=by
  obtain⟨c',h1,h⟩:=AQ h
  obtain⟨h2,h⟩:=Dq h
  cases h
  exact⟨Dy h1,h2⟩
theorem qa{c a:V}{xs:List Operand}{as:List V}(h1:lR L x=some c)(h2:er c=a)(h3:erA (Ce L) xs as):erA (Ce L) (x::xs) (a::as):=era (by rw[(SV h1).1];exact(SV h1).2) (by rw[(SV h1).1];exact h2) h3
def yh:V->Bool
  |.int .. |.bool .. |.str .. |.fn .. =>true
  |_=>false
theorem qs{a:V}{xs:List Operand}{as:List V}(h1:Aa (lR L x) (λc=>RZ (yh c) (some c))=some a)(h3:erA (Ce L) xs as):erA (Ce L) (x::xs) (a::as):=by
  obtain⟨c,h2,h⟩:=AQ h1
  obtain⟨h4,h⟩:=Dq h
  cases h
  exact qa h2 (by cases a<;>first|rfl|cases h4) h3
theorem cnF(hc:cns.contains d=false):(some d).toList.any cns.contains=false:=by simpa using hc
theorem qC{f:FuncId}{args:Array Operand}{ts:Array TypeId}{as:List V}{r:V}(he:erA (Ce L) args.toList as)(hs:AK P f as r)(k:K (Ce ((d,r)::L)))(hc:cns.contains d=false:=by rfl):F0 P tb cns ⟨some d,.call {callee:=.value (.func f),args:=args,argTypes:=ts},t,none⟩ (Ce L) K:=mn (cnF hc) he hs k
def iaO(tb:Tb)(L:PL)(s:TypeId)(x y:Operand):Option (Nat×List V×Int×Nat):=Aa (Pk L x) λa=>Aa (Jm a) λp=>Aa (Pk L y) λb=>match b with
  |.int _ i=>Aa (tb s) λdd=>match dd with
    |.sl _ es _ _=>some (p.1,p.2,i,es)
    |_=>none
  |_=>none
theorem qI{α:Type}{f:α->List V}{l:List α}{i:Int}{e:α}{n:Nat}(h:iaO tb L s x y=some (l.length,l.flatMap f,i,n))(hf:∀x,(f x).length=n)(hi:AZ l i=some e)(k:K (Ce ((d,.adr (f e++(l.drop (i.toNat+1)).flatMap f) 0)::L))):F0 P tb cns ⟨some d,.indexAddr s x y,t,none⟩ (Ce L) K:=by
  obtain⟨a,h1,h⟩:=AQ h
  obtain⟨p,h2,h⟩:=AQ h
  obtain⟨b,h3,h⟩:=AQ h
  obtain⟨g1,g2,g3⟩:=CX hi
  cases b with
  |int kk j=>
    obtain⟨dd,h4,h⟩:=AQ h
    cases dd with
    |sl e' es eb ez=>
      simp only[Ao,B3]at h
      obtain⟨e1,e2,e3,e4⟩:=h
      subst e3 e4
      refine uv (n:=l.length) (cs:=l.flatMap f) (by rw[Dy h1,h2];cases p;cases e1;cases e2;rfl) (Dy h3) h4 ⟨g1,g2⟩ ?_
      have:=(iU hf g3 0).resolve_right (by omega)
      rw[Ec,Ln]at this
      rw[this];exact k
    |_=>cases h
  |_=>cases h
def yA(tb:Tb)(L:PL)(s:TypeId)(x y:Operand):Option (List UInt8×Int):=Aa (Pk L x) λa=>match a with
  |.str u=>Aa (Pk L y) λb=>match b with
    |.int _ i=>RZ (V1 (tb s)) (some (u,i))
    |_=>none
  |_=>none
theorem qX{u:List UInt8}{i:Int}{b:UInt8}(h:yA tb L s x y=some (u,i))(hi:AZ u i=some b)(k:K (Ce ((d,.int .u8 b.toNat)::L))):F0 P tb cns ⟨some d,.index s x y,t,none⟩ (Ce L) K:=by
  obtain⟨a,h1,h⟩:=AQ h
  cases a with
  |str u'=>
    obtain⟨b',h3,h⟩:=AQ h
    cases b' with
    |int kk j=>
      obtain⟨h4,h⟩:=Dq h
      cases h
      exact pZ (Dy h1) (Dy h3) (V2 h4) hi k
    |_=>cases h
  |_=>cases h
def bdO(dflt:Int)(L:PL):Option Operand->Option Int
  |none=>some dflt
  |some x=>Aa (Pk L x) OR
theorem ZD{dflt i:Int}{lo:Option Operand}(h:bdO dflt L lo=some i):R7 dflt (lo.map (Cl (Ce L)))=some i:=by
  cases lo with
  |none=>exact h
  |some x=>
    obtain⟨c,h1,h⟩:=AQ (show Aa (Pk L x) _=_ from h)
    simp only[Br,R7,Dy h1];exact h
def yB(tb:Tb)(L:PL)(s:TypeId)(x:Operand)(lo hi:Option Operand):Option (List UInt8×Int×Int):=Aa (Pk L x) λa=>match a with
  |.str u=>RZ (V1 (tb s)) (Aa (bdO 0 L lo) λl=>Aa (bdO u.length L hi) λh=>some (u,l,h))
  |_=>none
theorem qSs{u:List UInt8}{lo hi:Option Operand}{l h:Int}(hh:yB tb L s x lo hi=some (u,l,h))(hb:0<=l∧l<=h∧h<=u.length)(k:K (Ce ((d,.str (Hk u l h))::L))):F0 P tb cns ⟨some d,.slice s x lo hi none,t,none⟩ (Ce L) K:=by
  obtain⟨a,h1,hh⟩:=AQ hh
  cases a with
  |str u'=>
    obtain⟨h4,hh⟩:=Dq hh
    obtain⟨l',h5,hh⟩:=AQ hh
    obtain⟨r',h6,hh⟩:=AQ hh
    cases hh
    exact p7 (Dy h1) (V2 h4) (ZD h5) (ZD h6) hb k
  |_=>cases hh
def lQ:V->Bool
  |.arg .. =>true
  |_=>false
theorem kn{a:V}(h:lQ a=false)(n:Nat)(cs:List V):U9 a n cs=.dat n cs:=by cases a<;>first|rfl|cases h
theorem gF{a:V}(h:lQ a=true)(n:Nat)(cs:List V):U9 a n cs=.arg n cs:=by cases a<;>first|rfl|cases h
def sZ(tb:Tb)(L:PL)(b:Bool)(s:TypeId)(x:Operand)(lo hi:Option Operand):Option (Nat×List V×Nat×Int×Int):=Aa (Pk L x) λa=>RZ (lQ a==b) <| Aa (Jm a) λp=>Aa (tb s) λdd=>match dd with
  |.sl _ es _ _=>Aa (bdO 0 L lo) λl=>Aa (bdO p.1 L hi) λh=>some (p.1,p.2,es,l,h)
  |_=>none
theorem wV{α:Type}{f:α->List V}{lst:List α}{n:Nat}{lo hi:Option Operand}{l h:Int}{b:Bool}(hh:sZ tb L b s x lo hi=some (lst.length,lst.flatMap f,n,l,h))(hf:∀x,(f x).length=n)(hb:0<=l∧l<=h∧h<=lst.length)(k:∀a,lQ a=b->K (Ce ((d,U9 a (Hk lst l h).length ((Hk lst l h).flatMap f))::L))):F0 P tb cns ⟨some d,.slice s x lo hi none,t,none⟩ (Ce L) K:=by
  obtain⟨a,h1,hh⟩:=AQ hh
  obtain⟨hk,hh⟩:=Dq hh
  obtain⟨p,h2,hh⟩:=AQ hh
  obtain⟨dd,h3,hh⟩:=AQ hh
  cases dd with
  |sl e es eb ez=>
    obtain⟨l',h5,hh⟩:=AQ hh
    obtain⟨r',h6,hh⟩:=AQ hh
    simp only[Ao,B3]at hh
    obtain⟨e1,e2,e3,e4,e5⟩:=hh
    subst e3 e4 e5
    rw[e1]at h6
    exact p6 (lst:=lst) (f:=f) (by rw[Dy h1,h2];cases p;cases e1;cases e2;rfl) h3 hf (ZD h5) (ZD h6) hb (by rw[Dy h1];exact k a (eq_of_beq hk))
  |_=>cases hh
theorem qSl{α:Type}{f:α->List V}{lst:List α}{n:Nat}{lo hi:Option Operand}{l h:Int}(hh:sZ tb L false s x lo hi=some (lst.length,lst.flatMap f,n,l,h))(hf:∀x,(f x).length=n)(hb:0<=l∧l<=h∧h<=lst.length)(k:K (Ce ((d,.dat (Hk lst l h).length ((Hk lst l h).flatMap f))::L))):F0 P tb cns ⟨some d,.slice s x lo hi none,t,none⟩ (Ce L) K:=
  wV hh hf hb λa ha=>by rw[kn ha];exact k
theorem qSa{α:Type}{f:α->List V}{lst:List α}{n:Nat}{lo hi:Option Operand}{l h:Int}(hh:sZ tb L true s x lo hi=some (lst.length,lst.flatMap f,n,l,h))(hf:∀x,(f x).length=n)(hb:0<=l∧l<=h∧h<=lst.length)(k:K (Ce ((d,.arg (Hk lst l h).length ((Hk lst l h).flatMap f))::L))):F0 P tb cns ⟨some d,.slice s x lo hi none,t,none⟩ (Ce L) K:=
  wV hh hf hb λa ha=>by rw[gF ha];exact k
def xX(L:PL)(x y:Operand):Option (V×V):=Aa (Pk L x) λa=>Aa (Pk L y) λb=>some (a,b)
theorem qB{op:BinOp}{ta tc:TypeId}{c1 c2 v:V}(h:xX L x y=some (c1,c2))(hc:ZE (tb ta) op c1 c2)(hv:VP (cK op c1 c2)=some v)(k:K (Ce ((d,v)::L))):F0 P tb cns ⟨some d,.binOp op ta x y tc,t,none⟩ (Ce L) K:=by
  obtain⟨a,h1,h⟩:=AQ h
  obtain⟨b,h2,h⟩:=AQ h
  cases h
  rw[GN hv]at k
  exact pT (Dy h1) (Dy h2) hc k
theorem qCs{a b e:TypeId}{es eb:Nat}{ez:List V}{w:List UInt8}{z':Int}{l:List Int}(hx:Aa (Pk L x) Jm=some (l.length,l.flatMap NJ))(h1:tb a=some (.sl e es eb ez))(h2:tb b=some (.sc (.str w)))(h3:tb e=some (.sc (.int .u8 z')))(k:K (Ce ((d,.str (bytesOf l))::L))):F0 P tb cns ⟨some d,.convert a b x,t,none⟩ (Ce L) K:=by
  obtain⟨c,g1,g2⟩:=AQ hx
  exact pU (by rw[Dy g1];exact g2) h1 h2 h3 k
def t8(tb:Tb)(L:PL)(s:TypeId)(p q:Nat):Option (Nat×List V×Nat×Nat×List V×V×PL):=Aa (lk L p) λa=>match a with
  |.own e n cs=>Aa (RQ L (.tmp p) (.own e n cs)) λL1=>Aa (lk L1 q) λc=>Aa (Jm c) λr=>Aa (RQ L1 (.tmp q) c) λL2=>Aa (tb s) λdd=>match dd with
    |.sl e' es _ _=>RZ (Nat.beq e e'&&c.isVal) (some (n,cs,es,r.1,r.2,c,L2))
    |_=>none
  |_=>none
theorem qA{α:Type}(f:α->List V)(l m:List α){es p q:Nat}{e:TypeId}{ds:List V}{c:V}{L2:PL}(h:t8 tb L s p q=some (l.length,l.flatMap f,es,m.length,ds,c,L2))(he:lk L p=some (.own e l.length (l.flatMap f)))(hd:ds.length=m.length * es)(ha:Vx c=m.flatMap f)(hl:l.length+m.length<=lim)
    (k:K (Ce ((d,.own e (l++m).length ((l++m).flatMap f))::L2))):F0 P tb cns ⟨some d,.call {callee:=.builtin .append,args:= #[.tmp p,.tmp q],argTypes:= #[s,s]},t,none⟩ (Ce L) K:=by
  obtain⟨a,h1,h⟩:=AQ h
  rw[he]at h1
  cases h1
  obtain⟨L1,h2,h⟩:=AQ h
  obtain⟨c',h3,h⟩:=AQ h
  obtain⟨r,h4,h⟩:=AQ h
  obtain⟨L3,h5,h⟩:=AQ h
  obtain⟨dd,h6,h⟩:=AQ h
  cases dd with
  |sl e' es' eb ez=>
    dsimp only at h
    obtain⟨h7,h⟩:=Dq h
    simp only[Ab]at h7
    have e1:=CN h7.1
    have h:=DZ h
    simp only[B3]at h
    obtain⟨_,_,e2,e3,e4,e5,e6⟩:=h
    subst e1 e2 e5 e6
    have t1:=Mh (x:=.tmp p) he h2
    have t2:=Mh (x:=.tmp q) h3 h5
    simp only[CR,CO he]at t1
    have t1':Ce L1=upd (Ce L) p (.dat l.length (l.flatMap f)):=t1
    refine pR (f:=f) (l:=l) (m:=m) (c2:=c') (ds:=ds) (CO he) (by rw[<-t1'];exact CO h3) (by rw[h4];cases r;cases e3;cases e4;rfl) hd h6 ha hl h7.2 ?_
    rw[D4,t2]at k
    simp only[CR,CO h3,t1']at k
    exact k
  |_=>cases h
theorem qAd{α:Type}(f g h':α->List V)(l m:List α){es p q:Nat}{e:TypeId}{ds:List V}{c:V}{L2:PL}(h:t8 tb L s p q=some (l.length,l.flatMap f,es,m.length,ds,c,L2))(he:lk L p=some (.own e l.length (l.flatMap f)))(hd:ds.length=m.length * es)(ha:Vx c=m.flatMap h')(hl:l.length+m.length<=lim)(hf:∀x,(f x).map RR=g x)(hh:∀x,(h' x).map RR=g x)(hfc:∀x,(f x).all V.Di=true)(hhc:∀x,(h' x).all V.Di=true)
    (k:K (Ce ((d,.own e (l++m).length ((l++m).flatMap g))::L2))):F0 P tb cns ⟨some d,.call {callee:=.builtin .append,args:= #[.tmp p,.tmp q],argTypes:= #[s,s]},t,none⟩ (Ce L) K:=by
  obtain⟨a,h1,h⟩:=AQ h
  rw[he]at h1
  cases h1
  obtain⟨L1,h2,h⟩:=AQ h
  obtain⟨c',h3,h⟩:=AQ h
  obtain⟨r,h4,h⟩:=AQ h
  obtain⟨L3,h5,h⟩:=AQ h
  obtain⟨dd,h6,h⟩:=AQ h
  cases dd with
  |sl e' es' eb ez=>
    dsimp only at h
    obtain⟨h7,h⟩:=Dq h
    simp only[Ab]at h7
    have e1:=CN h7.1
    have h:=DZ h
    simp only[B3]at h
    obtain⟨_,_,e2,e3,e4,e5,e6⟩:=h
    subst e1 e2 e5 e6
    have t1:=Mh (x:=.tmp p) he h2
    have t2:=Mh (x:=.tmp q) h3 h5
    simp only[CR,CO he]at t1
    have t1':Ce L1=upd (Ce L) p (.dat l.length (l.flatMap f)):=t1
    refine mm (f:=f) (g:=g) (h:=h') (l:=l) (m:=m) (c2:=c') (ds:=ds) (CO he) (by rw[<-t1'];exact CO h3) (by rw[h4];cases r;cases e3;cases e4;rfl) hd h6 ha hl h7.2 hf hh hfc hhc ?_
    rw[D4,t2]at k
    simp only[CR,CO h3,t1']at k
    exact k
  |_=>cases h
def bsO(tb:Tb)(L:PL)(s:TypeId)(n:Nat)(ps:List (Nat×Operand)):Option (TypeId×Nat×PL×List V):=Aa (tb s) λdd=>match dd with
  |.sl e es _ ez=>RZ (Nat.ble (n * es) 16777216) (Aa (bo (λi=>some (i * es,es)) ps L (Qq ez es n)) λq=>Aa (br q.2) λcs=>some (e,es,q.1,cs))
  |_=>none
theorem Fz{α:Type}(f:α->List V)(l:List α){e:TypeId}{es n:Nat}{ps:Array (Nat×Operand)}{L2:PL}{cs:List V}(h:bsO tb L s n ps.toList=some (e,es,L2,cs))(hn:l.length=n)(hc:cs=l.flatMap f)(hf:∀x,(f x).length=es)(k:K (Ce ((d,.own e l.length (l.flatMap f))::L2))):F0 P tb cns ⟨some d,.buildSlice s n ps,t,none⟩ (Ce L) K:=by
  obtain⟨dd,h1,h⟩:=AQ h
  cases dd with
  |sl e' es' eb ez=>
    obtain⟨h2,h⟩:=Dq h
    obtain⟨q,h3,h⟩:=AQ h
    obtain⟨cs',h4,h⟩:=AQ h
    cases h
    have e1:=WY h4
    subst hc
    simp only[F0,PA,a8,h1,Xv (L':=q.1) (cs':=q.2) h3]
    rw[<-e1]
    refine⟨nb h2,?_,?_⟩
    · rw[Bg hf,hn]
    · rw[hn]at k;exact k
  |_=>cases h
theorem qBk{α:Type}(f:α->List V)(l:List α)(e:TypeId)(es:Nat){n:Nat}{ps:Array (Nat×Operand)}(h:bsO tb L s n ps.toList=some (e,es,L,l.flatMap f))(hn:l.length=n)(hf:∀x,(f x).length=es)(k:K (Ce ((d,.own e l.length (l.flatMap f))::L))):F0 P tb cns ⟨some d,.buildSlice s n ps,t,none⟩ (Ce L) K:=Fz f l h hn rfl hf k
def mkO(tb:Tb)(L:PL)(s:TypeId)(x y:Operand):Option (Int×Int×TypeId×Nat×List V):=Aa (Pk L x) λa=>Aa (Pk L y) λb=>match a,b with
  |.int _ n,.int _ m=>Aa (tb s) λdd=>match dd with
    |.sl e es _ ez=>some (n,m,e,es,ez)
    |_=>none
  |_,_=>none
theorem jM{n m:Int}{e:TypeId}{es:Nat}{ez:List V}(h:mkO tb L s x y=some (n,m,e,es,ez)):∃k0 k1 eb,Cl (Ce L) x=.int k0 n∧Cl (Ce L) y=.int k1 m∧tb s=some (.sl e es eb ez):=by
  obtain⟨a,h1,h⟩:=AQ h
  obtain⟨b,h2,h⟩:=AQ h
  cases a<;>first|(cases h;done)|skip
  cases b<;>first|(cases h;done)|skip
  obtain⟨dd,h3,h⟩:=AQ h
  cases dd<;>first|(cases h;done)|skip
  cases h
  exact⟨_,_,_,Dy h1,Dy h2,h3⟩
theorem qM{α:Type}(f:α->List V)(z:α){e:TypeId}{es:Nat}{ez:List V}{n:Int}(hc:cns.contains d=false)(h:mkO tb L s x y=some (n,n,e,es,ez))(hz:f z=ez)(hez:ez.length=es)(hn:0<=n∧n.toNat<=lim)(k:K (Ce ((d,.own e (List.replicate n.toNat z).length ((List.replicate n.toNat z).flatMap f))::L))):F0 P tb cns ⟨some d,.makeSlice s x y,t,none⟩ (Ce L) K:=by
  obtain⟨k0,k1,eb,h1,h2,h3⟩:=jM h
  exact uw hc h1 h2 h3 hz hez hn k
theorem qMu{α:Type}(f:α->List V)(z:α){e:TypeId}{es:Nat}{ez:List V}{n:Int}(hc:cns.contains d=true)(h:mkO tb L s x y=some (n,n,e,es,ez))(hz:f z=ez)(hez:ez.length=es)(hn:0<=n∧n.toNat<=lim)(hb:nbL L d=true)(k:K (Ce ((d,.uni e (List.replicate n.toNat z).length ((List.replicate n.toNat z).flatMap f))::L))):F0 P tb cns ⟨some d,.makeSlice s x y,t,none⟩ (Ce L) K:=by
  obtain⟨k0,k1,eb,h1,h2,h3⟩:=jM h
  exact pY hc h1 h2 h3 hz hez hn (XP hb) k
def bK(D:List Nat)(L:PL):PL:=L.map λp=>(p.1,if D.contains p.1=true then .undef else match DL p.2 with
  |some b=>if D.contains b=true then .undef else p.2
  |none=>p.2)
theorem UU(D:List Nat):∀L:PL,Ce (bK D L)=kill D (Ce L)
  |[]=>by funext s;simp[bK,Ce,kill,DL]
  |(q,c)::L=>by
    have ih:=UU D L
    funext s
    show Ce ((q,_)::bK D L) s=_
    rw[D4]
    by_cases e:s=q
    · subst e
      rw[upd_same]
      unfold kill
      rw[D4,upd_same]
      rfl
    · rw[upd_ne _ _ e,ih]
      unfold kill
      rw[D4,upd_ne _ _ e]
def frL:PL->Option PL
  |[]=>some []
  |(s,.undef)::L=>Aa (frL L) λL'=>some ((s,.undef)::L')
  |(s,c)::L=>Aa (VP c) λc=>Aa (frL L) λL'=>some ((s,c)::L')
theorem ZV:∀{L L':PL},frL L=some L'->L'=L
  |[],_,h=>by cases h;rfl
  |(s,c)::L,L',h=>by
    unfold frL at h
    split at h
    · rename_i he;cases he
    · rename_i he;cases he
      obtain⟨L1,h1,h⟩:=AQ h
      cases h;rw[ZV h1]
    · rename_i he;cases he
      obtain⟨c1,h0,h⟩:=AQ h
      obtain⟨L1,h1,h⟩:=AQ h
      cases h;rw[ZV h1,GN h0]
theorem qTu{e:TypeId}{n:Nat}{cs:List V}{L1:PL}(hc:cns.contains d=true)(h:lk L s=some (.uni e n cs))(hk:frL (bK [s] L)=some L1)(k:K (Ce ((d,.own e n cs)::(s,.dat n cs)::L1))):F0 P tb cns ⟨some d,.move (.tmp s),t,none⟩ (Ce L) K:=by
  rw[ZV hk]at k
  refine mo hc (CO h) ?_
  rw[<-UU];exact k
theorem qAu{e:TypeId}{n:Nat}{cs:List V}{L1:PL}(hc:cns.contains d=true)(h:lk L s=some (.uni e n cs))(hk:frL (bK [s] L)=some L1)(hn:nbL L1 d=true)(k:K (Ce ((d,.uni e n cs)::L1))):F0 P tb cns ⟨some d,.assign (.tmp s),t,none⟩ (Ce L) K:=by
  have e1:=ZV hk
  subst e1
  refine pS hc (CO h) (by rw[<-UU];exact XP hn) ?_
  rw[<-UU];exact k
def iuO(tb:Tb)(L:PL)(s:TypeId)(x y:Operand):Option (Nat×Nat×Int×Nat):=Aa (Pk L x) λa=>match a with
  |.same b=>Aa (lk L b) λu=>match u with
    |.uni _ n _=>Aa (Pk L y) λc=>match c with
      |.int _ i=>Aa (tb s) λdd=>match dd with
        |.sl _ es _ _=>some (b,n,i,es)
        |_=>none
      |_=>none
    |_=>none
  |_=>none
theorem qIu{b n es:Nat}{i:Int}(h:iuO tb L s x y=some (b,n,i,es))(hi:0<=i∧i < n)(k:K (Ce ((d,.cref b (i.toNat * es))::L))):F0 P tb cns ⟨some d,.indexAddr s x y,t,none⟩ (Ce L) K:=by
  obtain⟨a,h1,h⟩:=AQ h
  cases a<;>first|(cases h;done)|skip
  obtain⟨u,h2,h⟩:=AQ h
  cases u<;>first|(cases h;done)|skip
  obtain⟨c,h3,h⟩:=AQ h
  cases c<;>first|(cases h;done)|skip
  obtain⟨dd,h4,h⟩:=AQ h
  cases dd<;>first|(cases h;done)|skip
  cases h
  exact pV (Dy h1) (CO h2) (Dy h3) h4 hi k
theorem qLu{α:Type}{f:α->List V}{n b m:Nat}(off:Nat){l:List α}{i:Int}{e:α}{et:TypeId}{dd:TyD}{v:V}(hc:cns.contains d=false)(hx:adO L x=some (.cref b (i.toNat * n+off)))(hb:lk L b=some (.uni et m (l.flatMap f)))(hf:∀x,(f x).length=n)(hi:AZ l i=some e)(ht:tb s=some dd)(ho:Nat.ble (off+dd.size) n=true)(hg:VP (getCells dd (f e) off)=some v)(k:K (Ce ((d,v)::L))):F0 P tb cns ⟨some d,.load s x,t,none⟩ (Ce L) K:=by
  rw[GN hg]at k
  exact pX hc (Pp hx) (CO hb) hf hi ht (nb ho) rfl k
theorem qSu{ty:TypeId}{α:Type}{f:α->List V}{n b:Nat}{l:List α}{i:Int}(e:α){et:TypeId}{dd:TyD}{c1:V}{L1:PL}(hx:adO L x=some (.cref b (i.toNat * n)))(hb:lk L b=some (.uni et l.length (l.flatMap f)))(hf:∀x,(f x).length=n)(hi:0<=i∧i < l.length)(hy:Pk L y=some c1)(ht:tb t=some dd)(ha:c1.isArg=true)(hn:n=dd.size)(hc:GM c1=f e)(hL:RQ L y c1=some L1)
    (k:K (Ce ((b,.uni et (Da l i e).length ((Da l i e).flatMap f))::L1))):F0 P tb cns ⟨none,.store t x y,ty,none⟩ (Ce L) K:=by
  refine p8 (Pp hx) (CO hb) hf hi (Dy hy) ht ha hn hc ?_
  rw[<-Mh hy hL];exact k
end
section
variable {P:Program}{nt:Nat}{bx:List Nat}{Q:Exit->PS->Prop}{L:PL}
theorem BR{α:Type}{s:Nat}{x y:LC}{b:Bool}{u v:Option α}{r:α}(h:cond b u v=some r)(hb:lk L s=some (.bool b))(k1:u=some r->LS P nt bx x (Ce L) Q)(k2:v=some r->LS P nt bx y (Ce L) Q):LS P nt bx (.cond (.tmp s) x y) (Ce L) Q:=Eg h (λe h=>oJ (CO hb) e (k1 h)) (λe h=>oH (CO hb) e (k2 h))
theorem qT{s:Nat}{x y:LC}{b:Bool}(hb:lk L s=some (.bool b))(e:b=true)(h:LS P nt bx x (Ce L) Q):LS P nt bx (.cond (.tmp s) x y) (Ce L) Q:=oJ (CO hb) e h
theorem qF{s:Nat}{x y:LC}{b:Bool}(hb:lk L s=some (.bool b))(e:b=false)(h:LS P nt bx y (Ce L) Q):LS P nt bx (.cond (.tmp s) x y) (Ce L) Q:=oH (CO hb) e h
end
section
variable {P:Program}{tb:Tb}{cns:List Nat}{L:PL}{K:PS->Prop}{d s t:Nat}{x:Operand}
end
def ct(tb:Tb)(cns:List Nat):List LO->PL->Option PL
  |[],L=>some L
  |o::os,L=>Aa (LM tb cns o L) λL'=>ct tb cns os L'
def kF(tb:Tb):Nat->LC->PL->Option (LC×PL)
  |0,l,L=>some (l,L)
  |n+1,.seq (.rgn cns ops) y,L=>Aa (ct tb cns ops L) λL'=>kF tb n y L'
  |_+1,_,_=>none
section
variable {P:Program}{nt:Nat}{bx:List Nat}{Q:Exit->PS->Prop}{tb:Tb}
theorem cu{cns:List Nat}{K:PS->Prop}:∀{ops:List LO}{L L':PL},ct tb cns ops L=some L'->K (Ce L')->Vr P tb cns ops (Ce L) K
  |[],_,_,h,k=>by cases h;exact k
  |o::ops,L,_,h,k=>by
    rw[ct]at h
    obtain⟨L1,h1,h⟩:=AQ h
    exact Ym (K:=λσ'=>Vr P tb cns ops σ' K) h1 (cu h k)
theorem fo(htb:H1 P tb):∀{n:Nat}{l l':LC}{L L':PL},kF tb n l L=some (l',L')->LS P nt bx l' (Ce L') Q->LS P nt bx l (Ce L) Q
  |0,_,_,_,_,h,k=>by cases h;exact k
  |n+1,l,l',L,L',h,k=>by
    cases l with
    |seq a y=>
      cases a with
      |rgn cns ops=>
        obtain⟨L1,h1,h⟩:=AQ (show Aa (ct tb cns ops L) (λL'=>kF tb n y L')=_ from h)
        exact jK htb (cu h1 (fo htb h k))
      |_=>exact absurd (show none=some _ from h) (by simp)
    |_=>exact absurd (show none=some _ from h) (by simp)
abbrev Jn(K:PS->Prop)(L:PL):Prop:=∀σ:PS,YW σ L->K σ
theorem lh{l:LC}{σ:PS}{L:PL}(hk:YW σ L)(h2:okR L=true)(h:LS P nt bx l (Ce L) Q):LS P nt bx l σ Q:=Nl L hk h2 h
end
def yq(cns:List Nat)(o:LO):Bool:=match o.op,o.dst with
  |.move _,some d=> !cns.contains d
  |_,_=>false
def fpO(base:List (Nat×Nat))(cns:List Nat)(o:LO):List Nat×List Nat:=match spc cns o with
  |true=>([],o.dst.toList)
  |false=>
  let R:=Q6 o.op++match o.op with
    |.alloc _=>o.dst.toList
    |.call _=>o.dst.toList.filter cns.contains
    |_=>[]
  let R:=R++match yq cns o with
    |true=>[]
    |false=>base.filterMap λp=>if R.contains p.1 then some p.2 else none
  (R++gT o,o.dst.toList++if simple cns o=true then base.filterMap (λp=>if(adC o.op).contains p.1 then some p.2 else none)else R)
def cnO:List (Nat×List Nat)->Nat->List Nat
  |[],_=>[]
  |(i,c)::r,id=>match Nat.beq id i with
    |true=>c
    |false=>cnO r id
def Ql(base:List (Nat×Nat))(cn:List (Nat×List Nat)):Code->LC
  |.skip=>.skip
  |.region id ops d=>match d with
    |true=>.drw (cnO cn id) ((ops.toList.map (CG ops)).map (fpO base (cnO cn id))) (ops.toList.map Tn) (ops.toList.map (CG ops))
    |false=>.rgn (cnO cn id) (ops.toList.map (CG ops))
  |.seq a b=>.seq (Ql base cn a) (Ql base cn b)
  |.cond c a b=>.cond c (Ql base cn a) (Ql base cn b)
  |.block id a=>.blk id (Ql base cn a)
  |.loop a=>.loop [] (Ql base cn a)
  |.exit id=>.exit id
  |.ret=>.ret
  |_=>.bad
theorem Rp(base:List (Nat×Nat))(cn:List (Nat×List Nat)):∀c:Code,ID c=Vq (Ql base cn c)
  |.skip=>rfl
  |.region id ops d=>by cases d<;>simp[ID,Ql,Vq]
  |.seq a b=>by rw[ID,Ql,Vq,Rp base cn a,Rp base cn b]
  |.cond c a b=>by rw[ID,Ql,Vq,Rp base cn a,Rp base cn b]
  |.block id a=>by rw[ID,Ql,Vq,Rp base cn a]
  |.loop a=>by rw[ID,Ql,Vq,Rp base cn a]
  |.exit id=>rfl
  |.ret=>rfl
  |.rangeFunc .. =>rfl
  |.scope .. =>rfl
  |.label .. =>rfl
  |.goto .. =>rfl
  |.refuse .. =>rfl
def cdF(f:Func):Code:=match f.body with
  |some c=>c
  |none=>.skip
def uj(bx:List Nat)(base:List (Nat×Nat))(cn:List (Nat×List Nat))(fn:Func):Bool:=
  fn.body.isSome&&((fn.name== "runtime.NumGoroutine")==false&&(okC fn.ntmps bx (cdF fn)&&(decide (fn.results.toList.map I7).Nodup&&okL bx (Ql base cn (cdF fn)))))
theorem Bw{P:Program}{f:Nat}{fn:Func}{bx:List Nat}{base:List (Nat×Nat)}{cn:List (Nat×List Nat)}(h1:P.funcs[f]? =some fn)(h2:uj bx base cn fn=true):Lit P f fn.ntmps bx fn.results.toList (Ql base cn (cdF fn)):=by
  simp only[uj,Ab]at h2
  obtain⟨h2,h3,h4,h5,h6⟩:=h2
  obtain⟨c,hc⟩:=HB.1 h2
  refine⟨⟨fn,c,h1,hc,eq_of_beq h3,rfl,rfl,?_,?_⟩,LV h5,h6⟩
  · rw[<-Rp];unfold cdF;rw[hc]
  · unfold cdF at h4;rw[hc]at h4;exact h4
end Go.Proofs.YtplejokflpkcbaaGreatDoor
namespace Go.Proofs.YtplejokflpkcbaaGreatDoor
theorem Cs{S O:Type}{body:(S->Option O)->S->Option O}{out:O}(f:Nat->S):∀(n:Nat),(∀k,k < n->∀rec,body rec (f k)=rec (f (k+1)))->(∀rec,body rec (f n)=some out)->∀m,n < m->Ap body m (f 0)=some out:=by
  have key:∀(d n:Nat),(∀k,k < n->∀rec,body rec (f k)=rec (f (k+1)))->(∀rec,body rec (f n)=some out)->∀k,k+d=n->∀m,d < m->Ap body m (f k)=some out:=by
    intro d n h1 h2
    induction d with
    |zero=>
      intro k hk m hm
      cases m with
      |zero=>omega
      |succ m=>rw[show k=n by omega];exact h2 _
    |succ d ih=>
      intro k hk m hm
      cases m with
      |zero=>omega
      |succ m=>
        show body (Ap body m) (f k)=some out
        rw[h1 k (by omega)]
        exact ih (k+1) (by omega) m (by omega)
  intro n h1 h2 m hm
  exact key n n h1 h2 0 (by omega) m hm
theorem wrap_in{n:Int}(h: -9223372036854775808<=n∧n<=9223372036854775807):IntKind.i64.wrap n=n:=by
  unfold IntKind.wrap
  simp[IntKind.signed,IntKind.bits]<;>omega
theorem BC{k n:Nat}(h:k < n)(hn:n<=maxLen):IntKind.i64.wrap ((k:Int)+1)=((k+1:Nat):Int):=by
  rw[wrap_in (by unfold maxLen at hn;omega)];simp
theorem UO{α:Type}(l:List α)(k:Nat):AZ l (k:Int)=l[k]?:=by simp[AZ]
theorem Bm{α:Type}{l:List α}{k:Nat}(h:k < l.length):AZ l (k:Int)=some l[k]:=by rw[UO,Af h]
theorem CQ{n:Nat}(h:n<=lim):n < fz:=by unfold lim at h;unfold fz;omega
theorem AH{α:Type}{p:Prop}[Decidable p]{x:Option α}(h:p):chk p x=x:=by unfold chk;rw[AI h]
end Go.Proofs.YtplejokflpkcbaaGreatDoor
namespace Go.Proofs.YtplejokflpkcbaaGreatDoor
def nk(u:Value):V->V
  |.own _ n cs=>.pin u n (NI cs)
  |c=>c
def Ss:V->Bool
  |.own _ _ _=>true
  |_=>false
def fU:V->Bool
  |.int _ _=>true
  |.bool _=>true
  |.str _=>true
  |_=>false
def SD:List V->Bool
  |[]=>false
  |c::cs=>(Ss c&&cs.all fU) || (fU c&&SD cs)
def GZ:List V->V
  |[]=>.undef
  |c::cs=>match c with
    |.own e n ds=>.own e n ds
    |_=>GZ cs
section
variable {P:Program}{w:World}{St:Nat->Nat->Prop}
theorem pa{c:V}{v:Value}{b:List Nat}(hs:fU c=true)(h:Ow P w St c v b):b=[]:=by
  cases c<;>first|exact h.1|cases hs
theorem kY{c:V}(u:Value)(hs:fU c=true):nk u c=c:=by cases c<;>first|rfl|cases hs
theorem kZ:∀{cs:List V}{us:List Value}{b:List Nat},cs.all fU=true->Bd P w St cs us b->b=[]
  |[],_,_,_,h=>h.2
  |c::cs,_,_,hs,⟨u,us',b1,b2,e1,e2,hc,h1,h2⟩=>by
    simp only[Bt,Ab]at hs
    rw[e2,pa hs.1 h1,kZ hs.2 h2];rfl
theorem fv:∀{cs:List V}(u:Value),cs.all fU=true->cs.map (nk u)=cs
  |[],_,_=>rfl
  |c::cs,u,hs=>by
    simp only[Bt,Ab]at hs
    rw[AO,kY u hs.1,fv u hs.2]
theorem ni{e:TypeId}{n:Nat}{cs:List V}{u:Value}{b:List Nat}(h:Ow P w St (.own e n cs) u b):Ow P w St (.pin u n (NI cs)) u []:=by
  have:=Rd.erase _ (Ow.rd (.own e n cs) h rfl)
  exact⟨rfl,rfl,this⟩
theorem fD:∀{ds:List V},SD ds=true->∃e n cs,GZ ds=.own e n cs
  |[],h=>by cases h
  |c::cs,h=>by
    simp only[SD,Cq,Ab]at h
    rcases h with⟨h1,h2⟩|⟨h1,h2⟩
    · cases c<;>first|exact⟨_,_,_,rfl⟩|cases h1
    · obtain⟨e,n,cs',e1⟩:=fD h2
      cases c<;>first|(cases h1;done)|exact⟨e,n,cs',e1⟩
theorem Y1:∀{ds:List V}{xs:List Value}{b:List Nat},SD ds=true->Bd P w St ds xs b->∃u,Ow P w St (GZ ds) u b∧Bd P w St (ds.map (nk u)) xs []
  |[],_,_,h,_=>by cases h
  |c::cs,_,_,h,⟨u,us',b1,b2,e1,e2,hc,h1,h2⟩=>by
    simp only[SD,Cq,Ab]at h
    rcases h with⟨g1,g2⟩|⟨g1,g2⟩
    · have hb:=kZ g2 h2
      subst hb
      rw[Bp]at e2
      subst e2
      cases c<;>first|(cases g1;done)|skip
      refine⟨u,h1,?_⟩
      rw[AO,fv u g2]
      exact⟨u,us',[],[],e1,rfl,rfl,ni h1,h2⟩
    · have hb:=pa g1 h1
      subst hb
      rw[Bq]at e2
      subst e2
      obtain⟨u',h3,h4⟩:=Y1 g2 h2
      refine⟨u',?_,?_⟩
      · cases c<;>first|(cases g1;done)|exact h3
      · rw[AO,kY u' g1]
        exact⟨u,us',[],[],e1,rfl,hc,h1,h4⟩
end
def IC{α:Type}(k:Nat):List α->List (Nat×α)
  |[]=>[]
  |x::l=>(k,x)::IC (k+1) l
def pE{α:Type}(f:α->List V)(U:Nat->Value)(p:Nat×α):List V:=(f p.2).map (nk (U p.1))
section
variable {P:Program}{w:World}{St:Nat->Nat->Prop}{α:Type}{f:α->List V}
theorem b8(h1:∀x,SD (f x)=true):∀(l:List α) (k:Nat) {xs:List Value}{bs:List Nat},Bd P w St (l.flatMap f) xs bs->
    ∃us:List Value,us.length=l.length∧Bd P w St (l.map λx=>GZ (f x)) us bs∧∀U:Nat->Value,(∀i,i < l.length->U (k+i)=us.getD i undef)->Bd P w St ((IC k l).flatMap (pE f U)) xs []
  |[],k,_,_,h=>⟨[],rfl,⟨rfl,h.2⟩,λU _=>⟨h.1,rfl⟩⟩
  |x::l,k,xs,bs,h=>by
    rw[AG]at h
    obtain⟨xs1,xs2,b1,b2,rfl,rfl,r1,r2⟩:=h.app
    obtain⟨u,h3,h4⟩:=Y1 (h1 x) r1
    obtain⟨us,hl,h5,h6⟩:=b8 h1 l (k+1) r2
    obtain⟨e,n,cs,et⟩:=fD (h1 x)
    refine⟨u::us,by simp[hl],⟨u,us,b1,b2,rfl,rfl,by show(GZ (f x)).Di=true;rw[et];rfl,h3,h5⟩,λU hU=>?_⟩
    have hu:U k=u:=by have:=hU 0 (by simp);simpa using this
    rw[IC,AG]
    have:=Bd.join (b1:=[]) (b2:=[]) (show Bd P w St (pE f U (k,x)) xs1 []by unfold pE;rw[hu];exact h4) (h6 U (λi hi=>by
      have:=hU (i+1) (by simp;omega)
      have e:k+1+i=k+(i+1):=by omega
      rw[e,this];simp))
    exact this
theorem Ra:∀{cs:List V}{us:List Value}{bs:List Nat},Bd P w St cs us bs->bs.Nodup->∃β:Nat->List Nat,(∀i c u,cs[i]? =some c->us[i]? =some u->Ow P w St c u (β i))∧(∀i,∀g∈β i,g∈bs)∧(∀i,(β i).Nodup)∧∀i j,i≠j->∀g∈β i,g∉β j
  |[],_,_,h,_=>⟨λ_=>[],by simp,by simp,λ_=>AD,by simp⟩
  |c::cs,_,_,⟨u,us',b1,b2,e1,e2,hc,h1,h2⟩,hn=>by
    subst e1 e2
    obtain⟨n1,n2,n3⟩:=Ay.1 hn
    obtain⟨β,k1,k2,k3,k4⟩:=Ra h2 n2
    refine⟨λi=>match i with|0=>b1|i+1=>β i,?_,?_,?_,?_⟩
    · intro i c' u' hc' hu'
      cases i with
      |zero=>simp only[B6,Ao]at hc' hu';subst hc' hu';exact h1
      |succ i=>exact k1 i c' u' (by simpa using hc') (by simpa using hu')
    · intro i g hg
      cases i with
      |zero=>exact AF _ hg
      |succ i=>exact Az _ (k2 i g hg)
    · intro i
      cases i with
      |zero=>exact n1
      |succ i=>exact k3 i
    · intro i j hij g hg hg'
      cases i with
      |zero=>
        cases j with
        |zero=>exact hij rfl
        |succ j=>exact n3 g hg g (k2 j g hg') rfl
      |succ i=>
        cases j with
        |zero=>exact n3 g hg' g (k2 i g hg) rfl
        |succ j=>exact k4 i j (by omega) g hg hg'
end
theorem zpE{α:Type}{f:α->List V}{n:Nat}(h:∀x,(f x).length=n){U:Nat->Value}(p:Nat×α):(pE f U p).length=n:=by unfold pE;rw[As,h]
section
variable {P:Program}{α:Type}{f:α->List V}
theorem VJ:∀(k:Nat) (l:List α),(IC k l).length=l.length
  |_,[]=>rfl
  |k,x::l=>by rw[IC,Ax,Ax,VJ (k+1) l]
def gX(P:Program)(f:α->List V)(c:V)(l:List α)(k:Nat)(c':(Nat->Value)->V):Prop:=
  ∀w St t v bs,Cj P w St t c v bs->bs.Nodup->∃us b1 b2,us.length=l.length∧Bd P w St (l.map λx=>GZ (f x)) us b2∧(b1++b2).Nodup∧(∀g∈b1++b2,g∈bs)∧∀U:Nat->Value,(∀i,i < l.length->U (k+i)=us.getD i undef)->Cj P w St t (c' U) v b1
theorem ao(h1:∀x,SD (f x)=true){e:TypeId}{l:List α}{k:Nat}{w:World}{St:Nat->Nat->Prop}{v:Value}{bs:List Nat}(h:Ow P w St (.own e l.length (l.flatMap f)) v bs)(hn:bs.Nodup):
    ∃us b1 b2,us.length=l.length∧Bd P w St (l.map λx=>GZ (f x)) us b2∧bs=b1++b2∧∀U:Nat->Value,(∀i,i < l.length->U (k+i)=us.getD i undef)->Ow P w St (.own e (IC k l).length ((IC k l).flatMap (pE f U))) v b1:=by
  obtain⟨hl,xs,bs',hx,hr,hb,hst,h0⟩:=h
  obtain⟨us,hul,ht,hp⟩:=b8 h1 l k hr
  refine⟨us,v.ownBlock.toList,bs',hul,ht,hb,λU hU=>?_⟩
  rw[VJ]
  refine⟨hl,xs,[],hx,hp U hU,by simp,hst,λhz=>?_⟩
  have:l=[]:=Bz hz
  subst this;rfl
theorem Wf(h1:∀x,SD (f x)=true){e:TypeId}{l:List α}{k:Nat}:gX P f (.own e l.length (l.flatMap f)) l k (λU=>.own e (IC k l).length ((IC k l).flatMap (pE f U))):=by
  intro w St t v bs h hn
  obtain⟨us,b1,b2,q1,q2,q3,q4⟩:=ao (k:=k) h1 (show Ow P w St _ v bs from h) hn
  exact⟨us,b1,b2,q1,q2,by rw[<-q3];exact hn,λg hg=>by rw[q3];exact hg,λU hU=>q4 U hU⟩
end
section
variable {P:Program}{nt:Nat}{base:Bs}{bx:List Nat}{St St0:Nat->Nat->Prop}{B:Nat->List Nat}{hand:List Nat}{σ:PS}{a:Act}{w w0:World}
theorem Pi(h:HSim P nt bx base St B [] σ a w){s q:Nat}(hsq:s≠q)(hq:C2 (σ q)=none){c cq:V}{b1 b2:List Nat}(hc:Cj P w St (tm a) c (tm a s) b1)(hcq:Cj P w St (tm a) cq (tm a q) b2)(hn:(b1++b2).Nodup)(hsub:∀g∈b1++b2,g∈B s∨g∈B q)
    (hb:(C2 c).isSome=(C2 (σ s)).isSome) (hrf:DL c=none) (hbq:C2 cq=none) (hrq:DL cq=none):HSim P nt bx base St (upd (upd B s b1) q b2) [] (upd (upd σ s c) q cq) a w:=by
  have hsome:∀cs,C2 c=some cs->∃ds,C2 (σ s)=some ds:=λcs e=>by
    rw[e]at hb
    cases hx:C2 (σ s)with
    |none=>rw[hx]at hb;cases hb
    |some ds=>exact⟨ds,rfl⟩
  have hsome':∀cs,C2 (σ s)=some cs->∃ds,C2 c=some ds:=λcs e=>by
    rw[e]at hb
    cases hx:C2 c with
    |none=>rw[hx]at hb;cases hb
    |some ds=>exact⟨ds,rfl⟩
  obtain⟨n1,n2,n3⟩:=Ay.1 hn
  have hB:∀r,r≠s->r≠q->upd (upd B s b1) q b2 r=B r:=λr h1 h2=>by rw[upd_ne _ _ h2,upd_ne _ _ h1]
  have hBs:upd (upd B s b1) q b2 s=b1:=by rw[upd_ne _ _ hsq,upd_same]
  have hBq:upd (upd B s b1) q b2 q=b2:=upd_same _ _ _
  have hS:∀r,r≠s->r≠q->upd (upd σ s c) q cq r=σ r:=λr h1 h2=>by rw[upd_ne _ _ h2,upd_ne _ _ h1]
  have hSs:upd (upd σ s c) q cq s=c:=by rw[upd_ne _ _ hsq,upd_same]
  have hSq:upd (upd σ s c) q cq q=cq:=upd_same _ _ _
  have hin:∀r,(∀g∈upd (upd B s b1) q b2 r,g∈B r∨((r=s∨r=q)∧(g∈B s∨g∈B q))):=λr g hg=>by
    by_cases e1:r=s
    · subst e1;rw[hBs]at hg;exact .inr ⟨.inl rfl,hsub g (AF _ hg)⟩
    · by_cases e2:r=q
      · subst e2;rw[hBq]at hg;exact .inr ⟨.inr rfl,hsub g (Az _ hg)⟩
      · rw[hB r e1 e2]at hg;exact .inl hg
  exact
  {h with
    slot:=λr=>by
      by_cases e1:r=s
      · subst e1;rw[hSs,hBs];exact hc
      · by_cases e2:r=q
        · subst e2;rw[hSq,hBq];exact hcq
        · rw[hS r e1 e2,hB r e1 e2];exact h.slot r
    boxes:=λr cs e=>by
      by_cases e1:r=s
      · subst e1;rw[hSs]at e;obtain⟨ds,hd⟩:=hsome cs e;exact h.boxes r ds hd
      · by_cases e2:r=q
        · subst e2;rw[hSq,hbq]at e;cases e
        · rw[hS r e1 e2]at e;exact h.boxes r cs e
    crefs:=λr b e=>by
      have hr:DL (σ r)=some b:=by
        by_cases e1:r=s
        · subst e1;rw[hSs,hrf]at e;cases e
        · by_cases e2:r=q
          · subst e2;rw[hSq,hrq]at e;cases e
          · rw[hS r e1 e2]at e;exact e
      obtain⟨cs,hcs⟩:=h.crefs r b hr
      by_cases e1:b=s
      · subst e1;rw[hSs];exact hsome' cs hcs
      · by_cases e2:b=q
        · subst e2;rw[hq]at hcs;cases hcs
        · rw[hS b e1 e2];exact⟨cs,hcs⟩
    nodup:=λr=>by
      by_cases e1:r=s
      · subst e1;rw[hBs];exact n1
      · by_cases e2:r=q
        · subst e2;rw[hBq];exact n2
        · rw[hB r e1 e2];exact h.nodup r
    apart:=λr t hrt g hg hg'=>by
      by_cases e1:(r=s∨r=q)
      · by_cases e2:(t=s∨t=q)
        · rcases e1 with rfl|rfl<;>rcases e2 with rfl|rfl
          · exact hrt rfl
          · rw[hBs]at hg;rw[hBq]at hg';exact n3 g hg g hg' rfl
          · rw[hBq]at hg;rw[hBs]at hg';exact n3 g hg' g hg rfl
          · exact hrt rfl
        · have ht1:t≠s:=λe=>e2 (.inl e)
          have ht2:t≠q:=λe=>e2 (.inr e)
          rw[hB t ht1 ht2]at hg'
          rcases hin r g hg with hh|⟨_,hh⟩
          · exact h.apart r t hrt g hh hg'
          · rcases hh with hh|hh
            · exact h.apart s t (Ne.symm ht1) g hh hg'
            · exact h.apart q t (Ne.symm ht2) g hh hg'
      · have hr1:r≠s:=λe=>e1 (.inl e)
        have hr2:r≠q:=λe=>e1 (.inr e)
        rw[hB r hr1 hr2]at hg
        rcases hin t g hg' with hh|⟨_,hh⟩
        · exact h.apart r t hrt g hg hh
        · rcases hh with hh|hh
          · exact h.apart r s hr1 g hg hh
          · exact h.apart r q hr2 g hg hh
    hapart:=λr g hg=>by simp
    range:=λr g hg=>by
      rcases hin r g hg with hh|⟨_,hh|hh⟩
      · exact h.range r g hh
      · exact h.range s g hh
      · exact h.range q g hh}
variable {Q:Exit->PS->Prop}{α:Type}{f:α->List V}
theorem V6{x:LC}{s q:Nat}{l:List α}{c:V}{c':(Nat->Value)->V}(hs:σ s=c)(hq:σ q=.undef)(hsq:s≠q)(S:gX P f c l 0 c')(hb:∀U,(C2 (c' U)).isSome=(C2 c).isSome)(hrf:∀U,DL (c' U)=none)
    (h:∀(U:Nat->Value) (us:List Value),us.length=l.length->(∀i,i < l.length->U i=us.getD i undef)->LS P nt bx x (upd (upd σ s (c' U)) q (.gh us (l.map λx=>GZ (f x)))) Q):LS P nt bx x σ Q:=by
  intro cc hc hok hL base St0 w0 a w hr
  obtain⟨St,B,hS,r1,r2,r3⟩:=hr
  have h1:=hS.slot s
  rw[hs]at h1
  obtain⟨us,b1,b2,q1,q2,q3,q4,q5⟩:=S w St (tm a) (tm a s) (B s) h1 (hS.nodup s)
  have hU:∀i,i < l.length->(λi=>us.getD i undef) (0+i)=us.getD i undef:=λi _=>by simp
  refine h (λi=>us.getD i undef) us q1 (λi _=>rfl) cc hc hok hL base St0 w0 a w ⟨St,_,Pi hS hsq (by rw[hq];rfl) (q5 (λi=>us.getD i undef) hU) (show Cj P w St (tm a) (.gh us _) _ b2 from q2) q3 (λg hg=>.inl (q4 g hg)) (by rw[hs];exact hb _) (hrf _) rfl rfl,r1,r2,r3⟩
end
end Go.Proofs.YtplejokflpkcbaaGreatDoor
namespace Go.Proofs.YtplejokflpkcbaaGreatDoor
def Gh(P:Program)(nt:Nat)(bx:List Nat)(σ:PS)(K:PS->Prop):Prop:=∀base St0 w0 a w,Rel P nt bx base St0 w0 σ a w->∃σ',K σ'∧Rel P nt bx base St0 w0 σ' a w
def ghQ(P:Program)(nt:Nat)(bx:List Nat)(Q:Exit->PS->Prop):Exit->PS->Prop
  |.normal,σ=>Gh P nt bx σ (Q .normal)
  |e,σ=>Q e σ
section
variable {P:Program}{nt:Nat}{bx:List Nat}{σ:PS}{K:PS->Prop}{Q:Exit->PS->Prop}{x:LC}
theorem J9(h:K σ):Gh P nt bx σ K:=λ_ _ _ _ _ hr=>⟨σ,h,hr⟩
theorem Sz(h:LS P nt bx x σ (ghQ P nt bx Q)):LS P nt bx x σ Q:=by
  intro c hc hok hL base St0 w0 a w hr
  refine Fs (h c hc hok hL base St0 w0 a w hr) ?_
  rintro e a' w' ⟨σ',h1,h2⟩
  cases e with
  |normal=>exact h1 base St0 w0 a' w' h2
  |_=>exact⟨σ',h1,h2⟩
theorem D8(h:Gh P nt bx σ (λσ'=>LS P nt bx x σ' Q)):LS P nt bx x σ Q:=by
  intro c hc hok hL base St0 w0 a w hr
  obtain⟨σ',h1,h2⟩:=h base St0 w0 a w hr
  exact h1 c hc hok hL base St0 w0 a w h2
def dG(P:Program)(c:V)(e:TypeId)(n:Nat)(cs:List V)(c':Value->V):Prop:=
  ∀w St (t:Nat->Value) v bs,Cj P w St t c v bs->bs.Nodup->∃u b1 b2,Ow P w St (.own e n cs) u b2∧(b1++b2).Nodup∧(∀g∈b1++b2,g∈bs)∧Cj P w St t (c' u) v b1
theorem XZ{w:World}{St:Nat->Nat->Prop}{e:TypeId}{n:Nat}{cs:List V}{u:Value}{b:List Nat}(h:Ow P w St (.own e n cs) u b):Ow P w St (.tok u) u []:=⟨rfl,rfl,(Ow.rd (.own e n cs) h rfl).oneCell⟩
theorem gA{w:World}{St:Nat->Nat->Prop}{e:TypeId}{n:Nat}{cs:List V}{u:Value}{b:List Nat}(h:Ow P w St (.own e n cs) u b)(hn:0 < n):∃g m,u=.slice (some ⟨g,0,none⟩) n m:=by
  obtain⟨_,xs,bs',hrow,_⟩:=h
  rcases hrow.2 with⟨_,h0⟩|⟨g,cap,cur,eg,_⟩
  · omega
  · exact⟨g,cap,eg⟩
theorem jB{e:TypeId}{n:Nat}{cs:List V}:dG P (.own e n cs) e n cs .tok:=λw St t v bs h hn=>⟨v,[],bs,h,by simpa using hn,λg hg=>by simpa using hg,(XZ (show Ow P w St (.own e n cs) v bs from h)).slot⟩
theorem jA{e:TypeId}{n:Nat}{cs A C:List V}:dG P (.box (A++.own e n cs::C)) e n cs (λu=>.box (A++.tok u::C)):=by
  rintro w St t v bs ⟨g,T,bs',arr,e1,e2,hr,rfl,hst⟩ hn
  obtain⟨us1,us2,p1,p2,eu,eb,r1,r2⟩:=hr.app
  obtain⟨u,us3,p3,p4,eu2,eb2,hc,r3,r4⟩:=r2
  subst eb eb2
  have hn1:=BH.1 hn
  have hn2:=Ay.1 hn1.2
  have hn3:=Ay.1 hn2.2.1
  refine⟨u,g::(p1++p4),p3,r3,?_,?_,g,T,p1++p4,arr,e1,e2,?_,rfl,hst⟩
  · rw[CS,BH]
    refine⟨λhm=>hn1.1 ?_,Ay.2 ⟨Ay.2 ⟨hn2.1,hn3.2.1,λa ha b hb=>hn2.2.2 a ha b (Az _ hb)⟩,hn3.1,λa ha b hb e=>?_⟩⟩
    · simp only[Aq]at hm⊢
      rcases hm with(h|h)|h
      · exact .inl h
      · exact .inr (.inr h)
      · exact .inr (.inl h)
    · rcases Aq.1 ha with ha|ha
      · exact hn2.2.2 a ha b (AF _ hb) e
      · exact hn3.2.2 b hb a ha e.symm
  · intro k hk
    simp only[CS,AV,Aq]at hk⊢
    rcases hk with h|(h|h)|h
    · exact .inl h
    · exact .inr (.inl h)
    · exact .inr (.inr (.inr h))
    · exact .inr (.inr (.inl h))
  · rw[eu,eu2]
    have:=Bd.join r1 (show Bd P w St (.tok u::C) (u::us3) p4 from⟨u,us3,[],p4,rfl,by simp,rfl,XZ r3,r4⟩)
    exact this
theorem ZX{s q:Nat}{c:V}{e:TypeId}{n:Nat}{cs:List V}{c':Value->V}(hs:σ s=c)(hq:σ q=.undef)(hsq:s≠q)(L:dG P c e n cs c')(hn:0 < n)(hb:∀u,(C2 (c' u)).isSome=(C2 c).isSome)(hrf:∀u,DL (c' u)=none)
    (h:∀g m,Gh P nt bx (upd (upd σ s (c' (.slice (some ⟨g,0,none⟩) n m))) q (.gh [.slice (some ⟨g,0,none⟩) n m] [.own e n cs])) K):Gh P nt bx σ K:=by
  rintro base St0 w0 a w ⟨St,B,hS,r1,r2,r3⟩
  have h1:=hS.slot s
  rw[hs]at h1
  obtain⟨u,b1,b2,q1,q2,q3,q4⟩:=L w St (tm a) (tm a s) (B s) h1 (hS.nodup s)
  obtain⟨g,m,rfl⟩:=gA q1 hn
  exact h g m base St0 w0 a w ⟨St,_,Pi hS hsq (by rw[hq];rfl) q4 (show Cj P w St (tm a) (.gh [_] [_]) _ b2 from⟨_,[],b2,[],rfl,by simp,rfl,q1,rfl,rfl⟩) q2 (λg hg=>.inl (q3 g hg)) (by rw[hs];exact hb _) (hrf _) rfl rfl,r1,r2,r3⟩
def dF(P:Program)(c':V)(u:Value)(e:TypeId)(n:Nat)(cs:List V)(c:V):Prop:=
  ∀w St (t:Nat->Value) v b1 b2,Cj P w St t c' v b1->Ow P w St (.own e n cs) u b2->(b1++b2).Nodup->∃bs,bs.Nodup∧(∀g∈bs,g∈b1++b2)∧Cj P w St t c v bs
theorem iI{u:Value}{e:TypeId}{n:Nat}{cs:List V}:dF P (.tok u) u e n cs (.own e n cs):=by
  intro w St t v b1 b2 h1 h2 hn
  have hv:v=u:=h1.2.1
  subst hv
  exact⟨b2,(Ay.1 hn).2.1,λg hg=>Az _ hg,h2⟩
theorem iH{u:Value}{e:TypeId}{n:Nat}{cs A C:List V}:dF P (.box (A++.tok u::C)) u e n cs (.box (A++.own e n cs::C)):=by
  rintro w St t v b1 b2 ⟨g,T,bs',arr,e1,e2,hr,rfl,hst⟩ h2 hn
  obtain⟨us1,us2,p1,p2,eu,eb,r1,r2⟩:=hr.app
  obtain⟨u',us3,p3,p4,eu2,eb2,hc,r3,r4⟩:=r2
  obtain⟨hp3,hu,_⟩:=r3
  subst hu hp3 eb eb2
  have hn1:=Ay.1 hn
  have hn2:=BH.1 hn1.1
  have hn3:=Ay.1 hn2.2
  refine⟨g::(p1++(b2++p2)),?_,?_,g,T,p1++(b2++p2),arr,e1,e2,?_,rfl,hst⟩
  · refine BH.2 ⟨λhm=>?_,Ay.2 ⟨hn3.1,Ay.2 ⟨hn1.2.1,hn3.2.1,λa ha b hb e=>hn1.2.2 b (AX _ (Az _ hb)) a ha e.symm⟩,λa ha b hb e=>?_⟩⟩
    · simp only[Aq]at hm
      rcases hm with h|h|h
      · exact hn2.1 (AF _ h)
      · exact hn1.2.2 g (BO) g h rfl
      · exact hn2.1 (Az _ h)
    · rcases Aq.1 hb with hb|hb
      · exact hn1.2.2 a (AX _ (AF _ ha)) b hb e
      · exact hn3.2.2 a ha b hb e
  · intro k hk
    simp only[CS,AV,Aq]at hk⊢
    rcases hk with h|h|h|h
    · exact .inl h
    · exact .inr (.inl (.inl h))
    · exact .inr (.inr h)
    · exact .inr (.inl (.inr h))
  · rw[eu,eu2]
    exact Bd.join r1 (show Bd P w St (.own e n cs::C) (u'::us3) (b2++p2)from⟨u',us3,b2,p2,rfl,rfl,rfl,h2,r4⟩)
theorem ZW{s q:Nat}{u:Value}{e:TypeId}{n:Nat}{cs:List V}{c c':V}(hs:σ s=c')(hq:σ q=.gh [u] [.own e n cs])(hsq:s≠q)(D:dF P c' u e n cs c)(hb:(C2 c).isSome=(C2 c').isSome)(hrf:DL c=none)
    (h:Gh P nt bx (upd (upd σ s c) q .undef) K):Gh P nt bx σ K:=by
  rintro base St0 w0 a w ⟨St,B,hS,r1,r2,r3⟩
  have h1:=hS.slot s
  rw[hs]at h1
  have h2:=hS.slot q
  rw[hq]at h2
  obtain⟨u',us',b1,b2,eu,eb,_,hOw,hnil⟩:=h2
  simp only[Db]at eu
  obtain⟨rfl,rfl⟩:=eu
  have hb2:b2=[]:=hnil.2
  subst hb2
  rw[Bp]at eb
  have hnd:(B s++b1).Nodup:=Ay.2 ⟨hS.nodup s,by have:=hS.nodup q;rwa [eb]at this,λx hx y hy e=>by subst e;exact hS.apart s q hsq x hx (by rw[eb];exact hy)⟩
  obtain⟨bs,q1,q2,q3⟩:=D w St (tm a) (tm a s) (B s) b1 h1 hOw hnd
  exact h base St0 w0 a w ⟨St,_,Pi hS hsq (by rw[hq];rfl) q3 (show Cj P w St (tm a) .undef _ []from rfl) (by simpa using q1) (λg hg=>by
    rw[Bp]at hg
    rcases Aq.1 (q2 g hg)with hh|hh
    · exact .inl hh
    · exact .inr (by rw[eb];exact hh)) (by rw[hs];exact hb) hrf rfl rfl,r1,r2,r3⟩
theorem Zg{α:Type}{cs:List α}{k:Nat}{c:α}(hk:cs[k]? =some c)(x:α):cs=cs.take k++c::cs.drop (k+1)∧cs.set k x=cs.take k++x::cs.drop (k+1):=by
  obtain⟨hlt,he⟩:=B5.1 hk
  refine⟨?_,by rw[Fk,AI hlt]⟩
  rw[<-he,<-Cr hlt,FE]
theorem cf(a b c d:List Nat):(a++(b++d)++c).Perm (a++(b++(c++d))):=by
  rw[Bc,Bc]
  exact List.Perm.append_left _ (List.Perm.append_left _ List.perm_append_comm)
theorem mM{u1:Value}{e e2:TypeId}{n m k:Nat}{cs row:List V}(hk:cs[k]? =some (.own e2 m row)):dG P (.gh [u1] [.own e n cs]) e2 m row (λu=>.gh [u1] [.own e n (cs.set k (.tok u))]):=by
  rintro w St t v bs ⟨u,us',b1,b2,eu,eb,hc,⟨hn,xs,bs',hrow,hxs,hb1,hSt,h0⟩,hnil⟩ hnd
  simp only[Db]at eu
  obtain⟨rfl,rfl⟩:=eu
  have hb2:b2=[]:=hnil.2
  subst hb2
  rw[Bp]at eb
  subst eb
  have hlt:=(B5.1 hk).1
  have e0:=λx=>Zg hk x
  rw[(e0 .undef).1]at hxs
  obtain⟨us1,us2,p1,p2,eu,eb2,r1,r2⟩:=Bd.app hxs
  obtain⟨u',us3,p3,p4,eu2,eb3,hc',r3,r4⟩:=r2
  subst eb3 eb2 hb1
  have hp:=cf u1.ownBlock.toList p1 p3 p4
  refine⟨u',u1.ownBlock.toList++(p1++p4),p3,r3,hp.nodup_iff.2 hnd,λg hg=>hp.mem_iff.1 hg,u1,[],_,[],rfl,(Bp _).symm,rfl,⟨hn,xs,p1++p4,hrow,?_,rfl,hSt,λhz=>?_⟩,rfl,rfl⟩
  · rw[(e0 (.tok u')).2,eu,eu2]
    exact Bd.join r1 (show Bd P w St (.tok u'::_) (u'::us3) p4 from⟨u',us3,[],p4,rfl,by simp,rfl,XZ r3,r4⟩)
  · have:=h0 hz
    subst this
    simp at hlt
theorem mi{u1 u2:Value}{e e2:TypeId}{n m k:Nat}{cs row:List V}(hk:cs[k]? =some (.tok u2)):dF P (.gh [u1] [.own e n cs]) u2 e2 m row (.gh [u1] [.own e n (cs.set k (.own e2 m row))]):=by
  rintro w St t v c1 c2 ⟨u,us',b1,b2,eu,eb,hc,⟨hn,xs,bs',hrow,hxs,hb1,hSt,h0⟩,hnil⟩ h2 hnd
  simp only[Db]at eu
  obtain⟨rfl,rfl⟩:=eu
  have hb2:b2=[]:=hnil.2
  subst hb2
  rw[Bp]at eb
  subst eb
  have hlt:=(B5.1 hk).1
  have e0:=λx=>Zg hk x
  rw[(e0 .undef).1]at hxs
  obtain⟨us1,us2,p1,p2,eu,eb2,r1,r2⟩:=Bd.app hxs
  obtain⟨u',us3,p3,p4,eu2,eb3,hc',r3,r4⟩:=r2
  obtain⟨hp3,hu,_⟩:=r3
  subst hu hp3 eb3 eb2 hb1
  have hp:=cf u1.ownBlock.toList p1 c2 p2
  refine⟨u1.ownBlock.toList++(p1++(c2++p2)),hp.nodup_iff.1 (by simpa using hnd),λg hg=>by have:=hp.mem_iff.2 hg;simpa using this,u1,[],_,[],rfl,(Bp _).symm,rfl,⟨hn,xs,p1++(c2++p2),hrow,?_,rfl,hSt,λhz=>?_⟩,rfl,rfl⟩
  · rw[(e0 (.own e2 m row)).2,eu,eu2]
    exact Bd.join r1 (show Bd P w St (.own e2 m row::_) (u'::us3) (c2++p2)from⟨u',us3,c2,p2,rfl,rfl,rfl,h2,r4⟩)
  · have:=h0 hz
    subst this
    simp at hlt
variable {α:Type}{f:α->List V}
end
end Go.Proofs.YtplejokflpkcbaaGreatDoor
namespace Go.Proofs.YtplejokflpkcbaaGreatDoor
mutual
def He:V->V
  |.dat n cs=>.arg n (Kc cs)
  |.agg cs=>.agg (Kc cs)
  |.int k n=>.int k n
  |.bool b=>.bool b
  |.str s=>.str s
  |.fn f=>.fn f
  |_=>.undef
def Kc:List V->List V
  |[]=>[]
  |c::cs=>He c::Kc cs
end
mutual
def SU:V->Bool
  |.dat _ cs=>Ea cs
  |.int _ _=>true
  |.bool _=>true
  |.str _=>true
  |.fn _=>true
  |_=>false
def Ea:List V->Bool
  |[]=>true
  |c::cs=>SU c&&Ea cs
end
def Hl:V->Bool
  |.agg cs=>Ea cs
  |c=>SU c
section
variable {P:Program}{w:World}{St:Nat->Nat->Prop}{N:Nat->Prop}
theorem fI{cs:List V}:Kc cs≠[]->cs≠[]:=λh e=>h (by subst e;rfl)
mutual
theorem Rd.KE(hst:∀b o,St b o->N b):∀(c:V) {v:Value},SU c=true->Rd w St c v->Rd w (λb o=>St b o∨N b) (He c) v
  |.int _ _,_,_,h=>h
  |.bool _,_,_,h=>h
  |.str _,_,_,h=>h
  |.fn _,_,_,h=>h
  |.dat _ cs,_,ha,⟨hn,A,c,e,hc,h,h0⟩=>⟨hn,A,c,e,hc,λhp=>let⟨b,off,ea,hr⟩:=h hp;⟨b,off,ea,λhne o=>.inr (Dp.blk hst b off cs (fI hne) hr),Dp.KE hst b off cs ha hr⟩,λhz=>by rw[h0 hz];rfl⟩
  |.own _ _ _,_,ha,_=>by cases ha
  |.pin _ _ _,_,ha,_=>by cases ha
  |.arg _ _,_,ha,_=>by cases ha
  |.agg _,_,ha,_=>by cases ha
  |.tup _,_,ha,_=>by cases ha
  |.box _,_,ha,_=>by cases ha
  |.uni _ _ _,_,ha,_=>by cases ha
  |.same _,_,ha,_=>by cases ha
  |.val _ _,_,ha,_=>by cases ha
  |.cref _ _,_,ha,_=>by cases ha
  |.adr _ _,_,ha,_=>by cases ha
  |.gh _ _,_,ha,_=>by cases ha
  |.tok _,_,ha,_=>by cases ha
  |.undef,_,ha,_=>by cases ha
theorem Dp.KE(hst:∀b o,St b o->N b)(b:Nat):∀(off:Nat) (cs:List V),Ea cs=true->Dp w St b off cs->Dp w (λb o=>St b o∨N b) b off (Kc cs)
  |_,[],_,_=>trivial
  |off,c::cs,ha,⟨⟨h1,u,hu,hr⟩,h2⟩=>by
    rw[Ea,Ab]at ha
    exact⟨⟨.inl h1,u,hu,Rd.KE hst c ha.1 hr⟩,Dp.KE hst b (off+1) cs ha.2 h2⟩
theorem Dp.blk(hst:∀b o,St b o->N b)(b:Nat):∀(off:Nat) (cs:List V),cs≠[]->Dp w St b off cs->N b
  |_,[],h,_=>absurd rfl h
  |off,_::_,_,⟨⟨h1,_⟩,_⟩=>hst b off h1
end
theorem OG.KE(hst:∀b o,St b o->N b):∀(cs:List V) {us:List Value},Ea cs=true->OG w St cs us->OG w (λb o=>St b o∨N b) (Kc cs) us
  |[],_,_,h=>h
  |c::cs,_,ha,⟨u,us',e,h1,h2⟩=>by
    rw[Ea,Ab]at ha
    exact⟨u,us',e,Rd.KE hst c ha.1 h1,OG.KE hst cs ha.2 h2⟩
theorem Zq.KE(hst:∀b o,St b o->N b){c:V}{v:Value}(ha:Hl c=true)(h:Zq w St c v):Zq w (λb o=>St b o∨N b) (He c) v:=by
  cases c<;>first|exact Rd.KE hst _ ha h|(cases ha;done)|skip
  obtain⟨us,e,h⟩:=h
  exact⟨us,e,OG.KE hst _ ha h⟩
theorem M1.KE(hst:∀b o,St b o->N b):∀{args:List V}{vs:List Value},args.all Hl=true->M1 w St args vs->M1 w (λb o=>St b o∨N b) (args.map He) vs
  |[],_,_,h=>h
  |c::args,_,ha,⟨u,us',e,h1,h2⟩=>by
    simp only[Bt,Ab]at ha
    exact⟨u,us',e,Zq.KE hst ha.1 h1,M1.KE hst ha.2 h2⟩
end
theorem W8{c:V}(h:SU c=true):HR (He c)=true:=by
  cases c<;>first|rfl|cases h
theorem W9:∀{cs:List V},Ea cs=true->(Kc cs).all HR=true
  |[],_=>rfl
  |c::cs,h=>by
    rw[Ea,Ab]at h
    rw[Kc,Bt,W8 h.1,W9 h.2];rfl
theorem TT{c:V}(h:Hl c=true):KX (He c)=true:=by
  cases c<;>first|exact W8 h|(cases h;done)|skip
  exact W9 (show Ea _=true from h)
def d4:V->Bool
  |.tup cs=>Ez cs
  |c=>deep c
section
variable {P:Program}{w w':World}{St St':Nat->Nat->Prop}
theorem Jp.kept:∀(cs:List V) {us:List Value}{bs:List Nat},Ez cs=true->Jp P w St cs us bs->(∀g∈bs,w'.heap[g]? =w.heap[g]? ∧∀o,St' g o↔St g o)->Jp P w' St' cs us bs
  |[],_,_,_,h,_=>h
  |c::cs,_,_,hd,⟨u,us',b1,b2,e1,e2,h1,h2⟩,hb=>by
    have hd':deep c=true∧Ez cs=true:=by simpa[Ez]using hd
    exact⟨u,us',b1,b2,e1,e2,Ow.kept c hd'.1 h1 (λg hg=>hb g (by rw[e2];exact AF _ hg)),Jp.kept cs hd'.2 h2 (λg hg=>hb g (by rw[e2];exact Az _ hg))⟩
theorem cQ{c:V}{v:Value}{bs:List Nat}(hd:d4 c=true)(h:Ow P w St c v bs)(hb:∀g∈bs,w'.heap[g]? =w.heap[g]? ∧∀o,St' g o↔St g o):Ow P w' St' c v bs:=by
  cases c<;>first|exact Ow.kept _ hd h hb|skip
  obtain⟨us,e,h⟩:=h
  exact⟨us,e,Jp.kept _ hd h hb⟩
end
section
variable {P:Program}{tb:Tb}
theorem gM(htb:H1 P tb){f:FuncId}{fn:Func}{c:Code}{args:List V}{r:V}(hf:P.funcs[f]? =some fn)(hb:fn.body=some c)(hname:(fn.name== "runtime.NumGoroutine")=false)(bx:List Nat)(hlen:args.length<=fn.ntmps)(hargs:args.all Hl=true)(hr:d4 r=true)
    (hn:(fn.results.toList.map I7).Nodup) (h:KD P fn.ntmps bx c (Ej (args.map He)) (λe σ=>(e=.ret∨e=.normal)∧Ue tb σ fn.results.toList=some r)):AK P f args r:=by
  refine⟨⟨fn,hf,by rw[hb];rfl,hname⟩,λw St vs hst hgl hvs=>?_⟩
  have hvs':=M1.KE hst hargs hvs
  have hst':∀b o,(St b o∨b < w.heap.size)->b < w.heap.size:=λb o h=>h.elim (hst b o) id
  have hpl:(args.map He).all KX=true:=by
    rw[Hv,Ae]
    exactλx hx=>TT (Ae.1 hargs x hx)
  obtain⟨hl,hat⟩:=args_at hvs'
  refine Gd hf hb ?_
  have hrel:=V8 (P:=P) (bx:=bx) hst' (hgl.of (λb hb o=>.inl (hb o)) (λ_ _ _=>rfl)) hvs' (by simpa using hlen) hpl
  refine Fs (h _ _ _ _ _ hrel) ?_
  rintro e a' w' ⟨σ',⟨he,hres⟩,St1,B',h1,h2,h3,h4⟩
  have hfin:a'.defers=[]∧∃v,(results fn a'.tmps).run P w'=.ok v w'∧Ret P w St r (.returned v) w':=by
    obtain⟨v,bs,q1,q2,q3,q4⟩:=fj htb h1 hn hres
    have hge:∀g∈bs,w.heap.size<=g:=λg hg=>JE (q4 g hg).1
    refine⟨h1.defers,v,q1,v,bs,λb o=>(b < w.heap.size∧St b o)∨(w.heap.size<=b∧St1 b o),rfl,⟨h2.os,h2.tape,h2.output,h2.size,h2.block⟩,λb o hlt=>⟨λhh=>hh.elim (·.2) (λhh=>absurd hh.1 (by omega)),λhh=>.inl ⟨hlt,hh⟩⟩,λb o hh=>?_,?_,q3,λg hg=>⟨hge g hg,(q4 g hg).2⟩⟩
    · rcases hh with hh|hh
      · exact Bv hh.1 h2.size
      · exact h1.st b o hh.2
    · exact cQ hr q2 (λg hg=>⟨rfl,λo=>⟨λhh=>hh.elim (λhh=>absurd hh.1 (by have:=hge g hg;omega)) (·.2),λhh=>.inr ⟨hge g hg,hh⟩⟩⟩)
  rcases he with rfl|rfl
  · exact hfin
  · exact hfin
end
def sfY:PL->Prop
  |[]=>True
  |(_,c)::L=>JT c=true∧sfY L
theorem yn:sfY []:=trivial
theorem yc{q:Nat}{c:V}{L:PL}(h:JT c=true)(k:sfY L):sfY ((q,c)::L):=⟨h,k⟩
theorem aC:∀{L:PL},sfY L->∀q,JT (Ce L q)=true
  |[],_,q=>rfl
  |(r,c)::L,⟨h1,h2⟩,q=>by
    by_cases e:q=r
    · subst e
      rw[show Ce ((q,c)::L) q=c from by simp[Ce,upd_same]]
      exact h1
    · rw[show Ce ((r,c)::L) q=Ce L q from by simp[Ce,upd_ne _ _ e]]
      exact aC h2 q
theorem S5:∀{L:PL}{q:Nat},q∉L.map (·.1)->Ce L q=.undef
  |[],_,_=>rfl
  |(s,c)::L,q,h=>by
    rw[AO,AV,not_or]at h
    rw[D4,upd_ne _ _ h.1]
    exact S5 h.2
theorem Q4{L:PL}:∀{ss:List Nat}{L':PL},YP L ss=some L'->(∀q,q∈ss->lk L q=some (Ce L' q))∧(∀q,q∉ss->Ce L' q=.undef)∧L'.map (·.1)=ss
  |[],_,h=>by cases h;exact⟨λq hq=>by simp at hq,λ_ _=>rfl,rfl⟩
  |s::ss,_,h=>by
    rw[YP]at h
    obtain⟨c,h1,h⟩:=AQ h
    obtain⟨L1,h2,h⟩:=AQ h
    cases h
    obtain⟨i1,i2,i3⟩:=Q4 h2
    refine⟨λq hq=>?_,λq hq=>?_,by rw[AO,i3]⟩
    · by_cases e:q=s
      · subst e;rw[D4,upd_same];exact h1
      · rw[D4,upd_ne _ _ e];exact i1 q ((AV.1 hq).resolve_left e)
    · rw[AV,not_or]at hq
      rw[D4,upd_ne _ _ hq.1];exact i2 q hq.2
def Qn(L:PL)(S:List Nat):List Nat:=(L.map (·.1)).filter λq=> !S.contains q
theorem Lo{L:PL}{S:List Nat}{q:Nat}:(Qn L S).contains q=true↔q∈L.map (·.1)∧q∉S:=by
  unfold Qn
  rw[Av,Bf,AC,<-Jy,Av]
theorem V4{L L1:PL}{S:List Nat}{g q:Nat}(h:Sv L S=some L1)(hg:q≠g):kill (Qn L (g::S)) (Ce L) q=Ce L1 q:=by
  obtain⟨L',h1,h⟩:=AQ h
  obtain⟨h2,h⟩:=Dq h
  cases h
  obtain⟨i1,i2,i3⟩:=Q4 h1
  by_cases hq:q∈S
  · have e1:=CO (i1 q hq)
    have hD:¬(Qn L (g::S)).contains q=true:=λh=>(Lo.1 h).2 (AX _ hq)
    unfold kill
    rw[AJ hD,e1]
    cases hr:DL (Ce L1 q)with
    |none=>rfl
    |some b=>
      have hb:b∈S:=by
        obtain⟨p,hp,hpr⟩:=ab hr
        have:=Ae.1 h2 p hp
        rw[hpr,i3]at this
        exact Av.1 this
      have hD':¬(Qn L (g::S)).contains b=true:=λh=>(Lo.1 h).2 (AX _ hb)
      simp only[AJ hD']
  · rw[i2 q hq]
    by_cases hk:q∈L.map (·.1)
    · exact Ro (Lo.2 ⟨hk,λh=>(AV.1 h).elim hg hq⟩)
    · unfold kill
      rw[S5 hk]
      split<;>rfl
theorem fi{α:Type}{f:α->List V}{es:Nat}(z:∀x,(f x).length=es){l:List α}{i:Int}{y:α}(gy:AZ l i=some y){o:Nat}{vs:List V}(ho:o+vs.length<=es){x':α}(hx:MZ (f y) o vs=f x'):MZ (l.flatMap f) (i.toNat * es+o) vs=(Da l i x').flatMap f:=by
  obtain⟨g1,g2,g3⟩:=CX gy
  have hk:i.toNat < l.length:=by omega
  unfold Da
  rw[<-Zd z hk x',<-hx]
  unfold MZ
  have e1:(l.flatMap f).drop (i.toNat * es)=f y++(l.flatMap f).drop ((i.toNat+1) * es):=by
    rw[J2 z,J2 z]
    obtain⟨hlt,he⟩:=B5.1 g3
    rw[Cr hlt,he,AG]
  have hl:((f y).take o++vs++(f y).drop (o+vs.length)).length=es:=by
    have:=z y
    simp only[Ar,Bb,BX]
    omega
  rw[hl]
  have e2:(l.flatMap f).take (i.toNat * es+o)=(l.flatMap f).take (i.toNat * es)++(f y).take o:=by
    have hlen:i.toNat * es<=(l.flatMap f).length:=by
      rw[Bg z]
      exact Cy _ (Cd hk)
    rw[List.take_add,e1,F2 (by rw[z y];omega)]
  have e3:(l.flatMap f).drop (i.toNat * es+o+vs.length)=(f y).drop (o+vs.length)++(l.flatMap f).drop (i.toNat * es+es):=by
    rw[Nat.add_assoc,<-Hh,e1,Dl (by rw[z y];omega),DG,Gm]
  rw[e2,e3]
  simp only[Bc]
theorem get_at{α:Type}{f:α->List V}{es:Nat}(z:∀x,(f x).length=es){l:List α}{i:Int}{y:α}(gy:AZ l i=some y){o:Nat}{dd:TyD}(ho:o+dd.size<=es)(hp:0 < dd.size):getCells dd (l.flatMap f) (i.toNat * es+o)=getCells dd (f y) o∧i.toNat * es+o+dd.size<=(l.flatMap f).length:=by
  obtain⟨g1,g2,g3⟩:=CX gy
  have hk:i.toNat < l.length:=by omega
  have e1:(l.flatMap f).drop (i.toNat * es)=f y++(l.flatMap f).drop ((i.toNat+1) * es):=by
    rw[J2 z,J2 z]
    obtain⟨hlt,he⟩:=B5.1 g3
    rw[Cr hlt,he,AG]
  have hz:=z y
  refine⟨?_,?_⟩
  · have e2:∀k,k < es->(l.flatMap f)[i.toNat * es+k]? =(f y)[k]?:=λk hk=>by
      rw[<-EG,e1,BT (by omega)]
    cases dd with
    |st n zz fs=>
      simp only[getCells,TyD.size]at ho⊢
      rw[<-Hh,e1,Dl (by omega),F2 (by rw[BX];omega)]
    |_=>simp only[getCells,TyD.size]at ho⊢;rw[e2 o (by omega)]
  · rw[Bg z]
    have:(i.toNat+1) * es<=l.length * es:=Cy _ hk
    rw[DG,Gm]at this
    omega
theorem gk{α:Type}{f:α->List V}{es:Nat}(z:∀x,(f x).length=es){l:List α}{i:Int}{y:α}(gy:AZ l i=some y){o:Nat}(ho:Nat.ble (o+1) es=true):i.toNat * es+o < (l.flatMap f).length:=(get_at (dd:=.sc (.bool false)) z gy (o:=o) (nb ho) (Nat.zero_lt_one)).2
theorem sl{α:Type}{n:Nat}{l:List α}{i:Int}{x:α}(h:n=l.length):n=(Da l i x).length:=by unfold Da;rw[BG];exact h
section
variable {P:Program}{tb:Tb}{cns:List Nat}{L:PL}{K:PS->Prop}{s t:Nat}{x y:Operand}{nt:Nat}{bx:List Nat}
theorem WI{d:Nat}{α:Type}{l:List α}{y0:α}{g n m es eb:Nat}{i:Int}{kk:IntKind}{e:TypeId}{ez:List V}(hx:Pk L x=some (.tok (.slice (some ⟨g,0,none⟩) n m)))(hy:Pk L y=some (.int kk i))(ht:tb s=some (.sl e es eb ez))(hn:n=l.length)(gi:AZ l i=some y0)
    (k:K (Ce ((d,.tok (.pointer (some ⟨g,i.toNat * es,none⟩)))::L))):F0 P tb cns ⟨some d,.indexAddr s x y,t,none⟩ (Ce L) K:=by
  obtain⟨g1,g2,g3⟩:=CX gi
  subst hn
  refine⟨?_,?_⟩
  · simp only[pc,c6,ht,XF,Dy hx,Dy hy,OR,fB];exact⟨g1,g2⟩
  · simp only[pv,c7,ht,iaS,Dy hx,Dy hy,OR,nT];exact k
theorem qLe{q d:Nat}{α:Type}{f:α->List V}{l:List α}{y0:α}{i:Int}{g off m n es:Nat}{e:TypeId}{v:V}{dd:TyD}(o:Nat)(hq:(Nat.beq q gS || Nat.beq q gU)=true)(hc:cns.contains d=true)(hx:adO L x=some (.tok (.pointer (some ⟨g,off,none⟩))))(ho:off=i.toNat * es+o)(ht:tb s=some dd)
    (hg:lk L q=some (.gh [.slice (some ⟨g,0,none⟩) n m] [.own e n (l.flatMap f)])) (z:∀x,(f x).length=es) (gy:AZ l i=some y0) (hol:(Nat.ble (o+dd.size) es&&Nat.ble 1 dd.size)=true) (hv:VP (getCells dd (f y0) o)=some v) (k:K (Ce ((d,v)::L))):
    F0 P tb cns ⟨some d,.load s x,t,none⟩ (Ce L) K:=by
  subst ho
  rw[Ab]at hol
  obtain⟨e1,e2⟩:=get_at (dd:=dd) z gy (nb hol.1) (nb hol.2)
  simp only[F0,hc,Fh,UZ,ht,Pp hx]
  refine⟨trivial,q,g,_,e,n,m,_,rfl,(Bool.or_eq_true_iff.1 hq).imp CN CN,CO hg,e2,nb hol.2,?_⟩
  rw[e1,<-GN hv]
  exact k
theorem qLh{d:Nat}{u2:Value}{g off k0 m n:Nat}{e:TypeId}{cs:List V}{dd:TyD}(hc:cns.contains d=true)(hx:adO L x=some (.tok (.pointer (some ⟨g,off,none⟩))))(ho:off=k0)(ht:tb s=some dd)(hdd:(match dd with|.st .. =>false|_=>true)=true)
    (hg:lk L gU=some (.gh [.slice (some ⟨g,0,none⟩) n m] [.own e n (cs.set k0 (.tok u2))])) (hk:k0 < cs.length) (k:K (Ce ((d,.tok u2)::L))):F0 P tb cns ⟨some d,.load s x,t,none⟩ (Ce L) K:=by
  subst ho
  have h1:dd.size=1:=by cases dd<;>first|rfl|cases hdd
  simp only[F0,hc,Fh,UZ,ht,Pp hx]
  refine⟨trivial,gU,g,_,e,n,m,_,rfl,.inr rfl,CO hg,by rw[h1,BG];omega,by omega,?_⟩
  have:getCells dd (cs.set off (.tok u2)) off=.tok u2:=by
    cases dd<;>first|(simp only[getCells,List.getElem?_set_self hk];rfl)|cases hdd
  rw[this]
  exact k
theorem wW{α:Type}{f:α->List V}{l:List α}{y0:α}{i:Int}{g off m n es:Nat}{e:TypeId}{c:V}{dd:TyD}{L0 L1:PL}{vc:List V}(o:Nat)(x':α)(S:List Nat)(hx:adO L x=some (.tok (.pointer (some ⟨g,off,none⟩))))(ho:off=i.toNat * es+o)(ht:tb s=some dd)
    (hg:lk L gS=some (.gh [.slice (some ⟨g,0,none⟩) n m] [.own e n (l.flatMap f)])) (hy:Pk L y=some c) (h0:(!(yT y).contains gS&& !S.contains gS)=true) (hvc:s6 (Ce L) y vc) (hn:(Nat.beq vc.length dd.size&&Nat.ble (o+dd.size) es)=true) (hk0:RQ L y c=some L0) (hk:Sv L0 S=some L1)
    (hx':MZ (f y0) o vc=f x') (z:∀x,(f x).length=es) (gy:AZ l i=some y0) (hd:∀x,DE (f x)=true) (hd':DE vc=true) (hs:sfY L1) (k:K (Ce ((gS,.gh [.slice (some ⟨g,0,none⟩) n m] [.own e n ((Da l i x').flatMap f)])::L1))):
    F0 P tb cns ⟨none,.store s x y,t,none⟩ (Ce L) K:=by
  simp only[Ab,AC]at h0 hn
  subst ho
  have e1:=Dy hy
  have hn1:vc.length=dd.size:=CN hn.1
  have hn2:=nb hn.2
  have e0:Ce L0=CR (Ce L) y:=Mh hy hk0
  obtain⟨g1,g2,g3⟩:=CX gy
  have hfl:i.toNat * es+o+dd.size<=(l.flatMap f).length:=by
    rw[Bg z]
    have:(i.toNat+1) * es<=l.length * es:=Cy _ (by omega)
    rw[DG,Gm]at this
    omega
  refine⟨rfl,?_⟩
  simp only[aJ,ht,Pp hx]
  refine⟨g,_,e,n,m,_,Qn L0 (gS::S),vc,rfl,CO hg,?_,hvc,hd',hn1,hfl,?_,λq hq=>?_,?_⟩
  · exact sdF hd l
  · rw[h0.1,Ck]
    cases hc:(Qn L0 (gS::S)).contains gS with
    |false=>rfl
    |true=>exact absurd (BO) (Lo.1 hc).2
  · rw[<-e0]
    by_cases hD:(Qn L0 (gS::S)).contains q=true
    · exact .inl hD
    · right
      have e2:=V4 hk hq
      rcases Qu (Qn L0 (gS::S)) (Ce L0) q with e3|e3
      · by_cases hm:q∈L0.map (·.1)
        · have hS:q∈S:=Bn λh=>hD (Lo.2 ⟨hm,λh'=>(AV.1 h').elim hq h⟩)
          obtain⟨L',k1,k2⟩:=AQ hk
          obtain⟨_,k2⟩:=Dq k2
          cases k2
          rw[CO ((Q4 k1).1 q hS)]
          exact aC hs q
        · rw[S5 hm];rfl
      · rw[<-e3,e2];exact aC hs q
  · rw[<-e0,fi z gy (by rw[hn1];exact hn2) hx']
    have e4:upd (kill (Qn L0 (gS::S)) (Ce L0)) gS (.gh [.slice (some ⟨g,0,none⟩) n m] [.own e n ((Da l i x').flatMap f)])=Ce ((gS,.gh [.slice (some ⟨g,0,none⟩) n m] [.own e n ((Da l i x').flatMap f)])::L1):=by
      rw[D4]
      funext q
      by_cases hq:q=gS
      · subst hq;rw[upd_same,upd_same]
      · rw[upd_ne _ _ hq,upd_ne _ _ hq];exact V4 hk hq
    rw[e4]
    exact k
theorem qSt{α:Type}{f:α->List V}{l:List α}{y0:α}{i:Int}{g off m n es:Nat}{e:TypeId}{c:V}{dd:TyD}{L0 L1:PL}(o:Nat)(x':α)(S:List Nat)(hx:adO L x=some (.tok (.pointer (some ⟨g,off,none⟩))))(ho:off=i.toNat * es+o)(ht:tb s=some dd)
    (hg:lk L gS=some (.gh [.slice (some ⟨g,0,none⟩) n m] [.own e n (l.flatMap f)])) (hy:Pk L y=some c) (h0:(c.isArg&&(!(yT y).contains gS&& !S.contains gS))=true) (hn:(Nat.beq (GM c).length dd.size&&Nat.ble (o+dd.size) es)=true) (hk0:RQ L y c=some L0) (hk:Sv L0 S=some L1)
    (hx':MZ (f y0) o (GM c)=f x') (z:∀x,(f x).length=es) (gy:AZ l i=some y0) (hd:∀x,DE (f x)=true) (hd':DE (GM c)=true) (hs:sfY L1) (k:K (Ce ((gS,.gh [.slice (some ⟨g,0,none⟩) n m] [.own e n ((Da l i x').flatMap f)])::L1))):
    F0 P tb cns ⟨none,.store s x y,t,none⟩ (Ce L) K:=by
  rw[Ab]at h0
  exact wW o x' S hx ho ht hg hy h0.2 (.inl ⟨by rw[Dy hy];exact h0.1,by rw[Dy hy]⟩) hn hk0 hk hx' z gy hd hd' hs k
theorem yt{α:Type}{f:α->List V}{l:List α}{y0:α}{i:Int}{g off m n es:Nat}{e e2:TypeId}{dd:TyD}{L1:PL}(o:Nat)(x':α)(S:List Nat)(hx:adO L x=some (.tok (.pointer (some ⟨g,off,none⟩))))(ho:off=i.toNat * es+o)(ht:tb s=some dd)
    (hg:lk L gS=some (.gh [.slice (some ⟨g,0,none⟩) n m] [.own e n (l.flatMap f)])) (h0:(!S.contains gS)=true) (hn:(Nat.beq 1 dd.size&&Nat.ble (o+dd.size) es)=true) (hk:Sv L S=some L1)
    (hx':MZ (f y0) o [.own e2 0 []]=f x') (z:∀x,(f x).length=es) (gy:AZ l i=some y0) (hd:∀x,DE (f x)=true) (hs:sfY L1) (k:K (Ce ((gS,.gh [.slice (some ⟨g,0,none⟩) n m] [.own e n ((Da l i x').flatMap f)])::L1))):
    F0 P tb cns ⟨none,.store s x (.const (.slice none 0 0)),t,none⟩ (Ce L) K:=
  wW (c:=.dat 0 []) (vc:=[.own e2 0 []]) (L0:=L) o x' S hx ho ht hg rfl (by rw[Ab];exact⟨rfl,h0⟩) (.inr ⟨rfl,e2,rfl⟩) hn rfl hk hx' z gy hd rfl hs k
section
variable {α:Type}{f:α->List V}{l:List α}{e:TypeId}
theorem gLb{q b:Nat}(A C:List V)(hs:lk L b=some (.box (A++.own e l.length (l.flatMap f)::C)))(hq:lk L q=none)(hsq:Nat.beq b q=false)(hn:0 < l.length)
    (h:∀g m,K (Ce ((q,.gh [.slice (some ⟨g,0,none⟩) l.length m] [.own e l.length (l.flatMap f)])::(b,.box (A++.tok (.slice (some ⟨g,0,none⟩) l.length m)::C))::L))):Gh P nt bx (Ce L) K:=
  ZX (CO hs) (by rw[NS,hq];rfl) (λe=>by rw[e]at hsq;simp at hsq) (jA (A:=A) (C:=C)) hn (λ_=>rfl) (λ_=>rfl) λg m=>J9 (h g m)
theorem gLs{q b:Nat}(hs:lk L b=some (.own e l.length (l.flatMap f)))(hq:lk L q=none)(hsq:Nat.beq b q=false)(hn:0 < l.length)
    (h:∀g m,K (Ce ((q,.gh [.slice (some ⟨g,0,none⟩) l.length m] [.own e l.length (l.flatMap f)])::(b,.tok (.slice (some ⟨g,0,none⟩) l.length m))::L))):Gh P nt bx (Ce L) K:=
  ZX (CO hs) (by rw[NS,hq];rfl) (λe=>by rw[e]at hsq;simp at hsq) jB hn (λ_=>rfl) (λ_=>rfl) λg m=>J9 (h g m)
theorem gDb{q b n:Nat}{u:Value}(A C:List V)(hs:lk L b=some (.box (A++.tok u::C)))(hq:lk L q=some (.gh [u] [.own e n (l.flatMap f)]))(hsq:Nat.beq b q=false)(hn:n=l.length)
    (h:K (Ce ((q,.undef)::(b,.box (A++.own e l.length (l.flatMap f)::C))::L))):Gh P nt bx (Ce L) K:=by
  subst hn
  exact ZW (CO hs) (CO hq) (λe=>by rw[e]at hsq;simp at hsq) (iH (A:=A) (C:=C)) rfl rfl (J9 h)
theorem gDs{q b n:Nat}{u:Value}(hs:lk L b=some (.tok u))(hq:lk L q=some (.gh [u] [.own e n (l.flatMap f)]))(hsq:Nat.beq b q=false)(hn:n=l.length)
    (h:K (Ce ((q,.undef)::(b,.own e l.length (l.flatMap f))::L))):Gh P nt bx (Ce L) K:=by
  subst hn
  exact ZW (CO hs) (CO hq) (λe=>by rw[e]at hsq;simp at hsq) iI rfl rfl (J9 h)
variable {β:Type}{f2:β->List V}{l2:List β}{e2:TypeId}{n:Nat}{u1:Value}{y0:α}{i:Int}{es:Nat}
theorem gLg(o:Nat)(hs:lk L gU=some (.gh [u1] [.own e n (l.flatMap f)]))(hq:lk L gS=none)(z:∀x,(f x).length=es)(gy:AZ l i=some y0)(ho:Nat.ble (o+1) es=true)(hv:(f y0)[o]? =some (.own e2 l2.length (l2.flatMap f2)))(hn:0 < l2.length)
    (h:∀g m,K (Ce ((gS,.gh [.slice (some ⟨g,0,none⟩) l2.length m] [.own e2 l2.length (l2.flatMap f2)])::(gU,.gh [u1] [.own e n ((l.flatMap f).set (i.toNat * es+o) (.tok (.slice (some ⟨g,0,none⟩) l2.length m)))])::L))):Gh P nt bx (Ce L) K:=by
  have hk:(l.flatMap f)[i.toNat * es+o]? =some (.own e2 l2.length (l2.flatMap f2)):=by
    obtain⟨g1,g2,g3⟩:=CX gy
    have e1:(l.flatMap f).drop (i.toNat * es)=f y0++(l.flatMap f).drop ((i.toNat+1) * es):=by
      rw[J2 z,J2 z]
      obtain⟨hlt,he⟩:=B5.1 g3
      rw[Cr hlt,he,AG]
    rw[<-EG,e1,BT (by have:=z y0;have:=nb ho;omega),hv]
  exact ZX (CO hs) (by rw[NS,hq];rfl) (by decide) (mM hk) hn (λ_=>rfl) (λ_=>rfl) λg m=>J9 (h g m)
theorem gDg{u2:Value}{n2:Nat}(o:Nat)(x':α)(hs:lk L gU=some (.gh [u1] [.own e n ((l.flatMap f).set (i.toNat * es+o) (.tok u2))]))(hq:lk L gS=some (.gh [u2] [.own e2 n2 (l2.flatMap f2)]))(z:∀x,(f x).length=es)(gy:AZ l i=some y0)(ho:Nat.ble (o+1) es=true)(hn:n2=l2.length)(hx:MZ (f y0) o [.own e2 l2.length (l2.flatMap f2)]=f x')
    (h:K (Ce ((gS,.undef)::(gU,.gh [u1] [.own e n ((Da l i x').flatMap f)])::L))):Gh P nt bx (Ce L) K:=by
  subst hn
  obtain⟨_,g2⟩:=get_at (dd:=.sc (.bool false)) z gy (o:=o) (nb ho) (Nat.zero_lt_one)
  have hlt:i.toNat * es+o < (l.flatMap f).length:=g2
  have hk:((l.flatMap f).set (i.toNat * es+o) (.tok u2))[i.toNat * es+o]? =some (.tok u2):=List.getElem?_set_self hlt
  refine ZW (CO hs) (CO hq) (by decide) (mi hk) rfl rfl (J9 ?_)
  have e1:((l.flatMap f).set (i.toNat * es+o) (.tok u2)).set (i.toNat * es+o) (.own e2 l2.length (l2.flatMap f2))=(Da l i x').flatMap f:=by
    rw[List.set_set,<-fi z gy (vs:=[.own e2 l2.length (l2.flatMap f2)]) (nb ho) hx]
    rw[Fk,AI hlt]
    simp[MZ]
  rw[e1]
  exact h
end
theorem qP{d:Nat}{f:FuncId}{args:Array Operand}{ts:Array TypeId}{xs:List Operand}{s:Nat}{as cs cs':List V}{r:V}(ha:args.toList=x::xs)(hx:adO L x=some (.cref s 0))(hs:lk L s=some (.box cs))(hpl:cs.all HR=true)(he:erA (Ce L) xs as)(hp:OV P f cs as cs' r)(k:K (Ce ((d,r)::(s,.box cs')::L)))(hc:cns.contains d=false:=by rfl):
    F0 P tb cns ⟨some d,.call {callee:=.value (.func f),args:=args,argTypes:=ts},t,none⟩ (Ce L) K:=iN (cnF hc) ha (Pp hx) (CO hs) hpl he hp k
def wR(S:List Nat):Operand->Bool
  |.tmp p=>S.contains p
  |.const (.int _ _)=>true
  |.const (.bool _)=>true
  |.const (.string _)=>true
  |_=>false
theorem qCk{d:Nat}{f:FuncId}{args:Array Operand}{ts:Array TypeId}{n:Nat}{as:List V}{r:V}(ha:args.toList=[x])(hx:Pk L x=some (.arg n as))(hs:AK P f [.arg n as] r)(k:K (Ce ((d,r)::L)))(hc:cns.contains d=false:=by rfl):F0 P tb cns ⟨some d,.call {callee:=.value (.func f),args:=args,argTypes:=ts},t,none⟩ (Ce L) K:=by
  show Hm P cns _ f args.toList (Ce L) K
  unfold Hm
  rw[AJ (by simpa using hc)]
  refine .inl ⟨?_,r,.inr (.inl ?_),k⟩
  · rw[ha,Bt,Dy hx];rfl
  · rw[ha,AO,Dy hx];exact hs
theorem qN{d:Nat}{f:FuncId}{args:Array Operand}{ts:Array TypeId}{n:Nat}{as cs:List V}(hc:cns.contains d=true)(hb:nbL L d=true)(ha:args.toList=[x])(hx:Pk L x=some (.arg n as))(hp:NewAt P f [.arg n as] cs)(k:K (Ce ((d,.box cs)::L))):
    F0 P tb cns ⟨some d,.call {callee:=.value (.func f),args:=args,argTypes:=ts},t,none⟩ (Ce L) K:=by
  refine iM hc (XP hb) ?_ ?_ hp k
  · rw[ha,Bt,Dy hx];rfl
  · rw[ha,AO,Dy hx];rfl
theorem dy(htb:H1 P tb){f:FuncId}{nt:Nat}{bx:List Nat}{rs:List ResultVar}{l:LC}{args:List V}{r:V}(hl:Lit P f nt bx rs l)(hlen:args.length<=nt)(hargs:args.all Hl=true)(hr:d4 r=true)(h:LS P nt bx l (Ej (args.map He)) (kB tb rs r)):AK P f args r:=by
  obtain⟨⟨fn,c,h1,h2,h3,rfl,rfl,h6,h7⟩,hn,hL⟩:=hl
  exact gM htb h1 h2 h3 bx hlen hargs hr hn (h c h6 h7 hL)
end
theorem TA:Ez []=true:=rfl
theorem Pu{c:V}{cs:List V}(h:deep c=true)(k:Ez cs=true):Ez (c::cs)=true:=by rw[Ez,h,k];rfl
theorem Wm{α:Type}{f:α->List V}(h:∀x,Ez (f x)=true)(l:List α):Ez (l.flatMap f)=true:=VF.2 λc hc=>by
  obtain⟨a,_,hc⟩:=Co.1 hc
  exact VF.1 (h a) c hc
theorem TB{α:Type}{f:α->List V}(h:∀x,Ez (f x)=true)(e:TypeId)(l:List α):deep (.own e l.length (l.flatMap f))=true:=by rw[deep];exact Wm h l
theorem sgh{us:List Value}{e:TypeId}{n k:Nat}{cs:List V}{u:Value}(h:DE cs=true):JT (.gh us [.own e n (cs.set k (.tok u))])=true:=by
  show DE [_]=true
  rw[DE,Ov,Ab]
  refine⟨KZ.2 λc hc=>?_,rfl⟩
  rcases Ev hc with h1|h1
  · exact KZ.1 h c h1
  · subst h1;rfl
theorem dag{cs:List V}(h:Ez cs=true):deep (.agg cs)=true:=by rw[deep];exact h
theorem Vy:∀{cs:List V},LA cs=true↔∀c∈cs,KE c=true
  |[]=>by simp[LA]
  |c::cs=>by rw[LA,Ab,Vy (cs:=cs)];simp
theorem acc{c:V}{cs:List V}(h:KE c=true)(k:LA cs=true):LA (c::cs)=true:=by rw[LA,h,k];rfl
theorem acf{α:Type}{f:α->List V}(h:∀x,LA (f x)=true)(l:List α):LA (l.flatMap f)=true:=Vy.2 λc hc=>by
  obtain⟨a,_,hc⟩:=Co.1 hc
  exact Vy.1 (h a) c hc
theorem aca{α:Type}{f:α->List V}(h:∀x,LA (f x)=true)(l:List α):KE (.arg l.length (l.flatMap f))=true:=by rw[KE];exact acf h l
theorem sO{c:V}(h:deep c=true):TH c=true:=pb h
theorem sA{c:V}(h:KE c=true):TH c=true:=k9 h
theorem K0{c:V}{cs:List V}(h:TH c=true)(k:cs.all TH=true):(c::cs).all TH=true:=by rw[Bt,h,k];rfl
theorem Wl{c:V}{cs:List V}(h:SU c=true)(k:Ea cs=true):Ea (c::cs)=true:=by rw[Ea,h,k];rfl
theorem vag{cs cs':List V}(h:Kc cs=cs'):He (.agg cs)=.agg cs':=by rw[He,h]
theorem R2{c:V}{cs:List V}(h:Hl c=true)(k:cs.all Hl=true):(c::cs).all Hl=true:=by rw[Bt,h,k];rfl
theorem mvv{c c':V}{cs cs':List V}(h:He c=c')(k:cs.map He=cs'):(c::cs).map He=c'::cs':=by rw[AO,h,k]
theorem Wz{c c':V}{cs cs':List V}(h:He c=c')(k:Kc cs=cs'):Kc (c::cs)=c'::cs':=by rw[Kc,h,k]
theorem YC:∀(a b:List V),Kc (a++b)=Kc a++Kc b
  |[],_=>rfl
  |c::a,b=>by rw[CS,Kc,Kc,YC a b,CS]
theorem Xa{α:Type}{f g:α->List V}(h:∀x,Kc (f x)=g x):∀l:List α,Kc (l.flatMap f)=l.flatMap g
  |[]=>rfl
  |x::l=>by rw[AG,AG,YC,h,Xa h l]
theorem OI{α:Type}{f g:α->List V}(h:∀x,Kc (f x)=g x)(l:List α):He (.dat l.length (l.flatMap f))=.arg l.length (l.flatMap g):=by rw[He,Xa h]
theorem aX:∀{a b:List V},Ea a=true->Ea b=true->Ea (a++b)=true
  |[],_,_,h=>h
  |c::a,b,h,k=>by
    rw[Ea,Ab]at h
    rw[CS,Ea,h.1,aX h.2 k];rfl
theorem YB{α:Type}{f:α->List V}(h:∀x,Ea (f x)=true):∀l:List α,Ea (l.flatMap f)=true
  |[]=>rfl
  |x::l=>by rw[AG];exact aX (h x) (YB h l)
theorem JN{α:Type}{f:α->List V}(h:∀x,Ea (f x)=true)(l:List α):SU (.dat l.length (l.flatMap f))=true:=YB h l
end Go.Proofs.YtplejokflpkcbaaGreatDoor
namespace Go.Proofs.YtplejokflpkcbaaGreatDoor
mutual
def frz:V->V
  |.own _ n cs=>.arg n (VQ cs)
  |.dat n cs=>.dat n cs
  |.arg n cs=>.arg n cs
  |.pin u n cs=>.pin u n cs
  |.int k n=>.int k n
  |.bool b=>.bool b
  |.str s=>.str s
  |.fn f=>.fn f
  |.tok u=>.tok u
  |_=>.undef
def VQ:List V->List V
  |[]=>[]
  |c::cs=>frz c::VQ cs
end
theorem bw{cs:List V}(h:cs=[]):VQ cs=[]:=by subst h;rfl
section
variable {P:Program}{w:World}{St St':Nat->Nat->Prop}
mutual
theorem Ow.frz(hs:∀b o,St b o->St' b o):∀(c:V) {v:Value}{bs:List Nat},Ow P w St c v bs->c.Di=true->(∀g∈bs,∀o,St' g o)->Rd w St' (frz c) v
  |.int _ _,_,_,h,_,_=>h.2
  |.bool _,_,_,h,_,_=>h.2
  |.str _,_,_,h,_,_=>h.2
  |.dat n cs,_,_,h,_,_=>Rd.mono hs (λ_ _ _=>rfl) (.dat n cs) h.2
  |.arg n cs,_,_,h,_,_=>Rd.mono hs (λ_ _ _=>rfl) (.arg n cs) h.2
  |.pin u n cs,_,_,h,_,_=>Rd.mono hs (λ_ _ _=>rfl) (.pin u n cs) h.2
  |.own e n cs,v,bs,⟨hn,xs,bs',h1,h2,h3,h4,h5⟩,_,hg=>by
    have hl:=h1.1
    rcases h1.2 with⟨rfl,rfl⟩|⟨g,cap,cur,rfl,hg1,hh,hc,hm,hsz,hx⟩
    · exact⟨Be hn,none,0,rfl,Bl _,λh=>absurd h (by omega),λhz=>bw (h5 hz)⟩
    · have hgo:=hg g (by rw[h3];simp[Value.ownBlock])
      refine⟨Be hn,_,cap,rfl,hc,λ_=>⟨g,0,rfl,λ_=>hgo,?_⟩,λhz=>bw (h5 hz)⟩
      refine Bd.frz hs cs 0 h2 hgo (λj u hu=>?_) (λg' hg'=>hg g' (by rw[h3];exact Az _ hg'))
      have hj:j < n * Rk P e:=by
        rw[<-hl]
        rcases BV j xs.length with h|h
        · exact h
        · rw[A8 h]at hu;cases hu
      rw[Dv]
      simp only[World.cell?,hh]
      rw[<-hx,EH,AI hj]at hu
      simpa using hu
  |.agg _,_,_,_,h,_=>by cases h
  |.tup _,_,_,_,h,_=>by cases h
  |.box _,_,_,h,_,_=>h.elim
  |.uni _ _ _,_,_,h,_,_=>h.elim
  |.same _,_,_,h,_,_=>h.elim
  |.val _ _,_,_,h,_,_=>h.elim
  |.cref _ _,_,_,h,_,_=>h.elim
  |.adr _ _,_,_,h,_,_=>h.elim
  |.gh _ _,_,_,h,_,_=>h.elim
  |.fn _,_,_,h,_,_=>h.2
  |.tok _,_,_,h,_,_=>h.2
  |.undef,_,_,h,_,_=>h.elim
theorem Bd.frz(hs:∀b o,St b o->St' b o){g:Nat}:∀(cs:List V) (off:Nat) {us:List Value}{bs:List Nat},Bd P w St cs us bs->(∀o,St' g o)->(∀(j:Nat) (u:Value),us[j]? =some u->w.cell? ⟨g,off+j,none⟩=some u)->(∀g∈bs,∀o,St' g o)->Dp w St' g off (VQ cs)
  |[],_,_,_,_,_,_,_=>trivial
  |c::cs,off,_,_,⟨u,us',b1,b2,e1,e2,hc,h1,h2⟩,hgo,hu,hg=>by
    have h0:=hu 0 u (by rw[e1];rfl)
    refine⟨⟨hgo off,u,by simpa using h0,Ow.frz hs c h1 hc (λg' hg'=>hg g' (by rw[e2];exact AF _ hg'))⟩,Bd.frz hs cs (off+1) h2 hgo (λj x hx=>?_) (λg' hg'=>hg g' (by rw[e2];exact Az _ hg'))⟩
    have:=hu (j+1) x (by rw[e1];simpa using hx)
    rw[show off+1+j=off+(j+1)by omega];exact this
end
end
def tD(P:Program)(c c':V):Prop:=
  ∀w St (t:Nat->Value) v bs,Cj P w St t c v bs->bs.Nodup->∃fb b1:List Nat,(∀g∈fb,g∈bs)∧(∀g∈b1,g∈bs)∧b1.Nodup∧Cj P w (λb o=>St b o∨b∈fb) t c' v b1
section
variable {P:Program}{w:World}{St St':Nat->Nat->Prop}
end
section
variable {P:Program}{nt:Nat}{bx:List Nat}{σ:PS}{K:PS->Prop}
theorem mq{e:TypeId}{n:Nat}{cs:List V}:tD P (.own e n cs) (.arg n (VQ cs)):=λw St t v bs h hn=>
  ⟨bs,[],λ_ h=>h,λ_ h=>(by cases h),AD,⟨rfl,Ow.frz (λ_ _ h=>.inl h) (.own e n cs) h rfl (λg hg o=>.inr hg)⟩⟩
theorem i0{s:Nat}{c c':V}(hs:σ s=c)(F:tD P c c')(hb:(C2 c').isSome=(C2 c).isSome)(hrf:DL c'=none)
    (h:Gh P nt bx (upd σ s c') K):Gh P nt bx σ K:=by
  rintro base St0 w0 a w ⟨St,B,hS,r1,r2,r3⟩
  have h1:=hS.slot s
  rw[hs]at h1
  obtain⟨fb,b1,q1,q2,q3,q4⟩:=F w St (tm a) (tm a s) (B s) h1 (hS.nodup s)
  have hB:∀r,r≠s->upd B s b1 r=B r:=λr e=>upd_ne _ _ e
  have hσ:∀r,r≠s->upd σ s c' r=σ r:=λr e=>upd_ne _ _ e
  have hin:∀r,∀g∈upd B s b1 r,g∈B r:=λr g hg=>by
    by_cases e:r=s
    · subst e;rw[upd_same]at hg;exact q2 g hg
    · rw[hB r e]at hg;exact hg
  refine h base St0 w0 a w ⟨λb o=>St b o∨b∈fb,upd B s b1,{hS with
    slot:=λr=>?_
    boxes:=λr cs e=>?_
    crefs:=λr b e=>?_
    nodup:=λr=>?_
    apart:=λr t hrt g hg hg2=>hS.apart r t hrt g (hin r g hg) (hin t g hg2)
    hapart:=λr g hg=>hS.hapart r g (hin r g hg)
    range:=λr g hg=>hS.range r g (hin r g hg)
    st:=λb o hbo=>hbo.elim (hS.st b o) (λhf=>(hS.range s b (q1 b hf)).2)
    gl:=hS.gl.of (λb hb o=>.inl (hb o)) (λ_ _ _=>rfl)},r1,λb o hbb=>⟨λhbo=>hbo.elim (r2 b o hbb).1 (λhf=>absurd hbb (hS.range s b (q1 b hf)).1),λh0=>.inl ((r2 b o hbb).2 h0)⟩,r3⟩
  · by_cases e:r=s
    · subst e;rw[upd_same,upd_same];exact q4
    · rw[hσ r e,hB r e]
      exact(hS.slot r).mono (λ_ _ h=>.inl h) (λ_ _ _=>rfl) (λg hg=>⟨rfl,λo=>⟨λh=>h.elim id (λhf=>absurd (q1 g hf) (hS.apart r s e g hg)),.inl⟩⟩) (λ_ _=>rfl)
  · by_cases e1:r=s
    · subst e1
      rw[upd_same]at e
      rw[e]at hb
      cases hx:C2 c with
      |none=>rw[hx]at hb;cases hb
      |some ds=>exact hS.boxes r ds (by rw[hs];exact hx)
    · rw[hσ r e1]at e;exact hS.boxes r cs e
  · by_cases e1:r=s
    · subst e1;rw[upd_same,hrf]at e;cases e
    · rw[hσ r e1]at e
      obtain⟨cs,hc⟩:=hS.crefs r b e
      by_cases e2:b=s
      · subst e2
        rw[hs]at hc
        rw[upd_same]
        cases hx:C2 c' with
        |none=>rw[hx,hc]at hb;cases hb
        |some ds=>exact⟨ds,rfl⟩
      · exact⟨cs,by rw[hσ b e2];exact hc⟩
  · by_cases e:r=s
    · subst e;rw[upd_same];exact q3
    · rw[hB r e];exact hS.nodup r
end
theorem bu:∀(a b:List V),VQ (a++b)=VQ a++VQ b
  |[],b=>rfl
  |c::a,b=>by rw[CS,VQ,VQ,bu a b,CS]
theorem YL{α:Type}{f g:α->List V}(h:∀x,VQ (f x)=g x):∀l:List α,VQ (l.flatMap f)=l.flatMap g
  |[]=>rfl
  |x::l=>by rw[AG,AG,bu,h,YL h l]
section
variable {P:Program}{nt:Nat}{bx:List Nat}{K:PS->Prop}{L:PL}{α:Type}{f g:α->List V}{l:List α}{e:TypeId}
theorem gFs{b:Nat}(hs:lk L b=some (.own e l.length (l.flatMap f)))(hf:∀x,VQ (f x)=g x)
    (h:K (Ce ((b,.arg l.length (l.flatMap g))::L))):Gh P nt bx (Ce L) K:=by
  rw[<-YL hf l]at h
  exact i0 (CO hs) mq rfl rfl (J9 h)
end
end Go.Proofs.YtplejokflpkcbaaGreatDoor
