/-
  A machine on data, part 2: code, the rules of the printed walks, loops. Over no program; no conditions.
-/
import Derived.Test.YtaagdgjndpgdgaaGreatDoorKq
open Go.RowKit
set_option linter.unusedVariables false
set_option linter.unusedSimpArgs false
namespace Go.Proofs.YtaagdgjndpgdgaaGreatDoor
theorem p2{α β:Type}{a a':α}{b b':β}(h:(a,b)=(a',b')):a=a'∧b=b':=Prod.mk.inj h
theorem p3{α β γ:Type}{a a':α}{b b':β}{c c':γ}(h:(a,b,c)=(a',b',c')):a=a'∧b=b'∧c=c':=⟨(p2 h).1,p2 (p2 h).2⟩
theorem p4{α β γ δ:Type}{a a':α}{b b':β}{c c':γ}{d d':δ}(h:(a,b,c,d)=(a',b',c',d')):a=a'∧b=b'∧c=c'∧d=d':=⟨(p2 h).1,p3 (p2 h).2⟩
theorem p5{α β γ δ ε:Type}{a a':α}{b b':β}{c c':γ}{d d':δ}{e e':ε}(h:(a,b,c,d,e)=(a',b',c',d',e')):a=a'∧b=b'∧c=c'∧d=d'∧e=e':=⟨(p2 h).1,p4 (p2 h).2⟩
section
variable {P:Program}{tb:Tb}{cns:List Nat}{σ:PS}{K:PS->Prop}{d s t:Nat}{x y z:Operand}
theorem EN{op:Op}{q:Nat}{e b:Bool}(g:e=b)(h:(gOp cns d op,σ q)=(true,.bool e))(k:Hw P tb cns ⟨some d,op,t,none⟩ σ K):Hw P tb cns ⟨some d,op,t,some (some q,b)⟩ σ K:=by
 subst g;obtain⟨h1,h2⟩:=p2 h;exact AbV h1 h2 k
theorem ed{o:LO}{os:List LO}{R W:List Nat}{fps:List (List Nat×List Nat)}(h:(ZF R W o.op σ,adB cns R o σ)=(true,true))(k:Hw P tb cns o σ (λσ'=>Yu P tb cns fps os σ' K)):Yu P tb cns ((R,W)::fps) (o::os) σ K:=evd (p2 h).1 (p2 h).2 k
end
def vA(σ:PS):List (Nat×V)->List V
  |[]=>[]
  |(s,_)::L=>σ s::vA σ L
def vB:List (Nat×V)->List V
  |[]=>[]
  |(_,c)::L=>c::vB L
theorem A5{σ:PS}:∀{L:List (Nat×V)},vA σ L=vB L->cT σ L
  |[],_=>trivial
  |(s,c)::L,h=>by
    injection h with h1 h2
    exact⟨h1 ▸ kr,A5 h2⟩
section
variable {P:Program}{nt:Nat}{bx:List Nat}{σ:PS}{Q:Exit->PS->Prop}{tb:Tb}{cns:List Nat}
theorem kp{l:LC}(L:List (Nat×V))(h1:vA σ L=vB L)(h2:okR L=true)(h:LS P nt bx l (Ct L) Q):LS P nt bx l σ Q:=FU L (A5 h1) h2 h
end
end Go.Proofs.YtaagdgjndpgdgaaGreatDoor
namespace Go.Proofs.YtaagdgjndpgdgaaGreatDoor
abbrev PL:=List (Nat×V)
def Ua{α:Type}(b:Bool)(x:Option α):Option α:=match b with
  |true=>x
  |false=>none
theorem DA{α:Type}{b:Bool}{x:Option α}{r:α}(h:Ua b x=some r):b=true∧x=some r:=by
  cases b with
  |true=>exact⟨rfl,h⟩
  |false=>cases h
def xh:V->Option V
  |.int k n=>some (.int k n)
  |.bool b=>some (.bool b)
  |.str s=>some (.str s)
  |.own e n cs=>some (.own e n cs)
  |.dat n cs=>some (.dat n cs)
  |.arg n cs=>some (.arg n cs)
  |.pin u n cs=>some (.pin u n cs)
  |.fn f=>some (.fn f)
  |.tok u=>some (.tok u)
  |_=>none
def gF:List V->Option (List V)
  |[]=>some []
  |c::cs=>G (xh c) λa=>G (gF cs) λas=>some (a::as)
def xi:V->Option V
  |.agg cs=>G (gF cs) λas=>some (.agg as)
  |c=>xh c
def oV:List V->Option (List V)
  |[]=>some []
  |c::cs=>G (xi c) λa=>G (oV cs) λas=>some (a::as)
def Xi:V->Option V
  |.tup cs=>G (oV cs) λas=>some (.tup as)
  |.box cs=>G (gF cs) λas=>some (.box as)
  |.cref s o=>some (.cref s o)
  |.adr cs o=>some (.adr cs o)
  |.same s=>some (.same s)
  |.val s u=>some (.val s u)
  |.uni e n cs=>some (.uni e n cs)
  |c=>xi c
theorem k9{c d:V}(h:xh c=some d):d=c:=by cases c<;>first|(cases h;rfl)|cases h
theorem Zi:∀{cs ds:List V},gF cs=some ds->ds=cs
  |[],_,h=>by cases h;rfl
  |c::cs,_,h=>by
    rw[gF]at h
    obtain⟨a,h1,h⟩:=A4 h
    obtain⟨as,h2,h⟩:=A4 h
    cases h;rw[k9 h1,Zi h2]
theorem lb{c d:V}(h:xi c=some d):d=c:=by
  cases c with
  |agg cs=>obtain⟨as,h2,h⟩:=A4 (show G (gF cs) _=_ from h);cases h;rw[Zi h2]
  |_=>exact k9 h
theorem lc:∀{cs ds:List V},oV cs=some ds->ds=cs
  |[],_,h=>by cases h;rfl
  |c::cs,_,h=>by
    rw[oV]at h
    obtain⟨a,h1,h⟩:=A4 h
    obtain⟨as,h2,h⟩:=A4 h
    cases h;rw[lb h1,lc h2]
theorem GD{c d:V}(h:Xi c=some d):d=c:=by
  cases c with
  |tup cs=>obtain⟨as,h2,h⟩:=A4 (show G (oV cs) _=_ from h);cases h;rw[lc h2]
  |box cs=>obtain⟨as,h2,h⟩:=A4 (show G (gF cs) _=_ from h);cases h;rw[Zi h2]
  |cref s o=>cases h;rfl
  |adr s o=>cases h;rfl
  |same s=>cases h;rfl
  |val s u=>cases h;rfl
  |uni e n cs=>cases h;rfl
  |_=>exact lb h
def lk:PL->Nat->Option V
  |[],_=>none
  |(s,c)::L,q=>match Nat.beq q s with
    |true=>some c
    |false=>lk L q
theorem Ed(s:Nat)(c:V)(L:PL):Ct ((s,c)::L)=upd (Ct L) s c:=rfl
theorem P1:∀(L:PL) (q:Nat),Ct L q=(lk L q).getD .undef
  |[],_=>rfl
  |(s,c)::L,q=>by
    rw[lk,Ed]
    cases h:Nat.beq q s with
    |true=>rw[CJ h,upd_same];rfl
    |false=>rw[upd_ne _ _ (Nat.ne_of_beq_eq_false h)];exact P1 L q
theorem Da{L:PL}{q:Nat}{c:V}(h:lk L q=some c):Ct L q=c:=by rw[P1,h];rfl
def Rs(L:PL):Operand->Option V
  |.tmp s=>lk L s
  |.const v=>Xi (cV v)
  |.func f=>some (.fn f)
  |_=>none
theorem D9{L:PL}{x:Operand}{c:V}(h:Rs L x=some c):Cs (Ct L) x=c:=by
  cases x with
  |tmp s=>exact Da h
  |const v=>exact(GD h).symm
  |func f=>cases h;rfl
  |_=>cases h
def adO(L:PL):Operand->Option V
  |.tmp s=>G (lk L s) λc=>match c with
    |.box _=>some (.cref s 0)
    |c=>some c
  |.global g=>Xi (ib g)
  |_=>none
theorem RS{L:PL}{x:Operand}{c:V}(h:adO L x=some c):LH (Ct L) x=c:=by
  cases x with
  |tmp s=>
    obtain⟨a,h1,h⟩:=A4 (show G (lk L s) _=_ from h)
    have:=Da h1
    simp only[LH,this]
    cases a<;>(cases h;rfl)
  |global g=>exact(GD h).symm
  |_=>cases h
def ut:V->Bool
  |.own .. =>true
  |_=>false
def uv:V->Bool
  |.agg cs=>cs.any ut
  |c=>ut c
def Adq:V->Bool
  |.tup cs=>cs.any uv
  |c=>uv c
theorem uu{c:V}(h:ut c=false):Tq c=c:=by cases c<;>first|rfl|cases h
theorem iB:∀{cs:List V},cs.any ut=false->cs.map Tq=cs
  |[],_=>rfl
  |c::cs,h=>by
    rw[Hs,Co]at h
    rw[AB,uu h.1,iB h.2]
theorem lX{c:V}(h:uv c=false):dg2 c=c:=by
  cases c with
  |agg cs=>rw[dg2,iB h]
  |_=>first|rfl|cases h
theorem iC:∀{cs:List V},cs.any uv=false->cs.map dg2=cs
  |[],_=>rfl
  |c::cs,h=>by
    rw[Hs,Co]at h
    rw[AB,lX h.1,iC h.2]
theorem AaA{c:V}(h:Adq c=false):dg c=c:=by
  cases c with
  |tup cs=>rw[dg,iC h]
  |agg cs=>exact lX (c:=.agg cs) h
  |_=>first|rfl|cases h
theorem jb(σ:PS)(s:Nat):upd σ s (σ s)=σ:=by
  funext q
  by_cases e:q=s
  · rw[e,upd_same]
  · rw[upd_ne _ _ e]
def TF(L:PL)(x:Operand)(c:V):Option PL:=match x with
  |.tmp s=>match Adq c with
    |false=>some L
    |true=>G (Xi (dg c)) λc'=>some ((s,c')::L)
  |_=>some L
theorem MX{L L':PL}{x:Operand}{c:V}(h:Rs L x=some c)(h2:TF L x c=some L'):Ct L'=CO (Ct L) x:=by
  cases x with
  |tmp s=>
    have e:=Da h
    simp only[TF,CO]at h2⊢
    split at h2
    · rename_i ho
      cases h2
      rw[e,AaA ho,<-e,jb]
    · obtain⟨c',h3,h2⟩:=A4 h2
      cases h2
      rw[GD h3,Ed,e]
  |_=>cases h2;rfl
def mvO(L:PL):Operand->Option V
  |.tmp s=>G (lk L s) λc=>match c with
    |.uni _ _ _=>some (.same s)
    |.same b=>some (.same b)
    |.box _=>some (.cref s 0)
    |.cref b o=>some (.cref b o)
    |c=>Ua c.isVal (Xi (dg c))
  |.const v=>G (Xi (cV v)) λc=>Ua c.isVal (Xi (dg c))
  |_=>none
def Zl:Option TyD->Bool
  |some (.sc (.bool false))=>true
  |_=>false
def kEq:IntKind->IntKind->Bool
  |.i64,.i64=>true
  |.u8,.u8=>true
  |k,k'=>decide (k=k')
theorem eB{k k':IntKind}(h:kEq k k'=true):k=k':=by
  cases k<;>cases k'<;>first|rfl|cases h
def vj(d:Option TyD):List V->List V->Bool
  |[.int k _,.int l _],[.int k' _,.int l' _]=>kEq k k'&&(kEq l l'&&d.elim false TyD.two)
  |_,_=>false
theorem vk{d:Option TyD}{a b:List V}(h:vj d a b=true):vm d a b:=by
  unfold vj at h
  split at h
  · rw[Ac,Ac]at h
    exact⟨eB h.1,eB h.2.1,h.2.2⟩
  · cases h
def sF(d:Option TyD):BinOp->V->V->Bool
  |.shl,.int _ _,.int _ b=>decide (0<=b)
  |.shr,.int _ _,.int _ b=>decide (0<=b)
  |.quo,.int k _,.int k' b=>kEq k k'&& !decide (b=0)
  |.rem,.int k _,.int k' b=>kEq k k'&& !decide (b=0)
  |_,.int k _,.int k' _=>kEq k k'
  |.eql,.str _,.str _=>true
  |.neq,.str _,.str _=>true
  |.lss,.str _,.str _=>true
  |.leq,.str _,.str _=>true
  |.gtr,.str _,.str _=>true
  |.geq,.str _,.str _=>true
  |.eql,.agg a,.agg b=>vj d a b
  |.neq,.agg a,.agg b=>vj d a b
  |.eql,.bool _,.bool _=>Zl d
  |.neq,.bool _,.bool _=>Zl d
  |_,_,_=>false
def unB:UnOp->V->Bool
  |.not,.bool _=>true
  |.neg,.int _ _=>true
  |_,_=>false
def cvB(tb:Tb)(s d:TypeId)(x:V):Option V:=match tb s,tb d,x with
  |some _,some (.sc (.int k _)),.int _ n=>some (.int k (k.wrap n))
  |_,_,_=>none
def bxL(L:PL)(s:Nat):Option (List V):=G (lk L s) CU
def pL(tb:Tb)(L:PL)(t:TypeId)(x:Operand):Option V:=G (tb t) λd=>G (adO L x) λc=>match c with
  |.cref s off=>G (bxL L s) λcs=>Ua (Nat.ble (off+d.size) cs.length) (Xi (getCells d cs off))
  |.adr cs off=>Ua (Nat.ble (off+d.size) cs.length) (Xi (getCells d cs off))
  |_=>none
def ptF(k:Nat):Value->Option V
  |.pointer (some ⟨g,o,none⟩)=>some (.tok (.pointer (some ⟨g,o+k,none⟩)))
  |_=>none
theorem AaB{k:Nat}{u:Value}{v:V}(h:ptF k u=some v):tM u=true∧tokF k u=v:=by
  unfold ptF at h
  split at h
  · cases h;exact⟨rfl,rfl⟩
  · cases h
def faO(tb:Tb)(L:PL)(t:TypeId)(x:Operand)(f:Nat):Option V:=G (tb t) λd=>match d with
  |.st _ _ fs=>G (fs[f]?) λp=>G (adO L x) λc=>match c with
    |.cref s o=>G (bxL L s) λ_=>some (.cref s (o+p.1))
    |.adr cs o=>some (.adr cs (o+p.1))
    |.tok u=>ptF p.1 u
    |_=>none
  |_=>none
def Adj(L:PL)(x:Operand):Option V:=G (adO L x) λc=>match c with
  |.cref s o=>G (bxL L s) λ_=>some (.cref s o)
  |.adr cs o=>some (.adr cs o)
  |_=>none
def aE:Option TyD->Bool
  |some (.sc (.str []))=>true
  |_=>false
def g6:Option TyD->Bool
  |some (.sl ..)=>true
  |_=>false
def Acv(L:PL)(d:Option TyD):V->Option V
  |.str s=>Ua (aE d) (some (.int .i64 s.length))
  |.same b=>G (lk L b) λc=>match c with
    |.uni _ n _=>Ua (g6 d) (some (.int .i64 n))
    |_=>none
  |c=>G (Ko c) λp=>Ua (g6 d) (some (.int .i64 p.1))
def fT(tb:Tb)(L:PL):Callee->List Operand->List TypeId->Option V
  |.builtin .len,[x],[t]=>G (Rs L x) (Acv L (tb t))
  |.builtin .max,[x,y],_=>G (Rs L x) λa=>G (Rs L y) λb=>match a,b with
    |.int k a,.int _ b=>some (.int k (if a < b then b else a))
    |_,_=>none
  |.builtin .min,[x,y],_=>G (Rs L x) λa=>G (Rs L y) λb=>match a,b with
    |.int k a,.int _ b=>some (.int k (if b < a then b else a))
    |_,_=>none
  |_,_,_=>none
def iK(tb:Tb)(L:PL):Op->Option V
  |.move x=>mvO L x
  |.pick c a b=>G (Rs L c) λq=>match q with
    |.bool e=>match e with
      |true=>G (Rs L a) λc=>Ua c.isVal (Xi (dg c))
      |false=>G (Rs L b) λc=>Ua c.isVal (Xi (dg c))
    |_=>none
  |.binOp op t x y _=>G (Rs L x) λa=>G (Rs L y) λb=>Ua (sF (tb t) op a b) (Xi (ji op a b))
  |.unOp op _ x=>G (Rs L x) λa=>Ua (unB op a) (Xi (unV op a))
  |.convert s d x=>G (Rs L x) λa=>cvB tb s d a
  |.load t x=>pL tb L t x
  |.fieldAddr t x f=>faO tb L t x f
  |.call c=>fT tb L c.callee c.args.toList c.argTypes.toList
  |_=>none
theorem jR{d:Option TyD}(h:Zl d=true):d=some (.sc (.bool false)):=by
  unfold Zl at h
  split at h
  · rfl
  · cases h
theorem cF{d:Option TyD}(h:aE d=true):d=some (.sc (.str [])):=by
  unfold aE at h
  split at h
  · rfl
  · cases h
theorem g7{d:Option TyD}(h:g6 d=true):∃e es eb ez,d=some (.sl e es eb ez):=by
  unfold g6 at h
  split at h
  · exact⟨_,_,_,_,rfl⟩
  · cases h
theorem sG{d:Option TyD}{op:BinOp}{a b:V}(h:sF d op a b=true):dE d op a b:=by
  cases a<;>cases b<;>cases op<;>first|(cases h;done)|exact trivial|exact jR h|exact eB h|exact vk h|(simp only[sF,BB]at h;exact h)|(simp only[sF,Ac,AT,E0]at h;exact⟨eB h.1,h.2⟩)
theorem Aa5{op:UnOp}{a:V}(h:unB op a=true):unC op a:=by
  cases a<;>cases op<;>first|(cases h;done)|exact trivial
theorem Aa8{σ:PS}{s:Nat}{c:V}(e:σ s=c)(h:c.isVal=true):mvC σ (.tmp s)∧mvV σ (.tmp s)=dg c:=by
  subst e
  simp only[mvC,mvV]
  cases hc:σ s<;>rw[hc]at h<;>first|(cases h;done)|exact⟨h,rfl⟩
theorem p8{L:PL}{x:Operand}{v:V}(h:mvO L x=some v):mvC (Ct L) x∧mvV (Ct L) x=v:=by
  cases x with
  |tmp s=>
    obtain⟨c,h1,h⟩:=A4 (show G (lk L s) _=_ from h)
    have e:=Da h1
    cases c with
    |uni a b c=>cases h;simp only[mvC,mvV,e];exact⟨trivial,trivial⟩
    |same b=>cases h;simp only[mvC,mvV,e];exact⟨trivial,trivial⟩
    |box b=>cases h;simp only[mvC,mvV,e];exact⟨trivial,trivial⟩
    |cref b o=>cases h;simp only[mvC,mvV,e];exact⟨trivial,trivial⟩
    |_=>
      obtain⟨h2,h3⟩:=DA h
      obtain⟨h4,h5⟩:=Aa8 e h2
      exact⟨h4,h5.trans (GD h3).symm⟩
  |const c=>
    obtain⟨c,h1,h⟩:=A4 (show G (Xi (cV c)) _=_ from h)
    obtain⟨h2,h3⟩:=DA h
    have e:=GD h1
    subst e
    exact⟨h2,(GD h3).symm⟩
  |_=>cases h
theorem ig{tb:Tb}{L:PL}{t:TypeId}{x:Operand}{v:V}(h:pL tb L t x=some v):S5 (tb t) (Ct L) (LH (Ct L) x)∧S6 (tb t) (Ct L) (LH (Ct L) x)=v:=by
  obtain⟨d,h1,h⟩:=A4 h
  obtain⟨c,h2,h⟩:=A4 h
  rw[h1,RS h2]
  simp only[S5,S6]
  cases c with
  |cref s off=>
    obtain⟨cs,h3,h⟩:=A4 h
    obtain⟨h4,h⟩:=DA h
    obtain⟨c,h5,h6⟩:=A4 h3
    have:=Da h5
    simp only[Uh,WG,this,h6]
    exact⟨nb h4,(GD h).symm⟩
  |adr cs off=>
    obtain⟨h4,h⟩:=DA h
    exact⟨nb h4,(GD h).symm⟩
  |_=>cases h
theorem oO{tb:Tb}{L:PL}{t:TypeId}{x:Operand}{f:Nat}{v:V}(h:faO tb L t x f=some v):gx (tb t) f (Ct L) (LH (Ct L) x)∧oP (tb t) f (LH (Ct L) x)=v:=by
  obtain⟨d,h1,h⟩:=A4 h
  cases d with
  |st n z fs=>
    obtain⟨p,h2,h⟩:=A4 h
    obtain⟨c,h3,h⟩:=A4 h
    rw[h1,RS h3]
    simp only[gx,oP,h2]
    cases c with
    |cref s o=>
      obtain⟨cs,h4,h⟩:=A4 h
      obtain⟨c,h5,h6⟩:=A4 h4
      cases h
      have:=Da h5
      exact⟨⟨cs,by rw[this,h6]⟩,rfl⟩
    |adr cs o=>cases h;exact⟨trivial,rfl⟩
    |tok u=>exact AaB h
    |_=>cases h
  |_=>cases h
theorem uf{L:PL}{x:Operand}{v:V}(h:Adj L x=some v):faC (Ct L) (LH (Ct L) x)∧LH (Ct L) x=v:=by
  obtain⟨c,h3,h⟩:=A4 h
  rw[RS h3]
  cases c with
  |cref s o=>
    obtain⟨cs,h4,h⟩:=A4 h
    obtain⟨c,h5,h6⟩:=A4 h4
    cases h
    have:=Da h5
    exact⟨⟨cs,by rw[this,h6]⟩,rfl⟩
  |adr cs o=>cases h;exact⟨trivial,rfl⟩
  |_=>cases h
theorem eE{L:PL}{d:Option TyD}{c v:V}{n:Nat}{cs:List V}(hs:Ko c=some (n,cs))(h:Ua (g6 d) (some (V.int .i64 n))=some v):Vw d (Ct L) c∧cd (Ct L) c=v:=by
  obtain⟨h2,h⟩:=DA h
  obtain⟨a,b,z,q,rfl⟩:=g7 h2
  cases h
  cases c<;>first|(cases hs;done)|(cases hs;exact⟨trivial,rfl⟩)
theorem tN{L:PL}{d:Option TyD}{c v:V}(h:Acv L d c=some v):Vw d (Ct L) c∧cd (Ct L) c=v:=by
  cases c with
  |str s=>
    obtain⟨h1,h⟩:=DA (show Ua (aE d) _=_ from h)
    cases h;exact⟨cF h1,rfl⟩
  |same b=>
    obtain⟨c,h1,h⟩:=A4 (show G (lk L b) _=_ from h)
    have:=Da h1
    cases c with
    |uni e n cs=>
      obtain⟨h2,h⟩:=DA h
      obtain⟨a,b,c,z,rfl⟩:=g7 h2
      cases h
      simp only[Vw,cd,this];exact⟨trivial,trivial⟩
    |_=>cases h
  |own e n cs=>exact eE rfl h
  |dat n cs=>exact eE rfl h
  |arg n cs=>exact eE rfl h
  |pin u n cs=>exact eE rfl h
  |_=>cases h
theorem ZZ{tb:Tb}{L:PL}{c:Callee}{xs:List Operand}{ts:List TypeId}{v:V}(h:fT tb L c xs ts=some v):Q7 tb (Ct L) c xs ts∧Ol (Ct L) c xs=v:=by
  unfold fT at h
  split at h
  · obtain⟨a,h1,h⟩:=A4 h
    simp only[Q7,Ol,D9 h1]
    exact tN h
  · obtain⟨a,h1,h⟩:=A4 h
    obtain⟨b,h2,h⟩:=A4 h
    simp only[Q7,Ol,D9 h1,D9 h2]
    split at h
    · cases h;exact⟨trivial,rfl⟩
    · cases h
  · obtain⟨a,h1,h⟩:=A4 h
    obtain⟨b,h2,h⟩:=A4 h
    simp only[Q7,Ol,D9 h1,D9 h2]
    split at h
    · cases h;exact⟨trivial,rfl⟩
    · cases h
  · cases h
theorem WT{tb:Tb}{L:PL}{op:Op}{v:V}(h:iK tb L op=some v):pc tb (Ct L) op∧pv tb (Ct L) op=v:=by
  cases op with
  |move x=>exact p8 h
  |pick c a b=>
    obtain⟨q,h1,h⟩:=A4 (show G (Rs L c) _=_ from h)
    simp only[pc,pv,D9 h1]
    cases q with
    |bool e=>
      cases e with
      |true=>
        obtain⟨c,h2,h⟩:=A4 h
        obtain⟨h3,h⟩:=DA h
        simp only[bg,bh,D9 h2,ED];exact⟨h3,(GD h).symm⟩
      |false=>
        obtain⟨c,h2,h⟩:=A4 h
        obtain⟨h3,h⟩:=DA h
        simp only[bg,bh,D9 h2,Cj,Dt];exact⟨h3,(GD h).symm⟩
    |_=>cases h
  |binOp op t x y t'=>
    obtain⟨a,h1,h⟩:=A4 (show G (Rs L x) _=_ from h)
    obtain⟨b,h2,h⟩:=A4 h
    obtain⟨h3,h⟩:=DA h
    simp only[pc,pv,D9 h1,D9 h2]
    exact⟨sG h3,(GD h).symm⟩
  |unOp op t x=>
    obtain⟨a,h1,h⟩:=A4 (show G (Rs L x) _=_ from h)
    obtain⟨h3,h⟩:=DA h
    simp only[pc,pv,D9 h1]
    exact⟨Aa5 h3,(GD h).symm⟩
  |convert s d x=>
    obtain⟨a,h1,h⟩:=A4 (show G (Rs L x) _=_ from h)
    simp only[pc,pv,D9 h1]
    unfold cvB at h
    split at h
    · rename_i h2 h3
      cases h
      simp only[Z7,cx,h2,h3];exact⟨trivial,trivial⟩
    · cases h
  |load t x=>exact ig h
  |fieldAddr t x f=>exact oO h
  |call c=>exact ZZ h
  |_=>cases h
def Rq(L:PL)(g:Option (Option Nat×Bool))(d:Nat)(v:Option PL):Option PL:=match g with
  |none=>v
  |some (some q,b)=>G (lk L q) λc=>match c with
    |.bool e=>match e,b with
      |true,true=>v
      |false,false=>v
      |_,_=>some ((d,.tup [])::L)
    |.tup _=>some ((d,.tup [])::L)
    |_=>none
  |some (none,_)=>none
def sB(tb:Tb)(t:TypeId)(x:Operand)(d:Nat)(L:PL):Option PL:=match x with
  |.const (.slice none 0 0)=>G (tb t) λdd=>match dd with
    |.sl e _ _ _=>some ((d,.own e 0 [])::L)
    |_=>none
  |.const (.pointer none)=>some ((d,.undef)::L)
  |.tmp p=>G (lk L p) λc=>match c with
    |.box _=>some ((d,.cref p 0)::L)
    |.cref b o=>some ((d,.cref b o)::L)
    |c=>Ua c.isVal (G (TF L (.tmp p) c) λL'=>some ((d,c)::L'))
  |.const v=>G (Xi (cV v)) λc=>Ua c.isVal (some ((d,c)::L))
  |_=>none
def loadT(tb:Tb)(t:TypeId)(x:Operand)(d:Nat)(L:PL):Option PL:=G (tb t) λdd=>G (adO L x) λa=>match a with
  |.cref s off=>G (lk L s) λc=>match c with
    |.box cs=>Ua (Nat.ble (off+dd.size) cs.length) (G (Xi (.box (O6 dd.size cs off))) λb=>G (Xi (Q5 dd cs off)) λv=>some ((d,v)::(s,b)::L))
    |_=>none
  |.adr cs off=>Ua (Nat.ble (off+dd.size) cs.length) (G (Xi (getCells dd cs off)) λv=>some ((d,v)::L))
  |_=>none
def Aef(s i d:Nat)(L:PL):Option PL:=G (lk L s) λt=>match t with
  |.tup cs=>G (cs[i]?) λc=>Ua (cs.all V.isArg) (G (Xi (.tup (cs.set i (dg2 c)))) λt'=>some ((d,c)::(s,t')::L))
  |_=>none
def AeV(tb:Tb)(t:TypeId)(x y:Operand)(L:PL):Option PL:=G (tb t) λdd=>G (adO L x) λa=>match a with
  |.cref s off=>G (lk L s) λb=>match b with
    |.box cs=>G (Rs L y) λc=>Ua (c.isArg&&(Nat.beq (Hp c).length dd.size&&Nat.ble (off+dd.size) cs.length)) (G (TF L y c) λL'=>G (Xi (.box (Om cs off (Hp c)))) λb'=>some ((s,b')::L'))
    |_=>none
  |_=>none
def nbL(L:PL)(d:Nat):Bool:=match lk L d with
  |some c=>DD c
  |none=>true
theorem eO{L:PL}{d:Nat}(h:nbL L d=true):DD (Ct L d)=true:=by
  unfold nbL at h
  rw[P1]
  cases hl:lk L d with
  |none=>rfl
  |some c=>rw[hl]at h;exact h
def alO(tb:Tb)(t:TypeId)(d:Nat)(L:PL):Option PL:=G (tb t) λdd=>Ua (nbL L d) (G (Xi (.box (bX dd))) λb=>some ((d,b)::L))
def wO(x:Operand)(d:Nat)(L:PL):Option PL:=G (Rs L x) λc=>Ua c.isArg (G (TF L x c) λL'=>Ua (nbL L' d) (G (Xi (.box (Hp c))) λb=>some ((d,b)::L')))
def gz(place:Nat->Option (Nat×Nat)):List (Nat×Operand)->PL->List V->Option (PL×List V)
  |[],L,cs=>some (L,cs)
  |(i,x)::r,L,cs=>G (place i) λp=>G (Rs L x) λc=>Ua (c.isArg&&(Nat.beq (Hp c).length p.2&&Nat.ble (p.1+p.2) cs.length)) (G (TF L x c) λL'=>gz place r L' (Om cs p.1 (Hp c)))
theorem ag{place:Nat->Option (Nat×Nat)}:∀{ps:List (Nat×Operand)}{L L':PL}{cs cs':List V},gz place ps L cs=some (L',cs')->P7 place ps (Ct L) cs=some (Ct L',cs')
  |[],_,_,_,_,h=>by cases h;rfl
  |(i,x)::r,L,L',cs,cs',h=>by
    rw[gz]at h
    obtain⟨p,h1,h⟩:=A4 h
    obtain⟨c,h2,h⟩:=A4 h
    obtain⟨h3,h⟩:=DA h
    obtain⟨L1,h4,h⟩:=A4 h
    simp only[Ac]at h3
    rw[P7,h1]
    simp only
    rw[D9 h2,AH ⟨h3.1,CJ h3.2.1,nb h3.2.2⟩,<-MX h2 h4]
    exact ag h
def Aeb(tb:Tb)(t:TypeId)(ps:List (Nat×Operand))(d:Nat)(L:PL):Option PL:=G (tb t) λdd=>match dd with
  |.st _ z fs=>G (gz (λi=>fs[i]?) ps L z) λq=>G (Xi (.agg q.2)) λc=>some ((d,c)::q.1)
  |_=>none
def MC(tb:Tb)(cns:List Nat)(o:LO)(L:PL):Option PL:=match o with
  |⟨some d,op,t,g⟩=>match op with
    |.assign x=>match g,cns.contains d with
      |none,false=>sB tb t x d L
      |_,_=>none
    |.move x=>match cns.contains d with
      |true=>(match g with
        |none=>sB tb t x d L
        |_=>none)
      |false=>Rq L g d (G (mvO L x) λv=>some ((d,v)::L))
    |.load t x=>match cns.contains d with
      |true=>(match g with
        |none=>loadT tb t x d L
        |_=>none)
      |false=>Rq L g d (G (pL tb L t x) λv=>some ((d,v)::L))
    |.extract (.tmp s) i=>match g with
      |none=>Aef s i d L
      |_=>none
    |.alloc t=>match g with
      |none=>alO tb t d L
      |_=>none
    |.box _ x=>match g with
      |none=>wO x d L
      |_=>none
    |.build t ps=>Rq L g d (Aeb tb t ps.toList d L)
    |.pick c a b=>Rq L g d (G (iK tb L (.pick c a b)) λv=>some ((d,v)::L))
    |.binOp p t x y t'=>Rq L g d (G (iK tb L (.binOp p t x y t')) λv=>some ((d,v)::L))
    |.unOp p t x=>Rq L g d (G (iK tb L (.unOp p t x)) λv=>some ((d,v)::L))
    |.convert s t x=>Rq L g d (G (iK tb L (.convert s t x)) λv=>some ((d,v)::L))
    |.fieldAddr t x f=>Rq L g d (G (faO tb L t x f) λv=>some ((d,v)::L))
    |.nilCheck x=>Rq L g d (G (Adj L x) λv=>some ((d,v)::L))
    |.call c=>match c.callee with
      |.value (.func _)=>(match cns.contains d with
        |true=>none
        |false=>Rq L g d none)
      |.value (.tmp _)=>none
      |.value (.const _)=>none
      |.value (.global _)=>none
      |_=>Rq L g d (G (fT tb L c.callee c.args.toList c.argTypes.toList) λv=>some ((d,v)::L))
    |.index .. =>Rq L g d none
    |.indexAddr .. =>Rq L g d none
    |.slice .. =>Rq L g d none
    |.buildSlice .. =>Rq L g d none
    |.field .. =>Rq L g d none
    |_=>none
  |⟨none,.store t x y,_,none⟩=>AeV tb t x y L
  |_=>none
section
variable {P:Program}{tb:Tb}{cns:List Nat}{L L':PL}{K:PS->Prop}{d:Nat}
theorem JU{op:Op}{t:TypeId}{g:Option (Option Nat×Bool)}{v:Option V}(hv:∀r,v=some r->pc tb (Ct L) op∧pv tb (Ct L) op=r)(h:Rq L g d (G v λv=>some ((d,v)::L))=some L')(k:K (Ct L')):Kr tb ⟨some d,op,t,g⟩ (Ct L) K:=by
  have run:∀{L':PL},G v (λv=>some ((d,v)::L))=some L'->K (Ct L')->pc tb (Ct L) op∧K (upd (Ct L) d (pv tb (Ct L) op)):=by
    intro L' h k
    obtain⟨r,h1,h⟩:=A4 h
    cases h
    obtain⟨h2,h3⟩:=hv r h1
    exact⟨h2,by rw[h3];exact k⟩
  unfold Rq at h
  split at h
  · exact run h k
  · rename_i q b
    obtain⟨c,h1,h⟩:=A4 h
    simp only[Kr,Da h1]
    cases c with
    |bool e=>
      cases e<;>cases b<;>simp only at h<;>first
        |exact⟨rfl,λ_=>run h k,λe=>by cases e⟩
        |(cases h;exact⟨rfl,(λe=>by cases e),λ_=>k⟩)
    |tup cs=>cases h;exact⟨rfl,(λe=>by cases e),λ_=>k⟩
    |_=>cases h
  · cases h
theorem Zj{o:LO}{g:Option (Option Nat×Bool)}{v:Option PL}{X:Prop}(ho:o.g=g)(hv:∀L',v=some L'->K (Ct L')->X)(h:Rq L g d v=some L')(k:K (Ct L')):Qi o d (Ct L) K X:=by
  subst ho
  unfold Rq at h
  unfold Qi
  split at h
  · rename_i e;rw[e];exact hv _ h k
  · rename_i q b e
    rw[e]
    obtain⟨c,h1,h⟩:=A4 h
    simp only[Da h1]
    cases c with
    |bool e=>
      cases e<;>cases b<;>simp only at h<;>first
        |exact⟨rfl,λ_=>hv _ h k,λe=>by cases e⟩
        |(cases h;exact⟨rfl,(λe=>by cases e),λ_=>k⟩)
    |tup cs=>cases h;exact⟨rfl,(λe=>by cases e),λ_=>k⟩
    |_=>cases h
  · cases h
theorem kA{x:Operand}{o:LO}(h:sB tb o.ty x d L=some L')(k:K (Ct L')):Qe tb o x d (Ct L) K:=by
  unfold sB at h
  split at h
  · obtain⟨dd,h1,h⟩:=A4 h
    cases dd with
    |sl e es eb ez=>cases h;simp only[Qe,h1];exact k
    |_=>cases h
  · cases h;simp only[Qe];exact k
  · rename_i p
    obtain⟨c,h1,h⟩:=A4 h
    have gen:Ua c.isVal (G (TF L (.tmp p) c) λL'=>some ((d,c)::L'))=some L'->Qe tb o (.tmp p) d (Ct L) K:=by
      intro h
      obtain⟨h2,h⟩:=DA h
      obtain⟨L1,h3,h⟩:=A4 h
      cases h
      have e:=MX (x:=.tmp p) h1 h3
      rw[Ed,e]at k
      exact sC (Da h1) h2 (by rw[<-Da h1];simp only[CO]at k;rw[Da h1]at k⊢;exact k)
    cases c with
    |box cs=>cases h;simp only[Qe,Da h1];exact k
    |cref b o=>cases h;simp only[Qe,Da h1];exact k
    |_=>exact gen h
  · rename_i v hn hn2
    obtain⟨c,h1,h⟩:=A4 h
    obtain⟨h2,h⟩:=DA h
    cases h
    have e:=GD h1
    subst e
    unfold Qe
    split
    · rename_i he;injection he with he;exact absurd (by rw[he]) hn
    · rename_i he;injection he with he;exact absurd (by rw[he]) hn2
    · rename_i he;cases he
    · exact⟨h2,k⟩
  · cases h
theorem AbI{t:TypeId}{cal:Callee}{args:Array Operand}{ts:Array TypeId}{g:Option (Option Nat×Bool)}{L L':PL}(h:Rq L g d (G (fT tb L cal args.toList ts.toList) λv=>some ((d,v)::L))=some L')(k:K (Ct L')):Kr tb ⟨some d,.call ⟨cal,args,ts⟩,t,g⟩ (Ct L) K:=JU (op:=.call ⟨cal,args,ts⟩) (λr hr=>ZZ hr) h k
theorem bP{o:LO}(h:MC tb cns o L=some L')(k:K (Ct L')):Hw P tb cns o (Ct L) K:=by
  obtain⟨dst,op,t,g⟩:=o
  cases dst with
  |none=>
    unfold MC at h
    split at h
    · rename_i he;cases he
    · rename_i t' x y ty he
      injection he with e1 e2 e3 e4
      subst e2 e4
      obtain⟨dd,h1,h⟩:=A4 h
      obtain⟨a,h2,h⟩:=A4 h
      cases a with
      |cref s off=>
        obtain⟨b,h3,h⟩:=A4 h
        cases b with
        |box cs=>
          obtain⟨c,h4,h⟩:=A4 h
          obtain⟨h5,h⟩:=DA h
          obtain⟨L1,h6,h⟩:=A4 h
          obtain⟨b',h7,h⟩:=A4 h
          cases h
          simp only[Ac]at h5
          have e:=GD h7
          subst e
          simp only[Hw,fv,h1,RS h2,Da h3,CU,TD,D9 h4]
          refine⟨trivial,h5.1,CJ h5.2.1,nb h5.2.2,?_⟩
          rw[<-MX h4 h6];exact k
        |_=>cases h
      |_=>cases h
    · cases h
  |some d=>
    cases op with
    |assign x=>
      simp only[MC]at h
      split at h
      · rename_i hc
        simp only[Hw,hc,Cj,Dt]
        exact⟨trivial,kA (o:=⟨some d,.assign x,t,none⟩) h k⟩
      · cases h
    |move x=>
      simp only[MC]at h
      split at h
      · rename_i hc
        cases g with
        |none=>
          simp only[Hw,hc,ED]
          exact⟨trivial,kA (o:=⟨some d,.move x,t,none⟩) h k⟩
        |some g=>cases h
      · rename_i hc
        simp only[Hw,hc,Cj,Dt]
        exact JU (λr hr=>p8 hr) h k
    |load s x=>
      simp only[MC]at h
      split at h
      · rename_i hc
        cases g with
        |none=>
          simp only[Hw,hc,ED]
          refine⟨trivial,?_⟩
          obtain⟨dd,h1,h⟩:=A4 h
          obtain⟨a,h2,h⟩:=A4 h
          simp only[WF,h1,RS h2]
          cases a with
          |cref b off=>
            obtain⟨c,h3,h⟩:=A4 h
            cases c with
            |box cs=>
              obtain⟨h4,h⟩:=DA h
              obtain⟨b',h5,h⟩:=A4 h
              obtain⟨v,h6,h⟩:=A4 h
              cases h
              rw[GD h5,GD h6]at k
              simp only[Da h3,CU,TD]
              exact⟨nb h4,k⟩
            |_=>cases h
          |adr cs off=>
            obtain⟨h4,h⟩:=DA h
            obtain⟨v,h6,h⟩:=A4 h
            cases h
            rw[GD h6]at k
            exact⟨nb h4,k⟩
          |_=>cases h
        |some g=>cases h
      · rename_i hc
        simp only[Hw,hc,Cj,Dt]
        exact JU (λr hr=>ig hr) h k
    |extract x i=>
      cases x with
      |tmp s=>
        cases g with
        |none=>
          simp only[MC]at h
          obtain⟨a,h1,h⟩:=A4 h
          cases a with
          |tup cs=>
            obtain⟨c,h2,h⟩:=A4 h
            obtain⟨h3,h⟩:=DA h
            obtain⟨v,h4,h⟩:=A4 h
            cases h
            rw[GD h4]at k
            simp only[Hw,gw,Da h1,h2]
            exact⟨trivial,h3,k⟩
          |_=>cases h
        |some g=>cases h
      |_=>cases h
    |alloc s=>
      cases g with
      |none=>
        obtain⟨dd,h1,h⟩:=A4 (show G (tb s) _=_ from h)
        obtain⟨h2,h⟩:=DA h
        obtain⟨v,h4,h⟩:=A4 h
        cases h
        rw[GD h4]at k
        exact AbU (eO h2) h1 k
      |some g=>cases h
    |box ty x=>
      cases g with
      |none=>
        obtain⟨c,h1,h⟩:=A4 (show G (Rs L x) _=_ from h)
        obtain⟨h2,h⟩:=DA h
        obtain⟨L1,h3,h⟩:=A4 h
        obtain⟨h4,h⟩:=DA h
        obtain⟨v,h5,h⟩:=A4 h
        cases h
        rw[GD h5]at k
        have e:=MX h1 h3
        have h4:=eO h4
        rw[e]at h4
        simp only[Hw,boxS,D9 h1]
        exact⟨trivial,h2,h4,by rw[<-e];exact k⟩
      |some g=>cases h
    |build s ps=>
      simp only[MC]at h
      simp only[Hw]
      refine Zj rfl (λL1 h k=>?_) h k
      obtain⟨dd,h1,h⟩:=A4 h
      cases dd with
      |st n z fs=>
        obtain⟨q,h2,h⟩:=A4 h
        obtain⟨c,h3,h⟩:=A4 h
        cases h
        rw[GD h3]at k
        simp only[TX,h1,ag (L':=q.1) (cs':=q.2) h2]
        exact k
      |_=>cases h
    |pick c a b=>simp only[MC]at h;exact JU (op:=.pick c a b) (λr hr=>WT hr) h k
    |binOp p t x y t'=>simp only[MC]at h;exact JU (op:=.binOp p t x y t') (λr hr=>WT hr) h k
    |unOp p t x=>simp only[MC]at h;exact JU (op:=.unOp p t x) (λr hr=>WT hr) h k
    |convert s t x=>simp only[MC]at h;exact JU (op:=.convert s t x) (λr hr=>WT hr) h k
    |fieldAddr t x f=>simp only[MC]at h;exact JU (op:=.fieldAddr t x f) (λr hr=>oO hr) h k
    |nilCheck x=>simp only[MC]at h;exact JU (op:=.nilCheck x) (λr hr=>uf hr) h k
    |index s x y=>simp only[MC]at h;exact JU (op:=.index s x y) (v:=none) (λr hr=>by cases hr) h k
    |indexAddr s x y=>simp only[MC]at h;exact JU (op:=.indexAddr s x y) (v:=none) (λr hr=>by cases hr) h k
    |slice s x lo hi m=>simp only[MC]at h;exact JU (op:=.slice s x lo hi m) (v:=none) (λr hr=>by cases hr) h k
    |buildSlice s n ps=>simp only[MC]at h;simp only[Hw];exact Zj rfl (λL1 h k=>by cases h) h k
    |field s x f=>simp only[MC]at h;simp only[Hw];exact Zj rfl (λL1 h k=>by cases h) h k
    |call c=>
      obtain⟨cal,args,ts⟩:=c
      simp only[MC]at h
      cases cal with
      |value x=>
        cases x with
        |func f=>
          simp only at h
          cases hcd:cns.contains d with
          |true=>rw[hcd]at h;cases h
          |false=>
            rw[hcd]at h
            simp only at h
            show Mr P cns ⟨some d,.call ⟨.value (.func f),args,ts⟩,t,g⟩ f args.toList (Ct L) K
            unfold Mr
            rw[AE (by simpa using hcd)]
            left
            unfold QI
            unfold Rq at h
            cases g with
            |none=>cases h
            |some g=>
              obtain⟨q,b⟩:=g
              cases q with
              |none=>cases h
              |some q=>
                obtain⟨c,h1,h⟩:=A4 (show G (lk L q) _=_ from h)
                simp only[Da h1]
                cases c with
                |bool e=>
                  cases e<;>cases b<;>simp only at h<;>first
                    |(cases h;done)
                    |(cases h;exact⟨rfl,(λe=>by cases e),λ_=>k⟩)
                |tup cs=>cases h;exact⟨rfl,(λe=>by cases e),λ_=>k⟩
                |_=>cases h
        |_=>cases h
      |builtin b=>
        have hp:Kr tb ⟨some d,.call ⟨.builtin b,args,ts⟩,t,g⟩ (Ct L) K:=JU (op:=.call ⟨.builtin b,args,ts⟩) (λr hr=>ZZ hr) h k
        cases b with
        |append=>
          simp only[Hw,T0]
          split
          · rename_i heq;cases heq
          · rename_i _ heq _ _
            injection heq with heq
            subst heq
            refine Zj rfl (λL1 h k=>?_) h k
            obtain⟨r,hr,_⟩:=A4 h
            cases hr
          · exact hp
        |_=>exact hp
      |_=>exact AbI h k
    |_=>cases h
end
def iW(tb:Tb)(cns:List Nat):Nat->List LO->PL->Option (List LO×PL)
  |0,os,L=>some (os,L)
  |_+1,[],_=>none
  |n+1,o::os,L=>G (MC tb cns o L) λL'=>iW tb cns n os L'
def sE(L:PL)(R:List Nat)(p:Nat):Bool:=match lk L p with
  |some c=>bY R c
  |none=>true
theorem kB{L:PL}{R:List Nat}{p:Nat}(h:sE L R p=true):bY R (Ct L p)=true:=by
  unfold sE at h
  rw[P1]
  cases hl:lk L p with
  |none=>rfl
  |some c=>rw[hl]at h;exact h
def nX(L:PL)(R W:List Nat)(p:Nat):Bool:=match lk L p with
  |some c=>dD R W p c
  |none=>true
theorem nY{L:PL}{R W:List Nat}{p:Nat}(h:nX L R W p=true):dD R W p (Ct L p)=true:=by
  unfold nX at h
  rw[P1]
  cases hl:lk L p with
  |none=>rfl
  |some c=>rw[hl]at h;exact h
def j3(L:PL)(p:Nat):Bool:=match lk L p with
  |some c=>aY c
  |none=>true
theorem m6{L:PL}{p:Nat}(h:j3 L p=true):aY (Ct L p)=true:=by
  unfold j3 at h
  rw[P1]
  cases hl:lk L p with
  |none=>rfl
  |some c=>rw[hl]at h;exact h
def wN(L:PL)(p:Nat):Bool:=match lk L p with
  |some c=>oc c
  |none=>false
theorem sI{L:PL}{p:Nat}(h:wN L p=true):oc (Ct L p)=true:=by
  unfold wN at h
  rw[P1]
  cases hl:lk L p with
  |none=>rw[hl]at h;cases h
  |some c=>rw[hl]at h;exact h
def tkL(L:PL)(p:Nat):Bool:=match lk L p with
  |some c=>pp c
  |none=>false
theorem Aa1{L:PL}{p:Nat}(h:tkL L p=true):pp (Ct L p)=true:=by
  unfold tkL at h
  rw[P1]
  cases hl:lk L p with
  |none=>rw[hl]at h;cases h
  |some c=>rw[hl]at h;exact h
def stepD(tb:Tb)(cns:List Nat):Nat->List (List Nat×List Nat)->List LO->PL->Option (List (List Nat×List Nat)×List LO×PL)
  |0,fps,os,L=>some (fps,os,L)
  |n+1,(R,W)::fps,o::os,L=>Ua ((adP o.op).all (sE L R)&&((adC o.op).all (nX L R W)&&((adS o.op).all (j3 L)&&(((adU cns o).all (sE L R)&&(adT cns o).all (tkL L))&&(ptS cns).all (wN L))))) (G (MC tb cns o L) λL'=>stepD tb cns n fps os L')
  |_+1,_,_,_=>none
def cG(L:PL):List Nat->Option PL
  |[]=>some []
  |s::ss=>G (lk L s) λc=>G (cG L ss) λL'=>some ((s,c)::L')
def Ww(L:PL)(ss:List Nat):Option PL:=G (cG L ss) λL'=>Ua (okR L') (some L')
theorem g9{L:PL}:∀{ss:List Nat}{L':PL},cG L ss=some L'->cT (Ct L) L'
  |[],_,h=>by cases h;trivial
  |s::ss,_,h=>by
    rw[cG]at h
    obtain⟨c,h1,h⟩:=A4 h
    obtain⟨L1,h2,h⟩:=A4 h
    cases h
    exact⟨(Da h1) ▸ kr,g9 h2⟩
theorem hM{L L':PL}{ss:List Nat}(h:Ww L ss=some L'):cT (Ct L) L'∧okR L'=true:=by
  obtain⟨L1,h1,h⟩:=A4 h
  obtain⟨h2,h⟩:=DA h
  cases h
  exact⟨g9 h1,h2⟩
def Sl:Nat->List V->PL
  |_,[]=>[]
  |i,c::cs=>(i,c)::Sl (i+1) cs
theorem jQ:∀(args:List V) (i s:Nat),cT (λq=>(args[q - i]?).getD (.tup [])) (Sl i args)
  |[],_,_=>trivial
  |c::cs,i,s=>by
    refine⟨by simpa using kr,?_⟩
    have h:=jQ cs (i+1) s
    have key:∀(L:PL) (f g:PS),(∀p∈L,f p.1=g p.1)->cT f L->cT g L:=by
      intro L f g
      induction L with
      |nil=>intro _ _;trivial
      |cons p L ih=>
        obtain⟨q,c⟩:=p
        intro he hk
        exact⟨by rw[<-he (q,c) (by simp)];exact hk.1,ih (λp hp=>he p (by simp[hp])) hk.2⟩
    have hlow:∀(cs:List V) (j:Nat),∀p∈Sl j cs,j<=p.1:=by
      intro cs
      induction cs with
      |nil=>intro j p hp;simp[Sl]at hp
      |cons c cs ih=>
        intro j p hp
        simp only[Sl,AC]at hp
        rcases hp with rfl|hp
        · exact AW _
        · have:=ih (j+1) p hp;omega
    refine key _ _ _ (λp hp=>?_) h
    have:=hlow cs (i+1) p hp
    rw[show p.1 - i=(p.1 - (i+1))+1 by omega,DE]
section
variable {P:Program}{tb:Tb}{cns:List Nat}{L L':PL}{K:PS->Prop}{ops os:List LO}{fps fps':List (List Nat×List Nat)}
theorem bO:∀{n:Nat}{ops:List LO}{L:PL},iW tb cns n ops L=some (os,L')->Yv P tb cns os (Ct L') K->Yv P tb cns ops (Ct L) K
  |0,_,_,h,k=>by cases h;exact k
  |_+1,[],_,h,_=>by cases h
  |n+1,o::ops,L,h,k=>by
    rw[iW]at h
    obtain⟨L1,h1,h⟩:=A4 h
    exact bP (K:=λσ'=>Yv P tb cns ops σ' K) h1 (bO h k)
theorem AM(n:Nat)(h:iW tb cns n ops L=some ([],L'))(k:K (Ct L')):Yv P tb cns ops (Ct L) K:=bO h k
theorem sp(n:Nat)(h:iW tb cns n ops L=some (os,L'))(k:Yv P tb cns os (Ct L') K):Yv P tb cns ops (Ct L) K:=bO h k
theorem iV:∀{n:Nat}{fps:List (List Nat×List Nat)}{ops:List LO}{L:PL},stepD tb cns n fps ops L=some (fps',os,L')->Yu P tb cns fps' os (Ct L') K->Yu P tb cns fps ops (Ct L) K
  |0,_,_,_,h,k=>by cases h;exact k
  |n+1,[],_,_,h,_=>by cases h
  |n+1,_::_,[],_,h,_=>by cases h
  |n+1,(R,W)::fps,o::ops,L,h,k=>by
    rw[stepD]at h
    obtain⟨h1,h⟩:=DA h
    obtain⟨L1,h2,h⟩:=A4 h
    simp only[Ac,Al]at h1
    refine evd (by unfold ZF;rw[Ac,Ac];exact⟨Al.2 λp hp=>kB (h1.1 p hp),Al.2 λp hp=>nY (h1.2.1 p hp),Al.2 λp hp=>m6 (h1.2.2.1 p hp)⟩) (by unfold adB bxS;rw[Ac,Ac];exact⟨⟨Al.2 λp hp=>kB (h1.2.2.2.1.1 p hp),Al.2 λp hp=>Aa1 (h1.2.2.2.1.2 p hp)⟩,Al.2 λp hp=>sI (h1.2.2.2.2 p hp)⟩) ?_
    exact bP (K:=λσ'=>Yu P tb cns fps ops σ' K) h2 (iV h k)
theorem sd(n:Nat)(h:stepD tb cns n fps ops L=some (fps',os,L'))(k:Yu P tb cns fps' os (Ct L') K):Yu P tb cns fps ops (Ct L) K:=iV h k
theorem pK{q:Nat}{c b:Bool}(e:c=b)(h:lk L q=some (.bool c)):Ct ((q,.bool b)::L)=Ct L:=by
  subst e
  rw[Ed,<-Da h,jb]
theorem qg(q:Nat){c b:Bool}(e:c=b)(h:lk L q=some (.bool c))(k:Yv P tb cns ops (Ct ((q,.bool b)::L)) K):Yv P tb cns ops (Ct L) K:=by rw[pK e h]at k;exact k
theorem NE(q:Nat){c b:Bool}(e:c=b)(h:lk L q=some (.bool c))(k:Yu P tb cns fps ops (Ct ((q,.bool b)::L)) K):Yu P tb cns fps ops (Ct L) K:=by rw[pK e h]at k;exact k
end
section
variable {P:Program}{nt:Nat}{bx:List Nat}{l:LC}{Q:Exit->PS->Prop}{tb:Tb}{cns:List Nat}{L L':PL}
theorem qk(ss:List Nat)(h:Ww L ss=some L')(k:LS P nt bx l (Ct L') Q):LS P nt bx l (Ct L) Q:=FU L' (hM h).1 (hM h).2 k
theorem qi(args:List V)(hr:okR (Sl 0 args)=true)(k:LS P nt bx l (Ct (Sl 0 args)) Q):LS P nt bx l (HC args) Q:=FU _ (jQ args 0 0) hr k
end
section
variable {P:Program}{tb:Tb}{cns:List Nat}{L:PL}{K:PS->Prop}{d s t:Nat}{x y z:Operand}
def sv(L:PL)(x:Operand):Option V:=G (Rs L x) λc=>Ua c.isArg (some c)
theorem UJ{c:V}(h:sv L x=some c):Cs (Ct L) x=c∧c.isArg=true:=by
  obtain⟨c',h1,h⟩:=A4 h
  obtain⟨h2,h⟩:=DA h
  cases h
  exact⟨D9 h1,h2⟩
theorem qa{c a:V}{xs:List Operand}{as:List V}(h1:sv L x=some c)(h2:er c=a)(h3:erA (Ct L) xs as):erA (Ct L) (x::xs) (a::as):=era (by rw[(UJ h1).1];exact(UJ h1).2) (by rw[(UJ h1).1];exact h2) h3
def Aeu:V->Bool
  |.int .. |.bool .. |.str .. |.fn .. =>true
  |_=>false
theorem qs{a:V}{xs:List Operand}{as:List V}(h1:G (sv L x) (λc=>Ua (Aeu c) (some c))=some a)(h3:erA (Ct L) xs as):erA (Ct L) (x::xs) (a::as):=by
  obtain⟨c,h2,h⟩:=A4 h1
  obtain⟨h4,h⟩:=DA h
  cases h
  exact qa h2 (by cases a<;>first|rfl|cases h4) h3
theorem cnF(hc:cns.contains d=false):(some d).toList.any cns.contains=false:=by simpa using hc
theorem qC{f:FuncId}{args:Array Operand}{ts:Array TypeId}{as:List V}{r:V}(he:erA (Ct L) args.toList as)(hs:Aw P f as r)(k:K (Ct ((d,r)::L)))(hc:cns.contains d=false:=by rfl):Hw P tb cns ⟨some d,.call {callee:=.value (.func f),args:=args,argTypes:=ts},t,none⟩ (Ct L) K:=td (cnF hc) he hs k
theorem qCt{f:FuncId}{p:Nat}{args:Array Operand}{ts:Array TypeId}{as:List V}{r:V}(hp:lk L p=some (.fn f))(he:erA (Ct L) args.toList as)(hs:Aw P f as r)(k:K (Ct ((d,r)::L)))(hc:cns.contains d=false:=by rfl):Hw P tb cns ⟨some d,.call {callee:=.value (.tmp p),args:=args,argTypes:=ts},t,none⟩ (Ct L) K:=by
  obtain⟨h1,h2⟩:=dZ he
  subst h2
  show(match Cs (Ct L) (.tmp p)with
    |.fn f=>Mr P cns _ f args.toList (Ct L) K
    |.tok u=>VL P cns _ u args.toList (Ct L) K
    |_=>bE cns _ (Ct L) K)
  rw[show Cs (Ct L) (.tmp p)=.fn f from Da hp]
  show Mr P cns _ f args.toList (Ct L) K
  unfold Mr
  rw[AE (by simpa using hc)]
  exact .inl ⟨h1,r,.inl hs,k⟩
def iaO(tb:Tb)(L:PL)(s:TypeId)(x y:Operand):Option (Nat×List V×Int×Nat):=G (Rs L x) λa=>G (Ko a) λp=>G (Rs L y) λb=>match b with
  |.int _ i=>G (tb s) λdd=>match dd with
    |.sl _ es _ _=>some (p.1,p.2,i,es)
    |_=>none
  |_=>none
theorem qI{α:Type}{f:α->List V}{l:List α}{i:Int}{e:α}{n:Nat}(h:iaO tb L s x y=some (l.length,l.flatMap f,i,n))(hf:∀x,(f x).length=n)(hi:AI l i=some e)(k:K (Ct ((d,.adr (f e++(l.drop (i.toNat+1)).flatMap f) 0)::L))):Hw P tb cns ⟨some d,.indexAddr s x y,t,none⟩ (Ct L) K:=by
  obtain⟨a,h1,h⟩:=A4 h
  obtain⟨p,h2,h⟩:=A4 h
  obtain⟨b,h3,h⟩:=A4 h
  obtain⟨g1,g2,g3⟩:=Be hi
  cases b with
  |int kk j=>
    obtain⟨dd,h4,h⟩:=A4 h
    cases dd with
    |sl e' es eb ez=>
      simp only[Ar,Ca]at h
      obtain⟨e1,e2,e3,e4⟩:=h
      subst e3 e4
      refine AbW (n:=l.length) (cs:=l.flatMap f) (by rw[D9 h1,h2];cases p;cases e1;cases e2;rfl) (D9 h3) h4 ⟨g1,g2⟩ ?_
      have:=(jz hf g3 0).resolve_right (by omega)
      rw[Cb,Dw]at this
      rw[this];exact k
    |_=>cases h
  |_=>cases h
def AeU(tb:Tb)(L:PL)(s:TypeId)(x y:Operand):Option (List UInt8×Int):=G (Rs L x) λa=>match a with
  |.str u=>G (Rs L y) λb=>match b with
    |.int _ i=>Ua (aE (tb s)) (some (u,i))
    |_=>none
  |_=>none
theorem qX{u:List UInt8}{i:Int}{b:UInt8}(h:AeU tb L s x y=some (u,i))(hi:AI u i=some b)(k:K (Ct ((d,.int .u8 b.toNat)::L))):Hw P tb cns ⟨some d,.index s x y,t,none⟩ (Ct L) K:=by
  obtain⟨a,h1,h⟩:=A4 h
  cases a with
  |str u'=>
    obtain⟨b',h3,h⟩:=A4 h
    cases b' with
    |int kk j=>
      obtain⟨h4,h⟩:=DA h
      cases h
      exact xd (D9 h1) (D9 h3) (cF h4) hi k
    |_=>cases h
  |_=>cases h
def bdO(dflt:Int)(L:PL):Option Operand->Option Int
  |none=>some dflt
  |some x=>G (Rs L x) P0
theorem nZ{dflt i:Int}{lo:Option Operand}(h:bdO dflt L lo=some i):VI dflt (lo.map (Cs (Ct L)))=some i:=by
  cases lo with
  |none=>exact h
  |some x=>
    obtain⟨c,h1,h⟩:=A4 (show G (Rs L x) _=_ from h)
    simp only[BR,VI,D9 h1];exact h
def wI:V->Bool
  |.arg .. =>true
  |_=>false
theorem qz{a:V}(h:wI a=false)(n:Nat)(cs:List V):YB a n cs=.dat n cs:=by cases a<;>first|rfl|cases h
def AdP(tb:Tb)(L:PL)(b:Bool)(s:TypeId)(x:Operand)(lo hi:Option Operand):Option (Nat×List V×Nat×Int×Int):=G (Rs L x) λa=>Ua (wI a==b) <| G (Ko a) λp=>G (tb s) λdd=>match dd with
  |.sl _ es _ _=>G (bdO 0 L lo) λl=>G (bdO p.1 L hi) λh=>some (p.1,p.2,es,l,h)
  |_=>none
theorem AeG{α:Type}{f:α->List V}{lst:List α}{n:Nat}{lo hi:Option Operand}{l h:Int}{b:Bool}(hh:AdP tb L b s x lo hi=some (lst.length,lst.flatMap f,n,l,h))(hf:∀x,(f x).length=n)(hb:0<=l∧l<=h∧h<=lst.length)(k:∀a,wI a=b->K (Ct ((d,YB a (CC lst l h).length ((CC lst l h).flatMap f))::L))):Hw P tb cns ⟨some d,.slice s x lo hi none,t,none⟩ (Ct L) K:=by
  obtain⟨a,h1,hh⟩:=A4 hh
  obtain⟨hk,hh⟩:=DA hh
  obtain⟨p,h2,hh⟩:=A4 hh
  obtain⟨dd,h3,hh⟩:=A4 hh
  cases dd with
  |sl e es eb ez=>
    obtain⟨l',h5,hh⟩:=A4 hh
    obtain⟨r',h6,hh⟩:=A4 hh
    simp only[Ar,Ca]at hh
    obtain⟨e1,e2,e3,e4,e5⟩:=hh
    subst e3 e4 e5
    rw[e1]at h6
    exact xe (lst:=lst) (f:=f) (by rw[D9 h1,h2];cases p;cases e1;cases e2;rfl) h3 hf (nZ h5) (nZ h6) hb (by rw[D9 h1];exact k a (eq_of_beq hk))
  |_=>cases hh
theorem bk{α:Type}{f:α->List V}{lst:List α}{n:Nat}{lo hi:Option Operand}{l h:Int}(hh:AdP tb L false s x lo hi=some (lst.length,lst.flatMap f,n,l,h))(hf:∀x,(f x).length=n)(hb:0<=l∧l<=h∧h<=lst.length)(k:K (Ct ((d,.dat (CC lst l h).length ((CC lst l h).flatMap f))::L))):Hw P tb cns ⟨some d,.slice s x lo hi none,t,none⟩ (Ct L) K:=
  AeG hh hf hb λa ha=>by rw[qz ha];exact k
def Aea(L:PL)(x y:Operand):Option (V×V):=G (Rs L x) λa=>G (Rs L y) λb=>some (a,b)
theorem qB{op:BinOp}{ta tc:TypeId}{c1 c2 v:V}(h:Aea L x y=some (c1,c2))(hc:dE (tb ta) op c1 c2)(hv:Xi (ji op c1 c2)=some v)(k:K (Ct ((d,v)::L))):Hw P tb cns ⟨some d,.binOp op ta x y tc,t,none⟩ (Ct L) K:=by
  obtain⟨a,h1,h⟩:=A4 h
  obtain⟨b,h2,h⟩:=A4 h
  cases h
  rw[GD hv]at k
  exact w7 (D9 h1) (D9 h2) hc k
theorem qCs{a b e:TypeId}{es eb:Nat}{ez:List V}{w:List UInt8}{z':Int}{l:List Int}(hx:G (Rs L x) Ko=some (l.length,l.flatMap cu8))(h1:tb a=some (.sl e es eb ez))(h2:tb b=some (.sc (.str w)))(h3:tb e=some (.sc (.int .u8 z')))(k:K (Ct ((d,.str (bytesOf l))::L))):Hw P tb cns ⟨some d,.convert a b x,t,none⟩ (Ct L) K:=by
  obtain⟨c,g1,g2⟩:=A4 hx
  exact w8 (by rw[D9 g1];exact g2) h1 h2 h3 k
def AbH(tb:Tb)(L:PL)(s:TypeId)(p q:Nat):Option (Nat×List V×Nat×Nat×List V×V×PL):=G (lk L p) λa=>match a with
  |.own e n cs=>G (TF L (.tmp p) (.own e n cs)) λL1=>G (lk L1 q) λc=>G (Ko c) λr=>G (TF L1 (.tmp q) c) λL2=>G (tb s) λdd=>match dd with
    |.sl e' es _ _=>Ua (Nat.beq e e'&&c.isVal) (some (n,cs,es,r.1,r.2,c,L2))
    |_=>none
  |_=>none
theorem qA{α:Type}(f:α->List V)(l m:List α){es p q:Nat}{e:TypeId}{ds:List V}{c:V}{L2:PL}(h:AbH tb L s p q=some (l.length,l.flatMap f,es,m.length,ds,c,L2))(he:lk L p=some (.own e l.length (l.flatMap f)))(hd:ds.length=m.length * es)(ha:Xl c=m.flatMap f)(hl:l.length+m.length<=lim)
    (k:K (Ct ((d,.own e (l++m).length ((l++m).flatMap f))::L2))):Hw P tb cns ⟨some d,.call {callee:=.builtin .append,args:= #[.tmp p,.tmp q],argTypes:= #[s,s]},t,none⟩ (Ct L) K:=by
  obtain⟨a,h1,h⟩:=A4 h
  rw[he]at h1
  cases h1
  obtain⟨L1,h2,h⟩:=A4 h
  obtain⟨c',h3,h⟩:=A4 h
  obtain⟨r,h4,h⟩:=A4 h
  obtain⟨L3,h5,h⟩:=A4 h
  obtain⟨dd,h6,h⟩:=A4 h
  cases dd with
  |sl e' es' eb ez=>
    dsimp only at h
    obtain⟨h7,h⟩:=DA h
    simp only[Ac]at h7
    have e1:=CJ h7.1
    have h:=Dy h
    simp only[Ca]at h
    obtain⟨_,_,e2,e3,e4,e5,e6⟩:=h
    subst e1 e2 e5 e6
    have t1:=MX (x:=.tmp p) he h2
    have t2:=MX (x:=.tmp q) h3 h5
    simp only[CO,Da he]at t1
    have t1':Ct L1=upd (Ct L) p (.dat l.length (l.flatMap f)):=t1
    refine w5 (f:=f) (l:=l) (m:=m) (c2:=c') (ds:=ds) (Da he) (by rw[<-t1'];exact Da h3) (by rw[h4];cases r;cases e3;cases e4;rfl) hd h6 ha hl h7.2 ?_
    rw[Ed,t2]at k
    simp only[CO,Da h3,t1']at k
    exact k
  |_=>cases h
theorem qAd{α:Type}(f g h':α->List V)(l m:List α){es p q:Nat}{e:TypeId}{ds:List V}{c:V}{L2:PL}(h:AbH tb L s p q=some (l.length,l.flatMap f,es,m.length,ds,c,L2))(he:lk L p=some (.own e l.length (l.flatMap f)))(hd:ds.length=m.length * es)(ha:Xl c=m.flatMap h')(hl:l.length+m.length<=lim)(hf:∀x,(f x).map Tq=g x)(hh:∀x,(h' x).map Tq=g x)(hfc:∀x,(f x).all V.Do=true)(hhc:∀x,(h' x).all V.Do=true)
    (k:K (Ct ((d,.own e (l++m).length ((l++m).flatMap g))::L2))):Hw P tb cns ⟨some d,.call {callee:=.builtin .append,args:= #[.tmp p,.tmp q],argTypes:= #[s,s]},t,none⟩ (Ct L) K:=by
  obtain⟨a,h1,h⟩:=A4 h
  rw[he]at h1
  cases h1
  obtain⟨L1,h2,h⟩:=A4 h
  obtain⟨c',h3,h⟩:=A4 h
  obtain⟨r,h4,h⟩:=A4 h
  obtain⟨L3,h5,h⟩:=A4 h
  obtain⟨dd,h6,h⟩:=A4 h
  cases dd with
  |sl e' es' eb ez=>
    dsimp only at h
    obtain⟨h7,h⟩:=DA h
    simp only[Ac]at h7
    have e1:=CJ h7.1
    have h:=Dy h
    simp only[Ca]at h
    obtain⟨_,_,e2,e3,e4,e5,e6⟩:=h
    subst e1 e2 e5 e6
    have t1:=MX (x:=.tmp p) he h2
    have t2:=MX (x:=.tmp q) h3 h5
    simp only[CO,Da he]at t1
    have t1':Ct L1=upd (Ct L) p (.dat l.length (l.flatMap f)):=t1
    refine s9 (f:=f) (g:=g) (h:=h') (l:=l) (m:=m) (c2:=c') (ds:=ds) (Da he) (by rw[<-t1'];exact Da h3) (by rw[h4];cases r;cases e3;cases e4;rfl) hd h6 ha hl h7.2 hf hh hfc hhc ?_
    rw[Ed,t2]at k
    simp only[CO,Da h3,t1']at k
    exact k
  |_=>cases h
def bsO(tb:Tb)(L:PL)(s:TypeId)(n:Nat)(ps:List (Nat×Operand)):Option (TypeId×Nat×PL×List V):=G (tb s) λdd=>match dd with
  |.sl e es _ ez=>Ua (Nat.ble (n * es) 16777216) (G (gz (λi=>some (i * es,es)) ps L (Rv ez es n)) λq=>G (gF q.2) λcs=>some (e,es,q.1,cs))
  |_=>none
theorem E6{α:Type}(f:α->List V)(l:List α){e:TypeId}{es n:Nat}{ps:Array (Nat×Operand)}{L2:PL}{cs:List V}(h:bsO tb L s n ps.toList=some (e,es,L2,cs))(hn:l.length=n)(hc:cs=l.flatMap f)(hf:∀x,(f x).length=es)(k:K (Ct ((d,.own e l.length (l.flatMap f))::L2))):Hw P tb cns ⟨some d,.buildSlice s n ps,t,none⟩ (Ct L) K:=by
  obtain⟨dd,h1,h⟩:=A4 h
  cases dd with
  |sl e' es' eb ez=>
    obtain⟨h2,h⟩:=DA h
    obtain⟨q,h3,h⟩:=A4 h
    obtain⟨cs',h4,h⟩:=A4 h
    cases h
    have e1:=Zi h4
    subst hc
    simp only[Hw,Qi,fR,h1,ag (L':=q.1) (cs':=q.2) h3]
    rw[<-e1]
    refine⟨nb h2,?_,?_⟩
    · rw[Bf hf,hn]
    · rw[hn]at k;exact k
  |_=>cases h
def mkO(tb:Tb)(L:PL)(s:TypeId)(x y:Operand):Option (Int×Int×TypeId×Nat×List V):=G (Rs L x) λa=>G (Rs L y) λb=>match a,b with
  |.int _ n,.int _ m=>G (tb s) λdd=>match dd with
    |.sl e es _ ez=>some (n,m,e,es,ez)
    |_=>none
  |_,_=>none
theorem Aah{n m:Int}{e:TypeId}{es:Nat}{ez:List V}(h:mkO tb L s x y=some (n,m,e,es,ez)):∃k0 k1 eb,Cs (Ct L) x=.int k0 n∧Cs (Ct L) y=.int k1 m∧tb s=some (.sl e es eb ez):=by
  obtain⟨a,h1,h⟩:=A4 h
  obtain⟨b,h2,h⟩:=A4 h
  cases a<;>first|(cases h;done)|skip
  cases b<;>first|(cases h;done)|skip
  obtain⟨dd,h3,h⟩:=A4 h
  cases dd<;>first|(cases h;done)|skip
  cases h
  exact⟨_,_,_,D9 h1,D9 h2,h3⟩
theorem qMu{α:Type}(f:α->List V)(z:α){e:TypeId}{es:Nat}{ez:List V}{n:Int}(hc:cns.contains d=true)(h:mkO tb L s x y=some (n,n,e,es,ez))(hz:f z=ez)(hez:ez.length=es)(hn:0<=n∧n.toNat<=lim)(hb:nbL L d=true)(k:K (Ct ((d,.uni e (List.replicate n.toNat z).length ((List.replicate n.toNat z).flatMap f))::L))):Hw P tb cns ⟨some d,.makeSlice s x y,t,none⟩ (Ct L) K:=by
  obtain⟨k0,k1,eb,h1,h2,h3⟩:=Aah h
  exact xc hc h1 h2 h3 hz hez hn (eO hb) k
def hZ(D:List Nat)(L:PL):PL:=L.map λp=>(p.1,if D.contains p.1=true then .undef else match DK p.2 with
  |some b=>if D.contains b=true then .undef else p.2
  |none=>p.2)
theorem Wx(D:List Nat):∀L:PL,Ct (hZ D L)=kill D (Ct L)
  |[]=>by funext s;simp[hZ,Ct,kill,DK]
  |(q,c)::L=>by
    have ih:=Wx D L
    funext s
    show Ct ((q,_)::hZ D L) s=_
    rw[Ed]
    by_cases e:s=q
    · subst e
      rw[upd_same]
      unfold kill
      rw[Ed,upd_same]
      rfl
    · rw[upd_ne _ _ e,ih]
      unfold kill
      rw[Ed,upd_ne _ _ e]
def frL:PL->Option PL
  |[]=>some []
  |(s,.undef)::L=>G (frL L) λL'=>some ((s,.undef)::L')
  |(s,c)::L=>G (Xi c) λc=>G (frL L) λL'=>some ((s,c)::L')
theorem d9:∀{L L':PL},frL L=some L'->L'=L
  |[],_,h=>by cases h;rfl
  |(s,c)::L,L',h=>by
    unfold frL at h
    split at h
    · rename_i he;cases he
    · rename_i he;cases he
      obtain⟨L1,h1,h⟩:=A4 h
      cases h;rw[d9 h1]
    · rename_i he;cases he
      obtain⟨c1,h0,h⟩:=A4 h
      obtain⟨L1,h1,h⟩:=A4 h
      cases h;rw[d9 h1,GD h0]
theorem qTu{e:TypeId}{n:Nat}{cs:List V}{L1:PL}(hc:cns.contains d=true)(h:lk L s=some (.uni e n cs))(hk:frL (hZ [s] L)=some L1)(k:K (Ct ((d,.own e n cs)::(s,.dat n cs)::L1))):Hw P tb cns ⟨some d,.move (.tmp s),t,none⟩ (Ct L) K:=by
  rw[d9 hk]at k
  refine te hc (Da h) ?_
  rw[<-Wx];exact k
theorem qAu{e:TypeId}{n:Nat}{cs:List V}{L1:PL}(hc:cns.contains d=true)(h:lk L s=some (.uni e n cs))(hk:frL (hZ [s] L)=some L1)(hn:nbL L1 d=true)(k:K (Ct ((d,.uni e n cs)::L1))):Hw P tb cns ⟨some d,.assign (.tmp s),t,none⟩ (Ct L) K:=by
  have e1:=d9 hk
  subst e1
  refine w6 hc (Da h) (by rw[<-Wx];exact eO hn) ?_
  rw[<-Wx];exact k
def iuO(tb:Tb)(L:PL)(s:TypeId)(x y:Operand):Option (Nat×Nat×Int×Nat):=G (Rs L x) λa=>match a with
  |.same b=>G (lk L b) λu=>match u with
    |.uni _ n _=>G (Rs L y) λc=>match c with
      |.int _ i=>G (tb s) λdd=>match dd with
        |.sl _ es _ _=>some (b,n,i,es)
        |_=>none
      |_=>none
    |_=>none
  |_=>none
theorem YY{b n es:Nat}{i:Int}(h:iuO tb L s x y=some (b,n,i,es))(hi:0<=i∧i < n)(k:K (Ct ((d,.cref b (i.toNat * es))::L))):Hw P tb cns ⟨some d,.indexAddr s x y,t,none⟩ (Ct L) K:=by
  obtain⟨a,h1,h⟩:=A4 h
  cases a<;>first|(cases h;done)|skip
  obtain⟨u,h2,h⟩:=A4 h
  cases u<;>first|(cases h;done)|skip
  obtain⟨c,h3,h⟩:=A4 h
  cases c<;>first|(cases h;done)|skip
  obtain⟨dd,h4,h⟩:=A4 h
  cases dd<;>first|(cases h;done)|skip
  cases h
  exact w9 (D9 h1) (Da h2) (D9 h3) h4 hi k
theorem qLu{α:Type}{f:α->List V}{n b m:Nat}(off:Nat){l:List α}{i:Int}{e:α}{et:TypeId}{dd:TyD}{v:V}(hc:cns.contains d=false)(hx:adO L x=some (.cref b (i.toNat * n+off)))(hb:lk L b=some (.uni et m (l.flatMap f)))(hf:∀x,(f x).length=n)(hi:AI l i=some e)(ht:tb s=some dd)(ho:Nat.ble (off+dd.size) n=true)(hg:Xi (getCells dd (f e) off)=some v)(k:K (Ct ((d,v)::L))):Hw P tb cns ⟨some d,.load s x,t,none⟩ (Ct L) K:=by
  rw[GD hg]at k
  exact xb hc (RS hx) (Da hb) hf hi ht (nb ho) rfl k
theorem qSu{ty:TypeId}{α:Type}{f:α->List V}{n b:Nat}{l:List α}{i:Int}(e:α){et:TypeId}{dd:TyD}{c1:V}{L1:PL}(hx:adO L x=some (.cref b (i.toNat * n)))(hb:lk L b=some (.uni et l.length (l.flatMap f)))(hf:∀x,(f x).length=n)(hi:0<=i∧i < l.length)(hy:Rs L y=some c1)(ht:tb t=some dd)(ha:c1.isArg=true)(hn:n=dd.size)(hc:Hp c1=f e)(hL:TF L y c1=some L1)
    (k:K (Ct ((b,.uni et (Dl l i e).length ((Dl l i e).flatMap f))::L1))):Hw P tb cns ⟨none,.store t x y,ty,none⟩ (Ct L) K:=by
  refine xf (RS hx) (Da hb) hf hi (D9 hy) ht ha hn hc ?_
  rw[<-MX hy hL];exact k
end
section
variable {P:Program}{nt:Nat}{bx:List Nat}{Q:Exit->PS->Prop}{L:PL}
theorem BA{α:Type}{s:Nat}{x y:LC}{b:Bool}{u v:Option α}{r:α}(h:cond b u v=some r)(hb:lk L s=some (.bool b))(k1:u=some r->LS P nt bx x (Ct L) Q)(k2:v=some r->LS P nt bx y (Ct L) Q):LS P nt bx (.cond (.tmp s) x y) (Ct L) Q:=D6 h (λe h=>vW (Da hb) e (k1 h)) (λe h=>vV (Da hb) e (k2 h))
theorem qT{s:Nat}{x y:LC}{b:Bool}(hb:lk L s=some (.bool b))(e:b=true)(h:LS P nt bx x (Ct L) Q):LS P nt bx (.cond (.tmp s) x y) (Ct L) Q:=vW (Da hb) e h
theorem qF{s:Nat}{x y:LC}{b:Bool}(hb:lk L s=some (.bool b))(e:b=false)(h:LS P nt bx y (Ct L) Q):LS P nt bx (.cond (.tmp s) x y) (Ct L) Q:=vV (Da hb) e h
end
section
variable {P:Program}{tb:Tb}{cns:List Nat}{L:PL}{K:PS->Prop}{d s t:Nat}{x:Operand}
theorem qFd{f:Nat}(off:Nat){v:V}(hf:tg P s f=some off)(h:G (Rs L x) (λa=>match a with
  |.agg cs=>G (cs[off]?) λc=>Xi (Tq c)
  |_=>none)=some v) (k:K (Ct ((d,v)::L))):Hw P tb cns ⟨some d,.field s x f,t,none⟩ (Ct L) K:=by
  obtain⟨a,h1,h⟩:=A4 h
  cases a with
  |agg cs=>
    obtain⟨c,h2,h⟩:=A4 h
    rw[GD h]at k
    simp only[Hw,Qi,jA,hf,D9 h1,h2]
    exact k
  |_=>cases h
end
def iT(tb:Tb)(cns:List Nat):List LO->PL->Option PL
  |[],L=>some L
  |o::os,L=>G (MC tb cns o L) λL'=>iT tb cns os L'
def qW(tb:Tb):Nat->LC->PL->Option (LC×PL)
  |0,l,L=>some (l,L)
  |n+1,.seq (.rgn cns ops) y,L=>G (iT tb cns ops L) λL'=>qW tb n y L'
  |_+1,_,_=>none
section
variable {P:Program}{nt:Nat}{bx:List Nat}{Q:Exit->PS->Prop}{tb:Tb}
theorem iU{cns:List Nat}{K:PS->Prop}:∀{ops:List LO}{L L':PL},iT tb cns ops L=some L'->K (Ct L')->Yv P tb cns ops (Ct L) K
  |[],_,_,h,k=>by cases h;exact k
  |o::ops,L,_,h,k=>by
    rw[iT]at h
    obtain⟨L1,h1,h⟩:=A4 h
    exact bP (K:=λσ'=>Yv P tb cns ops σ' K) h1 (iU h k)
theorem l9(htb:H5 P tb):∀{n:Nat}{l l':LC}{L L':PL},qW tb n l L=some (l',L')->LS P nt bx l' (Ct L') Q->LS P nt bx l (Ct L) Q
  |0,_,_,_,_,h,k=>by cases h;exact k
  |n+1,l,l',L,L',h,k=>by
    cases l with
    |seq a y=>
      cases a with
      |rgn cns ops=>
        obtain⟨L1,h1,h⟩:=A4 (show G (iT tb cns ops L) (λL'=>qW tb n y L')=_ from h)
        exact pU htb (iU h1 (l9 htb h k))
      |_=>exact absurd (show none=some _ from h) (by simp)
    |_=>exact absurd (show none=some _ from h) (by simp)
abbrev Jn(K:PS->Prop)(L:PL):Prop:=∀σ:PS,cT σ L->K σ
theorem lh{l:LC}{σ:PS}{L:PL}(hk:cT σ L)(h2:okR L=true)(h:LS P nt bx l (Ct L) Q):LS P nt bx l σ Q:=FU L hk h2 h
end
def Aez(cns:List Nat)(o:LO):Bool:=match o.op,o.dst with
  |.move _,some d=> !cns.contains d
  |_,_=>false
def fpO(base:List (Nat×Nat))(cns:List Nat)(o:LO):List Nat×List Nat:=match spc cns o with
  |true=>([],o.dst.toList)
  |false=>
  let R:=Su o.op++match o.op with
    |.alloc _=>o.dst.toList
    |.call _=>o.dst.toList.filter cns.contains
    |_=>[]
  let R:=R++match Aez cns o with
    |true=>[]
    |false=>base.filterMap λp=>if R.contains p.1 then some p.2 else none
  (R++gT o,o.dst.toList++if simple cns o=true then base.filterMap (λp=>if(adC o.op).contains p.1 then some p.2 else none)else R)
def cnO:List (Nat×List Nat)->Nat->List Nat
  |[],_=>[]
  |(i,c)::r,id=>match Nat.beq id i with
    |true=>c
    |false=>cnO r id
def S3(base:List (Nat×Nat))(cn:List (Nat×List Nat)):Code->LC
  |.skip=>.skip
  |.region id ops d=>match d with
    |true=>.drw (cnO cn id) ((ops.toList.map (CA ops)).map (fpO base (cnO cn id))) (ops.toList.map Vb) (ops.toList.map (CA ops))
    |false=>.rgn (cnO cn id) (ops.toList.map (CA ops))
  |.seq a b=>.seq (S3 base cn a) (S3 base cn b)
  |.cond c a b=>.cond c (S3 base cn a) (S3 base cn b)
  |.block id a=>.blk id (S3 base cn a)
  |.loop a=>.loop [] (S3 base cn a)
  |.exit id=>.exit id
  |.ret=>.ret
  |_=>.bad
theorem S4(base:List (Nat×Nat))(cn:List (Nat×List Nat)):∀c:Code,Fe c=RT (S3 base cn c)
  |.skip=>rfl
  |.region id ops d=>by cases d<;>simp[Fe,S3,RT]
  |.seq a b=>by rw[Fe,S3,RT,S4 base cn a,S4 base cn b]
  |.cond c a b=>by rw[Fe,S3,RT,S4 base cn a,S4 base cn b]
  |.block id a=>by rw[Fe,S3,RT,S4 base cn a]
  |.loop a=>by rw[Fe,S3,RT,S4 base cn a]
  |.exit id=>rfl
  |.ret=>rfl
  |.rangeFunc .. =>rfl
  |.scope .. =>rfl
  |.label .. =>rfl
  |.goto .. =>rfl
  |.refuse .. =>rfl
def cdF(f:Func):Code:=match f.body with
  |some c=>c
  |none=>.skip
def AbO(bx:List Nat)(base:List (Nat×Nat))(cn:List (Nat×List Nat))(fn:Func):Bool:=
  fn.body.isSome&&((fn.name== "runtime.NumGoroutine")==false&&(okC fn.ntmps bx (cdF fn)&&(decide (fn.results.toList.map Oo).Nodup&&okL bx (S3 base cn (cdF fn)))))
theorem Bj{P:Program}{f:Nat}{fn:Func}{bx:List Nat}{base:List (Nat×Nat)}{cn:List (Nat×List Nat)}(h1:P.funcs[f]? =some fn)(h2:AbO bx base cn fn=true):Lit P f fn.ntmps bx fn.results.toList (S3 base cn (cdF fn)):=by
  simp only[AbO,Ac]at h2
  obtain⟨h2,h3,h4,h5,h6⟩:=h2
  obtain⟨c,hc⟩:=Ga.1 h2
  refine⟨⟨fn,c,h1,hc,eq_of_beq h3,rfl,rfl,?_,?_⟩,ML h5,h6⟩
  · rw[<-S4];unfold cdF;rw[hc]
  · unfold cdF at h4;rw[hc]at h4;exact h4
end Go.Proofs.YtaagdgjndpgdgaaGreatDoor
namespace Go.Proofs.YtaagdgjndpgdgaaGreatDoor
theorem D7{S O:Type}{body:(S->Option O)->S->Option O}{out:O}(f:Nat->S):∀(n:Nat),(∀k,k < n->∀rec,body rec (f k)=rec (f (k+1)))->(∀rec,body rec (f n)=some out)->∀m,n < m->An body m (f 0)=some out:=by
  have key:∀(d n:Nat),(∀k,k < n->∀rec,body rec (f k)=rec (f (k+1)))->(∀rec,body rec (f n)=some out)->∀k,k+d=n->∀m,d < m->An body m (f k)=some out:=by
    intro d n h1 h2
    induction d with
    |zero=>
      intro k hk m hm
      cases m with
      |zero=>omega
      |succ m=>rw[show k=n by omega];exact h2 _
    |succ d ih=>
      intro k hk m hm
      cases m with
      |zero=>omega
      |succ m=>
        show body (An body m) (f k)=some out
        rw[h1 k (by omega)]
        exact ih (k+1) (by omega) m (by omega)
  intro n h1 h2 m hm
  exact key n n h1 h2 0 (by omega) m hm
theorem wrap_in{n:Int}(h: -9223372036854775808<=n∧n<=9223372036854775807):IntKind.i64.wrap n=n:=by
  unfold IntKind.wrap
  simp[IntKind.signed,IntKind.bits]<;>omega
theorem Bn{k n:Nat}(h:k < n)(hn:n<=maxLen):IntKind.i64.wrap ((k:Int)+1)=((k+1:Nat):Int):=by
  rw[wrap_in (by unfold maxLen at hn;omega)];simp
theorem F0{α:Type}(l:List α)(k:Nat):AI l (k:Int)=l[k]?:=by simp[AI]
theorem AK{α:Type}{l:List α}{k:Nat}(h:k < l.length):AI l (k:Int)=some l[k]:=by rw[F0,Ad h]
theorem EO{n:Nat}(h:n<=lim):n < fz:=by unfold lim at h;unfold fz;omega
theorem ZB{α β:Type}{a:List α}{g:α->Option β}{h:α->β}{B:(List β×Int->Option (List β))->List β×Int->Option (List β)}{z:β}
    (hB:∀rec y i,B rec (y,i)=cond (decide (i < (List.length a:Int))) (G (AI a i) λe=>G (g e) λv=>G (AI y i) λ_=>rec (Dl y i v,IntKind.i64.wrap (i+1))) (some y))
    (hg:∀e∈a,g e=some (h e)) (hl:a.length<=lim):An B fz (List.replicate (Int.toNat (List.length a:Int)) z,0)=some (a.map h):=by
  have:=D7 (body:=B) (out:=a.map h) (λk=>((a.take k).map h++List.replicate (a.length - k) z,(k:Int))) a.length (λk hk rec=>?_) (λrec=>?_) fz (EO hl)
  · simpa using this
  · rw[hB]
    have h1:(decide ((k:Int) < (List.length a:Int)))=true:=by simp;omega
    have hlen:((a.take k).map h++List.replicate (a.length - k) z).length=a.length:=by simp;omega
    rw[h1,Ab,AK hk]
    simp only[G]
    rw[hg _ (Ag hk)]
    simp only
    rw[AK (by rw[hlen];exact hk)]
    simp only
    congr 1
    rw[Bn hk (Bd hl)]
    congr 1
    unfold Dl
    rw[As]
    have h2:((a.take k).map h).length=k:=by simp;omega
    rw[FG _ _ (by omega),h2,F9,A9 hk,BM]
    have h3:a.length - k=(a.length - (k+1))+1:=by omega
    rw[h3,Lb]
    simp
  · rw[hB]
    simp
theorem Wk{α:Type}{a:List α}{g:α->α->Option Bool}{B:(Int->Option (Sum Unit Bool))->Int->Option (Sum Unit Bool)}
    (hB:∀rec i,B rec i=cond (decide (i < (List.length a:Int))) (G (AI a i) λx=>G (AI a i) λy=>G (g x y) λv=>cond (!v) (some (.inr false)) (rec (IntKind.i64.wrap (i+1)))) (some (.inl ())))
    (hg:∀e∈a,g e e=some true) (hl:a.length<=lim):An B fz 0=some (.inl ()):=by
  refine D7 (body:=B) (λk=>(k:Int)) a.length (λk hk rec=>?_) (λrec=>?_) fz (EO hl)
  · rw[hB]
    have h1:(decide ((k:Int) < (List.length a:Int)))=true:=by simp;omega
    rw[h1,Ab,AK hk]
    simp only[G,hg _ (Ag hk),Ai,Aa]
    rw[Bn hk (Bd hl)]
  · rw[hB];simp
theorem AN{α:Type}{p:Prop}[Decidable p]{x:Option α}(h:p):chk p x=x:=by unfold chk;rw[AH h]
theorem Zp{n:Nat}(h:n<=lim):(0:Int)<=(n:Int)∧Int.toNat (n:Int)<=lim:=by rw[As];exact⟨by omega,h⟩
theorem GX{n:Nat}(h:n<=1048576):n<=lim:=by unfold lim;omega
def SzR(left:Int)(s:Option Int)(sm:Prop)(t:Nat):Prop:=∃v,s=some v∧(v < 0∨(v+(t:Int)<=left∧0<=v∧sm))
def fD{α:Type}(f:α->Nat):List α->Nat
  |[]=>0
  |x::l=>f x+fD f l
theorem mr{α:Type}{f:α->Nat}:∀(a b:List α),fD f (a++b)=fD f a+fD f b
  |[],b=>by simp[fD]
  |x::a,b=>by rw[BT,fD,fD,mr a b];omega
theorem vb{n:Nat}{left:Int}(h:0<=left∧left<=1048576)(hn:n<=maxLen):∃v,IntKind.i64.wrap (left - (n:Int))=v∧(v < 0∨(v+(n:Int)<=left∧0<=v∧n<=1048576)):=by
  rw[wrap_in (by unfold maxLen at hn;omega)]
  refine⟨_,rfl,?_⟩
  by_cases hl:left - (n:Int) < 0
  · exact .inl hl
  · exact .inr ⟨by omega,by omega,by omega⟩
theorem AaY{n:Nat}{left:Int}(h:0<=left∧left<=1048576)(hn:n<=maxLen):SzR left (cond (decide ((IntKind.i64.wrap (left - (n:Int))) < 0)) (some (-1)) (some (IntKind.i64.wrap (left - (n:Int))))) (n<=1048576) n:=by
  obtain⟨v,e,p⟩:=vb h hn
  rw[e]
  rcases p with p|p
  · rw[Ah p];exact⟨-1,rfl,.inl (by omega)⟩
  · rw[Af (by omega:¬v < 0)];exact⟨v,rfl,.inr p⟩
theorem fx{α:Type}{a:List α}{g:α->Int->Option Int}{sm:α->Prop}{tz:α->Nat}{B:(Int×Int->Option (Sum Int Int))->Int×Int->Option (Sum Int Int)}
    (hB:∀rec l i,B rec (l,i)=cond (decide (i < (List.length a:Int))) (G (AI a i) λe=>G (g e l) λv=>cond (decide (v < 0)) (some (.inr (-1))) (rec (v,IntKind.i64.wrap (i+1)))) (some (.inl l)))
    (hg:∀e∈a,∀left,0<=left∧left<=1048576->SzR left (g e left) (sm e) (tz e)) {left:Int}(h:0<=left∧left<=1048576) (hn:a.length<=maxLen):
    SzR left (cond (decide ((IntKind.i64.wrap (left - (List.length a:Int))) < 0)) (some (-1)) (G (An B fz (IntKind.i64.wrap (left - (List.length a:Int)),0)) λo=>(match o with
      |.inl z=>some z
      |.inr r=>some r))) (a.length<=1048576∧∀e∈a,sm e) (a.length+fD tz a):=by
  obtain⟨v,e,p⟩:=vb h hn
  rw[e]
  rcases p with p|⟨p1,p2,p3⟩
  · rw[Ah p];exact⟨-1,rfl,.inl (by omega)⟩
  rw[Af (by omega:¬v < 0),Aa]
  have key:∀d k l,k+d=a.length->0<=l∧l+(fD tz (a.take k):Int)<=v->(∀e∈a.take k,sm e)->∀m,d < m->∃o,An B m (l,(k:Int))=some o∧(o=.inr (-1)∨∃z,o=.inl z∧0<=z∧z+(fD tz a:Int)<=v∧∀e∈a,sm e):=by
    intro d
    induction d with
    |zero=>
      intro k l hk hl hs m hm
      cases m with
      |zero=>omega
      |succ m=>
        rw[CB (by omega)]at hl
        refine⟨.inl l,?_,.inr ⟨l,rfl,hl.1,hl.2,?_⟩⟩
        · show B (An B m) (l,(k:Int))=_
          rw[hB]
          rw[Af (by omega:¬(k:Int) < (List.length a:Int))]
          rfl
        · rw[CB (by omega)]at hs;exact hs
    |succ d ih=>
      intro k l hk hl hs m hm
      cases m with
      |zero=>omega
      |succ m=>
        have hlt:k < a.length:=by omega
        obtain⟨u,e1,q⟩:=hg a[k] (Ag hlt) l (by omega)
        have hstep:An B (m+1) (l,(k:Int))=cond (decide (u < 0)) (some (.inr (-1))) (An B m (u,((k+1:Nat):Int))):=by
          show B (An B m) (l,(k:Int))=_
          rw[hB,Ah (by omega:(k:Int) < (List.length a:Int)),Ab,AK hlt]
          simp only[G,e1,Bn hlt hn]
        rcases q with q|⟨q1,q2,q3⟩
        · exact⟨.inr (-1),by rw[hstep,Ah q];rfl,.inl rfl⟩
        · rw[hstep,Af (by omega:¬u < 0),Aa]
          have ht:fD tz (a.take (k+1))=fD tz (a.take k)+tz a[k]:=by rw[A9 hlt,mr];simp[fD]
          exact ih (k+1) u (by omega) (by rw[ht];omega) (λe he=>by
            rw[A9 hlt]at he
            rcases Ak.1 he with he|he
            · exact hs e he
            · rw[A7.1 he];exact q3) m (by omega)
  obtain⟨o,e2,q⟩:=key a.length 0 v (by omega) (by simp[fD];omega) (by simp) fz (EO (GX p3))
  have e3:An B fz (v,0)=some o:=by simpa using e2
  rw[e3]
  rcases q with rfl|⟨z,rfl,q1,q2,q3⟩
  · exact⟨-1,rfl,.inl (by omega)⟩
  · exact⟨z,rfl,.inr ⟨by omega,q1,p3,q3⟩⟩
end Go.Proofs.YtaagdgjndpgdgaaGreatDoor
namespace Go.Proofs.YtaagdgjndpgdgaaGreatDoor
def eZ(u:Value):V->V
  |.own _ n cs=>.pin u n (Nx cs)
  |c=>c
def aC:V->Bool
  |.own _ _ _=>true
  |_=>false
def mS:V->Bool
  |.int _ _=>true
  |.bool _=>true
  |.str _=>true
  |_=>false
def Oi:List V->Bool
  |[]=>false
  |c::cs=>(aC c&&cs.all mS) || (mS c&&Oi cs)
def D4:List V->V
  |[]=>.undef
  |c::cs=>match c with
    |.own e n ds=>.own e n ds
    |_=>D4 cs
section
variable {P:Program}{w:World}{St:Nat->Nat->Prop}
theorem rB{c:V}{v:Value}{b:List Nat}(hs:mS c=true)(h:Ow P w St c v b):b=[]:=by
  cases c<;>first|exact h.1|cases hs
theorem kl{c:V}(u:Value)(hs:mS c=true):eZ u c=c:=by cases c<;>first|rfl|cases hs
theorem km:∀{cs:List V}{us:List Value}{b:List Nat},cs.all mS=true->Bb P w St cs us b->b=[]
  |[],_,_,_,h=>h.2
  |c::cs,_,_,hs,⟨u,us',b1,b2,e1,e2,hc,h1,h2⟩=>by
    simp only[Bp,Ac]at hs
    rw[e2,rB hs.1 h1,km hs.2 h2];rfl
theorem fm:∀{cs:List V}(u:Value),cs.all mS=true->cs.map (eZ u)=cs
  |[],_,_=>rfl
  |c::cs,u,hs=>by
    simp only[Bp,Ac]at hs
    rw[AB,kl u hs.1,fm u hs.2]
theorem ux{e:TypeId}{n:Nat}{cs:List V}{u:Value}{b:List Nat}(h:Ow P w St (.own e n cs) u b):Ow P w St (.pin u n (Nx cs)) u []:=by
  have:=Rd.erase _ (Ow.rd (.own e n cs) h rfl)
  exact⟨rfl,rfl,this⟩
theorem mn:∀{ds:List V},Oi ds=true->∃e n cs,D4 ds=.own e n cs
  |[],h=>by cases h
  |c::cs,h=>by
    simp only[Oi,CF,Ac]at h
    rcases h with⟨h1,h2⟩|⟨h1,h2⟩
    · cases c<;>first|exact⟨_,_,_,rfl⟩|cases h1
    · obtain⟨e,n,cs',e1⟩:=mn h2
      cases c<;>first|(cases h1;done)|exact⟨e,n,cs',e1⟩
theorem cY:∀{ds:List V}{xs:List Value}{b:List Nat},Oi ds=true->Bb P w St ds xs b->∃u,Ow P w St (D4 ds) u b∧Bb P w St (ds.map (eZ u)) xs []
  |[],_,_,h,_=>by cases h
  |c::cs,_,_,h,⟨u,us',b1,b2,e1,e2,hc,h1,h2⟩=>by
    simp only[Oi,CF,Ac]at h
    rcases h with⟨g1,g2⟩|⟨g1,g2⟩
    · have hb:=km g2 h2
      subst hb
      rw[AD]at e2
      subst e2
      cases c<;>first|(cases g1;done)|skip
      refine⟨u,h1,?_⟩
      rw[AB,fm u g2]
      exact⟨u,us',[],[],e1,rfl,rfl,ux h1,h2⟩
    · have hb:=rB g1 h1
      subst hb
      rw[Bg]at e2
      subst e2
      obtain⟨u',h3,h4⟩:=cY g2 h2
      refine⟨u',?_,?_⟩
      · cases c<;>first|(cases g1;done)|exact h3
      · rw[AB,kl u' g1]
        exact⟨u,us',[],[],e1,rfl,hc,h1,h4⟩
theorem ir:∀{ds:List V}{xs:List Value}{b0 b:List Nat}{u:Value},Oi ds=true->Bb P w St (ds.map (eZ u)) xs b0->Ow P w St (D4 ds) u b->Bb P w St ds xs b
  |[],_,_,_,_,h,_,_=>by cases h
  |c::cs,_,_,b,u,h,⟨u',us',b1,b2,e1,e2,hc,h1,h2⟩,ht=>by
    simp only[Oi,CF,Ac]at h
    rcases h with⟨g1,g2⟩|⟨g1,g2⟩
    · cases c<;>first|(cases g1;done)|skip
      have hu:u'=u:=h1.2.1
      subst hu
      change Bb P w St (cs.map (eZ u')) us' b2 at h2
      rw[fm u' g2]at h2
      have hb:=km g2 h2
      subst hb
      exact⟨u',us',b,[],e1,by simp,rfl,ht,h2⟩
    · have ht':Ow P w St (D4 cs) u b:=by cases c<;>first|(cases g1;done)|exact ht
      change Ow P w St (eZ u c) u' b1 at h1
      rw[kl u g1]at h1
      have hb:=rB g1 h1
      subst hb
      have h3:=ir g2 h2 ht'
      have hcc:c.Do=true:=by cases c<;>first|rfl|cases g1
      exact⟨u',us',[],b,e1,by simp,hcc,h1,h3⟩
end
def CV{α:Type}(k:Nat):List α->List (Nat×α)
  |[]=>[]
  |x::l=>(k,x)::CV (k+1) l
def pE{α:Type}(f:α->List V)(U:Nat->Value)(p:Nat×α):List V:=(f p.2).map (eZ (U p.1))
def mE{α:Type}(f:α->List V)(U:Nat->Value):Nat×α ⊕ α->List V
  |.inl p=>pE f U p
  |.inr x=>f x
def getM{α:Type}:Nat×α ⊕ α->α
  |.inl p=>p.2
  |.inr x=>x
def okJ{α:Type}[BEq α](l:List α):List (Nat×α ⊕ α)->List Nat->Bool
  |[],_=>true
  |.inl p::L,seen=>(match l[p.1]? with
    |some x=>x==p.2
    |none=>false)&& !seen.contains p.1&&okJ l L (p.1::seen)
  |.inr _::L,seen=>okJ l L seen
section
variable {P:Program}{w:World}{St:Nat->Nat->Prop}{α:Type}{f:α->List V}
theorem iA(h1:∀x,Oi (f x)=true):∀(l:List α) (k:Nat) {xs:List Value}{bs:List Nat},Bb P w St (l.flatMap f) xs bs->
    ∃us:List Value,us.length=l.length∧Bb P w St (l.map λx=>D4 (f x)) us bs∧∀U:Nat->Value,(∀i,i < l.length->U (k+i)=us.getD i undef)->Bb P w St ((CV k l).flatMap (pE f U)) xs []
  |[],k,_,_,h=>⟨[],rfl,⟨rfl,h.2⟩,λU _=>⟨h.1,rfl⟩⟩
  |x::l,k,xs,bs,h=>by
    rw[Au]at h
    obtain⟨xs1,xs2,b1,b2,rfl,rfl,r1,r2⟩:=h.app
    obtain⟨u,h3,h4⟩:=cY (h1 x) r1
    obtain⟨us,hl,h5,h6⟩:=iA h1 l (k+1) r2
    obtain⟨e,n,cs,et⟩:=mn (h1 x)
    refine⟨u::us,by simp[hl],⟨u,us,b1,b2,rfl,rfl,by show(D4 (f x)).Do=true;rw[et];rfl,h3,h5⟩,λU hU=>?_⟩
    have hu:U k=u:=by have:=hU 0 (by simp);simpa using this
    rw[CV,Au]
    have:=Bb.join (b1:=[]) (b2:=[]) (show Bb P w St (pE f U (k,x)) xs1 []by unfold pE;rw[hu];exact h4) (h6 U (λi hi=>by
      have:=hU (i+1) (by simp;omega)
      have e:k+1+i=k+(i+1):=by omega
      rw[e,this];simp))
    exact this
theorem SA:∀{cs:List V}{us:List Value}{bs:List Nat},Bb P w St cs us bs->bs.Nodup->∃β:Nat->List Nat,(∀i c u,cs[i]? =some c->us[i]? =some u->Ow P w St c u (β i))∧(∀i,∀g∈β i,g∈bs)∧(∀i,(β i).Nodup)∧∀i j,i≠j->∀g∈β i,g∉β j
  |[],_,_,h,_=>⟨λ_=>[],by simp,by simp,λ_=>AF,by simp⟩
  |c::cs,_,_,⟨u,us',b1,b2,e1,e2,hc,h1,h2⟩,hn=>by
    subst e1 e2
    obtain⟨n1,n2,n3⟩:=Ax.1 hn
    obtain⟨β,k1,k2,k3,k4⟩:=SA h2 n2
    refine⟨λi=>match i with|0=>b1|i+1=>β i,?_,?_,?_,?_⟩
    · intro i c' u' hc' hu'
      cases i with
      |zero=>simp only[BX,Ar]at hc' hu';subst hc' hu';exact h1
      |succ i=>exact k1 i c' u' (by simpa using hc') (by simpa using hu')
    · intro i g hg
      cases i with
      |zero=>exact AA _ hg
      |succ i=>exact Av _ (k2 i g hg)
    · intro i
      cases i with
      |zero=>exact n1
      |succ i=>exact k3 i
    · intro i j hij g hg hg'
      cases i with
      |zero=>
        cases j with
        |zero=>exact hij rfl
        |succ j=>exact n3 g hg g (k2 j g hg') rfl
      |succ i=>
        cases j with
        |zero=>exact n3 g hg' g (k2 i g hg) rfl
        |succ j=>exact k4 i j (by omega) g hg hg'
theorem lW[BEq α][LawfulBEq α](h1:∀x,Oi (f x)=true){l:List α}{us:List Value}{bs:List Nat}(ht:Bb P w St (l.map λx=>D4 (f x)) us bs)(hn:bs.Nodup){U:Nat->Value}(hU:∀i,i < l.length->U i=us.getD i undef):
    ∀(L:List (Nat×α ⊕ α)) {xs:List Value}{b0:List Nat},okJ l L []=true->Bb P w St (L.flatMap (mE f U)) xs b0->b0.Nodup->(∀g∈b0,g∉bs)->∃b',Bb P w St ((L.map getM).flatMap f) xs b'∧b'.Nodup∧∀g∈b',g∈b0∨g∈bs:=by
  obtain⟨β,k1,k2,k3,k4⟩:=SA ht hn
  have hlen:=ht.length
  rw[Aj]at hlen
  have key:∀(L:List (Nat×α ⊕ α)) (seen:List Nat) {xs:List Value}{b0:List Nat},okJ l L seen=true->Bb P w St (L.flatMap (mE f U)) xs b0->b0.Nodup->(∀g∈b0,g∉bs)->
      ∃b',Bb P w St ((L.map getM).flatMap f) xs b'∧b'.Nodup∧(∀g∈b',g∈b0∨g∈bs)∧∀i∈seen,∀g∈β i,g∉b':=by
    intro L
    induction L with
    |nil=>
      intro seen xs b0 _ h hnb hd
      exact⟨[],⟨h.1,rfl⟩,AF,by simp,by simp⟩
    |cons p L ih=>
      intro seen xs b0 hok h hnb hd
      rw[Au]at h
      obtain⟨xs1,xs2,b1,b2,rfl,rfl,r1,r2⟩:=h.app
      obtain⟨n1,n2,n3⟩:=Ax.1 hnb
      cases p with
      |inr x=>
        simp only[okJ]at hok
        obtain⟨b',q1,q2,q3,q4⟩:=ih seen hok r2 n2 (λg hg=>hd g (Av _ hg))
        refine⟨b1++b',?_,?_,?_,?_⟩
        · rw[AB,Au];exact Bb.join r1 q1
        · refine Ax.2 ⟨n1,q2,λa ha b hb e=>?_⟩
          subst e
          rcases q3 a hb with h|h
          · exact n3 a ha a h rfl
          · exact hd a (AA _ ha) h
        · intro g hg
          rcases Ak.1 hg with hg|hg
          · exact .inl (AA _ hg)
          · exact(q3 g hg).imp (Av _) id
        · intro i hi g hg hm
          rcases Ak.1 hm with hm|hm
          · exact hd g (AA _ hm) (k2 i g hg)
          · exact q4 i hi g hg hm
      |inl p=>
        simp only[okJ,Ac,AT]at hok
        obtain⟨⟨g1,g2⟩,g3⟩:=hok
        obtain⟨b',q1,q2,q3,q4⟩:=ih (p.1::seen) g3 r2 n2 (λg hg=>hd g (Av _ hg))
        have hp:l[p.1]? =some p.2:=by
          split at g1
          · rename_i x hx;rw[hx];simpa using g1
          · cases g1
        have hpl:p.1 < l.length:=by
          rcases A8 p.1 l.length with h|h
          · exact h
          · rw[Bt h]at hp;cases hp
        have hus:us[p.1]? =some (U p.1):=by
          rw[hU p.1 hpl]
          have:p.1 < us.length:=by omega
          simp[this]
        have htok:=k1 p.1 _ _ (by rw[BL,hp];rfl) hus
        have r1':Bb P w St (f p.2) xs1 (β p.1):=ir (h1 p.2) (show Bb P w St ((f p.2).map (eZ (U p.1))) xs1 b1 from r1) htok
        refine⟨β p.1++b',?_,?_,?_,?_⟩
        · rw[AB,Au];exact Bb.join r1' q1
        · refine Ax.2 ⟨k3 p.1,q2,λa ha b hb e=>?_⟩
          subst e
          exact q4 p.1 (by simp) a ha hb
        · intro g hg
          rcases Ak.1 hg with hg|hg
          · exact .inr (k2 p.1 g hg)
          · exact(q3 g hg).imp (Av _) id
        · intro i hi g hg hm
          rcases Ak.1 hm with hm|hm
          · have hne:i≠p.1:=λe=>by
              subst e
              have:seen.contains p.1=true:=by simpa using hi
              rw[this]at g2;cases g2
            exact k4 i p.1 hne g hg hm
          · exact q4 i (by simp[hi]) g hg hm
  intro L xs b0 hok h hnb hd
  obtain⟨b',q1,q2,q3,_⟩:=key L [] hok h hnb hd
  exact⟨b',q1,q2,q3⟩
end
theorem fH{α:Type}{f:α->List V}{n:Nat}(h:∀x,(f x).length=n){U:Nat->Value}(p:Nat×α):(pE f U p).length=n:=by unfold pE;rw[Aj,h]
theorem erP{α:Type}{f g:α->List V}(h:∀x,Nx (f x)=g x)(hg:∀x,Nx (g x)=g x)(l:List α){u:Value}:er (.pin u l.length (Nx (l.flatMap f)))=.dat l.length (l.flatMap g):=by rw[er,QK h,QK hg]
theorem uw{α:Type}{f:α->List V}{U:Nat->Value}{e:TypeId}{x:List (Nat×α)}:V.own e x.length (x.flatMap (pE f U))=.own e (x.map (Sum.inl:Nat×α->Nat×α ⊕ α)).length ((x.map (Sum.inl:Nat×α->Nat×α ⊕ α)).flatMap (mE f U)):=by
  rw[Aj,List.flatMap_map];rfl
section
variable {P:Program}{α:Type}{f:α->List V}
theorem OZ:∀(k:Nat) (l:List α),(CV k l).length=l.length
  |_,[]=>rfl
  |k,x::l=>by rw[CV,Az,Az,OZ (k+1) l]
def dw(P:Program)(f:α->List V)(c:V)(l:List α)(k:Nat)(c':(Nat->Value)->V):Prop:=
  ∀w St t v bs,Cd P w St t c v bs->bs.Nodup->∃us b1 b2,us.length=l.length∧Bb P w St (l.map λx=>D4 (f x)) us b2∧(b1++b2).Nodup∧(∀g∈b1++b2,g∈bs)∧∀U:Nat->Value,(∀i,i < l.length->U (k+i)=us.getD i undef)->Cd P w St t (c' U) v b1
theorem eX(h1:∀x,Oi (f x)=true){e:TypeId}{l:List α}{k:Nat}{w:World}{St:Nat->Nat->Prop}{v:Value}{bs:List Nat}(h:Ow P w St (.own e l.length (l.flatMap f)) v bs)(hn:bs.Nodup):
    ∃us b1 b2,us.length=l.length∧Bb P w St (l.map λx=>D4 (f x)) us b2∧bs=b1++b2∧∀U:Nat->Value,(∀i,i < l.length->U (k+i)=us.getD i undef)->Ow P w St (.own e (CV k l).length ((CV k l).flatMap (pE f U))) v b1:=by
  obtain⟨hl,xs,bs',hx,hr,hb,hst,h0⟩:=h
  obtain⟨us,hul,ht,hp⟩:=iA h1 l k hr
  refine⟨us,v.ownBlock.toList,bs',hul,ht,hb,λU hU=>?_⟩
  rw[OZ]
  refine⟨hl,xs,[],hx,hp U hU,by simp,hst,λhz=>?_⟩
  have:l=[]:=Ba hz
  subst this;rfl
theorem Pg(h1:∀x,Oi (f x)=true){e:TypeId}{l:List α}{k:Nat}:dw P f (.own e l.length (l.flatMap f)) l k (λU=>.own e (CV k l).length ((CV k l).flatMap (pE f U))):=by
  intro w St t v bs h hn
  obtain⟨us,b1,b2,q1,q2,q3,q4⟩:=eX (k:=k) h1 (show Ow P w St _ v bs from h) hn
  exact⟨us,b1,b2,q1,q2,by rw[<-q3];exact hn,λg hg=>by rw[q3];exact hg,λU hU=>q4 U hU⟩
def nM(P:Program)[BEq α](f:α->List V)(U:Nat->Value)(c:V)(L:List (Nat×α ⊕ α))(c':V):Prop:=
  ∀w St t v b1 (l:List α) us bs,Cd P w St t c v b1->Bb P w St (l.map λx=>D4 (f x)) us bs->bs.Nodup->(∀i,i < l.length->U i=us.getD i undef)->okJ l L []=true->b1.Nodup->(∀g∈b1,g∉bs)->∃b',Cd P w St t c' v b'∧b'.Nodup∧∀g∈b',g∈b1∨g∈bs
theorem iz[BEq α][LawfulBEq α](h1:∀x,Oi (f x)=true){e:TypeId}{L:List (Nat×α ⊕ α)}{U:Nat->Value}{w:World}{St:Nat->Nat->Prop}{v:Value}{b1:List Nat}{l:List α}{us:List Value}{bs:List Nat}(h:Ow P w St (.own e L.length (L.flatMap (mE f U))) v b1)(ht:Bb P w St (l.map λx=>D4 (f x)) us bs)(hn:bs.Nodup)
    (hU:∀i,i < l.length->U i=us.getD i undef) (hok:okJ l L []=true) (hb1:b1.Nodup) (hd:∀g∈b1,g∉bs):∃b',Ow P w St (.own e (L.map getM).length ((L.map getM).flatMap f)) v b'∧b'.Nodup∧∀g∈b',g∈b1∨g∈bs:=by
  obtain⟨hl,xs,bs',hx,hr,rfl,hst,h0⟩:=h
  obtain⟨n1,n2,n3⟩:=Ax.1 hb1
  obtain⟨b',q1,q2,q3⟩:=lW h1 ht hn hU L hok hr n2 (λg hg=>hd g (Av _ hg))
  refine⟨v.ownBlock.toList++b',⟨by rw[Aj];exact hl,xs,b',by rw[Aj];exact hx,q1,rfl,by rw[Aj];exact hst,λhz=>?_⟩,?_,?_⟩
  · rw[Aj]at hz
    have:L=[]:=Ba hz
    subst this;rfl
  · refine Ax.2 ⟨n1,q2,λa ha b hb e=>?_⟩
    subst e
    rcases q3 a hb with h|h
    · exact n3 a ha a h rfl
    · exact hd a (AA _ ha) h
  · intro g hg
    rcases Ak.1 hg with hg|hg
    · exact .inl (AA _ hg)
    · exact(q3 g hg).imp (Av _) id
theorem pq[BEq α][LawfulBEq α](h1:∀x,Oi (f x)=true){e:TypeId}{L:List (Nat×α ⊕ α)}{U:Nat->Value}:nM P f U (.own e L.length (L.flatMap (mE f U))) L (.own e (L.map getM).length ((L.map getM).flatMap f)):=by
  intro w St t v b1 l us bs h ht hn hU hok hb1 hd
  obtain⟨b',q1,q2,q3⟩:=iz h1 (show Ow P w St _ v b1 from h) ht hn hU hok hb1 hd
  exact⟨b',q1,q2,q3⟩
theorem g8[BEq α][LawfulBEq α](h1:∀x,Oi (f x)=true){U:Nat->Value}{p:Nat×α}{e:TypeId}{n:Nat}{cs:List V}(he:f p.2=[.own e n cs]):nM P f U (.pin (U p.1) n (Nx cs)) [.inl p] (.own e n cs):=by
  intro w St t v b1 l us bs h ht hn hU hok hb1 hd
  have h2:Ow P w St (.pin (U p.1) n (Nx cs)) v b1:=h
  have hr:Bb P w St (([.inl p]:List (Nat×α ⊕ α)).flatMap (mE f U)) [v] b1:=by
    rw[Au,Fq,AD]
    show Bb P w St ((f p.2).map (eZ (U p.1))) [v] b1
    rw[he]
    exact⟨v,[],b1,[],rfl,(AD _).symm,rfl,h2,rfl,rfl⟩
  obtain⟨b',q1,q2,q3⟩:=lW h1 ht hn hU _ hok hr hb1 hd
  rw[AB,Dc,Au,Fq,AD]at q1
  rw[show getM (Sum.inl p:Nat×α ⊕ α)=p.2 from rfl,he]at q1
  obtain⟨u,us',c1,c2,e1,e2,_,q4,q5⟩:=q1
  obtain⟨rfl,rfl⟩:=List.cons.inj e1
  have:c2=[]:=q5.2
  subst this
  rw[AD]at e2
  subst e2
  exact⟨b',q4,q2,q3⟩
end
section
variable {P:Program}{nt:Nat}{base:Bs}{bx:List Nat}{St St0:Nat->Nat->Prop}{B:Nat->List Nat}{hand:List Nat}{σ:PS}{a:Act}{w w0:World}
theorem K0(h:HSim P nt bx base St B [] σ a w){s q:Nat}(hsq:s≠q)(hq:CU (σ q)=none){c cq:V}{b1 b2:List Nat}(hc:Cd P w St (tm a) c (tm a s) b1)(hcq:Cd P w St (tm a) cq (tm a q) b2)(hn:(b1++b2).Nodup)(hsub:∀g∈b1++b2,g∈B s∨g∈B q)
    (hb:(CU c).isSome=(CU (σ s)).isSome) (hrf:DK c=none) (hbq:CU cq=none) (hrq:DK cq=none):HSim P nt bx base St (upd (upd B s b1) q b2) [] (upd (upd σ s c) q cq) a w:=by
  have hsome:∀cs,CU c=some cs->∃ds,CU (σ s)=some ds:=λcs e=>by
    rw[e]at hb
    cases hx:CU (σ s)with
    |none=>rw[hx]at hb;cases hb
    |some ds=>exact⟨ds,rfl⟩
  have hsome':∀cs,CU (σ s)=some cs->∃ds,CU c=some ds:=λcs e=>by
    rw[e]at hb
    cases hx:CU c with
    |none=>rw[hx]at hb;cases hb
    |some ds=>exact⟨ds,rfl⟩
  obtain⟨n1,n2,n3⟩:=Ax.1 hn
  have hB:∀r,r≠s->r≠q->upd (upd B s b1) q b2 r=B r:=λr h1 h2=>by rw[upd_ne _ _ h2,upd_ne _ _ h1]
  have hBs:upd (upd B s b1) q b2 s=b1:=by rw[upd_ne _ _ hsq,upd_same]
  have hBq:upd (upd B s b1) q b2 q=b2:=upd_same _ _ _
  have hS:∀r,r≠s->r≠q->upd (upd σ s c) q cq r=σ r:=λr h1 h2=>by rw[upd_ne _ _ h2,upd_ne _ _ h1]
  have hSs:upd (upd σ s c) q cq s=c:=by rw[upd_ne _ _ hsq,upd_same]
  have hSq:upd (upd σ s c) q cq q=cq:=upd_same _ _ _
  have hin:∀r,(∀g∈upd (upd B s b1) q b2 r,g∈B r∨((r=s∨r=q)∧(g∈B s∨g∈B q))):=λr g hg=>by
    by_cases e1:r=s
    · subst e1;rw[hBs]at hg;exact .inr ⟨.inl rfl,hsub g (AA _ hg)⟩
    · by_cases e2:r=q
      · subst e2;rw[hBq]at hg;exact .inr ⟨.inr rfl,hsub g (Av _ hg)⟩
      · rw[hB r e1 e2]at hg;exact .inl hg
  exact
  {h with
    slot:=λr=>by
      by_cases e1:r=s
      · subst e1;rw[hSs,hBs];exact hc
      · by_cases e2:r=q
        · subst e2;rw[hSq,hBq];exact hcq
        · rw[hS r e1 e2,hB r e1 e2];exact h.slot r
    boxes:=λr cs e=>by
      by_cases e1:r=s
      · subst e1;rw[hSs]at e;obtain⟨ds,hd⟩:=hsome cs e;exact h.boxes r ds hd
      · by_cases e2:r=q
        · subst e2;rw[hSq,hbq]at e;cases e
        · rw[hS r e1 e2]at e;exact h.boxes r cs e
    crefs:=λr b e=>by
      have hr:DK (σ r)=some b:=by
        by_cases e1:r=s
        · subst e1;rw[hSs,hrf]at e;cases e
        · by_cases e2:r=q
          · subst e2;rw[hSq,hrq]at e;cases e
          · rw[hS r e1 e2]at e;exact e
      obtain⟨cs,hcs⟩:=h.crefs r b hr
      by_cases e1:b=s
      · subst e1;rw[hSs];exact hsome' cs hcs
      · by_cases e2:b=q
        · subst e2;rw[hq]at hcs;cases hcs
        · rw[hS b e1 e2];exact⟨cs,hcs⟩
    nodup:=λr=>by
      by_cases e1:r=s
      · subst e1;rw[hBs];exact n1
      · by_cases e2:r=q
        · subst e2;rw[hBq];exact n2
        · rw[hB r e1 e2];exact h.nodup r
    apart:=λr t hrt g hg hg'=>by
      by_cases e1:(r=s∨r=q)
      · by_cases e2:(t=s∨t=q)
        · rcases e1 with rfl|rfl<;>rcases e2 with rfl|rfl
          · exact hrt rfl
          · rw[hBs]at hg;rw[hBq]at hg';exact n3 g hg g hg' rfl
          · rw[hBq]at hg;rw[hBs]at hg';exact n3 g hg' g hg rfl
          · exact hrt rfl
        · have ht1:t≠s:=λe=>e2 (.inl e)
          have ht2:t≠q:=λe=>e2 (.inr e)
          rw[hB t ht1 ht2]at hg'
          rcases hin r g hg with hh|⟨_,hh⟩
          · exact h.apart r t hrt g hh hg'
          · rcases hh with hh|hh
            · exact h.apart s t (Ne.symm ht1) g hh hg'
            · exact h.apart q t (Ne.symm ht2) g hh hg'
      · have hr1:r≠s:=λe=>e1 (.inl e)
        have hr2:r≠q:=λe=>e1 (.inr e)
        rw[hB r hr1 hr2]at hg
        rcases hin t g hg' with hh|⟨_,hh⟩
        · exact h.apart r t hrt g hg hh
        · rcases hh with hh|hh
          · exact h.apart r s hr1 g hg hh
          · exact h.apart r q hr2 g hg hh
    hapart:=λr g hg=>by simp
    range:=λr g hg=>by
      rcases hin r g hg with hh|⟨_,hh|hh⟩
      · exact h.range r g hh
      · exact h.range s g hh
      · exact h.range q g hh}
variable {Q:Exit->PS->Prop}{α:Type}{f:α->List V}
theorem Sq{x:LC}{s q:Nat}{l:List α}{c:V}{c':(Nat->Value)->V}(hs:σ s=c)(hq:σ q=.undef)(hsq:s≠q)(S:dw P f c l 0 c')(hb:∀U,(CU (c' U)).isSome=(CU c).isSome)(hrf:∀U,DK (c' U)=none)
    (h:∀(U:Nat->Value) (us:List Value),us.length=l.length->(∀i,i < l.length->U i=us.getD i undef)->LS P nt bx x (upd (upd σ s (c' U)) q (.gh us (l.map λx=>D4 (f x)))) Q):LS P nt bx x σ Q:=by
  intro cc hc hok hL base St0 w0 a w hr
  obtain⟨St,B,hS,r1,r2,r3⟩:=hr
  have h1:=hS.slot s
  rw[hs]at h1
  obtain⟨us,b1,b2,q1,q2,q3,q4,q5⟩:=S w St (tm a) (tm a s) (B s) h1 (hS.nodup s)
  have hU:∀i,i < l.length->(λi=>us.getD i undef) (0+i)=us.getD i undef:=λi _=>by simp
  refine h (λi=>us.getD i undef) us q1 (λi _=>rfl) cc hc hok hL base St0 w0 a w ⟨St,_,K0 hS hsq (by rw[hq];rfl) (q5 (λi=>us.getD i undef) hU) (show Cd P w St (tm a) (.gh us _) _ b2 from q2) q3 (λg hg=>.inl (q4 g hg)) (by rw[hs];exact hb _) (hrf _) rfl rfl,r1,r2,r3⟩
theorem mW{x:LC}{s1 s2 g1 g2:Nat}{l1 l2:List α}{c1 c2:V}{c1' c2':(Nat->Value)->V}(hs1:σ s1=c1)(hs2:σ s2=c2)(hq1:σ g1=.undef)(hq2:σ g2=.undef)(hne:s1≠s2∧s1≠g1∧s1≠g2∧s2≠g1∧s2≠g2∧g1≠g2)(S1:dw P f c1 l1 0 c1')(S2:dw P f c2 l2 l1.length c2')
    (hb1:∀U,(CU (c1' U)).isSome=(CU c1).isSome) (hrf1:∀U,DK (c1' U)=none) (hb2:∀U,(CU (c2' U)).isSome=(CU c2).isSome) (hrf2:∀U,DK (c2' U)=none)
    (h:∀(U:Nat->Value) (us1 us2:List Value),us1.length=l1.length->us2.length=l2.length->(∀i,i < (l1++l2).length->U i=(us1++us2).getD i undef)->LS P nt bx x (upd (upd (upd (upd σ s1 (c1' U)) g1 (.gh us1 (l1.map λx=>D4 (f x)))) s2 (c2' U)) g2 (.gh us2 (l2.map λx=>D4 (f x)))) Q):LS P nt bx x σ Q:=by
  obtain⟨n1,n2,n3,n4,n5,n6⟩:=hne
  intro cc hc hok hL base St0 w0 a w hr
  obtain⟨St,B,hS,r1,r2,r3⟩:=hr
  have h1:=hS.slot s1
  rw[hs1]at h1
  have h2:=hS.slot s2
  rw[hs2]at h2
  obtain⟨us1,b1,b2,q1,q2,q3,q4,q5⟩:=S1 w St (tm a) (tm a s1) (B s1) h1 (hS.nodup s1)
  obtain⟨us2,b3,b4,p1,p2,p3,p4,p5⟩:=S2 w St (tm a) (tm a s2) (B s2) h2 (hS.nodup s2)
  have hU1:∀i,i < l1.length->(λi=>(us1++us2).getD i undef) (0+i)=us1.getD i undef:=λi hi=>by
    have:i < us1.length:=by omega
    simp[BE this]
  have hU2:∀i,i < l2.length->(λi=>(us1++us2).getD i undef) (l1.length+i)=us2.getD i undef:=λi hi=>by
    simp only[AQ]
    rw[BP (by omega),q1,Cv]
  have m1:=K0 hS n2 (by rw[hq1];rfl) (q5 (λi=>(us1++us2).getD i undef) hU1) (show Cd P w St (tm a) (.gh us1 (l1.map λx=>D4 (f x))) _ b2 from q2) q3 (λg hg=>.inl (q4 g hg)) (by rw[hs1];exact hb1 _) (hrf1 _) rfl rfl
  have e1:upd (upd σ s1 (c1' λi=>(us1++us2).getD i undef)) g1 (.gh us1 (l1.map λx=>D4 (f x))) s2=c2:=by rw[upd_ne _ _ n4,upd_ne _ _ (Ne.symm n1),hs2]
  have e2:upd (upd σ s1 (c1' λi=>(us1++us2).getD i undef)) g1 (.gh us1 (l1.map λx=>D4 (f x))) g2=.undef:=by rw[upd_ne _ _ (Ne.symm n6),upd_ne _ _ (Ne.symm n3),hq2]
  have e3:upd (upd B s1 b1) g1 b2 s2=B s2:=by rw[upd_ne _ _ n4,upd_ne _ _ (Ne.symm n1)]
  have m2:=K0 m1 n5 (by rw[e2];rfl) (p5 (λi=>(us1++us2).getD i undef) hU2) (show Cd P w St (tm a) (.gh us2 (l2.map λx=>D4 (f x))) _ b4 from p2) p3 (λg hg=>.inl (by rw[e3];exact p4 g hg)) (by rw[e1];exact hb2 _) (hrf2 _) rfl rfl
  exact h (λi=>(us1++us2).getD i undef) us1 us2 q1 p1 (λi _=>rfl) cc hc hok hL base St0 w0 a w ⟨St,_,m2,r1,r2,r3⟩
theorem pS{x:LC}{g1 g2:Nat}{us1 us2:List Value}{cs1 cs2:List V}(h1:σ g1=.gh us1 cs1)(h2:σ g2=.gh us2 cs2)(hne:g1≠g2)(h:LS P nt bx x (upd (upd σ g1 (.gh (us1++us2) (cs1++cs2))) g2 .undef) Q):LS P nt bx x σ Q:=by
  intro cc hc hok hL base St0 w0 a w hr
  obtain⟨St,B,hS,r1,r2,r3⟩:=hr
  have k1:=hS.slot g1
  rw[h1]at k1
  have k2:=hS.slot g2
  rw[h2]at k2
  refine h cc hc hok hL base St0 w0 a w ⟨St,_,K0 hS hne (by rw[h2];rfl) (show Cd P w St (tm a) (.gh (us1++us2) (cs1++cs2)) _ (B g1++B g2)from Bb.join k1 k2) (show Cd P w St (tm a) .undef _ []from rfl) ?_ (λg hg=>?_) (by rw[h1];rfl) rfl rfl rfl,r1,r2,r3⟩
  · rw[AD]
    exact Ax.2 ⟨hS.nodup g1,hS.nodup g2,λa ha b hb e=>by subst e;exact hS.apart g1 g2 hne a ha hb⟩
  · rw[AD]at hg
    exact Ak.1 hg
theorem aS[BEq α]{x:LC}{s q:Nat}{l:List α}{us:List Value}{U:Nat->Value}{L:List (Nat×α ⊕ α)}{c c':V}{cs:List V}(hs:σ s=c)(hq:σ q=.gh us cs)(hcs:cs=l.map λx=>D4 (f x))(hsq:s≠q)(J:nM P f U c L c')(hU:∀i,i < l.length->U i=us.getD i undef)(hok:okJ l L []=true)
    (hb:(CU c').isSome=(CU c).isSome) (hrf:DK c'=none) (h:LS P nt bx x (upd (upd σ s c') q .undef) Q):LS P nt bx x σ Q:=by
  intro cc hc hok' hL base St0 w0 a w hr
  obtain⟨St,B,hS,r1,r2,r3⟩:=hr
  have k1:=hS.slot s
  rw[hs]at k1
  have k2:=hS.slot q
  rw[hq,hcs]at k2
  obtain⟨b',q1,q2,q3⟩:=J w St (tm a) (tm a s) (B s) l us (B q) k1 k2 (hS.nodup q) hU hok (hS.nodup s) (λg hg=>hS.apart s q hsq g hg)
  exact h cc hc hok' hL base St0 w0 a w ⟨St,_,K0 hS hsq (by rw[hq];rfl) q1 (show Cd P w St (tm a) .undef _ []from rfl) (by rw[AD];exact q2) (λg hg=>by rw[AD]at hg;exact q3 g hg) (by rw[hs];exact hb) hrf rfl rfl,r1,r2,r3⟩
end
end Go.Proofs.YtaagdgjndpgdgaaGreatDoor
namespace Go.Proofs.YtaagdgjndpgdgaaGreatDoor
def Gh(P:Program)(nt:Nat)(bx:List Nat)(σ:PS)(K:PS->Prop):Prop:=∀base St0 w0 a w,Rel P nt bx base St0 w0 σ a w->∃σ',K σ'∧Rel P nt bx base St0 w0 σ' a w
def ghQ(P:Program)(nt:Nat)(bx:List Nat)(Q:Exit->PS->Prop):Exit->PS->Prop
  |.normal,σ=>Gh P nt bx σ (Q .normal)
  |e,σ=>Q e σ
section
variable {P:Program}{nt:Nat}{bx:List Nat}{σ:PS}{K:PS->Prop}{Q:Exit->PS->Prop}{x:LC}
theorem O2(h:K σ):Gh P nt bx σ K:=λ_ _ _ _ _ hr=>⟨σ,h,hr⟩
theorem lK(h:LS P nt bx x σ (ghQ P nt bx Q)):LS P nt bx x σ Q:=by
  intro c hc hok hL base St0 w0 a w hr
  refine EQ (h c hc hok hL base St0 w0 a w hr) ?_
  rintro e a' w' ⟨σ',h1,h2⟩
  cases e with
  |normal=>exact h1 base St0 w0 a' w' h2
  |_=>exact⟨σ',h1,h2⟩
theorem Hj(h:Gh P nt bx σ (λσ'=>LS P nt bx x σ' Q)):LS P nt bx x σ Q:=by
  intro c hc hok hL base St0 w0 a w hr
  obtain⟨σ',h1,h2⟩:=h base St0 w0 a w hr
  exact h1 c hc hok hL base St0 w0 a w h2
def nN(P:Program)(c:V)(e:TypeId)(n:Nat)(cs:List V)(c':Value->V):Prop:=
  ∀w St (t:Nat->Value) v bs,Cd P w St t c v bs->bs.Nodup->∃u b1 b2,Ow P w St (.own e n cs) u b2∧(b1++b2).Nodup∧(∀g∈b1++b2,g∈bs)∧Cd P w St t (c' u) v b1
theorem iD{w:World}{St:Nat->Nat->Prop}{e:TypeId}{n:Nat}{cs:List V}{u:Value}{b:List Nat}(h:Ow P w St (.own e n cs) u b):Ow P w St (.tok u) u []:=⟨rfl,rfl,(Ow.rd (.own e n cs) h rfl).oneCell⟩
theorem nn{w:World}{St:Nat->Nat->Prop}{e:TypeId}{n:Nat}{cs:List V}{u:Value}{b:List Nat}(h:Ow P w St (.own e n cs) u b)(hn:0 < n):∃g m,u=.slice (some ⟨g,0,none⟩) n m:=by
  obtain⟨_,xs,bs',hrow,_⟩:=h
  rcases hrow.2 with⟨_,h0⟩|⟨g,cap,cur,eg,_⟩
  · omega
  · exact⟨g,cap,eg⟩
theorem pH{e:TypeId}{n:Nat}{cs:List V}:nN P (.own e n cs) e n cs .tok:=λw St t v bs h hn=>⟨v,[],bs,h,by simpa using hn,λg hg=>by simpa using hg,(iD (show Ow P w St (.own e n cs) v bs from h)).slot⟩
theorem lq{s q:Nat}{c:V}{e:TypeId}{n:Nat}{cs:List V}{c':Value->V}(hs:σ s=c)(hq:σ q=.undef)(hsq:s≠q)(L:nN P c e n cs c')(hn:0 < n)(hb:∀u,(CU (c' u)).isSome=(CU c).isSome)(hrf:∀u,DK (c' u)=none)
    (h:∀g m,Gh P nt bx (upd (upd σ s (c' (.slice (some ⟨g,0,none⟩) n m))) q (.gh [.slice (some ⟨g,0,none⟩) n m] [.own e n cs])) K):Gh P nt bx σ K:=by
  rintro base St0 w0 a w ⟨St,B,hS,r1,r2,r3⟩
  have h1:=hS.slot s
  rw[hs]at h1
  obtain⟨u,b1,b2,q1,q2,q3,q4⟩:=L w St (tm a) (tm a s) (B s) h1 (hS.nodup s)
  obtain⟨g,m,rfl⟩:=nn q1 hn
  exact h g m base St0 w0 a w ⟨St,_,K0 hS hsq (by rw[hq];rfl) q4 (show Cd P w St (tm a) (.gh [_] [_]) _ b2 from⟨_,[],b2,[],rfl,by simp,rfl,q1,rfl,rfl⟩) q2 (λg hg=>.inl (q3 g hg)) (by rw[hs];exact hb _) (hrf _) rfl rfl,r1,r2,r3⟩
def nL(P:Program)(c':V)(u:Value)(e:TypeId)(n:Nat)(cs:List V)(c:V):Prop:=
  ∀w St (t:Nat->Value) v b1 b2,Cd P w St t c' v b1->Ow P w St (.own e n cs) u b2->(b1++b2).Nodup->∃bs,bs.Nodup∧(∀g∈bs,g∈b1++b2)∧Cd P w St t c v bs
theorem oF{u:Value}{e:TypeId}{n:Nat}{cs:List V}:nL P (.tok u) u e n cs (.own e n cs):=by
  intro w St t v b1 b2 h1 h2 hn
  have hv:v=u:=h1.2.1
  subst hv
  exact⟨b2,(Ax.1 hn).2.1,λg hg=>Av _ hg,h2⟩
theorem lp{s q:Nat}{u:Value}{e:TypeId}{n:Nat}{cs:List V}{c c':V}(hs:σ s=c')(hq:σ q=.gh [u] [.own e n cs])(hsq:s≠q)(D:nL P c' u e n cs c)(hb:(CU c).isSome=(CU c').isSome)(hrf:DK c=none)
    (h:Gh P nt bx (upd (upd σ s c) q .undef) K):Gh P nt bx σ K:=by
  rintro base St0 w0 a w ⟨St,B,hS,r1,r2,r3⟩
  have h1:=hS.slot s
  rw[hs]at h1
  have h2:=hS.slot q
  rw[hq]at h2
  obtain⟨u',us',b1,b2,eu,eb,_,hOw,hnil⟩:=h2
  simp only[Dg]at eu
  obtain⟨rfl,rfl⟩:=eu
  have hb2:b2=[]:=hnil.2
  subst hb2
  rw[AD]at eb
  have hnd:(B s++b1).Nodup:=Ax.2 ⟨hS.nodup s,by have:=hS.nodup q;rwa [eb]at this,λx hx y hy e=>by subst e;exact hS.apart s q hsq x hx (by rw[eb];exact hy)⟩
  obtain⟨bs,q1,q2,q3⟩:=D w St (tm a) (tm a s) (B s) b1 h1 hOw hnd
  exact h base St0 w0 a w ⟨St,_,K0 hS hsq (by rw[hq];rfl) q3 (show Cd P w St (tm a) .undef _ []from rfl) (by simpa using q1) (λg hg=>by
    rw[AD]at hg
    rcases Ak.1 (q2 g hg)with hh|hh
    · exact .inl hh
    · exact .inr (by rw[eb];exact hh)) (by rw[hs];exact hb) hrf rfl rfl,r1,r2,r3⟩
theorem dl{α:Type}{cs:List α}{k:Nat}{c:α}(hk:cs[k]? =some c)(x:α):cs=cs.take k++c::cs.drop (k+1)∧cs.set k x=cs.take k++x::cs.drop (k+1):=by
  obtain⟨hlt,he⟩:=Ce.1 hk
  refine⟨?_,by rw[D8,AH hlt]⟩
  rw[<-he,<-AO hlt,BG]
theorem iG(a b c d:List Nat):(a++(b++d)++c).Perm (a++(b++(c++d))):=by
  rw[A3,A3]
  exact Kd _ (Kd _ List.perm_append_comm)
theorem tQ{u1:Value}{e e2:TypeId}{n m k:Nat}{cs row:List V}(hk:cs[k]? =some (.own e2 m row)):nN P (.gh [u1] [.own e n cs]) e2 m row (λu=>.gh [u1] [.own e n (cs.set k (.tok u))]):=by
  rintro w St t v bs ⟨u,us',b1,b2,eu,eb,hc,⟨hn,xs,bs',hrow,hxs,hb1,hSt,h0⟩,hnil⟩ hnd
  simp only[Dg]at eu
  obtain⟨rfl,rfl⟩:=eu
  have hb2:b2=[]:=hnil.2
  subst hb2
  rw[AD]at eb
  subst eb
  have hlt:=(Ce.1 hk).1
  have e0:=λx=>dl hk x
  rw[(e0 .undef).1]at hxs
  obtain⟨us1,us2,p1,p2,eu,eb2,r1,r2⟩:=Bb.app hxs
  obtain⟨u',us3,p3,p4,eu2,eb3,hc',r3,r4⟩:=r2
  subst eb3 eb2 hb1
  have hp:=iG u1.ownBlock.toList p1 p3 p4
  refine⟨u',u1.ownBlock.toList++(p1++p4),p3,r3,hp.nodup_iff.2 hnd,λg hg=>hp.mem_iff.1 hg,u1,[],_,[],rfl,(AD _).symm,rfl,⟨hn,xs,p1++p4,hrow,?_,rfl,hSt,λhz=>?_⟩,rfl,rfl⟩
  · rw[(e0 (.tok u')).2,eu,eu2]
    exact Bb.join r1 (show Bb P w St (.tok u'::_) (u'::us3) p4 from⟨u',us3,[],p4,rfl,by simp,rfl,iD r3,r4⟩)
  · have:=h0 hz
    subst this
    simp at hlt
theorem s6{u1 u2:Value}{e e2:TypeId}{n m k:Nat}{cs row:List V}(hk:cs[k]? =some (.tok u2)):nL P (.gh [u1] [.own e n cs]) u2 e2 m row (.gh [u1] [.own e n (cs.set k (.own e2 m row))]):=by
  rintro w St t v c1 c2 ⟨u,us',b1,b2,eu,eb,hc,⟨hn,xs,bs',hrow,hxs,hb1,hSt,h0⟩,hnil⟩ h2 hnd
  simp only[Dg]at eu
  obtain⟨rfl,rfl⟩:=eu
  have hb2:b2=[]:=hnil.2
  subst hb2
  rw[AD]at eb
  subst eb
  have hlt:=(Ce.1 hk).1
  have e0:=λx=>dl hk x
  rw[(e0 .undef).1]at hxs
  obtain⟨us1,us2,p1,p2,eu,eb2,r1,r2⟩:=Bb.app hxs
  obtain⟨u',us3,p3,p4,eu2,eb3,hc',r3,r4⟩:=r2
  obtain⟨hp3,hu,_⟩:=r3
  subst hu hp3 eb3 eb2 hb1
  have hp:=iG u1.ownBlock.toList p1 c2 p2
  refine⟨u1.ownBlock.toList++(p1++(c2++p2)),hp.nodup_iff.1 (by simpa using hnd),λg hg=>by have:=hp.mem_iff.2 hg;simpa using this,u1,[],_,[],rfl,(AD _).symm,rfl,⟨hn,xs,p1++(c2++p2),hrow,?_,rfl,hSt,λhz=>?_⟩,rfl,rfl⟩
  · rw[(e0 (.own e2 m row)).2,eu,eu2]
    exact Bb.join r1 (show Bb P w St (.own e2 m row::_) (u'::us3) (c2++p2)from⟨u',us3,c2,p2,rfl,rfl,rfl,h2,r4⟩)
  · have:=h0 hz
    subst this
    simp at hlt
variable {α:Type}{f:α->List V}
end
end Go.Proofs.YtaagdgjndpgdgaaGreatDoor
namespace Go.Proofs.YtaagdgjndpgdgaaGreatDoor
mutual
def ND:V->V
  |.dat n cs=>.arg n (Mq cs)
  |.agg cs=>.agg (Mq cs)
  |.int k n=>.int k n
  |.bool b=>.bool b
  |.str s=>.str s
  |.fn f=>.fn f
  |_=>.undef
def Mq:List V->List V
  |[]=>[]
  |c::cs=>ND c::Mq cs
end
mutual
def UI:V->Bool
  |.dat _ cs=>EG cs
  |.int _ _=>true
  |.bool _=>true
  |.str _=>true
  |.fn _=>true
  |_=>false
def EG:List V->Bool
  |[]=>true
  |c::cs=>UI c&&EG cs
end
def KK:V->Bool
  |.agg cs=>EG cs
  |c=>UI c
section
variable {P:Program}{w:World}{St:Nat->Nat->Prop}{N:Nat->Prop}
theorem mz{cs:List V}:Mq cs≠[]->cs≠[]:=λh e=>h (by subst e;rfl)
mutual
theorem Rd.LF(hst:∀b o,St b o->N b):∀(c:V) {v:Value},UI c=true->Rd w St c v->Rd w (λb o=>St b o∨N b) (ND c) v
  |.int _ _,_,_,h=>h
  |.bool _,_,_,h=>h
  |.str _,_,_,h=>h
  |.fn _,_,_,h=>h
  |.dat _ cs,_,ha,⟨hn,A,c,e,hc,h,h0⟩=>⟨hn,A,c,e,hc,λhp=>let⟨b,off,ea,hr⟩:=h hp;⟨b,off,ea,λhne o=>.inr (De.blk hst b off cs (mz hne) hr),De.LF hst b off cs ha hr⟩,λhz=>by rw[h0 hz];rfl⟩
  |.own _ _ _,_,ha,_=>by cases ha
  |.pin _ _ _,_,ha,_=>by cases ha
  |.arg _ _,_,ha,_=>by cases ha
  |.agg _,_,ha,_=>by cases ha
  |.tup _,_,ha,_=>by cases ha
  |.box _,_,ha,_=>by cases ha
  |.uni _ _ _,_,ha,_=>by cases ha
  |.same _,_,ha,_=>by cases ha
  |.val _ _,_,ha,_=>by cases ha
  |.cref _ _,_,ha,_=>by cases ha
  |.adr _ _,_,ha,_=>by cases ha
  |.gh _ _,_,ha,_=>by cases ha
  |.tok _,_,ha,_=>by cases ha
  |.undef,_,ha,_=>by cases ha
theorem De.LF(hst:∀b o,St b o->N b)(b:Nat):∀(off:Nat) (cs:List V),EG cs=true->De w St b off cs->De w (λb o=>St b o∨N b) b off (Mq cs)
  |_,[],_,_=>trivial
  |off,c::cs,ha,⟨⟨h1,u,hu,hr⟩,h2⟩=>by
    rw[EG,Ac]at ha
    exact⟨⟨.inl h1,u,hu,Rd.LF hst c ha.1 hr⟩,De.LF hst b (off+1) cs ha.2 h2⟩
theorem De.blk(hst:∀b o,St b o->N b)(b:Nat):∀(off:Nat) (cs:List V),cs≠[]->De w St b off cs->N b
  |_,[],h,_=>absurd rfl h
  |off,_::_,_,⟨⟨h1,_⟩,_⟩=>hst b off h1
end
theorem NF.LF(hst:∀b o,St b o->N b):∀(cs:List V) {us:List Value},EG cs=true->NF w St cs us->NF w (λb o=>St b o∨N b) (Mq cs) us
  |[],_,_,h=>h
  |c::cs,_,ha,⟨u,us',e,h1,h2⟩=>by
    rw[EG,Ac]at ha
    exact⟨u,us',e,Rd.LF hst c ha.1 h1,NF.LF hst cs ha.2 h2⟩
theorem Y5.LF(hst:∀b o,St b o->N b){c:V}{v:Value}(ha:KK c=true)(h:Y5 w St c v):Y5 w (λb o=>St b o∨N b) (ND c) v:=by
  cases c<;>first|exact Rd.LF hst _ ha h|(cases ha;done)|skip
  obtain⟨us,e,h⟩:=h
  exact⟨us,e,NF.LF hst _ ha h⟩
theorem Pp.LF(hst:∀b o,St b o->N b):∀{args:List V}{vs:List Value},args.all KK=true->Pp w St args vs->Pp w (λb o=>St b o∨N b) (args.map ND) vs
  |[],_,_,h=>h
  |c::args,_,ha,⟨u,us',e,h1,h2⟩=>by
    simp only[Bp,Ac]at ha
    exact⟨u,us',e,Y5.LF hst ha.1 h1,Pp.LF hst ha.2 h2⟩
end
theorem ZJ{c:V}(h:UI c=true):Nt (ND c)=true:=by
  cases c<;>first|rfl|cases h
theorem ZM:∀{cs:List V},EG cs=true->(Mq cs).all Nt=true
  |[],_=>rfl
  |c::cs,h=>by
    rw[EG,Ac]at h
    rw[Mq,Bp,ZJ h.1,ZM h.2];rfl
theorem ZI{c:V}(h:KK c=true):Q8 (ND c)=true:=by
  cases c<;>first|exact ZJ h|(cases h;done)|skip
  exact ZM (show EG _=true from h)
def kT:V->Bool
  |.tup cs=>Cm cs
  |c=>deep c
section
variable {P:Program}{w w':World}{St St':Nat->Nat->Prop}
theorem Lg.kept:∀(cs:List V) {us:List Value}{bs:List Nat},Cm cs=true->Lg P w St cs us bs->(∀g∈bs,w'.heap[g]? =w.heap[g]? ∧∀o,St' g o↔St g o)->Lg P w' St' cs us bs
  |[],_,_,_,h,_=>h
  |c::cs,_,_,hd,⟨u,us',b1,b2,e1,e2,h1,h2⟩,hb=>by
    have hd':deep c=true∧Cm cs=true:=by simpa[Cm]using hd
    exact⟨u,us',b1,b2,e1,e2,Ow.kept c hd'.1 h1 (λg hg=>hb g (by rw[e2];exact AA _ hg)),Lg.kept cs hd'.2 h2 (λg hg=>hb g (by rw[e2];exact Av _ hg))⟩
theorem jt{c:V}{v:Value}{bs:List Nat}(hd:kT c=true)(h:Ow P w St c v bs)(hb:∀g∈bs,w'.heap[g]? =w.heap[g]? ∧∀o,St' g o↔St g o):Ow P w' St' c v bs:=by
  cases c<;>first|exact Ow.kept _ hd h hb|skip
  obtain⟨us,e,h⟩:=h
  exact⟨us,e,Lg.kept _ hd h hb⟩
end
section
variable {P:Program}{tb:Tb}
theorem nB(htb:H5 P tb){f:FuncId}{fn:Func}{c:Code}{args:List V}{r:V}(hf:P.funcs[f]? =some fn)(hb:fn.body=some c)(hname:(fn.name== "runtime.NumGoroutine")=false)(bx:List Nat)(hlen:args.length<=fn.ntmps)(hargs:args.all KK=true)(hr:kT r=true)
    (hn:(fn.results.toList.map Oo).Nodup) (h:MP P fn.ntmps bx c (HC (args.map ND)) (λe σ=>(e=.ret∨e=.normal)∧bo tb σ fn.results.toList=some r)):Aw P f args r:=by
  refine⟨⟨fn,hf,by rw[hb];rfl,hname⟩,λw St vs hst hgl hvs=>?_⟩
  have hvs':=Pp.LF hst hargs hvs
  have hst':∀b o,(St b o∨b < w.heap.size)->b < w.heap.size:=λb o h=>h.elim (hst b o) id
  have hpl:(args.map ND).all Q8=true:=by
    rw[LT,Al]
    exactλx hx=>ZI (Al.1 hargs x hx)
  obtain⟨hl,hat⟩:=args_at hvs'
  refine Ka hf hb ?_
  have hrel:=dh (P:=P) (bx:=bx) hst' (hgl.of (λb hb o=>.inl (hb o)) (λ_ _ _=>rfl)) hvs' (by simpa using hlen) hpl
  refine EQ (h _ _ _ _ _ hrel) ?_
  rintro e a' w' ⟨σ',⟨he,hres⟩,St1,B',h1,h2,h3,h4⟩
  have hfin:a'.defers=[]∧∃v,(results fn a'.tmps).run P w'=.ok v w'∧Ret P w St r (.returned v) w':=by
    obtain⟨v,bs,q1,q2,q3,q4⟩:=l7 htb h1 hn hres
    have hge:∀g∈bs,w.heap.size<=g:=λg hg=>Nr (q4 g hg).1
    refine⟨h1.defers,v,q1,v,bs,λb o=>(b < w.heap.size∧St b o)∨(w.heap.size<=b∧St1 b o),rfl,⟨h2.os,h2.tape,h2.output,h2.size,h2.block⟩,λb o hlt=>⟨λhh=>hh.elim (·.2) (λhh=>absurd hh.1 (by omega)),λhh=>.inl ⟨hlt,hh⟩⟩,λb o hh=>?_,?_,q3,λg hg=>⟨hge g hg,(q4 g hg).2⟩⟩
    · rcases hh with hh|hh
      · exact Bu hh.1 h2.size
      · exact h1.st b o hh.2
    · exact jt hr q2 (λg hg=>⟨rfl,λo=>⟨λhh=>hh.elim (λhh=>absurd hh.1 (by have:=hge g hg;omega)) (·.2),λhh=>.inr ⟨hge g hg,hh⟩⟩⟩)
  rcases he with rfl|rfl
  · exact hfin
  · exact hfin
theorem Pp.mono{w w':World}{St St':Nat->Nat->Prop}(hs:∀b o,St b o->St' b o)(he:Ext St w w'):∀{args:List V}{vs:List Value},Pp w St args vs->Pp w' St' args vs
  |[],_,h=>h
  |c::args,_,⟨u,us',e,h1,h2⟩=>⟨u,us',e,h1.mono hs he,Pp.mono hs he h2⟩
end
def sfY:PL->Prop
  |[]=>True
  |(_,c)::L=>I5 c=true∧sfY L
theorem yn:sfY []:=trivial
theorem yc{q:Nat}{c:V}{L:PL}(h:I5 c=true)(k:sfY L):sfY ((q,c)::L):=⟨h,k⟩
theorem fo:∀{L:PL},sfY L->∀q,I5 (Ct L q)=true
  |[],_,q=>rfl
  |(r,c)::L,⟨h1,h2⟩,q=>by
    by_cases e:q=r
    · subst e
      rw[show Ct ((q,c)::L) q=c from by simp[Ct,upd_same]]
      exact h1
    · rw[show Ct ((r,c)::L) q=Ct L q from by simp[Ct,upd_ne _ _ e]]
      exact fo h2 q
theorem UY:∀{L:PL}{q:Nat},q∉L.map (·.1)->Ct L q=.undef
  |[],_,_=>rfl
  |(s,c)::L,q,h=>by
    rw[AB,AC,not_or]at h
    rw[Ed,upd_ne _ _ h.1]
    exact UY h.2
theorem Sm{L:PL}:∀{ss:List Nat}{L':PL},cG L ss=some L'->(∀q,q∈ss->lk L q=some (Ct L' q))∧(∀q,q∉ss->Ct L' q=.undef)∧L'.map (·.1)=ss
  |[],_,h=>by cases h;exact⟨λq hq=>by simp at hq,λ_ _=>rfl,rfl⟩
  |s::ss,_,h=>by
    rw[cG]at h
    obtain⟨c,h1,h⟩:=A4 h
    obtain⟨L1,h2,h⟩:=A4 h
    cases h
    obtain⟨i1,i2,i3⟩:=Sm h2
    refine⟨λq hq=>?_,λq hq=>?_,by rw[AB,i3]⟩
    · by_cases e:q=s
      · subst e;rw[Ed,upd_same];exact h1
      · rw[Ed,upd_ne _ _ e];exact i1 q ((AC.1 hq).resolve_left e)
    · rw[AC,not_or]at hq
      rw[Ed,upd_ne _ _ hq.1];exact i2 q hq.2
def Rr(L:PL)(S:List Nat):List Nat:=(L.map (·.1)).filter λq=> !S.contains q
theorem Mk{L:PL}{S:List Nat}{q:Nat}:(Rr L S).contains q=true↔q∈L.map (·.1)∧q∉S:=by
  unfold Rr
  rw[Bk,Cp,AT,<-If,Bk]
theorem XZ{L L1:PL}{S:List Nat}{g q:Nat}(h:Ww L S=some L1)(hg:q≠g):kill (Rr L (g::S)) (Ct L) q=Ct L1 q:=by
  obtain⟨L',h1,h⟩:=A4 h
  obtain⟨h2,h⟩:=DA h
  cases h
  obtain⟨i1,i2,i3⟩:=Sm h1
  by_cases hq:q∈S
  · have e1:=Da (i1 q hq)
    have hD:¬(Rr L (g::S)).contains q=true:=λh=>(Mk.1 h).2 (AZ _ hq)
    unfold kill
    rw[AE hD,e1]
    cases hr:DK (Ct L1 q)with
    |none=>rfl
    |some b=>
      have hb:b∈S:=by
        obtain⟨p,hp,hpr⟩:=eQ hr
        have:=Al.1 h2 p hp
        rw[hpr,i3]at this
        exact Bk.1 this
      have hD':¬(Rr L (g::S)).contains b=true:=λh=>(Mk.1 h).2 (AZ _ hb)
      simp only[AE hD']
  · rw[i2 q hq]
    by_cases hk:q∈L.map (·.1)
    · exact SW (Mk.2 ⟨hk,λh=>(AC.1 h).elim hg hq⟩)
    · unfold kill
      rw[UY hk]
      split<;>rfl
theorem l6{α:Type}{f:α->List V}{es:Nat}(z:∀x,(f x).length=es){l:List α}{i:Int}{y:α}(gy:AI l i=some y){o:Nat}{vs:List V}(ho:o+vs.length<=es){x':α}(hx:Om (f y) o vs=f x'):Om (l.flatMap f) (i.toNat * es+o) vs=(Dl l i x').flatMap f:=by
  obtain⟨g1,g2,g3⟩:=Be gy
  have hk:i.toNat < l.length:=by omega
  unfold Dl
  rw[<-di z hk x',<-hx]
  unfold Om
  have e1:(l.flatMap f).drop (i.toNat * es)=f y++(l.flatMap f).drop ((i.toNat+1) * es):=by
    rw[KZ z,KZ z]
    obtain⟨hlt,he⟩:=Ce.1 g3
    rw[AO hlt,he,Au]
  have hl:((f y).take o++vs++(f y).drop (o+vs.length)).length=es:=by
    have:=z y
    simp only[Aq,At,A6]
    omega
  rw[hl]
  have e2:(l.flatMap f).take (i.toNat * es+o)=(l.flatMap f).take (i.toNat * es)++(f y).take o:=by
    have hlen:i.toNat * es<=(l.flatMap f).length:=by
      rw[Bf z]
      exact B3 _ (GV hk)
    rw[List.take_add,e1,Gi (by rw[z y];omega)]
  have e3:(l.flatMap f).drop (i.toNat * es+o+vs.length)=(f y).drop (o+vs.length)++(l.flatMap f).drop (i.toNat * es+es):=by
    rw[CY,<-FE,e1,Dq (by rw[z y];omega),CQ,DP]
  rw[e2,e3]
  simp only[A3]
theorem get_at{α:Type}{f:α->List V}{es:Nat}(z:∀x,(f x).length=es){l:List α}{i:Int}{y:α}(gy:AI l i=some y){o:Nat}{dd:TyD}(ho:o+dd.size<=es)(hp:0 < dd.size):getCells dd (l.flatMap f) (i.toNat * es+o)=getCells dd (f y) o∧i.toNat * es+o+dd.size<=(l.flatMap f).length:=by
  obtain⟨g1,g2,g3⟩:=Be gy
  have hk:i.toNat < l.length:=by omega
  have e1:(l.flatMap f).drop (i.toNat * es)=f y++(l.flatMap f).drop ((i.toNat+1) * es):=by
    rw[KZ z,KZ z]
    obtain⟨hlt,he⟩:=Ce.1 g3
    rw[AO hlt,he,Au]
  have hz:=z y
  refine⟨?_,?_⟩
  · have e2:∀k,k < es->(l.flatMap f)[i.toNat * es+k]? =(f y)[k]?:=λk hk=>by
      rw[<-Cz,e1,BE (by omega)]
    cases dd with
    |st n zz fs=>
      simp only[getCells,TyD.size]at ho⊢
      rw[<-FE,e1,Dq (by omega),Gi (by rw[A6];omega)]
    |_=>simp only[getCells,TyD.size]at ho⊢;rw[e2 o (by omega)]
  · rw[Bf z]
    have:(i.toNat+1) * es<=l.length * es:=B3 _ hk
    rw[CQ,DP]at this
    omega
theorem gk{α:Type}{f:α->List V}{es:Nat}(z:∀x,(f x).length=es){l:List α}{i:Int}{y:α}(gy:AI l i=some y){o:Nat}(ho:Nat.ble (o+1) es=true):i.toNat * es+o < (l.flatMap f).length:=(get_at (dd:=.sc (.bool false)) z gy (o:=o) (nb ho) (Nat.zero_lt_one)).2
theorem sl{α:Type}{n:Nat}{l:List α}{i:Int}{x:α}(h:n=l.length):n=(Dl l i x).length:=by unfold Dl;rw[Bx];exact h
section
variable {P:Program}{tb:Tb}{cns:List Nat}{L:PL}{K:PS->Prop}{s t:Nat}{x y:Operand}{nt:Nat}{bx:List Nat}
theorem qIt{d:Nat}{α:Type}{l:List α}{y0:α}{g n m es eb:Nat}{i:Int}{kk:IntKind}{e:TypeId}{ez:List V}(hx:Rs L x=some (.tok (.slice (some ⟨g,0,none⟩) n m)))(hy:Rs L y=some (.int kk i))(ht:tb s=some (.sl e es eb ez))(hn:n=l.length)(gi:AI l i=some y0)
    (k:K (Ct ((d,.tok (.pointer (some ⟨g,i.toNat * es,none⟩)))::L))):Hw P tb cns ⟨some d,.indexAddr s x y,t,none⟩ (Ct L) K:=by
  obtain⟨g1,g2,g3⟩:=Be gi
  subst hn
  refine⟨?_,?_⟩
  · simp only[pc,jL,ht,av,D9 hx,D9 hy,P0,ml];exact⟨g1,g2⟩
  · simp only[pv,jM,ht,iaS,D9 hx,D9 hy,P0,vi];exact k
theorem qLe{q d:Nat}{α:Type}{f:α->List V}{l:List α}{y0:α}{i:Int}{g off m n es:Nat}{e:TypeId}{v:V}{dd:TyD}(o:Nat)(hq:(Nat.beq q gS || Nat.beq q gU)=true)(hc:cns.contains d=true)(hx:adO L x=some (.tok (.pointer (some ⟨g,off,none⟩))))(ho:off=i.toNat * es+o)(ht:tb s=some dd)
    (hg:lk L q=some (.gh [.slice (some ⟨g,0,none⟩) n m] [.own e n (l.flatMap f)])) (z:∀x,(f x).length=es) (gy:AI l i=some y0) (hol:(Nat.ble (o+dd.size) es&&Nat.ble 1 dd.size)=true) (hv:Xi (getCells dd (f y0) o)=some v) (k:K (Ct ((d,v)::L))):
    Hw P tb cns ⟨some d,.load s x,t,none⟩ (Ct L) K:=by
  subst ho
  rw[Ac]at hol
  obtain⟨e1,e2⟩:=get_at (dd:=dd) z gy (nb hol.1) (nb hol.2)
  simp only[Hw,hc,ED,WF,ht,RS hx]
  refine⟨trivial,q,g,_,e,n,m,_,rfl,(Bool.or_eq_true_iff.1 hq).imp CJ CJ,Da hg,e2,nb hol.2,?_⟩
  rw[e1,<-GD hv]
  exact k
theorem qLh{d:Nat}{u2:Value}{g off k0 m n:Nat}{e:TypeId}{cs:List V}{dd:TyD}(hc:cns.contains d=true)(hx:adO L x=some (.tok (.pointer (some ⟨g,off,none⟩))))(ho:off=k0)(ht:tb s=some dd)(hdd:(match dd with|.st .. =>false|_=>true)=true)
    (hg:lk L gU=some (.gh [.slice (some ⟨g,0,none⟩) n m] [.own e n (cs.set k0 (.tok u2))])) (hk:k0 < cs.length) (k:K (Ct ((d,.tok u2)::L))):Hw P tb cns ⟨some d,.load s x,t,none⟩ (Ct L) K:=by
  subst ho
  have h1:dd.size=1:=by cases dd<;>first|rfl|cases hdd
  simp only[Hw,hc,ED,WF,ht,RS hx]
  refine⟨trivial,gU,g,_,e,n,m,_,rfl,.inr rfl,Da hg,by rw[h1,Bx];omega,by omega,?_⟩
  have:getCells dd (cs.set off (.tok u2)) off=.tok u2:=by
    cases dd<;>first|(simp only[getCells,List.getElem?_set_self hk];rfl)|cases hdd
  rw[this]
  exact k
theorem AeH{α:Type}{f:α->List V}{l:List α}{y0:α}{i:Int}{g off m n es:Nat}{e:TypeId}{c:V}{dd:TyD}{L0 L1:PL}{vc:List V}(o:Nat)(x':α)(S:List Nat)(hx:adO L x=some (.tok (.pointer (some ⟨g,off,none⟩))))(ho:off=i.toNat * es+o)(ht:tb s=some dd)
    (hg:lk L gS=some (.gh [.slice (some ⟨g,0,none⟩) n m] [.own e n (l.flatMap f)])) (hy:Rs L y=some c) (h0:(!(yT y).contains gS&& !S.contains gS)=true) (hvc:AaW (Ct L) y vc) (hn:(Nat.beq vc.length dd.size&&Nat.ble (o+dd.size) es)=true) (hk0:TF L y c=some L0) (hk:Ww L0 S=some L1)
    (hx':Om (f y0) o vc=f x') (z:∀x,(f x).length=es) (gy:AI l i=some y0) (hd:∀x,DQ (f x)=true) (hd':DQ vc=true) (hs:sfY L1) (k:K (Ct ((gS,.gh [.slice (some ⟨g,0,none⟩) n m] [.own e n ((Dl l i x').flatMap f)])::L1))):
    Hw P tb cns ⟨none,.store s x y,t,none⟩ (Ct L) K:=by
  simp only[Ac,AT]at h0 hn
  subst ho
  have e1:=D9 hy
  have hn1:vc.length=dd.size:=CJ hn.1
  have hn2:=nb hn.2
  have e0:Ct L0=CO (Ct L) y:=MX hy hk0
  obtain⟨g1,g2,g3⟩:=Be gy
  have hfl:i.toNat * es+o+dd.size<=(l.flatMap f).length:=by
    rw[Bf z]
    have:(i.toNat+1) * es<=l.length * es:=B3 _ (by omega)
    rw[CQ,DP]at this
    omega
  refine⟨rfl,?_⟩
  simp only[fv,ht,RS hx]
  refine⟨g,_,e,n,m,_,Rr L0 (gS::S),vc,rfl,Da hg,?_,hvc,hd',hn1,hfl,?_,λq hq=>?_,?_⟩
  · exact sdF hd l
  · rw[h0.1,CX]
    cases hc:(Rr L0 (gS::S)).contains gS with
    |false=>rfl
    |true=>exact absurd (BK) (Mk.1 hc).2
  · rw[<-e0]
    by_cases hD:(Rr L0 (gS::S)).contains q=true
    · exact .inl hD
    · right
      have e2:=XZ hk hq
      rcases RD (Rr L0 (gS::S)) (Ct L0) q with e3|e3
      · by_cases hm:q∈L0.map (·.1)
        · have hS:q∈S:=BW λh=>hD (Mk.2 ⟨hm,λh'=>(AC.1 h').elim hq h⟩)
          obtain⟨L',k1,k2⟩:=A4 hk
          obtain⟨_,k2⟩:=DA k2
          cases k2
          rw[Da ((Sm k1).1 q hS)]
          exact fo hs q
        · rw[UY hm];rfl
      · rw[<-e3,e2];exact fo hs q
  · rw[<-e0,l6 z gy (by rw[hn1];exact hn2) hx']
    have e4:upd (kill (Rr L0 (gS::S)) (Ct L0)) gS (.gh [.slice (some ⟨g,0,none⟩) n m] [.own e n ((Dl l i x').flatMap f)])=Ct ((gS,.gh [.slice (some ⟨g,0,none⟩) n m] [.own e n ((Dl l i x').flatMap f)])::L1):=by
      rw[Ed]
      funext q
      by_cases hq:q=gS
      · subst hq;rw[upd_same,upd_same]
      · rw[upd_ne _ _ hq,upd_ne _ _ hq];exact XZ hk hq
    rw[e4]
    exact k
theorem qSt{α:Type}{f:α->List V}{l:List α}{y0:α}{i:Int}{g off m n es:Nat}{e:TypeId}{c:V}{dd:TyD}{L0 L1:PL}(o:Nat)(x':α)(S:List Nat)(hx:adO L x=some (.tok (.pointer (some ⟨g,off,none⟩))))(ho:off=i.toNat * es+o)(ht:tb s=some dd)
    (hg:lk L gS=some (.gh [.slice (some ⟨g,0,none⟩) n m] [.own e n (l.flatMap f)])) (hy:Rs L y=some c) (h0:(c.isArg&&(!(yT y).contains gS&& !S.contains gS))=true) (hn:(Nat.beq (Hp c).length dd.size&&Nat.ble (o+dd.size) es)=true) (hk0:TF L y c=some L0) (hk:Ww L0 S=some L1)
    (hx':Om (f y0) o (Hp c)=f x') (z:∀x,(f x).length=es) (gy:AI l i=some y0) (hd:∀x,DQ (f x)=true) (hd':DQ (Hp c)=true) (hs:sfY L1) (k:K (Ct ((gS,.gh [.slice (some ⟨g,0,none⟩) n m] [.own e n ((Dl l i x').flatMap f)])::L1))):
    Hw P tb cns ⟨none,.store s x y,t,none⟩ (Ct L) K:=by
  rw[Ac]at h0
  exact AeH o x' S hx ho ht hg hy h0.2 (.inl ⟨by rw[D9 hy];exact h0.1,by rw[D9 hy]⟩) hn hk0 hk hx' z gy hd hd' hs k
section
variable {α:Type}{f:α->List V}{l:List α}{e:TypeId}
theorem gLs{q b:Nat}(hs:lk L b=some (.own e l.length (l.flatMap f)))(hq:lk L q=none)(hsq:Nat.beq b q=false)(hn:0 < l.length)
    (h:∀g m,K (Ct ((q,.gh [.slice (some ⟨g,0,none⟩) l.length m] [.own e l.length (l.flatMap f)])::(b,.tok (.slice (some ⟨g,0,none⟩) l.length m))::L))):Gh P nt bx (Ct L) K:=
  lq (Da hs) (by rw[P1,hq];rfl) (λe=>by rw[e]at hsq;simp at hsq) pH hn (λ_=>rfl) (λ_=>rfl) λg m=>O2 (h g m)
theorem gDs{q b n:Nat}{u:Value}(hs:lk L b=some (.tok u))(hq:lk L q=some (.gh [u] [.own e n (l.flatMap f)]))(hsq:Nat.beq b q=false)(hn:n=l.length)
    (h:K (Ct ((q,.undef)::(b,.own e l.length (l.flatMap f))::L))):Gh P nt bx (Ct L) K:=by
  subst hn
  exact lp (Da hs) (Da hq) (λe=>by rw[e]at hsq;simp at hsq) oF rfl rfl (O2 h)
variable {β:Type}{f2:β->List V}{l2:List β}{e2:TypeId}{n:Nat}{u1:Value}{y0:α}{i:Int}{es:Nat}
theorem gLg(o:Nat)(hs:lk L gU=some (.gh [u1] [.own e n (l.flatMap f)]))(hq:lk L gS=none)(z:∀x,(f x).length=es)(gy:AI l i=some y0)(ho:Nat.ble (o+1) es=true)(hv:(f y0)[o]? =some (.own e2 l2.length (l2.flatMap f2)))(hn:0 < l2.length)
    (h:∀g m,K (Ct ((gS,.gh [.slice (some ⟨g,0,none⟩) l2.length m] [.own e2 l2.length (l2.flatMap f2)])::(gU,.gh [u1] [.own e n ((l.flatMap f).set (i.toNat * es+o) (.tok (.slice (some ⟨g,0,none⟩) l2.length m)))])::L))):Gh P nt bx (Ct L) K:=by
  have hk:(l.flatMap f)[i.toNat * es+o]? =some (.own e2 l2.length (l2.flatMap f2)):=by
    obtain⟨g1,g2,g3⟩:=Be gy
    have e1:(l.flatMap f).drop (i.toNat * es)=f y0++(l.flatMap f).drop ((i.toNat+1) * es):=by
      rw[KZ z,KZ z]
      obtain⟨hlt,he⟩:=Ce.1 g3
      rw[AO hlt,he,Au]
    rw[<-Cz,e1,BE (by have:=z y0;have:=nb ho;omega),hv]
  exact lq (Da hs) (by rw[P1,hq];rfl) (by decide) (tQ hk) hn (λ_=>rfl) (λ_=>rfl) λg m=>O2 (h g m)
theorem gDg{u2:Value}{n2:Nat}(o:Nat)(x':α)(hs:lk L gU=some (.gh [u1] [.own e n ((l.flatMap f).set (i.toNat * es+o) (.tok u2))]))(hq:lk L gS=some (.gh [u2] [.own e2 n2 (l2.flatMap f2)]))(z:∀x,(f x).length=es)(gy:AI l i=some y0)(ho:Nat.ble (o+1) es=true)(hn:n2=l2.length)(hx:Om (f y0) o [.own e2 l2.length (l2.flatMap f2)]=f x')
    (h:K (Ct ((gS,.undef)::(gU,.gh [u1] [.own e n ((Dl l i x').flatMap f)])::L))):Gh P nt bx (Ct L) K:=by
  subst hn
  obtain⟨_,g2⟩:=get_at (dd:=.sc (.bool false)) z gy (o:=o) (nb ho) (Nat.zero_lt_one)
  have hlt:i.toNat * es+o < (l.flatMap f).length:=g2
  have hk:((l.flatMap f).set (i.toNat * es+o) (.tok u2))[i.toNat * es+o]? =some (.tok u2):=List.getElem?_set_self hlt
  refine lp (Da hs) (Da hq) (by decide) (s6 hk) rfl rfl (O2 ?_)
  have e1:((l.flatMap f).set (i.toNat * es+o) (.tok u2)).set (i.toNat * es+o) (.own e2 l2.length (l2.flatMap f2))=(Dl l i x').flatMap f:=by
    rw[List.set_set,<-l6 z gy (vs:=[.own e2 l2.length (l2.flatMap f2)]) (nb ho) hx]
    rw[D8,AH hlt]
    simp[Om]
  rw[e1]
  exact h
end
def Adl(S:List Nat):Operand->Bool
  |.tmp p=>S.contains p
  |.const (.int _ _)=>true
  |.const (.bool _)=>true
  |.const (.string _)=>true
  |_=>false
theorem kq(htb:H5 P tb){f:FuncId}{nt:Nat}{bx:List Nat}{rs:List ResultVar}{l:LC}{args:List V}{r:V}(hl:Lit P f nt bx rs l)(hlen:args.length<=nt)(hargs:args.all KK=true)(hr:kT r=true)(h:LS P nt bx l (HC (args.map ND)) (qU tb rs r)):Aw P f args r:=by
  obtain⟨⟨fn,c,h1,h2,h3,rfl,rfl,h6,h7⟩,hn,hL⟩:=hl
  exact nB htb h1 h2 h3 bx hlen hargs hr hn (h c h6 h7 hL)
end
theorem dcn:Cm []=true:=rfl
theorem Xu{c:V}{cs:List V}(h:deep c=true)(k:Cm cs=true):Cm (c::cs)=true:=by rw[Cm,h,k];rfl
theorem dcf{α:Type}{f:α->List V}(h:∀x,Cm (f x)=true)(l:List α):Cm (l.flatMap f)=true:=Xv.2 λc hc=>by
  obtain⟨a,_,hc⟩:=Cx.1 hc
  exact Xv.1 (h a) c hc
theorem dco{α:Type}{f:α->List V}(h:∀x,Cm (f x)=true)(e:TypeId)(l:List α):deep (.own e l.length (l.flatMap f))=true:=by rw[deep];exact dcf h l
theorem sgh{us:List Value}{e:TypeId}{n k:Nat}{cs:List V}{u:Value}(h:DQ cs=true):I5 (.gh us [.own e n (cs.set k (.tok u))])=true:=by
  show DQ [_]=true
  rw[DQ,Oq,Ac]
  refine⟨LZ.2 λc hc=>?_,rfl⟩
  rcases FW hc with h1|h1
  · exact LZ.1 h c h1
  · subst h1;rfl
theorem Xm:∀{cs:List V},Gu cs=true↔∀c∈cs,LF c=true
  |[]=>by simp[Gu]
  |c::cs=>by rw[Gu,Ac,Xm (cs:=cs)];simp
theorem acc{c:V}{cs:List V}(h:LF c=true)(k:Gu cs=true):Gu (c::cs)=true:=by rw[Gu,h,k];rfl
theorem acf{α:Type}{f:α->List V}(h:∀x,Gu (f x)=true)(l:List α):Gu (l.flatMap f)=true:=Xm.2 λc hc=>by
  obtain⟨a,_,hc⟩:=Cx.1 hc
  exact Xm.1 (h a) c hc
theorem aca{α:Type}{f:α->List V}(h:∀x,Gu (f x)=true)(l:List α):LF (.arg l.length (l.flatMap f))=true:=by rw[LF];exact acf h l
theorem sA{c:V}(h:LF c=true):PC c=true:=rC h
theorem snc{c:V}{cs:List V}(h:PC c=true)(k:cs.all PC=true):(c::cs).all PC=true:=by rw[Bp,h,k];rfl
theorem bcc{c:V}{cs:List V}(h:UI c=true)(k:EG cs=true):EG (c::cs)=true:=by rw[EG,h,k];rfl
theorem vag{cs cs':List V}(h:Mq cs=cs'):ND (.agg cs)=.agg cs':=by rw[ND,h]
theorem ZE{c:V}{cs:List V}(h:KK c=true)(k:cs.all KK=true):(c::cs).all KK=true:=by rw[Bp,h,k];rfl
theorem mvv{c c':V}{cs cs':List V}(h:ND c=c')(k:cs.map ND=cs'):(c::cs).map ND=c'::cs':=by rw[AB,h,k]
theorem vcc{c c':V}{cs cs':List V}(h:ND c=c')(k:Mq cs=cs'):Mq (c::cs)=c'::cs':=by rw[Mq,h,k]
theorem cr:∀(a b:List V),Mq (a++b)=Mq a++Mq b
  |[],_=>rfl
  |c::a,b=>by rw[BT,Mq,Mq,cr a b,BT]
theorem ZN{α:Type}{f g:α->List V}(h:∀x,Mq (f x)=g x):∀l:List α,Mq (l.flatMap f)=l.flatMap g
  |[]=>rfl
  |x::l=>by rw[Au,Au,cr,h,ZN h l]
theorem ZK{α:Type}{f g:α->List V}(h:∀x,Mq (f x)=g x)(l:List α):ND (.dat l.length (l.flatMap f))=.arg l.length (l.flatMap g):=by rw[ND,ZN h]
theorem fK:∀{a b:List V},EG a=true->EG b=true->EG (a++b)=true
  |[],_,_,h=>h
  |c::a,b,h,k=>by
    rw[EG,Ac]at h
    rw[BT,EG,h.1,fK h.2 k];rfl
theorem co{α:Type}{f:α->List V}(h:∀x,EG (f x)=true):∀l:List α,EG (l.flatMap f)=true
  |[]=>rfl
  |x::l=>by rw[Au];exact fK (h x) (co h l)
theorem TQ{α:Type}{f:α->List V}(h:∀x,EG (f x)=true)(l:List α):UI (.dat l.length (l.flatMap f))=true:=co h l
end Go.Proofs.YtaagdgjndpgdgaaGreatDoor
namespace Go.Proofs.YtaagdgjndpgdgaaGreatDoor
mutual
def frz:V->V
  |.own _ n cs=>.arg n (XF cs)
  |.dat n cs=>.dat n cs
  |.arg n cs=>.arg n cs
  |.pin u n cs=>.pin u n cs
  |.int k n=>.int k n
  |.bool b=>.bool b
  |.str s=>.str s
  |.fn f=>.fn f
  |.tok u=>.tok u
  |_=>.undef
def XF:List V->List V
  |[]=>[]
  |c::cs=>frz c::XF cs
end
theorem gH{cs:List V}(h:cs=[]):XF cs=[]:=by subst h;rfl
section
variable {P:Program}{w:World}{St St':Nat->Nat->Prop}
mutual
theorem Ow.frz(hs:∀b o,St b o->St' b o):∀(c:V) {v:Value}{bs:List Nat},Ow P w St c v bs->c.Do=true->(∀g∈bs,∀o,St' g o)->Rd w St' (frz c) v
  |.int _ _,_,_,h,_,_=>h.2
  |.bool _,_,_,h,_,_=>h.2
  |.str _,_,_,h,_,_=>h.2
  |.dat n cs,_,_,h,_,_=>Rd.mono hs (λ_ _ _=>rfl) (.dat n cs) h.2
  |.arg n cs,_,_,h,_,_=>Rd.mono hs (λ_ _ _=>rfl) (.arg n cs) h.2
  |.pin u n cs,_,_,h,_,_=>Rd.mono hs (λ_ _ _=>rfl) (.pin u n cs) h.2
  |.own e n cs,v,bs,⟨hn,xs,bs',h1,h2,h3,h4,h5⟩,_,hg=>by
    have hl:=h1.1
    rcases h1.2 with⟨rfl,rfl⟩|⟨g,cap,cur,rfl,hg1,hh,hc,hm,hsz,hx⟩
    · exact⟨Bd hn,none,0,rfl,AW _,λh=>absurd h (by omega),λhz=>gH (h5 hz)⟩
    · have hgo:=hg g (by rw[h3];simp[Value.ownBlock])
      refine⟨Bd hn,_,cap,rfl,hc,λ_=>⟨g,0,rfl,λ_=>hgo,?_⟩,λhz=>gH (h5 hz)⟩
      refine Bb.frz hs cs 0 h2 hgo (λj u hu=>?_) (λg' hg'=>hg g' (by rw[h3];exact Av _ hg'))
      have hj:j < n * TG P e:=by
        rw[<-hl]
        rcases A8 j xs.length with h|h
        · exact h
        · rw[Bt h]at hu;cases hu
      rw[B6]
      simp only[World.cell?,hh]
      rw[<-hx,Dv,AH hj]at hu
      simpa using hu
  |.agg _,_,_,_,h,_=>by cases h
  |.tup _,_,_,_,h,_=>by cases h
  |.box _,_,_,h,_,_=>h.elim
  |.uni _ _ _,_,_,h,_,_=>h.elim
  |.same _,_,_,h,_,_=>h.elim
  |.val _ _,_,_,h,_,_=>h.elim
  |.cref _ _,_,_,h,_,_=>h.elim
  |.adr _ _,_,_,h,_,_=>h.elim
  |.gh _ _,_,_,h,_,_=>h.elim
  |.fn _,_,_,h,_,_=>h.2
  |.tok _,_,_,h,_,_=>h.2
  |.undef,_,_,h,_,_=>h.elim
theorem Bb.frz(hs:∀b o,St b o->St' b o){g:Nat}:∀(cs:List V) (off:Nat) {us:List Value}{bs:List Nat},Bb P w St cs us bs->(∀o,St' g o)->(∀(j:Nat) (u:Value),us[j]? =some u->w.cell? ⟨g,off+j,none⟩=some u)->(∀g∈bs,∀o,St' g o)->De w St' g off (XF cs)
  |[],_,_,_,_,_,_,_=>trivial
  |c::cs,off,_,_,⟨u,us',b1,b2,e1,e2,hc,h1,h2⟩,hgo,hu,hg=>by
    have h0:=hu 0 u (by rw[e1];rfl)
    refine⟨⟨hgo off,u,by simpa using h0,Ow.frz hs c h1 hc (λg' hg'=>hg g' (by rw[e2];exact AA _ hg'))⟩,Bb.frz hs cs (off+1) h2 hgo (λj x hx=>?_) (λg' hg'=>hg g' (by rw[e2];exact Av _ hg'))⟩
    have:=hu (j+1) x (by rw[e1];simpa using hx)
    rw[show off+1+j=off+(j+1)by omega];exact this
end
end
def Abf(P:Program)(c c':V):Prop:=
  ∀w St (t:Nat->Value) v bs,Cd P w St t c v bs->bs.Nodup->∃fb b1:List Nat,(∀g∈fb,g∈bs)∧(∀g∈b1,g∈bs)∧b1.Nodup∧Cd P w (λb o=>St b o∨b∈fb) t c' v b1
section
variable {P:Program}{w:World}{St St':Nat->Nat->Prop}
end
section
variable {P:Program}{nt:Nat}{bx:List Nat}{σ:PS}{K:PS->Prop}
theorem th{e:TypeId}{n:Nat}{cs:List V}:Abf P (.own e n cs) (.arg n (XF cs)):=λw St t v bs h hn=>
  ⟨bs,[],λ_ h=>h,λ_ h=>(by cases h),AF,⟨rfl,Ow.frz (λ_ _ h=>.inl h) (.own e n cs) h rfl (λg hg o=>.inr hg)⟩⟩
theorem o6{s:Nat}{c c':V}(hs:σ s=c)(F:Abf P c c')(hb:(CU c').isSome=(CU c).isSome)(hrf:DK c'=none)
    (h:Gh P nt bx (upd σ s c') K):Gh P nt bx σ K:=by
  rintro base St0 w0 a w ⟨St,B,hS,r1,r2,r3⟩
  have h1:=hS.slot s
  rw[hs]at h1
  obtain⟨fb,b1,q1,q2,q3,q4⟩:=F w St (tm a) (tm a s) (B s) h1 (hS.nodup s)
  have hB:∀r,r≠s->upd B s b1 r=B r:=λr e=>upd_ne _ _ e
  have hσ:∀r,r≠s->upd σ s c' r=σ r:=λr e=>upd_ne _ _ e
  have hin:∀r,∀g∈upd B s b1 r,g∈B r:=λr g hg=>by
    by_cases e:r=s
    · subst e;rw[upd_same]at hg;exact q2 g hg
    · rw[hB r e]at hg;exact hg
  refine h base St0 w0 a w ⟨λb o=>St b o∨b∈fb,upd B s b1,{hS with
    slot:=λr=>?_
    boxes:=λr cs e=>?_
    crefs:=λr b e=>?_
    nodup:=λr=>?_
    apart:=λr t hrt g hg hg2=>hS.apart r t hrt g (hin r g hg) (hin t g hg2)
    hapart:=λr g hg=>hS.hapart r g (hin r g hg)
    range:=λr g hg=>hS.range r g (hin r g hg)
    st:=λb o hbo=>hbo.elim (hS.st b o) (λhf=>(hS.range s b (q1 b hf)).2)
    gl:=hS.gl.of (λb hb o=>.inl (hb o)) (λ_ _ _=>rfl)},r1,λb o hbb=>⟨λhbo=>hbo.elim (r2 b o hbb).1 (λhf=>absurd hbb (hS.range s b (q1 b hf)).1),λh0=>.inl ((r2 b o hbb).2 h0)⟩,r3⟩
  · by_cases e:r=s
    · subst e;rw[upd_same,upd_same];exact q4
    · rw[hσ r e,hB r e]
      exact(hS.slot r).mono (λ_ _ h=>.inl h) (λ_ _ _=>rfl) (λg hg=>⟨rfl,λo=>⟨λh=>h.elim id (λhf=>absurd (q1 g hf) (hS.apart r s e g hg)),.inl⟩⟩) (λ_ _=>rfl)
  · by_cases e1:r=s
    · subst e1
      rw[upd_same]at e
      rw[e]at hb
      cases hx:CU c with
      |none=>rw[hx]at hb;cases hb
      |some ds=>exact hS.boxes r ds (by rw[hs];exact hx)
    · rw[hσ r e1]at e;exact hS.boxes r cs e
  · by_cases e1:r=s
    · subst e1;rw[upd_same,hrf]at e;cases e
    · rw[hσ r e1]at e
      obtain⟨cs,hc⟩:=hS.crefs r b e
      by_cases e2:b=s
      · subst e2
        rw[hs]at hc
        rw[upd_same]
        cases hx:CU c' with
        |none=>rw[hx,hc]at hb;cases hb
        |some ds=>exact⟨ds,rfl⟩
      · exact⟨cs,by rw[hσ b e2];exact hc⟩
  · by_cases e:r=s
    · subst e;rw[upd_same];exact q3
    · rw[hB r e];exact hS.nodup r
end
theorem gG:∀(a b:List V),XF (a++b)=XF a++XF b
  |[],b=>rfl
  |c::a,b=>by rw[BT,XF,XF,gG a b,BT]
theorem cC{α:Type}{f g:α->List V}(h:∀x,XF (f x)=g x):∀l:List α,XF (l.flatMap f)=l.flatMap g
  |[]=>rfl
  |x::l=>by rw[Au,Au,gG,h,cC h l]
section
variable {P:Program}{nt:Nat}{bx:List Nat}{K:PS->Prop}{L:PL}{α:Type}{f g:α->List V}{l:List α}{e:TypeId}
theorem gFs{b:Nat}(hs:lk L b=some (.own e l.length (l.flatMap f)))(hf:∀x,XF (f x)=g x)
    (h:K (Ct ((b,.arg l.length (l.flatMap g))::L))):Gh P nt bx (Ct L) K:=by
  rw[<-cC hf l]at h
  exact o6 (Da hs) th rfl rfl (O2 h)
end
end Go.Proofs.YtaagdgjndpgdgaaGreatDoor
