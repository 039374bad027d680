/- A machine on data, part 2: code, the rules of the printed walks, loops. Over no program; no conditions. -/
import Derived.Test.YtdmpnamllcigdaaGreatDoorKq
open Go.RowKit
set_option linter.all false
namespace Go.Proofs.YtdmpnamllcigdaaGreatDoor
section
def p2{α β:Type}{a a':α}{b b':β}(h:(a,b)=(a',b')):a=a'∧b=b':=Prod.mk.inj h
section
variable {P:Program}{tb:Tb}{cns:zN}{σ:PS}{K:PS->Prop}{d s t:Nat}{x y z:Operand}
def EN{op:Op}{q:Nat}{e b:Bool}(g:e=b)(h:(gOp cns d op,σ q)=(true,.bool e))(k:Hb P tb cns ⟨some d,op,t,none⟩ σ K):Hb P tb cns ⟨some d,op,t,some (some q,b)⟩ σ K:=by subst g;obtain⟨a,c⟩:=p2 h;exact Aj3 a c k
def ed{o:LO}{os R W fps}(h:(bm R W o.op σ,adB cns R o σ)=(true,true))(k:Hb P tb cns o σ (λσ'=>cX P tb cns fps os σ' K)):cX P tb cns ((R,W)::fps) (o::os) σ K:=evd (p2 h).1 (p2 h).2 k
end
def vA(σ:PS):List (Nat×V)->List V
  |[]=>[]
  |(s,_)::L=>σ s::vA σ L
def vB:List (Nat×V)->List V
  |[]=>[]
  |(_,c)::L=>c::vB L
def AX{σ}:∀{L:List (Nat×V)},vA σ L=vB L->jp σ L
  |[],_=>trivial
  |(s,c)::L,h=>by
    injection h with h1 h2
    exact⟨h1 ▸ kr,AX h2⟩
section
variable {P:Program}{nt:Nat}{bx:zN}{σ:PS}{Q:Exit->PS->Prop}{tb:Tb}{cns:zN}
def kp{l}(L:List (Nat×V))(a:vA σ L=vB L)(b:okR L=true)(h:LS P nt bx l (Cz L) Q):LS P nt bx l σ Q:=P5 L (AX a) b h
end
end
section
abbrev PL:=List<|Nat×V
def W9{α:Type}(b:Bool)(x:Option α):Option α:=match b with
  |true=>x
  |false=>none
def Em{α:Type}{b:Bool}{x:Option α}{r:α}(h:W9 b x=some r):b=true∧x=some r:=by
  cases b with
  |true=>exact⟨rfl,h⟩
  |false=>cases h
def Ae5:V->Option V
  |.int k n=>some<|.int k n
  |.bool b=>some<|.bool b
  |.str s=>some<|.str s
  |.own e n cs=>some<|.own e n cs
  |.dat n cs=>some<|.dat n cs
  |.arg n cs=>some<|.arg n cs
  |.pin u n cs=>some<|.pin u n cs
  |.fn f=>some<|.fn f
  |.tok u=>some<|.tok u
  |_=>none
def mP:List V->Option (List V)
  |[]=>some []
  |c::cs=>Aa (Ae5 c) λa=>Aa (mP cs) λas=>some<|a::as
def Ae6:V->Option V
  |.agg cs=>Aa (mP cs) λas=>some<|.agg as
  |c=>Ae5 c
def wy:List V->Option (List V)
  |[]=>some []
  |c::cs=>Aa (Ae6 c) λa=>Aa (wy cs) λas=>some<|a::as
def bi:V->Option V
  |.tup cs=>Aa (wy cs) λas=>some<|.tup as
  |.box cs=>Aa (mP cs) λas=>some<|.box as
  |.cref s o=>some<|.cref s o
  |.adr cs o=>some<|.adr cs o
  |.same s=>some<|.same s
  |.val s u=>some<|.val s u
  |.uni e n cs=>some<|.uni e n cs
  |c=>Ae6 c
def rM{c d}(h:Ae5 c=some d):d=c:=by cases c<;>first|(cases h;rfl)|cases h
def dR:∀{cs ds:List V},mP cs=some ds->ds=cs
  |[],_,h=>by cases h;rfl
  |c::cs,_,h=>by rw[mP]at h;have⟨a,b,h⟩:=Bc h;have⟨e,d,h⟩:=Bc h;cases h;rw[rM b,dR d]
def rN{c d}(h:Ae6 c=some d):d=c:=by
  cases c with
  |agg cs=>have⟨b,a,h⟩:=Bc<|show Aa (mP cs) _=_ from h;cases h;rw[dR a]
  |_=>exact rM h
def rO:∀{cs ds:List V},wy cs=some ds->ds=cs
  |[],_,h=>by cases h;rfl
  |c::cs,_,h=>by rw[wy]at h;have⟨a,b,h⟩:=Bc h;have⟨e,d,h⟩:=Bc h;cases h;rw[rN b,rO d]
def IJ{c d}(h:bi c=some d):d=c:=by
  cases c with
  |tup cs=>have⟨b,a,h⟩:=Bc<|show Aa (wy cs) _=_ from h;cases h;rw[rO a]
  |box cs=>have⟨b,a,h⟩:=Bc<|show Aa (mP cs) _=_ from h;cases h;rw[dR a]
  |cref s o=>cases h;rfl
  |adr s o=>cases h;rfl
  |same s=>cases h;rfl
  |val s u=>cases h;rfl
  |uni e n cs=>cases h;rfl
  |_=>exact rN h
def lk:PL->Nat->Option V
  |[],_=>none
  |(s,c)::L,q=>match Nat.beq q s with
    |true=>some c
    |false=>lk L q
def EY(s:Nat)(c:V)(L:PL):Cz ((s,c)::L)=upd (Cz L) s c:=rfl
def Rj:∀(L:PL) (q:Nat),Cz L q=(lk L q).getD .undef
  |[],_=>rfl
  |(s,c)::L,q=>by
    rw[lk,EY];cases h:Nat.beq q s with
    |true=>rw[CU h,upd_same];rfl
    |false=>rw[upd_ne _ _ (Nat.ne_of_beq_eq_false h)];exact Rj L q
def C6{L q c}(h:lk L q=some c):Cz L q=c:=by rw[Rj,h];rfl
def Tw(L:PL):Operand->Option V
  |.tmp s=>lk L s
  |.const v=>bi<|cV v
  |.func f=>some<|.fn f
  |_=>none
def Es{L x c}(h:Tw L x=some c):CP (Cz L) x=c:=by
  cases x with
  |tmp s=>exact C6 h
  |const v=>exact(IJ h).symm
  |func f=>cases h;rfl
  |_=>cases h
def adO(L:PL):Operand->Option V
  |.tmp s=>Aa (lk L s) λc=>match c with
    |.box _=>some<|.cref s 0
    |c=>some c
  |.global g=>bi<|nf g
  |_=>none
def S6{L x c}(h:adO L x=some c):Oa (Cz L) x=c:=by
  cases x with
  |tmp s=>
    have⟨a,b,h⟩:=Bc<|show Aa (lk L s) _=_ from h
    have:=C6 b;simp only[Oa,this];cases a<;>(cases h;rfl)
  |global g=>exact(IJ h).symm
  |_=>cases h
def AbK:V->Bool
  |.own .. =>true
  |_=>false
def AbM:V->Bool
  |.agg cs=>cs.any AbK
  |c=>AbK c
def AlU:V->Bool
  |.tup cs=>cs.any AbM
  |c=>AbM c
def AbL{c}(h:AbK c=false):WS c=c:=by cases c<;>first|rfl|cases h
def nD:∀{cs:List V},cs.any AbK=false->cs.map WS=cs
  |[],_=>rfl
  |c::cs,h=>by rw[G1,BN]at h;rw[AP,AbL h.1,nD h.2]
def sN{c}(h:AbM c=false):dg2 c=c:=by
  cases c with
  |agg cs=>rw[dg2,nD h]
  |_=>first|rfl|cases h
def nE:∀{cs:List V},cs.any AbM=false->cs.map dg2=cs
  |[],_=>rfl
  |c::cs,h=>by rw[G1,BN]at h;rw[AP,sN h.1,nE h.2]
def Ah9{c}(h:AlU c=false):dg c=c:=by
  cases c with
  |tup cs=>rw[dg,nE h]
  |agg cs=>exact sN (c:=.agg cs) h
  |_=>first|rfl|cases h
def oB(σ:PS)(s:Nat):upd σ s (σ s)=σ:=by
  funext q;by_cases e:q=s
  · rw[e,upd_same]
  · rw[upd_ne _ _ e]
def Vk(L:PL)(x:Operand)(c:V):Option PL:=match x with
  |.tmp s=>match AlU c with
    |false=>some L
    |true=>Aa (bi<|dg c) λc'=>some<|(s,c')::L
  |_=>some L
def PV{L L' x c}(h:Tw L x=some c)(a:Vk L x c=some L'):Cz L'=DB (Cz L) x:=by
  cases x with
  |tmp s=>
    have e:=C6 h;simp only[Vk,DB]at a⊢;split at a
    · rename_i b;cases a;rw[e,Ah9 b,<-e,oB]
    · have⟨c',d,a⟩:=Bc a;cases a;rw[IJ d,EY,e]
  |_=>cases a;rfl
def mvO(L:PL):Operand->Option V
  |.tmp s=>Aa (lk L s) λc=>match c with
    |.uni _ _ _=>some<|.same s
    |.same b=>some<|.same b
    |.box _=>some<|.cref s 0
    |.cref b o=>some<|.cref b o
    |c=>W9 c.isVal<|bi<|dg c
  |.const v=>Aa (bi<|cV v) λc=>W9 c.isVal<|bi<|dg c
  |_=>none
def dU:Option TyD->Bool
  |some (.sc<|.bool false)=>true
  |_=>false
def kEq:IntKind->IntKind->Bool
  |.i64,.i64=>true
  |.u8,.u8=>true
  |k,a=>decide (k=a)
def kW{k k'}(h:kEq k k'=true):k=k':=by cases k<;>cases k'<;>first|rfl|cases h
def AcD(d:Option TyD):List V->List V->Bool
  |[.int k _,.int l _],[.int a _,.int b _]=>kEq k a&&(kEq l b&&d.elim false TyD.two)
  |_,_=>false
def AcE{d a b}(h:AcD d a b=true):AcF d a b:=by
  unfold AcD at h;split at h
  · rw[Ab,Ab]at h;exact⟨kW h.1,kW h.2.1,h.2.2⟩
  · cases h
def Aad(d:Option TyD):BinOp->V->V->Bool
  |.shl,.int _ _,.int _ b=>decide (0<=b)
  |.shr,.int _ _,.int _ b=>decide (0<=b)
  |.quo,.int k _,.int c b=>kEq k c&& !decide (b=0)
  |.rem,.int k _,.int c b=>kEq k c&& !decide (b=0)
  |_,.int k _,.int c _=>kEq k c
  |.eql,.str _,.str _=>true
  |.neq,.str _,.str _=>true
  |.lss,.str _,.str _=>true
  |.leq,.str _,.str _=>true
  |.gtr,.str _,.str _=>true
  |.geq,.str _,.str _=>true
  |.eql,.agg a,.agg b=>AcD d a b
  |.neq,.agg a,.agg b=>AcD d a b
  |.eql,.bool _,.bool _=>dU d
  |.neq,.bool _,.bool _=>dU d
  |_,_,_=>false
def unB:UnOp->V->Bool
  |.not,.bool _=>true
  |.neg,.int _ _=>true
  |_,_=>false
def cvB(tb:Tb)(s d:TypeId)(x:V):Option V:=match tb s,tb d,x with
  |some _,some (.sc<|.int k _),.int _ n=>some<|.int k<|k.wrap n
  |_,_,_=>none
def bxL(L:PL)(s:Nat):Option (List V):=Aa (lk L s) DC
def xx(tb:Tb)(L:PL)(t:TypeId)(x:Operand):Option V:=Aa (tb t) λd=>Aa (adO L x) λc=>match c with
  |.cref s off=>Aa (bxL L s) λcs=>W9 (Nat.ble (off+d.size) cs.length)<|bi<|getCells d cs off
  |.adr cs off=>W9 (Nat.ble (off+d.size) cs.length)<|bi<|getCells d cs off
  |_=>none
def ptF(k:Nat):Value->Option V
  |.pointer (some ⟨g,o,none⟩)=>some<|.tok<|.pointer<|some ⟨g,o+k,none⟩
  |_=>none
def Aid{k u v}(h:ptF k u=some v):Abb u=true∧tokF k u=v:=by
  unfold ptF at h;split at h
  · cases h;exact⟨rfl,rfl⟩
  · cases h
def faO(tb:Tb)(L:PL)(t:TypeId)(x:Operand)(f:Nat):Option V:=Aa (tb t) λd=>match d with
  |.st _ _ a=>Aa (a[f]?) λp=>Aa (adO L x) λc=>match c with
    |.cref s o=>Aa (bxL L s) λ_=>some<|.cref s<|o+p.1
    |.adr cs o=>some<|.adr cs<|o+p.1
    |.tok u=>ptF p.1 u
    |_=>none
  |_=>none
def AlP(L:PL)(x:Operand):Option V:=Aa (adO L x) λc=>match c with
  |.cref s o=>Aa (bxL L s) λ_=>some<|.cref s o
  |.adr cs o=>some<|.adr cs o
  |_=>none
def co:Option TyD->Bool
  |some (.sc<|.str [])=>true
  |_=>false
def m6:Option TyD->Bool
  |some (.sl ..)=>true
  |_=>false
def AkL(L:PL)(d:Option TyD):V->Option V
  |.str s=>W9 (co d)<|some<|.int .i64 s.length
  |.same b=>Aa (lk L b) λc=>match c with
    |.uni _ n _=>W9 (m6 d)<|some<|.int .i64 n
    |_=>none
  |c=>Aa (Mz c) λp=>W9 (m6 d)<|some<|.int .i64 p.1
def mq(tb:Tb)(L:PL):Callee->List Operand->List TypeId->Option V
  |.builtin .len,[x],[t]=>Aa (Tw L x)<|AkL L<|tb t
  |.builtin .max,[x,y],_=>Aa (Tw L x) λa=>Aa (Tw L y) λb=>match a,b with
    |.int k a,.int _ b=>some<|.int k (if a < b then b else a)
    |_,_=>none
  |.builtin .min,[x,y],_=>Aa (Tw L x) λa=>Aa (Tw L y) λb=>match a,b with
    |.int k a,.int _ b=>some<|.int k (if b < a then b else a)
    |_,_=>none
  |_,_,_=>none
def nR(tb:Tb)(L:PL):Op->Option V
  |.move x=>mvO L x
  |.pick c a b=>Aa (Tw L c) λq=>match q with
    |.bool e=>match e with
      |true=>Aa (Tw L a) λc=>W9 c.isVal<|bi<|dg c
      |false=>Aa (Tw L b) λc=>W9 c.isVal<|bi<|dg c
    |_=>none
  |.binOp op t x y _=>Aa (Tw L x) λa=>Aa (Tw L y) λb=>W9 (Aad (tb t) op a b)<|bi<|oT op a b
  |.unOp op _ x=>Aa (Tw L x) λa=>W9 (unB op a)<|bi<|unV op a
  |.convert s d x=>Aa (Tw L x) λa=>cvB tb s d a
  |.load t x=>xx tb L t x
  |.fieldAddr t x f=>faO tb L t x f
  |.call c=>mq tb L c.callee c.args.toList c.argTypes.toList
  |_=>none
def pz{d}(h:dU d=true):d=some (.sc<|.bool false):=by
  unfold dU at h;split at h
  · rfl
  · cases h
def cr{d}(h:co d=true):d=some (.sc<|.str []):=by
  unfold co at h;split at h
  · rfl
  · cases h
def m7{d}(h:m6 d=true):∃e es a b,d=some (.sl e es a b):=by
  unfold m6 at h;split at h
  · exact⟨_,_,_,_,rfl⟩
  · cases h
def Aae{d op a b}(h:Aad d op a b=true):ka d op a b:=by cases a<;>cases b<;>cases op<;>first|(cases h;done)|exact trivial|exact pz h|exact kW h|exact AcE h|(simp only[Aad,AN]at h;exact h)|(simp only[Aad,Ab,At,C1]at h;exact⟨kW h.1,h.2⟩)
def AiM{op a}(h:unB op a=true):unC op a:=by cases a<;>cases op<;>first|(cases h;done)|exact trivial
def AiR{σ:PS}{s:Nat}{c:V}(e:σ s=c)(h:c.isVal=true):mvC σ (.tmp s)∧mvV σ (.tmp s)=dg c:=by subst e;simp only[mvC,mvV];cases a:σ s<;>rw[a]at h<;>first|(cases h;done)|exact⟨h,rfl⟩
def xM{L:PL}{x:Operand}{v:V}(h:mvO L x=some v):mvC (Cz L) x∧mvV (Cz L) x=v:=by
  cases x with
  |tmp s=>
    obtain⟨c,d,h⟩:=Bc<|show Aa (lk L s) _=_ from h
    have e:=C6 d;cases c with
    |uni a b c=>cases h;simp only[mvC,mvV,e];exact⟨trivial,trivial⟩
    |same b=>cases h;simp only[mvC,mvV,e];exact⟨trivial,trivial⟩
    |box b=>cases h;simp only[mvC,mvV,e];exact⟨trivial,trivial⟩
    |cref b o=>cases h;simp only[mvC,mvV,e];exact⟨trivial,trivial⟩
    |_=>obtain⟨f,g⟩:=Em h;obtain⟨i,j⟩:=AiR e f;exact⟨i,j.trans (IJ g).symm⟩
  |const c=>
    obtain⟨c,d,h⟩:=Bc<|show Aa (bi<|cV c) _=_ from h
    obtain⟨f,g⟩:=Em h;have e:=IJ d;subst e;exact⟨f,(IJ g).symm⟩
  |_=>cases h
def nh{tb:Tb}{L:PL}{t:TypeId}{x:Operand}{v:V}(h:xx tb L t x=some v):Ww (tb t) (Cz L) (Oa (Cz L) x)∧Wx (tb t) (Cz L) (Oa (Cz L) x)=v:=by
  obtain⟨d,b,h⟩:=Bc h;obtain⟨c,e,h⟩:=Bc h;rw[b,S6 e];simp only[Ww,Wx];cases c with
  |cref s off=>obtain⟨cs,f,h⟩:=Bc h;obtain⟨a,h⟩:=Em h;obtain⟨c,g,i⟩:=Bc f;have:=C6 g;simp only[XH,ax,this,i];exact⟨nb a,(IJ h).symm⟩
  |adr cs off=>obtain⟨a,h⟩:=Em h;exact⟨nb a,(IJ h).symm⟩
  |_=>cases h
def wq{tb L t x f v}(h:faO tb L t x f=some v):mJ (tb t) f (Cz L) (Oa (Cz L) x)∧wr (tb t) f (Oa (Cz L) x)=v:=by
  have⟨d,a,h⟩:=Bc h;cases d with
  |st n z k=>
    have⟨p,b,h⟩:=Bc h;have⟨c,e,h⟩:=Bc h;rw[a,S6 e];simp only[mJ,wr,b];cases c with
    |cref s o=>have⟨cs,g,h⟩:=Bc h;have⟨c,i,j⟩:=Bc g;cases h;have:=C6 i;exact⟨⟨cs,by rw[this,j]⟩,rfl⟩
    |adr cs o=>cases h;exact⟨trivial,rfl⟩
    |tok u=>exact Aid h
    |_=>cases h
  |_=>cases h
def Abu{L x v}(h:AlP L x=some v):faC (Cz L) (Oa (Cz L) x)∧Oa (Cz L) x=v:=by
  have⟨c,a,h⟩:=Bc h;rw[S6 a];cases c with
  |cref s o=>have⟨cs,b,h⟩:=Bc h;have⟨c,d,e⟩:=Bc b;cases h;have:=C6 d;exact⟨⟨cs,by rw[this,e]⟩,rfl⟩
  |adr cs o=>cases h;exact⟨trivial,rfl⟩
  |_=>cases h
def kZ{L:PL}{d:Option TyD}{c v:V}{n:Nat}{cs:List V}(e:Mz c=some (n,cs))(h:W9 (m6 d) (some<|V.int .i64 n)=some v):Za d (Cz L) c∧iC (Cz L) c=v:=by obtain⟨f,h⟩:=Em h;obtain⟨a,b,z,q,rfl⟩:=m7 f;cases h;cases c<;>first|(cases e;done)|(cases e;exact⟨trivial,rfl⟩)
def Abc{L:PL}{d:Option TyD}{c v:V}(h:AkL L d c=some v):Za d (Cz L) c∧iC (Cz L) c=v:=by
  cases c with
  |str s=>
    obtain⟨f,h⟩:=Em<|show W9 (co d) _=_ from h
    cases h;exact⟨cr f,rfl⟩
  |same b=>
    obtain⟨c,f,h⟩:=Bc<|show Aa (lk L b) _=_ from h
    have:=C6 f;cases c with
    |uni e n cs=>obtain⟨g,h⟩:=Em h;obtain⟨a,b,c,z,rfl⟩:=m7 g;cases h;simp only[Za,iC,this];exact⟨trivial,trivial⟩
    |_=>cases h
  |own e n cs=>exact kZ rfl h
  |dat n cs=>exact kZ rfl h
  |arg n cs=>exact kZ rfl h
  |pin u n cs=>exact kZ rfl h
  |_=>cases h
def eW{tb L c xs ts v}(h:mq tb L c xs ts=some v):UB tb (Cz L) c xs ts∧Rr (Cz L) c xs=v:=by
  unfold mq at h;split at h
  · have⟨a,d,h⟩:=Bc h;simp only[UB,Rr,Es d];exact Abc h
  · have⟨a,d,h⟩:=Bc h;have⟨b,e,h⟩:=Bc h;simp only[UB,Rr,Es d,Es e];split at h
    · cases h;exact⟨trivial,rfl⟩
    · cases h
  · have⟨a,d,h⟩:=Bc h;have⟨b,e,h⟩:=Bc h;simp only[UB,Rr,Es d,Es e];split at h
    · cases h;exact⟨trivial,rfl⟩
    · cases h
  · cases h
def aK{tb:Tb}{L:PL}{op:Op}{v:V}(h:nR tb L op=some v):pc tb (Cz L) op∧pv tb (Cz L) op=v:=by
  cases op with
  |move x=>exact xM h
  |pick c a b=>
    obtain⟨q,i,h⟩:=Bc<|show Aa (Tw L c) _=_ from h
    simp only[pc,pv,Es i];cases q with
    |bool e=>
      cases e with
      |true=>obtain⟨c,j,h⟩:=Bc h;obtain⟨g,h⟩:=Em h;simp only[gv,gw,Es j,FB];exact⟨g,(IJ h).symm⟩
      |false=>obtain⟨c,j,h⟩:=Bc h;obtain⟨g,h⟩:=Em h;simp only[gv,gw,Es j,CD,Ed];exact⟨g,(IJ h).symm⟩
    |_=>cases h
  |binOp op t x y k=>
    obtain⟨a,i,h⟩:=Bc<|show Aa (Tw L x) _=_ from h
    obtain⟨b,j,h⟩:=Bc h;obtain⟨g,h⟩:=Em h;simp only[pc,pv,Es i,Es j];exact⟨Aae g,(IJ h).symm⟩
  |unOp op t x=>
    obtain⟨a,i,h⟩:=Bc<|show Aa (Tw L x) _=_ from h
    obtain⟨g,h⟩:=Em h;simp only[pc,pv,Es i];exact⟨AiM g,(IJ h).symm⟩
  |convert s d x=>
    obtain⟨a,i,h⟩:=Bc<|show Aa (Tw L x) _=_ from h
    simp only[pc,pv,Es i];unfold cvB at h;split at h
    · rename_i j g;cases h;simp only[eZ,iW,j,g];exact⟨trivial,trivial⟩
    · cases h
  |load t x=>exact nh h
  |fieldAddr t x f=>exact wq h
  |call c=>exact eW h
  |_=>cases h
def UT(L:PL)(g:Option (Option Nat×Bool))(d:Nat)(v:Option PL):Option PL:=match g with
  |none=>v
  |some (some q,b)=>Aa (lk L q) λc=>match c with
    |.bool e=>match e,b with
      |true,true=>v
      |false,false=>v
      |_,_=>some<|(d,.tup [])::L
    |.tup _=>some<|(d,.tup [])::L
    |_=>none
  |some (none,_)=>none
def z6(tb:Tb)(t:TypeId)(x:Operand)(d:Nat)(L:PL):Option PL:=match x with
  |.const (.slice none 0 0)=>Aa (tb t) λdd=>match dd with
    |.sl e _ _ _=>some<|(d,.own e 0 [])::L
    |_=>none
  |.const (.pointer none)=>some<|(d,.undef)::L
  |.tmp p=>Aa (lk L p) λc=>match c with
    |.box _=>some<|(d,.cref p 0)::L
    |.cref b o=>some<|(d,.cref b o)::L
    |c=>W9 c.isVal<|Aa (Vk L (.tmp p) c) λL'=>some<|(d,c)::L'
  |.const v=>Aa (bi<|cV v) λc=>W9 c.isVal<|some<|(d,c)::L
  |_=>none
def loadT(tb:Tb)(t:TypeId)(x:Operand)(d:Nat)(L:PL):Option PL:=Aa (tb t) λdd=>Aa (adO L x) λa=>match a with
  |.cref s off=>Aa (lk L s) λc=>match c with
    |.box cs=>W9 (Nat.ble (off+dd.size) cs.length)<|Aa (bi<|.box<|Sa dd.size cs off) λb=>Aa (bi<|UA dd cs off) λv=>some<|(d,v)::(s,b)::L
    |_=>none
  |.adr cs off=>W9 (Nat.ble (off+dd.size) cs.length)<|Aa (bi<|getCells dd cs off) λv=>some<|(d,v)::L
  |_=>none
def Ane(s i d:Nat)(L:PL):Option PL:=Aa (lk L s) λt=>match t with
  |.tup cs=>Aa (cs[i]?) λc=>W9 (cs.all V.isArg)<|Aa (bi<|.tup<|cs.set i<|dg2 c) λt'=>some<|(d,c)::(s,t')::L
  |_=>none
def AnV(tb:Tb)(t:TypeId)(x y:Operand)(L:PL):Option PL:=Aa (tb t) λdd=>Aa (adO L x) λa=>match a with
  |.cref s off=>Aa (lk L s) λb=>match b with
    |.box cs=>Aa (Tw L y) λc=>W9 (c.isArg&&(Nat.beq (G7 c).length dd.size&&Nat.ble (off+dd.size) cs.length))<|Aa (Vk L y c) λL'=>Aa (bi<|.box<|N7 cs off<|G7 c) λb'=>some<|(s,b')::L'
    |_=>none
  |_=>none
def nbL(L:PL)(d:Nat):Bool:=match lk L d with
  |some c=>Ek c
  |none=>true
def fW{L d}(h:nbL L d=true):Ek (Cz L d)=true:=by
  unfold nbL at h;rw[Rj];cases a:lk L d with
  |none=>rfl
  |some c=>rw[a]at h;exact h
def alO(tb:Tb)(t:TypeId)(d:Nat)(L:PL):Option PL:=Aa (tb t) λdd=>W9 (nbL L d)<|Aa (bi<|.box<|ip dd) λb=>some<|(d,b)::L
def Aeq(x:Operand)(d:Nat)(L:PL):Option PL:=Aa (Tw L x) λc=>W9 c.isArg<|Aa (Vk L x c) λL'=>W9 (nbL L' d)<|Aa (bi<|.box<|G7 c) λb=>some<|(d,b)::L'
def mK(a:Nat->Option (Nat×Nat)):List (Nat×Operand)->PL->List V->Option (PL×List V)
  |[],L,cs=>some (L,cs)
  |(i,x)::r,L,cs=>Aa (a i) λp=>Aa (Tw L x) λc=>W9 (c.isArg&&(Nat.beq (G7 c).length p.2&&Nat.ble (p.1+p.2) cs.length))<|Aa (Vk L x c) λL'=>mK a r L'<|N7 cs p.1<|G7 c
def fm{a:Nat->Option (Nat×Nat)}:∀{ps:List (Nat×Operand)}{L L':PL}{cs cs':List V},mK a ps L cs=some (L',cs')->Ts a ps (Cz L) cs=some (Cz L',cs')
  |[],_,_,_,_,h=>by cases h;rfl
  |(i,x)::r,L,L',cs,cs',h=>by rw[mK]at h;obtain⟨p,e,h⟩:=Bc h;obtain⟨c,d,h⟩:=Bc h;obtain⟨b,h⟩:=Em h;obtain⟨g,f,h⟩:=Bc h;simp only[Ab]at b;rw[Ts,e];simp only;rw[Es d,Az ⟨b.1,CU b.2.1,nb b.2.2⟩,<-PV d f];exact fm h
def Am7(tb:Tb)(t:TypeId)(ps:List (Nat×Operand))(d:Nat)(L:PL):Option PL:=Aa (tb t) λdd=>match dd with
  |.st _ z a=>Aa (mK (λi=>a[i]?) ps L z) λq=>Aa (bi<|.agg q.2) λc=>some<|(d,c)::q.1
  |_=>none
def Pm(tb:Tb)(e:zN)(o:LO)(L:PL):Option PL:=match o with
  |⟨some d,op,t,g⟩=>match op with
    |.assign x=>match g,e.contains d with
      |none,false=>z6 tb t x d L
      |_,_=>none
    |.move x=>match e.contains d with
      |true=>(match g with
        |none=>z6 tb t x d L
        |_=>none)
      |false=>UT L g d<|Aa (mvO L x) λv=>some<|(d,v)::L
    |.load t x=>match e.contains d with
      |true=>(match g with
        |none=>loadT tb t x d L
        |_=>none)
      |false=>UT L g d<|Aa (xx tb L t x) λv=>some<|(d,v)::L
    |.extract (.tmp s) i=>match g with
      |none=>Ane s i d L
      |_=>none
    |.alloc t=>match g with
      |none=>alO tb t d L
      |_=>none
    |.box _ x=>match g with
      |none=>Aeq x d L
      |_=>none
    |.build t ps=>UT L g d<|Am7 tb t ps.toList d L
    |.pick c a b=>UT L g d<|Aa (nR tb L<|.pick c a b) λv=>some<|(d,v)::L
    |.binOp p t x y h=>UT L g d<|Aa (nR tb L<|.binOp p t x y h) λv=>some<|(d,v)::L
    |.unOp p t x=>UT L g d<|Aa (nR tb L<|.unOp p t x) λv=>some<|(d,v)::L
    |.convert s t x=>UT L g d<|Aa (nR tb L<|.convert s t x) λv=>some<|(d,v)::L
    |.fieldAddr t x f=>UT L g d<|Aa (faO tb L t x f) λv=>some<|(d,v)::L
    |.nilCheck x=>UT L g d<|Aa (AlP L x) λv=>some<|(d,v)::L
    |.call c=>match c.callee with
      |.value (.func _)=>(match e.contains d with
        |true=>none
        |false=>UT L g d none)
      |.value (.tmp _)=>none
      |.value (.const _)=>none
      |.value (.global _)=>none
      |_=>UT L g d<|Aa (mq tb L c.callee c.args.toList c.argTypes.toList) λv=>some<|(d,v)::L
    |.index .. =>UT L g d none
    |.indexAddr .. =>UT L g d none
    |.slice .. =>UT L g d none
    |.buildSlice .. =>UT L g d none
    |.field .. =>UT L g d none
    |_=>none
  |⟨none,.store t x y,_,none⟩=>AnV tb t x y L
  |_=>none
section
variable {P:Program}{tb:Tb}{cns:zN}{L L':PL}{K:PS->Prop}{d:Nat}
def LV{op t g v}(i:∀r,v=some r->pc tb (Cz L) op∧pv tb (Cz L) op=r)(h:UT L g d (Aa v λv=>some<|(d,v)::L)=some L')(k:K (Cz L')):ME tb ⟨some d,op,t,g⟩ (Cz L) K:=by
  have a:∀{L':PL},Aa v (λv=>some<|(d,v)::L)=some L'->K (Cz L')->pc tb (Cz L) op∧K (upd (Cz L) d<|pv tb (Cz L) op):=by intro L' h k;have⟨r,f,h⟩:=Bc h;cases h;have⟨j,l⟩:=i r f;exact⟨j,by rw[l];exact k⟩
  unfold UT at h;split at h
  · exact a h k
  · rename_i q b;have⟨c,f,h⟩:=Bc h;simp only[ME,C6 f];cases c with
    |bool e=>
      cases e<;>cases b<;>simp only at h<;>first
        |exact⟨rfl,λ_=>a h k,λe=>by cases e⟩
        |(cases h;exact⟨rfl,(λe=>by cases e),λ_=>k⟩)
    |tup cs=>cases h;exact⟨rfl,(λe=>by cases e),λ_=>k⟩
    |_=>cases h
  · cases h
def dS{o:LO}{g:Option (Option Nat×Bool)}{v:Option PL}{X:Prop}(f:o.g=g)(a:∀L',v=some L'->K (Cz L')->X)(h:UT L g d v=some L')(k:K (Cz L')):TF o d (Cz L) K X:=by
  subst f;unfold UT at h;unfold TF;split at h
  · rename_i e;rw[e];exact a _ h k
  · rename_i q b e;rw[e];obtain⟨c,i,h⟩:=Bc h;simp only[C6 i];cases c with
    |bool e=>
      cases e<;>cases b<;>simp only at h<;>first
        |exact⟨rfl,λ_=>a _ h k,λe=>by cases e⟩
        |(cases h;exact⟨rfl,(λe=>by cases e),λ_=>k⟩)
    |tup cs=>cases h;exact⟨rfl,(λe=>by cases e),λ_=>k⟩
    |_=>cases h
  · cases h
def qx{x o}(h:z6 tb o.ty x d L=some L')(k:K (Cz L')):TD tb o x d (Cz L) K:=by
  unfold z6 at h;split at h
  · have⟨dd,a,h⟩:=Bc h;cases dd with
    |sl e es n q=>cases h;simp only[TD,a];exact k
    |_=>cases h
  · cases h;simp only[TD];exact k
  · rename_i p;have⟨c,a,h⟩:=Bc h;have g:W9 c.isVal (Aa (Vk L (.tmp p) c) λL'=>some<|(d,c)::L')=some L'->TD tb o (.tmp p) d (Cz L) K:=by intro h;have⟨i,h⟩:=Em h;have⟨r,l,h⟩:=Bc h;cases h;have e:=PV (x:=.tmp p) a l;rw[EY,e]at k;exact z7 (C6 a) i (by rw[<-C6 a];simp only[DB]at k;rw[C6 a]at k⊢;exact k)
    cases c with
    |box cs=>cases h;simp only[TD,C6 a];exact k
    |cref b o=>cases h;simp only[TD,C6 a];exact k
    |_=>exact g h
  · rename_i v m j;have⟨c,a,h⟩:=Bc h;have⟨i,h⟩:=Em h;cases h;have e:=IJ a;subst e;unfold TD;split
    · rename_i f;injection f with f;exact absurd (by rw[f]) m
    · rename_i f;injection f with f;exact absurd (by rw[f]) j
    · rename_i f;cases f
    · exact⟨i,k⟩
  · cases h
def AjJ{t cal args ts g L L'}(h:UT L g d (Aa (mq tb L cal args.toList ts.toList) λv=>some<|(d,v)::L)=some L')(k:K (Cz L')):ME tb ⟨some d,.call ⟨cal,args,ts⟩,t,g⟩ (Cz L) K:=LV (op:=.call ⟨cal,args,ts⟩) (λr a=>eW a) h k
def ic{o}(h:Pm tb cns o L=some L')(k:K (Cz L')):Hb P tb cns o (Cz L) K:=by
  have⟨I,op,t,g⟩:=o;cases I with
  |none=>
    unfold Pm at h;split at h
    · rename_i J;cases J
    · rename_i N x y ty J;injection J with e1 e2 e3 e4
      subst e2 e4;have⟨dd,u,h⟩:=Bc h;have⟨a,A,h⟩:=Bc h;cases a with
      |cref s off=>
        have⟨b,C,h⟩:=Bc h;cases b with
        |box cs=>have⟨c,l,h⟩:=Bc h;have⟨F,h⟩:=Em h;have⟨Q,H,h⟩:=Bc h;have⟨b',R,h⟩:=Bc h;cases h;simp only[Ab]at F;have e:=IJ R;subst e;simp only[Hb,lV,u,S6 A,C6 C,DC,WY,Es l];refine⟨trivial,F.1,CU F.2.1,nb F.2.2,?_⟩;rw[<-PV l H];exact k
        |_=>cases h
      |_=>cases h
    · cases h
  |some d=>
    cases op with
    |assign x=>
      simp only[Pm]at h;split at h
      · rename_i D;simp only[Hb,D,CD,Ed];exact⟨trivial,qx (o:=⟨some d,.assign x,t,none⟩) h k⟩
      · cases h
    |move x=>
      simp only[Pm]at h;split at h
      · rename_i D;cases g with
        |none=>simp only[Hb,D,FB];exact⟨trivial,qx (o:=⟨some d,.move x,t,none⟩) h k⟩
        |some g=>cases h
      · rename_i D;simp only[Hb,D,CD,Ed];exact LV (λr j=>xM j) h k
    |load s x=>
      simp only[Pm]at h;split at h
      · rename_i D;cases g with
        |none=>
          simp only[Hb,D,FB];refine⟨trivial,?_⟩;have⟨dd,u,h⟩:=Bc h;have⟨a,A,h⟩:=Bc h;simp only[Zb,u,S6 A];cases a with
          |cref b off=>
            have⟨c,C,h⟩:=Bc h;cases c with
            |box cs=>have⟨l,h⟩:=Em h;have⟨b',F,h⟩:=Bc h;have⟨v,H,h⟩:=Bc h;cases h;rw[IJ F,IJ H]at k;simp only[C6 C,DC,WY];exact⟨nb l,k⟩
            |_=>cases h
          |adr cs off=>have⟨l,h⟩:=Em h;have⟨v,H,h⟩:=Bc h;cases h;rw[IJ H]at k;exact⟨nb l,k⟩
          |_=>cases h
        |some g=>cases h
      · rename_i D;simp only[Hb,D,CD,Ed];exact LV (λr j=>nh j) h k
    |extract x i=>
      cases x with
      |tmp s=>
        cases g with
        |none=>
          simp only[Pm]at h;have⟨a,u,h⟩:=Bc h;cases a with
          |tup cs=>have⟨c,A,h⟩:=Bc h;have⟨C,h⟩:=Em h;have⟨v,l,h⟩:=Bc h;cases h;rw[IJ l]at k;simp only[Hb,mI,C6 u,A];exact⟨trivial,C,k⟩
          |_=>cases h
        |some g=>cases h
      |_=>cases h
    |alloc s=>
      cases g with
      |none=>
        have⟨dd,u,h⟩:=Bc<|show Aa (tb s) _=_ from h
        have⟨A,h⟩:=Em h;have⟨v,l,h⟩:=Bc h;cases h;rw[IJ l]at k;exact Aj2 (fW A) u k
      |some g=>cases h
    |box ty x=>
      cases g with
      |none=>
        have⟨c,u,h⟩:=Bc<|show Aa (Tw L x) _=_ from h
        have⟨A,h⟩:=Em h;have⟨Q,C,h⟩:=Bc h;have⟨l,h⟩:=Em h;have⟨v,F,h⟩:=Bc h;cases h;rw[IJ F]at k;have e:=PV u C;have l:=fW l;rw[e]at l;simp only[Hb,boxS,Es u];exact⟨trivial,A,l,by rw[<-e];exact k⟩
      |some g=>cases h
    |build s ps=>
      simp only[Pm]at h;simp only[Hb];refine dS rfl (λL1 h k=>?_) h k;have⟨dd,u,h⟩:=Bc h;cases dd with
      |st n z S=>have⟨q,A,h⟩:=Bc h;have⟨c,C,h⟩:=Bc h;cases h;rw[IJ C]at k;simp only[Xg,u,fm (L':=q.1) (cs':=q.2) A];exact k
      |_=>cases h
    |pick c a b=>simp only[Pm]at h;exact LV (op:=.pick c a b) (λr j=>aK j) h k
    |binOp p t x y N=>simp only[Pm]at h;exact LV (op:=.binOp p t x y N) (λr j=>aK j) h k
    |unOp p t x=>simp only[Pm]at h;exact LV (op:=.unOp p t x) (λr j=>aK j) h k
    |convert s t x=>simp only[Pm]at h;exact LV (op:=.convert s t x) (λr j=>aK j) h k
    |fieldAddr t x f=>simp only[Pm]at h;exact LV (op:=.fieldAddr t x f) (λr j=>wq j) h k
    |nilCheck x=>simp only[Pm]at h;exact LV (op:=.nilCheck x) (λr j=>Abu j) h k
    |index s x y=>simp only[Pm]at h;exact LV (op:=.index s x y) (v:=none) (λr j=>by cases j) h k
    |indexAddr s x y=>simp only[Pm]at h;exact LV (op:=.indexAddr s x y) (v:=none) (λr j=>by cases j) h k
    |slice s x lo hi m=>simp only[Pm]at h;exact LV (op:=.slice s x lo hi m) (v:=none) (λr j=>by cases j) h k
    |buildSlice s n ps=>simp only[Pm]at h;simp only[Hb];exact dS rfl (λL1 h k=>by cases h) h k
    |field s x f=>simp only[Pm]at h;simp only[Hb];exact dS rfl (λL1 h k=>by cases h) h k
    |call c=>
      have⟨M,w,ts⟩:=c;simp only[Pm]at h;cases M with
      |value x=>
        cases x with
        |func f=>
          simp only at h;cases G:cns.contains d with
          |true=>rw[G]at h;cases h
          |false=>
            rw[G]at h;simp only at h;show JW P cns ⟨some d,.call ⟨.value<|.func f,w,ts⟩,t,g⟩ f w.toList (Cz L) K;unfold JW;rw[AA (by simpa using G)];left;unfold T9;unfold UT at h;cases g with
            |none=>cases h
            |some g=>
              have⟨q,b⟩:=g;cases q with
              |none=>cases h
              |some q=>
                have⟨c,u,h⟩:=Bc<|show Aa (lk L q) _=_ from h
                simp only[C6 u];cases c with
                |bool e=>
                  cases e<;>cases b<;>simp only at h<;>first
                    |(cases h;done)
                    |(cases h;exact⟨rfl,(λe=>by cases e),λ_=>k⟩)
                |tup cs=>cases h;exact⟨rfl,(λe=>by cases e),λ_=>k⟩
                |_=>cases h
        |_=>cases h
      |builtin b=>
        have O:ME tb ⟨some d,.call ⟨.builtin b,w,ts⟩,t,g⟩ (Cz L) K:=LV (op:=.call ⟨.builtin b,w,ts⟩) (λr j=>eW j) h k;cases b with
        |append=>
          simp only[Hb,Xj];split
          · rename_i B;cases B
          · rename_i _ B _ _;injection B with B
            subst B;refine dS rfl (λL1 h k=>?_) h k;have⟨r,j,_⟩:=Bc h;cases j
          · exact O
        |_=>exact O
      |_=>exact AjJ h k
    |_=>cases h
end
def oh(tb:Tb)(a:zN):Nat->List LO->PL->Option (List LO×PL)
  |0,os,L=>some (os,L)
  |_+1,[],_=>none
  |n+1,o::os,L=>Aa (Pm tb a o L) λL'=>oh tb a n os L'
def Aaa(L:PL)(R:zN)(p:Nat):Bool:=match lk L p with
  |some c=>eP R c
  |none=>true
def qz{L R p}(h:Aaa L R p=true):eP R (Cz L p)=true:=by
  unfold Aaa at h;rw[Rj];cases a:lk L p with
  |none=>rfl
  |some c=>rw[a]at h;exact h
def vt(L:PL)(R W:zN)(p:Nat):Bool:=match lk L p with
  |some c=>mn R W p c
  |none=>true
def vu{L R W p}(h:vt L R W p=true):mn R W p (Cz L p)=true:=by
  unfold vt at h;rw[Rj];cases a:lk L p with
  |none=>rfl
  |some c=>rw[a]at h;exact h
def pO(L:PL)(p:Nat):Bool:=match lk L p with
  |some c=>aD c
  |none=>true
def uk{L p}(h:pO L p=true):aD (Cz L p)=true:=by
  unfold pO at h;rw[Rj];cases a:lk L p with
  |none=>rfl
  |some c=>rw[a]at h;exact h
def Aep(L:PL)(p:Nat):Bool:=match lk L p with
  |some c=>vI c
  |none=>false
def Aai{L p}(h:Aep L p=true):vI (Cz L p)=true:=by
  unfold Aep at h;rw[Rj];cases a:lk L p with
  |none=>rw[a]at h;cases h
  |some c=>rw[a]at h;exact h
def tkL(L:PL)(p:Nat):Bool:=match lk L p with
  |some c=>xe c
  |none=>false
def AiE{L p}(h:tkL L p=true):xe (Cz L p)=true:=by
  unfold tkL at h;rw[Rj];cases a:lk L p with
  |none=>rw[a]at h;cases h
  |some c=>rw[a]at h;exact h
def stepD(tb:Tb)(a:zN):Nat->List (zN×zN)->List LO->PL->Option (List (zN×zN)×List LO×PL)
  |0,fps,os,L=>some (fps,os,L)
  |n+1,(R,W)::fps,o::os,L=>W9 ((adP o.op).all (Aaa L R)&&((adC o.op).all (vt L R W)&&((adS o.op).all (pO L)&&(((adU a o).all (Aaa L R)&&(adT a o).all (tkL L))&&(ptS a).all (Aep L)))))<|Aa (Pm tb a o L) λL'=>stepD tb a n fps os L'
  |_+1,_,_,_=>none
def jg(L:PL):zN->Option PL
  |[]=>some []
  |s::ss=>Aa (lk L s) λc=>Aa (jg L ss) λL'=>some<|(s,c)::L'
def V2(L:PL)(ss:zN):Option PL:=Aa (jg L ss) λL'=>W9 (okR L')<|some L'
def m8{L}:∀{ss:zN}{L':PL},jg L ss=some L'->jp (Cz L) L'
  |[],_,h=>by cases h;trivial
  |s::ss,_,h=>by rw[jg]at h;have⟨c,a,h⟩:=Bc h;have⟨d,b,h⟩:=Bc h;cases h;exact⟨(C6 a) ▸ kr,m8 b⟩
def m9{L L' ss}(h:V2 L ss=some L'):jp (Cz L) L'∧okR L'=true:=by have⟨c,a,h⟩:=Bc h;have⟨b,h⟩:=Em h;cases h;exact⟨m8 a,b⟩
def TJ:Nat->List V->PL
  |_,[]=>[]
  |i,c::cs=>(i,c)::TJ (i+1) cs
def px:∀(b:List V) (i s:Nat),jp (λq=>(b[q - i]?).getD<|.tup []) (TJ i b)
  |[],_,_=>trivial
  |c::cs,i,s=>by
    refine⟨by simpa using kr,?_⟩;have h:=px cs (i+1) s
    have e:∀(L:PL) (f g:PS),(∀p∈L,f p.1=g p.1)->jp f L->jp g L:=by
      intro L f g;induction L with
      |nil=>intro _ _;trivial
      |cons p L k=>have⟨q,c⟩:=p;intro l m;exact⟨by rw[<-l (q,c) nF];exact m.1,k (λp a=>l p<|by simp[a]) m.2⟩
    have d:∀(cs:List V) (j:Nat),∀p∈TJ j cs,j<=p.1:=by
      intro cs;induction cs with
      |nil=>intro j p a;simp[TJ]at a
      |cons c cs k=>
        intro j p a;simp only[TJ,AL]at a;rcases a with rfl|a
        · exact A5 _
        · have:=k (j+1) p a;omega
    refine e _ _ _ (λp a=>?_) h;have:=d cs (i+1) p a;rw[show p.1 - i=(p.1 - (i+1))+1 by omega,Dm]
section
variable {P:Program}{tb:Tb}{cns:zN}{L L':PL}{K:PS->Prop}{ops os:List LO}{fps fps':List (zN×zN)}
def ib:∀{n:Nat}{ops:List LO}{L:PL},oh tb cns n ops L=some (os,L')->bh P tb cns os (Cz L') K->bh P tb cns ops (Cz L) K
  |0,_,_,h,k=>by cases h;exact k
  |_+1,[],_,h,_=>by cases h
  |n+1,o::ops,L,h,k=>by rw[oh]at h;have⟨b,a,h⟩:=Bc h;exact ic (K:=λσ'=>bh P tb cns ops σ' K) a<|ib h k
def AY(n:Nat)(h:oh tb cns n ops L=some ([],L'))(k:K (Cz L')):bh P tb cns ops (Cz L) K:=ib h k
def sp(n:Nat)(h:oh tb cns n ops L=some (os,L'))(k:bh P tb cns os (Cz L') K):bh P tb cns ops (Cz L) K:=ib h k
def og:∀{n:Nat}{fps:List (zN×zN)}{ops:List LO}{L:PL},stepD tb cns n fps ops L=some (fps',os,L')->cX P tb cns fps' os (Cz L') K->cX P tb cns fps ops (Cz L) K
  |0,_,_,_,h,k=>by cases h;exact k
  |n+1,[],_,_,h,_=>by cases h
  |n+1,_::_,[],_,h,_=>by cases h
  |n+1,(R,W)::fps,o::ops,L,h,k=>by rw[stepD]at h;have⟨b,h⟩:=Em h;have⟨d,c,h⟩:=Bc h;simp only[Ab,Aq]at b;refine evd (by unfold bm;rw[Ab,Ab];exact⟨Aq.2 λp a=>qz<|b.1 p a,Aq.2 λp a=>vu<|b.2.1 p a,Aq.2 λp a=>uk<|b.2.2.1 p a⟩) (by unfold adB bxS;rw[Ab,Ab];exact⟨⟨Aq.2 λp a=>qz<|b.2.2.2.1.1 p a,Aq.2 λp a=>AiE<|b.2.2.2.1.2 p a⟩,Aq.2 λp a=>Aai<|b.2.2.2.2 p a⟩) ?_;exact ic (K:=λσ'=>cX P tb cns fps ops σ' K) c<|og h k
def sd(n:Nat)(h:stepD tb cns n fps ops L=some (fps',os,L'))(k:cX P tb cns fps' os (Cz L') K):cX P tb cns fps ops (Cz L) K:=og h k
def xw{q c b}(e:c=b)(h:lk L q=some (.bool c)):Cz ((q,.bool b)::L)=Cz L:=by subst e;rw[EY,<-C6 h,oB]
def qg(q:Nat){c b:Bool}(e:c=b)(h:lk L q=some (.bool c))(k:bh P tb cns ops (Cz<|(q,.bool b)::L) K):bh P tb cns ops (Cz L) K:=by rw[xw e h]at k;exact k
def I5(q:Nat){c b:Bool}(e:c=b)(h:lk L q=some (.bool c))(k:cX P tb cns fps ops (Cz<|(q,.bool b)::L) K):cX P tb cns fps ops (Cz L) K:=by rw[xw e h]at k;exact k
end
section
variable {P:Program}{nt:Nat}{bx:zN}{l:LC}{Q:Exit->PS->Prop}{tb:Tb}{cns:zN}{L L':PL}
def qk(ss:zN)(h:V2 L ss=some L')(k:LS P nt bx l (Cz L') Q):LS P nt bx l (Cz L) Q:=P5 L' (m9 h).1 (m9 h).2 k
def qi(a:List V)(b:okR (TJ 0 a)=true)(k:LS P nt bx l (Cz<|TJ 0 a) Q):LS P nt bx l (Hm a) Q:=P5 _ (px a 0 0) b k
end
section
variable {P:Program}{tb:Tb}{cns:zN}{L:PL}{K:PS->Prop}{d s t:Nat}{x y z:Operand}
def zY(L:PL)(x:Operand):Option V:=Aa (Tw L x) λc=>W9 c.isArg<|some c
def Yb{c}(h:zY L x=some c):CP (Cz L) x=c∧c.isArg=true:=by have⟨c',a,h⟩:=Bc h;have⟨b,h⟩:=Em h;cases h;exact⟨Es a,b⟩
def qa{c a:V}{xs as}(b:zY L x=some c)(e:er c=a)(f:erA (Cz L) xs as):erA (Cz L) (x::xs) (a::as):=era (by rw[(Yb b).1];exact(Yb b).2) (by rw[(Yb b).1];exact e) f
def AnB:V->Bool
  |.int .. |.bool .. |.str .. |.fn .. =>true
  |_=>false
def qs{a:V}{xs as}(b:Aa (zY L x) (λc=>W9 (AnB c)<|some c)=some a)(e:erA (Cz L) xs as):erA (Cz L) (x::xs) (a::as):=by have⟨c,f,h⟩:=Bc b;have⟨g,h⟩:=Em h;cases h;exact qa f (by cases a<;>first|rfl|cases g) e
def cnF(a:cns.contains d=false):(some d).toList.any cns.contains=false:=by simpa using a
def qC{f args ts as r}(a:erA (Cz L) args.toList as)(b:MI P f as r)(k:K (Cz<|(d,r)::L))(c:cns.contains d=false:=by rfl):Hb P tb cns ⟨some d,.call {callee:=.value (.func f),args:=args,argTypes:=ts},t,none⟩ (Cz L) K:=AaF (cnF c) a b k
def qCt{f p args ts as r}(a:lk L p=some (.fn f))(b:erA (Cz L) args.toList as)(c:MI P f as r)(k:K (Cz<|(d,r)::L))(e:cns.contains d=false:=by rfl):Hb P tb cns ⟨some d,.call {callee:=.value (.tmp p),args:=args,argTypes:=ts},t,none⟩ (Cz L) K:=by
  have⟨g,h⟩:=Zt b;subst h
  show(match CP (Cz L) (.tmp p)with
    |.fn f=>JW P cns _ f args.toList (Cz L) K
    |.tok u=>Ua P cns _ u args.toList (Cz L) K
    |_=>XO cns _ (Cz L) K)
  rw[show CP (Cz L) (.tmp p)=.fn f from C6 a];show JW P cns _ f args.toList (Cz L) K;unfold JW;rw[AA (by simpa using e)];exact .inl ⟨g,r,.inl c,k⟩
def iaO(tb:Tb)(L:PL)(s:TypeId)(x y:Operand):Option (Nat×List V×Int×Nat):=Aa (Tw L x) λa=>Aa (Mz a) λp=>Aa (Tw L y) λb=>match b with
  |.int _ i=>Aa (tb s) λdd=>match dd with
    |.sl _ es _ _=>some (p.1,p.2,i,es)
    |_=>none
  |_=>none
def qI{α:Type}{f:α->List V}{l:List α}{i:Int}{e:α}{n:Nat}(h:iaO tb L s x y=some (l.length,l.flatMap f,i,n))(c:∀x,(f x).length=n)(hi:AU l i=some e)(k:K (Cz<|(d,.adr (f e++(l.drop<|i.toNat+1).flatMap f) 0)::L)):Hb P tb cns ⟨some d,.indexAddr s x y,t,none⟩ (Cz L) K:=by
  obtain⟨a,g,h⟩:=Bc h;obtain⟨p,m,h⟩:=Bc h;obtain⟨b,o,h⟩:=Bc h;obtain⟨g1,g2,q⟩:=B9 hi;cases b with
  |int A j=>
    obtain⟨dd,r,h⟩:=Bc h;cases dd with
    |sl B es C D=>simp only[Av,Ch]at h;obtain⟨u,e2,v,w⟩:=h;subst v w;refine Aj4 (n:=l.length) (cs:=l.flatMap f) (by rw[Es g,m];cases p;cases u;cases e2;rfl) (Es o) r ⟨g1,g2⟩ ?_;have:=(wv c q 0).resolve_right aG;rw[D5,Mj]at this;rw[this];exact k
    |_=>cases h
  |_=>cases h
def AnT(tb:Tb)(L:PL)(s:TypeId)(x y:Operand):Option (zU×Int):=Aa (Tw L x) λa=>match a with
  |.str u=>Aa (Tw L y) λb=>match b with
    |.int _ i=>W9 (co<|tb s)<|some (u,i)
    |_=>none
  |_=>none
def qX{u i b}(h:AnT tb L s x y=some (u,i))(hi:AU u i=some b)(k:K (Cz<|(d,.int .u8 b.toNat)::L)):Hb P tb cns ⟨some d,.index s x y,t,none⟩ (Cz L) K:=by
  have⟨a,c,h⟩:=Bc h;cases a with
  |str g=>
    have⟨b',e,h⟩:=Bc h;cases b' with
    |int l j=>have⟨f,h⟩:=Em h;cases h;exact AeY (Es c) (Es e) (cr f) hi k
    |_=>cases h
  |_=>cases h
def bdO(a:Int)(L:PL):Option Operand->Option Int
  |none=>some a
  |some x=>Aa (Tw L x) Ti
def j8{dflt i lo}(h:bdO dflt L lo=some i):Xf dflt (lo.map<|CP<|Cz L)=some i:=by
  cases lo with
  |none=>exact h
  |some x=>
    have⟨c,a,h⟩:=Bc<|show Aa (Tw L x) _=_ from h
    simp only[BP,Xf,Es a];exact h
def AnU(tb:Tb)(L:PL)(s:TypeId)(x:Operand)(lo hi:Option Operand):Option (zU×Int×Int):=Aa (Tw L x) λa=>match a with
  |.str u=>W9 (co<|tb s)<|Aa (bdO 0 L lo) λl=>Aa (bdO u.length L hi) λh=>some (u,l,h)
  |_=>none
def qSs{u lo hi l h}(b:AnU tb L s x lo hi=some (u,l,h))(c:0<=l∧l<=h∧h<=u.length)(k:K (Cz<|(d,.str<|CZ u l h)::L)):Hb P tb cns ⟨some d,.slice s x lo hi none,t,none⟩ (Cz L) K:=by
  have⟨a,e,b⟩:=Bc b;cases a with
  |str j=>have⟨f,b⟩:=Em b;have⟨m,g,b⟩:=Bc b;have⟨n,i,b⟩:=Bc b;cases b;exact Ae0 (Es e) (cr f) (j8 g) (j8 i) c k
  |_=>cases b
def zX:V->Bool
  |.arg .. =>true
  |_=>false
def yr{a}(h:zX a=false)(n:Nat)(cs:List V):aI a n cs=.dat n cs:=by cases a<;>first|rfl|cases h
def uG{a}(h:zX a=true)(n:Nat)(cs:List V):aI a n cs=.arg n cs:=by cases a<;>first|rfl|cases h
def Aix(tb:Tb)(L:PL)(b:Bool)(s:TypeId)(x:Operand)(lo hi:Option Operand):Option (Nat×List V×Nat×Int×Int):=Aa (Tw L x) λa=>W9 (zX a==b) <| Aa (Mz a) λp=>Aa (tb s) λdd=>match dd with
  |.sl _ es _ _=>Aa (bdO 0 L lo) λl=>Aa (bdO p.1 L hi) λh=>some (p.1,p.2,es,l,h)
  |_=>none
def AlZ{α:Type}{f:α->List V}{lst:List α}{n:Nat}{lo hi:Option Operand}{l h:Int}{b:Bool}(c:Aix tb L b s x lo hi=some (lst.length,lst.flatMap f,n,l,h))(m:∀x,(f x).length=n)(o:0<=l∧l<=h∧h<=lst.length)(k:∀a,zX a=b->K (Cz<|(d,aI a (CZ lst l h).length<|(CZ lst l h).flatMap f)::L)):Hb P tb cns ⟨some d,.slice s x lo hi none,t,none⟩ (Cz L) K:=by
  obtain⟨a,g,c⟩:=Bc c;obtain⟨q,c⟩:=Em c;obtain⟨p,r,c⟩:=Bc c;obtain⟨dd,u,c⟩:=Bc c;cases dd with
  |sl e es C D=>obtain⟨F,v,c⟩:=Bc c;obtain⟨G,i,c⟩:=Bc c;simp only[Av,Ch]at c;obtain⟨j,e2,w,A,B⟩:=c;subst w A B;rw[j]at i;exact AeZ (lst:=lst) (f:=f) (by rw[Es g,r];cases p;cases j;cases e2;rfl) u m (j8 v) (j8 i) o (by rw[Es g];exact k a<|DL q)
  |_=>cases c
def iD{α:Type}{f:α->List V}{lst:List α}{n:Nat}{lo hi:Option Operand}{l h:Int}(a:Aix tb L false s x lo hi=some (lst.length,lst.flatMap f,n,l,h))(b:∀x,(f x).length=n)(c:0<=l∧l<=h∧h<=lst.length)(k:K (Cz<|(d,.dat (CZ lst l h).length<|(CZ lst l h).flatMap f)::L)):Hb P tb cns ⟨some d,.slice s x lo hi none,t,none⟩ (Cz L) K:=
  AlZ a b c λa e=>by rw[yr e];exact k
def qSa{α:Type}{f:α->List V}{lst:List α}{n:Nat}{lo hi:Option Operand}{l h:Int}(a:Aix tb L true s x lo hi=some (lst.length,lst.flatMap f,n,l,h))(b:∀x,(f x).length=n)(c:0<=l∧l<=h∧h<=lst.length)(k:K (Cz<|(d,.arg (CZ lst l h).length<|(CZ lst l h).flatMap f)::L)):Hb P tb cns ⟨some d,.slice s x lo hi none,t,none⟩ (Cz L) K:=
  AlZ a b c λa e=>by rw[uG e];exact k
def Am6(L:PL)(x y:Operand):Option (V×V):=Aa (Tw L x) λa=>Aa (Tw L y) λb=>some (a,b)
def qB{op ta tc c1 c2 v}(h:Am6 L x y=some (c1,c2))(c:ka (tb ta) op c1 c2)(e:bi (oT op c1 c2)=some v)(k:K (Cz<|(d,v)::L)):Hb P tb cns ⟨some d,.binOp op ta x y tc,t,none⟩ (Cz L) K:=by have⟨a,f,h⟩:=Bc h;have⟨b,g,h⟩:=Bc h;cases h;rw[IJ e]at k;exact AeS (Es f) (Es g) c k
def qCs{a b e es eb ez w z' l}(f:Aa (Tw L x) Mz=some (l.length,l.flatMap Lo))(g:tb a=some (.sl e es eb ez))(h:tb b=some (.sc<|.str w))(i:tb e=some (.sc<|.int .u8 z'))(k:K (Cz<|(d,.str<|bytesOf l)::L)):Hb P tb cns ⟨some d,.convert a b x,t,none⟩ (Cz L) K:=by have⟨c,g1,g2⟩:=Bc f;exact AeT (by rw[Es g1];exact g2) g h i k
def Aed(tb:Tb)(L:PL)(s:TypeId)(p q:Nat):Option (Nat×List V×Nat×Nat×List V×V×PL):=Aa (lk L p) λa=>match a with
  |.own e n cs=>Aa (Vk L (.tmp p)<|.own e n cs) λL1=>Aa (lk L1 q) λc=>Aa (Mz c) λr=>Aa (Vk L1 (.tmp q) c) λL2=>Aa (tb s) λdd=>match dd with
    |.sl e' es _ _=>W9 (Nat.beq e e'&&c.isVal)<|some (n,cs,es,r.1,r.2,c,L2)
    |_=>none
  |_=>none
def qA{α:Type}(f:α->List V)(l m:List α){es p q:Nat}{e:TypeId}{ds:List V}{c:V}{n:PL}(h:Aed tb L s p q=some (l.length,l.flatMap f,es,m.length,ds,c,n))(g:lk L p=some (.own e l.length<|l.flatMap f))(v:ds.length=m.length * es)(w:ZW c=m.flatMap f)(A:l.length+m.length<=lim)
    (k:K (Cz<|(d,.own e (l++m).length<|(l++m).flatMap f)::n)):Hb P tb cns ⟨some d,.call {callee:=.builtin .append,args:= #[.tmp p,.tmp q],argTypes:= #[s,s]},t,none⟩ (Cz L) K:=by
  have⟨a,o,h⟩:=Bc h;rw[g]at o;cases o;have⟨B,C,h⟩:=Bc h;have⟨c',i,h⟩:=Bc h;have⟨r,D,h⟩:=Bc h;have⟨R,F,h⟩:=Bc h;have⟨dd,G,h⟩:=Bc h;cases dd with
  |sl S H T U=>dsimp only at h;have⟨j,h⟩:=Em h;simp only[Ab]at j;have I:=CU j.1;have h:=EH h;simp only[Ch]at h;have⟨_,_,e2,J,M,N,O⟩:=h;subst I e2 N O;have u:=PV (x:=.tmp p) g C;have Q:=PV (x:=.tmp q) i F;simp only[DB,C6 g]at u;have b:Cz B=upd (Cz L) p (.dat l.length<|l.flatMap f):=u;refine AeQ (f:=f) (l:=l) (m:=m) (c2:=c') (ds:=ds) (C6 g) (by rw[<-b];exact C6 i) (by rw[D];cases r;cases J;cases M;rfl) v G w A j.2 ?_;rw[EY,Q]at k;simp only[DB,C6 i,b]at k;exact k
  |_=>cases h
def qAd{α:Type}(f g i:α->List V)(l m:List α){es p q:Nat}{e:TypeId}{ds:List V}{c:V}{w:PL}(h:Aed tb L s p q=some (l.length,l.flatMap f,es,m.length,ds,c,w))(j:lk L p=some (.own e l.length<|l.flatMap f))(C:ds.length=m.length * es)(D:ZW c=m.flatMap i)(F:l.length+m.length<=lim)(G:∀x,(f x).map WS=g x)(H:∀x,(i x).map WS=g x)(n:∀x,(f x).all V.D3=true)(o:∀x,(i x).all V.D3=true)
    (k:K (Cz<|(d,.own e (l++m).length<|(l++m).flatMap g)::w)):Hb P tb cns ⟨some d,.call {callee:=.builtin .append,args:= #[.tmp p,.tmp q],argTypes:= #[s,s]},t,none⟩ (Cz L) K:=by
  have⟨a,A,h⟩:=Bc h;rw[j]at A;cases A;have⟨I,J,h⟩:=Bc h;have⟨c',u,h⟩:=Bc h;have⟨r,M,h⟩:=Bc h;have⟨Y,N,h⟩:=Bc h;have⟨dd,O,h⟩:=Bc h;cases dd with
  |sl Z Q eb ez=>dsimp only at h;have⟨v,h⟩:=Em h;simp only[Ab]at v;have R:=CU v.1;have h:=EH h;simp only[Ch]at h;have⟨_,_,e2,S,T,U,W⟩:=h;subst R e2 U W;have B:=PV (x:=.tmp p) j J;have X:=PV (x:=.tmp q) u N;simp only[DB,C6 j]at B;have b:Cz I=upd (Cz L) p (.dat l.length<|l.flatMap f):=B;refine AaE (f:=f) (g:=g) (h:=i) (l:=l) (m:=m) (c2:=c') (ds:=ds) (C6 j) (by rw[<-b];exact C6 u) (by rw[M];cases r;cases S;cases T;rfl) C O D F v.2 G H n o ?_;rw[EY,X]at k;simp only[DB,C6 u,b]at k;exact k
  |_=>cases h
def bsO(tb:Tb)(L:PL)(s:TypeId)(n:Nat)(ps:List (Nat×Operand)):Option (TypeId×Nat×PL×List V):=Aa (tb s) λdd=>match dd with
  |.sl e es _ a=>W9 (Nat.ble (n * es) 16777216)<|Aa (mK (λi=>some (i * es,es)) ps L<|UZ a es n) λq=>Aa (mP q.2) λcs=>some (e,es,q.1,cs)
  |_=>none
def Gi{α:Type}(f:α->List V)(l:List α){e:TypeId}{es n:Nat}{ps:Array (Nat×Operand)}{a:PL}{cs:List V}(h:bsO tb L s n ps.toList=some (e,es,a,cs))(b:l.length=n)(c:cs=l.flatMap f)(g:∀x,(f x).length=es)(k:K (Cz<|(d,.own e l.length<|l.flatMap f)::a)):Hb P tb cns ⟨some d,.buildSlice s n ps,t,none⟩ (Cz L) K:=by
  have⟨dd,i,h⟩:=Bc h;cases dd with
  |sl u j v w=>
    have⟨m,h⟩:=Em h;have⟨q,o,h⟩:=Bc h;have⟨cs',p,h⟩:=Bc h;cases h;have r:=dR p;subst c;simp only[Hb,TF,mo,i,fm (L':=q.1) (cs':=q.2) o];rw[<-r];refine⟨nb m,?_,?_⟩
    · rw[Bu g,b]
    · rw[b]at k;exact k
  |_=>cases h
def qBk{α:Type}(f:α->List V)(l:List α)(e:TypeId)(es:Nat){n:Nat}{ps:Array (Nat×Operand)}(h:bsO tb L s n ps.toList=some (e,es,L,l.flatMap f))(a:l.length=n)(b:∀x,(f x).length=es)(k:K (Cz<|(d,.own e l.length<|l.flatMap f)::L)):Hb P tb cns ⟨some d,.buildSlice s n ps,t,none⟩ (Cz L) K:=Gi f l h a rfl b k
def mkO(tb:Tb)(L:PL)(s:TypeId)(x y:Operand):Option (Int×Int×TypeId×Nat×List V):=Aa (Tw L x) λa=>Aa (Tw L y) λb=>match a,b with
  |.int _ n,.int _ m=>Aa (tb s) λdd=>match dd with
    |.sl e es _ c=>some (n,m,e,es,c)
    |_=>none
  |_,_=>none
def xI{n m e es ez}(h:mkO tb L s x y=some (n,m,e,es,ez)):∃c f g,CP (Cz L) x=.int c n∧CP (Cz L) y=.int f m∧tb s=some (.sl e es g ez):=by
  have⟨a,i,h⟩:=Bc h;have⟨b,j,h⟩:=Bc h;cases a<;>first|(cases h;done)|skip
  cases b<;>first|(cases h;done)|skip
  have⟨dd,k,h⟩:=Bc h;cases dd<;>first|(cases h;done)|skip
  cases h;exact⟨_,_,_,Es i,Es j,k⟩
def qM{α:Type}(f:α->List V)(z:α){e:TypeId}{es:Nat}{a:List V}{n:Int}(c:cns.contains d=false)(h:mkO tb L s x y=some (n,n,e,es,a))(g:f z=a)(b:a.length=es)(i:0<=n∧n.toNat<=lim)(k:K (Cz<|(d,.own e (List.replicate n.toNat z).length<|(List.replicate n.toNat z).flatMap f)::L)):Hb P tb cns ⟨some d,.makeSlice s x y,t,none⟩ (Cz L) K:=by have⟨o,p,q,j,l,m⟩:=xI h;exact Aj5 c j l m g b i k
def qMu{α:Type}(f:α->List V)(z:α){e:TypeId}{es:Nat}{a:List V}{n:Int}(c:cns.contains d=true)(h:mkO tb L s x y=some (n,n,e,es,a))(g:f z=a)(b:a.length=es)(i:0<=n∧n.toNat<=lim)(j:nbL L d=true)(k:K (Cz<|(d,.uni e (List.replicate n.toNat z).length<|(List.replicate n.toNat z).flatMap f)::L)):Hb P tb cns ⟨some d,.makeSlice s x y,t,none⟩ (Cz L) K:=by have⟨p,q,r,l,m,o⟩:=xI h;exact AeX c l m o g b i (fW j) k
def na(D:zN)(L:PL):PL:=L.map λp=>(p.1,if D.contains p.1=true then .undef else match Ex p.2 with
  |some b=>if D.contains b=true then .undef else p.2
  |none=>p.2)
def ar(D:zN):∀L:PL,Cz (na D L)=kill D (Cz L)
  |[]=>by funext s;simp[na,Cz,kill,Ex]
  |(q,c)::L=>by
    have a:=ar D L;funext s;show Cz ((q,_)::na D L) s=_;rw[EY];by_cases e:s=q
    · subst e;rw[upd_same];unfold kill;rw[EY,upd_same];rfl
    · rw[upd_ne _ _ e,a];unfold kill;rw[EY,upd_ne _ _ e]
def frL:PL->Option PL
  |[]=>some []
  |(s,.undef)::L=>Aa (frL L) λL'=>some<|(s,.undef)::L'
  |(s,c)::L=>Aa (bi c) λc=>Aa (frL L) λL'=>some<|(s,c)::L'
def kJ:∀{L L':PL},frL L=some L'->L'=L
  |[],_,h=>by cases h;rfl
  |(s,c)::L,L',h=>by
    unfold frL at h;split at h
    · rename_i a;cases a
    · rename_i a;cases a;have⟨e,b,h⟩:=Bc h;cases h;rw[kJ b]
    · rename_i a;cases a;have⟨g,f,h⟩:=Bc h;have⟨e,b,h⟩:=Bc h;cases h;rw[kJ b,IJ f]
def qTu{e n cs L1}(a:cns.contains d=true)(h:lk L s=some (.uni e n cs))(b:frL (na [s] L)=some L1)(k:K (Cz<|(d,.own e n cs)::(s,.dat n cs)::L1)):Hb P tb cns ⟨some d,.move<|.tmp s,t,none⟩ (Cz L) K:=by rw[kJ b]at k;refine AaG a (C6 h) ?_;rw[<-ar];exact k
def qAu{e n cs L1}(a:cns.contains d=true)(h:lk L s=some (.uni e n cs))(b:frL (na [s] L)=some L1)(c:nbL L1 d=true)(k:K (Cz<|(d,.uni e n cs)::L1)):Hb P tb cns ⟨some d,.assign<|.tmp s,t,none⟩ (Cz L) K:=by have f:=kJ b;subst f;refine AeR a (C6 h) (by rw[<-ar];exact fW c) ?_;rw[<-ar];exact k
def iuO(tb:Tb)(L:PL)(s:TypeId)(x y:Operand):Option (Nat×Nat×Int×Nat):=Aa (Tw L x) λa=>match a with
  |.same b=>Aa (lk L b) λu=>match u with
    |.uni _ n _=>Aa (Tw L y) λc=>match c with
      |.int _ i=>Aa (tb s) λdd=>match dd with
        |.sl _ es _ _=>some (b,n,i,es)
        |_=>none
      |_=>none
    |_=>none
  |_=>none
def qIu{b n es i}(h:iuO tb L s x y=some (b,n,i,es))(hi:0<=i∧i < n)(k:K (Cz<|(d,.cref b<|i.toNat * es)::L)):Hb P tb cns ⟨some d,.indexAddr s x y,t,none⟩ (Cz L) K:=by
  have⟨a,e,h⟩:=Bc h;cases a<;>first|(cases h;done)|skip
  have⟨u,f,h⟩:=Bc h;cases u<;>first|(cases h;done)|skip
  have⟨c,g,h⟩:=Bc h;cases c<;>first|(cases h;done)|skip
  have⟨dd,j,h⟩:=Bc h;cases dd<;>first|(cases h;done)|skip
  cases h;exact AeU (Es e) (C6 f) (Es g) j hi k
def qLu{α:Type}{f n b m}(off:Nat){l:List α}{i:Int}{e:α}{a:TypeId}{dd:TyD}{v:V}(c:cns.contains d=false)(g:adO L x=some (.cref b<|i.toNat * n+off))(h:lk L b=some (.uni a m<|l.flatMap f))(j:∀x,(f x).length=n)(hi:AU l i=some e)(o:tb s=some dd)(p:Nat.ble (off+dd.size) n=true)(q:bi (getCells dd (f e) off)=some v)(k:K (Cz<|(d,v)::L)):Hb P tb cns ⟨some d,.load s x,t,none⟩ (Cz L) K:=by rw[IJ q]at k;exact AeW c (S6 g) (C6 h) j hi o (nb p) rfl k
def qSu{ty}{α:Type}{f n b l i}(e:α){c:TypeId}{dd:TyD}{a:V}{g:PL}(j:adO L x=some (.cref b<|i.toNat * n))(m:lk L b=some (.uni c l.length<|l.flatMap f))(o:∀x,(f x).length=n)(hi:0<=i∧i < l.length)(h:Tw L y=some a)(p:tb t=some dd)(q:a.isArg=true)(r:n=dd.size)(u:G7 a=f e)(v:Vk L y a=some g)
    (k:K (Cz<|(b,.uni c (CY l i e).length<|(CY l i e).flatMap f)::g)):Hb P tb cns ⟨none,.store t x y,ty,none⟩ (Cz L) K:=by
  refine Ae1 (S6 j) (C6 m) o hi (Es h) p q r u ?_;rw[<-PV h v];exact k
end
section
variable {P:Program}{nt:Nat}{bx:zN}{Q:Exit->PS->Prop}{L:PL}
def BT{α:Type}{s:Nat}{x y:LC}{b:Bool}{u v:Option α}{r:α}(h:cond b u v=some r)(a:lk L s=some (.bool b))(c:u=some r->LS P nt bx x (Cz L) Q)(d:v=some r->LS P nt bx y (Cz L) Q):LS P nt bx (.cond (.tmp s) x y) (Cz L) Q:=Eo h (λe h=>Adk (C6 a) e<|c h)<|λe h=>Adj (C6 a) e<|d h
def qT{s x y b}(a:lk L s=some (.bool b))(e:b=true)(h:LS P nt bx x (Cz L) Q):LS P nt bx (.cond (.tmp s) x y) (Cz L) Q:=Adk (C6 a) e h
def qF{s x y b}(a:lk L s=some (.bool b))(e:b=false)(h:LS P nt bx y (Cz L) Q):LS P nt bx (.cond (.tmp s) x y) (Cz L) Q:=Adj (C6 a) e h
end
section
variable {P:Program}{tb:Tb}{cns:zN}{L:PL}{K:PS->Prop}{d s t:Nat}{x:Operand}
def qFd{f}(off:Nat){v:V}(b:AaI P s f=some off)(h:Aa (Tw L x) (λa=>match a with
  |.agg cs=>Aa (cs[off]?) λc=>bi<|WS c
  |_=>none)=some v) (k:K (Cz ((d,v)::L))):Hb P tb cns ⟨some d,.field s x f,t,none⟩ (Cz L) K:=by
  have⟨a,e,h⟩:=Bc h;cases a with
  |agg cs=>have⟨c,g,h⟩:=Bc h;rw[IJ h]at k;simp only[Hb,TF,pb,b,Es e,g];exact k
  |_=>cases h
end
def od(tb:Tb)(a:zN):List LO->PL->Option PL
  |[],L=>some L
  |o::os,L=>Aa (Pm tb a o L) λL'=>od tb a os L'
def yN(tb:Tb):Nat->LC->PL->Option (LC×PL)
  |0,l,L=>some (l,L)
  |n+1,.seq (.rgn a b) y,L=>Aa (od tb a b L) λL'=>yN tb n y L'
  |_+1,_,_=>none
section
variable {P:Program}{nt:Nat}{bx:zN}{Q:Exit->PS->Prop}{tb:Tb}
def oe{cns K}:∀{a:List LO}{L L':PL},od tb cns a L=some L'->K (Cz L')->bh P tb cns a (Cz L) K
  |[],_,_,h,k=>by cases h;exact k
  |o::a,L,_,h,k=>by rw[od]at h;have⟨c,b,h⟩:=Bc h;exact ic (K:=λσ'=>bh P tb cns a σ' K) b<|oe h k
def tg(b:LB P tb):∀{n:Nat}{l c:LC}{L L':PL},yN tb n l L=some (c,L')->LS P nt bx c (Cz L') Q->LS P nt bx l (Cz L) Q
  |0,_,_,_,_,h,k=>by cases h;exact k
  |n+1,l,c,L,L',h,k=>by
    cases l with
    |seq a y=>
      cases a with
      |rgn d e=>
        have⟨g,f,h⟩:=Bc<|show Aa (od tb d e L) (λL'=>yN tb n y L')=_ from h
        exact xF b<|oe f<|tg b h k
      |_=>exact absurd (show none=some _ from h) (by simp)
    |_=>exact absurd (show none=some _ from h) (by simp)
abbrev Jn(K:PS->Prop)(L:PL):Prop:=∀σ:PS,jp σ L->K σ
def lh{l:LC}{σ:PS}{L:PL}(a:jp σ L)(b:okR L=true)(h:LS P nt bx l (Cz L) Q):LS P nt bx l σ Q:=P5 L a b h
end
def AnI(cns:zN)(o:LO):Bool:=match o.op,o.dst with
  |.move _,some d=> !cns.contains d
  |_,_=>false
def fpO(base:List (Nat×Nat))(a:zN)(o:LO):zN×zN:=match spc a o with
  |true=>([],o.dst.toList)
  |false=>
  let R:=V5 o.op++match o.op with
    |.alloc _=>o.dst.toList
    |.call _=>o.dst.toList.filter a.contains
    |_=>[]
  let R:=R++match AnI a o with
    |true=>[]
    |false=>base.filterMap λp=>if R.contains p.1 then some p.2 else none
  (R++gT o,o.dst.toList++if simple a o=true then base.filterMap (λp=>if(adC o.op).contains p.1 then some p.2 else none)else R)
def cnO:List (Nat×zN)->Nat->zN
  |[],_=>[]
  |(i,c)::r,a=>match Nat.beq a i with
    |true=>c
    |false=>cnO r a
def Vy(base:List (Nat×Nat))(f:List (Nat×zN)):Code->LC
  |.skip=>.skip
  |.region g e d=>match d with
    |true=>.drw (cnO f g) ((e.toList.map<|Df e).map<|fpO base<|cnO f g) (e.toList.map YO)<|e.toList.map<|Df e
    |false=>.rgn (cnO f g)<|e.toList.map<|Df e
  |.seq a b=>.seq (Vy base f a)<|Vy base f b
  |.cond c a b=>.cond c (Vy base f a)<|Vy base f b
  |.block g a=>.blk g<|Vy base f a
  |.loop a=>.loop []<|Vy base f a
  |.exit g=>.exit g
  |.ret=>.ret
  |_=>.bad
def Wv(base:List (Nat×Nat))(e:List (Nat×zN)):∀c:Code,Ly c=bg (Vy base e c)
  |.skip=>rfl
  |.region f g d=>by cases d<;>simp[Ly,Vy,bg]
  |.seq a b=>by rw[Ly,Vy,bg,Wv base e a,Wv base e b]
  |.cond c a b=>by rw[Ly,Vy,bg,Wv base e a,Wv base e b]
  |.block f a=>by rw[Ly,Vy,bg,Wv base e a]
  |.loop a=>by rw[Ly,Vy,bg,Wv base e a]
  |.exit f=>rfl
  |.ret=>rfl
  |.rangeFunc .. =>rfl
  |.scope .. =>rfl
  |.label .. =>rfl
  |.goto .. =>rfl
  |.refuse .. =>rfl
def cdF(f:Func):Code:=match f.body with
  |some c=>c
  |none=>.skip
def AjQ(bx:zN)(base:List (Nat×Nat))(cn:List (Nat×zN))(fn:Func):Bool:=
  fn.body.isSome&&((fn.name== "runtime.NumGoroutine")==false&&(okC fn.ntmps bx (cdF fn)&&(decide (fn.results.toList.map MZ).Nodup&&okL bx (Vy base cn (cdF fn)))))
def BB{P:Program}{f:Nat}{a:Func}{bx:zN}{base:List (Nat×Nat)}{g:List (Nat×zN)}(h:P.funcs[f]? =some a)(b:AjQ bx base g a=true:=by kernel_rfl):Lit P f a.ntmps bx a.results.toList (Vy base g<|cdF a):=by
  simp only[AjQ,Ab]at b;obtain⟨b,i,d,j,k⟩:=b;obtain⟨c,e⟩:=HV.1 b;refine⟨⟨a,c,h,e,DL i,rfl,rfl,?_,?_⟩,Gx j,k⟩
  · rw[<-Wv];unfold cdF;rw[e]
  · unfold cdF at d;rw[e]at d;exact d
end
section
def Cm{S O:Type}{body:(S->Option O)->S->Option O}{out:O}(f:Nat->S):∀(n:Nat),(∀k,k < n->∀a,body a (f k)=a (f<|k+1))->(∀a,body a (f n)=some out)->∀m,n < m->Ay body m (f 0)=some out:=by
  have b:∀(d n:Nat),(∀k,k < n->∀a,body a (f k)=a (f<|k+1))->(∀a,body a (f n)=some out)->∀k,k+d=n->∀m,d < m->Ay body m (f k)=some out:=by
    intro d n c e;induction d with
    |zero=>
      intro k h m g;cases m with
      |zero=>omega
      |succ m=>rw[show k=n by omega];exact e _
    |succ d i=>
      intro k h m g;cases m with
      |zero=>omega
      |succ m=>show body (Ay body m) (f k)=some out;rw[c k aG];exact i (k+1) aG m aG
  intro n c e m g;exact b n n c e 0 aG m g
def wrap_in{n}(h: -9223372036854775808<=n∧n<=9223372036854775807):wZ n=n:=by
  (try unfold wZ)<;>unfold IntKind.wrap
  simp[IntKind.signed,IntKind.bits]<;>omega
def BA{k n:Nat}(h:k < n)(a:n<=maxLen):wZ ((k:Int)+1)=((k+1:Nat):Int):=by rw[wrap_in (by unfold maxLen at a;omega)];simp
def PI{α:Type}(l:List α)(k:Nat):AU l (k:Int)=l[k]?:=by simp[AU]
def AV{α:Type}{l:List α}{k:Nat}(h:k < l.length):AU l (k:Int)=some l[k]:=by rw[PI,Af h]
def Dp{n}(h:n<=lim):n < fz:=by unfold lim at h;unfold fz;omega
def AO{α:Type}{p:Prop}[Decidable p]{x:Option α}(h:p):chk p x=x:=by unfold chk;rw[Az h]
end
section
def nM(u:Value):V->V
  |.own _ n cs=>.pin u n<|ON cs
  |c=>c
def fL:V->Bool
  |.own _ _ _=>true
  |_=>false
def uc:V->Bool
  |.int _ _=>true
  |.bool _=>true
  |.str _=>true
  |_=>false
def Sd:List V->Bool
  |[]=>false
  |c::cs=>(fL c&&cs.all uc) || (uc c&&Sd cs)
def FR:List V->V
  |[]=>.undef
  |c::cs=>match c with
    |.own e n ds=>.own e n ds
    |_=>FR cs
section
variable {P:Program}{w:World}{St:Nat->Nat->Prop}
def zc{c v b}(a:uc c=true)(h:Ow P w St c v b):b=[]:=by cases c<;>first|exact h.1|cases a
def qc{c}(u:Value)(a:uc c=true):nM u c=c:=by cases c<;>first|rfl|cases a
def qd:∀{cs:List V}{us:List Value}{b:zN},cs.all uc=true->Bx P w St cs us b->b=[]
  |[],_,_,_,h=>h.2
  |c::cs,_,_,a,⟨u,d,b1,b2,g,e2,i,e,f⟩=>by simp only[BM,Ab]at a;rw[e2,zc a.1 e,qd a.2 f];rfl
def lL:∀{cs:List V}(u:Value),cs.all uc=true->cs.map (nM u)=cs
  |[],_,_=>rfl
  |c::cs,u,a=>by simp only[BM,Ab]at a;rw[AP,qc u a.1,lL u a.2]
def AbO{e n cs u b}(h:Ow P w St (.own e n cs) u b):Ow P w St (.pin u n<|ON cs) u []:=by have:=Rd.erase _<|Ow.rd (.own e n cs) h rfl;exact⟨rfl,rfl,this⟩
def tC:∀{ds:List V},Sd ds=true->∃e n cs,FR ds=.own e n cs
  |[],h=>by cases h
  |c::cs,h=>by
    simp only[Sd,BZ,Ab]at h;rcases h with⟨a,b⟩|⟨a,b⟩
    · cases c<;>first|exact⟨_,_,_,rfl⟩|cases a
    · have⟨e,n,cs',d⟩:=tC b;cases c<;>first|(cases a;done)|exact⟨e,n,cs',d⟩
def jt:∀{ds:List V}{xs:List Value}{b:zN},Sd ds=true->Bx P w St ds xs b->∃u,Ow P w St (FR ds) u b∧Bx P w St (ds.map<|nM u) xs []
  |[],_,_,h,_=>by cases h
  |c::cs,_,_,h,⟨u,a,b1,b2,g,e2,j,d,e⟩=>by
    simp only[Sd,BZ,Ab]at h;rcases h with⟨g1,g2⟩|⟨g1,g2⟩
    · have f:=qd g2 e;subst f;rw[A7]at e2;subst e2;cases c<;>first|(cases g1;done)|skip
      refine⟨u,d,?_⟩;rw[AP,lL u g2];exact⟨u,a,[],[],g,rfl,rfl,AbO d,e⟩
    · have f:=zc g1 d;subst f;rw[BX]at e2;subst e2;have⟨i,k,l⟩:=jt g2 e;refine⟨i,?_,?_⟩
      · cases c<;>first|(cases g1;done)|exact k
      · rw[AP,qc i g1];exact⟨u,a,[],[],g,rfl,j,d,l⟩
def nv:∀{ds:List V}{xs:List Value}{m b:zN}{u:Value},Sd ds=true->Bx P w St (ds.map<|nM u) xs m->Ow P w St (FR ds) u b->Bx P w St ds xs b
  |[],_,_,_,_,h,_,_=>by cases h
  |c::cs,_,_,b,u,h,⟨d,a,b1,b2,k,e2,p,e,f⟩,l=>by
    simp only[Sd,BZ,Ab]at h;rcases h with⟨g1,g2⟩|⟨g1,g2⟩
    · cases c<;>first|(cases g1;done)|skip
      have n:d=u:=e.2.1;subst n;change Bx P w St (cs.map<|nM d) a b2 at f;rw[lL d g2]at f;have g:=qd g2 f;subst g;exact⟨d,a,b,[],k,nF,rfl,l,f⟩
    · have i:Ow P w St (FR cs) u b:=by cases c<;>first|(cases g1;done)|exact l
      change Ow P w St (nM u c) d b1 at e;rw[qc u g1]at e;have g:=zc g1 e;subst g;have o:=nv g2 f i;have j:c.D3=true:=by cases c<;>first|rfl|cases g1
      exact⟨d,a,[],b,k,nF,j,e,o⟩
end
def HG{α:Type}(k:Nat):List α->List (Nat×α)
  |[]=>[]
  |x::l=>(k,x)::HG (k+1) l
def pE{α:Type}(f:α->List V)(U:Nat->Value)(p:Nat×α):List V:=(f p.2).map<|nM<|U p.1
def mE{α:Type}(f:α->List V)(U:Nat->Value):Nat×α ⊕ α->List V
  |.inl p=>pE f U p
  |.inr x=>f x
def getM{α:Type}:Nat×α ⊕ α->α
  |.inl p=>p.2
  |.inr x=>x
def okJ{α:Type}[BEq α](l:List α):List (Nat×α ⊕ α)->zN->Bool
  |[],_=>true
  |.inl p::L,seen=>(match l[p.1]? with
    |some x=>x==p.2
    |none=>false)&& !seen.contains p.1&&okJ l L (p.1::seen)
  |.inr _::L,seen=>okJ l L seen
section
variable {P:Program}{w:World}{St:Nat->Nat->Prop}{α:Type}{f:α->List V}
def nC(a:∀x,Sd (f x)=true):∀(l:List α) (k:Nat) {xs:List Value}{bs:zN},Bx P w St (l.flatMap f) xs bs->
    ∃us:List Value,us.length=l.length∧Bx P w St (l.map λx=>FR<|f x) us bs∧∀U:Nat->Value,(∀i,i < l.length->U (k+i)=us.getD i undef)->Bx P w St ((HG k l).flatMap<|pE f U) xs []
  |[],k,_,_,h=>⟨[],rfl,⟨rfl,h.2⟩,λU _=>⟨h.1,rfl⟩⟩
  |x::l,k,xs,bs,h=>by
    rw[AR]at h;obtain⟨b,d,b1,b2,rfl,rfl,g,j⟩:=h.app;have⟨u,m,o⟩:=jt (a x) g;have⟨us,p,q,r⟩:=nC a l (k+1) j;have⟨e,n,cs,s⟩:=tC<|a x;refine⟨u::us,by simp[p],⟨u,us,b1,b2,rfl,rfl,by show(FR<|f x).D3=true;rw[s];rfl,m,q⟩,λU c=>?_⟩;have t:U k=u:=by have:=c 0 nF;simpa using this
    rw[HG,AR];have:=Bx.join (b1:=[]) (b2:=[]) (show Bx P w St (pE f U (k,x)) b []by unfold pE;rw[t];exact o) (r U (λi hi=>by have:=c (i+1) (by simp;omega);have e:k+1+i=k+(i+1):=aG;rw[e,this];simp));exact this
def V8:∀{cs:List V}{us:List Value}{bs:zN},Bx P w St cs us bs->bs.Nodup->∃β:Nat->zN,(∀i c u,cs[i]? =some c->us[i]? =some u->Ow P w St c u (β i))∧(∀i,∀g∈β i,g∈bs)∧(∀i,(β i).Nodup)∧∀i j,i≠j->∀g∈β i,g∉β j
  |[],_,_,h,_=>⟨λ_=>[],nF,nF,λ_=>AZ,nF⟩
  |c::cs,_,_,⟨u,n,b1,b2,o,e2,A,p,q⟩,r=>by
    subst o e2;have⟨s,t,m⟩:=AI.1 r;have⟨β,v,k,x,y⟩:=V8 q t;refine⟨λi=>match i with|0=>b1|i+1=>β i,?_,?_,?_,?_⟩
    · intro i c' z a b;cases i with
      |zero=>simp only[CB,Av]at a b;subst a b;exact p
      |succ i=>exact v i c' z (by simpa using a) (by simpa using b)
    · intro i g e;cases i with
      |zero=>exact AD _ e
      |succ i=>exact AB _<|k i g e
    · intro i;cases i with
      |zero=>exact s
      |succ i=>exact x i
    · intro i j l g e d;cases i with
      |zero=>
        cases j with
        |zero=>exact l rfl
        |succ j=>exact m g e g (k j g d) rfl
      |succ i=>
        cases j with
        |zero=>exact m g d g (k i g e) rfl
        |succ j=>exact y i j aG g e d
def AbJ[BEq α][LawfulBEq α](Q:∀x,Sd (f x)=true){l:List α}{us:List Value}{bs:zN}(I:Bx P w St (l.map λx=>FR<|f x) us bs)(R:bs.Nodup){U:Nat->Value}(S:∀i,i < l.length->U i=us.getD i undef):
    ∀(L:List (Nat×α ⊕ α)) {xs:List Value}{k:zN},okJ l L []=true->Bx P w St (L.flatMap<|mE f U) xs k->k.Nodup->(∀g∈k,g∉bs)->∃b',Bx P w St ((L.map getM).flatMap f) xs b'∧b'.Nodup∧∀g∈b',g∈k∨g∈bs:=by
  have⟨β,T,J,W,X⟩:=V8 I R;have r:=I.length;rw[Ai]at r
  have A:∀(L:List (Nat×α ⊕ α)) (c:zN) {xs:List Value}{k:zN},okJ l L c=true->Bx P w St (L.flatMap<|mE f U) xs k->k.Nodup->(∀g∈k,g∉bs)->
      ∃b',Bx P w St ((L.map getM).flatMap f) xs b'∧b'.Nodup∧(∀g∈b',g∈k∨g∈bs)∧∀i∈c,∀g∈β i,g∉b':=by
    intro L;induction L with
    |nil=>intro c xs k _ h n o;exact⟨[],⟨h.1,rfl⟩,AZ,nF,nF⟩
    |cons p L K=>
      intro c xs k j h n o;rw[AR]at h;obtain⟨s,Y,b1,b2,rfl,rfl,M,N⟩:=h.app;have⟨Z,O,n3⟩:=AI.1 n;cases p with
      |inr x=>
        simp only[okJ]at j;have⟨b',t,u,q,y⟩:=K c j N O<|λg d=>o g<|AB _ d
        refine⟨b1++b',?_,?_,?_,?_⟩
        · rw[AP,AR];exact Bx.join M t
        · refine AI.2 ⟨Z,u,λa z b B e=>?_⟩;subst e;rcases q a B with h|h
          · exact n3 a z a h rfl
          · exact o a (AD _ z) h
        · intro g d;rcases Al.1 d with d|d
          · exact .inl<|AD _ d
          · exact(q g d).imp (AB _) id
        · intro i hi g d m;rcases Al.1 m with m|m
          · exact o g (AD _ m)<|J i g d
          · exact y i hi g d m
      |inl p=>
        simp only[okJ,Ab,At]at j;have⟨⟨g1,g2⟩,g3⟩:=j;have⟨b',t,u,q,y⟩:=K (p.1::c) g3 N O<|λg d=>o g<|AB _ d
        have C:l[p.1]? =some p.2:=by
          split at g1
          · rename_i x hx;rw[hx];simpa using g1
          · cases g1
        have D:p.1 < l.length:=by
          rcases Bi p.1 l.length with h|h
          · exact h
          · rw[Bt h]at C;cases C
        have F:us[p.1]? =some (U p.1):=by rw[S p.1 D];have:p.1 < us.length:=aG;simp[this]
        have v:=T p.1 _ _ (by rw[BS,C];rfl) F;have G:Bx P w St (f p.2) s (β p.1):=nv (Q p.2) (show Bx P w St ((f p.2).map<|nM<|U p.1) s b1 from M) v;refine⟨β p.1++b',?_,?_,?_,?_⟩
        · rw[AP,AR];exact Bx.join G t
        · refine AI.2 ⟨W p.1,u,λa z b B e=>?_⟩;subst e;exact y p.1 nF a z B
        · intro g d;rcases Al.1 d with d|d
          · exact .inr<|J p.1 g d
          · exact(q g d).imp (AB _) id
        · intro i hi g d m;rcases Al.1 m with m|m
          · have H:i≠p.1:=λe=>by
              subst e;have:c.contains p.1=true:=by simpa using hi
              rw[this]at g2;cases g2
            exact X i p.1 H g d m
          · exact y i (by simp[hi]) g d m
  intro L xs k j h n o;have⟨b',t,u,q,_⟩:=A L [] j h n o;exact⟨b',t,u,q⟩
end
def zpE{α:Type}{f n}(h:∀x,(f x).length=n){U:Nat->Value}(p:Nat×α):(pE f U p).length=n:=by unfold pE;rw[Ai,h]
def erP{α:Type}{f g}(h:∀x,ON (f x)=g x)(a:∀x,ON (g x)=g x)(l:List α){u:Value}:er (.pin u l.length<|ON<|l.flatMap f)=.dat l.length (l.flatMap g):=by rw[er,Ud h,Ud a]
def AbN{α:Type}{f:α->List V}{U:Nat->Value}{e:TypeId}{x:List (Nat×α)}:V.own e x.length (x.flatMap<|pE f U)=.own e (x.map (Sum.inl:Nat×α->Nat×α ⊕ α)).length ((x.map (Sum.inl:Nat×α->Nat×α ⊕ α)).flatMap<|mE f U):=by rw[Ai,List.flatMap_map];rfl
section
variable {P:Program}{α:Type}{f:α->List V}
def Yj:∀(k:Nat) (l:List α),(HG k l).length=l.length
  |_,[]=>rfl
  |k,x::l=>by rw[HG,AC,AC,Yj (k+1) l]
def jT(P:Program)(f:α->List V)(c:V)(l:List α)(k:Nat)(c':(Nat->Value)->V):Prop:=
  ∀w a t v bs,CC P w a t c v bs->bs.Nodup->∃us b1 b2,us.length=l.length∧Bx P w a (l.map λx=>FR<|f x) us b2∧(b1++b2).Nodup∧(∀g∈b1++b2,g∈bs)∧∀U:Nat->Value,(∀i,i < l.length->U (k+i)=us.getD i undef)->CC P w a t (c' U) v b1
def ly(h1:∀x,Sd (f x)=true){e:TypeId}{l:List α}{k:Nat}{w:World}{St:Nat->Nat->Prop}{v:Value}{bs:zN}(h:Ow P w St (.own e l.length<|l.flatMap f) v bs)(hn:bs.Nodup):
    ∃us b1 b2,us.length=l.length∧Bx P w St (l.map λx=>FR<|f x) us b2∧bs=b1++b2∧∀U:Nat->Value,(∀i,i < l.length->U (k+i)=us.getD i undef)->Ow P w St (.own e (HG k l).length<|(HG k l).flatMap<|pE f U) v b1:=by
  have⟨hl,xs,bs',hx,hr,hb,hst,h0⟩:=h;have⟨us,hul,ht,hp⟩:=nC h1 l k hr;refine⟨us,v.ownBlock.toList,bs',hul,ht,hb,λU hU=>?_⟩;rw[Yj];refine⟨hl,xs,[],hx,hp U hU,nF,hst,λhz=>?_⟩;have:l=[]:=BG hz;subst this;rfl
def YH(c:∀x,Sd (f x)=true){e:TypeId}{l:List α}{k:Nat}:jT P f (.own e l.length<|l.flatMap f) l k (λU=>.own e (HG k l).length<|(HG k l).flatMap<|pE f U):=by intro w d t v bs h a;have⟨us,b1,b2,g,i,b,j⟩:=ly (k:=k) c (show Ow P w d _ v bs from h) a;exact⟨us,b1,b2,g,i,by rw[<-b];exact a,λg m=>by rw[b];exact m,λU n=>j U n⟩
def AcO(P:Program)[BEq α](f:α->List V)(U:Nat->Value)(c:V)(L:List (Nat×α ⊕ α))(c':V):Prop:=
  ∀w a t v b1 (l:List α) us bs,CC P w a t c v b1->Bx P w a (l.map λx=>FR<|f x) us bs->bs.Nodup->(∀i,i < l.length->U i=us.getD i undef)->okJ l L []=true->b1.Nodup->(∀g∈b1,g∉bs)->∃b',CC P w a t c' v b'∧b'.Nodup∧∀g∈b',g∈b1∨g∈bs
def nB[BEq α][LawfulBEq α](h1:∀x,Sd (f x)=true){e:TypeId}{L:List (Nat×α ⊕ α)}{U:Nat->Value}{w:World}{St:Nat->Nat->Prop}{v:Value}{b1:zN}{l:List α}{us:List Value}{bs:zN}(h:Ow P w St (.own e L.length<|L.flatMap<|mE f U) v b1)(ht:Bx P w St (l.map λx=>FR<|f x) us bs)(hn:bs.Nodup)
    (hU:∀i,i < l.length->U i=us.getD i undef) (hok:okJ l L []=true) (hb1:b1.Nodup) (hd:∀g∈b1,g∉bs):∃b',Ow P w St (.own e (L.map getM).length<|(L.map getM).flatMap f) v b'∧b'.Nodup∧∀g∈b',g∈b1∨g∈bs:=by
  obtain⟨hl,xs,bs',hx,hr,rfl,hst,h0⟩:=h;have⟨n1,n2,n3⟩:=AI.1 hb1;have⟨b',q1,q2,q3⟩:=AbJ h1 ht hn hU L hok hr n2<|λg hg=>hd g<|AB _ hg
  refine⟨v.ownBlock.toList++b',⟨by rw[Ai];exact hl,xs,b',by rw[Ai];exact hx,q1,rfl,by rw[Ai];exact hst,λhz=>?_⟩,?_,?_⟩
  · rw[Ai]at hz;have:L=[]:=BG hz;subst this;rfl
  · refine AI.2 ⟨n1,q2,λa ha b hb e=>?_⟩;subst e;rcases q3 a hb with h|h
    · exact n3 a ha a h rfl
    · exact hd a (AD _ ha) h
  · intro g hg;rcases Al.1 hg with hg|hg
    · exact .inl<|AD _ hg
    · exact(q3 g hg).imp (AB _) id
def xg[BEq α][LawfulBEq α](c:∀x,Sd (f x)=true){e:TypeId}{L:List (Nat×α ⊕ α)}{U:Nat->Value}:AcO P f U (.own e L.length<|L.flatMap<|mE f U) L (.own e (L.map getM).length<|(L.map getM).flatMap f):=by intro w d t v b1 l us bs h g i j a b k;have⟨b',m,n,o⟩:=nB c (show Ow P w d _ v b1 from h) g i j a b k;exact⟨b',m,n,o⟩
end
section
variable {P:Program}{nt:Nat}{base:Bs}{bx:zN}{St St0:Nat->Nat->Prop}{B:Nat->zN}{hand:zN}{σ:PS}{a:Act}{w w0:World}
variable {Q:Exit->PS->Prop}{α:Type}{f:α->List V}
def jl{x s q l c c'}(k:σ s=c)(n:σ q=.undef)(b:s≠q)(S:jT P f c l 0 c')(o:∀U,(DC<|c' U).isSome=(DC c).isSome)(d:∀U,Ex (c' U)=none)
    (h:∀(U:Nat->Value) (us:List Value),us.length=l.length->(∀i,i < l.length->U i=us.getD i undef)->LS P nt bx x (upd (upd σ s<|c' U) q<|.gh us<|l.map λx=>FR<|f x) Q):LS P nt bx x σ Q:=by
  intro p r e t base St0 w0 a w u;have⟨St,B,j,v,y,z⟩:=u;have m:=j.slot s;rw[k]at m;have⟨us,b1,b2,A,C,D,F,G⟩:=S w St (tm a) (tm a s) (B s) m<|j.nodup s;have H:∀i,i < l.length->(λi=>us.getD i undef) (0+i)=us.getD i undef:=λi _=>by simp
  refine h (λi=>us.getD i undef) us A (λi _=>rfl) p r e t base St0 w0 a w ⟨St,_,KE j b (by rw[n];rfl) (G (λi=>us.getD i undef) H) (show CC P w St (tm a) (.gh us _) _ b2 from C) D (λg I=>.inl<|F g I) (by rw[k];exact o _) (d _) rfl rfl,v,y,z⟩
def uh{x s1 s2 g1 g2 l1 l2 c1 c2 c1' c2'}(d:σ s1=c1)(e:σ s2=c2)(m:σ g1=.undef)(n:σ g2=.undef)(o:s1≠s2∧s1≠g1∧s1≠g2∧s2≠g1∧s2≠g2∧g1≠g2)(C:jT P f c1 l1 0 c1')(D:jT P f c2 l2 l1.length c2')
    (p:∀U,(DC<|c1' U).isSome=(DC c1).isSome) (j:∀U,Ex (c1' U)=none) (q:∀U,(DC<|c2' U).isSome=(DC c2).isSome) (k:∀U,Ex (c2' U)=none)
    (h:∀(U:Nat->Value) (b c:List Value),b.length=l1.length->c.length=l2.length->(∀i,i < (l1++l2).length->U i=(b++c).getD i undef)->LS P nt bx x (upd (upd (upd (upd σ s1<|c1' U) g1<|.gh b<|l1.map λx=>FR<|f x) s2<|c2' U) g2<|.gh c<|l2.map λx=>FR<|f x) Q):LS P nt bx x σ Q:=by
  have⟨u,F,G,v,H,I⟩:=o;intro J K r L base St0 w0 a w M;have⟨St,B,l,N,O,R⟩:=M;have y:=l.slot s1;rw[d]at y;have z:=l.slot s2;rw[e]at z;have⟨b,b1,b2,A,S,T,W,X⟩:=C w St (tm a) (tm a s1) (B s1) y<|l.nodup s1;have⟨c,b3,Y,Z,p2,p3,p4,p5⟩:=D w St (tm a) (tm a s2) (B s2) z<|l.nodup s2;have s:∀i,i < l1.length->(λi=>(b++c).getD i undef) (0+i)=b.getD i undef:=λi hi=>by have:i < b.length:=aG;simp[Cc this]
  have hU2:∀i,i < l2.length->(λi=>(b++c).getD i undef) (l1.length+i)=c.getD i undef:=λi hi=>by simp only[AF];rw[CF aG,A,Dn]
  have m1:=KE l F (by rw[m];rfl) (X (λi=>(b++c).getD i undef) s) (show CC P w St (tm a) (.gh b<|l1.map λx=>FR<|f x) _ b2 from S) T (λg t=>.inl<|W g t) (by rw[d];exact p _) (j _) rfl rfl;have e1:upd (upd σ s1<|c1' λi=>(b++c).getD i undef) g1 (.gh b<|l1.map λx=>FR<|f x) s2=c2:=by rw[upd_ne _ _ v,upd_ne _ _ (Ne.symm u),e]
  have e2:upd (upd σ s1<|c1' λi=>(b++c).getD i undef) g1 (.gh b<|l1.map λx=>FR<|f x) g2=.undef:=by rw[upd_ne _ _ (Ne.symm I),upd_ne _ _ (Ne.symm G),n]
  have e3:upd (upd B s1 b1) g1 b2 s2=B s2:=by rw[upd_ne _ _ v,upd_ne _ _ (Ne.symm u)]
  have m2:=KE m1 H (by rw[e2];rfl) (p5 (λi=>(b++c).getD i undef) hU2) (show CC P w St (tm a) (.gh c<|l2.map λx=>FR<|f x) _ Y from p2) p3 (λg t=>.inl<|by rw[e3];exact p4 g t) (by rw[e1];exact q _) (k _) rfl rfl;exact h (λi=>(b++c).getD i undef) b c A Z (λi _=>rfl) J K r L base St0 w0 a w ⟨St,_,m2,N,O,R⟩
def xD{x g1 g2 us1 us2 cs1 cs2}(i:σ g1=.gh us1 cs1)(j:σ g2=.gh us2 cs2)(d:g1≠g2)(h:LS P nt bx x (upd (upd σ g1<|.gh (us1++us2)<|cs1++cs2) g2 .undef) Q):LS P nt bx x σ Q:=by
  intro n o g p base St0 w0 a w q;have⟨St,B,c,r,s,t⟩:=q;have k:=c.slot g1;rw[i]at k;have l:=c.slot g2;rw[j]at l;refine h n o g p base St0 w0 a w ⟨St,_,KE c d (by rw[j];rfl) (show CC P w St (tm a) (.gh (us1++us2)<|cs1++cs2) _ (B g1++B g2)from Bx.join k l) (show CC P w St (tm a) .undef _ []from rfl) ?_ (λg m=>?_) (by rw[i];rfl) rfl rfl rfl,r,s,t⟩
  · rw[A7];exact AI.2 ⟨c.nodup g1,c.nodup g2,λa u b v e=>by subst e;exact c.apart g1 g2 d a u v⟩
  · rw[A7]at m;exact Al.1 m
def xB[BEq α]{x:LC}{s q:Nat}{l:List α}{us:List Value}{U:Nat->Value}{L:List (Nat×α ⊕ α)}{c c':V}{cs:List V}(o:σ s=c)(p:σ q=.gh us cs)(k:cs=l.map λx=>FR<|f x)(d:s≠q)(J:AcO P f U c L c')(u:∀i,i < l.length->U i=us.getD i undef)(m:okJ l L []=true)
    (v:(DC c').isSome=(DC c).isSome) (n:Ex c'=none) (h:LS P nt bx x (upd (upd σ s c') q .undef) Q):LS P nt bx x σ Q:=by
  intro y z e A base St0 w0 a w C;have⟨St,B,b,D,F,G⟩:=C;have r:=b.slot s;rw[o]at r;have t:=b.slot q;rw[p,k]at t;have⟨b',H,I,K⟩:=J w St (tm a) (tm a s) (B s) l us (B q) r t (b.nodup q) u m (b.nodup s)<|λg j=>b.apart s q d g j
  exact h y z e A base St0 w0 a w ⟨St,_,KE b d (by rw[p];rfl) H (show CC P w St (tm a) .undef _ []from rfl) (by rw[A7];exact I) (λg j=>by rw[A7]at j;exact K g j) (by rw[o];exact v) n rfl rfl,D,F,G⟩
end
end
section
def Gh(P:Program)(nt:Nat)(bx:zN)(σ:PS)(K:PS->Prop):Prop:=∀base St0 b a w,Rel P nt bx base St0 b σ a w->∃σ',K σ'∧Rel P nt bx base St0 b σ' a w
def ghQ(P:Program)(nt:Nat)(bx:zN)(Q:Exit->PS->Prop):Exit->PS->Prop
  |.normal,σ=>Gh P nt bx σ<|Q .normal
  |e,σ=>Q e σ
section
variable {P:Program}{nt:Nat}{bx:zN}{σ:PS}{K:PS->Prop}{Q:Exit->PS->Prop}{x:LC}
def Ky(h:K σ):Gh P nt bx σ K:=λ_ _ _ _ _ a=>⟨σ,h,a⟩
def N1(h:LS P nt bx x σ (ghQ P nt bx Q)):LS P nt bx x σ Q:=by
  intro c i b j base St0 d a w k;refine HT (h c i b j base St0 d a w k) ?_;rintro e a' w' ⟨σ',f,g⟩;cases e with
  |normal=>exact f base St0 d a' w' g
  |_=>exact⟨σ',f,g⟩
def E0(h:Gh P nt bx σ (λσ'=>LS P nt bx x σ' Q)):LS P nt bx x σ Q:=by intro c e b f base St0 d a w g;have⟨σ',i,j⟩:=h base St0 d a w g;exact i c e b f base St0 d a w j
def ma(P:Program)(c:V)(e:TypeId)(n:Nat)(cs:List V)(c':Value->V):Prop:=
  ∀w a (t:Nat->Value) v bs,CC P w a t c v bs->bs.Nodup->∃u b1 b2,Ow P w a (.own e n cs) u b2∧(b1++b2).Nodup∧(∀g∈b1++b2,g∈bs)∧CC P w a t (c' u) v b1
def gn{w St e n cs u b}(h:Ow P w St (.own e n cs) u b):Ow P w St (.tok u) u []:=⟨rfl,rfl,(Ow.rd (.own e n cs) h rfl).oneCell⟩
def uD{w St e n cs u b}(h:Ow P w St (.own e n cs) u b)(j:0 < n):∃g m,u=.slice (some ⟨g,0,none⟩) n m:=by
  have⟨_,xs,d,a,_⟩:=h;rcases a.2 with⟨_,k⟩|⟨g,c,f,i,_⟩
  · omega
  · exact⟨g,c,i⟩
def xv{e n cs}:ma P (.own e n cs) e n cs .tok:=λw a t v bs h b=>⟨v,[],bs,h,by simpa using b,λg c=>by simpa using c,(gn<|show Ow P w a (.own e n cs) v bs from h).slot⟩
def xu{e n cs A C}:ma P (.box<|A++.own e n cs::C) e n cs (λu=>.box<|A++.tok u::C):=by
  rintro w St t v bs ⟨g,T,bs',arr,e1,e2,hr,rfl,hst⟩ hn;have⟨us1,us2,p1,p2,eu,eb,r1,r2⟩:=hr.app;have⟨u,us3,p3,p4,eu2,eb2,hc,r3,r4⟩:=r2;subst eb eb2;have hn1:=BI.1 hn;have hn2:=AI.1 hn1.2;have hn3:=AI.1 hn2.2.1;refine⟨u,g::(p1++p4),p3,r3,?_,?_,g,T,p1++p4,arr,e1,e2,?_,rfl,hst⟩
  · rw[CR,BI];refine⟨λhm=>hn1.1 ?_,AI.2 ⟨AI.2 ⟨hn2.1,hn3.2.1,λa ha b hb=>hn2.2.2 a ha b<|AB _ hb⟩,hn3.1,λa ha b hb e=>?_⟩⟩
    · simp only[Al]at hm⊢;rcases hm with(h|h)|h
      · exact .inl h
      · exact .inr<|.inr h
      · exact .inr<|.inl h
    · rcases Al.1 ha with ha|ha
      · exact hn2.2.2 a ha b (AD _ hb) e
      · exact hn3.2.2 b hb a ha e.symm
  · intro k hk;simp only[CR,AL,Al]at hk⊢;rcases hk with h|(h|h)|h
    · exact .inl h
    · exact .inr<|.inl h
    · exact .inr<|.inr<|.inr h
    · exact .inr<|.inr<|.inl h
  · rw[eu,eu2];have:=Bx.join r1<|show Bx P w St (.tok u::C) (u::us3) p4 from⟨u,us3,[],p4,rfl,nF,rfl,gn r3,r4⟩
    exact this
def kN{s q c e n cs c'}(j:σ s=c)(o:σ q=.undef)(b:s≠q)(L:ma P c e n cs c')(p:0 < n)(r:∀u,(DC<|c' u).isSome=(DC c).isSome)(d:∀u,Ex (c' u)=none)
    (h:∀g m,Gh P nt bx (upd (upd σ s<|c'<|.slice (some ⟨g,0,none⟩) n m) q<|.gh [.slice (some ⟨g,0,none⟩) n m] [.own e n cs]) K):Gh P nt bx σ K:=by
  rintro base St0 t a w ⟨f,B,i,v,y,z⟩;have k:=i.slot s;rw[j]at k;have⟨u,b1,b2,l,A,C,D⟩:=L w f (tm a) (tm a s) (B s) k<|i.nodup s;obtain⟨g,m,rfl⟩:=uD l p;exact h g m base St0 t a w ⟨f,_,KE i b (by rw[o];rfl) D (show CC P w f (tm a) (.gh [_] [_]) _ b2 from⟨_,[],b2,[],rfl,nF,rfl,l,rfl,rfl⟩) A (λg F=>.inl<|C g F) (by rw[j];exact r _) (d _) rfl rfl,v,y,z⟩
def wE{s q c e n cs c'}(j:σ s=c)(l:σ q=.undef)(b:s≠q)(L:ma P c e n cs c')(m:∀u,(DC<|c' u).isSome=(DC c).isSome)(d:∀u,Ex (c' u)=none)
    (h:∀u,Gh P nt bx (upd (upd σ s<|c' u) q<|.gh [u] [.own e n cs]) K):Gh P nt bx σ K:=by
  rintro base St0 o a w ⟨f,B,i,p,r,t⟩;have k:=i.slot s;rw[j]at k;have⟨u,b1,b2,v,y,z,A⟩:=L w f (tm a) (tm a s) (B s) k<|i.nodup s;exact h u base St0 o a w ⟨f,_,KE i b (by rw[l];rfl) A (show CC P w f (tm a) (.gh [_] [_]) _ b2 from⟨_,[],b2,[],rfl,nF,rfl,v,rfl,rfl⟩) y (λg C=>.inl<|z g C) (by rw[j];exact m _) (d _) rfl rfl,p,r,t⟩
def qr(P:Program)(c':V)(u:Value)(e:TypeId)(n:Nat)(cs:List V)(c:V):Prop:=
  ∀w a (t:Nat->Value) v b1 b2,CC P w a t c' v b1->Ow P w a (.own e n cs) u b2->(b1++b2).Nodup->∃bs,bs.Nodup∧(∀g∈bs,g∈b1++b2)∧CC P w a t c v bs
def wb{u e n cs}:qr P (.tok u) u e n cs (.own e n cs):=by intro w g t v b1 b2 a b c;have d:v=u:=a.2.1;subst d;exact⟨b2,(AI.1 c).2.1,λg f=>AB _ f,b⟩
def wa{u e n cs A C}:qr P (.box<|A++.tok u::C) u e n cs (.box<|A++.own e n cs::C):=by
  rintro w St t v b1 b2 ⟨g,T,bs',arr,e1,e2,hr,rfl,hst⟩ h2 hn;have⟨us1,us2,p1,p2,eu,eb,r1,r2⟩:=hr.app;have⟨u',us3,p3,p4,eu2,eb2,hc,r3,r4⟩:=r2;have⟨hp3,hu,_⟩:=r3;subst hu hp3 eb eb2;have hn1:=AI.1 hn;have hn2:=BI.1 hn1.1;have hn3:=AI.1 hn2.2;refine⟨g::(p1++(b2++p2)),?_,?_,g,T,p1++(b2++p2),arr,e1,e2,?_,rfl,hst⟩
  · refine BI.2 ⟨λhm=>?_,AI.2 ⟨hn3.1,AI.2 ⟨hn1.2.1,hn3.2.1,λa ha b hb e=>hn1.2.2 b (AW _<|AB _ hb) a ha e.symm⟩,λa ha b hb e=>?_⟩⟩
    · simp only[Al]at hm;rcases hm with h|h|h
      · exact hn2.1<|AD _ h
      · exact hn1.2.2 g BD g h rfl
      · exact hn2.1<|AB _ h
    · rcases Al.1 hb with hb|hb
      · exact hn1.2.2 a (AW _<|AD _ ha) b hb e
      · exact hn3.2.2 a ha b hb e
  · intro k hk;simp only[CR,AL,Al]at hk⊢;rcases hk with h|h|h|h
    · exact .inl h
    · exact .inr<|.inl<|.inl h
    · exact .inr<|.inr h
    · exact .inr<|.inl<|.inr h
  · rw[eu,eu2];exact Bx.join r1<|show Bx P w St (.own e n cs::C) (u'::us3) (b2++p2)from⟨u',us3,b2,p2,rfl,rfl,rfl,h2,r4⟩
def kL{s q u e n cs c c'}(r:σ s=c')(t:σ q=.gh [u] [.own e n cs])(d:s≠q)(D:qr P c' u e n cs c)(F:(DC c).isSome=(DC c').isSome)(j:Ex c=none)
    (h:Gh P nt bx (upd (upd σ s c) q .undef) K):Gh P nt bx σ K:=by
  rintro base St0 G a w ⟨k,B,b,H,I,J⟩;have v:=b.slot s;rw[r]at v;have z:=b.slot q;rw[t]at z;have⟨T,L,b1,b2,A,i,_,l,f⟩:=z;simp only[Dk]at A;obtain⟨rfl,rfl⟩:=A;have m:b2=[]:=f.2;subst m;rw[A7]at i;have o:(B s++b1).Nodup:=AI.2 ⟨b.nodup s,by have:=b.nodup q;rwa [i]at this,λx M y N e=>by subst e;exact b.apart s q d x M<|by rw[i];exact N⟩;have⟨bs,O,R,S⟩:=D w k (tm a) (tm a s) (B s) b1 v l o
  exact h base St0 G a w ⟨k,_,KE b d (by rw[t];rfl) S (show CC P w k (tm a) .undef _ []from rfl) (by simpa using O) (λg C=>by
    rw[A7]at C;rcases Al.1 (R g C)with p|p
    · exact .inl p
    · exact .inr (by rw[i];exact p)) (by rw[r];exact F) j rfl rfl,H,I,J⟩
def jI{α:Type}{cs k c}(b:cs[k]? =some c)(x:α):cs=cs.take k++c::cs.drop (k+1)∧cs.set k x=cs.take k++x::cs.drop (k+1):=by have⟨a,d⟩:=Cx.1 b;refine⟨?_,by rw[Fk,Az a]⟩;rw[<-d,<-BQ a,CI]
def nK(a b c d:zN):(a++(b++d)++c).Perm (a++(b++(c++d))):=by rw[Bw,Bw];exact Mh _<|Mh _ List.perm_append_comm
def sv{u1 e e2 n m k cs row}(hk:cs[k]? =some (.own e2 m row)):ma P (.gh [u1] [.own e n cs]) e2 m row (λu=>.gh [u1] [.own e n (cs.set k<|.tok u)]):=by
  rintro w St t v bs ⟨u,us',b1,b2,eu,eb,hc,⟨hn,xs,bs',hrow,hxs,hb1,hSt,h0⟩,hnil⟩ hnd;simp only[Dk]at eu;obtain⟨rfl,rfl⟩:=eu;have hb2:b2=[]:=hnil.2;subst hb2;rw[A7]at eb;subst eb;have hlt:=(Cx.1 hk).1;have e0:=λx=>jI hk x
  rw[(e0 .undef).1]at hxs;have⟨us1,us2,p1,p2,eu,eb2,r1,r2⟩:=Bx.app hxs;have⟨u',us3,p3,p4,eu2,eb3,hc',r3,r4⟩:=r2;subst eb3 eb2 hb1;have hp:=nK u1.ownBlock.toList p1 p3 p4;refine⟨u',u1.ownBlock.toList++(p1++p4),p3,r3,hp.nodup_iff.2 hnd,λg hg=>hp.mem_iff.1 hg,u1,[],_,[],rfl,(A7 _).symm,rfl,⟨hn,xs,p1++p4,hrow,?_,rfl,hSt,λhz=>?_⟩,rfl,rfl⟩
  · rw[(e0<|.tok u').2,eu,eu2];exact Bx.join r1<|show Bx P w St (.tok u'::_) (u'::us3) p4 from⟨u',us3,[],p4,rfl,nF,rfl,gn r3,r4⟩
  · have:=h0 hz;subst this;simp at hlt
def Aay{u1 u2 e e2 n m k cs row}(y:cs[k]? =some (.tok u2)):qr P (.gh [u1] [.own e n cs]) u2 e2 m row (.gh [u1] [.own e n (cs.set k<|.own e2 m row)]):=by
  rintro w D t v X c2 ⟨u,F,b1,b2,f,z,Y,⟨G,xs,H,a,b,g,h,I⟩,c⟩ J i;simp only[Dk]at f;obtain⟨rfl,rfl⟩:=f;have j:b2=[]:=c.2;subst j;rw[A7]at z;subst z;have l:=(Cx.1 y).1;have A:=λx=>jI y x
  rw[(A .undef).1]at b;have⟨L,M,o,p2,f,p,N,O⟩:=Bx.app b;have⟨B,d,Z,p4,q,r,R,S,T⟩:=O;have⟨s,U,_⟩:=S;subst U s r p g;have C:=nK u1.ownBlock.toList o c2 p2;refine⟨u1.ownBlock.toList++(o++(c2++p2)),C.nodup_iff.1 (by simpa using i),λg W=>by have:=C.mem_iff.2 W;simpa using this,u1,[],_,[],rfl,(A7 _).symm,rfl,⟨G,xs,o++(c2++p2),a,?_,rfl,h,λhz=>?_⟩,rfl,rfl⟩
  · rw[(A<|.own e2 m row).2,f,q];exact Bx.join N<|show Bx P w D (.own e2 m row::_) (B::d) (c2++p2)from⟨B,d,c2,p2,rfl,rfl,rfl,J,T⟩
  · have:=I hz;subst this;simp at l
variable {α:Type}{f:α->List V}
end
end
section
mutual
def QK:V->V
  |.dat n cs=>.arg n<|Nb cs
  |.agg cs=>.agg<|Nb cs
  |.int k n=>.int k n
  |.bool b=>.bool b
  |.str s=>.str s
  |.fn f=>.fn f
  |_=>.undef
def Nb:List V->List V
  |[]=>[]
  |c::cs=>QK c::Nb cs
end
mutual
def Ya:V->Bool
  |.dat _ cs=>Fl cs
  |.int _ _=>true
  |.bool _=>true
  |.str _=>true
  |.fn _=>true
  |_=>false
def Fl:List V->Bool
  |[]=>true
  |c::cs=>Ya c&&Fl cs
end
def Na:V->Bool
  |.agg cs=>Fl cs
  |c=>Ya c
section
variable {P:Program}{w:World}{St:Nat->Nat->Prop}{N:Nat->Prop}
def tR{cs}:Nb cs≠[]->cs≠[]:=λh e=>h (by subst e;rfl)
mutual
def Rd.OP(hst:∀b o,St b o->N b):∀(c:V) {v:Value},Ya c=true->Rd w St c v->Rd w (λb o=>St b o∨N b) (QK c) v
  |.int _ _,_,_,h=>h
  |.bool _,_,_,h=>h
  |.str _,_,_,h=>h
  |.fn _,_,_,h=>h
  |.dat _ cs,_,ha,⟨hn,A,c,e,hc,h,h0⟩=>⟨hn,A,c,e,hc,λhp=>let⟨b,off,ea,hr⟩:=h hp;⟨b,off,ea,λhne o=>.inr<|El.blk hst b off cs (tR hne) hr,El.OP hst b off cs ha hr⟩,λhz=>by rw[h0 hz];rfl⟩
  |.own _ _ _,_,ha,_=>by cases ha
  |.pin _ _ _,_,ha,_=>by cases ha
  |.arg _ _,_,ha,_=>by cases ha
  |.agg _,_,ha,_=>by cases ha
  |.tup _,_,ha,_=>by cases ha
  |.box _,_,ha,_=>by cases ha
  |.uni _ _ _,_,ha,_=>by cases ha
  |.same _,_,ha,_=>by cases ha
  |.val _ _,_,ha,_=>by cases ha
  |.cref _ _,_,ha,_=>by cases ha
  |.adr _ _,_,ha,_=>by cases ha
  |.gh _ _,_,ha,_=>by cases ha
  |.tok _,_,ha,_=>by cases ha
  |.undef,_,ha,_=>by cases ha
def El.OP(a:∀b o,St b o->N b)(b:Nat):∀(off:Nat) (cs:List V),Fl cs=true->El w St b off cs->El w (λb o=>St b o∨N b) b off (Nb cs)
  |_,[],_,_=>trivial
  |off,c::cs,d,⟨⟨e,u,f,g⟩,h⟩=>by rw[Fl,Ab]at d;exact⟨⟨.inl e,u,f,Rd.OP a c d.1 g⟩,El.OP a b (off+1) cs d.2 h⟩
def El.blk(a:∀b o,St b o->N b)(b:Nat):∀(off:Nat) (cs:List V),cs≠[]->El w St b off cs->N b
  |_,[],h,_=>absurd rfl h
  |off,_::_,_,⟨⟨c,_⟩,_⟩=>a b off c
end
def S5.OP(a:∀b o,St b o->N b):∀(cs:List V) {us:List Value},Fl cs=true->S5 w St cs us->S5 w (λb o=>St b o∨N b) (Nb cs) us
  |[],_,_,h=>h
  |c::cs,_,d,⟨u,f,e,g,i⟩=>by rw[Fl,Ab]at d;exact⟨u,f,e,Rd.OP a c d.1 g,S5.OP a cs d.2 i⟩
def jS.OP(a:∀b o,St b o->N b){c:V}{v:Value}(d:Na c=true)(h:jS w St c v):jS w (λb o=>St b o∨N b) (QK c) v:=by
  cases c<;>first|exact Rd.OP a _ d h|(cases d;done)|skip
  have⟨us,e,h⟩:=h;exact⟨us,e,S5.OP a _ d h⟩
def RW.OP(d:∀b o,St b o->N b):∀{a:List V}{vs:List Value},a.all Na=true->RW w St a vs->RW w (λb o=>St b o∨N b) (a.map QK) vs
  |[],_,_,h=>h
  |c::a,_,f,⟨u,g,e,i,j⟩=>by simp only[BM,Ab]at f;exact⟨u,g,e,jS.OP d f.1 i,RW.OP d f.2 j⟩
end
def eF{c}(h:Ya c=true):KA (QK c)=true:=by cases c<;>first|rfl|cases h
def eG:∀{cs:List V},Fl cs=true->(Nb cs).all KA=true
  |[],_=>rfl
  |c::cs,h=>by rw[Fl,Ab]at h;rw[Nb,BM,eF h.1,eG h.2];rfl
def eE{c}(h:Na c=true):Pz (QK c)=true:=by
  cases c<;>first|exact eF h|(cases h;done)|skip
  exact eG<|show Fl _=true from h
def rq:V->Bool
  |.tup cs=>GK cs
  |c=>deep c
section
variable {P:Program}{w w':World}{St St':Nat->Nat->Prop}
def MB.kept:∀(cs:List V) {us:List Value}{bs:zN},GK cs=true->MB P w St cs us bs->(∀g∈bs,w'.heap[g]? =w.heap[g]? ∧∀o,St' g o↔St g o)->MB P w' St' cs us bs
  |[],_,_,_,h,_=>h
  |c::cs,_,_,f,⟨u,b,b1,b2,i,e2,j,k⟩,e=>by
    have a:deep c=true∧GK cs=true:=by simpa[GK]using f
    exact⟨u,b,b1,b2,i,e2,Ow.kept c a.1 j<|λg d=>e g<|by rw[e2];exact AD _ d,MB.kept cs a.2 k<|λg d=>e g<|by rw[e2];exact AB _ d⟩
def o5{c v bs}(a:rq c=true)(h:Ow P w St c v bs)(b:∀g∈bs,w'.heap[g]? =w.heap[g]? ∧∀o,St' g o↔St g o):Ow P w' St' c v bs:=by
  cases c<;>first|exact Ow.kept _ a h b|skip
  have⟨us,e,h⟩:=h;exact⟨us,e,MB.kept _ a h b⟩
end
section
variable {P:Program}{tb:Tb}
def uO(htb:LB P tb){f:FuncId}{fn:Func}{c:Code}{args:List V}{r:V}(hf:P.funcs[f]? =some fn)(hb:fn.body=some c)(hname:(fn.name== "runtime.NumGoroutine")=false)(bx:zN)(hlen:args.length<=fn.ntmps)(hargs:args.all Na=true)(hr:rq r=true)
    (hn:(fn.results.toList.map MZ).Nodup) (h:Pf P fn.ntmps bx c (Hm<|args.map QK) (λe σ=>(e=.ret∨e=.normal)∧cD tb σ fn.results.toList=some r)):MI P f args r:=by
  refine⟨⟨fn,hf,by rw[hb];rfl,hname⟩,λw St vs hst hgl hvs=>?_⟩;have hvs':=RW.OP hst hargs hvs;have hst':∀b o,(St b o∨b < w.heap.size)->b < w.heap.size:=λb o h=>h.elim (hst b o) id
  have hpl:(args.map QK).all Pz=true:=by rw[Mi,Aq];exactλx hx=>eE<|Aq.1 hargs x hx
  have⟨hl,hat⟩:=args_at hvs';refine J4 hf hb ?_;have hrel:=cC (P:=P) (bx:=bx) hst' (hgl.of (λb hb o=>.inl<|hb o)<|λ_ _ _=>rfl) hvs' (by simpa using hlen) hpl;refine HT (h _ _ _ _ _ hrel) ?_;rintro e a' w' ⟨σ',⟨he,hres⟩,St1,B',h1,h2,h3,h4⟩
  have hfin:a'.defers=[]∧∃v,(results fn a'.tmps).run P w'=.ok v w'∧Ret P w St r (.returned v) w':=by
    have⟨v,bs,q1,q2,q3,q4⟩:=td htb h1 hn hres;have hge:∀g∈bs,w.heap.size<=g:=λg hg=>Kk (q4 g hg).1
    refine⟨h1.defers,v,q1,v,bs,λb o=>(b < w.heap.size∧St b o)∨(w.heap.size<=b∧St1 b o),rfl,⟨h2.os,h2.tape,h2.output,h2.size,h2.block⟩,λb o hlt=>⟨λhh=>hh.elim (·.2)<|λhh=>absurd hh.1 aG,λhh=>.inl ⟨hlt,hh⟩⟩,λb o hh=>?_,?_,q3,λg hg=>⟨hge g hg,(q4 g hg).2⟩⟩
    · rcases hh with hh|hh
      · exact BV hh.1 h2.size
      · exact h1.st b o hh.2
    · exact o5 hr q2<|λg hg=>⟨rfl,λo=>⟨λhh=>hh.elim (λhh=>absurd hh.1 (by have:=hge g hg;omega)) (·.2),λhh=>.inr ⟨hge g hg,hh⟩⟩⟩
  rcases he with rfl|rfl
  · exact hfin
  · exact hfin
end
def sfY:PL->Prop
  |[]=>True
  |(_,c)::L=>Nl c=true∧sfY L
def yn:sfY []:=trivial
def yc{q c L}(h:Nl c=true)(k:sfY L):sfY ((q,c)::L):=⟨h,k⟩
def lO:∀{L:PL},sfY L->∀q,Nl (Cz L q)=true
  |[],_,q=>rfl
  |(r,c)::L,⟨a,b⟩,q=>by
    by_cases e:q=r
    · subst e;rw[show Cz ((q,c)::L) q=c from by simp[Cz,upd_same]];exact a
    · rw[show Cz ((r,c)::L) q=Cz L q from by simp[Cz,upd_ne _ _ e]];exact lO b q
def Yp:∀{L:PL}{q:Nat},q∉L.map (·.1)->Cz L q=.undef
  |[],_,_=>rfl
  |(s,c)::L,q,h=>by rw[AP,AL,not_or]at h;rw[EY,upd_ne _ _ h.1];exact Yp h.2
def V1{L}:∀{ss:zN}{L':PL},jg L ss=some L'->(∀q,q∈ss->lk L q=some (Cz L' q))∧(∀q,q∉ss->Cz L' q=.undef)∧L'.map (·.1)=ss
  |[],_,h=>by cases h;exact⟨λq a=>by simp at a,λ_ _=>rfl,rfl⟩
  |s::ss,_,h=>by
    rw[jg]at h;have⟨c,b,h⟩:=Bc h;have⟨j,d,h⟩:=Bc h;cases h;have⟨f,g,i⟩:=V1 d;refine⟨λq a=>?_,λq a=>?_,by rw[AP,i]⟩
    · by_cases e:q=s
      · subst e;rw[EY,upd_same];exact b
      · rw[EY,upd_ne _ _ e];exact f q<|(AL.1 a).resolve_left e
    · rw[AL,not_or]at a;rw[EY,upd_ne _ _ a.1];exact g q a.2
def UX(L:PL)(S:zN):zN:=(L.map (·.1)).filter λq=> !S.contains q
def O7{L S q}:(UX L S).contains q=true↔q∈L.map (·.1)∧q∉S:=by unfold UX;rw[Ag,AM,At,<-F3,Ag]
def cu{L L1 S g q}(h:V2 L S=some L1)(f:q≠g):kill (UX L<|g::S) (Cz L) q=Cz L1 q:=by
  have⟨L',i,h⟩:=Bc h;have⟨j,h⟩:=Em h;cases h;have⟨k,l,m⟩:=V1 i;by_cases a:q∈S
  · have n:=C6 (k q a);have o:¬(UX L<|g::S).contains q=true:=λh=>(O7.1 h).2<|AW _ a
    unfold kill;rw[AA o,n];cases r:Ex (Cz L1 q)with
    |none=>rfl
    |some b=>
      have s:b∈S:=by have⟨p,t,c⟩:=li r;have:=Aq.1 j p t;rw[c,m]at this;exact Ag.1 this
      have d:¬(UX L<|g::S).contains b=true:=λh=>(O7.1 h).2<|AW _ s
      simp only[AA d]
  · rw[l q a];by_cases e:q∈L.map (·.1)
    · exact Wt<|O7.2 ⟨e,λh=>(AL.1 h).elim f a⟩
    · unfold kill;rw[Yp e];split<;>rfl
def lH{α:Type}{f es}(z:∀x,(f x).length=es){l:List α}{i:Int}{y:α}(e:AU l i=some y){o:Nat}{vs:List V}(n:o+vs.length<=es){x':α}(g:N7 (f y) o vs=f x'):N7 (l.flatMap f) (i.toNat * es+o) vs=(CY l i x').flatMap f:=by
  have⟨g1,g2,h⟩:=B9 e;have b:i.toNat < l.length:=aG;unfold CY;rw[<-jF z b x',<-g];unfold N7;have c:(l.flatMap f).drop (i.toNat * es)=f y++(l.flatMap f).drop ((i.toNat+1) * es):=by rw[KD z,KD z];have⟨a,j⟩:=Cx.1 h;rw[BQ a,j,AR]
  have k:((f y).take o++vs++(f y).drop (o+vs.length)).length=es:=by have:=z y;simp only[An,AH,BH];omega
  rw[k]
  have e2:(l.flatMap f).take (i.toNat * es+o)=(l.flatMap f).take (i.toNat * es)++(f y).take o:=by
    have d:i.toNat * es<=(l.flatMap f).length:=by rw[Bu z];exact Cd _<|Ck b
    rw[List.take_add,c,FV (by rw[z y];omega)]
  have m:(l.flatMap f).drop (i.toNat * es+o+vs.length)=(f y).drop (o+vs.length)++(l.flatMap f).drop (i.toNat * es+es):=by rw[Nat.add_assoc,<-J5,c,Eb (by rw[z y];omega),DS,FA]
  rw[e2,m];simp only[Bw]
def get_at{α:Type}{f es}(z:∀x,(f x).length=es){l:List α}{i:Int}{y:α}(e:AU l i=some y){o:Nat}{dd:TyD}(b:o+dd.size<=es)(j:0 < dd.size):getCells dd (l.flatMap f) (i.toNat * es+o)=getCells dd (f y) o∧i.toNat * es+o+dd.size<=(l.flatMap f).length:=by
  have⟨g1,g2,g⟩:=B9 e;have c:i.toNat < l.length:=aG;have d:(l.flatMap f).drop (i.toNat * es)=f y++(l.flatMap f).drop ((i.toNat+1) * es):=by rw[KD z,KD z];have⟨a,h⟩:=Cx.1 g;rw[BQ a,h,AR]
  have m:=z y;refine⟨?_,?_⟩
  · have e2:∀k,k < es->(l.flatMap f)[i.toNat * es+k]? =(f y)[k]?:=λk c=>by rw[<-Ej,d,Cc aG]
    cases dd with
    |st n p q=>simp only[getCells,TyD.size]at b⊢;rw[<-J5,d,Eb aG,FV (by rw[BH];omega)]
    |_=>simp only[getCells,TyD.size]at b⊢;rw[e2 o aG]
  · rw[Bu z];have:(i.toNat+1) * es<=l.length * es:=Cd _ c;rw[DS,FA]at this;omega
def gk{α:Type}{f:α->List V}{es:Nat}(z:∀x,(f x).length=es){l:List α}{i:Int}{y:α}(a:AU l i=some y){o:Nat}(b:Nat.ble (o+1) es=true):i.toNat * es+o < (l.flatMap f).length:=(get_at (dd:=.sc<|.bool false) z a (o:=o) (nb b) Nat.zero_lt_one).2
def sl{α:Type}{n:Nat}{l:List α}{i:Int}{x:α}(h:n=l.length):n=(CY l i x).length:=by unfold CY;rw[By];exact h
section
variable {P:Program}{tb:Tb}{cns:zN}{L:PL}{K:PS->Prop}{s t:Nat}{x y:Operand}{nt:Nat}{bx:zN}
def V7{d:Nat}{α:Type}{l:List α}{y0:α}{g n m es f:Nat}{i:Int}{h:IntKind}{e:TypeId}{j:List V}(a:Tw L x=some (.tok<|.slice (some ⟨g,0,none⟩) n m))(b:Tw L y=some (.int h i))(c:tb s=some (.sl e es f j))(o:n=l.length)(p:AU l i=some y0)
    (k:K (Cz<|(d,.tok<|.pointer<|some ⟨g,i.toNat * es,none⟩)::L)):Hb P tb cns ⟨some d,.indexAddr s x y,t,none⟩ (Cz L) K:=by
  obtain⟨g1,g2,q⟩:=B9 p;subst o;refine⟨?_,?_⟩
  · simp only[pc,pp,c,fH,Es a,Es b,Ti,tA];exact⟨g1,g2⟩
  · simp only[pv,pq,c,iaS,Es a,Es b,Ti,AcB];exact k
def qLe{q d:Nat}{α:Type}{f:α->List V}{l:List α}{y0:α}{i:Int}{g off m n es:Nat}{e:TypeId}{v:V}{dd:TyD}(o:Nat)(b:(Nat.beq q gS || Nat.beq q gU)=true)(c:cns.contains d=true)(h:adO L x=some (.tok<|.pointer<|some ⟨g,off,none⟩))(j:off=i.toNat * es+o)(p:tb s=some dd)
    (r:lk L q=some (.gh [.slice (some ⟨g,0,none⟩) n m] [.own e n (l.flatMap f)])) (z:∀x,(f x).length=es) (u:AU l i=some y0) (a:(Nat.ble (o+dd.size) es&&Nat.ble 1 dd.size)=true) (w:bi (getCells dd (f y0) o)=some v) (k:K (Cz<|(d,v)::L)):
    Hb P tb cns ⟨some d,.load s x,t,none⟩ (Cz L) K:=by
  subst j;rw[Ab]at a;obtain⟨A,e2⟩:=get_at (dd:=dd) z u (nb a.1)<|nb a.2;simp only[Hb,c,FB,Zb,p,S6 h];refine⟨trivial,q,g,_,e,n,m,_,rfl,(Bool.or_eq_true_iff.1 b).imp CU CU,C6 r,e2,nb a.2,?_⟩;rw[A,<-IJ w];exact k
def qLh{d:Nat}{b:Value}{g off c m n:Nat}{e:TypeId}{cs:List V}{dd:TyD}(f:cns.contains d=true)(h:adO L x=some (.tok<|.pointer<|some ⟨g,off,none⟩))(i:off=c)(j:tb s=some dd)(a:(match dd with|.st .. =>false|_=>true)=true)
    (l:lk L gU=some (.gh [.slice (some ⟨g,0,none⟩) n m] [.own e n (cs.set c<|.tok b)])) (o:c < cs.length) (k:K (Cz<|(d,.tok b)::L)):Hb P tb cns ⟨some d,.load s x,t,none⟩ (Cz L) K:=by
  subst i;have p:dd.size=1:=by cases dd<;>first|rfl|cases a
  simp only[Hb,f,FB,Zb,j,S6 h];refine⟨trivial,gU,g,_,e,n,m,_,rfl,.inr rfl,C6 l,by rw[p,By];omega,aG,?_⟩;have:getCells dd (cs.set off<|.tok b) off=.tok b:=by cases dd<;>first|(simp only[getCells,Lr o];rfl)|cases a
  rw[this];exact k
def Al1{g off n m e cs c dd L0 L1 vc}(S:zN)(hx:adO L x=some (.tok<|.pointer<|some ⟨g,off,none⟩))(ht:tb s=some dd)
    (hg:lk L gS=some (.gh [.slice (some ⟨g,0,none⟩) n m] [.own e n cs])) (hy:Tw L y=some c) (h0:(!(yT y).contains gS&& !S.contains gS)=true) (hvc:Acw (Cz L) y vc) (hn1:vc.length=dd.size) (hfl:off+dd.size<=cs.length) (hk0:Vk L y c=some L0) (hk:V2 L0 S=some L1)
    (hd:Ee cs=true) (hd':Ee vc=true) (hs:sfY L1) (k:K (Cz<|(gS,.gh [.slice (some ⟨g,0,none⟩) n m] [.own e n (N7 cs off vc)])::L1)):
    Hb P tb cns ⟨none,.store s x y,t,none⟩ (Cz L) K:=by
  simp only[Ab,At]at h0;have e1:=Es hy;have e0:Cz L0=DB (Cz L) y:=PV hy hk0;refine⟨rfl,?_⟩;simp only[lV,ht,S6 hx];refine⟨g,_,e,n,m,_,UX L0<|gS::S,vc,rfl,C6 hg,hd,hvc,hd',hn1,hfl,?_,λq hq=>?_,?_⟩
  · rw[h0.1,Cg];cases hc:(UX L0<|gS::S).contains gS with
    |false=>rfl
    |true=>exact absurd BD (O7.1 hc).2
  · rw[<-e0];by_cases hD:(UX L0<|gS::S).contains q=true
    · exact .inl hD
    · right;have e2:=cu hk hq;rcases U9 (UX L0<|gS::S) (Cz L0) q with e3|e3
      · by_cases hm:q∈L0.map (·.1)
        · have hS:q∈S:=Bp λh=>hD (O7.2 ⟨hm,λh'=>(AL.1 h').elim hq h⟩)
          have⟨L',k1,k2⟩:=Bc hk;have⟨_,k2⟩:=Em k2;cases k2;rw[C6 ((V1 k1).1 q hS)];exact lO hs q
        · rw[Yp hm];rfl
      · rw[<-e3,e2];exact lO hs q
  · rw[<-e0]
    have e4:upd (kill (UX L0<|gS::S)<|Cz L0) gS (.gh [.slice (some ⟨g,0,none⟩) n m] [.own e n (N7 cs off vc)])=Cz ((gS,.gh [.slice (some ⟨g,0,none⟩) n m] [.own e n (N7 cs off vc)])::L1):=by
      rw[EY];funext q;by_cases hq:q=gS
      · subst hq;rw[upd_same,upd_same]
      · rw[upd_ne _ _ hq,upd_ne _ _ hq];exact cu hk hq
    rw[e4];exact k
def Al2{α:Type}{f l y0 i g off m n es e c dd L0 L1 vc}(o:Nat)(x':α)(S:zN)(v:adO L x=some (.tok<|.pointer<|some ⟨g,off,none⟩))(w:off=i.toNat * es+o)(A:tb s=some dd)
    (B:lk L gS=some (.gh [.slice (some ⟨g,0,none⟩) n m] [.own e n (l.flatMap f)])) (C:Tw L y=some c) (D:(!(yT y).contains gS&& !S.contains gS)=true) (b:Acw (Cz L) y vc) (d:(Nat.beq vc.length dd.size&&Nat.ble (o+dd.size) es)=true) (h:Vk L y c=some L0) (F:V2 L0 S=some L1)
    (j:N7 (f y0) o vc=f x') (z:∀x,(f x).length=es) (u:AU l i=some y0) (G:∀x,Ee (f x)=true) (p:Ee vc=true) (H:sfY L1) (k:K (Cz<|(gS,.gh [.slice (some ⟨g,0,none⟩) n m] [.own e n ((CY l i x').flatMap f)])::L1)):
    Hb P tb cns ⟨none,.store s x y,t,none⟩ (Cz L) K:=by
  simp only[Ab]at d;subst w;have a:vc.length=dd.size:=CU d.1;have q:=nb d.2;have⟨g1,g2,I⟩:=B9 u;have r:i.toNat * es+o+dd.size<=(l.flatMap f).length:=by rw[Bu z];have:(i.toNat+1) * es<=l.length * es:=Cd _ aG;rw[DS,FA]at this;omega
  exact Al1 S v A B C D b a r h F (sdF G l) p H (by rw[lH z u (by rw[a];exact q) j];exact k)
def AnM{α:Type}{f l y0 i g off m n es e c u2 dd L0 L1}(o:Nat)(x':α)(S:zN)(F:adO L x=some (.tok<|.pointer<|some ⟨g,off,none⟩))(G:off=i.toNat * es+o)(H:tb s=some dd)
    (I:lk L gS=some (.gh [.slice (some ⟨g,0,none⟩) n m] [.own e n ((l.flatMap f).set (i.toNat * es+o)<|.tok u2)])) (d:Tw L y=some c) (j:(c.isArg&&(!(yT y).contains gS&& !S.contains gS))=true) (p:(Nat.beq (G7 c).length 1&&Nat.beq dd.size 1)=true) (b:Nat.ble (o+1) es=true) (q:Vk L y c=some L0) (J:V2 L0 S=some L1)
    (r:N7 (f y0) o (G7 c)=f x') (z:∀x,(f x).length=es) (C:AU l i=some y0) (M:∀x,Ee (f x)=true) (u:Ee (G7 c)=true) (N:sfY L1) (k:K (Cz<|(gS,.gh [.slice (some ⟨g,0,none⟩) n m] [.own e n ((CY l i x').flatMap f)])::L1)):
    Hb P tb cns ⟨none,.store s x y,t,none⟩ (Cz L) K:=by
  rw[Ab]at j p;subst G;have w:(G7 c).length=1:=CU p.1;have D:dd.size=1:=CU p.2;have A:=gk z C b
  have B:Ee ((l.flatMap f).set (i.toNat * es+o)<|.tok u2)=true:=Ls.2 λa O=>by
    rcases Dt O with h|h
    · exact Ls.1 (sdF M l) a h
    · rw[h];rfl
  refine Al1 S F H I d j.2 (.inl ⟨by rw[Es d];exact j.1,by rw[Es d]⟩) (w.trans D.symm) (by rw[D,By];omega) q J B u N ?_
  have Q:N7 ((l.flatMap f).set (i.toNat * es+o)<|.tok u2) (i.toNat * es+o) (G7 c)=(CY l i x').flatMap f:=by
    rw[<-lH z C (vs:=G7 c) (by rw[w];exact nb b) r];have⟨v,R⟩:=GN.1 w;rw[R];rw[Fk,Az A];have e2:(List.take (i.toNat * es+o)<|l.flatMap f).length=i.toNat * es+o:=by rw[AH];omega
    unfold N7;rw[FV aG,List.take_take,Nat.min_self,Aj,List.drop_append,List.drop_eq_nil_of_le aG,e2,Dn,NE,Mj,BX]
  rw[Q];exact k
def AnL{d:Nat}{b:Value}{g off c m n:Nat}{e:TypeId}{cs:List V}{dd:TyD}(f:cns.contains d=true)(h:adO L x=some (.tok<|.pointer<|some ⟨g,off,none⟩))(i:off=c)(j:tb s=some dd)(a:(match dd with|.st .. =>false|_=>true)=true)
    (l:lk L gS=some (.gh [.slice (some ⟨g,0,none⟩) n m] [.own e n (cs.set c<|.tok b)])) (o:c < cs.length) (k:K (Cz<|(d,.tok b)::L)):Hb P tb cns ⟨some d,.load s x,t,none⟩ (Cz L) K:=by
  subst i;have p:dd.size=1:=by cases dd<;>first|rfl|cases a
  simp only[Hb,f,FB,Zb,j,S6 h];refine⟨trivial,gS,g,_,e,n,m,_,rfl,.inl rfl,C6 l,by rw[p,By];omega,aG,?_⟩;have:getCells dd (cs.set off<|.tok b) off=.tok b:=by cases dd<;>first|(simp only[getCells,Lr o];rfl)|cases a
  rw[this];exact k
def qAt{α:Type}(f:α->List V)(l m:List α){es p q d:Nat}{e:TypeId}{ds:List V}{c:V}{u:Value}{b:PL}(j:lk L p=some (.tok u))(n:lk L gU=some (.gh [u] [.own e l.length (l.flatMap f)]))(o:lk ((gU,.undef)::(p,.own e l.length<|l.flatMap f)::L) p=some (.own e l.length<|l.flatMap f))
    (h:Aed tb ((gU,.undef)::(p,.own e l.length<|l.flatMap f)::L) s p q=some (l.length,l.flatMap f,es,m.length,ds,c,b)) (r:ds.length=m.length * es) (v:ZW c=m.flatMap f) (w:l.length+m.length<=lim)
    (k:K (Cz<|(d,.own e (l++m).length<|(l++m).flatMap f)::b)):Hb P tb cns ⟨some d,.call {callee:=.builtin .append,args:= #[.tmp p,.tmp q],argTypes:= #[s,s]},t,none⟩ (Cz L) K:=by
  have g:Hb P tb cns ⟨some d,.call {callee:=.builtin .append,args:= #[.tmp p,.tmp q],argTypes:= #[s,s]},t,none⟩ (Cz<|(gU,.undef)::(p,.own e l.length<|l.flatMap f)::L) K:=qA f l m h o r v w k;have z:Cz ((gU,.undef)::(p,.own e l.length<|l.flatMap f)::L)=upd (upd (Cz L) p<|.own e l.length<|l.flatMap f) gU .undef:=by rw[EY,EY]
  rw[z]at g
  have A:US tb s s (.tmp p) (.tmp q) d (upd (upd (Cz L) p<|.own e l.length<|l.flatMap f) gU .undef) K:=by
    rcases(show US tb s s (.tmp p) (.tmp q) d _ K∨(_∧appG tb s s (.tmp p) (.tmp q) d _ K)from g)with h|⟨_,_,_,_,_,_,_,_,i,_⟩
    · exact h
    · rw[upd_same]at i;cases i
  exact Or.inr (a:=US tb s s (.tmp p) (.tmp q) d (Cz L) K) ⟨λb e=>by simp at e,p,u,e,l.length,l.flatMap f,rfl,C6 j,C6 n,A⟩
def d6{α:Type}{f l y0 i g off m n es e c dd L0 L1}(o:Nat)(x':α)(S:zN)(p:adO L x=some (.tok<|.pointer<|some ⟨g,off,none⟩))(q:off=i.toNat * es+o)(r:tb s=some dd)
    (u:lk L gS=some (.gh [.slice (some ⟨g,0,none⟩) n m] [.own e n (l.flatMap f)])) (a:Tw L y=some c) (b:(c.isArg&&(!(yT y).contains gS&& !S.contains gS))=true) (v:(Nat.beq (G7 c).length dd.size&&Nat.ble (o+dd.size) es)=true) (d:Vk L y c=some L0) (w:V2 L0 S=some L1)
    (h:N7 (f y0) o (G7 c)=f x') (z:∀x,(f x).length=es) (A:AU l i=some y0) (B:∀x,Ee (f x)=true) (j:Ee (G7 c)=true) (C:sfY L1) (k:K (Cz<|(gS,.gh [.slice (some ⟨g,0,none⟩) n m] [.own e n ((CY l i x').flatMap f)])::L1)):
    Hb P tb cns ⟨none,.store s x y,t,none⟩ (Cz L) K:=by
  rw[Ab]at b;exact Al2 o x' S p q r u a b.2 (.inl ⟨by rw[Es a];exact b.1,by rw[Es a]⟩) v d w h z A B j C k
def Al0{α:Type}{f l y0 i g off m n es e e2 dd L1}(o:Nat)(x':α)(S:zN)(b:adO L x=some (.tok<|.pointer<|some ⟨g,off,none⟩))(d:off=i.toNat * es+o)(h:tb s=some dd)
    (j:lk L gS=some (.gh [.slice (some ⟨g,0,none⟩) n m] [.own e n (l.flatMap f)])) (p:(!S.contains gS)=true) (q:(Nat.beq 1 dd.size&&Nat.ble (o+dd.size) es)=true) (r:V2 L S=some L1)
    (a:N7 (f y0) o [.own e2 0 []]=f x') (z:∀x,(f x).length=es) (u:AU l i=some y0) (v:∀x,Ee (f x)=true) (w:sfY L1) (k:K (Cz<|(gS,.gh [.slice (some ⟨g,0,none⟩) n m] [.own e n ((CY l i x').flatMap f)])::L1)):
    Hb P tb cns ⟨none,.store s x<|.const<|.slice none 0 0,t,none⟩ (Cz L) K:=
  Al2 (c:=.dat 0 []) (vc:=[.own e2 0 []]) (L0:=L) o x' S b d h j rfl (by rw[Ab];exact⟨rfl,p⟩) (.inr ⟨rfl,e2,rfl⟩) q rfl r a z u v rfl w k
section
variable {α:Type}{f:α->List V}{l:List α}{e:TypeId}
def gLb{q b}(A C:List V)(c:lk L b=some (.box<|A++.own e l.length (l.flatMap f)::C))(d:lk L q=none)(a:Nat.beq b q=false)(i:0 < l.length)
    (h:∀g m,K<|Cz<|(q,.gh [.slice (some ⟨g,0,none⟩) l.length m] [.own e l.length (l.flatMap f)])::(b,.box<|A++.tok (.slice (some ⟨g,0,none⟩) l.length m)::C)::L):Gh P nt bx (Cz L) K:=
  kN (C6 c) (by rw[Rj,d];rfl) (λe=>by rw[e]at a;simp at a) (xu (A:=A) (C:=C)) i (λ_=>rfl) (λ_=>rfl) λg m=>Ky<|h g m
def gLs{q b}(c:lk L b=some (.own e l.length<|l.flatMap f))(d:lk L q=none)(a:Nat.beq b q=false)(i:0 < l.length)
    (h:∀g m,K<|Cz<|(q,.gh [.slice (some ⟨g,0,none⟩) l.length m] [.own e l.length (l.flatMap f)])::(b,.tok<|.slice (some ⟨g,0,none⟩) l.length m)::L):Gh P nt bx (Cz L) K:=
  kN (C6 c) (by rw[Rj,d];rfl) (λe=>by rw[e]at a;simp at a) xv i (λ_=>rfl) (λ_=>rfl) λg m=>Ky<|h g m
def gDb{q b n u}(A C:List V)(c:lk L b=some (.box<|A++.tok u::C))(d:lk L q=some (.gh [u] [.own e n (l.flatMap f)]))(a:Nat.beq b q=false)(g:n=l.length)
    (h:K (Cz<|(q,.undef)::(b,.box<|A++.own e l.length (l.flatMap f)::C)::L)):Gh P nt bx (Cz L) K:=by
  subst g;exact kL (C6 c) (C6 d) (λe=>by rw[e]at a;simp at a) (wa (A:=A) (C:=C)) rfl rfl<|Ky h
def gDs{q b n u}(c:lk L b=some (.tok u))(d:lk L q=some (.gh [u] [.own e n (l.flatMap f)]))(a:Nat.beq b q=false)(g:n=l.length)
    (h:K (Cz<|(q,.undef)::(b,.own e l.length<|l.flatMap f)::L)):Gh P nt bx (Cz L) K:=by
  subst g;exact kL (C6 c) (C6 d) (λe=>by rw[e]at a;simp at a) wb rfl rfl<|Ky h
variable {β:Type}{f2:β->List V}{l2:List β}{e2:TypeId}{n:Nat}{u1:Value}{y0:α}{i:Int}{es:Nat}
def Anh(o:Nat)(c:lk L gS=some (.gh [u1] [.own e n (l.flatMap f)]))(d:lk L gU=none)(z:∀x,(f x).length=es)(g:AU l i=some y0)(j:Nat.ble (o+1) es=true)(k:(f y0)[o]? =some (.own e2 l2.length<|l2.flatMap f2))
    (h:∀b,K<|Cz<|(gU,.gh [b] [.own e2 l2.length (l2.flatMap f2)])::(gS,.gh [u1] [.own e n ((l.flatMap f).set (i.toNat * es+o)<|.tok b)])::L):Gh P nt bx (Cz L) K:=by
  have m:(l.flatMap f)[i.toNat * es+o]? =some (.own e2 l2.length<|l2.flatMap f2):=by
    have⟨g1,g2,p⟩:=B9 g;have q:(l.flatMap f).drop (i.toNat * es)=f y0++(l.flatMap f).drop ((i.toNat+1) * es):=by rw[KD z,KD z];have⟨a,r⟩:=Cx.1 p;rw[BQ a,r,AR]
    rw[<-Ej,q,Cc (by have:=z y0;have:=nb j;omega),k]
  exact wE (C6 c) (by rw[Rj,d];rfl) oJ (sv m) (λ_=>rfl) (λ_=>rfl) λu=>Ky<|h u
def gLg(o:Nat)(b:lk L gU=some (.gh [u1] [.own e n (l.flatMap f)]))(c:lk L gS=none)(z:∀x,(f x).length=es)(d:AU l i=some y0)(j:Nat.ble (o+1) es=true)(k:(f y0)[o]? =some (.own e2 l2.length<|l2.flatMap f2))(p:0 < l2.length)
    (h:∀g m,K<|Cz<|(gS,.gh [.slice (some ⟨g,0,none⟩) l2.length m] [.own e2 l2.length (l2.flatMap f2)])::(gU,.gh [u1] [.own e n ((l.flatMap f).set (i.toNat * es+o)<|.tok<|.slice (some ⟨g,0,none⟩) l2.length m)])::L):Gh P nt bx (Cz L) K:=by
  have q:(l.flatMap f)[i.toNat * es+o]? =some (.own e2 l2.length<|l2.flatMap f2):=by
    have⟨g1,g2,r⟩:=B9 d;have u:(l.flatMap f).drop (i.toNat * es)=f y0++(l.flatMap f).drop ((i.toNat+1) * es):=by rw[KD z,KD z];have⟨a,v⟩:=Cx.1 r;rw[BQ a,v,AR]
    rw[<-Ej,u,Cc (by have:=z y0;have:=nb j;omega),k]
  exact kN (C6 b) (by rw[Rj,c];rfl) oJ (sv q) p (λ_=>rfl) (λ_=>rfl) λg m=>Ky<|h g m
def gDg{u2 n2}(o:Nat)(x':α)(d:lk L gU=some (.gh [u1] [.own e n ((l.flatMap f).set (i.toNat * es+o)<|.tok u2)]))(g:lk L gS=some (.gh [u2] [.own e2 n2 (l2.flatMap f2)]))(z:∀x,(f x).length=es)(b:AU l i=some y0)(c:Nat.ble (o+1) es=true)(j:n2=l2.length)(k:N7 (f y0) o [.own e2 l2.length (l2.flatMap f2)]=f x')
    (h:K (Cz<|(gS,.undef)::(gU,.gh [u1] [.own e n ((CY l i x').flatMap f)])::L)):Gh P nt bx (Cz L) K:=by
  subst j;have⟨_,g2⟩:=get_at (dd:=.sc<|.bool false) z b (o:=o) (nb c) Nat.zero_lt_one;have a:i.toNat * es+o < (l.flatMap f).length:=g2;have m:((l.flatMap f).set (i.toNat * es+o)<|.tok u2)[i.toNat * es+o]? =some (.tok u2):=Lr a;refine kL (C6 d) (C6 g) oJ (Aay m) rfl rfl<|Ky ?_;have p:((l.flatMap f).set (i.toNat * es+o)<|.tok u2).set (i.toNat * es+o) (.own e2 l2.length<|l2.flatMap f2)=(CY l i x').flatMap f:=by rw[List.set_set,<-lH z b (vs:=[.own e2 l2.length (l2.flatMap f2)]) (nb c) k];rw[Fk,Az a];simp[N7]
  rw[p];exact h
end
def qP{d f args ts xs s as cs cs' r}(b:args.toList=x::xs)(c:adO L x=some (.cref s 0))(e:lk L s=some (.box cs))(a:cs.all KA=true)(g:erA (Cz L) xs as)(h:Ob P f cs as cs' r)(k:K (Cz<|(d,r)::(s,.box cs')::L))(i:cns.contains d=false:=by rfl):
    Hb P tb cns ⟨some d,.call {callee:=.value (.func f),args:=args,argTypes:=ts},t,none⟩ (Cz L) K:=wm (cnF i) b (S6 c) (C6 e) a g h k
def AlR(S:zN):Operand->Bool
  |.tmp p=>S.contains p
  |.const (.int _ _)=>true
  |.const (.bool _)=>true
  |.const (.string _)=>true
  |_=>false
def qCk{d f args ts n as r}(a:args.toList=[x])(b:Tw L x=some (.arg n as))(c:MI P f [.arg n as] r)(k:K (Cz<|(d,r)::L))(e:cns.contains d=false:=by rfl):Hb P tb cns ⟨some d,.call {callee:=.value (.func f),args:=args,argTypes:=ts},t,none⟩ (Cz L) K:=by
  show JW P cns _ f args.toList (Cz L) K;unfold JW;rw[AA (by simpa using e)];refine .inl ⟨?_,r,.inr<|.inl ?_,k⟩
  · rw[a,BM,Es b];rfl
  · rw[a,AP,Es b];exact c
def qN{d f args ts n as cs}(c:cns.contains d=true)(e:nbL L d=true)(a:args.toList=[x])(b:Tw L x=some (.arg n as))(g:NewAt P f [.arg n as] cs)(k:K (Cz<|(d,.box cs)::L)):
    Hb P tb cns ⟨some d,.call {callee:=.value (.func f),args:=args,argTypes:=ts},t,none⟩ (Cz L) K:=by
  refine wl c (fW e) ?_ ?_ g k
  · rw[a,BM,Es b];rfl
  · rw[a,AP,Es b];rfl
def qf(e:LB P tb){f:FuncId}{nt:Nat}{bx:zN}{rs:List ResultVar}{l:LC}{a:List V}{r:V}(g:Lit P f nt bx rs l)(d:a.length<=nt)(b:a.all Na=true)(i:rq r=true)(h:LS P nt bx l (Hm<|a.map QK) (yK tb rs r)):MI P f a r:=by obtain⟨⟨u,c,j,k,m,rfl,rfl,n,o⟩,p,q⟩:=g;exact uO e j k m bx d b i p<|h c n o q
end
def VP:GK []=true:=rfl
def Of{c:V}{cs}(h:deep c=true)(k:GK cs=true):GK (c::cs)=true:=by rw[GK,h,k];rfl
def bH{α:Type}{f}(h:∀x,GK (f x)=true)(l:List α):GK (l.flatMap f)=true:=bJ.2 λc b=>by have⟨a,_,b⟩:=B6.1 b;exact bJ.1 (h a) c b
def TY{α:Type}{f}(h:∀x,GK (f x)=true)(e:TypeId)(l:List α):deep (.own e l.length<|l.flatMap f)=true:=by rw[deep];exact bH h l
def sgh{us e n k cs u}(h:Ee cs=true):Nl (.gh us [.own e n (cs.set k<|.tok u)])=true:=by
  show Ee [_]=true;rw[Ee,ST,Ab];refine⟨Ls.2 λc b=>?_,rfl⟩;rcases Dt b with a|a
  · exact Ls.1 h c a
  · subst a;rfl
def dag{cs}(h:GK cs=true):deep (.agg cs)=true:=by rw[deep];exact h
def br:∀{cs:List V},PF cs=true↔∀c∈cs,OP c=true
  |[]=>by simp[PF]
  |c::cs=>by rw[PF,Ab,br (cs:=cs)];simp
def acc{c:V}{cs}(h:OP c=true)(k:PF cs=true):PF (c::cs)=true:=by rw[PF,h,k];rfl
def acf{α:Type}{f}(h:∀x,PF (f x)=true)(l:List α):PF (l.flatMap f)=true:=br.2 λc b=>by have⟨a,_,b⟩:=B6.1 b;exact br.1 (h a) c b
def aca{α:Type}{f}(h:∀x,PF (f x)=true)(l:List α):OP (.arg l.length<|l.flatMap f)=true:=by rw[OP];exact acf h l
def sO{c}(h:deep c=true):Ze c=true:=AdE h
def sA{c}(h:OP c=true):Ze c=true:=zd h
def Im{c:V}{cs}(h:Ze c=true)(k:cs.all Ze=true):(c::cs).all Ze=true:=by rw[BM,h,k];rfl
def VJ{c:V}{cs}(h:Ya c=true)(k:Fl cs=true):Fl (c::cs)=true:=by rw[Fl,h,k];rfl
def vag{cs cs'}(h:Nb cs=cs'):QK (.agg cs)=.agg cs':=by rw[QK,h]
def TA{c:V}{cs}(h:Na c=true)(k:cs.all Na=true):(c::cs).all Na=true:=by rw[BM,h,k];rfl
def dV{c c':V}{cs cs'}(h:QK c=c')(k:cs.map QK=cs'):(c::cs).map QK=c'::cs':=by rw[AP,h,k]
def VK{c c':V}{cs cs'}(h:QK c=c')(k:Nb cs=cs'):Nb (c::cs)=c'::cs':=by rw[Nb,h,k]
def iO:∀(a b:List V),Nb (a++b)=Nb a++Nb b
  |[],_=>rfl
  |c::a,b=>by rw[CR,Nb,Nb,iO a b,CR]
def eH{α:Type}{f g}(h:∀x,Nb (f x)=g x):∀l:List α,Nb (l.flatMap f)=l.flatMap g
  |[]=>rfl
  |x::l=>by rw[AR,AR,iO,h,eH h l]
def Oc{α:Type}{f g}(h:∀x,Nb (f x)=g x)(l:List α):QK (.dat l.length<|l.flatMap f)=.arg l.length (l.flatMap g):=by rw[QK,eH h]
def mc:∀{a b:List V},Fl a=true->Fl b=true->Fl (a++b)=true
  |[],_,_,h=>h
  |c::a,b,h,k=>by rw[Fl,Ab]at h;rw[CR,Fl,h.1,mc h.2 k];rfl
def iN{α:Type}{f}(h:∀x,Fl (f x)=true):∀l:List α,Fl (l.flatMap f)=true
  |[]=>rfl
  |x::l=>by rw[AR];exact mc (h x)<|iN h l
def IH{α:Type}{f}(h:∀x,Fl (f x)=true)(l:List α):Ya (.dat l.length<|l.flatMap f)=true:=iN h l
end
section
mutual
def frz:V->V
  |.own _ n cs=>.arg n<|RO cs
  |.dat n cs=>.dat n cs
  |.arg n cs=>.arg n cs
  |.pin u n cs=>.pin u n cs
  |.int k n=>.int k n
  |.bool b=>.bool b
  |.str s=>.str s
  |.fn f=>.fn f
  |.tok u=>.tok u
  |_=>.undef
def RO:List V->List V
  |[]=>[]
  |c::cs=>frz c::RO cs
end
def fA{cs}(h:cs=[]):RO cs=[]:=by subst h;rfl
section
variable {P:Program}{w:World}{St St':Nat->Nat->Prop}
mutual
def Ow.frz(hs:∀b o,St b o->St' b o):∀(c:V) {v:Value}{bs:zN},Ow P w St c v bs->c.D3=true->(∀g∈bs,∀o,St' g o)->Rd w St' (frz c) v
  |.int _ _,_,_,h,_,_=>h.2
  |.bool _,_,_,h,_,_=>h.2
  |.str _,_,_,h,_,_=>h.2
  |.dat n cs,_,_,h,_,_=>Rd.mono hs (λ_ _ _=>rfl) (.dat n cs) h.2
  |.arg n cs,_,_,h,_,_=>Rd.mono hs (λ_ _ _=>rfl) (.arg n cs) h.2
  |.pin u n cs,_,_,h,_,_=>Rd.mono hs (λ_ _ _=>rfl) (.pin u n cs) h.2
  |.own e n cs,v,bs,⟨hn,xs,bs',h1,h2,h3,h4,h5⟩,_,hg=>by
    have hl:=h1.1;rcases h1.2 with⟨rfl,rfl⟩|⟨g,cap,cur,rfl,hg1,hh,hc,hm,hsz,hx⟩
    · exact⟨Bk hn,none,0,rfl,A5 _,λh=>absurd h aG,λhz=>fA<|h5 hz⟩
    · have hgo:=hg g (by rw[h3];simp[Value.ownBlock]);refine⟨Bk hn,_,cap,rfl,hc,λ_=>⟨g,0,rfl,λ_=>hgo,?_⟩,λhz=>fA<|h5 hz⟩;refine Bx.frz hs cs 0 h2 hgo (λj u hu=>?_)<|λg' hg'=>hg g'<|by rw[h3];exact AB _ hg'
      have hj:j < n * Wl P e:=by
        rw[<-hl];rcases Bi j xs.length with h|h
        · exact h
        · rw[Bt h]at hu;cases hu
      rw[C9];simp only[World.cell?,hh];rw[<-hx,EE,Az hj]at hu;simpa using hu
  |.agg _,_,_,_,h,_=>by cases h
  |.tup _,_,_,_,h,_=>by cases h
  |.box _,_,_,h,_,_=>h.elim
  |.uni _ _ _,_,_,h,_,_=>h.elim
  |.same _,_,_,h,_,_=>h.elim
  |.val _ _,_,_,h,_,_=>h.elim
  |.cref _ _,_,_,h,_,_=>h.elim
  |.adr _ _,_,_,h,_,_=>h.elim
  |.gh _ _,_,_,h,_,_=>h.elim
  |.fn _,_,_,h,_,_=>h.2
  |.tok _,_,_,h,_,_=>h.2
  |.undef,_,_,h,_,_=>h.elim
def Bx.frz(hs:∀b o,St b o->St' b o){g:Nat}:∀(cs:List V) (off:Nat) {us:List Value}{bs:zN},Bx P w St cs us bs->(∀o,St' g o)->(∀(j:Nat) (u:Value),us[j]? =some u->w.cell? ⟨g,off+j,none⟩=some u)->(∀g∈bs,∀o,St' g o)->El w St' g off (RO cs)
  |[],_,_,_,_,_,_,_=>trivial
  |c::cs,off,_,_,⟨u,us',b1,b2,e1,e2,hc,h1,h2⟩,hgo,hu,hg=>by have h0:=hu 0 u (by rw[e1];rfl);refine⟨⟨hgo off,u,by simpa using h0,Ow.frz hs c h1 hc<|λg' hg'=>hg g'<|by rw[e2];exact AD _ hg'⟩,Bx.frz hs cs (off+1) h2 hgo (λj x hx=>?_)<|λg' hg'=>hg g'<|by rw[e2];exact AB _ hg'⟩;have:=hu (j+1) x (by rw[e1];simpa using hx);rw[show off+1+j=off+(j+1)by omega];exact this
end
end
def zT(P:Program)(c c':V):Prop:=
  ∀w a (t:Nat->Value) v bs,CC P w a t c v bs->bs.Nodup->∃d b1:zN,(∀g∈d,g∈bs)∧(∀g∈b1,g∈bs)∧b1.Nodup∧CC P w (λb o=>a b o∨b∈d) t c' v b1
section
variable {P:Program}{w:World}{St St':Nat->Nat->Prop}
def wA{c}(h:c.D3=true):(frz c).D3=true:=by cases c<;>first|rfl|cases h
def Ah8{c v}(a:c.D3=true)(h:Rd w St (frz c) v):Ow P w St (frz c) v []:=by cases c<;>first|exact⟨rfl,h⟩|cases a
def Bx.AaK(f:∀b o,St b o->St' b o):∀(cs:List V) {us:List Value}{bs:zN},Bx P w St cs us bs->(∀g∈bs,∀o,St' g o)->Bx P w St' (RO cs) us []
  |[],_,_,h,_=>⟨h.1,rfl⟩
  |c::cs,_,_,⟨u,d,b1,b2,j,e2,e,k,l⟩,i=>⟨u,d,[],[],j,rfl,wA e,Ah8 e<|Ow.frz f c k e<|λg a=>i g<|by rw[e2];exact AD _ a,Bx.AaK f cs l<|λg a=>i g<|by rw[e2];exact AB _ a⟩
def Ow.AaK{e n cs v bs}(h:Ow P w St (.own e n cs) v bs)(hn:bs.Nodup):∃fb b1:zN,(∀g∈fb,g∈bs)∧(∀g∈b1,g∈bs)∧b1.Nodup∧(∀g∈b1,g∉fb)∧Ow P w (λb o=>St b o∨b∈fb) (.own e n<|RO cs) v b1:=by
  have⟨hl,xs,bs',h1,h2,h3,h4,h5⟩:=h;rw[h3]at hn;have hn2:=AI.1 hn;have hap:∀g∈v.ownBlock.toList,g∉bs':=λg hg hg2=>hn2.2.2 g hg g hg2 rfl
  refine⟨bs',v.ownBlock.toList,λg hg=>by rw[h3];exact AB _ hg,λg hg=>by rw[h3];exact AD _ hg,hn2.1,hap,hl,xs,[],?_,Bx.AaK (λ_ _ h=>.inl h) cs h2<|λg hg o=>.inr hg,nF,λg hg o=>?_,λhz=>fA<|h5 hz⟩
  · refine⟨h1.1,?_⟩;rcases h1.2 with h|⟨g,cap,cur,rfl,hg,hh,r⟩
    · exact .inl h
    · exact .inr ⟨g,cap,cur,rfl,hg,hh,r⟩
  · refine⟨λh=>h.elim (λh=>(h4 g hg o).1 h)<|λhf=>absurd hf<|hap g<|by rw[hg];simp,λh=>.inl<|(h4 g hg o).2 h⟩
end
section
variable {P:Program}{nt:Nat}{bx:zN}{σ:PS}{K:PS->Prop}
def AaM{e n cs}:zT P (.own e n cs) (.arg n<|RO cs):=λw b t v bs h c=>⟨bs,[],λ_ h=>h,λ_ h=>(by cases h),AZ,⟨rfl,Ow.frz (λ_ _ h=>.inl h) (.own e n cs) h rfl<|λg a o=>.inr a⟩⟩
def AaL{e n cs A C}:zT P (.box<|A++.own e n cs::C) (.box<|A++.arg n (RO cs)::C):=by
  rintro w l t v bs ⟨g,T,G,y,H,e2,I,rfl,z⟩ J;have⟨L,M,B,p2,N,O,Q,R⟩:=I.app;have⟨u,m,k,q,D,F,hc,S,U⟩:=R;subst O F;have i:=BI.1 J;have d:=AI.1 i.2;have r:=AI.1 d.2.1;have f:∀p:zN,(∀x∈p,x∉k)->∀x∈p,w.heap[x]? =w.heap[x]? ∧∀o,(l x o∨x∈k)↔l x o:=λp W x c=>⟨rfl,λo=>⟨λh=>h.elim id<|λhf=>absurd hf<|W x c,.inl⟩⟩
  have X:=Bx.mono (St':=λb o=>l b o∨b∈k) (λ_ _ h=>.inl h) (λ_ _ _=>rfl) _ Q<|f B λx c j=>d.2.2 x c x (AD _ j) rfl
  have Y:=Bx.mono (St':=λb o=>l b o∨b∈k) (λ_ _ h=>.inl h) (λ_ _ _=>rfl) _ U<|f q λx c j=>r.2.2 x j x c rfl
  have Z:Ow P w (λb o=>l b o∨b∈k) (.arg n<|RO cs) u []:=⟨rfl,Ow.frz (λ_ _ h=>.inl h) (.own e n cs) S rfl<|λg hg o=>.inr hg⟩;refine⟨k,g::(B++q),?_,?_,?_,g,T,B++q,y,H,e2,?_,rfl,λo s=>?_⟩
  · intro x c;exact AW _<|AB _<|AD _ c
  · intro x c;simp only[AL,Al]at c⊢;rcases c with h|h|h
    · exact .inl h
    · exact .inr<|.inl h
    · exact .inr<|.inr<|.inr h
  · refine BI.2 ⟨λhm=>i.1 ?_,AI.2 ⟨d.1,r.2.1,λa ha b hb=>d.2.2 a ha b<|AB _ hb⟩⟩;simp only[Al]at hm⊢;rcases hm with h|h
    · exact .inl h
    · exact .inr<|.inr h
  · rw[N,D];exact Bx.join X<|show Bx P w _ (.arg n (RO cs)::C) (u::m) q from⟨u,m,[],q,rfl,nF,rfl,Z,Y⟩
  · rcases s with s|s
    · exact z o s
    · exact i.1<|AB _<|AD _ s
def wz{e n cs A C}:zT P (.box<|A++.own e n cs::C) (.box<|A++.own e n (RO cs)::C):=by
  rintro w y t v bs ⟨g,T,L,F,M,e2,N,rfl,G⟩ O;have⟨Q,R,H,p2,S,U,W,X⟩:=N.app;have⟨u,m,p3,q,I,J,hc,Y,Z⟩:=X;subst U J;have j:=BI.1 O;have c:=AI.1 j.2;have f:=AI.1 c.2.1;have⟨r,b1,z,B,q3,q4,q5⟩:=Ow.AaK Y f.1;have i:∀p:zN,(∀x∈p,x∉r)->∀x∈p,w.heap[x]? =w.heap[x]? ∧∀o,(y x o∨x∈r)↔y x o:=λp hp x d=>⟨rfl,λo=>⟨λh=>h.elim id<|λhf=>absurd hf<|hp x d,.inl⟩⟩
  have m1:=Bx.mono (St':=λb o=>y b o∨b∈r) (λ_ _ h=>.inl h) (λ_ _ _=>rfl) _ W<|i H λx d k=>c.2.2 x d x (AD _<|z x k) rfl
  have m4:=Bx.mono (St':=λb o=>y b o∨b∈r) (λ_ _ h=>.inl h) (λ_ _ _=>rfl) _ Z<|i q λx d k=>f.2.2 x (z x k) x d rfl
  refine⟨r,g::(H++(b1++q)),?_,?_,?_,g,T,H++(b1++q),F,M,e2,?_,rfl,λo s=>?_⟩
  · intro x d;exact AW _<|AB _<|AD _<|z x d
  · intro x d;simp only[AL,Al]at d⊢;rcases d with h|h|h|h
    · exact .inl h
    · exact .inr<|.inl h
    · exact .inr<|.inr<|.inl<|B x h
    · exact .inr<|.inr<|.inr h
  · refine BI.2 ⟨λhm=>j.1 ?_,AI.2 ⟨c.1,AI.2 ⟨q3,f.2.1,λa D b l=>f.2.2 a (B a D) b l⟩,λa D b l e=>?_⟩⟩
    · simp only[Al]at hm⊢;rcases hm with h|h|h
      · exact .inl h
      · exact .inr<|.inl<|B _ h
      · exact .inr<|.inr h
    · rcases Al.1 l with l|l
      · exact c.2.2 a D b (AD _<|B b l) e
      · exact c.2.2 a D b (AB _ l) e
  · rw[S,I];exact Bx.join m1<|show Bx P w _ (.own e n (RO cs)::C) (u::m) (b1++q)from⟨u,m,b1,q,rfl,rfl,rfl,q5,m4⟩
  · rcases s with s|s
    · exact G o s
    · exact j.1<|AB _<|AD _<|z g s
def kM{s c c'}(hs:σ s=c)(F:zT P c c')(hb:(DC c').isSome=(DC c).isSome)(hrf:Ex c'=none)
    (h:Gh P nt bx (upd σ s c') K):Gh P nt bx σ K:=by
  rintro base St0 w0 a w ⟨St,B,hS,r1,r2,r3⟩;have h1:=hS.slot s;rw[hs]at h1;have⟨fb,b1,q1,q2,q3,q4⟩:=F w St (tm a) (tm a s) (B s) h1<|hS.nodup s;have hB:∀r,r≠s->upd B s b1 r=B r:=λr e=>upd_ne _ _ e
  have hσ:∀r,r≠s->upd σ s c' r=σ r:=λr e=>upd_ne _ _ e
  have hin:∀r,∀g∈upd B s b1 r,g∈B r:=λr g hg=>by
    by_cases e:r=s
    · subst e;rw[upd_same]at hg;exact q2 g hg
    · rw[hB r e]at hg;exact hg
  refine h base St0 w0 a w ⟨λb o=>St b o∨b∈fb,upd B s b1,{hS with
    slot:=λr=>?_
    boxes:=λr cs e=>?_
    crefs:=λr b e=>?_
    nodup:=λr=>?_
    apart:=λr t hrt g hg hg2=>hS.apart r t hrt g (hin r g hg)<|hin t g hg2
    hapart:=λr g hg=>hS.hapart r g<|hin r g hg
    range:=λr g hg=>hS.range r g<|hin r g hg
    st:=λb o hbo=>hbo.elim (hS.st b o)<|λhf=>(hS.range s b<|q1 b hf).2
    gl:=hS.gl.of (λb hb o=>.inl (hb o)) (λ_ _ _=>rfl)},r1,λb o hbb=>⟨λhbo=>hbo.elim (r2 b o hbb).1 (λhf=>absurd hbb (hS.range s b (q1 b hf)).1),λh0=>.inl ((r2 b o hbb).2 h0)⟩,r3⟩
  · by_cases e:r=s
    · subst e;rw[upd_same,upd_same];exact q4
    · rw[hσ r e,hB r e];exact(hS.slot r).mono (λ_ _ h=>.inl h) (λ_ _ _=>rfl) (λg hg=>⟨rfl,λo=>⟨λh=>h.elim id<|λhf=>absurd (q1 g hf)<|hS.apart r s e g hg,.inl⟩⟩)<|λ_ _=>rfl
  · by_cases e1:r=s
    · subst e1;rw[upd_same]at e;rw[e]at hb;cases hx:DC c with
      |none=>rw[hx]at hb;cases hb
      |some ds=>exact hS.boxes r ds (by rw[hs];exact hx)
    · rw[hσ r e1]at e;exact hS.boxes r cs e
  · by_cases e1:r=s
    · subst e1;rw[upd_same,hrf]at e;cases e
    · rw[hσ r e1]at e;have⟨cs,hc⟩:=hS.crefs r b e;by_cases e2:b=s
      · subst e2;rw[hs]at hc;rw[upd_same];cases hx:DC c' with
        |none=>rw[hx,hc]at hb;cases hb
        |some ds=>exact⟨ds,rfl⟩
      · exact⟨cs,by rw[hσ b e2];exact hc⟩
  · by_cases e:r=s
    · subst e;rw[upd_same];exact q3
    · rw[hB r e];exact hS.nodup r
end
def mQ:∀(a b:List V),RO (a++b)=RO a++RO b
  |[],b=>rfl
  |c::a,b=>by rw[CR,RO,RO,mQ a b,CR]
def VU{α:Type}{f g}(h:∀x,RO (f x)=g x):∀l:List α,RO (l.flatMap f)=l.flatMap g
  |[]=>rfl
  |x::l=>by rw[AR,AR,mQ,h,VU h l]
section
variable {P:Program}{nt:Nat}{bx:zN}{K:PS->Prop}{L:PL}{α:Type}{f g:α->List V}{l:List α}{e:TypeId}
def gFb{b}(A C:List V)(a:lk L b=some (.box<|A++.own e l.length (l.flatMap f)::C))(c:∀x,RO (f x)=g x)
    (h:K (Cz<|(b,.box<|A++.arg l.length (l.flatMap g)::C)::L)):Gh P nt bx (Cz L) K:=by
  rw[<-VU c l]at h;exact kM (C6 a) AaL rfl rfl<|Ky h
def gFi{b}(A C:List V)(a:lk L b=some (.box<|A++.own e l.length (l.flatMap f)::C))(c:∀x,RO (f x)=g x)
    (h:K (Cz<|(b,.box<|A++.own e l.length (l.flatMap g)::C)::L)):Gh P nt bx (Cz L) K:=by
  rw[<-VU c l]at h;exact kM (C6 a) wz rfl rfl<|Ky h
def gFs{b}(a:lk L b=some (.own e l.length<|l.flatMap f))(c:∀x,RO (f x)=g x)
    (h:K (Cz<|(b,.arg l.length<|l.flatMap g)::L)):Gh P nt bx (Cz L) K:=by
  rw[<-VU c l]at h;exact kM (C6 a) AaM rfl rfl<|Ky h
end
def fzc{c c':V}{cs cs'}(h:frz c=c')(k:RO cs=cs'):RO (c::cs)=c'::cs':=by rw[RO,h,k]
def fzO{α:Type}{f g}(h:∀x,RO (f x)=g x)(e:TypeId)(l:List α):frz (.own e l.length<|l.flatMap f)=.arg l.length (l.flatMap g):=by rw[frz,VU h]
end
end Go.Proofs.YtdmpnamllcigdaaGreatDoor
