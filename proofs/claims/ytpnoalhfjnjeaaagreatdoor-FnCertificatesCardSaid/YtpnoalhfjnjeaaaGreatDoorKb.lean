/- A machine on data, part 2: code, the rules of the printed walks, loops. Over no program; no conditions. -/
import Derived.Test.YtpnoalhfjnjeaaaGreatDoorKq
open Go.RowKit
set_option linter.all false
namespace Go.Proofs.YtpnoalhfjnjeaaaGreatDoor
section
def p2{α β:Type}{a a':α}{b b':β}(h:(a,b)=(a',b')):a=a'∧b=b':=Prod.mk.inj h
section
variable {P:Program}{tb:Tb}{cns:zN}{σ:PS}{K:PS->Prop}{d s t:Nat}{x y z:Operand}
def DU{op:Op}{q:Nat}{e b:Bool}(g:e=b)(h:(gOp cns d op,σ q)=(true,.bool e))(k:Hh P tb cns ⟨some d,op,t,none⟩ σ K):Hh P tb cns ⟨some d,op,t,some (some q,b)⟩ σ K:=by subst g;obtain⟨a,c⟩:=p2 h;exact Afu a c k
def ed{o:LO}{os R W fps}(h:(aq R W o.op σ,adB cns R o σ)=(true,true))(k:Hh P tb cns o σ (λσ'=>bP P tb cns fps os σ' K)):bP P tb cns ((R,W)::fps) (o::os) σ K:=evd (p2 h).1 (p2 h).2 k
end
def vA(σ:PS):List (Nat×V)->List V
  |[]=>[]
  |(s,_)::L=>σ s::vA σ L
def vB:List (Nat×V)->List V
  |[]=>[]
  |(_,c)::L=>c::vB L
def AM{σ}:∀{L:List (Nat×V)},vA σ L=vB L->gG σ L
  |[],_=>trivial
  |(s,c)::L,h=>by
    injection h with h1 h2
    exact⟨h1 ▸ kr,AM h2⟩
section
variable {P:Program}{nt:Nat}{bx:zN}{σ:PS}{Q:Exit->PS->Prop}{tb:Tb}{cns:zN}
def kp{l}(L:List (Nat×V))(a:vA σ L=vB L)(b:okR L=true)(h:LS P nt bx l (CB L) Q):LS P nt bx l σ Q:=GC L (AM a) b h
end
end
section
abbrev PL:=List<|Nat×V
def WX{α:Type}(b:Bool)(x:Option α):Option α:=match b with
  |true=>x
  |false=>none
def DP{α:Type}{b:Bool}{x:Option α}{r:α}(h:WX b x=some r):b=true∧x=some r:=by
  cases b with
  |true=>exact⟨rfl,h⟩
  |false=>cases h
def Aa2:V->Option V
  |.int k n=>some<|.int k n
  |.bool b=>some<|.bool b
  |.str s=>some<|.str s
  |.own e n cs=>some<|.own e n cs
  |.dat n cs=>some<|.dat n cs
  |.arg n cs=>some<|.arg n cs
  |.pin u n cs=>some<|.pin u n cs
  |.fn f=>some<|.fn f
  |.tok u=>some<|.tok u
  |_=>none
def kZ:List V->Option (List V)
  |[]=>some []
  |c::cs=>G (Aa2 c) λa=>G (kZ cs) λas=>some<|a::as
def Aa3:V->Option V
  |.agg cs=>G (kZ cs) λas=>some<|.agg as
  |c=>Aa2 c
def tu:List V->Option (List V)
  |[]=>some []
  |c::cs=>G (Aa3 c) λa=>G (tu cs) λas=>some<|a::as
def ak:V->Option V
  |.tup cs=>G (tu cs) λas=>some<|.tup as
  |.box cs=>G (kZ cs) λas=>some<|.box as
  |.cref s o=>some<|.cref s o
  |.adr cs o=>some<|.adr cs o
  |.same s=>some<|.same s
  |.val s u=>some<|.val s u
  |.uni e n cs=>some<|.uni e n cs
  |c=>Aa3 c
def oW{c d}(h:Aa2 c=some d):d=c:=by cases c<;>first|(cases h;rfl)|cases h
def cC:∀{cs ds:List V},kZ cs=some ds->ds=cs
  |[],_,h=>by cases h;rfl
  |c::cs,_,h=>by rw[kZ]at h;have⟨a,b,h⟩:=AZ h;have⟨e,d,h⟩:=AZ h;cases h;rw[oW b,cC d]
def oX{c d}(h:Aa3 c=some d):d=c:=by
  cases c with
  |agg cs=>have⟨b,a,h⟩:=AZ<|show G (kZ cs) _=_ from h;cases h;rw[cC a]
  |_=>exact oW h
def oY:∀{cs ds:List V},tu cs=some ds->ds=cs
  |[],_,h=>by cases h;rfl
  |c::cs,_,h=>by rw[tu]at h;have⟨a,b,h⟩:=AZ h;have⟨e,d,h⟩:=AZ h;cases h;rw[oX b,oY d]
def HC{c d}(h:ak c=some d):d=c:=by
  cases c with
  |tup cs=>have⟨b,a,h⟩:=AZ<|show G (tu cs) _=_ from h;cases h;rw[oY a]
  |box cs=>have⟨b,a,h⟩:=AZ<|show G (kZ cs) _=_ from h;cases h;rw[cC a]
  |cref s o=>cases h;rfl
  |adr s o=>cases h;rfl
  |same s=>cases h;rfl
  |val s u=>cases h;rfl
  |uni e n cs=>cases h;rfl
  |_=>exact oX h
def lk:PL->Nat->Option V
  |[],_=>none
  |(s,c)::L,q=>match Nat.beq q s with
    |true=>some c
    |false=>lk L q
def EH(s:Nat)(c:V)(L:PL):CB ((s,c)::L)=upd (CB L) s c:=rfl
def QF:∀(L:PL) (q:Nat),CB L q=(lk L q).getD .undef
  |[],_=>rfl
  |(s,c)::L,q=>by
    rw[lk,EH];cases h:Nat.beq q s with
    |true=>rw[CV h,upd_same];rfl
    |false=>rw[upd_ne _ _ (Nat.ne_of_beq_eq_false h)];exact QF L q
def C3{L q c}(h:lk L q=some c):CB L q=c:=by rw[QF,h];rfl
def Tu(L:PL):Operand->Option V
  |.tmp s=>lk L s
  |.const v=>ak<|cV v
  |.func f=>some<|.fn f
  |_=>none
def D1{L x c}(h:Tu L x=some c):Cz (CB L) x=c:=by
  cases x with
  |tmp s=>exact C3 h
  |const v=>exact(HC h).symm
  |func f=>cases h;rfl
  |_=>cases h
def adO(L:PL):Operand->Option V
  |.tmp s=>G (lk L s) λc=>match c with
    |.box _=>some<|.cref s 0
    |c=>some c
  |.global g=>ak<|lD g
  |_=>none
def Tz{L x c}(h:adO L x=some c):NQ (CB L) x=c:=by
  cases x with
  |tmp s=>
    have⟨a,b,h⟩:=AZ<|show G (lk L s) _=_ from h
    have:=C3 b;simp only[NQ,this];cases a<;>(cases h;rfl)
  |global g=>exact(HC h).symm
  |_=>cases h
def yj:V->Bool
  |.own .. =>true
  |_=>false
def yl:V->Bool
  |.agg cs=>cs.any yj
  |c=>yj c
def AhE:V->Bool
  |.tup cs=>cs.any yl
  |c=>yl c
def yk{c}(h:yj c=false):WG c=c:=by cases c<;>first|rfl|cases h
def lY:∀{cs:List V},cs.any yj=false->cs.map WG=cs
  |[],_=>rfl
  |c::cs,h=>by rw[Ft,Cp]at h;rw[AH,yk h.1,lY h.2]
def pU{c}(h:yl c=false):dg2 c=c:=by
  cases c with
  |agg cs=>rw[dg2,lY h]
  |_=>first|rfl|cases h
def lZ:∀{cs:List V},cs.any yl=false->cs.map dg2=cs
  |[],_=>rfl
  |c::cs,h=>by rw[Ft,Cp]at h;rw[AH,pU h.1,lZ h.2]
def AdZ{c}(h:AhE c=false):dg c=c:=by
  cases c with
  |tup cs=>rw[dg,lZ h]
  |agg cs=>exact pU (c:=.agg cs) h
  |_=>first|rfl|cases h
def mB(σ:PS)(s:Nat):upd σ s (σ s)=σ:=by
  funext q;by_cases e:q=s
  · rw[e,upd_same]
  · rw[upd_ne _ _ e]
def WO(L:PL)(x:Operand)(c:V):Option PL:=match x with
  |.tmp s=>match AhE c with
    |false=>some L
    |true=>G (ak<|dg c) λc'=>some<|(s,c')::L
  |_=>some L
def Po{L L' x c}(h:Tu L x=some c)(a:WO L x c=some L'):CB L'=CZ (CB L) x:=by
  cases x with
  |tmp s=>
    have e:=C3 h;simp only[WO,CZ]at a⊢;split at a
    · rename_i b;cases a;rw[e,AdZ b,<-e,mB]
    · have⟨c',d,a⟩:=AZ a;cases a;rw[HC d,EH,e]
  |_=>cases a;rfl
def mvO(L:PL):Operand->Option V
  |.tmp s=>G (lk L s) λc=>match c with
    |.uni _ _ _=>some<|.same s
    |.same b=>some<|.same b
    |.box _=>some<|.cref s 0
    |.cref b o=>some<|.cref b o
    |c=>WX c.isVal<|ak<|dg c
  |.const v=>G (ak<|cV v) λc=>WX c.isVal<|ak<|dg c
  |_=>none
def cF:Option TyD->Bool
  |some (.sc<|.bool false)=>true
  |_=>false
def kEq:IntKind->IntKind->Bool
  |.i64,.i64=>true
  |.u8,.u8=>true
  |k,a=>decide (k=a)
def ju{k k'}(h:kEq k k'=true):k=k':=by cases k<;>cases k'<;>first|rfl|cases h
def zj(d:Option TyD):List V->List V->Bool
  |[.int k _,.int l _],[.int a _,.int b _]=>kEq k a&&(kEq l b&&d.elim false TyD.two)
  |_,_=>false
def zk{d a b}(h:zj d a b=true):zl d a b:=by
  unfold zj at h;split at h
  · rw[Ad,Ad]at h;exact⟨ju h.1,ju h.2.1,h.2.2⟩
  · cases h
def wQ(d:Option TyD):BinOp->V->V->Bool
  |.shl,.int _ _,.int _ b=>decide (0<=b)
  |.shr,.int _ _,.int _ b=>decide (0<=b)
  |.quo,.int k _,.int c b=>kEq k c&& !decide (b=0)
  |.rem,.int k _,.int c b=>kEq k c&& !decide (b=0)
  |_,.int k _,.int c _=>kEq k c
  |.eql,.str _,.str _=>true
  |.neq,.str _,.str _=>true
  |.lss,.str _,.str _=>true
  |.leq,.str _,.str _=>true
  |.gtr,.str _,.str _=>true
  |.geq,.str _,.str _=>true
  |.eql,.agg a,.agg b=>zj d a b
  |.neq,.agg a,.agg b=>zj d a b
  |.eql,.bool _,.bool _=>cF d
  |.neq,.bool _,.bool _=>cF d
  |_,_,_=>false
def unB:UnOp->V->Bool
  |.not,.bool _=>true
  |.neg,.int _ _=>true
  |_,_=>false
def cvB(tb:Tb)(s d:TypeId)(x:V):Option V:=match tb s,tb d,x with
  |some _,some (.sc<|.int k _),.int _ n=>some<|.int k<|k.wrap n
  |_,_,_=>none
def bxL(L:PL)(s:Nat):Option (List V):=G (lk L s) C0
def ur(tb:Tb)(L:PL)(t:TypeId)(x:Operand):Option V:=G (tb t) λd=>G (adO L x) λc=>match c with
  |.cref s off=>G (bxL L s) λcs=>WX (Nat.ble (off+d.size) cs.length)<|ak<|getCells d cs off
  |.adr cs off=>WX (Nat.ble (off+d.size) cs.length)<|ak<|getCells d cs off
  |_=>none
def ptF(k:Nat):Value->Option V
  |.pointer (some ⟨g,o,none⟩)=>some<|.tok<|.pointer<|some ⟨g,o+k,none⟩
  |_=>none
def Ad1{k u v}(h:ptF k u=some v):xO u=true∧tokF k u=v:=by
  unfold ptF at h;split at h
  · cases h;exact⟨rfl,rfl⟩
  · cases h
def faO(tb:Tb)(L:PL)(t:TypeId)(x:Operand)(f:Nat):Option V:=G (tb t) λd=>match d with
  |.st _ _ a=>G (a[f]?) λp=>G (adO L x) λc=>match c with
    |.cref s o=>G (bxL L s) λ_=>some<|.cref s<|o+p.1
    |.adr cs o=>some<|.adr cs<|o+p.1
    |.tok u=>ptF p.1 u
    |_=>none
  |_=>none
def Ahy(L:PL)(x:Operand):Option V:=G (adO L x) λc=>match c with
  |.cref s o=>G (bxL L s) λ_=>some<|.cref s o
  |.adr cs o=>some<|.adr cs o
  |_=>none
def bf:Option TyD->Bool
  |some (.sc<|.str [])=>true
  |_=>false
def ls:Option TyD->Bool
  |some (.sl ..)=>true
  |_=>false
def Af0(L:PL)(d:Option TyD):V->Option V
  |.str s=>WX (bf d)<|some<|.int .i64 s.length
  |.same b=>G (lk L b) λc=>match c with
    |.uni _ n _=>WX (ls d)<|some<|.int .i64 n
    |_=>none
  |c=>G (Mk c) λp=>WX (ls d)<|some<|.int .i64 p.1
def kD(tb:Tb)(L:PL):Callee->List Operand->List TypeId->Option V
  |.builtin .len,[x],[t]=>G (Tu L x)<|Af0 L<|tb t
  |.builtin .max,[x,y],_=>G (Tu L x) λa=>G (Tu L y) λb=>match a,b with
    |.int k a,.int _ b=>some<|.int k (if a < b then b else a)
    |_,_=>none
  |.builtin .min,[x,y],_=>G (Tu L x) λa=>G (Tu L y) λb=>match a,b with
    |.int k a,.int _ b=>some<|.int k (if b < a then b else a)
    |_,_=>none
  |_,_,_=>none
def me(tb:Tb)(L:PL):Op->Option V
  |.move x=>mvO L x
  |.pick c a b=>G (Tu L c) λq=>match q with
    |.bool e=>match e with
      |true=>G (Tu L a) λc=>WX c.isVal<|ak<|dg c
      |false=>G (Tu L b) λc=>WX c.isVal<|ak<|dg c
    |_=>none
  |.binOp op t x y _=>G (Tu L x) λa=>G (Tu L y) λb=>WX (wQ (tb t) op a b)<|ak<|mK op a b
  |.unOp op _ x=>G (Tu L x) λa=>WX (unB op a)<|ak<|unV op a
  |.convert s d x=>G (Tu L x) λa=>cvB tb s d a
  |.load t x=>ur tb L t x
  |.fieldAddr t x f=>faO tb L t x f
  |.call c=>kD tb L c.callee c.args.toList c.argTypes.toList
  |_=>none
def nx{d}(h:cF d=true):d=some (.sc<|.bool false):=by
  unfold cF at h;split at h
  · rfl
  · cases h
def bg{d}(h:bf d=true):d=some (.sc<|.str []):=by
  unfold bf at h;split at h
  · rfl
  · cases h
def lu{d}(h:ls d=true):∃e es a b,d=some (.sl e es a b):=by
  unfold ls at h;split at h
  · exact⟨_,_,_,_,rfl⟩
  · cases h
def wR{d op a b}(h:wQ d op a b=true):iH d op a b:=by cases a<;>cases b<;>cases op<;>first|(cases h;done)|exact trivial|exact nx h|exact ju h|exact zk h|(simp only[wQ,Bu]at h;exact h)|(simp only[wQ,Ad,AY,FH]at h;exact⟨ju h.1,h.2⟩)
def Aey{op a}(h:unB op a=true):unC op a:=by cases a<;>cases op<;>first|(cases h;done)|exact trivial
def AeB{σ s c}(e:σ s=c)(h:c.isVal=true):mvC σ (.tmp s)∧mvV σ (.tmp s)=dg c:=by subst e;simp only[mvC,mvV];cases a:σ s<;>rw[a]at h<;>first|(cases h;done)|exact⟨h,rfl⟩
def uG{L:PL}{x:Operand}{v:V}(h:mvO L x=some v):mvC (CB L) x∧mvV (CB L) x=v:=by
  cases x with
  |tmp s=>
    obtain⟨c,d,h⟩:=AZ<|show G (lk L s) _=_ from h
    have e:=C3 d;cases c with
    |uni a b c=>cases h;simp only[mvC,mvV,e];exact⟨trivial,trivial⟩
    |same b=>cases h;simp only[mvC,mvV,e];exact⟨trivial,trivial⟩
    |box b=>cases h;simp only[mvC,mvV,e];exact⟨trivial,trivial⟩
    |cref b o=>cases h;simp only[mvC,mvV,e];exact⟨trivial,trivial⟩
    |_=>obtain⟨f,g⟩:=DP h;obtain⟨i,j⟩:=AeB e f;exact⟨i,j.trans (HC g).symm⟩
  |const c=>
    obtain⟨c,d,h⟩:=AZ<|show G (ak<|cV c) _=_ from h
    obtain⟨f,g⟩:=DP h;have e:=HC d;subst e;exact⟨f,(HC g).symm⟩
  |_=>cases h
def lH{tb:Tb}{L:PL}{t:TypeId}{x:Operand}{v:V}(h:ur tb L t x=some v):Wd (tb t) (CB L) (NQ (CB L) x)∧We (tb t) (CB L) (NQ (CB L) x)=v:=by
  obtain⟨d,b,h⟩:=AZ h;obtain⟨c,e,h⟩:=AZ h;rw[b,Tz e];simp only[Wd,We];cases c with
  |cref s off=>obtain⟨cs,f,h⟩:=AZ h;obtain⟨a,h⟩:=DP h;obtain⟨c,g,i⟩:=AZ f;have:=C3 g;simp only[Xm,ZJ,this,i];exact⟨nb a,(HC h).symm⟩
  |adr cs off=>obtain⟨a,h⟩:=DP h;exact⟨nb a,(HC h).symm⟩
  |_=>cases h
def tf{tb L t x f v}(h:faO tb L t x f=some v):kT (tb t) f (CB L) (NQ (CB L) x)∧tg (tb t) f (NQ (CB L) x)=v:=by
  have⟨d,a,h⟩:=AZ h;cases d with
  |st n z k=>
    have⟨p,b,h⟩:=AZ h;have⟨c,e,h⟩:=AZ h;rw[a,Tz e];simp only[kT,tg,b];cases c with
    |cref s o=>have⟨cs,g,h⟩:=AZ h;have⟨c,i,j⟩:=AZ g;cases h;have:=C3 i;exact⟨⟨cs,by rw[this,j]⟩,rfl⟩
    |adr cs o=>cases h;exact⟨trivial,rfl⟩
    |tok u=>exact Ad1 h
    |_=>cases h
  |_=>cases h
def x6{L x v}(h:Ahy L x=some v):faC (CB L) (NQ (CB L) x)∧NQ (CB L) x=v:=by
  have⟨c,a,h⟩:=AZ h;rw[Tz a];cases c with
  |cref s o=>have⟨cs,b,h⟩:=AZ h;have⟨c,d,e⟩:=AZ b;cases h;have:=C3 d;exact⟨⟨cs,by rw[this,e]⟩,rfl⟩
  |adr cs o=>cases h;exact⟨trivial,rfl⟩
  |_=>cases h
def jx{L:PL}{d:Option TyD}{c v:V}{n:Nat}{cs:List V}(e:Mk c=some (n,cs))(h:WX (ls d) (some<|V.int .i64 n)=some v):Yo d (CB L) c∧fL (CB L) c=v:=by obtain⟨f,h⟩:=DP h;obtain⟨a,b,z,q,rfl⟩:=lu f;cases h;cases c<;>first|(cases e;done)|(cases e;exact⟨trivial,rfl⟩)
def xP{L:PL}{d:Option TyD}{c v:V}(h:Af0 L d c=some v):Yo d (CB L) c∧fL (CB L) c=v:=by
  cases c with
  |str s=>
    obtain⟨f,h⟩:=DP<|show WX (bf d) _=_ from h
    cases h;exact⟨bg f,rfl⟩
  |same b=>
    obtain⟨c,f,h⟩:=AZ<|show G (lk L b) _=_ from h
    have:=C3 f;cases c with
    |uni e n cs=>obtain⟨g,h⟩:=DP h;obtain⟨a,b,c,z,rfl⟩:=lu g;cases h;simp only[Yo,fL,this];exact⟨trivial,trivial⟩
    |_=>cases h
  |own e n cs=>exact jx rfl h
  |dat n cs=>exact jx rfl h
  |arg n cs=>exact jx rfl h
  |pin u n cs=>exact jx rfl h
  |_=>cases h
def dm{tb L c xs ts v}(h:kD tb L c xs ts=some v):TY tb (CB L) c xs ts∧QP (CB L) c xs=v:=by
  unfold kD at h;split at h
  · have⟨a,d,h⟩:=AZ h;simp only[TY,QP,D1 d];exact xP h
  · have⟨a,d,h⟩:=AZ h;have⟨b,e,h⟩:=AZ h;simp only[TY,QP,D1 d,D1 e];split at h
    · cases h;exact⟨trivial,rfl⟩
    · cases h
  · have⟨a,d,h⟩:=AZ h;have⟨b,e,h⟩:=AZ h;simp only[TY,QP,D1 d,D1 e];split at h
    · cases h;exact⟨trivial,rfl⟩
    · cases h
  · cases h
def ZT{tb:Tb}{L:PL}{op:Op}{v:V}(h:me tb L op=some v):pc tb (CB L) op∧pv tb (CB L) op=v:=by
  cases op with
  |move x=>exact uG h
  |pick c a b=>
    obtain⟨q,i,h⟩:=AZ<|show G (Tu L c) _=_ from h
    simp only[pc,pv,D1 i];cases q with
    |bool e=>
      cases e with
      |true=>obtain⟨c,j,h⟩:=AZ h;obtain⟨g,h⟩:=DP h;simp only[eH,eI,D1 j,EL];exact⟨g,(HC h).symm⟩
      |false=>obtain⟨c,j,h⟩:=AZ h;obtain⟨g,h⟩:=DP h;simp only[eH,eI,D1 j,Ca,Dz];exact⟨g,(HC h).symm⟩
    |_=>cases h
  |binOp op t x y k=>
    obtain⟨a,i,h⟩:=AZ<|show G (Tu L x) _=_ from h
    obtain⟨b,j,h⟩:=AZ h;obtain⟨g,h⟩:=DP h;simp only[pc,pv,D1 i,D1 j];exact⟨wR g,(HC h).symm⟩
  |unOp op t x=>
    obtain⟨a,i,h⟩:=AZ<|show G (Tu L x) _=_ from h
    obtain⟨g,h⟩:=DP h;simp only[pc,pv,D1 i];exact⟨Aey g,(HC h).symm⟩
  |convert s d x=>
    obtain⟨a,i,h⟩:=AZ<|show G (Tu L x) _=_ from h
    simp only[pc,pv,D1 i];unfold cvB at h;split at h
    · rename_i j g;cases h;simp only[dq,gd,j,g];exact⟨trivial,trivial⟩
    · cases h
  |load t x=>exact lH h
  |fieldAddr t x f=>exact tf h
  |call c=>exact dm h
  |_=>cases h
def Ul(L:PL)(g:Option (Option Nat×Bool))(d:Nat)(v:Option PL):Option PL:=match g with
  |none=>v
  |some (some q,b)=>G (lk L q) λc=>match c with
    |.bool e=>match e,b with
      |true,true=>v
      |false,false=>v
      |_,_=>some<|(d,.tup [])::L
    |.tup _=>some<|(d,.tup [])::L
    |_=>none
  |some (none,_)=>none
def wM(tb:Tb)(t:TypeId)(x:Operand)(d:Nat)(L:PL):Option PL:=match x with
  |.const (.slice none 0 0)=>G (tb t) λdd=>match dd with
    |.sl e _ _ _=>some<|(d,.own e 0 [])::L
    |_=>none
  |.const (.pointer none)=>some<|(d,.undef)::L
  |.tmp p=>G (lk L p) λc=>match c with
    |.box _=>some<|(d,.cref p 0)::L
    |.cref b o=>some<|(d,.cref b o)::L
    |c=>WX c.isVal<|G (WO L (.tmp p) c) λL'=>some<|(d,c)::L'
  |.const v=>G (ak<|cV v) λc=>WX c.isVal<|some<|(d,c)::L
  |_=>none
def loadT(tb:Tb)(t:TypeId)(x:Operand)(d:Nat)(L:PL):Option PL:=G (tb t) λdd=>G (adO L x) λa=>match a with
  |.cref s off=>G (lk L s) λc=>match c with
    |.box cs=>WX (Nat.ble (off+dd.size) cs.length)<|G (ak<|.box<|RF dd.size cs off) λb=>G (ak<|TW dd cs off) λv=>some<|(d,v)::(s,b)::L
    |_=>none
  |.adr cs off=>WX (Nat.ble (off+dd.size) cs.length)<|G (ak<|getCells dd cs off) λv=>some<|(d,v)::L
  |_=>none
def AiJ(s i d:Nat)(L:PL):Option PL:=G (lk L s) λt=>match t with
  |.tup cs=>G (cs[i]?) λc=>WX (cs.all V.isArg)<|G (ak<|.tup<|cs.set i<|dg2 c) λt'=>some<|(d,c)::(s,t')::L
  |_=>none
def Ajm(tb:Tb)(t:TypeId)(x y:Operand)(L:PL):Option PL:=G (tb t) λdd=>G (adO L x) λa=>match a with
  |.cref s off=>G (lk L s) λb=>match b with
    |.box cs=>G (Tu L y) λc=>WX (c.isArg&&(Nat.beq (Ij c).length dd.size&&Nat.ble (off+dd.size) cs.length))<|G (WO L y c) λL'=>G (ak<|.box<|Qg cs off<|Ij c) λb'=>some<|(s,b')::L'
    |_=>none
  |_=>none
def nbL(L:PL)(d:Nat):Bool:=match lk L d with
  |some c=>DM c
  |none=>true
def eh{L d}(h:nbL L d=true):DM (CB L d)=true:=by
  unfold nbL at h;rw[QF];cases a:lk L d with
  |none=>rfl
  |some c=>rw[a]at h;exact h
def alO(tb:Tb)(t:TypeId)(d:Nat)(L:PL):Option PL:=G (tb t) λdd=>WX (nbL L d)<|G (ak<|.box<|fC dd) λb=>some<|(d,b)::L
def AaG(x:Operand)(d:Nat)(L:PL):Option PL:=G (Tu L x) λc=>WX c.isArg<|G (WO L x c) λL'=>WX (nbL L' d)<|G (ak<|.box<|Ij c) λb=>some<|(d,b)::L'
def kU(a:Nat->Option (Nat×Nat)):List (Nat×Operand)->PL->List V->Option (PL×List V)
  |[],L,cs=>some (L,cs)
  |(i,x)::r,L,cs=>G (a i) λp=>G (Tu L x) λc=>WX (c.isArg&&(Nat.beq (Ij c).length p.2&&Nat.ble (p.1+p.2) cs.length))<|G (WO L x c) λL'=>kU a r L'<|Qg cs p.1<|Ij c
def dC{a:Nat->Option (Nat×Nat)}:∀{ps:List (Nat×Operand)}{L L':PL}{cs cs':List V},kU a ps L cs=some (L',cs')->SM a ps (CB L) cs=some (CB L',cs')
  |[],_,_,_,_,h=>by cases h;rfl
  |(i,x)::r,L,L',cs,cs',h=>by rw[kU]at h;obtain⟨p,e,h⟩:=AZ h;obtain⟨c,d,h⟩:=AZ h;obtain⟨b,h⟩:=DP h;obtain⟨g,f,h⟩:=AZ h;simp only[Ad]at b;rw[SM,e];simp only;rw[D1 d,At ⟨b.1,CV b.2.1,nb b.2.2⟩,<-Po d f];exact dC h
def AiD(tb:Tb)(t:TypeId)(ps:List (Nat×Operand))(d:Nat)(L:PL):Option PL:=G (tb t) λdd=>match dd with
  |.st _ z a=>G (kU (λi=>a[i]?) ps L z) λq=>G (ak<|.agg q.2) λc=>some<|(d,c)::q.1
  |_=>none
def OY(tb:Tb)(e:zN)(o:LO)(L:PL):Option PL:=match o with
  |⟨some d,op,t,g⟩=>match op with
    |.assign x=>match g,e.contains d with
      |none,false=>wM tb t x d L
      |_,_=>none
    |.move x=>match e.contains d with
      |true=>(match g with
        |none=>wM tb t x d L
        |_=>none)
      |false=>Ul L g d<|G (mvO L x) λv=>some<|(d,v)::L
    |.load t x=>match e.contains d with
      |true=>(match g with
        |none=>loadT tb t x d L
        |_=>none)
      |false=>Ul L g d<|G (ur tb L t x) λv=>some<|(d,v)::L
    |.extract (.tmp s) i=>match g with
      |none=>AiJ s i d L
      |_=>none
    |.alloc t=>match g with
      |none=>alO tb t d L
      |_=>none
    |.box _ x=>match g with
      |none=>AaG x d L
      |_=>none
    |.build t ps=>Ul L g d<|AiD tb t ps.toList d L
    |.pick c a b=>Ul L g d<|G (me tb L<|.pick c a b) λv=>some<|(d,v)::L
    |.binOp p t x y h=>Ul L g d<|G (me tb L<|.binOp p t x y h) λv=>some<|(d,v)::L
    |.unOp p t x=>Ul L g d<|G (me tb L<|.unOp p t x) λv=>some<|(d,v)::L
    |.convert s t x=>Ul L g d<|G (me tb L<|.convert s t x) λv=>some<|(d,v)::L
    |.fieldAddr t x f=>Ul L g d<|G (faO tb L t x f) λv=>some<|(d,v)::L
    |.nilCheck x=>Ul L g d<|G (Ahy L x) λv=>some<|(d,v)::L
    |.call c=>match c.callee with
      |.value (.func _)=>(match e.contains d with
        |true=>none
        |false=>Ul L g d none)
      |.value (.tmp _)=>none
      |.value (.const _)=>none
      |.value (.global _)=>none
      |_=>Ul L g d<|G (kD tb L c.callee c.args.toList c.argTypes.toList) λv=>some<|(d,v)::L
    |.index .. =>Ul L g d none
    |.indexAddr .. =>Ul L g d none
    |.slice .. =>Ul L g d none
    |.buildSlice .. =>Ul L g d none
    |.field .. =>Ul L g d none
    |_=>none
  |⟨none,.store t x y,_,none⟩=>Ajm tb t x y L
  |_=>none
section
variable {P:Program}{tb:Tb}{cns:zN}{L L':PL}{K:PS->Prop}{d:Nat}
def LJ{op t g v}(i:∀r,v=some r->pc tb (CB L) op∧pv tb (CB L) op=r)(h:Ul L g d (G v λv=>some<|(d,v)::L)=some L')(k:K (CB L')):Mn tb ⟨some d,op,t,g⟩ (CB L) K:=by
  have a:∀{L':PL},G v (λv=>some<|(d,v)::L)=some L'->K (CB L')->pc tb (CB L) op∧K (upd (CB L) d<|pv tb (CB L) op):=by intro L' h k;have⟨r,f,h⟩:=AZ h;cases h;have⟨j,l⟩:=i r f;exact⟨j,by rw[l];exact k⟩
  unfold Ul at h;split at h
  · exact a h k
  · rename_i q b;have⟨c,f,h⟩:=AZ h;simp only[Mn,C3 f];cases c with
    |bool e=>
      cases e<;>cases b<;>simp only at h<;>first
        |exact⟨rfl,λ_=>a h k,λe=>by cases e⟩
        |(cases h;exact⟨rfl,(λe=>by cases e),λ_=>k⟩)
    |tup cs=>cases h;exact⟨rfl,(λe=>by cases e),λ_=>k⟩
    |_=>cases h
  · cases h
def cD{o g v}{X:Prop}(f:o.g=g)(a:∀L',v=some L'->K (CB L')->X)(h:Ul L g d v=some L')(k:K (CB L')):S4 o d (CB L) K X:=by
  subst f;unfold Ul at h;unfold S4;split at h
  · rename_i e;rw[e];exact a _ h k
  · rename_i q b e;rw[e];have⟨c,i,h⟩:=AZ h;simp only[C3 i];cases c with
    |bool e=>
      cases e<;>cases b<;>simp only at h<;>first
        |exact⟨rfl,λ_=>a _ h k,λe=>by cases e⟩
        |(cases h;exact⟨rfl,(λe=>by cases e),λ_=>k⟩)
    |tup cs=>cases h;exact⟨rfl,(λe=>by cases e),λ_=>k⟩
    |_=>cases h
  · cases h
def ol{x o}(h:wM tb o.ty x d L=some L')(k:K (CB L')):SZ tb o x d (CB L) K:=by
  unfold wM at h;split at h
  · have⟨dd,a,h⟩:=AZ h;cases dd with
    |sl e es n q=>cases h;simp only[SZ,a];exact k
    |_=>cases h
  · cases h;simp only[SZ];exact k
  · rename_i p;have⟨c,a,h⟩:=AZ h;have g:WX c.isVal (G (WO L (.tmp p) c) λL'=>some<|(d,c)::L')=some L'->SZ tb o (.tmp p) d (CB L) K:=by intro h;have⟨i,h⟩:=DP h;have⟨r,l,h⟩:=AZ h;cases h;have e:=Po (x:=.tmp p) a l;rw[EH,e]at k;exact wN (C3 a) i (by rw[<-C3 a];simp only[CZ]at k;rw[C3 a]at k⊢;exact k)
    cases c with
    |box cs=>cases h;simp only[SZ,C3 a];exact k
    |cref b o=>cases h;simp only[SZ,C3 a];exact k
    |_=>exact g h
  · rename_i v m j;have⟨c,a,h⟩:=AZ h;have⟨i,h⟩:=DP h;cases h;have e:=HC a;subst e;unfold SZ;split
    · rename_i f;injection f with f;exact absurd (by rw[f]) m
    · rename_i f;injection f with f;exact absurd (by rw[f]) j
    · rename_i f;cases f
    · exact⟨i,k⟩
  · cases h
def Afc{t cal args ts g L L'}(h:Ul L g d (G (kD tb L cal args.toList ts.toList) λv=>some<|(d,v)::L)=some L')(k:K (CB L')):Mn tb ⟨some d,.call ⟨cal,args,ts⟩,t,g⟩ (CB L) K:=LJ (op:=.call ⟨cal,args,ts⟩) (λr a=>dm a) h k
def fv{o}(h:OY tb cns o L=some L')(k:K (CB L')):Hh P tb cns o (CB L) K:=by
  have⟨J,op,t,g⟩:=o;cases J with
  |none=>
    unfold OY at h;split at h
    · rename_i M;cases M
    · rename_i O x y ty M;injection M with e1 e2 e3 e4
      subst e2 e4;have⟨dd,u,h⟩:=AZ h;have⟨a,A,h⟩:=AZ h;cases a with
      |cref s off=>
        have⟨b,C,h⟩:=AZ h;cases b with
        |box cs=>have⟨c,l,h⟩:=AZ h;have⟨F,h⟩:=DP h;have⟨R,I,h⟩:=AZ h;have⟨b',S,h⟩:=AZ h;cases h;simp only[Ad]at F;have e:=HC S;subst e;simp only[Hh,j9,u,Tz A,C3 C,C0,WM,D1 l];refine⟨trivial,F.1,CV F.2.1,nb F.2.2,?_⟩;rw[<-Po l I];exact k
        |_=>cases h
      |_=>cases h
    · cases h
  |some d=>
    cases op with
    |assign x=>
      simp only[OY]at h;split at h
      · rename_i D;simp only[Hh,D,Ca,Dz];exact⟨trivial,ol (o:=⟨some d,.assign x,t,none⟩) h k⟩
      · cases h
    |move x=>
      simp only[OY]at h;split at h
      · rename_i D;cases g with
        |none=>simp only[Hh,D,EL];exact⟨trivial,ol (o:=⟨some d,.move x,t,none⟩) h k⟩
        |some g=>cases h
      · rename_i D;simp only[Hh,D,Ca,Dz];exact LJ (λr j=>uG j) h k
    |load s x=>
      simp only[OY]at h;split at h
      · rename_i D;cases g with
        |none=>
          simp only[Hh,D,EL];refine⟨trivial,?_⟩;have⟨dd,u,h⟩:=AZ h;have⟨a,A,h⟩:=AZ h;simp only[ZI,u,Tz A];cases a with
          |cref b off=>
            have⟨c,C,h⟩:=AZ h;cases c with
            |box cs=>have⟨l,h⟩:=DP h;have⟨b',F,h⟩:=AZ h;have⟨v,I,h⟩:=AZ h;cases h;rw[HC F,HC I]at k;simp only[C3 C,C0,WM];exact⟨nb l,k⟩
            |_=>cases h
          |adr cs off=>have⟨l,h⟩:=DP h;have⟨v,I,h⟩:=AZ h;cases h;rw[HC I]at k;exact⟨nb l,k⟩
          |_=>cases h
        |some g=>cases h
      · rename_i D;simp only[Hh,D,Ca,Dz];exact LJ (λr j=>lH j) h k
    |extract x i=>
      cases x with
      |tmp s=>
        cases g with
        |none=>
          simp only[OY]at h;have⟨a,u,h⟩:=AZ h;cases a with
          |tup cs=>have⟨c,A,h⟩:=AZ h;have⟨C,h⟩:=DP h;have⟨v,l,h⟩:=AZ h;cases h;rw[HC l]at k;simp only[Hh,kR,C3 u,A];exact⟨trivial,C,k⟩
          |_=>cases h
        |some g=>cases h
      |_=>cases h
    |alloc s=>
      cases g with
      |none=>
        have⟨dd,u,h⟩:=AZ<|show G (tb s) _=_ from h
        have⟨A,h⟩:=DP h;have⟨v,l,h⟩:=AZ h;cases h;rw[HC l]at k;exact Aft (eh A) u k
      |some g=>cases h
    |box ty x=>
      cases g with
      |none=>
        have⟨c,u,h⟩:=AZ<|show G (Tu L x) _=_ from h
        have⟨A,h⟩:=DP h;have⟨R,C,h⟩:=AZ h;have⟨l,h⟩:=DP h;have⟨v,F,h⟩:=AZ h;cases h;rw[HC F]at k;have e:=Po u C;have l:=eh l;rw[e]at l;simp only[Hh,boxS,D1 u];exact⟨trivial,A,l,by rw[<-e];exact k⟩
      |some g=>cases h
    |build s ps=>
      simp only[OY]at h;simp only[Hh];refine cD rfl (λL1 h k=>?_) h k;have⟨dd,u,h⟩:=AZ h;cases dd with
      |st n z T=>have⟨q,A,h⟩:=AZ h;have⟨c,C,h⟩:=AZ h;cases h;rw[HC C]at k;simp only[W4,u,dC (L':=q.1) (cs':=q.2) A];exact k
      |_=>cases h
    |pick c a b=>simp only[OY]at h;exact LJ (op:=.pick c a b) (λr j=>ZT j) h k
    |binOp p t x y O=>simp only[OY]at h;exact LJ (op:=.binOp p t x y O) (λr j=>ZT j) h k
    |unOp p t x=>simp only[OY]at h;exact LJ (op:=.unOp p t x) (λr j=>ZT j) h k
    |convert s t x=>simp only[OY]at h;exact LJ (op:=.convert s t x) (λr j=>ZT j) h k
    |fieldAddr t x f=>simp only[OY]at h;exact LJ (op:=.fieldAddr t x f) (λr j=>tf j) h k
    |nilCheck x=>simp only[OY]at h;exact LJ (op:=.nilCheck x) (λr j=>x6 j) h k
    |index s x y=>simp only[OY]at h;exact LJ (op:=.index s x y) (v:=none) (λr j=>by cases j) h k
    |indexAddr s x y=>simp only[OY]at h;exact LJ (op:=.indexAddr s x y) (v:=none) (λr j=>by cases j) h k
    |slice s x lo hi m=>simp only[OY]at h;exact LJ (op:=.slice s x lo hi m) (v:=none) (λr j=>by cases j) h k
    |buildSlice s n ps=>simp only[OY]at h;simp only[Hh];exact cD rfl (λL1 h k=>by cases h) h k
    |field s x f=>simp only[OY]at h;simp only[Hh];exact cD rfl (λL1 h k=>by cases h) h k
    |call c=>
      have⟨N,w,ts⟩:=c;simp only[OY]at h;cases N with
      |value x=>
        cases x with
        |func f=>
          simp only at h;cases H:cns.contains d with
          |true=>rw[H]at h;cases h
          |false=>
            rw[H]at h;simp only at h;show Lo P cns ⟨some d,.call ⟨.value<|.func f,w,ts⟩,t,g⟩ f w.toList (CB L) K;unfold Lo;rw[As (by simpa using H)];left;unfold TC;unfold Ul at h;cases g with
            |none=>cases h
            |some g=>
              have⟨q,b⟩:=g;cases q with
              |none=>cases h
              |some q=>
                have⟨c,u,h⟩:=AZ<|show G (lk L q) _=_ from h
                simp only[C3 u];cases c with
                |bool e=>
                  cases e<;>cases b<;>simp only at h<;>first
                    |(cases h;done)
                    |(cases h;exact⟨rfl,(λe=>by cases e),λ_=>k⟩)
                |tup cs=>cases h;exact⟨rfl,(λe=>by cases e),λ_=>k⟩
                |_=>cases h
        |_=>cases h
      |builtin b=>
        have Q:Mn tb ⟨some d,.call ⟨.builtin b,w,ts⟩,t,g⟩ (CB L) K:=LJ (op:=.call ⟨.builtin b,w,ts⟩) (λr j=>dm j) h k;cases b with
        |append=>
          simp only[Hh,W6];split
          · rename_i B;cases B
          · rename_i _ B _ _;injection B with B
            subst B;refine cD rfl (λL1 h k=>?_) h k;have⟨r,j,_⟩:=AZ h;cases j
          · exact Q
        |_=>exact Q
      |_=>exact Afc h k
    |_=>cases h
end
def ms(tb:Tb)(a:zN):Nat->List LO->PL->Option (List LO×PL)
  |0,os,L=>some (os,L)
  |_+1,[],_=>none
  |n+1,o::os,L=>G (OY tb a o L) λL'=>ms tb a n os L'
def wP(L:PL)(R:zN)(p:Nat):Bool:=match lk L p with
  |some c=>fD R c
  |none=>true
def oo{L R p}(h:wP L R p=true):fD R (CB L p)=true:=by
  unfold wP at h;rw[QF];cases a:lk L p with
  |none=>rfl
  |some c=>rw[a]at h;exact h
def sE(L:PL)(R W:zN)(p:Nat):Bool:=match lk L p with
  |some c=>kx R W p c
  |none=>true
def sF{L R W p}(h:sE L R W p=true):kx R W p (CB L p)=true:=by
  unfold sE at h;rw[QF];cases a:lk L p with
  |none=>rfl
  |some c=>rw[a]at h;exact h
def nK(L:PL)(p:Nat):Bool:=match lk L p with
  |some c=>ZQ c
  |none=>true
def rz{L p}(h:nK L p=true):ZQ (CB L p)=true:=by
  unfold nK at h;rw[QF];cases a:lk L p with
  |none=>rfl
  |some c=>rw[a]at h;exact h
def AaF(L:PL)(p:Nat):Bool:=match lk L p with
  |some c=>sM c
  |none=>false
def wT{L p}(h:AaF L p=true):sM (CB L p)=true:=by
  unfold AaF at h;rw[QF];cases a:lk L p with
  |none=>rw[a]at h;cases h
  |some c=>rw[a]at h;exact h
def tkL(L:PL)(p:Nat):Bool:=match lk L p with
  |some c=>t9 c
  |none=>false
def Aeu{L p}(h:tkL L p=true):t9 (CB L p)=true:=by
  unfold tkL at h;rw[QF];cases a:lk L p with
  |none=>rw[a]at h;cases h
  |some c=>rw[a]at h;exact h
def stepD(tb:Tb)(a:zN):Nat->List (zN×zN)->List LO->PL->Option (List (zN×zN)×List LO×PL)
  |0,fps,os,L=>some (fps,os,L)
  |n+1,(R,W)::fps,o::os,L=>WX ((adP o.op).all (wP L R)&&((adC o.op).all (sE L R W)&&((adS o.op).all (nK L)&&(((adU a o).all (wP L R)&&(adT a o).all (tkL L))&&(ptS a).all (AaF L)))))<|G (OY tb a o L) λL'=>stepD tb a n fps os L'
  |_+1,_,_,_=>none
def gu(L:PL):zN->Option PL
  |[]=>some []
  |s::ss=>G (lk L s) λc=>G (gu L ss) λL'=>some<|(s,c)::L'
def Yn(L:PL)(ss:zN):Option PL:=G (gu L ss) λL'=>WX (okR L')<|some L'
def ly{L}:∀{ss:zN}{L':PL},gu L ss=some L'->gG (CB L) L'
  |[],_,h=>by cases h;trivial
  |s::ss,_,h=>by rw[gu]at h;have⟨c,a,h⟩:=AZ h;have⟨d,b,h⟩:=AZ h;cases h;exact⟨(C3 a) ▸ kr,ly b⟩
def lz{L L' ss}(h:Yn L ss=some L'):gG (CB L) L'∧okR L'=true:=by have⟨c,a,h⟩:=AZ h;have⟨b,h⟩:=DP h;cases h;exact⟨ly a,b⟩
def S9:Nat->List V->PL
  |_,[]=>[]
  |i,c::cs=>(i,c)::S9 (i+1) cs
def nw:∀(b:List V) (i s:Nat),gG (λq=>(b[q - i]?).getD<|.tup []) (S9 i b)
  |[],_,_=>trivial
  |c::cs,i,s=>by
    refine⟨by simpa using kr,?_⟩;have h:=nw cs (i+1) s
    have e:∀(L:PL) (f g:PS),(∀p∈L,f p.1=g p.1)->gG f L->gG g L:=by
      intro L f g;induction L with
      |nil=>intro _ _;trivial
      |cons p L k=>have⟨q,c⟩:=p;intro l m;exact⟨by rw[<-l (q,c) (by simp)];exact m.1,k (λp a=>l p<|by simp[a]) m.2⟩
    have d:∀(cs:List V) (j:Nat),∀p∈S9 j cs,j<=p.1:=by
      intro cs;induction cs with
      |nil=>intro j p a;simp[S9]at a
      |cons c cs k=>
        intro j p a;simp only[S9,AA]at a;rcases a with rfl|a
        · exact Bb _
        · have:=k (j+1) p a;omega
    refine e _ _ _ (λp a=>?_) h;have:=d cs (i+1) p a;rw[show p.1 - i=(p.1 - (i+1))+1 by omega,CS]
section
variable {P:Program}{tb:Tb}{cns:zN}{L L':PL}{K:PS->Prop}{ops os:List LO}{fps fps':List (zN×zN)}
def fu:∀{n:Nat}{ops:List LO}{L:PL},ms tb cns n ops L=some (os,L')->aJ P tb cns os (CB L') K->aJ P tb cns ops (CB L) K
  |0,_,_,h,k=>by cases h;exact k
  |_+1,[],_,h,_=>by cases h
  |n+1,o::ops,L,h,k=>by rw[ms]at h;have⟨b,a,h⟩:=AZ h;exact fv (K:=λσ'=>aJ P tb cns ops σ' K) a<|fu h k
def AE(n:Nat)(h:ms tb cns n ops L=some ([],L'))(k:K (CB L')):aJ P tb cns ops (CB L) K:=fu h k
def sp(n:Nat)(h:ms tb cns n ops L=some (os,L'))(k:aJ P tb cns os (CB L') K):aJ P tb cns ops (CB L) K:=fu h k
def mr:∀{n:Nat}{fps:List (zN×zN)}{ops:List LO}{L:PL},stepD tb cns n fps ops L=some (fps',os,L')->bP P tb cns fps' os (CB L') K->bP P tb cns fps ops (CB L) K
  |0,_,_,_,h,k=>by cases h;exact k
  |n+1,[],_,_,h,_=>by cases h
  |n+1,_::_,[],_,h,_=>by cases h
  |n+1,(R,W)::fps,o::ops,L,h,k=>by rw[stepD]at h;have⟨b,h⟩:=DP h;have⟨d,c,h⟩:=AZ h;simp only[Ad,Ap]at b;refine evd (by unfold aq;rw[Ad,Ad];exact⟨Ap.2 λp a=>oo<|b.1 p a,Ap.2 λp a=>sF<|b.2.1 p a,Ap.2 λp a=>rz<|b.2.2.1 p a⟩) (by unfold adB bxS;rw[Ad,Ad];exact⟨⟨Ap.2 λp a=>oo<|b.2.2.2.1.1 p a,Ap.2 λp a=>Aeu<|b.2.2.2.1.2 p a⟩,Ap.2 λp a=>wT<|b.2.2.2.2 p a⟩) ?_;exact fv (K:=λσ'=>bP P tb cns fps ops σ' K) c<|mr h k
def sd(n:Nat)(h:stepD tb cns n fps ops L=some (fps',os,L'))(k:bP P tb cns fps' os (CB L') K):bP P tb cns fps ops (CB L) K:=mr h k
def uq{q c b}(e:c=b)(h:lk L q=some (.bool c)):CB ((q,.bool b)::L)=CB L:=by subst e;rw[EH,<-C3 h,mB]
def qg(q:Nat){c b:Bool}(e:c=b)(h:lk L q=some (.bool c))(k:aJ P tb cns ops (CB<|(q,.bool b)::L) K):aJ P tb cns ops (CB L) K:=by rw[uq e h]at k;exact k
def Pd(q:Nat){c b:Bool}(e:c=b)(h:lk L q=some (.bool c))(k:bP P tb cns fps ops (CB<|(q,.bool b)::L) K):bP P tb cns fps ops (CB L) K:=by rw[uq e h]at k;exact k
end
section
variable {P:Program}{nt:Nat}{bx:zN}{l:LC}{Q:Exit->PS->Prop}{tb:Tb}{cns:zN}{L L':PL}
def qk(ss:zN)(h:Yn L ss=some L')(k:LS P nt bx l (CB L') Q):LS P nt bx l (CB L) Q:=GC L' (lz h).1 (lz h).2 k
def qi(a:List V)(b:okR (S9 0 a)=true)(k:LS P nt bx l (CB<|S9 0 a) Q):LS P nt bx l (Gm a) Q:=GC _ (nw a 0 0) b k
end
section
variable {P:Program}{tb:Tb}{cns:zN}{L:PL}{K:PS->Prop}{d s t:Nat}{x y z:Operand}
def wI(L:PL)(x:Operand):Option V:=G (Tu L x) λc=>WX c.isArg<|some c
def XG{c}(h:wI L x=some c):Cz (CB L) x=c∧c.isArg=true:=by have⟨c',a,h⟩:=AZ h;have⟨b,h⟩:=DP h;cases h;exact⟨D1 a,b⟩
def qa{c a:V}{xs as}(b:wI L x=some c)(e:er c=a)(f:erA (CB L) xs as):erA (CB L) (x::xs) (a::as):=era (by rw[(XG b).1];exact(XG b).2) (by rw[(XG b).1];exact e) f
def AiW:V->Bool
  |.int .. |.bool .. |.str .. |.fn .. =>true
  |_=>false
def qs{a:V}{xs as}(b:G (wI L x) (λc=>WX (AiW c)<|some c)=some a)(e:erA (CB L) xs as):erA (CB L) (x::xs) (a::as):=by have⟨c,f,h⟩:=AZ b;have⟨g,h⟩:=DP h;cases h;exact qa f (by cases a<;>first|rfl|cases g) e
def cnF(a:cns.contains d=false):(some d).toList.any cns.contains=false:=by simpa using a
def qC{f args ts as r}(a:erA (CB L) args.toList as)(b:Mp P f as r)(k:K (CB<|(d,r)::L))(c:cns.contains d=false:=by rfl):Hh P tb cns ⟨some d,.call {callee:=.value (.func f),args:=args,argTypes:=ts},t,none⟩ (CB L) K:=xe (cnF c) a b k
def qCt{f p args ts as r}(a:lk L p=some (.fn f))(b:erA (CB L) args.toList as)(c:Mp P f as r)(k:K (CB<|(d,r)::L))(e:cns.contains d=false:=by rfl):Hh P tb cns ⟨some d,.call {callee:=.value (.tmp p),args:=args,argTypes:=ts},t,none⟩ (CB L) K:=by
  have⟨g,h⟩:=aH b;subst h
  show(match Cz (CB L) (.tmp p)with
    |.fn f=>Lo P cns _ f args.toList (CB L) K
    |.tok u=>YB P cns _ u args.toList (CB L) K
    |_=>e9 cns _ (CB L) K)
  rw[show Cz (CB L) (.tmp p)=.fn f from C3 a];show Lo P cns _ f args.toList (CB L) K;unfold Lo;rw[As (by simpa using e)];exact .inl ⟨g,r,.inl c,k⟩
def iaO(tb:Tb)(L:PL)(s:TypeId)(x y:Operand):Option (Nat×List V×Int×Nat):=G (Tu L x) λa=>G (Mk a) λp=>G (Tu L y) λb=>match b with
  |.int _ i=>G (tb s) λdd=>match dd with
    |.sl _ es _ _=>some (p.1,p.2,i,es)
    |_=>none
  |_=>none
def qI{α:Type}{f:α->List V}{l:List α}{i:Int}{e:α}{n:Nat}(h:iaO tb L s x y=some (l.length,l.flatMap f,i,n))(c:∀x,(f x).length=n)(hi:AF l i=some e)(k:K (CB<|(d,.adr (f e++(l.drop<|i.toNat+1).flatMap f) 0)::L)):Hh P tb cns ⟨some d,.indexAddr s x y,t,none⟩ (CB L) K:=by
  obtain⟨a,g,h⟩:=AZ h;obtain⟨p,m,h⟩:=AZ h;obtain⟨b,o,h⟩:=AZ h;obtain⟨g1,g2,q⟩:=BB hi;cases b with
  |int A j=>
    obtain⟨dd,r,h⟩:=AZ h;cases dd with
    |sl B es C D=>simp only[Ay,Ch]at h;obtain⟨u,e2,v,w⟩:=h;subst v w;refine Afv (n:=l.length) (cs:=l.flatMap f) (by rw[D1 g,m];cases p;cases u;cases e2;rfl) (D1 o) r ⟨g1,g2⟩ ?_;have:=(tq c q 0).resolve_right (by omega);rw[Di,Cj]at this;rw[this];exact k
    |_=>cases h
  |_=>cases h
def Ajk(tb:Tb)(L:PL)(s:TypeId)(x y:Operand):Option (zU×Int):=G (Tu L x) λa=>match a with
  |.str u=>G (Tu L y) λb=>match b with
    |.int _ i=>WX (bf<|tb s)<|some (u,i)
    |_=>none
  |_=>none
def qX{u i b}(h:Ajk tb L s x y=some (u,i))(hi:AF u i=some b)(k:K (CB<|(d,.int .u8 b.toNat)::L)):Hh P tb cns ⟨some d,.index s x y,t,none⟩ (CB L) K:=by
  have⟨a,c,h⟩:=AZ h;cases a with
  |str g=>
    have⟨b',e,h⟩:=AZ h;cases b' with
    |int l j=>have⟨f,h⟩:=DP h;cases h;exact AaX (D1 c) (D1 e) (bg f) hi k
    |_=>cases h
  |_=>cases h
def bdO(a:Int)(L:PL):Option Operand->Option Int
  |none=>some a
  |some x=>G (Tu L x) SG
def iF{dflt i lo}(h:bdO dflt L lo=some i):W2 dflt (lo.map<|Cz<|CB L)=some i:=by
  cases lo with
  |none=>exact h
  |some x=>
    have⟨c,a,h⟩:=AZ<|show G (Tu L x) _=_ from h
    simp only[B3,W2,D1 a];exact h
def Ajl(tb:Tb)(L:PL)(s:TypeId)(x:Operand)(lo hi:Option Operand):Option (zU×Int×Int):=G (Tu L x) λa=>match a with
  |.str u=>WX (bf<|tb s)<|G (bdO 0 L lo) λl=>G (bdO u.length L hi) λh=>some (u,l,h)
  |_=>none
def ib{u lo hi l h}(b:Ajl tb L s x lo hi=some (u,l,h))(c:0<=l∧l<=h∧h<=u.length)(k:K (CB<|(d,.str<|B5 u l h)::L)):Hh P tb cns ⟨some d,.slice s x lo hi none,t,none⟩ (CB L) K:=by
  have⟨a,e,b⟩:=AZ b;cases a with
  |str j=>have⟨f,b⟩:=DP b;have⟨m,g,b⟩:=AZ b;have⟨n,i,b⟩:=AZ b;cases b;exact AaZ (D1 e) (bg f) (iF g) (iF i) c k
  |_=>cases b
def wH:V->Bool
  |.arg .. =>true
  |_=>false
def u7{a}(h:wH a=false)(n:Nat)(cs:List V):ZS a n cs=.dat n cs:=by cases a<;>first|rfl|cases h
def rR{a}(h:wH a=true)(n:Nat)(cs:List V):ZS a n cs=.arg n cs:=by cases a<;>first|rfl|cases h
def Aeo(tb:Tb)(L:PL)(b:Bool)(s:TypeId)(x:Operand)(lo hi:Option Operand):Option (Nat×List V×Nat×Int×Int):=G (Tu L x) λa=>WX (wH a==b) <| G (Mk a) λp=>G (tb s) λdd=>match dd with
  |.sl _ es _ _=>G (bdO 0 L lo) λl=>G (bdO p.1 L hi) λh=>some (p.1,p.2,es,l,h)
  |_=>none
def AhG{α:Type}{f:α->List V}{lst:List α}{n:Nat}{lo hi:Option Operand}{l h:Int}{b:Bool}(c:Aeo tb L b s x lo hi=some (lst.length,lst.flatMap f,n,l,h))(m:∀x,(f x).length=n)(o:0<=l∧l<=h∧h<=lst.length)(k:∀a,wH a=b->K (CB<|(d,ZS a (B5 lst l h).length<|(B5 lst l h).flatMap f)::L)):Hh P tb cns ⟨some d,.slice s x lo hi none,t,none⟩ (CB L) K:=by
  obtain⟨a,g,c⟩:=AZ c;obtain⟨q,c⟩:=DP c;obtain⟨p,r,c⟩:=AZ c;obtain⟨dd,u,c⟩:=AZ c;cases dd with
  |sl e es C D=>obtain⟨F,v,c⟩:=AZ c;obtain⟨H,i,c⟩:=AZ c;simp only[Ay,Ch]at c;obtain⟨j,e2,w,A,B⟩:=c;subst w A B;rw[j]at i;exact AaY (lst:=lst) (f:=f) (by rw[D1 g,r];cases p;cases j;cases e2;rfl) u m (iF v) (iF i) o (by rw[D1 g];exact k a<|eq_of_beq q)
  |_=>cases c
def eL{α:Type}{f:α->List V}{lst:List α}{n:Nat}{lo hi:Option Operand}{l h:Int}(a:Aeo tb L false s x lo hi=some (lst.length,lst.flatMap f,n,l,h))(b:∀x,(f x).length=n)(c:0<=l∧l<=h∧h<=lst.length)(k:K (CB<|(d,.dat (B5 lst l h).length<|(B5 lst l h).flatMap f)::L)):Hh P tb cns ⟨some d,.slice s x lo hi none,t,none⟩ (CB L) K:=
  AhG a b c λa e=>by rw[u7 e];exact k
def qSa{α:Type}{f:α->List V}{lst:List α}{n:Nat}{lo hi:Option Operand}{l h:Int}(a:Aeo tb L true s x lo hi=some (lst.length,lst.flatMap f,n,l,h))(b:∀x,(f x).length=n)(c:0<=l∧l<=h∧h<=lst.length)(k:K (CB<|(d,.arg (B5 lst l h).length<|(B5 lst l h).flatMap f)::L)):Hh P tb cns ⟨some d,.slice s x lo hi none,t,none⟩ (CB L) K:=
  AhG a b c λa e=>by rw[rR e];exact k
def AiC(L:PL)(x y:Operand):Option (V×V):=G (Tu L x) λa=>G (Tu L y) λb=>some (a,b)
def qB{op ta tc c1 c2 v}(h:AiC L x y=some (c1,c2))(c:iH (tb ta) op c1 c2)(e:ak (mK op c1 c2)=some v)(k:K (CB<|(d,v)::L)):Hh P tb cns ⟨some d,.binOp op ta x y tc,t,none⟩ (CB L) K:=by have⟨a,f,h⟩:=AZ h;have⟨b,g,h⟩:=AZ h;cases h;rw[HC e]at k;exact AaR (D1 f) (D1 g) c k
def qCs{a b e es eb ez w z' l}(f:G (Tu L x) Mk=some (l.length,l.flatMap G1))(g:tb a=some (.sl e es eb ez))(h:tb b=some (.sc<|.str w))(i:tb e=some (.sc<|.int .u8 z'))(k:K (CB<|(d,.str<|bytesOf l)::L)):Hh P tb cns ⟨some d,.convert a b x,t,none⟩ (CB L) K:=by have⟨c,g1,g2⟩:=AZ f;exact AaS (by rw[D1 g1];exact g2) g h i k
def Afa(tb:Tb)(L:PL)(s:TypeId)(p q:Nat):Option (Nat×List V×Nat×Nat×List V×V×PL):=G (lk L p) λa=>match a with
  |.own e n cs=>G (WO L (.tmp p)<|.own e n cs) λL1=>G (lk L1 q) λc=>G (Mk c) λr=>G (WO L1 (.tmp q) c) λL2=>G (tb s) λdd=>match dd with
    |.sl e' es _ _=>WX (Nat.beq e e'&&c.isVal)<|some (n,cs,es,r.1,r.2,c,L2)
    |_=>none
  |_=>none
def qA{α:Type}(f:α->List V)(l m:List α){es p q:Nat}{e:TypeId}{ds:List V}{c:V}{n:PL}(h:Afa tb L s p q=some (l.length,l.flatMap f,es,m.length,ds,c,n))(g:lk L p=some (.own e l.length<|l.flatMap f))(v:ds.length=m.length * es)(w:au c=m.flatMap f)(A:l.length+m.length<=lim)
    (k:K (CB<|(d,.own e (l++m).length<|(l++m).flatMap f)::n)):Hh P tb cns ⟨some d,.call {callee:=.builtin .append,args:= #[.tmp p,.tmp q],argTypes:= #[s,s]},t,none⟩ (CB L) K:=by
  have⟨a,o,h⟩:=AZ h;rw[g]at o;cases o;have⟨B,C,h⟩:=AZ h;have⟨c',i,h⟩:=AZ h;have⟨r,D,h⟩:=AZ h;have⟨S,F,h⟩:=AZ h;have⟨dd,H,h⟩:=AZ h;cases dd with
  |sl T I U W=>dsimp only at h;have⟨j,h⟩:=DP h;simp only[Ad]at j;have J:=CV j.1;have h:=Ed h;simp only[Ch]at h;have⟨_,_,e2,M,N,O,Q⟩:=h;subst J e2 O Q;have u:=Po (x:=.tmp p) g C;have R:=Po (x:=.tmp q) i F;simp only[CZ,C3 g]at u;have b:CB B=upd (CB L) p (.dat l.length<|l.flatMap f):=u;refine AaP (f:=f) (l:=l) (m:=m) (c2:=c') (ds:=ds) (C3 g) (by rw[<-b];exact C3 i) (by rw[D];cases r;cases M;cases N;rfl) v H w A j.2 ?_;rw[EH,R]at k;simp only[CZ,C3 i,b]at k;exact k
  |_=>cases h
def qAd{α:Type}(f g i:α->List V)(l m:List α){es p q:Nat}{e:TypeId}{ds:List V}{c:V}{w:PL}(h:Afa tb L s p q=some (l.length,l.flatMap f,es,m.length,ds,c,w))(j:lk L p=some (.own e l.length<|l.flatMap f))(C:ds.length=m.length * es)(D:au c=m.flatMap i)(F:l.length+m.length<=lim)(H:∀x,(f x).map WG=g x)(I:∀x,(i x).map WG=g x)(n:∀x,(f x).all V.DF=true)(o:∀x,(i x).all V.DF=true)
    (k:K (CB<|(d,.own e (l++m).length<|(l++m).flatMap g)::w)):Hh P tb cns ⟨some d,.call {callee:=.builtin .append,args:= #[.tmp p,.tmp q],argTypes:= #[s,s]},t,none⟩ (CB L) K:=by
  have⟨a,A,h⟩:=AZ h;rw[j]at A;cases A;have⟨J,M,h⟩:=AZ h;have⟨c',u,h⟩:=AZ h;have⟨r,N,h⟩:=AZ h;have⟨Z,O,h⟩:=AZ h;have⟨dd,Q,h⟩:=AZ h;cases dd with
  |sl e' R eb ez=>dsimp only at h;have⟨v,h⟩:=DP h;simp only[Ad]at v;have S:=CV v.1;have h:=Ed h;simp only[Ch]at h;have⟨_,_,e2,T,U,W,X⟩:=h;subst S e2 W X;have B:=Po (x:=.tmp p) j M;have Y:=Po (x:=.tmp q) u O;simp only[CZ,C3 j]at B;have b:CB J=upd (CB L) p (.dat l.length<|l.flatMap f):=B;refine xd (f:=f) (g:=g) (h:=i) (l:=l) (m:=m) (c2:=c') (ds:=ds) (C3 j) (by rw[<-b];exact C3 u) (by rw[N];cases r;cases T;cases U;rfl) C Q D F v.2 H I n o ?_;rw[EH,Y]at k;simp only[CZ,C3 u,b]at k;exact k
  |_=>cases h
def bsO(tb:Tb)(L:PL)(s:TypeId)(n:Nat)(ps:List (Nat×Operand)):Option (TypeId×Nat×PL×List V):=G (tb s) λdd=>match dd with
  |.sl e es _ a=>WX (Nat.ble (n * es) 16777216)<|G (kU (λi=>some (i * es,es)) ps L<|Uq a es n) λq=>G (kZ q.2) λcs=>some (e,es,q.1,cs)
  |_=>none
def DV{α:Type}(f:α->List V)(l:List α){e:TypeId}{es n:Nat}{ps:Array (Nat×Operand)}{a:PL}{cs:List V}(h:bsO tb L s n ps.toList=some (e,es,a,cs))(b:l.length=n)(c:cs=l.flatMap f)(g:∀x,(f x).length=es)(k:K (CB<|(d,.own e l.length<|l.flatMap f)::a)):Hh P tb cns ⟨some d,.buildSlice s n ps,t,none⟩ (CB L) K:=by
  have⟨dd,i,h⟩:=AZ h;cases dd with
  |sl u j v w=>
    have⟨m,h⟩:=DP h;have⟨q,o,h⟩:=AZ h;have⟨cs',p,h⟩:=AZ h;cases h;have r:=cC p;subst c;simp only[Hh,S4,kA,i,dC (L':=q.1) (cs':=q.2) o];rw[<-r];refine⟨nb m,?_,?_⟩
    · rw[A3 g,b]
    · rw[b]at k;exact k
  |_=>cases h
def qBk{α:Type}(f:α->List V)(l:List α)(e:TypeId)(es:Nat){n:Nat}{ps:Array (Nat×Operand)}(h:bsO tb L s n ps.toList=some (e,es,L,l.flatMap f))(a:l.length=n)(b:∀x,(f x).length=es)(k:K (CB<|(d,.own e l.length<|l.flatMap f)::L)):Hh P tb cns ⟨some d,.buildSlice s n ps,t,none⟩ (CB L) K:=DV f l h a rfl b k
def mkO(tb:Tb)(L:PL)(s:TypeId)(x y:Operand):Option (Int×Int×TypeId×Nat×List V):=G (Tu L x) λa=>G (Tu L y) λb=>match a,b with
  |.int _ n,.int _ m=>G (tb s) λdd=>match dd with
    |.sl e es _ c=>some (n,m,e,es,c)
    |_=>none
  |_,_=>none
def AdH{n m e es ez}(h:mkO tb L s x y=some (n,m,e,es,ez)):∃c f g,Cz (CB L) x=.int c n∧Cz (CB L) y=.int f m∧tb s=some (.sl e es g ez):=by
  have⟨a,i,h⟩:=AZ h;have⟨b,j,h⟩:=AZ h;cases a<;>first|(cases h;done)|skip
  cases b<;>first|(cases h;done)|skip
  have⟨dd,k,h⟩:=AZ h;cases dd<;>first|(cases h;done)|skip
  cases h;exact⟨_,_,_,D1 i,D1 j,k⟩
def qMu{α:Type}(f:α->List V)(z:α){e:TypeId}{es:Nat}{a:List V}{n:Int}(c:cns.contains d=true)(h:mkO tb L s x y=some (n,n,e,es,a))(g:f z=a)(b:a.length=es)(i:0<=n∧n.toNat<=lim)(j:nbL L d=true)(k:K (CB<|(d,.uni e (List.replicate n.toNat z).length<|(List.replicate n.toNat z).flatMap f)::L)):Hh P tb cns ⟨some d,.makeSlice s x y,t,none⟩ (CB L) K:=by have⟨p,q,r,l,m,o⟩:=AdH h;exact AaW c l m o g b i (eh j) k
def lA(D:zN)(L:PL):PL:=L.map λp=>(p.1,if D.contains p.1=true then .undef else match D4 p.2 with
  |some b=>if D.contains b=true then .undef else p.2
  |none=>p.2)
def ZF(D:zN):∀L:PL,CB (lA D L)=kill D (CB L)
  |[]=>by funext s;simp[lA,CB,kill,D4]
  |(q,c)::L=>by
    have a:=ZF D L;funext s;show CB ((q,_)::lA D L) s=_;rw[EH];by_cases e:s=q
    · subst e;rw[upd_same];unfold kill;rw[EH,upd_same];rfl
    · rw[upd_ne _ _ e,a];unfold kill;rw[EH,upd_ne _ _ e]
def frL:PL->Option PL
  |[]=>some []
  |(s,.undef)::L=>G (frL L) λL'=>some<|(s,.undef)::L'
  |(s,c)::L=>G (ak c) λc=>G (frL L) λL'=>some<|(s,c)::L'
def i9:∀{L L':PL},frL L=some L'->L'=L
  |[],_,h=>by cases h;rfl
  |(s,c)::L,L',h=>by
    unfold frL at h;split at h
    · rename_i a;cases a
    · rename_i a;cases a;have⟨e,b,h⟩:=AZ h;cases h;rw[i9 b]
    · rename_i a;cases a;have⟨g,f,h⟩:=AZ h;have⟨e,b,h⟩:=AZ h;cases h;rw[i9 b,HC f]
def qTu{e n cs L1}(a:cns.contains d=true)(h:lk L s=some (.uni e n cs))(b:frL (lA [s] L)=some L1)(k:K (CB<|(d,.own e n cs)::(s,.dat n cs)::L1)):Hh P tb cns ⟨some d,.move<|.tmp s,t,none⟩ (CB L) K:=by rw[i9 b]at k;refine xf a (C3 h) ?_;rw[<-ZF];exact k
def qAu{e n cs L1}(a:cns.contains d=true)(h:lk L s=some (.uni e n cs))(b:frL (lA [s] L)=some L1)(c:nbL L1 d=true)(k:K (CB<|(d,.uni e n cs)::L1)):Hh P tb cns ⟨some d,.assign<|.tmp s,t,none⟩ (CB L) K:=by have f:=i9 b;subst f;refine AaQ a (C3 h) (by rw[<-ZF];exact eh c) ?_;rw[<-ZF];exact k
def iuO(tb:Tb)(L:PL)(s:TypeId)(x y:Operand):Option (Nat×Nat×Int×Nat):=G (Tu L x) λa=>match a with
  |.same b=>G (lk L b) λu=>match u with
    |.uni _ n _=>G (Tu L y) λc=>match c with
      |.int _ i=>G (tb s) λdd=>match dd with
        |.sl _ es _ _=>some (b,n,i,es)
        |_=>none
      |_=>none
    |_=>none
  |_=>none
def fM{b n es i}(h:iuO tb L s x y=some (b,n,i,es))(hi:0<=i∧i < n)(k:K (CB<|(d,.cref b<|i.toNat * es)::L)):Hh P tb cns ⟨some d,.indexAddr s x y,t,none⟩ (CB L) K:=by
  have⟨a,e,h⟩:=AZ h;cases a<;>first|(cases h;done)|skip
  have⟨u,f,h⟩:=AZ h;cases u<;>first|(cases h;done)|skip
  have⟨c,g,h⟩:=AZ h;cases c<;>first|(cases h;done)|skip
  have⟨dd,j,h⟩:=AZ h;cases dd<;>first|(cases h;done)|skip
  cases h;exact AaT (D1 e) (C3 f) (D1 g) j hi k
def qLu{α:Type}{f n b m}(off:Nat){l:List α}{i:Int}{e:α}{a:TypeId}{dd:TyD}{v:V}(c:cns.contains d=false)(g:adO L x=some (.cref b<|i.toNat * n+off))(h:lk L b=some (.uni a m<|l.flatMap f))(j:∀x,(f x).length=n)(hi:AF l i=some e)(o:tb s=some dd)(p:Nat.ble (off+dd.size) n=true)(q:ak (getCells dd (f e) off)=some v)(k:K (CB<|(d,v)::L)):Hh P tb cns ⟨some d,.load s x,t,none⟩ (CB L) K:=by rw[HC q]at k;exact AaV c (Tz g) (C3 h) j hi o (nb p) rfl k
def qSu{ty}{α:Type}{f n b l i}(e:α){c:TypeId}{dd:TyD}{a:V}{g:PL}(j:adO L x=some (.cref b<|i.toNat * n))(m:lk L b=some (.uni c l.length<|l.flatMap f))(o:∀x,(f x).length=n)(hi:0<=i∧i < l.length)(h:Tu L y=some a)(p:tb t=some dd)(q:a.isArg=true)(r:n=dd.size)(u:Ij a=f e)(v:WO L y a=some g)
    (k:K (CB<|(b,.uni c (CL l i e).length<|(CL l i e).flatMap f)::g)):Hh P tb cns ⟨none,.store t x y,ty,none⟩ (CB L) K:=by
  refine Aa0 (Tz j) (C3 m) o hi (D1 h) p q r u ?_;rw[<-Po h v];exact k
end
section
variable {P:Program}{nt:Nat}{bx:zN}{Q:Exit->PS->Prop}{L:PL}
def Bt{α:Type}{s:Nat}{x y:LC}{b:Bool}{u v:Option α}{r:α}(h:cond b u v=some r)(a:lk L s=some (.bool b))(c:u=some r->LS P nt bx x (CB L) Q)(d:v=some r->LS P nt bx y (CB L) Q):LS P nt bx (.cond (.tmp s) x y) (CB L) Q:=CM h (λe h=>zT (C3 a) e<|c h)<|λe h=>zR (C3 a) e<|d h
def qT{s x y b}(a:lk L s=some (.bool b))(e:b=true)(h:LS P nt bx x (CB L) Q):LS P nt bx (.cond (.tmp s) x y) (CB L) Q:=zT (C3 a) e h
def qF{s x y b}(a:lk L s=some (.bool b))(e:b=false)(h:LS P nt bx y (CB L) Q):LS P nt bx (.cond (.tmp s) x y) (CB L) Q:=zR (C3 a) e h
end
section
variable {P:Program}{tb:Tb}{cns:zN}{L:PL}{K:PS->Prop}{d s t:Nat}{x:Operand}
def qFd{f}(off:Nat){v:V}(b:xh P s f=some off)(h:G (Tu L x) (λa=>match a with
  |.agg cs=>G (cs[off]?) λc=>ak<|WG c
  |_=>none)=some v) (k:K (CB ((d,v)::L))):Hh P tb cns ⟨some d,.field s x f,t,none⟩ (CB L) K:=by
  have⟨a,e,h⟩:=AZ h;cases a with
  |agg cs=>have⟨c,g,h⟩:=AZ h;rw[HC h]at k;simp only[Hh,S4,mZ,b,D1 e,g];exact k
  |_=>cases h
end
def mp(tb:Tb)(a:zN):List LO->PL->Option PL
  |[],L=>some L
  |o::os,L=>G (OY tb a o L) λL'=>mp tb a os L'
def vu(tb:Tb):Nat->LC->PL->Option (LC×PL)
  |0,l,L=>some (l,L)
  |n+1,.seq (.rgn a b) y,L=>G (mp tb a b L) λL'=>vu tb n y L'
  |_+1,_,_=>none
section
variable {P:Program}{nt:Nat}{bx:zN}{Q:Exit->PS->Prop}{tb:Tb}
def mq{cns K}:∀{a:List LO}{L L':PL},mp tb cns a L=some L'->K (CB L')->aJ P tb cns a (CB L) K
  |[],_,_,h,k=>by cases h;exact k
  |o::a,L,_,h,k=>by rw[mp]at h;have⟨c,b,h⟩:=AZ h;exact fv (K:=λσ'=>aJ P tb cns a σ' K) b<|mq h k
def qf(b:Lr P tb):∀{n:Nat}{l c:LC}{L L':PL},vu tb n l L=some (c,L')->LS P nt bx c (CB L') Q->LS P nt bx l (CB L) Q
  |0,_,_,_,_,h,k=>by cases h;exact k
  |n+1,l,c,L,L',h,k=>by
    cases l with
    |seq a y=>
      cases a with
      |rgn d e=>
        have⟨g,f,h⟩:=AZ<|show G (mp tb d e L) (λL'=>vu tb n y L')=_ from h
        exact uC b<|mq f<|qf b h k
      |_=>exact absurd (show none=some _ from h) (by simp)
    |_=>exact absurd (show none=some _ from h) (by simp)
abbrev Jn(K:PS->Prop)(L:PL):Prop:=∀σ:PS,gG σ L->K σ
def lh{l σ L}(a:gG σ L)(b:okR L=true)(h:LS P nt bx l (CB L) Q):LS P nt bx l σ Q:=GC L a b h
end
def Ai4(cns:zN)(o:LO):Bool:=match o.op,o.dst with
  |.move _,some d=> !cns.contains d
  |_,_=>false
def fpO(base:List (Nat×Nat))(a:zN)(o:LO):zN×zN:=match spc a o with
  |true=>([],o.dst.toList)
  |false=>
  let R:=VE o.op++match o.op with
    |.alloc _=>o.dst.toList
    |.call _=>o.dst.toList.filter a.contains
    |_=>[]
  let R:=R++match Ai4 a o with
    |true=>[]
    |false=>base.filterMap λp=>if R.contains p.1 then some p.2 else none
  (R++gT o,o.dst.toList++if simple a o=true then base.filterMap (λp=>if(adC o.op).contains p.1 then some p.2 else none)else R)
def cnO:List (Nat×zN)->Nat->zN
  |[],_=>[]
  |(i,c)::r,a=>match Nat.beq a i with
    |true=>c
    |false=>cnO r a
def U0(base:List (Nat×Nat))(f:List (Nat×zN)):Code->LC
  |.skip=>.skip
  |.region g e d=>match d with
    |true=>.drw (cnO f g) ((e.toList.map<|CO e).map<|fpO base<|cnO f g) (e.toList.map X9)<|e.toList.map<|CO e
    |false=>.rgn (cnO f g)<|e.toList.map<|CO e
  |.seq a b=>.seq (U0 base f a)<|U0 base f b
  |.cond c a b=>.cond c (U0 base f a)<|U0 base f b
  |.block g a=>.blk g<|U0 base f a
  |.loop a=>.loop []<|U0 base f a
  |.exit g=>.exit g
  |.ret=>.ret
  |_=>.bad
def Wc(base:List (Nat×Nat))(e:List (Nat×zN)):∀c:Code,Lp c=aj (U0 base e c)
  |.skip=>rfl
  |.region f g d=>by cases d<;>simp[Lp,U0,aj]
  |.seq a b=>by rw[Lp,U0,aj,Wc base e a,Wc base e b]
  |.cond c a b=>by rw[Lp,U0,aj,Wc base e a,Wc base e b]
  |.block f a=>by rw[Lp,U0,aj,Wc base e a]
  |.loop a=>by rw[Lp,U0,aj,Wc base e a]
  |.exit f=>rfl
  |.ret=>rfl
  |.rangeFunc .. =>rfl
  |.scope .. =>rfl
  |.label .. =>rfl
  |.goto .. =>rfl
  |.refuse .. =>rfl
def cdF(f:Func):Code:=match f.body with
  |some c=>c
  |none=>.skip
def Afj(bx:zN)(base:List (Nat×Nat))(cn:List (Nat×zN))(fn:Func):Bool:=
  fn.body.isSome&&((fn.name== "runtime.NumGoroutine")==false&&(okC fn.ntmps bx (cdF fn)&&(decide (fn.results.toList.map MF).Nodup&&okL bx (U0 base cn (cdF fn)))))
def A8{P f fn bx base cn}(e:P.funcs[f]? =some fn)(a:Afj bx base cn fn=true:=by kernel_rfl):Lit P f fn.ntmps bx fn.results.toList (U0 base cn<|cdF fn):=by
  simp only[Afj,Ad]at a;have⟨a,g,b,h,i⟩:=a;have⟨c,d⟩:=GP.1 a;refine⟨⟨fn,c,e,d,eq_of_beq g,rfl,rfl,?_,?_⟩,GW h,i⟩
  · rw[<-Wc];unfold cdF;rw[d]
  · unfold cdF at b;rw[d]at b;exact b
end
section
def DQ{S O:Type}{body:(S->Option O)->S->Option O}{out:O}(f:Nat->S):∀(n:Nat),(∀k,k < n->∀a,body a (f k)=a (f<|k+1))->(∀a,body a (f n)=some out)->∀m,n < m->Aq body m (f 0)=some out:=by
  have b:∀(d n:Nat),(∀k,k < n->∀a,body a (f k)=a (f<|k+1))->(∀a,body a (f n)=some out)->∀k,k+d=n->∀m,d < m->Aq body m (f k)=some out:=by
    intro d n c e;induction d with
    |zero=>
      intro k h m g;cases m with
      |zero=>omega
      |succ m=>rw[show k=n by omega];exact e _
    |succ d i=>
      intro k h m g;cases m with
      |zero=>omega
      |succ m=>show body (Aq body m) (f k)=some out;rw[c k (by omega)];exact i (k+1) (by omega) m (by omega)
  intro n c e m g;exact b n n c e 0 (by omega) m g
def wrap_in{n}(h: -9223372036854775808<=n∧n<=9223372036854775807):wZ n=n:=by
  (try unfold wZ)<;>unfold IntKind.wrap
  simp[IntKind.signed,IntKind.bits]<;>omega
def Bm{k n:Nat}(h:k < n)(a:n<=maxLen):wZ ((k:Int)+1)=((k+1:Nat):Int):=by rw[wrap_in (by unfold maxLen at a;omega)];simp
def G8{α:Type}(l:List α)(k:Nat):AF l (k:Int)=l[k]?:=by simp[AF]
def AG{α:Type}{l:List α}{k:Nat}(h:k < l.length):AF l (k:Int)=some l[k]:=by rw[G8,Ah h]
def EC{n}(h:n<=lim):n < fz:=by unfold lim at h;unfold fz;omega
def Aw{α:Type}{p:Prop}[Decidable p]{x:Option α}(h:p):chk p x=x:=by unfold chk;rw[At h]
end
section
def jQ(u:Value):V->V
  |.own _ n cs=>.pin u n<|NU cs
  |c=>c
def dX:V->Bool
  |.own _ _ _=>true
  |_=>false
def rp:V->Bool
  |.int _ _=>true
  |.bool _=>true
  |.str _=>true
  |_=>false
def QM:List V->Bool
  |[]=>false
  |c::cs=>(dX c&&cs.all rp) || (rp c&&QM cs)
def Ev:List V->V
  |[]=>.undef
  |c::cs=>match c with
    |.own e n ds=>.own e n ds
    |_=>Ev cs
section
variable {P:Program}{w:World}{St:Nat->Nat->Prop}
def vT{c v b}(a:rp c=true)(h:Ow P w St c v b):b=[]:=by cases c<;>first|exact h.1|cases a
def nZ{c}(u:Value)(a:rp c=true):jQ u c=c:=by cases c<;>first|rfl|cases a
def n7:∀{cs:List V}{us:List Value}{b:zN},cs.all rp=true->Bj P w St cs us b->b=[]
  |[],_,_,_,h=>h.2
  |c::cs,_,_,a,⟨u,d,b1,b2,g,e2,i,e,f⟩=>by simp only[Bz,Ad]at a;rw[e2,vT a.1 e,n7 a.2 f];rfl
def jZ:∀{cs:List V}(u:Value),cs.all rp=true->cs.map (jQ u)=cs
  |[],_,_=>rfl
  |c::cs,u,a=>by simp only[Bz,Ad]at a;rw[AH,nZ u a.1,jZ u a.2]
def yo{e n cs u b}(h:Ow P w St (.own e n cs) u b):Ow P w St (.pin u n<|NU cs) u []:=by have:=Rd.erase _<|Ow.rd (.own e n cs) h rfl;exact⟨rfl,rfl,this⟩
def qH:∀{ds:List V},QM ds=true->∃e n cs,Ev ds=.own e n cs
  |[],h=>by cases h
  |c::cs,h=>by
    simp only[QM,CP,Ad]at h;rcases h with⟨a,b⟩|⟨a,b⟩
    · cases c<;>first|exact⟨_,_,_,rfl⟩|cases a
    · have⟨e,n,cs',d⟩:=qH b;cases c<;>first|(cases a;done)|exact⟨e,n,cs',d⟩
def gQ:∀{ds:List V}{xs:List Value}{b:zN},QM ds=true->Bj P w St ds xs b->∃u,Ow P w St (Ev ds) u b∧Bj P w St (ds.map<|jQ u) xs []
  |[],_,_,h,_=>by cases h
  |c::cs,_,_,h,⟨u,a,b1,b2,g,e2,j,d,e⟩=>by
    simp only[QM,CP,Ad]at h;rcases h with⟨g1,g2⟩|⟨g1,g2⟩
    · have f:=n7 g2 e;subst f;rw[AN]at e2;subst e2;cases c<;>first|(cases g1;done)|skip
      refine⟨u,d,?_⟩;rw[AH,jZ u g2];exact⟨u,a,[],[],g,rfl,rfl,yo d,e⟩
    · have f:=vT g1 d;subst f;rw[Bn]at e2;subst e2;have⟨i,k,l⟩:=gQ g2 e;refine⟨i,?_,?_⟩
      · cases c<;>first|(cases g1;done)|exact k
      · rw[AH,nZ i g1];exact⟨u,a,[],[],g,rfl,j,d,l⟩
def lR:∀{ds:List V}{xs:List Value}{m b:zN}{u:Value},QM ds=true->Bj P w St (ds.map<|jQ u) xs m->Ow P w St (Ev ds) u b->Bj P w St ds xs b
  |[],_,_,_,_,h,_,_=>by cases h
  |c::cs,_,_,b,u,h,⟨d,a,b1,b2,k,e2,p,e,f⟩,l=>by
    simp only[QM,CP,Ad]at h;rcases h with⟨g1,g2⟩|⟨g1,g2⟩
    · cases c<;>first|(cases g1;done)|skip
      have n:d=u:=e.2.1;subst n;change Bj P w St (cs.map<|jQ d) a b2 at f;rw[jZ d g2]at f;have g:=n7 g2 f;subst g;exact⟨d,a,b,[],k,by simp,rfl,l,f⟩
    · have i:Ow P w St (Ev cs) u b:=by cases c<;>first|(cases g1;done)|exact l
      change Ow P w St (jQ u c) d b1 at e;rw[nZ u g1]at e;have g:=vT g1 e;subst g;have o:=lR g2 f i;have j:c.DF=true:=by cases c<;>first|rfl|cases g1
      exact⟨d,a,[],b,k,by simp,j,e,o⟩
end
def C8{α:Type}(k:Nat):List α->List (Nat×α)
  |[]=>[]
  |x::l=>(k,x)::C8 (k+1) l
def pE{α:Type}(f:α->List V)(U:Nat->Value)(p:Nat×α):List V:=(f p.2).map<|jQ<|U p.1
def mE{α:Type}(f:α->List V)(U:Nat->Value):Nat×α ⊕ α->List V
  |.inl p=>pE f U p
  |.inr x=>f x
def getM{α:Type}:Nat×α ⊕ α->α
  |.inl p=>p.2
  |.inr x=>x
def okJ{α:Type}[BEq α](l:List α):List (Nat×α ⊕ α)->zN->Bool
  |[],_=>true
  |.inl p::L,seen=>(match l[p.1]? with
    |some x=>x==p.2
    |none=>false)&& !seen.contains p.1&&okJ l L (p.1::seen)
  |.inr _::L,seen=>okJ l L seen
section
variable {P:Program}{w:World}{St:Nat->Nat->Prop}{α:Type}{f:α->List V}
def lX(a:∀x,QM (f x)=true):∀(l:List α) (k:Nat) {xs:List Value}{bs:zN},Bj P w St (l.flatMap f) xs bs->
    ∃us:List Value,us.length=l.length∧Bj P w St (l.map λx=>Ev<|f x) us bs∧∀U:Nat->Value,(∀i,i < l.length->U (k+i)=us.getD i undef)->Bj P w St ((C8 k l).flatMap<|pE f U) xs []
  |[],k,_,_,h=>⟨[],rfl,⟨rfl,h.2⟩,λU _=>⟨h.1,rfl⟩⟩
  |x::l,k,xs,bs,h=>by
    rw[AI]at h;obtain⟨b,d,b1,b2,rfl,rfl,g,j⟩:=h.app;have⟨u,m,o⟩:=gQ (a x) g;have⟨us,p,q,r⟩:=lX a l (k+1) j;have⟨e,n,cs,s⟩:=qH<|a x;refine⟨u::us,by simp[p],⟨u,us,b1,b2,rfl,rfl,by show(Ev<|f x).DF=true;rw[s];rfl,m,q⟩,λU c=>?_⟩;have t:U k=u:=by have:=c 0 (by simp);simpa using this
    rw[C8,AI]
    have:=Bj.join (b1:=[]) (b2:=[]) (show Bj P w St (pE f U (k,x)) b []by unfold pE;rw[t];exact o) (r U (λi hi=>by
      have:=c (i+1) (by simp;omega);have e:k+1+i=k+(i+1):=by omega
      rw[e,this];simp))
    exact this
def VK:∀{cs:List V}{us:List Value}{bs:zN},Bj P w St cs us bs->bs.Nodup->∃β:Nat->zN,(∀i c u,cs[i]? =some c->us[i]? =some u->Ow P w St c u (β i))∧(∀i,∀g∈β i,g∈bs)∧(∀i,(β i).Nodup)∧∀i j,i≠j->∀g∈β i,g∉β j
  |[],_,_,h,_=>⟨λ_=>[],by simp,by simp,λ_=>AR,by simp⟩
  |c::cs,_,_,⟨u,n,b1,b2,o,e2,A,p,q⟩,r=>by
    subst o e2;have⟨s,t,m⟩:=Ax.1 r;have⟨β,v,k,x,y⟩:=VK q t;refine⟨λi=>match i with|0=>b1|i+1=>β i,?_,?_,?_,?_⟩
    · intro i c' z a b;cases i with
      |zero=>simp only[Cd,Ay]at a b;subst a b;exact p
      |succ i=>exact v i c' z (by simpa using a) (by simpa using b)
    · intro i g e;cases i with
      |zero=>exact Az _ e
      |succ i=>exact Au _<|k i g e
    · intro i;cases i with
      |zero=>exact s
      |succ i=>exact x i
    · intro i j l g e d;cases i with
      |zero=>
        cases j with
        |zero=>exact l rfl
        |succ j=>exact m g e g (k j g d) rfl
      |succ i=>
        cases j with
        |zero=>exact m g d g (k i g e) rfl
        |succ j=>exact y i j (by omega) g e d
def pT[BEq α][LawfulBEq α](R:∀x,QM (f x)=true){l:List α}{us:List Value}{bs:zN}(J:Bj P w St (l.map λx=>Ev<|f x) us bs)(S:bs.Nodup){U:Nat->Value}(T:∀i,i < l.length->U i=us.getD i undef):
    ∀(L:List (Nat×α ⊕ α)) {xs:List Value}{k:zN},okJ l L []=true->Bj P w St (L.flatMap<|mE f U) xs k->k.Nodup->(∀g∈k,g∉bs)->∃b',Bj P w St ((L.map getM).flatMap f) xs b'∧b'.Nodup∧∀g∈b',g∈k∨g∈bs:=by
  have⟨β,W,K,X,Y⟩:=VK J S;have r:=J.length;rw[Am]at r
  have A:∀(L:List (Nat×α ⊕ α)) (c:zN) {xs:List Value}{k:zN},okJ l L c=true->Bj P w St (L.flatMap<|mE f U) xs k->k.Nodup->(∀g∈k,g∉bs)->
      ∃b',Bj P w St ((L.map getM).flatMap f) xs b'∧b'.Nodup∧(∀g∈b',g∈k∨g∈bs)∧∀i∈c,∀g∈β i,g∉b':=by
    intro L;induction L with
    |nil=>intro c xs k _ h n o;exact⟨[],⟨h.1,rfl⟩,AR,by simp,by simp⟩
    |cons p L M=>
      intro c xs k j h n o;rw[AI]at h;obtain⟨s,Z,b1,b2,rfl,rfl,N,O⟩:=h.app;have⟨n1,Q,n3⟩:=Ax.1 n;cases p with
      |inr x=>
        simp only[okJ]at j;have⟨b',t,u,q,y⟩:=M c j O Q<|λg d=>o g<|Au _ d
        refine⟨b1++b',?_,?_,?_,?_⟩
        · rw[AH,AI];exact Bj.join N t
        · refine Ax.2 ⟨n1,u,λa z b B e=>?_⟩;subst e;rcases q a B with h|h
          · exact n3 a z a h rfl
          · exact o a (Az _ z) h
        · intro g d;rcases Al.1 d with d|d
          · exact .inl<|Az _ d
          · exact(q g d).imp (Au _) id
        · intro i hi g d m;rcases Al.1 m with m|m
          · exact o g (Az _ m)<|K i g d
          · exact y i hi g d m
      |inl p=>
        simp only[okJ,Ad,AY]at j;have⟨⟨g1,g2⟩,g3⟩:=j;have⟨b',t,u,q,y⟩:=M (p.1::c) g3 O Q<|λg d=>o g<|Au _ d
        have C:l[p.1]? =some p.2:=by
          split at g1
          · rename_i x hx;rw[hx];simpa using g1
          · cases g1
        have D:p.1 < l.length:=by
          rcases Bi p.1 l.length with h|h
          · exact h
          · rw[BJ h]at C;cases C
        have F:us[p.1]? =some (U p.1):=by
          rw[T p.1 D];have:p.1 < us.length:=by omega
          simp[this]
        have v:=W p.1 _ _ (by rw[BZ,C];rfl) F;have H:Bj P w St (f p.2) s (β p.1):=lR (R p.2) (show Bj P w St ((f p.2).map<|jQ<|U p.1) s b1 from N) v;refine⟨β p.1++b',?_,?_,?_,?_⟩
        · rw[AH,AI];exact Bj.join H t
        · refine Ax.2 ⟨X p.1,u,λa z b B e=>?_⟩;subst e;exact y p.1 (by simp) a z B
        · intro g d;rcases Al.1 d with d|d
          · exact .inr<|K p.1 g d
          · exact(q g d).imp (Au _) id
        · intro i hi g d m;rcases Al.1 m with m|m
          · have I:i≠p.1:=λe=>by
              subst e;have:c.contains p.1=true:=by simpa using hi
              rw[this]at g2;cases g2
            exact Y i p.1 I g d m
          · exact y i (by simp[hi]) g d m
  intro L xs k j h n o;have⟨b',t,u,q,_⟩:=A L [] j h n o;exact⟨b',t,u,q⟩
end
def kh{α:Type}{f n}(h:∀x,(f x).length=n){U:Nat->Value}(p:Nat×α):(pE f U p).length=n:=by unfold pE;rw[Am,h]
def erP{α:Type}{f g}(h:∀x,NU (f x)=g x)(a:∀x,NU (g x)=g x)(l:List α){u:Value}:er (.pin u l.length<|NU<|l.flatMap f)=.dat l.length (l.flatMap g):=by rw[er,TE h,TE a]
def ym{α:Type}{f:α->List V}{U:Nat->Value}{e:TypeId}{x:List (Nat×α)}:V.own e x.length (x.flatMap<|pE f U)=.own e (x.map (Sum.inl:Nat×α->Nat×α ⊕ α)).length ((x.map (Sum.inl:Nat×α->Nat×α ⊕ α)).flatMap<|mE f U):=by rw[Am,List.flatMap_map];rfl
section
variable {P:Program}{α:Type}{f:α->List V}
def Ru:∀(k:Nat) (l:List α),(C8 k l).length=l.length
  |_,[]=>rfl
  |k,x::l=>by rw[C8,Ar,Ar,Ru (k+1) l]
def iy(P:Program)(f:α->List V)(c:V)(l:List α)(k:Nat)(c':(Nat->Value)->V):Prop:=
  ∀w a t v bs,Ci P w a t c v bs->bs.Nodup->∃us b1 b2,us.length=l.length∧Bj P w a (l.map λx=>Ev<|f x) us b2∧(b1++b2).Nodup∧(∀g∈b1++b2,g∈bs)∧∀U:Nat->Value,(∀i,i < l.length->U (k+i)=us.getD i undef)->Ci P w a t (c' U) v b1
def jO(h1:∀x,QM (f x)=true){e:TypeId}{l:List α}{k:Nat}{w:World}{St:Nat->Nat->Prop}{v:Value}{bs:zN}(h:Ow P w St (.own e l.length<|l.flatMap f) v bs)(hn:bs.Nodup):
    ∃us b1 b2,us.length=l.length∧Bj P w St (l.map λx=>Ev<|f x) us b2∧bs=b1++b2∧∀U:Nat->Value,(∀i,i < l.length->U (k+i)=us.getD i undef)->Ow P w St (.own e (C8 k l).length<|(C8 k l).flatMap<|pE f U) v b1:=by
  have⟨hl,xs,bs',hx,hr,hb,hst,h0⟩:=h;have⟨us,hul,ht,hp⟩:=lX h1 l k hr;refine⟨us,v.ownBlock.toList,bs',hul,ht,hb,λU hU=>?_⟩;rw[Ru];refine⟨hl,xs,[],hx,hp U hU,by simp,hst,λhz=>?_⟩;have:l=[]:=Bf hz;subst this;rfl
def RQ(c:∀x,QM (f x)=true){e:TypeId}{l:List α}{k:Nat}:iy P f (.own e l.length<|l.flatMap f) l k (λU=>.own e (C8 k l).length<|(C8 k l).flatMap<|pE f U):=by intro w d t v bs h a;have⟨us,b1,b2,g,i,b,j⟩:=jO (k:=k) c (show Ow P w d _ v bs from h) a;exact⟨us,b1,b2,g,i,by rw[<-b];exact a,λg m=>by rw[b];exact m,λU n=>j U n⟩
def sq(P:Program)[BEq α](f:α->List V)(U:Nat->Value)(c:V)(L:List (Nat×α ⊕ α))(c':V):Prop:=
  ∀w a t v b1 (l:List α) us bs,Ci P w a t c v b1->Bj P w a (l.map λx=>Ev<|f x) us bs->bs.Nodup->(∀i,i < l.length->U i=us.getD i undef)->okJ l L []=true->b1.Nodup->(∀g∈b1,g∉bs)->∃b',Ci P w a t c' v b'∧b'.Nodup∧∀g∈b',g∈b1∨g∈bs
def lW[BEq α][LawfulBEq α](h1:∀x,QM (f x)=true){e:TypeId}{L:List (Nat×α ⊕ α)}{U:Nat->Value}{w:World}{St:Nat->Nat->Prop}{v:Value}{b1:zN}{l:List α}{us:List Value}{bs:zN}(h:Ow P w St (.own e L.length<|L.flatMap<|mE f U) v b1)(ht:Bj P w St (l.map λx=>Ev<|f x) us bs)(hn:bs.Nodup)
    (hU:∀i,i < l.length->U i=us.getD i undef) (hok:okJ l L []=true) (hb1:b1.Nodup) (hd:∀g∈b1,g∉bs):∃b',Ow P w St (.own e (L.map getM).length<|(L.map getM).flatMap f) v b'∧b'.Nodup∧∀g∈b',g∈b1∨g∈bs:=by
  obtain⟨hl,xs,bs',hx,hr,rfl,hst,h0⟩:=h;have⟨n1,n2,n3⟩:=Ax.1 hb1;have⟨b',q1,q2,q3⟩:=pT h1 ht hn hU L hok hr n2<|λg hg=>hd g<|Au _ hg
  refine⟨v.ownBlock.toList++b',⟨by rw[Am];exact hl,xs,b',by rw[Am];exact hx,q1,rfl,by rw[Am];exact hst,λhz=>?_⟩,?_,?_⟩
  · rw[Am]at hz;have:L=[]:=Bf hz;subst this;rfl
  · refine Ax.2 ⟨n1,q2,λa ha b hb e=>?_⟩;subst e;rcases q3 a hb with h|h
    · exact n3 a ha a h rfl
    · exact hd a (Az _ ha) h
  · intro g hg;rcases Al.1 hg with hg|hg
    · exact .inl<|Az _ hg
    · exact(q3 g hg).imp (Au _) id
def ua[BEq α][LawfulBEq α](c:∀x,QM (f x)=true){e:TypeId}{L:List (Nat×α ⊕ α)}{U:Nat->Value}:sq P f U (.own e L.length<|L.flatMap<|mE f U) L (.own e (L.map getM).length<|(L.map getM).flatMap f):=by intro w d t v b1 l us bs h g i j a b k;have⟨b',m,n,o⟩:=lW c (show Ow P w d _ v b1 from h) g i j a b k;exact⟨b',m,n,o⟩
def lw[BEq α][LawfulBEq α](i:∀x,QM (f x)=true){U:Nat->Value}{p:Nat×α}{e:TypeId}{n:Nat}{cs:List V}(g:f p.2=[.own e n cs]):sq P f U (.pin (U p.1) n<|NU cs) [.inl p] (.own e n cs):=by
  intro w a t v b1 l us bs h j k m b c o;have q:Ow P w a (.pin (U p.1) n<|NU cs) v b1:=h;have r:Bj P w a (([.inl p]:List (Nat×α ⊕ α)).flatMap<|mE f U) [v] b1:=by rw[AI,F3,AN];show Bj P w a ((f p.2).map<|jQ<|U p.1) [v] b1;rw[g];exact⟨v,[],b1,[],rfl,(AN _).symm,rfl,q,rfl,rfl⟩
  have⟨b',d,s,y⟩:=pT i j k m _ b r c o;rw[AH,Dv,AI,F3,AN]at d;rw[show getM (Sum.inl p:Nat×α ⊕ α)=p.2 from rfl,g]at d;have⟨u,z,D,c2,A,e2,_,B,C⟩:=d;obtain⟨rfl,rfl⟩:=List.cons.inj A;have:c2=[]:=C.2;subst this;rw[AN]at e2;subst e2;exact⟨b',B,s,y⟩
end
section
variable {P:Program}{nt:Nat}{base:Bs}{bx:zN}{St St0:Nat->Nat->Prop}{B:Nat->zN}{hand:zN}{σ:PS}{a:Act}{w w0:World}
def LK(h:HSim P nt bx base St B [] σ a w){s q:Nat}(C:s≠q)(U:C0 (σ q)=none){c u:V}{b1 b2:zN}(W:Ci P w St (tm a) c (tm a s) b1)(L:Ci P w St (tm a) u (tm a q) b2)(X:(b1++b2).Nodup)(v:∀g∈b1++b2,g∈B s∨g∈B q)
    (A:(C0 c).isSome=(C0<|σ s).isSome) (M:D4 c=none) (N:C0 u=none) (O:D4 u=none):HSim P nt bx base St (upd (upd B s b1) q b2) [] (upd (upd σ s c) q u) a w:=by
  have x:∀cs,C0 c=some cs->∃ds,C0 (σ s)=some ds:=λcs e=>by
    rw[e]at A;cases Q:C0 (σ s)with
    |none=>rw[Q]at A;cases A
    |some ds=>exact⟨ds,rfl⟩
  have m:∀cs,C0 (σ s)=some cs->∃ds,C0 c=some ds:=λcs e=>by
    rw[e]at A;cases Q:C0 c with
    |none=>rw[Q]at A;cases A
    |some ds=>exact⟨ds,rfl⟩
  have⟨Y,Z,T⟩:=Ax.1 X;have D:∀r,r≠s->r≠q->upd (upd B s b1) q b2 r=B r:=λr R S=>by rw[upd_ne _ _ S,upd_ne _ _ R]
  have k:upd (upd B s b1) q b2 s=b1:=by rw[upd_ne _ _ C,upd_same]
  have l:upd (upd B s b1) q b2 q=b2:=upd_same _ _ _;have K:∀r,r≠s->r≠q->upd (upd σ s c) q u r=σ r:=λr R S=>by rw[upd_ne _ _ S,upd_ne _ _ R]
  have n:upd (upd σ s c) q u s=c:=by rw[upd_ne _ _ C,upd_same]
  have y:upd (upd σ s c) q u q=u:=upd_same _ _ _
  have z:∀r,(∀g∈upd (upd B s b1) q b2 r,g∈B r∨((r=s∨r=q)∧(g∈B s∨g∈B q))):=λr g i=>by
    by_cases d:r=s
    · subst d;rw[k]at i;exact .inr ⟨.inl rfl,v g<|Az _ i⟩
    · by_cases e2:r=q
      · subst e2;rw[l]at i;exact .inr ⟨.inr rfl,v g<|Au _ i⟩
      · rw[D r d e2]at i;exact .inl i
  exact
  {h with
    slot:=λr=>by
      by_cases d:r=s
      · subst d;rw[n,k];exact W
      · by_cases e2:r=q
        · subst e2;rw[y,l];exact L
        · rw[K r d e2,D r d e2];exact h.slot r
    boxes:=λr cs e=>by
      by_cases d:r=s
      · subst d;rw[n]at e;have⟨ds,hd⟩:=x cs e;exact h.boxes r ds hd
      · by_cases e2:r=q
        · subst e2;rw[y,N]at e;cases e
        · rw[K r d e2]at e;exact h.boxes r cs e
    crefs:=λr b e=>by
      have hr:D4 (σ r)=some b:=by
        by_cases d:r=s
        · subst d;rw[n,M]at e;cases e
        · by_cases e2:r=q
          · subst e2;rw[y,O]at e;cases e
          · rw[K r d e2]at e;exact e
      have⟨cs,o⟩:=h.crefs r b hr;by_cases d:b=s
      · subst d;rw[n];exact m cs o
      · by_cases e2:b=q
        · subst e2;rw[U]at o;cases o
        · rw[K b d e2];exact⟨cs,o⟩
    nodup:=λr=>by
      by_cases d:r=s
      · subst d;rw[k];exact Y
      · by_cases e2:r=q
        · subst e2;rw[l];exact Z
        · rw[D r d e2];exact h.nodup r
    apart:=λr t p g i j=>by
      by_cases d:(r=s∨r=q)
      · by_cases e2:(t=s∨t=q)
        · rcases d with rfl|rfl<;>rcases e2 with rfl|rfl
          · exact p rfl
          · rw[k]at i;rw[l]at j;exact T g i g j rfl
          · rw[l]at i;rw[k]at j;exact T g j g i rfl
          · exact p rfl
        · have F:t≠s:=λe=>e2 (.inl e)
          have H:t≠q:=λe=>e2<|.inr e
          rw[D t F H]at j;rcases z r g i with f|⟨_,f⟩
          · exact h.apart r t p g f j
          · rcases f with f|f
            · exact h.apart s t (Ne.symm F) g f j
            · exact h.apart q t (Ne.symm H) g f j
      · have I:r≠s:=λe=>d (.inl e)
        have J:r≠q:=λe=>d<|.inr e
        rw[D r I J]at i;rcases z t g j with f|⟨_,f⟩
        · exact h.apart r t p g i f
        · rcases f with f|f
          · exact h.apart r s I g i f
          · exact h.apart r q J g i f
    hapart:=λr g i=>by simp
    range:=λr g i=>by
      rcases z r g i with f|⟨_,f|f⟩
      · exact h.range r g f
      · exact h.range s g f
      · exact h.range q g f}
variable {Q:Exit->PS->Prop}{α:Type}{f:α->List V}
def VC{x s q l c c'}(k:σ s=c)(n:σ q=.undef)(b:s≠q)(S:iy P f c l 0 c')(o:∀U,(C0<|c' U).isSome=(C0 c).isSome)(d:∀U,D4 (c' U)=none)
    (h:∀(U:Nat->Value) (us:List Value),us.length=l.length->(∀i,i < l.length->U i=us.getD i undef)->LS P nt bx x (upd (upd σ s<|c' U) q<|.gh us<|l.map λx=>Ev<|f x) Q):LS P nt bx x σ Q:=by
  intro p r e t base St0 w0 a w u;have⟨St,B,j,v,y,z⟩:=u;have m:=j.slot s;rw[k]at m;have⟨us,b1,b2,A,C,D,F,H⟩:=S w St (tm a) (tm a s) (B s) m<|j.nodup s;have I:∀i,i < l.length->(λi=>us.getD i undef) (0+i)=us.getD i undef:=λi _=>by simp
  refine h (λi=>us.getD i undef) us A (λi _=>rfl) p r e t base St0 w0 a w ⟨St,_,LK j b (by rw[n];rfl) (H (λi=>us.getD i undef) I) (show Ci P w St (tm a) (.gh us _) _ b2 from C) D (λg J=>.inl<|F g J) (by rw[k];exact o _) (d _) rfl rfl,v,y,z⟩
def ry{x s1 s2 g1 g2 l1 l2 c1 c2 c1' c2'}(d:σ s1=c1)(e:σ s2=c2)(m:σ g1=.undef)(n:σ g2=.undef)(o:s1≠s2∧s1≠g1∧s1≠g2∧s2≠g1∧s2≠g2∧g1≠g2)(C:iy P f c1 l1 0 c1')(D:iy P f c2 l2 l1.length c2')
    (p:∀U,(C0<|c1' U).isSome=(C0 c1).isSome) (j:∀U,D4 (c1' U)=none) (q:∀U,(C0<|c2' U).isSome=(C0 c2).isSome) (k:∀U,D4 (c2' U)=none)
    (h:∀(U:Nat->Value) (b c:List Value),b.length=l1.length->c.length=l2.length->(∀i,i < (l1++l2).length->U i=(b++c).getD i undef)->LS P nt bx x (upd (upd (upd (upd σ s1<|c1' U) g1<|.gh b<|l1.map λx=>Ev<|f x) s2<|c2' U) g2<|.gh c<|l2.map λx=>Ev<|f x) Q):LS P nt bx x σ Q:=by
  have⟨u,F,H,v,I,J⟩:=o;intro K L r M base St0 w0 a w N;have⟨St,B,l,O,R,S⟩:=N;have y:=l.slot s1;rw[d]at y;have z:=l.slot s2;rw[e]at z;have⟨b,b1,b2,A,T,W,X,Y⟩:=C w St (tm a) (tm a s1) (B s1) y<|l.nodup s1;have⟨c,b3,Z,p1,p2,p3,p4,p5⟩:=D w St (tm a) (tm a s2) (B s2) z<|l.nodup s2
  have s:∀i,i < l1.length->(λi=>(b++c).getD i undef) (0+i)=b.getD i undef:=λi hi=>by
    have:i < b.length:=by omega
    simp[B7 this]
  have hU2:∀i,i < l2.length->(λi=>(b++c).getD i undef) (l1.length+i)=c.getD i undef:=λi hi=>by simp only[A1];rw[Cu (by omega),A,CT]
  have m1:=LK l F (by rw[m];rfl) (Y (λi=>(b++c).getD i undef) s) (show Ci P w St (tm a) (.gh b<|l1.map λx=>Ev<|f x) _ b2 from T) W (λg t=>.inl<|X g t) (by rw[d];exact p _) (j _) rfl rfl;have e1:upd (upd σ s1<|c1' λi=>(b++c).getD i undef) g1 (.gh b<|l1.map λx=>Ev<|f x) s2=c2:=by rw[upd_ne _ _ v,upd_ne _ _ (Ne.symm u),e]
  have e2:upd (upd σ s1<|c1' λi=>(b++c).getD i undef) g1 (.gh b<|l1.map λx=>Ev<|f x) g2=.undef:=by rw[upd_ne _ _ (Ne.symm J),upd_ne _ _ (Ne.symm H),n]
  have e3:upd (upd B s1 b1) g1 b2 s2=B s2:=by rw[upd_ne _ _ v,upd_ne _ _ (Ne.symm u)]
  have m2:=LK m1 I (by rw[e2];rfl) (p5 (λi=>(b++c).getD i undef) hU2) (show Ci P w St (tm a) (.gh c<|l2.map λx=>Ev<|f x) _ Z from p2) p3 (λg t=>.inl<|by rw[e3];exact p4 g t) (by rw[e1];exact q _) (k _) rfl rfl;exact h (λi=>(b++c).getD i undef) b c A p1 (λi _=>rfl) K L r M base St0 w0 a w ⟨St,_,m2,O,R,S⟩
def uA{x g1 g2 us1 us2 cs1 cs2}(i:σ g1=.gh us1 cs1)(j:σ g2=.gh us2 cs2)(d:g1≠g2)(h:LS P nt bx x (upd (upd σ g1<|.gh (us1++us2)<|cs1++cs2) g2 .undef) Q):LS P nt bx x σ Q:=by
  intro n o g p base St0 w0 a w q;have⟨St,B,c,r,s,t⟩:=q;have k:=c.slot g1;rw[i]at k;have l:=c.slot g2;rw[j]at l;refine h n o g p base St0 w0 a w ⟨St,_,LK c d (by rw[j];rfl) (show Ci P w St (tm a) (.gh (us1++us2)<|cs1++cs2) _ (B g1++B g2)from Bj.join k l) (show Ci P w St (tm a) .undef _ []from rfl) ?_ (λg m=>?_) (by rw[i];rfl) rfl rfl rfl,r,s,t⟩
  · rw[AN];exact Ax.2 ⟨c.nodup g1,c.nodup g2,λa u b v e=>by subst e;exact c.apart g1 g2 d a u v⟩
  · rw[AN]at m;exact Al.1 m
def d4[BEq α]{x:LC}{s q:Nat}{l:List α}{us:List Value}{U:Nat->Value}{L:List (Nat×α ⊕ α)}{c c':V}{cs:List V}(o:σ s=c)(p:σ q=.gh us cs)(k:cs=l.map λx=>Ev<|f x)(d:s≠q)(J:sq P f U c L c')(u:∀i,i < l.length->U i=us.getD i undef)(m:okJ l L []=true)
    (v:(C0 c').isSome=(C0 c).isSome) (n:D4 c'=none) (h:LS P nt bx x (upd (upd σ s c') q .undef) Q):LS P nt bx x σ Q:=by
  intro y z e A base St0 w0 a w C;have⟨St,B,b,D,F,H⟩:=C;have r:=b.slot s;rw[o]at r;have t:=b.slot q;rw[p,k]at t;have⟨b',I,K,M⟩:=J w St (tm a) (tm a s) (B s) l us (B q) r t (b.nodup q) u m (b.nodup s)<|λg j=>b.apart s q d g j
  exact h y z e A base St0 w0 a w ⟨St,_,LK b d (by rw[p];rfl) I (show Ci P w St (tm a) .undef _ []from rfl) (by rw[AN];exact K) (λg j=>by rw[AN]at j;exact M g j) (by rw[o];exact v) n rfl rfl,D,F,H⟩
end
end
section
def Gh(P:Program)(nt:Nat)(bx:zN)(σ:PS)(K:PS->Prop):Prop:=∀base St0 b a w,Rel P nt bx base St0 b σ a w->∃σ',K σ'∧Rel P nt bx base St0 b σ' a w
def ghQ(P:Program)(nt:Nat)(bx:zN)(Q:Exit->PS->Prop):Exit->PS->Prop
  |.normal,σ=>Gh P nt bx σ<|Q .normal
  |e,σ=>Q e σ
section
variable {P:Program}{nt:Nat}{bx:zN}{σ:PS}{K:PS->Prop}{Q:Exit->PS->Prop}{x:LC}
def Mr(h:K σ):Gh P nt bx σ K:=λ_ _ _ _ _ a=>⟨σ,h,a⟩
def Qb(h:LS P nt bx x σ (ghQ P nt bx Q)):LS P nt bx x σ Q:=by
  intro c i b j base St0 d a w k;refine GL (h c i b j base St0 d a w k) ?_;rintro e a' w' ⟨σ',f,g⟩;cases e with
  |normal=>exact f base St0 d a' w' g
  |_=>exact⟨σ',f,g⟩
def EB(h:Gh P nt bx σ (λσ'=>LS P nt bx x σ' Q)):LS P nt bx x σ Q:=by intro c e b f base St0 d a w g;have⟨σ',i,j⟩:=h base St0 d a w g;exact i c e b f base St0 d a w j
def kl(P:Program)(c:V)(e:TypeId)(n:Nat)(cs:List V)(c':Value->V):Prop:=
  ∀w a (t:Nat->Value) v bs,Ci P w a t c v bs->bs.Nodup->∃u b1 b2,Ow P w a (.own e n cs) u b2∧(b1++b2).Nodup∧(∀g∈b1++b2,g∈bs)∧Ci P w a t (c' u) v b1
def eF{w St e n cs u b}(h:Ow P w St (.own e n cs) u b):Ow P w St (.tok u) u []:=⟨rfl,rfl,(Ow.rd (.own e n cs) h rfl).oneCell⟩
def rO{w St e n cs u b}(h:Ow P w St (.own e n cs) u b)(i:0 < n):∃g m,u=.slice (some ⟨g,0,none⟩) n m:=by
  have⟨_,xs,c,a,_⟩:=h;rcases a.2 with⟨_,j⟩|⟨g,cap,d,f,_⟩
  · omega
  · exact⟨g,cap,f⟩
def uo{e n cs}:kl P (.own e n cs) e n cs .tok:=λw a t v bs h b=>⟨v,[],bs,h,by simpa using b,λg c=>by simpa using c,(eF<|show Ow P w a (.own e n cs) v bs from h).slot⟩
def lF{e n cs A C}:kl P (.box<|A++.own e n cs::C) e n cs (λu=>.box<|A++.tok u::C):=by
  rintro w St t v bs ⟨g,T,bs',arr,e1,e2,hr,rfl,hst⟩ hn;have⟨us1,us2,p1,p2,eu,eb,r1,r2⟩:=hr.app;have⟨u,us3,p3,p4,eu2,eb2,hc,r3,r4⟩:=r2;subst eb eb2;have hn1:=BF.1 hn;have hn2:=Ax.1 hn1.2;have hn3:=Ax.1 hn2.2.1;refine⟨u,g::(p1++p4),p3,r3,?_,?_,g,T,p1++p4,arr,e1,e2,?_,rfl,hst⟩
  · rw[Cq,BF];refine⟨λhm=>hn1.1 ?_,Ax.2 ⟨Ax.2 ⟨hn2.1,hn3.2.1,λa ha b hb=>hn2.2.2 a ha b<|Au _ hb⟩,hn3.1,λa ha b hb e=>?_⟩⟩
    · simp only[Al]at hm⊢;rcases hm with(h|h)|h
      · exact .inl h
      · exact .inr<|.inr h
      · exact .inr<|.inl h
    · rcases Al.1 ha with ha|ha
      · exact hn2.2.2 a ha b (Az _ hb) e
      · exact hn3.2.2 b hb a ha e.symm
  · intro k hk;simp only[Cq,AA,Al]at hk⊢;rcases hk with h|(h|h)|h
    · exact .inl h
    · exact .inr<|.inl h
    · exact .inr<|.inr<|.inr h
    · exact .inr<|.inr<|.inl h
  · rw[eu,eu2];have:=Bj.join r1<|show Bj P w St (.tok u::C) (u::us3) p4 from⟨u,us3,[],p4,rfl,by simp,rfl,eF r3,r4⟩
    exact this
def jg{s q c e n cs c'}(j:σ s=c)(o:σ q=.undef)(b:s≠q)(L:kl P c e n cs c')(p:0 < n)(r:∀u,(C0<|c' u).isSome=(C0 c).isSome)(d:∀u,D4 (c' u)=none)
    (h:∀g m,Gh P nt bx (upd (upd σ s<|c'<|.slice (some ⟨g,0,none⟩) n m) q<|.gh [.slice (some ⟨g,0,none⟩) n m] [.own e n cs]) K):Gh P nt bx σ K:=by
  rintro base St0 t a w ⟨f,B,i,v,y,z⟩;have k:=i.slot s;rw[j]at k;have⟨u,b1,b2,l,A,C,D⟩:=L w f (tm a) (tm a s) (B s) k<|i.nodup s;obtain⟨g,m,rfl⟩:=rO l p;exact h g m base St0 t a w ⟨f,_,LK i b (by rw[o];rfl) D (show Ci P w f (tm a) (.gh [_] [_]) _ b2 from⟨_,[],b2,[],rfl,by simp,rfl,l,rfl,rfl⟩) A (λg F=>.inl<|C g F) (by rw[j];exact r _) (d _) rfl rfl,v,y,z⟩
def tF{s q c e n cs c'}(j:σ s=c)(l:σ q=.undef)(b:s≠q)(L:kl P c e n cs c')(m:∀u,(C0<|c' u).isSome=(C0 c).isSome)(d:∀u,D4 (c' u)=none)
    (h:∀u,Gh P nt bx (upd (upd σ s<|c' u) q<|.gh [u] [.own e n cs]) K):Gh P nt bx σ K:=by
  rintro base St0 o a w ⟨f,B,i,p,r,t⟩;have k:=i.slot s;rw[j]at k;have⟨u,b1,b2,v,y,z,A⟩:=L w f (tm a) (tm a s) (B s) k<|i.nodup s;exact h u base St0 o a w ⟨f,_,LK i b (by rw[l];rfl) A (show Ci P w f (tm a) (.gh [_] [_]) _ b2 from⟨_,[],b2,[],rfl,by simp,rfl,v,rfl,rfl⟩) y (λg C=>.inl<|z g C) (by rw[j];exact m _) (d _) rfl rfl,p,r,t⟩
def og(P:Program)(c':V)(u:Value)(e:TypeId)(n:Nat)(cs:List V)(c:V):Prop:=
  ∀w a (t:Nat->Value) v b1 b2,Ci P w a t c' v b1->Ow P w a (.own e n cs) u b2->(b1++b2).Nodup->∃bs,bs.Nodup∧(∀g∈bs,g∈b1++b2)∧Ci P w a t c v bs
def s6{u e n cs}:og P (.tok u) u e n cs (.own e n cs):=by intro w g t v b1 b2 a b c;have d:v=u:=a.2.1;subst d;exact⟨b2,(Ax.1 c).2.1,λg f=>Au _ f,b⟩
def s5{u e n cs A C}:og P (.box<|A++.tok u::C) u e n cs (.box<|A++.own e n cs::C):=by
  rintro w St t v b1 b2 ⟨g,T,bs',arr,e1,e2,hr,rfl,hst⟩ h2 hn;have⟨us1,us2,p1,p2,eu,eb,r1,r2⟩:=hr.app;have⟨u',us3,p3,p4,eu2,eb2,hc,r3,r4⟩:=r2;have⟨hp3,hu,_⟩:=r3;subst hu hp3 eb eb2;have hn1:=Ax.1 hn;have hn2:=BF.1 hn1.1;have hn3:=Ax.1 hn2.2;refine⟨g::(p1++(b2++p2)),?_,?_,g,T,p1++(b2++p2),arr,e1,e2,?_,rfl,hst⟩
  · refine BF.2 ⟨λhm=>?_,Ax.2 ⟨hn3.1,Ax.2 ⟨hn1.2.1,hn3.2.1,λa ha b hb e=>hn1.2.2 b (AV _<|Au _ hb) a ha e.symm⟩,λa ha b hb e=>?_⟩⟩
    · simp only[Al]at hm;rcases hm with h|h|h
      · exact hn2.1<|Az _ h
      · exact hn1.2.2 g BG g h rfl
      · exact hn2.1<|Au _ h
    · rcases Al.1 hb with hb|hb
      · exact hn1.2.2 a (AV _<|Az _ ha) b hb e
      · exact hn3.2.2 a ha b hb e
  · intro k hk;simp only[Cq,AA,Al]at hk⊢;rcases hk with h|h|h|h
    · exact .inl h
    · exact .inr<|.inl<|.inl h
    · exact .inr<|.inr h
    · exact .inr<|.inl<|.inr h
  · rw[eu,eu2];exact Bj.join r1<|show Bj P w St (.own e n cs::C) (u'::us3) (b2++p2)from⟨u',us3,b2,p2,rfl,rfl,rfl,h2,r4⟩
def je{s q u e n cs c c'}(r:σ s=c')(t:σ q=.gh [u] [.own e n cs])(d:s≠q)(D:og P c' u e n cs c)(F:(C0 c).isSome=(C0 c').isSome)(j:D4 c=none)
    (h:Gh P nt bx (upd (upd σ s c) q .undef) K):Gh P nt bx σ K:=by
  rintro base St0 H a w ⟨k,B,b,I,J,L⟩;have v:=b.slot s;rw[r]at v;have z:=b.slot q;rw[t]at z;have⟨U,M,b1,b2,A,i,_,l,f⟩:=z;simp only[CQ]at A;obtain⟨rfl,rfl⟩:=A;have m:b2=[]:=f.2;subst m;rw[AN]at i;have o:(B s++b1).Nodup:=Ax.2 ⟨b.nodup s,by have:=b.nodup q;rwa [i]at this,λx N y O e=>by subst e;exact b.apart s q d x N<|by rw[i];exact O⟩;have⟨bs,R,S,T⟩:=D w k (tm a) (tm a s) (B s) b1 v l o
  exact h base St0 H a w ⟨k,_,LK b d (by rw[t];rfl) T (show Ci P w k (tm a) .undef _ []from rfl) (by simpa using R) (λg C=>by
    rw[AN]at C;rcases Al.1 (S g C)with p|p
    · exact .inl p
    · exact .inr (by rw[i];exact p)) (by rw[r];exact F) j rfl rfl,I,J,L⟩
def ik{α:Type}{cs k c}(b:cs[k]? =some c)(x:α):cs=cs.take k++c::cs.drop (k+1)∧cs.set k x=cs.take k++x::cs.drop (k+1):=by have⟨a,d⟩:=Cm.1 b;refine⟨?_,by rw[FT,At a]⟩;rw[<-d,<-AS a,Db]
def ma(a b c d:zN):(a++(b++d)++c).Perm (a++(b++(c++d))):=by rw[Bg,Bg];exact L8 _<|L8 _ List.perm_append_comm
def xT{u1 e e2 n m k cs row}(hk:cs[k]? =some (.own e2 m row)):kl P (.gh [u1] [.own e n cs]) e2 m row (λu=>.gh [u1] [.own e n (cs.set k<|.tok u)]):=by
  rintro w St t v bs ⟨u,us',b1,b2,eu,eb,hc,⟨hn,xs,bs',hrow,hxs,hb1,hSt,h0⟩,hnil⟩ hnd;simp only[CQ]at eu;obtain⟨rfl,rfl⟩:=eu;have hb2:b2=[]:=hnil.2;subst hb2;rw[AN]at eb;subst eb;have hlt:=(Cm.1 hk).1;have e0:=λx=>ik hk x
  rw[(e0 .undef).1]at hxs;have⟨us1,us2,p1,p2,eu,eb2,r1,r2⟩:=Bj.app hxs;have⟨u',us3,p3,p4,eu2,eb3,hc',r3,r4⟩:=r2;subst eb3 eb2 hb1;have hp:=ma u1.ownBlock.toList p1 p3 p4;refine⟨u',u1.ownBlock.toList++(p1++p4),p3,r3,hp.nodup_iff.2 hnd,λg hg=>hp.mem_iff.1 hg,u1,[],_,[],rfl,(AN _).symm,rfl,⟨hn,xs,p1++p4,hrow,?_,rfl,hSt,λhz=>?_⟩,rfl,rfl⟩
  · rw[(e0<|.tok u').2,eu,eu2];exact Bj.join r1<|show Bj P w St (.tok u'::_) (u'::us3) p4 from⟨u',us3,[],p4,rfl,by simp,rfl,eF r3,r4⟩
  · have:=h0 hz;subst this;simp at hlt
def xb{u1 u2 e e2 n m k cs row}(hk:cs[k]? =some (.tok u2)):og P (.gh [u1] [.own e n cs]) u2 e2 m row (.gh [u1] [.own e n (cs.set k<|.own e2 m row)]):=by
  rintro w St t v c1 c2 ⟨u,us',b1,b2,eu,eb,hc,⟨hn,xs,bs',hrow,hxs,hb1,hSt,h0⟩,hnil⟩ h2 hnd;simp only[CQ]at eu;obtain⟨rfl,rfl⟩:=eu;have hb2:b2=[]:=hnil.2;subst hb2;rw[AN]at eb;subst eb;have hlt:=(Cm.1 hk).1;have e0:=λx=>ik hk x
  rw[(e0 .undef).1]at hxs;have⟨us1,us2,p1,p2,eu,eb2,r1,r2⟩:=Bj.app hxs;have⟨u',us3,p3,p4,eu2,eb3,hc',r3,r4⟩:=r2;have⟨hp3,hu,_⟩:=r3;subst hu hp3 eb3 eb2 hb1;have hp:=ma u1.ownBlock.toList p1 c2 p2;refine⟨u1.ownBlock.toList++(p1++(c2++p2)),hp.nodup_iff.1 (by simpa using hnd),λg hg=>by have:=hp.mem_iff.2 hg;simpa using this,u1,[],_,[],rfl,(AN _).symm,rfl,⟨hn,xs,p1++(c2++p2),hrow,?_,rfl,hSt,λhz=>?_⟩,rfl,rfl⟩
  · rw[(e0<|.own e2 m row).2,eu,eu2];exact Bj.join r1<|show Bj P w St (.own e2 m row::_) (u'::us3) (c2++p2)from⟨u',us3,c2,p2,rfl,rfl,rfl,h2,r4⟩
  · have:=h0 hz;subst this;simp at hlt
variable {α:Type}{f:α->List V}
end
end
section
mutual
def Qf:V->V
  |.dat n cs=>.arg n<|OO cs
  |.agg cs=>.agg<|OO cs
  |.int k n=>.int k n
  |.bool b=>.bool b
  |.str s=>.str s
  |.fn f=>.fn f
  |_=>.undef
def OO:List V->List V
  |[]=>[]
  |c::cs=>Qf c::OO cs
end
mutual
def XF:V->Bool
  |.dat _ cs=>Fj cs
  |.int _ _=>true
  |.bool _=>true
  |.str _=>true
  |.fn _=>true
  |_=>false
def Fj:List V->Bool
  |[]=>true
  |c::cs=>XF c&&Fj cs
end
def MT:V->Bool
  |.agg cs=>Fj cs
  |c=>XF c
section
variable {P:Program}{w:World}{St:Nat->Nat->Prop}{N:Nat->Prop}
def qS{cs}:OO cs≠[]->cs≠[]:=λh e=>h (by subst e;rfl)
mutual
def Rd.Oq(hst:∀b o,St b o->N b):∀(c:V) {v:Value},XF c=true->Rd w St c v->Rd w (λb o=>St b o∨N b) (Qf c) v
  |.int _ _,_,_,h=>h
  |.bool _,_,_,h=>h
  |.str _,_,_,h=>h
  |.fn _,_,_,h=>h
  |.dat _ cs,_,ha,⟨hn,A,c,e,hc,h,h0⟩=>⟨hn,A,c,e,hc,λhp=>let⟨b,off,ea,hr⟩:=h hp;⟨b,off,ea,λhne o=>.inr<|DO.blk hst b off cs (qS hne) hr,DO.Oq hst b off cs ha hr⟩,λhz=>by rw[h0 hz];rfl⟩
  |.own _ _ _,_,ha,_=>by cases ha
  |.pin _ _ _,_,ha,_=>by cases ha
  |.arg _ _,_,ha,_=>by cases ha
  |.agg _,_,ha,_=>by cases ha
  |.tup _,_,ha,_=>by cases ha
  |.box _,_,ha,_=>by cases ha
  |.uni _ _ _,_,ha,_=>by cases ha
  |.same _,_,ha,_=>by cases ha
  |.val _ _,_,ha,_=>by cases ha
  |.cref _ _,_,ha,_=>by cases ha
  |.adr _ _,_,ha,_=>by cases ha
  |.gh _ _,_,ha,_=>by cases ha
  |.tok _,_,ha,_=>by cases ha
  |.undef,_,ha,_=>by cases ha
def DO.Oq(a:∀b o,St b o->N b)(b:Nat):∀(off:Nat) (cs:List V),Fj cs=true->DO w St b off cs->DO w (λb o=>St b o∨N b) b off (OO cs)
  |_,[],_,_=>trivial
  |off,c::cs,d,⟨⟨e,u,f,g⟩,h⟩=>by rw[Fj,Ad]at d;exact⟨⟨.inl e,u,f,Rd.Oq a c d.1 g⟩,DO.Oq a b (off+1) cs d.2 h⟩
def DO.blk(a:∀b o,St b o->N b)(b:Nat):∀(off:Nat) (cs:List V),cs≠[]->DO w St b off cs->N b
  |_,[],h,_=>absurd rfl h
  |off,_::_,_,⟨⟨c,_⟩,_⟩=>a b off c
end
def Su.Oq(a:∀b o,St b o->N b):∀(cs:List V) {us:List Value},Fj cs=true->Su w St cs us->Su w (λb o=>St b o∨N b) (OO cs) us
  |[],_,_,h=>h
  |c::cs,_,d,⟨u,f,e,g,i⟩=>by rw[Fj,Ad]at d;exact⟨u,f,e,Rd.Oq a c d.1 g,Su.Oq a cs d.2 i⟩
def iw.Oq(a:∀b o,St b o->N b){c:V}{v:Value}(d:MT c=true)(h:iw w St c v):iw w (λb o=>St b o∨N b) (Qf c) v:=by
  cases c<;>first|exact Rd.Oq a _ d h|(cases d;done)|skip
  have⟨us,e,h⟩:=h;exact⟨us,e,Su.Oq a _ d h⟩
def Rr.Oq(d:∀b o,St b o->N b):∀{a:List V}{vs:List Value},a.all MT=true->Rr w St a vs->Rr w (λb o=>St b o∨N b) (a.map Qf) vs
  |[],_,_,h=>h
  |c::a,_,f,⟨u,g,e,i,j⟩=>by simp only[Bz,Ad]at f;exact⟨u,g,e,iw.Oq d f.1 i,Rr.Oq d f.2 j⟩
end
def c7{c}(h:XF c=true):J5 (Qf c)=true:=by cases c<;>first|rfl|cases h
def c8:∀{cs:List V},Fj cs=true->(OO cs).all J5=true
  |[],_=>rfl
  |c::cs,h=>by rw[Fj,Ad]at h;rw[OO,Bz,c7 h.1,c8 h.2];rfl
def c6{c}(h:MT c=true):O7 (Qf c)=true:=by
  cases c<;>first|exact c7 h|(cases h;done)|skip
  exact c8<|show Fj _=true from h
def oI:V->Bool
  |.tup cs=>F7 cs
  |c=>deep c
section
variable {P:Program}{w w':World}{St St':Nat->Nat->Prop}
def Ml.kept:∀(cs:List V) {us:List Value}{bs:zN},F7 cs=true->Ml P w St cs us bs->(∀g∈bs,w'.heap[g]? =w.heap[g]? ∧∀o,St' g o↔St g o)->Ml P w' St' cs us bs
  |[],_,_,_,h,_=>h
  |c::cs,_,_,f,⟨u,b,b1,b2,i,e2,j,k⟩,e=>by
    have a:deep c=true∧F7 cs=true:=by simpa[F7]using f
    exact⟨u,b,b1,b2,i,e2,Ow.kept c a.1 j<|λg d=>e g<|by rw[e2];exact Az _ d,Ml.kept cs a.2 k<|λg d=>e g<|by rw[e2];exact Au _ d⟩
def mS{c v bs}(a:oI c=true)(h:Ow P w St c v bs)(b:∀g∈bs,w'.heap[g]? =w.heap[g]? ∧∀o,St' g o↔St g o):Ow P w' St' c v bs:=by
  cases c<;>first|exact Ow.kept _ a h b|skip
  have⟨us,e,h⟩:=h;exact⟨us,e,Ml.kept _ a h b⟩
end
section
variable {P:Program}{tb:Tb}
def r9(htb:Lr P tb){f:FuncId}{fn:Func}{c:Code}{args:List V}{r:V}(hf:P.funcs[f]? =some fn)(hb:fn.body=some c)(hname:(fn.name== "runtime.NumGoroutine")=false)(bx:zN)(hlen:args.length<=fn.ntmps)(hargs:args.all MT=true)(hr:oI r=true)
    (hn:(fn.results.toList.map MF).Nodup) (h:ON P fn.ntmps bx c (Gm<|args.map Qf) (λe σ=>(e=.ret∨e=.normal)∧bq tb σ fn.results.toList=some r)):Mp P f args r:=by
  refine⟨⟨fn,hf,by rw[hb];rfl,hname⟩,λw St vs hst hgl hvs=>?_⟩;have hvs':=Rr.Oq hst hargs hvs;have hst':∀b o,(St b o∨b < w.heap.size)->b < w.heap.size:=λb o h=>h.elim (hst b o) id
  have hpl:(args.map Qf).all O7=true:=by rw[N2,Ap];exactλx hx=>c6<|Ap.1 hargs x hx
  have⟨hl,hat⟩:=args_at hvs';refine I9 hf hb ?_;have hrel:=bp (P:=P) (bx:=bx) hst' (hgl.of (λb hb o=>.inl<|hb o)<|λ_ _ _=>rfl) hvs' (by simpa using hlen) hpl;refine GL (h _ _ _ _ _ hrel) ?_;rintro e a' w' ⟨σ',⟨he,hres⟩,St1,B',h1,h2,h3,h4⟩
  have hfin:a'.defers=[]∧∃v,(results fn a'.tmps).run P w'=.ok v w'∧Ret P w St r (.returned v) w':=by
    have⟨v,bs,q1,q2,q3,q4⟩:=qc htb h1 hn hres;have hge:∀g∈bs,w.heap.size<=g:=λg hg=>MD (q4 g hg).1
    refine⟨h1.defers,v,q1,v,bs,λb o=>(b < w.heap.size∧St b o)∨(w.heap.size<=b∧St1 b o),rfl,⟨h2.os,h2.tape,h2.output,h2.size,h2.block⟩,λb o hlt=>⟨λhh=>hh.elim (·.2)<|λhh=>absurd hh.1<|by omega,λhh=>.inl ⟨hlt,hh⟩⟩,λb o hh=>?_,?_,q3,λg hg=>⟨hge g hg,(q4 g hg).2⟩⟩
    · rcases hh with hh|hh
      · exact BA hh.1 h2.size
      · exact h1.st b o hh.2
    · exact mS hr q2<|λg hg=>⟨rfl,λo=>⟨λhh=>hh.elim (λhh=>absurd hh.1 (by have:=hge g hg;omega)) (·.2),λhh=>.inr ⟨hge g hg,hh⟩⟩⟩
  rcases he with rfl|rfl
  · exact hfin
  · exact hfin
end
def sfY:PL->Prop
  |[]=>True
  |(_,c)::L=>MZ c=true∧sfY L
def yn:sfY []:=trivial
def yc{q c L}(h:MZ c=true)(k:sfY L):sfY ((q,c)::L):=⟨h,k⟩
def j0:∀{L:PL},sfY L->∀q,MZ (CB L q)=true
  |[],_,q=>rfl
  |(r,c)::L,⟨a,b⟩,q=>by
    by_cases e:q=r
    · subst e;rw[show CB ((q,c)::L) q=c from by simp[CB,upd_same]];exact a
    · rw[show CB ((r,c)::L) q=CB L q from by simp[CB,upd_ne _ _ e]];exact j0 b q
def XT:∀{L:PL}{q:Nat},q∉L.map (·.1)->CB L q=.undef
  |[],_,_=>rfl
  |(s,c)::L,q,h=>by rw[AH,AA,Fn]at h;rw[EH,upd_ne _ _ h.1];exact XT h.2
def VB{L}:∀{ss:zN}{L':PL},gu L ss=some L'->(∀q,q∈ss->lk L q=some (CB L' q))∧(∀q,q∉ss->CB L' q=.undef)∧L'.map (·.1)=ss
  |[],_,h=>by cases h;exact⟨λq a=>by simp at a,λ_ _=>rfl,rfl⟩
  |s::ss,_,h=>by
    rw[gu]at h;have⟨c,b,h⟩:=AZ h;have⟨j,d,h⟩:=AZ h;cases h;have⟨f,g,i⟩:=VB d;refine⟨λq a=>?_,λq a=>?_,by rw[AH,i]⟩
    · by_cases e:q=s
      · subst e;rw[EH,upd_same];exact b
      · rw[EH,upd_ne _ _ e];exact f q<|(AA.1 a).resolve_left e
    · rw[AA,Fn]at a;rw[EH,upd_ne _ _ a.1];exact g q a.2
def Um(L:PL)(S:zN):zN:=(L.map (·.1)).filter λq=> !S.contains q
def OB{L S q}:(Um L S).contains q=true↔q∈L.map (·.1)∧q∉S:=by unfold Um;rw[Bk,CC,AY,<-Hn,Bk]
def bi{L L1 S g q}(h:Yn L S=some L1)(f:q≠g):kill (Um L<|g::S) (CB L) q=CB L1 q:=by
  have⟨L',i,h⟩:=AZ h;have⟨j,h⟩:=DP h;cases h;have⟨k,l,m⟩:=VB i;by_cases a:q∈S
  · have n:=C3 (k q a);have o:¬(Um L<|g::S).contains q=true:=λh=>(OB.1 h).2<|AV _ a
    unfold kill;rw[As o,n];cases r:D4 (CB L1 q)with
    |none=>rfl
    |some b=>
      have s:b∈S:=by have⟨p,t,c⟩:=jH r;have:=Ap.1 j p t;rw[c,m]at this;exact Bk.1 this
      have d:¬(Um L<|g::S).contains b=true:=λh=>(OB.1 h).2<|AV _ s
      simp only[As d]
  · rw[l q a];by_cases e:q∈L.map (·.1)
    · exact Wb<|OB.2 ⟨e,λh=>(AA.1 h).elim f a⟩
    · unfold kill;rw[XT e];split<;>rfl
def qb{α:Type}{f es}(z:∀x,(f x).length=es){l:List α}{i:Int}{y:α}(e:AF l i=some y){o:Nat}{vs:List V}(n:o+vs.length<=es){x':α}(g:Qg (f y) o vs=f x'):Qg (l.flatMap f) (i.toNat * es+o) vs=(CL l i x').flatMap f:=by
  have⟨g1,g2,h⟩:=BB e;have b:i.toNat < l.length:=by omega
  unfold CL;rw[<-ie z b x',<-g];unfold Qg;have c:(l.flatMap f).drop (i.toNat * es)=f y++(l.flatMap f).drop ((i.toNat+1) * es):=by rw[Nc z,Nc z];have⟨a,j⟩:=Cm.1 h;rw[AS a,j,AI]
  have k:((f y).take o++vs++(f y).drop (o+vs.length)).length=es:=by have:=z y;simp only[Ak,Av,Be];omega
  rw[k]
  have e2:(l.flatMap f).take (i.toNat * es+o)=(l.flatMap f).take (i.toNat * es)++(f y).take o:=by
    have d:i.toNat * es<=(l.flatMap f).length:=by rw[A3 z];exact BW _<|HP b
    rw[List.take_add,c,G2 (by rw[z y];omega)]
  have m:(l.flatMap f).drop (i.toNat * es+o+vs.length)=(f y).drop (o+vs.length)++(l.flatMap f).drop (i.toNat * es+es):=by rw[MX,<-Ja,c,C9 (by rw[z y];omega),CN,DK]
  rw[e2,m];simp only[Bg]
def get_at{α:Type}{f es}(z:∀x,(f x).length=es){l:List α}{i:Int}{y:α}(e:AF l i=some y){o:Nat}{dd:TyD}(b:o+dd.size<=es)(j:0 < dd.size):getCells dd (l.flatMap f) (i.toNat * es+o)=getCells dd (f y) o∧i.toNat * es+o+dd.size<=(l.flatMap f).length:=by
  have⟨g1,g2,g⟩:=BB e;have c:i.toNat < l.length:=by omega
  have d:(l.flatMap f).drop (i.toNat * es)=f y++(l.flatMap f).drop ((i.toNat+1) * es):=by rw[Nc z,Nc z];have⟨a,h⟩:=Cm.1 g;rw[AS a,h,AI]
  have m:=z y;refine⟨?_,?_⟩
  · have e2:∀k,k < es->(l.flatMap f)[i.toNat * es+k]? =(f y)[k]?:=λk c=>by rw[<-Du,d,B7 (by omega)]
    cases dd with
    |st n p q=>simp only[getCells,TyD.size]at b⊢;rw[<-Ja,d,C9 (by omega),G2 (by rw[Be];omega)]
    |_=>simp only[getCells,TyD.size]at b⊢;rw[e2 o (by omega)]
  · rw[A3 z];have:(i.toNat+1) * es<=l.length * es:=BW _ c;rw[CN,DK]at this;omega
def gk{α:Type}{f:α->List V}{es:Nat}(z:∀x,(f x).length=es){l:List α}{i:Int}{y:α}(a:AF l i=some y){o:Nat}(b:Nat.ble (o+1) es=true):i.toNat * es+o < (l.flatMap f).length:=(get_at (dd:=.sc<|.bool false) z a (o:=o) (nb b) Nat.zero_lt_one).2
def sl{α:Type}{n:Nat}{l:List α}{i:Int}{x:α}(h:n=l.length):n=(CL l i x).length:=by unfold CL;rw[Bd];exact h
section
variable {P:Program}{tb:Tb}{cns:zN}{L:PL}{K:PS->Prop}{s t:Nat}{x y:Operand}{nt:Nat}{bx:zN}
def al{d:Nat}{α:Type}{l:List α}{y0:α}{g n m es f:Nat}{i:Int}{h:IntKind}{e:TypeId}{j:List V}(a:Tu L x=some (.tok<|.slice (some ⟨g,0,none⟩) n m))(b:Tu L y=some (.int h i))(c:tb s=some (.sl e es f j))(o:n=l.length)(p:AF l i=some y0)
    (k:K (CB<|(d,.tok<|.pointer<|some ⟨g,i.toNat * es,none⟩)::L)):Hh P tb cns ⟨some d,.indexAddr s x y,t,none⟩ (CB L) K:=by
  obtain⟨g1,g2,q⟩:=BB p;subst o;refine⟨?_,?_⟩
  · simp only[pc,np,c,dO,D1 a,D1 b,SG,qE];exact⟨g1,g2⟩
  · simp only[pv,nq,c,iaS,D1 a,D1 b,SG,zi];exact k
def qLe{q d:Nat}{α:Type}{f:α->List V}{l:List α}{y0:α}{i:Int}{g off m n es:Nat}{e:TypeId}{v:V}{dd:TyD}(o:Nat)(b:(Nat.beq q gS || Nat.beq q gU)=true)(c:cns.contains d=true)(h:adO L x=some (.tok<|.pointer<|some ⟨g,off,none⟩))(j:off=i.toNat * es+o)(p:tb s=some dd)
    (r:lk L q=some (.gh [.slice (some ⟨g,0,none⟩) n m] [.own e n (l.flatMap f)])) (z:∀x,(f x).length=es) (u:AF l i=some y0) (a:(Nat.ble (o+dd.size) es&&Nat.ble 1 dd.size)=true) (w:ak (getCells dd (f y0) o)=some v) (k:K (CB<|(d,v)::L)):
    Hh P tb cns ⟨some d,.load s x,t,none⟩ (CB L) K:=by
  subst j;rw[Ad]at a;obtain⟨A,e2⟩:=get_at (dd:=dd) z u (nb a.1)<|nb a.2;simp only[Hh,c,EL,ZI,p,Tz h];refine⟨trivial,q,g,_,e,n,m,_,rfl,(Bool.or_eq_true_iff.1 b).imp CV CV,C3 r,e2,nb a.2,?_⟩;rw[A,<-HC w];exact k
def qLh{d:Nat}{b:Value}{g off c m n:Nat}{e:TypeId}{cs:List V}{dd:TyD}(f:cns.contains d=true)(h:adO L x=some (.tok<|.pointer<|some ⟨g,off,none⟩))(i:off=c)(j:tb s=some dd)(a:(match dd with|.st .. =>false|_=>true)=true)
    (l:lk L gU=some (.gh [.slice (some ⟨g,0,none⟩) n m] [.own e n (cs.set c<|.tok b)])) (o:c < cs.length) (k:K (CB<|(d,.tok b)::L)):Hh P tb cns ⟨some d,.load s x,t,none⟩ (CB L) K:=by
  subst i;have p:dd.size=1:=by cases dd<;>first|rfl|cases a
  simp only[Hh,f,EL,ZI,j,Tz h];refine⟨trivial,gU,g,_,e,n,m,_,rfl,.inr rfl,C3 l,by rw[p,Bd];omega,by omega,?_⟩;have:getCells dd (cs.set off<|.tok b) off=.tok b:=by cases dd<;>first|(simp only[getCells,List.getElem?_set_self o];rfl)|cases a
  rw[this];exact k
def AhI{α:Type}{f l y0 i g off m n es e c dd L0 L1 vc}(o:Nat)(x':α)(S:zN)(O:adO L x=some (.tok<|.pointer<|some ⟨g,off,none⟩))(Q:off=i.toNat * es+o)(R:tb s=some dd)
    (T:lk L gS=some (.gh [.slice (some ⟨g,0,none⟩) n m] [.own e n (l.flatMap f)])) (C:Tu L y=some c) (D:(!(yT y).contains gS&& !S.contains gS)=true) (d:Aer (CB L) y vc) (j:(Nat.beq vc.length dd.size&&Nat.ble (o+dd.size) es)=true) (p:WO L y c=some L0) (r:Yn L0 S=some L1)
    (u:Qg (f y0) o vc=f x') (z:∀x,(f x).length=es) (F:AF l i=some y0) (U:∀x,Ee (f x)=true) (v:Ee vc=true) (H:sfY L1) (k:K (CB<|(gS,.gh [.slice (some ⟨g,0,none⟩) n m] [.own e n ((CL l i x').flatMap f)])::L1)):
    Hh P tb cns ⟨none,.store s x y,t,none⟩ (CB L) K:=by
  simp only[Ad,AY]at D j;subst Q;have e1:=D1 C;have b:vc.length=dd.size:=CV j.1;have w:=nb j.2;have I:CB L0=CZ (CB L) y:=Po C p;have⟨g1,g2,g3⟩:=BB F;have A:i.toNat * es+o+dd.size<=(l.flatMap f).length:=by rw[A3 z];have:(i.toNat+1) * es<=l.length * es:=BW _ (by omega);rw[CN,DK]at this;omega
  refine⟨rfl,?_⟩;simp only[j9,R,Tz O];refine⟨g,_,e,n,m,_,Um L0<|gS::S,vc,rfl,C3 T,?_,d,v,b,A,?_,λq a=>?_,?_⟩
  · exact sdF U l
  · rw[D.1,CH];cases W:(Um L0<|gS::S).contains gS with
    |false=>rfl
    |true=>exact absurd BG (OB.1 W).2
  · rw[<-I];by_cases J:(Um L0<|gS::S).contains q=true
    · exact .inl J
    · right;have e2:=bi r a;rcases UB (Um L0<|gS::S) (CB L0) q with M|M
      · by_cases N:q∈L0.map (·.1)
        · have X:q∈S:=Bv λh=>J (OB.2 ⟨N,λh'=>(AA.1 h').elim a h⟩)
          have⟨L',Y,B⟩:=AZ r;have⟨_,B⟩:=DP B;cases B;rw[C3 ((VB Y).1 q X)];exact j0 H q
        · rw[XT N];rfl
      · rw[<-M,e2];exact j0 H q
  · rw[<-I,qb z F (by rw[b];exact w) u]
    have Z:upd (kill (Um L0<|gS::S)<|CB L0) gS (.gh [.slice (some ⟨g,0,none⟩) n m] [.own e n ((CL l i x').flatMap f)])=CB ((gS,.gh [.slice (some ⟨g,0,none⟩) n m] [.own e n ((CL l i x').flatMap f)])::L1):=by
      rw[EH];funext q;by_cases a:q=gS
      · subst a;rw[upd_same,upd_same]
      · rw[upd_ne _ _ a,upd_ne _ _ a];exact bi r a
    rw[Z];exact k
def qSt{α:Type}{f l y0 i g off m n es e c dd L0 L1}(o:Nat)(x':α)(S:zN)(p:adO L x=some (.tok<|.pointer<|some ⟨g,off,none⟩))(q:off=i.toNat * es+o)(r:tb s=some dd)
    (u:lk L gS=some (.gh [.slice (some ⟨g,0,none⟩) n m] [.own e n (l.flatMap f)])) (a:Tu L y=some c) (b:(c.isArg&&(!(yT y).contains gS&& !S.contains gS))=true) (v:(Nat.beq (Ij c).length dd.size&&Nat.ble (o+dd.size) es)=true) (d:WO L y c=some L0) (w:Yn L0 S=some L1)
    (h:Qg (f y0) o (Ij c)=f x') (z:∀x,(f x).length=es) (A:AF l i=some y0) (B:∀x,Ee (f x)=true) (j:Ee (Ij c)=true) (C:sfY L1) (k:K (CB<|(gS,.gh [.slice (some ⟨g,0,none⟩) n m] [.own e n ((CL l i x').flatMap f)])::L1)):
    Hh P tb cns ⟨none,.store s x y,t,none⟩ (CB L) K:=by
  rw[Ad]at b;exact AhI o x' S p q r u a b.2 (.inl ⟨by rw[D1 a];exact b.1,by rw[D1 a]⟩) v d w h z A B j C k
def AhH{α:Type}{f l y0 i g off m n es e e2 dd L1}(o:Nat)(x':α)(S:zN)(b:adO L x=some (.tok<|.pointer<|some ⟨g,off,none⟩))(d:off=i.toNat * es+o)(h:tb s=some dd)
    (j:lk L gS=some (.gh [.slice (some ⟨g,0,none⟩) n m] [.own e n (l.flatMap f)])) (p:(!S.contains gS)=true) (q:(Nat.beq 1 dd.size&&Nat.ble (o+dd.size) es)=true) (r:Yn L S=some L1)
    (a:Qg (f y0) o [.own e2 0 []]=f x') (z:∀x,(f x).length=es) (u:AF l i=some y0) (v:∀x,Ee (f x)=true) (w:sfY L1) (k:K (CB<|(gS,.gh [.slice (some ⟨g,0,none⟩) n m] [.own e n ((CL l i x').flatMap f)])::L1)):
    Hh P tb cns ⟨none,.store s x<|.const<|.slice none 0 0,t,none⟩ (CB L) K:=
  AhI (c:=.dat 0 []) (vc:=[.own e2 0 []]) (L0:=L) o x' S b d h j rfl (by rw[Ad];exact⟨rfl,p⟩) (.inr ⟨rfl,e2,rfl⟩) q rfl r a z u v rfl w k
section
variable {α:Type}{f:α->List V}{l:List α}{e:TypeId}
def gLb{q b}(A C:List V)(c:lk L b=some (.box<|A++.own e l.length (l.flatMap f)::C))(d:lk L q=none)(a:Nat.beq b q=false)(i:0 < l.length)
    (h:∀g m,K<|CB<|(q,.gh [.slice (some ⟨g,0,none⟩) l.length m] [.own e l.length (l.flatMap f)])::(b,.box<|A++.tok (.slice (some ⟨g,0,none⟩) l.length m)::C)::L):Gh P nt bx (CB L) K:=
  jg (C3 c) (by rw[QF,d];rfl) (λe=>by rw[e]at a;simp at a) (lF (A:=A) (C:=C)) i (λ_=>rfl) (λ_=>rfl) λg m=>Mr<|h g m
def AiK{q b}(A C:List V)(c:lk L b=some (.box<|A++.own e l.length (l.flatMap f)::C))(d:lk L q=none)(a:Nat.beq b q=false)
    (h:∀u,K<|CB<|(q,.gh [u] [.own e l.length (l.flatMap f)])::(b,.box<|A++.tok u::C)::L):Gh P nt bx (CB L) K:=
  tF (C3 c) (by rw[QF,d];rfl) (λe=>by rw[e]at a;simp at a) (lF (A:=A) (C:=C)) (λ_=>rfl) (λ_=>rfl) λu=>Mr<|h u
def gLs{q b}(c:lk L b=some (.own e l.length<|l.flatMap f))(d:lk L q=none)(a:Nat.beq b q=false)(i:0 < l.length)
    (h:∀g m,K<|CB<|(q,.gh [.slice (some ⟨g,0,none⟩) l.length m] [.own e l.length (l.flatMap f)])::(b,.tok<|.slice (some ⟨g,0,none⟩) l.length m)::L):Gh P nt bx (CB L) K:=
  jg (C3 c) (by rw[QF,d];rfl) (λe=>by rw[e]at a;simp at a) uo i (λ_=>rfl) (λ_=>rfl) λg m=>Mr<|h g m
def gDb{q b n u}(A C:List V)(c:lk L b=some (.box<|A++.tok u::C))(d:lk L q=some (.gh [u] [.own e n (l.flatMap f)]))(a:Nat.beq b q=false)(g:n=l.length)
    (h:K (CB<|(q,.undef)::(b,.box<|A++.own e l.length (l.flatMap f)::C)::L)):Gh P nt bx (CB L) K:=by
  subst g;exact je (C3 c) (C3 d) (λe=>by rw[e]at a;simp at a) (s5 (A:=A) (C:=C)) rfl rfl<|Mr h
def gDs{q b n u}(c:lk L b=some (.tok u))(d:lk L q=some (.gh [u] [.own e n (l.flatMap f)]))(a:Nat.beq b q=false)(g:n=l.length)
    (h:K (CB<|(q,.undef)::(b,.own e l.length<|l.flatMap f)::L)):Gh P nt bx (CB L) K:=by
  subst g;exact je (C3 c) (C3 d) (λe=>by rw[e]at a;simp at a) s6 rfl rfl<|Mr h
variable {β:Type}{f2:β->List V}{l2:List β}{e2:TypeId}{n:Nat}{u1:Value}{y0:α}{i:Int}{es:Nat}
def gLg(o:Nat)(b:lk L gU=some (.gh [u1] [.own e n (l.flatMap f)]))(c:lk L gS=none)(z:∀x,(f x).length=es)(d:AF l i=some y0)(j:Nat.ble (o+1) es=true)(k:(f y0)[o]? =some (.own e2 l2.length<|l2.flatMap f2))(p:0 < l2.length)
    (h:∀g m,K<|CB<|(gS,.gh [.slice (some ⟨g,0,none⟩) l2.length m] [.own e2 l2.length (l2.flatMap f2)])::(gU,.gh [u1] [.own e n ((l.flatMap f).set (i.toNat * es+o)<|.tok<|.slice (some ⟨g,0,none⟩) l2.length m)])::L):Gh P nt bx (CB L) K:=by
  have q:(l.flatMap f)[i.toNat * es+o]? =some (.own e2 l2.length<|l2.flatMap f2):=by
    have⟨g1,g2,r⟩:=BB d;have u:(l.flatMap f).drop (i.toNat * es)=f y0++(l.flatMap f).drop ((i.toNat+1) * es):=by rw[Nc z,Nc z];have⟨a,v⟩:=Cm.1 r;rw[AS a,v,AI]
    rw[<-Du,u,B7 (by have:=z y0;have:=nb j;omega),k]
  exact jg (C3 b) (by rw[QF,c];rfl) (by decide) (xT q) p (λ_=>rfl) (λ_=>rfl) λg m=>Mr<|h g m
def gDg{u2 n2}(o:Nat)(x':α)(d:lk L gU=some (.gh [u1] [.own e n ((l.flatMap f).set (i.toNat * es+o)<|.tok u2)]))(g:lk L gS=some (.gh [u2] [.own e2 n2 (l2.flatMap f2)]))(z:∀x,(f x).length=es)(b:AF l i=some y0)(c:Nat.ble (o+1) es=true)(j:n2=l2.length)(k:Qg (f y0) o [.own e2 l2.length (l2.flatMap f2)]=f x')
    (h:K (CB<|(gS,.undef)::(gU,.gh [u1] [.own e n ((CL l i x').flatMap f)])::L)):Gh P nt bx (CB L) K:=by
  subst j;have⟨_,g2⟩:=get_at (dd:=.sc<|.bool false) z b (o:=o) (nb c) Nat.zero_lt_one;have a:i.toNat * es+o < (l.flatMap f).length:=g2;have m:((l.flatMap f).set (i.toNat * es+o)<|.tok u2)[i.toNat * es+o]? =some (.tok u2):=List.getElem?_set_self a;refine je (C3 d) (C3 g) (by decide) (xb m) rfl rfl<|Mr ?_;have p:((l.flatMap f).set (i.toNat * es+o)<|.tok u2).set (i.toNat * es+o) (.own e2 l2.length<|l2.flatMap f2)=(CL l i x').flatMap f:=by rw[List.set_set,<-qb z b (vs:=[.own e2 l2.length (l2.flatMap f2)]) (nb c) k];rw[FT,At a];simp[Qg]
  rw[p];exact h
end
def qP{d f args ts xs s as cs cs' r}(b:args.toList=x::xs)(c:adO L x=some (.cref s 0))(e:lk L s=some (.box cs))(a:cs.all J5=true)(g:erA (CB L) xs as)(h:Kg P f cs as cs' r)(k:K (CB<|(d,r)::(s,.box cs')::L))(i:cns.contains d=false:=by rfl):
    Hh P tb cns ⟨some d,.call {callee:=.value (.func f),args:=args,argTypes:=ts},t,none⟩ (CB L) K:=te (cnF i) b (Tz c) (C3 e) a g h k
def AhB(S:zN):Operand->Bool
  |.tmp p=>S.contains p
  |.const (.int _ _)=>true
  |.const (.bool _)=>true
  |.const (.string _)=>true
  |_=>false
def qCk{d f args ts n as r}(a:args.toList=[x])(b:Tu L x=some (.arg n as))(c:Mp P f [.arg n as] r)(k:K (CB<|(d,r)::L))(e:cns.contains d=false:=by rfl):Hh P tb cns ⟨some d,.call {callee:=.value (.func f),args:=args,argTypes:=ts},t,none⟩ (CB L) K:=by
  show Lo P cns _ f args.toList (CB L) K;unfold Lo;rw[As (by simpa using e)];refine .inl ⟨?_,r,.inr<|.inl ?_,k⟩
  · rw[a,Bz,D1 b];rfl
  · rw[a,AH,D1 b];exact c
def qN{d f args ts n as cs}(c:cns.contains d=true)(e:nbL L d=true)(a:args.toList=[x])(b:Tu L x=some (.arg n as))(g:NewAt P f [.arg n as] cs)(k:K (CB<|(d,.box cs)::L)):
    Hh P tb cns ⟨some d,.call {callee:=.value (.func f),args:=args,argTypes:=ts},t,none⟩ (CB L) K:=by
  refine td c (eh e) ?_ ?_ g k
  · rw[a,Bz,D1 b];rfl
  · rw[a,AH,D1 b];rfl
def oa(e:Lr P tb){f:FuncId}{nt:Nat}{bx:zN}{rs:List ResultVar}{l:LC}{a:List V}{r:V}(g:Lit P f nt bx rs l)(d:a.length<=nt)(b:a.all MT=true)(i:oI r=true)(h:LS P nt bx l (Gm<|a.map Qf) (vr tb rs r)):Mp P f a r:=by obtain⟨⟨u,c,j,k,m,rfl,rfl,n,o⟩,p,q⟩:=g;exact r9 e j k m bx d b i p<|h c n o q
end
def aB:F7 []=true:=rfl
def UR{c:V}{cs}(h:deep c=true)(k:F7 cs=true):F7 (c::cs)=true:=by rw[F7,h,k];rfl
def dcf{α:Type}{f}(h:∀x,F7 (f x)=true)(l:List α):F7 (l.flatMap f)=true:=aD.2 λc b=>by have⟨a,_,b⟩:=CA.1 b;exact aD.1 (h a) c b
def dv{α:Type}{f}(h:∀x,F7 (f x)=true)(e:TypeId)(l:List α):deep (.own e l.length<|l.flatMap f)=true:=by rw[deep];exact dcf h l
def sgh{us e n k cs u}(h:Ee cs=true):MZ (.gh us [.own e n (cs.set k<|.tok u)])=true:=by
  show Ee [_]=true;rw[Ee,Sl,Ad];refine⟨Oa.2 λc b=>?_,rfl⟩;rcases CG b with a|a
  · exact Oa.1 h c a
  · subst a;rfl
def av:∀{cs:List V},NS cs=true↔∀c∈cs,Oq c=true
  |[]=>by simp[NS]
  |c::cs=>by rw[NS,Ad,av (cs:=cs)];simp
def acc{c:V}{cs}(h:Oq c=true)(k:NS cs=true):NS (c::cs)=true:=by rw[NS,h,k];rfl
def acf{α:Type}{f}(h:∀x,NS (f x)=true)(l:List α):NS (l.flatMap f)=true:=av.2 λc b=>by have⟨a,_,b⟩:=CA.1 b;exact av.1 (h a) c b
def aca{α:Type}{f}(h:∀x,NS (f x)=true)(l:List α):Oq (.arg l.length<|l.flatMap f)=true:=by rw[Oq];exact acf h l
def sO{c}(h:deep c=true):Yq c=true:=Aaj h
def sA{c}(h:Oq c=true):Yq c=true:=vU h
def Jx{c:V}{cs}(h:Yq c=true)(k:cs.all Yq=true):(c::cs).all Yq=true:=by rw[Bz,h,k];rfl
def bcc{c:V}{cs}(h:XF c=true)(k:Fj cs=true):Fj (c::cs)=true:=by rw[Fj,h,k];rfl
def vag{cs cs'}(h:OO cs=cs'):Qf (.agg cs)=.agg cs':=by rw[Qf,h]
def b9{c:V}{cs}(h:MT c=true)(k:cs.all MT=true):(c::cs).all MT=true:=by rw[Bz,h,k];rfl
def mvv{c c':V}{cs cs'}(h:Qf c=c')(k:cs.map Qf=cs'):(c::cs).map Qf=c'::cs':=by rw[AH,h,k]
def vcc{c c':V}{cs cs'}(h:Qf c=c')(k:OO cs=cs'):OO (c::cs)=c'::cs':=by rw[OO,h,k]
def fX:∀(a b:List V),OO (a++b)=OO a++OO b
  |[],_=>rfl
  |c::a,b=>by rw[Cq,OO,OO,fX a b,Cq]
def c9{α:Type}{f g}(h:∀x,OO (f x)=g x):∀l:List α,OO (l.flatMap f)=l.flatMap g
  |[]=>rfl
  |x::l=>by rw[AI,AI,fX,h,c9 h l]
def ca{α:Type}{f g}(h:∀x,OO (f x)=g x)(l:List α):Qf (.dat l.length<|l.flatMap f)=.arg l.length (l.flatMap g):=by rw[Qf,c9 h]
def kn:∀{a b:List V},Fj a=true->Fj b=true->Fj (a++b)=true
  |[],_,_,h=>h
  |c::a,b,h,k=>by rw[Fj,Ad]at h;rw[Cq,Fj,h.1,kn h.2 k];rfl
def fW{α:Type}{f}(h:∀x,Fj (f x)=true):∀l:List α,Fj (l.flatMap f)=true
  |[]=>rfl
  |x::l=>by rw[AI];exact kn (h x)<|fW h l
def WE{α:Type}{f}(h:∀x,Fj (f x)=true)(l:List α):XF (.dat l.length<|l.flatMap f)=true:=fW h l
end
section
mutual
def frz:V->V
  |.own _ n cs=>.arg n<|Qn cs
  |.dat n cs=>.dat n cs
  |.arg n cs=>.arg n cs
  |.pin u n cs=>.pin u n cs
  |.int k n=>.int k n
  |.bool b=>.bool b
  |.str s=>.str s
  |.fn f=>.fn f
  |.tok u=>.tok u
  |_=>.undef
def Qn:List V->List V
  |[]=>[]
  |c::cs=>frz c::Qn cs
end
def dH{cs}(h:cs=[]):Qn cs=[]:=by subst h;rfl
section
variable {P:Program}{w:World}{St St':Nat->Nat->Prop}
mutual
def Ow.frz(hs:∀b o,St b o->St' b o):∀(c:V) {v:Value}{bs:zN},Ow P w St c v bs->c.DF=true->(∀g∈bs,∀o,St' g o)->Rd w St' (frz c) v
  |.int _ _,_,_,h,_,_=>h.2
  |.bool _,_,_,h,_,_=>h.2
  |.str _,_,_,h,_,_=>h.2
  |.dat n cs,_,_,h,_,_=>Rd.mono hs (λ_ _ _=>rfl) (.dat n cs) h.2
  |.arg n cs,_,_,h,_,_=>Rd.mono hs (λ_ _ _=>rfl) (.arg n cs) h.2
  |.pin u n cs,_,_,h,_,_=>Rd.mono hs (λ_ _ _=>rfl) (.pin u n cs) h.2
  |.own e n cs,v,bs,⟨hn,xs,bs',h1,h2,h3,h4,h5⟩,_,hg=>by
    have hl:=h1.1;rcases h1.2 with⟨rfl,rfl⟩|⟨g,cap,cur,rfl,hg1,hh,hc,hm,hsz,hx⟩
    · exact⟨Ba hn,none,0,rfl,Bb _,λh=>absurd h (by omega),λhz=>dH<|h5 hz⟩
    · have hgo:=hg g (by rw[h3];simp[Value.ownBlock]);refine⟨Ba hn,_,cap,rfl,hc,λ_=>⟨g,0,rfl,λ_=>hgo,?_⟩,λhz=>dH<|h5 hz⟩;refine Bj.frz hs cs 0 h2 hgo (λj u hu=>?_)<|λg' hg'=>hg g'<|by rw[h3];exact Au _ hg'
      have hj:j < n * V1 P e:=by
        rw[<-hl];rcases Bi j xs.length with h|h
        · exact h
        · rw[BJ h]at hu;cases hu
      rw[Cw];simp only[World.cell?,hh];rw[<-hx,Eb,At hj]at hu;simpa using hu
  |.agg _,_,_,_,h,_=>by cases h
  |.tup _,_,_,_,h,_=>by cases h
  |.box _,_,_,h,_,_=>h.elim
  |.uni _ _ _,_,_,h,_,_=>h.elim
  |.same _,_,_,h,_,_=>h.elim
  |.val _ _,_,_,h,_,_=>h.elim
  |.cref _ _,_,_,h,_,_=>h.elim
  |.adr _ _,_,_,h,_,_=>h.elim
  |.gh _ _,_,_,h,_,_=>h.elim
  |.fn _,_,_,h,_,_=>h.2
  |.tok _,_,_,h,_,_=>h.2
  |.undef,_,_,h,_,_=>h.elim
def Bj.frz(hs:∀b o,St b o->St' b o){g:Nat}:∀(cs:List V) (off:Nat) {us:List Value}{bs:zN},Bj P w St cs us bs->(∀o,St' g o)->(∀(j:Nat) (u:Value),us[j]? =some u->w.cell? ⟨g,off+j,none⟩=some u)->(∀g∈bs,∀o,St' g o)->DO w St' g off (Qn cs)
  |[],_,_,_,_,_,_,_=>trivial
  |c::cs,off,_,_,⟨u,us',b1,b2,e1,e2,hc,h1,h2⟩,hgo,hu,hg=>by have h0:=hu 0 u (by rw[e1];rfl);refine⟨⟨hgo off,u,by simpa using h0,Ow.frz hs c h1 hc<|λg' hg'=>hg g'<|by rw[e2];exact Az _ hg'⟩,Bj.frz hs cs (off+1) h2 hgo (λj x hx=>?_)<|λg' hg'=>hg g'<|by rw[e2];exact Au _ hg'⟩;have:=hu (j+1) x (by rw[e1];simpa using hx);rw[show off+1+j=off+(j+1)by omega];exact this
end
end
def wC(P:Program)(c c':V):Prop:=
  ∀w a (t:Nat->Value) v bs,Ci P w a t c v bs->bs.Nodup->∃d b1:zN,(∀g∈d,g∈bs)∧(∀g∈b1,g∈bs)∧b1.Nodup∧Ci P w (λb o=>a b o∨b∈d) t c' v b1
section
variable {P:Program}{w:World}{St St':Nat->Nat->Prop}
def tw{c}(h:c.DF=true):(frz c).DF=true:=by cases c<;>first|rfl|cases h
def AdY{c v}(a:c.DF=true)(h:Rd w St (frz c) v):Ow P w St (frz c) v []:=by cases c<;>first|exact⟨rfl,h⟩|cases a
def Bj.xl(f:∀b o,St b o->St' b o):∀(cs:List V) {us:List Value}{bs:zN},Bj P w St cs us bs->(∀g∈bs,∀o,St' g o)->Bj P w St' (Qn cs) us []
  |[],_,_,h,_=>⟨h.1,rfl⟩
  |c::cs,_,_,⟨u,d,b1,b2,j,e2,e,k,l⟩,i=>⟨u,d,[],[],j,rfl,tw e,AdY e<|Ow.frz f c k e<|λg a=>i g<|by rw[e2];exact Az _ a,Bj.xl f cs l<|λg a=>i g<|by rw[e2];exact Au _ a⟩
def Ow.xl{e n cs v bs}(h:Ow P w St (.own e n cs) v bs)(hn:bs.Nodup):∃fb b1:zN,(∀g∈fb,g∈bs)∧(∀g∈b1,g∈bs)∧b1.Nodup∧(∀g∈b1,g∉fb)∧Ow P w (λb o=>St b o∨b∈fb) (.own e n<|Qn cs) v b1:=by
  have⟨hl,xs,bs',h1,h2,h3,h4,h5⟩:=h;rw[h3]at hn;have hn2:=Ax.1 hn;have hap:∀g∈v.ownBlock.toList,g∉bs':=λg hg hg2=>hn2.2.2 g hg g hg2 rfl
  refine⟨bs',v.ownBlock.toList,λg hg=>by rw[h3];exact Au _ hg,λg hg=>by rw[h3];exact Az _ hg,hn2.1,hap,hl,xs,[],?_,Bj.xl (λ_ _ h=>.inl h) cs h2<|λg hg o=>.inr hg,by simp,λg hg o=>?_,λhz=>dH<|h5 hz⟩
  · refine⟨h1.1,?_⟩;rcases h1.2 with h|⟨g,cap,cur,rfl,hg,hh,r⟩
    · exact .inl h
    · exact .inr ⟨g,cap,cur,rfl,hg,hh,r⟩
  · refine⟨λh=>h.elim (λh=>(h4 g hg o).1 h)<|λhf=>absurd hf<|hap g<|by rw[hg];simp,λh=>.inl<|(h4 g hg o).2 h⟩
end
section
variable {P:Program}{nt:Nat}{bx:zN}{σ:PS}{K:PS->Prop}
def xn{e n cs}:wC P (.own e n cs) (.arg n<|Qn cs):=λw b t v bs h c=>⟨bs,[],λ_ h=>h,λ_ h=>(by cases h),AR,⟨rfl,Ow.frz (λ_ _ h=>.inl h) (.own e n cs) h rfl<|λg a o=>.inr a⟩⟩
def xm{e n cs A C}:wC P (.box<|A++.own e n cs::C) (.box<|A++.arg n (Qn cs)::C):=by
  rintro w k t v bs ⟨g,T,B,r,D,e2,F,rfl,s⟩ H;have⟨I,J,p1,p2,L,M,N,O⟩:=F.app;have⟨u,l,p3,p4,y,z,hc,Q,R⟩:=O;subst M z;have i:=BF.1 H;have d:=Ax.1 i.2;have m:=Ax.1 d.2.1;have f:∀p:zN,(∀x∈p,x∉p3)->∀x∈p,w.heap[x]? =w.heap[x]? ∧∀o,(k x o∨x∈p3)↔k x o:=λp S x c=>⟨rfl,λo=>⟨λh=>h.elim id<|λhf=>absurd hf<|S x c,.inl⟩⟩
  have U:=Bj.mono (St':=λb o=>k b o∨b∈p3) (λ_ _ h=>.inl h) (λ_ _ _=>rfl) _ N<|f p1 λx c j=>d.2.2 x c x (Az _ j) rfl
  have W:=Bj.mono (St':=λb o=>k b o∨b∈p3) (λ_ _ h=>.inl h) (λ_ _ _=>rfl) _ R<|f p4 λx c j=>m.2.2 x j x c rfl
  have X:Ow P w (λb o=>k b o∨b∈p3) (.arg n<|Qn cs) u []:=⟨rfl,Ow.frz (λ_ _ h=>.inl h) (.own e n cs) Q rfl<|λg Y o=>.inr Y⟩;refine⟨p3,g::(p1++p4),?_,?_,?_,g,T,p1++p4,r,D,e2,?_,rfl,λo q=>?_⟩
  · intro x c;exact AV _<|Au _<|Az _ c
  · intro x c;simp only[AA,Al]at c⊢;rcases c with h|h|h
    · exact .inl h
    · exact .inr<|.inl h
    · exact .inr<|.inr<|.inr h
  · refine BF.2 ⟨λhm=>i.1 ?_,Ax.2 ⟨d.1,m.2.1,λa Z b hb=>d.2.2 a Z b<|Au _ hb⟩⟩;simp only[Al]at hm⊢;rcases hm with h|h
    · exact .inl h
    · exact .inr<|.inr h
  · rw[L,y];exact Bj.join U<|show Bj P w _ (.arg n (Qn cs)::C) (u::l) p4 from⟨u,l,[],p4,rfl,by simp,rfl,X,W⟩
  · rcases q with q|q
    · exact s o q
    · exact i.1<|Au _<|Az _ q
def tv{e n cs A C}:wC P (.box<|A++.own e n cs::C) (.box<|A++.own e n (Qn cs)::C):=by
  rintro w s t v bs ⟨g,T,J,D,L,e2,M,rfl,F⟩ N;have⟨O,Q,p1,p2,R,S,U,W⟩:=M.app;have⟨u,m,p3,p4,H,I,hc,X,Y⟩:=W;subst S I;have j:=BF.1 N;have c:=Ax.1 j.2;have f:=Ax.1 c.2.1;have⟨q,b1,y,z,Z,q4,q5⟩:=Ow.xl X f.1;have i:∀p:zN,(∀x∈p,x∉q)->∀x∈p,w.heap[x]? =w.heap[x]? ∧∀o,(s x o∨x∈q)↔s x o:=λp hp x d=>⟨rfl,λo=>⟨λh=>h.elim id<|λhf=>absurd hf<|hp x d,.inl⟩⟩
  have m1:=Bj.mono (St':=λb o=>s b o∨b∈q) (λ_ _ h=>.inl h) (λ_ _ _=>rfl) _ U<|i p1 λx d k=>c.2.2 x d x (Az _<|y x k) rfl
  have m4:=Bj.mono (St':=λb o=>s b o∨b∈q) (λ_ _ h=>.inl h) (λ_ _ _=>rfl) _ Y<|i p4 λx d k=>f.2.2 x (y x k) x d rfl
  refine⟨q,g::(p1++(b1++p4)),?_,?_,?_,g,T,p1++(b1++p4),D,L,e2,?_,rfl,λo r=>?_⟩
  · intro x d;exact AV _<|Au _<|Az _<|y x d
  · intro x d;simp only[AA,Al]at d⊢;rcases d with h|h|h|h
    · exact .inl h
    · exact .inr<|.inl h
    · exact .inr<|.inr<|.inl<|z x h
    · exact .inr<|.inr<|.inr h
  · refine BF.2 ⟨λhm=>j.1 ?_,Ax.2 ⟨c.1,Ax.2 ⟨Z,f.2.1,λa B b l=>f.2.2 a (z a B) b l⟩,λa B b l e=>?_⟩⟩
    · simp only[Al]at hm⊢;rcases hm with h|h|h
      · exact .inl h
      · exact .inr<|.inl<|z _ h
      · exact .inr<|.inr h
    · rcases Al.1 l with l|l
      · exact c.2.2 a B b (Az _<|z b l) e
      · exact c.2.2 a B b (Au _ l) e
  · rw[R,H];exact Bj.join m1<|show Bj P w _ (.own e n (Qn cs)::C) (u::m) (b1++p4)from⟨u,m,b1,p4,rfl,rfl,rfl,q5,m4⟩
  · rcases r with r|r
    · exact F o r
    · exact j.1<|Au _<|Az _<|y g r
def jf{s c c'}(hs:σ s=c)(F:wC P c c')(hb:(C0 c').isSome=(C0 c).isSome)(hrf:D4 c'=none)
    (h:Gh P nt bx (upd σ s c') K):Gh P nt bx σ K:=by
  rintro base St0 w0 a w ⟨St,B,hS,r1,r2,r3⟩;have h1:=hS.slot s;rw[hs]at h1;have⟨fb,b1,q1,q2,q3,q4⟩:=F w St (tm a) (tm a s) (B s) h1<|hS.nodup s;have hB:∀r,r≠s->upd B s b1 r=B r:=λr e=>upd_ne _ _ e
  have hσ:∀r,r≠s->upd σ s c' r=σ r:=λr e=>upd_ne _ _ e
  have hin:∀r,∀g∈upd B s b1 r,g∈B r:=λr g hg=>by
    by_cases e:r=s
    · subst e;rw[upd_same]at hg;exact q2 g hg
    · rw[hB r e]at hg;exact hg
  refine h base St0 w0 a w ⟨λb o=>St b o∨b∈fb,upd B s b1,{hS with
    slot:=λr=>?_
    boxes:=λr cs e=>?_
    crefs:=λr b e=>?_
    nodup:=λr=>?_
    apart:=λr t hrt g hg hg2=>hS.apart r t hrt g (hin r g hg)<|hin t g hg2
    hapart:=λr g hg=>hS.hapart r g<|hin r g hg
    range:=λr g hg=>hS.range r g<|hin r g hg
    st:=λb o hbo=>hbo.elim (hS.st b o)<|λhf=>(hS.range s b<|q1 b hf).2
    gl:=hS.gl.of (λb hb o=>.inl (hb o)) (λ_ _ _=>rfl)},r1,λb o hbb=>⟨λhbo=>hbo.elim (r2 b o hbb).1 (λhf=>absurd hbb (hS.range s b (q1 b hf)).1),λh0=>.inl ((r2 b o hbb).2 h0)⟩,r3⟩
  · by_cases e:r=s
    · subst e;rw[upd_same,upd_same];exact q4
    · rw[hσ r e,hB r e];exact(hS.slot r).mono (λ_ _ h=>.inl h) (λ_ _ _=>rfl) (λg hg=>⟨rfl,λo=>⟨λh=>h.elim id<|λhf=>absurd (q1 g hf)<|hS.apart r s e g hg,.inl⟩⟩)<|λ_ _=>rfl
  · by_cases e1:r=s
    · subst e1;rw[upd_same]at e;rw[e]at hb;cases hx:C0 c with
      |none=>rw[hx]at hb;cases hb
      |some ds=>exact hS.boxes r ds (by rw[hs];exact hx)
    · rw[hσ r e1]at e;exact hS.boxes r cs e
  · by_cases e1:r=s
    · subst e1;rw[upd_same,hrf]at e;cases e
    · rw[hσ r e1]at e;have⟨cs,hc⟩:=hS.crefs r b e;by_cases e2:b=s
      · subst e2;rw[hs]at hc;rw[upd_same];cases hx:C0 c' with
        |none=>rw[hx,hc]at hb;cases hb
        |some ds=>exact⟨ds,rfl⟩
      · exact⟨cs,by rw[hσ b e2];exact hc⟩
  · by_cases e:r=s
    · subst e;rw[upd_same];exact q3
    · rw[hB r e];exact hS.nodup r
end
def k9:∀(a b:List V),Qn (a++b)=Qn a++Qn b
  |[],b=>rfl
  |c::a,b=>by rw[Cq,Qn,Qn,k9 a b,Cq]
def Vp{α:Type}{f g}(h:∀x,Qn (f x)=g x):∀l:List α,Qn (l.flatMap f)=l.flatMap g
  |[]=>rfl
  |x::l=>by rw[AI,AI,k9,h,Vp h l]
section
variable {P:Program}{nt:Nat}{bx:zN}{K:PS->Prop}{L:PL}{α:Type}{f g:α->List V}{l:List α}{e:TypeId}
def gFb{b}(A C:List V)(a:lk L b=some (.box<|A++.own e l.length (l.flatMap f)::C))(c:∀x,Qn (f x)=g x)
    (h:K (CB<|(b,.box<|A++.arg l.length (l.flatMap g)::C)::L)):Gh P nt bx (CB L) K:=by
  rw[<-Vp c l]at h;exact jf (C3 a) xm rfl rfl<|Mr h
def gFi{b}(A C:List V)(a:lk L b=some (.box<|A++.own e l.length (l.flatMap f)::C))(c:∀x,Qn (f x)=g x)
    (h:K (CB<|(b,.box<|A++.own e l.length (l.flatMap g)::C)::L)):Gh P nt bx (CB L) K:=by
  rw[<-Vp c l]at h;exact jf (C3 a) tv rfl rfl<|Mr h
def gFs{b}(a:lk L b=some (.own e l.length<|l.flatMap f))(c:∀x,Qn (f x)=g x)
    (h:K (CB<|(b,.arg l.length<|l.flatMap g)::L)):Gh P nt bx (CB L) K:=by
  rw[<-Vp c l]at h;exact jf (C3 a) xn rfl rfl<|Mr h
end
def fzc{c c':V}{cs cs'}(h:frz c=c')(k:Qn cs=cs'):Qn (c::cs)=c'::cs':=by rw[Qn,h,k]
def fzO{α:Type}{f g}(h:∀x,Qn (f x)=g x)(e:TypeId)(l:List α):frz (.own e l.length<|l.flatMap f)=.arg l.length (l.flatMap g):=by rw[frz,Vp h]
end
end Go.Proofs.YtpnoalhfjnjeaaaGreatDoor
