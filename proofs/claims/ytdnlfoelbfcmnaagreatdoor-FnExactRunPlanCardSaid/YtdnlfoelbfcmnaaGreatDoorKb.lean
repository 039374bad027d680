/- A machine on data, part 2: code, the rules of the printed walks, loops. Over no program; no conditions. -/
import Derived.Test.YtdnlfoelbfcmnaaGreatDoorKq
open Go.RowKit
set_option linter.all false
namespace Go.Proofs.YtdnlfoelbfcmnaaGreatDoor
section
def p2{α β:Type}{a a':α}{b b':β}(h:(a,b)=(a',b')):a=a'∧b=b':=Prod.mk.inj h
section
variable {P:Program}{tb:Tb}{cns:zN}{σ:PS}{K:PS->Prop}{d s t:Nat}{x y z:Operand}
def EQ{op:Op}{q:Nat}{e b:Bool}(g:e=b)(h:(gOp cns d op,σ q)=(true,.bool e))(k:Jm P tb cns ⟨some d,op,t,none⟩ σ K):Jm P tb cns ⟨some d,op,t,some (some q,b)⟩ σ K:=by subst g;obtain⟨a,c⟩:=p2 h;exact Ahl a c k
def ed{o:LO}{os R W fps}(h:(ZT R W o.op σ,adB cns R o σ)=(true,true))(k:Jm P tb cns o σ (λσ'=>bm P tb cns fps os σ' K)):bm P tb cns ((R,W)::fps) (o::os) σ K:=evd (p2 h).1 (p2 h).2 k
end
def vA(σ:PS):List (Nat×V)->List V
  |[]=>[]
  |(s,_)::L=>σ s::vA σ L
def vB:List (Nat×V)->List V
  |[]=>[]
  |(_,c)::L=>c::vB L
def A7{σ}:∀{L:List (Nat×V)},vA σ L=vB L->iF σ L
  |[],_=>trivial
  |(s,c)::L,h=>by
    injection h with h1 h2
    exact⟨h1 ▸ kr,A7 h2⟩
section
variable {P:Program}{nt:Nat}{bx:zN}{σ:PS}{Q:Exit->PS->Prop}{tb:Tb}{cns:zN}
def kp{l}(L:List (Nat×V))(a:vA σ L=vB L)(b:okR L=true)(h:LS P nt bx l (CP L) Q):LS P nt bx l σ Q:=TW L (A7 a) b h
end
end
section
abbrev PL:=List<|Nat×V
def Wj{α:Type}(b:Bool)(x:Option α):Option α:=match b with
  |true=>x
  |false=>none
def DU{α:Type}{b:Bool}{x:Option α}{r:α}(h:Wj b x=some r):b=true∧x=some r:=by
  cases b with
  |true=>exact⟨rfl,h⟩
  |false=>cases h
def AcX:V->Option V
  |.int k n=>some<|.int k n
  |.bool b=>some<|.bool b
  |.str s=>some<|.str s
  |.own e n cs=>some<|.own e n cs
  |.dat n cs=>some<|.dat n cs
  |.arg n cs=>some<|.arg n cs
  |.pin u n cs=>some<|.pin u n cs
  |.fn f=>some<|.fn f
  |.tok u=>some<|.tok u
  |_=>none
def mb:List V->Option (List V)
  |[]=>some []
  |c::cs=>G (AcX c) λa=>G (mb cs) λas=>some<|a::as
def AcY:V->Option V
  |.agg cs=>G (mb cs) λas=>some<|.agg as
  |c=>AcX c
def uQ:List V->Option (List V)
  |[]=>some []
  |c::cs=>G (AcY c) λa=>G (uQ cs) λas=>some<|a::as
def ak:V->Option V
  |.tup cs=>G (uQ cs) λas=>some<|.tup as
  |.box cs=>G (mb cs) λas=>some<|.box as
  |.cref s o=>some<|.cref s o
  |.adr cs o=>some<|.adr cs o
  |.same s=>some<|.same s
  |.val s u=>some<|.val s u
  |.uni e n cs=>some<|.uni e n cs
  |c=>AcY c
def qh{c d}(h:AcX c=some d):d=c:=by cases c<;>first|(cases h;rfl)|cases h
def cB:∀{cs ds:List V},mb cs=some ds->ds=cs
  |[],_,h=>by cases h;rfl
  |c::cs,_,h=>by rw[mb]at h;have⟨a,b,h⟩:=Be h;have⟨e,d,h⟩:=Be h;cases h;rw[qh b,cB d]
def qj{c d}(h:AcY c=some d):d=c:=by
  cases c with
  |agg cs=>have⟨b,a,h⟩:=Be<|show G (mb cs) _=_ from h;cases h;rw[cB a]
  |_=>exact qh h
def qm:∀{cs ds:List V},uQ cs=some ds->ds=cs
  |[],_,h=>by cases h;rfl
  |c::cs,_,h=>by rw[uQ]at h;have⟨a,b,h⟩:=Be h;have⟨e,d,h⟩:=Be h;cases h;rw[qj b,qm d]
def IJ{c d}(h:ak c=some d):d=c:=by
  cases c with
  |tup cs=>have⟨b,a,h⟩:=Be<|show G (uQ cs) _=_ from h;cases h;rw[qm a]
  |box cs=>have⟨b,a,h⟩:=Be<|show G (mb cs) _=_ from h;cases h;rw[cB a]
  |cref s o=>cases h;rfl
  |adr s o=>cases h;rfl
  |same s=>cases h;rfl
  |val s u=>cases h;rfl
  |uni e n cs=>cases h;rfl
  |_=>exact qj h
def lk:PL->Nat->Option V
  |[],_=>none
  |(s,c)::L,q=>match Nat.beq q s with
    |true=>some c
    |false=>lk L q
def EI(s:Nat)(c:V)(L:PL):CP ((s,c)::L)=upd (CP L) s c:=rfl
def S4:∀(L:PL) (q:Nat),CP L q=(lk L q).getD .undef
  |[],_=>rfl
  |(s,c)::L,q=>by
    rw[lk,EI];cases h:Nat.beq q s with
    |true=>rw[C0 h,upd_same];rfl
    |false=>rw[upd_ne _ _ (Nat.ne_of_beq_eq_false h)];exact S4 L q
def Dx{L q c}(h:lk L q=some c):CP L q=c:=by rw[S4,h];rfl
def TZ(L:PL):Operand->Option V
  |.tmp s=>lk L s
  |.const v=>ak<|cV v
  |.func f=>some<|.fn f
  |_=>none
def EN{L x c}(h:TZ L x=some c):CC (CP L) x=c:=by
  cases x with
  |tmp s=>exact Dx h
  |const v=>exact(IJ h).symm
  |func f=>cases h;rfl
  |_=>cases h
def adO(L:PL):Operand->Option V
  |.tmp s=>G (lk L s) λc=>match c with
    |.box _=>some<|.cref s 0
    |c=>some c
  |.global g=>ak<|mz g
  |_=>none
def U0{L x c}(h:adO L x=some c):Nh (CP L) x=c:=by
  cases x with
  |tmp s=>
    have⟨a,b,h⟩:=Be<|show G (lk L s) _=_ from h
    have:=Dx b;simp only[Nh,this];cases a<;>(cases h;rfl)
  |global g=>exact(IJ h).symm
  |_=>cases h
def zL:V->Bool
  |.own .. =>true
  |_=>false
def zO:V->Bool
  |.agg cs=>cs.any zL
  |c=>zL c
def Ajr:V->Bool
  |.tup cs=>cs.any zO
  |c=>zO c
def zM{c}(h:zL c=false):VY c=c:=by cases c<;>first|rfl|cases h
def mZ:∀{cs:List V},cs.any zL=false->cs.map VY=cs
  |[],_=>rfl
  |c::cs,h=>by rw[Gd,B9]at h;rw[AM,zM h.1,mZ h.2]
def qW{c}(h:zO c=false):dg2 c=c:=by
  cases c with
  |agg cs=>rw[dg2,mZ h]
  |_=>first|rfl|cases h
def m5:∀{cs:List V},cs.any zO=false->cs.map dg2=cs
  |[],_=>rfl
  |c::cs,h=>by rw[Gd,B9]at h;rw[AM,qW h.1,m5 h.2]
def AfH{c}(h:Ajr c=false):dg c=c:=by
  cases c with
  |tup cs=>rw[dg,m5 h]
  |agg cs=>exact qW (c:=.agg cs) h
  |_=>first|rfl|cases h
def nN(σ:PS)(s:Nat):upd σ s (σ s)=σ:=by
  funext q;by_cases e:q=s
  · rw[e,upd_same]
  · rw[upd_ne _ _ e]
def VV(L:PL)(x:Operand)(c:V):Option PL:=match x with
  |.tmp s=>match Ajr c with
    |false=>some L
    |true=>G (ak<|dg c) λc'=>some<|(s,c')::L
  |_=>some L
def OJ{L L' x c}(h:TZ L x=some c)(a:VV L x c=some L'):CP L'=C5 (CP L) x:=by
  cases x with
  |tmp s=>
    have e:=Dx h;simp only[VV,C5]at a⊢;split at a
    · rename_i b;cases a;rw[e,AfH b,<-e,nN]
    · have⟨c',d,a⟩:=Be a;cases a;rw[IJ d,EI,e]
  |_=>cases a;rfl
def mvO(L:PL):Operand->Option V
  |.tmp s=>G (lk L s) λc=>match c with
    |.uni _ _ _=>some<|.same s
    |.same b=>some<|.same b
    |.box _=>some<|.cref s 0
    |.cref b o=>some<|.cref b o
    |c=>Wj c.isVal<|ak<|dg c
  |.const v=>G (ak<|cV v) λc=>Wj c.isVal<|ak<|dg c
  |_=>none
def cG:Option TyD->Bool
  |some (.sc<|.bool false)=>true
  |_=>false
def kEq:IntKind->IntKind->Bool
  |.i64,.i64=>true
  |.u8,.u8=>true
  |k,a=>decide (k=a)
def j1{k k'}(h:kEq k k'=true):k=k':=by cases k<;>cases k'<;>first|rfl|cases h
def AaG(d:Option TyD):List V->List V->Bool
  |[.int k _,.int l _],[.int a _,.int b _]=>kEq k a&&(kEq l b&&d.elim false TyD.two)
  |_,_=>false
def AaH{d a b}(h:AaG d a b=true):AaI d a b:=by
  unfold AaG at h;split at h
  · rw[Aa,Aa]at h;exact⟨j1 h.1,j1 h.2.1,h.2.2⟩
  · cases h
def x3(d:Option TyD):BinOp->V->V->Bool
  |.shl,.int _ _,.int _ b=>decide (0<=b)
  |.shr,.int _ _,.int _ b=>decide (0<=b)
  |.quo,.int k _,.int c b=>kEq k c&& !decide (b=0)
  |.rem,.int k _,.int c b=>kEq k c&& !decide (b=0)
  |_,.int k _,.int c _=>kEq k c
  |.eql,.str _,.str _=>true
  |.neq,.str _,.str _=>true
  |.lss,.str _,.str _=>true
  |.leq,.str _,.str _=>true
  |.gtr,.str _,.str _=>true
  |.geq,.str _,.str _=>true
  |.eql,.agg a,.agg b=>AaG d a b
  |.neq,.agg a,.agg b=>AaG d a b
  |.eql,.bool _,.bool _=>cG d
  |.neq,.bool _,.bool _=>cG d
  |_,_,_=>false
def unB:UnOp->V->Bool
  |.not,.bool _=>true
  |.neg,.int _ _=>true
  |_,_=>false
def cvB(tb:Tb)(s d:TypeId)(x:V):Option V:=match tb s,tb d,x with
  |some _,some (.sc<|.int k _),.int _ n=>some<|.int k<|k.wrap n
  |_,_,_=>none
def bxL(L:PL)(s:Nat):Option (List V):=G (lk L s) C6
def vI(tb:Tb)(L:PL)(t:TypeId)(x:Operand):Option V:=G (tb t) λd=>G (adO L x) λc=>match c with
  |.cref s off=>G (bxL L s) λcs=>Wj (Nat.ble (off+d.size) cs.length)<|ak<|getCells d cs off
  |.adr cs off=>Wj (Nat.ble (off+d.size) cs.length)<|ak<|getCells d cs off
  |_=>none
def ptF(k:Nat):Value->Option V
  |.pointer (some ⟨g,o,none⟩)=>some<|.tok<|.pointer<|some ⟨g,o+k,none⟩
  |_=>none
def AfJ{k u v}(h:ptF k u=some v):yX u=true∧tokF k u=v:=by
  unfold ptF at h;split at h
  · cases h;exact⟨rfl,rfl⟩
  · cases h
def faO(tb:Tb)(L:PL)(t:TypeId)(x:Operand)(f:Nat):Option V:=G (tb t) λd=>match d with
  |.st _ _ a=>G (a[f]?) λp=>G (adO L x) λc=>match c with
    |.cref s o=>G (bxL L s) λ_=>some<|.cref s<|o+p.1
    |.adr cs o=>some<|.adr cs<|o+p.1
    |.tok u=>ptF p.1 u
    |_=>none
  |_=>none
def Aji(L:PL)(x:Operand):Option V:=G (adO L x) λc=>match c with
  |.cref s o=>G (bxL L s) λ_=>some<|.cref s o
  |.adr cs o=>some<|.adr cs o
  |_=>none
def ee:Option TyD->Bool
  |some (.sc<|.str [])=>true
  |_=>false
def mp:Option TyD->Bool
  |some (.sl ..)=>true
  |_=>false
def AhX(L:PL)(d:Option TyD):V->Option V
  |.str s=>Wj (ee d)<|some<|.int .i64 s.length
  |.same b=>G (lk L b) λc=>match c with
    |.uni _ n _=>Wj (mp d)<|some<|.int .i64 n
    |_=>none
  |c=>G (LJ c) λp=>Wj (mp d)<|some<|.int .i64 p.1
def lF(tb:Tb)(L:PL):Callee->List Operand->List TypeId->Option V
  |.builtin .len,[x],[t]=>G (TZ L x)<|AhX L<|tb t
  |.builtin .max,[x,y],_=>G (TZ L x) λa=>G (TZ L y) λb=>match a,b with
    |.int k a,.int _ b=>some<|.int k (if a < b then b else a)
    |_,_=>none
  |.builtin .min,[x,y],_=>G (TZ L x) λa=>G (TZ L y) λb=>match a,b with
    |.int k a,.int _ b=>some<|.int k (if b < a then b else a)
    |_,_=>none
  |_,_,_=>none
def ng(tb:Tb)(L:PL):Op->Option V
  |.move x=>mvO L x
  |.pick c a b=>G (TZ L c) λq=>match q with
    |.bool e=>match e with
      |true=>G (TZ L a) λc=>Wj c.isVal<|ak<|dg c
      |false=>G (TZ L b) λc=>Wj c.isVal<|ak<|dg c
    |_=>none
  |.binOp op t x y _=>G (TZ L x) λa=>G (TZ L y) λb=>Wj (x3 (tb t) op a b)<|ak<|n7 op a b
  |.unOp op _ x=>G (TZ L x) λa=>Wj (unB op a)<|ak<|unV op a
  |.convert s d x=>G (TZ L x) λa=>cvB tb s d a
  |.load t x=>vI tb L t x
  |.fieldAddr t x f=>faO tb L t x f
  |.call c=>lF tb L c.callee c.args.toList c.argTypes.toList
  |_=>none
def oS{d}(h:cG d=true):d=some (.sc<|.bool false):=by
  unfold cG at h;split at h
  · rfl
  · cases h
def iq{d}(h:ee d=true):d=some (.sc<|.str []):=by
  unfold ee at h;split at h
  · rfl
  · cases h
def mq{d}(h:mp d=true):∃e es a b,d=some (.sl e es a b):=by
  unfold mp at h;split at h
  · exact⟨_,_,_,_,rfl⟩
  · cases h
def x4{d op a b}(h:x3 d op a b=true):jr d op a b:=by cases a<;>cases b<;>cases op<;>first|(cases h;done)|exact trivial|exact oS h|exact j1 h|exact AaH h|(simp only[x3,Bf]at h;exact h)|(simp only[x3,Aa,AH,CV]at h;exact⟨j1 h.1,h.2⟩)
def Agj{op a}(h:unB op a=true):unC op a:=by cases a<;>cases op<;>first|(cases h;done)|exact trivial
theorem Agm{σ:PS}{s:Nat}{c:V}(e:σ s=c)(h:c.isVal=true):mvC σ (.tmp s)∧mvV σ (.tmp s)=dg c:=by
  subst e
  simp only[mvC,mvV]
  cases hc:σ s<;>rw[hc]at h<;>first|(cases h;done)|exact⟨h,rfl⟩
def v4{L:PL}{x:Operand}{v:V}(h:mvO L x=some v):mvC (CP L) x∧mvV (CP L) x=v:=by
  cases x with
  |tmp s=>
    obtain⟨c,d,h⟩:=Be<|show G (lk L s) _=_ from h
    have e:=Dx d;cases c with
    |uni a b c=>cases h;simp only[mvC,mvV,e];exact⟨trivial,trivial⟩
    |same b=>cases h;simp only[mvC,mvV,e];exact⟨trivial,trivial⟩
    |box b=>cases h;simp only[mvC,mvV,e];exact⟨trivial,trivial⟩
    |cref b o=>cases h;simp only[mvC,mvV,e];exact⟨trivial,trivial⟩
    |_=>obtain⟨f,g⟩:=DU h;obtain⟨i,j⟩:=Agm e f;exact⟨i,j.trans (IJ g).symm⟩
  |const c=>
    obtain⟨c,d,h⟩:=Be<|show G (ak<|cV c) _=_ from h
    obtain⟨f,g⟩:=DU h;have e:=IJ d;subst e;exact⟨f,(IJ g).symm⟩
  |_=>cases h
def mC{tb:Tb}{L:PL}{t:TypeId}{x:Operand}{v:V}(h:vI tb L t x=some v):Vr (tb t) (CP L) (Nh (CP L) x)∧Vs (tb t) (CP L) (Nh (CP L) x)=v:=by
  obtain⟨d,b,h⟩:=Be h;obtain⟨c,e,h⟩:=Be h;rw[b,U0 e];simp only[Vr,Vs];cases c with
  |cref s off=>obtain⟨cs,f,h⟩:=Be h;obtain⟨a,h⟩:=DU h;obtain⟨c,g,i⟩:=Be f;have:=Dx g;simp only[Wx,Za,this,i];exact⟨nb a,(IJ h).symm⟩
  |adr cs off=>obtain⟨a,h⟩:=DU h;exact⟨nb a,(IJ h).symm⟩
  |_=>cases h
def uM{tb L t x f v}(h:faO tb L t x f=some v):lZ (tb t) f (CP L) (Nh (CP L) x)∧uN (tb t) f (Nh (CP L) x)=v:=by
  have⟨d,a,h⟩:=Be h;cases d with
  |st n z k=>
    have⟨p,b,h⟩:=Be h;have⟨c,e,h⟩:=Be h;rw[a,U0 e];simp only[lZ,uN,b];cases c with
    |cref s o=>have⟨cs,g,h⟩:=Be h;have⟨c,i,j⟩:=Be g;cases h;have:=Dx i;exact⟨⟨cs,by rw[this,j]⟩,rfl⟩
    |adr cs o=>cases h;exact⟨trivial,rfl⟩
    |tok u=>exact AfJ h
    |_=>cases h
  |_=>cases h
def zt{L x v}(h:Aji L x=some v):faC (CP L) (Nh (CP L) x)∧Nh (CP L) x=v:=by
  have⟨c,a,h⟩:=Be h;rw[U0 a];cases c with
  |cref s o=>have⟨cs,b,h⟩:=Be h;have⟨c,d,e⟩:=Be b;cases h;have:=Dx d;exact⟨⟨cs,by rw[this,e]⟩,rfl⟩
  |adr cs o=>cases h;exact⟨trivial,rfl⟩
  |_=>cases h
def j3{L:PL}{d:Option TyD}{c v:V}{n:Nat}{cs:List V}(e:LJ c=some (n,cs))(h:Wj (mp d) (some<|V.int .i64 n)=some v):XZ d (CP L) c∧gw (CP L) c=v:=by obtain⟨f,h⟩:=DU h;obtain⟨a,b,z,q,rfl⟩:=mq f;cases h;cases c<;>first|(cases e;done)|(cases e;exact⟨trivial,rfl⟩)
def yZ{L:PL}{d:Option TyD}{c v:V}(h:AhX L d c=some v):XZ d (CP L) c∧gw (CP L) c=v:=by
  cases c with
  |str s=>
    obtain⟨f,h⟩:=DU<|show Wj (ee d) _=_ from h
    cases h;exact⟨iq f,rfl⟩
  |same b=>
    obtain⟨c,f,h⟩:=Be<|show G (lk L b) _=_ from h
    have:=Dx f;cases c with
    |uni e n cs=>obtain⟨g,h⟩:=DU h;obtain⟨a,b,c,z,rfl⟩:=mq g;cases h;simp only[XZ,gw,this];exact⟨trivial,trivial⟩
    |_=>cases h
  |own e n cs=>exact j3 rfl h
  |dat n cs=>exact j3 rfl h
  |arg n cs=>exact j3 rfl h
  |pin u n cs=>exact j3 rfl h
  |_=>cases h
def dr{tb L c xs ts v}(h:lF tb L c xs ts=some v):Tc tb (CP L) c xs ts∧Qg (CP L) c xs=v:=by
  unfold lF at h;split at h
  · have⟨a,d,h⟩:=Be h;simp only[Tc,Qg,EN d];exact yZ h
  · have⟨a,d,h⟩:=Be h;have⟨b,e,h⟩:=Be h;simp only[Tc,Qg,EN d,EN e];split at h
    · cases h;exact⟨trivial,rfl⟩
    · cases h
  · have⟨a,d,h⟩:=Be h;have⟨b,e,h⟩:=Be h;simp only[Tc,Qg,EN d,EN e];split at h
    · cases h;exact⟨trivial,rfl⟩
    · cases h
  · cases h
def Zm{tb:Tb}{L:PL}{op:Op}{v:V}(h:ng tb L op=some v):pc tb (CP L) op∧pv tb (CP L) op=v:=by
  cases op with
  |move x=>exact v4 h
  |pick c a b=>
    obtain⟨q,i,h⟩:=Be<|show G (TZ L c) _=_ from h
    simp only[pc,pv,EN i];cases q with
    |bool e=>
      cases e with
      |true=>obtain⟨c,j,h⟩:=Be h;obtain⟨g,h⟩:=DU h;simp only[fi,fj,EN j,Fl];exact⟨g,(IJ h).symm⟩
      |false=>obtain⟨c,j,h⟩:=Be h;obtain⟨g,h⟩:=DU h;simp only[fi,fj,EN j,Ct,Dv];exact⟨g,(IJ h).symm⟩
    |_=>cases h
  |binOp op t x y k=>
    obtain⟨a,i,h⟩:=Be<|show G (TZ L x) _=_ from h
    obtain⟨b,j,h⟩:=Be h;obtain⟨g,h⟩:=DU h;simp only[pc,pv,EN i,EN j];exact⟨x4 g,(IJ h).symm⟩
  |unOp op t x=>
    obtain⟨a,i,h⟩:=Be<|show G (TZ L x) _=_ from h
    obtain⟨g,h⟩:=DU h;simp only[pc,pv,EN i];exact⟨Agj g,(IJ h).symm⟩
  |convert s d x=>
    obtain⟨a,i,h⟩:=Be<|show G (TZ L x) _=_ from h
    simp only[pc,pv,EN i];unfold cvB at h;split at h
    · rename_i j g;cases h;simp only[dz,ia,j,g];exact⟨trivial,trivial⟩
    · cases h
  |load t x=>exact mC h
  |fieldAddr t x f=>exact uM h
  |call c=>exact dr h
  |_=>cases h
def Tx(L:PL)(g:Option (Option Nat×Bool))(d:Nat)(v:Option PL):Option PL:=match g with
  |none=>v
  |some (some q,b)=>G (lk L q) λc=>match c with
    |.bool e=>match e,b with
      |true,true=>v
      |false,false=>v
      |_,_=>some<|(d,.tup [])::L
    |.tup _=>some<|(d,.tup [])::L
    |_=>none
  |some (none,_)=>none
def xV(tb:Tb)(t:TypeId)(x:Operand)(d:Nat)(L:PL):Option PL:=match x with
  |.const (.slice none 0 0)=>G (tb t) λdd=>match dd with
    |.sl e _ _ _=>some<|(d,.own e 0 [])::L
    |_=>none
  |.const (.pointer none)=>some<|(d,.undef)::L
  |.tmp p=>G (lk L p) λc=>match c with
    |.box _=>some<|(d,.cref p 0)::L
    |.cref b o=>some<|(d,.cref b o)::L
    |c=>Wj c.isVal<|G (VV L (.tmp p) c) λL'=>some<|(d,c)::L'
  |.const v=>G (ak<|cV v) λc=>Wj c.isVal<|some<|(d,c)::L
  |_=>none
def loadT(tb:Tb)(t:TypeId)(x:Operand)(d:Nat)(L:PL):Option PL:=G (tb t) λdd=>G (adO L x) λa=>match a with
  |.cref s off=>G (lk L s) λc=>match c with
    |.box cs=>Wj (Nat.ble (off+dd.size) cs.length)<|G (ak<|.box<|Q7 dd.size cs off) λb=>G (ak<|S9 dd cs off) λv=>some<|(d,v)::(s,b)::L
    |_=>none
  |.adr cs off=>Wj (Nat.ble (off+dd.size) cs.length)<|G (ak<|getCells dd cs off) λv=>some<|(d,v)::L
  |_=>none
def Akp(s i d:Nat)(L:PL):Option PL:=G (lk L s) λt=>match t with
  |.tup cs=>G (cs[i]?) λc=>Wj (cs.all V.isArg)<|G (ak<|.tup<|cs.set i<|dg2 c) λt'=>some<|(d,c)::(s,t')::L
  |_=>none
def Aln(tb:Tb)(t:TypeId)(x y:Operand)(L:PL):Option PL:=G (tb t) λdd=>G (adO L x) λa=>match a with
  |.cref s off=>G (lk L s) λb=>match b with
    |.box cs=>G (TZ L y) λc=>Wj (c.isArg&&(Nat.beq (IH c).length dd.size&&Nat.ble (off+dd.size) cs.length))<|G (VV L y c) λL'=>G (ak<|.box<|Rf cs off<|IH c) λb'=>some<|(s,b')::L'
    |_=>none
  |_=>none
def nbL(L:PL)(d:Nat):Bool:=match lk L d with
  |some c=>DS c
  |none=>true
def kc{L d}(h:nbL L d=true):DS (CP L d)=true:=by
  unfold nbL at h;rw[S4];cases a:lk L d with
  |none=>rfl
  |some c=>rw[a]at h;exact h
def alO(tb:Tb)(t:TypeId)(d:Nat)(L:PL):Option PL:=G (tb t) λdd=>Wj (nbL L d)<|G (ak<|.box<|fT dd) λb=>some<|(d,b)::L
def Acu(x:Operand)(d:Nat)(L:PL):Option PL:=G (TZ L x) λc=>Wj c.isArg<|G (VV L x c) λL'=>Wj (nbL L' d)<|G (ak<|.box<|IH c) λb=>some<|(d,b)::L'
def l5(a:Nat->Option (Nat×Nat)):List (Nat×Operand)->PL->List V->Option (PL×List V)
  |[],L,cs=>some (L,cs)
  |(i,x)::r,L,cs=>G (a i) λp=>G (TZ L x) λc=>Wj (c.isArg&&(Nat.beq (IH c).length p.2&&Nat.ble (p.1+p.2) cs.length))<|G (VV L x c) λL'=>l5 a r L'<|Rf cs p.1<|IH c
def dK{a:Nat->Option (Nat×Nat)}:∀{ps:List (Nat×Operand)}{L L':PL}{cs cs':List V},l5 a ps L cs=some (L',cs')->Sb a ps (CP L) cs=some (CP L',cs')
  |[],_,_,_,_,h=>by cases h;rfl
  |(i,x)::r,L,L',cs,cs',h=>by rw[l5]at h;obtain⟨p,e,h⟩:=Be h;obtain⟨c,d,h⟩:=Be h;obtain⟨b,h⟩:=DU h;obtain⟨g,f,h⟩:=Be h;simp only[Aa]at b;rw[Sb,e];simp only;rw[EN d,Aw ⟨b.1,C0 b.2.1,nb b.2.2⟩,<-OJ d f];exact dK h
def Akj(tb:Tb)(t:TypeId)(ps:List (Nat×Operand))(d:Nat)(L:PL):Option PL:=G (tb t) λdd=>match dd with
  |.st _ z a=>G (l5 (λi=>a[i]?) ps L z) λq=>G (ak<|.agg q.2) λc=>some<|(d,c)::q.1
  |_=>none
def Of(tb:Tb)(cns:zN)(o:LO)(L:PL):Option PL:=match o with
  |⟨some d,op,t,g⟩=>match op with
    |.assign x=>match g,cns.contains d with
      |none,false=>xV tb t x d L
      |_,_=>none
    |.move x=>match cns.contains d with
      |true=>(match g with
        |none=>xV tb t x d L
        |_=>none)
      |false=>Tx L g d<|G (mvO L x) λv=>some<|(d,v)::L
    |.load t x=>match cns.contains d with
      |true=>(match g with
        |none=>loadT tb t x d L
        |_=>none)
      |false=>Tx L g d<|G (vI tb L t x) λv=>some<|(d,v)::L
    |.extract (.tmp s) i=>match g with
      |none=>Akp s i d L
      |_=>none
    |.alloc t=>match g with
      |none=>alO tb t d L
      |_=>none
    |.box _ x=>match g with
      |none=>Acu x d L
      |_=>none
    |.build t ps=>Tx L g d<|Akj tb t ps.toList d L
    |.pick c a b=>Tx L g d<|G (ng tb L<|.pick c a b) λv=>some<|(d,v)::L
    |.binOp p t x y e=>Tx L g d<|G (ng tb L<|.binOp p t x y e) λv=>some<|(d,v)::L
    |.unOp p t x=>Tx L g d<|G (ng tb L<|.unOp p t x) λv=>some<|(d,v)::L
    |.convert s t x=>Tx L g d<|G (ng tb L<|.convert s t x) λv=>some<|(d,v)::L
    |.fieldAddr t x f=>Tx L g d<|G (faO tb L t x f) λv=>some<|(d,v)::L
    |.nilCheck x=>Tx L g d<|G (Aji L x) λv=>some<|(d,v)::L
    |.call c=>match c.callee with
      |.value (.func _)=>(match cns.contains d with
        |true=>none
        |false=>Tx L g d none)
      |.value (.tmp _)=>none
      |.value (.const _)=>none
      |.value (.global _)=>none
      |_=>Tx L g d<|G (lF tb L c.callee c.args.toList c.argTypes.toList) λv=>some<|(d,v)::L
    |.index .. =>Tx L g d none
    |.indexAddr .. =>Tx L g d none
    |.slice .. =>Tx L g d none
    |.buildSlice .. =>Tx L g d none
    |.field .. =>Tx L g d none
    |_=>none
  |⟨none,.store t x y,_,none⟩=>Aln tb t x y L
  |_=>none
section
variable {P:Program}{tb:Tb}{cns:zN}{L L':PL}{K:PS->Prop}{d:Nat}
def Lf{op t g v}(i:∀r,v=some r->pc tb (CP L) op∧pv tb (CP L) op=r)(h:Tx L g d (G v λv=>some<|(d,v)::L)=some L')(k:K (CP L')):LM tb ⟨some d,op,t,g⟩ (CP L) K:=by
  have a:∀{L':PL},G v (λv=>some<|(d,v)::L)=some L'->K (CP L')->pc tb (CP L) op∧K (upd (CP L) d<|pv tb (CP L) op):=by intro L' h k;have⟨r,f,h⟩:=Be h;cases h;have⟨j,l⟩:=i r f;exact⟨j,by rw[l];exact k⟩
  unfold Tx at h;split at h
  · exact a h k
  · rename_i q b;have⟨c,f,h⟩:=Be h;simp only[LM,Dx f];cases c with
    |bool e=>
      cases e<;>cases b<;>simp only at h<;>first
        |exact⟨rfl,λ_=>a h k,λe=>by cases e⟩
        |(cases h;exact⟨rfl,(λe=>by cases e),λ_=>k⟩)
    |tup cs=>cases h;exact⟨rfl,(λe=>by cases e),λ_=>k⟩
    |_=>cases h
  · cases h
theorem cD{o:LO}{g:Option (Option Nat×Bool)}{v:Option PL}{X:Prop}(ho:o.g=g)(hv:∀L',v=some L'->K (CP L')->X)(h:Tx L g d v=some L')(k:K (CP L')):SM o d (CP L) K X:=by
  subst ho
  unfold Tx at h
  unfold SM
  split at h
  · rename_i e;rw[e];exact hv _ h k
  · rename_i q b e
    rw[e]
    obtain⟨c,h1,h⟩:=Be h
    simp only[Dx h1]
    cases c with
    |bool e=>
      cases e<;>cases b<;>simp only at h<;>first
        |exact⟨rfl,λ_=>hv _ h k,λe=>by cases e⟩
        |(cases h;exact⟨rfl,(λe=>by cases e),λ_=>k⟩)
    |tup cs=>cases h;exact⟨rfl,(λe=>by cases e),λ_=>k⟩
    |_=>cases h
  · cases h
def pC{x o}(h:xV tb o.ty x d L=some L')(k:K (CP L')):Sl tb o x d (CP L) K:=by
  unfold xV at h;split at h
  · have⟨dd,a,h⟩:=Be h;cases dd with
    |sl e es n q=>cases h;simp only[Sl,a];exact k
    |_=>cases h
  · cases h;simp only[Sl];exact k
  · rename_i p;have⟨c,a,h⟩:=Be h;have g:Wj c.isVal (G (VV L (.tmp p) c) λL'=>some<|(d,c)::L')=some L'->Sl tb o (.tmp p) d (CP L) K:=by intro h;have⟨i,h⟩:=DU h;have⟨r,l,h⟩:=Be h;cases h;have e:=OJ (x:=.tmp p) a l;rw[EI,e]at k;exact xW (Dx a) i (by rw[<-Dx a];simp only[C5]at k;rw[Dx a]at k⊢;exact k)
    cases c with
    |box cs=>cases h;simp only[Sl,Dx a];exact k
    |cref b o=>cases h;simp only[Sl,Dx a];exact k
    |_=>exact g h
  · rename_i v m j;have⟨c,a,h⟩:=Be h;have⟨i,h⟩:=DU h;cases h;have e:=IJ a;subst e;unfold Sl;split
    · rename_i f;injection f with f;exact absurd (by rw[f]) m
    · rename_i f;injection f with f;exact absurd (by rw[f]) j
    · rename_i f;cases f
    · exact⟨i,k⟩
  · cases h
def Ag7{t cal args ts g L L'}(h:Tx L g d (G (lF tb L cal args.toList ts.toList) λv=>some<|(d,v)::L)=some L')(k:K (CP L')):LM tb ⟨some d,.call ⟨cal,args,ts⟩,t,g⟩ (CP L) K:=Lf (op:=.call ⟨cal,args,ts⟩) (λr a=>dr a) h k
def fN{o}(h:Of tb cns o L=some L')(k:K (CP L')):Jm P tb cns o (CP L) K:=by
  have⟨J,op,t,g⟩:=o;cases J with
  |none=>
    unfold Of at h;split at h
    · rename_i M;cases M
    · rename_i O x y ty M;injection M with e1 e2 e3 e4
      subst e2 e4;have⟨dd,u,h⟩:=Be h;have⟨a,A,h⟩:=Be h;cases a with
      |cref s off=>
        have⟨b,C,h⟩:=Be h;cases b with
        |box cs=>have⟨c,l,h⟩:=Be h;have⟨F,h⟩:=DU h;have⟨R,I,h⟩:=Be h;have⟨b',S,h⟩:=Be h;cases h;simp only[Aa]at F;have e:=IJ S;subst e;simp only[Jm,kT,u,U0 A,Dx C,C6,VT,EN l];refine⟨trivial,F.1,C0 F.2.1,nb F.2.2,?_⟩;rw[<-OJ l I];exact k
        |_=>cases h
      |_=>cases h
    · cases h
  |some d=>
    cases op with
    |assign x=>
      simp only[Of]at h;split at h
      · rename_i D;simp only[Jm,D,Ct,Dv];exact⟨trivial,pC (o:=⟨some d,.assign x,t,none⟩) h k⟩
      · cases h
    |move x=>
      simp only[Of]at h;split at h
      · rename_i D;cases g with
        |none=>simp only[Jm,D,Fl];exact⟨trivial,pC (o:=⟨some d,.move x,t,none⟩) h k⟩
        |some g=>cases h
      · rename_i D;simp only[Jm,D,Ct,Dv];exact Lf (λr j=>v4 j) h k
    |load s x=>
      simp only[Of]at h;split at h
      · rename_i D;cases g with
        |none=>
          simp only[Jm,D,Fl];refine⟨trivial,?_⟩;have⟨dd,u,h⟩:=Be h;have⟨a,A,h⟩:=Be h;simp only[bA,u,U0 A];cases a with
          |cref b off=>
            have⟨c,C,h⟩:=Be h;cases c with
            |box cs=>have⟨l,h⟩:=DU h;have⟨b',F,h⟩:=Be h;have⟨v,I,h⟩:=Be h;cases h;rw[IJ F,IJ I]at k;simp only[Dx C,C6,VT];exact⟨nb l,k⟩
            |_=>cases h
          |adr cs off=>have⟨l,h⟩:=DU h;have⟨v,I,h⟩:=Be h;cases h;rw[IJ I]at k;exact⟨nb l,k⟩
          |_=>cases h
        |some g=>cases h
      · rename_i D;simp only[Jm,D,Ct,Dv];exact Lf (λr j=>mC j) h k
    |extract x i=>
      cases x with
      |tmp s=>
        cases g with
        |none=>
          simp only[Of]at h;have⟨a,u,h⟩:=Be h;cases a with
          |tup cs=>have⟨c,A,h⟩:=Be h;have⟨C,h⟩:=DU h;have⟨v,l,h⟩:=Be h;cases h;rw[IJ l]at k;simp only[Jm,lY,Dx u,A];exact⟨trivial,C,k⟩
          |_=>cases h
        |some g=>cases h
      |_=>cases h
    |alloc s=>
      cases g with
      |none=>
        have⟨dd,u,h⟩:=Be<|show G (tb s) _=_ from h
        have⟨A,h⟩:=DU h;have⟨v,l,h⟩:=Be h;cases h;rw[IJ l]at k;exact Ahk (kc A) u k
      |some g=>cases h
    |box ty x=>
      cases g with
      |none=>
        have⟨c,u,h⟩:=Be<|show G (TZ L x) _=_ from h
        have⟨A,h⟩:=DU h;have⟨R,C,h⟩:=Be h;have⟨l,h⟩:=DU h;have⟨v,F,h⟩:=Be h;cases h;rw[IJ F]at k;have e:=OJ u C;have l:=kc l;rw[e]at l;simp only[Jm,boxS,EN u];exact⟨trivial,A,l,by rw[<-e];exact k⟩
      |some g=>cases h
    |build s ps=>
      simp only[Of]at h;simp only[Jm];refine cD rfl (λL1 h k=>?_) h k;have⟨dd,u,h⟩:=Be h;cases dd with
      |st n z T=>have⟨q,A,h⟩:=Be h;have⟨c,C,h⟩:=Be h;cases h;rw[IJ C]at k;simp only[V9,u,dK (L':=q.1) (cs':=q.2) A];exact k
      |_=>cases h
    |pick c a b=>simp only[Of]at h;exact Lf (op:=.pick c a b) (λr j=>Zm j) h k
    |binOp p t x y O=>simp only[Of]at h;exact Lf (op:=.binOp p t x y O) (λr j=>Zm j) h k
    |unOp p t x=>simp only[Of]at h;exact Lf (op:=.unOp p t x) (λr j=>Zm j) h k
    |convert s t x=>simp only[Of]at h;exact Lf (op:=.convert s t x) (λr j=>Zm j) h k
    |fieldAddr t x f=>simp only[Of]at h;exact Lf (op:=.fieldAddr t x f) (λr j=>uM j) h k
    |nilCheck x=>simp only[Of]at h;exact Lf (op:=.nilCheck x) (λr j=>zt j) h k
    |index s x y=>simp only[Of]at h;exact Lf (op:=.index s x y) (v:=none) (λr j=>by cases j) h k
    |indexAddr s x y=>simp only[Of]at h;exact Lf (op:=.indexAddr s x y) (v:=none) (λr j=>by cases j) h k
    |slice s x lo hi m=>simp only[Of]at h;exact Lf (op:=.slice s x lo hi m) (v:=none) (λr j=>by cases j) h k
    |buildSlice s n ps=>simp only[Of]at h;simp only[Jm];exact cD rfl (λL1 h k=>by cases h) h k
    |field s x f=>simp only[Of]at h;simp only[Jm];exact cD rfl (λL1 h k=>by cases h) h k
    |call c=>
      have⟨N,w,ts⟩:=c;simp only[Of]at h;cases N with
      |value x=>
        cases x with
        |func f=>
          simp only at h;cases H:cns.contains d with
          |true=>rw[H]at h;cases h
          |false=>
            rw[H]at h;simp only at h;show N8 P cns ⟨some d,.call ⟨.value<|.func f,w,ts⟩,t,g⟩ f w.toList (CP L) K;unfold N8;rw[Ay (by simpa using H)];left;unfold SH;unfold Tx at h;cases g with
            |none=>cases h
            |some g=>
              have⟨q,b⟩:=g;cases q with
              |none=>cases h
              |some q=>
                have⟨c,u,h⟩:=Be<|show G (lk L q) _=_ from h
                simp only[Dx u];cases c with
                |bool e=>
                  cases e<;>cases b<;>simp only at h<;>first
                    |(cases h;done)
                    |(cases h;exact⟨rfl,(λe=>by cases e),λ_=>k⟩)
                |tup cs=>cases h;exact⟨rfl,(λe=>by cases e),λ_=>k⟩
                |_=>cases h
        |_=>cases h
      |builtin b=>
        have Q:LM tb ⟨some d,.call ⟨.builtin b,w,ts⟩,t,g⟩ (CP L) K:=Lf (op:=.call ⟨.builtin b,w,ts⟩) (λr j=>dr j) h k;cases b with
        |append=>
          simp only[Jm,Wb];split
          · rename_i B;cases B
          · rename_i _ B _ _;injection B with B
            subst B;refine cD rfl (λL1 h k=>?_) h k;have⟨r,j,_⟩:=Be h;cases j
          · exact Q
        |_=>exact Q
      |_=>exact Ag7 h k
    |_=>cases h
end
def nx(tb:Tb)(cns:zN):Nat->List LO->PL->Option (List LO×PL)
  |0,os,L=>some (os,L)
  |_+1,[],_=>none
  |n+1,o::os,L=>G (Of tb cns o L) λL'=>nx tb cns n os L'
def xZ(L:PL)(R:zN)(p:Nat):Bool:=match lk L p with
  |some c=>fU R c
  |none=>true
def pD{L R p}(h:xZ L R p=true):fU R (CP L p)=true:=by
  unfold xZ at h;rw[S4];cases a:lk L p with
  |none=>rfl
  |some c=>rw[a]at h;exact h
def tS(L:PL)(R W:zN)(p:Nat):Bool:=match lk L p with
  |some c=>lC R W p c
  |none=>true
def tT{L R W p}(h:tS L R W p=true):lC R W p (CP L p)=true:=by
  unfold tS at h;rw[S4];cases a:lk L p with
  |none=>rfl
  |some c=>rw[a]at h;exact h
def o5(L:PL)(p:Nat):Bool:=match lk L p with
  |some c=>Zi c
  |none=>true
def sI{L p}(h:o5 L p=true):Zi (CP L p)=true:=by
  unfold o5 at h;rw[S4];cases a:lk L p with
  |none=>rfl
  |some c=>rw[a]at h;exact h
def Acs(L:PL)(p:Nat):Bool:=match lk L p with
  |some c=>t8 c
  |none=>false
def x6{L p}(h:Acs L p=true):t8 (CP L p)=true:=by
  unfold Acs at h;rw[S4];cases a:lk L p with
  |none=>rw[a]at h;cases h
  |some c=>rw[a]at h;exact h
def tkL(L:PL)(p:Nat):Bool:=match lk L p with
  |some c=>vm c
  |none=>false
def Agc{L p}(h:tkL L p=true):vm (CP L p)=true:=by
  unfold tkL at h;rw[S4];cases a:lk L p with
  |none=>rw[a]at h;cases h
  |some c=>rw[a]at h;exact h
def stepD(tb:Tb)(cns:zN):Nat->List (zN×zN)->List LO->PL->Option (List (zN×zN)×List LO×PL)
  |0,fps,os,L=>some (fps,os,L)
  |n+1,(R,W)::fps,o::os,L=>Wj ((adP o.op).all (xZ L R)&&((adC o.op).all (tS L R W)&&((adS o.op).all (o5 L)&&(((adU cns o).all (xZ L R)&&(adT cns o).all (tkL L))&&(ptS cns).all (Acs L)))))<|G (Of tb cns o L) λL'=>stepD tb cns n fps os L'
  |_+1,_,_,_=>none
def ir(L:PL):zN->Option PL
  |[]=>some []
  |s::ss=>G (lk L s) λc=>G (ir L ss) λL'=>some<|(s,c)::L'
def Y3(L:PL)(ss:zN):Option PL:=G (ir L ss) λL'=>Wj (okR L')<|some L'
def mr{L}:∀{ss:zN}{L':PL},ir L ss=some L'->iF (CP L) L'
  |[],_,h=>by cases h;trivial
  |s::ss,_,h=>by rw[ir]at h;have⟨c,a,h⟩:=Be h;have⟨d,b,h⟩:=Be h;cases h;exact⟨(Dx a) ▸ kr,mr b⟩
def ms{L L' ss}(h:Y3 L ss=some L'):iF (CP L) L'∧okR L'=true:=by have⟨c,a,h⟩:=Be h;have⟨b,h⟩:=DU h;cases h;exact⟨mr a,b⟩
def UI:Nat->List V->PL
  |_,[]=>[]
  |i,c::cs=>(i,c)::UI (i+1) cs
def oR:∀(b:List V) (i s:Nat),iF (λq=>(b[q - i]?).getD<|.tup []) (UI i b)
  |[],_,_=>trivial
  |c::cs,i,s=>by
    refine⟨by simpa using kr,?_⟩;have h:=oR cs (i+1) s
    have e:∀(L:PL) (f g:PS),(∀p∈L,f p.1=g p.1)->iF f L->iF g L:=by
      intro L f g;induction L with
      |nil=>intro _ _;trivial
      |cons p L k=>have⟨q,c⟩:=p;intro l m;exact⟨by rw[<-l (q,c) (by simp)];exact m.1,k (λp a=>l p<|by simp[a]) m.2⟩
    have d:∀(cs:List V) (j:Nat),∀p∈UI j cs,j<=p.1:=by
      intro cs;induction cs with
      |nil=>intro j p a;simp[UI]at a
      |cons c cs k=>
        intro j p a;simp only[UI,AE]at a;rcases a with rfl|a
        · exact AJ _
        · have:=k (j+1) p a;omega
    refine e _ _ _ (λp a=>?_) h;have:=d cs (i+1) p a;rw[show p.1 - i=(p.1 - (i+1))+1 by omega,D1]
section
variable {P:Program}{tb:Tb}{cns:zN}{L L':PL}{K:PS->Prop}{ops os:List LO}{fps fps':List (zN×zN)}
def fM:∀{n:Nat}{ops:List LO}{L:PL},nx tb cns n ops L=some (os,L')->bo P tb cns os (CP L') K->bo P tb cns ops (CP L) K
  |0,_,_,h,k=>by cases h;exact k
  |_+1,[],_,h,_=>by cases h
  |n+1,o::ops,L,h,k=>by rw[nx]at h;have⟨b,a,h⟩:=Be h;exact fN (K:=λσ'=>bo P tb cns ops σ' K) a<|fM h k
def AZ(n:Nat)(h:nx tb cns n ops L=some ([],L'))(k:K (CP L')):bo P tb cns ops (CP L) K:=fM h k
def sp(n:Nat)(h:nx tb cns n ops L=some (os,L'))(k:bo P tb cns os (CP L') K):bo P tb cns ops (CP L) K:=fM h k
def nw:∀{n:Nat}{fps:List (zN×zN)}{ops:List LO}{L:PL},stepD tb cns n fps ops L=some (fps',os,L')->bm P tb cns fps' os (CP L') K->bm P tb cns fps ops (CP L) K
  |0,_,_,_,h,k=>by cases h;exact k
  |n+1,[],_,_,h,_=>by cases h
  |n+1,_::_,[],_,h,_=>by cases h
  |n+1,(R,W)::fps,o::ops,L,h,k=>by rw[stepD]at h;have⟨b,h⟩:=DU h;have⟨d,c,h⟩:=Be h;simp only[Aa,Am]at b;refine evd (by unfold ZT;rw[Aa,Aa];exact⟨Am.2 λp a=>pD<|b.1 p a,Am.2 λp a=>tT<|b.2.1 p a,Am.2 λp a=>sI<|b.2.2.1 p a⟩) (by unfold adB bxS;rw[Aa,Aa];exact⟨⟨Am.2 λp a=>pD<|b.2.2.2.1.1 p a,Am.2 λp a=>Agc<|b.2.2.2.1.2 p a⟩,Am.2 λp a=>x6<|b.2.2.2.2 p a⟩) ?_;exact fN (K:=λσ'=>bm P tb cns fps ops σ' K) c<|nw h k
def sd(n:Nat)(h:stepD tb cns n fps ops L=some (fps',os,L'))(k:bm P tb cns fps' os (CP L') K):bm P tb cns fps ops (CP L) K:=nw h k
def vH{q c b}(e:c=b)(h:lk L q=some (.bool c)):CP ((q,.bool b)::L)=CP L:=by subst e;rw[EI,<-Dx h,nN]
def qg(q:Nat){c b:Bool}(e:c=b)(h:lk L q=some (.bool c))(k:bo P tb cns ops (CP<|(q,.bool b)::L) K):bo P tb cns ops (CP L) K:=by rw[vH e h]at k;exact k
def J7(q:Nat){c b:Bool}(e:c=b)(h:lk L q=some (.bool c))(k:bm P tb cns fps ops (CP<|(q,.bool b)::L) K):bm P tb cns fps ops (CP L) K:=by rw[vH e h]at k;exact k
end
section
variable {P:Program}{nt:Nat}{bx:zN}{l:LC}{Q:Exit->PS->Prop}{tb:Tb}{cns:zN}{L L':PL}
def qk(ss:zN)(h:Y3 L ss=some L')(k:LS P nt bx l (CP L') Q):LS P nt bx l (CP L) Q:=TW L' (ms h).1 (ms h).2 k
def qi(a:List V)(b:okR (UI 0 a)=true)(k:LS P nt bx l (CP<|UI 0 a) Q):LS P nt bx l (IW a) Q:=TW _ (oR a 0 0) b k
end
section
variable {P:Program}{tb:Tb}{cns:zN}{L:PL}{K:PS->Prop}{d s t:Nat}{x y z:Operand}
def xS(L:PL)(x:Operand):Option V:=G (TZ L x) λc=>Wj c.isArg<|some c
def W0{c}(h:xS L x=some c):CC (CP L) x=c∧c.isArg=true:=by have⟨c',a,h⟩:=Be h;have⟨b,h⟩:=DU h;cases h;exact⟨EN a,b⟩
def qa{c a:V}{xs as}(b:xS L x=some c)(e:er c=a)(f:erA (CP L) xs as):erA (CP L) (x::xs) (a::as):=era (by rw[(W0 b).1];exact(W0 b).2) (by rw[(W0 b).1];exact e) f
def AkL:V->Bool
  |.int .. |.bool .. |.str .. |.fn .. =>true
  |_=>false
def qs{a:V}{xs as}(b:G (xS L x) (λc=>Wj (AkL c)<|some c)=some a)(e:erA (CP L) xs as):erA (CP L) (x::xs) (a::as):=by have⟨c,f,h⟩:=Be b;have⟨g,h⟩:=DU h;cases h;exact qa f (by cases a<;>first|rfl|cases g) e
def cnF(a:cns.contains d=false):(some d).toList.any cns.contains=false:=by simpa using a
def qC{f args ts as r}(a:erA (CP L) args.toList as)(b:LQ P f as r)(k:K (CP<|(d,r)::L))(c:cns.contains d=false:=by rfl):Jm P tb cns ⟨some d,.call {callee:=.value (.func f),args:=args,argTypes:=ts},t,none⟩ (CP L) K:=yt (cnF c) a b k
def qCt{f p args ts as r}(a:lk L p=some (.fn f))(b:erA (CP L) args.toList as)(c:LQ P f as r)(k:K (CP<|(d,r)::L))(e:cns.contains d=false:=by rfl):Jm P tb cns ⟨some d,.call {callee:=.value (.tmp p),args:=args,argTypes:=ts},t,none⟩ (CP L) K:=by
  have⟨g,h⟩:=dI b;subst h
  show(match CC (CP L) (.tmp p)with
    |.fn f=>N8 P cns _ f args.toList (CP L) K
    |.tok u=>Yc P cns _ u args.toList (CP L) K
    |_=>fE cns _ (CP L) K)
  rw[show CC (CP L) (.tmp p)=.fn f from Dx a];show N8 P cns _ f args.toList (CP L) K;unfold N8;rw[Ay (by simpa using e)];exact .inl ⟨g,r,.inl c,k⟩
def iaO(tb:Tb)(L:PL)(s:TypeId)(x y:Operand):Option (Nat×List V×Int×Nat):=G (TZ L x) λa=>G (LJ a) λp=>G (TZ L y) λb=>match b with
  |.int _ i=>G (tb s) λdd=>match dd with
    |.sl _ es _ _=>some (p.1,p.2,i,es)
    |_=>none
  |_=>none
def qI{α:Type}{f:α->List V}{l:List α}{i:Int}{e:α}{n:Nat}(h:iaO tb L s x y=some (l.length,l.flatMap f,i,n))(c:∀x,(f x).length=n)(hi:AN l i=some e)(k:K (CP<|(d,.adr (f e++(l.drop<|i.toNat+1).flatMap f) 0)::L)):Jm P tb cns ⟨some d,.indexAddr s x y,t,none⟩ (CP L) K:=by
  obtain⟨a,g,h⟩:=Be h;obtain⟨p,m,h⟩:=Be h;obtain⟨b,o,h⟩:=Be h;obtain⟨g1,g2,q⟩:=BE hi;cases b with
  |int B j=>
    obtain⟨dd,r,h⟩:=Be h;cases dd with
    |sl C es D F=>simp only[Ar,Cq]at h;obtain⟨u,v,w,A⟩:=h;subst w A;refine Ahm (n:=l.length) (cs:=l.flatMap f) (by rw[EN g,m];cases p;cases u;cases v;rfl) (EN o) r ⟨g1,g2⟩ ?_;have:=(ou c q 0).resolve_right (by omega);rw[CG,Jw]at this;rw[this];exact k
    |_=>cases h
  |_=>cases h
def Alm(tb:Tb)(L:PL)(s:TypeId)(x y:Operand):Option (zU×Int):=G (TZ L x) λa=>match a with
  |.str u=>G (TZ L y) λb=>match b with
    |.int _ i=>Wj (ee<|tb s)<|some (u,i)
    |_=>none
  |_=>none
def qX{u i b}(h:Alm tb L s x y=some (u,i))(hi:AN u i=some b)(k:K (CP<|(d,.int .u8 b.toNat)::L)):Jm P tb cns ⟨some d,.index s x y,t,none⟩ (CP L) K:=by
  have⟨a,c,h⟩:=Be h;cases a with
  |str g=>
    have⟨b',e,h⟩:=Be h;cases b' with
    |int l j=>have⟨f,h⟩:=DU h;cases h;exact AcS (EN c) (EN e) (iq f) hi k
    |_=>cases h
  |_=>cases h
def bdO(a:Int)(L:PL):Option Operand->Option Int
  |none=>some a
  |some x=>G (TZ L x) R6
def tU{dflt i lo}(h:bdO dflt L lo=some i):X9 dflt (lo.map<|CC<|CP L)=some i:=by
  cases lo with
  |none=>exact h
  |some x=>
    have⟨c,a,h⟩:=Be<|show G (TZ L x) _=_ from h
    simp only[Cb,X9,EN a];exact h
def Ach:V->Bool
  |.arg .. =>true
  |_=>false
def wt{a}(h:Ach a=false)(n:Nat)(cs:List V):bC a n cs=.dat n cs:=by cases a<;>first|rfl|cases h
def AjQ(tb:Tb)(L:PL)(b:Bool)(s:TypeId)(x:Operand)(lo hi:Option Operand):Option (Nat×List V×Nat×Int×Int):=G (TZ L x) λa=>Wj (Ach a==b) <| G (LJ a) λp=>G (tb s) λdd=>match dd with
  |.sl _ es _ _=>G (bdO 0 L lo) λl=>G (bdO p.1 L hi) λh=>some (p.1,p.2,es,l,h)
  |_=>none
def Ak5{α:Type}{f:α->List V}{lst:List α}{n:Nat}{lo hi:Option Operand}{l h:Int}{b:Bool}(c:AjQ tb L b s x lo hi=some (lst.length,lst.flatMap f,n,l,h))(m:∀x,(f x).length=n)(o:0<=l∧l<=h∧h<=lst.length)(k:∀a,Ach a=b->K (CP<|(d,bC a (C2 lst l h).length<|(C2 lst l h).flatMap f)::L)):Jm P tb cns ⟨some d,.slice s x lo hi none,t,none⟩ (CP L) K:=by
  obtain⟨a,g,c⟩:=Be c;obtain⟨q,c⟩:=DU c;obtain⟨p,r,c⟩:=Be c;obtain⟨dd,u,c⟩:=Be c;cases dd with
  |sl e es D F=>obtain⟨H,v,c⟩:=Be c;obtain⟨I,i,c⟩:=Be c;simp only[Ar,Cq]at c;obtain⟨j,w,A,B,C⟩:=c;subst A B C;rw[j]at i;exact AcT (lst:=lst) (f:=f) (by rw[EN g,r];cases p;cases j;cases w;rfl) u m (tU v) (tU i) o (by rw[EN g];exact k a<|eq_of_beq q)
  |_=>cases c
def fX{α:Type}{f:α->List V}{lst:List α}{n:Nat}{lo hi:Option Operand}{l h:Int}(a:AjQ tb L false s x lo hi=some (lst.length,lst.flatMap f,n,l,h))(b:∀x,(f x).length=n)(c:0<=l∧l<=h∧h<=lst.length)(k:K (CP<|(d,.dat (C2 lst l h).length<|(C2 lst l h).flatMap f)::L)):Jm P tb cns ⟨some d,.slice s x lo hi none,t,none⟩ (CP L) K:=
  Ak5 a b c λa e=>by rw[wt e];exact k
def Aki(L:PL)(x y:Operand):Option (V×V):=G (TZ L x) λa=>G (TZ L y) λb=>some (a,b)
def qB{op ta tc c1 c2 v}(h:Aki L x y=some (c1,c2))(c:jr (tb ta) op c1 c2)(e:ak (n7 op c1 c2)=some v)(k:K (CP<|(d,v)::L)):Jm P tb cns ⟨some d,.binOp op ta x y tc,t,none⟩ (CP L) K:=by have⟨a,f,h⟩:=Be h;have⟨b,g,h⟩:=Be h;cases h;rw[IJ e]at k;exact AcM (EN f) (EN g) c k
def qCs{a b e es eb ez w z' l}(f:G (TZ L x) LJ=some (l.length,l.flatMap cu8))(g:tb a=some (.sl e es eb ez))(h:tb b=some (.sc<|.str w))(i:tb e=some (.sc<|.int .u8 z'))(k:K (CP<|(d,.str<|bytesOf l)::L)):Jm P tb cns ⟨some d,.convert a b x,t,none⟩ (CP L) K:=by have⟨c,g1,g2⟩:=Be f;exact AcN (by rw[EN g1];exact g2) g h i k
def Ag2(tb:Tb)(L:PL)(s:TypeId)(p q:Nat):Option (Nat×List V×Nat×Nat×List V×V×PL):=G (lk L p) λa=>match a with
  |.own e n cs=>G (VV L (.tmp p)<|.own e n cs) λL1=>G (lk L1 q) λc=>G (LJ c) λr=>G (VV L1 (.tmp q) c) λL2=>G (tb s) λdd=>match dd with
    |.sl e' es _ _=>Wj (Nat.beq e e'&&c.isVal)<|some (n,cs,es,r.1,r.2,c,L2)
    |_=>none
  |_=>none
def qA{α:Type}(f:α->List V)(l m:List α){es p q:Nat}{e:TypeId}{ds:List V}{c:V}{n:PL}(h:Ag2 tb L s p q=some (l.length,l.flatMap f,es,m.length,ds,c,n))(g:lk L p=some (.own e l.length<|l.flatMap f))(v:ds.length=m.length * es)(w:ZV c=m.flatMap f)(A:l.length+m.length<=lim)
    (k:K (CP<|(d,.own e (l++m).length<|(l++m).flatMap f)::n)):Jm P tb cns ⟨some d,.call {callee:=.builtin .append,args:= #[.tmp p,.tmp q],argTypes:= #[s,s]},t,none⟩ (CP L) K:=by
  have⟨a,o,h⟩:=Be h;rw[g]at o;cases o;have⟨B,C,h⟩:=Be h;have⟨c',i,h⟩:=Be h;have⟨r,D,h⟩:=Be h;have⟨T,F,h⟩:=Be h;have⟨dd,H,h⟩:=Be h;cases dd with
  |sl U I W X=>dsimp only at h;have⟨j,h⟩:=DU h;simp only[Aa]at j;have J:=C0 j.1;have h:=Dt h;simp only[Cq]at h;have⟨_,_,M,N,O,Q,R⟩:=h;subst J M Q R;have u:=OJ (x:=.tmp p) g C;have S:=OJ (x:=.tmp q) i F;simp only[C5,Dx g]at u;have b:CP B=upd (CP L) p (.dat l.length<|l.flatMap f):=u;refine AcK (f:=f) (l:=l) (m:=m) (c2:=c') (ds:=ds) (Dx g) (by rw[<-b];exact Dx i) (by rw[D];cases r;cases N;cases O;rfl) v H w A j.2 ?_;rw[EI,S]at k;simp only[C5,Dx i,b]at k;exact k
  |_=>cases h
def qAd{α:Type}(f g i:α->List V)(l m:List α){es p q:Nat}{e:TypeId}{ds:List V}{c:V}{w:PL}(h:Ag2 tb L s p q=some (l.length,l.flatMap f,es,m.length,ds,c,w))(j:lk L p=some (.own e l.length<|l.flatMap f))(C:ds.length=m.length * es)(D:ZV c=m.flatMap i)(F:l.length+m.length<=lim)(H:∀x,(f x).map VY=g x)(I:∀x,(i x).map VY=g x)(n:∀x,(f x).all V.DB=true)(o:∀x,(i x).all V.DB=true)
    (k:K (CP<|(d,.own e (l++m).length<|(l++m).flatMap g)::w)):Jm P tb cns ⟨some d,.call {callee:=.builtin .append,args:= #[.tmp p,.tmp q],argTypes:= #[s,s]},t,none⟩ (CP L) K:=by
  have⟨a,A,h⟩:=Be h;rw[j]at A;cases A;have⟨J,M,h⟩:=Be h;have⟨c',u,h⟩:=Be h;have⟨r,N,h⟩:=Be h;have⟨L3,O,h⟩:=Be h;have⟨dd,Q,h⟩:=Be h;cases dd with
  |sl e' R eb ez=>dsimp only at h;have⟨v,h⟩:=DU h;simp only[Aa]at v;have S:=C0 v.1;have h:=Dt h;simp only[Cq]at h;have⟨_,_,T,U,W,X,Y⟩:=h;subst S T X Y;have B:=OJ (x:=.tmp p) j M;have Z:=OJ (x:=.tmp q) u O;simp only[C5,Dx j]at B;have b:CP J=upd (CP L) p (.dat l.length<|l.flatMap f):=B;refine yr (f:=f) (g:=g) (h:=i) (l:=l) (m:=m) (c2:=c') (ds:=ds) (Dx j) (by rw[<-b];exact Dx u) (by rw[N];cases r;cases U;cases W;rfl) C Q D F v.2 H I n o ?_;rw[EI,Z]at k;simp only[C5,Dx u,b]at k;exact k
  |_=>cases h
def bsO(tb:Tb)(L:PL)(s:TypeId)(n:Nat)(ps:List (Nat×Operand)):Option (TypeId×Nat×PL×List V):=G (tb s) λdd=>match dd with
  |.sl e es _ a=>Wj (Nat.ble (n * es) 16777216)<|G (l5 (λi=>some (i * es,es)) ps L<|TE a es n) λq=>G (mb q.2) λcs=>some (e,es,q.1,cs)
  |_=>none
def Gl{α:Type}(f:α->List V)(l:List α){e:TypeId}{es n:Nat}{ps:Array (Nat×Operand)}{a:PL}{cs:List V}(h:bsO tb L s n ps.toList=some (e,es,a,cs))(b:l.length=n)(c:cs=l.flatMap f)(g:∀x,(f x).length=es)(k:K (CP<|(d,.own e l.length<|l.flatMap f)::a)):Jm P tb cns ⟨some d,.buildSlice s n ps,t,none⟩ (CP L) K:=by
  have⟨dd,i,h⟩:=Be h;cases dd with
  |sl u j v w=>
    have⟨m,h⟩:=DU h;have⟨q,o,h⟩:=Be h;have⟨cs',p,h⟩:=Be h;cases h;have r:=cB p;subst c;simp only[Jm,SM,lD,i,dK (L':=q.1) (cs':=q.2) o];rw[<-r];refine⟨nb m,?_,?_⟩
    · rw[Bl g,b]
    · rw[b]at k;exact k
  |_=>cases h
def mkO(tb:Tb)(L:PL)(s:TypeId)(x y:Operand):Option (Int×Int×TypeId×Nat×List V):=G (TZ L x) λa=>G (TZ L y) λb=>match a,b with
  |.int _ n,.int _ m=>G (tb s) λdd=>match dd with
    |.sl e es _ c=>some (n,m,e,es,c)
    |_=>none
  |_,_=>none
def Afg{n m e es ez}(h:mkO tb L s x y=some (n,m,e,es,ez)):∃c f g,CC (CP L) x=.int c n∧CC (CP L) y=.int f m∧tb s=some (.sl e es g ez):=by
  have⟨a,i,h⟩:=Be h;have⟨b,j,h⟩:=Be h;cases a<;>first|(cases h;done)|skip
  cases b<;>first|(cases h;done)|skip
  have⟨dd,k,h⟩:=Be h;cases dd<;>first|(cases h;done)|skip
  cases h;exact⟨_,_,_,EN i,EN j,k⟩
def qMu{α:Type}(f:α->List V)(z:α){e:TypeId}{es:Nat}{a:List V}{n:Int}(c:cns.contains d=true)(h:mkO tb L s x y=some (n,n,e,es,a))(g:f z=a)(b:a.length=es)(i:0<=n∧n.toNat<=lim)(j:nbL L d=true)(k:K (CP<|(d,.uni e (List.replicate n.toNat z).length<|(List.replicate n.toNat z).flatMap f)::L)):Jm P tb cns ⟨some d,.makeSlice s x y,t,none⟩ (CP L) K:=by have⟨p,q,r,l,m,o⟩:=Afg h;exact AcR c l m o g b i (kc j) k
def mu(D:zN)(L:PL):PL:=L.map λp=>(p.1,if D.contains p.1=true then .undef else match D3 p.2 with
  |some b=>if D.contains b=true then .undef else p.2
  |none=>p.2)
def Y4(D:zN):∀L:PL,CP (mu D L)=kill D (CP L)
  |[]=>by funext s;simp[mu,CP,kill,D3]
  |(q,c)::L=>by
    have a:=Y4 D L;funext s;show CP ((q,_)::mu D L) s=_;rw[EI];by_cases e:s=q
    · subst e;rw[upd_same];unfold kill;rw[EI,upd_same];rfl
    · rw[upd_ne _ _ e,a];unfold kill;rw[EI,upd_ne _ _ e]
def frL:PL->Option PL
  |[]=>some []
  |(s,.undef)::L=>G (frL L) λL'=>some<|(s,.undef)::L'
  |(s,c)::L=>G (ak c) λc=>G (frL L) λL'=>some<|(s,c)::L'
def jS:∀{L L':PL},frL L=some L'->L'=L
  |[],_,h=>by cases h;rfl
  |(s,c)::L,L',h=>by
    unfold frL at h;split at h
    · rename_i a;cases a
    · rename_i a;cases a;have⟨e,b,h⟩:=Be h;cases h;rw[jS b]
    · rename_i a;cases a;have⟨g,f,h⟩:=Be h;have⟨e,b,h⟩:=Be h;cases h;rw[jS b,IJ f]
def qTu{e n cs L1}(a:cns.contains d=true)(h:lk L s=some (.uni e n cs))(b:frL (mu [s] L)=some L1)(k:K (CP<|(d,.own e n cs)::(s,.dat n cs)::L1)):Jm P tb cns ⟨some d,.move<|.tmp s,t,none⟩ (CP L) K:=by rw[jS b]at k;refine yu a (Dx h) ?_;rw[<-Y4];exact k
def qAu{e n cs L1}(a:cns.contains d=true)(h:lk L s=some (.uni e n cs))(b:frL (mu [s] L)=some L1)(c:nbL L1 d=true)(k:K (CP<|(d,.uni e n cs)::L1)):Jm P tb cns ⟨some d,.assign<|.tmp s,t,none⟩ (CP L) K:=by have f:=jS b;subst f;refine AcL a (Dx h) (by rw[<-Y4];exact kc c) ?_;rw[<-Y4];exact k
def iuO(tb:Tb)(L:PL)(s:TypeId)(x y:Operand):Option (Nat×Nat×Int×Nat):=G (TZ L x) λa=>match a with
  |.same b=>G (lk L b) λu=>match u with
    |.uni _ n _=>G (TZ L y) λc=>match c with
      |.int _ i=>G (tb s) λdd=>match dd with
        |.sl _ es _ _=>some (b,n,i,es)
        |_=>none
      |_=>none
    |_=>none
  |_=>none
def gz{b n es i}(h:iuO tb L s x y=some (b,n,i,es))(hi:0<=i∧i < n)(k:K (CP<|(d,.cref b<|i.toNat * es)::L)):Jm P tb cns ⟨some d,.indexAddr s x y,t,none⟩ (CP L) K:=by
  have⟨a,e,h⟩:=Be h;cases a<;>first|(cases h;done)|skip
  have⟨u,f,h⟩:=Be h;cases u<;>first|(cases h;done)|skip
  have⟨c,g,h⟩:=Be h;cases c<;>first|(cases h;done)|skip
  have⟨dd,j,h⟩:=Be h;cases dd<;>first|(cases h;done)|skip
  cases h;exact AcO (EN e) (Dx f) (EN g) j hi k
def qLu{α:Type}{f n b m}(off:Nat){l:List α}{i:Int}{e:α}{a:TypeId}{dd:TyD}{v:V}(c:cns.contains d=false)(g:adO L x=some (.cref b<|i.toNat * n+off))(h:lk L b=some (.uni a m<|l.flatMap f))(j:∀x,(f x).length=n)(hi:AN l i=some e)(o:tb s=some dd)(p:Nat.ble (off+dd.size) n=true)(q:ak (getCells dd (f e) off)=some v)(k:K (CP<|(d,v)::L)):Jm P tb cns ⟨some d,.load s x,t,none⟩ (CP L) K:=by rw[IJ q]at k;exact AcQ c (U0 g) (Dx h) j hi o (nb p) rfl k
def qSu{ty}{α:Type}{f n b l i}(e:α){c:TypeId}{dd:TyD}{a:V}{g:PL}(j:adO L x=some (.cref b<|i.toNat * n))(m:lk L b=some (.uni c l.length<|l.flatMap f))(o:∀x,(f x).length=n)(hi:0<=i∧i < l.length)(h:TZ L y=some a)(p:tb t=some dd)(q:a.isArg=true)(r:n=dd.size)(u:IH a=f e)(v:VV L y a=some g)
    (k:K (CP<|(b,.uni c (En l i e).length<|(En l i e).flatMap f)::g)):Jm P tb cns ⟨none,.store t x y,ty,none⟩ (CP L) K:=by
  refine AcU (U0 j) (Dx m) o hi (EN h) p q r u ?_;rw[<-OJ h v];exact k
end
section
variable {P:Program}{nt:Nat}{bx:zN}{Q:Exit->PS->Prop}{L:PL}
def BJ{α:Type}{s:Nat}{x y:LC}{b:Bool}{u v:Option α}{r:α}(h:cond b u v=some r)(a:lk L s=some (.bool b))(c:u=some r->LS P nt bx x (CP L) Q)(d:v=some r->LS P nt bx y (CP L) Q):LS P nt bx (.cond (.tmp s) x y) (CP L) Q:=EC h (λe h=>Abu (Dx a) e<|c h)<|λe h=>Abt (Dx a) e<|d h
def qT{s x y b}(a:lk L s=some (.bool b))(e:b=true)(h:LS P nt bx x (CP L) Q):LS P nt bx (.cond (.tmp s) x y) (CP L) Q:=Abu (Dx a) e h
def qF{s x y b}(a:lk L s=some (.bool b))(e:b=false)(h:LS P nt bx y (CP L) Q):LS P nt bx (.cond (.tmp s) x y) (CP L) Q:=Abt (Dx a) e h
end
section
variable {P:Program}{tb:Tb}{cns:zN}{L:PL}{K:PS->Prop}{d s t:Nat}{x:Operand}
end
def nu(tb:Tb)(cns:zN):List LO->PL->Option PL
  |[],L=>some L
  |o::os,L=>G (Of tb cns o L) λL'=>nu tb cns os L'
def wP(tb:Tb):Nat->LC->PL->Option (LC×PL)
  |0,l,L=>some (l,L)
  |n+1,.seq (.rgn cns ops) y,L=>G (nu tb cns ops L) λL'=>wP tb n y L'
  |_+1,_,_=>none
section
variable {P:Program}{nt:Nat}{bx:zN}{Q:Exit->PS->Prop}{tb:Tb}
def nv{cns K}:∀{ops:List LO}{L L':PL},nu tb cns ops L=some L'->K (CP L')->bo P tb cns ops (CP L) K
  |[],_,_,h,k=>by cases h;exact k
  |o::ops,L,_,h,k=>by rw[nu]at h;have⟨b,a,h⟩:=Be h;exact fN (K:=λσ'=>bo P tb cns ops σ' K) a<|nv h k
def rm(b:Jr P tb):∀{n:Nat}{l c:LC}{L L':PL},wP tb n l L=some (c,L')->LS P nt bx c (CP L') Q->LS P nt bx l (CP L) Q
  |0,_,_,_,_,h,k=>by cases h;exact k
  |n+1,l,c,L,L',h,k=>by
    cases l with
    |seq a y=>
      cases a with
      |rgn cns ops=>
        have⟨e,d,h⟩:=Be<|show G (nu tb cns ops L) (λL'=>wP tb n y L')=_ from h
        exact vR b<|nv d<|rm b h k
      |_=>exact absurd (show none=some _ from h) (by simp)
    |_=>exact absurd (show none=some _ from h) (by simp)
abbrev Jn(K:PS->Prop)(L:PL):Prop:=∀σ:PS,iF σ L->K σ
theorem lh{l:LC}{σ:PS}{L:PL}(hk:iF σ L)(h2:okR L=true)(h:LS P nt bx l (CP L) Q):LS P nt bx l σ Q:=TW L hk h2 h
end
def AkT(cns:zN)(o:LO):Bool:=match o.op,o.dst with
  |.move _,some d=> !cns.contains d
  |_,_=>false
def fpO(base:List (Nat×Nat))(cns:zN)(o:LO):zN×zN:=match spc cns o with
  |true=>([],o.dst.toList)
  |false=>
  let R:=UO o.op++match o.op with
    |.alloc _=>o.dst.toList
    |.call _=>o.dst.toList.filter cns.contains
    |_=>[]
  let R:=R++match AkT cns o with
    |true=>[]
    |false=>base.filterMap λp=>if R.contains p.1 then some p.2 else none
  (R++gT o,o.dst.toList++if simple cns o=true then base.filterMap (λp=>if(adC o.op).contains p.1 then some p.2 else none)else R)
def cnO:List (Nat×zN)->Nat->zN
  |[],_=>[]
  |(i,c)::r,a=>match Nat.beq a i with
    |true=>c
    |false=>cnO r a
def Vp(base:List (Nat×Nat))(e:List (Nat×zN)):Code->LC
  |.skip=>.skip
  |.region f ops d=>match d with
    |true=>.drw (cnO e f) ((ops.toList.map<|CR ops).map<|fpO base<|cnO e f) (ops.toList.map Xz)<|ops.toList.map<|CR ops
    |false=>.rgn (cnO e f)<|ops.toList.map<|CR ops
  |.seq a b=>.seq (Vp base e a)<|Vp base e b
  |.cond c a b=>.cond c (Vp base e a)<|Vp base e b
  |.block f a=>.blk f<|Vp base e a
  |.loop a=>.loop []<|Vp base e a
  |.exit f=>.exit f
  |.ret=>.ret
  |_=>.bad
def Vq(base:List (Nat×Nat))(e:List (Nat×zN)):∀c:Code,F3 c=Uc (Vp base e c)
  |.skip=>rfl
  |.region f ops d=>by cases d<;>simp[F3,Vp,Uc]
  |.seq a b=>by rw[F3,Vp,Uc,Vq base e a,Vq base e b]
  |.cond c a b=>by rw[F3,Vp,Uc,Vq base e a,Vq base e b]
  |.block f a=>by rw[F3,Vp,Uc,Vq base e a]
  |.loop a=>by rw[F3,Vp,Uc,Vq base e a]
  |.exit f=>rfl
  |.ret=>rfl
  |.rangeFunc .. =>rfl
  |.scope .. =>rfl
  |.label .. =>rfl
  |.goto .. =>rfl
  |.refuse .. =>rfl
def cdF(f:Func):Code:=match f.body with
  |some c=>c
  |none=>.skip
def Ahe(bx:zN)(base:List (Nat×Nat))(cn:List (Nat×zN))(fn:Func):Bool:=
  fn.body.isSome&&((fn.name== "runtime.NumGoroutine")==false&&(okC fn.ntmps bx (cdF fn)&&(decide (fn.results.toList.map Qj).Nodup&&okL bx (Vp base cn (cdF fn)))))
theorem Br{P:Program}{f:Nat}{fn:Func}{bx:zN}{base:List (Nat×Nat)}{cn:List (Nat×zN)}(h1:P.funcs[f]? =some fn)(h2:Ahe bx base cn fn=true:=by kernel_rfl):Lit P f fn.ntmps bx fn.results.toList (Vp base cn (cdF fn)):=by
  simp only[Ahe,Aa]at h2
  obtain⟨h2,h3,h4,h5,h6⟩:=h2
  obtain⟨c,hc⟩:=G0.1 h2
  refine⟨⟨fn,c,h1,hc,eq_of_beq h3,rfl,rfl,?_,?_⟩,Oq h5,h6⟩
  · rw[<-Vq];unfold cdF;rw[hc]
  · unfold cdF at h4;rw[hc]at h4;exact h4
end
section
def CD{S O:Type}{body:(S->Option O)->S->Option O}{out:O}(f:Nat->S):∀(n:Nat),(∀k,k < n->∀a,body a (f k)=a (f<|k+1))->(∀a,body a (f n)=some out)->∀m,n < m->Ap body m (f 0)=some out:=by
  have b:∀(d n:Nat),(∀k,k < n->∀a,body a (f k)=a (f<|k+1))->(∀a,body a (f n)=some out)->∀k,k+d=n->∀m,d < m->Ap body m (f k)=some out:=by
    intro d n c e;induction d with
    |zero=>
      intro k h m g;cases m with
      |zero=>omega
      |succ m=>rw[show k=n by omega];exact e _
    |succ d i=>
      intro k h m g;cases m with
      |zero=>omega
      |succ m=>show body (Ap body m) (f k)=some out;rw[c k (by omega)];exact i (k+1) (by omega) m (by omega)
  intro n c e m g;exact b n n c e 0 (by omega) m g
def wrap_in{n}(h: -9223372036854775808<=n∧n<=9223372036854775807):wZ n=n:=by
  (try unfold wZ)<;>unfold IntKind.wrap
  simp[IntKind.signed,IntKind.bits]<;>omega
def Bm{k n:Nat}(h:k < n)(a:n<=maxLen):wZ ((k:Int)+1)=((k+1:Nat):Int):=by rw[wrap_in (by unfold maxLen at a;omega)];simp
def Hp{α:Type}(l:List α)(k:Nat):AN l (k:Int)=l[k]?:=by simp[AN]
def AI{α:Type}{l:List α}{k:Nat}(h:k < l.length):AN l (k:Int)=some l[k]:=by rw[Hp,Ae h]
def DN{n}(h:n<=lim):n < fz:=by unfold lim at h;unfold fz;omega
def cT{α β:Type}{a:List α}{g:α->Option β}{h:α->β}{B:(List β×Int->Option (List β))->List β×Int->Option (List β)}{z:β}
    (f:∀b y i,B b (y,i)=cond (decide (i < (List.length a:Int))) (G (AN a i) λe=>G (g e) λv=>G (AN y i) λ_=>b (En y i v,wZ<|i+1)) (some y))
    (l:∀e∈a,g e=some (h e)) (j:a.length<=lim):Ap B fz (List.replicate (Int.toNat (List.length a:Int)) z,0)=some (a.map h):=by
  have:=CD (body:=B) (out:=a.map h) (λk=>((a.take k).map h++List.replicate (a.length - k) z,(k:Int))) a.length (λk c b=>?_) (λrec=>?_) fz<|DN j
  · simpa using this
  · rw[f];have m:(decide ((k:Int) < (List.length a:Int)))=true:=by simp;omega
    have d:((a.take k).map h++List.replicate (a.length - k) z).length=a.length:=by simp;omega
    rw[m,Ac,AI c];simp only[G];rw[l _ (Ad c)];simp only;rw[AI (by rw[d];exact c)];simp only;congr 1;rw[Bm c (Ba j)];congr 1;unfold En;rw[Aq];have n:((a.take k).map h).length=k:=by simp;omega
    rw[Iy _ _ (by omega),n,H8,A6 c,Bd];have o:a.length - k=(a.length - (k+1))+1:=by omega
    rw[o,List.replicate_succ];simp
  · rw[f];simp
def cx{α:Type}{a:List α}{g:α->α->Option Bool}{B:(Int->zS)->Int->zS}
    (d:∀b i,B b i=cond (decide (i < (List.length a:Int))) (G (AN a i) λx=>G (AN a i) λy=>G (g x y) λv=>cond (!v) (some<|.inr false)<|b<|wZ<|i+1) (some<|.inl ()))
    (h:∀e∈a,g e e=some true) (f:a.length<=lim):Ap B fz 0=some (.inl ()):=by
  refine CD (body:=B) (λk=>(k:Int)) a.length (λk c b=>?_) (λrec=>?_) fz<|DN f
  · rw[d];have j:(decide ((k:Int) < (List.length a:Int)))=true:=by simp;omega
    rw[j,Ac,AI c];simp only[G,h _ (Ad c),An,Ab];rw[Bm c (Ba f)]
  · rw[d];simp
def A1{α:Type}{p:Prop}[Decidable p]{x:Option α}(h:p):chk p x=x:=by unfold chk;rw[Aw h]
def cK{n:Nat}(h:n<=lim):(0:Int)<=(n:Int)∧Int.toNat (n:Int)<=lim:=by rw[Aq];exact⟨by omega,h⟩
def Jj{n}(h:n<=1048576):n<=lim:=by unfold lim;omega
def SzR(left:Int)(s:Option Int)(a:Prop)(t:Nat):Prop:=∃v,s=some v∧(v < 0∨(v+(t:Int)<=left∧0<=v∧a))
def lb{α:Type}(f:α->Nat):List α->Nat
  |[]=>0
  |x::l=>f x+lb f l
def rJ{α:Type}{f}:∀(a b:List α),lb f (a++b)=lb f a+lb f b
  |[],b=>by simp[lb]
  |x::a,b=>by rw[BY,lb,lb,rJ a b];omega
def Aaz{n:Nat}{left}(h:0<=left∧left<=1048576)(a:n<=maxLen):∃v,wZ (left - (n:Int))=v∧(v < 0∨(v+(n:Int)<=left∧0<=v∧n<=1048576)):=by
  rw[wrap_in (by unfold maxLen at a;omega)];refine⟨_,rfl,?_⟩;by_cases b:left - (n:Int) < 0
  · exact .inl b
  · exact .inr ⟨by omega,by omega,by omega⟩
def Aga{n:Nat}{left}(h:0<=left∧left<=1048576)(a:n<=maxLen):SzR left (cond (decide ((wZ<|left - (n:Int)) < 0)) (some (-1))<|some<|wZ<|left - (n:Int)) (n<=1048576) n:=by
  have⟨v,e,p⟩:=Aaz h a;rw[e];rcases p with p|p
  · rw[Ai p];exact⟨-1,rfl,.inl<|by omega⟩
  · rw[Af (by omega:¬v < 0)];exact⟨v,rfl,.inr p⟩
def kU{α:Type}{a:List α}{g:α->Int->Option Int}{s:α->Prop}{f:α->Nat}{B:(Int×Int->Option (Sum Int Int))->Int×Int->Option (Sum Int Int)}
    (A:∀n l i,B n (l,i)=cond (decide (i < (List.length a:Int))) (G (AN a i) λe=>G (g e l) λv=>cond (decide (v < 0)) (some<|.inr (-1))<|n (v,wZ<|i+1)) (some<|.inl l))
    (H:∀e∈a,∀left,0<=left∧left<=1048576->SzR left (g e left) (s e) (f e)) {left:Int}(h:0<=left∧left<=1048576) (C:a.length<=maxLen):
    SzR left (cond (decide ((wZ (left - (List.length a:Int))) < 0)) (some (-1)) (G (Ap B fz (wZ (left - (List.length a:Int)),0)) λo=>(match o with
      |.inl z=>some z
      |.inr r=>some r))) (a.length<=1048576∧∀e∈a,s e) (a.length+lb f a):=by
  obtain⟨v,e,p⟩:=Aaz h C;rw[e];rcases p with p|⟨Q,p2,D⟩
  · rw[Ai p];exact⟨-1,rfl,.inl<|by omega⟩
  rw[Af (by omega:¬v < 0),Ab]
  have x:∀d k l,k+d=a.length->0<=l∧l+(lb f (a.take k):Int)<=v->(∀e∈a.take k,s e)->∀m,d < m->∃o,Ap B m (l,(k:Int))=some o∧(o=.inr (-1)∨∃z,o=.inl z∧0<=z∧z+(lb f a:Int)<=v∧∀e∈a,s e):=by
    intro d;induction d with
    |zero=>
      intro k l I t w m J;cases m with
      |zero=>omega
      |succ m=>
        rw[C7 (by omega)]at t;refine⟨.inl l,?_,.inr ⟨l,rfl,t.1,t.2,?_⟩⟩
        · show B (Ap B m) (l,(k:Int))=_;rw[A];rw[Af (by omega:¬(k:Int) < (List.length a:Int))];rfl
        · rw[C7 (by omega)]at w;exact w
    |succ d K=>
      intro k l I t w m J;cases m with
      |zero=>omega
      |succ m=>
        have b:k < a.length:=by omega
        obtain⟨u,L,q⟩:=H a[k] (Ad b) l (by omega);have c:Ap B (m+1) (l,(k:Int))=cond (decide (u < 0)) (some<|.inr (-1)) (Ap B m (u,((k+1:Nat):Int))):=by show B (Ap B m) (l,(k:Int))=_;rw[A,Ai (by omega:(k:Int) < (List.length a:Int)),Ac,AI b];simp only[G,L,Bm b C]
        rcases q with q|⟨F,M,y⟩
        · exact⟨.inr (-1),by rw[c,Ai q];rfl,.inl rfl⟩
        · rw[c,Af (by omega:¬u < 0),Ab];have N:lb f (a.take<|k+1)=lb f (a.take k)+f a[k]:=by rw[A6 b,rJ];simp[lb]
          exact K (k+1) u (by omega) (by rw[N];omega) (λe j=>by
            rw[A6 b]at j;rcases Ak.1 j with j|j
            · exact w e j
            · rw[AC.1 j];exact y) m (by omega)
  obtain⟨o,O,q⟩:=x a.length 0 v (by omega) (by simp[lb];omega) (by simp) fz<|DN<|Jj D;have P:Ap B fz (v,0)=some o:=by simpa using O
  rw[P];rcases q with rfl|⟨z,rfl,F,M,y⟩
  · exact⟨-1,rfl,.inl<|by omega⟩
  · exact⟨z,rfl,.inr ⟨by omega,F,D,y⟩⟩
end
section
def na(u:Value):V->V
  |.own _ n cs=>.pin u n<|QF cs
  |c=>c
def d8:V->Bool
  |.own _ _ _=>true
  |_=>false
def sx:V->Bool
  |.int _ _=>true
  |.bool _=>true
  |.str _=>true
  |_=>false
def Rc:List V->Bool
  |[]=>false
  |c::cs=>(d8 c&&cs.all sx) || (sx c&&Rc cs)
def Fd:List V->V
  |[]=>.undef
  |c::cs=>match c with
    |.own e n ds=>.own e n ds
    |_=>Fd cs
section
variable {P:Program}{w:World}{St:Nat->Nat->Prop}
def w9{c v b}(a:sx c=true)(h:Ow P w St c v b):b=[]:=by cases c<;>first|exact h.1|cases a
def pl{c}(u:Value)(a:sx c=true):na u c=c:=by cases c<;>first|rfl|cases a
def pm:∀{cs:List V}{us:List Value}{b:zN},cs.all sx=true->Bn P w St cs us b->b=[]
  |[],_,_,_,h=>h.2
  |c::cs,_,_,a,⟨u,d,b1,b2,i,e,j,f,g⟩=>by simp only[By,Aa]at a;rw[e,w9 a.1 f,pm a.2 g];rfl
def kM:∀{cs:List V}(u:Value),cs.all sx=true->cs.map (na u)=cs
  |[],_,_=>rfl
  |c::cs,u,a=>by simp only[By,Aa]at a;rw[AM,pl u a.1,kM u a.2]
def zQ{e n cs u b}(h:Ow P w St (.own e n cs) u b):Ow P w St (.pin u n<|QF cs) u []:=by have:=Rd.erase _<|Ow.rd (.own e n cs) h rfl;exact⟨rfl,rfl,this⟩
def rG:∀{ds:List V},Rc ds=true->∃e n cs,Fd ds=.own e n cs
  |[],h=>by cases h
  |c::cs,h=>by
    simp only[Rc,Ck,Aa]at h;rcases h with⟨a,b⟩|⟨a,b⟩
    · cases c<;>first|exact⟨_,_,_,rfl⟩|cases a
    · have⟨e,n,cs',d⟩:=rG b;cases c<;>first|(cases a;done)|exact⟨e,n,cs',d⟩
def iI:∀{ds:List V}{xs:List Value}{b:zN},Rc ds=true->Bn P w St ds xs b->∃u,Ow P w St (Fd ds) u b∧Bn P w St (ds.map<|na u) xs []
  |[],_,_,h,_=>by cases h
  |c::cs,_,_,h,⟨u,a,b1,b2,i,d,k,e,f⟩=>by
    simp only[Rc,Ck,Aa]at h;rcases h with⟨g1,g2⟩|⟨g1,g2⟩
    · have g:=pm g2 f;subst g;rw[AR]at d;subst d;cases c<;>first|(cases g1;done)|skip
      refine⟨u,e,?_⟩;rw[AM,kM u g2];exact⟨u,a,[],[],i,rfl,rfl,zQ e,f⟩
    · have g:=w9 g1 e;subst g;rw[BI]at d;subst d;have⟨j,l,m⟩:=iI g2 f;refine⟨j,?_,?_⟩
      · cases c<;>first|(cases g1;done)|exact l
      · rw[AM,pl j g1];exact⟨u,a,[],[],i,rfl,k,e,m⟩
def mS:∀{ds:List V}{xs:List Value}{m b:zN}{u:Value},Rc ds=true->Bn P w St (ds.map<|na u) xs m->Ow P w St (Fd ds) u b->Bn P w St ds xs b
  |[],_,_,_,_,h,_,_=>by cases h
  |c::cs,_,_,b,u,h,⟨d,a,b1,b2,k,p,q,e,f⟩,l=>by
    simp only[Rc,Ck,Aa]at h;rcases h with⟨g1,g2⟩|⟨g1,g2⟩
    · cases c<;>first|(cases g1;done)|skip
      have n:d=u:=e.2.1;subst n;change Bn P w St (cs.map<|na d) a b2 at f;rw[kM d g2]at f;have g:=pm g2 f;subst g;exact⟨d,a,b,[],k,by simp,rfl,l,f⟩
    · have i:Ow P w St (Fd cs) u b:=by cases c<;>first|(cases g1;done)|exact l
      change Ow P w St (na u c) d b1 at e;rw[pl u g1]at e;have g:=w9 g1 e;subst g;have o:=mS g2 f i;have j:c.DB=true:=by cases c<;>first|rfl|cases g1
      exact⟨d,a,[],b,k,by simp,j,e,o⟩
end
def GO{α:Type}(k:Nat):List α->List (Nat×α)
  |[]=>[]
  |x::l=>(k,x)::GO (k+1) l
def pE{α:Type}(f:α->List V)(U:Nat->Value)(p:Nat×α):List V:=(f p.2).map<|na<|U p.1
def mE{α:Type}(f:α->List V)(U:Nat->Value):Nat×α ⊕ α->List V
  |.inl p=>pE f U p
  |.inr x=>f x
def getM{α:Type}:Nat×α ⊕ α->α
  |.inl p=>p.2
  |.inr x=>x
def okJ{α:Type}[BEq α](l:List α):List (Nat×α ⊕ α)->zN->Bool
  |[],_=>true
  |.inl p::L,seen=>(match l[p.1]? with
    |some x=>x==p.2
    |none=>false)&& !seen.contains p.1&&okJ l L (p.1::seen)
  |.inr _::L,seen=>okJ l L seen
section
variable {P:Program}{w:World}{St:Nat->Nat->Prop}{α:Type}{f:α->List V}
def mY(a:∀x,Rc (f x)=true):∀(l:List α) (k:Nat) {xs:List Value}{bs:zN},Bn P w St (l.flatMap f) xs bs->
    ∃us:List Value,us.length=l.length∧Bn P w St (l.map λx=>Fd<|f x) us bs∧∀U:Nat->Value,(∀i,i < l.length->U (k+i)=us.getD i undef)->Bn P w St ((GO k l).flatMap<|pE f U) xs []
  |[],k,_,_,h=>⟨[],rfl,⟨rfl,h.2⟩,λU _=>⟨h.1,rfl⟩⟩
  |x::l,k,xs,bs,h=>by
    rw[Ax]at h;obtain⟨b,d,b1,b2,rfl,rfl,g,j⟩:=h.app;have⟨u,m,o⟩:=iI (a x) g;have⟨us,p,q,r⟩:=mY a l (k+1) j;have⟨e,n,cs,s⟩:=rG<|a x;refine⟨u::us,by simp[p],⟨u,us,b1,b2,rfl,rfl,by show(Fd<|f x).DB=true;rw[s];rfl,m,q⟩,λU c=>?_⟩;have t:U k=u:=by have:=c 0 (by simp);simpa using this
    rw[GO,Ax]
    have:=Bn.join (b1:=[]) (b2:=[]) (show Bn P w St (pE f U (k,x)) b []by unfold pE;rw[t];exact o) (r U (λi hi=>by
      have:=c (i+1) (by simp;omega);have e:k+1+i=k+(i+1):=by omega
      rw[e,this];simp))
    exact this
def UQ:∀{cs:List V}{us:List Value}{bs:zN},Bn P w St cs us bs->bs.Nodup->∃β:Nat->zN,(∀i c u,cs[i]? =some c->us[i]? =some u->Ow P w St c u (β i))∧(∀i,∀g∈β i,g∈bs)∧(∀i,(β i).Nodup)∧∀i j,i≠j->∀g∈β i,g∉β j
  |[],_,_,h,_=>⟨λ_=>[],by simp,by simp,λ_=>AP,by simp⟩
  |c::cs,_,_,⟨u,n,b1,b2,o,p,B,q,r⟩,s=>by
    subst o p;have⟨t,v,m⟩:=AA.1 s;have⟨β,x,k,y,z⟩:=UQ r v;refine⟨λi=>match i with|0=>b1|i+1=>β i,?_,?_,?_,?_⟩
    · intro i c' A a b;cases i with
      |zero=>simp only[Ce,Ar]at a b;subst a b;exact q
      |succ i=>exact x i c' A (by simpa using a) (by simpa using b)
    · intro i g e;cases i with
      |zero=>exact AF _ e
      |succ i=>exact Az _<|k i g e
    · intro i;cases i with
      |zero=>exact t
      |succ i=>exact y i
    · intro i j l g e d;cases i with
      |zero=>
        cases j with
        |zero=>exact l rfl
        |succ j=>exact m g e g (k j g d) rfl
      |succ i=>
        cases j with
        |zero=>exact m g d g (k i g e) rfl
        |succ j=>exact z i j (by omega) g e d
def zK[BEq α][LawfulBEq α](R:∀x,Rc (f x)=true){l:List α}{us:List Value}{bs:zN}(J:Bn P w St (l.map λx=>Fd<|f x) us bs)(S:bs.Nodup){U:Nat->Value}(T:∀i,i < l.length->U i=us.getD i undef):
    ∀(L:List (Nat×α ⊕ α)) {xs:List Value}{k:zN},okJ l L []=true->Bn P w St (L.flatMap<|mE f U) xs k->k.Nodup->(∀g∈k,g∉bs)->∃b',Bn P w St ((L.map getM).flatMap f) xs b'∧b'.Nodup∧∀g∈b',g∈k∨g∈bs:=by
  have⟨β,W,K,X,Y⟩:=UQ J S;have r:=J.length;rw[Aj]at r
  have A:∀(L:List (Nat×α ⊕ α)) (c:zN) {xs:List Value}{k:zN},okJ l L c=true->Bn P w St (L.flatMap<|mE f U) xs k->k.Nodup->(∀g∈k,g∉bs)->
      ∃b',Bn P w St ((L.map getM).flatMap f) xs b'∧b'.Nodup∧(∀g∈b',g∈k∨g∈bs)∧∀i∈c,∀g∈β i,g∉b':=by
    intro L;induction L with
    |nil=>intro c xs k _ h n o;exact⟨[],⟨h.1,rfl⟩,AP,by simp,by simp⟩
    |cons p L M=>
      intro c xs k j h n o;rw[Ax]at h;obtain⟨s,Z,b1,b2,rfl,rfl,N,O⟩:=h.app;have⟨n1,Q,n3⟩:=AA.1 n;cases p with
      |inr x=>
        simp only[okJ]at j;have⟨b',t,u,q,y⟩:=M c j O Q<|λg d=>o g<|Az _ d
        refine⟨b1++b',?_,?_,?_,?_⟩
        · rw[AM,Ax];exact Bn.join N t
        · refine AA.2 ⟨n1,u,λa z b B e=>?_⟩;subst e;rcases q a B with h|h
          · exact n3 a z a h rfl
          · exact o a (AF _ z) h
        · intro g d;rcases Ak.1 d with d|d
          · exact .inl<|AF _ d
          · exact(q g d).imp (Az _) id
        · intro i hi g d m;rcases Ak.1 m with m|m
          · exact o g (AF _ m)<|K i g d
          · exact y i hi g d m
      |inl p=>
        simp only[okJ,Aa,AH]at j;have⟨⟨g1,g2⟩,g3⟩:=j;have⟨b',t,u,q,y⟩:=M (p.1::c) g3 O Q<|λg d=>o g<|Az _ d
        have C:l[p.1]? =some p.2:=by
          split at g1
          · rename_i x hx;rw[hx];simpa using g1
          · cases g1
        have D:p.1 < l.length:=by
          rcases Bb p.1 l.length with h|h
          · exact h
          · rw[Bu h]at C;cases C
        have F:us[p.1]? =some (U p.1):=by
          rw[T p.1 D];have:p.1 < us.length:=by omega
          simp[this]
        have v:=W p.1 _ _ (by rw[BP,C];rfl) F;have H:Bn P w St (f p.2) s (β p.1):=mS (R p.2) (show Bn P w St ((f p.2).map<|na<|U p.1) s b1 from N) v;refine⟨β p.1++b',?_,?_,?_,?_⟩
        · rw[AM,Ax];exact Bn.join H t
        · refine AA.2 ⟨X p.1,u,λa z b B e=>?_⟩;subst e;exact y p.1 (by simp) a z B
        · intro g d;rcases Ak.1 d with d|d
          · exact .inr<|K p.1 g d
          · exact(q g d).imp (Az _) id
        · intro i hi g d m;rcases Ak.1 m with m|m
          · have I:i≠p.1:=λe=>by
              subst e;have:c.contains p.1=true:=by simpa using hi
              rw[this]at g2;cases g2
            exact Y i p.1 I g d m
          · exact y i (by simp[hi]) g d m
  intro L xs k j h n o;have⟨b',t,u,q,_⟩:=A L [] j h n o;exact⟨b',t,u,q⟩
end
def zpE{α:Type}{f n}(h:∀x,(f x).length=n){U:Nat->Value}(p:Nat×α):(pE f U p).length=n:=by unfold pE;rw[Aj,h]
def erP{α:Type}{f g}(h:∀x,QF (f x)=g x)(a:∀x,QF (g x)=g x)(l:List α){u:Value}:er (.pin u l.length<|QF<|l.flatMap f)=.dat l.length (l.flatMap g):=by rw[er,SK h,SK a]
def zP{α:Type}{f:α->List V}{U:Nat->Value}{e:TypeId}{x:List (Nat×α)}:V.own e x.length (x.flatMap<|pE f U)=.own e (x.map (Sum.inl:Nat×α->Nat×α ⊕ α)).length ((x.map (Sum.inl:Nat×α->Nat×α ⊕ α)).flatMap<|mE f U):=by rw[Aj,List.flatMap_map];rfl
section
variable {P:Program}{α:Type}{f:α->List V}
def W9:∀(k:Nat) (l:List α),(GO k l).length=l.length
  |_,[]=>rfl
  |k,x::l=>by rw[GO,AD,AD,W9 (k+1) l]
def ji(P:Program)(f:α->List V)(c:V)(l:List α)(k:Nat)(c':(Nat->Value)->V):Prop:=
  ∀w a t v bs,Cr P w a t c v bs->bs.Nodup->∃us b1 b2,us.length=l.length∧Bn P w a (l.map λx=>Fd<|f x) us b2∧(b1++b2).Nodup∧(∀g∈b1++b2,g∈bs)∧∀U:Nat->Value,(∀i,i < l.length->U (k+i)=us.getD i undef)->Cr P w a t (c' U) v b1
def kw(h1:∀x,Rc (f x)=true){e:TypeId}{l:List α}{k:Nat}{w:World}{St:Nat->Nat->Prop}{v:Value}{bs:zN}(h:Ow P w St (.own e l.length<|l.flatMap f) v bs)(hn:bs.Nodup):
    ∃us b1 b2,us.length=l.length∧Bn P w St (l.map λx=>Fd<|f x) us b2∧bs=b1++b2∧∀U:Nat->Value,(∀i,i < l.length->U (k+i)=us.getD i undef)->Ow P w St (.own e (GO k l).length<|(GO k l).flatMap<|pE f U) v b1:=by
  have⟨hl,xs,bs',hx,hr,hb,hst,h0⟩:=h;have⟨us,hul,ht,hp⟩:=mY h1 l k hr;refine⟨us,v.ownBlock.toList,bs',hul,ht,hb,λU hU=>?_⟩;rw[W9];refine⟨hl,xs,[],hx,hp U hU,by simp,hst,λhz=>?_⟩;have:l=[]:=Bp hz;subst this;rfl
def Xr(c:∀x,Rc (f x)=true){e:TypeId}{l:List α}{k:Nat}:ji P f (.own e l.length<|l.flatMap f) l k (λU=>.own e (GO k l).length<|(GO k l).flatMap<|pE f U):=by intro w d t v bs h a;have⟨us,b1,b2,g,i,b,j⟩:=kw (k:=k) c (show Ow P w d _ v bs from h) a;exact⟨us,b1,b2,g,i,by rw[<-b];exact a,λg m=>by rw[b];exact m,λU n=>j U n⟩
def AaS(P:Program)[BEq α](f:α->List V)(U:Nat->Value)(c:V)(L:List (Nat×α ⊕ α))(c':V):Prop:=
  ∀w a t v b1 (l:List α) us bs,Cr P w a t c v b1->Bn P w a (l.map λx=>Fd<|f x) us bs->bs.Nodup->(∀i,i < l.length->U i=us.getD i undef)->okJ l L []=true->b1.Nodup->(∀g∈b1,g∉bs)->∃b',Cr P w a t c' v b'∧b'.Nodup∧∀g∈b',g∈b1∨g∈bs
def mX[BEq α][LawfulBEq α](h1:∀x,Rc (f x)=true){e:TypeId}{L:List (Nat×α ⊕ α)}{U:Nat->Value}{w:World}{St:Nat->Nat->Prop}{v:Value}{b1:zN}{l:List α}{us:List Value}{bs:zN}(h:Ow P w St (.own e L.length<|L.flatMap<|mE f U) v b1)(ht:Bn P w St (l.map λx=>Fd<|f x) us bs)(hn:bs.Nodup)
    (hU:∀i,i < l.length->U i=us.getD i undef) (hok:okJ l L []=true) (hb1:b1.Nodup) (hd:∀g∈b1,g∉bs):∃b',Ow P w St (.own e (L.map getM).length<|(L.map getM).flatMap f) v b'∧b'.Nodup∧∀g∈b',g∈b1∨g∈bs:=by
  obtain⟨hl,xs,bs',hx,hr,rfl,hst,h0⟩:=h;have⟨n1,n2,n3⟩:=AA.1 hb1;have⟨b',q1,q2,q3⟩:=zK h1 ht hn hU L hok hr n2<|λg hg=>hd g<|Az _ hg
  refine⟨v.ownBlock.toList++b',⟨by rw[Aj];exact hl,xs,b',by rw[Aj];exact hx,q1,rfl,by rw[Aj];exact hst,λhz=>?_⟩,?_,?_⟩
  · rw[Aj]at hz;have:L=[]:=Bp hz;subst this;rfl
  · refine AA.2 ⟨n1,q2,λa ha b hb e=>?_⟩;subst e;rcases q3 a hb with h|h
    · exact n3 a ha a h rfl
    · exact hd a (AF _ ha) h
  · intro g hg;rcases Ak.1 hg with hg|hg
    · exact .inl<|AF _ hg
    · exact(q3 g hg).imp (Az _) id
def vn[BEq α][LawfulBEq α](c:∀x,Rc (f x)=true){e:TypeId}{L:List (Nat×α ⊕ α)}{U:Nat->Value}:AaS P f U (.own e L.length<|L.flatMap<|mE f U) L (.own e (L.map getM).length<|(L.map getM).flatMap f):=by intro w d t v b1 l us bs h g i j a b k;have⟨b',m,n,o⟩:=mX c (show Ow P w d _ v b1 from h) g i j a b k;exact⟨b',m,n,o⟩
end
section
variable {P:Program}{nt:Nat}{base:Bs}{bx:zN}{St St0:Nat->Nat->Prop}{B:Nat->zN}{hand:zN}{σ:PS}{a:Act}{w w0:World}
def MB(h:HSim P nt bx base St B [] σ a w){s q:Nat}(D:s≠q)(W:C6 (σ q)=none){c v:V}{b1 b2:zN}(X:Cr P w St (tm a) c (tm a s) b1)(M:Cr P w St (tm a) v (tm a q) b2)(Y:(b1++b2).Nodup)(x:∀g∈b1++b2,g∈B s∨g∈B q)
    (C:(C6 c).isSome=(C6<|σ s).isSome) (N:D3 c=none) (O:C6 v=none) (Q:D3 v=none):HSim P nt bx base St (upd (upd B s b1) q b2) [] (upd (upd σ s c) q v) a w:=by
  have y:∀cs,C6 c=some cs->∃ds,C6 (σ s)=some ds:=λcs e=>by
    rw[e]at C;cases R:C6 (σ s)with
    |none=>rw[R]at C;cases C
    |some ds=>exact⟨ds,rfl⟩
  have n:∀cs,C6 (σ s)=some cs->∃ds,C6 c=some ds:=λcs e=>by
    rw[e]at C;cases R:C6 c with
    |none=>rw[R]at C;cases C
    |some ds=>exact⟨ds,rfl⟩
  have⟨Z,n2,U⟩:=AA.1 Y;have F:∀r,r≠s->r≠q->upd (upd B s b1) q b2 r=B r:=λr S T=>by rw[upd_ne _ _ T,upd_ne _ _ S]
  have l:upd (upd B s b1) q b2 s=b1:=by rw[upd_ne _ _ D,upd_same]
  have m:upd (upd B s b1) q b2 q=b2:=upd_same _ _ _;have L:∀r,r≠s->r≠q->upd (upd σ s c) q v r=σ r:=λr S T=>by rw[upd_ne _ _ T,upd_ne _ _ S]
  have o:upd (upd σ s c) q v s=c:=by rw[upd_ne _ _ D,upd_same]
  have z:upd (upd σ s c) q v q=v:=upd_same _ _ _
  have A:∀r,(∀g∈upd (upd B s b1) q b2 r,g∈B r∨((r=s∨r=q)∧(g∈B s∨g∈B q))):=λr g j=>by
    by_cases d:r=s
    · subst d;rw[l]at j;exact .inr ⟨.inl rfl,x g<|AF _ j⟩
    · by_cases f:r=q
      · subst f;rw[m]at j;exact .inr ⟨.inr rfl,x g<|Az _ j⟩
      · rw[F r d f]at j;exact .inl j
  exact
  {h with
    slot:=λr=>by
      by_cases d:r=s
      · subst d;rw[o,l];exact X
      · by_cases f:r=q
        · subst f;rw[z,m];exact M
        · rw[L r d f,F r d f];exact h.slot r
    boxes:=λr cs e=>by
      by_cases d:r=s
      · subst d;rw[o]at e;have⟨ds,hd⟩:=y cs e;exact h.boxes r ds hd
      · by_cases f:r=q
        · subst f;rw[z,O]at e;cases e
        · rw[L r d f]at e;exact h.boxes r cs e
    crefs:=λr b e=>by
      have hr:D3 (σ r)=some b:=by
        by_cases d:r=s
        · subst d;rw[o,N]at e;cases e
        · by_cases f:r=q
          · subst f;rw[z,Q]at e;cases e
          · rw[L r d f]at e;exact e
      have⟨cs,p⟩:=h.crefs r b hr;by_cases d:b=s
      · subst d;rw[o];exact n cs p
      · by_cases f:b=q
        · subst f;rw[W]at p;cases p
        · rw[L b d f];exact⟨cs,p⟩
    nodup:=λr=>by
      by_cases d:r=s
      · subst d;rw[l];exact Z
      · by_cases f:r=q
        · subst f;rw[m];exact n2
        · rw[F r d f];exact h.nodup r
    apart:=λr t u g j k=>by
      by_cases d:(r=s∨r=q)
      · by_cases f:(t=s∨t=q)
        · rcases d with rfl|rfl<;>rcases f with rfl|rfl
          · exact u rfl
          · rw[l]at j;rw[m]at k;exact U g j g k rfl
          · rw[m]at j;rw[l]at k;exact U g k g j rfl
          · exact u rfl
        · have H:t≠s:=λe=>f (.inl e)
          have I:t≠q:=λe=>f<|.inr e
          rw[F t H I]at k;rcases A r g j with i|⟨_,i⟩
          · exact h.apart r t u g i k
          · rcases i with i|i
            · exact h.apart s t (Ne.symm H) g i k
            · exact h.apart q t (Ne.symm I) g i k
      · have J:r≠s:=λe=>d (.inl e)
        have K:r≠q:=λe=>d<|.inr e
        rw[F r J K]at j;rcases A t g k with i|⟨_,i⟩
        · exact h.apart r t u g j i
        · rcases i with i|i
          · exact h.apart r s J g j i
          · exact h.apart r q K g j i
    hapart:=λr g j=>by simp
    range:=λr g j=>by
      rcases A r g j with i|⟨_,i|i⟩
      · exact h.range r g i
      · exact h.range s g i
      · exact h.range q g i}
variable {Q:Exit->PS->Prop}{α:Type}{f:α->List V}
def iz{x s q l c c'}(k:σ s=c)(n:σ q=.undef)(b:s≠q)(S:ji P f c l 0 c')(o:∀U,(C6<|c' U).isSome=(C6 c).isSome)(d:∀U,D3 (c' U)=none)
    (h:∀(U:Nat->Value) (us:List Value),us.length=l.length->(∀i,i < l.length->U i=us.getD i undef)->LS P nt bx x (upd (upd σ s<|c' U) q<|.gh us<|l.map λx=>Fd<|f x) Q):LS P nt bx x σ Q:=by
  intro p r e t base St0 w0 a w u;have⟨St,B,j,v,y,z⟩:=u;have m:=j.slot s;rw[k]at m;have⟨us,b1,b2,A,C,D,F,H⟩:=S w St (tm a) (tm a s) (B s) m<|j.nodup s;have I:∀i,i < l.length->(λi=>us.getD i undef) (0+i)=us.getD i undef:=λi _=>by simp
  refine h (λi=>us.getD i undef) us A (λi _=>rfl) p r e t base St0 w0 a w ⟨St,_,MB j b (by rw[n];rfl) (H (λi=>us.getD i undef) I) (show Cr P w St (tm a) (.gh us _) _ b2 from C) D (λg J=>.inl<|F g J) (by rw[k];exact o _) (d _) rfl rfl,v,y,z⟩
def sD{x s1 s2 g1 g2 l1 l2 c1 c2 c1' c2'}(d:σ s1=c1)(e:σ s2=c2)(m:σ g1=.undef)(n:σ g2=.undef)(o:s1≠s2∧s1≠g1∧s1≠g2∧s2≠g1∧s2≠g2∧g1≠g2)(C:ji P f c1 l1 0 c1')(D:ji P f c2 l2 l1.length c2')
    (p:∀U,(C6<|c1' U).isSome=(C6 c1).isSome) (j:∀U,D3 (c1' U)=none) (q:∀U,(C6<|c2' U).isSome=(C6 c2).isSome) (k:∀U,D3 (c2' U)=none)
    (h:∀(U:Nat->Value) (b c:List Value),b.length=l1.length->c.length=l2.length->(∀i,i < (l1++l2).length->U i=(b++c).getD i undef)->LS P nt bx x (upd (upd (upd (upd σ s1<|c1' U) g1<|.gh b<|l1.map λx=>Fd<|f x) s2<|c2' U) g2<|.gh c<|l2.map λx=>Fd<|f x) Q):LS P nt bx x σ Q:=by
  have⟨u,F,H,v,I,J⟩:=o;intro K L r M base St0 w0 a w N;have⟨St,B,l,O,R,S⟩:=N;have y:=l.slot s1;rw[d]at y;have z:=l.slot s2;rw[e]at z;have⟨b,b1,b2,A,T,W,X,Y⟩:=C w St (tm a) (tm a s1) (B s1) y<|l.nodup s1;have⟨c,b3,Z,p1,p2,p3,p4,p5⟩:=D w St (tm a) (tm a s2) (B s2) z<|l.nodup s2
  have s:∀i,i < l1.length->(λi=>(b++c).getD i undef) (0+i)=b.getD i undef:=λi hi=>by
    have:i < b.length:=by omega
    simp[BZ this]
  have hU2:∀i,i < l2.length->(λi=>(b++c).getD i undef) (l1.length+i)=c.getD i undef:=λi hi=>by simp only[AO];rw[BT (by omega),A,CU]
  have m1:=MB l F (by rw[m];rfl) (Y (λi=>(b++c).getD i undef) s) (show Cr P w St (tm a) (.gh b<|l1.map λx=>Fd<|f x) _ b2 from T) W (λg t=>.inl<|X g t) (by rw[d];exact p _) (j _) rfl rfl;have e1:upd (upd σ s1<|c1' λi=>(b++c).getD i undef) g1 (.gh b<|l1.map λx=>Fd<|f x) s2=c2:=by rw[upd_ne _ _ v,upd_ne _ _ (Ne.symm u),e]
  have e2:upd (upd σ s1<|c1' λi=>(b++c).getD i undef) g1 (.gh b<|l1.map λx=>Fd<|f x) g2=.undef:=by rw[upd_ne _ _ (Ne.symm J),upd_ne _ _ (Ne.symm H),n]
  have e3:upd (upd B s1 b1) g1 b2 s2=B s2:=by rw[upd_ne _ _ v,upd_ne _ _ (Ne.symm u)]
  have m2:=MB m1 I (by rw[e2];rfl) (p5 (λi=>(b++c).getD i undef) hU2) (show Cr P w St (tm a) (.gh c<|l2.map λx=>Fd<|f x) _ Z from p2) p3 (λg t=>.inl<|by rw[e3];exact p4 g t) (by rw[e1];exact q _) (k _) rfl rfl;exact h (λi=>(b++c).getD i undef) b c A p1 (λi _=>rfl) K L r M base St0 w0 a w ⟨St,_,m2,O,R,S⟩
def vP{x g1 g2 us1 us2 cs1 cs2}(i:σ g1=.gh us1 cs1)(j:σ g2=.gh us2 cs2)(d:g1≠g2)(h:LS P nt bx x (upd (upd σ g1<|.gh (us1++us2)<|cs1++cs2) g2 .undef) Q):LS P nt bx x σ Q:=by
  intro n o g p base St0 w0 a w q;have⟨St,B,c,r,s,t⟩:=q;have k:=c.slot g1;rw[i]at k;have l:=c.slot g2;rw[j]at l;refine h n o g p base St0 w0 a w ⟨St,_,MB c d (by rw[j];rfl) (show Cr P w St (tm a) (.gh (us1++us2)<|cs1++cs2) _ (B g1++B g2)from Bn.join k l) (show Cr P w St (tm a) .undef _ []from rfl) ?_ (λg m=>?_) (by rw[i];rfl) rfl rfl rfl,r,s,t⟩
  · rw[AR];exact AA.2 ⟨c.nodup g1,c.nodup g2,λa u b v e=>by subst e;exact c.apart g1 g2 d a u v⟩
  · rw[AR]at m;exact Ak.1 m
def vN[BEq α]{x:LC}{s q:Nat}{l:List α}{us:List Value}{U:Nat->Value}{L:List (Nat×α ⊕ α)}{c c':V}{cs:List V}(o:σ s=c)(p:σ q=.gh us cs)(k:cs=l.map λx=>Fd<|f x)(d:s≠q)(J:AaS P f U c L c')(u:∀i,i < l.length->U i=us.getD i undef)(m:okJ l L []=true)
    (v:(C6 c').isSome=(C6 c).isSome) (n:D3 c'=none) (h:LS P nt bx x (upd (upd σ s c') q .undef) Q):LS P nt bx x σ Q:=by
  intro y z e A base St0 w0 a w C;have⟨St,B,b,D,F,H⟩:=C;have r:=b.slot s;rw[o]at r;have t:=b.slot q;rw[p,k]at t;have⟨b',I,K,M⟩:=J w St (tm a) (tm a s) (B s) l us (B q) r t (b.nodup q) u m (b.nodup s)<|λg j=>b.apart s q d g j
  exact h y z e A base St0 w0 a w ⟨St,_,MB b d (by rw[p];rfl) I (show Cr P w St (tm a) .undef _ []from rfl) (by rw[AR];exact K) (λg j=>by rw[AR]at j;exact M g j) (by rw[o];exact v) n rfl rfl,D,F,H⟩
end
end
section
def Gh(P:Program)(nt:Nat)(bx:zN)(σ:PS)(K:PS->Prop):Prop:=∀base St0 b a w,Rel P nt bx base St0 b σ a w->∃σ',K σ'∧Rel P nt bx base St0 b σ' a w
def ghQ(P:Program)(nt:Nat)(bx:zN)(Q:Exit->PS->Prop):Exit->PS->Prop
  |.normal,σ=>Gh P nt bx σ<|Q .normal
  |e,σ=>Q e σ
section
variable {P:Program}{nt:Nat}{bx:zN}{σ:PS}{K:PS->Prop}{Q:Exit->PS->Prop}{x:LC}
def O5(h:K σ):Gh P nt bx σ K:=λ_ _ _ _ _ a=>⟨σ,h,a⟩
def VR(h:LS P nt bx x σ (ghQ P nt bx Q)):LS P nt bx x σ Q:=by
  intro c i b j base St0 d a w k;refine FF (h c i b j base St0 d a w k) ?_;rintro e a' w' ⟨σ',f,g⟩;cases e with
  |normal=>exact f base St0 d a' w' g
  |_=>exact⟨σ',f,g⟩
def JF(h:Gh P nt bx σ (λσ'=>LS P nt bx x σ' Q)):LS P nt bx x σ Q:=by intro c e b f base St0 d a w g;have⟨σ',i,j⟩:=h base St0 d a w g;exact i c e b f base St0 d a w j
def AaT(P:Program)(c:V)(e:TypeId)(n:Nat)(cs:List V)(c':Value->V):Prop:=
  ∀w a (t:Nat->Value) v bs,Cr P w a t c v bs->bs.Nodup->∃u b1 b2,Ow P w a (.own e n cs) u b2∧(b1++b2).Nodup∧(∀g∈b1++b2,g∈bs)∧Cr P w a t (c' u) v b1
def ws{w St e n cs u b}(h:Ow P w St (.own e n cs) u b):Ow P w St (.tok u) u []:=⟨rfl,rfl,(Ow.rd (.own e n cs) h rfl).oneCell⟩
def s5{w St e n cs u b}(h:Ow P w St (.own e n cs) u b)(j:0 < n):∃g m,u=.slice (some ⟨g,0,none⟩) n m:=by
  have⟨_,xs,d,a,_⟩:=h;rcases a.2 with⟨_,k⟩|⟨g,c,f,i,_⟩
  · omega
  · exact⟨g,c,i⟩
def vE{e n cs}:AaT P (.own e n cs) e n cs .tok:=λw a t v bs h b=>⟨v,[],bs,h,by simpa using b,λg c=>by simpa using c,(ws<|show Ow P w a (.own e n cs) v bs from h).slot⟩
def yA{s q c e n cs c'}(j:σ s=c)(o:σ q=.undef)(b:s≠q)(L:AaT P c e n cs c')(p:0 < n)(r:∀u,(C6<|c' u).isSome=(C6 c).isSome)(d:∀u,D3 (c' u)=none)
    (h:∀g m,Gh P nt bx (upd (upd σ s<|c'<|.slice (some ⟨g,0,none⟩) n m) q<|.gh [.slice (some ⟨g,0,none⟩) n m] [.own e n cs]) K):Gh P nt bx σ K:=by
  rintro base St0 t a w ⟨f,B,i,v,y,z⟩;have k:=i.slot s;rw[j]at k;have⟨u,b1,b2,l,A,C,D⟩:=L w f (tm a) (tm a s) (B s) k<|i.nodup s;obtain⟨g,m,rfl⟩:=s5 l p;exact h g m base St0 t a w ⟨f,_,MB i b (by rw[o];rfl) D (show Cr P w f (tm a) (.gh [_] [_]) _ b2 from⟨_,[],b2,[],rfl,by simp,rfl,l,rfl,rfl⟩) A (λg F=>.inl<|C g F) (by rw[j];exact r _) (d _) rfl rfl,v,y,z⟩
def AaR(P:Program)(c':V)(u:Value)(e:TypeId)(n:Nat)(cs:List V)(c:V):Prop:=
  ∀w a (t:Nat->Value) v b1 b2,Cr P w a t c' v b1->Ow P w a (.own e n cs) u b2->(b1++b2).Nodup->∃bs,bs.Nodup∧(∀g∈bs,g∈b1++b2)∧Cr P w a t c v bs
def uA{u e n cs}:AaR P (.tok u) u e n cs (.own e n cs):=by intro w g t v b1 b2 a b c;have d:v=u:=a.2.1;subst d;exact⟨b2,(AA.1 c).2.1,λg f=>Az _ f,b⟩
def yz{s q u e n cs c c'}(r:σ s=c')(t:σ q=.gh [u] [.own e n cs])(d:s≠q)(D:AaR P c' u e n cs c)(F:(C6 c).isSome=(C6 c').isSome)(j:D3 c=none)
    (h:Gh P nt bx (upd (upd σ s c) q .undef) K):Gh P nt bx σ K:=by
  rintro base St0 H a w ⟨k,B,b,I,J,L⟩;have v:=b.slot s;rw[r]at v;have z:=b.slot q;rw[t]at z;have⟨U,M,b1,b2,A,i,_,l,f⟩:=z;simp only[Ds]at A;obtain⟨rfl,rfl⟩:=A;have m:b2=[]:=f.2;subst m;rw[AR]at i;have o:(B s++b1).Nodup:=AA.2 ⟨b.nodup s,by have:=b.nodup q;rwa [i]at this,λx N y O e=>by subst e;exact b.apart s q d x N<|by rw[i];exact O⟩;have⟨bs,R,S,T⟩:=D w k (tm a) (tm a s) (B s) b1 v l o
  exact h base St0 H a w ⟨k,_,MB b d (by rw[t];rfl) T (show Cr P w k (tm a) .undef _ []from rfl) (by simpa using R) (λg C=>by
    rw[AR]at C;rcases Ak.1 (S g C)with p|p
    · exact .inl p
    · exact .inr (by rw[i];exact p)) (by rw[r];exact F) j rfl rfl,I,J,L⟩
variable {α:Type}{f:α->List V}
end
end
section
mutual
def Px:V->V
  |.dat n cs=>.arg n<|Mm cs
  |.agg cs=>.agg<|Mm cs
  |.int k n=>.int k n
  |.bool b=>.bool b
  |.str s=>.str s
  |.fn f=>.fn f
  |_=>.undef
def Mm:List V->List V
  |[]=>[]
  |c::cs=>Px c::Mm cs
end
mutual
def WZ:V->Bool
  |.dat _ cs=>EG cs
  |.int _ _=>true
  |.bool _=>true
  |.str _=>true
  |.fn _=>true
  |_=>false
def EG:List V->Bool
  |[]=>true
  |c::cs=>WZ c&&EG cs
end
def Ml:V->Bool
  |.agg cs=>EG cs
  |c=>WZ c
section
variable {P:Program}{w:World}{St:Nat->Nat->Prop}{N:Nat->Prop}
def rR{cs}:Mm cs≠[]->cs≠[]:=λh e=>h (by subst e;rfl)
mutual
def Rd.Nd(hst:∀b o,St b o->N b):∀(c:V) {v:Value},WZ c=true->Rd w St c v->Rd w (λb o=>St b o∨N b) (Px c) v
  |.int _ _,_,_,h=>h
  |.bool _,_,_,h=>h
  |.str _,_,_,h=>h
  |.fn _,_,_,h=>h
  |.dat _ cs,_,ha,⟨hn,A,c,e,hc,h,h0⟩=>⟨hn,A,c,e,hc,λhp=>let⟨b,off,ea,hr⟩:=h hp;⟨b,off,ea,λhne o=>.inr<|Dp.blk hst b off cs (rR hne) hr,Dp.Nd hst b off cs ha hr⟩,λhz=>by rw[h0 hz];rfl⟩
  |.own _ _ _,_,ha,_=>by cases ha
  |.pin _ _ _,_,ha,_=>by cases ha
  |.arg _ _,_,ha,_=>by cases ha
  |.agg _,_,ha,_=>by cases ha
  |.tup _,_,ha,_=>by cases ha
  |.box _,_,ha,_=>by cases ha
  |.uni _ _ _,_,ha,_=>by cases ha
  |.same _,_,ha,_=>by cases ha
  |.val _ _,_,ha,_=>by cases ha
  |.cref _ _,_,ha,_=>by cases ha
  |.adr _ _,_,ha,_=>by cases ha
  |.gh _ _,_,ha,_=>by cases ha
  |.tok _,_,ha,_=>by cases ha
  |.undef,_,ha,_=>by cases ha
def Dp.Nd(a:∀b o,St b o->N b)(b:Nat):∀(off:Nat) (cs:List V),EG cs=true->Dp w St b off cs->Dp w (λb o=>St b o∨N b) b off (Mm cs)
  |_,[],_,_=>trivial
  |off,c::cs,d,⟨⟨e,u,f,g⟩,h⟩=>by rw[EG,Aa]at d;exact⟨⟨.inl e,u,f,Rd.Nd a c d.1 g⟩,Dp.Nd a b (off+1) cs d.2 h⟩
def Dp.blk(a:∀b o,St b o->N b)(b:Nat):∀(off:Nat) (cs:List V),cs≠[]->Dp w St b off cs->N b
  |_,[],h,_=>absurd rfl h
  |off,_::_,_,⟨⟨c,_⟩,_⟩=>a b off c
end
def Pz.Nd(a:∀b o,St b o->N b):∀(cs:List V) {us:List Value},EG cs=true->Pz w St cs us->Pz w (λb o=>St b o∨N b) (Mm cs) us
  |[],_,_,h=>h
  |c::cs,_,d,⟨u,f,e,g,i⟩=>by rw[EG,Aa]at d;exact⟨u,f,e,Rd.Nd a c d.1 g,Pz.Nd a cs d.2 i⟩
def fZ.Nd(a:∀b o,St b o->N b){c:V}{v:Value}(d:Ml c=true)(h:fZ w St c v):fZ w (λb o=>St b o∨N b) (Px c) v:=by
  cases c<;>first|exact Rd.Nd a _ d h|(cases d;done)|skip
  have⟨us,e,h⟩:=h;exact⟨us,e,Pz.Nd a _ d h⟩
def QQ.Nd(d:∀b o,St b o->N b):∀{a:List V}{vs:List Value},a.all Ml=true->QQ w St a vs->QQ w (λb o=>St b o∨N b) (a.map Px) vs
  |[],_,_,h=>h
  |c::a,_,f,⟨u,g,e,i,j⟩=>by simp only[By,Aa]at f;exact⟨u,g,e,fZ.Nd d f.1 i,QQ.Nd d f.2 j⟩
end
def c7{c}(h:WZ c=true):Pj (Px c)=true:=by cases c<;>first|rfl|cases h
def c8:∀{cs:List V},EG cs=true->(Mm cs).all Pj=true
  |[],_=>rfl
  |c::cs,h=>by rw[EG,Aa]at h;rw[Mm,By,c7 h.1,c8 h.2];rfl
def c6{c}(h:Ml c=true):Te (Px c)=true:=by
  cases c<;>first|exact c7 h|(cases h;done)|skip
  exact c8<|show EG _=true from h
def pZ:V->Bool
  |.tup cs=>Cw cs
  |c=>deep c
section
variable {P:Program}{w w':World}{St St':Nat->Nat->Prop}
def LK.kept:∀(cs:List V) {us:List Value}{bs:zN},Cw cs=true->LK P w St cs us bs->(∀g∈bs,w'.heap[g]? =w.heap[g]? ∧∀o,St' g o↔St g o)->LK P w' St' cs us bs
  |[],_,_,_,h,_=>h
  |c::cs,_,_,i,⟨u,b,b1,b2,j,d,k,l⟩,f=>by
    have a:deep c=true∧Cw cs=true:=by simpa[Cw]using i
    exact⟨u,b,b1,b2,j,d,Ow.kept c a.1 k<|λg e=>f g<|by rw[d];exact AF _ e,LK.kept cs a.2 l<|λg e=>f g<|by rw[d];exact Az _ e⟩
def oo{c v bs}(a:pZ c=true)(h:Ow P w St c v bs)(b:∀g∈bs,w'.heap[g]? =w.heap[g]? ∧∀o,St' g o↔St g o):Ow P w' St' c v bs:=by
  cases c<;>first|exact Ow.kept _ a h b|skip
  have⟨us,e,h⟩:=h;exact⟨us,e,LK.kept _ a h b⟩
end
section
variable {P:Program}{tb:Tb}
def tn(htb:Jr P tb){f:FuncId}{fn:Func}{c:Code}{args:List V}{r:V}(hf:P.funcs[f]? =some fn)(hb:fn.body=some c)(hname:(fn.name== "runtime.NumGoroutine")=false)(bx:zN)(hlen:args.length<=fn.ntmps)(hargs:args.all Ml=true)(hr:pZ r=true)
    (hn:(fn.results.toList.map Qj).Nodup) (h:Oy P fn.ntmps bx c (IW<|args.map Px) (λe σ=>(e=.ret∨e=.normal)∧fo tb σ fn.results.toList=some r)):LQ P f args r:=by
  refine⟨⟨fn,hf,by rw[hb];rfl,hname⟩,λw St vs hst hgl hvs=>?_⟩;have hvs':=QQ.Nd hst hargs hvs;have hst':∀b o,(St b o∨b < w.heap.size)->b < w.heap.size:=λb o h=>h.elim (hst b o) id
  have hpl:(args.map Px).all Te=true:=by rw[Lx,Am];exactλx hx=>c6<|Am.1 hargs x hx
  have⟨hl,hat⟩:=args_at hvs';refine Lt hf hb ?_;have hrel:=iW (P:=P) (bx:=bx) hst' (hgl.of (λb hb o=>.inl<|hb o)<|λ_ _ _=>rfl) hvs' (by simpa using hlen) hpl;refine FF (h _ _ _ _ _ hrel) ?_;rintro e a' w' ⟨σ',⟨he,hres⟩,St1,B',h1,h2,h3,h4⟩
  have hfin:a'.defers=[]∧∃v,(results fn a'.tmps).run P w'=.ok v w'∧Ret P w St r (.returned v) w':=by
    have⟨v,bs,q1,q2,q3,q4⟩:=ri htb h1 hn hres;have hge:∀g∈bs,w.heap.size<=g:=λg hg=>Pg (q4 g hg).1
    refine⟨h1.defers,v,q1,v,bs,λb o=>(b < w.heap.size∧St b o)∨(w.heap.size<=b∧St1 b o),rfl,⟨h2.os,h2.tape,h2.output,h2.size,h2.block⟩,λb o hlt=>⟨λhh=>hh.elim (·.2)<|λhh=>absurd hh.1<|by omega,λhh=>.inl ⟨hlt,hh⟩⟩,λb o hh=>?_,?_,q3,λg hg=>⟨hge g hg,(q4 g hg).2⟩⟩
    · rcases hh with hh|hh
      · exact Bz hh.1 h2.size
      · exact h1.st b o hh.2
    · exact oo hr q2<|λg hg=>⟨rfl,λo=>⟨λhh=>hh.elim (λhh=>absurd hh.1 (by have:=hge g hg;omega)) (·.2),λhh=>.inr ⟨hge g hg,hh⟩⟩⟩
  rcases he with rfl|rfl
  · exact hfin
  · exact hfin
end
def sfY:PL->Prop
  |[]=>True
  |(_,c)::L=>KT c=true∧sfY L
def yn:sfY []:=trivial
def yc{q c L}(h:KT c=true)(k:sfY L):sfY ((q,c)::L):=⟨h,k⟩
def kN:∀{L:PL},sfY L->∀q,KT (CP L q)=true
  |[],_,q=>rfl
  |(r,c)::L,⟨a,b⟩,q=>by
    by_cases e:q=r
    · subst e;rw[show CP ((q,c)::L) q=c from by simp[CP,upd_same]];exact a
    · rw[show CP ((r,c)::L) q=CP L q from by simp[CP,upd_ne _ _ e]];exact kN b q
def Xf:∀{L:PL}{q:Nat},q∉L.map (·.1)->CP L q=.undef
  |[],_,_=>rfl
  |(s,c)::L,q,h=>by rw[AM,AE,not_or]at h;rw[EI,upd_ne _ _ h.1];exact Xf h.2
def UK{L}:∀{ss:zN}{L':PL},ir L ss=some L'->(∀q,q∈ss->lk L q=some (CP L' q))∧(∀q,q∉ss->CP L' q=.undef)∧L'.map (·.1)=ss
  |[],_,h=>by cases h;exact⟨λq a=>by simp at a,λ_ _=>rfl,rfl⟩
  |s::ss,_,h=>by
    rw[ir]at h;have⟨c,b,h⟩:=Be h;have⟨j,d,h⟩:=Be h;cases h;have⟨f,g,i⟩:=UK d;refine⟨λq a=>?_,λq a=>?_,by rw[AM,i]⟩
    · by_cases e:q=s
      · subst e;rw[EI,upd_same];exact b
      · rw[EI,upd_ne _ _ e];exact f q<|(AE.1 a).resolve_left e
    · rw[AE,not_or]at a;rw[EI,upd_ne _ _ a.1];exact g q a.2
def TA(L:PL)(S:zN):zN:=(L.map (·.1)).filter λq=> !S.contains q
def N0{L S q}:(TA L S).contains q=true↔q∈L.map (·.1)∧q∉S:=by unfold TA;rw[Av,Bj,AH,<-Gm,Av]
def aE{L L1 S g q}(h:Y3 L S=some L1)(f:q≠g):kill (TA L<|g::S) (CP L) q=CP L1 q:=by
  have⟨L',i,h⟩:=Be h;have⟨j,h⟩:=DU h;cases h;have⟨k,l,m⟩:=UK i;by_cases a:q∈S
  · have n:=Dx (k q a);have o:¬(TA L<|g::S).contains q=true:=λh=>(N0.1 h).2<|A3 _ a
    unfold kill;rw[Ay o,n];cases r:D3 (CP L1 q)with
    |none=>rfl
    |some b=>
      have s:b∈S:=by have⟨p,t,c⟩:=kl r;have:=Am.1 j p t;rw[c,m]at this;exact Av.1 this
      have d:¬(TA L<|g::S).contains b=true:=λh=>(N0.1 h).2<|A3 _ s
      simp only[Ay d]
  · rw[l q a];by_cases e:q∈L.map (·.1)
    · exact Vk<|N0.2 ⟨e,λh=>(AE.1 h).elim f a⟩
    · unfold kill;rw[Xf e];split<;>rfl
def z8{α:Type}{f es}(z:∀x,(f x).length=es){l:List α}{i:Int}{y:α}(e:AN l i=some y){o:Nat}{vs:List V}(p:o+vs.length<=es){x':α}(g:Rf (f y) o vs=f x'):Rf (l.flatMap f) (i.toNat * es+o) vs=(En l i x').flatMap f:=by
  have⟨g1,g2,h⟩:=BE e;have b:i.toNat < l.length:=by omega
  unfold En;rw[<-iX z b x',<-g];unfold Rf;have c:(l.flatMap f).drop (i.toNat * es)=f y++(l.flatMap f).drop ((i.toNat+1) * es):=by rw[Pq z,Pq z];have⟨a,j⟩:=Dg.1 h;rw[BB a,j,Ax]
  have k:((f y).take o++vs++(f y).drop (o+vs.length)).length=es:=by have:=z y;simp only[Au,At,Bx];omega
  rw[k]
  have m:(l.flatMap f).take (i.toNat * es+o)=(l.flatMap f).take (i.toNat * es)++(f y).take o:=by
    have d:i.toNat * es<=(l.flatMap f).length:=by rw[Bl z];exact Cy _<|B4 b
    rw[List.take_add,c,Hl (by rw[z y];omega)]
  have n:(l.flatMap f).drop (i.toNat * es+o+vs.length)=(f y).drop (o+vs.length)++(l.flatMap f).drop (i.toNat * es+es):=by rw[DI,<-Gx,c,DA (by rw[z y];omega),DY,FD]
  rw[m,n];simp only[Bk]
def get_at{α:Type}{f es}(z:∀x,(f x).length=es){l:List α}{i:Int}{y:α}(e:AN l i=some y){o:Nat}{dd:TyD}(b:o+dd.size<=es)(m:0 < dd.size):getCells dd (l.flatMap f) (i.toNat * es+o)=getCells dd (f y) o∧i.toNat * es+o+dd.size<=(l.flatMap f).length:=by
  have⟨g1,g2,g⟩:=BE e;have c:i.toNat < l.length:=by omega
  have d:(l.flatMap f).drop (i.toNat * es)=f y++(l.flatMap f).drop ((i.toNat+1) * es):=by rw[Pq z,Pq z];have⟨a,h⟩:=Dg.1 g;rw[BB a,h,Ax]
  have p:=z y;refine⟨?_,?_⟩
  · have j:∀k,k < es->(l.flatMap f)[i.toNat * es+k]? =(f y)[k]?:=λk c=>by rw[<-Do,d,BZ (by omega)]
    cases dd with
    |st n q r=>simp only[getCells,TyD.size]at b⊢;rw[<-Gx,d,DA (by omega),Hl (by rw[Bx];omega)]
    |_=>simp only[getCells,TyD.size]at b⊢;rw[j o (by omega)]
  · rw[Bl z];have:(i.toNat+1) * es<=l.length * es:=Cy _ c;rw[DY,FD]at this;omega
def sl{α:Type}{n:Nat}{l:List α}{i:Int}{x:α}(h:n=l.length):n=(En l i x).length:=by unfold En;rw[Ch];exact h
section
variable {P:Program}{tb:Tb}{cns:zN}{L:PL}{K:PS->Prop}{s t:Nat}{x y:Operand}{nt:Nat}{bx:zN}
def Yt{d:Nat}{α:Type}{l:List α}{y0:α}{g n m es f:Nat}{i:Int}{h:IntKind}{e:TypeId}{j:List V}(a:TZ L x=some (.tok<|.slice (some ⟨g,0,none⟩) n m))(b:TZ L y=some (.int h i))(c:tb s=some (.sl e es f j))(o:n=l.length)(p:AN l i=some y0)
    (k:K (CP<|(d,.tok<|.pointer<|some ⟨g,i.toNat * es,none⟩)::L)):Jm P tb cns ⟨some d,.indexAddr s x y,t,none⟩ (CP L) K:=by
  obtain⟨g1,g2,q⟩:=BE p;subst o;refine⟨?_,?_⟩
  · simp only[pc,oM,c,dY,EN a,EN b,R6,rE];exact⟨g1,g2⟩
  · simp only[pv,oN,c,iaS,EN a,EN b,R6,AaF];exact k
def qLe{q d:Nat}{α:Type}{f:α->List V}{l:List α}{y0:α}{i:Int}{g off m n es:Nat}{e:TypeId}{v:V}{dd:TyD}(o:Nat)(b:(Nat.beq q gS || Nat.beq q gU)=true)(c:cns.contains d=true)(h:adO L x=some (.tok<|.pointer<|some ⟨g,off,none⟩))(j:off=i.toNat * es+o)(p:tb s=some dd)
    (r:lk L q=some (.gh [.slice (some ⟨g,0,none⟩) n m] [.own e n (l.flatMap f)])) (z:∀x,(f x).length=es) (u:AN l i=some y0) (a:(Nat.ble (o+dd.size) es&&Nat.ble 1 dd.size)=true) (w:ak (getCells dd (f y0) o)=some v) (k:K (CP<|(d,v)::L)):
    Jm P tb cns ⟨some d,.load s x,t,none⟩ (CP L) K:=by
  subst j;rw[Aa]at a;obtain⟨A,B⟩:=get_at (dd:=dd) z u (nb a.1)<|nb a.2;simp only[Jm,c,Fl,bA,p,U0 h];refine⟨trivial,q,g,_,e,n,m,_,rfl,(Bool.or_eq_true_iff.1 b).imp C0 C0,Dx r,B,nb a.2,?_⟩;rw[A,<-IJ w];exact k
def Ak6{α:Type}{f l y0 i g off m n es e c dd L0 L1 vc}(o:Nat)(x':α)(S:zN)(O:adO L x=some (.tok<|.pointer<|some ⟨g,off,none⟩))(Q:off=i.toNat * es+o)(R:tb s=some dd)
    (T:lk L gS=some (.gh [.slice (some ⟨g,0,none⟩) n m] [.own e n (l.flatMap f)])) (C:TZ L y=some c) (D:(!(yT y).contains gS&& !S.contains gS)=true) (d:Af7 (CP L) y vc) (j:(Nat.beq vc.length dd.size&&Nat.ble (o+dd.size) es)=true) (p:VV L y c=some L0) (r:Y3 L0 S=some L1)
    (u:Rf (f y0) o vc=f x') (z:∀x,(f x).length=es) (F:AN l i=some y0) (U:∀x,EF (f x)=true) (v:EF vc=true) (H:sfY L1) (k:K (CP<|(gS,.gh [.slice (some ⟨g,0,none⟩) n m] [.own e n ((En l i x').flatMap f)])::L1)):
    Jm P tb cns ⟨none,.store s x y,t,none⟩ (CP L) K:=by
  simp only[Aa,AH]at D j;subst Q;have e1:=EN C;have b:vc.length=dd.size:=C0 j.1;have w:=nb j.2;have I:CP L0=C5 (CP L) y:=OJ C p;have⟨g1,g2,g3⟩:=BE F;have A:i.toNat * es+o+dd.size<=(l.flatMap f).length:=by rw[Bl z];have:(i.toNat+1) * es<=l.length * es:=Cy _ (by omega);rw[DY,FD]at this;omega
  refine⟨rfl,?_⟩;simp only[kT,R,U0 O];refine⟨g,_,e,n,m,_,TA L0<|gS::S,vc,rfl,Dx T,?_,d,v,b,A,?_,λq a=>?_,?_⟩
  · exact sdF U l
  · rw[D.1,C3];cases W:(TA L0<|gS::S).contains gS with
    |false=>rfl
    |true=>exact absurd BH (N0.1 W).2
  · rw[<-I];by_cases J:(TA L0<|gS::S).contains q=true
    · exact .inl J
    · right;have X:=aE r a;rcases TQ (TA L0<|gS::S) (CP L0) q with M|M
      · by_cases N:q∈L0.map (·.1)
        · have Y:q∈S:=BO λh=>J (N0.2 ⟨N,λh'=>(AE.1 h').elim a h⟩)
          have⟨L',Z,B⟩:=Be r;have⟨_,B⟩:=DU B;cases B;rw[Dx ((UK Z).1 q Y)];exact kN H q
        · rw[Xf N];rfl
      · rw[<-M,X];exact kN H q
  · rw[<-I,z8 z F (by rw[b];exact w) u]
    have e4:upd (kill (TA L0<|gS::S)<|CP L0) gS (.gh [.slice (some ⟨g,0,none⟩) n m] [.own e n ((En l i x').flatMap f)])=CP ((gS,.gh [.slice (some ⟨g,0,none⟩) n m] [.own e n ((En l i x').flatMap f)])::L1):=by
      rw[EI];funext q;by_cases a:q=gS
      · subst a;rw[upd_same,upd_same]
      · rw[upd_ne _ _ a,upd_ne _ _ a];exact aE r a
    rw[e4];exact k
def qSt{α:Type}{f l y0 i g off m n es e c dd L0 L1}(o:Nat)(x':α)(S:zN)(p:adO L x=some (.tok<|.pointer<|some ⟨g,off,none⟩))(q:off=i.toNat * es+o)(r:tb s=some dd)
    (u:lk L gS=some (.gh [.slice (some ⟨g,0,none⟩) n m] [.own e n (l.flatMap f)])) (a:TZ L y=some c) (b:(c.isArg&&(!(yT y).contains gS&& !S.contains gS))=true) (v:(Nat.beq (IH c).length dd.size&&Nat.ble (o+dd.size) es)=true) (d:VV L y c=some L0) (w:Y3 L0 S=some L1)
    (h:Rf (f y0) o (IH c)=f x') (z:∀x,(f x).length=es) (A:AN l i=some y0) (B:∀x,EF (f x)=true) (j:EF (IH c)=true) (C:sfY L1) (k:K (CP<|(gS,.gh [.slice (some ⟨g,0,none⟩) n m] [.own e n ((En l i x').flatMap f)])::L1)):
    Jm P tb cns ⟨none,.store s x y,t,none⟩ (CP L) K:=by
  rw[Aa]at b;exact Ak6 o x' S p q r u a b.2 (.inl ⟨by rw[EN a];exact b.1,by rw[EN a]⟩) v d w h z A B j C k
section
variable {α:Type}{f:α->List V}{l:List α}{e:TypeId}
def gLs{q b}(c:lk L b=some (.own e l.length<|l.flatMap f))(d:lk L q=none)(a:Nat.beq b q=false)(i:0 < l.length)
    (h:∀g m,K<|CP<|(q,.gh [.slice (some ⟨g,0,none⟩) l.length m] [.own e l.length (l.flatMap f)])::(b,.tok<|.slice (some ⟨g,0,none⟩) l.length m)::L):Gh P nt bx (CP L) K:=
  yA (Dx c) (by rw[S4,d];rfl) (λe=>by rw[e]at a;simp at a) vE i (λ_=>rfl) (λ_=>rfl) λg m=>O5<|h g m
def gDs{q b n u}(c:lk L b=some (.tok u))(d:lk L q=some (.gh [u] [.own e n (l.flatMap f)]))(a:Nat.beq b q=false)(g:n=l.length)
    (h:K (CP<|(q,.undef)::(b,.own e l.length<|l.flatMap f)::L)):Gh P nt bx (CP L) K:=by
  subst g;exact yz (Dx c) (Dx d) (λe=>by rw[e]at a;simp at a) uA rfl rfl<|O5 h
variable {β:Type}{f2:β->List V}{l2:List β}{e2:TypeId}{n:Nat}{u1:Value}{y0:α}{i:Int}{es:Nat}
end
def Ajo(S:zN):Operand->Bool
  |.tmp p=>S.contains p
  |.const (.int _ _)=>true
  |.const (.bool _)=>true
  |.const (.string _)=>true
  |_=>false
def pp(e:Jr P tb){f:FuncId}{nt:Nat}{bx:zN}{rs:List ResultVar}{l:LC}{a:List V}{r:V}(g:Lit P f nt bx rs l)(d:a.length<=nt)(b:a.all Ml=true)(i:pZ r=true)(h:LS P nt bx l (IW<|a.map Px) (wM tb rs r)):LQ P f a r:=by obtain⟨⟨u,c,j,k,m,rfl,rfl,n,o⟩,p,q⟩:=g;exact tn e j k m bx d b i p<|h c n o q
end
def Yf:Cw []=true:=rfl
def NM{c:V}{cs}(h:deep c=true)(k:Cw cs=true):Cw (c::cs)=true:=by rw[Cw,h,k];rfl
def dcf{α:Type}{f}(h:∀x,Cw (f x)=true)(l:List α):Cw (l.flatMap f)=true:=Z4.2 λc b=>by have⟨a,_,b⟩:=BU.1 b;exact Z4.1 (h a) c b
def VK{α:Type}{f}(h:∀x,Cw (f x)=true)(e:TypeId)(l:List α):deep (.own e l.length<|l.flatMap f)=true:=by rw[deep];exact dcf h l
def dag{cs}(h:Cw cs=true):deep (.agg cs)=true:=by rw[deep];exact h
def ZW:∀{cs:List V},HF cs=true↔∀c∈cs,Nd c=true
  |[]=>by simp[HF]
  |c::cs=>by rw[HF,Aa,ZW (cs:=cs)];simp
def acc{c:V}{cs}(h:Nd c=true)(k:HF cs=true):HF (c::cs)=true:=by rw[HF,h,k];rfl
def acf{α:Type}{f}(h:∀x,HF (f x)=true)(l:List α):HF (l.flatMap f)=true:=ZW.2 λc b=>by have⟨a,_,b⟩:=BU.1 b;exact ZW.1 (h a) c b
def aca{α:Type}{f}(h:∀x,HF (f x)=true)(l:List α):Nd (.arg l.length<|l.flatMap f)=true:=by rw[Nd];exact acf h l
def sA{c}(h:Nd c=true):RO c=true:=xa h
def Tt{c:V}{cs}(h:RO c=true)(k:cs.all RO=true):(c::cs).all RO=true:=by rw[By,h,k];rfl
def Ut{c:V}{cs}(h:WZ c=true)(k:EG cs=true):EG (c::cs)=true:=by rw[EG,h,k];rfl
def lf{cs cs'}(h:Mm cs=cs'):Px (.agg cs)=.agg cs':=by rw[Px,h]
def Tv{c:V}{cs}(h:Ml c=true)(k:cs.all Ml=true):(c::cs).all Ml=true:=by rw[By,h,k];rfl
def fV{c c':V}{cs cs'}(h:Px c=c')(k:cs.map Px=cs'):(c::cs).map Px=c'::cs':=by rw[AM,h,k]
def Uu{c c':V}{cs cs'}(h:Px c=c')(k:Mm cs=cs'):Mm (c::cs)=c'::cs':=by rw[Mm,h,k]
def gW:∀(a b:List V),Mm (a++b)=Mm a++Mm b
  |[],_=>rfl
  |c::a,b=>by rw[BY,Mm,Mm,gW a b,BY]
def c9{α:Type}{f g}(h:∀x,Mm (f x)=g x):∀l:List α,Mm (l.flatMap f)=l.flatMap g
  |[]=>rfl
  |x::l=>by rw[Ax,Ax,gW,h,c9 h l]
def Og{α:Type}{f g}(h:∀x,Mm (f x)=g x)(l:List α):Px (.dat l.length<|l.flatMap f)=.arg l.length (l.flatMap g):=by rw[Px,c9 h]
def lq:∀{a b:List V},EG a=true->EG b=true->EG (a++b)=true
  |[],_,_,h=>h
  |c::a,b,h,k=>by rw[EG,Aa]at h;rw[BY,EG,h.1,lq h.2 k];rfl
def gQ{α:Type}{f}(h:∀x,EG (f x)=true):∀l:List α,EG (l.flatMap f)=true
  |[]=>rfl
  |x::l=>by rw[Ax];exact lq (h x)<|gQ h l
def IQ{α:Type}{f}(h:∀x,EG (f x)=true)(l:List α):WZ (.dat l.length<|l.flatMap f)=true:=gQ h l
end
section
mutual
def frz:V->V
  |.own _ n cs=>.arg n<|am cs
  |.dat n cs=>.dat n cs
  |.arg n cs=>.arg n cs
  |.pin u n cs=>.pin u n cs
  |.int k n=>.int k n
  |.bool b=>.bool b
  |.str s=>.str s
  |.fn f=>.fn f
  |.tok u=>.tok u
  |_=>.undef
def am:List V->List V
  |[]=>[]
  |c::cs=>frz c::am cs
end
def md{cs}(h:cs=[]):am cs=[]:=by subst h;rfl
section
variable {P:Program}{w:World}{St St':Nat->Nat->Prop}
mutual
def Ow.frz(hs:∀b o,St b o->St' b o):∀(c:V) {v:Value}{bs:zN},Ow P w St c v bs->c.DB=true->(∀g∈bs,∀o,St' g o)->Rd w St' (frz c) v
  |.int _ _,_,_,h,_,_=>h.2
  |.bool _,_,_,h,_,_=>h.2
  |.str _,_,_,h,_,_=>h.2
  |.dat n cs,_,_,h,_,_=>Rd.mono hs (λ_ _ _=>rfl) (.dat n cs) h.2
  |.arg n cs,_,_,h,_,_=>Rd.mono hs (λ_ _ _=>rfl) (.arg n cs) h.2
  |.pin u n cs,_,_,h,_,_=>Rd.mono hs (λ_ _ _=>rfl) (.pin u n cs) h.2
  |.own e n cs,v,bs,⟨hn,xs,bs',h1,h2,h3,h4,h5⟩,_,hg=>by
    have hl:=h1.1;rcases h1.2 with⟨rfl,rfl⟩|⟨g,cap,cur,rfl,hg1,hh,hc,hm,hsz,hx⟩
    · exact⟨Ba hn,none,0,rfl,AJ _,λh=>absurd h (by omega),λhz=>md<|h5 hz⟩
    · have hgo:=hg g (by rw[h3];simp[Value.ownBlock]);refine⟨Ba hn,_,cap,rfl,hc,λ_=>⟨g,0,rfl,λ_=>hgo,?_⟩,λhz=>md<|h5 hz⟩;refine Bn.frz hs cs 0 h2 hgo (λj u hu=>?_)<|λg' hg'=>hg g'<|by rw[h3];exact Az _ hg'
      have hj:j < n * Ub P e:=by
        rw[<-hl];rcases Bb j xs.length with h|h
        · exact h
        · rw[Bu h]at hu;cases hu
      rw[CH];simp only[World.cell?,hh];rw[<-hx,DE,Aw hj]at hu;simpa using hu
  |.agg _,_,_,_,h,_=>by cases h
  |.tup _,_,_,_,h,_=>by cases h
  |.box _,_,_,h,_,_=>h.elim
  |.uni _ _ _,_,_,h,_,_=>h.elim
  |.same _,_,_,h,_,_=>h.elim
  |.val _ _,_,_,h,_,_=>h.elim
  |.cref _ _,_,_,h,_,_=>h.elim
  |.adr _ _,_,_,h,_,_=>h.elim
  |.gh _ _,_,_,h,_,_=>h.elim
  |.fn _,_,_,h,_,_=>h.2
  |.tok _,_,_,h,_,_=>h.2
  |.undef,_,_,h,_,_=>h.elim
def Bn.frz(hs:∀b o,St b o->St' b o){g:Nat}:∀(cs:List V) (off:Nat) {us:List Value}{bs:zN},Bn P w St cs us bs->(∀o,St' g o)->(∀(j:Nat) (u:Value),us[j]? =some u->w.cell? ⟨g,off+j,none⟩=some u)->(∀g∈bs,∀o,St' g o)->Dp w St' g off (am cs)
  |[],_,_,_,_,_,_,_=>trivial
  |c::cs,off,_,_,⟨u,us',b1,b2,e1,e2,hc,h1,h2⟩,hgo,hu,hg=>by have h0:=hu 0 u (by rw[e1];rfl);refine⟨⟨hgo off,u,by simpa using h0,Ow.frz hs c h1 hc<|λg' hg'=>hg g'<|by rw[e2];exact AF _ hg'⟩,Bn.frz hs cs (off+1) h2 hgo (λj x hx=>?_)<|λg' hg'=>hg g'<|by rw[e2];exact Az _ hg'⟩;have:=hu (j+1) x (by rw[e1];simpa using hx);rw[show off+1+j=off+(j+1)by omega];exact this
end
end
def Agx(P:Program)(c c':V):Prop:=
  ∀w a (t:Nat->Value) v bs,Cr P w a t c v bs->bs.Nodup->∃d b1:zN,(∀g∈d,g∈bs)∧(∀g∈b1,g∈bs)∧b1.Nodup∧Cr P w (λb o=>a b o∨b∈d) t c' v b1
section
variable {P:Program}{w:World}{St St':Nat->Nat->Prop}
end
section
variable {P:Program}{nt:Nat}{bx:zN}{σ:PS}{K:PS->Prop}
def yw{e n cs}:Agx P (.own e n cs) (.arg n<|am cs):=λw b t v bs h c=>⟨bs,[],λ_ h=>h,λ_ h=>(by cases h),AP,⟨rfl,Ow.frz (λ_ _ h=>.inl h) (.own e n cs) h rfl<|λg a o=>.inr a⟩⟩
def uV{s c c'}(hs:σ s=c)(F:Agx P c c')(hb:(C6 c').isSome=(C6 c).isSome)(hrf:D3 c'=none)
    (h:Gh P nt bx (upd σ s c') K):Gh P nt bx σ K:=by
  rintro base St0 w0 a w ⟨St,B,hS,r1,r2,r3⟩;have h1:=hS.slot s;rw[hs]at h1;have⟨fb,b1,q1,q2,q3,q4⟩:=F w St (tm a) (tm a s) (B s) h1<|hS.nodup s;have hB:∀r,r≠s->upd B s b1 r=B r:=λr e=>upd_ne _ _ e
  have hσ:∀r,r≠s->upd σ s c' r=σ r:=λr e=>upd_ne _ _ e
  have hin:∀r,∀g∈upd B s b1 r,g∈B r:=λr g hg=>by
    by_cases e:r=s
    · subst e;rw[upd_same]at hg;exact q2 g hg
    · rw[hB r e]at hg;exact hg
  refine h base St0 w0 a w ⟨λb o=>St b o∨b∈fb,upd B s b1,{hS with
    slot:=λr=>?_
    boxes:=λr cs e=>?_
    crefs:=λr b e=>?_
    nodup:=λr=>?_
    apart:=λr t hrt g hg hg2=>hS.apart r t hrt g (hin r g hg)<|hin t g hg2
    hapart:=λr g hg=>hS.hapart r g<|hin r g hg
    range:=λr g hg=>hS.range r g<|hin r g hg
    st:=λb o hbo=>hbo.elim (hS.st b o)<|λhf=>(hS.range s b<|q1 b hf).2
    gl:=hS.gl.of (λb hb o=>.inl (hb o)) (λ_ _ _=>rfl)},r1,λb o hbb=>⟨λhbo=>hbo.elim (r2 b o hbb).1 (λhf=>absurd hbb (hS.range s b (q1 b hf)).1),λh0=>.inl ((r2 b o hbb).2 h0)⟩,r3⟩
  · by_cases e:r=s
    · subst e;rw[upd_same,upd_same];exact q4
    · rw[hσ r e,hB r e];exact(hS.slot r).mono (λ_ _ h=>.inl h) (λ_ _ _=>rfl) (λg hg=>⟨rfl,λo=>⟨λh=>h.elim id<|λhf=>absurd (q1 g hf)<|hS.apart r s e g hg,.inl⟩⟩)<|λ_ _=>rfl
  · by_cases e1:r=s
    · subst e1;rw[upd_same]at e;rw[e]at hb;cases hx:C6 c with
      |none=>rw[hx]at hb;cases hb
      |some ds=>exact hS.boxes r ds (by rw[hs];exact hx)
    · rw[hσ r e1]at e;exact hS.boxes r cs e
  · by_cases e1:r=s
    · subst e1;rw[upd_same,hrf]at e;cases e
    · rw[hσ r e1]at e;have⟨cs,hc⟩:=hS.crefs r b e;by_cases e2:b=s
      · subst e2;rw[hs]at hc;rw[upd_same];cases hx:C6 c' with
        |none=>rw[hx,hc]at hb;cases hb
        |some ds=>exact⟨ds,rfl⟩
      · exact⟨cs,by rw[hσ b e2];exact hc⟩
  · by_cases e:r=s
    · subst e;rw[upd_same];exact q3
    · rw[hB r e];exact hS.nodup r
end
def mc:∀(a b:List V),am (a++b)=am a++am b
  |[],b=>rfl
  |c::a,b=>by rw[BY,am,am,mc a b,BY]
def ij{α:Type}{f g}(h:∀x,am (f x)=g x):∀l:List α,am (l.flatMap f)=l.flatMap g
  |[]=>rfl
  |x::l=>by rw[Ax,Ax,mc,h,ij h l]
section
variable {P:Program}{nt:Nat}{bx:zN}{K:PS->Prop}{L:PL}{α:Type}{f g:α->List V}{l:List α}{e:TypeId}
def gFs{b}(a:lk L b=some (.own e l.length<|l.flatMap f))(c:∀x,am (f x)=g x)
    (h:K (CP<|(b,.arg l.length<|l.flatMap g)::L)):Gh P nt bx (CP L) K:=by
  rw[<-ij c l]at h;exact uV (Dx a) yw rfl rfl<|O5 h
end
end
end Go.Proofs.YtdnlfoelbfcmnaaGreatDoor
