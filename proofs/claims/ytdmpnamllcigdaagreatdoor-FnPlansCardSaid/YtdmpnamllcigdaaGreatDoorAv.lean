/- Walks that find their own way. No conditions. -/
import Derived.Test.YtdmpnamllcigdaaGreatDoorAu
open Go.RowKit
set_option linter.all false
namespace Go.Proofs.YtdmpnamllcigdaaGreatDoor
set_option maxRecDepth 100000
set_option maxHeartbeats 1000000
def sxO(tb:Tb)(a:zN):List LO->PL->Option (List LO×PL)
  |[],L=>some ([],L)
  |o::os,L=>match o.g with
    |some _=>some (o::os,L)
    |none=>match Pm tb a o L with
      |some L'=>sxO tb a os L'
      |none=>some (o::os,L)
def sxD(tb:Tb)(a:zN):List (zN×zN)->List LO->PL->Option (List (zN×zN)×List LO×PL)
  |f::fps,o::os,L=>match o.g with
    |some _=>some (f::fps,o::os,L)
    |none=>match stepD tb a 1 (f::fps) (o::os) L with
      |some (_,_,L')=>sxD tb a fps os L'
      |none=>some (f::fps,o::os,L)
  |fps,os,L=>some (fps,os,L)
def rxO(tb:Tb):Nat->LC->PL->Option (LC×PL)
  |0,l,L=>some (l,L)
  |n+1,l,L=>match yN tb 1 l L with
    |some (a,L')=>rxO tb n a L'
    |none=>some (l,L)
def sxF(tb:Tb)(a:zN)(b:List LO)(L:PL):Option (List LO×PL):=match oh tb a 1 b L with
  |some (os,L')=>sxO tb a os L'
  |none=>none
def sxG(tb:Tb)(a:zN)(fps:List (zN×zN))(c:List LO)(L:PL):Option (List (zN×zN)×List LO×PL):=match stepD tb a 1 fps c L with
  |some (b,os,L')=>sxD tb a b os L'
  |none=>none
def rxF(tb:Tb)(l:LC)(L:PL):Option (LC×PL):=match yN tb 1 l L with
  |some (a,L')=>rxO tb 60 a L'
  |none=>none
section
variable {P:Program}{tb:Tb}{cns:zN}{K:PS->Prop}{os:List LO}{L' L:PL}
def sx1:∀{a:List LO}{L:PL},sxO tb cns a L=some (os,L')->bh P tb cns os (Cz L') K->bh P tb cns a (Cz L) K
  |[],_,e,k=>by cases e;exact k
  |o::a,L,e,k=>by
    unfold sxO at e;split at e
    ·cases e;exact k
    cases h:Pm tb cns o L with
    |none=>rw[h]at e;cases e;exact k
    |some b=>rw[h]at e;exact sp 1 (L':=b) (os:=a) (by show Aa (Pm tb cns o L) _=_;rw[h];rfl)<|sx1 e k
def sxx{ops}(h:sxF tb cns ops L=some (os,L'))(k:bh P tb cns os (Cz L') K):bh P tb cns ops (Cz L) K:=by
  unfold sxF at h;cases e:oh tb cns 1 ops L with
  |none=>rw[e]at h;cases h
  |some p=>rw[e]at h;exact sp 1 e<|sx1 h k
def sd1{fps'}:∀{fps:List (zN×zN)}{a:List LO}{L:PL},sxD tb cns fps a L=some (fps',os,L')->cX P tb cns fps' os (Cz L') K->cX P tb cns fps a (Cz L) K
  |[],[],_,e,k=>by cases e;exact k
  |[],_::_,_,e,k=>by cases e;exact k
  |_::_,[],_,e,k=>by cases e;exact k
  |f::fps,o::a,L,e,k=>by
    unfold sxD at e;split at e
    ·cases e;exact k
    cases h:stepD tb cns 1 (f::fps) (o::a) L with
    |none=>rw[h]at e;cases e;exact k
    |some p=>
      rw[h]at e;have b:=h;have:(p.1,p.2.1)=(fps,a):=by have⟨R,W⟩:=f;unfold stepD at h;have⟨_,h⟩:=Em h;have⟨c,d,h⟩:=Bc h;cases h;rfl
      have⟨g,p2,i⟩:=p;cases this;exact sd 1 b<|sd1 e k
def sdx{fps fps' ops}(h:sxG tb cns fps ops L=some (fps',os,L'))(k:cX P tb cns fps' os (Cz L') K):cX P tb cns fps ops (Cz L) K:=by
  unfold sxG at h;cases e:stepD tb cns 1 fps ops L with
  |none=>rw[e]at h;cases h
  |some p=>rw[e]at h;exact sd 1 e<|sd1 h k
def gG_{α:Type}{b c:Bool}{q:Nat}{x y:Option α}{r:α}{d:Option Nat}{op:Op}{t:TypeId}(h:cond b x y=some r)(a:lk L q=some (.bool b))(f:x=some r->bh P tb cns (⟨d,op,t,some (some q,c)⟩::os) (Cz<|(q,.bool true)::L) K)(g:y=some r->bh P tb cns (⟨d,op,t,some (some q,c)⟩::os) (Cz<|(q,.bool false)::L) K):bh P tb cns (⟨d,op,t,some (some q,c)⟩::os) (Cz L) K:=Eo h (λe h=>qg q e a<|f h)<|λe h=>qg q e a<|g h
def gGD{α:Type}{b c:Bool}{q:Nat}{x y:Option α}{r:α}{d:Option Nat}{op:Op}{t:TypeId}{fps:List (zN×zN)}(h:cond b x y=some r)(a:lk L q=some (.bool b))(f:x=some r->cX P tb cns fps (⟨d,op,t,some (some q,c)⟩::os) (Cz<|(q,.bool true)::L) K)(g:y=some r->cX P tb cns fps (⟨d,op,t,some (some q,c)⟩::os) (Cz<|(q,.bool false)::L) K):cX P tb cns fps (⟨d,op,t,some (some q,c)⟩::os) (Cz L) K:=Eo h (λe h=>I5 q e a<|f h)<|λe h=>I5 q e a<|g h
def ibh{ops σ}(h:bh P tb cns ops σ K):bh P tb cns ops σ K:=h
def iHb{o σ}(h:Hb P tb cns o σ K):Hb P tb cns o σ K:=h
def icX{fps ops σ}(h:cX P tb cns fps ops σ K):cX P tb cns fps ops σ K:=h
def hbh{o:LO}{σ}(h:Hb P tb cns o σ (λσ'=>bh P tb cns os σ' K)):bh P tb cns (o::os) σ K:=h
def iLS{nt bx l σ Q}(h:LS P nt bx l σ Q):LS P nt bx l σ Q:=h
end
section
variable {nt:Nat}{bx:zN}{Q:Exit->PS->Prop}
def rx1{l' L'}:∀{n:Nat}{l:LC}{L:PL},rxO tb n l L=some (l',L')->LS Tryz.prog nt bx l' (Cz L') Q->LS Tryz.prog nt bx l (Cz L) Q
  |0,_,_,e,k=>by cases e;exact k
  |n+1,l,L,e,k=>by
    unfold rxO at e;cases h:yN tb 1 l L with
    |none=>rw[h]at e;cases e;exact k
    |some p=>rw[h]at e;exact rn 1 h<|rx1 e k
def rxx{l l' L L'}(h:rxF tb l L=some (l',L'))(k:LS Tryz.prog nt bx l' (Cz L') Q):LS Tryz.prog nt bx l (Cz L) Q:=by
  unfold rxF at h;cases e:yN tb 1 l L with
  |none=>rw[e]at h;cases h
  |some p=>rw[e]at h;exact rn 1 e<|rx1 h k
end
def qCi{R:Type}{x:Option R}{y:R}{f:FuncId}{cns:zN}{K:PS->Prop}{L:PL}{d:Nat}{t:TypeId}{args:Array Operand}{ts:Array TypeId}{ss:List V}{e:R->V}[i:Qe f x ss e](hx:x=some y)(he:erA (Cz L) args.toList ss)(k:K (Cz<|(d,e y)::L))(hc:cns.contains d=false:=by rfl):Hb Tryz.prog tb cns ⟨some d,.call {callee:=.value (.func f),args:=args,argTypes:=ts},t,none⟩ (Cz L) K:=qC he (Qe.s hx) k hc
def nx_{O R:Type}{F:O->Option R}{f b:O}{r:R}(h:some b=some f)(i:∀{b:O},b=f->F b=some r):F b=some r:=i<|sj h
section
variable {P:Program}{nt:Nat}{bx:zN}{Q:Exit->PS->Prop}{σ:PS}
def xk_{id y Q'}(k:∀σ',LS P nt bx y σ' Q->Q' (.exit id) σ')(h:LS P nt bx y σ Q):LS P nt bx (.exit id) σ Q':=AJ<|k _ h
def lp_{S O R:Type}{body H ks}[Xs body H ks]{L d:PL}{D:zN}{j l:Nat}{s0:S}{a:O->Option R}{r:R}{x:LC}(h:Aa (Ay body l s0) a=some r)(e:jg L ks=some d)(n:jp (Cz L) (H s0++d))(o:∀s,okR (H s++d)=true)(c:∀f:O,(∀{b:O},b=f->a b=some r)->∀(m:Nat) (s:S) (N:PS->Prop),body (Ay body m) s=some f->(∀σ' k,Ay body m k=some f->jp σ' (H k++d)->N σ')->LS P nt bx x (Cz<|H s++d) (X4 N<|Zq j Q)):LS P nt bx (.blk j<|.loop D x) (Cz L) Q:=
  D6 h λf g i=>A9 (λs=>H s++d) _ _ _ _ g n o<|c f i
end
def p3qq{α β γ:Type}{P:α×β×γ->Prop}(h:∀a b c,P (a,b,c)):∀x,P x:=λ⟨a,b,c⟩=>h a b c
def p2qq{α β:Type}{P:α×β->Prop}(h:∀a b,P (a,b)):∀x,P x:=λ⟨a,b⟩=>h a b
def p4qq{α β γ δ:Type}{P:α×β×γ×δ->Prop}(h:∀a b c d,P (a,b,c,d)):∀x,P x:=λ⟨a,b,c,d⟩=>h a b c d
def p5qq{α β γ δ ε:Type}{P:α×β×γ×δ×ε->Prop}(h:∀a b c d e,P (a,b,c,d,e)):∀x,P x:=λ⟨a,b,c,d,e⟩=>h a b c d e
def p6qq{α β γ δ ε ζ:Type}{P:α×β×γ×δ×ε×ζ->Prop}(h:∀a b c d e f,P (a,b,c,d,e,f)):∀x,P x:=λ⟨a,b,c,d,e,f⟩=>h a b c d e f
def p7qq{α β γ δ ε ζ η:Type}{P:α×β×γ×δ×ε×ζ×η->Prop}(h:∀a b c d e f g,P (a,b,c,d,e,f,g)):∀x,P x:=λ⟨a,b,c,d,e,f,g⟩=>h a b c d e f g
section
variable {P:Program}{tb:Tb}{cns:zN}{K:PS->Prop}{os:List LO}{L L2 L3:PL}{α:Type}{f:α->List V}{l m:List α}{e:TypeId}{es p q n d:Nat}{s t t':TypeId}{ps:Array (Nat×Operand)}{cs ds:List V}{c:V}
def bA_(g:l.length+m.length<=lim)(u:lk L p=some (.own e l.length<|l.flatMap f))(h:bsO tb L s n ps.toList=some (e,es,L2,cs))(i:m.length=n)(j:cs=m.flatMap f)(b:∀x,(f x).length=es)(o:Aed tb ((q,.own e m.length<|m.flatMap f)::L2) s p q=some (l.length,l.flatMap f,es,m.length,m.flatMap f,c,L3))(a:lk ((q,.own e m.length<|m.flatMap f)::L2) p=some (.own e l.length<|l.flatMap f))(r:ZW c=m.flatMap f)(k:bh P tb cns os (Cz<|(d,.own e (l++m).length<|(l++m).flatMap f)::L3) K):bh P tb cns (⟨some q,.buildSlice s n ps,t,none⟩::⟨some d,.call {callee:=.builtin .append,args:= #[.tmp p,.tmp q],argTypes:= #[s,s]},t',none⟩::os) (Cz L) K:=
  hbh (Gi f m h i j b<|hbh<|qA f l m o a (Bu b m) r g k)
def bAD_{R W R' W' fps}(g:l.length+m.length<=lim)(v:lk L p=some (.own e l.length<|l.flatMap f))(h:bsO tb L s n ps.toList=some (e,es,L2,cs))(i:m.length=n)(j:cs=m.flatMap f)(b:∀x,(f x).length=es)(o:Aed tb ((q,.own e m.length<|m.flatMap f)::L2) s p q=some (l.length,l.flatMap f,es,m.length,m.flatMap f,c,L3))(a:lk ((q,.own e m.length<|m.flatMap f)::L2) p=some (.own e l.length<|l.flatMap f))(r:ZW c=m.flatMap f)(a1:(bm R W (.buildSlice s n ps)<|Cz L,adB cns R ⟨some q,.buildSlice s n ps,t,none⟩<|Cz L)=(true,true))(u:(bm R' W' (.call {callee:=.builtin .append,args:= #[.tmp p,.tmp q],argTypes:= #[s,s]})<|Cz<|(q,.own e m.length<|m.flatMap f)::L2,adB cns R' ⟨some d,.call {callee:=.builtin .append,args:= #[.tmp p,.tmp q],argTypes:= #[s,s]},t',none⟩<|Cz<|(q,.own e m.length<|m.flatMap f)::L2)=(true,true))(k:cX P tb cns fps os (Cz<|(d,.own e (l++m).length<|(l++m).flatMap f)::L3) K):cX P tb cns ((R,W)::(R',W')::fps) (⟨some q,.buildSlice s n ps,t,none⟩::⟨some d,.call {callee:=.builtin .append,args:= #[.tmp p,.tmp q],argTypes:= #[s,s]},t',none⟩::os) (Cz L) K:=
  ed a1 (Gi f m h i j b<|ed u<|qA f l m o a (Bu b m) r g k)
def bZ_(a:bsO tb L s 0 ps.toList=some (e,es,L2,[]))(k:K (Cz<|(d,.own e 0 [])::L2)):Hb P tb cns ⟨some d,.buildSlice s 0 ps,t,none⟩ (Cz L) K:=
  Gi (α:=Unit) (λ_=>List.replicate es<|.bool false) [] a rfl rfl (by simp) k
end
section
variable {P:Program}{nt:Nat}{bx:zN}{Q:Exit->PS->Prop}{σ:PS}
def kn_{y:LC}{a:Exit->PS->Prop}{e:Exit}(k:∀σ',LS P nt bx y σ' Q->a e σ')(h:LS P nt bx y σ Q):a e σ:=k _ h
def kk_{y:LC}{K:PS->Prop}(k:∀σ',LS P nt bx y σ' Q->K σ')(h:LS P nt bx y σ Q):K σ:=k _ h
end
def qPi{R:Type}{x:Option R}{y:R}{f:FuncId}{cns:zN}{K:PS->Prop}{L:PL}{d s:Nat}{t:TypeId}{args:Array Operand}{ts:Array TypeId}{z:Operand}{xs:List Operand}{cs ss:List V}{c':R->List V}{e:R->V}[i:MH f x cs ss c' e](hx:x=some y)(ha:args.toList=z::xs)(h1:adO L z=some (.cref s 0))(hs:lk L s=some (.box cs))(hpl:cs.all KA=true)(he:erA (Cz L) xs ss)(k:K (Cz<|(d,e y)::(s,.box<|c' y)::L))(hc:cns.contains d=false:=by rfl):Hb Tryz.prog tb cns ⟨some d,.call {callee:=.value (.func f),args:=args,argTypes:=ts},t,none⟩ (Cz L) K:=qP ha h1 hs hpl he (MH.s hx) k hc
section
variable {P:Program}{nt:Nat}{bx:zN}{Q:Exit->PS->Prop}{tb:Tb}{L:PL}
def rw1{q:Nat}{r:V}(a:∀σ,yK tb [.tmp q] r .ret σ->Q .ret σ)(h:Kp (Cz L q) r)(b:okR [(q,r)]=true)(c:yK tb [.tmp q] r .ret (Cz [(q,r)])):LS P nt bx .ret (Cz L) Q:=P5 [(q,r)] ⟨h,trivial⟩ b<|Ap<|a _ c
end
section
variable {P:Program}{tb:Tb}{cns:zN}{K:PS->Prop}{L:PL}{d:Nat}{t:TypeId}
def qA_{α:Type}{f g:α->List V}{l m:List α}{s:TypeId}{es p q:Nat}{e:TypeId}{c:V}{a:PL}(b:l.length+m.length<=lim)(h:Aed tb L s p q=some (l.length,l.flatMap f,es,m.length,m.flatMap g,c,a))(i:lk L p=some (.own e l.length<|l.flatMap f))(j:∀x,(g x).length=es)(n:ZW c=m.flatMap f)(k:K (Cz<|(d,.own e (l++m).length<|(l++m).flatMap f)::a)):Hb P tb cns ⟨some d,.call {callee:=.builtin .append,args:= #[.tmp p,.tmp q],argTypes:= #[s,s]},t,none⟩ (Cz L) K:=qA f l m h i (Bu j m) n b k
def cI_:V->Option Int
  |.int .i64 n=>some n
  |_=>none
def cIk{c n}(h:cI_ c=some n):c=.int .i64 n:=by
  unfold cI_ at h;split at h
  ·cases h;rfl
  ·cases h
def inO:List V->Option (List Int)
  |[]=>some []
  |c::cs=>Aa (cI_ c) λn=>Aa (inO cs) λl=>some<|n::l
def inO_:∀{cs:List V}{l:List Int},inO cs=some l->cs=l.flatMap (λn=>[.int .i64 n])
  |[],_,h=>by cases h;rfl
  |c::cs,l,h=>by have⟨n,a,h⟩:=Bc h;have⟨r,b,h⟩:=Bc h;cases h;rw[cIk a,inO_ b];rfl
def giI{e s n ps L2 cs l}(h:bsO tb L s n ps.toList=some (e,1,L2,cs))(a:inO cs=some l)(b:l.length=n)(k:K (Cz<|(d,.own e l.length<|l.flatMap<|λn=>[.int .i64 n])::L2)):Hb P tb cns ⟨some d,.buildSlice s n ps,t,none⟩ (Cz L) K:=Gi (λn=>[.int .i64 n]) l h b (inO_ a) (λ_=>rfl) k
def giO{α:Type}{g:α->List V}{x:List α}{e a s:TypeId}{ps:Array (Nat×Operand)}{b:PL}(h:bsO tb L s 1 ps.toList=some (e,1,b,[.own a x.length (x.flatMap g)]))(k:K (Cz<|(d,.own e [x].length<|[x].flatMap<|λx=>[.own a x.length (x.flatMap g)])::b)):Hb P tb cns ⟨some d,.buildSlice s 1 ps,t,none⟩ (Cz L) K:=Gi _ [x] h rfl rfl (λ_=>rfl) k
def giD{α:Type}{g:α->List V}{x:List α}{e s:TypeId}{ps:Array (Nat×Operand)}{a:PL}(h:bsO tb L s 1 ps.toList=some (e,1,a,[.dat x.length (x.flatMap g)]))(k:K (Cz<|(d,.own e [x].length<|[x].flatMap<|λx=>[.dat x.length (x.flatMap g)])::a)):Hb P tb cns ⟨some d,.buildSlice s 1 ps,t,none⟩ (Cz L) K:=Gi _ [x] h rfl rfl (λ_=>rfl) k
def giE{e e' s ps L2}(h:bsO tb L s 1 ps.toList=some (e,1,L2,[.own e' 0 []]))(k:K (Cz<|(d,.own e [([]:List Int)].length<|[([]:List Int)].flatMap<|λx=>[.own e' x.length (x.flatMap<|λn=>[.int .i64 n])])::L2)):Hb P tb cns ⟨some d,.buildSlice s 1 ps,t,none⟩ (Cz L) K:=Gi (λx:List Int=>[.own e' x.length (x.flatMap<|λn=>[.int .i64 n])]) [[]] h rfl rfl (λ_=>rfl) k
def cS_:V->Option (List UInt8)
  |.str n=>some n
  |_=>none
def cSk{c n}(h:cS_ c=some n):c=.str n:=by
  unfold cS_ at h;split at h
  ·cases h;rfl
  ·cases h
def inS:List V->Option (List<|List UInt8)
  |[]=>some []
  |c::cs=>Aa (cS_ c) λn=>Aa (inS cs) λl=>some<|n::l
def inS_:∀{cs:List V}{l:List (List UInt8)},inS cs=some l->cs=l.flatMap (λn=>[.str n])
  |[],_,h=>by cases h;rfl
  |c::cs,l,h=>by have⟨n,a,h⟩:=Bc h;have⟨r,b,h⟩:=Bc h;cases h;rw[cSk a,inS_ b];rfl
def giS{e s n ps L2 cs l}(h:bsO tb L s n ps.toList=some (e,1,L2,cs))(a:inS cs=some l)(b:l.length=n)(k:K (Cz<|(d,.own e l.length<|l.flatMap<|λn=>[.str n])::L2)):Hb P tb cns ⟨some d,.buildSlice s n ps,t,none⟩ (Cz L) K:=Gi (λn=>[.str n]) l h b (inS_ a) (λ_=>rfl) k
def qL0{α:Type}{f:α->List V}{n b m:Nat}{s:TypeId}{x:Operand}{l:List α}{i:Int}{e:α}{a:TypeId}{dd:TyD}{v:V}(hi:AU l i=some e)(c:cns.contains d=false)(g:adO L x=some (.cref b<|i.toNat * n))(h:lk L b=some (.uni a m<|l.flatMap f))(j:∀x,(f x).length=n)(o:tb s=some dd)(p:Nat.ble dd.size n=true)(q:bi (getCells dd (f e) 0)=some v)(k:K (Cz<|(d,v)::L)):Hb P tb cns ⟨some d,.load s x,t,none⟩ (Cz L) K:=qLu 0 c g h j hi o (by rw[Nat.zero_add];exact p) q k
end
theorem hn_{S O:Type}{body:(S->Option O)->S->Option O}{m:Nat}{s:S}{f:O}{G:S->PL}{N:PS->Prop}{σ:PS}(y:∀σ' s',Ay body m s'=some f->jp σ' (G s')->N σ')(h:Ay body m s=some f)(j:jp σ (G s)):N σ:=y _ _ h j
def U0{P:Prop}(h:P:=by
 repeat' first
  |(with_reducible refine iLS ?_);first
   |exact sj h ▸ Ap rZ
   |exact sj h ▸ Ap ⟨.inl rfl,rfl,rfl⟩
   |(replace h:=nx_ h (by assumption);exact sj h ▸ Ap rZ)
   |(replace h:=nx_ h (by assumption);exact sj h ▸ Ap ⟨.inl rfl,rfl,rfl⟩)
   |(replace h:=nx_ h (by assumption);replace h:=nx_ h (by assumption);exact sj h ▸ Ap rZ)
   |refine rxx rfl ?_
   |refine sj h ▸ rw1 (λ_ h=>h) ?_ rfl ⟨.inl rfl,rfl⟩
   |refine sj h ▸ rw2qq (λ_ h=>h) ?_ ?_ rfl ⟨.inl rfl,rfl⟩
   |refine sj h ▸ rw3qq (λ_ h=>h) ?_ ?_ ?_ rfl ⟨.inl rfl,rfl⟩
   |(replace h:=nx_ h (by assumption);first|refine sj h ▸ rw1 (λ_ h=>h) ?_ rfl ⟨.inl rfl,rfl⟩|refine sj h ▸ rw2qq (λ_ h=>h) ?_ ?_ rfl ⟨.inl rfl,rfl⟩|refine sj h ▸ rw3qq (λ_ h=>h) ?_ ?_ ?_ rfl ⟨.inl rfl,rfl⟩)
   |refine rs ?_
   |refine rg ?_
   |(refine BT h rfl ?_ ?_<;>intro h)
   |refine qT rfl rfl ?_
   |refine qF rfl rfl ?_
   |(refine CL ?_;intro K k)
   |refine Cf (by assumption) ?_
   |refine Ci ?_
   |(refine xk_ (by assumption) ?_;replace h:=nx_ h<|by assumption)
   |refine AJ ?_
   |(refine lp_ h rfl (by first|exact AX rfl|(repeat' first|exact kr|exact kd rfl rfl|exact ke rfl rfl|exact trivial|refine ⟨?_,?_⟩)) (λ_=>rfl) ?_;intro f i m;first|(refine p7qq ?_;intro _ _ _ _ _ _ _ N h y)|(refine p6qq ?_;intro _ _ _ _ _ _ N h y)|(refine p5qq ?_;intro _ _ _ _ _ N h y)|(refine p4qq ?_;intro _ _ _ _ N h y)|(refine p3qq ?_;intro _ _ _ N h y)|(refine p2qq ?_;intro _ _ N h y)|(intro _ N h y))
   |refine A4 ?_
   |refine rd (by kernel_rfl) ?_
   |refine jG (by kernel_rfl) ?_
  |(with_reducible refine ibh ?_);first
   |refine sxx rfl ?_
   |refine sp 1 rfl ?_
   |refine OR ?_
   |(refine gG_ h rfl ?_ ?_<;>intro h)
   |(refine D9 h ?_;intro c h;refine bA_ c rfl rfl rfl rfl (λ_=>rfl) rfl rfl rfl ?_)
   |refine hbh ?_
  |(with_reducible refine icX ?_);first
   |refine sdx rfl ?_
   |refine sd 1 rfl ?_
   |refine CN ?_
   |(refine gGD h rfl ?_ ?_<;>intro h)
   |(refine D9 h ?_;intro c h;refine bAD_ c rfl rfl rfl rfl (λ_=>rfl) rfl rfl rfl rfl rfl ?_)
   |refine ed rfl ?_
  |(with_reducible refine iHb ?_);first
   |refine EN rfl rfl ?_
   |refine qAu rfl rfl rfl rfl ?_
   |refine qTu rfl rfl rfl ?_
   |refine qL0 a rfl rfl rfl (λ_=>rfl) rfl rfl rfl ?_
   |refine qSu _ rfl rfl (λ_=>rfl) ⟨(B9 a).1,(B9 a).2.1⟩ rfl rfl rfl rfl rfl rfl ?_
   |refine bZ_ rfl ?_
   |refine giI rfl rfl rfl ?_
   |refine giO rfl ?_
   |refine giD rfl ?_
   |refine giE rfl ?_
   |refine giS rfl rfl rfl ?_
   |refine qFd 1 (by kernel_rfl) rfl ?_
   |refine qFd 0 (by kernel_rfl) rfl ?_
   |refine qFd 2 (by kernel_rfl) rfl ?_
   |(refine D9 h ?_;intro c h;first|refine qA_ c rfl rfl (λ_=>rfl) rfl ?_|refine qA_ c rfl rfl (λ_=>rfl) (Tk (λ_=>rfl) _) ?_|refine iD rfl (λ_=>rfl) c ?_|refine qM (λn:Int=>[.int .i64 n]) 0 rfl rfl rfl rfl c ?_|refine qM (λb:Bool=>[.bool b]) false rfl rfl rfl rfl c ?_|refine qMu (λn:Int=>[.int .i64 n]) 0 rfl rfl rfl rfl c rfl ?_|refine qMu (λb:Bool=>[.bool b]) false rfl rfl rfl rfl c rfl ?_|refine qSs rfl c ?_|refine qB rfl c rfl ?_|refine qB rfl ⟨rfl,c⟩ rfl ?_)
   |(refine A8 h ?_;intro x a h;first|refine qI rfl (λ_=>rfl) a ?_|refine qCi a ?_ ?_|refine qC ?_ (ih a) ?_|refine qPi a rfl rfl rfl rfl ?_ ?_|refine qX rfl a ?_|refine qIu rfl ⟨(B9 a).1,(B9 a).2.1⟩ ?_)
   |refine qI rfl (λ_=>rfl) (by assumption) ?_
  |refine kn_ (by assumption) ?_
  |refine kk_ (by assumption) ?_
  |(refine hn_ (by assumption) h ?_;first|exact AX rfl|(repeat' first|exact kr|exact kd rfl rfl|exact ke rfl rfl|exact trivial|refine ⟨?_,?_⟩))
  |exact sj h ▸ ⟨.inr rfl,rfl⟩
  |exact sj h ▸ ⟨.inr rfl,rfl,rfl⟩
  |exact kr
  |exact kd rfl rfl
  |refine ke rfl ?_
  |refine AT
  |refine qs rfl ?_
  |refine qa rfl ?_ ?_
  |refine CM ?_
  |refine Ba ?_ ?_
  |refine BE (λ_=>?_) _
  |refine SB (λ_=>?_) _
  |refine KC (λ_=>?_) _
  |rfl
 done):P:=h
theorem sX{R:Type}{f:Nat}{fn:Func}{args:List V}{x:Option R}{e:R->V}(bx:zN)(base:List (Nat×Nat))(cn:List (Nat×zN))(h1:Tryz.prog.funcs[f]? =some fn)(h2:AjQ bx base cn fn=true:=by kernel_rfl)(h0:(Nat.ble args.length fn.ntmps&&(args.all Pz&&okR (TJ 0 args)))=true:=by rfl)(h:∀{r:R},x=some r->LS Tryz.prog fn.ntmps bx (Vy base cn<|cdF fn) (Cz<|TJ 0 args) (yK tb fn.results.toList<|e r):=by intro r h;exact U0):Qe f x args e:=⟨λh'=>st (BB h1 h2) h0<|h h'⟩
end Go.Proofs.YtdmpnamllcigdaaGreatDoor
