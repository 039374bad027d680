/-
 The least value of a program over its points: what is chosen, that it is not negative, and that one is found where a point has a value. Plain lists; no conditions.
-/
import Derived.Test.YtplejokflpkcbaaGreatDoorNgPC1
import Derived.Test.YtplejokflpkcbaaGreatDoorSwPC1
open Go.RowKit
set_option linter.unusedVariables false
set_option linter.unusedSimpArgs false
namespace Go.Proofs.YtplejokflpkcbaaGreatDoor
def mnS(c:List Rt)(st:List Rt×Rt×Bool)(x:List Rt):List Rt×Rt×Bool:=cond ((J8 c x).2&&(!st.2.2 || decide (IntKind.i64.wrap (JS (J8 c x).1 st.2.1 * 1) < 0))) (x,(J8 c x).1,true) st
def mnB(p:LP):List Rt×Rt×Bool:=(O8 p 1).foldl (mnS p.2.2) ([],(0,0),false)
def Qm(p:LP):List Rt×Rt×Bool:=cond (O6 p&&p.2.2.all λr=>decide (0<=r.1)) (mnB p) ([],(0,0),false)
def nnR(r:Rt):Prop:=HK r=true∧0<=r.1
theorem fk{n d:Int}(hn:0<=n)(hd:0<=d)(h:(rNew n d).2=true):nnR (rNew n d).1:=by
 unfold rNew at h⊢
 cases h1:d==0 with
 |true=>rw[h1]at h;cases h
 |false=>
  rw[h1]at h
  cases h2:Iw n (-4000000000000000000) 4000000000000000000 with
  |false=>rw[h2]at h;cases h
  |true=>
   rw[h2]at h
   cases h3:Iw d (-4000000000000000000) 4000000000000000000 with
   |false=>rw[h3]at h;cases h
   |true=>
    rw[h3]at h
    rw[Ah (by omega:¬d < 0)]at h⊢
    simp only[Ad,Ac]at h⊢
    unfold aw at h⊢
    cases h4:HK (n.tdiv (Nat.gcd n.natAbs d.natAbs:Nat),d.tdiv (Nat.gcd n.natAbs d.natAbs:Nat))with
    |false=>rw[h4]at h;cases h
    |true=>exact⟨h4,Int.tdiv_nonneg hn (Int.natCast_nonneg _)⟩
theorem nu{a b:Rt}(ha:0<=a.1)(hb:0<=b.1)(h:(HS a b).2=true):nnR (HS a b).1:=by
 unfold HS at h⊢
 cases h1:HK a with
 |false=>rw[h1]at h;cases h
 |true=>
  cases h2:HK b with
  |false=>rw[h1,h2]at h;cases h
  |true=>
   rw[h1,h2]at h
   have f1:=Hi h1
   have f2:=Hi h2
   exact fk (I5 ha hb) (I5 (by omega) (by omega)) h
theorem np{a b:Rt}(ha:0<=a.1)(hb:0<=b.1)(h:(Ud a b).2=true):nnR (Ud a b).1:=by
 unfold Ud at h⊢
 cases h1:HK a with
 |false=>rw[h1]at h;cases h
 |true=>
  cases h2:HK b with
  |false=>rw[h1,h2]at h;cases h
  |true=>
   rw[h1,h2]at h
   have f1:=Hi h1
   have f2:=Hi h2
   exact fk (Int.add_nonneg (I5 ha (by omega)) (I5 hb (by omega))) (I5 (by omega) (by omega)) h
theorem ib{a:List Rt}(h:∀r∈a,0<=r.1)(k:Nat):0<=(atR a k).1:=by
 unfold atR
 rw[Au]
 cases hk:a[k]? with
 |none=>exact Int.le_refl 0
 |some r=>exact h r (Bo hk)
theorem kH{a b:List Rt}(ha:∀r∈a,0<=r.1)(hb:∀r∈b,0<=r.1):∀(j k:Nat) (x y:Rt),nnR x->M0 (WD a b) j k x=.inl y->nnR y
 |0,k,x,y,hx,h=>by
  cases h;exact hx
 |j+1,k,x,y,hx,h=>by
  rw[M0]at h
  unfold WD at h
  cases h1:(HS (atR a k) (atR b k)).2 with
  |false=>rw[h1]at h;cases h
  |true=>
   have m1:=nu (ib ha k) (ib hb k) h1
   cases h2:(Ud x (HS (atR a k) (atR b k)).1).2 with
   |false=>rw[h1,h2]at h;cases h
   |true=>
    rw[h1,h2]at h
    exact kH ha hb j (k+1) _ y (np hx.2 m1.2 h2) h
theorem pK{a b:List Rt}(ha:∀r∈a,0<=r.1)(hb:∀r∈b,0<=r.1)(h:(J8 a b).2=true):nnR (J8 a b).1:=by
 unfold J8 at h⊢
 cases h1:(a.length:Int)!=(b.length:Int)with
 |true=>rw[h1]at h;cases h
 |false=>
  rw[Ad]
  rw[h1,Ad]at h
  cases h2:M0 (WD a b) a.length 0 (0,1)with
  |inl x=>exact kH ha hb _ _ _ x ⟨by decide,Int.le_refl 0⟩ h2
  |inr o=>
   exfalso
   rw[h2]at h
   have key:∀(j k:Nat) (x:Rt),M0 (WD a b) j k x=.inr o->o=eo:=by
    intro j
    induction j with
    |zero=>intro k x h;cases h
    |succ j ih=>
     intro k x h
     rw[M0]at h
     unfold WD at h
     cases h1:(HS (atR a k) (atR b k)).2 with
     |false=>rw[h1]at h;cases h;rfl
     |true=>
      cases h2:(Ud x (HS (atR a k) (atR b k)).1).2 with
      |false=>rw[h1,h2]at h;cases h;rfl
      |true=>rw[h1,h2]at h;exact ih _ _ h
   rw[key _ _ _ h2]at h
   cases h
theorem S1{α β:Type}{f:β->α->β}(P:β->Prop)(hf:∀b a,P b->P (f b a)):∀(l:List α) (b:β),P b->P (l.foldl f b)
 |[],_,h=>h
 |a::l,b,h=>S1 P hf l _ (hf b a h)
theorem sL(p:LP):∀x∈O8 p 1,∀r∈x,0<=r.1:=by
 unfold O8
 refine S1 (P:=λout:Mx=>∀x∈out,∀r∈x,0<=r.1) (λout c h=>?_) _ _ (λx hx=>by cases hx)
 unfold visit
 cases(Rh (c.map (rowAt p)) (c.map (FN p))).2 with
 |false=>exact h
 |true=>
  cases hs:PY p (Rh (c.map (rowAt p)) (c.map (FN p))).1 1 with
  |false=>exact h
  |true=>
   cases out.any (· ==(Rh (c.map (rowAt p)) (c.map (FN p))).1)with
   |true=>exact h
   |false=>
    intro x hx r hr
    rcases Aq.1 hx with hx|hx
    ·exact h x hx r hr
    ·rw[AT]at hx
     subst hx
     unfold PY at hs
     simp only[Ab]at hs
     have:=Ae.1 hs.2.2.1 r hr
     rw[Ab,AE]at this
     exact this.2
theorem jO{c:List Rt}(hc:∀r∈c,0<=r.1):∀(l:List (List Rt)) (st:List Rt×Rt×Bool),(∀x∈l,∀r∈x,0<=r.1)->(st.2.2=true->nnR st.2.1)->(l.foldl (mnS c) st).2.2=true->nnR (l.foldl (mnS c) st).2.1
 |[],st,_,h,h2=>h h2
 |x::l,st,hl,h,h2=>by
  refine jO hc l _ (λy hy=>hl y (AX _ hy)) (λh3=>?_) h2
  unfold mnS at h3⊢
  cases hd:(J8 c x).2 with
  |false=>rw[hd]at h3;exact h h3
  |true=>
   rw[hd,Aw]at h3
   rw[Aw]
   cases ho: !st.2.2 || decide (IntKind.i64.wrap (JS (J8 c x).1 st.2.1 * 1) < 0)with
   |false=>rw[ho]at h3;exact h h3
   |true=>exact pK hc (hl x BO) hd
theorem mT{c:List Rt}(l:List (List Rt))(st:List Rt×Rt×Bool)(h:st.2.2=true):(l.foldl (mnS c) st).2.2=true:=by
 refine S1 (P:=λst:List Rt×Rt×Bool=>st.2.2=true) (λb a h=>?_) l st h
 unfold mnS
 cases(J8 c a).2&&(!b.2.2 || decide (IntKind.i64.wrap (JS (J8 c a).1 b.2.1 * 1) < 0))with
 |false=>exact h
 |true=>rfl
theorem jN{c:List Rt}{x:List Rt}(hd:(J8 c x).2=true):∀(l:List (List Rt)) (st:List Rt×Rt×Bool),x∈l->(l.foldl (mnS c) st).2.2=true
 |y::l,st,h=>by
  rw[Dc]
  rcases AV.1 h with rfl|h
  ·refine mT l _ ?_
   unfold mnS
   rw[hd,Aw]
   cases hf:st.2.2 with
   |true=>
    cases decide (IntKind.i64.wrap (JS (J8 c x).1 st.2.1 * 1) < 0)with
    |true=>rfl
    |false=>exact hf
   |false=>rfl
  ·exact jN hd l _ h
theorem mZ{r:Rt}(h:nnR r)(hc:decide (0 < JS r (0,1))=false):r=(0,1):=by
 obtain⟨h1,h2⟩:=h
 have f:=Hi h1
 have hz:r.1=0:=by
  refine Bn λhne=>?_
  have:JS r (0,1)=1:=by
   unfold JS
   rw[h1,show HK ((0:Int),(1:Int))=true from by decide,Ac,Ac]
   simp only
   rw[Ah (by omega),Ag (by omega)];rfl
  rw[this]at hc
  cases hc
 have hd:=f.2.2.2
 rw[hz]at hd
 simp only[Int.natAbs_zero,Nat.gcd_zero_left]at hd
 exact Prod.ext hz (by show r.2=1;omega)
section
variable {q:Hc}{B:List Nat}
def wB(q:Hc)(B:List Nat):Rt×Bool:=((Qm (RH q B)).2.1,(Qm (RH q B)).2.2)
theorem pz(hv:De q=true)(hs:SmG q B):Qm (RH q B)=mnB (RH q B):=by
 unfold Qm
 rw[oe hv hs,Aw]
 have:(RH q B).2.2.all (λr=>decide (0<=r.1))=true:=by
  unfold RH
  rw[Hv,Ae]
  intro a _
  rfl
 rw[this,Ac]
theorem io:∀r∈(RH q B).2.2,0<=r.1:=λr hr=>by
 unfold RH at hr
 obtain⟨_,_,rfl⟩:=Bh.1 hr
 decide
theorem ph(hv:De q=true)(hs:SmG q B):(wB q B).2=true∧nnR (wB q B).1:=by
 have hf:(mnB (RH q B)).2.2=true:=by
  obtain⟨S,hl,hp⟩:=pw hv hs
  obtain⟨h1,h2,h3,h4⟩:=FF hv
  unfold mnB
  refine jN (x:=S.map bt) ?_ _ _ hp
  have hD:=(aN h3 h4).2
  unfold tryD at hD
  have ha:=Ae.1 hD (List.replicate q.2.1.length true) (by have:=Ps (List.replicate q.2.1.length true);rwa [Dw]at this)
  have hb:=Ae.1 ha S (by have:=Ps S;rwa [hl]at this)
  unfold d9 at hb
  rw[Ab]at hb
  have e:(RH q B).2.2=(List.replicate q.2.1.length true).map bt:=by
   show q.2.1.map (λ_=>((1:Int),(1:Int)))=_
   rw[List.map_replicate,Eu]
   rfl
  rw[e]
  exact hb.1
 unfold wB
 rw[pz hv hs]
 refine⟨hf,?_⟩
 unfold mnB at hf⊢
 exact jO io _ _ (sL _) (λh=>by cases h) hf
end
def C1(n:Nat)(S:Nat->Bool):List Int:=((List.range n).filter S).map λ(v:Nat)=>(v:Int)
theorem L4(n:Nat)(S:Nat->Bool):(C1 n S).length<=n:=by
 unfold C1
 rw[As]
 exact BD (BS _ _) (by simp)
theorem Zw(n:Nat)(S:Nat->Bool):C1 (n+1) S=C1 n S++(if S n=true then [(n:Int)]else []):=by
 unfold C1
 rw[CI,Dn,BU]
 split
 ·rename_i h;simp[h]
 ·rename_i h;simp[h]
theorem lU{n:Nat}{S:Nat->Bool}{x:Int}(h:x∈C1 n S):x < n:=by
 unfold C1 at h
 obtain⟨v,hv,rfl⟩:=Bh.1 h
 have:=An.1 (Bf.1 hv).1
 omega
def upN(e m:Nat)(S:Nat->Bool):List Int:=((List.range m).filter λ(v:Nat)=>S (e+1+v)).map λ(v:Nat)=>((e+1+v:Nat):Int)
theorem lD{e m:Nat}{S:Nat->Bool}{x:Int}(h:x∈upN e m S):(e:Int) < x:=by
 unfold upN at h
 obtain⟨v,hv,rfl⟩:=Bh.1 h
 omega
theorem YD{n e:Nat}(he:e < n)(S:Nat->Bool):C1 n S=C1 e S++((if S e=true then [(e:Int)]else [])++upN e (n - (e+1)) S):=by
 have h:n=(e+1)+(n - (e+1)):=by omega
 have key:∀m,C1 ((e+1)+m) S=C1 (e+1) S++upN e m S:=by
  intro m
  unfold C1 upN
  rw[List.range_add,Dn,BU]
  congr 1
  rw[List.filter_map,EI]
  rfl
 conv=>lhs;rw[h]
 rw[key,Zw,Bc]
def Vu(S:Nat->Bool)(e:Nat):Nat->Bool:=λv=>S v || v==e
theorem asc_add{n e:Nat}(he:e < n)(S:Nat->Bool):C1 n (Vu S e)=C1 e S++((e:Int)::upN e (n - (e+1)) S):=by
 rw[YD he]
 have h1:C1 e (Vu S e)=C1 e S:=by
  unfold C1
  congr 1
  apply FY
  intro v hv
  have:=An.1 hv
  unfold Vu
  have:(v==e)=false:=by simp;omega
  rw[this,CV]
 have h2:upN e (n - (e+1)) (Vu S e)=upN e (n - (e+1)) S:=by
  unfold upN
  congr 1
  apply FY
  intro v hv
  unfold Vu
  have:(e+1+v==e)=false:=by simp;omega
  rw[this,CV]
 have h3:Vu S e e=true:=by simp[Vu]
 rw[h1,h2,h3];rfl
theorem tf{A R:List Int}{e:Int}(hA:∀x∈A,x < e)(hR:∀x∈R,e<=x)(hl:(A++R).length<=lim):Ap (J3 (A++R) e) fz 0=some (A.length:Int):=by
 have hlA:A.length<=lim:=by simp at hl;omega
 refine Cs (body:=J3 (A++R) e) (λk=>(k:Int)) A.length (λk hk rec=>?_) (λrec=>?_) fz (CQ hlA)
 ·have hk2:k < (A++R).length:=by simp;omega
  have e1:(A++R)[k]=A[k]:=Hx hk
  simp only[J3,Bu hk2,Ac,Bm hk2,Aa,e1]
  rw[Ag (hA _ (Ak hk)),Ac,BC hk2 (Be hl)]
 ·cases R with
  |nil=>
   simp only[Bp,J3,Ba,Ad]
  |cons x R=>
   have hk2:A.length < (A++x::R).length:=by simp
   have e1:(A++x::R)[A.length]=x:=by rw[G4 (Bl _)];simp
   simp only[J3,Bu hk2,Ac,Bm hk2,Aa,e1]
   rw[Ah (by have:=hR x (by simp);omega),Ad]
theorem Z0{l:List Int}(h:l.length<=lim):Gk l=some l:=by
 unfold Gk
 rw[AH (by simpa using h)];rfl
theorem tg{S:Nat->Bool}{a1:List Int}{k:Nat}(hk:k < a1.length)(hl:a1.length<=lim){e:Nat}(he:a1[k]=(e:Int))(h99:e < 100)(rec:(List Int×Int)->Option (List Int)):
  Ix a1 rec (C1 100 S,(k:Int))=rec (C1 100 (Vu S e),((k+1:Nat):Int)):=by
 have hlen:=L4 100 S
 have hL:(C1 100 S).length<=lim:=by unfold lim;omega
 have sp:=YD h99 S
 have ad:=asc_add h99 S
 have hA:∀x∈C1 e S,x < (e:Int):=λx hx=>lU hx
 have hR:∀x∈(if S e=true then [(e:Int)]else [])++upN e (100 - (e+1)) S,(e:Int)<=x:=λx hx=>by
  rcases Aq.1 hx with hx|hx
  ·split at hx
   ·simp at hx;omega
   ·simp at hx
  ·have:=lD hx;omega
 have fnd:=tf (e:=(e:Int)) hA hR (by rw[<-sp];exact hL)
 rw[<-sp]at fnd
 simp only[Ix,Bu hk,Ac,Bm hk,Aa,he,fnd]
 cases hS:S e with
 |true=>
  rw[hS]at sp
  simp only[Fh]at sp
  have hlt:(C1 e S).length < (C1 100 S).length:=by rw[sp];simp
  have hg:AZ (C1 100 S) ((C1 e S).length:Int)=some (e:Int):=by
   rw[UO,sp,BJ (Bl _),Nat.sub_self];rfl
  have hne:(((C1 e S).length:Int)==((C1 100 S).length:Int))=false:=by simp;omega
  have hE:Vu S e=S:=by
   funext v
   unfold Vu
   by_cases hv:v=e
   ·subst hv;rw[hS];rfl
   ·have:(v==e)=false:=by simpa using hv
    rw[this,CV]
  rw[hne,Ad,hg]
  simp only[Dk,J4,Ad,L9,BC hk (Be hl),hE]
 |false=>
  rw[hS]at sp
  simp only[B7,Dm,Bq]at sp
  have hins:J4 rec (C1 100 S) (k:Int) (e:Int) ((C1 e S).length:Int) true=rec (C1 100 (Vu S e),((k+1:Nat):Int)):=by
   have h1:Hk (C1 100 S) 0 ((C1 e S).length:Int)=C1 e S:=by
    rw[SN,sp,List.take_left']
    rfl
   have h2:Hk (C1 100 S) ((C1 e S).length:Int) ((C1 100 S).length:Int)=upN e (100 - (e+1)) S:=by
    unfold Hk
    rw[Bk,Bk,A6,sp,List.drop_left']
    rfl
   have hle:(C1 e S).length<=(C1 100 S).length:=by rw[sp];simp
   have hle2:(C1 e S).length+(upN e (100 - (e+1)) S).length=(C1 100 S).length:=by rw[sp,Ar]
   simp only[J4,Ac]
   rw[AH (by omega),h1,Z0 (by omega)]
   simp only[Aa]
   rw[AH (by simp only[At];unfold lim;omega),AH (by omega),h2,AH (by simp only[Ar,At];unfold lim;omega)]
   simp only[L9,BC hk (Be hl),ad,Bc,CS,Bq]
  by_cases hlast:(((C1 e S).length:Int)==((C1 100 S).length:Int))=true
  ·rw[hlast,Ac];exact hins
  ·rw[show(((C1 e S).length:Int)==((C1 100 S).length:Int))=false by simpa using hlast,Ad]
   have hlt:(C1 e S).length < (C1 100 S).length:=by
    have:(C1 e S).length<=(C1 100 S).length:=by rw[sp];simp
    simp at hlast;omega
   have hg:AZ (C1 100 S) ((C1 e S).length:Int)=some (C1 100 S)[(C1 e S).length]:=Bm hlt
   rw[hg]
   have hne:((C1 100 S)[(C1 e S).length]!=(e:Int))=true:=by
    have hm:(C1 100 S)[(C1 e S).length]∈upN e (100 - (e+1)) S:=by
     have:(C1 100 S)[(C1 e S).length]? =some (C1 100 S)[(C1 e S).length]:=Af hlt
     conv at this=>lhs;rw[sp,BJ (Bl _)]
     exact Bo this
    have:=lD hm
    simp;omega
   simp only[hne]
   exact hins
def R3(S:Nat->Bool)(l:List Int):Nat->Bool:=λv=>S v || l.contains (v:Int)
theorem Z2{S:Nat->Bool}{a1:List Int}(hl:a1.length<=lim)(h:∀x∈a1,0<=x∧x<=99):NP (C1 100 S) a1=some (C1 100 (R3 S a1)):=by
 have hlen:=L4 100 S
 unfold NP
 rw[Z0 (by unfold lim;omega)]
 have:=Cs (body:=Ix a1) (out:=C1 100 (R3 S a1)) (λk=>(C1 100 (R3 S (a1.take k)),(k:Int))) a1.length (λk hk rec=>?_) (λrec=>?_) fz (CQ hl)
 ·have e0:R3 S (a1.take 0)=S:=by funext v;simp[R3]
  rw[e0]at this
  simp only[Aa]
  rw[show((0:Nat):Int)=0 from rfl]at this
  rw[this]
 ·have hx:=h _ (Ak hk)
  rw[tg hk hl (e:=a1[k].toNat) (by omega) (by omega)]
  congr 2
  have:Vu (R3 S (a1.take k)) a1[k].toNat=R3 S (a1.take (k+1)):=by
   funext v
   unfold Vu R3
   rw[AB hk]
   simp only[JA,Aq,AT,Bool.or_assoc]
   congr 1
   by_cases hv:v=a1[k].toNat
   ·subst hv
    have:((a1[k].toNat:Nat):Int)=a1[k]:=by omega
    rw[this];simp
   ·have h1:(v==a1[k].toNat)=false:=by simpa using hv
    have h2:¬((v:Int)=a1[k]):=by omega
    rw[h1];simp[h2]
  rw[this]
 ·simp only[Ix,Ba,Ad,A6]
theorem MJ{n:Nat}{S T:Nat->Bool}(h:∀u,u < n->S u=T u):C1 n S=C1 n T:=by
 unfold C1
 rw[FY λu hu=>h u (An.1 hu)]
theorem Zy{m:Nat}{S:Nat->Bool}(h:∀u,m<=u->S u=false):∀d,C1 (m+d) S=C1 m S
 |0=>rfl
 |d+1=>by rw[<-Nat.add_assoc,Zw,Zy h d,h (m+d) (by omega)];simp
theorem TU(n:Nat)(S:Nat->Bool)(p:Int->Bool):(C1 n S).filter p=C1 n λu=>S u&&p (u:Int):=by
 unfold C1
 rw[List.filter_map,List.filter_filter]
 congr 2
 funext u
 simp only[Function.comp]
 exact HU _ _
theorem WS{n:Nat}{S:Nat->Bool}{x:Int}:x∈C1 n S↔∃u:Nat,x=(u:Int)∧u < n∧S u=true:=by
 unfold C1
 rw[Bh]
 constructor
 ·rintro⟨u,hu,rfl⟩
  obtain⟨h1,h2⟩:=Bf.1 hu
  exact⟨u,rfl,An.1 h1,h2⟩
 ·rintro⟨u,rfl,h1,h2⟩
  exact⟨u,Bf.2 ⟨An.2 h1,h2⟩,rfl⟩
theorem WR(n:Nat)(S:Nat->Bool)(u:Nat):(C1 n S).contains (u:Int)=(decide (u < n)&&S u):=by
 rw[AL,Av,WS,Ab,AE]
 constructor
 ·rintro⟨w,e,h1,h2⟩
  obtain rfl:u=w:=by omega
  exact⟨h1,h2⟩
 ·rintro⟨h1,h2⟩
  exact⟨u,rfl,h1,h2⟩
theorem ig(a:SR)(k:Nat):YE a k=C1 k λv=>a.2.contains (v:Int):=rfl
def Fe(q:Hc)(v w:Nat):Bool:=w !=v&&q.2.1.any λa=>a.2.contains (v:Int)&&a.2.contains (w:Int)
theorem Tc(k v:Nat):((k:Int)!=(v:Int))=(k !=v):=by
 rw[AL,Ct,Ct];omega
section
variable {q:Hc}
theorem xm(hq:JH q)(v k:Nat):Ap (GI q (v:Int) (k:Int)) fz (false,0)=some (Fe q v k):=by
 have:=Cs (body:=GI q (v:Int) (k:Int)) (out:=Fe q v k) (λj=>(k !=v&&(q.2.1.take j).any λa=>a.2.contains (v:Int)&&a.2.contains (k:Int),(j:Int))) q.2.1.length (λj hj rec=>by
  have ha:=hq.2.1 _ (Ak hj)
  unfold GI GJ
  simp only
  rw[Bu hj,Bm hj,BC hj (Be hq.1),Tc]
  simp only[Ac,Aa,X9 ha.2]
  have e:((q.2.1.take (j+1)).any λa=>a.2.contains (v:Int)&&a.2.contains (k:Int))=((q.2.1.take j).any (λa=>a.2.contains (v:Int)&&a.2.contains (k:Int)) || (q.2.1[j].2.contains (v:Int)&&q.2.1[j].2.contains (k:Int))):=by
   rw[AB hj,GC];simp
  rw[e]
  cases k !=v<;>cases(q.2.1.take j).any (λa=>a.2.contains (v:Int)&&a.2.contains (k:Int))<;>cases q.2.1[j].2.contains (v:Int)<;>cases q.2.1[j].2.contains (k:Int)<;>rfl) (λrec=>by unfold GI;simp only;rw[Ba,A6];rfl) fz (CQ hq.1)
 simpa using this
theorem o6(hq:JH q)(hv:De q=true)(v:Nat):K4 q (v:Int)=some (C1 q.1.toNat (Fe q v)):=by
 obtain⟨h1,h5⟩:=KY hv
 unfold K4
 rw[show((([]:List Int),(0:Int)):List Int×Int)=(C1 0 (Fe q v),((0:Nat):Int))from rfl,Cs (body:=Iq q (v:Int)) (out:=C1 q.1.toNat (Fe q v)) (λk=>(C1 k (Fe q v),(k:Int))) q.1.toNat (λk hk rec=>by
  unfold Iq Kw
  simp only
  rw[Ag (by omega:(k:Int) < q.1),Ks hq,hv]
  simp only[Ac,Aa,xm hq]
  have:=L4 k (Fe q v)
  rw[AH (by unfold lim;simp;omega),wrap_in (by omega),Zw]
  cases Fe q v k
  ·simp
  ·rfl) (λrec=>by
  unfold Iq
  simp only
  rw[Ah (by omega:¬((q.1.toNat:Nat):Int) < q.1)];rfl) fz (CQ (by unfold lim;omega))]
 rfl
theorem YN{l:List Int}(h:l.length < lim)(v:Int):Nj l v=some (l.filter λx=>x !=v):=by
 unfold Nj
 rw[show((([]:List Int),(0:Int)):List Int×Int)=((l.take 0).filter (λx=>x !=v),((0:Nat):Int))from rfl,Cs (body:=JR l v) (out:=l.filter λx=>x !=v) (λk=>((l.take k).filter (λx=>x !=v),(k:Int))) l.length (λk hk rec=>by
  unfold JR Mo
  simp only
  rw[Bu hk,Bm hk,BC hk (Be (Cd h)),iT _ hk]
  simp only[Ac,Aa]
  have:=BS (λx=>x !=v) (l.take k)
  rw[Bb]at this
  rw[AH (by simp;omega)]
  cases l[k]!=v
  ·simp
  ·rfl) (λrec=>by unfold JR;simp only;rw[Ba,A6];rfl) fz (CQ (Cd h))]
 rfl
theorem oC(hq:JH q)(hv:De q=true)(v:Nat):KK q (v:Int)=some (C1 q.1.toNat (Fe q v)):=by
 obtain⟨h1,h5⟩:=KY hv
 obtain⟨_,_,h4,hin⟩:=MG hv
 unfold KK
 rw[Mj hq,hv]
 simp only[Aa,Al,Ad]
 rw[show((([]:List Int),(0:Int)):List Int×Int)=(C1 100 (λu=>(q.2.1.take 0).any λa=>a.2.contains (v:Int)&&a.2.contains (u:Int)),((0:Nat):Int))from by
  rw[MJ (T:=λ_=>false) (λu _=>by simp)];unfold C1;simp,Cs (body:=H8 q (v:Int)) (out:=C1 100 (λu=>q.2.1.any λa=>a.2.contains (v:Int)&&a.2.contains (u:Int))) (λk=>(C1 100 (λu=>(q.2.1.take k).any λa=>a.2.contains (v:Int)&&a.2.contains (u:Int)),(k:Int))) q.2.1.length (λk hk rec=>by
  have ha:=hq.2.1 _ (Ak hk)
  have hia:=(hin _ (Ak hk)).2
  unfold H8 Ko
  simp only
  rw[Bu hk,Bm hk,BC hk (Be hq.1)]
  simp only[Ac,Aa,cY ha.2,uE ha.2 (cY ha.2)]
  have e:(λu:Nat=>(q.2.1.take (k+1)).any λa=>a.2.contains (v:Int)&&a.2.contains (u:Int))=λu:Nat=>((q.2.1.take k).any (λa=>a.2.contains (v:Int)&&a.2.contains (u:Int)) || (q.2.1[k].2.contains (v:Int)&&q.2.1[k].2.contains (u:Int))):=by
   funext u
   rw[AB hk,GC];simp
  rw[e]
  cases hc:q.2.1[k].2.contains (v:Int)with
  |false=>simp only[Ad,I3,CV]
  |true=>
   have hl:=ZB q.2.1[k] 5
   have hm:∀x∈YE q.2.1[k] 5,(0:Int)<=x∧x<=99:=λx hx=>by
    rw[ig]at hx
    obtain⟨u,rfl,hu,_⟩:=WS.1 hx
    omega
   rw[Ac,Z2 (by unfold lim;omega) hm]
   simp only
   rw[MJ (λu hu=>?_)]
   unfold R3
   rw[ig,WR,Aw]
   congr 1
   rw[AL,Ab,AE]
   refine⟨λh=>h.2,λh=>⟨?_,h⟩⟩
   have:=hia _ (Av.1 h)
   omega) (λrec=>by unfold H8;simp only;rw[Ba,A6];rfl) fz (CQ hq.1)]
 have hl:=L4 100 (λu=>q.2.1.any λa=>a.2.contains (v:Int)&&a.2.contains (u:Int))
 simp only
 rw[YN (by unfold lim;omega),TU]
 simp only
 obtain⟨d,hd⟩:∃d,100=q.1.toNat+d:=⟨100 - q.1.toNat,by omega⟩
 rw[hd,Zy (λu hu=>?_)]
 ·rw[MJ (λu _=>?_)]
  unfold Fe
  rw[Tc,HU]
 ·rw[GA]
  left
  rw[Cm]
  intro a ha h
  rw[Ab]at h
  have:=((hin a ha).2 _ (Av.1 h.2)).2
  omega
end
def oAt(O:List Nat)(i:Nat):Nat:=O.getD i 0
def R6(O:List Nat)(G:Nat->Nat->Bool)(i:Nat):Nat->Bool:=λu=>u==oAt O i || (G (oAt O i) u&& !(O.take i).contains u)
def stepG(O:List Nat)(G:Nat->Nat->Bool)(i:Nat):Nat->Nat->Bool:=λa b=>G a b || ((R6 O G i a&&R6 O G i b)&&a !=b)
def Qe(O:List Nat)(G:Nat->Nat->Bool):Nat->Nat->Nat->Bool
 |0=>G
 |i+1=>stepG O (Qe O G i) i
def QW(O:List Nat)(G:Nat->Nat->Bool)(i:Nat):Nat->Bool:=R6 O (Qe O G i) i
def My(O:List Nat)(G:Nat->Nat->Bool)(i:Nat):List Int:=C1 O.length (QW O G i)
def nxt(O:List Nat)(G:Nat->Nat->Bool)(i:Nat):Nat:=((List.range' (i+1) (O.length - 1 - i)).find? λk=>QW O G i (oAt O k)).getD (i+1)
def JG(O:List Nat)(G:Nat->Nat->Bool)(i:Nat):Int:=cond (i+1==O.length) (-1) (nxt O G i:Int)
def OJ(O:List Nat)(G:Nat->Nat->Bool):List (List Int)×List Int:=((List.range O.length).map (My O G),(List.range O.length).map (JG O G))
theorem Xx{n r:Nat}{f:Nat->Bool}(hr:r < n)(h1:f r=true)(h2:∀i,i < n->f i=true->i=r):(List.range n).filter f=[r]:=
 j6 (D6 _ EJ) (Bf.2 ⟨An.2 hr,h1⟩) (λi hi=>h2 i (An.1 (Bf.1 hi).1) (Bf.1 hi).2)
def Vp(O:List Nat):Prop:=O.Nodup∧∀x∈O,x < O.length
section
variable {O:List Nat}{G:Nat->Nat->Bool}
theorem KV{i:Nat}(h:i < O.length):oAt O i=O[i]:=by unfold oAt;rw[Au,Af h];rfl
theorem Rs(hp:Vp O){i:Nat}(h:i < O.length):oAt O i < O.length:=by rw[KV h];exact hp.2 _ (Ak h)
theorem Qw(hp:Vp O){i j:Nat}(hi:i < O.length)(hj:j < O.length)(h:oAt O i=oAt O j):i=j:=by
 rw[KV hi,KV hj]at h
 exact(JC hp.1).1 h
theorem U7(hp:Vp O){u:Nat}(h:u < O.length):∃p,p < O.length∧oAt O p=u:=by
 have hm:u∈O:=Bn λhc=>by
  have hn:((u::O).map λx:Nat=>(x:Int)).Nodup:=by
   unfold List.Nodup
   rw[E8]
   refine GU (λh e=>h (by omega)) (show(u::O).Pairwise (· ≠ ·)from BH.2 ⟨hc,hp.1⟩)
  have:=few O.length _ hn (λe he=>by
   obtain⟨x,hx,rfl⟩:=Bh.1 he
   have:x < O.length:=(AV.1 hx).elim (λe=>e ▸ h) (hp.2 x)
   omega)
  rw[As,Ax]at this
  omega
 obtain⟨p,hpl,e⟩:=Cx.1 hm
 exact⟨p,hpl,by rw[KV hpl,e]⟩
theorem XR(hp:Vp O){i p:Nat}(h:p < O.length):(O.take i).contains (oAt O p)=decide (p < i):=by
 rw[AL,Av,AE,G5]
 constructor
 ·rintro⟨j,hj,e⟩
  have hj':j < O.length:=by omega
  rw[<-KV hj']at e
  have:=Qw hp hj' h e
  omega
 ·intro hi
  exact⟨p,by omega,by rw[KV h]⟩
theorem Xg(hp:Vp O){i p:Nat}(hi:i < O.length)(h:p < O.length):QW O G i (oAt O p)=(p==i || (Qe O G i (oAt O i) (oAt O p)&&decide (i<=p))):=by
 unfold QW R6
 rw[XR hp h]
 have e1:(oAt O p==oAt O i)=(p==i):=by
  rw[AL,Bi,Bi]
  exact⟨Qw hp h hi,λe=>by rw[e]⟩
 have e2:(!decide (p < i))=decide (i<=p):=by
  rw[AL];simp
 rw[e1,e2]
theorem ZY{i:Nat}{a b:Nat}(h:Qe O G i a b=true):∀d,Qe O G (i+d) a b=true
 |0=>h
 |d+1=>by
  show stepG O (Qe O G (i+d)) (i+d) a b=true
  unfold stepG
  rw[ZY h d];rfl
def Sym(G:Nat->Nat->Bool):Prop:=∀a b,G a b=G b a
def Irr(G:Nat->Nat->Bool):Prop:=∀a,G a a=false
theorem i8(h:Sym G):∀i,Sym (Qe O G i)
 |0=>h
 |i+1=>λa b=>by
  show stepG O (Qe O G i) i a b=stepG O (Qe O G i) i b a
  unfold stepG
  have e:(a !=b)=(b !=a):=by rw[AL,Ct,Ct];exact⟨Ne.symm,Ne.symm⟩
  rw[i8 h i a b,HU (R6 O (Qe O G i) i a),e]
theorem i7(h:Irr G):∀i,Irr (Qe O G i)
 |0=>h
 |i+1=>λa=>by
  show stepG O (Qe O G i) i a a=false
  unfold stepG
  rw[i7 h i a];simp
theorem jZ(hp:Vp O){i:Nat}(hi:i+1 < O.length):i < nxt O G i∧nxt O G i < O.length∧(∀k,i < k->k < nxt O G i->QW O G i (oAt O k)=false)∧((∃k,i < k∧k < O.length∧QW O G i (oAt O k)=true)->QW O G i (oAt O (nxt O G i))=true):=by
 unfold nxt
 cases hf:(List.range' (i+1) (O.length - 1 - i)).find? λk=>QW O G i (oAt O k)with
 |none=>
  rw[List.find?_eq_none]at hf
  refine⟨Hz i,hi,λk h1 h2=>by simp at h2;omega,λ⟨k,h1,h2,h3⟩=>?_⟩
  exact absurd h3 (hf k (GW.2 (by omega)))
 |some k=>
  obtain⟨h1,A1,A2,e,h2⟩:=List.find?_eq_some_iff_append.1 hf
  have hk:k∈List.range' (i+1) (O.length - 1 - i):=by rw[e];simp
  have hkr:=GW.1 hk
  refine⟨by simp;omega,by simp;omega,λj h3 h4=>?_,λ_=>h1⟩
  simp only[BB]at h4
  have hj:j∈A1:=by
   have hm:j∈List.range' (i+1) (O.length - 1 - i):=GW.2 (by omega)
   rw[e,Aq]at hm
   rcases hm with hm|hm
   ·exact hm
   ·exfalso
    have hpw:(List.range' (i+1) (O.length - 1 - i)).Pairwise (· < ·):=List.pairwise_lt_range'
    rw[e]at hpw
    rcases AV.1 hm with hm|hm
    ·omega
    ·have:=(Ic.1 (List.pairwise_append.1 hpw).2.1).1 j hm
     omega
  have:=h2 j hj
  simpa using this
theorem km{i:Nat}(hi:i < O.length):((List.range O.length).map (JG O G))[i]? =some (JG O G i):=by
 rw[BE,CE hi];rfl
theorem W2{i:Nat}(hi:i < O.length)(f:Int->Bool):J6 ((List.range O.length).map (JG O G)) i f=f (JG O G i):=by
 unfold J6;rw[km hi]
theorem WT{i:Nat}(hi:i < O.length)(f:List Int->Bool):J6 ((List.range O.length).map (My O G)) i f=f (My O G i):=by
 unfold J6;rw[BE,CE hi];rfl
theorem tj{i:Nat}(hi:i < O.length):WP ((List.range O.length).map (JG O G)) (i:Int)=JG O G i:=by
 unfold WP
 rw[Bk,km hi];rfl
theorem MT(hp:Vp O){i:Nat}(hi:i < O.length):(JG O G i= -1∧i+1=O.length)∨(∃k:Nat,JG O G i=(k:Int)∧i < k∧k < O.length∧k=nxt O G i∧i+1 < O.length):=by
 unfold JG
 by_cases h:i+1=O.length
 ·left;rw[Bi.2 h];exact⟨rfl,h⟩
 ·right
  rw[A3.2 h]
  have:=jZ (G:=G) hp (i:=i) (by omega)
  exact⟨_,rfl,this.1,this.2.1,rfl,by omega⟩
theorem lF(p:List Int):∀m,SQ p m (-1)=some (-1)
 |0=>rfl
 |m+1=>by rw[SQ,AJ (by omega)]
theorem cC(hp:Vp O):∀(m i:Nat),i < O.length->O.length<=m+i->SQ ((List.range O.length).map (JG O G)) m (i:Int)=some (-1)
 |0,i,h1,h2=>by omega
 |m+1,i,h1,h2=>by
  rw[SQ,AI (by omega),tj h1]
  have hin:inP ((List.range O.length).map (JG O G)) (JG O G i)=true:=by
   unfold inP Iw
   rw[As,BZ,Ab,AE,AE]
   rcases MT (G:=G) hp h1 with⟨e,_⟩|⟨k,e,_,hk,_⟩<;>rw[e]<;>omega
  rw[AI hin]
  rcases MT (G:=G) hp h1 with⟨e,_⟩|⟨k,e,h3,hk,_⟩
  ·rw[e];exact lF _ m
  ·rw[e];exact cC hp m k hk (by omega)
theorem iF(hp:Vp O)(h0:0 < O.length):QD ((List.range O.length).map (JG O G))=true:=by
 rw[<-Vk]
 unfold TP
 have hlen:((List.range O.length).map (JG O G)).length=O.length:=by simp
 rw[Ab]
 constructor
 ·rw[AC]
  refine MK λi hi=>?_
  rw[hlen]at hi
  have e:((List.range O.length).map (JG O G))[i]'(by rw[hlen];exact hi)=JG O G i:=by simp
  rw[e,CF]
  constructor
  ·rw[CM]
   unfold inP Iw
   rw[hlen,Ab,AE,AE]
   rcases MT (G:=G) hp hi with⟨e,_⟩|⟨k,e,_,hk,_⟩<;>rw[e]<;>omega
  ·rw[CM]
   unfold endsB
   rw[hlen,cC hp _ i hi (by omega)]
   rfl
 ·have:Tv (λx=>decide (x < 0)) ((List.range O.length).map (JG O G)) ((List.range O.length).map (JG O G)).length=[O.length - 1]:=by
   rw[hlen]
   refine Xx (by omega) ?_ λi hi h=>?_
   ·rw[W2 (by omega),AE]
    rcases MT (G:=G) hp (i:=O.length - 1) (by omega)with⟨e,_⟩|⟨k,e,h3,hk,_⟩
    ·rw[e];omega
    ·omega
   ·rw[W2 hi,AE]at h
    rcases MT (G:=G) hp hi with⟨e,h4⟩|⟨k,e,h3,hk,_⟩
    ·omega
    ·omega
  rw[this];rfl
theorem ia(n:Nat)(S:Nat->Bool):(C1 n S).Pairwise (· < ·):=by
 unfold C1
 rw[E8]
 exact GU (λh=>by omega) (D6 _ Iy)
theorem dI{n:Nat}(hn:1<=n∧n<=5){S:Nat->Bool}(h:∃u,u < n∧S u=true):QV (n:Int) (C1 n S)=true:=by
 unfold QV
 rw[Ab]
 constructor
 ·rw[AC]
  refine MK λi hi=>?_
  rw[CF]
  constructor
  ·obtain⟨u,e,hu,_⟩:=WS.1 (Ak hi)
   unfold b7 Iw
   rw[e,wrap_in (by omega),CM,Ab,AE,AE]
   omega
  ·unfold Oq
   rw[GA]
   by_cases h0:0 < i
   ·right
    rw[CP (show i - 1 < (C1 n S).length by omega)]
    have:=List.pairwise_iff_getElem.1 (ia n S) (i - 1) i (by omega) hi (by omega)
    exact Ah (by omega)
   ·left;exact Ah h0
 ·obtain⟨u,h1,h2⟩:=h
  have:(u:Int)∈C1 n S:=WS.2 ⟨u,rfl,h1,h2⟩
  rw[AE]
  exact Int.natCast_pos.2 (Gl this)
theorem Uz(hp:Vp O){i p:Nat}(hi:i < O.length)(h:p < O.length):(My O G i).contains ((oAt O p:Nat):Int)=(p==i || (Qe O G i (oAt O i) (oAt O p)&&decide (i<=p))):=by
 unfold My
 rw[WR,Ag (Rs hp h),Aw,Xg hp hi h]
theorem iE(hp:Vp O)(hs:Sym G)(h0:0 < O.length):Wy id ((List.range O.length).map (My O G)) ((List.range O.length).map (JG O G)) O.length=false:=by
 unfold Wy
 rw[Cm]
 intro v hv
 have hv:=An.1 hv
 obtain⟨p,hpl,rfl⟩:=U7 hp hv
 have:Lz id ((List.range O.length).map (My O G)) ((List.range O.length).map (JG O G)) ((oAt O p:Nat):Int) ((List.range O.length).map (JG O G)).length=1:=by
  unfold Lz
  rw[As,BZ,Xx (r:=p) hpl ?_ ?_]
  ·rfl
  ·unfold Yn
   rw[WT hpl,W2 hpl,id,Uz hp hpl hpl,BY,Ht,Aw]
   rcases MT (G:=G) hp hpl with⟨e,_⟩|⟨k,e,h3,hk,_⟩
   ·rw[e];rfl
   ·rw[e,Bk,WT hk,id,Uz hp hk hpl,A3.2 (by omega),Ah (by omega:¬k<=p)]
    simp
  ·intro i hi h
   unfold Yn at h
   rw[WT hi,W2 hi,id,Uz hp hi hpl,Ab]at h
   obtain⟨h1,h2⟩:=h
   rw[Cq,Bi,Ab,AE]at h1
   rcases h1 with h1|⟨hg,hle⟩
   ·exact h1.symm
   ·refine Bn λhne=>?_
    rcases MT (G:=G) hp hi with⟨e,h4⟩|⟨k,e,h3,hk,hkn,h5⟩
    ·omega
    ·have hin:QW O G i (oAt O p)=true:=by
      rw[Xg hp hi hpl,hg,Ag hle];simp
     obtain⟨n1,n2,n3,n4⟩:=jZ (G:=G) hp h5
     have hkp:k<=p:=Bn λhc=>by
      have:=n3 p (by omega) (by omega)
      rw[hin]at this;cases this
     have hkb:QW O G i (oAt O k)=true:=by rw[hkn];exact n4 ⟨p,by omega,hpl,hin⟩
     rw[e,Bk,WT hk,id,Uz hp hk hpl]at h2
     have hn0:decide ((k:Int) < 0)=false:=Ah (by omega)
     rw[hn0,Ck,AC,CF,A3,Ag hkp,Cu]at h2
     have hstep:Qe O G (i+1) (oAt O k) (oAt O p)=true:=by
      show stepG O (Qe O G i) i (oAt O k) (oAt O p)=true
      unfold stepG
      have hne2:(oAt O k !=oAt O p)=true:=by
       rw[Ct];intro e2;exact h2.1 (Qw hp hk hpl e2).symm
      rw[show R6 O (Qe O G i) i (oAt O k)=true from hkb,show R6 O (Qe O G i) i (oAt O p)=true from hin,hne2];simp
     have:=ZY hstep (k - (i+1))
     rw[show i+1+(k - (i+1))=k from by omega]at this
     rw[this]at h2
     cases h2.2
 rw[this];simp
end
theorem jW(q:Hc):Sym (Fe q):=λa b=>by
 unfold Fe
 have e:(b !=a)=(a !=b):=by rw[AL,Ct,Ct];exact⟨Ne.symm,Ne.symm⟩
 rw[e]
 congr 2
 funext x
 exact HU _ _
theorem su(q:Hc):Irr (Fe q):=λa=>by unfold Fe;simp
theorem pI{q:Hc}{O:List Nat}(hv:De q=true)(hp:Vp O)(hl:O.length=q.1.toNat):ZP q (OJ O (Fe q))=true:=by
 obtain⟨h1,h5,_,hat⟩:=Zb hv
 have hq:q.1=(O.length:Int):=by omega
 unfold ZP OJ
 simp only
 rw[hv,iF hp (by omega),<-hl,iE hp (jW q) (by omega)]
 have e1:(!B9 ((List.range O.length).map (My O (Fe q))) λ_ b=> !QV q.1 b)=true:=by
  rw[AC]
  refine MK λi hi=>?_
  rw[As,BZ]at hi
  rw[BQ,D3,CM,hq]
  refine dI ⟨by omega,by omega⟩ ⟨oAt O i,Rs hp hi,?_⟩
  rw[Xg hp hi hi];simp
 have e2:(!B9 q.2.1 λ_ a=> !((List.range O.length).map (My O (Fe q))).any (PP a))=true:=by
  rw[AC]
  refine MK λj hj=>?_
  obtain⟨ha1,ha2,ha3⟩:=hat _ (Ak hj)
  have ham:=Ak hj
  rw[CM,Nn,Cg]
  generalize q.2.1[j]=a at ha1 ha2 ha3 ham
  have hvar:∀v∈a.2,∃p,p < O.length∧v=((oAt O p:Nat):Int):=λv hv=>by
   obtain⟨b1,b2⟩:=ha3 v hv
   obtain⟨p,b3,b4⟩:=U7 hp (u:=v.toNat) (by omega)
   exact⟨p,b3,by omega⟩
  cases hf:(List.range O.length).find? λp=>a.2.contains ((oAt O p:Nat):Int)with
  |none=>
   exfalso
   obtain⟨p,b3,b4⟩:=hvar _ (Ak (show 0 < a.2.length by omega))
   have:=(List.find?_eq_none.1 hf) p (An.2 b3)
   rw[<-b4]at this
   exact this (Av.2 (Ak _))
  |some p=>
   obtain⟨c1,c2,c3⟩:=List.find?_range_eq_some.1 hf
   have hpl:=An.1 c2
   refine⟨p,c2,?_⟩
   show PP a (My O (Fe q) p)=true
   unfold PP
   rw[Ae]
   intro v hv'
   obtain⟨k,hk,rfl⟩:=hvar v hv'
   rw[Uz hp hpl hk]
   have hpk:p<=k:=Bn λhc=>by
    have:=c3 k (by omega)
    rw[Av.2 hv']at this
    cases this
   rw[Ag hpk,Cu]
   by_cases he:k=p
   ·rw[Bi.2 he];rfl
   ·rw[A3.2 he,Ck]
    have hg:Qe O (Fe q) 0 (oAt O p) (oAt O k)=true:=by
     show Fe q (oAt O p) (oAt O k)=true
     unfold Fe
     rw[Ab,Ct,Cg]
     exact⟨λe=>he (Qw hp hk hpl e),a,ham,by rw[c1,Av.2 hv'];rfl⟩
    have:=ZY hg p
    rwa [Dv]at this
 rw[e1,e2]
 simp
def Pj(n:Nat)(H:Nat->Nat->Bool):List Bool:=(List.range (n * n)).map λt=>H (t / n) (t % n)
theorem r9(n:Nat)(H:Nat->Nat->Bool):(Pj n H).length=n * n:=by simp[Pj]
theorem jT{n v u:Nat}(hv:v < n)(hu:u < n):v * n+u < n * n:=by
 have:(v+1) * n<=n * n:=Cy n hv
 rw[DG]at this
 omega
theorem eU{n v u:Nat}(hu:u < n):(v * n+u) / n=v∧(v * n+u) % n=u:=by
 constructor
 ·rw[KT,Nat.add_mul_div_right _ _ (by omega),Nat.div_eq_of_lt hu,Dv]
 ·rw[KT,Nat.add_mul_mod_self_right,JF hu]
theorem dk{n v u:Nat}(H:Nat->Nat->Bool)(hv:v < n)(hu:u < n):AZ (Pj n H) ((v * n+u:Nat):Int)=some (H v u):=by
 have hi:=jT hv hu
 unfold AZ
 rw[AI (by omega),Bk]
 unfold Pj
 rw[BE,CE hi,Br,(eU hu).1,(eU hu).2]
theorem jU{n v u:Nat}(H:Nat->Nat->Bool)(x:Bool)(hv:v < n)(hu:u < n):Da (Pj n H) ((v * n+u:Nat):Int) x=Pj n λa b=>if a=v∧b=u then x else H a b:=by
 unfold Da Pj
 rw[Bk]
 refine GV λt=>?_
 by_cases ht:t < n * n
 ·rw[DM,BE,BE,CE ht,Br,Br]
  have hn:0 < n:=by omega
  by_cases he:v * n+u=t
  ·rw[AI he,AI (by simp;exact jT hv hu),<-he,(eU hu).1,(eU hu).2]
   show some x=some (if v=v∧u=u then x else H v u)
   rw[AI ⟨rfl,rfl⟩]
  ·rw[AJ he]
   have:¬(t / n=v∧t % n=u):=λ⟨h1,h2⟩=>he (by
    have:=Nat.div_add_mod t n
    rw[h1,h2,Nat.mul_comm]at this
    exact this)
   show some (H (t / n) (t % n))=some (if t / n=v∧t % n=u then x else H (t / n) (t % n))
   rw[AJ this]
 ·rw[A8 (by simp;omega),A8 (by simp;omega)]
theorem Ma{n:Nat}{H H':Nat->Nat->Bool}(h:∀a b,a < n->b < n->H a b=H' a b):Pj n H=Pj n H':=by
 unfold Pj
 refine BI λt ht=>?_
 have ht:=An.1 ht
 have hn:0 < n:=Nat.pos_of_ne_zero λe=>by subst e;simp at ht
 exact h _ _ (Nat.div_lt_of_lt_mul ht) (Np _ hn)
theorem ixw{n v u:Nat}(hn:n<=5)(hv:v < n)(hu:u < n):IntKind.i64.wrap (IntKind.i64.wrap ((v:Int) * (n:Int))+(u:Int))=((v * n+u:Nat):Int):=by
 have h1:=jT hv hu
 have h2:n * n<=25:=ET hn hn
 have h3:(v:Int) * (n:Int)=((v * n:Nat):Int):=by push_cast;rfl
 rw[h3]
 generalize v * n=m at h1⊢
 generalize n * n=k at h1 h2
 have e:IntKind.i64.wrap ((m:Nat):Int)=(m:Int):=wrap_in (by omega)
 rw[e,wrap_in (by omega)]
 omega
def oI(O:List Nat):List Int:=O.map λ(x:Nat)=>(x:Int)
theorem C6(O:List Nat):(oI O).length=O.length:=by simp[oI]
theorem SB{O:List Nat}{i:Nat}(h:i < O.length):AZ (oI O) (i:Int)=some ((oAt O i:Nat):Int):=by
 rw[Bm (by rw[C6];exact h),KV h]
 simp[oI]
theorem W1(O:List Nat)(i u:Nat):((oI O).take i).contains (u:Int)=(O.take i).contains u:=by
 unfold oI
 rw[AL,Av,Av,<-List.map_take,Bh]
 constructor
 ·rintro⟨x,hx,e⟩
  obtain rfl:x=u:=by omega
  exact hx
 ·intro h;exact⟨u,h,rfl⟩
theorem aa(k v:Nat):((k:Int)==(v:Int))=(k==v):=by
 rw[AL,Bi,Bi];omega
section
variable {q:Hc}{O:List Nat}{n:Nat}
theorem sN(h1:1<=n∧n<=5)(hn:q.1=(n:Int))(hp:Vp O)(hl:O.length=n){i:Nat}(hi:i < n)(H:Nat->Nat->Bool):
  Ap (C5 q (oI O) (Pj n H) (i:Int)) fz ([],0)=some (C1 n (R6 O H i)):=by
 have hio:i < O.length:=by omega
 have hoi:oAt O i < n:=by rw[<-hl];exact Rs hp hio
 rw[show((([]:List Int),(0:Int)):List Int×Int)=(C1 0 (R6 O H i),((0:Nat):Int))from rfl]
 exact Cs (body:=C5 q (oI O) (Pj n H) (i:Int)) (out:=C1 n (R6 O H i)) (λk=>(C1 k (R6 O H i),(k:Int))) n (λk hk rec=>by
  unfold C5 DV EV
  simp only
  have hal:=L4 k (R6 O H i)
  rw[hn,Ag (by omega:(k:Int) < (n:Int)),SB hio,wrap_in (by omega)]
  simp only[Ac,Aa]
  rw[aa,ixw h1.2 hoi hk,dk H hoi hk,Zw]
  simp only
  have e:R6 O H i k=(k==oAt O i || (H (oAt O i) k&& !(O.take i).contains k)):=rfl
  rw[AH (by unfold lim;simp;omega)]
  cases hc:k==oAt O i with
  |true=>
   rw[AI (by rw[e,hc];rfl)]
   rfl
  |false=>
   rw[Ad]
   cases hg:H (oAt O i) k with
   |false=>
    rw[AJ (by rw[e,hc,hg];simp)]
    simp
   |true=>
    rw[Ac,AH (by rw[C6];omega),SN,QM (by rw[Bb,C6];unfold lim;omega)]
    simp only
    rw[UJ,W1]
    cases ht:(O.take i).contains k with
    |true=>rw[AJ (by rw[e,hc,hg,ht];simp)];simp
    |false=>rw[AI (by rw[e,hc,hg,ht];rfl)];rfl) (λrec=>by
  unfold C5
  simp only
  rw[hn,Ah (by omega:¬(n:Int) < (n:Int))];rfl) fz (CQ (by unfold lim;omega))
theorem xw{bag:List Int}(h1:1<=n∧n<=5)(hn:q.1=(n:Int))(hl:O.length=n)(hb:bag.length<=lim)(p:Nat->Bool)(hpb:∀k,k < n->bag.contains ((oAt O k:Nat):Int)=p k):∀(d k m:Nat) (u:Int),k+d=n->d+1 < m->Ap (Cz q (oI O) bag) m (true,(k:Int),u)=some ((((List.range' k d).find? p).map λ(x:Nat)=>(x:Int)).getD u)
 |0,k,m+1,u,h2,h3=>by
  rw[By]
  generalize Ap (Cz q (oI O) bag) m=rec
  unfold Cz
  simp only
  rw[hn,Ah (by omega)];rfl
 |d+1,k,m+1,u,h2,h3=>by
  have hB:∀rec:(Bool×Int×Int)->Option Int,Cz q (oI O) bag rec (true,(k:Int),u)=cond (p k) (rec (false,((k+1:Nat):Int),(k:Int))) (rec (true,((k+1:Nat):Int),u)):=λrec=>by
   unfold Cz EW
   simp only
   rw[hn,Ag (by omega:(k:Int) < (n:Int)),SB (by omega)]
   simp only[Ac,Aa]
   rw[QM hb]
   simp only
   rw[MU,hpb k (by omega),wrap_in (by omega)]
   rfl
  have hE:∀(rec:(Bool×Int×Int)->Option Int) (x y:Int),Cz q (oI O) bag rec (false,x,y)=some y:=λrec x y=>by
   unfold Cz
   simp only
   cases decide (x < q.1)<;>rfl
  rw[By,hB,C4,List.find?_cons]
  cases hk:p k with
  |false=>
   rw[Ad,xw h1 hn hl hb p hpb d (k+1) m u (by omega) (by omega)]
  |true=>
   rw[Ac]
   cases m with
   |zero=>omega
   |succ m=>rw[By,hE];rfl
 |_,_,0,_,_,h3=>by omega
theorem xp{B:List Nat}(h1:1<=n∧n<=5)(hn:q.1=(n:Int))(hB:∀x∈B,x < n)(hnd:B.Nodup)(hbl:B.length<=5){a:Nat}(ha:a < B.length)(H:Nat->Nat->Bool):
  Ap (DU q (oI B) (a:Int)) fz (Pj n H,0)=some (Pj n λx y=>H x y || ((x==B[a]&&B.contains y)&&x !=y)):=by
 have hn1:0 < n * n:=Nat.mul_pos (by omega) (by omega)
 have key:=Cs (body:=DU q (oI B) (a:Int)) (out:=Pj n λx y=>H x y || ((x==B[a]&&(B.take B.length).contains y)&&x !=y)) (λj=>(Pj n λx y=>H x y || ((x==B[a]&&(B.take j).contains y)&&x !=y),(j:Int))) B.length (λj hj rec=>by
  unfold DU
  simp only
  have hga:∀(k:Nat) (hk:k < B.length),AZ (oI B) (k:Int)=some ((B[k]:Nat):Int):=λk hk=>by rw[SB hk,KV hk]
  have hba:=hB _ (Ak ha)
  have hbj:=hB _ (Ak hj)
  rw[C6,Bu hj,wrap_in (by omega),AH (by rw[r9];exact hn1),hga a ha,hga j hj]
  simp only[Ac,Aa]
  rw[hn,ixw h1.2 hba hbj,dk _ hba hbj,Tc]
  simp only
  have hpos:(a !=j)=(B[a]!=B[j]):=by
   rw[AL,Ct,Ct]
   exact⟨λh e=>h ((JC hnd).1 e),λh e=>h (by subst e;rfl)⟩
  have hset:∀b:Bool,b=(H B[a] B[j] || (B[a]!=B[j]))->Da (Pj n λx y=>H x y || ((x==B[a]&&(B.take j).contains y)&&x !=y)) ((B[a] * n+B[j]:Nat):Int) b=Pj n λx y=>H x y || ((x==B[a]&&(B.take (j+1)).contains y)&&x !=y):=λb hb=>by
   rw[jU _ _ hba hbj]
   refine Ma λx y hx hy=>?_
   have ht:(B.take (j+1)).contains y=((B.take j).contains y || y==B[j]):=by
    rw[AL,Cq,Av,Av,Bi,AB hj,Aq,AT]
   rw[ht]
   by_cases hxy:x=B[a]∧y=B[j]
   ·obtain⟨rfl,rfl⟩:=hxy
    rw[AI ⟨rfl,rfl⟩,hb];simp
   ·rw[AJ hxy]
    by_cases hx':x=B[a]
    ·have:(y==B[j])=false:=by rw[A3];exactλe=>hxy ⟨hx',e⟩
     rw[this];simp
    ·rw[A3.2 hx'];simp
  have hnot:(B.take j).contains B[j]=false:=by
   rw[IJ,Ne,Av,G5]
   rintro⟨k,hk,e⟩
   have:=(JC hnd).1 e
   omega
  rw[hnot]
  simp only[FC,I3,CV]
  cases hH:H B[a] B[j]with
  |true=>rw[Ac,hset true (by rw[hH];rfl)];rfl
  |false=>rw[Ad,hset (a !=j) (by rw[hH,hpos];rfl)];rfl) (λrec=>by
  unfold DU
  simp only
  rw[C6,Ba];rfl) fz (CQ (by unfold lim;omega))
 rw[A6]at key
 rw[<-key]
 congr 2
 refine Ma λx y _ _=>?_
 simp
theorem nE{B:List Nat}(h1:1<=n∧n<=5)(hn:q.1=(n:Int))(hB:∀x∈B,x < n)(hnd:B.Nodup)(hbl:B.length<=5)(H:Nat->Nat->Bool):
  Ap (DT q (oI B)) fz (Pj n H,0)=some (Pj n λx y=>H x y || ((B.contains x&&B.contains y)&&x !=y)):=by
 have key:=Cs (body:=DT q (oI B)) (out:=Pj n λx y=>H x y || (((B.take B.length).contains x&&B.contains y)&&x !=y)) (λj=>(Pj n λx y=>H x y || (((B.take j).contains x&&B.contains y)&&x !=y),(j:Int))) B.length (λj hj rec=>by
  unfold DT
  simp only
  rw[C6,Bu hj,wrap_in (by omega),xp h1 hn hB hnd hbl hj]
  simp only[Ac,Aa]
  have:(Pj n λx y=>(H x y || (((B.take j).contains x&&B.contains y)&&x !=y)) || ((x==B[j]&&B.contains y)&&x !=y))=Pj n λx y=>H x y || (((B.take (j+1)).contains x&&B.contains y)&&x !=y):=by
   refine Ma λx y _ _=>?_
   have ht:(B.take (j+1)).contains x=((B.take j).contains x || x==B[j]):=by
    rw[AL,Cq,Av,Av,Bi,AB hj,Aq,AT]
   rw[ht]
   cases H x y<;>cases(B.take j).contains x<;>cases x==B[j]<;>cases B.contains y<;>cases x !=y<;>rfl
  rw[this];rfl) (λrec=>by
  unfold DT
  simp only
  rw[C6,Ba];rfl) fz (CQ (by unfold lim;omega))
 rw[A6]at key
 rw[<-key]
 congr 2
 refine Ma λx y _ _=>?_
 simp
end
theorem Zz(n:Nat)(S:Nat->Bool):C1 n S=oI ((List.range n).filter S):=rfl
theorem Si{n:Nat}{S:Nat->Bool}{u:Nat}(h:u < n):((List.range n).filter S).contains u=S u:=by
 rw[AL,Av,Bf,An]
 exact⟨λh=>h.2,λh2=>⟨h,h2⟩⟩
theorem WX{n:Nat}{S:Nat->Bool}:∀x∈(List.range n).filter S,x < n:=λx hx=>An.1 (Bf.1 hx).1
theorem ep(n:Nat)(S:Nat->Bool):((List.range n).filter S).Nodup:=D6 _ EJ
theorem Py(n:Nat)(S:Nat->Bool):((List.range n).filter S).length<=n:=BD (BS _ _) (by simp)
theorem sqw{n:Nat}(hn:n<=5):IntKind.i64.wrap ((n:Int) * (n:Int))=((n * n:Nat):Int):=by
 have h2:n * n<=25:=ET hn hn
 have h3:(n:Int) * (n:Int)=((n * n:Nat):Int):=by push_cast;rfl
 rw[h3]
 generalize n * n=k at h2⊢
 exact wrap_in (by omega)
theorem sa(n:Nat):List.replicate (n * n) false=Pj n λ_ _=>false:=by
 unfold Pj
 rw[Eu,BZ]
section
variable {q:Hc}{n:Nat}
theorem xj{B:List Nat}(h1:1<=n∧n<=5)(hn:q.1=(n:Int))(hB:∀x∈B,x < n)(hbl:B.length<=5){v:Nat}(hv:v < n)(H:Nat->Nat->Bool):
  Ap (Iv q (v:Int) (oI B)) fz (Pj n H,0)=some (Pj n λx y=>H x y || (x==v&&B.contains y)):=by
 have key:=Cs (body:=Iv q (v:Int) (oI B)) (out:=Pj n λx y=>H x y || (x==v&&(B.take B.length).contains y)) (λj=>(Pj n λx y=>H x y || (x==v&&(B.take j).contains y),(j:Int))) B.length (λj hj rec=>by
  unfold Iv
  simp only
  have hbj:=hB _ (Ak hj)
  rw[C6,Bu hj,wrap_in (n:=(j:Int)+1) (by omega),SB hj,KV hj]
  simp only[Ac,Aa]
  rw[hn,ixw h1.2 hv hbj,dk _ hv hbj]
  simp only
  rw[jU _ _ hv hbj]
  have:(Pj n λa b=>if a=v∧b=B[j]then true else H a b || (a==v&&(B.take j).contains b))=Pj n λx y=>H x y || (x==v&&(B.take (j+1)).contains y):=by
   refine Ma λx y hx hy=>?_
   have ht:(B.take (j+1)).contains y=((B.take j).contains y || y==B[j]):=by
    rw[AL,Cq,Av,Av,Bi,AB hj,Aq,AT]
   rw[ht]
   by_cases hxy:x=v∧y=B[j]
   ·obtain⟨rfl,rfl⟩:=hxy
    rw[AI ⟨rfl,rfl⟩];simp
   ·rw[AJ hxy]
    by_cases hx':x=v
    ·have:(y==B[j])=false:=by rw[A3];exactλe=>hxy ⟨hx',e⟩
     rw[this];simp
    ·rw[A3.2 hx'];simp
  rw[this];rfl) (λrec=>by
  unfold Iv
  simp only
  rw[C6,Ba];rfl) fz (CQ (by unfold lim;omega))
 rw[A6]at key
 rw[<-key]
 congr 2
 refine Ma λx y _ _=>?_
 simp
theorem kI(hq:JH q)(hv:De q=true):NC q=some (Pj q.1.toNat (Fe q)):=by
 obtain⟨h1,h5⟩:=KY hv
 have hn:q.1=((q.1.toNat:Nat):Int):=by omega
 generalize q.1.toNat=n at hn
 have hn5:1<=n∧n<=5:=by omega
 have hn2:q.1.toNat=n:=by omega
 have h25:n * n<=25:=ET hn5.2 hn5.2
 unfold NC
 rw[hn,sqw hn5.2,Bk,AH (by generalize n * n=k at h25⊢;unfold lim;omega),sa]
 have:=Cs (body:=KA q) (out:=Pj n (Fe q)) (λv=>(Pj n λa b=>decide (a < v)&&Fe q a b,(v:Int))) n (λv hvn rec=>by
  unfold KA
  simp only
  rw[hn,Ag (by omega:(v:Int) < (n:Int)),o6 hq hv,hn2,Zz,wrap_in (by omega)]
  simp only[Ac,Aa]
  rw[xj hn5 hn WX (BD (Py _ _) hn5.2) hvn]
  simp only
  have:(Pj n λx y=>(decide (x < v)&&Fe q x y) || (x==v&&((List.range n).filter (Fe q v)).contains y))=Pj n λa b=>decide (a < v+1)&&Fe q a b:=by
   refine Ma λx y hx hy=>?_
   rw[Si hy]
   by_cases hxv:x=v
   ·subst hxv
    rw[Ah (Ft _),Ag (Hz _)];simp
   ·rw[A3.2 hxv]
    have:decide (x < v)=decide (x < v+1):=by
     rw[AL,AE,AE];omega
    rw[this];simp
  rw[this];rfl) (λrec=>by
  unfold KA
  simp only
  rw[hn,Ah (by omega:¬(n:Int) < (n:Int)),Ad]
  congr 1
  refine Ma λx y hx hy=>?_
  rw[Ag hx,Aw]) fz (CQ (by unfold lim;omega))
 have e0:(Pj n λa b=>decide (a < 0)&&Fe q a b)=Pj n λ_ _=>false:=Ma λx y _ _=>by simp
 rw[e0]at this
 rw[show((Pj n λ_ _=>false,(0:Int)):List Bool×Int)=(Pj n λ_ _=>false,((0:Nat):Int))from rfl,this]
 rfl
theorem kj{O:List Nat}(hv:De q=true)(hp:Vp O)(hl:O.length=q.1.toNat):dt q (oI O)=true:=by
 obtain⟨h1,h5⟩:=KY hv
 unfold dt
 rw[hv,C6,Aw,Ab,Bi]
 refine⟨by omega,?_⟩
 rw[AC]
 refine MK λi hi=>?_
 rw[C6]at hi
 have e:(oI O)[i]'(by rw[C6];exact hi)=((oAt O i:Nat):Int):=by rw[KV hi];simp[oI]
 have hlt:=Rs hp hi
 unfold G7 Iw
 rw[e,W1,XR hp hi,Ah (Ft i),wrap_in (by omega),CV,CM,Ab,AE,AE]
 omega
theorem b6(o:Option Nat)(u:Nat):(o.map λ(x:Nat)=>(x:Int)).getD (u:Int)=((o.getD u:Nat):Int):=by cases o<;>rfl
theorem U4{α:Type}(f:Nat->α)(i:Nat):(List.range i).map f++[f i]=(List.range (i+1)).map f:=by rw[CI,BU];rfl
theorem xe{O:List Nat}(hq:JH q)(hv:De q=true)(hp:Vp O)(hl:O.length=q.1.toNat):FL q (oI O)=some (OJ O (Fe q),true):=by
 obtain⟨h1,h5⟩:=KY hv
 have hj:=kI hq hv
 rw[<-hl]at hj
 have hn:q.1=(O.length:Int):=by omega
 have hn5:1<=O.length∧O.length<=5:=by omega
 unfold FL
 rw[ft hq (by rw[C6];unfold lim;omega),kj hv hp hl]
 simp only[Aa,Al,Ad]
 rw[hj]
 simp only
 have:=Cs (body:=DS q (oI O)) (out:=OJ O (Fe q)) (λi=>(Pj O.length (Qe O (Fe q) i),(List.range i).map (My O (Fe q)),(List.range i).map (JG O (Fe q)),(i:Int))) O.length (λi hi rec=>by
  unfold DS EX
  simp only
  have hbag:C1 O.length (R6 O (Qe O (Fe q) i) i)=My O (Fe q) i:=rfl
  have hbl:=L4 O.length (QW O (Fe q) i)
  rw[hn,Ag (by omega:(i:Int) < (O.length:Int)),sN hn5 hn hp rfl hi,hbag,wrap_in (n:=(i:Int)+1) (by omega),wrap_in (n:=(O.length:Int) - 1) (by omega)]
  simp only[Ac,Aa]
  have hup:=xw (q:=q) (bag:=My O (Fe q) i) hn5 hn rfl (by unfold My lim;omega) (λk=>QW O (Fe q) i (oAt O k)) (λk hk=>by unfold My;rw[WR,Ag (Rs hp hk),Aw]) (O.length - 1 - i) (i+1) fz ((i:Int)+1) (by omega) (Nat.lt_of_le_of_lt (by omega:O.length - 1 - i+1<=5) (CQ (by unfold lim;omega)))
  rw[show((true,(i:Int)+1,(i:Int)+1):Bool×Int×Int)=(true,((i+1:Nat):Int),(i:Int)+1)from rfl,hup]
  simp only
  have hpair:=nE (q:=q) hn5 hn (WX (n:=O.length) (S:=QW O (Fe q) i)) (ep _ _) (BD (Py _ _) hn5.2) (Qe O (Fe q) i)
  have hb2:My O (Fe q) i=oI ((List.range O.length).filter (QW O (Fe q) i)):=rfl
  have hmx:(Pj O.length λx y=>Qe O (Fe q) i x y || ((((List.range O.length).filter (QW O (Fe q) i)).contains x&&((List.range O.length).filter (QW O (Fe q) i)).contains y)&&x !=y))=Pj O.length (Qe O (Fe q) (i+1)):=by
   refine Ma λx y hx hy=>?_
   rw[Si hx,Si hy];rfl
  rw[hmx,<-hb2]at hpair
  rw[hpair,show((i:Int)+1)=((i+1:Nat):Int)from rfl,b6]
  simp only
  have hpar:∀x:Int,x=JG O (Fe q) i->chk (((List.range i).map (My O (Fe q))).length+[My O (Fe q) i].length<=lim) (chk (((List.range i).map (JG O (Fe q))).length+[x].length<=lim) (rec (Pj O.length (Qe O (Fe q) (i+1)),(List.range i).map (My O (Fe q))++[My O (Fe q) i],(List.range i).map (JG O (Fe q))++[x],((i+1:Nat):Int))))=rec (Pj O.length (Qe O (Fe q) (i+1)),(List.range (i+1)).map (My O (Fe q)),(List.range (i+1)).map (JG O (Fe q)),((i+1:Nat):Int)):=λx hx=>by
   subst hx
   rw[AH (by simp;unfold lim;omega),AH (by simp;unfold lim;omega),U4,U4]
  by_cases he:i+1=O.length
  ·rw[show((i:Int)==(O.length:Int) - 1)=true from Bi.2 (by omega),Ac]
   exact hpar _ (by unfold JG;rw[Bi.2 he];rfl)
  ·rw[show((i:Int)==(O.length:Int) - 1)=false from A3.2 (by omega),Ad]
   have hx:((((List.range' (i+1) (O.length - 1 - i)).find? λk=>QW O (Fe q) i (oAt O k)).getD (i+1):Nat):Int)=JG O (Fe q) i:=by
    unfold JG nxt
    rw[A3.2 he,Ad]
   exact hpar _ hx) (λrec=>by
  unfold DS
  simp only
  rw[hn,Ah (by omega:¬(O.length:Int) < (O.length:Int))];rfl) fz (CQ (by unfold lim;omega))
 rw[show((Pj O.length (Fe q),([]:List (List Int)),([]:List Int),(0:Int)):List Bool×List (List Int)×List Int×Int)=(Pj O.length (Qe O (Fe q) 0),(List.range 0).map (My O (Fe q)),(List.range 0).map (JG O (Fe q)),((0:Nat):Int))from rfl,this]
end
theorem Zx{n:Nat}{S:Nat->Bool}(hn:n<=100)(h:∀u,n<=u->S u=false):C1 100 S=C1 n S:=by
 obtain⟨d,hd⟩:∃d,100=n+d:=⟨100 - n,by omega⟩
 rw[hd,Zy h]
def TG(n:Nat)(H:Nat->Nat->Bool):List (List Int):=(List.range n).map λv=>C1 n (H v)
theorem sE(n:Nat)(H:Nat->Nat->Bool):(TG n H).length=n:=by simp[TG]
theorem dn{n v:Nat}(H:Nat->Nat->Bool)(hv:v < n):AZ (TG n H) (v:Int)=some (C1 n (H v)):=by
 rw[Bm (by rw[sE];exact hv)]
 simp[TG]
theorem jY{n v:Nat}(H:Nat->Nat->Bool)(S:Nat->Bool)(hv:v < n):Da (TG n H) (v:Int) (C1 n S)=TG n λa b=>if a=v then S b else H a b:=by
 unfold Da TG
 rw[Bk]
 refine GV λt=>?_
 by_cases ht:t < n
 ·rw[DM,BE,BE,CE ht,Br,Br]
  by_cases he:v=t
  ·subst he
   rw[AI rfl,AI (by simp;exact hv)]
   congr 1
   exact MJ λu _=>by simp
  ·rw[AJ he]
   congr 1
   exact MJ λu _=>by
    show H t u=if t=v then S u else H t u
    rw[AJ (λe=>he e.symm)]
 ·rw[A8 (by simp;omega),A8 (by simp;omega)]
theorem SA{n:Nat}{H H':Nat->Nat->Bool}(h:∀a b,a < n->b < n->H a b=H' a b):TG n H=TG n H':=by
 unfold TG
 exact BI λv hv=>MJ λu hu=>h v u (An.1 hv) hu
theorem hZ(n:Nat):C1 n (λ_=>false)=[]:=by unfold C1;simp
theorem sF(n:Nat):List.replicate n ([]:List Int)=TG n λ_ _=>false:=by
 unfold TG
 simp only[hZ]
 rw[Eu,BZ]
def Bnd(n:Nat)(G:Nat->Nat->Bool):Prop:=∀a u,n<=u->G a u=false
section
variable {q:Hc}{O:List Nat}{n:Nat}{G:Nat->Nat->Bool}
theorem i6(hp:Vp O)(h:Bnd O.length G):∀i,i<=O.length->Bnd O.length (Qe O G i)
 |0,_=>h
 |i+1,hi=>λa u hu=>by
  have ih:=i6 hp h i (by omega)
  show stepG O (Qe O G i) i a u=false
  unfold stepG R6
  have:=Rs hp (show i < O.length by omega)
  have e:(u==oAt O i)=false:=A3.2 (by omega)
  rw[ih a u hu,ih (oAt O i) u hu,e]
  simp
theorem si(hv:De q=true):Bnd q.1.toNat (Fe q):=λa u hu=>by
 obtain⟨_,_,_,hin⟩:=MG hv
 unfold Fe
 rw[GA]
 right
 rw[Cm]
 intro x hx h
 rw[Ab]at h
 have:=((hin x hx).2 _ (Av.1 h.2)).2
 omega
theorem qp(hq:JH q)(hv:De q=true):Ap (DN q) fz (List.replicate (Int.toNat q.1) [],0)=some (TG q.1.toNat (Fe q)):=by
 obtain⟨h1,h5⟩:=KY hv
 rw[sF]
 have:=Cs (body:=DN q) (out:=TG q.1.toNat (Fe q)) (λv=>(TG q.1.toNat λa b=>decide (a < v)&&Fe q a b,(v:Int))) q.1.toNat (λv hvn rec=>by
  unfold DN
  simp only
  rw[Dw,Bu hvn,oC hq hv,wrap_in (by omega),dn _ hvn]
  simp only[Ac,Aa]
  rw[jY _ _ hvn]
  have:(TG q.1.toNat λa b=>if a=v then Fe q v b else decide (a < v)&&Fe q a b)=TG q.1.toNat λa b=>decide (a < v+1)&&Fe q a b:=by
   refine SA λx y hx hy=>?_
   by_cases hxv:x=v
   ·subst hxv;rw[AI rfl,Ag (Hz _),Aw]
   ·rw[AJ hxv]
    have:decide (x < v)=decide (x < v+1):=by
     rw[AL,AE,AE];omega
    rw[this]
  rw[this];rfl) (λrec=>by
  unfold DN
  simp only
  rw[Dw,Ba,Ad]
  congr 1
  refine SA λx y hx hy=>?_
  rw[Ag hx,Aw]) fz (CQ (by unfold lim;omega))
 have e0:(TG q.1.toNat λa b=>decide (a < 0)&&Fe q a b)=TG q.1.toNat λ_ _=>false:=SA λx y _ _=>by simp
 rw[e0]at this
 exact this
def UW(O:List Nat)(G:Nat->Nat->Bool)(i:Nat):Nat->Bool:=λu=>G (oAt O i) u&&((oI O).drop (i+1)).contains (u:Int)
theorem drop_at(hp:Vp O){i p:Nat}(h:p < O.length):((oI O).drop (i+1)).contains ((oAt O p:Nat):Int)=decide (i < p):=by
 rw[AL,Av,AE,List.mem_drop_iff_getElem]
 constructor
 ·rintro⟨j,hj,e⟩
  rw[C6]at hj
  have e2:(oI O)[i+1+j]'(by rw[C6];omega)=((oAt O (i+1+j):Nat):Int):=by rw[KV (by omega)];simp[oI]
  rw[e2]at e
  have:=Qw hp (by omega) h (by omega:oAt O (i+1+j)=oAt O p)
  omega
 ·intro hi
  refine⟨p - (i+1),by rw[C6];omega,?_⟩
  have e2:(oI O)[i+1+(p - (i+1))]'(by rw[C6];omega)=((oAt O (i+1+(p - (i+1))):Nat):Int):=by rw[KV (by omega)];simp[oI]
  rw[e2,show i+1+(p - (i+1))=p from by omega]
theorem Z4(hp:Vp O){i p:Nat}(h:p < O.length):UW O G i (oAt O p)=(G (oAt O i) (oAt O p)&&decide (i < p)):=by
 unfold UW;rw[drop_at hp h]
theorem Z5(hp:Vp O){i u:Nat}(hi:i < O.length)(hu:u < O.length):(u==oAt O i || UW O G i u)=R6 O G i u:=by
 obtain⟨p,hpl,rfl⟩:=U7 hp hu
 unfold R6
 rw[Z4 hp hpl,XR hp hpl]
 by_cases he:p=i
 ·subst he;rw[BY];rfl
 ·have:decide (i < p)= !decide (p < i):=by
   rw[AL];simp;omega
  rw[this]
theorem jr(hp:Vp O)(hs:Sym G)(hr:Irr G){i a b:Nat}(hi:i < O.length)(ha:a < O.length)(hb:b < O.length):(if UW O G i a=true then(G a b || UW O G i b)&&b !=a else G a b)=stepG O G i a b:=by
 obtain⟨p,hpl,rfl⟩:=U7 hp ha
 obtain⟨r,hrl,rfl⟩:=U7 hp hb
 unfold stepG
 rw[<-Z5 hp hi ha,<-Z5 hp hi hb,Z4 hp hpl,Z4 hp hrl]
 have eb:∀{x:Nat},x < O.length->(oAt O x==oAt O i)=(x==i):=λhx=>by
  rw[AL,Bi,Bi];exact⟨Qw hp hx hi,λe=>by rw[e]⟩
 have en:(oAt O r !=oAt O p)=(r !=p):=by
  rw[AL,Ct,Ct];exact⟨λh e=>h (by rw[e]),λh e=>h (Qw hp hrl hpl e)⟩
 have en2:(oAt O p !=oAt O r)=(r !=p):=by
  rw[AL,Ct,Ct];exact⟨λh e=>h (by rw[e]),λh e=>h (Qw hp hrl hpl e.symm)⟩
 rw[eb hpl,eb hrl,en,en2]
 have hirr:G (oAt O p) (oAt O r)=true->(r !=p)=true:=λh=>by
  rw[Ct];intro e;subst e;rw[hr]at h;cases h
 by_cases e1:p=i
 ·subst e1
  rw[Ah (Ft p),FC,AJ (by simp),BY,Ht,Aw]
  by_cases e2:r=p
  ·subst e2;rw[hr];simp
  ·rw[A3.2 e2,Ck]
   cases G (oAt O p) (oAt O r)<;>simp
 ·rw[A3.2 e1,Ck]
  cases hL:G (oAt O i) (oAt O p)&&decide (i < p)with
  |false=>rw[AJ (by simp)];simp
  |true=>
   rw[AI rfl,Aw]
   have hg:G (oAt O p) (oAt O i)=true:=by rw[hs];rw[Ab]at hL;exact hL.1
   by_cases e2:r=i
   ·subst e2
    rw[hg,BY]
    have:=hirr hg
    rw[this];rfl
   ·rw[A3.2 e2,Ck]
    cases hg2:G (oAt O p) (oAt O r)with
    |true=>rw[hirr hg2];simp
    |false=>simp
theorem my{B:List Nat}(hn5:n<=5)(hB:∀x∈B,x < n)(hnd:B.Nodup)(hbl:B.length<=5)(hbd:Bnd n G):
  Ap (DP (oI B)) fz (TG n G,0)=some (TG n λa b=>if B.contains a=true then(G a b || B.contains b)&&b !=a else G a b):=by
 have hbc:∀u:Nat,(oI B).contains (u:Int)=B.contains u:=λu=>by
  have:=W1 B B.length u
  rwa [<-C6 B,A6,C6,A6]at this
 have key:=Cs (body:=DP (oI B)) (out:=TG n λa b=>if(B.take B.length).contains a=true then(G a b || B.contains b)&&b !=a else G a b) (λj=>(TG n λa b=>if(B.take j).contains a=true then(G a b || B.contains b)&&b !=a else G a b,(j:Int))) B.length (λj hj rec=>by
  unfold DP
  simp only
  have hbj:=hB _ (Ak hj)
  have hnot:(B.take j).contains B[j]=false:=by
   rw[IJ,Ne,Av,G5]
   rintro⟨k,hk,e⟩
   have:=(JC hnd).1 e
   omega
  rw[C6,Bu hj,wrap_in (n:=(j:Int)+1) (by omega),SB hj,KV hj]
  simp only[Ac,Aa]
  rw[dn _ hbj]
  simp only
  rw[MJ (T:=G B[j]) (λu _=>by rw[hnot];simp),<-Zx (by omega) (hbd B[j]),Z2 (by rw[C6];unfold lim;omega) (λx hx=>by
   unfold oI at hx
   obtain⟨u,hu,rfl⟩:=Bh.1 hx
   have:=hB u hu
   omega)]
  simp only
  have hal:=L4 100 (R3 (G B[j]) (oI B))
  have hbd2:∀u,n<=u->R3 (G B[j]) (oI B) u=false:=λu hu=>by
   unfold R3
   rw[hbd _ u hu,hbc,Ck,IJ,Ne,Av]
   intro hm
   have:=hB u hm
   omega
  rw[YN (by unfold lim;omega),Zx (by omega) hbd2,TU]
  simp only
  rw[jY _ _ hbj]
  have:(TG n λa b=>if a=B[j]then R3 (G B[j]) (oI B) b&&((b:Int)!=(B[j]:Int))else if(B.take j).contains a=true then(G a b || B.contains b)&&b !=a else G a b)=TG n λa b=>if(B.take (j+1)).contains a=true then(G a b || B.contains b)&&b !=a else G a b:=by
   refine SA λx y hx hy=>?_
   have ht:(B.take (j+1)).contains x=((B.take j).contains x || x==B[j]):=by
    rw[AL,Cq,Av,Av,Bi,AB hj,Aq,AT]
   rw[ht]
   by_cases hxb:x=B[j]
   ·subst hxb
    rw[AI rfl,AI (by simp),Tc]
    unfold R3
    rw[hbc]
   ·rw[AJ hxb,A3.2 hxb,CV]
  rw[this];rfl) (λrec=>by
  unfold DP
  simp only
  rw[C6,Ba];rfl) fz (CQ (by unfold lim;omega))
 rw[A6]at key
 rw[<-key]
 congr 2
theorem uS{bag:List Int}(hb:bag.length<=lim){i:Nat}(p:Nat->Bool)(hpb:∀k,i < k->k < O.length->bag.contains ((oAt O k:Nat):Int)=p k):∀(d m:Nat) (x:Int),i+d < O.length->O.length<=5->d < m->Ap (CL (oI O) (i:Int) bag) m (x,((i+d:Nat):Int))=some ((((List.range' (i+1) d).find? p).map λ(x:Nat)=>(x:Int)).getD x)
 |0,m+1,x,h1,h5,h2=>by
  rw[By]
  generalize Ap (CL (oI O) (i:Int) bag) m=rec
  unfold CL
  simp only
  rw[Ec,Ah (by omega)];rfl
 |d+1,m+1,x,h1,h5,h2=>by
  have hB:∀rec:(Int×Int)->Option Int,CL (oI O) (i:Int) bag rec (x,((i+(d+1):Nat):Int))=rec (cond (p (i+(d+1))) ((i+(d+1):Nat):Int) x,((i+d:Nat):Int)):=λrec=>by
   unfold CL ER
   simp only
   rw[Ag (by omega),SB (by omega)]
   simp only[Ac,Aa]
   rw[Wp hb]
   simp only
   rw[hpb _ (by omega) h1,wrap_in (by omega),show((i+(d+1):Nat):Int) - 1=((i+d:Nat):Int)from by omega]
   cases p (i+(d+1))<;>rfl
  rw[By,hB,uS hb p hpb d m _ (by omega) h5 (by omega),List.range'_concat,List.find?_append]
  cases(List.range' (i+1) d).find? p with
  |some k=>rfl
  |none=>
   have e:i+1+1 * d=i+(d+1):=by omega
   rw[e]
   cases hk:p (i+(d+1))<;>simp[hk]
 |_,0,_,_,_,h=>by omega
theorem uH(hq:JH q)(hv:De q=true)(hp:Vp O)(hl:O.length=q.1.toNat):FK q (oI O)=some (OJ O (Fe q),true):=by
 obtain⟨h1,h5⟩:=KY hv
 have hn:q.1=(O.length:Int):=by omega
 have hn5:1<=O.length∧O.length<=5:=by omega
 have hnb:=si hv
 rw[<-hl]at hnb
 unfold FK
 rw[eK hq (by rw[C6];unfold lim;omega),kj hv hp hl]
 simp only[Aa,Al,Ad]
 rw[AH (by unfold lim;omega),qp hq hv,<-hl]
 simp only
 have:=Cs (body:=DO q (oI O)) (out:=OJ O (Fe q)) (λi=>(TG O.length (Qe O (Fe q) i),(List.range i).map (My O (Fe q)),(List.range i).map (JG O (Fe q)),(i:Int))) O.length (λi hi rec=>by
  unfold DO EQ
  simp only
  have hoi:=Rs hp hi
  have hbd:=i6 hp hnb i (by omega)
  have hal:=L4 O.length (Qe O (Fe q) i (oAt O i))
  rw[C6,Bu hi,SB hi,hn,wrap_in (n:=(i:Int)+1) (by omega),wrap_in (n:=(O.length:Int) - 1) (by omega)]
  simp only[Ac,Aa]
  rw[dn _ hoi]
  simp only
  have hsub:Hk (oI O) ((i:Int)+1) (O.length:Int)=(oI O).drop (i+1):=by
   unfold Hk
   rw[Bk,<-C6 O,A6];rfl
  rw[AH (by omega),hsub,XD (by unfold lim;omega) (by rw[BX,C6];unfold lim;omega),TU]
  simp only
  have hlat:C1 O.length (λu=>Qe O (Fe q) i (oAt O i) u&&((oI O).drop (i+1)).contains (u:Int))=oI ((List.range O.length).filter (UW O (Qe O (Fe q) i) i)):=rfl
  rw[hlat]
  have hsingle:[((oAt O i:Nat):Int)]=C1 100 λu=>u==oAt O i:=by
   have:(List.range 100).filter (λu=>u==oAt O i)=[oAt O i]:=Xx (by omega) (BY _) (λk _ h=>Bi.1 h)
   unfold C1;rw[this];rfl
  have hll:=Py O.length (UW O (Qe O (Fe q) i) i)
  rw[hsingle,Z2 (by rw[C6];unfold lim;omega) (λx hx=>by
   unfold oI at hx
   obtain⟨u,hu,rfl⟩:=Bh.1 hx
   have:=WX u hu
   omega)]
  simp only
  have hfc:∀u:Nat,(oI ((List.range O.length).filter (UW O (Qe O (Fe q) i) i))).contains (u:Int)=(decide (u < O.length)&&UW O (Qe O (Fe q) i) i u):=λu=>by rw[<-Zz,WR]
  have hbag:C1 100 (R3 (λu=>u==oAt O i) (oI ((List.range O.length).filter (UW O (Qe O (Fe q) i) i))))=My O (Fe q) i:=by
   rw[Zx (n:=O.length) (by omega) (λu hu=>by
    unfold R3
    show(u==oAt O i || _)=false
    rw[hfc,A3.2 (by omega),Ah (by omega)];rfl)]
   refine MJ λu hu=>?_
   unfold R3
   rw[hfc,Ag hu,Aw,Z5 hp hi hu];rfl
  rw[hbag,my (n:=O.length) hn5.2 WX (ep _ _) (by omega) hbd]
  simp only
  have hstep:(TG O.length λa b=>if((List.range O.length).filter (UW O (Qe O (Fe q) i) i)).contains a=true then(Qe O (Fe q) i a b || ((List.range O.length).filter (UW O (Qe O (Fe q) i) i)).contains b)&&b !=a else Qe O (Fe q) i a b)=TG O.length (Qe O (Fe q) (i+1)):=by
   refine SA λx y hx hy=>?_
   rw[Si hx,Si hy]
   exact jr hp (i8 (jW q) i) (i7 (su q) i) hi hx hy
  rw[hstep]
  have hup:=λ(x:Int)=>uS (O:=O) (bag:=oI ((List.range O.length).filter (UW O (Qe O (Fe q) i) i))) (by rw[C6];unfold lim;omega) (i:=i) (λk=>QW O (Fe q) i (oAt O k)) (λk hk hkl=>by
   rw[hfc,Ag (Rs hp hkl),Aw,Z4 hp hkl,Xg hp hi hkl,A3.2 (by omega),Ag hk,Ag (by omega:i<=k)];simp) (O.length - 1 - i) fz x (by omega) hn5.2 (Nat.lt_of_le_of_lt (by omega:O.length - 1 - i<=5) (CQ (by unfold lim;omega)))
  have hix:((O.length:Int) - 1)=((i+(O.length - 1 - i):Nat):Int):=by omega
  rw[hix]
  have hpar:∀x z:Int,(((List.range' (i+1) (O.length - 1 - i)).find? λk=>QW O (Fe q) i (oAt O k)).map λ(x:Nat)=>(x:Int)).getD x=z->z=JG O (Fe q) i->chk (((List.range i).map (My O (Fe q))).length+[My O (Fe q) i].length<=lim) (Aa (Ap (CL (oI O) (i:Int) (oI ((List.range O.length).filter (UW O (Qe O (Fe q) i) i)))) fz (x,((i+(O.length - 1 - i):Nat):Int))) λz49=>chk (((List.range i).map (JG O (Fe q))).length+[z49].length<=lim) (rec (TG O.length (Qe O (Fe q) (i+1)),(List.range i).map (My O (Fe q))++[My O (Fe q) i],(List.range i).map (JG O (Fe q))++[z49],(i:Int)+1)))=rec (TG O.length (Qe O (Fe q) (i+1)),(List.range (i+1)).map (My O (Fe q)),(List.range (i+1)).map (JG O (Fe q)),((i+1:Nat):Int)):=λx z hz hx=>by
   rw[hup x,hz,hx]
   simp only[Aa]
   rw[AH (by simp;unfold lim;omega),AH (by simp;unfold lim;omega),U4,U4];rfl
  by_cases he:i+1=O.length
  ·rw[Ah (by omega:¬(i:Int) < ((i+(O.length - 1 - i):Nat):Int)),Ad]
   refine hpar (-1) (-1) ?_ ?_
   ·rw[show O.length - 1 - i=0 from by omega];rfl
   ·unfold JG;rw[Bi.2 he];rfl
  ·rw[Ag (by omega:(i:Int) < ((i+(O.length - 1 - i):Nat):Int)),Ac]
   refine hpar _ _ rfl ?_
   rw[show((i:Int)+1)=((i+1:Nat):Int)from rfl,b6]
   unfold JG nxt
   rw[A3.2 he,Ad]) (λrec=>by
  unfold DO
  simp only
  rw[C6,Ba];rfl) fz (CQ (by unfold lim;omega))
 rw[show((TG O.length (Fe q),([]:List (List Int)),([]:List Int),(0:Int)):List (List Int)×List (List Int)×List Int×Int)=(TG O.length (Qe O (Fe q) 0),(List.range 0).map (My O (Fe q)),(List.range 0).map (JG O (Fe q)),((0:Nat):Int))from rfl,this]
end
def ext1(n:Nat)(l:List Nat):List (List Nat):=((List.range n).filter λv=> !l.contains v).map λv=>l++[v]
def Sf(n:Nat):Nat->List Nat->List (List Nat)
 |0,l=>[l]
 |d+1,l=>(ext1 n l).flatMap (Sf n d)
def MX(n:Nat):Nat->List (List Nat)
 |0=>[[]]
 |k+1=>(MX n k).flatMap (ext1 n)
theorem dO(n:Nat):∀(k d:Nat),(MX n k).flatMap (Sf n d)=Sf n (k+d) []
 |0,d=>by rw[MX,AG,JB,Bp,Dv]
 |k+1,d=>by
  rw[MX,List.flatMap_assoc,show k+1+d=k+(d+1)from by omega,<-dO n k (d+1)]
  rfl
def Ot(n:Nat):List (List Nat):=Sf n n []
theorem lZ(n:Nat):MX n n=Ot n:=by
 have:=dO n n 0
 rw[Ec]at this
 rw[Ot,<-this]
 have:Sf n 0=λl=>[l]:=by funext l;rfl
 rw[this]
 simp
theorem Xu(n:Nat)(l:List Nat):(ext1 n l).length<=n:=by
 unfold ext1
 rw[As]
 exact BD (BS _ _) (by simp)
theorem Sj{α β:Type}{f:α->List β}{c:Nat}:∀{l:List α},(∀x∈l,(f x).length<=c)->(l.flatMap f).length<=l.length * c
 |[],_=>by simp
 |x::l,h=>by
  rw[AG,Ar,Ax,DG]
  have h1:=h x (BO)
  have h2:=Sj (l:=l) λy hy=>h y (AX _ hy)
  omega
theorem WU{n:Nat}(hn:n<=5):∀(d:Nat) (l:List Nat),(Sf n d l).length<=5 ^ d
 |0,l=>by simp[Sf]
 |d+1,l=>by
  rw[Sf]
  have:=Sj (l:=ext1 n l) λx _=>WU hn d x
  have h2:(ext1 n l).length * 5 ^ d<=5 * 5 ^ d:=Cy _ (BD (Xu n l) hn)
  rw[Fl]
  omega
theorem dP{n:Nat}(hn:n<=5):∀(k:Nat),(MX n k).length<=5 ^ k
 |0=>by simp[MX]
 |k+1=>by
  rw[MX]
  have:=Sj (l:=MX n k) (f:=ext1 n) (c:=5) λx _=>BD (Xu n x) hn
  have h2:=Cy 5 (dP hn k)
  rw[Fl]
  omega
def Par(n:Nat)(l:List Nat):Prop:=l.Nodup∧∀x∈l,x < n
theorem iP{n:Nat}{l:List Nat}(h:Par n l):∀x∈ext1 n l,Par n x∧x.length=l.length+1:=λx hx=>by
 unfold ext1 at hx
 obtain⟨v,hv,rfl⟩:=Bh.1 hx
 obtain⟨h1,h2⟩:=Bf.1 hv
 have hc:v∉l:=λhm=>by
  rw[Av.2 hm]at h2;cases h2
 refine⟨⟨Ay.2 ⟨h.1,by simp,λa ha b hb e=>?_⟩,λy hy=>?_⟩,by simp⟩
 ·rw[AT]at hb
  subst hb;subst e;exact hc ha
 ·rcases Aq.1 hy with hy|hy
  ·exact h.2 y hy
  ·rw[AT]at hy;rw[hy];exact An.1 h1
theorem d5{n:Nat}:∀(d:Nat) (l:List Nat),Par n l->∀x∈Sf n d l,Par n x∧x.length=l.length+d
 |0,l,h,x,hx=>by
  rw[Sf,AT]at hx
  rw[hx];exact⟨h,rfl⟩
 |d+1,l,h,x,hx=>by
  rw[Sf]at hx
  obtain⟨y,hy,hxy⟩:=Co.1 hx
  obtain⟨h1,h2⟩:=iP h y hy
  obtain⟨h3,h4⟩:=d5 d y h1 x hxy
  exact⟨h3,by omega⟩
theorem ai{n:Nat}:∀O∈Ot n,Vp O∧O.length=n:=λO hO=>by
 obtain⟨h1,h2⟩:=d5 n [] ⟨AD,by simp⟩ O hO
 have hl:O.length=n:=by simpa using h2
 exact⟨⟨h1.1,λx hx=>by rw[hl];exact h1.2 x hx⟩,hl⟩
theorem j0(B:List Nat)(u:Nat):(oI B).contains (u:Int)=B.contains u:=by
 have:=W1 B B.length u
 rwa [<-C6 B,A6,C6,A6]at this
theorem Td(l:List Nat)(v:Nat):oI l++[(v:Int)]=oI (l++[v]):=by simp[oI]
section
variable {q:Hc}
theorem kK(hn5:1<=q.1∧q.1<=5):∀(d:Nat) (l:List Nat) (m:Nat),l.length+d=q.1.toNat->d < m->Ap EL m (q,oI l)=some ((Sf q.1.toNat d l).map oI)
 |0,l,m+1,h1,h2=>by
  rw[By]
  generalize Ap EL m=frec
  unfold EL
  simp only
  rw[C6,show(((l.length:Nat):Int)==q.1)=true from Bi.2 (by omega),Ac]
  rw[AH (by unfold lim;simp;omega)]
  rfl
 |d+1,l,m+1,h1,h2=>by
  have ih:=λv=>kK hn5 d (l++[v]) m
  rw[By]
  generalize Ap EL m=frec at ih⊢
  unfold EL
  simp only
  rw[C6,show(((l.length:Nat):Int)==q.1)=false from A3.2 (by omega),Ad]
  have key:=Cs (body:=JY q (oI l) frec) (out:=(Sf q.1.toNat (d+1) l).map oI) (λk=>((((List.range k).filter λv=> !l.contains v).flatMap λv=>Sf q.1.toNat d (l++[v])).map oI,(k:Int))) q.1.toNat (λk hk rec=>by
   unfold JY Mt
   simp only
   rw[Ag (by omega:(k:Int) < q.1),QM (by rw[C6];unfold lim;omega),wrap_in (by omega)]
   simp only[Ac,Aa]
   rw[UJ,j0,CI,Dn,Dd,BU]
   cases hc:l.contains k with
   |true=>
    have:([k].filter λv=> !l.contains v)=[]:=by rw[Du,hc];rfl
    rw[this];simp
   |false=>
    have:([k].filter λv=> !l.contains v)=[k]:=by rw[Du,hc];rfl
    have hih:=ih k (by simp;omega) (by omega)
    rw[this,CD,Ac,AH (by rw[C6];unfold lim;simp;omega),AH (by rw[Bq,C6];unfold lim;simp;omega),Bq,Td,hih]
    simp only
    have hb1:=WU (n:=q.1.toNat) (by omega) d (l++[k])
    have hb2:=Sj (l:=(List.range k).filter λv=> !l.contains v) (f:=λv=>Sf q.1.toNat d (l++[v])) (c:=5 ^ d) λv _=>WU (by omega) d _
    have hb3:((List.range k).filter λv=> !l.contains v).length<=5:=BD (BS _ _) (by simp;omega)
    have hb4:5 ^ d<=5 ^ 5:=EU (by omega) (by omega)
    have hb5:=ET hb3 (Bl (5 ^ d))
    rw[AH (by
     rw[As,As]
     generalize 5 ^ d=z at *
     unfold lim;omega),AG,JB,Bp]
    rfl) (λrec=>by
   unfold JY
   simp only
   rw[Ah (by omega:¬((q.1.toNat:Nat):Int) < q.1),Ad,Sf]
   unfold ext1
   rw[List.flatMap_map]) fz (CQ (by unfold lim;omega))
  rw[show((([]:List (List Int)),(0:Int)):List (List Int)×Int)=((((List.range 0).filter λv=> !l.contains v).flatMap λv=>Sf q.1.toNat d (l++[v])).map oI,((0:Nat):Int))from rfl,key]
  rfl
 |_,_,0,_,h=>by omega
theorem w6(hq:JH q)(hv:De q=true):Ns q=some ((Ot q.1.toNat).map oI):=by
 have hn5:=KY hv
 unfold Ns
 rw[Ks hq,hv]
 simp only[Aa,Al,Ad]
 unfold RA
 rw[show(q,([]:List Int))=(q,oI [])from rfl,kK hn5 q.1.toNat [] fz (by simp) (CQ (by unfold lim;omega))]
 rfl
theorem uB(hq:JH q)(hv:De q=true):M5 q=some ((Ot q.1.toNat).map oI):=by
 have hn5:=KY hv
 unfold M5
 rw[Mj hq,hv]
 simp only[Aa,Al,Ad]
 have key:=Cs (body:=Ke q) (out:=(MX q.1.toNat q.1.toNat).map oI) (λk=>((MX q.1.toNat k).map oI,(k:Int))) q.1.toNat (λk hk rec=>by
  unfold Ke
  simp only
  rw[Ag (by omega:(k:Int) < q.1),wrap_in (by omega),Ac]
  have hbl:=dP (n:=q.1.toNat) (by omega) k
  have h55:5 ^ k<=5 ^ 4:=EU (by omega) (by omega)
  have key2:=Cs (body:=Kf q ((MX q.1.toNat k).map oI)) (out:=(MX q.1.toNat (k+1)).map oI) (λj=>((((MX q.1.toNat k).take j).flatMap (ext1 q.1.toNat)).map oI,(j:Int))) (MX q.1.toNat k).length (λj hj rec=>by
   unfold Kf
   simp only
   have hx:AZ ((MX q.1.toNat k).map oI) (j:Int)=some (oI (MX q.1.toNat k)[j]):=by
    rw[Bm (by rw[As];exact hj),BQ]
   have hll:(MX q.1.toNat k)[j].length < 2000:=by
    have:∀(k:Nat) (l:List Nat),l∈MX q.1.toNat k->l.length=k:=λk=>by
     induction k with
     |zero=>intro l hl;rw[MX,AT]at hl;rw[hl];rfl
     |succ k ih=>
      intro l hl
      rw[MX]at hl
      obtain⟨y,hy,hl⟩:=Co.1 hl
      unfold ext1 at hl
      obtain⟨v,_,rfl⟩:=Bh.1 hl
      simp[ih y hy]
    rw[this k _ (Ak hj)];omega
   rw[As,Bu hj,hx,wrap_in (by omega)]
   simp only[Ac,Aa]
   have hl':(MX q.1.toNat k).take (j+1)=(MX q.1.toNat k).take j++[(MX q.1.toNat k)[j]]:=AB hj
   generalize(MX q.1.toNat k)[j]=l at hll hl'⊢
   have hal:(((MX q.1.toNat k).take j).flatMap (ext1 q.1.toNat)).length<=3125:=by
    have:=Sj (l:=(MX q.1.toNat k).take j) (f:=ext1 q.1.toNat) (c:=5) λx _=>BD (Xu _ x) (by omega)
    have h2:((MX q.1.toNat k).take j).length<=5 ^ 4:=BD (by rw[Bb];omega) h55
    omega
   have key3:=λ(A:List (List Nat)) (hA:A.length<=3125)=>Cs (body:=H2 q (oI l)) (out:=(A++ext1 q.1.toNat l).map oI) (λv=>((A++((List.range v).filter λv=> !l.contains v).map λv=>l++[v]).map oI,(v:Int))) q.1.toNat (λv hv rec=>by
    unfold H2 Kg
    simp only
    have hfl:((List.range v).filter λv=> !l.contains v).length<=5:=BD (BS _ _) (by simp;omega)
    rw[Ag (by omega:(v:Int) < q.1),Wp (by rw[C6];unfold lim;omega),wrap_in (by omega),j0]
    simp only[Ac,Aa]
    rw[CI,Dn,BU]
    cases hc:l.contains v with
    |true=>
     have:([v].filter λv=> !l.contains v)=[]:=by rw[Du,hc];rfl
     rw[this];simp
    |false=>
     have:([v].filter λv=> !l.contains v)=[v]:=by rw[Du,hc];rfl
     rw[this,CD,Ac,Z0 (by rw[C6];unfold lim;omega)]
     simp only
     rw[AH (by rw[C6];unfold lim;simp;omega),AH (by unfold lim;simp only[Ar,As,Ax,Cb];omega),Td]
     simp) (λrec=>by
    unfold H2
    simp only
    rw[Ah (by omega:¬((q.1.toNat:Nat):Int) < q.1)];rfl) fz (CQ (by unfold lim;omega))
   have k3:=key3 _ hal
   simp only[List.range_zero,GD,Eb,Bp]at k3
   rw[show(0:Int)=((0:Nat):Int)from rfl,k3,hl',Dd,AG,JB,Bp]
   rfl) (λrec=>by
   unfold Kf
   simp only
   rw[As,Ba,A6];rfl) fz (CQ (by unfold lim;omega))
  rw[show((([]:List (List Int)),(0:Int)):List (List Int)×Int)=((((MX q.1.toNat k).take 0).flatMap (ext1 q.1.toNat)).map oI,((0:Nat):Int))from rfl,key2]
  rfl) (λrec=>by
  unfold Ke
  simp only
  rw[Ah (by omega:¬((q.1.toNat:Nat):Int) < q.1)];rfl) fz (CQ (by unfold lim;omega))
 rw[show(([[]]:List (List Int)),(0:Int))=((MX q.1.toNat 0).map oI,((0:Nat):Int))from rfl,key,lZ]
end
def O7:Nat->(Nat->Bool)->Nat
 |0,_=>0
 |n+1,S=>O7 n S+cond (S n) (2 ^ n) 0
theorem Z9(S:Nat->Bool):∀n,O7 n S < 2 ^ n
 |0=>Nat.one_pos
 |n+1=>by
  have:=Z9 S n
  rw[O7,Fl]
  cases S n with
  |true=>rw[Ac];omega
  |false=>rw[Ad];omega
theorem eR{S T:Nat->Bool}:∀n,O7 n S=O7 n T->∀u,u < n->S u=T u
 |0,_,u,h=>absurd h (Nat.not_lt_zero u)
 |n+1,h,u,hu=>by
  have a:=Z9 S n
  have b:=Z9 T n
  rw[O7,O7]at h
  have hn:S n=T n∧O7 n S=O7 n T:=by
   cases hs:S n with
   |true=>
    cases ht:T n with
    |true=>rw[hs,ht,Ac]at h;exact⟨rfl,by omega⟩
    |false=>rw[hs,ht,Ac,Ad]at h;omega
   |false=>
    cases ht:T n with
    |true=>rw[hs,ht,Ac,Ad]at h;omega
    |false=>rw[hs,ht,Ad]at h;exact⟨rfl,by omega⟩
  by_cases he:u=n
  ·rw[he];exact hn.1
  ·exact eR n hn.2 u (by omega)
def Qg(n:Nat)(S:Nat->Bool):List Nat:=(List.range n).filter S
theorem cH{n:Nat}{S T:Nat->Bool}(h:∀u,u < n->S u=T u):Qg n S=Qg n T:=FY λu hu=>h u (An.1 hu)
theorem pu(n:Nat)(S:Nat->Bool):Qg (n+1) S=Qg n S++cond (S n) [n] []:=by
 unfold Qg
 rw[CI,Dn]
 cases h:S n with
 |true=>rw[Du,AI h];rfl
 |false=>rw[Du,AJ (by rw[h];exact H9)];rfl
section
variable {q:Hc}{O:List Nat}
def aW(q:Hc)(S:Nat->Bool):Prop:=∃u,u < q.1.toNat∧S u=true
theorem Uy(hv:De q=true){S:Nat->Bool}(h:aW q S):SmG q (Qg q.1.toNat S):=by
 obtain⟨h1,h2,h3,h4⟩:=FF hv
 obtain⟨u,hu,hs⟩:=h
 have hm:u∈Qg q.1.toNat S:=Bf.2 ⟨An.2 hu,hs⟩
 refine⟨Gl hm,?_,λv hv=>An.1 (Bf.1 hv).1⟩
 have:=Py q.1.toNat S
 unfold Qg
 omega
theorem Xf(hv:De q=true){S:Nat->Bool}(h:aW q S):QV q.1 (oI (Qg q.1.toNat S))=true:=by
 obtain⟨h1,h2,h3,h4⟩:=FF hv
 have:=dI (n:=q.1.toNat) (by omega) h
 rw[Zz]at this
 have e:((q.1.toNat:Nat):Int)=q.1:=by omega
 rw[e]at this
 exact this
def KnI(q:Hc)(K:List Rt):Prop:=K.length=32∧∀S,aW q S->atR K (O7 q.1.toNat S)=(0,0)∨atR K (O7 q.1.toNat S)=(wB q (Qg q.1.toNat S)).1
theorem qv:KnI q (List.replicate 32 ((0:Int),(0:Int))):=by
 refine⟨by simp,λS _=>.inl ?_⟩
 unfold atR
 rw[Au]
 cases h:(List.replicate 32 ((0:Int),(0:Int)))[O7 q.1.toNat S]? with
 |none=>rfl
 |some x=>exact(List.mem_replicate.1 (Bo h)).2
theorem jQ(hv:De q=true)(S:Nat->Bool):O7 q.1.toNat S < 32:=by
 obtain⟨h1,h2,h3,h4⟩:=FF hv
 have:=Z9 S q.1.toNat
 have h5:2 ^ q.1.toNat<=2 ^ 5:=EU (by omega) (by omega)
 omega
theorem qw{K:List Rt}{S:Nat->Bool}(hK:KnI q K)(hS:aW q S):KnI q (K.set (O7 q.1.toNat S) (wB q (Qg q.1.toNat S)).1):=by
 refine⟨by rw[BG];exact hK.1,λT hT=>?_⟩
 unfold atR
 rw[Au,DM]
 by_cases he:O7 q.1.toNat S=O7 q.1.toNat T
 ·rw[AI he]
  by_cases hl:O7 q.1.toNat S < K.length
  ·rw[AI hl,BB,cH (eR _ he)]
   exact .inr rfl
  ·rw[AJ hl]
   exact .inl rfl
 ·rw[AJ he]
  have:=hK.2 T hT
  unfold atR at this
  rw[Au]at this
  exact this
theorem uY{K:List Rt}{m:Nat}(h:m < K.length)(x:Rt):atR (K.set m x) m=x:=by
 unfold atR
 rw[Au,DM,AI rfl,AI h];rfl
def wdS(w v:Rt):Rt:=cond (decide (0 < JS v w)) v w
def WA(q:Hc)(O:List Nat)(i:Nat):Nat->Bool:=QW O (Fe q) i
def wdP(q:Hc)(O:List Nat)(i:Nat):Rt:=(wB q (Qg q.1.toNat (WA q O i))).1
def Yu(q:Hc)(O:List Nat)(k:Nat):Rt:=((List.range k).map (wdP q O)).foldl wdS (0,1)
def wdB(q:Hc)(O:List Nat):Rt:=Yu q O q.1.toNat
theorem lG(k:Nat):Yu q O (k+1)=wdS (Yu q O k) (wdP q O k):=by
 unfold Yu
 rw[CI,BU,Dj];rfl
theorem Vz(hp:Vp O)(hl:O.length=q.1.toNat){i:Nat}(hi:i < q.1.toNat):aW q (WA q O i):=
 ⟨oAt O i,by rw[<-hl];exact Rs hp (by omega),by unfold WA;rw[Xg hp (by omega) (by omega)];simp⟩
theorem tt(hv:De q=true)(hp:Vp O)(hl:O.length=q.1.toNat){i:Nat}(hi:i < q.1.toNat):nnR (wdP q O i):=
 (ph hv (Uy hv (Vz hp hl hi))).2
theorem xF(hv:De q=true)(hp:Vp O)(hl:O.length=q.1.toNat)(h0:0 < q.1.toNat):Yu q O 1=wdP q O 0:=by
 rw[lG]
 show wdS (0,1) (wdP q O 0)=wdP q O 0
 unfold wdS
 cases hc:decide (0 < JS (wdP q O 0) (0,1))with
 |true=>rfl
 |false=>rw[Ad,mZ (tt hv hp hl h0) hc]
theorem Xr(hl:O.length=q.1.toNat):(OJ O (Fe q)).1=(List.range q.1.toNat).map λi=>oI (Qg q.1.toNat (WA q O i)):=by
 unfold OJ
 rw[hl]
 refine BI λi _=>?_
 unfold My
 rw[hl,Zz];rfl
def bdS(q:Hc)(st:(List (List Int)×List Int)×Rt×Bool)(O:List Nat):(List (List Int)×List Int)×Rt×Bool:=cond (!st.2.2 || decide (JS (wdB q O) st.2.1 < 0)) (OJ O (Fe q),wdB q O,true) st
def Tz(q:Hc)(k:Nat):(List (List Int)×List Int)×Rt×Bool:=((Ot q.1.toNat).take k).foldl (bdS q) (([],[]),(0,0),false)
def Us(q:Hc):(List (List Int)×List Int)×Rt×Bool:=Tz q (Ot q.1.toNat).length
theorem dM{k:Nat}(h:k < (Ot q.1.toNat).length):Tz q (k+1)=bdS q (Tz q k) (Ot q.1.toNat)[k]:=by
 unfold Tz
 rw[AB h,Dj];rfl
theorem eZ(hv:De q=true):(Ot q.1.toNat).length<=3125:=by
 obtain⟨h1,h2,h3,h4⟩:=FF hv
 unfold Ot
 have:=WU (n:=q.1.toNat) (by omega) q.1.toNat []
 have h5:5 ^ q.1.toNat<=5 ^ 5:=EU (by omega) (by omega)
 omega
end
theorem fg{p:LP}(hv:O6 p=true):(O8 p 1).length<=161051:=by
 obtain⟨h1,h2,h3,h4,h5,h6⟩:=KR hv
 unfold O8
 have a:=VO (Wh p 1) (OE (p.2.1.length+p.2.2.length) p.2.2.length 0) []
 have b:=S0 (t:=p.2.1.length+p.2.2.length) (by omega) p.2.2.length 0
 have c:=ff h2
 simp only[Cb]at a
 omega
def mnT(st:List Rt×Rt×Bool)(k:Nat):List Rt×Int×Int×Bool×Int:=(st.1,st.2.1.1,st.2.1.2,st.2.2,(k:Int))
theorem sP{p:LP}(hv:O6 p=true):Pc p 1=some (mnB p):=by
 have hl:=fg hv
 have hn:=(KR hv).2.1
 unfold Pc
 rw[kO hv]
 simp only[Aa]
 have key:=Cs (body:=HX p 1 (O8 p 1)) (out:=((mnB p).1,(mnB p).2.1.1,(mnB p).2.1.2,(mnB p).2.2)) (λk=>mnT (((O8 p 1).take k).foldl (mnS p.2.2) ([],(0,0),false)) k) (O8 p 1).length (λk hk rec=>by
  rw[AB hk,Dj]
  generalize((O8 p 1).take k).foldl (mnS p.2.2) ([],(0,0),false)=st
  obtain⟨b,⟨v1,v2⟩,f⟩:=st
  unfold HX mnT
  simp only[Dc,I6]
  rw[Bu hk,Ac,Bm hk]
  simp only[Aa]
  rw[oY (by unfold lim;omega)]
  simp only
  unfold mnS JX Ms
  rw[wrap_in (by omega),Bm hk]
  simp only[Aa]
  cases(J8 p.2.2 (O8 p 1)[k]).2 with
  |false=>rfl
  |true=>
   cases f with
   |false=>rfl
   |true=>
    rw[Uh]
    simp only[Al,Ad,Ac,Ck,Aw]
    cases decide (IntKind.i64.wrap (JS (J8 p.2.2 (O8 p 1)[k]).1 (v1,v2) * 1) < 0)<;>rfl) (λrec=>by
  unfold HX mnT
  simp only
  rw[Ba,A6];rfl) fz (CQ (by unfold lim;omega))
 rw[show(([]:List Rt),(0:Int),(0:Int),false,(0:Int))=mnT (((O8 p 1).take 0).foldl (mnS p.2.2) ([],(0,0),false)) 0 from rfl,key]
theorem qh{p:LP}(hv:O6 p=true):S4 p 1=some (mnB p):=by
 have hl:=fg hv
 have hn:=(KR hv).2.1
 unfold S4
 rw[jc hv]
 simp only[Aa]
 have key:=Cs (body:=Lh p 1 (O8 p 1)) (out:=((mnB p).1,(mnB p).2.1.1,(mnB p).2.1.2,(mnB p).2.2)) (λk=>mnT (((O8 p 1).take k).foldl (mnS p.2.2) ([],(0,0),false)) k) (O8 p 1).length (λk hk rec=>by
  rw[AB hk,Dj]
  generalize((O8 p 1).take k).foldl (mnS p.2.2) ([],(0,0),false)=st
  obtain⟨b,⟨v1,v2⟩,f⟩:=st
  unfold Lh mnT
  simp only[Dc,I6]
  rw[Bu hk,Ac,Bm hk]
  simp only[Aa]
  rw[oy (by unfold lim;omega)]
  simp only
  unfold mnS M6 O4
  rw[wrap_in (by omega)]
  cases(J8 p.2.2 (O8 p 1)[k]).2 with
  |false=>rfl
  |true=>
   cases f with
   |false=>rfl
   |true=>
    rw[XE]
    simp only[Al,Ad,Ac,Ck,Aw]
    rw[Int.mul_comm]
    cases decide (IntKind.i64.wrap (JS (J8 p.2.2 (O8 p 1)[k]).1 (v1,v2) * 1) < 0)<;>rfl) (λrec=>by
  unfold Lh mnT
  simp only
  rw[Ba,A6];rfl) fz (CQ (by unfold lim;omega))
 rw[show(([]:List Rt),(0:Int),(0:Int),false,(0:Int))=mnT (((O8 p 1).take 0).foldl (mnS p.2.2) ([],(0,0),false)) 0 from rfl,key]
theorem eV(c:List Rt):((List.range c.length).any λk=>decide ((atR c k).1 < 0))= !(c.all λr=>decide (0<=r.1)):=by
 rw[AL,Cg,AC,<-Jy,Ae]
 constructor
 ·rintro⟨k,hk,h⟩ hc
  rw[An]at hk
  have:=hc _ (Ak hk)
  rw[J7 hk]at this
  rw[AE]at h this
  omega
 ·intro h
  refine Bn λhc=>h λr hr=>?_
  obtain⟨k,hk,rfl⟩:=En hr
  rw[AE]
  refine Bn λhn=>hc ⟨k,An.2 hk,?_⟩
  rw[AE,<-J7 hk]
  omega
theorem kJ{p:LP}(h:WJ p):Md p=some (Qm p):=by
 unfold Md Qm
 rw[xk h]
 simp only[Aa]
 cases hv:O6 p with
 |false=>rfl
 |true=>
  rw[Al,Ad,Aw]
  have hp:Pd p.2.2=some (p.2.2.all λr=>decide (0<=r.1)):=by
   unfold Pd
   rw[Hf (n:=p.2.2.length) (λk=>decide ((atR p.2.2 k).1 < 0)) false h.2.2 (λk hk rec=>by
    unfold OU
    rw[Bu hk,Ac,Em hk,BC hk (Be h.2.2)];rfl) (λrec=>by
    unfold OU
    rw[Ba];rfl),eV]
   cases p.2.2.all λr=>decide (0<=r.1)<;>rfl
  rw[hp]
  simp only
  cases p.2.2.all λr=>decide (0<=r.1)with
  |false=>rfl
  |true=>rw[Al,Ad,sP hv];rfl
theorem ja{p:LP}(h:WJ p):L7 p=some (Qm p):=by
 unfold L7 Qm
 rw[uM h]
 simp only[Aa]
 cases hv:O6 p with
 |false=>rfl
 |true=>
  rw[Al,Ad,Aw]
  rw[Hf (n:=p.2.2.length) (λk=>decide ((atR p.2.2 k).1 < 0)) (([]:List Rt),((0:Int),(0:Int)),false) h.2.2 (λk hk rec=>by
   unfold NO
   rw[Bu hk,Ac,Em hk,BC hk (Be h.2.2)];rfl) (λrec=>by
   unfold NO
   rw[Ba];rfl),eV]
  cases p.2.2.all λr=>decide (0<=r.1)with
  |false=>rfl
  |true=>rw[Al,Ad,Ac];simp only;rw[qh hv]
section
variable {q:Hc}{B:List Nat}
theorem og(hq:JH q)(hb:B.length<=lim):WJ (RH q B):=by
 unfold RH WJ
 exact⟨by simpa using hb,by simpa using hb,by simpa using hq.1⟩
theorem dp{k:Nat}(h:k < B.length):AZ (oI B) (k:Int)=some ((B[k]:Nat):Int):=by
 rw[SB h,KV h]
theorem ub:∀k (h:k < B.length),(B.take (k+1)).map (λ(v:Nat)=>LB q (v:Int))=(B.take k).map (λ(v:Nat)=>LB q (v:Int))++[LB q ((B[k]:Nat):Int)]:=λk h=>by
 rw[AB h,BU];rfl
theorem ua:∀k (h:k < B.length),(B.take (k+1)).map (λ_=>((1:Int),(1:Int)))=(B.take k).map (λ_=>((1:Int),(1:Int)))++[((1:Int),(1:Int))]:=λk h=>by
 rw[AB h,BU];rfl
theorem w9(hq:JH q)(hv:De q=true)(hs:B.length<=5)(hb:QV q.1 (oI B)=true):JI q (oI B)=some (wB q B):=by
 have hol:=C6 B
 have hbl:(oI B).length<=lim:=by rw[hol];unfold lim;omega
 unfold JI
 rw[Ks hq,hv]
 simp only[Aa,Al,Ad]
 rw[oW hbl,hb]
 simp only[Al,Ad]
 have key:=Cs (body:=HL q (oI B)) (out:=(B.map (λ(v:Nat)=>LB q (v:Int)),B.map (λ_=>((1:Int),(1:Int))))) (λk=>((B.take k).map (λ(v:Nat)=>LB q (v:Int)),(B.take k).map (λ_=>((1:Int),(1:Int))),(k:Int))) B.length (λk hk rec=>by
  have hl2:Ap (HM q (oI B) (k:Int)) fz ([],0)=some (LB q ((B[k]:Nat):Int)):=by
   rw[Pq (B:=HM q (oI B) (k:Int)) (l:=q.2.1) (s0:=[]) (h:=λa=>(cond (a.2.contains ((B[k]:Nat):Int)) 1 0,1)) (by simpa using hq.1) (λj hj s rec hs=>by
    show cond (decide ((j:Int) < (q.2.1.length:Int))) _ _=_
    rw[Bu hj,Ac,Bm hj]
    simp only[Aa]
    rw[dp hk]
    simp only
    rw[X9 (hq.2.1 _ (Ak hj)).2]
    simp only
    unfold HN
    have h1:=hq.1
    cases(q.2.1[j]).2.contains ((B[k]:Nat):Int)with
    |true=>rw[Ac,AH (by rw[hs];simp;unfold lim at h1⊢;omega),BC hj (Be hq.1)];rfl
    |false=>rw[Ad,AH (by rw[hs];simp;unfold lim at h1⊢;omega),BC hj (Be hq.1)];rfl) (λrec s=>by
    show cond (decide ((q.2.1.length:Int) < (q.2.1.length:Int))) _ _=_
    rw[Ba];rfl),Bq]
   rfl
  unfold HL
  simp only
  rw[hol,Bu hk,Ac,hl2]
  simp only[Aa]
  rw[AH (by simp;unfold lim;omega),AH (by simp;unfold lim;omega),wrap_in (by omega),ub k hk,ua k hk];rfl) (λrec=>by
  unfold HL
  simp only
  rw[hol,Ba,A6];rfl) fz (CQ (by unfold lim;omega))
 rw[show(([]:Mx),([]:List Rt),(0:Int))=((B.take 0).map (λ(v:Nat)=>LB q (v:Int)),(B.take 0).map (λ_=>((1:Int),(1:Int))),((0:Nat):Int))from rfl,key]
 simp only
 have h4:Ap (NM q) fz ([],0)=some (q.2.1.map λ_=>(1,1)):=kL hq
 rw[h4]
 simp only
 rw[show(B.map (λ(v:Nat)=>LB q (v:Int)),B.map (λ_=>((1:Int),(1:Int))),q.2.1.map λ_=>((1:Int),(1:Int)))=RH q B from rfl,kJ (og hq (by unfold lim;omega))]
 rfl
theorem ou(hq:JH q)(hv:De q=true)(hs:B.length<=5)(hb:QV q.1 (oI B)=true):Jw q (oI B)=some (wB q B):=by
 have hol:=C6 B
 have hbl:(oI B).length<=lim:=by rw[hol];unfold lim;omega
 unfold Jw
 rw[Mj hq,hv]
 simp only[Aa,Al,Ad]
 rw[ot hbl,hb]
 simp only[Al,Ad]
 unfold M9
 have key:=Cs (body:=JQ q (oI B)) (out:=(B.map (λ(v:Nat)=>LB q (v:Int)),B.map (λ_=>((1:Int),(1:Int))))) (λk=>((B.take k).map (λ(v:Nat)=>LB q (v:Int)),(B.take k).map (λ_=>((1:Int),(1:Int))),(k:Int))) B.length (λk hk rec=>by
  unfold JQ
  simp only
  rw[hol,Bu hk,Ac,dp hk]
  simp only[Aa]
  rw[eF hq]
  simp only
  rw[AH (by simp;unfold lim;omega),AH (by simp;unfold lim;omega),wrap_in (by omega),ub k hk,ua k hk];rfl) (λrec=>by
  unfold JQ
  simp only
  rw[hol,Ba,A6];rfl) fz (CQ (by unfold lim;omega))
 rw[show(([]:Mx),([]:List Rt),(0:Int))=((B.take 0).map (λ(v:Nat)=>LB q (v:Int)),(B.take 0).map (λ_=>((1:Int),(1:Int))),((0:Nat):Int))from rfl,key]
 simp only[Aa]
 rw[jb hq]
 simp only
 rw[show(B.map (λ(v:Nat)=>LB q (v:Int)),B.map (λ_=>((1:Int),(1:Int))),q.2.1.map λ_=>((1:Int),(1:Int)))=RH q B from rfl,ja (og hq (by unfold lim;omega))]
 rfl
theorem o5(hq:JH q)(hv:De q=true):Ip q=some (Qm (cpP q)):=by
 unfold Ip
 rw[yv hq]
 unfold cpB
 rw[hv]
 simp only[Aa,Ac,Al,Ad]
 rw[kJ (oh hv)]
theorem uN(hq:JH q)(hv:De q=true):Kn q=some (Qm (cpP q)):=by
 unfold Kn
 rw[yd hq]
 unfold cpB
 rw[hv]
 simp only[Aa,Ac]
 rw[ja (oh hv)]
theorem r7(p:LP):(Qm p).2.2=false->(Qm p).2.1=(0,0):=by
 unfold Qm
 cases O6 p&&p.2.2.all λr=>decide (0<=r.1)with
 |false=>exactλ_=>rfl
 |true=>
  rw[Ac]
  unfold mnB
  refine S1 (P:=λst:List Rt×Rt×Bool=>st.2.2=false->st.2.1=(0,0)) (λb a h=>?_) _ _ (λ_=>rfl)
  unfold mnS
  cases(J8 p.2.2 a).2&&(!b.2.2 || decide (IntKind.i64.wrap (JS (J8 p.2.2 a).1 b.2.1 * 1) < 0))with
  |false=>exact h
  |true=>exactλh=>by cases h
end
theorem xz{n:Nat}(h:n<=4):xy 1 (n:Int)=((2 ^ n:Nat):Int)∧2 ^ n<=16:=by
 have:n=0∨n=1∨n=2∨n=3∨n=4:=by omega
 rcases this with rfl|rfl|rfl|rfl|rfl<;>exact⟨by decide,by decide⟩
def XO(B:List Nat):Nat:=B.foldl (λm v=>m+2 ^ v) 0
theorem eQ(S:Nat->Bool):∀n,XO (Qg n S)=O7 n S
 |0=>rfl
 |n+1=>by
  have ih:=eQ S n
  unfold XO at ih⊢
  rw[pu,Dj,ih,O7]
  cases S n<;>rfl
theorem bT:∀(l:List Nat) (m:Nat),m<=l.foldl (λm v=>m+2 ^ v) m
 |[],m=>Bl m
 |v::l,m=>by
  have:=bT l (m+2 ^ v)
  rw[Dc]
  exact BD (Nat.le_add_right m _) this
theorem jR(B:List Nat)(k:Nat):XO (B.take k)<=XO B:=by
 have:=bT (B.drop k) (XO (B.take k))
 unfold XO at this⊢
 rw[<-Dj,FE]at this
 exact this
theorem wO{B:List Nat}{k:Nat}(h:k < B.length):XO (B.take (k+1))=XO (B.take k)+2 ^ B[k]:=by
 unfold XO
 rw[AB h,Dj];rfl
section
variable {q:Hc}{O:List Nat}
theorem xl{x:List (List Int)×List Int}{i:Nat}{S:Nat->Bool}(hv:De q=true)(hx:AZ x.1 (i:Int)=some (oI (Qg q.1.toNat S))):Ap (Jj x (i:Int)) fz (0,0)=some ((O7 q.1.toNat S:Nat):Int):=by
 obtain⟨h1,h2,h3,h4⟩:=FF hv
 have hm:=jQ hv S
 rw[<-eQ S]at hm⊢
 have hin:∀v∈Qg q.1.toNat S,v < q.1.toNat:=λv hv=>An.1 (Bf.1 hv).1
 have hlen:(Qg q.1.toNat S).length<=5:=by have:=Py q.1.toNat S;unfold Qg;omega
 generalize Qg q.1.toNat S=B at hm hx hin hlen⊢
 have key:=Cs (body:=Jj x (i:Int)) (out:=((XO B:Nat):Int)) (λk=>(((XO (B.take k):Nat):Int),(k:Int))) B.length (λk hk rec=>by
  unfold Jj
  simp only
  rw[hx]
  simp only[Aa]
  rw[C6,Bu hk,Ac,dp hk]
  simp only
  have hb:=hin _ (Ak hk)
  obtain⟨e1,e2⟩:=xz (n:=B[k]) (by omega)
  have hs:=wO hk
  have ht:=jR B (k+1)
  rw[AH (by omega),e1,hs,wrap_in (by omega),wrap_in (by omega),Int.natCast_add]
  rfl) (λrec=>by
  unfold Jj
  simp only
  rw[hx]
  simp only[Aa]
  rw[C6,Ba,A6];rfl) fz (CQ (by unfold lim;omega))
 exact key
theorem UF(hl:O.length=q.1.toNat){i:Nat}(hi:i < q.1.toNat):AZ (OJ O (Fe q)).1 (i:Int)=some (oI (Qg q.1.toNat (WA q O i))):=by
 rw[Xr hl,Bm (by simpa using hi)]
 simp
theorem O3(hl:O.length=q.1.toNat):(OJ O (Fe q)).1.length=q.1.toNat∧(OJ O (Fe q)).2.length=q.1.toNat:=by
 unfold OJ
 simp[hl]
theorem lJ{k:Nat}(h:k<=100):IntKind.i64.wrap ((k:Int)+1)=((k+1:Nat):Int):=by rw[wrap_in (by omega)];omega
theorem jo{K:List Rt}{m:Nat}(h:m < K.length):AZ K (m:Int)=some (atR K m):=Em h
theorem xx(hq:JH q)(hv:De q=true)(hp:Vp O)(hl:O.length=q.1.toNat){K:List Rt}(hK:KnI q K):∃K',KnI q K'∧N8 q (OJ O (Fe q)) K=some (wdB q O,true,K'):=by
 obtain⟨h1,h2,h3,h4⟩:=FF hv
 have key:∀(d k:Nat) (m:Nat) (K:List Rt),k+d=q.1.toNat->d < m->KnI q K->∃K',KnI q K'∧Ap (FI q (OJ O (Fe q))) m (K,(Yu q O k).1,(Yu q O k).2,(k:Int))=some (.inl (K',(wdB q O).1,(wdB q O).2)):=by
  intro d
  induction d with
  |zero=>
   intro k m K hk hm hK
   obtain⟨m,rfl⟩:∃g,m=g+1:=⟨m - 1,by omega⟩
   refine⟨K,hK,?_⟩
   rw[By]
   unfold FI
   simp only
   rw[(O3 hl).1,Ah (by omega),Ad,show k=q.1.toNat from by omega]
   rfl
  |succ d ih=>
   intro k m K hk hm hK
   obtain⟨m,rfl⟩:∃g,m=g+1:=⟨m - 1,by omega⟩
   have hki:k < q.1.toNat:=by omega
   have hS:=Vz (q:=q) hp hl hki
   have hm32:=jQ hv (WA q O k)
   have hmK:O7 q.1.toNat (WA q O k) < K.length:=by rw[hK.1];exact hm32
   have hok:=ph hv (Uy hv hS)
   have step:∀K2:List Rt,KnI q K2->atR K2 (O7 q.1.toNat (WA q O k))=wdP q O k->∃K',KnI q K'∧Jk (Ap (FI q (OJ O (Fe q))) m) (Yu q O k).1 (Yu q O k).2 (k:Int) ((O7 q.1.toNat (WA q O k):Nat):Int) K2=some (.inl (K',(wdB q O).1,(wdB q O).2)):=λK2 hK2 he=>by
    obtain⟨K',hK',e⟩:=ih (k+1) m K2 (by omega) (by omega) hK2
    refine⟨K',hK',?_⟩
    unfold Jk Lx
    rw[jo (by rw[hK2.1];exact hm32),he]
    simp only[Aa]
    rw[Uh]
    simp only
    rw[lJ (by omega),<-e,lG]
    unfold wdS
    cases decide (0 < JS (wdP q O k) (Yu q O k))<;>rfl
   rw[By]
   generalize Ap (FI q (OJ O (Fe q))) m=rec at step⊢
   unfold FI
   simp only
   rw[(O3 hl).1,Bu hki,Ac,xl hv (UF hl hki)]
   simp only[Aa]
   rw[jo hmK]
   simp only
   rcases hK.2 _ hS with h0|h0
   ·rw[h0]
    simp only[BY,Ac]
    rw[UF hl hki]
    simp only
    rw[w9 hq hv (Uy hv hS).2.1 (Xf hv hS)]
    simp only
    rw[hok.1,Al,Ad,AH (by rw[hK.1];decide)]
    have:=step _ (qw hK hS) (uY hmK _)
    exact this
   ·have hne:((atR K (O7 q.1.toNat (WA q O k))).2==0)=false:=by
     rw[h0]
     have:=(Hi hok.2.1).1
     exact A3.2 (by omega)
    rw[hne,Ad]
    exact step K hK h0
 obtain⟨K',hK',e⟩:=key q.1.toNat 0 fz K (by omega) (CQ (by unfold lim;omega)) hK
 refine⟨K',hK',?_⟩
 unfold N8
 rw[show(K,(0:Int),(1:Int),(0:Int))=(K,(Yu q O 0).1,(Yu q O 0).2,((0:Nat):Int))from rfl,e]
 rfl
theorem pJ(hv:De q=true)(hl:O.length=q.1.toNat):Zh (OJ O (Fe q)):=by
 obtain⟨h1,h2,h3,h4⟩:=FF hv
 refine⟨by rw[(O3 hl).1];unfold lim;omega,λb hb=>?_,by rw[(O3 hl).2];unfold lim;omega⟩
 rw[Xr hl]at hb
 obtain⟨i,_,rfl⟩:=Bh.1 hb
 rw[C6]
 have:=Py q.1.toNat (WA q O i)
 unfold Qg lim
 omega
theorem uT(hq:JH q)(hv:De q=true)(hp:Vp O)(hl:O.length=q.1.toNat):Gx q (OJ O (Fe q))=some (wdB q O,true):=by
 obtain⟨h1,h2,h3,h4⟩:=FF hv
 unfold Gx
 rw[ov hq (pJ hv hl),pI hv hp hl]
 simp only[Aa,Al,Ad]
 have key:=Cs (body:=DQ q (OJ O (Fe q))) (out:=((wdB q O).1,(wdB q O).2)) (λk=>(cond (k==0) (0,0,0) ((Yu q O k).1,(Yu q O k).2,(k:Int)))) q.1.toNat (λk hk rec=>by
  have hS:=Vz (q:=q) hp hl hk
  unfold DQ FQ FR
  cases k with
  |zero=>
   show cond (decide (((0:Nat):Int) < (((OJ O (Fe q)).1.length:Nat):Int))) _ _=_
   rw[(O3 hl).1,Bu hk,Ac,show(0:Int)=((0:Nat):Int)from rfl,UF hl hk]
   simp only[Aa]
   rw[ou hq hv (Uy hv hS).2.1 (Xf hv hS)]
   show rec _=rec ((Yu q O 1).1,(Yu q O 1).2,((1:Nat):Int))
   rw[xF hv hp hl hk]
   rfl
  |succ k=>
   show cond (decide (((k+1:Nat):Int) < (((OJ O (Fe q)).1.length:Nat):Int))) _ _=_
   rw[(O3 hl).1,Bu hk,Ac,UF hl hk]
   simp only[Aa]
   rw[ou hq hv (Uy hv hS).2.1 (Xf hv hS)]
   simp only
   have e0:(((k+1:Nat):Int)==0)=false:=A3.2 (by omega)
   rw[e0,Ad,XE]
   simp only
   rw[lJ (by omega)]
   show _=rec ((Yu q O (k+1+1)).1,(Yu q O (k+1+1)).2,((k+1+1:Nat):Int))
   rw[lG (k+1)]
   unfold wdS
   show cond (decide (0 < JS (wdP q O (k+1)) (Yu q O (k+1)))) _ _=_
   cases decide (0 < JS (wdP q O (k+1)) (Yu q O (k+1)))<;>rfl) (λrec=>by
  unfold DQ
  obtain⟨j,hj⟩:∃j,q.1.toNat=j+1:=⟨q.1.toNat - 1,by omega⟩
  have e0:(q.1.toNat==0)=false:=A3.2 (by omega)
  simp only[e0,Ad]
  rw[(O3 hl).1,Ba];rfl) fz (CQ (by unfold lim;omega))
 rw[show((0:Int),(0:Int),(0:Int))=(λk=>(cond (k==0) (0,0,0) ((Yu q O k).1,(Yu q O k).2,(k:Int)))) 0 from rfl,key]
theorem xa(hq:JH q)(hv:De q=true):FU q=some (Us q):=by
 have hol:=eZ hv
 have key:∀(d k:Nat) (m:Nat) (K:List Rt),k+d=(Ot q.1.toNat).length->d < m->KnI q K->Ap (Dz q ((Ot q.1.toNat).map oI)) m ((Tz q k).1.1,(Tz q k).1.2,(Tz q k).2.1.1,(Tz q k).2.1.2,(Tz q k).2.2,K,(k:Int))=some ((Us q).1.1,(Us q).1.2,(Us q).2.1.1,(Us q).2.1.2,(Us q).2.2):=by
  intro d
  induction d with
  |zero=>
   intro k m K hk hm hK
   obtain⟨m,rfl⟩:∃g,m=g+1:=⟨m - 1,by omega⟩
   rw[By]
   unfold Dz
   simp only
   rw[As,Ah (by omega),Ad,show k=(Ot q.1.toNat).length from by omega]
   rfl
  |succ d ih=>
   intro k m K hk hm hK
   obtain⟨m,rfl⟩:∃g,m=g+1:=⟨m - 1,by omega⟩
   have hki:k < (Ot q.1.toNat).length:=by omega
   obtain⟨hp,hl⟩:=ai _ (Ak hki)
   obtain⟨K',hK',e⟩:=xx hq hv hp hl hK
   have hr:=ih (k+1) m K' (by omega) (by omega) hK'
   rw[By]
   generalize Ap (Dz q ((Ot q.1.toNat).map oI)) m=rec at hr⊢
   unfold Dz E4 F7
   simp only
   rw[As,Bu hki,Ac,Bm (by rw[As];exact hki),BQ]
   simp only[Aa]
   rw[xe hq hv hp hl]
   simp only
   rw[e]
   simp only[Ac]
   rw[wrap_in (by omega),Uh]
   rw[<-hr,dM hki]
   generalize Tz q k=st
   obtain⟨⟨b1,b2⟩,⟨v1,v2⟩,f⟩:=st
   unfold bdS
   cases f with
   |false=>rfl
   |true=>
    simp only[Al,Ck,Ad]
    cases decide (JS (wdB q (Ot q.1.toNat)[k]) (v1,v2) < 0)<;>rfl
 unfold FU
 rw[w6 hq hv]
 simp only[Aa]
 rw[AH (by unfold lim;decide)]
 have:=key (Ot q.1.toNat).length 0 fz (List.replicate 32 (0,0)) (by omega) (CQ (by unfold lim;omega)) qv
 rw[show(([]:List (List Int)),([]:List Int),(0:Int),(0:Int),false,List.replicate (Int.toNat 32) (((0:Int),(0:Int)):Rt),(0:Int))=((Tz q 0).1.1,(Tz q 0).1.2,(Tz q 0).2.1.1,(Tz q 0).2.1.2,(Tz q 0).2.2,List.replicate 32 ((0:Int),(0:Int)),((0:Nat):Int))from rfl,this]
theorem ya(hq:JH q)(hv:De q=true):G0 q=some (Us q):=by
 have hol:=eZ hv
 unfold G0
 rw[uB hq hv]
 simp only[Aa]
 have key:=Cs (body:=D5 q ((Ot q.1.toNat).map oI)) (out:=((Us q).1.1,(Us q).1.2,(Us q).2.1.1,(Us q).2.1.2,(Us q).2.2)) (λk=>((Tz q k).1.1,(Tz q k).1.2,(Tz q k).2.1.1,(Tz q k).2.1.2,(Tz q k).2.2,(k:Int))) (Ot q.1.toNat).length (λk hk rec=>by
  obtain⟨hp,hl⟩:=ai _ (Ak hk)
  unfold D5 F4 F5
  simp only
  rw[As,Bu hk,Ac,Bm (by rw[As];exact hk),BQ]
  simp only[Aa]
  rw[uH hq hv hp hl]
  simp only
  rw[uT hq hv hp hl]
  simp only
  rw[wrap_in (by omega),XE,dM hk]
  generalize Tz q k=st
  obtain⟨⟨b1,b2⟩,⟨v1,v2⟩,f⟩:=st
  unfold bdS
  cases f with
  |false=>rfl
  |true=>
   simp only[Al,Ck,Ad]
   cases decide (JS (wdB q (Ot q.1.toNat)[k]) (v1,v2) < 0)<;>rfl) (λrec=>by
  unfold D5
  simp only
  rw[As,Ba];rfl) fz (CQ (by unfold lim;omega))
 rw[show(([]:List (List Int)),([]:List Int),(0:Int),(0:Int),false,(0:Int))=((Tz q 0).1.1,(Tz q 0).1.2,(Tz q 0).2.1.1,(Tz q 0).2.1.2,(Tz q 0).2.2,((0:Nat):Int))from rfl,key]
end
end Go.Proofs.YtplejokflpkcbaaGreatDoor
