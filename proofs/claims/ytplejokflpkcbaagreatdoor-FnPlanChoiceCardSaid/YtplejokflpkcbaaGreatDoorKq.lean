/-
 A machine on data, part 2b: regions whose order is open, tables, rules. Over no program; no conditions.
-/
import Derived.Test.YtplejokflpkcbaaGreatDoorKp
open Go.RowKit
set_option linter.unusedVariables false
set_option linter.unusedSimpArgs false
namespace Go.Proofs.YtplejokflpkcbaaGreatDoor
theorem Oc{K:PS->Prop}{o:LO}{d:Nat}{σ:PS}{X:(PS->Prop)->Prop}(hX:X K->∃σ1,X (λs=>s=σ1)∧K σ1)(h:PA o d σ K (X K)):∃σ1,PA o d σ (λs=>s=σ1) (X (λs=>s=σ1))∧K σ1:=by
 unfold PA at *
 split at h
 ·exact hX h
 ·exact h.elim
 ·rename_i q b _
  by_cases hb:WH b (σ q)=true
  ·obtain⟨s,h1,h2⟩:=hX (h.2.1 hb)
   exact⟨s,⟨h.1,λ_=>h1,λe=>by rw[hb]at e;cases e⟩,h2⟩
  ·exact⟨_,⟨h.1,λe=>absurd e hb,λ_=>rfl⟩,h.2.2 (by simpa using hb)⟩
theorem Xt{P:Program}{tb:Tb}{cns:List Nat}{K:PS->Prop}{o:LO}{σ:PS}(h:F0 P tb cns o σ K):∃σ1,F0 P tb cns o σ (λs=>s=σ1)∧K σ1:=by
 have hp:∀{o:LO}{σ:PS},Js tb o σ K->∃σ1,Js tb o σ (λs=>s=σ1)∧K σ1:=by
  intro o σ h
  unfold Js at *
  split at h
  ·exact h.elim
  ·split at h
   ·exact⟨_,⟨h.1,rfl⟩,h.2⟩
   ·exact h.elim
   ·rename_i q b _
    by_cases hb:WH b (σ q)=true
    ·exact⟨_,⟨h.1,λe=>⟨(h.2.1 hb).1,rfl⟩,λe=>by rw[hb]at e;cases e⟩,(h.2.1 hb).2⟩
    ·exact⟨_,⟨h.1,λe=>absurd e hb,λe=>rfl⟩,h.2.2 (by simpa using hb)⟩
 have hcS:∀{o:LO}{f:FuncId}{args:List Operand}{σ:PS},Pt P o f args σ K->∃σ1,Pt P o f args σ (λs=>s=σ1)∧K σ1:=by
  intro o f args σ h
  unfold Pt at *
  split at h
  ·exact⟨_,⟨h.1,h.2.choose,h.2.choose_spec.1,rfl⟩,h.2.choose_spec.2⟩
  ·split at h
   ·rename_i b _ _ q d _ _
    by_cases hb:WH b (σ q)=true
    ·exact⟨_,⟨h.1,λe=>⟨(h.2.1 hb).1,(h.2.1 hb).2.choose,(h.2.1 hb).2.choose_spec.1,rfl⟩,λe=>by rw[hb]at e;cases e⟩,(h.2.1 hb).2.choose_spec.2⟩
    ·exact⟨_,⟨h.1,λe=>absurd e hb,λe=>rfl⟩,h.2.2 (by simpa using hb)⟩
   ·exact h.elim
 have ha:∀{o:LO}{x:Operand}{d:Nat}{σ:PS},O2 tb o x d σ K->∃σ1,O2 tb o x d σ (λs=>s=σ1)∧K σ1:=by
  intro o x d σ h
  unfold O2 at *
  split at h
  ·split at h
   ·exact⟨_,rfl,h⟩
   ·exact h.elim
  ·exact⟨_,rfl,h⟩
  ·split at h
   ·exact⟨_,rfl,h⟩
   ·exact⟨_,rfl,h⟩
   ·exact⟨_,rfl,h⟩
   ·exact⟨_,⟨h.1,rfl⟩,h.2⟩
  ·exact⟨_,⟨h.1,rfl⟩,h.2⟩
 have hF:∀{o:LO}{f:FuncId}{args:List Operand}{σ:PS},Hm P cns o f args σ K->∃σ1,Hm P cns o f args σ (λs=>s=σ1)∧K σ1:=by
  intro o f args σ h
  unfold Hm at *
  split at h
  ·rename_i hc
   simp only[AI hc]
   obtain⟨d,hd,cs,q0,q1,q2,q3,q4⟩:=h
   exact⟨_,⟨d,hd,cs,q0,q1,q2,q3,rfl⟩,q4⟩
  ·rename_i hc
   simp only[AJ hc]
   rcases h with h|h|h
   ·obtain⟨s,h1,h2⟩:=hcS h
    exact⟨s,.inl h1,h2⟩
   ·unfold UD at *
    split at h
    ·exact h.elim
    ·rename_i x xs
     have key:Sc P o f x xs σ K->∃σ1,Sc P o f x xs σ (λs=>s=σ1)∧K σ1:=λ⟨s,cs,cs',r,q1,q2,q3,q4,q5,q6⟩=>⟨_,⟨s,cs,cs',r,q1,q2,q3,q4,q5,rfl⟩,q6⟩
     split at h
     ·obtain⟨s,h1,h2⟩:=key h.2
      exact⟨s,.inr (.inl ⟨h.1,h1⟩),h2⟩
     ·obtain⟨s,h1,h2⟩:=Oc (X:=λK=>Sc P o f x xs σ K) key h
      exact⟨s,.inr (.inl h1),h2⟩
   ·have key:∀{d},UE P d f args σ K->∃σ1,UE P d f args σ (λs=>s=σ1)∧K σ1:=λh=>h.elim (λ⟨s,xs,cs,cs',D,q1,q2,q3,q4,q5,q6,q7,q8,q9⟩=>⟨_,.inl ⟨s,xs,cs,cs',D,q1,q2,q3,q4,q5,q6,q7,q8,rfl⟩,q9⟩)
     (λh=>h.elim (λ⟨zs,x,xs,ys,us,os,os',r,D,q1,q2,q3,q4,q5,q6,q7,q8,q9⟩=>⟨_,.inr (.inl ⟨zs,x,xs,ys,us,os,os',r,D,q1,q2,q3,q4,q5,q6,q7,q8,rfl⟩),q9⟩)
      (λ⟨zs,x,s,n,n',e,cs,cs',r,q1,q2,q3,q4,q5,q6,q7,q8,q9⟩=>⟨_,.inr (.inr ⟨zs,x,s,n,n',e,cs,cs',r,q1,q2,q3,q4,q5,q6,q7,q8,rfl⟩),q9⟩))
    unfold VE at *
    split at h
    ·obtain⟨s,h1,h2⟩:=key h.2
     exact⟨s,.inr (.inr ⟨h.1,h1⟩),h2⟩
    ·obtain⟨s,h1,h2⟩:=Oc (X:=λK=>UE P (some _) f args σ K) key h
     exact⟨s,.inr (.inr h1),h2⟩
 have hu:∀{x:Operand}{d:Nat}{σ:PS},Xd x d σ K->∃σ1,Xd x d σ (λs=>s=σ1)∧K σ1:=by
  intro x d σ h
  unfold Xd at *
  split at h
  ·split at h
   ·exact⟨_,⟨h.1,rfl⟩,h.2⟩
   ·exact h.elim
  ·exact h.elim
 unfold F0 at *
 split at h
 ·split at h
  ·rename_i hc;simp only[AI hc];obtain⟨s,h1,h2⟩:=hu h.2;exact⟨s,⟨h.1,h1⟩,h2⟩
  ·rename_i hc;simp only[AJ hc];obtain⟨s,h1,h2⟩:=ha h.2;exact⟨s,⟨h.1,h1⟩,h2⟩
 ·split at h
  ·rename_i hc;simp only[AI hc];obtain⟨s,h1,h2⟩:=ha h.2;exact⟨s,⟨h.1,h1⟩,h2⟩
  ·rename_i hc;simp only[AJ hc];exact hp h
 ·split at h
  ·rename_i hc
   simp only[AI hc]
   have h0:=h.1
   have h2:=h.2
   unfold UZ at *
   split at h2
   ·split at h2
    ·exact⟨_,⟨h0,h2.1,rfl⟩,h2.2⟩
    ·exact h2.elim
   ·exact⟨_,⟨h0,h2.1,rfl⟩,h2.2⟩
   ·obtain⟨q,g,off,e,n,m,cs,k0,hq,k1,k2,k3,k4⟩:=h2
    exact⟨_,⟨h0,q,g,off,e,n,m,cs,k0,hq,k1,k2,k3,rfl⟩,k4⟩
   ·exact h2.elim
  ·rename_i hc;simp only[AJ hc];exact hp h
 ·have h0:=h.1
  have h2:=h.2
  unfold bl at *
  split at h2
  ·split at h2
   ·exact⟨_,⟨h0,h2.1,rfl⟩,h2.2⟩
   ·exact h2.elim
  ·exact h2.elim
 ·have h0:=h.1
  have h2:=h.2
  unfold aJ at *
  split at h2
  ·split at h2
   ·exact⟨_,⟨h0,h2.1,h2.2.1,h2.2.2.1,rfl⟩,h2.2.2.2⟩
   ·exact h2.elim
  ·obtain⟨g,off,e,n,m,cs,D,vc,q1,q2,q3,q4,q5,q6,q7,q8,q9,q10⟩:=h2
   exact⟨_,⟨h0,g,off,e,n,m,cs,D,vc,q1,q2,q3,q4,q5,q6,q7,q8,q9,rfl⟩,q10⟩
  ·exact h2.elim
 ·have h0:=h.1
  have h2:=h.2
  unfold TR at *
  split at h2
  ·exact⟨_,⟨h0,h2.1,rfl⟩,h2.2⟩
  ·exact h2.elim
 ·exact⟨_,⟨h.1,h.2.1,h.2.2.1,rfl⟩,h.2.2.2⟩
 ·refine Oc (X:=λK=>R8 tb _ _ _ σ K) (λh2=>?_) h
  unfold R8 at *
  split at h2
  ·split at h2
   ·exact⟨_,rfl,h2⟩
   ·exact h2.elim
  ·exact h2.elim
 ·refine Oc (X:=λK=>a8 tb _ _ _ _ σ K) (λh2=>?_) h
  unfold a8 at *
  split at h2
  ·split at h2
   ·exact⟨_,⟨h2.1,h2.2.1,rfl⟩,h2.2.2⟩
   ·exact h2.elim
  ·exact h2.elim
 ·split at h
  ·rename_i hc
   simp only[AI hc]
   have h0:=h.1
   have h2:=h.2
   unfold YT at *
   split at h2
   ·exact⟨_,⟨h0,h2.1,h2.2.1,h2.2.2.1,h2.2.2.2.1,rfl⟩,h2.2.2.2.2⟩
   ·exact h2.elim
  ·rename_i hc
   simp only[AJ hc]
   have h0:=h.1
   have h2:=h.2
   unfold XK at *
   split at h2
   ·exact⟨_,⟨h0,h2.1,h2.2.1,h2.2.2.1,rfl⟩,h2.2.2.2⟩
   ·exact h2.elim
 ·unfold Sb at *
  split at h
  ·split at h
   ·exact hF h
   ·have key:∀{d u args},Rj P d u args σ K->∃σ1,Rj P d u args σ (λs=>s=σ1)∧K σ1:=λ⟨f,us,ss,css,css',r,D,q1,q2,q3,q4,q5,q6,q7,q8,q9,q10⟩=>⟨_,⟨f,us,ss,css,css',r,D,q1,q2,q3,q4,q5,q6,q7,q8,q9,rfl⟩,q10⟩
    unfold QF at *
    split at h
    ·obtain⟨s,h1,h2⟩:=key h.2
     exact⟨s,⟨h.1,h1⟩,h2⟩
    ·have h0:=h.1
     obtain⟨s,h1,h2⟩:=Oc (X:=λK=>Rj P (some _) _ _ σ K) key h.2
     exact⟨s,⟨h0,h1⟩,h2⟩
   ·unfold TI at *
    split at h
    ·exact⟨_,⟨h.1,h.2.1,h.2.2.1,rfl⟩,h.2.2.2⟩
    ·exact h.elim
  ·refine Oc (X:=λK=>W7 tb _ _ _ _ _ σ K) (λh2=>?_) h
   unfold W7 at *
   split at h2
   ·rcases h2.2.2.2.2 with h3|h3
    ·exact⟨_,⟨h2.1,h2.2.1,h2.2.2.1,h2.2.2.2.1,.inl rfl⟩,h3⟩
    ·exact⟨_,⟨h2.1,h2.2.1,h2.2.2.1,h2.2.2.2.1,.inr ⟨rfl,h3.2⟩⟩,h3.1⟩
   ·exact h2.elim
  ·exact hp h
 ·refine Oc (X:=λK=>fS P _ _ _ _ σ K) (λh2=>?_) h
  unfold fS at *
  split at h2
  ·split at h2
   ·exact⟨_,rfl,h2⟩
   ·exact h2.elim
  ·exact h2.elim
 ·refine Oc (X:=λK=>mkF _ _ _ _ σ K) (λh2=>?_) h
  unfold mkF at *
  split at h2
  ·exact⟨_,rfl,h2⟩
  ·exact h2.elim
 ·exact hp h
def Wo(P:Program)(tb:Tb)(cns:List Nat):List (List Nat×List Nat)->List LO->PS->(PS->Prop)->Prop
 |_,[],σ,K=>bxS cns σ=true∧K σ
 |[],_::_,_,_=>False
 |(R,W)::fps,o::os,σ,K=>Vt R W o.op σ=true∧adB cns R o σ=true∧F0 P tb cns o σ (λσ'=>Wo P tb cns fps os σ' K)
def okF(cns:List Nat):List (List Nat×List Nat)->List LO->Bool
 |_,[]=>true
 |[],_::_=>false
 |(R,W)::fps,o::os=>fpB cns R W o&&okF cns fps os
def TS:List (List Nat)->List (List Nat)->List (List Nat)
 |acc,[]=>acc
 |acc,e::es=>TS (acc++[(e++e.flatMap (λk=>acc.getD k [])).eraseDups]) es
def meets(a b:List Nat):Bool:=a.any b.contains
def clash(x y:List Nat×List Nat):Bool:=meets x.2 y.1 || meets x.2 y.2 || meets x.1 y.2
def isX(o:LO):Bool:=match o.op,o.g,o.dst with
 |.extract (.tmp _) _,none,some _=>true
 |_,_,_=>false
def isM(o:LO):Bool:=match o.op,o.g,o.dst with
 |.move (.tmp _),none,some _=>true
 |_,_,_=>false
def uX(o:LO):Bool:=match o.op with
 |.store _ _ _=>true
 |_=>false
def xE(ops:List LO):Bool:=Nat.ble 2 (ops.countP uX)
def Yv(ops:List LO)(i:Nat):Bool:=match ops[i]? with
 |some o=>isX o || (isM o&&xE ops)
 |none=>false
theorem exX{o:LO}{b:Bool}(h:(isX o || (isM o&&b))=true):∃d,o.g=none∧o.dst=some d∧((∃sl ix,o.op=.extract (.tmp sl) ix)∨∃sl,o.op=.move (.tmp sl)):=by
 rw[Cq,Ab]at h
 rcases h with h|⟨h,_⟩
 ·unfold isX at h
  split at h
  ·rename_i sl ix d h1 h2 h3
   exact⟨d,h2,h3,.inl ⟨sl,ix,h1⟩⟩
  ·cases h
 ·unfold isM at h
  split at h
  ·rename_i sl d h1 h2 h3
   exact⟨d,h2,h3,.inr ⟨sl,h1⟩⟩
  ·cases h
def enf(es:List (List Nat))(ops:List LO)(i j:Nat):Bool:=Yv ops i&&Yv ops j&&es.getD i []==es.getD j []
def lkL(ops:List LO)(j:Nat):List Nat:=match ops[j]? with
 |some o=>Q6 o.op++gT o
 |none=>[]
def apF(fps:List (List Nat×List Nat))(ops:List LO)(i j:Nat):Bool:=match(ops[i]?).bind (·.dst)with
 |some d=> !(lkL ops j).contains d&&((ops[j]?).bind (·.dst))!=some d&&(match(ops[j]?).bind (·.dst)with
  |some e=> !(lkL ops i).contains e
  |none=>true)
 |none=>false
def okD(fps:List (List Nat×List Nat))(es:List (List Nat))(ops:List LO):Bool:=
 (fps.length==es.length&&(List.range es.length).all λj=>(es.getD j []).all (λk=>decide (k < j))&&(List.range j).all λi=> !clash (fps.getD i ([],[])) (fps.getD j ([],[])) || ((TS [] es).getD j []).contains i || enf es ops i j)&&
 (List.range es.length).all λi=> !Yv ops i || (List.range es.length).all λj=>j==i || (es.getD j []).contains i || ((TS [] es).getD i []).contains j || apF fps ops i j
theorem Zu{X:Nat->Prop}{es0:List (List Nat)}(hX:∀k,X k->∀m∈es0.getD k [],X m):∀(es acc pre:List (List Nat)),es0=pre++es->pre.length=acc.length->
  (∀j,(∀k∈es0.getD j [],X k)->∀i∈acc.getD j [],X i)->∀j,(∀k∈es0.getD j [],X k)->∀i∈(TS acc es).getD j [],X i
 |[],acc,pre,_,_,h=>h
 |e::es,acc,pre,he,hl,h=>by
  unfold TS
  refine Zu hX es _ (pre++[e]) (by rw[he];simp) (by simp[hl]) ?_
  intro j hj i hi
  rcases Nat.lt_trichotomy j acc.length with hlt|heq|hgt
  ·refine h j hj i ?_
   simpa[BT hlt]using hi
  ·subst heq
   have hej:es0.getD acc.length []=e:=by rw[he];simp[<-hl]
   rw[hej]at hj
   have hi':i∈(e++e.flatMap (λk=>acc.getD k [])).eraseDups:=by simpa using hi
   rw[List.mem_eraseDups,Aq,Co]at hi'
   rcases hi' with hi'|⟨k,hk,hi'⟩
   ·exact hj i hi'
   ·exact h k (hX k (hj k hk)) i hi'
  ·exfalso
   have:(acc++[(e++e.flatMap (λk=>acc.getD k [])).eraseDups])[j]? =none:=A8 (by simp;omega)
   rw[Au,this]at hi
   simp at hi
theorem Se{α:Type}{p q:α->Bool}(h:∀x,p x=true->q x=true):∀{l:List α}{x:α},x∈l->q x=true->p x=false->l.countP p < l.countP q
 |[],_,hx,_,_=>by simp at hx
 |y::l,x,hx,h1,h2=>by
  have hle:l.countP p<=l.countP q:=List.countP_mono_left (λx _=>h x)
  rw[List.countP_cons,List.countP_cons]
  rcases AV.1 hx with rfl|hx
  ·rw[h1,h2];simp;omega
  ·have:=Se h hx h1 h2
   have h3:(if p y=true then 1 else 0)<=(if q y=true then 1 else 0):=by
    split
    ·rename_i hp;rw[AI (h y hp)];exact Bl 1
    ·exact CK _
   omega
def mix(s:Nat->PS)(W:Nat->List Nat)(X:Nat->Bool):Nat->PS
 |0=>s 0
 |m+1=>if X m=true then pt (W m) (s (m+1)) (mix s W X m)else mix s W X m
section
variable {s:Nat->PS}{R W:Nat->List Nat}{X:Nat->Bool}{n i:Nat}
theorem XN{q:Nat}:∀{m k:Nat},m<=k->(∀j,m<=j->j < k->X j=true->(W j).contains q=false)->mix s W X k q=mix s W X m q:=by
 intro m k hmk h
 induction k with
 |zero=>
  have:m=0:=by omega
  subst this;rfl
 |succ k ih=>
  rcases BV k m with hlt|hge
  ·have:m=k+1:=by omega
   subst this;rfl
  ·rw[<-ih hge (λj h1 h2=>h j h1 (by omega))]
   simp only[mix]
   split
   ·rename_i hx
    have:=h k hge (by omega) hx
    simp only[pt]
    rw[AJ (by rw[this];exact H9)]
   ·rfl
theorem jL{q:Nat}(hloc:∀m,m < n->∀q,(W m).contains q=false->s (m+1) q=s m q):∀{m:Nat},m<=n->(∀j,j < m->(W j).contains q=true->X j=true)->mix s W X m q=s m q:=by
 intro m hm h
 induction m with
 |zero=>rfl
 |succ m ih=>
  have ih:=ih (by omega) (λj hj=>h j (by omega))
  simp only[mix]
  by_cases hw:(W m).contains q=true
  ·rw[AI (h m (by omega) hw)]
   simp only[pt]
   rw[AI hw]
  ·have hw':(W m).contains q=false:=by simpa using hw
   split
   ·simp only[pt];rw[AJ hw,ih,hloc m (by omega) q hw']
   ·rw[ih,hloc m (by omega) q hw']
theorem mS(hi:i < n)(hlater:∀j q,i < j->j < n->(W i).contains q=true->(W j).contains q=true->X j=false)(X':Nat->Bool)(hX':∀j,X' j=(X j || j==i)):
  mix s W X' n=pt (W i) (s (i+1)) (mix s W X n):=by
 funext q
 have hne:∀j,j≠i->X' j=X j:=λj hj=>by rw[hX'];simp[hj]
 have hii:X' i=true:=by rw[hX'];simp
 have hpre:∀m,m<=i->mix s W X' m=mix s W X m:=by
  intro m
  induction m with
  |zero=>intro _;rfl
  |succ m ih=>intro hm;simp only[mix];rw[hne m (by omega),ih (by omega)]
 simp only[pt]
 by_cases hw:(W i).contains q=true
 ·rw[AI hw,XN (m:=i+1) (by omega) (λj h1 h2 hx=>?_)]
  ·simp only[mix,AI hii,pt,AI hw]
  ·cases hwj:(W j).contains q
   ·rfl
   ·rw[hne j (by omega),hlater j q (by omega) h2 hw hwj]at hx;cases hx
 ·rw[AJ hw]
  have:∀m,m<=n->mix s W X' m q=mix s W X m q:=by
   intro m
   induction m with
   |zero=>intro _;rfl
   |succ m ih=>
    intro hm
    have ih:=ih (by omega)
    simp only[mix]
    by_cases hmi:m=i
    ·subst hmi
     rw[AI hii]
     simp only[pt]
     rw[AJ hw,ih]
     split
     ·simp only[pt];rw[AJ hw]
     ·rfl
    ·rw[hne m hmi]
     split
     ·simp only[pt];split
      ·rfl
      ·exact ih
     ·exact ih
  exact this n (Bl _)
end
section
variable {P:Program}{tb:Tb}{nt:Nat}{bx cns:List Nat}{σ:PS}{K:PS->Prop}
theorem el:∀{fps:List (List Nat×List Nat)}{os:List LO}{σ:PS},okF cns fps os=true->Wo P tb cns fps os σ K->
  ∃s:Nat->PS,s 0=σ∧K (s os.length)∧(∀i,i<=os.length->bxS cns (s i)=true)∧∀i o,os[i]? =some o->fpS cns (fps.getD i ([],[])).1 (fps.getD i ([],[])).2 o (s i)∧F0 P tb cns o (s i) (λσ'=>σ'=s (i+1))
 |fps,[],σ,_,h=>by
  have h:bxS cns σ=true∧K σ:=by cases fps<;>exact h
  exact⟨λ_=>σ,rfl,h.2,λ_ _=>h.1,λi o hi=>by simp at hi⟩
 |[],_::_,_,_,h=>h.elim
 |(R,W)::fps,o::os,σ,hk,h=>by
  simp only[okF,Ab]at hk
  obtain⟨hf,hf',h⟩:=h
  have hbx:bxS cns σ=true:=by unfold adB at hf';rw[Ab]at hf';exact hf'.2
  replace hf:fpS cns R W o σ:=⟨hk.1,hf,hf'⟩
  obtain⟨σ1,h1,h2⟩:=Xt h
  obtain⟨s,s0,sk,sb,hs⟩:=el hk.2 h2
  refine⟨λi=>match i with|0=>σ|i+1=>s i,rfl,by simpa using sk,λi hi=>?_,λi o' hi=>?_⟩
  ·cases i with
   |zero=>exact hbx
   |succ i=>exact sb i (by simpa using hi)
  cases i with
  |zero=>
   simp only[B6,Ao]at hi
   subst hi
   refine⟨by simpa using hf,?_⟩
   show F0 P tb cns o σ (λσ'=>σ'=s 0)
   rw[s0];exact h1
  |succ i=>simpa using hs i o' (by simpa using hi)
theorem eP{s:Nat->PS}{W:Nat->List Nat}{X:Nat->Bool}:∀{n:Nat},(∀m,m<=n->bxS cns (s m)=true)->bxS cns (mix s W X n)=true:=by
 intro n h
 refine Ae.2 λq hq=>?_
 induction n with
 |zero=>exact Ae.1 (h 0 (Bl _)) q hq
 |succ n ih=>
  have ih:=ih (λm hm=>h m (by omega))
  simp only[mix]
  split
  ·unfold pt
   split
   ·exact Ae.1 (h (n+1) (Bl _)) q hq
   ·exact ih
  ·exact ih
theorem gH{base:Bs}{St0:Nat->Nat->Prop}{w0 w:World}{a:Act}{k:Nat}(hr:Rel P nt bx base St0 w0 σ a w):Rel P nt bx base St0 w0 σ a {w with drawn:=k}:=by
 obtain⟨St,B,h,hb,hst,hz⟩:=hr
 exact⟨St,B,h.world (λ_ _ h=>h) (λ_ _ _=>rfl) (Bl _) (λ_ _ _=>⟨rfl,λ_=>DB⟩) h.st,⟨hb.os,hb.tape,hb.output,hb.size,hb.block⟩,hst,hz⟩
theorem TY{ops:Array Oper}{j:Nat}{o:Oper}(ho:ops[j]? =some o):(ops.toList.map Tn).getD j []=Tn o:=by
 rw[Au,BE,Array.getElem?_toList,ho];rfl
theorem XM{a b:List Nat}{q:Nat}(h1:a.contains q=true)(h2:b.contains q=true):meets a b=true:=by
 unfold meets
 rw[Cg]
 exact⟨q,by simpa using h1,h2⟩
theorem bA{l:Array Bool}{i j:Nat}(hi:i < l.size):(l.setIfInBounds i true).getD j false=(l.getD j false || j==i):=by
 by_cases h:i=j
 ·subst h;simp[hi]
 ·rw[getD_set_ne false h]
  have:(j==i)=false:=by simp;omega
  rw[this,CV]
theorem bk{K':PS->Prop}(hk:∀σ,K σ->K' σ):∀{fps:List (List Nat×List Nat)}{os:List LO}{σ:PS},Wo P tb cns fps os σ K->Wo P tb cns fps os σ K'
 |fps,[],σ,h=>by
  have h:bxS cns σ=true∧K σ:=by cases fps<;>exact h
  cases fps<;>exact⟨h.1,hk _ h.2⟩
 |[],_::_,_,h=>h.elim
 |(R,W)::fps,o::os,σ,⟨h1,h2,h3⟩=>⟨h1,h2,iL (λσ' h=>bk hk h) h3⟩
theorem j3:∀{fps:List (List Nat×List Nat)}{os:List LO}{i:Nat}{o:LO},okF cns fps os=true->os[i]? =some o->fpB cns (fps.getD i ([],[])).1 (fps.getD i ([],[])).2 o=true
 |_,[],i,_,_,h=>by simp at h
 |[],_::_,_,_,h,_=>by cases h
 |(R,W)::fps,o::os,i,o',h,hi=>by
  simp only[okF,Ab]at h
  cases i with
  |zero=>simp only[B6,Ao]at hi;subst hi;exact h.1
  |succ i=>
   have:=j3 (fps:=fps) (os:=os) (i:=i) (o:=o') h.2 (by simpa using hi)
   simpa using this
theorem bV:∀{fps:List (List Nat×List Nat)}{os:List LO}(p:Nat),okF cns fps os=true->okF cns (fps.take p) (os.take p)=true
 |_,[],p,_=>by rw[List.take_nil];cases(List.take p _)<;>rfl
 |[],_::_,_,h=>by cases h
 |(R,W)::fps,o::os,0,_=>rfl
 |(R,W)::fps,o::os,p+1,h=>by
  simp only[okF,Ab]at h
  rw[Eo,Eo,okF,h.1,bV p h.2];rfl
theorem em:∀{os:List LO}{σ:PS},Vr P tb cns os σ K->∃s:Nat->PS,s 0=σ∧K (s os.length)∧∀i o,os[i]? =some o->F0 P tb cns o (s i) (λσ'=>σ'=s (i+1))
 |[],σ,h=>⟨λ_=>σ,rfl,h,λi o hi=>by simp at hi⟩
 |o::os,σ,h=>by
  obtain⟨σ1,h1,h2⟩:=Xt (show F0 P tb cns o σ (λσ'=>Vr P tb cns os σ' K)from h)
  obtain⟨s,s0,sk,hs⟩:=em h2
  refine⟨λi=>match i with|0=>σ|i+1=>s i,rfl,by simpa using sk,λi o' hi=>?_⟩
  cases i with
  |zero=>
   simp only[B6,Ao]at hi
   subst hi
   show F0 P tb cns o σ (λσ'=>σ'=s 0)
   rw[s0];exact h1
  |succ i=>simpa using hs i o' (by simpa using hi)
theorem lr(htb:H1 P tb){ops:Array Oper}{s:Nat->PS}{p:Nat}(hok:ops.toList.all (SC nt bx)=true)(hA:(ops.toList.map (CG ops)).all (okA bx cns)=true)(hL:∀j,j < ops.size->∀k∈(ops.toList.map Tn).getD j [],k < j)
  (hT:∀j,p<=j->j < ops.size->∀i,p<=i->i < j->((TS [] (ops.toList.map Tn)).getD j []).contains i=true) (hs:∀i o,p<=i->(ops.toList.map (CG ops))[i]? =some o->F0 P tb cns o (s i) (λσ'=>σ'=s (i+1)))
  {base:Bs}{St0:Nat->Nat->Prop}{w0:World}{Q:Exit->Act->World->Prop}(hQ:∀a w,Rel P nt bx base St0 w0 (s ops.size) a w->Q .normal a w):
  ∀(fuel i:Nat) (listed:Array Bool) (a:Act) (w:World),p<=i->i<=ops.size->listed.size=ops.size->(∀j,j < ops.size->listed.getD j false=decide (j < i))->((List.range ops.size).countP (λi=> !listed.getD i false))<=fuel->Rel P nt bx base St0 w0 (s i) a w->wpAny P .any ops Q fuel listed a w:=by
 have htf:∀{listed:Array Bool}{j:Nat},listed.size=ops.size->j < ops.size->listed.getD j true=listed.getD j false:=by
  intro listed j hsz hj
  simp only[C8]
  rw[Array.getElem?_eq_getElem (by omega)];rfl
 have hone:∀{listed:Array Bool}{i k:Nat},p<=i->listed.size=ops.size->(∀j,j < ops.size->listed.getD j false=decide (j < i))->k∈Region.ready .any ops listed->k=i∧i < ops.size:=by
  intro listed i k hpi hsz hpat hk
  rw[I4]at hk
  obtain⟨h0,o,ho,hedge⟩:=hk
  have hlt:k < ops.size:=(GO.1 ho).1
  rw[htf hsz hlt,hpat k hlt]at h0
  have hki:i<=k:=by have:=Ie h0;omega
  rcases BV i k with hik|hik
  ·exfalso
   have hes:∀m∈(ops.toList.map Tn).getD k [],m < i:=λm hm=>by
    have hmk:=hL k hlt m hm
    rw[TY ho]at hm
    obtain⟨e,he,rfl⟩:=Bh.1 hm
    rw[Bf]at he
    have:=hedge e (by simpa using he.1) he.2
    rw[hpat _ (by omega)]at this
    exact LV this
   have:=Zu (X:=λm=>m < i) (es0:=ops.toList.map Tn) (λm hm e he=>Nat.lt_trans (hL m (by omega) e he) hm) _ [] [] rfl rfl (λj _ m hm=>by simp at hm) k hes i (by simpa using hT k (by omega) hlt i hpi hik)
   omega
  ·exact⟨by omega,by omega⟩
 intro fuel
 induction fuel with
 |zero=>
  intro i listed a w hpi hi hsz hpat hcnt hr
  have hn:i=ops.size:=by
   rcases BV i ops.size with h|h
   ·have h0:=List.countP_eq_zero.1 (Nat.le_zero.1 hcnt) i (An.2 h)
    rw[hpat i h]at h0
    simp at h0
   ·omega
  subst hn
  refine⟨?_,hQ a w hr⟩
  rw[List.eq_nil_iff_forall_not_mem]
  intro k hk
  have:=(hone hpi hsz hpat hk).2
  omega
 |succ fuel ih=>
  intro i listed a w hpi hi hsz hpat hcnt hr
  have hin:i < ops.size->i∈Region.ready .any ops listed:=λhlt=>by
   rw[I4]
   refine⟨by rw[htf hsz hlt,hpat i hlt];simp,ops[i],by simp[hlt],λe he hb=>?_⟩
   have hm:e.on∈(ops.toList.map Tn).getD i []:=by
    rw[TY (o:=ops[i]) (by simp[hlt])]
    exact DK (Bf.2 ⟨by simpa using he,hb⟩)
   have:=hL i hlt _ hm
   rw[hpat _ (by omega)]
   exact Ag this
  refine⟨λh0=>?_,λk hk=>?_⟩
  ·have hn:i=ops.size:=by
    rcases BV i ops.size with h|h
    ·have:=hin h;rw[h0]at this;simp at this
    ·omega
   rw[hn]at hr
   exact hQ a w hr
  ·obtain⟨rfl,hlt⟩:=hone hpi hsz hpat hk
   have h1:ops[k]? =some ops[k]:=by simp[hlt]
   have h2:(ops.toList.map (CG ops))[k]? =some (CG ops ops[k]):=by simp[hlt]
   have h3:SC nt bx ops[k]=true:=by rw[Ae]at hok;exact hok _ (by simp)
   have hAo:okA bx cns (CG ops ops[k])=true:=Ae.1 hA _ (Bo h2)
   have hst:=VK (nt:=nt) (bx:=bx) htb h3 hAo (hs k _ hpi h2) base St0 w0 a w Q hr
   have hX':∀j,(listed.setIfInBounds k true).getD j false=(listed.getD j false || j==k):=λj=>bA (by omega)
   have hnext:∀a' w',(∃σ',σ'=s (k+1)∧Rel P nt bx base St0 w0 σ' a' w')->wpAny P .any ops Q fuel (listed.setIfInBounds k true) a' w':=by
    rintro a' w' ⟨σ',rfl,hr'⟩
    refine ih (k+1) _ a' w' (by omega) hlt (by simp[hsz]) (λj hj=>?_) ?_ hr'
    ·rw[hX',hpat j hj,AL]
     simp only[Cq,AE,Bi]
     omega
    ·have:(List.range ops.size).countP (λj=> !(listed.setIfInBounds k true).getD j false) < (List.range ops.size).countP (λj=> !listed.getD j false):=by
      refine Se (λj hj=>?_) (x:=k) (An.2 hlt) (by rw[hpat k hlt];simp) (by rw[hX'];simp)
      rw[hX']at hj
      revert hj
      cases listed.getD j false<;>simp
     omega
   unfold wpOp
   rw[h1]
   simp only
   split
   ·rename_i hw;rw[AI hw]at hst;exact .inl (Oper.wp_mono hnext hst)
   ·rename_i hw;rw[AJ hw]at hst;exact hnext _ _ hst
theorem mj(htb:H1 P tb){ops:Array Oper}{fps:List (List Nat×List Nat)}{s:Nat->PS}{p:Nat}(hp:p<=ops.size)(hok:ops.toList.all (SC nt bx)=true)(hA:(ops.toList.map (CG ops)).all (okA bx cns)=true)(hD:okD fps (ops.toList.map Tn) (ops.toList.map (CG ops))=true)
  (hF:okF cns fps (ops.toList.map (CG ops))=true) (hT:∀j,p<=j->j < ops.size->Yv (ops.toList.map (CG ops)) j=false∧∀i,i < j->((TS [] (ops.toList.map Tn)).getD j []).contains i=true∨(i < p∧Yv (ops.toList.map (CG ops)) i=true∧∀k∈(ops.toList.map Tn).getD i [],((TS [] (ops.toList.map Tn)).getD j []).contains k=true))
  (hBx:∀i,i<=p->bxS cns (s i)=true)
  (hs:∀i o,i < p->(ops.toList.map (CG ops))[i]? =some o->fpS cns (fps.getD i ([],[])).1 (fps.getD i ([],[])).2 o (s i)∧F0 P tb cns o (s i) (λσ'=>σ'=s (i+1)))
  {base:Bs}{St0:Nat->Nat->Prop}{w0:World}{Q:Exit->Act->World->Prop}(hQ:∀(fuel:Nat) (listed:Array Bool) (a:Act) (w:World),listed.size=ops.size->(∀j,j < ops.size->listed.getD j false=decide (j < p))->((List.range ops.size).countP (λi=> !listed.getD i false))<=fuel->Rel P nt bx base St0 w0 (s p) a w->wpAny P .any ops Q fuel listed a w) (hP:∀c a w,¬Q (.panic c) a w):
  ∀(fuel:Nat) (listed:Array Bool) (a:Act) (w:World),listed.size=ops.size->((List.range ops.size).countP (λi=> !listed.getD i false))<=fuel->
   (∀k,listed.getD k false=true->∀m∈(ops.toList.map Tn).getD k [],listed.getD m false=true)->
   (∀i k,i < k->k < ops.size->enf (ops.toList.map Tn) (ops.toList.map (CG ops)) i k=true->listed.getD k false=true->listed.getD i false=true)->
   (∀j,p<=j->listed.getD j false=false)->Rel P nt bx base St0 w0 (mix s (λi=>(fps.getD i ([],[])).2) (λi=>listed.getD i false) p) a w->wpAny P .any ops Q fuel listed a w:=by
 have hD':=hD
 simp only[okD,Ab,Ae,An,As,BN,AE,Cq,AC]at hD'
 obtain⟨⟨hlen,hD'⟩,hX'⟩:=hD'
 have hless:∀j,j < ops.size->∀k∈(ops.toList.map Tn).getD j [],k < j:=λj hj=>(hD' j hj).1
 have hcl:∀i j,i < j->j < ops.size->clash (fps.getD i ([],[])) (fps.getD j ([],[]))=true->((TS [] (ops.toList.map Tn)).getD j []).contains i=true∨enf (ops.toList.map Tn) (ops.toList.map (CG ops)) i j=true:=by
  intro i j hij hj hc
  rcases(hD' j hj).2 i hij with(h|h)|h
  ·rw[h]at hc;cases hc
  ·exact .inl h
  ·exact .inr h
 have hop:∀i,i < ops.size->∃o,ops[i]? =some o∧(ops.toList.map (CG ops))[i]? =some (CG ops o)∧SC nt bx o=true:=by
  intro i hi
  refine⟨ops[i],by simp[hi],by simp[hi],?_⟩
  rw[Ae]at hok
  exact hok _ (by simp)
 have hloc:∀m,m < p->∀q,((fps.getD m ([],[])).2).contains q=false->s (m+1) q=s m q:=by
  intro m hm q hq
  obtain⟨o,h1,h2,h3⟩:=hop m (by omega)
  obtain⟨hf,he⟩:=hs m _ hm h2
  obtain⟨σ1,-,σ',rfl,-,hl⟩:=Xt (ZS (τ:=s m) (λ_ _=>rfl) (hBx m (by omega)) hf he)
  exact hl q hq
 have htf:∀{listed:Array Bool}{j:Nat},listed.size=ops.size->j < ops.size->listed.getD j true=listed.getD j false:=by
  intro listed j hsz hj
  simp only[C8]
  rw[Array.getElem?_eq_getElem (by omega)];rfl
 have hall:∀listed:Array Bool,listed.size=ops.size->Region.ready .any ops listed=[]->∀j,j < ops.size->listed.getD j false=true:=by
  intro listed hsz hr j
  induction j using Nat.strongRecOn with
  |_ j ihj=>
   intro hj
   cases hx:listed.getD j false
   ·exfalso
    obtain⟨o,h1,h2,h3⟩:=hop j hj
    have:j∈Region.ready .any ops listed:=by
     rw[I4]
     refine⟨by rw[htf hsz hj];exact hx,o,h1,λe he hb=>?_⟩
     have hm:e.on∈(ops.toList.map Tn).getD j []:=by
      rw[TY h1]
      exact DK (Bf.2 ⟨by simpa using he,hb⟩)
     have:=hless j hj _ hm
     exact ihj _ this (by omega)
    rw[hr]at this
    simp at this
   ·rfl
 have hend:∀listed:Array Bool,(∀j,j < p->listed.getD j false=true)->mix s (λi=>(fps.getD i ([],[])).2) (λi=>listed.getD i false) p=s p:=λlisted h=>by
  funext q
  exact jL (n:=p) hloc (Bl _) (λj hj _=>h j hj)
 have hsel:∀(j:Nat) (o:Oper) cs b,ops[j]? =some o->o.op≠.select cs b:=by
  intro j o cs b ho he
  have hB:=j3 hF (i:=j) (o:=CG ops o) (by simp[ho])
  have e1:(CG ops o).op=.select cs b:=he
  simp[fpB,To,fpX,spc,e1]at hB
 intro fuel
 induction fuel with
 |zero=>
  intro listed a w hsz hcnt hclo hcl2 hz hr
  have hl:∀j,j < ops.size->listed.getD j false=true:=by
   intro j hj
   have h0:=List.countP_eq_zero.1 (Nat.le_zero.1 hcnt) j (An.2 hj)
   simpa using h0
  rw[hend listed (λj hj=>hl j (by omega))]at hr
  refine hQ 0 listed a w hsz (λj hj=>?_) hcnt hr
  rw[hl j hj]
  rcases BV j p with h|h
  ·exact(Ag h).symm
  ·have:=hz j h;rw[hl j hj]at this;cases this
 |succ fuel ih=>
  intro listed a w hsz hcnt hclo hcl2 hz hr
  by_cases hful:∀j,j < p->listed.getD j false=true
  ·rw[hend listed hful]at hr
   refine hQ (fuel+1) listed a w hsz (λj hj=>?_) hcnt hr
   rcases BV j p with h|h
   ·rw[hful j h];exact(Ag h).symm
   ·rw[hz j h];exact(Ah (by omega)).symm
  have hanc:∀j,(∀k∈(ops.toList.map Tn).getD j [],listed.getD k false=true)->∀m∈(TS [] (ops.toList.map Tn)).getD j [],listed.getD m false=true:=
   Zu (X:=λk=>listed.getD k false=true) hclo _ [] [] rfl rfl (λj _ m hm=>by simp at hm)
  have hrdy:∀i,i∈Region.ready .any ops listed->(Yv (ops.toList.map (CG ops)) i=true∨∀k,Yv (ops.toList.map (CG ops)) k=true->k∉Region.ready .any ops listed)->i < p∧listed.getD i false=false∧∀k∈(ops.toList.map Tn).getD i [],listed.getD k false=true:=by
   intro i hi hpr
   rw[I4]at hi
   obtain⟨h0,o,ho,hedge⟩:=hi
   have hlt:i < ops.size:=(GO.1 ho).1
   rw[htf hsz hlt]at h0
   have hes:∀k∈(ops.toList.map Tn).getD i [],listed.getD k false=true:=λk hk=>by
    rw[TY ho]at hk
    obtain⟨e,he,rfl⟩:=Bh.1 hk
    rw[Bf]at he
    exact hedge e (by simpa using he.1) he.2
   refine⟨?_,h0,hes⟩
   rcases BV i p with h|h
   ·exact h
   ·exfalso
    obtain⟨t1,t2⟩:=hT i h hlt
    rcases hpr with hpr|hpr
    ·rw[t1]at hpr;cases hpr
    ·refine hful λj hj=>?_
     rcases t2 j (by omega)with t3|⟨_,t3,t4⟩
     ·exact hanc i hes j (by simpa using t3)
     ·cases hx:listed.getD j false
      ·exfalso
       obtain⟨oj,hoj,_⟩:=hop j (by omega)
       refine hpr j t3 ?_
       rw[I4]
       refine⟨by rw[htf hsz (by omega)];exact hx,oj,hoj,λe he hb=>?_⟩
       have hm:e.on∈(ops.toList.map Tn).getD j []:=by
        rw[TY hoj]
        exact DK (Bf.2 ⟨by simpa using he,hb⟩)
       exact hanc i hes _ (by simpa using t4 _ hm)
      ·rfl
  have step:∀i,i∈Region.ready .any ops listed->(Yv (ops.toList.map (CG ops)) i=true∨∀k,Yv (ops.toList.map (CG ops)) k=true->k∉Region.ready .any ops listed)->(∀m,m < i->enf (ops.toList.map Tn) (ops.toList.map (CG ops)) m i=true->listed.getD m false=true)->∀o,ops[i]? =some o->
    FM (fps.getD i ([],[])).1 (s i) (mix s (λi=>(fps.getD i ([],[])).2) (λi=>listed.getD i false) p)∧
    (if Region.wanted o (yielded ops a.tmps)then o.wp P a w (wpAny P .any ops Q fuel (listed.setIfInBounds i true)) Q else wpAny P .any ops Q fuel (listed.setIfInBounds i true) (a.put o.dst undef) w):=by
   intro i hi hpr henf o ho
   obtain⟨hlt,h0,hes⟩:=hrdy i hi hpr
   obtain⟨o',h1,h2,h3⟩:=hop i (by omega)
   rw[ho]at h1
   simp only[Ao]at h1
   subst h1
   obtain⟨hf,he⟩:=hs i _ hlt h2
   have hbef:∀m,m < i->clash (fps.getD m ([],[])) (fps.getD i ([],[]))=true->listed.getD m false=true:=λm hm hc=>by
    rcases hcl m i hm (by omega) hc with h|h
    ·exact hanc i hes m (by simpa using h)
    ·exact henf m hm h
   have haft:∀m,i < m->m < ops.size->clash (fps.getD i ([],[])) (fps.getD m ([],[]))=true->listed.getD m false=false:=by
    intro m hm hmn hc
    cases hx:listed.getD m false
    ·rfl
    ·rcases hcl i m hm hmn hc with h|h
     ·have:=hanc m (hclo m hx) i (by simpa using h)
      rw[h0]at this;cases this
     ·have:=hcl2 i m hm hmn h hx
      rw[h0]at this;cases this
   have hag:FM (fps.getD i ([],[])).1 (s i) (mix s (λi=>(fps.getD i ([],[])).2) (λi=>listed.getD i false) p):=by
    intro q hq
    rw[XN (m:=i) (by omega) (λj h1 h2 hx=>?_)]
    ·exact jL (n:=p) hloc (by omega) (λj hj hw=>hbef j hj (by simp only[clash,XM hw hq,Ht]))
    ·rcases BV i j with hij|hij
     ·cases hw:((fps.getD j ([],[])).2).contains q
      ·rfl
      ·rw[haft j hij (by omega) (by simp only[clash,XM hq hw,Bool.or_true])]at hx;cases hx
     ·have:j=i:=by omega
      subst this
      rw[h0]at hx;cases hx
   refine⟨hag,?_⟩
   have hAo:okA bx cns (CG ops o)=true:=Ae.1 hA _ (Bo h2)
   have hst:=VK (nt:=nt) (bx:=bx) htb h3 hAo (ZS hag (eP hBx) hf he) base St0 w0 a w Q hr
   have hnext:∀a' w',(∃σ',Loc (fps.getD i ([],[])).2 (s i) (mix s (λi=>(fps.getD i ([],[])).2) (λi=>listed.getD i false) p) (λσ'=>σ'=s (i+1)) σ'∧Rel P nt bx base St0 w0 σ' a' w')->
     wpAny P .any ops Q fuel (listed.setIfInBounds i true) a' w':=by
    rintro a' w' ⟨σ',⟨σ1,rfl,rfl,-⟩,hr'⟩
    have hX':∀j,(listed.setIfInBounds i true).getD j false=(listed.getD j false || j==i):=λj=>bA (by omega)
    refine ih _ a' w' (by simp[hsz]) ?_ ?_ ?_ ?_ ?_
    ·have:(List.range ops.size).countP (λj=> !(listed.setIfInBounds i true).getD j false) < (List.range ops.size).countP (λj=> !listed.getD j false):=by
      refine Se (λj hj=>?_) (x:=i) (An.2 (by omega)) (by simp only[h0];rfl) (by rw[hX'];simp)
      rw[hX']at hj
      revert hj
      cases listed.getD j false<;>simp
     omega
    ·intro k hk m hm
     rw[hX']at hk
     rw[hX']
     rw[Cq]at hk
     rcases hk with hk|hk
     ·rw[hclo k hk m hm];rfl
     ·have:k=i:=by simpa using hk
      subst this
      rw[hes m hm];rfl
    ·intro m k hmk hk hen hx
     rw[hX']at hx⊢
     rw[Cq]at hx
     rcases hx with hx|hx
     ·rw[hcl2 m k hmk hk hen hx];rfl
     ·have:k=i:=by simpa using hx
      subst this
      rw[henf m hmk hen];rfl
    ·intro j hj
     rw[hX',hz j hj]
     have:(j==i)=false:=by simp;omega
     rw[this];rfl
    ·rw[mS (X:=λj=>listed.getD j false) hlt (λj q h1 h2 hw hwj=>haft j h1 (by omega) (by simp only[clash,XM hw hwj,Bool.or_true,Ht])) _ hX']
     exact hr'
   split
   ·rename_i hw
    rw[AI hw]at hst
    exact Oper.wp_mono hnext hst
   ·rename_i hw
    rw[AJ hw]at hst
    exact hnext _ _ hst
  by_cases hex:∃i,Yv (ops.toList.map (CG ops)) i=true∧i∈Region.ready .any ops listed
  ·
   obtain⟨i,⟨hxi,hi⟩,hleast⟩:∃i,(Yv (ops.toList.map (CG ops)) i=true∧i∈Region.ready .any ops listed)∧∀j,j < i->¬(Yv (ops.toList.map (CG ops)) j=true∧j∈Region.ready .any ops listed):=by
    obtain⟨i,hi⟩:=hex
    induction i using Nat.strongRecOn with
    |_ i ihi=>
     by_cases h:∃j,j < i∧(Yv (ops.toList.map (CG ops)) j=true∧j∈Region.ready .any ops listed)
     ·obtain⟨j,hj,hj2⟩:=h
      exact ihi j hj hj2
     ·exact⟨i,hi,λj hj hj2=>h ⟨j,hj,hj2⟩⟩
   obtain⟨hlt,h0,hes⟩:=hrdy i hi (.inl hxi)
   obtain⟨o,ho,h2,h3⟩:=hop i (by omega)
   have henf:∀m,m < i->enf (ops.toList.map Tn) (ops.toList.map (CG ops)) m i=true->listed.getD m false=true:=by
    intro m hm hen
    simp only[enf,Ab,Bi]at hen
    cases hx:listed.getD m false
    ·exfalso
     refine hleast m hm ⟨hen.1.1,?_⟩
     obtain⟨om,hom,_⟩:=hop m (by omega)
     rw[I4]
     refine⟨by rw[htf hsz (by omega)];exact hx,om,hom,λe he hb=>?_⟩
     have hm2:e.on∈(ops.toList.map Tn).getD m []:=by
      rw[TY hom]
      exact DK (Bf.2 ⟨by simpa using he,hb⟩)
     rw[hen.2]at hm2
     exact hes _ hm2
    ·rfl
   obtain⟨hag,hst⟩:=step i hi (.inl hxi) henf o ho
   obtain⟨hf,he⟩:=hs i _ hlt h2
   have hX:=hxi
   simp only[Yv,h2]at hX
   obtain⟨d,hg',hd',hopX⟩:=exX hX
   ·have hg2:o.guard=none:=by
     have:(CG ops o).g=none:=hg'
     simpa[CG]using this
    have hd2:o.dst=some d:=hd'
    have hw:Region.wanted o (yielded ops a.tmps)=true:=by simp[Region.wanted,hg2]
    rw[AI hw]at hst
    have hval:∃u,∀w',(execOp a.eval o).run P w'=.ok (.value u) w':=by
     rcases hopX with⟨sl,ix,hop'⟩|⟨sl,hop'⟩
     ·have hop2:o.op=.extract (.tmp sl) ix:=hop'
      have hev:=ZS hag (eP hBx) hf he
      simp only[F0,hop',hd']at hev
      have hev:=hev.2
      unfold bl at hev
      split at hev
      ·rename_i cs hcs
       split at hev
       ·rename_i c hc
        obtain⟨St,B,hS,_⟩:=hr
        have hsl:=hS.slot sl
        rw[hcs]at hsl
        obtain⟨us,e1,h1⟩:=hsl
        obtain⟨u,b1,b2,h2',_⟩:=Jp.split cs ix h1 hc hev.1 (hS.nodup sl)
        refine⟨u,λw'=>?_⟩
        have e2:a.eval (.tmp sl)=.tuple us.toArray:=e1
        simp[execOp,hop2,e2,Instr.extract,h2']
       ·exact hev.elim
      ·exact hev.elim
     ·have hop2:o.op=.move (.tmp sl):=hop'
      exact⟨a.eval (.tmp sl),λw'=>by simp[execOp,hop2]⟩
    obtain⟨u,hu⟩:=hval
    have hfin:wpAny P .any ops Q fuel (listed.setIfInBounds i true) (a.put o.dst u) w:=by
     have:=hst
     unfold Oper.wp at this
     rw[hu w]at this
     exact this
    refine wpAny_first ho hsel (λc a w h=>absurd h (hP _ _ _)) fuel listed a w ?_ hi (.inl ⟨hw,hu⟩) hfin
    intro j oj hoj hji hun hno
    have hjn:j < ops.size:=(GO.1 hoj).1
    rw[htf hsz hjn]at hun
    have hxx:=(hX' i (by omega)).resolve_left (by rw[hxi];simp) j hjn
    have hlj:(ops.toList.map (CG ops))[j]? =some (CG ops oj):=by simp[hoj]
    rcases hxx with((h|h)|h)|h
    ·exact absurd (by simpa using h) hji
    ·exfalso
     have hm2:i∈(ops.toList.map Tn).getD j []:=by simpa using h
     rw[TY hoj]at hm2
     obtain⟨e,he,hei⟩:=Bh.1 hm2
     rw[Bf]at he
     exact hno e (by simpa using he.1) he.2 hei
    ·exfalso
     have:=hanc i hes j (by simpa using h)
     rw[hun]at this;cases this
    ·simp only[apF,h2,hlj,MF]at h
     have hdl:(CG ops o).dst=some d:=hd2
     rw[hdl]at h
     simp only[Ab,AC,Ct,ne_eq]at h
     obtain⟨⟨q1,q2⟩,q3⟩:=h
     have hlook:∀(k:Nat) (ok:Oper),ops[k]? =some ok->(ops.toList.map (CG ops))[k]? =some (CG ops ok)->∀t∈ok.looksAt ops,(lkL (ops.toList.map (CG ops)) k).contains t=true:=by
      intro k ok hok' hlk t ht
      unfold lkL
      rw[hlk]
      refine Av.2 (Aq.2 ?_)
      unfold Oper.looksAt at ht
      rcases Aq.1 ht with ht|ht
      ·left
       obtain⟨x,hx1,hx2⟩:=List.mem_filterMap.1 ht
       cases x<;>simp only[Ao,reduceCtorEq]at hx2
       subst hx2
       unfold Q6
       exact Co.2 ⟨_,hx1,by simp[Iz]⟩
      ·right
       cases hgk:ok.guard with
       |none=>rw[hgk]at ht;simp at ht
       |some p=>
        rw[hgk]at ht
        simp only[Option.mem_toList]at ht
        have:(CG ops ok).g=some (gD ops p.1,p.2):=by simp[CG,hgk]
        unfold gT
        rw[this]
        have e3:gD ops p.1=some t:=by simpa[gD]using ht
        rw[e3]
        simp
     simp only[Oper.apart,hd2]
     have r1:d∉oj.looksAt ops:=λhm=>by rw[hlook j oj hoj hlj d hm]at q1;cases q1
     have r2:oj.dst≠some d:=q2
     cases hdj:oj.dst with
     |none=>simp[r1]
     |some d'=>
      have hdl':(CG ops oj).dst=some d':=hdj
      rw[hdl']at q3
      have r3:d'∉o.looksAt ops:=λhm=>by simp only[hlook i o ho h2 d' hm]at q3;cases q3
      have r4:d'≠d:=λe=>r2 (by rw[hdj,e])
      simp[r1,r3,r4]
  ·have hnx:∀i,i∈Region.ready .any ops listed->Yv (ops.toList.map (CG ops)) i=false:=λi hi=>by
    cases hx:Yv (ops.toList.map (CG ops)) i
    ·rfl
    ·exact absurd ⟨i,hx,hi⟩ hex
   refine⟨λh0=>absurd (λj hj=>hall listed hsz h0 j (by omega)) hful,λi hi=>?_⟩
   have hpr:∀k,Yv (ops.toList.map (CG ops)) k=true->k∉Region.ready .any ops listed:=λk h1 h2=>hex ⟨k,h1,h2⟩
   obtain⟨hlt,_⟩:=hrdy i hi (.inr hpr)
   obtain⟨o,ho,_⟩:=hop i (by omega)
   have:=(step i hi (.inr hpr) (λm _ hen=>by simp only[enf,Ab]at hen;rw[hnx i hi]at hen;cases hen.1.2) o ho).2
   unfold wpOp
   rw[ho]
   simp only
   split
   ·rename_i hw;rw[AI hw]at this;exact .inl this
   ·rename_i hw;rw[AJ hw]at this;exact this
def okT(p:Nat)(es:List (List Nat))(ops:List LO):Bool:=decide (p<=es.length)&&(List.range es.length).all λj=>decide (j < p) || (!Yv ops j&&(List.range j).all λi=>((TS [] es).getD j []).contains i || (decide (i < p)&&(Yv ops i&&(es.getD i []).all λk=>((TS [] es).getD j []).contains k)))
theorem di(htb:H1 P tb)(hm:P.follows .mixedOrders=true)(p:Nat){fps:List (List Nat×List Nat)}{es:List (List Nat)}{ops:List LO}{Q:Exit->PS->Prop}(hD:(okD fps es ops&&(okF cns fps ops&&okT p es ops))=true)
  (h:Wo P tb cns (fps.take p) (ops.take p) σ (λσ'=>∀base St0 w0 a w,Rel P nt bx base St0 w0 σ' a w->∃σ2,Vr P tb cns (ops.drop p) σ2 (Q .normal)∧Rel P nt bx base St0 w0 σ2 a w)):LS P nt bx (.drw cns fps es ops) σ Q:=by
 intro c hc hok hL
 cases c<;>first|cases hc|skip
 rename_i id ops' d
 simp only[ID,Vq]at hc
 split at hc
 ·rename_i hd
  simp only[LC.drw.injEq,true_and]at hc
  subst hd
  obtain⟨rfl,rfl⟩:=hc
  intro base St0 w0 a w hr
  rw[Ab,Ab]at hD
  obtain⟨hD,hF,hT⟩:=hD
  simp only[okT,Ab,AE,As,BN,Ae,An,Cq,AC]at hT
  obtain⟨hp,hT⟩:=hT
  have hT':∀j,p<=j->j < ops'.size->Yv (ops'.toList.map (CG ops')) j=false∧∀i,i < j->((TS [] (ops'.toList.map Tn)).getD j []).contains i=true∨(i < p∧Yv (ops'.toList.map (CG ops')) i=true∧∀k∈(ops'.toList.map Tn).getD i [],((TS [] (ops'.toList.map Tn)).getD j []).contains k=true):=λj h1 h2=>(hT j h2).resolve_left (by omega)
  have hT2:∀j,p<=j->j < ops'.size->∀i,p<=i->i < j->((TS [] (ops'.toList.map Tn)).getD j []).contains i=true:=λj h1 h2 i h3 h4=>((hT' j h1 h2).2 i h4).resolve_right (λh=>by omega)
  have hL':∀j,j < ops'.size->∀k∈(ops'.toList.map Tn).getD j [],k < j:=by
   have hD':=hD
   simp only[okD,Ab,Ae,An,As,BN,AE]at hD'
   exactλj hj=>(hD'.1.2 j hj).1
  obtain⟨s1,s0,sk,sb,hs⟩:=el (bV p hF) h
  have hlen:((ops'.toList.map (CG ops')).take p).length=p:=by simp;omega
  rw[hlen]at sk sb
  have hlen2:((ops'.toList.map (CG ops')).drop p).length=ops'.size - p:=by simp
  have hsH:∀i o,i < p->(ops'.toList.map (CG ops'))[i]? =some o->fpS cns (fps.getD i ([],[])).1 (fps.getD i ([],[])).2 o (s1 i)∧F0 P tb cns o (s1 i) (λσ'=>σ'=s1 (i+1)):=λi o hi ho=>by
   have:=hs i o (by rw[List.getElem?_take_of_lt hi];exact ho)
   have e3:(fps.take p).getD i ([],[])=fps.getD i ([],[]):=by simp[Au,List.getElem?_take_of_lt hi]
   rw[e3]at this
   exact this
  refine Fs (Q:=λe a' w'=>e=.normal∧∃σ',Q .normal σ'∧Rel P nt bx base St0 w0 σ' a' w') ?_ (λe a' w' h=>by obtain⟨rfl,h⟩:=h;exact h)
  refine wp_region_any hm (mj htb hp hok hL hD hF hT' sb hsH (λfuel listed a w h1 h2 h3 h4=>by
   obtain⟨σ2,hev,hr2⟩:=sk _ _ _ _ _ h4
   obtain⟨s2,t0,tk,ht⟩:=em hev
   rw[hlen2]at tk
   refine lr htb (s:=λi=>s2 (i - p)) hok hL hL' hT2 (λi o hi ho=>?_) (λa' w' hr'=>⟨rfl,_,tk,hr'⟩) fuel p listed a w (Bl _) hp h1 h2 h3 (by simp only[Nat.sub_self];rw[t0];exact hr2)
   have:=ht (i - p) o (by rw[EG,show p+(i - p)=i by omega];exact ho)
   show F0 P tb cns o (s2 (i - p)) (λσ'=>σ'=s2 (i+1 - p))
   rw[show i+1 - p=i - p+1 by omega]
   exact this) (λc a w h=>by cases h.1) _ _ a _ (by simp) ?_ (λk hk=>?_) (λi k hik hk hen hx=>?_) (λj _=>?_) ?_)
  ·have:=List.countP_le_length (p:=λi=> !(Array.replicate ops'.size false).getD i false) (l:=List.range ops'.size)
   simpa using this
  ·exfalso
   simp[DR]at hk
   split at hk<;>simp at hk
  ·exfalso
   simp[DR]at hx
   split at hx<;>simp at hx
  ·simp[DR]
   split<;>rfl
  ·have:mix s1 (λi=>(fps.getD i ([],[])).2) (λi=>(Array.replicate ops'.size false).getD i false) p=s1 0:=by
    funext q
    refine XN (m:=0) (by omega) (λj _ hj hx=>?_)
    exfalso
    simp[DR]at hx
    split at hx<;>simp at hx
   rw[this,s0]
   exact gH hr
 ·cases hc
theorem jH(htb:H1 P tb)(hm:P.follows .mixedOrders=true){fps:List (List Nat×List Nat)}{es:List (List Nat)}{ops:List LO}{Q:Exit->PS->Prop}(hD:(okD fps es ops&&okF cns fps ops)=true)(h:Wo P tb cns fps ops σ (Q .normal)):LS P nt bx (.drw cns fps es ops) σ Q:=by
 rw[Ab]at hD
 have hl:fps.length=es.length:=by
  have:=hD.1
  simp only[okD,Ab,Bi]at this
  exact this.1.1
 by_cases he:ops.length<=es.length
 ·refine di htb hm es.length (by
   rw[Ab,Ab]
   refine⟨hD.1,hD.2,?_⟩
   simp only[okT,Ab,AE,Ae,An,Cq]
   exact⟨Bl _,λj hj=>.inl hj⟩) ?_
  rw[Eh (by omega),Eh he,Fj he]
  exact bk (λσ' hq base St0 w0 a w hr=>⟨σ',hq,hr⟩) h
 ·exfalso
  have:∀{fps:List (List Nat×List Nat)}{os:List LO},okF cns fps os=true->os.length<=fps.length:=by
   intro fps os
   induction os generalizing fps with
   |nil=>intro _;simp
   |cons o os ih=>
    intro h
    cases fps with
    |nil=>cases h
    |cons f fps=>simp only[okF,Ab]at h;have:=ih h.2;simp only[Ax];omega
  have:=this hD.2
  omega
end
section
variable {P:Program}{nt:Nat}{bx:List Nat}{σ:PS}{Q:Exit->PS->Prop}{tb:Tb}
end
end Go.Proofs.YtplejokflpkcbaaGreatDoor
namespace Go.Proofs.YtplejokflpkcbaaGreatDoor
section
variable {P:Program}
def Zc(P:Program)(c:V)(u:Value):Prop:=c.Di=true∧∀w St,Ow P w St c u []
theorem Qc(k:IntKind):Zc P (.int k 0) (.int k 0):=⟨rfl,λ_ _=>⟨rfl,rfl⟩⟩
theorem fH:Zc P (.bool false) (.bool false):=⟨rfl,λ_ _=>⟨rfl,rfl⟩⟩
theorem aT:Zc P (.str []) (.string ⟨#[]⟩):=⟨rfl,λ_ _=>⟨rfl,rfl,CK _⟩⟩
theorem Lb(e:TypeId):Zc P (.own e 0 []) (.slice none 0 0):=⟨rfl,λ_ _=>dl e⟩
theorem xN:Zc P (.tok .nilFunc) .nilFunc:=⟨rfl,λ_ _=>⟨rfl,rfl,rfl⟩⟩
theorem Jl:ZL P [] []:=λ_ _=>⟨rfl,rfl⟩
theorem DF{c:V}{cs:List V}{u:Value}{us:List Value}(h:Zc P c u)(hs:ZL P cs us):ZL P (c::cs) (u::us):=λw St=>⟨u,us,[],[],rfl,rfl,h.1,h.2 w St,hs w St⟩
theorem Ri{t:TypeId}(k:IntKind)(hi:(P.info? t).map (λi=>(i.size,i.zero))=some (1,some (.int k 0)))(hu:P.underlying t=some (.int k)):NH P t (.sc (.int k 0)):=by
 obtain⟨i,h1,h2⟩:=BP.1 hi
 simp only[B3]at h2
 exact⟨i,_,_,h1,h2.1,h2.2,DF (Qc k) Jl,hu,rfl⟩
theorem gZ{t:TypeId}(hi:(P.info? t).map (λi=>(i.size,i.zero))=some (1,some (.bool false)))(hu:P.underlying t=some .bool):NH P t (.sc (.bool false)):=by
 obtain⟨i,h1,h2⟩:=BP.1 hi
 simp only[B3]at h2
 exact⟨i,_,_,h1,h2.1,h2.2,DF fH Jl,hu,rfl⟩
def oG:Option TypeDesc->Bool
 |some (.func _ _ _)=>true
 |_=>false
theorem pq{t:TypeId}(hi:(match(P.info? t).map (λi=>(i.size,i.zero))with|some (1,some .nilFunc)=>true|_=>false)=true)(hu:oG (P.underlying t)=true):NH P t (.sc (.tok .nilFunc)):=by
 split at hi
 ·rename_i hi'
  obtain⟨i,h1,h2⟩:=BP.1 hi'
  simp only[B3]at h2
  unfold oG at hu
  split at hu
  ·rename_i ps rs v hd
   exact⟨i,_,_,h1,h2.1,h2.2,DF xN Jl,hd,ps,rs,v,rfl⟩
  ·cases hu
 ·cases hi
theorem lO{t:TypeId}(hi:(P.info? t).map (λi=>(i.size,i.zero))=some (1,some (.string ⟨#[]⟩)))(hu:P.underlying t=some .string):NH P t (.sc (.str [])):=by
 obtain⟨i,h1,h2⟩:=BP.1 hi
 simp only[B3]at h2
 exact⟨i,_,_,h1,h2.1,h2.2,DF aT Jl,hu,rfl⟩
theorem R5{t:TypeId}{n:Nat}{z:List V}{us:List Value}{fs:List (Nat×Nat)}{gs:Array Field}(hi:(P.info? t).map (λi=>(i.size,i.zero))=some (n,some (.agg us.toArray)))(hz:ZL P z us)(hu:P.underlying t=some (.struct gs))
  (hf:gs.toList.map (λf=>(f.offset,Rk P f.type))=fs) (hp:fs.all (λf=>decide (0 < f.2))=true) (h2:(!(TyD.st n z fs).two || (!P.stoodInHeld t&& !P.eqGuardType P.depth t&&gs.toList.all λf=>f.name != "_" &&(match P.underlying f.type with|some (.int _)=>true|_=>false)))=true):NH P t (.st n z fs):=by
 obtain⟨i,h1,h3⟩:=BP.1 hi
 simp only[B3]at h3
 refine⟨i,_,gs,h1,h3.1,h3.2,by simpa using hz,hu,hf,λf hf=>by have:=Ae.1 hp f hf;simpa using this,λh=>?_⟩
 rw[h,Al,Ck,Ab,Ab,AC,AC]at h2
 refine⟨h2.1.1,h2.1.2,λf hf=>?_⟩
 have:=Ae.1 h2.2 f hf
 simp only[Ab,Ct,ne_eq]at this
 refine⟨this.1,?_⟩
 have h4:=this.2
 split at h4
 ·exact⟨_,by assumption⟩
 ·cases h4
theorem R4{t e:TypeId}{es eb:Nat}{ez:List V}{zv:Value}(hi:(P.info? t).map (λi=>(i.size,i.zero))=some (1,some (.slice none 0 0)))(hu:P.underlying t=some (.slice e))
  (hj:(P.info? e).map (λi=>(i.size,i.zero,i.bytes))=some (es,some zv,eb)) (hz:ZL P ez zv.cells.toList) (hl:ez.length=es) (h0:0 < es) (h1:0 < eb) (h2:eb<=128):NH P t (.sl e es eb ez):=by
 obtain⟨i,h3,h4⟩:=BP.1 hi
 obtain⟨j,h5,h6⟩:=BP.1 hj
 simp only[B3]at h4 h6
 exact⟨i,j,zv,h3,h4.1,h4.2,hu,h5,h6.2.1,h6.1,h6.2.2,hz,hl,h0,h1,h2⟩
end
theorem nR(K:PS->Prop)(Q:Exit->PS->Prop)(σ:PS):SP K Q .normal σ=K σ:=rfl
theorem nQ(K:PS->Prop)(Q:Exit->PS->Prop)(σ:PS)(i:Nat):SP K Q (.exit i) σ=Q (.exit i) σ:=rfl
theorem nS(K:PS->Prop)(Q:Exit->PS->Prop)(σ:PS):SP K Q .ret σ=Q .ret σ:=rfl
theorem iu(i:Nat)(Q:Exit->PS->Prop)(σ:PS):TW i Q .normal σ=Q .normal σ:=rfl
theorem ir(i j:Nat)(Q:Exit->PS->Prop)(σ:PS):TW i Q (.exit j) σ=if j=i then Q .normal σ else Q (.exit j) σ:=rfl
theorem iv(i:Nat)(Q:Exit->PS->Prop)(σ:PS):TW i Q .ret σ=Q .ret σ:=rfl
theorem tn{α:Type}(f:Nat->α)(d:Nat)(x:α)(s:Nat):upd f d x s=if s=d then x else f s:=rfl
theorem mC(c:V)(cs:List V):Ej (c::cs) 0=c:=rfl
theorem mH(c:V)(cs:List V)(n:Nat):Ej (c::cs) (n+1)=Ej cs n:=rfl
theorem mG(n:Nat):Ej [] n=.tup []:=rfl
theorem mD(c d:V)(cs:List V):Ej (c::d::cs) 1=d:=rfl
theorem mE(c d e:V)(cs:List V):Ej (c::d::e::cs) 2=e:=rfl
theorem mF(c d e f:V)(cs:List V):Ej (c::d::e::f::cs) 3=f:=rfl
theorem uV(c:Bool):WH true (.bool c)=c:=by cases c<;>rfl
theorem uU(c:Bool):WH false (.bool c)= !c:=by cases c<;>rfl
theorem uW(b:Bool)(cs:List V):WH b (.tup cs)=false:=rfl
def gIf(c:Bool)(p q:Prop)(_:Tag (p∧q)):Prop:=(c=true->p)∧(c=false->q)
theorem uz(p q:Prop)(t:Tag (p∧q)):gIf true p q t=p:=propext ⟨λh=>h.1 rfl,λh=>⟨λ_=>h,λe=>by cases e⟩⟩
theorem uy(p q:Prop)(t:Tag (p∧q)):gIf false p q t=q:=propext ⟨λh=>h.2 rfl,λh=>⟨(λe=>by cases e),λ_=>h⟩⟩
theorem kv(tb:Tb)(o:LO)(σ:PS)(K:PS->Prop):Js tb o σ K=(match o.dst with
 |none=>False
 |some d=>match o.g with
  |none=>pc tb σ o.op∧K (upd σ d (pv tb σ o.op))
  |some (none,_)=>False
  |some (some q,b)=>known (σ q)=true∧gIf (WH b (σ q)) (pc tb σ o.op∧K (upd σ d (pv tb σ o.op))) (K (upd σ d (.tup []))) ⟨0⟩):=rfl
theorem iz(P:Program)(o:LO)(f:FuncId)(args:List Operand)(σ:PS)(K:PS->Prop):Pt P o f args σ K=(match o.g with
 |none=>args.all (λx=>(Cl σ x).isArg)=true∧∃r,aV P σ f args r∧Zp (K (Q8 σ o.dst r)) ⟨0⟩
 |some (q,b)=>match q,o.dst with
  |some q,some d=>known (σ q)=true∧gIf (WH b (σ q)) (args.all (λx=>(Cl σ x).isArg)=true∧∃r,aV P σ f args r∧Zp (K (upd σ d r)) ⟨0⟩) (K (upd σ d (.tup []))) ⟨0⟩
  |_,_=>False):=rfl
theorem tw(ez:List V)(es:Nat):Qq ez es 0=[]:=by simp[Qq]
theorem lN{ez:List V}{es n:Nat}(h:ez.length=es):Qq ez es (n+1)=ez++Qq ez es n:=by
 unfold Qq
 rw[DG,Gm,KT,List.range_add,BU,EI]
 congr 1
 ·apply EE
  ·simp[h]
  ·intro i h1 h2
   simp only[As,BZ]at h1
   simp[JF h1,h2]
 ·apply BI
  intro i _
  simp
theorem mN{n:Nat}(h:n < 1000):(n<=lim)=True:=eq_true (by unfold lim;omega)
theorem p9(l:List V):(∃cs,some l=some cs)=True:=eq_true ⟨l,rfl⟩
theorem sr(k:IntKind)(n:Int):Do (.int k n)=true:=rfl
theorem mU(b:Bool):Do (.bool b)=true:=rfl
theorem sy(s:List UInt8):Do (.str s)=true:=rfl
theorem sv(e:TypeId)(n:Nat)(cs:List V):Do (.own e n cs)=true:=rfl
theorem sq(n:Nat)(cs:List V):Do (.dat n cs)=true:=rfl
theorem sh(n:Nat)(cs:List V):Do (.arg n cs)=true:=rfl
theorem sx(u:Value)(n:Nat)(cs:List V):Do (.pin u n cs)=true:=rfl
theorem wP(us:List Value)(cs:List V):Do (.gh us cs)=true:=rfl
theorem sf(cs:List V):Do (.agg cs)=true:=rfl
theorem sB(cs:List V):Do (.tup cs)=true:=rfl
theorem jX:Do (.undef)=true:=rfl
theorem mW(s:Nat):Do (.same s)=true:=rfl
theorem mV(s o:Nat):Do (.cref s o)=true:=rfl
theorem se(cs:List V)(o:Nat):Do (.adr cs o)=true:=rfl
theorem sn(cs:List V):Do (.box cs)=false:=rfl
theorem sC(e:TypeId)(n:Nat)(cs:List V):Do (.uni e n cs)=false:=rfl
attribute [go_sem] sr mU sy sv sq sh sx wP sf sB jX mW mV se sn sC
attribute [go_sem] mN p9 uz uy tw lN
attribute [go_sem] Vr Wo adP adU Iz Yt C2 RM DL iaS XF Yy TF mvV mvC pv pc Nr PW X4 X2 iR bm c7 c6 Rr Rq Cl cV cK ZE unV unC KC getCells U0 Sy faV faC Jm OR iaV iaC gL gK lenV fX R7 RL Wu YG Xo mxV mxC
 dg RR dg2 V.isVal V.isArg V.Di known uV uU uW CR Q8 tn er NI GM nR nQ nS mC mD mE mF mH mG iu ir iv TyD.size NR PV MZ Ys OW Vx Ue gI resV kB kill
attribute [go_sem ↓] F0 kv iz Sb PA O2 Xd UZ bl aJ TR boxS R8 a8 XK YT W7
end Go.Proofs.YtplejokflpkcbaaGreatDoor
namespace Go.Proofs.YtplejokflpkcbaaGreatDoor
def fz:Nat:=1099511627780
def Ap{S O:Type}(body:(S->Option O)->S->Option O):Nat->S->Option O
 |0,_=>none
 |n+1,s=>body (Ap body n) s
def chk{α:Type}(p:Prop)[Decidable p](x:Option α):Option α:=if p then x else none
def AZ{α:Type}(l:List α)(i:Int):Option α:=if 0<=i then l[i.toNat]? else none
def Hk{α:Type}(l:List α)(lo hi:Int):List α:=(l.take hi.toNat).drop lo.toNat
def Da{α:Type}(l:List α)(i:Int)(x:α):List α:=l.set i.toNat x
def Aa{α β:Type}(x:Option α)(f:α->Option β):Option β:=match x with
 |some a=>f a
 |none=>none
theorem Sd{α:Type}{p:Prop}[Decidable p]{x:Option α}{r:α}(h:chk p x=some r):p∧x=some r:=by
 unfold chk at h
 split at h
 ·rename_i hp;exact⟨hp,h⟩
 ·cases h
theorem AQ{α β:Type}{x:Option α}{f:α->Option β}{r:β}(h:Aa x f=some r):∃a,x=some a∧f a=some r:=by
 cases x with
 |none=>cases h
 |some a=>exact⟨a,rfl,h⟩
theorem J1{α:Type}{b:Bool}{x y:Option α}{r:α}(h:cond b x y=some r):(b=true∧x=some r)∨(b=false∧y=some r):=by
 cases b
 ·exact .inr ⟨rfl,h⟩
 ·exact .inl ⟨rfl,h⟩
theorem A7{α β:Type}{x:Option α}{f:α->Option β}{r:β}{P:Prop}(h:Aa x f=some r)(k:∀a,x=some a->f a=some r->P):P:=by
 obtain⟨a,h1,h2⟩:=AQ h
 exact k a h1 h2
theorem D9{α β:Type}{x:Option α}{f:α->Option β}{r:β}{P:Prop}(h:Aa x f=some r)(k:∀a,x=some a->(∀{b:α},b=a->f b=some r)->P):P:=by
 obtain⟨a,h1,h2⟩:=AQ h
 exact k a h1 (λe=>by rw[e];exact h2)
theorem D0{α:Type}{p:Prop}[Decidable p]{x:Option α}{r:α}{P:Prop}(h:chk p x=some r)(k:p->x=some r->P):P:=k (Sd h).1 (Sd h).2
theorem Eg{α:Type}{b:Bool}{x y:Option α}{r:α}{P:Prop}(h:cond b x y=some r)(k1:b=true->x=some r->P)(k2:b=false->y=some r->P):P:=by
 rcases J1 h with h|h
 ·exact k1 h.1 h.2
 ·exact k2 h.1 h.2
theorem sj{α:Type}{a b:α}(h:some a=some b):a=b:=DZ h
theorem E{α:Sort _}{a:α}:a=a:=rfl
theorem rZ{α β:Type}{a:α}{b:β}{p:Prop}:(a=a∨p)∧b=b:=⟨.inl rfl,rfl⟩
theorem IE{α β:Type}{P:α×β->Prop}(h:∀a b,P (a,b)):∀x,P x:=λ⟨a,b⟩=>h a b
theorem pr3{α β γ:Type}{P:α×β×γ->Prop}(h:∀a b c,P (a,b,c)):∀x,P x:=λ⟨a,b,c⟩=>h a b c
theorem pr4{α β γ δ:Type}{P:α×β×γ×δ->Prop}(h:∀a b c d,P (a,b,c,d)):∀x,P x:=λ⟨a,b,c,d⟩=>h a b c d
theorem pr5{α β γ δ ε:Type}{P:α×β×γ×δ×ε->Prop}(h:∀a b c d e,P (a,b,c,d,e)):∀x,P x:=λ⟨a,b,c,d,e⟩=>h a b c d e
theorem pr6{α β γ δ ε ζ:Type}{P:α×β×γ×δ×ε×ζ->Prop}(h:∀a b c d e f,P (a,b,c,d,e,f)):∀x,P x:=λ⟨a,b,c,d,e,f⟩=>h a b c d e f
theorem pr7{α β γ δ ε ζ η:Type}{P:α×β×γ×δ×ε×ζ×η->Prop}(h:∀a b c d e f g,P (a,b,c,d,e,f,g)):∀x,P x:=λ⟨a,b,c,d,e,f,g⟩=>h a b c d e f g
theorem CX{α:Type}{l:List α}{i:Int}{x:α}(h:AZ l i=some x):0<=i∧i < l.length∧l[i.toNat]? =some x:=by
 unfold AZ at h
 split at h
 ·rename_i h0
  have:i.toNat < l.length:=by
   rcases BV i.toNat l.length with h1|h1
   ·exact h1
   ·rw[A8 h1]at h;cases h
  exact⟨h0,by omega,h⟩
 ·cases h
abbrev oL{α:Type}(e:TypeId)(f:α->List V)(x:List α):V:=.own e x.length (x.flatMap f)
abbrev dL{α:Type}(f:α->List V)(x:List α):V:=.dat x.length (x.flatMap f)
abbrev aL{α:Type}(f:α->List V)(x:List α):V:=.arg x.length (x.flatMap f)
abbrev wL{α:Type}(e:TypeId)(f:α->List V)(x:List α):V:=.uni e x.length (x.flatMap f)
abbrev nI(x:Int):V:=.int .i64 x
theorem nb{a b:Nat}(h:Nat.ble a b=true):a<=b:=Nat.le_of_ble_eq_true h
theorem Bg{α:Type}{f:α->List V}{n:Nat}(hf:∀x,(f x).length=n):∀l:List α,(l.flatMap f).length=l.length * n
 |[]=>by simp
 |x::l=>by rw[AG,Ar,hf,Bg hf l,Ax,DG];omega
theorem J2{α:Type}{f:α->List V}{n:Nat}(hf:∀x,(f x).length=n):∀(l:List α) (k:Nat),(l.flatMap f).drop (k * n)=(l.drop k).flatMap f
 |[],k=>by simp
 |x::l,0=>by simp
 |x::l,k+1=>by
  rw[AG,DG,Gm,KT,List.drop_append,Fj (by rw[hf];omega),hf,CY,J2 hf l k]
  simp
theorem VN{α:Type}{f:α->List V}{n:Nat}(hf:∀x,(f x).length=n):∀(l:List α) (k:Nat),(l.flatMap f).take (k * n)=(l.take k).flatMap f
 |[],k=>by simp
 |x::l,0=>by simp
 |x::l,k+1=>by
  rw[AG,DG,Gm,KT,ME,Eh (by rw[hf];omega),hf,CY,VN hf l k,Eo,AG]
theorem iU{α:Type}{f:α->List V}{n:Nat}(hf:∀x,(f x).length=n){l:List α}{k:Nat}{x:α}(h:l[k]? =some x)(off:Nat):(l.flatMap f).drop (k * n+off)=(f x).drop off++(l.drop (k+1)).flatMap f∨n < off:=by
 rcases BV n off with h1|h1
 ·exact .inr h1
 ·left
  have hk:k < l.length:=by
   rcases BV k l.length with h1|h1
   ·exact h1
   ·rw[A8 h1]at h;cases h
  have hx:l[k]=x:=by rw[Af hk]at h;injection h
  rw[<-Hh,J2 hf,Cr hk,AG,hx,Dl (by rw[hf];exact h1)]
theorem fT{α:Type}{f:α->List V}{n:Nat}(hf:∀x,(f x).length=n){l:List α}{k:Nat}{x:α}(h:l[k]? =some x){d:TyD}{off:Nat}(ho:off+d.size<=n):getCells d (l.flatMap f) (k * n+off)=getCells d (f x) off∧k * n+off+d.size<=(l.flatMap f).length:=by
 have hk:k < l.length:=by
  rcases BV k l.length with h1|h1
  ·exact h1
  ·rw[A8 h1]at h;cases h
 have hd:=(iU hf h off).resolve_right (by omega)
 have hlen:((f x).drop off).length=n - off:=by rw[BX,hf]
 constructor
 ·have key:∀m,m<=n - off->((l.flatMap f).drop (k * n+off)).take m=((f x).drop off).take m:=λm hm=>by rw[hd,F2 (by omega)]
  have key1:d.size=1->(l.flatMap f)[k * n+off]? =(f x)[off]?:=λh1=>by
   have e1:(l.flatMap f)[k * n+off]? =((l.flatMap f).drop (k * n+off))[0]?:=by rw[EG,Ec]
   have e2:(f x)[off]? =((f x).drop off)[0]?:=by rw[EG,Ec]
   rw[e1,e2,hd,BT (by omega)]
  cases d with
  |st m z fs=>simp only[getCells];rw[key m (by simp only[TyD.size]at ho;omega)]
  |sc z=>simp only[getCells];rw[key1 rfl]
  |sl e es eb ez=>simp only[getCells];rw[key1 rfl]
 ·rw[Bg hf]
  have:k * n+n<=l.length * n:=by rw[<-FT];exact Cy _ hk
  omega
theorem eh:∀(a b:List V),NI (a++b)=NI a++NI b
 |[],b=>rfl
 |c::a,b=>by rw[CS,NI,NI,eh a b,CS]
theorem Sh{α:Type}{f g:α->List V}(h:∀x,NI (f x)=g x):∀l:List α,NI (l.flatMap f)=l.flatMap g
 |[]=>rfl
 |x::l=>by rw[AG,AG,eh,h,Sh h l]
theorem Wj{α:Type}{f:α->List V}{n:Nat}{z:α}{ez:List V}(hz:f z=ez)(hn:ez.length=n):∀k:Nat,Qq ez n k=(List.replicate k z).flatMap f
 |0=>by simp[Qq]
 |k+1=>by rw[lN hn,Wj hz hn k,List.replicate_succ,AG,hz]
theorem Zd{α:Type}{f:α->List V}{n:Nat}(hf:∀x,(f x).length=n){l:List α}{k:Nat}(hk:k < l.length)(x:α):MZ (l.flatMap f) (k * n) (f x)=(l.set k x).flatMap f:=by
 unfold MZ
 rw[hf,show k * n+n=(k+1) * n by rw[DG,Gm],VN hf,J2 hf,Fk,AI hk,Dd,AG,Bc]
def Ce:List (Nat×V)->PS
 |[]=>λ_=>.undef
 |(s,c)::L=>upd (Ce L) s c
def YW(σ:PS):List (Nat×V)->Prop
 |[]=>True
 |(s,c)::L=>Kp (σ s) c∧YW σ L
def okR(L:List (Nat×V)):Bool:=L.all λp=>match DL p.2 with
 |some b=>(L.map (·.1)).contains b
 |none=>true
def Fg(σ σ':PS):Prop:=∀(P:Program) (nt:Nat) (bx:List Nat) (base:Bs) (St0:Nat->Nat->Prop) (w0:World) (a:Act) (w:World),Rel P nt bx base St0 w0 σ a w->Rel P nt bx base St0 w0 σ' a w
theorem j1{σ:PS}:∀{L:List (Nat×V)},YW σ L->∀s,(s∈L.map (·.1)->Kp (σ s) (Ce L s))∧(s∉L.map (·.1)->Ce L s=.undef)
 |[],_,s=>⟨λh=>by simp at h,λ_=>rfl⟩
 |(q,c)::L,⟨h1,h2⟩,s=>by
  obtain⟨i1,i2⟩:=j1 h2 s
  by_cases e:s=q
  ·subst e
   exact⟨λ_=>by simp only[Ce,upd_same];exact h1,λh=>absurd (by simp) h⟩
  ·simp only[Ce,upd_ne _ _ e,AO,AV,e,false_or]
   exact⟨i1,i2⟩
theorem ab{L:List (Nat×V)}{s:Nat}{b:Nat}(h:DL (Ce L s)=some b):∃p∈L,DL p.2=some b:=by
 induction L with
 |nil=>cases h
 |cons p L ih=>
  obtain⟨q,c⟩:=p
  by_cases e:s=q
  ·subst e;rw[show Ce ((s,c)::L) s=c from by simp[Ce,upd_same]]at h;exact⟨(s,c),by simp,h⟩
  ·rw[show Ce ((q,c)::L) s=Ce L s from by simp[Ce,upd_ne _ _ e]]at h
   obtain⟨p,hp,h⟩:=ih h
   exact⟨p,by simp[hp],h⟩
theorem eX:∀{L:List (Nat×V)}{s:Nat},Ce L s≠.undef->s∈L.map (·.1)
 |[],_,h=>absurd rfl h
 |(q,c)::L,s,h=>by
  by_cases e:s=q
  ·subst e;simp
  ·have:Ce L s≠.undef:=by rwa [show Ce ((q,c)::L) s=Ce L s from upd_ne _ _ e]at h
   exact AX _ (eX this)
theorem ZT{σ:PS}{L:List (Nat×V)}(h1:YW σ L)(h2:okR L=true):Fg σ (Ce L):=by
 intro P nt bx base St0 w0 a w hr
 have hcl:=j1 h1
 obtain⟨St,B,h,hb,hst,hz⟩:=hr
 refine kA (λs=>?_) (λs b e he=>?_) ⟨St,B,h,hb,hst,hz⟩
 ·by_cases hs:s∈L.map (·.1)
  ·exact .inr ((hcl s).1 hs)
  ·exact .inl ((hcl s).2 hs)
 ·obtain⟨p,hp,hpe⟩:=ab e
  have hb:b∈L.map (·.1):=by
   have:=Ae.1 h2 p hp
   rw[hpe]at this
   simpa using this
  have hs:s∈L.map (·.1):=eX (λe'=>by rw[e']at e;cases e)
  obtain⟨cs,hcs⟩:=h.crefs s b (((hcl s).1 hs).rf b e)
  have hk:=((hcl b).1 hb).bx
  rw[he,hcs]at hk
  cases hk
section
variable {P:Program}{nt:Nat}{bx:List Nat}{σ:PS}{Q:Exit->PS->Prop}{tb:Tb}{cns:List Nat}
theorem C3{x y:LC}(h:∀{K:PS->Prop},(∀σ',LS P nt bx y σ' Q->K σ')->LS P nt bx x σ (SP K Q)):LS P nt bx (.seq x y) σ Q:=Aj λ_=>h
theorem Ci{y:LC}{Q':Exit->PS->Prop}(hK:∀σ',LS P nt bx y σ' Q->Q' .normal σ')(h:LS P nt bx y σ Q):LS P nt bx .skip σ Q':=Cf (hK _ h)
theorem oK{l:LC}{σ':PS}(hf:Fg σ σ')(h:LS P nt bx l σ' Q):LS P nt bx l σ Q:=
 λc hc hok hL base St0 w0 a w hr=>h c hc hok hL base St0 w0 a w (hf _ _ _ _ _ _ _ _ hr)
theorem Nl{l:LC}(L:List (Nat×V))(h1:YW σ L)(h2:okR L=true)(h:LS P nt bx l (Ce L) Q):LS P nt bx l σ Q:=oK (ZT h1 h2) h
theorem jK{ops:List LO}{y:LC}(htb:H1 P tb)(h:Vr P tb cns ops σ (λσ'=>LS P nt bx y σ' Q)):LS P nt bx (.seq (.rgn cns ops) y) σ Q:=Z8 (jJ htb h)
theorem oM{fps:List (List Nat×List Nat)}{es:List (List Nat)}{ops:List LO}{y:LC}(htb:H1 P tb)(hm:P.follows .mixedOrders=true)(hD:(okD fps es ops&&okF cns fps ops)=true)(h:Wo P tb cns fps ops σ (λσ'=>LS P nt bx y σ' Q)):LS P nt bx (.seq (.drw cns fps es ops) y) σ Q:=Z8 (jH htb hm hD h)
theorem oJ{c:Operand}{x y:LC}{b:Bool}(hb:Cl σ c=.bool b)(e:b=true)(h:LS P nt bx x σ Q):LS P nt bx (.cond c x y) σ Q:=eO hb (λ_=>h) (λe'=>by rw[e]at e';cases e')
theorem oH{c:Operand}{x y:LC}{b:Bool}(hb:Cl σ c=.bool b)(e:b=false)(h:LS P nt bx y σ Q):LS P nt bx (.cond c x y) σ Q:=eO hb (λe'=>by rw[e]at e';cases e') (λ_=>h)
theorem bi{c:Code}(I:Nat->PS->Prop)(m0:Nat)(h0:I m0 σ)(round:∀m σ (N:PS->Prop),I m σ->(∀σ' m' σ'',m' < m->I m' σ''->Fg σ' σ''->N σ')->KD P nt bx c σ (SP N Q)):KD P nt bx (.loop c) σ Q:=by
 intro base St0 w0 a w hr b k cs
 have key:∀n σ a w,I n σ->Rel P nt bx base St0 w0 σ a w->
   ∃e a' w',(∃σ',Q e σ'∧Rel P nt bx base St0 w0 σ' a' w')∧Arrives P (lone (b.at a (.code c::.inLoop c::k)) cs w) b k cs e a' w':=by
  intro n
  induction n using Nat.strongRecOn with
  |_ n ih=>
   intro σ a w hI hr
   obtain⟨e,a₁,w₁,⟨σ₁,hq,hr₁⟩,harr⟩:=round n σ (λσ'=>∃m' σ'',m' < n∧I m' σ''∧Fg σ' σ'') hI (λσ' m' σ'' h1 h2 h3=>⟨m',σ'',h1,h2,h3⟩) base St0 w0 a w hr b (.inLoop c::k) cs
   cases e with
   |normal=>
    obtain⟨m',σ'',hlt,hI₁,hfg⟩:=hq
    obtain⟨e₂,a₂,w₂,hq₂,harr₂⟩:=ih m' hlt σ'' a₁ w₁ hI₁ (hfg _ _ _ _ _ _ _ _ hr₁)
    exact⟨e₂,a₂,w₂,hq₂,.of_steps (Steps.trans harr (.one step_inLoop)) harr₂⟩
   |exit id=>exact⟨_,a₁,w₁,⟨σ₁,hq,hr₁⟩,.pass (x:=.inLoop c) rfl (λ_ _=>.inl (by simp)) harr⟩
   |goto l=>exact⟨_,a₁,w₁,⟨σ₁,hq,hr₁⟩,.pass (x:=.inLoop c) rfl (λ_ _=>.inl (by simp)) harr⟩
   |ret=>exact⟨_,a₁,w₁,⟨σ₁,hq,hr₁⟩,.pass (x:=.inLoop c) rfl (λ_ _=>.inl (by simp)) harr⟩
   |panic ch=>exact⟨_,a₁,w₁,⟨σ₁,hq,hr₁⟩,.pass (x:=.inLoop c) rfl (λ_ _=>.inl (by simp)) harr⟩
   |outgrown=>exact⟨_,a₁,w₁,⟨σ₁,hq,hr₁⟩,.pass (x:=.inLoop c) rfl (λ_ _=>.inl (by simp)) harr⟩
 obtain⟨e,a',w',hq,harr⟩:=key m0 σ a w h0 hr
 exact⟨e,a',w',hq,.of_steps (.one step_loop) harr⟩
theorem jI{x:LC}{D:List Nat}(I:Nat->PS->Prop)(m0:Nat)(h0:I m0 σ)(round:∀m σ (N:PS->Prop),I m σ->(∀σ' m' σ'',m' < m->I m' σ''->Fg σ' σ''->N σ')->LS P nt bx x σ (SP N Q)):LS P nt bx (.loop D x) σ Q:=by
 intro c hc hok hL
 cases c<;>first|(cases hc;done)|skip
 ·simp only[ID,Vq]at hc;split at hc<;>cases hc
 ·simp only[ID,Vq,LC.loop.injEq,true_and]at hc
  exact bi I m0 h0 (λm σ N hI hN=>round m σ N hI hN _ hc hok hL)
theorem A4{x:LC}{D:List Nat}{id:Nat}{S O:Type}(L:S->List (Nat×V))(body:(S->Option O)->S->Option O)(m0:Nat)(s0:S)(out:O)(h:Ap body m0 s0=some out)(h1:YW σ (L s0))(h2:∀s,okR (L s)=true)
  (round:∀m s (N:PS->Prop),body (Ap body m) s=some out->(∀σ' s',Ap body m s'=some out->YW σ' (L s')->N σ')->LS P nt bx x (Ce (L s)) (SP N (TW id Q))):LS P nt bx (.blk id (.loop D x)) σ Q:=by
 refine AY (oK (ZT h1 (h2 s0)) (jI (λm σ=>∃s,σ=Ce (L s)∧Ap body m s=some out) m0 ⟨s0,rfl,h⟩ ?_))
 rintro m σ N ⟨s,rfl,hs⟩ hN
 cases m with
 |zero=>cases hs
 |succ m=>exact round m s N hs (λσ' s' h3 h4=>hN σ' m _ (Hz m) ⟨s',rfl,h3⟩ (ZT h4 (h2 s')))
end
end Go.Proofs.YtplejokflpkcbaaGreatDoor
namespace Go.Proofs.YtplejokflpkcbaaGreatDoor
section
variable {P:Program}{tb:Tb}{cns:List Nat}{σ:PS}{K:PS->Prop}{d s t:Nat}{c c1 c2 c3:V}{x y z:Operand}
theorem NN(h:K σ):Vr P tb cns [] σ K:=h
theorem evd{o:LO}{os:List LO}{R W:List Nat}{fps:List (List Nat×List Nat)}(h1:Vt R W o.op σ=true)(h2:adB cns R o σ=true)(h:F0 P tb cns o σ (λσ'=>Wo P tb cns fps os σ' K)):Wo P tb cns ((R,W)::fps) (o::os) σ K:=⟨h1,h2,h⟩
theorem Dh{fps:List (List Nat×List Nat)}(h:K σ)(hb:bxS cns σ=true:=by rfl):Wo P tb cns fps [] σ K:=by cases fps<;>exact⟨hb,h⟩
theorem lW(h:σ s=c)(hv:c.isVal=true){o:LO}(k:K (upd (upd σ s (dg c)) d c)):O2 tb o (.tmp s) d σ K:=by
 subst h
 unfold O2
 simp only
 cases hs:σ s<;>rw[hs]at hv k<;>first|(refine⟨hv,?_⟩;simp only[CR,hs];exact k)|cases hv
theorem mo{e:TypeId}{n:Nat}{cs:List V}(hc:cns.contains d=true)(h:σ s=.uni e n cs)(k:K (upd (upd (kill [s] σ) s (.dat n cs)) d (.own e n cs))):F0 P tb cns ⟨some d,.move (.tmp s),t,none⟩ σ K:=by
 simp only[F0,hc,Fh,O2,h];exact⟨trivial,k⟩
theorem pS{e:TypeId}{n:Nat}{cs:List V}(hc:cns.contains d=true)(h:σ s=.uni e n cs)(hn:Do (kill [s] σ d)=true)(k:K (upd (kill [s] σ) d (.uni e n cs))):F0 P tb cns ⟨some d,.assign (.tmp s),t,none⟩ σ K:=by
 simp only[F0,hc,Fh,Xd,h];exact⟨trivial,hn,k⟩
theorem pT{op:BinOp}{ta tc:TypeId}(hx:Cl σ x=c1)(hy:Cl σ y=c2)(hc:ZE (tb ta) op c1 c2)(k:K (upd σ d (cK op c1 c2))):F0 P tb cns ⟨some d,.binOp op ta x y tc,t,none⟩ σ K:=by
 subst hx hy;exact⟨hc,k⟩
def NJ(n:Int):List V:=[.int .u8 n]
def bytesOf(l:List Int):List UInt8:=l.map λn=>UInt8.ofNat n.toNat
theorem pU{a b e:TypeId}{es eb:Nat}{ez:List V}{z:List UInt8}{z':Int}{l:List Int}(hx:Jm (Cl σ x)=some (l.length,l.flatMap NJ))(h1:tb a=some (.sl e es eb ez))(h2:tb b=some (.sc (.str z)))(h3:tb e=some (.sc (.int .u8 z')))(k:K (upd σ d (.str (bytesOf l)))):F0 P tb cns ⟨some d,.convert a b x,t,none⟩ σ K:=by
 have e1:(l.flatMap NJ).length=l.length:=by rw[Bg (n:=1) (λ_=>rfl)];omega
 have e2:(l.flatMap NJ).all qu=true:=by rw[Ae];intro v hv;obtain⟨n,_,hn⟩:=Co.1 hv;simp only[NJ,AT]at hn;subst hn;rfl
 have e3:(l.flatMap NJ).map a9=bytesOf l:=by
  clear hx e1 e2 k
  unfold bytesOf
  induction l with
  |nil=>rfl
  |cons n l ih=>rw[AG,BU,ih];rfl
 refine⟨?_,?_⟩
 ·simp only[pc,Xo,h1,h2,h3,hx]
  cases hc:Cl σ x<;>rw[hc]at hx<;>first|exact⟨e1,e2⟩|cases hx
 ·simp only[pv,h2]
  rw[Xp hx,e3];exact k
theorem pW{b off:Nat}{cs:List V}{dd:TyD}{v:V}(hc:cns.contains d=false)(hx:KC σ x=.cref b off)(hb:C2 (σ b)=some cs)(ht:tb s=some dd)(ho:off+dd.size<=cs.length)(hg:getCells dd cs off=v)(k:K (upd σ d v)):
  F0 P tb cns ⟨some d,.load s x,t,none⟩ σ K:=by
 simp only[F0,hc,B7,Dm,Js,pc,pv,Rq,Rr,ht,hx,Sy,U0,hb,hg]
 exact⟨ho,k⟩
theorem pX{α:Type}{f:α->List V}{n off b:Nat}{l:List α}{i:Int}{e:α}{et:TypeId}{m:Nat}{dd:TyD}{v:V}(hc:cns.contains d=false)(hx:KC σ x=.cref b (i.toNat * n+off))(hb:σ b=.uni et m (l.flatMap f))(hf:∀x,(f x).length=n)(hi:AZ l i=some e)(ht:tb s=some dd)(ho:off+dd.size<=n)(hg:getCells dd (f e) off=v)(k:K (upd σ d v)):
  F0 P tb cns ⟨some d,.load s x,t,none⟩ σ K:=by
 have h1:=fT hf (CX hi).2.2 ho
 exact pW hc hx (by rw[hb];rfl) ht h1.2 (h1.1.trans hg) k
theorem uv{e:TypeId}{es eb n:Nat}{ez cs:List V}{kk:IntKind}{i:Int}(hx:Jm (Cl σ x)=some (n,cs))(hy:Cl σ y=.int kk i)(ht:tb s=some (.sl e es eb ez))(hi:0<=i∧i < n)(k:K (upd σ d (.adr (cs.drop (i.toNat * es)) 0))):F0 P tb cns ⟨some d,.indexAddr s x y,t,none⟩ σ K:=by
 have hns:∀b,Cl σ x≠.same b:=λb h=>by rw[h]at hx;cases hx
 have e1:XF σ (Cl σ x) (Cl σ y)=iaC (Cl σ x) (Cl σ y):=by cases h:Cl σ x<;>first|rfl|exact absurd h (hns _)|(rw[h]at hx;cases hx)
 have e2:iaS σ es (Cl σ x) (Cl σ y)=iaV es (Cl σ x) (Cl σ y):=by cases h:Cl σ x<;>first|rfl|exact absurd h (hns _)|(rw[h]at hx;cases hx)
 refine⟨?_,?_⟩
 ·simp only[pc,c6,ht];rw[e1];simp only[iaC,hx,hy,OR];exact hi
 ·simp only[pv,c7,ht];rw[e2];simp only[iaV,hx,hy,OR];exact k
theorem pV{e e':TypeId}{es eb n b:Nat}{ez cs:List V}{kk:IntKind}{i:Int}(hx:Cl σ x=.same b)(hb:σ b=.uni e' n cs)(hy:Cl σ y=.int kk i)(ht:tb s=some (.sl e es eb ez))(hi:0<=i∧i < n)(k:K (upd σ d (.cref b (i.toNat * es)))):F0 P tb cns ⟨some d,.indexAddr s x y,t,none⟩ σ K:=by
 refine⟨?_,?_⟩
 ·simp only[pc,c6,ht,XF,hx,hb,hy,OR];exact hi
 ·simp only[pv,c7,ht,iaS,hx,hb,hy,OR];exact k
theorem pZ{u:List UInt8}{kk:IntKind}{i:Int}{b:UInt8}(hx:Cl σ x=.str u)(hy:Cl σ y=.int kk i)(ht:tb s=some (.sc (.str [])))(hi:AZ u i=some b)(k:K (upd σ d (.int .u8 b.toNat))):F0 P tb cns ⟨some d,.index s x y,t,none⟩ σ K:=by
 obtain⟨h1,h2,h3⟩:=CX hi
 refine⟨?_,?_⟩
 ·simp only[pc,ht,gK,hx,hy,OR];exact⟨trivial,h1,h2⟩
 ·simp only[pv,gL,hx,hy,OR,h3];exact k
theorem p7{u:List UInt8}{lo hi:Option Operand}{l h:Int}(hx:Cl σ x=.str u)(ht:tb s=some (.sc (.str [])))(h1:R7 0 (lo.map (Cl σ))=some l)(h2:R7 u.length (hi.map (Cl σ))=some h)(hb:0<=l∧l<=h∧h<=u.length)(k:K (upd σ d (.str (Hk u l h)))):F0 P tb cns ⟨some d,.slice s x lo hi none,t,none⟩ σ K:=by
 refine⟨?_,?_⟩
 ·simp only[pc,Wu,ht,hx,h1,h2];exact hb
 ·simp only[pv,RL,ht,hx,h1,h2];exact k
theorem nN{α:Type}{l:List α}{a b:Int}(h:0<=a∧a<=b∧b<=l.length):(Hk l a b).length=b.toNat - a.toNat:=by
 unfold Hk;rw[BX,Bb,Cv (by omega)]
theorem p6{α:Type}{f:α->List V}{e:TypeId}{es eb:Nat}{ez:List V}{lst:List α}{lo hi:Option Operand}{l h:Int}(hx:Jm (Cl σ x)=some (lst.length,lst.flatMap f))(ht:tb s=some (.sl e es eb ez))(hf:∀x,(f x).length=es)(h1:R7 0 (lo.map (Cl σ))=some l)(h2:R7 lst.length (hi.map (Cl σ))=some h)(hb:0<=l∧l<=h∧h<=lst.length)
  (k:K (upd σ d (U9 (Cl σ x) (Hk lst l h).length ((Hk lst l h).flatMap f)))):F0 P tb cns ⟨some d,.slice s x lo hi none,t,none⟩ σ K:=by
 have e1:RL (some (.sl e es eb ez)) (Cl σ x) (lo.map (Cl σ)) (hi.map (Cl σ))=U9 (Cl σ x) (Hk lst l h).length ((Hk lst l h).flatMap f):=by
  rw[nN hb]
  unfold Hk
  rw[<-J2 hf,<-VN hf]
  cases hc:Cl σ x<;>rw[hc]at hx<;>first|(simp only[RL,hx,h1,h2];done)|cases hx
 refine⟨?_,?_⟩
 ·simp only[pc,ht]
  cases hc:Cl σ x<;>rw[hc]at hx<;>first|(simp only[Wu,hx,h1,h2];exact⟨hb.1,hb.2.1,hb.2.2,Bg hf lst⟩)|cases hx
 ·simp only[pv,ht,e1];exact k
def erA(σ:PS):List Operand->List V->Prop
 |[],as=>as=[]
 |x::xs,as=>∃a as',as=a::as'∧(Cl σ x).isArg=true∧er (Cl σ x)=a∧erA σ xs as'
theorem era{as:List V}{a:V}{xs:List Operand}(h1:(Cl σ x).isArg=true)(h2:er (Cl σ x)=a)(h3:erA σ xs as):erA σ (x::xs) (a::as):=⟨a,as,rfl,h1,h2,h3⟩
theorem AP:erA σ [] []:=rfl
theorem TZ:∀{xs:List Operand}{as:List V},erA σ xs as->xs.all (λx=>(Cl σ x).isArg)=true∧(xs.map λx=>er (Cl σ x))=as
 |[],_,h=>⟨rfl,(show _=[]from h).symm⟩
 |x::xs,_,⟨a,as',e,h1,h2,h3⟩=>by
  obtain⟨h4,h5⟩:=TZ h3
  rw[e,Bt,h1,h4,AO,h2,h5]
  exact⟨rfl,rfl⟩
theorem mn{f:FuncId}{args:Array Operand}{ts:Array TypeId}{dst:Option Nat}{as:List V}{r:V}(hc:dst.toList.any cns.contains=false)(he:erA σ args.toList as)(hs:AK P f as r)(k:K (Q8 σ dst r)):F0 P tb cns ⟨dst,.call {callee:=.value (.func f),args:=args,argTypes:=ts},t,none⟩ σ K:=by
 obtain⟨h1,h2⟩:=TZ he
 subst h2
 show Hm P cns _ f args.toList σ K
 unfold Hm
 rw[AJ (by simp only[hc];exact H9)]
 exact .inl ⟨h1,r,.inl hs,k⟩
theorem iN{f:FuncId}{args:Array Operand}{ts:Array TypeId}{dst:Option Nat}{xs:List Operand}{s:Nat}{as cs cs':List V}{r:V}(hc:dst.toList.any cns.contains=false)(ha:args.toList=x::xs)(hx:KC σ x=.cref s 0)(hs:σ s=.box cs)(hpl:cs.all HR=true)(he:erA σ xs as)(hp:OV P f cs as cs' r)(k:K (Q8 (upd σ s (.box cs')) dst r)):F0 P tb cns ⟨dst,.call {callee:=.value (.func f),args:=args,argTypes:=ts},t,none⟩ σ K:=by
 obtain⟨h1,h2⟩:=TZ he
 subst h2
 show Hm P cns _ f args.toList σ K
 unfold Hm
 rw[AJ (by simp only[hc];exact H9)]
 refine .inr (.inl ?_)
 rw[ha]
 have key:Sc P ⟨dst,.call {callee:=.value (.func f),args:=args,argTypes:=ts},t,none⟩ f x xs σ K:=⟨s,cs,cs',r,hx,hs,hpl,h1,hp,k⟩
 cases dst with
 |none=>exact⟨rfl,key⟩
 |some d=>exact key
theorem iM{f:FuncId}{args:Array Operand}{ts:Array TypeId}{as cs:List V}(hc:cns.contains d=true)(hb:Do (σ d)=true)(h1:args.toList.all (λx=>(Cl σ x).isArg)=true)(h2:(args.toList.map λx=>erK (Cl σ x))=as)(hp:NewAt P f as cs)(k:K (upd σ d (.box cs))):F0 P tb cns ⟨some d,.call {callee:=.value (.func f),args:=args,argTypes:=ts},t,none⟩ σ K:=by
 subst h2
 show Hm P cns _ f args.toList σ K
 unfold Hm
 rw[AI (by simp only[Option.toList_some,EM,hc];rfl)]
 exact⟨d,rfl,cs,rfl,hb,h1,hp,k⟩
theorem BM{α:Type}{f g:α->List V}(h:∀x,NI (f x)=g x)(l:List α):er (.dat l.length (l.flatMap f))=.dat l.length (l.flatMap g):=by rw[er,Sh h]
theorem Ut{α:Type}{f g:α->List V}(h:∀x,NI (f x)=g x)(l:List α){e:TypeId}:er (.own e l.length (l.flatMap f))=.dat l.length (l.flatMap g):=by rw[er,Sh h]
theorem RI{α:Type}{f g:α->List V}(h:∀x,NI (f x)=g x)(l:List α):er (.arg l.length (l.flatMap f))=.dat l.length (l.flatMap g):=by rw[er,Sh h]
theorem CU{cs ds:List V}(h:NI cs=ds):er (.agg cs)=.agg ds:=by rw[er,h]
theorem A5{c a:V}{cs ds:List V}(h1:er c=a)(h2:NI cs=ds):NI (c::cs)=a::ds:=by rw[NI,h1,h2]
def Am(n:Int):List V:=[.int .i64 n]
def MY(b:Bool):List V:=[.bool b]
def cst(u:List UInt8):List V:=[.str u]
theorem BA(n:Int):(Am n).length=1:=rfl
theorem dD(n:Int):(NJ n).length=1:=rfl
theorem Tx(n:Bool):(MY n).length=1:=rfl
theorem Qp(n:List UInt8):(cst n).length=1:=rfl
theorem AN(n:Int):NI (Am n)=Am n:=rfl
theorem pO(n:Int):NI (NJ n)=NJ n:=rfl
theorem x8(n:Bool):NI (MY n)=MY n:=rfl
theorem ml(n:List UInt8):NI (cst n)=cst n:=rfl
theorem PR{α:Type}{f g:α->List V}(h:∀x,(f x).map RR=g x):∀l:List α,(l.flatMap f).map RR=l.flatMap g
 |[]=>rfl
 |x::l=>by rw[AG,BU,h,AG,PR h l]
theorem pR{α:Type}{f:α->List V}{e:TypeId}{es eb p q:Nat}{ez ds:List V}{l m:List α}(hx:σ p=.own e l.length (l.flatMap f))(hy:Cl (upd σ p (.dat l.length (l.flatMap f))) (.tmp q)=c2)(hs:Jm c2=some (m.length,ds))(hd:ds.length=m.length * es)(ht:tb s=some (.sl e es eb ez))(ha:Vx c2=m.flatMap f)(hl:l.length+m.length<=lim)(hv:c2.isVal=true)
  (k:K (upd (upd (upd σ p (.dat l.length (l.flatMap f))) q (dg c2)) d (.own e (l++m).length ((l++m).flatMap f)))):F0 P tb cns ⟨some d,.call {callee:=.builtin .append,args:= #[.tmp p,.tmp q],argTypes:= #[s,s]},t,none⟩ σ K:=by
 subst hy
 have e1:CR σ (.tmp p)=upd σ p (.dat l.length (l.flatMap f)):=by simp only[CR,hx,dg,dg2,RR]
 show W7 tb _ _ _ _ d σ K
 unfold W7
 have e2:Cl σ (.tmp p)=.own e l.length (l.flatMap f):=hx
 rw[ht,e2,e1,hs]
 refine⟨rfl,rfl,hd,hl,?_⟩
 rw[ha,<-Dd,<-Ar]
 exact .inl k
theorem mm{α:Type}{f g h:α->List V}{e:TypeId}{es eb p q:Nat}{ez ds:List V}{l m:List α}(hx:σ p=.own e l.length (l.flatMap f))(hy:Cl (upd σ p (.dat l.length (l.flatMap f))) (.tmp q)=c2)(hs:Jm c2=some (m.length,ds))(hd:ds.length=m.length * es)(ht:tb s=some (.sl e es eb ez))(ha:Vx c2=m.flatMap h)(hl:l.length+m.length<=lim)(hv:c2.isVal=true)
  (hf:∀x,(f x).map RR=g x) (hh:∀x,(h x).map RR=g x) (hfc:∀x,(f x).all V.Di=true) (hhc:∀x,(h x).all V.Di=true)
  (k:K (upd (upd (upd σ p (.dat l.length (l.flatMap f))) q (dg c2)) d (.own e (l++m).length ((l++m).flatMap g)))):F0 P tb cns ⟨some d,.call {callee:=.builtin .append,args:= #[.tmp p,.tmp q],argTypes:= #[s,s]},t,none⟩ σ K:=by
 subst hy
 have e1:CR σ (.tmp p)=upd σ p (.dat l.length (l.flatMap f)):=by simp only[CR,hx,dg,dg2,RR]
 show W7 tb _ _ _ _ d σ K
 unfold W7
 have e2:Cl σ (.tmp p)=.own e l.length (l.flatMap f):=hx
 rw[ht,e2,e1,hs]
 refine⟨rfl,rfl,hd,hl,.inr ⟨?_,?_⟩⟩
 ·rw[ha,BU,PR hf,PR hh,<-Dd,<-Ar]
  have:∀(τ:PS) (c c':V),upd (upd τ d c) d c'=upd τ d c':=by
   intro τ c c'
   funext q
   by_cases e:q=d
   ·rw[e,upd_same,upd_same]
   ·rw[upd_ne _ _ e,upd_ne _ _ e,upd_ne _ _ e]
  rw[this]
  exact k
 ·rw[ha,Es,List.all_flatMap,List.all_flatMap,Ab,Ae,Ae]
  exact⟨λx _=>hfc x,λx _=>hhc x⟩
theorem p8{ty:TypeId}{α:Type}{f:α->List V}{n b:Nat}{l:List α}{i:Int}{e:α}{et:TypeId}{dd:TyD}(hx:KC σ x=.cref b (i.toNat * n))(hb:σ b=.uni et l.length (l.flatMap f))(hf:∀x,(f x).length=n)(hi:0<=i∧i < l.length)(hy:Cl σ y=c1)(ht:tb t=some dd)(ha:c1.isArg=true)(hn:n=dd.size)(hc:GM c1=f e)
  (k:K (upd (CR σ y) b (.uni et (Da l i e).length ((Da l i e).flatMap f)))):F0 P tb cns ⟨none,.store t x y,ty,none⟩ σ K:=by
 subst hy hn
 have hk:i.toNat < l.length:=by omega
 simp only[F0,aJ,ht,hx,hb,C2,RM]
 refine⟨trivial,ha,by rw[hc,hf],?_,?_⟩
 ·rw[Bg hf]
  have:i.toNat * dd.size+dd.size<=l.length * dd.size:=by rw[<-FT];exact Cy _ hk
  omega
 ·rw[hc,Zd hf hk]
  have e1:(Da l i e).length=l.length:=by unfold Da;rw[BG]
  rw[e1]at k
  exact k
theorem ut{dd:TyD}(hn:Do (σ d)=true)(ht:tb s=some dd)(k:K (upd σ d (.box (Ys dd)))):F0 P tb cns ⟨some d,.alloc s,t,none⟩ σ K:=by
 simp only[F0,TR,ht];exact⟨trivial,hn,k⟩
theorem uw{α:Type}{f:α->List V}{z:α}{e:TypeId}{es eb:Nat}{ez:List V}{k0 k1:IntKind}{n:Int}(hc:cns.contains d=false)(hx:Cl σ x=.int k0 n)(hy:Cl σ y=.int k1 n)(ht:tb s=some (.sl e es eb ez))(hz:f z=ez)(hez:ez.length=es)(hn:0<=n∧n.toNat<=lim)(k:K (upd σ d (.own e (List.replicate n.toNat z).length ((List.replicate n.toNat z).flatMap f)))):F0 P tb cns ⟨some d,.makeSlice s x y,t,none⟩ σ K:=by
 simp only[F0,hc,B7,Dm,XK,ht,hx,hy]
 refine⟨trivial,hn.1,trivial,hn.2,?_⟩
 rw[Wj hz hez]
 rw[Dw]at k
 exact k
theorem pY{α:Type}{f:α->List V}{z:α}{e:TypeId}{es eb:Nat}{ez:List V}{k0 k1:IntKind}{n:Int}(hc:cns.contains d=true)(hx:Cl σ x=.int k0 n)(hy:Cl σ y=.int k1 n)(ht:tb s=some (.sl e es eb ez))(hz:f z=ez)(hez:ez.length=es)(hn:0<=n∧n.toNat<=lim)(hb:Do (σ d)=true)(k:K (upd σ d (.uni e (List.replicate n.toNat z).length ((List.replicate n.toNat z).flatMap f)))):F0 P tb cns ⟨some d,.makeSlice s x y,t,none⟩ σ K:=by
 simp only[F0,hc,Fh,YT,ht,hx,hy]
 refine⟨trivial,hn.1,trivial,hn.2,hb,?_⟩
 rw[Wj hz hez]
 rw[Dw]at k
 exact k
def gOp(cns:List Nat)(d:Nat):Op->Bool
 |.move _=> !cns.contains d
 |.load _ _=> !cns.contains d
 |.pick .. |.binOp .. |.unOp .. |.convert .. |.fieldAddr .. |.indexAddr .. |.index .. |.slice .. =>true
 |.call c=>match c.callee with
  |.value (.func _)=> !cns.contains d
  |.value _=>false
  |_=>true
 |.build .. |.buildSlice .. |.field .. =>true
 |_=>false
theorem uu{op:Op}{q:Nat}{b:Bool}(hg:gOp cns d op=true)(hq:σ q=.bool b)(h:F0 P tb cns ⟨some d,op,t,none⟩ σ K):F0 P tb cns ⟨some d,op,t,some (some q,b)⟩ σ K:=by
 have hk:known (σ q)=true:=by rw[hq];rfl
 have hb:WH b (σ q)=true:=by rw[hq];simp[WH]
 have hp:Js tb ⟨some d,op,t,none⟩ σ K->Js tb ⟨some d,op,t,some (some q,b)⟩ σ K:=by
  intro h;simp only[Js]at *;exact⟨hk,λ_=>h,λe=>by rw[hb]at e;cases e⟩
 cases op<;>first|(cases hg;done)|exact hp h|skip
 case move x=>simp only[gOp,AC]at hg;simp only[F0,hg,B7,Dm]at h⊢;exact hp h
 case load s x=>simp only[gOp,AC]at hg;simp only[F0,hg,B7,Dm]at h⊢;exact hp h
 case call c=>
  obtain⟨cal,args,ts⟩:=c
  cases cal with
  |value x=>
   cases x with
   |func f=>
    have hcd:cns.contains d=false:=by simpa[gOp]using hg
    replace h:Hm P cns ⟨some d,.call ⟨.value (.func f),args,ts⟩,t,none⟩ f args.toList σ K:=h
    show Hm P cns ⟨some d,.call ⟨.value (.func f),args,ts⟩,t,some (some q,b)⟩ f args.toList σ K
    unfold Hm at h⊢
    rw[AJ (by simpa using hcd)]at h⊢
    rcases h with h|h|h
    ·left
     unfold Pt at h⊢;exact⟨hk,λ_=>h,λe=>absurd e (by rw[hb];simp)⟩
    ·right;left
     unfold UD at h⊢
     split at h
     ·exact h
     ·exact⟨hk,λ_=>h,λe=>absurd e (by rw[hb];simp)⟩
    ·right;right
     exact⟨hk,λ_=>h,λe=>absurd e (by rw[hb];simp)⟩
   |_=>cases hg
  |builtin bn=>
   simp only[F0,Sb]at h⊢
   split at h
   ·rename_i heq;cases heq
   ·exact⟨hk,λ_=>h,λe=>absurd e (by rw[hb];simp)⟩
   ·exact hp h
  |_=>exact hp h
 case build s ps=>exact⟨hk,λ_=>h,λe=>absurd e (by rw[hb];simp)⟩
 case buildSlice s n ps=>exact⟨hk,λ_=>h,λe=>absurd e (by rw[hb];simp)⟩
 case field s y f=>exact⟨hk,λ_=>h,λe=>absurd e (by rw[hb];simp)⟩
end
section
variable {P:Program}{nt:Nat}{bx:List Nat}{σ:PS}{Q:Exit->PS->Prop}{tb:Tb}{cns:List Nat}
theorem mP{ops:List LO}{y:LC}(htb:H1 P tb)(h:∀K:PS->Prop,(∀σ',LS P nt bx y σ' Q->K σ')->Vr P tb cns ops σ K):LS P nt bx (.seq (.rgn cns ops) y) σ Q:=jK htb (h _ λ_ h=>h)
theorem mO{fps:List (List Nat×List Nat)}{es:List (List Nat)}{ops:List LO}{y:LC}(htb:H1 P tb)(hm:P.follows .mixedOrders=true)(hD:(okD fps es ops&&okF cns fps ops)=true)(h:∀K:PS->Prop,(∀σ',LS P nt bx y σ' Q->K σ')->Wo P tb cns fps ops σ K):LS P nt bx (.seq (.drw cns fps es ops) y) σ Q:=oM htb hm hD (h _ λ_ h=>h)
end
def aZ(a b:Int):Int:=IntKind.i64.wrap ((BitVec.ofInt IntKind.i64.bits a&&& BitVec.ofInt IntKind.i64.bits b).toNat:Int)
def xG(a b:Int):Int:=IntKind.i64.wrap ((BitVec.ofInt IntKind.i64.bits a ^^^ BitVec.ofInt IntKind.i64.bits b).toNat:Int)
def xy(a b:Int):Int:=IntKind.i64.wrap (a * 2 ^ (min b.toNat IntKind.i64.bits))
def nJ(a b:Int):Int:=a.fdiv (2 ^ (min b.toNat IntKind.i64.bits))
end Go.Proofs.YtplejokflpkcbaaGreatDoor
