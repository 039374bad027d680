/-
 A machine on data, part 2b: regions whose order is open, tables, rules. Over no program; no conditions.
-/
import Derived.Test.YthghcmmlmfgkbaaGreatDoorKp
open Go.RowKit
set_option linter.unusedVariables false
set_option linter.unusedSimpArgs false
namespace Go.Proofs.YthghcmmlmfgkbaaGreatDoor
section
theorem N2{K:PS->Prop}{o:LO}{d:Nat}{σ:PS}{X:(PS->Prop)->Prop}(hX:X K->∃σ1,X (λs=>s=σ1)∧K σ1)(h:OM o d σ K (X K)):∃σ1,OM o d σ (λs=>s=σ1) (X (λs=>s=σ1))∧K σ1:=by
 unfold OM at *
 split at h
 ·exact hX h
 ·exact h.elim
 ·rename_i q b _
  by_cases hb:Wd b (σ q)=true
  ·obtain⟨s,h1,h2⟩:=hX (h.2.1 hb)
   exact⟨s,⟨h.1,λ_=>h1,λe=>by rw[hb]at e;cases e⟩,h2⟩
  ·exact⟨_,⟨h.1,λe=>absurd e hb,λ_=>rfl⟩,h.2.2 (by simpa using hb)⟩
theorem WO{P:Program}{tb:Tb}{cns:zN}{K:PS->Prop}{o:LO}{σ:PS}(h:F0 P tb cns o σ K):∃σ1,F0 P tb cns o σ (λs=>s=σ1)∧K σ1:=by
 have hp:∀{o:LO}{σ:PS},Jv tb o σ K->∃σ1,Jv tb o σ (λs=>s=σ1)∧K σ1:=by
  intro o σ h
  unfold Jv at *
  split at h
  ·exact h.elim
  ·split at h
   ·exact⟨_,⟨h.1,rfl⟩,h.2⟩
   ·exact h.elim
   ·rename_i q b _
    by_cases hb:Wd b (σ q)=true
    ·exact⟨_,⟨h.1,λe=>⟨(h.2.1 hb).1,rfl⟩,λe=>by rw[hb]at e;cases e⟩,(h.2.1 hb).2⟩
    ·exact⟨_,⟨h.1,λe=>absurd e hb,λe=>rfl⟩,h.2.2 (by simpa using hb)⟩
 have hcS:∀{o:LO}{f:FuncId}{args:List Operand}{σ:PS},O5 P o f args σ K->∃σ1,O5 P o f args σ (λs=>s=σ1)∧K σ1:=by
  intro o f args σ h
  unfold O5 at *
  split at h
  ·exact⟨_,⟨h.1,h.2.choose,h.2.choose_spec.1,rfl⟩,h.2.choose_spec.2⟩
  ·split at h
   ·rename_i b _ _ q d _ _
    by_cases hb:Wd b (σ q)=true
    ·exact⟨_,⟨h.1,λe=>⟨(h.2.1 hb).1,(h.2.1 hb).2.choose,(h.2.1 hb).2.choose_spec.1,rfl⟩,λe=>by rw[hb]at e;cases e⟩,(h.2.1 hb).2.choose_spec.2⟩
    ·exact⟨_,⟨h.1,λe=>absurd e hb,λe=>rfl⟩,h.2.2 (by simpa using hb)⟩
   ·exact h.elim
 have ha:∀{o:LO}{x:Operand}{d:Nat}{σ:PS},OL tb o x d σ K->∃σ1,OL tb o x d σ (λs=>s=σ1)∧K σ1:=by
  intro o x d σ h
  unfold OL at *
  split at h
  ·split at h
   ·exact⟨_,rfl,h⟩
   ·exact h.elim
  ·exact⟨_,rfl,h⟩
  ·split at h
   ·exact⟨_,rfl,h⟩
   ·exact⟨_,rfl,h⟩
   ·exact⟨_,rfl,h⟩
   ·exact⟨_,⟨h.1,rfl⟩,h.2⟩
  ·exact⟨_,⟨h.1,rfl⟩,h.2⟩
 have hF:∀{o:LO}{f:FuncId}{args:List Operand}{σ:PS},JZ P cns o f args σ K->∃σ1,JZ P cns o f args σ (λs=>s=σ1)∧K σ1:=by
  intro o f args σ h
  unfold JZ at *
  split at h
  ·rename_i hc
   simp only[Av hc]
   obtain⟨d,hd,cs,q0,q1,q2,q3,q4⟩:=h
   exact⟨_,⟨d,hd,cs,q0,q1,q2,q3,rfl⟩,q4⟩
  ·rename_i hc
   simp only[At hc]
   rcases h with h|h|h
   ·obtain⟨s,h1,h2⟩:=hcS h
    exact⟨s,.inl h1,h2⟩
   ·unfold T5 at *
    split at h
    ·exact h.elim
    ·rename_i x xs
     have key:RM P o f x xs σ K->∃σ1,RM P o f x xs σ (λs=>s=σ1)∧K σ1:=λ⟨s,cs,cs',r,q1,q2,q3,q4,q5,q6⟩=>⟨_,⟨s,cs,cs',r,q1,q2,q3,q4,q5,rfl⟩,q6⟩
     split at h
     ·obtain⟨s,h1,h2⟩:=key h.2
      exact⟨s,.inr (.inl ⟨h.1,h1⟩),h2⟩
     ·obtain⟨s,h1,h2⟩:=N2 (X:=λK=>RM P o f x xs σ K) key h
      exact⟨s,.inr (.inl h1),h2⟩
   ·have key:∀{d},T6 P d f args σ K->∃σ1,T6 P d f args σ (λs=>s=σ1)∧K σ1:=λh=>h.elim (λ⟨s,xs,cs,cs',D,q1,q2,q3,q4,q5,q6,q7,q8,q9⟩=>⟨_,.inl ⟨s,xs,cs,cs',D,q1,q2,q3,q4,q5,q6,q7,q8,rfl⟩,q9⟩)
     (λh=>h.elim (λ⟨zs,x,xs,ys,us,os,os',r,D,q1,q2,q3,q4,q5,q6,q7,q8,q9⟩=>⟨_,.inr (.inl ⟨zs,x,xs,ys,us,os,os',r,D,q1,q2,q3,q4,q5,q6,q7,q8,rfl⟩),q9⟩)
      (λ⟨zs,x,s,n,n',e,cs,cs',r,q1,q2,q3,q4,q5,q6,q7,q8,q9⟩=>⟨_,.inr (.inr ⟨zs,x,s,n,n',e,cs,cs',r,q1,q2,q3,q4,q5,q6,q7,q8,rfl⟩),q9⟩))
    unfold UY at *
    split at h
    ·obtain⟨s,h1,h2⟩:=key h.2
     exact⟨s,.inr (.inr ⟨h.1,h1⟩),h2⟩
    ·obtain⟨s,h1,h2⟩:=N2 (X:=λK=>T6 P (some _) f args σ K) key h
     exact⟨s,.inr (.inr h1),h2⟩
 have hu:∀{x:Operand}{d:Nat}{σ:PS},Wv x d σ K->∃σ1,Wv x d σ (λs=>s=σ1)∧K σ1:=by
  intro x d σ h
  unfold Wv at *
  split at h
  ·split at h
   ·exact⟨_,⟨h.1,rfl⟩,h.2⟩
   ·exact h.elim
  ·exact h.elim
 unfold F0 at *
 split at h
 ·split at h
  ·rename_i hc;simp only[Av hc];obtain⟨s,h1,h2⟩:=hu h.2;exact⟨s,⟨h.1,h1⟩,h2⟩
  ·rename_i hc;simp only[At hc];obtain⟨s,h1,h2⟩:=ha h.2;exact⟨s,⟨h.1,h1⟩,h2⟩
 ·split at h
  ·rename_i hc;simp only[Av hc];obtain⟨s,h1,h2⟩:=ha h.2;exact⟨s,⟨h.1,h1⟩,h2⟩
  ·rename_i hc;simp only[At hc];exact hp h
 ·split at h
  ·rename_i hc
   simp only[Av hc]
   have h0:=h.1
   have h2:=h.2
   unfold Up at *
   split at h2
   ·split at h2
    ·exact⟨_,⟨h0,h2.1,rfl⟩,h2.2⟩
    ·exact h2.elim
   ·exact⟨_,⟨h0,h2.1,rfl⟩,h2.2⟩
   ·obtain⟨q,g,off,e,n,m,cs,k0,hq,k1,k2,k3,k4⟩:=h2
    exact⟨_,⟨h0,q,g,off,e,n,m,cs,k0,hq,k1,k2,k3,rfl⟩,k4⟩
   ·exact h2.elim
  ·rename_i hc;simp only[At hc];exact hp h
 ·have h0:=h.1
  have h2:=h.2
  unfold be at *
  split at h2
  ·split at h2
   ·exact⟨_,⟨h0,h2.1,rfl⟩,h2.2⟩
   ·exact h2.elim
  ·exact h2.elim
 ·have h0:=h.1
  have h2:=h.2
  unfold ao at *
  split at h2
  ·split at h2
   ·exact⟨_,⟨h0,h2.1,h2.2.1,h2.2.2.1,rfl⟩,h2.2.2.2⟩
   ·exact h2.elim
  ·obtain⟨g,off,e,n,m,cs,D,vc,q1,q2,q3,q4,q5,q6,q7,q8,q9,q10⟩:=h2
   exact⟨_,⟨h0,g,off,e,n,m,cs,D,vc,q1,q2,q3,q4,q5,q6,q7,q8,q9,rfl⟩,q10⟩
  ·exact h2.elim
 ·have h0:=h.1
  have h2:=h.2
  unfold Tn at *
  split at h2
  ·exact⟨_,⟨h0,h2.1,rfl⟩,h2.2⟩
  ·exact h2.elim
 ·exact⟨_,⟨h.1,h.2.1,h.2.2.1,rfl⟩,h.2.2.2⟩
 ·refine N2 (X:=λK=>RJ tb _ _ _ σ K) (λh2=>?_) h
  unfold RJ at *
  split at h2
  ·split at h2
   ·exact⟨_,rfl,h2⟩
   ·exact h2.elim
  ·exact h2.elim
 ·refine N2 (X:=λK=>aS tb _ _ _ _ σ K) (λh2=>?_) h
  unfold aS at *
  split at h2
  ·split at h2
   ·exact⟨_,⟨h2.1,h2.2.1,rfl⟩,h2.2.2⟩
   ·exact h2.elim
  ·exact h2.elim
 ·split at h
  ·rename_i hc
   simp only[Av hc]
   have h0:=h.1
   have h2:=h.2
   unfold Yx at *
   split at h2
   ·exact⟨_,⟨h0,h2.1,h2.2.1,h2.2.2.1,h2.2.2.2.1,rfl⟩,h2.2.2.2.2⟩
   ·exact h2.elim
  ·rename_i hc
   simp only[At hc]
   have h0:=h.1
   have h2:=h.2
   unfold Yw at *
   split at h2
   ·exact⟨_,⟨h0,h2.1,h2.2.1,h2.2.2.1,rfl⟩,h2.2.2.2⟩
   ·exact h2.elim
 ·unfold RL at *
  split at h
  ·split at h
   ·exact hF h
   ·have key:∀{d u args},QQ P d u args σ K->∃σ1,QQ P d u args σ (λs=>s=σ1)∧K σ1:=λ⟨f,us,ss,css,css',r,D,q1,q2,q3,q4,q5,q6,q7,q8,q9,q10⟩=>⟨_,⟨f,us,ss,css,css',r,D,q1,q2,q3,q4,q5,q6,q7,q8,q9,rfl⟩,q10⟩
    unfold UZ at *
    split at h
    ·obtain⟨s,h1,h2⟩:=key h.2
     exact⟨s,⟨h.1,h1⟩,h2⟩
    ·have h0:=h.1
     obtain⟨s,h1,h2⟩:=N2 (X:=λK=>QQ P (some _) _ _ σ K) key h.2
     exact⟨s,⟨h0,h1⟩,h2⟩
   ·unfold YZ at *
    split at h
    ·exact⟨_,⟨h.1,h.2.1,h.2.2.1,rfl⟩,h.2.2.2⟩
    ·exact h.elim
  ·have key:∀{t t' x y d}{σ:PS},QN tb t t' x y d σ K->∃σ1,QN tb t t' x y d σ (λs=>s=σ1)∧K σ1:=by
    intro t t' x y d σ h2
    unfold QN at *
    split at h2
    ·rcases h2.2.2.2.2 with h3|h3
     ·exact⟨_,⟨h2.1,h2.2.1,h2.2.2.1,h2.2.2.2.1,.inl rfl⟩,h3⟩
     ·exact⟨_,⟨h2.1,h2.2.1,h2.2.2.1,h2.2.2.2.1,.inr ⟨rfl,h3.2⟩⟩,h3.1⟩
    ·exact h2.elim
   refine N2 (X:=λK=>QN tb _ _ _ _ _ σ K∨((∀b,_≠some (some gU,b))∧appG tb _ _ _ _ _ σ K)) (λh2=>?_) h
   rcases h2 with h2|⟨hg,s,u,e,n,cs,q1,q2,q3,q4⟩
   ·obtain⟨s1,k1,k2⟩:=key h2
    exact⟨s1,.inl k1,k2⟩
   ·obtain⟨s1,k1,k2⟩:=key q4
    exact⟨s1,.inr ⟨hg,s,u,e,n,cs,q1,q2,q3,k1⟩,k2⟩
  ·exact hp h
 ·refine N2 (X:=λK=>dC P _ _ _ _ σ K) (λh2=>?_) h
  unfold dC at *
  split at h2
  ·split at h2
   ·exact⟨_,rfl,h2⟩
   ·exact h2.elim
  ·exact h2.elim
 ·refine N2 (X:=λK=>mkF _ _ _ _ σ K) (λh2=>?_) h
  unfold mkF at *
  split at h2
  ·exact⟨_,rfl,h2⟩
  ·exact h2.elim
 ·exact hp h
def VI(P:Program)(tb:Tb)(cns:zN):List (zN×zN)->List LO->PS->(PS->Prop)->Prop
 |_,[],σ,K=>bxS cns σ=true∧K σ
 |[],_::_,_,_=>False
 |(R,W)::fps,o::os,σ,K=>UT R W o.op σ=true∧adB cns R o σ=true∧F0 P tb cns o σ (λσ'=>VI P tb cns fps os σ' K)
def okF(cns:zN):List (zN×zN)->List LO->Bool
 |_,[]=>true
 |[],_::_=>false
 |(R,W)::fps,o::os=>fpB cns R W o&&okF cns fps os
def To:List zN->List zN->List zN
 |acc,[]=>acc
 |acc,e::es=>To (acc++[(e++e.flatMap (λk=>acc.getD k [])).eraseDups]) es
def meets(a b:zN):Bool:=a.any b.contains
def clash(x y:zN×zN):Bool:=meets x.2 y.1 || meets x.2 y.2 || meets x.1 y.2
def isX(o:LO):Bool:=match o.op,o.g,o.dst with
 |.extract (.tmp _) _,none,some _=>true
 |_,_,_=>false
def isM(o:LO):Bool:=match o.op,o.g,o.dst with
 |.move (.tmp _),none,some _=>true
 |_,_,_=>false
def xp(o:LO):Bool:=match o.op with
 |.store _ _ _=>true
 |_=>false
def mvT(o:LO):Option (Nat×Nat):=match o.op,o.g,o.dst with
 |.move (.tmp s),none,some d=>some (s,d)
 |_,_,_=>none
def z8(ops:List LO):Bool:=ops.any λo=>match o.op with
 |.call c=>match c.callee,c.args.toList with
  |.builtin .append,.tmp x::_=>ops.any λa=>match mvT a with
   |some (s,d)=>d==x&&ops.any λb=>match mvT b with
    |some (s',d')=>s'==s&&d' !=d
    |none=>false
   |none=>false
  |_,_=>false
 |_=>false
def z9(ops:List LO):Bool:=Nat.ble 2 (ops.countP xp) || z8 ops
def XZ(ops:List LO)(i:Nat):Bool:=match ops[i]? with
 |some o=>isX o || (isM o&&z9 ops)
 |none=>false
theorem exX{o:LO}{b:Bool}(h:(isX o || (isM o&&b))=true):∃d,o.g=none∧o.dst=some d∧((∃sl ix,o.op=.extract (.tmp sl) ix)∨∃sl,o.op=.move (.tmp sl)):=by
 rw[BP,Aa]at h
 rcases h with h|⟨h,_⟩
 ·unfold isX at h
  split at h
  ·rename_i sl ix d h1 h2 h3
   exact⟨d,h2,h3,.inl ⟨sl,ix,h1⟩⟩
  ·cases h
 ·unfold isM at h
  split at h
  ·rename_i sl d h1 h2 h3
   exact⟨d,h2,h3,.inr ⟨sl,h1⟩⟩
  ·cases h
def enf(es:List zN)(ops:List LO)(i j:Nat):Bool:=XZ ops i&&XZ ops j&&es.getD i []==es.getD j []
def lkL(ops:List LO)(j:Nat):zN:=match ops[j]? with
 |some o=>QB o.op++gT o
 |none=>[]
def apF(fps:List (zN×zN))(ops:List LO)(i j:Nat):Bool:=match(ops[i]?).bind (·.dst)with
 |some d=> !(lkL ops j).contains d&&((ops[j]?).bind (·.dst))!=some d&&(match(ops[j]?).bind (·.dst)with
  |some e=> !(lkL ops i).contains e
  |none=>true)
 |none=>false
def okD(fps:List (zN×zN))(es:List zN)(ops:List LO):Bool:=
 (fps.length==es.length&&(List.range es.length).all λj=>(es.getD j []).all (λk=>decide (k < j))&&(List.range j).all λi=> !clash (fps.getD i ([],[])) (fps.getD j ([],[])) || ((To [] es).getD j []).contains i || enf es ops i j)&&
 (List.range es.length).all λi=> !XZ ops i || (List.range es.length).all λj=>j==i || (es.getD j []).contains i || ((To [] es).getD i []).contains j || apF fps ops i j
theorem Za{X:Nat->Prop}{es0:List zN}(hX:∀k,X k->∀m∈es0.getD k [],X m):∀(es acc pre:List zN),es0=pre++es->pre.length=acc.length->
  (∀j,(∀k∈es0.getD j [],X k)->∀i∈acc.getD j [],X i)->∀j,(∀k∈es0.getD j [],X k)->∀i∈(To acc es).getD j [],X i
 |[],acc,pre,_,_,h=>h
 |e::es,acc,pre,he,hl,h=>by
  unfold To
  refine Za hX es _ (pre++[e]) (by rw[he];simp) (by simp[hl]) ?_
  intro j hj i hi
  rcases FG j acc.length with hlt|heq|hgt
  ·refine h j hj i ?_
   simpa[B4 hlt]using hi
  ·subst heq
   have hej:es0.getD acc.length []=e:=by rw[he];simp[<-hl]
   rw[hej]at hj
   have hi':i∈(e++e.flatMap (λk=>acc.getD k [])).eraseDups:=by simpa using hi
   rw[List.mem_eraseDups,Al,Cj]at hi'
   rcases hi' with hi'|⟨k,hk,hi'⟩
   ·exact hj i hi'
   ·exact h k (hX k (hj k hk)) i hi'
  ·exfalso
   have:(acc++[(e++e.flatMap (λk=>acc.getD k [])).eraseDups])[j]? =none:=A2 (by simp;omega)
   rw[Af,this]at hi
   simp at hi
theorem RO{α:Type}{p q:α->Bool}(h:∀x,p x=true->q x=true):∀{l:List α}{x:α},x∈l->q x=true->p x=false->l.countP p < l.countP q
 |[],_,hx,_,_=>by simp at hx
 |y::l,x,hx,h1,h2=>by
  have hle:l.countP p<=l.countP q:=List.countP_mono_left (λx _=>h x)
  rw[List.countP_cons,List.countP_cons]
  rcases AB.1 hx with rfl|hx
  ·rw[h1,h2];simp;omega
  ·have:=RO h hx h1 h2
   have h3:(if p y=true then 1 else 0)<=(if q y=true then 1 else 0):=by
    split
    ·rename_i hp;rw[Av (h y hp)];exact AT 1
    ·exact CB _
   omega
def mix(s:Nat->PS)(W:Nat->zN)(X:Nat->Bool):Nat->PS
 |0=>s 0
 |m+1=>if X m=true then pt (W m) (s (m+1)) (mix s W X m)else mix s W X m
section
variable {s:Nat->PS}{R W:Nat->zN}{X:Nat->Bool}{n i:Nat}
theorem Xb{q:Nat}:∀{m k:Nat},m<=k->(∀j,m<=j->j < k->X j=true->(W j).contains q=false)->mix s W X k q=mix s W X m q:=by
 intro m k hmk h
 induction k with
 |zero=>
  have:m=0:=by omega
  subst this;rfl
 |succ k ih=>
  rcases A9 k m with hlt|hge
  ·have:m=k+1:=by omega
   subst this;rfl
  ·rw[<-ih hge (λj h1 h2=>h j h1 (by omega))]
   simp only[mix]
   split
   ·rename_i hx
    have:=h k hge (by omega) hx
    simp only[pt]
    rw[At (by rw[this];exact K3)]
   ·rfl
theorem l5{q:Nat}(hloc:∀m,m < n->∀q,(W m).contains q=false->s (m+1) q=s m q):∀{m:Nat},m<=n->(∀j,j < m->(W j).contains q=true->X j=true)->mix s W X m q=s m q:=by
 intro m hm h
 induction m with
 |zero=>rfl
 |succ m ih=>
  have ih:=ih (by omega) (λj hj=>h j (by omega))
  simp only[mix]
  by_cases hw:(W m).contains q=true
  ·rw[Av (h m (by omega) hw)]
   simp only[pt]
   rw[Av hw]
  ·have hw':(W m).contains q=false:=by simpa using hw
   split
   ·simp only[pt];rw[At hw,ih,hloc m (by omega) q hw']
   ·rw[ih,hloc m (by omega) q hw']
theorem pQ(hi:i < n)(hlater:∀j q,i < j->j < n->(W i).contains q=true->(W j).contains q=true->X j=false)(X':Nat->Bool)(hX':∀j,X' j=(X j || j==i)):
  mix s W X' n=pt (W i) (s (i+1)) (mix s W X n):=by
 funext q
 have hne:∀j,j≠i->X' j=X j:=λj hj=>by rw[hX'];simp[hj]
 have hii:X' i=true:=by rw[hX'];simp
 have hpre:∀m,m<=i->mix s W X' m=mix s W X m:=by
  intro m
  induction m with
  |zero=>intro _;rfl
  |succ m ih=>intro hm;simp only[mix];rw[hne m (by omega),ih (by omega)]
 simp only[pt]
 by_cases hw:(W i).contains q=true
 ·rw[Av hw,Xb (m:=i+1) (by omega) (λj h1 h2 hx=>?_)]
  ·simp only[mix,Av hii,pt,Av hw]
  ·cases hwj:(W j).contains q
   ·rfl
   ·rw[hne j (by omega),hlater j q (by omega) h2 hw hwj]at hx;cases hx
 ·rw[At hw]
  have:∀m,m<=n->mix s W X' m q=mix s W X m q:=by
   intro m
   induction m with
   |zero=>intro _;rfl
   |succ m ih=>
    intro hm
    have ih:=ih (by omega)
    simp only[mix]
    by_cases hmi:m=i
    ·subst hmi
     rw[Av hii]
     simp only[pt]
     rw[At hw,ih]
     split
     ·simp only[pt];rw[At hw]
     ·rfl
    ·rw[hne m hmi]
     split
     ·simp only[pt];split
      ·rfl
      ·exact ih
     ·exact ih
  exact this n (AT _)
end
section
variable {P:Program}{tb:Tb}{nt:Nat}{bx cns:zN}{σ:PS}{K:PS->Prop}
theorem fG:∀{fps:List (zN×zN)}{os:List LO}{σ:PS},okF cns fps os=true->VI P tb cns fps os σ K->
  ∃s:Nat->PS,s 0=σ∧K (s os.length)∧(∀i,i<=os.length->bxS cns (s i)=true)∧∀i o,os[i]? =some o->fpS cns (fps.getD i ([],[])).1 (fps.getD i ([],[])).2 o (s i)∧F0 P tb cns o (s i) (λσ'=>σ'=s (i+1))
 |fps,[],σ,_,h=>by
  have h:bxS cns σ=true∧K σ:=by cases fps<;>exact h
  exact⟨λ_=>σ,rfl,h.2,λ_ _=>h.1,λi o hi=>by simp at hi⟩
 |[],_::_,_,_,h=>h.elim
 |(R,W)::fps,o::os,σ,hk,h=>by
  simp only[okF,Aa]at hk
  obtain⟨hf,hf',h⟩:=h
  have hbx:bxS cns σ=true:=by unfold adB at hf';rw[Aa]at hf';exact hf'.2
  replace hf:fpS cns R W o σ:=⟨hk.1,hf,hf'⟩
  obtain⟨σ1,h1,h2⟩:=WO h
  obtain⟨s,s0,sk,sb,hs⟩:=fG hk.2 h2
  refine⟨λi=>match i with|0=>σ|i+1=>s i,rfl,by simpa using sk,λi hi=>?_,λi o' hi=>?_⟩
  ·cases i with
   |zero=>exact hbx
   |succ i=>exact sb i (by simpa using hi)
  cases i with
  |zero=>
   simp only[B6,Ap]at hi
   subst hi
   refine⟨by simpa using hf,?_⟩
   show F0 P tb cns o σ (λσ'=>σ'=s 0)
   rw[s0];exact h1
  |succ i=>simpa using hs i o' (by simpa using hi)
theorem gz{s:Nat->PS}{W:Nat->zN}{X:Nat->Bool}:∀{n:Nat},(∀m,m<=n->bxS cns (s m)=true)->bxS cns (mix s W X n)=true:=by
 intro n h
 refine Ah.2 λq hq=>?_
 induction n with
 |zero=>exact Ah.1 (h 0 (AT _)) q hq
 |succ n ih=>
  have ih:=ih (λm hm=>h m (by omega))
  simp only[mix]
  split
  ·unfold pt
   split
   ·exact Ah.1 (h (n+1) (AT _)) q hq
   ·exact ih
  ·exact ih
theorem jE{base:Bs}{St0:Nat->Nat->Prop}{w0 w:World}{a:Act}{k:Nat}(hr:Rel P nt bx base St0 w0 σ a w):Rel P nt bx base St0 w0 σ a {w with drawn:=k}:=by
 obtain⟨St,B,h,hb,hst,hz⟩:=hr
 exact⟨St,B,h.world (λ_ _ h=>h) (λ_ _ _=>rfl) (AT _) (λ_ _ _=>⟨rfl,λ_=>Dx⟩) h.st,⟨hb.os,hb.tape,hb.output,hb.size,hb.block⟩,hst,hz⟩
theorem Tw{ops:Array Oper}{j:Nat}{o:Oper}(ho:ops[j]? =some o):(ops.toList.map SW).getD j []=SW o:=by
 rw[Af,AW,Array.getElem?_toList,ho];rfl
theorem Xa{a b:zN}{q:Nat}(h1:a.contains q=true)(h2:b.contains q=true):meets a b=true:=by
 unfold meets
 rw[Bi]
 exact⟨q,by simpa using h1,h2⟩
theorem bD{l:Array Bool}{i j:Nat}(hi:i < l.size):(l.setIfInBounds i true).getD j false=(l.getD j false || j==i):=by
 by_cases h:i=j
 ·subst h;simp[hi]
 ·rw[getD_set_ne false h]
  have:(j==i)=false:=by simp;omega
  rw[this,Mr]
theorem bd{K':PS->Prop}(hk:∀σ,K σ->K' σ):∀{fps:List (zN×zN)}{os:List LO}{σ:PS},VI P tb cns fps os σ K->VI P tb cns fps os σ K'
 |fps,[],σ,h=>by
  have h:bxS cns σ=true∧K σ:=by cases fps<;>exact h
  cases fps<;>exact⟨h.1,hk _ h.2⟩
 |[],_::_,_,h=>h.elim
 |(R,W)::fps,o::os,σ,⟨h1,h2,h3⟩=>⟨h1,h2,kG (λσ' h=>bd hk h) h3⟩
theorem mg:∀{fps:List (zN×zN)}{os:List LO}{i:Nat}{o:LO},okF cns fps os=true->os[i]? =some o->fpB cns (fps.getD i ([],[])).1 (fps.getD i ([],[])).2 o=true
 |_,[],i,_,_,h=>by simp at h
 |[],_::_,_,_,h,_=>by cases h
 |(R,W)::fps,o::os,i,o',h,hi=>by
  simp only[okF,Aa]at h
  cases i with
  |zero=>simp only[B6,Ap]at hi;subst hi;exact h.1
  |succ i=>
   have:=mg (fps:=fps) (os:=os) (i:=i) (o:=o') h.2 (by simpa using hi)
   simpa using this
theorem b7:∀{fps:List (zN×zN)}{os:List LO}(p:Nat),okF cns fps os=true->okF cns (fps.take p) (os.take p)=true
 |_,[],p,_=>by rw[List.take_nil];cases(List.take p _)<;>rfl
 |[],_::_,_,h=>by cases h
 |(R,W)::fps,o::os,0,_=>rfl
 |(R,W)::fps,o::os,p+1,h=>by
  simp only[okF,Aa]at h
  rw[C1,C1,okF,h.1,b7 p h.2];rfl
theorem fH:∀{os:List LO}{σ:PS},UQ P tb cns os σ K->∃s:Nat->PS,s 0=σ∧K (s os.length)∧∀i o,os[i]? =some o->F0 P tb cns o (s i) (λσ'=>σ'=s (i+1))
 |[],σ,h=>⟨λ_=>σ,rfl,h,λi o hi=>by simp at hi⟩
 |o::os,σ,h=>by
  obtain⟨σ1,h1,h2⟩:=WO (show F0 P tb cns o σ (λσ'=>UQ P tb cns os σ' K)from h)
  obtain⟨s,s0,sk,hs⟩:=fH h2
  refine⟨λi=>match i with|0=>σ|i+1=>s i,rfl,by simpa using sk,λi o' hi=>?_⟩
  cases i with
  |zero=>
   simp only[B6,Ap]at hi
   subst hi
   show F0 P tb cns o σ (λσ'=>σ'=s 0)
   rw[s0];exact h1
  |succ i=>simpa using hs i o' (by simpa using hi)
theorem nH(htb:IG P tb){ops:Array Oper}{s:Nat->PS}{p:Nat}(hok:ops.toList.all (R3 nt bx)=true)(hA:(ops.toList.map (CG ops)).all (okA bx cns)=true)(hL:∀j,j < ops.size->∀k∈(ops.toList.map SW).getD j [],k < j)
  (hT:∀j,p<=j->j < ops.size->∀i,p<=i->i < j->((To [] (ops.toList.map SW)).getD j []).contains i=true) (hs:∀i o,p<=i->(ops.toList.map (CG ops))[i]? =some o->F0 P tb cns o (s i) (λσ'=>σ'=s (i+1)))
  {base:Bs}{St0:Nat->Nat->Prop}{w0:World}{Q:Exit->Act->World->Prop}(hQ:∀a w,Rel P nt bx base St0 w0 (s ops.size) a w->Q .normal a w):
  ∀(fuel i:Nat) (listed:Array Bool) (a:Act) (w:World),p<=i->i<=ops.size->listed.size=ops.size->(∀j,j < ops.size->listed.getD j false=decide (j < i))->((List.range ops.size).countP (λi=> !listed.getD i false))<=fuel->Rel P nt bx base St0 w0 (s i) a w->wpAny P .any ops Q fuel listed a w:=by
 have htf:∀{listed:Array Bool}{j:Nat},listed.size=ops.size->j < ops.size->listed.getD j true=listed.getD j false:=by
  intro listed j hsz hj
  simp only[C5]
  rw[Array.getElem?_eq_getElem (by omega)];rfl
 have hone:∀{listed:Array Bool}{i k:Nat},p<=i->listed.size=ops.size->(∀j,j < ops.size->listed.getD j false=decide (j < i))->k∈Region.ready .any ops listed->k=i∧i < ops.size:=by
  intro listed i k hpi hsz hpat hk
  rw[Jc]at hk
  obtain⟨h0,o,ho,hedge⟩:=hk
  have hlt:k < ops.size:=(GK.1 ho).1
  rw[htf hsz hlt,hpat k hlt]at h0
  have hki:i<=k:=by have:=EB h0;omega
  rcases A9 i k with hik|hik
  ·exfalso
   have hes:∀m∈(ops.toList.map SW).getD k [],m < i:=λm hm=>by
    have hmk:=hL k hlt m hm
    rw[Tw ho]at hm
    obtain⟨e,he,rfl⟩:=A3.1 hm
    rw[BE]at he
    have:=hedge e (by simpa using he.1) he.2
    rw[hpat _ (by omega)]at this
    exact Dj this
   have:=Za (X:=λm=>m < i) (es0:=ops.toList.map SW) (λm hm e he=>Nat.lt_trans (hL m (by omega) e he) hm) _ [] [] rfl rfl (λj _ m hm=>by simp at hm) k hes i (by simpa using hT k (by omega) hlt i hpi hik)
   omega
  ·exact⟨by omega,by omega⟩
 intro fuel
 induction fuel with
 |zero=>
  intro i listed a w hpi hi hsz hpat hcnt hr
  have hn:i=ops.size:=by
   rcases A9 i ops.size with h|h
   ·have h0:=List.countP_eq_zero.1 (Nat.le_zero.1 hcnt) i (Ao.2 h)
    rw[hpat i h]at h0
    simp at h0
   ·omega
  subst hn
  refine⟨?_,hQ a w hr⟩
  rw[List.eq_nil_iff_forall_not_mem]
  intro k hk
  have:=(hone hpi hsz hpat hk).2
  omega
 |succ fuel ih=>
  intro i listed a w hpi hi hsz hpat hcnt hr
  have hin:i < ops.size->i∈Region.ready .any ops listed:=λhlt=>by
   rw[Jc]
   refine⟨by rw[htf hsz hlt,hpat i hlt];simp,ops[i],by simp[hlt],λe he hb=>?_⟩
   have hm:e.on∈(ops.toList.map SW).getD i []:=by
    rw[Tw (o:=ops[i]) (by simp[hlt])]
    exact CE (BE.2 ⟨by simpa using he,hb⟩)
   have:=hL i hlt _ hm
   rw[hpat _ (by omega)]
   exact Ai this
  refine⟨λh0=>?_,λk hk=>?_⟩
  ·have hn:i=ops.size:=by
    rcases A9 i ops.size with h|h
    ·have:=hin h;rw[h0]at this;simp at this
    ·omega
   rw[hn]at hr
   exact hQ a w hr
  ·obtain⟨rfl,hlt⟩:=hone hpi hsz hpat hk
   have h1:ops[k]? =some ops[k]:=by simp[hlt]
   have h2:(ops.toList.map (CG ops))[k]? =some (CG ops ops[k]):=by simp[hlt]
   have h3:R3 nt bx ops[k]=true:=by rw[Ah]at hok;exact hok _ (by simp)
   have hAo:okA bx cns (CG ops ops[k])=true:=Ah.1 hA _ (BU h2)
   have hst:=U3 (nt:=nt) (bx:=bx) htb h3 hAo (hs k _ hpi h2) base St0 w0 a w Q hr
   have hX':∀j,(listed.setIfInBounds k true).getD j false=(listed.getD j false || j==k):=λj=>bD (by omega)
   have hnext:∀a' w',(∃σ',σ'=s (k+1)∧Rel P nt bx base St0 w0 σ' a' w')->wpAny P .any ops Q fuel (listed.setIfInBounds k true) a' w':=by
    rintro a' w' ⟨σ',rfl,hr'⟩
    refine ih (k+1) _ a' w' (by omega) hlt (by simp[hsz]) (λj hj=>?_) ?_ hr'
    ·rw[hX',hpat j hj,B5]
     simp only[BP,AN,Bc]
     omega
    ·have:(List.range ops.size).countP (λj=> !(listed.setIfInBounds k true).getD j false) < (List.range ops.size).countP (λj=> !listed.getD j false):=by
      refine RO (λj hj=>?_) (x:=k) (Ao.2 hlt) (by rw[hpat k hlt];simp) (by rw[hX'];simp)
      rw[hX']at hj
      revert hj
      cases listed.getD j false<;>simp
     omega
   unfold wpOp
   rw[h1]
   simp only
   split
   ·rename_i hw;rw[Av hw]at hst;exact .inl (Oper.wp_mono hnext hst)
   ·rename_i hw;rw[At hw]at hst;exact hnext _ _ hst
theorem oO(htb:IG P tb){ops:Array Oper}{fps:List (zN×zN)}{s:Nat->PS}{p:Nat}(hp:p<=ops.size)(hok:ops.toList.all (R3 nt bx)=true)(hA:(ops.toList.map (CG ops)).all (okA bx cns)=true)(hD:okD fps (ops.toList.map SW) (ops.toList.map (CG ops))=true)
  (hF:okF cns fps (ops.toList.map (CG ops))=true) (hT:∀j,p<=j->j < ops.size->XZ (ops.toList.map (CG ops)) j=false∧∀i,i < j->((To [] (ops.toList.map SW)).getD j []).contains i=true∨(i < p∧XZ (ops.toList.map (CG ops)) i=true∧∀k∈(ops.toList.map SW).getD i [],((To [] (ops.toList.map SW)).getD j []).contains k=true))
  (hBx:∀i,i<=p->bxS cns (s i)=true)
  (hs:∀i o,i < p->(ops.toList.map (CG ops))[i]? =some o->fpS cns (fps.getD i ([],[])).1 (fps.getD i ([],[])).2 o (s i)∧F0 P tb cns o (s i) (λσ'=>σ'=s (i+1)))
  {base:Bs}{St0:Nat->Nat->Prop}{w0:World}{Q:Exit->Act->World->Prop}(hQ:∀(fuel:Nat) (listed:Array Bool) (a:Act) (w:World),listed.size=ops.size->(∀j,j < ops.size->listed.getD j false=decide (j < p))->((List.range ops.size).countP (λi=> !listed.getD i false))<=fuel->Rel P nt bx base St0 w0 (s p) a w->wpAny P .any ops Q fuel listed a w) (hP:∀c a w,¬Q (.panic c) a w):
  ∀(fuel:Nat) (listed:Array Bool) (a:Act) (w:World),listed.size=ops.size->((List.range ops.size).countP (λi=> !listed.getD i false))<=fuel->
   (∀k,listed.getD k false=true->∀m∈(ops.toList.map SW).getD k [],listed.getD m false=true)->
   (∀i k,i < k->k < ops.size->enf (ops.toList.map SW) (ops.toList.map (CG ops)) i k=true->listed.getD k false=true->listed.getD i false=true)->
   (∀j,p<=j->listed.getD j false=false)->Rel P nt bx base St0 w0 (mix s (λi=>(fps.getD i ([],[])).2) (λi=>listed.getD i false) p) a w->wpAny P .any ops Q fuel listed a w:=by
 have hD':=hD
 simp only[okD,Aa,Ah,Ao,Ak,BN,AN,BP,Ax]at hD'
 obtain⟨⟨hlen,hD'⟩,hX'⟩:=hD'
 have hless:∀j,j < ops.size->∀k∈(ops.toList.map SW).getD j [],k < j:=λj hj=>(hD' j hj).1
 have hcl:∀i j,i < j->j < ops.size->clash (fps.getD i ([],[])) (fps.getD j ([],[]))=true->((To [] (ops.toList.map SW)).getD j []).contains i=true∨enf (ops.toList.map SW) (ops.toList.map (CG ops)) i j=true:=by
  intro i j hij hj hc
  rcases(hD' j hj).2 i hij with(h|h)|h
  ·rw[h]at hc;cases hc
  ·exact .inl h
  ·exact .inr h
 have hop:∀i,i < ops.size->∃o,ops[i]? =some o∧(ops.toList.map (CG ops))[i]? =some (CG ops o)∧R3 nt bx o=true:=by
  intro i hi
  refine⟨ops[i],by simp[hi],by simp[hi],?_⟩
  rw[Ah]at hok
  exact hok _ (by simp)
 have hloc:∀m,m < p->∀q,((fps.getD m ([],[])).2).contains q=false->s (m+1) q=s m q:=by
  intro m hm q hq
  obtain⟨o,h1,h2,h3⟩:=hop m (by omega)
  obtain⟨hf,he⟩:=hs m _ hm h2
  obtain⟨σ1,-,σ',rfl,-,hl⟩:=WO (Zz (τ:=s m) (λ_ _=>rfl) (hBx m (by omega)) hf he)
  exact hl q hq
 have htf:∀{listed:Array Bool}{j:Nat},listed.size=ops.size->j < ops.size->listed.getD j true=listed.getD j false:=by
  intro listed j hsz hj
  simp only[C5]
  rw[Array.getElem?_eq_getElem (by omega)];rfl
 have hall:∀listed:Array Bool,listed.size=ops.size->Region.ready .any ops listed=[]->∀j,j < ops.size->listed.getD j false=true:=by
  intro listed hsz hr j
  induction j using Nat.strongRecOn with
  |_ j ihj=>
   intro hj
   cases hx:listed.getD j false
   ·exfalso
    obtain⟨o,h1,h2,h3⟩:=hop j hj
    have:j∈Region.ready .any ops listed:=by
     rw[Jc]
     refine⟨by rw[htf hsz hj];exact hx,o,h1,λe he hb=>?_⟩
     have hm:e.on∈(ops.toList.map SW).getD j []:=by
      rw[Tw h1]
      exact CE (BE.2 ⟨by simpa using he,hb⟩)
     have:=hless j hj _ hm
     exact ihj _ this (by omega)
    rw[hr]at this
    simp at this
   ·rfl
 have hend:∀listed:Array Bool,(∀j,j < p->listed.getD j false=true)->mix s (λi=>(fps.getD i ([],[])).2) (λi=>listed.getD i false) p=s p:=λlisted h=>by
  funext q
  exact l5 (n:=p) hloc (AT _) (λj hj _=>h j hj)
 have hsel:∀(j:Nat) (o:Oper) cs b,ops[j]? =some o->o.op≠.select cs b:=by
  intro j o cs b ho he
  have hB:=mg hF (i:=j) (o:=CG ops o) (by simp[ho])
  have e1:(CG ops o).op=.select cs b:=he
  simp[fpB,SX,fpX,spc,e1]at hB
 intro fuel
 induction fuel with
 |zero=>
  intro listed a w hsz hcnt hclo hcl2 hz hr
  have hl:∀j,j < ops.size->listed.getD j false=true:=by
   intro j hj
   have h0:=List.countP_eq_zero.1 (Nat.le_zero.1 hcnt) j (Ao.2 hj)
   simpa using h0
  rw[hend listed (λj hj=>hl j (by omega))]at hr
  refine hQ 0 listed a w hsz (λj hj=>?_) hcnt hr
  rw[hl j hj]
  rcases A9 j p with h|h
  ·exact(Ai h).symm
  ·have:=hz j h;rw[hl j hj]at this;cases this
 |succ fuel ih=>
  intro listed a w hsz hcnt hclo hcl2 hz hr
  by_cases hful:∀j,j < p->listed.getD j false=true
  ·rw[hend listed hful]at hr
   refine hQ (fuel+1) listed a w hsz (λj hj=>?_) hcnt hr
   rcases A9 j p with h|h
   ·rw[hful j h];exact(Ai h).symm
   ·rw[hz j h];exact(Ag (by omega)).symm
  have hanc:∀j,(∀k∈(ops.toList.map SW).getD j [],listed.getD k false=true)->∀m∈(To [] (ops.toList.map SW)).getD j [],listed.getD m false=true:=
   Za (X:=λk=>listed.getD k false=true) hclo _ [] [] rfl rfl (λj _ m hm=>by simp at hm)
  have hrdy:∀i,i∈Region.ready .any ops listed->(XZ (ops.toList.map (CG ops)) i=true∨∀k,XZ (ops.toList.map (CG ops)) k=true->k∉Region.ready .any ops listed)->i < p∧listed.getD i false=false∧∀k∈(ops.toList.map SW).getD i [],listed.getD k false=true:=by
   intro i hi hpr
   rw[Jc]at hi
   obtain⟨h0,o,ho,hedge⟩:=hi
   have hlt:i < ops.size:=(GK.1 ho).1
   rw[htf hsz hlt]at h0
   have hes:∀k∈(ops.toList.map SW).getD i [],listed.getD k false=true:=λk hk=>by
    rw[Tw ho]at hk
    obtain⟨e,he,rfl⟩:=A3.1 hk
    rw[BE]at he
    exact hedge e (by simpa using he.1) he.2
   refine⟨?_,h0,hes⟩
   rcases A9 i p with h|h
   ·exact h
   ·exfalso
    obtain⟨t1,t2⟩:=hT i h hlt
    rcases hpr with hpr|hpr
    ·rw[t1]at hpr;cases hpr
    ·refine hful λj hj=>?_
     rcases t2 j (by omega)with t3|⟨_,t3,t4⟩
     ·exact hanc i hes j (by simpa using t3)
     ·cases hx:listed.getD j false
      ·exfalso
       obtain⟨oj,hoj,_⟩:=hop j (by omega)
       refine hpr j t3 ?_
       rw[Jc]
       refine⟨by rw[htf hsz (by omega)];exact hx,oj,hoj,λe he hb=>?_⟩
       have hm:e.on∈(ops.toList.map SW).getD j []:=by
        rw[Tw hoj]
        exact CE (BE.2 ⟨by simpa using he,hb⟩)
       exact hanc i hes _ (by simpa using t4 _ hm)
      ·rfl
  have step:∀i,i∈Region.ready .any ops listed->(XZ (ops.toList.map (CG ops)) i=true∨∀k,XZ (ops.toList.map (CG ops)) k=true->k∉Region.ready .any ops listed)->(∀m,m < i->enf (ops.toList.map SW) (ops.toList.map (CG ops)) m i=true->listed.getD m false=true)->∀o,ops[i]? =some o->
    ET (fps.getD i ([],[])).1 (s i) (mix s (λi=>(fps.getD i ([],[])).2) (λi=>listed.getD i false) p)∧
    (if Region.wanted o (yielded ops a.tmps)then o.wp P a w (wpAny P .any ops Q fuel (listed.setIfInBounds i true)) Q else wpAny P .any ops Q fuel (listed.setIfInBounds i true) (a.put o.dst undef) w):=by
   intro i hi hpr henf o ho
   obtain⟨hlt,h0,hes⟩:=hrdy i hi hpr
   obtain⟨o',h1,h2,h3⟩:=hop i (by omega)
   rw[ho]at h1
   simp only[Ap]at h1
   subst h1
   obtain⟨hf,he⟩:=hs i _ hlt h2
   have hbef:∀m,m < i->clash (fps.getD m ([],[])) (fps.getD i ([],[]))=true->listed.getD m false=true:=λm hm hc=>by
    rcases hcl m i hm (by omega) hc with h|h
    ·exact hanc i hes m (by simpa using h)
    ·exact henf m hm h
   have haft:∀m,i < m->m < ops.size->clash (fps.getD i ([],[])) (fps.getD m ([],[]))=true->listed.getD m false=false:=by
    intro m hm hmn hc
    cases hx:listed.getD m false
    ·rfl
    ·rcases hcl i m hm hmn hc with h|h
     ·have:=hanc m (hclo m hx) i (by simpa using h)
      rw[h0]at this;cases this
     ·have:=hcl2 i m hm hmn h hx
      rw[h0]at this;cases this
   have hag:ET (fps.getD i ([],[])).1 (s i) (mix s (λi=>(fps.getD i ([],[])).2) (λi=>listed.getD i false) p):=by
    intro q hq
    rw[Xb (m:=i) (by omega) (λj h1 h2 hx=>?_)]
    ·exact l5 (n:=p) hloc (by omega) (λj hj hw=>hbef j hj (by simp only[clash,Xa hw hq,Hq]))
    ·rcases A9 i j with hij|hij
     ·cases hw:((fps.getD j ([],[])).2).contains q
      ·rfl
      ·rw[haft j hij (by omega) (by simp only[clash,Xa hq hw,Ng])]at hx;cases hx
     ·have:j=i:=by omega
      subst this
      rw[h0]at hx;cases hx
   refine⟨hag,?_⟩
   have hAo:okA bx cns (CG ops o)=true:=Ah.1 hA _ (BU h2)
   have hst:=U3 (nt:=nt) (bx:=bx) htb h3 hAo (Zz hag (gz hBx) hf he) base St0 w0 a w Q hr
   have hnext:∀a' w',(∃σ',Loc (fps.getD i ([],[])).2 (s i) (mix s (λi=>(fps.getD i ([],[])).2) (λi=>listed.getD i false) p) (λσ'=>σ'=s (i+1)) σ'∧Rel P nt bx base St0 w0 σ' a' w')->
     wpAny P .any ops Q fuel (listed.setIfInBounds i true) a' w':=by
    rintro a' w' ⟨σ',⟨σ1,rfl,rfl,-⟩,hr'⟩
    have hX':∀j,(listed.setIfInBounds i true).getD j false=(listed.getD j false || j==i):=λj=>bD (by omega)
    refine ih _ a' w' (by simp[hsz]) ?_ ?_ ?_ ?_ ?_
    ·have:(List.range ops.size).countP (λj=> !(listed.setIfInBounds i true).getD j false) < (List.range ops.size).countP (λj=> !listed.getD j false):=by
      refine RO (λj hj=>?_) (x:=i) (Ao.2 (by omega)) (by simp only[h0];rfl) (by rw[hX'];simp)
      rw[hX']at hj
      revert hj
      cases listed.getD j false<;>simp
     omega
    ·intro k hk m hm
     rw[hX']at hk
     rw[hX']
     rw[BP]at hk
     rcases hk with hk|hk
     ·rw[hclo k hk m hm];rfl
     ·have:k=i:=by simpa using hk
      subst this
      rw[hes m hm];rfl
    ·intro m k hmk hk hen hx
     rw[hX']at hx⊢
     rw[BP]at hx
     rcases hx with hx|hx
     ·rw[hcl2 m k hmk hk hen hx];rfl
     ·have:k=i:=by simpa using hx
      subst this
      rw[henf m hmk hen];rfl
    ·intro j hj
     rw[hX',hz j hj]
     have:(j==i)=false:=by simp;omega
     rw[this];rfl
    ·rw[pQ (X:=λj=>listed.getD j false) hlt (λj q h1 h2 hw hwj=>haft j h1 (by omega) (by simp only[clash,Xa hw hwj,Ng,Hq])) _ hX']
     exact hr'
   split
   ·rename_i hw
    rw[Av hw]at hst
    exact Oper.wp_mono hnext hst
   ·rename_i hw
    rw[At hw]at hst
    exact hnext _ _ hst
  by_cases hex:∃i,XZ (ops.toList.map (CG ops)) i=true∧i∈Region.ready .any ops listed
  ·
   obtain⟨i,⟨hxi,hi⟩,hleast⟩:∃i,(XZ (ops.toList.map (CG ops)) i=true∧i∈Region.ready .any ops listed)∧∀j,j < i->¬(XZ (ops.toList.map (CG ops)) j=true∧j∈Region.ready .any ops listed):=by
    obtain⟨i,hi⟩:=hex
    induction i using Nat.strongRecOn with
    |_ i ihi=>
     by_cases h:∃j,j < i∧(XZ (ops.toList.map (CG ops)) j=true∧j∈Region.ready .any ops listed)
     ·obtain⟨j,hj,hj2⟩:=h
      exact ihi j hj hj2
     ·exact⟨i,hi,λj hj hj2=>h ⟨j,hj,hj2⟩⟩
   obtain⟨hlt,h0,hes⟩:=hrdy i hi (.inl hxi)
   obtain⟨o,ho,h2,h3⟩:=hop i (by omega)
   have henf:∀m,m < i->enf (ops.toList.map SW) (ops.toList.map (CG ops)) m i=true->listed.getD m false=true:=by
    intro m hm hen
    simp only[enf,Aa,Bc]at hen
    cases hx:listed.getD m false
    ·exfalso
     refine hleast m hm ⟨hen.1.1,?_⟩
     obtain⟨om,hom,_⟩:=hop m (by omega)
     rw[Jc]
     refine⟨by rw[htf hsz (by omega)];exact hx,om,hom,λe he hb=>?_⟩
     have hm2:e.on∈(ops.toList.map SW).getD m []:=by
      rw[Tw hom]
      exact CE (BE.2 ⟨by simpa using he,hb⟩)
     rw[hen.2]at hm2
     exact hes _ hm2
    ·rfl
   obtain⟨hag,hst⟩:=step i hi (.inl hxi) henf o ho
   obtain⟨hf,he⟩:=hs i _ hlt h2
   have hX:=hxi
   simp only[XZ,h2]at hX
   obtain⟨d,hg',hd',hopX⟩:=exX hX
   ·have hg2:o.guard=none:=by
     have:(CG ops o).g=none:=hg'
     simpa[CG]using this
    have hd2:o.dst=some d:=hd'
    have hw:Region.wanted o (yielded ops a.tmps)=true:=by simp[Region.wanted,hg2]
    rw[Av hw]at hst
    have hval:∃u,∀w',(execOp a.eval o).run P w'=.ok (.value u) w':=by
     rcases hopX with⟨sl,ix,hop'⟩|⟨sl,hop'⟩
     ·have hop2:o.op=.extract (.tmp sl) ix:=hop'
      have hev:=Zz hag (gz hBx) hf he
      simp only[F0,hop',hd']at hev
      have hev:=hev.2
      unfold be at hev
      split at hev
      ·rename_i cs hcs
       split at hev
       ·rename_i c hc
        obtain⟨St,B,hS,_⟩:=hr
        have hsl:=hS.slot sl
        rw[hcs]at hsl
        obtain⟨us,e1,h1⟩:=hsl
        obtain⟨u,b1,b2,h2',_⟩:=Js.split cs ix h1 hc hev.1 (hS.nodup sl)
        refine⟨u,λw'=>?_⟩
        have e2:a.eval (.tmp sl)=.tuple us.toArray:=e1
        simp[execOp,hop2,e2,Instr.extract,h2']
       ·exact hev.elim
      ·exact hev.elim
     ·have hop2:o.op=.move (.tmp sl):=hop'
      exact⟨a.eval (.tmp sl),λw'=>by simp[execOp,hop2]⟩
    obtain⟨u,hu⟩:=hval
    have hfin:wpAny P .any ops Q fuel (listed.setIfInBounds i true) (a.put o.dst u) w:=by
     have:=hst
     unfold Oper.wp at this
     rw[hu w]at this
     exact this
    refine wpAny_first ho hsel (λc a w h=>absurd h (hP _ _ _)) fuel listed a w ?_ hi (.inl ⟨hw,hu⟩) hfin
    intro j oj hoj hji hun hno
    have hjn:j < ops.size:=(GK.1 hoj).1
    rw[htf hsz hjn]at hun
    have hxx:=(hX' i (by omega)).resolve_left (by rw[hxi];simp) j hjn
    have hlj:(ops.toList.map (CG ops))[j]? =some (CG ops oj):=by simp[hoj]
    rcases hxx with((h|h)|h)|h
    ·exact absurd (by simpa using h) hji
    ·exfalso
     have hm2:i∈(ops.toList.map SW).getD j []:=by simpa using h
     rw[Tw hoj]at hm2
     obtain⟨e,he,hei⟩:=A3.1 hm2
     rw[BE]at he
     exact hno e (by simpa using he.1) he.2 hei
    ·exfalso
     have:=hanc i hes j (by simpa using h)
     rw[hun]at this;cases this
    ·simp only[apF,h2,hlj,MJ]at h
     have hdl:(CG ops o).dst=some d:=hd2
     rw[hdl]at h
     simp only[Aa,Ax,C9,ne_eq]at h
     obtain⟨⟨q1,q2⟩,q3⟩:=h
     have hlook:∀(k:Nat) (ok:Oper),ops[k]? =some ok->(ops.toList.map (CG ops))[k]? =some (CG ops ok)->∀t∈ok.looksAt ops,(lkL (ops.toList.map (CG ops)) k).contains t=true:=by
      intro k ok hok' hlk t ht
      unfold lkL
      rw[hlk]
      refine AS.2 (Al.2 ?_)
      unfold Oper.looksAt at ht
      rcases Al.1 ht with ht|ht
      ·left
       obtain⟨x,hx1,hx2⟩:=List.mem_filterMap.1 ht
       cases x<;>simp only[Ap,reduceCtorEq]at hx2
       subst hx2
       unfold QB
       exact Cj.2 ⟨_,hx1,by simp[HU]⟩
      ·right
       cases hgk:ok.guard with
       |none=>rw[hgk]at ht;simp at ht
       |some p=>
        rw[hgk]at ht
        simp only[Option.mem_toList]at ht
        have:(CG ops ok).g=some (gD ops p.1,p.2):=by simp[CG,hgk]
        unfold gT
        rw[this]
        have e3:gD ops p.1=some t:=by simpa[gD]using ht
        rw[e3]
        simp
     simp only[Oper.apart,hd2]
     have r1:d∉oj.looksAt ops:=λhm=>by rw[hlook j oj hoj hlj d hm]at q1;cases q1
     have r2:oj.dst≠some d:=q2
     cases hdj:oj.dst with
     |none=>simp[r1]
     |some d'=>
      have hdl':(CG ops oj).dst=some d':=hdj
      rw[hdl']at q3
      have r3:d'∉o.looksAt ops:=λhm=>by simp only[hlook i o ho h2 d' hm]at q3;cases q3
      have r4:d'≠d:=λe=>r2 (by rw[hdj,e])
      simp[r1,r3,r4]
  ·have hnx:∀i,i∈Region.ready .any ops listed->XZ (ops.toList.map (CG ops)) i=false:=λi hi=>by
    cases hx:XZ (ops.toList.map (CG ops)) i
    ·rfl
    ·exact absurd ⟨i,hx,hi⟩ hex
   refine⟨λh0=>absurd (λj hj=>hall listed hsz h0 j (by omega)) hful,λi hi=>?_⟩
   have hpr:∀k,XZ (ops.toList.map (CG ops)) k=true->k∉Region.ready .any ops listed:=λk h1 h2=>hex ⟨k,h1,h2⟩
   obtain⟨hlt,_⟩:=hrdy i hi (.inr hpr)
   obtain⟨o,ho,_⟩:=hop i (by omega)
   have:=(step i hi (.inr hpr) (λm _ hen=>by simp only[enf,Aa]at hen;rw[hnx i hi]at hen;cases hen.1.2) o ho).2
   unfold wpOp
   rw[ho]
   simp only
   split
   ·rename_i hw;rw[Av hw]at this;exact .inl this
   ·rename_i hw;rw[At hw]at this;exact this
def okT(p:Nat)(es:List zN)(ops:List LO):Bool:=decide (p<=es.length)&&(List.range es.length).all λj=>decide (j < p) || (!XZ ops j&&(List.range j).all λi=>((To [] es).getD j []).contains i || (decide (i < p)&&(XZ ops i&&(es.getD i []).all λk=>((To [] es).getD j []).contains k)))
theorem dZ(htb:IG P tb)(hm:P.follows .mixedOrders=true)(p:Nat){fps:List (zN×zN)}{es:List zN}{ops:List LO}{Q:Exit->PS->Prop}(hD:(okD fps es ops&&(okF cns fps ops&&okT p es ops))=true)
  (h:VI P tb cns (fps.take p) (ops.take p) σ (λσ'=>∀base St0 w0 a w,Rel P nt bx base St0 w0 σ' a w->∃σ2,UQ P tb cns (ops.drop p) σ2 (Q .normal)∧Rel P nt bx base St0 w0 σ2 a w)):LS P nt bx (.drw cns fps es ops) σ Q:=by
 intro c hc hok hL
 cases c<;>first|cases hc|skip
 rename_i id ops' d
 simp only[IE,UP]at hc
 split at hc
 ·rename_i hd
  simp only[LC.drw.injEq,true_and]at hc
  subst hd
  obtain⟨rfl,rfl⟩:=hc
  intro base St0 w0 a w hr
  rw[Aa,Aa]at hD
  obtain⟨hD,hF,hT⟩:=hD
  simp only[okT,Aa,AN,Ak,BN,Ah,Ao,BP,Ax]at hT
  obtain⟨hp,hT⟩:=hT
  have hT':∀j,p<=j->j < ops'.size->XZ (ops'.toList.map (CG ops')) j=false∧∀i,i < j->((To [] (ops'.toList.map SW)).getD j []).contains i=true∨(i < p∧XZ (ops'.toList.map (CG ops')) i=true∧∀k∈(ops'.toList.map SW).getD i [],((To [] (ops'.toList.map SW)).getD j []).contains k=true):=λj h1 h2=>(hT j h2).resolve_left (by omega)
  have hT2:∀j,p<=j->j < ops'.size->∀i,p<=i->i < j->((To [] (ops'.toList.map SW)).getD j []).contains i=true:=λj h1 h2 i h3 h4=>((hT' j h1 h2).2 i h4).resolve_right (λh=>by omega)
  have hL':∀j,j < ops'.size->∀k∈(ops'.toList.map SW).getD j [],k < j:=by
   have hD':=hD
   simp only[okD,Aa,Ah,Ao,Ak,BN,AN]at hD'
   exactλj hj=>(hD'.1.2 j hj).1
  obtain⟨s1,s0,sk,sb,hs⟩:=fG (b7 p hF) h
  have hlen:((ops'.toList.map (CG ops')).take p).length=p:=by simp;omega
  rw[hlen]at sk sb
  have hlen2:((ops'.toList.map (CG ops')).drop p).length=ops'.size - p:=by simp
  have hsH:∀i o,i < p->(ops'.toList.map (CG ops'))[i]? =some o->fpS cns (fps.getD i ([],[])).1 (fps.getD i ([],[])).2 o (s1 i)∧F0 P tb cns o (s1 i) (λσ'=>σ'=s1 (i+1)):=λi o hi ho=>by
   have:=hs i o (by rw[FA hi];exact ho)
   have e3:(fps.take p).getD i ([],[])=fps.getD i ([],[]):=by simp[Af,FA hi]
   rw[e3]at this
   exact this
  refine Fy (Q:=λe a' w'=>e=.normal∧∃σ',Q .normal σ'∧Rel P nt bx base St0 w0 σ' a' w') ?_ (λe a' w' h=>by obtain⟨rfl,h⟩:=h;exact h)
  refine wp_region_any hm (oO htb hp hok hL hD hF hT' sb hsH (λfuel listed a w h1 h2 h3 h4=>by
   obtain⟨σ2,hev,hr2⟩:=sk _ _ _ _ _ h4
   obtain⟨s2,t0,tk,ht⟩:=fH hev
   rw[hlen2]at tk
   refine nH htb (s:=λi=>s2 (i - p)) hok hL hL' hT2 (λi o hi ho=>?_) (λa' w' hr'=>⟨rfl,_,tk,hr'⟩) fuel p listed a w (AT _) hp h1 h2 h3 (by simp only[La];rw[t0];exact hr2)
   have:=ht (i - p) o (by rw[DF,show p+(i - p)=i by omega];exact ho)
   show F0 P tb cns o (s2 (i - p)) (λσ'=>σ'=s2 (i+1 - p))
   rw[show i+1 - p=i - p+1 by omega]
   exact this) (λc a w h=>by cases h.1) _ _ a _ (by simp) ?_ (λk hk=>?_) (λi k hik hk hen hx=>?_) (λj _=>?_) ?_)
  ·have:=List.countP_le_length (p:=λi=> !(Array.replicate ops'.size false).getD i false) (l:=List.range ops'.size)
   simpa using this
  ·exfalso
   simp[DW]at hk
   split at hk<;>simp at hk
  ·exfalso
   simp[DW]at hx
   split at hx<;>simp at hx
  ·simp[DW]
   split<;>rfl
  ·have:mix s1 (λi=>(fps.getD i ([],[])).2) (λi=>(Array.replicate ops'.size false).getD i false) p=s1 0:=by
    funext q
    refine Xb (m:=0) (by omega) (λj _ hj hx=>?_)
    exfalso
    simp[DW]at hx
    split at hx<;>simp at hx
   rw[this,s0]
   exact jE hr
 ·cases hc
theorem lT(htb:IG P tb)(hm:P.follows .mixedOrders=true){fps:List (zN×zN)}{es:List zN}{ops:List LO}{Q:Exit->PS->Prop}(hD:(okD fps es ops&&okF cns fps ops)=true)(h:VI P tb cns fps ops σ (Q .normal)):LS P nt bx (.drw cns fps es ops) σ Q:=by
 rw[Aa]at hD
 have hl:fps.length=es.length:=by
  have:=hD.1
  simp only[okD,Aa,Bc]at this
  exact this.1.1
 by_cases he:ops.length<=es.length
 ·refine dZ htb hm es.length (by
   rw[Aa,Aa]
   refine⟨hD.1,hD.2,?_⟩
   simp only[okT,Aa,AN,Ah,Ao,BP]
   exact⟨AT _,λj hj=>.inl hj⟩) ?_
  rw[DL (by omega),DL he,BY he]
  exact bd (λσ' hq base St0 w0 a w hr=>⟨σ',hq,hr⟩) h
 ·exfalso
  have:∀{fps:List (zN×zN)}{os:List LO},okF cns fps os=true->os.length<=fps.length:=by
   intro fps os
   induction os generalizing fps with
   |nil=>intro _;simp
   |cons o os ih=>
    intro h
    cases fps with
    |nil=>cases h
    |cons f fps=>simp only[okF,Aa]at h;have:=ih h.2;simp only[AQ];omega
  have:=this hD.2
  omega
end
section
variable {P:Program}{nt:Nat}{bx:zN}{σ:PS}{Q:Exit->PS->Prop}{tb:Tb}
end
end
section
section
variable {P:Program}
def Zc(P:Program)(c:V)(u:Value):Prop:=c.Ds=true∧∀w St,Ow P w St c u []
theorem NO(k:IntKind):Zc P (.int k 0) (.int k 0):=⟨rfl,λ_ _=>⟨rfl,rfl⟩⟩
theorem iP:Zc P (.bool false) (.bool false):=⟨rfl,λ_ _=>⟨rfl,rfl⟩⟩
theorem VF:Zc P (.str []) (.string ⟨#[]⟩):=⟨rfl,λ_ _=>⟨rfl,rfl,CB _⟩⟩
theorem MQ(e:TypeId):Zc P (.own e 0 []) (.slice none 0 0):=⟨rfl,λ_ _=>d7 e⟩
theorem Aag:Zc P (.tok .nilFunc) .nilFunc:=⟨rfl,λ_ _=>⟨rfl,rfl,rfl⟩⟩
theorem HW:ZL P [] []:=λ_ _=>⟨rfl,rfl⟩
theorem Dw{c:V}{cs:List V}{u:Value}{us:List Value}(h:Zc P c u)(hs:ZL P cs us):ZL P (c::cs) (u::us):=λw St=>⟨u,us,[],[],rfl,rfl,h.1,h.2 w St,hs w St⟩
theorem QK{t:TypeId}(k:IntKind)(hi:(P.info? t).map (λi=>(i.size,i.zero))=some (1,some (.int k 0)))(hu:P.underlying t=some (.int k)):M1 P t (.sc (.int k 0)):=by
 obtain⟨i,h1,h2⟩:=BI.1 hi
 simp only[B3]at h2
 exact⟨i,_,_,h1,h2.1,h2.2,Dw (NO k) HW,hu,rfl⟩
theorem jT{t:TypeId}(hi:(P.info? t).map (λi=>(i.size,i.zero))=some (1,some (.bool false)))(hu:P.underlying t=some .bool):M1 P t (.sc (.bool false)):=by
 obtain⟨i,h1,h2⟩:=BI.1 hi
 simp only[B3]at h2
 exact⟨i,_,_,h1,h2.1,h2.2,Dw iP HW,hu,rfl⟩
def rT:Option TypeDesc->Bool
 |some (.func _ _ _)=>true
 |_=>false
theorem sZ{t:TypeId}(hi:(match(P.info? t).map (λi=>(i.size,i.zero))with|some (1,some .nilFunc)=>true|_=>false)=true)(hu:rT (P.underlying t)=true):M1 P t (.sc (.tok .nilFunc)):=by
 split at hi
 ·rename_i hi'
  obtain⟨i,h1,h2⟩:=BI.1 hi'
  simp only[B3]at h2
  unfold rT at hu
  split at hu
  ·rename_i ps rs v hd
   exact⟨i,_,_,h1,h2.1,h2.2,Dw Aag HW,hd,ps,rs,v,rfl⟩
  ·cases hu
 ·cases hi
theorem n6{t:TypeId}(hi:(P.info? t).map (λi=>(i.size,i.zero))=some (1,some (.string ⟨#[]⟩)))(hu:P.underlying t=some .string):M1 P t (.sc (.str [])):=by
 obtain⟨i,h1,h2⟩:=BI.1 hi
 simp only[B3]at h2
 exact⟨i,_,_,h1,h2.1,h2.2,Dw VF HW,hu,rfl⟩
theorem QM{t:TypeId}{n:Nat}{z:List V}{us:List Value}{fs:List (Nat×Nat)}{gs:Array Field}(hi:(P.info? t).map (λi=>(i.size,i.zero))=some (n,some (.agg us.toArray)))(hz:ZL P z us)(hu:P.underlying t=some (.struct gs))
  (hf:gs.toList.map (λf=>(f.offset,QS P f.type))=fs) (hp:fs.all (λf=>decide (0 < f.2))=true) (h2:(!(TyD.st n z fs).two || (!P.stoodInHeld t&& !P.eqGuardType P.depth t&&gs.toList.all λf=>f.name != "_" &&(match P.underlying f.type with|some (.int _)=>true|_=>false)))=true):M1 P t (.st n z fs):=by
 obtain⟨i,h1,h3⟩:=BI.1 hi
 simp only[B3]at h3
 refine⟨i,_,gs,h1,h3.1,h3.2,by simpa using hz,hu,hf,λf hf=>by have:=Ah.1 hp f hf;simpa using this,λh=>?_⟩
 rw[h,An,BZ,Aa,Aa,Ax,Ax]at h2
 refine⟨h2.1.1,h2.1.2,λf hf=>?_⟩
 have:=Ah.1 h2.2 f hf
 simp only[Aa,C9,ne_eq]at this
 refine⟨this.1,?_⟩
 have h4:=this.2
 split at h4
 ·exact⟨_,by assumption⟩
 ·cases h4
theorem QL{t e:TypeId}{es eb:Nat}{ez:List V}{zv:Value}(hi:(P.info? t).map (λi=>(i.size,i.zero))=some (1,some (.slice none 0 0)))(hu:P.underlying t=some (.slice e))
  (hj:(P.info? e).map (λi=>(i.size,i.zero,i.bytes))=some (es,some zv,eb)) (hz:ZL P ez zv.cells.toList) (hl:ez.length=es) (h0:0 < es) (h1:0 < eb) (h2:eb<=128):M1 P t (.sl e es eb ez):=by
 obtain⟨i,h3,h4⟩:=BI.1 hi
 obtain⟨j,h5,h6⟩:=BI.1 hj
 simp only[B3]at h4 h6
 exact⟨i,j,zv,h3,h4.1,h4.2,hu,h5,h6.2.1,h6.1,h6.2.2,hz,hl,h0,h1,h2⟩
end
theorem rp(K:PS->Prop)(Q:Exit->PS->Prop)(σ:PS):Sg K Q .normal σ=K σ:=rfl
theorem ro(K:PS->Prop)(Q:Exit->PS->Prop)(σ:PS)(i:Nat):Sg K Q (.exit i) σ=Q (.exit i) σ:=rfl
theorem rq(K:PS->Prop)(Q:Exit->PS->Prop)(σ:PS):Sg K Q .ret σ=Q .ret σ:=rfl
theorem j7(i:Nat)(Q:Exit->PS->Prop)(σ:PS):Tr i Q .normal σ=Q .normal σ:=rfl
theorem j6(i j:Nat)(Q:Exit->PS->Prop)(σ:PS):Tr i Q (.exit j) σ=if j=i then Q .normal σ else Q (.exit j) σ:=rfl
theorem j8(i:Nat)(Q:Exit->PS->Prop)(σ:PS):Tr i Q .ret σ=Q .ret σ:=rfl
theorem vQ{α:Type}(f:Nat->α)(d:Nat)(x:α)(s:Nat):upd f d x s=if s=d then x else f s:=rfl
theorem pn(c:V)(cs:List V):Fc (c::cs) 0=c:=rfl
theorem px(c:V)(cs:List V)(n:Nat):Fc (c::cs) (n+1)=Fc cs n:=rfl
theorem pu(n:Nat):Fc [] n=.tup []:=rfl
theorem po(c d:V)(cs:List V):Fc (c::d::cs) 1=d:=rfl
theorem pq(c d e:V)(cs:List V):Fc (c::d::e::cs) 2=e:=rfl
theorem pr(c d e f:V)(cs:List V):Fc (c::d::e::f::cs) 3=f:=rfl
theorem xm(c:Bool):Wd true (.bool c)=c:=by cases c<;>rfl
theorem xl(c:Bool):Wd false (.bool c)= !c:=by cases c<;>rfl
theorem xo(b:Bool)(cs:List V):Wd b (.tup cs)=false:=rfl
def gIf(c:Bool)(p q:Prop)(_:Tag (p∧q)):Prop:=(c=true->p)∧(c=false->q)
theorem wV(p q:Prop)(t:Tag (p∧q)):gIf true p q t=p:=propext ⟨λh=>h.1 rfl,λh=>⟨λ_=>h,λe=>by cases e⟩⟩
theorem wU(p q:Prop)(t:Tag (p∧q)):gIf false p q t=q:=propext ⟨λh=>h.2 rfl,λh=>⟨(λe=>by cases e),λ_=>h⟩⟩
theorem mG(tb:Tb)(o:LO)(σ:PS)(K:PS->Prop):Jv tb o σ K=(match o.dst with
 |none=>False
 |some d=>match o.g with
  |none=>pc tb σ o.op∧K (upd σ d (pv tb σ o.op))
  |some (none,_)=>False
  |some (some q,b)=>known (σ q)=true∧gIf (Wd b (σ q)) (pc tb σ o.op∧K (upd σ d (pv tb σ o.op))) (K (upd σ d (.tup []))) ⟨0⟩):=rfl
theorem kg(P:Program)(o:LO)(f:FuncId)(args:List Operand)(σ:PS)(K:PS->Prop):O5 P o f args σ K=(match o.g with
 |none=>args.all (λx=>(Co σ x).isArg)=true∧∃r,aD P σ f args r∧Y5 (K (QC σ o.dst r)) ⟨0⟩
 |some (q,b)=>match q,o.dst with
  |some q,some d=>known (σ q)=true∧gIf (Wd b (σ q)) (args.all (λx=>(Co σ x).isArg)=true∧∃r,aD P σ f args r∧Y5 (K (upd σ d r)) ⟨0⟩) (K (upd σ d (.tup []))) ⟨0⟩
  |_,_=>False):=rfl
theorem vU(ez:List V)(es:Nat):PM ez es 0=[]:=by simp[PM]
theorem nZ{ez:List V}{es n:Nat}(h:ez.length=es):PM ez es (n+1)=ez++PM ez es n:=by
 unfold PM
 rw[C4,Dn,Hw,List.range_add,B7,C0]
 congr 1
 ·apply CD
  ·simp[h]
  ·intro i h1 h2
   simp only[Ak,BV]at h1
   simp[Nat.mod_eq_of_lt h1,h2]
 ·apply Ca
  intro i _
  simp
theorem pH{n:Nat}(h:n < 1000):(n<=lim)=True:=eq_true (by unfold lim;omega)
theorem tC(l:List V):(∃cs,some l=some cs)=True:=eq_true ⟨l,rfl⟩
theorem uT(k:IntKind)(n:Int):Do (.int k n)=true:=rfl
theorem pT(b:Bool):Do (.bool b)=true:=rfl
theorem uX(s:zU):Do (.str s)=true:=rfl
theorem uV(e:TypeId)(n:Nat)(cs:List V):Do (.own e n cs)=true:=rfl
theorem uS(n:Nat)(cs:List V):Do (.dat n cs)=true:=rfl
theorem uQ(n:Nat)(cs:List V):Do (.arg n cs)=true:=rfl
theorem uW(u:Value)(n:Nat)(cs:List V):Do (.pin u n cs)=true:=rfl
theorem zp(us:List Value)(cs:List V):Do (.gh us cs)=true:=rfl
theorem uP(cs:List V):Do (.agg cs)=true:=rfl
theorem uY(cs:List V):Do (.tup cs)=true:=rfl
theorem ma:Do (.undef)=true:=rfl
theorem pV(s:Nat):Do (.same s)=true:=rfl
theorem pU(s o:Nat):Do (.cref s o)=true:=rfl
theorem uO(cs:List V)(o:Nat):Do (.adr cs o)=true:=rfl
theorem uR(cs:List V):Do (.box cs)=false:=rfl
theorem uZ(e:TypeId)(n:Nat)(cs:List V):Do (.uni e n cs)=false:=rfl
attribute [go_sem] uT pT uX uV uS uQ uW zp uP uY ma pV pU uO uR uZ
attribute [go_sem] pH tC wV wU vU nZ
attribute [go_sem] UQ VI adP adU HU Wx CS Rr DI iaS WY X5 Tg mvV mvC pv pc Ni Pp Xm Xl kK bg dO dM Q2 Q1 Co cV dh Zf unV unC KQ getCells Uq R1 faV faC J7 OD iaV iaC jJ jI lenV jk RH Rp VM Yj Yi mxV mxC
 dg QT dg2 V.isVal V.isArg V.Ds known xm xl xo CO QC vQ er Mz GJ rp ro rq pn po pq pr px pu j7 j6 j8 TyD.size NJ Po Mg XT OG TW Vt jF resV mS kill
attribute [go_sem ↓] F0 mG kg RL OM OL Wv Up be ao Tn boxS RJ aS Yw Yx QN
end
section
def fz:Nat:=1099511627780
def Au{S O:Type}(body:(S->Option O)->S->Option O):Nat->S->Option O
 |0,_=>none
 |n+1,s=>body (Au body n) s
def chk{α:Type}(p:Prop)[Decidable p](x:Option α):Option α:=if p then x else none
def AZ{α:Type}(l:List α)(i:Int):Option α:=if 0<=i then l[i.toNat]? else none
def Ef{α:Type}(l:List α)(lo hi:Int):List α:=(l.take hi.toNat).drop lo.toNat
def DJ{α:Type}(l:List α)(i:Int)(x:α):List α:=l.set i.toNat x
def Ab{α β:Type}(x:Option α)(f:α->Option β):Option β:=match x with
 |some a=>f a
 |none=>none
theorem RN{α:Type}{p:Prop}[Decidable p]{x:Option α}{r:α}(h:chk p x=some r):p∧x=some r:=by
 unfold chk at h
 split at h
 ·rename_i hp;exact⟨hp,h⟩
 ·cases h
theorem AK{α β:Type}{x:Option α}{f:α->Option β}{r:β}(h:Ab x f=some r):∃a,x=some a∧f a=some r:=by
 cases x with
 |none=>cases h
 |some a=>exact⟨a,rfl,h⟩
theorem Ls{α:Type}{b:Bool}{x y:Option α}{r:α}(h:cond b x y=some r):(b=true∧x=some r)∨(b=false∧y=some r):=by
 cases b
 ·exact .inr ⟨rfl,h⟩
 ·exact .inl ⟨rfl,h⟩
theorem Bk{α β:Type}{x:Option α}{f:α->Option β}{r:β}{P:Prop}(h:Ab x f=some r)(k:∀a,x=some a->f a=some r->P):P:=by
 obtain⟨a,h1,h2⟩:=AK h
 exact k a h1 h2
theorem EF{α β:Type}{x:Option α}{f:α->Option β}{r:β}{P:Prop}(h:Ab x f=some r)(k:∀a,x=some a->(∀{b:α},b=a->f b=some r)->P):P:=by
 obtain⟨a,h1,h2⟩:=AK h
 exact k a h1 (λe=>by rw[e];exact h2)
theorem EM{α:Type}{p:Prop}[Decidable p]{x:Option α}{r:α}{P:Prop}(h:chk p x=some r)(k:p->x=some r->P):P:=k (RN h).1 (RN h).2
theorem Ew{α:Type}{b:Bool}{x y:Option α}{r:α}{P:Prop}(h:cond b x y=some r)(k1:b=true->x=some r->P)(k2:b=false->y=some r->P):P:=by
 rcases Ls h with h|h
 ·exact k1 h.1 h.2
 ·exact k2 h.1 h.2
theorem sj{α:Type}{a b:α}(h:some a=some b):a=b:=DG h
theorem G{α:Sort _}{a:α}:a=a:=rfl
theorem rZ{α β:Type}{a:α}{b:β}{p:Prop}:(a=a∨p)∧b=b:=⟨.inl rfl,rfl⟩
theorem Kk{α β:Type}{P:α×β->Prop}(h:∀a b,P (a,b)):∀x,P x:=λ⟨a,b⟩=>h a b
theorem pr3{α β γ:Type}{P:α×β×γ->Prop}(h:∀a b c,P (a,b,c)):∀x,P x:=λ⟨a,b,c⟩=>h a b c
theorem pr4{α β γ δ:Type}{P:α×β×γ×δ->Prop}(h:∀a b c d,P (a,b,c,d)):∀x,P x:=λ⟨a,b,c,d⟩=>h a b c d
theorem pr5{α β γ δ ε:Type}{P:α×β×γ×δ×ε->Prop}(h:∀a b c d e,P (a,b,c,d,e)):∀x,P x:=λ⟨a,b,c,d,e⟩=>h a b c d e
theorem Ea{α:Type}{l:List α}{i:Int}{x:α}(h:AZ l i=some x):0<=i∧i < l.length∧l[i.toNat]? =some x:=by
 unfold AZ at h
 split at h
 ·rename_i h0
  have:i.toNat < l.length:=by
   rcases A9 i.toNat l.length with h1|h1
   ·exact h1
   ·rw[A2 h1]at h;cases h
  exact⟨h0,by omega,h⟩
 ·cases h
abbrev oL{α:Type}(e:TypeId)(f:α->List V)(x:List α):V:=.own e x.length (x.flatMap f)
abbrev dL{α:Type}(f:α->List V)(x:List α):V:=.dat x.length (x.flatMap f)
abbrev aL{α:Type}(f:α->List V)(x:List α):V:=.arg x.length (x.flatMap f)
abbrev wL{α:Type}(e:TypeId)(f:α->List V)(x:List α):V:=.uni e x.length (x.flatMap f)
abbrev nI(x:Int):V:=.int .i64 x
theorem nb{a b:Nat}(h:Nat.ble a b=true):a<=b:=Nat.le_of_ble_eq_true h
theorem Bh{α:Type}{f:α->List V}{n:Nat}(hf:∀x,(f x).length=n):∀l:List α,(l.flatMap f).length=l.length * n
 |[]=>by simp
 |x::l=>by rw[AH,Aw,hf,Bh hf l,AQ,C4];omega
theorem Kh{α:Type}{f:α->List V}{n:Nat}(hf:∀x,(f x).length=n):∀(l:List α) (k:Nat),(l.flatMap f).drop (k * n)=(l.drop k).flatMap f
 |[],k=>by simp
 |x::l,0=>by simp
 |x::l,k+1=>by
  rw[AH,C4,Dn,Hw,List.drop_append,BY (by rw[hf];omega),hf,De,Kh hf l k]
  simp
theorem U6{α:Type}{f:α->List V}{n:Nat}(hf:∀x,(f x).length=n):∀(l:List α) (k:Nat),(l.flatMap f).take (k * n)=(l.take k).flatMap f
 |[],k=>by simp
 |x::l,0=>by simp
 |x::l,k+1=>by
  rw[AH,C4,Dn,Hw,MH,DL (by rw[hf];omega),hf,De,U6 hf l k,C1,AH]
theorem kN{α:Type}{f:α->List V}{n:Nat}(hf:∀x,(f x).length=n){l:List α}{k:Nat}{x:α}(h:l[k]? =some x)(off:Nat):(l.flatMap f).drop (k * n+off)=(f x).drop off++(l.drop (k+1)).flatMap f∨n < off:=by
 rcases A9 n off with h1|h1
 ·exact .inr h1
 ·left
  have hk:k < l.length:=by
   rcases A9 k l.length with h1|h1
   ·exact h1
   ·rw[A2 h1]at h;cases h
  have hx:l[k]=x:=by rw[Ac hk]at h;injection h
  rw[<-Hi,Kh hf,AR hk,AH,hx,Dk (by rw[hf];exact h1)]
theorem je{α:Type}{f:α->List V}{n:Nat}(hf:∀x,(f x).length=n){l:List α}{k:Nat}{x:α}(h:l[k]? =some x){d:TyD}{off:Nat}(ho:off+d.size<=n):getCells d (l.flatMap f) (k * n+off)=getCells d (f x) off∧k * n+off+d.size<=(l.flatMap f).length:=by
 have hk:k < l.length:=by
  rcases A9 k l.length with h1|h1
  ·exact h1
  ·rw[A2 h1]at h;cases h
 have hd:=(kN hf h off).resolve_right (by omega)
 have hlen:((f x).drop off).length=n - off:=by rw[Bt,hf]
 constructor
 ·have key:∀m,m<=n - off->((l.flatMap f).drop (k * n+off)).take m=((f x).drop off).take m:=λm hm=>by rw[hd,FJ (by omega)]
  have key1:d.size=1->(l.flatMap f)[k * n+off]? =(f x)[off]?:=λh1=>by
   have e1:(l.flatMap f)[k * n+off]? =((l.flatMap f).drop (k * n+off))[0]?:=by rw[DF,Dt]
   have e2:(f x)[off]? =((f x).drop off)[0]?:=by rw[DF,Dt]
   rw[e1,e2,hd,B4 (by omega)]
  cases d with
  |st m z fs=>simp only[getCells];rw[key m (by simp only[TyD.size]at ho;omega)]
  |sc z=>simp only[getCells];rw[key1 rfl]
  |sl e es eb ez=>simp only[getCells];rw[key1 rfl]
 ·rw[Bh hf]
  have:k * n+n<=l.length * n:=by rw[<-FC];exact CA _ hk
  omega
theorem fF:∀(a b:List V),Mz (a++b)=Mz a++Mz b
 |[],b=>rfl
 |c::a,b=>by rw[Da,Mz,Mz,fF a b,Da]
theorem O6{α:Type}{f g:α->List V}(h:∀x,Mz (f x)=g x):∀l:List α,Mz (l.flatMap f)=l.flatMap g
 |[]=>rfl
 |x::l=>by rw[AH,AH,fF,h,O6 h l]
theorem Y4{α:Type}{f:α->List V}{n:Nat}{z:α}{ez:List V}(hz:f z=ez)(hn:ez.length=n):∀k:Nat,PM ez n k=(List.replicate k z).flatMap f
 |0=>by simp[PM]
 |k+1=>by rw[nZ hn,Y4 hz hn k,List.replicate_succ,AH,hz]
theorem YS{α:Type}{f:α->List V}{n:Nat}(hf:∀x,(f x).length=n){l:List α}{k:Nat}(hk:k < l.length)(x:α):Mg (l.flatMap f) (k * n) (f x)=(l.set k x).flatMap f:=by
 unfold Mg
 rw[hf,show k * n+n=(k+1) * n by rw[C4,Dn],U6 hf,Kh hf,D0,Av hk,DQ,AH,Bj]
def Cv:List (Nat×V)->PS
 |[]=>λ_=>.undef
 |(s,c)::L=>upd (Cv L) s c
def YA(σ:PS):List (Nat×V)->Prop
 |[]=>True
 |(s,c)::L=>Kp (σ s) c∧YA σ L
def okR(L:List (Nat×V)):Bool:=L.all λp=>match DI p.2 with
 |some b=>(L.map (·.1)).contains b
 |none=>true
def Fg(σ σ':PS):Prop:=∀(P:Program) (nt:Nat) (bx:zN) (base:Bs) (St0:Nat->Nat->Prop) (w0:World) (a:Act) (w:World),Rel P nt bx base St0 w0 σ a w->Rel P nt bx base St0 w0 σ' a w
theorem me{σ:PS}:∀{L:List (Nat×V)},YA σ L->∀s,(s∈L.map (·.1)->Kp (σ s) (Cv L s))∧(s∉L.map (·.1)->Cv L s=.undef)
 |[],_,s=>⟨λh=>by simp at h,λ_=>rfl⟩
 |(q,c)::L,⟨h1,h2⟩,s=>by
  obtain⟨i1,i2⟩:=me h2 s
  by_cases e:s=q
  ·subst e
   exact⟨λ_=>by simp only[Cv,upd_same];exact h1,λh=>absurd (by simp) h⟩
  ·simp only[Cv,upd_ne _ _ e,AC,AB,e,false_or]
   exact⟨i1,i2⟩
theorem ZT{L:List (Nat×V)}{s:Nat}{b:Nat}(h:DI (Cv L s)=some b):∃p∈L,DI p.2=some b:=by
 induction L with
 |nil=>cases h
 |cons p L ih=>
  obtain⟨q,c⟩:=p
  by_cases e:s=q
  ·subst e;rw[show Cv ((s,c)::L) s=c from by simp[Cv,upd_same]]at h;exact⟨(s,c),by simp,h⟩
  ·rw[show Cv ((q,c)::L) s=Cv L s from by simp[Cv,upd_ne _ _ e]]at h
   obtain⟨p,hp,h⟩:=ih h
   exact⟨p,by simp[hp],h⟩
theorem gI:∀{L:List (Nat×V)}{s:Nat},Cv L s≠.undef->s∈L.map (·.1)
 |[],_,h=>absurd rfl h
 |(q,c)::L,s,h=>by
  by_cases e:s=q
  ·subst e;simp
  ·have:Cv L s≠.undef:=by rwa [show Cv ((q,c)::L) s=Cv L s from upd_ne _ _ e]at h
   exact AE _ (gI this)
theorem ZB{σ:PS}{L:List (Nat×V)}(h1:YA σ L)(h2:okR L=true):Fg σ (Cv L):=by
 intro P nt bx base St0 w0 a w hr
 have hcl:=me h1
 obtain⟨St,B,h,hb,hst,hz⟩:=hr
 refine mR (λs=>?_) (λs b e he=>?_) ⟨St,B,h,hb,hst,hz⟩
 ·by_cases hs:s∈L.map (·.1)
  ·exact .inr ((hcl s).1 hs)
  ·exact .inl ((hcl s).2 hs)
 ·obtain⟨p,hp,hpe⟩:=ZT e
  have hb:b∈L.map (·.1):=by
   have:=Ah.1 h2 p hp
   rw[hpe]at this
   simpa using this
  have hs:s∈L.map (·.1):=gI (λe'=>by rw[e']at e;cases e)
  obtain⟨cs,hcs⟩:=h.crefs s b (((hcl s).1 hs).rf b e)
  have hk:=((hcl b).1 hb).bx
  rw[he,hcs]at hk
  cases hk
section
variable {P:Program}{nt:Nat}{bx:zN}{σ:PS}{Q:Exit->PS->Prop}{tb:Tb}{cns:zN}
theorem CU{x y:LC}(h:∀{K:PS->Prop},(∀σ',LS P nt bx y σ' Q->K σ')->LS P nt bx x σ (Sg K Q)):LS P nt bx (.seq x y) σ Q:=As λ_=>h
theorem Cl{y:LC}{Q':Exit->PS->Prop}(hK:∀σ',LS P nt bx y σ' Q->Q' .normal σ')(h:LS P nt bx y σ Q):LS P nt bx .skip σ Q':=DZ (hK _ h)
theorem rX{l:LC}{σ':PS}(hf:Fg σ σ')(h:LS P nt bx l σ' Q):LS P nt bx l σ Q:=
 λc hc hok hL base St0 w0 a w hr=>h c hc hok hL base St0 w0 a w (hf _ _ _ _ _ _ _ _ hr)
theorem G2{l:LC}(L:List (Nat×V))(h1:YA σ L)(h2:okR L=true)(h:LS P nt bx l (Cv L) Q):LS P nt bx l σ Q:=rX (ZB h1 h2) h
theorem lY{ops:List LO}{y:LC}(htb:IG P tb)(h:UQ P tb cns ops σ (λσ'=>LS P nt bx y σ' Q)):LS P nt bx (.seq (.rgn cns ops) y) σ Q:=ZR (lX htb h)
theorem rY{fps:List (zN×zN)}{es:List zN}{ops:List LO}{y:LC}(htb:IG P tb)(hm:P.follows .mixedOrders=true)(hD:(okD fps es ops&&okF cns fps ops)=true)(h:VI P tb cns fps ops σ (λσ'=>LS P nt bx y σ' Q)):LS P nt bx (.seq (.drw cns fps es ops) y) σ Q:=ZR (lT htb hm hD h)
theorem rW{c:Operand}{x y:LC}{b:Bool}(hb:Co σ c=.bool b)(e:b=true)(h:LS P nt bx x σ Q):LS P nt bx (.cond c x y) σ Q:=gv hb (λ_=>h) (λe'=>by rw[e]at e';cases e')
theorem rV{c:Operand}{x y:LC}{b:Bool}(hb:Co σ c=.bool b)(e:b=false)(h:LS P nt bx y σ Q):LS P nt bx (.cond c x y) σ Q:=gv hb (λe'=>by rw[e]at e';cases e') (λ_=>h)
theorem a7{c:Code}(I:Nat->PS->Prop)(m0:Nat)(h0:I m0 σ)(round:∀m σ (N:PS->Prop),I m σ->(∀σ' m' σ'',m' < m->I m' σ''->Fg σ' σ''->N σ')->LH P nt bx c σ (Sg N Q)):LH P nt bx (.loop c) σ Q:=by
 intro base St0 w0 a w hr b k cs
 have key:∀n σ a w,I n σ->Rel P nt bx base St0 w0 σ a w->
   ∃e a' w',(∃σ',Q e σ'∧Rel P nt bx base St0 w0 σ' a' w')∧Arrives P (lone (b.at a (.code c::.inLoop c::k)) cs w) b k cs e a' w':=by
  intro n
  induction n using Nat.strongRecOn with
  |_ n ih=>
   intro σ a w hI hr
   obtain⟨e,a₁,w₁,⟨σ₁,hq,hr₁⟩,harr⟩:=round n σ (λσ'=>∃m' σ'',m' < n∧I m' σ''∧Fg σ' σ'') hI (λσ' m' σ'' h1 h2 h3=>⟨m',σ'',h1,h2,h3⟩) base St0 w0 a w hr b (.inLoop c::k) cs
   cases e with
   |normal=>
    obtain⟨m',σ'',hlt,hI₁,hfg⟩:=hq
    obtain⟨e₂,a₂,w₂,hq₂,harr₂⟩:=ih m' hlt σ'' a₁ w₁ hI₁ (hfg _ _ _ _ _ _ _ _ hr₁)
    exact⟨e₂,a₂,w₂,hq₂,.of_steps (Steps.trans harr (.one step_inLoop)) harr₂⟩
   |exit id=>exact⟨_,a₁,w₁,⟨σ₁,hq,hr₁⟩,.pass (x:=.inLoop c) rfl (λ_ _=>.inl (by simp)) harr⟩
   |goto l=>exact⟨_,a₁,w₁,⟨σ₁,hq,hr₁⟩,.pass (x:=.inLoop c) rfl (λ_ _=>.inl (by simp)) harr⟩
   |ret=>exact⟨_,a₁,w₁,⟨σ₁,hq,hr₁⟩,.pass (x:=.inLoop c) rfl (λ_ _=>.inl (by simp)) harr⟩
   |panic ch=>exact⟨_,a₁,w₁,⟨σ₁,hq,hr₁⟩,.pass (x:=.inLoop c) rfl (λ_ _=>.inl (by simp)) harr⟩
   |outgrown=>exact⟨_,a₁,w₁,⟨σ₁,hq,hr₁⟩,.pass (x:=.inLoop c) rfl (λ_ _=>.inl (by simp)) harr⟩
 obtain⟨e,a',w',hq,harr⟩:=key m0 σ a w h0 hr
 exact⟨e,a',w',hq,.of_steps (.one step_loop) harr⟩
theorem lW{x:LC}{D:zN}(I:Nat->PS->Prop)(m0:Nat)(h0:I m0 σ)(round:∀m σ (N:PS->Prop),I m σ->(∀σ' m' σ'',m' < m->I m' σ''->Fg σ' σ''->N σ')->LS P nt bx x σ (Sg N Q)):LS P nt bx (.loop D x) σ Q:=by
 intro c hc hok hL
 cases c<;>first|(cases hc;done)|skip
 ·simp only[IE,UP]at hc;split at hc<;>cases hc
 ·simp only[IE,UP,LC.loop.injEq,true_and]at hc
  exact a7 I m0 h0 (λm σ N hI hN=>round m σ N hI hN _ hc hok hL)
theorem Ba{x:LC}{D:zN}{id:Nat}{S O:Type}(L:S->List (Nat×V))(body:(S->Option O)->S->Option O)(m0:Nat)(s0:S)(out:O)(h:Au body m0 s0=some out)(h1:YA σ (L s0))(h2:∀s,okR (L s)=true)
  (round:∀m s (N:PS->Prop),body (Au body m) s=some out->(∀σ' s',Au body m s'=some out->YA σ' (L s')->N σ')->LS P nt bx x (Cv (L s)) (Sg N (Tr id Q))):LS P nt bx (.blk id (.loop D x)) σ Q:=by
 refine A8 (rX (ZB h1 (h2 s0)) (lW (λm σ=>∃s,σ=Cv (L s)∧Au body m s=some out) m0 ⟨s0,rfl,h⟩ ?_))
 rintro m σ N ⟨s,rfl,hs⟩ hN
 cases m with
 |zero=>cases hs
 |succ m=>exact round m s N hs (λσ' s' h3 h4=>hN σ' m _ (Nat.lt_succ_self m) ⟨s',rfl,h3⟩ (ZB h4 (h2 s')))
end
end
section
section
variable {P:Program}{tb:Tb}{cns:zN}{σ:PS}{K:PS->Prop}{d s t:Nat}{c c1 c2 c3:V}{x y z:Operand}
theorem Rw(h:K σ):UQ P tb cns [] σ K:=h
theorem evd{o:LO}{os:List LO}{R W:zN}{fps:List (zN×zN)}(h1:UT R W o.op σ=true)(h2:adB cns R o σ=true)(h:F0 P tb cns o σ (λσ'=>VI P tb cns fps os σ' K)):VI P tb cns ((R,W)::fps) (o::os) σ K:=⟨h1,h2,h⟩
theorem Dh{fps:List (zN×zN)}(h:K σ)(hb:bxS cns σ=true:=by rfl):VI P tb cns fps [] σ K:=by cases fps<;>exact⟨hb,h⟩
theorem od(h:σ s=c)(hv:c.isVal=true){o:LO}(k:K (upd (upd σ s (dg c)) d c)):OL tb o (.tmp s) d σ K:=by
 subst h
 unfold OL
 simp only
 cases hs:σ s<;>rw[hs]at hv k<;>first|(refine⟨hv,?_⟩;simp only[CO,hs];exact k)|cases hv
theorem oT{e:TypeId}{n:Nat}{cs:List V}(hc:cns.contains d=true)(h:σ s=.uni e n cs)(k:K (upd (upd (kill [s] σ) s (.dat n cs)) d (.own e n cs))):F0 P tb cns ⟨some d,.move (.tmp s),t,none⟩ σ K:=by
 simp only[F0,hc,ER,OL,h];exact⟨trivial,k⟩
theorem tq{e:TypeId}{n:Nat}{cs:List V}(hc:cns.contains d=true)(h:σ s=.uni e n cs)(hn:Do (kill [s] σ d)=true)(k:K (upd (kill [s] σ) d (.uni e n cs))):F0 P tb cns ⟨some d,.assign (.tmp s),t,none⟩ σ K:=by
 simp only[F0,hc,ER,Wv,h];exact⟨trivial,hn,k⟩
theorem tr{op:BinOp}{ta tc:TypeId}(hx:Co σ x=c1)(hy:Co σ y=c2)(hc:Zf (tb ta) op c1 c2)(k:K (upd σ d (dh op c1 c2))):F0 P tb cns ⟨some d,.binOp op ta x y tc,t,none⟩ σ K:=by
 subst hx hy;exact⟨hc,k⟩
def Qm(n:Int):List V:=[.int .u8 n]
theorem tu{b off:Nat}{cs:List V}{dd:TyD}{v:V}(hc:cns.contains d=false)(hx:KQ σ x=.cref b off)(hb:CS (σ b)=some cs)(ht:tb s=some dd)(ho:off+dd.size<=cs.length)(hg:getCells dd cs off=v)(k:K (upd σ d v)):
  F0 P tb cns ⟨some d,.load s x,t,none⟩ σ K:=by
 simp only[F0,hc,Cm,Dz,Jv,pc,pv,Q1,Q2,ht,hx,R1,Uq,hb,hg]
 exact⟨ho,k⟩
theorem tv{α:Type}{f:α->List V}{n off b:Nat}{l:List α}{i:Int}{e:α}{et:TypeId}{m:Nat}{dd:TyD}{v:V}(hc:cns.contains d=false)(hx:KQ σ x=.cref b (i.toNat * n+off))(hb:σ b=.uni et m (l.flatMap f))(hf:∀x,(f x).length=n)(hi:AZ l i=some e)(ht:tb s=some dd)(ho:off+dd.size<=n)(hg:getCells dd (f e) off=v)(k:K (upd σ d v)):
  F0 P tb cns ⟨some d,.load s x,t,none⟩ σ K:=by
 have h1:=je hf (Ea hi).2.2 ho
 exact tu hc hx (by rw[hb];rfl) ht h1.2 (h1.1.trans hg) k
theorem wR{e:TypeId}{es eb n:Nat}{ez cs:List V}{kk:IntKind}{i:Int}(hx:J7 (Co σ x)=some (n,cs))(hy:Co σ y=.int kk i)(ht:tb s=some (.sl e es eb ez))(hi:0<=i∧i < n)(k:K (upd σ d (.adr (cs.drop (i.toNat * es)) 0))):F0 P tb cns ⟨some d,.indexAddr s x y,t,none⟩ σ K:=by
 have hns:∀b,Co σ x≠.same b:=λb h=>by rw[h]at hx;cases hx
 have e1:WY σ (Co σ x) (Co σ y)=iaC (Co σ x) (Co σ y):=by cases h:Co σ x<;>first|rfl|exact absurd h (hns _)|(rw[h]at hx;cases hx)
 have e2:iaS σ es (Co σ x) (Co σ y)=iaV es (Co σ x) (Co σ y):=by cases h:Co σ x<;>first|rfl|exact absurd h (hns _)|(rw[h]at hx;cases hx)
 refine⟨?_,?_⟩
 ·simp only[pc,dM,ht];rw[e1];simp only[iaC,hx,hy,OD];exact hi
 ·simp only[pv,dO,ht];rw[e2];simp only[iaV,hx,hy,OD];exact k
theorem tt{e e':TypeId}{es eb n b:Nat}{ez cs:List V}{kk:IntKind}{i:Int}(hx:Co σ x=.same b)(hb:σ b=.uni e' n cs)(hy:Co σ y=.int kk i)(ht:tb s=some (.sl e es eb ez))(hi:0<=i∧i < n)(k:K (upd σ d (.cref b (i.toNat * es)))):F0 P tb cns ⟨some d,.indexAddr s x y,t,none⟩ σ K:=by
 refine⟨?_,?_⟩
 ·simp only[pc,dM,ht,WY,hx,hb,hy,OD];exact hi
 ·simp only[pv,dO,ht,iaS,hx,hb,hy,OD];exact k
theorem tx{u:zU}{kk:IntKind}{i:Int}{b:UInt8}(hx:Co σ x=.str u)(hy:Co σ y=.int kk i)(ht:tb s=some (.sc (.str [])))(hi:AZ u i=some b)(k:K (upd σ d (.int .u8 b.toNat))):F0 P tb cns ⟨some d,.index s x y,t,none⟩ σ K:=by
 obtain⟨h1,h2,h3⟩:=Ea hi
 refine⟨?_,?_⟩
 ·simp only[pc,ht,jI,hx,hy,OD];exact⟨trivial,h1,h2⟩
 ·simp only[pv,jJ,hx,hy,OD,h3];exact k
theorem tA{u:zU}{lo hi:Option Operand}{l h:Int}(hx:Co σ x=.str u)(ht:tb s=some (.sc (.str [])))(h1:RH 0 (lo.map (Co σ))=some l)(h2:RH u.length (hi.map (Co σ))=some h)(hb:0<=l∧l<=h∧h<=u.length)(k:K (upd σ d (.str (Ef u l h)))):F0 P tb cns ⟨some d,.slice s x lo hi none,t,none⟩ σ K:=by
 refine⟨?_,?_⟩
 ·simp only[pc,VM,ht,hx,h1,h2];exact hb
 ·simp only[pv,Rp,ht,hx,h1,h2];exact k
theorem ri{α:Type}{l:List α}{a b:Int}(h:0<=a∧a<=b∧b<=l.length):(Ef l a b).length=b.toNat - a.toNat:=by
 unfold Ef;rw[Bt,AJ,Cq (by omega)]
theorem tz{α:Type}{f:α->List V}{e:TypeId}{es eb:Nat}{ez:List V}{lst:List α}{lo hi:Option Operand}{l h:Int}(hx:J7 (Co σ x)=some (lst.length,lst.flatMap f))(ht:tb s=some (.sl e es eb ez))(hf:∀x,(f x).length=es)(h1:RH 0 (lo.map (Co σ))=some l)(h2:RH lst.length (hi.map (Co σ))=some h)(hb:0<=l∧l<=h∧h<=lst.length)
  (k:K (upd σ d (VN (Co σ x) (Ef lst l h).length ((Ef lst l h).flatMap f)))):F0 P tb cns ⟨some d,.slice s x lo hi none,t,none⟩ σ K:=by
 have e1:Rp (some (.sl e es eb ez)) (Co σ x) (lo.map (Co σ)) (hi.map (Co σ))=VN (Co σ x) (Ef lst l h).length ((Ef lst l h).flatMap f):=by
  rw[ri hb]
  unfold Ef
  rw[<-Kh hf,<-U6 hf]
  cases hc:Co σ x<;>rw[hc]at hx<;>first|(simp only[Rp,hx,h1,h2];done)|cases hx
 refine⟨?_,?_⟩
 ·simp only[pc,ht]
  cases hc:Co σ x<;>rw[hc]at hx<;>first|(simp only[VM,hx,h1,h2];exact⟨hb.1,hb.2.1,hb.2.2,Bh hf lst⟩)|cases hx
 ·simp only[pv,ht,e1];exact k
def erA(σ:PS):List Operand->List V->Prop
 |[],as=>as=[]
 |x::xs,as=>∃a as',as=a::as'∧(Co σ x).isArg=true∧er (Co σ x)=a∧erA σ xs as'
theorem era{as:List V}{a:V}{xs:List Operand}(h1:(Co σ x).isArg=true)(h2:er (Co σ x)=a)(h3:erA σ xs as):erA σ (x::xs) (a::as):=⟨a,as,rfl,h1,h2,h3⟩
theorem A4:erA σ [] []:=rfl
theorem WN:∀{xs:List Operand}{as:List V},erA σ xs as->xs.all (λx=>(Co σ x).isArg)=true∧(xs.map λx=>er (Co σ x))=as
 |[],_,h=>⟨rfl,(show _=[]from h).symm⟩
 |x::xs,_,⟨a,as',e,h1,h2,h3⟩=>by
  obtain⟨h4,h5⟩:=WN h3
  rw[e,Bz,h1,h4,AC,h2,h5]
  exact⟨rfl,rfl⟩
theorem oS{f:FuncId}{args:Array Operand}{ts:Array TypeId}{dst:Option Nat}{as:List V}{r:V}(hc:dst.toList.any cns.contains=false)(he:erA σ args.toList as)(hs:Ks P f as r)(k:K (QC σ dst r)):F0 P tb cns ⟨dst,.call {callee:=.value (.func f),args:=args,argTypes:=ts},t,none⟩ σ K:=by
 obtain⟨h1,h2⟩:=WN he
 subst h2
 show JZ P cns _ f args.toList σ K
 unfold JZ
 rw[At (by simp only[hc];exact K3)]
 exact .inl ⟨h1,r,.inl hs,k⟩
theorem kI{f:FuncId}{args:Array Operand}{ts:Array TypeId}{dst:Option Nat}{xs:List Operand}{s:Nat}{as cs cs':List V}{r:V}(hc:dst.toList.any cns.contains=false)(ha:args.toList=x::xs)(hx:KQ σ x=.cref s 0)(hs:σ s=.box cs)(hpl:cs.all HV=true)(he:erA σ xs as)(hp:O1 P f cs as cs' r)(k:K (QC (upd σ s (.box cs')) dst r)):F0 P tb cns ⟨dst,.call {callee:=.value (.func f),args:=args,argTypes:=ts},t,none⟩ σ K:=by
 obtain⟨h1,h2⟩:=WN he
 subst h2
 show JZ P cns _ f args.toList σ K
 unfold JZ
 rw[At (by simp only[hc];exact K3)]
 refine .inr (.inl ?_)
 rw[ha]
 have key:RM P ⟨dst,.call {callee:=.value (.func f),args:=args,argTypes:=ts},t,none⟩ f x xs σ K:=⟨s,cs,cs',r,hx,hs,hpl,h1,hp,k⟩
 cases dst with
 |none=>exact⟨rfl,key⟩
 |some d=>exact key
theorem kH{f:FuncId}{args:Array Operand}{ts:Array TypeId}{as cs:List V}(hc:cns.contains d=true)(hb:Do (σ d)=true)(h1:args.toList.all (λx=>(Co σ x).isArg)=true)(h2:(args.toList.map λx=>erK (Co σ x))=as)(hp:NewAt P f as cs)(k:K (upd σ d (.box cs))):F0 P tb cns ⟨some d,.call {callee:=.value (.func f),args:=args,argTypes:=ts},t,none⟩ σ K:=by
 subst h2
 show JZ P cns _ f args.toList σ K
 unfold JZ
 rw[Av (by simp only[Option.toList_some,H0,hc];rfl)]
 exact⟨d,rfl,cs,rfl,hb,h1,hp,k⟩
theorem CM{α:Type}{f g:α->List V}(h:∀x,Mz (f x)=g x)(l:List α):er (.dat l.length (l.flatMap f))=.dat l.length (l.flatMap g):=by rw[er,O6 h]
theorem XY{α:Type}{f g:α->List V}(h:∀x,Mz (f x)=g x)(l:List α){e:TypeId}:er (.own e l.length (l.flatMap f))=.dat l.length (l.flatMap g):=by rw[er,O6 h]
theorem V6{α:Type}{f g:α->List V}(h:∀x,Mz (f x)=g x)(l:List α):er (.arg l.length (l.flatMap f))=.dat l.length (l.flatMap g):=by rw[er,O6 h]
theorem D2{cs ds:List V}(h:Mz cs=ds):er (.agg cs)=.agg ds:=by rw[er,h]
theorem BR{c a:V}{cs ds:List V}(h1:er c=a)(h2:Mz cs=ds):Mz (c::cs)=a::ds:=by rw[Mz,h1,h2]
def AF(n:Int):List V:=[.int .i64 n]
def cbl(b:Bool):List V:=[.bool b]
def cst(u:zU):List V:=[.str u]
theorem BJ(n:Int):(AF n).length=1:=rfl
theorem rH(n:Int):(Qm n).length=1:=rfl
theorem Aah(n:Bool):(cbl n).length=1:=rfl
theorem S8(n:zU):(cst n).length=1:=rfl
theorem Cb(n:Int):Mz (AF n)=AF n:=rfl
theorem oP(n:Int):Mz (Qm n)=Qm n:=rfl
theorem AaC(n:zU):Mz (cst n)=cst n:=rfl
theorem Nf{α:Type}{f g:α->List V}(h:∀x,(f x).map QT=g x):∀l:List α,(l.flatMap f).map QT=l.flatMap g
 |[]=>rfl
 |x::l=>by rw[AH,B7,h,AH,Nf h l]
theorem tp{α:Type}{f:α->List V}{e:TypeId}{es eb p q:Nat}{ez ds:List V}{l m:List α}(hx:σ p=.own e l.length (l.flatMap f))(hy:Co (upd σ p (.dat l.length (l.flatMap f))) (.tmp q)=c2)(hs:J7 c2=some (m.length,ds))(hd:ds.length=m.length * es)(ht:tb s=some (.sl e es eb ez))(ha:TW c2=m.flatMap f)(hl:l.length+m.length<=lim)(hv:c2.isVal=true)
  (k:K (upd (upd (upd σ p (.dat l.length (l.flatMap f))) q (dg c2)) d (.own e (l++m).length ((l++m).flatMap f)))):F0 P tb cns ⟨some d,.call {callee:=.builtin .append,args:= #[.tmp p,.tmp q],argTypes:= #[s,s]},t,none⟩ σ K:=by
 subst hy
 have e1:CO σ (.tmp p)=upd σ p (.dat l.length (l.flatMap f)):=by simp only[CO,hx,dg,dg2,QT]
 refine Or.inl (a:=QN tb _ _ _ _ d σ K) ?_
 unfold QN
 have e2:Co σ (.tmp p)=.own e l.length (l.flatMap f):=hx
 rw[ht,e2,e1,hs]
 refine⟨rfl,rfl,hd,hl,?_⟩
 rw[ha,<-DQ,<-Aw]
 exact .inl k
theorem oR{α:Type}{f g h:α->List V}{e:TypeId}{es eb p q:Nat}{ez ds:List V}{l m:List α}(hx:σ p=.own e l.length (l.flatMap f))(hy:Co (upd σ p (.dat l.length (l.flatMap f))) (.tmp q)=c2)(hs:J7 c2=some (m.length,ds))(hd:ds.length=m.length * es)(ht:tb s=some (.sl e es eb ez))(ha:TW c2=m.flatMap h)(hl:l.length+m.length<=lim)(hv:c2.isVal=true)
  (hf:∀x,(f x).map QT=g x) (hh:∀x,(h x).map QT=g x) (hfc:∀x,(f x).all V.Ds=true) (hhc:∀x,(h x).all V.Ds=true)
  (k:K (upd (upd (upd σ p (.dat l.length (l.flatMap f))) q (dg c2)) d (.own e (l++m).length ((l++m).flatMap g)))):F0 P tb cns ⟨some d,.call {callee:=.builtin .append,args:= #[.tmp p,.tmp q],argTypes:= #[s,s]},t,none⟩ σ K:=by
 subst hy
 have e1:CO σ (.tmp p)=upd σ p (.dat l.length (l.flatMap f)):=by simp only[CO,hx,dg,dg2,QT]
 refine Or.inl (a:=QN tb _ _ _ _ d σ K) ?_
 unfold QN
 have e2:Co σ (.tmp p)=.own e l.length (l.flatMap f):=hx
 rw[ht,e2,e1,hs]
 refine⟨rfl,rfl,hd,hl,.inr ⟨?_,?_⟩⟩
 ·rw[ha,B7,Nf hf,Nf hh,<-DQ,<-Aw]
  have:∀(τ:PS) (c c':V),upd (upd τ d c) d c'=upd τ d c':=by
   intro τ c c'
   funext q
   by_cases e:q=d
   ·rw[e,upd_same,upd_same]
   ·rw[upd_ne _ _ e,upd_ne _ _ e,upd_ne _ _ e]
  rw[this]
  exact k
 ·rw[ha,EO,List.all_flatMap,List.all_flatMap,Aa,Ah,Ah]
  exact⟨λx _=>hfc x,λx _=>hhc x⟩
theorem tB{ty:TypeId}{α:Type}{f:α->List V}{n b:Nat}{l:List α}{i:Int}{e:α}{et:TypeId}{dd:TyD}(hx:KQ σ x=.cref b (i.toNat * n))(hb:σ b=.uni et l.length (l.flatMap f))(hf:∀x,(f x).length=n)(hi:0<=i∧i < l.length)(hy:Co σ y=c1)(ht:tb t=some dd)(ha:c1.isArg=true)(hn:n=dd.size)(hc:GJ c1=f e)
  (k:K (upd (CO σ y) b (.uni et (DJ l i e).length ((DJ l i e).flatMap f)))):F0 P tb cns ⟨none,.store t x y,ty,none⟩ σ K:=by
 subst hy hn
 have hk:i.toNat < l.length:=by omega
 simp only[F0,ao,ht,hx,hb,CS,Rr]
 refine⟨trivial,ha,by rw[hc,hf],?_,?_⟩
 ·rw[Bh hf]
  have:i.toNat * dd.size+dd.size<=l.length * dd.size:=by rw[<-FC];exact CA _ hk
  omega
 ·rw[hc,YS hf hk]
  have e1:(DJ l i e).length=l.length:=by unfold DJ;rw[BM]
  rw[e1]at k
  exact k
theorem wP{dd:TyD}(hn:Do (σ d)=true)(ht:tb s=some dd)(k:K (upd σ d (.box (XT dd)))):F0 P tb cns ⟨some d,.alloc s,t,none⟩ σ K:=by
 simp only[F0,Tn,ht];exact⟨trivial,hn,k⟩
theorem tw{α:Type}{f:α->List V}{z:α}{e:TypeId}{es eb:Nat}{ez:List V}{k0 k1:IntKind}{n:Int}(hc:cns.contains d=true)(hx:Co σ x=.int k0 n)(hy:Co σ y=.int k1 n)(ht:tb s=some (.sl e es eb ez))(hz:f z=ez)(hez:ez.length=es)(hn:0<=n∧n.toNat<=lim)(hb:Do (σ d)=true)(k:K (upd σ d (.uni e (List.replicate n.toNat z).length ((List.replicate n.toNat z).flatMap f)))):F0 P tb cns ⟨some d,.makeSlice s x y,t,none⟩ σ K:=by
 simp only[F0,hc,ER,Yx,ht,hx,hy]
 refine⟨trivial,hn.1,trivial,hn.2,hb,?_⟩
 rw[Y4 hz hez]
 rw[Cc]at k
 exact k
def gOp(cns:zN)(d:Nat):Op->Bool
 |.move _=> !cns.contains d
 |.load _ _=> !cns.contains d
 |.pick .. |.binOp .. |.unOp .. |.convert .. |.fieldAddr .. |.indexAddr .. |.index .. |.slice .. =>true
 |.call c=>match c.callee with
  |.value (.func _)=> !cns.contains d
  |.value _=>false
  |_=>true
 |.build .. |.buildSlice .. |.field .. =>true
 |_=>false
theorem wQ{op:Op}{q:Nat}{b:Bool}(hg:gOp cns d op=true)(hq:σ q=.bool b)(h:F0 P tb cns ⟨some d,op,t,none⟩ σ K):F0 P tb cns ⟨some d,op,t,some (some q,b)⟩ σ K:=by
 have hk:known (σ q)=true:=by rw[hq];rfl
 have hb:Wd b (σ q)=true:=by rw[hq];simp[Wd]
 have hp:Jv tb ⟨some d,op,t,none⟩ σ K->Jv tb ⟨some d,op,t,some (some q,b)⟩ σ K:=by
  intro h;simp only[Jv]at *;exact⟨hk,λ_=>h,λe=>by rw[hb]at e;cases e⟩
 cases op<;>first|(cases hg;done)|exact hp h|skip
 case move x=>simp only[gOp,Ax]at hg;simp only[F0,hg,Cm,Dz]at h⊢;exact hp h
 case load s x=>simp only[gOp,Ax]at hg;simp only[F0,hg,Cm,Dz]at h⊢;exact hp h
 case call c=>
  obtain⟨cal,args,ts⟩:=c
  cases cal with
  |value x=>
   cases x with
   |func f=>
    have hcd:cns.contains d=false:=by simpa[gOp]using hg
    replace h:JZ P cns ⟨some d,.call ⟨.value (.func f),args,ts⟩,t,none⟩ f args.toList σ K:=h
    show JZ P cns ⟨some d,.call ⟨.value (.func f),args,ts⟩,t,some (some q,b)⟩ f args.toList σ K
    unfold JZ at h⊢
    rw[At (by simpa using hcd)]at h⊢
    rcases h with h|h|h
    ·left
     unfold O5 at h⊢;exact⟨hk,λ_=>h,λe=>absurd e (by rw[hb];simp)⟩
    ·right;left
     unfold T5 at h⊢
     split at h
     ·exact h
     ·exact⟨hk,λ_=>h,λe=>absurd e (by rw[hb];simp)⟩
    ·right;right
     exact⟨hk,λ_=>h,λe=>absurd e (by rw[hb];simp)⟩
   |_=>cases hg
  |builtin bn=>
   simp only[F0,RL]at h⊢
   split at h
   ·rename_i heq;cases heq
   ·refine⟨hk,λ_=>h.imp id λ⟨_,s',u,e',n,cs,q1,q2,q3,q4⟩=>⟨λb' e1=>?_,s',u,e',n,cs,q1,q2,q3,q4⟩,λe=>absurd e (by rw[hb];simp)⟩
    simp only[Ap,B3]at e1
    rw[e1.1,q3]at hq
    cases hq
   ·exact hp h
  |_=>exact hp h
 case build s ps=>exact⟨hk,λ_=>h,λe=>absurd e (by rw[hb];simp)⟩
 case buildSlice s n ps=>exact⟨hk,λ_=>h,λe=>absurd e (by rw[hb];simp)⟩
 case field s y f=>exact⟨hk,λ_=>h,λe=>absurd e (by rw[hb];simp)⟩
end
section
variable {P:Program}{nt:Nat}{bx:zN}{σ:PS}{Q:Exit->PS->Prop}{tb:Tb}{cns:zN}
theorem pL{ops:List LO}{y:LC}(htb:IG P tb)(h:∀K:PS->Prop,(∀σ',LS P nt bx y σ' Q->K σ')->UQ P tb cns ops σ K):LS P nt bx (.seq (.rgn cns ops) y) σ Q:=lY htb (h _ λ_ h=>h)
theorem pK{fps:List (zN×zN)}{es:List zN}{ops:List LO}{y:LC}(htb:IG P tb)(hm:P.follows .mixedOrders=true)(hD:(okD fps es ops&&okF cns fps ops)=true)(h:∀K:PS->Prop,(∀σ',LS P nt bx y σ' Q->K σ')->VI P tb cns fps ops σ K):LS P nt bx (.seq (.drw cns fps es ops) y) σ Q:=rY htb hm hD (h _ λ_ h=>h)
end
def aG(a b:Int):Int:=wZ ((BitVec.ofInt IntKind.i64.bits a&&& BitVec.ofInt IntKind.i64.bits b).toNat:Int)
def Aac(a b:Int):Int:=wZ ((BitVec.ofInt IntKind.i64.bits a ^^^ BitVec.ofInt IntKind.i64.bits b).toNat:Int)
def qU(a b:Int):Int:=a.fdiv (2 ^ (min b.toNat IntKind.i64.bits))
end
end Go.Proofs.YthghcmmlmfgkbaaGreatDoor
