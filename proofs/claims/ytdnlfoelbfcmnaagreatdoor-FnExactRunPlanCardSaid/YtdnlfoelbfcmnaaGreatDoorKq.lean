/- A machine on data, part 2b: regions whose order is open, tables, rules. Over no program; no conditions. -/
import Derived.Test.YtdnlfoelbfcmnaaGreatDoorKp
open Go.RowKit
set_option linter.all false
namespace Go.Proofs.YtdnlfoelbfcmnaaGreatDoor
section
def RD{K:PS->Prop}{o:LO}{d:Nat}{σ:PS}{X:(PS->Prop)->Prop}(c:X K->∃σ1,X (λs=>s=σ1)∧K σ1)(h:SM o d σ K (X K)):∃σ1,SM o d σ (λs=>s=σ1) (X<|λs=>s=σ1)∧K σ1:=by
 unfold SM at *;split at h
 ·exact c h
 ·exact h.elim
 ·rename_i q b _;by_cases a:cF b (σ q)=true
  ·obtain⟨s,f,g⟩:=c (h.2.1 a);exact⟨s,⟨h.1,λ_=>f,λe=>by rw[a]at e;cases e⟩,g⟩
  ·exact⟨_,⟨h.1,λe=>absurd e a,λ_=>rfl⟩,h.2.2<|by simpa using a⟩
def dJ{P:Program}{tb:Tb}{cns:zN}{K:PS->Prop}{o:LO}{σ:PS}(h:Jm P tb cns o σ K):∃σ1,Jm P tb cns o σ (λs=>s=σ1)∧K σ1:=by
 have hp:∀{o:LO}{σ:PS},LM tb o σ K->∃σ1,LM tb o σ (λs=>s=σ1)∧K σ1:=by
  intro o σ h;unfold LM at *;split at h
  ·exact h.elim
  ·split at h
   ·exact⟨_,⟨h.1,rfl⟩,h.2⟩
   ·exact h.elim
   ·rename_i q b _;by_cases hb:cF b (σ q)=true
    ·exact⟨_,⟨h.1,λe=>⟨(h.2.1 hb).1,rfl⟩,λe=>by rw[hb]at e;cases e⟩,(h.2.1 hb).2⟩
    ·exact⟨_,⟨h.1,λe=>absurd e hb,λe=>rfl⟩,h.2.2<|by simpa using hb⟩
 have hcS:∀{o:LO}{f:FuncId}{args:List Operand}{σ:PS},SH P o f args σ K->∃σ1,SH P o f args σ (λs=>s=σ1)∧K σ1:=by
  intro o f args σ h;unfold SH at *;split at h
  ·exact⟨_,⟨h.1,h.2.choose,h.2.choose_spec.1,rfl⟩,h.2.choose_spec.2⟩
  ·split at h
   ·rename_i b _ _ q d _ _;by_cases hb:cF b (σ q)=true
    ·exact⟨_,⟨h.1,λe=>⟨(h.2.1 hb).1,(h.2.1 hb).2.choose,(h.2.1 hb).2.choose_spec.1,rfl⟩,λe=>by rw[hb]at e;cases e⟩,(h.2.1 hb).2.choose_spec.2⟩
    ·exact⟨_,⟨h.1,λe=>absurd e hb,λe=>rfl⟩,h.2.2<|by simpa using hb⟩
   ·exact h.elim
 have ha:∀{o:LO}{x:Operand}{d:Nat}{σ:PS},Sl tb o x d σ K->∃σ1,Sl tb o x d σ (λs=>s=σ1)∧K σ1:=by
  intro o x d σ h;unfold Sl at *;split at h
  ·split at h
   ·exact⟨_,rfl,h⟩
   ·exact h.elim
  ·exact⟨_,rfl,h⟩
  ·split at h
   ·exact⟨_,rfl,h⟩
   ·exact⟨_,rfl,h⟩
   ·exact⟨_,rfl,h⟩
   ·exact⟨_,⟨h.1,rfl⟩,h.2⟩
  ·exact⟨_,⟨h.1,rfl⟩,h.2⟩
 have hF:∀{o:LO}{f:FuncId}{args:List Operand}{σ:PS},N8 P cns o f args σ K->∃σ1,N8 P cns o f args σ (λs=>s=σ1)∧K σ1:=by
  intro o f args σ h;unfold N8 at *;split at h
  ·rename_i hc;simp only[Aw hc];obtain⟨d,hd,cs,q0,q1,q2,q3,q4⟩:=h;exact⟨_,⟨d,hd,cs,q0,q1,q2,q3,rfl⟩,q4⟩
  ·rename_i hc;simp only[Ay hc];rcases h with h|h|h
   ·obtain⟨s,h1,h2⟩:=hcS h;exact⟨s,.inl h1,h2⟩
   ·unfold YI at *;split at h
    ·exact h.elim
    ·rename_i x xs;have key:XW P o f x xs σ K->∃σ1,XW P o f x xs σ (λs=>s=σ1)∧K σ1:=λ⟨s,cs,cs',r,q1,q2,q3,q4,q5,q6⟩=>⟨_,⟨s,cs,cs',r,q1,q2,q3,q4,q5,rfl⟩,q6⟩
     split at h
     ·obtain⟨s,h1,h2⟩:=key h.2;exact⟨s,.inr<|.inl ⟨h.1,h1⟩,h2⟩
     ·obtain⟨s,h1,h2⟩:=RD (X:=λK=>XW P o f x xs σ K) key h;exact⟨s,.inr<|.inl h1,h2⟩
   ·have key:∀{d},YJ P d f args σ K->∃σ1,YJ P d f args σ (λs=>s=σ1)∧K σ1:=λh=>h.elim (λ⟨s,xs,cs,cs',D,q1,q2,q3,q4,q5,q6,q7,q8,q9⟩=>⟨_,.inl ⟨s,xs,cs,cs',D,q1,q2,q3,q4,q5,q6,q7,q8,rfl⟩,q9⟩)
     (λh=>h.elim (λ⟨zs,x,xs,ys,us,os,os',r,D,q1,q2,q3,q4,q5,q6,q7,q8,q9⟩=>⟨_,.inr (.inl ⟨zs,x,xs,ys,us,os,os',r,D,q1,q2,q3,q4,q5,q6,q7,q8,rfl⟩),q9⟩)
      (λ⟨zs,x,s,n,n',e,cs,cs',r,q1,q2,q3,q4,q5,q6,q7,q8,q9⟩=>⟨_,.inr (.inr ⟨zs,x,s,n,n',e,cs,cs',r,q1,q2,q3,q4,q5,q6,q7,q8,rfl⟩),q9⟩))
    unfold Z1 at *;split at h
    ·obtain⟨s,h1,h2⟩:=key h.2;exact⟨s,.inr<|.inr ⟨h.1,h1⟩,h2⟩
    ·obtain⟨s,h1,h2⟩:=RD (X:=λK=>YJ P (some _) f args σ K) key h;exact⟨s,.inr<|.inr h1,h2⟩
 have hu:∀{x:Operand}{d:Nat}{σ:PS},dc x d σ K->∃σ1,dc x d σ (λs=>s=σ1)∧K σ1:=by
  intro x d σ h;unfold dc at *;split at h
  ·split at h
   ·exact⟨_,⟨h.1,rfl⟩,h.2⟩
   ·exact h.elim
  ·exact h.elim
 unfold Jm at *;split at h
 ·split at h
  ·rename_i hc;simp only[Aw hc];obtain⟨s,h1,h2⟩:=hu h.2;exact⟨s,⟨h.1,h1⟩,h2⟩
  ·rename_i hc;simp only[Ay hc];obtain⟨s,h1,h2⟩:=ha h.2;exact⟨s,⟨h.1,h1⟩,h2⟩
 ·split at h
  ·rename_i hc;simp only[Aw hc];obtain⟨s,h1,h2⟩:=ha h.2;exact⟨s,⟨h.1,h1⟩,h2⟩
  ·rename_i hc;simp only[Ay hc];exact hp h
 ·split at h
  ·rename_i hc;simp only[Aw hc];have h0:=h.1;have h2:=h.2;unfold bA at *;split at h2
   ·split at h2
    ·exact⟨_,⟨h0,h2.1,rfl⟩,h2.2⟩
    ·exact h2.elim
   ·exact⟨_,⟨h0,h2.1,rfl⟩,h2.2⟩
   ·obtain⟨q,g,off,e,n,m,cs,k0,hq,k1,k2,k3,k4⟩:=h2;exact⟨_,⟨h0,q,g,off,e,n,m,cs,k0,hq,k1,k2,k3,rfl⟩,k4⟩
   ·exact h2.elim
  ·rename_i hc;simp only[Ay hc];exact hp h
 ·have h0:=h.1;have h2:=h.2;unfold lY at *;split at h2
  ·split at h2
   ·exact⟨_,⟨h0,h2.1,rfl⟩,h2.2⟩
   ·exact h2.elim
  ·exact h2.elim
 ·have h0:=h.1;have h2:=h.2;unfold kT at *;split at h2
  ·split at h2
   ·exact⟨_,⟨h0,h2.1,h2.2.1,h2.2.2.1,rfl⟩,h2.2.2.2⟩
   ·exact h2.elim
  ·obtain⟨g,off,e,n,m,cs,D,vc,q1,q2,q3,q4,q5,q6,q7,q8,q9,q10⟩:=h2;exact⟨_,⟨h0,g,off,e,n,m,cs,D,vc,q1,q2,q3,q4,q5,q6,q7,q8,q9,rfl⟩,q10⟩
  ·exact h2.elim
 ·have h0:=h.1;have h2:=h.2;unfold X5 at *;split at h2
  ·exact⟨_,⟨h0,h2.1,rfl⟩,h2.2⟩
  ·exact h2.elim
 ·exact⟨_,⟨h.1,h.2.1,h.2.2.1,rfl⟩,h.2.2.2⟩
 ·refine RD (X:=λK=>V9 tb _ _ _ σ K) (λh2=>?_) h;unfold V9 at *;split at h2
  ·split at h2
   ·exact⟨_,rfl,h2⟩
   ·exact h2.elim
  ·exact h2.elim
 ·refine RD (X:=λK=>lD tb _ _ _ _ σ K) (λh2=>?_) h;unfold lD at *;split at h2
  ·split at h2
   ·exact⟨_,⟨h2.1,h2.2.1,rfl⟩,h2.2.2⟩
   ·exact h2.elim
  ·exact h2.elim
 ·split at h
  ·rename_i hc;simp only[Aw hc];have h0:=h.1;have h2:=h.2;unfold iB at *;split at h2
   ·exact⟨_,⟨h0,h2.1,h2.2.1,h2.2.2.1,h2.2.2.2.1,rfl⟩,h2.2.2.2.2⟩
   ·exact h2.elim
  ·rename_i hc;simp only[Ay hc];have h0:=h.1;have h2:=h.2;unfold iA at *;split at h2
   ·exact⟨_,⟨h0,h2.1,h2.2.1,h2.2.2.1,rfl⟩,h2.2.2.2⟩
   ·exact h2.elim
 ·unfold Wb at *;split at h
  ·split at h
   ·exact hF h
   ·have key:∀{d u args},U3 P d u args σ K->∃σ1,U3 P d u args σ (λs=>s=σ1)∧K σ1:=λ⟨f,us,ss,css,css',r,D,q1,q2,q3,q4,q5,q6,q7,q8,q9,q10⟩=>⟨_,⟨f,us,ss,css,css',r,D,q1,q2,q3,q4,q5,q6,q7,q8,q9,rfl⟩,q10⟩
    unfold Yc at *;split at h
    ·obtain⟨s,h1,h2⟩:=key h.2;exact⟨s,⟨h.1,h1⟩,h2⟩
    ·have h0:=h.1;obtain⟨s,h1,h2⟩:=RD (X:=λK=>U3 P (some _) _ _ σ K) key h.2;exact⟨s,⟨h0,h1⟩,h2⟩
   ·unfold fE at *;split at h
    ·exact⟨_,⟨h.1,h.2.1,h.2.2.1,rfl⟩,h.2.2.2⟩
    ·exact h.elim
  ·refine RD (X:=λK=>c5 tb _ _ _ _ _ σ K) (λh2=>?_) h;unfold c5 at *;split at h2
   ·rcases h2.2.2.2.2 with h3|h3
    ·exact⟨_,⟨h2.1,h2.2.1,h2.2.2.1,h2.2.2.2.1,.inl rfl⟩,h3⟩
    ·exact⟨_,⟨h2.1,h2.2.1,h2.2.2.1,h2.2.2.2.1,.inr ⟨rfl,h3.2⟩⟩,h3.1⟩
   ·exact h2.elim
  ·exact hp h
 ·refine RD (X:=λK=>sq P _ _ _ _ σ K) (λh2=>?_) h;unfold sq at *;split at h2
  ·split at h2
   ·exact⟨_,rfl,h2⟩
   ·exact h2.elim
  ·exact h2.elim
 ·refine RD (X:=λK=>mkF _ _ _ _ σ K) (λh2=>?_) h;unfold mkF at *;split at h2
  ·exact⟨_,rfl,h2⟩
  ·exact h2.elim
 ·exact hp h
def bm(P:Program)(tb:Tb)(cns:zN):List (zN×zN)->List LO->PS->(PS->Prop)->Prop
 |_,[],σ,K=>bxS cns σ=true∧K σ
 |[],_::_,_,_=>False
 |(R,W)::fps,o::os,σ,K=>ZT R W o.op σ=true∧adB cns R o σ=true∧Jm P tb cns o σ (λσ'=>bm P tb cns fps os σ' K)
def okF(cns:zN):List (zN×zN)->List LO->Bool
 |_,[]=>true
 |[],_::_=>false
 |(R,W)::fps,o::os=>fpB cns R W o&&okF cns fps os
def X6:List zN->List zN->List zN
 |acc,[]=>acc
 |acc,e::es=>X6 (acc++[(e++e.flatMap (λk=>acc.getD k [])).eraseDups]) es
def meets(a b:zN):Bool:=a.any b.contains
def clash(x y:zN×zN):Bool:=meets x.2 y.1 || meets x.2 y.2 || meets x.1 y.2
def isX(o:LO):Bool:=match o.op,o.g,o.dst with
 |.extract (.tmp _) _,none,some _=>true
 |_,_,_=>false
def isM(o:LO):Bool:=match o.op,o.g,o.dst with
 |.move (.tmp _),none,some _=>true
 |_,_,_=>false
def AhV(o:LO):Bool:=match o.op with
 |.store _ _ _=>true
 |_=>false
def mvT(o:LO):Option (Nat×Nat):=match o.op,o.g,o.dst with
 |.move (.tmp s),none,some d=>some (s,d)
 |_,_,_=>none
def AjY(ops:List LO):Bool:=ops.any λo=>match o.op with
 |.call c=>match c.callee,c.args.toList with
  |.builtin .append,.tmp x::_=>ops.any λa=>match mvT a with
   |some (s,d)=>d==x&&ops.any λb=>match mvT b with
    |some (e,f)=>e==s&&f !=d
    |none=>false
   |none=>false
  |_,_=>false
 |_=>false
def AjZ(ops:List LO):Bool:=Nat.ble 2 (ops.countP AhV) || AjY ops
def gg(ops:List LO)(i:Nat):Bool:=match ops[i]? with
 |some o=>isX o || (isM o&&AjZ ops)
 |none=>false
def exX{o b}(h:(isX o || (isM o&&b))=true):∃d,o.g=none∧o.dst=some d∧((∃sl a,o.op=.extract (.tmp sl) a)∨∃sl,o.op=.move (.tmp sl)):=by
 rw[Ck,Aa]at h;rcases h with h|⟨h,_⟩
 ·unfold isX at h;split at h
  ·rename_i sl a d c e f;exact⟨d,e,f,.inl ⟨sl,a,c⟩⟩
  ·cases h
 ·unfold isM at h;split at h
  ·rename_i sl d c e f;exact⟨d,e,f,.inr ⟨sl,c⟩⟩
  ·cases h
def enf(es:List zN)(ops:List LO)(i j:Nat):Bool:=gg ops i&&gg ops j&&es.getD i []==es.getD j []
def lkL(ops:List LO)(j:Nat):zN:=match ops[j]? with
 |some o=>UO o.op++gT o
 |none=>[]
def apF(fps:List (zN×zN))(ops:List LO)(i j:Nat):Bool:=match(ops[i]?).bind (·.dst)with
 |some d=> !(lkL ops j).contains d&&((ops[j]?).bind (·.dst))!=some d&&(match(ops[j]?).bind (·.dst)with
  |some e=> !(lkL ops i).contains e
  |none=>true)
 |none=>false
def okD(fps:List (zN×zN))(es:List zN)(ops:List LO):Bool:=
 (fps.length==es.length&&(List.range es.length).all λj=>(es.getD j []).all (λk=>decide (k < j))&&(List.range j).all λi=> !clash (fps.getD i ([],[])) (fps.getD j ([],[])) || ((X6 [] es).getD j []).contains i || enf es ops i j)&&
 (List.range es.length).all λi=> !gg ops i || (List.range es.length).all λj=>j==i || (es.getD j []).contains i || ((X6 [] es).getD i []).contains j || apF fps ops i j
def jm{X:Nat->Prop}{es0:List zN}(g:∀k,X k->∀m∈es0.getD k [],X m):∀(es acc pre:List zN),es0=pre++es->pre.length=acc.length->
  (∀j,(∀k∈es0.getD j [],X k)->∀i∈acc.getD j [],X i)->∀j,(∀k∈es0.getD j [],X k)->∀i∈(X6 acc es).getD j [],X i
 |[],acc,pre,_,_,h=>h
 |e::es,acc,pre,l,n,h=>by
  unfold X6;refine jm g es _ (pre++[e]) (by rw[l];simp) (by simp[n]) ?_;intro j b i hi;rcases Nat.lt_trichotomy j acc.length with c|d|o
  ·refine h j b i ?_;simpa[BZ c]using hi
  ·subst d;have f:es0.getD acc.length []=e:=by rw[l];simp[<-n]
   rw[f]at b;have a:i∈(e++e.flatMap (λk=>acc.getD k [])).eraseDups:=by simpa using hi
   rw[List.mem_eraseDups,Ak,BU]at a;rcases a with a|⟨k,p,a⟩
   ·exact b i a
   ·exact h k (g k<|b k p) i a
  ·exfalso;have:(acc++[(e++e.flatMap (λk=>acc.getD k [])).eraseDups])[j]? =none:=Bu (by simp;omega);rw[AO,this]at hi;simp at hi
def We{α:Type}{p q}(h:∀x,p x=true->q x=true):∀{l:List α}{x:α},x∈l->q x=true->p x=false->l.countP p < l.countP q
 |[],_,a,_,_=>by simp at a
 |y::l,x,a,b,c=>by
  have d:l.countP p<=l.countP q:=List.countP_mono_left<|λx _=>h x
  rw[List.countP_cons,List.countP_cons];rcases AE.1 a with rfl|a
  ·rw[b,c];simp;omega
  ·have:=We h a b c
   have f:(if p y=true then 1 else 0)<=(if q y=true then 1 else 0):=by
    split
    ·rename_i e;rw[Aw (h y e)];exact AJ 1
    ·exact Cd _
   omega
def mix(s:Nat->PS)(W:Nat->zN)(X:Nat->Bool):Nat->PS
 |0=>s 0
 |m+1=>if X m=true then pt (W m) (s<|m+1) (mix s W X m)else mix s W X m
section
variable {s:Nat->PS}{R W:Nat->zN}{X:Nat->Bool}{n i:Nat}
def eJ{q}:∀{m k:Nat},m<=k->(∀j,m<=j->j < k->X j=true->(W j).contains q=false)->mix s W X k q=mix s W X m q:=by
 intro m k b h;induction k with
 |zero=>
  have:m=0:=by omega
  subst this;rfl
 |succ k c=>
  rcases Bb k m with d|a
  ·have:m=k+1:=by omega
   subst this;rfl
  ·rw[<-c a (λj e g=>h j e<|by omega)];simp only[mix];split
   ·rename_i f;have:=h k a (by omega) f;simp only[pt];rw[Ay (by rw[this];exact Bool.false_ne_true)]
   ·rfl
def vV{q}(a:∀m,m < n->∀q,(W m).contains q=false->s (m+1) q=s m q):∀{m:Nat},m<=n->(∀j,j < m->(W j).contains q=true->X j=true)->mix s W X m q=s m q:=by
 intro m e h;induction m with
 |zero=>rfl
 |succ m c=>
  have c:=c (by omega)<|λj f=>h j<|by omega
  simp only[mix];by_cases d:(W m).contains q=true
  ·rw[Aw (h m (by omega) d)];simp only[pt];rw[Aw d]
  ·have b:(W m).contains q=false:=by simpa using d
   split
   ·simp only[pt];rw[Ay d,c,a m (by omega) q b]
   ·rw[c,a m (by omega) q b]
def zc(hi:i < n)(a:∀j q,i < j->j < n->(W i).contains q=true->(W j).contains q=true->X j=false)(d:Nat->Bool)(f:∀j,d j=(X j || j==i)):
  mix s W d n=pt (W i) (s<|i+1) (mix s W X n):=by
 funext q;have b:∀j,j≠i->d j=X j:=λj p=>by rw[f];simp[p]
 have g:d i=true:=by rw[f];simp
 have l:∀m,m<=i->mix s W d m=mix s W X m:=by
  intro m;induction m with
  |zero=>intro _;rfl
  |succ m c=>intro r;simp only[mix];rw[b m (by omega),c (by omega)]
 simp only[pt];by_cases e:(W i).contains q=true
 ·rw[Aw e,eJ (m:=i+1) (by omega) (λj u t o=>?_)]
  ·simp only[mix,Aw g,pt,Aw e]
  ·cases k:(W j).contains q
   ·rfl
   ·rw[b j (by omega),a j q (by omega) t e k]at o;cases o
 ·rw[Ay e]
  have:∀m,m<=n->mix s W d m q=mix s W X m q:=by
   intro m;induction m with
   |zero=>intro _;rfl
   |succ m c=>
    intro r;have c:=c (by omega);simp only[mix];by_cases h:m=i
    ·subst h;rw[Aw g];simp only[pt];rw[Ay e,c];split
     ·simp only[pt];rw[Ay e]
     ·rfl
    ·rw[b m h];split
     ·simp only[pt];split
      ·rfl
      ·exact c
     ·exact c
  exact this n<|AJ _
end
section
variable {P:Program}{tb:Tb}{nt:Nat}{bx cns:zN}{σ:PS}{K:PS->Prop}
def qc:∀{fps:List (zN×zN)}{os:List LO}{σ:PS},okF cns fps os=true->bm P tb cns fps os σ K->
  ∃s:Nat->PS,s 0=σ∧K (s os.length)∧(∀i,i<=os.length->bxS cns (s i)=true)∧∀i o,os[i]? =some o->fpS cns (fps.getD i ([],[])).1 (fps.getD i ([],[])).2 o (s i)∧Jm P tb cns o (s i) (λσ'=>σ'=s (i+1))
 |fps,[],σ,_,h=>by
  have h:bxS cns σ=true∧K σ:=by cases fps<;>exact h
  exact⟨λ_=>σ,rfl,h.2,λ_ _=>h.1,λi o hi=>by simp at hi⟩
 |[],_::_,_,_,h=>h.elim
 |(R,W)::fps,o::os,σ,b,h=>by
  simp only[okF,Aa]at b;have⟨c,a,h⟩:=h;have d:bxS cns σ=true:=by unfold adB at a;rw[Aa]at a;exact a.2
  replace c:fpS cns R W o σ:=⟨b.1,c,a⟩;have⟨σ1,e,f⟩:=dJ h;have⟨s,s0,g,j,k⟩:=qc b.2 f;refine⟨λi=>match i with|0=>σ|i+1=>s i,rfl,by simpa using g,λi hi=>?_,λi l hi=>?_⟩
  ·cases i with
   |zero=>exact d
   |succ i=>exact j i (by simpa using hi)
  cases i with
  |zero=>simp only[Ce,Ar]at hi;subst hi;refine⟨by simpa using c,?_⟩;show Jm P tb cns o σ (λσ'=>σ'=s 0);rw[s0];exact e
  |succ i=>simpa using k i l (by simpa using hi)
def qN{s W X}:∀{n:Nat},(∀m,m<=n->bxS cns (s m)=true)->bxS cns (mix s W X n)=true:=by
 intro n h;refine Am.2 λq b=>?_
 induction n with
 |zero=>exact Am.1 (h 0<|AJ _) q b
 |succ n a=>
  have a:=a<|λm c=>h m<|by omega
  simp only[mix];split
  ·unfold pt;split
   ·exact Am.1 (h (n+1)<|AJ _) q b
   ·exact a
  ·exact a
def td{base St0 w0 w a k}(d:Rel P nt bx base St0 w0 σ a w):Rel P nt bx base St0 w0 σ a {w with drawn:=k}:=by have⟨e,B,h,b,c,f⟩:=d;exact⟨e,B,h.world (λ_ _ h=>h) (λ_ _ _=>rfl) (AJ _) (λ_ _ _=>⟨rfl,λ_=>CY⟩) h.st,⟨b.os,b.tape,b.output,b.size,b.block⟩,c,f⟩
def Yg{ops:Array Oper}{j:Nat}{o:Oper}(a:ops[j]? =some o):(ops.toList.map Xz).getD j []=Xz o:=by rw[AO,BP,Array.getElem?_toList,a];rfl
def eI{a b q}(c:a.contains q=true)(d:b.contains q=true):meets a b=true:=by unfold meets;rw[Cx];exact⟨q,by simpa using c,d⟩
def mf{l:Array Bool}{i j:Nat}(hi:i < l.size):(l.setIfInBounds i true).getD j false=(l.getD j false || j==i):=by
 by_cases h:i=j
 ·subst h;simp[hi]
 ·rw[getD_set_ne false h];have:(j==i)=false:=by simp;omega
  rw[this,FC]
def lW{K'}(a:∀σ,K σ->K' σ):∀{fps:List (zN×zN)}{os:List LO}{σ:PS},bm P tb cns fps os σ K->bm P tb cns fps os σ K'
 |fps,[],σ,h=>by
  have h:bxS cns σ=true∧K σ:=by cases fps<;>exact h
  cases fps<;>exact⟨h.1,a _ h.2⟩
 |[],_::_,_,h=>h.elim
 |(R,W)::fps,o::os,σ,⟨b,c,d⟩=>⟨b,c,uK (λσ' h=>lW a h) d⟩
def we:∀{fps:List (zN×zN)}{os:List LO}{i:Nat}{o:LO},okF cns fps os=true->os[i]? =some o->fpB cns (fps.getD i ([],[])).1 (fps.getD i ([],[])).2 o=true
 |_,[],i,_,_,h=>by simp at h
 |[],_::_,_,_,h,_=>by cases h
 |(R,W)::fps,o::os,i,a,h,hi=>by
  simp only[okF,Aa]at h;cases i with
  |zero=>simp only[Ce,Ar]at hi;subst hi;exact h.1
  |succ i=>have:=we (fps:=fps) (os:=os) (i:=i) (o:=a) h.2 (by simpa using hi);simpa using this
def mQ:∀{fps:List (zN×zN)}{os:List LO}(p:Nat),okF cns fps os=true->okF cns (fps.take p) (os.take p)=true
 |_,[],p,_=>by rw[List.take_nil];cases(List.take p _)<;>rfl
 |[],_::_,_,h=>by cases h
 |(R,W)::fps,o::os,0,_=>rfl
 |(R,W)::fps,o::os,p+1,h=>by simp only[okF,Aa]at h;rw[Ep,Ep,okF,h.1,mQ p h.2];rfl
def qd:∀{os:List LO}{σ:PS},bo P tb cns os σ K->∃s:Nat->PS,s 0=σ∧K (s os.length)∧∀i o,os[i]? =some o->Jm P tb cns o (s i) (λσ'=>σ'=s (i+1))
 |[],σ,h=>⟨λ_=>σ,rfl,h,λi o hi=>by simp at hi⟩
 |o::os,σ,h=>by
  have⟨σ1,a,b⟩:=dJ<|show Jm P tb cns o σ (λσ'=>bo P tb cns os σ' K)from h
  have⟨s,s0,c,d⟩:=qd b;refine⟨λi=>match i with|0=>σ|i+1=>s i,rfl,by simpa using c,λi e hi=>?_⟩;cases i with
  |zero=>simp only[Ce,Ar]at hi;subst hi;show Jm P tb cns o σ (λσ'=>σ'=s 0);rw[s0];exact a
  |succ i=>simpa using d i e (by simpa using hi)
def xt(htb:Jr P tb){ops:Array Oper}{s:Nat->PS}{p:Nat}(hok:ops.toList.all (Vv nt bx)=true)(hA:(ops.toList.map<|CR ops).all (okA bx cns)=true)(hL:∀j,j < ops.size->∀k∈(ops.toList.map Xz).getD j [],k < j)
  (hT:∀j,p<=j->j < ops.size->∀i,p<=i->i < j->((X6 []<|ops.toList.map Xz).getD j []).contains i=true) (hs:∀i o,p<=i->(ops.toList.map<|CR ops)[i]? =some o->Jm P tb cns o (s i) (λσ'=>σ'=s (i+1)))
  {base:Bs}{St0:Nat->Nat->Prop}{w0:World}{Q:Exit->Act->World->Prop}(hQ:∀a w,Rel P nt bx base St0 w0 (s ops.size) a w->Q .normal a w):
  ∀(fuel i:Nat) (listed:Array Bool) (a:Act) (w:World),p<=i->i<=ops.size->listed.size=ops.size->(∀j,j < ops.size->listed.getD j false=decide (j < i))->((List.range ops.size).countP<|λi=> !listed.getD i false)<=fuel->Rel P nt bx base St0 w0 (s i) a w->wpAny P .any ops Q fuel listed a w:=by
 have htf:∀{listed:Array Bool}{j:Nat},listed.size=ops.size->j < ops.size->listed.getD j true=listed.getD j false:=by intro listed j hsz hj;simp only[CQ];rw[Array.getElem?_eq_getElem (by omega)];rfl
 have hone:∀{listed:Array Bool}{i k:Nat},p<=i->listed.size=ops.size->(∀j,j < ops.size->listed.getD j false=decide (j < i))->k∈Region.ready .any ops listed->k=i∧i < ops.size:=by
  intro listed i k hpi hsz hpat hk;rw[Lu]at hk;obtain⟨h0,o,ho,hedge⟩:=hk;have hlt:k < ops.size:=(Gc.1 ho).1;rw[htf hsz hlt,hpat k hlt]at h0;have hki:i<=k:=by have:=Kv h0;omega
  rcases Bb i k with hik|hik
  ·exfalso;have hes:∀m∈(ops.toList.map Xz).getD k [],m < i:=λm hm=>by have hmk:=hL k hlt m hm;rw[Yg ho]at hm;obtain⟨e,he,rfl⟩:=A5.1 hm;rw[Bj]at he;have:=hedge e (by simpa using he.1) he.2;rw[hpat _ (by omega)]at this;exact Oq this
   have:=jm (X:=λm=>m < i) (es0:=ops.toList.map Xz) (λm hm e he=>Nat.lt_trans (hL m (by omega) e he) hm) _ [] [] rfl rfl (λj _ m hm=>by simp at hm) k hes i (by simpa using hT k (by omega) hlt i hpi hik);omega
  ·exact⟨by omega,by omega⟩
 intro fuel;induction fuel with
 |zero=>
  intro i listed a w hpi hi hsz hpat hcnt hr
  have hn:i=ops.size:=by
   rcases Bb i ops.size with h|h
   ·have h0:=List.countP_eq_zero.1 (Nat.le_zero.1 hcnt) i (AB.2 h);rw[hpat i h]at h0;simp at h0
   ·omega
  subst hn;refine⟨?_,hQ a w hr⟩;rw[List.eq_nil_iff_forall_not_mem];intro k hk;have:=(hone hpi hsz hpat hk).2;omega
 |succ fuel ih=>
  intro i listed a w hpi hi hsz hpat hcnt hr
  have hin:i < ops.size->i∈Region.ready .any ops listed:=λhlt=>by
   rw[Lu];refine⟨by rw[htf hsz hlt,hpat i hlt];simp,ops[i],by simp[hlt],λe he hb=>?_⟩;have hm:e.on∈(ops.toList.map Xz).getD i []:=by rw[Yg (o:=ops[i]) (by simp[hlt])];exact Cu<|Bj.2 ⟨by simpa using he,hb⟩
   have:=hL i hlt _ hm;rw[hpat _ (by omega)];exact Ai this
  refine⟨λh0=>?_,λk hk=>?_⟩
  ·have hn:i=ops.size:=by
    rcases Bb i ops.size with h|h
    ·have:=hin h;rw[h0]at this;simp at this
    ·omega
   rw[hn]at hr;exact hQ a w hr
  ·obtain⟨rfl,hlt⟩:=hone hpi hsz hpat hk;have h1:ops[k]? =some ops[k]:=by simp[hlt]
   have h2:(ops.toList.map<|CR ops)[k]? =some (CR ops ops[k]):=by simp[hlt]
   have h3:Vv nt bx ops[k]=true:=by rw[Am]at hok;exact hok _ (by simp)
   have hAo:okA bx cns (CR ops ops[k])=true:=Am.1 hA _<|B3 h2;have hst:=aa (nt:=nt) (bx:=bx) htb h3 hAo (hs k _ hpi h2) base St0 w0 a w Q hr;have hX':∀j,(listed.setIfInBounds k true).getD j false=(listed.getD j false || j==k):=λj=>mf (by omega)
   have hnext:∀a' w',(∃σ',σ'=s (k+1)∧Rel P nt bx base St0 w0 σ' a' w')->wpAny P .any ops Q fuel (listed.setIfInBounds k true) a' w':=by
    rintro a' w' ⟨σ',rfl,hr'⟩;refine ih (k+1) _ a' w' (by omega) hlt (by simp[hsz]) (λj hj=>?_) ?_ hr'
    ·rw[hX',hpat j hj,BX];simp only[Ck,Bf,BG];omega
    ·have:(List.range ops.size).countP (λj=> !(listed.setIfInBounds k true).getD j false) < (List.range ops.size).countP (λj=> !listed.getD j false):=by refine We (λj hj=>?_) (x:=k) (AB.2 hlt) (by rw[hpat k hlt];simp) (by rw[hX'];simp);rw[hX']at hj;revert hj;cases listed.getD j false<;>simp
     omega
   unfold wpOp;rw[h1];simp only;split
   ·rename_i hw;rw[Aw hw]at hst;exact .inl<|Oper.wp_mono hnext hst
   ·rename_i hw;rw[Ay hw]at hst;exact hnext _ _ hst
def ym(htb:Jr P tb){ops:Array Oper}{fps:List (zN×zN)}{s:Nat->PS}{p:Nat}(hp:p<=ops.size)(hok:ops.toList.all (Vv nt bx)=true)(hA:(ops.toList.map<|CR ops).all (okA bx cns)=true)(hD:okD fps (ops.toList.map Xz) (ops.toList.map<|CR ops)=true)
  (hF:okF cns fps (ops.toList.map<|CR ops)=true) (hT:∀j,p<=j->j < ops.size->gg (ops.toList.map<|CR ops) j=false∧∀i,i < j->((X6 []<|ops.toList.map Xz).getD j []).contains i=true∨(i < p∧gg (ops.toList.map<|CR ops) i=true∧∀k∈(ops.toList.map Xz).getD i [],((X6 []<|ops.toList.map Xz).getD j []).contains k=true))
  (hBx:∀i,i<=p->bxS cns (s i)=true)
  (hs:∀i o,i < p->(ops.toList.map<|CR ops)[i]? =some o->fpS cns (fps.getD i ([],[])).1 (fps.getD i ([],[])).2 o (s i)∧Jm P tb cns o (s i) (λσ'=>σ'=s (i+1)))
  {base:Bs}{St0:Nat->Nat->Prop}{w0:World}{Q:Exit->Act->World->Prop}(hQ:∀(fuel:Nat) (listed:Array Bool) (a:Act) (w:World),listed.size=ops.size->(∀j,j < ops.size->listed.getD j false=decide (j < p))->((List.range ops.size).countP<|λi=> !listed.getD i false)<=fuel->Rel P nt bx base St0 w0 (s p) a w->wpAny P .any ops Q fuel listed a w) (hP:∀c a w,¬Q (.panic c) a w):
  ∀(fuel:Nat) (listed:Array Bool) (a:Act) (w:World),listed.size=ops.size->((List.range ops.size).countP<|λi=> !listed.getD i false)<=fuel->
   (∀k,listed.getD k false=true->∀m∈(ops.toList.map Xz).getD k [],listed.getD m false=true)->
   (∀i k,i < k->k < ops.size->enf (ops.toList.map Xz) (ops.toList.map<|CR ops) i k=true->listed.getD k false=true->listed.getD i false=true)->
   (∀j,p<=j->listed.getD j false=false)->Rel P nt bx base St0 w0 (mix s (λi=>(fps.getD i ([],[])).2) (λi=>listed.getD i false) p) a w->wpAny P .any ops Q fuel listed a w:=by
 have hD':=hD;simp only[okD,Aa,Am,AB,Aj,BR,Bf,Ck,AH]at hD';obtain⟨⟨hlen,hD'⟩,hX'⟩:=hD';have hless:∀j,j < ops.size->∀k∈(ops.toList.map Xz).getD j [],k < j:=λj hj=>(hD' j hj).1
 have hcl:∀i j,i < j->j < ops.size->clash (fps.getD i ([],[])) (fps.getD j ([],[]))=true->((X6 []<|ops.toList.map Xz).getD j []).contains i=true∨enf (ops.toList.map Xz) (ops.toList.map<|CR ops) i j=true:=by
  intro i j hij hj hc;rcases(hD' j hj).2 i hij with(h|h)|h
  ·rw[h]at hc;cases hc
  ·exact .inl h
  ·exact .inr h
 have hop:∀i,i < ops.size->∃o,ops[i]? =some o∧(ops.toList.map<|CR ops)[i]? =some (CR ops o)∧Vv nt bx o=true:=by intro i hi;refine⟨ops[i],by simp[hi],by simp[hi],?_⟩;rw[Am]at hok;exact hok _ (by simp)
 have hloc:∀m,m < p->∀q,((fps.getD m ([],[])).2).contains q=false->s (m+1) q=s m q:=by intro m hm q hq;obtain⟨o,h1,h2,h3⟩:=hop m (by omega);obtain⟨hf,he⟩:=hs m _ hm h2;obtain⟨σ1,-,σ',rfl,-,hl⟩:=dJ<|jO (τ:=s m) (λ_ _=>rfl) (hBx m<|by omega) hf he;exact hl q hq
 have htf:∀{listed:Array Bool}{j:Nat},listed.size=ops.size->j < ops.size->listed.getD j true=listed.getD j false:=by intro listed j hsz hj;simp only[CQ];rw[Array.getElem?_eq_getElem (by omega)];rfl
 have hall:∀listed:Array Bool,listed.size=ops.size->Region.ready .any ops listed=[]->∀j,j < ops.size->listed.getD j false=true:=by
  intro listed hsz hr j;induction j using Nat.strongRecOn with
  |_ j ihj=>
   intro hj;cases hx:listed.getD j false
   ·exfalso;obtain⟨o,h1,h2,h3⟩:=hop j hj
    have:j∈Region.ready .any ops listed:=by
     rw[Lu];refine⟨by rw[htf hsz hj];exact hx,o,h1,λe he hb=>?_⟩;have hm:e.on∈(ops.toList.map Xz).getD j []:=by rw[Yg h1];exact Cu<|Bj.2 ⟨by simpa using he,hb⟩
     have:=hless j hj _ hm;exact ihj _ this (by omega)
    rw[hr]at this;simp at this
   ·rfl
 have hend:∀listed:Array Bool,(∀j,j < p->listed.getD j false=true)->mix s (λi=>(fps.getD i ([],[])).2) (λi=>listed.getD i false) p=s p:=λlisted h=>by funext q;exact vV (n:=p) hloc (AJ _)<|λj hj _=>h j hj
 have hsel:∀(j:Nat) (o:Oper) cs b,ops[j]? =some o->o.op≠.select cs b:=by intro j o cs b ho he;have hB:=we hF (i:=j) (o:=CR ops o) (by simp[ho]);have e1:(CR ops o).op=.select cs b:=he;simp[fpB,XA,fpX,spc,e1]at hB
 intro fuel;induction fuel with
 |zero=>
  intro listed a w hsz hcnt hclo hcl2 hz hr;have hl:∀j,j < ops.size->listed.getD j false=true:=by intro j hj;have h0:=List.countP_eq_zero.1 (Nat.le_zero.1 hcnt) j<|AB.2 hj;simpa using h0
  rw[hend listed (λj hj=>hl j<|by omega)]at hr;refine hQ 0 listed a w hsz (λj hj=>?_) hcnt hr;rw[hl j hj];rcases Bb j p with h|h
  ·exact(Ai h).symm
  ·have:=hz j h;rw[hl j hj]at this;cases this
 |succ fuel ih=>
  intro listed a w hsz hcnt hclo hcl2 hz hr;by_cases hful:∀j,j < p->listed.getD j false=true
  ·rw[hend listed hful]at hr;refine hQ (fuel+1) listed a w hsz (λj hj=>?_) hcnt hr;rcases Bb j p with h|h
   ·rw[hful j h];exact(Ai h).symm
   ·rw[hz j h];exact(Af<|by omega).symm
  have hanc:∀j,(∀k∈(ops.toList.map Xz).getD j [],listed.getD k false=true)->∀m∈(X6 []<|ops.toList.map Xz).getD j [],listed.getD m false=true:=
   jm (X:=λk=>listed.getD k false=true) hclo _ [] [] rfl rfl (λj _ m hm=>by simp at hm)
  have hrdy:∀i,i∈Region.ready .any ops listed->(gg (ops.toList.map<|CR ops) i=true∨∀k,gg (ops.toList.map<|CR ops) k=true->k∉Region.ready .any ops listed)->i < p∧listed.getD i false=false∧∀k∈(ops.toList.map Xz).getD i [],listed.getD k false=true:=by
   intro i hi hpr;rw[Lu]at hi;obtain⟨h0,o,ho,hedge⟩:=hi;have hlt:i < ops.size:=(Gc.1 ho).1;rw[htf hsz hlt]at h0;have hes:∀k∈(ops.toList.map Xz).getD i [],listed.getD k false=true:=λk hk=>by rw[Yg ho]at hk;obtain⟨e,he,rfl⟩:=A5.1 hk;rw[Bj]at he;exact hedge e (by simpa using he.1) he.2
   refine⟨?_,h0,hes⟩;rcases Bb i p with h|h
   ·exact h
   ·exfalso;obtain⟨t1,t2⟩:=hT i h hlt;rcases hpr with hpr|hpr
    ·rw[t1]at hpr;cases hpr
    ·refine hful λj hj=>?_
     rcases t2 j (by omega)with t3|⟨_,t3,t4⟩
     ·exact hanc i hes j (by simpa using t3)
     ·cases hx:listed.getD j false
      ·exfalso;obtain⟨oj,hoj,_⟩:=hop j (by omega);refine hpr j t3 ?_;rw[Lu];refine⟨by rw[htf hsz (by omega)];exact hx,oj,hoj,λe he hb=>?_⟩;have hm:e.on∈(ops.toList.map Xz).getD j []:=by rw[Yg hoj];exact Cu<|Bj.2 ⟨by simpa using he,hb⟩
       exact hanc i hes _ (by simpa using t4 _ hm)
      ·rfl
  have step:∀i,i∈Region.ready .any ops listed->(gg (ops.toList.map<|CR ops) i=true∨∀k,gg (ops.toList.map<|CR ops) k=true->k∉Region.ready .any ops listed)->(∀m,m < i->enf (ops.toList.map Xz) (ops.toList.map<|CR ops) m i=true->listed.getD m false=true)->∀o,ops[i]? =some o->
    GL (fps.getD i ([],[])).1 (s i) (mix s (λi=>(fps.getD i ([],[])).2) (λi=>listed.getD i false) p)∧
    (if Region.wanted o (yielded ops a.tmps)then o.wp P a w (wpAny P .any ops Q fuel<|listed.setIfInBounds i true) Q else wpAny P .any ops Q fuel (listed.setIfInBounds i true) (a.put o.dst undef) w):=by
   intro i hi hpr henf o ho;obtain⟨hlt,h0,hes⟩:=hrdy i hi hpr;obtain⟨o',h1,h2,h3⟩:=hop i (by omega);rw[ho]at h1;simp only[Ar]at h1;subst h1;obtain⟨hf,he⟩:=hs i _ hlt h2
   have hbef:∀m,m < i->clash (fps.getD m ([],[])) (fps.getD i ([],[]))=true->listed.getD m false=true:=λm hm hc=>by
    rcases hcl m i hm (by omega) hc with h|h
    ·exact hanc i hes m (by simpa using h)
    ·exact henf m hm h
   have haft:∀m,i < m->m < ops.size->clash (fps.getD i ([],[])) (fps.getD m ([],[]))=true->listed.getD m false=false:=by
    intro m hm hmn hc;cases hx:listed.getD m false
    ·rfl
    ·rcases hcl i m hm hmn hc with h|h
     ·have:=hanc m (hclo m hx) i (by simpa using h);rw[h0]at this;cases this
     ·have:=hcl2 i m hm hmn h hx;rw[h0]at this;cases this
   have hag:GL (fps.getD i ([],[])).1 (s i) (mix s (λi=>(fps.getD i ([],[])).2) (λi=>listed.getD i false) p):=by
    intro q hq;rw[eJ (m:=i) (by omega) (λj h1 h2 hx=>?_)]
    ·exact vV (n:=p) hloc (by omega)<|λj hj hw=>hbef j hj<|by simp only[clash,eI hw hq,Nt]
    ·rcases Bb i j with hij|hij
     ·cases hw:((fps.getD j ([],[])).2).contains q
      ·rfl
      ·rw[haft j hij (by omega) (by simp only[clash,eI hq hw,Bool.or_true])]at hx;cases hx
     ·have:j=i:=by omega
      subst this;rw[h0]at hx;cases hx
   refine⟨hag,?_⟩;have hAo:okA bx cns (CR ops o)=true:=Am.1 hA _<|B3 h2;have hst:=aa (nt:=nt) (bx:=bx) htb h3 hAo (jO hag (qN hBx) hf he) base St0 w0 a w Q hr
   have hnext:∀a' w',(∃σ',Loc (fps.getD i ([],[])).2 (s i) (mix s (λi=>(fps.getD i ([],[])).2) (λi=>listed.getD i false) p) (λσ'=>σ'=s (i+1)) σ'∧Rel P nt bx base St0 w0 σ' a' w')->
     wpAny P .any ops Q fuel (listed.setIfInBounds i true) a' w':=by
    rintro a' w' ⟨σ',⟨σ1,rfl,rfl,-⟩,hr'⟩;have hX':∀j,(listed.setIfInBounds i true).getD j false=(listed.getD j false || j==i):=λj=>mf (by omega)
    refine ih _ a' w' (by simp[hsz]) ?_ ?_ ?_ ?_ ?_
    ·have:(List.range ops.size).countP (λj=> !(listed.setIfInBounds i true).getD j false) < (List.range ops.size).countP (λj=> !listed.getD j false):=by refine We (λj hj=>?_) (x:=i) (AB.2<|by omega) (by simp only[h0];rfl) (by rw[hX'];simp);rw[hX']at hj;revert hj;cases listed.getD j false<;>simp
     omega
    ·intro k hk m hm;rw[hX']at hk;rw[hX'];rw[Ck]at hk;rcases hk with hk|hk
     ·rw[hclo k hk m hm];rfl
     ·have:k=i:=by simpa using hk
      subst this;rw[hes m hm];rfl
    ·intro m k hmk hk hen hx;rw[hX']at hx⊢;rw[Ck]at hx;rcases hx with hx|hx
     ·rw[hcl2 m k hmk hk hen hx];rfl
     ·have:k=i:=by simpa using hx
      subst this;rw[henf m hmk hen];rfl
    ·intro j hj;rw[hX',hz j hj];have:(j==i)=false:=by simp;omega
     rw[this];rfl
    ·rw[zc (X:=λj=>listed.getD j false) hlt (λj q h1 h2 hw hwj=>haft j h1 (by omega)<|by simp only[clash,eI hw hwj,Bool.or_true,Nt]) _ hX'];exact hr'
   split
   ·rename_i hw;rw[Aw hw]at hst;exact Oper.wp_mono hnext hst
   ·rename_i hw;rw[Ay hw]at hst;exact hnext _ _ hst
  by_cases hex:∃i,gg (ops.toList.map<|CR ops) i=true∧i∈Region.ready .any ops listed
  ·
   obtain⟨i,⟨hxi,hi⟩,hleast⟩:∃i,(gg (ops.toList.map<|CR ops) i=true∧i∈Region.ready .any ops listed)∧∀j,j < i->¬(gg (ops.toList.map<|CR ops) j=true∧j∈Region.ready .any ops listed):=by
    obtain⟨i,hi⟩:=hex;induction i using Nat.strongRecOn with
    |_ i ihi=>
     by_cases h:∃j,j < i∧(gg (ops.toList.map<|CR ops) j=true∧j∈Region.ready .any ops listed)
     ·obtain⟨j,hj,hj2⟩:=h;exact ihi j hj hj2
     ·exact⟨i,hi,λj hj hj2=>h ⟨j,hj,hj2⟩⟩
   obtain⟨hlt,h0,hes⟩:=hrdy i hi<|.inl hxi;obtain⟨o,ho,h2,h3⟩:=hop i (by omega)
   have henf:∀m,m < i->enf (ops.toList.map Xz) (ops.toList.map<|CR ops) m i=true->listed.getD m false=true:=by
    intro m hm hen;simp only[enf,Aa,BG]at hen;cases hx:listed.getD m false
    ·exfalso;refine hleast m hm ⟨hen.1.1,?_⟩;obtain⟨om,hom,_⟩:=hop m (by omega);rw[Lu];refine⟨by rw[htf hsz (by omega)];exact hx,om,hom,λe he hb=>?_⟩;have hm2:e.on∈(ops.toList.map Xz).getD m []:=by rw[Yg hom];exact Cu<|Bj.2 ⟨by simpa using he,hb⟩
     rw[hen.2]at hm2;exact hes _ hm2
    ·rfl
   obtain⟨hag,hst⟩:=step i hi (.inl hxi) henf o ho;obtain⟨hf,he⟩:=hs i _ hlt h2;have hX:=hxi;simp only[gg,h2]at hX;obtain⟨d,hg',hd',hopX⟩:=exX hX
   ·have hg2:o.guard=none:=by have:(CR ops o).g=none:=hg';simpa[CR]using this
    have hd2:o.dst=some d:=hd';have hw:Region.wanted o (yielded ops a.tmps)=true:=by simp[Region.wanted,hg2]
    rw[Aw hw]at hst
    have hval:∃u,∀w',(execOp a.eval o).run P w'=.ok (.value u) w':=by
     rcases hopX with⟨sl,ix,hop'⟩|⟨sl,hop'⟩
     ·have hop2:o.op=.extract (.tmp sl) ix:=hop';have hev:=jO hag (qN hBx) hf he;simp only[Jm,hop',hd']at hev;have hev:=hev.2;unfold lY at hev;split at hev
      ·rename_i cs hcs;split at hev
       ·rename_i c hc;obtain⟨St,B,hS,_⟩:=hr;have hsl:=hS.slot sl;rw[hcs]at hsl;obtain⟨us,e1,h1⟩:=hsl;obtain⟨u,b1,b2,h2',_⟩:=LK.split cs ix h1 hc hev.1<|hS.nodup sl;refine⟨u,λw'=>?_⟩;have e2:a.eval (.tmp sl)=.tuple us.toArray:=e1;simp[execOp,hop2,e2,Instr.extract,h2']
       ·exact hev.elim
      ·exact hev.elim
     ·have hop2:o.op=.move (.tmp sl):=hop';exact⟨a.eval<|.tmp sl,λw'=>by simp[execOp,hop2]⟩
    obtain⟨u,hu⟩:=hval;have hfin:wpAny P .any ops Q fuel (listed.setIfInBounds i true) (a.put o.dst u) w:=by have:=hst;unfold Oper.wp at this;rw[hu w]at this;exact this
    refine wpAny_first ho hsel (λc a w h=>absurd h<|hP _ _ _) fuel listed a w ?_ hi (.inl ⟨hw,hu⟩) hfin;intro j oj hoj hji hun hno;have hjn:j < ops.size:=(Gc.1 hoj).1;rw[htf hsz hjn]at hun;have hxx:=(hX' i<|by omega).resolve_left (by rw[hxi];simp) j hjn;have hlj:(ops.toList.map<|CR ops)[j]? =some (CR ops oj):=by simp[hoj]
    rcases hxx with((h|h)|h)|h
    ·exact absurd (by simpa using h) hji
    ·exfalso;have hm2:i∈(ops.toList.map Xz).getD j []:=by simpa using h
     rw[Yg hoj]at hm2;obtain⟨e,he,hei⟩:=A5.1 hm2;rw[Bj]at he;exact hno e (by simpa using he.1) he.2 hei
    ·exfalso;have:=hanc i hes j (by simpa using h);rw[hun]at this;cases this
    ·simp only[apF,h2,hlj,Ph]at h;have hdl:(CR ops o).dst=some d:=hd2;rw[hdl]at h;simp only[Aa,AH,G1,ne_eq]at h;obtain⟨⟨q1,q2⟩,q3⟩:=h
     have hlook:∀(k:Nat) (ok:Oper),ops[k]? =some ok->(ops.toList.map<|CR ops)[k]? =some (CR ops ok)->∀t∈ok.looksAt ops,(lkL (ops.toList.map<|CR ops) k).contains t=true:=by
      intro k ok hok' hlk t ht;unfold lkL;rw[hlk];refine Av.2<|Ak.2 ?_;unfold Oper.looksAt at ht;rcases Ak.1 ht with ht|ht
      ·left;obtain⟨x,hx1,hx2⟩:=List.mem_filterMap.1 ht;cases x<;>simp only[Ar,reduceCtorEq]at hx2
       subst hx2;unfold UO;exact BU.2 ⟨_,hx1,by simp[KN]⟩
      ·right;cases hgk:ok.guard with
       |none=>rw[hgk]at ht;simp at ht
       |some p=>
        rw[hgk]at ht;simp only[Option.mem_toList]at ht;have:(CR ops ok).g=some (gD ops p.1,p.2):=by simp[CR,hgk]
        unfold gT;rw[this];have e3:gD ops p.1=some t:=by simpa[gD]using ht
        rw[e3];simp
     simp only[Oper.apart,hd2];have r1:d∉oj.looksAt ops:=λhm=>by rw[hlook j oj hoj hlj d hm]at q1;cases q1
     have r2:oj.dst≠some d:=q2;cases hdj:oj.dst with
     |none=>simp[r1]
     |some d'=>
      have hdl':(CR ops oj).dst=some d':=hdj;rw[hdl']at q3;have r3:d'∉o.looksAt ops:=λhm=>by simp only[hlook i o ho h2 d' hm]at q3;cases q3
      have r4:d'≠d:=λe=>r2 (by rw[hdj,e])
      simp[r1,r3,r4]
  ·have hnx:∀i,i∈Region.ready .any ops listed->gg (ops.toList.map<|CR ops) i=false:=λi hi=>by
    cases hx:gg (ops.toList.map<|CR ops) i
    ·rfl
    ·exact absurd ⟨i,hx,hi⟩ hex
   refine⟨λh0=>absurd (λj hj=>hall listed hsz h0 j<|by omega) hful,λi hi=>?_⟩;have hpr:∀k,gg (ops.toList.map<|CR ops) k=true->k∉Region.ready .any ops listed:=λk h1 h2=>hex ⟨k,h1,h2⟩
   obtain⟨hlt,_⟩:=hrdy i hi<|.inr hpr;obtain⟨o,ho,_⟩:=hop i (by omega);have:=(step i hi (.inr hpr) (λm _ hen=>by simp only[enf,Aa]at hen;rw[hnx i hi]at hen;cases hen.1.2) o ho).2;unfold wpOp;rw[ho];simp only;split
   ·rename_i hw;rw[Aw hw]at this;exact .inl this
   ·rename_i hw;rw[Ay hw]at this;exact this
def okT(p:Nat)(es:List zN)(ops:List LO):Bool:=decide (p<=es.length)&&(List.range es.length).all λj=>decide (j < p) || (!gg ops j&&(List.range j).all λi=>((X6 [] es).getD j []).contains i || (decide (i < p)&&(gg ops i&&(es.getD i []).all λk=>((X6 [] es).getD j []).contains k)))
def oW(t:Jr P tb)(hm:P.follows .mixedOrders=true)(p:Nat){fps:List (zN×zN)}{es:List zN}{ops:List LO}{Q:Exit->PS->Prop}(u:(okD fps es ops&&(okF cns fps ops&&okT p es ops))=true)
  (h:bm P tb cns (fps.take p) (ops.take p) σ (λσ'=>∀base St0 B a w,Rel P nt bx base St0 B σ' a w->∃σ2,bo P tb cns (ops.drop p) σ2 (Q .normal)∧Rel P nt bx base St0 B σ2 a w)):LS P nt bx (.drw cns fps es ops) σ Q:=by
 intro c r v S;cases c<;>first|cases r|skip
 rename_i id b d;simp only[F3,Uc]at r;split at r
 ·rename_i hd;simp only[LC.drw.injEq,Nz]at r;subst hd;obtain⟨rfl,rfl⟩:=r;intro base St0 B a w hr;rw[Aa,Aa]at u;obtain⟨u,T,C⟩:=u;simp only[okT,Aa,Bf,Aj,BR,Am,AB,Ck,AH]at C;obtain⟨U,C⟩:=C;have x:∀j,p<=j->j < b.size->gg (b.toList.map<|CR b) j=false∧∀i,i < j->((X6 []<|b.toList.map Xz).getD j []).contains i=true∨(i < p∧gg (b.toList.map<|CR b) i=true∧∀k∈(b.toList.map Xz).getD i [],((X6 []<|b.toList.map Xz).getD j []).contains k=true):=λj D y=>(C j y).resolve_left (by omega)
  have H:∀j,p<=j->j < b.size->∀i,p<=i->i < j->((X6 []<|b.toList.map Xz).getD j []).contains i=true:=λj D y i W I=>((x j D y).2 i I).resolve_right (λh=>by omega)
  have J:∀j,j < b.size->∀k∈(b.toList.map Xz).getD j [],k < j:=by have z:=u;simp only[okD,Aa,Am,AB,Aj,BR,Bf]at z;exactλj X=>(z.1.2 j X).1
  obtain⟨s1,s0,Y,Z,hs⟩:=qc (mQ p T) h;have A:((b.toList.map<|CR b).take p).length=p:=by simp;omega
  rw[A]at Y Z;have g:((b.toList.map<|CR b).drop p).length=b.size - p:=by simp
  have L:∀i o,i < p->(b.toList.map<|CR b)[i]? =some o->fpS cns (fps.getD i ([],[])).1 (fps.getD i ([],[])).2 o (s1 i)∧Jm P tb cns o (s1 i) (λσ'=>σ'=s1 (i+1)):=λi o hi M=>by
   have:=hs i o (by rw[List.getElem?_take_of_lt hi];exact M);have e3:(fps.take p).getD i ([],[])=fps.getD i ([],[]):=by simp[AO,List.getElem?_take_of_lt hi]
   rw[e3]at this;exact this
  refine FF (Q:=λe a' w'=>e=.normal∧∃σ',Q .normal σ'∧Rel P nt bx base St0 B σ' a' w') ?_ (λe a' w' h=>by obtain⟨rfl,h⟩:=h;exact h);refine wp_region_any hm (ym t U v S u T x Z L (λfuel f a w D y W I=>by obtain⟨σ2,N,O⟩:=Y _ _ _ _ _ I;obtain⟨s2,t0,tk,ht⟩:=qd N;rw[g]at tk;refine xt t (s:=λi=>s2<|i - p) v S J H (λi o hi M=>?_) (λa' w' R=>⟨rfl,_,tk,R⟩) fuel p f a w (AJ _) U D y W (by simp only[H8];rw[t0];exact O);have:=ht (i - p) o (by rw[Do,show p+(i - p)=i by omega];exact M);show Jm P tb cns o (s2<|i - p) (λσ'=>σ'=s2 (i+1 - p));rw[show i+1 - p=i - p+1 by omega];exact this) (λc a w h=>by cases h.1) _ _ a _ (by simp) ?_ (λk F=>?_) (λi k hik F hen n=>?_) (λj _=>?_) ?_)
  ·have:=List.countP_le_length (p:=λi=> !(Array.replicate b.size false).getD i false) (l:=List.range b.size);simpa using this
  ·exfalso;simp[DO]at F;split at F<;>simp at F
  ·exfalso;simp[DO]at n;split at n<;>simp at n
  ·simp[DO];split<;>rfl
  ·have:mix s1 (λi=>(fps.getD i ([],[])).2) (λi=>(Array.replicate b.size false).getD i false) p=s1 0:=by
    funext q;refine eJ (m:=0) (by omega)<|λj _ X n=>?_
    exfalso;simp[DO]at n;split at n<;>simp at n
   rw[this,s0];exact td hr
 ·cases r
def vM(c:Jr P tb)(e:P.follows .mixedOrders=true){fps:List (zN×zN)}{es:List zN}{ops:List LO}{Q:Exit->PS->Prop}(b:(okD fps es ops&&okF cns fps ops)=true)(h:bm P tb cns fps ops σ (Q .normal)):LS P nt bx (.drw cns fps es ops) σ Q:=by
 rw[Aa]at b;have l:fps.length=es.length:=by have:=b.1;simp only[okD,Aa,BG]at this;exact this.1.1
 by_cases d:ops.length<=es.length
 ·refine oW c e es.length (by rw[Aa,Aa];refine⟨b.1,b.2,?_⟩;simp only[okT,Aa,Bf,Am,AB,Ck];exact⟨AJ _,λj g=>.inl g⟩) ?_;rw[C7 (by omega),C7 d,CI d];exact lW (λσ' i base St0 m a w j=>⟨σ',i,j⟩) h
 ·exfalso
  have:∀{fps:List (zN×zN)}{os:List LO},okF cns fps os=true->os.length<=fps.length:=by
   intro fps os;induction os generalizing fps with
   |nil=>intro _;simp
   |cons o os k=>
    intro h;cases fps with
    |nil=>cases h
    |cons f fps=>simp only[okF,Aa]at h;have:=k h.2;simp only[AD];omega
  have:=this b.2;omega
end
section
variable {P:Program}{nt:Nat}{bx:zN}{σ:PS}{Q:Exit->PS->Prop}{tb:Tb}
end
end
section
section
variable {P:Program}
def Zc(P:Program)(c:V)(u:Value):Prop:=c.DB=true∧∀w a,Ow P w a c u []
def KQ(k:IntKind):Zc P (.int k 0) (.int k 0):=⟨rfl,λ_ _=>⟨rfl,rfl⟩⟩
def rQ:Zc P (.bool false) (.bool false):=⟨rfl,λ_ _=>⟨rfl,rfl⟩⟩
def VH:Zc P (.str []) (.string ⟨#[]⟩):=⟨rfl,λ_ _=>⟨rfl,rfl,Cd _⟩⟩
def EB(e:TypeId):Zc P (.own e 0 []) (.slice none 0 0):=⟨rfl,λ_ _=>oZ e⟩
def Aj3:Zc P (.tok .nilFunc) .nilFunc:=⟨rfl,λ_ _=>⟨rfl,rfl,rfl⟩⟩
def Ff:ZL P [] []:=λ_ _=>⟨rfl,rfl⟩
def Cc{c:V}{cs}{u:Value}{us}(h:Zc P c u)(b:ZL P cs us):ZL P (c::cs) (u::us):=λw a=>⟨u,us,[],[],rfl,rfl,h.1,h.2 w a,b w a⟩
def WY{t}(k:IntKind)(hi:(P.info? t).map (λi=>(i.size,i.zero))=some (1,some<|.int k 0))(b:P.underlying t=some (.int k)):Ng P t (.sc<|.int k 0):=by have⟨i,c,a⟩:=B5.1 hi;simp only[Cq]at a;exact⟨i,_,_,c,a.1,a.2,Cc (KQ k) Ff,b,rfl⟩
def tJ{t}(hi:(P.info? t).map (λi=>(i.size,i.zero))=some (1,some<|.bool false))(b:P.underlying t=some .bool):Ng P t (.sc<|.bool false):=by have⟨i,c,a⟩:=B5.1 hi;simp only[Cq]at a;exact⟨i,_,_,c,a.1,a.2,Cc rQ Ff,b,rfl⟩
def Abi:Option TypeDesc->Bool
 |some (.func _ _ _)=>true
 |_=>false
def Acg{t}(hi:(match(P.info? t).map (λi=>(i.size,i.zero))with|some (1,some .nilFunc)=>true|_=>false)=true)(a:Abi (P.underlying t)=true):Ng P t (.sc<|.tok .nilFunc):=by
 split at hi
 ·rename_i b;have⟨i,d,c⟩:=B5.1 b;simp only[Cq]at c;unfold Abi at a;split at a
  ·rename_i ps rs v e;exact⟨i,_,_,d,c.1,c.2,Cc Aj3 Ff,e,ps,rs,v,rfl⟩
  ·cases a
 ·cases hi
def xQ{t}(hi:(P.info? t).map (λi=>(i.size,i.zero))=some (1,some<|.string ⟨#[]⟩))(b:P.underlying t=some .string):Ng P t (.sc<|.str []):=by have⟨i,c,a⟩:=B5.1 hi;simp only[Cq]at a;exact⟨i,_,_,c,a.1,a.2,Cc VH Ff,b,rfl⟩
def Le{t n z us fs gs}(hi:(P.info? t).map (λi=>(i.size,i.zero))=some (n,some<|.agg us.toArray))(hz:ZL P z us)(hu:P.underlying t=some (.struct gs))
  (hf:gs.toList.map (λf=>(f.offset,Ub P f.type))=fs) (hp:fs.all (λf=>decide (0 < f.2))=true) (h2:(!(TyD.st n z fs).two || (!P.stoodInHeld t&& !P.eqGuardType P.depth t&&gs.toList.all λf=>f.name != "_" &&(match P.underlying f.type with|some (.int _)=>true|_=>false)))=true):Ng P t (.st n z fs):=by
 have⟨i,h1,h3⟩:=B5.1 hi;simp only[Cq]at h3;refine⟨i,_,gs,h1,h3.1,h3.2,by simpa using hz,hu,hf,λf hf=>by have:=Am.1 hp f hf;simpa using this,λh=>?_⟩;rw[h,An,C3,Aa,Aa,AH,AH]at h2;refine⟨h2.1.1,h2.1.2,λf hf=>?_⟩;have:=Am.1 h2.2 f hf;simp only[Aa,G1,ne_eq]at this;refine⟨this.1,?_⟩;have h4:=this.2;split at h4
 ·exact⟨_,by assumption⟩
 ·cases h4
def RX{t e es eb ez zv}(hi:(P.info? t).map (λi=>(i.size,i.zero))=some (1,some<|.slice none 0 0))(c:P.underlying t=some (.slice e))
  (d:(P.info? e).map (λi=>(i.size,i.zero,i.bytes))=some (es,some zv,eb)) (f:ZL P ez zv.cells.toList) (g:ez.length=es) (h:0 < es) (k:0 < eb) (l:eb<=128):Ng P t (.sl e es eb ez):=by
 have⟨i,m,b⟩:=B5.1 hi;have⟨j,n,a⟩:=B5.1 d;simp only[Cq]at b a;exact⟨i,j,zv,m,b.1,b.2,c,n,a.2.1,a.1,a.2.2,f,g,h,k,l⟩
end
def AaB(K:PS->Prop)(Q:Exit->PS->Prop)(σ:PS):WP K Q .normal σ=K σ:=rfl
def AaA(K:PS->Prop)(Q:Exit->PS->Prop)(σ:PS)(i:Nat):WP K Q (.exit i) σ=Q (.exit i) σ:=rfl
def AaC(K:PS->Prop)(Q:Exit->PS->Prop)(σ:PS):WP K Q .ret σ=Q .ret σ:=rfl
def t6(i:Nat)(Q:Exit->PS->Prop)(σ:PS):Yb i Q .normal σ=Q .normal σ:=rfl
def tZ(i j:Nat)(Q:Exit->PS->Prop)(σ:PS):Yb i Q (.exit j) σ=if j=i then Q .normal σ else Q (.exit j) σ:=rfl
def t7(i:Nat)(Q:Exit->PS->Prop)(σ:PS):Yb i Q .ret σ=Q .ret σ:=rfl
def Agl{α:Type}(f:Nat->α)(d:Nat)(x:α)(s:Nat):upd f d x s=if s=d then x else f s:=rfl
def yQ(c:V)(cs:List V):IW (c::cs) 0=c:=rfl
def yW(c:V)(cs:List V)(n:Nat):IW (c::cs) (n+1)=IW cs n:=rfl
def yV(n:Nat):IW [] n=.tup []:=rfl
def yR(c d:V)(cs:List V):IW (c::d::cs) 1=d:=rfl
def yS(c d e:V)(cs:List V):IW (c::d::e::cs) 2=e:=rfl
def yU(c d e f:V)(cs:List V):IW (c::d::e::f::cs) 3=f:=rfl
def AhT(c:Bool):cF true (.bool c)=c:=by cases c<;>rfl
def AhS(c:Bool):cF false (.bool c)= !c:=by cases c<;>rfl
def AhU(b:Bool)(cs:List V):cF b (.tup cs)=false:=rfl
def gIf(c:Bool)(p q:Prop)(_:Tag (p∧q)):Prop:=(c=true->p)∧(c=false->q)
def Aho(p q:Prop)(t:Tag (p∧q)):gIf true p q t=p:=propext ⟨λh=>h.1 rfl,λh=>⟨λ_=>h,λe=>by cases e⟩⟩
def Ahn(p q:Prop)(t:Tag (p∧q)):gIf false p q t=q:=propext ⟨λh=>h.2 rfl,λh=>⟨(λe=>by cases e),λ_=>h⟩⟩
def wE(tb:Tb)(o:LO)(σ:PS)(K:PS->Prop):LM tb o σ K=(match o.dst with
 |none=>False
 |some d=>match o.g with
  |none=>pc tb σ o.op∧K (upd σ d<|pv tb σ o.op)
  |some (none,_)=>False
  |some (some q,b)=>known (σ q)=true∧gIf (cF b (σ q)) (pc tb σ o.op∧K (upd σ d (pv tb σ o.op))) (K (upd σ d (.tup []))) ⟨0⟩):=rfl
def ue(P:Program)(o:LO)(f:FuncId)(a:List Operand)(σ:PS)(K:PS->Prop):SH P o f a σ K=(match o.g with
 |none=>a.all (λx=>(CC σ x).isArg)=true∧∃r,lp P σ f a r∧jh (K<|Vy σ o.dst r) ⟨0⟩
 |some (q,b)=>match q,o.dst with
  |some q,some d=>known (σ q)=true∧gIf (cF b<|σ q) (a.all (λx=>(CC σ x).isArg)=true∧∃r,lp P σ f a r∧jh (K<|upd σ d r) ⟨0⟩) (K<|upd σ d<|.tup []) ⟨0⟩
  |_,_=>False):=rfl
def Agt(a:List V)(es:Nat):TE a es 0=[]:=by simp[TE]
def xM{ez es n}(h:ez.length=es):TE ez es (n+1)=ez++TE ez es n:=by
 unfold TE;rw[DY,FD,Nat.add_comm,List.range_add,Bd,EU];congr 1
 ·apply Di
  ·simp[h]
  ·intro i a b;simp only[Aj,C9]at a;simp[Du a,b]
 ·apply Cf;intro i _;simp
def y6{n}(h:n < 1000):(n<=lim)=True:=eq_true (by unfold lim;omega)
def AcV(l:List V):(∃cs,some l=some cs)=True:=eq_true ⟨l,rfl⟩
def Afr(k:IntKind)(n:Int):DS (.int k n)=true:=rfl
def zo(b:Bool):DS (.bool b)=true:=rfl
def Afu(s:zU):DS (.str s)=true:=rfl
def Afs(e:TypeId)(n:Nat)(cs:List V):DS (.own e n cs)=true:=rfl
def Afq(n:Nat)(cs:List V):DS (.dat n cs)=true:=rfl
def Afo(n:Nat)(cs:List V):DS (.arg n cs)=true:=rfl
def Aft(u:Value)(n:Nat)(cs:List V):DS (.pin u n cs)=true:=rfl
def Ajh(us:List Value)(cs:List V):DS (.gh us cs)=true:=rfl
def Afn(cs:List V):DS (.agg cs)=true:=rfl
def Afv(cs:List V):DS (.tup cs)=true:=rfl
def v6:DS (.undef)=true:=rfl
def zq(s:Nat):DS (.same s)=true:=rfl
def zp(s o:Nat):DS (.cref s o)=true:=rfl
def Afm(cs:List V)(o:Nat):DS (.adr cs o)=true:=rfl
def Afp(cs:List V):DS (.box cs)=false:=rfl
def Afw(e:TypeId)(n:Nat)(cs:List V):DS (.uni e n cs)=false:=rfl
attribute [go_sem] Afr zo Afu Afs Afq Afo Aft Ajh Afn Afv v6 zq zp Afm Afp Afw
attribute [go_sem] y6 AcV Aho Ahn Agt xM
attribute [go_sem] bo bm adP adU KN fU C6 VT D3 iaS dY gw XZ mvV mvC pv pc Qg Tc fj fi uN lZ oN oM Vs Vr CC cV n7 jr unV unC Nh getCells Za Wx faV faC LJ R6 iaV iaC ti th lenV sC X9 WA fe ia dz mxV mxC
 dg VY dg2 V.isVal V.isArg V.DB known AhT AhS AhU C5 Vy Agl er QF IH AaB AaA AaC yQ yR yS yU yW yV t6 tZ t7 TyD.size Q7 S9 Rf fT Sb ZV fo te resV wM kill
attribute [go_sem ↓] Jm wE ue Wb SM Sl dc bA lY kT X5 boxS V9 lD iA iB c5
end
section
def fz:Nat:=1099511627780
def Ap{S O:Type}(body:(S->Option O)->S->Option O):Nat->S->Option O
 |0,_=>none
 |n+1,s=>body (Ap body n) s
def chk{α:Type}(p:Prop)[Decidable p](x:Option α):Option α:=if p then x else none
def AN{α:Type}(l:List α)(i:Int):Option α:=if 0<=i then l[i.toNat]? else none
def C2{α:Type}(l:List α)(lo hi:Int):List α:=(l.take hi.toNat).drop lo.toNat
def En{α:Type}(l:List α)(i:Int)(x:α):List α:=l.set i.toNat x
def G{α β:Type}(x:Option α)(f:α->Option β):Option β:=match x with
 |some a=>f a
 |none=>none
def UB{α:Type}{p:Prop}[Decidable p]{x:Option α}{r:α}(h:chk p x=some r):p∧x=some r:=by
 unfold chk at h;split at h
 ·rename_i a;exact⟨a,h⟩
 ·cases h
def Be{α β:Type}{x:Option α}{f:α->Option β}{r:β}(h:G x f=some r):∃a,x=some a∧f a=some r:=by
 cases x with
 |none=>cases h
 |some a=>exact⟨a,rfl,h⟩
def hZ{α:Type}{b:Bool}{x y:Option α}{r:α}(h:cond b x y=some r):(b=true∧x=some r)∨(b=false∧y=some r):=by
 cases b
 ·exact .inr ⟨rfl,h⟩
 ·exact .inl ⟨rfl,h⟩
def AW{α β:Type}{x:Option α}{f:α->Option β}{r:β}{P:Prop}(h:G x f=some r)(k:∀a,x=some a->f a=some r->P):P:=by obtain⟨a,b,c⟩:=Be h;exact k a b c
def DZ{α β:Type}{x:Option α}{f:α->Option β}{r:β}{P:Prop}(h:G x f=some r)(k:∀a,x=some a->(∀{b:α},b=a->f b=some r)->P):P:=by obtain⟨a,c,d⟩:=Be h;exact k a c (λe=>by rw[e];exact d)
def Fi{α:Type}{p:Prop}[Decidable p]{x:Option α}{r:α}{P:Prop}(h:chk p x=some r)(k:p->x=some r->P):P:=k (UB h).1 (UB h).2
def EC{α:Type}{b:Bool}{x y:Option α}{r:α}{P:Prop}(h:cond b x y=some r)(a:b=true->x=some r->P)(c:b=false->y=some r->P):P:=by
 rcases hZ h with h|h
 ·exact a h.1 h.2
 ·exact c h.1 h.2
def sj{α:Type}{a b:α}(h:some a=some b):a=b:=Dt h
def E{α:Sort _}{a:α}:a=a:=rfl
def rZ{α β:Type}{a:α}{b:β}{p:Prop}:(a=a∨p)∧b=b:=⟨.inl rfl,rfl⟩
def Ji{α β:Type}{P:α×β->Prop}(h:∀a b,P (a,b)):∀x,P x:=λ⟨a,b⟩=>h a b
def pr3{α β γ:Type}{P:α×β×γ->Prop}(h:∀a b c,P (a,b,c)):∀x,P x:=λ⟨a,b,c⟩=>h a b c
def pr4{α β γ δ:Type}{P:α×β×γ×δ->Prop}(h:∀a b c d,P (a,b,c,d)):∀x,P x:=λ⟨a,b,c,d⟩=>h a b c d
def pr5{α β γ δ ε:Type}{P:α×β×γ×δ×ε->Prop}(h:∀a b c d e,P (a,b,c,d,e)):∀x,P x:=λ⟨a,b,c,d,e⟩=>h a b c d e
def BE{α:Type}{l:List α}{i:Int}{x:α}(h:AN l i=some x):0<=i∧i < l.length∧l[i.toNat]? =some x:=by
 unfold AN at h;split at h
 ·rename_i b
  have:i.toNat < l.length:=by
   rcases Bb i.toNat l.length with a|a
   ·exact a
   ·rw[Bu a]at h;cases h
  exact⟨b,by omega,h⟩
 ·cases h
abbrev oL{α:Type}(e:TypeId)(f:α->List V)(x:List α):V:=.own e x.length<|x.flatMap f
abbrev dL{α:Type}(f:α->List V)(x:List α):V:=.dat x.length<|x.flatMap f
abbrev aL{α:Type}(f:α->List V)(x:List α):V:=.arg x.length<|x.flatMap f
abbrev wL{α:Type}(e:TypeId)(f:α->List V)(x:List α):V:=.uni e x.length<|x.flatMap f
abbrev nI(x:Int):V:=.int .i64 x
theorem nb{a b:Nat}(h:Nat.ble a b=true):a<=b:=BQ h
def Bl{α:Type}{f:α->List V}{n:Nat}(a:∀x,(f x).length=n):∀l:List α,(l.flatMap f).length=l.length * n
 |[]=>by simp
 |x::l=>by rw[Ax,Au,a,Bl a l,AD,DY];omega
def Pq{α:Type}{f:α->List V}{n:Nat}(a:∀x,(f x).length=n):∀(l:List α) (k:Nat),(l.flatMap f).drop (k * n)=(l.drop k).flatMap f
 |[],k=>by simp
 |x::l,0=>by simp
 |x::l,k+1=>by rw[Ax,DY,FD,Nat.add_comm,List.drop_append,CI (by rw[a];omega),a,CU,Pq a l k];simp
def ae{α:Type}{f:α->List V}{n:Nat}(a:∀x,(f x).length=n):∀(l:List α) (k:Nat),(l.flatMap f).take (k * n)=(l.take k).flatMap f
 |[],k=>by simp
 |x::l,0=>by simp
 |x::l,k+1=>by rw[Ax,DY,FD,Nat.add_comm,Pf,C7 (by rw[a];omega),a,CU,ae a l k,Ep,Ax]
def ou{α:Type}{f:α->List V}{n:Nat}(b:∀x,(f x).length=n){l:List α}{k:Nat}{x:α}(h:l[k]? =some x)(off:Nat):(l.flatMap f).drop (k * n+off)=(f x).drop off++(l.drop<|k+1).flatMap f∨n < off:=by
 rcases Bb n off with a|a
 ·exact .inr a
 ·left
  have c:k < l.length:=by
   rcases Bb k l.length with a|a
   ·exact a
   ·rw[Bu a]at h;cases h
  have d:l[k]=x:=by rw[Ae c]at h;injection h
  rw[<-Gx,Pq b,BB c,Ax,d,DA (by rw[b];exact a)]
def sr{α:Type}{f:α->List V}{n:Nat}(b:∀x,(f x).length=n){l:List α}{k:Nat}{x:α}(h:l[k]? =some x){d:TyD}{off:Nat}(o:off+d.size<=n):getCells d (l.flatMap f) (k * n+off)=getCells d (f x) off∧k * n+off+d.size<=(l.flatMap f).length:=by
 have p:k < l.length:=by
  rcases Bb k l.length with c|c
  ·exact c
  ·rw[Bu c]at h;cases h
 have i:=(ou b h off).resolve_right (by omega);have j:((f x).drop off).length=n - off:=by rw[Bx,b]
 constructor
 ·have g:∀m,m<=n - off->((l.flatMap f).drop<|k * n+off).take m=((f x).drop off).take m:=λm s=>by rw[i,Hl (by omega)]
  have a:d.size=1->(l.flatMap f)[k * n+off]? =(f x)[off]?:=λh1=>by
   have q:(l.flatMap f)[k * n+off]? =((l.flatMap f).drop<|k * n+off)[0]?:=by rw[Do,CG]
   have r:(f x)[off]? =((f x).drop off)[0]?:=by rw[Do,CG]
   rw[q,r,i,BZ (by omega)]
  cases d with
  |st m z t=>simp only[getCells];rw[g m (by simp only[TyD.size]at o;omega)]
  |sc z=>simp only[getCells];rw[a rfl]
  |sl e es u v=>simp only[getCells];rw[a rfl]
 ·rw[Bl b];have:k * n+n<=l.length * n:=by rw[<-GZ];exact Cy _ p
  omega
def qb:∀(a b:List V),QF (a++b)=QF a++QF b
 |[],b=>rfl
 |c::a,b=>by rw[BY,QF,QF,qb a b,BY]
def SK{α:Type}{f g}(h:∀x,QF (f x)=g x):∀l:List α,QF (l.flatMap f)=l.flatMap g
 |[]=>rfl
 |x::l=>by rw[Ax,Ax,qb,h,SK h l]
def jg{α:Type}{f:α->List V}{n:Nat}{z:α}{a:List V}(b:f z=a)(c:a.length=n):∀k:Nat,TE a n k=(List.replicate k z).flatMap f
 |0=>by simp[TE]
 |k+1=>by rw[xM c,jg b c k,List.replicate_succ,Ax,b]
def iX{α:Type}{f:α->List V}{n:Nat}(a:∀x,(f x).length=n){l:List α}{k:Nat}(b:k < l.length)(x:α):Rf (l.flatMap f) (k * n) (f x)=(l.set k x).flatMap f:=by unfold Rf;rw[a,show k * n+n=(k+1) * n by rw[DY,FD],ae a,Pq a,Jq,Aw b,CK,Ax,Bk]
def CP:List (Nat×V)->PS
 |[]=>λ_=>.undef
 |(s,c)::L=>upd (CP L) s c
def iF(σ:PS):List (Nat×V)->Prop
 |[]=>True
 |(s,c)::L=>Kp (σ s) c∧iF σ L
def okR(L:List (Nat×V)):Bool:=L.all λp=>match D3 p.2 with
 |some b=>(L.map (·.1)).contains b
 |none=>true
def Fg(σ σ':PS):Prop:=∀(P:Program) (nt:Nat) (bx:zN) (base:Bs) (St0:Nat->Nat->Prop) (b:World) (a:Act) (w:World),Rel P nt bx base St0 b σ a w->Rel P nt bx base St0 b σ' a w
def wb{σ}:∀{L:List (Nat×V)},iF σ L->∀s,(s∈L.map (·.1)->Kp (σ s) (CP L s))∧(s∉L.map (·.1)->CP L s=.undef)
 |[],_,s=>⟨λh=>by simp at h,λ_=>rfl⟩
 |(q,c)::L,⟨a,b⟩,s=>by
  have⟨d,f⟩:=wb b s;by_cases e:s=q
  ·subst e;exact⟨λ_=>by simp only[CP,upd_same];exact a,λh=>absurd (by simp) h⟩
  ·simp only[CP,upd_ne _ _ e,AM,AE,e,false_or];exact⟨d,f⟩
def kl{L s b}(h:D3 (CP L s)=some b):∃p∈L,D3 p.2=some b:=by
 induction L with
 |nil=>cases h
 |cons p L a=>
  have⟨q,c⟩:=p;by_cases e:s=q
  ·subst e;rw[show CP ((s,c)::L) s=c from by simp[CP,upd_same]]at h;exact⟨(s,c),by simp,h⟩
  ·rw[show CP ((q,c)::L) s=CP L s from by simp[CP,upd_ne _ _ e]]at h;have⟨p,d,h⟩:=a h;exact⟨p,by simp[d],h⟩
def qU:∀{L:List (Nat×V)}{s:Nat},CP L s≠.undef->s∈L.map (·.1)
 |[],_,h=>absurd rfl h
 |(q,c)::L,s,h=>by
  by_cases e:s=q
  ·subst e;simp
  ·have:CP L s≠.undef:=by rwa [show CP ((q,c)::L) s=CP L s from upd_ne _ _ e]at h
   exact A3 _<|qU this
def jP{σ L}(h1:iF σ L)(h2:okR L=true):Fg σ (CP L):=by
 intro P nt bx base St0 w0 a w hr;have hcl:=wb h1;have⟨St,B,h,hb,hst,hz⟩:=hr;refine wK (λs=>?_) (λs b e he=>?_) ⟨St,B,h,hb,hst,hz⟩
 ·by_cases hs:s∈L.map (·.1)
  ·exact .inr<|(hcl s).1 hs
  ·exact .inl<|(hcl s).2 hs
 ·have⟨p,hp,hpe⟩:=kl e;have hb:b∈L.map (·.1):=by have:=Am.1 h2 p hp;rw[hpe]at this;simpa using this
  have hs:s∈L.map (·.1):=qU (λe'=>by rw[e']at e;cases e);have⟨cs,hcs⟩:=h.crefs s b<|((hcl s).1 hs).rf b e;have hk:=((hcl b).1 hb).bx;rw[he,hcs]at hk;cases hk
section
variable {P:Program}{nt:Nat}{bx:zN}{σ:PS}{Q:Exit->PS->Prop}{tb:Tb}{cns:zN}
def CE{x y}(h:∀{K:PS->Prop},(∀σ',LS P nt bx y σ' Q->K σ')->LS P nt bx x σ (WP K Q)):LS P nt bx (.seq x y) σ Q:=Ao λ_=>h
def BS{y Q'}(a:∀σ',LS P nt bx y σ' Q->Q' .normal σ')(h:LS P nt bx y σ Q):LS P nt bx .skip σ Q':=DF<|a _ h
def Abv{l σ'}(d:Fg σ σ')(h:LS P nt bx l σ' Q):LS P nt bx l σ Q:=
 λc e b f base St0 g a w i=>h c e b f base St0 g a w<|d _ _ _ _ _ _ _ _ i
def TW{l}(L:List (Nat×V))(a:iF σ L)(b:okR L=true)(h:LS P nt bx l (CP L) Q):LS P nt bx l σ Q:=Abv (jP a b) h
def vR{ops y}(a:Jr P tb)(h:bo P tb cns ops σ (λσ'=>LS P nt bx y σ' Q)):LS P nt bx (.seq (.rgn cns ops) y) σ Q:=eF<|vQ a h
def Abw{fps es ops y}(a:Jr P tb)(b:P.follows .mixedOrders=true)(c:(okD fps es ops&&okF cns fps ops)=true)(h:bm P tb cns fps ops σ (λσ'=>LS P nt bx y σ' Q)):LS P nt bx (.seq (.drw cns fps es ops) y) σ Q:=eF<|vM a b c h
def Abu{c x y b}(hb:CC σ c=.bool b)(e:b=true)(h:LS P nt bx x σ Q):LS P nt bx (.cond c x y) σ Q:=qL hb (λ_=>h) (λe'=>by rw[e]at e';cases e')
def Abt{c x y b}(hb:CC σ c=.bool b)(e:b=false)(h:LS P nt bx y σ Q):LS P nt bx (.cond c x y) σ Q:=qL hb (λe'=>by rw[e]at e';cases e')<|λ_=>h
def lQ{c}(I:Nat->PS->Prop)(y:Nat)(z:I y σ)(h:∀m σ (N:PS->Prop),I m σ->(∀σ' m' σ'',m' < m->I m' σ''->Fg σ' σ''->N σ')->Oy P nt bx c σ (WP N Q)):Oy P nt bx (.loop c) σ Q:=by
 intro base St0 p a w q b k cs
 have r:∀n σ a w,I n σ->Rel P nt bx base St0 p σ a w->
   ∃e a' w',(∃σ',Q e σ'∧Rel P nt bx base St0 p σ' a' w')∧Arrives P (lone (b.at a<|.code c::.inLoop c::k) cs w) b k cs e a' w':=by
  intro n;induction n using Nat.strongRecOn with
  |_ n A=>
   intro σ a w B q;have⟨e,j,o,⟨σ₁,g,f⟩,d⟩:=h n σ (λσ'=>∃m' σ'',m' < n∧I m' σ''∧Fg σ' σ'') B (λσ' m' σ'' C D F=>⟨m',σ'',C,D,F⟩) base St0 p a w q b (.inLoop c::k) cs;cases e with
   |normal=>have⟨m',σ'',s,t,u⟩:=g;have⟨H,J,K,v,i⟩:=A m' s σ'' j o t<|u _ _ _ _ _ _ _ _ f;exact⟨H,J,K,v,.of_steps (Steps.trans d<|.one step_inLoop) i⟩
   |exit L=>exact⟨_,j,o,⟨σ₁,g,f⟩,.pass (x:=.inLoop c) rfl (λ_ _=>.inl<|by simp) d⟩
   |goto l=>exact⟨_,j,o,⟨σ₁,g,f⟩,.pass (x:=.inLoop c) rfl (λ_ _=>.inl<|by simp) d⟩
   |ret=>exact⟨_,j,o,⟨σ₁,g,f⟩,.pass (x:=.inLoop c) rfl (λ_ _=>.inl<|by simp) d⟩
   |panic M=>exact⟨_,j,o,⟨σ₁,g,f⟩,.pass (x:=.inLoop c) rfl (λ_ _=>.inl<|by simp) d⟩
   |outgrown=>exact⟨_,j,o,⟨σ₁,g,f⟩,.pass (x:=.inLoop c) rfl (λ_ _=>.inl<|by simp) d⟩
 have⟨e,a',w',g,d⟩:=r y σ a w z q;exact⟨e,a',w',g,.of_steps (.one step_loop) d⟩
def vO{x D}(I:Nat->PS->Prop)(e:Nat)(f:I e σ)(a:∀m σ (N:PS->Prop),I m σ->(∀σ' m' σ'',m' < m->I m' σ''->Fg σ' σ''->N σ')->LS P nt bx x σ (WP N Q)):LS P nt bx (.loop D x) σ Q:=by
 intro c b d g;cases c<;>first|(cases b;done)|skip
 ·simp only[F3,Uc]at b;split at b<;>cases b
 ·simp only[F3,Uc,LC.loop.injEq,Nz]at b;exact lQ I e f<|λm σ N h i=>a m σ N h i _ b d g
def A9{x D id}{S O:Type}(L:S->List (Nat×V))(body:(S->Option O)->S->Option O)(c:Nat)(s0:S)(out:O)(h:Ap body c s0=some out)(f:iF σ (L s0))(d:∀s,okR (L s)=true)
  (a:∀m s (N:PS->Prop),body (Ap body m) s=some out->(∀σ' b,Ap body m b=some out->iF σ' (L b)->N σ')->LS P nt bx x (CP<|L s) (WP N<|Yb id Q)):LS P nt bx (.blk id<|.loop D x) σ Q:=by
 refine A4<|Abv (jP f<|d s0)<|vO (λm σ=>∃s,σ=CP (L s)∧Ap body m s=some out) c ⟨s0,rfl,h⟩ ?_;rintro m σ N ⟨s,rfl,e⟩ g;cases m with
 |zero=>cases e
 |succ m=>exact a m s N e<|λσ' b i j=>g σ' m _ (Md m) ⟨b,rfl,i⟩<|jP j<|d b
end
end
section
section
variable {P:Program}{tb:Tb}{cns:zN}{σ:PS}{K:PS->Prop}{d s t:Nat}{c c1 c2 c3:V}{x y z:Operand}
def UX(h:K σ):bo P tb cns [] σ K:=h
def evd{o:LO}{os R W fps}(a:ZT R W o.op σ=true)(b:adB cns R o σ=true)(h:Jm P tb cns o σ (λσ'=>bm P tb cns fps os σ' K)):bm P tb cns ((R,W)::fps) (o::os) σ K:=⟨a,b,h⟩
def Cs{fps}(h:K σ)(a:bxS cns σ=true:=by rfl):bm P tb cns fps [] σ K:=by cases fps<;>exact⟨a,h⟩
def xW(h:σ s=c)(a:c.isVal=true){o:LO}(k:K (upd (upd σ s<|dg c) d c)):Sl tb o (.tmp s) d σ K:=by subst h;unfold Sl;simp only;cases b:σ s<;>rw[b]at a k<;>first|(refine⟨a,?_⟩;simp only[C5,b];exact k)|cases a
def yu{e n cs}(a:cns.contains d=true)(h:σ s=.uni e n cs)(k:K (upd (upd (kill [s] σ) s<|.dat n cs) d<|.own e n cs)):Jm P tb cns ⟨some d,.move<|.tmp s,t,none⟩ σ K:=by simp only[Jm,a,Fl,Sl,h];exact⟨trivial,k⟩
def AcL{e n cs}(a:cns.contains d=true)(h:σ s=.uni e n cs)(b:DS (kill [s] σ d)=true)(k:K (upd (kill [s] σ) d<|.uni e n cs)):Jm P tb cns ⟨some d,.assign<|.tmp s,t,none⟩ σ K:=by simp only[Jm,a,Fl,dc,h];exact⟨trivial,b,k⟩
def AcM{op ta tc}(a:CC σ x=c1)(b:CC σ y=c2)(e:jr (tb ta) op c1 c2)(k:K (upd σ d<|n7 op c1 c2)):Jm P tb cns ⟨some d,.binOp op ta x y tc,t,none⟩ σ K:=by subst a b;exact⟨e,k⟩
def cu8(n:Int):List V:=[.int .u8 n]
def bytesOf(l:zI):zU:=l.map λn=>UInt8.ofNat n.toNat
def AcN{a b e es eb ez z z' l}(f:LJ (CC σ x)=some (l.length,l.flatMap cu8))(m:tb a=some (.sl e es eb ez))(g:tb b=some (.sc<|.str z))(o:tb e=some (.sc<|.int .u8 z'))(k:K (upd σ d<|.str<|bytesOf l)):Jm P tb cns ⟨some d,.convert a b x,t,none⟩ σ K:=by
 have h:(l.flatMap cu8).length=l.length:=by rw[Bl (n:=1) (λ_=>rfl)];omega
 have i:(l.flatMap cu8).all Adh=true:=by rw[Am];intro v p;have⟨n,_,j⟩:=BU.1 p;simp only[cu8,AC]at j;subst j;rfl
 have q:(l.flatMap cu8).map lE=bytesOf l:=by
  clear f h i k;unfold bytesOf;induction l with
  |nil=>rfl
  |cons n l r=>rw[Ax,Bd,r];rfl
 refine⟨?_,?_⟩
 ·simp only[pc,dz,m,g,o,f];cases u:CC σ x<;>rw[u]at f<;>first|exact⟨h,i⟩|cases f
 ·simp only[pv,g];rw[dA f,q];exact k
def AcP{b off cs dd v}(a:cns.contains d=false)(e:Nh σ x=.cref b off)(f:C6 (σ b)=some cs)(g:tb s=some dd)(h:off+dd.size<=cs.length)(i:getCells dd cs off=v)(k:K (upd σ d v)):
  Jm P tb cns ⟨some d,.load s x,t,none⟩ σ K:=by
 simp only[Jm,a,Ct,Dv,LM,pc,pv,Vr,Vs,g,e,Wx,Za,f,i];exact⟨h,k⟩
def AcQ{α:Type}{f:α->List V}{n off b:Nat}{l:List α}{i:Int}{e:α}{g:TypeId}{m:Nat}{dd:TyD}{v:V}(h:cns.contains d=false)(j:Nh σ x=.cref b (i.toNat * n+off))(o:σ b=.uni g m (l.flatMap f))(p:∀x,(f x).length=n)(hi:AN l i=some e)(q:tb s=some dd)(r:off+dd.size<=n)(u:getCells dd (f e) off=v)(k:K (upd σ d v)):
  Jm P tb cns ⟨some d,.load s x,t,none⟩ σ K:=by
 have a:=sr p (BE hi).2.2 r;exact AcP h j (by rw[o];rfl) q a.2 (a.1.trans u) k
def Ahm{e es eb n ez cs kk i}(a:LJ (CC σ x)=some (n,cs))(g:CC σ y=.int kk i)(j:tb s=some (.sl e es eb ez))(hi:0<=i∧i < n)(k:K (upd σ d<|.adr (cs.drop<|i.toNat * es) 0)):Jm P tb cns ⟨some d,.indexAddr s x y,t,none⟩ σ K:=by
 have f:∀b,CC σ x≠.same b:=λb h=>by rw[h]at a;cases a
 have l:dY σ (CC σ x) (CC σ y)=iaC (CC σ x) (CC σ y):=by cases h:CC σ x<;>first|rfl|exact absurd h (f _)|(rw[h]at a;cases a)
 have m:iaS σ es (CC σ x) (CC σ y)=iaV es (CC σ x) (CC σ y):=by cases h:CC σ x<;>first|rfl|exact absurd h (f _)|(rw[h]at a;cases a)
 refine⟨?_,?_⟩
 ·simp only[pc,oM,j];rw[l];simp only[iaC,a,g,R6];exact hi
 ·simp only[pv,oN,j];rw[m];simp only[iaV,a,g,R6];exact k
def AcO{e e' es eb n b ez cs kk i}(a:CC σ x=.same b)(f:σ b=.uni e' n cs)(g:CC σ y=.int kk i)(h:tb s=some (.sl e es eb ez))(hi:0<=i∧i < n)(k:K (upd σ d<|.cref b<|i.toNat * es)):Jm P tb cns ⟨some d,.indexAddr s x y,t,none⟩ σ K:=by
 refine⟨?_,?_⟩
 ·simp only[pc,oM,h,dY,a,f,g,R6];exact hi
 ·simp only[pv,oN,h,iaS,a,f,g,R6];exact k
def AcS{u:zU}{f:IntKind}{i:Int}{b:UInt8}(a:CC σ x=.str u)(e:CC σ y=.int f i)(g:tb s=some (.sc<|.str []))(hi:AN u i=some b)(k:K (upd σ d<|.int .u8 b.toNat)):Jm P tb cns ⟨some d,.index s x y,t,none⟩ σ K:=by
 obtain⟨h,j,l⟩:=BE hi;refine⟨?_,?_⟩
 ·simp only[pc,g,th,a,e,R6];exact⟨trivial,h,j⟩
 ·simp only[pv,ti,a,e,R6,l];exact k
def Aaw{α:Type}{l:List α}{a b:Int}(h:0<=a∧a<=b∧b<=l.length):(C2 l a b).length=b.toNat - a.toNat:=by unfold C2;rw[Bx,At,C8 (by omega)]
def AcT{α:Type}{f:α->List V}{e:TypeId}{es j:Nat}{m:List V}{lst:List α}{lo hi:Option Operand}{l h:Int}(a:LJ (CC σ x)=some (lst.length,lst.flatMap f))(n:tb s=some (.sl e es j m))(g:∀x,(f x).length=es)(o:X9 0 (lo.map<|CC σ)=some l)(p:X9 lst.length (hi.map<|CC σ)=some h)(b:0<=l∧l<=h∧h<=lst.length)
  (k:K (upd σ d<|bC (CC σ x) (C2 lst l h).length<|(C2 lst l h).flatMap f)):Jm P tb cns ⟨some d,.slice s x lo hi none,t,none⟩ σ K:=by
 have q:WA (some<|.sl e es j m) (CC σ x) (lo.map<|CC σ) (hi.map<|CC σ)=bC (CC σ x) (C2 lst l h).length ((C2 lst l h).flatMap f):=by rw[Aaw b];unfold C2;rw[<-Pq g,<-ae g];cases i:CC σ x<;>rw[i]at a<;>first|(simp only[WA,a,o,p];done)|cases a
 refine⟨?_,?_⟩
 ·simp only[pc,n];cases i:CC σ x<;>rw[i]at a<;>first|(simp only[fe,a,o,p];exact⟨b.1,b.2.1,b.2.2,Bl g lst⟩)|cases a
 ·simp only[pv,n,q];exact k
def erA(σ:PS):List Operand->List V->Prop
 |[],e=>e=[]
 |x::xs,e=>∃a b,e=a::b∧(CC σ x).isArg=true∧er (CC σ x)=a∧erA σ xs b
def era{as}{a:V}{xs}(b:(CC σ x).isArg=true)(e:er (CC σ x)=a)(f:erA σ xs as):erA σ (x::xs) (a::as):=⟨a,as,rfl,b,e,f⟩
def AS:erA σ [] []:=rfl
def dI:∀{xs:List Operand}{b:List V},erA σ xs b->xs.all (λx=>(CC σ x).isArg)=true∧(xs.map λx=>er<|CC σ x)=b
 |[],_,h=>⟨rfl,(show _=[]from h).symm⟩
 |x::xs,_,⟨a,f,e,g,i,j⟩=>by have⟨k,l⟩:=dI j;rw[e,By,g,k,AM,i,l];exact⟨rfl,rfl⟩
theorem yt{f:FuncId}{args:Array Operand}{ts:Array TypeId}{dst:Option Nat}{as:List V}{r:V}(hc:dst.toList.any cns.contains=false)(he:erA σ args.toList as)(hs:LQ P f as r)(k:K (Vy σ dst r)):Jm P tb cns ⟨dst,.call {callee:=.value (.func f),args:=args,argTypes:=ts},t,none⟩ σ K:=by
 obtain⟨h1,h2⟩:=dI he
 subst h2
 show N8 P cns _ f args.toList σ K
 unfold N8
 rw[Ay (by simp only[hc];exact Bool.false_ne_true)]
 exact .inl ⟨h1,r,.inl hs,k⟩
def Bq{α:Type}{f g}(h:∀x,QF (f x)=g x)(l:List α):er (.dat l.length<|l.flatMap f)=.dat l.length (l.flatMap g):=by rw[er,SK h]
def QX{α:Type}{f g}(h:∀x,QF (f x)=g x)(l:List α){e:TypeId}:er (.own e l.length<|l.flatMap f)=.dat l.length (l.flatMap g):=by rw[er,SK h]
def I8{α:Type}{f g}(h:∀x,QF (f x)=g x)(l:List α):er (.arg l.length<|l.flatMap f)=.dat l.length (l.flatMap g):=by rw[er,SK h]
def Cp{cs ds}(h:QF cs=ds):er (.agg cs)=.agg ds:=by rw[er,h]
def A2{c a:V}{cs ds}(b:er c=a)(e:QF cs=ds):QF (c::cs)=a::ds:=by rw[QF,b,e]
def Ah(n:Int):List V:=[.int .i64 n]
def cbl(b:Bool):List V:=[.bool b]
def cst(u:zU):List V:=[.str u]
def AQ(n:Int):(Ah n).length=1:=rfl
def AlB(n:Int):(cu8 n).length=1:=rfl
def Aj4(n:Bool):(cbl n).length=1:=rfl
def As(n:Int):QF (Ah n)=Ah n:=rfl
def Oo{α:Type}{f g}(h:∀x,(f x).map VY=g x):∀l:List α,(l.flatMap f).map VY=l.flatMap g
 |[]=>rfl
 |x::l=>by rw[Ax,Bd,h,Ax,Oo h l]
def AcK{α:Type}{f:α->List V}{e:TypeId}{es b p q:Nat}{g ds:List V}{l m:List α}(a:σ p=.own e l.length (l.flatMap f))(h:CC (upd σ p<|.dat l.length<|l.flatMap f) (.tmp q)=c2)(i:LJ c2=some (m.length,ds))(j:ds.length=m.length * es)(n:tb s=some (.sl e es b g))(o:ZV c2=m.flatMap f)(r:l.length+m.length<=lim)(w:c2.isVal=true)
  (k:K (upd (upd (upd σ p<|.dat l.length<|l.flatMap f) q<|dg c2) d<|.own e (l++m).length<|(l++m).flatMap f)):Jm P tb cns ⟨some d,.call {callee:=.builtin .append,args:= #[.tmp p,.tmp q],argTypes:= #[s,s]},t,none⟩ σ K:=by
 subst h;have u:C5 σ (.tmp p)=upd σ p (.dat l.length<|l.flatMap f):=by simp only[C5,a,dg,dg2,VY]
 show c5 tb _ _ _ _ d σ K;unfold c5;have v:CC σ (.tmp p)=.own e l.length (l.flatMap f):=a;rw[n,v,u,i];refine⟨rfl,rfl,j,r,?_⟩;rw[o,<-CK,<-Au];exact .inl k
def yr{α:Type}{f g h:α->List V}{e:TypeId}{es n p q:Nat}{o ds:List V}{l m:List α}(i:σ p=.own e l.length (l.flatMap f))(r:CC (upd σ p<|.dat l.length<|l.flatMap f) (.tmp q)=c2)(u:LJ c2=some (m.length,ds))(v:ds.length=m.length * es)(w:tb s=some (.sl e es n o))(j:ZV c2=m.flatMap h)(A:l.length+m.length<=lim)(H:c2.isVal=true)
  (B:∀x,(f x).map VY=g x) (C:∀x,(h x).map VY=g x) (a:∀x,(f x).all V.DB=true) (b:∀x,(h x).all V.DB=true)
  (k:K (upd (upd (upd σ p<|.dat l.length<|l.flatMap f) q<|dg c2) d<|.own e (l++m).length<|(l++m).flatMap g)):Jm P tb cns ⟨some d,.call {callee:=.builtin .append,args:= #[.tmp p,.tmp q],argTypes:= #[s,s]},t,none⟩ σ K:=by
 subst r;have D:C5 σ (.tmp p)=upd σ p (.dat l.length<|l.flatMap f):=by simp only[C5,i,dg,dg2,VY]
 show c5 tb _ _ _ _ d σ K;unfold c5;have F:CC σ (.tmp p)=.own e l.length (l.flatMap f):=i;rw[w,F,D,u];refine⟨rfl,rfl,v,A,.inr ⟨?_,?_⟩⟩
 ·rw[j,Bd,Oo B,Oo C,<-CK,<-Au]
  have:∀(τ:PS) (c c':V),upd (upd τ d c) d c'=upd τ d c':=by
   intro τ c c';funext q;by_cases e:q=d
   ·rw[e,upd_same,upd_same]
   ·rw[upd_ne _ _ e,upd_ne _ _ e,upd_ne _ _ e]
  rw[this];exact k
 ·rw[j,E8,List.all_flatMap,List.all_flatMap,Aa,Am,Am];exact⟨λx _=>a x,λx _=>b x⟩
def AcU{ty:TypeId}{α:Type}{f:α->List V}{n b:Nat}{l:List α}{i:Int}{e:α}{g:TypeId}{dd:TyD}(m:Nh σ x=.cref b (i.toNat * n))(o:σ b=.uni g l.length (l.flatMap f))(a:∀x,(f x).length=n)(hi:0<=i∧i < l.length)(p:CC σ y=c1)(q:tb t=some dd)(r:c1.isArg=true)(u:n=dd.size)(h:IH c1=f e)
  (k:K (upd (C5 σ y) b<|.uni g (En l i e).length<|(En l i e).flatMap f)):Jm P tb cns ⟨none,.store t x y,ty,none⟩ σ K:=by
 subst p u;have j:i.toNat < l.length:=by omega
 simp only[Jm,kT,q,m,o,C6,VT];refine⟨trivial,r,by rw[h,a],?_,?_⟩
 ·rw[Bl a];have:i.toNat * dd.size+dd.size<=l.length * dd.size:=by rw[<-GZ];exact Cy _ j
  omega
 ·rw[h,iX a j];have v:(En l i e).length=l.length:=by unfold En;rw[Ch]
  rw[v]at k;exact k
def Ahk{dd}(a:DS (σ d)=true)(b:tb s=some dd)(k:K (upd σ d<|.box<|fT dd)):Jm P tb cns ⟨some d,.alloc s,t,none⟩ σ K:=by simp only[Jm,X5,b];exact⟨trivial,a,k⟩
def AcR{α:Type}{f:α->List V}{z:α}{e:TypeId}{es h:Nat}{a:List V}{i j:IntKind}{n:Int}(l:cns.contains d=true)(m:CC σ x=.int i n)(o:CC σ y=.int j n)(p:tb s=some (.sl e es h a))(q:f z=a)(b:a.length=es)(g:0<=n∧n.toNat<=lim)(r:DS (σ d)=true)(k:K (upd σ d<|.uni e (List.replicate n.toNat z).length<|(List.replicate n.toNat z).flatMap f)):Jm P tb cns ⟨some d,.makeSlice s x y,t,none⟩ σ K:=by simp only[Jm,l,Fl,iB,p,m,o];refine⟨trivial,g.1,trivial,g.2,r,?_⟩;rw[jg q b];rw[Iw]at k;exact k
def gOp(cns:zN)(d:Nat):Op->Bool
 |.move _=> !cns.contains d
 |.load _ _=> !cns.contains d
 |.pick .. |.binOp .. |.unOp .. |.convert .. |.fieldAddr .. |.indexAddr .. |.index .. |.slice .. =>true
 |.call c=>match c.callee with
  |.value (.func _)=> !cns.contains d
  |.value _=>false
  |_=>true
 |.build .. |.buildSlice .. |.field .. =>true
 |_=>false
def Ahl{op q b}(j:gOp cns d op=true)(p:σ q=.bool b)(h:Jm P tb cns ⟨some d,op,t,none⟩ σ K):Jm P tb cns ⟨some d,op,t,some (some q,b)⟩ σ K:=by
 have g:known (σ q)=true:=by rw[p];rfl
 have i:cF b (σ q)=true:=by rw[p];simp[cF]
 have k:LM tb ⟨some d,op,t,none⟩ σ K->LM tb ⟨some d,op,t,some (some q,b)⟩ σ K:=by intro h;simp only[LM]at *;exact⟨g,λ_=>h,λe=>by rw[i]at e;cases e⟩
 cases op<;>first|(cases j;done)|exact k h|skip
 case move x=>simp only[gOp,AH]at j;simp only[Jm,j,Ct,Dv]at h⊢;exact k h
 case load s x=>simp only[gOp,AH]at j;simp only[Jm,j,Ct,Dv]at h⊢;exact k h
 case call c=>
  have⟨l,a,ts⟩:=c;cases l with
  |value x=>
   cases x with
   |func f=>
    have m:cns.contains d=false:=by simpa[gOp]using j
    replace h:N8 P cns ⟨some d,.call ⟨.value<|.func f,a,ts⟩,t,none⟩ f a.toList σ K:=h;show N8 P cns ⟨some d,.call ⟨.value<|.func f,a,ts⟩,t,some (some q,b)⟩ f a.toList σ K;unfold N8 at h⊢;rw[Ay (by simpa using m)]at h⊢;rcases h with h|h|h
    ·left;unfold SH at h⊢;exact⟨g,λ_=>h,λe=>absurd e<|by rw[i];simp⟩
    ·right;left;unfold YI at h⊢;split at h
     ·exact h
     ·exact⟨g,λ_=>h,λe=>absurd e<|by rw[i];simp⟩
    ·right;right;exact⟨g,λ_=>h,λe=>absurd e<|by rw[i];simp⟩
   |_=>cases j
  |builtin r=>
   simp only[Jm,Wb]at h⊢;split at h
   ·rename_i o;cases o
   ·exact⟨g,λ_=>h,λe=>absurd e<|by rw[i];simp⟩
   ·exact k h
  |_=>exact k h
 case build s ps=>exact⟨g,λ_=>h,λe=>absurd e<|by rw[i];simp⟩
 case buildSlice s n ps=>exact⟨g,λ_=>h,λe=>absurd e<|by rw[i];simp⟩
 case field s y f=>exact⟨g,λ_=>h,λe=>absurd e<|by rw[i];simp⟩
end
section
variable {P:Program}{nt:Nat}{bx:zN}{σ:PS}{Q:Exit->PS->Prop}{tb:Tb}{cns:zN}
def y8{ops y}(a:Jr P tb)(h:∀K:PS->Prop,(∀σ',LS P nt bx y σ' Q->K σ')->bo P tb cns ops σ K):LS P nt bx (.seq (.rgn cns ops) y) σ Q:=vR a<|h _ λ_ h=>h
def y7{fps es ops y}(a:Jr P tb)(b:P.follows .mixedOrders=true)(c:(okD fps es ops&&okF cns fps ops)=true)(h:∀K:PS->Prop,(∀σ',LS P nt bx y σ' Q->K σ')->bm P tb cns fps ops σ K):LS P nt bx (.seq (.drw cns fps es ops) y) σ Q:=Abw a b c<|h _ λ_ h=>h
end
end
end Go.Proofs.YtdnlfoelbfcmnaaGreatDoor
