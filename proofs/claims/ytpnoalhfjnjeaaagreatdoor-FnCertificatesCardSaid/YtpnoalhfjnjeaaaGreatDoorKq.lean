/- A machine on data, part 2b: regions whose order is open, tables, rules. Over no program; no conditions. -/
import Derived.Test.YtpnoalhfjnjeaaaGreatDoorKp
open Go.RowKit
set_option linter.all false
namespace Go.Proofs.YtpnoalhfjnjeaaaGreatDoor
section
def Sc{K:PS->Prop}{o:LO}{d:Nat}{σ:PS}{X:(PS->Prop)->Prop}(c:X K->∃σ1,X (λs=>s=σ1)∧K σ1)(h:S4 o d σ K (X K)):∃σ1,S4 o d σ (λs=>s=σ1) (X<|λs=>s=σ1)∧K σ1:=by
 unfold S4 at *;split at h
 ·exact c h
 ·exact h.elim
 ·rename_i q b _;by_cases a:cE b (σ q)=true
  ·obtain⟨s,f,g⟩:=c (h.2.1 a);exact⟨s,⟨h.1,λ_=>f,λe=>by rw[a]at e;cases e⟩,g⟩
  ·exact⟨_,⟨h.1,λe=>absurd e a,λ_=>rfl⟩,h.2.2<|by simpa using a⟩
def dB{P:Program}{tb:Tb}{cns:zN}{K:PS->Prop}{o:LO}{σ:PS}(h:Hh P tb cns o σ K):∃σ1,Hh P tb cns o σ (λs=>s=σ1)∧K σ1:=by
 have hp:∀{o:LO}{σ:PS},Mn tb o σ K->∃σ1,Mn tb o σ (λs=>s=σ1)∧K σ1:=by
  intro o σ h;unfold Mn at *;split at h
  ·exact h.elim
  ·split at h
   ·exact⟨_,⟨h.1,rfl⟩,h.2⟩
   ·exact h.elim
   ·rename_i q b _;by_cases hb:cE b (σ q)=true
    ·exact⟨_,⟨h.1,λe=>⟨(h.2.1 hb).1,rfl⟩,λe=>by rw[hb]at e;cases e⟩,(h.2.1 hb).2⟩
    ·exact⟨_,⟨h.1,λe=>absurd e hb,λe=>rfl⟩,h.2.2<|by simpa using hb⟩
 have hcS:∀{o:LO}{f:FuncId}{args:List Operand}{σ:PS},TC P o f args σ K->∃σ1,TC P o f args σ (λs=>s=σ1)∧K σ1:=by
  intro o f args σ h;unfold TC at *;split at h
  ·exact⟨_,⟨h.1,h.2.choose,h.2.choose_spec.1,rfl⟩,h.2.choose_spec.2⟩
  ·split at h
   ·rename_i b _ _ q d _ _;by_cases hb:cE b (σ q)=true
    ·exact⟨_,⟨h.1,λe=>⟨(h.2.1 hb).1,(h.2.1 hb).2.choose,(h.2.1 hb).2.choose_spec.1,rfl⟩,λe=>by rw[hb]at e;cases e⟩,(h.2.1 hb).2.choose_spec.2⟩
    ·exact⟨_,⟨h.1,λe=>absurd e hb,λe=>rfl⟩,h.2.2<|by simpa using hb⟩
   ·exact h.elim
 have ha:∀{o:LO}{x:Operand}{d:Nat}{σ:PS},SZ tb o x d σ K->∃σ1,SZ tb o x d σ (λs=>s=σ1)∧K σ1:=by
  intro o x d σ h;unfold SZ at *;split at h
  ·split at h
   ·exact⟨_,rfl,h⟩
   ·exact h.elim
  ·exact⟨_,rfl,h⟩
  ·split at h
   ·exact⟨_,rfl,h⟩
   ·exact⟨_,rfl,h⟩
   ·exact⟨_,rfl,h⟩
   ·exact⟨_,⟨h.1,rfl⟩,h.2⟩
  ·exact⟨_,⟨h.1,rfl⟩,h.2⟩
 have hF:∀{o:LO}{f:FuncId}{args:List Operand}{σ:PS},Lo P cns o f args σ K->∃σ1,Lo P cns o f args σ (λs=>s=σ1)∧K σ1:=by
  intro o f args σ h;unfold Lo at *;split at h
  ·rename_i hc;simp only[At hc];obtain⟨d,hd,cs,q0,q1,q2,q3,q4⟩:=h;exact⟨_,⟨d,hd,cs,q0,q1,q2,q3,rfl⟩,q4⟩
  ·rename_i hc;simp only[As hc];rcases h with h|h|h
   ·obtain⟨s,h1,h2⟩:=hcS h;exact⟨s,.inl h1,h2⟩
   ·unfold Zg at *;split at h
    ·exact h.elim
    ·rename_i x xs;have key:W7 P o f x xs σ K->∃σ1,W7 P o f x xs σ (λs=>s=σ1)∧K σ1:=λ⟨s,cs,cs',r,q1,q2,q3,q4,q5,q6⟩=>⟨_,⟨s,cs,cs',r,q1,q2,q3,q4,q5,rfl⟩,q6⟩
     split at h
     ·obtain⟨s,h1,h2⟩:=key h.2;exact⟨s,.inr<|.inl ⟨h.1,h1⟩,h2⟩
     ·obtain⟨s,h1,h2⟩:=Sc (X:=λK=>W7 P o f x xs σ K) key h;exact⟨s,.inr<|.inl h1,h2⟩
   ·have key:∀{d},Zh P d f args σ K->∃σ1,Zh P d f args σ (λs=>s=σ1)∧K σ1:=λh=>h.elim (λ⟨s,xs,cs,cs',D,q1,q2,q3,q4,q5,q6,q7,q8,q9⟩=>⟨_,.inl ⟨s,xs,cs,cs',D,q1,q2,q3,q4,q5,q6,q7,q8,rfl⟩,q9⟩)
     (λh=>h.elim (λ⟨zs,x,xs,ys,us,os,os',r,D,q1,q2,q3,q4,q5,q6,q7,q8,q9⟩=>⟨_,.inr (.inl ⟨zs,x,xs,ys,us,os,os',r,D,q1,q2,q3,q4,q5,q6,q7,q8,rfl⟩),q9⟩)
      (λ⟨zs,x,s,n,n',e,cs,cs',r,q1,q2,q3,q4,q5,q6,q7,q8,q9⟩=>⟨_,.inr (.inr ⟨zs,x,s,n,n',e,cs,cs',r,q1,q2,q3,q4,q5,q6,q7,q8,rfl⟩),q9⟩))
    unfold ax at *;split at h
    ·obtain⟨s,h1,h2⟩:=key h.2;exact⟨s,.inr<|.inr ⟨h.1,h1⟩,h2⟩
    ·obtain⟨s,h1,h2⟩:=Sc (X:=λK=>Zh P (some _) f args σ K) key h;exact⟨s,.inr<|.inr h1,h2⟩
 have hu:∀{x:Operand}{d:Nat}{σ:PS},dc x d σ K->∃σ1,dc x d σ (λs=>s=σ1)∧K σ1:=by
  intro x d σ h;unfold dc at *;split at h
  ·split at h
   ·exact⟨_,⟨h.1,rfl⟩,h.2⟩
   ·exact h.elim
  ·exact h.elim
 unfold Hh at *;split at h
 ·split at h
  ·rename_i hc;simp only[At hc];obtain⟨s,h1,h2⟩:=hu h.2;exact⟨s,⟨h.1,h1⟩,h2⟩
  ·rename_i hc;simp only[As hc];obtain⟨s,h1,h2⟩:=ha h.2;exact⟨s,⟨h.1,h1⟩,h2⟩
 ·split at h
  ·rename_i hc;simp only[At hc];obtain⟨s,h1,h2⟩:=ha h.2;exact⟨s,⟨h.1,h1⟩,h2⟩
  ·rename_i hc;simp only[As hc];exact hp h
 ·split at h
  ·rename_i hc;simp only[At hc];have h0:=h.1;have h2:=h.2;unfold ZI at *;split at h2
   ·split at h2
    ·exact⟨_,⟨h0,h2.1,rfl⟩,h2.2⟩
    ·exact h2.elim
   ·exact⟨_,⟨h0,h2.1,rfl⟩,h2.2⟩
   ·obtain⟨q,g,off,e,n,m,cs,k0,hq,k1,k2,k3,k4⟩:=h2;exact⟨_,⟨h0,q,g,off,e,n,m,cs,k0,hq,k1,k2,k3,rfl⟩,k4⟩
   ·exact h2.elim
  ·rename_i hc;simp only[As hc];exact hp h
 ·have h0:=h.1;have h2:=h.2;unfold kR at *;split at h2
  ·split at h2
   ·exact⟨_,⟨h0,h2.1,rfl⟩,h2.2⟩
   ·exact h2.elim
  ·exact h2.elim
 ·have h0:=h.1;have h2:=h.2;unfold j9 at *;split at h2
  ·split at h2
   ·exact⟨_,⟨h0,h2.1,h2.2.1,h2.2.2.1,rfl⟩,h2.2.2.2⟩
   ·exact h2.elim
  ·obtain⟨g,off,e,n,m,cs,D,vc,q1,q2,q3,q4,q5,q6,q7,q8,q9,q10⟩:=h2;exact⟨_,⟨h0,g,off,e,n,m,cs,D,vc,q1,q2,q3,q4,q5,q6,q7,q8,q9,rfl⟩,q10⟩
  ·exact h2.elim
 ·have h0:=h.1;have h2:=h.2;unfold Yv at *;split at h2
  ·exact⟨_,⟨h0,h2.1,rfl⟩,h2.2⟩
  ·exact h2.elim
 ·exact⟨_,⟨h.1,h.2.1,h.2.2.1,rfl⟩,h.2.2.2⟩
 ·refine Sc (X:=λK=>W4 tb _ _ _ σ K) (λh2=>?_) h;unfold W4 at *;split at h2
  ·split at h2
   ·exact⟨_,rfl,h2⟩
   ·exact h2.elim
  ·exact h2.elim
 ·refine Sc (X:=λK=>kA tb _ _ _ _ σ K) (λh2=>?_) h;unfold kA at *;split at h2
  ·split at h2
   ·exact⟨_,⟨h2.1,h2.2.1,rfl⟩,h2.2.2⟩
   ·exact h2.elim
  ·exact h2.elim
 ·split at h
  ·rename_i hc;simp only[At hc];have h0:=h.1;have h2:=h.2;unfold gC at *;split at h2
   ·exact⟨_,⟨h0,h2.1,h2.2.1,h2.2.2.1,h2.2.2.2.1,rfl⟩,h2.2.2.2.2⟩
   ·exact h2.elim
  ·rename_i hc;simp only[As hc];have h0:=h.1;have h2:=h.2;unfold gA at *;split at h2
   ·exact⟨_,⟨h0,h2.1,h2.2.1,h2.2.2.1,rfl⟩,h2.2.2.2⟩
   ·exact h2.elim
 ·unfold W6 at *;split at h
  ·split at h
   ·exact hF h
   ·have key:∀{d u args},VZ P d u args σ K->∃σ1,VZ P d u args σ (λs=>s=σ1)∧K σ1:=λ⟨f,us,ss,css,css',r,D,q1,q2,q3,q4,q5,q6,q7,q8,q9,q10⟩=>⟨_,⟨f,us,ss,css,css',r,D,q1,q2,q3,q4,q5,q6,q7,q8,q9,rfl⟩,q10⟩
    unfold YB at *;split at h
    ·obtain⟨s,h1,h2⟩:=key h.2;exact⟨s,⟨h.1,h1⟩,h2⟩
    ·have h0:=h.1;obtain⟨s,h1,h2⟩:=Sc (X:=λK=>VZ P (some _) _ _ σ K) key h.2;exact⟨s,⟨h0,h1⟩,h2⟩
   ·unfold e9 at *;split at h
    ·exact⟨_,⟨h.1,h.2.1,h.2.2.1,rfl⟩,h.2.2.2⟩
    ·exact h.elim
  ·refine Sc (X:=λK=>cZ tb _ _ _ _ _ σ K) (λh2=>?_) h;unfold cZ at *;split at h2
   ·rcases h2.2.2.2.2 with h3|h3
    ·exact⟨_,⟨h2.1,h2.2.1,h2.2.2.1,h2.2.2.2.1,.inl rfl⟩,h3⟩
    ·exact⟨_,⟨h2.1,h2.2.1,h2.2.2.1,h2.2.2.2.1,.inr ⟨rfl,h3.2⟩⟩,h3.1⟩
   ·exact h2.elim
  ·exact hp h
 ·refine Sc (X:=λK=>mZ P _ _ _ _ σ K) (λh2=>?_) h;unfold mZ at *;split at h2
  ·split at h2
   ·exact⟨_,rfl,h2⟩
   ·exact h2.elim
  ·exact h2.elim
 ·refine Sc (X:=λK=>mkF _ _ _ _ σ K) (λh2=>?_) h;unfold mkF at *;split at h2
  ·exact⟨_,rfl,h2⟩
  ·exact h2.elim
 ·exact hp h
def bP(P:Program)(tb:Tb)(a:zN):List (zN×zN)->List LO->PS->(PS->Prop)->Prop
 |_,[],σ,K=>bxS a σ=true∧K σ
 |[],_::_,_,_=>False
 |(R,W)::fps,o::os,σ,K=>aq R W o.op σ=true∧adB a R o σ=true∧Hh P tb a o σ (λσ'=>bP P tb a fps os σ' K)
def okF(a:zN):List (zN×zN)->List LO->Bool
 |_,[]=>true
 |[],_::_=>false
 |(R,W)::fps,o::os=>fpB a R W o&&okF a fps os
def Yw:List zN->List zN->List zN
 |acc,[]=>acc
 |acc,e::es=>Yw (acc++[(e++e.flatMap (λk=>acc.getD k [])).eraseDups]) es
def meets(a b:zN):Bool:=a.any b.contains
def clash(x y:zN×zN):Bool:=meets x.2 y.1 || meets x.2 y.2 || meets x.1 y.2
def isX(o:LO):Bool:=match o.op,o.g,o.dst with
 |.extract (.tmp _) _,none,some _=>true
 |_,_,_=>false
def isM(o:LO):Bool:=match o.op,o.g,o.dst with
 |.move (.tmp _),none,some _=>true
 |_,_,_=>false
def AfY(o:LO):Bool:=match o.op with
 |.store _ _ _=>true
 |_=>false
def Aif(a:List LO):Bool:=Nat.ble 2<|a.countP AfY
def fH(a:List LO)(i:Nat):Bool:=match a[i]? with
 |some o=>isX o || (isM o&&Aif a)
 |none=>false
def exX{o b}(h:(isX o || (isM o&&b))=true):∃d,o.g=none∧o.dst=some d∧((∃sl a,o.op=.extract (.tmp sl) a)∨∃sl,o.op=.move (.tmp sl)):=by
 rw[CP,Ad]at h;rcases h with h|⟨h,_⟩
 ·unfold isX at h;split at h
  ·rename_i sl a d c e f;exact⟨d,e,f,.inl ⟨sl,a,c⟩⟩
  ·cases h
 ·unfold isM at h;split at h
  ·rename_i sl d c e f;exact⟨d,e,f,.inr ⟨sl,c⟩⟩
  ·cases h
def enf(es:List zN)(a:List LO)(i j:Nat):Bool:=fH a i&&fH a j&&es.getD i []==es.getD j []
def lkL(a:List LO)(j:Nat):zN:=match a[j]? with
 |some o=>VE o.op++gT o
 |none=>[]
def apF(fps:List (zN×zN))(a:List LO)(i j:Nat):Bool:=match(a[i]?).bind (·.dst)with
 |some d=> !(lkL a j).contains d&&((a[j]?).bind (·.dst))!=some d&&(match(a[j]?).bind (·.dst)with
  |some e=> !(lkL a i).contains e
  |none=>true)
 |none=>false
def okD(fps:List (zN×zN))(es:List zN)(a:List LO):Bool:=
 (fps.length==es.length&&(List.range es.length).all λj=>(es.getD j []).all (λk=>decide (k < j))&&(List.range j).all λi=> !clash (fps.getD i ([],[])) (fps.getD j ([],[])) || ((Yw [] es).getD j []).contains i || enf es a i j)&&
 (List.range es.length).all λi=> !fH a i || (List.range es.length).all λj=>j==i || (es.getD j []).contains i || ((Yw [] es).getD i []).contains j || apF fps a i j
def iB{X:Nat->Prop}{es0:List zN}(g:∀k,X k->∀m∈es0.getD k [],X m):∀(es acc pre:List zN),es0=pre++es->pre.length=acc.length->
  (∀j,(∀k∈es0.getD j [],X k)->∀i∈acc.getD j [],X i)->∀j,(∀k∈es0.getD j [],X k)->∀i∈(Yw acc es).getD j [],X i
 |[],acc,pre,_,_,h=>h
 |e::es,acc,pre,l,n,h=>by
  unfold Yw;refine iB g es _ (pre++[e]) (by rw[l];simp) (by simp[n]) ?_;intro j b i hi;rcases GV j acc.length with c|d|o
  ·refine h j b i ?_;simpa[B7 c]using hi
  ·subst d;have f:es0.getD acc.length []=e:=by rw[l];simp[<-n]
   rw[f]at b;have a:i∈(e++e.flatMap (λk=>acc.getD k [])).eraseDups:=by simpa using hi
   rw[List.mem_eraseDups,Al,CA]at a;rcases a with a|⟨k,p,a⟩
   ·exact b i a
   ·exact h k (g k<|b k p) i a
  ·exfalso;have:(acc++[(e++e.flatMap (λk=>acc.getD k [])).eraseDups])[j]? =none:=BJ (by simp;omega);rw[A1,this]at hi;simp at hi
def Xb{α:Type}{p q}(h:∀x,p x=true->q x=true):∀{l:List α}{x:α},x∈l->q x=true->p x=false->l.countP p < l.countP q
 |[],_,a,_,_=>by simp at a
 |y::l,x,a,b,c=>by
  have d:l.countP p<=l.countP q:=List.countP_mono_left<|λx _=>h x
  rw[List.countP_cons,List.countP_cons];rcases AA.1 a with rfl|a
  ·rw[b,c];simp;omega
  ·have:=Xb h a b c
   have f:(if p y=true then 1 else 0)<=(if q y=true then 1 else 0):=by
    split
    ·rename_i e;rw[At (h y e)];exact Bb 1
    ·exact Dc _
   omega
def mix(s:Nat->PS)(W:Nat->zN)(X:Nat->Bool):Nat->PS
 |0=>s 0
 |m+1=>if X m=true then pt (W m) (s<|m+1) (mix s W X m)else mix s W X m
section
variable {s:Nat->PS}{R W:Nat->zN}{X:Nat->Bool}{n i:Nat}
def d9{q}:∀{m k:Nat},m<=k->(∀j,m<=j->j < k->X j=true->(W j).contains q=false)->mix s W X k q=mix s W X m q:=by
 intro m k b h;induction k with
 |zero=>
  have:m=0:=by omega
  subst this;rfl
 |succ k c=>
  rcases Bi k m with d|a
  ·have:m=k+1:=by omega
   subst this;rfl
  ·rw[<-c a (λj e g=>h j e<|by omega)];simp only[mix];split
   ·rename_i f;have:=h k a (by omega) f;simp only[pt];rw[As (by rw[this];exact N1)]
   ·rfl
def uE{q}(a:∀m,m < n->∀q,(W m).contains q=false->s (m+1) q=s m q):∀{m:Nat},m<=n->(∀j,j < m->(W j).contains q=true->X j=true)->mix s W X m q=s m q:=by
 intro m e h;induction m with
 |zero=>rfl
 |succ m c=>
  have c:=c (by omega)<|λj f=>h j<|by omega
  simp only[mix];by_cases d:(W m).contains q=true
  ·rw[At (h m (by omega) d)];simp only[pt];rw[At d]
  ·have b:(W m).contains q=false:=by simpa using d
   split
   ·simp only[pt];rw[As d,c,a m (by omega) q b]
   ·rw[c,a m (by omega) q b]
def xZ(hi:i < n)(a:∀j q,i < j->j < n->(W i).contains q=true->(W j).contains q=true->X j=false)(d:Nat->Bool)(f:∀j,d j=(X j || j==i)):
  mix s W d n=pt (W i) (s<|i+1) (mix s W X n):=by
 funext q;have b:∀j,j≠i->d j=X j:=λj p=>by rw[f];simp[p]
 have g:d i=true:=by rw[f];simp
 have l:∀m,m<=i->mix s W d m=mix s W X m:=by
  intro m;induction m with
  |zero=>intro _;rfl
  |succ m c=>intro r;simp only[mix];rw[b m (by omega),c (by omega)]
 simp only[pt];by_cases e:(W i).contains q=true
 ·rw[At e,d9 (m:=i+1) (by omega) (λj u t o=>?_)]
  ·simp only[mix,At g,pt,At e]
  ·cases k:(W j).contains q
   ·rfl
   ·rw[b j (by omega),a j q (by omega) t e k]at o;cases o
 ·rw[As e]
  have:∀m,m<=n->mix s W d m q=mix s W X m q:=by
   intro m;induction m with
   |zero=>intro _;rfl
   |succ m c=>
    intro r;have c:=c (by omega);simp only[mix];by_cases h:m=i
    ·subst h;rw[At g];simp only[pt];rw[As e,c];split
     ·simp only[pt];rw[As e]
     ·rfl
    ·rw[b m h];split
     ·simp only[pt];split
      ·rfl
      ·exact c
     ·exact c
  exact this n<|Bb _
end
section
variable {P:Program}{tb:Tb}{nt:Nat}{bx cns:zN}{σ:PS}{K:PS->Prop}
def oQ:∀{fps:List (zN×zN)}{os:List LO}{σ:PS},okF cns fps os=true->bP P tb cns fps os σ K->
  ∃s:Nat->PS,s 0=σ∧K (s os.length)∧(∀i,i<=os.length->bxS cns (s i)=true)∧∀i o,os[i]? =some o->fpS cns (fps.getD i ([],[])).1 (fps.getD i ([],[])).2 o (s i)∧Hh P tb cns o (s i) (λσ'=>σ'=s (i+1))
 |fps,[],σ,_,h=>by
  have h:bxS cns σ=true∧K σ:=by cases fps<;>exact h
  exact⟨λ_=>σ,rfl,h.2,λ_ _=>h.1,λi o hi=>by simp at hi⟩
 |[],_::_,_,_,h=>h.elim
 |(R,W)::fps,o::os,σ,b,h=>by
  simp only[okF,Ad]at b;have⟨c,a,h⟩:=h;have d:bxS cns σ=true:=by unfold adB at a;rw[Ad]at a;exact a.2
  replace c:fpS cns R W o σ:=⟨b.1,c,a⟩;have⟨σ1,e,f⟩:=dB h;have⟨s,s0,g,j,k⟩:=oQ b.2 f;refine⟨λi=>match i with|0=>σ|i+1=>s i,rfl,by simpa using g,λi hi=>?_,λi l hi=>?_⟩
  ·cases i with
   |zero=>exact d
   |succ i=>exact j i (by simpa using hi)
  cases i with
  |zero=>simp only[Cd,Ay]at hi;subst hi;refine⟨by simpa using c,?_⟩;show Hh P tb cns o σ (λσ'=>σ'=s 0);rw[s0];exact e
  |succ i=>simpa using k i l (by simpa using hi)
def pJ{s W X}:∀{n:Nat},(∀m,m<=n->bxS cns (s m)=true)->bxS cns (mix s W X n)=true:=by
 intro n h;refine Ap.2 λq b=>?_
 induction n with
 |zero=>exact Ap.1 (h 0<|Bb _) q b
 |succ n a=>
  have a:=a<|λm c=>h m<|by omega
  simp only[mix];split
  ·unfold pt;split
   ·exact Ap.1 (h (n+1)<|Bb _) q b
   ·exact a
  ·exact a
def rV{base St0 w0 w a k}(d:Rel P nt bx base St0 w0 σ a w):Rel P nt bx base St0 w0 σ a {w with drawn:=k}:=by have⟨e,B,h,b,c,f⟩:=d;exact⟨e,B,h.world (λ_ _ h=>h) (λ_ _ _=>rfl) (Bb _) (λ_ _ _=>⟨rfl,λ_=>DL⟩) h.st,⟨b.os,b.tape,b.output,b.size,b.block⟩,c,f⟩
def YD{a:Array Oper}{j:Nat}{o:Oper}(b:a[j]? =some o):(a.toList.map X9).getD j []=X9 o:=by rw[A1,BZ,Array.getElem?_toList,b];rfl
def d8{a b q}(c:a.contains q=true)(d:b.contains q=true):meets a b=true:=by unfold meets;rw[C4];exact⟨q,by simpa using c,d⟩
def lg{l:Array Bool}{i j:Nat}(hi:i < l.size):(l.setIfInBounds i true).getD j false=(l.getD j false || j==i):=by
 by_cases h:i=j
 ·subst h;simp[hi]
 ·rw[getD_set_ne false h];have:(j==i)=false:=by simp;omega
  rw[this,Bool.or_false]
def kQ{K'}(a:∀σ,K σ->K' σ):∀{fps:List (zN×zN)}{os:List LO}{σ:PS},bP P tb cns fps os σ K->bP P tb cns fps os σ K'
 |fps,[],σ,h=>by
  have h:bxS cns σ=true∧K σ:=by cases fps<;>exact h
  cases fps<;>exact⟨h.1,a _ h.2⟩
 |[],_::_,_,h=>h.elim
 |(R,W)::fps,o::os,σ,⟨b,c,d⟩=>⟨b,c,s9 (λσ' h=>kQ a h) d⟩
def uQ:∀{fps:List (zN×zN)}{os:List LO}{i:Nat}{o:LO},okF cns fps os=true->os[i]? =some o->fpB cns (fps.getD i ([],[])).1 (fps.getD i ([],[])).2 o=true
 |_,[],i,_,_,h=>by simp at h
 |[],_::_,_,_,h,_=>by cases h
 |(R,W)::fps,o::os,i,a,h,hi=>by
  simp only[okF,Ad]at h;cases i with
  |zero=>simp only[Cd,Ay]at hi;subst hi;exact h.1
  |succ i=>have:=uQ (fps:=fps) (os:=os) (i:=i) (o:=a) h.2 (by simpa using hi);simpa using this
def lO:∀{fps:List (zN×zN)}{os:List LO}(p:Nat),okF cns fps os=true->okF cns (fps.take p) (os.take p)=true
 |_,[],p,_=>by rw[List.take_nil];cases(List.take p _)<;>rfl
 |[],_::_,_,h=>by cases h
 |(R,W)::fps,o::os,0,_=>rfl
 |(R,W)::fps,o::os,p+1,h=>by simp only[okF,Ad]at h;rw[Dx,Dx,okF,h.1,lO p h.2];rfl
def oR:∀{os:List LO}{σ:PS},aJ P tb cns os σ K->∃s:Nat->PS,s 0=σ∧K (s os.length)∧∀i o,os[i]? =some o->Hh P tb cns o (s i) (λσ'=>σ'=s (i+1))
 |[],σ,h=>⟨λ_=>σ,rfl,h,λi o hi=>by simp at hi⟩
 |o::os,σ,h=>by
  have⟨σ1,a,b⟩:=dB<|show Hh P tb cns o σ (λσ'=>aJ P tb cns os σ' K)from h
  have⟨s,s0,c,d⟩:=oR b;refine⟨λi=>match i with|0=>σ|i+1=>s i,rfl,by simpa using c,λi e hi=>?_⟩;cases i with
  |zero=>simp only[Cd,Ay]at hi;subst hi;show Hh P tb cns o σ (λσ'=>σ'=s 0);rw[s0];exact a
  |succ i=>simpa using d i e (by simpa using hi)
def wh(htb:Lr P tb){ops:Array Oper}{s:Nat->PS}{p:Nat}(hok:ops.toList.all (Xn nt bx)=true)(hA:(ops.toList.map<|CO ops).all (okA bx cns)=true)(hL:∀j,j < ops.size->∀k∈(ops.toList.map X9).getD j [],k < j)
  (hT:∀j,p<=j->j < ops.size->∀i,p<=i->i < j->((Yw []<|ops.toList.map X9).getD j []).contains i=true) (hs:∀i o,p<=i->(ops.toList.map<|CO ops)[i]? =some o->Hh P tb cns o (s i) (λσ'=>σ'=s (i+1)))
  {base:Bs}{St0:Nat->Nat->Prop}{w0:World}{Q:Exit->Act->World->Prop}(hQ:∀a w,Rel P nt bx base St0 w0 (s ops.size) a w->Q .normal a w):
  ∀(fuel i:Nat) (listed:Array Bool) (a:Act) (w:World),p<=i->i<=ops.size->listed.size=ops.size->(∀j,j < ops.size->listed.getD j false=decide (j < i))->((List.range ops.size).countP<|λi=> !listed.getD i false)<=fuel->Rel P nt bx base St0 w0 (s i) a w->wpAny P .any ops Q fuel listed a w:=by
 have htf:∀{listed:Array Bool}{j:Nat},listed.size=ops.size->j < ops.size->listed.getD j true=listed.getD j false:=by intro listed j hsz hj;simp only[Dt];rw[Array.getElem?_eq_getElem (by omega)];rfl
 have hone:∀{listed:Array Bool}{i k:Nat},p<=i->listed.size=ops.size->(∀j,j < ops.size->listed.getD j false=decide (j < i))->k∈Region.ready .any ops listed->k=i∧i < ops.size:=by
  intro listed i k hpi hsz hpat hk;rw[L7]at hk;obtain⟨h0,o,ho,hedge⟩:=hk;have hlt:k < ops.size:=(Il.1 ho).1;rw[htf hsz hlt,hpat k hlt]at h0;have hki:i<=k:=by have:=HQ h0;omega
  rcases Bi i k with hik|hik
  ·exfalso;have hes:∀m∈(ops.toList.map X9).getD k [],m < i:=λm hm=>by have hmk:=hL k hlt m hm;rw[YD ho]at hm;obtain⟨e,he,rfl⟩:=Bq.1 hm;rw[CC]at he;have:=hedge e (by simpa using he.1) he.2;rw[hpat _ (by omega)]at this;exact GW this
   have:=iB (X:=λm=>m < i) (es0:=ops.toList.map X9) (λm hm e he=>Nat.lt_trans (hL m (by omega) e he) hm) _ [] [] rfl rfl (λj _ m hm=>by simp at hm) k hes i (by simpa using hT k (by omega) hlt i hpi hik);omega
  ·exact⟨by omega,by omega⟩
 intro fuel;induction fuel with
 |zero=>
  intro i listed a w hpi hi hsz hpat hcnt hr
  have hn:i=ops.size:=by
   rcases Bi i ops.size with h|h
   ·have h0:=List.countP_eq_zero.1 (Nat.le_zero.1 hcnt) i (AQ.2 h);rw[hpat i h]at h0;simp at h0
   ·omega
  subst hn;refine⟨?_,hQ a w hr⟩;rw[List.eq_nil_iff_forall_not_mem];intro k hk;have:=(hone hpi hsz hpat hk).2;omega
 |succ fuel ih=>
  intro i listed a w hpi hi hsz hpat hcnt hr
  have hin:i < ops.size->i∈Region.ready .any ops listed:=λhlt=>by
   rw[L7];refine⟨by rw[htf hsz hlt,hpat i hlt];simp,ops[i],by simp[hlt],λe he hb=>?_⟩;have hm:e.on∈(ops.toList.map X9).getD i []:=by rw[YD (o:=ops[i]) (by simp[hlt])];exact Cf<|CC.2 ⟨by simpa using he,hb⟩
   have:=hL i hlt _ hm;rw[hpat _ (by omega)];exact Ae this
  refine⟨λh0=>?_,λk hk=>?_⟩
  ·have hn:i=ops.size:=by
    rcases Bi i ops.size with h|h
    ·have:=hin h;rw[h0]at this;simp at this
    ·omega
   rw[hn]at hr;exact hQ a w hr
  ·obtain⟨rfl,hlt⟩:=hone hpi hsz hpat hk;have h1:ops[k]? =some ops[k]:=by simp[hlt]
   have h2:(ops.toList.map<|CO ops)[k]? =some (CO ops ops[k]):=by simp[hlt]
   have h3:Xn nt bx ops[k]=true:=by rw[Ap]at hok;exact hok _ (by simp)
   have hAo:okA bx cns (CO ops ops[k])=true:=Ap.1 hA _<|BV h2;have hst:=aI (nt:=nt) (bx:=bx) htb h3 hAo (hs k _ hpi h2) base St0 w0 a w Q hr;have hX':∀j,(listed.setIfInBounds k true).getD j false=(listed.getD j false || j==k):=λj=>lg (by omega)
   have hnext:∀a' w',(∃σ',σ'=s (k+1)∧Rel P nt bx base St0 w0 σ' a' w')->wpAny P .any ops Q fuel (listed.setIfInBounds k true) a' w':=by
    rintro a' w' ⟨σ',rfl,hr'⟩;refine ih (k+1) _ a' w' (by omega) hlt (by simp[hsz]) (λj hj=>?_) ?_ hr'
    ·rw[hX',hpat j hj,Ck];simp only[CP,Bu,BK];omega
    ·have:(List.range ops.size).countP (λj=> !(listed.setIfInBounds k true).getD j false) < (List.range ops.size).countP (λj=> !listed.getD j false):=by refine Xb (λj hj=>?_) (x:=k) (AQ.2 hlt) (by rw[hpat k hlt];simp) (by rw[hX'];simp);rw[hX']at hj;revert hj;cases listed.getD j false<;>simp
     omega
   unfold wpOp;rw[h1];simp only;split
   ·rename_i hw;rw[At hw]at hst;exact .inl<|Oper.wp_mono hnext hst
   ·rename_i hw;rw[As hw]at hst;exact hnext _ _ hst
def xc(htb:Lr P tb){ops:Array Oper}{fps:List (zN×zN)}{s:Nat->PS}{p:Nat}(hp:p<=ops.size)(hok:ops.toList.all (Xn nt bx)=true)(hA:(ops.toList.map<|CO ops).all (okA bx cns)=true)(hD:okD fps (ops.toList.map X9) (ops.toList.map<|CO ops)=true)
  (hF:okF cns fps (ops.toList.map<|CO ops)=true) (hT:∀j,p<=j->j < ops.size->fH (ops.toList.map<|CO ops) j=false∧∀i,i < j->((Yw []<|ops.toList.map X9).getD j []).contains i=true∨(i < p∧fH (ops.toList.map<|CO ops) i=true∧∀k∈(ops.toList.map X9).getD i [],((Yw []<|ops.toList.map X9).getD j []).contains k=true))
  (hBx:∀i,i<=p->bxS cns (s i)=true)
  (hs:∀i o,i < p->(ops.toList.map<|CO ops)[i]? =some o->fpS cns (fps.getD i ([],[])).1 (fps.getD i ([],[])).2 o (s i)∧Hh P tb cns o (s i) (λσ'=>σ'=s (i+1)))
  {base:Bs}{St0:Nat->Nat->Prop}{w0:World}{Q:Exit->Act->World->Prop}(hQ:∀(fuel:Nat) (listed:Array Bool) (a:Act) (w:World),listed.size=ops.size->(∀j,j < ops.size->listed.getD j false=decide (j < p))->((List.range ops.size).countP<|λi=> !listed.getD i false)<=fuel->Rel P nt bx base St0 w0 (s p) a w->wpAny P .any ops Q fuel listed a w) (hP:∀c a w,¬Q (.panic c) a w):
  ∀(fuel:Nat) (listed:Array Bool) (a:Act) (w:World),listed.size=ops.size->((List.range ops.size).countP<|λi=> !listed.getD i false)<=fuel->
   (∀k,listed.getD k false=true->∀m∈(ops.toList.map X9).getD k [],listed.getD m false=true)->
   (∀i k,i < k->k < ops.size->enf (ops.toList.map X9) (ops.toList.map<|CO ops) i k=true->listed.getD k false=true->listed.getD i false=true)->
   (∀j,p<=j->listed.getD j false=false)->Rel P nt bx base St0 w0 (mix s (λi=>(fps.getD i ([],[])).2) (λi=>listed.getD i false) p) a w->wpAny P .any ops Q fuel listed a w:=by
 have hD':=hD;simp only[okD,Ad,Ap,AQ,Am,BX,Bu,CP,AY]at hD';obtain⟨⟨hlen,hD'⟩,hX'⟩:=hD';have hless:∀j,j < ops.size->∀k∈(ops.toList.map X9).getD j [],k < j:=λj hj=>(hD' j hj).1
 have hcl:∀i j,i < j->j < ops.size->clash (fps.getD i ([],[])) (fps.getD j ([],[]))=true->((Yw []<|ops.toList.map X9).getD j []).contains i=true∨enf (ops.toList.map X9) (ops.toList.map<|CO ops) i j=true:=by
  intro i j hij hj hc;rcases(hD' j hj).2 i hij with(h|h)|h
  ·rw[h]at hc;cases hc
  ·exact .inl h
  ·exact .inr h
 have hop:∀i,i < ops.size->∃o,ops[i]? =some o∧(ops.toList.map<|CO ops)[i]? =some (CO ops o)∧Xn nt bx o=true:=by intro i hi;refine⟨ops[i],by simp[hi],by simp[hi],?_⟩;rw[Ap]at hok;exact hok _ (by simp)
 have hloc:∀m,m < p->∀q,((fps.getD m ([],[])).2).contains q=false->s (m+1) q=s m q:=by intro m hm q hq;obtain⟨o,h1,h2,h3⟩:=hop m (by omega);obtain⟨hf,he⟩:=hs m _ hm h2;obtain⟨σ1,-,σ',rfl,-,hl⟩:=dB<|i0 (τ:=s m) (λ_ _=>rfl) (hBx m<|by omega) hf he;exact hl q hq
 have htf:∀{listed:Array Bool}{j:Nat},listed.size=ops.size->j < ops.size->listed.getD j true=listed.getD j false:=by intro listed j hsz hj;simp only[Dt];rw[Array.getElem?_eq_getElem (by omega)];rfl
 have hall:∀listed:Array Bool,listed.size=ops.size->Region.ready .any ops listed=[]->∀j,j < ops.size->listed.getD j false=true:=by
  intro listed hsz hr j;induction j using Nat.strongRecOn with
  |_ j ihj=>
   intro hj;cases hx:listed.getD j false
   ·exfalso;obtain⟨o,h1,h2,h3⟩:=hop j hj
    have:j∈Region.ready .any ops listed:=by
     rw[L7];refine⟨by rw[htf hsz hj];exact hx,o,h1,λe he hb=>?_⟩;have hm:e.on∈(ops.toList.map X9).getD j []:=by rw[YD h1];exact Cf<|CC.2 ⟨by simpa using he,hb⟩
     have:=hless j hj _ hm;exact ihj _ this (by omega)
    rw[hr]at this;simp at this
   ·rfl
 have hend:∀listed:Array Bool,(∀j,j < p->listed.getD j false=true)->mix s (λi=>(fps.getD i ([],[])).2) (λi=>listed.getD i false) p=s p:=λlisted h=>by funext q;exact uE (n:=p) hloc (Bb _)<|λj hj _=>h j hj
 have hsel:∀(j:Nat) (o:Oper) cs b,ops[j]? =some o->o.op≠.select cs b:=by intro j o cs b ho he;have hB:=uQ hF (i:=j) (o:=CO ops o) (by simp[ho]);have e1:(CO ops o).op=.select cs b:=he;simp[fpB,Ya,fpX,spc,e1]at hB
 intro fuel;induction fuel with
 |zero=>
  intro listed a w hsz hcnt hclo hcl2 hz hr;have hl:∀j,j < ops.size->listed.getD j false=true:=by intro j hj;have h0:=List.countP_eq_zero.1 (Nat.le_zero.1 hcnt) j<|AQ.2 hj;simpa using h0
  rw[hend listed (λj hj=>hl j<|by omega)]at hr;refine hQ 0 listed a w hsz (λj hj=>?_) hcnt hr;rw[hl j hj];rcases Bi j p with h|h
  ·exact(Ae h).symm
  ·have:=hz j h;rw[hl j hj]at this;cases this
 |succ fuel ih=>
  intro listed a w hsz hcnt hclo hcl2 hz hr;by_cases hful:∀j,j < p->listed.getD j false=true
  ·rw[hend listed hful]at hr;refine hQ (fuel+1) listed a w hsz (λj hj=>?_) hcnt hr;rcases Bi j p with h|h
   ·rw[hful j h];exact(Ae h).symm
   ·rw[hz j h];exact(Ac<|by omega).symm
  have hanc:∀j,(∀k∈(ops.toList.map X9).getD j [],listed.getD k false=true)->∀m∈(Yw []<|ops.toList.map X9).getD j [],listed.getD m false=true:=
   iB (X:=λk=>listed.getD k false=true) hclo _ [] [] rfl rfl (λj _ m hm=>by simp at hm)
  have hrdy:∀i,i∈Region.ready .any ops listed->(fH (ops.toList.map<|CO ops) i=true∨∀k,fH (ops.toList.map<|CO ops) k=true->k∉Region.ready .any ops listed)->i < p∧listed.getD i false=false∧∀k∈(ops.toList.map X9).getD i [],listed.getD k false=true:=by
   intro i hi hpr;rw[L7]at hi;obtain⟨h0,o,ho,hedge⟩:=hi;have hlt:i < ops.size:=(Il.1 ho).1;rw[htf hsz hlt]at h0;have hes:∀k∈(ops.toList.map X9).getD i [],listed.getD k false=true:=λk hk=>by rw[YD ho]at hk;obtain⟨e,he,rfl⟩:=Bq.1 hk;rw[CC]at he;exact hedge e (by simpa using he.1) he.2
   refine⟨?_,h0,hes⟩;rcases Bi i p with h|h
   ·exact h
   ·exfalso;obtain⟨t1,t2⟩:=hT i h hlt;rcases hpr with hpr|hpr
    ·rw[t1]at hpr;cases hpr
    ·refine hful λj hj=>?_
     rcases t2 j (by omega)with t3|⟨_,t3,t4⟩
     ·exact hanc i hes j (by simpa using t3)
     ·cases hx:listed.getD j false
      ·exfalso;obtain⟨oj,hoj,_⟩:=hop j (by omega);refine hpr j t3 ?_;rw[L7];refine⟨by rw[htf hsz (by omega)];exact hx,oj,hoj,λe he hb=>?_⟩;have hm:e.on∈(ops.toList.map X9).getD j []:=by rw[YD hoj];exact Cf<|CC.2 ⟨by simpa using he,hb⟩
       exact hanc i hes _ (by simpa using t4 _ hm)
      ·rfl
  have step:∀i,i∈Region.ready .any ops listed->(fH (ops.toList.map<|CO ops) i=true∨∀k,fH (ops.toList.map<|CO ops) k=true->k∉Region.ready .any ops listed)->(∀m,m < i->enf (ops.toList.map X9) (ops.toList.map<|CO ops) m i=true->listed.getD m false=true)->∀o,ops[i]? =some o->
    GF (fps.getD i ([],[])).1 (s i) (mix s (λi=>(fps.getD i ([],[])).2) (λi=>listed.getD i false) p)∧
    (if Region.wanted o (yielded ops a.tmps)then o.wp P a w (wpAny P .any ops Q fuel<|listed.setIfInBounds i true) Q else wpAny P .any ops Q fuel (listed.setIfInBounds i true) (a.put o.dst undef) w):=by
   intro i hi hpr henf o ho;obtain⟨hlt,h0,hes⟩:=hrdy i hi hpr;obtain⟨o',h1,h2,h3⟩:=hop i (by omega);rw[ho]at h1;simp only[Ay]at h1;subst h1;obtain⟨hf,he⟩:=hs i _ hlt h2
   have hbef:∀m,m < i->clash (fps.getD m ([],[])) (fps.getD i ([],[]))=true->listed.getD m false=true:=λm hm hc=>by
    rcases hcl m i hm (by omega) hc with h|h
    ·exact hanc i hes m (by simpa using h)
    ·exact henf m hm h
   have haft:∀m,i < m->m < ops.size->clash (fps.getD i ([],[])) (fps.getD m ([],[]))=true->listed.getD m false=false:=by
    intro m hm hmn hc;cases hx:listed.getD m false
    ·rfl
    ·rcases hcl i m hm hmn hc with h|h
     ·have:=hanc m (hclo m hx) i (by simpa using h);rw[h0]at this;cases this
     ·have:=hcl2 i m hm hmn h hx;rw[h0]at this;cases this
   have hag:GF (fps.getD i ([],[])).1 (s i) (mix s (λi=>(fps.getD i ([],[])).2) (λi=>listed.getD i false) p):=by
    intro q hq;rw[d9 (m:=i) (by omega) (λj h1 h2 hx=>?_)]
    ·exact uE (n:=p) hloc (by omega)<|λj hj hw=>hbef j hj<|by simp only[clash,d8 hw hq,Bool.true_or]
    ·rcases Bi i j with hij|hij
     ·cases hw:((fps.getD j ([],[])).2).contains q
      ·rfl
      ·rw[haft j hij (by omega) (by simp only[clash,d8 hq hw,Bool.or_true])]at hx;cases hx
     ·have:j=i:=by omega
      subst this;rw[h0]at hx;cases hx
   refine⟨hag,?_⟩;have hAo:okA bx cns (CO ops o)=true:=Ap.1 hA _<|BV h2;have hst:=aI (nt:=nt) (bx:=bx) htb h3 hAo (i0 hag (pJ hBx) hf he) base St0 w0 a w Q hr
   have hnext:∀a' w',(∃σ',Loc (fps.getD i ([],[])).2 (s i) (mix s (λi=>(fps.getD i ([],[])).2) (λi=>listed.getD i false) p) (λσ'=>σ'=s (i+1)) σ'∧Rel P nt bx base St0 w0 σ' a' w')->
     wpAny P .any ops Q fuel (listed.setIfInBounds i true) a' w':=by
    rintro a' w' ⟨σ',⟨σ1,rfl,rfl,-⟩,hr'⟩;have hX':∀j,(listed.setIfInBounds i true).getD j false=(listed.getD j false || j==i):=λj=>lg (by omega)
    refine ih _ a' w' (by simp[hsz]) ?_ ?_ ?_ ?_ ?_
    ·have:(List.range ops.size).countP (λj=> !(listed.setIfInBounds i true).getD j false) < (List.range ops.size).countP (λj=> !listed.getD j false):=by refine Xb (λj hj=>?_) (x:=i) (AQ.2<|by omega) (by simp only[h0];rfl) (by rw[hX'];simp);rw[hX']at hj;revert hj;cases listed.getD j false<;>simp
     omega
    ·intro k hk m hm;rw[hX']at hk;rw[hX'];rw[CP]at hk;rcases hk with hk|hk
     ·rw[hclo k hk m hm];rfl
     ·have:k=i:=by simpa using hk
      subst this;rw[hes m hm];rfl
    ·intro m k hmk hk hen hx;rw[hX']at hx⊢;rw[CP]at hx;rcases hx with hx|hx
     ·rw[hcl2 m k hmk hk hen hx];rfl
     ·have:k=i:=by simpa using hx
      subst this;rw[henf m hmk hen];rfl
    ·intro j hj;rw[hX',hz j hj];have:(j==i)=false:=by simp;omega
     rw[this];rfl
    ·rw[xZ (X:=λj=>listed.getD j false) hlt (λj q h1 h2 hw hwj=>haft j h1 (by omega)<|by simp only[clash,d8 hw hwj,Bool.or_true,Bool.true_or]) _ hX'];exact hr'
   split
   ·rename_i hw;rw[At hw]at hst;exact Oper.wp_mono hnext hst
   ·rename_i hw;rw[As hw]at hst;exact hnext _ _ hst
  by_cases hex:∃i,fH (ops.toList.map<|CO ops) i=true∧i∈Region.ready .any ops listed
  ·
   obtain⟨i,⟨hxi,hi⟩,hleast⟩:∃i,(fH (ops.toList.map<|CO ops) i=true∧i∈Region.ready .any ops listed)∧∀j,j < i->¬(fH (ops.toList.map<|CO ops) j=true∧j∈Region.ready .any ops listed):=by
    obtain⟨i,hi⟩:=hex;induction i using Nat.strongRecOn with
    |_ i ihi=>
     by_cases h:∃j,j < i∧(fH (ops.toList.map<|CO ops) j=true∧j∈Region.ready .any ops listed)
     ·obtain⟨j,hj,hj2⟩:=h;exact ihi j hj hj2
     ·exact⟨i,hi,λj hj hj2=>h ⟨j,hj,hj2⟩⟩
   obtain⟨hlt,h0,hes⟩:=hrdy i hi<|.inl hxi;obtain⟨o,ho,h2,h3⟩:=hop i (by omega)
   have henf:∀m,m < i->enf (ops.toList.map X9) (ops.toList.map<|CO ops) m i=true->listed.getD m false=true:=by
    intro m hm hen;simp only[enf,Ad,BK]at hen;cases hx:listed.getD m false
    ·exfalso;refine hleast m hm ⟨hen.1.1,?_⟩;obtain⟨om,hom,_⟩:=hop m (by omega);rw[L7];refine⟨by rw[htf hsz (by omega)];exact hx,om,hom,λe he hb=>?_⟩;have hm2:e.on∈(ops.toList.map X9).getD m []:=by rw[YD hom];exact Cf<|CC.2 ⟨by simpa using he,hb⟩
     rw[hen.2]at hm2;exact hes _ hm2
    ·rfl
   obtain⟨hag,hst⟩:=step i hi (.inl hxi) henf o ho;obtain⟨hf,he⟩:=hs i _ hlt h2;have hX:=hxi;simp only[fH,h2]at hX;obtain⟨d,hg',hd',hopX⟩:=exX hX
   ·have hg2:o.guard=none:=by have:(CO ops o).g=none:=hg';simpa[CO]using this
    have hd2:o.dst=some d:=hd';have hw:Region.wanted o (yielded ops a.tmps)=true:=by simp[Region.wanted,hg2]
    rw[At hw]at hst
    have hval:∃u,∀w',(execOp a.eval o).run P w'=.ok (.value u) w':=by
     rcases hopX with⟨sl,ix,hop'⟩|⟨sl,hop'⟩
     ·have hop2:o.op=.extract (.tmp sl) ix:=hop';have hev:=i0 hag (pJ hBx) hf he;simp only[Hh,hop',hd']at hev;have hev:=hev.2;unfold kR at hev;split at hev
      ·rename_i cs hcs;split at hev
       ·rename_i c hc;obtain⟨St,B,hS,_⟩:=hr;have hsl:=hS.slot sl;rw[hcs]at hsl;obtain⟨us,e1,h1⟩:=hsl;obtain⟨u,b1,b2,h2',_⟩:=Ml.split cs ix h1 hc hev.1<|hS.nodup sl;refine⟨u,λw'=>?_⟩;have e2:a.eval (.tmp sl)=.tuple us.toArray:=e1;simp[execOp,hop2,e2,Instr.extract,h2']
       ·exact hev.elim
      ·exact hev.elim
     ·have hop2:o.op=.move (.tmp sl):=hop';exact⟨a.eval<|.tmp sl,λw'=>by simp[execOp,hop2]⟩
    obtain⟨u,hu⟩:=hval;have hfin:wpAny P .any ops Q fuel (listed.setIfInBounds i true) (a.put o.dst u) w:=by have:=hst;unfold Oper.wp at this;rw[hu w]at this;exact this
    refine wpAny_first ho hsel (λc a w h=>absurd h<|hP _ _ _) fuel listed a w ?_ hi (.inl ⟨hw,hu⟩) hfin;intro j oj hoj hji hun hno;have hjn:j < ops.size:=(Il.1 hoj).1;rw[htf hsz hjn]at hun;have hxx:=(hX' i<|by omega).resolve_left (by rw[hxi];simp) j hjn;have hlj:(ops.toList.map<|CO ops)[j]? =some (CO ops oj):=by simp[hoj]
    rcases hxx with((h|h)|h)|h
    ·exact absurd (by simpa using h) hji
    ·exfalso;have hm2:i∈(ops.toList.map X9).getD j []:=by simpa using h
     rw[YD hoj]at hm2;obtain⟨e,he,hei⟩:=Bq.1 hm2;rw[CC]at he;exact hno e (by simpa using he.1) he.2 hei
    ·exfalso;have:=hanc i hes j (by simpa using h);rw[hun]at this;cases this
    ·simp only[apF,h2,hlj,PZ]at h;have hdl:(CO ops o).dst=some d:=hd2;rw[hdl]at h;simp only[Ad,AY,CY,ne_eq]at h;obtain⟨⟨q1,q2⟩,q3⟩:=h
     have hlook:∀(k:Nat) (ok:Oper),ops[k]? =some ok->(ops.toList.map<|CO ops)[k]? =some (CO ops ok)->∀t∈ok.looksAt ops,(lkL (ops.toList.map<|CO ops) k).contains t=true:=by
      intro k ok hok' hlk t ht;unfold lkL;rw[hlk];refine Bk.2<|Al.2 ?_;unfold Oper.looksAt at ht;rcases Al.1 ht with ht|ht
      ·left;obtain⟨x,hx1,hx2⟩:=List.mem_filterMap.1 ht;cases x<;>simp only[Ay,reduceCtorEq]at hx2
       subst hx2;unfold VE;exact CA.2 ⟨_,hx1,by simp[Le]⟩
      ·right;cases hgk:ok.guard with
       |none=>rw[hgk]at ht;simp at ht
       |some p=>
        rw[hgk]at ht;simp only[Option.mem_toList]at ht;have:(CO ops ok).g=some (gD ops p.1,p.2):=by simp[CO,hgk]
        unfold gT;rw[this];have e3:gD ops p.1=some t:=by simpa[gD]using ht
        rw[e3];simp
     simp only[Oper.apart,hd2];have r1:d∉oj.looksAt ops:=λhm=>by rw[hlook j oj hoj hlj d hm]at q1;cases q1
     have r2:oj.dst≠some d:=q2;cases hdj:oj.dst with
     |none=>simp[r1]
     |some d'=>
      have hdl':(CO ops oj).dst=some d':=hdj;rw[hdl']at q3;have r3:d'∉o.looksAt ops:=λhm=>by simp only[hlook i o ho h2 d' hm]at q3;cases q3
      have r4:d'≠d:=λe=>r2 (by rw[hdj,e])
      simp[r1,r3,r4]
  ·have hnx:∀i,i∈Region.ready .any ops listed->fH (ops.toList.map<|CO ops) i=false:=λi hi=>by
    cases hx:fH (ops.toList.map<|CO ops) i
    ·rfl
    ·exact absurd ⟨i,hx,hi⟩ hex
   refine⟨λh0=>absurd (λj hj=>hall listed hsz h0 j<|by omega) hful,λi hi=>?_⟩;have hpr:∀k,fH (ops.toList.map<|CO ops) k=true->k∉Region.ready .any ops listed:=λk h1 h2=>hex ⟨k,h1,h2⟩
   obtain⟨hlt,_⟩:=hrdy i hi<|.inr hpr;obtain⟨o,ho,_⟩:=hop i (by omega);have:=(step i hi (.inr hpr) (λm _ hen=>by simp only[enf,Ad]at hen;rw[hnx i hi]at hen;cases hen.1.2) o ho).2;unfold wpOp;rw[ho];simp only;split
   ·rename_i hw;rw[At hw]at this;exact .inl this
   ·rename_i hw;rw[As hw]at this;exact this
def okT(p:Nat)(es:List zN)(a:List LO):Bool:=decide (p<=es.length)&&(List.range es.length).all λj=>decide (j < p) || (!fH a j&&(List.range j).all λi=>((Yw [] es).getD j []).contains i || (decide (i < p)&&(fH a i&&(es.getD i []).all λk=>((Yw [] es).getD j []).contains k)))
def nD(u:Lr P tb)(hm:P.follows .mixedOrders=true)(p:Nat){fps:List (zN×zN)}{es:List zN}{f:List LO}{Q:Exit->PS->Prop}(v:(okD fps es f&&(okF cns fps f&&okT p es f))=true)
  (h:bP P tb cns (fps.take p) (f.take p) σ (λσ'=>∀base St0 C a w,Rel P nt bx base St0 C σ' a w->∃σ2,aJ P tb cns (f.drop p) σ2 (Q .normal)∧Rel P nt bx base St0 C σ2 a w)):LS P nt bx (.drw cns fps es f) σ Q:=by
 intro c t x T;cases c<;>first|cases t|skip
 rename_i id b d;simp only[Lp,aj]at t;split at t
 ·rename_i hd;simp only[LC.drw.injEq,true_and]at t;subst hd;obtain⟨rfl,rfl⟩:=t;intro base St0 C a w hr;rw[Ad,Ad]at v;obtain⟨v,U,D⟩:=v;simp only[okT,Ad,Bu,Am,BX,Ap,AQ,CP,AY]at D;obtain⟨W,D⟩:=D;have y:∀j,p<=j->j < b.size->fH (b.toList.map<|CO b) j=false∧∀i,i < j->((Yw []<|b.toList.map X9).getD j []).contains i=true∨(i < p∧fH (b.toList.map<|CO b) i=true∧∀k∈(b.toList.map X9).getD i [],((Yw []<|b.toList.map X9).getD j []).contains k=true):=λj F z=>(D j z).resolve_left (by omega)
  have I:∀j,p<=j->j < b.size->∀i,p<=i->i < j->((Yw []<|b.toList.map X9).getD j []).contains i=true:=λj F z i X J=>((y j F z).2 i J).resolve_right (λh=>by omega)
  have L:∀j,j < b.size->∀k∈(b.toList.map X9).getD j [],k < j:=by have A:=v;simp only[okD,Ad,Ap,AQ,Am,BX,Bu]at A;exactλj Y=>(A.1.2 j Y).1
  obtain⟨s1,s0,Z,sb,hs⟩:=oQ (lO p U) h;have B:((b.toList.map<|CO b).take p).length=p:=by simp;omega
  rw[B]at Z sb;have n:((b.toList.map<|CO b).drop p).length=b.size - p:=by simp
  have M:∀i o,i < p->(b.toList.map<|CO b)[i]? =some o->fpS cns (fps.getD i ([],[])).1 (fps.getD i ([],[])).2 o (s1 i)∧Hh P tb cns o (s1 i) (λσ'=>σ'=s1 (i+1)):=λi o hi N=>by
   have:=hs i o (by rw[List.getElem?_take_of_lt hi];exact N);have e3:(fps.take p).getD i ([],[])=fps.getD i ([],[]):=by simp[A1,List.getElem?_take_of_lt hi]
   rw[e3]at this;exact this
  refine GL (Q:=λe a' w'=>e=.normal∧∃σ',Q .normal σ'∧Rel P nt bx base St0 C σ' a' w') ?_ (λe a' w' h=>by obtain⟨rfl,h⟩:=h;exact h);refine wp_region_any hm (xc u W x T v U y sb M (λfuel g a w F z X J=>by obtain⟨σ2,O,R⟩:=Z _ _ _ _ _ J;obtain⟨s2,t0,tk,ht⟩:=oR O;rw[n]at tk;refine wh u (s:=λi=>s2<|i - p) x T L I (λi o hi N=>?_) (λa' w' S=>⟨rfl,_,tk,S⟩) fuel p g a w (Bb _) W F z X (by simp only[QL];rw[t0];exact R);have:=ht (i - p) o (by rw[Du,show p+(i - p)=i by omega];exact N);show Hh P tb cns o (s2<|i - p) (λσ'=>σ'=s2 (i+1 - p));rw[show i+1 - p=i - p+1 by omega];exact this) (λc a w h=>by cases h.1) _ _ a _ (by simp) ?_ (λk H=>?_) (λi k hik H hen r=>?_) (λj _=>?_) ?_)
  ·have:=List.countP_le_length (p:=λi=> !(Array.replicate b.size false).getD i false) (l:=List.range b.size);simpa using this
  ·exfalso;simp[Ex]at H;split at H<;>simp at H
  ·exfalso;simp[Ex]at r;split at r<;>simp at r
  ·simp[Ex];split<;>rfl
  ·have:mix s1 (λi=>(fps.getD i ([],[])).2) (λi=>(Array.replicate b.size false).getD i false) p=s1 0:=by
    funext q;refine d9 (m:=0) (by omega)<|λj _ Y r=>?_
    exfalso;simp[Ex]at r;split at r<;>simp at r
   rw[this,s0];exact rV hr
 ·cases t
def ux(d:Lr P tb)(g:P.follows .mixedOrders=true){fps:List (zN×zN)}{es:List zN}{b:List LO}{Q:Exit->PS->Prop}(c:(okD fps es b&&okF cns fps b)=true)(h:bP P tb cns fps b σ (Q .normal)):LS P nt bx (.drw cns fps es b) σ Q:=by
 rw[Ad]at c;have m:fps.length=es.length:=by have:=c.1;simp only[okD,Ad,BK]at this;exact this.1.1
 by_cases e:b.length<=es.length
 ·refine nD d g es.length (by rw[Ad,Ad];refine⟨c.1,c.2,?_⟩;simp only[okT,Ad,Bu,Ap,AQ,CP];exact⟨Bb _,λj i=>.inl i⟩) ?_;rw[DJ (by omega),DJ e,Cl e];exact kQ (λσ' j base St0 n a w k=>⟨σ',j,k⟩) h
 ·exfalso
  have:∀{fps:List (zN×zN)}{os:List LO},okF cns fps os=true->os.length<=fps.length:=by
   intro fps os;induction os generalizing fps with
   |nil=>intro _;simp
   |cons o os l=>
    intro h;cases fps with
    |nil=>cases h
    |cons f fps=>simp only[okF,Ad]at h;have:=l h.2;simp only[Ar];omega
  have:=this c.2;omega
end
section
variable {P:Program}{nt:Nat}{bx:zN}{σ:PS}{Q:Exit->PS->Prop}{tb:Tb}
end
end
section
section
variable {P:Program}
def Zc(P:Program)(c:V)(u:Value):Prop:=c.DF=true∧∀w a,Ow P w a c u []
def Oo(k:IntKind):Zc P (.int k 0) (.int k 0):=⟨rfl,λ_ _=>⟨rfl,rfl⟩⟩
def qR:Zc P (.bool false) (.bool false):=⟨rfl,λ_ _=>⟨rfl,rfl⟩⟩
def bL:Zc P (.str []) (.string ⟨#[]⟩):=⟨rfl,λ_ _=>⟨rfl,rfl,Dc _⟩⟩
def Mj(e:TypeId):Zc P (.own e 0 []) (.slice none 0 0):=⟨rfl,λ_ _=>nJ e⟩
def Aio:Zc P (.tok .nilFunc) .nilFunc:=⟨rfl,λ_ _=>⟨rfl,rfl,rfl⟩⟩
def Io:ZL P [] []:=λ_ _=>⟨rfl,rfl⟩
def C7{c:V}{cs}{u:Value}{us}(h:Zc P c u)(b:ZL P cs us):ZL P (c::cs) (u::us):=λw a=>⟨u,us,[],[],rfl,rfl,h.1,h.2 w a,b w a⟩
def VW{t}(k:IntKind)(hi:(P.info? t).map (λi=>(i.size,i.zero))=some (1,some<|.int k 0))(b:P.underlying t=some (.int k)):P5 P t (.sc<|.int k 0):=by have⟨i,c,a⟩:=BY.1 hi;simp only[Ch]at a;exact⟨i,_,_,c,a.1,a.2,C7 (Oo k) Io,b,rfl⟩
def su{t}(hi:(P.info? t).map (λi=>(i.size,i.zero))=some (1,some<|.bool false))(b:P.underlying t=some .bool):P5 P t (.sc<|.bool false):=by have⟨i,c,a⟩:=BY.1 hi;simp only[Ch]at a;exact⟨i,_,_,c,a.1,a.2,C7 qR Io,b,rfl⟩
def zP:Option TypeDesc->Bool
 |some (.func _ _ _)=>true
 |_=>false
def AaA{t}(hi:(match(P.info? t).map (λi=>(i.size,i.zero))with|some (1,some .nilFunc)=>true|_=>false)=true)(a:zP (P.underlying t)=true):P5 P t (.sc<|.tok .nilFunc):=by
 split at hi
 ·rename_i b;have⟨i,d,c⟩:=BY.1 b;simp only[Ch]at c;unfold zP at a;split at a
  ·rename_i ps rs v e;exact⟨i,_,_,d,c.1,c.2,C7 Aio Io,e,ps,rs,v,rfl⟩
  ·cases a
 ·cases hi
def wF{t}(hi:(P.info? t).map (λi=>(i.size,i.zero))=some (1,some<|.string ⟨#[]⟩))(b:P.underlying t=some .string):P5 P t (.sc<|.str []):=by have⟨i,c,a⟩:=BY.1 hi;simp only[Ch]at a;exact⟨i,_,_,c,a.1,a.2,C7 bL Io,b,rfl⟩
def TB{t n z us fs gs}(hi:(P.info? t).map (λi=>(i.size,i.zero))=some (n,some<|.agg us.toArray))(hz:ZL P z us)(hu:P.underlying t=some (.struct gs))
  (hf:gs.toList.map (λf=>(f.offset,V1 P f.type))=fs) (hp:fs.all (λf=>decide (0 < f.2))=true) (h2:(!(TyD.st n z fs).two || (!P.stoodInHeld t&& !P.eqGuardType P.depth t&&gs.toList.all λf=>f.name != "_" &&(match P.underlying f.type with|some (.int _)=>true|_=>false)))=true):P5 P t (.st n z fs):=by
 have⟨i,h1,h3⟩:=BY.1 hi;simp only[Ch]at h3;refine⟨i,_,gs,h1,h3.1,h3.2,by simpa using hz,hu,hf,λf hf=>by have:=Ap.1 hp f hf;simpa using this,λh=>?_⟩;rw[h,Ai,CH,Ad,Ad,AY,AY]at h2;refine⟨h2.1.1,h2.1.2,λf hf=>?_⟩;have:=Ap.1 h2.2 f hf;simp only[Ad,CY,ne_eq]at this;refine⟨this.1,?_⟩;have h4:=this.2;split at h4
 ·exact⟨_,by assumption⟩
 ·cases h4
def UQ{t e es eb ez zv}(hi:(P.info? t).map (λi=>(i.size,i.zero))=some (1,some<|.slice none 0 0))(c:P.underlying t=some (.slice e))
  (d:(P.info? e).map (λi=>(i.size,i.zero,i.bytes))=some (es,some zv,eb)) (f:ZL P ez zv.cells.toList) (g:ez.length=es) (h:0 < es) (k:0 < eb) (l:eb<=128):P5 P t (.sl e es eb ez):=by
 have⟨i,m,b⟩:=BY.1 hi;have⟨j,n,a⟩:=BY.1 d;simp only[Ch]at b a;exact⟨i,j,zv,m,b.1,b.2,c,n,a.2.1,a.1,a.2.2,f,g,h,k,l⟩
end
def zg(K:PS->Prop)(Q:Exit->PS->Prop)(σ:PS):Xy K Q .normal σ=K σ:=rfl
def zf(K:PS->Prop)(Q:Exit->PS->Prop)(σ:PS)(i:Nat):Xy K Q (.exit i) σ=Q (.exit i) σ:=rfl
def zh(K:PS->Prop)(Q:Exit->PS->Prop)(σ:PS):Xy K Q .ret σ=Q .ret σ:=rfl
def sJ(i:Nat)(Q:Exit->PS->Prop)(σ:PS):YA i Q .normal σ=Q .normal σ:=rfl
def sI(i j:Nat)(Q:Exit->PS->Prop)(σ:PS):YA i Q (.exit j) σ=if j=i then Q .normal σ else Q (.exit j) σ:=rfl
def sL(i:Nat)(Q:Exit->PS->Prop)(σ:PS):YA i Q .ret σ=Q .ret σ:=rfl
def AeA{α:Type}(f:Nat->α)(d:Nat)(x:α)(s:Nat):upd f d x s=if s=d then x else f s:=rfl
def xI(c:V)(cs:List V):Gm (c::cs) 0=c:=rfl
def xN(c:V)(cs:List V)(n:Nat):Gm (c::cs) (n+1)=Gm cs n:=rfl
def xM(n:Nat):Gm [] n=.tup []:=rfl
def xJ(c d:V)(cs:List V):Gm (c::d::cs) 1=d:=rfl
def xK(c d e:V)(cs:List V):Gm (c::d::e::cs) 2=e:=rfl
def xL(c d e f:V)(cs:List V):Gm (c::d::e::f::cs) 3=f:=rfl
def AfW(c:Bool):cE true (.bool c)=c:=by cases c<;>rfl
def AfV(c:Bool):cE false (.bool c)= !c:=by cases c<;>rfl
def AfX(b:Bool)(cs:List V):cE b (.tup cs)=false:=rfl
def gIf(c:Bool)(p q:Prop)(_:Tag (p∧q)):Prop:=(c=true->p)∧(c=false->q)
def Afx(p q:Prop)(t:Tag (p∧q)):gIf true p q t=p:=propext ⟨λh=>h.1 rfl,λh=>⟨λ_=>h,λe=>by cases e⟩⟩
def Afw(p q:Prop)(t:Tag (p∧q)):gIf false p q t=q:=propext ⟨λh=>h.2 rfl,λh=>⟨(λe=>by cases e),λ_=>h⟩⟩
def ve(tb:Tb)(o:LO)(σ:PS)(K:PS->Prop):Mn tb o σ K=(match o.dst with
 |none=>False
 |some d=>match o.g with
  |none=>pc tb σ o.op∧K (upd σ d<|pv tb σ o.op)
  |some (none,_)=>False
  |some (some q,b)=>known (σ q)=true∧gIf (cE b (σ q)) (pc tb σ o.op∧K (upd σ d (pv tb σ o.op))) (K (upd σ d (.tup []))) ⟨0⟩):=rfl
def sP(P:Program)(o:LO)(f:FuncId)(a:List Operand)(σ:PS)(K:PS->Prop):TC P o f a σ K=(match o.g with
 |none=>a.all (λx=>(Cz σ x).isArg)=true∧∃r,km P σ f a r∧iv (K<|VH σ o.dst r) ⟨0⟩
 |some (q,b)=>match q,o.dst with
  |some q,some d=>known (σ q)=true∧gIf (cE b<|σ q) (a.all (λx=>(Cz σ x).isArg)=true∧∃r,km P σ f a r∧iv (K<|upd σ d r) ⟨0⟩) (K<|upd σ d<|.tup []) ⟨0⟩
  |_,_=>False):=rfl
def AeJ(a:List V)(es:Nat):Uq a es 0=[]:=by simp[Uq]
def wz{ez es n}(h:ez.length=es):Uq ez es (n+1)=ez++Uq ez es n:=by
 unfold Uq;rw[CN,DK,QJ,List.range_add,BM,EY];congr 1
 ·apply Ej
  ·simp[h]
  ·intro i a b;simp only[Am,DG]at a;simp[Dn a,b]
 ·apply Dh;intro i _;simp
def xU{n}(h:n < 1000):(n<=lim)=True:=eq_true (by unfold lim;omega)
def Aa1(l:List V):(∃cs,some l=some cs)=True:=eq_true ⟨l,rfl⟩
def AdO(k:IntKind)(n:Int):DM (.int k n)=true:=rfl
def x2(b:Bool):DM (.bool b)=true:=rfl
def AdR(s:zU):DM (.str s)=true:=rfl
def AdP(e:TypeId)(n:Nat)(cs:List V):DM (.own e n cs)=true:=rfl
def AdN(n:Nat)(cs:List V):DM (.dat n cs)=true:=rfl
def AdL(n:Nat)(cs:List V):DM (.arg n cs)=true:=rfl
def AdQ(u:Value)(n:Nat)(cs:List V):DM (.pin u n cs)=true:=rfl
def Ahx(us:List Value)(cs:List V):DM (.gh us cs)=true:=rfl
def AdK(cs:List V):DM (.agg cs)=true:=rfl
def AdS(cs:List V):DM (.tup cs)=true:=rfl
def uJ:DM (.undef)=true:=rfl
def x4(s:Nat):DM (.same s)=true:=rfl
def x3(s o:Nat):DM (.cref s o)=true:=rfl
def AdJ(cs:List V)(o:Nat):DM (.adr cs o)=true:=rfl
def AdM(cs:List V):DM (.box cs)=false:=rfl
def AdT(e:TypeId)(n:Nat)(cs:List V):DM (.uni e n cs)=false:=rfl
attribute [go_sem] AdO x2 AdR AdP AdN AdL AdQ Ahx AdK AdS uJ x4 x3 AdJ AdM AdT
attribute [go_sem] xU Aa1 Afx Afw AeJ wz
attribute [go_sem] aJ bP adP adU Le fD C0 WM D4 iaS dO fL Yo mvV mvC pv pc QP TY eI eH tg kT nq np We Wd Cz cV mK iH unV unC NQ getCells ZJ Xm faV faC Mk SG iaV iaC r7 r6 lenV rx W2 WL bW gd dq mxV mxC
 dg WG dg2 V.isVal V.isArg V.DF known AfW AfV AfX CZ VH AeA er NU Ij zg zf zh xI xJ xK xL xN xM sJ sI sL TyD.size RF TW Qg fC SM au bq rW resV vr kill
attribute [go_sem ↓] Hh ve sP W6 S4 SZ dc ZI kR j9 Yv boxS W4 kA gA gC cZ
end
section
def fz:Nat:=1099511627780
def Aq{S O:Type}(body:(S->Option O)->S->Option O):Nat->S->Option O
 |0,_=>none
 |n+1,s=>body (Aq body n) s
def chk{α:Type}(p:Prop)[Decidable p](x:Option α):Option α:=if p then x else none
def AF{α:Type}(l:List α)(i:Int):Option α:=if 0<=i then l[i.toNat]? else none
def B5{α:Type}(l:List α)(lo hi:Int):List α:=(l.take hi.toNat).drop lo.toNat
def CL{α:Type}(l:List α)(i:Int)(x:α):List α:=l.set i.toNat x
def G{α β:Type}(x:Option α)(f:α->Option β):Option β:=match x with
 |some a=>f a
 |none=>none
def W8{α:Type}{p:Prop}[Decidable p]{x:Option α}{r:α}(h:chk p x=some r):p∧x=some r:=by
 unfold chk at h;split at h
 ·rename_i a;exact⟨a,h⟩
 ·cases h
def AZ{α β:Type}{x:Option α}{f:α->Option β}{r:β}(h:G x f=some r):∃a,x=some a∧f a=some r:=by
 cases x with
 |none=>cases h
 |some a=>exact⟨a,rfl,h⟩
def LI{α:Type}{b:Bool}{x y:Option α}{r:α}(h:cond b x y=some r):(b=true∧x=some r)∨(b=false∧y=some r):=by
 cases b
 ·exact .inr ⟨rfl,h⟩
 ·exact .inl ⟨rfl,h⟩
def AL{α β:Type}{x:Option α}{f:α->Option β}{r:β}{P:Prop}(h:G x f=some r)(k:∀a,x=some a->f a=some r->P):P:=by obtain⟨a,b,c⟩:=AZ h;exact k a b c
def DE{α β:Type}{x:Option α}{f:α->Option β}{r:β}{P:Prop}(h:G x f=some r)(k:∀a,x=some a->(∀{b:α},b=a->f b=some r)->P):P:=by obtain⟨a,c,d⟩:=AZ h;exact k a c (λe=>by rw[e];exact d)
def CR{α:Type}{p:Prop}[Decidable p]{x:Option α}{r:α}{P:Prop}(h:chk p x=some r)(k:p->x=some r->P):P:=k (W8 h).1 (W8 h).2
def CM{α:Type}{b:Bool}{x y:Option α}{r:α}{P:Prop}(h:cond b x y=some r)(a:b=true->x=some r->P)(c:b=false->y=some r->P):P:=by
 rcases LI h with h|h
 ·exact a h.1 h.2
 ·exact c h.1 h.2
def sj{α:Type}{a b:α}(h:some a=some b):a=b:=Ed h
def E{α:Sort _}{a:α}:a=a:=rfl
def rZ{α β:Type}{a:α}{b:β}{p:Prop}:(a=a∨p)∧b=b:=⟨.inl rfl,rfl⟩
def IC{α β:Type}{P:α×β->Prop}(h:∀a b,P (a,b)):∀x,P x:=λ⟨a,b⟩=>h a b
def fF{α β γ:Type}{P:α×β×γ->Prop}(h:∀a b c,P (a,b,c)):∀x,P x:=λ⟨a,b,c⟩=>h a b c
def pr4{α β γ δ:Type}{P:α×β×γ×δ->Prop}(h:∀a b c d,P (a,b,c,d)):∀x,P x:=λ⟨a,b,c,d⟩=>h a b c d
def pr5{α β γ δ ε:Type}{P:α×β×γ×δ×ε->Prop}(h:∀a b c d e,P (a,b,c,d,e)):∀x,P x:=λ⟨a,b,c,d,e⟩=>h a b c d e
def BB{α:Type}{l:List α}{i:Int}{x:α}(h:AF l i=some x):0<=i∧i < l.length∧l[i.toNat]? =some x:=by
 unfold AF at h;split at h
 ·rename_i b
  have:i.toNat < l.length:=by
   rcases Bi i.toNat l.length with a|a
   ·exact a
   ·rw[BJ a]at h;cases h
  exact⟨b,by omega,h⟩
 ·cases h
abbrev oL{α:Type}(e:TypeId)(f:α->List V)(x:List α):V:=.own e x.length<|x.flatMap f
abbrev dL{α:Type}(f:α->List V)(x:List α):V:=.dat x.length<|x.flatMap f
abbrev aL{α:Type}(f:α->List V)(x:List α):V:=.arg x.length<|x.flatMap f
abbrev wL{α:Type}(e:TypeId)(f:α->List V)(x:List α):V:=.uni e x.length<|x.flatMap f
abbrev nI(x:Int):V:=.int .i64 x
def nb{a b}(h:Nat.ble a b=true):a<=b:=Nat.le_of_ble_eq_true h
def A3{α:Type}{f:α->List V}{n:Nat}(a:∀x,(f x).length=n):∀l:List α,(l.flatMap f).length=l.length * n
 |[]=>by simp
 |x::l=>by rw[AI,Ak,a,A3 a l,Ar,CN];omega
def Nc{α:Type}{f:α->List V}{n:Nat}(a:∀x,(f x).length=n):∀(l:List α) (k:Nat),(l.flatMap f).drop (k * n)=(l.drop k).flatMap f
 |[],k=>by simp
 |x::l,0=>by simp
 |x::l,k+1=>by rw[AI,CN,DK,QJ,List.drop_append,Cl (by rw[a];omega),a,CT,Nc a l k];simp
def aN{α:Type}{f:α->List V}{n:Nat}(a:∀x,(f x).length=n):∀(l:List α) (k:Nat),(l.flatMap f).take (k * n)=(l.take k).flatMap f
 |[],k=>by simp
 |x::l,0=>by simp
 |x::l,k+1=>by rw[AI,CN,DK,QJ,MC,DJ (by rw[a];omega),a,CT,aN a l k,Dx,AI]
def tq{α:Type}{f:α->List V}{n:Nat}(b:∀x,(f x).length=n){l:List α}{k:Nat}{x:α}(h:l[k]? =some x)(off:Nat):(l.flatMap f).drop (k * n+off)=(f x).drop off++(l.drop<|k+1).flatMap f∨n < off:=by
 rcases Bi n off with a|a
 ·exact .inr a
 ·left
  have c:k < l.length:=by
   rcases Bi k l.length with a|a
   ·exact a
   ·rw[BJ a]at h;cases h
  have d:l[k]=x:=by rw[Ah c]at h;injection h
  rw[<-Ja,Nc b,AS c,AI,d,C9 (by rw[b];exact a)]
def rm{α:Type}{f:α->List V}{n:Nat}(b:∀x,(f x).length=n){l:List α}{k:Nat}{x:α}(h:l[k]? =some x){d:TyD}{off:Nat}(o:off+d.size<=n):getCells d (l.flatMap f) (k * n+off)=getCells d (f x) off∧k * n+off+d.size<=(l.flatMap f).length:=by
 have p:k < l.length:=by
  rcases Bi k l.length with c|c
  ·exact c
  ·rw[BJ c]at h;cases h
 have i:=(tq b h off).resolve_right (by omega);have j:((f x).drop off).length=n - off:=by rw[Be,b]
 constructor
 ·have g:∀m,m<=n - off->((l.flatMap f).drop<|k * n+off).take m=((f x).drop off).take m:=λm r=>by rw[i,G2 (by omega)]
  have a:d.size=1->(l.flatMap f)[k * n+off]? =(f x)[off]?:=λh1=>by
   have q:(l.flatMap f)[k * n+off]? =((l.flatMap f).drop<|k * n+off)[0]?:=by rw[Du,Di]
   have e2:(f x)[off]? =((f x).drop off)[0]?:=by rw[Du,Di]
   rw[q,e2,i,B7 (by omega)]
  cases d with
  |st m z s=>simp only[getCells];rw[g m (by simp only[TyD.size]at o;omega)]
  |sc z=>simp only[getCells];rw[a rfl]
  |sl e es t u=>simp only[getCells];rw[a rfl]
 ·rw[A3 b];have:k * n+n<=l.length * n:=by rw[<-GO];exact BW _ p
  omega
def oP:∀(a b:List V),NU (a++b)=NU a++NU b
 |[],b=>rfl
 |c::a,b=>by rw[Cq,NU,NU,oP a b,Cq]
def TE{α:Type}{f g}(h:∀x,NU (f x)=g x):∀l:List α,NU (l.flatMap f)=l.flatMap g
 |[]=>rfl
 |x::l=>by rw[AI,AI,oP,h,TE h l]
def iu{α:Type}{f:α->List V}{n:Nat}{z:α}{a:List V}(b:f z=a)(c:a.length=n):∀k:Nat,Uq a n k=(List.replicate k z).flatMap f
 |0=>by simp[Uq]
 |k+1=>by rw[wz c,iu b c k,List.replicate_succ,AI,b]
def ie{α:Type}{f:α->List V}{n:Nat}(a:∀x,(f x).length=n){l:List α}{k:Nat}(b:k < l.length)(x:α):Qg (l.flatMap f) (k * n) (f x)=(l.set k x).flatMap f:=by unfold Qg;rw[a,show k * n+n=(k+1) * n by rw[CN,DK],aN a,Nc a,FT,At b,Dg,AI,Bg]
def CB:List (Nat×V)->PS
 |[]=>λ_=>.undef
 |(s,c)::L=>upd (CB L) s c
def gG(σ:PS):List (Nat×V)->Prop
 |[]=>True
 |(s,c)::L=>Kp (σ s) c∧gG σ L
def okR(L:List (Nat×V)):Bool:=L.all λp=>match D4 p.2 with
 |some b=>(L.map (·.1)).contains b
 |none=>true
def Fg(σ σ':PS):Prop:=∀(P:Program) (nt:Nat) (bx:zN) (base:Bs) (St0:Nat->Nat->Prop) (b:World) (a:Act) (w:World),Rel P nt bx base St0 b σ a w->Rel P nt bx base St0 b σ' a w
def uO{σ}:∀{L:List (Nat×V)},gG σ L->∀s,(s∈L.map (·.1)->Kp (σ s) (CB L s))∧(s∉L.map (·.1)->CB L s=.undef)
 |[],_,s=>⟨λh=>by simp at h,λ_=>rfl⟩
 |(q,c)::L,⟨a,b⟩,s=>by
  have⟨d,f⟩:=uO b s;by_cases e:s=q
  ·subst e;exact⟨λ_=>by simp only[CB,upd_same];exact a,λh=>absurd (by simp) h⟩
  ·simp only[CB,upd_ne _ _ e,AH,AA,e,false_or];exact⟨d,f⟩
def jH{L s b}(h:D4 (CB L s)=some b):∃p∈L,D4 p.2=some b:=by
 induction L with
 |nil=>cases h
 |cons p L a=>
  have⟨q,c⟩:=p;by_cases e:s=q
  ·subst e;rw[show CB ((s,c)::L) s=c from by simp[CB,upd_same]]at h;exact⟨(s,c),by simp,h⟩
  ·rw[show CB ((q,c)::L) s=CB L s from by simp[CB,upd_ne _ _ e]]at h;have⟨p,d,h⟩:=a h;exact⟨p,by simp[d],h⟩
def pP:∀{L:List (Nat×V)}{s:Nat},CB L s≠.undef->s∈L.map (·.1)
 |[],_,h=>absurd rfl h
 |(q,c)::L,s,h=>by
  by_cases e:s=q
  ·subst e;simp
  ·have:CB L s≠.undef:=by rwa [show CB ((q,c)::L) s=CB L s from upd_ne _ _ e]at h
   exact AV _<|pP this
def i6{σ L}(h1:gG σ L)(h2:okR L=true):Fg σ (CB L):=by
 intro P nt bx base St0 w0 a w hr;have hcl:=uO h1;have⟨St,B,h,hb,hst,hz⟩:=hr;refine vq (λs=>?_) (λs b e he=>?_) ⟨St,B,h,hb,hst,hz⟩
 ·by_cases hs:s∈L.map (·.1)
  ·exact .inr<|(hcl s).1 hs
  ·exact .inl<|(hcl s).2 hs
 ·have⟨p,hp,hpe⟩:=jH e;have hb:b∈L.map (·.1):=by have:=Ap.1 h2 p hp;rw[hpe]at this;simpa using this
  have hs:s∈L.map (·.1):=pP (λe'=>by rw[e']at e;cases e);have⟨cs,hcs⟩:=h.crefs s b<|((hcl s).1 hs).rf b e;have hk:=((hcl b).1 hb).bx;rw[he,hcs]at hk;cases hk
section
variable {P:Program}{nt:Nat}{bx:zN}{σ:PS}{Q:Exit->PS->Prop}{tb:Tb}{cns:zN}
def Cc{x y}(h:∀{K:PS->Prop},(∀σ',LS P nt bx y σ' Q->K σ')->LS P nt bx x σ (Xy K Q)):LS P nt bx (.seq x y) σ Q:=An λ_=>h
def BN{y Q'}(a:∀σ',LS P nt bx y σ' Q->Q' .normal σ')(h:LS P nt bx y σ Q):LS P nt bx .skip σ Q':=B6<|a _ h
def zV{l σ'}(d:Fg σ σ')(h:LS P nt bx l σ' Q):LS P nt bx l σ Q:=
 λc e b f base St0 g a w i=>h c e b f base St0 g a w<|d _ _ _ _ _ _ _ _ i
def GC{l}(L:List (Nat×V))(a:gG σ L)(b:okR L=true)(h:LS P nt bx l (CB L) Q):LS P nt bx l σ Q:=zV (i6 a b) h
def uC{ops y}(a:Lr P tb)(h:aJ P tb cns ops σ (λσ'=>LS P nt bx y σ' Q)):LS P nt bx (.seq (.rgn cns ops) y) σ Q:=jD<|uB a h
def zX{fps es ops y}(a:Lr P tb)(b:P.follows .mixedOrders=true)(c:(okD fps es ops&&okF cns fps ops)=true)(h:bP P tb cns fps ops σ (λσ'=>LS P nt bx y σ' Q)):LS P nt bx (.seq (.drw cns fps es ops) y) σ Q:=jD<|ux a b c h
def zT{c x y b}(hb:Cz σ c=.bool b)(e:b=true)(h:LS P nt bx x σ Q):LS P nt bx (.cond c x y) σ Q:=pC hb (λ_=>h) (λe'=>by rw[e]at e';cases e')
def zR{c x y b}(hb:Cz σ c=.bool b)(e:b=false)(h:LS P nt bx y σ Q):LS P nt bx (.cond c x y) σ Q:=pC hb (λe'=>by rw[e]at e';cases e')<|λ_=>h
def kL{c}(I:Nat->PS->Prop)(y:Nat)(z:I y σ)(h:∀m σ (N:PS->Prop),I m σ->(∀σ' m' σ'',m' < m->I m' σ''->Fg σ' σ''->N σ')->ON P nt bx c σ (Xy N Q)):ON P nt bx (.loop c) σ Q:=by
 intro base St0 p a w q b k cs
 have r:∀n σ a w,I n σ->Rel P nt bx base St0 p σ a w->
   ∃e a' w',(∃σ',Q e σ'∧Rel P nt bx base St0 p σ' a' w')∧Arrives P (lone (b.at a<|.code c::.inLoop c::k) cs w) b k cs e a' w':=by
  intro n;induction n using Nat.strongRecOn with
  |_ n A=>
   intro σ a w B q;have⟨e,j,o,⟨σ₁,g,f⟩,d⟩:=h n σ (λσ'=>∃m' σ'',m' < n∧I m' σ''∧Fg σ' σ'') B (λσ' m' σ'' C D F=>⟨m',σ'',C,D,F⟩) base St0 p a w q b (.inLoop c::k) cs;cases e with
   |normal=>have⟨m',σ'',s,t,u⟩:=g;have⟨H,J,K,v,i⟩:=A m' s σ'' j o t<|u _ _ _ _ _ _ _ _ f;exact⟨H,J,K,v,.of_steps (Steps.trans d<|.one step_inLoop) i⟩
   |exit L=>exact⟨_,j,o,⟨σ₁,g,f⟩,.pass (x:=.inLoop c) rfl (λ_ _=>.inl<|by simp) d⟩
   |goto l=>exact⟨_,j,o,⟨σ₁,g,f⟩,.pass (x:=.inLoop c) rfl (λ_ _=>.inl<|by simp) d⟩
   |ret=>exact⟨_,j,o,⟨σ₁,g,f⟩,.pass (x:=.inLoop c) rfl (λ_ _=>.inl<|by simp) d⟩
   |panic M=>exact⟨_,j,o,⟨σ₁,g,f⟩,.pass (x:=.inLoop c) rfl (λ_ _=>.inl<|by simp) d⟩
   |outgrown=>exact⟨_,j,o,⟨σ₁,g,f⟩,.pass (x:=.inLoop c) rfl (λ_ _=>.inl<|by simp) d⟩
 have⟨e,a',w',g,d⟩:=r y σ a w z q;exact⟨e,a',w',g,.of_steps (.one step_loop) d⟩
def uz{x D}(I:Nat->PS->Prop)(e:Nat)(f:I e σ)(a:∀m σ (N:PS->Prop),I m σ->(∀σ' m' σ'',m' < m->I m' σ''->Fg σ' σ''->N σ')->LS P nt bx x σ (Xy N Q)):LS P nt bx (.loop D x) σ Q:=by
 intro c b d g;cases c<;>first|(cases b;done)|skip
 ·simp only[Lp,aj]at b;split at b<;>cases b
 ·simp only[Lp,aj,LC.loop.injEq,true_and]at b;exact kL I e f<|λm σ N h i=>a m σ N h i _ b d g
def AW{x D id}{S O:Type}(L:S->List (Nat×V))(body:(S->Option O)->S->Option O)(c:Nat)(s0:S)(out:O)(h:Aq body c s0=some out)(f:gG σ (L s0))(d:∀s,okR (L s)=true)
  (a:∀m s (N:PS->Prop),body (Aq body m) s=some out->(∀σ' b,Aq body m b=some out->gG σ' (L b)->N σ')->LS P nt bx x (CB<|L s) (Xy N<|YA id Q)):LS P nt bx (.blk id<|.loop D x) σ Q:=by
 refine AO<|zV (i6 f<|d s0)<|uz (λm σ=>∃s,σ=CB (L s)∧Aq body m s=some out) c ⟨s0,rfl,h⟩ ?_;rintro m σ N ⟨s,rfl,e⟩ g;cases m with
 |zero=>cases e
 |succ m=>exact a m s N e<|λσ' b i j=>g σ' m _ (ME m) ⟨b,rfl,i⟩<|i6 j<|d b
end
end
section
section
variable {P:Program}{tb:Tb}{cns:zN}{σ:PS}{K:PS->Prop}{d s t:Nat}{c c1 c2 c3:V}{x y z:Operand}
def NR(h:K σ):aJ P tb cns [] σ K:=h
def evd{o:LO}{os R W fps}(a:aq R W o.op σ=true)(b:adB cns R o σ=true)(h:Hh P tb cns o σ (λσ'=>bP P tb cns fps os σ' K)):bP P tb cns ((R,W)::fps) (o::os) σ K:=⟨a,b,h⟩
def Ct{fps}(h:K σ)(a:bxS cns σ=true:=by rfl):bP P tb cns fps [] σ K:=by cases fps<;>exact⟨a,h⟩
def wN(h:σ s=c)(a:c.isVal=true){o:LO}(k:K (upd (upd σ s<|dg c) d c)):SZ tb o (.tmp s) d σ K:=by subst h;unfold SZ;simp only;cases b:σ s<;>rw[b]at a k<;>first|(refine⟨a,?_⟩;simp only[CZ,b];exact k)|cases a
def xf{e n cs}(a:cns.contains d=true)(h:σ s=.uni e n cs)(k:K (upd (upd (kill [s] σ) s<|.dat n cs) d<|.own e n cs)):Hh P tb cns ⟨some d,.move<|.tmp s,t,none⟩ σ K:=by simp only[Hh,a,EL,SZ,h];exact⟨trivial,k⟩
def AaQ{e n cs}(a:cns.contains d=true)(h:σ s=.uni e n cs)(b:DM (kill [s] σ d)=true)(k:K (upd (kill [s] σ) d<|.uni e n cs)):Hh P tb cns ⟨some d,.assign<|.tmp s,t,none⟩ σ K:=by simp only[Hh,a,EL,dc,h];exact⟨trivial,b,k⟩
def AaR{op ta tc}(a:Cz σ x=c1)(b:Cz σ y=c2)(e:iH (tb ta) op c1 c2)(k:K (upd σ d<|mK op c1 c2)):Hh P tb cns ⟨some d,.binOp op ta x y tc,t,none⟩ σ K:=by subst a b;exact⟨e,k⟩
def G1(n:Int):List V:=[.int .u8 n]
def bytesOf(l:zI):zU:=l.map λn=>UInt8.ofNat n.toNat
def AaS{a b e es eb ez z z' l}(f:Mk (Cz σ x)=some (l.length,l.flatMap G1))(j:tb a=some (.sl e es eb ez))(g:tb b=some (.sc<|.str z))(m:tb e=some (.sc<|.int .u8 z'))(k:K (upd σ d<|.str<|bytesOf l)):Hh P tb cns ⟨some d,.convert a b x,t,none⟩ σ K:=by
 have h:(l.flatMap G1).length=l.length:=by rw[A3 (n:=1) (λ_=>rfl)];omega
 have e2:(l.flatMap G1).all Abk=true:=by rw[Ap];intro v o;have⟨n,_,i⟩:=CA.1 o;simp only[G1,AU]at i;subst i;rfl
 have p:(l.flatMap G1).map kB=bytesOf l:=by
  clear f h e2 k;unfold bytesOf;induction l with
  |nil=>rfl
  |cons n l q=>rw[AI,BM,q];rfl
 refine⟨?_,?_⟩
 ·simp only[pc,dq,j,g,m,f];cases r:Cz σ x<;>rw[r]at f<;>first|exact⟨h,e2⟩|cases f
 ·simp only[pv,g];rw[dr f,p];exact k
def AaU{b off cs dd v}(a:cns.contains d=false)(e:NQ σ x=.cref b off)(f:C0 (σ b)=some cs)(g:tb s=some dd)(h:off+dd.size<=cs.length)(i:getCells dd cs off=v)(k:K (upd σ d v)):
  Hh P tb cns ⟨some d,.load s x,t,none⟩ σ K:=by
 simp only[Hh,a,Ca,Dz,Mn,pc,pv,Wd,We,g,e,Xm,ZJ,f,i];exact⟨h,k⟩
def AaV{α:Type}{f:α->List V}{n off b:Nat}{l:List α}{i:Int}{e:α}{g:TypeId}{m:Nat}{dd:TyD}{v:V}(h:cns.contains d=false)(j:NQ σ x=.cref b (i.toNat * n+off))(o:σ b=.uni g m (l.flatMap f))(p:∀x,(f x).length=n)(hi:AF l i=some e)(q:tb s=some dd)(r:off+dd.size<=n)(u:getCells dd (f e) off=v)(k:K (upd σ d v)):
  Hh P tb cns ⟨some d,.load s x,t,none⟩ σ K:=by
 have a:=rm p (BB hi).2.2 r;exact AaU h j (by rw[o];rfl) q a.2 (a.1.trans u) k
def Afv{e es eb n ez cs kk i}(a:Mk (Cz σ x)=some (n,cs))(g:Cz σ y=.int kk i)(j:tb s=some (.sl e es eb ez))(hi:0<=i∧i < n)(k:K (upd σ d<|.adr (cs.drop<|i.toNat * es) 0)):Hh P tb cns ⟨some d,.indexAddr s x y,t,none⟩ σ K:=by
 have f:∀b,Cz σ x≠.same b:=λb h=>by rw[h]at a;cases a
 have l:dO σ (Cz σ x) (Cz σ y)=iaC (Cz σ x) (Cz σ y):=by cases h:Cz σ x<;>first|rfl|exact absurd h (f _)|(rw[h]at a;cases a)
 have e2:iaS σ es (Cz σ x) (Cz σ y)=iaV es (Cz σ x) (Cz σ y):=by cases h:Cz σ x<;>first|rfl|exact absurd h (f _)|(rw[h]at a;cases a)
 refine⟨?_,?_⟩
 ·simp only[pc,np,j];rw[l];simp only[iaC,a,g,SG];exact hi
 ·simp only[pv,nq,j];rw[e2];simp only[iaV,a,g,SG];exact k
def AaT{e e' es eb n b ez cs kk i}(a:Cz σ x=.same b)(f:σ b=.uni e' n cs)(g:Cz σ y=.int kk i)(h:tb s=some (.sl e es eb ez))(hi:0<=i∧i < n)(k:K (upd σ d<|.cref b<|i.toNat * es)):Hh P tb cns ⟨some d,.indexAddr s x y,t,none⟩ σ K:=by
 refine⟨?_,?_⟩
 ·simp only[pc,np,h,dO,a,f,g,SG];exact hi
 ·simp only[pv,nq,h,iaS,a,f,g,SG];exact k
def AaX{u:zU}{f:IntKind}{i:Int}{b:UInt8}(a:Cz σ x=.str u)(e:Cz σ y=.int f i)(g:tb s=some (.sc<|.str []))(hi:AF u i=some b)(k:K (upd σ d<|.int .u8 b.toNat)):Hh P tb cns ⟨some d,.index s x y,t,none⟩ σ K:=by
 obtain⟨h,j,l⟩:=BB hi;refine⟨?_,?_⟩
 ·simp only[pc,g,r6,a,e,SG];exact⟨trivial,h,j⟩
 ·simp only[pv,r7,a,e,SG,l];exact k
def AaZ{u lo hi l h}(a:Cz σ x=.str u)(b:tb s=some (.sc<|.str []))(e:W2 0 (lo.map<|Cz σ)=some l)(f:W2 u.length (hi.map<|Cz σ)=some h)(g:0<=l∧l<=h∧h<=u.length)(k:K (upd σ d<|.str<|B5 u l h)):Hh P tb cns ⟨some d,.slice s x lo hi none,t,none⟩ σ K:=by
 refine⟨?_,?_⟩
 ·simp only[pc,bW,b,a,e,f];exact g
 ·simp only[pv,WL,b,a,e,f];exact k
def y4{α:Type}{l:List α}{a b:Int}(h:0<=a∧a<=b∧b<=l.length):(B5 l a b).length=b.toNat - a.toNat:=by unfold B5;rw[Be,Av,Ce (by omega)]
def AaY{α:Type}{f:α->List V}{e:TypeId}{es j:Nat}{m:List V}{lst:List α}{lo hi:Option Operand}{l h:Int}(a:Mk (Cz σ x)=some (lst.length,lst.flatMap f))(n:tb s=some (.sl e es j m))(g:∀x,(f x).length=es)(o:W2 0 (lo.map<|Cz σ)=some l)(p:W2 lst.length (hi.map<|Cz σ)=some h)(b:0<=l∧l<=h∧h<=lst.length)
  (k:K (upd σ d<|ZS (Cz σ x) (B5 lst l h).length<|(B5 lst l h).flatMap f)):Hh P tb cns ⟨some d,.slice s x lo hi none,t,none⟩ σ K:=by
 have q:WL (some<|.sl e es j m) (Cz σ x) (lo.map<|Cz σ) (hi.map<|Cz σ)=ZS (Cz σ x) (B5 lst l h).length ((B5 lst l h).flatMap f):=by rw[y4 b];unfold B5;rw[<-Nc g,<-aN g];cases i:Cz σ x<;>rw[i]at a<;>first|(simp only[WL,a,o,p];done)|cases a
 refine⟨?_,?_⟩
 ·simp only[pc,n];cases i:Cz σ x<;>rw[i]at a<;>first|(simp only[bW,a,o,p];exact⟨b.1,b.2.1,b.2.2,A3 g lst⟩)|cases a
 ·simp only[pv,n,q];exact k
def erA(σ:PS):List Operand->List V->Prop
 |[],e=>e=[]
 |x::xs,e=>∃a b,e=a::b∧(Cz σ x).isArg=true∧er (Cz σ x)=a∧erA σ xs b
def era{as}{a:V}{xs}(b:(Cz σ x).isArg=true)(e:er (Cz σ x)=a)(f:erA σ xs as):erA σ (x::xs) (a::as):=⟨a,as,rfl,b,e,f⟩
def AD:erA σ [] []:=rfl
def aH:∀{xs:List Operand}{b:List V},erA σ xs b->xs.all (λx=>(Cz σ x).isArg)=true∧(xs.map λx=>er<|Cz σ x)=b
 |[],_,h=>⟨rfl,(show _=[]from h).symm⟩
 |x::xs,_,⟨a,f,e,g,i,j⟩=>by have⟨k,l⟩:=aH j;rw[e,Bz,g,k,AH,i,l];exact⟨rfl,rfl⟩
def xe{f args ts dst as r}(a:dst.toList.any cns.contains=false)(b:erA σ args.toList as)(e:Mp P f as r)(k:K (VH σ dst r)):Hh P tb cns ⟨dst,.call {callee:=.value (.func f),args:=args,argTypes:=ts},t,none⟩ σ K:=by have⟨g,h⟩:=aH b;subst h;show Lo P cns _ f args.toList σ K;unfold Lo;rw[As (by simp only[a];exact N1)];exact .inl ⟨g,r,.inl e,k⟩
def te{f args ts dst xs s as cs cs' r}(e:dst.toList.any cns.contains=false)(g:args.toList=x::xs)(h:NQ σ x=.cref s 0)(i:σ s=.box cs)(b:cs.all J5=true)(j:erA σ xs as)(l:Kg P f cs as cs' r)(k:K (VH (upd σ s<|.box cs') dst r)):Hh P tb cns ⟨dst,.call {callee:=.value (.func f),args:=args,argTypes:=ts},t,none⟩ σ K:=by
 have⟨m,n⟩:=aH j;subst n;show Lo P cns _ f args.toList σ K;unfold Lo;rw[As (by simp only[e];exact N1)];refine .inr<|.inl ?_;rw[g];have a:W7 P ⟨dst,.call {callee:=.value (.func f),args:=args,argTypes:=ts},t,none⟩ f x xs σ K:=⟨s,cs,cs',r,h,i,b,m,l,k⟩;cases dst with
 |none=>exact⟨rfl,a⟩
 |some d=>exact a
def td{f args ts as cs}(a:cns.contains d=true)(b:DM (σ d)=true)(e:args.toList.all (λx=>(Cz σ x).isArg)=true)(g:(args.toList.map λx=>erK<|Cz σ x)=as)(h:NewAt P f as cs)(k:K (upd σ d<|.box cs)):Hh P tb cns ⟨some d,.call {callee:=.value (.func f),args:=args,argTypes:=ts},t,none⟩ σ K:=by subst g;show Lo P cns _ f args.toList σ K;unfold Lo;rw[At (by simp only[Option.toList_some,Ft,a];rfl)];exact⟨d,rfl,cs,rfl,b,e,h,k⟩
def Bx{α:Type}{f g}(h:∀x,NU (f x)=g x)(l:List α):er (.dat l.length<|l.flatMap f)=.dat l.length (l.flatMap g):=by rw[er,TE h]
def Tr{α:Type}{f g}(h:∀x,NU (f x)=g x)(l:List α){e:TypeId}:er (.own e l.length<|l.flatMap f)=.dat l.length (l.flatMap g):=by rw[er,TE h]
def Vf{α:Type}{f g}(h:∀x,NU (f x)=g x)(l:List α):er (.arg l.length<|l.flatMap f)=.dat l.length (l.flatMap g):=by rw[er,TE h]
def CF{cs ds}(h:NU cs=ds):er (.agg cs)=.agg ds:=by rw[er,h]
def A9{c a:V}{cs ds}(b:er c=a)(e:NU cs=ds):NU (c::cs)=a::ds:=by rw[NU,b,e]
def Ao(n:Int):List V:=[.int .i64 n]
def cbl(b:Bool):List V:=[.bool b]
def cst(u:zU):List V:=[.str u]
def AX(n:Int):(Ao n).length=1:=rfl
def cr(n:Int):(G1 n).length=1:=rfl
def Aip(n:Bool):(cbl n).length=1:=rfl
def JY(n:zU):(cst n).length=1:=rfl
def AJ(n:Int):NU (Ao n)=Ao n:=rfl
def AaM(n:Int):NU (G1 n)=G1 n:=rfl
def ri(n:zU):NU (cst n)=cst n:=rfl
def O4{α:Type}{f g}(h:∀x,(f x).map WG=g x):∀l:List α,(l.flatMap f).map WG=l.flatMap g
 |[]=>rfl
 |x::l=>by rw[AI,BM,h,AI,O4 h l]
def AaP{α:Type}{f:α->List V}{e:TypeId}{es b p q:Nat}{g ds:List V}{l m:List α}(a:σ p=.own e l.length (l.flatMap f))(h:Cz (upd σ p<|.dat l.length<|l.flatMap f) (.tmp q)=c2)(i:Mk c2=some (m.length,ds))(j:ds.length=m.length * es)(n:tb s=some (.sl e es b g))(o:au c2=m.flatMap f)(r:l.length+m.length<=lim)(v:c2.isVal=true)
  (k:K (upd (upd (upd σ p<|.dat l.length<|l.flatMap f) q<|dg c2) d<|.own e (l++m).length<|(l++m).flatMap f)):Hh P tb cns ⟨some d,.call {callee:=.builtin .append,args:= #[.tmp p,.tmp q],argTypes:= #[s,s]},t,none⟩ σ K:=by
 subst h;have u:CZ σ (.tmp p)=upd σ p (.dat l.length<|l.flatMap f):=by simp only[CZ,a,dg,dg2,WG]
 show cZ tb _ _ _ _ d σ K;unfold cZ;have e2:Cz σ (.tmp p)=.own e l.length (l.flatMap f):=a;rw[n,e2,u,i];refine⟨rfl,rfl,j,r,?_⟩;rw[o,<-Dg,<-Ak];exact .inl k
def xd{α:Type}{f g h:α->List V}{e:TypeId}{es n p q:Nat}{o ds:List V}{l m:List α}(i:σ p=.own e l.length (l.flatMap f))(r:Cz (upd σ p<|.dat l.length<|l.flatMap f) (.tmp q)=c2)(u:Mk c2=some (m.length,ds))(v:ds.length=m.length * es)(w:tb s=some (.sl e es n o))(j:au c2=m.flatMap h)(A:l.length+m.length<=lim)(F:c2.isVal=true)
  (B:∀x,(f x).map WG=g x) (C:∀x,(h x).map WG=g x) (a:∀x,(f x).all V.DF=true) (b:∀x,(h x).all V.DF=true)
  (k:K (upd (upd (upd σ p<|.dat l.length<|l.flatMap f) q<|dg c2) d<|.own e (l++m).length<|(l++m).flatMap g)):Hh P tb cns ⟨some d,.call {callee:=.builtin .append,args:= #[.tmp p,.tmp q],argTypes:= #[s,s]},t,none⟩ σ K:=by
 subst r;have D:CZ σ (.tmp p)=upd σ p (.dat l.length<|l.flatMap f):=by simp only[CZ,i,dg,dg2,WG]
 show cZ tb _ _ _ _ d σ K;unfold cZ;have e2:Cz σ (.tmp p)=.own e l.length (l.flatMap f):=i;rw[w,e2,D,u];refine⟨rfl,rfl,v,A,.inr ⟨?_,?_⟩⟩
 ·rw[j,BM,O4 B,O4 C,<-Dg,<-Ak]
  have:∀(τ:PS) (c c':V),upd (upd τ d c) d c'=upd τ d c':=by
   intro τ c c';funext q;by_cases e:q=d
   ·rw[e,upd_same,upd_same]
   ·rw[upd_ne _ _ e,upd_ne _ _ e,upd_ne _ _ e]
  rw[this];exact k
 ·rw[j,E9,List.all_flatMap,List.all_flatMap,Ad,Ap,Ap];exact⟨λx _=>a x,λx _=>b x⟩
def Aa0{ty:TypeId}{α:Type}{f:α->List V}{n b:Nat}{l:List α}{i:Int}{e:α}{g:TypeId}{dd:TyD}(m:NQ σ x=.cref b (i.toNat * n))(o:σ b=.uni g l.length (l.flatMap f))(a:∀x,(f x).length=n)(hi:0<=i∧i < l.length)(p:Cz σ y=c1)(q:tb t=some dd)(r:c1.isArg=true)(u:n=dd.size)(h:Ij c1=f e)
  (k:K (upd (CZ σ y) b<|.uni g (CL l i e).length<|(CL l i e).flatMap f)):Hh P tb cns ⟨none,.store t x y,ty,none⟩ σ K:=by
 subst p u;have j:i.toNat < l.length:=by omega
 simp only[Hh,j9,q,m,o,C0,WM];refine⟨trivial,r,by rw[h,a],?_,?_⟩
 ·rw[A3 a];have:i.toNat * dd.size+dd.size<=l.length * dd.size:=by rw[<-GO];exact BW _ j
  omega
 ·rw[h,ie a j];have v:(CL l i e).length=l.length:=by unfold CL;rw[Bd]
  rw[v]at k;exact k
def Aft{dd}(a:DM (σ d)=true)(b:tb s=some dd)(k:K (upd σ d<|.box<|fC dd)):Hh P tb cns ⟨some d,.alloc s,t,none⟩ σ K:=by simp only[Hh,Yv,b];exact⟨trivial,a,k⟩
def AaW{α:Type}{f:α->List V}{z:α}{e:TypeId}{es h:Nat}{a:List V}{i j:IntKind}{n:Int}(l:cns.contains d=true)(m:Cz σ x=.int i n)(o:Cz σ y=.int j n)(p:tb s=some (.sl e es h a))(q:f z=a)(b:a.length=es)(g:0<=n∧n.toNat<=lim)(r:DM (σ d)=true)(k:K (upd σ d<|.uni e (List.replicate n.toNat z).length<|(List.replicate n.toNat z).flatMap f)):Hh P tb cns ⟨some d,.makeSlice s x y,t,none⟩ σ K:=by simp only[Hh,l,EL,gC,p,m,o];refine⟨trivial,g.1,trivial,g.2,r,?_⟩;rw[iu q b];rw[CI]at k;exact k
def gOp(cns:zN)(d:Nat):Op->Bool
 |.move _=> !cns.contains d
 |.load _ _=> !cns.contains d
 |.pick .. |.binOp .. |.unOp .. |.convert .. |.fieldAddr .. |.indexAddr .. |.index .. |.slice .. =>true
 |.call c=>match c.callee with
  |.value (.func _)=> !cns.contains d
  |.value _=>false
  |_=>true
 |.build .. |.buildSlice .. |.field .. =>true
 |_=>false
def Afu{op q b}(j:gOp cns d op=true)(p:σ q=.bool b)(h:Hh P tb cns ⟨some d,op,t,none⟩ σ K):Hh P tb cns ⟨some d,op,t,some (some q,b)⟩ σ K:=by
 have g:known (σ q)=true:=by rw[p];rfl
 have i:cE b (σ q)=true:=by rw[p];simp[cE]
 have k:Mn tb ⟨some d,op,t,none⟩ σ K->Mn tb ⟨some d,op,t,some (some q,b)⟩ σ K:=by intro h;simp only[Mn]at *;exact⟨g,λ_=>h,λe=>by rw[i]at e;cases e⟩
 cases op<;>first|(cases j;done)|exact k h|skip
 case move x=>simp only[gOp,AY]at j;simp only[Hh,j,Ca,Dz]at h⊢;exact k h
 case load s x=>simp only[gOp,AY]at j;simp only[Hh,j,Ca,Dz]at h⊢;exact k h
 case call c=>
  have⟨l,a,ts⟩:=c;cases l with
  |value x=>
   cases x with
   |func f=>
    have m:cns.contains d=false:=by simpa[gOp]using j
    replace h:Lo P cns ⟨some d,.call ⟨.value<|.func f,a,ts⟩,t,none⟩ f a.toList σ K:=h;show Lo P cns ⟨some d,.call ⟨.value<|.func f,a,ts⟩,t,some (some q,b)⟩ f a.toList σ K;unfold Lo at h⊢;rw[As (by simpa using m)]at h⊢;rcases h with h|h|h
    ·left;unfold TC at h⊢;exact⟨g,λ_=>h,λe=>absurd e<|by rw[i];simp⟩
    ·right;left;unfold Zg at h⊢;split at h
     ·exact h
     ·exact⟨g,λ_=>h,λe=>absurd e<|by rw[i];simp⟩
    ·right;right;exact⟨g,λ_=>h,λe=>absurd e<|by rw[i];simp⟩
   |_=>cases j
  |builtin r=>
   simp only[Hh,W6]at h⊢;split at h
   ·rename_i o;cases o
   ·exact⟨g,λ_=>h,λe=>absurd e<|by rw[i];simp⟩
   ·exact k h
  |_=>exact k h
 case build s ps=>exact⟨g,λ_=>h,λe=>absurd e<|by rw[i];simp⟩
 case buildSlice s n ps=>exact⟨g,λ_=>h,λe=>absurd e<|by rw[i];simp⟩
 case field s y f=>exact⟨g,λ_=>h,λe=>absurd e<|by rw[i];simp⟩
end
section
variable {P:Program}{nt:Nat}{bx:zN}{σ:PS}{Q:Exit->PS->Prop}{tb:Tb}{cns:zN}
def xW{ops y}(a:Lr P tb)(h:∀K:PS->Prop,(∀σ',LS P nt bx y σ' Q->K σ')->aJ P tb cns ops σ K):LS P nt bx (.seq (.rgn cns ops) y) σ Q:=uC a<|h _ λ_ h=>h
def xV{fps es ops y}(a:Lr P tb)(b:P.follows .mixedOrders=true)(c:(okD fps es ops&&okF cns fps ops)=true)(h:∀K:PS->Prop,(∀σ',LS P nt bx y σ' Q->K σ')->bP P tb cns fps ops σ K):LS P nt bx (.seq (.drw cns fps es ops) y) σ Q:=zX a b c<|h _ λ_ h=>h
end
def kq(a b:Int):Int:=wZ ((BitVec.ofInt IntKind.i64.bits a&&& BitVec.ofInt IntKind.i64.bits b).toNat:Int)
def od(a b:Int):Int:=wZ ((BitVec.ofInt IntKind.i64.bits a ^^^ BitVec.ofInt IntKind.i64.bits b).toNat:Int)
def yX(a b:Int):Int:=a.fdiv<|2 ^ (min b.toNat IntKind.i64.bits)
end
end Go.Proofs.YtpnoalhfjnjeaaaGreatDoor
