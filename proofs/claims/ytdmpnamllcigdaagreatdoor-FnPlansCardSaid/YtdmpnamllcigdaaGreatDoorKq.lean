/- A machine on data, part 2b: regions whose order is open, tables, rules. Over no program; no conditions. -/
import Derived.Test.YtdmpnamllcigdaaGreatDoorKp
open Go.RowKit
set_option linter.all false
namespace Go.Proofs.YtdmpnamllcigdaaGreatDoor
section
def SE{K:PS->Prop}{o:LO}{d:Nat}{σ:PS}{X:(PS->Prop)->Prop}(c:X K->∃σ1,X (λs=>s=σ1)∧K σ1)(h:TF o d σ K (X K)):∃σ1,TF o d σ (λs=>s=σ1) (X<|λs=>s=σ1)∧K σ1:=by
 unfold TF at *;split at h
 ·exact c h
 ·exact h.elim
 ·rename_i q b _;by_cases a:dw b (σ q)=true
  ·obtain⟨s,f,g⟩:=c (h.2.1 a);exact⟨s,⟨h.1,λ_=>f,λe=>by rw[a]at e;cases e⟩,g⟩
  ·exact⟨_,⟨h.1,λe=>absurd e a,λ_=>rfl⟩,h.2.2<|by simpa using a⟩
def fj{P:Program}{tb:Tb}{cns:zN}{K:PS->Prop}{o:LO}{σ:PS}(h:Hb P tb cns o σ K):∃σ1,Hb P tb cns o σ (λs=>s=σ1)∧K σ1:=by
 have hp:∀{o:LO}{σ:PS},ME tb o σ K->∃σ1,ME tb o σ (λs=>s=σ1)∧K σ1:=by
  intro o σ h;unfold ME at *;split at h
  ·exact h.elim
  ·split at h
   ·exact⟨_,⟨h.1,rfl⟩,h.2⟩
   ·exact h.elim
   ·rename_i q b _;by_cases hb:dw b (σ q)=true
    ·exact⟨_,⟨h.1,λe=>⟨(h.2.1 hb).1,rfl⟩,λe=>by rw[hb]at e;cases e⟩,(h.2.1 hb).2⟩
    ·exact⟨_,⟨h.1,λe=>absurd e hb,λe=>rfl⟩,h.2.2<|by simpa using hb⟩
 have hcS:∀{o:LO}{f:FuncId}{args:List Operand}{σ:PS},T9 P o f args σ K->∃σ1,T9 P o f args σ (λs=>s=σ1)∧K σ1:=by
  intro o f args σ h;unfold T9 at *;split at h
  ·exact⟨_,⟨h.1,h.2.choose,h.2.choose_spec.1,rfl⟩,h.2.choose_spec.2⟩
  ·split at h
   ·rename_i b _ _ q d _ _;by_cases hb:dw b (σ q)=true
    ·exact⟨_,⟨h.1,λe=>⟨(h.2.1 hb).1,(h.2.1 hb).2.choose,(h.2.1 hb).2.choose_spec.1,rfl⟩,λe=>by rw[hb]at e;cases e⟩,(h.2.1 hb).2.choose_spec.2⟩
    ·exact⟨_,⟨h.1,λe=>absurd e hb,λe=>rfl⟩,h.2.2<|by simpa using hb⟩
   ·exact h.elim
 have ha:∀{o:LO}{x:Operand}{d:Nat}{σ:PS},TD tb o x d σ K->∃σ1,TD tb o x d σ (λs=>s=σ1)∧K σ1:=by
  intro o x d σ h;unfold TD at *;split at h
  ·split at h
   ·exact⟨_,rfl,h⟩
   ·exact h.elim
  ·exact⟨_,rfl,h⟩
  ·split at h
   ·exact⟨_,rfl,h⟩
   ·exact⟨_,rfl,h⟩
   ·exact⟨_,rfl,h⟩
   ·exact⟨_,⟨h.1,rfl⟩,h.2⟩
  ·exact⟨_,⟨h.1,rfl⟩,h.2⟩
 have hF:∀{o:LO}{f:FuncId}{args:List Operand}{σ:PS},JW P cns o f args σ K->∃σ1,JW P cns o f args σ (λs=>s=σ1)∧K σ1:=by
  intro o f args σ h;unfold JW at *;split at h
  ·rename_i hc;simp only[Az hc];obtain⟨d,hd,cs,q0,q1,q2,q3,q4⟩:=h;exact⟨_,⟨d,hd,cs,q0,q1,q2,q3,rfl⟩,q4⟩
  ·rename_i hc;simp only[AA hc];rcases h with h|h|h
   ·obtain⟨s,h1,h2⟩:=hcS h;exact⟨s,.inl h1,h2⟩
   ·unfold Z6 at *;split at h
    ·exact h.elim
    ·rename_i x xs;have key:Xk P o f x xs σ K->∃σ1,Xk P o f x xs σ (λs=>s=σ1)∧K σ1:=λ⟨s,cs,cs',r,q1,q2,q3,q4,q5,q6⟩=>⟨_,⟨s,cs,cs',r,q1,q2,q3,q4,q5,rfl⟩,q6⟩
     split at h
     ·obtain⟨s,h1,h2⟩:=key h.2;exact⟨s,.inr<|.inl ⟨h.1,h1⟩,h2⟩
     ·obtain⟨s,h1,h2⟩:=SE (X:=λK=>Xk P o f x xs σ K) key h;exact⟨s,.inr<|.inl h1,h2⟩
   ·have key:∀{d},Z7 P d f args σ K->∃σ1,Z7 P d f args σ (λs=>s=σ1)∧K σ1:=λh=>h.elim (λ⟨s,xs,cs,cs',D,q1,q2,q3,q4,q5,q6,q7,q8,q9⟩=>⟨_,.inl ⟨s,xs,cs,cs',D,q1,q2,q3,q4,q5,q6,q7,q8,rfl⟩,q9⟩)
     (λh=>h.elim (λ⟨zs,x,xs,ys,us,os,os',r,D,q1,q2,q3,q4,q5,q6,q7,q8,q9⟩=>⟨_,.inr (.inl ⟨zs,x,xs,ys,us,os,os',r,D,q1,q2,q3,q4,q5,q6,q7,q8,rfl⟩),q9⟩)
      (λ⟨zs,x,s,n,n',e,cs,cs',r,q1,q2,q3,q4,q5,q6,q7,q8,q9⟩=>⟨_,.inr (.inr ⟨zs,x,s,n,n',e,cs,cs',r,q1,q2,q3,q4,q5,q6,q7,q8,rfl⟩),q9⟩))
    unfold bF at *;split at h
    ·obtain⟨s,h1,h2⟩:=key h.2;exact⟨s,.inr<|.inr ⟨h.1,h1⟩,h2⟩
    ·obtain⟨s,h1,h2⟩:=SE (X:=λK=>Z7 P (some _) f args σ K) key h;exact⟨s,.inr<|.inr h1,h2⟩
 have hu:∀{x:Operand}{d:Nat}{σ:PS},eL x d σ K->∃σ1,eL x d σ (λs=>s=σ1)∧K σ1:=by
  intro x d σ h;unfold eL at *;split at h
  ·split at h
   ·exact⟨_,⟨h.1,rfl⟩,h.2⟩
   ·exact h.elim
  ·exact h.elim
 unfold Hb at *;split at h
 ·split at h
  ·rename_i hc;simp only[Az hc];obtain⟨s,h1,h2⟩:=hu h.2;exact⟨s,⟨h.1,h1⟩,h2⟩
  ·rename_i hc;simp only[AA hc];obtain⟨s,h1,h2⟩:=ha h.2;exact⟨s,⟨h.1,h1⟩,h2⟩
 ·split at h
  ·rename_i hc;simp only[Az hc];obtain⟨s,h1,h2⟩:=ha h.2;exact⟨s,⟨h.1,h1⟩,h2⟩
  ·rename_i hc;simp only[AA hc];exact hp h
 ·split at h
  ·rename_i hc;simp only[Az hc];have h0:=h.1;have h2:=h.2;unfold Zb at *;split at h2
   ·split at h2
    ·exact⟨_,⟨h0,h2.1,rfl⟩,h2.2⟩
    ·exact h2.elim
   ·exact⟨_,⟨h0,h2.1,rfl⟩,h2.2⟩
   ·obtain⟨q,g,off,e,n,m,cs,k0,hq,k1,k2,k3,k4⟩:=h2;exact⟨_,⟨h0,q,g,off,e,n,m,cs,k0,hq,k1,k2,k3,rfl⟩,k4⟩
   ·exact h2.elim
  ·rename_i hc;simp only[AA hc];exact hp h
 ·have h0:=h.1;have h2:=h.2;unfold mI at *;split at h2
  ·split at h2
   ·exact⟨_,⟨h0,h2.1,rfl⟩,h2.2⟩
   ·exact h2.elim
  ·exact h2.elim
 ·have h0:=h.1;have h2:=h.2;unfold lV at *;split at h2
  ·split at h2
   ·exact⟨_,⟨h0,h2.1,h2.2.1,h2.2.2.1,rfl⟩,h2.2.2.2⟩
   ·exact h2.elim
  ·obtain⟨g,off,e,n,m,cs,D,vc,q1,q2,q3,q4,q5,q6,q7,q8,q9,q10⟩:=h2;exact⟨_,⟨h0,g,off,e,n,m,cs,D,vc,q1,q2,q3,q4,q5,q6,q7,q8,q9,rfl⟩,q10⟩
  ·exact h2.elim
 ·have h0:=h.1;have h2:=h.2;unfold Zl at *;split at h2
  ·exact⟨_,⟨h0,h2.1,rfl⟩,h2.2⟩
  ·exact h2.elim
 ·exact⟨_,⟨h.1,h.2.1,h.2.2.1,rfl⟩,h.2.2.2⟩
 ·refine SE (X:=λK=>Xg tb _ _ _ σ K) (λh2=>?_) h;unfold Xg at *;split at h2
  ·split at h2
   ·exact⟨_,rfl,h2⟩
   ·exact h2.elim
  ·exact h2.elim
 ·refine SE (X:=λK=>mo tb _ _ _ _ σ K) (λh2=>?_) h;unfold mo at *;split at h2
  ·split at h2
   ·exact⟨_,⟨h2.1,h2.2.1,rfl⟩,h2.2.2⟩
   ·exact h2.elim
  ·exact h2.elim
 ·split at h
  ·rename_i hc;simp only[Az hc];have h0:=h.1;have h2:=h.2;unfold jm at *;split at h2
   ·exact⟨_,⟨h0,h2.1,h2.2.1,h2.2.2.1,h2.2.2.2.1,rfl⟩,h2.2.2.2.2⟩
   ·exact h2.elim
  ·rename_i hc;simp only[AA hc];have h0:=h.1;have h2:=h.2;unfold fR at *;split at h2
   ·exact⟨_,⟨h0,h2.1,h2.2.1,h2.2.2.1,rfl⟩,h2.2.2.2⟩
   ·exact h2.elim
 ·unfold Xj at *;split at h
  ·split at h
   ·exact hF h
   ·have key:∀{d u args},Wj P d u args σ K->∃σ1,Wj P d u args σ (λs=>s=σ1)∧K σ1:=λ⟨f,us,ss,css,css',r,D,q1,q2,q3,q4,q5,q6,q7,q8,q9,q10⟩=>⟨_,⟨f,us,ss,css,css',r,D,q1,q2,q3,q4,q5,q6,q7,q8,q9,rfl⟩,q10⟩
    unfold Ua at *;split at h
    ·obtain⟨s,h1,h2⟩:=key h.2;exact⟨s,⟨h.1,h1⟩,h2⟩
    ·have h0:=h.1;obtain⟨s,h1,h2⟩:=SE (X:=λK=>Wj P (some _) _ _ σ K) key h.2;exact⟨s,⟨h0,h1⟩,h2⟩
   ·unfold XO at *;split at h
    ·exact⟨_,⟨h.1,h.2.1,h.2.2.1,rfl⟩,h.2.2.2⟩
    ·exact h.elim
  ·have key:∀{t t' x y d}{σ:PS},US tb t t' x y d σ K->∃σ1,US tb t t' x y d σ (λs=>s=σ1)∧K σ1:=by
    intro t t' x y d σ h2;unfold US at *;split at h2
    ·rcases h2.2.2.2.2 with h3|h3
     ·exact⟨_,⟨h2.1,h2.2.1,h2.2.2.1,h2.2.2.2.1,.inl rfl⟩,h3⟩
     ·exact⟨_,⟨h2.1,h2.2.1,h2.2.2.1,h2.2.2.2.1,.inr ⟨rfl,h3.2⟩⟩,h3.1⟩
    ·exact h2.elim
   refine SE (X:=λK=>US tb _ _ _ _ _ σ K∨((∀b,_≠some (some gU,b))∧appG tb _ _ _ _ _ σ K)) (λh2=>?_) h;rcases h2 with h2|⟨hg,s,u,e,n,cs,q1,q2,q3,q4⟩
   ·obtain⟨s1,k1,k2⟩:=key h2;exact⟨s1,.inl k1,k2⟩
   ·obtain⟨s1,k1,k2⟩:=key q4;exact⟨s1,.inr ⟨hg,s,u,e,n,cs,q1,q2,q3,k1⟩,k2⟩
  ·exact hp h
 ·refine SE (X:=λK=>pb P _ _ _ _ σ K) (λh2=>?_) h;unfold pb at *;split at h2
  ·split at h2
   ·exact⟨_,rfl,h2⟩
   ·exact h2.elim
  ·exact h2.elim
 ·refine SE (X:=λK=>mkF _ _ _ _ σ K) (λh2=>?_) h;unfold mkF at *;split at h2
  ·exact⟨_,rfl,h2⟩
  ·exact h2.elim
 ·exact hp h
def cX(P:Program)(tb:Tb)(a:zN):List (zN×zN)->List LO->PS->(PS->Prop)->Prop
 |_,[],σ,K=>bxS a σ=true∧K σ
 |[],_::_,_,_=>False
 |(R,W)::fps,o::os,σ,K=>bm R W o.op σ=true∧adB a R o σ=true∧Hb P tb a o σ (λσ'=>cX P tb a fps os σ' K)
def okF(a:zN):List (zN×zN)->List LO->Bool
 |_,[]=>true
 |[],_::_=>false
 |(R,W)::fps,o::os=>fpB a R W o&&okF a fps os
def Zm:List zN->List zN->List zN
 |acc,[]=>acc
 |acc,e::es=>Zm (acc++[(e++e.flatMap (λk=>acc.getD k [])).eraseDups]) es
def meets(a b:zN):Bool:=a.any b.contains
def clash(x y:zN×zN):Bool:=meets x.2 y.1 || meets x.2 y.2 || meets x.1 y.2
def isX(o:LO):Bool:=match o.op,o.g,o.dst with
 |.extract (.tmp _) _,none,some _=>true
 |_,_,_=>false
def isM(o:LO):Bool:=match o.op,o.g,o.dst with
 |.move (.tmp _),none,some _=>true
 |_,_,_=>false
def AkH(o:LO):Bool:=match o.op with
 |.store _ _ _=>true
 |_=>false
def mvT(o:LO):Option (Nat×Nat):=match o.op,o.g,o.dst with
 |.move (.tmp s),none,some d=>some (s,d)
 |_,_,_=>none
def Amw(e:List LO):Bool:=e.any λo=>match o.op with
 |.call c=>match c.callee,c.args.toList with
  |.builtin .append,.tmp x::_=>e.any λa=>match mvT a with
   |some (s,d)=>d==x&&e.any λb=>match mvT b with
    |some (f,g)=>f==s&&g !=d
    |none=>false
   |none=>false
  |_,_=>false
 |_=>false
def Amx(a:List LO):Bool:=Nat.ble 2 (a.countP AkH) || Amw a
def iy(a:List LO)(i:Nat):Bool:=match a[i]? with
 |some o=>isX o || (isM o&&Amx a)
 |none=>false
def exX{o b}(h:(isX o || (isM o&&b))=true):∃d,o.g=none∧o.dst=some d∧((∃sl a,o.op=.extract (.tmp sl) a)∨∃sl,o.op=.move (.tmp sl)):=by
 rw[BZ,Ab]at h;rcases h with h|⟨h,_⟩
 ·unfold isX at h;split at h
  ·rename_i sl a d c e f;exact⟨d,e,f,.inl ⟨sl,a,c⟩⟩
  ·cases h
 ·unfold isM at h;split at h
  ·rename_i sl d c e f;exact⟨d,e,f,.inr ⟨sl,c⟩⟩
  ·cases h
def enf(es:List zN)(a:List LO)(i j:Nat):Bool:=iy a i&&iy a j&&es.getD i []==es.getD j []
def lkL(a:List LO)(j:Nat):zN:=match a[j]? with
 |some o=>V5 o.op++gT o
 |none=>[]
def apF(fps:List (zN×zN))(a:List LO)(i j:Nat):Bool:=match(a[i]?).bind (·.dst)with
 |some d=> !(lkL a j).contains d&&((a[j]?).bind (·.dst))!=some d&&(match(a[j]?).bind (·.dst)with
  |some e=> !(lkL a i).contains e
  |none=>true)
 |none=>false
def okD(fps:List (zN×zN))(es:List zN)(a:List LO):Bool:=
 (fps.length==es.length&&(List.range es.length).all λj=>(es.getD j []).all (λk=>decide (k < j))&&(List.range j).all λi=> !clash (fps.getD i ([],[])) (fps.getD j ([],[])) || ((Zm [] es).getD j []).contains i || enf es a i j)&&
 (List.range es.length).all λi=> !iy a i || (List.range es.length).all λj=>j==i || (es.getD j []).contains i || ((Zm [] es).getD i []).contains j || apF fps a i j
def jW{X:Nat->Prop}{es0:List zN}(g:∀k,X k->∀m∈es0.getD k [],X m):∀(es acc pre:List zN),es0=pre++es->pre.length=acc.length->
  (∀j,(∀k∈es0.getD j [],X k)->∀i∈acc.getD j [],X i)->∀j,(∀k∈es0.getD j [],X k)->∀i∈(Zm acc es).getD j [],X i
 |[],acc,pre,_,_,h=>h
 |e::es,acc,pre,l,n,h=>by
  unfold Zm;refine jW g es _ (pre++[e]) (by rw[l];simp) (by simp[n]) ?_;intro j b i hi;rcases Nat.lt_trichotomy j acc.length with c|d|o
  ·refine h j b i ?_;simpa[Cc c]using hi
  ·subst d;have f:es0.getD acc.length []=e:=by rw[l];simp[<-n]
   rw[f]at b;have a:i∈(e++e.flatMap (λk=>acc.getD k [])).eraseDups:=by simpa using hi
   rw[List.mem_eraseDups,Al,B6]at a;rcases a with a|⟨k,p,a⟩
   ·exact b i a
   ·exact h k (g k<|b k p) i a
  ·exfalso;have:(acc++[(e++e.flatMap (λk=>acc.getD k [])).eraseDups])[j]? =none:=Bt (by simp;omega);rw[AF,this]at hi;simp at hi
def Xl{α:Type}{p q}(h:∀x,p x=true->q x=true):∀{l:List α}{x:α},x∈l->q x=true->p x=false->l.countP p < l.countP q
 |[],_,a,_,_=>by simp at a
 |y::l,x,a,b,c=>by
  have d:l.countP p<=l.countP q:=List.countP_mono_left<|λx _=>h x
  rw[List.countP_cons,List.countP_cons];rcases AL.1 a with rfl|a
  ·rw[b,c];simp;omega
  ·have:=Xl h a b c
   have f:(if p y=true then 1 else 0)<=(if q y=true then 1 else 0):=by
    split
    ·rename_i e;rw[Az (h y e)];exact A5 1
    ·exact BF _
   omega
def mix(s:Nat->PS)(W:Nat->zN)(X:Nat->Bool):Nat->PS
 |0=>s 0
 |m+1=>if X m=true then pt (W m) (s<|m+1) (mix s W X m)else mix s W X m
section
variable {s:Nat->PS}{R W:Nat->zN}{X:Nat->Bool}{n i:Nat}
def fU{q}:∀{m k:Nat},m<=k->(∀j,m<=j->j < k->X j=true->(W j).contains q=false)->mix s W X k q=mix s W X m q:=by
 intro m k b h;induction k with
 |zero=>have:m=0:=aG;subst this;rfl
 |succ k c=>
  rcases Bi k m with d|a
  ·have:m=k+1:=aG;subst this;rfl
  ·rw[<-c a (λj e g=>h j e aG)];simp only[mix];split
   ·rename_i f;have:=h k a aG f;simp only[pt];rw[AA (by rw[this];exact Ox)]
   ·rfl
def xH{q}(a:∀m,m < n->∀q,(W m).contains q=false->s (m+1) q=s m q):∀{m:Nat},m<=n->(∀j,j < m->(W j).contains q=true->X j=true)->mix s W X m q=s m q:=by
 intro m e h;induction m with
 |zero=>rfl
 |succ m c=>
  have c:=c aG<|λj f=>h j aG
  simp only[mix];by_cases d:(W m).contains q=true
  ·rw[Az (h m aG d)];simp only[pt];rw[Az d]
  ·have b:(W m).contains q=false:=by simpa using d
   split
   ·simp only[pt];rw[AA d,c,a m aG q b]
   ·rw[c,a m aG q b]
def Abl(hi:i < n)(a:∀j q,i < j->j < n->(W i).contains q=true->(W j).contains q=true->X j=false)(d:Nat->Bool)(f:∀j,d j=(X j || j==i)):
  mix s W d n=pt (W i) (s<|i+1) (mix s W X n):=by
 funext q;have b:∀j,j≠i->d j=X j:=λj p=>by rw[f];simp[p]
 have g:d i=true:=by rw[f];simp
 have l:∀m,m<=i->mix s W d m=mix s W X m:=by
  intro m;induction m with
  |zero=>intro _;rfl
  |succ m c=>intro r;simp only[mix];rw[b m aG,c aG]
 simp only[pt];by_cases e:(W i).contains q=true
 ·rw[Az e,fU (m:=i+1) aG (λj u t o=>?_)]
  ·simp only[mix,Az g,pt,Az e]
  ·cases k:(W j).contains q
   ·rfl
   ·rw[b j aG,a j q aG t e k]at o;cases o
 ·rw[AA e]
  have:∀m,m<=n->mix s W d m q=mix s W X m q:=by
   intro m;induction m with
   |zero=>intro _;rfl
   |succ m c=>
    intro r;have c:=c aG;simp only[mix];by_cases h:m=i
    ·subst h;rw[Az g];simp only[pt];rw[AA e,c];split
     ·simp only[pt];rw[AA e]
     ·rfl
    ·rw[b m h];split
     ·simp only[pt];split
      ·rfl
      ·exact c
     ·exact c
  exact this n<|A5 _
end
section
variable {P:Program}{tb:Tb}{nt:Nat}{bx cns:zN}{σ:PS}{K:PS->Prop}
def rD:∀{fps:List (zN×zN)}{os:List LO}{σ:PS},okF cns fps os=true->cX P tb cns fps os σ K->
  ∃s:Nat->PS,s 0=σ∧K (s os.length)∧(∀i,i<=os.length->bxS cns (s i)=true)∧∀i o,os[i]? =some o->fpS cns (fps.getD i ([],[])).1 (fps.getD i ([],[])).2 o (s i)∧Hb P tb cns o (s i) (λσ'=>σ'=s (i+1))
 |fps,[],σ,_,h=>by
  have h:bxS cns σ=true∧K σ:=by cases fps<;>exact h
  exact⟨λ_=>σ,rfl,h.2,λ_ _=>h.1,λi o hi=>by simp at hi⟩
 |[],_::_,_,_,h=>h.elim
 |(R,W)::fps,o::os,σ,b,h=>by
  simp only[okF,Ab]at b;have⟨c,a,h⟩:=h;have d:bxS cns σ=true:=by unfold adB at a;rw[Ab]at a;exact a.2
  replace c:fpS cns R W o σ:=⟨b.1,c,a⟩;have⟨σ1,e,f⟩:=fj h;have⟨s,s0,g,j,k⟩:=rD b.2 f;refine⟨λi=>match i with|0=>σ|i+1=>s i,rfl,by simpa using g,λi hi=>?_,λi l hi=>?_⟩
  ·cases i with
   |zero=>exact d
   |succ i=>exact j i (by simpa using hi)
  cases i with
  |zero=>simp only[CB,Av]at hi;subst hi;refine⟨by simpa using c,?_⟩;show Hb P tb cns o σ (λσ'=>σ'=s 0);rw[s0];exact e
  |succ i=>simpa using k i l (by simpa using hi)
def sB{s W X}:∀{n:Nat},(∀m,m<=n->bxS cns (s m)=true)->bxS cns (mix s W X n)=true:=by
 intro n h;refine Aq.2 λq b=>?_
 induction n with
 |zero=>exact Aq.1 (h 0<|A5 _) q b
 |succ n a=>
  have a:=a<|λm c=>h m aG
  simp only[mix];split
  ·unfold pt;split
   ·exact Aq.1 (h (n+1)<|A5 _) q b
   ·exact a
  ·exact a
def uH{base St0 w0 w a k}(d:Rel P nt bx base St0 w0 σ a w):Rel P nt bx base St0 w0 σ a {w with drawn:=k}:=by have⟨e,B,h,b,c,f⟩:=d;exact⟨e,B,h.world (λ_ _ h=>h) (λ_ _ _=>rfl) (A5 _) (λ_ _ _=>⟨rfl,λ_=>Ea⟩) h.st,⟨b.os,b.tape,b.output,b.size,b.block⟩,c,f⟩
def Zs{a:Array Oper}{j:Nat}{o:Oper}(b:a[j]? =some o):(a.toList.map YO).getD j []=YO o:=by rw[AF,BS,Array.getElem?_toList,b];rfl
def fT{a b q}(c:a.contains q=true)(d:b.contains q=true):meets a b=true:=by unfold meets;rw[BR];exact⟨q,by simpa using c,d⟩
def mS{l:Array Bool}{i j:Nat}(hi:i < l.size):(l.setIfInBounds i true).getD j false=(l.getD j false || j==i):=by
 by_cases h:i=j
 ·subst h;simp[hi]
 ·rw[getD_set_ne false h];have:(j==i)=false:=by simp;omega
  rw[this,Dv]
def mH{K'}(a:∀σ,K σ->K' σ):∀{fps:List (zN×zN)}{os:List LO}{σ:PS},cX P tb cns fps os σ K->cX P tb cns fps os σ K'
 |fps,[],σ,h=>by
  have h:bxS cns σ=true∧K σ:=by cases fps<;>exact h
  cases fps<;>exact⟨h.1,a _ h.2⟩
 |[],_::_,_,h=>h.elim
 |(R,W)::fps,o::os,σ,⟨b,c,d⟩=>⟨b,c,wj (λσ' h=>mH a h) d⟩
def x8:∀{fps:List (zN×zN)}{os:List LO}{i:Nat}{o:LO},okF cns fps os=true->os[i]? =some o->fpB cns (fps.getD i ([],[])).1 (fps.getD i ([],[])).2 o=true
 |_,[],i,_,_,h=>by simp at h
 |[],_::_,_,_,h,_=>by cases h
 |(R,W)::fps,o::os,i,a,h,hi=>by
  simp only[okF,Ab]at h;cases i with
  |zero=>simp only[CB,Av]at hi;subst hi;exact h.1
  |succ i=>have:=x8 (fps:=fps) (os:=os) (i:=i) (o:=a) h.2 (by simpa using hi);simpa using this
def nr:∀{fps:List (zN×zN)}{os:List LO}(p:Nat),okF cns fps os=true->okF cns (fps.take p) (os.take p)=true
 |_,[],p,_=>by rw[List.take_nil];cases(List.take p _)<;>rfl
 |[],_::_,_,h=>by cases h
 |(R,W)::fps,o::os,0,_=>rfl
 |(R,W)::fps,o::os,p+1,h=>by simp only[okF,Ab]at h;rw[Eu,Eu,okF,h.1,nr p h.2];rfl
def rE:∀{os:List LO}{σ:PS},bh P tb cns os σ K->∃s:Nat->PS,s 0=σ∧K (s os.length)∧∀i o,os[i]? =some o->Hb P tb cns o (s i) (λσ'=>σ'=s (i+1))
 |[],σ,h=>⟨λ_=>σ,rfl,h,λi o hi=>by simp at hi⟩
 |o::os,σ,h=>by
  have⟨σ1,a,b⟩:=fj<|show Hb P tb cns o σ (λσ'=>bh P tb cns os σ' K)from h
  have⟨s,s0,c,d⟩:=rE b;refine⟨λi=>match i with|0=>σ|i+1=>s i,rfl,by simpa using c,λi e hi=>?_⟩;cases i with
  |zero=>simp only[CB,Av]at hi;subst hi;show Hb P tb cns o σ (λσ'=>σ'=s 0);rw[s0];exact a
  |succ i=>simpa using d i e (by simpa using hi)
def zt(htb:LB P tb){ops:Array Oper}{s:Nat->PS}{p:Nat}(hok:ops.toList.all (XK nt bx)=true)(hA:(ops.toList.map<|Df ops).all (okA bx cns)=true)(hL:∀j,j < ops.size->∀k∈(ops.toList.map YO).getD j [],k < j)
  (hT:∀j,p<=j->j < ops.size->∀i,p<=i->i < j->((Zm []<|ops.toList.map YO).getD j []).contains i=true) (hs:∀i o,p<=i->(ops.toList.map<|Df ops)[i]? =some o->Hb P tb cns o (s i) (λσ'=>σ'=s (i+1)))
  {base:Bs}{St0:Nat->Nat->Prop}{w0:World}{Q:Exit->Act->World->Prop}(hQ:∀a w,Rel P nt bx base St0 w0 (s ops.size) a w->Q .normal a w):
  ∀(fuel i:Nat) (listed:Array Bool) (a:Act) (w:World),p<=i->i<=ops.size->listed.size=ops.size->(∀j,j < ops.size->listed.getD j false=decide (j < i))->((List.range ops.size).countP<|λi=> !listed.getD i false)<=fuel->Rel P nt bx base St0 w0 (s i) a w->wpAny P .any ops Q fuel listed a w:=by
 have htf:∀{listed:Array Bool}{j:Nat},listed.size=ops.size->j < ops.size->listed.getD j true=listed.getD j false:=by intro listed j hsz hj;simp only[DT];rw[Array.getElem?_eq_getElem aG];rfl
 have hone:∀{listed:Array Bool}{i k:Nat},p<=i->listed.size=ops.size->(∀j,j < ops.size->listed.getD j false=decide (j < i))->k∈Region.ready .any ops listed->k=i∧i < ops.size:=by
  intro listed i k hpi hsz hpat hk;rw[Mf]at hk;obtain⟨h0,o,ho,hedge⟩:=hk;have hlt:k < ops.size:=(Ju.1 ho).1;rw[htf hsz hlt,hpat k hlt]at h0;have hki:i<=k:=by have:=K6 h0;omega
  rcases Bi i k with hik|hik
  ·exfalso;have hes:∀m∈(ops.toList.map YO).getD k [],m < i:=λm hm=>by have hmk:=hL k hlt m hm;rw[Zs ho]at hm;obtain⟨e,he,rfl⟩:=Aw.1 hm;rw[AM]at he;have:=hedge e (by simpa using he.1) he.2;rw[hpat _ aG]at this;exact Gx this
   have:=jW (X:=λm=>m < i) (es0:=ops.toList.map YO) (λm hm e he=>Nat.lt_trans (hL m aG e he) hm) _ [] [] rfl rfl (λj _ m hm=>by simp at hm) k hes i (by simpa using hT k aG hlt i hpi hik);omega
  ·exact⟨aG,aG⟩
 intro fuel;induction fuel with
 |zero=>
  intro i listed a w hpi hi hsz hpat hcnt hr
  have hn:i=ops.size:=by
   rcases Bi i ops.size with h|h
   ·have h0:=List.countP_eq_zero.1 (Nat.le_zero.1 hcnt) i (Ao.2 h);rw[hpat i h]at h0;simp at h0
   ·omega
  subst hn;refine⟨?_,hQ a w hr⟩;rw[K2];intro k hk;have:=(hone hpi hsz hpat hk).2;omega
 |succ fuel ih=>
  intro i listed a w hpi hi hsz hpat hcnt hr
  have hin:i < ops.size->i∈Region.ready .any ops listed:=λhlt=>by
   rw[Mf];refine⟨by rw[htf hsz hlt,hpat i hlt];simp,ops[i],by simp[hlt],λe he hb=>?_⟩;have hm:e.on∈(ops.toList.map YO).getD i []:=by rw[Zs (o:=ops[i]) (by simp[hlt])];exact CE<|AM.2 ⟨by simpa using he,hb⟩
   have:=hL i hlt _ hm;rw[hpat _ aG];exact Ak this
  refine⟨λh0=>?_,λk hk=>?_⟩
  ·have hn:i=ops.size:=by
    rcases Bi i ops.size with h|h
    ·have:=hin h;rw[h0]at this;simp at this
    ·omega
   rw[hn]at hr;exact hQ a w hr
  ·obtain⟨rfl,hlt⟩:=hone hpi hsz hpat hk;have h1:ops[k]? =some ops[k]:=by simp[hlt]
   have h2:(ops.toList.map<|Df ops)[k]? =some (Df ops ops[k]):=by simp[hlt]
   have h3:XK nt bx ops[k]=true:=by rw[Aq]at hok;exact hok _ nF
   have hAo:okA bx cns (Df ops ops[k])=true:=Aq.1 hA _<|B4 h2;have hst:=bN (nt:=nt) (bx:=bx) htb h3 hAo (hs k _ hpi h2) base St0 w0 a w Q hr;have hX':∀j,(listed.setIfInBounds k true).getD j false=(listed.getD j false || j==k):=λj=>mS aG
   have hnext:∀a' w',(∃σ',σ'=s (k+1)∧Rel P nt bx base St0 w0 σ' a' w')->wpAny P .any ops Q fuel (listed.setIfInBounds k true) a' w':=by
    rintro a' w' ⟨σ',rfl,hr'⟩;refine ih (k+1) _ a' w' aG hlt (by simp[hsz]) (λj hj=>?_) ?_ hr'
    ·rw[hX',hpat j hj,Bb];simp only[BZ,AN,Bv];omega
    ·have:(List.range ops.size).countP (λj=> !(listed.setIfInBounds k true).getD j false) < (List.range ops.size).countP (λj=> !listed.getD j false):=by refine Xl (λj hj=>?_) (x:=k) (Ao.2 hlt) (by rw[hpat k hlt];simp) (by rw[hX'];simp);rw[hX']at hj;revert hj;cases listed.getD j false<;>simp
     omega
   unfold wpOp;rw[h1];simp only;split
   ·rename_i hw;rw[Az hw]at hst;exact .inl<|Oper.wp_mono hnext hst
   ·rename_i hw;rw[AA hw]at hst;exact hnext _ _ hst
def AaA(htb:LB P tb){ops:Array Oper}{fps:List (zN×zN)}{s:Nat->PS}{p:Nat}(hp:p<=ops.size)(hok:ops.toList.all (XK nt bx)=true)(hA:(ops.toList.map<|Df ops).all (okA bx cns)=true)(hD:okD fps (ops.toList.map YO) (ops.toList.map<|Df ops)=true)
  (hF:okF cns fps (ops.toList.map<|Df ops)=true) (hT:∀j,p<=j->j < ops.size->iy (ops.toList.map<|Df ops) j=false∧∀i,i < j->((Zm []<|ops.toList.map YO).getD j []).contains i=true∨(i < p∧iy (ops.toList.map<|Df ops) i=true∧∀k∈(ops.toList.map YO).getD i [],((Zm []<|ops.toList.map YO).getD j []).contains k=true))
  (hBx:∀i,i<=p->bxS cns (s i)=true)
  (hs:∀i o,i < p->(ops.toList.map<|Df ops)[i]? =some o->fpS cns (fps.getD i ([],[])).1 (fps.getD i ([],[])).2 o (s i)∧Hb P tb cns o (s i) (λσ'=>σ'=s (i+1)))
  {base:Bs}{St0:Nat->Nat->Prop}{w0:World}{Q:Exit->Act->World->Prop}(hQ:∀(fuel:Nat) (listed:Array Bool) (a:Act) (w:World),listed.size=ops.size->(∀j,j < ops.size->listed.getD j false=decide (j < p))->((List.range ops.size).countP<|λi=> !listed.getD i false)<=fuel->Rel P nt bx base St0 w0 (s p) a w->wpAny P .any ops Q fuel listed a w) (hP:∀c a w,¬Q (.panic c) a w):
  ∀(fuel:Nat) (listed:Array Bool) (a:Act) (w:World),listed.size=ops.size->((List.range ops.size).countP<|λi=> !listed.getD i false)<=fuel->
   (∀k,listed.getD k false=true->∀m∈(ops.toList.map YO).getD k [],listed.getD m false=true)->
   (∀i k,i < k->k < ops.size->enf (ops.toList.map YO) (ops.toList.map<|Df ops) i k=true->listed.getD k false=true->listed.getD i false=true)->
   (∀j,p<=j->listed.getD j false=false)->Rel P nt bx base St0 w0 (mix s (λi=>(fps.getD i ([],[])).2) (λi=>listed.getD i false) p) a w->wpAny P .any ops Q fuel listed a w:=by
 have hD':=hD;simp only[okD,Ab,Aq,Ao,Ai,Ce,AN,BZ,At]at hD';obtain⟨⟨hlen,hD'⟩,hX'⟩:=hD';have hless:∀j,j < ops.size->∀k∈(ops.toList.map YO).getD j [],k < j:=λj hj=>(hD' j hj).1
 have hcl:∀i j,i < j->j < ops.size->clash (fps.getD i ([],[])) (fps.getD j ([],[]))=true->((Zm []<|ops.toList.map YO).getD j []).contains i=true∨enf (ops.toList.map YO) (ops.toList.map<|Df ops) i j=true:=by
  intro i j hij hj hc;rcases(hD' j hj).2 i hij with(h|h)|h
  ·rw[h]at hc;cases hc
  ·exact .inl h
  ·exact .inr h
 have hop:∀i,i < ops.size->∃o,ops[i]? =some o∧(ops.toList.map<|Df ops)[i]? =some (Df ops o)∧XK nt bx o=true:=by intro i hi;refine⟨ops[i],by simp[hi],by simp[hi],?_⟩;rw[Aq]at hok;exact hok _ nF
 have hloc:∀m,m < p->∀q,((fps.getD m ([],[])).2).contains q=false->s (m+1) q=s m q:=by intro m hm q hq;obtain⟨o,h1,h2,h3⟩:=hop m aG;obtain⟨hf,he⟩:=hs m _ hm h2;obtain⟨σ1,-,σ',rfl,-,hl⟩:=fj<|kF (τ:=s m) (λ_ _=>rfl) (hBx m aG) hf he;exact hl q hq
 have htf:∀{listed:Array Bool}{j:Nat},listed.size=ops.size->j < ops.size->listed.getD j true=listed.getD j false:=by intro listed j hsz hj;simp only[DT];rw[Array.getElem?_eq_getElem aG];rfl
 have hall:∀listed:Array Bool,listed.size=ops.size->Region.ready .any ops listed=[]->∀j,j < ops.size->listed.getD j false=true:=by
  intro listed hsz hr j;induction j using Nat.strongRecOn with
  |_ j ihj=>
   intro hj;cases hx:listed.getD j false
   ·exfalso;obtain⟨o,h1,h2,h3⟩:=hop j hj
    have:j∈Region.ready .any ops listed:=by
     rw[Mf];refine⟨by rw[htf hsz hj];exact hx,o,h1,λe he hb=>?_⟩;have hm:e.on∈(ops.toList.map YO).getD j []:=by rw[Zs h1];exact CE<|AM.2 ⟨by simpa using he,hb⟩
     have:=hless j hj _ hm;exact ihj _ this aG
    rw[hr]at this;simp at this
   ·rfl
 have hend:∀listed:Array Bool,(∀j,j < p->listed.getD j false=true)->mix s (λi=>(fps.getD i ([],[])).2) (λi=>listed.getD i false) p=s p:=λlisted h=>by funext q;exact xH (n:=p) hloc (A5 _)<|λj hj _=>h j hj
 have hsel:∀(j:Nat) (o:Oper) cs b,ops[j]? =some o->o.op≠.select cs b:=by intro j o cs b ho he;have hB:=x8 hF (i:=j) (o:=Df ops o) (by simp[ho]);have e1:(Df ops o).op=.select cs b:=he;simp[fpB,YQ,fpX,spc,e1]at hB
 intro fuel;induction fuel with
 |zero=>
  intro listed a w hsz hcnt hclo hcl2 hz hr;have hl:∀j,j < ops.size->listed.getD j false=true:=by intro j hj;have h0:=List.countP_eq_zero.1 (Nat.le_zero.1 hcnt) j<|Ao.2 hj;simpa using h0
  rw[hend listed (λj hj=>hl j aG)]at hr;refine hQ 0 listed a w hsz (λj hj=>?_) hcnt hr;rw[hl j hj];rcases Bi j p with h|h
  ·exact(Ak h).symm
  ·have:=hz j h;rw[hl j hj]at this;cases this
 |succ fuel ih=>
  intro listed a w hsz hcnt hclo hcl2 hz hr;by_cases hful:∀j,j < p->listed.getD j false=true
  ·rw[hend listed hful]at hr;refine hQ (fuel+1) listed a w hsz (λj hj=>?_) hcnt hr;rcases Bi j p with h|h
   ·rw[hful j h];exact(Ak h).symm
   ·rw[hz j h];exact(Ah aG).symm
  have hanc:∀j,(∀k∈(ops.toList.map YO).getD j [],listed.getD k false=true)->∀m∈(Zm []<|ops.toList.map YO).getD j [],listed.getD m false=true:=
   jW (X:=λk=>listed.getD k false=true) hclo _ [] [] rfl rfl (λj _ m hm=>by simp at hm)
  have hrdy:∀i,i∈Region.ready .any ops listed->(iy (ops.toList.map<|Df ops) i=true∨∀k,iy (ops.toList.map<|Df ops) k=true->k∉Region.ready .any ops listed)->i < p∧listed.getD i false=false∧∀k∈(ops.toList.map YO).getD i [],listed.getD k false=true:=by
   intro i hi hpr;rw[Mf]at hi;obtain⟨h0,o,ho,hedge⟩:=hi;have hlt:i < ops.size:=(Ju.1 ho).1;rw[htf hsz hlt]at h0;have hes:∀k∈(ops.toList.map YO).getD i [],listed.getD k false=true:=λk hk=>by rw[Zs ho]at hk;obtain⟨e,he,rfl⟩:=Aw.1 hk;rw[AM]at he;exact hedge e (by simpa using he.1) he.2
   refine⟨?_,h0,hes⟩;rcases Bi i p with h|h
   ·exact h
   ·exfalso;obtain⟨t1,t2⟩:=hT i h hlt;rcases hpr with hpr|hpr
    ·rw[t1]at hpr;cases hpr
    ·refine hful λj hj=>?_
     rcases t2 j aG with t3|⟨_,t3,t4⟩
     ·exact hanc i hes j (by simpa using t3)
     ·cases hx:listed.getD j false
      ·exfalso;obtain⟨oj,hoj,_⟩:=hop j aG;refine hpr j t3 ?_;rw[Mf];refine⟨by rw[htf hsz aG];exact hx,oj,hoj,λe he hb=>?_⟩;have hm:e.on∈(ops.toList.map YO).getD j []:=by rw[Zs hoj];exact CE<|AM.2 ⟨by simpa using he,hb⟩
       exact hanc i hes _ (by simpa using t4 _ hm)
      ·rfl
  have step:∀i,i∈Region.ready .any ops listed->(iy (ops.toList.map<|Df ops) i=true∨∀k,iy (ops.toList.map<|Df ops) k=true->k∉Region.ready .any ops listed)->(∀m,m < i->enf (ops.toList.map YO) (ops.toList.map<|Df ops) m i=true->listed.getD m false=true)->∀o,ops[i]? =some o->
    GI (fps.getD i ([],[])).1 (s i) (mix s (λi=>(fps.getD i ([],[])).2) (λi=>listed.getD i false) p)∧
    (if Region.wanted o (yielded ops a.tmps)then o.wp P a w (wpAny P .any ops Q fuel<|listed.setIfInBounds i true) Q else wpAny P .any ops Q fuel (listed.setIfInBounds i true) (a.put o.dst undef) w):=by
   intro i hi hpr henf o ho;obtain⟨hlt,h0,hes⟩:=hrdy i hi hpr;obtain⟨o',h1,h2,h3⟩:=hop i aG;rw[ho]at h1;simp only[Av]at h1;subst h1;obtain⟨hf,he⟩:=hs i _ hlt h2
   have hbef:∀m,m < i->clash (fps.getD m ([],[])) (fps.getD i ([],[]))=true->listed.getD m false=true:=λm hm hc=>by
    rcases hcl m i hm aG hc with h|h
    ·exact hanc i hes m (by simpa using h)
    ·exact henf m hm h
   have haft:∀m,i < m->m < ops.size->clash (fps.getD i ([],[])) (fps.getD m ([],[]))=true->listed.getD m false=false:=by
    intro m hm hmn hc;cases hx:listed.getD m false
    ·rfl
    ·rcases hcl i m hm hmn hc with h|h
     ·have:=hanc m (hclo m hx) i (by simpa using h);rw[h0]at this;cases this
     ·have:=hcl2 i m hm hmn h hx;rw[h0]at this;cases this
   have hag:GI (fps.getD i ([],[])).1 (s i) (mix s (λi=>(fps.getD i ([],[])).2) (λi=>listed.getD i false) p):=by
    intro q hq;rw[fU (m:=i) aG (λj h1 h2 hx=>?_)]
    ·exact xH (n:=p) hloc aG<|λj hj hw=>hbef j hj<|by simp only[clash,fT hw hq,Ki]
    ·rcases Bi i j with hij|hij
     ·cases hw:((fps.getD j ([],[])).2).contains q
      ·rfl
      ·rw[haft j hij aG (by simp only[clash,fT hq hw,Bool.or_true])]at hx;cases hx
     ·have:j=i:=aG;subst this;rw[h0]at hx;cases hx
   refine⟨hag,?_⟩;have hAo:okA bx cns (Df ops o)=true:=Aq.1 hA _<|B4 h2;have hst:=bN (nt:=nt) (bx:=bx) htb h3 hAo (kF hag (sB hBx) hf he) base St0 w0 a w Q hr
   have hnext:∀a' w',(∃σ',Loc (fps.getD i ([],[])).2 (s i) (mix s (λi=>(fps.getD i ([],[])).2) (λi=>listed.getD i false) p) (λσ'=>σ'=s (i+1)) σ'∧Rel P nt bx base St0 w0 σ' a' w')->
     wpAny P .any ops Q fuel (listed.setIfInBounds i true) a' w':=by
    rintro a' w' ⟨σ',⟨σ1,rfl,rfl,-⟩,hr'⟩;have hX':∀j,(listed.setIfInBounds i true).getD j false=(listed.getD j false || j==i):=λj=>mS aG
    refine ih _ a' w' (by simp[hsz]) ?_ ?_ ?_ ?_ ?_
    ·have:(List.range ops.size).countP (λj=> !(listed.setIfInBounds i true).getD j false) < (List.range ops.size).countP (λj=> !listed.getD j false):=by refine Xl (λj hj=>?_) (x:=i) (Ao.2 aG) (by simp only[h0];rfl) (by rw[hX'];simp);rw[hX']at hj;revert hj;cases listed.getD j false<;>simp
     omega
    ·intro k hk m hm;rw[hX']at hk;rw[hX'];rw[BZ]at hk;rcases hk with hk|hk
     ·rw[hclo k hk m hm];rfl
     ·have:k=i:=by simpa using hk
      subst this;rw[hes m hm];rfl
    ·intro m k hmk hk hen hx;rw[hX']at hx⊢;rw[BZ]at hx;rcases hx with hx|hx
     ·rw[hcl2 m k hmk hk hen hx];rfl
     ·have:k=i:=by simpa using hx
      subst this;rw[henf m hmk hen];rfl
    ·intro j hj;rw[hX',hz j hj];have:(j==i)=false:=by simp;omega
     rw[this];rfl
    ·rw[Abl (X:=λj=>listed.getD j false) hlt (λj q h1 h2 hw hwj=>haft j h1 aG<|by simp only[clash,fT hw hwj,Bool.or_true,Ki]) _ hX'];exact hr'
   split
   ·rename_i hw;rw[Az hw]at hst;exact Oper.wp_mono hnext hst
   ·rename_i hw;rw[AA hw]at hst;exact hnext _ _ hst
  by_cases hex:∃i,iy (ops.toList.map<|Df ops) i=true∧i∈Region.ready .any ops listed
  ·
   obtain⟨i,⟨hxi,hi⟩,hleast⟩:∃i,(iy (ops.toList.map<|Df ops) i=true∧i∈Region.ready .any ops listed)∧∀j,j < i->¬(iy (ops.toList.map<|Df ops) j=true∧j∈Region.ready .any ops listed):=by
    obtain⟨i,hi⟩:=hex;induction i using Nat.strongRecOn with
    |_ i ihi=>
     by_cases h:∃j,j < i∧(iy (ops.toList.map<|Df ops) j=true∧j∈Region.ready .any ops listed)
     ·obtain⟨j,hj,hj2⟩:=h;exact ihi j hj hj2
     ·exact⟨i,hi,λj hj hj2=>h ⟨j,hj,hj2⟩⟩
   obtain⟨hlt,h0,hes⟩:=hrdy i hi<|.inl hxi;obtain⟨o,ho,h2,h3⟩:=hop i aG
   have henf:∀m,m < i->enf (ops.toList.map YO) (ops.toList.map<|Df ops) m i=true->listed.getD m false=true:=by
    intro m hm hen;simp only[enf,Ab,Bv]at hen;cases hx:listed.getD m false
    ·exfalso;refine hleast m hm ⟨hen.1.1,?_⟩;obtain⟨om,hom,_⟩:=hop m aG;rw[Mf];refine⟨by rw[htf hsz aG];exact hx,om,hom,λe he hb=>?_⟩;have hm2:e.on∈(ops.toList.map YO).getD m []:=by rw[Zs hom];exact CE<|AM.2 ⟨by simpa using he,hb⟩
     rw[hen.2]at hm2;exact hes _ hm2
    ·rfl
   obtain⟨hag,hst⟩:=step i hi (.inl hxi) henf o ho;obtain⟨hf,he⟩:=hs i _ hlt h2;have hX:=hxi;simp only[iy,h2]at hX;obtain⟨d,hg',hd',hopX⟩:=exX hX
   ·have hg2:o.guard=none:=by have:(Df ops o).g=none:=hg';simpa[Df]using this
    have hd2:o.dst=some d:=hd';have hw:Region.wanted o (yielded ops a.tmps)=true:=by simp[Region.wanted,hg2]
    rw[Az hw]at hst
    have hval:∃u,∀w',(execOp a.eval o).run P w'=.ok (.value u) w':=by
     rcases hopX with⟨sl,ix,hop'⟩|⟨sl,hop'⟩
     ·have hop2:o.op=.extract (.tmp sl) ix:=hop';have hev:=kF hag (sB hBx) hf he;simp only[Hb,hop',hd']at hev;have hev:=hev.2;unfold mI at hev;split at hev
      ·rename_i cs hcs;split at hev
       ·rename_i c hc;obtain⟨St,B,hS,_⟩:=hr;have hsl:=hS.slot sl;rw[hcs]at hsl;obtain⟨us,e1,h1⟩:=hsl;obtain⟨u,b1,b2,h2',_⟩:=MB.split cs ix h1 hc hev.1<|hS.nodup sl;refine⟨u,λw'=>?_⟩;have e2:a.eval (.tmp sl)=.tuple us.toArray:=e1;simp[execOp,hop2,e2,Instr.extract,h2']
       ·exact hev.elim
      ·exact hev.elim
     ·have hop2:o.op=.move (.tmp sl):=hop';exact⟨a.eval<|.tmp sl,λw'=>by simp[execOp,hop2]⟩
    obtain⟨u,hu⟩:=hval;have hfin:wpAny P .any ops Q fuel (listed.setIfInBounds i true) (a.put o.dst u) w:=by have:=hst;unfold Oper.wp at this;rw[hu w]at this;exact this
    refine wpAny_first ho hsel (λc a w h=>absurd h<|hP _ _ _) fuel listed a w ?_ hi (.inl ⟨hw,hu⟩) hfin;intro j oj hoj hji hun hno;have hjn:j < ops.size:=(Ju.1 hoj).1;rw[htf hsz hjn]at hun;have hxx:=(hX' i aG).resolve_left (by rw[hxi];simp) j hjn;have hlj:(ops.toList.map<|Df ops)[j]? =some (Df ops oj):=by simp[hoj]
    rcases hxx with((h|h)|h)|h
    ·exact absurd (by simpa using h) hji
    ·exfalso;have hm2:i∈(ops.toList.map YO).getD j []:=by simpa using h
     rw[Zs hoj]at hm2;obtain⟨e,he,hei⟩:=Aw.1 hm2;rw[AM]at he;exact hno e (by simpa using he.1) he.2 hei
    ·exfalso;have:=hanc i hes j (by simpa using h);rw[hun]at this;cases this
    ·simp only[apF,h2,hlj,Qu]at h;have hdl:(Df ops o).dst=some d:=hd2;rw[hdl]at h;simp only[Ab,At,Cy,ne_eq]at h;obtain⟨⟨q1,q2⟩,q3⟩:=h
     have hlook:∀(k:Nat) (ok:Oper),ops[k]? =some ok->(ops.toList.map<|Df ops)[k]? =some (Df ops ok)->∀t∈ok.looksAt ops,(lkL (ops.toList.map<|Df ops) k).contains t=true:=by
      intro k ok hok' hlk t ht;unfold lkL;rw[hlk];refine Ag.2<|Al.2 ?_;unfold Oper.looksAt at ht;rcases Al.1 ht with ht|ht
      ·left;obtain⟨x,hx1,hx2⟩:=List.mem_filterMap.1 ht;cases x<;>simp only[Av,reduceCtorEq]at hx2
       subst hx2;unfold V5;exact B6.2 ⟨_,hx1,by simp[Kz]⟩
      ·right;cases hgk:ok.guard with
       |none=>rw[hgk]at ht;simp at ht
       |some p=>
        rw[hgk]at ht;simp only[Option.mem_toList]at ht;have:(Df ops ok).g=some (gD ops p.1,p.2):=by simp[Df,hgk]
        unfold gT;rw[this];have e3:gD ops p.1=some t:=by simpa[gD]using ht
        rw[e3];simp
     simp only[Oper.apart,hd2];have r1:d∉oj.looksAt ops:=λhm=>by rw[hlook j oj hoj hlj d hm]at q1;cases q1
     have r2:oj.dst≠some d:=q2;cases hdj:oj.dst with
     |none=>simp[r1]
     |some d'=>
      have hdl':(Df ops oj).dst=some d':=hdj;rw[hdl']at q3;have r3:d'∉o.looksAt ops:=λhm=>by simp only[hlook i o ho h2 d' hm]at q3;cases q3
      have r4:d'≠d:=λe=>r2 (by rw[hdj,e])
      simp[r1,r3,r4]
  ·have hnx:∀i,i∈Region.ready .any ops listed->iy (ops.toList.map<|Df ops) i=false:=λi hi=>by
    cases hx:iy (ops.toList.map<|Df ops) i
    ·rfl
    ·exact absurd ⟨i,hx,hi⟩ hex
   refine⟨λh0=>absurd (λj hj=>hall listed hsz h0 j aG) hful,λi hi=>?_⟩;have hpr:∀k,iy (ops.toList.map<|Df ops) k=true->k∉Region.ready .any ops listed:=λk h1 h2=>hex ⟨k,h1,h2⟩
   obtain⟨hlt,_⟩:=hrdy i hi<|.inr hpr;obtain⟨o,ho,_⟩:=hop i aG;have:=(step i hi (.inr hpr) (λm _ hen=>by simp only[enf,Ab]at hen;rw[hnx i hi]at hen;cases hen.1.2) o ho).2;unfold wpOp;rw[ho];simp only;split
   ·rename_i hw;rw[Az hw]at this;exact .inl this
   ·rename_i hw;rw[AA hw]at this;exact this
def okT(p:Nat)(es:List zN)(a:List LO):Bool:=decide (p<=es.length)&&(List.range es.length).all λj=>decide (j < p) || (!iy a j&&(List.range j).all λi=>((Zm [] es).getD j []).contains i || (decide (i < p)&&(iy a i&&(es.getD i []).all λk=>((Zm [] es).getD j []).contains k)))
def pG(u:LB P tb)(hm:P.follows .mixedOrders=true)(p:Nat){fps:List (zN×zN)}{es:List zN}{f:List LO}{Q:Exit->PS->Prop}(v:(okD fps es f&&(okF cns fps f&&okT p es f))=true)
  (h:cX P tb cns (fps.take p) (f.take p) σ (λσ'=>∀base St0 C a w,Rel P nt bx base St0 C σ' a w->∃σ2,bh P tb cns (f.drop p) σ2 (Q .normal)∧Rel P nt bx base St0 C σ2 a w)):LS P nt bx (.drw cns fps es f) σ Q:=by
 intro c t x S;cases c<;>first|cases t|skip
 rename_i id b d;simp only[Ly,bg]at t;split at t
 ·rename_i hd;simp only[LC.drw.injEq,true_and]at t;subst hd;obtain⟨rfl,rfl⟩:=t;intro base St0 C a w hr;rw[Ab,Ab]at v;obtain⟨v,T,D⟩:=v;simp only[okT,Ab,AN,Ai,Ce,Aq,Ao,BZ,At]at D;obtain⟨U,D⟩:=D;have y:∀j,p<=j->j < b.size->iy (b.toList.map<|Df b) j=false∧∀i,i < j->((Zm []<|b.toList.map YO).getD j []).contains i=true∨(i < p∧iy (b.toList.map<|Df b) i=true∧∀k∈(b.toList.map YO).getD i [],((Zm []<|b.toList.map YO).getD j []).contains k=true):=λj F z=>(D j z).resolve_left aG
  have H:∀j,p<=j->j < b.size->∀i,p<=i->i < j->((Zm []<|b.toList.map YO).getD j []).contains i=true:=λj F z i W I=>((y j F z).2 i I).resolve_right (λh=>by omega)
  have J:∀j,j < b.size->∀k∈(b.toList.map YO).getD j [],k < j:=by have A:=v;simp only[okD,Ab,Aq,Ao,Ai,Ce,AN]at A;exactλj X=>(A.1.2 j X).1
  obtain⟨s1,s0,Y,Z,hs⟩:=rD (nr p T) h;have B:((b.toList.map<|Df b).take p).length=p:=by simp;omega
  rw[B]at Y Z;have n:((b.toList.map<|Df b).drop p).length=b.size - p:=nF
  have L:∀i o,i < p->(b.toList.map<|Df b)[i]? =some o->fpS cns (fps.getD i ([],[])).1 (fps.getD i ([],[])).2 o (s1 i)∧Hb P tb cns o (s1 i) (λσ'=>σ'=s1 (i+1)):=λi o hi M=>by
   have:=hs i o (by rw[List.getElem?_take_of_lt hi];exact M);have e3:(fps.take p).getD i ([],[])=fps.getD i ([],[]):=by simp[AF,List.getElem?_take_of_lt hi]
   rw[e3]at this;exact this
  refine HT (Q:=λe a' w'=>e=.normal∧∃σ',Q .normal σ'∧Rel P nt bx base St0 C σ' a' w') ?_ (λe a' w' h=>by obtain⟨rfl,h⟩:=h;exact h);refine wp_region_any hm (AaA u U x S v T y Z L (λfuel g a w F z W I=>by obtain⟨σ2,N,O⟩:=Y _ _ _ _ _ I;obtain⟨s2,t0,tk,ht⟩:=rE N;rw[n]at tk;refine zt u (s:=λi=>s2<|i - p) x S J H (λi o hi M=>?_) (λa' w' R=>⟨rfl,_,tk,R⟩) fuel p g a w (A5 _) U F z W (by simp only[Nat.sub_self];rw[t0];exact O);have:=ht (i - p) o (by rw[Ej,show p+(i - p)=i by omega];exact M);show Hb P tb cns o (s2<|i - p) (λσ'=>σ'=s2 (i+1 - p));rw[show i+1 - p=i - p+1 by omega];exact this) (λc a w h=>by cases h.1) _ _ a _ nF ?_ (λk G=>?_) (λi k hik G hen r=>?_) (λj _=>?_) ?_)
  ·have:=List.countP_le_length (p:=λi=> !(Array.replicate b.size false).getD i false) (l:=List.range b.size);simpa using this
  ·exfalso;simp[E9]at G;split at G<;>simp at G
  ·exfalso;simp[E9]at r;split at r<;>simp at r
  ·simp[E9];split<;>rfl
  ·have:mix s1 (λi=>(fps.getD i ([],[])).2) (λi=>(Array.replicate b.size false).getD i false) p=s1 0:=by
    funext q;refine fU (m:=0) aG<|λj _ X r=>?_
    exfalso;simp[E9]at r;split at r<;>simp at r
   rw[this,s0];exact uH hr
 ·cases t
def xA(d:LB P tb)(g:P.follows .mixedOrders=true){fps:List (zN×zN)}{es:List zN}{b:List LO}{Q:Exit->PS->Prop}(c:(okD fps es b&&okF cns fps b)=true)(h:cX P tb cns fps b σ (Q .normal)):LS P nt bx (.drw cns fps es b) σ Q:=by
 rw[Ab]at c;have m:fps.length=es.length:=by have:=c.1;simp only[okD,Ab,Bv]at this;exact this.1.1
 by_cases e:b.length<=es.length
 ·refine pG d g es.length (by rw[Ab,Ab];refine⟨c.1,c.2,?_⟩;simp only[okT,Ab,AN,Aq,Ao,BZ];exact⟨A5 _,λj i=>.inl i⟩) ?_;rw[ER aG,ER e,DR e];exact mH (λσ' j base St0 n a w k=>⟨σ',j,k⟩) h
 ·exfalso
  have:∀{fps:List (zN×zN)}{os:List LO},okF cns fps os=true->os.length<=fps.length:=by
   intro fps os;induction os generalizing fps with
   |nil=>intro _;simp
   |cons o os l=>
    intro h;cases fps with
    |nil=>cases h
    |cons f fps=>simp only[okF,Ab]at h;have:=l h.2;simp only[AC];omega
  have:=this c.2;omega
end
section
variable {P:Program}{nt:Nat}{bx:zN}{σ:PS}{Q:Exit->PS->Prop}{tb:Tb}
end
end
section
section
variable {P:Program}
def Zc(P:Program)(c:V)(u:Value):Prop:=c.D3=true∧∀w a,Ow P w a c u []
def KB(k:IntKind):Zc P (.int k 0) (.int k 0):=⟨rfl,λ_ _=>⟨rfl,rfl⟩⟩
def tP:Zc P (.bool false) (.bool false):=⟨rfl,λ_ _=>⟨rfl,rfl⟩⟩
def VI:Zc P (.str []) (.string ⟨#[]⟩):=⟨rfl,λ_ _=>⟨rfl,rfl,BF _⟩⟩
def F8(e:TypeId):Zc P (.own e 0 []) (.slice none 0 0):=⟨rfl,λ_ _=>pJ e⟩
def AmJ:Zc P (.tok .nilFunc) .nilFunc:=⟨rfl,λ_ _=>⟨rfl,rfl,rfl⟩⟩
def F9:ZL P [] []:=λ_ _=>⟨rfl,rfl⟩
def Cv{c:V}{cs}{u:Value}{us}(h:Zc P c u)(b:ZL P cs us):ZL P (c::cs) (u::us):=λw a=>⟨u,us,[],[],rfl,rfl,h.1,h.2 w a,b w a⟩
def Wh{t}(k:IntKind)(hi:(P.info? t).map (λi=>(i.size,i.zero))=some (1,some<|.int k 0))(b:P.underlying t=some (.int k)):N8 P t (.sc<|.int k 0):=by have⟨i,c,a⟩:=Cj.1 hi;simp only[Ch]at a;exact⟨i,_,_,c,a.1,a.2,Cv (KB k) F9,b,rfl⟩
def u6{t}(hi:(P.info? t).map (λi=>(i.size,i.zero))=some (1,some<|.bool false))(b:P.underlying t=some .bool):N8 P t (.sc<|.bool false):=by have⟨i,c,a⟩:=Cj.1 hi;simp only[Ch]at a;exact⟨i,_,_,c,a.1,a.2,Cv tP F9,b,rfl⟩
def Adi:Option TypeDesc->Bool
 |some (.func _ _ _)=>true
 |_=>false
def Ad8{t}(hi:(match(P.info? t).map (λi=>(i.size,i.zero))with|some (1,some .nilFunc)=>true|_=>false)=true)(a:Adi (P.underlying t)=true):N8 P t (.sc<|.tok .nilFunc):=by
 split at hi
 ·rename_i b;have⟨i,d,c⟩:=Cj.1 b;simp only[Ch]at c;unfold Adi at a;split at a
  ·rename_i ps rs v e;exact⟨i,_,_,d,c.1,c.2,Cv AmJ F9,e,ps,rs,v,rfl⟩
  ·cases a
 ·cases hi
def zV{t}(hi:(P.info? t).map (λi=>(i.size,i.zero))=some (1,some<|.string ⟨#[]⟩))(b:P.underlying t=some .string):N8 P t (.sc<|.str []):=by have⟨i,c,a⟩:=Cj.1 hi;simp only[Ch]at a;exact⟨i,_,_,c,a.1,a.2,Cv VI F9,b,rfl⟩
def NA{t n z us fs gs}(hi:(P.info? t).map (λi=>(i.size,i.zero))=some (n,some<|.agg us.toArray))(hz:ZL P z us)(hu:P.underlying t=some (.struct gs))
  (hf:gs.toList.map (λf=>(f.offset,Wl P f.type))=fs) (hp:fs.all (λf=>decide (0 < f.2))=true) (h2:(!(TyD.st n z fs).two || (!P.stoodInHeld t&& !P.eqGuardType P.depth t&&gs.toList.all λf=>f.name != "_" &&(match P.underlying f.type with|some (.int _)=>true|_=>false)))=true):N8 P t (.st n z fs):=by
 have⟨i,h1,h3⟩:=Cj.1 hi;simp only[Ch]at h3;refine⟨i,_,gs,h1,h3.1,h3.2,by simpa using hz,hu,hf,λf hf=>by have:=Aq.1 hp f hf;simpa using this,λh=>?_⟩;rw[h,Au,Cg,Ab,Ab,At,At]at h2;refine⟨h2.1.1,h2.1.2,λf hf=>?_⟩;have:=Aq.1 h2.2 f hf;simp only[Ab,Cy,ne_eq]at this;refine⟨this.1,?_⟩;have h4:=this.2;split at h4
 ·exact⟨_,by assumption⟩
 ·cases h4
def RX{t e es eb ez zv}(hi:(P.info? t).map (λi=>(i.size,i.zero))=some (1,some<|.slice none 0 0))(c:P.underlying t=some (.slice e))
  (d:(P.info? e).map (λi=>(i.size,i.zero,i.bytes))=some (es,some zv,eb)) (f:ZL P ez zv.cells.toList) (g:ez.length=es) (h:0 < es) (k:0 < eb) (l:eb<=128):N8 P t (.sl e es eb ez):=by
 have⟨i,m,b⟩:=Cj.1 hi;have⟨j,n,a⟩:=Cj.1 d;simp only[Ch]at b a;exact⟨i,j,zv,m,b.1,b.2,c,n,a.2.1,a.1,a.2.2,f,g,h,k,l⟩
end
def Acz(K:PS->Prop)(Q:Exit->PS->Prop)(σ:PS):X4 K Q .normal σ=K σ:=rfl
def Acy(K:PS->Prop)(Q:Exit->PS->Prop)(σ:PS)(i:Nat):X4 K Q (.exit i) σ=Q (.exit i) σ:=rfl
def AcA(K:PS->Prop)(Q:Exit->PS->Prop)(σ:PS):X4 K Q .ret σ=Q .ret σ:=rfl
def vG(i:Nat)(Q:Exit->PS->Prop)(σ:PS):Zq i Q .normal σ=Q .normal σ:=rfl
def vF(i j:Nat)(Q:Exit->PS->Prop)(σ:PS):Zq i Q (.exit j) σ=if j=i then Q .normal σ else Q (.exit j) σ:=rfl
def vH(i:Nat)(Q:Exit->PS->Prop)(σ:PS):Zq i Q .ret σ=Q .ret σ:=rfl
def AiQ{α:Type}(f:Nat->α)(d:Nat)(x:α)(s:Nat):upd f d x s=if s=d then x else f s:=rfl
def Aa5(c:V)(cs:List V):Hm (c::cs) 0=c:=rfl
def Aba(c:V)(cs:List V)(n:Nat):Hm (c::cs) (n+1)=Hm cs n:=rfl
def Aa9(n:Nat):Hm [] n=.tup []:=rfl
def Aa6(c d:V)(cs:List V):Hm (c::d::cs) 1=d:=rfl
def Aa7(c d e:V)(cs:List V):Hm (c::d::e::cs) 2=e:=rfl
def Aa8(c d e f:V)(cs:List V):Hm (c::d::e::f::cs) 3=f:=rfl
def AkF(c:Bool):dw true (.bool c)=c:=by cases c<;>rfl
def AkE(c:Bool):dw false (.bool c)= !c:=by cases c<;>rfl
def AkG(b:Bool)(cs:List V):dw b (.tup cs)=false:=rfl
def gIf(c:Bool)(p q:Prop)(_:Tag (p∧q)):Prop:=(c=true->p)∧(c=false->q)
def Aj9(p q:Prop)(t:Tag (p∧q)):gIf true p q t=p:=propext ⟨λh=>h.1 rfl,λh=>⟨λ_=>h,λe=>by cases e⟩⟩
def Aj8(p q:Prop)(t:Tag (p∧q)):gIf false p q t=q:=propext ⟨λh=>h.2 rfl,λh=>⟨(λe=>by cases e),λ_=>h⟩⟩
def yC(tb:Tb)(o:LO)(σ:PS)(K:PS->Prop):ME tb o σ K=(match o.dst with
 |none=>False
 |some d=>match o.g with
  |none=>pc tb σ o.op∧K (upd σ d<|pv tb σ o.op)
  |some (none,_)=>False
  |some (some q,b)=>known (σ q)=true∧gIf (dw b (σ q)) (pc tb σ o.op∧K (upd σ d (pv tb σ o.op))) (K (upd σ d (.tup []))) ⟨0⟩):=rfl
def vN(P:Program)(o:LO)(f:FuncId)(a:List Operand)(σ:PS)(K:PS->Prop):T9 P o f a σ K=(match o.g with
 |none=>a.all (λx=>(CP σ x).isArg)=true∧∃r,mb P σ f a r∧jR (K<|V6 σ o.dst r) ⟨0⟩
 |some (q,b)=>match q,o.dst with
  |some q,some d=>known (σ q)=true∧gIf (dw b<|σ q) (a.all (λx=>(CP σ x).isArg)=true∧∃r,mb P σ f a r∧jR (K<|upd σ d r) ⟨0⟩) (K<|upd σ d<|.tup []) ⟨0⟩
  |_,_=>False):=rfl
def Ai2(a:List V)(es:Nat):UZ a es 0=[]:=by simp[UZ]
def zR{ez es n}(h:ez.length=es):UZ ez es (n+1)=ez++UZ ez es n:=by
 unfold UZ;rw[DS,FA,Oy,List.range_add,Br,D4];congr 1
 ·apply Cp
  ·simp[h]
  ·intro i a b;simp only[Ai,BJ]at a;simp[DF a,b]
 ·apply Bd;intro i _;simp
def Abg{n}(h:n < 1000):(n<=lim)=True:=eq_true uY
def Ae2(l:List V):(∃cs,some l=some cs)=True:=eq_true ⟨l,rfl⟩
def AhS(k:IntKind)(n:Int):Ek (.int k n)=true:=rfl
def Abp(b:Bool):Ek (.bool b)=true:=rfl
def AhW(s:zU):Ek (.str s)=true:=rfl
def AhU(e:TypeId)(n:Nat)(cs:List V):Ek (.own e n cs)=true:=rfl
def AhR(n:Nat)(cs:List V):Ek (.dat n cs)=true:=rfl
def AhO(n:Nat)(cs:List V):Ek (.arg n cs)=true:=rfl
def AhV(u:Value)(n:Nat)(cs:List V):Ek (.pin u n cs)=true:=rfl
def AlO(us:List Value)(cs:List V):Ek (.gh us cs)=true:=rfl
def AhN(cs:List V):Ek (.agg cs)=true:=rfl
def AhX(cs:List V):Ek (.tup cs)=true:=rfl
def xT:Ek (.undef)=true:=rfl
def Abr(s:Nat):Ek (.same s)=true:=rfl
def Abq(s o:Nat):Ek (.cref s o)=true:=rfl
def AhM(cs:List V)(o:Nat):Ek (.adr cs o)=true:=rfl
def AhQ(cs:List V):Ek (.box cs)=false:=rfl
def AhY(e:TypeId)(n:Nat)(cs:List V):Ek (.uni e n cs)=false:=rfl
attribute [go_sem] AhS Abp AhW AhU AhR AhO AhV AlO AhN AhX xT Abr Abq AhM AhQ AhY
attribute [go_sem] Abg Ae2 Aj9 Aj8 Ai2 zR
attribute [go_sem] bh cX adP adU Kz eP DC WY Ex iaS fH iC Za mvV mvC pv pc Rr UB gw gv wr mJ pq pp Wx Ww CP cV oT ka unV unC Oa getCells ax XH faV faC Mz Ti iaV iaC uM uK lenV ug Xf WX da iW eZ mxV mxC
 dg WS dg2 V.isVal V.isArg V.D3 known AkF AkE AkG DB V6 AiQ er ON G7 Acz Acy AcA Aa5 Aa6 Aa7 Aa8 Aba Aa9 vG vF vH TyD.size Sa UA N7 ip Ts ZW cD uI resV yK kill
attribute [go_sem ↓] Hb yC vN Xj TF TD eL Zb mI lV Zl boxS Xg mo fR jm US
end
section
def fz:Nat:=1099511627780
def Ay{S O:Type}(body:(S->Option O)->S->Option O):Nat->S->Option O
 |0,_=>none
 |n+1,s=>body (Ay body n) s
def chk{α:Type}(p:Prop)[Decidable p](x:Option α):Option α:=if p then x else none
def AU{α:Type}(l:List α)(i:Int):Option α:=if 0<=i then l[i.toNat]? else none
def CZ{α:Type}(l:List α)(lo hi:Int):List α:=(l.take hi.toNat).drop lo.toNat
def CY{α:Type}(l:List α)(i:Int)(x:α):List α:=l.set i.toNat x
def Aa{α β:Type}(x:Option α)(f:α->Option β):Option β:=match x with
 |some a=>f a
 |none=>none
def Oe{α:Type}{p:Prop}[Decidable p]{x:Option α}{r:α}(h:chk p x=some r):p∧x=some r:=by
 unfold chk at h;split at h
 ·rename_i a;exact⟨a,h⟩
 ·cases h
def Bc{α β:Type}{x:Option α}{f:α->Option β}{r:β}(h:Aa x f=some r):∃a,x=some a∧f a=some r:=by
 cases x with
 |none=>cases h
 |some a=>exact⟨a,rfl,h⟩
def LU{α:Type}{b:Bool}{x y:Option α}{r:α}(h:cond b x y=some r):(b=true∧x=some r)∨(b=false∧y=some r):=by
 cases b
 ·exact .inr ⟨rfl,h⟩
 ·exact .inl ⟨rfl,h⟩
def A8{α β:Type}{x:Option α}{f:α->Option β}{r:β}{P:Prop}(h:Aa x f=some r)(k:∀a,x=some a->f a=some r->P):P:=by obtain⟨a,b,c⟩:=Bc h;exact k a b c
def D6{α β:Type}{x:Option α}{f:α->Option β}{r:β}{P:Prop}(h:Aa x f=some r)(k:∀a,x=some a->(∀{b:α},b=a->f b=some r)->P):P:=by obtain⟨a,c,d⟩:=Bc h;exact k a c (λe=>by rw[e];exact d)
def D9{α:Type}{p:Prop}[Decidable p]{x:Option α}{r:α}{P:Prop}(h:chk p x=some r)(k:p->x=some r->P):P:=k (Oe h).1 (Oe h).2
def Eo{α:Type}{b:Bool}{x y:Option α}{r:α}{P:Prop}(h:cond b x y=some r)(a:b=true->x=some r->P)(c:b=false->y=some r->P):P:=by
 rcases LU h with h|h
 ·exact a h.1 h.2
 ·exact c h.1 h.2
def sj{α:Type}{a b:α}(h:some a=some b):a=b:=EH h
def E{α:Sort _}{a:α}:a=a:=rfl
def rZ{α β:Type}{a:α}{b:β}{p:Prop}:(a=a∨p)∧b=b:=⟨.inl rfl,rfl⟩
def IV{α β:Type}{P:α×β->Prop}(h:∀a b,P (a,b)):∀x,P x:=λ⟨a,b⟩=>h a b
def pr3{α β γ:Type}{P:α×β×γ->Prop}(h:∀a b c,P (a,b,c)):∀x,P x:=λ⟨a,b,c⟩=>h a b c
def pr4{α β γ δ:Type}{P:α×β×γ×δ->Prop}(h:∀a b c d,P (a,b,c,d)):∀x,P x:=λ⟨a,b,c,d⟩=>h a b c d
def pr5{α β γ δ ε:Type}{P:α×β×γ×δ×ε->Prop}(h:∀a b c d e,P (a,b,c,d,e)):∀x,P x:=λ⟨a,b,c,d,e⟩=>h a b c d e
def B9{α:Type}{l:List α}{i:Int}{x:α}(h:AU l i=some x):0<=i∧i < l.length∧l[i.toNat]? =some x:=by
 unfold AU at h;split at h
 ·rename_i b
  have:i.toNat < l.length:=by
   rcases Bi i.toNat l.length with a|a
   ·exact a
   ·rw[Bt a]at h;cases h
  exact⟨b,aG,h⟩
 ·cases h
abbrev oL{α:Type}(e:TypeId)(f:α->List V)(x:List α):V:=.own e x.length<|x.flatMap f
abbrev dL{α:Type}(f:α->List V)(x:List α):V:=.dat x.length<|x.flatMap f
abbrev aL{α:Type}(f:α->List V)(x:List α):V:=.arg x.length<|x.flatMap f
abbrev wL{α:Type}(e:TypeId)(f:α->List V)(x:List α):V:=.uni e x.length<|x.flatMap f
abbrev nI(x:Int):V:=.int .i64 x
def nb{a b}(h:Nat.ble a b=true):a<=b:=Nat.le_of_ble_eq_true h
def Bu{α:Type}{f:α->List V}{n:Nat}(a:∀x,(f x).length=n):∀l:List α,(l.flatMap f).length=l.length * n
 |[]=>by simp
 |x::l=>by rw[AR,An,a,Bu a l,AC,DS];omega
def KD{α:Type}{f:α->List V}{n:Nat}(a:∀x,(f x).length=n):∀(l:List α) (k:Nat),(l.flatMap f).drop (k * n)=(l.drop k).flatMap f
 |[],k=>by simp
 |x::l,0=>by simp
 |x::l,k+1=>by rw[AR,DS,FA,Oy,List.drop_append,DR (by rw[a];omega),a,Dn,KD a l k];simp
def bQ{α:Type}{f:α->List V}{n:Nat}(a:∀x,(f x).length=n):∀(l:List α) (k:Nat),(l.flatMap f).take (k * n)=(l.take k).flatMap f
 |[],k=>by simp
 |x::l,0=>by simp
 |x::l,k+1=>by rw[AR,DS,FA,Oy,Qt,ER (by rw[a];omega),a,Dn,bQ a l k,Eu,AR]
def wv{α:Type}{f:α->List V}{n:Nat}(b:∀x,(f x).length=n){l:List α}{k:Nat}{x:α}(h:l[k]? =some x)(off:Nat):(l.flatMap f).drop (k * n+off)=(f x).drop off++(l.drop<|k+1).flatMap f∨n < off:=by
 rcases Bi n off with a|a
 ·exact .inr a
 ·left
  have c:k < l.length:=by
   rcases Bi k l.length with a|a
   ·exact a
   ·rw[Bt a]at h;cases h
  have d:l[k]=x:=by rw[Af c]at h;injection h
  rw[<-J5,KD b,BQ c,AR,d,Eb (by rw[b];exact a)]
def t9{α:Type}{f:α->List V}{n:Nat}(b:∀x,(f x).length=n){l:List α}{k:Nat}{x:α}(h:l[k]? =some x){d:TyD}{off:Nat}(o:off+d.size<=n):getCells d (l.flatMap f) (k * n+off)=getCells d (f x) off∧k * n+off+d.size<=(l.flatMap f).length:=by
 have p:k < l.length:=by
  rcases Bi k l.length with c|c
  ·exact c
  ·rw[Bt c]at h;cases h
 have i:=(wv b h off).resolve_right aG;have j:((f x).drop off).length=n - off:=by rw[BH,b]
 constructor
 ·have g:∀m,m<=n - off->((l.flatMap f).drop<|k * n+off).take m=((f x).drop off).take m:=λm r=>by rw[i,FV aG]
  have a:d.size=1->(l.flatMap f)[k * n+off]? =(f x)[off]?:=λh1=>by
   have q:(l.flatMap f)[k * n+off]? =((l.flatMap f).drop<|k * n+off)[0]?:=by rw[Ej,D5]
   have e2:(f x)[off]? =((f x).drop off)[0]?:=by rw[Ej,D5]
   rw[q,e2,i,Cc aG]
  cases d with
  |st m z s=>simp only[getCells];rw[g m (by simp only[TyD.size]at o;omega)]
  |sc z=>simp only[getCells];rw[a rfl]
  |sl e es t u=>simp only[getCells];rw[a rfl]
 ·rw[Bu b];have:k * n+n<=l.length * n:=by rw[<-HU];exact Cd _ p
  omega
def rC:∀(a b:List V),ON (a++b)=ON a++ON b
 |[],b=>rfl
 |c::a,b=>by rw[CR,ON,ON,rC a b,CR]
def Ud{α:Type}{f g}(h:∀x,ON (f x)=g x):∀l:List α,ON (l.flatMap f)=l.flatMap g
 |[]=>rfl
 |x::l=>by rw[AR,AR,rC,h,Ud h l]
def cU{α:Type}{f:α->List V}{n:Nat}{z:α}{a:List V}(b:f z=a)(c:a.length=n):∀k:Nat,UZ a n k=(List.replicate k z).flatMap f
 |0=>by simp[UZ]
 |k+1=>by rw[zR c,cU b c k,List.replicate_succ,AR,b]
def jF{α:Type}{f:α->List V}{n:Nat}(a:∀x,(f x).length=n){l:List α}{k:Nat}(b:k < l.length)(x:α):N7 (l.flatMap f) (k * n) (f x)=(l.set k x).flatMap f:=by unfold N7;rw[a,show k * n+n=(k+1) * n by rw[DS,FA],bQ a,KD a,Fk,Az b,Dw,AR,Bw]
def Cz:List (Nat×V)->PS
 |[]=>λ_=>.undef
 |(s,c)::L=>upd (Cz L) s c
def jp(σ:PS):List (Nat×V)->Prop
 |[]=>True
 |(s,c)::L=>Kp (σ s) c∧jp σ L
def okR(L:List (Nat×V)):Bool:=L.all λp=>match Ex p.2 with
 |some b=>(L.map (·.1)).contains b
 |none=>true
def Fg(σ σ':PS):Prop:=∀(P:Program) (nt:Nat) (bx:zN) (base:Bs) (St0:Nat->Nat->Prop) (b:World) (a:Act) (w:World),Rel P nt bx base St0 b σ a w->Rel P nt bx base St0 b σ' a w
def xZ{σ}:∀{L:List (Nat×V)},jp σ L->∀s,(s∈L.map (·.1)->Kp (σ s) (Cz L s))∧(s∉L.map (·.1)->Cz L s=.undef)
 |[],_,s=>⟨λh=>by simp at h,λ_=>rfl⟩
 |(q,c)::L,⟨a,b⟩,s=>by
  have⟨d,f⟩:=xZ b s;by_cases e:s=q
  ·subst e;exact⟨λ_=>by simp only[Cz,upd_same];exact a,λh=>absurd nF h⟩
  ·simp only[Cz,upd_ne _ _ e,AP,AL,e,false_or];exact⟨d,f⟩
def li{L s b}(h:Ex (Cz L s)=some b):∃p∈L,Ex p.2=some b:=by
 induction L with
 |nil=>cases h
 |cons p L a=>
  have⟨q,c⟩:=p;by_cases e:s=q
  ·subst e;rw[show Cz ((s,c)::L) s=c from by simp[Cz,upd_same]]at h;exact⟨(s,c),nF,h⟩
  ·rw[show Cz ((q,c)::L) s=Cz L s from by simp[Cz,upd_ne _ _ e]]at h;have⟨p,d,h⟩:=a h;exact⟨p,by simp[d],h⟩
def sI:∀{L:List (Nat×V)}{s:Nat},Cz L s≠.undef->s∈L.map (·.1)
 |[],_,h=>absurd rfl h
 |(q,c)::L,s,h=>by
  by_cases e:s=q
  ·subst e;simp
  ·have:Cz L s≠.undef:=by rwa [show Cz ((q,c)::L) s=Cz L s from upd_ne _ _ e]at h
   exact AW _<|sI this
def kG{σ L}(h1:jp σ L)(h2:okR L=true):Fg σ (Cz L):=by
 intro P nt bx base St0 w0 a w hr;have hcl:=xZ h1;have⟨St,B,h,hb,hst,hz⟩:=hr;refine yJ (λs=>?_) (λs b e he=>?_) ⟨St,B,h,hb,hst,hz⟩
 ·by_cases hs:s∈L.map (·.1)
  ·exact .inr<|(hcl s).1 hs
  ·exact .inl<|(hcl s).2 hs
 ·have⟨p,hp,hpe⟩:=li e;have hb:b∈L.map (·.1):=by have:=Aq.1 h2 p hp;rw[hpe]at this;simpa using this
  have hs:s∈L.map (·.1):=sI (λe'=>by rw[e']at e;cases e);have⟨cs,hcs⟩:=h.crefs s b<|((hcl s).1 hs).rf b e;have hk:=((hcl b).1 hb).bx;rw[he,hcs]at hk;cases hk
section
variable {P:Program}{nt:Nat}{bx:zN}{σ:PS}{Q:Exit->PS->Prop}{tb:Tb}{cns:zN}
def CL{x y}(h:∀{K:PS->Prop},(∀σ',LS P nt bx y σ' Q->K σ')->LS P nt bx x σ (X4 K Q)):LS P nt bx (.seq x y) σ Q:=Ar λ_=>h
def Cf{y Q'}(a:∀σ',LS P nt bx y σ' Q->Q' .normal σ')(h:LS P nt bx y σ Q):LS P nt bx .skip σ Q':=Ci<|a _ h
def Adl{l σ'}(d:Fg σ σ')(h:LS P nt bx l σ' Q):LS P nt bx l σ Q:=
 λc e b f base St0 g a w i=>h c e b f base St0 g a w<|d _ _ _ _ _ _ _ _ i
def P5{l}(L:List (Nat×V))(a:jp σ L)(b:okR L=true)(h:LS P nt bx l (Cz L) Q):LS P nt bx l σ Q:=Adl (kG a b) h
def xF{ops y}(a:LB P tb)(h:bh P tb cns ops σ (λσ'=>LS P nt bx y σ' Q)):LS P nt bx (.seq (.rgn cns ops) y) σ Q:=lb<|xE a h
def Adm{fps es ops y}(a:LB P tb)(b:P.follows .mixedOrders=true)(c:(okD fps es ops&&okF cns fps ops)=true)(h:cX P tb cns fps ops σ (λσ'=>LS P nt bx y σ' Q)):LS P nt bx (.seq (.drw cns fps es ops) y) σ Q:=lb<|xA a b c h
def Adk{c x y b}(hb:CP σ c=.bool b)(e:b=true)(h:LS P nt bx x σ Q):LS P nt bx (.cond c x y) σ Q:=sx hb (λ_=>h) (λe'=>by rw[e]at e';cases e')
def Adj{c x y b}(hb:CP σ c=.bool b)(e:b=false)(h:LS P nt bx y σ Q):LS P nt bx (.cond c x y) σ Q:=sx hb (λe'=>by rw[e]at e';cases e')<|λ_=>h
def mB{c}(I:Nat->PS->Prop)(y:Nat)(z:I y σ)(h:∀m σ (N:PS->Prop),I m σ->(∀σ' m' σ'',m' < m->I m' σ''->Fg σ' σ''->N σ')->Pf P nt bx c σ (X4 N Q)):Pf P nt bx (.loop c) σ Q:=by
 intro base St0 p a w q b k cs
 have r:∀n σ a w,I n σ->Rel P nt bx base St0 p σ a w->
   ∃e a' w',(∃σ',Q e σ'∧Rel P nt bx base St0 p σ' a' w')∧Arrives P (lone (b.at a<|.code c::.inLoop c::k) cs w) b k cs e a' w':=by
  intro n;induction n using Nat.strongRecOn with
  |_ n A=>
   intro σ a w B q;have⟨e,j,o,⟨σ₁,g,f⟩,d⟩:=h n σ (λσ'=>∃m' σ'',m' < n∧I m' σ''∧Fg σ' σ'') B (λσ' m' σ'' C D F=>⟨m',σ'',C,D,F⟩) base St0 p a w q b (.inLoop c::k) cs;cases e with
   |normal=>have⟨m',σ'',s,t,u⟩:=g;have⟨G,H,J,v,i⟩:=A m' s σ'' j o t<|u _ _ _ _ _ _ _ _ f;exact⟨G,H,J,v,.of_steps (Steps.trans d<|.one step_inLoop) i⟩
   |exit K=>exact⟨_,j,o,⟨σ₁,g,f⟩,.pass (x:=.inLoop c) rfl (λ_ _=>.inl nF) d⟩
   |goto l=>exact⟨_,j,o,⟨σ₁,g,f⟩,.pass (x:=.inLoop c) rfl (λ_ _=>.inl nF) d⟩
   |ret=>exact⟨_,j,o,⟨σ₁,g,f⟩,.pass (x:=.inLoop c) rfl (λ_ _=>.inl nF) d⟩
   |panic L=>exact⟨_,j,o,⟨σ₁,g,f⟩,.pass (x:=.inLoop c) rfl (λ_ _=>.inl nF) d⟩
   |outgrown=>exact⟨_,j,o,⟨σ₁,g,f⟩,.pass (x:=.inLoop c) rfl (λ_ _=>.inl nF) d⟩
 have⟨e,a',w',g,d⟩:=r y σ a w z q;exact⟨e,a',w',g,.of_steps (.one step_loop) d⟩
def xC{x D}(I:Nat->PS->Prop)(e:Nat)(f:I e σ)(a:∀m σ (N:PS->Prop),I m σ->(∀σ' m' σ'',m' < m->I m' σ''->Fg σ' σ''->N σ')->LS P nt bx x σ (X4 N Q)):LS P nt bx (.loop D x) σ Q:=by
 intro c b d g;cases c<;>first|(cases b;done)|skip
 ·simp only[Ly,bg]at b;split at b<;>cases b
 ·simp only[Ly,bg,LC.loop.injEq,true_and]at b;exact mB I e f<|λm σ N h i=>a m σ N h i _ b d g
def A9{x D id}{S O:Type}(L:S->List (Nat×V))(body:(S->Option O)->S->Option O)(c:Nat)(s0:S)(out:O)(h:Ay body c s0=some out)(f:jp σ (L s0))(d:∀s,okR (L s)=true)
  (a:∀m s (N:PS->Prop),body (Ay body m) s=some out->(∀σ' b,Ay body m b=some out->jp σ' (L b)->N σ')->LS P nt bx x (Cz<|L s) (X4 N<|Zq id Q)):LS P nt bx (.blk id<|.loop D x) σ Q:=by
 refine A4<|Adl (kG f<|d s0)<|xC (λm σ=>∃s,σ=Cz (L s)∧Ay body m s=some out) c ⟨s0,rfl,h⟩ ?_;rintro m σ N ⟨s,rfl,e⟩ g;cases m with
 |zero=>cases e
 |succ m=>exact a m s N e<|λσ' b i j=>g σ' m _ (G8 m) ⟨b,rfl,i⟩<|kG j<|d b
end
end
section
section
variable {P:Program}{tb:Tb}{cns:zN}{σ:PS}{K:PS->Prop}{d s t:Nat}{c c1 c2 c3:V}{x y z:Operand}
def OR(h:K σ):bh P tb cns [] σ K:=h
def evd{o:LO}{os R W fps}(a:bm R W o.op σ=true)(b:adB cns R o σ=true)(h:Hb P tb cns o σ (λσ'=>cX P tb cns fps os σ' K)):cX P tb cns ((R,W)::fps) (o::os) σ K:=⟨a,b,h⟩
def CN{fps}(h:K σ)(a:bxS cns σ=true:=by rfl):cX P tb cns fps [] σ K:=by cases fps<;>exact⟨a,h⟩
def z7(h:σ s=c)(a:c.isVal=true){o:LO}(k:K (upd (upd σ s<|dg c) d c)):TD tb o (.tmp s) d σ K:=by subst h;unfold TD;simp only;cases b:σ s<;>rw[b]at a k<;>first|(refine⟨a,?_⟩;simp only[DB,b];exact k)|cases a
def AaG{e n cs}(a:cns.contains d=true)(h:σ s=.uni e n cs)(k:K (upd (upd (kill [s] σ) s<|.dat n cs) d<|.own e n cs)):Hb P tb cns ⟨some d,.move<|.tmp s,t,none⟩ σ K:=by simp only[Hb,a,FB,TD,h];exact⟨trivial,k⟩
def AeR{e n cs}(a:cns.contains d=true)(h:σ s=.uni e n cs)(b:Ek (kill [s] σ d)=true)(k:K (upd (kill [s] σ) d<|.uni e n cs)):Hb P tb cns ⟨some d,.assign<|.tmp s,t,none⟩ σ K:=by simp only[Hb,a,FB,eL,h];exact⟨trivial,b,k⟩
def AeS{op ta tc}(a:CP σ x=c1)(b:CP σ y=c2)(e:ka (tb ta) op c1 c2)(k:K (upd σ d<|oT op c1 c2)):Hb P tb cns ⟨some d,.binOp op ta x y tc,t,none⟩ σ K:=by subst a b;exact⟨e,k⟩
def Lo(n:Int):List V:=[.int .u8 n]
def bytesOf(l:zI):zU:=l.map λn=>UInt8.ofNat n.toNat
def AeT{a b e es eb ez z z' l}(f:Mz (CP σ x)=some (l.length,l.flatMap Lo))(j:tb a=some (.sl e es eb ez))(g:tb b=some (.sc<|.str z))(m:tb e=some (.sc<|.int .u8 z'))(k:K (upd σ d<|.str<|bytesOf l)):Hb P tb cns ⟨some d,.convert a b x,t,none⟩ σ K:=by
 have h:(l.flatMap Lo).length=l.length:=by rw[Bu (n:=1) (λ_=>rfl)];omega
 have e2:(l.flatMap Lo).all Afo=true:=by rw[Aq];intro v o;have⟨n,_,i⟩:=B6.1 o;simp only[Lo,As]at i;subst i;rfl
 have p:(l.flatMap Lo).map mp=bytesOf l:=by
  clear f h e2 k;unfold bytesOf;induction l with
  |nil=>rfl
  |cons n l q=>rw[AR,Br,q];rfl
 refine⟨?_,?_⟩
 ·simp only[pc,eZ,j,g,m,f];cases r:CP σ x<;>rw[r]at f<;>first|exact⟨h,e2⟩|cases f
 ·simp only[pv,g];rw[e8 f,p];exact k
def AeV{b off cs dd v}(a:cns.contains d=false)(e:Oa σ x=.cref b off)(f:DC (σ b)=some cs)(g:tb s=some dd)(h:off+dd.size<=cs.length)(i:getCells dd cs off=v)(k:K (upd σ d v)):
  Hb P tb cns ⟨some d,.load s x,t,none⟩ σ K:=by
 simp only[Hb,a,CD,Ed,ME,pc,pv,Ww,Wx,g,e,XH,ax,f,i];exact⟨h,k⟩
def AeW{α:Type}{f:α->List V}{n off b:Nat}{l:List α}{i:Int}{e:α}{g:TypeId}{m:Nat}{dd:TyD}{v:V}(h:cns.contains d=false)(j:Oa σ x=.cref b (i.toNat * n+off))(o:σ b=.uni g m (l.flatMap f))(p:∀x,(f x).length=n)(hi:AU l i=some e)(q:tb s=some dd)(r:off+dd.size<=n)(u:getCells dd (f e) off=v)(k:K (upd σ d v)):
  Hb P tb cns ⟨some d,.load s x,t,none⟩ σ K:=by
 have a:=t9 p (B9 hi).2.2 r;exact AeV h j (by rw[o];rfl) q a.2 (a.1.trans u) k
def Aj4{e es eb n ez cs kk i}(a:Mz (CP σ x)=some (n,cs))(g:CP σ y=.int kk i)(j:tb s=some (.sl e es eb ez))(hi:0<=i∧i < n)(k:K (upd σ d<|.adr (cs.drop<|i.toNat * es) 0)):Hb P tb cns ⟨some d,.indexAddr s x y,t,none⟩ σ K:=by
 have f:∀b,CP σ x≠.same b:=λb h=>by rw[h]at a;cases a
 have l:fH σ (CP σ x) (CP σ y)=iaC (CP σ x) (CP σ y):=by cases h:CP σ x<;>first|rfl|exact absurd h (f _)|(rw[h]at a;cases a)
 have e2:iaS σ es (CP σ x) (CP σ y)=iaV es (CP σ x) (CP σ y):=by cases h:CP σ x<;>first|rfl|exact absurd h (f _)|(rw[h]at a;cases a)
 refine⟨?_,?_⟩
 ·simp only[pc,pp,j];rw[l];simp only[iaC,a,g,Ti];exact hi
 ·simp only[pv,pq,j];rw[e2];simp only[iaV,a,g,Ti];exact k
def AeU{e e' es eb n b ez cs kk i}(a:CP σ x=.same b)(f:σ b=.uni e' n cs)(g:CP σ y=.int kk i)(h:tb s=some (.sl e es eb ez))(hi:0<=i∧i < n)(k:K (upd σ d<|.cref b<|i.toNat * es)):Hb P tb cns ⟨some d,.indexAddr s x y,t,none⟩ σ K:=by
 refine⟨?_,?_⟩
 ·simp only[pc,pp,h,fH,a,f,g,Ti];exact hi
 ·simp only[pv,pq,h,iaS,a,f,g,Ti];exact k
def AeY{u:zU}{f:IntKind}{i:Int}{b:UInt8}(a:CP σ x=.str u)(e:CP σ y=.int f i)(g:tb s=some (.sc<|.str []))(hi:AU u i=some b)(k:K (upd σ d<|.int .u8 b.toNat)):Hb P tb cns ⟨some d,.index s x y,t,none⟩ σ K:=by
 obtain⟨h,j,l⟩:=B9 hi;refine⟨?_,?_⟩
 ·simp only[pc,g,uK,a,e,Ti];exact⟨trivial,h,j⟩
 ·simp only[pv,uM,a,e,Ti,l];exact k
def Ae0{u lo hi l h}(a:CP σ x=.str u)(b:tb s=some (.sc<|.str []))(e:Xf 0 (lo.map<|CP σ)=some l)(f:Xf u.length (hi.map<|CP σ)=some h)(g:0<=l∧l<=h∧h<=u.length)(k:K (upd σ d<|.str<|CZ u l h)):Hb P tb cns ⟨some d,.slice s x lo hi none,t,none⟩ σ K:=by
 refine⟨?_,?_⟩
 ·simp only[pc,da,b,a,e,f];exact g
 ·simp only[pv,WX,b,a,e,f];exact k
def Acx{α:Type}{l:List α}{a b:Int}(h:0<=a∧a<=b∧b<=l.length):(CZ l a b).length=b.toNat - a.toNat:=by unfold CZ;rw[BH,AH,CS aG]
def AeZ{α:Type}{f:α->List V}{e:TypeId}{es j:Nat}{m:List V}{lst:List α}{lo hi:Option Operand}{l h:Int}(a:Mz (CP σ x)=some (lst.length,lst.flatMap f))(n:tb s=some (.sl e es j m))(g:∀x,(f x).length=es)(o:Xf 0 (lo.map<|CP σ)=some l)(p:Xf lst.length (hi.map<|CP σ)=some h)(b:0<=l∧l<=h∧h<=lst.length)
  (k:K (upd σ d<|aI (CP σ x) (CZ lst l h).length<|(CZ lst l h).flatMap f)):Hb P tb cns ⟨some d,.slice s x lo hi none,t,none⟩ σ K:=by
 have q:WX (some<|.sl e es j m) (CP σ x) (lo.map<|CP σ) (hi.map<|CP σ)=aI (CP σ x) (CZ lst l h).length ((CZ lst l h).flatMap f):=by rw[Acx b];unfold CZ;rw[<-KD g,<-bQ g];cases i:CP σ x<;>rw[i]at a<;>first|(simp only[WX,a,o,p];done)|cases a
 refine⟨?_,?_⟩
 ·simp only[pc,n];cases i:CP σ x<;>rw[i]at a<;>first|(simp only[da,a,o,p];exact⟨b.1,b.2.1,b.2.2,Bu g lst⟩)|cases a
 ·simp only[pv,n,q];exact k
def erA(σ:PS):List Operand->List V->Prop
 |[],e=>e=[]
 |x::xs,e=>∃a b,e=a::b∧(CP σ x).isArg=true∧er (CP σ x)=a∧erA σ xs b
def era{as}{a:V}{xs}(b:(CP σ x).isArg=true)(e:er (CP σ x)=a)(f:erA σ xs as):erA σ (x::xs) (a::as):=⟨a,as,rfl,b,e,f⟩
def AT:erA σ [] []:=rfl
def Zt:∀{xs:List Operand}{b:List V},erA σ xs b->xs.all (λx=>(CP σ x).isArg)=true∧(xs.map λx=>er<|CP σ x)=b
 |[],_,h=>⟨rfl,(show _=[]from h).symm⟩
 |x::xs,_,⟨a,f,e,g,i,j⟩=>by have⟨k,l⟩:=Zt j;rw[e,BM,g,k,AP,i,l];exact⟨rfl,rfl⟩
def AaF{f:FuncId}{args:Array Operand}{ts:Array TypeId}{dst:Option Nat}{as:List V}{r:V}(hc:dst.toList.any cns.contains=false)(he:erA σ args.toList as)(hs:MI P f as r)(k:K (V6 σ dst r)):Hb P tb cns ⟨dst,.call {callee:=.value (.func f),args:=args,argTypes:=ts},t,none⟩ σ K:=by obtain⟨h1,h2⟩:=Zt he;subst h2;show JW P cns _ f args.toList σ K;unfold JW;rw[AA (by simp only[hc];exact Ox)];exact .inl ⟨h1,r,.inl hs,k⟩
def wm{f:FuncId}{args:Array Operand}{ts:Array TypeId}{dst:Option Nat}{xs:List Operand}{s:Nat}{as cs cs':List V}{r:V}(hc:dst.toList.any cns.contains=false)(ha:args.toList=x::xs)(hx:Oa σ x=.cref s 0)(hs:σ s=.box cs)(hpl:cs.all KA=true)(he:erA σ xs as)(hp:Ob P f cs as cs' r)(k:K (V6 (upd σ s<|.box cs') dst r)):Hb P tb cns ⟨dst,.call {callee:=.value (.func f),args:=args,argTypes:=ts},t,none⟩ σ K:=by
 obtain⟨h1,h2⟩:=Zt he;subst h2;show JW P cns _ f args.toList σ K;unfold JW;rw[AA (by simp only[hc];exact Ox)];refine .inr<|.inl ?_;rw[ha];have key:Xk P ⟨dst,.call {callee:=.value (.func f),args:=args,argTypes:=ts},t,none⟩ f x xs σ K:=⟨s,cs,cs',r,hx,hs,hpl,h1,hp,k⟩;cases dst with
 |none=>exact⟨rfl,key⟩
 |some d=>exact key
def wl{f args ts as cs}(a:cns.contains d=true)(b:Ek (σ d)=true)(e:args.toList.all (λx=>(CP σ x).isArg)=true)(g:(args.toList.map λx=>erK<|CP σ x)=as)(h:NewAt P f as cs)(k:K (upd σ d<|.box cs)):Hb P tb cns ⟨some d,.call {callee:=.value (.func f),args:=args,argTypes:=ts},t,none⟩ σ K:=by subst g;show JW P cns _ f args.toList σ K;unfold JW;rw[Az (by simp only[OA,G1,a];rfl)];exact⟨d,rfl,cs,rfl,b,e,h,k⟩
def BE{α:Type}{f g}(h:∀x,ON (f x)=g x)(l:List α):er (.dat l.length<|l.flatMap f)=.dat l.length (l.flatMap g):=by rw[er,Ud h]
def SB{α:Type}{f g}(h:∀x,ON (f x)=g x)(l:List α){e:TypeId}:er (.own e l.length<|l.flatMap f)=.dat l.length (l.flatMap g):=by rw[er,Ud h]
def KC{α:Type}{f g}(h:∀x,ON (f x)=g x)(l:List α):er (.arg l.length<|l.flatMap f)=.dat l.length (l.flatMap g):=by rw[er,Ud h]
def CM{cs ds}(h:ON cs=ds):er (.agg cs)=.agg ds:=by rw[er,h]
def Ba{c a:V}{cs ds}(b:er c=a)(e:ON cs=ds):ON (c::cs)=a::ds:=by rw[ON,b,e]
def Am(n:Int):List V:=[.int .i64 n]
def QM(b:Bool):List V:=[.bool b]
def cst(u:zU):List V:=[.str u]
def A6(n:Int):(Am n).length=1:=rfl
def qq(n:Int):(Lo n).length=1:=rfl
def Y3(n:Bool):(QM n).length=1:=rfl
def TX(n:zU):(cst n).length=1:=rfl
def AG(n:Int):ON (Am n)=Am n:=rfl
def AeK(n:Int):ON (Lo n)=Lo n:=rfl
def Anc(n:Bool):ON (QM n)=QM n:=rfl
def AaB(n:zU):ON (cst n)=cst n:=rfl
def Tk{α:Type}{f g}(h:∀x,(f x).map WS=g x):∀l:List α,(l.flatMap f).map WS=l.flatMap g
 |[]=>rfl
 |x::l=>by rw[AR,Br,h,AR,Tk h l]
def AeQ{α:Type}{f:α->List V}{e:TypeId}{es g p q:Nat}{h ds:List V}{l m:List α}(b:σ p=.own e l.length (l.flatMap f))(i:CP (upd σ p<|.dat l.length<|l.flatMap f) (.tmp q)=c2)(j:Mz c2=some (m.length,ds))(n:ds.length=m.length * es)(o:tb s=some (.sl e es g h))(r:ZW c2=m.flatMap f)(u:l.length+m.length<=lim)(w:c2.isVal=true)
  (k:K (upd (upd (upd σ p<|.dat l.length<|l.flatMap f) q<|dg c2) d<|.own e (l++m).length<|(l++m).flatMap f)):Hb P tb cns ⟨some d,.call {callee:=.builtin .append,args:= #[.tmp p,.tmp q],argTypes:= #[s,s]},t,none⟩ σ K:=by
 subst i;have v:DB σ (.tmp p)=upd σ p (.dat l.length<|l.flatMap f):=by simp only[DB,b,dg,dg2,WS]
 refine Or.inl (a:=US tb _ _ _ _ d σ K) ?_;unfold US;have e2:CP σ (.tmp p)=.own e l.length (l.flatMap f):=b;rw[o,e2,v,j];refine⟨rfl,rfl,n,u,?_⟩;rw[r,<-Dw,<-An];exact .inl k
def AaE{α:Type}{f g h:α->List V}{e:TypeId}{es o p q:Nat}{r ds:List V}{l m:List α}(j:σ p=.own e l.length (l.flatMap f))(u:CP (upd σ p<|.dat l.length<|l.flatMap f) (.tmp q)=c2)(v:Mz c2=some (m.length,ds))(w:ds.length=m.length * es)(A:tb s=some (.sl e es o r))(n:ZW c2=m.flatMap h)(B:l.length+m.length<=lim)(G:c2.isVal=true)
  (C:∀x,(f x).map WS=g x) (D:∀x,(h x).map WS=g x) (b:∀x,(f x).all V.D3=true) (i:∀x,(h x).all V.D3=true)
  (k:K (upd (upd (upd σ p<|.dat l.length<|l.flatMap f) q<|dg c2) d<|.own e (l++m).length<|(l++m).flatMap g)):Hb P tb cns ⟨some d,.call {callee:=.builtin .append,args:= #[.tmp p,.tmp q],argTypes:= #[s,s]},t,none⟩ σ K:=by
 subst u;have F:DB σ (.tmp p)=upd σ p (.dat l.length<|l.flatMap f):=by simp only[DB,j,dg,dg2,WS]
 refine Or.inl (a:=US tb _ _ _ _ d σ K) ?_;unfold US;have e2:CP σ (.tmp p)=.own e l.length (l.flatMap f):=j;rw[A,e2,F,v];refine⟨rfl,rfl,w,B,.inr ⟨?_,?_⟩⟩
 ·rw[n,Br,Tk C,Tk D,<-Dw,<-An]
  have:∀(τ:PS) (c c':V),upd (upd τ d c) d c'=upd τ d c':=by
   intro τ c c';funext q;by_cases e:q=d
   ·rw[e,upd_same,upd_same]
   ·rw[upd_ne _ _ e,upd_ne _ _ e,upd_ne _ _ e]
  rw[this];exact k
 ·rw[n,ED,List.all_flatMap,List.all_flatMap,Ab,Aq,Aq];exact⟨λx _=>b x,λx _=>i x⟩
def Ae1{ty:TypeId}{α:Type}{f:α->List V}{n b:Nat}{l:List α}{i:Int}{e:α}{g:TypeId}{dd:TyD}(m:Oa σ x=.cref b (i.toNat * n))(o:σ b=.uni g l.length (l.flatMap f))(a:∀x,(f x).length=n)(hi:0<=i∧i < l.length)(p:CP σ y=c1)(q:tb t=some dd)(r:c1.isArg=true)(u:n=dd.size)(h:G7 c1=f e)
  (k:K (upd (DB σ y) b<|.uni g (CY l i e).length<|(CY l i e).flatMap f)):Hb P tb cns ⟨none,.store t x y,ty,none⟩ σ K:=by
 subst p u;have j:i.toNat < l.length:=aG;simp only[Hb,lV,q,m,o,DC,WY];refine⟨trivial,r,by rw[h,a],?_,?_⟩
 ·rw[Bu a];have:i.toNat * dd.size+dd.size<=l.length * dd.size:=by rw[<-HU];exact Cd _ j
  omega
 ·rw[h,jF a j];have v:(CY l i e).length=l.length:=by unfold CY;rw[By]
  rw[v]at k;exact k
def Aj2{dd}(a:Ek (σ d)=true)(b:tb s=some dd)(k:K (upd σ d<|.box<|ip dd)):Hb P tb cns ⟨some d,.alloc s,t,none⟩ σ K:=by simp only[Hb,Zl,b];exact⟨trivial,a,k⟩
def Aj5{α:Type}{f:α->List V}{z:α}{e:TypeId}{es h:Nat}{a:List V}{i j:IntKind}{n:Int}(l:cns.contains d=false)(m:CP σ x=.int i n)(o:CP σ y=.int j n)(p:tb s=some (.sl e es h a))(q:f z=a)(b:a.length=es)(g:0<=n∧n.toNat<=lim)(k:K (upd σ d<|.own e (List.replicate n.toNat z).length<|(List.replicate n.toNat z).flatMap f)):Hb P tb cns ⟨some d,.makeSlice s x y,t,none⟩ σ K:=by simp only[Hb,l,CD,Ed,fR,p,m,o];refine⟨trivial,g.1,trivial,g.2,?_⟩;rw[cU q b];rw[CH]at k;exact k
def AeX{α:Type}{f:α->List V}{z:α}{e:TypeId}{es h:Nat}{a:List V}{i j:IntKind}{n:Int}(l:cns.contains d=true)(m:CP σ x=.int i n)(o:CP σ y=.int j n)(p:tb s=some (.sl e es h a))(q:f z=a)(b:a.length=es)(g:0<=n∧n.toNat<=lim)(r:Ek (σ d)=true)(k:K (upd σ d<|.uni e (List.replicate n.toNat z).length<|(List.replicate n.toNat z).flatMap f)):Hb P tb cns ⟨some d,.makeSlice s x y,t,none⟩ σ K:=by simp only[Hb,l,FB,jm,p,m,o];refine⟨trivial,g.1,trivial,g.2,r,?_⟩;rw[cU q b];rw[CH]at k;exact k
def gOp(cns:zN)(d:Nat):Op->Bool
 |.move _=> !cns.contains d
 |.load _ _=> !cns.contains d
 |.pick .. |.binOp .. |.unOp .. |.convert .. |.fieldAddr .. |.indexAddr .. |.index .. |.slice .. =>true
 |.call c=>match c.callee with
  |.value (.func _)=> !cns.contains d
  |.value _=>false
  |_=>true
 |.build .. |.buildSlice .. |.field .. =>true
 |_=>false
def Aj3{op q b}(j:gOp cns d op=true)(l:σ q=.bool b)(h:Hb P tb cns ⟨some d,op,t,none⟩ σ K):Hb P tb cns ⟨some d,op,t,some (some q,b)⟩ σ K:=by
 have g:known (σ q)=true:=by rw[l];rfl
 have i:dw b (σ q)=true:=by rw[l];simp[dw]
 have k:ME tb ⟨some d,op,t,none⟩ σ K->ME tb ⟨some d,op,t,some (some q,b)⟩ σ K:=by intro h;simp only[ME]at *;exact⟨g,λ_=>h,λe=>by rw[i]at e;cases e⟩
 cases op<;>first|(cases j;done)|exact k h|skip
 case move x=>simp only[gOp,At]at j;simp only[Hb,j,CD,Ed]at h⊢;exact k h
 case load s x=>simp only[gOp,At]at j;simp only[Hb,j,CD,Ed]at h⊢;exact k h
 case call c=>
  have⟨m,a,ts⟩:=c;cases m with
  |value x=>
   cases x with
   |func f=>
    have o:cns.contains d=false:=by simpa[gOp]using j
    replace h:JW P cns ⟨some d,.call ⟨.value<|.func f,a,ts⟩,t,none⟩ f a.toList σ K:=h;show JW P cns ⟨some d,.call ⟨.value<|.func f,a,ts⟩,t,some (some q,b)⟩ f a.toList σ K;unfold JW at h⊢;rw[AA (by simpa using o)]at h⊢;rcases h with h|h|h
    ·left;unfold T9 at h⊢;exact⟨g,λ_=>h,λe=>absurd e<|by rw[i];simp⟩
    ·right;left;unfold Z6 at h⊢;split at h
     ·exact h
     ·exact⟨g,λ_=>h,λe=>absurd e<|by rw[i];simp⟩
    ·right;right;exact⟨g,λ_=>h,λe=>absurd e<|by rw[i];simp⟩
   |_=>cases j
  |builtin F=>
   simp only[Hb,Xj]at h⊢;split at h
   ·rename_i p;cases p
   ·refine⟨g,λ_=>h.imp id λ⟨_,w,u,A,n,cs,B,C,r,D⟩=>⟨λb' v=>?_,w,u,A,n,cs,B,C,r,D⟩,λe=>absurd e<|by rw[i];simp⟩;simp only[Av,Ch]at v;rw[v.1,r]at l;cases l
   ·exact k h
  |_=>exact k h
 case build s ps=>exact⟨g,λ_=>h,λe=>absurd e<|by rw[i];simp⟩
 case buildSlice s n ps=>exact⟨g,λ_=>h,λe=>absurd e<|by rw[i];simp⟩
 case field s y f=>exact⟨g,λ_=>h,λe=>absurd e<|by rw[i];simp⟩
end
section
variable {P:Program}{nt:Nat}{bx:zN}{σ:PS}{Q:Exit->PS->Prop}{tb:Tb}{cns:zN}
def Abi{ops y}(a:LB P tb)(h:∀K:PS->Prop,(∀σ',LS P nt bx y σ' Q->K σ')->bh P tb cns ops σ K):LS P nt bx (.seq (.rgn cns ops) y) σ Q:=xF a<|h _ λ_ h=>h
def Abh{fps es ops y}(a:LB P tb)(b:P.follows .mixedOrders=true)(c:(okD fps es ops&&okF cns fps ops)=true)(h:∀K:PS->Prop,(∀σ',LS P nt bx y σ' Q->K σ')->cX P tb cns fps ops σ K):LS P nt bx (.seq (.drw cns fps es ops) y) σ Q:=Adm a b c<|h _ λ_ h=>h
end
def mf(a b:Int):Int:=wZ ((BitVec.ofInt IntKind.i64.bits a&&& BitVec.ofInt IntKind.i64.bits b).toNat:Int)
def AmB(a b:Int):Int:=wZ ((BitVec.ofInt IntKind.i64.bits a ^^^ BitVec.ofInt IntKind.i64.bits b).toNat:Int)
def Aco(a b:Int):Int:=a.fdiv<|2 ^ (min b.toNat IntKind.i64.bits)
end
end Go.Proofs.YtdmpnamllcigdaaGreatDoor
