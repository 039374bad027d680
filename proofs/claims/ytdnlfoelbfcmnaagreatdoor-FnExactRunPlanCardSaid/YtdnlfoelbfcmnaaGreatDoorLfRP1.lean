/- Products, valid programs, points on a side, equal points: what both give. No conditions. -/
import Derived.Test.YtdnlfoelbfcmnaaGreatDoorSxRP1
import Derived.Test.YtdnlfoelbfcmnaaGreatDoorNrRP1
import Derived.Test.YtdnlfoelbfcmnaaGreatDoorQuRP1
import Derived.Test.YtdnlfoelbfcmnaaGreatDoorTtRP1
open Go.RowKit
set_option linter.all false
namespace Go.Proofs.YtdnlfoelbfcmnaaGreatDoor
abbrev LP:=Mx×List Rt×List Rt
def qe:Rt×Bool:=((0,0),false)
def jM(a b:List Rt)(k:Nat)(x:Rt):Sum Rt (Rt×Bool):=cond (Qh (atR a k)<|atR b k).2 (cond (b9 x (Qh (atR a k)<|atR b k).1).2 (.inl (b9 x (Qh (atR a k)<|atR b k).1).1)<|.inr qe)<|.inr qe
def PD(a b:List Rt):Rt×Bool:=cond ((a.length:Int)!=(b.length:Int)) qe (match Tf (jM a b) a.length 0 (0,1)with
 |.inl x=>(x,true)
 |.inr o=>o)
def Aa9{a b}(h:a.length<=lim):Mn a b=some (PD a b):=by
 unfold Mn PD;cases e:(a.length:Int)!=(b.length:Int)with
 |true=>rfl
 |false=>
  have f:a.length=b.length:=by have:=bne_eq_false_iff_eq.1 e;omega
  rw[Ab,Ab]
  have g:=Pm (B:=SP a b) (n:=a.length) (λ(s:Rt) k=>(s.1,s.2,(k:Int))) (λ_ _=>True) (jM a b) (λo=>match o with|.inl x=>.inl (x.1,x.2)|.inr o=>.inr o) h (λrec k s c _=>by
   show cond (decide ((k:Int) < (a.length:Int))) _ _=_;rw[Bi c,Ac,MN c,MN (by rw[<-f];exact c)];simp only[G];rw[vd];simp only[G];rw[oG];simp only[G];unfold jM;rw[Bm c (Ba h)];cases(Qh (atR a k)<|atR b k).2 with
   |false=>rfl
   |true=>
    cases d:(b9 s (Qh (atR a k)<|atR b k).1).2 with
    |false=>simp only[d,Ac,Ab,CF,An];rfl
    |true=>simp only[d,Ac,Ab,An]) (λrec s _=>by
   show cond (decide ((a.length:Int) < (a.length:Int))) _ _=_;rw[Bc];rfl) (λ_ _ _ _ _ _=>trivial) (0,1) trivial
  rw[show((0:Int),(1:Int),(0:Int))=(((0,1):Rt).1,((0,1):Rt).2,((0:Nat):Int))from rfl,g];simp only[G];cases Tf (jM a b) a.length 0 (0,1)<;>rfl
def mvG(a:Mx)(x:List Rt)(k:Nat):Sum Rt (List Rt×Bool):=cond (PD (Ni a k) x).2 (.inl (PD (Ni a k) x).1)<|.inr ([],false)
def iE(a:Mx)(x:List Rt):List Rt×Bool:=match R7 (mvG a x) a.length 0 with
 |.inl l=>(l,true)
 |.inr o=>o
def Afl(a:Mx)(x:List Rt){k:Nat}{o:List Rt×Bool}(h:mvG a x k=.inr o):o=([],false):=by
 unfold mvG at h;cases b:(PD (Ni a k) x).2 with
 |true=>rw[b]at h;cases h
 |false=>rw[b]at h;cases h;rfl
def zm(a:Mx)(x:List Rt):(iE a x).1.length<=a.length∧((iE a x).2=true->(iE a x).1.length=a.length)∧((iE a x).2=false->(iE a x).1=[]):=by
 unfold iE;cases h:R7 (mvG a x) a.length 0 with
 |inl l=>exact⟨Nat.le_of_eq<|Zf h,λ_=>Zf h,λh=>by cases h⟩
 |inr o=>have:=Ze (P:=λo=>o=([],false)) (λk o b=>Afl a x b) h;subst this;exact⟨Cd _,(λh=>by cases h),λ_=>rfl⟩
def AkI{a x}(h:a.length<=lim)(f:∀k,k < a.length->(Ni a k).length<=lim):HI a x=some (iE a x):=by
 unfold HI iE
 have d:=Pm (B:=MY a x) (n:=a.length) (O:=List Rt×Bool) (λ(s:List Rt) k=>(s,(k:Int))) (λk s=>s.length=k) (λk s=>tI s (mvG a x k)) id h (λrec k s b hi=>by
  show cond (decide ((k:Int) < (a.length:Int))) _ _=_;rw[Bi b,Ac,Yi b];simp only[G];rw[Aa9 (f k b)];simp only[G];unfold mvG;cases(PD (Ni a k) x).2 with
  |false=>rfl
  |true=>rw[An,Ab,A1 (by rw[hi,Al];unfold lim at h⊢;omega),Bm b (Ba h)];rfl) (λrec s hi=>by
  show cond (decide ((a.length:Int) < (a.length:Int))) _ _=_;rw[Bc];rfl) (λk s g b hi c=>by
  unfold mvG at c;cases e:(PD (Ni a k) x).2 with
  |false=>rw[e]at c;cases c
  |true=>rw[e]at c;cases c;rw[Au,hi];rfl) [] rfl
 rw[show((0:Nat):Int)=0 from rfl]at d;rw[d,Zr];cases R7 (mvG a x) a.length 0<;>rfl
def XN(p:LP):Bool:=Hv (p.2.2.length:Int) 1 5&&(Hv (p.2.1.length:Int) 1 5&&((p.1.length==p.2.1.length)&&(p.1.all (rowOk p.2.2.length)&&(p.2.1.all Pk&&p.2.2.all Pk))))
def tj(p:LP):Prop:=p.1.length<=lim∧p.2.1.length<=lim∧p.2.2.length<=lim
def AhL{p}(h:tj p):FK p=some (XN p):=by
 unfold FK XN;rw[HT];simp only[G];cases Hv (p.2.2.length:Int) 1 5 with
 |false=>rfl
 |true=>
  rw[An,Ab,HT,AL];simp only[G];cases Hv (p.2.1.length:Int) 1 5 with
  |false=>rfl
  |true=>
   rw[An,Ab,AL];by_cases c:p.1.length=p.2.1.length
   ·rw[c,Dz,Ab,Dj,AL,aq h.2.1];simp only[G];cases p.2.1.all Pk with
    |false=>simp
    |true=>
     rw[An,Ab,aq h.2.2,AL];simp only[G];cases p.2.2.all Pk with
     |false=>rw[Jv];rfl
     |true=>
      rw[An,Ab,DG,QY (n:=p.1.length) (λk=>Hg p.1 k λr=> !rowOk p.2.2.length r) false h.1 (λk a d=>by
       show cond (decide ((k:Int) < (p.1.length:Int))) _ _=_;rw[Bi a,Ac,Yi a,BV a,O3 a];simp only[G];unfold rowOk;by_cases b:(Ni p.1 k).length=p.2.2.length
       ·rw[b,Dz,Ab,Dj,AL,aq (by rw[b];exact h.2.2),Bm a (Ba h.1)]
       ·rw[show(((Ni p.1 k).length:Int)!=(p.2.2.length:Int))=true from by rw[G1];omega,Ac,show((Ni p.1 k).length==p.2.2.length)=false from by simpa using b];rfl) (λrec=>by
       show cond (decide ((p.1.length:Int) < (p.1.length:Int))) _ _=_;rw[Bc];rfl)]
      rw[nT,not_any];cases p.1.all (rowOk p.2.2.length)<;>rfl
   ·rw[show((p.1.length:Int)!=(p.2.1.length:Int))=true from by rw[G1];omega,show(p.1.length==p.2.1.length)=false from by simpa using c];rfl
def rq(p:LP)(x:List Rt)(sg:Int)(k:Nat):Bool:=decide (wZ (gA (atR (iE p.1 x).1 k) (atR p.2.1 k) * sg) < 0)
def VU(p:LP)(x:List Rt)(sg:Int):Bool:=XN p&&((x.length==p.2.2.length)&&((x.all λr=>Pk r&&decide (0<=r.1))&&((iE p.1 x).2&& !((List.range (iE p.1 x).1.length).any<|rq p x sg))))
def S5{p}(h:XN p=true):1<=p.2.2.length∧p.2.2.length<=5∧1<=p.2.1.length∧p.2.1.length<=5∧p.1.length=p.2.1.length∧(∀k,k < p.1.length->(Ni p.1 k).length=p.2.2.length):=by unfold XN at h;simp only[Aa,TG,BG]at h;refine⟨by omega,by omega,by omega,by omega,h.2.2.1,λk a=>?_⟩;have:=Am.1 h.2.2.2.1 _<|Ad a;unfold rowOk at this;rw[Aa,BG,O3 a]at this;exact this.1
def Afb{p}(h:XN p=true):p.1.length<=lim∧∀k,k < p.1.length->(Ni p.1 k).length<=lim:=by have⟨d,e,f,g,a,b⟩:=S5 h;refine⟨by rw[a];unfold lim;omega,λk c=>by rw[b k c];unfold lim;omega⟩
def Adc{p x sg}(h:tj p)(d:x.length<=lim):Rp p x sg=some (VU p x sg):=by
 unfold Rp VU;rw[AhL h];simp only[G];cases f:XN p with
 |false=>rfl
 |true=>
  have⟨s,t,u,v,l,w⟩:=S5 f;have⟨g,m⟩:=Afb f;rw[An,Ab,AL];by_cases i:x.length=p.2.2.length
  ·rw[i,Dz,Ab,Dj,AL,aq d];simp only[G];have o:(x.all λr=>Pk r&&decide (0<=r.1))=(x.all Pk&&x.all λr=>decide (0<=r.1)):=by rw[BX];simp only[Am,Aa];exact⟨λh=>⟨λr b=>(h r b).1,λr b=>(h r b).2⟩,λh r b=>⟨h.1 r b,h.2 r b⟩⟩
   rw[o];cases x.all Pk with
   |false=>rfl
   |true=>
    rw[An,Ab,AL,QY (n:=x.length) (λk=>Hg x k λr=> !decide (0<=r.1)) false d (λk a e=>by
     show cond (decide ((k:Int) < (x.length:Int))) _ _=_;rw[Bi a,Ac,MN a,BV a,QR a];simp only[G];rw[Bm a (Ba d)];by_cases j:(atR x k).1 < 0
     ·rw[Ai j,Af (by omega)];rfl
     ·rw[Af j,Ai (by omega)];rfl) (λrec=>by
     show cond (decide ((x.length:Int) < (x.length:Int))) _ _=_;rw[Bc];rfl)]
    rw[nT,not_any];cases x.all (λr=>decide (0<=r.1))with
    |false=>rfl
    |true=>
     rw[An,Ab,AL];simp only[G];rw[AkI g m];simp only[G];have q:=zm p.1 x;have c:(iE p.1 x).1.length<=lim:=BC q.1 g;cases y:(iE p.1 x).2 with
     |false=>simp
     |true=>
      rw[An,Ab,AL,QY (n:=(iE p.1 x).1.length) (rq p x sg) false c (λk a e=>by
       show cond (decide ((k:Int) < ((iE p.1 x).1.length:Int))) _ _=_;rw[Bi a,Ac,MN a,MN (by rw[<-l];omega)];simp only[G];rw[va];simp only[G];rw[Bm a (Ba c),Int.mul_comm];rfl) (λrec=>by
       show cond (decide (((iE p.1 x).1.length:Int) < ((iE p.1 x).1.length:Int))) _ _=_;rw[Bc];rfl)]
      cases(List.range (iE p.1 x).1.length).any (rq p x sg)<;>rfl
  ·rw[show((x.length:Int)!=(p.2.2.length:Int))=true from by rw[G1];omega,show(x.length==p.2.2.length)=false from by simpa using i];rfl
def yo:∀{a b:List Rt},a.length=b.length->((List.range a.length).any λk=> !((atR a k).1==(atR b k).1&&(atR a k).2==(atR b k).2))= !(a==b)
 |a,b,h=>by
  rw[BX,Cx,AH];constructor
  ·rintro⟨k,hk,hb⟩;rw[AB]at hk;rw[Cg];rintro rfl;simp at hb
  ·intro hne;rw[Cg]at hne;refine BO λhc=>hne<|Di h λk h1 h2=>?_
   rw[QR h1,QR h2];have:¬(!((atR a k).1==(atR b k).1&&(atR a k).2==(atR b k).2))=true:=λhb=>hc ⟨k,AB.2 h1,hb⟩
   rw[AH,Bool.not_eq_false,Aa,BG,BG]at this;exact Prod.ext this.1 this.2
def Adk{a b:List Rt}(h:a.length≠b.length):(a==b)=false:=by rw[Cg];rintro rfl;exact h rfl
def AhH{a b}(h:a.length<=lim):K1 a b=some (a==b):=by
 unfold K1;by_cases c:a.length=b.length
 ·rw[c,Dz,Ab,QY (n:=a.length) (λk=> !((atR a k).1==(atR b k).1&&(atR a k).2==(atR b k).2)) false h (λk d e=>by
   show cond (decide ((k:Int) < (a.length:Int))) _ _=_;rw[Bi d,Ac,MN d,MN (by rw[<-c];exact d)];simp only[G];rw[Bm d (Ba h)]) (λrec=>by
   show cond (decide ((a.length:Int) < (a.length:Int))) _ _=_;rw[Bc];rfl)]
  rw[yo c];cases a==b<;>rfl
 ·rw[show((a.length:Int)!=(b.length:Int))=true from by rw[G1];omega,Adk c];rfl
def aV{α β O:Type}(g:Nat->α)(h:Nat->β):∀(j k:Nat) (s:List α×List β),Tf (O:=O) (λk s=>.inl (s.1++[g k],s.2++[h k])) j k s=.inl (s.1++(List.range' k j).map g,s.2++(List.range' k j).map h)
 |0,k,s=>by rw[Tf];simp
 |j+1,k,s=>by rw[Tf];simp only;rw[aV g h j (k+1),DR,AM,AM,Bk,Bk];rfl
def fv{S O:Type}(g:S->Nat->S):∀(j k:Nat) (s:S),Tf (O:=O) (λk s=>.inl<|g s k) j k s=.inl ((List.range' k j).foldl g s)
 |0,k,s=>by rw[Tf];simp
 |j+1,k,s=>by rw[Tf];simp only;rw[fv g j (k+1),DR,CL]
def getD_map{α β:Type}(d:α)(h:α->β)(l:List α):(List.range' 0 l.length).map (λk=>h<|l.getD k d)=l.map h:=by
 apply Di
 ·simp
 ·intro i a b;simp only[Aj,Kt]at a;rw[BL,JR,BL,AO];simp[Ae a]
def ai{α β:Type}{f}(h:∀s x,(f s x).length<=s.length+1):∀(l:List α) (s:List β),(l.foldl f s).length<=s.length+l.length
 |[],s=>by simp
 |x::l,s=>by rw[CL,AD];have a:=ai h l<|f s x;have b:=h s x;omega
def qf{α β:Type}{f:α->List β}{M:Nat}:∀{l:List α},(∀x∈l,(f x).length<=M)->(l.flatMap f).length<=l.length * M
 |[],_=>by simp
 |x::l,h=>by
  rw[Ax,Au,AD,GZ];have b:=h x BH;have c:=qf (f:=f) (l:=l) λy a=>h y<|A3 _ a
  omega
def lr{α β:Type}{l:List α}{B:(List β×Int->Option (List β))->List β×Int->Option (List β)}{s0:List β}{h:α->β}(p:s0.length+l.length<=lim)
  (i:∀k (e:k < l.length) s a,s.length=s0.length+k->B a (s,(k:Int))=a (s++[h l[k]],((k+1:Nat):Int))) (m:∀a s,B a (s,(l.length:Int))=some s):Ap B fz (s0,0)=some (s0++l.map h):=by
 have c:∀(j k:Nat) (s:List β) (f:Nat),k+j=l.length->j < f->s.length=s0.length+k->Ap B f (s,(k:Int))=some (s++(l.drop k).map h):=by
  intro j;induction j with
  |zero=>
   intro k s f e n d;obtain⟨f,rfl⟩:∃g,f=g+1:=⟨f - 1,by omega⟩;obtain rfl:k=l.length:=by omega
   rw[CM,m,Mb];simp
  |succ j o=>
   intro k s f e n d;obtain⟨f,rfl⟩:∃g,f=g+1:=⟨f - 1,by omega⟩;have b:k < l.length:=by omega
   rw[CM,i k b s _ d,o (k+1) _ f (by omega) (by omega) (by rw[Au,d];simp;omega),BB b,AM,Bk];rfl
 have:=c l.length 0 s0 fz (by omega) (DN<|by omega) (by omega);simpa using this
def dv(t:Nat):Nat->Nat->List zN
 |0,_=>[[]]
 |r+1,fr=>(List.range' fr<|t - r - fr).flatMap λi=>(dv t r<|i+1).map (i:: ·)
def cI(c:zN):zI:=c.map λ(e:Nat)=>(e:Int)
def jC{t:Nat}(a:t<=11):∀(r fr:Nat),(dv t r fr).length<=11 ^ r
 |0,_=>AJ 1
 |r+1,fr=>by
  rw[dv];have:=qf (f:=λi=>(dv t r<|i+1).map (i:: ·)) (M:=11 ^ r) (l:=List.range' fr<|t - r - fr) λi _=>by rw[Aj];exact jC a r<|i+1
  refine BC this ?_;rw[Kt,Nx,Nat.mul_comm];exact Nat.mul_le_mul_left _ (by omega)
def uk{t}:∀{r fr:Nat}{c:zN},c∈dv t r fr->c.length=r∧∀e∈c,e < t
 |0,_,c,h=>by rw[dv,AC]at h;subst h;exact⟨rfl,by simp⟩
 |r+1,fr,c,h=>by
  rw[dv,BU]at h;have⟨i,hi,h⟩:=h;obtain⟨d,b,rfl⟩:=A5.1 h;have⟨f,g⟩:=uk b;rw[List.mem_range'_1]at hi;refine⟨by rw[AD,f],λe a=>?_⟩;rcases AE.1 a with rfl|a
  ·omega
  ·exact g e a
def AbG{r}(h:r<=5):11 ^ r<=161051:=BC (Jg (by omega) h) (by decide)
def X4(n i:Nat):List Rt:=(List.replicate n (0,1)).set i (1,1)
def rowAt(p:LP)(j:Nat):List Rt:=if j < p.2.1.length then Ni p.1 j else X4 p.2.2.length (j - p.2.1.length)
def I2(p:LP)(j:Nat):Rt:=if j < p.2.1.length then atR p.2.1 j else(0,1)
def visit(p:LP)(sg:Int)(out:Mx)(c:zN):Mx:=cond (WF (c.map<|rowAt p)<|c.map<|I2 p).2 (cond (VU p (WF (c.map<|rowAt p)<|c.map<|I2 p).1 sg) (cond (out.any (· ==(WF (c.map<|rowAt p)<|c.map<|I2 p).1)) out<|out++[(WF (c.map<|rowAt p)<|c.map<|I2 p).1]) out) out
def jd(p:LP)(sg:Int)(out:Mx)(c:zN):(visit p sg out c).length<=out.length+1:=by
 unfold visit;cases(WF (c.map<|rowAt p)<|c.map<|I2 p).2 with
 |false=>simp
 |true=>
  cases VU p (WF (c.map<|rowAt p)<|c.map<|I2 p).1 sg with
  |false=>simp
  |true=>
   cases out.any (· ==(WF (c.map<|rowAt p)<|c.map<|I2 p).1)with
   |true=>simp
   |false=>simp
def Af2(a:Mx)(b:List Rt):(WF a b).2=false->(WF a b).1=[]:=by
 unfold WF;cases decide (6 < (b.length:Int))with
 |true=>exactλ_=>rfl
 |false=>
  cases fO a b with
  |false=>exactλ_=>rfl
  |true=>
   simp only[Ab,Ac];cases f:Vd b.length b.length 0 (gd a b)with
   |none=>exactλ_=>rfl
   |some m=>
    simp only;cases e:R7 (cg b.length m) b.length 0 with
    |inl x=>exactλh=>by cases h
    |inr o=>
     exactλ_=>Ze (P:=λo=>o.1=[]) (λk o c=>by
      unfold cg at c;cases d:(aQ (atR (Ni m k) b.length)<|atR (Ni m k) k).2 with
      |false=>rw[d]at c;cases c;rfl
      |true=>rw[d]at c;cases c) e
def rx{a b}(h:b.length<=lim):(WF a b).1.length<=lim:=by
 cases c:(WF a b).2 with
 |true=>rw[Aav (a:=a) (b:=b) (x:=(WF a b).1) (by rw[<-c])];exact h
 |false=>rw[Af2 a b c];simp
def Xp(m:Mx):Prop:=∀r∈m,r.length<=lim
def tD{p}(sg:Int){out:Mx}{c:zN}(b:c.length<=lim)(h:Xp out):Xp (visit p sg out c):=by
 unfold visit;cases(WF (c.map<|rowAt p)<|c.map<|I2 p).2 with
 |false=>exact h
 |true=>
  cases VU p (WF (c.map<|rowAt p)<|c.map<|I2 p).1 sg with
  |false=>exact h
  |true=>
   cases out.any (· ==(WF (c.map<|rowAt p)<|c.map<|I2 p).1)with
   |true=>exact h
   |false=>
    intro r a;rcases Ak.1 a with a|a
    ·exact h r a
    ·rw[AC]at a;subst a;exact rx (by rw[Aj];exact b)
def Ys(p:LP)(sg:Int):Mx:=(dv (p.2.1.length+p.2.2.length) p.2.2.length 0).foldl (visit p sg) []
def bt(b:Bool):Rt:=(cond b 1 0,1)
def gB(l:List Bool)(i:Nat):Bool:=l.getD i false
def allB:Nat->List (List Bool)
 |0=>[[]]
 |n+1=>(allB n).flatMap λl=>[false::l,true::l]
def SF:∀l:List Bool,l∈allB l.length
 |[]=>AC.2 rfl
 |b::l=>by
  rw[AD,allB,BU];refine⟨l,SF l,?_⟩;cases b
  ·exact BH
  ·exact A3 _ BH
def AbC(S r:List Bool):Bool:=(List.range S.length).any λi=>(gB S i&&gB r i)&&(List.range S.length).all λj=>j==i || !(gB S j&&gB r j)
def apart(S a b:List Bool):Bool:=(List.range S.length).all λi=> !(gB S i&&(gB a i&&gB b i))
def pQ(S:List Bool):List (List Bool):=(allB S.length).filter<|AbC S
def yy(S:List Bool):Nat->List (List<|List Bool)
 |0=>[[]]
 |k+1=>(yy S k).flatMap λrs=>((pQ S).filter λr=>rs.all<|apart S r).map (· ::rs)
def me{S}:∀{rs:List (List Bool)},(∀r∈rs,r∈pQ S)->rs.Pairwise (λa b=>apart S a b=true)->rs∈yy S rs.length
 |[],_,_=>AC.2 rfl
 |r::rs,h,c=>by have⟨d,e⟩:=Cn.1 c;rw[AD,yy,BU];refine⟨rs,me (λr f=>h r<|A3 _ f) e,A5.2 ⟨r,Bj.2 ⟨h r BH,Am.2 d⟩,rfl⟩⟩
def SL(S:List Bool):zN:=(List.range S.length).filter λj=> !gB S j
def kV(S:List Bool):zN:=(List.range S.length).filter λj=>gB S j
def AbR(S:List Bool)(rs:List (List Bool)):Bool:=(WF (rs.map (λr=>r.map bt)++(SL S).map (X4 S.length))<|rs.map (λ_=>((1:Int),(1:Int)))++(SL S).map (λ_=>((0:Int),(1:Int)))).2&&(WF (rs.map (λr=>r.map bt)++(SL S).map (X4 S.length))<|rs.map (λ_=>((1:Int),(1:Int)))++(SL S).map (λ_=>((0:Int),(1:Int)))).1==S.map bt
def tx(n:Nat):Bool:=(allB n).all λS=>(yy S (kV S).length).all<|AbR S
def Alp:tx 1=true:=by kernel_rfl
def Alq:tx 2=true:=by kernel_rfl
def Alr:tx 3=true:=by kernel_rfl
def Als:tx 4=true:=by kernel_rfl
def Aby(a b:List Bool):Bool:=(List.range b.length).any λi=>gB a i&&gB b i
def p6(r S:List Bool):Bool:=(PD (r.map bt)<|S.map bt).2&&(!Aby r S || !decide (wZ (gA (PD (r.map bt)<|S.map bt).1 (1,1) * 1) < 0))
def tryD(n:Nat):Bool:=(allB n).all λr=>(allB n).all<|p6 r
def AjU:tryD 1=true:=by kernel_rfl
def AjV:tryD 2=true:=by kernel_rfl
def AjW:tryD 3=true:=by kernel_rfl
def AjX:tryD 4=true:=by kernel_rfl
def lT{α:Type}(g:Nat->List α):∀(b a fr:Nat),(∀k,fr+a<=k->k < fr+a+b->g k=[])->(List.range' fr<|a+b).flatMap g=(List.range' fr a).flatMap g
 |0,a,fr,_=>rfl
 |b+1,a,fr,h=>by rw[<-DI,List.range'_concat,CK,lT g b a fr (λk c d=>h k c<|by omega)];simp[h (fr+(a+b)) (by omega) (by omega)]
def yf{t r fr}(a:0 < r)(h:t+1<=r+fr):dv t r fr=[]:=by obtain⟨r,rfl⟩:∃q,r=q+1:=⟨r - 1,by omega⟩;rw[dv,show t - r - fr=0 from by omega];rfl
def ye(t r fr:Nat)(h:fr<=t):(List.range' fr<|t - fr).flatMap (λi=>(dv t r<|i+1).map (i:: ·))=dv t (r+1) fr:=by
 rw[dv]
 have:=lT (λi=>(dv t r (i+1)).map (i:: ·)) (t - fr - (t - r - fr)) (t - r - fr) fr (λk b a=>by
  cases r with
  |zero=>omega
  |succ r=>rw[yf (by omega) (by omega)];rfl)
 rw[<-this,show t - r - fr+(t - fr - (t - r - fr))=t - fr from by omega]
def foldl_flat{α β S:Type}(f:S->β->S)(g:α->List β):∀(l:List α) (s:S),(l.flatMap g).foldl f s=l.foldl (λs x=>(g x).foldl f s) s
 |[],_=>rfl
 |x::l,s=>by rw[Ax,Dy,CL,foldl_flat f g l]
def Wa(c:zN):(cI c).length=c.length:=by unfold cI;rw[Aj]
def Acy(c d:zN):cI (c++d)=cI c++cI d:=by unfold cI;rw[Bd]
def AhC{l}(h:l.length<=lim):ED l=some l:=by unfold ED;rw[A1 (by simpa using h),BI]
def l9{p sg c}:∀(l:List zN) (s:Mx),(∀d∈l,(c++d).length<=lim)->Xp s->Xp (l.foldl (λo d=>visit p sg o<|c++d) s)
 |[],_,_,h=>h
 |d::l,s,a,h=>l9 l _ (λd b=>a d<|A3 _ b)<|tD sg (a d BH) h
def Ag1(a:Mx)(f:List Rt->Bool):(List.range a.length).any (λk=>f<|Ni a k)=a.any f:=by
 rw[BX,Cx,Cx];constructor
 ·rintro⟨i,hi,h⟩;rw[AB]at hi;rw[<-O3 hi]at h;exact⟨_,Ad hi,h⟩
 ·rintro⟨x,b,h⟩;obtain⟨i,hi,rfl⟩:=F0 b;rw[O3 hi]at h;exact⟨i,AB.2 hi,h⟩
section
variable {p:LP}{R:Mx}{rt:List Rt}
def AhR(t:XN p=true)(i:R.length=p.2.1.length+p.2.2.length)(d:rt.length=p.2.1.length+p.2.2.length)(l:∀j,j < p.2.1.length+p.2.2.length->Ni R j=rowAt p j)(m:∀j,j < p.2.1.length+p.2.2.length->atR rt j=I2 p j)
  {c:zN}(u:c.length<=5) (f:∀e∈c,e < p.2.1.length+p.2.2.length):Ap (Pd (cI c) R rt) fz ([],[],0)=some (c.map<|rowAt p,c.map<|I2 p):=by
 have h:c.length<=lim:=by unfold lim;omega
 have q:=Pm (B:=Pd (cI c) R rt) (n:=c.length) (O:=Unit) (λ(s:Mx×List Rt) k=>(s.1,s.2,(k:Int))) (λk s=>s.1.length=k∧s.2.length=k) (λk s=>.inl (s.1++[rowAt p (c.getD k 0)],s.2++[I2 p (c.getD k 0)])) (λo=>match o with|.inl s=>s|.inr _=>([],[])) h (λrec k s a hi=>by
  have g:c.getD k 0=c[k]:=by rw[AO,Ae a];rfl
  have b:=f c[k]<|Ad a;show cond (decide ((k:Int) < ((cI c).length:Int))) _ _=_;rw[Wa,Bi a,Ac,AI (show k < (cI c).length by rw[Wa];exact a)];simp only[G];rw[show(cI c)[k]'(by rw[Wa];exact a)=((c[k]:Nat):Int)from by unfold cI;rw[BL],g,Yi (by rw[i];exact b)];simp only[G];rw[A1 (by rw[hi.1];simp;unfold lim;omega),MN (by rw[d];exact b)];simp only[G];rw[A1 (by rw[hi.2];simp;unfold lim;omega),l _ b,m _ b,Bm a (Ba h)]) (λrec s hi=>by
  show cond (decide ((c.length:Int) < ((cI c).length:Int))) _ _=_;rw[Wa,Bc];rfl) (λk s v a hi r=>by cases r;exact⟨by simp[hi.1],by simp[hi.2]⟩) ([],[]) ⟨rfl,rfl⟩
 rw[show(([]:Mx),([]:List Rt),(0:Int))=((([],[]):Mx×List Rt).1,(([],[]):Mx×List Rt).2,((0:Nat):Int))from rfl,q,aV];simp only[BI];rw[getD_map 0 (rowAt p) c,getD_map 0 (I2 p) c]
def yG{out v}(h:out.length<=lim)(b:v.1.length<=lim):Ap (SY out v) fz 0=some (cond (out.any (· ==v.1)) (.inr out)<|.inl ()):=by
 rw[QY (n:=out.length) (λk=>v.1==Ni out k) out h (λk a c=>by
  show cond (decide ((k:Int) < (out.length:Int))) _ _=_;rw[Bi a,Ac,Yi a];simp only[G];rw[AhH b];simp only[G];rw[Bm a (Ba h)]) (λrec=>by
  show cond (decide ((out.length:Int) < (out.length:Int))) _ _=_;rw[Bc];rfl)]
 rw[Ag1 out (λx=>v.1==x),show(λx=>v.1==x)=(λx=>x==v.1)from by funext x;rw[BX,BG,BG];exact eq_comm]
def ml{sg}(hv:XN p=true)(hR:R.length=p.2.1.length+p.2.2.length)(hrt:rt.length=p.2.1.length+p.2.2.length)(hA:∀j,j < p.2.1.length+p.2.2.length->Ni R j=rowAt p j)(hB:∀j,j < p.2.1.length+p.2.2.length->atR rt j=I2 p j):
  ∀(r:Nat) (c:zN) (fr f:Nat) (out:Mx),c.length+r=p.2.2.length->fr<=p.2.1.length+p.2.2.length->(∀e∈c,e < p.2.1.length+p.2.2.length)->r < f->out.length+11 ^ r<=lim->Xp out->
  Ap FW f ((fr:Int),cI c,(p.2.2.length:Int),R,rt,p,sg,out)=some ((dv (p.2.1.length+p.2.2.length) r fr).foldl (λo d=>visit p sg o<|c++d) out)
 |0,c,fr,f,out,hc,hfr,hin,hf,ho,hol=>by
  obtain⟨f,rfl⟩:∃g,f=g+1:=⟨f - 1,by omega⟩;have⟨h1,h2,h3,h4,h5,h6⟩:=S5 hv;have hsm:tj p:=⟨by rw[h5];unfold lim;omega,by unfold lim;omega,by unfold lim;omega⟩;have hcl:c.length<=lim:=by unfold lim;omega
  rw[CM];show cond (decide (((cI c).length:Int) < (p.2.2.length:Int))) _ _=_;rw[Wa,show c.length=p.2.2.length from by omega,Bc,Ab,AhR hv hR hrt hA hB (by omega) hin];simp only[G];rw[AhP (by rw[Aj];exact hcl)];simp only[G];rw[dv,CL,Hy,AR];unfold visit;cases(WF (c.map<|rowAt p)<|c.map<|I2 p).2 with
  |false=>rfl
  |true=>
   have hxl:=rx (a:=c.map<|rowAt p) (b:=c.map<|I2 p) (by rw[Aj];exact hcl);rw[An,Ab,Ac,Adc hsm hxl];simp only[G];cases VU p (WF (c.map<|rowAt p)<|c.map<|I2 p).1 sg with
   |false=>rfl
   |true=>
    rw[An,Ab,Ac,yG (by omega) hxl];simp only[G];cases out.any (· ==(WF (c.map<|rowAt p)<|c.map<|I2 p).1)with
    |true=>rfl
    |false=>simp only[Ab];rw[A1 (by simpa using ho)]
 |r+1,c,fr,f,out,hc,hfr,hin,hf,ho,hol=>by
  obtain⟨f,rfl⟩:∃g,f=g+1:=⟨f - 1,by omega⟩;have⟨h1,h2,h3,h4,h5,h6⟩:=S5 hv;have hpw:11 ^ (r+1)=11 ^ r * 11:=Nx ..;have hNm:p.2.1.length+p.2.2.length<=maxLen:=by unfold maxLen;omega
  rw[CM];show cond (decide (((cI c).length:Int) < (p.2.2.length:Int))) (G (Ap (Pc (cI c) (p.2.2.length:Int) R rt p sg<|Ap FW f) fz (out,(fr:Int))) λz4=>some z4) _=_;rw[Wa,Bi (show c.length < p.2.2.length by omega),Ac]
  have hl:=aW (B:=Pc (cI c) (p.2.2.length:Int) R rt p sg<|Ap FW f) (n:=p.2.1.length+p.2.2.length) (O:=Unit) (λ(s:Mx) k=>(s,(k:Int))) (λk s=>fr<=k∧s.length<=out.length+(k - fr) * 11 ^ r∧Xp s) (λk s=>.inl<|(dv (p.2.1.length+p.2.2.length) r<|k+1).foldl (λo d=>visit p sg o<|c++(k::d)) s) (λo=>match o with|.inl s=>s|.inr _=>[])
   (λrec k s hk hi=>by
    have hkm:(k - fr) * 11 ^ r<=10 * 11 ^ r:=Cy _ (by omega);show cond (decide ((k:Int) < (R.length:Int))) _ _=_;rw[hR,Bi hk,Ac,AhC (by rw[Wa];unfold lim;omega)];simp only[G]
    rw[A1 (by rw[Wa];simp;unfold lim;omega),Bm hk hNm,show cI c++[(k:Int)]=cI (c++[k])from by rw[Acy];rfl,ml hv hR hrt hA hB r (c++[k]) (k+1) f s (by rw[Au];simp;omega) (by omega) (λe he=>by
     rcases Ak.1 he with he|he
     ·exact hin e he
     ·rw[AC]at he;subst he;exact hk) (by omega) (by omega) hi.2.2]
    simp only[G,Bk,Gy])
   (λrec s hi=>by show cond (decide (((p.2.1.length+p.2.2.length:Nat):Int) < (R.length:Int))) _ _=_;rw[hR,Bc];rfl)
   (λk s s' hk hi hs=>by
    cases hs;refine⟨by omega,?_,?_⟩
    ·have h1:=ai (f:=λo d=>visit p sg o<|c++(k::d)) (λs x=>jd p sg s _) (dv (p.2.1.length+p.2.2.length) r<|k+1) s;have h2:=jC (t:=p.2.1.length+p.2.2.length) (by omega) r<|k+1;rw[show k+1 - fr=(k - fr)+1 from by omega,GZ];have:=hi.2.1;refine BC h1 ?_;omega
    ·have:=l9 (p:=p) (sg:=sg) (c:=c++[k]) (dv (p.2.1.length+p.2.2.length) r (k+1)) s (λd hd=>by rw[Au,Au,(uk hd).1];simp;unfold lim;omega) hi.2.2;simpa only[Bk,Gy]using this) (p.2.1.length+p.2.2.length - fr) fr out fz (by omega) (by unfold fz;omega) ⟨AJ _,by simp,hol⟩
  rw[hl,fv (λs k=>(dv (p.2.1.length+p.2.2.length) r<|k+1).foldl (λo d=>visit p sg o<|c++(k::d)) s)];simp only[G];rw[<-ye _ r fr hfr,foldl_flat];simp only[List.foldl_map]
end
def tC{p}{i:Nat}(hi:i < p.2.2.length)(h:p.2.2.length<=lim):Ap (Q6 p (i:Int)) fz ([],0)=some (X4 p.2.2.length i):=by
 have c:=Pm (B:=Q6 p (i:Int)) (n:=p.2.2.length) (O:=Unit) (λ(s:List Rt) k=>(s,(k:Int))) (λk s=>s.length=k) (λk s=>.inl (s++[(if i=k then(1:Int)else 0,(1:Int))])) (λo=>match o with|.inl s=>s|.inr _=>[]) h (λrec k s a b=>by
  show cond (decide ((k:Int) < (p.2.2.length:Int))) _ _=_;rw[Bi a,Ac,show((i:Int)==(k:Int))=decide (i=k)from by rw[BX,BG,decide_eq_true_iff];omega];unfold Wp;by_cases e:i=k
  ·rw[Ai e,Aw e,Ac];simp only[G];rw[A1 (by rw[b];simp;unfold lim at h⊢;omega),Bm a (Ba h)]
  ·rw[Af e,Ay e,Ab];simp only[G];rw[A1 (by rw[b];simp;unfold lim at h⊢;omega),Bm a (Ba h)]) (λrec s _=>by
  show cond (decide ((p.2.2.length:Int) < (p.2.2.length:Int))) _ _=_;rw[Bc];rfl) (λk s d a hi b=>by cases b;simp[hi]) [] rfl
 rw[show((0:Nat):Int)=0 from rfl]at c;rw[c,nk];simp only[BI];congr 1;unfold X4;apply Di
 ·simp
 ·intro k f g;rw[BL,JR,DQ];simp only[CH,FD,List.getElem_replicate];split<;>rfl
def u9{p sg}(h:XN p=true):Rq p sg=some (Ys p sg):=by
 have⟨q,l,r,t,a,u⟩:=S5 h;have f:p.2.2.length<=lim:=by unfold lim;omega
 unfold Rq;rw[A1 (by rw[a];simp;unfold lim;omega)];unfold JD;rw[A1 (by simp;unfold lim;omega),BI,BI];simp only[G]
 have d:=Pm (B:=UG p) (n:=p.2.2.length) (O:=Unit) (λ(s:Mx×List Rt) k=>(s.1,s.2,(k:Int))) (λk s=>s.1.length=p.2.1.length+k∧s.2.length=p.2.1.length+k) (λk s=>.inl (s.1++[X4 p.2.2.length k],s.2++[((0:Int),(1:Int))])) (λo=>match o with|.inl s=>s|.inr _=>([],[])) f (λrec k s e hi=>by
  show cond (decide ((k:Int) < (p.2.2.length:Int))) _ _=_;rw[Bi e,Ac,tC e f];simp only[G];rw[A1 (by rw[hi.1];simp;unfold lim;omega),A1 (by rw[hi.2];simp;unfold lim;omega),Bm e (Ba f)]) (λrec s hi=>by
  show cond (decide ((p.2.2.length:Int) < (p.2.2.length:Int))) _ _=_;rw[Bc];rfl) (λk s v e hi m=>by cases m;exact⟨by simp[hi.1];omega,by simp[hi.2];omega⟩) (p.1,p.2.1) ⟨a,rfl⟩
 rw[show((0:Nat):Int)=0 from rfl]at d;rw[d,aV (λk=>X4 p.2.2.length k) (λ_=>((0:Int),(1:Int)))];simp only;unfold R5;have i:(p.1++(List.range' 0 p.2.2.length).map λk=>X4 p.2.2.length k).length=p.2.1.length+p.2.2.length:=by simp[a]
 have b:(p.2.1++(List.range' 0 p.2.2.length).map λ_=>((0:Int),(1:Int))).length=p.2.1.length+p.2.2.length:=by simp
 have j:=ml (p:=p) (R:=p.1++(List.range' 0 p.2.2.length).map λk=>X4 p.2.2.length k) (rt:=p.2.1++(List.range' 0 p.2.2.length).map λ_=>((0:Int),(1:Int))) (sg:=sg) h i b (λj g=>by
  rw[<-O3 (by rw[i];exact g)];unfold rowAt;split
  ·rename_i c;rw[Dn (by rw[a];exact c),O3]
  ·rename_i c;rw[E9 (by rw[a];omega),BL,JR];simp[a]) (λj g=>by
  rw[<-QR (by rw[b];exact g)];unfold I2;split
  ·rename_i c;rw[Dn c,QR]
  ·rename_i c;rw[E9 (by omega),BL]) p.2.2.length [] 0 fz [] (by simp) (by omega) (by simp) (by unfold fz;omega) (by have:=AbG l;simp;unfold lim;omega) (λr d=>by simp at d)
 rw[show((0:Nat):Int)=0 from rfl,show cI []=[]from rfl]at j;rw[j];simp only[BI];rfl
def Wf(q:Jz)(v:Int):List Rt:=q.2.1.map λa=>(cond (a.2.contains v) 1 0,1)
def Xo{q}(h:JZ q=true):1<=q.1∧q.1<=5∧1<=q.2.1.length∧q.2.1.length<=4:=by unfold JZ at h;simp only[Aa,TG]at h;omega
section
variable {q:Jz}
def yF(b:Th q)(v:Int):Ap (R1 q v) fz ([],0)=some (Wf q v):=by
 rw[lr (B:=R1 q v) (l:=q.2.1) (s0:=[]) (h:=λa=>(cond (a.2.contains v) 1 0,1)) (by simpa using b.1) (λk c s f d=>by
  show cond (decide ((k:Int) < (q.2.1.length:Int))) _ _=_;rw[Bi c,Ac,AI c];simp only[G];rw[mm (b.2.1 _<|Ad c).2];simp only[G];unfold Wp;have e:=b.1;cases(q.2.1[k]).2.contains v with
  |true=>rw[Ac];simp only[G];rw[A1 (by rw[d];simp;unfold lim at e⊢;omega),Bm c (Ba b.1)];rfl
  |false=>rw[Ab];simp only[G];rw[A1 (by rw[d];simp;unfold lim at e⊢;omega),Bm c (Ba b.1)];rfl) (λrec s=>by
  show cond (decide ((q.2.1.length:Int) < (q.2.1.length:Int))) _ _=_;rw[Bc];rfl),BI]
 rfl
def Ac7(a:Th q):Ap (R2 q) fz ([],0)=some (q.2.1.map λ_=>(1,1)):=by
 rw[lr (B:=R2 q) (l:=q.2.1) (s0:=[]) (h:=λ_=>(1,1)) (by simpa using a.1) (λk b s c d=>by
  have e:=a.1;show cond (decide ((k:Int) < (q.2.1.length:Int))) _ _=_;rw[Bi b,Ac,A1 (by rw[d];simp;unfold lim at e⊢;omega),Bm b (Ba a.1)]) (λrec s=>by
  show cond (decide ((q.2.1.length:Int) < (q.2.1.length:Int))) _ _=_;rw[Bc];rfl),BI]
end
section
variable {s:zI}{a b:List Rt}
end
def dR{S i}:gB S i=true->i < S.length:=λh=>by
 refine BO λhc=>?_
 unfold gB at h;rw[AO,Bu (by omega)]at h;cases h
def uS{S i j}(h:i < S.length):gB (S.set i false) j=(if i=j then false else gB S j):=by
 unfold gB;rw[AO,Ha,AO];split
 ·first|rfl|(rename_i e;subst e;rw[Aw h];rfl)
 ·rfl
def fC:∀{S:List Bool}{i:Nat},gB S i=true->((S.set i false).filter id).length < (S.filter id).length
 |[],i,h=>by simp[gB]at h
 |b::S,0,h=>by have:b=true:=h;subst this;simp
 |b::S,i+1,h=>by have:=fC (S:=S) (i:=i) h;cases b<;>simp[List.set_cons_succ]<;>simpa using this
def bw{P:List Bool->Prop}{n:Nat}:∀(k:Nat) (S:List Bool),(S.filter id).length<=k->S.length=n->P S->∃S:List Bool,S.length=n∧P S∧∀i,gB S i=true->¬P (S.set i false)
 |0,S,c,a,b=>⟨S,a,b,λi hi _=>by have:=fC hi;omega⟩
 |k+1,S,c,a,b=>by
  by_cases h:∃i,gB S i=true∧P (S.set i false)
  ·obtain⟨i,d,e⟩:=h;have:=fC d;exact bw k (S.set i false) (by omega) (by rw[Ch];exact a) e
  ·exact⟨S,a,b,λi hi f=>h ⟨i,hi,f⟩⟩
def ly{t}:∀{c:zN}{i:Nat},(i::c).Pairwise (· < ·)->(∀e∈i::c,e < t)->i+c.length < t
 |[],i,_,h=>by have:=h i BH;simpa using this
 |d::c,i,a,h=>by
  have⟨b,f⟩:=Cn.1 a;have:=ly f λe g=>h e<|A3 _ g
  have:=b d BH;rw[AD];omega
def pT{t}:∀{c:zN}{fr:Nat},c.Pairwise (· < ·)->(∀e∈c,fr<=e∧e < t)->c∈dv t c.length fr
 |[],_,_,_=>AC.2 rfl
 |i::c,fr,b,h=>by
  have⟨d,f⟩:=Cn.1 b;have g:=ly b λe a=>(h e a).2
  have hi:=h i BH;rw[AD,dv,BU];refine⟨i,List.mem_range'_1.2 ⟨hi.1,by omega⟩,A5.2 ⟨c,pT f λe a=>⟨d e a,(h e<|A3 _ a).2⟩,rfl⟩⟩
def iy{α:Type}(f:α->Bool):∀l:List α,(l.filter f).length+(l.filter λx=> !f x).length=l.length
 |[]=>rfl
 |x::l=>by have:=iy f l;cases a:f x<;>simp[a]<;>omega
def uc(b:Bool):Pk (bt b)=true∧0<=(bt b).1:=by cases b<;>decide
section
variable {q:Jz}
def bits(q:Jz)(v:Nat):List Bool:=q.2.1.map λa=>a.2.contains (v:Int)
def yj(v:Nat):Wf q (v:Int)=(bits q v).map bt:=by unfold Wf bits bt;rw[EU];rfl
def tX(v:Nat):(bits q v).length=q.2.1.length:=by unfold bits;rw[Aj]
def wj:Pk ((1:Int),(1:Int))=true:=by decide
def Acr{v i:Nat}(h:i < q.2.1.length):gB (bits q v) i=(q.2.1[i]).2.contains (v:Int):=by unfold gB bits;rw[AO,BP,Ae h];rfl
def k9{n}(a:1<=n)(b:n<=4):tx n=true∧tryD n=true:=by
 have:n=1∨n=2∨n=3∨n=4:=by omega
 rcases this with rfl|rfl|rfl|rfl
 ·exact⟨Alp,AjU⟩
 ·exact⟨Alq,AjV⟩
 ·exact⟨Alr,AjW⟩
 ·exact⟨Als,AjX⟩
end
def VW(q:Jz)(B:zN):LP:=(B.map λ(v:Nat)=>Wf q (v:Int),B.map<|λ_=>(1,1),q.2.1.map λ_=>(1,1))
def SmG(q:Jz)(B:zN):Prop:=1<=B.length∧B.length<=5∧∀v∈B,v < q.1.toNat
def xF{p sg out c x}(h:x∈out):x∈visit p sg out c:=by
 unfold visit;cases(WF (c.map<|rowAt p)<|c.map<|I2 p).2 with
 |false=>exact h
 |true=>
  cases VU p (WF (c.map<|rowAt p)<|c.map<|I2 p).1 sg with
  |false=>exact h
  |true=>
   cases out.any (· ==(WF (c.map<|rowAt p)<|c.map<|I2 p).1)with
   |true=>exact h
   |false=>exact AF _ h
def ma{p sg x}:∀(l:List zN) (out:Mx),x∈out->x∈l.foldl (visit p sg) out
 |[],_,h=>h
 |c::l,out,h=>ma l _<|xF h
def ii{p sg c}(a:(WF (c.map<|rowAt p)<|c.map<|I2 p).2=true)(b:VU p (WF (c.map<|rowAt p)<|c.map<|I2 p).1 sg=true):∀(l:List zN) (out:Mx),c∈l->(WF (c.map<|rowAt p)<|c.map<|I2 p).1∈l.foldl (visit p sg) out
 |d::l,out,h=>by
  rw[CL];rcases AE.1 h with rfl|h
  ·refine ma l _ ?_;unfold visit;rw[a,b,Ac,Ac];cases f:out.any (· ==(WF (c.map<|rowAt p)<|c.map<|I2 p).1)with
   |true=>have⟨y,g,e⟩:=Cx.1 f;rw[BG]at e;rw[<-e];exact g
   |false=>exact Az _<|AC.2 rfl
  ·exact ii a b l _ h
section
variable {q:Jz}{B:zN}
def Uy(q:Jz)(B:zN)(k:Nat):List Bool:=bits q<|B.getD k 0
def dk(v:Nat):(Uy q B v).length=q.2.1.length:=tX _
def Acp{v i}(h:i < q.2.1.length):gB (Uy q B v) i=(q.2.1[i]).2.contains ((B.getD v 0:Nat):Int):=Acr h
def Oh:(VW q B).2.1.length=B.length∧(VW q B).2.2.length=q.2.1.length∧(VW q B).1.length=B.length:=by unfold VW;simp
def nZ{v}(h:v < B.length):Ni (VW q B).1 v=(Uy q B v).map bt:=by rw[<-O3 (by rw[Oh.2.2];exact h)];unfold Uy;rw[<-yj,AO,Ae h];unfold VW;simp only[BL,B8]
def AaZ(e:JZ q=true)(d:SmG q B):XN (VW q B)=true:=by
 have⟨h,j,k,l⟩:=Xo e;have f:=d.1;have g:=d.2.1;unfold XN;rw[Oh.1,Oh.2.1,Oh.2.2];simp only[Aa,TG,BG];refine⟨by omega,by omega,trivial,?_,?_,?_⟩
 ·rw[Am];intro r a;obtain⟨i,hi,rfl⟩:=F0 a;have c:i < B.length:=by rw[Oh.2.2]at hi;exact hi
  rw[O3 hi,nZ c];unfold rowOk;rw[Aj,dk,Dj,AL,Lx,Am];exactλb _=>(uc b).1
 ·rw[Am];intro r a;unfold VW at a;obtain⟨_,_,rfl⟩:=A5.1 a;exact wj
 ·rw[Am];intro r a;unfold VW at a;obtain⟨_,_,rfl⟩:=A5.1 a;exact wj
def AbY(q:Jz)(B:zN)(S:List Bool):Prop:=∀v,v < B.length->∃i,gB (Uy q B v) i=true∧gB S i=true
def uR(e:JZ q=true)(f:SmG q B):AbY q B (List.replicate q.2.1.length true):=λv c=>by
 have b:=e;unfold JZ at b;simp only[Aa,AH]at b;have d:B.getD v 0 < q.1.toNat:=by rw[AO,Ae c];exact f.2.2 _<|Ad c
 have b:=Cz.1 b.2.2.2.2 (B.getD v 0)<|AB.2 d;have b:KV q.2.1 ((B.getD v 0:Nat):Int)=true:=by simpa using b
 unfold KV at b;have⟨a,g,h⟩:=Cx.1 b;obtain⟨i,hi,rfl⟩:=F0 g;refine⟨i,by rw[Acp hi];exact h,?_⟩;unfold gB;rw[AO,JX,Aw hi];rfl
def xg(hv:JZ q=true)(hs:SmG q B){S:List Bool}(hl:S.length=q.2.1.length)(hc:AbY q B S):VU (VW q B) (S.map bt) 1=true:=by
 have⟨h1,h2,h3,h4⟩:=Xo hv;have hD:=(k9 h3 h4).2;have hdot:∀v,v < B.length->p6 (Uy q B v) S=true:=λv _=>by unfold tryD at hD;have ha:=Am.1 hD (Uy q B v) (by have:=SF<|Uy q B v;rwa [dk]at this);exact Am.1 ha S (by have:=SF S;rwa [hl]at this)
 have hdo:∀v,v < B.length->(PD (Ni (VW q B).1 v)<|S.map bt).2=true∧decide (wZ (gA (PD (Ni (VW q B).1 v)<|S.map bt).1 (1,1) * 1) < 0)=false:=λv hvn=>by have hd:=hdot v hvn;unfold p6 at hd;rw[Aa,Ck,AH,AH]at hd;rw[nZ hvn];refine⟨hd.1,hd.2.resolve_left λhm=>?_⟩;have⟨i,g1,g2⟩:=hc v hvn;unfold Aby at hm;have:=Cz.1 hm i<|AB.2<|dR g2;rw[g1,g2]at this;exact this rfl
 have hmv:iE (VW q B).1 (S.map bt)=((List.range' 0 B.length).map<|λv=>(PD (Ni (VW q B).1 v)<|S.map bt).1,true):=by unfold iE;rw[Oh.2.2,eG (h:=λv=>(PD (Ni (VW q B).1 v) (S.map bt)).1) B.length 0 (λi _ hi=>by unfold mvG;rw[(hdo i (by omega)).1];rfl)]
 unfold VU;rw[AaZ hv hs,AL,Aj,hl,Oh.2.1,Dj,AL,hmv,AL,Lx];rw[Aa,AH];refine⟨Am.2 λb _=>?_,Cz.2 λv hvn=>?_⟩
 ·show(Pk (bt b)&&decide (0<=(bt b).1))=true;rw[(uc b).1,Ai (uc b).2];rfl
 ·simp only[Aj,Kt,AB]at hvn;unfold rq;rw[hmv];have e1:atR ((List.range' 0 B.length).map λv=>(PD (Ni (VW q B).1 v)<|S.map bt).1) v=(PD (Ni (VW q B).1 v)<|S.map bt).1:=by rw[<-QR (by rw[Aj,Kt];exact hvn),BL,JR];simp
  have e2:atR (VW q B).2.1 v=(1,1):=by rw[<-QR (by rw[Oh.1];exact hvn)];unfold VW;simp
  simp only;rw[e1,e2,(hdo v hvn).2];simp
def Acl(Y:JZ q=true)(hs:SmG q B):∃S:List Bool,S.length=q.2.1.length∧S.map bt∈Ys (VW q B) 1:=by
 obtain⟨h1,h2,h3,h4⟩:=Xo Y;unfold Ys;rw[Oh.1,Oh.2.1];obtain⟨S,J,hc,K⟩:=bw (P:=AbY q B) (n:=q.2.1.length) _ (List.replicate q.2.1.length true) (AJ _) (by simp)<|uR Y hs
 have L:∀i,gB S i=true->∃v,v < B.length∧gB (Uy q B v) i=true∧∀j,gB S j=true->gB (Uy q B v) j=true->j=i:=λi hi=>by
  have hn:=K i hi;refine BO λhcon=>hn λv M=>?_
  obtain⟨j,g1,g2⟩:=hc v M;by_cases N:j=i
  ·subst N;refine BO λhno=>hcon ⟨v,M,g1,λk k1 k2=>BO λhki=>hno ⟨k,k2,?_⟩⟩
   rw[uS (dR hi),Ay (λh=>hki h.symm)];exact k1
  ·exact⟨j,g1,by rw[uS (dR hi),Ay (λh=>N h.symm)];exact g2⟩
 obtain⟨f,y⟩:∃f:Nat->Nat,∀i,gB S i=true->f i < B.length∧gB (Uy q B<|f i) i=true∧∀j,gB S j=true->gB (Uy q B<|f i) j=true->j=i:=
  ⟨λi=>if h:gB S i=true then Classical.choose (L i h)else 0,λi hi=>by simp only[dif_pos hi];exact Classical.choose_spec (L i hi)⟩
 have O:∀i j,gB S i=true->gB S j=true->f i=f j->i=j:=λi j hi m e=>(y j m).2.2 i hi (by rw[<-e];exact(y i hi).2.1)
 have l:∀i,i∈kV S↔gB S i=true:=λi=>by unfold kV;rw[Bj,AB];exact⟨λh=>h.2,λh=>⟨dR h,h⟩⟩
 have Z:((kV S).map f).Nodup:=by unfold List.Nodup;rw[Es];have:(kV S).Pairwise (· ≠ ·):=FG _ Ed;exact List.Pairwise.imp_of_mem (λ{a b} Q R hne e=>hne<|O a b ((l a).1 Q) ((l b).1 R) e) this
 let vs:=(List.range B.length).filter λv=>((kV S).map f).contains v
 have o:∀v,v∈vs↔∃i,gB S i=true∧f i=v:=λv=>by
  show v∈(List.range B.length).filter _↔_;rw[Bj,AB,Av,A5];constructor
  ·rintro⟨_,i,hi,e⟩;exact⟨i,(l i).1 hi,e⟩
  ·rintro⟨i,hi,e⟩;exact⟨by rw[<-e];exact(y i hi).1,i,(l i).2 hi,e⟩
 have T:vs.length=(kV S).length:=by
  have hp:vs.Perm ((kV S).map f):=(List.perm_ext_iff_of_nodup (FG _ Ed) Z).2 λv=>by rw[o,A5];exact⟨λ⟨i,hi,e⟩=>⟨i,(l i).2 hi,e⟩,λ⟨i,hi,e⟩=>⟨i,(l i).1 hi,e⟩⟩
  rw[hp.length_eq,Aj]
 have g:∀v∈vs,v < B.length:=λv d=>by obtain⟨i,hi,e⟩:=(o v).1 d;rw[<-e];exact(y i hi).1
 have s:vs.Pairwise (· < ·):=FG _ KM;have D:(SL S).Pairwise (· < ·):=FG _ KM;have U:∀j∈SL S,j < q.2.1.length:=λj m=>by unfold SL at m;rw[Bj,AB]at m;rw[<-J];exact m.1
 have W:(vs++(SL S).map (B.length+ ·)).length=q.2.1.length:=by rw[Au,Aj,T];have:=iy (λj=>gB S j)<|List.range S.length;rw[C9]at this;unfold kV SL;omega
 have X:(vs++(SL S).map (B.length+ ·)).Pairwise (· < ·):=by
  rw[GX];refine⟨s,?_,λv d e F=>?_⟩
  ·rw[Es];exact K5 (λh=>by omega) D
  ·obtain⟨j,_,rfl⟩:=A5.1 F;have:=g v d;omega
 have z:=pT (t:=B.length+q.2.1.length) (fr:=0) X (λe F=>by
  rcases Ak.1 F with F|F
  ·have:=g e F;omega
  ·obtain⟨j,m,rfl⟩:=A5.1 F;have:=U j m;omega)
 rw[W]at z
 have u:(vs++(SL S).map (B.length+ ·)).map (rowAt<|VW q B)=(vs.map<|Uy q B).map (λr=>r.map bt)++(SL S).map (X4 S.length):=by
  rw[Bd,EU,EU];congr 1
  ·refine Cf λv d=>?_
   unfold rowAt;rw[Oh.1,Aw (g v d),nZ (g v d)];rfl
  ·refine Cf λj _=>?_
   simp only[Function.comp];unfold rowAt;rw[Oh.1,Oh.2.1,Ay (by omega),CU,J]
 have w:(vs++(SL S).map (B.length+ ·)).map (I2<|VW q B)=(vs.map<|Uy q B).map (λ_=>((1:Int),(1:Int)))++(SL S).map (λ_=>((0:Int),(1:Int))):=by
  rw[Bd,EU,EU];congr 1
  ·refine Cf λv d=>?_
   unfold I2;rw[Oh.1,Aw (g v d),<-QR (by rw[Oh.1];exact g v d)];unfold VW;simp
  ·refine Cf λj _=>?_
   simp only[Function.comp];unfold I2;rw[Oh.1,Ay (by omega)]
 have H:∀r∈vs.map (Uy q B),r∈pQ S:=λr hr=>by
  obtain⟨v,d,rfl⟩:=A5.1 hr;obtain⟨i,hi,e⟩:=(o v).1 d;subst e;unfold pQ;rw[Bj];refine⟨by have:=SF<|Uy q B<|f i;rwa [dk,<-J]at this,?_⟩;unfold AbC;refine Cx.2 ⟨i,AB.2<|dR hi,?_⟩;rw[hi,(y i hi).2.1,Eu,AL,Am];intro j _;rw[Ck,BG,AH];by_cases m:j=i
  ·exact .inl m
  ·refine .inr ?_;cases Q:gB S j with
   |false=>rfl
   |true=>
    cases R:gB (Uy q B<|f i) j with
    |false=>rfl
    |true=>exact absurd ((y i hi).2.2 j Q R) m
 have I:(vs.map<|Uy q B).Pairwise (λa b=>apart S a b=true):=by
  rw[Es];refine List.Pairwise.imp_of_mem (λ{a b} Q R hlt=>?_) s;obtain⟨i,hi,ei⟩:=(o a).1 Q;obtain⟨j,m,ej⟩:=(o b).1 R;unfold apart;rw[Am];intro k _;rw[AH];cases hk:gB S k with
  |false=>rfl
  |true=>
   cases hka:gB (Uy q B a) k with
   |false=>rfl
   |true=>
    cases hkb:gB (Uy q B b) k with
    |false=>rfl
    |true=>exfalso;subst ei ej;have e1:=(y i hi).2.2 k hk hka;have e2:=(y j m).2.2 k hk hkb;subst e1;subst e2;omega
 have A:=me H I;rw[Aj,T]at A;have hS:=(k9 h3 h4).1;unfold tx at hS;have x:=Am.1 (Am.1 hS S (by have:=SF S;rwa [J]at this)) _ A;unfold AbR at x;rw[Aa,BG]at x;refine⟨S,J,?_⟩;have C:=ii (p:=VW q B) (sg:=1) (c:=vs++(SL S).map (B.length+ ·)) (by rw[u,w];exact x.1) (by rw[u,w,x.2];exact xg Y hs J hc) _ [] z;rw[u,w,x.2]at C;exact C
end
def mnS(c:List Rt)(st:List Rt×Rt×Bool)(x:List Rt):List Rt×Rt×Bool:=cond ((PD c x).2&&(!st.2.2 || decide (wZ (gA (PD c x).1 st.2.1 * 1) < 0))) (x,(PD c x).1,true) st
def mnB(p:LP):List Rt×Rt×Bool:=(Ys p 1).foldl (mnS p.2.2) ([],(0,0),false)
def sF(p:LP):List Rt×Rt×Bool:=cond (XN p&&p.2.2.all λr=>decide (0<=r.1)) (mnB p) ([],(0,0),false)
def nnR(r:Rt):Prop:=Pk r=true∧0<=r.1
def rj{n d}(f:0<=n)(g:0<=d)(h:(rNew n d).2=true):nnR (rNew n d).1:=by
 unfold rNew at h⊢;cases a:d==0 with
 |true=>rw[a]at h;cases h
 |false=>
  rw[a]at h;cases b:Hv n (-4000000000000000000) 4000000000000000000 with
  |false=>rw[b]at h;cases h
  |true=>
   rw[b]at h;cases c:Hv d (-4000000000000000000) 4000000000000000000 with
   |false=>rw[c]at h;cases h
   |true=>
    rw[c]at h;rw[Af (by omega:¬d < 0)]at h⊢;simp only[Ab,Ac]at h⊢;unfold pi at h⊢;cases e:Pk (n.tdiv (Nat.gcd n.natAbs d.natAbs:Nat),d.tdiv (Nat.gcd n.natAbs d.natAbs:Nat))with
    |false=>rw[e]at h;cases h
    |true=>exact⟨e,Int.tdiv_nonneg f<|Int.natCast_nonneg _⟩
def Aaa{a b}(e:0<=a.1)(f:0<=b.1)(h:(Qh a b).2=true):nnR (Qh a b).1:=by
 unfold Qh at h⊢;cases c:Pk a with
 |false=>rw[c]at h;cases h
 |true=>
  cases d:Pk b with
  |false=>rw[c,d]at h;cases h
  |true=>rw[c,d]at h;have g:=MJ c;have i:=MJ d;exact rj (Lw e f) (Lw (by omega)<|by omega) h
def zY{a b}(e:0<=a.1)(f:0<=b.1)(h:(b9 a b).2=true):nnR (b9 a b).1:=by
 unfold b9 at h⊢;cases c:Pk a with
 |false=>rw[c]at h;cases h
 |true=>
  cases d:Pk b with
  |false=>rw[c,d]at h;cases h
  |true=>rw[c,d]at h;have g:=MJ c;have i:=MJ d;exact rj (Int.add_nonneg (Lw e<|by omega)<|Lw f<|by omega) (Lw (by omega)<|by omega) h
def tP{a}(h:∀r∈a,0<=r.1)(k:Nat):0<=(atR a k).1:=by
 unfold atR;rw[AO];cases b:a[k]? with
 |none=>exact HN 0
 |some r=>exact h r<|B3 b
def wR{a b}(f:∀r∈a,0<=r.1)(g:∀r∈b,0<=r.1):∀(j k:Nat) (x y:Rt),nnR x->Tf (jM a b) j k x=.inl y->nnR y
 |0,k,x,y,d,h=>by cases h;exact d
 |j+1,k,x,y,d,h=>by
  rw[Tf]at h;unfold jM at h;cases c:(Qh (atR a k)<|atR b k).2 with
  |false=>rw[c]at h;cases h
  |true=>
   have i:=Aaa (tP f k) (tP g k) c;cases e:(b9 x (Qh (atR a k)<|atR b k).1).2 with
   |false=>rw[c,e]at h;cases h
   |true=>rw[c,e]at h;exact wR f g j (k+1) _ y (zY d.2 i.2 e) h
def AcE{a b}(f:∀r∈a,0<=r.1)(g:∀r∈b,0<=r.1)(h:(PD a b).2=true):nnR (PD a b).1:=by
 unfold PD at h⊢;cases c:(a.length:Int)!=(b.length:Int)with
 |true=>rw[c]at h;cases h
 |false=>
  rw[Ab];rw[c,Ab]at h;cases d:Tf (jM a b) a.length 0 (0,1)with
  |inl x=>exact wR f g _ _ _ x ⟨by decide,HN 0⟩ d
  |inr o=>
   exfalso;rw[d]at h
   have e:∀(j k:Nat) (x:Rt),Tf (jM a b) j k x=.inr o->o=qe:=by
    intro j;induction j with
    |zero=>intro k x h;cases h
    |succ j i=>
     intro k x h;rw[Tf]at h;unfold jM at h;cases c:(Qh (atR a k)<|atR b k).2 with
     |false=>rw[c]at h;cases h;rfl
     |true=>
      cases d:(b9 x (Qh (atR a k)<|atR b k).1).2 with
      |false=>rw[c,d]at h;cases h;rfl
      |true=>rw[c,d]at h;exact i _ _ h
   rw[e _ _ _ d]at h;cases h
def aj{α β:Type}{f}(P:β->Prop)(c:∀b a,P b->P (f b a)):∀(l:List α) (b:β),P b->P (l.foldl f b)
 |[],_,h=>h
 |a::l,b,h=>aj P c l _<|c b a h
def AfK(p:LP):∀x∈Ys p 1,∀r∈x,0<=r.1:=by
 unfold Ys;refine aj (P:=λout:Mx=>∀x∈out,∀r∈x,0<=r.1) (λout c h=>?_) _ _ (λx a=>by cases a);unfold visit;cases(WF (c.map<|rowAt p)<|c.map<|I2 p).2 with
 |false=>exact h
 |true=>
  cases b:VU p (WF (c.map<|rowAt p)<|c.map<|I2 p).1 1 with
  |false=>exact h
  |true=>
   cases out.any (· ==(WF (c.map<|rowAt p)<|c.map<|I2 p).1)with
   |true=>exact h
   |false=>
    intro x a r d;rcases Ak.1 a with a|a
    ·exact h x a r d
    ·rw[AC]at a;subst a;unfold VU at b;simp only[Aa]at b;have:=Am.1 b.2.2.1 r d;rw[Aa,Bf]at this;exact this.2
def vX{c}(hc:∀r∈c,0<=r.1):∀(l:List (List Rt)) (st:List Rt×Rt×Bool),(∀x∈l,∀r∈x,0<=r.1)->(st.2.2=true->nnR st.2.1)->(l.foldl (mnS c) st).2.2=true->nnR (l.foldl (mnS c) st).2.1
 |[],st,_,h,h2=>h h2
 |x::l,st,hl,h,h2=>by
  refine vX hc l _ (λy hy=>hl y<|A3 _ hy) (λh3=>?_) h2;unfold mnS at h3⊢;cases hd:(PD c x).2 with
  |false=>rw[hd]at h3;exact h h3
  |true=>
   rw[hd,AL]at h3;rw[AL];cases ho: !st.2.2 || decide (wZ (gA (PD c x).1 st.2.1 * 1) < 0)with
   |false=>rw[ho]at h3;exact h h3
   |true=>exact AcE hc (hl x BH) hd
def zd{c}(l:List (List Rt))(st:List Rt×Rt×Bool)(h:st.2.2=true):(l.foldl (mnS c) st).2.2=true:=by
 refine aj (P:=λst:List Rt×Rt×Bool=>st.2.2=true) (λb a h=>?_) l st h;unfold mnS;cases(PD c a).2&&(!b.2.2 || decide (wZ (gA (PD c a).1 b.2.1 * 1) < 0))with
 |false=>exact h
 |true=>rfl
def vW{c x}(a:(PD c x).2=true):∀(l:List (List Rt)) (st:List Rt×Rt×Bool),x∈l->(l.foldl (mnS c) st).2.2=true
 |y::l,st,h=>by
  rw[CL];rcases AE.1 h with rfl|h
  ·refine zd l _ ?_;unfold mnS;rw[a,AL];cases b:st.2.2 with
   |true=>
    cases decide (wZ (gA (PD c x).1 st.2.1 * 1) < 0)with
    |true=>rfl
    |false=>exact b
   |false=>rfl
  ·exact vW a l _ h
section
variable {q:Jz}{B:zN}
def wB(q:Jz)(B:zN):Rt×Bool:=((sF<|VW q B).2.1,(sF<|VW q B).2.2)
def Aco(b:JZ q=true)(c:SmG q B):sF (VW q B)=mnB (VW q B):=by
 unfold sF;rw[AaZ b c,AL];have:(VW q B).2.2.all (λr=>decide (0<=r.1))=true:=by unfold VW;rw[Lx,Am];intro a _;rfl
 rw[this,Ac]
def tV:∀r∈(VW q B).2.2,0<=r.1:=λr a=>by unfold VW at a;obtain⟨_,_,rfl⟩:=A5.1 a;decide
def Aj1(a:JZ q=true)(d:SmG q B):(wB q B).2=true∧nnR (wB q B).1:=by
 have b:(mnB<|VW q B).2.2=true:=by
  have⟨S,g,i⟩:=Acl a d;have⟨m,n,j,k⟩:=Xo a;unfold mnB;refine vW (x:=S.map bt) ?_ _ _ i;have f:=(k9 j k).2;unfold tryD at f;have l:=Am.1 f (List.replicate q.2.1.length true) (by have:=SF<|List.replicate q.2.1.length true;rwa [Iw]at this);have c:=Am.1 l S (by have:=SF S;rwa [g]at this);unfold p6 at c;rw[Aa]at c;have e:(VW q B).2.2=(List.replicate q.2.1.length true).map bt:=by show q.2.1.map (λ_=>((1:Int),(1:Int)))=_;rw[List.map_replicate,List.map_const'];rfl
  rw[e];exact c.1
 unfold wB;rw[Aco a d];refine⟨b,?_⟩;unfold mnB at b⊢;exact vX tV _ _ (AfK _) (λh=>by cases h) b
end
def oAt(O:zN)(i:Nat):Nat:=O.getD i 0
def v9{O i}(h:i < O.length):oAt O i=O[i]:=by unfold oAt;rw[AO,Ae h];rfl
def oI(O:zN):zI:=O.map λ(x:Nat)=>(x:Int)
def wa(O:zN):(oI O).length=O.length:=by simp[oI]
def Ajn{O}{i:Nat}(h:i < O.length):AN (oI O) (i:Int)=some ((oAt O i:Nat):Int):=by rw[AI (by rw[wa];exact h),v9 h];simp[oI]
def zW{p}(d:XN p=true):(Ys p 1).length<=161051:=by have⟨f,e,g,h,i,j⟩:=S5 d;unfold Ys;have a:=ai (jd p 1) (dv (p.2.1.length+p.2.2.length) p.2.2.length 0) [];have b:=jC (t:=p.2.1.length+p.2.2.length) (by omega) p.2.2.length 0;have c:=AbG e;simp only[Cl]at a;omega
def mnT(st:List Rt×Rt×Bool)(k:Nat):List Rt×Int×Int×Bool×Int:=(st.1,st.2.1.1,st.2.1.2,st.2.2,(k:Int))
def Ac1{p}(a:XN p=true):Xd p 1=some (mnB p):=by
 have i:=zW a;have j:=(S5 a).2.1;unfold Xd;rw[u9 a];simp only[G]
 have c:=CD (body:=NT p 1 (Ys p 1)) (out:=((mnB p).1,(mnB p).2.1.1,(mnB p).2.1.2,(mnB p).2.2)) (λk=>mnT (((Ys p 1).take k).foldl (mnS p.2.2) ([],(0,0),false)) k) (Ys p 1).length (λk d e=>by
  rw[A6 d,Dy];generalize((Ys p 1).take k).foldl (mnS p.2.2) ([],(0,0),false)=st;have⟨b,⟨g,h⟩,f⟩:=st;unfold NT mnT;simp only[CL,Hy];rw[Bi d,Ac,AI d];simp only[G];rw[Aa9 (by unfold lim;omega)];simp only;unfold mnS PK Sn;rw[wrap_in (by omega)];cases(PD p.2.2 (Ys p 1)[k]).2 with
  |false=>rfl
  |true=>
   cases f with
   |false=>rfl
   |true=>rw[va];simp only[An,Ab,Ac,C3,AL];rw[Int.mul_comm];cases decide (wZ (gA (PD p.2.2 (Ys p 1)[k]).1 (g,h) * 1) < 0)<;>rfl) (λrec=>by
  unfold NT mnT;simp only;rw[Bc,AT];rfl) fz (DN (by unfold lim;omega))
 rw[show(([]:List Rt),(0:Int),(0:Int),false,(0:Int))=mnT (((Ys p 1).take 0).foldl (mnS p.2.2) ([],(0,0),false)) 0 from rfl,c]
def zr(c:List Rt):((List.range c.length).any λk=>decide ((atR c k).1 < 0))= !(c.all λr=>decide (0<=r.1)):=by
 rw[BX,Cx,AH,<-Gm,Am];constructor
 ·rintro⟨k,hk,h⟩ hc;rw[AB]at hk;have:=hc _<|Ad hk;rw[QR hk]at this;rw[Bf]at h this;omega
 ·intro h;refine BO λhc=>h λr hr=>?_
  obtain⟨k,hk,rfl⟩:=F0 hr;rw[Bf];refine BO λhn=>hc ⟨k,AB.2 hk,?_⟩
  rw[Bf,<-QR hk];omega
def Ac5{p}(h:tj p):Ro p=some (sF p):=by
 unfold Ro sF;rw[AhL h];simp only[G];cases b:XN p with
 |false=>rfl
 |true=>
  rw[An,Ab,AL]
  rw[QY (n:=p.2.2.length) (λk=>decide ((atR p.2.2 k).1 < 0)) (([]:List Rt),((0:Int),(0:Int)),false) h.2.2 (λk a c=>by
   unfold Q2;rw[Bi a,Ac,MN a,Bm a (Ba h.2.2)];rfl) (λrec=>by
   unfold Q2;rw[Bc];rfl),zr]
  cases p.2.2.all λr=>decide (0<=r.1)with
  |false=>rfl
  |true=>rw[An,Ab,Ac];simp only;rw[Ac1 b]
section
variable {q:Jz}{B:zN}
def Ag5(b:Th q)(a:B.length<=lim):tj (VW q B):=by unfold VW tj;exact⟨by simpa using a,by simpa using a,by simpa using b.1⟩
def Afy{k:Nat}(h:k < B.length):AN (oI B) (k:Int)=some ((B[k]:Nat):Int):=by rw[Ajn h,v9 h]
def Akh:∀k (h:k < B.length),(B.take<|k+1).map (λ(v:Nat)=>Wf q (v:Int))=(B.take k).map (λ(v:Nat)=>Wf q (v:Int))++[Wf q ((B[k]:Nat):Int)]:=λk h=>by rw[A6 h,Bd];rfl
def Akg:∀k (h:k < B.length),(B.take<|k+1).map (λ_=>((1:Int),(1:Int)))=(B.take k).map (λ_=>((1:Int),(1:Int)))++[((1:Int),(1:Int))]:=λk h=>by rw[A6 h,Bd];rfl
def AhA(b:Th q)(f:JZ q=true)(i:B.length<=5)(g:Tw q.1 (oI B)=true):LW q (oI B)=some (wB q B):=by
 have a:=wa B;have d:(oI B).length<=lim:=by rw[a];unfold lim;omega
 unfold LW;rw[YW b,f];simp only[G,An,Ab];rw[Aa8 d,g];simp only[An,Ab];unfold Vi
 have e:=CD (body:=OO q (oI B)) (out:=(B.map (λ(v:Nat)=>Wf q (v:Int)),B.map (λ_=>((1:Int),(1:Int))))) (λk=>((B.take k).map (λ(v:Nat)=>Wf q (v:Int)),(B.take k).map (λ_=>((1:Int),(1:Int))),(k:Int))) B.length (λk c h=>by
  unfold OO;simp only;rw[a,Bi c,Ac,Afy c];simp only[G];rw[yF b];simp only;rw[A1 (by simp;unfold lim;omega),A1 (by simp;unfold lim;omega),wrap_in (by omega),Akh k c,Akg k c];rfl) (λrec=>by
  unfold OO;simp only;rw[a,Bc,AT];rfl) fz (DN (by unfold lim;omega))
 rw[show(([]:Mx),([]:List Rt),(0:Int))=((B.take 0).map λ(v:Nat)=>Wf q (v:Int),(B.take 0).map<|λ_=>((1:Int),(1:Int)),((0:Nat):Int))from rfl,e];simp only[G];rw[Ac7 b];simp only;rw[show(B.map λ(v:Nat)=>Wf q (v:Int),B.map<|λ_=>((1:Int),(1:Int)),q.2.1.map λ_=>((1:Int),(1:Int)))=VW q B from rfl,Ac5 (Ag5 b<|by unfold lim;omega)];rfl
end
def tO(n:Nat)(S:Nat->Bool)(p:Int->Bool):(EH n S).filter p=EH n λu=>S u&&p (u:Int):=by unfold EH;rw[List.filter_map,List.filter_filter];congr 2;funext u;simp[Function.comp,Bool.and_comm]
def Ag3(a:MA):vsB (IG a 5)=true:=xH _
def AcD(a:MA)(b:zI):vsB (NL (IG a 5) b)=true:=by unfold NL;rw[show IG a 5=EH 5 λv=>a.2.contains (v:Int)from rfl,tO];exact xH _
def un{A}(c:A.Nodup)(B:zI):QT A B A.length=(NL A B).map (CN A):=by
 have b:∀k,k<=A.length->QT A B k=((A.take k).filter B.contains).map (CN A):=by
  intro k;induction k with
  |zero=>intro _;simp[QT]
  |succ k d=>
   intro e;have a:k < A.length:=e;rw[jH a,U9 _ a,Bd,d (by omega)];cases B.contains A[k]with
   |true=>simp only[Ac,AM,CZ];rw[mM c a]
   |false=>rfl
 have:=b A.length<|AJ _
 rwa [AT]at this
section
variable {d:List QE}{q:Jz}
def atV(d:List QE)(a:MA):KW:=(IG a 5,abB d a)
def tQ{a}(b:Ox a)(c:GP d a=true):Tq (atV d a)=true:=by have:=(jk b c).1;unfold Tq atV;simp only;rw[Ag3,this];unfold abB;simp
def AbJ{a}(h:Ql d)(b:Ox a)(c:GP d a=true):Ky d a=some (atV d a):=by unfold Ky;rw[AfO (by have:=b.1;unfold lim;omega),AV,Ajy h b c,AV];rfl
def Aa6{a}(h:Ql d)(b:Ox a)(e:GP d a=true):Kb d a=some (atV d a):=by
 have c:a.2.length<=lim:=by have:=b.1;unfold lim;omega
 unfold Kb;rw[uZ c (λv=>mm c v),AV,Ahy h b e,AV];rfl
def bY(d:List QE)(a:MA)(b:zI):KW:=(NL (IG a 5) b,(pjG (abB d a)<|(NL (IG a 5) b).map<|CN<|IG a 5).1)
def r8(A B:zI):∀e∈(NL A B).map (CN A),0<=e∧e < (A.length:Int):=λe a=>by obtain⟨v,b,rfl⟩:=A5.1 a;obtain⟨j,f,c,-⟩:=Lz<|Av.2 (Bj.1 b).1;rw[c];omega
def jI(A B:zI):(NL A B).length<=A.length:=Ca _ _
def pf{a}(f:Ox a)(g:GP d a=true)(b:zI):Tq (bY d a b)=true:=by
 have j:=jI (IG a 5) b;have k:=LR a 5;have⟨h,p2⟩:=re (r:=abB d a) (c:=(NL (IG a 5) b).map<|CN<|IG a 5) (jk f g).1 (by rw[Aj];omega)<|λe i=>r8 _ _ e i
 unfold Tq bY;simp only;rw[AcD,h,p2];simp
def bgS(d:List QE)(b:zI)(acc:Option KW)(a:MA):Option KW:=match acc with
 |none=>none
 |some x=>cond (((NL (IG a 5) b).length:Int)==0) (some x)<|Vw (some x)<|some<|bY d a b
def cr(d:List QE)(q:Jz)(b:zI):Option KW:=q.2.1.foldl (bgS d b)<|some ([],0,[[]])
def brI(d:List QE)(q:Jz)(b:zI)(k:Nat):Option KW:=(q.2.1.take k).foldl (bgS d b)<|some ([],0,[[]])
def Acv{b k}(h:k < q.2.1.length):brI d q b (k+1)=bgS d b (brI d q b k) q.2.1[k]:=by unfold brI;rw[Tp h,Dy];rfl
def pH(b:zI):∀l:List MA,l.foldl (bgS d b) none=none
 |[]=>rfl
 |a::l=>by rw[CL];exact pH b l
def pM{b k}(h:brI d q b k=none):cr d q b=none:=by unfold cr;unfold brI at h;rw[<-Bv k q.2.1,Dy,h,pH]
def pN(f:E3 d q=true){b:zI}:∀k v,k<=q.2.1.length->brI d q b k=some v->Tq v=true
 |0,v,_,e=>by have:v=([],0,[[]]):=(Dt e).symm;subst this;rfl
 |k+1,v,g,e=>by
  rw[Acv g]at e;cases c:brI d q b k with
  |none=>rw[c]at e;cases e
  |some x=>
   have h:=pN f k x (by omega) c;rw[c]at e;unfold bgS at e;simp only at e;obtain⟨g1,g2,-⟩:=Re f;have⟨j,l⟩:=g2 _<|Ad g;cases i:((NL (IG q.2.1[k] 5) b).length:Int)==0 with
   |true=>rw[i,Ac,Ar]at e;exact e ▸ h
   |false=>
    rw[i,Ab]at e;cases a:OA x (bY d q.2.1[k] b)with
    |true=>rw[show Vw (some x) (some<|bY d q.2.1[k] b)=none by unfold Vw;simp only;rw[a];rfl]at e;cases e
    |false=>rw[show Vw (some x) (some<|bY d q.2.1[k] b)=some (kj x<|bY d q.2.1[k] b)by unfold Vw;simp only;rw[a];rfl,Ar]at e;exact e ▸ AbA h (pf j l b) a
def brB(d:List QE)(q:Jz)(b:zI):KW×Bool:=match cr d q b with
 |some v=>(v,true)
 |none=>(([],(0,[])),false)
def ju{b}:brI d q b q.2.1.length=cr d q b:=by unfold brI cr;rw[AT]
def Ajz{a b}(f:b.length<=lim):Ap (Hc b<|atV d a) fz (([]:zI),([]:zI),0)=some ((NL (IG a 5) b).map<|CN<|IG a 5,NL (IG a 5) b):=by
 have h:=LR a 5
 have c:=CD (body:=Hc b (atV d a)) (out:=(QT (IG a 5) b (IG a 5).length,NL (IG a 5) b)) (λk=>(QT (IG a 5) b k,((IG a 5).take k).filter b.contains,(k:Int))) (IG a 5).length (λk e g=>by
  have i:=YK (IG a 5) b k;have j:(((IG a 5).take k).filter b.contains).length<=k:=BC (Ca _ _) (by rw[At];omega);unfold Hc K7 atV;simp only;rw[Bi e,Ac,AI e,AV,Ot f,AV,HB,Bm e (by unfold maxLen;omega),jH e,U9 _ e];cases b.contains (IG a 5)[k]with
  |true=>rw[Ac,A1 (by unfold lim;rw[Al];omega),AV,A1 (by unfold lim;rw[Al];omega)];rfl
  |false=>rw[Ab,Ab,Ab,AR,AR]) (λrec=>by
  unfold Hc atV;simp only;rw[Bc,Ab,AT];rfl) fz (by unfold fz;omega)
 rw[un (lA a)]at c;exact c
def Ak7(h:Ql d)(u:Th q)(n:E3 d q=true){b:zI}(x:Tw q.1 b=true)(w:b.length<=lim):N2 d q b=some (brB d q b):=by
 obtain⟨g1,g2,-⟩:=Re n;obtain⟨-,-,H,-⟩:=UP g1;have y:q.2.1.length<=lim:=u.1
 have⟨o,e,z⟩:=GV (B:=Hb d q b) (λst=>∃k:Nat,∃v:KW,st=(v.1,v.2.1,v.2.2,(k:Int))∧k<=q.2.1.length∧brI d q b k=some v) (λst=>q.2.1.length - st.2.2.2.toNat) (λo=>(o=.inr (([],(0,[])),false)∧cr d q b=none)∨∃v:KW,o=.inl (v.1,v.2.1,v.2.2)∧cr d q b=some v) (λst p=>by
  obtain⟨k,v,rfl,m,l⟩:=p;by_cases c:k < q.2.1.length
  ·have⟨s,t⟩:=g2 _ (Ad c);have A:=pN n k v m l;have C:=pf s t b;have I:=LR q.2.1[k] 5;have D:=jI (IG q.2.1[k] 5) b
   have f:∀i,Hb d q b i (v.1,v.2.1,v.2.2,(k:Int))=cond (((NL (IG q.2.1[k] 5) b).length:Int)==0) (i (v.1,v.2.1,v.2.2,((k+1:Nat):Int))) (cond (OA v<|bY d q.2.1[k] b) (some<|.inr (([],(0,[])),false))<|i ((kj v<|bY d q.2.1[k] b).1,(kj v<|bY d q.2.1[k] b).2.1,(kj v<|bY d q.2.1[k] b).2.2,((k+1:Nat):Int))):=λrec=>by
    unfold Hb K6;simp only;rw[Bi c,Ac,AI c,AV,AbJ h s t,AV,Ajz w,AV,Bm c (Ba y)];simp only;cases((NL (IG q.2.1[k] 5) b).length:Int)==0 with
    |true=>rfl
    |false=>simp only[Ab];rw[show(atV d q.2.1[k]).2=abB d q.2.1[k]from rfl,w5 (r:=abB d q.2.1[k]) (QP<|tQ s t).2.1 (by rw[Aj];unfold lim;omega),AV];rw[show GH (v.1,v.2.1,v.2.2) (NL (IG q.2.1[k] 5) b,(pjG (abB d q.2.1[k])<|(NL (IG q.2.1[k] 5) b).map<|CN<|IG q.2.1[k] 5).1)=GH v (bY d q.2.1[k] b)from rfl,AjH A C,AV];cases OA v (bY d q.2.1[k] b)<;>rfl
   have a:=Acv (d:=d) (q:=q) (b:=b) c;rw[l]at a;cases j:((NL (IG q.2.1[k] 5) b).length:Int)==0 with
   |true=>right;refine⟨_,⟨k+1,v,rfl,c,by rw[a];unfold bgS;simp only;rw[j];rfl⟩,by simp only[Aq];omega,λrec=>by rw[f,j,Ac]⟩
   |false=>
    cases g:OA v (bY d q.2.1[k] b)with
    |true=>left;refine⟨_,.inl ⟨rfl,pM (k:=k+1)<|by rw[a];unfold bgS Vw;simp only;rw[j,g];rfl⟩,λrec=>by rw[f,j,g];rfl⟩
    |false=>right;refine⟨_,⟨k+1,kj v<|bY d q.2.1[k] b,rfl,c,by rw[a];unfold bgS Vw;simp only;rw[j,g];rfl⟩,by simp only[Aq];omega,λrec=>by rw[f,j,g];rfl⟩
  ·left;have m:k=q.2.1.length:=by omega
   refine⟨_,.inr ⟨v,rfl,by rw[<-ju,<-m];exact l⟩,λrec=>?_⟩;unfold Hb;simp only;rw[m,Bc,Ab]) fz (([]:zI),0,([[]]:List zI),0) ⟨0,([],0,[[]]),rfl,Cd _,rfl⟩ (by unfold fz;simp only;omega)
 unfold N2 brB;rw[kL h u,AV,n,An,Ab,AbL w,AV,x,An,Ab,e,AV];rcases z with⟨rfl,F⟩|⟨v,rfl,l⟩
 ·rw[F]
 ·rw[l]
def Acm(f:JZ q=true){b:zI}(a:Tw q.1 b=true):vsB b=true:=by
 obtain⟨g,h,-⟩:=UP f;unfold Tw at a;unfold vsB;rw[Aa,AH]at a;have c:=a.1;rw[U1 b (λ_ e=>Pi q.1 e) (λk e=>Fm b k e),B9]at c;rw[AH,U1 b (λ_ e=> !Hv e 0 4) (λk e=>Fm b k e),c.2,FC];refine J0 λi hi=>?_
 have:=FJ c.1 hi;unfold Pi Hv at this;rw[wrap_in (by omega)]at this;unfold Hv;simp at this⊢;omega
def Ack(h:JZ q=true){b:zI}(a:Tw q.1 b=true):∃B:zN,b=oI B∧B.length<=5∧SmG q B:=by
 have g:=Acm h a;obtain⟨j,l,-⟩:=UP h;have i:=Yy g;have c:∀e∈b,0<=e∧e < q.1:=λe f=>by unfold Tw at a;rw[Aa,AH,U1 b (λ_ e=>Pi q.1 e) (λk e=>Fm b k e),B9]at a;have:=O4 a.1.1 f;unfold Pi Hv at this;rw[wrap_in (by omega)]at this;simp at this;omega
 refine⟨b.map Int.toNat,?_,by rw[Aj];exact i,by rw[Aj];unfold Tw at a;rw[Aa,Bf]at a;omega,by rw[Aj];exact i,λv g=>?_⟩
 ·unfold oI;rw[EU];refine(OG b).symm.trans<|Cf λe f=>?_
  have:=c e f;show e=((e.toNat:Nat):Int);omega
 ·obtain⟨e,f,rfl⟩:=A5.1 g;have:=c e f;omega
def AhO{a:MA}(e:Ox a)(f:GP d a=true){b:zI}(g:b.length<=lim):PU (atV d a) b=some (bY d a b):=by have k:=LR a 5;have i:=jI (IG a 5) b;unfold PU;rw[show(atV d a).1=IG a 5 from rfl,dV (by unfold lim;omega) g,AV];rw[show(IG a 5).filter b.contains=NL (IG a 5) b from rfl];rw[H5 (a:=NL (IG a 5) b) (h:=CN (IG a 5)) (by unfold lim;omega) (λk c j=>by unfold PV;simp only;rw[Bi c,Ac,AI c,AV,show(atV d a).1=IG a 5 from rfl,Q0 (by unfold lim;omega),AV,A1 (by simp only[Aj,At,Al];unfold lim;omega),Bm c (by unfold maxLen;omega)]) (λrec y=>by unfold PV;simp only;rw[Bc];rfl),AV,show(atV d a).2=abB d a from rfl,yJ (r:=abB d a) (QP (tQ e f)).2.1 (by rw[Aj];unfold lim;omega),AV];rfl
def Akw(h:Ql d)(r:Th q)(i:JZ q=true){b:zI}(u:Tw q.1 b=true)(w:b.length<=lim):NO d q b=some (cond (E3 d q) (brB d q b) (([],(0,[])),false)):=by
 obtain⟨B,rfl,y,z⟩:=Ack i u;have A:q.2.1.length<=lim:=r.1;unfold NO;rw[AhA r i y u,AV,(Aj1 i z).1,An,Ab,oF h r,AV];cases x:E3 d q with
 |false=>rfl
 |true=>
  obtain⟨g1,g2,-⟩:=Re x;obtain⟨-,-,I,-⟩:=UP g1
  have⟨o,e,C⟩:=GV (B:=G8 d q (oI B)) (λst=>∃k:Nat,∃v:KW,st=(v.1,v.2.1,v.2.2,(k:Int))∧k<=q.2.1.length∧brI d q (oI B) k=some v) (λst=>q.2.1.length - st.2.2.2.toNat) (λo=>(o=.inr (([],(0,[])),false)∧cr d q (oI B)=none)∨∃v:KW,o=.inl (v.1,v.2.1,v.2.2)∧cr d q (oI B)=some v) (λst s=>by
   obtain⟨k,v,rfl,n,i⟩:=s;by_cases c:k < q.2.1.length
   ·have⟨p,t⟩:=g2 _ (Ad c);have D:=pN x k v n i;have F:=pf p t<|oI B;have J:=LR q.2.1[k] 5;have m:(q.2.1[k]).2.length<=lim:=by have:=p.1;unfold lim;omega
    have f:∀j,G8 d q (oI B) j (v.1,v.2.1,v.2.2,(k:Int))=cond (((NL (IG q.2.1[k] 5)<|oI B).length:Int)==0) (j (v.1,v.2.1,v.2.2,((k+1:Nat):Int))) (cond (OA v<|bY d q.2.1[k]<|oI B) (some<|.inr (([],(0,[])),false))<|j ((kj v<|bY d q.2.1[k]<|oI B).1,(kj v<|bY d q.2.1[k]<|oI B).2.1,(kj v<|bY d q.2.1[k]<|oI B).2.2,((k+1:Nat):Int))):=λrec=>by
     unfold G8 KZ;simp only;rw[Bi c,Ac,AI c,AV,uZ m (λv=>mm m v),AV,dV (by unfold lim;omega) w,AV,Bm c (Ba A),show(IG q.2.1[k] 5).filter (oI B).contains=NL (IG q.2.1[k] 5) (oI B)from rfl];cases((NL (IG q.2.1[k] 5)<|oI B).length:Int)==0 with
     |true=>rfl
     |false=>simp only[Ab];rw[Aa6 h p t,AV,AhO p t w,AV,show Gu (v.1,v.2.1,v.2.2) (bY d q.2.1[k]<|oI B)=Gu v (bY d q.2.1[k]<|oI B)from rfl,AhM D F,AV];cases OA v (bY d q.2.1[k]<|oI B)<;>rfl
    have a:=Acv (d:=d) (q:=q) (b:=oI B) c;rw[i]at a;cases l:((NL (IG q.2.1[k] 5)<|oI B).length:Int)==0 with
    |true=>right;refine⟨_,⟨k+1,v,rfl,c,by rw[a];unfold bgS;simp only;rw[l];rfl⟩,by simp only[Aq];omega,λrec=>by rw[f,l,Ac]⟩
    |false=>
     cases g:OA v (bY d q.2.1[k]<|oI B)with
     |true=>left;refine⟨_,.inl ⟨rfl,pM (k:=k+1)<|by rw[a];unfold bgS Vw;simp only;rw[l,g];rfl⟩,λrec=>by rw[f,l,g];rfl⟩
     |false=>right;refine⟨_,⟨k+1,kj v<|bY d q.2.1[k]<|oI B,rfl,c,by rw[a];unfold bgS Vw;simp only;rw[l,g];rfl⟩,by simp only[Aq];omega,λrec=>by rw[f,l,g];rfl⟩
   ·left;have n:k=q.2.1.length:=by omega
    refine⟨_,.inr ⟨v,rfl,by rw[<-ju,<-n];exact i⟩,λrec=>?_⟩;unfold G8;simp only;rw[n,Bc,Ab]) fz (([]:zI),0,([[]]:List zI),0) ⟨0,([],0,[[]]),rfl,Cd _,rfl⟩ (by unfold fz;simp only;omega)
  rw[An,Ab,e,AV,Ac];unfold brB;rcases C with⟨rfl,H⟩|⟨v,rfl,i⟩
  ·rw[H]
  ·rw[i]
end
abbrev YA:=Int×List zI
def sub_le{r:zI}{lo hi:Int}:(C2 r lo hi).length<=r.length:=by unfold C2;rw[Bx,At];omega
def zZ{t pre}(h:GN t.2):Lm t pre=Dc t pre:=by
 funext rec y;rw[Lm,Dc];cases b:AN t.2 y with
 |none=>rfl
 |some e=>have c:e∈t.2:=B3 (BE b).2.2;have a:(C2 e 0 (pre.length:Int)).length<=lim:=BC sub_le<|h.2 e c;rw[AV,AV,WD a,io a]
def z5{t pre}(h:GN t.2):Ln t pre=Dd t pre:=by
 funext rec y;rw[Ln,Dd];cases b:AN t.2 y with
 |none=>rfl
 |some e=>have c:e∈t.2:=B3 (BE b).2.2;have a:(C2 e 0 (pre.length:Int)).length<=lim:=BC sub_le<|h.2 e c;rw[AV,AV,WD a,io a]
def Uv(t:YA)(n:Nat):Prop:=Mr t=true∧(n:Int)<=t.1
def Yx{t n}(h:Uv t n):GN t.2∧t.2.length<=4000∧∀r∈t.2,(r.length:Int)=t.1∧r.length<=5:=by have a:=Qi h.1;exact⟨⟨by have:=a.2.2.1;unfold lim;omega,λx c=>by have:=(a.2.2.2 x c).1;unfold lim;omega⟩,a.2.2.1,λr b=>⟨(a.2.2.2 r b).1,by have:=(a.2.2.2 r b).1;omega⟩⟩
def wH{t pre}(h:Uv t pre.length):∃o,Ap (Dc t pre) fz 0=some o∧∃k:Nat,o=(k:Int)∧k<=t.2.length:=by
 have⟨c,l,g⟩:=Yx h;refine GV (B:=Dc t pre) (λs=>∃k:Nat,s=(k:Int)∧k<=t.2.length) (λs=>t.2.length - s.toNat) (λo=>∃k:Nat,o=(k:Int)∧k<=t.2.length) ?_ fz 0 ⟨0,rfl,by omega⟩ (by unfold fz;omega);rintro s ⟨k,rfl,d⟩;rcases Bb k t.2.length with a|i
 ·have m:=g _ (Ad a);have j:(C2 t.2[k] 0 (pre.length:Int)).length<=lim:=BC sub_le<|c.2 _<|Ad a;have e:∀b,Dc t pre b (k:Int)=cond (decide (Eh (C2 t.2[k] 0 (pre.length:Int)) pre < 0)) (b ((k+1:Nat):Int)) (some (k:Int)):=λrec=>by rw[Dc];rw[Bi a,AI a,Bm a (Ba c.1),Ac,AV,A1 (by have:=h.2;omega),WD j,AV]
  cases f:decide (Eh (C2 t.2[k] 0 (pre.length:Int)) pre < 0)with
  |true=>exact .inr ⟨((k+1:Nat):Int),⟨k+1,rfl,a⟩,by rw[Aq,Aq];omega,λrec=>by rw[e,f];rfl⟩
  |false=>exact .inl ⟨(k:Int),⟨k,rfl,d⟩,λrec=>by rw[e,f];rfl⟩
 ·refine .inl ⟨(k:Int),⟨k,rfl,d⟩,λrec=>?_⟩;rw[Dc];rw[Af (by omega:¬(k:Int) < (t.2.length:Int))];rfl
def wG{t pre}(h:Uv t pre.length){lo:Nat}(d:lo<=t.2.length):∃o,Ap (Dd t pre) fz (lo:Int)=some o∧∃k:Nat,o=(k:Int)∧lo<=k∧k<=t.2.length:=by
 have⟨f,n,j⟩:=Yx h;refine GV (B:=Dd t pre) (λs=>∃k:Nat,s=(k:Int)∧lo<=k∧k<=t.2.length) (λs=>t.2.length - s.toNat) (λo=>∃k:Nat,o=(k:Int)∧lo<=k∧k<=t.2.length) ?_ fz (lo:Int) ⟨lo,rfl,AJ _,d⟩ (by unfold fz;omega);rintro s ⟨k,rfl,b,g⟩;rcases Bb k t.2.length with a|l
 ·have p:=j _ (Ad a);have m:(C2 t.2[k] 0 (pre.length:Int)).length<=lim:=BC sub_le<|f.2 _<|Ad a;have e:∀c,Dd t pre c (k:Int)=cond (Eh (C2 t.2[k] 0 (pre.length:Int)) pre==0) (c ((k+1:Nat):Int)) (some (k:Int)):=λrec=>by rw[Dd];rw[Bi a,AI a,Bm a (Ba f.1),Ac,AV,A1 (by have:=h.2;omega),WD m,AV]
  cases i:(Eh (C2 t.2[k] 0 (pre.length:Int)) pre==0)with
  |true=>exact .inr ⟨((k+1:Nat):Int),⟨k+1,rfl,by omega,a⟩,by rw[Aq,Aq];omega,λrec=>by rw[e,i];rfl⟩
  |false=>exact .inl ⟨(k:Int),⟨k,rfl,b,g⟩,λrec=>by rw[e,i];rfl⟩
 ·refine .inl ⟨(k:Int),⟨k,rfl,b,g⟩,λrec=>?_⟩;rw[Dd];rw[Af (by omega:¬(k:Int) < (t.2.length:Int))];rfl
def kF{t pre}(h:Uv t pre.length):∃lo hi:Nat,lo<=hi∧hi<=t.2.length∧Ap (Dc t pre) fz 0=some (lo:Int)∧Ap (Dd t pre) fz (lo:Int)=some (hi:Int)∧Ii t pre=some ((lo:Int),(hi:Int)):=by have⟨e,f,g⟩:=Yx h;obtain⟨i,c,lo,rfl,b⟩:=wH h;obtain⟨j,d,hi,rfl,a⟩:=wG h b;refine⟨lo,hi,a.1,a.2,c,d,?_⟩;unfold Ii Rl WK;rw[AV,iZ e,AV,AV,h.1,An,Ab,Af (by have:=h.2;omega),Ab,c,AV,d,AV]
def z6{t pre}(h:Uv t pre.length){lo hi:Nat}(b:Ap (Dc t pre) fz 0=some (lo:Int))(c:Ap (Dd t pre) fz (lo:Int)=some (hi:Int)):H1 t pre=some ((lo:Int),(hi:Int)):=by have⟨a,d,e⟩:=Yx h;unfold H1 Lk ON;rw[Af (by have:=h.2;omega),Ab,AV,dW a,AV,AV,h.1,An,Ab,zZ a,z5 a,b,AV,c,AV]
def pushB(out:zI)(v:Int):Bool:=match out.getLast? with
 |none=>true
 |some x=>x !=v
def Z2(S:List zI)(p:Nat):Nat->zI
 |0=>[]
 |k+1=>Z2 S p k++cond (pushB (Z2 S p k)<|LH ((S[k]?).getD []) (p:Int)) [LH ((S[k]?).getD []) (p:Int)] []
def cu(S:List zI)(p:Nat):∀k,(Z2 S p k).length<=k
 |0=>by simp[Z2]
 |k+1=>by
  have:=cu S p k;rw[Z2,Au];cases pushB (Z2 S p k) (LH ((S[k]?).getD []) (p:Int))
  ·rw[Ab,Cl];omega
  ·rw[Ac,Al];omega
def iv{out}(h:out.length<=4000)(v:Int){α:Type}(f:Bool->Option α):cond ((out.length:Int)==0) (f true) (G (AN out<|wZ<|(out.length:Int) - 1) λe=>f<|e !=v)=f (pushB out v):=by
 by_cases b:out.length=0
 ·have:out=[]:=Bp b;subst this;rfl
 ·have a:out.length - 1 < out.length:=by omega
  have e:((out.length:Int)==0)=false:=by rw[Cg];omega
  rw[e,Ab,wrap_in (by omega),show(out.length:Int) - 1=((out.length - 1:Nat):Int)by omega,AI a,AV];unfold pushB;rw[List.getLast?_eq_getElem?,Ae a]
def Acz{t pre}(h:Uv t pre.length){lo hi:Nat}(j:lo<=hi)(l:hi<=t.2.length)(es:Ii t pre=some ((lo:Int),(hi:Int))):G7 t pre=some (if(pre.length:Int) < t.1 then Z2 (C2 t.2 (lo:Int) (hi:Int)) pre.length (hi - lo)else []):=by
 have⟨s,u,m⟩:=Yx h;by_cases e:(pre.length:Int) < t.1
 ·rw[Aw e];have n:(C2 t.2 (lo:Int) (hi:Int)).length=hi - lo:=by unfold C2;rw[Aq,Aq,Bx,At];omega
  have o:∀k,k < hi - lo->(C2 t.2 (lo:Int) (hi:Int))[k]? =t.2[lo+k]?:=λk d=>by unfold C2;rw[Aq,Aq,Do,DE,Aw (by omega)]
  have f:∀k,k < hi - lo->∃r,t.2[lo+k]? =some r∧r∈t.2∧AN r (pre.length:Int)=some (LH r (pre.length:Int)):=λk d=>by
   have a:lo+k < t.2.length:=by omega
   have v:=m _<|Ad a;exact⟨_,Ae a,Ad a,by rw[AI (by omega),Hi (by omega)]⟩
  unfold G7;rw[es,AV]
  have:=CD (body:=Eb t pre ((lo:Int),(hi:Int))) (out:=Z2 (C2 t.2 (lo:Int) (hi:Int)) pre.length (hi - lo)) (λk=>(Z2 (C2 t.2 (lo:Int) (hi:Int)) pre.length k,((lo+k:Nat):Int))) (hi - lo) (λk d c=>by
   have⟨r,g,w,p⟩:=f k d;have x:=cu (C2 t.2 (lo:Int) (hi:Int)) pre.length k
   have q:∀b:Bool,GI c (Z2 (C2 t.2 (lo:Int) (hi:Int)) pre.length k) ((lo+k:Nat):Int) (LH r (pre.length:Int)) b=c (Z2 (C2 t.2 (lo:Int) (hi:Int)) pre.length k++cond b [LH r (pre.length:Int)] [],((lo+(k+1):Nat):Int)):=λb=>by
    have i:wZ (((lo+k:Nat):Int)+1)=((lo+(k+1):Nat):Int):=by rw[wrap_in (by omega)];omega
    rw[GI];cases b with
    |true=>rw[Ac,A1 (by simp only[Al];unfold lim;omega),Ih,i];rfl
    |false=>rw[Ab,Ih,i,Ab,AR]
   rw[Eb,Z2,o k d,g];rw[Ai (by omega:((lo+k:Nat):Int) < (hi:Int)),Ac,Ai e,Ac,Hp,g,AV,p,AV,B8];rw[iv (by omega) (LH r (pre.length:Int)) (λb=>GI c (Z2 (C2 t.2 (lo:Int) (hi:Int)) pre.length k) ((lo+k:Nat):Int) (LH r (pre.length:Int)) b),q]) (λrec=>by
   rw[Eb];rw[Af (by omega:¬((lo+(hi - lo):Nat):Int) < (hi:Int))];rfl) fz (by unfold fz;omega)
  rw[show((([]:zI),(lo:Int)))=(Z2 (C2 t.2 (lo:Int) (hi:Int)) pre.length 0,((lo+0:Nat):Int))from rfl,this];rfl
 ·rw[Ay e];unfold G7;rw[es,AV];have:Ap (Eb t pre ((lo:Int),(hi:Int))) fz (([]:zI),(lo:Int))=some []:=CD (body:=Eb t pre ((lo:Int),(hi:Int))) (λ_=>(([]:zI),(lo:Int))) 0 (λk d=>absurd d (by omega)) (λrec=>by rw[Eb];rw[Af e];cases decide ((lo:Int) < (hi:Int))<;>rfl) fz (by unfold fz;omega);rw[show(((lo:Int),(hi:Int)):Int×Int).1=(lo:Int)from rfl,this];rfl
def Ahc{t pre}(h:Uv t pre.length){lo hi:Nat}(l:lo<=hi)(m:hi<=t.2.length)(n:H1 t pre=some ((lo:Int),(hi:Int))):Ir t pre=some (if(pre.length:Int) < t.1 then Z2 (C2 t.2 (lo:Int) (hi:Int)) pre.length (hi - lo)else []):=by
 have⟨o,v,p⟩:=Yx h;by_cases g:(pre.length:Int) < t.1
 ·rw[Aw g];have d:(C2 t.2 (lo:Int) (hi:Int)).length=hi - lo:=by unfold C2;rw[Aq,Aq,Bx,At];omega
  have q:∀k,k < hi - lo->(C2 t.2 (lo:Int) (hi:Int))[k]? =t.2[lo+k]?:=λk e=>by unfold C2;rw[Aq,Aq,Do,DE,Aw (by omega)]
  have f:∀k,k < hi - lo->∃r,t.2[lo+k]? =some r∧r∈t.2∧AN r (pre.length:Int)=some (LH r (pre.length:Int)):=λk e=>by
   have a:lo+k < t.2.length:=by omega
   have w:=p _<|Ad a;exact⟨_,Ae a,Ad a,by rw[AI (by omega),Hi (by omega)]⟩
  unfold Ir;rw[Af (by omega:¬t.1<=(pre.length:Int)),Ab];unfold Lk ON;rw[AV,dW o,AV,AV,h.1,An,Ab,n,AV,A1 (by simp only;omega)]
  have:=CD (body:=Gv t pre ((lo:Int),(hi:Int))) (out:=Z2 (C2 t.2 (lo:Int) (hi:Int)) pre.length (hi - lo)) (λk=>(Z2 (C2 t.2 (lo:Int) (hi:Int)) pre.length k,(k:Int))) (hi - lo) (λk e c=>by
   have⟨r,s,x,i⟩:=f k e;have y:=cu (C2 t.2 (lo:Int) (hi:Int)) pre.length k
   have u:∀b:Bool,Gw c pre (Z2 (C2 t.2 (lo:Int) (hi:Int)) pre.length k) (k:Int) r b=c (Z2 (C2 t.2 (lo:Int) (hi:Int)) pre.length k++cond b [LH r (pre.length:Int)] [],((k+1:Nat):Int)):=λb=>by
    have j:wZ ((k:Int)+1)=((k+1:Nat):Int):=by rw[wrap_in (by omega)];omega
    rw[Gw];cases b with
    |true=>rw[Ac,i,AV,A1 (by simp only[Al];unfold lim;omega),H0,j];rfl
    |false=>rw[Ab,H0,j,Ab,AR]
   rw[Gv,Z2];rw[d,Ai (by omega:(k:Int) < ((hi - lo:Nat):Int)),Ac,Hp,q k e,s,AV,i,B8];simp only[AV];rw[iv (by omega) (LH r (pre.length:Int)) (λb=>Gw c pre (Z2 (C2 t.2 (lo:Int) (hi:Int)) pre.length k) (k:Int) r b),u]) (λrec=>by
   rw[Gv];rw[d,Bc];rfl) fz (by unfold fz;omega)
  rw[show((([]:zI),(0:Int)))=(Z2 (C2 t.2 (lo:Int) (hi:Int)) pre.length 0,((0:Nat):Int))from rfl,this];rfl
 ·rw[Ay g];unfold Ir;rw[Ai (by omega:t.1<=(pre.length:Int))];rfl
def chB(t:YA)(pre:zI):zI:=(G7 t pre).getD []
def Ak9{t pre}(h:Uv t pre.length):G7 t pre=some (chB t pre):=by have⟨lo,hi,a,b,_,_,e⟩:=kF h;unfold chB;rw[Acz h a b e];rfl
def Akz{t pre}(h:Uv t pre.length):Ir t pre=some (chB t pre):=by have⟨lo,hi,a,b,c,d,e⟩:=kF h;unfold chB;rw[Acz h a b e,Ahc h a b (z6 h c d)];rfl
def Y2(q:Jz)(v:Int)(k:Nat):zN:=(List.range k).filter λi=>Hg q.2.1 i λa=>a.2.contains v
def Abj(q:Jz)(v:Int)(k:Nat):Y2 q v (k+1)=Y2 q v k++cond (Hg q.2.1 k λa=>a.2.contains v) [k] []:=by unfold Y2;rw[Fb,CA,Gn,EE];cases(Hg q.2.1 k λa=>a.2.contains v)<;>rfl
def cH(q:Jz)(v:Int)(k:Nat):(Y2 q v k).length<=k:=by unfold Y2;exact BC (Ca _ _) (by simp)
def ixB(q:Jz)(v:Int):zI:=(Y2 q v q.2.1.length).map λ(i:Nat)=>(i:Int)
def Alf{q}(a:Th q)(d:JZ q=true)(v:Int):Jk q v=some (ixB q v):=by
 unfold Jk;have e:=a.1;have g:=(WB d).2.2.1
 have:=CD (body:=FQ q v) (out:=ixB q v) (λk=>((Y2 q v k).map λ(i:Nat)=>(i:Int),(k:Int))) q.2.1.length (λk b c=>by
  have h:=cH q v k;have f:∀y,FR c (k:Int) y=c (y,((k+1:Nat):Int)):=λy=>by rw[FR,Bm b (Ba a.1)]
  rw[FQ,Abj,BV b,Bd];rw[Bi b,Ac,Zs a,AV,d,Ac,AI b,AV,tg (a.2.1 _<|Ad b).2,AV,f,f];cases q.2.1[k].2.contains v with
  |true=>rw[Ac,A1 (by rw[Aj];simp only[Al];unfold lim;omega)];rfl
  |false=>rw[Ab,Ab,CZ,AR]) (λrec=>by rw[FQ];rw[Bc];rfl) fz (DN a.1)
 rw[show((([]:zI),(0:Int)))=((Y2 q v 0).map λ(i:Nat)=>(i:Int),((0:Nat):Int))from rfl,this];rfl
def Adi{q v i}(h:i∈Y2 q v q.2.1.length):∃hi:i < q.2.1.length,(q.2.1[i]).2.contains v=true:=by unfold Y2 at h;have a:=Bj.1 h;have b:=AB.1 a.1;exact⟨b,by have:=a.2;rw[BV b]at this;exact this⟩
def jL(a:MA)(o:zI)(k:Nat):Nat:=((o.take k).filter a.2.contains).length
def Ahf(a:MA){o:zI}{k:Nat}(b:k < o.length):jL a o (k+1)=jL a o k+cond (a.2.contains o[k]) 1 0:=by unfold jL;rw[U9 _ b,Au];cases a.2.contains o[k]<;>rfl
def uy(a:MA)(o:zI)(k:Nat):jL a o k<=k:=by unfold jL;exact BC (Ca _ _) (by simp;omega)
structure TriesOk (T:List YA) (q:Jz) (o:zI):Prop where
 sm:Th q
 qv:JZ q=true
 ov:TB q o=true
 len:T.length=q.2.1.length
 rel:∀(i:Nat) (hi:i < q.2.1.length),Mr (T[i]'(by rw[len];exact hi))=true∧(T[i]'(by rw[len];exact hi)).1=((IG q.2.1[i] 5).length:Int)
def rI{T q o}(h:TriesOk T q o){i k:Nat}(hi:i < q.2.1.length)(e:k<=o.length):Uv (T[i]'(by rw[h.len];exact hi)) (jL q.2.1[i] o k):=by
 have a:=h.rel i hi;refine⟨a.1,?_⟩;rw[a.2];have b:=M8 h.ov;have f:=Sg h.qv;have:((o.take k).filter q.2.1[i].2.contains).length<=(IG q.2.1[i] 5).length:=kf ((b.2.1.sublist<|List.take_sublist _ _).sublist E7) λv d=>by have c:=Bj.1 d;have g:=b.2.2.1 v<|CB c.1;exact X8.2 ⟨by omega,c.2⟩
 unfold jL;omega
def Adj{q}(c:JZ q=true){v:Int}(h:0<=v)(j:v < q.1):(Y2 q v q.2.1.length).length≠0:=by
 unfold JZ at c;simp only[Aa,AH]at c;have d:=c.2.2.2.2;have b:=Cz.1 d v.toNat<|AB.2<|by omega
 rw[show((v.toNat:Nat):Int)=v by omega]at b;simp only[Gm,Dm]at b;unfold KV at b;have⟨a,f,g⟩:=Cx.1 b;obtain⟨i,hi,rfl⟩:=AY.1 f;have:i∈Y2 q v q.2.1.length:=by unfold Y2;exact Bj.2 ⟨AB.2 hi,by rw[BV hi];exact g⟩
 intro e;rw[Bp e]at this;cases this
def fP{d q o}(f:Th q)(g:E3 d q=true)(c:TB q o=true):TriesOk (q.2.1.map<|bH d o) q o:=by have a:=nh g;refine⟨f,a.1,c,by rw[Aj],λi hi=>?_⟩;have b:=Ad hi;have⟨h,e⟩:=ck a.1 c b<|a.2.2 _ b;rw[BL];refine⟨(nf e).1,?_⟩;show((jF q.2.1[i] o).length:Int)=_;exact e.2.1
def Ms(l:zI)(i:Nat)(t:Int):Nat:=i+((l.drop i).takeWhile λx=>decide (x < t)).length
def SC{l i t}(h:∀hi:i < l.length,¬l[i] < t):Ms l i t=i:=by
 unfold Ms;rcases Bb i l.length with hi|hi
 ·rw[BB hi,List.takeWhile_cons,Ay (by simpa using h hi)];rfl
 ·rw[CI hi];rfl
def cO{l i t}(hi:i < l.length)(h:l[i] < t):Ms l i t=Ms l (i+1) t:=by unfold Ms;rw[BB hi,List.takeWhile_cons,Aw (by simpa using h),AD];omega
def cP{l t}:∀(d i:Nat),i+d=l.length->i<=Ms l i t∧Ms l i t<=l.length∧(∀k (a:k < l.length),i<=k->k < Ms l i t->l[k] < t)∧(∀h:Ms l i t < l.length,t<=l[Ms l i t])
 |0,i,h=>by
  have e:Ms l i t=i:=SC λhi=>absurd hi (by omega)
  rw[e];exact⟨AJ _,by omega,λk a f b=>by omega,λh=>by omega⟩
 |d+1,i,h=>by
  have hi:i < l.length:=by omega
  by_cases c:l[i] < t
  ·have⟨f,b,j,m⟩:=cP (l:=l) (t:=t) d (i+1) (by omega);rw[cO hi c];refine⟨by omega,b,λk a o n=>?_,m⟩;rcases Bb i k with g|g
   ·exact j k a g n
   ·have:k=i:=by omega
    subst this;exact c
  ·have e:Ms l i t=i:=SC λ_=>c
   rw[e];exact⟨AJ _,by omega,λk a f b=>by omega,λ_=>by omega⟩
def AfU{l}{i:Nat}{t}(d:l.length<=lim)(hi:i<=l.length):Qs l (i:Int) t=some ((Ms l i t:Nat):Int):=by
 unfold Qs;rw[show(if(0:Int) < (i:Int)then(i:Int)else 0)=(i:Int)by split<;>omega]
 obtain⟨o,e,k,rfl,j,g⟩:=GV (B:=KF l t) (λs=>∃k:Nat,s=(k:Int)∧k<=l.length∧Ms l k t=Ms l i t) (λs=>l.length - s.toNat) (λo=>∃k:Nat,o=(k:Int)∧k<=l.length∧k=Ms l i t) (λs h=>by
  obtain⟨k,rfl,f,c⟩:=h;rcases Bb k l.length with a|a
  ·by_cases b:l[k] < t
   ·right;refine⟨((k+1:Nat):Int),⟨k+1,rfl,a,by rw[<-cO a b];exact c⟩,by simp only[Aq];omega,λrec=>?_⟩;unfold KF;rw[Bi a,AI a,Bm a (Ba d)];simp only[Ac,G];rw[Ai b];rfl
   ·left;refine⟨(k:Int),⟨k,rfl,f,by rw[<-c];exact(SC λ_=>b).symm⟩,λrec=>?_⟩;unfold KF;rw[Bi a,AI a];simp only[Ac,G];rw[Af b];rfl
  ·left;refine⟨(k:Int),⟨k,rfl,f,by rw[<-c];exact(SC λhi=>absurd hi<|by omega).symm⟩,λrec=>?_⟩;unfold KF;rw[Af (by omega)];rfl) fz (i:Int) ⟨i,rfl,hi,rfl⟩ (by unfold fz;unfold lim at d;omega)
 rw[e];simp only[G];rw[<-g];rw[Ay (by omega:¬(l.length:Int) < 0),Ay (by omega)]
def gL(M:List zI)(j:Nat):zI:=(M[j]?).getD []
def gN(A:zN)(j:Nat):Nat:=(A[j]?).getD 0
def gI(l:zI)(i:Nat):Int:=(l[i]?).getD 0
def TL{M j}(h:j < M.length):gL M j=M[j]:=by unfold gL;rw[Ae h];rfl
def Ahq{A j}(h:j < A.length):gN A j=A[j]:=by unfold gN;rw[Ae h];rfl
def PE{l i}(h:i < l.length):gI l i=l[i]:=by unfold gI;rw[Ae h];rfl
def dS{A p j v}(a:p < A.length):gN (A.set p v) j=if j=p then v else gN A j:=by
 unfold gN;rw[Ha];by_cases h:p=j
 ·subst h;rw[Aw rfl,Aw a,Aw rfl];rfl
 ·rw[Ay h,Ay (λe=>h e.symm)]
abbrev LfS:=zI×zN×Nat×Int×Nat
def bz(M:List zI)(s:LfS):Nat:=cond (gI (gL M s.2.2.1) (gN s.2.1 s.2.2.1)==s.2.2.2.1) (gN s.2.1 s.2.2.1+1)<|Ms (gL M s.2.2.1) (gN s.2.1 s.2.2.1) s.2.2.2.1
def lfO(M:List zI)(s:LfS):zI:=cond (gI (gL M s.2.2.1) (gN s.2.1 s.2.2.1)==s.2.2.2.1) (s.1++[s.2.2.2.1]) s.1
def lfR(M:List zI):Nat->LfS->Option (zI×Nat)
 |0,_=>none
 |m+1,s=>cond (bz M s==(gL M s.2.2.1).length) (some (lfO M s,s.2.2.2.2+1))<|lfR M m (lfO M s,s.2.1.set s.2.2.1<|bz M s,(s.2.2.1+1) % M.length,gI (gL M s.2.2.1)<|bz M s,s.2.2.2.2+1)
def Asc(l:zI):Prop:=l.Pairwise λa b=>a < b
def val(M:List zI)(A:zN)(j:Nat):Int:=gI (gL M j)<|gN A j
def WC(M:List zI)(A:zN):Nat->Nat
 |0=>0
 |k+1=>WC M A k+((gL M k).length - gN A k)
def Comm(M:List zI)(x:Int):Prop:=∀l∈M,x∈l
structure LfOk (M:List zI) (s:LfS):Prop where
 len:s.2.1.length=M.length
 p:s.2.2.1 < M.length
 at_:∀j,j < M.length->gN s.2.1 j < (gL M j).length
 ord:∀a b,a<=b->b < M.length->val M s.2.1 ((s.2.2.1+a) % M.length)<=val M s.2.1 ((s.2.2.1+b) % M.length)
 top:val M s.2.1 ((s.2.2.1+(M.length - 1)) % M.length)=s.2.2.2.1
 asc:Asc s.1
 low:∀x∈s.1,x < s.2.2.2.1
 com:∀x∈s.1,Comm M x
 all:∀x,Comm M x->x∈s.1∨s.2.2.2.1<=x
section
variable {M:List zI}{s:LfS}
def j4{l}(h:Asc l){i j:Nat}(b:j < l.length)(a:i < j):l[i]'(by omega) < l[j]:=BK.1 h i j (by omega) b a
def jo{l}(h:Asc l){x:Int}(c:x∈l){i:Nat}(hi:∀k (b:k < l.length),k < i->l[k] < x)(d:i < l.length):l[i]<=x:=by
 obtain⟨k,b,rfl⟩:=AY.1 c;rcases Nat.lt_trichotomy k i with a|a|a
 ·exact absurd (hi k b a) (by omega)
 ·subst a;exact HN _
 ·exact P9<|j4 h b a
def j7(h:LfOk M s):∃a:gN s.2.1 s.2.2.1 < (gL M s.2.2.1).length,gI (gL M s.2.2.1) (gN s.2.1 s.2.2.1)=(gL M s.2.2.1)[gN s.2.1 s.2.2.1]∧(gL M s.2.2.1)[gN s.2.1 s.2.2.1]<=s.2.2.2.1:=by have a:=h.at_ _ h.p;refine⟨a,PE a,?_⟩;have b:=h.ord 0 (M.length - 1) (by omega) (by have:=h.p;omega);rw[CG,Du h.p,h.top]at b;unfold val at b;rw[PE a]at b;exact b
def j5(h:LfOk M s):gN s.2.1 s.2.2.1 < bz M s∧bz M s<=(gL M s.2.2.1).length:=by
 have⟨c,d,i⟩:=j7 h;unfold bz;cases e:(gI (gL M s.2.2.1) (gN s.2.1 s.2.2.1)==s.2.2.2.1)with
 |true=>exact⟨Md _,c⟩
 |false=>
  have a:¬gI (gL M s.2.2.1) (gN s.2.1 s.2.2.1)=s.2.2.2.1:=by simpa using e
  rw[d]at a;have b:(gL M s.2.2.1)[gN s.2.1 s.2.2.1] < s.2.2.2.1:=by omega
  have⟨j,f,k,m⟩:=cP (l:=gL M s.2.2.1) (t:=s.2.2.2.1) ((gL M s.2.2.1).length - gN s.2.1 s.2.2.1) (gN s.2.1 s.2.2.1) (by omega);have g:Ms (gL M s.2.2.1) (gN s.2.1 s.2.2.1) s.2.2.2.1=Ms (gL M s.2.2.1) (gN s.2.1 s.2.2.1+1) s.2.2.2.1:=cO c b;have⟨n,_⟩:=cP (l:=gL M s.2.2.1) (t:=s.2.2.2.1) ((gL M s.2.2.1).length - (gN s.2.1 s.2.2.1+1)) (gN s.2.1 s.2.2.1+1) (by omega);exact⟨by rw[Ab,g];omega,f⟩
def Un{j}(a:j < M.length):gL M j∈M:=by rw[TL a];exact Ad a
def vC(h:LfOk M s)(I:∀l∈M,Asc l):Asc (lfO M s)∧(∀x∈lfO M s,Comm M x∧x<=s.2.2.2.1)∧(∀x,Comm M x->x∈lfO M s∨∃hi:bz M s < (gL M s.2.2.1).length,(gL M s.2.2.1)[bz M s]<=x)∧(∀hi:bz M s < (gL M s.2.2.1).length,s.2.2.2.1<=(gL M s.2.2.1)[bz M s]∧∀x∈lfO M s,x < (gL M s.2.2.1)[bz M s]):=by
 have⟨B,u,L⟩:=j7 h;have n:=I _<|Un h.p;unfold bz lfO;cases C:(gI (gL M s.2.2.1) (gN s.2.1 s.2.2.1)==s.2.2.2.1)with
 |true=>
  have v:gI (gL M s.2.2.1) (gN s.2.1 s.2.2.1)=s.2.2.2.1:=by simpa using C
  rw[u]at v;simp only[Ac]
  have o:Comm M s.2.2.2.1:=by
   intro l w;obtain⟨j,r,rfl⟩:=AY.1 w
   have g:∃a,a < M.length∧(s.2.2.1+a) % M.length=j:=by
    rcases Bb j s.2.2.1 with e|e
    ·refine⟨j+M.length - s.2.2.1,by have:=h.p;omega,?_⟩;rw[show s.2.2.1+(j+M.length - s.2.2.1)=j+M.length by have:=h.p;omega,Nat.add_mod_right,Du r]
    ·exact⟨j - s.2.2.1,by omega,by rw[show s.2.2.1+(j - s.2.2.1)=j by omega,Du r]⟩
   have⟨a,y,D⟩:=g;have e:=h.ord 0 a (by omega) y;have i:=h.ord a (M.length - 1) (by omega) (by omega);rw[CG,Du h.p]at e;rw[h.top,D]at i;rw[D]at e;unfold val at e i;have p:=h.at_ j r;rw[u,v]at e;rw[PE p]at e i;have:(gL M j)[gN s.2.1 j]=s.2.2.2.1:=by omega
   have q:=Ad p;rw[this,TL r]at q;exact q
  refine⟨?_,?_,?_,?_⟩
  ·refine GX.2 ⟨h.asc,D2 _ _,λa y b F=>?_⟩;rw[AC]at F;subst F;exact h.low a y
  ·intro x d;rcases Ak.1 d with d|d
   ·exact⟨h.com x d,P9<|h.low x d⟩
   ·rw[AC]at d;subst d;exact⟨o,HN _⟩
  ·intro x d;rcases h.all x d with e|e
   ·exact .inl<|AF _ e
   ·by_cases z:x=s.2.2.2.1
    ·left;subst z;exact Az _ (by simp)
    ·right;have f:=d _<|Un h.p
     have c:∀k (g:k < (gL M s.2.2.1).length),k < gN s.2.1 s.2.2.1+1->(gL M s.2.2.1)[k] < x:=λk g i=>by
      rcases Bb k (gN s.2.1 s.2.2.1)with m|m
      ·have:=j4 n B m;omega
      ·have:k=gN s.2.1 s.2.2.1:=by omega
       subst this;omega
     have hi:gN s.2.1 s.2.2.1+1 < (gL M s.2.2.1).length:=by apply BO;intro J;obtain⟨k,g,rfl⟩:=AY.1 f;have:=c k g (by omega);omega
     exact⟨hi,jo n f c hi⟩
  ·intro hi;have e:=j4 n hi<|Md _;rw[v]at e;refine⟨P9 e,λx d=>?_⟩;rcases Ak.1 d with d|d
   ·have:=h.low x d;omega
   ·rw[AC]at d;subst d;exact e
 |false=>
  have A:¬gI (gL M s.2.2.1) (gN s.2.1 s.2.2.1)=s.2.2.2.1:=by simpa using C
  rw[u]at A;simp only[Ab];have⟨N,O,K,H⟩:=cP (l:=gL M s.2.2.1) (t:=s.2.2.2.1) ((gL M s.2.2.1).length - gN s.2.1 s.2.2.1) (gN s.2.1 s.2.2.1) (by omega);refine⟨h.asc,λx d=>⟨h.com x d,P9<|h.low x d⟩,λx d=>?_,λhi=>⟨H hi,λx d=>by have:=h.low x d;have:=H hi;omega⟩⟩;rcases h.all x d with e|e
  ·exact .inl e
  ·right;have f:=d _<|Un h.p
   have c:∀k (g:k < (gL M s.2.2.1).length),k < Ms (gL M s.2.2.1) (gN s.2.1 s.2.2.1) s.2.2.2.1->(gL M s.2.2.1)[k] < x:=λk g i=>by
    rcases Bb k (gN s.2.1 s.2.2.1)with m|m
    ·have:=j4 n B m;omega
    ·have:=K k g m i;omega
   have hi:Ms (gL M s.2.2.1) (gN s.2.1 s.2.2.1) s.2.2.2.1 < (gL M s.2.2.1).length:=by apply BO;intro J;obtain⟨k,g,rfl⟩:=AY.1 f;have:=c k g (by omega);omega
   exact⟨hi,jo n f c hi⟩
def j6(h:LfOk M s)(t:∀l∈M,Asc l)(hi:bz M s < (gL M s.2.2.1).length):LfOk M (lfO M s,s.2.1.set s.2.2.1<|bz M s,(s.2.2.1+1) % M.length,gI (gL M s.2.2.1)<|bz M s,s.2.2.2.2+1):=by
 have f:s.2.2.1 < s.2.1.length:=by rw[h.len];exact h.p
 have o:0 < M.length:=by have:=h.p;omega
 have⟨u,v,w,y⟩:=vC h t;have⟨C,z⟩:=y hi
 have p:∀j,val M (s.2.1.set s.2.2.1<|bz M s) j=if j=s.2.2.1 then(gL M s.2.2.1)[bz M s]else val M s.2.1 j:=λj=>by
  unfold val;rw[dS f];by_cases g:j=s.2.2.1
  ·subst g;rw[Aw rfl,Aw rfl,PE hi]
  ·rw[Ay g,Ay g]
 have c:∀a,a < M.length->((s.2.2.1+1) % M.length+a) % M.length=if a+1=M.length then s.2.2.1 else(s.2.2.1+(a+1)) % M.length:=λa D=>by
  rw[Nat.mod_add_mod];split
  ·rename_i i;rw[show s.2.2.1+1+a=s.2.2.1+M.length by omega,Nat.add_mod_right,Du h.p]
  ·rw[show s.2.2.1+1+a=s.2.2.1+(a+1)by omega]
 have d:∀a,0 < a->a < M.length->(s.2.2.1+a) % M.length≠s.2.2.1:=λa F i r=>by
  rcases Bb (s.2.2.1+a) M.length with q|q
  ·rw[Du q]at r;omega
  ·rw[Nat.mod_eq_sub_mod q,Du (by have:=h.p;omega)]at r;omega
 refine⟨by simp only[Ch];exact h.len,Qb _ o,λj g=>?_,λa b A B=>?_,?_,u,λx k=>?_,λx k=>(v x k).1,λx k=>?_⟩
 ·simp only;rw[dS f];split
  ·rename_i e;subst e;exact hi
  ·exact h.at_ j g
 ·simp only;rw[c a (by omega),c b B,p,p];by_cases m:b+1=M.length
  ·rw[Aw m,Aw rfl];by_cases n:a+1=M.length
   ·rw[Aw n,Aw rfl];exact HN _
   ·rw[Ay n,Ay (d (a+1) (by omega)<|by omega)];have:=h.ord (a+1) (M.length - 1) (by omega) (by omega);rw[h.top]at this;omega
  ·rw[Ay m,Ay (by omega:¬a+1=M.length),Ay (d (b+1) (by omega)<|by omega),Ay (d (a+1) (by omega)<|by omega)];exact h.ord (a+1) (b+1) (by omega) (by omega)
 ·simp only;rw[c (M.length - 1) (by omega),Aw (by omega),p,Aw rfl,PE hi]
 ·simp only;rw[PE hi];exact z x k
 ·simp only;rw[PE hi];rcases w x k with i|⟨_,i⟩
  ·exact .inl i
  ·exact .inr i
def cM{A p v}(a:p < A.length)(d:gN A p < v)(e:v<=(gL M p).length):∀K,(K<=p->WC M (A.set p v) K=WC M A K)∧(p < K->WC M (A.set p v) K < WC M A K)
 |0=>⟨λ_=>rfl,λh=>absurd h<|by omega⟩
 |K+1=>by
  have⟨b,f⟩:=cM a d e K;rw[WC,WC,dS a];refine⟨λh=>?_,λh=>?_⟩
  ·rw[b (by omega),Ay (by omega)]
  ·by_cases c:K=p
   ·subst c;rw[b (AJ _),Aw rfl];omega
   ·rw[Ay c];have:=f (by omega);omega
def vD(hA:∀l∈M,Asc l):∀(m:Nat) (s:LfS),LfOk M s->WC M s.2.1 M.length < m->∃out n,lfR M m s=some (out,n)∧Asc out∧(∀x,x∈out↔Comm M x)∧n<=s.2.2.2.2+WC M s.2.1 M.length
 |0,s,h,hm=>by omega
 |m+1,s,h,hm=>by
  have⟨o1,o2,o3,o4⟩:=vC h hA;have⟨n1,n2⟩:=j5 h;have hpl:s.2.2.1 < s.2.1.length:=by rw[h.len];exact h.p
  have hrem:=(cM (M:=M) hpl n1 n2 M.length).2 h.p;rw[lfR];cases hc:(bz M s==(gL M s.2.2.1).length)with
  |true=>
   have hc:bz M s=(gL M s.2.2.1).length:=by simpa using hc
   refine⟨_,_,rfl,o1,λx=>⟨λhx=>(o2 x hx).1,λhx=>?_⟩,by omega⟩;rcases o3 x hx with h1|⟨h1,_⟩
   ·exact h1
   ·omega
  |false=>
   have hc:¬bz M s=(gL M s.2.2.1).length:=by simpa using hc
   have⟨out,n,e,q1,q2,q3⟩:=vD hA m _ (j6 h hA<|by omega) (by simp only;omega);exact⟨out,n,e,q1,q2,by simp only at q3;omega⟩
end
end Go.Proofs.YtdnlfoelbfcmnaaGreatDoor
