/-
 Systems of linear equations, the whole; products; points on a side: what both give. No conditions.
-/
import Derived.Test.YtplejokflpkcbaaGreatDoorSwPC1
open Go.RowKit
set_option linter.unusedVariables false
set_option linter.unusedSimpArgs false
namespace Go.Proofs.YtplejokflpkcbaaGreatDoor
theorem XL{α O:Type}{g:Nat->Sum α O}{h:Nat->α}:∀(j k:Nat),(∀i,k<=i->i < k+j->g i=.inl (h i))->Nm g j k=.inl ((List.range' k j).map h)
 |0,_,_=>rfl
 |j+1,k,hh=>by
  rw[Nm,hh k (Bl _) (by omega),XL j (k+1) (λi h1 h2=>hh i (by omega) (by omega)),C4];rfl
theorem bQ{α O:Type}{g:Nat->Sum α O}{o:O}{i:Nat}(hi:g i=.inr o):∀(j k:Nat),(∀i,k<=i->i < k+j->(∃x,g i=.inl x)∨g i=.inr o)->k<=i->i < k+j->Nm g j k=.inr o
 |0,k,_,h1,h2=>by omega
 |j+1,k,hh,h1,h2=>by
  rw[Nm]
  rcases hh k (Bl _) (by omega)with⟨x,hx⟩|hx
  ·rw[hx]
   by_cases e:k=i
   ·subst e;rw[hi]at hx;cases hx
   ·simp only
    rw[bQ hi j (k+1) (λi h1 h2=>hh i (by omega) (by omega)) (by omega) (by omega)]
  ·rw[hx]
theorem YU{α O:Type}(c:Nat->Bool)(h:Nat->α)(o:O)(n:Nat):Nm (λk=>cond (c k) (.inl (h k)) (.inr o)) n 0=cond ((List.range n).all c) (.inl ((List.range' 0 n).map h)) (.inr o):=by
 cases hc:(List.range n).all c with
 |true=>
  rw[Ac]
  exact XL n 0 λi _ hi=>by
   rw[Ae.1 hc i (An.2 (by omega))];rfl
 |false=>
  rw[Ad]
  obtain⟨i,hi,hb⟩:=List.all_eq_false.1 hc
  rw[An]at hi
  have hb:c i=false:=by simpa using hb
  refine bQ (i:=i) (by rw[hb];rfl) n 0 (λi _ _=>?_) (by omega) (by omega)
  cases c i with
  |true=>exact .inl ⟨_,rfl⟩
  |false=>exact .inr rfl
theorem t5(b:List Rt):(List.range b.length).all (λk=>HK (atR b k))=b.all HK:=by
 rw[AL,Ae,Ae]
 constructor
 ·intro h x hx
  obtain⟨i,hi,rfl⟩:=En hx
  rw[J7 hi];exact h i (An.2 hi)
 ·intro h i hi
  rw[An]at hi
  rw[<-J7 hi];exact h _ (Ak hi)
theorem tZ(a:Mx)(f:List Rt->Bool):(List.range a.length).all (λk=>f (EO a k))=a.all f:=by
 rw[AL,Ae,Ae]
 constructor
 ·intro h x hx
  obtain⟨i,hi,rfl⟩:=En hx
  rw[Jv hi];exact h i (An.2 hi)
 ·intro h i hi
  rw[An]at hi
  rw[<-Jv hi];exact h _ (Ak hi)
theorem ie{a:Mx}{b:List Rt}(h:Vi a b=true):QK b.length (b.length+1) (Ux a b):=by
 unfold Vi at h
 simp only[Ab,Bi]at h
 refine⟨by unfold Ux;simp,λi hi=>?_⟩
 have ha:i < a.length:=by rw[h.1];exact hi
 have hr:=Ae.1 h.2.1 _ (Ak ha)
 unfold rowOk at hr
 rw[Ab,Bi,Jv ha]at hr
 unfold Ux
 have:EO ((List.range' 0 b.length).map λk=>EO a k++[atR b k]) i=EO a i++[atR b i]:=by
  rw[<-Jv (by simp;exact hi),BQ]
  simp
 rw[this,Ar,hr.1];rfl
theorem xt{b:List Rt}{m:Mx}(h:QK b.length (b.length+1) m)(hl:b.length<=lim):Ap (LL b m) fz ([],0)=some (Nm (RV b.length m) b.length 0):=by
 rw[show(([]:List Rt),(0:Int))=(λ(s:List Rt) (k:Nat)=>(s,(k:Int))) [] 0 from rfl,
  EK (n:=b.length) (O:=List Rt×Bool) (λs k=>(s,(k:Int))) (λk s=>s.length=k) (λk s=>aY s (RV b.length m k)) id hl (λrec s k hk hi=>?_) (λrec s hi=>?_) (λk s s' hk hi hs=>?_) [] rfl]
 ·rw[PX]
  cases Nm (RV b.length m) b.length 0<;>rfl
 ·show cond (decide ((s:Int) < (b.length:Int))) _ _=_
  rw[Bu hk,Ac,Hn (by rw[h.1];exact hk)]
  simp only[Aa]
  rw[Em (by rw[h.2 s hk];omega),Em (by rw[h.2 s hk];omega)]
  simp only[Aa]
  rw[kQ]
  simp only[Aa]
  unfold RV
  cases(Qo (atR (EO m s) b.length) (atR (EO m s) s)).2 with
  |false=>rfl
  |true=>
   rw[Al,Ad,AH (by rw[hi,At];unfold lim at hl⊢;omega),BC hk (Be hl)]
   rfl
 ·show cond (decide ((b.length:Int) < (b.length:Int))) _ _=_
  rw[Ba];rfl
 ·unfold RV at hs
  cases hc:(Qo (atR (EO m k) b.length) (atR (EO m k) k)).2 with
  |false=>rw[hc]at hs;cases hs
  |true=>rw[hc]at hs;cases hs;rw[Ar,hi];rfl
theorem uQ{b:List Rt}{m:Mx}(h:QK b.length (b.length+1) m)(hl:b.length<=lim):Ap (LH b m) fz ([],0)=some (Nm (RV b.length m) b.length 0):=by
 rw[show(([]:List Rt),(0:Int))=(λ(s:List Rt) (k:Nat)=>(s,(k:Int))) [] 0 from rfl,
  EK (n:=b.length) (O:=List Rt×Bool) (λs k=>(s,(k:Int))) (λk s=>s.length=k) (λk s=>aY s (RV b.length m k)) id hl (λrec s k hk hi=>?_) (λrec s hi=>?_) (λk s s' hk hi hs=>?_) [] rfl]
 ·rw[PX]
  cases Nm (RV b.length m) b.length 0<;>rfl
 ·show cond (decide ((s:Int) < (b.length:Int))) _ _=_
  rw[Bu hk,Ac,Hn (by rw[h.1];exact hk)]
  simp only[Aa]
  rw[Em (by rw[h.2 s hk];omega),Em (by rw[h.2 s hk];omega)]
  simp only[Aa]
  rw[jd]
  simp only[Aa]
  unfold RV
  cases(Qo (atR (EO m s) b.length) (atR (EO m s) s)).2 with
  |false=>rfl
  |true=>
   rw[Al,Ad,AH (by rw[hi,At];unfold lim at hl⊢;omega),BC hk (Be hl)]
   rfl
 ·show cond (decide ((b.length:Int) < (b.length:Int))) _ _=_
  rw[Ba];rfl
 ·unfold RV at hs
  cases hc:(Qo (atR (EO m k) b.length) (atR (EO m k) k)).2 with
  |false=>rw[hc]at hs;cases hs
  |true=>rw[hc]at hs;cases hs;rw[Ar,hi];rfl
theorem w7{a:Mx}{b:List Rt}(hl:b.length<=6)(ha:a.length=b.length)(hr:a.all (rowOk b.length)=true):Ap (LI a b) fz ([],0)=some (cond (b.all HK) (.inl (Ux a b)) (.inr ([],false))):=by
 have hn:b.length<=lim:=by unfold lim;omega
 rw[show(([]:Mx),(0:Int))=(λ(s:Mx) (k:Nat)=>(s,(k:Int))) [] 0 from rfl,
  EK (n:=b.length) (O:=List Rt×Bool) (λs k=>(s,(k:Int))) (λk s=>s.length=k) (λk s=>aY s (cond (HK (atR b k)) (.inl (EO a k++[atR b k])) (.inr ([],false)):Sum (List Rt) (List Rt×Bool))) id hn (λrec s k hk hi=>?_) (λrec s hi=>?_) (λk s s' hk hi hs=>?_) [] rfl]
 ·rw[PX,YU,t5]
  unfold Ux
  cases b.all HK<;>rfl
 ·have hka:s < a.length:=by rw[ha];exact hk
  have hrl:=Ae.1 hr _ (Ak hka)
  unfold rowOk at hrl
  rw[Ab,Bi,Jv hka]at hrl
  show cond (decide ((s:Int) < (b.length:Int))) _ _=_
  rw[Bu hk,Ac,Em hk]
  simp only[Aa]
  rw[Rb]
  simp only[Aa]
  cases HK (atR b s)with
  |false=>rfl
  |true=>
   rw[Al,Ad,Hn hka]
   simp only[Aa]
   rw[AH (by rw[hrl.1];simp;unfold lim;omega),AH (by rw[Bq,hrl.1,At];unfold lim;omega),AH (by rw[hi,At];unfold lim;omega),BC hk (Be hn),Bq]
   rfl
 ·show cond (decide ((b.length:Int) < (b.length:Int))) _ _=_
  rw[Ba];rfl
 ·cases hc:HK (atR b k)with
  |false=>rw[hc]at hs;cases hs
  |true=>rw[hc]at hs;cases hs;rw[Ar,hi];rfl
theorem uD{a:Mx}{b:List Rt}(hl:b.length<=6)(ha:a.length=b.length):Ap (LD a b) fz ([],0)=some (cond (a.all (rowOk b.length)) (.inl (Ux a b)) (.inr ([],false))):=by
 have hn:b.length<=lim:=by unfold lim;omega
 rw[show(([]:Mx),(0:Int))=(λ(s:Mx) (k:Nat)=>(s,(k:Int))) [] 0 from rfl,
  EK (n:=b.length) (O:=List Rt×Bool) (λs k=>(s,(k:Int))) (λk s=>s.length=k) (λk s=>aY s (cond (rowOk b.length (EO a k)) (.inl (EO a k++[atR b k])) (.inr ([],false)):Sum (List Rt) (List Rt×Bool))) id hn (λrec s k hk hi=>?_) (λrec s hi=>?_) (λk s s' hk hi hs=>?_) [] rfl]
 ·rw[PX,YU,<-ha,tZ,ha]
  unfold Ux
  cases a.all (rowOk b.length)<;>rfl
 ·have hka:s < a.length:=by rw[ha];exact hk
  show cond (decide ((s:Int) < (a.length:Int))) _ _=_
  rw[Bu hka,Ac,Hn hka]
  simp only[Aa]
  unfold rowOk
  by_cases hrl:(EO a s).length=b.length
  ·rw[hrl,Dk,Ad,BY,Aw,VT (by rw[hrl];exact hn)]
   simp only[Aa]
   cases(EO a s).all HK with
   |false=>rfl
   |true=>
    rw[Al,Ad]
    unfold Hr
    rw[AH (by rw[hrl];simp;unfold lim;omega),Bq]
    simp only[Aa]
    rw[Em hk]
    simp only[Aa]
    rw[AH (by rw[hrl,At];unfold lim;omega),AH (by rw[hi,At];unfold lim;omega),BC hk (Be hn)]
    rfl
  ·rw[show(((EO a s).length:Int)!=(b.length:Int))=true from by rw[Ct];omega,Ac,show((EO a s).length==b.length)=false from by simpa using hrl]
   rfl
 ·show cond (decide ((b.length:Int) < (a.length:Int))) _ _=_
  rw[ha,Ba];rfl
 ·cases hc:rowOk b.length (EO a k)with
  |false=>rw[hc]at hs;cases hs
  |true=>rw[hc]at hs;cases hs;rw[Ar,hi];rfl
theorem xr{a:Mx}{b:List Rt}(ha:a.length<=lim)(hb:b.length<=lim):G9 a b=some (Rh a b):=by
 unfold G9 Rh
 cases h6:decide (6 < (b.length:Int))with
 |true=>rfl
 |false=>
  have hl:b.length<=6:=by have:=Ie h6;omega
  rw[Ad,Ad,nG ha hb]
  simp only[Aa]
  unfold Vi
  by_cases hal:a.length=b.length
  ·rw[hal,BY,BY,Aw,Cu]
   cases hr:a.all (rowOk b.length)with
   |false=>rfl
   |true=>
    rw[Al,Ad,w7 hl hal hr,Aw]
    simp only[Aa]
    cases hv:b.all HK with
    |false=>rfl
    |true=>
     rw[Ac,Ac]
     have ho:=ie (a:=a) (b:=b) (by unfold Vi;rw[hal,BY,hr,hv];rfl)
     have hg:=fp hl b.length 0 (Ux a b) fz (by omega) (CQ hb) ho
     rw[show((0:Nat):Int)=0 from rfl]at hg
     simp only[Aa]
     rw[hg]
     cases hm:OK b.length b.length 0 (Ux a b)with
     |none=>rfl
     |some m=>
      simp only[Aa]
      rw[xt (VR (by omega) ho hm) hb]
      simp only[Aa]
      cases Nm (RV b.length m) b.length 0<;>rfl
  ·rw[show((a.length:Int)==(b.length:Int))=false from by rw[A3];omega,FC,show(a.length==b.length)=false from by simpa using hal]
   rfl
theorem uP{a:Mx}{b:List Rt}(hb:b.length<=lim):G2 a b=some (Rh a b):=by
 unfold G2 Rh
 cases h6:decide (6 < (b.length:Int))with
 |true=>rfl
 |false=>
  have hl:b.length<=6:=by have:=Ie h6;omega
  rw[Ad,Ad]
  unfold Vi
  by_cases hal:a.length=b.length
  ·rw[hal,Dk,BY,Aw,Ad,VT hb]
   simp only[Aa]
   cases hv:b.all HK with
   |false=>rw[FC];rfl
   |true=>
    rw[Al,Ad,uD hl hal,Cu]
    simp only[Aa]
    cases hr:a.all (rowOk b.length)with
    |false=>rfl
    |true=>
     rw[Ac,Ac]
     have ho:=ie (a:=a) (b:=b) (by unfold Vi;rw[hal,BY,hr,hv];rfl)
     have hg:=eG hl b.length 0 (Ux a b) fz (by omega) (CQ hb) ho
     rw[show((0:Nat):Int)=0 from rfl]at hg
     simp only[Aa]
     rw[hg]
     cases hm:OK b.length b.length 0 (Ux a b)with
     |none=>rfl
     |some m=>
      simp only[Aa]
      rw[uQ (VR (by omega) ho hm) hb]
      simp only[Aa]
      cases Nm (RV b.length m) b.length 0<;>rfl
  ·rw[show((a.length:Int)!=(b.length:Int))=true from by rw[Ct];omega,show(a.length==b.length)=false from by simpa using hal]
   rfl
theorem U2{α O:Type}{P:O->Prop}{g:Nat->Sum α O}(h:∀k o,g k=.inr o->P o):∀{j k:Nat}{o:O},Nm g j k=.inr o->P o
 |0,_,_,e=>by cases e
 |j+1,k,o,e=>by
  rw[Nm]at e
  cases hg:g k with
  |inr o'=>rw[hg]at e;cases e;exact h k _ hg
  |inl x=>
   rw[hg]at e
   cases hm:Nm g j (k+1)with
   |inl l=>simp only[hm]at e;cases e
   |inr o'=>simp only[hm]at e;cases e;exact U2 h hm
theorem nM{a:Mx}{b x:List Rt}(h:Rh a b=(x,true)):x.length=b.length:=by
 unfold Rh at h
 cases h6:decide (6 < (b.length:Int))with
 |true=>rw[h6]at h;cases h
 |false=>
  rw[h6,Ad]at h
  cases hs:Vi a b with
  |false=>rw[hs]at h;cases h
  |true=>
   rw[hs,Ac]at h
   cases hg:OK b.length b.length 0 (Ux a b)with
   |none=>rw[hg]at h;cases h
   |some m=>
    rw[hg]at h
    cases hm:Nm (RV b.length m) b.length 0 with
    |inl y=>simp only[hm]at h;cases h;exact U3 hm
    |inr o=>
     simp only[hm]at h
     exfalso
     have:=U2 (P:=λo=>o.2=false) (g:=RV b.length m) (λk o ho=>by
      unfold RV at ho
      cases hc:(Qo (atR (EO m k) b.length) (atR (EO m k) k)).2 with
      |false=>rw[hc]at ho;cases ho;rfl
      |true=>rw[hc]at ho;cases ho) hm
     rw[h]at this;cases this
abbrev LP:=Mx×List Rt×List Rt
def eo:Rt×Bool:=((0,0),false)
def WD(a b:List Rt)(k:Nat)(x:Rt):Sum Rt (Rt×Bool):=cond (HS (atR a k) (atR b k)).2 (cond (Ud x (HS (atR a k) (atR b k)).1).2 (.inl (Ud x (HS (atR a k) (atR b k)).1).1) (.inr eo)) (.inr eo)
def J8(a b:List Rt):Rt×Bool:=cond ((a.length:Int)!=(b.length:Int)) eo (match M0 (WD a b) a.length 0 (0,1)with
 |.inl x=>(x,true)
 |.inr o=>o)
theorem oY{a b:List Rt}(h:a.length<=lim):JU a b=some (J8 a b):=by
 unfold JU J8
 cases hc:(a.length:Int)!=(b.length:Int)with
 |true=>rfl
 |false=>
  have hb:a.length=b.length:=by have:=HJ.1 hc;omega
  rw[Ad,Ad]
  have hr:=EK (B:=P1 a b) (n:=a.length) (λ(s:Rt) k=>(s.1,s.2,(k:Int))) (λ_ _=>True) (WD a b) (λo=>match o with|.inl x=>.inl (x.1,x.2)|.inr o=>.inr o) h (λrec k s hk _=>by
   show cond (decide ((k:Int) < (a.length:Int))) _ _=_
   rw[Bu hk,Ac,Em hk,Em (by rw[<-hb];exact hk)]
   simp only[Aa]
   rw[kR]
   simp only[Aa]
   unfold WD
   cases(HS (atR a k) (atR b k)).2 with
   |false=>rfl
   |true=>
    rw[Al,Ad,kP]
    simp only[Aa]
    rw[BC hk (Be h)]
    cases hq:(Ud s (HS (atR a k) (atR b k)).1).2 with
    |false=>simp only[hq,Ac,Ad,CD];rfl
    |true=>simp only[hq,Ac,Ad,Al]) (λrec s _=>by
   show cond (decide ((a.length:Int) < (a.length:Int))) _ _=_
   rw[Ba];rfl) (λ_ _ _ _ _ _=>trivial) (0,1) trivial
  rw[show((0:Int),(1:Int),(0:Int))=(((0,1):Rt).1,((0,1):Rt).2,((0:Nat):Int))from rfl,hr]
  simp only[Aa]
  cases M0 (WD a b) a.length 0 (0,1)<;>rfl
theorem oy{a b:List Rt}(h:a.length<=lim):JO a b=some (J8 a b):=by
 unfold JO J8
 cases hc:(a.length:Int)!=(b.length:Int)with
 |true=>rfl
 |false=>
  have hb:a.length=b.length:=by have:=HJ.1 hc;omega
  rw[Ad,Ad]
  have hr:=EK (B:=PD a b) (n:=a.length) (λ(s:Rt) k=>(s.1,s.2,(k:Int))) (λ_ _=>True) (WD a b) (λo=>match o with|.inl x=>.inl (x.1,x.2)|.inr o=>.inr o) h (λrec k s hk _=>by
   show cond (decide ((k:Int) < (a.length:Int))) _ _=_
   rw[Bu hk,Ac,Em hk,Em (by rw[<-hb];exact hk)]
   simp only[Aa]
   rw[jf]
   simp only[Aa]
   rw[cZ]
   simp only[Aa]
   unfold WD
   rw[BC hk (Be h)]
   cases(HS (atR a k) (atR b k)).2 with
   |false=>rfl
   |true=>
    cases hq:(Ud s (HS (atR a k) (atR b k)).1).2 with
    |false=>simp only[hq,Ac,Ad,CD,Al];rfl
    |true=>simp only[hq,Ac,Ad,Al]) (λrec s _=>by
   show cond (decide ((a.length:Int) < (a.length:Int))) _ _=_
   rw[Ba];rfl) (λ_ _ _ _ _ _=>trivial) (0,1) trivial
  rw[show((0:Int),(1:Int),(0:Int))=(((0,1):Rt).1,((0,1):Rt).2,((0:Nat):Int))from rfl,hr]
  simp only[Aa]
  cases M0 (WD a b) a.length 0 (0,1)<;>rfl
def mvG(a:Mx)(x:List Rt)(k:Nat):Sum Rt (List Rt×Bool):=cond (J8 (EO a k) x).2 (.inl (J8 (EO a k) x).1) (.inr ([],false))
def U5(a:Mx)(x:List Rt):List Rt×Bool:=match Nm (mvG a x) a.length 0 with
 |.inl l=>(l,true)
 |.inr o=>o
theorem r8(a:Mx)(x:List Rt){k:Nat}{o:List Rt×Bool}(h:mvG a x k=.inr o):o=([],false):=by
 unfold mvG at h
 cases hc:(J8 (EO a k) x).2 with
 |true=>rw[hc]at h;cases h
 |false=>rw[hc]at h;cases h;rfl
theorem eS(a:Mx)(x:List Rt):(U5 a x).1.length<=a.length∧((U5 a x).2=true->(U5 a x).1.length=a.length)∧((U5 a x).2=false->(U5 a x).1=[]):=by
 unfold U5
 cases h:Nm (mvG a x) a.length 0 with
 |inl l=>exact⟨Nat.le_of_eq (U3 h),λ_=>U3 h,λh=>by cases h⟩
 |inr o=>
  have:=U2 (P:=λo=>o=([],false)) (λk o ho=>r8 a x ho) h
  subst this
  exact⟨CK _,(λh=>by cases h),λ_=>rfl⟩
theorem yy{a:Mx}{x:List Rt}(h:a.length<=lim)(hr:∀k,k < a.length->(EO a k).length<=lim):Gp a x=some (U5 a x):=by
 unfold Gp U5
 have hl:=EK (B:=Kv a x) (n:=a.length) (O:=List Rt×Bool) (λ(s:List Rt) k=>(s,(k:Int))) (λk s=>s.length=k) (λk s=>aY s (mvG a x k)) id h (λrec k s hk hi=>by
  show cond (decide ((k:Int) < (a.length:Int))) _ _=_
  rw[Bu hk,Ac,Hn hk]
  simp only[Aa]
  rw[oY (hr k hk)]
  simp only[Aa]
  unfold mvG
  cases(J8 (EO a k) x).2 with
  |false=>rfl
  |true=>
   rw[Al,Ad,AH (by rw[hi,At];unfold lim at h⊢;omega),BC hk (Be h)]
   rfl) (λrec s hi=>by
  show cond (decide ((a.length:Int) < (a.length:Int))) _ _=_
  rw[Ba];rfl) (λk s s' hk hi hs=>by
  unfold mvG at hs
  cases hc:(J8 (EO a k) x).2 with
  |false=>rw[hc]at hs;cases hs
  |true=>rw[hc]at hs;cases hs;rw[Ar,hi];rfl) [] rfl
 rw[show((0:Nat):Int)=0 from rfl]at hl
 rw[hl,PX]
 cases Nm (mvG a x) a.length 0<;>rfl
theorem yg{a:Mx}{x:List Rt}(h:a.length<=lim)(hr:∀k,k < a.length->(EO a k).length<=lim):Gi a x=some (U5 a x):=by
 unfold Gi U5
 have hl:=EK (B:=Km a x) (n:=a.length) (O:=List Rt×Bool) (λ(s:List Rt) k=>(s,(k:Int))) (λk s=>s.length=k) (λk s=>aY s (mvG a x k)) id h (λrec k s hk hi=>by
  show cond (decide ((k:Int) < (a.length:Int))) _ _=_
  rw[Bu hk,Ac,Hn hk]
  simp only[Aa]
  rw[oy (hr k hk)]
  simp only[Aa]
  unfold mvG
  cases(J8 (EO a k) x).2 with
  |false=>rfl
  |true=>
   rw[Al,Ad,AH (by rw[hi,At];unfold lim at h⊢;omega),BC hk (Be h)]
   rfl) (λrec s hi=>by
  show cond (decide ((a.length:Int) < (a.length:Int))) _ _=_
  rw[Ba];rfl) (λk s s' hk hi hs=>by
  unfold mvG at hs
  cases hc:(J8 (EO a k) x).2 with
  |false=>rw[hc]at hs;cases hs
  |true=>rw[hc]at hs;cases hs;rw[Ar,hi];rfl) [] rfl
 rw[show((0:Nat):Int)=0 from rfl]at hl
 rw[hl,PX]
 cases Nm (mvG a x) a.length 0<;>rfl
def O6(p:LP):Bool:=Iw (p.2.2.length:Int) 1 5&&(Iw (p.2.1.length:Int) 1 5&&((p.1.length==p.2.1.length)&&(p.1.all (rowOk p.2.2.length)&&(p.2.1.all HK&&p.2.2.all HK))))
def WJ(p:LP):Prop:=p.1.length<=lim∧p.2.1.length<=lim∧p.2.2.length<=lim
theorem one_row(n:Nat)(r:List Rt):[r].all (rowOk n)=rowOk n r:=by simp
theorem xk{p:LP}(h:WJ p):E5 p=some (O6 p):=by
 unfold E5 O6
 rw[LW]
 simp only[Aa]
 cases Iw (p.2.2.length:Int) 1 5 with
 |false=>rfl
 |true=>
  rw[Ac,LW,Aw]
  simp only[Aa]
  cases Iw (p.2.1.length:Int) 1 5 with
  |false=>rfl
  |true=>
   rw[Ac,nG h.1 h.2.2,Aw]
   simp only[Aa]
   rw[show(((p.1.length:Int))==(p.2.1.length:Int))=(p.1.length==p.2.1.length)from by rw[AL,Bi,Bi];omega]
   cases p.1.length==p.2.1.length with
   |false=>rw[FC];rfl
   |true=>
    rw[Cu,Aw]
    cases p.1.all (rowOk p.2.2.length)with
    |false=>rfl
    |true=>
     rw[Ac,nG (by simp[lim]) h.2.2,one_row,Aw]
     simp only[Aa]
     unfold rowOk
     rw[BY,Aw,show((([p.2.2].length:Nat):Int)==1)=true from rfl,Cu]
     cases p.2.2.all HK with
     |false=>rw[FC];rfl
     |true=>
      rw[Ac,nG (by simp[lim]) h.2.1,one_row,Cu]
      simp only[Aa]
      unfold rowOk Dg
      rw[BY,Aw,show((([p.2.1].length:Nat):Int)==1)=true from rfl,Cu]
theorem uM{p:LP}(h:WJ p):E2 p=some (O6 p):=by
 unfold E2 O6
 rw[IS]
 simp only[Aa]
 cases Iw (p.2.2.length:Int) 1 5 with
 |false=>rfl
 |true=>
  rw[Al,Ad,IS,Aw]
  simp only[Aa]
  cases Iw (p.2.1.length:Int) 1 5 with
  |false=>rfl
  |true=>
   rw[Al,Ad,Aw]
   by_cases he:p.1.length=p.2.1.length
   ·rw[he,Dk,Ad,BY,Aw,VT h.2.1]
    simp only[Aa]
    cases p.2.1.all HK with
    |false=>simp
    |true=>
     rw[Al,Ad,VT h.2.2,Aw]
     simp only[Aa]
     cases p.2.2.all HK with
     |false=>rw[FC];rfl
     |true=>
      rw[Al,Ad,Cu,Hf (n:=p.1.length) (λk=>J6 p.1 k λr=> !rowOk p.2.2.length r) false h.1 (λk hk rec=>by
       show cond (decide ((k:Int) < (p.1.length:Int))) _ _=_
       rw[Bu hk,Ac,Hn hk,CP hk,Jv hk]
       simp only[Aa]
       unfold rowOk
       by_cases hl:(EO p.1 k).length=p.2.2.length
       ·rw[hl,Dk,Ad,BY,Aw,VT (by rw[hl];exact h.2.2),BC hk (Be h.1)]
       ·rw[show(((EO p.1 k).length:Int)!=(p.2.2.length:Int))=true from by rw[Ct];omega,Ac,show((EO p.1 k).length==p.2.2.length)=false from by simpa using hl]
        rfl) (λrec=>by
       show cond (decide ((p.1.length:Int) < (p.1.length:Int))) _ _=_
       rw[Ba];rfl)]
      rw[Vw,not_any]
      cases p.1.all (rowOk p.2.2.length)<;>rfl
   ·rw[show((p.1.length:Int)!=(p.2.1.length:Int))=true from by rw[Ct];omega,show(p.1.length==p.2.1.length)=false from by simpa using he]
    rfl
def Zf(p:LP)(x:List Rt)(sg:Int)(k:Nat):Bool:=decide (IntKind.i64.wrap (JS (atR (U5 p.1 x).1 k) (atR p.2.1 k) * sg) < 0)
def PY(p:LP)(x:List Rt)(sg:Int):Bool:=O6 p&&((x.length==p.2.2.length)&&((x.all λr=>HK r&&decide (0<=r.1))&&((U5 p.1 x).2&& !((List.range (U5 p.1 x).1.length).any (Zf p x sg)))))
theorem KR{p:LP}(h:O6 p=true):1<=p.2.2.length∧p.2.2.length<=5∧1<=p.2.1.length∧p.2.1.length<=5∧p.1.length=p.2.1.length∧(∀k,k < p.1.length->(EO p.1 k).length=p.2.2.length):=by
 unfold O6 at h
 simp only[Ab,NZ,Bi]at h
 refine⟨by omega,by omega,by omega,by omega,h.2.2.1,λk hk=>?_⟩
 have:=Ae.1 h.2.2.2.1 _ (Ak hk)
 unfold rowOk at this
 rw[Ab,Bi,Jv hk]at this
 exact this.1
theorem jG{p:LP}(h:O6 p=true):p.1.length<=lim∧∀k,k < p.1.length->(EO p.1 k).length<=lim:=by
 obtain⟨h1,h2,h3,h4,h5,h6⟩:=KR h
 refine⟨by rw[h5];unfold lim;omega,λk hk=>by rw[h6 k hk];unfold lim;omega⟩
theorem sW{p:LP}{x:List Rt}{sg:Int}(h:WJ p)(hx:x.length<=lim):Pe p x sg=some (PY p x sg):=by
 unfold Pe PY
 rw[xk h]
 simp only[Aa]
 cases hv:O6 p with
 |false=>rfl
 |true=>
  obtain⟨h1,h2,h3,h4,h5,h6⟩:=KR hv
  obtain⟨h7,h8⟩:=jG hv
  rw[Al,Ad,Aw]
  by_cases he:x.length=p.2.2.length
  ·rw[he,Dk,Ad,BY,Aw,Hf (n:=x.length) (λk=>J6 x k λr=> !(HK r&&decide (0<=r.1))) false hx (λk hk rec=>by
    show cond (decide ((k:Int) < (x.length:Int))) _ _=_
    rw[Bu hk,Ac,Em hk,CP hk,J7 hk]
    simp only[Aa]
    rw[Rb]
    simp only[Aa]
    cases HK (atR x k)with
    |false=>rfl
    |true=>
     rw[Al,Ad,Aw,BC hk (Be hx)]
     by_cases hn:(atR x k).1 < 0
     ·rw[Ag hn,Ah (by omega)];rfl
     ·rw[Ah hn,Ag (by omega)];rfl) (λrec=>by
    show cond (decide ((x.length:Int) < (x.length:Int))) _ _=_
    rw[Ba];rfl)]
   rw[Vw,not_any]
   cases x.all (λr=>HK r&&decide (0<=r.1))with
   |false=>rfl
   |true=>
    rw[Al,Ad,Aw]
    simp only[Aa]
    rw[yy h7 h8]
    simp only[Aa]
    have hm:=eS p.1 x
    have hml:(U5 p.1 x).1.length<=lim:=BD hm.1 h7
    rw[Hf (n:=(U5 p.1 x).1.length) (Zf p x sg) false hml (λk hk rec=>by
     show cond (decide ((k:Int) < ((U5 p.1 x).1.length:Int))) _ _=_
     rw[Bu hk,Ac,Em hk,Em (by rw[<-h5];omega)]
     simp only[Aa]
     rw[Uh]
     simp only[Aa]
     rw[BC hk (Be hml)];rfl) (λrec=>by
     show cond (decide (((U5 p.1 x).1.length:Int) < ((U5 p.1 x).1.length:Int))) _ _=_
     rw[Ba];rfl)]
    cases hq:(U5 p.1 x).2 with
    |true=>
     cases(List.range (U5 p.1 x).1.length).any (Zf p x sg)<;>simp[Aa,hq]
    |false=>
     rw[hm.2.2 hq];simp[Aa,hq]
  ·rw[show((x.length:Int)!=(p.2.2.length:Int))=true from by rw[Ct];omega,show(x.length==p.2.2.length)=false from by simpa using he]
   rfl
theorem qr{p:LP}{x:List Rt}{sg:Int}(h:WJ p)(hx:x.length<=lim):N1 p x sg=some (PY p x sg):=by
 unfold N1 PY
 rw[uM h]
 simp only[Aa]
 cases hv:O6 p with
 |false=>rfl
 |true=>
  obtain⟨h1,h2,h3,h4,h5,h6⟩:=KR hv
  obtain⟨h7,h8⟩:=jG hv
  rw[Al,Ad,Aw]
  by_cases he:x.length=p.2.2.length
  ·rw[he,Dk,Ad,BY,Aw,VT hx]
   simp only[Aa]
   have hs:(x.all λr=>HK r&&decide (0<=r.1))=(x.all HK&&x.all λr=>decide (0<=r.1)):=by
    rw[AL]
    simp only[Ae,Ab]
    exact⟨λh=>⟨λr hr=>(h r hr).1,λr hr=>(h r hr).2⟩,λh r hr=>⟨h.1 r hr,h.2 r hr⟩⟩
   rw[hs]
   cases x.all HK with
   |false=>rfl
   |true=>
    rw[Al,Ad,Aw,Hf (n:=x.length) (λk=>J6 x k λr=> !decide (0<=r.1)) false hx (λk hk rec=>by
     show cond (decide ((k:Int) < (x.length:Int))) _ _=_
     rw[Bu hk,Ac,Em hk,CP hk,J7 hk]
     simp only[Aa]
     rw[BC hk (Be hx)]
     by_cases hn:(atR x k).1 < 0
     ·rw[Ag hn,Ah (by omega)];rfl
     ·rw[Ah hn,Ag (by omega)];rfl) (λrec=>by
     show cond (decide ((x.length:Int) < (x.length:Int))) _ _=_
     rw[Ba];rfl)]
    rw[Vw,not_any]
    cases x.all (λr=>decide (0<=r.1))with
    |false=>rfl
    |true=>
     rw[Al,Ad,Aw]
     simp only[Aa]
     rw[yg h7 h8]
     simp only[Aa]
     have hm:=eS p.1 x
     have hml:(U5 p.1 x).1.length<=lim:=BD hm.1 h7
     cases hq:(U5 p.1 x).2 with
     |false=>simp
     |true=>
      rw[Al,Ad,Aw,Hf (n:=(U5 p.1 x).1.length) (Zf p x sg) false hml (λk hk rec=>by
       show cond (decide ((k:Int) < ((U5 p.1 x).1.length:Int))) _ _=_
       rw[Bu hk,Ac,Em hk,Em (by rw[<-h5];omega)]
       simp only[Aa]
       rw[XE]
       simp only[Aa]
       rw[BC hk (Be hml),Int.mul_comm];rfl) (λrec=>by
       show cond (decide (((U5 p.1 x).1.length:Int) < ((U5 p.1 x).1.length:Int))) _ _=_
       rw[Ba];rfl)]
      cases(List.range (U5 p.1 x).1.length).any (Zf p x sg)<;>rfl
  ·rw[show((x.length:Int)!=(p.2.2.length:Int))=true from by rw[Ct];omega,show(x.length==p.2.2.length)=false from by simpa using he]
   rfl
theorem ee:∀{a b:List Rt},a.length=b.length->((List.range a.length).any λk=> !((atR a k).1==(atR b k).1&&(atR a k).2==(atR b k).2))= !(a==b)
 |a,b,h=>by
  rw[AL,Cg,AC]
  constructor
  ·rintro⟨k,hk,hb⟩
   rw[An]at hk
   rw[A3]
   rintro rfl
   simp at hb
  ·intro hne
   rw[A3]at hne
   refine Bn λhc=>hne (EE h λk h1 h2=>?_)
   rw[J7 h1,J7 h2]
   have:¬(!((atR a k).1==(atR b k).1&&(atR a k).2==(atR b k).2))=true:=λhb=>hc ⟨k,An.2 h1,hb⟩
   rw[AC,Bool.not_eq_false,Ab,Bi,Bi]at this
   exact Prod.ext this.1 this.2
theorem jv{a b:List Rt}(h:a.length≠b.length):(a==b)=false:=by
 rw[A3];rintro rfl;exact h rfl
theorem xg{a b:List Rt}(h:a.length<=lim):IM a b=some (a==b):=by
 unfold IM
 by_cases he:a.length=b.length
 ·rw[he,Dk,Ad,Hf (n:=a.length) (λk=> !((atR a k).1==(atR b k).1&&(atR a k).2==(atR b k).2)) false h (λk hk rec=>by
   show cond (decide ((k:Int) < (a.length:Int))) _ _=_
   rw[Bu hk,Ac,Em hk,Em (by rw[<-he];exact hk)]
   simp only[Aa]
   rw[BC hk (Be h)]) (λrec=>by
   show cond (decide ((a.length:Int) < (a.length:Int))) _ _=_
   rw[Ba];rfl)]
  rw[ee he]
  cases a==b<;>rfl
 ·rw[show((a.length:Int)!=(b.length:Int))=true from by rw[Ct];omega,jv he];rfl
theorem uJ{a b:List Rt}(h:a.length<=lim):IH a b=some (a==b):=by
 unfold IH
 by_cases he:a.length=b.length
 ·rw[he,Dk,Ad,Hf (n:=a.length) (λk=> !((atR a k).1==(atR b k).1&&(atR a k).2==(atR b k).2)) false h (λk hk rec=>by
   show cond (decide ((k:Int) < (a.length:Int))) _ _=_
   rw[Bu hk,Ac,Em hk,Em (by rw[<-he];exact hk)]
   simp only[Aa]
   rw[BC hk (Be h)]) (λrec=>by
   show cond (decide ((a.length:Int) < (a.length:Int))) _ _=_
   rw[Ba];rfl)]
  rw[ee he]
  cases a==b<;>rfl
 ·rw[show((a.length:Int)!=(b.length:Int))=true from by rw[Ct];omega,jv he];rfl
theorem cl{α O:Type}(g:Nat->List α):∀(j k:Nat) (s:List α),M0 (O:=O) (λk s=>.inl (s++g k)) j k s=.inl (s++(List.range' k j).flatMap g)
 |0,k,s=>by rw[M0];simp
 |j+1,k,s=>by rw[M0];simp only;rw[cl g j (k+1),C4,AG,Bc]
theorem Pm{α β O:Type}(g:Nat->α)(h:Nat->β):∀(j k:Nat) (s:List α×List β),M0 (O:=O) (λk s=>.inl (s.1++[g k],s.2++[h k])) j k s=.inl (s.1++(List.range' k j).map g,s.2++(List.range' k j).map h)
 |0,k,s=>by rw[M0];simp
 |j+1,k,s=>by rw[M0];simp only;rw[Pm g h j (k+1),C4,AO,AO,Bc,Bc];rfl
theorem fm{O:Type}(g:Nat->Bool):∀(j k:Nat) (s:Bool),M0 (O:=O) (λk s=>.inl (s || g k)) j k s=.inl (s || (List.range' k j).any g)
 |0,k,s=>by rw[M0];simp
 |j+1,k,s=>by rw[M0];simp only;rw[fm g j (k+1),C4,EM,Bool.or_assoc]
theorem Ug{S O:Type}(g:S->Nat->S):∀(j k:Nat) (s:S),M0 (O:=O) (λk s=>.inl (g s k)) j k s=.inl ((List.range' k j).foldl g s)
 |0,k,s=>by rw[M0];simp
 |j+1,k,s=>by rw[M0];simp only;rw[Ug g j (k+1),C4,Dc]
theorem getD_map{α β:Type}(d:α)(h:α->β)(l:List α):(List.range' 0 l.length).map (λk=>h (l.getD k d))=l.map h:=by
 apply EE
 ·simp
 ·intro i h1 h2
  simp only[As,Ib]at h1
  rw[BQ,Ga,BQ,Au]
  simp[Af h1]
theorem cT{α S:Type}(d:α)(g:S->α->S)(l:List α)(s:S):(List.range' 0 l.length).foldl (λs k=>g s (l.getD k d)) s=l.foldl g s:=by
 have:=getD_map d (λx=>x) l
 rw[List.map_id']at this
 conv=>rhs;rw[<-this]
 rw[List.foldl_map]
theorem VO{α β:Type}{f:List β->α->List β}(h:∀s x,(f s x).length<=s.length+1):∀(l:List α) (s:List β),(l.foldl f s).length<=s.length+l.length
 |[],s=>by simp
 |x::l,s=>by
  rw[Dc,Ax]
  have h1:=VO h l (f s x)
  have h2:=h s x
  omega
theorem ev{α β:Type}{f:α->List β}{M:Nat}:∀{l:List α},(∀x∈l,(f x).length<=M)->(l.flatMap f).length<=l.length * M
 |[],_=>by simp
 |x::l,h=>by
  rw[AG,Ar,Ax,FT]
  have h1:=h x BO
  have h2:=ev (f:=f) (l:=l) λy hy=>h y (AX _ hy)
  omega
theorem Pq{α β:Type}{l:List α}{B:(List β×Int->Option (List β))->List β×Int->Option (List β)}{s0:List β}{h:α->β}(hl:s0.length+l.length<=lim)
  (h1:∀k (hk:k < l.length) s rec,s.length=s0.length+k->B rec (s,(k:Int))=rec (s++[h l[k]],((k+1:Nat):Int))) (h2:∀rec s,B rec (s,(l.length:Int))=some s):Ap B fz (s0,0)=some (s0++l.map h):=by
 have key:∀(j k:Nat) (s:List β) (f:Nat),k+j=l.length->j < f->s.length=s0.length+k->Ap B f (s,(k:Int))=some (s++(l.drop k).map h):=by
  intro j
  induction j with
  |zero=>
   intro k s f hk hf hs
   obtain⟨f,rfl⟩:∃g,f=g+1:=⟨f - 1,by omega⟩
   obtain rfl:k=l.length:=by omega
   rw[By,h2,Hw];simp
  |succ j ih=>
   intro k s f hk hf hs
   obtain⟨f,rfl⟩:∃g,f=g+1:=⟨f - 1,by omega⟩
   have hlt:k < l.length:=by omega
   rw[By,h1 k hlt s _ hs,ih (k+1) _ f (by omega) (by omega) (by rw[Ar,hs];simp;omega),Cr hlt,AO,Bc];rfl
 have:=key l.length 0 s0 fz (by omega) (CQ (by omega)) (by omega)
 simpa using this
def OE(t:Nat):Nat->Nat->List (List Nat)
 |0,_=>[[]]
 |r+1,fr=>(List.range' fr (t - r - fr)).flatMap λi=>(OE t r (i+1)).map (i:: ·)
def cI(c:List Nat):List Int:=c.map λ(e:Nat)=>(e:Int)
theorem S0{t:Nat}(ht:t<=11):∀(r fr:Nat),(OE t r fr).length<=11 ^ r
 |0,_=>Bl 1
 |r+1,fr=>by
  rw[OE]
  have:=ev (f:=λi=>(OE t r (i+1)).map (i:: ·)) (M:=11 ^ r) (l:=List.range' fr (t - r - fr)) λi _=>by rw[As];exact S0 ht r (i+1)
  refine BD this ?_
  rw[Ib,Fl,Nat.mul_comm]
  exact Nat.mul_le_mul_left _ (by omega)
theorem Xn{t:Nat}:∀{r fr:Nat}{c:List Nat},c∈OE t r fr->c.length=r∧∀e∈c,e < t
 |0,_,c,h=>by
  rw[OE,AT]at h
  subst h;exact⟨rfl,by simp⟩
 |r+1,fr,c,h=>by
  rw[OE,Co]at h
  obtain⟨i,hi,h⟩:=h
  obtain⟨d,hd,rfl⟩:=Bh.1 h
  obtain⟨h1,h2⟩:=Xn hd
  rw[GW]at hi
  refine⟨by rw[Ax,h1],λe he=>?_⟩
  rcases AV.1 he with rfl|he
  ·omega
  ·exact h2 e he
theorem ff{r:Nat}(h:r<=5):11 ^ r<=161051:=BD (EU (by omega) h) (by decide)
theorem kN{t:Nat}(ht:t<=10):∀(r fr f:Nat),r<=5->fr<=11->r < f->Ap Gw f ((fr:Int),(t:Int),(r:Int))=some ((OE t r fr).map cI)
 |0,fr,f,_,_,hf=>by
  obtain⟨f,rfl⟩:∃g,f=g+1:=⟨f - 1,by omega⟩
  rfl
 |r+1,fr,f,hr,hfr,hf=>by
  obtain⟨f,rfl⟩:∃g,f=g+1:=⟨f - 1,by omega⟩
  have hp:=ff (show r<=5 by omega)
  rw[By]
  show cond (((r+1:Nat):Int)==0) (some [[]]) (Aa (Ap (OT (t:Int) ((r+1:Nat):Int) (Ap Gw f)) fz ([],(fr:Int))) λz4=>some z4)=_
  rw[show(((r+1:Nat):Int)==0)=false from by rw[A3];omega,Ad]
  have hl:=Tj (B:=OT (t:Int) ((r+1:Nat):Int) (Ap Gw f)) (n:=fr+(t - r - fr)) (O:=Unit) (λ(s:List (List Int)) k=>(s,(k:Int))) (λk s=>fr<=k∧s.length<=(k - fr) * 11 ^ r) (λk s=>.inl (s++((OE t r (k+1)).map cI).map ([(k:Int)]++ ·))) (λo=>match o with|.inl s=>s|.inr _=>[])
   (λrec k s hk hi=>by
    have hkt:k+r+1<=t:=by omega
    show cond (decide (IntKind.i64.wrap ((k:Int)+((r+1:Nat):Int))<=(t:Int))) _ _=_
    rw[wrap_in (by omega),Ag (by omega),Ac,show IntKind.i64.wrap ((k:Int)+1)=((k+1:Nat):Int)from by rw[wrap_in (by omega)];omega,show IntKind.i64.wrap (((r+1:Nat):Int) - 1)=(r:Int)from by rw[wrap_in (by omega)];omega,kN ht r (k+1) f (by omega) (by omega) (by omega)]
    simp only[Aa]
    have hc:=S0 (t:=t) (by omega) r (k+1)
    have hm:(k - fr) * 11 ^ r<=11 * 161051:=ET (by omega) hp
    rw[Pq (B:=RO (k:Int) ((OE t r (k+1)).map cI)) (l:=(OE t r (k+1)).map cI) (s0:=s) (h:=([(k:Int)]++ ·)) (by rw[As];unfold lim;omega) (λq hq s' rec hs=>by
     show cond (decide ((q:Int) < (((OE t r (k+1)).map cI).length:Int))) _ _=_
     rw[Bu hq,Ac,Bm hq]
     simp only[Aa]
     have hql:q < (OE t r (k+1)).length:=by simpa using hq
     have he:(((OE t r (k+1)).map cI)[q]).length=r:=by
      rw[BQ];unfold cI;rw[As];exact(Xn (Ak hql)).1
     rw[AH (by rw[he];simp;unfold lim;omega),AH (by rw[hs];simp;unfold lim;omega),BC hq (by rw[As];unfold maxLen;omega)]) (λrec s'=>by
     show cond (decide ((((OE t r (k+1)).map cI).length:Int) < (((OE t r (k+1)).map cI).length:Int))) _ _=_
     rw[Ba];rfl)])
   (λrec s hi=>by
    show cond (decide (IntKind.i64.wrap (((fr+(t - r - fr):Nat):Int)+((r+1:Nat):Int))<=(t:Int))) _ _=_
    rw[wrap_in (by omega),Ah (by omega)];rfl)
   (λk s s' hk hi hs=>by
    cases hs
    refine⟨by omega,?_⟩
    rw[Ar,As,As,show k+1 - fr=(k - fr)+1 from by omega,FT]
    have hc:=S0 (t:=t) (by omega) r (k+1)
    omega) (t - r - fr) fr [] fz rfl (by unfold fz;omega) ⟨Bl _,by simp⟩
  rw[hl,cl]
  simp only[Aa,Bq]
  rw[OE,List.map_flatMap]
  congr 2
  funext k
  rw[EI,EI]
  congr 1
def TQ(n i:Nat):List Rt:=(List.replicate n (0,1)).set i (1,1)
def rowAt(p:LP)(j:Nat):List Rt:=if j < p.2.1.length then EO p.1 j else TQ p.2.2.length (j - p.2.1.length)
def FN(p:LP)(j:Nat):Rt:=if j < p.2.1.length then atR p.2.1 j else(0,1)
def visit(p:LP)(sg:Int)(out:Mx)(c:List Nat):Mx:=cond (Rh (c.map (rowAt p)) (c.map (FN p))).2 (cond (PY p (Rh (c.map (rowAt p)) (c.map (FN p))).1 sg) (cond (out.any (· ==(Rh (c.map (rowAt p)) (c.map (FN p))).1)) out (out++[(Rh (c.map (rowAt p)) (c.map (FN p))).1])) out) out
theorem Wh(p:LP)(sg:Int)(out:Mx)(c:List Nat):(visit p sg out c).length<=out.length+1:=by
 unfold visit
 cases(Rh (c.map (rowAt p)) (c.map (FN p))).2 with
 |false=>simp
 |true=>
  cases PY p (Rh (c.map (rowAt p)) (c.map (FN p))).1 sg with
  |false=>simp
  |true=>
   cases out.any (· ==(Rh (c.map (rowAt p)) (c.map (FN p))).1)with
   |true=>simp
   |false=>simp
theorem s5(a:Mx)(b:List Rt):(Rh a b).2=false->(Rh a b).1=[]:=by
 unfold Rh
 cases decide (6 < (b.length:Int))with
 |true=>exactλ_=>rfl
 |false=>
  cases Vi a b with
  |false=>exactλ_=>rfl
  |true=>
   simp only[Ad,Ac]
   cases hg:OK b.length b.length 0 (Ux a b)with
   |none=>exactλ_=>rfl
   |some m=>
    simp only
    cases hm:Nm (RV b.length m) b.length 0 with
    |inl x=>exactλh=>by cases h
    |inr o=>
     exactλ_=>U2 (P:=λo=>o.1=[]) (λk o ho=>by
      unfold RV at ho
      cases hc:(Qo (atR (EO m k) b.length) (atR (EO m k) k)).2 with
      |false=>rw[hc]at ho;cases ho;rfl
      |true=>rw[hc]at ho;cases ho) hm
theorem aF{a:Mx}{b:List Rt}(h:b.length<=lim):(Rh a b).1.length<=lim:=by
 cases hv:(Rh a b).2 with
 |true=>rw[nM (a:=a) (b:=b) (x:=(Rh a b).1) (by rw[<-hv])];exact h
 |false=>rw[s5 a b hv];simp
theorem dE{p:LP}(h:p.2.2.length<=lim):Ap (Nz p) fz ([],0)=some (List.replicate p.2.2.length (0,1)):=by
 rw[Pq (B:=Nz p) (l:=p.2.2) (s0:=[]) (h:=λ_=>((0:Int),(1:Int))) (by simpa using h) (λk hk s rec hs=>by
  show cond (decide ((k:Int) < (p.2.2.length:Int))) _ _=_
  rw[Bu hk,Ac,AH (by rw[hs];simp;unfold lim at h⊢;omega),BC hk (Be h)]) (λrec s=>by
  show cond (decide ((p.2.2.length:Int) < (p.2.2.length:Int))) _ _=_
  rw[Ba];rfl),Bq,Eu]
theorem xv{p:LP}(hv:O6 p=true){v1:List (List Int)}{y:Int}{c:List Nat}(hg:AZ v1 y=some (cI c))(hc:c.length=p.2.2.length)(hin:∀e∈c,e < p.2.1.length+p.2.2.length):
  Ap (Ky p v1 y) fz ([],[],0)=some (c.map (rowAt p),c.map (FN p)):=by
 obtain⟨h1,h2,h3,h4,h5,h6⟩:=KR hv
 have hl:p.2.2.length<=lim:=by unfold lim;omega
 have hr:=EK (B:=Ky p v1 y) (n:=p.2.2.length) (O:=Unit) (λ(s:Mx×List Rt) k=>(s.1,s.2,(k:Int))) (λk s=>s.1.length=k∧s.2.length=k) (λk s=>.inl (s.1++[rowAt p (c.getD k 0)],s.2++[FN p (c.getD k 0)])) (λo=>match o with|.inl s=>s|.inr _=>([],[])) hl (λrec k s hk hi=>by
  have hkc:k < c.length:=by rw[hc];exact hk
  have hck:c.getD k 0=c[k]:=by rw[Au,Af hkc];rfl
  have he:=hin c[k] (Ak hkc)
  show cond (decide ((k:Int) < (p.2.2.length:Int))) _ _=_
  rw[Bu hk,Ac,hg]
  simp only[Aa]
  rw[Bm (show k < (cI c).length by unfold cI;rw[As];exact hkc)]
  simp only[Aa]
  rw[show(cI c)[k]'(by unfold cI;rw[As];exact hkc)=((c[k]:Nat):Int)from by unfold cI;rw[BQ],hck]
  unfold rowAt FN
  have hJ:∀a b,Ir rec (k:Int) a b=rec (a,b,((k+1:Nat):Int)):=λa b=>by unfold Ir;rw[BC hk (Be hl)]
  by_cases hm:c[k] < p.2.1.length
  ·rw[AI hm,AI hm,Bu hm,Ac,Hn (by rw[h5];exact hm)]
   simp only[Aa]
   rw[AH (by rw[hi.1];simp;unfold lim;omega),Em hm]
   simp only[Aa]
   rw[AH (by rw[hi.2];simp;unfold lim;omega),hJ]
  ·have hz:(List.replicate p.2.2.length ((0:Int),(1:Int))).length=p.2.2.length:=Dw
   have hw:IntKind.i64.wrap (((c[k]:Nat):Int) - (p.2.1.length:Int))=((c[k] - p.2.1.length:Nat):Int):=by rw[wrap_in (by omega)];omega
   rw[AJ hm,AJ hm,Ah (by omega),Ad,dE hl]
   simp only[Aa]
   rw[AH (by rw[hz];omega),hw,Bm (show c[k] - p.2.1.length < (List.replicate p.2.2.length ((0:Int),(1:Int))).length by rw[hz];omega)]
   simp only[Aa]
   rw[AH (by rw[hi.1];simp;unfold lim;omega),AH (by rw[hi.2];simp;unfold lim;omega),hJ]
   simp only[Da,Bk]
   rfl) (λrec s hi=>by
  show cond (decide ((p.2.2.length:Int) < (p.2.2.length:Int))) _ _=_
  rw[Ba];rfl) (λk s s' hk hi hs=>by cases hs;exact⟨by simp[hi.1],by simp[hi.2]⟩) ([],[]) ⟨rfl,rfl⟩
 rw[show(([]:Mx),([]:List Rt),(0:Int))=((([],[]):Mx×List Rt).1,(([],[]):Mx×List Rt).2,((0:Nat):Int))from rfl,hr,Pm]
 simp only[Bq]
 rw[<-hc,getD_map 0 (rowAt p) c,getD_map 0 (FN p) c]
theorem nD{out:Mx}{v:List Rt×Bool}(h:out.length<=lim)(hr:∀r∈out,r.length<=lim):Ap (Kz out v) fz (false,0)=some (out.any (· ==v.1)):=by
 have hl:=EK (B:=Kz out v) (n:=out.length) (O:=Unit) (λ(s:Bool) k=>(s,(k:Int))) (λ_ _=>True) (λk s=>.inl (s || (out.getD k []==v.1))) (λo=>match o with|.inl s=>s|.inr _=>false) h (λrec k s hk _=>by
  show cond (decide ((k:Int) < (out.length:Int))) _ _=_
  have hJ:∀b,It rec (k:Int) b=rec (b,((k+1:Nat):Int)):=λb=>by unfold It;rw[BC hk (Be h)]
  rw[Bu hk,Ac]
  cases s with
  |true=>rw[Ac,hJ];rfl
  |false=>
   rw[Ad,Hn hk]
   simp only[Aa]
   rw[xg (by rw[<-Jv hk];exact hr _ (Ak hk))]
   simp only[Aa]
   rw[hJ];rfl) (λrec s _=>by
  show cond (decide ((out.length:Int) < (out.length:Int))) _ _=_
  rw[Ba];rfl) (λ_ _ _ _ _ _=>trivial) false trivial
 rw[show((0:Nat):Int)=0 from rfl]at hl
 rw[hl,fm]
 simp only[Ck]
 have:(List.range' 0 out.length).any (λk=>out.getD k []==v.1)=((List.range' 0 out.length).map (λk=>(λx=>x==v.1) (out.getD k []))).any id:=by rw[Nn];rfl
 rw[this,getD_map [] (λx=>x==v.1) out,Nn];rfl
def Rv(m:Mx):Prop:=∀r∈m,r.length<=lim
theorem Zm{p:LP}(sg:Int){out:Mx}{c:List Nat}(hc:c.length<=lim)(h:Rv out):Rv (visit p sg out c):=by
 unfold visit
 cases(Rh (c.map (rowAt p)) (c.map (FN p))).2 with
 |false=>exact h
 |true=>
  cases PY p (Rh (c.map (rowAt p)) (c.map (FN p))).1 sg with
  |false=>exact h
  |true=>
   cases out.any (· ==(Rh (c.map (rowAt p)) (c.map (FN p))).1)with
   |true=>exact h
   |false=>
    intro r hr
    rcases Aq.1 hr with hr|hr
    ·exact h r hr
    ·rw[AT]at hr;subst hr;exact aF (by rw[As];exact hc)
def O8(p:LP)(sg:Int):Mx:=(OE (p.2.1.length+p.2.2.length) p.2.2.length 0).foldl (visit p sg) []
theorem kO{p:LP}{sg:Int}(hv:O6 p=true):Ny p sg=some (O8 p sg):=by
 obtain⟨h1,h2,h3,h4,h5,h6⟩:=KR hv
 have hsm:WJ p:=⟨by rw[h5];unfold lim;omega,by unfold lim;omega,by unfold lim;omega⟩
 unfold Ny O8
 rw[show IntKind.i64.wrap ((p.2.1.length:Int)+(p.2.2.length:Int))=((p.2.1.length+p.2.2.length:Nat):Int)from by rw[wrap_in (by omega)];omega]
 unfold Rz
 have hp:=kN (t:=p.2.1.length+p.2.2.length) (by omega) p.2.2.length 0 fz (by omega) (by omega) (by unfold fz;omega)
 rw[show((0:Nat):Int)=0 from rfl]at hp
 rw[hp]
 simp only[Aa]
 have hcl:=S0 (t:=p.2.1.length+p.2.2.length) (by omega) p.2.2.length 0
 have hpw:=ff h2
 have hll:(OE (p.2.1.length+p.2.2.length) p.2.2.length 0).length<=lim:=by unfold lim;omega
 have hl:=EK (B:=Kx p sg ((OE (p.2.1.length+p.2.2.length) p.2.2.length 0).map cI)) (n:=(OE (p.2.1.length+p.2.2.length) p.2.2.length 0).length) (O:=Unit) (λ(s:Mx) k=>(s,(k:Int))) (λk s=>s.length<=k∧Rv s) (λk s=>.inl (visit p sg s ((OE (p.2.1.length+p.2.2.length) p.2.2.length 0).getD k []))) (λo=>match o with|.inl s=>s|.inr _=>[]) hll (λrec k s hk hi=>by
  have hcm:=Xn (Ak hk)
  have hgd:(OE (p.2.1.length+p.2.2.length) p.2.2.length 0).getD k []=(OE (p.2.1.length+p.2.2.length) p.2.2.length 0)[k]:=by rw[Au,Af hk];rfl
  rw[hgd]
  show cond (decide ((k:Int) < (((OE (p.2.1.length+p.2.2.length) p.2.2.length 0).map cI).length:Int))) _ _=_
  rw[As,Bu hk,Ac,xv hv (y:=(k:Int)) (c:=(OE (p.2.1.length+p.2.2.length) p.2.2.length 0)[k]) (by rw[Bm (by rw[As];exact hk),BQ]) hcm.1 hcm.2]
  simp only[Aa]
  have hc1:(OE (p.2.1.length+p.2.2.length) p.2.2.length 0)[k].length<=lim:=by rw[hcm.1];unfold lim;omega
  rw[xr (by rw[As];exact hc1) (by rw[As];exact hc1)]
  simp only[Aa]
  unfold visit
  have hJ:∀b,GL rec (k:Int) b=rec (b,((k+1:Nat):Int)):=λb=>by unfold GL;rw[BC hk (Be hll)]
  cases(Rh (((OE (p.2.1.length+p.2.2.length) p.2.2.length 0)[k]).map (rowAt p)) (((OE (p.2.1.length+p.2.2.length) p.2.2.length 0)[k]).map (FN p))).2 with
  |false=>unfold Is;rw[Ad,Ad,hJ];rfl
  |true=>
   rw[Ac,Ac,sW hsm (aF (by rw[As];exact hc1))]
   simp only[Aa]
   unfold Is
   cases PY p (Rh (((OE (p.2.1.length+p.2.2.length) p.2.2.length 0)[k]).map (rowAt p)) (((OE (p.2.1.length+p.2.2.length) p.2.2.length 0)[k]).map (FN p))).1 sg with
   |false=>rw[Ad,Ad,hJ]
   |true=>
    rw[Ac,Ac,nD (by unfold lim;omega) hi.2]
    simp only[Aa]
    cases s.any (· ==(Rh (((OE (p.2.1.length+p.2.2.length) p.2.2.length 0)[k]).map (rowAt p)) (((OE (p.2.1.length+p.2.2.length) p.2.2.length 0)[k]).map (FN p))).1)with
    |true=>rw[Al,Ad,Ac,hJ]
    |false=>rw[CD,Ac,Ad,AH (by simp;unfold lim;omega),hJ]) (λrec s _=>by
  show cond (decide ((((OE (p.2.1.length+p.2.2.length) p.2.2.length 0).length:Nat):Int) < (((OE (p.2.1.length+p.2.2.length) p.2.2.length 0).map cI).length:Int))) _ _=_
  rw[As,Ba];rfl) (λk s s' hk hi hs=>by
  cases hs
  have:=Wh p sg s ((OE (p.2.1.length+p.2.2.length) p.2.2.length 0).getD k [])
  refine⟨by omega,Zm sg ?_ hi.2⟩
  rw[Au,Af hk,BB,(Xn (Ak hk)).1];unfold lim;omega) [] ⟨by simp,λr hr=>by simp at hr⟩
 rw[show((0:Nat):Int)=0 from rfl]at hl
 rw[hl,Ug (λs k=>visit p sg s ((OE (p.2.1.length+p.2.2.length) p.2.2.length 0).getD k [])),cT [] (visit p sg)]
def bt(b:Bool):Rt:=(cond b 1 0,1)
def gB(l:List Bool)(i:Nat):Bool:=l.getD i false
def allB:Nat->List (List Bool)
 |0=>[[]]
 |n+1=>(allB n).flatMap λl=>[false::l,true::l]
theorem Ps:∀l:List Bool,l∈allB l.length
 |[]=>AT.2 rfl
 |b::l=>by
  rw[Ax,allB,Co]
  refine⟨l,Ps l,?_⟩
  cases b
  ·exact BO
  ·exact AX _ BO
def oR(S r:List Bool):Bool:=(List.range S.length).any λi=>(gB S i&&gB r i)&&(List.range S.length).all λj=>j==i || !(gB S j&&gB r j)
def apart(S a b:List Bool):Bool:=(List.range S.length).all λi=> !(gB S i&&(gB a i&&gB b i))
def dV(S:List Bool):List (List Bool):=(allB S.length).filter (oR S)
def mr(S:List Bool):Nat->List (List (List Bool))
 |0=>[[]]
 |k+1=>(mr S k).flatMap λrs=>((dV S).filter λr=>rs.all (apart S r)).map (· ::rs)
theorem bz{S:List Bool}:∀{rs:List (List Bool)},(∀r∈rs,r∈dV S)->rs.Pairwise (λa b=>apart S a b=true)->rs∈mr S rs.length
 |[],_,_=>AT.2 rfl
 |r::rs,h,hp=>by
  obtain⟨h1,h2⟩:=Ic.1 hp
  rw[Ax,mr,Co]
  refine⟨rs,bz (λr hr=>h r (AX _ hr)) h2,Bh.2 ⟨r,Bf.2 ⟨h r BO,Ae.2 h1⟩,rfl⟩⟩
def Pz(S:List Bool):List Nat:=(List.range S.length).filter λj=> !gB S j
def aK(S:List Bool):List Nat:=(List.range S.length).filter λj=>gB S j
def pd(S:List Bool)(rs:List (List Bool)):Bool:=(Rh (rs.map (λr=>r.map bt)++(Pz S).map (TQ S.length)) (rs.map (λ_=>((1:Int),(1:Int)))++(Pz S).map (λ_=>((0:Int),(1:Int))))).2&&(Rh (rs.map (λr=>r.map bt)++(Pz S).map (TQ S.length)) (rs.map (λ_=>((1:Int),(1:Int)))++(Pz S).map (λ_=>((0:Int),(1:Int))))).1==S.map bt
def gP(n:Nat):Bool:=(allB n).all λS=>(mr S (aK S).length).all (pd S)
theorem yG:gP 1=true:=by kernel_rfl
theorem yH:gP 2=true:=by kernel_rfl
theorem yI:gP 3=true:=by kernel_rfl
theorem yJ:gP 4=true:=by kernel_rfl
def oN(a b:List Bool):Bool:=(List.range b.length).any λi=>gB a i&&gB b i
def d9(r S:List Bool):Bool:=(J8 (r.map bt) (S.map bt)).2&&(!oN r S || !decide (IntKind.i64.wrap (JS (J8 (r.map bt) (S.map bt)).1 (1,1) * 1) < 0))
def tryD(n:Nat):Bool:=(allB n).all λr=>(allB n).all (d9 r)
theorem xA:tryD 1=true:=by kernel_rfl
theorem xB:tryD 2=true:=by kernel_rfl
theorem xC:tryD 3=true:=by kernel_rfl
theorem xD:tryD 4=true:=by kernel_rfl
theorem bj{α:Type}(g:Nat->List α):∀(b a fr:Nat),(∀k,fr+a<=k->k < fr+a+b->g k=[])->(List.range' fr (a+b)).flatMap g=(List.range' fr a).flatMap g
 |0,a,fr,_=>rfl
 |b+1,a,fr,h=>by
  rw[<-Nat.add_assoc,List.range'_concat,Dd,bj g b a fr (λk h1 h2=>h k h1 (by omega))]
  simp[h (fr+(a+b)) (by omega) (by omega)]
theorem mc{t r fr:Nat}(hr:0 < r)(h:t+1<=r+fr):OE t r fr=[]:=by
 obtain⟨r,rfl⟩:∃q,r=q+1:=⟨r - 1,by omega⟩
 rw[OE,show t - r - fr=0 from by omega];rfl
theorem mb(t r fr:Nat)(h:fr<=t):(List.range' fr (t - fr)).flatMap (λi=>(OE t r (i+1)).map (i:: ·))=OE t (r+1) fr:=by
 rw[OE]
 have:=bj (λi=>(OE t r (i+1)).map (i:: ·)) (t - fr - (t - r - fr)) (t - r - fr) fr (λk hk hk2=>by
  cases r with
  |zero=>omega
  |succ r=>rw[mc (by omega) (by omega)];rfl)
 rw[<-this,show t - r - fr+(t - fr - (t - r - fr))=t - fr from by omega]
theorem foldl_flat{α β S:Type}(f:S->β->S)(g:α->List β):∀(l:List α) (s:S),(l.flatMap g).foldl f s=l.foldl (λs x=>(g x).foldl f s) s
 |[],_=>rfl
 |x::l,s=>by rw[AG,Dj,Dc,foldl_flat f g l]
theorem Sa(c:List Nat):(cI c).length=c.length:=by unfold cI;rw[As]
theorem pF(c d:List Nat):cI (c++d)=cI c++cI d:=by unfold cI;rw[BU]
theorem uG{l:List Int}(h:l.length<=lim):Gk l=some l:=by
 unfold Gk
 rw[AH (by simpa using h),Bq]
theorem bp{p:LP}{sg:Int}{c:List Nat}:∀(l:List (List Nat)) (s:Mx),(∀d∈l,(c++d).length<=lim)->Rv s->Rv (l.foldl (λo d=>visit p sg o (c++d)) s)
 |[],_,_,h=>h
 |d::l,s,hl,h=>bp l _ (λd hd=>hl d (AX _ hd)) (Zm sg (hl d BO) h)
theorem t7(a:Mx)(f:List Rt->Bool):(List.range a.length).any (λk=>f (EO a k))=a.any f:=by
 rw[AL,Cg,Cg]
 constructor
 ·rintro⟨i,hi,h⟩
  rw[An]at hi
  rw[<-Jv hi]at h
  exact⟨_,Ak hi,h⟩
 ·rintro⟨x,hx,h⟩
  obtain⟨i,hi,rfl⟩:=En hx
  rw[Jv hi]at h
  exact⟨i,An.2 hi,h⟩
section
variable {p:LP}{R:Mx}{rt:List Rt}
theorem uR(hv:O6 p=true)(hR:R.length=p.2.1.length+p.2.2.length)(hrt:rt.length=p.2.1.length+p.2.2.length)(hA:∀j,j < p.2.1.length+p.2.2.length->EO R j=rowAt p j)(hB:∀j,j < p.2.1.length+p.2.2.length->atR rt j=FN p j)
  {c:List Nat}(hc:c.length<=5) (hin:∀e∈c,e < p.2.1.length+p.2.2.length):Ap (MC (cI c) R rt) fz ([],[],0)=some (c.map (rowAt p),c.map (FN p)):=by
 have hl:c.length<=lim:=by unfold lim;omega
 have hr:=EK (B:=MC (cI c) R rt) (n:=c.length) (O:=Unit) (λ(s:Mx×List Rt) k=>(s.1,s.2,(k:Int))) (λk s=>s.1.length=k∧s.2.length=k) (λk s=>.inl (s.1++[rowAt p (c.getD k 0)],s.2++[FN p (c.getD k 0)])) (λo=>match o with|.inl s=>s|.inr _=>([],[])) hl (λrec k s hk hi=>by
  have hck:c.getD k 0=c[k]:=by rw[Au,Af hk];rfl
  have he:=hin c[k] (Ak hk)
  show cond (decide ((k:Int) < ((cI c).length:Int))) _ _=_
  rw[Sa,Bu hk,Ac,Bm (show k < (cI c).length by rw[Sa];exact hk)]
  simp only[Aa]
  rw[show(cI c)[k]'(by rw[Sa];exact hk)=((c[k]:Nat):Int)from by unfold cI;rw[BQ],hck,Hn (by rw[hR];exact he)]
  simp only[Aa]
  rw[AH (by rw[hi.1];simp;unfold lim;omega),Em (by rw[hrt];exact he)]
  simp only[Aa]
  rw[AH (by rw[hi.2];simp;unfold lim;omega),hA _ he,hB _ he,BC hk (Be hl)]) (λrec s hi=>by
  show cond (decide ((c.length:Int) < ((cI c).length:Int))) _ _=_
  rw[Sa,Ba];rfl) (λk s s' hk hi hs=>by cases hs;exact⟨by simp[hi.1],by simp[hi.2]⟩) ([],[]) ⟨rfl,rfl⟩
 rw[show(([]:Mx),([]:List Rt),(0:Int))=((([],[]):Mx×List Rt).1,(([],[]):Mx×List Rt).2,((0:Nat):Int))from rfl,hr,Pm]
 simp only[Bq]
 rw[getD_map 0 (rowAt p) c,getD_map 0 (FN p) c]
theorem mw{out:Mx}{v:List Rt×Bool}(h:out.length<=lim)(hv:v.1.length<=lim):Ap (PO out v) fz 0=some (cond (out.any (· ==v.1)) (.inr out) (.inl ())):=by
 rw[Hf (n:=out.length) (λk=>v.1==EO out k) out h (λk hk rec=>by
  show cond (decide ((k:Int) < (out.length:Int))) _ _=_
  rw[Bu hk,Ac,Hn hk]
  simp only[Aa]
  rw[uJ hv]
  simp only[Aa]
  rw[BC hk (Be h)]) (λrec=>by
  show cond (decide ((out.length:Int) < (out.length:Int))) _ _=_
  rw[Ba];rfl)]
 rw[t7 out (λx=>v.1==x),show(λx=>v.1==x)=(λx=>x==v.1)from by
  funext x
  rw[AL,Bi,Bi]
  exact eq_comm]
theorem bB{sg:Int}(hv:O6 p=true)(hR:R.length=p.2.1.length+p.2.2.length)(hrt:rt.length=p.2.1.length+p.2.2.length)(hA:∀j,j < p.2.1.length+p.2.2.length->EO R j=rowAt p j)(hB:∀j,j < p.2.1.length+p.2.2.length->atR rt j=FN p j):
  ∀(r:Nat) (c:List Nat) (fr f:Nat) (out:Mx),c.length+r=p.2.2.length->fr<=p.2.1.length+p.2.2.length->(∀e∈c,e < p.2.1.length+p.2.2.length)->r < f->out.length+11 ^ r<=lim->Rv out->
  Ap Fc f ((fr:Int),cI c,(p.2.2.length:Int),R,rt,p,sg,out)=some ((OE (p.2.1.length+p.2.2.length) r fr).foldl (λo d=>visit p sg o (c++d)) out)
 |0,c,fr,f,out,hc,hfr,hin,hf,ho,hol=>by
  obtain⟨f,rfl⟩:∃g,f=g+1:=⟨f - 1,by omega⟩
  obtain⟨h1,h2,h3,h4,h5,h6⟩:=KR hv
  have hsm:WJ p:=⟨by rw[h5];unfold lim;omega,by unfold lim;omega,by unfold lim;omega⟩
  have hcl:c.length<=lim:=by unfold lim;omega
  rw[By]
  show cond (decide (((cI c).length:Int) < (p.2.2.length:Int))) _ _=_
  rw[Sa,show c.length=p.2.2.length from by omega,Ba,Ad,uR hv hR hrt hA hB (by omega) hin]
  simp only[Aa]
  rw[uP (by rw[As];exact hcl)]
  simp only[Aa]
  rw[OE,Dc,I6,Bp]
  unfold visit
  cases(Rh (c.map (rowAt p)) (c.map (FN p))).2 with
  |false=>rfl
  |true=>
   have hxl:=aF (a:=c.map (rowAt p)) (b:=c.map (FN p)) (by rw[As];exact hcl)
   rw[Al,Ad,Ac,qr hsm hxl]
   simp only[Aa]
   cases PY p (Rh (c.map (rowAt p)) (c.map (FN p))).1 sg with
   |false=>rfl
   |true=>
    rw[Al,Ad,Ac,mw (by omega) hxl]
    simp only[Aa]
    cases out.any (· ==(Rh (c.map (rowAt p)) (c.map (FN p))).1)with
    |true=>rfl
    |false=>
     simp only[Ad]
     rw[AH (by simpa using ho)]
 |r+1,c,fr,f,out,hc,hfr,hin,hf,ho,hol=>by
  obtain⟨f,rfl⟩:∃g,f=g+1:=⟨f - 1,by omega⟩
  obtain⟨h1,h2,h3,h4,h5,h6⟩:=KR hv
  have hpw:11 ^ (r+1)=11 ^ r * 11:=Fl ..
  have hNm:p.2.1.length+p.2.2.length<=maxLen:=by unfold maxLen;omega
  rw[By]
  show cond (decide (((cI c).length:Int) < (p.2.2.length:Int))) (Aa (Ap (MB (cI c) (p.2.2.length:Int) R rt p sg (Ap Fc f)) fz (out,(fr:Int))) λz4=>some z4) _=_
  rw[Sa,Bu (show c.length < p.2.2.length by omega),Ac]
  have hl:=Tj (B:=MB (cI c) (p.2.2.length:Int) R rt p sg (Ap Fc f)) (n:=p.2.1.length+p.2.2.length) (O:=Unit) (λ(s:Mx) k=>(s,(k:Int))) (λk s=>fr<=k∧s.length<=out.length+(k - fr) * 11 ^ r∧Rv s) (λk s=>.inl ((OE (p.2.1.length+p.2.2.length) r (k+1)).foldl (λo d=>visit p sg o (c++(k::d))) s)) (λo=>match o with|.inl s=>s|.inr _=>[])
   (λrec k s hk hi=>by
    have hkm:(k - fr) * 11 ^ r<=10 * 11 ^ r:=Cy _ (by omega)
    show cond (decide ((k:Int) < (R.length:Int))) _ _=_
    rw[hR,Bu hk,Ac,uG (by rw[Sa];unfold lim;omega)]
    simp only[Aa]
    rw[AH (by rw[Sa];simp;unfold lim;omega),BC hk hNm,show cI c++[(k:Int)]=cI (c++[k])from by rw[pF];rfl,bB hv hR hrt hA hB r (c++[k]) (k+1) f s (by rw[Ar];simp;omega) (by omega) (λe he=>by
     rcases Aq.1 he with he|he
     ·exact hin e he
     ·rw[AT]at he;subst he;exact hk) (by omega) (by omega) hi.2.2]
    simp only[Aa,Bc,GE])
   (λrec s hi=>by
    show cond (decide (((p.2.1.length+p.2.2.length:Nat):Int) < (R.length:Int))) _ _=_
    rw[hR,Ba];rfl)
   (λk s s' hk hi hs=>by
    cases hs
    refine⟨by omega,?_,?_⟩
    ·have h1:=VO (f:=λo d=>visit p sg o (c++(k::d))) (λs x=>Wh p sg s _) (OE (p.2.1.length+p.2.2.length) r (k+1)) s
     have h2:=S0 (t:=p.2.1.length+p.2.2.length) (by omega) r (k+1)
     rw[show k+1 - fr=(k - fr)+1 from by omega,FT]
     have:=hi.2.1
     refine BD h1 ?_
     omega
    ·have:=bp (p:=p) (sg:=sg) (c:=c++[k]) (OE (p.2.1.length+p.2.2.length) r (k+1)) s (λd hd=>by
      rw[Ar,Ar,(Xn hd).1];simp;unfold lim;omega) hi.2.2
     simpa only[Bc,GE]using this) (p.2.1.length+p.2.2.length - fr) fr out fz (by omega) (by unfold fz;omega) ⟨Bl _,by simp,hol⟩
  rw[hl,Ug (λs k=>(OE (p.2.1.length+p.2.2.length) r (k+1)).foldl (λo d=>visit p sg o (c++(k::d))) s)]
  simp only[Aa]
  rw[<-mb _ r fr hfr,foldl_flat]
  simp only[List.foldl_map]
end
theorem gQ{p:LP}{i:Nat}(hi:i < p.2.2.length)(h:p.2.2.length<=lim):Ap (NQ p (i:Int)) fz ([],0)=some (TQ p.2.2.length i):=by
 have hl:=EK (B:=NQ p (i:Int)) (n:=p.2.2.length) (O:=Unit) (λ(s:List Rt) k=>(s,(k:Int))) (λk s=>s.length=k) (λk s=>.inl (s++[(if i=k then(1:Int)else 0,(1:Int))])) (λo=>match o with|.inl s=>s|.inr _=>[]) h (λrec k s hk hs=>by
  show cond (decide ((k:Int) < (p.2.2.length:Int))) _ _=_
  rw[Bu hk,Ac,show((i:Int)==(k:Int))=decide (i=k)from by rw[AL,Bi,decide_eq_true_iff];omega]
  unfold PJ
  by_cases e:i=k
  ·rw[Ag e,AI e,Ac]
   simp only[Aa]
   rw[AH (by rw[hs];simp;unfold lim at h⊢;omega),BC hk (Be h)]
  ·rw[Ah e,AJ e,Ad]
   simp only[Aa]
   rw[AH (by rw[hs];simp;unfold lim at h⊢;omega),BC hk (Be h)]) (λrec s _=>by
  show cond (decide ((p.2.2.length:Int) < (p.2.2.length:Int))) _ _=_
  rw[Ba];rfl) (λk s s' hk hi hs=>by cases hs;simp[hi]) [] rfl
 rw[show((0:Nat):Int)=0 from rfl]at hl
 rw[hl,X8]
 simp only[Bq]
 congr 1
 unfold TQ
 apply EE
 ·simp
 ·intro k h1 h2
  rw[BQ,Ga,EF]
  simp only[Dv,Gm,List.getElem_replicate]
  split<;>rfl
theorem jc{p:LP}{sg:Int}(hv:O6 p=true):N3 p sg=some (O8 p sg):=by
 obtain⟨h1,h2,h3,h4,h5,h6⟩:=KR hv
 have hl:p.2.2.length<=lim:=by unfold lim;omega
 unfold N3
 rw[AH (by rw[h5];simp;unfold lim;omega)]
 unfold Hr
 rw[AH (by simp;unfold lim;omega),Bq,Bq]
 simp only[Aa]
 have hr:=EK (B:=Q3 p) (n:=p.2.2.length) (O:=Unit) (λ(s:Mx×List Rt) k=>(s.1,s.2,(k:Int))) (λk s=>s.1.length=p.2.1.length+k∧s.2.length=p.2.1.length+k) (λk s=>.inl (s.1++[TQ p.2.2.length k],s.2++[((0:Int),(1:Int))])) (λo=>match o with|.inl s=>s|.inr _=>([],[])) hl (λrec k s hk hi=>by
  show cond (decide ((k:Int) < (p.2.2.length:Int))) _ _=_
  rw[Bu hk,Ac,gQ hk hl]
  simp only[Aa]
  rw[AH (by rw[hi.1];simp;unfold lim;omega),AH (by rw[hi.2];simp;unfold lim;omega),BC hk (Be hl)]) (λrec s hi=>by
  show cond (decide ((p.2.2.length:Int) < (p.2.2.length:Int))) _ _=_
  rw[Ba];rfl) (λk s s' hk hi hs=>by cases hs;exact⟨by simp[hi.1];omega,by simp[hi.2];omega⟩) (p.1,p.2.1) ⟨h5,rfl⟩
 rw[show((0:Nat):Int)=0 from rfl]at hr
 rw[hr,Pm (λk=>TQ p.2.2.length k) (λ_=>((0:Int),(1:Int)))]
 simp only
 unfold OQ
 have hR:(p.1++(List.range' 0 p.2.2.length).map λk=>TQ p.2.2.length k).length=p.2.1.length+p.2.2.length:=by simp[h5]
 have hrt:(p.2.1++(List.range' 0 p.2.2.length).map λ_=>((0:Int),(1:Int))).length=p.2.1.length+p.2.2.length:=by simp
 have hc:=bB (p:=p) (R:=p.1++(List.range' 0 p.2.2.length).map λk=>TQ p.2.2.length k) (rt:=p.2.1++(List.range' 0 p.2.2.length).map λ_=>((0:Int),(1:Int))) (sg:=sg) hv hR hrt (λj hj=>by
  rw[<-Jv (by rw[hR];exact hj)]
  unfold rowAt
  split
  ·rename_i hm
   rw[Hx (by rw[h5];exact hm),Jv]
  ·rename_i hm
   rw[G4 (by rw[h5];omega),BQ,Ga]
   simp[h5]) (λj hj=>by
  rw[<-J7 (by rw[hrt];exact hj)]
  unfold FN
  split
  ·rename_i hm
   rw[Hx hm,J7]
  ·rename_i hm
   rw[G4 (by omega),BQ]) p.2.2.length [] 0 fz [] (by simp) (by omega) (by simp) (by unfold fz;omega) (by have:=ff h2;simp;unfold lim;omega) (λr hr=>by simp at hr)
 rw[show((0:Nat):Int)=0 from rfl,show cI []=[]from rfl]at hc
 rw[hc]
 simp only[Bq]
 rfl
theorem MG{q:Hc}(h:De q=true):1<=q.1∧q.1<=5∧q.2.1.length<=4∧∀a∈q.2.1,a.2.length<=5∧∀v∈a.2,0<=v∧v < q.1:=by
 have e1:=KY h
 unfold De at h
 simp only[Ab,AC]at h
 obtain⟨h1,h2,-,h4,-⟩:=h
 have e2:1<=(q.2.1.length:Int)∧(q.2.1.length:Int)<=4:=by unfold Iw at h2;simpa using h2
 refine⟨e1.1,e1.2,by omega,λa ha=>?_⟩
 obtain⟨k,hk,rfl⟩:=Cx.1 ha
 have h5:=KF h4 hk
 unfold Mi at h5
 simp only[CF,CM]at h5
 have e3:1<=((q.2.1[k]).2.length:Int)∧((q.2.1[k]).2.length:Int)<=5:=by have:=h5.2.1;unfold Iw at this;simpa using this
 refine⟨by omega,λv hv=>?_⟩
 obtain⟨j,hj,rfl⟩:=Cx.1 hv
 have h6:=KF h5.2.2 hj
 simp only[CM]at h6
 rw[wrap_in (by omega)]at h6
 unfold Iw at h6
 simp only[Ab,AE]at h6
 omega
theorem UJ(l:List Int)(v:Int):decide (SE l v < 0)= !l.contains v:=by
 rw[<-MU]
 by_cases h:0<=SE l v
 ·rw[Ag h,Ah (by omega)];rfl
 ·rw[Ah h,Ag (by omega)];rfl
theorem lA(l:List SR)(p:List Int)(v:Int)(i:Nat):Yn id (l.map λa=>a.2) p v i=Yn (λa:SR=>a.2) l p v i:=by
 unfold Yn J6
 simp only[BE,id]
 cases l[i]? with
 |none=>rfl
 |some a=>
  simp only[Br]
  congr 1
  cases p[i]? with
  |none=>rfl
  |some x=>
   simp only
   cases l[x.toNat]? <;>rfl
theorem lB(l:List SR)(p:List Int)(v:Int)(k:Nat):Lz id (l.map λa=>a.2) p v k=Lz (λa:SR=>a.2) l p v k:=by
 unfold Lz
 congr 1
 exact FY λi _=>lA l p v i
def Wy{α:Type}(g:α->List Int)(l:List α)(p:List Int)(n:Nat):Bool:=(List.range n).any λv=>((Lz g l p (v:Int) p.length:Nat):Int)!=1
theorem nC{q:Hc}{p:List Int}(hq:JH q)(hw:wide p)(hl:q.2.1.length=p.length)(v:Int):Ap (DW q p v) fz (0,0)=some ((Lz (λa:SR=>a.2) q.2.1 p v p.length:Nat):Int):=by
 have hp:p.length<=lim:=by rw[<-hl];exact hq.1
 have:=Cs (body:=DW q p v) (out:=((Lz (λa:SR=>a.2) q.2.1 p v p.length:Nat):Int)) (λk=>(((Lz (λa:SR=>a.2) q.2.1 p v k:Nat):Int),(k:Int))) p.length (λk hk rec=>by
  have hk':k < q.2.1.length:=by omega
  have hle:=aM (λa:SR=>a.2) q.2.1 p v k
  have hst:=dA (λa:SR=>a.2) q.2.1 p v k
  unfold Yn at hst
  rw[CP hk',CP hk]at hst
  unfold DW FG GG
  simp only
  rw[Bu hk,Bm hk',Bm hk,BC hk (Be hp),hst]
  simp only[Ac,E9,X9 (hq.2.1 _ (Ak hk')).2]
  have hwrap:IntKind.i64.wrap (((Lz (λa:SR=>a.2) q.2.1 p v k:Nat):Int)+1)=((Lz (λa:SR=>a.2) q.2.1 p v k+1:Nat):Int):=Vo (by omega)
  cases q.2.1[k].2.contains v with
  |false=>simp
  |true=>
   simp only[Ac,Aw]
   have hwk:=hw k hk
   by_cases hn:p[k] < 0
   ·have e1:(p[k]== -1)=true:=by simp;omega
    rw[e1,Ag hn]
    simp only[Ac,Ht,hwrap]
   ·have e1:(p[k]== -1)=false:=by simp;omega
    rw[e1,Ah hn]
    have hj:p[k].toNat < q.2.1.length:=by omega
    have hg:AZ q.2.1 p[k]=some q.2.1[p[k].toNat]:=by
     have e:p[k]=((p[k].toNat:Nat):Int):=by omega
     conv=>lhs;rw[e]
     exact Bm hj
    rw[hg,CP hj]
    simp only[Ad,Ck,E9,X9 (hq.2.1 _ (Ak hj)).2]
    cases q.2.1[p[k].toNat].2.contains v with
    |true=>simp
    |false=>simp only[CD,Ac,hwrap]) (λrec=>by unfold DW;simp only;rw[Ba];rfl) fz (CQ hp)
 exact this
theorem nB{ls:List (List Int)}{p:List Int}(hw:wide p)(hl:ls.length=p.length)(hp:p.length<=lim)(hs:∀l∈ls,l.length<=lim)(v:Int):Ap (Df (ls,p) v) fz (0,0)=some ((Lz id ls p v p.length:Nat):Int):=by
 have:=Cs (body:=Df (ls,p) v) (out:=((Lz id ls p v p.length:Nat):Int)) (λk=>(((Lz id ls p v k:Nat):Int),(k:Int))) p.length (λk hk rec=>by
  have hk':k < ls.length:=by omega
  have hle:=aM id ls p v k
  have hst:=dA id ls p v k
  unfold Yn at hst
  rw[CP hk',CP hk]at hst
  unfold Df Ed Fx
  simp only
  rw[Bu hk',Bm hk',Bm hk,BC hk (Be hp),hst]
  simp only[Ac,E9,QM (hs _ (Ak hk')),MU,id]
  have hwrap:IntKind.i64.wrap (((Lz id ls p v k:Nat):Int)+1)=((Lz id ls p v k+1:Nat):Int):=Vo (by omega)
  cases ls[k].contains v with
  |false=>simp
  |true=>
   simp only[Ac,Aw]
   have hwk:=hw k hk
   by_cases hn:p[k] < 0
   ·have e1:(p[k]== -1)=true:=by simp;omega
    rw[e1,Ag hn]
    simp only[Ac,Ht,hwrap]
   ·have e1:(p[k]== -1)=false:=by simp;omega
    rw[e1,Ah hn]
    have hj:p[k].toNat < ls.length:=by omega
    have hg:AZ ls p[k]=some ls[p[k].toNat]:=by
     have e:p[k]=((p[k].toNat:Nat):Int):=by omega
     conv=>lhs;rw[e]
     exact Bm hj
    rw[hg,CP hj]
    simp only[Ad,Ck,E9,QM (hs _ (Ak hj)),UJ]
    cases ls[p[k].toNat].contains v with
    |true=>simp
    |false=>simp only[CD,Ac,hwrap]) (λrec=>by unfold Df;simp only;rw[hl,Ba];rfl) fz (CQ hp)
 exact this
theorem Vm{B:(Int->Option (Sum Unit Bool))->Int->Option (Sum Unit Bool)}{n:Int}(hn:1<=n∧n<=5)(f:Int->Int)(hB:∀rec v,B rec v=cond (decide (v < n)) (cond (f v !=1) (some (.inr false)) (rec (IntKind.i64.wrap (v+1)))) (some (.inl ()))):
  Ap B fz 0=some (cond ((List.range n.toNat).any λv=>f (v:Int)!=1) (.inr false) (.inl ())):=by
 refine Gq (λv=>f (v:Int)!=1) (by unfold lim;omega) (λk hk rec=>?_) (λrec=>?_)
 ·rw[hB,Ag (by omega:(k:Int) < n),wrap_in (by omega),Ac];rfl
 ·rw[hB,Ah (by omega:¬((n.toNat:Nat):Int) < n)];rfl
def jtB(q:Hc)(p:List Int):Bool:=De q&&(((p.length:Int)==(q.2.1.length:Int))&&(QD p&& !Wy (λa:SR=>a.2) q.2.1 p q.1.toNat))
theorem UY{m n:Nat}(h:((m:Int)==(n:Int))=true):m=n:=by have h:=eq_of_beq h;omega
theorem Tl{p:List Int}(h:TP p=true):wide p:=by
 unfold TP at h
 simp only[Ab,AC]at h
 exact aR λi hi=>by have:=KF h.1 hi;simp at this;exact this.1
theorem yf{q:Hc}{p:List Int}(hq:JH q)(hp:p.length < lim):H5 q p=some (jtB q p):=by
 unfold H5 jtB
 simp only[Mj hq,E9,bD hp]
 rw[show((p.length:Int)!=(q.2.1.length:Int))= !((p.length:Int)==(q.2.1.length:Int))from rfl]
 cases hv:De q with
 |false=>rfl
 |true=>
  cases hl:((p.length:Int)==(q.2.1.length:Int))with
  |false=>rfl
  |true=>
   have hn:=UY hl
   rw[<-Vk]
   cases ht:TP p with
   |false=>rfl
   |true=>
    simp only[Al,Ad,Aw]
    rw[bS (a:=q.2.1) (h:=λa:SR=>a.2) hq.1 (λk hk rec=>by
     unfold IV
     simp only
     rw[Bu hk,Bm hk,BC hk (Be hq.1)]
     simp only[Ac,E9]
     rw[AH (by simp only[As,Bb,At];have:=hq.1;omega)]) (λrec y=>by unfold IV;simp only;rw[Ba];rfl)]
    rw[E9,Vm (KY hv) (λv=>((Lz (λa:SR=>a.2) q.2.1 p v p.length:Nat):Int)) (λrec v=>by
     unfold MQ
     rw[jj (Tl ht) (by simp;omega) (by omega) (λl hl=>by
      obtain⟨a,ha,rfl⟩:=Bh.1 hl
      exact(hq.2.1 a ha).2),lB]
     rfl)]
    unfold Wy
    cases(List.range q.1.toNat).any λv=>((Lz (λa:SR=>a.2) q.2.1 p (v:Int) p.length:Nat):Int)!=1<;>rfl
theorem yx{q:Hc}{p:List Int}(hq:JH q)(hp:p.length < lim):Ii q p=some (jtB q p):=by
 unfold Ii jtB
 simp only[Ks hq,E9,az (show p.length<=lim by omega)]
 rw[show((p.length:Int)!=(q.2.1.length:Int))= !((p.length:Int)==(q.2.1.length:Int))from rfl]
 cases hv:De q with
 |false=>rfl
 |true=>
  cases hl:((p.length:Int)==(q.2.1.length:Int))with
  |false=>rfl
  |true=>
   have hn:=UY hl
   simp only[Al,Ad,Aw]
   by_cases hr:0<=Mb p
   ·rw[Ah (by omega:¬Mb p < 0),Ad]
    have hloop:Ap (GF p) fz 0=some (cond (B9 p λi _=> !NU p i) (.inr false) (.inl ())):=by
     unfold B9
     refine Gq (λk=>J6 p k λ_=> !NU p k) (by omega) (λk hk rec=>?_) (λrec=>by unfold GF;rw[Ba];rfl)
     unfold GF
     rw[Bu hk,kM hp,BC hk (Be (show p.length<=lim by omega)),CP hk]
     simp only[Ac,E9,az (show p.length<=lim by omega)]
     exact cd hp hk _ _
    have ht:QD p= !B9 p λi _=> !NU p i:=by unfold QD;rw[Ag hr,Aw]
    rw[hloop,E9,ht]
    cases hb:(B9 p λi _=> !NU p i)with
    |true=>rfl
    |false=>
     have hw:wide p:=Tl (by rw[Vk,ht,hb];rfl)
     simp only[Ad,CD,Aw]
     rw[Vm (KY hv) (λv=>((Lz (λa:SR=>a.2) q.2.1 p v p.length:Nat):Int)) (λrec v=>by
      unfold MV
      rw[nC hq hw hn.symm]
      rfl)]
     unfold Wy
     cases(List.range q.1.toNat).any λv=>((Lz (λa:SR=>a.2) q.2.1 p (v:Int) p.length:Nat):Int)!=1<;>rfl
   ·rw[Ag (by omega:Mb p < 0)]
    have ht:QD p=false:=by unfold QD;rw[Ah hr,I3]
    rw[ht];rfl
theorem WQ{α:Type}(l:List α)(f g:Nat->α->Bool):B9 l (λk e=>f k e || g k e)=(B9 l f || B9 l g):=by
 unfold B9
 induction List.range l.length with
 |nil=>rfl
 |cons k ks ih=>
  rw[EM,EM,EM,ih]
  unfold J6
  cases l[k]? with
  |none=>simp
  |some e=>
   simp only
   cases f k e<;>cases g k e<;>simp
theorem cG{α β:Type}{l:List α}{m:List β}(h:l.length=m.length)(f:Nat->Bool):B9 l (λk _=>f k)=B9 m λk _=>f k:=by
 unfold B9
 rw[h]
 rw[AL,Cg,Cg]
 constructor
 ·rintro⟨k,hk,hb⟩
  have hk':=An.1 hk
  rw[CP (by omega)]at hb
  exact⟨k,hk,by rw[CP hk'];exact hb⟩
 ·rintro⟨k,hk,hb⟩
  have hk':=An.1 hk
  rw[CP hk']at hb
  exact⟨k,hk,by rw[CP (by omega)];exact hb⟩
def b7(n:Int)(e:Int):Bool:= !Iw e 0 (IntKind.i64.wrap (n - 1))
def QV(n:Int)(b:List Int):Bool:=(!B9 b λk e=>b7 n e || Oq b k e)&&decide (0 < (b.length:Int))
theorem oW{q:Hc}{b:List Int}(h:b.length<=lim):OC q b=some (QV q.1 b):=by
 unfold OC QV B9
 rw[Gq (λk=>J6 b k λe=>b7 q.1 e || Oq b k e) h (λk hk rec=>by
  unfold NB K8
  rw[Bu hk,Bm hk,BC hk (Be h),CP hk]
  simp only[Ac,E9,LW,b7,Oq]
  cases Iw b[k] 0 (IntKind.i64.wrap (q.1 - 1))with
  |false=>rfl
  |true=>
   by_cases h0:0 < k
   ·have hk':k - 1 < b.length:=by omega
    rw[lK hk h0 (Be h),Bm hk',CP hk',Ag (by omega:(0:Int) < (k:Int)),Ag h0]
    rfl
   ·rw[Ah (by omega:¬(0:Int) < (k:Int)),Ah h0];rfl) (λrec=>by unfold NB;rw[Ba];rfl)]
 cases(List.range b.length).any λk=>J6 b k λe=>b7 q.1 e || Oq b k e<;>rfl
theorem hY{l:List Int}(h:B9 l (Oq l)=false):∀(d j:Nat) (hd:j+1+d < l.length),l[j]'(by omega) < l[j+1+d]'hd
 |0,j,hd=>by
  have:=KF h hd
  unfold Oq at this
  rw[Ag (by omega),Aw,CP (by omega:j+1+0 - 1 < l.length)]at this
  simp only[HQ,Int.not_le]at this
  exact this
 |d+1,j,hd=>by
  have h1:=hY h d j (by omega)
  have h2:=KF h hd
  unfold Oq at h2
  rw[Ag (by omega),Aw,CP (by omega:j+1+(d+1) - 1 < l.length)]at h2
  simp only[HQ,Int.not_le]at h2
  have e:l[j+1+(d+1) - 1]'(by omega)=l[j+1+d]'(by omega):=by congr 1
  rw[e]at h2
  omega
theorem fw{n:Int}{l:List Int}(h:B9 l (Oq l)=false):B9 l (G7 n l)=B9 l λ_ e=>b7 n e:=by
 have e:B9 l (G7 n l)=(B9 l (λ_ e=>b7 n e) || B9 l (λk e=>(l.take k).contains e)):=by
  rw[<-WQ];rfl
 have e2:B9 l (λk e=>(l.take k).contains e)=false:=MK λi hi=>by
  rw[<-Jy,Av]
  intro hm
  obtain⟨j,hj,he⟩:=Cx.1 hm
  rw[Bb]at hj
  rw[List.getElem_take]at he
  have:=hY h (i - j - 1) j (by omega)
  have e3:l[j+1+(i - j - 1)]'(by omega)=l[i]:=by congr 1;omega
  rw[e3]at this
  omega
 rw[e,e2,CV]
theorem ot{q:Hc}{b:List Int}(h:b.length<=lim):PK q b=some (QV q.1 b):=by
 unfold PK L8 QV
 simp only[uC h,ji h,E9]
 rw[WQ]
 cases hu:B9 b (Oq b)with
 |true=>cases decide (0 < (b.length:Int))<;>simp
 |false=>
  rw[fw hu]
  cases decide (0 < (b.length:Int))<;>cases(B9 b λ_ e=>b7 q.1 e)<;>rfl
def YE(a:SR)(k:Nat):List Int:=((List.range k).filter λ(v:Nat)=>a.2.contains (v:Int)).map λ(v:Nat)=>(v:Int)
theorem t9(a:SR)(k:Nat):YE a (k+1)=YE a k++cond (a.2.contains (k:Int)) [(k:Int)] []:=by
 unfold YE
 rw[CI,Dn,BU,Du,GD]
 cases a.2.contains (k:Int)<;>rfl
theorem ZB(a:SR)(k:Nat):(YE a k).length<=k:=by
 unfold YE
 rw[As]
 exact BD (BS _ _) (by simp)
theorem uE{a:SR}(h:a.2.length<=lim)(hcv:∀v,CZ a v=some (a.2.contains v)):Gc a=some (YE a 5):=by
 unfold Gc
 have:=Cs (body:=F9 a) (out:=YE a 5) (λk=>(YE a k,(k:Int))) 5 (λk hk rec=>by
  have hl:=ZB a k
  unfold F9 HF
  simp only
  rw[Ag (by omega:(k:Int) < 5),hcv,wrap_in (by omega),t9]
  simp only[Ac,E9]
  cases a.2.contains (k:Int)with
  |true=>rw[Ac,AH (by unfold lim;simp;omega)];rfl
  |false=>rw[Ad,Ad,Bp];rfl) (λrec=>by unfold F9;simp only;rfl) fz (by unfold fz;omega)
 rw[show((([]:List Int),(0:Int)))=(YE a 0,((0:Nat):Int))from rfl,this]
 rfl
theorem iT{α:Type}(f:α->Bool){l:List α}{k:Nat}(hk:k < l.length):(l.take (k+1)).filter f=(l.take k).filter f++cond (f l[k]) [l[k]] []:=by
 rw[AB hk,Dn,Du,GD]
 cases f l[k]<;>rfl
theorem XD{a b:List Int}(ha:a.length < lim)(hb:b.length<=lim):MR a b=some (a.filter b.contains):=by
 unfold MR
 have:=Cs (body:=KL a b) (out:=a.filter b.contains) (λk=>((a.take k).filter b.contains,(k:Int))) a.length (λk hk rec=>by
  have hl:((a.take k).filter b.contains).length<=k:=BD (BS _ _) (by simp;omega)
  unfold KL M8
  simp only
  rw[Bu hk,Bm hk,BC hk (Be (by omega)),iT _ hk]
  simp only[Ac,E9,Wp hb]
  cases b.contains a[k]with
  |true=>rw[Ac,AH (by simp only[At];omega)];rfl
  |false=>rw[Ad,Ad,Bp]) (λrec=>by unfold KL;simp only;rw[Ba,A6];rfl) fz (CQ (by omega))
 rw[show((([]:List Int),(0:Int)))=((a.take 0).filter b.contains,((0:Nat):Int))from by simp,this]
 rfl
def PP(a:SR)(b:List Int):Bool:=a.2.all b.contains
theorem kX{a:SR}{b:List Int}(ha:a.2.length<=lim)(hb:b.length<=lim):ND a b=some (PP a b):=by
 unfold ND
 rw[Gq (λk=>J6 a.2 k λv=> !b.contains v) ha (λk hk rec=>by
  unfold NE
  rw[Bu hk,Bm hk,BC hk (Be ha),CP hk]
  simp only[Ac,E9,QM hb,UJ]) (λrec=>by unfold NE;rw[Ba];rfl)]
 have e:PP a b= !(List.range a.2.length).any λk=>J6 a.2 k λv=> !b.contains v:=by
  rw[AL]
  unfold PP
  rw[Ae,AC,Cm]
  constructor
  ·intro h k hk
   have hk:=An.1 hk
   rw[CP hk,h _ (Ak hk)];simp
  ·intro h v hv
   obtain⟨k,hk,rfl⟩:=Cx.1 hv
   have:=h k (An.2 hk)
   rw[CP hk]at this
   simpa using this
 rw[e]
 cases(List.range a.2.length).any λk=>J6 a.2 k λv=> !b.contains v<;>rfl
theorem mB{a:SR}(h:∀v∈a.2,0<=v∧v < 5)(b:List Int):(((((YE a 5).filter b.contains).length:Nat):Int)==(((YE a 5).length:Nat):Int))=PP a b:=by
 have e1:(((((YE a 5).filter b.contains).length:Nat):Int)==(((YE a 5).length:Nat):Int))=true↔((YE a 5).filter b.contains).length=(YE a 5).length:=by
  rw[Bi];omega
 rw[AL,e1,List.length_filter_eq_length_iff]
 unfold PP
 rw[Ae]
 constructor
 ·intro hh v hv
  have hb:=h v hv
  refine hh v ?_
  unfold YE
  rw[Bh]
  exact⟨v.toNat,Bf.2 ⟨An.2 (by omega),by rw[show((v.toNat:Nat):Int)=v by omega];simpa using hv⟩,by omega⟩
 ·intro hh v hv
  unfold YE at hv
  rw[Bh]at hv
  obtain⟨n,hn,rfl⟩:=hv
  have:=(Bf.1 hn).2
  exact hh _ (by simpa using this)
theorem g9{α:Type}(f:α->Bool){l:List α}{k:Nat}(hk:k < l.length):(l.take (k+1)).any f=((l.take k).any f || f l[k]):=by
 rw[AB hk,GC];simp
def ZP(q:Hc)(x:List (List Int)×List Int):Bool:=De q&&(((x.2.length:Int)==(x.1.length:Int))&&(QD x.2&&((!B9 x.1 λ_ b=> !QV q.1 b)&&((!B9 q.2.1 λ_ a=> !x.1.any (PP a))&& !Wy id x.1 x.2 q.1.toNat))))
def Zh(x:List (List Int)×List Int):Prop:=x.1.length < lim∧(∀b∈x.1,b.length < lim)∧x.2.length < lim
theorem xi{q:Hc}{x:List (List Int)×List Int}(hq:JH q)(hx:Zh x):Ap (Fv q x) fz 0=some (cond (B9 q.2.1 λ_ a=> !x.1.any (PP a)) (.inr false) (.inl ())):=by
 unfold B9
 refine Gq (λk=>J6 q.2.1 k λa=> !x.1.any (PP a)) hq.1 (λk hk rec=>?_) (λrec=>by unfold Fv;rw[Ba];rfl)
 have hin:Ap (DC q x (k:Int)) fz (false,0)=some (x.1.any (PP q.2.1[k])):=by
  have:=Cs (body:=DC q x (k:Int)) (out:=x.1.any (PP q.2.1[k])) (λj=>((x.1.take j).any (PP q.2.1[k]),(j:Int))) x.1.length (λj hj rec=>by
   unfold DC Fw
   simp only
   rw[Bu hj,Bm hk,Bm hj,BC hj (Be (Cd hx.1)),g9 _ hj]
   simp only[Ac,E9,kX (hq.2.1 _ (Ak hk)).2 (Cd (hx.2.1 _ (Ak hj)))]
   cases(x.1.take j).any (PP q.2.1[k])<;>rfl) (λrec=>by unfold DC;simp only;rw[Ba,A6];rfl) fz (CQ (Cd hx.1))
  simpa using this
 unfold Fv
 rw[Bu hk,hin,BC hk (Be hq.1),CP hk]
 rfl
theorem uK{q:Hc}{x:List (List Int)×List Int}(hq:JH q)(hv:De q=true)(hcv:∀a:SR,a.2.length<=lim->∀v,CZ a v=some (a.2.contains v))(hx:Zh x):Ap (Fp q x) fz 0=some (cond (B9 q.2.1 λ_ a=> !x.1.any (PP a)) (.inr false) (.inl ())):=by
 have hf:=MG hv
 unfold B9
 refine Gq (λk=>J6 q.2.1 k λa=> !x.1.any (PP a)) hq.1 (λk hk rec=>?_) (λrec=>by unfold Fp;rw[Ba];rfl)
 have ha:=(hq.2.1 _ (Ak hk)).2
 have hav:=uE ha (hcv _ ha)
 have hv5:∀v∈q.2.1[k].2,0<=v∧v < 5:=λv hv=>by have:=(hf.2.2.2 _ (Ak hk)).2 v hv;omega
 have hin:Ap (DA x q.2.1[k]) fz (false,0)=some (x.1.any (PP q.2.1[k])):=by
  have:=Cs (body:=DA x q.2.1[k]) (out:=x.1.any (PP q.2.1[k])) (λj=>((x.1.take j).any (PP q.2.1[k]),(j:Int))) x.1.length (λj hj rec=>by
   have hl:=ZB q.2.1[k] 5
   unfold DA Fq
   simp only
   rw[Bu hj,Bm hj,BC hj (Be (Cd hx.1)),g9 _ hj]
   simp only[Ac,E9,hav,XD (a:=YE q.2.1[k] 5) (b:=x.1[j]) (by unfold lim;omega) (Cd (hx.2.1 _ (Ak hj))),mB hv5]
   cases(x.1.take j).any (PP q.2.1[k])<;>rfl) (λrec=>by unfold DA;simp only;rw[Ba,A6];rfl) fz (CQ (Cd hx.1))
  simpa using this
 unfold Fp
 rw[Bu hk,Bm hk,E9,hin,BC hk (Be hq.1),CP hk]
 rfl
theorem cY{a:SR}(h:a.2.length<=lim)(v:Int):CZ a v=some (a.2.contains v):=by
 unfold CZ
 simp only[Wp h,E9]
theorem ov{q:Hc}{x:List (List Int)×List Int}(hq:JH q)(hx:Zh x):E1 q x=some (ZP q x):=by
 unfold E1 ZP
 simp only[Mj hq,E9,bD hx.2.2]
 rw[show((x.1.length:Int)!=(x.2.length:Int))= !((x.2.length:Int)==(x.1.length:Int))from by rw[bne];congr 1;rw[AL];simp;omega]
 cases hv:De q with
 |false=>rfl
 |true=>
  cases hl:((x.2.length:Int)==(x.1.length:Int))with
  |false=>rfl
  |true=>
   have hn:=UY hl
   rw[<-Vk]
   cases ht:TP x.2 with
   |false=>rfl
   |true=>
    have hloop:Ap (Fo q x) fz 0=some (cond (B9 x.1 λ_ b=> !QV q.1 b) (.inr false) (.inl ())):=by
     unfold B9
     refine Gq (λk=>J6 x.1 k λb=> !QV q.1 b) (Cd hx.1) (λk hk rec=>?_) (λrec=>by unfold Fo;rw[Ba];rfl)
     unfold Fo
     rw[Bu hk,Bm hk,BC hk (Be (Cd hx.1)),CP hk]
     simp only[Ac,E9,ot (Cd (hx.2.1 _ (Ak hk)))]
    simp only[Al,Ad,Aw]
    rw[hloop,E9]
    cases(B9 x.1 λ_ b=> !QV q.1 b)with
    |true=>rfl
    |false=>
     simp only[Ad,CD,Aw]
     rw[uK hq hv (λa ha v=>cY ha v) hx,E9]
     cases(B9 q.2.1 λ_ a=> !x.1.any (PP a))with
     |true=>rfl
     |false=>
      simp only[Ad,CD,Aw]
      rw[Vm (KY hv) (λv=>((Lz id x.1 x.2 v x.2.length:Nat):Int)) (λrec v=>by
       unfold JP
       rw[jj (Tl ht) hn.symm (Cd hx.2.2) (λl hl=>Cd (hx.2.1 l hl))]
       rfl)]
      unfold Wy
      cases(List.range q.1.toNat).any λv=>((Lz id x.1 x.2 (v:Int) x.2.length:Nat):Int)!=1<;>rfl
theorem xd{q:Hc}{x:List (List Int)×List Int}(hq:JH q)(hx:Zh x):F8 q x=some (ZP q x):=by
 unfold F8 ZP
 simp only[Ks hq,E9,az (Cd hx.2.2)]
 rw[show((x.2.length:Int)!=(x.1.length:Int))= !((x.2.length:Int)==(x.1.length:Int))from rfl]
 cases hv:De q with
 |false=>rfl
 |true=>
  cases hl:((x.2.length:Int)==(x.1.length:Int))with
  |false=>rfl
  |true=>
   have hn:=UY hl
   simp only[Al,Ad,Aw]
   by_cases hr:0<=Mb x.2
   ·rw[Ah (by omega:¬Mb x.2 < 0),Ad]
    have hloop:Ap (Fu q x) fz 0=some (cond (B9 x.1 λi b=> !QV q.1 b || !NU x.2 i) (.inr false) (.inl ())):=by
     unfold B9
     refine Gq (λk=>J6 x.1 k λb=> !QV q.1 b || !NU x.2 k) (Cd hx.1) (λk hk rec=>?_) (λrec=>by unfold Fu;rw[Ba];rfl)
     unfold Fu
     rw[Bu hk,kM hx.2.2,Bm hk,BC hk (Be (Cd hx.1)),CP hk]
     simp only[Ac,E9,az (Cd hx.2.2),oW (Cd (hx.2.1 _ (Ak hk)))]
     cases QV q.1 x.1[k]with
     |false=>rfl
     |true=>
      simp only[Al,Ad,Ck]
      exact cd hx.2.2 (by omega) _ _
    have ht:QD x.2= !B9 x.1 λi _=> !NU x.2 i:=by
     unfold QD
     rw[Ag hr,Aw,cG hn]
    rw[hloop,E9,WQ,ht]
    cases hb:(B9 x.1 λi _=> !NU x.2 i)with
    |true=>cases(B9 x.1 λ_ b=> !QV q.1 b)<;>rfl
    |false=>
     have hw:wide x.2:=Tl (by rw[Vk,ht,hb];rfl)
     cases(B9 x.1 λ_ b=> !QV q.1 b)with
     |true=>rfl
     |false=>
      simp only[Ad,CD,Aw,CV]
      rw[xi hq hx,E9]
      cases(B9 q.2.1 λ_ a=> !x.1.any (PP a))with
      |true=>rfl
      |false=>
       simp only[Ad,CD,Aw]
       rw[Vm (KY hv) (λv=>((Lz id x.1 x.2 v x.2.length:Nat):Int)) (λrec v=>by
        unfold JV
        have:=nB (ls:=x.1) hw hn.symm (Cd hx.2.2) (λl hl=>Cd (hx.2.1 l hl)) v
        rw[show(x.1,x.2)=x from rfl]at this
        rw[this]
        rfl)]
       unfold Wy
       cases(List.range q.1.toNat).any λv=>((Lz id x.1 x.2 (v:Int) x.2.length:Nat):Int)!=1<;>rfl
   ·rw[Ag (by omega:Mb x.2 < 0)]
    have ht:QD x.2=false:=by unfold QD;rw[Ah hr,I3]
    rw[ht];rfl
abbrev Pln:=Int×List Int×List Int×(List (List Int)×List Int)
def cr(p:Pln):Prop:=p.2.1.length<=lim∧p.2.2.1.length < lim∧Zh p.2.2.2
def gG(q:Hc)(p:Pln):Bool:=cond (p.1==1) (jtB q p.2.2.1) (cond (p.1==2) (ZP q p.2.2.2) (cond (p.1==3) (dt q p.2.1) false))
theorem xo{q:Hc}{p:Pln}(hq:JH q)(hp:cr p):Ls q p=some (gG q p):=by
 unfold Ls gG
 simp only[yx hq hp.2.1,xd hq hp.2.2,ft hq hp.1,E9]
 cases p.1==1<;>cases p.1==2<;>cases p.1==3<;>rfl
theorem uO{q:Hc}{p:Pln}(hq:JH q)(hp:cr p):Lf q p=some (gG q p):=by
 unfold Lf gG
 simp only[yf hq hp.2.1,ov hq hp.2.2,eK hq hp.1,E9]
 cases p.1==1<;>cases p.1==2<;>cases p.1==3<;>rfl
def LB(q:Hc)(v:Int):List Rt:=q.2.1.map λa=>(cond (a.2.contains v) 1 0,1)
def cpP(q:Hc):LP:=((List.range' 0 q.1.toNat).map (λ(v:Nat)=>LB q (v:Int)),(List.range' 0 q.1.toNat).map (λ_=>(1,1)),q.2.1.map λ_=>(1,1))
def cpB(q:Hc):LP×Bool:=cond (De q) (cpP q,true) (([],[],[]),false)
theorem FF{q:Hc}(h:De q=true):1<=q.1∧q.1<=5∧1<=q.2.1.length∧q.2.1.length<=4:=by
 unfold De at h
 simp only[Ab,NZ]at h
 omega
section
variable {q:Hc}
theorem nA(hq:JH q)(v:Int):Ap (If q v) fz ([],0)=some (LB q v):=by
 rw[Pq (B:=If q v) (l:=q.2.1) (s0:=[]) (h:=λa=>(cond (a.2.contains v) 1 0,1)) (by simpa using hq.1) (λk hk s rec hs=>by
  show cond (decide ((k:Int) < (q.2.1.length:Int))) _ _=_
  rw[Bu hk,Ac,Bm hk]
  simp only[Aa]
  rw[X9 (hq.2.1 _ (Ak hk)).2]
  simp only[Aa]
  unfold Ig
  have h1:=hq.1
  cases(q.2.1[k]).2.contains v with
  |true=>rw[Ac,AH (by rw[hs];simp;unfold lim at h1⊢;omega),BC hk (Be hq.1)];rfl
  |false=>rw[Ad,AH (by rw[hs];simp;unfold lim at h1⊢;omega),BC hk (Be hq.1)];rfl) (λrec s=>by
  show cond (decide ((q.2.1.length:Int) < (q.2.1.length:Int))) _ _=_
  rw[Ba];rfl),Bq]
 rfl
theorem eF(hq:JH q)(v:Int):Ap (OM q v) fz ([],0)=some (LB q v):=by
 rw[Pq (B:=OM q v) (l:=q.2.1) (s0:=[]) (h:=λa=>(cond (a.2.contains v) 1 0,1)) (by simpa using hq.1) (λk hk s rec hs=>by
  show cond (decide ((k:Int) < (q.2.1.length:Int))) _ _=_
  rw[Bu hk,Ac,Bm hk]
  simp only[Aa]
  rw[cY (hq.2.1 _ (Ak hk)).2]
  simp only[Aa]
  unfold PJ
  have h1:=hq.1
  cases(q.2.1[k]).2.contains v with
  |true=>rw[Ac];simp only[Aa];rw[AH (by rw[hs];simp;unfold lim at h1⊢;omega),BC hk (Be hq.1)];rfl
  |false=>rw[Ad];simp only[Aa];rw[AH (by rw[hs];simp;unfold lim at h1⊢;omega),BC hk (Be hq.1)];rfl) (λrec s=>by
  show cond (decide ((q.2.1.length:Int) < (q.2.1.length:Int))) _ _=_
  rw[Ba];rfl),Bq]
 rfl
theorem kL(hq:JH q):Ap (K1 q) fz ([],0)=some (q.2.1.map λ_=>(1,1)):=by
 rw[Pq (B:=K1 q) (l:=q.2.1) (s0:=[]) (h:=λ_=>(1,1)) (by simpa using hq.1) (λk hk s rec hs=>by
  have h1:=hq.1
  show cond (decide ((k:Int) < (q.2.1.length:Int))) _ _=_
  rw[Bu hk,Ac,AH (by rw[hs];simp;unfold lim at h1⊢;omega),BC hk (Be hq.1)]) (λrec s=>by
  show cond (decide ((q.2.1.length:Int) < (q.2.1.length:Int))) _ _=_
  rw[Ba];rfl),Bq]
theorem jb(hq:JH q):Ap (ON q) fz ([],0)=some (q.2.1.map λ_=>(1,1)):=by
 rw[Pq (B:=ON q) (l:=q.2.1) (s0:=[]) (h:=λ_=>(1,1)) (by simpa using hq.1) (λk hk s rec hs=>by
  have h1:=hq.1
  show cond (decide ((k:Int) < (q.2.1.length:Int))) _ _=_
  rw[Bu hk,Ac,AH (by rw[hs];simp;unfold lim at h1⊢;omega),BC hk (Be hq.1)]) (λrec s=>by
  show cond (decide ((q.2.1.length:Int) < (q.2.1.length:Int))) _ _=_
  rw[Ba];rfl),Bq]
theorem yv(hq:JH q):Kt q=some (cpB q):=by
 unfold Kt cpB
 rw[Ks hq]
 simp only[Aa]
 cases hv:De q with
 |false=>rfl
 |true=>
  obtain⟨h1,h2,h3,h4⟩:=FF hv
  have hn:((q.1.toNat:Nat):Int)=q.1:=by omega
  rw[Al,Ad]
  have hl:=EK (B:=Oy q) (n:=q.1.toNat) (O:=Unit) (λ(s:Mx×List Rt) k=>(s.1,s.2,(k:Int))) (λk s=>s.1.length=k∧s.2.length=k) (λk s=>.inl (s.1++[LB q (k:Int)],s.2++[((1:Int),(1:Int))])) (λo=>match o with|.inl s=>s|.inr _=>([],[])) (by unfold lim;omega) (λrec k s hk hi=>by
   show cond (decide ((k:Int) < q.1)) _ _=_
   rw[Ag (by omega),Ac,nA hq]
   simp only[Aa]
   rw[AH (by rw[hi.1];simp;unfold lim;omega),AH (by rw[hi.2];simp;unfold lim;omega),BC hk (by unfold maxLen;omega)]) (λrec s hi=>by
   show cond (decide (((q.1.toNat:Nat):Int) < q.1)) _ _=_
   rw[Ah (by omega)];rfl) (λk s s' hk hi hs=>by cases hs;exact⟨by simp[hi.1],by simp[hi.2]⟩) ([],[]) ⟨rfl,rfl⟩
  rw[show(([]:Mx),([]:List Rt),(0:Int))=((([],[]):Mx×List Rt).1,(([],[]):Mx×List Rt).2,((0:Nat):Int))from rfl,hl,Pm (λk=>LB q (k:Int)) (λ_=>((1:Int),(1:Int)))]
  simp only[Bq]
  rw[kL hq]
  rfl
theorem yd(hq:JH q):Kh q=some (cpB q):=by
 unfold Kh cpB
 rw[Mj hq]
 simp only[Aa]
 cases hv:De q with
 |false=>rfl
 |true=>
  obtain⟨h1,h2,h3,h4⟩:=FF hv
  rw[Al,Ad]
  have hd:Ki q=some ((List.range' 0 q.1.toNat).map λ(v:Nat)=>(v:Int)):=by
   unfold Ki
   rw[Mj hq,hv]
   simp only[Aa,Al,Ad]
   have hl:=EK (B:=Of q) (n:=q.1.toNat) (O:=Unit) (λ(s:List Int) k=>(s,(k:Int))) (λk s=>s.length=k) (λk s=>.inl (s++[(k:Int)])) (λo=>match o with|.inl s=>s|.inr _=>[]) (by unfold lim;omega) (λrec k s hk hi=>by
    show cond (decide ((k:Int) < q.1)) _ _=_
    rw[Ag (by omega),Ac,AH (by rw[hi];simp;unfold lim;omega),BC hk (by unfold maxLen;omega)]) (λrec s hi=>by
    show cond (decide (((q.1.toNat:Nat):Int) < q.1)) _ _=_
    rw[Ah (by omega)];rfl) (λk s s' hk hi hs=>by cases hs;simp[hi]) [] rfl
   rw[show((0:Nat):Int)=0 from rfl]at hl
   rw[hl,X8 (λ(k:Nat)=>(k:Int))]
   rfl
  rw[hd]
  simp only[Aa]
  unfold M9
  have hlen:((List.range' 0 q.1.toNat).map λ(v:Nat)=>(v:Int)).length=q.1.toNat:=by simp
  have hl:=EK (B:=JQ q ((List.range' 0 q.1.toNat).map λ(v:Nat)=>(v:Int))) (n:=q.1.toNat) (O:=Unit) (λ(s:Mx×List Rt) k=>(s.1,s.2,(k:Int))) (λk s=>s.1.length=k∧s.2.length=k) (λk s=>.inl (s.1++[LB q (k:Int)],s.2++[((1:Int),(1:Int))])) (λo=>match o with|.inl s=>s|.inr _=>([],[])) (by unfold lim;omega) (λrec k s hk hi=>by
   show cond (decide ((k:Int) < ((((List.range' 0 q.1.toNat).map λ(v:Nat)=>(v:Int)).length:Nat):Int))) _ _=_
   rw[hlen,Bu hk,Ac,Bm (by rw[hlen];exact hk),BQ,Ga]
   simp only[Aa,Dv,Gm]
   rw[eF hq]
   simp only[Aa]
   rw[AH (by rw[hi.1];simp;unfold lim;omega),AH (by rw[hi.2];simp;unfold lim;omega),BC hk (by unfold maxLen;omega)]) (λrec s hi=>by
   show cond (decide (((q.1.toNat:Nat):Int) < ((((List.range' 0 q.1.toNat).map λ(v:Nat)=>(v:Int)).length:Nat):Int))) _ _=_
   rw[hlen,Ba];rfl) (λk s s' hk hi hs=>by cases hs;exact⟨by simp[hi.1],by simp[hi.2]⟩) ([],[]) ⟨rfl,rfl⟩
  rw[show(([]:Mx),([]:List Rt),(0:Int))=((([],[]):Mx×List Rt).1,(([],[]):Mx×List Rt).2,((0:Nat):Int))from rfl,hl,Pm (λk=>LB q (k:Int)) (λ_=>((1:Int),(1:Int)))]
  simp only[Bq]
  rw[jb hq]
  rfl
theorem oh(hv:De q=true):WJ (cpP q):=by
 obtain⟨h1,h2,h3,h4⟩:=FF hv
 unfold cpP WJ
 refine⟨by simp;unfold lim;omega,by simp;unfold lim;omega,by simp;unfold lim;omega⟩
end
section
variable {s:List Int}{a b:List Rt}
end
theorem XA{S:List Bool}{i:Nat}:gB S i=true->i < S.length:=λh=>by
 refine Bn λhc=>?_
 unfold gB at h
 rw[Au,A8 (by omega)]at h
 cases h
theorem iZ{S:List Bool}{i j:Nat}(h:i < S.length):gB (S.set i false) j=(if i=j then false else gB S j):=by
 unfold gB
 rw[Au,DM,Au]
 split
 ·first|rfl|(rename_i e;subst e;rw[AI h];rfl)
 ·rfl
theorem Yb:∀{S:List Bool}{i:Nat},gB S i=true->((S.set i false).filter id).length < (S.filter id).length
 |[],i,h=>by simp[gB]at h
 |b::S,0,h=>by
  have:b=true:=h
  subst this
  simp
 |b::S,i+1,h=>by
  have:=Yb (S:=S) (i:=i) h
  cases b<;>simp[List.set_cons_succ]<;>simpa using this
theorem Ws{P:List Bool->Prop}{n:Nat}:∀(k:Nat) (S:List Bool),(S.filter id).length<=k->S.length=n->P S->∃S:List Bool,S.length=n∧P S∧∀i,gB S i=true->¬P (S.set i false)
 |0,S,hk,hl,hp=>⟨S,hl,hp,λi hi _=>by have:=Yb hi;omega⟩
 |k+1,S,hk,hl,hp=>by
  by_cases h:∃i,gB S i=true∧P (S.set i false)
  ·obtain⟨i,h1,h2⟩:=h
   have:=Yb h1
   exact Ws k (S.set i false) (by omega) (by rw[BG];exact hl) h2
  ·exact⟨S,hl,hp,λi hi hc=>h ⟨i,hi,hc⟩⟩
theorem a4{t:Nat}:∀{c:List Nat}{i:Nat},(i::c).Pairwise (· < ·)->(∀e∈i::c,e < t)->i+c.length < t
 |[],i,_,h=>by have:=h i BO;simpa using this
 |d::c,i,hp,h=>by
  obtain⟨h1,h2⟩:=Ic.1 hp
  have:=a4 h2 λe he=>h e (AX _ he)
  have:=h1 d BO
  rw[Ax];omega
theorem dY{t:Nat}:∀{c:List Nat}{fr:Nat},c.Pairwise (· < ·)->(∀e∈c,fr<=e∧e < t)->c∈OE t c.length fr
 |[],_,_,_=>AT.2 rfl
 |i::c,fr,hp,h=>by
  obtain⟨h1,h2⟩:=Ic.1 hp
  have hr:=a4 hp λe he=>(h e he).2
  have hi:=h i BO
  rw[Ax,OE,Co]
  refine⟨i,GW.2 ⟨hi.1,by omega⟩,Bh.2 ⟨c,dY h2 λe he=>⟨h1 e he,(h e (AX _ he)).2⟩,rfl⟩⟩
theorem YS{α:Type}(f:α->Bool):∀l:List α,(l.filter f).length+(l.filter λx=> !f x).length=l.length
 |[]=>rfl
 |x::l=>by
  have:=YS f l
  cases hf:f x<;>simp[hf]<;>omega
theorem iy(b:Bool):HK (bt b)=true∧0<=(bt b).1:=by cases b<;>decide
section
variable {q:Hc}
def bits(q:Hc)(v:Nat):List Bool:=q.2.1.map λa=>a.2.contains (v:Int)
theorem md(v:Nat):LB q (v:Int)=(bits q v).map bt:=by
 unfold LB bits bt
 rw[EI];rfl
theorem iq(v:Nat):(bits q v).length=q.2.1.length:=by unfold bits;rw[As]
theorem j7:HK ((1:Int),(1:Int))=true:=by decide
theorem pB{v i:Nat}(h:i < q.2.1.length):gB (bits q v) i=(q.2.1[i]).2.contains (v:Int):=by
 unfold gB bits
 rw[Au,BE,Af h];rfl
theorem aN{n:Nat}(h1:1<=n)(h2:n<=4):gP n=true∧tryD n=true:=by
 have:n=1∨n=2∨n=3∨n=4:=by omega
 rcases this with rfl|rfl|rfl|rfl
 ·exact⟨yG,xA⟩
 ·exact⟨yH,xB⟩
 ·exact⟨yI,xC⟩
 ·exact⟨yJ,xD⟩
end
def RH(q:Hc)(B:List Nat):LP:=(B.map (λ(v:Nat)=>LB q (v:Int)),B.map (λ_=>(1,1)),q.2.1.map λ_=>(1,1))
def SmG(q:Hc)(B:List Nat):Prop:=1<=B.length∧B.length<=5∧∀v∈B,v < q.1.toNat
theorem lE{p:LP}{sg:Int}{out:Mx}{c:List Nat}{x:List Rt}(h:x∈out):x∈visit p sg out c:=by
 unfold visit
 cases(Rh (c.map (rowAt p)) (c.map (FN p))).2 with
 |false=>exact h
 |true=>
  cases PY p (Rh (c.map (rowAt p)) (c.map (FN p))).1 sg with
  |false=>exact h
  |true=>
   cases out.any (· ==(Rh (c.map (rowAt p)) (c.map (FN p))).1)with
   |true=>exact h
   |false=>exact AF _ h
theorem bq{p:LP}{sg:Int}{x:List Rt}:∀(l:List (List Nat)) (out:Mx),x∈out->x∈l.foldl (visit p sg) out
 |[],_,h=>h
 |c::l,out,h=>bq l _ (lE h)
theorem YK{p:LP}{sg:Int}{c:List Nat}(h1:(Rh (c.map (rowAt p)) (c.map (FN p))).2=true)(h2:PY p (Rh (c.map (rowAt p)) (c.map (FN p))).1 sg=true):∀(l:List (List Nat)) (out:Mx),c∈l->(Rh (c.map (rowAt p)) (c.map (FN p))).1∈l.foldl (visit p sg) out
 |d::l,out,h=>by
  rw[Dc]
  rcases AV.1 h with rfl|h
  ·refine bq l _ ?_
   unfold visit
   rw[h1,h2,Ac,Ac]
   cases ha:out.any (· ==(Rh (c.map (rowAt p)) (c.map (FN p))).1)with
   |true=>
    obtain⟨y,hy,e⟩:=Cg.1 ha
    rw[Bi]at e
    rw[<-e];exact hy
   |false=>exact Az _ (AT.2 rfl)
  ·exact YK h1 h2 l _ h
section
variable {q:Hc}{B:List Nat}
def QX(q:Hc)(B:List Nat)(k:Nat):List Bool:=bits q (B.getD k 0)
theorem Xi(v:Nat):(QX q B v).length=q.2.1.length:=iq _
theorem pA{v i:Nat}(h:i < q.2.1.length):gB (QX q B v) i=(q.2.1[i]).2.contains ((B.getD v 0:Nat):Int):=pB h
theorem LN:(RH q B).2.1.length=B.length∧(RH q B).2.2.length=q.2.1.length∧(RH q B).1.length=B.length:=by unfold RH;simp
theorem cJ{v:Nat}(h:v < B.length):EO (RH q B).1 v=(QX q B v).map bt:=by
 rw[<-Jv (by rw[LN.2.2];exact h)]
 unfold QX
 rw[<-md,Au,Af h]
 unfold RH
 simp only[BQ,BB]
theorem oe(hv:De q=true)(hs:SmG q B):O6 (RH q B)=true:=by
 obtain⟨h1,h2,h3,h4⟩:=FF hv
 have hs1:=hs.1
 have hs2:=hs.2.1
 unfold O6
 rw[LN.1,LN.2.1,LN.2.2]
 simp only[Ab,NZ,Bi]
 refine⟨by omega,by omega,trivial,?_,?_,?_⟩
 ·rw[Ae]
  intro r hr
  obtain⟨i,hi,rfl⟩:=En hr
  have hi':i < B.length:=by rw[LN.2.2]at hi;exact hi
  rw[Jv hi,cJ hi']
  unfold rowOk
  rw[As,Xi,BY,Aw,Hv,Ae]
  exactλb _=>(iy b).1
 ·rw[Ae]
  intro r hr
  unfold RH at hr
  obtain⟨_,_,rfl⟩:=Bh.1 hr
  exact j7
 ·rw[Ae]
  intro r hr
  unfold RH at hr
  obtain⟨_,_,rfl⟩:=Bh.1 hr
  exact j7
def pi(q:Hc)(B:List Nat)(S:List Bool):Prop:=∀v,v < B.length->∃i,gB (QX q B v) i=true∧gB S i=true
theorem iY(hv:De q=true)(hs:SmG q B):pi q B (List.replicate q.2.1.length true):=λv hvn=>by
 have hu:=hv
 unfold De at hu
 simp only[Ab,AC]at hu
 have hvm:B.getD v 0 < q.1.toNat:=by
  rw[Au,Af hvn];exact hs.2.2 _ (Ak hvn)
 have hu:=Cm.1 hu.2.2.2.2 (B.getD v 0) (An.2 hvm)
 have hu:IF q.2.1 ((B.getD v 0:Nat):Int)=true:=by simpa using hu
 unfold IF at hu
 obtain⟨a,ha,hc⟩:=Cg.1 hu
 obtain⟨i,hi,rfl⟩:=En ha
 refine⟨i,by rw[pA hi];exact hc,?_⟩
 unfold gB
 rw[Au,List.getElem?_replicate,AI hi];rfl
theorem le(hv:De q=true)(hs:SmG q B){S:List Bool}(hl:S.length=q.2.1.length)(hc:pi q B S):PY (RH q B) (S.map bt) 1=true:=by
 obtain⟨h1,h2,h3,h4⟩:=FF hv
 have hD:=(aN h3 h4).2
 have hdot:∀v,v < B.length->d9 (QX q B v) S=true:=λv _=>by
  unfold tryD at hD
  have ha:=Ae.1 hD (QX q B v) (by have:=Ps (QX q B v);rwa [Xi]at this)
  exact Ae.1 ha S (by have:=Ps S;rwa [hl]at this)
 have hdo:∀v,v < B.length->(J8 (EO (RH q B).1 v) (S.map bt)).2=true∧decide (IntKind.i64.wrap (JS (J8 (EO (RH q B).1 v) (S.map bt)).1 (1,1) * 1) < 0)=false:=λv hvn=>by
  have hd:=hdot v hvn
  unfold d9 at hd
  rw[Ab,Cq,AC,AC]at hd
  rw[cJ hvn]
  refine⟨hd.1,hd.2.resolve_left λhm=>?_⟩
  obtain⟨i,g1,g2⟩:=hc v hvn
  unfold oN at hm
  have:=Cm.1 hm i (An.2 (XA g2))
  rw[g1,g2]at this;exact this rfl
 have hmv:U5 (RH q B).1 (S.map bt)=((List.range' 0 B.length).map (λv=>(J8 (EO (RH q B).1 v) (S.map bt)).1),true):=by
  unfold U5
  rw[LN.2.2,XL (h:=λv=>(J8 (EO (RH q B).1 v) (S.map bt)).1) B.length 0 (λi _ hi=>by
   unfold mvG
   rw[(hdo i (by omega)).1];rfl)]
 unfold PY
 rw[oe hv hs,Aw,As,hl,LN.2.1,BY,Aw,hmv,Aw,Hv]
 rw[Ab,AC]
 refine⟨Ae.2 λb _=>?_,Cm.2 λv hvn=>?_⟩
 ·show(HK (bt b)&&decide (0<=(bt b).1))=true
  rw[(iy b).1,Ag (iy b).2];rfl
 ·simp only[As,Ib,An]at hvn
  unfold Zf
  rw[hmv]
  have e1:atR ((List.range' 0 B.length).map λv=>(J8 (EO (RH q B).1 v) (S.map bt)).1) v=(J8 (EO (RH q B).1 v) (S.map bt)).1:=by
   rw[<-J7 (by rw[As,Ib];exact hvn),BQ,Ga];simp
  have e2:atR (RH q B).2.1 v=(1,1):=by
   rw[<-J7 (by rw[LN.1];exact hvn)]
   unfold RH
   simp
  simp only
  rw[e1,e2,(hdo v hvn).2];simp
theorem pw(hv:De q=true)(hs:SmG q B):∃S:List Bool,S.length=q.2.1.length∧S.map bt∈O8 (RH q B) 1:=by
 obtain⟨h1,h2,h3,h4⟩:=FF hv
 unfold O8
 rw[LN.1,LN.2.1]
 obtain⟨S,hl,hc,hmin⟩:=Ws (P:=pi q B) (n:=q.2.1.length) _ (List.replicate q.2.1.length true) (Bl _) (by simp) (iY hv hs)
 have hex:∀i,gB S i=true->∃v,v < B.length∧gB (QX q B v) i=true∧∀j,gB S j=true->gB (QX q B v) j=true->j=i:=λi hi=>by
  have hn:=hmin i hi
  refine Bn λhcon=>hn λv hvn=>?_
  obtain⟨j,g1,g2⟩:=hc v hvn
  by_cases hji:j=i
  ·subst hji
   refine Bn λhno=>hcon ⟨v,hvn,g1,λk k1 k2=>Bn λhki=>hno ⟨k,k2,?_⟩⟩
   rw[iZ (XA hi),AJ (λh=>hki h.symm)];exact k1
  ·exact⟨j,g1,by rw[iZ (XA hi),AJ (λh=>hji h.symm)];exact g2⟩
 obtain⟨f,hf⟩:∃f:Nat->Nat,∀i,gB S i=true->f i < B.length∧gB (QX q B (f i)) i=true∧∀j,gB S j=true->gB (QX q B (f i)) j=true->j=i:=
  ⟨λi=>if h:gB S i=true then Classical.choose (hex i h)else 0,λi hi=>by
   simp only[dif_pos hi];exact Classical.choose_spec (hex i hi)⟩
 have hinj:∀i j,gB S i=true->gB S j=true->f i=f j->i=j:=λi j hi hj e=>(hf j hj).2.2 i hi (by rw[<-e];exact(hf i hi).2.1)
 have htk:∀i,i∈aK S↔gB S i=true:=λi=>by
  unfold aK
  rw[Bf,An]
  exact⟨λh=>h.2,λh=>⟨XA h,h⟩⟩
 have hVn:((aK S).map f).Nodup:=by
  unfold List.Nodup
  rw[E8]
  have:(aK S).Pairwise (· ≠ ·):=D6 _ EJ
  exact List.Pairwise.imp_of_mem (λ{a b} ha hb hne e=>hne (hinj a b ((htk a).1 ha) ((htk b).1 hb) e)) this
 let vs:=(List.range B.length).filter λv=>((aK S).map f).contains v
 have hvs:∀v,v∈vs↔∃i,gB S i=true∧f i=v:=λv=>by
  show v∈(List.range B.length).filter _↔_
  rw[Bf,An,Av,Bh]
  constructor
  ·rintro⟨_,i,hi,e⟩;exact⟨i,(htk i).1 hi,e⟩
  ·rintro⟨i,hi,e⟩;exact⟨by rw[<-e];exact(hf i hi).1,i,(htk i).2 hi,e⟩
 have hvl:vs.length=(aK S).length:=by
  have hp:vs.Perm ((aK S).map f):=(List.perm_ext_iff_of_nodup (D6 _ EJ) hVn).2 λv=>by
   rw[hvs,Bh]
   exact⟨λ⟨i,hi,e⟩=>⟨i,(htk i).2 hi,e⟩,λ⟨i,hi,e⟩=>⟨i,(htk i).1 hi,e⟩⟩
  rw[hp.length_eq,As]
 have hvlt:∀v∈vs,v < B.length:=λv hvm=>by
  obtain⟨i,hi,e⟩:=(hvs v).1 hvm
  rw[<-e];exact(hf i hi).1
 have hvasc:vs.Pairwise (· < ·):=D6 _ Iy
 have hfasc:(Pz S).Pairwise (· < ·):=D6 _ Iy
 have hflt:∀j∈Pz S,j < q.2.1.length:=λj hj=>by
  unfold Pz at hj
  rw[Bf,An]at hj
  rw[<-hl];exact hj.1
 have hlen:(vs++(Pz S).map (B.length+ ·)).length=q.2.1.length:=by
  rw[Ar,As,hvl]
  have:=YS (λj=>gB S j) (List.range S.length)
  rw[BZ]at this
  unfold aK Pz
  omega
 have hasc:(vs++(Pz S).map (B.length+ ·)).Pairwise (· < ·):=by
  rw[List.pairwise_append]
  refine⟨hvasc,?_,λv hvm e he=>?_⟩
  ·rw[E8]
   exact GU (λh=>by omega) hfasc
  ·obtain⟨j,_,rfl⟩:=Bh.1 he
   have:=hvlt v hvm;omega
 have hmem:=dY (t:=B.length+q.2.1.length) (fr:=0) hasc (λe he=>by
  rcases Aq.1 he with he|he
  ·have:=hvlt e he;omega
  ·obtain⟨j,hj,rfl⟩:=Bh.1 he
   have:=hflt j hj;omega)
 rw[hlen]at hmem
 have hrow:(vs++(Pz S).map (B.length+ ·)).map (rowAt (RH q B))=(vs.map (QX q B)).map (λr=>r.map bt)++(Pz S).map (TQ S.length):=by
  rw[BU,EI,EI]
  congr 1
  ·refine BI λv hvm=>?_
   unfold rowAt
   rw[LN.1,AI (hvlt v hvm),cJ (hvlt v hvm)];rfl
  ·refine BI λj _=>?_
   simp only[Function.comp]
   unfold rowAt
   rw[LN.1,LN.2.1,AJ (by omega),CY,hl]
 have hrgt:(vs++(Pz S).map (B.length+ ·)).map (FN (RH q B))=(vs.map (QX q B)).map (λ_=>((1:Int),(1:Int)))++(Pz S).map (λ_=>((0:Int),(1:Int))):=by
  rw[BU,EI,EI]
  congr 1
  ·refine BI λv hvm=>?_
   unfold FN
   rw[LN.1,AI (hvlt v hvm),<-J7 (by rw[LN.1];exact hvlt v hvm)]
   unfold RH
   simp
  ·refine BI λj _=>?_
   simp only[Function.comp]
   unfold FN
   rw[LN.1,AJ (by omega)]
 have hcand:∀r∈vs.map (QX q B),r∈dV S:=λr hr=>by
  obtain⟨v,hvm,rfl⟩:=Bh.1 hr
  obtain⟨i,hi,e⟩:=(hvs v).1 hvm
  subst e
  unfold dV
  rw[Bf]
  refine⟨by have:=Ps (QX q B (f i));rwa [Xi,<-hl]at this,?_⟩
  unfold oR
  refine Cg.2 ⟨i,An.2 (XA hi),?_⟩
  rw[hi,(hf i hi).2.1,HV,Aw,Ae]
  intro j _
  rw[Cq,Bi,AC]
  by_cases hj:j=i
  ·exact .inl hj
  ·refine .inr ?_
   cases ha:gB S j with
   |false=>rfl
   |true=>
    cases hb:gB (QX q B (f i)) j with
    |false=>rfl
    |true=>exact absurd ((hf i hi).2.2 j ha hb) hj
 have hpair:(vs.map (QX q B)).Pairwise (λa b=>apart S a b=true):=by
  rw[E8]
  refine List.Pairwise.imp_of_mem (λ{a b} ha hb hlt=>?_) hvasc
  obtain⟨i,hi,ei⟩:=(hvs a).1 ha
  obtain⟨j,hj,ej⟩:=(hvs b).1 hb
  unfold apart
  rw[Ae]
  intro k _
  rw[AC]
  cases hk:gB S k with
  |false=>rfl
  |true=>
   cases hka:gB (QX q B a) k with
   |false=>rfl
   |true=>
    cases hkb:gB (QX q B b) k with
    |false=>rfl
    |true=>
     exfalso
     subst ei ej
     have e1:=(hf i hi).2.2 k hk hka
     have e2:=(hf j hj).2.2 k hk hkb
     subst e1
     subst e2
     omega
 have hgen:=bz hcand hpair
 rw[As,hvl]at hgen
 have hS:=(aN h3 h4).1
 unfold gP at hS
 have hS2:=Ae.1 (Ae.1 hS S (by have:=Ps S;rwa [hl]at this)) _ hgen
 unfold pd at hS2
 rw[Ab,Bi]at hS2
 refine⟨S,hl,?_⟩
 have hfin:=YK (p:=RH q B) (sg:=1) (c:=vs++(Pz S).map (B.length+ ·)) (by rw[hrow,hrgt];exact hS2.1) (by rw[hrow,hrgt,hS2.2];exact le hv hs hl hc) _ [] hmem
 rw[hrow,hrgt,hS2.2]at hfin
 exact hfin
end
end Go.Proofs.YtplejokflpkcbaaGreatDoor
