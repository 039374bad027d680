/-
 Products, valid programs, points on a side, equal points: what both give. No conditions.
-/
import Derived.Test.YtaagdgjndpgdgaaGreatDoorSxMC1
import Derived.Test.YtaagdgjndpgdgaaGreatDoorRtMC1
open Go.RowKit
set_option linter.unusedVariables false
set_option linter.unusedSimpArgs false
namespace Go.Proofs.YtaagdgjndpgdgaaGreatDoor
abbrev LP:=Mx×List Rt×List Rt
def oR:Rt×Bool:=((0,0),false)
def ju(a b:List Rt)(k:Nat)(x:Rt):Sum Rt (Rt×Bool):=cond (KQ (atR a k) (atR b k)).2 (cond (ce x (KQ (atR a k) (atR b k)).1).2 (.inl (ce x (KQ (atR a k) (atR b k)).1).1) (.inr oR)) (.inr oR)
def SP(a b:List Rt):Rt×Bool:=cond ((a.length:Int)!=(b.length:Int)) oR (match P4 (ju a b) a.length 0 (0,1)with
 |.inl x=>(x,true)
 |.inr o=>o)
theorem AdA{a b:List Rt}(h:a.length<=lim):Nb a b=some (SP a b):=by
 unfold Nb SP
 cases hc:(a.length:Int)!=(b.length:Int)with
 |true=>rfl
 |false=>
  have hb:a.length=b.length:=by have:=D1.1 hc;omega
  rw[Aa,Aa]
  have hr:=Ez (B:=Rf a b) (n:=a.length) (λ(s:Rt) k=>(s.1,s.2,(k:Int))) (λ_ _=>True) (ju a b) (λo=>match o with|.inl x=>.inl (x.1,x.2)|.inr o=>.inr o) h (λrec k s hk _=>by
   show cond (decide ((k:Int) < (a.length:Int))) _ _=_
   rw[Bl hk,Ab,EP hk,EP (by rw[<-hb];exact hk)]
   simp only[G]
   rw[ru]
   simp only[G]
   unfold ju
   cases(KQ (atR a k) (atR b k)).2 with
   |false=>rfl
   |true=>
    rw[Ai,Aa,rq]
    simp only[G]
    rw[Bn hk (Bd h)]
    cases hq:(ce s (KQ (atR a k) (atR b k)).1).2 with
    |false=>simp only[hq,Ab,Aa,C7];rfl
    |true=>simp only[hq,Ab,Aa,Ai]) (λrec s _=>by
   show cond (decide ((a.length:Int) < (a.length:Int))) _ _=_
   rw[Bh];rfl) (λ_ _ _ _ _ _=>trivial) (0,1) trivial
  rw[show((0:Int),(1:Int),(0:Int))=(((0,1):Rt).1,((0,1):Rt).2,((0:Nat):Int))from rfl,hr]
  simp only[G]
  cases P4 (ju a b) a.length 0 (0,1)<;>rfl
theorem Acg{a b:List Rt}(h:a.length<=lim):MZ a b=some (SP a b):=by
 unfold MZ SP
 cases hc:(a.length:Int)!=(b.length:Int)with
 |true=>rfl
 |false=>
  have hb:a.length=b.length:=by have:=D1.1 hc;omega
  rw[Aa,Aa]
  have hr:=Ez (B:=QP a b) (n:=a.length) (λ(s:Rt) k=>(s.1,s.2,(k:Int))) (λ_ _=>True) (ju a b) (λo=>match o with|.inl x=>.inl (x.1,x.2)|.inr o=>.inr o) h (λrec k s hk _=>by
   show cond (decide ((k:Int) < (a.length:Int))) _ _=_
   rw[Bl hk,Ab,EP hk,EP (by rw[<-hb];exact hk)]
   simp only[G]
   rw[pk]
   simp only[G]
   rw[jJ]
   simp only[G]
   unfold ju
   rw[Bn hk (Bd h)]
   cases(KQ (atR a k) (atR b k)).2 with
   |false=>rfl
   |true=>
    cases hq:(ce s (KQ (atR a k) (atR b k)).1).2 with
    |false=>simp only[hq,Ab,Aa,C7,Ai];rfl
    |true=>simp only[hq,Ab,Aa,Ai]) (λrec s _=>by
   show cond (decide ((a.length:Int) < (a.length:Int))) _ _=_
   rw[Bh];rfl) (λ_ _ _ _ _ _=>trivial) (0,1) trivial
  rw[show((0:Int),(1:Int),(0:Int))=(((0,1):Rt).1,((0,1):Rt).2,((0:Nat):Int))from rfl,hr]
  simp only[G]
  cases P4 (ju a b) a.length 0 (0,1)<;>rfl
def mvG(a:Mx)(x:List Rt)(k:Nat):Sum Rt (List Rt×Bool):=cond (SP (Eo a k) x).2 (.inl (SP (Eo a k) x).1) (.inr ([],false))
def WN(a:Mx)(x:List Rt):List Rt×Bool:=match Od (mvG a x) a.length 0 with
 |.inl l=>(l,true)
 |.inr o=>o
theorem Aak(a:Mx)(x:List Rt){k:Nat}{o:List Rt×Bool}(h:mvG a x k=.inr o):o=([],false):=by
 unfold mvG at h
 cases hc:(SP (Eo a k) x).2 with
 |true=>rw[hc]at h;cases h
 |false=>rw[hc]at h;cases h;rfl
theorem lP(a:Mx)(x:List Rt):(WN a x).1.length<=a.length∧((WN a x).2=true->(WN a x).1.length=a.length)∧((WN a x).2=false->(WN a x).1=[]):=by
 unfold WN
 cases h:Od (mvG a x) a.length 0 with
 |inl l=>exact⟨Nat.le_of_eq (WK h),λ_=>WK h,λh=>by cases h⟩
 |inr o=>
  have:=WJ (P:=λo=>o=([],false)) (λk o ho=>Aak a x ho) h
  subst this
  exact⟨CI _,(λh=>by cases h),λ_=>rfl⟩
theorem AeR{a:Mx}{x:List Rt}(h:a.length<=lim)(hr:∀k,k < a.length->(Eo a k).length<=lim):GB a x=some (WN a x):=by
 unfold GB WN
 have hl:=Ez (B:=LA a x) (n:=a.length) (O:=List Rt×Bool) (λ(s:List Rt) k=>(s,(k:Int))) (λk s=>s.length=k) (λk s=>fL s (mvG a x k)) id h (λrec k s hk hi=>by
  show cond (decide ((k:Int) < (a.length:Int))) _ _=_
  rw[Bl hk,Ab,H7 hk]
  simp only[G]
  rw[AdA (hr k hk)]
  simp only[G]
  unfold mvG
  cases(SP (Eo a k) x).2 with
  |false=>rfl
  |true=>
   rw[Ai,Aa,AN (by rw[hi,Ao];unfold lim at h⊢;omega),Bn hk (Bd h)]
   rfl) (λrec s hi=>by
  show cond (decide ((a.length:Int) < (a.length:Int))) _ _=_
  rw[Bh];rfl) (λk s s' hk hi hs=>by
  unfold mvG at hs
  cases hc:(SP (Eo a k) x).2 with
  |false=>rw[hc]at hs;cases hs
  |true=>rw[hc]at hs;cases hs;rw[Aq,hi];rfl) [] rfl
 rw[show((0:Nat):Int)=0 from rfl]at hl
 rw[hl,Ra]
 cases Od (mvG a x) a.length 0<;>rfl
theorem Aer{a:Mx}{x:List Rt}(h:a.length<=lim)(hr:∀k,k < a.length->(Eo a k).length<=lim):Gw a x=some (WN a x):=by
 unfold Gw WN
 have hl:=Ez (B:=Lm a x) (n:=a.length) (O:=List Rt×Bool) (λ(s:List Rt) k=>(s,(k:Int))) (λk s=>s.length=k) (λk s=>fL s (mvG a x k)) id h (λrec k s hk hi=>by
  show cond (decide ((k:Int) < (a.length:Int))) _ _=_
  rw[Bl hk,Ab,H7 hk]
  simp only[G]
  rw[Acg (hr k hk)]
  simp only[G]
  unfold mvG
  cases(SP (Eo a k) x).2 with
  |false=>rfl
  |true=>
   rw[Ai,Aa,AN (by rw[hi,Ao];unfold lim at h⊢;omega),Bn hk (Bd h)]
   rfl) (λrec s hi=>by
  show cond (decide ((a.length:Int) < (a.length:Int))) _ _=_
  rw[Bh];rfl) (λk s s' hk hi hs=>by
  unfold mvG at hs
  cases hc:(SP (Eo a k) x).2 with
  |false=>rw[hc]at hs;cases hs
  |true=>rw[hc]at hs;cases hs;rw[Aq,hi];rfl) [] rfl
 rw[show((0:Nat):Int)=0 from rfl]at hl
 rw[hl,Ra]
 cases Od (mvG a x) a.length 0<;>rfl
def R1(p:LP):Bool:=G9 (p.2.2.length:Int) 1 5&&(G9 (p.2.1.length:Int) 1 5&&((p.1.length==p.2.1.length)&&(p.1.all (rowOk p.2.2.length)&&(p.2.1.all IE&&p.2.2.all IE))))
def cf(p:LP):Prop:=p.1.length<=lim∧p.2.1.length<=lim∧p.2.2.length<=lim
theorem one_row(n:Nat)(r:List Rt):[r].all (rowOk n)=rowOk n r:=by simp
theorem AdD{p:LP}(h:cf p):E3 p=some (R1 p):=by
 unfold E3 R1
 rw[Lc]
 simp only[G]
 cases G9 (p.2.2.length:Int) 1 5 with
 |false=>rfl
 |true=>
  rw[Ab,Lc,AJ]
  simp only[G]
  cases G9 (p.2.1.length:Int) 1 5 with
  |false=>rfl
  |true=>
   rw[Ab,uU h.1 h.2.2,AJ]
   simp only[G]
   rw[show(((p.1.length:Int))==(p.2.1.length:Int))=(p.1.length==p.2.1.length)from by rw[Cn,BU,BU];omega]
   cases p.1.length==p.2.1.length with
   |false=>rw[H1];rfl
   |true=>
    rw[CL,AJ]
    cases p.1.all (rowOk p.2.2.length)with
    |false=>rfl
    |true=>
     rw[Ab,uU (by simp[lim]) h.2.2,one_row,AJ]
     simp only[G]
     unfold rowOk
     rw[Ci,AJ,show((([p.2.2].length:Nat):Int)==1)=true from rfl,CL]
     cases p.2.2.all IE with
     |false=>rw[H1];rfl
     |true=>
      rw[Ab,uU (by simp[lim]) h.2.1,one_row,CL]
      simp only[G]
      unfold rowOk Dm
      rw[Ci,AJ,show((([p.2.1].length:Nat):Int)==1)=true from rfl,CL]
theorem Acj{p:LP}(h:cf p):EW p=some (R1 p):=by
 unfold EW R1
 rw[Hx]
 simp only[G]
 cases G9 (p.2.2.length:Int) 1 5 with
 |false=>rfl
 |true=>
  rw[Ai,Aa,Hx,AJ]
  simp only[G]
  cases G9 (p.2.1.length:Int) 1 5 with
  |false=>rfl
  |true=>
   rw[Ai,Aa,AJ]
   by_cases he:p.1.length=p.2.1.length
   ·rw[he,CR,Aa,Ci,AJ,XK h.2.1]
    simp only[G]
    cases p.2.1.all IE with
    |false=>simp
    |true=>
     rw[Ai,Aa,XK h.2.2,AJ]
     simp only[G]
     cases p.2.2.all IE with
     |false=>rw[H1];rfl
     |true=>
      rw[Ai,Aa,CL,Ha (n:=p.1.length) (λk=>Jz p.1 k λr=> !rowOk p.2.2.length r) false h.1 (λk hk rec=>by
       show cond (decide ((k:Int) < (p.1.length:Int))) _ _=_
       rw[Bl hk,Ab,H7 hk,CD hk,HJ hk]
       simp only[G]
       unfold rowOk
       by_cases hl:(Eo p.1 k).length=p.2.2.length
       ·rw[hl,CR,Aa,Ci,AJ,XK (by rw[hl];exact h.2.2),Bn hk (Bd h.1)]
       ·rw[show(((Eo p.1 k).length:Int)!=(p.2.2.length:Int))=true from by rw[C4];omega,Ab,show((Eo p.1 k).length==p.2.2.length)=false from by simpa using hl]
        rfl) (λrec=>by
       show cond (decide ((p.1.length:Int) < (p.1.length:Int))) _ _=_
       rw[Bh];rfl)]
      rw[TT,not_any]
      cases p.1.all (rowOk p.2.2.length)<;>rfl
   ·rw[show((p.1.length:Int)!=(p.2.1.length:Int))=true from by rw[C4];omega,show(p.1.length==p.2.1.length)=false from by simpa using he]
    rfl
def dk(p:LP)(x:List Rt)(sg:Int)(k:Nat):Bool:=decide (IntKind.i64.wrap (kc (atR (WN p.1 x).1 k) (atR p.2.1 k) * sg) < 0)
def RI(p:LP)(x:List Rt)(sg:Int):Bool:=R1 p&&((x.length==p.2.2.length)&&((x.all λr=>IE r&&decide (0<=r.1))&&((WN p.1 x).2&& !((List.range (WN p.1 x).1.length).any (dk p x sg)))))
theorem Oc{p:LP}(h:R1 p=true):1<=p.2.2.length∧p.2.2.length<=5∧1<=p.2.1.length∧p.2.1.length<=5∧p.1.length=p.2.1.length∧(∀k,k < p.1.length->(Eo p.1 k).length=p.2.2.length):=by
 unfold R1 at h
 simp only[Ac,JE,BU]at h
 refine⟨by omega,by omega,by omega,by omega,h.2.2.1,λk hk=>?_⟩
 have:=Al.1 h.2.2.2.1 _ (Ag hk)
 unfold rowOk at this
 rw[Ac,BU,HJ hk]at this
 exact this.1
theorem pP{p:LP}(h:R1 p=true):p.1.length<=lim∧∀k,k < p.1.length->(Eo p.1 k).length<=lim:=by
 obtain⟨h1,h2,h3,h4,h5,h6⟩:=Oc h
 refine⟨by rw[h5];unfold lim;omega,λk hk=>by rw[h6 k hk];unfold lim;omega⟩
theorem AaO{p:LP}{x:List Rt}{sg:Int}(h:cf p)(hx:x.length<=lim):Qx p x sg=some (RI p x sg):=by
 unfold Qx RI
 rw[AdD h]
 simp only[G]
 cases hv:R1 p with
 |false=>rfl
 |true=>
  obtain⟨h1,h2,h3,h4,h5,h6⟩:=Oc hv
  obtain⟨h7,h8⟩:=pP hv
  rw[Ai,Aa,AJ]
  by_cases he:x.length=p.2.2.length
  ·rw[he,CR,Aa,Ci,AJ,Ha (n:=x.length) (λk=>Jz x k λr=> !(IE r&&decide (0<=r.1))) false hx (λk hk rec=>by
    show cond (decide ((k:Int) < (x.length:Int))) _ _=_
    rw[Bl hk,Ab,EP hk,CD hk,MD hk]
    simp only[G]
    rw[RH]
    simp only[G]
    cases IE (atR x k)with
    |false=>rfl
    |true=>
     rw[Ai,Aa,AJ,Bn hk (Bd hx)]
     by_cases hn:(atR x k).1 < 0
     ·rw[Ah hn,Af (by omega)];rfl
     ·rw[Af hn,Ah (by omega)];rfl) (λrec=>by
    show cond (decide ((x.length:Int) < (x.length:Int))) _ _=_
    rw[Bh];rfl)]
   rw[TT,not_any]
   cases x.all (λr=>IE r&&decide (0<=r.1))with
   |false=>rfl
   |true=>
    rw[Ai,Aa,AJ]
    simp only[G]
    rw[AeR h7 h8]
    simp only[G]
    have hm:=lP p.1 x
    have hml:(WN p.1 x).1.length<=lim:=BC hm.1 h7
    rw[Ha (n:=(WN p.1 x).1.length) (dk p x sg) false hml (λk hk rec=>by
     show cond (decide ((k:Int) < ((WN p.1 x).1.length:Int))) _ _=_
     rw[Bl hk,Ab,EP hk,EP (by rw[<-h5];omega)]
     simp only[G]
     rw[AaL]
     simp only[G]
     rw[Bn hk (Bd hml)];rfl) (λrec=>by
     show cond (decide (((WN p.1 x).1.length:Int) < ((WN p.1 x).1.length:Int))) _ _=_
     rw[Bh];rfl)]
    cases hq:(WN p.1 x).2 with
    |true=>
     cases(List.range (WN p.1 x).1.length).any (dk p x sg)<;>simp[G,hq]
    |false=>
     rw[hm.2.2 hq];simp[G,hq]
  ·rw[show((x.length:Int)!=(p.2.2.length:Int))=true from by rw[C4];omega,show(x.length==p.2.2.length)=false from by simpa using he]
   rfl
theorem xw{p:LP}{x:List Rt}{sg:Int}(h:cf p)(hx:x.length<=lim):Ph p x sg=some (RI p x sg):=by
 unfold Ph RI
 rw[Acj h]
 simp only[G]
 cases hv:R1 p with
 |false=>rfl
 |true=>
  obtain⟨h1,h2,h3,h4,h5,h6⟩:=Oc hv
  obtain⟨h7,h8⟩:=pP hv
  rw[Ai,Aa,AJ]
  by_cases he:x.length=p.2.2.length
  ·rw[he,CR,Aa,Ci,AJ,XK hx]
   simp only[G]
   have hs:(x.all λr=>IE r&&decide (0<=r.1))=(x.all IE&&x.all λr=>decide (0<=r.1)):=by
    rw[Cn]
    simp only[Al,Ac]
    exact⟨λh=>⟨λr hr=>(h r hr).1,λr hr=>(h r hr).2⟩,λh r hr=>⟨h.1 r hr,h.2 r hr⟩⟩
   rw[hs]
   cases x.all IE with
   |false=>rfl
   |true=>
    rw[Ai,Aa,AJ,Ha (n:=x.length) (λk=>Jz x k λr=> !decide (0<=r.1)) false hx (λk hk rec=>by
     show cond (decide ((k:Int) < (x.length:Int))) _ _=_
     rw[Bl hk,Ab,EP hk,CD hk,MD hk]
     simp only[G]
     rw[Bn hk (Bd hx)]
     by_cases hn:(atR x k).1 < 0
     ·rw[Ah hn,Af (by omega)];rfl
     ·rw[Af hn,Ah (by omega)];rfl) (λrec=>by
     show cond (decide ((x.length:Int) < (x.length:Int))) _ _=_
     rw[Bh];rfl)]
    rw[TT,not_any]
    cases x.all (λr=>decide (0<=r.1))with
    |false=>rfl
    |true=>
     rw[Ai,Aa,AJ]
     simp only[G]
     rw[Aer h7 h8]
     simp only[G]
     have hm:=lP p.1 x
     have hml:(WN p.1 x).1.length<=lim:=BC hm.1 h7
     cases hq:(WN p.1 x).2 with
     |false=>simp
     |true=>
      rw[Ai,Aa,AJ,Ha (n:=(WN p.1 x).1.length) (dk p x sg) false hml (λk hk rec=>by
       show cond (decide ((k:Int) < ((WN p.1 x).1.length:Int))) _ _=_
       rw[Bl hk,Ab,EP hk,EP (by rw[<-h5];omega)]
       simp only[G]
       rw[xt]
       simp only[G]
       rw[Bn hk (Bd hml),Int.mul_comm];rfl) (λrec=>by
       show cond (decide (((WN p.1 x).1.length:Int) < ((WN p.1 x).1.length:Int))) _ _=_
       rw[Bh];rfl)]
      cases(List.range (WN p.1 x).1.length).any (dk p x sg)<;>rfl
  ·rw[show((x.length:Int)!=(p.2.2.length:Int))=true from by rw[C4];omega,show(x.length==p.2.2.length)=false from by simpa using he]
   rfl
theorem kV:∀{a b:List Rt},a.length=b.length->((List.range a.length).any λk=> !((atR a k).1==(atR b k).1&&(atR a k).2==(atR b k).2))= !(a==b)
 |a,b,h=>by
  rw[Cn,Dj,AT]
  constructor
  ·rintro⟨k,hk,hb⟩
   rw[AL]at hk
   rw[Bw]
   rintro rfl
   simp at hb
  ·intro hne
   rw[Bw]at hne
   refine BW λhc=>hne (Ej h λk h1 h2=>?_)
   rw[MD h1,MD h2]
   have:¬(!((atR a k).1==(atR b k).1&&(atR a k).2==(atR b k).2))=true:=λhb=>hc ⟨k,AL.2 h1,hb⟩
   rw[AT,Bool.not_eq_false,Ac,BU,BU]at this
   exact Prod.ext this.1 this.2
theorem pA{a b:List Rt}(h:a.length≠b.length):(a==b)=false:=by
 rw[Bw];rintro rfl;exact h rfl
theorem AdB{a b:List Rt}(h:a.length<=lim):JQ a b=some (a==b):=by
 unfold JQ
 by_cases he:a.length=b.length
 ·rw[he,CR,Aa,Ha (n:=a.length) (λk=> !((atR a k).1==(atR b k).1&&(atR a k).2==(atR b k).2)) false h (λk hk rec=>by
   show cond (decide ((k:Int) < (a.length:Int))) _ _=_
   rw[Bl hk,Ab,EP hk,EP (by rw[<-he];exact hk)]
   simp only[G]
   rw[Bn hk (Bd h)]) (λrec=>by
   show cond (decide ((a.length:Int) < (a.length:Int))) _ _=_
   rw[Bh];rfl)]
  rw[kV he]
  cases a==b<;>rfl
 ·rw[show((a.length:Int)!=(b.length:Int))=true from by rw[C4];omega,pA he];rfl
theorem Ach{a b:List Rt}(h:a.length<=lim):JK a b=some (a==b):=by
 unfold JK
 by_cases he:a.length=b.length
 ·rw[he,CR,Aa,Ha (n:=a.length) (λk=> !((atR a k).1==(atR b k).1&&(atR a k).2==(atR b k).2)) false h (λk hk rec=>by
   show cond (decide ((k:Int) < (a.length:Int))) _ _=_
   rw[Bl hk,Ab,EP hk,EP (by rw[<-he];exact hk)]
   simp only[G]
   rw[Bn hk (Bd h)]) (λrec=>by
   show cond (decide ((a.length:Int) < (a.length:Int))) _ _=_
   rw[Bh];rfl)]
  rw[kV he]
  cases a==b<;>rfl
 ·rw[show((a.length:Int)!=(b.length:Int))=true from by rw[C4];omega,pA he];rfl
theorem iO{α O:Type}(g:Nat->List α):∀(j k:Nat) (s:List α),P4 (O:=O) (λk s=>.inl (s++g k)) j k s=.inl (s++(List.range' k j).flatMap g)
 |0,k,s=>by rw[P4];simp
 |j+1,k,s=>by rw[P4];simp only;rw[iO g j (k+1),C8,Au,A3]
theorem QD{α β O:Type}(g:Nat->α)(h:Nat->β):∀(j k:Nat) (s:List α×List β),P4 (O:=O) (λk s=>.inl (s.1++[g k],s.2++[h k])) j k s=.inl (s.1++(List.range' k j).map g,s.2++(List.range' k j).map h)
 |0,k,s=>by rw[P4];simp
 |j+1,k,s=>by rw[P4];simp only;rw[QD g h j (k+1),C8,AB,AB,A3,A3];rfl
theorem l8{O:Type}(g:Nat->Bool):∀(j k:Nat) (s:Bool),P4 (O:=O) (λk s=>.inl (s || g k)) j k s=.inl (s || (List.range' k j).any g)
 |0,k,s=>by rw[P4];simp
 |j+1,k,s=>by rw[P4];simp only;rw[l8 g j (k+1),C8,Hs,Bool.or_assoc]
theorem Q9{S O:Type}(g:S->Nat->S):∀(j k:Nat) (s:S),P4 (O:=O) (λk s=>.inl (g s k)) j k s=.inl ((List.range' k j).foldl g s)
 |0,k,s=>by rw[P4];simp
 |j+1,k,s=>by rw[P4];simp only;rw[Q9 g j (k+1),C8,Fb]
theorem getD_map{α β:Type}(d:α)(h:α->β)(l:List α):(List.range' 0 l.length).map (λk=>h (l.getD k d))=l.map h:=by
 apply Ej
 ·simp
 ·intro i h1 h2
  simp only[Aj,I3]at h1
  rw[BJ,D0,BJ,AQ]
  simp[Ad h1]
theorem jB{α S:Type}(d:α)(g:S->α->S)(l:List α)(s:S):(List.range' 0 l.length).foldl (λs k=>g s (l.getD k d)) s=l.foldl g s:=by
 have:=getD_map d (λx=>x) l
 rw[List.map_id']at this
 conv=>rhs;rw[<-this]
 rw[List.foldl_map]
theorem XE{α β:Type}{f:List β->α->List β}(h:∀s x,(f s x).length<=s.length+1):∀(l:List α) (s:List β),(l.foldl f s).length<=s.length+l.length
 |[],s=>by simp
 |x::l,s=>by
  rw[Fb,Az]
  have h1:=XE h l (f s x)
  have h2:=h s x
  omega
theorem kZ{α β:Type}{f:α->List β}{M:Nat}:∀{l:List α},(∀x∈l,(f x).length<=M)->(l.flatMap f).length<=l.length * M
 |[],_=>by simp
 |x::l,h=>by
  rw[Au,Aq,Az,Fj]
  have h1:=h x BK
  have h2:=kZ (f:=f) (l:=l) λy hy=>h y (AZ _ hy)
  omega
theorem R9{α β:Type}{l:List α}{B:(List β×Int->Option (List β))->List β×Int->Option (List β)}{s0:List β}{h:α->β}(hl:s0.length+l.length<=lim)
  (h1:∀k (hk:k < l.length) s rec,s.length=s0.length+k->B rec (s,(k:Int))=rec (s++[h l[k]],((k+1:Nat):Int))) (h2:∀rec s,B rec (s,(l.length:Int))=some s):An B fz (s0,0)=some (s0++l.map h):=by
 have key:∀(j k:Nat) (s:List β) (f:Nat),k+j=l.length->j < f->s.length=s0.length+k->An B f (s,(k:Int))=some (s++(l.drop k).map h):=by
  intro j
  induction j with
  |zero=>
   intro k s f hk hf hs
   obtain⟨f,rfl⟩:∃g,f=g+1:=⟨f - 1,by omega⟩
   obtain rfl:k=l.length:=by omega
   rw[Bq,h2,Ei];simp
  |succ j ih=>
   intro k s f hk hf hs
   obtain⟨f,rfl⟩:∃g,f=g+1:=⟨f - 1,by omega⟩
   have hlt:k < l.length:=by omega
   rw[Bq,h1 k hlt s _ hs,ih (k+1) _ f (by omega) (by omega) (by rw[Aq,hs];simp;omega),AO hlt,AB,A3];rfl
 have:=key l.length 0 s0 fz (by omega) (EO (by omega)) (by omega)
 simpa using this
def PN(t:Nat):Nat->Nat->List (List Nat)
 |0,_=>[[]]
 |r+1,fr=>(List.range' fr (t - r - fr)).flatMap λi=>(PN t r (i+1)).map (i:: ·)
def cI(c:List Nat):List Int:=c.map λ(e:Nat)=>(e:Int)
theorem UL{t:Nat}(ht:t<=11):∀(r fr:Nat),(PN t r fr).length<=11 ^ r
 |0,_=>AW 1
 |r+1,fr=>by
  rw[PN]
  have:=kZ (f:=λi=>(PN t r (i+1)).map (i:: ·)) (M:=11 ^ r) (l:=List.range' fr (t - r - fr)) λi _=>by rw[Aj];exact UL ht r (i+1)
  refine BC this ?_
  rw[I3,DJ,Es]
  exact Nat.mul_le_mul_left _ (by omega)
theorem Xr{t:Nat}:∀{r fr:Nat}{c:List Nat},c∈PN t r fr->c.length=r∧∀e∈c,e < t
 |0,_,c,h=>by
  rw[PN,A7]at h
  subst h;exact⟨rfl,by simp⟩
 |r+1,fr,c,h=>by
  rw[PN,Cx]at h
  obtain⟨i,hi,h⟩:=h
  obtain⟨d,hd,rfl⟩:=BF.1 h
  obtain⟨h1,h2⟩:=Xr hd
  rw[MK]at hi
  refine⟨by rw[Az,h1],λe he=>?_⟩
  rcases AC.1 he with rfl|he
  ·omega
  ·exact h2 e he
theorem lZ{r:Nat}(h:r<=5):11 ^ r<=161051:=BC (HT (by omega) h) (by decide)
theorem rm{t:Nat}(ht:t<=10):∀(r fr f:Nat),r<=5->fr<=11->r < f->An G6 f ((fr:Int),(t:Int),(r:Int))=some ((PN t r fr).map cI)
 |0,fr,f,_,_,hf=>by
  obtain⟨f,rfl⟩:∃g,f=g+1:=⟨f - 1,by omega⟩
  rfl
 |r+1,fr,f,hr,hfr,hf=>by
  obtain⟨f,rfl⟩:∃g,f=g+1:=⟨f - 1,by omega⟩
  have hp:=lZ (show r<=5 by omega)
  rw[Bq]
  show cond (((r+1:Nat):Int)==0) (some [[]]) (G (An (P5 (t:Int) ((r+1:Nat):Int) (An G6 f)) fz ([],(fr:Int))) λz4=>some z4)=_
  rw[show(((r+1:Nat):Int)==0)=false from by rw[Bw];omega,Aa]
  have hl:=SB (B:=P5 (t:Int) ((r+1:Nat):Int) (An G6 f)) (n:=fr+(t - r - fr)) (O:=Unit) (λ(s:List (List Int)) k=>(s,(k:Int))) (λk s=>fr<=k∧s.length<=(k - fr) * 11 ^ r) (λk s=>.inl (s++((PN t r (k+1)).map cI).map ([(k:Int)]++ ·))) (λo=>match o with|.inl s=>s|.inr _=>[])
   (λrec k s hk hi=>by
    have hkt:k+r+1<=t:=by omega
    show cond (decide (IntKind.i64.wrap ((k:Int)+((r+1:Nat):Int))<=(t:Int))) _ _=_
    rw[wrap_in (by omega),Ah (by omega),Ab,show IntKind.i64.wrap ((k:Int)+1)=((k+1:Nat):Int)from by rw[wrap_in (by omega)];omega,show IntKind.i64.wrap (((r+1:Nat):Int) - 1)=(r:Int)from by rw[wrap_in (by omega)];omega,rm ht r (k+1) f (by omega) (by omega) (by omega)]
    simp only[G]
    have hc:=UL (t:=t) (by omega) r (k+1)
    have hm:(k - fr) * 11 ^ r<=11 * 161051:=ER (by omega) hp
    rw[R9 (B:=TE (k:Int) ((PN t r (k+1)).map cI)) (l:=(PN t r (k+1)).map cI) (s0:=s) (h:=([(k:Int)]++ ·)) (by rw[Aj];unfold lim;omega) (λq hq s' rec hs=>by
     show cond (decide ((q:Int) < (((PN t r (k+1)).map cI).length:Int))) _ _=_
     rw[Bl hq,Ab,AK hq]
     simp only[G]
     have hql:q < (PN t r (k+1)).length:=by simpa using hq
     have he:(((PN t r (k+1)).map cI)[q]).length=r:=by
      rw[BJ];unfold cI;rw[Aj];exact(Xr (Ag hql)).1
     rw[AN (by rw[he];simp;unfold lim;omega),AN (by rw[hs];simp;unfold lim;omega),Bn hq (by rw[Aj];unfold maxLen;omega)]) (λrec s'=>by
     show cond (decide ((((PN t r (k+1)).map cI).length:Int) < (((PN t r (k+1)).map cI).length:Int))) _ _=_
     rw[Bh];rfl)])
   (λrec s hi=>by
    show cond (decide (IntKind.i64.wrap (((fr+(t - r - fr):Nat):Int)+((r+1:Nat):Int))<=(t:Int))) _ _=_
    rw[wrap_in (by omega),Af (by omega)];rfl)
   (λk s s' hk hi hs=>by
    cases hs
    refine⟨by omega,?_⟩
    rw[Aq,Aj,Aj,show k+1 - fr=(k - fr)+1 from by omega,Fj]
    have hc:=UL (t:=t) (by omega) r (k+1)
    omega) (t - r - fr) fr [] fz rfl (by unfold fz;omega) ⟨AW _,by simp⟩
  rw[hl,iO]
  simp only[G,Bg]
  rw[PN,List.map_flatMap]
  congr 2
  funext k
  rw[EK,EK]
  congr 1
def VC(n i:Nat):List Rt:=(List.replicate n (0,1)).set i (1,1)
def rowAt(p:LP)(j:Nat):List Rt:=if j < p.2.1.length then Eo p.1 j else VC p.2.2.length (j - p.2.1.length)
def FI(p:LP)(j:Nat):Rt:=if j < p.2.1.length then atR p.2.1 j else(0,1)
def visit(p:LP)(sg:Int)(out:Mx)(c:List Nat):Mx:=cond (SH (c.map (rowAt p)) (c.map (FI p))).2 (cond (RI p (SH (c.map (rowAt p)) (c.map (FI p))).1 sg) (cond (out.any (· ==(SH (c.map (rowAt p)) (c.map (FI p))).1)) out (out++[(SH (c.map (rowAt p)) (c.map (FI p))).1])) out) out
theorem Yq(p:LP)(sg:Int)(out:Mx)(c:List Nat):(visit p sg out c).length<=out.length+1:=by
 unfold visit
 cases(SH (c.map (rowAt p)) (c.map (FI p))).2 with
 |false=>simp
 |true=>
  cases RI p (SH (c.map (rowAt p)) (c.map (FI p))).1 sg with
  |false=>simp
  |true=>
   cases out.any (· ==(SH (c.map (rowAt p)) (c.map (FI p))).1)with
   |true=>simp
   |false=>simp
theorem AaU(a:Mx)(b:List Rt):(SH a b).2=false->(SH a b).1=[]:=by
 unfold SH
 cases decide (6 < (b.length:Int))with
 |true=>exactλ_=>rfl
 |false=>
  cases W9 a b with
  |false=>exactλ_=>rfl
  |true=>
   simp only[Aa,Ab]
   cases hg:PT b.length b.length 0 (Wb a b)with
   |none=>exactλ_=>rfl
   |some m=>
    simp only
    cases hm:Od (TL b.length m) b.length 0 with
    |inl x=>exactλh=>by cases h
    |inr o=>
     exactλ_=>WJ (P:=λo=>o.1=[]) (λk o ho=>by
      unfold TL at ho
      cases hc:(Ru (atR (Eo m k) b.length) (atR (Eo m k) k)).2 with
      |false=>rw[hc]at ho;cases ho;rfl
      |true=>rw[hc]at ho;cases ho) hm
theorem fq{a:Mx}{b:List Rt}(h:b.length<=lim):(SH a b).1.length<=lim:=by
 cases hv:(SH a b).2 with
 |true=>rw[mg (a:=a) (b:=b) (x:=(SH a b).1) (by rw[<-hv])];exact h
 |false=>rw[AaU a b hv];simp
theorem kw{p:LP}(h:p.2.2.length<=lim):An (OI p) fz ([],0)=some (List.replicate p.2.2.length (0,1)):=by
 rw[R9 (B:=OI p) (l:=p.2.2) (s0:=[]) (h:=λ_=>((0:Int),(1:Int))) (by simpa using h) (λk hk s rec hs=>by
  show cond (decide ((k:Int) < (p.2.2.length:Int))) _ _=_
  rw[Bl hk,Ab,AN (by rw[hs];simp;unfold lim at h⊢;omega),Bn hk (Bd h)]) (λrec s=>by
  show cond (decide ((p.2.2.length:Int) < (p.2.2.length:Int))) _ _=_
  rw[Bh];rfl),Bg,List.map_const']
theorem AdL{p:LP}(hv:R1 p=true){v1:List (List Int)}{y:Int}{c:List Nat}(hg:AI v1 y=some (cI c))(hc:c.length=p.2.2.length)(hin:∀e∈c,e < p.2.1.length+p.2.2.length):
  An (LD p v1 y) fz ([],[],0)=some (c.map (rowAt p),c.map (FI p)):=by
 obtain⟨h1,h2,h3,h4,h5,h6⟩:=Oc hv
 have hl:p.2.2.length<=lim:=by unfold lim;omega
 have hr:=Ez (B:=LD p v1 y) (n:=p.2.2.length) (O:=Unit) (λ(s:Mx×List Rt) k=>(s.1,s.2,(k:Int))) (λk s=>s.1.length=k∧s.2.length=k) (λk s=>.inl (s.1++[rowAt p (c.getD k 0)],s.2++[FI p (c.getD k 0)])) (λo=>match o with|.inl s=>s|.inr _=>([],[])) hl (λrec k s hk hi=>by
  have hkc:k < c.length:=by rw[hc];exact hk
  have hck:c.getD k 0=c[k]:=by rw[AQ,Ad hkc];rfl
  have he:=hin c[k] (Ag hkc)
  show cond (decide ((k:Int) < (p.2.2.length:Int))) _ _=_
  rw[Bl hk,Ab,hg]
  simp only[G]
  rw[AK (show k < (cI c).length by unfold cI;rw[Aj];exact hkc)]
  simp only[G]
  rw[show(cI c)[k]'(by unfold cI;rw[Aj];exact hkc)=((c[k]:Nat):Int)from by unfold cI;rw[BJ],hck]
  unfold rowAt FI
  have hJ:∀a b,Jl rec (k:Int) a b=rec (a,b,((k+1:Nat):Int)):=λa b=>by unfold Jl;rw[Bn hk (Bd hl)]
  by_cases hm:c[k] < p.2.1.length
  ·rw[AH hm,AH hm,Bl hm,Ab,H7 (by rw[h5];exact hm)]
   simp only[G]
   rw[AN (by rw[hi.1];simp;unfold lim;omega),EP hm]
   simp only[G]
   rw[AN (by rw[hi.2];simp;unfold lim;omega),hJ]
  ·have hz:(List.replicate p.2.2.length ((0:Int),(1:Int))).length=p.2.2.length:=Cw
   have hw:IntKind.i64.wrap (((c[k]:Nat):Int) - (p.2.1.length:Int))=((c[k] - p.2.1.length:Nat):Int):=by rw[wrap_in (by omega)];omega
   rw[AE hm,AE hm,Af (by omega),Aa,kw hl]
   simp only[G]
   rw[AN (by rw[hz];omega),hw,AK (show c[k] - p.2.1.length < (List.replicate p.2.2.length ((0:Int),(1:Int))).length by rw[hz];omega)]
   simp only[G]
   rw[AN (by rw[hi.1];simp;unfold lim;omega),AN (by rw[hi.2];simp;unfold lim;omega),hJ]
   simp only[Dl,As]
   rfl) (λrec s hi=>by
  show cond (decide ((p.2.2.length:Int) < (p.2.2.length:Int))) _ _=_
  rw[Bh];rfl) (λk s s' hk hi hs=>by cases hs;exact⟨by simp[hi.1],by simp[hi.2]⟩) ([],[]) ⟨rfl,rfl⟩
 rw[show(([]:Mx),([]:List Rt),(0:Int))=((([],[]):Mx×List Rt).1,(([],[]):Mx×List Rt).2,((0:Nat):Int))from rfl,hr,QD]
 simp only[Bg]
 rw[<-hc,getD_map 0 (rowAt p) c,getD_map 0 (FI p) c]
theorem uP{out:Mx}{v:List Rt×Bool}(h:out.length<=lim)(hr:∀r∈out,r.length<=lim):An (LE out v) fz (false,0)=some (out.any (· ==v.1)):=by
 have hl:=Ez (B:=LE out v) (n:=out.length) (O:=Unit) (λ(s:Bool) k=>(s,(k:Int))) (λ_ _=>True) (λk s=>.inl (s || (out.getD k []==v.1))) (λo=>match o with|.inl s=>s|.inr _=>false) h (λrec k s hk _=>by
  show cond (decide ((k:Int) < (out.length:Int))) _ _=_
  have hJ:∀b,Jo rec (k:Int) b=rec (b,((k+1:Nat):Int)):=λb=>by unfold Jo;rw[Bn hk (Bd h)]
  rw[Bl hk,Ab]
  cases s with
  |true=>rw[Ab,hJ];rfl
  |false=>
   rw[Aa,H7 hk]
   simp only[G]
   rw[AdB (by rw[<-HJ hk];exact hr _ (Ag hk))]
   simp only[G]
   rw[hJ];rfl) (λrec s _=>by
  show cond (decide ((out.length:Int) < (out.length:Int))) _ _=_
  rw[Bh];rfl) (λ_ _ _ _ _ _=>trivial) false trivial
 rw[show((0:Nat):Int)=0 from rfl]at hl
 rw[hl,l8]
 simp only[CX]
 have:(List.range' 0 out.length).any (λk=>out.getD k []==v.1)=((List.range' 0 out.length).map (λk=>(λx=>x==v.1) (out.getD k []))).any id:=by rw[List.any_map];rfl
 rw[this,getD_map [] (λx=>x==v.1) out,List.any_map];rfl
def Tc(m:Mx):Prop:=∀r∈m,r.length<=lim
theorem dt{p:LP}(sg:Int){out:Mx}{c:List Nat}(hc:c.length<=lim)(h:Tc out):Tc (visit p sg out c):=by
 unfold visit
 cases(SH (c.map (rowAt p)) (c.map (FI p))).2 with
 |false=>exact h
 |true=>
  cases RI p (SH (c.map (rowAt p)) (c.map (FI p))).1 sg with
  |false=>exact h
  |true=>
   cases out.any (· ==(SH (c.map (rowAt p)) (c.map (FI p))).1)with
   |true=>exact h
   |false=>
    intro r hr
    rcases Ak.1 hr with hr|hr
    ·exact h r hr
    ·rw[A7]at hr;subst hr;exact fq (by rw[Aj];exact hc)
def nr(p:LP)(sg:Int):Mx:=(PN (p.2.1.length+p.2.2.length) p.2.2.length 0).foldl (visit p sg) []
theorem ro{p:LP}{sg:Int}(hv:R1 p=true):OH p sg=some (nr p sg):=by
 obtain⟨h1,h2,h3,h4,h5,h6⟩:=Oc hv
 have hsm:cf p:=⟨by rw[h5];unfold lim;omega,by unfold lim;omega,by unfold lim;omega⟩
 unfold OH nr
 rw[show IntKind.i64.wrap ((p.2.1.length:Int)+(p.2.2.length:Int))=((p.2.1.length+p.2.2.length:Nat):Int)from by rw[wrap_in (by omega)];omega]
 unfold Tj
 have hp:=rm (t:=p.2.1.length+p.2.2.length) (by omega) p.2.2.length 0 fz (by omega) (by omega) (by unfold fz;omega)
 rw[show((0:Nat):Int)=0 from rfl]at hp
 rw[hp]
 simp only[G]
 have hcl:=UL (t:=p.2.1.length+p.2.2.length) (by omega) p.2.2.length 0
 have hpw:=lZ h2
 have hll:(PN (p.2.1.length+p.2.2.length) p.2.2.length 0).length<=lim:=by unfold lim;omega
 have hl:=Ez (B:=LB p sg ((PN (p.2.1.length+p.2.2.length) p.2.2.length 0).map cI)) (n:=(PN (p.2.1.length+p.2.2.length) p.2.2.length 0).length) (O:=Unit) (λ(s:Mx) k=>(s,(k:Int))) (λk s=>s.length<=k∧Tc s) (λk s=>.inl (visit p sg s ((PN (p.2.1.length+p.2.2.length) p.2.2.length 0).getD k []))) (λo=>match o with|.inl s=>s|.inr _=>[]) hll (λrec k s hk hi=>by
  have hcm:=Xr (Ag hk)
  have hgd:(PN (p.2.1.length+p.2.2.length) p.2.2.length 0).getD k []=(PN (p.2.1.length+p.2.2.length) p.2.2.length 0)[k]:=by rw[AQ,Ad hk];rfl
  rw[hgd]
  show cond (decide ((k:Int) < (((PN (p.2.1.length+p.2.2.length) p.2.2.length 0).map cI).length:Int))) _ _=_
  rw[Aj,Bl hk,Ab,AdL hv (y:=(k:Int)) (c:=(PN (p.2.1.length+p.2.2.length) p.2.2.length 0)[k]) (by rw[AK (by rw[Aj];exact hk),BJ]) hcm.1 hcm.2]
  simp only[G]
  have hc1:(PN (p.2.1.length+p.2.2.length) p.2.2.length 0)[k].length<=lim:=by rw[hcm.1];unfold lim;omega
  rw[AdI (by rw[Aj];exact hc1) (by rw[Aj];exact hc1)]
  simp only[G]
  unfold visit
  have hJ:∀b,Hn rec (k:Int) b=rec (b,((k+1:Nat):Int)):=λb=>by unfold Hn;rw[Bn hk (Bd hll)]
  cases(SH (((PN (p.2.1.length+p.2.2.length) p.2.2.length 0)[k]).map (rowAt p)) (((PN (p.2.1.length+p.2.2.length) p.2.2.length 0)[k]).map (FI p))).2 with
  |false=>unfold Jm;rw[Aa,Aa,hJ];rfl
  |true=>
   rw[Ab,Ab,AaO hsm (fq (by rw[Aj];exact hc1))]
   simp only[G]
   unfold Jm
   cases RI p (SH (((PN (p.2.1.length+p.2.2.length) p.2.2.length 0)[k]).map (rowAt p)) (((PN (p.2.1.length+p.2.2.length) p.2.2.length 0)[k]).map (FI p))).1 sg with
   |false=>rw[Aa,Aa,hJ]
   |true=>
    rw[Ab,Ab,uP (by unfold lim;omega) hi.2]
    simp only[G]
    cases s.any (· ==(SH (((PN (p.2.1.length+p.2.2.length) p.2.2.length 0)[k]).map (rowAt p)) (((PN (p.2.1.length+p.2.2.length) p.2.2.length 0)[k]).map (FI p))).1)with
    |true=>rw[Ai,Aa,Ab,hJ]
    |false=>rw[C7,Ab,Aa,AN (by simp;unfold lim;omega),hJ]) (λrec s _=>by
  show cond (decide ((((PN (p.2.1.length+p.2.2.length) p.2.2.length 0).length:Nat):Int) < (((PN (p.2.1.length+p.2.2.length) p.2.2.length 0).map cI).length:Int))) _ _=_
  rw[Aj,Bh];rfl) (λk s s' hk hi hs=>by
  cases hs
  have:=Yq p sg s ((PN (p.2.1.length+p.2.2.length) p.2.2.length 0).getD k [])
  refine⟨by omega,dt sg ?_ hi.2⟩
  rw[AQ,Ad hk,Cl,(Xr (Ag hk)).1];unfold lim;omega) [] ⟨by simp,λr hr=>by simp at hr⟩
 rw[show((0:Nat):Int)=0 from rfl]at hl
 rw[hl,Q9 (λs k=>visit p sg s ((PN (p.2.1.length+p.2.2.length) p.2.2.length 0).getD k [])),jB [] (visit p sg)]
def bt(b:Bool):Rt:=(cond b 1 0,1)
def gB(l:List Bool)(i:Nat):Bool:=l.getD i false
def allB:Nat->List (List Bool)
 |0=>[[]]
 |n+1=>(allB n).flatMap λl=>[false::l,true::l]
theorem TR:∀l:List Bool,l∈allB l.length
 |[]=>A7.2 rfl
 |b::l=>by
  rw[Az,allB,Cx]
  refine⟨l,TR l,?_⟩
  cases b
  ·exact BK
  ·exact AZ _ BK
def v7(S r:List Bool):Bool:=(List.range S.length).any λi=>(gB S i&&gB r i)&&(List.range S.length).all λj=>j==i || !(gB S j&&gB r j)
def apart(S a b:List Bool):Bool:=(List.range S.length).all λi=> !(gB S i&&(gB a i&&gB b i))
def kK(S:List Bool):List (List Bool):=(allB S.length).filter (v7 S)
def tj(S:List Bool):Nat->List (List (List Bool))
 |0=>[[]]
 |k+1=>(tj S k).flatMap λrs=>((kK S).filter λr=>rs.all (apart S r)).map (· ::rs)
theorem gP{S:List Bool}:∀{rs:List (List Bool)},(∀r∈rs,r∈kK S)->rs.Pairwise (λa b=>apart S a b=true)->rs∈tj S rs.length
 |[],_,_=>A7.2 rfl
 |r::rs,h,hp=>by
  obtain⟨h1,h2⟩:=Ck.1 hp
  rw[Az,tj,Cx]
  refine⟨rs,gP (λr hr=>h r (AZ _ hr)) h2,BF.2 ⟨r,Cp.2 ⟨h r BK,Al.2 h1⟩,rfl⟩⟩
def QL(S:List Bool):List Nat:=(List.range S.length).filter λj=> !gB S j
def fA(S:List Bool):List Nat:=(List.range S.length).filter λj=>gB S j
def wi(S:List Bool)(rs:List (List Bool)):Bool:=(SH (rs.map (λr=>r.map bt)++(QL S).map (VC S.length)) (rs.map (λ_=>((1:Int),(1:Int)))++(QL S).map (λ_=>((0:Int),(1:Int))))).2&&(SH (rs.map (λr=>r.map bt)++(QL S).map (VC S.length)) (rs.map (λ_=>((1:Int),(1:Int)))++(QL S).map (λ_=>((0:Int),(1:Int))))).1==S.map bt
def nH(n:Nat):Bool:=(allB n).all λS=>(tj S (fA S).length).all (wi S)
theorem AeX:nH 1=true:=by kernel_rfl
theorem AeY:nH 2=true:=by kernel_rfl
theorem AeZ:nH 3=true:=by kernel_rfl
theorem Ae0:nH 4=true:=by kernel_rfl
def v4(a b:List Bool):Bool:=(List.range b.length).any λi=>gB a i&&gB b i
def oD(r S:List Bool):Bool:=(SP (r.map bt) (S.map bt)).2&&(!v4 r S || !decide (IntKind.i64.wrap (kc (SP (r.map bt) (S.map bt)).1 (1,1) * 1) < 0))
def tryD(n:Nat):Bool:=(allB n).all λr=>(allB n).all (oD r)
theorem AdR:tryD 1=true:=by kernel_rfl
theorem AdS:tryD 2=true:=by kernel_rfl
theorem AdT:tryD 3=true:=by kernel_rfl
theorem AdU:tryD 4=true:=by kernel_rfl
theorem gj{α:Type}(g:Nat->List α):∀(b a fr:Nat),(∀k,fr+a<=k->k < fr+a+b->g k=[])->(List.range' fr (a+b)).flatMap g=(List.range' fr a).flatMap g
 |0,a,fr,_=>rfl
 |b+1,a,fr,h=>by
  rw[<-CY,List.range'_concat,DB,gj g b a fr (λk h1 h2=>h k h1 (by omega))]
  simp[h (fr+(a+b)) (by omega) (by omega)]
theorem sR{t r fr:Nat}(hr:0 < r)(h:t+1<=r+fr):PN t r fr=[]:=by
 obtain⟨r,rfl⟩:∃q,r=q+1:=⟨r - 1,by omega⟩
 rw[PN,show t - r - fr=0 from by omega];rfl
theorem sQ(t r fr:Nat)(h:fr<=t):(List.range' fr (t - fr)).flatMap (λi=>(PN t r (i+1)).map (i:: ·))=PN t (r+1) fr:=by
 rw[PN]
 have:=gj (λi=>(PN t r (i+1)).map (i:: ·)) (t - fr - (t - r - fr)) (t - r - fr) fr (λk hk hk2=>by
  cases r with
  |zero=>omega
  |succ r=>rw[sR (by omega) (by omega)];rfl)
 rw[<-this,show t - r - fr+(t - fr - (t - r - fr))=t - fr from by omega]
theorem foldl_flat{α β S:Type}(f:S->β->S)(g:α->List β):∀(l:List α) (s:S),(l.flatMap g).foldl f s=l.foldl (λs x=>(g x).foldl f s) s
 |[],_=>rfl
 |x::l,s=>by rw[Au,MJ,Fb,foldl_flat f g l]
theorem TZ(c:List Nat):(cI c).length=c.length:=by unfold cI;rw[Aj]
theorem wR(c d:List Nat):cI (c++d)=cI c++cI d:=by unfold cI;rw[BM]
theorem vF{l:List Int}(h:l.length<=lim):Gy l=some l:=by
 unfold Gy
 rw[AN (by simpa using h),Bg]
theorem gC{p:LP}{sg:Int}{c:List Nat}:∀(l:List (List Nat)) (s:Mx),(∀d∈l,(c++d).length<=lim)->Tc s->Tc (l.foldl (λo d=>visit p sg o (c++d)) s)
 |[],_,_,h=>h
 |d::l,s,hl,h=>gC l _ (λd hd=>hl d (AZ _ hd)) (dt sg (hl d BK) h)
theorem AbG(a:Mx)(f:List Rt->Bool):(List.range a.length).any (λk=>f (Eo a k))=a.any f:=by
 rw[Cn,Dj,Dj]
 constructor
 ·rintro⟨i,hi,h⟩
  rw[AL]at hi
  rw[<-HJ hi]at h
  exact⟨_,Ag hi,h⟩
 ·rintro⟨x,hx,h⟩
  obtain⟨i,hi,rfl⟩:=Fc hx
  rw[HJ hi]at h
  exact⟨i,AL.2 hi,h⟩
section
variable {p:LP}{R:Mx}{rt:List Rt}
theorem Acn(hv:R1 p=true)(hR:R.length=p.2.1.length+p.2.2.length)(hrt:rt.length=p.2.1.length+p.2.2.length)(hA:∀j,j < p.2.1.length+p.2.2.length->Eo R j=rowAt p j)(hB:∀j,j < p.2.1.length+p.2.2.length->atR rt j=FI p j)
  {c:List Nat}(hc:c.length<=5) (hin:∀e∈c,e < p.2.1.length+p.2.2.length):An (Nm (cI c) R rt) fz ([],[],0)=some (c.map (rowAt p),c.map (FI p)):=by
 have hl:c.length<=lim:=by unfold lim;omega
 have hr:=Ez (B:=Nm (cI c) R rt) (n:=c.length) (O:=Unit) (λ(s:Mx×List Rt) k=>(s.1,s.2,(k:Int))) (λk s=>s.1.length=k∧s.2.length=k) (λk s=>.inl (s.1++[rowAt p (c.getD k 0)],s.2++[FI p (c.getD k 0)])) (λo=>match o with|.inl s=>s|.inr _=>([],[])) hl (λrec k s hk hi=>by
  have hck:c.getD k 0=c[k]:=by rw[AQ,Ad hk];rfl
  have he:=hin c[k] (Ag hk)
  show cond (decide ((k:Int) < ((cI c).length:Int))) _ _=_
  rw[TZ,Bl hk,Ab,AK (show k < (cI c).length by rw[TZ];exact hk)]
  simp only[G]
  rw[show(cI c)[k]'(by rw[TZ];exact hk)=((c[k]:Nat):Int)from by unfold cI;rw[BJ],hck,H7 (by rw[hR];exact he)]
  simp only[G]
  rw[AN (by rw[hi.1];simp;unfold lim;omega),EP (by rw[hrt];exact he)]
  simp only[G]
  rw[AN (by rw[hi.2];simp;unfold lim;omega),hA _ he,hB _ he,Bn hk (Bd hl)]) (λrec s hi=>by
  show cond (decide ((c.length:Int) < ((cI c).length:Int))) _ _=_
  rw[TZ,Bh];rfl) (λk s s' hk hi hs=>by cases hs;exact⟨by simp[hi.1],by simp[hi.2]⟩) ([],[]) ⟨rfl,rfl⟩
 rw[show(([]:Mx),([]:List Rt),(0:Int))=((([],[]):Mx×List Rt).1,(([],[]):Mx×List Rt).2,((0:Nat):Int))from rfl,hr,QD]
 simp only[Bg]
 rw[getD_map 0 (rowAt p) c,getD_map 0 (FI p) c]
theorem tu{out:Mx}{v:List Rt×Bool}(h:out.length<=lim)(hv:v.1.length<=lim):An (QZ out v) fz 0=some (cond (out.any (· ==v.1)) (.inr out) (.inl ())):=by
 rw[Ha (n:=out.length) (λk=>v.1==Eo out k) out h (λk hk rec=>by
  show cond (decide ((k:Int) < (out.length:Int))) _ _=_
  rw[Bl hk,Ab,H7 hk]
  simp only[G]
  rw[Ach hv]
  simp only[G]
  rw[Bn hk (Bd h)]) (λrec=>by
  show cond (decide ((out.length:Int) < (out.length:Int))) _ _=_
  rw[Bh];rfl)]
 rw[AbG out (λx=>v.1==x),show(λx=>v.1==x)=(λx=>x==v.1)from by
  funext x
  rw[Cn,BU,BU]
  exact eq_comm]
theorem gX{sg:Int}(hv:R1 p=true)(hR:R.length=p.2.1.length+p.2.2.length)(hrt:rt.length=p.2.1.length+p.2.2.length)(hA:∀j,j < p.2.1.length+p.2.2.length->Eo R j=rowAt p j)(hB:∀j,j < p.2.1.length+p.2.2.length->atR rt j=FI p j):
  ∀(r:Nat) (c:List Nat) (fr f:Nat) (out:Mx),c.length+r=p.2.2.length->fr<=p.2.1.length+p.2.2.length->(∀e∈c,e < p.2.1.length+p.2.2.length)->r < f->out.length+11 ^ r<=lim->Tc out->
  An Fa f ((fr:Int),cI c,(p.2.2.length:Int),R,rt,p,sg,out)=some ((PN (p.2.1.length+p.2.2.length) r fr).foldl (λo d=>visit p sg o (c++d)) out)
 |0,c,fr,f,out,hc,hfr,hin,hf,ho,hol=>by
  obtain⟨f,rfl⟩:∃g,f=g+1:=⟨f - 1,by omega⟩
  obtain⟨h1,h2,h3,h4,h5,h6⟩:=Oc hv
  have hsm:cf p:=⟨by rw[h5];unfold lim;omega,by unfold lim;omega,by unfold lim;omega⟩
  have hcl:c.length<=lim:=by unfold lim;omega
  rw[Bq]
  show cond (decide (((cI c).length:Int) < (p.2.2.length:Int))) _ _=_
  rw[TZ,show c.length=p.2.2.length from by omega,Bh,Aa,Acn hv hR hrt hA hB (by omega) hin]
  simp only[G]
  rw[Acl (by rw[Aj];exact hcl)]
  simp only[G]
  rw[PN,Fb,List.foldl_nil,AD]
  unfold visit
  cases(SH (c.map (rowAt p)) (c.map (FI p))).2 with
  |false=>rfl
  |true=>
   have hxl:=fq (a:=c.map (rowAt p)) (b:=c.map (FI p)) (by rw[Aj];exact hcl)
   rw[Ai,Aa,Ab,xw hsm hxl]
   simp only[G]
   cases RI p (SH (c.map (rowAt p)) (c.map (FI p))).1 sg with
   |false=>rfl
   |true=>
    rw[Ai,Aa,Ab,tu (by omega) hxl]
    simp only[G]
    cases out.any (· ==(SH (c.map (rowAt p)) (c.map (FI p))).1)with
    |true=>rfl
    |false=>
     simp only[Aa]
     rw[AN (by simpa using ho)]
 |r+1,c,fr,f,out,hc,hfr,hin,hf,ho,hol=>by
  obtain⟨f,rfl⟩:∃g,f=g+1:=⟨f - 1,by omega⟩
  obtain⟨h1,h2,h3,h4,h5,h6⟩:=Oc hv
  have hpw:11 ^ (r+1)=11 ^ r * 11:=DJ ..
  have hNm:p.2.1.length+p.2.2.length<=maxLen:=by unfold maxLen;omega
  rw[Bq]
  show cond (decide (((cI c).length:Int) < (p.2.2.length:Int))) (G (An (Nl (cI c) (p.2.2.length:Int) R rt p sg (An Fa f)) fz (out,(fr:Int))) λz4=>some z4) _=_
  rw[TZ,Bl (show c.length < p.2.2.length by omega),Ab]
  have hl:=SB (B:=Nl (cI c) (p.2.2.length:Int) R rt p sg (An Fa f)) (n:=p.2.1.length+p.2.2.length) (O:=Unit) (λ(s:Mx) k=>(s,(k:Int))) (λk s=>fr<=k∧s.length<=out.length+(k - fr) * 11 ^ r∧Tc s) (λk s=>.inl ((PN (p.2.1.length+p.2.2.length) r (k+1)).foldl (λo d=>visit p sg o (c++(k::d))) s)) (λo=>match o with|.inl s=>s|.inr _=>[])
   (λrec k s hk hi=>by
    have hkm:(k - fr) * 11 ^ r<=10 * 11 ^ r:=B3 _ (by omega)
    show cond (decide ((k:Int) < (R.length:Int))) _ _=_
    rw[hR,Bl hk,Ab,vF (by rw[TZ];unfold lim;omega)]
    simp only[G]
    rw[AN (by rw[TZ];simp;unfold lim;omega),Bn hk hNm,show cI c++[(k:Int)]=cI (c++[k])from by rw[wR];rfl,gX hv hR hrt hA hB r (c++[k]) (k+1) f s (by rw[Aq];simp;omega) (by omega) (λe he=>by
     rcases Ak.1 he with he|he
     ·exact hin e he
     ·rw[A7]at he;subst he;exact hk) (by omega) (by omega) hi.2.2]
    simp only[G,A3,FH])
   (λrec s hi=>by
    show cond (decide (((p.2.1.length+p.2.2.length:Nat):Int) < (R.length:Int))) _ _=_
    rw[hR,Bh];rfl)
   (λk s s' hk hi hs=>by
    cases hs
    refine⟨by omega,?_,?_⟩
    ·have h1:=XE (f:=λo d=>visit p sg o (c++(k::d))) (λs x=>Yq p sg s _) (PN (p.2.1.length+p.2.2.length) r (k+1)) s
     have h2:=UL (t:=p.2.1.length+p.2.2.length) (by omega) r (k+1)
     rw[show k+1 - fr=(k - fr)+1 from by omega,Fj]
     have:=hi.2.1
     refine BC h1 ?_
     omega
    ·have:=gC (p:=p) (sg:=sg) (c:=c++[k]) (PN (p.2.1.length+p.2.2.length) r (k+1)) s (λd hd=>by
      rw[Aq,Aq,(Xr hd).1];simp;unfold lim;omega) hi.2.2
     simpa only[A3,FH]using this) (p.2.1.length+p.2.2.length - fr) fr out fz (by omega) (by unfold fz;omega) ⟨AW _,by simp,hol⟩
  rw[hl,Q9 (λs k=>(PN (p.2.1.length+p.2.2.length) r (k+1)).foldl (λo d=>visit p sg o (c++(k::d))) s)]
  simp only[G]
  rw[<-sQ _ r fr hfr,foldl_flat]
  simp only[List.foldl_map]
end
theorem nK{p:LP}{i:Nat}(hi:i < p.2.2.length)(h:p.2.2.length<=lim):An (O5 p (i:Int)) fz ([],0)=some (VC p.2.2.length i):=by
 have hl:=Ez (B:=O5 p (i:Int)) (n:=p.2.2.length) (O:=Unit) (λ(s:List Rt) k=>(s,(k:Int))) (λk s=>s.length=k) (λk s=>.inl (s++[(if i=k then(1:Int)else 0,(1:Int))])) (λo=>match o with|.inl s=>s|.inr _=>[]) h (λrec k s hk hs=>by
  show cond (decide ((k:Int) < (p.2.2.length:Int))) _ _=_
  rw[Bl hk,Ab,show((i:Int)==(k:Int))=decide (i=k)from by rw[Cn,BU,decide_eq_true_iff];omega]
  unfold Ud
  by_cases e:i=k
  ·rw[Ah e,AH e,Ab]
   simp only[G]
   rw[AN (by rw[hs];simp;unfold lim at h⊢;omega),Bn hk (Bd h)]
  ·rw[Af e,AE e,Aa]
   simp only[G]
   rw[AN (by rw[hs];simp;unfold lim at h⊢;omega),Bn hk (Bd h)]) (λrec s _=>by
  show cond (decide ((p.2.2.length:Int) < (p.2.2.length:Int))) _ _=_
  rw[Bh];rfl) (λk s s' hk hi hs=>by cases hs;simp[hi]) [] rfl
 rw[show((0:Nat):Int)=0 from rfl]at hl
 rw[hl,bu]
 simp only[Bg]
 congr 1
 unfold VC
 apply Ej
 ·simp
 ·intro k h1 h2
  rw[BJ,D0,Ek]
  simp only[B6,DP,Jv]
  split<;>rfl
theorem ph{p:LP}{sg:Int}(hv:R1 p=true):Pi p sg=some (nr p sg):=by
 obtain⟨h1,h2,h3,h4,h5,h6⟩:=Oc hv
 have hl:p.2.2.length<=lim:=by unfold lim;omega
 unfold Pi
 rw[AN (by rw[h5];simp;unfold lim;omega)]
 unfold Ib
 rw[AN (by simp;unfold lim;omega),Bg,Bg]
 simp only[G]
 have hr:=Ez (B:=Sk p) (n:=p.2.2.length) (O:=Unit) (λ(s:Mx×List Rt) k=>(s.1,s.2,(k:Int))) (λk s=>s.1.length=p.2.1.length+k∧s.2.length=p.2.1.length+k) (λk s=>.inl (s.1++[VC p.2.2.length k],s.2++[((0:Int),(1:Int))])) (λo=>match o with|.inl s=>s|.inr _=>([],[])) hl (λrec k s hk hi=>by
  show cond (decide ((k:Int) < (p.2.2.length:Int))) _ _=_
  rw[Bl hk,Ab,nK hk hl]
  simp only[G]
  rw[AN (by rw[hi.1];simp;unfold lim;omega),AN (by rw[hi.2];simp;unfold lim;omega),Bn hk (Bd hl)]) (λrec s hi=>by
  show cond (decide ((p.2.2.length:Int) < (p.2.2.length:Int))) _ _=_
  rw[Bh];rfl) (λk s s' hk hi hs=>by cases hs;exact⟨by simp[hi.1];omega,by simp[hi.2];omega⟩) (p.1,p.2.1) ⟨h5,rfl⟩
 rw[show((0:Nat):Int)=0 from rfl]at hr
 rw[hr,QD (λk=>VC p.2.2.length k) (λ_=>((0:Int),(1:Int)))]
 simp only
 unfold PZ
 have hR:(p.1++(List.range' 0 p.2.2.length).map λk=>VC p.2.2.length k).length=p.2.1.length+p.2.2.length:=by simp[h5]
 have hrt:(p.2.1++(List.range' 0 p.2.2.length).map λ_=>((0:Int),(1:Int))).length=p.2.1.length+p.2.2.length:=by simp
 have hc:=gX (p:=p) (R:=p.1++(List.range' 0 p.2.2.length).map λk=>VC p.2.2.length k) (rt:=p.2.1++(List.range' 0 p.2.2.length).map λ_=>((0:Int),(1:Int))) (sg:=sg) hv hR hrt (λj hj=>by
  rw[<-HJ (by rw[hR];exact hj)]
  unfold rowAt
  split
  ·rename_i hm
   rw[Ih (by rw[h5];exact hm),HJ]
  ·rename_i hm
   rw[FV (by rw[h5];omega),BJ,D0]
   simp[h5]) (λj hj=>by
  rw[<-MD (by rw[hrt];exact hj)]
  unfold FI
  split
  ·rename_i hm
   rw[Ih hm,MD]
  ·rename_i hm
   rw[FV (by omega),BJ]) p.2.2.length [] 0 fz [] (by simp) (by omega) (by simp) (by unfold fz;omega) (by have:=lZ h2;simp;unfold lim;omega) (λr hr=>by simp at hr)
 rw[show((0:Nat):Int)=0 from rfl,show cI []=[]from rfl]at hc
 rw[hc]
 simp only[Bg]
 rfl
def NN(p:LP):Mx:=cond (R1 p) (nr p 1) []
theorem AeM{p:LP}(h:cf p):IB p=some (NN p):=by
 unfold IB NN
 rw[AdD h]
 simp only[G]
 cases hv:R1 p with
 |false=>rfl
 |true=>rw[Ai,Aa,ro hv];rfl
theorem Aeo{p:LP}(h:cf p):It p=some (NN p):=by
 unfold It NN
 rw[Acj h]
 simp only[G]
 cases hv:R1 p with
 |false=>rfl
 |true=>rw[Ai,Aa,ph hv];rfl
theorem VZ{q:MQ}(h:KP q=true):1<=q.1∧q.1<=5∧q.2.1.length<=4∧∀a∈q.2.1,a.2.length<=5∧∀v∈a.2,0<=v∧v < q.1:=by
 have e1:=TC h
 unfold KP at h
 simp only[Ac,AT]at h
 obtain⟨h1,h2,-,h4,-⟩:=h
 have e2:1<=(q.2.1.length:Int)∧(q.2.1.length:Int)<=4:=by unfold G9 at h2;simpa using h2
 refine⟨e1.1,e1.2,by omega,λa ha=>?_⟩
 obtain⟨k,hk,rfl⟩:=Bi.1 ha
 have h5:=H6 h4 hk
 unfold NI at h5
 simp only[Co,Db]at h5
 have e3:1<=((q.2.1[k]).2.length:Int)∧((q.2.1[k]).2.length:Int)<=5:=by have:=h5.2.1;unfold G9 at this;simpa using this
 refine⟨by omega,λv hv=>?_⟩
 obtain⟨j,hj,rfl⟩:=Bi.1 hv
 have h6:=H6 h5.2.2 hj
 simp only[Db]at h6
 rw[wrap_in (by omega)]at h6
 unfold G9 at h6
 simp only[Ac,BB]at h6
 omega
theorem oT(l:List Int)(v:Int):decide (FY l v < 0)= !l.contains v:=by
 rw[<-Sw]
 by_cases h:0<=FY l v
 ·rw[Ah h,Af (by omega)];rfl
 ·rw[Af h,Ah (by omega)];rfl
def uq(n:Int)(e:Int):Bool:= !G9 e 0 (IntKind.i64.wrap (n - 1))
def PP(a:RQ)(k:Nat):List Int:=((List.range k).filter λ(v:Nat)=>a.2.contains (v:Int)).map λ(v:Nat)=>(v:Int)
theorem vv(a:RQ)(k:Nat):PP a (k+1)=PP a k++cond (a.2.contains (k:Int)) [(k:Int)] []:=by
 unfold PP
 rw[Ls,LU,BM,Nn,List.filter_nil]
 cases a.2.contains (k:Int)<;>rfl
theorem Qf(a:RQ)(k:Nat):(PP a k).length<=k:=by
 unfold PP
 rw[Aj]
 exact BC (FF _ _) (by simp)
theorem Acb{a:RQ}(h:a.2.length<=lim)(hcv:∀v,DZ a v=some (a.2.contains v)):H8 a=some (PP a 5):=by
 unfold H8
 have:=D7 (body:=Gk a) (out:=PP a 5) (λk=>(PP a k,(k:Int))) 5 (λk hk rec=>by
  have hl:=Qf a k
  unfold Gk Iq
  simp only
  rw[Ah (by omega:(k:Int) < 5),hcv,wrap_in (by omega),vv]
  simp only[Ab,Bz]
  cases a.2.contains (k:Int)with
  |true=>rw[Ab,AN (by unfold lim;simp;omega)];rfl
  |false=>rw[Aa,Aa,AD];rfl) (λrec=>by unfold Gk;simp only;rfl) fz (by unfold fz;omega)
 rw[show((([]:List Int),(0:Int)))=(PP a 0,((0:Nat):Int))from rfl,this]
 rfl
theorem oS{α:Type}(f:α->Bool){l:List α}{k:Nat}(hk:k < l.length):(l.take (k+1)).filter f=(l.take k).filter f++cond (f l[k]) [l[k]] []:=by
 rw[A9 hk,LU,Nn,List.filter_nil]
 cases f l[k]<;>rfl
theorem o8{a:RQ}(h:a.2.length<=lim)(v:Int):DZ a v=some (a.2.contains v):=by
 unfold DZ
 simp only[pb h,Bz]
def Wg(q:MQ)(v:Int):List Rt:=q.2.1.map λa=>(cond (a.2.contains v) 1 0,1)
def Kv(q:MQ):LP:=((List.range' 0 q.1.toNat).map (λ(v:Nat)=>Wg q (v:Int)),(List.range' 0 q.1.toNat).map (λ_=>(1,1)),q.2.1.map λ_=>(1,1))
def cpB(q:MQ):LP×Bool:=cond (KP q) (Kv q,true) (([],[],[]),false)
theorem NC{q:MQ}(h:KP q=true):1<=q.1∧q.1<=5∧1<=q.2.1.length∧q.2.1.length<=4:=by
 unfold KP at h
 simp only[Ac,JE]at h
 omega
section
variable {q:MQ}
theorem uO(hq:Vz q)(v:Int):An (Ja q v) fz ([],0)=some (Wg q v):=by
 rw[R9 (B:=Ja q v) (l:=q.2.1) (s0:=[]) (h:=λa=>(cond (a.2.contains v) 1 0,1)) (by simpa using hq.1) (λk hk s rec hs=>by
  show cond (decide ((k:Int) < (q.2.1.length:Int))) _ _=_
  rw[Bl hk,Ab,AK hk]
  simp only[G]
  rw[rc (hq.2.1 _ (Ag hk)).2]
  simp only[G]
  unfold Jb
  have h1:=hq.1
  cases(q.2.1[k]).2.contains v with
  |true=>rw[Ab,AN (by rw[hs];simp;unfold lim at h1⊢;omega),Bn hk (Bd hq.1)];rfl
  |false=>rw[Aa,AN (by rw[hs];simp;unfold lim at h1⊢;omega),Bn hk (Bd hq.1)];rfl) (λrec s=>by
  show cond (decide ((q.2.1.length:Int) < (q.2.1.length:Int))) _ _=_
  rw[Bh];rfl),Bg]
 rfl
theorem tt(hq:Vz q)(v:Int):An (PV q v) fz ([],0)=some (Wg q v):=by
 rw[R9 (B:=PV q v) (l:=q.2.1) (s0:=[]) (h:=λa=>(cond (a.2.contains v) 1 0,1)) (by simpa using hq.1) (λk hk s rec hs=>by
  show cond (decide ((k:Int) < (q.2.1.length:Int))) _ _=_
  rw[Bl hk,Ab,AK hk]
  simp only[G]
  rw[o8 (hq.2.1 _ (Ag hk)).2]
  simp only[G]
  unfold Ud
  have h1:=hq.1
  cases(q.2.1[k]).2.contains v with
  |true=>rw[Ab];simp only[G];rw[AN (by rw[hs];simp;unfold lim at h1⊢;omega),Bn hk (Bd hq.1)];rfl
  |false=>rw[Aa];simp only[G];rw[AN (by rw[hs];simp;unfold lim at h1⊢;omega),Bn hk (Bd hq.1)];rfl) (λrec s=>by
  show cond (decide ((q.2.1.length:Int) < (q.2.1.length:Int))) _ _=_
  rw[Bh];rfl),Bg]
 rfl
theorem AaK(hq:Vz q):An (L5 q) fz ([],0)=some (q.2.1.map λ_=>(1,1)):=by
 rw[R9 (B:=L5 q) (l:=q.2.1) (s0:=[]) (h:=λ_=>(1,1)) (by simpa using hq.1) (λk hk s rec hs=>by
  have h1:=hq.1
  show cond (decide ((k:Int) < (q.2.1.length:Int))) _ _=_
  rw[Bl hk,Ab,AN (by rw[hs];simp;unfold lim at h1⊢;omega),Bn hk (Bd hq.1)]) (λrec s=>by
  show cond (decide ((q.2.1.length:Int) < (q.2.1.length:Int))) _ _=_
  rw[Bh];rfl),Bg]
theorem xq(hq:Vz q):An (PW q) fz ([],0)=some (q.2.1.map λ_=>(1,1)):=by
 rw[R9 (B:=PW q) (l:=q.2.1) (s0:=[]) (h:=λ_=>(1,1)) (by simpa using hq.1) (λk hk s rec hs=>by
  have h1:=hq.1
  show cond (decide ((k:Int) < (q.2.1.length:Int))) _ _=_
  rw[Bl hk,Ab,AN (by rw[hs];simp;unfold lim at h1⊢;omega),Bn hk (Bd hq.1)]) (λrec s=>by
  show cond (decide ((q.2.1.length:Int) < (q.2.1.length:Int))) _ _=_
  rw[Bh];rfl),Bg]
theorem AeK(hq:Vz q):Lw q=some (cpB q):=by
 unfold Lw cpB
 rw[Zu hq]
 simp only[G]
 cases hv:KP q with
 |false=>rfl
 |true=>
  obtain⟨h1,h2,h3,h4⟩:=NC hv
  have hn:((q.1.toNat:Nat):Int)=q.1:=by omega
  rw[Ai,Aa]
  have hl:=Ez (B:=PH q) (n:=q.1.toNat) (O:=Unit) (λ(s:Mx×List Rt) k=>(s.1,s.2,(k:Int))) (λk s=>s.1.length=k∧s.2.length=k) (λk s=>.inl (s.1++[Wg q (k:Int)],s.2++[((1:Int),(1:Int))])) (λo=>match o with|.inl s=>s|.inr _=>([],[])) (by unfold lim;omega) (λrec k s hk hi=>by
   show cond (decide ((k:Int) < q.1)) _ _=_
   rw[Ah (by omega),Ab,uO hq]
   simp only[G]
   rw[AN (by rw[hi.1];simp;unfold lim;omega),AN (by rw[hi.2];simp;unfold lim;omega),Bn hk (by unfold maxLen;omega)]) (λrec s hi=>by
   show cond (decide (((q.1.toNat:Nat):Int) < q.1)) _ _=_
   rw[Af (by omega)];rfl) (λk s s' hk hi hs=>by cases hs;exact⟨by simp[hi.1],by simp[hi.2]⟩) ([],[]) ⟨rfl,rfl⟩
  rw[show(([]:Mx),([]:List Rt),(0:Int))=((([],[]):Mx×List Rt).1,(([],[]):Mx×List Rt).2,((0:Nat):Int))from rfl,hl,QD (λk=>Wg q (k:Int)) (λ_=>((1:Int),(1:Int)))]
  simp only[Bg]
  rw[AaK hq]
  rfl
theorem Aem(hq:Vz q):Lh q=some (cpB q):=by
 unfold Lh cpB
 rw[Wp hq]
 simp only[G]
 cases hv:KP q with
 |false=>rfl
 |true=>
  obtain⟨h1,h2,h3,h4⟩:=NC hv
  rw[Ai,Aa]
  have hd:Li q=some ((List.range' 0 q.1.toNat).map λ(v:Nat)=>(v:Int)):=by
   unfold Li
   rw[Wp hq,hv]
   simp only[G,Ai,Aa]
   have hl:=Ez (B:=Pv q) (n:=q.1.toNat) (O:=Unit) (λ(s:List Int) k=>(s,(k:Int))) (λk s=>s.length=k) (λk s=>.inl (s++[(k:Int)])) (λo=>match o with|.inl s=>s|.inr _=>[]) (by unfold lim;omega) (λrec k s hk hi=>by
    show cond (decide ((k:Int) < q.1)) _ _=_
    rw[Ah (by omega),Ab,AN (by rw[hi];simp;unfold lim;omega),Bn hk (by unfold maxLen;omega)]) (λrec s hi=>by
    show cond (decide (((q.1.toNat:Nat):Int) < q.1)) _ _=_
    rw[Af (by omega)];rfl) (λk s s' hk hi hs=>by cases hs;simp[hi]) [] rfl
   rw[show((0:Nat):Int)=0 from rfl]at hl
   rw[hl,bu (λ(k:Nat)=>(k:Int))]
   rfl
  rw[hd]
  simp only[G]
  unfold SU
  have hlen:((List.range' 0 q.1.toNat).map λ(v:Nat)=>(v:Int)).length=q.1.toNat:=by simp
  have hl:=Ez (B:=Tv q ((List.range' 0 q.1.toNat).map λ(v:Nat)=>(v:Int))) (n:=q.1.toNat) (O:=Unit) (λ(s:Mx×List Rt) k=>(s.1,s.2,(k:Int))) (λk s=>s.1.length=k∧s.2.length=k) (λk s=>.inl (s.1++[Wg q (k:Int)],s.2++[((1:Int),(1:Int))])) (λo=>match o with|.inl s=>s|.inr _=>([],[])) (by unfold lim;omega) (λrec k s hk hi=>by
   show cond (decide ((k:Int) < ((((List.range' 0 q.1.toNat).map λ(v:Nat)=>(v:Int)).length:Nat):Int))) _ _=_
   rw[hlen,Bl hk,Ab,AK (by rw[hlen];exact hk),BJ,D0]
   simp only[G,B6,DP]
   rw[tt hq]
   simp only[G]
   rw[AN (by rw[hi.1];simp;unfold lim;omega),AN (by rw[hi.2];simp;unfold lim;omega),Bn hk (by unfold maxLen;omega)]) (λrec s hi=>by
   show cond (decide (((q.1.toNat:Nat):Int) < ((((List.range' 0 q.1.toNat).map λ(v:Nat)=>(v:Int)).length:Nat):Int))) _ _=_
   rw[hlen,Bh];rfl) (λk s s' hk hi hs=>by cases hs;exact⟨by simp[hi.1],by simp[hi.2]⟩) ([],[]) ⟨rfl,rfl⟩
  rw[show(([]:Mx),([]:List Rt),(0:Int))=((([],[]):Mx×List Rt).1,(([],[]):Mx×List Rt).2,((0:Nat):Int))from rfl,hl,QD (λk=>Wg q (k:Int)) (λ_=>((1:Int),(1:Int)))]
  simp only[Bg]
  rw[xq hq]
  rfl
theorem vy(hv:KP q=true):cf (Kv q):=by
 obtain⟨h1,h2,h3,h4⟩:=NC hv
 unfold Kv cf
 refine⟨by simp;unfold lim;omega,by simp;unfold lim;omega,by simp;unfold lim;omega⟩
end
def Xj(l:List Int)(n:Int):List Int:=l.map λx=>IntKind.i64.wrap (x * n)
def agB(s:List Int)(a b:List Rt):Int×Bool:=cond ((V1 a).2==0) (0,false) (cond ((V1 b).2==0) (0,false) (cond (a.length !=s.length) (0,false) (cond (b.length !=s.length) (0,false) (match WR s (Xj (V1 a).1 (V1 b).2),WR s (Xj (V1 b).1 (V1 a).2)with
 |some m,some n=>(mP m n,true)
 |_,_=>(0,false)))))
theorem Td{w:List Rt}(h:((V1 w).2==0)=false):(V1 w).1.length=w.length:=by
 unfold V1 at h⊢
 cases hs:Vy 1 w with
 |inl d=>simp
 |inr o=>
  rw[hs]at h
  exfalso
  unfold Vy at hs
  cases hb:BV w λ_ r=> !V0 r with
  |true=>rw[hb]at hs;cases hs;cases h
  |false=>
   rw[hb,Aa]at hs
   cases hd:scD 1 w with
   |none=>rw[hd]at hs;cases hs;cases h
   |some d=>rw[hd]at hs;cases hs
theorem g5{l:List Int}(n:Int)(h:l.length<=lim):Px l n=some (Xj l n):=by
 unfold Px Xj
 rw[J6 (a:=l) (h:=λx=>IntKind.i64.wrap (x * n)) h (λk hk rec=>by
  show cond (decide ((k:Int) < (l.length:Int))) _ _=_
  rw[Bl hk,Ab,AK hk]
  simp only[G]
  rw[AN (by simp only[Aj,At,Ao];omega),Bn hk (Bd h)]) (λrec y=>by
  show cond (decide ((l.length:Int) < (l.length:Int))) _ _=_
  rw[Bh];rfl)]
 rfl
theorem ry{v w:List Int×Int}(h:v.1.length<=lim)(hl:v.1.length=w.1.length):An (Jw v w) fz (v.1,w.1,0)=some (Xj v.1 w.2,Xj w.1 v.2):=by
 have key:∀(j k:Nat) (f:Nat),k+j=v.1.length->j < f->An (Jw v w) f ((Xj (v.1.take k) w.2)++v.1.drop k,(Xj (w.1.take k) v.2)++w.1.drop k,(k:Int))=some (Xj v.1 w.2,Xj w.1 v.2):=by
  intro j
  induction j with
  |zero=>
   intro k f hk hf
   obtain⟨f,rfl⟩:∃g,f=g+1:=⟨f - 1,by omega⟩
   obtain rfl:k=v.1.length:=by omega
   rw[Bq,By,Ei,hl,By,Ei,AD,AD]
   show cond (decide ((w.1.length:Int) < (((Xj v.1 w.2).length:Nat):Int))) _ _=_
   rw[show(Xj v.1 w.2).length=w.1.length from by unfold Xj;rw[Aj,hl],Bh];rfl
  |succ j ih=>
   intro k f hk hf
   obtain⟨f,rfl⟩:∃g,f=g+1:=⟨f - 1,by omega⟩
   have h1:k < v.1.length:=by omega
   have h2:k < w.1.length:=by omega
   have hm:∀(l:List Int) (n:Int) (hk:k < l.length),((Xj (l.take k) n)++l.drop k).length=l.length∧AI ((Xj (l.take k) n)++l.drop k) (k:Int)=some l[k]∧Dl ((Xj (l.take k) n)++l.drop k) (k:Int) (IntKind.i64.wrap (l[k] * n))=(Xj (l.take (k+1)) n)++l.drop (k+1):=by
    intro l n hk
    have e:(Xj (l.take k) n).length=k:=by unfold Xj;rw[Aj,At];omega
    refine⟨by rw[Aq,e,A6];omega,?_,?_⟩
    ·rw[F0,BP (by omega),e,F9,Cz,Cb,Ad hk]
    ·unfold Dl
     rw[As,FG _ _ (by omega),e,F9,AO hk,GU,A9 hk]
     unfold Xj
     rw[BM,A3];rfl
   obtain⟨a1,a2,a3⟩:=hm v.1 w.2 h1
   obtain⟨b1,b2,b3⟩:=hm w.1 v.2 h2
   rw[Bq]
   show cond (decide ((k:Int) < (((Xj (v.1.take k) w.2++v.1.drop k).length:Nat):Int))) _ _=_
   rw[a1,Bl h1,Ab,AN (by omega),a2]
   simp only[G]
   rw[b1,AN (by omega),b2]
   simp only[G]
   rw[a3,b3,Bn h1 (Bd h)]
   exact ih (k+1) f (by omega) (by omega)
 have:=key v.1.length 0 fz (by omega) (EO h)
 simpa[Xj]using this
section
variable {s:List Int}{a b:List Rt}
theorem Zn(x y:Nat):((x:Int)!=(y:Int))=(x !=y):=by
 rw[Cn,C4,C4];omega
theorem Adw(hs:s.length<=lim)(hI:∀e∈s,e<=9223372036854775807)(ha:a.length<=lim)(hb:b.length<=lim):Iz s a b=some (agB s a b):=by
 unfold Iz agB
 rw[md ha]
 simp only[G]
 rw[md hb]
 simp only[G]
 cases h1:(V1 a).2==0 with
 |true=>rfl
 |false=>
  cases h2:(V1 b).2==0 with
  |true=>rfl
  |false=>
   rw[Aa,Aa,Aa,Aa,Td h1,Td h2,Zn,Zn]
   cases h3:a.length !=s.length with
   |true=>rfl
   |false=>
    cases h4:b.length !=s.length with
    |true=>rfl
    |false=>
     rw[D1]at h3 h4
     rw[Aa,Aa,Aa,Aa,ry (by rw[Td h1];exact ha) (by rw[Td h1,Td h2];omega)]
     simp only[G]
     rw[wb hs hI]
     simp only[G]
     rw[wb hs hI]
     simp only[G]
     cases hp:WR s (Xj (V1 a).1 (V1 b).2)with
     |none=>rfl
     |some m=>
      cases hp2:WR s (Xj (V1 b).1 (V1 a).2)with
      |none=>rfl
      |some n=>
       simp only[toR,Ai,Aa]
       rw[AaH (Zs hp) (Zs hp2)]
theorem Ab8(hs:s.length<=lim)(hI:∀e∈s,e<=9223372036854775807)(ha:a.length<=lim)(hb:b.length<=lim):Ir s a b=some (agB s a b):=by
 unfold Ir agB
 rw[lC ha]
 simp only[G]
 rw[lC hb]
 simp only[G]
 rw[Zn,Zn]
 cases h1:(V1 a).2==0 with
 |true=>cases a.length !=s.length<;>cases b.length !=s.length<;>rfl
 |false=>
  cases h2:(V1 b).2==0 with
  |true=>cases a.length !=s.length<;>cases b.length !=s.length<;>rfl
  |false=>
   simp only[Aa]
   cases h3:a.length !=s.length with
   |true=>rfl
   |false=>
    cases h4:b.length !=s.length with
    |true=>rfl
    |false=>
     simp only[Aa]
     rw[g5 _ (by rw[Td h1];exact ha)]
     simp only[G]
     rw[vG hs hI]
     simp only[G]
     rw[g5 _ (by rw[Td h2];exact hb)]
     simp only[G]
     rw[vG hs hI]
     simp only[G]
     cases hp:WR s (Xj (V1 a).1 (V1 b).2)with
     |none=>rfl
     |some m=>
      cases hp2:WR s (Xj (V1 b).1 (V1 a).2)with
      |none=>rfl
      |some n=>
       simp only[toR,Ai,Aa]
       rw[xo (Zs hp) (Zs hp2)]
end
theorem sq(s:List Int)(a b:List Rt):decide ((agB s a b).1 < 0)=((agB s a b).1== -1):=by
 have key:(agB s a b).1=0∨(agB s a b).1=1∨(agB s a b).1= -1:=by
  unfold agB
  cases(V1 a).2==0 with
  |true=>exact .inl rfl
  |false=>
   cases(V1 b).2==0 with
   |true=>exact .inl rfl
   |false=>
    cases a.length !=s.length with
    |true=>exact .inl rfl
    |false=>
     cases b.length !=s.length with
     |true=>exact .inl rfl
     |false=>
      simp only[Aa]
      cases WR s (Xj (V1 a).1 (V1 b).2)with
      |none=>exact .inl rfl
      |some m=>
       cases WR s (Xj (V1 b).1 (V1 a).2)with
       |none=>exact .inl rfl
       |some n=>
        simp only
        unfold mP
        cases decide (m < n)with
        |true=>exact .inr (.inr rfl)
        |false=>
         cases decide (n < m)with
         |true=>exact .inr (.inl rfl)
         |false=>exact .inl rfl
 rcases key with h|h|h<;>rw[h]<;>rfl
theorem al{S:List Bool}{i:Nat}:gB S i=true->i < S.length:=λh=>by
 refine BW λhc=>?_
 unfold gB at h
 rw[AQ,Bt (by omega)]at h
 cases h
theorem oZ{S:List Bool}{i j:Nat}(h:i < S.length):gB (S.set i false) j=(if i=j then false else gB S j):=by
 unfold gB
 rw[AQ,Gg,AQ]
 split
 ·first|rfl|(rename_i e;subst e;rw[AH h];rfl)
 ·rfl
theorem bC:∀{S:List Bool}{i:Nat},gB S i=true->((S.set i false).filter id).length < (S.filter id).length
 |[],i,h=>by simp[gB]at h
 |b::S,0,h=>by
  have:b=true:=h
  subst this
  simp
 |b::S,i+1,h=>by
  have:=bC (S:=S) (i:=i) h
  cases b<;>simp[LW]<;>simpa using this
theorem Yy{P:List Bool->Prop}{n:Nat}:∀(k:Nat) (S:List Bool),(S.filter id).length<=k->S.length=n->P S->∃S:List Bool,S.length=n∧P S∧∀i,gB S i=true->¬P (S.set i false)
 |0,S,hk,hl,hp=>⟨S,hl,hp,λi hi _=>by have:=bC hi;omega⟩
 |k+1,S,hk,hl,hp=>by
  by_cases h:∃i,gB S i=true∧P (S.set i false)
  ·obtain⟨i,h1,h2⟩:=h
   have:=bC h1
   exact Yy k (S.set i false) (by omega) (by rw[Bx];exact hl) h2
  ·exact⟨S,hl,hp,λi hi hc=>h ⟨i,hi,hc⟩⟩
theorem fO{t:Nat}:∀{c:List Nat}{i:Nat},(i::c).Pairwise (· < ·)->(∀e∈i::c,e < t)->i+c.length < t
 |[],i,_,h=>by have:=h i BK;simpa using this
 |d::c,i,hp,h=>by
  obtain⟨h1,h2⟩:=Ck.1 hp
  have:=fO h2 λe he=>h e (AZ _ he)
  have:=h1 d BK
  rw[Az];omega
theorem kO{t:Nat}:∀{c:List Nat}{fr:Nat},c.Pairwise (· < ·)->(∀e∈c,fr<=e∧e < t)->c∈PN t c.length fr
 |[],_,_,_=>A7.2 rfl
 |i::c,fr,hp,h=>by
  obtain⟨h1,h2⟩:=Ck.1 hp
  have hr:=fO hp λe he=>(h e he).2
  have hi:=h i BK
  rw[Az,PN,Cx]
  refine⟨i,MK.2 ⟨hi.1,by omega⟩,BF.2 ⟨c,kO h2 λe he=>⟨h1 e he,(h e (AZ _ he)).2⟩,rfl⟩⟩
theorem r8{p:LP}{sg:Int}{out:Mx}{c:List Nat}(h:out≠[]):visit p sg out c≠[]:=by
 unfold visit
 cases(SH (c.map (rowAt p)) (c.map (FI p))).2 with
 |false=>exact h
 |true=>
  cases RI p (SH (c.map (rowAt p)) (c.map (FI p))).1 sg with
  |false=>exact h
  |true=>
   cases out.any (· ==(SH (c.map (rowAt p)) (c.map (FI p))).1)with
   |true=>exact h
   |false=>simp
theorem gE{p:LP}{sg:Int}:∀(l:List (List Nat)) (out:Mx),out≠[]->l.foldl (visit p sg) out≠[]
 |[],_,h=>h
 |c::l,out,h=>gE l _ (r8 h)
theorem cB{p:LP}{sg:Int}{c:List Nat}(h1:(SH (c.map (rowAt p)) (c.map (FI p))).2=true)(h2:RI p (SH (c.map (rowAt p)) (c.map (FI p))).1 sg=true):∀(l:List (List Nat)) (out:Mx),c∈l->l.foldl (visit p sg) out≠[]
 |d::l,out,h=>by
  rw[Fb]
  rcases AC.1 h with rfl|h
  ·refine gE l _ ?_
   unfold visit
   rw[h1,h2,Ab,Ab]
   cases ha:out.any (· ==(SH (c.map (rowAt p)) (c.map (FI p))).1)with
   |true=>intro e;subst e;simp at ha
   |false=>simp
  ·exact cB h1 h2 l _ h
theorem cL{α:Type}(f:α->Bool):∀l:List α,(l.filter f).length+(l.filter λx=> !f x).length=l.length
 |[]=>rfl
 |x::l=>by
  have:=cL f l
  cases hf:f x<;>simp[hf]<;>omega
theorem od(b:Bool):IE (bt b)=true∧0<=(bt b).1:=by cases b<;>decide
section
variable {q:MQ}
def bits(q:MQ)(v:Nat):List Bool:=q.2.1.map λa=>a.2.contains (v:Int)
theorem sW(v:Nat):Wg q (v:Int)=(bits q v).map bt:=by
 unfold Wg bits bt
 rw[EK];rfl
theorem ZV(v:Nat):(bits q v).length=q.2.1.length:=by unfold bits;rw[Aj]
theorem MF:(Kv q).2.1.length=q.1.toNat∧(Kv q).2.2.length=q.2.1.length∧(Kv q).1.length=q.1.toNat:=by unfold Kv;simp
theorem jr{v:Nat}(h:v < q.1.toNat):Eo (Kv q).1 v=(bits q v).map bt:=by
 rw[<-HJ (by rw[MF.2.2];exact h),<-sW]
 unfold Kv
 simp only[BJ,D0]
 simp
theorem qq:IE ((1:Int),(1:Int))=true:=by decide
theorem vw(hv:KP q=true):R1 (Kv q)=true:=by
 obtain⟨h1,h2,h3,h4⟩:=NC hv
 unfold R1
 rw[MF.1,MF.2.1,MF.2.2]
 simp only[Ac,JE,BU]
 refine⟨by omega,by omega,trivial,?_,?_,?_⟩
 ·rw[Al]
  intro r hr
  obtain⟨i,hi,rfl⟩:=Fc hr
  have hi':i < q.1.toNat:=by rw[MF.2.2]at hi;exact hi
  rw[HJ hi,jr hi']
  unfold rowOk
  rw[Aj,ZV,Ci,AJ,LT,Al]
  exactλb _=>(od b).1
 ·rw[Al]
  intro r hr
  unfold Kv at hr
  obtain⟨_,_,rfl⟩:=BF.1 hr
  exact qq
 ·rw[Al]
  intro r hr
  unfold Kv at hr
  obtain⟨_,_,rfl⟩:=BF.1 hr
  exact qq
theorem wM{v i:Nat}(h:i < q.2.1.length):gB (bits q v) i=(q.2.1[i]).2.contains (v:Int):=by
 unfold gB bits
 rw[AQ,BL,Ad h];rfl
def Cov(q:MQ)(S:List Bool):Prop:=∀v,v < q.1.toNat->∃i,gB (bits q v) i=true∧gB S i=true
theorem oW(hv:KP q=true):Cov q (List.replicate q.2.1.length true):=λv hvn=>by
 have hu:=hv
 unfold KP at hu
 simp only[Ac,AT]at hu
 have hu:=CG.1 hu.2.2.2.2 v (AL.2 hvn)
 have hu:JA q.2.1 (v:Int)=true:=by simpa using hu
 unfold JA at hu
 obtain⟨a,ha,hc⟩:=Dj.1 hu
 obtain⟨i,hi,rfl⟩:=Fc ha
 refine⟨i,by rw[wM hi];exact hc,?_⟩
 unfold gB
 rw[AQ,IF,AH hi];rfl
theorem mq{n:Nat}(h1:1<=n)(h2:n<=4):nH n=true∧tryD n=true:=by
 have:n=1∨n=2∨n=3∨n=4:=by omega
 rcases this with rfl|rfl|rfl|rfl
 ·exact⟨AeX,AdR⟩
 ·exact⟨AeY,AdS⟩
 ·exact⟨AeZ,AdT⟩
 ·exact⟨Ae0,AdU⟩
theorem uX(hv:KP q=true){S:List Bool}(hl:S.length=q.2.1.length)(hc:Cov q S):RI (Kv q) (S.map bt) 1=true:=by
 obtain⟨h1,h2,h3,h4⟩:=NC hv
 have hD:=(mq h3 h4).2
 have hdot:∀v,v < q.1.toNat->oD (bits q v) S=true:=λv _=>by
  unfold tryD at hD
  have ha:=Al.1 hD (bits q v) (by have:=TR (bits q v);rwa [ZV]at this)
  exact Al.1 ha S (by have:=TR S;rwa [hl]at this)
 have hdo:∀v,v < q.1.toNat->(SP (Eo (Kv q).1 v) (S.map bt)).2=true∧decide (IntKind.i64.wrap (kc (SP (Eo (Kv q).1 v) (S.map bt)).1 (1,1) * 1) < 0)=false:=λv hvn=>by
  have hd:=hdot v hvn
  unfold oD at hd
  rw[Ac,CF,AT,AT]at hd
  rw[jr hvn]
  refine⟨hd.1,hd.2.resolve_left λhm=>?_⟩
  obtain⟨i,g1,g2⟩:=hc v hvn
  unfold v4 at hm
  have:=CG.1 hm i (AL.2 (al g2))
  rw[g1,g2]at this;exact this rfl
 have hmv:WN (Kv q).1 (S.map bt)=((List.range' 0 q.1.toNat).map (λv=>(SP (Eo (Kv q).1 v) (S.map bt)).1),true):=by
  unfold WN
  rw[MF.2.2,aU (h:=λv=>(SP (Eo (Kv q).1 v) (S.map bt)).1) q.1.toNat 0 (λi _ hi=>by
   unfold mvG
   rw[(hdo i (by omega)).1];rfl)]
 unfold RI
 rw[vw hv,AJ,Aj,hl,MF.2.1,Ci,AJ,hmv,AJ,LT]
 rw[Ac,AT]
 refine⟨Al.2 λb _=>?_,CG.2 λv hvn=>?_⟩
 ·show(IE (bt b)&&decide (0<=(bt b).1))=true
  rw[(od b).1,Ah (od b).2];rfl
 ·simp only[Aj,I3,AL]at hvn
  unfold dk
  rw[hmv]
  have e1:atR ((List.range' 0 q.1.toNat).map λv=>(SP (Eo (Kv q).1 v) (S.map bt)).1) v=(SP (Eo (Kv q).1 v) (S.map bt)).1:=by
   rw[<-MD (by rw[Aj,I3];exact hvn),BJ,D0];simp
  have e2:atR (Kv q).2.1 v=(1,1):=by
   rw[<-MD (by rw[MF.1];exact hvn)]
   unfold Kv
   simp
  simp only
  rw[e1,e2,(hdo v hvn).2];simp
theorem oY(hv:KP q=true):NN (Kv q)≠[]:=by
 obtain⟨h1,h2,h3,h4⟩:=NC hv
 unfold NN
 rw[vw hv,Ab]
 unfold nr
 rw[MF.1,MF.2.1]
 obtain⟨S,hl,hc,hmin⟩:=Yy (P:=Cov q) (n:=q.2.1.length) _ (List.replicate q.2.1.length true) (AW _) (by simp) (oW hv)
 have hex:∀i,gB S i=true->∃v,v < q.1.toNat∧gB (bits q v) i=true∧∀j,gB S j=true->gB (bits q v) j=true->j=i:=λi hi=>by
  have hn:=hmin i hi
  refine BW λhcon=>hn λv hvn=>?_
  obtain⟨j,g1,g2⟩:=hc v hvn
  by_cases hji:j=i
  ·subst hji
   refine BW λhno=>hcon ⟨v,hvn,g1,λk k1 k2=>BW λhki=>hno ⟨k,k2,?_⟩⟩
   rw[oZ (al hi),AE (λh=>hki h.symm)];exact k1
  ·exact⟨j,g1,by rw[oZ (al hi),AE (λh=>hji h.symm)];exact g2⟩
 obtain⟨f,hf⟩:∃f:Nat->Nat,∀i,gB S i=true->f i < q.1.toNat∧gB (bits q (f i)) i=true∧∀j,gB S j=true->gB (bits q (f i)) j=true->j=i:=
  ⟨λi=>if h:gB S i=true then Classical.choose (hex i h)else 0,λi hi=>by
   simp only[dif_pos hi];exact Classical.choose_spec (hex i hi)⟩
 have hinj:∀i j,gB S i=true->gB S j=true->f i=f j->i=j:=λi j hi hj e=>(hf j hj).2.2 i hi (by rw[<-e];exact(hf i hi).2.1)
 have htk:∀i,i∈fA S↔gB S i=true:=λi=>by
  unfold fA
  rw[Cp,AL]
  exact⟨λh=>h.2,λh=>⟨al h,h⟩⟩
 have hVn:((fA S).map f).Nodup:=by
  unfold List.Nodup
  rw[E7]
  have:(fA S).Pairwise (· ≠ ·):=HR _ Gs
  exact List.Pairwise.imp_of_mem (λ{a b} ha hb hne e=>hne (hinj a b ((htk a).1 ha) ((htk b).1 hb) e)) this
 let vs:=(List.range q.1.toNat).filter λv=>((fA S).map f).contains v
 have hvs:∀v,v∈vs↔∃i,gB S i=true∧f i=v:=λv=>by
  show v∈(List.range q.1.toNat).filter _↔_
  rw[Cp,AL,Bk,BF]
  constructor
  ·rintro⟨_,i,hi,e⟩;exact⟨i,(htk i).1 hi,e⟩
  ·rintro⟨i,hi,e⟩;exact⟨by rw[<-e];exact(hf i hi).1,i,(htk i).2 hi,e⟩
 have hvl:vs.length=(fA S).length:=by
  have hp:vs.Perm ((fA S).map f):=(List.perm_ext_iff_of_nodup (HR _ Gs) hVn).2 λv=>by
   rw[hvs,BF]
   exact⟨λ⟨i,hi,e⟩=>⟨i,(htk i).2 hi,e⟩,λ⟨i,hi,e⟩=>⟨i,(htk i).1 hi,e⟩⟩
  rw[hp.length_eq,Aj]
 have hvlt:∀v∈vs,v < q.1.toNat:=λv hvm=>by
  obtain⟨i,hi,e⟩:=(hvs v).1 hvm
  rw[<-e];exact(hf i hi).1
 have hvasc:vs.Pairwise (· < ·):=HR _ List.pairwise_lt_range
 have hfasc:(QL S).Pairwise (· < ·):=HR _ List.pairwise_lt_range
 have hflt:∀j∈QL S,j < q.2.1.length:=λj hj=>by
  unfold QL at hj
  rw[Cp,AL]at hj
  rw[<-hl];exact hj.1
 have hlen:(vs++(QL S).map (q.1.toNat+ ·)).length=q.2.1.length:=by
  rw[Aq,Aj,hvl]
  have:=cL (λj=>gB S j) (List.range S.length)
  rw[D3]at this
  unfold fA QL
  omega
 have hasc:(vs++(QL S).map (q.1.toNat+ ·)).Pairwise (· < ·):=by
  rw[F7]
  refine⟨hvasc,?_,λv hvm e he=>?_⟩
  ·rw[E7]
   exact MI (λh=>by omega) hfasc
  ·obtain⟨j,_,rfl⟩:=BF.1 he
   have:=hvlt v hvm;omega
 have hmem:=kO (t:=q.1.toNat+q.2.1.length) (fr:=0) hasc (λe he=>by
  rcases Ak.1 he with he|he
  ·have:=hvlt e he;omega
  ·obtain⟨j,hj,rfl⟩:=BF.1 he
   have:=hflt j hj;omega)
 rw[hlen]at hmem
 have hrow:(vs++(QL S).map (q.1.toNat+ ·)).map (rowAt (Kv q))=(vs.map (bits q)).map (λr=>r.map bt)++(QL S).map (VC S.length):=by
  rw[BM,EK,EK]
  congr 1
  ·refine C5 λv hvm=>?_
   unfold rowAt
   rw[MF.1,AH (hvlt v hvm),jr (hvlt v hvm)];rfl
  ·refine C5 λj _=>?_
   simp only[Function.comp]
   unfold rowAt
   rw[MF.1,MF.2.1,AE (by omega),Cv,hl]
 have hrgt:(vs++(QL S).map (q.1.toNat+ ·)).map (FI (Kv q))=(vs.map (bits q)).map (λ_=>((1:Int),(1:Int)))++(QL S).map (λ_=>((0:Int),(1:Int))):=by
  rw[BM,EK,EK]
  congr 1
  ·refine C5 λv hvm=>?_
   unfold FI
   rw[MF.1,AH (hvlt v hvm),<-MD (by rw[MF.1];exact hvlt v hvm)]
   unfold Kv
   simp
  ·refine C5 λj _=>?_
   simp only[Function.comp]
   unfold FI
   rw[MF.1,AE (by omega)]
 have hcand:∀r∈vs.map (bits q),r∈kK S:=λr hr=>by
  obtain⟨v,hvm,rfl⟩:=BF.1 hr
  obtain⟨i,hi,e⟩:=(hvs v).1 hvm
  subst e
  unfold kK
  rw[Cp]
  refine⟨by have:=TR (bits q (f i));rwa [ZV,<-hl]at this,?_⟩
  unfold v7
  refine Dj.2 ⟨i,AL.2 (al hi),?_⟩
  rw[hi,(hf i hi).2.1,Er,AJ,Al]
  intro j _
  rw[CF,BU,AT]
  by_cases hj:j=i
  ·exact .inl hj
  ·refine .inr ?_
   cases ha:gB S j with
   |false=>rfl
   |true=>
    cases hb:gB (bits q (f i)) j with
    |false=>rfl
    |true=>exact absurd ((hf i hi).2.2 j ha hb) hj
 have hpair:(vs.map (bits q)).Pairwise (λa b=>apart S a b=true):=by
  rw[E7]
  refine List.Pairwise.imp_of_mem (λ{a b} ha hb hlt=>?_) hvasc
  obtain⟨i,hi,ei⟩:=(hvs a).1 ha
  obtain⟨j,hj,ej⟩:=(hvs b).1 hb
  unfold apart
  rw[Al]
  intro k _
  rw[AT]
  cases hk:gB S k with
  |false=>rfl
  |true=>
   cases hka:gB (bits q a) k with
   |false=>rfl
   |true=>
    cases hkb:gB (bits q b) k with
    |false=>rfl
    |true=>
     exfalso
     subst ei ej
     have e1:=(hf i hi).2.2 k hk hka
     have e2:=(hf j hj).2.2 k hk hkb
     subst e1
     subst e2
     omega
 have hgen:=gP hcand hpair
 rw[Aj,hvl]at hgen
 have hS:=(mq h3 h4).1
 unfold nH at hS
 have hS2:=Al.1 (Al.1 hS S (by have:=TR S;rwa [hl]at this)) _ hgen
 unfold wi at hS2
 rw[Ac,BU]at hS2
 refine cB (c:=vs++(QL S).map (q.1.toNat+ ·)) ?_ ?_ _ [] hmem
 ·rw[hrow,hrgt];exact hS2.1
 ·rw[hrow,hrgt,hS2.2];exact uX hv hl hc
end
def br(n:Nat)(m:Mx):Prop:=∀r∈m,r.length<=n
theorem r7{p:LP}{sg:Int}{n:Nat}{out:Mx}{c:List Nat}(hc:c.length<=n)(h:br n out):br n (visit p sg out c):=by
 unfold visit
 cases hs:(SH (c.map (rowAt p)) (c.map (FI p))).2 with
 |false=>exact h
 |true=>
  cases RI p (SH (c.map (rowAt p)) (c.map (FI p))).1 sg with
  |false=>exact h
  |true=>
   cases out.any (· ==(SH (c.map (rowAt p)) (c.map (FI p))).1)with
   |true=>exact h
   |false=>
    intro r hr
    rcases Ak.1 hr with hr|hr
    ·exact h r hr
    ·rw[A7]at hr
     subst hr
     rw[mg (a:=c.map (rowAt p)) (b:=c.map (FI p)) (x:=(SH (c.map (rowAt p)) (c.map (FI p))).1) (by rw[<-hs]),Aj]
     exact hc
theorem k8{p:LP}{sg:Int}{n:Nat}:∀(l:List (List Nat)) (out:Mx),(∀c∈l,c.length<=n)->br n out->br n (l.foldl (visit p sg) out)
 |[],_,_,h=>h
 |c::l,out,hl,h=>k8 l _ (λd hd=>hl d (AZ _ hd)) (r7 (hl c BK) h)
theorem oX(p:LP):br 5 (NN p)∧(NN p).length<=161051:=by
 unfold NN
 cases hv:R1 p with
 |false=>exact⟨λr hr=>by simp at hr,by simp⟩
 |true=>
  obtain⟨h1,h2,h3,h4,h5,h6⟩:=Oc hv
  rw[Ab]
  unfold nr
  refine⟨k8 _ [] (λc hc=>by rw[(Xr hc).1];exact h2) (λr hr=>by simp at hr),?_⟩
  have h7:=XE (f:=visit p 1) (λs x=>Yq p 1 s x) (PN (p.2.1.length+p.2.2.length) p.2.2.length 0) []
  have h8:=UL (t:=p.2.1.length+p.2.2.length) (by omega) p.2.2.length 0
  have h9:=lZ h2
  refine BC h7 ?_
  simp only[BY,B6]
  omega
def nbS(s:List Int)(l:Mx)(b:Nat×List Rt)(k:Nat):Nat×List Rt:=cond (decide ((agB s (Eo l k) b.2).1 < 0)) (k,Eo l k) b
def nbB(s:List Int)(l:Mx):Nat×List Rt:=(List.range' 1 (l.length - 1)).foldl (nbS s l) (0,Eo l 0)
def bcB(q:MQ)(s:List Int):List Rt×Bool:=cond (KP q) (cond ((s.length:Int)!=(q.2.1.length:Int)) ([],false) (cond (s.all λe=>G9 e 0 16) ((nbB s (NN (Kv q))).2,true) ([],false))) ([],false)
def NbI(l:Mx)(b:Nat×List Rt):Prop:=b.1 < l.length∧Eo l b.1=b.2
theorem j1{s:List Int}{l:Mx}{b:Nat×List Rt}{k:Nat}(h:NbI l b)(hk:k < l.length):NbI l (nbS s l b k):=by
 unfold nbS
 cases decide ((agB s (Eo l k) b.2).1 < 0)with
 |true=>exact⟨hk,rfl⟩
 |false=>exact h
theorem lR{s:List Int}{l:Mx}:∀(ks:List Nat) (b:Nat×List Rt),(∀k∈ks,k < l.length)->NbI l b->NbI l (ks.foldl (nbS s l) b)
 |[],_,_,h=>h
 |k::ks,b,hk,h=>lR ks _ (λj hj=>hk j (AZ _ hj)) (j1 h (hk k BK))
theorem j0{s:List Int}{l:Mx}(h:l≠[]):NbI l (nbB s l):=by
 have hp:0 < l.length:=La.2 h
 exact lR _ _ (λk hk=>by rw[MK]at hk;omega) ⟨hp,rfl⟩
theorem lV{l:Mx}{b:Nat×List Rt}(h:NbI l b):okJ l [Sum.inl b] []=true:=by
 unfold okJ
 rw[Ad h.1]
 simp only
 rw[HJ h.1,h.2,Ci]
 rfl
section
variable {q:MQ}{s:List Int}
theorem AeI(hq:Vz q)(hs:s.length<=lim):Oy q s=some (bcB q s):=by
 unfold Oy bcB
 rw[AeK hq]
 simp only[G]
 unfold cpB
 cases hv:KP q with
 |false=>rfl
 |true=>
  obtain⟨h1,h2,h3,h4⟩:=NC hv
  simp only[Ab,Ai,Aa]
  cases hl:((s.length:Int)!=(q.2.1.length:Int))with
  |true=>rfl
  |false=>
   rw[Aa,Aa,Ha (n:=s.length) (λk=>Jz s k λe=> !G9 e 0 16) (([]:List Rt),false) hs (λk hk rec=>by
    show cond (decide ((k:Int) < (s.length:Int))) _ _=_
    rw[Bl hk,Ab,AK hk,CD hk]
    simp only[G]
    rw[Lc]
    simp only[G]
    rw[Bn hk (Bd hs)]) (λrec=>by
    show cond (decide ((s.length:Int) < (s.length:Int))) _ _=_
    rw[Bh];rfl)]
   rw[TT,not_any]
   cases ha:s.all (λe=>G9 e 0 16)with
   |false=>rfl
   |true=>
    have hI:∀e∈s,e<=9223372036854775807:=λe he=>by
     have:=Al.1 ha e he
     rw[JE]at this;omega
    have hne:=oY hv
    have hp:0 < (NN (Kv q)).length:=La.2 hne
    obtain⟨f1,f2⟩:=oX (Kv q)
    have hrl:∀k,k < (NN (Kv q)).length->(Eo (NN (Kv q)) k).length<=lim:=λk hk=>by
     rw[<-HJ hk]
     have:=f1 _ (Ag hk);unfold lim;omega
    simp only[Ai,Aa,G]
    rw[AeM (vy hv)]
    simp only
    rw[show(0:Int)=((0:Nat):Int)from rfl,Se hp]
    simp only
    have hloop:=SB (B:=Oz s (NN (Kv q))) (n:=(NN (Kv q)).length) (O:=Unit) (λ(b:Nat×List Rt) k=>(b,(k:Int))) (λ_ b=>NbI (NN (Kv q)) b) (λk b=>.inl (nbS s (NN (Kv q)) b k)) (λo=>match o with|.inl b=>b|.inr _=>(0,[])) (λrec k b hk hi=>by
     show cond (decide ((k:Int) < ((CV 0 (NN (Kv q))).length:Int))) _ _=_
     rw[OZ,Bl hk,Ab,Se hk]
     simp only[G]
     rw[Adw hs hI (hrl k hk) (by rw[<-hi.2];exact hrl _ hi.1)]
     simp only[G]
     unfold nbS
     cases decide ((agB s (Eo (NN (Kv q)) k) b.2).1 < 0)with
     |true=>rw[Ab];unfold I8;rw[Bn hk (by unfold maxLen;omega)];rfl
     |false=>rw[Aa];unfold I8;rw[Bn hk (by unfold maxLen;omega)];rfl) (λrec b hi=>by
     show cond (decide (((NN (Kv q)).length:Int) < ((CV 0 (NN (Kv q))).length:Int))) _ _=_
     rw[OZ,Bh];rfl) (λk b b' hk hi hb=>by cases hb;exact j1 hi hk) ((NN (Kv q)).length - 1) 1 (0,Eo (NN (Kv q)) 0) fz (by omega) (by unfold fz;omega) ⟨hp,rfl⟩
    rw[show(1:Int)=((1:Nat):Int)from rfl,hloop,Q9 (nbS s (NN (Kv q)))]
    simp only
    rw[show(List.range' 1 ((NN (Kv q)).length - 1)).foldl (nbS s (NN (Kv q))) (0,Eo (NN (Kv q)) 0)=nbB s (NN (Kv q))from rfl,AN (lV (j0 hne))]
    rfl
theorem Acd(hq:Vz q)(hs:s.length<=lim):NS q s=some (bcB q s):=by
 unfold NS bcB
 rw[Wp hq]
 simp only[G]
 cases hv:KP q with
 |false=>rfl
 |true=>
  obtain⟨h1,h2,h3,h4⟩:=NC hv
  simp only[Ab,Ai,Aa]
  cases hl:((s.length:Int)!=(q.2.1.length:Int))with
  |true=>rfl
  |false=>
   rw[Aa,Aa,Ha (n:=s.length) (λk=>Jz s k λe=> !G9 e 0 16) (([]:List Rt),false) hs (λk hk rec=>by
    show cond (decide ((k:Int) < (s.length:Int))) _ _=_
    rw[Bl hk,Ab,AK hk,CD hk]
    simp only[G]
    rw[Hx]
    simp only[G]
    rw[Bn hk (Bd hs)]) (λrec=>by
    show cond (decide ((s.length:Int) < (s.length:Int))) _ _=_
    rw[Bh];rfl)]
   rw[TT,not_any]
   cases ha:s.all (λe=>G9 e 0 16)with
   |false=>rfl
   |true=>
    have hI:∀e∈s,e<=9223372036854775807:=λe he=>by
     have:=Al.1 ha e he
     rw[JE]at this;omega
    have hne:=oY hv
    have hp:0 < (NN (Kv q)).length:=La.2 hne
    obtain⟨f1,f2⟩:=oX (Kv q)
    have hrl:∀k,k < (NN (Kv q)).length->(Eo (NN (Kv q)) k).length<=lim:=λk hk=>by
     rw[<-HJ hk]
     have:=f1 _ (Ag hk);unfold lim;omega
    simp only[Ai,Aa,G]
    rw[Aem hq]
    unfold cpB
    rw[hv,Ab]
    simp only
    rw[Aeo (vy hv)]
    simp only
    rw[show(((NN (Kv q)).length:Int)==0)=false from by rw[Bw];omega,Aa,show AI (CV 0 (NN (Kv q))) 0=some (0,Eo (NN (Kv q)) 0)from Se hp]
    simp only
    have hel:(CV 0 (NN (Kv q))).length=(NN (Kv q)).length:=OZ _ _
    rw[AN (by rw[hel];omega)]
    have hsl:CC (CV 0 (NN (Kv q))) 1 ((CV 0 (NN (Kv q))).length:Int)=(CV 0 (NN (Kv q))).drop 1:=by
     unfold CC;rw[As,By];rfl
    have hloop:=Ez (B:=NT s (NN (Kv q))) (n:=(NN (Kv q)).length - 1) (O:=Unit) (λ(b:Nat×List Rt) k=>(b,(k:Int))) (λ_ b=>NbI (NN (Kv q)) b) (λk b=>.inl (nbS s (NN (Kv q)) b (k+1))) (λo=>match o with|.inl b=>b|.inr _=>(0,[])) (by unfold lim;omega) (λrec k b hk hi=>by
     show cond (decide ((k:Int) < ((CC (CV 0 (NN (Kv q))) 1 ((CV 0 (NN (Kv q))).length:Int)).length:Int))) _ _=_
     rw[hsl,A6,hel,Bl hk,Ab,show AI ((CV 0 (NN (Kv q))).drop 1) (k:Int)=some (k+1,Eo (NN (Kv q)) (k+1))from by
      rw[F0,Cz,UR,Og 1 k,Ad (by omega),HJ (by omega),BR,B6]]
     simp only[G]
     rw[Ab8 hs hI (hrl (k+1) (by omega)) (by rw[<-hi.2];exact hrl _ hi.1)]
     simp only[G]
     rw[<-sq]
     unfold nbS
     cases decide ((agB s (Eo (NN (Kv q)) (k+1)) b.2).1 < 0)with
     |true=>rw[Ab];unfold IR;rw[Bn hk (by unfold maxLen;omega)];rfl
     |false=>rw[Aa];unfold IR;rw[Bn hk (by unfold maxLen;omega)];rfl) (λrec b hi=>by
     show cond (decide ((((NN (Kv q)).length - 1:Nat):Int) < ((CC (CV 0 (NN (Kv q))) 1 ((CV 0 (NN (Kv q))).length:Int)).length:Int))) _ _=_
     rw[hsl,A6,hel,Bh];rfl) (λk b b' hk hi hb=>by cases hb;exact j1 hi (by omega)) (0,Eo (NN (Kv q)) 0) ⟨hp,rfl⟩
    rw[show((0:Nat):Int)=0 from rfl]at hloop
    rw[hloop,Q9 (λb k=>nbS s (NN (Kv q)) b (k+1))]
    simp only
    have hfold:(List.range' 0 ((NN (Kv q)).length - 1)).foldl (λb k=>nbS s (NN (Kv q)) b (k+1)) (0,Eo (NN (Kv q)) 0)=nbB s (NN (Kv q)):=by
     unfold nbB
     have:List.range' 1 ((NN (Kv q)).length - 1)=(List.range' 0 ((NN (Kv q)).length - 1)).map (· +1):=by
      apply Ej
      ·simp
      ·intro i h1 h2
       rw[BJ,D0,D0];omega
     rw[this,List.foldl_map]
    rw[hfold,AN (lV (j0 hne))]
    rfl
theorem wK(q:MQ)(s:List Int):(bcB q s).1.length<=5:=by
 unfold bcB
 cases hv:KP q with
 |false=>simp
 |true=>
  cases((s.length:Int)!=(q.2.1.length:Int))with
  |true=>simp
  |false=>
   cases s.all (λe=>G9 e 0 16)with
   |false=>simp
   |true=>
    simp only[Ab,Aa]
    have h:=j0 (s:=s) (oY hv)
    rw[<-h.2,<-HJ h.1]
    exact(oX (Kv q)).1 _ (Ag h.1)
end
end Go.Proofs.YtaagdgjndpgdgaaGreatDoor
