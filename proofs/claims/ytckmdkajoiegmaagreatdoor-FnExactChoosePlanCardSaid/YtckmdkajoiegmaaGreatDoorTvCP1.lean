/-
 Loops that go round by round, with a state, and may leave: plain laws. No conditions.
-/
import Derived.Test.YtckmdkajoiegmaaGreatDoorNkCP1
open Go.RowKit
set_option linter.unusedVariables false
set_option linter.unusedSimpArgs false
namespace Go.Proofs.YtckmdkajoiegmaaGreatDoor
def Mi{S O:Type}(st:Nat->S->Sum S O):Nat->Nat->S->Sum S O
 |0,_,s=>.inl s
 |j+1,k,s=>match st k s with
  |.inl s'=>Mi st j (k+1) s'
  |.inr o=>.inr o
theorem SG{S T O R:Type}{B:(T->Option R)->T->Option R}{n:Nat}(at_:S->Nat->T)(Inv:Nat->S->Prop)(st:Nat->S->Sum S O)(fin:Sum S O->R)
  (h1:∀rec k s,k < n->Inv k s->B rec (at_ s k)=match st k s with|.inl s'=>rec (at_ s' (k+1))|.inr o=>some (fin (.inr o)))
  (h2:∀rec s,Inv n s->B rec (at_ s n)=some (fin (.inl s)))
  (h3:∀k s s',k < n->Inv k s->st k s=.inl s'->Inv (k+1) s'):∀(j k:Nat) (s:S) (f:Nat),k+j=n->j < f->Inv k s->Aq B f (at_ s k)=some (fin (Mi st j k s))
 |0,k,s,f,hk,hf,hi=>by
  obtain⟨f,rfl⟩:∃g,f=g+1:=⟨f - 1,by omega⟩
  obtain rfl:k=n:=by omega
  rw[BH,h2 _ s hi];rfl
 |j+1,k,s,f,hk,hf,hi=>by
  obtain⟨f,rfl⟩:∃g,f=g+1:=⟨f - 1,by omega⟩
  rw[BH,h1 _ k s (by omega) hi,Mi]
  cases hs:st k s with
  |inl s'=>exact SG at_ Inv st fin h1 h2 h3 j (k+1) s' f (by omega) (by omega) (h3 k s s' (by omega) hi hs)
  |inr o=>rfl
theorem Ex{S T O R:Type}{B:(T->Option R)->T->Option R}{n:Nat}(at_:S->Nat->T)(Inv:Nat->S->Prop)(st:Nat->S->Sum S O)(fin:Sum S O->R)(hn:n<=lim)
  (h1:∀rec k s,k < n->Inv k s->B rec (at_ s k)=match st k s with|.inl s'=>rec (at_ s' (k+1))|.inr o=>some (fin (.inr o)))
  (h2:∀rec s,Inv n s->B rec (at_ s n)=some (fin (.inl s)))
  (h3:∀k s s',k < n->Inv k s->st k s=.inl s'->Inv (k+1) s') (s:S) (hi:Inv 0 s):Aq B fz (at_ s 0)=some (fin (Mi st n 0 s)):=
 SG at_ Inv st fin h1 h2 h3 n 0 s fz (by omega) (CR hn) hi
theorem X0{α O:Type}(g:Nat->α):∀(j k:Nat) (s:List α),Mi (O:=O) (λk s=>.inl (s++[g k])) j k s=.inl (s++(List.range' k j).map g)
 |0,k,s=>by rw[Mi];simp
 |j+1,k,s=>by rw[Mi];simp only;rw[X0 g j (k+1),CX,AK,Bd];rfl
def MH{α O:Type}(g:Nat->Sum α O):Nat->Nat->Sum (List α) O
 |0,_=>.inl []
 |j+1,k=>match g k with
  |.inr o=>.inr o
  |.inl x=>match MH g j (k+1)with
   |.inl l=>.inl (x::l)
   |.inr o=>.inr o
def a8{α O:Type}(s:List α):Sum α O->Sum (List α) O
 |.inl x=>.inl (s++[x])
 |.inr o=>.inr o
theorem O8{α O:Type}(g:Nat->Sum α O):∀(j k:Nat) (s:List α),Mi (λk s=>a8 s (g k)) j k s=(match MH g j k with|.inl l=>.inl (s++l)|.inr o=>.inr o)
 |0,k,s=>by rw[Mi,MH];simp
 |j+1,k,s=>by
  rw[Mi,MH]
  cases hg:g k with
  |inr o=>rfl
  |inl x=>
   rw[show a8 (O:=O) s (.inl x)=.inl (s++[x])from rfl]
   simp only
   rw[O8 g j (k+1)]
   cases MH g j (k+1)with
   |inr o=>rfl
   |inl l=>simp only[Bd,Gr]
theorem Ud{α O:Type}{g:Nat->Sum α O}:∀{j k:Nat}{l:List α},MH g j k=.inl l->l.length=j
 |0,_,_,h=>by cases h;rfl
 |j+1,k,l,h=>by
  rw[MH]at h
  cases hg:g k with
  |inr o=>rw[hg]at h;cases h
  |inl x=>
   rw[hg]at h
   cases hm:MH g j (k+1)with
   |inr o=>simp only[hm]at h;cases h
   |inl l'=>simp only[hm]at h;cases h;rw[AL,Ud hm]
theorem dM{α:Type}(l:List α)(j:Nat)(J:List Nat):Hq l (j::J)=(l[j]?).toList++Hq l J:=by rw[Hq,Ay];rfl
theorem Ze{α:Type}[Inhabited α](l:List α):∀{J:List Nat},(∀j∈J,j < l.length)->Hq l J=J.map λj=>l.getD j default
 |[],_=>rfl
 |j::J,h=>by
  have hj:=h j BK
  rw[dM,Ze l λi hi=>h i (AQ _ hi),AK,Ae hj,At,Ae hj];rfl
theorem kV{n:Nat}:∀{J seen:List Nat},J.Nodup->(∀j∈J,j < n∧j∉seen)->Y2 n J seen=true
 |[],_,_,_=>rfl
 |j::J,seen,hn,h=>by
  obtain⟨h1,h2⟩:=Bx.1 hn
  obtain⟨h3,h4⟩:=h j BK
  rw[Y2,Ab,Ab,AD]
  refine⟨⟨by rw[Nat.blt_eq];exact h3,?_⟩,kV h2 λi hi=>⟨(h i (AQ _ hi)).1,λhm=>?_⟩⟩
  ·cases hc:seen.contains j with
   |false=>rfl
   |true=>exact absurd (Av.1 hc) h4
  ·rcases AO.1 hm with rfl|hm
   ·exact h1 hi
   ·exact(h i (AQ _ hi)).2 hm
def sw(p k i:Nat):Nat:=if i=p then k else if i=k then p else i
theorem uE{p k i j:Nat}(h:sw p k i=sw p k j):i=j:=by
 unfold sw at h
 split at h<;>split at h<;>(try split at h)<;>(try split at h)<;>omega
theorem oR{n p k:Nat}(hp:p < n)(hk:k < n):((List.range n).set k p).set p k=(List.range n).map (sw p k):=by
 apply Eu
 ·simp
 ·intro i h1 h2
  simp only[B5,BS]at h1
  rw[Ev,BU,D1]
  unfold sw
  by_cases e:p=i
  ·subst e;simp
  ·rw[AN e,AN (λh=>e h.symm),Ev]
   by_cases e2:k=i
   ·subst e2;simp
   ·rw[AN e2,AN (λh=>e2 h.symm),D1]
theorem l8{n p k:Nat}(hp:p < n)(hk:k < n):((List.range n).set p k).set k p=(List.range n).map (sw p k):=by
 apply Eu
 ·simp
 ·intro i h1 h2
  simp only[B5,BS]at h1
  rw[Ev,BU,D1]
  unfold sw
  by_cases e:k=i
  ·subst e
   rw[AJ rfl]
   split
   ·rename_i h;exact h.symm
   ·rw[AJ rfl]
  ·rw[AN e,Ev]
   by_cases e2:p=i
   ·subst e2;simp
   ·rw[AN e2,AN (λh=>e2 h.symm),AN (λh=>e h.symm),D1]
theorem qf{n p k i:Nat}(hp:p < n)(hk:k < n)(hi:i < n):sw p k i < n:=by unfold sw;split;exact hk;split;exact hp;exact hi
theorem qh{n p k:Nat}(hp:p < n)(hk:k < n):Y2 n ((List.range n).map (sw p k)) []=true:=by
 refine kV ?_ λj hj=>?_
 ·unfold List.Nodup
  rw[ES]
  exact GE (λh e=>h (uE e)) (show(List.range n).Pairwise (· ≠ ·)from Fd)
 ·obtain⟨i,hi,rfl⟩:=Bw.1 hj
  exact⟨qf hp hk (Al.1 hi),by simp⟩
def swL{α:Type}[Inhabited α](m:List α)(p k:Nat):List α:=(m.set k (m.getD p default)).set p (m.getD k default)
theorem l7{α:Type}[Inhabited α]{m:List α}{p k:Nat}(hp:p < m.length)(hk:k < m.length):Hq m ((List.range m.length).map (sw p k))=swL m p k:=by
 rw[Ze m λj hj=>by obtain⟨i,hi,rfl⟩:=Bw.1 hj;exact qf hp hk (Al.1 hi),Ew]
 unfold swL
 apply Eu
 ·simp
 ·intro i h1 h2
  simp only[Ar,BS]at h1
  rw[BU,D1,Ev]
  simp only[Function.comp]
  unfold sw
  by_cases e:p=i
  ·subst e;simp
  ·rw[AN e,AN (λh=>e h.symm),Ev]
   by_cases e2:k=i
   ·subst e2;simp
   ·rw[AN e2,AN (λh=>e2 h.symm),At,Ae h1];rfl
theorem oQ{α:Type}[Inhabited α](m:List α)(p k:Nat):(swL m p k).length=m.length:=by unfold swL;simp
abbrev Mx:=List (List Rt)
def atR(l:List Rt)(k:Nat):Rt:=l.getD k (0,0)
def EA(m:Mx)(k:Nat):List Rt:=m.getD k []
def rowOk(n:Nat)(r:List Rt):Bool:=(r.length==n)&&r.all HB
def Uy(a:Mx)(b:List Rt):Bool:=(a.length==b.length)&&(a.all (rowOk b.length)&&b.all HB)
def elF(f:Rt):List Rt->List Rt->Option (List Rt)
 |x::xs,y::ys=>cond ((HK f y).2&&(Qr x (HK f y).1).2) ((elF f xs ys).map ((Qr x (HK f y).1).1:: ·)) none
 |_,_=>some []
def VJ(p:Nat)(row piv:List Rt):Option (List Rt):=cond (Pt (atR row p) (atR piv p)).2 ((elF (Pt (atR row p) (atR piv p)).1 (row.drop p) (piv.drop p)).map (row.take p++ ·)) none
def Zq(p:Nat)(m:Mx)(i:Nat):Option Mx:=cond (i==p) (some m) (cond ((atR (EA m i) p).1==0) (some m) ((VJ p (EA m i) (EA m p)).map (m.set i ·)))
def PH(p:Nat):Nat->Nat->Mx->Option Mx
 |0,_,m=>some m
 |j+1,i,m=>match Zq p m i with
  |none=>none
  |some m'=>PH p j (i+1) m'
def Oo(m:Mx)(p:Nat):Nat->Nat->Nat
 |0,k=>k
 |j+1,k=>cond ((atR (EA m k) p).1==0) (Oo m p j (k+1)) k
def NR(n:Nat):Nat->Nat->Mx->Option Mx
 |0,_,m=>some m
 |j+1,p,m=>cond (Oo m p (n - p) p==n) none (match PH p n 0 (swL m p (Oo m p (n - p) p))with
  |none=>none
  |some m'=>NR n j (p+1) m')
def Ri(n:Nat)(m:Mx)(p:Nat):Sum Rt (List Rt×Bool):=cond (Pt (atR (EA m p) n) (atR (EA m p) p)).2 (.inl (Pt (atR (EA m p) n) (atR (EA m p) p)).1) (.inr ([],false))
def TJ(a:Mx)(b:List Rt):Mx:=(List.range' 0 b.length).map λk=>EA a k++[atR b k]
def Qy(a:Mx)(b:List Rt):List Rt×Bool:=cond (decide (6 < (b.length:Int))) ([],false) (cond (Uy a b) (match NR b.length b.length 0 (TJ a b)with
 |none=>([],false)
 |some m=>match MH (Ri b.length m) b.length 0 with
  |.inl x=>(x,true)
  |.inr o=>o) ([],false))
theorem ov(n d:Int):(rNew n d).1.1.natAbs<=1000000000:=by
 have hr:∀n d:Int,(aC n d).1.1.natAbs<=1000000000:=λn d=>by
  unfold aC
  cases h:HB (n.tdiv (Nat.gcd n.natAbs d.natAbs:Nat),d.tdiv (Nat.gcd n.natAbs d.natAbs:Nat))with
  |false=>simp
  |true=>exact(G9 h).2.2.1
 unfold rNew
 cases d==0 with
 |true=>simp
 |false=>
  cases JP n (-4000000000000000000) 4000000000000000000 with
  |false=>simp
  |true=>
   cases JP d (-4000000000000000000) 4000000000000000000 with
   |false=>simp
   |true=>
    cases decide (d < 0)with
    |true=>exact hr _ _
    |false=>exact hr _ _
theorem ot(a b:Rt): -9223372036854775808<=(HK a b).1.1∧(HK a b).1.1<=9223372036854775807:=by
 have h:(HK a b).1.1.natAbs<=1000000000:=by
  unfold HK
  cases HB a with
  |false=>simp
  |true=>
   cases HB b with
   |false=>simp
   |true=>exact ov _ _
 omega
theorem WP{α:Type}(f:α->Bool):∀l:List α,Cw l (λ_ e=>f e)=l.any f
 |[]=>rfl
 |x::l=>by rw[be,WP f l,E8]
theorem UI{α:Type}(l:List α)(f:α->Bool):((List.range l.length).any λk=>Mf l k f)=l.any f:=WP f l
theorem not_any{α:Type}(l:List α)(f:α->Bool):(l.any λx=> !f x)= !l.all f:=by
 rw[List.not_all_eq_any_not]
theorem JH{l:List Rt}{k:Nat}(h:k < l.length):l[k]=atR l k:=by unfold atR;rw[At,Ae h];rfl
theorem I6{m:Mx}{k:Nat}(h:k < m.length):m[k]=EA m k:=by unfold EA;rw[At,Ae h];rfl
theorem Eg{l:List Rt}{k:Nat}(h:k < l.length):A4 l (k:Int)=some (atR l k):=by rw[BL h,JH h]
theorem Hd{m:Mx}{k:Nat}(h:k < m.length):A4 m (k:Int)=some (EA m k):=by rw[BL h,I6 h]
theorem yf{a:Mx}{i:Nat}(hi:i < a.length)(hl:(EA a i).length<=lim):Aq (PK a ((EA a i).length:Int) (i:Int)) fz 0=some (cond ((EA a i).all HB) (.inl ()) (.inr false)):=by
 rw[G6 (n:=(EA a i).length) (λk=>Mf (EA a i) k λr=> !HB r) false hl (λk hk rec=>by
  show cond (decide ((k:Int) < ((EA a i).length:Int))) _ _=_
  rw[BC hk,Ac,Hd hi]
  simp only[Aa]
  rw[BL hk]
  simp only[Aa]
  rw[Qu]
  simp only[Aa]
  rw[BQ hk (Bo hl),DH hk]) (λrec=>by
  show cond (decide (((EA a i).length:Int) < ((EA a i).length:Int))) _ _=_
  rw[Bl,Ad])]
 rw[UI,not_any]
 cases(EA a i).all HB<;>rfl
theorem oG{a:Mx}{m:Nat}(ha:a.length<=lim)(hm:m<=lim)(n:Int):Ht a n (m:Int)=some (a.all (rowOk m)&&((a.length:Int)==n)):=by
 unfold Ht
 rw[G6 (n:=a.length) (λk=>Mf a k λr=> !rowOk m r) false ha (λk hk rec=>by
  show cond (decide ((k:Int) < (a.length:Int))) _ _=_
  rw[BC hk,Ac,Hd hk,DH hk,I6 hk]
  simp only[Aa]
  unfold rowOk
  by_cases hl:(EA a k).length=m
  ·subst hl
   rw[yf hk hm,BQ hk (Bo ha),C1,Ad,BP,AC]
   cases(EA a k).all HB<;>rfl
  ·rw[show(((EA a k).length:Int)!=(m:Int))=true from by rw[Cl];omega,Ac,show((EA a k).length==m)=false from by simpa using hl]
   rfl) (λrec=>by
  show cond (decide ((a.length:Int) < (a.length:Int))) _ _=_
  rw[Bl,Ad])]
 rw[UI,not_any]
 cases a.all (rowOk m)<;>rfl
theorem Vb{r:List Rt}(h:r.length<=lim):F0 r=some (r.all HB):=by
 unfold F0
 rw[G6 (n:=r.length) (λk=>Mf r k λe=> !HB e) false h (λk hk rec=>by
  show cond (decide ((k:Int) < (r.length:Int))) _ _=_
  rw[BC hk,Ac,BL hk]
  simp only[Aa]
  rw[fh]
  simp only[Aa]
  rw[BQ hk (Bo h),DH hk]) (λrec=>by
  show cond (decide ((r.length:Int) < (r.length:Int))) _ _=_
  rw[Bl,Ad])]
 rw[UI,not_any]
 cases r.all HB<;>rfl
theorem WB{row:List Rt}{k:Nat}(h:k < row.length)(y:Rt):(row.set k y).drop (k+1)=row.drop (k+1)∧(row.set k y).take (k+1)=row.take k++[y]:=by
 constructor
 ·rw[List.drop_set_of_lt (Ho k)]
 ·rw[List.take_set,Au h,Gq _ _ (by rw[Bk];omega),Bk,CT (Df h),Ge];rfl
theorem ZE{m:Mx}{i j:Nat}(r:List Rt)(h:i < m.length):EA (m.set i r) j=if i=j then r else EA m j:=by
 unfold EA
 rw[At,DM,At]
 split
 ·first|rfl|(rename_i e;subst e;rw[AJ h];rfl)
 ·rfl
theorem lQ{p i:Nat}{d:Rt×Bool}{piv:List Rt}:∀(j k:Nat) (m:Mx) (f:Nat),k+j=(EA m i).length->j < f->(EA m i).length<=lim->i < m.length->p < m.length->i≠p->EA m p=piv->piv.length=(EA m i).length->
  (∀t,elF d.1 ((EA m i).drop k) (piv.drop k)=some t->Aq (Ez (p:Int) (i:Int) d) f (m,true,(k:Int))=some (m.set i ((EA m i).take k++t),true))∧
  (elF d.1 ((EA m i).drop k) (piv.drop k)=none->∃g,Aq (Ez (p:Int) (i:Int) d) f (m,true,(k:Int))=some (g,false))
 |0,k,m,f,hk,hf,hl,hi,hp,hne,hv,hvl=>by
  obtain⟨f,rfl⟩:∃g,f=g+1:=⟨f - 1,by omega⟩
  obtain rfl:k=(EA m i).length:=by omega
  rw[Hl,<-hvl,Hl]
  refine⟨λt ht=>?_,λh=>by cases h⟩
  cases ht
  rw[BH]
  show Aa (A4 m (i:Int)) _=_
  rw[Hd hi]
  simp only[Aa]
  rw[hvl,Bl,Ad,A5,Bm]
  congr 2
  rw[<-I6 hi,List.set_getElem_self]
 |j+1,k,m,f,hk,hf,hl,hi,hp,hne,hv,hvl=>by
  obtain⟨f,rfl⟩:∃g,f=g+1:=⟨f - 1,by omega⟩
  have hk1:k < (EA m i).length:=by omega
  have hk2:k < piv.length:=by omega
  have hm1:∀y,EA (m.set i ((EA m i).set k y)) i=(EA m i).set k y:=λy=>by rw[ZE _ hi,AJ rfl]
  have hmp:∀y,EA (m.set i ((EA m i).set k y)) p=piv:=λy=>by rw[ZE _ hi,AN hne,hv]
  rw[Bz hk1,Bz hk2,elF,JH hk1,JH hk2]
  have hstep:Aq (Ez (p:Int) (i:Int) d) (f+1) (m,true,(k:Int))=Aq (Ez (p:Int) (i:Int) d) f (m.set i ((EA m i).set k (Qr (atR (EA m i) k) (HK d.1 (atR piv k)).1).1),(HK d.1 (atR piv k)).2&&(Qr (atR (EA m i) k) (HK d.1 (atR piv k)).1).2,((k+1:Nat):Int)):=by
   rw[BH]
   show Aa (A4 m (i:Int)) _=_
   rw[Hd hi]
   simp only[Aa]
   rw[BC hk1,Ac,Ac,Hd hp,hv]
   simp only[Aa]
   rw[Eg hk2]
   simp only[Aa]
   rw[lP]
   simp only[Aa]
   rw[Eg hk1]
   simp only[Aa]
   rw[ux]
   simp only[Aa]
   have hJ:∀x,Jx (Aq (Ez (p:Int) (i:Int) d) f) (i:Int) m (k:Int) (Qr (atR (EA m i) k) (HK d.1 (atR piv k)).1) x=Aq (Ez (p:Int) (i:Int) d) f (m.set i ((EA m i).set k (Qr (atR (EA m i) k) (HK d.1 (atR piv k)).1).1),x,((k+1:Nat):Int)):=λx=>by
    unfold Jx
    rw[AZ (by omega),Hd hi]
    simp only[Aa]
    rw[AZ (by omega),Eg hk1,BQ hk1 (Bo hl)]
    simp only[Aa,Dj,Bg]
   cases(HK d.1 (atR piv k)).2 with
   |true=>rw[Ac,hJ,AC]
   |false=>rw[Ad,hJ,Bool.false_and]
  rw[hstep]
  cases hb:(HK d.1 (atR piv k)).2&&(Qr (atR (EA m i) k) (HK d.1 (atR piv k)).1).2 with
  |true=>
   rw[Ac]
   have ih:=lQ (p:=p) (i:=i) (d:=d) (piv:=piv) j (k+1) (m.set i ((EA m i).set k (Qr (atR (EA m i) k) (HK d.1 (atR piv k)).1).1)) f (by rw[hm1,B5];omega) (by omega) (by rw[hm1,B5];exact hl) (by rw[B5];exact hi) (by rw[B5];exact hp) hne (hmp _) (by rw[hm1,B5];exact hvl)
   rw[hm1,(WB hk1 _).1,(WB hk1 _).2]at ih
   refine⟨λt ht=>?_,λhn=>ih.2 (by simpa using hn)⟩
   obtain⟨t',h1,h2⟩:=BF.1 ht
   rw[ih.1 t' h1,<-h2,Bd,List.set_set];rfl
  |false=>
   rw[Ad]
   refine⟨λt ht=>(by cases ht),λ_=>?_⟩
   obtain⟨f',rfl⟩:∃g,f=g+1:=⟨f - 1,by omega⟩
   refine⟨m.set i ((EA m i).set k (Qr (atR (EA m i) k) (HK d.1 (atR piv k)).1).1),?_⟩
   rw[BH]
   show Aa (A4 (m.set i ((EA m i).set k (Qr (atR (EA m i) k) (HK d.1 (atR piv k)).1).1)) (i:Int)) _=_
   rw[Hd (by rw[B5];exact hi)]
   simp only[Aa]
   cases decide (((k+1:Nat):Int) < ((EA (m.set i ((EA m i).set k (Qr (atR (EA m i) k) (HK d.1 (atR piv k)).1).1)) i).length:Int))<;>rfl
theorem pH{d:Rt×Bool}{piv:List Rt}:∀(j k:Nat) (row:List Rt) (f:Nat),k+j=row.length->j < f->row.length<=lim->piv.length=row.length->
  (∀t,elF d.1 (row.drop k) (piv.drop k)=some t->Aq (Gl piv d) f (row,(k:Int))=some (.inl (row.take k++t)))∧
  (elF d.1 (row.drop k) (piv.drop k)=none->∃g,Aq (Gl piv d) f (row,(k:Int))=some (.inr (false,g)))
 |0,k,row,f,hk,hf,hl,hvl=>by
  obtain⟨f,rfl⟩:∃g,f=g+1:=⟨f - 1,by omega⟩
  obtain rfl:k=row.length:=by omega
  rw[Hl,<-hvl,Hl]
  refine⟨λt ht=>?_,λh=>by cases h⟩
  cases ht
  rw[BH]
  show cond (decide ((piv.length:Int) < (row.length:Int))) _ _=_
  rw[hvl,Bl,Ad,A5,Bm]
 |j+1,k,row,f,hk,hf,hl,hvl=>by
  obtain⟨f,rfl⟩:∃g,f=g+1:=⟨f - 1,by omega⟩
  have hk1:k < row.length:=by omega
  have hk2:k < piv.length:=by omega
  rw[Bz hk1,Bz hk2,elF,JH hk1,JH hk2,BH]
  have hB:Gl piv d (Aq (Gl piv d) f) (row,(k:Int))=cond (!(HK d.1 (atR piv k)).2) (some (.inr (false,row,piv))) (cond (!(Qr (atR row k) (HK d.1 (atR piv k)).1).2) (some (.inr (false,row,piv))) (Aq (Gl piv d) f (row.set k (Qr (atR row k) (HK d.1 (atR piv k)).1).1,((k+1:Nat):Int)))):=by
   show cond (decide ((k:Int) < (row.length:Int))) _ _=_
   rw[BC hk1,Ac,Eg hk2]
   simp only[Aa]
   rw[jP]
   simp only[Aa]
   rw[Eg hk1]
   simp only[Aa]
   rw[rT (ot _ _)]
   simp only[Aa]
   rw[AZ (by omega),BQ hk1 (Bo hl)]
   simp only[Dj,Bg]
  rw[hB]
  cases(HK d.1 (atR piv k)).2 with
  |false=>exact⟨λt ht=>(by cases ht),λ_=>⟨_,rfl⟩⟩
  |true=>
   rw[AC,Aj,Ad]
   cases(Qr (atR row k) (HK d.1 (atR piv k)).1).2 with
   |false=>exact⟨λt ht=>(by cases ht),λ_=>⟨_,rfl⟩⟩
   |true=>
    rw[Ac,Aj,Ad]
    have ih:=pH (d:=d) (piv:=piv) j (k+1) (row.set k (Qr (atR row k) (HK d.1 (atR piv k)).1).1) f (by rw[B5];omega) (by omega) (by rw[B5];exact hl) (by rw[B5];exact hvl)
    rw[(WB hk1 _).1,(WB hk1 _).2]at ih
    refine⟨λt ht=>?_,λhn=>ih.2 (by simpa using hn)⟩
    obtain⟨t',h1,h2⟩:=BF.1 ht
    rw[ih.1 t' h1,<-h2,Bd];rfl
theorem rP{row piv:List Rt}{p:Nat}(hl:row.length<=lim)(hvl:piv.length=row.length)(hp:p < row.length):(∀t,VJ p row piv=some t->Ko row piv (p:Int)=some (true,t,piv))∧(VJ p row piv=none->∃g,Ko row piv (p:Int)=some (false,g)):=by
 unfold Ko VJ
 rw[Eg hp,Eg (by omega:p < piv.length)]
 simp only[Aa]
 rw[jN]
 simp only[Aa]
 cases(Pt (atR row p) (atR piv p)).2 with
 |false=>exact⟨λt ht=>(by cases ht),λ_=>⟨_,rfl⟩⟩
 |true=>
  rw[Ac,Aj,Ad]
  have h:=pH (d:=Pt (atR row p) (atR piv p)) (piv:=piv) (row.length - p) p row fz (by omega) (by have:=CR hl;omega) hl hvl
  refine⟨λt ht=>?_,λhn=>?_⟩
  ·obtain⟨t',h1,h2⟩:=BF.1 ht
   rw[h.1 t' h1,<-h2]
  ·obtain⟨g,hg⟩:=h.2 (by simpa using hn)
   exact⟨g,by rw[hg]⟩
def P5(n L:Nat)(m:Mx):Prop:=m.length=n∧∀i,i < n->(EA m i).length=L
theorem P5.set{n L i:Nat}{m:Mx}{r:List Rt}(h:P5 n L m)(hi:i < n)(hr:r.length=L):P5 n L (m.set i r):=
 ⟨by rw[B5];exact h.1,λj hj=>by
  rw[ZE _ (by rw[h.1];exact hi)]
  split
  ·exact hr
  ·exact h.2 j hj⟩
theorem ZU{f:Rt}:∀{xs ys t:List Rt},elF f xs ys=some t->xs.length=ys.length->t.length=xs.length
 |[],_,t,h,_=>by cases h;rfl
 |x::xs,[],t,h,hl=>by simp at hl
 |x::xs,y::ys,t,h,hl=>by
  rw[elF]at h
  cases hb:(HK f y).2&&(Qr x (HK f y).1).2 with
  |false=>rw[hb]at h;cases h
  |true=>
   rw[hb,Ac]at h
   obtain⟨t',h1,h2⟩:=BF.1 h
   rw[<-h2,AL,AL,ZU h1 (by simpa using hl)]
theorem YL{p:Nat}{row piv t:List Rt}(h:VJ p row piv=some t)(hl:row.length=piv.length)(hp:p<=row.length):t.length=row.length:=by
 unfold VJ at h
 cases hb:(Pt (atR row p) (atR piv p)).2 with
 |false=>rw[hb]at h;cases h
 |true=>
  rw[hb,Ac]at h
  obtain⟨t',h1,h2⟩:=BF.1 h
  have:=ZU h1 (by rw[BO,BO,hl])
  rw[<-h2,AR,Bk,this,BO]
  omega
theorem l6{n L p i:Nat}{m m':Mx}(h:P5 n L m)(hs:Zq p m i=some m')(hi:i < n)(hp:p < n)(hpl:p < L):P5 n L m':=by
 unfold Zq at hs
 cases h1:i==p with
 |true=>rw[h1]at hs;cases hs;exact h
 |false=>
  rw[h1,Ad]at hs
  cases h2:(atR (EA m i) p).1==0 with
  |true=>rw[h2]at hs;cases hs;exact h
  |false=>
   rw[h2,Ad]at hs
   obtain⟨t,h3,h4⟩:=BF.1 hs
   rw[<-h4]
   exact h.set hi (by rw[YL h3 (by rw[h.2 i hi,h.2 p hp]) (by rw[h.2 i hi];omega),h.2 i hi])
theorem Up{n L p:Nat}(hp:p < n)(hpl:p < L):∀{j i:Nat}{m m':Mx},i+j=n->P5 n L m->PH p j i m=some m'->P5 n L m'
 |0,_,_,_,_,h,hs=>by cases hs;exact h
 |j+1,i,m,m',hj,h,hs=>by
  rw[PH]at hs
  cases hr:Zq p m i with
  |none=>rw[hr]at hs;cases hs
  |some m1=>rw[hr]at hs;exact Up hp hpl (by omega) (l6 h hr (by omega) hp hpl) hs
theorem lR{p i f:Nat}{d:Rt×Bool}{m:Mx}{k:Nat}(hi:i < m.length):Aq (Ez (p:Int) (i:Int) d) (f+1) (m,false,(k:Int))=some (m,false):=by
 rw[BH]
 show Aa (A4 m (i:Int)) _=_
 rw[Hd hi]
 simp only[Aa]
 cases decide ((k:Int) < ((EA m i).length:Int))<;>rfl
theorem aF{n L p:Nat}(hp:p < n)(hpl:p < L)(hn:n<=lim)(hL:L<=lim):∀(j i:Nat) (m:Mx) (f:Nat),i+j=n->j < f->P5 n L m->
  (∀m',PH p j i m=some m'->Aq (Ea (p:Int)) f (m,(i:Int))=some (.inl m'))∧(PH p j i m=none->∃g,Aq (Ea (p:Int)) f (m,(i:Int))=some (.inr (false,g)))
 |0,i,m,f,hj,hf,h=>by
  obtain⟨f,rfl⟩:∃g,f=g+1:=⟨f - 1,by omega⟩
  obtain rfl:i=n:=by omega
  refine⟨λm' hm=>?_,λhm=>by cases hm⟩
  cases hm
  rw[BH]
  show cond (decide ((i:Int) < (m.length:Int))) _ _=_
  rw[h.1,Bl];rfl
 |j+1,i,m,f,hj,hf,h=>by
  obtain⟨f,rfl⟩:∃g,f=g+1:=⟨f - 1,by omega⟩
  have hi:i < n:=by omega
  have hiL:=h.2 i hi
  have hJ:∀x:Mx,Fb (Aq (Ea (p:Int)) f) (i:Int) x=Aq (Ea (p:Int)) f (x,((i+1:Nat):Int)):=λx=>by
   unfold Fb;rw[BQ hi (Bo hn)]
  have hq:Ea (p:Int) (Aq (Ea (p:Int)) f) (m,(i:Int))=cond (((i:Int))==(p:Int)) (Fb (Aq (Ea (p:Int)) f) (i:Int) m) (cond ((atR (EA m i) p).1==0) (Fb (Aq (Ea (p:Int)) f) (i:Int) m) (Aa (Aq (Ez (p:Int) (i:Int) (Pt (atR (EA m i) p) (atR (EA m p) p))) fz (m,(Pt (atR (EA m i) p) (atR (EA m p) p)).2,(p:Int))) λo3=>(match o3 with
    |(z25,z26)=>(cond (!z26) (some (.inr (false,z25))) (Fb (Aq (Ea (p:Int)) f) (i:Int) z25))))):=by
   show cond (decide ((i:Int) < (m.length:Int))) _ _=_
   rw[h.1,BC hi,Ac,Hd (by rw[h.1];exact hi),Hd (by rw[h.1];exact hp)]
   simp only[Aa]
   rw[Eg (by rw[hiL];exact hpl),Eg (by rw[h.2 p hp];exact hpl)]
   simp only[Aa]
   rw[lO]
  rw[BH,PH]
  unfold Zq
  have hc:((i:Int)==(p:Int))=(i==p):=by
   rw[AG,Bi,Bi];omega
  cases h1:i==p with
  |true=>
   rw[Ac]
   rw[hq,hc,h1,Ac,hJ]
   exact aF hp hpl hn hL j (i+1) m f (by omega) (by omega) h
  |false=>
   rw[Ad]
   rw[hq,hc,h1,Ad]
   cases h2:(atR (EA m i) p).1==0 with
   |true=>
    rw[Ac,Ac,hJ]
    exact aF hp hpl hn hL j (i+1) m f (by omega) (by omega) h
   |false=>
    rw[Ad,Ad]
    unfold VJ
    cases hd:(Pt (atR (EA m i) p) (atR (EA m p) p)).2 with
    |false=>
     rw[Ad,show fz=fz - 1+1 from by unfold fz;rfl,lR (by rw[h.1];exact hi)]
     exact⟨λm' hm=>(by cases hm),λ_=>⟨_,rfl⟩⟩
    |true=>
     rw[Ac]
     have hr:=lQ (p:=p) (i:=i) (d:=Pt (atR (EA m i) p) (atR (EA m p) p)) (piv:=EA m p) (L - p) p m fz (by rw[hiL];omega) (by have:=CR hL;omega) (by rw[hiL];exact hL) (by rw[h.1];exact hi) (by rw[h.1];exact hp) (by simpa using h1) rfl (by rw[h.2 p hp,hiL])
     cases he:elF (Pt (atR (EA m i) p) (atR (EA m p) p)).1 ((EA m i).drop p) ((EA m p).drop p)with
     |none=>
      obtain⟨g,hg⟩:=hr.2 he
      rw[hg]
      exact⟨λm' hm=>(by cases hm),λ_=>⟨g,rfl⟩⟩
     |some t=>
      rw[hr.1 t he]
      have ho:P5 n L (m.set i ((EA m i).take p++t)):=h.set hi (by
       rw[AR,Bk,ZU he (by rw[BO,BO,hiL,h.2 p hp]),BO,hiL];omega)
      have ih:=aF hp hpl hn hL j (i+1) _ f (by omega) (by omega) ho
      simp only[Aa,Aj,Ad,Bp,hJ]
      exact ih
theorem YQ{m:Mx}{k:Nat}(h:k < m.length):A4 (Ik 0 m) (k:Int)=some (k,EA m k):=by
 rw[RE,UV,Ae h,I6 h,Bp,CL]
theorem XH{α:Type}{m m':List α}(h:m'.length=m.length):Y2 m'.length (Im m) []=true∧Hq m' (Im m)=m':=by
 have e:Im m=Im m':=by rw[Nq,Nq,h]
 rw[e]
 exact⟨nY m',lp m'⟩
theorem Z7{b:List Rt}{L p:Nat}(hp:p < b.length)(hpl:p < L)(hn:b.length<=lim)(hL:L<=lim):∀(j i:Nat) (m:Mx) (f:Nat),i+j=b.length->j < f->P5 b.length L m->
  Aq (La b (p:Int)) f (m,(i:Int))=some (match PH p j i m with|some m'=>.inl m'|none=>.inr ([],false))
 |0,i,m,f,hj,hf,h=>by
  obtain⟨f,rfl⟩:∃g,f=g+1:=⟨f - 1,by omega⟩
  obtain rfl:i=b.length:=by omega
  rw[BH]
  show cond (decide ((b.length:Int) < (b.length:Int))) _ _=_
  rw[Bl];rfl
 |j+1,i,m,f,hj,hf,h=>by
  obtain⟨f,rfl⟩:∃g,f=g+1:=⟨f - 1,by omega⟩
  have hi:i < b.length:=by omega
  have him:i < m.length:=by rw[h.1];exact hi
  have hpm:p < m.length:=by rw[h.1];exact hp
  have hiL:=h.2 i hi
  obtain⟨hk1,hk2⟩:=XH (m:=m) (m':=m) rfl
  rw[BH,PH]
  show cond (decide ((i:Int) < (b.length:Int))) _ _=_
  rw[BC hi,Ac,BQ hi (Bo hn)]
  have hc:((i:Int)!=(p:Int))= !(i==p):=by
   rw[AG,Cl,AD,AS];omega
  rw[hc]
  unfold Zq
  cases h1:i==p with
  |true=>
   rw[Aj,Ad,AZ hk1,hk2,Ac]
   exact Z7 hp hpl hn hL j (i+1) m f (by omega) (by omega) h
  |false=>
   rw[Dn,Ac,Ad,YQ him,YQ hpm]
   simp only[Aa]
   rw[Eg (by rw[hiL];exact hpl)]
   simp only[Aa]
   rw[show((atR (EA m i) p).1 !=0)= !((atR (EA m i) p).1==0)from rfl]
   cases h2:(atR (EA m i) p).1==0 with
   |true=>
    rw[Aj,Ad,AZ hk1,hk2,Ac]
    exact Z7 hp hpl hn hL j (i+1) m f (by omega) (by omega) h
   |false=>
    have hne:i≠p:=by simpa using h1
    rw[Dn,Ac,Ad,AZ (by
     cases hb:Nat.beq i p with
     |false=>rfl
     |true=>exact absurd (CE hb) hne)]
    have hr:=rP (p:=p) (row:=EA m i) (piv:=EA m p) (by rw[hiL];exact hL) (by rw[h.2 p hp,hiL]) (by rw[hiL];exact hpl)
    cases he:VJ p (EA m i) (EA m p)with
    |none=>
     obtain⟨g,hg⟩:=hr.2 he
     rw[hg]
     simp only[Aa]
     rw[AZ (XH (by unfold Dj;simp)).1]
     rfl
    |some t=>
     rw[hr.1 t he]
     simp only[Aa]
     have e:Dj (Dj m (i:Int) t) (p:Int) (EA m p)=m.set i t:=by
      simp only[Dj,Bg]
      rw[List.set_comm _ _ hne,<-I6 hpm,List.set_getElem_self]
     rw[e]
     obtain⟨q1,q2⟩:=XH (m:=m) (m':=m.set i t) (by simp)
     rw[AZ q1,q2,Aj,Ad,Bp]
     exact Z7 hp hpl hn hL j (i+1) _ f (by omega) (by omega) (h.set hi (by rw[YL he (by rw[hiL,h.2 p hp]) (by rw[hiL];omega),hiL]))
theorem aB(m:Mx)(p:Nat):∀(j k:Nat),k<=Oo m p j k∧Oo m p j k<=k+j
 |0,k=>⟨A9 _,A9 _⟩
 |j+1,k=>by
  rw[Oo]
  cases(atR (EA m k) p).1==0 with
  |true=>rw[Ac];have:=aB m p j (k+1);omega
  |false=>rw[Ad];omega
theorem p8{b:List Rt}{L p:Nat}{m:Mx}(h:P5 b.length L m)(hpl:p < L)(hn:b.length<=lim):∀(j k f:Nat),k+j=b.length->j < f->Aq (Le b m (p:Int)) f (k:Int)=some ((Oo m p j k:Nat):Int)
 |0,k,f,hk,hf=>by
  obtain⟨f,rfl⟩:∃g,f=g+1:=⟨f - 1,by omega⟩
  obtain rfl:k=b.length:=by omega
  rw[BH]
  show cond (decide ((b.length:Int) < (b.length:Int))) _ _=_
  rw[Bl];rfl
 |j+1,k,f,hk,hf=>by
  obtain⟨f,rfl⟩:∃g,f=g+1:=⟨f - 1,by omega⟩
  have hk1:k < b.length:=by omega
  rw[BH,Oo]
  show cond (decide ((k:Int) < (b.length:Int))) _ _=_
  rw[BC hk1,Ac,Hd (by rw[h.1];exact hk1)]
  simp only[Aa]
  rw[Eg (by rw[h.2 k hk1];exact hpl)]
  simp only[Aa]
  cases(atR (EA m k) p).1==0 with
  |true=>rw[Ac,Ac,BQ hk1 (Bo hn)];exact p8 h hpl hn j (k+1) f (by omega) (by omega)
  |false=>rfl
theorem pF{b:List Rt}{L p:Nat}{m:Mx}(h:P5 b.length L m)(hpl:p < L)(hn:b.length<=lim):∀(j k f:Nat),k+j=b.length->j < f->Aq (K9 b m (p:Int)) f (k:Int)=some ((Oo m p j k:Nat):Int)
 |0,k,f,hk,hf=>by
  obtain⟨f,rfl⟩:∃g,f=g+1:=⟨f - 1,by omega⟩
  obtain rfl:k=b.length:=by omega
  rw[BH]
  show cond (decide ((b.length:Int) < (b.length:Int))) _ _=_
  rw[Bl];rfl
 |j+1,k,f,hk,hf=>by
  obtain⟨f,rfl⟩:∃g,f=g+1:=⟨f - 1,by omega⟩
  have hk1:k < b.length:=by omega
  rw[BH,Oo]
  show cond (decide ((k:Int) < (b.length:Int))) _ _=_
  rw[BC hk1,Ac,Hd (by rw[h.1];exact hk1)]
  simp only[Aa]
  rw[Eg (by rw[h.2 k hk1];exact hpl)]
  simp only[Aa]
  cases(atR (EA m k) p).1==0 with
  |true=>rw[Ac,Ac,BQ hk1 (Bo hn)];exact pF h hpl hn j (k+1) f (by omega) (by omega)
  |false=>rfl
theorem dT{n L p k:Nat}{m:Mx}(h:P5 n L m)(hp:p < n)(hk:k < n):P5 n L (swL m p k):=by
 unfold swL
 have e:∀i,m.getD i default=EA m i:=λ_=>rfl
 rw[e,e]
 exact(h.set hk (h.2 p hp)).set hp (h.2 k hk)
theorem T3{m:Mx}{k:Nat}(h:k < m.length):A4 (Im m) (k:Int)=some k:=by
 rw[Nq,RE,Cy h]
theorem U8{n:Nat}:∀{j p:Nat}{m m':Mx},p+j=n->P5 n (n+1) m->NR n j p m=some m'->P5 n (n+1) m'
 |0,_,_,_,_,h,hg=>by cases hg;exact h
 |j+1,p,m,m',hj,h,hg=>by
  rw[NR]at hg
  have hb:=aB m p (n - p) p
  cases hk:Oo m p (n - p) p==n with
  |true=>rw[hk]at hg;cases hg
  |false=>
   rw[hk,Ad]at hg
   have hk':Oo m p (n - p) p≠n:=by simpa using hk
   cases hr:PH p n 0 (swL m p (Oo m p (n - p) p))with
   |none=>rw[hr]at hg;cases hg
   |some m1=>
    rw[hr]at hg
    exact U8 (by omega) (Up (by omega) (by omega) (by omega) (dT h (by omega) (by omega)) hr) hg
theorem fP{b:List Rt}(hn:b.length<=6):∀(j p:Nat) (m:Mx) (f:Nat),p+j=b.length->j < f->P5 b.length (b.length+1) m->
  Aq (Ld b) f (m,(p:Int))=some (match NR b.length j p m with|some m'=>.inl m'|none=>.inr ([],false))
 |0,p,m,f,hj,hf,h=>by
  obtain⟨f,rfl⟩:∃g,f=g+1:=⟨f - 1,by omega⟩
  obtain rfl:p=b.length:=by omega
  rw[BH]
  show cond (decide ((b.length:Int) < (b.length:Int))) _ _=_
  rw[Bl];rfl
 |j+1,p,m,f,hj,hf,h=>by
  obtain⟨f,rfl⟩:∃g,f=g+1:=⟨f - 1,by omega⟩
  have hp:p < b.length:=by omega
  have hl:b.length<=lim:=by unfold lim;omega
  have hb:=aB m p (b.length - p) p
  rw[BH,NR]
  show cond (decide ((p:Int) < (b.length:Int))) _ _=_
  rw[BC hp,Ac,p8 h (by omega) hl (b.length - p) p fz (by omega) (by have:=CR hl;omega)]
  simp only[Aa]
  rw[show(((Oo m p (b.length - p) p:Nat):Int)==(b.length:Int))=(Oo m p (b.length - p) p==b.length)from by rw[AG,Bi,Bi];omega]
  cases hk:Oo m p (b.length - p) p==b.length with
  |true=>rfl
  |false=>
   have hk':Oo m p (b.length - p) p≠b.length:=by simpa using hk
   have hkb:Oo m p (b.length - p) p < m.length:=by rw[h.1];omega
   have hpm:p < m.length:=by rw[h.1];exact hp
   rw[Ad,Ad,T3 hkb,T3 hpm]
   simp only[Aa]
   rw[AZ (by rw[Nq,BS];omega),AZ (by rw[Nq];simp[Dj];omega)]
   have e0:Dj (Im m) ((Oo m p (b.length - p) p:Nat):Int) p=(List.range m.length).set (Oo m p (b.length - p) p) p:=by rw[Nq];simp only[Dj,Bg]
   have e1:Dj (Dj (Im m) ((Oo m p (b.length - p) p:Nat):Int) p) (p:Int) (Oo m p (b.length - p) p)=(List.range m.length).map (sw p (Oo m p (b.length - p) p)):=by
    rw[e0,<-oR hpm hkb];simp only[Dj,Bg]
   rw[e1,e0]
   have e2:A4 ((List.range m.length).set (Oo m p (b.length - p) p) p) (p:Int)=some (((List.range m.length).set (Oo m p (b.length - p) p) p)[p]'(by simp;exact hpm)):=BL _
   rw[e2]
   simp only[Aa]
   rw[AZ (qh hpm hkb),l7 hpm hkb,AZ (by rw[oQ];omega)]
   have ho:=dT h hp (show Oo m p (b.length - p) p < b.length by omega)
   have hs:=aF (L:=b.length+1) hp (by omega) hl (by unfold lim;omega) b.length 0 (swL m p (Oo m p (b.length - p) p)) fz (by omega) (CR hl) ho
   have hss:(∀m',PH p b.length 0 (swL m p (Oo m p (b.length - p) p))=some m'->MX (swL m p (Oo m p (b.length - p) p)) (p:Int)=some (true,m'))∧(PH p b.length 0 (swL m p (Oo m p (b.length - p) p))=none->∃g,MX (swL m p (Oo m p (b.length - p) p)) (p:Int)=some (false,g)):=by
    unfold MX
    refine⟨λm' hm=>?_,λhm=>?_⟩
    ·have:=hs.1 m' hm
     rw[show((0:Nat):Int)=0 from rfl]at this
     rw[this];rfl
    ·obtain⟨g,hg⟩:=hs.2 hm
     rw[show((0:Nat):Int)=0 from rfl]at hg
     exact⟨g,by rw[hg];rfl⟩
   cases hr:PH p b.length 0 (swL m p (Oo m p (b.length - p) p))with
   |none=>
    obtain⟨g,hg⟩:=hss.2 hr
    rw[hg];rfl
   |some m1=>
    rw[hss.1 m1 hr]
    simp only[Aa,Aj,Ad]
    rw[BQ hp (Bo hl)]
    exact fP hn j (p+1) m1 f (by omega) (by omega) (Up hp (by omega) (by omega) ho hr)
theorem fe{b:List Rt}(hn:b.length<=6):∀(j p:Nat) (m:Mx) (f:Nat),p+j=b.length->j < f->P5 b.length (b.length+1) m->
  Aq (K8 b) f (m,(p:Int))=some (match NR b.length j p m with|some m'=>.inl m'|none=>.inr ([],false))
 |0,p,m,f,hj,hf,h=>by
  obtain⟨f,rfl⟩:∃g,f=g+1:=⟨f - 1,by omega⟩
  obtain rfl:p=b.length:=by omega
  rw[BH]
  show cond (decide ((b.length:Int) < (b.length:Int))) _ _=_
  rw[Bl];rfl
 |j+1,p,m,f,hj,hf,h=>by
  obtain⟨f,rfl⟩:∃g,f=g+1:=⟨f - 1,by omega⟩
  have hp:p < b.length:=by omega
  have hl:b.length<=lim:=by unfold lim;omega
  have hb:=aB m p (b.length - p) p
  rw[BH,NR]
  show cond (decide ((p:Int) < (b.length:Int))) _ _=_
  rw[BC hp,Ac,pF h (by omega) hl (b.length - p) p fz (by omega) (by have:=CR hl;omega)]
  simp only[Aa]
  rw[show(((Oo m p (b.length - p) p:Nat):Int)==(b.length:Int))=(Oo m p (b.length - p) p==b.length)from by rw[AG,Bi,Bi];omega]
  cases hk:Oo m p (b.length - p) p==b.length with
  |true=>rfl
  |false=>
   have hk':Oo m p (b.length - p) p≠b.length:=by simpa using hk
   have hkb:Oo m p (b.length - p) p < m.length:=by rw[h.1];omega
   have hpm:p < m.length:=by rw[h.1];exact hp
   rw[Ad,Ad,AZ (by rw[Nq,BS];omega),T3 hkb,T3 hpm]
   simp only[Aa]
   have e0:Dj (Im m) (p:Int) (Oo m p (b.length - p) p)=(List.range m.length).set p (Oo m p (b.length - p) p):=by rw[Nq];simp only[Dj,Bg]
   have e1:Dj (Dj (Im m) (p:Int) (Oo m p (b.length - p) p)) ((Oo m p (b.length - p) p:Nat):Int) p=(List.range m.length).map (sw p (Oo m p (b.length - p) p)):=by
    rw[e0,<-l8 hpm hkb];simp only[Dj,Bg]
   rw[e1,e0]
   have e2:A4 ((List.range m.length).set p (Oo m p (b.length - p) p)) ((Oo m p (b.length - p) p:Nat):Int)=some (((List.range m.length).set p (Oo m p (b.length - p) p))[Oo m p (b.length - p) p]'(by simp;exact hkb)):=BL _
   rw[e2]
   simp only[Aa]
   rw[AZ (qh hpm hkb),l7 hpm hkb]
   have ho:=dT h hp (show Oo m p (b.length - p) p < b.length by omega)
   have hs:=Z7 (b:=b) (L:=b.length+1) hp (by omega) hl (by unfold lim;omega) b.length 0 (swL m p (Oo m p (b.length - p) p)) fz (by omega) (CR hl) ho
   rw[show((0:Nat):Int)=0 from rfl]at hs
   rw[hs]
   cases hr:PH p b.length 0 (swL m p (Oo m p (b.length - p) p))with
   |none=>rfl
   |some m1=>
    simp only[Aa]
    rw[BQ hp (Bo hl)]
    exact fe hn j (p+1) m1 f (by omega) (by omega) (Up hp (by omega) (by omega) ho hr)
theorem XB{α O:Type}{g:Nat->Sum α O}{h:Nat->α}:∀(j k:Nat),(∀i,k<=i->i < k+j->g i=.inl (h i))->MH g j k=.inl ((List.range' k j).map h)
 |0,_,_=>rfl
 |j+1,k,hh=>by
  rw[MH,hh k (A9 _) (by omega),XB j (k+1) (λi h1 h2=>hh i (by omega) (by omega)),CX];rfl
theorem b6{α O:Type}{g:Nat->Sum α O}{o:O}{i:Nat}(hi:g i=.inr o):∀(j k:Nat),(∀i,k<=i->i < k+j->(∃x,g i=.inl x)∨g i=.inr o)->k<=i->i < k+j->MH g j k=.inr o
 |0,k,_,h1,h2=>by omega
 |j+1,k,hh,h1,h2=>by
  rw[MH]
  rcases hh k (A9 _) (by omega)with⟨x,hx⟩|hx
  ·rw[hx]
   by_cases e:k=i
   ·subst e;rw[hi]at hx;cases hx
   ·simp only
    rw[b6 hi j (k+1) (λi h1 h2=>hh i (by omega) (by omega)) (by omega) (by omega)]
  ·rw[hx]
theorem YZ{α O:Type}(c:Nat->Bool)(h:Nat->α)(o:O)(n:Nat):MH (λk=>cond (c k) (.inl (h k)) (.inr o)) n 0=cond ((List.range n).all c) (.inl ((List.range' 0 n).map h)) (.inr o):=by
 cases hc:(List.range n).all c with
 |true=>
  rw[Ac]
  exact XB n 0 λi _ hi=>by
   rw[Af.1 hc i (Al.2 (by omega))];rfl
 |false=>
  rw[Ad]
  obtain⟨i,hi,hb⟩:=List.all_eq_false.1 hc
  rw[Al]at hi
  have hb:c i=false:=by simpa using hb
  refine b6 (i:=i) (by rw[hb];rfl) n 0 (λi _ _=>?_) (by omega) (by omega)
  cases c i with
  |true=>exact .inl ⟨_,rfl⟩
  |false=>exact .inr rfl
theorem vy(b:List Rt):(List.range b.length).all (λk=>HB (atR b k))=b.all HB:=by
 rw[AG,Af,Af]
 constructor
 ·intro h x hx
  obtain⟨i,hi,rfl⟩:=Eh hx
  rw[JH hi];exact h i (Al.2 hi)
 ·intro h i hi
  rw[Al]at hi
  rw[<-JH hi];exact h _ (Ao hi)
theorem vw(a:Mx)(f:List Rt->Bool):(List.range a.length).all (λk=>f (EA a k))=a.all f:=by
 rw[AG,Af,Af]
 constructor
 ·intro h x hx
  obtain⟨i,hi,rfl⟩:=Eh hx
  rw[I6 hi];exact h i (Al.2 hi)
 ·intro h i hi
  rw[Al]at hi
  rw[<-I6 hi];exact h _ (Ao hi)
theorem iQ{a:Mx}{b:List Rt}(h:Uy a b=true):P5 b.length (b.length+1) (TJ a b):=by
 unfold Uy at h
 simp only[Ab,Bi]at h
 refine⟨by unfold TJ;simp,λi hi=>?_⟩
 have ha:i < a.length:=by rw[h.1];exact hi
 have hr:=Af.1 h.2.1 _ (Ao ha)
 unfold rowOk at hr
 rw[Ab,Bi,I6 ha]at hr
 unfold TJ
 have:EA ((List.range' 0 b.length).map λk=>EA a k++[atR b k]) i=EA a i++[atR b i]:=by
  rw[<-I6 (by simp;exact hi),BU]
  simp
 rw[this,AR,hr.1];rfl
theorem ye{b:List Rt}{m:Mx}(h:P5 b.length (b.length+1) m)(hl:b.length<=lim):Aq (Lf b m) fz ([],0)=some (MH (Ri b.length m) b.length 0):=by
 rw[show(([]:List Rt),(0:Int))=(λ(s:List Rt) (k:Nat)=>(s,(k:Int))) [] 0 from rfl,
  Ex (n:=b.length) (O:=List Rt×Bool) (λs k=>(s,(k:Int))) (λk s=>s.length=k) (λk s=>a8 s (Ri b.length m k)) id hl (λrec s k hk hi=>?_) (λrec s hi=>?_) (λk s s' hk hi hs=>?_) [] rfl]
 ·rw[O8]
  cases MH (Ri b.length m) b.length 0<;>rfl
 ·show cond (decide ((s:Int) < (b.length:Int))) _ _=_
  rw[BC hk,Ac,Hd (by rw[h.1];exact hk)]
  simp only[Aa]
  rw[Eg (by rw[h.2 s hk];omega),Eg (by rw[h.2 s hk];omega)]
  simp only[Aa]
  rw[lO]
  simp only[Aa]
  unfold Ri
  cases(Pt (atR (EA m s) b.length) (atR (EA m s) s)).2 with
  |false=>rfl
  |true=>
   rw[Aj,Ad,AZ (by rw[hi,Cs];unfold lim at hl⊢;omega),BQ hk (Bo hl)]
   rfl
 ·show cond (decide ((b.length:Int) < (b.length:Int))) _ _=_
  rw[Bl];rfl
 ·unfold Ri at hs
  cases hc:(Pt (atR (EA m k) b.length) (atR (EA m k) k)).2 with
  |false=>rw[hc]at hs;cases hs
  |true=>rw[hc]at hs;cases hs;rw[AR,hi];rfl
theorem wl{b:List Rt}{m:Mx}(h:P5 b.length (b.length+1) m)(hl:b.length<=lim):Aq (Lb b m) fz ([],0)=some (MH (Ri b.length m) b.length 0):=by
 rw[show(([]:List Rt),(0:Int))=(λ(s:List Rt) (k:Nat)=>(s,(k:Int))) [] 0 from rfl,
  Ex (n:=b.length) (O:=List Rt×Bool) (λs k=>(s,(k:Int))) (λk s=>s.length=k) (λk s=>a8 s (Ri b.length m k)) id hl (λrec s k hk hi=>?_) (λrec s hi=>?_) (λk s s' hk hi hs=>?_) [] rfl]
 ·rw[O8]
  cases MH (Ri b.length m) b.length 0<;>rfl
 ·show cond (decide ((s:Int) < (b.length:Int))) _ _=_
  rw[BC hk,Ac,Hd (by rw[h.1];exact hk)]
  simp only[Aa]
  rw[Eg (by rw[h.2 s hk];omega),Eg (by rw[h.2 s hk];omega)]
  simp only[Aa]
  rw[jN]
  simp only[Aa]
  unfold Ri
  cases(Pt (atR (EA m s) b.length) (atR (EA m s) s)).2 with
  |false=>rfl
  |true=>
   rw[Aj,Ad,AZ (by rw[hi,Cs];unfold lim at hl⊢;omega),BQ hk (Bo hl)]
   rfl
 ·show cond (decide ((b.length:Int) < (b.length:Int))) _ _=_
  rw[Bl];rfl
 ·unfold Ri at hs
  cases hc:(Pt (atR (EA m k) b.length) (atR (EA m k) k)).2 with
  |false=>rw[hc]at hs;cases hs
  |true=>rw[hc]at hs;cases hs;rw[AR,hi];rfl
theorem xR{a:Mx}{b:List Rt}(hl:b.length<=6)(ha:a.length=b.length)(hr:a.all (rowOk b.length)=true):Aq (Lc a b) fz ([],0)=some (cond (b.all HB) (.inl (TJ a b)) (.inr ([],false))):=by
 have hn:b.length<=lim:=by unfold lim;omega
 rw[show(([]:Mx),(0:Int))=(λ(s:Mx) (k:Nat)=>(s,(k:Int))) [] 0 from rfl,
  Ex (n:=b.length) (O:=List Rt×Bool) (λs k=>(s,(k:Int))) (λk s=>s.length=k) (λk s=>a8 s (cond (HB (atR b k)) (.inl (EA a k++[atR b k])) (.inr ([],false)):Sum (List Rt) (List Rt×Bool))) id hn (λrec s k hk hi=>?_) (λrec s hi=>?_) (λk s s' hk hi hs=>?_) [] rfl]
 ·rw[O8,YZ,vy]
  unfold TJ
  cases b.all HB<;>rfl
 ·have hka:s < a.length:=by rw[ha];exact hk
  have hrl:=Af.1 hr _ (Ao hka)
  unfold rowOk at hrl
  rw[Ab,Bi,I6 hka]at hrl
  show cond (decide ((s:Int) < (b.length:Int))) _ _=_
  rw[BC hk,Ac,Eg hk]
  simp only[Aa]
  rw[Qu]
  simp only[Aa]
  cases HB (atR b s)with
  |false=>rfl
  |true=>
   rw[Aj,Ad,Hd hka]
   simp only[Aa]
   rw[AZ (by rw[hrl.1];simp;unfold lim;omega),AZ (by rw[Bh,hrl.1,Cs];unfold lim;omega),AZ (by rw[hi,Cs];unfold lim;omega),BQ hk (Bo hn),Bh]
   rfl
 ·show cond (decide ((b.length:Int) < (b.length:Int))) _ _=_
  rw[Bl];rfl
 ·cases hc:HB (atR b k)with
  |false=>rw[hc]at hs;cases hs
  |true=>rw[hc]at hs;cases hs;rw[AR,hi];rfl
theorem v8{a:Mx}{b:List Rt}(hl:b.length<=6)(ha:a.length=b.length):Aq (K7 a b) fz ([],0)=some (cond (a.all (rowOk b.length)) (.inl (TJ a b)) (.inr ([],false))):=by
 have hn:b.length<=lim:=by unfold lim;omega
 rw[show(([]:Mx),(0:Int))=(λ(s:Mx) (k:Nat)=>(s,(k:Int))) [] 0 from rfl,
  Ex (n:=b.length) (O:=List Rt×Bool) (λs k=>(s,(k:Int))) (λk s=>s.length=k) (λk s=>a8 s (cond (rowOk b.length (EA a k)) (.inl (EA a k++[atR b k])) (.inr ([],false)):Sum (List Rt) (List Rt×Bool))) id hn (λrec s k hk hi=>?_) (λrec s hi=>?_) (λk s s' hk hi hs=>?_) [] rfl]
 ·rw[O8,YZ,<-ha,vw,ha]
  unfold TJ
  cases a.all (rowOk b.length)<;>rfl
 ·have hka:s < a.length:=by rw[ha];exact hk
  show cond (decide ((s:Int) < (a.length:Int))) _ _=_
  rw[BC hka,Ac,Hd hka]
  simp only[Aa]
  unfold rowOk
  by_cases hrl:(EA a s).length=b.length
  ·rw[hrl,C1,Ad,BP,AC,Vb (by rw[hrl];exact hn)]
   simp only[Aa]
   cases(EA a s).all HB with
   |false=>rfl
   |true=>
    rw[Aj,Ad]
    unfold Hh
    rw[AZ (by rw[hrl];simp;unfold lim;omega),Bh]
    simp only[Aa]
    rw[Eg hk]
    simp only[Aa]
    rw[AZ (by rw[hrl,Cs];unfold lim;omega),AZ (by rw[hi,Cs];unfold lim;omega),BQ hk (Bo hn)]
    rfl
  ·rw[show(((EA a s).length:Int)!=(b.length:Int))=true from by rw[Cl];omega,Ac,show((EA a s).length==b.length)=false from by simpa using hrl]
   rfl
 ·show cond (decide ((b.length:Int) < (a.length:Int))) _ _=_
  rw[ha,Bl];rfl
 ·cases hc:rowOk b.length (EA a k)with
  |false=>rw[hc]at hs;cases hs
  |true=>rw[hc]at hs;cases hs;rw[AR,hi];rfl
theorem yd{a:Mx}{b:List Rt}(ha:a.length<=lim)(hb:b.length<=lim):G1 a b=some (Qy a b):=by
 unfold G1 Qy
 cases h6:decide (6 < (b.length:Int))with
 |true=>rfl
 |false=>
  have hl:b.length<=6:=by have:=KA h6;omega
  rw[Ad,Ad,oG ha hb]
  simp only[Aa]
  unfold Uy
  by_cases hal:a.length=b.length
  ·rw[hal,BP,BP,AC,Cj]
   cases hr:a.all (rowOk b.length)with
   |false=>rfl
   |true=>
    rw[Aj,Ad,xR hl hal hr,AC]
    simp only[Aa]
    cases hv:b.all HB with
    |false=>rfl
    |true=>
     rw[Ac,Ac]
     have ho:=iQ (a:=a) (b:=b) (by unfold Uy;rw[hal,BP,hr,hv];rfl)
     have hg:=fP hl b.length 0 (TJ a b) fz (by omega) (CR hb) ho
     rw[show((0:Nat):Int)=0 from rfl]at hg
     simp only[Aa]
     rw[hg]
     cases hm:NR b.length b.length 0 (TJ a b)with
     |none=>rfl
     |some m=>
      simp only[Aa]
      rw[ye (U8 (by omega) ho hm) hb]
      simp only[Aa]
      cases MH (Ri b.length m) b.length 0<;>rfl
  ·rw[show((a.length:Int)==(b.length:Int))=false from by rw[AS];omega,Fh,show(a.length==b.length)=false from by simpa using hal]
   rfl
theorem wk{a:Mx}{b:List Rt}(hb:b.length<=lim):GS a b=some (Qy a b):=by
 unfold GS Qy
 cases h6:decide (6 < (b.length:Int))with
 |true=>rfl
 |false=>
  have hl:b.length<=6:=by have:=KA h6;omega
  rw[Ad,Ad]
  unfold Uy
  by_cases hal:a.length=b.length
  ·rw[hal,C1,BP,AC,Ad,Vb hb]
   simp only[Aa]
   cases hv:b.all HB with
   |false=>rw[Fh];rfl
   |true=>
    rw[Aj,Ad,v8 hl hal,Cj]
    simp only[Aa]
    cases hr:a.all (rowOk b.length)with
    |false=>rfl
    |true=>
     rw[Ac,Ac]
     have ho:=iQ (a:=a) (b:=b) (by unfold Uy;rw[hal,BP,hr,hv];rfl)
     have hg:=fe hl b.length 0 (TJ a b) fz (by omega) (CR hb) ho
     rw[show((0:Nat):Int)=0 from rfl]at hg
     simp only[Aa]
     rw[hg]
     cases hm:NR b.length b.length 0 (TJ a b)with
     |none=>rfl
     |some m=>
      simp only[Aa]
      rw[wl (U8 (by omega) ho hm) hb]
      simp only[Aa]
      cases MH (Ri b.length m) b.length 0<;>rfl
  ·rw[show((a.length:Int)!=(b.length:Int))=true from by rw[Cl];omega,show(a.length==b.length)=false from by simpa using hal]
   rfl
theorem Uc{α O:Type}{P:O->Prop}{g:Nat->Sum α O}(h:∀k o,g k=.inr o->P o):∀{j k:Nat}{o:O},MH g j k=.inr o->P o
 |0,_,_,e=>by cases e
 |j+1,k,o,e=>by
  rw[MH]at e
  cases hg:g k with
  |inr o'=>rw[hg]at e;cases e;exact h k _ hg
  |inl x=>
   rw[hg]at e
   cases hm:MH g j (k+1)with
   |inl l=>simp only[hm]at e;cases e
   |inr o'=>simp only[hm]at e;cases e;exact Uc h hm
theorem oN{a:Mx}{b x:List Rt}(h:Qy a b=(x,true)):x.length=b.length:=by
 unfold Qy at h
 cases h6:decide (6 < (b.length:Int))with
 |true=>rw[h6]at h;cases h
 |false=>
  rw[h6,Ad]at h
  cases hs:Uy a b with
  |false=>rw[hs]at h;cases h
  |true=>
   rw[hs,Ac]at h
   cases hg:NR b.length b.length 0 (TJ a b)with
   |none=>rw[hg]at h;cases h
   |some m=>
    rw[hg]at h
    cases hm:MH (Ri b.length m) b.length 0 with
    |inl y=>simp only[hm]at h;cases h;exact Ud hm
    |inr o=>
     simp only[hm]at h
     exfalso
     have:=Uc (P:=λo=>o.2=false) (g:=Ri b.length m) (λk o ho=>by
      unfold Ri at ho
      cases hc:(Pt (atR (EA m k) b.length) (atR (EA m k) k)).2 with
      |false=>rw[hc]at ho;cases ho;rfl
      |true=>rw[hc]at ho;cases ho) hm
     rw[h]at this;cases this
abbrev LP:=Mx×List Rt×List Rt
def eQ:Rt×Bool:=((0,0),false)
def VY(a b:List Rt)(k:Nat)(x:Rt):Sum Rt (Rt×Bool):=cond (HK (atR a k) (atR b k)).2 (cond (Tv x (HK (atR a k) (atR b k)).1).2 (.inl (Tv x (HK (atR a k) (atR b k)).1).1) (.inr eQ)) (.inr eQ)
def JI(a b:List Rt):Rt×Bool:=cond ((a.length:Int)!=(b.length:Int)) eQ (match Mi (VY a b) a.length 0 (0,1)with
 |.inl x=>(x,true)
 |.inr o=>o)
theorem pZ{a b:List Rt}(h:a.length<=lim):Jw a b=some (JI a b):=by
 unfold Jw JI
 cases hc:(a.length:Int)!=(b.length:Int)with
 |true=>rfl
 |false=>
  have hb:a.length=b.length:=by have:=HA.1 hc;omega
  rw[Ad,Ad]
  have hr:=Ex (B:=Pc a b) (n:=a.length) (λ(s:Rt) k=>(s.1,s.2,(k:Int))) (λ_ _=>True) (VY a b) (λo=>match o with|.inl x=>.inl (x.1,x.2)|.inr o=>.inr o) h (λrec k s hk _=>by
   show cond (decide ((k:Int) < (a.length:Int))) _ _=_
   rw[BC hk,Ac,Eg hk,Eg (by rw[<-hb];exact hk)]
   simp only[Aa]
   rw[lP]
   simp only[Aa]
   unfold VY
   cases(HK (atR a k) (atR b k)).2 with
   |false=>rfl
   |true=>
    rw[Aj,Ad,lN]
    simp only[Aa]
    rw[BQ hk (Bo h)]
    cases hq:(Tv s (HK (atR a k) (atR b k)).1).2 with
    |false=>simp only[hq,Ac,Ad,Dn];rfl
    |true=>simp only[hq,Ac,Ad,Aj]) (λrec s _=>by
   show cond (decide ((a.length:Int) < (a.length:Int))) _ _=_
   rw[Bl];rfl) (λ_ _ _ _ _ _=>trivial) (0,1) trivial
  rw[show((0:Int),(1:Int),(0:Int))=(((0,1):Rt).1,((0,1):Rt).2,((0:Nat):Int))from rfl,hr]
  simp only[Aa]
  cases Mi (VY a b) a.length 0 (0,1)<;>rfl
theorem pA{a b:List Rt}(h:a.length<=lim):Jr a b=some (JI a b):=by
 unfold Jr JI
 cases hc:(a.length:Int)!=(b.length:Int)with
 |true=>rfl
 |false=>
  have hb:a.length=b.length:=by have:=HA.1 hc;omega
  rw[Ad,Ad]
  have hr:=Ex (B:=OQ a b) (n:=a.length) (λ(s:Rt) k=>(s.1,s.2,(k:Int))) (λ_ _=>True) (VY a b) (λo=>match o with|.inl x=>.inl (x.1,x.2)|.inr o=>.inr o) h (λrec k s hk _=>by
   show cond (decide ((k:Int) < (a.length:Int))) _ _=_
   rw[BC hk,Ac,Eg hk,Eg (by rw[<-hb];exact hk)]
   simp only[Aa]
   rw[jP]
   simp only[Aa]
   rw[dm]
   simp only[Aa]
   unfold VY
   rw[BQ hk (Bo h)]
   cases(HK (atR a k) (atR b k)).2 with
   |false=>rfl
   |true=>
    cases hq:(Tv s (HK (atR a k) (atR b k)).1).2 with
    |false=>simp only[hq,Ac,Ad,Dn,Aj];rfl
    |true=>simp only[hq,Ac,Ad,Aj]) (λrec s _=>by
   show cond (decide ((a.length:Int) < (a.length:Int))) _ _=_
   rw[Bl];rfl) (λ_ _ _ _ _ _=>trivial) (0,1) trivial
  rw[show((0:Int),(1:Int),(0:Int))=(((0,1):Rt).1,((0,1):Rt).2,((0:Nat):Int))from rfl,hr]
  simp only[Aa]
  cases Mi (VY a b) a.length 0 (0,1)<;>rfl
def mvG(a:Mx)(x:List Rt)(k:Nat):Sum Rt (List Rt×Bool):=cond (JI (EA a k) x).2 (.inl (JI (EA a k) x).1) (.inr ([],false))
def Uf(a:Mx)(x:List Rt):List Rt×Bool:=match MH (mvG a x) a.length 0 with
 |.inl l=>(l,true)
 |.inr o=>o
theorem tU(a:Mx)(x:List Rt){k:Nat}{o:List Rt×Bool}(h:mvG a x k=.inr o):o=([],false):=by
 unfold mvG at h
 cases hc:(JI (EA a k) x).2 with
 |true=>rw[hc]at h;cases h
 |false=>rw[hc]at h;cases h;rfl
theorem fv(a:Mx)(x:List Rt):(Uf a x).1.length<=a.length∧((Uf a x).2=true->(Uf a x).1.length=a.length)∧((Uf a x).2=false->(Uf a x).1=[]):=by
 unfold Uf
 cases h:MH (mvG a x) a.length 0 with
 |inl l=>exact⟨Nat.le_of_eq (Ud h),λ_=>Ud h,λh=>by cases h⟩
 |inr o=>
  have:=Uc (P:=λo=>o=([],false)) (λk o ho=>tU a x ho) h
  subst this
  exact⟨DY _,(λh=>by cases h),λ_=>rfl⟩
theorem zj{a:Mx}{x:List Rt}(h:a.length<=lim)(hr:∀k,k < a.length->(EA a k).length<=lim):F5 a x=some (Uf a x):=by
 unfold F5 Uf
 have hl:=Ex (B:=J7 a x) (n:=a.length) (O:=List Rt×Bool) (λ(s:List Rt) k=>(s,(k:Int))) (λk s=>s.length=k) (λk s=>a8 s (mvG a x k)) id h (λrec k s hk hi=>by
  show cond (decide ((k:Int) < (a.length:Int))) _ _=_
  rw[BC hk,Ac,Hd hk]
  simp only[Aa]
  rw[pZ (hr k hk)]
  simp only[Aa]
  unfold mvG
  cases(JI (EA a k) x).2 with
  |false=>rfl
  |true=>
   rw[Aj,Ad,AZ (by rw[hi,Cs];unfold lim at h⊢;omega),BQ hk (Bo h)]
   rfl) (λrec s hi=>by
  show cond (decide ((a.length:Int) < (a.length:Int))) _ _=_
  rw[Bl];rfl) (λk s s' hk hi hs=>by
  unfold mvG at hs
  cases hc:(JI (EA a k) x).2 with
  |false=>rw[hc]at hs;cases hs
  |true=>rw[hc]at hs;cases hs;rw[AR,hi];rfl) [] rfl
 rw[show((0:Nat):Int)=0 from rfl]at hl
 rw[hl,O8]
 cases MH (mvG a x) a.length 0<;>rfl
theorem yY{a:Mx}{x:List Rt}(h:a.length<=lim)(hr:∀k,k < a.length->(EA a k).length<=lim):FZ a x=some (Uf a x):=by
 unfold FZ Uf
 have hl:=Ex (B:=JY a x) (n:=a.length) (O:=List Rt×Bool) (λ(s:List Rt) k=>(s,(k:Int))) (λk s=>s.length=k) (λk s=>a8 s (mvG a x k)) id h (λrec k s hk hi=>by
  show cond (decide ((k:Int) < (a.length:Int))) _ _=_
  rw[BC hk,Ac,Hd hk]
  simp only[Aa]
  rw[pA (hr k hk)]
  simp only[Aa]
  unfold mvG
  cases(JI (EA a k) x).2 with
  |false=>rfl
  |true=>
   rw[Aj,Ad,AZ (by rw[hi,Cs];unfold lim at h⊢;omega),BQ hk (Bo h)]
   rfl) (λrec s hi=>by
  show cond (decide ((a.length:Int) < (a.length:Int))) _ _=_
  rw[Bl];rfl) (λk s s' hk hi hs=>by
  unfold mvG at hs
  cases hc:(JI (EA a k) x).2 with
  |false=>rw[hc]at hs;cases hs
  |true=>rw[hc]at hs;cases hs;rw[AR,hi];rfl) [] rfl
 rw[show((0:Nat):Int)=0 from rfl]at hl
 rw[hl,O8]
 cases MH (mvG a x) a.length 0<;>rfl
def Ok(p:LP):Bool:=JP (p.2.2.length:Int) 1 5&&(JP (p.2.1.length:Int) 1 5&&((p.1.length==p.2.1.length)&&(p.1.all (rowOk p.2.2.length)&&(p.2.1.all HB&&p.2.2.all HB))))
def We(p:LP):Prop:=p.1.length<=lim∧p.2.1.length<=lim∧p.2.2.length<=lim
theorem one_row(n:Nat)(r:List Rt):[r].all (rowOk n)=rowOk n r:=by simp
theorem x4{p:LP}(h:We p):EN p=some (Ok p):=by
 unfold EN Ok
 rw[Ni]
 simp only[Aa]
 cases JP (p.2.2.length:Int) 1 5 with
 |false=>rfl
 |true=>
  rw[Ac,Ni,AC]
  simp only[Aa]
  cases JP (p.2.1.length:Int) 1 5 with
  |false=>rfl
  |true=>
   rw[Ac,oG h.1 h.2.2,AC]
   simp only[Aa]
   rw[show(((p.1.length:Int))==(p.2.1.length:Int))=(p.1.length==p.2.1.length)from by rw[AG,Bi,Bi];omega]
   cases p.1.length==p.2.1.length with
   |false=>rw[Fh];rfl
   |true=>
    rw[Cj,AC]
    cases p.1.all (rowOk p.2.2.length)with
    |false=>rfl
    |true=>
     rw[Ac,oG (by simp[lim]) h.2.2,one_row,AC]
     simp only[Aa]
     unfold rowOk
     rw[BP,AC,show((([p.2.2].length:Nat):Int)==1)=true from rfl,Cj]
     cases p.2.2.all HB with
     |false=>rw[Fh];rfl
     |true=>
      rw[Ac,oG (by simp[lim]) h.2.1,one_row,Cj]
      simp only[Aa]
      unfold rowOk Dc
      rw[BP,AC,show((([p.2.1].length:Nat):Int)==1)=true from rfl,Cj]
theorem wi{p:LP}(h:We p):EK p=some (Ok p):=by
 unfold EK Ok
 rw[Jq]
 simp only[Aa]
 cases JP (p.2.2.length:Int) 1 5 with
 |false=>rfl
 |true=>
  rw[Aj,Ad,Jq,AC]
  simp only[Aa]
  cases JP (p.2.1.length:Int) 1 5 with
  |false=>rfl
  |true=>
   rw[Aj,Ad,AC]
   by_cases he:p.1.length=p.2.1.length
   ·rw[he,C1,Ad,BP,AC,Vb h.2.1]
    simp only[Aa]
    cases p.2.1.all HB with
    |false=>simp
    |true=>
     rw[Aj,Ad,Vb h.2.2,AC]
     simp only[Aa]
     cases p.2.2.all HB with
     |false=>rw[Fh];rfl
     |true=>
      rw[Aj,Ad,Cj,G6 (n:=p.1.length) (λk=>Mf p.1 k λr=> !rowOk p.2.2.length r) false h.1 (λk hk rec=>by
       show cond (decide ((k:Int) < (p.1.length:Int))) _ _=_
       rw[BC hk,Ac,Hd hk,DH hk,I6 hk]
       simp only[Aa]
       unfold rowOk
       by_cases hl:(EA p.1 k).length=p.2.2.length
       ·rw[hl,C1,Ad,BP,AC,Vb (by rw[hl];exact h.2.2),BQ hk (Bo h.1)]
       ·rw[show(((EA p.1 k).length:Int)!=(p.2.2.length:Int))=true from by rw[Cl];omega,Ac,show((EA p.1 k).length==p.2.2.length)=false from by simpa using hl]
        rfl) (λrec=>by
       show cond (decide ((p.1.length:Int) < (p.1.length:Int))) _ _=_
       rw[Bl];rfl)]
      rw[UI,not_any]
      cases p.1.all (rowOk p.2.2.length)<;>rfl
   ·rw[show((p.1.length:Int)!=(p.2.1.length:Int))=true from by rw[Cl];omega,show(p.1.length==p.2.1.length)=false from by simpa using he]
    rfl
def Zn(p:LP)(x:List Rt)(sg:Int)(k:Nat):Bool:=decide (IntKind.i64.wrap (KX (atR (Uf p.1 x).1 k) (atR p.2.1 k) * sg) < 0)
def O9(p:LP)(x:List Rt)(sg:Int):Bool:=Ok p&&((x.length==p.2.2.length)&&((x.all λr=>HB r&&decide (0<=r.1))&&((Uf p.1 x).2&& !((List.range (Uf p.1 x).1.length).any (Zn p x sg)))))
theorem Ku{p:LP}(h:Ok p=true):1<=p.2.2.length∧p.2.2.length<=5∧1<=p.2.1.length∧p.2.1.length<=5∧p.1.length=p.2.1.length∧(∀k,k < p.1.length->(EA p.1 k).length=p.2.2.length):=by
 unfold Ok at h
 simp only[Ab,Nk,Bi]at h
 refine⟨by omega,by omega,by omega,by omega,h.2.2.1,λk hk=>?_⟩
 have:=Af.1 h.2.2.2.1 _ (Ao hk)
 unfold rowOk at this
 rw[Ab,Bi,I6 hk]at this
 exact this.1
theorem kn{p:LP}(h:Ok p=true):p.1.length<=lim∧∀k,k < p.1.length->(EA p.1 k).length<=lim:=by
 obtain⟨h1,h2,h3,h4,h5,h6⟩:=Ku h
 refine⟨by rw[h5];unfold lim;omega,λk hk=>by rw[h6 k hk];unfold lim;omega⟩
theorem uy{p:LP}{x:List Rt}{sg:Int}(h:We p)(hx:x.length<=lim):Ov p x sg=some (O9 p x sg):=by
 unfold Ov O9
 rw[x4 h]
 simp only[Aa]
 cases hv:Ok p with
 |false=>rfl
 |true=>
  obtain⟨h1,h2,h3,h4,h5,h6⟩:=Ku hv
  obtain⟨h7,h8⟩:=kn hv
  rw[Aj,Ad,AC]
  by_cases he:x.length=p.2.2.length
  ·rw[he,C1,Ad,BP,AC,G6 (n:=x.length) (λk=>Mf x k λr=> !(HB r&&decide (0<=r.1))) false hx (λk hk rec=>by
    show cond (decide ((k:Int) < (x.length:Int))) _ _=_
    rw[BC hk,Ac,Eg hk,DH hk,JH hk]
    simp only[Aa]
    rw[Qu]
    simp only[Aa]
    cases HB (atR x k)with
    |false=>rfl
    |true=>
     rw[Aj,Ad,AC,BQ hk (Bo hx)]
     by_cases hn:(atR x k).1 < 0
     ·rw[Ai hn,Ah (by omega)];rfl
     ·rw[Ah hn,Ai (by omega)];rfl) (λrec=>by
    show cond (decide ((x.length:Int) < (x.length:Int))) _ _=_
    rw[Bl];rfl)]
   rw[UI,not_any]
   cases x.all (λr=>HB r&&decide (0<=r.1))with
   |false=>rfl
   |true=>
    rw[Aj,Ad,AC]
    simp only[Aa]
    rw[zj h7 h8]
    simp only[Aa]
    have hm:=fv p.1 x
    have hml:(Uf p.1 x).1.length<=lim:=By hm.1 h7
    rw[G6 (n:=(Uf p.1 x).1.length) (Zn p x sg) false hml (λk hk rec=>by
     show cond (decide ((k:Int) < ((Uf p.1 x).1.length:Int))) _ _=_
     rw[BC hk,Ac,Eg hk,Eg (by rw[<-h5];omega)]
     simp only[Aa]
     rw[X1]
     simp only[Aa]
     rw[BQ hk (Bo hml)];rfl) (λrec=>by
     show cond (decide (((Uf p.1 x).1.length:Int) < ((Uf p.1 x).1.length:Int))) _ _=_
     rw[Bl];rfl)]
    cases hq:(Uf p.1 x).2 with
    |true=>
     cases(List.range (Uf p.1 x).1.length).any (Zn p x sg)<;>simp[Aa,hq]
    |false=>
     rw[hm.2.2 hq];simp[Aa,hq]
  ·rw[show((x.length:Int)!=(p.2.2.length:Int))=true from by rw[Cl];omega,show(x.length==p.2.2.length)=false from by simpa using he]
   rfl
theorem rU{p:LP}{x:List Rt}{sg:Int}(h:We p)(hx:x.length<=lim):Nm p x sg=some (O9 p x sg):=by
 unfold Nm O9
 rw[wi h]
 simp only[Aa]
 cases hv:Ok p with
 |false=>rfl
 |true=>
  obtain⟨h1,h2,h3,h4,h5,h6⟩:=Ku hv
  obtain⟨h7,h8⟩:=kn hv
  rw[Aj,Ad,AC]
  by_cases he:x.length=p.2.2.length
  ·rw[he,C1,Ad,BP,AC,Vb hx]
   simp only[Aa]
   have hs:(x.all λr=>HB r&&decide (0<=r.1))=(x.all HB&&x.all λr=>decide (0<=r.1)):=by
    rw[AG]
    simp only[Af,Ab]
    exact⟨λh=>⟨λr hr=>(h r hr).1,λr hr=>(h r hr).2⟩,λh r hr=>⟨h.1 r hr,h.2 r hr⟩⟩
   rw[hs]
   cases x.all HB with
   |false=>rfl
   |true=>
    rw[Aj,Ad,AC,G6 (n:=x.length) (λk=>Mf x k λr=> !decide (0<=r.1)) false hx (λk hk rec=>by
     show cond (decide ((k:Int) < (x.length:Int))) _ _=_
     rw[BC hk,Ac,Eg hk,DH hk,JH hk]
     simp only[Aa]
     rw[BQ hk (Bo hx)]
     by_cases hn:(atR x k).1 < 0
     ·rw[Ai hn,Ah (by omega)];rfl
     ·rw[Ah hn,Ai (by omega)];rfl) (λrec=>by
     show cond (decide ((x.length:Int) < (x.length:Int))) _ _=_
     rw[Bl];rfl)]
    rw[UI,not_any]
    cases x.all (λr=>decide (0<=r.1))with
    |false=>rfl
    |true=>
     rw[Aj,Ad,AC]
     simp only[Aa]
     rw[yY h7 h8]
     simp only[Aa]
     have hm:=fv p.1 x
     have hml:(Uf p.1 x).1.length<=lim:=By hm.1 h7
     cases hq:(Uf p.1 x).2 with
     |false=>simp
     |true=>
      rw[Aj,Ad,AC,G6 (n:=(Uf p.1 x).1.length) (Zn p x sg) false hml (λk hk rec=>by
       show cond (decide ((k:Int) < ((Uf p.1 x).1.length:Int))) _ _=_
       rw[BC hk,Ac,Eg hk,Eg (by rw[<-h5];omega)]
       simp only[Aa]
       rw[Xj]
       simp only[Aa]
       rw[BQ hk (Bo hml),Int.mul_comm];rfl) (λrec=>by
       show cond (decide (((Uf p.1 x).1.length:Int) < ((Uf p.1 x).1.length:Int))) _ _=_
       rw[Bl];rfl)]
      cases(List.range (Uf p.1 x).1.length).any (Zn p x sg)<;>rfl
  ·rw[show((x.length:Int)!=(p.2.2.length:Int))=true from by rw[Cl];omega,show(x.length==p.2.2.length)=false from by simpa using he]
   rfl
theorem eM:∀{a b:List Rt},a.length=b.length->((List.range a.length).any λk=> !((atR a k).1==(atR b k).1&&(atR a k).2==(atR b k).2))= !(a==b)
 |a,b,h=>by
  rw[AG,Cu,AD]
  constructor
  ·rintro⟨k,hk,hb⟩
   rw[Al]at hk
   rw[AS]
   rintro rfl
   simp at hb
  ·intro hne
   rw[AS]at hne
   refine Bq λhc=>hne (Eu h λk h1 h2=>?_)
   rw[JH h1,JH h2]
   have:¬(!((atR a k).1==(atR b k).1&&(atR a k).2==(atR b k).2))=true:=λhb=>hc ⟨k,Al.2 h1,hb⟩
   rw[AD,Bool.not_eq_false,Ab,Bi,Bi]at this
   exact Prod.ext this.1 this.2
theorem j3{a b:List Rt}(h:a.length≠b.length):(a==b)=false:=by
 rw[AS];rintro rfl;exact h rfl
theorem xZ{a b:List Rt}(h:a.length<=lim):Is a b=some (a==b):=by
 unfold Is
 by_cases he:a.length=b.length
 ·rw[he,C1,Ad,G6 (n:=a.length) (λk=> !((atR a k).1==(atR b k).1&&(atR a k).2==(atR b k).2)) false h (λk hk rec=>by
   show cond (decide ((k:Int) < (a.length:Int))) _ _=_
   rw[BC hk,Ac,Eg hk,Eg (by rw[<-he];exact hk)]
   simp only[Aa]
   rw[BQ hk (Bo h)]) (λrec=>by
   show cond (decide ((a.length:Int) < (a.length:Int))) _ _=_
   rw[Bl];rfl)]
  rw[eM he]
  cases a==b<;>rfl
 ·rw[show((a.length:Int)!=(b.length:Int))=true from by rw[Cl];omega,j3 he];rfl
theorem wg{a b:List Rt}(h:a.length<=lim):In a b=some (a==b):=by
 unfold In
 by_cases he:a.length=b.length
 ·rw[he,C1,Ad,G6 (n:=a.length) (λk=> !((atR a k).1==(atR b k).1&&(atR a k).2==(atR b k).2)) false h (λk hk rec=>by
   show cond (decide ((k:Int) < (a.length:Int))) _ _=_
   rw[BC hk,Ac,Eg hk,Eg (by rw[<-he];exact hk)]
   simp only[Aa]
   rw[BQ hk (Bo h)]) (λrec=>by
   show cond (decide ((a.length:Int) < (a.length:Int))) _ _=_
   rw[Bl];rfl)]
  rw[eM he]
  cases a==b<;>rfl
 ·rw[show((a.length:Int)!=(b.length:Int))=true from by rw[Cl];omega,j3 he];rfl
theorem cC{α O:Type}(g:Nat->List α):∀(j k:Nat) (s:List α),Mi (O:=O) (λk s=>.inl (s++g k)) j k s=.inl (s++(List.range' k j).flatMap g)
 |0,k,s=>by rw[Mi];simp
 |j+1,k,s=>by rw[Mi];simp only;rw[cC g j (k+1),CX,Ay,Bd]
theorem OB{α β O:Type}(g:Nat->α)(h:Nat->β):∀(j k:Nat) (s:List α×List β),Mi (O:=O) (λk s=>.inl (s.1++[g k],s.2++[h k])) j k s=.inl (s.1++(List.range' k j).map g,s.2++(List.range' k j).map h)
 |0,k,s=>by rw[Mi];simp
 |j+1,k,s=>by rw[Mi];simp only;rw[OB g h j (k+1),CX,AK,AK,Bd,Bd];rfl
theorem fN{O:Type}(g:Nat->Bool):∀(j k:Nat) (s:Bool),Mi (O:=O) (λk s=>.inl (s || g k)) j k s=.inl (s || (List.range' k j).any g)
 |0,k,s=>by rw[Mi];simp
 |j+1,k,s=>by rw[Mi];simp only;rw[fN g j (k+1),CX,E8,Bool.or_assoc]
theorem Tx{S O:Type}(g:S->Nat->S):∀(j k:Nat) (s:S),Mi (O:=O) (λk s=>.inl (g s k)) j k s=.inl ((List.range' k j).foldl g s)
 |0,k,s=>by rw[Mi];simp
 |j+1,k,s=>by rw[Mi];simp only;rw[Tx g j (k+1),CX,Db]
theorem getD_map{α β:Type}(d:α)(h:α->β)(l:List α):(List.range' 0 l.length).map (λk=>h (l.getD k d))=l.map h:=by
 apply Eu
 ·simp
 ·intro i h1 h2
  simp only[Ar,HY]at h1
  rw[BU,FP,BU,At]
  simp[Ae h1]
theorem dh{α S:Type}(d:α)(g:S->α->S)(l:List α)(s:S):(List.range' 0 l.length).foldl (λs k=>g s (l.getD k d)) s=l.foldl g s:=by
 have:=getD_map d (λx=>x) l
 rw[List.map_id']at this
 conv=>rhs;rw[<-this]
 rw[List.foldl_map]
theorem U5{α β:Type}{f:List β->α->List β}(h:∀s x,(f s x).length<=s.length+1):∀(l:List α) (s:List β),(l.foldl f s).length<=s.length+l.length
 |[],s=>by simp
 |x::l,s=>by
  rw[Db,AL]
  have h1:=U5 h l (f s x)
  have h2:=h s x
  omega
theorem eS{α β:Type}{f:α->List β}{M:Nat}:∀{l:List α},(∀x∈l,(f x).length<=M)->(l.flatMap f).length<=l.length * M
 |[],_=>by simp
 |x::l,h=>by
  rw[Ay,AR,AL,E3]
  have h1:=h x BK
  have h2:=eS (f:=f) (l:=l) λy hy=>h y (AQ _ hy)
  omega
theorem OE{α β:Type}{l:List α}{B:(List β×Int->Option (List β))->List β×Int->Option (List β)}{s0:List β}{h:α->β}(hl:s0.length+l.length<=lim)
  (h1:∀k (hk:k < l.length) s rec,s.length=s0.length+k->B rec (s,(k:Int))=rec (s++[h l[k]],((k+1:Nat):Int))) (h2:∀rec s,B rec (s,(l.length:Int))=some s):Aq B fz (s0,0)=some (s0++l.map h):=by
 have key:∀(j k:Nat) (s:List β) (f:Nat),k+j=l.length->j < f->s.length=s0.length+k->Aq B f (s,(k:Int))=some (s++(l.drop k).map h):=by
  intro j
  induction j with
  |zero=>
   intro k s f hk hf hs
   obtain⟨f,rfl⟩:∃g,f=g+1:=⟨f - 1,by omega⟩
   obtain rfl:k=l.length:=by omega
   rw[BH,h2,Hl];simp
  |succ j ih=>
   intro k s f hk hf hs
   obtain⟨f,rfl⟩:∃g,f=g+1:=⟨f - 1,by omega⟩
   have hlt:k < l.length:=by omega
   rw[BH,h1 k hlt s _ hs,ih (k+1) _ f (by omega) (by omega) (by rw[AR,hs];simp;omega),Bz hlt,AK,Bd];rfl
 have:=key l.length 0 s0 fz (by omega) (CR (by omega)) (by omega)
 simpa using this
def NQ(t:Nat):Nat->Nat->List (List Nat)
 |0,_=>[[]]
 |r+1,fr=>(List.range' fr (t - r - fr)).flatMap λi=>(NQ t r (i+1)).map (i:: ·)
def cI(c:List Nat):List Int:=c.map λ(e:Nat)=>(e:Int)
theorem Si{t:Nat}(ht:t<=11):∀(r fr:Nat),(NQ t r fr).length<=11 ^ r
 |0,_=>A9 1
 |r+1,fr=>by
  rw[NQ]
  have:=eS (f:=λi=>(NQ t r (i+1)).map (i:: ·)) (M:=11 ^ r) (l:=List.range' fr (t - r - fr)) λi _=>by rw[Ar];exact Si ht r (i+1)
  refine By this ?_
  rw[HY,IN,Nat.mul_comm]
  exact Nat.mul_le_mul_left _ (by omega)
theorem W1{t:Nat}:∀{r fr:Nat}{c:List Nat},c∈NQ t r fr->c.length=r∧∀e∈c,e < t
 |0,_,c,h=>by
  rw[NQ,AV]at h
  subst h;exact⟨rfl,by simp⟩
 |r+1,fr,c,h=>by
  rw[NQ,Ch]at h
  obtain⟨i,hi,h⟩:=h
  obtain⟨d,hd,rfl⟩:=Bw.1 h
  obtain⟨h1,h2⟩:=W1 hd
  rw[GH]at hi
  refine⟨by rw[AL,h1],λe he=>?_⟩
  rcases AO.1 he with rfl|he
  ·omega
  ·exact h2 e he
theorem fG{r:Nat}(h:r<=5):11 ^ r<=161051:=By (Fz (by omega) h) (by decide)
theorem lL{t:Nat}(ht:t<=10):∀(r fr f:Nat),r<=5->fr<=11->r < f->Aq Gg f ((fr:Int),(t:Int),(r:Int))=some ((NQ t r fr).map cI)
 |0,fr,f,_,_,hf=>by
  obtain⟨f,rfl⟩:∃g,f=g+1:=⟨f - 1,by omega⟩
  rfl
 |r+1,fr,f,hr,hfr,hf=>by
  obtain⟨f,rfl⟩:∃g,f=g+1:=⟨f - 1,by omega⟩
  have hp:=fG (show r<=5 by omega)
  rw[BH]
  show cond (((r+1:Nat):Int)==0) (some [[]]) (Aa (Aq (N2 (t:Int) ((r+1:Nat):Int) (Aq Gg f)) fz ([],(fr:Int))) λz4=>some z4)=_
  rw[show(((r+1:Nat):Int)==0)=false from by rw[AS];omega,Ad]
  have hl:=SG (B:=N2 (t:Int) ((r+1:Nat):Int) (Aq Gg f)) (n:=fr+(t - r - fr)) (O:=Unit) (λ(s:List (List Int)) k=>(s,(k:Int))) (λk s=>fr<=k∧s.length<=(k - fr) * 11 ^ r) (λk s=>.inl (s++((NQ t r (k+1)).map cI).map ([(k:Int)]++ ·))) (λo=>match o with|.inl s=>s|.inr _=>[])
   (λrec k s hk hi=>by
    have hkt:k+r+1<=t:=by omega
    show cond (decide (IntKind.i64.wrap ((k:Int)+((r+1:Nat):Int))<=(t:Int))) _ _=_
    rw[wrap_in (by omega),Ai (by omega),Ac,show IntKind.i64.wrap ((k:Int)+1)=((k+1:Nat):Int)from by rw[wrap_in (by omega)];omega,show IntKind.i64.wrap (((r+1:Nat):Int) - 1)=(r:Int)from by rw[wrap_in (by omega)];omega,lL ht r (k+1) f (by omega) (by omega) (by omega)]
    simp only[Aa]
    have hc:=Si (t:=t) (by omega) r (k+1)
    have hm:(k - fr) * 11 ^ r<=11 * 161051:=EE (by omega) hp
    rw[OE (B:=Q7 (k:Int) ((NQ t r (k+1)).map cI)) (l:=(NQ t r (k+1)).map cI) (s0:=s) (h:=([(k:Int)]++ ·)) (by rw[Ar];unfold lim;omega) (λq hq s' rec hs=>by
     show cond (decide ((q:Int) < (((NQ t r (k+1)).map cI).length:Int))) _ _=_
     rw[BC hq,Ac,BL hq]
     simp only[Aa]
     have hql:q < (NQ t r (k+1)).length:=by simpa using hq
     have he:(((NQ t r (k+1)).map cI)[q]).length=r:=by
      rw[BU];unfold cI;rw[Ar];exact(W1 (Ao hql)).1
     rw[AZ (by rw[he];simp;unfold lim;omega),AZ (by rw[hs];simp;unfold lim;omega),BQ hq (by rw[Ar];unfold maxLen;omega)]) (λrec s'=>by
     show cond (decide ((((NQ t r (k+1)).map cI).length:Int) < (((NQ t r (k+1)).map cI).length:Int))) _ _=_
     rw[Bl];rfl)])
   (λrec s hi=>by
    show cond (decide (IntKind.i64.wrap (((fr+(t - r - fr):Nat):Int)+((r+1:Nat):Int))<=(t:Int))) _ _=_
    rw[wrap_in (by omega),Ah (by omega)];rfl)
   (λk s s' hk hi hs=>by
    cases hs
    refine⟨by omega,?_⟩
    rw[AR,Ar,Ar,show k+1 - fr=(k - fr)+1 from by omega,E3]
    have hc:=Si (t:=t) (by omega) r (k+1)
    omega) (t - r - fr) fr [] fz rfl (by unfold fz;omega) ⟨A9 _,by simp⟩
  rw[hl,cC]
  simp only[Aa,Bh]
  rw[NQ,List.map_flatMap]
  congr 2
  funext k
  rw[Ew,Ew]
  congr 1
def S8(n i:Nat):List Rt:=(List.replicate n (0,1)).set i (1,1)
def rowAt(p:LP)(j:Nat):List Rt:=if j < p.2.1.length then EA p.1 j else S8 p.2.2.length (j - p.2.1.length)
def Ft(p:LP)(j:Nat):Rt:=if j < p.2.1.length then atR p.2.1 j else(0,1)
def visit(p:LP)(sg:Int)(out:Mx)(c:List Nat):Mx:=cond (Qy (c.map (rowAt p)) (c.map (Ft p))).2 (cond (O9 p (Qy (c.map (rowAt p)) (c.map (Ft p))).1 sg) (cond (out.any (· ==(Qy (c.map (rowAt p)) (c.map (Ft p))).1)) out (out++[(Qy (c.map (rowAt p)) (c.map (Ft p))).1])) out) out
theorem VD(p:LP)(sg:Int)(out:Mx)(c:List Nat):(visit p sg out c).length<=out.length+1:=by
 unfold visit
 cases(Qy (c.map (rowAt p)) (c.map (Ft p))).2 with
 |false=>simp
 |true=>
  cases O9 p (Qy (c.map (rowAt p)) (c.map (Ft p))).1 sg with
  |false=>simp
  |true=>
   cases out.any (· ==(Qy (c.map (rowAt p)) (c.map (Ft p))).1)with
   |true=>simp
   |false=>simp
theorem uC(a:Mx)(b:List Rt):(Qy a b).2=false->(Qy a b).1=[]:=by
 unfold Qy
 cases decide (6 < (b.length:Int))with
 |true=>exactλ_=>rfl
 |false=>
  cases Uy a b with
  |false=>exactλ_=>rfl
  |true=>
   simp only[Ad,Ac]
   cases hg:NR b.length b.length 0 (TJ a b)with
   |none=>exactλ_=>rfl
   |some m=>
    simp only
    cases hm:MH (Ri b.length m) b.length 0 with
    |inl x=>exactλh=>by cases h
    |inr o=>
     exactλ_=>Uc (P:=λo=>o.1=[]) (λk o ho=>by
      unfold Ri at ho
      cases hc:(Pt (atR (EA m k) b.length) (atR (EA m k) k)).2 with
      |false=>rw[hc]at ho;cases ho;rfl
      |true=>rw[hc]at ho;cases ho) hm
theorem aK{a:Mx}{b:List Rt}(h:b.length<=lim):(Qy a b).1.length<=lim:=by
 cases hv:(Qy a b).2 with
 |true=>rw[oN (a:=a) (b:=b) (x:=(Qy a b).1) (by rw[<-hv])];exact h
 |false=>rw[uC a b hv];simp
theorem dW{p:LP}(h:p.2.2.length<=lim):Aq (MZ p) fz ([],0)=some (List.replicate p.2.2.length (0,1)):=by
 rw[OE (B:=MZ p) (l:=p.2.2) (s0:=[]) (h:=λ_=>((0:Int),(1:Int))) (by simpa using h) (λk hk s rec hs=>by
  show cond (decide ((k:Int) < (p.2.2.length:Int))) _ _=_
  rw[BC hk,Ac,AZ (by rw[hs];simp;unfold lim at h⊢;omega),BQ hk (Bo h)]) (λrec s=>by
  show cond (decide ((p.2.2.length:Int) < (p.2.2.length:Int))) _ _=_
  rw[Bl];rfl),Bh,Em]
theorem yg{p:LP}(hv:Ok p=true){v1:List (List Int)}{y:Int}{c:List Nat}(hg:A4 v1 y=some (cI c))(hc:c.length=p.2.2.length)(hin:∀e∈c,e < p.2.1.length+p.2.2.length):
  Aq (Kb p v1 y) fz ([],[],0)=some (c.map (rowAt p),c.map (Ft p)):=by
 obtain⟨h1,h2,h3,h4,h5,h6⟩:=Ku hv
 have hl:p.2.2.length<=lim:=by unfold lim;omega
 have hr:=Ex (B:=Kb p v1 y) (n:=p.2.2.length) (O:=Unit) (λ(s:Mx×List Rt) k=>(s.1,s.2,(k:Int))) (λk s=>s.1.length=k∧s.2.length=k) (λk s=>.inl (s.1++[rowAt p (c.getD k 0)],s.2++[Ft p (c.getD k 0)])) (λo=>match o with|.inl s=>s|.inr _=>([],[])) hl (λrec k s hk hi=>by
  have hkc:k < c.length:=by rw[hc];exact hk
  have hck:c.getD k 0=c[k]:=by rw[At,Ae hkc];rfl
  have he:=hin c[k] (Ao hkc)
  show cond (decide ((k:Int) < (p.2.2.length:Int))) _ _=_
  rw[BC hk,Ac,hg]
  simp only[Aa]
  rw[BL (show k < (cI c).length by unfold cI;rw[Ar];exact hkc)]
  simp only[Aa]
  rw[show(cI c)[k]'(by unfold cI;rw[Ar];exact hkc)=((c[k]:Nat):Int)from by unfold cI;rw[BU],hck]
  unfold rowAt Ft
  have hJ:∀a b,H8 rec (k:Int) a b=rec (a,b,((k+1:Nat):Int)):=λa b=>by unfold H8;rw[BQ hk (Bo hl)]
  by_cases hm:c[k] < p.2.1.length
  ·rw[AJ hm,AJ hm,BC hm,Ac,Hd (by rw[h5];exact hm)]
   simp only[Aa]
   rw[AZ (by rw[hi.1];simp;unfold lim;omega),Eg hm]
   simp only[Aa]
   rw[AZ (by rw[hi.2];simp;unfold lim;omega),hJ]
  ·have hz:(List.replicate p.2.2.length ((0:Int),(1:Int))).length=p.2.2.length:=Dw
   have hw:IntKind.i64.wrap (((c[k]:Nat):Int) - (p.2.1.length:Int))=((c[k] - p.2.1.length:Nat):Int):=by rw[wrap_in (by omega)];omega
   rw[AN hm,AN hm,Ah (by omega),Ad,dW hl]
   simp only[Aa]
   rw[AZ (by rw[hz];omega),hw,BL (show c[k] - p.2.1.length < (List.replicate p.2.2.length ((0:Int),(1:Int))).length by rw[hz];omega)]
   simp only[Aa]
   rw[AZ (by rw[hi.1];simp;unfold lim;omega),AZ (by rw[hi.2];simp;unfold lim;omega),hJ]
   simp only[Dj,Bg]
   rfl) (λrec s hi=>by
  show cond (decide ((p.2.2.length:Int) < (p.2.2.length:Int))) _ _=_
  rw[Bl];rfl) (λk s s' hk hi hs=>by cases hs;exact⟨by simp[hi.1],by simp[hi.2]⟩) ([],[]) ⟨rfl,rfl⟩
 rw[show(([]:Mx),([]:List Rt),(0:Int))=((([],[]):Mx×List Rt).1,(([],[]):Mx×List Rt).2,((0:Nat):Int))from rfl,hr,OB]
 simp only[Bh]
 rw[<-hc,getD_map 0 (rowAt p) c,getD_map 0 (Ft p) c]
theorem oC{out:Mx}{v:List Rt×Bool}(h:out.length<=lim)(hr:∀r∈out,r.length<=lim):Aq (Kc out v) fz (false,0)=some (out.any (· ==v.1)):=by
 have hl:=Ex (B:=Kc out v) (n:=out.length) (O:=Unit) (λ(s:Bool) k=>(s,(k:Int))) (λ_ _=>True) (λk s=>.inl (s || (out.getD k []==v.1))) (λo=>match o with|.inl s=>s|.inr _=>false) h (λrec k s hk _=>by
  show cond (decide ((k:Int) < (out.length:Int))) _ _=_
  have hJ:∀b,Ia rec (k:Int) b=rec (b,((k+1:Nat):Int)):=λb=>by unfold Ia;rw[BQ hk (Bo h)]
  rw[BC hk,Ac]
  cases s with
  |true=>rw[Ac,hJ];rfl
  |false=>
   rw[Ad,Hd hk]
   simp only[Aa]
   rw[xZ (by rw[<-I6 hk];exact hr _ (Ao hk))]
   simp only[Aa]
   rw[hJ];rfl) (λrec s _=>by
  show cond (decide ((out.length:Int) < (out.length:Int))) _ _=_
  rw[Bl];rfl) (λ_ _ _ _ _ _=>trivial) false trivial
 rw[show((0:Nat):Int)=0 from rfl]at hl
 rw[hl,fN]
 simp only[Cr]
 have:(List.range' 0 out.length).any (λk=>out.getD k []==v.1)=((List.range' 0 out.length).map (λk=>(λx=>x==v.1) (out.getD k []))).any id:=by rw[MJ];rfl
 rw[this,getD_map [] (λx=>x==v.1) out,MJ];rfl
def QP(m:Mx):Prop:=∀r∈m,r.length<=lim
theorem Zu{p:LP}(sg:Int){out:Mx}{c:List Nat}(hc:c.length<=lim)(h:QP out):QP (visit p sg out c):=by
 unfold visit
 cases(Qy (c.map (rowAt p)) (c.map (Ft p))).2 with
 |false=>exact h
 |true=>
  cases O9 p (Qy (c.map (rowAt p)) (c.map (Ft p))).1 sg with
  |false=>exact h
  |true=>
   cases out.any (· ==(Qy (c.map (rowAt p)) (c.map (Ft p))).1)with
   |true=>exact h
   |false=>
    intro r hr
    rcases An.1 hr with hr|hr
    ·exact h r hr
    ·rw[AV]at hr;subst hr;exact aK (by rw[Ar];exact hc)
def Om(p:LP)(sg:Int):Mx:=(NQ (p.2.1.length+p.2.2.length) p.2.2.length 0).foldl (visit p sg) []
theorem lM{p:LP}{sg:Int}(hv:Ok p=true):MY p sg=some (Om p sg):=by
 obtain⟨h1,h2,h3,h4,h5,h6⟩:=Ku hv
 have hsm:We p:=⟨by rw[h5];unfold lim;omega,by unfold lim;omega,by unfold lim;omega⟩
 unfold MY Om
 rw[show IntKind.i64.wrap ((p.2.1.length:Int)+(p.2.2.length:Int))=((p.2.1.length+p.2.2.length:Nat):Int)from by rw[wrap_in (by omega)];omega]
 unfold QR
 have hp:=lL (t:=p.2.1.length+p.2.2.length) (by omega) p.2.2.length 0 fz (by omega) (by omega) (by unfold fz;omega)
 rw[show((0:Nat):Int)=0 from rfl]at hp
 rw[hp]
 simp only[Aa]
 have hcl:=Si (t:=p.2.1.length+p.2.2.length) (by omega) p.2.2.length 0
 have hpw:=fG h2
 have hll:(NQ (p.2.1.length+p.2.2.length) p.2.2.length 0).length<=lim:=by unfold lim;omega
 have hl:=Ex (B:=Ka p sg ((NQ (p.2.1.length+p.2.2.length) p.2.2.length 0).map cI)) (n:=(NQ (p.2.1.length+p.2.2.length) p.2.2.length 0).length) (O:=Unit) (λ(s:Mx) k=>(s,(k:Int))) (λk s=>s.length<=k∧QP s) (λk s=>.inl (visit p sg s ((NQ (p.2.1.length+p.2.2.length) p.2.2.length 0).getD k []))) (λo=>match o with|.inl s=>s|.inr _=>[]) hll (λrec k s hk hi=>by
  have hcm:=W1 (Ao hk)
  have hgd:(NQ (p.2.1.length+p.2.2.length) p.2.2.length 0).getD k []=(NQ (p.2.1.length+p.2.2.length) p.2.2.length 0)[k]:=by rw[At,Ae hk];rfl
  rw[hgd]
  show cond (decide ((k:Int) < (((NQ (p.2.1.length+p.2.2.length) p.2.2.length 0).map cI).length:Int))) _ _=_
  rw[Ar,BC hk,Ac,yg hv (y:=(k:Int)) (c:=(NQ (p.2.1.length+p.2.2.length) p.2.2.length 0)[k]) (by rw[BL (by rw[Ar];exact hk),BU]) hcm.1 hcm.2]
  simp only[Aa]
  have hc1:(NQ (p.2.1.length+p.2.2.length) p.2.2.length 0)[k].length<=lim:=by rw[hcm.1];unfold lim;omega
  rw[yd (by rw[Ar];exact hc1) (by rw[Ar];exact hc1)]
  simp only[Aa]
  unfold visit
  have hJ:∀b,Gv rec (k:Int) b=rec (b,((k+1:Nat):Int)):=λb=>by unfold Gv;rw[BQ hk (Bo hll)]
  cases(Qy (((NQ (p.2.1.length+p.2.2.length) p.2.2.length 0)[k]).map (rowAt p)) (((NQ (p.2.1.length+p.2.2.length) p.2.2.length 0)[k]).map (Ft p))).2 with
  |false=>unfold H9;rw[Ad,Ad,hJ];rfl
  |true=>
   rw[Ac,Ac,uy hsm (aK (by rw[Ar];exact hc1))]
   simp only[Aa]
   unfold H9
   cases O9 p (Qy (((NQ (p.2.1.length+p.2.2.length) p.2.2.length 0)[k]).map (rowAt p)) (((NQ (p.2.1.length+p.2.2.length) p.2.2.length 0)[k]).map (Ft p))).1 sg with
   |false=>rw[Ad,Ad,hJ]
   |true=>
    rw[Ac,Ac,oC (by unfold lim;omega) hi.2]
    simp only[Aa]
    cases s.any (· ==(Qy (((NQ (p.2.1.length+p.2.2.length) p.2.2.length 0)[k]).map (rowAt p)) (((NQ (p.2.1.length+p.2.2.length) p.2.2.length 0)[k]).map (Ft p))).1)with
    |true=>rw[Aj,Ad,Ac,hJ]
    |false=>rw[Dn,Ac,Ad,AZ (by simp;unfold lim;omega),hJ]) (λrec s _=>by
  show cond (decide ((((NQ (p.2.1.length+p.2.2.length) p.2.2.length 0).length:Nat):Int) < (((NQ (p.2.1.length+p.2.2.length) p.2.2.length 0).map cI).length:Int))) _ _=_
  rw[Ar,Bl];rfl) (λk s s' hk hi hs=>by
  cases hs
  have:=VD p sg s ((NQ (p.2.1.length+p.2.2.length) p.2.2.length 0).getD k [])
  refine⟨by omega,Zu sg ?_ hi.2⟩
  rw[At,Ae hk,BJ,(W1 (Ao hk)).1];unfold lim;omega) [] ⟨by simp,λr hr=>by simp at hr⟩
 rw[show((0:Nat):Int)=0 from rfl]at hl
 rw[hl,Tx (λs k=>visit p sg s ((NQ (p.2.1.length+p.2.2.length) p.2.2.length 0).getD k [])),dh [] (visit p sg)]
def bt(b:Bool):Rt:=(cond b 1 0,1)
def gB(l:List Bool)(i:Nat):Bool:=l.getD i false
def allB:Nat->List (List Bool)
 |0=>[[]]
 |n+1=>(allB n).flatMap λl=>[false::l,true::l]
theorem OH:∀l:List Bool,l∈allB l.length
 |[]=>AV.2 rfl
 |b::l=>by
  rw[AL,allB,Ch]
  refine⟨l,OH l,?_⟩
  cases b
  ·exact BK
  ·exact AQ _ BK
def pU(S r:List Bool):Bool:=(List.range S.length).any λi=>(gB S i&&gB r i)&&(List.range S.length).all λj=>j==i || !(gB S j&&gB r j)
def apart(S a b:List Bool):Bool:=(List.range S.length).all λi=> !(gB S i&&(gB a i&&gB b i))
def ey(S:List Bool):List (List Bool):=(allB S.length).filter (pU S)
def nf(S:List Bool):Nat->List (List (List Bool))
 |0=>[[]]
 |k+1=>(nf S k).flatMap λrs=>((ey S).filter λr=>rs.all (apart S r)).map (· ::rs)
theorem bN{S:List Bool}:∀{rs:List (List Bool)},(∀r∈rs,r∈ey S)->rs.Pairwise (λa b=>apart S a b=true)->rs∈nf S rs.length
 |[],_,_=>AV.2 rfl
 |r::rs,h,hp=>by
  obtain⟨h1,h2⟩:=HZ.1 hp
  rw[AL,nf,Ch]
  refine⟨rs,bN (λr hr=>h r (AQ _ hr)) h2,Bw.2 ⟨r,Be.2 ⟨h r BK,Af.2 h1⟩,rfl⟩⟩
def OM(S:List Bool):List Nat:=(List.range S.length).filter λj=> !gB S j
def aN(S:List Bool):List Nat:=(List.range S.length).filter λj=>gB S j
def qd(S:List Bool)(rs:List (List Bool)):Bool:=(Qy (rs.map (λr=>r.map bt)++(OM S).map (S8 S.length)) (rs.map (λ_=>((1:Int),(1:Int)))++(OM S).map (λ_=>((0:Int),(1:Int))))).2&&(Qy (rs.map (λr=>r.map bt)++(OM S).map (S8 S.length)) (rs.map (λ_=>((1:Int),(1:Int)))++(OM S).map (λ_=>((0:Int),(1:Int))))).1==S.map bt
def iC(n:Nat):Bool:=(allB n).all λS=>(nf S (aN S).length).all (qd S)
theorem zq:iC 1=true:=by kernel_rfl
theorem zr:iC 2=true:=by kernel_rfl
theorem zt:iC 3=true:=by kernel_rfl
theorem zu:iC 4=true:=by kernel_rfl
def pR(a b:List Bool):Bool:=(List.range b.length).any λi=>gB a i&&gB b i
def eK(r S:List Bool):Bool:=(JI (r.map bt) (S.map bt)).2&&(!pR r S || !decide (IntKind.i64.wrap (KX (JI (r.map bt) (S.map bt)).1 (1,1) * 1) < 0))
def tryD(n:Nat):Bool:=(allB n).all λr=>(allB n).all (eK r)
theorem yl:tryD 1=true:=by kernel_rfl
theorem ym:tryD 2=true:=by kernel_rfl
theorem yo:tryD 3=true:=by kernel_rfl
theorem yp:tryD 4=true:=by kernel_rfl
theorem bz{α:Type}(g:Nat->List α):∀(b a fr:Nat),(∀k,fr+a<=k->k < fr+a+b->g k=[])->(List.range' fr (a+b)).flatMap g=(List.range' fr a).flatMap g
 |0,a,fr,_=>rfl
 |b+1,a,fr,h=>by
  rw[<-E9,List.range'_concat,DJ,bz g b a fr (λk h1 h2=>h k h1 (by omega))]
  simp[h (fr+(a+b)) (by omega) (by omega)]
theorem mT{t r fr:Nat}(hr:0 < r)(h:t+1<=r+fr):NQ t r fr=[]:=by
 obtain⟨r,rfl⟩:∃q,r=q+1:=⟨r - 1,by omega⟩
 rw[NQ,show t - r - fr=0 from by omega];rfl
theorem mS(t r fr:Nat)(h:fr<=t):(List.range' fr (t - fr)).flatMap (λi=>(NQ t r (i+1)).map (i:: ·))=NQ t (r+1) fr:=by
 rw[NQ]
 have:=bz (λi=>(NQ t r (i+1)).map (i:: ·)) (t - fr - (t - r - fr)) (t - r - fr) fr (λk hk hk2=>by
  cases r with
  |zero=>omega
  |succ r=>rw[mT (by omega) (by omega)];rfl)
 rw[<-this,show t - r - fr+(t - fr - (t - r - fr))=t - fr from by omega]
theorem foldl_flat{α β S:Type}(f:S->β->S)(g:α->List β):∀(l:List α) (s:S),(l.flatMap g).foldl f s=l.foldl (λs x=>(g x).foldl f s) s
 |[],_=>rfl
 |x::l,s=>by rw[Ay,De,Db,foldl_flat f g l]
theorem Rs(c:List Nat):(cI c).length=c.length:=by unfold cI;rw[Ar]
theorem rc(c d:List Nat):cI (c++d)=cI c++cI d:=by unfold cI;rw[BY]
theorem wb{l:List Int}(h:l.length<=lim):F1 l=some l:=by
 unfold F1
 rw[AZ (by simpa using h),Bh]
theorem bH{p:LP}{sg:Int}{c:List Nat}:∀(l:List (List Nat)) (s:Mx),(∀d∈l,(c++d).length<=lim)->QP s->QP (l.foldl (λo d=>visit p sg o (c++d)) s)
 |[],_,_,h=>h
 |d::l,s,hl,h=>bH l _ (λd hd=>hl d (AQ _ hd)) (Zu sg (hl d BK) h)
theorem vC(a:Mx)(f:List Rt->Bool):(List.range a.length).any (λk=>f (EA a k))=a.any f:=by
 rw[AG,Cu,Cu]
 constructor
 ·rintro⟨i,hi,h⟩
  rw[Al]at hi
  rw[<-I6 hi]at h
  exact⟨_,Ao hi,h⟩
 ·rintro⟨x,hx,h⟩
  obtain⟨i,hi,rfl⟩:=Eh hx
  rw[I6 hi]at h
  exact⟨i,Al.2 hi,h⟩
section
variable {p:LP}{R:Mx}{rt:List Rt}
theorem wm(hv:Ok p=true)(hR:R.length=p.2.1.length+p.2.2.length)(hrt:rt.length=p.2.1.length+p.2.2.length)(hA:∀j,j < p.2.1.length+p.2.2.length->EA R j=rowAt p j)(hB:∀j,j < p.2.1.length+p.2.2.length->atR rt j=Ft p j)
  {c:List Nat}(hc:c.length<=5) (hin:∀e∈c,e < p.2.1.length+p.2.2.length):Aq (LR (cI c) R rt) fz ([],[],0)=some (c.map (rowAt p),c.map (Ft p)):=by
 have hl:c.length<=lim:=by unfold lim;omega
 have hr:=Ex (B:=LR (cI c) R rt) (n:=c.length) (O:=Unit) (λ(s:Mx×List Rt) k=>(s.1,s.2,(k:Int))) (λk s=>s.1.length=k∧s.2.length=k) (λk s=>.inl (s.1++[rowAt p (c.getD k 0)],s.2++[Ft p (c.getD k 0)])) (λo=>match o with|.inl s=>s|.inr _=>([],[])) hl (λrec k s hk hi=>by
  have hck:c.getD k 0=c[k]:=by rw[At,Ae hk];rfl
  have he:=hin c[k] (Ao hk)
  show cond (decide ((k:Int) < ((cI c).length:Int))) _ _=_
  rw[Rs,BC hk,Ac,BL (show k < (cI c).length by rw[Rs];exact hk)]
  simp only[Aa]
  rw[show(cI c)[k]'(by rw[Rs];exact hk)=((c[k]:Nat):Int)from by unfold cI;rw[BU],hck,Hd (by rw[hR];exact he)]
  simp only[Aa]
  rw[AZ (by rw[hi.1];simp;unfold lim;omega),Eg (by rw[hrt];exact he)]
  simp only[Aa]
  rw[AZ (by rw[hi.2];simp;unfold lim;omega),hA _ he,hB _ he,BQ hk (Bo hl)]) (λrec s hi=>by
  show cond (decide ((c.length:Int) < ((cI c).length:Int))) _ _=_
  rw[Rs,Bl];rfl) (λk s s' hk hi hs=>by cases hs;exact⟨by simp[hi.1],by simp[hi.2]⟩) ([],[]) ⟨rfl,rfl⟩
 rw[show(([]:Mx),([]:List Rt),(0:Int))=((([],[]):Mx×List Rt).1,(([],[]):Mx×List Rt).2,((0:Nat):Int))from rfl,hr,OB]
 simp only[Bh]
 rw[getD_map 0 (rowAt p) c,getD_map 0 (Ft p) c]
theorem nj{out:Mx}{v:List Rt×Bool}(h:out.length<=lim)(hv:v.1.length<=lim):Aq (OZ out v) fz 0=some (cond (out.any (· ==v.1)) (.inr out) (.inl ())):=by
 rw[G6 (n:=out.length) (λk=>v.1==EA out k) out h (λk hk rec=>by
  show cond (decide ((k:Int) < (out.length:Int))) _ _=_
  rw[BC hk,Ac,Hd hk]
  simp only[Aa]
  rw[wg hv]
  simp only[Aa]
  rw[BQ hk (Bo h)]) (λrec=>by
  show cond (decide ((out.length:Int) < (out.length:Int))) _ _=_
  rw[Bl];rfl)]
 rw[vC out (λx=>v.1==x),show(λx=>v.1==x)=(λx=>x==v.1)from by
  funext x
  rw[AG,Bi,Bi]
  exact eq_comm]
theorem bP{sg:Int}(hv:Ok p=true)(hR:R.length=p.2.1.length+p.2.2.length)(hrt:rt.length=p.2.1.length+p.2.2.length)(hA:∀j,j < p.2.1.length+p.2.2.length->EA R j=rowAt p j)(hB:∀j,j < p.2.1.length+p.2.2.length->atR rt j=Ft p j):
  ∀(r:Nat) (c:List Nat) (fr f:Nat) (out:Mx),c.length+r=p.2.2.length->fr<=p.2.1.length+p.2.2.length->(∀e∈c,e < p.2.1.length+p.2.2.length)->r < f->out.length+11 ^ r<=lim->QP out->
  Aq EW f ((fr:Int),cI c,(p.2.2.length:Int),R,rt,p,sg,out)=some ((NQ (p.2.1.length+p.2.2.length) r fr).foldl (λo d=>visit p sg o (c++d)) out)
 |0,c,fr,f,out,hc,hfr,hin,hf,ho,hol=>by
  obtain⟨f,rfl⟩:∃g,f=g+1:=⟨f - 1,by omega⟩
  obtain⟨h1,h2,h3,h4,h5,h6⟩:=Ku hv
  have hsm:We p:=⟨by rw[h5];unfold lim;omega,by unfold lim;omega,by unfold lim;omega⟩
  have hcl:c.length<=lim:=by unfold lim;omega
  rw[BH]
  show cond (decide (((cI c).length:Int) < (p.2.2.length:Int))) _ _=_
  rw[Rs,show c.length=p.2.2.length from by omega,Bl,Ad,wm hv hR hrt hA hB (by omega) hin]
  simp only[Aa]
  rw[wk (by rw[Ar];exact hcl)]
  simp only[Aa]
  rw[NQ,Db,IM,Bm]
  unfold visit
  cases(Qy (c.map (rowAt p)) (c.map (Ft p))).2 with
  |false=>rfl
  |true=>
   have hxl:=aK (a:=c.map (rowAt p)) (b:=c.map (Ft p)) (by rw[Ar];exact hcl)
   rw[Aj,Ad,Ac,rU hsm hxl]
   simp only[Aa]
   cases O9 p (Qy (c.map (rowAt p)) (c.map (Ft p))).1 sg with
   |false=>rfl
   |true=>
    rw[Aj,Ad,Ac,nj (by omega) hxl]
    simp only[Aa]
    cases out.any (· ==(Qy (c.map (rowAt p)) (c.map (Ft p))).1)with
    |true=>rfl
    |false=>
     simp only[Ad]
     rw[AZ (by simpa using ho)]
 |r+1,c,fr,f,out,hc,hfr,hin,hf,ho,hol=>by
  obtain⟨f,rfl⟩:∃g,f=g+1:=⟨f - 1,by omega⟩
  obtain⟨h1,h2,h3,h4,h5,h6⟩:=Ku hv
  have hpw:11 ^ (r+1)=11 ^ r * 11:=IN ..
  have hNm:p.2.1.length+p.2.2.length<=maxLen:=by unfold maxLen;omega
  rw[BH]
  show cond (decide (((cI c).length:Int) < (p.2.2.length:Int))) (Aa (Aq (LQ (cI c) (p.2.2.length:Int) R rt p sg (Aq EW f)) fz (out,(fr:Int))) λz4=>some z4) _=_
  rw[Rs,BC (show c.length < p.2.2.length by omega),Ac]
  have hl:=SG (B:=LQ (cI c) (p.2.2.length:Int) R rt p sg (Aq EW f)) (n:=p.2.1.length+p.2.2.length) (O:=Unit) (λ(s:Mx) k=>(s,(k:Int))) (λk s=>fr<=k∧s.length<=out.length+(k - fr) * 11 ^ r∧QP s) (λk s=>.inl ((NQ (p.2.1.length+p.2.2.length) r (k+1)).foldl (λo d=>visit p sg o (c++(k::d))) s)) (λo=>match o with|.inl s=>s|.inr _=>[])
   (λrec k s hk hi=>by
    have hkm:(k - fr) * 11 ^ r<=10 * 11 ^ r:=Co _ (by omega)
    show cond (decide ((k:Int) < (R.length:Int))) _ _=_
    rw[hR,BC hk,Ac,wb (by rw[Rs];unfold lim;omega)]
    simp only[Aa]
    rw[AZ (by rw[Rs];simp;unfold lim;omega),BQ hk hNm,show cI c++[(k:Int)]=cI (c++[k])from by rw[rc];rfl,bP hv hR hrt hA hB r (c++[k]) (k+1) f s (by rw[AR];simp;omega) (by omega) (λe he=>by
     rcases An.1 he with he|he
     ·exact hin e he
     ·rw[AV]at he;subst he;exact hk) (by omega) (by omega) hi.2.2]
    simp only[Aa,Bd,Gr])
   (λrec s hi=>by
    show cond (decide (((p.2.1.length+p.2.2.length:Nat):Int) < (R.length:Int))) _ _=_
    rw[hR,Bl];rfl)
   (λk s s' hk hi hs=>by
    cases hs
    refine⟨by omega,?_,?_⟩
    ·have h1:=U5 (f:=λo d=>visit p sg o (c++(k::d))) (λs x=>VD p sg s _) (NQ (p.2.1.length+p.2.2.length) r (k+1)) s
     have h2:=Si (t:=p.2.1.length+p.2.2.length) (by omega) r (k+1)
     rw[show k+1 - fr=(k - fr)+1 from by omega,E3]
     have:=hi.2.1
     refine By h1 ?_
     omega
    ·have:=bH (p:=p) (sg:=sg) (c:=c++[k]) (NQ (p.2.1.length+p.2.2.length) r (k+1)) s (λd hd=>by
      rw[AR,AR,(W1 hd).1];simp;unfold lim;omega) hi.2.2
     simpa only[Bd,Gr]using this) (p.2.1.length+p.2.2.length - fr) fr out fz (by omega) (by unfold fz;omega) ⟨A9 _,by simp,hol⟩
  rw[hl,Tx (λs k=>(NQ (p.2.1.length+p.2.2.length) r (k+1)).foldl (λo d=>visit p sg o (c++(k::d))) s)]
  simp only[Aa]
  rw[<-mS _ r fr hfr,foldl_flat]
  simp only[List.foldl_map]
end
theorem iE{p:LP}{i:Nat}(hi:i < p.2.2.length)(h:p.2.2.length<=lim):Aq (Na p (i:Int)) fz ([],0)=some (S8 p.2.2.length i):=by
 have hl:=Ex (B:=Na p (i:Int)) (n:=p.2.2.length) (O:=Unit) (λ(s:List Rt) k=>(s,(k:Int))) (λk s=>s.length=k) (λk s=>.inl (s++[(if i=k then(1:Int)else 0,(1:Int))])) (λo=>match o with|.inl s=>s|.inr _=>[]) h (λrec k s hk hs=>by
  show cond (decide ((k:Int) < (p.2.2.length:Int))) _ _=_
  rw[BC hk,Ac,show((i:Int)==(k:Int))=decide (i=k)from by rw[AG,Bi,decide_eq_true_iff];omega]
  unfold OV
  by_cases e:i=k
  ·rw[Ai e,AJ e,Ac]
   simp only[Aa]
   rw[AZ (by rw[hs];simp;unfold lim at h⊢;omega),BQ hk (Bo h)]
  ·rw[Ah e,AN e,Ad]
   simp only[Aa]
   rw[AZ (by rw[hs];simp;unfold lim at h⊢;omega),BQ hk (Bo h)]) (λrec s _=>by
  show cond (decide ((p.2.2.length:Int) < (p.2.2.length:Int))) _ _=_
  rw[Bl];rfl) (λk s s' hk hi hs=>by cases hs;simp[hi]) [] rfl
 rw[show((0:Nat):Int)=0 from rfl]at hl
 rw[hl,X0]
 simp only[Bh]
 congr 1
 unfold S8
 apply Eu
 ·simp
 ·intro k h1 h2
  rw[BU,FP,Ev]
  simp only[CL,F4,List.getElem_replicate]
  split<;>rfl
theorem jM{p:LP}{sg:Int}(hv:Ok p=true):Np p sg=some (Om p sg):=by
 obtain⟨h1,h2,h3,h4,h5,h6⟩:=Ku hv
 have hl:p.2.2.length<=lim:=by unfold lim;omega
 unfold Np
 rw[AZ (by rw[h5];simp;unfold lim;omega)]
 unfold Hh
 rw[AZ (by simp;unfold lim;omega),Bh,Bh]
 simp only[Aa]
 have hr:=Ex (B:=Ql p) (n:=p.2.2.length) (O:=Unit) (λ(s:Mx×List Rt) k=>(s.1,s.2,(k:Int))) (λk s=>s.1.length=p.2.1.length+k∧s.2.length=p.2.1.length+k) (λk s=>.inl (s.1++[S8 p.2.2.length k],s.2++[((0:Int),(1:Int))])) (λo=>match o with|.inl s=>s|.inr _=>([],[])) hl (λrec k s hk hi=>by
  show cond (decide ((k:Int) < (p.2.2.length:Int))) _ _=_
  rw[BC hk,Ac,iE hk hl]
  simp only[Aa]
  rw[AZ (by rw[hi.1];simp;unfold lim;omega),AZ (by rw[hi.2];simp;unfold lim;omega),BQ hk (Bo hl)]) (λrec s hi=>by
  show cond (decide ((p.2.2.length:Int) < (p.2.2.length:Int))) _ _=_
  rw[Bl];rfl) (λk s s' hk hi hs=>by cases hs;exact⟨by simp[hi.1];omega,by simp[hi.2];omega⟩) (p.1,p.2.1) ⟨h5,rfl⟩
 rw[show((0:Nat):Int)=0 from rfl]at hr
 rw[hr,OB (λk=>S8 p.2.2.length k) (λ_=>((0:Int),(1:Int)))]
 simp only
 unfold NX
 have hR:(p.1++(List.range' 0 p.2.2.length).map λk=>S8 p.2.2.length k).length=p.2.1.length+p.2.2.length:=by simp[h5]
 have hrt:(p.2.1++(List.range' 0 p.2.2.length).map λ_=>((0:Int),(1:Int))).length=p.2.1.length+p.2.2.length:=by simp
 have hc:=bP (p:=p) (R:=p.1++(List.range' 0 p.2.2.length).map λk=>S8 p.2.2.length k) (rt:=p.2.1++(List.range' 0 p.2.2.length).map λ_=>((0:Int),(1:Int))) (sg:=sg) hv hR hrt (λj hj=>by
  rw[<-I6 (by rw[hR];exact hj)]
  unfold rowAt
  split
  ·rename_i hm
   rw[Hn (by rw[h5];exact hm),I6]
  ·rename_i hm
   rw[GV (by rw[h5];omega),BU,FP]
   simp[h5]) (λj hj=>by
  rw[<-JH (by rw[hrt];exact hj)]
  unfold Ft
  split
  ·rename_i hm
   rw[Hn hm,JH]
  ·rename_i hm
   rw[GV (by omega),BU]) p.2.2.length [] 0 fz [] (by simp) (by omega) (by simp) (by unfold fz;omega) (by have:=fG h2;simp;unfold lim;omega) (λr hr=>by simp at hr)
 rw[show((0:Nat):Int)=0 from rfl,show cI []=[]from rfl]at hc
 rw[hc]
 simp only[Bh]
 rfl
theorem MM{q:IZ}(h:DD q=true):1<=q.1∧q.1<=5∧q.2.1.length<=4∧∀a∈q.2.1,a.2.length<=5∧∀v∈a.2,0<=v∧v < q.1:=by
 have e1:=MN h
 unfold DD at h
 simp only[Ab,AD]at h
 obtain⟨h1,h2,-,h4,-⟩:=h
 have e2:1<=(q.2.1.length:Int)∧(q.2.1.length:Int)<=4:=by unfold JP at h2;simpa using h2
 refine⟨e1.1,e1.2,by omega,λa ha=>?_⟩
 obtain⟨k,hk,rfl⟩:=CJ.1 ha
 have h5:=Lo h4 hk
 unfold Mn at h5
 simp only[C2,C6]at h5
 have e3:1<=((q.2.1[k]).2.length:Int)∧((q.2.1[k]).2.length:Int)<=5:=by have:=h5.2.1;unfold JP at this;simpa using this
 refine⟨by omega,λv hv=>?_⟩
 obtain⟨j,hj,rfl⟩:=CJ.1 hv
 have h6:=Lo h5.2.2 hj
 simp only[C6]at h6
 rw[wrap_in (by omega)]at h6
 unfold JP at h6
 simp only[Ab,AB]at h6
 omega
theorem bG(l:List Int)(v:Int):decide (RY l v < 0)= !l.contains v:=by
 rw[<-Nh]
 by_cases h:0<=RY l v
 ·rw[Ai h,Ah (by omega)];rfl
 ·rw[Ah h,Ai (by omega)];rfl
def gd{α:Type}(g:α->List Int)(l:List α)(p:List Int)(n:Nat):Bool:=(List.range n).any λv=>((TC g l p (v:Int) p.length:Nat):Int)!=1
theorem ml{B:(Int->Option (Sum Unit Bool))->Int->Option (Sum Unit Bool)}{n:Int}(hn:1<=n∧n<=5)(f:Int->Int)(hB:∀rec v,B rec v=cond (decide (v < n)) (cond (f v !=1) (some (.inr false)) (rec (IntKind.i64.wrap (v+1)))) (some (.inl ()))):
  Aq B fz 0=some (cond ((List.range n.toNat).any λv=>f (v:Int)!=1) (.inr false) (.inl ())):=by
 refine Iv (λv=>f (v:Int)!=1) (by unfold lim;omega) (λk hk rec=>?_) (λrec=>?_)
 ·rw[hB,Ai (by omega:(k:Int) < n),wrap_in (by omega),Ac];rfl
 ·rw[hB,Ah (by omega:¬((n.toNat:Nat):Int) < n)];rfl
theorem nz{m n:Nat}(h:((m:Int)==(n:Int))=true):m=n:=by have h:=eq_of_beq h;omega
theorem iB{p:List Int}(h:UA p=true):wide p:=by
 unfold UA at h
 simp only[Ab,AD]at h
 exact aU λi hi=>by have:=Lo h.1 hi;simp at this;exact this.1
theorem dZ{α:Type}(l:List α)(f g:Nat->α->Bool):Cw l (λk e=>f k e || g k e)=(Cw l f || Cw l g):=by
 unfold Cw
 induction List.range l.length with
 |nil=>rfl
 |cons k ks ih=>
  rw[E8,E8,E8,ih]
  unfold Mf
  cases l[k]? with
  |none=>simp
  |some e=>
   simp only
   cases f k e<;>cases g k e<;>simp
def cr(n:Int)(e:Int):Bool:= !JP e 0 (IntKind.i64.wrap (n - 1))
def TK(n:Int)(b:List Int):Bool:=(!Cw b λk e=>cr n e || NH b k e)&&decide (0 < (b.length:Int))
theorem xT{q:IZ}{b:List Int}(h:b.length<=lim):PM q b=some (TK q.1 b):=by
 unfold PM TK Cw
 rw[Iv (λk=>Mf b k λe=>cr q.1 e || NH b k e) h (λk hk rec=>by
  unfold M0 KK
  rw[BC hk,BL hk,BQ hk (Bo h),DH hk]
  simp only[Ac,HG,Ni,cr,NH]
  cases JP b[k] 0 (IntKind.i64.wrap (q.1 - 1))with
  |false=>rfl
  |true=>
   by_cases h0:0 < k
   ·have hk':k - 1 < b.length:=by omega
    rw[ms hk h0 (Bo h),BL hk',DH hk',Ai (by omega:(0:Int) < (k:Int)),Ai h0]
    rfl
   ·rw[Ah (by omega:¬(0:Int) < (k:Int)),Ah h0];rfl) (λrec=>by unfold M0;rw[Bl];rfl)]
 cases(List.range b.length).any λk=>Mf b k λe=>cr q.1 e || NH b k e<;>rfl
theorem iM{l:List Int}(h:Cw l (NH l)=false):∀(d j:Nat) (hd:j+1+d < l.length),l[j]'(by omega) < l[j+1+d]'hd
 |0,j,hd=>by
  have:=Lo h hd
  unfold NH at this
  rw[Ai (by omega),AC,DH (by omega:j+1+0 - 1 < l.length)]at this
  simp only[HJ,Int.not_le]at this
  exact this
 |d+1,j,hd=>by
  have h1:=iM h d j (by omega)
  have h2:=Lo h hd
  unfold NH at h2
  rw[Ai (by omega),AC,DH (by omega:j+1+(d+1) - 1 < l.length)]at h2
  simp only[HJ,Int.not_le]at h2
  have e:l[j+1+(d+1) - 1]'(by omega)=l[j+1+d]'(by omega):=by congr 1
  rw[e]at h2
  omega
theorem oJ{n:Int}{l:List Int}(h:Cw l (NH l)=false):Cw l (Hr n l)=Cw l λ_ e=>cr n e:=by
 have e:Cw l (Hr n l)=(Cw l (λ_ e=>cr n e) || Cw l (λk e=>(l.take k).contains e)):=by
  rw[<-dZ];rfl
 have e2:Cw l (λk e=>(l.take k).contains e)=false:=L7 λi hi=>by
  rw[<-Jc,Av]
  intro hm
  obtain⟨j,hj,he⟩:=CJ.1 hm
  rw[Bk]at hj
  rw[List.getElem_take]at he
  have:=iM h (i - j - 1) j (by omega)
  have e3:l[j+1+(i - j - 1)]'(by omega)=l[i]:=by congr 1;omega
  rw[e3]at this
  omega
 rw[e,e2,C0]
theorem pw{q:IZ}{b:List Int}(h:b.length<=lim):OW q b=some (TK q.1 b):=by
 unfold OW Lr TK
 simp only[v7 h,jS h,HG]
 rw[dZ]
 cases hu:Cw b (NH b)with
 |true=>cases decide (0 < (b.length:Int))<;>simp
 |false=>
  rw[oJ hu]
  cases decide (0 < (b.length:Int))<;>cases(Cw b λ_ e=>cr q.1 e)<;>rfl
def YH(a:Atm)(k:Nat):List Int:=((List.range k).filter λ(v:Nat)=>a.2.contains (v:Int)).map λ(v:Nat)=>(v:Int)
theorem vE(a:Atm)(k:Nat):YH a (k+1)=YH a k++cond (a.2.contains (k:Int)) [(k:Int)] []:=by
 unfold YH
 rw[CK,Dl,BY,Dr,Gp]
 cases a.2.contains (k:Int)<;>rfl
theorem ZF(a:Atm)(k:Nat):(YH a k).length<=k:=by
 unfold YH
 rw[Ar]
 exact By (BR _ _) (by simp)
theorem v9{a:Atm}(h:a.2.length<=lim)(hcv:∀v,CO a v=some (a.2.contains v)):FR a=some (YH a 5):=by
 unfold FR
 have:=CB (body:=FO a) (out:=YH a 5) (λk=>(YH a k,(k:Int))) 5 (λk hk rec=>by
  have hl:=ZF a k
  unfold FO Hw
  simp only
  rw[Ai (by omega:(k:Int) < 5),hcv,wrap_in (by omega),vE]
  simp only[Ac,HG]
  cases a.2.contains (k:Int)with
  |true=>rw[Ac,AZ (by unfold lim;simp;omega)];rfl
  |false=>rw[Ad,Ad,Bm];rfl) (λrec=>by unfold FO;simp only;rfl) fz (by unfold fz;omega)
 rw[show((([]:List Int),(0:Int)))=(YH a 0,((0:Nat):Int))from rfl,this]
 rfl
theorem jy{α:Type}(f:α->Bool){l:List α}{k:Nat}(hk:k < l.length):(l.take (k+1)).filter f=(l.take k).filter f++cond (f l[k]) [l[k]] []:=by
 rw[Au hk,Dl,Dr,Gp]
 cases f l[k]<;>rfl
theorem Xi{a b:List Int}(ha:a.length < lim)(hb:b.length<=lim):Md a b=some (a.filter b.contains):=by
 unfold Md
 have:=CB (body:=Kn a b) (out:=a.filter b.contains) (λk=>((a.take k).filter b.contains,(k:Int))) a.length (λk hk rec=>by
  have hl:((a.take k).filter b.contains).length<=k:=By (BR _ _) (by simp;omega)
  unfold Kn Mv
  simp only
  rw[BC hk,BL hk,BQ hk (Bo (by omega)),jy _ hk]
  simp only[Ac,HG,VL hb]
  cases b.contains a[k]with
  |true=>rw[Ac,AZ (by simp only[Cs];omega)];rfl
  |false=>rw[Ad,Ad,Bm]) (λrec=>by unfold Kn;simp only;rw[Bl,A5];rfl) fz (CR (by omega))
 rw[show((([]:List Int),(0:Int)))=((a.take 0).filter b.contains,((0:Nat):Int))from by simp,this]
 rfl
def Vj(a:Atm)(b:List Int):Bool:=a.2.all b.contains
theorem nn{a:Atm}(h:∀v∈a.2,0<=v∧v < 5)(b:List Int):(((((YH a 5).filter b.contains).length:Nat):Int)==(((YH a 5).length:Nat):Int))=Vj a b:=by
 have e1:(((((YH a 5).filter b.contains).length:Nat):Int)==(((YH a 5).length:Nat):Int))=true↔((YH a 5).filter b.contains).length=(YH a 5).length:=by
  rw[Bi];omega
 rw[AG,e1,List.length_filter_eq_length_iff]
 unfold Vj
 rw[Af]
 constructor
 ·intro hh v hv
  have hb:=h v hv
  refine hh v ?_
  unfold YH
  rw[Bw]
  exact⟨v.toNat,Be.2 ⟨Al.2 (by omega),by rw[show((v.toNat:Nat):Int)=v by omega];simpa using hv⟩,by omega⟩
 ·intro hh v hv
  unfold YH at hv
  rw[Bw]at hv
  obtain⟨n,hn,rfl⟩:=hv
  have:=(Be.1 hn).2
  exact hh _ (by simpa using this)
theorem pj{α:Type}(f:α->Bool){l:List α}{k:Nat}(hk:k < l.length):(l.take (k+1)).any f=((l.take k).any f || f l[k]):=by
 rw[Au hk,Gn];simp
def mY(q:IZ)(x:List (List Int)×List Int):Bool:=DD q&&(((x.2.length:Int)==(x.1.length:Int))&&(cL x.2&&((!Cw x.1 λ_ b=> !TK q.1 b)&&((!Cw q.2.1 λ_ a=> !x.1.any (Vj a))&& !gd id x.1 x.2 q.1.toNat))))
def l0(x:List (List Int)×List Int):Prop:=x.1.length < lim∧(∀b∈x.1,b.length < lim)∧x.2.length < lim
theorem wh{q:IZ}{x:List (List Int)×List Int}(hq:LF q)(hv:DD q=true)(hcv:∀a:Atm,a.2.length<=lim->∀v,CO a v=some (a.2.contains v))(hx:l0 x):Aq (E5 q x) fz 0=some (cond (Cw q.2.1 λ_ a=> !x.1.any (Vj a)) (.inr false) (.inl ())):=by
 have hf:=MM hv
 unfold Cw
 refine Iv (λk=>Mf q.2.1 k λa=> !x.1.any (Vj a)) hq.1 (λk hk rec=>?_) (λrec=>by unfold E5;rw[Bl];rfl)
 have ha:=(hq.2.1 _ (Ao hk)).2
 have hav:=v9 ha (hcv _ ha)
 have hv5:∀v∈q.2.1[k].2,0<=v∧v < 5:=λv hv=>by have:=(hf.2.2.2 _ (Ao hk)).2 v hv;omega
 have hin:Aq (DA x q.2.1[k]) fz (false,0)=some (x.1.any (Vj q.2.1[k])):=by
  have:=CB (body:=DA x q.2.1[k]) (out:=x.1.any (Vj q.2.1[k])) (λj=>((x.1.take j).any (Vj q.2.1[k]),(j:Int))) x.1.length (λj hj rec=>by
   have hl:=ZF q.2.1[k] 5
   unfold DA E6
   simp only
   rw[BC hj,BL hj,BQ hj (Bo (Df hx.1)),pj _ hj]
   simp only[Ac,HG,hav,Xi (a:=YH q.2.1[k] 5) (b:=x.1[j]) (by unfold lim;omega) (Df (hx.2.1 _ (Ao hj))),nn hv5]
   cases(x.1.take j).any (Vj q.2.1[k])<;>rfl) (λrec=>by unfold DA;simp only;rw[Bl,A5];rfl) fz (CR (Df hx.1))
  simpa using this
 unfold E5
 rw[BC hk,BL hk,HG,hin,BQ hk (Bo hq.1),DH hk]
 rfl
theorem dl{a:Atm}(h:a.2.length<=lim)(v:Int):CO a v=some (a.2.contains v):=by
 unfold CO
 simp only[VL h,HG]
theorem wc{q:IZ}{x:List (List Int)×List Int}(hq:LF q)(hx:l0 x):FL q x=some (mY q x):=by
 unfold FL mY
 simp only[Mr hq,HG,jJ hx.2.2]
 rw[show((x.1.length:Int)!=(x.2.length:Int))= !((x.2.length:Int)==(x.1.length:Int))from by rw[bne];congr 1;rw[AG];simp;omega]
 cases hv:DD q with
 |false=>rfl
 |true=>
  cases hl:((x.2.length:Int)==(x.1.length:Int))with
  |false=>rfl
  |true=>
   have hn:=nz hl
   rw[<-ge]
   cases ht:UA x.2 with
   |false=>rfl
   |true=>
    have hloop:Aq (E4 q x) fz 0=some (cond (Cw x.1 λ_ b=> !TK q.1 b) (.inr false) (.inl ())):=by
     unfold Cw
     refine Iv (λk=>Mf x.1 k λb=> !TK q.1 b) (Df hx.1) (λk hk rec=>?_) (λrec=>by unfold E4;rw[Bl];rfl)
     unfold E4
     rw[BC hk,BL hk,BQ hk (Bo (Df hx.1)),DH hk]
     simp only[Ac,HG,pw (Df (hx.2.1 _ (Ao hk)))]
    simp only[Aj,Ad,AC]
    rw[hloop,HG]
    cases(Cw x.1 λ_ b=> !TK q.1 b)with
    |true=>rfl
    |false=>
     simp only[Ad,Dn,AC]
     rw[wh hq hv (λa ha v=>dl ha v) hx,HG]
     cases(Cw q.2.1 λ_ a=> !x.1.any (Vj a))with
     |true=>rfl
     |false=>
      simp only[Ad,Dn,AC]
      rw[ml (MN hv) (λv=>((TC id x.1 x.2 v x.2.length:Nat):Int)) (λrec v=>by
       unfold Js
       rw[rV (iB ht) hn.symm (Df hx.2.2) (λl hl=>Df (hx.2.1 l hl))]
       rfl)]
      unfold gd
      cases(List.range q.1.toNat).any λv=>((TC id x.1 x.2 (v:Int) x.2.length:Nat):Int)!=1<;>rfl
end Go.Proofs.YtckmdkajoiegmaaGreatDoor
