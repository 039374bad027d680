/-
 Finding a relation, and when a dependency is valid: the reference and the program agree. On the printed functions; conditions: lengths.
-/
import Derived.Test.YtplejokflpkcbaaGreatDoorVaPC1
import Derived.Test.YtplejokflpkcbaaGreatDoorKe
open Go.RowKit
set_option linter.unusedVariables false
set_option linter.unusedSimpArgs false
namespace Go.Proofs.YtplejokflpkcbaaGreatDoor
theorem bS{α β:Type}{a:List α}{h:α->β}{B:(List β×Int->Option (List β))->List β×Int->Option (List β)}(hl:a.length<=lim)
  (h1:∀k (hk:k < a.length),∀rec,B rec ((a.take k).map h,(k:Int))=rec ((a.take k).map h++[h a[k]],((k+1:Nat):Int))) (h2:∀rec y,B rec (y,(a.length:Int))=some y):Ap B fz ([],0)=some (a.map h):=by
 have:=Cs (body:=B) (out:=a.map h) (λk=>((a.take k).map h,(k:Int))) a.length (λk hk rec=>by
  rw[h1 k hk,AB hk,BU];rfl) (λrec=>by rw[h2,A6]) fz (CQ hl)
 simpa using this
def Oq(l:List Int)(k:Nat)(e:Int):Bool:=decide (0 < k)&&J6 l (k - 1) λq=>decide (e<=q)
theorem By{S O:Type}(body:(S->Option O)->S->Option O)(n:Nat)(s:S):Ap body (n+1) s=body (Ap body n) s:=rfl
def QU(l:List Int)(rec:Int->Option (Sum Unit Bool))(i:Int):Option (Sum Unit Bool):=if i=0 then(if l.length=0 then some (.inl ())else rec 1)else B4 l rec i
theorem uC{l:List Int}(h:l.length<=lim):Gg l=some (!B9 l (Oq l)):=by
 unfold Gg B9
 have hB:Ap (B4 l) fz 1=some (cond ((List.range l.length).any λk=>J6 l k (Oq l k)) (.inr false) (.inl ())):=by
  have h0:=W6 (M:=fz+1) (B:=QU l) (λk=>J6 l k (Oq l k)) (Nat.lt_succ_of_lt (CQ h)) (λk hk rec=>by
   by_cases hz:k=0
   ·subst hz
    rw[CP hk]
    unfold QU
    rw[AI (show((0:Nat):Int)=0 from rfl),AJ (by omega)]
    simp[Oq]
   ·have hk':k - 1 < l.length:=by omega
    have hz':¬((k:Int)=0):=by omega
    unfold QU
    rw[AJ hz']
    unfold B4
    rw[Bu hk,Bm hk,BC hk (Be h),lK hk (by omega) (Be h),Bm hk',CP hk]
    simp only[Ac,Aa,Oq]
    rw[CP hk',Ag (by omega:0 < k)]
    simp only[Aw]) (λrec=>by
   by_cases hz:l.length=0
   ·unfold QU;rw[hz];rfl
   ·have hz':¬((l.length:Int)=0):=by omega
    unfold QU
    rw[AJ hz']
    unfold B4
    rw[Ba];rfl)
  have same:∀m (k:Nat),0 < k->Ap (QU l) m (k:Int)=Ap (B4 l) m (k:Int):=by
   intro m
   induction m with
   |zero=>intro k _;rfl
   |succ m ih=>
    intro k hk
    have hz:¬((k:Int)=0):=by omega
    have ea:∀rec,QU l rec (k:Int)=B4 l rec (k:Int):=λrec=>by unfold QU;rw[AJ hz]
    show QU l (Ap (QU l) m) (k:Int)=B4 l (Ap (B4 l) m) (k:Int)
    rw[ea]
    have e:∀rec,B4 l rec (k:Int)=cond (decide ((k:Int) < (List.length l:Int))) (Aa (AZ l (IntKind.i64.wrap ((k:Int) - 1))) λe5=>Aa (AZ l (k:Int)) λe7=>cond (decide (e7<=e5)) (some (.inr false)) (rec (IntKind.i64.wrap ((k:Int)+1)))) (some (.inl ())):=λrec=>rfl
    rw[e,e]
    by_cases q:k < l.length
    ·rw[BC q (Be h),ih (k+1) (by omega)]
    ·rw[Ah (by omega:¬(k:Int) < (l.length:Int))];rfl
  by_cases hz:l.length=0
  ·have e1:(List.range l.length).any (λk=>J6 l k (Oq l k))=false:=by rw[hz];rfl
   rw[e1]
   refine Cs (body:=B4 l) (λ_=>1) 0 (λk hk=>absurd hk (by omega)) (λrec=>?_) fz (by unfold fz;omega)
   unfold B4
   rw[hz];rfl
  ·have h2:Ap (QU l) (fz+1) 0=Ap (B4 l) fz ((1:Nat):Int):=by
    have e0:∀rec,QU l rec 0=rec 1:=λrec=>by unfold QU;rw[AI rfl,AJ hz]
    rw[By,e0]
    exact same fz 1 (by omega)
   rw[h2]at h0
   exact h0
 rw[hB]
 cases(List.range l.length).any λk=>J6 l k (Oq l k)<;>rfl
theorem Po{O:Type}{B:(Int->Option (Sum Unit O))->Int->Option (Sum Unit O)}{n:Nat}(g:Nat->Option O)(hn:n<=lim)
  (h1:∀k,k < n->∀rec,B rec (k:Int)=match g k with|some o=>some (.inr o)|none=>rec ((k+1:Nat):Int)) (h2:∀rec,B rec (n:Int)=some (.inl ())):
  Ap B fz 0=some (match(List.range n).findSome? g with|some o=>.inr o|none=>.inl ()):=by
 have key:∀d k,k+d=n->∀m,d < m->Ap B m (k:Int)=some (match(List.range' k d).findSome? g with|some o=>.inr o|none=>.inl ()):=by
  intro d
  induction d with
  |zero=>
   intro k hk m hm
   cases m with
   |zero=>omega
   |succ m=>
    show B (Ap B m) (k:Int)=_
    rw[show k=n by omega,h2];rfl
  |succ d ih=>
   intro k hk m hm
   cases m with
   |zero=>omega
   |succ m=>
    show B (Ap B m) (k:Int)=_
    rw[h1 k (by omega),C4,List.findSome?_cons]
    cases hg:g k with
    |some o=>rfl
    |none=>exact ih (k+1) (by omega) m (by omega)
 have:=key n 0 (by omega) fz (CQ hn)
 rw[ES]
 simpa using this
theorem KF{α:Type}{l:List α}{f:Nat->α->Bool}(h:B9 l f=false){k:Nat}(hk:k < l.length):f k l[k]=false:=by
 unfold B9 at h
 rw[Cm]at h
 have:=h k (An.2 hk)
 rw[CP hk]at this
 simpa using this
theorem g5{S:Type}{B:(S×Int->Option (Sum S Bool))->S×Int->Option (Sum S Bool)}{n:Nat}(s:Nat->S)(bad:Nat->Bool)(hn:n<=lim)(h1:∀k,k < n->∀rec,B rec (s k,(k:Int))=cond (bad k) (some (.inr false)) (rec (s (k+1),((k+1:Nat):Int))))(h2:∀rec,B rec (s n,(n:Int))=some (.inl (s n))):
  Ap B fz (s 0,0)=some (cond ((List.range n).any bad) (.inr false) (.inl (s n))):=by
 have key:∀d k,k+d=n->(∀j,j < k->bad j=false)->∀m,d < m->Ap B m (s k,(k:Int))=some (cond ((List.range n).any bad) (.inr false) (.inl (s n))):=by
  intro d
  induction d with
  |zero=>
   intro k hk hb m hm
   cases m with
   |zero=>omega
   |succ m=>
    have hkn:k=n:=by omega
    have:(List.range n).any bad=false:=by
     rw[Cm]
     intro x hx
     rw[hb x (by have:=An.1 hx;omega)];simp
    show B (Ap B m) (s k,(k:Int))=_
    rw[hkn,h2,this];rfl
  |succ d ih=>
   intro k hk hb m hm
   cases m with
   |zero=>omega
   |succ m=>
    show B (Ap B m) (s k,(k:Int))=_
    rw[h1 k (by omega)]
    cases hbk:bad k with
    |true=>
     have:(List.range n).any bad=true:=by rw[Cg];exact⟨k,An.2 (by omega),hbk⟩
     rw[this];rfl
    |false=>
     exact ih (k+1) (by omega) (λj hj=>by
      rcases BV j k with h|h
      ·exact hb j h
      ·rw[show j=k by omega];exact hbk) m (by omega)
 have:=key n 0 (by omega) (λj hj=>absurd hj (by omega)) fz (CQ hn)
 simpa using this
def UI(l:List Int)(v:Int):Option Nat:=(List.range l.length).findSome? λk=>if(J6 l k λe=>e==v)=true then some k else none
theorem Xy(l:List Int)(v:Int):(UI l v).isSome=l.contains v:=by
 unfold UI
 rw[AL,List.findSome?_isSome_iff,Av]
 constructor
 ·rintro⟨k,hk,h⟩
  have hk:=An.1 hk
  split at h
  ·rename_i he;rw[CP hk]at he;have:l[k]=v:=by simpa using he
   rw[<-this];exact Ak hk
  ·cases h
 ·intro h
  obtain⟨k,hk,rfl⟩:=Cx.1 h
  exact⟨k,An.2 hk,by rw[CP hk];simp⟩
def SE(l:List Int)(v:Int):Int:=match UI l v with
 |some k=>(k:Int)
 |none=> -1
theorem MU(l:List Int)(v:Int):decide (0<=SE l v)=l.contains v:=by
 rw[<-Xy]
 unfold SE
 cases UI l v with
 |some k=>simp
 |none=>rfl
theorem QM{l:List Int}(h:l.length<=lim)(v:Int):FJ l v=some (SE l v):=by
 unfold FJ SE UI
 rw[Po (O:=Int) (λk=>if(J6 l k λe=>e==v)=true then some (k:Int)else none) h (λk hk rec=>by
  unfold P8
  rw[Bu hk,Bm hk,BC hk (Be h),CP hk]
  simp only[Ac,Aa]
  cases(l[k]==v)<;>rfl) (λrec=>by unfold P8;rw[Ba];rfl)]
 have e:((List.range l.length).findSome? λk=>if(J6 l k λe=>e==v)=true then some (k:Int)else none)=((List.range l.length).findSome? λk=>if(J6 l k λe=>e==v)=true then some k else none).map (λk:Nat=>(k:Int)):=by
  rw[FD]
  congr 1
  funext k
  simp only[Function.comp]
  split<;>rfl
 rw[e]
 cases(List.range l.length).findSome? λk=>if(J6 l k λe=>e==v)=true then some k else none<;>rfl
theorem qn{l:List Int}(h:l.length<=lim)(v:Int):O5 l v=some (SE l v):=by
 unfold O5 SE UI
 rw[Po (O:=Int) (λk=>if(J6 l k λe=>e==v)=true then some (k:Int)else none) h (λk hk rec=>by
  unfold OO
  rw[Bu hk,Bm hk,BC hk (Be h),CP hk]
  simp only[Ac,Aa]
  cases(l[k]==v)<;>rfl) (λrec=>by unfold OO;rw[Ba];rfl)]
 have e:((List.range l.length).findSome? λk=>if(J6 l k λe=>e==v)=true then some (k:Int)else none)=((List.range l.length).findSome? λk=>if(J6 l k λe=>e==v)=true then some k else none).map (λk:Nat=>(k:Int)):=by
  rw[FD]
  congr 1
  funext k
  simp only[Function.comp]
  split<;>rfl
 rw[e]
 cases(List.range l.length).findSome? λk=>if(J6 l k λe=>e==v)=true then some k else none<;>rfl
theorem Wp{l:List Int}(h:l.length<=lim)(v:Int):Gt l v=some (l.contains v):=by
 unfold Gt
 simp only[qn h,Aa,MU]
abbrev SR:=List UInt8×List Int
abbrev Hc:=Int×List SR×List Int
theorem X9{a:SR}(h:a.2.length<=lim)(v:Int):Cp a v=some (a.2.contains v):=by
 unfold Cp
 rw[Po (O:=Bool) (λk=>if(J6 a.2 k λe=>e==v)=true then some true else none) h (λk hk rec=>by
  unfold IA
  rw[Bu hk,Bm hk,BC hk (Be h),CP hk]
  simp only[Ac,Aa]
  cases(a.2[k]==v)<;>rfl) (λrec=>by unfold IA;rw[Ba];rfl)]
 rw[<-Xy]
 have e:((List.range a.2.length).findSome? λk=>if(J6 a.2 k λe=>e==v)=true then some true else none)=(UI a.2 v).map (λ_=>true):=by
  unfold UI
  rw[FD]
  congr 1
  funext k
  simp only[Function.comp]
  split<;>rfl
 rw[e]
 cases UI a.2 v<;>rfl
def G7(n:Int)(l:List Int)(k:Nat)(e:Int):Bool:= !Iw e 0 (IntKind.i64.wrap (n - 1)) || (l.take k).contains e
theorem SN{α:Type}(l:List α)(k:Nat):Hk l 0 (k:Int)=l.take k:=by simp[Hk]
theorem ji{l:List Int}(h:l.length<=lim)(n:Int):Lk l n=some (!B9 l (G7 n l)):=by
 unfold Lk B9
 rw[Gq (λk=>J6 l k (G7 n l k)) h (λk hk rec=>by
  unfold OP
  rw[Bu hk,Bm hk,BC hk (Be h),CP hk]
  simp only[Ac,Aa,IS]
  rw[AH (by omega),SN]
  simp only[Wp (l:=l.take k) (by rw[Bb];omega),G7]
  cases Iw l[k] 0 (IntKind.i64.wrap (n - 1))<;>rfl) (λrec=>by unfold OP;rw[Ba];rfl)]
 cases(List.range l.length).any λk=>J6 l k (G7 n l k)<;>rfl
def Mi(n:Int)(a:SR):Bool:= !nmB a.1 || (!Iw (a.2.length:Int) 1 5 || B9 a.2 λ_ v=> !Iw v 0 (IntKind.i64.wrap (n - 1)))
def JH(q:Hc):Prop:=q.2.1.length<=lim∧(∀a∈q.2.1,a.1.length<=lim∧a.2.length<=lim)∧q.2.2.length<=lim
def IF(l:List SR)(v:Int):Bool:=l.any λa=>a.2.contains v
theorem ny{q:Hc}(h:JH q):Ap (Ik q) fz 0=some (cond (B9 q.2.1 λ_ a=>Mi q.1 a) (.inr false) (.inl ())):=by
 unfold B9
 refine Gq (λk=>J6 q.2.1 k λa=>Mi q.1 a) h.1 (λk hk rec=>?_) (λrec=>by unfold Ik;rw[Ba];rfl)
 have ha:=h.2.1 _ (Ak hk)
 unfold Ik
 rw[Bu hk,Bm hk,BC hk (Be h.1),CP hk]
 simp only[Ac,Aa,sS ha.1,LW,Mi]
 cases nmB q.2.1[k].1 with
 |false=>rfl
 |true=>
  cases Iw (q.2.1[k].2.length:Int) 1 5 with
  |false=>rfl
  |true=>
   simp only[Al,Ad,Ck]
   rw[Gq (λj=>J6 q.2.1[k].2 j λv=> !Iw v 0 (IntKind.i64.wrap (q.1 - 1))) ha.2 (λj hj rec=>by
    unfold K3
    rw[Bm hk]
    simp only[Aa]
    rw[Bu hj,Bm hj,BC hj (Be ha.2),CP hj]
    simp only[Ac,LW]) (λrec=>by unfold K3;rw[Bm hk];simp only[Aa];rw[Ba];rfl)]
   unfold B9
   cases(List.range q.2.1[k].2.length).any λj=>J6 q.2.1[k].2 j λv=> !Iw v 0 (IntKind.i64.wrap (q.1 - 1))<;>rfl
theorem sX{q:Hc}(h:JH q)(v:Int):Ap (FH q v) fz (false,0)=some (IF q.2.1 v):=by
 have:=Cs (body:=FH q v) (out:=IF q.2.1 v) (λk=>(IF (q.2.1.take k) v,(k:Int))) q.2.1.length (λk hk rec=>by
  have ha:=h.2.1 _ (Ak hk)
  unfold FH In
  simp only
  rw[Bu hk,Bm hk,BC hk (Be h.1)]
  simp only[Ac,Aa,X9 ha.2]
  have e:IF (q.2.1.take (k+1)) v=(IF (q.2.1.take k) v || q.2.1[k].2.contains v):=by
   unfold IF
   rw[AB hk,GC];simp
  rw[e]
  cases IF (q.2.1.take k) v<;>rfl) (λrec=>by unfold FH;simp only;rw[Ba,A6];rfl) fz (CQ h.1)
 simpa[IF]using this
theorem nz{q:Hc}(h:JH q)(hn:1<=q.1∧q.1<=5):Ap (Il q) fz 0=some (cond ((List.range q.1.toNat).any λv=> !IF q.2.1 (v:Int)) (.inr false) (.inl ())):=by
 have e:q.1=(q.1.toNat:Int):=by omega
 refine Gq (λv=> !IF q.2.1 (v:Int)) (by unfold lim;omega) (λk hk rec=>?_) (λrec=>by
  unfold Il
  rw[Ah (by omega:¬((q.1.toNat:Nat):Int) < q.1)];rfl)
 unfold Il
 rw[Ag (by omega:(k:Int) < q.1),sX h,wrap_in (by omega)]
 simp only[Ac,Aa]
 rfl
theorem xq{q:Hc}(h:JH q):Ap (Im q) fz 0=some (cond (B9 q.2.2 (G7 q.1 q.2.2)) (.inr false) (.inl ())):=by
 unfold B9
 refine Gq (λk=>J6 q.2.2 k (G7 q.1 q.2.2 k)) h.2.2 (λk hk rec=>?_) (λrec=>by unfold Im;rw[Ba];rfl)
 unfold Im
 rw[Bu hk,Bm hk,BC hk (Be h.2.2),CP hk]
 simp only[Ac,Aa,LW]
 rw[AH (by omega),SN]
 simp only[QM (l:=q.2.2.take k) (by rw[Bb];have:=h.2.2;omega),MU,G7]
 cases Iw q.2.2[k] 0 (IntKind.i64.wrap (q.1 - 1))<;>rfl
def De(q:Hc):Bool:=Iw q.1 1 5&&(Iw (q.2.1.length:Int) 1 4&&(!B9 q.2.2 (G7 q.1 q.2.2)&&(!(B9 q.2.1 λ_ a=>Mi q.1 a)&& !((List.range q.1.toNat).any λv=> !IF q.2.1 (v:Int)))))
theorem few:∀(n:Nat) (l:List Int),l.Nodup->(∀e∈l,0<=e∧e < (n:Int))->l.length<=n
 |0,l,_,h=>by
  cases l with
  |nil=>simp
  |cons e l=>have:=h e (by simp);omega
 |n+1,l,hd,h=>by
  have h1:=few n (l.erase (n:Int)) (hd.erase _) (λe he=>by
   have h2:=h e (List.mem_of_mem_erase he)
   have h3:e≠(n:Int):=λq=>by subst q;exact(List.Nodup.not_mem_erase hd) he
   omega)
  have h2:=List.length_erase (a:=(n:Int)) (l:=l)
  split at h2<;>omega
theorem aB{n:Int}(hn:1<=n∧n<=5){l:List Int}(h:B9 l (G7 n l)=false):(l.length:Int)<=n:=by
 have hw:IntKind.i64.wrap (n - 1)=n - 1:=wrap_in (by omega)
 have hin:∀e∈l,0<=e∧e < (n.toNat:Int):=by
  intro e he
  obtain⟨k,hk,rfl⟩:=Cx.1 he
  have:=KF h hk
  unfold G7 Iw at this
  simp only[CF,CM,Ab,AE,hw]at this
  omega
 have hd:l.Nodup:=by
  rw[List.nodup_iff_pairwise_ne,List.pairwise_iff_getElem]
  intro i j hi hj hij he
  have:=KF h hj
  unfold G7 at this
  simp only[CF]at this
  have h2:=this.2
  have:(l.take j).contains l[j]=true:=by
   rw[Av,Cx]
   exact⟨i,by rw[Bb];omega,by rw[List.getElem_take];exact he⟩
  rw[this]at h2;cases h2
 have:=few n.toNat l hd hin
 omega
theorem Ks{q:Hc}(h:JH q):Cw q=some (De q):=by
 unfold Cw De
 simp only[LW,Aa,ny h,xq h]
 cases hb:Iw q.1 1 5 with
 |false=>rfl
 |true=>
  have hn:1<=q.1∧q.1<=5:=by unfold Iw at hb;simpa using hb
  rw[nz h hn]
  cases Iw (q.2.1.length:Int) 1 4 with
  |false=>rfl
  |true=>
   by_cases hl:q.1 < (q.2.2.length:Int)
   ·rw[Ag hl]
    have:B9 q.2.2 (G7 q.1 q.2.2)=true:=by
     cases hs:B9 q.2.2 (G7 q.1 q.2.2)with
     |true=>rfl
     |false=>have:=aB hn hs;omega
    rw[this];rfl
   ·rw[Ah hl]
    cases B9 q.2.2 (G7 q.1 q.2.2)<;>cases(B9 q.2.1 λ_ a=>Mi q.1 a)<;>cases((List.range q.1.toNat).any λv=> !IF q.2.1 (v:Int))<;>rfl
def uL(m:Nat)(f:Nat->Bool):List Bool:=(List.range m).map f
theorem Wg(m:Nat)(f:Nat->Bool):(uL m f).length=m:=by simp[uL]
theorem te{m v:Nat}(f:Nat->Bool):(uL m f).set v true=uL m (λu=>f u || u==v):=by
 apply EE
 ·simp[uL]
 ·intro i h1 h2
  rw[EF]
  simp only[uL,BQ,D3]
  split
  ·rename_i e;subst e;simp
  ·rename_i e
   have:(i==v)=false:=by simp;omega
   rw[this];simp
theorem mt{q:Hc}(h:JH q)(hn:1<=q.1∧q.1<=5):Ap (Gs q) fz (List.replicate (Int.toNat q.1) false,0)=some (cond (B9 q.2.1 λ_ a=>Mi q.1 a) (.inr false) (.inl (uL q.1.toNat λv=>IF q.2.1 (v:Int)))):=by
 have hw:IntKind.i64.wrap (q.1 - 1)=q.1 - 1:=wrap_in (by omega)
 have h0:List.replicate (Int.toNat q.1) false=uL q.1.toNat λv=>IF (q.2.1.take 0) (v:Int):=by
  unfold uL IF
  simp[Eu]
 rw[h0]
 unfold B9
 have:=g5 (B:=Gs q) (n:=q.2.1.length) (λk=>uL q.1.toNat λv=>IF (q.2.1.take k) (v:Int)) (λk=>J6 q.2.1 k λa=>Mi q.1 a) h.1 (λk hk rec=>by
  have ha:=h.2.1 _ (Ak hk)
  unfold Gs
  simp only
  rw[Bu hk,Bm hk,BC hk (Be h.1),CP hk]
  simp only[Ac,Aa,qo ha.1,IS,Mi]
  cases nmB q.2.1[k].1 with
  |false=>rfl
  |true=>
   cases Iw (q.2.1[k].2.length:Int) 1 5 with
   |false=>rfl
   |true=>
    simp only[Al,Ad,Ck]
    have hin:=g5 (B:=H7 q q.2.1[k]) (n:=q.2.1[k].2.length) (λj=>uL q.1.toNat λv=>IF (q.2.1.take k) (v:Int) || (q.2.1[k].2.take j).contains (v:Int)) (λj=>J6 q.2.1[k].2 j λv=> !Iw v 0 (IntKind.i64.wrap (q.1 - 1))) ha.2 (λj hj rec=>by
     unfold H7
     simp only
     rw[Bu hj,Bm hj,BC hj (Be ha.2),CP hj]
     simp only[Ac,Aa,IS]
     cases hb:Iw q.2.1[k].2[j] 0 (IntKind.i64.wrap (q.1 - 1))with
     |false=>rfl
     |true=>
      have hv:0<=q.2.1[k].2[j]∧q.2.1[k].2[j]<=q.1 - 1:=by rw[hw]at hb;unfold Iw at hb;simpa using hb
      have hvn:q.2.1[k].2[j]=((q.2.1[k].2[j].toNat:Nat):Int):=by omega
      simp only[Al,Ad]
      rw[hvn,Bm (by rw[Wg];omega)]
      simp only
      congr 2
      unfold Da
      rw[Bk,te _]
      congr 1
      funext u
      rw[AB hj,List.contains_append,Bool.or_assoc]
      congr 1
      congr 1
      rw[hvn]
      simp only[List.contains_cons,List.contains_nil,CV]
      rw[AL]
      simp
      omega) (λrec=>by unfold H7;simp only;rw[Ba];rfl)
    have e0:(uL q.1.toNat λv=>IF (q.2.1.take k) (v:Int) || (q.2.1[k].2.take 0).contains (v:Int))=uL q.1.toNat λv=>IF (q.2.1.take k) (v:Int):=by
     unfold uL;simp
    have e1:(uL q.1.toNat λv=>IF (q.2.1.take k) (v:Int) || (q.2.1[k].2.take q.2.1[k].2.length).contains (v:Int))=uL q.1.toNat λv=>IF (q.2.1.take (k+1)) (v:Int):=by
     congr 1
     funext v
     unfold IF
     rw[A6,AB hk,GC];simp
    simp only[e0,e1]at hin
    rw[hin]
    unfold B9
    cases(List.range q.2.1[k].2.length).any λj=>J6 q.2.1[k].2 j λv=> !Iw v 0 (IntKind.i64.wrap (q.1 - 1))<;>rfl) (λrec=>by unfold Gs;simp only;rw[Ba];rfl)
 rw[A6]at this
 exact this
theorem Mj{q:Hc}(h:JH q):CH q=some (De q):=by
 unfold CH De
 simp only[IS,Aa,ji h.2.2]
 cases hb:Iw q.1 1 5 with
 |false=>rfl
 |true=>
  have hn:1<=q.1∧q.1<=5:=by unfold Iw at hb;simpa using hb
  cases Iw (q.2.1.length:Int) 1 4 with
  |false=>rfl
  |true=>
   cases B9 q.2.2 (G7 q.1 q.2.2)with
   |true=>rfl
   |false=>
    simp only[Al,CD,Ad,Aw]
    rw[AH (by unfold lim;omega),mt h hn]
    cases(B9 q.2.1 λ_ a=>Mi q.1 a)with
    |true=>rfl
    |false=>
     simp only[Ad,CD,Aw]
     rw[Gq (n:=(uL q.1.toNat λv=>IF q.2.1 (v:Int)).length) (λk=> !IF q.2.1 (k:Int)) (by rw[Wg];unfold lim;omega) (λk hk rec=>by
      unfold KJ
      rw[Bu hk,Bm hk,BC hk (by rw[Wg];unfold maxLen;omega)]
      simp only[Ac,Aa,uL,BQ,D3]) (λrec=>by unfold KJ;rw[Ba];rfl),Wg]
     cases(List.range q.1.toNat).any λv=> !IF q.2.1 (v:Int)<;>rfl
theorem TV{α:Type}{l:List α}{f:α->Bool}(h:B9 l (λ_ e=>f e)=false){a:α}(ha:a∈l):f a=false:=by
 obtain⟨k,hk,rfl⟩:=Cx.1 ha
 exact KF h hk
theorem Zb{q:Hc}(h:De q=true):1<=q.1∧q.1<=5∧q.2.1.length<=4∧∀a∈q.2.1,1<=a.2.length∧a.2.length<=5∧∀v∈a.2,0<=v∧v < q.1:=by
 unfold De at h
 simp only[Ab,AC]at h
 obtain⟨h1,h2,-,h4,-⟩:=h
 have e1:1<=q.1∧q.1<=5:=by unfold Iw at h1;simpa using h1
 have e2:1<=(q.2.1.length:Int)∧(q.2.1.length:Int)<=4:=by unfold Iw at h2;simpa using h2
 refine⟨e1.1,e1.2,by omega,λa ha=>?_⟩
 have h5:=TV h4 ha
 unfold Mi at h5
 simp only[CF,CM]at h5
 have e3:1<=(a.2.length:Int)∧(a.2.length:Int)<=5:=by have:=h5.2.1;unfold Iw at this;simpa using this
 refine⟨by omega,by omega,λv hv=>?_⟩
 have h6:=TV h5.2.2 hv
 simp only[CM]at h6
 rw[wrap_in (by omega)]at h6
 have:0<=v∧v<=q.1 - 1:=by unfold Iw at h6;simpa using h6
 omega
theorem MK{α:Type}{l:List α}{f:Nat->α->Bool}(h:∀i (hi:i < l.length),f i l[i]=false):B9 l f=false:=by
 unfold B9
 rw[Cm]
 intro k hk
 have hk:=An.1 hk
 rw[CP hk,h k hk]
 simp
def Tv(f:Int->Bool)(l:List Int)(k:Nat):List Nat:=(List.range k).filter λi=>J6 l i f
theorem oV(f:Int->Bool)(l:List Int)(k:Nat):Tv f l (k+1)=Tv f l k++(if J6 l k f=true then [k]else []):=by
 unfold Tv
 rw[CI,Dn,Du,GD]
theorem Pa{f:Int->Bool}{l:List Int}{k i:Nat}:i∈Tv f l k↔i < k∧J6 l i f=true:=by
 unfold Tv
 rw[Bf,An]
theorem j6{l:List Nat}{r:Nat}(hn:l.Nodup)(hr:r∈l)(h:∀i∈l,i=r):l=[r]:=by
 cases l with
 |nil=>cases hr
 |cons a l=>
  have ha:=h a (by simp)
  subst ha
  cases l with
  |nil=>rfl
  |cons b l=>
   have hb:=h b (by simp)
   subst hb
   rw[BH]at hn
   exact absurd (by simp) hn.1
theorem ax{f:Int->Bool}{l:List Int}{n r:Nat}:Tv f l n=[r]↔(r < n∧J6 l r f=true)∧∀i,i < n->J6 l i f=true->i=r:=by
 constructor
 ·intro h
  refine⟨Pa.1 (by rw[h];simp),λi hi hf=>?_⟩
  have:=Pa.2 ⟨hi,hf⟩
  rw[h]at this
  simpa using this
 ·rintro⟨h1,h2⟩
  refine j6 ?_ (Pa.2 h1) (λi hi=>h2 i (Pa.1 hi).1 (Pa.1 hi).2)
  exact List.Nodup.sublist List.filter_sublist EJ
def Mb(p:List Int):Int:=match Tv (λx=>x== -1) p p.length with
 |[r]=>(r:Int)
 |_=> -1
def WP(p:List Int)(a:Int):Int:=(p[a.toNat]?).getD (-1)
def inP(p:List Int)(a:Int):Bool:=Iw a (-1) ((p.length:Int) - 1)
def SQ(p:List Int):Nat->Int->Option Int
 |0,a=>some a
 |m+1,a=>if 0<=a then(if inP p (WP p a)=true then SQ p m (WP p a)else none)else some a
def endsB(p:List Int)(i:Nat):Bool:=match SQ p (p.length+1) i with
 |some a=>decide (a < 0)
 |none=>false
def TP(p:List Int):Bool:=(!B9 p λi x=> !inP p x || !endsB p i)&&(((Tv (λx=>decide (x < 0)) p p.length).length:Int)==1)
def Fm(p:List Int):Nat->Int->List Int
 |0,_=>[]
 |m+1,a=>if 0<=a∧a < (p.length:Int)then a::Fm p m (WP p a)else []
def NU(p:List Int)(i:Nat):Bool:=decide ((Fm p (p.length+1) i).length<=p.length)&&((Fm p (p.length+1) i).getLast?==some (Mb p))
def QD(p:List Int):Bool:=decide (0<=Mb p)&& !B9 p λi _=> !NU p i
def goUp(p:List Int):Nat->Int->Int
 |0,a=>a
 |m+1,a=>if 0<=a then goUp p m (WP p a)else a
theorem i5{p:List Int}{a:Int}(h:a < 0):∀m,goUp p m a=a
 |0=>rfl
 |m+1=>by rw[goUp,AJ (by omega)]
theorem VS{p:List Int}:∀{m:Nat}{a:Int},goUp p m a < 0->goUp p (m+1) a < 0
 |0,a,h=>by rw[i5 (show a < 0 from h)];exact h
 |m+1,a,h=>by
  rw[goUp]at h⊢
  split
  ·rename_i h0;rw[AI h0]at h;exact VS h
  ·rename_i h0;rw[AJ h0]at h;exact h
def wide(p:List Int):Prop:=∀(i:Nat) (h:i < p.length),-1<=p[i]∧p[i]<=(p.length:Int) - 1
theorem aO{p:List Int}(hw:wide p){a:Int}(h0:0<=a)(h1:a < (p.length:Int)): -1<=WP p a∧WP p a < (p.length:Int):=by
 have hk:a.toNat < p.length:=by omega
 have:=hw a.toNat hk
 unfold WP
 rw[Af hk]
 simp only[BB]
 omega
theorem aQ{p:List Int}(hw:wide p):∀(m:Nat) {a:Int},a < (p.length:Int)->SQ p m a=some (goUp p m a)
 |0,a,_=>rfl
 |m+1,a,h=>by
  rw[SQ,goUp]
  split
  ·rename_i h0
   have:=aO hw h0 h
   rw[AI (by unfold inP Iw;simp;omega)]
   exact aQ hw m this.2
  ·rfl
theorem Y6{p:List Int}(hw:wide p):∀(m:Nat) {a:Int},0<=a->a < (p.length:Int)->goUp p m a < 0->∃l,(Fm p m a).getLast?=some l∧0<=l∧l < (p.length:Int)∧WP p l < 0
 |0,a,h0,_,h=>absurd (show a < 0 from h) (by omega)
 |m+1,a,h0,h1,h=>by
  rw[goUp,AI h0]at h
  have hb:=aO hw h0 h1
  rw[Fm,AI ⟨h0,h1⟩]
  by_cases hn:WP p a < 0
  ·refine⟨a,?_,h0,h1,hn⟩
   have:Fm p m (WP p a)=[]:=by cases m<;>simp[Fm];omega
   rw[this];rfl
  ·obtain⟨l,e,q⟩:=Y6 hw m (by omega) hb.2 h
   refine⟨l,?_,q⟩
   rw[List.getLast?_cons,e];rfl
theorem fc{p:List Int}:∀(m:Nat) {a x:Int},x∈Fm p m a->0<=x∧x < (p.length:Int)
 |0,_,_,h=>by cases h
 |m+1,a,x,h=>by
  rw[Fm]at h
  split at h
  ·rename_i hc
   rcases AV.1 h with rfl|h
   ·exact hc
   ·exact fc m h
  ·cases h
theorem Y5{p:List Int}:∀(m:Nat) {a x:Int}{j:Nat},x∈Fm p m a->goUp p j a < 0->goUp p j x < 0
 |0,_,_,_,h,_=>by cases h
 |m+1,a,x,j,h,hj=>by
  rw[Fm]at h
  split at h
  ·rename_i hc
   rcases AV.1 h with rfl|h
   ·exact hj
   ·cases j with
    |zero=>exact absurd (show a < 0 from hj) (by omega)
    |succ j=>
     rw[goUp,AI hc.1]at hj
     exact VS (Y5 m h hj)
  ·cases h
theorem YR{p:List Int}{a:Int}:∀j,goUp p j a < 0->∃k,goUp p k a < 0∧∀i,i < k->¬goUp p i a < 0
 |0,h=>⟨0,h,λi hi=>absurd hi (by omega)⟩
 |j+1,h=>by
  by_cases h':goUp p j a < 0
  ·exact YR j h'
  ·refine⟨j+1,h,λi hi hn=>h' ?_⟩
   have:∀d,i+d<=j->goUp p (i+d) a < 0:=by
    intro d
    induction d with
    |zero=>intro _;exact hn
    |succ d ih=>intro hd;exact VS (ih (by omega))
   have:=this (j - i) (by omega)
   rwa [show i+(j - i)=j by omega]at this
theorem X0{p:List Int}:∀(m:Nat) {a:Int}{j:Nat},goUp p j a < 0->(Fm p m a).Nodup
 |0,_,_,_=>AD
 |m+1,a,j,h=>by
  rw[Fm]
  split
  ·rename_i hc
   obtain⟨k,h1,h2⟩:=YR j h
   cases k with
   |zero=>exact absurd (show a < 0 from h1) (by omega)
   |succ k=>
    have h3:=h1
    rw[goUp,AI hc.1]at h3
    refine BH.2 ⟨λhm=>?_,X0 m h3⟩
    exact h2 k (by omega) (Y5 m hm h3)
  ·exact AD
theorem X1{p:List Int}(hw:wide p):∀(m:Nat) {a:Int},a < (p.length:Int)->(Fm p m a).length < m->goUp p m a < 0
 |0,_,_,h=>absurd h (by omega)
 |m+1,a,h1,h=>by
  rw[goUp]
  split
  ·rename_i h0
   rw[Fm,AI ⟨h0,h1⟩,Ax]at h
   exact X1 hw m (aO hw h0 h1).2 (by omega)
  ·omega
theorem kC{p:List Int}(h:0<=Mb p):∃r:Nat,Mb p=(r:Int)∧Tv (λx=>x== -1) p p.length=[r]:=by
 unfold Mb at *
 split at h
 ·rename_i r e;exact⟨r,rfl,e⟩
 ·omega
theorem kE{p:List Int}(hw:wide p):Tv (λx=>decide (x < 0)) p p.length=Tv (λx=>x== -1) p p.length:=by
 unfold Tv
 refine FY λi hi=>?_
 have hi:=An.1 hi
 rw[CP hi,CP hi,AL]
 have:=hw i hi
 simp
 omega
theorem aR{p:List Int}(h:∀i (hi:i < p.length),inP p p[i]=true):wide p:=λi hi=>by
 have:=h i hi
 unfold inP Iw at this
 simp only[Ab,AE]at this
 exact this
theorem Vk(p:List Int):TP p=QD p:=by
 rw[AL]
 constructor
 ·intro h
  unfold TP at h
  simp only[Ab,AC,Bi]at h
  obtain⟨h1,h2⟩:=h
  have h1':∀i (hi:i < p.length),inP p p[i]=true∧endsB p i=true:=λi hi=>by
   have:=KF h1 hi
   simpa using this
  have hw:=aR λi hi=>(h1' i hi).1
  have hend:∀i,i < p.length->goUp p (p.length+1) i < 0:=λi hi=>by
   have:=(h1' i hi).2
   unfold endsB at this
   rw[aQ hw _ (by omega)]at this
   simpa using this
  rw[kE hw]at h2
  obtain⟨r,hr⟩:∃r,Tv (λx=>x== -1) p p.length=[r]:=List.length_eq_one_iff.1 (by omega)
  have hroot:Mb p=(r:Int):=by unfold Mb;rw[hr]
  have hq:=ax.1 hr
  unfold QD
  simp only[Ab,AE,AC]
  refine⟨by omega,MK λi hi=>?_⟩
  have h3:=hend i hi
  obtain⟨l,e1,e2,e3,e4⟩:=Y6 hw (p.length+1) (a:=i) (by omega) (by omega) h3
  have hlen:=few p.length (Fm p (p.length+1) i) (X0 _ h3) (λx hx=>fc _ hx)
  have hl:l=Mb p:=by
   have hk:l.toNat < p.length:=by omega
   have:=hq.2 l.toNat hk (by
    rw[CP hk]
    unfold WP at e4
    rw[Af hk]at e4
    simp only[BB]at e4
    have:=hw l.toNat hk
    simp
    omega)
   omega
  unfold NU
  rw[e1,hl]
  simp
  exact hlen
 ·intro h
  unfold QD at h
  simp only[Ab,AE,AC]at h
  obtain⟨h1,h2⟩:=h
  obtain⟨r,hroot,hr⟩:=kC h1
  have hq:=ax.1 hr
  have h3:∀i,i < p.length->(Fm p (p.length+1) i).length<=p.length∧(Fm p (p.length+1) i).getLast?=some (Mb p):=λi hi=>by
   have:=KF h2 hi
   unfold NU at this
   simpa using this
  have hin:∀i (hi:i < p.length),inP p p[i]=true:=λi hi=>by
   unfold inP Iw
   simp only[Ab,AE]
   have hl:=(h3 i hi).2
   rw[Fm,AI (by omega)]at hl
   have hu:WP p i=p[i]:=by unfold WP;rw[Bk,Af hi];rfl
   by_cases hc:0<=p[i]∧p[i] < (p.length:Int)
   ·omega
   ·have:Fm p p.length (WP p i)=[]:=by
     rw[hu]
     cases hn:p.length with
     |zero=>rfl
     |succ m=>rw[Fm,AJ (by omega)]
    rw[this]at hl
    simp only[List.getLast?_singleton,Ao]at hl
    have:i=r:=by omega
    subst this
    have:=hq.1.2
    rw[CP hi]at this
    have:p[i]= -1:=by simpa using this
    omega
  have hw:=aR hin
  unfold TP
  simp only[Ab,AC,Bi]
  refine⟨MK λi hi=>?_,by rw[kE hw,hr];rfl⟩
  rw[hin i hi]
  have:=X1 hw (p.length+1) (a:=i) (by omega) (by have:=(h3 i hi).1;omega)
  unfold endsB
  rw[aQ hw _ (by omega)]
  simpa using this
theorem sU{l:List Int}(h:l.length<=lim):JK l=some (!B9 l (G7 (l.length:Int) l)&&decide ((l.length:Int)<=5)):=by
 unfold JK B9
 rw[Gq (λk=>J6 l k (G7 (l.length:Int) l k)) h (λk hk rec=>by
  unfold Ka
  rw[Bu hk,Bm hk,BC hk (Be h),CP hk]
  simp only[Ac,Aa,LW]
  rw[AH (by omega),SN]
  simp only[QM (l:=l.take k) (by rw[Bb];omega),MU,G7]
  cases Iw l[k] 0 (IntKind.i64.wrap ((l.length:Int) - 1))<;>rfl) (λrec=>by unfold Ka;rw[Ba];rfl)]
 cases(List.range l.length).any λk=>J6 l k (G7 (l.length:Int) l k)<;>simp[Aa]
def dt(q:Hc)(o:List Int):Bool:=De q&&(((o.length:Int)==q.1)&& !B9 o (G7 q.1 o))
theorem KY{q:Hc}(h:De q=true):1<=q.1∧q.1<=5:=by
 unfold De Iw at h
 simp only[Ab,AE]at h
 exact h.1
theorem ft{q:Hc}{o:List Int}(hq:JH q)(ho:o.length<=lim):Ij q o=some (dt q o):=by
 unfold Ij Gu dt
 simp only[Ks hq,sU ho,Aa]
 cases hv:De q with
 |false=>rfl
 |true=>
  have hn:=KY hv
  cases hl:((o.length:Int)==q.1)with
  |false=>rfl
  |true=>
   have hl:(o.length:Int)=q.1:=by simpa using hl
   rw[hl,Ag hn.2]
   simp
theorem eK{q:Hc}{o:List Int}(hq:JH q)(ho:o.length<=lim):H6 q o=some (dt q o):=by
 unfold H6 Gr dt
 simp only[Mj hq,ji ho,Aa]
 cases De q with
 |false=>rfl
 |true=>cases((o.length:Int)==q.1)<;>rfl
theorem E9{α β:Type}(a:α)(f:α->Option β):Aa (some a) f=f a:=rfl
theorem g6{S O:Type}(v:O){B:(S×Int->Option (Sum S O))->S×Int->Option (Sum S O)}{n:Nat}(s:Nat->S)(bad:Nat->Bool)(hn:n<=lim)(h1:∀k,k < n->∀rec,B rec (s k,(k:Int))=cond (bad k) (some (.inr v)) (rec (s (k+1),((k+1:Nat):Int))))(h2:∀rec,B rec (s n,(n:Int))=some (.inl (s n))):
  Ap B fz (s 0,0)=some (cond ((List.range n).any bad) (.inr v) (.inl (s n))):=by
 have key:∀d k,k+d=n->(∀j,j < k->bad j=false)->∀m,d < m->Ap B m (s k,(k:Int))=some (cond ((List.range n).any bad) (.inr v) (.inl (s n))):=by
  intro d
  induction d with
  |zero=>
   intro k hk hb m hm
   cases m with
   |zero=>omega
   |succ m=>
    have hkn:k=n:=by omega
    have:(List.range n).any bad=false:=by
     rw[Cm]
     intro x hx
     rw[hb x (by have:=An.1 hx;omega)];simp
    show B (Ap B m) (s k,(k:Int))=_
    rw[hkn,h2,this];rfl
  |succ d ih=>
   intro k hk hb m hm
   cases m with
   |zero=>omega
   |succ m=>
    show B (Ap B m) (s k,(k:Int))=_
    rw[h1 k (by omega)]
    cases hbk:bad k with
    |true=>
     have:(List.range n).any bad=true:=by rw[Cg];exact⟨k,An.2 (by omega),hbk⟩
     rw[this];rfl
    |false=>
     exact ih (k+1) (by omega) (λj hj=>by
      rcases BV j k with h|h
      ·exact hb j h
      ·rw[show j=k by omega];exact hbk) m (by omega)
 have:=key n 0 (by omega) (λj hj=>absurd hj (by omega)) fz (CQ hn)
 simpa using this
theorem nx(f:Int->Bool)(l:List Int)(k:Nat):(Tv f l k).length<=k:=by
 unfold Tv
 exact BD (BS _ _) (by simp)
theorem aS{n:Nat}(h:n<=lim):IntKind.i64.wrap ((n:Int) - 1)=(n:Int) - 1:=wrap_in (by unfold lim at h;omega)
theorem Vo{k:Nat}(h:k<=lim):IntKind.i64.wrap ((k:Int)+1)=((k+1:Nat):Int):=by rw[wrap_in (by unfold lim at h;omega)];simp
theorem pg{p:List Int}{k:Nat}(h:k < p.length):WP p (k:Int)=p[k]:=by unfold WP;rw[Bk,Af h];rfl
theorem jk{p:List Int}(hp:p.length<=lim):∀(m k:Nat) (a:Int),k+m=p.length+1->a < (p.length:Int)->∀f,m < f->Ap (KO p) f (a,(k:Int))=some (match SQ p m a with|some b=>.inl b|none=>.inr false)
 |0,k,a,hk,ha,f,hf=>by
  cases f with
  |zero=>omega
  |succ f=>
   rw[By,KO]
   rw[Ah (by omega:¬(k:Int)<=(p.length:Int))];rfl
 |m+1,k,a,hk,ha,f,hf=>by
  cases f with
  |zero=>omega
  |succ f=>
   rw[By,KO]
   rw[Ag (by omega:(k:Int)<=(p.length:Int)),Ac,SQ]
   by_cases h0:0<=a
   ·have hj:a.toNat < p.length:=by omega
    have e:a=((a.toNat:Nat):Int):=by omega
    have hg:AZ p a=some (WP p a):=by rw[e,Bm hj,pg hj]
    rw[Ag h0,AI h0,Ac,hg]
    simp only[E9,IS,aS hp]
    show(cond (!inP p (WP p a)) _ _)=_
    cases hi:inP p (WP p a)with
    |false=>rfl
    |true=>
     rw[Vo (by omega)]
     have:=jk hp m (k+1) (WP p a) (by omega) (by unfold inP Iw at hi;simp at hi;omega) f (by omega)
     exact this
   ·rw[Ah h0,AJ h0];rfl
theorem bD{p:List Int}(hp:p.length < lim):Oj p=some (TP p):=by
 unfold Oj TP B9
 have h0:(0:Int)=(((Tv (λx=>decide (x < 0)) p 0).length:Nat):Int):=rfl
 have:=g6 false (B:=KN p) (n:=p.length) (λk=>(((Tv (λx=>decide (x < 0)) p k).length:Nat):Int)) (λk=>J6 p k λx=> !inP p x || !endsB p k) (by omega) (λk hk rec=>by
  have hw:=jk (p:=p) (by omega) (p.length+1) 0 (k:Int) (by omega) (by omega) fz (by unfold fz;unfold lim at hp;omega)
  have hlen:=nx (λx=>decide (x < 0)) p k
  unfold KN Nb
  simp only
  rw[Bu hk,Bm hk,CP hk,Vo (show k<=lim by omega)]
  simp only[Ac,E9,IS,aS (show p.length<=lim by omega)]
  show(cond (!inP p p[k]) _ _)=_
  cases hi:inP p p[k]with
  |false=>rfl
  |true=>
   simp only[Al,Ad,Ck]
   have key:∀r:Int,(Aa (Ap (KO p) fz ((k:Int),0)) λo3=>(match o3 with|.inl z15=>(cond (decide (0<=z15)) (some (.inr false)) (rec (r,((k+1:Nat):Int))))|.inr r=>some (.inr r)))=cond (!endsB p k) (some (.inr false)) (rec (r,((k+1:Nat):Int))):=by
    intro r
    rw[show((k:Int),(0:Int))=((k:Int),((0:Nat):Int))from rfl,hw,E9]
    unfold endsB
    cases SQ p (p.length+1) (k:Int)with
    |none=>rfl
    |some a=>
     simp only
     by_cases ha:a < 0
     ·rw[Ah (by omega:¬0<=a),Ag ha];rfl
     ·rw[Ag (by omega:0<=a),Ah ha];rfl
   have hs:∀r:Int,r=(((Tv (λx=>decide (x < 0)) p (k+1)).length:Nat):Int)->cond (!endsB p k) (some (Sum.inr false)) (rec (r,((k+1:Nat):Int)))=cond (!endsB p k) (some (.inr false)) (rec ((((Tv (λx=>decide (x < 0)) p (k+1)).length:Nat):Int),((k+1:Nat):Int))):=λr e=>by rw[e]
   have hstep:=oV (λx=>decide (x < 0)) p k
   rw[CP hk]at hstep
   by_cases hn:p[k] < 0
   ·rw[Ag hn,Ac]
    refine(key _).trans (hs _ ?_)
    rw[wrap_in (by unfold lim at hp;omega),hstep,Ag hn]
    simp
   ·rw[Ah hn,Ad]
    refine(key _).trans (hs _ ?_)
    rw[hstep,Ah hn]
    simp) (λrec=>by unfold KN;simp only;rw[Ba];rfl)
 rw[<-h0]at this
 rw[this]
 cases(List.range p.length).any λk=>J6 p k λx=> !inP p x || !endsB p k with
 |true=>rfl
 |false=>rfl
def XY(p:List Int)(k:Nat):Int:=match Tv (λx=>x== -1) p k with
 |[]=> -1
 |r::_=>(r:Int)
theorem na(p:List Int)(k:Nat):decide (0<=XY p k)= !(Tv (λx=>x== -1) p k).isEmpty:=by
 unfold XY
 cases Tv (λx=>x== -1) p k with
 |nil=>rfl
 |cons r l=>simp
theorem az{p:List Int}(hp:p.length<=lim):FV p=some (Mb p):=by
 unfold FV
 have h0:(-1:Int)=XY p 0:=rfl
 have:=g6 (-1:Int) (B:=Gv p) (n:=p.length) (XY p) (λk=>(J6 p k λx=>x== -1)&& !(Tv (λx=>x== -1) p k).isEmpty) hp (λk hk rec=>by
  unfold Gv Io
  simp only
  rw[Bu hk,Bm hk,BC hk (Be hp),CP hk,na]
  simp only[Ac,Aa]
  have hstep:=oV (λx=>x== -1) p k
  rw[CP hk]at hstep
  cases hb:(p[k]== -1)with
  |false=>
   rw[hb]at hstep
   have e:XY p (k+1)=XY p k:=by unfold XY;rw[hstep];simp
   rw[e];rfl
  |true=>
   rw[hb]at hstep
   cases he:(Tv (λx=>x== -1) p k)with
   |nil=>
    have e:XY p (k+1)=(k:Int):=by unfold XY;rw[hstep,he];rfl
    rw[e];rfl
   |cons r l=>rfl) (λrec=>by unfold Gv;simp only;rw[Ba];rfl)
 rw[<-h0]at this
 rw[this]
 have hmem:∀k,((J6 p k λx=>x== -1)&& !(Tv (λx=>x== -1) p k).isEmpty)=true↔(J6 p k λx=>x== -1)=true∧∃j,j < k∧(J6 p j λx=>x== -1)=true:=by
  intro k
  rw[Ab]
  refine and_congr DB ?_
  constructor
  ·intro h
   cases he:Tv (λx=>x== -1) p k with
   |nil=>rw[he]at h;cases h
   |cons r l=>exact⟨r,Pa.1 (by rw[he];simp)⟩
  ·rintro⟨j,h1,h2⟩
   have:=Pa.2 ⟨h1,h2⟩
   cases he:Tv (λx=>x== -1) p k with
   |nil=>rw[he]at this;cases this
   |cons r l=>rfl
 cases hany:(List.range p.length).any λk=>(J6 p k λx=>x== -1)&& !(Tv (λx=>x== -1) p k).isEmpty with
 |true=>
  obtain⟨k,hk,hb⟩:=Cg.1 hany
  obtain⟨h1,j,h2,h3⟩:=(hmem k).1 hb
  have hk:=An.1 hk
  have e:Mb p= -1:=by
   unfold Mb
   split
   ·rename_i r he
    have hq:=ax.1 he
    have e1:=hq.2 k hk h1
    have e2:=hq.2 j (by omega) h3
    omega
   ·rfl
  rw[e];rfl
 |false=>
  have e:Mb p=XY p p.length:=by
   unfold Mb XY
   cases he:Tv (λx=>x== -1) p p.length with
   |nil=>rfl
   |cons r l=>
    cases l with
    |nil=>rfl
    |cons r2 l=>
     exfalso
     have hnd:(Tv (λx=>x== -1) p p.length).Nodup:=List.Nodup.sublist List.filter_sublist EJ
     rw[he]at hnd
     have m1:=Pa.1 (show r∈Tv (λx=>x== -1) p p.length by rw[he];simp)
     have m2:=Pa.1 (show r2∈Tv (λx=>x== -1) p p.length by rw[he];simp)
     have hne:r≠r2:=λe=>by subst e;rw[BH]at hnd;exact hnd.1 (by simp)
     have hno:∀a b,a < b->b < p.length->(J6 p a λx=>x== -1)=true->(J6 p b λx=>x== -1)=true->False:=λa b hab hb ha hb'=>by
      have:=Cm.1 hany b (An.2 hb)
      exact this ((hmem b).2 ⟨hb',a,hab,ha⟩)
     rcases BV r r2 with h|h
     ·exact hno r r2 h m2.1 m1.2 m2.2
     ·exact hno r2 r (by omega) m1.1 m2.2 m1.2
  rw[e];rfl
theorem fu{p:List Int}(hp:p.length < lim):∀(m:Nat) (acc:List Int) (a:Int),acc.length+m=p.length+1->∀f,m < f->Ap (Mr p) f (a,acc)=some (acc++Fm p m a)
 |0,acc,a,hk,f,hf=>by
  cases f with
  |zero=>omega
  |succ f=>
   rw[By,Mr]
   simp only[LW,E9]
   rw[Ah (by omega:¬(acc.length:Int)<=(p.length:Int))]
   cases Iw a 0 (IntKind.i64.wrap ((p.length:Int) - 1))<;>simp[Fm]
 |m+1,acc,a,hk,f,hf=>by
  cases f with
  |zero=>omega
  |succ f=>
   rw[By,Mr]
   simp only[LW,E9,aS (show p.length<=lim by omega)]
   rw[Ag (by omega:(acc.length:Int)<=(p.length:Int)),Ac,Fm]
   by_cases h0:0<=a∧a < (p.length:Int)
   ·have hj:a.toNat < p.length:=by omega
    have e:a=((a.toNat:Nat):Int):=by omega
    have hg:AZ p a=some (WP p a):=by rw[e,Bm hj,pg hj]
    have hb:Iw a 0 ((p.length:Int) - 1)=true:=by unfold Iw;simp;omega
    rw[hb,AI h0,Ac,AH (by simp;omega),hg,E9]
    have:=fu hp m (acc++[a]) (WP p a) (by simp;omega) f (by omega)
    rw[this,Bc];rfl
   ·have hb:Iw a 0 ((p.length:Int) - 1)=false:=by unfold Iw;simp;omega
    rw[hb,AJ h0];simp
theorem kM{p:List Int}(hp:p.length < lim)(a:Int):Nu p a=some (Fm p (p.length+1) a):=by
 unfold Nu
 rw[fu hp (p.length+1) [] a (by simp) fz (by unfold fz;unfold lim at hp;omega)]
 simp[Aa]
theorem ce{p:List Int}:∀(m:Nat) (a:Int),(Fm p m a).length<=m
 |0,_=>by simp[Fm]
 |m+1,a=>by
  rw[Fm]
  split
  ·rw[Ax];have:=ce (p:=p) m (WP p a);omega
  ·simp
theorem nj{p:List Int}{k:Nat}(hk:k < p.length):0 < (Fm p (p.length+1) (k:Int)).length:=by rw[Fm,AI (by omega)];simp
theorem kq{p:List Int}(hp:p.length < lim){k:Nat}(hk:k < p.length):∃x,AZ (Fm p (p.length+1) (k:Int)) (IntKind.i64.wrap (((Fm p (p.length+1) (k:Int)).length:Int) - 1))=some x∧(Fm p (p.length+1) (k:Int)).getLast?=some x:=by
 have h1:=nj hk
 have h2:=ce (p:=p) (p.length+1) (k:Int)
 have hj:(Fm p (p.length+1) (k:Int)).length - 1 < (Fm p (p.length+1) (k:Int)).length:=by omega
 refine⟨(Fm p (p.length+1) (k:Int))[(Fm p (p.length+1) (k:Int)).length - 1],?_,by rw[List.getLast?_eq_getElem?,Af hj]⟩
 ·rw[aS (by omega),show((Fm p (p.length+1) (k:Int)).length:Int) - 1=(((Fm p (p.length+1) (k:Int)).length - 1:Nat):Int)by omega,Bm hj]
theorem cd{p:List Int}(hp:p.length < lim){k:Nat}(hk:k < p.length){α:Type}(x y:Option α):cond (decide ((p.length:Int) < ((Fm p (p.length+1) (k:Int)).length:Int))) x (Aa (AZ (Fm p (p.length+1) (k:Int)) (IntKind.i64.wrap (((Fm p (p.length+1) (k:Int)).length:Int) - 1))) λe=>cond (e !=Mb p) x y)=cond (!NU p k) x y:=by
 obtain⟨e,h1,h2⟩:=kq hp hk
 unfold NU
 rw[h1,h2]
 simp only[Aa]
 by_cases hl:(Fm p (p.length+1) (k:Int)).length<=p.length
 ·rw[Ah (by omega),Ag hl,Ad,Aw,bne]
  rfl
 ·rw[Ag (by omega),Ah hl];rfl
def Yn{α:Type}(g:α->List Int)(l:List α)(p:List Int)(v:Int)(i:Nat):Bool:=J6 l i λx=>(g x).contains v&&J6 p i λy=>decide (y < 0) || !J6 l y.toNat λz=>(g z).contains v
def Lz{α:Type}(g:α->List Int)(l:List α)(p:List Int)(v:Int)(k:Nat):Nat:=((List.range k).filter (Yn g l p v)).length
theorem dA{α:Type}(g:α->List Int)(l:List α)(p:List Int)(v:Int)(k:Nat):Lz g l p v (k+1)=Lz g l p v k+cond (Yn g l p v k) 1 0:=by
 unfold Lz
 rw[CI,Dn,Du,GD,Ar]
 cases Yn g l p v k<;>rfl
theorem aM{α:Type}(g:α->List Int)(l:List α)(p:List Int)(v:Int)(k:Nat):Lz g l p v k<=k:=BD (BS _ _) (by simp)
theorem jj{ls:List (List Int)}{p:List Int}(hw:wide p)(hl:ls.length=p.length)(hp:p.length<=lim)(hs:∀l∈ls,l.length<=lim)(v:Int):Ol ls p v=some ((Lz id ls p v p.length:Nat):Int):=by
 unfold Ol
 have:=Cs (body:=I2 ls p v) (out:=((Lz id ls p v p.length:Nat):Int)) (λk=>(((Lz id ls p v k:Nat):Int),(k:Int))) p.length (λk hk rec=>by
  have hk':k < ls.length:=by omega
  have hle:=aM id ls p v k
  have hst:=dA id ls p v k
  unfold Yn at hst
  rw[CP hk',CP hk]at hst
  unfold I2 KQ Nh
  simp only
  rw[Bu hk',Bm hk',Bm hk,BC hk (Be hp),hst]
  simp only[Ac,Aa,Wp (hs _ (Ak hk')),id]
  have hwrap:IntKind.i64.wrap (((Lz id ls p v k:Nat):Int)+1)=((Lz id ls p v k+1:Nat):Int):=Vo (by omega)
  cases ls[k].contains v with
  |false=>simp
  |true=>
   simp only[Ac,Aw]
   have hwk:=hw k hk
   by_cases hn:p[k] < 0
   ·rw[Ag hn]
    simp only[Ac,Ht,hwrap]
   ·rw[Ah hn]
    have hj:p[k].toNat < ls.length:=by omega
    have hg:AZ ls p[k]=some ls[p[k].toNat]:=by
     have e:p[k]=((p[k].toNat:Nat):Int):=by omega
     conv=>lhs;rw[e]
     exact Bm hj
    rw[hg,CP hj]
    simp only[Ad,Ck,Wp (hs _ (Ak hj))]
    cases ls[p[k].toNat].contains v with
    |true=>simp
    |false=>simp only[CD,Ac,hwrap]) (λrec=>by unfold I2;simp only;rw[hl,Ba];rfl) fz (CQ hp)
 have h0:Lz id ls p v 0=0:=rfl
 simp only[h0]at this
 rw[show((0:Int),(0:Int))=(((0:Nat):Int),((0:Nat):Int))from rfl,this]
 rfl
abbrev Rt:=Int×Int
theorem uA{B:(Int×Int->Option Int)->Int×Int->Option Int}(hB:∀rec a b,B rec (a,b)=cond (b !=0) (chk (b≠0) (rec (b,Int.tmod a b))) (some a)):
  ∀(k f m n:Nat),n < 2 ^ k->2 * k < f->Ap B f ((m:Int),(n:Int))=some ((Nat.gcd m n:Nat):Int):=by
 have hz:∀(f m:Nat),0 < f->Ap B f ((m:Int),((0:Nat):Int))=some ((Nat.gcd m 0:Nat):Int):=λf m hf=>by
  cases f with
  |zero=>omega
  |succ f=>rw[By,hB,Nat.gcd_zero_right];rfl
 have hs:∀(f m n:Nat),0 < n->Ap B (f+1) ((m:Int),(n:Int))=Ap B f ((n:Int),((m % n:Nat):Int)):=λf m n hn=>by
  rw[By,hB,show((n:Int)!=0)=true by rw[Ct];omega,Ac,AH (by omega)]
  rfl
 have hg:∀m n:Nat,Nat.gcd m n=Nat.gcd n (m % n):=λm n=>by rw[Nat.gcd_comm m n,Nat.gcd_rec n m,Nat.gcd_comm]
 intro k
 induction k with
 |zero=>
  intro f m n hn hf
  obtain rfl:n=0:=by omega
  exact hz f m (by omega)
 |succ k ih=>
  intro f m n hn hf
  rcases C9 n with rfl|h0
  ·exact hz f m (by omega)
  ·obtain⟨f,rfl⟩:∃g,f=g+2:=⟨f - 2,by omega⟩
   rw[hs (f+1) m n h0,hg m n]
   rcases C9 (m % n)with h1|h1
   ·rw[h1];exact hz _ n (by omega)
   ·rw[hs f n (m % n) h1,hg n (m % n)]
    refine ih f _ _ ?_ (by omega)
    have h2:m % n < n:=Np _ h0
    have h3:n % (m % n) < m % n:=Np _ h1
    rw[Fl]at hn
    rcases BV n (2 * (m % n))with h4|h4
    ·have h5:n % (m % n)=n - m % n:=by
      rw[Nat.mod_eq_sub_mod (by omega),JF (by omega)]
     omega
    ·omega
theorem oZ(m n:Nat)(hn:n < 2 ^ 62):P7 (m:Int) (n:Int)=some ((Nat.gcd m n:Nat):Int):=by
 unfold P7
 rw[uA (λrec a b=>by simp only[TL]) 62 fz m n hn (by unfold fz;omega),E9]
theorem oA(m n:Nat)(hn:n < 2 ^ 62):Sp (m:Int) (n:Int)=some ((Nat.gcd m n:Nat):Int):=by
 unfold Sp
 rw[uA (λrec a b=>by simp only[Wq]) 62 fz m n hn (by unfold fz;omega),E9]
def HK(r:Rt):Bool:=Iw r.2 1 1000000000&&(Iw r.1 (-1000000000) 1000000000&&(((Nat.gcd r.1.natAbs r.2.natAbs:Nat):Int)==1))
theorem Zs{a:Int}(h:a.natAbs<=4000000000000000000):(if a < IntKind.i64.wrap (0 - a)then IntKind.i64.wrap (0 - a)else a)=(a.natAbs:Int):=by
 rw[wrap_in (by omega)]
 split<;>omega
theorem NZ{x lo hi:Int}:Iw x lo hi=true↔lo<=x∧x<=hi:=by unfold Iw;simp
theorem Rb(r:Rt):Cn r=some (HK r):=by
 unfold Cn HK
 rw[LW,E9]
 cases h2:Iw r.2 1 1000000000 with
 |false=>rfl
 |true=>
  rw[Ac,LW,E9]
  cases h1:Iw r.1 (-1000000000) 1000000000 with
  |false=>rfl
  |true=>
   rw[NZ]at h1 h2
   rw[Ac,Zs (by omega)]
   have e:r.2=(r.2.natAbs:Int):=by omega
   have hg:=oZ r.1.natAbs r.2.natAbs (by omega)
   rw[<-e]at hg
   rw[hg];rfl
theorem eL(r:Rt):EA r=some (HK r):=by
 unfold EA HK
 rw[IS,E9]
 cases h2:Iw r.2 1 1000000000 with
 |false=>rfl
 |true=>
  rw[Ac,IS,E9]
  cases h1:Iw r.1 (-1000000000) 1000000000 with
  |false=>rfl
  |true=>
   rw[NZ]at h1 h2
   rw[Ac]
   unfold Sn
   rw[Zs (by omega),E9]
   have e:r.2=(r.2.natAbs:Int):=by omega
   have hg:=oA r.1.natAbs r.2.natAbs (by omega)
   rw[<-e]at hg
   rw[hg];rfl
theorem Hi{r:Rt}(h:HK r=true):1<=r.2∧r.2<=1000000000∧r.1.natAbs<=1000000000∧Nat.gcd r.1.natAbs r.2.natAbs=1:=by
 unfold HK at h
 simp only[Ab,NZ,Bi]at h
 exact⟨h.1.1,h.1.2,by omega,by omega⟩
def aw(n d:Int):Rt×Bool:=
 cond (HK (n.tdiv (Nat.gcd n.natAbs d.natAbs:Nat),d.tdiv (Nat.gcd n.natAbs d.natAbs:Nat))) ((n.tdiv (Nat.gcd n.natAbs d.natAbs:Nat),d.tdiv (Nat.gcd n.natAbs d.natAbs:Nat)),true) ((0,0),false)
def rNew(n d:Int):Rt×Bool:=
 cond (d==0) ((0,0),false) (cond (Iw n (-4000000000000000000) 4000000000000000000) (cond (Iw d (-4000000000000000000) 4000000000000000000) (cond (decide (d < 0)) (aw (-n) (-d)) (aw n d)) ((0,0),false)) ((0,0),false))
theorem W4{n:Int}{g:Nat}(h:n.natAbs<=4000000000000000000):IntKind.i64.wrap (n.tdiv (g:Int))=n.tdiv (g:Int):=by
 have:=show(n.tdiv (g:Int)).natAbs=n.natAbs / (g:Int).natAbs from Int.natAbs_tdiv n (g:Int)
 have h2:n.natAbs / (g:Int).natAbs<=n.natAbs:=Nat.div_le_self _ _
 rw[<-this]at h2
 exact wrap_in (by omega)
theorem o8{n d:Int}(hn:n.natAbs<=4000000000000000000)(hd:0 < d∧d<=4000000000000000000):GY n d=some (aw n d):=by
 unfold GY aw
 have e:d=(d.natAbs:Int):=by omega
 have hg:=oZ n.natAbs d.natAbs (by omega)
 rw[<-e]at hg
 have hp:0 < Nat.gcd n.natAbs d.natAbs:=Nat.gcd_pos_of_pos_right _ (by omega)
 rw[Zs hn,hg,E9,AH (by omega),AH (by omega),W4 hn,W4 (by omega),Rb,E9]
 cases HK (n.tdiv (Nat.gcd n.natAbs d.natAbs:Nat),d.tdiv (Nat.gcd n.natAbs d.natAbs:Nat))<;>rfl
theorem oE{n d:Int}(hn:n.natAbs<=4000000000000000000)(hd:0 < d∧d<=4000000000000000000):GR n d=some (aw n d):=by
 unfold GR aw
 have e:d=(d.natAbs:Int):=by omega
 have hg:=oA n.natAbs d.natAbs (by omega)
 rw[<-e]at hg
 have hp:0 < Nat.gcd n.natAbs d.natAbs:=Nat.gcd_pos_of_pos_right _ (by omega)
 unfold Sn
 rw[Zs hn,E9,hg,E9,AH (by omega),AH (by omega),W4 hn,W4 (by omega),eL,E9]
 cases HK (n.tdiv (Nat.gcd n.natAbs d.natAbs:Nat),d.tdiv (Nat.gcd n.natAbs d.natAbs:Nat))<;>rfl
theorem dw(n d:Int):Hj n d=some (rNew n d):=by
 unfold Hj rNew
 have e4:IntKind.i64.wrap (0 - 4000000000000000000)= -4000000000000000000:=by decide
 cases h0:d==0 with
 |true=>rfl
 |false=>
  rw[A3]at h0
  rw[Ad,Ad,e4,LW,E9]
  cases h1:Iw n (-4000000000000000000) 4000000000000000000 with
  |false=>rfl
  |true=>
   rw[Al,Ad,Ac,LW,E9]
   cases h2:Iw d (-4000000000000000000) 4000000000000000000 with
   |false=>rfl
   |true=>
    rw[NZ]at h1 h2
    rw[Al,Ad,Ac]
    by_cases h:d < 0
    ·rw[Ag h,Ac,Ac,wrap_in (by omega),wrap_in (by omega),Hu,Hu]
     exact o8 (by omega) (by omega)
    ·rw[Ah h,Ad,Ad]
     exact o8 (by omega) (by omega)
theorem c5(n d:Int):Hg n d=some (rNew n d):=by
 unfold Hg rNew
 cases h0:d==0 with
 |true=>rfl
 |false=>
  rw[A3]at h0
  rw[Ad,Ad,IS,E9]
  cases h1:Iw n (-4000000000000000000) 4000000000000000000 with
  |false=>rfl
  |true=>
   rw[Al,Ad,Ac,IS,E9]
   cases h2:Iw d (-4000000000000000000) 4000000000000000000 with
   |false=>rfl
   |true=>
    rw[NZ]at h1 h2
    rw[Al,Ad,Ac]
    by_cases h:d < 0
    ·rw[Ag h,Ac,Ac,wrap_in (by omega),wrap_in (by omega),Hu,Hu]
     exact oE (by omega) (by omega)
    ·rw[Ah h,Ad,Ad]
     exact oE (by omega) (by omega)
theorem lH{x y:Int}(hx:x.natAbs<=1000000000)(hy:y.natAbs<=1000000000):IntKind.i64.wrap (x * y)=x * y∧(x * y).natAbs<=1000000000000000000:=by
 have h:(x * y).natAbs<=1000000000 * 1000000000:=by rw[Int.natAbs_mul];exact ET hx hy
 exact⟨wrap_in (by omega),by omega⟩
def Ud(a b:Rt):Rt×Bool:=cond (HK a) (cond (HK b) (rNew (a.1 * b.2+b.1 * a.2) (a.2 * b.2)) ((0,0),false)) ((0,0),false)
def HS(a b:Rt):Rt×Bool:=cond (HK a) (cond (HK b) (rNew (a.1 * b.1) (a.2 * b.2)) ((0,0),false)) ((0,0),false)
def Qo(a b:Rt):Rt×Bool:=cond (HK a) (cond (HK b) (rNew (a.1 * b.2) (a.2 * b.1)) ((0,0),false)) ((0,0),false)
def Q9(a b:Rt):Rt×Bool:=cond (HK b) (Ud a (-b.1,b.2)) ((0,0),false)
def JS(a b:Rt):Int:=cond (HK a) (cond (HK b) (cond (decide (a.1 * b.2 < b.1 * a.2)) (-1) (cond (decide (b.1 * a.2 < a.1 * b.2)) 1 0)) 0) 0
theorem Ww{a b:Rt}(ha:HK a=true)(hb:HK b=true):IntKind.i64.wrap (a.1 * b.2)=a.1 * b.2∧IntKind.i64.wrap (b.1 * a.2)=b.1 * a.2∧IntKind.i64.wrap (a.2 * b.2)=a.2 * b.2∧IntKind.i64.wrap (a.1 * b.2+b.1 * a.2)=a.1 * b.2+b.1 * a.2∧IntKind.i64.wrap (a.1 * b.1)=a.1 * b.1∧IntKind.i64.wrap (a.2 * b.1)=a.2 * b.1:=by
 have fa:=Hi ha
 have fb:=Hi hb
 have h1:=lH (x:=a.1) (y:=b.2) (by omega) (by omega)
 have h2:=lH (x:=b.1) (y:=a.2) (by omega) (by omega)
 exact⟨h1.1,h2.1,(lH (by omega) (by omega)).1,wrap_in (by omega),(lH (by omega) (by omega)).1,(lH (by omega) (by omega)).1⟩
theorem ZZ(a b:Rt):Hq a b=some (HK a&&HK b):=by
 unfold Hq
 rw[eL,E9]
 cases HK a with
 |false=>rfl
 |true=>rw[Ac,eL,E9];rfl
theorem kP(a b:Rt):I8 a b=some (Ud a b):=by
 unfold I8 Ud
 rw[Rb,E9]
 cases ha:HK a with
 |false=>rfl
 |true=>
  rw[Al,Ad,Ac,Rb,E9]
  cases hb:HK b with
  |false=>rfl
  |true=>
   obtain⟨e1,e2,e3,e4,e5,e6⟩:=Ww ha hb
   rw[Al,Ad,Ac,e1,e2,e3,e4,dw];rfl
theorem cZ(a b:Rt):IT a b=some (Ud a b):=by
 unfold IT Ud
 rw[ZZ,E9]
 cases ha:HK a with
 |false=>rfl
 |true=>
  cases hb:HK b with
  |false=>rfl
  |true=>
   obtain⟨e1,e2,e3,e4,e5,e6⟩:=Ww ha hb
   rw[HV,Al,Ad,Ac,Ac,e1,e2,e3,e4,c5];rfl
theorem kR(a b:Rt):Jb a b=some (HS a b):=by
 unfold Jb HS
 rw[Rb,E9]
 cases ha:HK a with
 |false=>rfl
 |true=>
  rw[Al,Ad,Ac,Rb,E9]
  cases hb:HK b with
  |false=>rfl
  |true=>
   obtain⟨e1,e2,e3,e4,e5,e6⟩:=Ww ha hb
   rw[Al,Ad,Ac,e5,e3,dw];rfl
theorem jf(a b:Rt):IW a b=some (HS a b):=by
 unfold IW HS
 rw[ZZ,E9]
 cases ha:HK a with
 |false=>rfl
 |true=>
  cases hb:HK b with
  |false=>rfl
  |true=>
   obtain⟨e1,e2,e3,e4,e5,e6⟩:=Ww ha hb
   rw[HV,Al,Ad,Ac,Ac,e5,e3,c5];rfl
theorem kQ(a b:Rt):I9 a b=some (Qo a b):=by
 unfold I9 Qo
 rw[Rb,E9]
 cases ha:HK a with
 |false=>rfl
 |true=>
  rw[Al,Ad,Ac,Rb,E9]
  cases hb:HK b with
  |false=>rfl
  |true=>
   obtain⟨e1,e2,e3,e4,e5,e6⟩:=Ww ha hb
   rw[Al,Ad,Ac,e1,e6,dw];rfl
theorem jd(a b:Rt):IU a b=some (Qo a b):=by
 unfold IU Qo
 rw[ZZ,E9]
 cases ha:HK a with
 |false=>rfl
 |true=>
  cases hb:HK b with
  |false=>rfl
  |true=>
   obtain⟨e1,e2,e3,e4,e5,e6⟩:=Ww ha hb
   rw[HV,Al,Ad,Ac,Ac]
   cases h0:b.1==0 with
   |true=>rw[Bi]at h0;rw[h0,Int.mul_zero];rfl
   |false=>rw[Ad,e1,e6,c5];rfl
theorem nw{b:Rt}(hb:b.1.natAbs<=4000000000000000000):HK (-b.1,b.2)=HK b:=by
 unfold HK
 have e:Iw (-b.1) (-1000000000) 1000000000=Iw b.1 (-1000000000) 1000000000:=by
  rw[AL,NZ,NZ];omega
 simp only[Int.natAbs_neg,e]
theorem sV(a b:Rt):Lt a b=some (Q9 a b):=by
 unfold Lt Q9
 rw[Rb,E9]
 cases hb:HK b with
 |false=>rfl
 |true=>
  have fb:=Hi hb
  rw[Al,Ad,Ac,wrap_in (by omega),Hu,kP];rfl
theorem qq{a b:Rt}(hI: -9223372036854775808<=b.1∧b.1<=9223372036854775807):Lg a b=some (Q9 a b):=by
 unfold Lg Q9
 cases hb:HK b with
 |false=>
  have hb':HK (IntKind.i64.wrap (0 - b.1),b.2)=false:=by
   by_cases e:b.1= -9223372036854775808
   ·rw[e]
    cases h:HK (IntKind.i64.wrap (0 - -9223372036854775808),b.2)with
    |false=>rfl
    |true=>
     have f:=(Hi h).2.2.1
     rw[show IntKind.i64.wrap (0 - -9223372036854775808)= -9223372036854775808 by decide]at f
     exact absurd f (show ¬((-9223372036854775808:Int).natAbs<=1000000000)by decide)
   ·rw[wrap_in (by omega),Hu]
    by_cases hm:b.1.natAbs<=4000000000000000000
    ·rw[nw hm];exact hb
    ·cases h:HK (-b.1,b.2)with
     |false=>rfl
     |true=>
      have f:=(Hi h).2.2.1
      simp only at f
      omega
  rw[cZ]
  unfold Ud
  cases HK a with
  |false=>rfl
  |true=>rw[Ac,hb'];rfl
 |true=>
  have fb:=Hi hb
  rw[Ac,wrap_in (by omega),Hu,cZ];rfl
theorem Uh(a b:Rt):C0 a b=some (JS a b):=by
 unfold C0 JS
 rw[Rb,E9]
 cases ha:HK a with
 |false=>rfl
 |true=>
  rw[Al,Ad,Ac,Rb,E9]
  cases hb:HK b with
  |false=>rfl
  |true=>
   obtain⟨e1,e2,e3,e4,e5,e6⟩:=Ww ha hb
   rw[Al,Ad,Ac,e1,e2]
   cases decide (a.1 * b.2 < b.1 * a.2)<;>cases decide (b.1 * a.2 < a.1 * b.2)<;>rfl
theorem XE(a b:Rt):DJ a b=some (JS a b):=by
 unfold DJ JS
 rw[ZZ,E9]
 cases ha:HK a with
 |false=>rfl
 |true=>
  cases hb:HK b with
  |false=>rfl
  |true=>
   obtain⟨e1,e2,e3,e4,e5,e6⟩:=Ww ha hb
   rw[HV,Al,Ad,Ac,Ac,e1,e2,qj,E9]
   by_cases h1:a.1 * b.2 < b.1 * a.2
   ·rw[AI h1,Ag h1];rfl
   ·rw[AJ h1,Ah h1]
    by_cases h2:b.1 * a.2 < a.1 * b.2
    ·rw[AI h2,Ag h2];rfl
    ·rw[AJ h2,Ah h2];rfl
theorem Hf{O:Type}{B:(Int->Option (Sum Unit O))->Int->Option (Sum Unit O)}{n:Nat}(bad:Nat->Bool)(o:O)(hn:n<=lim)(h1:∀k,k < n->∀rec,B rec (k:Int)=cond (bad k) (some (.inr o)) (rec ((k+1:Nat):Int)))(h2:∀rec,B rec (n:Int)=some (.inl ())):
  Ap B fz 0=some (cond ((List.range n).any bad) (.inr o) (.inl ())):=by
 have key:∀d k,k+d=n->(∀j,j < k->bad j=false)->∀m,d < m->Ap B m (k:Int)=some (cond ((List.range n).any bad) (.inr o) (.inl ())):=by
  intro d
  induction d with
  |zero=>
   intro k hk hb m hm
   obtain⟨m,rfl⟩:∃g,m=g+1:=⟨m - 1,by omega⟩
   have:(List.range n).any bad=false:=by
    rw[Cm]
    intro x hx
    rw[hb x (by have:=An.1 hx;omega)];simp
   rw[By,show k=n by omega,h2,this];rfl
  |succ d ih=>
   intro k hk hb m hm
   obtain⟨m,rfl⟩:∃g,m=g+1:=⟨m - 1,by omega⟩
   rw[By,h1 k (by omega)]
   cases hbk:bad k with
   |true=>
    have:(List.range n).any bad=true:=by rw[Cg];exact⟨k,An.2 (by omega),hbk⟩
    rw[this];rfl
   |false=>
    exact ih (k+1) (by omega) (λj hj=>by
     rcases BV j k with h|h
     ·exact hb j h
     ·rw[show j=k by omega];exact hbk) m (by omega)
 have:=key n 0 (by omega) (λj hj=>absurd hj (by omega)) fz (CQ hn)
 simpa using this
theorem a6{α:Type}(x:α)(l:List α)(f:α->Bool):B9 (x::l) (λ_ e=>f e)=(f x || B9 l λ_ e=>f e):=by
 unfold B9
 rw[Ax,List.range_succ_eq_map,EM,Nn]
 congr 1
def cap(v:Nat):Option Nat:=if v < 10 ^ 60 then some v else none
theorem YI{α:Type}:∀(l:List α) (k:Nat),(IC k l).map (·.1)=List.range' k l.length
 |[],_=>rfl
 |x::l,k=>by rw[IC,AO,YI l (k+1),Ax,C4]
theorem N4{α:Type}(l:List α):IG l=List.range l.length:=by rw[IG,YI,ES]
theorem Y9{α:Type}:∀(l p:List α),HC (p++l) (List.range' p.length l.length)=l
 |[],p=>rfl
 |x::l,p=>by
  have h:=Y9 l (p++[x])
  rw[Bc,GE,Ar,At]at h
  rw[Ax,C4]
  unfold HC at h⊢
  rw[AG,h]
  simp
theorem kt{α:Type}(l:List α):HC l (IG l)=l:=by
 rw[N4,ES]
 exact Y9 l []
theorem bW:∀(n k m:Nat) (seen:List Nat),k+n<=m->(∀j∈seen,j < k)->YX m (List.range' k n) seen=true
 |0,_,_,_,_,_=>rfl
 |n+1,k,m,seen,h,hs=>by
  rw[C4,YX,Ab,Ab,AC]
  refine⟨⟨by rw[Nat.blt_eq];omega,?_⟩,bW n (k+1) m (k::seen) (by omega) (λj hj=>?_)⟩
  ·cases hc:seen.contains k with
   |false=>rfl
   |true=>exact absurd (hs k (Av.1 hc)) (Ft _)
  ·rcases AV.1 hj with rfl|hj
   ·omega
   ·have:=hs j hj;omega
theorem m5{α:Type}(l:List α):YX l.length (IG l) []=true:=by
 rw[N4,ES]
 exact bW _ 0 _ [] (by omega) (by simp)
def M0{S O:Type}(st:Nat->S->Sum S O):Nat->Nat->S->Sum S O
 |0,_,s=>.inl s
 |j+1,k,s=>match st k s with
  |.inl s'=>M0 st j (k+1) s'
  |.inr o=>.inr o
theorem Tj{S T O R:Type}{B:(T->Option R)->T->Option R}{n:Nat}(at_:S->Nat->T)(Inv:Nat->S->Prop)(st:Nat->S->Sum S O)(fin:Sum S O->R)
  (h1:∀rec k s,k < n->Inv k s->B rec (at_ s k)=match st k s with|.inl s'=>rec (at_ s' (k+1))|.inr o=>some (fin (.inr o)))
  (h2:∀rec s,Inv n s->B rec (at_ s n)=some (fin (.inl s)))
  (h3:∀k s s',k < n->Inv k s->st k s=.inl s'->Inv (k+1) s'):∀(j k:Nat) (s:S) (f:Nat),k+j=n->j < f->Inv k s->Ap B f (at_ s k)=some (fin (M0 st j k s))
 |0,k,s,f,hk,hf,hi=>by
  obtain⟨f,rfl⟩:∃g,f=g+1:=⟨f - 1,by omega⟩
  obtain rfl:k=n:=by omega
  rw[By,h2 _ s hi];rfl
 |j+1,k,s,f,hk,hf,hi=>by
  obtain⟨f,rfl⟩:∃g,f=g+1:=⟨f - 1,by omega⟩
  rw[By,h1 _ k s (by omega) hi,M0]
  cases hs:st k s with
  |inl s'=>exact Tj at_ Inv st fin h1 h2 h3 j (k+1) s' f (by omega) (by omega) (h3 k s s' (by omega) hi hs)
  |inr o=>rfl
theorem EK{S T O R:Type}{B:(T->Option R)->T->Option R}{n:Nat}(at_:S->Nat->T)(Inv:Nat->S->Prop)(st:Nat->S->Sum S O)(fin:Sum S O->R)(hn:n<=lim)
  (h1:∀rec k s,k < n->Inv k s->B rec (at_ s k)=match st k s with|.inl s'=>rec (at_ s' (k+1))|.inr o=>some (fin (.inr o)))
  (h2:∀rec s,Inv n s->B rec (at_ s n)=some (fin (.inl s)))
  (h3:∀k s s',k < n->Inv k s->st k s=.inl s'->Inv (k+1) s') (s:S) (hi:Inv 0 s):Ap B fz (at_ s 0)=some (fin (M0 st n 0 s)):=
 Tj at_ Inv st fin h1 h2 h3 n 0 s fz (by omega) (CQ hn) hi
theorem X8{α O:Type}(g:Nat->α):∀(j k:Nat) (s:List α),M0 (O:=O) (λk s=>.inl (s++[g k])) j k s=.inl (s++(List.range' k j).map g)
 |0,k,s=>by rw[M0];simp
 |j+1,k,s=>by rw[M0];simp only;rw[X8 g j (k+1),C4,AO,Bc];rfl
def Nm{α O:Type}(g:Nat->Sum α O):Nat->Nat->Sum (List α) O
 |0,_=>.inl []
 |j+1,k=>match g k with
  |.inr o=>.inr o
  |.inl x=>match Nm g j (k+1)with
   |.inl l=>.inl (x::l)
   |.inr o=>.inr o
def aY{α O:Type}(s:List α):Sum α O->Sum (List α) O
 |.inl x=>.inl (s++[x])
 |.inr o=>.inr o
theorem PX{α O:Type}(g:Nat->Sum α O):∀(j k:Nat) (s:List α),M0 (λk s=>aY s (g k)) j k s=(match Nm g j k with|.inl l=>.inl (s++l)|.inr o=>.inr o)
 |0,k,s=>by rw[M0,Nm];simp
 |j+1,k,s=>by
  rw[M0,Nm]
  cases hg:g k with
  |inr o=>rfl
  |inl x=>
   rw[show aY (O:=O) s (.inl x)=.inl (s++[x])from rfl]
   simp only
   rw[PX g j (k+1)]
   cases Nm g j (k+1)with
   |inr o=>rfl
   |inl l=>simp only[Bc,GE]
theorem U3{α O:Type}{g:Nat->Sum α O}:∀{j k:Nat}{l:List α},Nm g j k=.inl l->l.length=j
 |0,_,_,h=>by cases h;rfl
 |j+1,k,l,h=>by
  rw[Nm]at h
  cases hg:g k with
  |inr o=>rw[hg]at h;cases h
  |inl x=>
   rw[hg]at h
   cases hm:Nm g j (k+1)with
   |inr o=>simp only[hm]at h;cases h
   |inl l'=>simp only[hm]at h;cases h;rw[Ax,U3 hm]
theorem du{α:Type}(l:List α)(j:Nat)(J:List Nat):HC l (j::J)=(l[j]?).toList++HC l J:=by rw[HC,AG];rfl
theorem Y8{α:Type}[Inhabited α](l:List α):∀{J:List Nat},(∀j∈J,j < l.length)->HC l J=J.map λj=>l.getD j default
 |[],_=>rfl
 |j::J,h=>by
  have hj:=h j BO
  rw[du,Y8 l λi hi=>h i (AX _ hi),AO,Af hj,Au,Af hj];rfl
theorem j4{n:Nat}:∀{J seen:List Nat},J.Nodup->(∀j∈J,j < n∧j∉seen)->YX n J seen=true
 |[],_,_,_=>rfl
 |j::J,seen,hn,h=>by
  obtain⟨h1,h2⟩:=BH.1 hn
  obtain⟨h3,h4⟩:=h j BO
  rw[YX,Ab,Ab,AC]
  refine⟨⟨by rw[Nat.blt_eq];exact h3,?_⟩,j4 h2 λi hi=>⟨(h i (AX _ hi)).1,λhm=>?_⟩⟩
  ·cases hc:seen.contains j with
   |false=>rfl
   |true=>exact absurd (Av.1 hc) h4
  ·rcases AV.1 hm with rfl|hm
   ·exact h1 hi
   ·exact(h i (AX _ hi)).2 hm
def sw(p k i:Nat):Nat:=if i=p then k else if i=k then p else i
theorem s7{p k i j:Nat}(h:sw p k i=sw p k j):i=j:=by
 unfold sw at h
 split at h<;>split at h<;>(try split at h)<;>(try split at h)<;>omega
theorem nP{n p k:Nat}(hp:p < n)(hk:k < n):((List.range n).set k p).set p k=(List.range n).map (sw p k):=by
 apply EE
 ·simp
 ·intro i h1 h2
  simp only[BG,BZ]at h1
  rw[EF,BQ,D3]
  unfold sw
  by_cases e:p=i
  ·subst e;simp
  ·rw[AJ e,AJ (λh=>e h.symm),EF]
   by_cases e2:k=i
   ·subst e2;simp
   ·rw[AJ e2,AJ (λh=>e2 h.symm),D3]
theorem lp{n p k:Nat}(hp:p < n)(hk:k < n):((List.range n).set p k).set k p=(List.range n).map (sw p k):=by
 apply EE
 ·simp
 ·intro i h1 h2
  simp only[BG,BZ]at h1
  rw[EF,BQ,D3]
  unfold sw
  by_cases e:k=i
  ·subst e
   rw[AI rfl]
   split
   ·rename_i h;exact h.symm
   ·rw[AI rfl]
  ·rw[AJ e,EF]
   by_cases e2:p=i
   ·subst e2;simp
   ·rw[AJ e2,AJ (λh=>e2 h.symm),AJ (λh=>e h.symm),D3]
theorem pe{n p k i:Nat}(hp:p < n)(hk:k < n)(hi:i < n):sw p k i < n:=by unfold sw;split;exact hk;split;exact hp;exact hi
theorem pf{n p k:Nat}(hp:p < n)(hk:k < n):YX n ((List.range n).map (sw p k)) []=true:=by
 refine j4 ?_ λj hj=>?_
 ·unfold List.Nodup
  rw[E8]
  exact GU (λh e=>h (s7 e)) (show(List.range n).Pairwise (· ≠ ·)from EJ)
 ·obtain⟨i,hi,rfl⟩:=Bh.1 hj
  exact⟨pe hp hk (An.1 hi),by simp⟩
def swL{α:Type}[Inhabited α](m:List α)(p k:Nat):List α:=(m.set k (m.getD p default)).set p (m.getD k default)
theorem ln{α:Type}[Inhabited α]{m:List α}{p k:Nat}(hp:p < m.length)(hk:k < m.length):HC m ((List.range m.length).map (sw p k))=swL m p k:=by
 rw[Y8 m λj hj=>by obtain⟨i,hi,rfl⟩:=Bh.1 hj;exact pe hp hk (An.1 hi),EI]
 unfold swL
 apply EE
 ·simp
 ·intro i h1 h2
  simp only[As,BZ]at h1
  rw[BQ,D3,EF]
  simp only[Function.comp]
  unfold sw
  by_cases e:p=i
  ·subst e;simp
  ·rw[AJ e,AJ (λh=>e h.symm),EF]
   by_cases e2:k=i
   ·subst e2;simp
   ·rw[AJ e2,AJ (λh=>e2 h.symm),Au,Af h1];rfl
theorem nO{α:Type}[Inhabited α](m:List α)(p k:Nat):(swL m p k).length=m.length:=by unfold swL;simp
abbrev Mx:=List (List Rt)
def atR(l:List Rt)(k:Nat):Rt:=l.getD k (0,0)
def EO(m:Mx)(k:Nat):List Rt:=m.getD k []
def rowOk(n:Nat)(r:List Rt):Bool:=(r.length==n)&&r.all HK
def Vi(a:Mx)(b:List Rt):Bool:=(a.length==b.length)&&(a.all (rowOk b.length)&&b.all HK)
def elF(f:Rt):List Rt->List Rt->Option (List Rt)
 |x::xs,y::ys=>cond ((HS f y).2&&(Q9 x (HS f y).1).2) ((elF f xs ys).map ((Q9 x (HS f y).1).1:: ·)) none
 |_,_=>some []
def Wn(p:Nat)(row piv:List Rt):Option (List Rt):=cond (Qo (atR row p) (atR piv p)).2 ((elF (Qo (atR row p) (atR piv p)).1 (row.drop p) (piv.drop p)).map (row.take p++ ·)) none
def Zi(p:Nat)(m:Mx)(i:Nat):Option Mx:=cond (i==p) (some m) (cond ((atR (EO m i) p).1==0) (some m) ((Wn p (EO m i) (EO m p)).map (m.set i ·)))
def Qy(p:Nat):Nat->Nat->Mx->Option Mx
 |0,_,m=>some m
 |j+1,i,m=>match Zi p m i with
  |none=>none
  |some m'=>Qy p j (i+1) m'
def O9(m:Mx)(p:Nat):Nat->Nat->Nat
 |0,k=>k
 |j+1,k=>cond ((atR (EO m k) p).1==0) (O9 m p j (k+1)) k
def OK(n:Nat):Nat->Nat->Mx->Option Mx
 |0,_,m=>some m
 |j+1,p,m=>cond (O9 m p (n - p) p==n) none (match Qy p n 0 (swL m p (O9 m p (n - p) p))with
  |none=>none
  |some m'=>OK n j (p+1) m')
def RV(n:Nat)(m:Mx)(p:Nat):Sum Rt (List Rt×Bool):=cond (Qo (atR (EO m p) n) (atR (EO m p) p)).2 (.inl (Qo (atR (EO m p) n) (atR (EO m p) p)).1) (.inr ([],false))
def Ux(a:Mx)(b:List Rt):Mx:=(List.range' 0 b.length).map λk=>EO a k++[atR b k]
def Rh(a:Mx)(b:List Rt):List Rt×Bool:=cond (decide (6 < (b.length:Int))) ([],false) (cond (Vi a b) (match OK b.length b.length 0 (Ux a b)with
 |none=>([],false)
 |some m=>match Nm (RV b.length m) b.length 0 with
  |.inl x=>(x,true)
  |.inr o=>o) ([],false))
theorem nv(n d:Int):(rNew n d).1.1.natAbs<=1000000000:=by
 have hr:∀n d:Int,(aw n d).1.1.natAbs<=1000000000:=λn d=>by
  unfold aw
  cases h:HK (n.tdiv (Nat.gcd n.natAbs d.natAbs:Nat),d.tdiv (Nat.gcd n.natAbs d.natAbs:Nat))with
  |false=>simp
  |true=>exact(Hi h).2.2.1
 unfold rNew
 cases d==0 with
 |true=>simp
 |false=>
  cases Iw n (-4000000000000000000) 4000000000000000000 with
  |false=>simp
  |true=>
   cases Iw d (-4000000000000000000) 4000000000000000000 with
   |false=>simp
   |true=>
    cases decide (d < 0)with
    |true=>exact hr _ _
    |false=>exact hr _ _
theorem nr(a b:Rt): -9223372036854775808<=(HS a b).1.1∧(HS a b).1.1<=9223372036854775807:=by
 have h:(HS a b).1.1.natAbs<=1000000000:=by
  unfold HS
  cases HK a with
  |false=>simp
  |true=>
   cases HK b with
   |false=>simp
   |true=>exact nv _ _
 omega
theorem Xe{α:Type}(f:α->Bool):∀l:List α,B9 l (λ_ e=>f e)=l.any f
 |[]=>rfl
 |x::l=>by rw[a6,Xe f l,EM]
theorem Vw{α:Type}(l:List α)(f:α->Bool):((List.range l.length).any λk=>J6 l k f)=l.any f:=Xe f l
theorem not_any{α:Type}(l:List α)(f:α->Bool):(l.any λx=> !f x)= !l.all f:=by
 rw[List.not_all_eq_any_not]
theorem J7{l:List Rt}{k:Nat}(h:k < l.length):l[k]=atR l k:=by unfold atR;rw[Au,Af h];rfl
theorem Jv{m:Mx}{k:Nat}(h:k < m.length):m[k]=EO m k:=by unfold EO;rw[Au,Af h];rfl
theorem Em{l:List Rt}{k:Nat}(h:k < l.length):AZ l (k:Int)=some (atR l k):=by rw[Bm h,J7 h]
theorem Hn{m:Mx}{k:Nat}(h:k < m.length):AZ m (k:Int)=some (EO m k):=by rw[Bm h,Jv h]
theorem xu{a:Mx}{i:Nat}(hi:i < a.length)(hl:(EO a i).length<=lim):Ap (QC a ((EO a i).length:Int) (i:Int)) fz 0=some (cond ((EO a i).all HK) (.inl ()) (.inr false)):=by
 rw[Hf (n:=(EO a i).length) (λk=>J6 (EO a i) k λr=> !HK r) false hl (λk hk rec=>by
  show cond (decide ((k:Int) < ((EO a i).length:Int))) _ _=_
  rw[Bu hk,Ac,Hn hi]
  simp only[Aa]
  rw[Bm hk]
  simp only[Aa]
  rw[Rb]
  simp only[Aa]
  rw[BC hk (Be hl),CP hk]) (λrec=>by
  show cond (decide (((EO a i).length:Int) < ((EO a i).length:Int))) _ _=_
  rw[Ba,Ad])]
 rw[Vw,not_any]
 cases(EO a i).all HK<;>rfl
theorem nG{a:Mx}{m:Nat}(ha:a.length<=lim)(hm:m<=lim)(n:Int):HE a n (m:Int)=some (a.all (rowOk m)&&((a.length:Int)==n)):=by
 unfold HE
 rw[Hf (n:=a.length) (λk=>J6 a k λr=> !rowOk m r) false ha (λk hk rec=>by
  show cond (decide ((k:Int) < (a.length:Int))) _ _=_
  rw[Bu hk,Ac,Hn hk,CP hk,Jv hk]
  simp only[Aa]
  unfold rowOk
  by_cases hl:(EO a k).length=m
  ·subst hl
   rw[xu hk hm,BC hk (Be ha),Dk,Ad,BY,Aw]
   cases(EO a k).all HK<;>rfl
  ·rw[show(((EO a k).length:Int)!=(m:Int))=true from by rw[Ct];omega,Ac,show((EO a k).length==m)=false from by simpa using hl]
   rfl) (λrec=>by
  show cond (decide ((a.length:Int) < (a.length:Int))) _ _=_
  rw[Ba,Ad])]
 rw[Vw,not_any]
 cases a.all (rowOk m)<;>rfl
theorem VT{r:List Rt}(h:r.length<=lim):Gj r=some (r.all HK):=by
 unfold Gj
 rw[Hf (n:=r.length) (λk=>J6 r k λe=> !HK e) false h (λk hk rec=>by
  show cond (decide ((k:Int) < (r.length:Int))) _ _=_
  rw[Bu hk,Ac,Bm hk]
  simp only[Aa]
  rw[eL]
  simp only[Aa]
  rw[BC hk (Be h),CP hk]) (λrec=>by
  show cond (decide ((r.length:Int) < (r.length:Int))) _ _=_
  rw[Ba,Ad])]
 rw[Vw,not_any]
 cases r.all HK<;>rfl
theorem W3{row:List Rt}{k:Nat}(h:k < row.length)(y:Rt):(row.set k y).drop (k+1)=row.drop (k+1)∧(row.set k y).take (k+1)=row.take k++[y]:=by
 constructor
 ·rw[List.drop_set_of_lt (Hz k)]
 ·rw[List.take_set,AB h,List.set_append_right _ _ (by rw[Bb];omega),Bb,Cv (Cd h),Nat.sub_self];rfl
theorem ZA{m:Mx}{i j:Nat}(r:List Rt)(h:i < m.length):EO (m.set i r) j=if i=j then r else EO m j:=by
 unfold EO
 rw[Au,DM,Au]
 split
 ·first|rfl|(rename_i e;subst e;rw[AI h];rfl)
 ·rfl
theorem kT{p i:Nat}{d:Rt×Bool}{piv:List Rt}:∀(j k:Nat) (m:Mx) (f:Nat),k+j=(EO m i).length->j < f->(EO m i).length<=lim->i < m.length->p < m.length->i≠p->EO m p=piv->piv.length=(EO m i).length->
  (∀t,elF d.1 ((EO m i).drop k) (piv.drop k)=some t->Ap (EN (p:Int) (i:Int) d) f (m,true,(k:Int))=some (m.set i ((EO m i).take k++t),true))∧
  (elF d.1 ((EO m i).drop k) (piv.drop k)=none->∃g,Ap (EN (p:Int) (i:Int) d) f (m,true,(k:Int))=some (g,false))
 |0,k,m,f,hk,hf,hl,hi,hp,hne,hv,hvl=>by
  obtain⟨f,rfl⟩:∃g,f=g+1:=⟨f - 1,by omega⟩
  obtain rfl:k=(EO m i).length:=by omega
  rw[Hw,<-hvl,Hw]
  refine⟨λt ht=>?_,λh=>by cases h⟩
  cases ht
  rw[By]
  show Aa (AZ m (i:Int)) _=_
  rw[Hn hi]
  simp only[Aa]
  rw[hvl,Ba,Ad,A6,Bp]
  congr 2
  rw[<-Jv hi,List.set_getElem_self]
 |j+1,k,m,f,hk,hf,hl,hi,hp,hne,hv,hvl=>by
  obtain⟨f,rfl⟩:∃g,f=g+1:=⟨f - 1,by omega⟩
  have hk1:k < (EO m i).length:=by omega
  have hk2:k < piv.length:=by omega
  have hm1:∀y,EO (m.set i ((EO m i).set k y)) i=(EO m i).set k y:=λy=>by rw[ZA _ hi,AI rfl]
  have hmp:∀y,EO (m.set i ((EO m i).set k y)) p=piv:=λy=>by rw[ZA _ hi,AJ hne,hv]
  rw[Cr hk1,Cr hk2,elF,J7 hk1,J7 hk2]
  have hstep:Ap (EN (p:Int) (i:Int) d) (f+1) (m,true,(k:Int))=Ap (EN (p:Int) (i:Int) d) f (m.set i ((EO m i).set k (Q9 (atR (EO m i) k) (HS d.1 (atR piv k)).1).1),(HS d.1 (atR piv k)).2&&(Q9 (atR (EO m i) k) (HS d.1 (atR piv k)).1).2,((k+1:Nat):Int)):=by
   rw[By]
   show Aa (AZ m (i:Int)) _=_
   rw[Hn hi]
   simp only[Aa]
   rw[Bu hk1,Ac,Ac,Hn hp,hv]
   simp only[Aa]
   rw[Em hk2]
   simp only[Aa]
   rw[kR]
   simp only[Aa]
   rw[Em hk1]
   simp only[Aa]
   rw[sV]
   simp only[Aa]
   have hJ:∀x,JW (Ap (EN (p:Int) (i:Int) d) f) (i:Int) m (k:Int) (Q9 (atR (EO m i) k) (HS d.1 (atR piv k)).1) x=Ap (EN (p:Int) (i:Int) d) f (m.set i ((EO m i).set k (Q9 (atR (EO m i) k) (HS d.1 (atR piv k)).1).1),x,((k+1:Nat):Int)):=λx=>by
    unfold JW
    rw[AH (by omega),Hn hi]
    simp only[Aa]
    rw[AH (by omega),Em hk1,BC hk1 (Be hl)]
    simp only[Aa,Da,Bk]
   cases(HS d.1 (atR piv k)).2 with
   |true=>rw[Ac,hJ,Aw]
   |false=>rw[Ad,hJ,I3]
  rw[hstep]
  cases hb:(HS d.1 (atR piv k)).2&&(Q9 (atR (EO m i) k) (HS d.1 (atR piv k)).1).2 with
  |true=>
   rw[Ac]
   have ih:=kT (p:=p) (i:=i) (d:=d) (piv:=piv) j (k+1) (m.set i ((EO m i).set k (Q9 (atR (EO m i) k) (HS d.1 (atR piv k)).1).1)) f (by rw[hm1,BG];omega) (by omega) (by rw[hm1,BG];exact hl) (by rw[BG];exact hi) (by rw[BG];exact hp) hne (hmp _) (by rw[hm1,BG];exact hvl)
   rw[hm1,(W3 hk1 _).1,(W3 hk1 _).2]at ih
   refine⟨λt ht=>?_,λhn=>ih.2 (by simpa using hn)⟩
   obtain⟨t',h1,h2⟩:=BP.1 ht
   rw[ih.1 t' h1,<-h2,Bc,List.set_set];rfl
  |false=>
   rw[Ad]
   refine⟨λt ht=>(by cases ht),λ_=>?_⟩
   obtain⟨f',rfl⟩:∃g,f=g+1:=⟨f - 1,by omega⟩
   refine⟨m.set i ((EO m i).set k (Q9 (atR (EO m i) k) (HS d.1 (atR piv k)).1).1),?_⟩
   rw[By]
   show Aa (AZ (m.set i ((EO m i).set k (Q9 (atR (EO m i) k) (HS d.1 (atR piv k)).1).1)) (i:Int)) _=_
   rw[Hn (by rw[BG];exact hi)]
   simp only[Aa]
   cases decide (((k+1:Nat):Int) < ((EO (m.set i ((EO m i).set k (Q9 (atR (EO m i) k) (HS d.1 (atR piv k)).1).1)) i).length:Int))<;>rfl
theorem oF{d:Rt×Bool}{piv:List Rt}:∀(j k:Nat) (row:List Rt) (f:Nat),k+j=row.length->j < f->row.length<=lim->piv.length=row.length->
  (∀t,elF d.1 (row.drop k) (piv.drop k)=some t->Ap (Gz piv d) f (row,(k:Int))=some (.inl (row.take k++t)))∧
  (elF d.1 (row.drop k) (piv.drop k)=none->∃g,Ap (Gz piv d) f (row,(k:Int))=some (.inr (false,g)))
 |0,k,row,f,hk,hf,hl,hvl=>by
  obtain⟨f,rfl⟩:∃g,f=g+1:=⟨f - 1,by omega⟩
  obtain rfl:k=row.length:=by omega
  rw[Hw,<-hvl,Hw]
  refine⟨λt ht=>?_,λh=>by cases h⟩
  cases ht
  rw[By]
  show cond (decide ((piv.length:Int) < (row.length:Int))) _ _=_
  rw[hvl,Ba,Ad,A6,Bp]
 |j+1,k,row,f,hk,hf,hl,hvl=>by
  obtain⟨f,rfl⟩:∃g,f=g+1:=⟨f - 1,by omega⟩
  have hk1:k < row.length:=by omega
  have hk2:k < piv.length:=by omega
  rw[Cr hk1,Cr hk2,elF,J7 hk1,J7 hk2,By]
  have hB:Gz piv d (Ap (Gz piv d) f) (row,(k:Int))=cond (!(HS d.1 (atR piv k)).2) (some (.inr (false,row,piv))) (cond (!(Q9 (atR row k) (HS d.1 (atR piv k)).1).2) (some (.inr (false,row,piv))) (Ap (Gz piv d) f (row.set k (Q9 (atR row k) (HS d.1 (atR piv k)).1).1,((k+1:Nat):Int)))):=by
   show cond (decide ((k:Int) < (row.length:Int))) _ _=_
   rw[Bu hk1,Ac,Em hk2]
   simp only[Aa]
   rw[jf]
   simp only[Aa]
   rw[Em hk1]
   simp only[Aa]
   rw[qq (nr _ _)]
   simp only[Aa]
   rw[AH (by omega),BC hk1 (Be hl)]
   simp only[Da,Bk]
  rw[hB]
  cases(HS d.1 (atR piv k)).2 with
  |false=>exact⟨λt ht=>(by cases ht),λ_=>⟨_,rfl⟩⟩
  |true=>
   rw[Aw,Al,Ad]
   cases(Q9 (atR row k) (HS d.1 (atR piv k)).1).2 with
   |false=>exact⟨λt ht=>(by cases ht),λ_=>⟨_,rfl⟩⟩
   |true=>
    rw[Ac,Al,Ad]
    have ih:=oF (d:=d) (piv:=piv) j (k+1) (row.set k (Q9 (atR row k) (HS d.1 (atR piv k)).1).1) f (by rw[BG];omega) (by omega) (by rw[BG];exact hl) (by rw[BG];exact hvl)
    rw[(W3 hk1 _).1,(W3 hk1 _).2]at ih
    refine⟨λt ht=>?_,λhn=>ih.2 (by simpa using hn)⟩
    obtain⟨t',h1,h2⟩:=BP.1 ht
    rw[ih.1 t' h1,<-h2,Bc];rfl
theorem qm{row piv:List Rt}{p:Nat}(hl:row.length<=lim)(hvl:piv.length=row.length)(hp:p < row.length):(∀t,Wn p row piv=some t->KM row piv (p:Int)=some (true,t,piv))∧(Wn p row piv=none->∃g,KM row piv (p:Int)=some (false,g)):=by
 unfold KM Wn
 rw[Em hp,Em (by omega:p < piv.length)]
 simp only[Aa]
 rw[jd]
 simp only[Aa]
 cases(Qo (atR row p) (atR piv p)).2 with
 |false=>exact⟨λt ht=>(by cases ht),λ_=>⟨_,rfl⟩⟩
 |true=>
  rw[Ac,Al,Ad]
  have h:=oF (d:=Qo (atR row p) (atR piv p)) (piv:=piv) (row.length - p) p row fz (by omega) (by have:=CQ hl;omega) hl hvl
  refine⟨λt ht=>?_,λhn=>?_⟩
  ·obtain⟨t',h1,h2⟩:=BP.1 ht
   rw[h.1 t' h1,<-h2]
  ·obtain⟨g,hg⟩:=h.2 (by simpa using hn)
   exact⟨g,by rw[hg]⟩
def QK(n L:Nat)(m:Mx):Prop:=m.length=n∧∀i,i < n->(EO m i).length=L
theorem QK.set{n L i:Nat}{m:Mx}{r:List Rt}(h:QK n L m)(hi:i < n)(hr:r.length=L):QK n L (m.set i r):=
 ⟨by rw[BG];exact h.1,λj hj=>by
  rw[ZA _ (by rw[h.1];exact hi)]
  split
  ·exact hr
  ·exact h.2 j hj⟩
theorem ZQ{f:Rt}:∀{xs ys t:List Rt},elF f xs ys=some t->xs.length=ys.length->t.length=xs.length
 |[],_,t,h,_=>by cases h;rfl
 |x::xs,[],t,h,hl=>by simp at hl
 |x::xs,y::ys,t,h,hl=>by
  rw[elF]at h
  cases hb:(HS f y).2&&(Q9 x (HS f y).1).2 with
  |false=>rw[hb]at h;cases h
  |true=>
   rw[hb,Ac]at h
   obtain⟨t',h1,h2⟩:=BP.1 h
   rw[<-h2,Ax,Ax,ZQ h1 (by simpa using hl)]
theorem YH{p:Nat}{row piv t:List Rt}(h:Wn p row piv=some t)(hl:row.length=piv.length)(hp:p<=row.length):t.length=row.length:=by
 unfold Wn at h
 cases hb:(Qo (atR row p) (atR piv p)).2 with
 |false=>rw[hb]at h;cases h
 |true=>
  rw[hb,Ac]at h
  obtain⟨t',h1,h2⟩:=BP.1 h
  have:=ZQ h1 (by rw[BX,BX,hl])
  rw[<-h2,Ar,Bb,this,BX]
  omega
theorem lm{n L p i:Nat}{m m':Mx}(h:QK n L m)(hs:Zi p m i=some m')(hi:i < n)(hp:p < n)(hpl:p < L):QK n L m':=by
 unfold Zi at hs
 cases h1:i==p with
 |true=>rw[h1]at hs;cases hs;exact h
 |false=>
  rw[h1,Ad]at hs
  cases h2:(atR (EO m i) p).1==0 with
  |true=>rw[h2]at hs;cases hs;exact h
  |false=>
   rw[h2,Ad]at hs
   obtain⟨t,h3,h4⟩:=BP.1 hs
   rw[<-h4]
   exact h.set hi (by rw[YH h3 (by rw[h.2 i hi,h.2 p hp]) (by rw[h.2 i hi];omega),h.2 i hi])
theorem Vc{n L p:Nat}(hp:p < n)(hpl:p < L):∀{j i:Nat}{m m':Mx},i+j=n->QK n L m->Qy p j i m=some m'->QK n L m'
 |0,_,_,_,_,h,hs=>by cases hs;exact h
 |j+1,i,m,m',hj,h,hs=>by
  rw[Qy]at hs
  cases hr:Zi p m i with
  |none=>rw[hr]at hs;cases hs
  |some m1=>rw[hr]at hs;exact Vc hp hpl (by omega) (lm h hr (by omega) hp hpl) hs
theorem kU{p i f:Nat}{d:Rt×Bool}{m:Mx}{k:Nat}(hi:i < m.length):Ap (EN (p:Int) (i:Int) d) (f+1) (m,false,(k:Int))=some (m,false):=by
 rw[By]
 show Aa (AZ m (i:Int)) _=_
 rw[Hn hi]
 simp only[Aa]
 cases decide ((k:Int) < ((EO m i).length:Int))<;>rfl
theorem aA{n L p:Nat}(hp:p < n)(hpl:p < L)(hn:n<=lim)(hL:L<=lim):∀(j i:Nat) (m:Mx) (f:Nat),i+j=n->j < f->QK n L m->
  (∀m',Qy p j i m=some m'->Ap (Ee (p:Int)) f (m,(i:Int))=some (.inl m'))∧(Qy p j i m=none->∃g,Ap (Ee (p:Int)) f (m,(i:Int))=some (.inr (false,g)))
 |0,i,m,f,hj,hf,h=>by
  obtain⟨f,rfl⟩:∃g,f=g+1:=⟨f - 1,by omega⟩
  obtain rfl:i=n:=by omega
  refine⟨λm' hm=>?_,λhm=>by cases hm⟩
  cases hm
  rw[By]
  show cond (decide ((i:Int) < (m.length:Int))) _ _=_
  rw[h.1,Ba];rfl
 |j+1,i,m,f,hj,hf,h=>by
  obtain⟨f,rfl⟩:∃g,f=g+1:=⟨f - 1,by omega⟩
  have hi:i < n:=by omega
  have hiL:=h.2 i hi
  have hJ:∀x:Mx,Fy (Ap (Ee (p:Int)) f) (i:Int) x=Ap (Ee (p:Int)) f (x,((i+1:Nat):Int)):=λx=>by
   unfold Fy;rw[BC hi (Be hn)]
  have hq:Ee (p:Int) (Ap (Ee (p:Int)) f) (m,(i:Int))=cond (((i:Int))==(p:Int)) (Fy (Ap (Ee (p:Int)) f) (i:Int) m) (cond ((atR (EO m i) p).1==0) (Fy (Ap (Ee (p:Int)) f) (i:Int) m) (Aa (Ap (EN (p:Int) (i:Int) (Qo (atR (EO m i) p) (atR (EO m p) p))) fz (m,(Qo (atR (EO m i) p) (atR (EO m p) p)).2,(p:Int))) λo3=>(match o3 with
    |(z25,z26)=>(cond (!z26) (some (.inr (false,z25))) (Fy (Ap (Ee (p:Int)) f) (i:Int) z25))))):=by
   show cond (decide ((i:Int) < (m.length:Int))) _ _=_
   rw[h.1,Bu hi,Ac,Hn (by rw[h.1];exact hi),Hn (by rw[h.1];exact hp)]
   simp only[Aa]
   rw[Em (by rw[hiL];exact hpl),Em (by rw[h.2 p hp];exact hpl)]
   simp only[Aa]
   rw[kQ]
  rw[By,Qy]
  unfold Zi
  have hc:((i:Int)==(p:Int))=(i==p):=by
   rw[AL,Bi,Bi];omega
  cases h1:i==p with
  |true=>
   rw[Ac]
   rw[hq,hc,h1,Ac,hJ]
   exact aA hp hpl hn hL j (i+1) m f (by omega) (by omega) h
  |false=>
   rw[Ad]
   rw[hq,hc,h1,Ad]
   cases h2:(atR (EO m i) p).1==0 with
   |true=>
    rw[Ac,Ac,hJ]
    exact aA hp hpl hn hL j (i+1) m f (by omega) (by omega) h
   |false=>
    rw[Ad,Ad]
    unfold Wn
    cases hd:(Qo (atR (EO m i) p) (atR (EO m p) p)).2 with
    |false=>
     rw[Ad,show fz=fz - 1+1 from by unfold fz;rfl,kU (by rw[h.1];exact hi)]
     exact⟨λm' hm=>(by cases hm),λ_=>⟨_,rfl⟩⟩
    |true=>
     rw[Ac]
     have hr:=kT (p:=p) (i:=i) (d:=Qo (atR (EO m i) p) (atR (EO m p) p)) (piv:=EO m p) (L - p) p m fz (by rw[hiL];omega) (by have:=CQ hL;omega) (by rw[hiL];exact hL) (by rw[h.1];exact hi) (by rw[h.1];exact hp) (by simpa using h1) rfl (by rw[h.2 p hp,hiL])
     cases he:elF (Qo (atR (EO m i) p) (atR (EO m p) p)).1 ((EO m i).drop p) ((EO m p).drop p)with
     |none=>
      obtain⟨g,hg⟩:=hr.2 he
      rw[hg]
      exact⟨λm' hm=>(by cases hm),λ_=>⟨g,rfl⟩⟩
     |some t=>
      rw[hr.1 t he]
      have ho:QK n L (m.set i ((EO m i).take p++t)):=h.set hi (by
       rw[Ar,Bb,ZQ he (by rw[BX,BX,hiL,h.2 p hp]),BX,hiL];omega)
      have ih:=aA hp hpl hn hL j (i+1) _ f (by omega) (by omega) ho
      simp only[Aa,Al,Ad,Br,hJ]
      exact ih
theorem YM{m:Mx}{k:Nat}(h:k < m.length):AZ (IC 0 m) (k:Int)=some (k,EO m k):=by
 rw[UO,VI,Af h,Jv h,Br,Dv]
theorem XQ{α:Type}{m m':List α}(h:m'.length=m.length):YX m'.length (IG m) []=true∧HC m' (IG m)=m':=by
 have e:IG m=IG m':=by rw[N4,N4,h]
 rw[e]
 exact⟨m5 m',kt m'⟩
theorem Z1{b:List Rt}{L p:Nat}(hp:p < b.length)(hpl:p < L)(hn:b.length<=lim)(hL:L<=lim):∀(j i:Nat) (m:Mx) (f:Nat),i+j=b.length->j < f->QK b.length L m->
  Ap (LG b (p:Int)) f (m,(i:Int))=some (match Qy p j i m with|some m'=>.inl m'|none=>.inr ([],false))
 |0,i,m,f,hj,hf,h=>by
  obtain⟨f,rfl⟩:∃g,f=g+1:=⟨f - 1,by omega⟩
  obtain rfl:i=b.length:=by omega
  rw[By]
  show cond (decide ((b.length:Int) < (b.length:Int))) _ _=_
  rw[Ba];rfl
 |j+1,i,m,f,hj,hf,h=>by
  obtain⟨f,rfl⟩:∃g,f=g+1:=⟨f - 1,by omega⟩
  have hi:i < b.length:=by omega
  have him:i < m.length:=by rw[h.1];exact hi
  have hpm:p < m.length:=by rw[h.1];exact hp
  have hiL:=h.2 i hi
  obtain⟨hk1,hk2⟩:=XQ (m:=m) (m':=m) rfl
  rw[By,Qy]
  show cond (decide ((i:Int) < (b.length:Int))) _ _=_
  rw[Bu hi,Ac,BC hi (Be hn)]
  have hc:((i:Int)!=(p:Int))= !(i==p):=by
   rw[AL,Ct,AC,A3];omega
  rw[hc]
  unfold Zi
  cases h1:i==p with
  |true=>
   rw[Al,Ad,AH hk1,hk2,Ac]
   exact Z1 hp hpl hn hL j (i+1) m f (by omega) (by omega) h
  |false=>
   rw[CD,Ac,Ad,YM him,YM hpm]
   simp only[Aa]
   rw[Em (by rw[hiL];exact hpl)]
   simp only[Aa]
   rw[show((atR (EO m i) p).1 !=0)= !((atR (EO m i) p).1==0)from rfl]
   cases h2:(atR (EO m i) p).1==0 with
   |true=>
    rw[Al,Ad,AH hk1,hk2,Ac]
    exact Z1 hp hpl hn hL j (i+1) m f (by omega) (by omega) h
   |false=>
    have hne:i≠p:=by simpa using h1
    rw[CD,Ac,Ad,AH (by
     cases hb:Nat.beq i p with
     |false=>rfl
     |true=>exact absurd (CN hb) hne)]
    have hr:=qm (p:=p) (row:=EO m i) (piv:=EO m p) (by rw[hiL];exact hL) (by rw[h.2 p hp,hiL]) (by rw[hiL];exact hpl)
    cases he:Wn p (EO m i) (EO m p)with
    |none=>
     obtain⟨g,hg⟩:=hr.2 he
     rw[hg]
     simp only[Aa]
     rw[AH (XQ (by unfold Da;simp)).1]
     rfl
    |some t=>
     rw[hr.1 t he]
     simp only[Aa]
     have e:Da (Da m (i:Int) t) (p:Int) (EO m p)=m.set i t:=by
      simp only[Da,Bk]
      rw[List.set_comm _ _ hne,<-Jv hpm,List.set_getElem_self]
     rw[e]
     obtain⟨q1,q2⟩:=XQ (m:=m) (m':=m.set i t) (by simp)
     rw[AH q1,q2,Al,Ad,Br]
     exact Z1 hp hpl hn hL j (i+1) _ f (by omega) (by omega) (h.set hi (by rw[YH he (by rw[hiL,h.2 p hp]) (by rw[hiL];omega),hiL]))
theorem au(m:Mx)(p:Nat):∀(j k:Nat),k<=O9 m p j k∧O9 m p j k<=k+j
 |0,k=>⟨Bl _,Bl _⟩
 |j+1,k=>by
  rw[O9]
  cases(atR (EO m k) p).1==0 with
  |true=>rw[Ac];have:=au m p j (k+1);omega
  |false=>rw[Ad];omega
theorem o7{b:List Rt}{L p:Nat}{m:Mx}(h:QK b.length L m)(hpl:p < L)(hn:b.length<=lim):∀(j k f:Nat),k+j=b.length->j < f->Ap (LK b m (p:Int)) f (k:Int)=some ((O9 m p j k:Nat):Int)
 |0,k,f,hk,hf=>by
  obtain⟨f,rfl⟩:∃g,f=g+1:=⟨f - 1,by omega⟩
  obtain rfl:k=b.length:=by omega
  rw[By]
  show cond (decide ((b.length:Int) < (b.length:Int))) _ _=_
  rw[Ba];rfl
 |j+1,k,f,hk,hf=>by
  obtain⟨f,rfl⟩:∃g,f=g+1:=⟨f - 1,by omega⟩
  have hk1:k < b.length:=by omega
  rw[By,O9]
  show cond (decide ((k:Int) < (b.length:Int))) _ _=_
  rw[Bu hk1,Ac,Hn (by rw[h.1];exact hk1)]
  simp only[Aa]
  rw[Em (by rw[h.2 k hk1];exact hpl)]
  simp only[Aa]
  cases(atR (EO m k) p).1==0 with
  |true=>rw[Ac,Ac,BC hk1 (Be hn)];exact o7 h hpl hn j (k+1) f (by omega) (by omega)
  |false=>rfl
theorem oD{b:List Rt}{L p:Nat}{m:Mx}(h:QK b.length L m)(hpl:p < L)(hn:b.length<=lim):∀(j k f:Nat),k+j=b.length->j < f->Ap (LF b m (p:Int)) f (k:Int)=some ((O9 m p j k:Nat):Int)
 |0,k,f,hk,hf=>by
  obtain⟨f,rfl⟩:∃g,f=g+1:=⟨f - 1,by omega⟩
  obtain rfl:k=b.length:=by omega
  rw[By]
  show cond (decide ((b.length:Int) < (b.length:Int))) _ _=_
  rw[Ba];rfl
 |j+1,k,f,hk,hf=>by
  obtain⟨f,rfl⟩:∃g,f=g+1:=⟨f - 1,by omega⟩
  have hk1:k < b.length:=by omega
  rw[By,O9]
  show cond (decide ((k:Int) < (b.length:Int))) _ _=_
  rw[Bu hk1,Ac,Hn (by rw[h.1];exact hk1)]
  simp only[Aa]
  rw[Em (by rw[h.2 k hk1];exact hpl)]
  simp only[Aa]
  cases(atR (EO m k) p).1==0 with
  |true=>rw[Ac,Ac,BC hk1 (Be hn)];exact oD h hpl hn j (k+1) f (by omega) (by omega)
  |false=>rfl
theorem dz{n L p k:Nat}{m:Mx}(h:QK n L m)(hp:p < n)(hk:k < n):QK n L (swL m p k):=by
 unfold swL
 have e:∀i,m.getD i default=EO m i:=λ_=>rfl
 rw[e,e]
 exact(h.set hk (h.2 p hp)).set hp (h.2 k hk)
theorem UP{m:Mx}{k:Nat}(h:k < m.length):AZ (IG m) (k:Int)=some k:=by
 rw[N4,UO,CE h]
theorem VR{n:Nat}:∀{j p:Nat}{m m':Mx},p+j=n->QK n (n+1) m->OK n j p m=some m'->QK n (n+1) m'
 |0,_,_,_,_,h,hg=>by cases hg;exact h
 |j+1,p,m,m',hj,h,hg=>by
  rw[OK]at hg
  have hb:=au m p (n - p) p
  cases hk:O9 m p (n - p) p==n with
  |true=>rw[hk]at hg;cases hg
  |false=>
   rw[hk,Ad]at hg
   have hk':O9 m p (n - p) p≠n:=by simpa using hk
   cases hr:Qy p n 0 (swL m p (O9 m p (n - p) p))with
   |none=>rw[hr]at hg;cases hg
   |some m1=>
    rw[hr]at hg
    exact VR (by omega) (Vc (by omega) (by omega) (by omega) (dz h (by omega) (by omega)) hr) hg
theorem fp{b:List Rt}(hn:b.length<=6):∀(j p:Nat) (m:Mx) (f:Nat),p+j=b.length->j < f->QK b.length (b.length+1) m->
  Ap (LJ b) f (m,(p:Int))=some (match OK b.length j p m with|some m'=>.inl m'|none=>.inr ([],false))
 |0,p,m,f,hj,hf,h=>by
  obtain⟨f,rfl⟩:∃g,f=g+1:=⟨f - 1,by omega⟩
  obtain rfl:p=b.length:=by omega
  rw[By]
  show cond (decide ((b.length:Int) < (b.length:Int))) _ _=_
  rw[Ba];rfl
 |j+1,p,m,f,hj,hf,h=>by
  obtain⟨f,rfl⟩:∃g,f=g+1:=⟨f - 1,by omega⟩
  have hp:p < b.length:=by omega
  have hl:b.length<=lim:=by unfold lim;omega
  have hb:=au m p (b.length - p) p
  rw[By,OK]
  show cond (decide ((p:Int) < (b.length:Int))) _ _=_
  rw[Bu hp,Ac,o7 h (by omega) hl (b.length - p) p fz (by omega) (by have:=CQ hl;omega)]
  simp only[Aa]
  rw[show(((O9 m p (b.length - p) p:Nat):Int)==(b.length:Int))=(O9 m p (b.length - p) p==b.length)from by rw[AL,Bi,Bi];omega]
  cases hk:O9 m p (b.length - p) p==b.length with
  |true=>rfl
  |false=>
   have hk':O9 m p (b.length - p) p≠b.length:=by simpa using hk
   have hkb:O9 m p (b.length - p) p < m.length:=by rw[h.1];omega
   have hpm:p < m.length:=by rw[h.1];exact hp
   rw[Ad,Ad,UP hkb,UP hpm]
   simp only[Aa]
   rw[AH (by rw[N4,BZ];omega),AH (by rw[N4];simp[Da];omega)]
   have e0:Da (IG m) ((O9 m p (b.length - p) p:Nat):Int) p=(List.range m.length).set (O9 m p (b.length - p) p) p:=by rw[N4];simp only[Da,Bk]
   have e1:Da (Da (IG m) ((O9 m p (b.length - p) p:Nat):Int) p) (p:Int) (O9 m p (b.length - p) p)=(List.range m.length).map (sw p (O9 m p (b.length - p) p)):=by
    rw[e0,<-nP hpm hkb];simp only[Da,Bk]
   rw[e1,e0]
   have e2:AZ ((List.range m.length).set (O9 m p (b.length - p) p) p) (p:Int)=some (((List.range m.length).set (O9 m p (b.length - p) p) p)[p]'(by simp;exact hpm)):=Bm _
   rw[e2]
   simp only[Aa]
   rw[AH (pf hpm hkb),ln hpm hkb,AH (by rw[nO];omega)]
   have ho:=dz h hp (show O9 m p (b.length - p) p < b.length by omega)
   have hs:=aA (L:=b.length+1) hp (by omega) hl (by unfold lim;omega) b.length 0 (swL m p (O9 m p (b.length - p) p)) fz (by omega) (CQ hl) ho
   have hss:(∀m',Qy p b.length 0 (swL m p (O9 m p (b.length - p) p))=some m'->Nx (swL m p (O9 m p (b.length - p) p)) (p:Int)=some (true,m'))∧(Qy p b.length 0 (swL m p (O9 m p (b.length - p) p))=none->∃g,Nx (swL m p (O9 m p (b.length - p) p)) (p:Int)=some (false,g)):=by
    unfold Nx
    refine⟨λm' hm=>?_,λhm=>?_⟩
    ·have:=hs.1 m' hm
     rw[show((0:Nat):Int)=0 from rfl]at this
     rw[this];rfl
    ·obtain⟨g,hg⟩:=hs.2 hm
     rw[show((0:Nat):Int)=0 from rfl]at hg
     exact⟨g,by rw[hg];rfl⟩
   cases hr:Qy p b.length 0 (swL m p (O9 m p (b.length - p) p))with
   |none=>
    obtain⟨g,hg⟩:=hss.2 hr
    rw[hg];rfl
   |some m1=>
    rw[hss.1 m1 hr]
    simp only[Aa,Al,Ad]
    rw[BC hp (Be hl)]
    exact fp hn j (p+1) m1 f (by omega) (by omega) (Vc hp (by omega) (by omega) ho hr)
theorem eG{b:List Rt}(hn:b.length<=6):∀(j p:Nat) (m:Mx) (f:Nat),p+j=b.length->j < f->QK b.length (b.length+1) m->
  Ap (LE b) f (m,(p:Int))=some (match OK b.length j p m with|some m'=>.inl m'|none=>.inr ([],false))
 |0,p,m,f,hj,hf,h=>by
  obtain⟨f,rfl⟩:∃g,f=g+1:=⟨f - 1,by omega⟩
  obtain rfl:p=b.length:=by omega
  rw[By]
  show cond (decide ((b.length:Int) < (b.length:Int))) _ _=_
  rw[Ba];rfl
 |j+1,p,m,f,hj,hf,h=>by
  obtain⟨f,rfl⟩:∃g,f=g+1:=⟨f - 1,by omega⟩
  have hp:p < b.length:=by omega
  have hl:b.length<=lim:=by unfold lim;omega
  have hb:=au m p (b.length - p) p
  rw[By,OK]
  show cond (decide ((p:Int) < (b.length:Int))) _ _=_
  rw[Bu hp,Ac,oD h (by omega) hl (b.length - p) p fz (by omega) (by have:=CQ hl;omega)]
  simp only[Aa]
  rw[show(((O9 m p (b.length - p) p:Nat):Int)==(b.length:Int))=(O9 m p (b.length - p) p==b.length)from by rw[AL,Bi,Bi];omega]
  cases hk:O9 m p (b.length - p) p==b.length with
  |true=>rfl
  |false=>
   have hk':O9 m p (b.length - p) p≠b.length:=by simpa using hk
   have hkb:O9 m p (b.length - p) p < m.length:=by rw[h.1];omega
   have hpm:p < m.length:=by rw[h.1];exact hp
   rw[Ad,Ad,AH (by rw[N4,BZ];omega),UP hkb,UP hpm]
   simp only[Aa]
   have e0:Da (IG m) (p:Int) (O9 m p (b.length - p) p)=(List.range m.length).set p (O9 m p (b.length - p) p):=by rw[N4];simp only[Da,Bk]
   have e1:Da (Da (IG m) (p:Int) (O9 m p (b.length - p) p)) ((O9 m p (b.length - p) p:Nat):Int) p=(List.range m.length).map (sw p (O9 m p (b.length - p) p)):=by
    rw[e0,<-lp hpm hkb];simp only[Da,Bk]
   rw[e1,e0]
   have e2:AZ ((List.range m.length).set p (O9 m p (b.length - p) p)) ((O9 m p (b.length - p) p:Nat):Int)=some (((List.range m.length).set p (O9 m p (b.length - p) p))[O9 m p (b.length - p) p]'(by simp;exact hkb)):=Bm _
   rw[e2]
   simp only[Aa]
   rw[AH (pf hpm hkb),ln hpm hkb]
   have ho:=dz h hp (show O9 m p (b.length - p) p < b.length by omega)
   have hs:=Z1 (b:=b) (L:=b.length+1) hp (by omega) hl (by unfold lim;omega) b.length 0 (swL m p (O9 m p (b.length - p) p)) fz (by omega) (CQ hl) ho
   rw[show((0:Nat):Int)=0 from rfl]at hs
   rw[hs]
   cases hr:Qy p b.length 0 (swL m p (O9 m p (b.length - p) p))with
   |none=>rfl
   |some m1=>
    simp only[Aa]
    rw[BC hp (Be hl)]
    exact eG hn j (p+1) m1 f (by omega) (by omega) (Vc hp (by omega) (by omega) ho hr)
end Go.Proofs.YtplejokflpkcbaaGreatDoor
