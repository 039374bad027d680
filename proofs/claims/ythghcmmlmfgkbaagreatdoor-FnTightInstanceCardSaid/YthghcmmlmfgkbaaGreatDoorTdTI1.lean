/-
 Sorted rows, each once: the reference and the program agree. On the printed functions; conditions: lengths.
-/
import Derived.Test.YthghcmmlmfgkbaaGreatDoorRtTI1
import Derived.Test.YthghcmmlmfgkbaaGreatDoorCpTI1
import Derived.Test.YthghcmmlmfgkbaaGreatDoorKc
open Go.RowKit
set_option linter.unusedVariables false
set_option linter.unusedSimpArgs false
namespace Go.Proofs.YthghcmmlmfgkbaaGreatDoor
section
abbrev Row:=zI
theorem T8:∀a:Row,GZ a a=0
 |[]=>rfl
 |x::a=>by rw[GZ,At (by omega),At (by omega)];exact T8 a
theorem T9:∀{a b:Row},GZ a b=0->a=b
 |[],[],_=>rfl
 |[],_::_,h=>by simp[GZ]at h
 |_::_,[],h=>by simp[GZ]at h
 |x::a,y::b,h=>by
  rw[GZ]at h
  split at h
  ·simp at h
  ·split at h
   ·simp at h
   ·have:x=y:=by omega
    rw[this,T9 h]
theorem cmp_neg:∀a b:Row,GZ b a= - GZ a b
 |[],[]=>rfl
 |[],_::_=>rfl
 |_::_,[]=>rfl
 |x::a,y::b=>by
  rw[GZ,GZ]
  by_cases h1:x < y
  ·rw[At (by omega),Av h1,Av h1];rfl
  ·rw[At h1]
   by_cases h2:y < x
   ·rw[Av h2,Av h2,At h1]
   ·rw[At h2,At h2,At h1];exact cmp_neg a b
theorem Ql:∀{a b c:Row},GZ a b < 0->GZ b c < 0->GZ a c < 0
 |[],[],_,h,_=>by simp[GZ]at h
 |[],_::_,[],_,h=>by simp[GZ]at h
 |[],_::_,_::_,_,_=>by simp[GZ]
 |_::_,[],_,h,_=>by simp[GZ]at h
 |_::_,_::_,[],_,h=>by simp[GZ]at h
 |x::a,y::b,z::c,h1,h2=>by
  rw[GZ]at h1 h2⊢
  by_cases e1:x < y
  ·by_cases e2:y < z
   ·rw[Av (by omega)];simp
   ·rw[At e2]at h2
    by_cases e3:z < y
    ·rw[Av e3]at h2;simp at h2
    ·rw[Av (by omega)];simp
  ·rw[At e1]at h1
   by_cases e3:y < x
   ·rw[Av e3]at h1;simp at h1
   ·rw[At e3]at h1
    by_cases e2:y < z
    ·rw[Av (by omega)];simp
    ·rw[At e2]at h2
     by_cases e4:z < y
     ·rw[Av e4]at h2;simp at h2
     ·rw[At e4]at h2
      rw[At (by omega),At (by omega)]
      exact Ql h1 h2
def Srt(l:List Row):Prop:=l.Pairwise λa b=>GZ a b < 0
theorem nz:∀{a b:List Row},Srt a->Srt b->(∀x,x∈a↔x∈b)->a=b
 |[],[],_,_,_=>rfl
 |[],y::b,_,_,h=>by have:=(h y).2 (by simp);simp at this
 |x::a,[],_,_,h=>by have:=(h x).1 (by simp);simp at this
 |x::a,y::b,ha,hb,h=>by
  obtain⟨a1,a2⟩:=CK.1 ha
  obtain⟨b1,b2⟩:=CK.1 hb
  have hxy:x=y:=by
   rcases AB.1 ((h x).1 (by simp))with e|hx
   ·exact e
   ·rcases AB.1 ((h y).2 (by simp))with e|hy
    ·exact e.symm
    ·have h1:=b1 x hx
     have h2:=a1 y hy
     have:=cmp_neg x y
     omega
  subst hxy
  have hne:∀z∈a,z≠x:=λz hz e=>by subst e;have:=a1 z hz;rw[T8]at this;omega
  have hne':∀z∈b,z≠x:=λz hz e=>by subst e;have:=b1 z hz;rw[T8]at this;omega
  rw[nz a2 b2 (λz=>⟨λhz=>(AB.1 ((h z).1 (by simp[hz]))).resolve_left (hne z hz),λhz=>(AB.1 ((h z).2 (by simp[hz]))).resolve_left (hne' z hz)⟩)]
def VZ(x:Row):List Row->List Row
 |[]=>[x]
 |y::l=>if GZ x y < 0 then x::y::l else if GZ x y=0 then y::l else y::VZ x l
def sortB(l:List Row):List Row:=l.foldr VZ []
theorem ZN(x:Row):∀(l:List Row) (z:Row),z∈VZ x l↔z=x∨z∈l
 |[],z=>by simp[VZ]
 |y::l,z=>by
  rw[VZ]
  split
  ·simp
  ·split
   ·rename_i _ h;rw[T9 h];simp
   ·rw[AB,ZN x l z,AB]
    constructor
    ·rintro(h|h|h)<;>simp[h]
    ·rintro(h|h|h)<;>simp[h]
theorem ge(x:Row):∀(l:List Row),Srt l->Srt (VZ x l)
 |[],_=>FL _ _
 |y::l,h=>by
  obtain⟨h1,h2⟩:=CK.1 h
  rw[VZ]
  split
  ·rename_i hc
   refine CK.2 ⟨λz hz=>?_,h⟩
   rcases AB.1 hz with rfl|hz
   ·exact hc
   ·exact Ql hc (h1 z hz)
  ·split
   ·exact h
   ·rename_i q1 q2
    refine CK.2 ⟨λz hz=>?_,ge x l h2⟩
    rcases(ZN x l z).1 hz with rfl|hz
    ·have:=cmp_neg z y;omega
    ·exact h1 z hz
theorem Oh:∀l:List Row,Srt (sortB l)
 |[]=>List.Pairwise.nil
 |x::l=>ge x _ (Oh l)
theorem Mh:∀(l:List Row) (z:Row),z∈sortB l↔z∈l
 |[],z=>Dx
 |x::l,z=>by rw[show sortB (x::l)=VZ x (sortB l)from rfl,ZN,Mh l z,AB]
theorem iv{l r:List Row}(h1:Srt r)(h2:∀z,z∈r↔z∈l):r=sortB l:=nz h1 (Oh l) (λz=>by rw[h2,Mh])
theorem gd(x:Row):∀l:List Row,(VZ x l).length<=l.length+1
 |[]=>by simp[VZ]
 |y::l=>by
  rw[VZ]
  split
  ·simp
  ·split
   ·simp
   ·have:=gd x l;simp;omega
theorem QF:∀l:List Row,(sortB l).length<=l.length
 |[]=>by simp[sortB]
 |x::l=>by
  have h1:=QF l
  have h2:=gd x (sortB l)
  rw[show sortB (x::l)=VZ x (sortB l)from rfl,AQ];omega
theorem OS{S O:Type}{B:(S->Option O)->S->Option O}(I:S->Prop)(μ:S->Nat)(R:O->Prop)(h:∀s,I s->(∃o,R o∧∀rec,B rec s=some o)∨∃s',I s'∧μ s' < μ s∧∀rec,B rec s=rec s'):∀(m:Nat) (s:S),I s->μ s < m->∃o,Au B m s=some o∧R o
 |0,_,_,hm=>by omega
 |m+1,s,hs,hm=>by
  rw[By]
  rcases h s hs with⟨o,ho,he⟩|⟨s',h1,h2,he⟩
  ·exact⟨o,he _,ho⟩
  ·rw[he];exact OS I μ R h m s' h1 (by omega)
theorem SR{α:Type}(x:α)(l:List α):Ef (x::l) 1 ((x::l).length:Int)=l:=by
 unfold Ef
 rw[AL,BT];rfl
theorem T7{α β:Type}(x:α)(l:List α)(y:Option β):chk ((0:Int)<=1∧1<=(List.length (x::l):Int)∧(List.length (x::l):Int)<=(List.length (x::l):Int)) y=y:=AX (by simp only[AQ];omega)
theorem ZF{α:Type}(x:α)(l:List α):AZ (x::l) 0=some x:=rfl
theorem Uz{α:Type}(x:α)(l:List α):decide (0 < ((x::l).length:Int))=true:=Ai (by simp only[AQ];omega)
theorem Vp{α:Type}(x:α)(l:List α):(((x::l).length:Int)==0)=false:=by simp only[AQ,Cn];omega
section
variable {A0 B0:List Row}
theorem nB{l:List Row}{x:Row}(h:Srt l)(hx:∀y∈l,GZ y x < 0):Srt (l++[x]):=by
 unfold Srt
 rw[G7]
 exact⟨h,FL _ _,λa ha b hb=>by rw[AP]at hb;subst hb;exact hx a ha⟩
end
theorem o9{n:Nat}(hn:n<=lim):wZ (Int.tdiv (n:Int) 2)=((n / 2:Nat):Int):=by
 rw[show Int.tdiv (n:Int) 2=((n / 2:Nat):Int)by rw[Int.tdiv_eq_ediv_of_nonneg (by omega)];omega]
 exact wrap_in (by unfold lim at hn;omega)
structure SInv (l0:List Row) (a b out:List Row):Prop where
 so:Srt out
 sa:Srt a
 sb:Srt b
 le:∀x∈out,∀y∈a++b,GZ x y<=0
 mem:∀z,z∈out++(a++b)↔z∈l0
 len:∀p∈out++(a++b),p.length<=lim
 few:out.length+a.length+b.length<=lim
def UC(out:List Row)(x:Row):List Row:=match out.getLast? with
 |none=>[x]
 |some y=>if GZ y x=0 then out else out++[x]
theorem push_inv{l0 a b a' b' out:List Row}{x:Row}(h:SInv l0 a b out)(ha:Srt a')(hb:Srt b')(hlt:∀y∈a'++b',GZ x y<=0)(hx:x∈a++b)(hm:∀z,z∈x::(a'++b')↔z∈a++b)(hf:1+a'.length+b'.length<=a.length+b.length):SInv l0 a' b' (UC out x)∧(UC out x).length<=out.length+1:=by
 have hxl:=h.len x (by simp only[Al]at hx⊢;exact .inr hx)
 have key:∀out',Srt out'->(∀z,z∈out'↔z∈out∨z=x)->out'.length<=out.length+1->SInv l0 a' b' out'∧out'.length<=out.length+1:=λout' s m l=>by
  have hsub:∀y,y∈a'++b'->y∈a++b:=λy hy=>(hm y).1 (by simp only[AB];exact .inr hy)
  refine⟨⟨s,ha,hb,λy hy z hz=>?_,λz=>?_,λp hp=>?_,by have:=h.few;omega⟩,l⟩
  ·rcases(m y).1 hy with hy|rfl
   ·exact h.le y hy z (hsub z hz)
   ·exact hlt z hz
  ·rw[<-h.mem z,(Al:z∈out'++(a'++b')↔_),(Al:z∈out++(a++b)↔_),m z,<-hm z,AB]
   constructor
   ·rintro((h|h)|h)
    ·exact .inl h
    ·exact .inr (.inl h)
    ·exact .inr (.inr h)
   ·rintro(h|h|h)
    ·exact .inl (.inl h)
    ·exact .inl (.inr h)
    ·exact .inr h
  ·rcases Al.1 hp with hp|hp
   ·rcases(m p).1 hp with hp|rfl
    ·exact h.len p (by simp[hp])
    ·exact hxl
   ·exact h.len p (Ar _ (hsub p hp))
 unfold UC
 cases hl:out.getLast? with
 |none=>
  have:out=[]:=by simpa using hl
  subst this
  exact key [x] (FL _ _) (λz=>by simp) (by simp)
 |some y=>
  simp only
  have hy:y∈out:=List.mem_of_getLast? hl
  have hyx:=h.le y hy x hx
  split
  ·rename_i hc
   have hxy:=T9 hc
   refine key out h.so (λz=>⟨.inl,λhz=>hz.elim id (λe=>by rw[e,<-hxy];exact hy)⟩) (by omega)
  ·rename_i hc
   refine key (out++[x]) (nB h.so (λz hz=>?_)) (λz=>by simp) (by simp)
   have hzy:z=y∨GZ z y < 0:=by
    obtain⟨ys,e⟩:=List.getLast?_eq_some_iff.1 hl
    rw[e]at hz
    rcases Al.1 hz with hz|hz
    ·right
     have:=h.so
     rw[e]at this
     exact(G7.1 this).2.2 z hz y (by simp)
    ·left;simpa using hz
   rcases hzy with rfl|hzy
   ·omega
   ·exact Ql hzy (by omega)
theorem Z9{rec:(List Row×List Row×List Row)->Option (List Row)}{out a b:List Row}{x:Row}(hl:∀r∈out,r.length<=lim)(hf:out.length+1<=lim):Lm rec out a b x=rec (a,b,UC out x):=by
 unfold Lm UC
 cases hg:out.getLast? with
 |none=>
  have:out=[]:=by simpa using hg
  subst this
  simp only[Cg,show(((0:Nat):Int)==0)=true from rfl,Ad,Ln]
  rw[AX (by simp;unfold lim;omega)];rfl
 |some y=>
  obtain⟨ys,e⟩:=List.getLast?_eq_some_iff.1 hg
  have hpos:0 < out.length:=by rw[e];simp
  have h0:((out.length:Int)==0)=false:=by rw[Cn];omega
  have hgi:AZ out (wZ ((out.length:Int) - 1))=some y:=by
   rw[wrap_in (by unfold lim at hf;omega),show(out.length:Int) - 1=((out.length - 1:Nat):Int)by omega,Qp,e]
   simp
  rw[h0,Ae,hgi]
  simp only[Ab,cK (hl y (List.mem_of_getLast? hg)),Ln]
  by_cases hc:GZ y x=0
  ·rw[Av hc,show(GZ y x !=0)=false by rw[hc];rfl,Ae]
  ·rw[At hc,show(GZ y x !=0)=true by simpa using hc,Ad,AX (by simpa using hf)]
theorem qK{l0 a b:List Row}(h0:SInv l0 a b []):∃o,Au ED fz (a,b,([]:List Row))=some o∧SInv l0 [] [] o:=by
 refine OS (B:=ED) (λs=>SInv l0 s.1 s.2.1 s.2.2) (λs=>s.1.length+s.2.1.length) (λo=>SInv l0 [] [] o) ?_ fz (a,b,[]) h0 (by have:=h0.few;simp at this⊢;unfold lim at this;unfold fz;omega)
 rintro⟨a,b,out⟩ h
 change SInv l0 a b out at h
 have hf:=h.few
 have hlo:∀r∈out,r.length<=lim:=λr hr=>h.len r (by simp[hr])
 cases a with
 |nil=>
  cases b with
  |nil=>exact .inl ⟨out,h,λrec=>rfl⟩
  |cons y b=>
   obtain⟨s1,s2⟩:=CK.1 h.sb
   obtain⟨q1,q2⟩:=push_inv (x:=y) (a':=[]) (b':=b) h List.Pairwise.nil s2 (λz hz=>by have:=s1 z (by simpa using hz);omega) (by simp) (λz=>by simp) (by simp;omega)
   refine .inr ⟨([],b,UC out y),q1,by simp,λrec=>?_⟩
   simp only[ED,HC,Cg,Uz,Int.natCast_zero]
   rw[show decide ((0:Int) < 0)=false from rfl]
   simp only[Ae,Ad,show((0:Int)==0)=true from rfl,Gr,ZF,Ab]
   rw[show decide ((0:Int) < 1)=true from rfl]
   simp only[Ad,T7,SR]
   exact Z9 hlo (by simp at hf;omega)
 |cons x a=>
  obtain⟨r1,r2⟩:=CK.1 h.sa
  cases b with
  |nil=>
   obtain⟨q1,q2⟩:=push_inv (x:=x) (a':=a) (b':=[]) h r2 List.Pairwise.nil (λz hz=>by have:=r1 z (by simpa using hz);omega) (by simp) (λz=>by simp) (by simp;omega)
   refine .inr ⟨(a,[],UC out x),q1,by simp,λrec=>?_⟩
   simp only[ED,HC,Uz,Ad,Vp,Ae,Cg]
   rw[show decide ((0:Int) < ((0:Nat):Int))=false from rfl]
   simp only[Ae,Gr,ZF,Ab]
   rw[show decide ((0:Int) < -1)=false from rfl]
   simp only[Ae,T7,SR]
   exact Z9 hlo (by simp at hf;omega)
  |cons y b=>
   obtain⟨s1,s2⟩:=CK.1 h.sb
   have hlx:=h.len x (by simp)
   by_cases hc:0 < GZ x y
   ·have hyx:GZ y x < 0:=by have:=cmp_neg x y;omega
    obtain⟨q1,q2⟩:=push_inv (x:=y) (a':=x::a) (b':=b) h h.sa s2 (λz hz=>by
     rcases Al.1 hz with hz|hz
     ·rcases AB.1 hz with rfl|hz
      ·omega
      ·have:=Ql hyx (r1 z hz);omega
     ·have:=s1 z hz;omega) (by simp) (λz=>by simp only[AB,Al];constructor<;>(intro hh;rcases hh with hh|(hh|hh)|hh<;>simp_all)) (by simp;omega)
    refine .inr ⟨(x::a,b,UC out y),q1,by simp,λrec=>?_⟩
    simp only[ED,HC,Uz,Ad,Vp,Ae,ZF,Ab,cK hlx,Gr]
    rw[Ai hc]
    simp only[Ad,T7,SR]
    exact Z9 hlo (by simp at hf;omega)
   ·have hxy:GZ x y<=0:=by omega
    obtain⟨q1,q2⟩:=push_inv (x:=x) (a':=a) (b':=y::b) h r2 h.sb (λz hz=>by
     rcases Al.1 hz with hz|hz
     ·have:=r1 z hz;omega
     ·rcases AB.1 hz with rfl|hz
      ·exact hxy
      ·have h3:=s1 z hz
       by_cases h4:GZ x y=0
       ·rw[T9 h4];omega
       ·have:=Ql (by omega:GZ x y < 0) h3;omega) (by simp) (λz=>by simp) (by simp;omega)
    refine .inr ⟨(a,y::b,UC out x),q1,by simp,λrec=>?_⟩
    simp only[ED,HC,Uz,Ad,Vp,Ae,ZF,Ab,cK hlx,Gr]
    rw[Ag hc]
    simp only[Ae,T7,SR]
    exact Z9 hlo (by simp at hf;omega)
theorem Xv:∀(m:Nat) (l:List Row),l.length < m->l.length<=lim->(∀r∈l,r.length<=lim)->Au IB m l=some (sortB l)
 |0,_,h,_,_=>by omega
 |m+1,l,hm,hl,hr=>by
  rw[By,IB]
  by_cases h2:(l.length:Int) < 2
  ·rw[Ai h2,Ad]
   have:Srt l:=by
    match l,h2 with
    |[],_=>exact List.Pairwise.nil
    |[x],_=>exact FL _ _
    |x::y::l,h=>simp at h;omega
   rw[<-iv this (λz=>Dx)]
  ·rw[Ag h2,Ae,o9 hl]
   have e1:Ef l 0 ((l.length / 2:Nat):Int)=l.take (l.length / 2):=by unfold Ef;rw[AL];rfl
   have e2:Ef l ((l.length / 2:Nat):Int) (l.length:Int)=l.drop (l.length / 2):=by unfold Ef;rw[AL,AL,BT]
   have l1:(l.take (l.length / 2)).length < m:=by rw[AJ];omega
   have l2:(l.drop (l.length / 2)).length < m:=by rw[Bt];omega
   rw[AX (by omega),e1,Xv m _ l1 (by rw[AJ];omega) (λr h=>hr r (JI h))]
   simp only[Ab]
   rw[AX (by omega),e2,Xv m _ l2 (by rw[Bt];omega) (λr h=>hr r (JH h))]
   have s1:=QF (l.take (l.length / 2))
   have s2:=QF (l.drop (l.length / 2))
   rw[AJ]at s1
   rw[Bt]at s2
   have hmem:∀z,z∈sortB (l.take (l.length / 2))++sortB (l.drop (l.length / 2))↔z∈l:=λz=>by
    rw[Al,Mh,Mh,<-Al,C8]
   obtain⟨o,ho,hI⟩:=qK (l0:=l) (a:=sortB (l.take (l.length / 2))) (b:=sortB (l.drop (l.length / 2))) ⟨List.Pairwise.nil,Oh _,Oh _,by simp,λz=>by rw[Bl];exact hmem z,λp hp=>hr p ((hmem p).1 (by simpa using hp)),by simp;omega⟩
   simp only[ho]
   rw[iv (l:=l) hI.so (λz=>by have:=hI.mem z;simpa using this)]
theorem vD{l:List Row}(h:Lj l):R9 l=some (sortB l):=Xv fz l (Ho h.1) h.1 h.2
theorem aN{O:Type}{B:(Int->Option (Sum Unit O))->Int->Option (Sum Unit O)}{n:Nat}(bad:Nat->Bool)(o:O)(hn:n<=lim)(h1:∀k,k < n->∀rec,B rec (k:Int)=cond (bad k) (some (.inr o)) (rec ((k+1:Nat):Int)))(h2:∀rec,B rec (n:Int)=some (.inl ())):
  Au B fz 0=some (cond ((List.range n).any bad) (.inr o) (.inl ())):=by
 have key:∀d k,k+d=n->(∀j,j < k->bad j=false)->∀m,d < m->Au B m (k:Int)=some (cond ((List.range n).any bad) (.inr o) (.inl ())):=by
  intro d
  induction d with
  |zero=>
   intro k hk hb m hm
   cases m with
   |zero=>omega
   |succ m=>
    have hkn:k=n:=by omega
    have:(List.range n).any bad=false:=by
     rw[Bx]
     intro x hx
     rw[hb x (by have:=Ao.1 hx;omega)];simp
    show B (Au B m) (k:Int)=_
    rw[hkn,h2,this];rfl
  |succ d ih=>
   intro k hk hb m hm
   cases m with
   |zero=>omega
   |succ m=>
    show B (Au B m) (k:Int)=_
    rw[h1 k (by omega)]
    cases hbk:bad k with
    |true=>
     have:(List.range n).any bad=true:=by rw[Bi];exact⟨k,Ao.2 (by omega),hbk⟩
     rw[this];rfl
    |false=>
     exact ih (k+1) (by omega) (λj hj=>by
      rcases A9 j k with h|h
      ·exact hb j h
      ·rw[show j=k by omega];exact hbk) m (by omega)
 have:=key n 0 (by omega) (λj hj=>absurd hj (by omega)) fz (Ho hn)
 simpa using this
theorem iw{l:List Row}(h:Lj l):Lj (sortB l):=⟨BD (QF l) h.1,λr hr=>h.2 r ((Mh l r).1 hr)⟩
def Uv(a:Int)(x:Row):Bool:=((List.length x:Int)!=a) || !Qj x
def nrB(a:Int)(l:List Row):(Int×List Row)×Bool:=cond (B9 l λ_ x=>Uv a x) ((0,[]),false) (cond (!PJ (a,sortB l)) ((0,[]),false) ((a,sortB l),true))
theorem zP{a:Int}{l:List Row}(h:Lj l):Jo a l=some (nrB a l):=by
 unfold Jo nrB B9
 rw[aN (λk=>It l k λx=>Uv a x) _ h.1 (λk hk rec=>by
  unfold Ma
  rw[Br hk,Bd hk,BG hk (Bq h.1),Cu hk]
  simp only[Ad,Ab,sC (h.2 _ (Aj hk)),Uv]
  cases((List.length l[k]:Int)!=a)<;>cases Qj l[k]<;>rfl) (λrec=>by unfold Ma;rw[Bm];rfl)]
 cases(List.range l.length).any λk=>It l k λx=>Uv a x with
 |true=>rfl
 |false=>
  simp only[Ab,Ae,vD h,eE (r:=(a,sortB l)) (iw h),sG (r:=(a,sortB l)) (iw h)]
  cases PJ (a,sortB l)<;>rfl
theorem oU{l:zI}{v:Int}{k:Nat}(h:RR l v=some k):∃hk:k < l.length,l[k]=v:=by
 unfold RR at h
 obtain⟨j,hj,he⟩:=List.exists_of_findSome?_eq_some h
 have hj:=Ao.1 hj
 rw[Cu hj]at he
 split at he
 ·rename_i hb
  injection he with he
  subst he
  exact⟨hj,by simpa using hb⟩
 ·cases he
theorem Ob{l:zI}{v:Int}(h:l.contains v=true):∃k:Nat,∃hk:k < l.length,ML l v=(k:Int)∧l[k]=v:=by
 rw[<-TA]at h
 obtain⟨k,hk⟩:=FD.1 h
 obtain⟨h1,h2⟩:=oU hk
 exact⟨k,h1,by unfold ML;rw[hk],h2⟩
theorem Aa0{a:PG}(h:a.2.length<=lim):JN a=some (Rv a 5):=by
 unfold JN
 have:=GA (body:=FSQ a) (out:=Rv a 5) (λk=>(Rv a k,(k:Int))) 5 (λk hk rec=>by
  have hl:=T2 a k
  unfold FSQ HO
  simp only
  rw[Ai (by omega:(k:Int) < 5),vn h,wrap_in (by omega),wA]
  simp only[Ad,Ck]
  cases a.2.contains (k:Int)with
  |true=>rw[Ad,AX (by unfold lim;simp;omega)];rfl
  |false=>rw[Ae,Ae,AY];rfl) (λrec=>by unfold FSQ;simp only;rfl) fz (by unfold fz;omega)
 rw[show((([]:zI),(0:Int)))=(Rv a 0,((0:Nat):Int))from rfl,this]
 rfl
theorem Tq{a:PG}{v:Int}:v∈Rv a 5↔(0<=v∧v < 5)∧a.2.contains v=true:=by
 unfold Rv
 rw[A3]
 constructor
 ·rintro⟨n,hn,rfl⟩
  have h1:=BE.1 hn
  have h2:=Ao.1 h1.1
  exact⟨by omega,h1.2⟩
 ·rintro⟨h1,h2⟩
  exact⟨v.toNat,BE.2 ⟨Ao.2 (by omega),by rw[show((v.toNat:Nat):Int)=v by omega];exact h2⟩,by omega⟩
def S9(a:PG):Prop:=a.2.length<=5∧∀v∈a.2,0<=v∧v < 5
def VV(V r:zI)(k:Nat):Bool:=(List.range k).all λi=>HQ r (ML V (HQ V (i:Int)))==HQ r (i:Int)
theorem tF(V r:zI)(k:Nat):VV V r (k+1)=(VV V r k&&(HQ r (ML V (HQ V (k:Int)))==HQ r (k:Int))):=by
 unfold VV
 rw[EP,EO];simp
def rowOf(a:PG)(r:zI):zI:=(Rv a 5).map λv=>HQ r (ML a.2 v)
theorem ID{l:zI}{k:Nat}(h:k < l.length):HQ l (k:Int)=l[k]:=by unfold HQ;rw[Bd h];rfl
theorem zQ{a:PG}{r:zI}(ha:S9 a)(hr:r.length=a.2.length){R:List zI}{m:Int}{j:Nat}(hj:AZ R (j:Int)=some r):Au (Ih a (Rv a 5) ((m,R),true) (j:Int)) fz (([]:zI),0)=some (rowOf a r):=by
 have hl:=T2 a 5
 unfold rowOf
 exact J3 (a:=Rv a 5) (h:=λv=>HQ r (ML a.2 v)) (by unfold lim;omega) (λk hk rec=>by
  have hc:=(Tq.1 (Aj hk)).2
  obtain⟨p,hp,e1,e2⟩:=Ob hc
  rw[Ih]
  rw[Br hk,hj,Bd hk,BG hk (by unfold maxLen;omega),Ad,Ck,Ck,eF (by have:=ha.1;unfold lim;omega),Ck,e1,Bd (by omega:p < r.length),Ck,AX (by simp only[Ak,AJ,Ay];unfold lim;omega),ID (by omega:p < r.length)]) (λrec y=>by rw[Ih];rw[Bm];rfl)
theorem zM{a:PG}{r:zI}(ha:S9 a)(hr:r.length=a.2.length){R:List zI}{m:Int}{j:Nat}(hj:AZ R (j:Int)=some r):Au (Fl a (Rv a 5) ((m,R),true) (j:Int) (rowOf a r)) fz (true,0)=some (VV a.2 r a.2.length):=by
 have hl:=T2 a 5
 have:=GA (body:=Fl a (Rv a 5) ((m,R),true) (j:Int) (rowOf a r)) (out:=VV a.2 r a.2.length) (λk=>(VV a.2 r k,(k:Int))) a.2.length (λk hk rec=>by
  have hmem:=Aj hk
  have hv:=ha.2 _ hmem
  have hin:a.2.contains a.2[k]=true:=by rw[AS];exact hmem
  have hav:(Rv a 5).contains a.2[k]=true:=by rw[AS];exact Tq.2 ⟨hv,hin⟩
  obtain⟨p,hp,e1,e2⟩:=Ob hav
  have hrow:AZ (rowOf a r) (p:Int)=some (HQ r (ML a.2 a.2[k])):=by
   rw[Qp]
   unfold rowOf
   rw[AW,Ac hp,e2];rfl
  have hJ:∀b:Bool,Fm rec (k:Int) b=rec (b,((k+1:Nat):Int)):=λb=>by rw[Fm,BG hk (by have:=ha.1;unfold maxLen;omega)]
  rw[Fl,tF,ID hk]
  rw[Br hk,Bd hk,Ad,Ck,eF (by unfold lim;omega),Ck,e1,Ai (by omega:(0:Int)<=(p:Int)),Ad,hrow,Ck,hj,Ck,Bd (by omega:k < r.length),Ck,ID (by omega:k < r.length),hJ,hJ]
  cases VV a.2 r k<;>rfl) (λrec=>by rw[Fl];rw[Bm];rfl) fz (Ho (by have:=ha.1;unfold lim;omega))
 exact this
theorem dB{α β:Type}(f:α->Bool)(g:α->β){l:List α}{k:Nat}(hk:k < l.length):((l.take (k+1)).filter f).map g=((l.take k).filter f).map g++cond (f l[k]) [g l[k]] []:=by
 rw[tD f hk,B7]
 cases f l[k]<;>rfl
def RI(a:PG)(R:List zI):List zI:=(R.filter λr=>VV a.2 r a.2.length).map (rowOf a)
theorem iU(a:PG)(R:List zI)(k:Nat):((((R.take k).filter λr=>VV a.2 r a.2.length).map (rowOf a))).length<=k:=by
 rw[Ak]
 exact BD (Fj _ _) (by simp;omega)
theorem qE{a:PG}(ha:S9 a){R:List zI}{m:Int}(hR:∀r∈R,r.length=a.2.length)(hl:R.length<=4000):Au (Fk a (Rv a 5) ((m,R),true)) fz (([]:List zI),0)=some (RI a R):=by
 have:=GA (body:=Fk a (Rv a 5) ((m,R),true)) (out:=RI a R) (λk=>(((R.take k).filter λr=>VV a.2 r a.2.length).map (rowOf a),(k:Int))) R.length (λk hk rec=>by
  have hr:=hR _ (Aj hk)
  have hb:=iU a R k
  have hJ:∀y:List zI,Gj rec (k:Int) y=rec (y,((k+1:Nat):Int)):=λy=>by rw[Gj,BG hk (by unfold maxLen;omega)]
  rw[Fk,dB _ _ hk]
  rw[Br hk,Ad,zQ ha hr (Bd hk),Ck,zM ha hr (Bd hk),Ck,hJ,hJ]
  cases VV a.2 R[k] a.2.length with
  |true=>rw[Ad,AX (by simp only[Ay];unfold lim;omega)];rfl
  |false=>rw[Ae,Ae,AY]) (λrec=>by rw[Fk];rw[Bm,BT];rfl) fz (Ho (by unfold lim;omega))
 exact this
theorem cD{m:Int}{L:List zI}(hm:FI m 0 5=true)(hl:L.length<=4000)(hr:∀r∈L,(r.length:Int)=m∧Qj r=true):PJ (m,sortB L)=true:=by
 unfold PJ
 simp only[Aa,Ax,CI]
 refine⟨hm,by have:=QF L;omega,Kg λi hi=>?_⟩
 have h1:=hr _ ((Mh L _).1 (Aj hi))
 unfold Pq
 rw[h1.2,h1.1]
 simp only[Di,An,BZ]
 by_cases h0:0 < i
 ·rw[Ai h0,AD,Cu (by omega:i - 1 < (sortB L).length)]
  have:=DM.1 (Oh L) (i - 1) i (by omega) hi (by omega)
  exact Ag (by omega)
 ·rw[Ag h0,Lx]
theorem zt{m:Int}{L:List zI}(hm:FI m 0 5=true)(hl:L.length<=4000)(hr:∀r∈L,(r.length:Int)=m∧Qj r=true):nrB m L=((m,sortB L),true):=by
 unfold nrB
 have e:B9 L (λ_ x=>Uv m x)=false:=Kg λi hi=>by
  have h1:=hr _ (Aj hi)
  unfold Uv
  rw[h1.2,h1.1];simp
 rw[e,cD hm hl hr];rfl
theorem cC{r:Int×List zI}(h:PJ r=true):0<=r.1∧r.1<=5∧r.2.length<=4000∧∀x∈r.2,(x.length:Int)=r.1∧Qj x=true:=by
 unfold PJ FI at h
 simp only[Aa,AN,Ax,CI]at h
 refine⟨h.1.1,h.1.2,by omega,λx hx=>?_⟩
 obtain⟨i,hi,rfl⟩:=Bf.1 hx
 have:=IZ h.2.2 hi
 unfold Pq at this
 simp only[BF,Cx]at this
 exact⟨by simpa using this.1.1,this.1.2⟩
theorem df{x:zI}(h:Qj x=true){k:Nat}(hk:k < x.length):0<=x[k]∧x[k]<=99:=by
 unfold Qj at h
 simp only[Ax]at h
 have:=IZ h hk
 unfold FI at this
 simpa using this
theorem j0{x:zI}(h:∀v∈x,0<=v∧v<=99):Qj x=true:=by
 unfold Qj
 rw[Kg λi hi=>by have:=h _ (Aj hi);unfold FI;simp;omega]
 rfl
theorem bW{d:List Jt}{nm:zU}(h:(Fe d nm).2=true):PJ (Fe d nm).1=true∧(Fe d nm).1.2.length<=16:=by
 unfold Fe at *
 split at h
 ·rename_i hd
  rw[Av hd]
  cases hf:d.find? (λt=>t.1==nm)with
  |none=>rw[hf]at h;cases h
  |some t=>
   simp only
   have hm:=G6 hf
   unfold SV at hd
   simp only[Aa,Ax]at hd
   obtain⟨i,hi,rfl⟩:=Bf.1 hm
   have:=IZ hd.2 hi
   unfold Qh at this
   simp only[BF,Cx,CI]at this
   exact⟨this.1.1.2,by have:=this.1.2;omega⟩
 ·cases h
def abB(d:List Jt)(a:PG):Int×List zI:=(((Rv a 5).length:Int),sortB (RI a (Fe d a.1).1.2))
theorem vj{a:PG}{r:zI}(ha:S9 a)(hr:r.length=a.2.length)(hv:Qj r=true):((rowOf a r).length:Int)=((Rv a 5).length:Int)∧Qj (rowOf a r)=true:=by
 refine⟨by unfold rowOf;rw[Ak],j0 λv hvm=>?_⟩
 unfold rowOf at hvm
 obtain⟨u,hu,rfl⟩:=A3.1 hvm
 obtain⟨p,hp,e1,e2⟩:=Ob (Tq.1 hu).2
 rw[e1,ID (by omega:p < r.length)]
 exact df hv (by omega)
theorem V5{d:List Jt}{a:PG}(ha:S9 a)(hf:Lr d a=true):(∀r∈(Fe d a.1).1.2,r.length=a.2.length)∧(Fe d a.1).1.2.length<=16∧∀r∈RI a (Fe d a.1).1.2,(r.length:Int)=((Rv a 5).length:Int)∧Qj r=true:=by
 unfold Lr at hf
 rw[Aa]at hf
 have h1:=bW hf.1
 have h2:=cC h1.1
 have h3:(Fe d a.1).1.1=(a.2.length:Int):=by simpa using hf.2
 have h4:∀r∈(Fe d a.1).1.2,r.length=a.2.length:=λr hr=>by have:=(h2.2.2.2 r hr).1;omega
 refine⟨h4,h1.2,λr hr=>?_⟩
 unfold RI at hr
 obtain⟨x,hx,rfl⟩:=A3.1 hr
 have hx:=(BE.1 hx).1
 exact vj ha (h4 x hx) (h2.2.2.2 x hx).2
theorem Zg(a:PG)(R:List zI):(RI a R).length<=R.length:=by
 unfold RI
 rw[Ak]
 exact Fj _ _
theorem av5(a:PG):FI ((Rv a 5).length:Int) 0 5=true:=by have:=T2 a 5;unfold FI;simp;omega
theorem ot{d:List Jt}{a:PG}(ha:S9 a)(hf:Lr d a=true):Lj (RI a (Fe d a.1).1.2):=by
 obtain⟨h1,h2,h3⟩:=V5 ha hf
 have h4:=Zg a (Fe d a.1).1.2
 have h5:=T2 a 5
 exact⟨by unfold lim;omega,λr hr=>by have:=(h3 r hr).1;unfold lim;omega⟩
theorem AaZ{d:List Jt}{a:PG}(h:R5 d)(ha:S9 a)(hf:Lr d a=true):KG d a=some (abB d a):=by
 obtain⟨h1,h2,h3⟩:=V5 ha hf
 have h4:=Zg a (Fe d a.1).1.2
 have hf':=hf
 unfold Lr at hf'
 rw[Aa]at hf'
 unfold KG abB
 rw[Aa0 (by have:=ha.1;unfold lim;omega),Ck,Z8 h,Ck,hf'.1,An,Ae,show((Fe d a.1).1.1 !=(a.2.length:Int))=false by rw[bne,hf'.2];rfl,Ae]
 have hb:=qE ha (R:=(Fe d a.1).1.2) (m:=(Fe d a.1).1.1) h1 (by omega)
 have e:Fe d a.1=(((Fe d a.1).1.1,(Fe d a.1).1.2),true):=by rw[<-hf'.1]
 rw[<-e]at hb
 rw[hb,Ck,zP (ot ha hf),Ck,zt (av5 a) (by omega) h3]
 rfl
theorem sQ{d:List Jt}{a:PG}(ha:S9 a)(hf:Lr d a=true):PJ (abB d a)=true∧(abB d a).2.length<=16:=by
 obtain⟨h1,h2,h3⟩:=V5 ha hf
 have h4:=Zg a (Fe d a.1).1.2
 have h5:=QF (RI a (Fe d a.1).1.2)
 exact⟨cD (av5 a) (by omega) h3,by unfold abB;simp only;omega⟩
theorem NL{d:List Jt}{q:NQ}(h:Rq d q=true):II q=true∧(∀a∈q.2.1,S9 a∧Lr d a=true)∧q.2.1.length<=4:=by
 unfold Rq at h
 simp only[Aa,Ax]at h
 obtain⟨h1,h2,h3⟩:=h
 obtain⟨g1,g2,g3,g4⟩:=MU h1
 refine⟨h1,λa ha=>⟨⟨(g4 a ha).2.1,λv hv=>?_⟩,?_⟩,g3⟩
 ·have:=(g4 a ha).2.2 v hv;omega
 ·have:=Mw h3 ha;simpa using this
section
variable {d:List Jt}{q:NQ}
def IsB(d:List Jt)(q:NQ)(x:zI):Prop:=(x.length:Int)=q.1∧∀a∈q.2.1,Le x a.2∈(Fe d a.1).1.2
theorem T0{x l:zI}{c:Int}(h:0<=c∧c < l.length):HQ (Le x l) c=HQ x (HQ l c):=by
 obtain⟨k,rfl⟩:=CH h.1
 have hk:k < l.length:=by omega
 rw[ID (l:=l) hk,ID (l:=Le x l) (by unfold Le;rw[Ak];exact hk)]
 unfold Le
 rw[Be]
def qt(a:PG)(x:zI):zI:=(Rv a 5).map λv=>HQ x v
theorem vg{a:PG}{x:zI}(ha:S9 a)(h:Le x a.2∈(Fe d a.1).1.2):qt a x∈(abB d a).2:=by
 unfold abB
 refine(Mh _ _).2 ?_
 unfold RI
 refine A3.2 ⟨Le x a.2,BE.2 ⟨h,?_⟩,?_⟩
 ·unfold VV
  rw[Ah]
  intro i hi
  have hi:=Ao.1 hi
  rw[ID hi]
  obtain⟨k,hk,e1,e2⟩:=Ob (l:=a.2) (v:=a.2[i]) (AS.2 (Aj hi))
  rw[e1,T0 (by omega),T0 (by omega),ID hk,ID hi,e2]
  simp
 ·unfold rowOf qt
  refine Ca λv hv=>?_
  obtain⟨k,hk,e1,e2⟩:=Ob (Tq.1 hv).2
  rw[e1,T0 (by omega),ID hk,e2]
theorem at_set{x:zI}{u v e:Int}(hv:0<=v∧v < x.length)(hu:0<=u∧u < x.length):HQ (DJ x v e) u=if u=v then e else HQ x u:=by
 obtain⟨i,rfl⟩:=CH hv.1
 obtain⟨k,rfl⟩:=CH hu.1
 have hk:k < x.length:=by omega
 unfold DJ
 rw[ID (l:=x) hk,ID (l:=x.set (i:Int).toNat e) (by rw[BM];exact hk),Ec]
 simp only[AL]
 by_cases h:i=k
 ·subst h;simp
 ·rw[At h,At (by omega)]
def WkG(d:List Jt)(q:NQ)(n:Nat)(row z:zI):Prop:=
 z.length=row.length∧(∀v:Int,0<=v->v < row.length->HQ row v= -1∨HQ z v=HQ row v)∧∀i (hi:i < q.2.1.length),n<=i->Le z (q.2.1[i]).2∈(Fe d (q.2.1[i]).1).1.2
def WkC(row V w z:zI):Prop:=z.length=row.length∧(∀v:Int,0<=v->v < row.length->HQ row v= -1∨HQ row v=HQ z v)∧∀i (hi:i < V.length),HQ w (i:Int)=HQ z V[i]
def WkT(d:List Jt)(q:NQ)(n:Nat)(row z:zI):Prop:=
 z.length=row.length∧(∀v:Int,0<=v->v < row.length->HQ row v=HQ z v∨(HQ row v= -1∧∃i,∃hi:i < q.2.1.length,n<=i∧v∈(q.2.1[i]).2))∧∀i (hi:i < q.2.1.length),n<=i->Le z (q.2.1[i]).2∈(Fe d (q.2.1[i]).1).1.2
theorem qx{x z:zI}(hl:z.length=x.length)(h:∀v:Int,0<=v->v < x.length->HQ x v=HQ z v):x=z:=by
 refine CD hl.symm λi h1 h2=>?_
 have:=h i (by omega) (by omega)
 rwa [ID h1,ID h2]at this
theorem Aab{n j:Nat}{V w row:zI}{v6:(Int×List zI)×Bool}(hn:n < q.2.1.length)(hV:(q.2.1[n]).2=V)(hj:AZ v6.1.2 (j:Int)=some w)(har:v6.1.1=(V.length:Int))(hw:w.length=V.length)(hl:V.length<=5)(hin:∀v∈V,0<=v∧v < (row.length:Int))(hp:∀e∈w,0<=e):
  ∃x b,Au (Gs q (n:Int) v6 (j:Int)) fz (row,true,0)=some (x,b)∧x.length=row.length∧(b=true->(∀v:Int,0<=v->v < row.length->HQ row v= -1∨HQ x v=HQ row v)∧(∀i (hi:i < V.length),HQ x V[i]=HQ w (i:Int))∧∀v:Int,0<=v->v < row.length->v∉V->HQ x v=HQ row v)∧∀z,WkC row V w z->b=true:=by
 obtain⟨⟨x,b⟩,e,h1,h2,h3⟩:=OS (B:=Gs q (n:Int) v6 (j:Int)) (λs=>s.1.length=row.length∧∃k:Nat,s.2.2=(k:Int)∧k<=V.length∧(s.2.1=true->(∀v:Int,0<=v->v < row.length->HQ row v= -1∨HQ s.1 v=HQ row v)∧(∀i (hi:i < V.length),i < k->HQ s.1 V[i]=HQ w (i:Int))∧∀v:Int,0<=v->v < row.length->v∉V->HQ s.1 v=HQ row v)∧∀z,WkC row V w z->s.2.1=true∧∀v:Int,0<=v->v < row.length->HQ s.1 v=HQ row v∨HQ s.1 v=HQ z v)
  (λs=>V.length - s.2.2.toNat) (λo=>o.1.length=row.length∧(o.2=true->(∀v:Int,0<=v->v < row.length->HQ row v= -1∨HQ o.1 v=HQ row v)∧(∀i (hi:i < V.length),HQ o.1 V[i]=HQ w (i:Int))∧∀v:Int,0<=v->v < row.length->v∉V->HQ o.1 v=HQ row v)∧∀z,WkC row V w z->o.2=true) (λs hs=>by
  obtain⟨x,b,kk⟩:=s
  obtain⟨i1,k,rfl,i3,i4,i7⟩:=hs
  simp only at i1 i4 i7
  by_cases hk:k < V.length
  ·cases b with
   |false=>
    left
    refine⟨(x,false),⟨i1,(λh=>by cases h),λz hz=>(i7 z hz).1⟩,λrec=>?_⟩
    simp only[Gs]
    cases decide ((k:Int) < v6.1.1)<;>rfl
   |true=>
    right
    obtain⟨i5,i6,i8⟩:=i4 rfl
    have hv:=hin _ (Aj hk)
    have hx:0<=V[k]∧V[k] < (x.length:Int):=by omega
    have hwk:AZ w (k:Int)=some (HQ w (k:Int)):=Uj ⟨by omega,by omega⟩
    have hw0:0<=HQ w (k:Int):=by rw[ID (by omega)];exact hp _ (Aj _)
    have hW:wZ ((k:Int)+1)=((k+1:Nat):Int):=by rw[wrap_in (by omega)];simp
    have hJ:∀rec b',Lo rec v6 (j:Int) x (k:Int) V[k] b'=rec (DJ x V[k] (HQ w (k:Int)),b',((k+1:Nat):Int)):=λrec b'=>by
     unfold Lo
     rw[AX (by omega),hj,Ck,hwk,Ck,Uj hx,Ck,hW]
    have hB:∀rec,Gs q (n:Int) v6 (j:Int) rec (x,true,(k:Int))=rec (DJ x V[k] (HQ w (k:Int)),(HQ x V[k]== -1 || HQ x V[k]==HQ w (k:Int)),((k+1:Nat):Int)):=λrec=>by
     simp only[Gs]
     rw[har,Br hk,Ad,Ad,Bd hn,Ck,hV,Bd hk,Ck,Uj hx,Ck,Ck,hj,Ck,hwk,Ck,hJ,hJ]
     cases HQ x V[k]== -1<;>rfl
    refine⟨_,⟨by unfold DJ;rw[BM];exact i1,k+1,rfl,hk,λhb=>?_,λz hz=>?_⟩,by simp only[AL];omega,hB⟩
    case refine_2=>
     have hwz:HQ w (k:Int)=HQ z V[k]:=hz.2.2 k hk
     have h7:=(i7 z hz).2
     refine⟨?_,λv h0 h1=>?_⟩
     ·simp only[BP,Bc]
      rcases h7 _ hv.1 hv.2 with h|h
      ·rcases hz.2.1 _ hv.1 hv.2 with h'|h'
       ·exact .inl (by omega)
       ·exact .inr (by omega)
      ·exact .inr (by omega)
     ·simp only
      rw[at_set hx ⟨h0,by omega⟩]
      split
      ·rename_i ev
       subst ev
       exact .inr hwz
      ·exact h7 v h0 h1
    rw[BP,Bc,Bc]at hb
    refine⟨λv h0 h1=>?_,λi hi hik=>?_,λv h0 h1 hvn=>?_⟩
    rotate_left 2
    ·rw[at_set hx ⟨h0,by omega⟩,At (λe=>hvn (by rw[e];exact Aj hk))]
     exact i8 v h0 h1 hvn
    ·rw[at_set hx ⟨h0,by omega⟩]
     split
     ·rename_i ev
      subst ev
      rcases i5 _ h0 h1 with h|h
      ·exact .inl h
      ·rcases hb with hb|hb
       ·exact .inl (by omega)
       ·exact .inr (by omega)
     ·exact i5 v h0 h1
    ·have hvi:=hin _ (Aj hi)
     rw[at_set hx ⟨hvi.1,by omega⟩]
     rcases A9 i k with h|h
     ·split
      ·rename_i ev
       have h6:=i6 i hi h
       rw[ev]at h6
       have:0<=HQ w (i:Int):=by rw[ID (by omega)];exact hp _ (Aj _)
       rcases hb with hb|hb
       ·omega
       ·omega
      ·exact i6 i hi h
     ·have:i=k:=by omega
      subst this
      rw[Av rfl]
  ·left
   have hkl:k=V.length:=by omega
   refine⟨(x,b),⟨i1,λhb=>⟨(i4 hb).1,λi hi=>(i4 hb).2.1 i hi (by omega),(i4 hb).2.2⟩,λz hz=>(i7 z hz).1⟩,λrec=>?_⟩
   simp only[Gs]
   rw[har,Ag (by omega:¬(k:Int) < (V.length:Int))];rfl) fz (row,true,0) ⟨rfl,0,rfl,CB _,λ_=>⟨λv _ _=>.inr rfl,λi hi h=>absurd h (by omega),λv _ _ _=>rfl⟩,λz hz=>⟨rfl,λv _ _=>.inl rfl⟩⟩ (by unfold fz;simp only;omega)
 exact⟨x,b,e,h1,h2,h3⟩
theorem iN(h:R5 d)(hq:Rq d q=true):∀(r n:Nat),n+r=q.2.1.length->∀(row:zI) (m:Nat),(row.length:Int)=q.1->r < m->∃out,Au EX m (d,q,(n:Int),row)=some out∧out.length<=16 ^ r∧(∀z∈out,WkG d q n row z)∧∀z,WkT d q n row z->z∈out
 |0,n,hn,row,m,hrow,hm=>by
  obtain⟨g1,g2,g3⟩:=NL hq
  obtain⟨q1,q2,-⟩:=MU g1
  obtain⟨m,rfl⟩:∃k,m=k+1:=⟨m - 1,by omega⟩
  refine⟨[row],?_,by simp,λz hz=>?_,λz hz=>?_⟩
  rotate_right
  ·rw[AP]
   refine(qx hz.1 λv h0 h1=>?_).symm
   rcases hz.2.1 v h0 h1 with h|⟨-,i,hi,hni,-⟩
   ·exact h
   ·omega
  ·rw[By,EX]
   rw[show((n:Int)==(q.2.1.length:Int))=true by rw[Bc];omega,Ad,Bl,AX (by simp only[Cg];unfold lim;omega)]
  ·rw[AP]at hz
   subst hz
   exact⟨rfl,λv _ _=>.inr rfl,λi hi h=>absurd h (by omega)⟩
 |r+1,n,hn,row,m,hrow,hm=>by
  obtain⟨g1,g2,g3⟩:=NL hq
  obtain⟨q1,q2,-,q4⟩:=MU g1
  obtain⟨m,rfl⟩:∃k,m=k+1:=⟨m - 1,by omega⟩
  have hlt:n < q.2.1.length:=by omega
  have hmem:=Aj hlt
  obtain⟨hok,hfit⟩:=g2 _ hmem
  obtain⟨f1,f2,-⟩:=V5 hok hfit
  have hfit':=hfit
  unfold Lr at hfit'
  rw[Aa]at hfit'
  have har:(Fe d (q.2.1[n]).1).1.1=((q.2.1[n]).2.length:Int):=by simpa using hfit'.2
  have hrel:=cC (bW hfit'.1).1
  have h16:16 ^ r<=65536:=by
   have:=Cr (show 0 < 16 by decide) (show r<=4 by omega)
   exact this
  generalize hR:Fe d (q.2.1[n]).1=R at f1 f2 har hrel
  have key:∃out,Au (HD d q (n:Int) row R (Au EX m)) fz (([]:List zI),0)=some out∧out.length<=16 ^ (r+1)∧(∀z∈out,WkG d q n row z)∧∀z,WkT d q n row z->z∈out:=by
   obtain⟨out,e,k1,k2,k3⟩:=OS (B:=HD d q (n:Int) row R (Au EX m)) (λs=>∃k:Nat,s.2=(k:Int)∧k<=R.1.2.length∧s.1.length<=k * 16 ^ r∧(∀z∈s.1,WkG d q n row z)∧∀z,WkT d q n row z->∀j (hj:j < R.1.2.length),j < k->R.1.2[j]=Le z (q.2.1[n]).2->z∈s.1) (λs=>R.1.2.length - s.2.toNat) (λo=>o.length<=16 ^ (r+1)∧(∀z∈o,WkG d q n row z)∧∀z,WkT d q n row z->z∈o) (λs hs=>by
    obtain⟨y,kk⟩:=s
    obtain⟨k,rfl,i1,i2,i3,i4⟩:=hs
    simp only at i2 i3 i4
    by_cases hk:k < R.1.2.length
    ·right
     have hw:=Aj hk
     have hv:=hrel.2.2.2 _ hw
     obtain⟨x,b,e1,x1,x2,x5⟩:=Aab (q:=q) (v6:=R) (row:=row) (w:=R.1.2[k]) hlt rfl (Bd hk) har (f1 _ hw) hok.1 (λv hv=>by have:=(q4 _ hmem).2.2 v hv;omega) (λe he=>by
      obtain⟨i,hi,rfl⟩:=Bf.1 he
      exact(df hv.2 hi).1)
     have hW:wZ ((k:Int)+1)=((k+1:Nat):Int):=by rw[wrap_in (by omega)];simp
     have hto:∀z,WkT d q n row z->R.1.2[k]=Le z (q.2.1[n]).2->WkC row (q.2.1[n]).2 R.1.2[k] z:=λz hz he=>⟨hz.1,λv h0 h1=>(hz.2.1 v h0 h1).elim .inr (λh=>.inl h.1),λi hi=>by
      rw[he,T0 (by omega),ID hi]⟩
     have hWn:wZ ((n:Int)+1)=((n+1:Nat):Int):=by rw[wrap_in (by omega)];simp
     have hmul:k * 16 ^ r<=16 * 16 ^ r:=CA _ (by omega)
     have hsucc:(k+1) * 16 ^ r=k * 16 ^ r+16 ^ r:=FC k (16 ^ r)
     cases b with
     |false=>
      refine⟨(y,((k+1:Nat):Int)),⟨k+1,rfl,hk,by simp only;omega,i3,λz hz j hj hjk he=>?_⟩,by simp only[AL];omega,λrec=>?_⟩
      ·rcases A9 j k with h|h
       ·exact i4 z hz j hj h he
       ·have:j=k:=by omega
        subst this
        exact absurd (x5 z (hto z hz he)) (by simp)
      simp only[HD]
      rw[Br hk,Ad,AX (by simp only[Cg];unfold lim;omega),Bl,e1,Ck]
      simp only[Ae,Lp,hW]
     |true=>
      obtain⟨x3,x4,x6⟩:=x2 rfl
      obtain⟨l,e2,l1,l2,l3⟩:=iN h hq r (n+1) (by omega) x m (by omega) (by omega)
      refine⟨(y++l,((k+1:Nat):Int)),⟨k+1,rfl,hk,by simp only[Aw];omega,λz hz=>?_,λz hz j hj hjk he=>?_⟩,by simp only[AL];omega,λrec=>?_⟩
      rotate_left
      ·refine Al.2 ?_
       rcases A9 j k with h|h
       ·exact .inl (i4 z hz j hj h he)
       ·have:j=k:=by omega
        subst this
        refine .inr (l3 z ⟨by rw[hz.1,x1],λv h0 h1=>?_,λi hi hni=>hz.2.2 i hi (by omega)⟩)
        have h1:v < row.length:=by omega
        by_cases hvV:v∈(q.2.1[n]).2
        ·obtain⟨i,hi,rfl⟩:=Bf.1 hvV
         left
         rw[x4 i hi,he,T0 (by omega),ID hi]
        ·rw[x6 v h0 h1 hvV]
         rcases hz.2.1 v h0 h1 with h|⟨h,i,hi,hni,hm⟩
         ·exact .inl h
         ·refine .inr ⟨h,i,hi,?_,hm⟩
          rcases A9 n i with h'|h'
          ·exact h'
          ·have:i=n:=by omega
           subst this
           exact absurd hm hvV
      rotate_left
      ·rcases Al.1 hz with hz|hz
       ·exact i3 z hz
       ·obtain⟨z1,z2,z3⟩:=l2 z hz
        have hpk:Le z (q.2.1[n]).2=R.1.2[k]:=by
         refine CD (by unfold Le;rw[Ak];exact(f1 _ hw).symm) λi hi hi'=>?_
         have hiV:i < (q.2.1[n]).2.length:=by unfold Le at hi;rw[Ak]at hi;exact hi
         have hV:=(q4 _ hmem).2.2 _ (Aj hiV)
         have h4:=x4 i hiV
         have h5:=z2 _ hV.1 (by omega)
         rw[h4,ID hi']at h5
         have h6:=df hv.2 hi'
         have e9:(Le z (q.2.1[n]).2)[i]'hi=HQ z ((q.2.1[n]).2[i]'hiV):=Be (HQ z)
         rw[e9]
         rcases h5 with h5|h5
         ·omega
         ·exact h5
        refine⟨by omega,λv h0 h1=>?_,λi hi hni=>?_⟩
        ·rcases x3 v h0 h1 with h5|h5
         ·exact .inl h5
         ·rcases z2 v h0 (by omega)with h6|h6
          ·exact .inl (by omega)
          ·exact .inr (by omega)
        ·rcases A9 n i with h5|h5
         ·exact z3 i hi (by omega)
         ·have:i=n:=by omega
          subst this
          rw[hpk,hR]
          exact hw
      ·simp only[HD]
       rw[Br hk,Ad,AX (by simp only[Cg];unfold lim;omega),Bl,e1,Ck]
       simp only[Ad,hWn]
       rw[e2,Ck,AX (by unfold lim;omega)]
       simp only[Lp,hW]
    ·left
     have hmul:k * 16 ^ r<=16 * 16 ^ r:=CA _ (by omega)
     refine⟨y,⟨by rw[CQ];omega,i3,λz hz=>?_⟩,λrec=>?_⟩
     ·have hm:=hz.2.2 n hlt (AT n)
      rw[hR]at hm
      obtain⟨j,hj,he⟩:=Bf.1 hm
      exact i4 z hz j hj (by omega) he
     simp only[HD]
     rw[Ag (by omega:¬(k:Int) < (R.1.2.length:Int))];rfl) fz (([]:List zI),0) ⟨0,rfl,CB _,by simp,(λz hz=>by cases hz),λz _ j _ hj=>absurd hj (by omega)⟩ (by unfold fz;simp only;omega)
   exact⟨out,e,k1,k2,k3⟩
  obtain⟨out,e,k1,k2,k3⟩:=key
  refine⟨out,?_,k1,k2,k3⟩
  rw[By,EX]
  rw[show((n:Int)==(q.2.1.length:Int))=false by rw[Cn];omega,Ae,Bd hlt,Ck,Z8 h,Ck,hR,e];rfl
theorem Y0{l:List Row}(h:Srt l):l.Nodup:=by
 rw[DB]
 exact h.imp λh e=>by subst e;rw[T8]at h;omega
theorem vm(h:R5 d)(hs:US q):∃r,LB d q=some r∧(Rq d q=false->r=(0,[]))∧(Rq d q=true->∃out,out.length<=65536∧(∀z,z∈out↔IsB d q z)∧r=(nrB q.1 out).1):=by
 unfold LB
 rw[m9 h hs,Ck]
 cases hq:Rq d q with
 |false=>exact⟨(0,[]),rfl,λ_=>rfl,λh=>by cases h⟩
 |true=>
  obtain⟨g1,g2,g3⟩:=NL hq
  obtain⟨q1,q2,-,q4⟩:=MU g1
  have hrow:Au (GS q) fz ([]:zI)=some (List.replicate q.1.toNat (-1)):=by
   refine GA (body:=GS q) (out:=List.replicate q.1.toNat (-1)) (λk=>List.replicate k (-1)) q.1.toNat (λk hk rec=>?_) (λrec=>?_) fz (by unfold fz;omega)
   ·rw[GS]
    rw[Cc,Ai (by omega:(k:Int) < q.1),Ad,AX (by simp only[Ay];unfold lim;omega),List.replicate_succ']
   ·rw[GS]
    rw[Cc,Ag (by omega:¬((q.1.toNat:Nat):Int) < q.1)];rfl
  obtain⟨out,e,o1,o2,o3⟩:=iN h hq q.2.1.length 0 (by omega) (List.replicate q.1.toNat (-1)) fz (by rw[Cc];omega) (by unfold fz;omega)
  have e:Sd d q 0 (List.replicate q.1.toNat (-1))=some out:=e
  have h16:16 ^ q.2.1.length<=65536:=by
   have:=Cr (show 0 < 16 by decide) g3
   exact this
  have hlen:∀z∈out,(z.length:Int)=q.1:=λz hz=>by have:=(o2 z hz).1;rw[Cc]at this;omega
  rw[An,Ae,hrow,Ck,e,Ck,zP ⟨by unfold lim;omega,λz hz=>by have:=hlen z hz;unfold lim;omega⟩,Ck]
  refine⟨(nrB q.1 out).1,?_,λh=>(by cases h),λ_=>⟨out,by omega,λz=>⟨λhz=>⟨hlen z hz,λa ha=>?_⟩,λhz=>o3 z ⟨?_,λv h0 h1=>?_,λi hi _=>hz.2 _ (Aj hi)⟩⟩,rfl⟩⟩
  ·unfold nrB
   cases B9 out λ_ x=>Uv q.1 x with
   |true=>rfl
   |false=>
    cases PJ (q.1,sortB out)with
    |false=>rfl
    |true=>rfl
  ·obtain⟨i,hi,rfl⟩:=Bf.1 ha
   exact(o2 z hz).2.2 i hi (CB _)
  ·rw[Cc];have:=hz.1;omega
  ·rw[Cc]at h1
   obtain⟨k,rfl⟩:=CH h0
   right
   refine⟨by rw[ID (by rw[Cc];omega),Iw],?_⟩
   unfold II at g1
   simp only[Aa,Ax]at g1
   have hu:=Bx.1 g1.2.2.2.2 k (Ao.2 (by omega))
   simp only[Ax,IN]at hu
   unfold Hf at hu
   obtain⟨a,ha,hv⟩:=Bi.1 hu
   obtain⟨i,hi,rfl⟩:=Bf.1 ha
   exact⟨i,hi,CB _,AS.1 hv⟩
end
section
variable {d:List Jt}{q:NQ}
def vJ(d:List Jt)(q:NQ):zI:=q.2.1.map λa=>((abB d a).2.length:Int)
theorem qQ(h:R5 d)(hq:US q):Nk d q=some (cond (Rq d q) (vJ d q,true) ([],false)):=by
 unfold Nk
 rw[m9 h hq]
 simp only[Ab]
 cases hb:Rq d q with
 |false=>rfl
 |true=>
  obtain⟨g1,g2,g3⟩:=NL hb
  rw[An,Ae,J3 (a:=q.2.1) (h:=λa=>((abB d a).2.length:Int)) (by unfold lim;omega) (λk hk rec=>by
   have ha:=g2 _ (Aj hk)
   unfold Nl
   simp only
   rw[Br hk,Ad,Bd hk]
   simp only[Ab]
   rw[AaZ h ha.1 ha.2]
   simp only
   rw[AX (by simp only[Ak,AJ,Ay];unfold lim;omega),BG hk (Bq (by unfold lim;omega))]) (λrec y=>by unfold Nl;simp only[Bm,Ae])]
  rfl
end
open Go.RowKit Go.ChangeShapes Go.WideShapes Go.Deep
set_option maxRecDepth 100000
def wB(x:zI):List V:=[dL Qm x]
section
variable {H:Type}{enc:TypeId×Value->H}{w:World}{base:Nat}{spare:Nat->Bool}{held:Bool}
def u5(x:zI):Prop:=x.length<=maxLen∧∀a∈x,(0<=a∧a<=255)
theorem AaV:Opens enc Tryz.prog w base spare held 22 wB u5:=mq Tryz.underlying22 (by kernel_rfl) (Nat.le_of_ble_eq_true rfl) rH (mr Tryz.underlying5)
end
end
section
theorem ic{d:List Jt}(h:R5 d):Ok d=some d:=by
 unfold Ok
 rw[J3 (a:=d) (h:=id) h.1 (λk hk rec=>by
  have hr:=(h.2 _ (Aj hk)).2
  unfold PC
  simp only
  rw[Br hk,Bd hk,BG hk (Bq h.1)]
  simp only[Ad,Ab,eE hr]
  rw[AX (by simp only[Ak,AJ,Ay];have:=h.1;omega)]
  rfl) (λrec y=>by unfold PC;simp only;rw[Bm];rfl)]
 simp[Ab]
theorem ZJ{d:List Jt}(h:R5 d):Gx d=some d:=by
 unfold Gx
 rw[J3 (a:=d) (h:=id) h.1 (λk hk rec=>by
  have hr:=(h.2 _ (Aj hk)).2
  unfold KW
  simp only
  rw[Br hk,Bd hk,BG hk (Bq h.1)]
  simp only[Ad,Ab,kY hr]
  rw[AX (by simp only[Ak,AJ,Ay];have:=h.1;omega)]
  rfl) (λrec y=>by unfold KW;simp only;rw[Bm];rfl)]
 simp[Ab]
theorem Zi:∀s:zU,Op.bytesLess s s=false
 |[]=>rfl
 |x::s=>by simp[Op.bytesLess,Zi s]
theorem aR:∀{a b c:zU},Op.bytesLess a b=true->Op.bytesLess b c=true->Op.bytesLess a c=true
 |[],[],_,h,_=>by simp[Op.bytesLess]at h
 |[],_::_,[],_,h=>by simp[Op.bytesLess]at h
 |[],_::_,_::_,_,_=>by simp[Op.bytesLess]
 |_::_,[],_,h,_=>by simp[Op.bytesLess]at h
 |_::_,_::_,[],_,h=>by simp[Op.bytesLess]at h
 |x::a,y::b,z::c,h,k=>by
  simp only[Op.bytesLess,BP,AN,Aa,Bc]at h k⊢
  rcases h with h|⟨rfl,h⟩
  ·rcases k with k|⟨rfl,k⟩
   ·exact .inl (UInt8.lt_trans h k)
   ·exact .inl h
  ·rcases k with k|⟨rfl,k⟩
   ·exact .inl k
   ·exact .inr ⟨rfl,aR h k⟩
theorem kt{d:List Jt}(h:SV d=true):d.Pairwise λa b=>Op.bytesLess a.1 b.1=true:=by
 have hs:∀k (hk:k+1 < d.length),Op.bytesLess (d[k]'(by omega)).1 d[k+1].1=true:=by
  intro k hk
  simp only[SV,Aa,Ax,B9,Bx,Ao]at h
  have:=h.2 (k+1) hk
  rw[Cu hk]at this
  simp only[Qh,Ex,BF,Bool.and_eq_false_iff]at this
  have h1:=this.1.1.1.2
  rcases h1 with h1|h1
  ·simp at h1
  ·rw[show k+1 - 1=k by omega,Cu (by omega)]at h1
   simpa using h1
 rw[DM]
 intro i j hi hj hij
 induction j with
 |zero=>omega
 |succ j ih=>
  rcases A9 i j with h1|h1
  ·exact aR (ih (by omega) h1) (hs j hj)
  ·have:i=j:=by omega
   subst this
   exact hs i hj
def setSt(nm:zU)(r:Int×List zI)(s:List Jt×Bool)(t:Jt):List Jt×Bool:=
 let x:=cond (!s.2&& !Op.bytesLess t.1 nm) (s.1++[(nm,r)]) s.1
 (cond (!(t.1==nm)) (x++[t]) x,s.2 || !Op.bytesLess t.1 nm)
def PK(d:List Jt)(nm:zU)(r:Int×List zI):List Jt:=
 let s:=d.foldl (setSt nm r) ([],false)
 cond (!s.2) (s.1++[(nm,r)]) s.1
def setB(d:List Jt)(nm:zU)(r:Int×List zI):List Jt×Bool:=cond (!SV d || !SV (PK d nm r)) (d,false) (PK d nm r,true)
section
variable {d:List Jt}{nm:zU}{r:Int×List zI}
theorem rh(s:List Jt×Bool)(t:Jt):(setSt nm r s t).1.length<=s.1.length+2∧(s.2=true->(setSt nm r s t).1.length<=s.1.length+1∧(setSt nm r s t).2=true)∧(s.2=false->(setSt nm r s t).2=false->(setSt nm r s t).1.length<=s.1.length+1):=by
 obtain⟨x,p⟩:=s
 simp only[setSt]
 cases p<;>cases Op.bytesLess t.1 nm<;>cases(t.1==nm)<;>simp
theorem Ue:∀(l:List Jt) (s:List Jt×Bool),(l.foldl (setSt nm r) s).1.length<=s.1.length+l.length+(cond (l.foldl (setSt nm r) s).2 1 0) - (cond s.2 1 0)∧(s.2=true->(l.foldl (setSt nm r) s).2=true)
 |[],s=>by simp only[Jd,Cg];cases s.2<;>simp
 |t::l,s=>by
  rw[Cz,AQ]
  obtain⟨h1,h2⟩:=Ue l (setSt nm r s t)
  obtain⟨k1,k2,k3⟩:=rh (nm:=nm) (r:=r) s t
  cases hs:s.2 with
  |true=>
   obtain⟨q1,q2⟩:=k2 hs
   rw[q2]at h1 h2
   rw[h2 rfl]at h1⊢
   simp only[Ad]at h1⊢
   exact⟨by omega,λ_=>(by first|rfl|trivial)⟩
  |false=>
   refine⟨?_,λh=>by cases h⟩
   cases hp:(setSt nm r s t).2 with
   |true=>
    rw[hp]at h1 h2
    rw[h2 rfl]at h1⊢
    simp only[Ad,Ae]at h1⊢
    omega
   |false=>
    have:=k3 hs hp
    rw[hp]at h1
    simp only[Ae]at h1⊢
    omega
theorem nr(d:List Jt):(PK d nm r).length<=d.length+1:=by
 obtain⟨h1,_⟩:=Ue (nm:=nm) (r:=r) d ([],false)
 simp only[PK]
 cases hp:(d.foldl (setSt nm r) ([],false)).2 with
 |true=>rw[hp]at h1;simp only[Ad,Ae,Cg,An]at h1⊢;omega
 |false=>rw[hp]at h1;simp only[Ad,Ae,Cg,CJ,Aw,Ay]at h1⊢;omega
theorem bl:∀(l:List Jt) (s:List Jt×Bool),∀t∈(l.foldl (setSt nm r) s).1,t∈s.1∨t∈l∨t=(nm,r)
 |[],s,t,h=>.inl h
 |u::l,s,t,h=>by
  rcases bl l _ t h with h|h|h
  ·have:t∈s.1∨t=u∨t=(nm,r):=by
    revert h
    simp only[setSt]
    cases s.2<;>cases Op.bytesLess u.1 nm<;>cases(u.1==nm)<;>simp<;>intro h<;>grind
   rcases this with h|h|h
   ·exact .inl h
   ·exact .inr (.inl (by rw[h];exact Bg))
   ·exact .inr (.inr h)
  ·exact .inr (.inl (AE _ h))
  ·exact .inr (.inr h)
theorem cQ:∀t∈PK d nm r,t∈d∨t=(nm,r):=by
 intro t h
 simp only[PK]at h
 have key:∀t∈(d.foldl (setSt nm r) ([],false)).1,t∈d∨t=(nm,r):=λt ht=>by
  rcases bl d _ t ht with h|h|h
  ·simp at h
  ·exact .inl h
  ·exact .inr h
 revert h
 cases(d.foldl (setSt nm r) ([],false)).2 with
 |true=>exact key t
 |false=>
  intro h
  simp only[CJ,Ad,Al,AP]at h
  rcases h with h|h
  ·exact key t h
  ·exact .inr h
theorem ik(h:R5 d)(hd:d.length < lim)(hn:nm.length<=lim)(hr:Lj r.2):R5 (PK d nm r):=by
 refine⟨by have:=nr (nm:=nm) (r:=r) d;omega,λt ht=>?_⟩
 rcases cQ t ht with h1|rfl
 ·exact h.2 t h1
 ·exact⟨hn,hr⟩
theorem bk:∀(l:List Jt) (x:List Jt),(∀t∈l,Op.bytesLess t.1 nm=true)->l.foldl (setSt nm r) (x,false)=(x++l,false)
 |[],x,_=>by simp
 |t::l,x,h=>by
  have h1:=h t Bg
  have h2:(t.1==nm)=false:=by
   cases e:(t.1==nm)with
   |false=>rfl
   |true=>rw[Dv e,Zi]at h1;cases h1
  rw[Cz]
  have:setSt nm r (x,false) t=(x++[t],false):=by simp[setSt,h1,h2]
  rw[this,bk l _ (λu hu=>h u (AE _ hu))]
  simp
theorem U8:∀(l:List Jt) (x:List Jt),(∀t∈l,(t.1==nm)=false)->l.foldl (setSt nm r) (x,true)=(x++l,true)
 |[],x,_=>by simp
 |t::l,x,h=>by
  rw[Cz]
  have:setSt nm r (x,true) t=(x++[t],true):=by simp[setSt,h t Bg]
  rw[this,U8 l _ (λu hu=>h u (AE _ hu))]
  simp
def E3(d:List Jt)(nm:zU):Nat:=(d.takeWhile λt=>Op.bytesLess t.1 nm).length
theorem Vq(d:List Jt)(nm:zU):d.takeWhile (λt=>Op.bytesLess t.1 nm)=d.take (E3 d nm)∧d.dropWhile (λt=>Op.bytesLess t.1 nm)=d.drop (E3 d nm):=by
 have h:=List.takeWhile_append_dropWhile (p:=λt:Jt=>Op.bytesLess t.1 nm) (l:=d)
 unfold E3
 generalize d.takeWhile (λt=>Op.bytesLess t.1 nm)=a at *
 generalize d.dropWhile (λt=>Op.bytesLess t.1 nm)=b at *
 subst h
 simp
theorem pJ{d:List Jt}{nm:zU}(h:E3 d nm < d.length):Op.bytesLess d[E3 d nm].1 nm=false:=by
 obtain⟨e1,e2⟩:=Vq d nm
 generalize hx:d[E3 d nm]=t
 have h3:d.dropWhile (λt=>Op.bytesLess t.1 nm)=t::d.drop (E3 d nm+1):=by rw[e2,AR h,hx]
 cases hb:Op.bytesLess t.1 nm with
 |false=>rfl
 |true=>
  have h4:=List.head_dropWhile_not (p:=λt:Jt=>Op.bytesLess t.1 nm) (l:=d) (by rw[h3];simp)
  simp only[h3,List.head_cons,hb]at h4
  cases h4
def cz(d:List Jt)(nm:zU)(r:Int×List zI):List Jt:=
 cond (It d (E3 d nm) λt=>t.1==nm) (d.set (E3 d nm) (nm,r)) (d.take (E3 d nm)++[(nm,r)]++d.drop (E3 d nm))
theorem QD(h:SV d=true):PK d nm r=cz d nm r:=by
 have hasc:=kt h
 obtain⟨e1,e2⟩:=Vq d nm
 have hlow:∀t∈d.take (E3 d nm),Op.bytesLess t.1 nm=true:=by
  rw[<-e1]
  intro t ht
  exact(Ah.1 (List.all_takeWhile (p:=λt:Jt=>Op.bytesLess t.1 nm) (l:=d))) t ht
 have hd:d=d.take (E3 d nm)++d.drop (E3 d nm):=(C8 _ _).symm
 have hfold:d.foldl (setSt nm r) ([],false)=(d.drop (E3 d nm)).foldl (setSt nm r) (d.take (E3 d nm),false):=by
  conv=>lhs;rw[hd,Ek,bk _ _ hlow,Bl]
 unfold PK cz
 rw[hfold]
 cases hD:d.drop (E3 d nm)with
 |nil=>
  have hlen:d.length<=E3 d nm:=by simpa using hD
  have:It d (E3 d nm) (λt=>t.1==nm)=false:=by unfold It;rw[A2 hlen]
  rw[this]
  simp
 |cons t D=>
  have hlt:E3 d nm < d.length:=by
   rcases A9 (E3 d nm) d.length with h|h
   ·exact h
   ·rw[BY h]at hD;cases hD
  have ht:d[E3 d nm]=t:=by
   have:=AR hlt
   rw[hD]at this
   injection this with h1 h2
   exact h1.symm
  have hdrop:d.drop (E3 d nm+1)=D:=by
   have:=AR hlt
   rw[hD]at this
   injection this with h1 h2
   exact h2.symm
  have hnl:Op.bytesLess t.1 nm=false:=by
   have h3:d.dropWhile (λt=>Op.bytesLess t.1 nm)=t::D:=by rw[e2,hD]
   cases hb:Op.bytesLess t.1 nm with
   |false=>rfl
   |true=>
    exfalso
    have h4:=List.head_dropWhile_not (p:=λt:Jt=>Op.bytesLess t.1 nm) (l:=d) (by rw[h3];simp)
    simp only[h3,List.head_cons,hb]at h4
    cases h4
  have hhigh:∀u∈D,(u.1==nm)=false:=by
   intro u hu
   rw[hd,hD]at hasc
   have h5:=(CK.1 (G7.1 hasc).2.1).1 u hu
   cases e:(u.1==nm)with
   |false=>rfl
   |true=>rw[Dv e,hnl]at h5;cases h5
  rw[Cu hlt,ht,Cz]
  cases e:(t.1==nm)with
  |true=>
   have:setSt nm r (d.take (E3 d nm),false) t=(d.take (E3 d nm)++[(nm,r)],true):=by simp[setSt,hnl,e]
   rw[this,U8 _ _ hhigh]
   simp only[An,Ae,Ad]
   rw[D0,Av hlt,hdrop]
   simp
  |false=>
   have:setSt nm r (d.take (E3 d nm),false) t=(d.take (E3 d nm)++[(nm,r)]++[t],true):=by simp[setSt,hnl,e]
   rw[this,U8 _ _ hhigh]
   simp
end
def QA{α:Type}(L:List (Nat×α ⊕ α)):zN:=L.filterMap λq=>match q with
 |.inl p=>some p.1
 |.inr _=>none
theorem el{α:Type}[BEq α][LawfulBEq α]{l:List α}:∀{L:List (Nat×α ⊕ α)}{seen:zN},(∀p,.inl p∈L->l[p.1]? =some p.2)->(QA L).Nodup->(∀n∈QA L,n∉seen)->ZU l L seen=true
 |[],_,_,_,_=>rfl
 |.inr x::L,seen,h1,h2,h3=>by
  rw[ZU]
  exact el (λp hp=>h1 p (AE _ hp)) h2 h3
 |.inl p::L,seen,h1,h2,h3=>by
  have e:QA (.inl p::L)=p.1::QA L:=by simp[QA]
  rw[e]at h2 h3
  obtain⟨n1,n2⟩:=Bw.1 h2
  rw[ZU,h1 p Bg]
  simp only[Bu,AD,Aa,Ax]
  refine⟨?_,el (λq hq=>h1 q (AE _ hq)) n2 (λn hn hm=>?_)⟩
  ·have:=h3 p.1 Bg
   cases hc:seen.contains p.1 with
   |false=>rfl
   |true=>exact absurd (AS.1 hc) this
  ·rcases AB.1 hm with h|h
   ·exact n1 (h ▸ hn)
   ·exact h3 n (AE _ hn) h
theorem Ym{α:Type}:∀(l:List α) (k i:Nat),(BW k l)[i]? =(l[i]?).map λx=>(k+i,x)
 |[],k,i=>by simp[BW]
 |x::l,k,0=>by simp[BW]
 |x::l,k,i+1=>by
  rw[BW,Ct,Ct,Ym l (k+1) i]
  congr 1
  funext y
  congr 1
  omega
theorem jb{α:Type}{l:List α}{k:Nat}{p:Nat×α}(h:p∈BW k l):k<=p.1∧l[p.1 - k]? =some p.2:=by
 obtain⟨i,hi,he⟩:=BO h
 have h1:=Ac hi
 rw[Ym,he]at h1
 obtain⟨x,hx,hp⟩:=BI.1 h1
 rw[<-hp]
 refine⟨by simp,?_⟩
 simpa using hx
theorem Ty{α:Type}:∀(l:List α) (k:Nat),QA (OR (BW k l))=List.range' k l.length
 |[],k=>rfl
 |x::l,k=>by
  have:=Ty l (k+1)
  simp only[OR,QA]at this⊢
  rw[BW,AC,List.filterMap_cons]
  simp only[this,AQ,Db]
theorem Tz{α:Type}:∀(l:List α) (k n:Nat),(BW k l).take n=BW k (l.take n)
 |[],k,n=>by simp[BW]
 |x::l,k,0=>by simp[BW]
 |x::l,k,n+1=>by rw[BW,C1,C1,BW,Tz l (k+1) n]
theorem Tx{α:Type}:∀(l:List α) (k n:Nat),(BW k l).drop n=BW (k+n) (l.drop n)
 |[],k,n=>by simp[BW]
 |x::l,k,0=>by simp
 |x::l,k,n+1=>by rw[BW,HL,HL,Tx l (k+1) n,show k+1+n=k+(n+1)by omega]
theorem ZE{α:Type}:∀(l:List α) (k:Nat),(OR (BW k l)).map getM=l
 |[],k=>rfl
 |x::l,k=>by
  have:=ZE l (k+1)
  simp only[OR]at this⊢
  rw[BW,AC,AC,this];rfl
theorem b6{α:Type}(a b:List (Nat×α ⊕ α)):QA (a++b)=QA a++QA b:=by simp[QA]
theorem md{α:Type}(a:List α):QA (RZ a)=[]:=by
 induction a with
 |nil=>rfl
 |cons x a ih=>simp only[RZ,QA]at ih⊢;rw[AC,List.filterMap_cons];exact ih
theorem pZ{α:Type}[BEq α][LawfulBEq α](l:List α)(n:Nat)(x:List α):ZU l (OR ((BW 0 l).take n)++RZ x++OR ((BW 0 l).drop n)) []=true∧(OR ((BW 0 l).take n)++RZ x++OR ((BW 0 l).drop n)).map getM=l.take n++x++l.drop n:=by
 have hx:(RZ x).map getM=x:=by
  induction x with
  |nil=>rfl
  |cons y x ih=>simp only[RZ]at ih⊢;rw[AC,AC,ih];rfl
 refine⟨el (λp hp=>?_) ?_ (by simp),?_⟩
 ·have:p∈BW 0 l:=by
   simp only[OR,RZ,Al,A3,reduceCtorEq,and_false,exists_false,or_false,Sum.inl.injEq,exists_eq_right]at hp
   rcases hp with h|h
   ·exact JI h
   ·exact JH h
  simpa using(jb this).2
 ·rw[b6,b6,md,AY,Tz,Tx,Ty,Ty,CR]
  have:List.range' 0 (l.take n).length++List.range' n (l.drop n).length=List.range' 0 l.length:=by
   rcases A9 n l.length with h|h
   ·rw[AJ,Cq (by omega),Bt]
    have:=List.range'_append (s:=0) (m:=n) (n:=l.length - n) (step:=1)
    rw[show 0+1 * n=n by omega,show n+(l.length - n)=l.length by omega]at this
    exact this
   ·rw[DL h,BY h];simp
  rw[this]
  exact List.nodup_range'
 ·rw[B7,B7,hx,Tz,Tx,ZE,ZE]
theorem vz{d:List Jt}{nm:zU}{r:Int×List zI}(h:R5 d)(hd:d.length < lim)(hn:nm.length<=lim)(hr:Lj r.2):LF d nm r=some (setB d nm r):=by
 unfold LF
 have hl:=GA (body:=EL d nm r) (out:=d.foldl (setSt nm r) ([],false)) (λk=>(((d.take k).foldl (setSt nm r) ([],false)).1,((d.take k).foldl (setSt nm r) ([],false)).2,(k:Int))) d.length (λk hk rec=>by
  have hlen:=(Ue (nm:=nm) (r:=r) (d.take k) ([],false)).1
  rw[A5 hk,Ek]
  simp only[Cz,Jd]
  generalize(d.take k).foldl (setSt nm r) ([],false)=s at hlen⊢
  obtain⟨x,p⟩:=s
  have hx:x.length<=k+(cond p 1 0):=by simpa[AJ,Cq (Eg hk)]using hlen
  have h2:cond p 1 0<=1:=by cases p<;>simp
  simp only[EL]
  rw[Br hk,Bd hk]
  simp only[Ad,Ab,IV,IW,IX,BG hk (Bq h.1),setSt]
  cases p<;>cases hb:Op.bytesLess d[k].1 nm<;>cases he:(d[k].1==nm)<;>simp only[An,CJ,Ad,Ae,GL,CC,FX,AD,Lx,Ng,Mr,Hq,BZ]at hx⊢ <;>
   (try rw[AX (by simp only[Aw,Ay];omega)])<;>(try rw[AX (by simp only[Aw,Ay];omega)])) (λrec=>by
  simp only[EL,BT]
  rw[Bm];rfl) fz (Ho h.1)
 simp only[List.take_zero,Jd,Int.natCast_zero]at hl
 rw[hl]
 have hS:=ik (nm:=nm) (r:=r) h hd hn hr
 have hlen:=(Ue (nm:=nm) (r:=r) d ([],false)).1
 simp only[Ab]
 have hfin:∀x,x=PK d nm r->GX d x=some (setB d nm r):=by
  intro x hx
  subst hx
  simp only[GX,IY,mZ h,mZ hS,Ab,ic h,ic hS,setB]
  cases SV d<;>cases SV (PK d nm r)<;>rfl
 generalize hs:d.foldl (setSt nm r) ([],false)=s at hlen
 obtain⟨x,p⟩:=s
 cases p with
 |true=>
  simp only[An,Ae]
  exact hfin x (by simp[PK,hs])
 |false=>
  simp only[CJ,Ad]
  rw[AX (by simp only[Ay];simp at hlen;omega)]
  exact hfin _ (by simp[PK,hs])
theorem xc{d:List Jt}(h:d.length<=lim)(nm:zU):Au (GO nm d) fz 0=some ((E3 d nm:Nat):Int):=by
 have hle:E3 d nm<=d.length:=by
  unfold E3;exact(List.takeWhile_prefix _).length_le
 obtain⟨e1,e2⟩:=Vq d nm
 refine GA (body:=GO nm d) (out:=((E3 d nm:Nat):Int)) (λk=>(k:Int)) (E3 d nm) (λk hk rec=>?_) (λrec=>?_) fz (Ho (by omega))
 ·have hkd:k < d.length:=by omega
  have hp:Op.bytesLess d[k].1 nm=true:=by
   have hm:d[k]∈d.takeWhile (λt=>Op.bytesLess t.1 nm):=by
    rw[e1,List.mem_take_iff_getElem]
    exact⟨k,by omega,rfl⟩
   exact(Ah.1 (List.all_takeWhile (p:=λt:Jt=>Op.bytesLess t.1 nm) (l:=d))) _ hm
  simp only[GO]
  rw[Br hkd,Bd hkd]
  simp only[Ad,Ab,hp,BG hkd (Bq h)]
 ·simp only[GO]
  rcases A9 (E3 d nm) d.length with hlt|hge
  ·rw[Br hlt,Bd hlt]
   have hnl:=pJ hlt
   simp only[Ad,Ab,hnl,Ae]
  ·rw[Ag (by omega)];rfl
theorem tS{d:List Jt}{nm:zU}{r:Int×List zI}(h:R5 d)(hd:d.length < lim)(hn:nm.length<=lim)(hr:Lj r.2):Lu d nm r=some (setB d nm r):=by
 unfold Lu
 simp only[w7 h,Ab]
 cases hv:SV d with
 |false=>simp only[CJ,Ad,ZJ h,setB,hv,Hq]
 |true=>
  have hS:=ik (nm:=nm) (r:=r) h hd hn hr
  have hle:E3 d nm<=d.length:=by
   unfold E3;exact(List.takeWhile_prefix _).length_le
  simp only[An,Ae,ZJ h,xc h.1,kY hr]
  have hfin:∀x,x=PK d nm r->GQ d x=some (setB d nm r):=by
   intro x hx
   subst hx
   simp only[GQ,w7 hS,Ab,ZJ h,setB,hv]
   cases SV (PK d nm r)<;>rfl
  have hne:∀b,b=(It d (E3 d nm) λt=>t.1==nm)->GP d nm d (E3 d nm:Nat) r b=some (setB d nm r):=by
   intro b hb
   unfold GP
   cases b with
   |true=>
    have hlt:E3 d nm < d.length:=by
     rcases A9 (E3 d nm) d.length with h1|h1
     ·exact h1
     ·unfold It at hb;rw[A2 h1]at hb;cases hb
    simp only[Ad]
    rw[AX (by omega),Bd hlt]
    simp only[Ab]
    refine hfin _ ?_
    rw[QD hv]
    unfold cz DJ
    rw[<-hb,AL];rfl
   |false=>
    have hE:(BW 0 d).length=d.length:=Qo 0 d
    simp only[Ae,Bl]
    have t1:Ef (BW 0 d) 0 (E3 d nm:Nat)=(BW 0 d).take (E3 d nm):=by simp[Ef]
    have t2:Ef (BW 0 d) (E3 d nm:Nat) (((BW 0 d).length:Nat):Int)=(BW 0 d).drop (E3 d nm):=by simp[Ef]
    obtain⟨ok,gm⟩:=pZ d (E3 d nm) [(nm,r)]
    have hlt:(List.take (E3 d nm) (BW 0 d)).length=E3 d nm:=by rw[AJ,hE];omega
    have hld:(List.drop (E3 d nm) (BW 0 d)).length=d.length - E3 d nm:=by rw[Bt,hE]
    rw[t1,t2,hE]
    rw[AX (by omega),AX (by rw[hlt,Cg];have:=h.1;omega),AX (by rw[<-bQ,<-lB,hlt,Ay];omega),AX (by omega),
     AX (by rw[Aw,<-bQ,<-bQ,<-lB,hlt,hld,Ay];omega),AX ok,gm]
    refine hfin _ ?_
    rw[QD hv]
    unfold cz
    rw[<-hb];rfl
  rcases A9 (E3 d nm) d.length with hlt|hge
  ·rw[Br hlt,Bd hlt]
   simp only[Ad]
   exact hne _ (by rw[Cu hlt])
  ·rw[Ag (by omega)]
   exact hne false (by unfold It;rw[A2 hge])
theorem ij{d:List Jt}{nm:zU}{r:Int×List zI}(h:(setB d nm r).2=true):SV d=true∧SV (setB d nm r).1=true∧(setB d nm r).1=PK d nm r:=by
 unfold setB at *
 cases h1:SV d with
 |false=>simp[h1]at h
 |true=>
  cases h2:SV (PK d nm r)with
  |false=>simp[h1,h2]at h
  |true=>simp[h1,h2]
theorem va{b:Nat}(hb:1<=b):∀{k e:Nat},k<=e->b ^ k<=b ^ e:=λh=>Cr hb h
theorem mB{b k:Nat}(hb:b<=10)(hk:b ^ k<=100):b ^ (k+1)<=1000:=by
 rw[CQ]
 exact BD (BC hk hb) (by omega)
theorem qL{b e:Nat}(hb:1<=b∧b<=10)(he:e<=6):Oj (b:Int) (e:Int)=some (if 100 < b ^ e then -1 else((b ^ e:Nat):Int)):=by
 have key:∀d k,k+d=e->b ^ k<=100->∀m,d < m->∃o,Au (FF (b:Int) (e:Int)) m (((b ^ k:Nat):Int),(k:Int))=some o∧((o=.inl ((b ^ e:Nat):Int)∧¬100 < b ^ e)∨(o=.inr (-1)∧100 < b ^ e)):=by
  intro d
  induction d with
  |zero=>
   intro k hk h1 m hm
   cases m with
   |zero=>omega
   |succ m=>
    have:k=e:=by omega
    subst this
    refine⟨_,?_,.inl ⟨rfl,by omega⟩⟩
    show FF _ _ _ (_,_)=_
    unfold FF
    simp only
    rw[Bm];rfl
  |succ d ih=>
   intro k hk h1 m hm
   cases m with
   |zero=>omega
   |succ m=>
    have hlt:k < e:=by omega
    have hs:=mB hb.2 h1
    have hw:wZ (((b ^ k:Nat):Int) * (b:Int))=((b ^ (k+1):Nat):Int):=by
     have e1:((b ^ k:Nat):Int) * (b:Int)=((b ^ (k+1):Nat):Int):=by rw[CQ,KC]
     rw[e1,wrap_in (by omega)]
    have hst:Au (FF (b:Int) (e:Int)) (m+1) (((b ^ k:Nat):Int),(k:Int))=cond (decide ((100:Int) < ((b ^ (k+1):Nat):Int))) (some (.inr (-1))) (Au (FF (b:Int) (e:Int)) m (((b ^ (k+1):Nat):Int),((k+1:Nat):Int))):=by
     show FF _ _ _ (_,_)=_
     unfold FF
     simp only
     rw[Br hlt,hw,wrap_in (by omega)]
     rfl
    rw[hst]
    by_cases hq:100 < b ^ (k+1)
    ·rw[Ai (by omega:(100:Int) < ((b ^ (k+1):Nat):Int))]
     exact⟨_,rfl,.inr ⟨rfl,Bo hq (va hb.1 (by omega))⟩⟩
    ·rw[Ag (by omega:¬(100:Int) < ((b ^ (k+1):Nat):Int))]
     exact ih (k+1) (by omega) (by omega) m (by omega)
 unfold Oj
 obtain⟨o,e1,p⟩:=key e 0 (by omega) (by simp) fz (by unfold fz;omega)
 have e2:Au (FF (b:Int) (e:Int)) fz (1,0)=some o:=by simpa using e1
 rw[e2]
 rcases p with⟨rfl,h⟩|⟨rfl,h⟩
 ·rw[At h];rfl
 ·rw[Av h];rfl
theorem pj{b e:Nat}(hb:1<=b∧b<=10)(he:e<=6):Au (Ja (b:Int) (e:Int)) fz (1,0)=some ((b ^ e:Nat):Int):=by
 have:=GA (body:=Ja (b:Int) (e:Int)) (out:=((b ^ e:Nat):Int)) (λk=>(((b ^ k:Nat):Int),(k:Int))) e (λk hk rec=>by
  have h6:b ^ (k+1)<=10 ^ 6:=BD (HN hb.2 _) (Cr (by omega) (by omega))
  have e1:((b ^ k:Nat):Int) * (b:Int)=((b ^ (k+1):Nat):Int):=by rw[CQ,KC]
  unfold Ja
  simp only
  rw[Br hk,e1,wrap_in (by omega),wrap_in (by omega)]
  rfl) (λrec=>by unfold Ja;simp only;rw[Bm];rfl) fz (by unfold fz;omega)
 simpa using this
theorem TV{S R:Type}{B:(S×Int->Option (Sum S R))->S×Int->Option (Sum S R)}{n:Nat}(s:Nat->S)(bad:Nat->Bool)(r0:R)(hn:n<=lim)(h1:∀k,k < n->(∀j,j < k->bad j=false)->∀rec,B rec (s k,(k:Int))=cond (bad k) (some (.inr r0)) (rec (s (k+1),((k+1:Nat):Int))))(h2:∀rec,B rec (s n,(n:Int))=some (.inl (s n))):
  Au B fz (s 0,0)=some (cond ((List.range n).any bad) (.inr r0) (.inl (s n))):=by
 have key:∀d k,k+d=n->(∀j,j < k->bad j=false)->∀m,d < m->Au B m (s k,(k:Int))=some (cond ((List.range n).any bad) (.inr r0) (.inl (s n))):=by
  intro d
  induction d with
  |zero=>
   intro k hk hb m hm
   cases m with
   |zero=>omega
   |succ m=>
    have hkn:k=n:=by omega
    have:(List.range n).any bad=false:=by
     rw[Bx]
     intro x hx
     rw[hb x (by have:=Ao.1 hx;omega)];simp
    show B (Au B m) (s k,(k:Int))=_
    rw[hkn,h2,this];rfl
  |succ d ih=>
   intro k hk hb m hm
   cases m with
   |zero=>omega
   |succ m=>
    show B (Au B m) (s k,(k:Int))=_
    rw[h1 k (by omega) hb]
    cases hbk:bad k with
    |true=>
     have:(List.range n).any bad=true:=by rw[Bi];exact⟨k,Ao.2 (by omega),hbk⟩
     rw[this];rfl
    |false=>
     exact ih (k+1) (by omega) (λj hj=>by
      rcases A9 j k with h|h
      ·exact hb j h
      ·rw[show j=k by omega];exact hbk) m (by omega)
 have:=key n 0 (by omega) (λj hj=>absurd hj (by omega)) fz (Ho hn)
 simpa using this
def pw(b e:Int):Int:=((b.toNat ^ e.toNat:Nat):Int)
theorem zB(b e:Int):0<=pw b e:=by unfold pw;omega
theorem Aa5{b e:Int}(hb:FI b 1 10=true)(he:FI e 0 6=true):Oj b e=some (if 100 < pw b e then -1 else pw b e):=by
 unfold FI at hb he
 simp only[Aa,AN]at hb he
 have:=qL (b:=b.toNat) (e:=e.toNat) (by omega) (by omega)
 rw[DP (by omega),DP (by omega)]at this
 rw[this]
 unfold pw
 by_cases h:100 < b.toNat ^ e.toNat
 ·rw[Av h,Av (by omega)]
 ·rw[At h,At (by omega)]
theorem AaJ{b e:Int}(hb:FI b 1 10=true)(he:FI e 0 6=true):Au (Ja b e) fz (1,0)=some (pw b e):=by
 unfold FI at hb he
 simp only[Aa,AN]at hb he
 have:=pj (b:=b.toNat) (e:=e.toNat) (by omega) (by omega)
 rw[DP (by omega),DP (by omega)]at this
 exact this
def Pm(_:Nat)(e:Int):Bool:= !FI e 0 6
def My(b:Int)(_:Nat)(e:Int):Bool:=decide (100 < pw b e)
def Hd(q:NQ)(nums:zI)(b:Int):Bool:= !B9 nums Pm&&(II q&&(((nums.length:Int)==q.1)&&FI b 1 10))
theorem Aa4{q:NQ}(h:US q){nums:zI}(hn:nums.length<=lim)(b:Int):Rf q nums b=some (Hd q nums b):=by
 unfold Rf Ml Hd B9
 rw[E5 (λk=>It nums k (Pm k)) hn (λk hk rec=>by
  unfold Qd
  rw[Br hk,Bd hk,BG hk (Bq hn),Cu hk]
  simp only[Ad,Ab,L7,Pm]) (λrec=>by unfold Qd;rw[Bm];rfl)]
 simp only[Wk h,L7,Ab]
 cases(List.range nums.length).any λk=>It nums k (Pm k)<;>cases II q<;>cases((nums.length:Int)==q.1)<;>rfl
theorem bG{q:NQ}(h:US q){nums:zI}(hn:nums.length<=lim)(b:Int):N7 q nums b=some (cond (Hd q nums b&& !B9 nums (My b)) (nums.map (pw b),true) ([],false)):=by
 unfold N7 Hd
 simp only[Wc h,FN,Ab,bne]
 cases II q with
 |false=>simp
 |true=>
  cases((nums.length:Int)==q.1)with
  |false=>simp
  |true=>
   cases hb:FI b 1 10 with
   |false=>simp
   |true=>
    simp only[An,Ae,CC]
    have hl:=TV (B:=KY nums b) (n:=nums.length) (λk=>(nums.take k).map (pw b)) (λk=>It nums k λe=>Pm k e || My b k e) (([],false):zI×Bool) hn (λk hk _ rec=>by
     unfold KY
     simp only
     rw[Br hk,Bd hk,BG hk (Bq hn),Cu hk]
     simp only[Ad,Ab,FN,Pm,My]
     cases he:FI nums[k] 0 6 with
     |false=>rfl
     |true=>
      simp only[An,Ae,BZ]
      rw[AaJ hb he]
      simp only
      rw[AX (by simp only[Ak,AJ,Ay];unfold lim at *;omega),A5 hk,B7]
      rfl) (λrec=>by unfold KY;simp only;rw[Bm];rfl)
    have hl':Au (KY nums b) fz ([],0)=_:=hl
    have eo:((List.range nums.length).any λk=>It nums k λe=>Pm k e || My b k e)=(B9 nums Pm || B9 nums (My b)):=s6 nums Pm (My b)
    rw[hl',eo,BT]
    cases B9 nums Pm<;>cases B9 nums (My b)<;>rfl
def Oc(l:zI)(k:Nat):Int:=(l.take k).foldl (λa e=>a * e) 1
theorem gX{l:zI}{k:Nat}(hk:k < l.length):Oc l (k+1)=Oc l k * l[k]:=by
 unfold Oc;rw[A5 hk,Ek];rfl
def PU(l:zI)(k:Nat):Bool:=decide (4000 < Oc l (k+1))
theorem qo{l:zI}(h:∀e∈l,0<=e∧e<=100){k:Nat}(hk:k < l.length)(hb:∀j,j < k->PU l j=false):0<=Oc l k∧Oc l k<=4000∧0<=Oc l k * l[k]∧Oc l k * l[k]<=400000:=by
 have h0:∀j,j<=k->0<=Oc l j:=by
  intro j
  induction j with
  |zero=>intro _;simp[Oc]
  |succ j ih=>intro hj;rw[gX (by omega)];exact Ff (ih (by omega)) (h _ (Aj (by omega))).1
 have h1:Oc l k<=4000:=by
  cases k with
  |zero=>simp[Oc]
  |succ k=>have:=hb k (by omega);unfold PU at this;simpa using this
 have h2:=h _ (Aj hk)
 refine⟨h0 k (by omega),h1,Ff (h0 k (by omega)) h2.1,?_⟩
 calc Oc l k * l[k]<=4000 * l[k]:=Fz h1 h2.1
  _<=4000 * 100:=by omega
  _=400000:=by omega
def au(q:NQ)(nums:zI)(b:Int):Int×Bool:=cond (Hd q nums b&& !B9 nums (My b)) (cond ((List.range nums.length).any (PU (nums.map (pw b)))) (0,false) (Oc (nums.map (pw b)) nums.length,true)) (0,false)
theorem pk{q:NQ}(h:US q){nums:zI}(hn:nums.length<=lim)(b:Int):JD q nums b=some (au q nums b):=by
 unfold JD au
 simp only[bG h hn,Ab]
 cases hc:(Hd q nums b&& !B9 nums (My b))with
 |false=>
  simp only[Ae]
  have:Au (En (([],false):zI×Bool)) fz (1,0)=some (.inl 1):=by
   refine GA (body:=En (([],false):zI×Bool)) (λ_=>((1:Int),(0:Int))) 0 (λk hk=>absurd hk (by omega)) (λrec=>rfl) fz (by unfold fz;omega)
  rw[this];rfl
 |true=>
  simp only[Ad]
  simp only[Aa,Ax]at hc
  have hin:∀e∈nums.map (pw b),0<=e∧e<=100:=by
   intro e he
   obtain⟨x,hx,rfl⟩:=A3.1 he
   obtain⟨k,hk,rfl⟩:=Bf.1 hx
   have:=IZ hc.2 hk
   unfold My at this
   exact⟨zB _ _,by simpa using this⟩
  have hl:=TV (B:=En ((nums.map (pw b),true):zI×Bool)) (n:=nums.length) (λk=>Oc (nums.map (pw b)) k) (PU (nums.map (pw b))) (((0:Int),false):Int×Bool) hn (λk hk hb rec=>by
   have hk':k < (nums.map (pw b)).length:=by simpa using hk
   have hp:=qo hin hk' hb
   unfold En
   simp only
   rw[Br hk',Bd hk',BG hk' (by rw[Ak];exact Bq hn)]
   simp only[Ad,Ab,PU]
   rw[wrap_in (by omega),gX hk']) (λrec=>by unfold En;simp only;rw[Ag (by simp)];rfl)
  have hl':Au (En ((nums.map (pw b),true):zI×Bool)) fz (1,0)=_:=hl
  rw[hl']
  cases(List.range nums.length).any (PU (nums.map (pw b)))<;>rfl
def Xs(c:Int)(r:zI):List zI:=(List.range c.toNat).map λ(v:Nat)=>r++[(v:Int)]
def WP(rows:List zI)(c:Int):List zI:=rows.flatMap (Xs c)
def HB(cs:zI)(k:Nat):List zI:=(cs.take k).foldl WP [[]]
theorem SM{cs:zI}{k:Nat}(hk:k < cs.length):HB cs (k+1)=WP (HB cs k) cs[k]:=by
 unfold HB;rw[A5 hk,Ek];rfl
theorem mV(c:Int)(r:zI):(Xs c r).length=c.toNat:=by simp[Xs]
theorem Ub(rows:List zI)(c:Int):(WP rows c).length=rows.length * c.toNat:=by
 unfold WP
 induction rows with
 |nil=>simp
 |cons r rows ih=>rw[AH,Aw,ih,mV,AQ,C4,Dn,Hw]
theorem SL(cs:zI):∀k,k<=cs.length->∀r∈HB cs k,r.length=k
 |0,_,r,h=>by simp[HB]at h;subst h;rfl
 |k+1,hk,r,h=>by
  rw[SM (by omega)]at h
  obtain⟨q,hq,h⟩:=Cj.1 h
  obtain⟨v,_,rfl⟩:=A3.1 h
  rw[Aw,SL cs k (by omega) q hq];rfl
def N0(cs:zI)(k:Nat):Bool:=It cs k λc=> !FI c 0 100 || decide (4000 < ((HB cs k).length:Int) * c)
def J0(cs:zI):(Int×List zI)×Bool:=cond (decide ((5:Int) < (cs.length:Int)) || (List.range cs.length).any (N0 cs)) ((0,[]),false) (((cs.length:Int),HB cs cs.length),true)
theorem ZA{cs:zI}{k:Nat}(hk:k < cs.length)(h:N0 cs k=false):0<=cs[k]∧cs[k]<=100∧((HB cs k).length:Int) * cs[k]<=4000:=by
 unfold N0 at h
 rw[Cu hk,BF]at h
 have h1:=h.1
 simp only[FI,Cx,Aa,AN]at h1
 have h2:=EB h.2
 exact⟨h1.1,h1.2,by omega⟩
theorem SJ{cs:zI}{k:Nat}(hk:k<=cs.length)(hb:∀j,j < k->N0 cs j=false):(HB cs k).length<=4000:=by
 cases k with
 |zero=>simp[HB]
 |succ k=>
  obtain⟨h1,h2,h3⟩:=ZA (by omega) (hb k (by omega))
  rw[SM (by omega),Ub]
  have:(((HB cs k).length * cs[k].toNat:Nat):Int)=((HB cs k).length:Int) * cs[k]:=by rw[KC,DP h1]
  omega
section
variable {c:Int}{rows:List zI}
theorem vv{a0:zI}{y10:Int}{k:Nat}(hc:AZ a0 y10=some c)(h0:0<=c)(h1:c<=100)(hk:k < rows.length)(hr:rows[k].length<=1000){y:List zI}(hy:y.length<=1000000):Au (Gm a0 rows y10 (k:Int)) fz (y,0)=some (y++Xs c rows[k]):=by
 have hcn:((c.toNat:Nat):Int)=c:=DP h0
 have:=GA (body:=Gm a0 rows y10 (k:Int)) (out:=y++Xs c rows[k]) (λv=>(y++(List.range v).map (λ(v:Nat)=>rows[k]++[(v:Int)]),(v:Int))) c.toNat (λv hv rec=>by
  simp only[Gm,hc,Ab]
  rw[Ai (by omega),Bd hk]
  simp only[Ad,Ab,Bl]
  rw[AX (by unfold lim;simp;omega),AX (by unfold lim;simp;omega),AX (by unfold lim;simp;omega),EP,B7,wrap_in (by omega)]
  simp) (λrec=>by
  simp only[Gm,hc,Ab]
  rw[Ag (by omega)];rfl) fz (by unfold fz;omega)
 simpa using this
theorem zL{a0:zI}{y10:Int}(hc:AZ a0 y10=some c)(h0:0<=c)(h1:c<=100)(hl:rows.length<=4000)(hr:∀r∈rows,r.length<=1000):Au (Gl a0 rows y10) fz ([],0)=some (WP rows c):=by
 have:=GA (body:=Gl a0 rows y10) (out:=WP rows c) (λk=>((rows.take k).flatMap (Xs c),(k:Int))) rows.length (λk hk rec=>by
  have hlen:((rows.take k).flatMap (Xs c)).length<=1000000:=by
   have:=Ub (rows.take k) c
   unfold WP at this
   rw[this,AJ,Cq (by omega)]
   have:k * c.toNat<=4000 * 100:=BC (by omega) (by omega)
   omega
  simp only[Gl]
  rw[Br hk,vv hc h0 h1 hk (hr _ (Aj hk)) hlen]
  simp only[Ad,Ab]
  rw[A5 hk,DQ,wrap_in (by omega)]
  simp) (λrec=>by
  simp only[Gl,BT]
  rw[Bm];rfl) fz (by unfold fz;omega)
 simpa using this
theorem vq{cs:zI}(h:cs.length<=lim):KI cs=some (J0 cs):=by
 unfold KI
 have hl:=TV (B:=Gk cs) (n:=cs.length) (λk=>HB cs k) (λk=>decide ((5:Int) < (cs.length:Int)) || N0 cs k) (((0,[]),false):(Int×List zI)×Bool) h (λk hk hb rec=>by
  simp only[Gk]
  rw[Br hk,Bd hk]
  simp only[Ad,Ab,L7]
  by_cases h5:(5:Int) < (cs.length:Int)
  ·rw[Ai h5]
   simp only[Hq,Ad]
   cases FI cs[k] 0 100<;>rfl
  ·rw[Ag h5]
   simp only[BZ,Ae]
   have hb':∀j,j < k->N0 cs j=false:=λj hj=>by
    have:=hb j hj
    rw[BF]at this
    exact this.2
   have hfew:=SJ (Eg hk) hb'
   unfold N0
   rw[Cu hk]
   cases hbt:FI cs[k] 0 100 with
   |false=>rfl
   |true=>
    simp only[An,Ae,BZ]
    have hbt':0<=cs[k]∧cs[k]<=100:=by simpa[FI]using hbt
    have hm1:0<=((HB cs k).length:Int) * cs[k]:=Ff (by omega) hbt'.1
    have hm2:((HB cs k).length:Int) * cs[k]<=4000 * 100:=Int.mul_le_mul (by omega) hbt'.2 hbt'.1 (by omega)
    rw[wrap_in (by omega)]
    cases hd:decide (4000 < ((HB cs k).length:Int) * cs[k])with
    |true=>rfl
    |false=>
     simp only[Ae]
     rw[zL (Bd hk) hbt'.1 hbt'.2 hfew (λr hr=>by rw[SL cs k (by omega) r hr];omega)]
     simp only
     rw[SM hk,wrap_in (by omega)]
     simp) (λrec=>by simp only[Gk];rw[Bm];rfl)
 have hl':Au (Gk cs) fz ([[]],0)=_:=hl
 rw[hl']
 unfold J0
 have e:((List.range cs.length).any λk=>decide ((5:Int) < (cs.length:Int)) || N0 cs k)=(decide ((5:Int) < (cs.length:Int)) || (List.range cs.length).any (N0 cs)):=by
  by_cases h5:(5:Int) < (cs.length:Int)
  ·rw[Ai h5,Hq,Bi]
   exact⟨0,Ao.2 (by omega),by rw[Hq]⟩
  ·rw[Ag h5];simp
 rw[e]
 cases(decide ((5:Int) < (cs.length:Int)) || (List.range cs.length).any (N0 cs))<;>rfl
theorem tQ{r:zI}(h0:0<=c)(h1:c<=100)(hr:r.length<=1000){y:List zI}(hy:y.length<=1000000):Au (Gb c r) fz (y,0)=some (y++Xs c r):=by
 have hcn:((c.toNat:Nat):Int)=c:=DP h0
 have:=GA (body:=Gb c r) (out:=y++Xs c r) (λv=>(y++(List.range v).map (λ(v:Nat)=>r++[(v:Int)]),(v:Int))) c.toNat (λv hv rec=>by
  simp only[Gb]
  rw[Ai (by omega),fX (by unfold lim;omega)]
  simp only[Ad,Ab]
  rw[AX (by unfold lim;simp;omega),AX (by unfold lim;simp;omega),EP,B7,wrap_in (by omega)]
  simp) (λrec=>by
  simp only[Gb]
  rw[Ag (by omega)];rfl) fz (by unfold fz;omega)
 simpa using this
theorem xb(h0:0<=c)(h1:c<=100)(hl:rows.length<=4000)(hr:∀r∈rows,r.length<=1000):Au (Ga rows c) fz ([],0)=some (WP rows c):=by
 have:=GA (body:=Ga rows c) (out:=WP rows c) (λk=>((rows.take k).flatMap (Xs c),(k:Int))) rows.length (λk hk rec=>by
  have hlen:((rows.take k).flatMap (Xs c)).length<=1000000:=by
   have:=Ub (rows.take k) c
   unfold WP at this
   rw[this,AJ,Cq (by omega)]
   have:k * c.toNat<=4000 * 100:=BC (by omega) (by omega)
   omega
  simp only[Ga]
  rw[Br hk,Bd hk]
  simp only[Ad,Ab]
  rw[tQ h0 h1 (hr _ (Aj hk)) hlen]
  simp only
  rw[A5 hk,DQ,wrap_in (by omega)]
  simp) (λrec=>by
  simp only[Ga,BT]
  rw[Bm];rfl) fz (by unfold fz;omega)
 simpa using this
theorem tM{cs:zI}(h:cs.length<=lim):Kw cs=some (J0 cs):=by
 unfold Kw J0
 by_cases h5:(5:Int) < (cs.length:Int)
 ·rw[Ai h5];rfl
 ·rw[Ag h5]
  simp only[Ae,BZ]
  have step:∀k (hk:k < cs.length),(∀j,j < k->N0 cs j=false)->∀rec,DC cs rec (((HB cs k).length:Int),(k:Int))=cond (N0 cs k) (some (.inr ((0,[]),false))) (rec (((HB cs (k+1)).length:Int),((k+1:Nat):Int))):=by
   intro k hk hb rec
   have hfew:=SJ (Eg hk) hb
   simp only[DC]
   rw[Br hk,Bd hk]
   simp only[Ad,Ab,FN]
   unfold N0
   rw[Cu hk]
   cases hbt:FI cs[k] 0 100 with
   |false=>rfl
   |true=>
    simp only[An,Ae,BZ]
    have hbt':0<=cs[k]∧cs[k]<=100:=by simpa[FI]using hbt
    have hm1:0<=((HB cs k).length:Int) * cs[k]:=Ff (by omega) hbt'.1
    have hm2:((HB cs k).length:Int) * cs[k]<=4000 * 100:=Int.mul_le_mul (by omega) hbt'.2 hbt'.1 (by omega)
    rw[wrap_in (by omega),SM hk,Ub,KC,DP hbt'.1,BG hk (Bq h)]
  have hl:Au (DC cs) fz (1,0)=some (cond ((List.range cs.length).any (N0 cs)) (.inr ((0,[]),false)) (.inl ())):=by
   have key:∀d k,k+d=cs.length->(∀j,j < k->N0 cs j=false)->∀m,d < m->Au (DC cs) m (((HB cs k).length:Int),(k:Int))=some (cond ((List.range cs.length).any (N0 cs)) (.inr ((0,[]),false)) (.inl ())):=by
    intro d
    induction d with
    |zero=>
     intro k hk hb m hm
     cases m with
     |zero=>omega
     |succ m=>
      have hkn:k=cs.length:=by omega
      have:(List.range cs.length).any (N0 cs)=false:=by
       rw[Bx]
       intro x hx
       rw[hb x (by have:=Ao.1 hx;omega)];simp
      subst hkn
      show DC cs _ _=_
      simp only[DC]
      rw[Bm,this];rfl
    |succ d ih=>
     intro k hk hb m hm
     cases m with
     |zero=>omega
     |succ m=>
      show DC cs (Au (DC cs) m) _=_
      rw[step k (by omega) hb]
      cases hbk:N0 cs k with
      |true=>
       have:(List.range cs.length).any (N0 cs)=true:=by rw[Bi];exact⟨k,Ao.2 (by omega),hbk⟩
       rw[this];rfl
      |false=>
       exact ih (k+1) (by omega) (λj hj=>by
        rcases A9 j k with h|h
        ·exact hb j h
        ·rw[show j=k by omega];exact hbk) m (by omega)
   have:=key cs.length 0 (by omega) (λj hj=>absurd hj (by omega)) fz (Ho h)
   simpa[HB]using this
  rw[hl]
  cases hany:(List.range cs.length).any (N0 cs)with
  |true=>rfl
  |false=>
   simp only[Ae,Ab]
   have hb:∀j,j < cs.length->N0 cs j=false:=λj hj=>by
    have:=Bx.1 hany j (Ao.2 hj)
    simpa using this
   have h2:=GA (body:=F9 cs) (out:=HB cs cs.length) (λk=>(HB cs k,(k:Int))) cs.length (λk hk rec=>by
    obtain⟨b1,b2,b3⟩:=ZA hk (hb k hk)
    simp only[F9]
    rw[Br hk,Bd hk]
    simp only[Ad,Ab]
    rw[xb b1 b2 (SJ (Eg hk) (λj hj=>hb j (by omega))) (λr hr=>by rw[SL cs k (by omega) r hr];omega)]
    simp only
    rw[SM hk,BG hk (Bq h)]) (λrec=>by simp only[F9];rw[Bm];rfl) fz (Ho h)
   have h2':Au (F9 cs) fz ([[]],0)=some (HB cs cs.length):=by simpa[HB]using h2
   rw[h2']
end
theorem fP(cs:zI):Lj (J0 cs).1.2∧((J0 cs).2=true->cs.length<=5):=by
 unfold J0
 cases h:decide ((5:Int) < (cs.length:Int)) || (List.range cs.length).any (N0 cs)with
 |true=>exact⟨⟨by simp[lim],λr hr=>by cases hr⟩,λh=>by cases h⟩
 |false=>
  rw[BF]at h
  have h5:=EB h.1
  have hb:∀j,j < cs.length->N0 cs j=false:=λj hj=>by
   have:=Bx.1 h.2 j (Ao.2 hj)
   simpa using this
  have h1:=SJ (AT _) hb
  exact⟨⟨by show(HB cs cs.length).length<=lim;unfold lim;omega,λr hr=>by rw[SL cs _ (AT _) r hr];unfold lim;omega⟩,λ_=>by omega⟩
theorem put_any{d:List Jt}{nm:zU}{r:Int×List zI}(h:SV d=true)(x:zU):(PK d nm r).any (λt=>t.1==x)=(d.any (λt=>t.1==x) || (nm==x)):=by
 have hn:(nm,r)∈PK d nm r:=by
  rw[QD h]
  unfold cz
  cases hc:It d (E3 d nm) λt=>t.1==nm with
  |false=>simp
  |true=>
   have hlt:E3 d nm < d.length:=by
    rcases A9 (E3 d nm) d.length with h1|h1
    ·exact h1
    ·unfold It at hc;rw[A2 h1]at hc;cases hc
   exact Bf.2 ⟨E3 d nm,by simpa using hlt,by simp⟩
 have ho:∀t∈d,∃t'∈PK d nm r,t'.1=t.1:=by
  intro t ht
  rw[QD h]at hn⊢
  unfold cz at hn⊢
  cases hc:It d (E3 d nm) λt=>t.1==nm with
  |false=>
   rw[<-C8 (E3 d nm) d]at ht
   refine⟨t,?_,rfl⟩
   simp only[Ae,Al,AP]
   rcases Al.1 ht with ht|ht
   ·exact .inl (.inl ht)
   ·exact .inr ht
  |true=>
   rw[hc]at hn
   obtain⟨j,hj,rfl⟩:=Bf.1 ht
   by_cases e:j=E3 d nm
   ·subst e
    rw[Cu hj]at hc
    exact⟨_,hn,(Dv hc).symm⟩
   ·refine⟨d[j],Bf.2 ⟨j,by simpa using hj,?_⟩,rfl⟩
    simp only[Ad]
    rw[List.getElem_set_ne (Ne.symm e)]
 rw[B5,BP,Bi,Bi]
 constructor
 ·rintro⟨t,ht,e⟩
  rcases cQ t ht with h1|rfl
  ·exact .inl ⟨t,h1,e⟩
  ·exact .inr e
 ·rintro(⟨t,ht,e⟩|e)
  ·obtain⟨t',h1,h2⟩:=ho t ht
   exact⟨t',h1,by rw[h2];exact e⟩
  ·exact⟨_,hn,e⟩
theorem bV{d:List Jt}(h:SV d=true)(x:zU):(Fe d x).2=d.any λt=>t.1==x:=by
 unfold Fe
 rw[Av h]
 cases hf:d.find? (λt=>t.1==x)with
 |none=>
  have:=List.find?_eq_none.1 hf
  symm
  rw[Bx]
  exact this
 |some t=>
  symm
  rw[Bi]
  exact⟨t,G6 hf,List.find?_some (p:=λt:Jt=>t.1==x) hf⟩
theorem dw{d:List Jt}(h:SV d=true):d.length<=6∧∀t∈d,t.1.length<=4∧t.2.2.length<=4000∧∀r∈t.2.2,r.length<=5:=by
 simp only[SV,Aa,AN,Ax]at h
 refine⟨by omega,λt ht=>?_⟩
 obtain⟨k,hk,rfl⟩:=Bf.1 ht
 have hb:=IZ h.2 hk
 simp only[Qh,BF,Cx]at hb
 obtain⟨⟨⟨⟨h1,_⟩,h3⟩,_⟩,_⟩:=hb
 refine⟨?_,?_,?_⟩
 ·simp only[nmB,Aa,FI,AN]at h1
  omega
 ·simp only[PJ,Aa,Ax,CI]at h3
  omega
 ·simp only[PJ,Aa,Ax,FI,AN]at h3
  intro r hr
  obtain⟨j,hj,rfl⟩:=Bf.1 hr
  have h5:=IZ h3.2.2 hj
  simp only[Pq,BF,Eo]at h5
  omega
theorem Zv{d:List Jt}(h:SV d=true):R5 d:=by
 obtain⟨h1,h2⟩:=dw h
 refine⟨by unfold lim;omega,λt ht=>?_⟩
 obtain⟨h3,h4,h5⟩:=h2 t ht
 exact⟨by unfold lim;omega,by unfold lim;omega,λr hr=>by have:=h5 r hr;unfold lim;omega⟩
def pvT(nums:zI)(b v:Int):Int:=if 100 < pw b (HQ nums v)then -1 else pw b (HQ nums v)
def cnt(nums:zI)(b:Int)(a:PG):zI:=a.2.map (pvT nums b)
def qq(nums:zI)(b:Int)(d:List Jt)(a:PG):List Jt:=(setB d a.1 (J0 (cnt nums b a)).1).1
def dbK(l:List PG)(nums:zI)(b:Int)(k:Nat):List Jt:=(l.take k).foldl (qq nums b) []
theorem fA{l:List PG}{nums:zI}{b:Int}{k:Nat}(hk:k < l.length):dbK l nums b (k+1)=qq nums b (dbK l nums b k) l[k]:=by
 unfold dbK;rw[A5 hk,Ek];rfl
def Se(l:List PG)(nums:zI)(b:Int)(k:Nat):Bool:=It l k λa=> !(J0 (cnt nums b a)).2 || ((Fe (dbK l nums b k) a.1).2 || !(setB (dbK l nums b k) a.1 (J0 (cnt nums b a)).1).2)
def XP(q:NQ)(nums:zI)(b:Int):List Jt×Bool:=cond (Hd q nums b) (cond ((List.range q.2.1.length).any (Se q.2.1 nums b)) ([],false) (dbK q.2.1 nums b q.2.1.length,true)) ([],false)
section
variable {l:List PG}{nums:zI}{b:Int}
theorem WK(k:Nat)(hk:k<=l.length)(hb:∀j,j < k->Se l nums b j=false):SV (dbK l nums b k)=true∧∀x,(dbK l nums b k).any (λt=>t.1==x)=(l.take k).any λa=>a.1==x:=by
 induction k with
 |zero=>exact⟨rfl,λx=>rfl⟩
 |succ k ih=>
  obtain⟨i1,i2⟩:=ih (by omega) (λj hj=>hb j (by omega))
  have h1:=hb k (by omega)
  unfold Se at h1
  rw[Cu (by omega)]at h1
  simp only[BF,Cx]at h1
  obtain⟨e1,e2,e3⟩:=ij h1.2.2
  rw[fA (by omega)]
  refine⟨e2,λx=>?_⟩
  show(setB _ _ _).1.any _=_
  rw[e3,put_any i1,i2,A5 (by omega),List.any_append]
  simp
structure AtOk (nums:zI) (b:Int) (a:PG):Prop where
 len:a.2.length<=5
 nm:a.1.length<=lim
 vars:∀v∈a.2,0<=v∧v < nums.length∧FI (HQ nums v) 0 6=true
theorem zJ{q:NQ}{y4:Int}{a:PG}(ha:AZ q.2.1 y4=some a)(ho:AtOk nums b a)(hb:FI b 1 10=true):Au (FV q nums b y4) fz ([],0)=some (cnt nums b a):=by
 have:=GA (body:=FV q nums b y4) (out:=cnt nums b a) (λk=>((a.2.take k).map (pvT nums b),(k:Int))) a.2.length (λk hk rec=>by
  obtain⟨h1,h2,h3⟩:=ho.vars a.2[k] (Aj hk)
  have:=ho.len
  simp only[FV,ha,Ab]
  rw[Br hk]
  simp only[Ad,Bd hk,Uj ⟨h1,h2⟩]
  rw[Aa5 hb h3]
  simp only
  rw[AX (by unfold lim;simp;omega),A5 hk,B7,wrap_in (by omega)]
  simp[pvT]) (λrec=>by
  simp only[FV,ha,Ab,BT]
  rw[Bm];rfl) fz (by have:=ho.len;unfold fz;omega)
 simpa using this
theorem nG{q:NQ}(h:US q)(ht:Hd q nums b=true):FI b 1 10=true∧q.2.1.length<=4∧(∀a∈q.2.1,AtOk nums b a)∧∀k,k < nums.length->Hf q.2.1 (k:Int)=true:=by
 simp only[Hd,Aa,Bc,II,Ax]at ht
 obtain⟨t1,⟨t2,t3,t4,t5,t6⟩,t7,t8⟩:=ht
 have t2':1<=q.1∧q.1<=5:=by simpa[FI]using t2
 refine⟨t8,?_,λa ha=>?_,λk hk=>?_⟩
 ·simp only[FI,Aa,AN]at t3;omega
 ·obtain⟨k,hk,rfl⟩:=Bf.1 ha
  have h1:=IZ t5 hk
  simp only[Mn,BF,Cx]at h1
  obtain⟨_,h2,h3⟩:=h1
  simp only[FI,Aa,AN]at h2
  refine⟨by omega,(h.2.1 _ ha).1,λv hv=>?_⟩
  obtain⟨j,hj,rfl⟩:=Bf.1 hv
  have h4:=IZ h3 hj
  rw[wrap_in (by omega)]at h4
  simp only[FI,Cx,Aa,AN]at h4
  have h5:0<=q.2.1[k].2[j]∧q.2.1[k].2[j] < nums.length:=by omega
  refine⟨h5.1,h5.2,?_⟩
  have h6:HQ nums q.2.1[k].2[j]=nums[q.2.1[k].2[j].toNat]'(by omega):=by
   unfold HQ AZ
   rw[Av h5.1,Ac (by omega)];rfl
  have h7:=IZ t1 (k:=q.2.1[k].2[j].toNat) (by omega)
  rw[h6]
  simpa[Pm]using h7
 ·have:=Bx.1 t6 k (Ao.2 (by omega))
  simpa using this
theorem Aa6{q:NQ}(h:US q)(hn:nums.length<=lim):JT q nums b=some (XP q nums b):=by
 unfold JT XP
 rw[Aa4 h hn]
 simp only[Ab]
 cases ht:Hd q nums b with
 |false=>rfl
 |true=>
  obtain⟨hb,hl,ha,_⟩:=nG h ht
  simp only[An,Ae,Ad]
  have hL:=TV (B:=FU q nums b) (n:=q.2.1.length) (λk=>dbK q.2.1 nums b k) (Se q.2.1 nums b) (([],false):List Jt×Bool) (by unfold lim;omega) (λk hk hbad rec=>by
   obtain⟨i1,i2⟩:=WK k (Eg hk) hbad
   have hak:=ha _ (Aj hk)
   have hsm:=Zv i1
   have hfew:=(dw i1).1
   simp only[FU]
   rw[Br hk,zJ (Bd hk) hak hb]
   simp only[Ad,Ab]
   rw[vq (by unfold cnt;rw[Ak];have:=hak.len;unfold lim;omega)]
   simp only[Bd hk]
   rw[Z8 hsm]
   simp only
   rw[vz hsm (by unfold lim;omega) hak.nm (fP _).1]
   simp only
   rw[fA hk,wrap_in (by omega)]
   unfold Se
   rw[Cu hk]
   show cond (!(J0 (cnt nums b q.2.1[k])).2) _ _=_
   cases(J0 (cnt nums b q.2.1[k])).2<;>cases(Fe (dbK q.2.1 nums b k) q.2.1[k].1).2<;>cases(setB (dbK q.2.1 nums b k) q.2.1[k].1 (J0 (cnt nums b q.2.1[k])).1).2<;>first|rfl|(simp[qq])) (λrec=>by simp only[FU];rw[Bm];rfl)
  have hL':Au (FU q nums b) fz ([],0)=_:=hL
  rw[hL']
  cases(List.range q.2.1.length).any (Se q.2.1 nums b)<;>rfl
theorem w9{q:NQ}{k:Nat}(hk:k < q.2.1.length)(hl:q.2.1.length<=4)(a:PG):Au (FQ q (k:Int) a) fz 0=some (cond ((q.2.1.take k).any λx=>x.1==a.1) (.inr ([],false)) (.inl ())):=by
 have hs:Ef q.2.1 0 (k:Int)=q.2.1.take k:=XN _ _
 have hlen:(q.2.1.take k).length=k:=by rw[AJ];omega
 have h1:=aN (B:=FQ q (k:Int) a) (n:=(q.2.1.take k).length) (λj=>It (q.2.1.take k) j λx=>x.1==a.1) (([],false):List Jt×Bool) (by unfold lim;omega) (λj hj rec=>by
  unfold FQ
  rw[hs,Br hj,Bd hj,wrap_in (by omega),Cu hj]
  simp only[Ad,Ab]
  have e:(a.1==(q.2.1.take k)[j].1)=((q.2.1.take k)[j].1==a.1):=by rw[B5,Bc,Bc];exact eq_comm
  rw[e]
  cases((q.2.1.take k)[j].1==a.1)<;>simp) (λrec=>by unfold FQ;rw[hs,Bm];rfl)
 rw[h1]
 have e2:((List.range (q.2.1.take k).length).any λj=>It (q.2.1.take k) j λx=>x.1==a.1)=(q.2.1.take k).any λx=>x.1==a.1:=by
  rw[B5,Bi,Bi]
  constructor
  ·rintro⟨j,hj,e⟩
   have hj:=Ao.1 hj
   rw[Cu hj]at e
   exact⟨_,Aj hj,e⟩
  ·rintro⟨x,hx,e⟩
   obtain⟨j,hj,rfl⟩:=Bf.1 hx
   exact⟨j,Ao.2 hj,by rw[Cu hj];exact e⟩
 rw[e2]
theorem AaK{q:NQ}(h:US q)(hn:nums.length<=lim):JC q nums b=some (XP q nums b):=by
 unfold JC XP
 rw[bG h hn]
 simp only[Ab]
 cases ht:Hd q nums b with
 |false=>rfl
 |true=>
  obtain⟨hb,hl,ha,hu⟩:=nG h ht
  simp only[AD,Ad]
  cases hbig:B9 nums (My b)with
  |true=>
   have:(List.range q.2.1.length).any (Se q.2.1 nums b)=true:=by
    unfold B9 at hbig
    obtain⟨k,hk,he⟩:=Bi.1 hbig
    have hk:=Ao.1 hk
    rw[Cu hk]at he
    have huk:=hu k hk
    unfold Hf at huk
    obtain⟨a,hm,hc⟩:=Bi.1 huk
    obtain⟨i,hi,rfl⟩:=Bf.1 hm
    obtain⟨j,hj,hv⟩:=Bf.1 (AS.1 hc)
    rw[Bi]
    refine⟨i,Ao.2 hi,?_⟩
    have hcj:(cnt nums b q.2.1[i])[j]'(by unfold cnt;rw[Ak];exact hj)= -1:=by
     have h6:HQ nums (k:Int)=nums[k]:=by
      unfold HQ
      rw[Bd hk];rfl
     simp only[cnt,Be,hv,pvT,h6]
     have:(100:Int) < pw b nums[k]:=by simpa[My]using he
     rw[Av this]
    have hf:(J0 (cnt nums b q.2.1[i])).2=false:=by
     unfold J0
     have:(List.range (cnt nums b q.2.1[i]).length).any (N0 (cnt nums b q.2.1[i]))=true:=by
      rw[Bi]
      refine⟨j,Ao.2 (by unfold cnt;rw[Ak];exact hj),?_⟩
      unfold N0
      rw[Cu (by unfold cnt;rw[Ak];exact hj),hcj]
      rfl
     rw[this,Ng];rfl
    unfold Se
    rw[Cu hi,hf];rfl
   rw[this];rfl
  |false=>
   simp only[CJ,Ad,An,Ae]
   have hpick:∀a∈q.2.1,Qv (nums.map (pw b)) a.2=some (cnt nums b a):=by
    intro a ham
    have hak:=ha a ham
    rw[tO (by have:=hak.len;unfold lim;omega) (λc hc=>by rw[Ak];exact⟨(hak.vars c hc).1,(hak.vars c hc).2.1⟩)]
    congr 1
    unfold Le cnt
    apply Ca
    intro v hv
    obtain⟨h1,h2,h3⟩:=hak.vars v hv
    have e1:HQ (nums.map (pw b)) v=pw b (nums[v.toNat]'(by omega)):=by
     unfold HQ AZ
     rw[Av h1,Ac (by rw[Ak];omega)];simp
    have e2:HQ nums v=nums[v.toNat]'(by omega):=by
     unfold HQ AZ
     rw[Av h1,Ac (by omega)];rfl
    have h7:=IZ hbig (k:=v.toNat) (by omega)
    unfold My at h7
    unfold pvT
    rw[e1,e2,At (EB h7)]
   have hL:=TV (B:=FP q (nums.map (pw b),true)) (n:=q.2.1.length) (λk=>dbK q.2.1 nums b k) (Se q.2.1 nums b) (([],false):List Jt×Bool) (by unfold lim;omega) (λk hk hbad rec=>by
    obtain⟨i1,i2⟩:=WK k (Eg hk) hbad
    have hak:=ha _ (Aj hk)
    have hsm:=Zv i1
    have hfew:=(dw i1).1
    simp only[FP]
    rw[Br hk,Bd hk]
    simp only[Ad,Ab]
    rw[AX (by omega),w9 hk hl]
    rw[fA hk]
    unfold Se
    rw[Cu hk,bV i1,i2]
    cases hd:(q.2.1.take k).any λx=>x.1==q.2.1[k].1 with
    |true=>
     simp only[Ad,Ab]
     cases(J0 (cnt nums b q.2.1[k])).2<;>rfl
    |false=>
     simp only[Ae,Ab]
     rw[hpick _ (Aj hk)]
     simp only
     rw[tM (by unfold cnt;rw[Ak];have:=hak.len;unfold lim;omega)]
     simp only
     rw[tS hsm (by unfold lim;omega) hak.nm (fP _).1]
     simp only
     rw[wrap_in (by omega)]
     show cond (!(J0 (cnt nums b q.2.1[k])).2) _ _=_
     cases(J0 (cnt nums b q.2.1[k])).2<;>cases(setB (dbK q.2.1 nums b k) q.2.1[k].1 (J0 (cnt nums b q.2.1[k])).1).2<;>first|rfl|(simp[qq])) (λrec=>by simp only[FP];rw[Bm];rfl)
   have hL':Au (FP q (nums.map (pw b),true)) fz ([],0)=_:=hL
   rw[hL']
   cases(List.range q.2.1.length).any (Se q.2.1 nums b)<;>rfl
theorem zZ{q:NQ}(h:US q):SV (XP q nums b).1=true:=by
 unfold XP
 cases Hd q nums b with
 |false=>rfl
 |true=>
  simp only[Ad]
  cases hany:(List.range q.2.1.length).any (Se q.2.1 nums b)with
  |true=>rfl
  |false=>
   exact(WK _ (AT _) (λj hj=>by
    have:=Bx.1 hany j (Ao.2 hj)
    simpa using this)).1
end
end
end Go.Proofs.YthghcmmlmfgkbaaGreatDoor
