/-
 Sorted rows, each once: the reference and the program agree. On the printed functions; conditions: lengths.
-/
import Derived.Test.YtaagdgjndpgdgaaGreatDoorRtMC1
import Derived.Test.YtaagdgjndpgdgaaGreatDoorBcMC1
open Go.RowKit
set_option linter.unusedVariables false
set_option linter.unusedSimpArgs false
namespace Go.Proofs.YtaagdgjndpgdgaaGreatDoor
abbrev Row:=List Int
theorem Z4:∀a:Row,EH a a=0
 |[]=>rfl
 |x::a=>by rw[EH,AE (by omega),AE (by omega)];exact Z4 a
theorem T2:∀{a b:Row},EH a b=0->a=b
 |[],[],_=>rfl
 |[],_::_,h=>by simp[EH]at h
 |_::_,[],h=>by simp[EH]at h
 |x::a,y::b,h=>by
  rw[EH]at h
  split at h
  ·simp at h
  ·split at h
   ·simp at h
   ·have:x=y:=by omega
    rw[this,T2 h]
theorem cmp_neg:∀a b:Row,EH b a= - EH a b
 |[],[]=>rfl
 |[],_::_=>rfl
 |_::_,[]=>rfl
 |x::a,y::b=>by
  rw[EH,EH]
  by_cases h1:x < y
  ·rw[AE (by omega),AH h1,AH h1];rfl
  ·rw[AE h1]
   by_cases h2:y < x
   ·rw[AH h2,AH h2,AE h1]
   ·rw[AE h2,AE h2,AE h1];exact cmp_neg a b
theorem OW:∀{a b c:Row},EH a b < 0->EH b c < 0->EH a c < 0
 |[],[],_,h,_=>by simp[EH]at h
 |[],_::_,[],_,h=>by simp[EH]at h
 |[],_::_,_::_,_,_=>by simp[EH]
 |_::_,[],_,h,_=>by simp[EH]at h
 |_::_,_::_,[],_,h=>by simp[EH]at h
 |x::a,y::b,z::c,h1,h2=>by
  rw[EH]at h1 h2⊢
  by_cases e1:x < y
  ·by_cases e2:y < z
   ·rw[AH (by omega)];simp
   ·rw[AE e2]at h2
    by_cases e3:z < y
    ·rw[AH e3]at h2;simp at h2
    ·rw[AH (by omega)];simp
  ·rw[AE e1]at h1
   by_cases e3:y < x
   ·rw[AH e3]at h1;simp at h1
   ·rw[AE e3]at h1
    by_cases e2:y < z
    ·rw[AH (by omega)];simp
    ·rw[AE e2]at h2
     by_cases e4:z < y
     ·rw[AH e4]at h2;simp at h2
     ·rw[AE e4]at h2
      rw[AE (by omega),AE (by omega)]
      exact OW h1 h2
def Xk(l:List Row):Prop:=l.Pairwise λa b=>EH a b < 0
theorem rI:∀{a b:List Row},Xk a->Xk b->(∀x,x∈a↔x∈b)->a=b
 |[],[],_,_,_=>rfl
 |[],y::b,_,_,h=>by have:=(h y).2 (by simp);simp at this
 |x::a,[],_,_,h=>by have:=(h x).1 (by simp);simp at this
 |x::a,y::b,ha,hb,h=>by
  obtain⟨a1,a2⟩:=Ck.1 ha
  obtain⟨b1,b2⟩:=Ck.1 hb
  have hxy:x=y:=by
   rcases AC.1 ((h x).1 (by simp))with e|hx
   ·exact e
   ·rcases AC.1 ((h y).2 (by simp))with e|hy
    ·exact e.symm
    ·have h1:=b1 x hx
     have h2:=a1 y hy
     have:=cmp_neg x y
     omega
  subst hxy
  have hne:∀z∈a,z≠x:=λz hz e=>by subst e;have:=a1 z hz;rw[Z4]at this;omega
  have hne':∀z∈b,z≠x:=λz hz e=>by subst e;have:=b1 z hz;rw[Z4]at this;omega
  rw[rI a2 b2 (λz=>⟨λhz=>(AC.1 ((h z).1 (by simp[hz]))).resolve_left (hne z hz),λhz=>(AC.1 ((h z).2 (by simp[hz]))).resolve_left (hne' z hz)⟩)]
def YN(x:Row):List Row->List Row
 |[]=>[x]
 |y::l=>if EH x y < 0 then x::y::l else if EH x y=0 then y::l else y::YN x l
def sortB(l:List Row):List Row:=l.foldr YN []
theorem ew(x:Row):∀(l:List Row) (z:Row),z∈YN x l↔z=x∨z∈l
 |[],z=>by simp[YN]
 |y::l,z=>by
  rw[YN]
  split
  ·simp
  ·split
   ·rename_i _ h;rw[T2 h];simp
   ·rw[AC,ew x l z,AC]
    constructor
    ·rintro(h|h|h)<;>simp[h]
    ·rintro(h|h|h)<;>simp[h]
theorem lF(x:Row):∀(l:List Row),Xk l->Xk (YN x l)
 |[],_=>DF _ _
 |y::l,h=>by
  obtain⟨h1,h2⟩:=Ck.1 h
  rw[YN]
  split
  ·rename_i hc
   refine Ck.2 ⟨λz hz=>?_,h⟩
   rcases AC.1 hz with rfl|hz
   ·exact hc
   ·exact OW hc (h1 z hz)
  ·split
   ·exact h
   ·rename_i q1 q2
    refine Ck.2 ⟨λz hz=>?_,lF x l h2⟩
    rcases(ew x l z).1 hz with rfl|hz
    ·have:=cmp_neg z y;omega
    ·exact h1 z hz
theorem Rb:∀l:List Row,Xk (sortB l)
 |[]=>List.Pairwise.nil
 |x::l=>lF x _ (Rb l)
theorem PF:∀(l:List Row) (z:Row),z∈sortB l↔z∈l
 |[],z=>CM
 |x::l,z=>by rw[show sortB (x::l)=YN x (sortB l)from rfl,ew,PF l z,AC]
theorem W3{l r:List Row}(h1:Xk r)(h2:∀z,z∈r↔z∈l):r=sortB l:=rI h1 (Rb l) (λz=>by rw[h2,PF])
theorem lE(x:Row):∀l:List Row,(YN x l).length<=l.length+1
 |[]=>by simp[YN]
 |y::l=>by
  rw[YN]
  split
  ·simp
  ·split
   ·simp
   ·have:=lE x l;simp;omega
theorem Ou:∀l:List Row,(sortB l).length<=l.length
 |[]=>by simp[sortB]
 |x::l=>by
  have h1:=Ou l
  have h2:=lE x (sortB l)
  rw[show sortB (x::l)=YN x (sortB l)from rfl,Az];omega
theorem Qr{S O:Type}{B:(S->Option O)->S->Option O}(I:S->Prop)(μ:S->Nat)(R:O->Prop)(h:∀s,I s->(∃o,R o∧∀rec,B rec s=some o)∨∃s',I s'∧μ s' < μ s∧∀rec,B rec s=rec s'):∀(m:Nat) (s:S),I s->μ s < m->∃o,An B m s=some o∧R o
 |0,_,_,hm=>by omega
 |m+1,s,hs,hm=>by
  rw[Bq]
  rcases h s hs with⟨o,ho,he⟩|⟨s',h1,h2,he⟩
  ·exact⟨o,he _,ho⟩
  ·rw[he];exact Qr I μ R h m s' h1 (by omega)
theorem K5{α:Type}(x:α)(l:List α):CC (x::l) 1 ((x::l).length:Int)=l:=by
 unfold CC
 rw[As,By];rfl
theorem MR{α β:Type}(x:α)(l:List α)(y:Option β):chk ((0:Int)<=1∧1<=(List.length (x::l):Int)∧(List.length (x::l):Int)<=(List.length (x::l):Int)) y=y:=AN (by simp only[Az];omega)
theorem RU{α:Type}(x:α)(l:List α):AI (x::l) 0=some x:=rfl
theorem Ok{α:Type}(x:α)(l:List α):decide (0 < ((x::l).length:Int))=true:=Ah (by simp only[Az];omega)
theorem O7{α:Type}(x:α)(l:List α):(((x::l).length:Int)==0)=false:=by simp only[Az,Bw];omega
section
variable {A0 B0:List Row}
abbrev Va:=Nat×Row
structure MInv (A0 B0:List Row) (a b out:List Va):Prop where
 nd:((out++(a++b)).map (·.1)).Nodup
 at_:∀p∈out++(a++b),(A0++B0)[p.1]? =some p.2
 so:Xk (out.map (·.2))
 sa:Xk (a.map (·.2))
 sb:Xk (b.map (·.2))
 lt:∀x∈out,∀y∈a++b,EH x.2 y.2 < 0
 mem:∀z,(z∈(out++(a++b)).map (·.2))↔z∈A0++B0
 len:∀p∈a++b,p.2.length<=lim
 few:out.length+a.length+b.length<=lim
theorem bN{l:List Row}{x:Row}(h:Xk l)(hx:∀y∈l,EH y x < 0):Xk (l++[x]):=by
 unfold Xk
 rw[F7]
 exact⟨h,DF _ _,λa ha b hb=>by rw[A7]at hb;subst hb;exact hx a ha⟩
theorem MInv.takeA{x:Va}{a b out:List Va}(h:MInv A0 B0 (x::a) b out)(hb:∀y∈b,EH x.2 y.2 < 0):MInv A0 B0 a b (out++[x]):=by
 have sa:=h.sa
 rw[AB]at sa
 obtain⟨s1,s2⟩:=Ck.1 sa
 have e:out++[x]++(a++b)=out++(x::a++b):=by simp
 refine⟨by rw[e];exact h.nd,by rw[e];exact h.at_,?_,s2,h.sb,?_,by rw[e];exact h.mem,λp hp=>h.len p (by simp only[BT,AC];exact .inr hp),by have:=h.few;simp only[Aq,Az,BY]at this⊢;omega⟩
 ·rw[BM]
  exact bN h.so (λy hy=>by obtain⟨p,hp,rfl⟩:=BF.1 hy;exact h.lt p hp x (by simp))
 ·intro p hp y hy
  rcases Ak.1 hp with hp|hp
  ·exact h.lt p hp y (by simp only[BT,AC];exact .inr hy)
  ·rw[A7]at hp
   subst hp
   rcases Ak.1 hy with hy|hy
   ·exact s1 y.2 (Ch hy)
   ·exact hb y hy
theorem MInv.takeB{y:Va}{a b out:List Va}(h:MInv A0 B0 a (y::b) out)(ha:∀x∈a,EH y.2 x.2 < 0):MInv A0 B0 a b (out++[y]):=by
 have sb:=h.sb
 rw[AB]at sb
 obtain⟨s1,s2⟩:=Ck.1 sb
 have pe:(out++[y]++(a++b)).Perm (out++(a++y::b)):=by
  rw[A3]
  exact Kd _ (by rw[FH];exact(List.perm_middle (l₁:=a)).symm)
 refine⟨((pe.map _).nodup_iff).2 h.nd,λp hp=>h.at_ p (pe.mem_iff.1 hp),?_,h.sa,s2,?_,λz=>by rw[(pe.map _).mem_iff];exact h.mem z,λp hp=>h.len p (by rcases Ak.1 hp with hp|hp<;>simp[hp]),by have:=h.few;simp only[Aq,Az,BY]at this⊢;omega⟩
 ·rw[BM]
  exact bN h.so (λz hz=>by obtain⟨p,hp,rfl⟩:=BF.1 hz;exact h.lt p hp y (by simp))
 ·intro p hp z hz
  rcases Ak.1 hp with hp|hp
  ·exact h.lt p hp z (by rcases Ak.1 hz with hz|hz<;>simp[hz])
  ·rw[A7]at hp
   subst hp
   rcases Ak.1 hz with hz|hz
   ·exact ha z hz
   ·exact s1 z.2 (Ch hz)
theorem MInv.Aa0{x y:Va}{a b out:List Va}(h:MInv A0 B0 (x::a) (y::b) out)(e:x.2=y.2):MInv A0 B0 a b (out++[x]):=by
 have sb:=h.sb
 rw[AB]at sb
 obtain⟨s1,s2⟩:=Ck.1 sb
 have h2:MInv A0 B0 (x::a) b out->MInv A0 B0 a b (out++[x]):=λh'=>h'.takeA (λz hz=>by rw[e];exact s1 z.2 (Ch hz))
 refine h2 ?_
 have sub2:∀{z:Va},z∈x::a++b->z∈x::a++y::b:=λhz=>(K9 (List.Sublist.refl _) (List.sublist_cons_self _ _)).subset hz
 have sub:List.Sublist (out++(x::a++b)) (out++(x::a++y::b)):=K9 (List.Sublist.refl _) (K9 (List.Sublist.refl _) (List.sublist_cons_self _ _))
 refine⟨h.nd.sublist (sub.map _),λp hp=>h.at_ p (sub.subset hp),h.so,h.sa,s2,λp hp z hz=>h.lt p hp z (sub2 hz),λz=>?_,λp hp=>h.len p (sub2 hp),by have:=h.few;simp only[Az]at this⊢;omega⟩
 rw[<-h.mem z]
 constructor
 ·intro hz;exact(sub.map _).subset hz
 ·intro hz
  obtain⟨p,hp,rfl⟩:=BF.1 hz
  by_cases hy:p=y
  ·subst hy
   rw[<-e]
   exact Ch (by simp)
  ·refine Ch ?_
   simp only[Ak,AC]at hp⊢
   rcases hp with hp|(hp|hp)|hp|hp
   ·exact .inl hp
   ·exact .inr (.inl (.inl hp))
   ·exact .inr (.inl (.inr hp))
   ·exact absurd hp hy
   ·exact .inr (.inr hp)
theorem lL{x y:Va}{b:List Va}(hs:Xk ((y::b).map (·.2)))(h:EH x.2 y.2 < 0):∀z∈y::b,EH x.2 z.2 < 0:=by
 rw[AB]at hs
 obtain⟨s1,s2⟩:=Ck.1 hs
 intro z hz
 rcases AC.1 hz with rfl|hz
 ·exact h
 ·exact OW h (s1 z.2 (Ch hz))
theorem tv{a b:List Va}(h0:MInv A0 B0 a b []):∃o,An Ep fz (a,b,([]:List Va))=some o∧MInv A0 B0 [] [] o:=by
 refine Qr (B:=Ep) (λs=>MInv A0 B0 s.1 s.2.1 s.2.2) (λs=>s.1.length+s.2.1.length) (λo=>MInv A0 B0 [] [] o) ?_ fz (a,b,[]) h0 (by have:=h0.few;simp at this⊢;unfold lim at this;unfold fz;omega)
 rintro⟨a,b,out⟩ h
 change MInv A0 B0 a b out at h
 have hf:=h.few
 cases a with
 |nil=>
  cases b with
  |nil=>exact .inl ⟨out,h,λrec=>rfl⟩
  |cons y b=>
   refine .inr ⟨([],b,out++[y]),h.takeB (by simp),by simp,λrec=>?_⟩
   simp only[Ep,GN,BY,Ok,Int.natCast_zero]
   rw[show decide ((0:Int) < 0)=false from rfl]
   simp only[Aa,Ab,show((0:Int)==0)=true from rfl,F4,GO,RU,G]
   rw[show decide ((1:Int)<=0)=false from rfl,show decide ((0:Int)<=1)=true from rfl,show decide ((0:Int) < 1)=true from rfl]
   simp only[Aa,Ab]
   rw[AN (by simp only[Az,BY]at hf⊢;omega)]
   simp only[J4,MR,K5]
 |cons x a=>
  cases b with
  |nil=>
   refine .inr ⟨(a,[],out++[x]),h.takeA (by simp),by simp,λrec=>?_⟩
   simp only[Ep,GN,Ok,Ab,O7,Aa,BY]
   rw[show decide ((0:Int) < ((0:Nat):Int))=false from rfl]
   simp only[Aa,F4,RU,G]
   rw[show decide ((-1:Int)<=0)=true from rfl,Ab,AN (by simp only[Az,BY]at hf⊢;omega)]
   simp only[MR,K5,GO]
   rfl
  |cons y b=>
   have hlx:=h.len x (by simp)
   rcases Int.lt_trichotomy (EH x.2 y.2) 0 with hc|hc|hc
   ·refine .inr ⟨(a,y::b,out++[x]),h.takeA (lL h.sb hc),by simp,λrec=>?_⟩
    simp only[Ep,GN,Ok,Ab,O7,Aa,RU,G,cE hlx,F4]
    rw[Ah (by omega:EH x.2 y.2<=0),Ab,AN (by simp only[Az,BY]at hf⊢;omega)]
    simp only[MR,K5,GO]
    rw[Af (by omega:¬0<=EH x.2 y.2),Aa]
   ·refine .inr ⟨(a,b,out++[x]),h.Aa0 (T2 hc),by simp;omega,λrec=>?_⟩
    simp only[Ep,GN,Ok,Ab,O7,Aa,RU,G,cE hlx,F4]
    rw[Ah (by omega:EH x.2 y.2<=0),Ab,AN (by simp only[Az,BY]at hf⊢;omega)]
    simp only[MR,K5,GO]
    rw[Ah (by omega:0<=EH x.2 y.2),Ab,Af (by omega:¬0 < EH x.2 y.2),Aa]
    simp only[J4,MR,K5]
   ·have hc':EH y.2 x.2 < 0:=by have:=cmp_neg x.2 y.2;omega
    refine .inr ⟨(x::a,b,out++[y]),h.takeB (lL h.sa hc'),by simp,λrec=>?_⟩
    simp only[Ep,GN,Ok,Ab,O7,Aa,RU,G,cE hlx,F4]
    rw[Af (by omega:¬EH x.2 y.2<=0),Aa]
    simp only[GO,RU,G]
    rw[Ah (by omega:0<=EH x.2 y.2),Ab,Ah (by omega:0 < EH x.2 y.2),Ab,AN (by simp only[Az,BY]at hf⊢;omega)]
    simp only[J4,MR,K5]
theorem lU{l:List Row}:∀(o:List Va) (seen:List Nat),(o.map (·.1)).Nodup->(∀p∈o,p.1∉seen)->(∀p∈o,l[p.1]? =some p.2)->okJ l (o.map Sum.inl) seen=true
 |[],_,_,_,_=>rfl
 |p::o,seen,hn,hs,ha=>by
  rw[AB]at hn
  obtain⟨n1,n2⟩:=BQ.1 hn
  simp only[AB,okJ,ha p (by simp),Ci,AJ,Ac,AT]
  refine⟨by simpa using hs p (by simp),lU o _ n2 (λq hq=>?_) (λq hq=>ha q (by simp[hq]))⟩
  simp only[AC,not_or]
  exact⟨λe=>n1 (by rw[<-e];exact Ch hq),hs q (by simp[hq])⟩
theorem O0:∀(k:Nat) (l:List Row),(CV k l).map (·.2)=l
 |_,[]=>rfl
 |k,x::l=>by rw[CV,AB,O0 (k+1) l]
theorem Xy:∀(k:Nat) (l:List Row),(CV k l).map (·.1)=List.range' k l.length
 |_,[]=>rfl
 |k,x::l=>by rw[CV,AB,Xy (k+1) l,Az,C8]
theorem ac:∀(k:Nat) (l:List Row) (p:Va),p∈CV k l->k<=p.1∧l[p.1 - k]? =some p.2
 |_,[],p,h=>by simp[CV]at h
 |k,x::l,p,h=>by
  rw[CV]at h
  rcases AC.1 h with rfl|h
  ·simp
  ·obtain⟨h1,h2⟩:=ac (k+1) l p h
   refine⟨by omega,?_⟩
   rw[show p.1 - k=(p.1 - (k+1))+1 by omega]
   simpa using h2
theorem nD(hA:Xk A0)(hB:Xk B0)(hl:A0.length+B0.length<=lim)(hr:∀x∈A0++B0,x.length<=lim):MInv A0 B0 (CV 0 A0) (CV A0.length B0) []:=by
 refine⟨?_,?_,List.Pairwise.nil,by rw[O0];exact hA,by rw[O0];exact hB,by simp,?_,?_,by simp[OZ];exact hl⟩
 ·rw[Bg,BM,Xy,Xy,show List.range' 0 A0.length++List.range' A0.length B0.length=List.range' 0 (A0.length+B0.length)by have:=List.range'_append_1 (s:=0) (m:=A0.length) (n:=B0.length);rwa [B6]at this]
  exact List.nodup_range'
 ·intro p hp
  rw[Bg]at hp
  rcases Ak.1 hp with hp|hp
  ·obtain⟨_,h2⟩:=ac 0 A0 p hp
   rw[Nat.sub_zero]at h2
   have hlt:p.1 < A0.length:=by
    rcases A8 p.1 A0.length with h|h
    ·exact h
    ·rw[Bt h]at h2;cases h2
   rw[BE hlt];exact h2
  ·obtain⟨h1,h2⟩:=ac A0.length B0 p hp
   rw[BP h1];exact h2
 ·intro z
  rw[Bg,BM,O0,O0]
 ·intro p hp
  refine hr p.2 ?_
  rcases Ak.1 hp with hp|hp
  ·have:=Ch (f:=λx:Va=>x.2) hp;rw[O0]at this;simp[this]
  ·have:=Ch (f:=λx:Va=>x.2) hp;rw[O0]at this;simp[this]
end
theorem lu{n:Nat}(hn:n<=lim):IntKind.i64.wrap (Int.tdiv (n:Int) 2)=((n / 2:Nat):Int):=by
 rw[show Int.tdiv (n:Int) 2=((n / 2:Nat):Int)by rw[Int.tdiv_eq_ediv_of_nonneg (by omega)];omega]
 exact wrap_in (by unfold lim at hn;omega)
theorem au:∀(m:Nat) (l:List Row),l.length < m->l.length<=lim->(∀r∈l,r.length<=lim)->An Jr m l=some (sortB l)
 |0,_,h,_,_=>by omega
 |m+1,l,hm,hl,hr=>by
  rw[Bq,Jr]
  by_cases h2:(l.length:Int) < 2
  ·rw[Ah h2,Ab,lz ⟨hl,hr⟩]
   have:Xk l:=by
    match l,h2 with
    |[],_=>exact List.Pairwise.nil
    |[x],_=>exact DF _ _
    |x::y::l,h=>simp at h;omega
   simp only[G]
   rw[<-W3 this (λz=>CM)]
  ·rw[Af h2,Aa,lu hl]
   have e1:CC l 0 ((l.length / 2:Nat):Int)=l.take (l.length / 2):=by unfold CC;rw[As];rfl
   have e2:CC l ((l.length / 2:Nat):Int) (l.length:Int)=l.drop (l.length / 2):=by unfold CC;rw[As,As,By]
   have l1:(l.take (l.length / 2)).length < m:=by rw[At];omega
   have l2:(l.drop (l.length / 2)).length < m:=by rw[A6];omega
   rw[AN (by omega),e1,au m _ l1 (by rw[At];omega) (λr h=>hr r (El h))]
   simp only[G]
   rw[AN (by omega),e2,au m _ l2 (by rw[A6];omega) (λr h=>hr r (F6 h))]
   have s1:=Ou (l.take (l.length / 2))
   have s2:=Ou (l.drop (l.length / 2))
   rw[At]at s1
   rw[A6]at s2
   have hmem:∀z,z∈sortB (l.take (l.length / 2))++sortB (l.drop (l.length / 2))↔z∈l:=λz=>by
    rw[Ak,PF,PF,<-Ak,BG]
   obtain⟨o,ho,hI⟩:=tv (nD (Rb (l.take (l.length / 2))) (Rb (l.drop (l.length / 2))) (by omega) (λx hx=>hr x ((hmem x).1 hx)))
   simp only[ho]
   rw[AN (lU o [] (by have:=hI.nd;simpa using this) (by simp) (by have:=hI.at_;simpa using this))]
   have e3:List.map getM (List.map Sum.inl o)=o.map (·.2):=by rw[EK];rfl
   rw[e3,W3 (l:=l) hI.so (λz=>by have:=hI.mem z;simp only[AD]at this;rw[this,hmem])]
theorem pm{l:List Row}(h:Kg l):RB l=some (sortB l):=au fz l (EO h.1) h.1 h.2
structure SInv (l0:List Row) (a b out:List Row):Prop where
 so:Xk out
 sa:Xk a
 sb:Xk b
 le:∀x∈out,∀y∈a++b,EH x y<=0
 mem:∀z,z∈out++(a++b)↔z∈l0
 len:∀p∈out++(a++b),p.length<=lim
 few:out.length+a.length+b.length<=lim
def WU(out:List Row)(x:Row):List Row:=match out.getLast? with
 |none=>[x]
 |some y=>if EH y x=0 then out else out++[x]
theorem push_inv{l0 a b a' b' out:List Row}{x:Row}(h:SInv l0 a b out)(ha:Xk a')(hb:Xk b')(hlt:∀y∈a'++b',EH x y<=0)(hx:x∈a++b)(hm:∀z,z∈x::(a'++b')↔z∈a++b)(hf:1+a'.length+b'.length<=a.length+b.length):SInv l0 a' b' (WU out x)∧(WU out x).length<=out.length+1:=by
 have hxl:=h.len x (by simp only[Ak]at hx⊢;exact .inr hx)
 have key:∀out',Xk out'->(∀z,z∈out'↔z∈out∨z=x)->out'.length<=out.length+1->SInv l0 a' b' out'∧out'.length<=out.length+1:=λout' s m l=>by
  have hsub:∀y,y∈a'++b'->y∈a++b:=λy hy=>(hm y).1 (by simp only[AC];exact .inr hy)
  refine⟨⟨s,ha,hb,λy hy z hz=>?_,λz=>?_,λp hp=>?_,by have:=h.few;omega⟩,l⟩
  ·rcases(m y).1 hy with hy|rfl
   ·exact h.le y hy z (hsub z hz)
   ·exact hlt z hz
  ·rw[<-h.mem z,(Ak:z∈out'++(a'++b')↔_),(Ak:z∈out++(a++b)↔_),m z,<-hm z,AC]
   constructor
   ·rintro((h|h)|h)
    ·exact .inl h
    ·exact .inr (.inl h)
    ·exact .inr (.inr h)
   ·rintro(h|h|h)
    ·exact .inl (.inl h)
    ·exact .inl (.inr h)
    ·exact .inr h
  ·rcases Ak.1 hp with hp|hp
   ·rcases(m p).1 hp with hp|rfl
    ·exact h.len p (by simp[hp])
    ·exact hxl
   ·exact h.len p (Av _ (hsub p hp))
 unfold WU
 cases hl:out.getLast? with
 |none=>
  have:out=[]:=by simpa using hl
  subst this
  exact key [x] (DF _ _) (λz=>by simp) (by simp)
 |some y=>
  simp only
  have hy:y∈out:=List.mem_of_getLast? hl
  have hyx:=h.le y hy x hx
  split
  ·rename_i hc
   have hxy:=T2 hc
   refine key out h.so (λz=>⟨.inl,λhz=>hz.elim id (λe=>by rw[e,<-hxy];exact hy)⟩) (by omega)
  ·rename_i hc
   refine key (out++[x]) (bN h.so (λz hz=>?_)) (λz=>by simp) (by simp)
   have hzy:z=y∨EH z y < 0:=by
    obtain⟨ys,e⟩:=List.getLast?_eq_some_iff.1 hl
    rw[e]at hz
    rcases Ak.1 hz with hz|hz
    ·right
     have:=h.so
     rw[e]at this
     exact(F7.1 this).2.2 z hz y (by simp)
    ·left;simpa using hz
   rcases hzy with rfl|hzy
   ·omega
   ·exact OW hzy (by omega)
theorem fj{rec:(List Row×List Row×List Row)->Option (List Row)}{out a b:List Row}{x:Row}(hl:∀r∈out,r.length<=lim)(hf:out.length+1<=lim):L8 rec out a b x=rec (a,b,WU out x):=by
 unfold L8 WU
 cases hg:out.getLast? with
 |none=>
  have:out=[]:=by simpa using hg
  subst this
  simp only[BY,show(((0:Nat):Int)==0)=true from rfl,Ab,L9]
  rw[AN (by simp;unfold lim;omega)];rfl
 |some y=>
  obtain⟨ys,e⟩:=List.getLast?_eq_some_iff.1 hg
  have hpos:0 < out.length:=by rw[e];simp
  have h0:((out.length:Int)==0)=false:=by rw[Bw];omega
  have hgi:AI out (IntKind.i64.wrap ((out.length:Int) - 1))=some y:=by
   rw[wrap_in (by unfold lim at hf;omega),show(out.length:Int) - 1=((out.length - 1:Nat):Int)by omega,F0,e]
   simp
  rw[h0,Aa,hgi]
  simp only[G,YE (hl y (List.mem_of_getLast? hg)),L9]
  by_cases hc:EH y x=0
  ·rw[AH hc,show(EH y x !=0)=false by rw[hc];rfl,Aa]
  ·rw[AE hc,show(EH y x !=0)=true by simpa using hc,Ab,AN (by simpa using hf)]
theorem uQ{l0 a b:List Row}(h0:SInv l0 a b []):∃o,An EL fz (a,b,([]:List Row))=some o∧SInv l0 [] [] o:=by
 refine Qr (B:=EL) (λs=>SInv l0 s.1 s.2.1 s.2.2) (λs=>s.1.length+s.2.1.length) (λo=>SInv l0 [] [] o) ?_ fz (a,b,[]) h0 (by have:=h0.few;simp at this⊢;unfold lim at this;unfold fz;omega)
 rintro⟨a,b,out⟩ h
 change SInv l0 a b out at h
 have hf:=h.few
 have hlo:∀r∈out,r.length<=lim:=λr hr=>h.len r (by simp[hr])
 cases a with
 |nil=>
  cases b with
  |nil=>exact .inl ⟨out,h,λrec=>rfl⟩
  |cons y b=>
   obtain⟨s1,s2⟩:=Ck.1 h.sb
   obtain⟨q1,q2⟩:=push_inv (x:=y) (a':=[]) (b':=b) h List.Pairwise.nil s2 (λz hz=>by have:=s1 z (by simpa using hz);omega) (by simp) (λz=>by simp) (by simp;omega)
   refine .inr ⟨([],b,WU out y),q1,by simp,λrec=>?_⟩
   simp only[EL,In,BY,Ok,Int.natCast_zero]
   rw[show decide ((0:Int) < 0)=false from rfl]
   simp only[Aa,Ab,show((0:Int)==0)=true from rfl,G7,RU,G]
   rw[show decide ((0:Int) < 1)=true from rfl]
   simp only[Ab,MR,K5]
   exact fj hlo (by simp at hf;omega)
 |cons x a=>
  obtain⟨r1,r2⟩:=Ck.1 h.sa
  cases b with
  |nil=>
   obtain⟨q1,q2⟩:=push_inv (x:=x) (a':=a) (b':=[]) h r2 List.Pairwise.nil (λz hz=>by have:=r1 z (by simpa using hz);omega) (by simp) (λz=>by simp) (by simp;omega)
   refine .inr ⟨(a,[],WU out x),q1,by simp,λrec=>?_⟩
   simp only[EL,In,Ok,Ab,O7,Aa,BY]
   rw[show decide ((0:Int) < ((0:Nat):Int))=false from rfl]
   simp only[Aa,G7,RU,G]
   rw[show decide ((0:Int) < -1)=false from rfl]
   simp only[Aa,MR,K5]
   exact fj hlo (by simp at hf;omega)
  |cons y b=>
   obtain⟨s1,s2⟩:=Ck.1 h.sb
   have hlx:=h.len x (by simp)
   by_cases hc:0 < EH x y
   ·have hyx:EH y x < 0:=by have:=cmp_neg x y;omega
    obtain⟨q1,q2⟩:=push_inv (x:=y) (a':=x::a) (b':=b) h h.sa s2 (λz hz=>by
     rcases Ak.1 hz with hz|hz
     ·rcases AC.1 hz with rfl|hz
      ·omega
      ·have:=OW hyx (r1 z hz);omega
     ·have:=s1 z hz;omega) (by simp) (λz=>by simp only[AC,Ak];constructor<;>(intro hh;rcases hh with hh|(hh|hh)|hh<;>simp_all)) (by simp;omega)
    refine .inr ⟨(x::a,b,WU out y),q1,by simp,λrec=>?_⟩
    simp only[EL,In,Ok,Ab,O7,Aa,RU,G,YE hlx,G7]
    rw[Ah hc]
    simp only[Ab,MR,K5]
    exact fj hlo (by simp at hf;omega)
   ·have hxy:EH x y<=0:=by omega
    obtain⟨q1,q2⟩:=push_inv (x:=x) (a':=a) (b':=y::b) h r2 h.sb (λz hz=>by
     rcases Ak.1 hz with hz|hz
     ·have:=r1 z hz;omega
     ·rcases AC.1 hz with rfl|hz
      ·exact hxy
      ·have h3:=s1 z hz
       by_cases h4:EH x y=0
       ·rw[T2 h4];omega
       ·have:=OW (by omega:EH x y < 0) h3;omega) (by simp) (λz=>by simp) (by simp;omega)
    refine .inr ⟨(a,y::b,WU out x),q1,by simp,λrec=>?_⟩
    simp only[EL,In,Ok,Ab,O7,Aa,RU,G,YE hlx,G7]
    rw[Af hc]
    simp only[Aa,MR,K5]
    exact fj hlo (by simp at hf;omega)
theorem bw:∀(m:Nat) (l:List Row),l.length < m->l.length<=lim->(∀r∈l,r.length<=lim)->An Jy m l=some (sortB l)
 |0,_,h,_,_=>by omega
 |m+1,l,hm,hl,hr=>by
  rw[Bq,Jy]
  by_cases h2:(l.length:Int) < 2
  ·rw[Ah h2,Ab]
   have:Xk l:=by
    match l,h2 with
    |[],_=>exact List.Pairwise.nil
    |[x],_=>exact DF _ _
    |x::y::l,h=>simp at h;omega
   rw[<-W3 this (λz=>CM)]
  ·rw[Af h2,Aa,lu hl]
   have e1:CC l 0 ((l.length / 2:Nat):Int)=l.take (l.length / 2):=by unfold CC;rw[As];rfl
   have e2:CC l ((l.length / 2:Nat):Int) (l.length:Int)=l.drop (l.length / 2):=by unfold CC;rw[As,As,By]
   have l1:(l.take (l.length / 2)).length < m:=by rw[At];omega
   have l2:(l.drop (l.length / 2)).length < m:=by rw[A6];omega
   rw[AN (by omega),e1,bw m _ l1 (by rw[At];omega) (λr h=>hr r (El h))]
   simp only[G]
   rw[AN (by omega),e2,bw m _ l2 (by rw[A6];omega) (λr h=>hr r (F6 h))]
   have s1:=Ou (l.take (l.length / 2))
   have s2:=Ou (l.drop (l.length / 2))
   rw[At]at s1
   rw[A6]at s2
   have hmem:∀z,z∈sortB (l.take (l.length / 2))++sortB (l.drop (l.length / 2))↔z∈l:=λz=>by
    rw[Ak,PF,PF,<-Ak,BG]
   obtain⟨o,ho,hI⟩:=uQ (l0:=l) (a:=sortB (l.take (l.length / 2))) (b:=sortB (l.drop (l.length / 2))) ⟨List.Pairwise.nil,Rb _,Rb _,by simp,λz=>by rw[Bg];exact hmem z,λp hp=>hr p ((hmem p).1 (by simpa using hp)),by simp;omega⟩
   simp only[ho]
   rw[W3 (l:=l) hI.so (λz=>by have:=hI.mem z;simpa using this)]
theorem AaP{l:List Row}(h:Kg l):Ux l=some (sortB l):=bw fz l (EO h.1) h.1 h.2
theorem TV{O:Type}{B:(Int->Option (Sum Unit O))->Int->Option (Sum Unit O)}{n:Nat}(bad:Nat->Bool)(o:O)(hn:n<=lim)(h1:∀k,k < n->∀rec,B rec (k:Int)=cond (bad k) (some (.inr o)) (rec ((k+1:Nat):Int)))(h2:∀rec,B rec (n:Int)=some (.inl ())):
  An B fz 0=some (cond ((List.range n).any bad) (.inr o) (.inl ())):=by
 have key:∀d k,k+d=n->(∀j,j < k->bad j=false)->∀m,d < m->An B m (k:Int)=some (cond ((List.range n).any bad) (.inr o) (.inl ())):=by
  intro d
  induction d with
  |zero=>
   intro k hk hb m hm
   cases m with
   |zero=>omega
   |succ m=>
    have hkn:k=n:=by omega
    have:(List.range n).any bad=false:=by
     rw[CG]
     intro x hx
     rw[hb x (by have:=AL.1 hx;omega)];simp
    show B (An B m) (k:Int)=_
    rw[hkn,h2,this];rfl
  |succ d ih=>
   intro k hk hb m hm
   cases m with
   |zero=>omega
   |succ m=>
    show B (An B m) (k:Int)=_
    rw[h1 k (by omega)]
    cases hbk:bad k with
    |true=>
     have:(List.range n).any bad=true:=by rw[Dj];exact⟨k,AL.2 (by omega),hbk⟩
     rw[this];rfl
    |false=>
     exact ih (k+1) (by omega) (λj hj=>by
      rcases A8 j k with h|h
      ·exact hb j h
      ·rw[show j=k by omega];exact hbk) m (by omega)
 have:=key n 0 (by omega) (λj hj=>absurd hj (by omega)) fz (EO hn)
 simpa using this
theorem ft{l:List Row}(h:Kg l):Kg (sortB l):=⟨BC (Ou l) h.1,λr hr=>h.2 r ((PF l r).1 hr)⟩
def Ul(a:Int)(x:Row):Bool:=((List.length x:Int)!=a) || !PQ x
def nrB(a:Int)(l:List Row):(Int×List Row)×Bool:=cond (BV l λ_ x=>Ul a x) ((0,[]),false) (cond (!P2 (a,sortB l)) ((0,[]),false) ((a,sortB l),true))
theorem AaJ{a:Int}{l:List Row}(h:Kg l):H3 a l=some (nrB a l):=by
 unfold H3 nrB BV
 rw[TV (λk=>Jz l k λx=>Ul a x) _ h.1 (λk hk rec=>by
  unfold MN
  rw[Bl hk,AK hk,Bn hk (Bd h.1),CD hk]
  simp only[Ab,G,wa (h.2 _ (Ag hk)),Ul]
  cases((List.length l[k]:Int)!=a)<;>cases PQ l[k]<;>rfl) (λrec=>by unfold MN;rw[Bh];rfl)]
 cases(List.range l.length).any λk=>Jz l k λx=>Ul a x with
 |true=>rfl
 |false=>
  simp only[G,Aa,AaP h,ra (r:=(a,sortB l)) (ft h),mc (r:=(a,sortB l)) (ft h)]
  cases P2 (a,sortB l)<;>rfl
theorem Aes{a:Int}{l:List Row}(h:Kg l):Mb a l=some (nrB a l):=by
 unfold Mb nrB BV
 rw[TV (λk=>Jz l k λx=>Ul a x) _ h.1 (λk hk rec=>by
  unfold MG
  rw[Bl hk,AK hk,Bn hk (Bd h.1),CD hk]
  simp only[Ab,G,vE (h.2 _ (Ag hk)),Ul]
  cases((List.length l[k]:Int)!=a)<;>cases PQ l[k]<;>rfl) (λrec=>by unfold MG;rw[Bh];rfl)]
 cases(List.range l.length).any λk=>Jz l k λx=>Ul a x with
 |true=>rfl
 |false=>
  simp only[G,Aa,pm h,gY (r:=(a,sortB l)) (ft h)]
  cases P2 (a,sortB l)<;>rfl
abbrev Rln:=Int×List Row
theorem ZT{α:Type}{l:List α}{f:Nat->α->Bool}(h:∀i (hi:i < l.length),f i l[i]=false):BV l f=false:=by
 unfold BV
 rw[CG]
 intro i hi
 have hi:=AL.1 hi
 rw[CD hi,h i hi]
 simp
theorem uE(r:Rln):P2 r=true↔(0<=r.1∧r.1<=5)∧r.2.length<=4000∧(∀x∈r.2,(x.length:Int)=r.1∧PQ x=true)∧Xk r.2:=by
 unfold P2 G9
 simp only[Ac,BB,AT,E0]
 constructor
 ·rintro⟨h1,h2,h3⟩
  refine⟨h1,by omega,λx hx=>?_,?_⟩
  ·obtain⟨i,hi,rfl⟩:=Bi.1 hx
   have:=H6 h3 hi
   unfold P3 at this
   simp only[Co,Db]at this
   exact⟨by simpa using this.1.1,this.1.2⟩
  ·have hs:∀k (hk:k+1 < r.2.length),EH (r.2[k]'(by omega)) r.2[k+1] < 0:=by
    intro k hk
    have:=H6 h3 hk
    unfold P3 at this
    simp only[Co,Bool.and_eq_false_iff]at this
    rcases this.2 with h4|h4
    ·simp at h4
    ·rw[show k+1 - 1=k by omega,CD (by omega)]at h4
     have:=GW h4
     omega
   unfold Xk
   rw[Cf]
   intro i j hi hj hij
   induction j with
   |zero=>omega
   |succ j ih=>
    rcases A8 i j with h4|h4
    ·exact OW (ih (by omega) h4) (hs j hj)
    ·have:i=j:=by omega
     subst this
     exact hs i hj
 ·rintro⟨h1,h2,h3,h4⟩
  refine⟨h1,by omega,ZT λi hi=>?_⟩
  have h5:=h3 _ (Ag hi)
  unfold P3
  rw[h5.2,h5.1]
  simp only[CR,Ai,CX]
  by_cases h0:0 < i
  ·rw[Ah h0,AJ,CD (by omega:i - 1 < r.2.length)]
   have:=Cf.1 h4 (i - 1) i (by omega) hi (by omega)
   exact Af (by omega)
  ·rw[Af h0,J9]
theorem tf{l:List Int}{v:Int}{k:Nat}(h:T8 l v=some k):∃hk:k < l.length,l[k]=v:=by
 unfold T8 at h
 obtain⟨j,hj,he⟩:=List.exists_of_findSome?_eq_some h
 have hj:=AL.1 hj
 rw[CD hj]at he
 split at he
 ·rename_i hb
  injection he with he
  subst he
  exact⟨hj,by simpa using hb⟩
 ·cases he
theorem Sx{l:List Int}{v:Int}(h:l.contains v=true):∃k:Nat,∃hk:k < l.length,FY l v=(k:Int)∧l[k]=v:=by
 rw[<-VN]at h
 obtain⟨k,hk⟩:=Ga.1 h
 obtain⟨h1,h2⟩:=tf hk
 exact⟨k,h1,by unfold FY;rw[hk],h2⟩
theorem Ady{a:RQ}(h:a.2.length<=lim):Ij a=some (PP a 5):=by
 unfold Ij
 have:=D7 (body:=Gl a) (out:=PP a 5) (λk=>(PP a k,(k:Int))) 5 (λk hk rec=>by
  have hl:=Qf a k
  unfold Gl Iy
  simp only
  rw[Ah (by omega:(k:Int) < 5),rc h,wrap_in (by omega),vv]
  simp only[Ab,Bz]
  cases a.2.contains (k:Int)with
  |true=>rw[Ab,AN (by unfold lim;simp;omega)];rfl
  |false=>rw[Aa,Aa,AD];rfl) (λrec=>by unfold Gl;simp only;rfl) fz (by unfold fz;omega)
 rw[show((([]:List Int),(0:Int)))=(PP a 0,((0:Nat):Int))from rfl,this]
 rfl
theorem VH{a:RQ}{v:Int}:v∈PP a 5↔(0<=v∧v < 5)∧a.2.contains v=true:=by
 unfold PP
 rw[BF]
 constructor
 ·rintro⟨n,hn,rfl⟩
  have h1:=Cp.1 hn
  have h2:=AL.1 h1.1
  exact⟨by omega,h1.2⟩
 ·rintro⟨h1,h2⟩
  exact⟨v.toNat,Cp.2 ⟨AL.2 (by omega),by rw[show((v.toNat:Nat):Int)=v by omega];exact h2⟩,by omega⟩
def P6(a:RQ):Prop:=a.2.length<=5∧∀v∈a.2,0<=v∧v < 5
def SQ(V r:List Int)(k:Nat):Bool:=(List.range k).all λi=>NH r (FY V (NH V (i:Int)))==NH r (i:Int)
theorem jy(V r:List Int)(k:Nat):SQ V r (k+1)=(SQ V r k&&(NH r (FY V (NH V (k:Int)))==NH r (k:Int))):=by
 unfold SQ
 rw[Ls,Lr];simp
def rowOf(a:RQ)(r:List Int):List Int:=(PP a 5).map λv=>NH r (FY a.2 v)
theorem G8{l:List Int}{k:Nat}(h:k < l.length):NH l (k:Int)=l[k]:=by unfold NH;rw[AK h];rfl
theorem AdG{a:RQ}{r:List Int}(ha:P6 a)(hr:r.length=a.2.length){R:List (List Int)}{m:Int}{j:Nat}(hj:AI R (j:Int)=some r):An (I7 a (PP a 5) ((m,R),true) (j:Int)) fz (([]:List Int),0)=some (rowOf a r):=by
 have hl:=Qf a 5
 unfold rowOf
 exact J6 (a:=PP a 5) (h:=λv=>NH r (FY a.2 v)) (by unfold lim;omega) (λk hk rec=>by
  have hc:=(VH.1 (Ag hk)).2
  obtain⟨p,hp,e1,e2⟩:=Sx hc
  rw[I7]
  rw[Bl hk,hj,AK hk,Bn hk (by unfold maxLen;omega),Ab,Bz,Bz,Ye (by have:=ha.1;unfold lim;omega),Bz,e1,AK (by omega:p < r.length),Bz,AN (by simp only[Aj,At,Ao];unfold lim;omega),G8 (by omega:p < r.length)]) (λrec y=>by rw[I7];rw[Bh];rfl)
theorem AdC{a:RQ}{r:List Int}(ha:P6 a)(hr:r.length=a.2.length){R:List (List Int)}{m:Int}{j:Nat}(hj:AI R (j:Int)=some r):An (FK a (PP a 5) ((m,R),true) (j:Int) (rowOf a r)) fz (true,0)=some (SQ a.2 r a.2.length):=by
 have hl:=Qf a 5
 have:=D7 (body:=FK a (PP a 5) ((m,R),true) (j:Int) (rowOf a r)) (out:=SQ a.2 r a.2.length) (λk=>(SQ a.2 r k,(k:Int))) a.2.length (λk hk rec=>by
  have hmem:=Ag hk
  have hv:=ha.2 _ hmem
  have hin:a.2.contains a.2[k]=true:=by rw[Bk];exact hmem
  have hav:(PP a 5).contains a.2[k]=true:=by rw[Bk];exact VH.2 ⟨hv,hin⟩
  obtain⟨p,hp,e1,e2⟩:=Sx hav
  have hrow:AI (rowOf a r) (p:Int)=some (NH r (FY a.2 a.2[k])):=by
   rw[F0]
   unfold rowOf
   rw[BL,Ad hp,e2];rfl
  have hJ:∀b:Bool,FL rec (k:Int) b=rec (b,((k+1:Nat):Int)):=λb=>by rw[FL,Bn hk (by have:=ha.1;unfold maxLen;omega)]
  rw[FK,jy,G8 hk]
  rw[Bl hk,AK hk,Ab,Bz,Ye (by unfold lim;omega),Bz,e1,Ah (by omega:(0:Int)<=(p:Int)),Ab,hrow,Bz,hj,Bz,AK (by omega:k < r.length),Bz,G8 (by omega:k < r.length),hJ,hJ]
  cases SQ a.2 r k<;>rfl) (λrec=>by rw[FK];rw[Bh];rfl) fz (EO (by have:=ha.1;unfold lim;omega))
 exact this
theorem ai{α β:Type}(f:α->Bool)(g:α->β){l:List α}{k:Nat}(hk:k < l.length):((l.take (k+1)).filter f).map g=((l.take k).filter f).map g++cond (f l[k]) [g l[k]] []:=by
 rw[oS f hk,BM]
 cases f l[k]<;>rfl
def TW(a:RQ)(R:List (List Int)):List (List Int):=(R.filter λr=>SQ a.2 r a.2.length).map (rowOf a)
theorem cu(a:RQ)(R:List (List Int))(k:Nat):((((R.take k).filter λr=>SQ a.2 r a.2.length).map (rowOf a))).length<=k:=by
 rw[Aj]
 exact BC (FF _ _) (by simp;omega)
theorem uK{a:RQ}(ha:P6 a){R:List (List Int)}{m:Int}(hR:∀r∈R,r.length=a.2.length)(hl:R.length<=4000):An (FJ a (PP a 5) ((m,R),true)) fz (([]:List (List Int)),0)=some (TW a R):=by
 have:=D7 (body:=FJ a (PP a 5) ((m,R),true)) (out:=TW a R) (λk=>(((R.take k).filter λr=>SQ a.2 r a.2.length).map (rowOf a),(k:Int))) R.length (λk hk rec=>by
  have hr:=hR _ (Ag hk)
  have hb:=cu a R k
  have hJ:∀y:List (List Int),GY rec (k:Int) y=rec (y,((k+1:Nat):Int)):=λy=>by rw[GY,Bn hk (by unfold maxLen;omega)]
  rw[FJ,ai _ _ hk]
  rw[Bl hk,Ab,AdG ha hr (AK hk),Bz,AdC ha hr (AK hk),Bz,hJ,hJ]
  cases SQ a.2 R[k] a.2.length with
  |true=>rw[Ab,AN (by simp only[Ao];unfold lim;omega)];rfl
  |false=>rw[Aa,Aa,AD]) (λrec=>by rw[FJ];rw[Bh,By];rfl) fz (EO (by unfold lim;omega))
 exact this
def UC(V r:List Int):Nat->List Int
 |0=>List.replicate 5 0
 |k+1=>(UC V r k).set (NH V (k:Int)).toNat (NH r (k:Int))
theorem Xf(V r:List Int):∀k,(UC V r k).length=5
 |0=>rfl
 |k+1=>by rw[UC,Bx];exact Xf V r k
theorem mw{V r:List Int}(h5:∀v∈V,0<=v∧v < 5):∀k,k<=V.length->SQ V r k=true->∀v:Int,0<=v->(∃i,∃hi:i < k,NH V (i:Int)=v)->NH (UC V r k) v=NH r (FY V v)
 |0,_,_,v,_,⟨i,hi,_⟩=>absurd hi (by omega)
 |k+1,hk,hf,v,h0,⟨i,hi,he⟩=>by
  rw[jy,Ac]at hf
  have hkl:k < V.length:=by omega
  have hvk:=h5 _ (Ag hkl)
  have hlen:=Xf V r k
  by_cases hv:NH V (k:Int)=v
  ·have h2:NH r (FY V (NH V (k:Int)))=NH r (k:Int):=by simpa using hf.2
   rw[hv]at h2
   rw[h2,UC,hv]
   rw[G8 hkl]at hv
   obtain⟨w,rfl⟩:∃w:Nat,v=(w:Int):=⟨v.toNat,by omega⟩
   rw[As,G8 (by rw[Bx];omega),List.getElem_set_self]
  ·have hik:i < k:=by
    rcases A8 i k with h|h
    ·exact h
    ·exfalso;apply hv;rw[<-he];congr 1;omega
   have ih:=mw h5 k (by omega) hf.1 v h0 ⟨i,hik,he⟩
   have hvi:v < 5:=by
    have hil:i < V.length:=by omega
    rw[<-he,G8 hil];exact(h5 _ (Ag hil)).2
   rw[<-ih,UC]
   have e:v=((v.toNat:Nat):Int):=by omega
   have h1:v.toNat < (UC V r k).length:=by omega
   have h2:v.toNat < ((UC V r k).set (NH V (k:Int)).toNat (NH r (k:Int))).length:=by rw[Bx];exact h1
   conv=>lhs;rw[e]
   conv=>rhs;rw[e]
   rw[G8 h2,G8 h1,Ek]
   rw[AE (λe2=>by rw[G8 hkl]at e2 hv;omega)]
theorem xy{a:RQ}{r:List Int}(ha:P6 a)(hr:r.length=a.2.length):An (Fu a r) fz (List.replicate (Int.toNat 5) (0:Int),true,0)=some (UC a.2 r a.2.length,SQ a.2 r a.2.length):=by
 have:=D7 (body:=Fu a r) (out:=(UC a.2 r a.2.length,SQ a.2 r a.2.length)) (λk=>(UC a.2 r k,SQ a.2 r k,(k:Int))) a.2.length (λk hk rec=>by
  have hmem:=Ag hk
  have hv:=ha.2 _ hmem
  have hin:a.2.contains a.2[k]=true:=by rw[Bk];exact hmem
  obtain⟨p,hp,e1,e2⟩:=Sx hin
  have hlen:=Xf a.2 r k
  have hkr:k < r.length:=by omega
  have hJ:∀b:Bool,GE rec r (UC a.2 r k) (k:Int) a.2[k] b=rec (UC a.2 r (k+1),b,((k+1:Nat):Int)):=by
   intro b
   have ev:a.2[k]=((a.2[k].toNat:Nat):Int):=by omega
   rw[GE,AK hkr,Bz,Bn hk (by have:=ha.1;unfold maxLen;omega),UC,G8 hk,G8 hkr]
   have hg:AI (UC a.2 r k) a.2[k]=some ((UC a.2 r k)[a.2[k].toNat]'(by omega)):=by
    conv=>lhs;rw[ev]
    exact AK (by omega)
   rw[hg,Bz]
   rfl
  rw[Fu,jy,G8 hk]
  rw[Bl hk,AK hk,Ab,Bz,jI (by have:=ha.1;unfold lim;omega),Bz,e1,AK (by omega:p < r.length),AK hkr,Bz,Bz,hJ,hJ,G8 (by omega:p < r.length),G8 hkr]
  cases SQ a.2 r k<;>rfl) (λrec=>by rw[Fu];rw[Bh];rfl) fz (EO (by have:=ha.1;unfold lim;omega))
 exact this
theorem tq{a:RQ}(ha:P6 a){R:List (List Int)}{m:Int}(hR:∀r∈R,r.length=a.2.length)(hl:R.length<=4000):An (Ft a (PP a 5) ((m,R),true)) fz (([]:List (List Int)),0)=some (TW a R):=by
 have:=D7 (body:=Ft a (PP a 5) ((m,R),true)) (out:=TW a R) (λk=>(((R.take k).filter λr=>SQ a.2 r a.2.length).map (rowOf a),(k:Int))) R.length (λk hk rec=>by
  have hr:=hR _ (Ag hk)
  have hb:=cu a R k
  have hpick:SQ a.2 R[k] a.2.length=true->QC (UC a.2 R[k] a.2.length) (PP a 5)=some (rowOf a R[k]):=by
   intro hf
   have hl5:=Qf a 5
   rw[pg (by unfold lim;omega) (λc hc=>by have:=(VH.1 hc).1;rw[Xf];omega)]
   unfold Sv rowOf
   congr 1
   refine C5 λv hv=>?_
   have hm:=VH.1 hv
   refine mw ha.2 a.2.length (AW _) hf v hm.1.1 ?_
   have:=hm.2
   rw[Bk]at this
   obtain⟨i,hi,e⟩:=Bi.1 this
   exact⟨i,hi,by rw[G8 hi];exact e⟩
  rw[Ft,ai _ _ hk]
  rw[Bl hk,AK hk,Ab,Bz,AN (by unfold lim;omega),xy ha hr,Bz]
  simp only
  have hJ:∀y:List (List Int),GF rec (k:Int) y=rec (y,((k+1:Nat):Int)):=λy=>by rw[GF,Bn hk (by unfold maxLen;omega)]
  cases hf:SQ a.2 R[k] a.2.length with
  |true=>rw[Ab,hpick hf,Bz,AN (by simp only[Ao];unfold lim;omega),hJ];rfl
  |false=>rw[Aa,Aa,AD,hJ]) (λrec=>by rw[Ft];rw[Bh,By];rfl) fz (EO (by unfold lim;omega))
 exact this
theorem bm{m:Int}{L:List (List Int)}(hm:G9 m 0 5=true)(hl:L.length<=4000)(hr:∀r∈L,(r.length:Int)=m∧PQ r=true):P2 (m,sortB L)=true:=by
 unfold P2
 simp only[Ac,AT,E0]
 refine⟨hm,by have:=Ou L;omega,QB λi hi=>?_⟩
 have h1:=hr _ ((PF L _).1 (Ag hi))
 unfold P3
 rw[h1.2,h1.1]
 simp only[CR,Ai,CX]
 by_cases h0:0 < i
 ·rw[Ah h0,AJ,CD (by omega:i - 1 < (sortB L).length)]
  have:=Cf.1 (Rb L) (i - 1) i (by omega) hi (by omega)
  exact Af (by omega)
 ·rw[Af h0,J9]
theorem qd{m:Int}{L:List (List Int)}(hm:G9 m 0 5=true)(hl:L.length<=4000)(hr:∀r∈L,(r.length:Int)=m∧PQ r=true):nrB m L=((m,sortB L),true):=by
 unfold nrB
 have e:BV L (λ_ x=>Ul m x)=false:=QB λi hi=>by
  have h1:=hr _ (Ag hi)
  unfold Ul
  rw[h1.2,h1.1];simp
 rw[e,bm hm hl hr];rfl
theorem Sz{r:Int×List (List Int)}(h:P2 r=true):0<=r.1∧r.1<=5∧r.2.length<=4000∧∀x∈r.2,(x.length:Int)=r.1∧PQ x=true:=by
 unfold P2 G9 at h
 simp only[Ac,BB,AT,E0]at h
 refine⟨h.1.1,h.1.2,by omega,λx hx=>?_⟩
 obtain⟨i,hi,rfl⟩:=Bi.1 hx
 have:=H6 h.2.2 hi
 unfold P3 at this
 simp only[Co,Db]at this
 exact⟨by simpa using this.1.1,this.1.2⟩
theorem jh{x:List Int}(h:PQ x=true){k:Nat}(hk:k < x.length):0<=x[k]∧x[k]<=99:=by
 unfold PQ at h
 simp only[AT]at h
 have:=H6 h hk
 unfold G9 at this
 simpa using this
theorem nW{x:List Int}(h:∀v∈x,0<=v∧v<=99):PQ x=true:=by
 unfold PQ
 rw[QB λi hi=>by have:=h _ (Ag hi);unfold G9;simp;omega]
 rfl
theorem pO{d:List Tp}{nm:List UInt8}(h:(GR d nm).2=true):P2 (GR d nm).1=true∧(GR d nm).1.2.length<=16:=by
 unfold GR at *
 split at h
 ·rename_i hd
  rw[AH hd]
  cases hf:d.find? (λt=>t.1==nm)with
  |none=>rw[hf]at h;cases h
  |some t=>
   simp only
   have hm:=List.mem_of_find?_eq_some hf
   unfold dbB at hd
   simp only[Ac,AT]at hd
   obtain⟨i,hi,rfl⟩:=Bi.1 hm
   have:=H6 hd.2 hi
   unfold Uz at this
   simp only[Co,Db,E0]at this
   exact⟨this.1.1.2,by have:=this.1.2;omega⟩
 ·cases h
def abB(d:List Tp)(a:RQ):Int×List (List Int):=(((PP a 5).length:Int),sortB (TW a (GR d a.1).1.2))
theorem AaC{a:RQ}{r:List Int}(ha:P6 a)(hr:r.length=a.2.length)(hv:PQ r=true):((rowOf a r).length:Int)=((PP a 5).length:Int)∧PQ (rowOf a r)=true:=by
 refine⟨by unfold rowOf;rw[Aj],nW λv hvm=>?_⟩
 unfold rowOf at hvm
 obtain⟨u,hu,rfl⟩:=BF.1 hvm
 obtain⟨p,hp,e1,e2⟩:=Sx (VH.1 hu).2
 rw[e1,G8 (by omega:p < r.length)]
 exact jh hv (by omega)
theorem Y7{d:List Tp}{a:RQ}(ha:P6 a)(hf:Ip d a=true):(∀r∈(GR d a.1).1.2,r.length=a.2.length)∧(GR d a.1).1.2.length<=16∧∀r∈TW a (GR d a.1).1.2,(r.length:Int)=((PP a 5).length:Int)∧PQ r=true:=by
 unfold Ip at hf
 rw[Ac]at hf
 have h1:=pO hf.1
 have h2:=Sz h1.1
 have h3:(GR d a.1).1.1=(a.2.length:Int):=by simpa using hf.2
 have h4:∀r∈(GR d a.1).1.2,r.length=a.2.length:=λr hr=>by have:=(h2.2.2.2 r hr).1;omega
 refine⟨h4,h1.2,λr hr=>?_⟩
 unfold TW at hr
 obtain⟨x,hx,rfl⟩:=BF.1 hr
 have hx:=(Cp.1 hx).1
 exact AaC ha (h4 x hx) (h2.2.2.2 x hx).2
theorem dF(a:RQ)(R:List (List Int)):(TW a R).length<=R.length:=by
 unfold TW
 rw[Aj]
 exact FF _ _
theorem av5(a:RQ):G9 ((PP a 5).length:Int) 0 5=true:=by have:=Qf a 5;unfold G9;simp;omega
theorem kE{d:List Tp}{a:RQ}(ha:P6 a)(hf:Ip d a=true):Kg (TW a (GR d a.1).1.2):=by
 obtain⟨h1,h2,h3⟩:=Y7 ha hf
 have h4:=dF a (GR d a.1).1.2
 have h5:=Qf a 5
 exact⟨by unfold lim;omega,λr hr=>by have:=(h3 r hr).1;unfold lim;omega⟩
theorem Adv{d:List Tp}{a:RQ}(h:Ut d)(ha:P6 a)(hf:Ip d a=true):I6 d a=some (abB d a):=by
 obtain⟨h1,h2,h3⟩:=Y7 ha hf
 have h4:=dF a (GR d a.1).1.2
 have hf':=hf
 unfold Ip at hf'
 rw[Ac]at hf'
 unfold I6 abB
 rw[Ady (by have:=ha.1;unfold lim;omega),Bz,ri h,Bz,hf'.1,Ai,Aa,show((GR d a.1).1.1 !=(a.2.length:Int))=false by rw[bne,hf'.2];rfl,Aa]
 have hb:=uK ha (R:=(GR d a.1).1.2) (m:=(GR d a.1).1.1) h1 (by omega)
 have e:GR d a.1=(((GR d a.1).1.1,(GR d a.1).1.2),true):=by rw[<-hf'.1]
 rw[<-e]at hb
 rw[hb,Bz,AaJ (kE ha hf),Bz,qd (av5 a) (by omega) h3]
 rfl
theorem o7{n:Int}{l:List Int}(hn:1<=n∧n<=5)(hl:l.length<=5)(h:∀v∈l,0<=v∧v < n):Hq n l=some true:=by
 unfold Hq
 rw[Af (by omega),Aa,EU (n:=l.length) (λk=>Jz l k λv=>uq n v) (by unfold lim;omega) (λk hk rec=>by
  rw[Gp]
  rw[Bl hk,AK hk,Bn hk (by unfold maxLen;omega),CD hk,Ab,Bz,Hx,Bz];rfl) (λrec=>by rw[Gp];rw[Bh];rfl),Bz]
 have e:((List.range l.length).any λk=>Jz l k λv=>uq n v)=false:=QB (l:=l) (f:=λ_ v=>uq n v) λi hi=>by
  have:=h _ (Ag hi)
  unfold uq G9
  rw[wrap_in (by omega)];simp;omega
 rw[e];rfl
theorem Ab7{d:List Tp}{a:RQ}(h:Ut d)(ha:P6 a)(hf:Ip d a=true):IQ d a=some (abB d a):=by
 obtain⟨h1,h2,h3⟩:=Y7 ha hf
 have hf':=hf
 unfold Ip at hf'
 rw[Ac]at hf'
 have hal:a.2.length<=lim:=by have:=ha.1;unfold lim;omega
 unfold IQ abB
 rw[Acb hal (λv=>o8 hal v),Bz,pd h,Bz,hf'.1,Ai,Aa,show((GR d a.1).1.1 !=(a.2.length:Int))=false by rw[bne,hf'.2];rfl,Aa,o7 (by omega) ha.1 ha.2,Bz,Ai,Aa]
 have hb:=tq ha (R:=(GR d a.1).1.2) (m:=(GR d a.1).1.1) h1 (by omega)
 have e:GR d a.1=(((GR d a.1).1.1,(GR d a.1).1.2),true):=by rw[<-hf'.1]
 rw[<-e]at hb
 rw[hb,Bz,pm (kE ha hf),Bz]
theorem nO{d:List Tp}{a:RQ}(ha:P6 a)(hf:Ip d a=true):P2 (abB d a)=true∧(abB d a).2.length<=16:=by
 obtain⟨h1,h2,h3⟩:=Y7 ha hf
 have h4:=dF a (GR d a.1).1.2
 have h5:=Ou (TW a (GR d a.1).1.2)
 exact⟨bm (av5 a) (by omega) h3,by unfold abB;simp only;omega⟩
theorem VY{d:List Tp}{q:MQ}(h:Ks d q=true):KP q=true∧(∀a∈q.2.1,P6 a∧Ip d a=true)∧q.2.1.length<=4:=by
 unfold Ks at h
 simp only[Ac,AT]at h
 obtain⟨h1,h2,h3⟩:=h
 obtain⟨g1,g2,g3,g4⟩:=nv h1
 refine⟨h1,λa ha=>⟨⟨(g4 a ha).2.1,λv hv=>?_⟩,?_⟩,g3⟩
 ·have:=(g4 a ha).2.2 v hv;omega
 ·have:=OV h3 ha;simpa using this
theorem eP:∀{l m:List Int},l.Nodup->(∀x∈l,x∈m)->l.length<=m.length
 |[],m,_,_=>by simp
 |x::l,m,hn,h=>by
  have hx:=h x (by simp)
  rw[BQ]at hn
  have h1:=eP (l:=l) (m:=m.erase x) hn.2 (λy hy=>by
   have hne:y≠x:=λe=>by subst e;exact hn.1 hy
   exact(List.mem_erase_of_ne hne).2 (h y (by simp[hy])))
  have h2:=List.length_erase_of_mem hx
  have h3:0 < m.length:=List.length_pos_of_mem hx
  rw[Az];omega
theorem AaT{n:Int}(hn:1<=n∧n<=5){l:List Int}(h:BV l (Hu n l)=false):l.Nodup∧∀e∈l,0<=e∧e < n:=by
 have hw:IntKind.i64.wrap (n - 1)=n - 1:=wrap_in (by omega)
 constructor
 ·rw[CE,Cf]
  intro i j hi hj hij he
  have h1:=H6 h hj
  unfold Hu at h1
  simp only[Co]at h1
  have h2:=h1.2
  have h3:(l.take j).contains l[j]=true:=by
   rw[Bk,Bi]
   exact⟨i,by rw[At];omega,by rw[JN];exact he⟩
  rw[h3]at h2;cases h2
 ·intro e he
  obtain⟨k,hk,rfl⟩:=Bi.1 he
  have:=H6 h hk
  unfold Hu G9 at this
  simp only[Co,Db,Ac,BB,hw]at this
  omega
theorem rE{m:Int}(hm:0<=m∧m<=5){l:List Int}(h1:l.Nodup)(h2:∀e∈l,0<=e∧e < m):BV l (Hu m l)=false:=QB λi hi=>by
 have h3:=h2 _ (Ag hi)
 unfold Hu G9
 rw[wrap_in (by omega),Co]
 refine⟨by simp;omega,?_⟩
 rw[<-If,Bk]
 intro hm
 obtain⟨j,hj,he⟩:=Bi.1 hm
 rw[At]at hj
 rw[JN]at he
 rw[CE,Cf]at h1
 exact h1 j i (by omega) hi (by omega) he
theorem nV(a:RQ):(PP a 5).Nodup:=by
 unfold PP
 rw[CE,E7]
 have h:((List.range 5).filter λ(v:Nat)=>a.2.contains (v:Int)).Nodup:=List.Nodup.sublist List.filter_sublist Gs
 rw[CE]at h
 exact h.imp λh e=>h (by omega)
theorem Lu{q:MQ}{o:List Int}(h:Un q o=true):(o.length:Int)=q.1∧o.Nodup∧(∀v∈o,0<=v∧v < q.1)∧∀v:Int,0<=v->v < q.1->v∈o:=by
 unfold Un at h
 simp only[Ac,AT,BU]at h
 have hn:=TC h.1
 have h2:=AaT hn h.2.2
 refine⟨h.2.1,h2.1,h2.2,λv h0 h1=>?_⟩
 apply BW
 intro hno
 have:=few q.1.toNat (v::o) (BQ.2 ⟨hno,h2.1⟩) (λe he=>by
  rcases AC.1 he with rfl|he
  ·omega
  ·have:=h2.2 e he;omega)
 rw[Az]at this
 have:=h.2.1
 omega
def ME(V o:List Int):Nat->List Int
 |0=>[]
 |k+1=>ME V o k++cond (decide (0<=FY V (NH o (k:Int)))&& !(ME V o k).contains (FY V (NH o (k:Int)))) [FY V (NH o (k:Int))] []
theorem Z6(V o:List Int):∀k,(ME V o k).length<=k
 |0=>by simp[ME]
 |k+1=>by
  have:=Z6 V o k
  rw[ME,Aq]
  cases decide (0<=FY V (NH o (k:Int)))&& !(ME V o k).contains (FY V (NH o (k:Int)))
  ·rw[Aa,BY];omega
  ·rw[Ab,Ao];omega
theorem Ze(V o:List Int):∀k,(ME V o k).Nodup
 |0=>AF
 |k+1=>by
  rw[ME]
  cases hb:decide (0<=FY V (NH o (k:Int)))&& !(ME V o k).contains (FY V (NH o (k:Int)))with
  |false=>rw[Aa,AD];exact Ze V o k
  |true=>
   rw[Ac,AT]at hb
   rw[Ab]
   refine Ax.2 ⟨Ze V o k,by simp,λx hx y hy e=>?_⟩
   simp only[A7]at hy
   subst e hy
   have:=hb.2
   rw[<-If,Bk]at this
   exact this hx
theorem qJ{l:List Int}{v:Int}(h:0<=FY l v):FY l v < (l.length:Int)∧l.contains v=true:=by
 have hc:l.contains v=true:=by rw[<-Sw];exact Ah h
 obtain⟨k,hk,e1,_⟩:=Sx hc
 exact⟨by omega,hc⟩
theorem dS(V o:List Int):∀k,∀x∈ME V o k,0<=x∧x < (V.length:Int)
 |0,x,h=>by cases h
 |k+1,x,h=>by
  rw[ME]at h
  rcases Ak.1 h with h|h
  ·exact dS V o k x h
  ·cases hb:decide (0<=FY V (NH o (k:Int)))&& !(ME V o k).contains (FY V (NH o (k:Int)))with
   |false=>rw[hb]at h;cases h
   |true=>
    rw[hb,Ab,A7]at h
    rw[Ac,BB]at hb
    subst h
    exact⟨hb.1,(qJ hb.1).1⟩
theorem kR(V o:List Int){x:Int}:∀{d i:Nat},x∈ME V o i->x∈ME V o (i+d)
 |0,_,h=>h
 |d+1,i,h=>by
  rw[show i+(d+1)=(i+d)+1 by omega,ME]
  exact AA _ (kR V o h)
theorem ot{V o:List Int}(hn:V.Nodup){j i:Nat}(hj:j < V.length)(hi:i < o.length)(he:o[i]=V[j]):(j:Int)∈ME V o o.length:=by
 have hc:V.contains o[i]=true:=by rw[Bk,he];exact Ag hj
 obtain⟨p,hp,e1,e2⟩:=Sx hc
 have hpj:p=j:=by
  apply BW
  intro hne
  rw[CE,Cf]at hn
  rw[he]at e2
  rcases A8 p j with h|h
  ·exact hn p j hp hj h e2
  ·exact hn j p hj hp (by omega) e2.symm
 have hmem:(j:Int)∈ME V o (i+1):=by
  rw[ME,G8 hi,e1,hpj]
  rw[Ah (by omega:(0:Int)<=(j:Int)),AJ]
  cases hb:(ME V o i).contains (j:Int)with
  |true=>exact AA _ (Bk.1 hb)
  |false=>exact Av _ (by simp)
 have:=kR V o (d:=o.length - (i+1)) hmem
 rwa [show i+1+(o.length - (i+1))=o.length by omega]at this
theorem mJ{V o:List Int}(hn:V.Nodup)(h:∀v∈V,v∈o):(ME V o o.length).length=V.length:=by
 have h1:=few V.length (ME V o o.length) (Ze V o _) (dS V o _)
 have h2:((List.range V.length).map λ(j:Nat)=>(j:Int)).length<=(ME V o o.length).length:=by
  refine eP ?_ ?_
  ·rw[CE,E7]
   have h:=Gs (n:=V.length)
   rw[CE]at h
   exact h.imp λh e=>h (by omega)
  ·intro x hx
   obtain⟨j,hj,rfl⟩:=BF.1 hx
   have hj:=AL.1 hj
   obtain⟨i,hi,he⟩:=Bi.1 (h _ (Ag hj))
   exact ot hn hj hi he
 rw[Aj,D3]at h2
 omega
def dR(a:RQ)(o:List Int):List Int:=ME (PP a 5) o o.length
theorem Adz{a:RQ}{o:List Int}(ha:P6 a)(ho:o.length<=5):I9 a o=some (dR a o):=by
 have hal:a.2.length<=lim:=by have:=ha.1;unfold lim;omega
 have hv5:=Qf a 5
 unfold I9
 rw[Ady hal,Bz]
 have:=D7 (body:=EE o (PP a 5)) (out:=dR a o) (λk=>(ME (PP a 5) o k,(k:Int))) o.length (λk hk rec=>by
  have hl:=Z6 (PP a 5) o k
  have hJ:∀(v:Int) (b:Bool),FM rec (ME (PP a 5) o k) (k:Int) v b=rec (ME (PP a 5) o k++cond b [v] [],((k+1:Nat):Int)):=λv b=>by
   rw[FM]
   cases b with
   |true=>rw[Ab,AN (by simp only[Ao];unfold lim;omega),FN,Bn hk (by unfold maxLen;omega)];rfl
   |false=>rw[Aa,FN,Bn hk (by unfold maxLen;omega),Aa,AD]
  rw[EE,ME]
  rw[Bl hk,AK hk,Ab,Bz,Ye (by unfold lim;omega),Bz,G8 hk]
  cases hd:decide (0<=FY (PP a 5) o[k])with
  |true=>rw[Ab,Ye (by unfold lim;omega),Bz,oT,hJ,AJ]
  |false=>rw[Aa,hJ,J9]) (λrec=>by rw[EE];rw[Bh];rfl) fz (EO (by unfold lim;omega))
 rw[show((([]:List Int),(0:Int)))=(ME (PP a 5) o 0,((0:Nat):Int))from rfl,this]
 rfl
theorem Ace{a:RQ}{o:List Int}(ha:P6 a)(ho:o.length<=5):IS a o=some (dR a o):=by
 have hal:a.2.length<=lim:=by have:=ha.1;unfold lim;omega
 have hv5:=Qf a 5
 unfold IS
 rw[Acb hal (λv=>o8 hal v),Bz]
 have:=D7 (body:=EC o (PP a 5)) (out:=dR a o) (λk=>(ME (PP a 5) o k,(k:Int))) o.length (λk hk rec=>by
  have hl:=Z6 (PP a 5) o k
  have hJ:∀(v:Int) (b:Bool),Fv rec (ME (PP a 5) o k) (k:Int) v b=rec (ME (PP a 5) o k++cond b [v] [],((k+1:Nat):Int)):=λv b=>by
   rw[Fv]
   cases b with
   |true=>rw[Ab,AN (by simp only[Ao];unfold lim;omega),Fw,Bn hk (by unfold maxLen;omega)];rfl
   |false=>rw[Aa,Fw,Bn hk (by unfold maxLen;omega),Aa,AD]
  rw[EC,ME]
  rw[Bl hk,AK hk,Ab,Bz,jI (by unfold lim;omega),Bz,G8 hk]
  cases hd:decide (0<=FY (PP a 5) o[k])with
  |true=>rw[Ab,pb (by unfold lim;omega),Bz,hJ,AJ]
  |false=>rw[Aa,hJ,J9]) (λrec=>by rw[EC];rw[Bh];rfl) fz (EO (by unfold lim;omega))
 rw[show((([]:List Int),(0:Int)))=(ME (PP a 5) o 0,((0:Nat):Int))from rfl,this]
 rfl
def c9(r:Int×List (List Int))(c:List Int):Prop:=P2 r=true∧(c.length:Int)=r.1∧c.Nodup∧∀e∈c,0<=e∧e < r.1
def Vx(r:Int×List (List Int))(c:List Int):Int×List (List Int):=((c.length:Int),sortB (r.2.map λx=>Sv x c))
theorem Zr{r:Int×List (List Int)}{c:List Int}(h:c9 r c):Kg r.2∧c.length<=5∧(∀x∈r.2,∀e∈c,0<=e∧e < (x.length:Int))∧(∀x∈r.2.map λx=>Sv x c,(x.length:Int)=(c.length:Int)∧PQ x=true)∧r.2.length<=4000:=by
 obtain⟨h1,h2,h3,h4⟩:=h
 have h5:=Sz h1
 refine⟨⟨by have:=h5.2.2.1;unfold lim;omega,λx hx=>by have:=(h5.2.2.2 x hx).1;unfold lim;omega⟩,by omega,λx hx e he=>by have:=(h5.2.2.2 x hx).1;have:=h4 e he;omega,λy hy=>?_,h5.2.2.1⟩
 obtain⟨x,hx,rfl⟩:=BF.1 hy
 refine⟨by unfold Sv;rw[Aj],nW λv hv=>?_⟩
 unfold Sv at hv
 obtain⟨e,he,rfl⟩:=BF.1 hv
 have h6:=h4 e he
 have h7:=h5.2.2.2 x hx
 have e2:e=((e.toNat:Nat):Int):=by omega
 rw[e2,G8 (by omega)]
 exact jh h7.2 (by omega)
theorem j7{r:Int×List (List Int)}{c:List Int}(h:c9 r c):G9 (c.length:Int) 0 5=true∧Kg (r.2.map λx=>Sv x c):=by
 obtain⟨h1,h2,h3,h4,h5⟩:=Zr h
 refine⟨by unfold G9;simp;omega,by rw[Aj];exact h1.1,λx hx=>by have:=(h4 x hx).1;unfold lim;omega⟩
theorem AaQ{r:Int×List (List Int)}{c:List Int}(h:c9 r c):OA r c=some (Vx r c,true):=by
 obtain⟨h1,h2,h3,h4,h5⟩:=Zr h
 obtain⟨h6,h7⟩:=j7 h
 obtain⟨g1,g2,g3,g4⟩:=h
 have hr:=Sz g1
 have hloop:An (KT r c) fz 0=some (.inl ()):=by
  have:=TV (B:=KT r c) (n:=c.length) (λ_=>false) ((0,[]),false) (by unfold lim;omega) (λk hk rec=>by
   have he:=g4 _ (Ag hk)
   rw[KT]
   rw[Bl hk,AK hk,Ab,Bz,Lc,Bz,wrap_in (by omega),Bn hk (by unfold maxLen;omega)]
   have:G9 c[k] 0 (r.1 - 1)=true:=by unfold G9;simp;omega
   rw[this];rfl) (λrec=>by rw[KT];rw[Bh];rfl)
  rw[this]
  have e:((List.range c.length).any λ_=>false)=false:=by rw[CG];intro _ _;simp
  rw[e];rfl
 have hrows:An (Nc r c) fz (([]:List (List Int)),0)=some (r.2.map λx=>Sv x c):=
  J6 (a:=r.2) (h:=λx=>Sv x c) h1.1 (λk hk rec=>by
   rw[Nc]
   rw[Bl hk,AK hk,Bn hk (Bd h1.1),Ab,Bz,AaF (by unfold lim;omega) (h3 _ (Ag hk)),Bz,AN (by simp only[Aj,At,Ao];unfold lim;omega)]) (λrec y=>by rw[Nc];rw[Bh];rfl)
 have hp:Qw r c=some (Vx r c,true):=by
  unfold Qw Vx
  rw[hloop,Bz]
  simp only
  rw[mc h1,Bz,g1,Ai,Aa,Af (by omega),Aa,hrows,Bz,AaJ h7,Bz,qd h6 (by rw[Aj];exact h5) h4]
 unfold OA
 rw[rl (by unfold lim;omega),Bz,rE (by omega) g3 (λe he=>by have:=g4 e he;omega),Ah (by omega)]
 rw[show((c.length:Int)!=r.1)=false by rw[g2];simp,hp]
 rfl
theorem xx{r:Int×List (List Int)}{c:List Int}(h:c9 r c):NU r c=some (Vx r c,true):=by
 obtain⟨h1,h2,h3,h4,h5⟩:=Zr h
 obtain⟨h6,h7⟩:=j7 h
 obtain⟨g1,g2,g3,g4⟩:=h
 have hr:=Sz g1
 have hfit:Hq r.1 c=some true:=by
  by_cases h0:c.length=0
  ·have:c=[]:=Ba h0
   subst this
   unfold Hq
   rw[Af (by simp),Aa]
   have e:An (Gp r.1 []) fz 0=some (.inl ()):=D7 (body:=Gp r.1 []) (λ_=>(0:Int)) 0 (λk hk=>absurd hk (by omega)) (λrec=>by rw[Gp];rfl) fz (by unfold fz;omega)
   rw[e];rfl
  ·exact o7 (by omega) h2 g4
 have hrows:An (M0 r c) fz (([]:List (List Int)),0)=some (r.2.map λx=>Sv x c):=
  J6 (a:=r.2) (h:=λx=>Sv x c) h1.1 (λk hk rec=>by
   rw[M0]
   rw[Bl hk,AK hk,Bn hk (Bd h1.1),Ab,Bz,pg (by unfold lim;omega) (h3 _ (Ag hk)),Bz,AN (by simp only[Aj,At,Ao];unfold lim;omega)]) (λrec y=>by rw[M0];rw[Bh];rfl)
 have hp:Qj r c=some (Vx r c,true):=by
  unfold Qj Vx
  rw[gY h1,Bz,g1,Ai,Aa,hfit,Bz,Ai,Aa,hrows,Bz,Aes h7,Bz,qd h6 (by rw[Aj];exact h5) h4]
 unfold NU Ni Iu
 rw[Ah (by omega),Ab,pl (by unfold lim;omega),Bz,rE (by omega) g3 (λe he=>by have:=g4 e he;omega)]
 rw[show((c.length:Int)!=r.1)=false by rw[g2];simp,hp]
 rfl
theorem iJ{r:Int×List (List Int)}{c:List Int}(h:c9 r c):P2 (Vx r c)=true∧(Vx r c).2.length<=r.2.length:=by
 obtain⟨h1,h2,h3,h4,h5⟩:=Zr h
 refine⟨bm (j7 h).1 (by rw[Aj];exact h5) h4,?_⟩
 unfold Vx
 have:=Ou (r.2.map λx=>Sv x c)
 rw[Aj]at this
 exact this
def YH(d:List Tp)(o:List Int)(a:RQ):Int×List (List Int):=Vx (abB d a) (dR a o)
theorem Y6{d:List Tp}{q:MQ}{o:List Int}{a:RQ}(hq:KP q=true)(ho:Un q o=true)(ha:a∈q.2.1)(hf:Ip d a=true):P6 a∧c9 (abB d a) (dR a o):=by
 have h1:=VZ hq
 have h2:=h1.2.2.2 a ha
 have hok:P6 a:=⟨h2.1,λv hv=>by have:=h2.2 v hv;omega⟩
 have h3:=Lu ho
 have hfull:(dR a o).length=(PP a 5).length:=mJ (nV a) λv hv=>by
  have hm:=VH.1 hv
  have:=h2.2 v (Bk.1 hm.2)
  exact h3.2.2.2 v this.1 this.2
 refine⟨hok,(nO hok hf).1,?_,Ze _ _ _,λe he=>?_⟩
 ·show((dR a o).length:Int)=((PP a 5).length:Int)
  rw[hfull]
 ·exact dS _ _ _ e he
theorem iL{d:List Tp}{q:MQ}(h:Ks d q=true):KP q=true∧dbB d=true∧∀a∈q.2.1,Ip d a=true:=by
 unfold Ks at h
 simp only[Ac,AT]at h
 refine⟨h.1,h.2.1,λa ha=>?_⟩
 obtain⟨k,hk,rfl⟩:=Bi.1 ha
 have:=H6 h.2.2 hk
 simpa using this
def Yo(d:List Tp)(q:MQ)(o:List Int):List (Int×List (List Int))×Bool:=cond (Ks d q&&Un q o) (q.2.1.map (YH d o),true) ([],false)
theorem uV{d:List Tp}{q:MQ}{o:List Int}(h:Ut d)(hq:Vz q)(ho:o.length<=lim):Na d q o=some (Yo d q o):=by
 unfold Na Yo
 rw[rp h hq,Bz]
 cases hf:Ks d q with
 |false=>rfl
 |true=>
  rw[Ai,Aa,uR hq ho,Bz]
  cases hor:Un q o with
  |false=>rfl
  |true=>
   have hfit:=iL hf
   have h1:=VZ hfit.1
   have hol:o.length<=5:=by have:=(Lu hor).1;omega
   rw[Ai,Aa]
   have:=wH (v:=(([]:List (Int×List (List Int))),false)) (B:=KG d q o) (n:=q.2.1.length) (λk=>(q.2.1.take k).map (YH d o)) (λ_=>false) hq.1 (λk hk rec=>by
    have hmem:=Ag hk
    obtain⟨hok,hp⟩:=Y6 hfit.1 hor hmem (hfit.2.2 _ hmem)
    have hs:=AaQ hp
    rw[KG]
    rw[Bl hk,AK hk,Bn hk (Bd hq.1),Ab,Bz,Adv h hok (hfit.2.2 _ hmem),Bz,Bz,Adz hok hol,Bz,hs,Bz,Ai,Aa,AN (by simp only[Aj,At,Ao];unfold lim;omega),A9 hk,BM]
    rfl) (λrec=>by rw[KG];rw[Bh];rfl)
   have e:((List.range q.2.1.length).any λ_=>false)=false:=by rw[CG];intro _ _;simp
   rw[e,By]at this
   rw[show((([]:List (Int×List (List Int))),(0:Int)))=((q.2.1.take 0).map (YH d o),0)from rfl,this]
   rfl
theorem tD{d:List Tp}{q:MQ}{o:List Int}(h:Ut d)(hq:Vz q)(ho:o.length<=lim):MY d q o=some (Yo d q o):=by
 unfold MY Yo
 rw[pi h hq,Bz]
 cases hf:Ks d q with
 |false=>rfl
 |true=>
  rw[Ai,Aa,tw hq ho,Bz]
  cases hor:Un q o with
  |false=>rfl
  |true=>
   have hfit:=iL hf
   have h1:=VZ hfit.1
   have hol:o.length<=5:=by have:=(Lu hor).1;omega
   rw[Ai,Aa]
   rw[J6 (a:=q.2.1) (h:=YH d o) hq.1 (λk hk rec=>by
    have hmem:=Ag hk
    obtain⟨hok,hp⟩:=Y6 hfit.1 hor hmem (hfit.2.2 _ hmem)
    have hs:=xx hp
    rw[Nh]
    rw[Bl hk,AK hk,Bn hk (Bd hq.1),Ab,Bz,Ab7 h hok (hfit.2.2 _ hmem),Bz,Ace hok hol,Bz,hs,Bz,AN (by simp only[Aj,At,Ao];unfold lim;omega)]
    rfl) (λrec y=>by rw[Nh];rw[Bh];rfl)]
   rfl
abbrev V8:=Int×List (List Int)
theorem sub_le{r:List Int}{lo hi:Int}:(CC r lo hi).length<=r.length:=by
 unfold CC
 rw[A6,At];omega
theorem uA{t:V8}{pre:List Int}(h:Kg t.2):J2 t pre=C2 t pre:=by
 funext rec y
 rw[J2,C2]
 cases hg:AI t.2 y with
 |none=>rfl
 |some e=>
  have hm:e∈t.2:=BZ (Be hg).2.2
  have hl:(CC e 0 (pre.length:Int)).length<=lim:=BC sub_le (h.2 e hm)
  rw[Bz,Bz,YE hl,cE hl]
theorem uB{t:V8}{pre:List Int}(h:Kg t.2):J3 t pre=C3 t pre:=by
 funext rec y
 rw[J3,C3]
 cases hg:AI t.2 y with
 |none=>rfl
 |some e=>
  have hm:e∈t.2:=BZ (Be hg).2.2
  have hl:(CC e 0 (pre.length:Int)).length<=lim:=BC sub_le (h.2 e hm)
  rw[Bz,Bz,YE hl,cE hl]
def R8(t:V8)(n:Nat):Prop:=P2 t=true∧(n:Int)<=t.1
theorem V4{t:V8}{n:Nat}(h:R8 t n):Kg t.2∧t.2.length<=4000∧∀r∈t.2,(r.length:Int)=t.1∧r.length<=5:=by
 have h1:=Sz h.1
 exact⟨⟨by have:=h1.2.2.1;unfold lim;omega,λx hx=>by have:=(h1.2.2.2 x hx).1;unfold lim;omega⟩,h1.2.2.1,λr hr=>⟨(h1.2.2.2 r hr).1,by have:=(h1.2.2.2 r hr).1;omega⟩⟩
theorem qP{t:V8}{pre:List Int}(h:R8 t pre.length):∃o,An (C2 t pre) fz 0=some o∧∃k:Nat,o=(k:Int)∧k<=t.2.length:=by
 obtain⟨h1,h2,h3⟩:=V4 h
 refine Qr (B:=C2 t pre) (λs=>∃k:Nat,s=(k:Int)∧k<=t.2.length) (λs=>t.2.length - s.toNat) (λo=>∃k:Nat,o=(k:Int)∧k<=t.2.length) ?_ fz 0 ⟨0,rfl,by omega⟩ (by unfold fz;omega)
 rintro s ⟨k,rfl,hk⟩
 rcases A8 k t.2.length with hlt|hge
 ·have hr:=h3 _ (Ag hlt)
  have hl:(CC t.2[k] 0 (pre.length:Int)).length<=lim:=BC sub_le (h1.2 _ (Ag hlt))
  have e:∀rec,C2 t pre rec (k:Int)=cond (decide (EH (CC t.2[k] 0 (pre.length:Int)) pre < 0)) (rec ((k+1:Nat):Int)) (some (k:Int)):=λrec=>by
   rw[C2]
   rw[Bl hlt,AK hlt,Bn hlt (Bd h1.1),Ab,Bz,AN (by have:=h.2;omega),YE hl,Bz]
  cases hc:decide (EH (CC t.2[k] 0 (pre.length:Int)) pre < 0)with
  |true=>exact .inr ⟨((k+1:Nat):Int),⟨k+1,rfl,hlt⟩,by rw[As,As];omega,λrec=>by rw[e,hc];rfl⟩
  |false=>exact .inl ⟨(k:Int),⟨k,rfl,hk⟩,λrec=>by rw[e,hc];rfl⟩
 ·refine .inl ⟨(k:Int),⟨k,rfl,hk⟩,λrec=>?_⟩
  rw[C2]
  rw[Af (by omega:¬(k:Int) < (t.2.length:Int))];rfl
theorem qO{t:V8}{pre:List Int}(h:R8 t pre.length){lo:Nat}(hlo:lo<=t.2.length):∃o,An (C3 t pre) fz (lo:Int)=some o∧∃k:Nat,o=(k:Int)∧lo<=k∧k<=t.2.length:=by
 obtain⟨h1,h2,h3⟩:=V4 h
 refine Qr (B:=C3 t pre) (λs=>∃k:Nat,s=(k:Int)∧lo<=k∧k<=t.2.length) (λs=>t.2.length - s.toNat) (λo=>∃k:Nat,o=(k:Int)∧lo<=k∧k<=t.2.length) ?_ fz (lo:Int) ⟨lo,rfl,AW _,hlo⟩ (by unfold fz;omega)
 rintro s ⟨k,rfl,hk0,hk⟩
 rcases A8 k t.2.length with hlt|hge
 ·have hr:=h3 _ (Ag hlt)
  have hl:(CC t.2[k] 0 (pre.length:Int)).length<=lim:=BC sub_le (h1.2 _ (Ag hlt))
  have e:∀rec,C3 t pre rec (k:Int)=cond (EH (CC t.2[k] 0 (pre.length:Int)) pre==0) (rec ((k+1:Nat):Int)) (some (k:Int)):=λrec=>by
   rw[C3]
   rw[Bl hlt,AK hlt,Bn hlt (Bd h1.1),Ab,Bz,AN (by have:=h.2;omega),YE hl,Bz]
  cases hc:(EH (CC t.2[k] 0 (pre.length:Int)) pre==0)with
  |true=>exact .inr ⟨((k+1:Nat):Int),⟨k+1,rfl,by omega,hlt⟩,by rw[As,As];omega,λrec=>by rw[e,hc];rfl⟩
  |false=>exact .inl ⟨(k:Int),⟨k,rfl,hk0,hk⟩,λrec=>by rw[e,hc];rfl⟩
 ·refine .inl ⟨(k:Int),⟨k,rfl,hk0,hk⟩,λrec=>?_⟩
  rw[C3]
  rw[Af (by omega:¬(k:Int) < (t.2.length:Int))];rfl
theorem fg{t:V8}{pre:List Int}(h:R8 t pre.length):∃lo hi:Nat,lo<=hi∧hi<=t.2.length∧An (C2 t pre) fz 0=some (lo:Int)∧An (C3 t pre) fz (lo:Int)=some (hi:Int)∧G5 t pre=some ((lo:Int),(hi:Int)):=by
 obtain⟨h1,h2,h3⟩:=V4 h
 obtain⟨o1,e1,lo,rfl,hlo⟩:=qP h
 obtain⟨o2,e2,hi,rfl,hhi⟩:=qO h hlo
 refine⟨lo,hi,hhi.1,hhi.2,e1,e2,?_⟩
 unfold G5 Pe Uw
 rw[Bz,mc h1,Bz,Bz,h.1,Ai,Aa,Af (by have:=h.2;omega),Aa,e1,Bz,e2,Bz]
theorem uC{t:V8}{pre:List Int}(h:R8 t pre.length){lo hi:Nat}(e1:An (C2 t pre) fz 0=some (lo:Int))(e2:An (C3 t pre) fz (lo:Int)=some (hi:Int)):GM t pre=some ((lo:Int),(hi:Int)):=by
 obtain⟨h1,h2,h3⟩:=V4 h
 unfold GM JY M1
 rw[Af (by have:=h.2;omega),Aa,Bz,gY h1,Bz,Bz,h.1,Ai,Aa,uA h1,uB h1,e1,Bz,e2,Bz]
def pushB(out:List Int)(v:Int):Bool:=match out.getLast? with
 |none=>true
 |some x=>x !=v
def Xq(S:List (List Int))(p:Nat):Nat->List Int
 |0=>[]
 |k+1=>Xq S p k++cond (pushB (Xq S p k) (NH ((S[k]?).getD []) (p:Int))) [NH ((S[k]?).getD []) (p:Int)] []
theorem Za(S:List (List Int))(p:Nat):∀k,(Xq S p k).length<=k
 |0=>by simp[Xq]
 |k+1=>by
  have:=Za S p k
  rw[Xq,Aq]
  cases pushB (Xq S p k) (NH ((S[k]?).getD []) (p:Int))
  ·rw[Aa,BY];omega
  ·rw[Ab,Ao];omega
theorem cK{out:List Int}(h:out.length<=4000)(v:Int){α:Type}(f:Bool->Option α):cond ((out.length:Int)==0) (f true) (G (AI out (IntKind.i64.wrap ((out.length:Int) - 1))) λe=>f (e !=v))=f (pushB out v):=by
 by_cases h0:out.length=0
 ·have:out=[]:=Ba h0
  subst this;rfl
 ·have hj:out.length - 1 < out.length:=by omega
  have e:((out.length:Int)==0)=false:=by rw[Bw];omega
  rw[e,Aa,wrap_in (by omega),show(out.length:Int) - 1=((out.length - 1:Nat):Int)by omega,AK hj,Bz]
  unfold pushB
  rw[List.getLast?_eq_getElem?,Ad hj]
theorem wS{t:V8}{pre:List Int}(h:R8 t pre.length){lo hi:Nat}(hlh:lo<=hi)(hhi:hi<=t.2.length)(es:G5 t pre=some ((lo:Int),(hi:Int))):Gf t pre=some (if(pre.length:Int) < t.1 then Xq (CC t.2 (lo:Int) (hi:Int)) pre.length (hi - lo)else []):=by
 obtain⟨h1,h2,h3⟩:=V4 h
 by_cases hp:(pre.length:Int) < t.1
 ·rw[AH hp]
  have hSl:(CC t.2 (lo:Int) (hi:Int)).length=hi - lo:=by
   unfold CC;rw[As,As,A6,At];omega
  have hS:∀k,k < hi - lo->(CC t.2 (lo:Int) (hi:Int))[k]? =t.2[lo+k]?:=λk hk=>by
   unfold CC
   rw[As,As,Cz,Dv,AH (by omega)]
  have hat:∀k,k < hi - lo->∃r,t.2[lo+k]? =some r∧r∈t.2∧AI r (pre.length:Int)=some (NH r (pre.length:Int)):=λk hk=>by
   have hlt:lo+k < t.2.length:=by omega
   have hr:=h3 _ (Ag hlt)
   exact⟨_,Ad hlt,Ag hlt,by rw[AK (by omega),G8 (by omega)]⟩
  unfold Gf
  rw[es,Bz]
  have:=D7 (body:=DL t pre ((lo:Int),(hi:Int))) (out:=Xq (CC t.2 (lo:Int) (hi:Int)) pre.length (hi - lo)) (λk=>(Xq (CC t.2 (lo:Int) (hi:Int)) pre.length k,((lo+k:Nat):Int))) (hi - lo) (λk hk rec=>by
   obtain⟨r,e1,hm,e2⟩:=hat k hk
   have hl:=Za (CC t.2 (lo:Int) (hi:Int)) pre.length k
   have hJ:∀b:Bool,FT rec (Xq (CC t.2 (lo:Int) (hi:Int)) pre.length k) ((lo+k:Nat):Int) (NH r (pre.length:Int)) b=rec (Xq (CC t.2 (lo:Int) (hi:Int)) pre.length k++cond b [NH r (pre.length:Int)] [],((lo+(k+1):Nat):Int)):=λb=>by
    have hw:IntKind.i64.wrap (((lo+k:Nat):Int)+1)=((lo+(k+1):Nat):Int):=by rw[wrap_in (by omega)];omega
    rw[FT]
    cases b with
    |true=>rw[Ab,AN (by simp only[Ao];unfold lim;omega),G4,hw];rfl
    |false=>rw[Aa,G4,hw,Aa,AD]
   rw[DL,Xq,hS k hk,e1]
   rw[Ah (by omega:((lo+k:Nat):Int) < (hi:Int)),Ab,Ah hp,Ab,F0,e1,Bz,e2,Bz,Cl]
   rw[cK (by omega) (NH r (pre.length:Int)) (λb=>FT rec (Xq (CC t.2 (lo:Int) (hi:Int)) pre.length k) ((lo+k:Nat):Int) (NH r (pre.length:Int)) b),hJ]) (λrec=>by
   rw[DL]
   rw[Af (by omega:¬((lo+(hi - lo):Nat):Int) < (hi:Int))];rfl) fz (by unfold fz;omega)
  rw[show((([]:List Int),(lo:Int)))=(Xq (CC t.2 (lo:Int) (hi:Int)) pre.length 0,((lo+0:Nat):Int))from rfl,this]
  rfl
 ·rw[AE hp]
  unfold Gf
  rw[es,Bz]
  have:An (DL t pre ((lo:Int),(hi:Int))) fz (([]:List Int),(lo:Int))=some []:=D7 (body:=DL t pre ((lo:Int),(hi:Int))) (λ_=>(([]:List Int),(lo:Int))) 0 (λk hk=>absurd hk (by omega)) (λrec=>by
   rw[DL]
   rw[Af hp]
   cases decide ((lo:Int) < (hi:Int))<;>rfl) fz (by unfold fz;omega)
  rw[show(((lo:Int),(hi:Int)):Int×Int).1=(lo:Int)from rfl,this]
  rfl
theorem AbM{t:V8}{pre:List Int}(h:R8 t pre.length){lo hi:Nat}(hlh:lo<=hi)(hhi:hi<=t.2.length)(ei:GM t pre=some ((lo:Int),(hi:Int))):He t pre=some (if(pre.length:Int) < t.1 then Xq (CC t.2 (lo:Int) (hi:Int)) pre.length (hi - lo)else []):=by
 obtain⟨h1,h2,h3⟩:=V4 h
 by_cases hp:(pre.length:Int) < t.1
 ·rw[AH hp]
  have hSl:(CC t.2 (lo:Int) (hi:Int)).length=hi - lo:=by
   unfold CC;rw[As,As,A6,At];omega
  have hS:∀k,k < hi - lo->(CC t.2 (lo:Int) (hi:Int))[k]? =t.2[lo+k]?:=λk hk=>by
   unfold CC
   rw[As,As,Cz,Dv,AH (by omega)]
  have hat:∀k,k < hi - lo->∃r,t.2[lo+k]? =some r∧r∈t.2∧AI r (pre.length:Int)=some (NH r (pre.length:Int)):=λk hk=>by
   have hlt:lo+k < t.2.length:=by omega
   have hr:=h3 _ (Ag hlt)
   exact⟨_,Ad hlt,Ag hlt,by rw[AK (by omega),G8 (by omega)]⟩
  unfold He
  rw[Af (by omega:¬t.1<=(pre.length:Int)),Aa]
  unfold JY M1
  rw[Bz,gY h1,Bz,Bz,h.1,Ai,Aa,ei,Bz,AN (by simp only;omega)]
  have:=D7 (body:=FA t pre ((lo:Int),(hi:Int))) (out:=Xq (CC t.2 (lo:Int) (hi:Int)) pre.length (hi - lo)) (λk=>(Xq (CC t.2 (lo:Int) (hi:Int)) pre.length k,(k:Int))) (hi - lo) (λk hk rec=>by
   obtain⟨r,e1,hm,e2⟩:=hat k hk
   have hl:=Za (CC t.2 (lo:Int) (hi:Int)) pre.length k
   have hJ:∀b:Bool,FB rec pre (Xq (CC t.2 (lo:Int) (hi:Int)) pre.length k) (k:Int) r b=rec (Xq (CC t.2 (lo:Int) (hi:Int)) pre.length k++cond b [NH r (pre.length:Int)] [],((k+1:Nat):Int)):=λb=>by
    have hw:IntKind.i64.wrap ((k:Int)+1)=((k+1:Nat):Int):=by rw[wrap_in (by omega)];omega
    rw[FB]
    cases b with
    |true=>rw[Ab,e2,Bz,AN (by simp only[Ao];unfold lim;omega),GL,hw];rfl
    |false=>rw[Aa,GL,hw,Aa,AD]
   rw[FA,Xq]
   rw[hSl,Ah (by omega:(k:Int) < ((hi - lo:Nat):Int)),Ab,F0,hS k hk,e1,Bz,e2,Cl]
   simp only[Bz]
   rw[cK (by omega) (NH r (pre.length:Int)) (λb=>FB rec pre (Xq (CC t.2 (lo:Int) (hi:Int)) pre.length k) (k:Int) r b),hJ]) (λrec=>by
   rw[FA]
   rw[hSl,Bh];rfl) fz (by unfold fz;omega)
  rw[show((([]:List Int),(0:Int)))=(Xq (CC t.2 (lo:Int) (hi:Int)) pre.length 0,((0:Nat):Int))from rfl,this]
  rfl
 ·rw[AE hp]
  unfold He
  rw[Ah (by omega:t.1<=(pre.length:Int))];rfl
def chB(t:V8)(pre:List Int):List Int:=(Gf t pre).getD []
theorem AeJ{t:V8}{pre:List Int}(h:R8 t pre.length):Gf t pre=some (chB t pre):=by
 obtain⟨lo,hi,h1,h2,_,_,e⟩:=fg h
 unfold chB;rw[wS h h1 h2 e];rfl
theorem Ael{t:V8}{pre:List Int}(h:R8 t pre.length):He t pre=some (chB t pre):=by
 obtain⟨lo,hi,h1,h2,e1,e2,e⟩:=fg h
 unfold chB;rw[wS h h1 h2 e,AbM h h1 h2 (uC h e1 e2)];rfl
def Wv(q:MQ)(v:Int)(k:Nat):List Nat:=(List.range k).filter λi=>Jz q.2.1 i λa=>a.2.contains v
theorem vO(q:MQ)(v:Int)(k:Nat):Wv q v (k+1)=Wv q v k++cond (Jz q.2.1 k λa=>a.2.contains v) [k] []:=by
 unfold Wv
 rw[Ls,LU,Nn,List.filter_nil]
 cases(Jz q.2.1 k λa=>a.2.contains v)<;>rfl
theorem Zm(q:MQ)(v:Int)(k:Nat):(Wv q v k).length<=k:=by
 unfold Wv
 exact BC (FF _ _) (by simp)
def ixB(q:MQ)(v:Int):List Int:=(Wv q v q.2.1.length).map λ(i:Nat)=>(i:Int)
theorem AeN{q:MQ}(hq:Vz q)(hv:KP q=true)(v:Int):HV q v=some (ixB q v):=by
 unfold HV
 have hlim:=hq.1
 have h4:=(VZ hv).2.2.1
 have:=D7 (body:=E1 q v) (out:=ixB q v) (λk=>((Wv q v k).map λ(i:Nat)=>(i:Int),(k:Int))) q.2.1.length (λk hk rec=>by
  have hl:=Zm q v k
  have hJ:∀y,E2 rec (k:Int) y=rec (y,((k+1:Nat):Int)):=λy=>by rw[E2,Bn hk (Bd hq.1)]
  rw[E1,vO,CD hk,BM]
  rw[Bl hk,Ab,Zu hq,Bz,hv,Ab,AK hk,Bz,rc (hq.2.1 _ (Ag hk)).2,Bz,hJ,hJ]
  cases q.2.1[k].2.contains v with
  |true=>rw[Ab,AN (by rw[Aj];simp only[Ao];unfold lim;omega)];rfl
  |false=>rw[Aa,Aa,Dc,AD]) (λrec=>by rw[E1];rw[Bh];rfl) fz (EO hq.1)
 rw[show((([]:List Int),(0:Int)))=((Wv q v 0).map λ(i:Nat)=>(i:Int),((0:Nat):Int))from rfl,this]
 rfl
theorem xA{q:MQ}{v:Int}{i:Nat}(h:i∈Wv q v q.2.1.length):∃hi:i < q.2.1.length,(q.2.1[i]).2.contains v=true:=by
 unfold Wv at h
 have h1:=Cp.1 h
 have h2:=AL.1 h1.1
 exact⟨h2,by have:=h1.2;rw[CD h2]at this;exact this⟩
def dV(a:RQ)(o:List Int)(k:Nat):Nat:=((o.take k).filter a.2.contains).length
theorem AbP(a:RQ){o:List Int}{k:Nat}(hk:k < o.length):dV a o (k+1)=dV a o k+cond (a.2.contains o[k]) 1 0:=by
 unfold dV
 rw[oS _ hk,Aq]
 cases a.2.contains o[k]<;>rfl
theorem oC(a:RQ)(o:List Int)(k:Nat):dV a o k<=k:=by
 unfold dV
 exact BC (FF _ _) (by simp;omega)
structure TriesOk (T:List V8) (q:MQ) (o:List Int):Prop where
 sm:Vz q
 qv:KP q=true
 ov:Un q o=true
 len:T.length=q.2.1.length
 rel:∀(i:Nat) (hi:i < q.2.1.length),P2 (T[i]'(by rw[len];exact hi))=true∧(T[i]'(by rw[len];exact hi)).1=((PP q.2.1[i] 5).length:Int)
theorem mp{T:List V8}{q:MQ}{o:List Int}(h:TriesOk T q o){i k:Nat}(hi:i < q.2.1.length)(hk:k<=o.length):R8 (T[i]'(by rw[h.len];exact hi)) (dV q.2.1[i] o k):=by
 have h1:=h.rel i hi
 refine⟨h1.1,?_⟩
 rw[h1.2]
 have ho:=Lu h.ov
 have hq:=TC h.qv
 have:((o.take k).filter q.2.1[i].2.contains).length<=(PP q.2.1[i] 5).length:=eP ((ho.2.1.sublist (List.take_sublist _ _)).sublist List.filter_sublist) λv hv=>by
  have h2:=Cp.1 hv
  have h3:=ho.2.2.1 v (El h2.1)
  exact VH.2 ⟨by omega,h2.2⟩
 unfold dV
 omega
theorem xB{q:MQ}(hv:KP q=true){v:Int}(h0:0<=v)(h1:v < q.1):(Wv q v q.2.1.length).length≠0:=by
 unfold KP at hv
 simp only[Ac,AT]at hv
 have h2:=hv.2.2.2.2
 have h3:=CG.1 h2 v.toNat (AL.2 (by omega))
 rw[show((v.toNat:Nat):Int)=v by omega]at h3
 simp only[If,Db]at h3
 unfold JA at h3
 obtain⟨a,ha,hc⟩:=Dj.1 h3
 obtain⟨i,hi,rfl⟩:=Bi.1 ha
 have:i∈Wv q v q.2.1.length:=by
  unfold Wv
  exact Cp.2 ⟨AL.2 hi,by rw[CD hi];exact hc⟩
 intro e
 rw[Ba e]at this
 cases this
theorem bR{d:List Tp}{q:MQ}{o:List Int}(hq:Vz q)(hf:Ks d q=true)(ho:Un q o=true):TriesOk (q.2.1.map (YH d o)) q o:=by
 have hfit:=iL hf
 refine⟨hq,hfit.1,ho,by rw[Aj],λi hi=>?_⟩
 have hmem:=Ag hi
 obtain⟨hok,hp⟩:=Y6 hfit.1 ho hmem (hfit.2.2 _ hmem)
 rw[BJ]
 refine⟨(iJ hp).1,?_⟩
 show((dR q.2.1[i] o).length:Int)=_
 exact hp.2.1
def KR(l:List Int)(i:Nat)(t:Int):Nat:=i+((l.drop i).takeWhile λx=>decide (x < t)).length
theorem QF{l:List Int}{i:Nat}{t:Int}(h:∀hi:i < l.length,¬l[i] < t):KR l i t=i:=by
 unfold KR
 rcases A8 i l.length with hi|hi
 ·rw[AO hi,List.takeWhile_cons,AE (by simpa using h hi)];rfl
 ·rw[BO hi];rfl
theorem Zv{l:List Int}{i:Nat}{t:Int}(hi:i < l.length)(h:l[i] < t):KR l i t=KR l (i+1) t:=by
 unfold KR
 rw[AO hi,List.takeWhile_cons,AH (by simpa using h),Az];omega
theorem Zw{l:List Int}{t:Int}:∀(d i:Nat),i+d=l.length->i<=KR l i t∧KR l i t<=l.length∧(∀k (hk:k < l.length),i<=k->k < KR l i t->l[k] < t)∧(∀h:KR l i t < l.length,t<=l[KR l i t])
 |0,i,h=>by
  have e:KR l i t=i:=QF λhi=>absurd hi (by omega)
  rw[e]
  exact⟨AW _,by omega,λk hk h1 h2=>by omega,λh=>by omega⟩
 |d+1,i,h=>by
  have hi:i < l.length:=by omega
  by_cases hc:l[i] < t
  ·obtain⟨h1,h2,h3,h4⟩:=Zw (l:=l) (t:=t) d (i+1) (by omega)
   rw[Zv hi hc]
   refine⟨by omega,h2,λk hk h5 h6=>?_,h4⟩
   rcases A8 i k with h7|h7
   ·exact h3 k hk h7 h6
   ·have:k=i:=by omega
    subst this;exact hc
  ·have e:KR l i t=i:=QF λ_=>hc
   rw[e]
   exact⟨AW _,by omega,λk hk h1 h2=>by omega,λ_=>by omega⟩
theorem AaN{l:List Int}{i:Nat}{t:Int}(hl:l.length<=lim)(hi:i<=l.length):OF l (i:Int) t=some ((KR l i t:Nat):Int):=by
 unfold OF
 rw[show(if(0:Int) < (i:Int)then(i:Int)else 0)=(i:Int)by split<;>omega]
 obtain⟨o,e,k,rfl,q1,q2⟩:=Qr (B:=Jk l t) (λs=>∃k:Nat,s=(k:Int)∧k<=l.length∧KR l k t=KR l i t) (λs=>l.length - s.toNat) (λo=>∃k:Nat,o=(k:Int)∧k<=l.length∧k=KR l i t) (λs hs=>by
  obtain⟨k,rfl,hk,he⟩:=hs
  rcases A8 k l.length with h1|h1
  ·by_cases hc:l[k] < t
   ·right
    refine⟨((k+1:Nat):Int),⟨k+1,rfl,h1,by rw[<-Zv h1 hc];exact he⟩,by simp only[As];omega,λrec=>?_⟩
    unfold Jk
    rw[Bl h1,AK h1,Bn h1 (Bd hl)]
    simp only[Ab,G]
    rw[Ah hc];rfl
   ·left
    refine⟨(k:Int),⟨k,rfl,hk,by rw[<-he];exact(QF λ_=>hc).symm⟩,λrec=>?_⟩
    unfold Jk
    rw[Bl h1,AK h1]
    simp only[Ab,G]
    rw[Af hc];rfl
  ·left
   refine⟨(k:Int),⟨k,rfl,hk,by rw[<-he];exact(QF λhi=>absurd hi (by omega)).symm⟩,λrec=>?_⟩
   unfold Jk
   rw[Af (by omega)];rfl) fz (i:Int) ⟨i,rfl,hi,rfl⟩ (by unfold fz;unfold lim at hl;omega)
 rw[e]
 simp only[G]
 rw[<-q2]
 rw[AE (by omega:¬(l.length:Int) < 0),AE (by omega)]
def gL(M:List (List Int))(j:Nat):List Int:=(M[j]?).getD []
def gN(A:List Nat)(j:Nat):Nat:=(A[j]?).getD 0
def gI(l:List Int)(i:Nat):Int:=(l[i]?).getD 0
theorem Ry{M:List (List Int)}{j:Nat}(h:j < M.length):gL M j=M[j]:=by unfold gL;rw[Ad h];rfl
theorem AbZ{A:List Nat}{j:Nat}(h:j < A.length):gN A j=A[j]:=by unfold gN;rw[Ad h];rfl
theorem NP{l:List Int}{i:Nat}(h:i < l.length):gI l i=l[i]:=by unfold gI;rw[Ad h];rfl
theorem am{A:List Nat}{p j v:Nat}(hp:p < A.length):gN (A.set p v) j=if j=p then v else gN A j:=by
 unfold gN
 rw[Gg]
 by_cases h:p=j
 ·subst h
  rw[AH rfl,AH hp,AH rfl];rfl
 ·rw[AE h,AE (λe=>h e.symm)]
abbrev LfS:=List Int×List Nat×Nat×Int×Nat
def Yz(M:List (List Int))(s:LfS):Nat:=cond (gI (gL M s.2.2.1) (gN s.2.1 s.2.2.1)==s.2.2.2.1) (gN s.2.1 s.2.2.1+1) (KR (gL M s.2.2.1) (gN s.2.1 s.2.2.1) s.2.2.2.1)
def lfO(M:List (List Int))(s:LfS):List Int:=cond (gI (gL M s.2.2.1) (gN s.2.1 s.2.2.1)==s.2.2.2.1) (s.1++[s.2.2.2.1]) s.1
def lfR(M:List (List Int)):Nat->LfS->Option (List Int×Nat)
 |0,_=>none
 |m+1,s=>cond (Yz M s==(gL M s.2.2.1).length) (some (lfO M s,s.2.2.2.2+1)) (lfR M m (lfO M s,s.2.1.set s.2.2.1 (Yz M s),(s.2.2.1+1) % M.length,gI (gL M s.2.2.1) (Yz M s),s.2.2.2.2+1))
def Asc(l:List Int):Prop:=l.Pairwise λa b=>a < b
def val(M:List (List Int))(A:List Nat)(j:Nat):Int:=gI (gL M j) (gN A j)
def Us(M:List (List Int))(A:List Nat):Nat->Nat
 |0=>0
 |k+1=>Us M A k+((gL M k).length - gN A k)
def Comm(M:List (List Int))(x:Int):Prop:=∀l∈M,x∈l
structure LfOk (M:List (List Int)) (s:LfS):Prop where
 len:s.2.1.length=M.length
 p:s.2.2.1 < M.length
 at_:∀j,j < M.length->gN s.2.1 j < (gL M j).length
 ord:∀a b,a<=b->b < M.length->val M s.2.1 ((s.2.2.1+a) % M.length)<=val M s.2.1 ((s.2.2.1+b) % M.length)
 top:val M s.2.1 ((s.2.2.1+(M.length - 1)) % M.length)=s.2.2.2.1
 asc:Asc s.1
 low:∀x∈s.1,x < s.2.2.2.1
 com:∀x∈s.1,Comm M x
 all:∀x,Comm M x->x∈s.1∨s.2.2.2.1<=x
section
variable {M:List (List Int)}{s:LfS}
theorem eF{l:List Int}(h:Asc l){i j:Nat}(hj:j < l.length)(hij:i < j):l[i]'(by omega) < l[j]:=Cf.1 h i j (by omega) hj hij
theorem dB{l:List Int}(h:Asc l){x:Int}(hx:x∈l){i:Nat}(hi:∀k (hk:k < l.length),k < i->l[k] < x)(hil:i < l.length):l[i]<=x:=by
 obtain⟨k,hk,rfl⟩:=Bi.1 hx
 rcases HE k i with h1|h1|h1
 ·exact absurd (hi k hk h1) (by omega)
 ·subst h1;exact Jt _
 ·exact Of (eF h hk h1)
theorem eI(h:LfOk M s):∃hp:gN s.2.1 s.2.2.1 < (gL M s.2.2.1).length,gI (gL M s.2.2.1) (gN s.2.1 s.2.2.1)=(gL M s.2.2.1)[gN s.2.1 s.2.2.1]∧(gL M s.2.2.1)[gN s.2.1 s.2.2.1]<=s.2.2.2.1:=by
 have hp:=h.at_ _ h.p
 refine⟨hp,NP hp,?_⟩
 have h1:=h.ord 0 (M.length - 1) (by omega) (by have:=h.p;omega)
 rw[Cb,Dk h.p,h.top]at h1
 unfold val at h1
 rw[NP hp]at h1
 exact h1
theorem eG(h:LfOk M s):gN s.2.1 s.2.2.1 < Yz M s∧Yz M s<=(gL M s.2.2.1).length:=by
 obtain⟨hp,e1,e2⟩:=eI h
 unfold Yz
 cases hc:(gI (gL M s.2.2.1) (gN s.2.1 s.2.2.1)==s.2.2.2.1)with
 |true=>exact⟨KE _,hp⟩
 |false=>
  have hne:¬gI (gL M s.2.2.1) (gN s.2.1 s.2.2.1)=s.2.2.2.1:=by simpa using hc
  rw[e1]at hne
  have hlt:(gL M s.2.2.1)[gN s.2.1 s.2.2.1] < s.2.2.2.1:=by omega
  obtain⟨q1,q2,q3,q4⟩:=Zw (l:=gL M s.2.2.1) (t:=s.2.2.2.1) ((gL M s.2.2.1).length - gN s.2.1 s.2.2.1) (gN s.2.1 s.2.2.1) (by omega)
  have q5:KR (gL M s.2.2.1) (gN s.2.1 s.2.2.1) s.2.2.2.1=KR (gL M s.2.2.1) (gN s.2.1 s.2.2.1+1) s.2.2.2.1:=Zv hp hlt
  obtain⟨r1,_⟩:=Zw (l:=gL M s.2.2.1) (t:=s.2.2.2.1) ((gL M s.2.2.1).length - (gN s.2.1 s.2.2.1+1)) (gN s.2.1 s.2.2.1+1) (by omega)
  exact⟨by rw[Aa,q5];omega,q2⟩
theorem R2{j:Nat}(hj:j < M.length):gL M j∈M:=by rw[Ry hj];exact Ag hj
theorem pF(h:LfOk M s)(hA:∀l∈M,Asc l):Asc (lfO M s)∧(∀x∈lfO M s,Comm M x∧x<=s.2.2.2.1)∧(∀x,Comm M x->x∈lfO M s∨∃hi:Yz M s < (gL M s.2.2.1).length,(gL M s.2.2.1)[Yz M s]<=x)∧(∀hi:Yz M s < (gL M s.2.2.1).length,s.2.2.2.1<=(gL M s.2.2.1)[Yz M s]∧∀x∈lfO M s,x < (gL M s.2.2.1)[Yz M s]):=by
 obtain⟨hp,e1,e2⟩:=eI h
 have hl:=hA _ (R2 h.p)
 unfold Yz lfO
 cases hc:(gI (gL M s.2.2.1) (gN s.2.1 s.2.2.1)==s.2.2.2.1)with
 |true=>
  have he:gI (gL M s.2.2.1) (gN s.2.1 s.2.2.1)=s.2.2.2.1:=by simpa using hc
  rw[e1]at he
  simp only[Ab]
  have hcom:Comm M s.2.2.2.1:=by
   intro l hlM
   obtain⟨j,hj,rfl⟩:=Bi.1 hlM
   have hk:∃a,a < M.length∧(s.2.2.1+a) % M.length=j:=by
    rcases A8 j s.2.2.1 with h1|h1
    ·refine⟨j+M.length - s.2.2.1,by have:=h.p;omega,?_⟩
     rw[show s.2.2.1+(j+M.length - s.2.2.1)=j+M.length by have:=h.p;omega,Nat.add_mod_right,Dk hj]
    ·exact⟨j - s.2.2.1,by omega,by rw[show s.2.2.1+(j - s.2.2.1)=j by omega,Dk hj]⟩
   obtain⟨a,ha,ej⟩:=hk
   have h1:=h.ord 0 a (by omega) ha
   have h2:=h.ord a (M.length - 1) (by omega) (by omega)
   rw[Cb,Dk h.p]at h1
   rw[h.top,ej]at h2
   rw[ej]at h1
   unfold val at h1 h2
   have hjl:=h.at_ j hj
   rw[e1,he]at h1
   rw[NP hjl]at h1 h2
   have:(gL M j)[gN s.2.1 j]=s.2.2.2.1:=by omega
   have hmm:=Ag hjl
   rw[this,Ry hj]at hmm
   exact hmm
  refine⟨?_,?_,?_,?_⟩
  ·refine F7.2 ⟨h.asc,DF _ _,λa ha b hb=>?_⟩
   rw[A7]at hb;subst hb
   exact h.low a ha
  ·intro x hx
   rcases Ak.1 hx with hx|hx
   ·exact⟨h.com x hx,Of (h.low x hx)⟩
   ·rw[A7]at hx;subst hx;exact⟨hcom,Jt _⟩
  ·intro x hx
   rcases h.all x hx with h1|h1
   ·exact .inl (AA _ h1)
   ·by_cases hxt:x=s.2.2.2.1
    ·left;subst hxt;exact Av _ (by simp)
    ·right
     have hxl:=hx _ (R2 h.p)
     have hbelow:∀k (hk:k < (gL M s.2.2.1).length),k < gN s.2.1 s.2.2.1+1->(gL M s.2.2.1)[k] < x:=λk hk h2=>by
      rcases A8 k (gN s.2.1 s.2.2.1)with h3|h3
      ·have:=eF hl hp h3;omega
      ·have:k=gN s.2.1 s.2.2.1:=by omega
       subst this;omega
     have hi:gN s.2.1 s.2.2.1+1 < (gL M s.2.2.1).length:=by
      apply BW
      intro hn
      obtain⟨k,hk,rfl⟩:=Bi.1 hxl
      have:=hbelow k hk (by omega)
      omega
     exact⟨hi,dB hl hxl hbelow hi⟩
  ·intro hi
   have h1:=eF hl hi (KE _)
   rw[he]at h1
   refine⟨Of h1,λx hx=>?_⟩
   rcases Ak.1 hx with hx|hx
   ·have:=h.low x hx;omega
   ·rw[A7]at hx;subst hx;exact h1
 |false=>
  have hne:¬gI (gL M s.2.2.1) (gN s.2.1 s.2.2.1)=s.2.2.2.1:=by simpa using hc
  rw[e1]at hne
  simp only[Aa]
  obtain⟨q1,q2,q3,q4⟩:=Zw (l:=gL M s.2.2.1) (t:=s.2.2.2.1) ((gL M s.2.2.1).length - gN s.2.1 s.2.2.1) (gN s.2.1 s.2.2.1) (by omega)
  refine⟨h.asc,λx hx=>⟨h.com x hx,Of (h.low x hx)⟩,λx hx=>?_,λhi=>⟨q4 hi,λx hx=>by have:=h.low x hx;have:=q4 hi;omega⟩⟩
  rcases h.all x hx with h1|h1
  ·exact .inl h1
  ·right
   have hxl:=hx _ (R2 h.p)
   have hbelow:∀k (hk:k < (gL M s.2.2.1).length),k < KR (gL M s.2.2.1) (gN s.2.1 s.2.2.1) s.2.2.2.1->(gL M s.2.2.1)[k] < x:=λk hk h2=>by
    rcases A8 k (gN s.2.1 s.2.2.1)with h3|h3
    ·have:=eF hl hp h3;omega
    ·have:=q3 k hk h3 h2;omega
   have hi:KR (gL M s.2.2.1) (gN s.2.1 s.2.2.1) s.2.2.2.1 < (gL M s.2.2.1).length:=by
    apply BW
    intro hn
    obtain⟨k,hk,rfl⟩:=Bi.1 hxl
    have:=hbelow k hk (by omega)
    omega
   exact⟨hi,dB hl hxl hbelow hi⟩
theorem eH(h:LfOk M s)(hA:∀l∈M,Asc l)(hi:Yz M s < (gL M s.2.2.1).length):LfOk M (lfO M s,s.2.1.set s.2.2.1 (Yz M s),(s.2.2.1+1) % M.length,gI (gL M s.2.2.1) (Yz M s),s.2.2.2.2+1):=by
 have hpl:s.2.2.1 < s.2.1.length:=by rw[h.len];exact h.p
 have hk0:0 < M.length:=by have:=h.p;omega
 obtain⟨o1,o2,o3,o4⟩:=pF h hA
 obtain⟨t1,t2⟩:=o4 hi
 have hv:∀j,val M (s.2.1.set s.2.2.1 (Yz M s)) j=if j=s.2.2.1 then(gL M s.2.2.1)[Yz M s]else val M s.2.1 j:=λj=>by
  unfold val
  rw[am hpl]
  by_cases hj:j=s.2.2.1
  ·subst hj;rw[AH rfl,AH rfl,NP hi]
  ·rw[AE hj,AE hj]
 have hidx:∀a,a < M.length->((s.2.2.1+1) % M.length+a) % M.length=if a+1=M.length then s.2.2.1 else(s.2.2.1+(a+1)) % M.length:=λa ha=>by
  rw[Nat.mod_add_mod]
  split
  ·rename_i h1
   rw[show s.2.2.1+1+a=s.2.2.1+M.length by omega,Nat.add_mod_right,Dk h.p]
  ·rw[show s.2.2.1+1+a=s.2.2.1+(a+1)by omega]
 have hneq:∀a,0 < a->a < M.length->(s.2.2.1+a) % M.length≠s.2.2.1:=λa h0 h1 he=>by
  rcases A8 (s.2.2.1+a) M.length with h2|h2
  ·rw[Dk h2]at he;omega
  ·rw[Nat.mod_eq_sub_mod h2,Dk (by have:=h.p;omega)]at he;omega
 refine⟨by simp only[Bx];exact h.len,Oh _ hk0,λj hj=>?_,λa b hab hb=>?_,?_,o1,λx hx=>?_,λx hx=>(o2 x hx).1,λx hx=>?_⟩
 ·simp only
  rw[am hpl]
  split
  ·rename_i e;subst e;exact hi
  ·exact h.at_ j hj
 ·simp only
  rw[hidx a (by omega),hidx b hb,hv,hv]
  by_cases hb1:b+1=M.length
  ·rw[AH hb1,AH rfl]
   by_cases ha1:a+1=M.length
   ·rw[AH ha1,AH rfl];exact Jt _
   ·rw[AE ha1,AE (hneq (a+1) (by omega) (by omega))]
    have:=h.ord (a+1) (M.length - 1) (by omega) (by omega)
    rw[h.top]at this
    omega
  ·rw[AE hb1,AE (by omega:¬a+1=M.length),AE (hneq (b+1) (by omega) (by omega)),AE (hneq (a+1) (by omega) (by omega))]
   exact h.ord (a+1) (b+1) (by omega) (by omega)
 ·simp only
  rw[hidx (M.length - 1) (by omega),AH (by omega),hv,AH rfl,NP hi]
 ·simp only
  rw[NP hi]
  exact t2 x hx
 ·simp only
  rw[NP hi]
  rcases o3 x hx with h1|⟨_,h1⟩
  ·exact .inl h1
  ·exact .inr h1
theorem Zt{A:List Nat}{p v:Nat}(hp:p < A.length)(h1:gN A p < v)(h2:v<=(gL M p).length):∀K,(K<=p->Us M (A.set p v) K=Us M A K)∧(p < K->Us M (A.set p v) K < Us M A K)
 |0=>⟨λ_=>rfl,λh=>absurd h (by omega)⟩
 |K+1=>by
  obtain⟨i1,i2⟩:=Zt hp h1 h2 K
  rw[Us,Us,am hp]
  refine⟨λh=>?_,λh=>?_⟩
  ·rw[i1 (by omega),AE (by omega)]
  ·by_cases hk:K=p
   ·subst hk
    rw[i1 (AW _),AH rfl];omega
   ·rw[AE hk]
    have:=i2 (by omega)
    omega
theorem pG(hA:∀l∈M,Asc l):∀(m:Nat) (s:LfS),LfOk M s->Us M s.2.1 M.length < m->∃out n,lfR M m s=some (out,n)∧Asc out∧(∀x,x∈out↔Comm M x)∧n<=s.2.2.2.2+Us M s.2.1 M.length
 |0,s,h,hm=>by omega
 |m+1,s,h,hm=>by
  obtain⟨o1,o2,o3,o4⟩:=pF h hA
  obtain⟨n1,n2⟩:=eG h
  have hpl:s.2.2.1 < s.2.1.length:=by rw[h.len];exact h.p
  have hrem:=(Zt (M:=M) hpl n1 n2 M.length).2 h.p
  rw[lfR]
  cases hc:(Yz M s==(gL M s.2.2.1).length)with
  |true=>
   have hc:Yz M s=(gL M s.2.2.1).length:=by simpa using hc
   refine⟨_,_,rfl,o1,λx=>⟨λhx=>(o2 x hx).1,λhx=>?_⟩,by omega⟩
   rcases o3 x hx with h1|⟨h1,_⟩
   ·exact h1
   ·omega
  |false=>
   have hc:¬Yz M s=(gL M s.2.2.1).length:=by simpa using hc
   obtain⟨out,n,e,q1,q2,q3⟩:=pG hA m _ (eH h hA (by omega)) (by simp only;omega)
   exact⟨out,n,e,q1,q2,by simp only at q3;omega⟩
end
def ON(l:List Int):Int:=gI l 0
def bA(H:List Int)(h:Int):Nat->Nat
 |0=>0
 |k+1=>if h < gI H k then bA H h k else k+1
theorem iR(H:List Int)(h:Int):∀k,bA H h k<=k
 |0=>AW _
 |k+1=>by
  rw[bA]
  split
  ·have:=iR H h k;omega
  ·exact AW _
theorem wh(H:List Int)(h:Int):∀k,(∀j,bA H h k<=j->j < k->h < gI H j)∧(0 < bA H h k->gI H (bA H h k - 1)<=h)
 |0=>⟨λj h1 h2=>by omega,λh=>by rw[bA]at h;omega⟩
 |k+1=>by
  obtain⟨i1,i2⟩:=wh H h k
  rw[bA]
  split
  ·rename_i hc
   refine⟨λj h1 h2=>?_,i2⟩
   rcases A8 j k with h3|h3
   ·exact i1 j h1 h3
   ·have:j=k:=by omega
    subst this;exact hc
  ·rename_i hc
   exact⟨λj h1 h2=>by omega,λ_=>by rw[Nat.add_sub_cancel];omega⟩
def putAt{α:Type}(l:List α)(k:Nat)(x:α):List α:=l.take k++x::l.drop k
theorem uz{α:Type}{l:List α}{k:Nat}{x:α}(h:k<=l.length):(putAt l k x).length=l.length+1:=by
 unfold putAt
 rw[Aq,At,Az,A6];omega
theorem put_mem{α:Type}{l:List α}{k:Nat}{x y:α}:y∈putAt l k x↔y=x∨y∈l:=by
 unfold putAt
 conv=>rhs;rhs;rw[<-BG k l]
 rw[Ak,AC,Ak]
 constructor
 ·rintro(h|h|h)
  ·exact .inr (.inl h)
  ·exact .inl h
  ·exact .inr (.inr h)
 ·rintro(h|h|h)
  ·exact .inr (.inl h)
  ·exact .inl h
  ·exact .inr (.inr h)
theorem fe{α β:Type}(f:α->β)(l:List α)(k:Nat)(x:α):(putAt l k x).map f=putAt (l.map f) k (f x):=by
 unfold putAt
 rw[BM,AB,List.map_take,List.map_drop]
theorem ka{l:List Int}(hs:l.Pairwise λa b=>a<=b)(h:Int):(putAt l (bA l h l.length) h).Pairwise λa b=>a<=b:=by
 obtain⟨i1,i2⟩:=wh l h l.length
 have hle:=iR l h l.length
 generalize bA l h l.length=k at i1 i2 hle
 unfold putAt
 refine F7.2 ⟨hs.sublist (List.take_sublist _ _),Ck.2 ⟨λy hy=>?_,hs.sublist (List.drop_sublist _ _)⟩,λa ha b hb=>?_⟩
 ·obtain⟨j,hj,rfl⟩:=Bi.1 hy
  rw[A6]at hj
  rw[List.getElem_drop]
  have:=i1 (k+j) (by omega) (by omega)
  rw[NP (by omega)]at this
  omega
 ·obtain⟨j,hj,rfl⟩:=Bi.1 ha
  rw[At]at hj
  rw[JN]
  have hk1:=i2 (by omega)
  rw[NP (by omega)]at hk1
  have hjk:l[j]<=l[k - 1]:=by
   rcases A8 j (k - 1)with h1|h1
   ·exact Cf.1 hs j (k - 1) (by omega) (by omega) h1
   ·have:j=k - 1:=by omega
    subst this;exact Jt _
  rcases AC.1 hb with rfl|hb
  ·omega
  ·obtain⟨i,hi,rfl⟩:=Bi.1 hb
   rw[A6]at hi
   rw[List.getElem_drop]
   exact Cf.1 hs j (k+i) (by omega) (by omega) (by omega)
def Oj(L:List (List Int)):Nat->List Nat
 |0=>[]
 |i+1=>putAt (Oj L i) (bA ((Oj L i).map λj=>ON (gL L j)) (ON (gL L i)) i) i
theorem Q6(L:List (List Int)):∀i,(Oj L i).length=i
 |0=>rfl
 |i+1=>by
  have h:=Q6 L i
  rw[Oj,uz (by rw[h];exact iR _ _ _),h]
theorem Ta(L:List (List Int)):∀i j,j∈Oj L i↔j < i
 |0,j=>by simp[Oj]
 |i+1,j=>by
  rw[Oj,put_mem,Ta L i];omega
theorem nu{α:Type}{l:List α}{k:Nat}{x:α}(h:l.Nodup)(hx:x∉l):(putAt l k x).Nodup:=by
 unfold putAt
 have h':=h
 rw[<-BG k l]at h'
 obtain⟨h1,h2,h3⟩:=Ax.1 h'
 refine Ax.2 ⟨h1,BQ.2 ⟨λhm=>hx (F6 hm),h2⟩,λa ha b hb=>?_⟩
 rcases AC.1 hb with rfl|hb
 ·intro e;subst e;exact hx (El ha)
 ·exact h3 a ha b hb
theorem iF(L:List (List Int)):∀i,(Oj L i).Nodup
 |0=>AF
 |i+1=>by rw[Oj];exact nu (iF L i) (λh=>by have:=(Ta L i i).1 h;omega)
theorem c8(L:List (List Int)):∀i,((Oj L i).map λj=>ON (gL L j)).Pairwise λa b=>a<=b
 |0=>List.Pairwise.nil
 |i+1=>by
  rw[Oj,fe]
  have:=ka (c8 L i) (ON (gL L i))
  rw[Aj,Q6]at this
  exact this
def Ew(L:List (List Int)):List (List Int):=(Oj L L.length).map (gL L)
theorem Pb(L:List (List Int)):(Ew L).length=L.length:=by unfold Ew;rw[Aj,Q6]
theorem Pc(L:List (List Int))(l:List Int):l∈Ew L↔l∈L:=by
 unfold Ew
 rw[BF]
 constructor
 ·rintro⟨j,hj,rfl⟩
  exact R2 ((Ta L _ j).1 hj)
 ·intro h
  obtain⟨j,hj,rfl⟩:=Bi.1 h
  exact⟨j,(Ta L _ j).2 hj,Ry hj⟩
theorem sU(L:List (List Int))(x:Int):Comm (Ew L) x↔∀l∈L,x∈l:=⟨λh l hl=>h l ((Pc L l).2 hl),λh l hl=>h l ((Pc L l).1 hl)⟩
theorem eh{α:Type}(f:α->List Int)(l:List α){j:Nat}(h:j < l.length):gL (l.map f) j=f l[j]:=by
 rw[Ry (by rw[Aj];exact h),BJ]
def zeros(k:Nat):List Nat:=List.replicate k 0
theorem lf(k j:Nat):gN (zeros k) j=0:=by
 unfold gN zeros
 rw[IF]
 split<;>rfl
def lf0(M:List (List Int)):LfS:=([],zeros M.length,0,ON (gL M (M.length - 1)),0)
theorem jT{L:List (List Int)}(h0:0 < L.length)(hne:∀l∈L,0 < l.length)(hA:∀l∈L,Asc l):LfOk (Ew L) (lf0 (Ew L)):=by
 have hk:0 < (Ew L).length:=by rw[Pb];exact h0
 have hz:∀j,gN (lf0 (Ew L)).2.1 j=0:=λj=>lf _ _
 have hval:∀j,val (Ew L) (lf0 (Ew L)).2.1 j=ON (gL (Ew L) j):=λj=>by unfold val;rw[hz];rfl
 have hpos:∀j,j < (Ew L).length->0 < (gL (Ew L) j).length:=λj hj=>hne _ ((Pc L _).1 (R2 hj))
 have hs:∀a b,a<=b->b < (Ew L).length->ON (gL (Ew L) a)<=ON (gL (Ew L) b):=λa b hab hb=>by
  have h1:=c8 L L.length
  have hol:(Oj L L.length).length=(Ew L).length:=by rw[Q6,Pb]
  unfold Ew
  rw[eh _ _ (by omega),eh _ _ (by omega)]
  rcases A8 a b with h2|h2
  ·have:=Cf.1 h1 a b (by rw[Aj];omega) (by rw[Aj];omega) h2
   rw[BJ,BJ]at this
   exact this
  ·have:a=b:=by omega
   subst this;exact Jt _
 refine⟨by show(zeros _).length=_;unfold zeros;rw[Cw],hk,λj hj=>by rw[hz];exact hpos j hj,λa b hab hb=>?_,?_,List.Pairwise.nil,λx hx=>(by cases hx),λx hx=>(by cases hx),λx hx=>.inr ?_⟩
 ·rw[hval,hval]
  show ON (gL (Ew L) ((0+a) % (Ew L).length))<=ON (gL (Ew L) ((0+b) % (Ew L).length))
  rw[B6,B6,Dk (by omega),Dk hb]
  exact hs a b hab hb
 ·rw[hval]
  show ON (gL (Ew L) ((0+((Ew L).length - 1)) % (Ew L).length))=_
  rw[B6,Dk (by omega)]
  rfl
 ·show ON (gL (Ew L) ((Ew L).length - 1))<=x
  have hx1:=hx _ (R2 (show(Ew L).length - 1 < (Ew L).length by omega))
  have hl:=hA _ ((Pc L _).1 (R2 (show(Ew L).length - 1 < (Ew L).length by omega)))
  have hp:=hpos _ (show(Ew L).length - 1 < (Ew L).length by omega)
  unfold ON
  rw[NP hp]
  exact dB hl hx1 (λk hk h=>absurd h (by omega)) hp
theorem fi{M:List (List Int)}{A:List Nat}{B:Nat}(h:∀l∈M,l.length<=B):∀K,K<=M.length->Us M A K<=K * B
 |0,_=>by rw[Us];omega
 |K+1,hK=>by
  have h1:=fi (A:=A) h K (by omega)
  have h2:=h _ (R2 (show K < M.length by omega))
  rw[Us,CQ,DP];omega
section
variable {L:List (List Int)}
theorem gW{α:Type}{l:List α}{a b:Nat}{v:α}(ha:a < l.length):AI (Dl l (a:Int) v) (b:Int)=if b=a then some v else AI l (b:Int):=by
 unfold Dl
 rw[F0,F0,Gg,As]
 by_cases h:a=b
 ·subst h;rw[AH rfl,AH ha,AH rfl]
 ·rw[AE h,AE (λe=>h e.symm)]
structure SimS (L:List (List Int)) (s:LfS) (y:List Int):Prop where
 len:y.length=L.length
 at_:∀j (hj:j < (Oj L L.length).length),AI y (((Oj L L.length)[j]:Nat):Int)=some ((gN s.2.1 j:Nat):Int)
 few:s.1.length<=s.2.2.2.2
def oxI(L:List (List Int)):List Int:=(Oj L L.length).map λ(j:Nat)=>(j:Int)
theorem nF{p k:Nat}(hk:0 < k)(hp:p < k)(hkl:k<=lim):Int.tmod (IntKind.i64.wrap ((p:Int)+1)) (k:Int)=(((p+1) % k:Nat):Int):=by
 unfold lim at hkl
 rw[wrap_in (by omega),Int.tmod_eq_emod_of_nonneg (by omega)]
 norm_cast
theorem we(hL:L.length<=lim)(hlen:∀l∈L,l.length<=lim)(hA:∀l∈L,Asc l):∀(m:Nat) (s:LfS) (y:List Int),LfOk (Ew L) s->SimS L s y->s.2.2.2.2+Us (Ew L) s.2.1 (Ew L).length<=lim->
  An (E4 L (oxI L)) m (s.1,y,(s.2.2.1:Int),s.2.2.2.1,(s.2.2.2.2:Int))=(lfR (Ew L) m s).map λr=>.inr (r.1,(r.2:Int))
 |0,s,y,h,hy,hb=>rfl
 |m+1,s,y,h,hy,hb=>by
  have hA':∀l∈Ew L,Asc l:=λl hl=>hA l ((Pc L l).1 hl)
  obtain⟨out,at_,p,top,n⟩:=s
  obtain⟨hp,e1,e2⟩:=eI h
  obtain⟨n1,n2⟩:=eG h
  have hpo:p < (Oj L L.length).length:=by have:=h.p;rw[Pb]at this;rw[Q6];exact this
  have hpa:p < at_.length:=by have:=h.len;simp only at this;rw[this,Pb,<-Q6 L L.length];exact hpo
  have hrem:=(Zt (M:=Ew L) hpa n1 n2 (Ew L).length).2 h.p
  simp only at hp e1 e2 n1 n2 hrem hb
  have hbl:=hlen _ ((Pc L _).1 (R2 h.p))
  simp only at hbl
  have gM:gL (Ew L) p=gL L (Oj L L.length)[p]:=by unfold Ew;exact eh _ _ hpo
  generalize hq:(Oj L L.length)[p]=q at gM
  have hqL:q < L.length:=by rw[<-hq];exact(Ta L _ _).1 (Ag hpo)
  have hqy:q < y.length:=by rw[hy.len];exact hqL
  have g1:AI (oxI L) (p:Int)=some (q:Int):=by
   unfold oxI
   rw[F0,BL,Ad hpo,hq];rfl
  have g2:AI L (q:Int)=some (gL (Ew L) p):=by rw[gM,Ry hqL];exact AK hqL
  have g3:AI y (q:Int)=some ((gN at_ p:Nat):Int):=by have:=hy.at_ p hpo;rw[hq]at this;exact this
  have g4:AI (gL (Ew L) p) ((gN at_ p:Nat):Int)=some (gI (gL (Ew L) p) (gN at_ p)):=by rw[AK hp,NP hp]
  have hfew:=hy.few
  simp only at hfew
  have hN:IntKind.i64.wrap ((n:Int)+1)=((n+1:Nat):Int):=by unfold lim at hb;rw[wrap_in (by omega)];omega
  have hox:(oxI L).length=(Ew L).length:=by unfold oxI;rw[Aj,Q6,Pb]
  have hk0:0 < (Ew L).length:=by have:=h.p;omega
  have hJ:∀(o:List Int) (i:Nat),o=lfO (Ew L) (out,at_,p,top,n)->i=Yz (Ew L) (out,at_,p,top,n)->o.length<=n+1->
    E5 (An (E4 L (oxI L)) m) L (oxI L) (p:Int) (n:Int) (q:Int) o (Dl y (q:Int) (i:Int))=(lfR (Ew L) (m+1) (out,at_,p,top,n)).map λr=>.inr (r.1,(r.2:Int)):=by
   intro o i ho hi hol
   unfold E5
   have gs:AI (Dl y (q:Int) (i:Int)) (q:Int)=some (i:Int):=by rw[gW hqy,AH rfl]
   rw[gs]
   simp only[G,g2]
   rw[lfR]
   simp only[<-ho,<-hi]
   by_cases hc:i=(gL (Ew L) p).length
   ·rw[show((i:Int)==((gL (Ew L) p).length:Int))=true by rw[BU];omega,show(i==(gL (Ew L) p).length)=true by rw[BU];exact hc]
    simp only[Ab,BR,hN]
   ·rw[show((i:Int)==((gL (Ew L) p).length:Int))=false by rw[Bw];omega,show(i==(gL (Ew L) p).length)=false by rw[Bw];exact hc]
    have hil:i < (gL (Ew L) p).length:=by rw[<-hi]at n2;omega
    rw[show AI (gL (Ew L) p) (i:Int)=some (gI (gL (Ew L) p) i)by rw[AK hil,NP hil]]
    simp only[Aa]
    rw[AN (by rw[hox];omega),hox,nF hk0 h.p (by rw[Pb];exact hL),hN]
    have hok:=eH h hA' (by simp only;rw[<-hi];exact hil)
    simp only[<-ho,<-hi]at hok hrem
    refine we hL hlen hA m (o,at_.set p i,(p+1) % (Ew L).length,gI (gL (Ew L) p) i,n+1) _ hok ⟨?_,λj hj=>?_,hol⟩ (by simp only;omega)
    ·unfold Dl;rw[Bx];exact hy.len
    ·simp only
     rw[gW hqy,am hpa]
     by_cases hjp:j=p
     ·subst hjp
      rw[AH hq,AH rfl]
     ·rw[AE (λe=>hjp ?_),AE hjp]
      ·exact hy.at_ j hj
      ·rw[<-hq]at e
       exact(List.getElem_inj (iF L L.length)).1 e
  rw[Bq,E4]
  simp only[g1,G,g2,g3,g4]
  cases hc:(gI (gL (Ew L) p) (gN at_ p)==top)with
  |true=>
   have hc':gI (gL (Ew L) p) (gN at_ p)=top:=by simpa using hc
   simp only[Ab]
   rw[AN (by simp only[Ao];omega),hc',show IntKind.i64.wrap (((gN at_ p:Nat):Int)+1)=((gN at_ p+1:Nat):Int)by unfold lim at hbl;rw[wrap_in (by omega)];omega]
   exact hJ _ _ (by unfold lfO;simp only;rw[hc];rfl) (by unfold Yz;simp only;rw[hc];rfl) (by simp only[Aq,Ao];omega)
  |false=>
   simp only[Aa]
   rw[AaN hbl (GV hp)]
   exact hJ _ _ (by unfold lfO;simp only;rw[hc];rfl) (by unfold Yz;simp only;rw[hc];rfl) (by omega)
theorem AaE{l:List Int}(hl:l.length<=lim):GA l=some (!BV l (I4 l)):=by
 unfold GA
 rcases Bv l.length with h0|h0
 ·have:l=[]:=Ba h0
  subst this
  rw[show fz=(fz - 1)+1 by unfold fz;rfl,Bq]
  rfl
 ·have key:∀d k:Nat,1<=k->k+d=l.length->∀m,d < m->An (DT l) m (k:Int)=some (cond ((List.range' k d).any λj=>Jz l j λe=>I4 l j e) (.inr false) (.inl ())):=by
   intro d
   induction d with
   |zero=>
    intro k hk1 hk m hm
    obtain⟨m,rfl⟩:∃j,m=j+1:=⟨m - 1,by omega⟩
    rw[Bq,DT,Af (by omega)];rfl
   |succ d ih=>
    intro k hk1 hk m hm
    obtain⟨m,rfl⟩:∃j,m=j+1:=⟨m - 1,by omega⟩
    have hk2:k < l.length:=by omega
    have hpre:IntKind.i64.wrap ((k:Int) - 1)=((k - 1:Nat):Int):=by unfold lim at hl;rw[wrap_in (by omega)];omega
    have hk3:k - 1 < l.length:=by omega
    rw[Bq,DT,Bl hk2,AK hk2,hpre,AK hk3,Bn hk2 (Bd hl)]
    simp only[Ab,G]
    rw[C8,Hs,CD hk2]
    have hn:I4 l k l[k]=decide (l[k]<=l[k - 1]):=by unfold I4;rw[Ah (by omega),AJ,CD hk3]
    rw[hn,ih (k+1) (by omega) (by omega) m (by omega)]
    cases decide (l[k]<=l[k - 1])<;>rfl
  have:=key (l.length - 1) 1 (AW _) (by omega) fz (by unfold fz;unfold lim at hl;omega)
  have e:(DT l)=(DT l):=rfl
  rw[show((1:Int))=((1:Nat):Int)from rfl,this]
  simp only[G]
  have hb:BV l (I4 l)=(List.range' 1 (l.length - 1)).any λj=>Jz l j λe=>I4 l j e:=by
   unfold BV
   obtain⟨n,hn⟩:∃n,l.length=n+1:=⟨l.length - 1,by omega⟩
   rw[hn,F8,C8,Hs,Nat.add_sub_cancel]
   have:Jz l 0 (λe=>I4 l 0 e)=false:=by
    rw[CD h0];unfold I4;rfl
   rw[this,CX]
  rw[hb]
  cases(List.range' 1 (l.length - 1)).any λj=>Jz l j λe=>I4 l j e<;>rfl
end
end Go.Proofs.YtaagdgjndpgdgaaGreatDoor
