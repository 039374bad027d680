/- Sorted rows, each once: the reference and the program agree. On the printed functions; conditions: lengths. -/
import Derived.Test.YtpnoalhfjnjeaaaGreatDoorFdFC1
open Go.RowKit
set_option linter.all false
namespace Go.Proofs.YtpnoalhfjnjeaaaGreatDoor
abbrev Row:=zI
def W9:∀a:Row,Fa a a=0
 |[]=>rfl
 |x::a=>by rw[Fa,As (by omega),As (by omega)];exact W9 a
def Xa:∀{a b:Row},Fa a b=0->a=b
 |[],[],_=>rfl
 |[],_::_,h=>by simp[Fa]at h
 |_::_,[],h=>by simp[Fa]at h
 |x::a,y::b,h=>by
  rw[Fa]at h;split at h
  ·simp at h
  ·split at h
   ·simp at h
   ·have:x=y:=by omega
    rw[this,Xa h]
def cmp_neg:∀a b:Row,Fa b a= - Fa a b
 |[],[]=>rfl
 |[],_::_=>rfl
 |_::_,[]=>rfl
 |x::a,y::b=>by
  rw[Fa,Fa];by_cases c:x < y
  ·rw[As (by omega),At c,At c];rfl
  ·rw[As c];by_cases d:y < x
   ·rw[At d,At d,As c]
   ·rw[As d,As d,As c];exact cmp_neg a b
def Rs:∀{a b c:Row},Fa a b < 0->Fa b c < 0->Fa a c < 0
 |[],[],_,h,_=>by simp[Fa]at h
 |[],_::_,[],_,h=>by simp[Fa]at h
 |[],_::_,_::_,_,_=>by simp[Fa]
 |_::_,[],_,h,_=>by simp[Fa]at h
 |_::_,_::_,[],_,h=>by simp[Fa]at h
 |x::a,y::b,z::c,e,d=>by
  rw[Fa]at e d⊢;by_cases i:x < y
  ·by_cases e2:y < z
   ·rw[At (by omega)];simp
   ·rw[As e2]at d;by_cases f:z < y
    ·rw[At f]at d;simp at d
    ·rw[At (by omega)];simp
  ·rw[As i]at e;by_cases f:y < x
   ·rw[At f]at e;simp at e
   ·rw[As f]at e;by_cases e2:y < z
    ·rw[At (by omega)];simp
    ·rw[As e2]at d;by_cases g:z < y
     ·rw[At g]at d;simp at d
     ·rw[As g]at d;rw[As (by omega),As (by omega)];exact Rs e d
def ao(l:List Row):Prop:=l.Pairwise λa b=>Fa a b < 0
def wb:∀{a b:List Row},ao a->ao b->(∀x,x∈a↔x∈b)->a=b
 |[],[],_,_,_=>rfl
 |[],y::b,_,_,h=>by have:=(h y).2 (by simp);simp at this
 |x::a,[],_,_,h=>by have:=(h x).1 (by simp);simp at this
 |x::a,y::b,ha,hb,h=>by
  have⟨a1,a2⟩:=Cy.1 ha;have⟨b1,b2⟩:=Cy.1 hb
  have hxy:x=y:=by
   rcases AA.1 ((h x).1<|by simp)with e|hx
   ·exact e
   ·rcases AA.1 ((h y).2<|by simp)with e|hy
    ·exact e.symm
    ·have h1:=b1 x hx;have h2:=a1 y hy;have:=cmp_neg x y;omega
  subst hxy;have hne:∀z∈a,z≠x:=λz hz e=>by subst e;have:=a1 z hz;rw[W9]at this;omega
  have hne':∀z∈b,z≠x:=λz hz e=>by subst e;have:=b1 z hz;rw[W9]at this;omega
  rw[wb a2 b2 (λz=>⟨λhz=>(AA.1<|(h z).1<|by simp[hz]).resolve_left<|hne z hz,λhz=>(AA.1<|(h z).2<|by simp[hz]).resolve_left<|hne' z hz⟩)]
def cf(x:Row):List Row->List Row
 |[]=>[x]
 |y::l=>if Fa x y < 0 then x::y::l else if Fa x y=0 then y::l else y::cf x l
def sortB(l:List Row):List Row:=l.foldr cf []
def jr(x:Row):∀(l:List Row) (z:Row),z∈cf x l↔z=x∨z∈l
 |[],z=>by simp[cf]
 |y::l,z=>by
  rw[cf];split
  ·simp
  ·split
   ·rename_i _ h;rw[Xa h];simp
   ·rw[AA,jr x l z,AA];constructor
    ·rintro(h|h|h)<;>simp[h]
    ·rintro(h|h|h)<;>simp[h]
def px(x:Row):∀(l:List Row),ao l->ao (cf x l)
 |[],_=>D0 _ _
 |y::l,h=>by
  have⟨b,d⟩:=Cy.1 h;rw[cf];split
  ·rename_i c;refine Cy.2 ⟨λz a=>?_,h⟩;rcases AA.1 a with rfl|a
   ·exact c
   ·exact Rs c<|b z a
  ·split
   ·exact h
   ·rename_i e f;refine Cy.2 ⟨λz a=>?_,px x l d⟩;rcases(jr x l z).1 a with rfl|a
    ·have:=cmp_neg z y;omega
    ·exact b z a
def T5:∀l:List Row,ao (sortB l)
 |[]=>List.Pairwise.nil
 |x::l=>px x _<|T5 l
def QQ:∀(l:List Row) (z:Row),z∈sortB l↔z∈l
 |[],z=>DL
 |x::l,z=>by rw[show sortB (x::l)=cf x (sortB l)from rfl,jr,QQ l z,AA]
def ZZ{l r}(a:ao r)(b:∀z,z∈r↔z∈l):r=sortB l:=wb a (T5 l) (λz=>by rw[b,QQ])
def pw(x:Row):∀l:List Row,(cf x l).length<=l.length+1
 |[]=>by simp[cf]
 |y::l=>by
  rw[cf];split
  ·simp
  ·split
   ·simp
   ·have:=pw x l;simp;omega
def Ob:∀l:List Row,(sortB l).length<=l.length
 |[]=>by simp[sortB]
 |x::l=>by have a:=Ob l;have b:=pw x<|sortB l;rw[show sortB (x::l)=cf x (sortB l)from rfl,Ar];omega
def H9{S O:Type}{B}(I:S->Prop)(μ:S->Nat)(R:O->Prop)(h:∀s,I s->(∃o,R o∧∀a,B a s=some o)∨∃b,I b∧μ b < μ s∧∀a,B a s=a b):∀(m:Nat) (s:S),I s->μ s < m->∃o,Aq B m s=some o∧R o
 |0,_,_,d=>by omega
 |m+1,s,e,d=>by
  rw[A6];rcases h s e with⟨o,f,c⟩|⟨b,g,i,c⟩
  ·exact⟨o,c _,f⟩
  ·rw[c];exact H9 I μ R h m b g (by omega)
def Nl{α:Type}(x:α)(l:List α):B5 (x::l) 1 ((x::l).length:Int)=l:=by unfold B5;rw[AB,Bl];rfl
def Pe{α β:Type}(x:α)(l:List α)(y:Option β):chk ((0:Int)<=1∧1<=(List.length (x::l):Int)∧(List.length (x::l):Int)<=(List.length (x::l):Int)) y=y:=Aw (by simp only[Ar];omega)
def UT{α:Type}(x:α)(l:List α):AF (x::l) 0=some x:=rfl
def QO{α:Type}(x:α)(l:List α):decide (0 < ((x::l).length:Int))=true:=Ae (by simp only[Ar];omega)
def RG{α:Type}(x:α)(l:List α):(((x::l).length:Int)==0)=false:=by simp only[Ar,BC];omega
section
variable {A0 B0:List Row}
abbrev X8:=Nat×Row
structure MInv (A0 B0:List Row) (a b out:List X8):Prop where
 nd:((out++(a++b)).map (·.1)).Nodup
 at_:∀p∈out++(a++b),(A0++B0)[p.1]? =some p.2
 so:ao (out.map (·.2))
 sa:ao (a.map (·.2))
 sb:ao (b.map (·.2))
 lt:∀x∈out,∀y∈a++b,Fa x.2 y.2 < 0
 mem:∀z,(z∈(out++(a++b)).map (·.2))↔z∈A0++B0
 len:∀p∈a++b,p.2.length<=lim
 few:out.length+a.length+b.length<=lim
def ft{l x}(h:ao l)(d:∀y∈l,Fa y x < 0):ao (l++[x]):=by unfold ao;rw[GM];exact⟨h,D0 _ _,λa e b c=>by rw[AU]at c;subst c;exact d a e⟩
def MInv.takeA{x:X8}{a b out}(h:MInv A0 B0 (x::a) b out)(g:∀y∈b,Fa x.2 y.2 < 0):MInv A0 B0 a b (out++[x]):=by
 have f:=h.sa;rw[AH]at f;have⟨s1,s2⟩:=Cy.1 f;have e:out++[x]++(a++b)=out++(x::a++b):=by simp
 refine⟨by rw[e];exact h.nd,by rw[e];exact h.at_,?_,s2,h.sb,?_,by rw[e];exact h.mem,λp c=>h.len p (by simp only[Cq,AA];exact .inr c),by have:=h.few;simp only[Ak,Ar,Bw]at this⊢;omega⟩
 ·rw[BM];exact ft h.so (λy d=>by obtain⟨p,c,rfl⟩:=Bq.1 d;exact h.lt p c x<|by simp)
 ·intro p c y d;rcases Al.1 c with c|c
  ·exact h.lt p c y (by simp only[Cq,AA];exact .inr d)
  ·rw[AU]at c;subst c;rcases Al.1 d with d|d
   ·exact s1 y.2<|Cf d
   ·exact g y d
def MInv.takeB{y:X8}{a b out}(h:MInv A0 B0 a (y::b) out)(g:∀x∈a,Fa y.2 x.2 < 0):MInv A0 B0 a b (out++[y]):=by
 have f:=h.sb;rw[AH]at f;have⟨s1,s2⟩:=Cy.1 f;have e:(out++[y]++(a++b)).Perm (out++(a++y::b)):=by rw[Bg];exact L8 _ (by rw[Fd];exact(List.perm_middle (l₁:=a)).symm)
 refine⟨((e.map _).nodup_iff).2 h.nd,λp c=>h.at_ p<|e.mem_iff.1 c,?_,h.sa,s2,?_,λz=>by rw[(e.map _).mem_iff];exact h.mem z,λp c=>h.len p (by rcases Al.1 c with c|c<;>simp[c]),by have:=h.few;simp only[Ak,Ar,Bw]at this⊢;omega⟩
 ·rw[BM];exact ft h.so (λz d=>by obtain⟨p,c,rfl⟩:=Bq.1 d;exact h.lt p c y<|by simp)
 ·intro p c z d;rcases Al.1 c with c|c
  ·exact h.lt p c z (by rcases Al.1 d with d|d<;>simp[d])
  ·rw[AU]at c;subst c;rcases Al.1 d with d|d
   ·exact g z d
   ·exact s1 z.2<|Cf d
def MInv.Aet{x y:X8}{a b out}(h:MInv A0 B0 (x::a) (y::b) out)(e:x.2=y.2):MInv A0 B0 a b (out++[x]):=by
 have sb:=h.sb;rw[AH]at sb;have⟨s1,s2⟩:=Cy.1 sb;have h2:MInv A0 B0 (x::a) b out->MInv A0 B0 a b (out++[x]):=λh'=>h'.takeA (λz hz=>by rw[e];exact s1 z.2<|Cf hz)
 refine h2 ?_;have sub2:∀{z:X8},z∈x::a++b->z∈x::a++y::b:=λhz=>(Np (List.Sublist.refl _)<|List.sublist_cons_self _ _).subset hz
 have sub:List.Sublist (out++(x::a++b)) (out++(x::a++y::b)):=Np (List.Sublist.refl _)<|Np (List.Sublist.refl _)<|List.sublist_cons_self _ _;refine⟨h.nd.sublist<|sub.map _,λp hp=>h.at_ p<|sub.subset hp,h.so,h.sa,s2,λp hp z hz=>h.lt p hp z<|sub2 hz,λz=>?_,λp hp=>h.len p<|sub2 hp,by have:=h.few;simp only[Ar]at this⊢;omega⟩;rw[<-h.mem z];constructor
 ·intro hz;exact(sub.map _).subset hz
 ·intro hz;obtain⟨p,hp,rfl⟩:=Bq.1 hz;by_cases hy:p=y
  ·subst hy;rw[<-e];exact Cf (by simp)
  ·refine Cf ?_;simp only[Al,AA]at hp⊢;rcases hp with hp|(hp|hp)|hp|hp
   ·exact .inl hp
   ·exact .inr<|.inl<|.inl hp
   ·exact .inr<|.inl<|.inr hp
   ·exact absurd hp hy
   ·exact .inr<|.inr hp
def pD{x y:X8}{b}(c:ao ((y::b).map (·.2)))(h:Fa x.2 y.2 < 0):∀z∈y::b,Fa x.2 z.2 < 0:=by
 rw[AH]at c;have⟨s1,s2⟩:=Cy.1 c;intro z a;rcases AA.1 a with rfl|a
 ·exact h
 ·exact Rs h<|s1 z.2<|Cf a
def xA{a b}(g:MInv A0 B0 a b []):∃o,Aq EX fz (a,b,([]:List X8))=some o∧MInv A0 B0 [] [] o:=by
 refine H9 (B:=EX) (λs=>MInv A0 B0 s.1 s.2.1 s.2.2) (λs=>s.1.length+s.2.1.length) (λo=>MInv A0 B0 [] [] o) ?_ fz (a,b,[]) g (by have:=g.few;simp at this⊢;unfold lim at this;unfold fz;omega);rintro⟨a,b,out⟩ h;change MInv A0 B0 a b out at h;have d:=h.few;cases a with
 |nil=>
  cases b with
  |nil=>exact .inl ⟨out,h,λrec=>rfl⟩
  |cons y b=>refine .inr ⟨([],b,out++[y]),h.takeB (by simp),by simp,λrec=>?_⟩;simp only[EX,HL,Bw,QO,Int.natCast_zero];rw[show decide ((0:Int) < 0)=false from rfl];simp only[Aa,Ab,show((0:Int)==0)=true from rfl,GK,HM,UT,G];rw[show decide ((1:Int)<=0)=false from rfl,show decide ((0:Int)<=1)=true from rfl,show decide ((0:Int) < 1)=true from rfl];simp only[Aa,Ab];rw[Aw (by simp only[Ar,Bw]at d⊢;omega)];simp only[L5,Pe,Nl]
 |cons x a=>
  cases b with
  |nil=>refine .inr ⟨(a,[],out++[x]),h.takeA (by simp),by simp,λrec=>?_⟩;simp only[EX,HL,QO,Ab,RG,Aa,Bw];rw[show decide ((0:Int) < ((0:Nat):Int))=false from rfl];simp only[Aa,GK,UT,G];rw[show decide ((-1:Int)<=0)=true from rfl,Ab,Aw (by simp only[Ar,Bw]at d⊢;omega)];simp only[Pe,Nl,HM];rfl
  |cons y b=>
   have c:=h.len x (by simp);rcases Int.lt_trichotomy (Fa x.2 y.2) 0 with e|e|e
   ·refine .inr ⟨(a,y::b,out++[x]),h.takeA<|pD h.sb e,by simp,λrec=>?_⟩;simp only[EX,HL,QO,Ab,RG,Aa,UT,G,gn c,GK];rw[Ae (by omega:Fa x.2 y.2<=0),Ab,Aw (by simp only[Ar,Bw]at d⊢;omega)];simp only[Pe,Nl,HM];rw[Ac (by omega:¬0<=Fa x.2 y.2),Aa]
   ·refine .inr ⟨(a,b,out++[x]),h.Aet<|Xa e,by simp;omega,λrec=>?_⟩;simp only[EX,HL,QO,Ab,RG,Aa,UT,G,gn c,GK];rw[Ae (by omega:Fa x.2 y.2<=0),Ab,Aw (by simp only[Ar,Bw]at d⊢;omega)];simp only[Pe,Nl,HM];rw[Ae (by omega:0<=Fa x.2 y.2),Ab,Ac (by omega:¬0 < Fa x.2 y.2),Aa];simp only[L5,Pe,Nl]
   ·have f:Fa y.2 x.2 < 0:=by have:=cmp_neg x.2 y.2;omega
    refine .inr ⟨(x::a,b,out++[y]),h.takeB<|pD h.sa f,by simp,λrec=>?_⟩;simp only[EX,HL,QO,Ab,RG,Aa,UT,G,gn c,GK];rw[Ac (by omega:¬Fa x.2 y.2<=0),Aa];simp only[HM,UT,G];rw[Ae (by omega:0<=Fa x.2 y.2),Ab,Ae (by omega:0 < Fa x.2 y.2),Ab,Aw (by simp only[Ar,Bw]at d⊢;omega)];simp only[L5,Pe,Nl]
def pR{l}:∀(o:List X8) (a:zN),(o.map (·.1)).Nodup->(∀p∈o,p.1∉a)->(∀p∈o,l[p.1]? =some p.2)->okJ l (o.map Sum.inl) a=true
 |[],_,_,_,_=>rfl
 |p::o,a,c,d,f=>by rw[AH]at c;have⟨g,h⟩:=BF.1 c;simp only[AH,okJ,f p (by simp),BP,AK,Ad,AY];refine⟨by simpa using d p (by simp),pR o _ h (λq b=>?_)<|λq b=>f q<|by simp[b]⟩;simp only[AA,Fn];exact⟨λe=>g (by rw[<-e];exact Cf b),d q<|by simp[b]⟩
def Rv:∀(k:Nat) (l:List Row),(C8 k l).map (·.2)=l
 |_,[]=>rfl
 |k,x::l=>by rw[C8,AH,Rv (k+1) l]
def aG:∀(k:Nat) (l:List Row),(C8 k l).map (·.1)=List.range' k l.length
 |_,[]=>rfl
 |k,x::l=>by rw[C8,AH,aG (k+1) l,Ar,Dm]
def dA:∀(k:Nat) (l:List Row) (p:X8),p∈C8 k l->k<=p.1∧l[p.1 - k]? =some p.2
 |_,[],p,h=>by simp[C8]at h
 |k,x::l,p,h=>by
  rw[C8]at h;rcases AA.1 h with rfl|h
  ·simp
  ·have⟨b,a⟩:=dA (k+1) l p h;refine⟨by omega,?_⟩;rw[show p.1 - k=(p.1 - (k+1))+1 by omega];simpa using a
def sf(d:ao A0)(e:ao B0)(g:A0.length+B0.length<=lim)(i:∀x∈A0++B0,x.length<=lim):MInv A0 B0 (C8 0 A0) (C8 A0.length B0) []:=by
 refine⟨?_,?_,List.Pairwise.nil,by rw[Rv];exact d,by rw[Rv];exact e,by simp,?_,?_,by simp[Ru];exact g⟩
 ·rw[Bn,BM,aG,aG,show List.range' 0 A0.length++List.range' A0.length B0.length=List.range' 0 (A0.length+B0.length)by have:=List.range'_append_1 (s:=0) (m:=A0.length) (n:=B0.length);rwa [Cw]at this];exact List.nodup_range'
 ·intro p a;rw[Bn]at a;rcases Al.1 a with a|a
  ·have⟨_,b⟩:=dA 0 A0 p a;rw[Nat.sub_zero]at b
   have c:p.1 < A0.length:=by
    rcases Bi p.1 A0.length with h|h
    ·exact h
    ·rw[BJ h]at b;cases b
   rw[B7 c];exact b
  ·have⟨j,b⟩:=dA A0.length B0 p a;rw[Cu j];exact b
 ·intro z;rw[Bn,BM,Rv,Rv]
 ·intro p a;refine i p.2 ?_;rcases Al.1 a with a|a
  ·have:=Cf (f:=λx:X8=>x.2) a;rw[Rv]at this;simp[this]
  ·have:=Cf (f:=λx:X8=>x.2) a;rw[Rv]at this;simp[this]
end
def ph{n:Nat}(a:n<=lim):wZ (Int.tdiv (n:Int) 2)=((n / 2:Nat):Int):=by rw[show Int.tdiv (n:Int) 2=((n / 2:Nat):Int)by rw[Im (by omega)];omega];exact wrap_in (by unfold lim at a;omega)
def dN:∀(m:Nat) (l:List Row),l.length < m->l.length<=lim->(∀r∈l,r.length<=lim)->Aq La m l=some (sortB l)
 |0,_,h,_,_=>by omega
 |m+1,l,p,e,b=>by
  rw[A6,La];by_cases d:(l.length:Int) < 2
  ·rw[Ae d,Ab,pj ⟨e,b⟩]
   have:ao l:=by
    match l,d with
    |[],_=>exact List.Pairwise.nil
    |[x],_=>exact D0 _ _
    |x::y::l,h=>simp at h;omega
   simp only[G];rw[<-ZZ this (λz=>DL)]
  ·rw[Ac d,Aa,ph e];have f:B5 l 0 ((l.length / 2:Nat):Int)=l.take (l.length / 2):=by unfold B5;rw[AB];rfl
   have e2:B5 l ((l.length / 2:Nat):Int) (l.length:Int)=l.drop (l.length / 2):=by unfold B5;rw[AB,AB,Bl]
   have g:(l.take<|l.length / 2).length < m:=by rw[Av];omega
   have i:(l.drop<|l.length / 2).length < m:=by rw[Be];omega
   rw[Aw (by omega),f,dN m _ g (by rw[Av];omega) (λr h=>b r<|C5 h)];simp only[G];rw[Aw (by omega),e2,dN m _ i (by rw[Be];omega) (λr h=>b r<|Fx h)];have s1:=Ob<|l.take<|l.length / 2;have s2:=Ob<|l.drop<|l.length / 2;rw[Av]at s1;rw[Be]at s2;have a:∀z,z∈sortB (l.take<|l.length / 2)++sortB (l.drop<|l.length / 2)↔z∈l:=λz=>by rw[Al,QQ,QQ,<-Al,Db]
   have⟨o,j,c⟩:=xA<|sf (T5<|l.take<|l.length / 2) (T5<|l.drop<|l.length / 2) (by omega)<|λx k=>b x<|(a x).1 k
   simp only[j];rw[Aw (pR o [] (by have:=c.nd;simpa using this) (by simp) (by have:=c.at_;simpa using this))];have n:List.map getM (List.map Sum.inl o)=o.map (·.2):=by rw[EY];rfl
   rw[n,ZZ (l:=l) c.so (λz=>by have:=c.mem z;simp only[AN]at this;rw[this,a])]
def t5{l}(h:Jw l):UA l=some (sortB l):=dN fz l (EC h.1) h.1 h.2
structure SInv (l0:List Row) (a b out:List Row):Prop where
 so:ao out
 sa:ao a
 sb:ao b
 le:∀x∈out,∀y∈a++b,Fa x y<=0
 mem:∀z,z∈out++(a++b)↔z∈l0
 len:∀p∈out++(a++b),p.length<=lim
 few:out.length+a.length+b.length<=lim
def ZU(out:List Row)(x:Row):List Row:=match out.getLast? with
 |none=>[x]
 |some y=>if Fa y x=0 then out else out++[x]
def push_inv{l0 a b a' b' out x}(h:SInv l0 a b out)(ha:ao a')(hb:ao b')(hlt:∀y∈a'++b',Fa x y<=0)(hx:x∈a++b)(hm:∀z,z∈x::(a'++b')↔z∈a++b)(hf:1+a'.length+b'.length<=a.length+b.length):SInv l0 a' b' (ZU out x)∧(ZU out x).length<=out.length+1:=by
 have hxl:=h.len x (by simp only[Al]at hx⊢;exact .inr hx)
 have key:∀out',ao out'->(∀z,z∈out'↔z∈out∨z=x)->out'.length<=out.length+1->SInv l0 a' b' out'∧out'.length<=out.length+1:=λout' s m l=>by
  have hsub:∀y,y∈a'++b'->y∈a++b:=λy hy=>(hm y).1 (by simp only[AA];exact .inr hy)
  refine⟨⟨s,ha,hb,λy hy z hz=>?_,λz=>?_,λp hp=>?_,by have:=h.few;omega⟩,l⟩
  ·rcases(m y).1 hy with hy|rfl
   ·exact h.le y hy z<|hsub z hz
   ·exact hlt z hz
  ·rw[<-h.mem z,(Al:z∈out'++(a'++b')↔_),(Al:z∈out++(a++b)↔_),m z,<-hm z,AA];constructor
   ·rintro((h|h)|h)
    ·exact .inl h
    ·exact .inr<|.inl h
    ·exact .inr<|.inr h
   ·rintro(h|h|h)
    ·exact .inl<|.inl h
    ·exact .inl<|.inr h
    ·exact .inr h
  ·rcases Al.1 hp with hp|hp
   ·rcases(m p).1 hp with hp|rfl
    ·exact h.len p (by simp[hp])
    ·exact hxl
   ·exact h.len p<|Au _<|hsub p hp
 unfold ZU;cases hl:out.getLast? with
 |none=>
  have:out=[]:=by simpa using hl
  subst this;exact key [x] (D0 _ _) (λz=>by simp) (by simp)
 |some y=>
  simp only;have hy:y∈out:=List.mem_of_getLast? hl;have hyx:=h.le y hy x hx;split
  ·rename_i hc;have hxy:=Xa hc;refine key out h.so (λz=>⟨.inl,λhz=>hz.elim id<|λe=>by rw[e,<-hxy];exact hy⟩) (by omega)
  ·rename_i hc;refine key (out++[x]) (ft h.so<|λz hz=>?_) (λz=>by simp) (by simp)
   have hzy:z=y∨Fa z y < 0:=by
    have⟨ys,e⟩:=IP.1 hl;rw[e]at hz;rcases Al.1 hz with hz|hz
    ·right;have:=h.so;rw[e]at this;exact(GM.1 this).2.2 z hz y (by simp)
    ·left;simpa using hz
   rcases hzy with rfl|hzy
   ·omega
   ·exact Rs hzy (by omega)
def jX{rec out a b x}(i:∀r∈out,r.length<=lim)(g:out.length+1<=lim):Ok rec out a b x=rec (a,b,ZU out x):=by
 unfold Ok ZU;cases d:out.getLast? with
 |none=>
  have:out=[]:=by simpa using d
  subst this;simp only[Bw,show(((0:Nat):Int)==0)=true from rfl,Ab,Ol];rw[Aw (by simp;unfold lim;omega)];rfl
 |some y=>
  have⟨k,e⟩:=IP.1 d;have h:0 < out.length:=by rw[e];simp
  have j:((out.length:Int)==0)=false:=by rw[BC];omega
  have f:AF out (wZ<|(out.length:Int) - 1)=some y:=by rw[wrap_in (by unfold lim at g;omega),show(out.length:Int) - 1=((out.length - 1:Nat):Int)by omega,G8,e];simp
  rw[j,Aa,f];simp only[G,Xq (i y<|List.mem_of_getLast? d),Ol];by_cases c:Fa y x=0
  ·rw[At c,show(Fa y x !=0)=false by rw[c];rfl,Aa]
  ·rw[As c,show(Fa y x !=0)=true by simpa using c,Ab,Aw (by simpa using g)]
def yN{l0 a b}(n:SInv l0 a b []):∃o,Aq Fs fz (a,b,([]:List Row))=some o∧SInv l0 [] [] o:=by
 refine H9 (B:=Fs) (λs=>SInv l0 s.1 s.2.1 s.2.2) (λs=>s.1.length+s.2.1.length) (λo=>SInv l0 [] [] o) ?_ fz (a,b,[]) n (by have:=n.few;simp at this⊢;unfold lim at this;unfold fz;omega);rintro⟨a,b,out⟩ h;change SInv l0 a b out at h;have i:=h.few;have d:∀r∈out,r.length<=lim:=λr t=>h.len r (by simp[t])
 cases a with
 |nil=>
  cases b with
  |nil=>exact .inl ⟨out,h,λrec=>rfl⟩
  |cons y b=>have⟨s1,s2⟩:=Cy.1 h.sb;have⟨e,j⟩:=push_inv (x:=y) (a':=[]) (b':=b) h List.Pairwise.nil s2 (λz c=>by have:=s1 z (by simpa using c);omega) (by simp) (λz=>by simp) (by simp;omega);refine .inr ⟨([],b,ZU out y),e,by simp,λrec=>?_⟩;simp only[Fs,JF,Bw,QO,Int.natCast_zero];rw[show decide ((0:Int) < 0)=false from rfl];simp only[Aa,Ab,show((0:Int)==0)=true from rfl,HY,UT,G];rw[show decide ((0:Int) < 1)=true from rfl];simp only[Ab,Pe,Nl];exact jX d (by simp at i;omega)
 |cons x a=>
  have⟨k,p⟩:=Cy.1 h.sa;cases b with
  |nil=>have⟨e,j⟩:=push_inv (x:=x) (a':=a) (b':=[]) h p List.Pairwise.nil (λz c=>by have:=k z (by simpa using c);omega) (by simp) (λz=>by simp) (by simp;omega);refine .inr ⟨(a,[],ZU out x),e,by simp,λrec=>?_⟩;simp only[Fs,JF,QO,Ab,RG,Aa,Bw];rw[show decide ((0:Int) < ((0:Nat):Int))=false from rfl];simp only[Aa,HY,UT,G];rw[show decide ((0:Int) < -1)=false from rfl];simp only[Aa,Pe,Nl];exact jX d (by simp at i;omega)
  |cons y b=>
   have⟨s1,s2⟩:=Cy.1 h.sb;have f:=h.len x (by simp);by_cases q:0 < Fa x y
   ·have l:Fa y x < 0:=by have:=cmp_neg x y;omega
    have⟨e,j⟩:=push_inv (x:=y) (a':=x::a) (b':=b) h h.sa s2 (λz c=>by
     rcases Al.1 c with c|c
     ·rcases AA.1 c with rfl|c
      ·omega
      ·have:=Rs l<|k z c;omega
     ·have:=s1 z c;omega) (by simp) (λz=>by simp only[AA,Al];constructor<;>(intro g;rcases g with g|(g|g)|g<;>simp_all)) (by simp;omega)
    refine .inr ⟨(x::a,b,ZU out y),e,by simp,λrec=>?_⟩;simp only[Fs,JF,QO,Ab,RG,Aa,UT,G,Xq f,HY];rw[Ae q];simp only[Ab,Pe,Nl];exact jX d (by simp at i;omega)
   ·have m:Fa x y<=0:=by omega
    have⟨e,j⟩:=push_inv (x:=x) (a':=a) (b':=y::b) h p h.sb (λz c=>by
     rcases Al.1 c with c|c
     ·have:=k z c;omega
     ·rcases AA.1 c with rfl|c
      ·exact m
      ·have u:=s1 z c;by_cases v:Fa x y=0
       ·rw[Xa v];omega
       ·have:=Rs (by omega:Fa x y < 0) u;omega) (by simp) (λz=>by simp) (by simp;omega)
    refine .inr ⟨(a,y::b,ZU out x),e,by simp,λrec=>?_⟩;simp only[Fs,JF,QO,Ab,RG,Aa,UT,G,Xq f,HY];rw[Ac q];simp only[Aa,Pe,Nl];exact jX d (by simp at i;omega)
def eV:∀(m:Nat) (l:List Row),l.length < m->l.length<=lim->(∀r∈l,r.length<=lim)->Aq Ll m l=some (sortB l)
 |0,_,h,_,_=>by omega
 |m+1,l,s,g,d=>by
  rw[A6,Ll];by_cases e:(l.length:Int) < 2
  ·rw[Ae e,Ab]
   have:ao l:=by
    match l,e with
    |[],_=>exact List.Pairwise.nil
    |[x],_=>exact D0 _ _
    |x::y::l,h=>simp at h;omega
   rw[<-ZZ this (λz=>DL)]
  ·rw[Ac e,Aa,ph g];have i:B5 l 0 ((l.length / 2:Nat):Int)=l.take (l.length / 2):=by unfold B5;rw[AB];rfl
   have e2:B5 l ((l.length / 2:Nat):Int) (l.length:Int)=l.drop (l.length / 2):=by unfold B5;rw[AB,AB,Bl]
   have j:(l.take<|l.length / 2).length < m:=by rw[Av];omega
   have k:(l.drop<|l.length / 2).length < m:=by rw[Be];omega
   rw[Aw (by omega),i,eV m _ j (by rw[Av];omega) (λr h=>d r<|C5 h)];simp only[G];rw[Aw (by omega),e2,eV m _ k (by rw[Be];omega) (λr h=>d r<|Fx h)];have s1:=Ob<|l.take<|l.length / 2;have s2:=Ob<|l.drop<|l.length / 2;rw[Av]at s1;rw[Be]at s2;have c:∀z,z∈sortB (l.take<|l.length / 2)++sortB (l.drop<|l.length / 2)↔z∈l:=λz=>by rw[Al,QQ,QQ,<-Al,Db]
   have⟨o,n,f⟩:=yN (l0:=l) (a:=sortB<|l.take<|l.length / 2) (b:=sortB<|l.drop<|l.length / 2) ⟨List.Pairwise.nil,T5 _,T5 _,by simp,λz=>by rw[Bn];exact c z,λp q=>d p<|(c p).1<|by simpa using q,by simp;omega⟩;simp only[n];rw[ZZ (l:=l) f.so (λz=>by have:=f.mem z;simpa using this)]
def Aei{l}(h:Jw l):Xu l=some (sortB l):=eV fz l (EC h.1) h.1 h.2
def bA{O:Type}{B:(Int->Option (Sum Unit O))->Int->Option (Sum Unit O)}{n:Nat}(g:Nat->Option O)(c:n<=lim)
  (e:∀k,k < n->∀a,B a (k:Int)=match g k with|some o=>some (.inr o)|none=>a ((k+1:Nat):Int)) (f:∀a,B a (n:Int)=some (.inl ())):
  Aq B fz 0=some (match(List.range n).findSome? g with|some o=>.inr o|none=>.inl ()):=by
 have b:∀d k,k+d=n->∀m,d < m->Aq B m (k:Int)=some (match(List.range' k d).findSome? g with|some o=>.inr o|none=>.inl ()):=by
  intro d;induction d with
  |zero=>
   intro k h m i;cases m with
   |zero=>omega
   |succ m=>show B (Aq B m) (k:Int)=_;rw[show k=n by omega,f];rfl
  |succ d j=>
   intro k h m i;cases m with
   |zero=>omega
   |succ m=>
    show B (Aq B m) (k:Int)=_;rw[e k (by omega),Dm,List.findSome?_cons];cases l:g k with
    |some o=>rfl
    |none=>exact j (k+1) (by omega) m (by omega)
 have:=b n 0 (by omega) fz<|EC c;rw[GN];simpa using this
def HA{α:Type}{l:List α}{f:Nat->α->Bool}(h:BL l f=false){k:Nat}(a:k < l.length):f k l[k]=false:=by unfold BL at h;rw[CD]at h;have:=h k<|AQ.2 a;rw[Cx a]at this;simpa using this
def Qi(row:zI)(c:Int):Int:=(AF row c).getD 0
def VF(row a:zI):zI:=a.map<|Qi row
def pb{row c}(h:0<=c∧c < row.length):AF row c=some (Qi row c):=by unfold Qi AF;rw[At h.1,Ah (by omega)];rfl
def Ad7{row b}(e:b.length<=lim)(h:∀c∈b,0<=c∧c < row.length):UM row b=some (VF row b):=by unfold UM;rw[Jo (a:=b) (h:=Qi row) e (λk d f=>by unfold Uf;simp only;rw[Bc d,AG d,Bm d (Ba e)];simp only[Ab,G,pb (h _<|Aj d)];rw[Aw (by simp only[Am,Av,Af];unfold lim at *;omega)]) (λrec y=>by unfold Uf;simp only;rw[A2];rfl)];rfl
def tQ{row b}(e:b.length<=lim)(h:∀c∈b,0<=c∧c < row.length):Ts row b=some (VF row b):=by unfold Ts;rw[Jo (a:=b) (h:=Qi row) e (λk d f=>by unfold Wa;simp only;rw[Bc d,AG d,Bm d (Ba e)];simp only[Ab,G,pb (h _<|Aj d)];rw[Aw (by simp only[Am,Av,Af];unfold lim at *;omega)]) (λrec y=>by unfold Wa;simp only;rw[A2];rfl)];rfl
def nl{a b}(i:a.length<=lim):Nf a b=some (a==b):=by
 unfold Nf;by_cases j:a.length=b.length
 ·have e:((a.length:Int)!=(b.length:Int))=false:=by simp;omega
  rw[e,Aa,DX (λk=>I0 a k λx=>I0 b k λy=>x !=y) i (λk c m=>by
   have d:k < b.length:=by omega
   unfold RD;rw[Bc c,AG c,AG d,Bm c (Ba i),Cx c,Cx d];simp only[Ab,G]) (λrec=>by unfold RD;rw[A2];rfl)]
  have e2:((List.range a.length).any λk=>I0 a k λx=>I0 b k λy=>x !=y)= !(a==b):=by
   by_cases f:a=b
   ·subst f;rw[BP,Ai,CD];intro k c;have c:=AQ.1 c;rw[Cx c,Cx c];simp
   ·have:(a==b)=false:=by simpa using f
    rw[this,BT,C4];apply Bv;intro n;apply f;apply Ej j;intro k l o;apply Bv;intro g;exact n ⟨k,AQ.2 l,by rw[Cx l,Cx o];simpa using g⟩
  rw[e2];cases(a==b)<;>rfl
 ·have e:((a.length:Int)!=(b.length:Int))=true:=by simp;omega
  have e2:(a==b)=false:=by simp;intro h;exact j (by rw[h])
  rw[e,e2];rfl
def cmp_eq:∀a b:zI,(Fa a b==0)=(a==b)
 |[],[]=>rfl
 |[],_::_=>rfl
 |_::_,[]=>rfl
 |x::xs,y::c=>by
  rw[Fa];by_cases d:x < y
  ·rw[At d];have:(x::xs==y::c)=false:=by simp;intro h;omega
   rw[this];rfl
  ·rw[As d];by_cases e:y < x
   ·rw[At e];have:(x::xs==y::c)=false:=by simp;intro h;omega
    rw[this];rfl
   ·rw[As e,cmp_eq xs c];have:x=y:=by omega
    subst this;simp
def W1{O:Type}{B:(Int->Option (Sum Unit O))->Int->Option (Sum Unit O)}{n:Nat}(a:Nat->Bool)(o:O)(l:n<=lim)(p:∀k,k < n->∀b,B b (k:Int)=cond (a k) (some<|.inr o) (b ((k+1:Nat):Int)))(q:∀b,B b (n:Int)=some (.inl ())):
  Aq B fz 0=some (cond ((List.range n).any a) (.inr o)<|.inl ()):=by
 have e:∀d k,k+d=n->(∀j,j < k->a j=false)->∀m,d < m->Aq B m (k:Int)=some (cond ((List.range n).any a) (.inr o)<|.inl ()):=by
  intro d;induction d with
  |zero=>
   intro k r f m s;cases m with
   |zero=>omega
   |succ m=>
    have g:k=n:=by omega
    have:(List.range n).any a=false:=by rw[CD];intro x t;rw[f x (by have:=AQ.1 t;omega)];simp
    show B (Aq B m) (k:Int)=_;rw[g,q,this];rfl
  |succ d u=>
   intro k r f m s;cases m with
   |zero=>omega
   |succ m=>
    show B (Aq B m) (k:Int)=_;rw[p k (by omega)];cases c:a k with
    |true=>
     have:(List.range n).any a=true:=by rw[C4];exact⟨k,AQ.2 (by omega),c⟩
     rw[this];rfl
    |false=>
     exact u (k+1) (by omega) (λj i=>by
      rcases Bi j k with h|h
      ·exact f j h
      ·rw[show j=k by omega];exact c) m (by omega)
 have:=e n 0 (by omega) (λj i=>absurd i<|by omega) fz<|EC l;simpa using this
def j3{l}(h:Jw l):Jw (sortB l):=⟨BH (Ob l) h.1,λr a=>h.2 r<|(QQ l r).1 a⟩
def UD(a:Int)(x:Row):Bool:=((x.length:Int)!=a) || !Sw x
def jG(a:Int)(l:List Row):(Int×List Row)×Bool:=cond (BL l λ_ x=>UD a x) ((0,[]),false)<|cond (!Rc (a,sortB l)) ((0,[]),false) ((a,sortB l),true)
def yO{a:Int}{l:List Row}(h:Jw l):Hr a l=some (jG a l):=by
 unfold Hr jG BL;rw[W1 (λk=>I0 l k λx=>UD a x) _ h.1 (λk b c=>by unfold Pb;rw[Bc b,AG b,Bm b (Ba h.1),Cx b];simp only[Ab,G,Aab (h.2 _<|Aj b),UD];cases((List.length l[k]:Int)!=a)<;>cases Sw l[k]<;>rfl) (λrec=>by unfold Pb;rw[A2];rfl)];cases(List.range l.length).any λk=>I0 l k λx=>UD a x with
 |true=>rfl
 |false=>simp only[G,Aa,Aei h,vw (r:=(a,sortB l)) (j3 h),qp (r:=(a,sortB l)) (j3 h)];cases Rc (a,sortB l)<;>rfl
def AiT{a:Int}{l:List Row}(h:Jw l):Ot a l=some (jG a l):=by
 unfold Ot jG BL;rw[W1 (λk=>I0 l k λx=>UD a x) _ h.1 (λk b c=>by unfold O3;rw[Bc b,AG b,Bm b (Ba h.1),Cx b];simp only[Ab,G,zE (h.2 _<|Aj b),UD];cases((List.length l[k]:Int)!=a)<;>cases Sw l[k]<;>rfl) (λrec=>by unfold O3;rw[A2];rfl)];cases(List.range l.length).any λk=>I0 l k λx=>UD a x with
 |true=>rfl
 |false=>simp only[G,Aa,t5 h,lp (r:=(a,sortB l)) (j3 h)];cases Rc (a,sortB l)<;>rfl
abbrev Rln:=Int×List Row
def df{α:Type}{l:List α}{f:Nat->α->Bool}(h:∀i (hi:i < l.length),f i l[i]=false):BL l f=false:=by unfold BL;rw[CD];intro i hi;have hi:=AQ.1 hi;rw[Cx hi,h i hi];simp
def yz(r:Rln):Rc r=true↔(0<=r.1∧r.1<=5)∧r.2.length<=4000∧(∀x∈r.2,(x.length:Int)=r.1∧Sw x=true)∧ao r.2:=by
 unfold Rc FX;simp only[Ad,Bu,AY,FH];constructor
 ·rintro⟨c,l,b⟩;refine⟨c,by omega,λx m=>?_,?_⟩
  ·obtain⟨i,hi,rfl⟩:=Br.1 m;have:=HA b hi;unfold SH at this;simp only[Cp,CK]at this;exact⟨by simpa using this.1.1,this.1.2⟩
  ·have d:∀k (e:k+1 < r.2.length),Fa (r.2[k]'(by omega)) r.2[k+1] < 0:=by
    intro k e;have:=HA b e;unfold SH at this;simp only[Cp,Bool.and_eq_false_iff]at this;rcases this.2 with a|a
    ·simp at a
    ·rw[show k+1 - 1=k by omega,Cx (by omega)]at a;have:=HQ a;omega
   unfold ao;rw[Cn];intro i j hi f n;induction j with
   |zero=>omega
   |succ j o=>
    rcases Bi i j with a|a
    ·exact Rs (o (by omega) a)<|d j f
    ·have:i=j:=by omega
     subst this;exact d i f
 ·rintro⟨c,l,b,a⟩;refine⟨c,by omega,df λi hi=>?_⟩;have g:=b _<|Aj hi;unfold SH;rw[g.2,g.1];simp only[Dq,Ai,CH];by_cases h:0 < i
  ·rw[Ae h,AK,Cx (by omega:i - 1 < r.2.length)];have:=Cn.1 a (i - 1) i (by omega) hi (by omega);exact Ac (by omega)
  ·rw[Ac h,Hm]
abbrev Cur:=zI×Int×Int
def EU(c:Cur):Prop:=c.1.length<=1048576∧0<=c.2.1∧c.2.1<=c.1.length
def Dr{α:Type}(x:Option (α×Cur))(Q:α->Prop):Prop:=∃v c',x=some (v,c')∧Q v∧EU c'
def oh(a:Int):0<=kq a 255∧kq a 255<=255:=by
 unfold kq;have h:(BitVec.ofInt IntKind.i64.bits a&&& BitVec.ofInt IntKind.i64.bits 255).toNat<=255:=by rw[BitVec.toNat_and];exact BH Nat.and_le_right<|Nat.le_of_eq rfl
 rw[wrap_in ⟨by omega,by omega⟩];omega
def uK{b}(h:b.length<=1048576):∃c,Ud b=some c∧EU c:=by
 unfold Ud
 have⟨o,e,_⟩:=H9 (B:=Pi b) (λs=>0<=s.2∧s.2<=4000) (λs=>(4000 - s.2).toNat) (λ_=>True) (λs g=>by
  have⟨d,a⟩:=s;simp only at g;by_cases f:a < (b.length:Int)
  ·by_cases i:a < 4000
   ·right;obtain⟨v,j⟩:∃v,AF b a=some v:=⟨_,by unfold AF;rw[At g.1,Ah (by omega)]⟩;refine⟨(kq (wZ<|(wZ<|(wZ<|d * 131)+(wZ v))+7) 1073741823,a+1),⟨by simp only;omega,by simp only;omega⟩,by simp only;omega,λrec=>?_⟩;simp only[Pi];rw[Ae f,Ae i,j,wrap_in (n:=a+1) ⟨by omega,by omega⟩];rfl
   ·left;refine⟨d,trivial,λrec=>?_⟩;simp only[Pi];rw[Ae f,Ac i];rfl
  ·left;refine⟨d,trivial,λrec=>?_⟩;simp only[Pi];rw[Ac f];rfl) fz (wZ (10101+(b.length:Int)),0) ⟨by simp,by simp⟩ (by unfold fz;simp)
 rw[e];exact⟨_,rfl,h,by simp,by simp⟩
section
variable {c:Cur}
def VY(h:EU c):Dr (I2 c) λv=>0<=v∧v<=255:=by
 have⟨a,b,e⟩:=h;unfold I2 Q2;by_cases d:c.2.1 < (c.1.length:Int)
 ·rw[Ae d];obtain⟨v,f⟩:∃v,AF c.1 c.2.1=some v:=⟨_,by unfold AF;rw[At b,Ah (by omega)]⟩;simp only[Ab,f,G];refine⟨_,_,rfl,oh _,a,?_,?_⟩
  ·simp only;rw[wrap_in ⟨by omega,by omega⟩];omega
  ·simp only;rw[wrap_in ⟨by omega,by omega⟩];omega
 ·rw[Ac d];exact⟨_,_,rfl,oh _,a,b,e⟩
def DT(h:EU c){n:Int}(a:0 < n)(b:n<=256):Dr (B8 c n) λv=>0<=v∧v < n:=by have⟨v,c',e,d,f⟩:=VY h;unfold B8;rw[Ac (by omega),Ae b,e];simp only[Aa,Ab,G];rw[Aw (by omega)];refine⟨_,_,rfl,?_,f⟩;rw[D6 d.1];exact⟨Int.emod_nonneg _ (by omega),Int.emod_lt_of_pos _ a⟩
def XY(h:EU c){n:Int}(a:0 < n)(b:n<=256):Dr (K3 c n) λ_=>True:=by have⟨v,c',e,f,d⟩:=DT h a b;unfold K3;rw[e];exact⟨_,_,rfl,trivial,d⟩
def Mb(h:EU c){l:zI}(d:0 < l.length)(f:l.length<=256):Dr (DH c l) λv=>v∈l:=by
 have⟨v,c',e,a,b⟩:=DT h (n:=(l.length:Int)) (by omega) (by omega);unfold DH;rw[e];simp only[G];have:AF l v=some (l[v.toNat]'(by omega)):=by unfold AF;rw[At a.1,Ah]
 rw[this];exact⟨_,_,rfl,Aj _,b⟩
def cK(h:EU c){l:List zU}(d:0 < l.length)(f:l.length<=256):Dr (Og c l) λv=>v∈l:=by
 have⟨v,c',e,a,b⟩:=DT h (n:=(l.length:Int)) (by omega) (by omega);unfold Og;rw[e];simp only[G];have:AF l v=some (l[v.toNat]'(by omega)):=by unfold AF;rw[At a.1,Ah]
 rw[this];exact⟨_,_,rfl,Aj _,b⟩
def oN(h:EU c){n m:Int}(C:n<=1000)(j:0 < m)(k:m<=256):Dr (Ue c n m) λr=>(r.length:Int)=max 0 n∧∀e∈r,0<=e∧e < m:=by
 unfold Ue
 have⟨o,e,l,p,q⟩:=H9 (B:=R6 n m) (λs=>EU (s.1,s.2.1,s.2.2.1)∧(s.2.2.2.length:Int)<=max 0 n∧∀e∈s.2.2.2,0<=e∧e < m) (λs=>(n - s.2.2.2.length).toNat) (λo=>EU (o.1,o.2.1,o.2.2.1)∧(o.2.2.2.length:Int)=max 0 n∧∀e∈o.2.2.2,0<=e∧e < m) (λs t=>by
  have⟨b,i,u,r⟩:=s;have⟨d,w,f⟩:=t;simp only at d w f;by_cases g:(r.length:Int) < n
  ·right;have⟨v,c',e,y,z⟩:=DT d j k;refine⟨(c'.1,c'.2.1,c'.2.2,r++[v]),⟨z,?_,?_⟩,?_,λrec=>?_⟩
   ·simp only[Ak,Af];omega
   ·intro x a;rcases Al.1 a with a|a
    ·exact f x a
    ·rw[AU]at a;subst a;exact y
   ·simp only[Ak,Af];omega
   ·simp only[R6];rw[Ae g,e];simp only[Ab,G];rw[Aw (by unfold lim;simp only[Af];omega)]
  ·left;refine⟨(b,i,u,r),⟨d,?_,f⟩,λrec=>?_⟩
   ·simp only;omega
   ·simp only[R6];rw[Ac g];rfl) fz (c.1,c.2.1,c.2.2,[]) ⟨h,by simp;omega,λe A=>by cases A⟩ (by unfold fz;simp only[Bw];omega)
 rw[e];exact⟨_,_,rfl,⟨p,q⟩,l⟩
def cX(k:Int)(l:List Row):Prop:=l.length<=1000∧∀r∈l,(r.length:Int)=k
def x8{a k l}(h:cX k l):cX k (jG a l).1.2:=by
 unfold jG;cases BL l λ_ x=>UD a x with
 |true=>exact⟨by simp,λr b=>by cases b⟩
 |false=>
  simp only[Aa];cases Rc (a,sortB l)with
  |false=>exact⟨by simp,λr b=>by cases b⟩
  |true=>exact⟨BH (Ob l) h.1,λr b=>h.2 r<|(QQ l r).1 b⟩
def eT{k l}(h:cX k l)(b:k<=1000):Jw l:=⟨by have:=h.1;unfold lim;omega,λr a=>by have:=h.2 r a;unfold lim;omega⟩
def Ahz(a:Int)(l:List Row):(jG a l).1.1=a∨(jG a l).1.1=0:=by
 unfold jG;cases BL l λ_ x=>UD a x with
 |true=>exact .inr rfl
 |false=>
  simp only[Aa];cases Rc (a,sortB l)with
  |false=>exact .inr rfl
  |true=>exact .inl rfl
def p9(h:EU c){a m v:Int}(O:0<=a)(f:a<=1000)(P:0<=m)(w:m<=200)(y:0 < v)(z:v<=256):Dr (RP c a m v) λr=>cX a r.2∧(r.1=a∨r.1=0):=by
 unfold RP;have⟨n,g,A,C,j⟩:=DT h (n:=m+1) (by omega) (by omega);rw[wrap_in ⟨by omega,by omega⟩,A];simp only[G]
 have⟨o,e,D,Q,F⟩:=H9 (B:=R8 a v) (λs=>EU (s.1,s.2.1,s.2.2.1)∧0<=s.2.2.2.2∧s.2.2.2.1.length+s.2.2.2.2<=m∧∀r∈s.2.2.2.1,(r.length:Int)=a) (λs=>s.2.2.2.2.toNat) (λo=>EU (o.1,o.2.1,o.2.2.1)∧(o.2.2.2.length:Int)<=m∧∀r∈o.2.2.2,(r.length:Int)=a) (λs H=>by
  have⟨b,i,I,l,k⟩:=s;have⟨p,J,K,q⟩:=H;simp only at p J K q;by_cases t:0 < k
  ·right;have⟨r,c',e,L,M⟩:=oN p (n:=a) (m:=v) f y z;refine⟨(c'.1,c'.2.1,c'.2.2,l++[r],k - 1),⟨M,?_,?_,?_⟩,?_,λrec=>?_⟩
   ·simp only;omega
   ·simp only[Ak,Af];omega
   ·intro x d;rcases Al.1 d with d|d
    ·exact q x d
    ·rw[AU]at d;subst d;rw[L.1];omega
   ·simp only;omega
   ·simp only[R8];rw[Ae t,e];simp only[Ab,G];rw[Aw (by unfold lim;simp only[Af];omega),wrap_in ⟨by omega,by omega⟩]
  ·left;refine⟨(b,i,I,l),⟨p,?_,q⟩,λrec=>?_⟩
   ·simp only;omega
   ·simp only[R8];rw[Ac t];rfl) fz (g.1,g.2.1,g.2.2,[],n) ⟨j,C.1,by simp only[Bw];omega,λe N=>by cases N⟩ (by unfold fz;simp only;omega)
 rw[e];have u:cX a o.2.2.2:=⟨by omega,F⟩;simp only;rw[yO (eT u f)];exact⟨_,_,rfl,⟨x8 u,Ahz _ _⟩,D⟩
def Ad3(h:EU c){a m v:Int}(f:0<=a)(b:a<=1000)(g:0<=m)(d:m<=200)(i:0 < v)(j:v<=256):Dr (RP c a m v) λr=>cX a r.2:=by have⟨v,c',e,k,l⟩:=p9 h f b g d i j;exact⟨v,c',e,k.1,l⟩
def wD(t:Tp):Prop:=t.1.length<=10∧∃k:Int,2<=k∧k<=1000∧cX k t.2.2
def DbD(d:List Tp):Prop:=d.length<=5∧∀t∈d,wD t
def zC(h:EU c):Dr (VT c) λd=>d.length=5∧DbD d:=by
 unfold VT;have⟨v,c1,e1,hv,hc1⟩:=Mb h (l:=[2,3,4,6]) (by simp) (by simp);have hv':2<=v∧v<=6:=by simp at hv;omega
 rw[e1];simp only[G]
 have⟨o,e,k1,k2,k3⟩:=H9 (B:=OK (v,c1)) (λs=>EU (s.1,s.2.1,s.2.2.1)∧0<=s.2.2.2.2∧s.2.2.2.2<=5∧(s.2.2.2.1.length:Int)=s.2.2.2.2∧∀t∈s.2.2.2.1,wD t) (λs=>(5 - s.2.2.2.2).toNat) (λo=>EU (o.1,o.2.1,o.2.2.1)∧o.2.2.2.length=5∧∀t∈o.2.2.2,wD t) (λs hs=>by
  have⟨b,i,hh,l,k⟩:=s;have⟨i1,i2,i3,i4,i5⟩:=hs;simp only at i1 i2 i3 i4 i5;by_cases h2:k < 5
  ·right
   obtain⟨nm,hg,hnm⟩:∃nm,AF ([[114],[115],[116],[117],[118]]:List zU) k=some nm∧nm.length<=10:=by
    have:k=0∨k=1∨k=2∨k=3∨k=4:=by omega
    rcases this with rfl|rfl|rfl|rfl|rfl<;>exact⟨_,rfl,by simp⟩
   have⟨p,c2,e2,hp,hc2⟩:=Mb i1 (l:=[3,6,9]) (by simp) (by simp);have hp':0<=p∧p<=9:=by simp at hp;omega
   have step:∀x:Int,2<=x->x<=3->∃s',(EU (s'.1,s'.2.1,s'.2.2.1)∧0<=s'.2.2.2.2∧s'.2.2.2.2<=5∧(s'.2.2.2.1.length:Int)=s'.2.2.2.2∧∀t∈s'.2.2.2.1,wD t)∧(5 - s'.2.2.2.2).toNat < (5 - k).toNat∧∀rec,Q7 rec (v,c1) b i hh l k nm x=rec s':=by
    intro x hx1 hx2;have⟨r,c3,e3,hr,hc3⟩:=Ad3 hc2 (a:=x) (m:=p) (v:=v) (by omega) (by omega) hp'.1 (by omega) (by omega) (by omega);refine⟨(c3.1,c3.2.1,c3.2.2,l++[(nm,r)],k+1),⟨hc3,by simp only;omega,by simp only;omega,by simp only[Ak,Af];omega,?_⟩,by simp only;omega,λrec=>?_⟩
    ·intro t ht;rcases Al.1 ht with ht|ht
     ·exact i5 t ht
     ·rw[AU]at ht;subst ht;exact⟨hnm,x,hx1,by omega,hr⟩
    ·unfold Q7;rw[e2];simp only[G];rw[e3];simp only;rw[Aw (by unfold lim;simp only[Af];omega),wrap_in ⟨by omega,by omega⟩]
   cases hq:(nm==[118])with
   |true=>have⟨s',q1,q2,q3⟩:=step 3 (by omega) (by omega);refine⟨s',q1,q2,λrec=>?_⟩;unfold OK;dsimp only;rw[Ae (p:=k < _) (by simp;omega),hg];simp only[Ab,G,hq];exact q3 rec
   |false=>have⟨s',q1,q2,q3⟩:=step 2 (by omega) (by omega);refine⟨s',q1,q2,λrec=>?_⟩;unfold OK;dsimp only;rw[Ae (p:=k < _) (by simp;omega),hg];simp only[Ab,G,hq,Aa];exact q3 rec
  ·left;refine⟨(b,i,hh,l),⟨i1,by simp only;omega,i5⟩,λrec=>?_⟩;unfold OK;dsimp only;rw[Ac (p:=k < _) (by simp;omega)];rfl) fz (c1.1,c1.2.1,c1.2.2,[],0) ⟨hc1,by simp,by simp,by simp,λe he=>by cases he⟩ (by unfold fz;simp)
 rw[e];have⟨b,i,hh,l⟩:=o;simp only at k1 k2 k3⊢;have⟨w,c4,e4,_,hc4⟩:=XY k1 (n:=8) (by omega) (by omega);rw[e4];simp only;cases w with
 |false=>exact⟨_,_,rfl,⟨k2,by omega,k3⟩,hc4⟩
 |true=>
  simp only[Ab];have⟨x,c5,e5,hx,hc5⟩:=DT hc4 (n:=5) (by omega) (by omega);rw[Aw (by omega),e5];simp only[To];have:AF l x=some (l[x.toNat]'(by omega)):=by unfold AF;rw[At hx.1,Ah]
  rw[this];refine⟨_,_,rfl,⟨by unfold CL;rw[Bd];exact k2,by unfold CL;rw[Bd];omega,λt ht=>?_⟩,hc5⟩;unfold CL at ht;rcases CG ht with h1|rfl
  ·exact k3 t h1
  ·have⟨q1,q⟩:=k3 _ (Aj (by omega:x.toNat < l.length));exact⟨q1,2,by omega,by omega,by simp,λr hr=>by cases hr⟩
end
def wA(r:Int×List zI):Prop:= -1<=r.1∧r.1<=6∧r.2.length<=1001∧∀x∈r.2,x.length<=10
def wA.sm{r}(h:wA r):Jw r.2:=⟨by have:=h.2.2.1;unfold lim;omega,λx a=>by have:=h.2.2.2 x a;unfold lim;omega⟩
section
variable {c:Cur}
def any_ok(h:EU c):Dr (Wy c) λr=>wA r:=by
 unfold Wy;have⟨a,K,F,L,p⟩:=DT h (n:=4) (by omega) (by omega);rw[F];simp only[G];have⟨r,c2,e2,⟨q,H⟩,s⟩:=p9 p (a:=a) (m:=6) (v:=4) (by omega) (by omega) (by omega) (by omega) (by omega) (by omega);rw[e2];simp only;have⟨w,t,I,M,f⟩:=DT s (n:=14) (by omega) (by omega);rw[I];simp only;have d:∀x∈r.2,x.length<=10:=λx g=>by have:=q.2 x g;omega
 have z:=q.1;have N:0<=r.1∧r.1<=3:=by omega
 have b:Dr (Lk t.1 t.2.1 t.2.2 r.1 r.2) λr=>wA r:=⟨_,_,rfl,⟨by simp only;omega,by simp only;omega,by simp only;omega,d⟩,f⟩
 cases(w==0)with
 |true=>
  simp only[Ab];rw[wrap_in ⟨by omega,by omega⟩];have⟨x,A,j,g,e⟩:=Mb f (l:=[-1,6,r.1+1]) (by simp) (by simp);rw[j];have o: -1<=x∧x<=6:=by simp at g;omega
  exact⟨_,_,rfl,⟨o.1,o.2,by simp only;omega,d⟩,e⟩
 |false=>
  simp only[Aa];cases(w==1)with
  |true=>
   simp only[Ab];have O:(if 0 < r.1 then r.1 else 0)<=3:=by split<;>omega
   have⟨row,A,j,g,e⟩:=oN f (n:=if 0 < r.1 then r.1 else 0) (m:=4) (by omega) (by omega) (by omega);rw[j];simp only;rw[Aw (by unfold lim;simp only[Af];omega)];refine⟨_,_,rfl,⟨by simp only;omega,by simp only;omega,by simp only[Ak,Af];omega,λx u=>?_⟩,e⟩;rcases Al.1 u with i|i
   ·exact d x i
   ·rw[AU]at i;subst i;have:=g.1;omega
  |false=>
   simp only[Aa];cases(w==2)with
   |false=>exact b
   |true=>
    simp only[Ab];cases B:decide (0 < (r.2.length:Int))with
    |false=>exact b
    |true=>
     have B:=GW B;simp only[Ab];cases C:decide (0 < r.1)with
     |false=>exact b
     |true=>
      have C:=GW C;unfold R7;simp only[Ab];have J:AF r.2 0=some (r.2[0]'(by omega)):=AG (k:=0) (by omega);have P:=q.2 _<|Aj (by omega:0 < r.2.length);rw[Aw (by omega),J];simp only[G];rw[Aw (by omega)];have⟨x,A,j,g,e⟩:=Mb f (l:=[-1,100,99]) (by simp) (by simp);rw[j];simp only;have g1:AF (r.2[0]'(by omega)) 0=some ((r.2[0]'(by omega))[0]'(by omega)):=AG (k:=0) (by omega);rw[g1];refine⟨_,_,rfl,⟨by simp only;omega,by simp only;omega,by unfold CL;simp only[Bd];omega,λy D=>?_⟩,e⟩;unfold CL at D;rcases CG D with i|rfl
      ·exact d y i
      ·rw[Bd];omega
end
def sv{S:Type}{B:(S×Int->Option (Sum S Bool))->S×Int->Option (Sum S Bool)}{n:Nat}(s:Nat->S)(a:Nat->Bool)(l:n<=lim)(o:∀k,k < n->∀b,B b (s k,(k:Int))=cond (a k) (some<|.inr false) (b (s<|k+1,((k+1:Nat):Int))))(p:∀b,B b (s n,(n:Int))=some (.inl<|s n)):
  Aq B fz (s 0,0)=some (cond ((List.range n).any a) (.inr false)<|.inl<|s n):=by
 have e:∀d k,k+d=n->(∀j,j < k->a j=false)->∀m,d < m->Aq B m (s k,(k:Int))=some (cond ((List.range n).any a) (.inr false)<|.inl<|s n):=by
  intro d;induction d with
  |zero=>
   intro k q f m r;cases m with
   |zero=>omega
   |succ m=>
    have g:k=n:=by omega
    have:(List.range n).any a=false:=by rw[CD];intro x t;rw[f x (by have:=AQ.1 t;omega)];simp
    show B (Aq B m) (s k,(k:Int))=_;rw[g,p,this];rfl
  |succ d u=>
   intro k q f m r;cases m with
   |zero=>omega
   |succ m=>
    show B (Aq B m) (s k,(k:Int))=_;rw[o k (by omega)];cases c:a k with
    |true=>
     have:(List.range n).any a=true:=by rw[C4];exact⟨k,AQ.2 (by omega),c⟩
     rw[this];rfl
    |false=>
     exact u (k+1) (by omega) (λj i=>by
      rcases Bi j k with h|h
      ·exact f j h
      ·rw[show j=k by omega];exact c) m (by omega)
 have:=e n 0 (by omega) (λj i=>absurd i<|by omega) fz<|EC l;simpa using this
def Xd(l:zI)(v:Int):Option Nat:=(List.range l.length).findSome? λk=>if(I0 l k λe=>e==v)=true then some k else none
def YE(l:zI)(v:Int):(Xd l v).isSome=l.contains v:=by
 unfold Xd;rw[Ck,List.findSome?_isSome_iff,Bk];constructor
 ·rintro⟨k,a,h⟩;have a:=AQ.1 a;split at h
  ·rename_i b;rw[Cx a]at b;have:l[k]=v:=by simpa using b
   rw[<-this];exact Aj a
  ·cases h
 ·intro h;obtain⟨k,a,rfl⟩:=Br.1 h;exact⟨k,AQ.2 a,by rw[Cx a];simp⟩
def GG(l:zI)(v:Int):Int:=match Xd l v with
 |some k=>(k:Int)
 |none=> -1
def Tv(l:zI)(v:Int):decide (0<=GG l v)=l.contains v:=by
 rw[<-YE];unfold GG;cases Xd l v with
 |some k=>simp
 |none=>rfl
def YT{l:zI}(h:l.length<=lim)(v:Int):I3 l v=some (GG l v):=by
 unfold I3 GG Xd;rw[bA (O:=Int) (λk=>if(I0 l k λe=>e==v)=true then some (k:Int)else none) h (λk a b=>by unfold Uh;rw[Bc a,AG a,Bm a (Ba h),Cx a];simp only[Ab,G];cases(l[k]==v)<;>rfl) (λrec=>by unfold Uh;rw[A2];rfl)];have e:((List.range l.length).findSome? λk=>if(I0 l k λe=>e==v)=true then some (k:Int)else none)=((List.range l.length).findSome? λk=>if(I0 l k λe=>e==v)=true then some k else none).map (λk:Nat=>(k:Int)):=by rw[N3];congr 1;funext k;simp only[Function.comp];split<;>rfl
 rw[e];cases(List.range l.length).findSome? λk=>if(I0 l k λe=>e==v)=true then some k else none<;>rfl
def ni{l:zI}(h:l.length<=lim)(v:Int):Ox l v=some (GG l v):=by
 unfold Ox GG Xd;rw[bA (O:=Int) (λk=>if(I0 l k λe=>e==v)=true then some (k:Int)else none) h (λk a b=>by unfold SB;rw[Bc a,AG a,Bm a (Ba h),Cx a];simp only[Ab,G];cases(l[k]==v)<;>rfl) (λrec=>by unfold SB;rw[A2];rfl)];have e:((List.range l.length).findSome? λk=>if(I0 l k λe=>e==v)=true then some (k:Int)else none)=((List.range l.length).findSome? λk=>if(I0 l k λe=>e==v)=true then some k else none).map (λk:Nat=>(k:Int)):=by rw[N3];congr 1;funext k;simp only[Function.comp];split<;>rfl
 rw[e];cases(List.range l.length).findSome? λk=>if(I0 l k λe=>e==v)=true then some k else none<;>rfl
def tL{l}(h:l.length<=lim)(v:Int):Qa l v=some (l.contains v):=by unfold Qa;simp only[ni h,G,Tv]
abbrev R9:=zU×zI
abbrev K8:=Int×List R9×zI
def rX{a:R9}(h:a.2.length<=lim)(v:Int):Dy a v=some (a.2.contains v):=by
 unfold Dy;rw[bA (O:=Bool) (λk=>if(I0 a.2 k λe=>e==v)=true then some true else none) h (λk b c=>by unfold Lg;rw[Bc b,AG b,Bm b (Ba h),Cx b];simp only[Ab,G];cases(a.2[k]==v)<;>rfl) (λrec=>by unfold Lg;rw[A2];rfl)];rw[<-YE];have e:((List.range a.2.length).findSome? λk=>if(I0 a.2 k λe=>e==v)=true then some true else none)=(Xd a.2 v).map (λ_=>true):=by unfold Xd;rw[N3];congr 1;funext k;simp only[Function.comp];split<;>rfl
 rw[e];cases Xd a.2 v<;>rfl
def In(n:Int)(l:zI)(k:Nat)(e:Int):Bool:= !FX e 0 (wZ<|n - 1) || (l.take k).contains e
def Z9{α:Type}(l:List α)(k:Nat):B5 l 0 (k:Int)=l.take k:=by simp[B5]
def tZ{l:zI}(h:l.length<=lim)(n:Int):Oy l n=some (!BL l (In n l)):=by unfold Oy BL;rw[DX (λk=>I0 l k (In n l k)) h (λk a b=>by unfold SC;rw[Bc a,AG a,Bm a (Ba h),Cx a];simp only[Ab,G,FC];rw[Aw (by omega),Z9];simp only[tL (l:=l.take k) (by rw[Av];omega),In];cases FX l[k] 0 (wZ (n - 1))<;>rfl) (λrec=>by unfold SC;rw[A2];rfl)];cases(List.range l.length).any λk=>I0 l k (In n l k)<;>rfl
def Pp(n:Int)(a:R9):Bool:= !nmB a.1 || (!FX (a.2.length:Int) 1 5 || BL a.2 λ_ v=> !FX v 0 (wZ<|n - 1))
def T4(q:K8):Prop:=q.2.1.length<=lim∧(∀a∈q.2.1,a.1.length<=lim∧a.2.length<=lim)∧q.2.2.length<=lim
def Lq(l:List R9)(v:Int):Bool:=l.any λa=>a.2.contains v
def yF{q}(h:T4 q):Aq (KQ q) fz 0=some (cond (BL q.2.1 λ_ a=>Pp q.1 a) (.inr false)<|.inl ()):=by
 unfold BL;refine DX (λk=>I0 q.2.1 k λa=>Pp q.1 a) h.1 (λk b d=>?_) (λrec=>by unfold KQ;rw[A2];rfl);have e:=h.2.1 _<|Aj b;unfold KQ;rw[Bc b,AG b,Bm b (Ba h.1),Cx b];simp only[Ab,G,vF e.1,Jv,Pp];cases nmB q.2.1[k].1 with
 |false=>rfl
 |true=>
  cases FX (q.2.1[k].2.length:Int) 1 5 with
  |false=>rfl
  |true=>simp only[Ai,Aa,CH];rw[DX (λj=>I0 q.2.1[k].2 j λv=> !FX v 0 (wZ (q.1 - 1))) e.2 (λj c d=>by unfold Of;rw[AG b];simp only[G];rw[Bc c,AG c,Bm c (Ba e.2),Cx c];simp only[Ab,Jv]) (λrec=>by unfold Of;rw[AG b];simp only[G];rw[A2];rfl)];unfold BL;cases(List.range q.2.1[k].2.length).any λj=>I0 q.2.1[k].2 j λv=> !FX v 0 (wZ<|q.1 - 1)<;>rfl
def Aek{q}(h:T4 q)(v:Int):Aq (Gx q v) fz (false,0)=some (Lq q.2.1 v):=by
 have:=DQ (body:=Gx q v) (out:=Lq q.2.1 v) (λk=>(Lq (q.2.1.take k) v,(k:Int))) q.2.1.length (λk a b=>by
  have c:=h.2.1 _<|Aj a;unfold Gx KT;simp only;rw[Bc a,AG a,Bm a (Ba h.1)];simp only[Ab,G,rX c.2];have e:Lq (q.2.1.take<|k+1) v=(Lq (q.2.1.take k) v || q.2.1[k].2.contains v):=by unfold Lq;rw[A7 a,List.any_append];simp
  rw[e];cases Lq (q.2.1.take k) v<;>rfl) (λrec=>by unfold Gx;simp only;rw[A2,Bl];rfl) fz (EC h.1)
 simpa[Lq]using this
def yI{q}(h:T4 q)(b:1<=q.1∧q.1<=5):Aq (KR q) fz 0=some (cond ((List.range q.1.toNat).any λv=> !Lq q.2.1 (v:Int)) (.inr false)<|.inl ()):=by
 have e:q.1=(q.1.toNat:Int):=by omega
 refine DX (λv=> !Lq q.2.1 (v:Int)) (by unfold lim;omega) (λk c a=>?_) (λrec=>by unfold KR;rw[Ac (by omega:¬((q.1.toNat:Nat):Int) < q.1)];rfl);unfold KR;rw[Ae (by omega:(k:Int) < q.1),Aek h,wrap_in (by omega)];simp only[Ab,G];rfl
def Ah1{q}(h:T4 q):Aq (KS q) fz 0=some (cond (BL q.2.2<|In q.1 q.2.2) (.inr false)<|.inl ()):=by unfold BL;refine DX (λk=>I0 q.2.2 k<|In q.1 q.2.2 k) h.2.2 (λk a b=>?_) (λrec=>by unfold KS;rw[A2];rfl);unfold KS;rw[Bc a,AG a,Bm a (Ba h.2.2),Cx a];simp only[Ab,G,Jv];rw[Aw (by omega),Z9];simp only[YT (l:=q.2.2.take k) (by rw[Av];have:=h.2.2;omega),Tv,In];cases FX q.2.2[k] 0 (wZ<|q.1 - 1)<;>rfl
def GY(q:K8):Bool:=FX q.1 1 5&&(FX (q.2.1.length:Int) 1 4&&(!BL q.2.2 (In q.1 q.2.2)&&(!(BL q.2.1 λ_ a=>Pp q.1 a)&& !((List.range q.1.toNat).any λv=> !Lq q.2.1 (v:Int)))))
def few:∀(n:Nat) (l:zI),l.Nodup->(∀e∈l,0<=e∧e < (n:Int))->l.length<=n
 |0,l,_,h=>by
  cases l with
  |nil=>simp
  |cons e l=>have:=h e (by simp);omega
 |n+1,l,b,h=>by
  have f:=few n (l.erase (n:Int)) (b.erase _) (λe c=>by
   have d:=h e<|List.mem_of_mem_erase c;have g:e≠(n:Int):=λq=>by subst q;exact(List.Nodup.not_mem_erase b) c
   omega)
  have d:=List.length_erase (a:=(n:Int)) (l:=l);split at d<;>omega
def qt{n}(p:1<=n∧n<=5){l:zI}(h:BL l (In n l)=false):(l.length:Int)<=n:=by
 have d:wZ (n - 1)=n - 1:=wrap_in (by omega);have a:∀e∈l,0<=e∧e < (n.toNat:Int):=by intro e b;obtain⟨k,f,rfl⟩:=Br.1 b;have:=HA h f;unfold In FX at this;simp only[Cp,CK,Ad,Bu,d]at this;omega
 have g:l.Nodup:=by
  rw[Cv,Cn];intro i j hi m o b;have:=HA h m;unfold In at this;simp only[Cp]at this;have c:=this.2;have:(l.take j).contains l[j]=true:=by rw[Bk,Br];exact⟨i,by rw[Av];omega,by rw[Iw];exact b⟩
  rw[this]at c;cases c
 have:=few n.toNat l g a;omega
def UG{q}(h:T4 q):DS q=some (GY q):=by
 unfold DS GY;simp only[Jv,G,yF h,Ah1 h];cases b:FX q.1 1 5 with
 |false=>rfl
 |true=>
  have c:1<=q.1∧q.1<=5:=by unfold FX at b;simpa using b
  rw[yI h c];cases FX (q.2.1.length:Int) 1 4 with
  |false=>rfl
  |true=>
   by_cases d:q.1 < (q.2.2.length:Int)
   ·rw[Ae d]
    have:BL q.2.2 (In q.1 q.2.2)=true:=by
     cases e:BL q.2.2 (In q.1 q.2.2)with
     |true=>rfl
     |false=>have:=qt c e;omega
    rw[this];rfl
   ·rw[Ac d];cases BL q.2.2 (In q.1 q.2.2)<;>cases(BL q.2.1 λ_ a=>Pp q.1 a)<;>cases((List.range q.1.toNat).any λv=> !Lq q.2.1 (v:Int))<;>rfl
def uL(m:Nat)(f:Nat->Bool):List Bool:=(List.range m).map f
def kf(m:Nat)(f:Nat->Bool):(uL m f).length=m:=by simp[uL]
def Aex{m v}(f:Nat->Bool):(uL m f).set v true=uL m (λu=>f u || u==v):=by
 apply Ej
 ·simp[uL]
 ·intro i a b;rw[ER];simp only[uL,BO,Fm];split
  ·rename_i e;subst e;simp
  ·rename_i e;have:(i==v)=false:=by simp;omega
   rw[this];simp
def xr{q}(h:T4 q)(r:1<=q.1∧q.1<=5):Aq (HH q) fz (List.replicate (Int.toNat q.1) false,0)=some (cond (BL q.2.1 λ_ a=>Pp q.1 a) (.inr false)<|.inl<|uL q.1.toNat λv=>Lq q.2.1 (v:Int)):=by
 have l:wZ (q.1 - 1)=q.1 - 1:=wrap_in (by omega);have m:List.replicate (Int.toNat q.1) false=uL q.1.toNat λv=>Lq (q.2.1.take 0) (v:Int):=by unfold uL Lq;simp[List.map_const']
 rw[m];unfold BL
 have:=sv (B:=HH q) (n:=q.2.1.length) (λk=>uL q.1.toNat λv=>Lq (q.2.1.take k) (v:Int)) (λk=>I0 q.2.1 k λa=>Pp q.1 a) h.1 (λk b f=>by
  have g:=h.2.1 _<|Aj b;unfold HH;simp only;rw[Bc b,AG b,Bm b (Ba h.1),Cx b];simp only[Ab,G,tP g.1,FC,Pp];cases nmB q.2.1[k].1 with
  |false=>rfl
  |true=>
   cases FX (q.2.1[k].2.length:Int) 1 5 with
   |false=>rfl
   |true=>
    simp only[Ai,Aa,CH]
    have c:=sv (B:=Ks q q.2.1[k]) (n:=q.2.1[k].2.length) (λj=>uL q.1.toNat λv=>Lq (q.2.1.take k) (v:Int) || (q.2.1[k].2.take j).contains (v:Int)) (λj=>I0 q.2.1[k].2 j λv=> !FX v 0 (wZ (q.1 - 1))) g.2 (λj d f=>by
     unfold Ks;simp only;rw[Bc d,AG d,Bm d (Ba g.2),Cx d];simp only[Ab,G,FC];cases i:FX q.2.1[k].2[j] 0 (wZ<|q.1 - 1)with
     |false=>rfl
     |true=>
      have s:0<=q.2.1[k].2[j]∧q.2.1[k].2[j]<=q.1 - 1:=by rw[l]at i;unfold FX at i;simpa using i
      have e:q.2.1[k].2[j]=((q.2.1[k].2[j].toNat:Nat):Int):=by omega
      simp only[Ai,Aa];rw[e,AG (by rw[kf];omega)];simp only;congr 2;unfold CL;rw[AB,Aex _];congr 1;funext u;rw[A7 d,List.contains_append,Bool.or_assoc];congr 1;congr 1;rw[e];simp only[List.contains_cons,List.contains_nil,Bool.or_false];rw[Ck];simp;omega) (λrec=>by unfold Ks;simp only;rw[A2];rfl)
    have o:(uL q.1.toNat λv=>Lq (q.2.1.take k) (v:Int) || (q.2.1[k].2.take 0).contains (v:Int))=uL q.1.toNat λv=>Lq (q.2.1.take k) (v:Int):=by unfold uL;simp
    have p:(uL q.1.toNat λv=>Lq (q.2.1.take k) (v:Int) || (q.2.1[k].2.take q.2.1[k].2.length).contains (v:Int))=uL q.1.toNat λv=>Lq (q.2.1.take<|k+1) (v:Int):=by congr 1;funext v;unfold Lq;rw[Bl,A7 b,List.any_append];simp
    simp only[o,p]at c;rw[c];unfold BL;cases(List.range q.2.1[k].2.length).any λj=>I0 q.2.1[k].2 j λv=> !FX v 0 (wZ (q.1 - 1))<;>rfl) (λrec=>by unfold HH;simp only;rw[A2];rfl)
 rw[Bl]at this;exact this
def Uw{q}(h:T4 q):D8 q=some (GY q):=by
 unfold D8 GY;simp only[FC,G,tZ h.2.2];cases c:FX q.1 1 5 with
 |false=>rfl
 |true=>
  have d:1<=q.1∧q.1<=5:=by unfold FX at c;simpa using c
  cases FX (q.2.1.length:Int) 1 4 with
  |false=>rfl
  |true=>
   cases BL q.2.2 (In q.1 q.2.2)with
   |true=>rfl
   |false=>
    simp only[Ai,BT,Aa,AK];rw[Aw (by unfold lim;omega),xr h d];cases(BL q.2.1 λ_ a=>Pp q.1 a)with
    |true=>rfl
    |false=>simp only[Aa,BT,AK];rw[DX (n:=(uL q.1.toNat λv=>Lq q.2.1 (v:Int)).length) (λk=> !Lq q.2.1 (k:Int)) (by rw[kf];unfold lim;omega) (λk b e=>by unfold NX;rw[Bc b,AG b,Bm b (by rw[kf];unfold maxLen;omega)];simp only[Ab,G,uL,BO,Fm]) (λrec=>by unfold NX;rw[A2];rfl),kf];cases(List.range q.1.toNat).any λv=> !Lq q.2.1 (v:Int)<;>rfl
def PM{α:Type}{l:List α}{f:α->Bool}(h:BL l (λ_ e=>f e)=false){a:α}(b:a∈l):f a=false:=by obtain⟨k,c,rfl⟩:=Br.1 b;exact HA h c
def bo{q:K8}(h:GY q=true):1<=q.1∧q.1<=5∧q.2.1.length<=4∧∀a∈q.2.1,1<=a.2.length∧a.2.length<=5∧∀v∈a.2,0<=v∧v < q.1:=by
 unfold GY at h;simp only[Ad,AY]at h;obtain⟨d,e,-,g,-⟩:=h;have f:1<=q.1∧q.1<=5:=by unfold FX at d;simpa using d
 have e2:1<=(q.2.1.length:Int)∧(q.2.1.length:Int)<=4:=by unfold FX at e;simpa using e
 refine⟨f.1,f.2,by omega,λa i=>?_⟩;have b:=PM g i;unfold Pp at b;simp only[Cp,CK]at b;have k:1<=(a.2.length:Int)∧(a.2.length:Int)<=5:=by have:=b.2.1;unfold FX at this;simpa using this
 refine⟨by omega,by omega,λv j=>?_⟩;have c:=PM b.2.2 j;simp only[CK]at c;rw[wrap_in (by omega)]at c;have:0<=v∧v<=q.1 - 1:=by unfold FX at c;simpa using c
 omega
def p7{q:K8}(h:GY q=true):1<=q.1∧q.1<=5∧1<=q.2.1.length∧q.2.1.length<=4∧(∀a∈q.2.1,a.1.length<=4∧1<=a.2.length∧a.2.length<=5)∧q.2.2.length<=5:=by
 obtain⟨e,f,i,g⟩:=bo h;unfold GY at h;simp only[Ad,AY]at h;obtain⟨g1,g2,j,k,-⟩:=h;have e2:1<=(q.2.1.length:Int)∧(q.2.1.length:Int)<=4:=by unfold FX at g2;simpa using g2
 have l:=qt ⟨e,f⟩ j;refine⟨e,f,by omega,i,λa b=>⟨?_,(g a b).1,(g a b).2.1⟩,by omega⟩;have c:=PM k b;unfold Pp at c;simp only[Cp,CK]at c;have d:=c.1;unfold nmB at d;simp only[Ad]at d;have:1<=(a.1.length:Int)∧(a.1.length:Int)<=4:=by have:=d.1;unfold FX at this;simpa using this
 omega
def bj:List zU:=[[40,88,89,90,41,61,114,40,88,89,41,44,115,40,89,90,41,44,116,40,90,88,41],[40,88,89,90,85,41,61,114,40,88,89,41,44,115,40,89,90,41,44,116,40,90,85,41,44,117,40,85,88,41],[40,88,89,90,41,61,114,40,88,89,41,44,115,40,89,90,41],[40,88,41,61,114,40,88,89,41,44,115,40,89,90,41,44,116,40,90,85,41],[40,88,89,90,41,61,118,40,88,89,90,41,44,114,40,88,89,41],[40,88,89,41,61,114,40,88,89,41,44,114,40,89,88,41],[40,88,89,90,85,41,61,118,40,88,89,90,41,44,115,40,90,85,41,44,116,40,85,88,41],[40,88,41,61,114,40,88,88,41],[40,88,89,41,61,114,40,88,90,41,44,115,40,90,89,41,44,114,40,88,85,41,44,115,40,85,89,41],[40,41,61,114,40,88,89,41,44,115,40,89,88,41],[40,88,89,90,85,86,41,61,114,40,88,89,41,44,115,40,89,90,41,44,116,40,90,85,41,44,117,40,85,86,41]]
def parsed(s:zU):Bool:=match M2 s with
 |some (q,_)=>GY q
 |none=>false
def uc:bj.all parsed=true:=by kernel_rfl
def l8{s}(h:s∈bj):∃q b,M2 s=some (q,b)∧GY q=true:=by
 have:=Ap.1 uc s h;unfold parsed at this;cases e:M2 s with
 |none=>rw[e]at this;cases this
 |some x=>rw[e]at this;exact⟨x.1,x.2,rfl,this⟩
section
variable {c:Cur}
def zr(h:EU c)(n:Int)(m:Int×Cur)(t:0<=m.1)(u:m.1<=100)(f:n<=10):∃o,Aq (Ke m) fz (c.1,c.2.1,c.2.2,([]:zI),n)=some o∧EU (o.1,o.2.1,o.2.2.1)∧o.2.2.2.length<=10:=by
 exact H9 (B:=Ke m) (λs=>EU (s.1,s.2.1,s.2.2.1)∧(s.2.2.2.1.length:Int)+max 0 s.2.2.2.2<=10∧s.2.2.2.2<=10) (λs=>s.2.2.2.2.toNat) (λo=>EU (o.1,o.2.1,o.2.2.1)∧o.2.2.2.length<=10) (λs g=>by
  have⟨b,i,j,l,k⟩:=s;have⟨a,p,q⟩:=g;simp only at a p q;by_cases d:0 < k
  ·right;have⟨v,c',e,w,r⟩:=DT a (n:=1+m.1) (by omega) (by omega);refine⟨(c'.1,c'.2.1,c'.2.2,l++[v],k - 1),⟨r,?_,?_⟩,?_,λrec=>?_⟩
   ·simp only[Ak,Af];omega
   ·simp only;omega
   ·simp only;omega
   ·simp only[Ke];rw[Ae d,wrap_in (n:=1+m.1) ⟨by omega,by omega⟩,e];simp only[Ab,G];rw[Aw (by unfold lim;simp only[Af];omega),wrap_in ⟨by omega,by omega⟩]
  ·left;refine⟨(b,i,j,l),⟨a,by simp only;omega⟩,λrec=>?_⟩;simp only[Ke];rw[Ac d];rfl) fz (c.1,c.2.1,c.2.2,([]:zI),n) ⟨h,by simp only[Bw];omega,f⟩ (by unfold fz;simp only;omega)
def sy(h:EU c)(n:Int)(m:Int×Cur)(t:0<=m.1)(u:m.1<=100)(w:n<=10):∃o,Aq (Kd m) fz (c.1,c.2.1,c.2.2,([]:List R9),n)=some o∧EU (o.1,o.2.1,o.2.2.1)∧o.2.2.2.length<=10∧∀a∈o.2.2.2,a.1.length<=10∧a.2.length<=10:=by
 exact H9 (B:=Kd m) (λs=>EU (s.1,s.2.1,s.2.2.1)∧(s.2.2.2.1.length:Int)+max 0 s.2.2.2.2<=10∧s.2.2.2.2<=10∧∀a∈s.2.2.2.1,a.1.length<=10∧a.2.length<=10) (λs=>s.2.2.2.2.toNat) (λo=>EU (o.1,o.2.1,o.2.2.1)∧o.2.2.2.length<=10∧∀a∈o.2.2.2,a.1.length<=10∧a.2.length<=10) (λs x=>by
  have⟨b,i,y,l,k⟩:=s;have⟨g,z,A,j⟩:=x;simp only at g z A j;by_cases q:0 < k
  ·right;have⟨v,c',e,C,D⟩:=DT g (n:=5) (by omega) (by omega)
   obtain⟨f,F,p⟩:∃f,AF ([[114],[115],[116],[117],[118]]:List zU) v=some f∧f.length<=10:=by
    have:v=0∨v=1∨v=2∨v=3∨v=4:=by omega
    rcases this with rfl|rfl|rfl|rfl|rfl<;>exact⟨_,rfl,by simp⟩
   have r:0<=Int.tdiv v 4∧Int.tdiv v 4<=1:=by rw[Im C.1];omega
   have⟨o,e2,H,I⟩:=zr D (2+Int.tdiv v 4) m t u (by omega);refine⟨(o.1,o.2.1,o.2.2.1,l++[(f,o.2.2.2)],k - 1),⟨H,?_,?_,?_⟩,?_,λrec=>?_⟩
   ·simp only[Ak,Af];omega
   ·simp only;omega
   ·intro a d;rcases Al.1 d with d|d
    ·exact j a d
    ·rw[AU]at d;subst d;exact⟨p,I⟩
   ·simp only;omega
   ·simp only[Kd];rw[Ae q,e];simp only[Ab,G,F];rw[wrap_in (n:=Int.tdiv v 4) ⟨by omega,by omega⟩,wrap_in (n:=2+Int.tdiv v 4) ⟨by omega,by omega⟩,e2];have⟨J,K,L,M⟩:=o;simp only;rw[Aw (by unfold lim;simp only[Af];omega),wrap_in (n:=k - 1) ⟨by omega,by omega⟩]
  ·left;refine⟨(b,i,y,l),⟨g,by simp only;omega,j⟩,λrec=>?_⟩;simp only[Kd];rw[Ac q];rfl) fz (c.1,c.2.1,c.2.2,([]:List R9),n) ⟨h,by simp only[Bw];omega,w,λa d=>by cases d⟩ (by unfold fz;simp only;omega)
def yh(h:EU c)(m:Int×Cur)(t:0<=m.1)(u:m.1<=9):∃o,Aq (G0 m) fz (c.1,c.2.1,c.2.2,([]:zI),0)=some o∧EU (o.1,o.2.1,o.2.2.1)∧o.2.2.2.length<=10:=by
 exact H9 (B:=G0 m) (λs=>EU (s.1,s.2.1,s.2.2.1)∧0<=s.2.2.2.2∧s.2.2.2.2<=1+m.1∧(s.2.2.2.1.length:Int)<=s.2.2.2.2) (λs=>(1+m.1 - s.2.2.2.2).toNat) (λo=>EU (o.1,o.2.1,o.2.2.1)∧o.2.2.2.length<=10) (λs g=>by
  have⟨b,i,j,l,k⟩:=s;have⟨a,p,q,r⟩:=g;simp only at a p q r;by_cases d:k < 1+m.1
  ·right;have⟨w,c',e,_,f⟩:=XY a (n:=2) (by omega) (by omega);cases w with
   |true=>
    refine⟨(c'.1,c'.2.1,c'.2.2,[k]++l,k+1),⟨f,?_,?_,?_⟩,?_,λrec=>?_⟩
    ·simp only;omega
    ·simp only;omega
    ·simp only[Ak,Af];omega
    ·simp only;omega
    ·simp only[G0];rw[wrap_in (n:=1+m.1) ⟨by omega,by omega⟩,Ae d,e];simp only[Ab,G];rw[Aw (by unfold lim;simp only[Af];omega)];unfold Kf;rw[wrap_in (n:=k+1) ⟨by omega,by omega⟩]
   |false=>
    refine⟨(c'.1,c'.2.1,c'.2.2,l,k+1),⟨f,?_,?_,?_⟩,?_,λrec=>?_⟩
    ·simp only;omega
    ·simp only;omega
    ·simp only;omega
    ·simp only;omega
    ·simp only[G0];rw[wrap_in (n:=1+m.1) ⟨by omega,by omega⟩,Ae d,e];simp only[Ab,Aa,G];unfold Kf;rw[wrap_in (n:=k+1) ⟨by omega,by omega⟩]
  ·left;refine⟨(b,i,j,l),⟨a,by simp only;omega⟩,λrec=>?_⟩;simp only[G0];rw[wrap_in (n:=1+m.1) ⟨by omega,by omega⟩,Ac d];rfl) fz (c.1,c.2.1,c.2.2,([]:zI),0) ⟨h,by simp,by simp only;omega,by simp⟩ (by unfold fz;simp only;omega)
def vi(h:EU c):Dr (OL c) λq=>GY q=true:=by
 unfold OL;have⟨s,I,k,z,e⟩:=cK h (l:=bj) (by simp[bj]) (by simp[bj]);unfold bj at k;rw[k];simp only[G];have⟨q,b,e2,r⟩:=l8 z;rw[e2];simp only;have⟨w,c2,A,_,d⟩:=XY e (n:=3) (by omega) (by omega);rw[A];simp only;cases w with
 |false=>exact⟨_,_,rfl,r,d⟩
 |true=>
  simp only[Ai,Aa];have⟨n,t,B,J,f⟩:=DT d (n:=4) (by omega) (by omega);rw[B];simp only;have⟨m,K,C,L,g⟩:=DT f (n:=4) (by omega) (by omega);rw[C];simp only;rw[wrap_in (n:=1+m) ⟨by omega,by omega⟩,wrap_in (n:=1+n) ⟨by omega,by omega⟩];have⟨o,D,u,F,v⟩:=sy g (1+m) (n,t) (by simp only;omega) (by simp only;omega) (by omega);rw[D];have⟨M,N,O,x⟩:=o;simp only at u F v⊢;have⟨p,y,i,j⟩:=yh u (n,t) (by simp only;omega) (by simp only;omega);simp only at y;rw[y];have⟨p1,p2,p3,p4⟩:=p;simp only at i j⊢;rw[UG (q:=(1+n,x,p4)) ⟨by unfold lim;simp only;omega,λa h=>by have:=v a h;unfold lim;omega,by unfold lim;simp only;omega⟩];simp only;cases H:GY (1+n,x,p4)with
  |false=>exact⟨_,_,rfl,r,i⟩
  |true=>exact⟨_,_,rfl,H,i⟩
def AnyQ(q:K8):Prop:=0<=q.1∧q.1<=6∧1<=q.2.1.length∧q.2.1.length<=5∧(∀a∈q.2.1,a.1.length<=4∧a.2.length<=5)∧q.2.2.length<=6
def AnyQ.sm{q}(h:AnyQ q):T4 q:=by have⟨e,f,g,i,b,j⟩:=h;unfold T4 lim;exact⟨by omega,λa d=>by have:=b a d;omega,by omega⟩
def yt(h:EU c):Dr (WA c) λq=>AnyQ q:=by
 unfold WA;have⟨q,z,u,v,m⟩:=vi h;have⟨A,B,y,C,o,D⟩:=p7 v;have e:∀a∈q.2.1,a.1.length<=4∧a.2.length<=5:=λa b=>⟨(o a b).1,(o a b).2.2⟩
 rw[u];simp only[G];have⟨w,c2,e2,_,f⟩:=DT m (n:=14) (by omega) (by omega);rw[e2];simp only;have s:AF q.2.1 0=some (q.2.1[0]'(by omega)):=AG (k:=0) (by omega);have t:=o _<|Aj (by omega:0 < q.2.1.length);cases(w==0)with
 |true=>
  simp only[Ab];rw[wrap_in ⟨by omega,by omega⟩];have⟨x,p,i,j,d⟩:=Mb f (l:=[0,6,q.1+1]) (by simp) (by simp);have g:0<=x∧x<=6:=by simp at j;omega
  rw[i];exact⟨_,_,rfl,⟨g.1,g.2,y,by simp only;omega,e,by simp only;omega⟩,d⟩
 |false=>
  simp only[Aa];cases(w==1)with
  |true=>
   simp only[Ab];have⟨x,p,i,j,d⟩:=cK f (l:=[[],[119],[114]]) (by simp) (by simp);have g:x.length<=4:=by simp at j;rcases j with rfl|rfl|rfl<;>simp
   rw[i];simp only;rw[Aw (by unfold lim;simp only[Af];omega)];refine⟨_,_,rfl,⟨by simp only;omega,by simp only;omega,by simp only[Ak,Af];omega,by simp only[Ak,Af];omega,λa b=>?_,by simp only;omega⟩,d⟩;rcases Al.1 b with b|b
   ·exact e a b
   ·rw[AU]at b;subst b;exact⟨g,by simp⟩
  |false=>
   simp only[Aa];cases(w==2)with
   |true=>simp only[Ab];have⟨x,p,i,j,d⟩:=DT f (n:=6) (by omega) (by omega);rw[i];simp only;rw[Aw (by unfold lim;simp only[Af];omega)];exact⟨_,_,rfl,⟨by simp only;omega,by simp only;omega,by simp only;omega,by simp only;omega,e,by simp only[Ak,Af];omega⟩,d⟩
   |false=>
    simp only[Aa];cases(w==3)with
    |true=>
     simp only[Ab];rw[Aw (by omega),s];refine⟨_,_,rfl,⟨by simp only;omega,by simp only;omega,by unfold CL;simp only[Bd];omega,by unfold CL;simp only[Bd];omega,λa b=>?_,by simp only;omega⟩,f⟩;unfold CL at b;rcases CG b with r|rfl
     ·exact e a r
     ·exact⟨t.1,by simp⟩
    |false=>
     simp only[Aa];cases(w==4)with
     |true=>
      simp only[Ab];rw[Aw (by omega),s];simp only;rw[Aw (by omega)];have⟨x,p,i,j,d⟩:=Mb f (l:=[-1,5]) (by simp) (by simp);rw[i];have g1:AF (q.2.1[0]'(by omega)).2 0=some ((q.2.1[0]'(by omega)).2[0]'(by omega)):=AG (k:=0) (by omega);simp only[g1];refine⟨_,_,rfl,⟨by simp only;omega,by simp only;omega,by unfold CL;simp only[Bd];omega,by unfold CL;simp only[Bd];omega,λa b=>?_,by simp only;omega⟩,d⟩;unfold CL at b;rcases CG b with r|rfl
      ·exact e a r
      ·exact⟨t.1,by simp only[Bd];omega⟩
     |false=>exact⟨_,_,rfl,⟨by simp only;omega,by simp only;omega,by simp only;omega,by simp only;omega,e,by simp only;omega⟩,f⟩
end
def Tq{α:Type}{l:List α}{f:Nat->α->Bool}(h:∀i (hi:i < l.length),f i l[i]=false):BL l f=false:=by unfold BL;rw[CD];intro k a;have a:=AQ.1 a;rw[Cx a,h k a];simp
def JH(d:List Tp)(a:R9):Bool:=(HN d a.1).2&&((HN d a.1).1.1==(a.2.length:Int))
def Ju(d:List Tp)(q:K8):Bool:=GY q&&(dbB d&& !BL q.2.1 λ_ a=> !JH d a)
def vJ{d q}(h:Up d)(c:T4 q):M1 d q=some (Ju d q):=by
 unfold M1 Ju BL
 rw[DX (λk=>I0 q.2.1 k λa=> !JH d a) c.1 (λk b e=>by
  unfold P3;rw[Bc b,AG b,Bm b (Ba c.1),Cx b];simp only[Ab,G,vE h,JH];cases(HN d q.2.1[k].1).2 with
  |false=>rfl
  |true=>simp only[Ai,Aa,AK,bne]) (λrec=>by unfold P3;rw[A2];rfl)]
 simp only[UG c,Ad8 h,G,MI];cases(List.range q.2.1.length).any λk=>I0 q.2.1 k λa=> !JH d a<;>cases GY q<;>cases dbB d<;>rfl
def tV{d q}(h:Up d)(c:T4 q):MU d q=some (Ju d q):=by
 unfold MU Ju BL;simp only[Uw c,AfJ h,G]
 rw[DX (λk=>I0 q.2.1 k λa=> !JH d a) c.1 (λk b e=>by
  unfold PR;rw[Bc b,AG b,Bm b (Ba c.1),Cx b];simp only[Ab,G,tO h,JH];cases(HN d q.2.1[k].1).2 with
  |false=>rfl
  |true=>simp only[Ai,Aa,AK,bne]) (λrec=>by unfold PR;rw[A2];rfl)]
 cases(List.range q.2.1.length).any λk=>I0 q.2.1 k λa=> !JH d a<;>cases GY q<;>cases dbB d<;>rfl
def vG{l:zI}(h:l.length<=lim):Jz l=some (!BL l (In (l.length:Int) l)&&decide ((l.length:Int)<=5)):=by unfold Jz BL;rw[DX (λk=>I0 l k (In (l.length:Int) l k)) h (λk a b=>by unfold Nt;rw[Bc a,AG a,Bm a (Ba h),Cx a];simp only[Ab,G,Jv];rw[Aw (by omega),Z9];simp only[YT (l:=l.take k) (by rw[Av];omega),Tv,In];cases FX l[k] 0 (wZ ((l.length:Int) - 1))<;>rfl) (λrec=>by unfold Nt;rw[A2];rfl)];cases(List.range l.length).any λk=>I0 l k (In (l.length:Int) l k)<;>simp[G]
def Un(q:K8)(o:zI):Bool:=GY q&&(((o.length:Int)==q.1)&& !BL o (In q.1 o))
def T0{q}(h:GY q=true):1<=q.1∧q.1<=5:=by unfold GY FX at h;simp only[Ad,Bu]at h;exact h.1
def ql{q o}(b:T4 q)(c:o.length<=lim):KP q o=some (Un q o):=by
 unfold KP HT Un;simp only[UG b,vG c,G];cases d:GY q with
 |false=>rfl
 |true=>
  have e:=T0 d;cases a:((o.length:Int)==q.1)with
  |false=>rfl
  |true=>
   have a:(o.length:Int)=q.1:=by simpa using a
   rw[a,Ae e.2];simp
def po{q o}(a:T4 q)(b:o.length<=lim):Kr q o=some (Un q o):=by
 unfold Kr HG Un;simp only[Uw a,tZ b,G];cases GY q with
 |false=>rfl
 |true=>cases((o.length:Int)==q.1)<;>rfl
def Bo{α β:Type}(a:α)(f:α->Option β):G (some a) f=f a:=rfl
def AaB{S O:Type}(v:O){B:(S×Int->Option (Sum S O))->S×Int->Option (Sum S O)}{n:Nat}(s:Nat->S)(a:Nat->Bool)(l:n<=lim)(o:∀k,k < n->∀b,B b (s k,(k:Int))=cond (a k) (some<|.inr v) (b (s<|k+1,((k+1:Nat):Int))))(p:∀b,B b (s n,(n:Int))=some (.inl<|s n)):
  Aq B fz (s 0,0)=some (cond ((List.range n).any a) (.inr v)<|.inl<|s n):=by
 have e:∀d k,k+d=n->(∀j,j < k->a j=false)->∀m,d < m->Aq B m (s k,(k:Int))=some (cond ((List.range n).any a) (.inr v)<|.inl<|s n):=by
  intro d;induction d with
  |zero=>
   intro k q f m r;cases m with
   |zero=>omega
   |succ m=>
    have g:k=n:=by omega
    have:(List.range n).any a=false:=by rw[CD];intro x t;rw[f x (by have:=AQ.1 t;omega)];simp
    show B (Aq B m) (s k,(k:Int))=_;rw[g,p,this];rfl
  |succ d u=>
   intro k q f m r;cases m with
   |zero=>omega
   |succ m=>
    show B (Aq B m) (s k,(k:Int))=_;rw[o k (by omega)];cases c:a k with
    |true=>
     have:(List.range n).any a=true:=by rw[C4];exact⟨k,AQ.2 (by omega),c⟩
     rw[this];rfl
    |false=>
     exact u (k+1) (by omega) (λj i=>by
      rcases Bi j k with h|h
      ·exact f j h
      ·rw[show j=k by omega];exact c) m (by omega)
 have:=e n 0 (by omega) (λj i=>absurd i<|by omega) fz<|EC l;simpa using this
def YR{q:K8}(h:GY q=true):1<=q.1∧q.1<=5∧q.2.1.length<=4∧∀a∈q.2.1,a.2.length<=5∧∀v∈a.2,0<=v∧v < q.1:=by
 have d:=T0 h;unfold GY at h;simp only[Ad,AY]at h;obtain⟨n,e,-,f,-⟩:=h;have e2:1<=(q.2.1.length:Int)∧(q.2.1.length:Int)<=4:=by unfold FX at e;simpa using e
 refine⟨d.1,d.2,by omega,λa g=>?_⟩;obtain⟨k,i,rfl⟩:=Br.1 g;have b:=HA f i;unfold Pp at b;simp only[Cp,CK]at b;have o:1<=((q.2.1[k]).2.length:Int)∧((q.2.1[k]).2.length:Int)<=5:=by have:=b.2.1;unfold FX at this;simpa using this
 refine⟨by omega,λv l=>?_⟩;obtain⟨j,m,rfl⟩:=Br.1 l;have c:=HA b.2.2 m;simp only[CK]at c;rw[wrap_in (by omega)]at c;unfold FX at c;simp only[Ad,Bu]at c;omega
def tn(l:zI)(v:Int):decide (GG l v < 0)= !l.contains v:=by
 rw[<-Tv];by_cases h:0<=GG l v
 ·rw[Ae h,Ac (by omega)];rfl
 ·rw[Ac h,Ae (by omega)];rfl
def yg(n:Int)(e:Int):Bool:= !FX e 0 (wZ<|n - 1)
def Sv(a:R9)(k:Nat):zI:=((List.range k).filter λ(v:Nat)=>a.2.contains (v:Int)).map λ(v:Nat)=>(v:Int)
def zx(a:R9)(k:Nat):Sv a (k+1)=Sv a k++cond (a.2.contains (k:Int)) [(k:Int)] []:=by unfold Sv;rw[Ib,Gn,BM,EQ,NG];cases a.2.contains (k:Int)<;>rfl
def S0(a:R9)(k:Nat):(Sv a k).length<=k:=by unfold Sv;rw[Am];exact BH (Ey _ _) (by simp)
def AfG{a}(h:a.2.length<=lim)(b:∀v,Dw a v=some (a.2.contains v)):Jf a=some (Sv a 5):=by
 unfold Jf
 have:=DQ (body:=G9 a) (out:=Sv a 5) (λk=>(Sv a k,(k:Int))) 5 (λk d c=>by
  have e:=S0 a k;unfold G9 JI;simp only;rw[Ae (by omega:(k:Int) < 5),b,wrap_in (by omega),zx];simp only[Ab,Bo];cases a.2.contains (k:Int)with
  |true=>rw[Ab,Aw (by unfold lim;simp;omega)];rfl
  |false=>rw[Aa,Aa,AN];rfl) (λrec=>by unfold G9;simp only;rfl) fz (by unfold fz;omega)
 rw[show((([]:zI),(0:Int)))=(Sv a 0,((0:Nat):Int))from rfl,this];rfl
def tj{α:Type}(f:α->Bool){l:List α}{k:Nat}(a:k < l.length):(l.take<|k+1).filter f=(l.take k).filter f++cond (f l[k]) [l[k]] []:=by rw[A7 a,Gn,EQ,NG];cases f l[k]<;>rfl
def ro{a}(h:a.2.length<=lim)(v:Int):Dw a v=some (a.2.contains v):=by unfold Dw;simp only[tL h,Bo]
def xg{l v k}(h:Xd l v=some k):∃d:k < l.length,l[k]=v:=by
 unfold Xd at h;have⟨j,b,a⟩:=List.exists_of_findSome?_eq_some h;have b:=AQ.1 b;rw[Cx b]at a;split at a
 ·rename_i c;injection a with a
  subst a;exact⟨b,by simpa using c⟩
 ·cases a
def VG{l v}(h:l.contains v=true):∃k:Nat,∃a:k < l.length,GG l v=(k:Int)∧l[k]=v:=by rw[<-YE]at h;have⟨k,a⟩:=GP.1 h;have⟨b,c⟩:=xg a;exact⟨k,b,by unfold GG;rw[a],c⟩
def AhS{a}(h:a.2.length<=lim):Jy a=some (Sv a 5):=by
 unfold Jy
 have:=DQ (body:=He a) (out:=Sv a 5) (λk=>(Sv a k,(k:Int))) 5 (λk c b=>by
  have d:=S0 a k;unfold He JQ;simp only;rw[Ae (by omega:(k:Int) < 5),rX h,wrap_in (by omega),zx];simp only[Ab,Bo];cases a.2.contains (k:Int)with
  |true=>rw[Ab,Aw (by unfold lim;simp;omega)];rfl
  |false=>rw[Aa,Aa,AN];rfl) (λrec=>by unfold He;simp only;rfl) fz (by unfold fz;omega)
 rw[show((([]:zI),(0:Int)))=(Sv a 0,((0:Nat):Int))from rfl,this];rfl
def Yy{a v}:v∈Sv a 5↔(0<=v∧v < 5)∧a.2.contains v=true:=by
 unfold Sv;rw[Bq];constructor
 ·rintro⟨n,d,rfl⟩;have b:=CC.1 d;have c:=AQ.1 b.1;exact⟨by omega,b.2⟩
 ·rintro⟨b,c⟩;exact⟨v.toNat,CC.2 ⟨AQ.2 (by omega),by rw[show((v.toNat:Nat):Int)=v by omega];exact c⟩,by omega⟩
def SK(a:R9):Prop:=a.2.length<=5∧∀v∈a.2,0<=v∧v < 5
def V3(V r:zI)(k:Nat):Bool:=(List.range k).all λi=>Qi r (GG V<|Qi V (i:Int))==Qi r (i:Int)
def mY(V r:zI)(k:Nat):V3 V r (k+1)=(V3 V r k&&(Qi r (GG V<|Qi V (k:Int))==Qi r (k:Int))):=by unfold V3;rw[Ib,E9];simp
def rowOf(a:R9)(r:zI):zI:=(Sv a 5).map λv=>Qi r<|GG a.2 v
def HZ{l}{k:Nat}(h:k < l.length):Qi l (k:Int)=l[k]:=by unfold Qi;rw[AG h];rfl
def Ah0{a:R9}{r}(c:SK a)(i:r.length=a.2.length){R:List zI}{m:Int}{j:Nat}(d:AF R (j:Int)=some r):Aq (KI a (Sv a 5) ((m,R),true) (j:Int)) fz (([]:zI),0)=some (rowOf a r):=by have k:=S0 a 5;unfold rowOf;exact Jo (a:=Sv a 5) (h:=λv=>Qi r (GG a.2 v)) (by unfold lim;omega) (λk b e=>by have f:=(Yy.1<|Aj b).2;have⟨p,l,g,e2⟩:=VG f;rw[KI];rw[Bc b,d,AG b,Bm b (by unfold maxLen;omega),Ab,Bo,Bo,YT (by have:=c.1;unfold lim;omega),Bo,g,AG (by omega:p < r.length),Bo,Aw (by simp only[Am,Av,Af];unfold lim;omega),HZ (by omega:p < r.length)]) (λrec y=>by rw[KI];rw[A2];rfl)
def AhW{a r}(g:SK a)(t:r.length=a.2.length){R:List zI}{m:Int}{j:Nat}(n:AF R (j:Int)=some r):Aq (Gr a (Sv a 5) ((m,R),true) (j:Int)<|rowOf a r) fz (true,0)=some (V3 a.2 r a.2.length):=by
 have u:=S0 a 5
 have:=DQ (body:=Gr a (Sv a 5) ((m,R),true) (j:Int) (rowOf a r)) (out:=V3 a.2 r a.2.length) (λk=>(V3 a.2 r k,(k:Int))) a.2.length (λk d e=>by
  have c:=Aj d;have o:=g.2 _ c;have h:a.2.contains a.2[k]=true:=by rw[Bk];exact c
  have i:(Sv a 5).contains a.2[k]=true:=by rw[Bk];exact Yy.2 ⟨o,h⟩
  have⟨p,q,s,e2⟩:=VG i;have f:AF (rowOf a r) (p:Int)=some (Qi r<|GG a.2 a.2[k]):=by rw[G8];unfold rowOf;rw[BZ,Ah q,e2];rfl
  have l:∀b:Bool,Gs e (k:Int) b=e (b,((k+1:Nat):Int)):=λb=>by rw[Gs,Bm d (by have:=g.1;unfold maxLen;omega)]
  rw[Gr,mY,HZ d];rw[Bc d,AG d,Ab,Bo,YT (by unfold lim;omega),Bo,s,Ae (by omega:(0:Int)<=(p:Int)),Ab,f,Bo,n,Bo,AG (by omega:k < r.length),Bo,HZ (by omega:k < r.length),l,l];cases V3 a.2 r k<;>rfl) (λrec=>by rw[Gr];rw[A2];rfl) fz (EC (by have:=g.1;unfold lim;omega))
 exact this
def dE{α β:Type}(f:α->Bool)(g:α->β){l:List α}{k:Nat}(a:k < l.length):((l.take<|k+1).filter f).map g=((l.take k).filter f).map g++cond (f l[k]) [g l[k]] []:=by rw[tj f a,BM];cases f l[k]<;>rfl
def W3(a:R9)(R:List zI):List zI:=(R.filter λr=>V3 a.2 r a.2.length).map<|rowOf a
def fY(a:R9)(R:List zI)(k:Nat):((((R.take k).filter λr=>V3 a.2 r a.2.length).map<|rowOf a)).length<=k:=by rw[Am];exact BH (Ey _ _) (by simp;omega)
def yG{a}(d:SK a){R:List zI}{m:Int}(g:∀r∈R,r.length=a.2.length)(h:R.length<=4000):Aq (Gq a (Sv a 5) ((m,R),true)) fz (([]:List zI),0)=some (W3 a R):=by
 have:=DQ (body:=Gq a (Sv a 5) ((m,R),true)) (out:=W3 a R) (λk=>(((R.take k).filter λr=>V3 a.2 r a.2.length).map (rowOf a),(k:Int))) R.length (λk b c=>by
  have e:=g _<|Aj b;have i:=fY a R k;have f:∀y:List zI,HR c (k:Int) y=c (y,((k+1:Nat):Int)):=λy=>by rw[HR,Bm b (by unfold maxLen;omega)]
  rw[Gq,dE _ _ b];rw[Bc b,Ab,Ah0 d e (AG b),Bo,AhW d e (AG b),Bo,f,f];cases V3 a.2 R[k] a.2.length with
  |true=>rw[Ab,Aw (by simp only[Af];unfold lim;omega)];rfl
  |false=>rw[Aa,Aa,AN]) (λrec=>by rw[Gq];rw[A2,Bl];rfl) fz (EC (by unfold lim;omega))
 exact this
def XA(V r:zI):Nat->zI
 |0=>List.replicate 5 0
 |k+1=>(XA V r k).set (Qi V (k:Int)).toNat<|Qi r (k:Int)
def ag(V r:zI):∀k,(XA V r k).length=5
 |0=>rfl
 |k+1=>by rw[XA,Bd];exact ag V r k
def qQ{V r}(f:∀v∈V,0<=v∧v < 5):∀k,k<=V.length->V3 V r k=true->∀v:Int,0<=v->(∃i,∃hi:i < k,Qi V (i:Int)=v)->Qi (XA V r k) v=Qi r (GG V v)
 |0,_,_,v,_,⟨i,hi,_⟩=>absurd hi (by omega)
 |k+1,t,g,v,o,⟨i,hi,j⟩=>by
  rw[mY,Ad]at g;have a:k < V.length:=by omega
  have p:=f _<|Aj a;have m:=ag V r k;by_cases b:Qi V (k:Int)=v
  ·have d:Qi r (GG V<|Qi V (k:Int))=Qi r (k:Int):=by simpa using g.2
   rw[b]at d;rw[d,XA,b];rw[HZ a]at b;obtain⟨w,rfl⟩:∃w:Nat,v=(w:Int):=⟨v.toNat,by omega⟩;rw[AB,HZ (by rw[Bd];omega),List.getElem_set_self]
  ·have l:i < k:=by
    rcases Bi i k with h|h
    ·exact h
    ·exfalso;apply b;rw[<-j];congr 1;omega
   have q:=qQ f k (by omega) g.1 v o ⟨i,l,j⟩
   have s:v < 5:=by
    have c:i < V.length:=by omega
    rw[<-j,HZ c];exact(f _<|Aj c).2
   rw[<-q,XA];have e:v=((v.toNat:Nat):Int):=by omega
   have n:v.toNat < (XA V r k).length:=by omega
   have d:v.toNat < ((XA V r k).set (Qi V (k:Int)).toNat<|Qi r (k:Int)).length:=by rw[Bd];exact n
   conv=>lhs;rw[e]
   conv=>rhs;rw[e]
   rw[HZ d,HZ n,ER];rw[As (λe2=>by rw[HZ a]at e2 b;omega)]
def Abi{a r}(g:SK a)(o:r.length=a.2.length):Aq (F9 a r) fz (List.replicate (Int.toNat 5) (0:Int),true,0)=some (XA a.2 r a.2.length,V3 a.2 r a.2.length):=by
 have:=DQ (body:=F9 a r) (out:=(XA a.2 r a.2.length,V3 a.2 r a.2.length)) (λk=>(XA a.2 r k,V3 a.2 r k,(k:Int))) a.2.length (λk e f=>by
  have d:=Aj e;have q:=g.2 _ d;have h:a.2.contains a.2[k]=true:=by rw[Bk];exact d
  have⟨p,s,l,e2⟩:=VG h;have i:=ag a.2 r k;have c:k < r.length:=by omega
  have j:∀b:Bool,HD f r (XA a.2 r k) (k:Int) a.2[k] b=f (XA a.2 r<|k+1,b,((k+1:Nat):Int)):=by
   intro b;have m:a.2[k]=((a.2[k].toNat:Nat):Int):=by omega
   rw[HD,AG c,Bo,Bm e (by have:=g.1;unfold maxLen;omega),XA,HZ e,HZ c]
   have n:AF (XA a.2 r k) a.2[k]=some ((XA a.2 r k)[a.2[k].toNat]'(by omega)):=by
    conv=>lhs;rw[m]
    exact AG (by omega)
   rw[n,Bo];rfl
  rw[F9,mY,HZ e];rw[Bc e,AG e,Ab,Bo,ni (by have:=g.1;unfold lim;omega),Bo,l,AG (by omega:p < r.length),AG c,Bo,Bo,j,j,HZ (by omega:p < r.length),HZ c];cases V3 a.2 r k<;>rfl) (λrec=>by rw[F9];rw[A2];rfl) fz (EC (by have:=g.1;unfold lim;omega))
 exact this
def xt{a}(g:SK a){R:List zI}{m:Int}(l:∀r∈R,r.length=a.2.length)(s:R.length<=4000):Aq (F8 a (Sv a 5) ((m,R),true)) fz (([]:List zI),0)=some (W3 a R):=by
 have:=DQ (body:=F8 a (Sv a 5) ((m,R),true)) (out:=W3 a R) (λk=>(((R.take k).filter λr=>V3 a.2 r a.2.length).map (rowOf a),(k:Int))) R.length (λk c d=>by
  have n:=l _<|Aj c;have t:=fY a R k
  have b:V3 a.2 R[k] a.2.length=true->Ts (XA a.2 R[k] a.2.length) (Sv a 5)=some (rowOf a R[k]):=by
   intro f;have o:=S0 a 5;rw[tQ (by unfold lim;omega) (λc p=>by have:=(Yy.1 p).1;rw[ag];omega)];unfold VF rowOf;congr 1;refine Dh λv q=>?_
   have h:=Yy.1 q;refine qQ g.2 a.2.length (Bb _) f v h.1.1 ?_;have:=h.2;rw[Bk]at this;have⟨i,hi,e⟩:=Br.1 this;exact⟨i,hi,by rw[HZ hi];exact e⟩
  rw[F8,dE _ _ c];rw[Bc c,AG c,Ab,Bo,Aw (by unfold lim;omega),Abi g n,Bo];simp only;have j:∀y:List zI,HE d (k:Int) y=d (y,((k+1:Nat):Int)):=λy=>by rw[HE,Bm c (by unfold maxLen;omega)]
  cases f:V3 a.2 R[k] a.2.length with
  |true=>rw[Ab,b f,Bo,Aw (by simp only[Af];unfold lim;omega),j];rfl
  |false=>rw[Aa,Aa,AN,j]) (λrec=>by rw[F8];rw[A2,Bl];rfl) fz (EC (by unfold lim;omega))
 exact this
def eP{m L}(c:FX m 0 5=true)(e:L.length<=4000)(d:∀r∈L,(r.length:Int)=m∧Sw r=true):Rc (m,sortB L)=true:=by
 unfold Rc;simp only[Ad,AY,FH];refine⟨c,by have:=Ob L;omega,Tq λi hi=>?_⟩;have a:=d _<|(QQ L _).1<|Aj hi;unfold SH;rw[a.2,a.1];simp only[Dq,Ai,CH];by_cases b:0 < i
 ·rw[Ae b,AK,Cx (by omega:i - 1 < (sortB L).length)];have:=Cn.1 (T5 L) (i - 1) i (by omega) hi (by omega);exact Ac (by omega)
 ·rw[Ac b,Hm]
def uN{m L}(c:FX m 0 5=true)(d:L.length<=4000)(a:∀r∈L,(r.length:Int)=m∧Sw r=true):jG m L=((m,sortB L),true):=by
 unfold jG;have e:BL L (λ_ x=>UD m x)=false:=Tq λi hi=>by have b:=a _<|Aj hi;unfold UD;rw[b.2,b.1];simp
 rw[e,eP c d a];rfl
def VJ{r:Int×List zI}(h:Rc r=true):0<=r.1∧r.1<=5∧r.2.length<=4000∧∀x∈r.2,(x.length:Int)=r.1∧Sw x=true:=by unfold Rc FX at h;simp only[Ad,Bu,AY,FH]at h;refine⟨h.1.1,h.1.2,by omega,λx a=>?_⟩;obtain⟨i,hi,rfl⟩:=Br.1 a;have:=HA h.2.2 hi;unfold SH at this;simp only[Cp,CK]at this;exact⟨by simpa using this.1.1,this.1.2⟩
def mJ{x:zI}(h:Sw x=true){k:Nat}(a:k < x.length):0<=x[k]∧x[k]<=99:=by unfold Sw at h;simp only[AY]at h;have:=HA h a;unfold FX at this;simpa using this
def sD{x:zI}(h:∀v∈x,0<=v∧v<=99):Sw x=true:=by unfold Sw;rw[Tq λi hi=>by have:=h _ (Aj hi);unfold FX;simp;omega];rfl
def uv{d nm}(h:(HN d nm).2=true):Rc (HN d nm).1=true∧(HN d nm).1.2.length<=16:=by
 unfold HN at *;split at h
 ·rename_i a;rw[At a];cases b:d.find? (λt=>t.1==nm)with
  |none=>rw[b]at h;cases h
  |some t=>simp only;have c:=List.mem_of_find?_eq_some b;unfold dbB at a;simp only[Ad,AY]at a;obtain⟨i,hi,rfl⟩:=Br.1 c;have:=HA a.2 hi;unfold Xx at this;simp only[Cp,CK,FH]at this;exact⟨this.1.1.2,by have:=this.1.2;omega⟩
 ·cases h
def abB(d:List Tp)(a:R9):Int×List zI:=(((Sv a 5).length:Int),sortB<|W3 a (HN d a.1).1.2)
def Ad4{a r}(f:SK a)(g:r.length=a.2.length)(c:Sw r=true):((rowOf a r).length:Int)=((Sv a 5).length:Int)∧Sw (rowOf a r)=true:=by refine⟨by unfold rowOf;rw[Am],sD λv b=>?_⟩;unfold rowOf at b;obtain⟨u,d,rfl⟩:=Bq.1 b;have⟨p,h,e,e2⟩:=VG (Yy.1 d).2;rw[e,HZ (by omega:p < r.length)];exact mJ c (by omega)
def cu{d a}(i:SK a)(b:JH d a=true):(∀r∈(HN d a.1).1.2,r.length=a.2.length)∧(HN d a.1).1.2.length<=16∧∀r∈W3 a (HN d a.1).1.2,(r.length:Int)=((Sv a 5).length:Int)∧Sw r=true:=by
 unfold JH at b;rw[Ad]at b;have f:=uv b.1;have g:=VJ f.1;have j:(HN d a.1).1.1=(a.2.length:Int):=by simpa using b.2
 have h:∀r∈(HN d a.1).1.2,r.length=a.2.length:=λr c=>by have:=(g.2.2.2 r c).1;omega
 refine⟨h,f.2,λr c=>?_⟩;unfold W3 at c;obtain⟨x,e,rfl⟩:=Bq.1 c;have e:=(CC.1 e).1;exact Ad4 i (h x e) (g.2.2.2 x e).2
def iI(a:R9)(R:List zI):(W3 a R).length<=R.length:=by unfold W3;rw[Am];exact Ey _ _
def av5(a:R9):FX ((Sv a 5).length:Int) 0 5=true:=by have:=S0 a 5;unfold FX;simp;omega
def ou{d a}(b:SK a)(c:JH d a=true):Jw (W3 a (HN d a.1).1.2):=by have⟨g,h,e⟩:=cu b c;have i:=iI a (HN d a.1).1.2;have j:=S0 a 5;exact⟨by unfold lim;omega,λr f=>by have:=(e r f).1;unfold lim;omega⟩
def AhO{d a}(h:Up d)(c:SK a)(f:JH d a=true):KH d a=some (abB d a):=by
 have⟨i,k,j⟩:=cu c f;have l:=iI a (HN d a.1).1.2;have b:=f;unfold JH at b;rw[Ad]at b;unfold KH abB;rw[AhS (by have:=c.1;unfold lim;omega),Bo,vE h,Bo,b.1,Ai,Aa,show((HN d a.1).1.1 !=(a.2.length:Int))=false by rw[bne,b.2];rfl,Aa];have g:=yG c (R:=(HN d a.1).1.2) (m:=(HN d a.1).1.1) i (by omega);have e:HN d a.1=(((HN d a.1).1.1,(HN d a.1).1.2),true):=by rw[<-b.1]
 rw[<-e]at g;rw[g,Bo,yO (ou c f),Bo,uN (av5 a) (by omega) j];rfl
def tG{n l}(c:1<=n∧n<=5)(d:l.length<=5)(h:∀v∈l,0<=v∧v < n):Ik n l=some true:=by
 unfold Ik;rw[Ac (by omega),Aa,DX (n:=l.length) (λk=>I0 l k λv=>yg n v) (by unfold lim;omega) (λk a b=>by rw[Hk];rw[Bc a,AG a,Bm a (by unfold maxLen;omega),Cx a,Ab,Bo,FC,Bo];rfl) (λrec=>by rw[Hk];rw[A2];rfl),Bo];have e:((List.range l.length).any λk=>I0 l k λv=>yg n v)=false:=Tq (l:=l) (f:=λ_ v=>yg n v) λi hi=>by have:=h _<|Aj hi;unfold yg FX;rw[wrap_in (by omega)];simp;omega
 rw[e];rfl
def AfA{d a}(h:Up d)(c:SK a)(g:JH d a=true):Kj d a=some (abB d a):=by
 have⟨j,k,l⟩:=cu c g;have b:=g;unfold JH at b;rw[Ad]at b;have f:a.2.length<=lim:=by have:=c.1;unfold lim;omega
 unfold Kj abB;rw[AfG f (λv=>ro f v),Bo,tO h,Bo,b.1,Ai,Aa,show((HN d a.1).1.1 !=(a.2.length:Int))=false by rw[bne,b.2];rfl,Aa,tG (by omega) c.1 c.2,Bo,Ai,Aa];have i:=xt c (R:=(HN d a.1).1.2) (m:=(HN d a.1).1.1) j (by omega);have e:HN d a.1=(((HN d a.1).1.1,(HN d a.1).1.2),true):=by rw[<-b.1]
 rw[<-e]at i;rw[i,Bo,t5 (ou c g),Bo]
def mF{d a}(b:SK a)(c:JH d a=true):Rc (abB d a)=true∧(abB d a).2.length<=16:=by have⟨f,g,e⟩:=cu b c;have h:=iI a (HN d a.1).1.2;have i:=Ob<|W3 a (HN d a.1).1.2;exact⟨eP (av5 a) (by omega) e,by unfold abB;simp only;omega⟩
def TZ{d q}(h:Ju d q=true):GY q=true∧(∀a∈q.2.1,SK a∧JH d a=true)∧q.2.1.length<=4:=by
 unfold Ju at h;simp only[Ad,AY]at h;have⟨c,j,f⟩:=h;have⟨g1,g2,g,e⟩:=bo c;refine⟨c,λa b=>⟨⟨(e a b).2.1,λv i=>?_⟩,?_⟩,g⟩
 ·have:=(e a b).2.2 v i;omega
 ·have:=PM f b;simpa using this
end Go.Proofs.YtpnoalhfjnjeaaaGreatDoor
