/- The leapfrog intersection of the reference. On the printed functions; conditions: sizes. -/
import Derived.Test.YtdnlfoelbfcmnaaGreatDoorLfRP1
import Derived.Test.YtdnlfoelbfcmnaaGreatDoorTtRP1
import Derived.Test.YtdnlfoelbfcmnaaGreatDoorNrRP1
open Go.RowKit
set_option linter.all false
namespace Go.Proofs.YtdnlfoelbfcmnaaGreatDoor
def QI(l:zI):Int:=gI l 0
def fA(H:zI)(h:Int):Nat->Nat
 |0=>0
 |k+1=>if h < gI H k then fA H h k else k+1
def nq(H:zI)(h:Int):∀k,fA H h k<=k
 |0=>AJ _
 |k+1=>by
  rw[fA];split
  ·have:=nq H h k;omega
  ·exact AJ _
def AbQ(H:zI)(h:Int):∀k,(∀j,fA H h k<=j->j < k->h < gI H j)∧(0 < fA H h k->gI H (fA H h k - 1)<=h)
 |0=>⟨λj a b=>by omega,λh=>by rw[fA]at h;omega⟩
 |k+1=>by
  have⟨e,f⟩:=AbQ H h k;rw[fA];split
  ·rename_i c;refine⟨λj a b=>?_,f⟩;rcases Bb j k with d|d
   ·exact e j a d
   ·have:j=k:=by omega
    subst this;exact c
  ·rename_i c;exact⟨λj a b=>by omega,λ_=>by rw[Nw];omega⟩
def putAt{α:Type}(l:List α)(k:Nat)(x:α):List α:=l.take k++x::l.drop k
def zX{α:Type}{l:List α}{k:Nat}{x:α}(h:k<=l.length):(putAt l k x).length=l.length+1:=by unfold putAt;rw[Au,At,AD,Bx];omega
def put_mem{α:Type}{l:List α}{k:Nat}{x y:α}:y∈putAt l k x↔y=x∨y∈l:=by
 unfold putAt
 conv=>rhs;rhs;rw[<-Bv k l]
 rw[Ak,AE,Ak];constructor
 ·rintro(h|h|h)
  ·exact .inr<|.inl h
  ·exact .inl h
  ·exact .inr<|.inr h
 ·rintro(h|h|h)
  ·exact .inr<|.inl h
  ·exact .inl h
  ·exact .inr<|.inr h
def kD{α β:Type}(f:α->β)(l:List α)(k:Nat)(x:α):(putAt l k x).map f=putAt (l.map f) k (f x):=by unfold putAt;rw[Bd,AM,List.map_take,List.map_drop]
def pg{l}(c:l.Pairwise λa b=>a<=b)(h:Int):(putAt l (fA l h l.length) h).Pairwise λa b=>a<=b:=by
 have⟨m,n⟩:=AbQ l h l.length;have d:=nq l h l.length;generalize fA l h l.length=k at m n d;unfold putAt;refine GX.2 ⟨c.sublist<|List.take_sublist _ _,Cn.2 ⟨λy p=>?_,c.sublist<|List.drop_sublist _ _⟩,λa q b e=>?_⟩
 ·obtain⟨j,f,rfl⟩:=AY.1 p;rw[Bx]at f;rw[List.getElem_drop];have:=m (k+j) (by omega) (by omega);rw[PE (by omega)]at this;omega
 ·obtain⟨j,f,rfl⟩:=AY.1 q;rw[At]at f;rw[IY];have g:=n (by omega);rw[PE (by omega)]at g
  have r:l[j]<=l[k - 1]:=by
   rcases Bb j (k - 1)with o|o
   ·exact BK.1 c j (k - 1) (by omega) (by omega) o
   ·have:j=k - 1:=by omega
    subst this;exact HN _
  rcases AE.1 e with rfl|e
  ·omega
  ·obtain⟨i,hi,rfl⟩:=AY.1 e;rw[Bx]at hi;rw[List.getElem_drop];exact BK.1 c j (k+i) (by omega) (by omega) (by omega)
def Qd(L:List zI):Nat->zN
 |0=>[]
 |i+1=>putAt (Qd L i) (fA ((Qd L i).map λj=>QI<|gL L j) (QI<|gL L i) i) i
def Ta(L:List zI):∀i,(Qd L i).length=i
 |0=>rfl
 |i+1=>by have h:=Ta L i;rw[Qd,zX (by rw[h];exact nq _ _ _),h]
def Vx(L:List zI):∀i j,j∈Qd L i↔j < i
 |0,j=>by simp[Qd]
 |i+1,j=>by rw[Qd,put_mem,Vx L i];omega
def s9{α:Type}{l:List α}{k:Nat}{x:α}(h:l.Nodup)(hx:x∉l):(putAt l k x).Nodup:=by
 unfold putAt;have h':=h;rw[<-Bv k l]at h';obtain⟨h1,h2,h3⟩:=AA.1 h';refine AA.2 ⟨h1,BF.2 ⟨λhm=>hx<|GW hm,h2⟩,λa ha b hb=>?_⟩;rcases AE.1 hb with rfl|hb
 ·intro e;subst e;exact hx<|CB ha
 ·exact h3 a ha b hb
def m7(L:List zI):∀i,(Qd L i).Nodup
 |0=>AP
 |i+1=>by rw[Qd];exact s9 (m7 L i) (λh=>by have:=(Vx L i i).1 h;omega)
def iN(L:List zI):∀i,((Qd L i).map λj=>QI<|gL L j).Pairwise λa b=>a<=b
 |0=>List.Pairwise.nil
 |i+1=>by rw[Qd,kD];have:=pg (iN L i)<|QI<|gL L i;rw[Aj,Ta]at this;exact this
def EY(L:List zI):List zI:=(Qd L L.length).map<|gL L
def Rg(L:List zI):(EY L).length=L.length:=by unfold EY;rw[Aj,Ta]
def Rh(L:List zI)(l:zI):l∈EY L↔l∈L:=by
 unfold EY;rw[A5];constructor
 ·rintro⟨j,a,rfl⟩;exact Un<|(Vx L _ j).1 a
 ·intro h;obtain⟨j,a,rfl⟩:=AY.1 h;exact⟨j,(Vx L _ j).2 a,TL a⟩
def yh(L:List zI)(x:Int):Comm (EY L) x↔∀l∈L,x∈l:=⟨λh l a=>h l<|(Rh L l).2 a,λh l a=>h l<|(Rh L l).1 a⟩
def jV{α:Type}(f:α->zI)(l:List α){j:Nat}(h:j < l.length):gL (l.map f) j=f l[j]:=by rw[TL (by rw[Aj];exact h),BL]
def zeros(k:Nat):zN:=List.replicate k 0
def qn(k j:Nat):gN (zeros k) j=0:=by unfold gN zeros;rw[JX];split<;>rfl
def lf0(M:List zI):LfS:=([],zeros M.length,0,QI<|gL M<|M.length - 1,0)
def oU{L}(r:0 < L.length)(g:∀l∈L,0 < l.length)(s:∀l∈L,Asc l):LfOk (EY L) (lf0<|EY L):=by
 have n:0 < (EY L).length:=by rw[Rg];exact r
 have o:∀j,gN (lf0<|EY L).2.1 j=0:=λj=>qn _ _
 have c:∀j,val (EY L) (lf0<|EY L).2.1 j=QI (gL (EY L) j):=λj=>by unfold val;rw[o];rfl
 have d:∀j,j < (EY L).length->0 < (gL (EY L) j).length:=λj i=>g _<|(Rh L _).1<|Un i
 have t:∀a b,a<=b->b < (EY L).length->QI (gL (EY L) a)<=QI (gL (EY L) b):=λa b e k=>by
  have u:=iN L L.length;have v:(Qd L L.length).length=(EY L).length:=by rw[Ta,Rg]
  unfold EY;rw[jV _ _ (by omega),jV _ _ (by omega)];rcases Bb a b with p|p
  ·have:=BK.1 u a b (by rw[Aj];omega) (by rw[Aj];omega) p;rw[BL,BL]at this;exact this
  ·have:a=b:=by omega
   subst this;exact HN _
 refine⟨by show(zeros _).length=_;unfold zeros;rw[Iw],n,λj i=>by rw[o];exact d j i,λa b e k=>?_,?_,List.Pairwise.nil,λx f=>(by cases f),λx f=>(by cases f),λx f=>.inr ?_⟩
 ·rw[c,c];show QI (gL (EY L)<|(0+a) % (EY L).length)<=QI (gL (EY L)<|(0+b) % (EY L).length);rw[CH,CH,Du (by omega),Du k];exact t a b e k
 ·rw[c];show QI (gL (EY L)<|(0+((EY L).length - 1)) % (EY L).length)=_;rw[CH,Du (by omega)];rfl
 ·show QI (gL (EY L)<|(EY L).length - 1)<=x;have m:=f _<|Un<|show(EY L).length - 1 < (EY L).length by omega
  have w:=s _<|(Rh L _).1<|Un<|show(EY L).length - 1 < (EY L).length by omega
  have q:=d _ (show(EY L).length - 1 < (EY L).length by omega);unfold QI;rw[PE q];exact jo w m (λk n h=>absurd h<|by omega) q
def kJ{M A B}(h:∀l∈M,l.length<=B):∀K,K<=M.length->WC M A K<=K * B
 |0,_=>by rw[WC];omega
 |K+1,a=>by
  have b:=kJ (A:=A) h K (by omega);have c:=h _<|Un<|show K < M.length by omega
  rw[WC,DY,FD];omega
section
variable {L:List zI}
def mh{α:Type}{l:List α}{a b:Nat}{v:α}(c:a < l.length):AN (En l (a:Int) v) (b:Int)=if b=a then some v else AN l (b:Int):=by
 unfold En;rw[Hp,Hp,Ha,Aq];by_cases h:a=b
 ·subst h;rw[Aw rfl,Aw c,Aw rfl]
 ·rw[Ay h,Ay (λe=>h e.symm)]
structure SimS (L:List zI) (s:LfS) (y:zI):Prop where
 len:y.length=L.length
 at_:∀j (hj:j < (Qd L L.length).length),AN y (((Qd L L.length)[j]:Nat):Int)=some ((gN s.2.1 j:Nat):Int)
 few:s.1.length<=s.2.2.2.2
def oxI(L:List zI):zI:=(Qd L L.length).map λ(j:Nat)=>(j:Int)
def tv{p k:Nat}(b:0 < k)(c:p < k)(a:k<=lim):Int.tmod (wZ<|(p:Int)+1) (k:Int)=(((p+1) % k:Nat):Int):=by
 unfold lim at a;rw[wrap_in (by omega),Int.tmod_eq_emod_of_nonneg (by omega)]
 norm_cast
def AbP(P:L.length<=lim)(d:∀l∈L,l.length<=lim)(Q:∀l∈L,Asc l):∀(m:Nat) (s:LfS) (y:zI),LfOk (EY L) s->SimS L s y->s.2.2.2.2+WC (EY L) s.2.1 (EY L).length<=lim->
  Ap (FT L<|oxI L) m (s.1,y,(s.2.2.1:Int),s.2.2.2.1,(s.2.2.2.2:Int))=(lfR (EY L) m s).map λr=>.inr (r.1,(r.2:Int))
 |0,s,y,h,w,H=>rfl
 |m+1,s,y,h,w,H=>by
  have I:∀l∈EY L,Asc l:=λl X=>Q l<|(Rh L l).1 X
  have⟨out,a,p,b,n⟩:=s;have⟨F,Y,Z⟩:=j7 h;have⟨R,J⟩:=j5 h;have c:p < (Qd L L.length).length:=by have:=h.p;rw[Rg]at this;rw[Ta];exact this
  have x:p < a.length:=by have:=h.len;simp only at this;rw[this,Rg,<-Ta L L.length];exact c
  have f:=(cM (M:=EY L) x R J (EY L).length).2 h.p;simp only at F Y Z R J f H;have k:=d _<|(Rh L _).1<|Un h.p;simp only at k;have S:gL (EY L) p=gL L (Qd L L.length)[p]:=by unfold EY;exact jV _ _ c
  generalize z:(Qd L L.length)[p]=q at S;have t:q < L.length:=by rw[<-z];exact(Vx L _ _).1<|Ad c
  have A:q < y.length:=by rw[w.len];exact t
  have g1:AN (oxI L) (p:Int)=some (q:Int):=by unfold oxI;rw[Hp,BP,Ae c,z];rfl
  have g2:AN L (q:Int)=some (gL (EY L) p):=by rw[S,TL t];exact AI t
  have g3:AN y (q:Int)=some ((gN a p:Nat):Int):=by have:=w.at_ p c;rw[z]at this;exact this
  have g4:AN (gL (EY L) p) ((gN a p:Nat):Int)=some (gI (gL (EY L) p)<|gN a p):=by rw[AI F,PE F]
  have B:=w.few;simp only at B;have T:wZ ((n:Int)+1)=((n+1:Nat):Int):=by unfold lim at H;rw[wrap_in (by omega)];omega
  have C:(oxI L).length=(EY L).length:=by unfold oxI;rw[Aj,Ta,Rg]
  have K:0 < (EY L).length:=by have:=h.p;omega
  have U:∀(o:zI) (i:Nat),o=lfO (EY L) (out,a,p,b,n)->i=bz (EY L) (out,a,p,b,n)->o.length<=n+1->
    FU (Ap (FT L<|oxI L) m) L (oxI L) (p:Int) (n:Int) (q:Int) o (En y (q:Int) (i:Int))=(lfR (EY L) (m+1) (out,a,p,b,n)).map λr=>.inr (r.1,(r.2:Int)):=by
   intro o i W hi N;unfold FU;have gs:AN (En y (q:Int) (i:Int)) (q:Int)=some (i:Int):=by rw[mh A,Aw rfl]
   rw[gs];simp only[G,g2];rw[lfR];simp only[<-W,<-hi];by_cases g:i=(gL (EY L) p).length
   ·rw[show((i:Int)==((gL (EY L) p).length:Int))=true by rw[BG];omega,show(i==(gL (EY L) p).length)=true by rw[BG];exact g];simp only[Ac,Cb,T]
   ·rw[show((i:Int)==((gL (EY L) p).length:Int))=false by rw[Cg];omega,show(i==(gL (EY L) p).length)=false by rw[Cg];exact g];have u:i < (gL (EY L) p).length:=by rw[<-hi]at J;omega
    rw[show AN (gL (EY L) p) (i:Int)=some (gI (gL (EY L) p) i)by rw[AI u,PE u]];simp only[Ab];rw[A1 (by rw[C];omega),C,tv K h.p (by rw[Rg];exact P),T];have D:=j6 h I (by simp only;rw[<-hi];exact u);simp only[<-W,<-hi]at D f;refine AbP P d Q m (o,a.set p i,(p+1) % (EY L).length,gI (gL (EY L) p) i,n+1) _ D ⟨?_,λj hj=>?_,N⟩ (by simp only;omega)
    ·unfold En;rw[Ch];exact w.len
    ·simp only;rw[mh A,dS x];by_cases v:j=p
     ·subst v;rw[Aw z,Aw rfl]
     ·rw[Ay (λe=>v ?_),Ay v]
      ·exact w.at_ j hj
      ·rw[<-z]at e;exact(DP<|m7 L L.length).1 e
  rw[CM,FT];simp only[g1,G,g2,g3,g4];cases g:(gI (gL (EY L) p) (gN a p)==b)with
  |true=>
   have O:gI (gL (EY L) p) (gN a p)=b:=by simpa using g
   simp only[Ac];rw[A1 (by simp only[Al];omega),O,show wZ (((gN a p:Nat):Int)+1)=((gN a p+1:Nat):Int)by unfold lim at k;rw[wrap_in (by omega)];omega];exact U _ _ (by unfold lfO;simp only;rw[g];rfl) (by unfold bz;simp only;rw[g];rfl) (by simp only[Au,Al];omega)
  |false=>simp only[Ab];rw[AfU k (B4 F)];exact U _ _ (by unfold lfO;simp only;rw[g];rfl) (by unfold bz;simp only;rw[g];rfl) (by omega)
def AfN{l}(f:l.length<=lim):HO l=some (!Bt l (Fm l)):=by
 unfold HO;rcases C1 l.length with g|g
 ·have:l=[]:=Bp g;subst this;rw[show fz=(fz - 1)+1 by unfold fz;rfl,CM];rfl
 ·have h:∀d k:Nat,1<=k->k+d=l.length->∀m,d < m->Ap (Eg l) m (k:Int)=some (cond ((List.range' k d).any λj=>Hg l j λe=>Fm l j e) (.inr false)<|.inl ()):=by
   intro d;induction d with
   |zero=>intro k i p m q;obtain⟨m,rfl⟩:∃j,m=j+1:=⟨m - 1,by omega⟩;rw[CM,Eg,Af (by omega)];rfl
   |succ d r=>
    intro k i p m q;obtain⟨m,rfl⟩:∃j,m=j+1:=⟨m - 1,by omega⟩;have a:k < l.length:=by omega
    have b:wZ ((k:Int) - 1)=((k - 1:Nat):Int):=by unfold lim at f;rw[wrap_in (by omega)];omega
    have c:k - 1 < l.length:=by omega
    rw[CM,Eg,Bi a,AI a,b,AI c,Bm a (Ba f)];simp only[Ac,G];rw[DR,Gd,BV a];have o:Fm l k l[k]=decide (l[k]<=l[k - 1]):=by unfold Fm;rw[Ai (by omega),AL,BV c]
    rw[o,r (k+1) (by omega) (by omega) m (by omega)];cases decide (l[k]<=l[k - 1])<;>rfl
  have:=h (l.length - 1) 1 (AJ _) (by omega) fz (by unfold fz;unfold lim at f;omega);have e:(Eg l)=(Eg l):=rfl;rw[show((1:Int))=((1:Nat):Int)from rfl,this];simp only[G]
  have s:Bt l (Fm l)=(List.range' 1<|l.length - 1).any λj=>Hg l j λe=>Fm l j e:=by
   unfold Bt;obtain⟨n,o⟩:∃n,l.length=n+1:=⟨l.length - 1,by omega⟩;rw[o,GY,DR,Gd,Nw];have:Hg l 0 (λe=>Fm l 0 e)=false:=by rw[BV g];unfold Fm;rfl
   rw[this,C3]
  rw[s];cases(List.range' 1<|l.length - 1).any λj=>Hg l j λe=>Fm l j e<;>rfl
end
def Zv(L:List zI):Prop:=L.length<=5∧∀l∈L,l.length<=4000
def Zv.lim{L}(h:Zv L):L.length<=Go.Proofs.YtdnlfoelbfcmnaaGreatDoor.lim∧∀l∈L,l.length<=Go.Proofs.YtdnlfoelbfcmnaaGreatDoor.lim:=⟨by have:=h.1;unfold Go.Proofs.YtdnlfoelbfcmnaaGreatDoor.lim;omega,λl a=>by have:=h.2 l a;unfold Go.Proofs.YtdnlfoelbfcmnaaGreatDoor.lim;omega⟩
def V7(L:List zI):Bool:= !(Bt L λ_ l=>Bt l<|Fm l)&&decide (0 < (L.length:Int))
def Aci{l}(h:Bt l (Fm l)=false):Asc l:=by
 have a:∀k (b:k+1 < l.length),l[k]'(by omega) < l[k+1]:=λk b=>by have:=FJ h b;unfold Fm at this;rw[Ai (by omega),AL,show k+1 - 1=k by omega,BV (by omega)]at this;have:=Kv this;omega
 unfold Asc;rw[BK];intro i j hi c e;induction j with
 |zero=>omega
 |succ j f=>
  rcases Bb i j with d|d
  ·have:=f (by omega) d;have:=a j c;omega
  ·have:i=j:=by omega
   subst this;exact a i c
section
variable {L:List zI}
def AfM(h:Zv L):T3 L=some (V7 L):=by
 unfold T3 V7;have b:=h.lim;have:=DJ (B:=Qv L) (n:=L.length) (λk=>Hg L k λl=>Bt l (Fm l)) b.1 (λk a c=>by unfold Qv;rw[Bi a,AI a,Bm a (Ba b.1),BV a];simp only[Ac,G];rw[AfN (b.2 _<|Ad a)];simp only;cases Bt L[k] (Fm L[k])<;>rfl) (λrec=>by unfold Qv;rw[Bc];rfl);rw[this];have e:(List.range L.length).any (λk=>Hg L k λl=>Bt l<|Fm l)=Bt L λ_ l=>Bt l (Fm l):=rfl
 rw[e];cases Bt L λ_ l=>Bt l (Fm l)<;>rfl
def cf(L:List zI):Nat->Int
 |0=>0
 |k+1=>if k=0∨((gL L k).length:Int) < cf L k then((gL L k).length:Int)else cf L k
def ru:∀{k:Nat},0 < k->k<=L.length->(cf L k=0↔∃j,j < k∧(gL L j).length=0)∧0<=cf L k
 |0,h,_=>absurd h (by omega)
 |k+1,_,i=>by
  rw[cf];by_cases d:k=0
  ·subst d;rw[Aw (.inl rfl)];refine⟨⟨λh=>⟨0,by omega,by omega⟩,λ⟨j,b,e⟩=>?_⟩,by omega⟩;have:j=0:=by omega
   subst this;omega
  ·have⟨c,f⟩:=ru (k:=k) (by omega) (by omega);by_cases g:((gL L k).length:Int) < cf L k
   ·rw[Aw (.inr g)];refine⟨⟨λh=>⟨k,by omega,by omega⟩,λ⟨j,b,e⟩=>?_⟩,by omega⟩;rcases Bb j k with a|a
    ·have:=c.2 ⟨j,a,e⟩;omega
    ·have:j=k:=by omega
     subst this;omega
   ·rw[Ay (by omega)];refine⟨⟨λh=>?_,λ⟨j,b,e⟩=>?_⟩,f⟩
    ·have⟨j,b,e⟩:=c.1 h;exact⟨j,by omega,e⟩
    ·rcases Bb j k with a|a
     ·exact c.2 ⟨j,a,e⟩
     ·have:j=k:=by omega
      subst this;omega
def Aal(h:Zv L):Lc L=some (cf L L.length):=by
 unfold Lc;have e:=h.lim
 have:=CD (body:=EO L) (out:=cf L L.length) (λk=>(cf L k,(k:Int))) L.length (λk b a=>by
  have c:∀x,G6 a (k:Int) x=a (x,((k+1:Nat):Int)):=λx=>by unfold G6;rw[Bm b (Ba e.1)]
  unfold EO;simp only;rw[Bi b,cf,TL b];simp only[Ac];by_cases f:k=0
  ·subst f;rw[Aw (.inl rfl)];show EP a L (cf L 0) ((0:Nat):Int) true=_;unfold EP;rw[AI b];exact c _
  ·rw[show(((k:Nat):Int)==0)=false by rw[Cg];omega,AI b];simp only[Ab,G];by_cases d:(L[k].length:Int) < cf L k
   ·rw[Aw (.inr d),Ai d];unfold EP;rw[AI b];exact c _
   ·rw[Ay (by omega),Af d];unfold EP;exact c _) (λrec=>by unfold EO;simp only;rw[Bc];rfl) fz (DN e.1)
 have g:Ap (EO L) fz (0,0)=some (cf L L.length):=this;rw[g];rfl
def AjI(h:Zv L)(n:∀l∈L,0 < l.length):Rx L=some (oxI L):=by
 unfold Rx;have v:=h.lim;have y:=h.1;have w:∀j (p:j < L.length),AN L[j] 0=some (QI<|gL L j):=λj p=>by have:=n _<|Ad p;have e:AN L[j] ((0:Nat):Int)=some (L[j][0]'this):=AI this;unfold QI;rw[TL p,PE this];exact e
 have:=CD (body:=LF L) (out:=oxI L) (λi=>((Qd L i).map λ(j:Nat)=>(j:Int),(i:Int))) L.length (λi hi a=>by
  have q:=Ta L i;generalize r:((Qd L i).map λ(j:Nat)=>(j:Int))=Y;have t:Y.length=i:=by rw[<-r,Aj,q]
  have d:Ap (Jy L Y (i:Int)) fz (Y.length:Int)=some ((fA ((Qd L i).map λj=>QI<|gL L j) (QI<|gL L i) i:Nat):Int):=by
   obtain⟨o,e,k,rfl,H,z⟩:=GV (B:=Jy L Y (i:Int)) (λs=>∃k:Nat,s=(k:Int)∧k<=i∧fA ((Qd L i).map λj=>QI (gL L j)) (QI (gL L i)) k=fA ((Qd L i).map λj=>QI (gL L j)) (QI (gL L i)) i) (λs=>s.toNat) (λo=>∃k:Nat,o=(k:Int)∧k<=i∧k=fA ((Qd L i).map λj=>QI (gL L j)) (QI (gL L i)) i) (λs A=>by
    obtain⟨k,rfl,x,c⟩:=A;cases k with
    |zero=>left;exact⟨((0:Nat):Int),⟨0,rfl,x,by rw[<-c];rfl⟩,λrec=>by unfold Jy;rfl⟩
    |succ k=>
     have b:k < (Qd L i).length:=by omega
     have f:(Qd L i)[k] < L.length:=by have:=(Vx L i _).1<|Ad b;omega
     have g1:AN Y (wZ<|((k+1:Nat):Int) - 1)=some (((Qd L i)[k]:Nat):Int):=by rw[wrap_in (by omega),show((k+1:Nat):Int) - 1=(k:Int)by omega,<-r,Hp,BP,Ae b];rfl
     have C:gI ((Qd L i).map λj=>QI<|gL L j) k=QI (gL L (Qd L i)[k]):=by rw[PE (by rw[Aj];exact b),BL]
     have g:∀a,Jy L Y (i:Int) a ((k+1:Nat):Int)=cond (decide (QI (gL L i) < QI (gL L (Qd L i)[k]))) (a (k:Int)) (some ((k+1:Nat):Int)):=λrec=>by unfold Jy;rw[Ai (by omega:(0:Int) < ((k+1:Nat):Int)),g1];simp only[Ac,G];rw[AI f];simp only[w _ f];rw[AI hi];simp only[w _ hi];rw[wrap_in (by omega),show((k+1:Nat):Int) - 1=(k:Int)by omega]
     rw[fA,C]at c;by_cases m:QI (gL L i) < QI (gL L (Qd L i)[k])
     ·right;rw[Aw m]at c;exact⟨(k:Int),⟨k,rfl,by omega,c⟩,by simp only[Aq];omega,λrec=>by rw[g,Ai m];rfl⟩
     ·left;rw[Ay m]at c;exact⟨((k+1:Nat):Int),⟨k+1,rfl,x,c⟩,λrec=>by rw[g,Af m];rfl⟩) fz (Y.length:Int) ⟨i,by rw[t],AJ _,rfl⟩ (by unfold fz;simp only[Aq];omega)
   rw[e,z]
  have u:=nq ((Qd L i).map λj=>QI<|gL L j) (QI<|gL L i) i;rw[Qd,kD,r];generalize fA ((Qd L i).map λj=>QI<|gL L j) (QI<|gL L i) i=k at d u;unfold LF;simp only;rw[Bi hi,d];simp only[Ac,G,BI];have g:C2 Y 0 (k:Int)=Y.take k:=WM Y k;have D:C2 Y (k:Int) (Y.length:Int)=Y.drop k:=by unfold C2;rw[Aq,Aq,AT]
  rw[g,D,A1 (by omega),A1 (by simp only[Cl,At];unfold lim;omega),A1 (by simp only[At,Al];unfold lim;omega),A1 (by omega),A1 (by simp only[Au,At,Al,Bx];unfold lim;omega),Bm hi (Ba v.1)];unfold putAt;rw[Bk];rfl) (λrec=>by unfold LF;simp only;rw[Bc];rfl) fz (DN v.1)
 have F:Ap (LF L) fz ([],0)=some (oxI L):=this;rw[F];rfl
def lfB(L:List zI):zI×Int:=cond (V7 L&& !(cf L L.length==0)) (((lfR (EY L) fz<|lf0<|EY L).map λr=>(r.1,(r.2:Int))).getD ([],0)) ([],0)
def X7(h:V7 L=true):0 < L.length∧∀l∈L,Asc l:=by unfold V7 at h;rw[Aa,AH,Bf]at h;refine⟨by omega,λl a=>?_⟩;obtain⟨k,b,rfl⟩:=AY.1 a;exact Aci<|FJ h.1 b
def fD(c:0 < L.length)(h:(cf L L.length==0)=false):∀l∈L,0 < l.length:=λl d=>by
 obtain⟨k,b,rfl⟩:=AY.1 d;rcases C1 (L[k].length)with a|a
 ·have:=((ru c<|AJ _).1).2 ⟨k,b,by rw[TL b];exact a⟩;rw[this]at h;cases h
 ·exact a
def vz(h:Zv L)(g:V7 L=true)(i:(cf L L.length==0)=false):∃out n,lfR (EY L) fz (lf0<|EY L)=some (out,n)∧Asc out∧(∀x,x∈out↔∀l∈L,x∈l)∧n<=20000:=by have⟨c,d⟩:=X7 g;have j:=fD c i;have a:=oU c j d;have k:=kJ (M:=EY L) (A:=(lf0<|EY L).2.1) (B:=4000) (λl b=>h.2 l<|(Rh L l).1 b) (EY L).length<|AJ _;have f:=h.1;rw[<-Rg L]at f;have m:WC (EY L) (lf0<|EY L).2.1 (EY L).length<=20000:=BC k (by have:=Cy 4000 f;omega);have⟨out,n,e,o,p,q⟩:=vD (M:=EY L) (λl b=>d l<|(Rh L l).1 b) fz _ a (by unfold fz;omega);exact⟨out,n,e,o,λx=>by rw[p];exact yh L x,by have:(lf0<|EY L).2.2.2.2=0:=rfl;omega⟩
def qJ(h:Zv L):Asc (lfB L).1∧(∀x∈(lfB L).1,∀l∈L,x∈l)∧(∀l∈L,(lfB L).1.length<=l.length)∧0<=(lfB L).2∧(lfB L).2<=20000:=by
 unfold lfB;cases f:V7 L with
 |false=>exact⟨List.Pairwise.nil,λx a=>(by cases a),λl b=>Cd _,by simp,by simp⟩
 |true=>
  cases g:(cf L L.length==0)with
  |true=>exact⟨List.Pairwise.nil,λx a=>(by cases a),λl b=>Cd _,by simp,by simp⟩
  |false=>have⟨out,n,e,c,d,i⟩:=vz h f g;simp only[CF,Eu,Ac,e,Cb,B8];refine⟨c,λx a=>(d x).1 a,λl b=>?_,by omega,by omega⟩;exact kf (CJ.2<|c.imp λh e=>by omega) λx a=>(d x).1 a l b
def Alg(h:Zv L):Jl L=some (lfB L):=by
 have hl:=h.lim;have hl1:=h.1;unfold Jl lfB;rw[AfM h];simp only[G];cases h1:V7 L with
 |false=>rfl
 |true=>
  simp only[An,Ab,AL];rw[Aal h];simp only;cases h2:(cf L L.length==0)with
  |true=>rfl
  |false=>
   have⟨f1,f2⟩:=X7 h1;have f3:=fD f1 h2;have⟨out,n,e,_,_,hn⟩:=vz h h1 h2;simp only[Ab,CF,Ac];rw[AjI h f3];simp only;have hol:(oxI L).length=L.length:=by unfold oxI;rw[Aj,Ta]
   have hlast:L.length - 1 < (Qd L L.length).length:=by rw[Ta];omega
   have hqL:(Qd L L.length)[L.length - 1] < L.length:=(Vx L _ _).1<|Ad hlast;have g1:AN (oxI L) (wZ<|((oxI L).length:Int) - 1)=some (((Qd L L.length)[L.length - 1]:Nat):Int):=by rw[hol,wrap_in (by omega),show(L.length:Int) - 1=((L.length - 1:Nat):Int)by omega];unfold oxI;rw[Hp,BP,Ae hlast];rfl
   have gM:gL (EY L) (L.length - 1)=L[(Qd L L.length)[L.length - 1]]:=by unfold EY;rw[jV _ _ hlast,TL hqL]
   have g3:AN L[(Qd L L.length)[L.length - 1]] 0=some (lf0<|EY L).2.2.2.1:=by have hp:=f3 _<|Ad hqL;have e0:AN L[(Qd L L.length)[L.length - 1]] ((0:Nat):Int)=some (L[(Qd L L.length)[L.length - 1]][0]'hp):=AI hp;unfold lf0 QI;simp only;rw[Rg,gM,PE hp];exact e0
   rw[A1 (by rw[Aq];exact⟨by omega,hl.1⟩),g1];simp only;rw[AI hqL];simp only[g3];have hok:=oU f1 f3 f2;have hr:=kJ (M:=EY L) (A:=(lf0<|EY L).2.1) (B:=4000) (λl hl=>h.2 l<|(Rh L l).1 hl) (EY L).length<|AJ _;rw[Rg]at hr;have hr2:WC (EY L) (lf0<|EY L).2.1 (EY L).length<=20000:=by rw[Rg];exact BC hr (by have:=Cy 4000 hl1;omega)
   have hrun:=AbP hl.1 hl.2 f2 fz (lf0 (EY L)) (List.replicate L.length (0:Int)) hok ⟨by rw[Iw],λj hj=>by have hjm:=(Vx L _ _).1<|Ad hj;have hz:gN (lf0<|EY L).2.1 j=0:=qn _ _;rw[hz,Hp,JX,Aw hjm];rfl,AJ _⟩ (by have:(lf0 (EY L)).2.2.2.2=0:=rfl;unfold lim;omega);rw[Aq];have hst:((([]:zI),List.replicate L.length (0:Int),(0:Int),(lf0<|EY L).2.2.2.1,(0:Int)))=((lf0<|EY L).1,List.replicate L.length (0:Int),(((lf0<|EY L).2.2.1:Nat):Int),(lf0<|EY L).2.2.2.1,(((lf0<|EY L).2.2.2.2:Nat):Int)):=rfl;rw[hst,hrun,e];rfl
end
def Ahd{t pre}(h:Uv t pre.length):chB t pre=[]∨∃lo hi:Nat,lo<=hi∧hi<=t.2.length∧(pre.length:Int) < t.1∧chB t pre=Z2 (C2 t.2 (lo:Int) (hi:Int)) pre.length (hi - lo):=by
 have⟨lo,hi,a,b,_,_,es⟩:=kF h;unfold chB;rw[Acz h a b es,B8];by_cases c:(pre.length:Int) < t.1
 ·rw[Aw c];exact .inr ⟨lo,hi,a,b,c,rfl⟩
 ·rw[Ay c];exact .inl rfl
def lK(S:List zI)(p:Nat):∀n,n<=S.length->∀x∈Z2 S p n,∃r∈S,x=LH r (p:Int)
 |0,_,x,a=>by rw[Z2]at a;cases a
 |n+1,c,x,a=>by
  rw[Z2]at a;rcases Ak.1 a with a|a
  ·exact lK S p n (by omega) x a
  ·cases b:pushB (Z2 S p n) (LH ((S[n]?).getD []) (p:Int))with
   |false=>rw[b]at a;cases a
   |true=>rw[b,Ac,AC]at a;refine⟨S[n],Ad _,?_⟩;rw[a,Ae (by omega)];rfl
def uj{t pre}(h:Uv t pre.length):(chB t pre).length<=t.2.length∧∀x∈chB t pre,0<=x∧x<=99:=by
 rcases Ahd h with e|⟨lo,hi,f,g,i,e⟩
 ·rw[e];exact⟨Cd _,λx a=>by cases a⟩
 ·rw[e];have j:=cu (C2 t.2 (lo:Int) (hi:Int)) pre.length<|hi - lo;refine⟨by omega,λx a=>?_⟩;obtain⟨r,b,rfl⟩:=lK _ _ _ (by unfold C2;rw[Aq,Aq,Bx,At];omega) x a;have d:r∈t.2:=by unfold C2 at b;exact CB<|GW b
  have c:=(Qi h.1).2.2.2 r d;have:=c.1;rw[Hi (by omega)];exact df c.2 (by omega)
def fW(a:MA)(o pre:zI):Nat->zI
 |0=>[]
 |i+1=>fW a o pre i++cond (a.2.contains<|LH o (i:Int)) [LH pre (i:Int)] []
def fh(a:MA)(o pre:zI):∀k,k<=o.length->(fW a o pre k).length=jL a o k
 |0,_=>by simp[fW,jL]
 |k+1,b=>by rw[fW,Au,fh a o pre k (by omega),Ahf a (by omega),Hi (by omega)];cases a.2.contains o[k]<;>rfl
def Ali{a o pre}(e:a.2.length<=lim)(i:pre.length<=o.length)(j:o.length<=5):Qw a o pre=some (fW a o pre pre.length):=by
 unfold Qw;have d:pre.length<=lim:=by unfold lim;omega
 have:=CD (body:=IF a o pre) (out:=fW a o pre pre.length) (λk=>(fW a o pre k,(k:Int))) pre.length (λk c b=>by
  have f:=fh a o pre k (by omega);have m:=uy a o k;have g:∀y,KG b (k:Int) y=b (y,((k+1:Nat):Int)):=λy=>by unfold KG;rw[Bm c (Ba d)]
  unfold IF;simp only;rw[Bi c,AI (l:=o) (by omega),fW,Hi (l:=o) (by omega),Hi c];simp only[Ac,G];rw[tg e];simp only[g];rw[AI c];cases a.2.contains o[k]with
  |true=>simp only[Ac];rw[A1 (by simp only[Al];unfold lim;omega)]
  |false=>simp only[Ab,AR]) (λrec=>by unfold IF;simp only;rw[Bc];rfl) fz (DN d)
 have h:Ap (IF a o pre) fz ([],0)=some (fW a o pre pre.length):=this;rw[h];rfl
section
variable {T:List YA}{q:Jz}{o:zI}
def j2(T:List YA)(q:Jz)(o pre:zI):List zI:=(Y2 q (LH o (pre.length:Int)) q.2.1.length).map λi=>chB ((T[i]?).getD (0,[]))<|fW ((q.2.1[i]?).getD ([],[])) o pre pre.length
def ky(T:List YA)(q:Jz)(o pre:zI):zI×Int:=lfB<|j2 T q o pre
def vo(h:TriesOk T q o){pre:zI}(c:pre.length < o.length):∀i∈Y2 q (LH o (pre.length:Int)) q.2.1.length,∃(hi:i < q.2.1.length),Uv (T[i]'(by rw[h.len];exact hi)) (fW q.2.1[i] o pre pre.length).length∧chB ((T[i]?).getD (0,[])) (fW ((q.2.1[i]?).getD ([],[])) o pre pre.length)=chB (T[i]'(by rw[h.len];exact hi)) (fW q.2.1[i] o pre pre.length):=λi hi=>by have⟨a,d⟩:=Adi hi;have b:=rI h a (k:=pre.length) (by omega);refine⟨a,by rw[fh _ _ _ _ (by omega)];exact b,?_⟩;rw[Ae (by rw[h.len];exact a),Ae a];rfl
def qH(h:TriesOk T q o){pre:zI}(a:pre.length < o.length):Zv (j2 T q o pre)∧0 < (j2 T q o pre).length:=by have d:=(WB h.qv).2.2.1;have f:=cH q (LH o (pre.length:Int)) q.2.1.length;have g:=M8 h.ov;have b:=g.2.2.1 _<|Ad a;have l:=Adj h.qv b.1 b.2;unfold Zv j2;rw[Aj];refine⟨⟨by omega,λl j=>?_⟩,by rw[Hi a];omega⟩;obtain⟨i,hi,rfl⟩:=A5.1 j;have⟨k,c,e⟩:=vo h a i hi;rw[e];have m:=(uj c).1;have n:=(Yx c).2.1;omega
def AfQ(h:TriesOk T q o){pre:zI}(hk:pre.length < o.length):Sy T q o pre=some (ky T q o pre):=by
 have ho:=M8 h.ov;have hqn:=Sg h.qv;have hq4:=(WB h.qv).2.2.1;have hxl:=cH q o[pre.length] q.2.1.length;unfold Sy;rw[AI hk];simp only[G];rw[Alf h.sm h.qv];simp only;have hlen:(ixB q o[pre.length]).length=(Y2 q o[pre.length] q.2.1.length).length:=by unfold ixB;rw[Aj]
 have hkl:(j2 T q o pre).length=(Y2 q o[pre.length] q.2.1.length).length:=by unfold j2;rw[Aj,Hi hk]
 have hloop:Ap (My T q o pre<|ixB q o[pre.length]) fz (([]:List zI),0)=some (j2 T q o pre):=by
  have:=CD (body:=My T q o pre (ixB q o[pre.length])) (out:=j2 T q o pre) (λj=>((j2 T q o pre).take j,(j:Int))) (j2 T q o pre).length (λj hj rec=>by
   have hj2:j < (Y2 q o[pre.length] q.2.1.length).length:=by omega
   have hmem:(Y2 q o[pre.length] q.2.1.length)[j]∈Y2 q (LH o (pre.length:Int)) q.2.1.length:=by rw[Hi hk];exact Ad hj2
   have⟨hil,hT,e⟩:=vo h hk _ hmem;have hg:AN (ixB q o[pre.length]) (j:Int)=some (((Y2 q o[pre.length] q.2.1.length)[j]:Nat):Int):=by rw[Hp];unfold ixB;rw[BP,Ae hj2];rfl
   have hal:=(h.sm.2.1 _<|Ad hil).2;have hTl:(Y2 q o[pre.length] q.2.1.length)[j] < T.length:=by rw[h.len];exact hil
   have hval:(j2 T q o pre)[j]=chB (T[(Y2 q o[pre.length] q.2.1.length)[j]]'hTl) (fW q.2.1[(Y2 q o[pre.length] q.2.1.length)[j]] o pre pre.length):=by
    have h1:(j2 T q o pre)[j]? =some (chB (T[(Y2 q o[pre.length] q.2.1.length)[j]]'hTl)<|fW q.2.1[(Y2 q o[pre.length] q.2.1.length)[j]] o pre pre.length):=by unfold j2;rw[BP,Hi hk,Ae hj2,Cb,e]
    rw[Ae hj]at h1;exact Dt h1
   unfold My;simp only;rw[hlen,Bi hj2,hg];simp only[Ac,G];rw[AI hTl];simp only[AI hil];rw[Ali hal (by omega) (by omega)];simp only;rw[Ak9 hT];simp only;rw[A1 (by simp only[At,Al];unfold lim;omega),A6 hj,hval,wrap_in (by omega)];rfl) (λrec=>by unfold My;simp only;rw[hkl,hlen,Bc,<-hkl,AT];rfl) fz (by unfold fz;omega)
  simpa using this
 rw[hloop];simp only;rw[Alg (qH h hk).1];rfl
def wk(T:List YA)(q:Jz)(o:zI):Nat->zI->List zI×Int
 |0,pre=>([pre],0)
 |r+1,pre=>((ky T q o pre).1.flatMap<|λv=>(wk T q o r<|pre++[v]).1,(ky T q o pre).1.foldl (λn v=>wZ<|n+(wk T q o r<|pre++[v]).2) (ky T q o pre).2)
def aF(h:TriesOk T q o)(b:∀t∈T,t.2.length<=16){pre:zI}(e:pre.length < o.length):(ky T q o pre).1.length<=16∧Asc (ky T q o pre).1∧(∀x∈(ky T q o pre).1,0<=x∧x<=99):=by
 have⟨g,j⟩:=qH h e;have⟨k,l,m,_⟩:=qJ g;have c:=Ad j;have a:=c;unfold j2 at a;have⟨i,hi,d⟩:=A5.1 a;have⟨n,p,r⟩:=vo h e i hi;have f:=uj p;rw[r]at d;refine⟨?_,k,λx s=>?_⟩
 ·refine BC (m _ c) ?_;rw[show(j2 T q o pre)[0]=_ from d.symm];exact BC f.1<|b _<|Ad _
 ·have:=l x s _ c;rw[show(j2 T q o pre)[0]=_ from d.symm]at this;exact f.2 x this
def Yz(h:TriesOk T q o)(h16:∀t∈T,t.2.length<=16):∀(r:Nat) (pre:zI),pre.length+r=o.length->(wk T q o r pre).1.length<=16 ^ r∧(∀z∈(wk T q o r pre).1,z.length=o.length∧z.take pre.length=pre∧((∀x∈pre,0<=x∧x<=99)->∀x∈z,0<=x∧x<=99))
 |0,pre,hr=>by rw[wk];refine⟨by simp,λz hz=>?_⟩;rw[AC]at hz;subst hz;exact⟨by omega,AT,λh=>h⟩
 |r+1,pre,hr=>by
  have⟨k1,k2,k3⟩:=aF h h16 (pre:=pre) (by omega);have ih:=λv=>Yz h h16 r (pre++[v]) (by rw[Au,Al];omega)
  rw[wk];refine⟨?_,λz hz=>?_⟩
  ·have key:∀l:zI,(l.flatMap<|λv=>(wk T q o r<|pre++[v]).1).length<=l.length * 16 ^ r:=by
    intro l;induction l with
    |nil=>simp
    |cons v l ihl=>rw[Ax,Au,AD,DY,FD];have:=(ih v).1;omega
   have h1:=key (ky T q o pre).1;have h2:(ky T q o pre).1.length * 16 ^ r<=16 * 16 ^ r:=Cy _ k1;rw[Nx];simp only;omega
  ·have⟨v,hv,hz⟩:=BU.1 hz;have⟨z1,z2,z3⟩:=(ih v).2 z hz;refine⟨z1,?_,λhp=>z3 λx hx=>?_⟩
   ·have:(z.take (pre++[v]).length).take pre.length=pre:=by rw[z2,List.take_left' rfl]
    rw[List.take_take,Au,Al,C8 (by omega)]at this;exact this
   ·rcases Ak.1 hx with hx|hx
    ·exact hp x hx
    ·rw[AC]at hx;subst hx;exact k3 _ hv
def AjO(h:TriesOk T q o)(a:∀t∈T,t.2.length<=16):∀(r:Nat) (pre:zI),pre.length+r=o.length->∀m,r < m->Ap F5 m (T,q,o,pre)=some (wk T q o r pre)
 |0,pre,g,m,i=>by obtain⟨m,rfl⟩:∃k,m=k+1:=⟨m - 1,by omega⟩;have l:=M8 h.ov;have d:=Sg h.qv;rw[CM,F5];rw[show((List.length pre:Int)==(o.length:Int))=true by rw[BG];omega];simp only[Ac,BI];rw[A1 (by simp only[Cl];unfold lim;omega)];rfl
 |r+1,pre,g,m,i=>by
  obtain⟨m,rfl⟩:∃k,m=k+1:=⟨m - 1,by omega⟩;have l:=M8 h.ov;have d:=Sg h.qv;have⟨x,y,z⟩:=aF h a (pre:=pre) (by omega);have b:16 ^ r<=1048576:=by have:=Jg (show 0 < 16 by decide) (show r<=5 by omega);exact this
  rw[CM,F5];rw[show((List.length pre:Int)==(o.length:Int))=false by rw[Cg];omega];simp only[Ab];rw[AfQ h (by omega)];simp only[G]
  have e:∀j,j<=(ky T q o pre).1.length->((((ky T q o pre).1.take j).flatMap<|λv=>(wk T q o r<|pre++[v]).1)).length<=j * 16 ^ r:=by
   intro j;induction j with
   |zero=>intro _;simp
   |succ j p=>intro c;have s:=p (by omega);have f:=(Yz h a r (pre++[(ky T q o pre).1[j]])<|by rw[Au,Al];omega).1;rw[A6 (by omega),CK,Au,DY,FD,Ax,Fv,AR];omega
  have:=CD (body:=Mz T q o pre (ky T q o pre) (Ap F5 m)) (out:=((ky T q o pre).1.flatMap (λv=>(wk T q o r (pre++[v])).1),(ky T q o pre).1.foldl (λn v=>wZ (n+(wk T q o r (pre++[v])).2)) (ky T q o pre).2)) (λj=>(((ky T q o pre).1.take j).flatMap (λv=>(wk T q o r (pre++[v])).1),((ky T q o pre).1.take j).foldl (λn v=>wZ (n+(wk T q o r (pre++[v])).2)) (ky T q o pre).2,(j:Int))) (ky T q o pre).1.length (λj c u=>by have w:=AjO h a r (pre++[(ky T q o pre).1[j]]) (by rw[Au,Al];omega) m (by omega);have s:=e j (by omega);have f:=(Yz h a r (pre++[(ky T q o pre).1[j]])<|by rw[Au,Al];omega).1;have A:j * 16 ^ r<=16 * 1048576:=Ly (by omega) b;unfold Mz;simp only[BI];rw[Bi c,AI c];simp only[Ac,G];rw[A1 (by simp only[Cl];unfold lim;omega),A1 (by simp only[Al];unfold lim;omega),w];simp only;rw[A1 (by unfold lim;omega),A6 c,CK,Dy,Ax,Fv,AR,Bm c (by unfold maxLen;omega)];rfl) (λrec=>by unfold Mz;simp only;rw[Bc,AT];rfl) fz (by unfold fz;omega);have f:Ap (Mz T q o pre (ky T q o pre)<|Ap F5 m) fz (([]:List zI),(ky T q o pre).2,0)=some ((ky T q o pre).1.flatMap<|λv=>(wk T q o r<|pre++[v]).1,(ky T q o pre).1.foldl (λn v=>wZ<|n+(wk T q o r<|pre++[v]).2) (ky T q o pre).2):=this;rw[f];rfl
end
def emB(T:List YA):Bool:=Bt T λ_ t=>(t.2.length:Int)==0
def Ald{T}(b:T.length<=lim):Ry T=some (emB T):=by
 unfold Ry emB;have:=Ux (B:=N6 T) (n:=T.length) (λk=>Hg T k λt=>(t.2.length:Int)==0) true b (λk a c=>by unfold N6;rw[Bi a,AI a,Bm a (Ba b),BV a];rfl) (λrec=>by unfold N6;rw[Bc];rfl);rw[this];have e:(List.range T.length).any (λk=>Hg T k λt=>(t.2.length:Int)==0)=Bt T λ_ t=>(t.2.length:Int)==0:=rfl
 rw[e];cases Bt T λ_ t=>(t.2.length:Int)==0<;>rfl
section
variable {d:List QE}{q:Jz}{o:zI}
def trs(d:List QE)(q:Jz)(o:zI):List YA:=q.2.1.map<|bH d o
def kZ(f:E3 d q=true)(h:TB q o=true):∀t∈trs d q o,t.2.length<=16:=λt e=>by unfold trs at e;obtain⟨a,b,rfl⟩:=A5.1 e;have g:=nh f;have⟨c,i⟩:=ck g.1 h b<|g.2.2 a b;exact BC (nf i).2 (jk c<|g.2.2 a b).2
def ljB(d:List QE)(q:Jz)(o:zI):(Int×List zI)×Int×Bool:=cond (E3 d q&&TB q o) (cond (emB<|trs d q o) (((o.length:Int),[]),0,true)<|cond (nrB (o.length:Int) (wk (trs d q o) q o o.length []).1).2 ((nrB (o.length:Int) (wk (trs d q o) q o o.length []).1).1,(wk (trs d q o) q o o.length []).2,true) ((0,[]),0,false)) ((0,[]),0,false)
def AbW(c:Th q)(a:E3 d q=true)(b:TB q o=true):GN (wk (trs d q o) q o o.length []).1:=by
 have e:=M8 b;have f:=Sg (nh a).1;have⟨g,h⟩:=Yz (fP (d:=d) c a b) (kZ a b) o.length [] (by simp);have i:16 ^ o.length<=1048576:=by have:=Jg (show 0 < 16 by decide) (show o.length<=5 by omega);exact this
 exact⟨BC g (by unfold lim;omega),λr j=>by have:=(h r j).1;unfold lim;omega⟩
def Alh(h:Ql d)(b:Th q)(g:o.length<=lim):Nc d q o=some (ljB d q o):=by
 unfold Nc ljB;rw[Aam h b g];unfold bf;cases e:E3 d q with
 |false=>rfl
 |true=>
  cases a:TB q o with
  |false=>rfl
  |true=>
   simp only[Eu,Ac,G,An,Ab];have c:=fP (d:=d) b e a;rw[show q.2.1.map (bH d o)=trs d q o from rfl]at c⊢;rw[Ald (by rw[c.len];exact b.1)];simp only;cases emB (trs d q o)with
   |true=>rfl
   |false=>have f:=AjO c (kZ e a) o.length [] (by simp) fz (by have:=M8 a;have:=Sg c.qv;unfold fz;omega);have f:VC (trs d q o) q o []=some (wk (trs d q o) q o o.length []):=f;simp only[Ab];rw[f];simp only;rw[wW (AbW b e a)];simp only;cases(nrB (o.length:Int) (wk (trs d q o) q o o.length []).1).2<;>rfl
def Ajl{a l}(h:GN l):GN (nrB a l).1.2:=by
 unfold nrB;cases Bt l λ_ x=>S7 a x with
 |true=>exact⟨Cd _,λr b=>(by cases b)⟩
 |false=>
  simp only[Ab];cases Mr (a,sortB l)with
  |false=>exact⟨Cd _,λr b=>(by cases b)⟩
  |true=>exact ZA h
def Abs(c:Th q):GN (ljB d q o).1.2:=by
 unfold ljB;cases e:E3 d q with
 |false=>exact⟨Cd _,λr a=>(by cases a)⟩
 |true=>
  cases b:TB q o with
  |false=>exact⟨Cd _,λr a=>(by cases a)⟩
  |true=>
   simp only[Eu,Ac];cases emB (trs d q o)with
   |true=>exact⟨Cd _,λr a=>(by cases a)⟩
   |false=>
    simp only[Ab];cases(nrB (o.length:Int) (wk (trs d q o) q o o.length []).1).2 with
    |false=>exact⟨Cd _,λr a=>(by cases a)⟩
    |true=>exact Ajl<|AbW c e b
end
def Adb{l}{i:Nat}{t}(c:l.length<=lim)(hi:i<=l.length):PJ l (i:Int) t=some ((Ms l i t:Nat):Int):=by
 unfold PJ;rw[show(if(0:Int) < (i:Int)then(i:Int)else 0)=(i:Int)by split<;>omega]
 have⟨o,e,k,h,n,d⟩:=GV (B:=Kh l t) (λs=>∃k:Nat,s=(k:Int)∧k<=l.length∧Ms l k t=Ms l i t) (λs=>l.length - s.toNat) (λo=>∃k:Nat,(o=.inr (k:Int)∨(o=.inl ()∧k=l.length))∧k<=l.length∧k=Ms l i t) (λs j=>by
  obtain⟨k,rfl,f,b⟩:=j;rcases Bb k l.length with a|a
  ·by_cases g:l[k] < t
   ·right;refine⟨((k+1:Nat):Int),⟨k+1,rfl,a,by rw[<-cO a g];exact b⟩,by simp only[Aq];omega,λrec=>?_⟩;unfold Kh;rw[Bi a,AI a,Bm a (Ba c)];simp only[Ac,G];rw[Af (by omega)];rfl
   ·left;refine⟨.inr (k:Int),⟨k,.inl rfl,f,by rw[<-b];exact(SC λ_=>g).symm⟩,λrec=>?_⟩;unfold Kh;rw[Bi a,AI a];simp only[Ac,G];rw[Ai (by omega)];rfl
  ·left;refine⟨.inl (),⟨k,.inr ⟨rfl,by omega⟩,f,by rw[<-b];exact(SC λhi=>absurd hi<|by omega).symm⟩,λrec=>?_⟩;unfold Kh;rw[Af (by omega)];rfl) fz (i:Int) ⟨i,rfl,hi,rfl⟩ (by unfold fz;unfold lim at c;omega)
 rw[e];simp only[G];rcases h with rfl|⟨rfl,m⟩
 ·simp only;rw[d]
 ·simp only;rw[<-d,m]
section
variable {L:List zI}
def Ac0(h:Zv L):K4 L=some (V7 L):=by
 unfold K4 V7;have b:=h.lim;have:=DJ (B:=Jd L) (n:=L.length) (λk=>Hg L k λl=>Bt l (Fm l)) b.1 (λk a c=>by unfold Jd;rw[Bi a,AI a,Bm a (Ba b.1),BV a];simp only[Ac,G];rw[Aa5 (b.2 _<|Ad a)];simp only;cases Bt L[k] (Fm L[k])<;>rfl) (λrec=>by unfold Jd;rw[Bc];rfl);rw[this];have e:(List.range L.length).any (λk=>Hg L k λl=>Bt l<|Fm l)=Bt L λ_ l=>Bt l (Fm l):=rfl
 rw[e];cases Bt L λ_ l=>Bt l (Fm l)<;>rfl
def yL(h:Zv L):K3 L=some (cf L L.length):=by
 unfold K3;have e:=h.lim
 have:=CD (body:=EM L) (out:=cf L L.length) (λk=>(cf L k,(k:Int))) L.length (λk b a=>by
  have c:∀x,GS a (k:Int) x=a (x,((k+1:Nat):Int)):=λx=>by unfold GS;rw[Bm b (Ba e.1)]
  unfold EM;simp only;rw[Bi b,cf,TL b,AI b];simp only[Ac,G];by_cases f:k=0
  ·subst f;rw[Aw (.inl rfl)];exact c _
  ·rw[show(((k:Nat):Int)==0)=false by rw[Cg];omega];simp only[Ab];by_cases d:(L[k].length:Int) < cf L k
   ·rw[Aw (.inr d),Ai d];exact c _
   ·rw[Ay (by omega),Af d];exact c _) (λrec=>by unfold EM;simp only;rw[Bc];rfl) fz (DN e.1)
 have g:Ap (EM L) fz (0,0)=some (cf L L.length):=this;rw[g];rfl
def oA{l}(hp:0 < l.length):AN l 0=some (QI l):=by have e:AN l ((0:Nat):Int)=some (l[0]'hp):=AI hp;unfold QI;rw[PE hp];exact e
def Ac8(h:Zv L)(d:∀l∈L,0 < l.length):Ap (FL L) fz (([]:List zI),0)=some (EY L):=by
 have x:=h.lim;have z:=h.1
 have:=CD (body:=FL L) (out:=EY L) (λi=>((Qd L i).map (gL L),(i:Int))) L.length (λi hi a=>by
  have q:=Ta L i;have r:=d _<|Ad hi;have f:gL L i=L[i]:=TL hi;generalize t:(Qd L i).map (gL L)=Y;have u:Y.length=i:=by rw[<-t,Aj,q]
  have g:Ap (EJ Y L[i]) fz (Y.length:Int)=some ((fA ((Qd L i).map λj=>QI<|gL L j) (QI<|gL L i) i:Nat):Int):=by
   obtain⟨o,e,k,rfl,H,A⟩:=GV (B:=EJ Y L[i]) (λs=>∃k:Nat,s=(k:Int)∧k<=i∧fA ((Qd L i).map λj=>QI (gL L j)) (QI (gL L i)) k=fA ((Qd L i).map λj=>QI (gL L j)) (QI (gL L i)) i) (λs=>s.toNat) (λo=>∃k:Nat,o=(k:Int)∧k<=i∧k=fA ((Qd L i).map λj=>QI (gL L j)) (QI (gL L i)) i) (λs C=>by
    obtain⟨k,rfl,y,c⟩:=C;cases k with
    |zero=>left;exact⟨((0:Nat):Int),⟨0,rfl,y,by rw[<-c];rfl⟩,λrec=>by unfold EJ;rfl⟩
    |succ k=>
     have b:k < (Qd L i).length:=by omega
     have m:(Qd L i)[k] < L.length:=by have:=(Vx L i _).1<|Ad b;omega
     have g1:AN Y (wZ<|((k+1:Nat):Int) - 1)=some (gL L (Qd L i)[k]):=by rw[wrap_in (by omega),show((k+1:Nat):Int) - 1=(k:Int)by omega,<-t,Hp,BP,Ae b];rfl
     have D:gI ((Qd L i).map λj=>QI<|gL L j) k=QI (gL L (Qd L i)[k]):=by rw[PE (by rw[Aj];exact b),BL]
     have v:0 < (gL L (Qd L i)[k]).length:=by rw[TL m];exact d _<|Ad m
     have n:∀a,EJ Y L[i] a ((k+1:Nat):Int)=cond (decide (QI (gL L i) < QI (gL L (Qd L i)[k]))) (a (k:Int)) (some ((k+1:Nat):Int)):=λrec=>by unfold EJ;rw[Ai (by omega:(0:Int) < ((k+1:Nat):Int)),g1];simp only[Ac,G];rw[oA v];simp only;rw[oA r];simp only;rw[wrap_in (by omega),show((k+1:Nat):Int) - 1=(k:Int)by omega,f]
     rw[fA,D]at c;by_cases p:QI (gL L i) < QI (gL L (Qd L i)[k])
     ·right;rw[Aw p]at c;exact⟨(k:Int),⟨k,rfl,by omega,c⟩,by simp only[Aq];omega,λrec=>by rw[n,Ai p];rfl⟩
     ·left;rw[Ay p]at c;exact⟨((k+1:Nat):Int),⟨k+1,rfl,y,c⟩,λrec=>by rw[n,Af p];rfl⟩) fz (Y.length:Int) ⟨i,by rw[u],AJ _,rfl⟩ (by unfold fz;simp only[Aq];omega)
   rw[e,A]
  have w:=nq ((Qd L i).map λj=>QI<|gL L j) (QI<|gL L i) i;rw[Qd,kD,t];generalize fA ((Qd L i).map λj=>QI<|gL L j) (QI<|gL L i) i=k at g w;unfold FL;simp only;rw[Bi hi,AI hi];simp only[Ac,G];rw[g];simp only[BI];have n:C2 Y 0 (k:Int)=Y.take k:=by unfold C2;rw[Aq];rfl
  have F:C2 Y (k:Int) (Y.length:Int)=Y.drop k:=by unfold C2;rw[Aq,Aq,AT]
  rw[n,F,A1 (by omega),A1 (by simp only[Cl,At];unfold lim;omega),A1 (by simp only[At,Al];unfold lim;omega),A1 (by omega),A1 (by simp only[Au,At,Al,Bx];unfold lim;omega),Bm hi (Ba x.1)];unfold putAt;rw[Bk,f];rfl) (λrec=>by unfold FL;simp only;rw[Bc];rfl) fz (DN x.1)
 exact this
def Zh(l:zN):zI:=l.map λ(j:Nat)=>(j:Int)
def v5(l:zN)(p v:Nat):En (Zh l) (p:Int) (v:Int)=Zh (l.set p v):=by unfold En Zh;rw[Aq,List.map_set]
def mL{l}{p:Nat}(h:p < l.length):AN (Zh l) (p:Int)=some ((gN l p:Nat):Int):=by unfold Zh;rw[Hp,BP,Ae h,Ahq h];rfl
def Abf(A:L.length<=lim)(f:∀l∈L,l.length<=lim)(B:∀l∈L,Asc l):∀(m:Nat) (s:LfS),LfOk (EY L) s->s.2.2.1=s.2.2.2.2 % (EY L).length->s.1.length<=s.2.2.2.2->s.2.2.2.2+WC (EY L) s.2.1 (EY L).length<=lim->
  Ap (FM<|EY L) m (Zh s.2.1,s.2.2.2.1,s.1,((s.2.2.2.2+1:Nat):Int))=(lfR (EY L) m s).map λr=>.inr (r.1,(r.2:Int))
 |0,s,h,c,g,v=>rfl
 |m+1,s,h,c,g,v=>by
  have x:∀l∈EY L,Asc l:=λl I=>B l<|(Rh L l).1 I
  have⟨out,a,p,d,n⟩:=s;have⟨w,J,K⟩:=j7 h;have⟨C,y⟩:=j5 h;have N:0 < (EY L).length:=by have:=h.p;omega
  have b:=h.p;have e:p < a.length:=by have:=h.len;simp only at this b;omega
  have j:=(cM (M:=EY L) e C y (EY L).length).2 h.p;simp only at w J K C y j v c g b;have t:=f _<|(Rh L _).1<|Un b;have O:(EY L).length<=lim:=by rw[Rg];exact A
  have D:Int.tmod (wZ<|((n+1:Nat):Int) - 1) ((EY L).length:Int)=(p:Int):=by
   unfold lim at v;rw[wrap_in (by omega),show((n+1:Nat):Int) - 1=(n:Int)by omega,Int.tmod_eq_emod_of_nonneg (by omega),c]
   norm_cast
  have g2:AN (EY L) (p:Int)=some (gL (EY L) p):=by rw[AI b,TL b]
  have P:AN (Zh a) (p:Int)=some ((gN a p:Nat):Int):=mL e;have Q:AN (gL (EY L) p) ((gN a p:Nat):Int)=some (gI (gL (EY L) p)<|gN a p):=by rw[AI w,PE w]
  have R:wZ (((n+1:Nat):Int)+1)=((n+1+1:Nat):Int):=by unfold lim at v;rw[wrap_in (by omega)];omega
  have F:∀(o:zI) (i:Nat),o=lfO (EY L) (out,a,p,d,n)->i=bz (EY L) (out,a,p,d,n)->o.length<=n+1->
    FN (Ap (FM<|EY L) m) (EY L) ((n+1:Nat):Int) (gL (EY L) p) (En (Zh a) (p:Int) (i:Int)) o=(lfR (EY L) (m+1) (out,a,p,d,n)).map λr=>.inr (r.1,(r.2:Int)):=by
   intro o i H hi z;unfold FN;rw[v5,D];have S:AN (Zh<|a.set p i) (p:Int)=some (i:Int):=by rw[mL (by rw[Ch];exact e),dS e,Aw rfl]
   rw[S];simp only[G];rw[lfR];simp only[<-H,<-hi];by_cases k:i=(gL (EY L) p).length
   ·rw[show((i:Int)==((gL (EY L) p).length:Int))=true by rw[BG];omega,show(i==(gL (EY L) p).length)=true by rw[BG];exact k];rfl
   ·rw[show((i:Int)==((gL (EY L) p).length:Int))=false by rw[Cg];omega,show(i==(gL (EY L) p).length)=false by rw[Cg];exact k];have q:i < (gL (EY L) p).length:=by rw[<-hi]at y;omega
    rw[show AN (gL (EY L) p) (i:Int)=some (gI (gL (EY L) p) i)by rw[AI q,PE q]];simp only[Ab];rw[R];have u:=j6 h x (by simp only;rw[<-hi];exact q);simp only[<-H,<-hi]at u j;exact Abf A f B m (o,a.set p i,(p+1) % (EY L).length,gI (gL (EY L) p) i,n+1) u (by simp only;rw[c,Nat.mod_add_mod]) z (by simp only;omega)
  rw[CM,FM];simp only;rw[A1 (by omega),D,g2];simp only[G];rw[P];simp only;rw[Q];simp only;cases k:(gI (gL (EY L) p) (gN a p)==d)with
  |true=>simp only[Ac];rw[A1 (by simp only[Al];omega),show wZ (((gN a p:Nat):Int)+1)=((gN a p+1:Nat):Int)by unfold lim at t;rw[wrap_in (by omega)];omega];exact F _ _ (by unfold lfO;simp only;rw[k];rfl) (by unfold bz;simp only;rw[k];rfl) (by simp only[Au,Al];omega)
  |false=>simp only[Ab];rw[Adb t (B4 w)];exact F _ _ (by unfold lfO;simp only;rw[k];rfl) (by unfold bz;simp only;rw[k];rfl) (by omega)
def AkG(h:Zv L):Ja L=some (lfB L):=by
 have c:=h.lim;have d:=h.1;unfold Ja lfB;rw[Ac0 h];simp only[G];cases m:V7 L with
 |false=>rfl
 |true=>
  simp only[An,Ab,AL];rw[yL h];simp only;cases o:(cf L L.length==0)with
  |true=>rfl
  |false=>
   have⟨f,p⟩:=X7 m;have g:=fD f o;have⟨out,n,e,_,_,w⟩:=vz h m o;simp only[Ab,CF,Ac];rw[Ac8 h g];simp only;have q:0 < (EY L).length:=by rw[Rg];exact f
   have i:(EY L).length<=5:=by rw[Rg];exact d
   have a:(EY L).length - 1 < (EY L).length:=by omega
   have r:=g _<|(Rh L _).1<|Ad a;rw[A1 (by rw[Aq];unfold lim;omega),wrap_in (by omega),show((EY L).length:Int) - 1=(((EY L).length - 1:Nat):Int)by omega,AI a];simp only;rw[oA r];simp only;have j:=oU f g p;have s:=kJ (M:=EY L) (A:=(lf0<|EY L).2.1) (B:=4000) (λl c=>h.2 l<|(Rh L l).1 c) (EY L).length<|AJ _;have t:WC (EY L) (lf0<|EY L).2.1 (EY L).length<=20000:=BC s (by have:=Cy 4000 i;omega);have b:=Abf c.1 c.2 p fz (lf0<|EY L) j (by show 0=0 % _;rw[Nat.zero_mod]) (AJ _) (by have:(lf0<|EY L).2.2.2.2=0:=rfl;unfold lim;omega);have u:Zh (lf0<|EY L).2.1=List.replicate (EY L).length (0:Int):=by show Zh (zeros _)=_;unfold Zh zeros;rw[List.map_replicate];rfl
   have v:(lf0<|EY L).2.2.2.1=QI (EY L)[(EY L).length - 1]:=by show QI (gL (EY L)<|(EY L).length - 1)=_;rw[TL a]
   rw[Aq,<-v,<-u];have k:(Zh (lf0<|EY L).2.1,(lf0<|EY L).2.2.2.1,([]:zI),(1:Int))=(Zh (lf0<|EY L).2.1,(lf0<|EY L).2.2.2.1,(lf0<|EY L).1,(((lf0<|EY L).2.2.2.2+1:Nat):Int)):=rfl;rw[k,b,e];rfl
end
def wrap_add(a b:Int):wZ (wZ a+b)=wZ (a+b):=by
 (try unfold wZ)<;>unfold IntKind.wrap
 simp only[IntKind.signed,IntKind.bits,AL,Bf,ge_iff_le];split<;>split<;>(try split)<;>omega
def N7{α:Type}(f:α->Int):List α->Int
 |[]=>0
 |x::l=>f x+N7 f l
def nA{α:Type}(f:α->Int):∀a b:List α,N7 f (a++b)=N7 f a+N7 f b
 |[],b=>by simp[N7]
 |x::a,b=>by rw[BY,N7,N7,nA f a b];omega
def i6{α β:Type}(f:β->Int)(g:α->List β):∀l:List α,N7 f (l.flatMap g)=N7 (λx=>N7 f<|g x) l
 |[]=>rfl
 |x::l=>by rw[Ax,nA,N7,i6 f g l]
def nB{α β:Type}(f:β->Int)(g:α->β):∀l:List α,N7 f (l.map g)=N7 (λx=>f<|g x) l
 |[]=>rfl
 |x::l=>by rw[AM,N7,N7,nB f g l]
def nz{α:Type}(f g:α->Int):∀l:List α,N7 (λx=>f x+g x) l=N7 f l+N7 g l
 |[]=>rfl
 |x::l=>by rw[N7,N7,N7,nz f g l];omega
def i7{α:Type}:∀l:List α,N7 (λ_=>(0:Int)) l=0
 |[]=>rfl
 |x::l=>by rw[N7,i7 l];rfl
def ah{α:Type}(f g:α->Int)(b:∀n v,wZ (n+f v)=wZ (n+g v)):∀(l:List α) (a:Int),l.foldl (λn v=>wZ<|n+f v) (wZ a)=wZ (a+N7 g l)
 |[],a=>by rw[Hy,N7];congr 1;omega
 |x::l,a=>by rw[CL,b,wrap_add,ah f g b l,N7];congr 1;omega
section
variable {T:List YA}{q:Jz}{o:zI}
def AkJ{a pre}(e:a.2.length<=lim)(h:pre.length<=o.length)(i:o.length<=5):Ap (Iu o pre a) fz (([]:zI),0)=some (fW a o pre pre.length):=by
 have d:pre.length<=lim:=by unfold lim;omega
 have:=CD (body:=Iu o pre a) (out:=fW a o pre pre.length) (λk=>(fW a o pre k,(k:Int))) pre.length (λk c b=>by
  have f:=fh a o pre k (by omega);have j:=uy a o k;have g:∀y,Kk b (k:Int) y=b (y,((k+1:Nat):Int)):=λy=>by unfold Kk;rw[Bm c (Ba d)]
  unfold Iu;simp only;rw[Bi c,AI c,AI (l:=o) (by omega),fW,Hi (l:=o) (by omega),Hi c];simp only[Ac,G];rw[mm e];simp only[g];cases a.2.contains o[k]with
  |true=>simp only[Ac];rw[A1 (by simp only[Al];unfold lim;omega)]
  |false=>simp only[Ab,AR]) (λrec=>by unfold Iu;simp only;rw[Bc];rfl) fz (DN d)
 exact this
def Ac6(h:TriesOk T q o){pre:zI}(d:pre.length < o.length):PR q T o pre=some (j2 T q o pre):=by
 have n:=M8 h.ov;have g:=Sg h.qv;have j:=(WB h.qv).2.2.1;unfold PR j2
 have:=CD (body:=It q T o pre) (out:=(Y2 q (LH o (pre.length:Int)) q.2.1.length).map λi=>chB ((T[i]?).getD (0,[])) (fW ((q.2.1[i]?).getD ([],[])) o pre pre.length)) (λi=>((Y2 q (LH o (pre.length:Int)) i).map λi=>chB ((T[i]?).getD (0,[])) (fW ((q.2.1[i]?).getD ([],[])) o pre pre.length),(i:Int))) q.2.1.length (λi hi a=>by
  have e:=cH q (LH o (pre.length:Int)) i;have b:=(h.sm.2.1 _<|Ad hi).2;have c:i < T.length:=by rw[h.len];exact hi
  have l:=rI h hi (k:=pre.length) (by omega);have f:∀y,Kj a (i:Int) y=a (y,((i+1:Nat):Int)):=λy=>by unfold Kj;rw[Bm hi (Ba h.sm.1)]
  unfold It;simp only;rw[Bi hi,AI hi,AI d,Abj,BV hi,Bd,Hi d];simp only[Ac,G];rw[mm b];simp only;cases p:q.2.1[i].2.contains o[pre.length]with
  |false=>simp only[CF,Ac,Ab,CZ,AR];exact f _
  |true=>simp only[An,Ab,Ac];rw[AkJ b (by omega) (by omega)];simp only;rw[AI c];simp only;rw[Akz (by rw[fh _ _ _ _ (by omega)];exact l)];simp only;rw[A1 (by rw[Aj];simp only[Al];unfold lim;rw[Hi d]at e;omega),f,AM,CZ,Ae c,Ae hi];rfl) (λrec=>by unfold It;simp only;rw[Bc];rfl) fz (DN h.sm.1)
 have m:Ap (It q T o pre) fz (([]:List zI),0)=some ((Y2 q (LH o (pre.length:Int)) q.2.1.length).map λi=>chB ((T[i]?).getD (0,[]))<|fW ((q.2.1[i]?).getD ([],[])) o pre pre.length):=this;rw[m];rfl
def Ts(T:List YA)(q:Jz)(o:zI):Nat->List zI
 |0=>[[]]
 |k+1=>(Ts T q o k).flatMap λp=>(ky T q o p).1.map λv=>p++[v]
def stK(T:List YA)(q:Jz)(o:zI):Nat->Int
 |0=>0
 |k+1=>(Ts T q o k).foldl (λn p=>wZ<|n+(ky T q o p).2)<|stK T q o k
def j9:∀(k:Nat) (p:zI),p∈Ts T q o k->p.length=k
 |0,p,h=>by rw[Ts,AC]at h;subst h;rfl
 |k+1,p,h=>by rw[Ts]at h;have⟨b,a,c⟩:=BU.1 h;obtain⟨v,_,rfl⟩:=A5.1 c;rw[Au,j9 k b a,Al]
def dP{α β:Type}{f:α->List β}{B:Nat}:∀(l:List α),(∀x∈l,(f x).length<=B)->(l.flatMap f).length<=l.length * B
 |[],_=>by simp
 |x::l,h=>by
  have b:=h x (by simp);have c:=dP l λy a=>h y (by simp[a])
  rw[Ax,Au,AD,DY,FD];omega
def vS(h:TriesOk T q o)(a:∀t∈T,t.2.length<=16):∀k,k<=o.length->(Ts T q o k).length<=16 ^ k
 |0,_=>by rw[Ts];simp
 |k+1,d=>by have b:=vS h a k (by omega);rw[Ts,Nx];refine BC (dP _ λp c=>?_)<|Cy 16 b;rw[Aj];exact(aF h a<|by rw[j9 k p c];omega).1
def Ajt{k}(h:k<=5):16 ^ k<=1048576:=Jg (show 0 < 16 by decide) h
def yK(h:TriesOk T q o)(a:∀t∈T,t.2.length<=16){n:Nat}(C:n<=o.length):Gb q T o (n:Int)=some (Ts T q o n,stK T q o n,decide (((Ts T q o n).length:Int)<=4000)):=by
 have D:=M8 h.ov;have w:=Sg h.qv;unfold Gb
 have:=CD (body:=Ek q T o (n:Int)) (out:=(Ts T q o n,stK T q o n)) (λk=>(Ts T q o k,stK T q o k,(k:Int))) n (λk s b=>by
  have x:=vS h a k (by omega);have u:=Ajt (show k<=5 by omega)
  have m:=CD (body:=El q T o (Ts T q o k)) (out:=(stK T q o (k+1),Ts T q o (k+1))) (λj=>(((Ts T q o k).take j).foldl (λn p=>wZ (n+(ky T q o p).2)) (stK T q o k),((Ts T q o k).take j).flatMap (λp=>(ky T q o p).1.map λv=>p++[v]),(j:Int))) (Ts T q o k).length (λj c b=>by
   have y:(Ts T q o k)[j].length=k:=j9 k _<|Ad c;have⟨F,H,I⟩:=aF h a (pre:=(Ts T q o k)[j]) (by omega);have d:(((Ts T q o k).take j).flatMap<|λp=>(ky T q o p).1.map λv=>p++[v]).length<=16777216:=by have:=dP (f:=λp=>(ky T q o p).1.map λv=>p++[v]) (B:=16) ((Ts T q o k).take j) (λp z=>by rw[Aj];exact(aF h a (by rw[j9 k p (CB z)];omega)).1);rw[At]at this;omega
   generalize e:((Ts T q o k).take j).flatMap (λp=>(ky T q o p).1.map λv=>p++[v])=acc at d;have g:=CD (body:=Em (Ts T q o k)[j] (ky T q o (Ts T q o k)[j])) (out:=acc++(ky T q o (Ts T q o k)[j]).1.map λv=>(Ts T q o k)[j]++[v]) (λi=>(acc++((ky T q o (Ts T q o k)[j]).1.take i).map (λv=>(Ts T q o k)[j]++[v]),(i:Int))) (ky T q o (Ts T q o k)[j]).1.length (λi hi b=>by unfold Em;simp only;rw[Bi hi,AI hi];simp only[Ac,G];rw[qr (by unfold lim;omega)];simp only;rw[A1 (by simp only[Al];unfold lim;omega),A1 (by simp only[Au,Aj,At,Al];unfold lim;omega),Bm hi (by unfold maxLen;omega),A6 hi,Bd,Bk];rfl) (λrec=>by unfold Em;simp only;rw[Bc,AT];rfl) fz (by unfold fz;omega);unfold El;simp only;rw[Bi c,AI c];simp only[Ac,G];rw[Ac6 h (by omega)];simp only;rw[AkG (qH h<|by omega).1];simp only;rw[show lfB (j2 T q o (Ts T q o k)[j])=ky T q o (Ts T q o k)[j]from rfl];rw[List.take_zero,CZ,AR]at g;have r:Ap (Em (Ts T q o k)[j]<|ky T q o (Ts T q o k)[j]) fz (acc,0)=some (acc++(ky T q o (Ts T q o k)[j]).1.map λv=>(Ts T q o k)[j]++[v]):=g;rw[r];simp only;rw[A6 c,Dy,CK,e,Ax,Fv,AR,Bm c (by unfold maxLen;omega)];rfl) (λrec=>by unfold El;simp only;rw[Bc,AT];rfl) fz (by unfold fz;omega)
  have l:Ap (El q T o<|Ts T q o k) fz (stK T q o k,([]:List zI),0)=some (stK T q o<|k+1,Ts T q o<|k+1):=m;unfold Ek;simp only;rw[Bi s,l,Bm s (by unfold maxLen;omega)];rfl) (λrec=>by unfold Ek;simp only;rw[Bc];rfl) fz (by unfold fz;omega)
 have A:Ap (Ek q T o (n:Int)) fz (([[]]:List zI),0,0)=some (Ts T q o n,stK T q o n):=this;rw[A];rfl
def l7{α:Type}:∀l:List α,(l.flatMap λp=>[p])=l
 |[]=>rfl
 |x::l=>by rw[Ax,l7 l];rfl
def Abx:∀(k r:Nat),(Ts T q o k).flatMap (λp=>(wk T q o r p).1)=(wk T q o (k+r) []).1
 |0,r=>by rw[Ts,Ax,Fv,AR,CH]
 |k+1,r=>by rw[Ts,List.flatMap_assoc,show k+1+r=k+(r+1)by omega,<-Abx k (r+1)];congr 1;funext p;rw[List.flatMap_map];rfl
def tk(T:List YA)(q:Jz)(o:zI):Nat->zI->Int
 |0,_=>0
 |r+1,pre=>(ky T q o pre).2+N7 (λv=>tk T q o r<|pre++[v]) (ky T q o pre).1
def AhW(h:TriesOk T q o){pre:zI}(a:pre.length < o.length):wZ (ky T q o pre).2=(ky T q o pre).2:=by have:=qJ (qH h a).1;have b:=this.2.2.2;exact wrap_in (by unfold ky;omega)
def AbX(h:TriesOk T q o):∀(r:Nat) (pre:zI),pre.length+r=o.length->(wk T q o r pre).2=wZ (tk T q o r pre)
 |0,pre,b=>rfl
 |r+1,pre,b=>by
  have a:∀v:Int,(pre++[v]).length+r=o.length:=λv=>by rw[Au,Al];omega
  have c:=λv=>AbX h r (pre++[v])<|a v
  rw[wk,tk];simp only;rw[<-ah (λv=>(wk T q o r<|pre++[v]).2) (λv=>tk T q o r<|pre++[v]) (λn v=>by rw[c v,Int.add_comm,wrap_add,Int.add_comm]),AhW h (by omega)]
def sK(T:List YA)(q:Jz)(o:zI):Nat->Int
 |0=>0
 |k+1=>sK T q o k+N7 (λp=>(ky T q o p).2) (Ts T q o k)
def AjS:∀k,stK T q o k=wZ (sK T q o k)
 |0=>rfl
 |k+1=>by rw[stK,AjS k,sK,ah _ (λp=>(ky T q o p).2) (λn v=>rfl)]
def AjM:∀(k r:Nat),sK T q o k+N7 (λp=>tk T q o r p) (Ts T q o k)=tk T q o (k+r) []
 |0,r=>by rw[sK,Ts,N7,N7,CH];omega
 |k+1,r=>by
  rw[show k+1+r=k+(r+1)by omega,<-AjM k (r+1),sK,Ts,i6];have e:(λp=>tk T q o (r+1) p)=λp=>(ky T q o p).2+N7 (λv=>tk T q o r<|p++[v]) (ky T q o p).1:=by funext p;rw[tk]
  have a:(λp=>N7 (λp=>tk T q o r p)<|(ky T q o p).1.map λv=>p++[v])=λp=>N7 (λv=>tk T q o r<|p++[v]) (ky T q o p).1:=by funext p;rw[nB]
  rw[e,nz,a];omega
def Afc:Ts T q o o.length=(wk T q o o.length []).1:=by have:=Abx (T:=T) (q:=q) (o:=o) o.length 0;rw[CG]at this;rw[<-this];exact(l7 _).symm
def Af6(h:TriesOk T q o):stK T q o o.length=(wk T q o o.length []).2:=by
 have:=AjM (T:=T) (q:=q) (o:=o) o.length 0;rw[CG]at this;rw[AjS,AbX h o.length [] (by simp),<-this];have e:(λp=>tk T q o 0 p)=λ_=>(0:Int):=by funext p;rw[tk]
 rw[e,i7,Int.add_zero]
def pU:∀(p a b:zI),Eh (p++a) (p++b)=Eh a b
 |[],a,b=>rfl
 |x::p,a,b=>by rw[BY,BY,Eh,Ay (by omega),Ay (by omega)];exact pU p a b
def xI(h:TriesOk T q o)(b:∀t∈T,t.2.length<=16):∀(r:Nat) (pre:zI),pre.length+r=o.length->WW (wk T q o r pre).1
 |0,pre,i=>by rw[wk];exact D2 _ _
 |r+1,pre,i=>by
  have a:∀v:Int,(pre++[v]).length+r=o.length:=λv=>by rw[Au,Al];omega
  have j:=λv=>xI h b r (pre++[v])<|a v
  have⟨p,k,s⟩:=aF h b (pre:=pre) (by omega);rw[wk];unfold WW;simp only;rw[Ix];refine⟨λv _=>j v,k.imp λ{v c} l x m y n=>?_⟩;have d:=((Yz h b r (pre++[v])<|a v).2 x m).2.1;have e:=((Yz h b r (pre++[c])<|a c).2 y n).2.1;have f:=Bv (pre++[v]).length x;have g:=Bv (pre++[c]).length y;rw[d]at f;rw[e]at g;rw[<-f,<-g,Bk,Bk,pU];show Eh (v::_) (c::_) < 0;rw[Eh,Aw l];omega
def xY{x}(h:∀e∈x,0<=e∧e<=99):Py x=true:=by
 unfold Py
 rw[di λi hi=>by
  have:=h _<|Ad hi
  first
   |(rw[BV hi];unfold Hv;simp;omega)
   |(unfold Hv;simp;omega)]
 rfl
def Ajm(h:TriesOk T q o)(c:∀t∈T,t.2.length<=16):nrB (o.length:Int) (wk T q o o.length []).1=cond (decide (((wk T q o o.length []).1.length:Int)<=4000)) (((o.length:Int),(wk T q o o.length []).1),true) ((0,[]),false):=by
 have l:=M8 h.ov;have j:=Sg h.qv;have⟨m,f⟩:=Yz h c o.length [] (by simp);have g:=xI h c o.length [] (by simp);have a:∀x∈(wk T q o o.length []).1,x.length=o.length∧Py x=true:=λx d=>⟨(f x d).1,xY<|(f x d).2.2 λe k=>by cases k⟩
 have b:sortB (wk T q o o.length []).1=(wk T q o o.length []).1:=(Zz g λz=>CY).symm;unfold nrB
 rw[b,di λi hi=>by
  have:=a _<|Ad hi
  first
   |(unfold S7;rw[this.1,this.2];simp)
   |(rw[BV hi];unfold S7;rw[this.1,this.2];simp)]
 rw[Ab]
 have e:Mr ((o.length:Int),(wk T q o o.length []).1)=decide (((wk T q o o.length []).1.length:Int)<=4000):=by
  rw[BX,kI,Bf];constructor
  ·rintro⟨_,i,_⟩;simp only at i;omega
  ·intro i;exact⟨⟨by simp only;omega,by simp only;omega⟩,by simp only;omega,λx d=>⟨by rw[(a x d).1],(a x d).2⟩,g⟩
 rw[e];cases decide (((wk T q o o.length []).1.length:Int)<=4000)<;>rfl
end
def AkD{T}(b:T.length<=lim):PW T=some (emB T):=by
 unfold PW emB;have:=Ux (B:=M1 T) (n:=T.length) (λk=>Hg T k λt=>(t.2.length:Int)==0) true b (λk a c=>by unfold M1;rw[Bi a,AI a,Bm a (Ba b),BV a];rfl) (λrec=>by unfold M1;rw[Bc];rfl);rw[this];have e:(List.range T.length).any (λk=>Hg T k λt=>(t.2.length:Int)==0)=Bt T λ_ t=>(t.2.length:Int)==0:=rfl
 rw[e];cases Bt T λ_ t=>(t.2.length:Int)==0<;>rfl
section
variable {d:List QE}{q:Jz}{o:zI}
def AkH(h:Ql d)(c:Th q)(g:o.length<=lim):MX d q o=some (ljB d q o):=by
 unfold MX ljB;rw[yM h c g];unfold bf;cases e:E3 d q with
 |false=>rfl
 |true=>
  cases a:TB q o with
  |false=>rfl
  |true=>
   simp only[Eu,Ac,G,An,Ab];have b:=fP (d:=d) c e a;have f:=M8 a;rw[show q.2.1.map (bH d o)=trs d q o from rfl]at b⊢;rw[AkD (by rw[b.len];exact c.1)];simp only;rw[<-f.1];cases emB (trs d q o)with
   |true=>rfl
   |false=>simp only[Ab];rw[yK b (kZ e a) (AJ _)];simp only;rw[Afc,Af6 b,Ajm b (kZ e a)];cases decide (((wk (trs d q o) q o o.length []).1.length:Int)<=4000)<;>rfl
end
section
variable {d:List QE}{q:Jz}
def UC{x}(h:Z3 q x=true):JZ q=true∧x.2.length=x.1.length∧UT x.2=true∧∀b∈x.1,Tw q.1 b=true:=by unfold Z3 at h;rw[Aa,Aa,Aa,Aa,AH]at h;obtain⟨a,c,e,f,-⟩:=h;refine⟨a,Xe c,by rw[VE];exact e,λb g=>?_⟩;have:=O4 f g;simpa using this
def UJ{p}(h:jtB q p=true):JZ q=true∧p.length=q.2.1.length∧UT p=true:=by unfold jtB at h;rw[Aa,Aa,Aa]at h;obtain⟨a,b,c,-⟩:=h;exact⟨a,Xe b,by rw[VE];exact c⟩
def bsV(d:List QE)(q:Jz)(b:zI):KW:=(cr d q b).getD ([],0,[])
def dp(d:List QE)(q:Jz)(l:List zI):Bool:=l.all λb=>(cr d q b).isSome
def bsB(d:List QE)(q:Jz)(x:List zI×zI):List KW×Bool:=cond (Z3 q x&&(E3 d q&&dp d q x.1)) (x.1.map<|bsV d q,true) ([],false)
def ua{l:List zI}{k:Nat}(h:k < l.length):(l.take<|k+1).map (bsV d q)=(l.take k).map (bsV d q)++[bsV d q l[k]]:=by rw[Tp h,Bd];rfl
def t9(b:zI):brB d q b=(bsV d q b,(cr d q b).isSome):=by unfold brB bsV;cases cr d q b<;>rfl
def Aa0{l k}(h:k < l.length)(a:(cr d q l[k]).isSome=false):dp d q l=false:=by unfold dp;rw[List.all_eq_false];exact⟨_,Ad h,by rw[a];simp⟩
def ub{l}(h:∀i (hi:i < l.length),(cr d q l[i]).isSome=true):dp d q l=true:=by unfold dp;rw[Am];intro b a;obtain⟨i,hi,rfl⟩:=AY.1 a;exact h i hi
def Ak8(h:Ql d)(m:Th q)(n:E3 d q=true){x:List zI×zI}(g:Zu x):M9 d q x=some (bsB d q x):=by
 unfold M9 bsB;rw[AbM m g,AV,n,AL];cases t:Z3 q x with
 |false=>rfl
 |true=>
  obtain⟨-,-,-,u⟩:=UC t;have v:=g.1
  obtain⟨o,e,w⟩:=GV (B:=Ib d q x) (λst=>∃k:Nat,st=((x.1.take k).map (bsV d q),(k:Int))∧k<=x.1.length∧∀i (hi:i < x.1.length),i < k->(cr d q x.1[i]).isSome=true) (λst=>x.1.length - st.2.toNat) (λo=>(o=.inr (([]:List KW),false)∧dp d q x.1=false)∨(o=.inl (x.1.map (bsV d q))∧dp d q x.1=true)) (λst j=>by
   obtain⟨k,rfl,p,r⟩:=j;by_cases a:k < x.1.length
   ·have s:=Ad a
    have b:∀c,Ib d q x c ((x.1.take k).map<|bsV d q,(k:Int))=cond (!(cr d q x.1[k]).isSome) (some<|.inr ([],false)) (c ((x.1.take<|k+1).map<|bsV d q,((k+1:Nat):Int))):=λrec=>by
     unfold Ib;simp only;rw[Bi a,Ac,AI a,AV,Ak7 h m n (u _ s) (by have:=g.2.1 _ s;omega),AV,t9,Bm a (Ba<|by omega),ua a];cases(cr d q x.1[k]).isSome with
     |false=>rfl
     |true=>simp only[An,Ab];rw[A1 (by simp only[Aj,At,Al];omega)]
    cases f:(cr d q x.1[k]).isSome with
    |false=>exact .inl ⟨_,.inl ⟨rfl,Aa0 a f⟩,λrec=>by rw[b,f];rfl⟩
    |true=>
     right;refine⟨_,⟨k+1,rfl,a,λi hi y=>?_⟩,by simp only[Aq];omega,λrec=>by rw[b,f];rfl⟩;by_cases e:i=k
     ·subst e;exact f
     ·exact r i hi (by omega)
   ·left;have p:k=x.1.length:=by omega
    subst p;refine⟨_,.inr ⟨rfl,ub λi hi=>r i hi hi⟩,λrec=>?_⟩;unfold Ib;simp only;rw[Bc,Ab,AT]) fz (([]:List KW),0) ⟨0,by simp,Cd _,λi _ hi=>by omega⟩ (by unfold fz;unfold lim at v;simp only;omega)
  rw[An,Ab,e,AV,AL];rcases w with⟨rfl,l⟩|⟨rfl,l⟩
  ·rw[l];rfl
  ·rw[l];rfl
def Akx(h:Ql d)(t:Th q){x:List zI×zI}(j:Zu x):MU d q x=some (bsB d q x):=by
 unfold MU bsB;rw[AhE t j,AV];cases z:Z3 q x with
 |false=>rfl
 |true=>
  obtain⟨A,u,l,C⟩:=UC z;have D:=j.1;have c:0 < x.1.length:=by obtain⟨r,-,F⟩:=WQ l;have:=F.rn;omega
  obtain⟨o,e,H⟩:=GV (B:=HW d q x) (λst=>∃k:Nat,st=((x.1.take k).map (bsV d q),(k:Int))∧k<=x.1.length∧(0 < k->E3 d q=true)∧∀i (hi:i < x.1.length),i < k->(cr d q x.1[i]).isSome=true) (λst=>x.1.length - st.2.toNat) (λo=>(o=.inr (([]:List KW),false)∧(E3 d q&&dp d q x.1)=false)∨(o=.inl (x.1.map (bsV d q))∧(E3 d q&&dp d q x.1)=true)) (λst m=>by
   obtain⟨k,rfl,v,n,w⟩:=m;by_cases a:k < x.1.length
   ·have y:=Ad a
    have b:∀f,HW d q x f ((x.1.take k).map<|bsV d q,(k:Int))=cond (!(E3 d q&&(cr d q x.1[k]).isSome)) (some<|.inr ([],false)) (f ((x.1.take<|k+1).map<|bsV d q,((k+1:Nat):Int))):=λrec=>by
     unfold HW;simp only;rw[Bi a,Ac,AI a,AV,Akw h t A (C _ y) (by have:=j.2.1 _ y;omega),AV,t9,Bm a (Ba<|by omega),ua a];cases E3 d q with
     |false=>rfl
     |true=>
      cases(cr d q x.1[k]).isSome with
      |false=>rfl
      |true=>simp only[Ac,An,Ab,DG];rw[A1 (by simp only[Aj,At,Al];omega)]
    cases p:E3 d q with
    |false=>exact .inl ⟨_,.inl ⟨rfl,rfl⟩,λrec=>by rw[b,p];rfl⟩
    |true=>
     cases g:(cr d q x.1[k]).isSome with
     |false=>exact .inl ⟨_,.inl ⟨rfl,by rw[Aa0 a g];rfl⟩,λrec=>by rw[b,p,g];rfl⟩
     |true=>
      right;refine⟨_,⟨k+1,rfl,a,λ_=>rfl,λi hi I=>?_⟩,by simp only[Aq];omega,λrec=>by rw[b,p,g];rfl⟩;by_cases e:i=k
      ·subst e;exact g
      ·exact w i hi (by omega)
   ·left;have v:k=x.1.length:=by omega
    subst v;refine⟨_,.inr ⟨rfl,by rw[n c,ub λi hi=>w i hi hi];rfl⟩,λrec=>?_⟩;unfold HW;simp only;rw[Bc,Ab,AT]) fz (([]:List KW),0) ⟨0,by simp,Cd _,λh=>by omega,λi _ hi=>by omega⟩ (by unfold fz;unfold lim at D;simp only;omega)
  rw[An,Ab,e,AV,AL];rcases H with⟨rfl,s⟩|⟨rfl,s⟩
  ·rw[s];rfl
  ·rw[s];rfl
def edT(d:List QE)(q:Jz)(x:List zI×zI):Nat->KW:=λi=>(x.1.map<|bsV d q).getD i ([],0,[])
def AcH(q:Jz)(o:Option KW):Rln×Bool:=match o with
 |some v=>pjG v.2 q.2.2
 |none=>((0,[]),false)
def edB(d:List QE)(q:Jz)(x:List zI×zI):Rln×Bool:=cond (bsB d q x).2 (AcH q<|ZP x.2 (bB x.2<|edT d q x) (LA x.2).toNat) ((0,[]),false)
def uE{x}(h:(bsB d q x).2=true):E3 d q=true∧Z3 q x=true∧(bsB d q x).1=Fc x.2.length (edT d q x)∧∀i,i < x.2.length->Tq (edT d q x i)=true:=by
 unfold bsB at h⊢;cases c:Z3 q x&&(E3 d q&&dp d q x.1)with
 |false=>rw[c]at h;cases h
 |true=>
  rw[Aa,Aa]at c;have⟨f,c2,g⟩:=c;obtain⟨-,a,-,-⟩:=UC f;refine⟨c2,f,?_,λi hi=>?_⟩
  ·rw[Ac];show x.1.map (bsV d q)=_;rw[xr (x.1.map<|bsV d q),Aj,a];rfl
  ·unfold edT;have b:i < x.1.length:=by omega
   rw[AO,Ae (by rw[Aj];exact b),B8,BL];unfold dp at g;have:=Am.1 g _<|Ad b;unfold bsV;cases e:cr d q x.1[i]with
   |none=>rw[e]at this;cases this
   |some v=>rw[<-ju]at e;exact pN c2 _ v (AJ _) e
def Ala(h:Ql d)(j:Th q)(n:E3 d q=true){x:List zI×zI}(k:Zu x):Ge d q x=some (edB d q x):=by
 unfold Ge edB;rw[Ak8 h j n k,AV];cases s:(bsB d q x).2 with
 |false=>rfl
 |true=>
  obtain⟨-,t,u,l⟩:=uE s;obtain⟨-,-,g,-⟩:=UC t;have⟨r,v,a⟩:=WQ g;have⟨w,p⟩:=x;have c:p.length<=lim:=B4 k.2.2;have b:∀i,i < p.length->Tq (bB p (edT d q (w,p)) i)=true:=λi hi=>VI a l _ i hi
  have⟨o,e,y⟩:=AbN c a b;rw[An,Ab];simp only;rw[WE c,AV,v,AfS c a,AV,u,AjB c a l,AV,uC,e,AV,Ac,Aq];rcases y with⟨rfl,z⟩|⟨f,rfl,m⟩
  ·rw[z];rfl
  ·have A:=YC a b _ r _ a.rn m;simp only;rw[AV,HR a.rn,AV,w5 (QP A).2.1 j.2.2,AV,m];rfl
def AkA(h:Ql d)(l:Th q){x:List zI×zI}(m:Zu x):F6 d q x=some (edB d q x):=by
 unfold F6 edB;rw[Akx h l m,AV];cases t:(bsB d q x).2 with
 |false=>rfl
 |true=>
  obtain⟨-,u,v,n⟩:=uE t;obtain⟨-,-,j,-⟩:=UC u;have⟨r,k,a⟩:=WQ j;have⟨w,p⟩:=x;have g:p.length<=lim:=B4 m.2.2;have c:∀i,i < p.length->Tq (bB p (edT d q (w,p)) i)=true:=λi hi=>VI a n _ i hi
  have⟨O,b,y⟩:=vg g a k;have⟨o,e,z⟩:=Aba g a c b;rw[An,Ab];simp only;rw[y,AV,v,AhF g a n b,AV,uD,e,AV,Ac,k,Aq];rcases z with⟨rfl,A⟩|⟨f,rfl,s⟩
  ·rw[A];rfl
  ·have B:=YC a c _ r _ a.rn s;simp only;rw[oJ g,AV,k,HR a.rn,AV,yJ (QP B).2.1 l.2.2,AV,s];rfl
def atT(d:List QE)(q:Jz):Nat->KW:=λi=>(q.2.1.map<|atV d).getD i ([],0,[])
def frT(d:List QE)(q:Jz)(p:zI):Nat->KW:=ttS p<|bB p<|atT d q
def frB(d:List QE)(q:Jz)(p:zI):List KW×Bool:=cond (E3 d q&&jtB q p) (Fc p.length<|frT d q p,true) ([],false)
def ejB(d:List QE)(q:Jz)(p:zI):Rln×Bool:=cond (E3 d q&&jtB q p) (AcH q<|ZP p (frT d q p) (LA p).toNat) ((0,[]),false)
def nX{p}(c:E3 d q=true)(e:jtB q p=true):q.2.1.map (atV d)=Fc p.length (atT d q)∧∀i,i < p.length->Tq (atT d q i)=true:=by
 obtain⟨-,a,-⟩:=UJ e;obtain⟨-,g2,-⟩:=Re c;refine⟨by rw[xr (q.2.1.map<|atV d),Aj,a];rfl,λi hi=>?_⟩;unfold atT;have b:i < q.2.1.length:=by omega
 rw[AO,Ae (by rw[Aj];exact b),B8,BL];have⟨f,g⟩:=g2 _<|Ad b;exact tQ f g
def Ale(h:Ql d)(c:Th q){p:zI}(k:p.length < lim):Mg d q p=some (frB d q p):=by
 unfold Mg frB;rw[kL h c,AV,AjG c k];cases l:E3 d q with
 |false=>rfl
 |true=>
  rw[An,Ab,AV,AL];cases m:jtB q p with
  |false=>rfl
  |true=>
   obtain⟨-,n,g⟩:=UJ m;obtain⟨-,g2,-⟩:=Re l;have⟨s,o⟩:=nX l m;have⟨r,t,e⟩:=WQ g;have b:p.length<=lim:=B4 k;have j:∀i,i < p.length->Tq (bB p (atT d q) i)=true:=λi hi=>VI e o _ i hi
   rw[An,Ab,H5 (a:=q.2.1) (h:=atV d) (B:=JT d q) c.1 (λk f u=>by have⟨v,w⟩:=g2 _<|Ad f;unfold JT;simp only;rw[Bi f,Ac,AI f,AV,AbJ h v w,AV,A1 (by simp only[Aj,At,Al];omega),Bm f (Ba c.1)]) (λrec y=>by unfold JT;simp only;rw[Bc];rfl),AV,WE b,AV,t,AfS b e,AV,s,AjD b e o,AV,AjE b e j,AV];rfl
def AkE(h:Ql d)(e:Th q){p:zI}(l:p.length < lim):LY d q p=some (frB d q p):=by
 unfold LY frB Ui NW;rw[oF h e,AV,AkF e l];cases m:E3 d q with
 |false=>rfl
 |true=>
  rw[Ac,AV,AV,AL];cases n:jtB q p with
  |false=>rfl
  |true=>
   obtain⟨-,o,j⟩:=UJ n;obtain⟨-,g2,-⟩:=Re m;have⟨t,s⟩:=nX m n;have⟨r,u,f⟩:=WQ j;have c:p.length<=lim:=B4 l;have k:∀i,i < p.length->Tq (bB p (atT d q) i)=true:=λi hi=>VI f s _ i hi
   have⟨O,b,v⟩:=vg c f u;rw[An,Ab,H5 (a:=q.2.1) (h:=atV d) (B:=JM d q) e.1 (λk g w=>by have⟨x,z⟩:=g2 _<|Ad g;unfold JM;simp only;rw[Bi g,Ac,AI g,AV,Aa6 h x z,AV,A1 (by simp only[Aj,At,Al];omega),Bm g (Ba e.1)]) (λrec y=>by unfold JM;simp only;rw[Bc];rfl),AV,v,AV,t,AhI c f s b,AV,AhJ c f k b,AV];rfl
def Aa3{p}(f:E3 d q=true)(b:jtB q p=true):∀i,i < p.length->Tq (frT d q p i)=true:=λi hi=>by obtain⟨-,c,a⟩:=UJ b;have⟨h,g⟩:=nX f b;have⟨r,j,e⟩:=WQ a;exact pB e (λi hi=>VI e g _ i hi) _ i hi
def Alb(h:Ql d)(i:Th q){p:zI}(j:p.length < lim):Iz d q p=some (ejB d q p):=by
 unfold Iz ejB;rw[Ale h i j,AV];unfold frB;cases c:E3 d q&&jtB q p with
 |false=>rfl
 |true=>
  rw[Aa]at c;obtain⟨-,-,g⟩:=UJ c.2;have⟨r,m,b⟩:=WQ g;have a:p.length<=lim:=B4 j;have k:=Aa3 c.1 c.2;have⟨o,e,n⟩:=AbN a b k;simp only[Ac,An,Ab];rw[WE a,AV,m,AfS a b,AV,e,AV,Aq];rcases n with⟨rfl,s⟩|⟨f,rfl,l⟩
  ·rw[s];rfl
  ·have t:=YC b k _ r _ b.rn l;simp only;rw[AV,HR b.rn,AV,w5 (QP t).2.1 i.2.2,AV,l];rfl
def AkB(h:Ql d)(k:Th q){p:zI}(l:p.length < lim):Im d q p=some (ejB d q p):=by
 unfold Im ejB;rw[AkE h k l,AV];unfold frB;cases g:E3 d q&&jtB q p with
 |false=>rfl
 |true=>
  rw[Aa]at g;obtain⟨-,-,i⟩:=UJ g.2;have⟨r,j,c⟩:=WQ i;have a:p.length<=lim:=B4 l;have m:=Aa3 g.1 g.2;have⟨O,b,s⟩:=vg a c j;have⟨o,e,t⟩:=Aba a c m b;simp only[Ac,An,Ab];rw[s,AV,e,AV,j,Aq];rcases t with⟨rfl,u⟩|⟨f,rfl,n⟩
  ·rw[u];rfl
  ·have v:=YC c m _ r _ c.rn n;simp only;rw[oJ a,AV,j,HR c.rn,AV,yJ (QP v).2.1 k.2.2,AV,n];rfl
def elB(d:List QE)(q:Jz)(o:zI):Rln×Bool:=cond (ljB d q o).2.2 (pjG (ljB d q o).1<|q.2.2.map<|CN o) ((0,[]),false)
def Alc(h:Ql d)(b:Th q){o:zI}(e:o.length<=lim):IA d q o=some (elB d q o):=by
 unfold IA elB;rw[Alh h b e,AV];cases(ljB d q o).2.2 with
 |false=>rfl
 |true=>rw[An,Ab,H5 (a:=q.2.2) (h:=CN o) (B:=G3 q o) b.2.2 (λk c f=>by unfold G3;simp only;rw[Bi c,Ac,AI c,AV,Ot e,AV,A1 (by have:=b.2.2;simp only[Aj,At,Al];omega),Bm c (Ba b.2.2)]) (λrec y=>by unfold G3;simp only;rw[Bc];rfl),AV,w5 (Abs b) (by rw[Aj];exact b.2.2),AV];rfl
def AkC(h:Ql d)(b:Th q){o:zI}(e:o.length<=lim):In d q o=some (elB d q o):=by
 unfold In elB;rw[AkH h b e,AV];cases(ljB d q o).2.2 with
 |false=>rfl
 |true=>unfold Wr;rw[An,Ab,H5 (a:=q.2.2) (h:=CN o) (B:=PT q o) b.2.2 (λk c f=>by unfold PT;simp only;rw[Bi c,Ac,AI c,AV,Q0 e,AV,A1 (by have:=b.2.2;simp only[Aj,At,Al];omega),Bm c (Ba b.2.2)]) (λrec y=>by unfold PT;simp only;rw[Bc];rfl),AV,AV,yJ (Abs b) (by rw[Aj];exact b.2.2),AV];rfl
def Ae8{o}(h:(ljB d q o).2.2=true):E3 d q=true∧TB q o=true:=by
 unfold ljB at h;cases a:E3 d q&&TB q o with
 |false=>rw[a]at h;cases h
 |true=>rw[Aa]at a;exact a
def rpB(d:List QE)(q:Jz)(p:Pln):Rln×Bool:=cond (s8 q p&&E3 d q) (cond (p.1==1) (ejB d q p.2.2.1)<|cond (p.1==2) (edB d q p.2.2.2)<|elB d q p.2.1) ((0,[]),false)
def Alj(h:Ql d)(a:Th q){p:Pln}(b:ry p):Qr d q p=some (rpB d q p):=by
 unfold Qr Mv rpB;rw[AjJ a b,AV];cases e:s8 q p with
 |false=>rfl
 |true=>
  rw[An,Ab,kL h a,AV];cases c:E3 d q with
  |false=>rfl
  |true=>
   rw[An,Ab,AL,Ac,Alb h a b.2.1,AV,Ala h a c b.2.2,AV,Alc h a b.1,AV];cases p.1==1 with
   |true=>rfl
   |false=>cases p.1==2<;>rfl
def AkK(h:Ql d)(b:Th q){p:Pln}(c:ry p):NQ d q p=some (rpB d q p):=by
 unfold NQ rpB s8;rw[AkB h b c.2.1,AV,AkA h b c.2.2,AV,AkC h b c.1,AV];cases p.1==1 with
 |true=>
  simp only[Ac];cases a:jtB q p.2.2.1&&E3 d q with
  |true=>rfl
  |false=>unfold ejB;rw[Bool.and_comm]at a;rw[a];rfl
 |false=>
  simp only[Ab];cases p.1==2 with
  |true=>
   simp only[Ac];cases a:Z3 q p.2.2.2&&E3 d q with
   |true=>rfl
   |false=>
    have:(bsB d q p.2.2.2).2=false:=by unfold bsB;rw[<-Bool.and_assoc,a,Hx];rfl
    unfold edB;rw[this];rfl
  |false=>
   simp only[Ab];cases p.1==3 with
   |false=>rfl
   |true=>
    simp only[Ac];cases a:TB q p.2.1&&E3 d q with
    |true=>rfl
    |false=>
     have:(ljB d q p.2.1).2.2=false:=by
      cases e:(ljB d q p.2.1).2.2 with
      |false=>rfl
      |true=>have⟨f,g⟩:=Ae8 e;rw[f,g]at a;cases a
     unfold elB;rw[this];rfl
end
def kR{n}(h:n<=1048576):n < lim:=by unfold lim;omega
def AbT{q}(h:WG q):Th q:=⟨Jj h.1.1,λa b=>⟨Jj (h.1.2 a b).1,Jj (h.1.2 a b).2⟩,Jj h.2⟩
def rA{p}(h:Zx p):ry p:=⟨Jj h.1,kR h.2.1,kR h.2.2.1.1,λb a=>kR<|h.2.2.1.2 b a,kR h.2.2.2⟩
def xh{d}(h:RQ d):Ql d:=⟨Jj h.1,λt a=>⟨Jj (h.2 t a).1,Jj (h.2 t a).2.1,λr b=>Jj<|(h.2 t a).2.2 r b⟩⟩
def bF:H9 (0,[]):=⟨by simp,λx a=>by cases a⟩
def xi(r:Rln)(c:zI):H9 (pjG r c).1:=by
 unfold pjG;cases a:Mr r&&(decide ((c.length:Int)<=5)&& !Bt c λ_ e=>Pi r.1 e)with
 |false=>exact bF
 |true=>
  rw[Aa,Aa,Bf]at a;have f:=Qi a.1;rw[Ac];unfold nrB;cases Bt (r.2.map λx=>FP x c) λ_ x=>S7 (c.length:Int) x with
  |true=>exact bF
  |false=>
   rw[Ab];cases Mr ((c.length:Int),sortB<|r.2.map λx=>FP x c)with
   |false=>exact bF
   |true=>
    have b:=ND<|r.2.map λx=>FP x c
    rw[Aj]at b;refine⟨by show(sortB<|r.2.map λx=>FP x c).length<=1048576;omega,λx d=>?_⟩;obtain⟨y,_,rfl⟩:=A5.1<|(Mt _ x).1 d;show(FP y c).length<=1048576;unfold FP;rw[Aj];omega
def Af4(d:List QE)(q:Jz)(p:Pln):H9 (rpB d q p).1:=by
 have a:∀o,H9 (AcH q o).1:=λo=>by
  cases o with
  |none=>exact bF
  |some v=>exact xi _ _
 unfold rpB;cases s8 q p&&E3 d q with
 |false=>exact bF
 |true=>
  rw[Ac];cases p.1==1 with
  |true=>
   rw[Ac];unfold ejB;cases E3 d q&&jtB q p.2.2.1 with
   |false=>exact bF
   |true=>exact a _
  |false=>
   rw[Ab];cases p.1==2 with
   |true=>
    rw[Ac];unfold edB;cases(bsB d q p.2.2.2).2 with
    |false=>exact bF
    |true=>exact a _
   |false=>
    rw[Ab];unfold elB;cases(ljB d q p.2.1).2.2 with
    |false=>exact bF
    |true=>exact xi _ _
def kC{d q p}(s0:RQ d)(s1:WG q)(s2:Zx p)(a:zx d)(b:zy q)(c:zB p):∃r,Qr d q p=some r∧NQ d q p=some r∧H9 r.1:=
 ⟨_,Alj (xh s0) (AbT s1)<|rA s2,AkK (xh s0) (AbT s1)<|rA s2,Af4 d q p⟩
set_option maxRecDepth 100000
def my{a a1 b}(e:zx a)(f:zy a1)(g:zB b):Om a a1 b=some true:=by
 unfold Om;have⟨h,j,c⟩:=nC e (left:=1048576) (by omega);rw[j];rcases c with c|⟨y,c,s0⟩
 ·simp only[G];rw[Ai c];rfl
 simp only[G];rw[Af (by omega:¬h < 0)];have⟨i,l,d⟩:=xp f (left:=h) (by omega);rw[l];rcases d with d|⟨z,d,s1⟩
 ·simp only[G];rw[Ai d];rfl
 simp only[G,Ab];rw[Af (by omega:¬i < 0)];have⟨m,n,p2⟩:=Aay g (left:=i) (by omega);rw[n];rcases p2 with p2|⟨A,p2,s2⟩
 ·simp only[G];rw[Ai p2];rfl
 simp only[G,Ab];rw[Af (by omega:¬m < 0)];rw[Ab];have⟨r,o,hi,y0⟩:=kC s0 s1 s2 e f g;have B:=jK a;have p:=XH (x:=a) (k:=1) (by omega) (by unfold mB;omega);have b1:=sf a1;have q:=aH (x:=a1) (k:=1+(bI a:Int)) (by omega) (by unfold mB;omega);have b2:=uv b;have s:=bQ (x:=b) (k:=1+(bI a:Int)+(dB a1:Int)) (by omega) (by unfold mB;omega);have t:¬(1+(bI a:Int)+(dB a1:Int)+(ge b:Int) < 0):=by omega
 have C:=jB y0;have u:=XJ (x:=r.1) (k:=1) (by omega) (by unfold mB;omega);have v:=mj (x:=r.1) (k:=1) y0 (by omega) (by unfold mB;omega);have w:¬(1+(YL r.1:Int) < 0):=by omega
 simp[G,o,hi,nF s0,lU s0,p,xy s1,uG s1,q,AaE s2,yq s2,s,t,u,bk y0,v,w]
end Go.Proofs.YtdnlfoelbfcmnaaGreatDoor
