/- The children of a trie, and the bound from degrees: the reference and the program agree. On the printed functions; conditions: the query fits. -/
import Derived.Test.YtpnoalhfjnjeaaaGreatDoorIcFC1
import Derived.Test.YtpnoalhfjnjeaaaGreatDoorAbFC1
import Derived.Test.YtpnoalhfjnjeaaaGreatDoorKe
open Go.RowKit
set_option linter.all false
namespace Go.Proofs.YtpnoalhfjnjeaaaGreatDoor
abbrev Yu:=Int×List zI
def sub_le{r:zI}{lo hi:Int}:(B5 r lo hi).length<=r.length:=by unfold B5;rw[Be,Av];omega
def yu{t pre}(h:Jw t.2):LX t pre=De t pre:=by
 funext rec y;rw[LX,De];cases b:AF t.2 y with
 |none=>rfl
 |some e=>have c:e∈t.2:=BV (BB b).2.2;have a:(B5 e 0 (pre.length:Int)).length<=lim:=BH sub_le<|h.2 e c;rw[Bo,Bo,Xq a,gn a]
def yv{t pre}(h:Jw t.2):LY t pre=Df t pre:=by
 funext rec y;rw[LY,Df];cases b:AF t.2 y with
 |none=>rfl
 |some e=>have c:e∈t.2:=BV (BB b).2.2;have a:(B5 e 0 (pre.length:Int)).length<=lim:=BH sub_le<|h.2 e c;rw[Bo,Bo,Xq a,gn a]
def Vg(t:Yu)(n:Nat):Prop:=Rc t=true∧(n:Int)<=t.1
def Y1{t n}(h:Vg t n):Jw t.2∧t.2.length<=4000∧∀r∈t.2,(r.length:Int)=t.1∧r.length<=5:=by have a:=VJ h.1;exact⟨⟨by have:=a.2.2.1;unfold lim;omega,λx c=>by have:=(a.2.2.2 x c).1;unfold lim;omega⟩,a.2.2.1,λr b=>⟨(a.2.2.2 r b).1,by have:=(a.2.2.2 r b).1;omega⟩⟩
def vk{t pre}(h:Vg t pre.length):∃o,Aq (De t pre) fz 0=some o∧∃k:Nat,o=(k:Int)∧k<=t.2.length:=by
 have⟨c,l,g⟩:=Y1 h;refine H9 (B:=De t pre) (λs=>∃k:Nat,s=(k:Int)∧k<=t.2.length) (λs=>t.2.length - s.toNat) (λo=>∃k:Nat,o=(k:Int)∧k<=t.2.length) ?_ fz 0 ⟨0,rfl,by omega⟩ (by unfold fz;omega);rintro s ⟨k,rfl,d⟩;rcases Bi k t.2.length with a|i
 ·have m:=g _ (Aj a);have j:(B5 t.2[k] 0 (pre.length:Int)).length<=lim:=BH sub_le<|c.2 _<|Aj a;have e:∀b,De t pre b (k:Int)=cond (decide (Fa (B5 t.2[k] 0 (pre.length:Int)) pre < 0)) (b ((k+1:Nat):Int)) (some (k:Int)):=λrec=>by rw[De];rw[Bc a,AG a,Bm a (Ba c.1),Ab,Bo,Aw (by have:=h.2;omega),Xq j,Bo]
  cases f:decide (Fa (B5 t.2[k] 0 (pre.length:Int)) pre < 0)with
  |true=>exact .inr ⟨((k+1:Nat):Int),⟨k+1,rfl,a⟩,by rw[AB,AB];omega,λrec=>by rw[e,f];rfl⟩
  |false=>exact .inl ⟨(k:Int),⟨k,rfl,d⟩,λrec=>by rw[e,f];rfl⟩
 ·refine .inl ⟨(k:Int),⟨k,rfl,d⟩,λrec=>?_⟩;rw[De];rw[Ac (by omega:¬(k:Int) < (t.2.length:Int))];rfl
def vj{t pre}(h:Vg t pre.length){lo:Nat}(d:lo<=t.2.length):∃o,Aq (Df t pre) fz (lo:Int)=some o∧∃k:Nat,o=(k:Int)∧lo<=k∧k<=t.2.length:=by
 have⟨f,n,j⟩:=Y1 h;refine H9 (B:=Df t pre) (λs=>∃k:Nat,s=(k:Int)∧lo<=k∧k<=t.2.length) (λs=>t.2.length - s.toNat) (λo=>∃k:Nat,o=(k:Int)∧lo<=k∧k<=t.2.length) ?_ fz (lo:Int) ⟨lo,rfl,Bb _,d⟩ (by unfold fz;omega);rintro s ⟨k,rfl,b,g⟩;rcases Bi k t.2.length with a|l
 ·have p:=j _ (Aj a);have m:(B5 t.2[k] 0 (pre.length:Int)).length<=lim:=BH sub_le<|f.2 _<|Aj a;have e:∀c,Df t pre c (k:Int)=cond (Fa (B5 t.2[k] 0 (pre.length:Int)) pre==0) (c ((k+1:Nat):Int)) (some (k:Int)):=λrec=>by rw[Df];rw[Bc a,AG a,Bm a (Ba f.1),Ab,Bo,Aw (by have:=h.2;omega),Xq m,Bo]
  cases i:(Fa (B5 t.2[k] 0 (pre.length:Int)) pre==0)with
  |true=>exact .inr ⟨((k+1:Nat):Int),⟨k+1,rfl,by omega,a⟩,by rw[AB,AB];omega,λrec=>by rw[e,i];rfl⟩
  |false=>exact .inl ⟨(k:Int),⟨k,rfl,b,g⟩,λrec=>by rw[e,i];rfl⟩
 ·refine .inl ⟨(k:Int),⟨k,rfl,b,g⟩,λrec=>?_⟩;rw[Df];rw[Ac (by omega:¬(k:Int) < (t.2.length:Int))];rfl
def jT{t pre}(h:Vg t pre.length):∃lo hi:Nat,lo<=hi∧hi<=t.2.length∧Aq (De t pre) fz 0=some (lo:Int)∧Aq (Df t pre) fz (lo:Int)=some (hi:Int)∧HW t pre=some ((lo:Int),(hi:Int)):=by have⟨d,e,f⟩:=Y1 h;obtain⟨g,c,lo,rfl,b⟩:=vk h;obtain⟨i,e2,hi,rfl,a⟩:=vj h b;refine⟨lo,hi,a.1,a.2,c,e2,?_⟩;unfold HW RL Xs;rw[Bo,qp d,Bo,Bo,h.1,Ai,Aa,Ac (by have:=h.2;omega),Aa,c,Bo,e2,Bo]
def yw{t pre}(h:Vg t pre.length){lo hi:Nat}(b:Aq (De t pre) fz 0=some (lo:Int))(e2:Aq (Df t pre) fz (lo:Int)=some (hi:Int)):HK t pre=some ((lo:Int),(hi:Int)):=by have⟨a,c,d⟩:=Y1 h;unfold HK LQ Pv;rw[Ac (by have:=h.2;omega),Aa,Bo,lp a,Bo,Bo,h.1,Ai,Aa,yu a,yv a,b,Bo,e2,Bo]
def pushB(out:zI)(v:Int):Bool:=match out.getLast? with
 |none=>true
 |some x=>x !=v
def ay(S:List zI)(p:Nat):Nat->zI
 |0=>[]
 |k+1=>ay S p k++cond (pushB (ay S p k)<|Qi ((S[k]?).getD []) (p:Int)) [Qi ((S[k]?).getD []) (p:Int)] []
def cw(S:List zI)(p:Nat):∀k,(ay S p k).length<=k
 |0=>by simp[ay]
 |k+1=>by
  have:=cw S p k;rw[ay,Ak];cases pushB (ay S p k) (Qi ((S[k]?).getD []) (p:Int))
  ·rw[Aa,Bw];omega
  ·rw[Ab,Af];omega
def gx{out}(h:out.length<=4000)(v:Int){α:Type}(f:Bool->Option α):cond ((out.length:Int)==0) (f true) (G (AF out<|wZ<|(out.length:Int) - 1) λe=>f<|e !=v)=f (pushB out v):=by
 by_cases b:out.length=0
 ·have:out=[]:=Bf b;subst this;rfl
 ·have a:out.length - 1 < out.length:=by omega
  have e:((out.length:Int)==0)=false:=by rw[BC];omega
  rw[e,Aa,wrap_in (by omega),show(out.length:Int) - 1=((out.length - 1:Nat):Int)by omega,AG a,Bo];unfold pushB;rw[IOQ,Ah a]
def AaI{t pre}(h:Vg t pre.length){lo hi:Nat}(j:lo<=hi)(l:hi<=t.2.length)(es:HW t pre=some ((lo:Int),(hi:Int))):GS t pre=some (if(pre.length:Int) < t.1 then ay (B5 t.2 (lo:Int) (hi:Int)) pre.length (hi - lo)else []):=by
 have⟨q,s,m⟩:=Y1 h;by_cases e:(pre.length:Int) < t.1
 ·rw[At e];have n:(B5 t.2 (lo:Int) (hi:Int)).length=hi - lo:=by unfold B5;rw[AB,AB,Be,Av];omega
  have o:∀k,k < hi - lo->(B5 t.2 (lo:Int) (hi:Int))[k]? =t.2[lo+k]?:=λk d=>by unfold B5;rw[AB,AB,Du,Eb,At (by omega)]
  have f:∀k,k < hi - lo->∃r,t.2[lo+k]? =some r∧r∈t.2∧AF r (pre.length:Int)=some (Qi r (pre.length:Int)):=λk d=>by
   have a:lo+k < t.2.length:=by omega
   have u:=m _<|Aj a;exact⟨_,Ah a,Aj a,by rw[AG (by omega),HZ (by omega)]⟩
  unfold GS;rw[es,Bo]
  have:=DQ (body:=Ef t pre ((lo:Int),(hi:Int))) (out:=ay (B5 t.2 (lo:Int) (hi:Int)) pre.length (hi - lo)) (λk=>(ay (B5 t.2 (lo:Int) (hi:Int)) pre.length k,((lo+k:Nat):Int))) (hi - lo) (λk d c=>by
   have⟨r,g,v,e2⟩:=f k d;have w:=cw (B5 t.2 (lo:Int) (hi:Int)) pre.length k
   have p:∀b:Bool,GA c (ay (B5 t.2 (lo:Int) (hi:Int)) pre.length k) ((lo+k:Nat):Int) (Qi r (pre.length:Int)) b=c (ay (B5 t.2 (lo:Int) (hi:Int)) pre.length k++cond b [Qi r (pre.length:Int)] [],((lo+(k+1):Nat):Int)):=λb=>by
    have i:wZ (((lo+k:Nat):Int)+1)=((lo+(k+1):Nat):Int):=by rw[wrap_in (by omega)];omega
    rw[GA];cases b with
    |true=>rw[Ab,Aw (by simp only[Af];unfold lim;omega),HV,i];rfl
    |false=>rw[Aa,HV,i,Aa,AN]
   rw[Ef,ay,o k d,g];rw[Ae (by omega:((lo+k:Nat):Int) < (hi:Int)),Ab,Ae e,Ab,G8,g,Bo,e2,Bo,BQ];rw[gx (by omega) (Qi r (pre.length:Int)) (λb=>GA c (ay (B5 t.2 (lo:Int) (hi:Int)) pre.length k) ((lo+k:Nat):Int) (Qi r (pre.length:Int)) b),p]) (λrec=>by
   rw[Ef];rw[Ac (by omega:¬((lo+(hi - lo):Nat):Int) < (hi:Int))];rfl) fz (by unfold fz;omega)
  rw[show((([]:zI),(lo:Int)))=(ay (B5 t.2 (lo:Int) (hi:Int)) pre.length 0,((lo+0:Nat):Int))from rfl,this];rfl
 ·rw[As e];unfold GS;rw[es,Bo];have:Aq (Ef t pre ((lo:Int),(hi:Int))) fz (([]:zI),(lo:Int))=some []:=DQ (body:=Ef t pre ((lo:Int),(hi:Int))) (λ_=>(([]:zI),(lo:Int))) 0 (λk d=>absurd d (by omega)) (λrec=>by rw[Ef];rw[Ac e];cases decide ((lo:Int) < (hi:Int))<;>rfl) fz (by unfold fz;omega);rw[show(((lo:Int),(hi:Int)):Int×Int).1=(lo:Int)from rfl,this];rfl
def Afh{t pre}(h:Vg t pre.length){lo hi:Nat}(j:lo<=hi)(l:hi<=t.2.length)(m:HK t pre=some ((lo:Int),(hi:Int))):H4 t pre=some (if(pre.length:Int) < t.1 then ay (B5 t.2 (lo:Int) (hi:Int)) pre.length (hi - lo)else []):=by
 have⟨n,u,o⟩:=Y1 h;by_cases g:(pre.length:Int) < t.1
 ·rw[At g];have d:(B5 t.2 (lo:Int) (hi:Int)).length=hi - lo:=by unfold B5;rw[AB,AB,Be,Av];omega
  have p:∀k,k < hi - lo->(B5 t.2 (lo:Int) (hi:Int))[k]? =t.2[lo+k]?:=λk e=>by unfold B5;rw[AB,AB,Du,Eb,At (by omega)]
  have f:∀k,k < hi - lo->∃r,t.2[lo+k]? =some r∧r∈t.2∧AF r (pre.length:Int)=some (Qi r (pre.length:Int)):=λk e=>by
   have a:lo+k < t.2.length:=by omega
   have v:=o _<|Aj a;exact⟨_,Ah a,Aj a,by rw[AG (by omega),HZ (by omega)]⟩
  unfold H4;rw[Ac (by omega:¬t.1<=(pre.length:Int)),Aa];unfold LQ Pv;rw[Bo,lp n,Bo,Bo,h.1,Ai,Aa,m,Bo,Aw (by simp only;omega)]
  have:=DQ (body:=Gi t pre ((lo:Int),(hi:Int))) (out:=ay (B5 t.2 (lo:Int) (hi:Int)) pre.length (hi - lo)) (λk=>(ay (B5 t.2 (lo:Int) (hi:Int)) pre.length k,(k:Int))) (hi - lo) (λk e c=>by
   have⟨r,q,w,e2⟩:=f k e;have x:=cw (B5 t.2 (lo:Int) (hi:Int)) pre.length k
   have s:∀b:Bool,Gj c pre (ay (B5 t.2 (lo:Int) (hi:Int)) pre.length k) (k:Int) r b=c (ay (B5 t.2 (lo:Int) (hi:Int)) pre.length k++cond b [Qi r (pre.length:Int)] [],((k+1:Nat):Int)):=λb=>by
    have i:wZ ((k:Int)+1)=((k+1:Nat):Int):=by rw[wrap_in (by omega)];omega
    rw[Gj];cases b with
    |true=>rw[Ab,e2,Bo,Aw (by simp only[Af];unfold lim;omega),HJ,i];rfl
    |false=>rw[Aa,HJ,i,Aa,AN]
   rw[Gi,ay];rw[d,Ae (by omega:(k:Int) < ((hi - lo:Nat):Int)),Ab,G8,p k e,q,Bo,e2,BQ];simp only[Bo];rw[gx (by omega) (Qi r (pre.length:Int)) (λb=>Gj c pre (ay (B5 t.2 (lo:Int) (hi:Int)) pre.length k) (k:Int) r b),s]) (λrec=>by
   rw[Gi];rw[d,A2];rfl) fz (by unfold fz;omega)
  rw[show((([]:zI),(0:Int)))=(ay (B5 t.2 (lo:Int) (hi:Int)) pre.length 0,((0:Nat):Int))from rfl,this];rfl
 ·rw[As g];unfold H4;rw[Ae (by omega:t.1<=(pre.length:Int))];rfl
def chB(t:Yu)(pre:zI):zI:=(GS t pre).getD []
def Ai7{t pre}(h:Vg t pre.length):GS t pre=some (chB t pre):=by have⟨lo,hi,a,b,_,_,e⟩:=jT h;unfold chB;rw[AaI h a b e];rfl
def AiL{t pre}(h:Vg t pre.length):H4 t pre=some (chB t pre):=by have⟨lo,hi,a,b,c,e2,e⟩:=jT h;unfold chB;rw[AaI h a b e,Afh h a b (yw h c e2)];rfl
def ZD(q:K8)(v:Int)(k:Nat):zN:=(List.range k).filter λi=>I0 q.2.1 i λa=>a.2.contains v
def zQ(q:K8)(v:Int)(k:Nat):ZD q v (k+1)=ZD q v k++cond (I0 q.2.1 k λa=>a.2.contains v) [k] []:=by unfold ZD;rw[Ib,Gn,EQ,NG];cases(I0 q.2.1 k λa=>a.2.contains v)<;>rfl
def cG(q:K8)(v:Int)(k:Nat):(ZD q v k).length<=k:=by unfold ZD;exact BH (Ey _ _) (by simp)
def ixB(q:K8)(v:Int):zI:=(ZD q v q.2.1.length).map λ(i:Nat)=>(i:Int)
def Ajc{q}(a:T4 q)(d:GY q=true)(v:Int):IR q v=some (ixB q v):=by
 unfold IR;have e:=a.1;have g:=(YR d).2.2.1
 have:=DQ (body:=FI q v) (out:=ixB q v) (λk=>((ZD q v k).map λ(i:Nat)=>(i:Int),(k:Int))) q.2.1.length (λk b c=>by
  have h:=cG q v k;have f:∀y,FJ c (k:Int) y=c (y,((k+1:Nat):Int)):=λy=>by rw[FJ,Bm b (Ba a.1)]
  rw[FI,zQ,Cx b,BM];rw[Bc b,Ab,UG a,Bo,d,Ab,AG b,Bo,rX (a.2.1 _<|Aj b).2,Bo,f,f];cases q.2.1[k].2.contains v with
  |true=>rw[Ab,Aw (by rw[Am];simp only[Af];unfold lim;omega)];rfl
  |false=>rw[Aa,Aa,Dv,AN]) (λrec=>by rw[FI];rw[A2];rfl) fz (EC a.1)
 rw[show((([]:zI),(0:Int)))=((ZD q v 0).map λ(i:Nat)=>(i:Int),((0:Nat):Int))from rfl,this];rfl
def Abl{q v i}(h:i∈ZD q v q.2.1.length):∃hi:i < q.2.1.length,(q.2.1[i]).2.contains v=true:=by unfold ZD at h;have a:=CC.1 h;have b:=AQ.1 a.1;exact⟨b,by have:=a.2;rw[Cx b]at this;exact this⟩
def iV(a:R9)(o:zI)(k:Nat):Nat:=((o.take k).filter a.2.contains).length
def Afl(a:R9){o:zI}{k:Nat}(b:k < o.length):iV a o (k+1)=iV a o k+cond (a.2.contains o[k]) 1 0:=by unfold iV;rw[tj _ b,Ak];cases a.2.contains o[k]<;>rfl
def sX(a:R9)(o:zI)(k:Nat):iV a o k<=k:=by unfold iV;exact BH (Ey _ _) (by simp;omega)
structure TriesOk (T:List Yu) (q:K8) (o:zI):Prop where
 sm:T4 q
 qv:GY q=true
 ov:Un q o=true
 len:T.length=q.2.1.length
 rel:∀(i:Nat) (hi:i < q.2.1.length),Rc (T[i]'(by rw[len];exact hi))=true∧(T[i]'(by rw[len];exact hi)).1=((Sv q.2.1[i] 5).length:Int)
def qK{T q o}(h:TriesOk T q o){i k:Nat}(hi:i < q.2.1.length)(e:k<=o.length):Vg (T[i]'(by rw[h.len];exact hi)) (iV q.2.1[i] o k):=by
 have a:=h.rel i hi;refine⟨a.1,?_⟩;rw[a.2];have b:=LD h.ov;have f:=T0 h.qv;have:((o.take k).filter q.2.1[i].2.contains).length<=(Sv q.2.1[i] 5).length:=el ((b.2.1.sublist<|List.take_sublist _ _).sublist List.filter_sublist) λv d=>by have c:=CC.1 d;have g:=b.2.2.1 v<|C5 c.1;exact Yy.2 ⟨by omega,c.2⟩
 unfold iV;omega
def Abm{q}(c:GY q=true){v:Int}(h:0<=v)(j:v < q.1):(ZD q v q.2.1.length).length≠0:=by
 unfold GY at c;simp only[Ad,AY]at c;have d:=c.2.2.2.2;have b:=CD.1 d v.toNat<|AQ.2<|by omega
 rw[show((v.toNat:Nat):Int)=v by omega]at b;simp only[Hn,CK]at b;unfold Lq at b;have⟨a,f,g⟩:=C4.1 b;obtain⟨i,hi,rfl⟩:=Br.1 f;have:i∈ZD q v q.2.1.length:=by unfold ZD;exact CC.2 ⟨AQ.2 hi,by rw[Cx hi];exact g⟩
 intro e;rw[Bf e]at this;cases this
def ae{d q o}(f:T4 q)(g:Ju d q=true)(c:Un q o=true):TriesOk (q.2.1.map<|b8 d o) q o:=by have a:=ic g;refine⟨f,a.1,c,by rw[Am],λi hi=>?_⟩;have b:=Aj hi;have⟨h,e⟩:=ct a.1 c b<|a.2.2 _ b;rw[BO];refine⟨(md e).1,?_⟩;show((iQ q.2.1[i] o).length:Int)=_;exact e.2.1
def M0(l:zI)(i:Nat)(t:Int):Nat:=i+((l.drop i).takeWhile λx=>decide (x < t)).length
def Ty{l i t}(h:∀hi:i < l.length,¬l[i] < t):M0 l i t=i:=by
 unfold M0;rcases Bi i l.length with hi|hi
 ·rw[AS hi,List.takeWhile_cons,As (by simpa using h hi)];rfl
 ·rw[Cl hi];rfl
def cO{l i t}(hi:i < l.length)(h:l[i] < t):M0 l i t=M0 l (i+1) t:=by unfold M0;rw[AS hi,List.takeWhile_cons,At (by simpa using h),Ar];omega
def cP{l t}:∀(d i:Nat),i+d=l.length->i<=M0 l i t∧M0 l i t<=l.length∧(∀k (a:k < l.length),i<=k->k < M0 l i t->l[k] < t)∧(∀h:M0 l i t < l.length,t<=l[M0 l i t])
 |0,i,h=>by
  have e:M0 l i t=i:=Ty λhi=>absurd hi (by omega)
  rw[e];exact⟨Bb _,by omega,λk a f b=>by omega,λh=>by omega⟩
 |d+1,i,h=>by
  have hi:i < l.length:=by omega
  by_cases c:l[i] < t
  ·have⟨f,b,j,m⟩:=cP (l:=l) (t:=t) d (i+1) (by omega);rw[cO hi c];refine⟨by omega,b,λk a o n=>?_,m⟩;rcases Bi i k with g|g
   ·exact j k a g n
   ·have:k=i:=by omega
    subst this;exact c
  ·have e:M0 l i t=i:=Ty λ_=>c
   rw[e];exact⟨Bb _,by omega,λk a f b=>by omega,λ_=>by omega⟩
def Aeg{l}{i:Nat}{t}(d:l.length<=lim)(hi:i<=l.length):QX l (i:Int) t=some ((M0 l i t:Nat):Int):=by
 unfold QX;rw[show(if(0:Int) < (i:Int)then(i:Int)else 0)=(i:Int)by split<;>omega]
 obtain⟨o,e,k,rfl,j,g⟩:=H9 (B:=KZ l t) (λs=>∃k:Nat,s=(k:Int)∧k<=l.length∧M0 l k t=M0 l i t) (λs=>l.length - s.toNat) (λo=>∃k:Nat,o=(k:Int)∧k<=l.length∧k=M0 l i t) (λs h=>by
  obtain⟨k,rfl,f,c⟩:=h;rcases Bi k l.length with a|a
  ·by_cases b:l[k] < t
   ·right;refine⟨((k+1:Nat):Int),⟨k+1,rfl,a,by rw[<-cO a b];exact c⟩,by simp only[AB];omega,λrec=>?_⟩;unfold KZ;rw[Bc a,AG a,Bm a (Ba d)];simp only[Ab,G];rw[Ae b];rfl
   ·left;refine⟨(k:Int),⟨k,rfl,f,by rw[<-c];exact(Ty λ_=>b).symm⟩,λrec=>?_⟩;unfold KZ;rw[Bc a,AG a];simp only[Ab,G];rw[Ac b];rfl
  ·left;refine⟨(k:Int),⟨k,rfl,f,by rw[<-c];exact(Ty λhi=>absurd hi<|by omega).symm⟩,λrec=>?_⟩;unfold KZ;rw[Ac (by omega)];rfl) fz (i:Int) ⟨i,rfl,hi,rfl⟩ (by unfold fz;unfold lim at d;omega)
 rw[e];simp only[G];rw[<-g];rw[As (by omega:¬(l.length:Int) < 0),As (by omega)]
def gL(M:List zI)(j:Nat):zI:=(M[j]?).getD []
def gN(A:zN)(j:Nat):Nat:=(A[j]?).getD 0
def gI(l:zI)(i:Nat):Int:=(l[i]?).getD 0
def Uv{M j}(h:j < M.length):gL M j=M[j]:=by unfold gL;rw[Ah h];rfl
def Afy{A j}(h:j < A.length):gN A j=A[j]:=by unfold gN;rw[Ah h];rfl
def Qq{l i}(h:i < l.length):gI l i=l[i]:=by unfold gI;rw[Ah h];rfl
def dJ{A p j v}(a:p < A.length):gN (A.set p v) j=if j=p then v else gN A j:=by
 unfold gN;rw[GU];by_cases h:p=j
 ·subst h;rw[At rfl,At a,At rfl];rfl
 ·rw[As h,As (λe=>h e.symm)]
abbrev LfS:=zI×zN×Nat×Int×Nat
def bU(M:List zI)(s:LfS):Nat:=cond (gI (gL M s.2.2.1) (gN s.2.1 s.2.2.1)==s.2.2.2.1) (gN s.2.1 s.2.2.1+1)<|M0 (gL M s.2.2.1) (gN s.2.1 s.2.2.1) s.2.2.2.1
def lfO(M:List zI)(s:LfS):zI:=cond (gI (gL M s.2.2.1) (gN s.2.1 s.2.2.1)==s.2.2.2.1) (s.1++[s.2.2.2.1]) s.1
def lfR(M:List zI):Nat->LfS->Option (zI×Nat)
 |0,_=>none
 |m+1,s=>cond (bU M s==(gL M s.2.2.1).length) (some (lfO M s,s.2.2.2.2+1))<|lfR M m (lfO M s,s.2.1.set s.2.2.1<|bU M s,(s.2.2.1+1) % M.length,gI (gL M s.2.2.1)<|bU M s,s.2.2.2.2+1)
def Asc(l:zI):Prop:=l.Pairwise λa b=>a < b
def val(M:List zI)(A:zN)(j:Nat):Int:=gI (gL M j)<|gN A j
def Xp(M:List zI)(A:zN):Nat->Nat
 |0=>0
 |k+1=>Xp M A k+((gL M k).length - gN A k)
def Comm(M:List zI)(x:Int):Prop:=∀l∈M,x∈l
structure LfOk (M:List zI) (s:LfS):Prop where
 len:s.2.1.length=M.length
 p:s.2.2.1 < M.length
 at_:∀j,j < M.length->gN s.2.1 j < (gL M j).length
 ord:∀a b,a<=b->b < M.length->val M s.2.1 ((s.2.2.1+a) % M.length)<=val M s.2.1 ((s.2.2.1+b) % M.length)
 top:val M s.2.1 ((s.2.2.1+(M.length - 1)) % M.length)=s.2.2.2.1
 asc:Asc s.1
 low:∀x∈s.1,x < s.2.2.2.1
 com:∀x∈s.1,Comm M x
 all:∀x,Comm M x->x∈s.1∨s.2.2.2.1<=x
section
variable {M:List zI}{s:LfS}
def jy{l}(h:Asc l){i j:Nat}(b:j < l.length)(a:i < j):l[i]'(by omega) < l[j]:=Cn.1 h i j (by omega) b a
def iD{l}(h:Asc l){x:Int}(c:x∈l){i:Nat}(hi:∀k (b:k < l.length),k < i->l[k] < x)(d:i < l.length):l[i]<=x:=by
 obtain⟨k,b,rfl⟩:=Br.1 c;rcases GV k i with a|a|a
 ·exact absurd (hi k b a) (by omega)
 ·subst a;exact ED _
 ·exact QI<|jy h b a
def jB(h:LfOk M s):∃a:gN s.2.1 s.2.2.1 < (gL M s.2.2.1).length,gI (gL M s.2.2.1) (gN s.2.1 s.2.2.1)=(gL M s.2.2.1)[gN s.2.1 s.2.2.1]∧(gL M s.2.2.1)[gN s.2.1 s.2.2.1]<=s.2.2.2.1:=by have a:=h.at_ _ h.p;refine⟨a,Qq a,?_⟩;have b:=h.ord 0 (M.length - 1) (by omega) (by have:=h.p;omega);rw[Di,Dn h.p,h.top]at b;unfold val at b;rw[Qq a]at b;exact b
def jz(h:LfOk M s):gN s.2.1 s.2.2.1 < bU M s∧bU M s<=(gL M s.2.2.1).length:=by
 have⟨c,d,e2⟩:=jB h;unfold bU;cases e:(gI (gL M s.2.2.1) (gN s.2.1 s.2.2.1)==s.2.2.2.1)with
 |true=>exact⟨ME _,c⟩
 |false=>
  have a:¬gI (gL M s.2.2.1) (gN s.2.1 s.2.2.1)=s.2.2.2.1:=by simpa using e
  rw[d]at a;have b:(gL M s.2.2.1)[gN s.2.1 s.2.2.1] < s.2.2.2.1:=by omega
  have⟨i,f,j,k⟩:=cP (l:=gL M s.2.2.1) (t:=s.2.2.2.1) ((gL M s.2.2.1).length - gN s.2.1 s.2.2.1) (gN s.2.1 s.2.2.1) (by omega);have g:M0 (gL M s.2.2.1) (gN s.2.1 s.2.2.1) s.2.2.2.1=M0 (gL M s.2.2.1) (gN s.2.1 s.2.2.1+1) s.2.2.2.1:=cO c b;have⟨m,_⟩:=cP (l:=gL M s.2.2.1) (t:=s.2.2.2.1) ((gL M s.2.2.1).length - (gN s.2.1 s.2.2.1+1)) (gN s.2.1 s.2.2.1+1) (by omega);exact⟨by rw[Aa,g];omega,f⟩
def U2{j}(a:j < M.length):gL M j∈M:=by rw[Uv a];exact Aj a
def um(h:LfOk M s)(I:∀l∈M,Asc l):Asc (lfO M s)∧(∀x∈lfO M s,Comm M x∧x<=s.2.2.2.1)∧(∀x,Comm M x->x∈lfO M s∨∃hi:bU M s < (gL M s.2.2.1).length,(gL M s.2.2.1)[bU M s]<=x)∧(∀hi:bU M s < (gL M s.2.2.1).length,s.2.2.2.1<=(gL M s.2.2.1)[bU M s]∧∀x∈lfO M s,x < (gL M s.2.2.1)[bU M s]):=by
 have⟨B,u,e2⟩:=jB h;have n:=I _<|U2 h.p;unfold bU lfO;cases C:(gI (gL M s.2.2.1) (gN s.2.1 s.2.2.1)==s.2.2.2.1)with
 |true=>
  have v:gI (gL M s.2.2.1) (gN s.2.1 s.2.2.1)=s.2.2.2.1:=by simpa using C
  rw[u]at v;simp only[Ab]
  have o:Comm M s.2.2.2.1:=by
   intro l w;obtain⟨j,r,rfl⟩:=Br.1 w
   have g:∃a,a < M.length∧(s.2.2.1+a) % M.length=j:=by
    rcases Bi j s.2.2.1 with e|e
    ·refine⟨j+M.length - s.2.2.1,by have:=h.p;omega,?_⟩;rw[show s.2.2.1+(j+M.length - s.2.2.1)=j+M.length by have:=h.p;omega,Nat.add_mod_right,Dn r]
    ·exact⟨j - s.2.2.1,by omega,by rw[show s.2.2.1+(j - s.2.2.1)=j by omega,Dn r]⟩
   have⟨a,y,D⟩:=g;have e:=h.ord 0 a (by omega) y;have i:=h.ord a (M.length - 1) (by omega) (by omega);rw[Di,Dn h.p]at e;rw[h.top,D]at i;rw[D]at e;unfold val at e i;have p:=h.at_ j r;rw[u,v]at e;rw[Qq p]at e i;have:(gL M j)[gN s.2.1 j]=s.2.2.2.1:=by omega
   have q:=Aj p;rw[this,Uv r]at q;exact q
  refine⟨?_,?_,?_,?_⟩
  ·refine GM.2 ⟨h.asc,D0 _ _,λa y b F=>?_⟩;rw[AU]at F;subst F;exact h.low a y
  ·intro x d;rcases Al.1 d with d|d
   ·exact⟨h.com x d,QI<|h.low x d⟩
   ·rw[AU]at d;subst d;exact⟨o,ED _⟩
  ·intro x d;rcases h.all x d with e|e
   ·exact .inl<|Az _ e
   ·by_cases z:x=s.2.2.2.1
    ·left;subst z;exact Au _ (by simp)
    ·right;have f:=d _<|U2 h.p
     have c:∀k (g:k < (gL M s.2.2.1).length),k < gN s.2.1 s.2.2.1+1->(gL M s.2.2.1)[k] < x:=λk g i=>by
      rcases Bi k (gN s.2.1 s.2.2.1)with m|m
      ·have:=jy n B m;omega
      ·have:k=gN s.2.1 s.2.2.1:=by omega
       subst this;omega
     have hi:gN s.2.1 s.2.2.1+1 < (gL M s.2.2.1).length:=by apply Bv;intro J;obtain⟨k,g,rfl⟩:=Br.1 f;have:=c k g (by omega);omega
     exact⟨hi,iD n f c hi⟩
  ·intro hi;have e:=jy n hi<|ME _;rw[v]at e;refine⟨QI e,λx d=>?_⟩;rcases Al.1 d with d|d
   ·have:=h.low x d;omega
   ·rw[AU]at d;subst d;exact e
 |false=>
  have A:¬gI (gL M s.2.2.1) (gN s.2.1 s.2.2.1)=s.2.2.2.1:=by simpa using C
  rw[u]at A;simp only[Aa];have⟨L,N,K,H⟩:=cP (l:=gL M s.2.2.1) (t:=s.2.2.2.1) ((gL M s.2.2.1).length - gN s.2.1 s.2.2.1) (gN s.2.1 s.2.2.1) (by omega);refine⟨h.asc,λx d=>⟨h.com x d,QI<|h.low x d⟩,λx d=>?_,λhi=>⟨H hi,λx d=>by have:=h.low x d;have:=H hi;omega⟩⟩;rcases h.all x d with e|e
  ·exact .inl e
  ·right;have f:=d _<|U2 h.p
   have c:∀k (g:k < (gL M s.2.2.1).length),k < M0 (gL M s.2.2.1) (gN s.2.1 s.2.2.1) s.2.2.2.1->(gL M s.2.2.1)[k] < x:=λk g i=>by
    rcases Bi k (gN s.2.1 s.2.2.1)with m|m
    ·have:=jy n B m;omega
    ·have:=K k g m i;omega
   have hi:M0 (gL M s.2.2.1) (gN s.2.1 s.2.2.1) s.2.2.2.1 < (gL M s.2.2.1).length:=by apply Bv;intro J;obtain⟨k,g,rfl⟩:=Br.1 f;have:=c k g (by omega);omega
   exact⟨hi,iD n f c hi⟩
def jA(h:LfOk M s)(t:∀l∈M,Asc l)(hi:bU M s < (gL M s.2.2.1).length):LfOk M (lfO M s,s.2.1.set s.2.2.1<|bU M s,(s.2.2.1+1) % M.length,gI (gL M s.2.2.1)<|bU M s,s.2.2.2.2+1):=by
 have f:s.2.2.1 < s.2.1.length:=by rw[h.len];exact h.p
 have o:0 < M.length:=by have:=h.p;omega
 have⟨u,v,w,y⟩:=um h t;have⟨C,z⟩:=y hi
 have p:∀j,val M (s.2.1.set s.2.2.1<|bU M s) j=if j=s.2.2.1 then(gL M s.2.2.1)[bU M s]else val M s.2.1 j:=λj=>by
  unfold val;rw[dJ f];by_cases g:j=s.2.2.1
  ·subst g;rw[At rfl,At rfl,Qq hi]
  ·rw[As g,As g]
 have c:∀a,a < M.length->((s.2.2.1+1) % M.length+a) % M.length=if a+1=M.length then s.2.2.1 else(s.2.2.1+(a+1)) % M.length:=λa D=>by
  rw[Nat.mod_add_mod];split
  ·rename_i i;rw[show s.2.2.1+1+a=s.2.2.1+M.length by omega,Nat.add_mod_right,Dn h.p]
  ·rw[show s.2.2.1+1+a=s.2.2.1+(a+1)by omega]
 have d:∀a,0 < a->a < M.length->(s.2.2.1+a) % M.length≠s.2.2.1:=λa F i r=>by
  rcases Bi (s.2.2.1+a) M.length with q|q
  ·rw[Dn q]at r;omega
  ·rw[Nat.mod_eq_sub_mod q,Dn (by have:=h.p;omega)]at r;omega
 refine⟨by simp only[Bd];exact h.len,QK _ o,λj g=>?_,λa b A B=>?_,?_,u,λx k=>?_,λx k=>(v x k).1,λx k=>?_⟩
 ·simp only;rw[dJ f];split
  ·rename_i e;subst e;exact hi
  ·exact h.at_ j g
 ·simp only;rw[c a (by omega),c b B,p,p];by_cases m:b+1=M.length
  ·rw[At m,At rfl];by_cases n:a+1=M.length
   ·rw[At n,At rfl];exact ED _
   ·rw[As n,As (d (a+1) (by omega)<|by omega)];have:=h.ord (a+1) (M.length - 1) (by omega) (by omega);rw[h.top]at this;omega
  ·rw[As m,As (by omega:¬a+1=M.length),As (d (b+1) (by omega)<|by omega),As (d (a+1) (by omega)<|by omega)];exact h.ord (a+1) (b+1) (by omega) (by omega)
 ·simp only;rw[c (M.length - 1) (by omega),At (by omega),p,At rfl,Qq hi]
 ·simp only;rw[Qq hi];exact z x k
 ·simp only;rw[Qq hi];rcases w x k with i|⟨_,i⟩
  ·exact .inl i
  ·exact .inr i
def cM{A p v}(a:p < A.length)(d:gN A p < v)(e:v<=(gL M p).length):∀K,(K<=p->Xp M (A.set p v) K=Xp M A K)∧(p < K->Xp M (A.set p v) K < Xp M A K)
 |0=>⟨λ_=>rfl,λh=>absurd h<|by omega⟩
 |K+1=>by
  have⟨b,f⟩:=cM a d e K;rw[Xp,Xp,dJ a];refine⟨λh=>?_,λh=>?_⟩
  ·rw[b (by omega),As (by omega)]
  ·by_cases c:K=p
   ·subst c;rw[b (Bb _),At rfl];omega
   ·rw[As c];have:=f (by omega);omega
def un(hA:∀l∈M,Asc l):∀(m:Nat) (s:LfS),LfOk M s->Xp M s.2.1 M.length < m->∃out n,lfR M m s=some (out,n)∧Asc out∧(∀x,x∈out↔Comm M x)∧n<=s.2.2.2.2+Xp M s.2.1 M.length
 |0,s,h,hm=>by omega
 |m+1,s,h,hm=>by
  have⟨o1,o2,o3,o4⟩:=um h hA;have⟨n1,n2⟩:=jz h;have hpl:s.2.2.1 < s.2.1.length:=by rw[h.len];exact h.p
  have hrem:=(cM (M:=M) hpl n1 n2 M.length).2 h.p;rw[lfR];cases hc:(bU M s==(gL M s.2.2.1).length)with
  |true=>
   have hc:bU M s=(gL M s.2.2.1).length:=by simpa using hc
   refine⟨_,_,rfl,o1,λx=>⟨λhx=>(o2 x hx).1,λhx=>?_⟩,by omega⟩;rcases o3 x hx with h1|⟨h1,_⟩
   ·exact h1
   ·omega
  |false=>
   have hc:¬bU M s=(gL M s.2.2.1).length:=by simpa using hc
   have⟨out,n,e,q1,q2,q3⟩:=un hA m _ (jA h hA<|by omega) (by simp only;omega);exact⟨out,n,e,q1,q2,by simp only at q3;omega⟩
end
def Rf(l:zI):Int:=gI l 0
def eX(H:zI)(h:Int):Nat->Nat
 |0=>0
 |k+1=>if h < gI H k then eX H h k else k+1
def mn(H:zI)(h:Int):∀k,eX H h k<=k
 |0=>Bb _
 |k+1=>by
  rw[eX];split
  ·have:=mn H h k;omega
  ·exact Bb _
def Aai(H:zI)(h:Int):∀k,(∀j,eX H h k<=j->j < k->h < gI H j)∧(0 < eX H h k->gI H (eX H h k - 1)<=h)
 |0=>⟨λj a b=>by omega,λh=>by rw[eX]at h;omega⟩
 |k+1=>by
  have⟨e,f⟩:=Aai H h k;rw[eX];split
  ·rename_i c;refine⟨λj a b=>?_,f⟩;rcases Bi j k with d|d
   ·exact e j a d
   ·have:j=k:=by omega
    subst this;exact c
  ·rename_i c;exact⟨λj a b=>by omega,λ_=>by rw[N6];omega⟩
def putAt{α:Type}(l:List α)(k:Nat)(x:α):List α:=l.take k++x::l.drop k
def yr{α:Type}{l:List α}{k:Nat}{x:α}(h:k<=l.length):(putAt l k x).length=l.length+1:=by unfold putAt;rw[Ak,Av,Ar,Be];omega
def put_mem{α:Type}{l:List α}{k:Nat}{x y:α}:y∈putAt l k x↔y=x∨y∈l:=by
 unfold putAt
 conv=>rhs;rhs;rw[<-Db k l]
 rw[Al,AA,Al];constructor
 ·rintro(h|h|h)
  ·exact .inr<|.inl h
  ·exact .inl h
  ·exact .inr<|.inr h
 ·rintro(h|h|h)
  ·exact .inr<|.inl h
  ·exact .inl h
  ·exact .inr<|.inr h
def jR{α β:Type}(f:α->β)(l:List α)(k:Nat)(x:α):(putAt l k x).map f=putAt (l.map f) k (f x):=by unfold putAt;rw[BM,AH,List.map_take,List.map_drop]
def nQ{l}(c:l.Pairwise λa b=>a<=b)(h:Int):(putAt l (eX l h l.length) h).Pairwise λa b=>a<=b:=by
 have⟨m,n⟩:=Aai l h l.length;have d:=mn l h l.length;generalize eX l h l.length=k at m n d;unfold putAt;refine GM.2 ⟨c.sublist<|List.take_sublist _ _,Cy.2 ⟨λy p=>?_,c.sublist<|List.drop_sublist _ _⟩,λa q b e=>?_⟩
 ·obtain⟨j,f,rfl⟩:=Br.1 p;rw[Be]at f;rw[List.getElem_drop];have:=m (k+j) (by omega) (by omega);rw[Qq (by omega)]at this;omega
 ·obtain⟨j,f,rfl⟩:=Br.1 q;rw[Av]at f;rw[Iw];have g:=n (by omega);rw[Qq (by omega)]at g
  have r:l[j]<=l[k - 1]:=by
   rcases Bi j (k - 1)with o|o
   ·exact Cn.1 c j (k - 1) (by omega) (by omega) o
   ·have:j=k - 1:=by omega
    subst this;exact ED _
  rcases AA.1 e with rfl|e
  ·omega
  ·obtain⟨i,hi,rfl⟩:=Br.1 e;rw[Be]at hi;rw[List.getElem_drop];exact Cn.1 c j (k+i) (by omega) (by omega) (by omega)
def QN(L:List zI):Nat->zN
 |0=>[]
 |i+1=>putAt (QN L i) (eX ((QN L i).map λj=>Rf<|gL L j) (Rf<|gL L i) i) i
def TX(L:List zI):∀i,(QN L i).length=i
 |0=>rfl
 |i+1=>by have h:=TX L i;rw[QN,yr (by rw[h];exact mn _ _ _),h]
def Wi(L:List zI):∀i j,j∈QN L i↔j < i
 |0,j=>by simp[QN]
 |i+1,j=>by rw[QN,put_mem,Wi L i];omega
def rU{α:Type}{l:List α}{k:Nat}{x:α}(h:l.Nodup)(hx:x∉l):(putAt l k x).Nodup:=by
 unfold putAt;have h':=h;rw[<-Db k l]at h';obtain⟨h1,h2,h3⟩:=Ax.1 h';refine Ax.2 ⟨h1,BF.2 ⟨λhm=>hx<|Fx hm,h2⟩,λa ha b hb=>?_⟩;rcases AA.1 hb with rfl|hb
 ·intro e;subst e;exact hx<|C5 ha
 ·exact h3 a ha b hb
def l7(L:List zI):∀i,(QN L i).Nodup
 |0=>AR
 |i+1=>by rw[QN];exact rU (l7 L i) (λh=>by have:=(Wi L i i).1 h;omega)
def gZ(L:List zI):∀i,((QN L i).map λj=>Rf<|gL L j).Pairwise λa b=>a<=b
 |0=>List.Pairwise.nil
 |i+1=>by rw[QN,jR];have:=nQ (gZ L i)<|Rf<|gL L i;rw[Am,TX]at this;exact this
def E1(L:List zI):List zI:=(QN L L.length).map<|gL L
def RI(L:List zI):(E1 L).length=L.length:=by unfold E1;rw[Am,TX]
def RJ(L:List zI)(l:zI):l∈E1 L↔l∈L:=by
 unfold E1;rw[Bq];constructor
 ·rintro⟨j,a,rfl⟩;exact U2<|(Wi L _ j).1 a
 ·intro h;obtain⟨j,a,rfl⟩:=Br.1 h;exact⟨j,(Wi L _ j).2 a,Uv a⟩
def w3(L:List zI)(x:Int):Comm (E1 L) x↔∀l∈L,x∈l:=⟨λh l a=>h l<|(RJ L l).2 a,λh l a=>h l<|(RJ L l).1 a⟩
def jh{α:Type}(f:α->zI)(l:List α){j:Nat}(h:j < l.length):gL (l.map f) j=f l[j]:=by rw[Uv (by rw[Am];exact h),BO]
def zeros(k:Nat):zN:=List.replicate k 0
def o6(k j:Nat):gN (zeros k) j=0:=by unfold gN zeros;rw[J2];split<;>rfl
def lf0(M:List zI):LfS:=([],zeros M.length,0,Rf<|gL M<|M.length - 1,0)
def nB{L}(r:0 < L.length)(g:∀l∈L,0 < l.length)(s:∀l∈L,Asc l):LfOk (E1 L) (lf0<|E1 L):=by
 have n:0 < (E1 L).length:=by rw[RI];exact r
 have o:∀j,gN (lf0<|E1 L).2.1 j=0:=λj=>o6 _ _
 have c:∀j,val (E1 L) (lf0<|E1 L).2.1 j=Rf (gL (E1 L) j):=λj=>by unfold val;rw[o];rfl
 have d:∀j,j < (E1 L).length->0 < (gL (E1 L) j).length:=λj i=>g _<|(RJ L _).1<|U2 i
 have t:∀a b,a<=b->b < (E1 L).length->Rf (gL (E1 L) a)<=Rf (gL (E1 L) b):=λa b e k=>by
  have u:=gZ L L.length;have v:(QN L L.length).length=(E1 L).length:=by rw[TX,RI]
  unfold E1;rw[jh _ _ (by omega),jh _ _ (by omega)];rcases Bi a b with p|p
  ·have:=Cn.1 u a b (by rw[Am];omega) (by rw[Am];omega) p;rw[BO,BO]at this;exact this
  ·have:a=b:=by omega
   subst this;exact ED _
 refine⟨by show(zeros _).length=_;unfold zeros;rw[CI],n,λj i=>by rw[o];exact d j i,λa b e k=>?_,?_,List.Pairwise.nil,λx f=>(by cases f),λx f=>(by cases f),λx f=>.inr ?_⟩
 ·rw[c,c];show Rf (gL (E1 L)<|(0+a) % (E1 L).length)<=Rf (gL (E1 L)<|(0+b) % (E1 L).length);rw[Cw,Cw,Dn (by omega),Dn k];exact t a b e k
 ·rw[c];show Rf (gL (E1 L)<|(0+((E1 L).length - 1)) % (E1 L).length)=_;rw[Cw,Dn (by omega)];rfl
 ·show Rf (gL (E1 L)<|(E1 L).length - 1)<=x;have m:=f _<|U2<|show(E1 L).length - 1 < (E1 L).length by omega
  have w:=s _<|(RJ L _).1<|U2<|show(E1 L).length - 1 < (E1 L).length by omega
  have q:=d _ (show(E1 L).length - 1 < (E1 L).length by omega);unfold Rf;rw[Qq q];exact iD w m (λk n h=>absurd h<|by omega) q
def jV{M A B}(h:∀l∈M,l.length<=B):∀K,K<=M.length->Xp M A K<=K * B
 |0,_=>by rw[Xp];omega
 |K+1,a=>by
  have b:=jV (A:=A) h K (by omega);have c:=h _<|U2<|show K < M.length by omega
  rw[Xp,CN,DK];omega
section
variable {L:List zI}
def li{α:Type}{l:List α}{a b:Nat}{v:α}(c:a < l.length):AF (CL l (a:Int) v) (b:Int)=if b=a then some v else AF l (b:Int):=by
 unfold CL;rw[G8,G8,GU,AB];by_cases h:a=b
 ·subst h;rw[At rfl,At c,At rfl]
 ·rw[As h,As (λe=>h e.symm)]
structure SimS (L:List zI) (s:LfS) (y:zI):Prop where
 len:y.length=L.length
 at_:∀j (hj:j < (QN L L.length).length),AF y (((QN L L.length)[j]:Nat):Int)=some ((gN s.2.1 j:Nat):Int)
 few:s.1.length<=s.2.2.2.2
def oxI(L:List zI):zI:=(QN L L.length).map λ(j:Nat)=>(j:Int)
def sh{p k:Nat}(b:0 < k)(c:p < k)(a:k<=lim):Int.tmod (wZ<|(p:Int)+1) (k:Int)=(((p+1) % k:Nat):Int):=by
 unfold lim at a;rw[wrap_in (by omega),D6 (by omega)]
 norm_cast
def Aag(P:L.length<=lim)(d:∀l∈L,l.length<=lim)(Q:∀l∈L,Asc l):∀(m:Nat) (s:LfS) (y:zI),LfOk (E1 L) s->SimS L s y->s.2.2.2.2+Xp (E1 L) s.2.1 (E1 L).length<=lim->
  Aq (FN L<|oxI L) m (s.1,y,(s.2.2.1:Int),s.2.2.2.1,(s.2.2.2.2:Int))=(lfR (E1 L) m s).map λr=>.inr (r.1,(r.2:Int))
 |0,s,y,h,w,H=>rfl
 |m+1,s,y,h,w,H=>by
  have I:∀l∈E1 L,Asc l:=λl X=>Q l<|(RJ L l).1 X
  have⟨out,a,p,b,n⟩:=s;have⟨F,Y,e2⟩:=jB h;have⟨R,J⟩:=jz h;have c:p < (QN L L.length).length:=by have:=h.p;rw[RI]at this;rw[TX];exact this
  have x:p < a.length:=by have:=h.len;simp only at this;rw[this,RI,<-TX L L.length];exact c
  have f:=(cM (M:=E1 L) x R J (E1 L).length).2 h.p;simp only at F Y e2 R J f H;have k:=d _<|(RJ L _).1<|U2 h.p;simp only at k;have S:gL (E1 L) p=gL L (QN L L.length)[p]:=by unfold E1;exact jh _ _ c
  generalize z:(QN L L.length)[p]=q at S;have t:q < L.length:=by rw[<-z];exact(Wi L _ _).1<|Aj c
  have A:q < y.length:=by rw[w.len];exact t
  have g1:AF (oxI L) (p:Int)=some (q:Int):=by unfold oxI;rw[G8,BZ,Ah c,z];rfl
  have g2:AF L (q:Int)=some (gL (E1 L) p):=by rw[S,Uv t];exact AG t
  have Z:AF y (q:Int)=some ((gN a p:Nat):Int):=by have:=w.at_ p c;rw[z]at this;exact this
  have g4:AF (gL (E1 L) p) ((gN a p:Nat):Int)=some (gI (gL (E1 L) p)<|gN a p):=by rw[AG F,Qq F]
  have B:=w.few;simp only at B;have T:wZ ((n:Int)+1)=((n+1:Nat):Int):=by unfold lim at H;rw[wrap_in (by omega)];omega
  have C:(oxI L).length=(E1 L).length:=by unfold oxI;rw[Am,TX,RI]
  have K:0 < (E1 L).length:=by have:=h.p;omega
  have U:∀(o:zI) (i:Nat),o=lfO (E1 L) (out,a,p,b,n)->i=bU (E1 L) (out,a,p,b,n)->o.length<=n+1->
    FO (Aq (FN L<|oxI L) m) L (oxI L) (p:Int) (n:Int) (q:Int) o (CL y (q:Int) (i:Int))=(lfR (E1 L) (m+1) (out,a,p,b,n)).map λr=>.inr (r.1,(r.2:Int)):=by
   intro o i W hi N;unfold FO;have gs:AF (CL y (q:Int) (i:Int)) (q:Int)=some (i:Int):=by rw[li A,At rfl]
   rw[gs];simp only[G,g2];rw[lfR];simp only[<-W,<-hi];by_cases g:i=(gL (E1 L) p).length
   ·rw[show((i:Int)==((gL (E1 L) p).length:Int))=true by rw[BK];omega,show(i==(gL (E1 L) p).length)=true by rw[BK];exact g];simp only[Ab,B3,T]
   ·rw[show((i:Int)==((gL (E1 L) p).length:Int))=false by rw[BC];omega,show(i==(gL (E1 L) p).length)=false by rw[BC];exact g];have u:i < (gL (E1 L) p).length:=by rw[<-hi]at J;omega
    rw[show AF (gL (E1 L) p) (i:Int)=some (gI (gL (E1 L) p) i)by rw[AG u,Qq u]];simp only[Aa];rw[Aw (by rw[C];omega),C,sh K h.p (by rw[RI];exact P),T];have D:=jA h I (by simp only;rw[<-hi];exact u);simp only[<-W,<-hi]at D f;refine Aag P d Q m (o,a.set p i,(p+1) % (E1 L).length,gI (gL (E1 L) p) i,n+1) _ D ⟨?_,λj hj=>?_,N⟩ (by simp only;omega)
    ·unfold CL;rw[Bd];exact w.len
    ·simp only;rw[li A,dJ x];by_cases v:j=p
     ·subst v;rw[At z,At rfl]
     ·rw[As (λe=>v ?_),As v]
      ·exact w.at_ j hj
      ·rw[<-z]at e;exact(List.getElem_inj<|l7 L L.length).1 e
  rw[A6,FN];simp only[g1,G,g2,Z,g4];cases g:(gI (gL (E1 L) p) (gN a p)==b)with
  |true=>
   have O:gI (gL (E1 L) p) (gN a p)=b:=by simpa using g
   simp only[Ab];rw[Aw (by simp only[Af];omega),O,show wZ (((gN a p:Nat):Int)+1)=((gN a p+1:Nat):Int)by unfold lim at k;rw[wrap_in (by omega)];omega];exact U _ _ (by unfold lfO;simp only;rw[g];rfl) (by unfold bU;simp only;rw[g];rfl) (by simp only[Ak,Af];omega)
  |false=>simp only[Aa];rw[Aeg k (HP F)];exact U _ _ (by unfold lfO;simp only;rw[g];rfl) (by unfold bU;simp only;rw[g];rfl) (by omega)
def Ad6{l}(f:l.length<=lim):Hy l=some (!BL l (KG l)):=by
 unfold Hy;rcases BD l.length with g|g
 ·have:l=[]:=Bf g;subst this;rw[show fz=(fz - 1)+1 by unfold fz;rfl,A6];rfl
 ·have h:∀d k:Nat,1<=k->k+d=l.length->∀m,d < m->Aq (En l) m (k:Int)=some (cond ((List.range' k d).any λj=>I0 l j λe=>KG l j e) (.inr false)<|.inl ()):=by
   intro d;induction d with
   |zero=>intro k i p m q;obtain⟨m,rfl⟩:∃j,m=j+1:=⟨m - 1,by omega⟩;rw[A6,En,Ac (by omega)];rfl
   |succ d r=>
    intro k i p m q;obtain⟨m,rfl⟩:∃j,m=j+1:=⟨m - 1,by omega⟩;have a:k < l.length:=by omega
    have b:wZ ((k:Int) - 1)=((k - 1:Nat):Int):=by unfold lim at f;rw[wrap_in (by omega)];omega
    have c:k - 1 < l.length:=by omega
    rw[A6,En,Bc a,AG a,b,AG c,Bm a (Ba f)];simp only[Ab,G];rw[Dm,Ft,Cx a];have o:KG l k l[k]=decide (l[k]<=l[k - 1]):=by unfold KG;rw[Ae (by omega),AK,Cx c]
    rw[o,r (k+1) (by omega) (by omega) m (by omega)];cases decide (l[k]<=l[k - 1])<;>rfl
  have:=h (l.length - 1) 1 (Bb _) (by omega) fz (by unfold fz;unfold lim at f;omega);have e:(En l)=(En l):=rfl;rw[show((1:Int))=((1:Nat):Int)from rfl,this];simp only[G]
  have s:BL l (KG l)=(List.range' 1<|l.length - 1).any λj=>I0 l j λe=>KG l j e:=by
   unfold BL;obtain⟨n,o⟩:∃n,l.length=n+1:=⟨l.length - 1,by omega⟩;rw[o,GN,Dm,Ft,N6];have:I0 l 0 (λe=>KG l 0 e)=false:=by rw[Cx g];unfold KG;rfl
   rw[this,CH]
  rw[s];cases(List.range' 1<|l.length - 1).any λj=>I0 l j λe=>KG l j e<;>rfl
end
def YV(L:List zI):Prop:=L.length<=5∧∀l∈L,l.length<=4000
def YV.lim{L}(h:YV L):L.length<=Go.Proofs.YtpnoalhfjnjeaaaGreatDoor.lim∧∀l∈L,l.length<=Go.Proofs.YtpnoalhfjnjeaaaGreatDoor.lim:=⟨by have:=h.1;unfold Go.Proofs.YtpnoalhfjnjeaaaGreatDoor.lim;omega,λl a=>by have:=h.2 l a;unfold Go.Proofs.YtpnoalhfjnjeaaaGreatDoor.lim;omega⟩
def WF(L:List zI):Bool:= !(BL L λ_ l=>BL l<|KG l)&&decide (0 < (L.length:Int))
def AaC{l}(h:BL l (KG l)=false):Asc l:=by
 have a:∀k (b:k+1 < l.length),l[k]'(by omega) < l[k+1]:=λk b=>by have:=HA h b;unfold KG at this;rw[Ae (by omega),AK,show k+1 - 1=k by omega,Cx (by omega)]at this;have:=HQ this;omega
 unfold Asc;rw[Cn];intro i j hi c e;induction j with
 |zero=>omega
 |succ j f=>
  rcases Bi i j with d|d
  ·have:=f (by omega) d;have:=a j c;omega
  ·have:i=j:=by omega
   subst this;exact a i c
section
variable {L:List zI}
def Ad5(h:YV L):UK L=some (WF L):=by
 unfold UK WF;have b:=h.lim;have:=DX (B:=Q1 L) (n:=L.length) (λk=>I0 L k λl=>BL l (KG l)) b.1 (λk a c=>by unfold Q1;rw[Bc a,AG a,Bm a (Ba b.1),Cx a];simp only[Ab,G];rw[Ad6 (b.2 _<|Aj a)];simp only;cases BL L[k] (KG L[k])<;>rfl) (λrec=>by unfold Q1;rw[A2];rfl);rw[this];have e:(List.range L.length).any (λk=>I0 L k λl=>BL l<|KG l)=BL L λ_ l=>BL l (KG l):=rfl
 rw[e];cases BL L λ_ l=>BL l (KG l)<;>rfl
def b5(L:List zI):Nat->Int
 |0=>0
 |k+1=>if k=0∨((gL L k).length:Int) < b5 L k then((gL L k).length:Int)else b5 L k
def qu:∀{k:Nat},0 < k->k<=L.length->(b5 L k=0↔∃j,j < k∧(gL L j).length=0)∧0<=b5 L k
 |0,h,_=>absurd h (by omega)
 |k+1,_,i=>by
  rw[b5];by_cases d:k=0
  ·subst d;rw[At (.inl rfl)];refine⟨⟨λh=>⟨0,by omega,by omega⟩,λ⟨j,b,e⟩=>?_⟩,by omega⟩;have:j=0:=by omega
   subst this;omega
  ·have⟨c,f⟩:=qu (k:=k) (by omega) (by omega);by_cases g:((gL L k).length:Int) < b5 L k
   ·rw[At (.inr g)];refine⟨⟨λh=>⟨k,by omega,by omega⟩,λ⟨j,b,e⟩=>?_⟩,by omega⟩;rcases Bi j k with a|a
    ·have:=c.2 ⟨j,a,e⟩;omega
    ·have:j=k:=by omega
     subst this;omega
   ·rw[As (by omega)];refine⟨⟨λh=>?_,λ⟨j,b,e⟩=>?_⟩,f⟩
    ·have⟨j,b,e⟩:=c.1 h;exact⟨j,by omega,e⟩
    ·rcases Bi j k with a|a
     ·exact c.2 ⟨j,a,e⟩
     ·have:j=k:=by omega
      subst this;omega
def yR(h:YV L):LG L=some (b5 L L.length):=by
 unfold LG;have e:=h.lim
 have:=DQ (body:=ES L) (out:=b5 L L.length) (λk=>(b5 L k,(k:Int))) L.length (λk b a=>by
  have c:∀x,GR a (k:Int) x=a (x,((k+1:Nat):Int)):=λx=>by unfold GR;rw[Bm b (Ba e.1)]
  unfold ES;simp only;rw[Bc b,b5,Uv b];simp only[Ab];by_cases f:k=0
  ·subst f;rw[At (.inl rfl)];show ET a L (b5 L 0) ((0:Nat):Int) true=_;unfold ET;rw[AG b];exact c _
  ·rw[show(((k:Nat):Int)==0)=false by rw[BC];omega,AG b];simp only[Aa,G];by_cases d:(L[k].length:Int) < b5 L k
   ·rw[At (.inr d),Ae d];unfold ET;rw[AG b];exact c _
   ·rw[As (by omega),Ac d];unfold ET;exact c _) (λrec=>by unfold ES;simp only;rw[A2];rfl) fz (EC e.1)
 have g:Aq (ES L) fz (0,0)=some (b5 L L.length):=this;rw[g];rfl
def AhZ(h:YV L)(n:∀l∈L,0 < l.length):RZ L=some (oxI L):=by
 unfold RZ;have v:=h.lim;have y:=h.1;have w:∀j (p:j < L.length),AF L[j] 0=some (Rf<|gL L j):=λj p=>by have:=n _<|Aj p;have e:AF L[j] ((0:Nat):Int)=some (L[j][0]'this):=AG this;unfold Rf;rw[Uv p,Qq this];exact e
 have:=DQ (body:=Mh L) (out:=oxI L) (λi=>((QN L i).map λ(j:Nat)=>(j:Int),(i:Int))) L.length (λi hi a=>by
  have q:=TX L i;generalize r:((QN L i).map λ(j:Nat)=>(j:Int))=Y;have t:Y.length=i:=by rw[<-r,Am,q]
  have d:Aq (Jc L Y (i:Int)) fz (Y.length:Int)=some ((eX ((QN L i).map λj=>Rf<|gL L j) (Rf<|gL L i) i:Nat):Int):=by
   obtain⟨o,e,k,rfl,F,z⟩:=H9 (B:=Jc L Y (i:Int)) (λs=>∃k:Nat,s=(k:Int)∧k<=i∧eX ((QN L i).map λj=>Rf (gL L j)) (Rf (gL L i)) k=eX ((QN L i).map λj=>Rf (gL L j)) (Rf (gL L i)) i) (λs=>s.toNat) (λo=>∃k:Nat,o=(k:Int)∧k<=i∧k=eX ((QN L i).map λj=>Rf (gL L j)) (Rf (gL L i)) i) (λs A=>by
    obtain⟨k,rfl,x,c⟩:=A;cases k with
    |zero=>left;exact⟨((0:Nat):Int),⟨0,rfl,x,by rw[<-c];rfl⟩,λrec=>by unfold Jc;rfl⟩
    |succ k=>
     have b:k < (QN L i).length:=by omega
     have f:(QN L i)[k] < L.length:=by have:=(Wi L i _).1<|Aj b;omega
     have g1:AF Y (wZ<|((k+1:Nat):Int) - 1)=some (((QN L i)[k]:Nat):Int):=by rw[wrap_in (by omega),show((k+1:Nat):Int) - 1=(k:Int)by omega,<-r,G8,BZ,Ah b];rfl
     have C:gI ((QN L i).map λj=>Rf<|gL L j) k=Rf (gL L (QN L i)[k]):=by rw[Qq (by rw[Am];exact b),BO]
     have g:∀a,Jc L Y (i:Int) a ((k+1:Nat):Int)=cond (decide (Rf (gL L i) < Rf (gL L (QN L i)[k]))) (a (k:Int)) (some ((k+1:Nat):Int)):=λrec=>by unfold Jc;rw[Ae (by omega:(0:Int) < ((k+1:Nat):Int)),g1];simp only[Ab,G];rw[AG f];simp only[w _ f];rw[AG hi];simp only[w _ hi];rw[wrap_in (by omega),show((k+1:Nat):Int) - 1=(k:Int)by omega]
     rw[eX,C]at c;by_cases m:Rf (gL L i) < Rf (gL L (QN L i)[k])
     ·right;rw[At m]at c;exact⟨(k:Int),⟨k,rfl,by omega,c⟩,by simp only[AB];omega,λrec=>by rw[g,Ae m];rfl⟩
     ·left;rw[As m]at c;exact⟨((k+1:Nat):Int),⟨k+1,rfl,x,c⟩,λrec=>by rw[g,Ac m];rfl⟩) fz (Y.length:Int) ⟨i,by rw[t],Bb _,rfl⟩ (by unfold fz;simp only[AB];omega)
   rw[e,z]
  have u:=mn ((QN L i).map λj=>Rf<|gL L j) (Rf<|gL L i) i;rw[QN,jR,r];generalize eX ((QN L i).map λj=>Rf<|gL L j) (Rf<|gL L i) i=k at d u;unfold Mh;simp only;rw[Bc hi,d];simp only[Ab,G,Bn];have g:B5 Y 0 (k:Int)=Y.take k:=Z9 Y k;have e2:B5 Y (k:Int) (Y.length:Int)=Y.drop k:=by unfold B5;rw[AB,AB,Bl]
  rw[g,e2,Aw (by omega),Aw (by simp only[Bw,Av];unfold lim;omega),Aw (by simp only[Av,Af];unfold lim;omega),Aw (by omega),Aw (by simp only[Ak,Av,Af,Be];unfold lim;omega),Bm hi (Ba v.1)];unfold putAt;rw[Bg];rfl) (λrec=>by unfold Mh;simp only;rw[A2];rfl) fz (EC v.1)
 have D:Aq (Mh L) fz ([],0)=some (oxI L):=this;rw[D];rfl
def lfB(L:List zI):zI×Int:=cond (WF L&& !(b5 L L.length==0)) (((lfR (E1 L) fz<|lf0<|E1 L).map λr=>(r.1,(r.2:Int))).getD ([],0)) ([],0)
def Yx(h:WF L=true):0 < L.length∧∀l∈L,Asc l:=by unfold WF at h;rw[Ad,AY,Bu]at h;refine⟨by omega,λl a=>?_⟩;obtain⟨k,b,rfl⟩:=Br.1 a;exact AaC<|HA h.1 b
def e8(c:0 < L.length)(h:(b5 L L.length==0)=false):∀l∈L,0 < l.length:=λl d=>by
 obtain⟨k,b,rfl⟩:=Br.1 d;rcases BD (L[k].length)with a|a
 ·have:=((qu c<|Bb _).1).2 ⟨k,b,by rw[Uv b];exact a⟩;rw[this]at h;cases h
 ·exact a
def pA(h:YV L)(g:WF L=true)(i:(b5 L L.length==0)=false):∃out n,lfR (E1 L) fz (lf0<|E1 L)=some (out,n)∧Asc out∧(∀x,x∈out↔∀l∈L,x∈l)∧n<=20000:=by have⟨c,d⟩:=Yx g;have j:=e8 c i;have a:=nB c j d;have k:=jV (M:=E1 L) (A:=(lf0<|E1 L).2.1) (B:=4000) (λl b=>h.2 l<|(RJ L l).1 b) (E1 L).length<|Bb _;have f:=h.1;rw[<-RI L]at f;have m:Xp (E1 L) (lf0<|E1 L).2.1 (E1 L).length<=20000:=BH k (by have:=BW 4000 f;omega);have⟨out,n,e,o,p,q⟩:=un (M:=E1 L) (λl b=>d l<|(RJ L l).1 b) fz _ a (by unfold fz;omega);exact⟨out,n,e,o,λx=>by rw[p];exact w3 L x,by have:(lf0<|E1 L).2.2.2.2=0:=rfl;omega⟩
def pB(h:YV L):Asc (lfB L).1∧(∀x∈(lfB L).1,∀l∈L,x∈l)∧(∀l∈L,(lfB L).1.length<=l.length)∧0<=(lfB L).2∧(lfB L).2<=20000:=by
 unfold lfB;cases f:WF L with
 |false=>exact⟨List.Pairwise.nil,λx a=>(by cases a),λl b=>Dc _,by simp,by simp⟩
 |true=>
  cases g:(b5 L L.length==0)with
  |true=>exact⟨List.Pairwise.nil,λx a=>(by cases a),λl b=>Dc _,by simp,by simp⟩
  |false=>have⟨out,n,e,c,d,i⟩:=pA h f g;simp only[BT,FZ,Ab,e,B3,BQ];refine⟨c,λx a=>(d x).1 a,λl b=>?_,by omega,by omega⟩;exact el (Cv.2<|c.imp λh e=>by omega) λx a=>(d x).1 a l b
def Ajd(h:YV L):IW L=some (lfB L):=by
 have hl:=h.lim;have hl1:=h.1;unfold IW lfB;rw[Ad5 h];simp only[G];cases h1:WF L with
 |false=>rfl
 |true=>
  simp only[Ai,Aa,AK];rw[yR h];simp only;cases h2:(b5 L L.length==0)with
  |true=>rfl
  |false=>
   have⟨f1,f2⟩:=Yx h1;have f3:=e8 f1 h2;have⟨out,n,e,_,_,hn⟩:=pA h h1 h2;simp only[Aa,BT,Ab];rw[AhZ h f3];simp only;have hol:(oxI L).length=L.length:=by unfold oxI;rw[Am,TX]
   have hlast:L.length - 1 < (QN L L.length).length:=by rw[TX];omega
   have hqL:(QN L L.length)[L.length - 1] < L.length:=(Wi L _ _).1<|Aj hlast;have g1:AF (oxI L) (wZ<|((oxI L).length:Int) - 1)=some (((QN L L.length)[L.length - 1]:Nat):Int):=by rw[hol,wrap_in (by omega),show(L.length:Int) - 1=((L.length - 1:Nat):Int)by omega];unfold oxI;rw[G8,BZ,Ah hlast];rfl
   have gM:gL (E1 L) (L.length - 1)=L[(QN L L.length)[L.length - 1]]:=by unfold E1;rw[jh _ _ hlast,Uv hqL]
   have g3:AF L[(QN L L.length)[L.length - 1]] 0=some (lf0<|E1 L).2.2.2.1:=by have hp:=f3 _<|Aj hqL;have e0:AF L[(QN L L.length)[L.length - 1]] ((0:Nat):Int)=some (L[(QN L L.length)[L.length - 1]][0]'hp):=AG hp;unfold lf0 Rf;simp only;rw[RI,gM,Qq hp];exact e0
   rw[Aw (by rw[AB];exact⟨by omega,hl.1⟩),g1];simp only;rw[AG hqL];simp only[g3];have hok:=nB f1 f3 f2;have hr:=jV (M:=E1 L) (A:=(lf0<|E1 L).2.1) (B:=4000) (λl hl=>h.2 l<|(RJ L l).1 hl) (E1 L).length<|Bb _;rw[RI]at hr;have hr2:Xp (E1 L) (lf0<|E1 L).2.1 (E1 L).length<=20000:=by rw[RI];exact BH hr (by have:=BW 4000 hl1;omega)
   have hrun:=Aag hl.1 hl.2 f2 fz (lf0 (E1 L)) (List.replicate L.length (0:Int)) hok ⟨by rw[CI],λj hj=>by have hjm:=(Wi L _ _).1<|Aj hj;have hz:gN (lf0<|E1 L).2.1 j=0:=o6 _ _;rw[hz,G8,J2,At hjm];rfl,Bb _⟩ (by have:(lf0 (E1 L)).2.2.2.2=0:=rfl;unfold lim;omega);rw[AB];have hst:((([]:zI),List.replicate L.length (0:Int),(0:Int),(lf0<|E1 L).2.2.2.1,(0:Int)))=((lf0<|E1 L).1,List.replicate L.length (0:Int),(((lf0<|E1 L).2.2.1:Nat):Int),(lf0<|E1 L).2.2.2.1,(((lf0<|E1 L).2.2.2.2:Nat):Int)):=rfl;rw[hst,hrun,e];rfl
end
def Afi{t pre}(h:Vg t pre.length):chB t pre=[]∨∃lo hi:Nat,lo<=hi∧hi<=t.2.length∧(pre.length:Int) < t.1∧chB t pre=ay (B5 t.2 (lo:Int) (hi:Int)) pre.length (hi - lo):=by
 have⟨lo,hi,a,b,_,_,es⟩:=jT h;unfold chB;rw[AaI h a b es,BQ];by_cases c:(pre.length:Int) < t.1
 ·rw[At c];exact .inr ⟨lo,hi,a,b,c,rfl⟩
 ·rw[As c];exact .inl rfl
def kI(S:List zI)(p:Nat):∀n,n<=S.length->∀x∈ay S p n,∃r∈S,x=Qi r (p:Int)
 |0,_,x,a=>by rw[ay]at a;cases a
 |n+1,c,x,a=>by
  rw[ay]at a;rcases Al.1 a with a|a
  ·exact kI S p n (by omega) x a
  ·cases b:pushB (ay S p n) (Qi ((S[n]?).getD []) (p:Int))with
   |false=>rw[b]at a;cases a
   |true=>rw[b,Ab,AU]at a;refine⟨S[n],Aj _,?_⟩;rw[a,Ah (by omega)];rfl
def sR{t pre}(h:Vg t pre.length):(chB t pre).length<=t.2.length∧∀x∈chB t pre,0<=x∧x<=99:=by
 rcases Afi h with e|⟨lo,hi,f,g,i,e⟩
 ·rw[e];exact⟨Dc _,λx a=>by cases a⟩
 ·rw[e];have j:=cw (B5 t.2 (lo:Int) (hi:Int)) pre.length<|hi - lo;refine⟨by omega,λx a=>?_⟩;obtain⟨r,b,rfl⟩:=kI _ _ _ (by unfold B5;rw[AB,AB,Be,Av];omega) x a;have d:r∈t.2:=by unfold B5 at b;exact C5<|Fx b
  have c:=(VJ h.1).2.2.2 r d;have:=c.1;rw[HZ (by omega)];exact mJ c.2 (by omega)
def fE(a:R9)(o pre:zI):Nat->zI
 |0=>[]
 |i+1=>fE a o pre i++cond (a.2.contains<|Qi o (i:Int)) [Qi pre (i:Int)] []
def eG(a:R9)(o pre:zI):∀k,k<=o.length->(fE a o pre k).length=iV a o k
 |0,_=>by simp[fE,iV]
 |k+1,b=>by rw[fE,Ak,eG a o pre k (by omega),Afl a (by omega),HZ (by omega)];cases a.2.contains o[k]<;>rfl
def Ajh{a o pre}(e:a.2.length<=lim)(i:pre.length<=o.length)(j:o.length<=5):Q4 a o pre=some (fE a o pre pre.length):=by
 unfold Q4;have d:pre.length<=lim:=by unfold lim;omega
 have:=DQ (body:=Ii a o pre) (out:=fE a o pre pre.length) (λk=>(fE a o pre k,(k:Int))) pre.length (λk c b=>by
  have f:=eG a o pre k (by omega);have m:=sX a o k;have g:∀y,K4 b (k:Int) y=b (y,((k+1:Nat):Int)):=λy=>by unfold K4;rw[Bm c (Ba d)]
  unfold Ii;simp only;rw[Bc c,AG (l:=o) (by omega),fE,HZ (l:=o) (by omega),HZ c];simp only[Ab,G];rw[rX e];simp only[g];rw[AG c];cases a.2.contains o[k]with
  |true=>simp only[Ab];rw[Aw (by simp only[Af];unfold lim;omega)]
  |false=>simp only[Aa,AN]) (λrec=>by unfold Ii;simp only;rw[A2];rfl) fz (EC d)
 have h:Aq (Ii a o pre) fz ([],0)=some (fE a o pre pre.length):=this;rw[h];rfl
section
variable {T:List Yu}{q:K8}{o:zI}
def jv(T:List Yu)(q:K8)(o pre:zI):List zI:=(ZD q (Qi o (pre.length:Int)) q.2.1.length).map λi=>chB ((T[i]?).getD (0,[]))<|fE ((q.2.1[i]?).getD ([],[])) o pre pre.length
def ky(T:List Yu)(q:K8)(o pre:zI):zI×Int:=lfB<|jv T q o pre
def ud(h:TriesOk T q o){pre:zI}(c:pre.length < o.length):∀i∈ZD q (Qi o (pre.length:Int)) q.2.1.length,∃(hi:i < q.2.1.length),Vg (T[i]'(by rw[h.len];exact hi)) (fE q.2.1[i] o pre pre.length).length∧chB ((T[i]?).getD (0,[])) (fE ((q.2.1[i]?).getD ([],[])) o pre pre.length)=chB (T[i]'(by rw[h.len];exact hi)) (fE q.2.1[i] o pre pre.length):=λi hi=>by have⟨a,d⟩:=Abl hi;have b:=qK h a (k:=pre.length) (by omega);refine⟨a,by rw[eG _ _ _ _ (by omega)];exact b,?_⟩;rw[Ah (by rw[h.len];exact a),Ah a];rfl
def lC(h:TriesOk T q o){pre:zI}(a:pre.length < o.length):YV (jv T q o pre)∧0 < (jv T q o pre).length:=by have d:=(YR h.qv).2.2.1;have f:=cG q (Qi o (pre.length:Int)) q.2.1.length;have g:=LD h.ov;have b:=g.2.2.1 _<|Aj a;have l:=Abm h.qv b.1 b.2;unfold YV jv;rw[Am];refine⟨⟨by omega,λl j=>?_⟩,by rw[HZ a];omega⟩;obtain⟨i,hi,rfl⟩:=Bq.1 j;have⟨k,c,e⟩:=ud h a i hi;rw[e];have m:=(sR c).1;have n:=(Y1 c).2.1;omega
def Aeb(h:TriesOk T q o){pre:zI}(hk:pre.length < o.length):Tl T q o pre=some (ky T q o pre):=by
 have ho:=LD h.ov;have hqn:=T0 h.qv;have hq4:=(YR h.qv).2.2.1;have hxl:=cG q o[pre.length] q.2.1.length;unfold Tl;rw[AG hk];simp only[G];rw[Ajc h.sm h.qv];simp only;have hlen:(ixB q o[pre.length]).length=(ZD q o[pre.length] q.2.1.length).length:=by unfold ixB;rw[Am]
 have hkl:(jv T q o pre).length=(ZD q o[pre.length] q.2.1.length).length:=by unfold jv;rw[Am,HZ hk]
 have hloop:Aq (M6 T q o pre<|ixB q o[pre.length]) fz (([]:List zI),0)=some (jv T q o pre):=by
  have:=DQ (body:=M6 T q o pre (ixB q o[pre.length])) (out:=jv T q o pre) (λj=>((jv T q o pre).take j,(j:Int))) (jv T q o pre).length (λj hj rec=>by
   have hj2:j < (ZD q o[pre.length] q.2.1.length).length:=by omega
   have hmem:(ZD q o[pre.length] q.2.1.length)[j]∈ZD q (Qi o (pre.length:Int)) q.2.1.length:=by rw[HZ hk];exact Aj hj2
   have⟨hil,hT,e⟩:=ud h hk _ hmem;have hg:AF (ixB q o[pre.length]) (j:Int)=some (((ZD q o[pre.length] q.2.1.length)[j]:Nat):Int):=by rw[G8];unfold ixB;rw[BZ,Ah hj2];rfl
   have hal:=(h.sm.2.1 _<|Aj hil).2;have hTl:(ZD q o[pre.length] q.2.1.length)[j] < T.length:=by rw[h.len];exact hil
   have hval:(jv T q o pre)[j]=chB (T[(ZD q o[pre.length] q.2.1.length)[j]]'hTl) (fE q.2.1[(ZD q o[pre.length] q.2.1.length)[j]] o pre pre.length):=by
    have h1:(jv T q o pre)[j]? =some (chB (T[(ZD q o[pre.length] q.2.1.length)[j]]'hTl)<|fE q.2.1[(ZD q o[pre.length] q.2.1.length)[j]] o pre pre.length):=by unfold jv;rw[BZ,HZ hk,Ah hj2,B3,e]
    rw[Ah hj]at h1;exact Ed h1
   unfold M6;simp only;rw[hlen,Bc hj2,hg];simp only[Ab,G];rw[AG hTl];simp only[AG hil];rw[Ajh hal (by omega) (by omega)];simp only;rw[Ai7 hT];simp only;rw[Aw (by simp only[Av,Af];unfold lim;omega),A7 hj,hval,wrap_in (by omega)];rfl) (λrec=>by unfold M6;simp only;rw[hkl,hlen,A2,<-hkl,Bl];rfl) fz (by unfold fz;omega)
  simpa using this
 rw[hloop];simp only;rw[Ajd (lC h hk).1];rfl
def wk(T:List Yu)(q:K8)(o:zI):Nat->zI->List zI×Int
 |0,pre=>([pre],0)
 |r+1,pre=>((ky T q o pre).1.flatMap<|λv=>(wk T q o r<|pre++[v]).1,(ky T q o pre).1.foldl (λn v=>wZ<|n+(wk T q o r<|pre++[v]).2) (ky T q o pre).2)
def YN(h:TriesOk T q o)(b:∀t∈T,t.2.length<=16){pre:zI}(e:pre.length < o.length):(ky T q o pre).1.length<=16∧Asc (ky T q o pre).1∧(∀x∈(ky T q o pre).1,0<=x∧x<=99):=by
 have⟨g,j⟩:=lC h e;have⟨k,l,m,_⟩:=pB g;have c:=Aj j;have a:=c;unfold jv at a;have⟨i,hi,d⟩:=Bq.1 a;have⟨n,p,e2⟩:=ud h e i hi;have f:=sR p;rw[e2]at d;refine⟨?_,k,λx r=>?_⟩
 ·refine BH (m _ c) ?_;rw[show(jv T q o pre)[0]=_ from d.symm];exact BH f.1<|b _<|Aj _
 ·have:=l x r _ c;rw[show(jv T q o pre)[0]=_ from d.symm]at this;exact f.2 x this
def XB(h:TriesOk T q o)(h16:∀t∈T,t.2.length<=16):∀(r:Nat) (pre:zI),pre.length+r=o.length->(wk T q o r pre).1.length<=16 ^ r∧(∀z∈(wk T q o r pre).1,z.length=o.length∧z.take pre.length=pre∧((∀x∈pre,0<=x∧x<=99)->∀x∈z,0<=x∧x<=99))
 |0,pre,hr=>by rw[wk];refine⟨by simp,λz hz=>?_⟩;rw[AU]at hz;subst hz;exact⟨by omega,Bl,λh=>h⟩
 |r+1,pre,hr=>by
  have⟨k1,k2,k3⟩:=YN h h16 (pre:=pre) (by omega);have ih:=λv=>XB h h16 r (pre++[v]) (by rw[Ak,Af];omega)
  rw[wk];refine⟨?_,λz hz=>?_⟩
  ·have key:∀l:zI,(l.flatMap<|λv=>(wk T q o r<|pre++[v]).1).length<=l.length * 16 ^ r:=by
    intro l;induction l with
    |nil=>simp
    |cons v l ihl=>rw[AI,Ak,Ar,CN,DK];have:=(ih v).1;omega
   have h1:=key (ky T q o pre).1;have h2:(ky T q o pre).1.length * 16 ^ r<=16 * 16 ^ r:=BW _ k1;rw[CX];simp only;omega
  ·have⟨v,hv,hz⟩:=CA.1 hz;have⟨z1,z2,z3⟩:=(ih v).2 z hz;refine⟨z1,?_,λhp=>z3 λx hx=>?_⟩
   ·have:(z.take (pre++[v]).length).take pre.length=pre:=by rw[z2,List.take_left' rfl]
    rw[List.take_take,Ak,Af,Ce (by omega)]at this;exact this
   ·rcases Al.1 hx with hx|hx
    ·exact hp x hx
    ·rw[AU]at hx;subst hx;exact k3 _ hv
def Ah8(h:TriesOk T q o)(a:∀t∈T,t.2.length<=16):∀(r:Nat) (pre:zI),pre.length+r=o.length->∀m,r < m->Aq FW m (T,q,o,pre)=some (wk T q o r pre)
 |0,pre,g,m,i=>by obtain⟨m,rfl⟩:∃k,m=k+1:=⟨m - 1,by omega⟩;have l:=LD h.ov;have d:=T0 h.qv;rw[A6,FW];rw[show((List.length pre:Int)==(o.length:Int))=true by rw[BK];omega];simp only[Ab,Bn];rw[Aw (by simp only[Bw];unfold lim;omega)];rfl
 |r+1,pre,g,m,i=>by
  obtain⟨m,rfl⟩:∃k,m=k+1:=⟨m - 1,by omega⟩;have l:=LD h.ov;have d:=T0 h.qv;have⟨x,y,z⟩:=YN h a (pre:=pre) (by omega);have b:16 ^ r<=1048576:=by have:=Ec (show 0 < 16 by decide) (show r<=5 by omega);exact this
  rw[A6,FW];rw[show((List.length pre:Int)==(o.length:Int))=false by rw[BC];omega];simp only[Aa];rw[Aeb h (by omega)];simp only[G]
  have e:∀j,j<=(ky T q o pre).1.length->((((ky T q o pre).1.take j).flatMap<|λv=>(wk T q o r<|pre++[v]).1)).length<=j * 16 ^ r:=by
   intro j;induction j with
   |zero=>intro _;simp
   |succ j p=>intro c;have s:=p (by omega);have f:=(XB h a r (pre++[(ky T q o pre).1[j]])<|by rw[Ak,Af];omega).1;rw[A7 (by omega),Dg,Ak,CN,DK,AI,F3,AN];omega
  have:=DQ (body:=M7 T q o pre (ky T q o pre) (Aq FW m)) (out:=((ky T q o pre).1.flatMap (λv=>(wk T q o r (pre++[v])).1),(ky T q o pre).1.foldl (λn v=>wZ (n+(wk T q o r (pre++[v])).2)) (ky T q o pre).2)) (λj=>(((ky T q o pre).1.take j).flatMap (λv=>(wk T q o r (pre++[v])).1),((ky T q o pre).1.take j).foldl (λn v=>wZ (n+(wk T q o r (pre++[v])).2)) (ky T q o pre).2,(j:Int))) (ky T q o pre).1.length (λj c u=>by have w:=Ah8 h a r (pre++[(ky T q o pre).1[j]]) (by rw[Ak,Af];omega) m (by omega);have s:=e j (by omega);have f:=(XB h a r (pre++[(ky T q o pre).1[j]])<|by rw[Ak,Af];omega).1;have A:j * 16 ^ r<=16 * 1048576:=Fy (by omega) b;unfold M7;simp only[Bn];rw[Bc c,AG c];simp only[Ab,G];rw[Aw (by simp only[Bw];unfold lim;omega),Aw (by simp only[Af];unfold lim;omega),w];simp only;rw[Aw (by unfold lim;omega),A7 c,Dg,Lz,AI,F3,AN,Bm c (by unfold maxLen;omega)];rfl) (λrec=>by unfold M7;simp only;rw[A2,Bl];rfl) fz (by unfold fz;omega);have f:Aq (M7 T q o pre (ky T q o pre)<|Aq FW m) fz (([]:List zI),(ky T q o pre).2,0)=some ((ky T q o pre).1.flatMap<|λv=>(wk T q o r<|pre++[v]).1,(ky T q o pre).1.foldl (λn v=>wZ<|n+(wk T q o r<|pre++[v]).2) (ky T q o pre).2):=this;rw[f];rfl
end
def emB(T:List Yu):Bool:=BL T λ_ t=>(t.2.length:Int)==0
def Ai9{T}(b:T.length<=lim):R2 T=some (emB T):=by
 unfold R2 emB;have:=W1 (B:=OH T) (n:=T.length) (λk=>I0 T k λt=>(t.2.length:Int)==0) true b (λk a c=>by unfold OH;rw[Bc a,AG a,Bm a (Ba b),Cx a];rfl) (λrec=>by unfold OH;rw[A2];rfl);rw[this];have e:(List.range T.length).any (λk=>I0 T k λt=>(t.2.length:Int)==0)=BL T λ_ t=>(t.2.length:Int)==0:=rfl
 rw[e];cases BL T λ_ t=>(t.2.length:Int)==0<;>rfl
section
variable {d:List Tp}{q:K8}{o:zI}
def cT(d:List Tp)(q:K8)(o:zI):List Yu:=q.2.1.map<|b8 d o
def fy(f:Ju d q=true)(h:Un q o=true):∀t∈cT d q o,t.2.length<=16:=λt e=>by unfold cT at e;obtain⟨a,b,rfl⟩:=Bq.1 e;have g:=ic f;have⟨c,i⟩:=ct g.1 h b<|g.2.2 a b;exact BH (md i).2 (mF c<|g.2.2 a b).2
def bV(d:List Tp)(q:K8)(o:zI):(Int×List zI)×Int×Bool:=cond (Ju d q&&Un q o) (cond (emB<|cT d q o) (((o.length:Int),[]),0,true)<|cond (jG (o.length:Int) (wk (cT d q o) q o o.length []).1).2 ((jG (o.length:Int) (wk (cT d q o) q o o.length []).1).1,(wk (cT d q o) q o o.length []).2,true) ((0,[]),0,false)) ((0,[]),0,false)
def Aih(c:T4 q)(a:Ju d q=true)(b:Un q o=true):Jw (wk (cT d q o) q o o.length []).1:=by
 have e:=LD b;have f:=T0 (ic a).1;have⟨g,h⟩:=XB (ae (d:=d) c a b) (fy a b) o.length [] (by simp);have i:16 ^ o.length<=1048576:=by have:=Ec (show 0 < 16 by decide) (show o.length<=5 by omega);exact this
 exact⟨BH g (by unfold lim;omega),λr j=>by have:=(h r j).1;unfold lim;omega⟩
def AhX(h:Up d)(b:T4 q)(g:o.length<=lim):KU d q o=some (bV d q o):=by
 unfold KU bV;rw[yV h b g];unfold bJ;cases e:Ju d q with
 |false=>rfl
 |true=>
  cases a:Un q o with
  |false=>rfl
  |true=>
   simp only[FZ,Ab,G,Ai,Aa];have c:=ae (d:=d) b e a;rw[show q.2.1.map (b8 d o)=cT d q o from rfl]at c⊢;rw[Ai9 (by rw[c.len];exact b.1)];simp only;cases emB (cT d q o)with
   |true=>rfl
   |false=>have f:=Ah8 c (fy e a) o.length [] (by simp) fz (by have:=LD a;have:=T0 c.qv;unfold fz;omega);have f:Wu (cT d q o) q o []=some (wk (cT d q o) q o o.length []):=f;simp only[Aa];rw[f];simp only;rw[yO (Aih b e a)];simp only;cases(jG (o.length:Int) (wk (cT d q o) q o o.length []).1).2<;>rfl
end
def Abf{l}{i:Nat}{t}(c:l.length<=lim)(hi:i<=l.length):Qx l (i:Int) t=some ((M0 l i t:Nat):Int):=by
 unfold Qx;rw[show(if(0:Int) < (i:Int)then(i:Int)else 0)=(i:Int)by split<;>omega]
 have⟨o,e,k,h,n,d⟩:=H9 (B:=Ky l t) (λs=>∃k:Nat,s=(k:Int)∧k<=l.length∧M0 l k t=M0 l i t) (λs=>l.length - s.toNat) (λo=>∃k:Nat,(o=.inr (k:Int)∨(o=.inl ()∧k=l.length))∧k<=l.length∧k=M0 l i t) (λs j=>by
  obtain⟨k,rfl,f,b⟩:=j;rcases Bi k l.length with a|a
  ·by_cases g:l[k] < t
   ·right;refine⟨((k+1:Nat):Int),⟨k+1,rfl,a,by rw[<-cO a g];exact b⟩,by simp only[AB];omega,λrec=>?_⟩;unfold Ky;rw[Bc a,AG a,Bm a (Ba c)];simp only[Ab,G];rw[Ac (by omega)];rfl
   ·left;refine⟨.inr (k:Int),⟨k,.inl rfl,f,by rw[<-b];exact(Ty λ_=>g).symm⟩,λrec=>?_⟩;unfold Ky;rw[Bc a,AG a];simp only[Ab,G];rw[Ae (by omega)];rfl
  ·left;refine⟨.inl (),⟨k,.inr ⟨rfl,by omega⟩,f,by rw[<-b];exact(Ty λhi=>absurd hi<|by omega).symm⟩,λrec=>?_⟩;unfold Ky;rw[Ac (by omega)];rfl) fz (i:Int) ⟨i,rfl,hi,rfl⟩ (by unfold fz;unfold lim at c;omega)
 rw[e];simp only[G];rcases h with rfl|⟨rfl,m⟩
 ·simp only;rw[d]
 ·simp only;rw[<-d,m]
section
variable {L:List zI}
def Aa6(h:YV L):Lx L=some (WF L):=by
 unfold Lx WF;have b:=h.lim;have:=DX (B:=IL L) (n:=L.length) (λk=>I0 L k λl=>BL l (KG l)) b.1 (λk a c=>by unfold IL;rw[Bc a,AG a,Bm a (Ba b.1),Cx a];simp only[Ab,G];rw[AfE (b.2 _<|Aj a)];simp only;cases BL L[k] (KG L[k])<;>rfl) (λrec=>by unfold IL;rw[A2];rfl);rw[this];have e:(List.range L.length).any (λk=>I0 L k λl=>BL l<|KG l)=BL L λ_ l=>BL l (KG l):=rfl
 rw[e];cases BL L λ_ l=>BL l (KG l)<;>rfl
def xF(h:YV L):Lw L=some (b5 L L.length):=by
 unfold Lw;have e:=h.lim
 have:=DQ (body:=EO L) (out:=b5 L L.length) (λk=>(b5 L k,(k:Int))) L.length (λk b a=>by
  have c:∀x,GJ a (k:Int) x=a (x,((k+1:Nat):Int)):=λx=>by unfold GJ;rw[Bm b (Ba e.1)]
  unfold EO;simp only;rw[Bc b,b5,Uv b,AG b];simp only[Ab,G];by_cases f:k=0
  ·subst f;rw[At (.inl rfl)];exact c _
  ·rw[show(((k:Nat):Int)==0)=false by rw[BC];omega];simp only[Aa];by_cases d:(L[k].length:Int) < b5 L k
   ·rw[At (.inr d),Ae d];exact c _
   ·rw[As (by omega),Ac d];exact c _) (λrec=>by unfold EO;simp only;rw[A2];rfl) fz (EC e.1)
 have g:Aq (EO L) fz (0,0)=some (b5 L L.length):=this;rw[g];rfl
def ne{l}(hp:0 < l.length):AF l 0=some (Rf l):=by have e:AF l ((0:Nat):Int)=some (l[0]'hp):=AG hp;unfold Rf;rw[Qq hp];exact e
def Abd(h:YV L)(d:∀l∈L,0 < l.length):Aq (FE L) fz (([]:List zI),0)=some (E1 L):=by
 have x:=h.lim;have z:=h.1
 have:=DQ (body:=FE L) (out:=E1 L) (λi=>((QN L i).map (gL L),(i:Int))) L.length (λi hi a=>by
  have q:=TX L i;have r:=d _<|Aj hi;have f:gL L i=L[i]:=Uv hi;generalize t:(QN L i).map (gL L)=Y;have u:Y.length=i:=by rw[<-t,Am,q]
  have g:Aq (EK Y L[i]) fz (Y.length:Int)=some ((eX ((QN L i).map λj=>Rf<|gL L j) (Rf<|gL L i) i:Nat):Int):=by
   obtain⟨o,e,k,rfl,F,A⟩:=H9 (B:=EK Y L[i]) (λs=>∃k:Nat,s=(k:Int)∧k<=i∧eX ((QN L i).map λj=>Rf (gL L j)) (Rf (gL L i)) k=eX ((QN L i).map λj=>Rf (gL L j)) (Rf (gL L i)) i) (λs=>s.toNat) (λo=>∃k:Nat,o=(k:Int)∧k<=i∧k=eX ((QN L i).map λj=>Rf (gL L j)) (Rf (gL L i)) i) (λs C=>by
    obtain⟨k,rfl,y,c⟩:=C;cases k with
    |zero=>left;exact⟨((0:Nat):Int),⟨0,rfl,y,by rw[<-c];rfl⟩,λrec=>by unfold EK;rfl⟩
    |succ k=>
     have b:k < (QN L i).length:=by omega
     have m:(QN L i)[k] < L.length:=by have:=(Wi L i _).1<|Aj b;omega
     have g1:AF Y (wZ<|((k+1:Nat):Int) - 1)=some (gL L (QN L i)[k]):=by rw[wrap_in (by omega),show((k+1:Nat):Int) - 1=(k:Int)by omega,<-t,G8,BZ,Ah b];rfl
     have D:gI ((QN L i).map λj=>Rf<|gL L j) k=Rf (gL L (QN L i)[k]):=by rw[Qq (by rw[Am];exact b),BO]
     have v:0 < (gL L (QN L i)[k]).length:=by rw[Uv m];exact d _<|Aj m
     have n:∀a,EK Y L[i] a ((k+1:Nat):Int)=cond (decide (Rf (gL L i) < Rf (gL L (QN L i)[k]))) (a (k:Int)) (some ((k+1:Nat):Int)):=λrec=>by unfold EK;rw[Ae (by omega:(0:Int) < ((k+1:Nat):Int)),g1];simp only[Ab,G];rw[ne v];simp only;rw[ne r];simp only;rw[wrap_in (by omega),show((k+1:Nat):Int) - 1=(k:Int)by omega,f]
     rw[eX,D]at c;by_cases p:Rf (gL L i) < Rf (gL L (QN L i)[k])
     ·right;rw[At p]at c;exact⟨(k:Int),⟨k,rfl,by omega,c⟩,by simp only[AB];omega,λrec=>by rw[n,Ae p];rfl⟩
     ·left;rw[As p]at c;exact⟨((k+1:Nat):Int),⟨k+1,rfl,y,c⟩,λrec=>by rw[n,Ac p];rfl⟩) fz (Y.length:Int) ⟨i,by rw[u],Bb _,rfl⟩ (by unfold fz;simp only[AB];omega)
   rw[e,A]
  have w:=mn ((QN L i).map λj=>Rf<|gL L j) (Rf<|gL L i) i;rw[QN,jR,t];generalize eX ((QN L i).map λj=>Rf<|gL L j) (Rf<|gL L i) i=k at g w;unfold FE;simp only;rw[Bc hi,AG hi];simp only[Ab,G];rw[g];simp only[Bn];have n:B5 Y 0 (k:Int)=Y.take k:=by unfold B5;rw[AB];rfl
  have e2:B5 Y (k:Int) (Y.length:Int)=Y.drop k:=by unfold B5;rw[AB,AB,Bl]
  rw[n,e2,Aw (by omega),Aw (by simp only[Bw,Av];unfold lim;omega),Aw (by simp only[Av,Af];unfold lim;omega),Aw (by omega),Aw (by simp only[Ak,Av,Af,Be];unfold lim;omega),Bm hi (Ba x.1)];unfold putAt;rw[Bg,f];rfl) (λrec=>by unfold FE;simp only;rw[A2];rfl) fz (EC x.1)
 exact this
def ZP(l:zN):zI:=l.map λ(j:Nat)=>(j:Int)
def uI(l:zN)(p v:Nat):CL (ZP l) (p:Int) (v:Int)=ZP (l.set p v):=by unfold CL ZP;rw[AB,List.map_set]
def lM{l}{p:Nat}(h:p < l.length):AF (ZP l) (p:Int)=some ((gN l p:Nat):Int):=by unfold ZP;rw[G8,BZ,Ah h,Afy h];rfl
def zL(A:L.length<=lim)(f:∀l∈L,l.length<=lim)(B:∀l∈L,Asc l):∀(m:Nat) (s:LfS),LfOk (E1 L) s->s.2.2.1=s.2.2.2.2 % (E1 L).length->s.1.length<=s.2.2.2.2->s.2.2.2.2+Xp (E1 L) s.2.1 (E1 L).length<=lim->
  Aq (FF<|E1 L) m (ZP s.2.1,s.2.2.2.1,s.1,((s.2.2.2.2+1:Nat):Int))=(lfR (E1 L) m s).map λr=>.inr (r.1,(r.2:Int))
 |0,s,h,c,g,v=>rfl
 |m+1,s,h,c,g,v=>by
  have x:∀l∈E1 L,Asc l:=λl I=>B l<|(RJ L l).1 I
  have⟨out,a,p,d,n⟩:=s;have⟨w,J,e2⟩:=jB h;have⟨C,y⟩:=jz h;have K:0 < (E1 L).length:=by have:=h.p;omega
  have b:=h.p;have e:p < a.length:=by have:=h.len;simp only at this b;omega
  have j:=(cM (M:=E1 L) e C y (E1 L).length).2 h.p;simp only at w J e2 C y j v c g b;have t:=f _<|(RJ L _).1<|U2 b;have N:(E1 L).length<=lim:=by rw[RI];exact A
  have D:Int.tmod (wZ<|((n+1:Nat):Int) - 1) ((E1 L).length:Int)=(p:Int):=by
   unfold lim at v;rw[wrap_in (by omega),show((n+1:Nat):Int) - 1=(n:Int)by omega,D6 (by omega),c]
   norm_cast
  have g2:AF (E1 L) (p:Int)=some (gL (E1 L) p):=by rw[AG b,Uv b]
  have O:AF (ZP a) (p:Int)=some ((gN a p:Nat):Int):=lM e;have P:AF (gL (E1 L) p) ((gN a p:Nat):Int)=some (gI (gL (E1 L) p)<|gN a p):=by rw[AG w,Qq w]
  have Q:wZ (((n+1:Nat):Int)+1)=((n+1+1:Nat):Int):=by unfold lim at v;rw[wrap_in (by omega)];omega
  have F:∀(o:zI) (i:Nat),o=lfO (E1 L) (out,a,p,d,n)->i=bU (E1 L) (out,a,p,d,n)->o.length<=n+1->
    FG (Aq (FF<|E1 L) m) (E1 L) ((n+1:Nat):Int) (gL (E1 L) p) (CL (ZP a) (p:Int) (i:Int)) o=(lfR (E1 L) (m+1) (out,a,p,d,n)).map λr=>.inr (r.1,(r.2:Int)):=by
   intro o i H hi z;unfold FG;rw[uI,D];have R:AF (ZP<|a.set p i) (p:Int)=some (i:Int):=by rw[lM (by rw[Bd];exact e),dJ e,At rfl]
   rw[R];simp only[G];rw[lfR];simp only[<-H,<-hi];by_cases k:i=(gL (E1 L) p).length
   ·rw[show((i:Int)==((gL (E1 L) p).length:Int))=true by rw[BK];omega,show(i==(gL (E1 L) p).length)=true by rw[BK];exact k];rfl
   ·rw[show((i:Int)==((gL (E1 L) p).length:Int))=false by rw[BC];omega,show(i==(gL (E1 L) p).length)=false by rw[BC];exact k];have q:i < (gL (E1 L) p).length:=by rw[<-hi]at y;omega
    rw[show AF (gL (E1 L) p) (i:Int)=some (gI (gL (E1 L) p) i)by rw[AG q,Qq q]];simp only[Aa];rw[Q];have u:=jA h x (by simp only;rw[<-hi];exact q);simp only[<-H,<-hi]at u j;exact zL A f B m (o,a.set p i,(p+1) % (E1 L).length,gI (gL (E1 L) p) i,n+1) u (by simp only;rw[c,Nat.mod_add_mod]) z (by simp only;omega)
  rw[A6,FF];simp only;rw[Aw (by omega),D,g2];simp only[G];rw[O];simp only;rw[P];simp only;cases k:(gI (gL (E1 L) p) (gN a p)==d)with
  |true=>simp only[Ab];rw[Aw (by simp only[Af];omega),show wZ (((gN a p:Nat):Int)+1)=((gN a p+1:Nat):Int)by unfold lim at t;rw[wrap_in (by omega)];omega];exact F _ _ (by unfold lfO;simp only;rw[k];rfl) (by unfold bU;simp only;rw[k];rfl) (by simp only[Ak,Af];omega)
  |false=>simp only[Aa];rw[Abf t (HP w)];exact F _ _ (by unfold lfO;simp only;rw[k];rfl) (by unfold bU;simp only;rw[k];rfl) (by omega)
def AiQ(h:YV L):II L=some (lfB L):=by
 have c:=h.lim;have d:=h.1;unfold II lfB;rw[Aa6 h];simp only[G];cases m:WF L with
 |false=>rfl
 |true=>
  simp only[Ai,Aa,AK];rw[xF h];simp only;cases o:(b5 L L.length==0)with
  |true=>rfl
  |false=>
   have⟨f,p⟩:=Yx m;have g:=e8 f o;have⟨out,n,e,_,_,w⟩:=pA h m o;simp only[Aa,BT,Ab];rw[Abd h g];simp only;have q:0 < (E1 L).length:=by rw[RI];exact f
   have i:(E1 L).length<=5:=by rw[RI];exact d
   have a:(E1 L).length - 1 < (E1 L).length:=by omega
   have r:=g _<|(RJ L _).1<|Aj a;rw[Aw (by rw[AB];unfold lim;omega),wrap_in (by omega),show((E1 L).length:Int) - 1=(((E1 L).length - 1:Nat):Int)by omega,AG a];simp only;rw[ne r];simp only;have j:=nB f g p;have s:=jV (M:=E1 L) (A:=(lf0<|E1 L).2.1) (B:=4000) (λl c=>h.2 l<|(RJ L l).1 c) (E1 L).length<|Bb _;have t:Xp (E1 L) (lf0<|E1 L).2.1 (E1 L).length<=20000:=BH s (by have:=BW 4000 i;omega);have b:=zL c.1 c.2 p fz (lf0<|E1 L) j (by show 0=0 % _;rw[Nat.zero_mod]) (Bb _) (by have:(lf0<|E1 L).2.2.2.2=0:=rfl;unfold lim;omega);have u:ZP (lf0<|E1 L).2.1=List.replicate (E1 L).length (0:Int):=by show ZP (zeros _)=_;unfold ZP zeros;rw[List.map_replicate];rfl
   have v:(lf0<|E1 L).2.2.2.1=Rf (E1 L)[(E1 L).length - 1]:=by show Rf (gL (E1 L)<|(E1 L).length - 1)=_;rw[Uv a]
   rw[AB,<-v,<-u];have k:(ZP (lf0<|E1 L).2.1,(lf0<|E1 L).2.2.2.1,([]:zI),(1:Int))=(ZP (lf0<|E1 L).2.1,(lf0<|E1 L).2.2.2.1,(lf0<|E1 L).1,(((lf0<|E1 L).2.2.2.2+1:Nat):Int)):=rfl;rw[k,b,e];rfl
end
def wrap_add(a b:Int):wZ (wZ a+b)=wZ (a+b):=by
 (try unfold wZ)<;>unfold IntKind.wrap
 simp only[IntKind.signed,IntKind.bits,AK,Bu,ge_iff_le];split<;>split<;>(try split)<;>omega
def OM{α:Type}(f:α->Int):List α->Int
 |[]=>0
 |x::l=>f x+OM f l
def mu{α:Type}(f:α->Int):∀a b:List α,OM f (a++b)=OM f a+OM f b
 |[],b=>by simp[OM]
 |x::a,b=>by rw[Cq,OM,OM,mu f a b];omega
def im{α β:Type}(f:β->Int)(g:α->List β):∀l:List α,OM f (l.flatMap g)=OM (λx=>OM f<|g x) l
 |[]=>rfl
 |x::l=>by rw[AI,mu,OM,im f g l]
def mw{α β:Type}(f:β->Int)(g:α->β):∀l:List α,OM f (l.map g)=OM (λx=>f<|g x) l
 |[]=>rfl
 |x::l=>by rw[AH,OM,OM,mw f g l]
def mt{α:Type}(f g:α->Int):∀l:List α,OM (λx=>f x+g x) l=OM f l+OM g l
 |[]=>rfl
 |x::l=>by rw[OM,OM,OM,mt f g l];omega
def io{α:Type}:∀l:List α,OM (λ_=>(0:Int)) l=0
 |[]=>rfl
 |x::l=>by rw[OM,io l];rfl
def aP{α:Type}(f g:α->Int)(b:∀n v,wZ (n+f v)=wZ (n+g v)):∀(l:List α) (a:Int),l.foldl (λn v=>wZ<|n+f v) (wZ a)=wZ (a+OM g l)
 |[],a=>by rw[List.foldl_nil,OM];congr 1;omega
 |x::l,a=>by rw[DR,b,wrap_add,aP f g b l,OM];congr 1;omega
section
variable {T:List Yu}{q:K8}{o:zI}
def AiU{a pre}(e:a.2.length<=lim)(h:pre.length<=o.length)(i:o.length<=5):Aq (H7 o pre a) fz (([]:zI),0)=some (fE a o pre pre.length):=by
 have d:pre.length<=lim:=by unfold lim;omega
 have:=DQ (body:=H7 o pre a) (out:=fE a o pre pre.length) (λk=>(fE a o pre k,(k:Int))) pre.length (λk c b=>by
  have f:=eG a o pre k (by omega);have j:=sX a o k;have g:∀y,KB b (k:Int) y=b (y,((k+1:Nat):Int)):=λy=>by unfold KB;rw[Bm c (Ba d)]
  unfold H7;simp only;rw[Bc c,AG c,AG (l:=o) (by omega),fE,HZ (l:=o) (by omega),HZ c];simp only[Ab,G];rw[ro e];simp only[g];cases a.2.contains o[k]with
  |true=>simp only[Ab];rw[Aw (by simp only[Af];unfold lim;omega)]
  |false=>simp only[Aa,AN]) (λrec=>by unfold H7;simp only;rw[A2];rfl) fz (EC d)
 exact this
def Aba(h:TriesOk T q o){pre:zI}(d:pre.length < o.length):QC q T o pre=some (jv T q o pre):=by
 have n:=LD h.ov;have g:=T0 h.qv;have j:=(YR h.qv).2.2.1;unfold QC jv
 have:=DQ (body:=H6 q T o pre) (out:=(ZD q (Qi o (pre.length:Int)) q.2.1.length).map λi=>chB ((T[i]?).getD (0,[])) (fE ((q.2.1[i]?).getD ([],[])) o pre pre.length)) (λi=>((ZD q (Qi o (pre.length:Int)) i).map λi=>chB ((T[i]?).getD (0,[])) (fE ((q.2.1[i]?).getD ([],[])) o pre pre.length),(i:Int))) q.2.1.length (λi hi a=>by
  have e:=cG q (Qi o (pre.length:Int)) i;have b:=(h.sm.2.1 _<|Aj hi).2;have c:i < T.length:=by rw[h.len];exact hi
  have l:=qK h hi (k:=pre.length) (by omega);have f:∀y,KA a (i:Int) y=a (y,((i+1:Nat):Int)):=λy=>by unfold KA;rw[Bm hi (Ba h.sm.1)]
  unfold H6;simp only;rw[Bc hi,AG hi,AG d,zQ,Cx hi,BM,HZ d];simp only[Ab,G];rw[ro b];simp only;cases p:q.2.1[i].2.contains o[pre.length]with
  |false=>simp only[BT,Ab,Aa,Dv,AN];exact f _
  |true=>simp only[Ai,Aa,Ab];rw[AiU b (by omega) (by omega)];simp only;rw[AG c];simp only;rw[AiL (by rw[eG _ _ _ _ (by omega)];exact l)];simp only;rw[Aw (by rw[Am];simp only[Af];unfold lim;rw[HZ d]at e;omega),f,AH,Dv,Ah c,Ah hi];rfl) (λrec=>by unfold H6;simp only;rw[A2];rfl) fz (EC h.sm.1)
 have m:Aq (H6 q T o pre) fz (([]:List zI),0)=some ((ZD q (Qi o (pre.length:Int)) q.2.1.length).map λi=>chB ((T[i]?).getD (0,[]))<|fE ((q.2.1[i]?).getD ([],[])) o pre pre.length):=this;rw[m];rfl
def Uk(T:List Yu)(q:K8)(o:zI):Nat->List zI
 |0=>[[]]
 |k+1=>(Uk T q o k).flatMap λp=>(ky T q o p).1.map λv=>p++[v]
def stK(T:List Yu)(q:K8)(o:zI):Nat->Int
 |0=>0
 |k+1=>(Uk T q o k).foldl (λn p=>wZ<|n+(ky T q o p).2)<|stK T q o k
def jE:∀(k:Nat) (p:zI),p∈Uk T q o k->p.length=k
 |0,p,h=>by rw[Uk,AU]at h;subst h;rfl
 |k+1,p,h=>by rw[Uk]at h;have⟨b,a,c⟩:=CA.1 h;obtain⟨v,_,rfl⟩:=Bq.1 c;rw[Ak,jE k b a,Af]
def dF{α β:Type}{f:α->List β}{B:Nat}:∀(l:List α),(∀x∈l,(f x).length<=B)->(l.flatMap f).length<=l.length * B
 |[],_=>by simp
 |x::l,h=>by
  have b:=h x (by simp);have c:=dF l λy a=>h y (by simp[a])
  rw[AI,Ak,Ar,CN,DK];omega
def uD(h:TriesOk T q o)(a:∀t∈T,t.2.length<=16):∀k,k<=o.length->(Uk T q o k).length<=16 ^ k
 |0,_=>by rw[Uk];simp
 |k+1,d=>by have b:=uD h a k (by omega);rw[Uk,CX];refine BH (dF _ λp c=>?_)<|BW 16 b;rw[Am];exact(YN h a<|by rw[jE k p c];omega).1
def AhF{k}(h:k<=5):16 ^ k<=1048576:=Ec (show 0 < 16 by decide) h
def xD(h:TriesOk T q o)(a:∀t∈T,t.2.length<=16){n:Nat}(C:n<=o.length):FY q T o (n:Int)=some (Uk T q o n,stK T q o n,decide (((Uk T q o n).length:Int)<=4000)):=by
 have D:=LD h.ov;have w:=T0 h.qv;unfold FY
 have:=DQ (body:=Eo q T o (n:Int)) (out:=(Uk T q o n,stK T q o n)) (λk=>(Uk T q o k,stK T q o k,(k:Int))) n (λk s b=>by
  have x:=uD h a k (by omega);have u:=AhF (show k<=5 by omega)
  have m:=DQ (body:=Ep q T o (Uk T q o k)) (out:=(stK T q o (k+1),Uk T q o (k+1))) (λj=>(((Uk T q o k).take j).foldl (λn p=>wZ (n+(ky T q o p).2)) (stK T q o k),((Uk T q o k).take j).flatMap (λp=>(ky T q o p).1.map λv=>p++[v]),(j:Int))) (Uk T q o k).length (λj c b=>by
   have y:(Uk T q o k)[j].length=k:=jE k _<|Aj c;have⟨F,H,I⟩:=YN h a (pre:=(Uk T q o k)[j]) (by omega);have d:(((Uk T q o k).take j).flatMap<|λp=>(ky T q o p).1.map λv=>p++[v]).length<=16777216:=by have:=dF (f:=λp=>(ky T q o p).1.map λv=>p++[v]) (B:=16) ((Uk T q o k).take j) (λp z=>by rw[Am];exact(YN h a (by rw[jE k p (C5 z)];omega)).1);rw[Av]at this;omega
   generalize e:((Uk T q o k).take j).flatMap (λp=>(ky T q o p).1.map λv=>p++[v])=acc at d;have g:=DQ (body:=Er (Uk T q o k)[j] (ky T q o (Uk T q o k)[j])) (out:=acc++(ky T q o (Uk T q o k)[j]).1.map λv=>(Uk T q o k)[j]++[v]) (λi=>(acc++((ky T q o (Uk T q o k)[j]).1.take i).map (λv=>(Uk T q o k)[j]++[v]),(i:Int))) (ky T q o (Uk T q o k)[j]).1.length (λi hi b=>by unfold Er;simp only;rw[Bc hi,AG hi];simp only[Ab,G];rw[pi (by unfold lim;omega)];simp only;rw[Aw (by simp only[Af];unfold lim;omega),Aw (by simp only[Ak,Am,Av,Af];unfold lim;omega),Bm hi (by unfold maxLen;omega),A7 hi,BM,Bg];rfl) (λrec=>by unfold Er;simp only;rw[A2,Bl];rfl) fz (by unfold fz;omega);unfold Ep;simp only;rw[Bc c,AG c];simp only[Ab,G];rw[Aba h (by omega)];simp only;rw[AiQ (lC h<|by omega).1];simp only;rw[show lfB (jv T q o (Uk T q o k)[j])=ky T q o (Uk T q o k)[j]from rfl];rw[L9,Dv,AN]at g;have r:Aq (Er (Uk T q o k)[j]<|ky T q o (Uk T q o k)[j]) fz (acc,0)=some (acc++(ky T q o (Uk T q o k)[j]).1.map λv=>(Uk T q o k)[j]++[v]):=g;rw[r];simp only;rw[A7 c,Lz,Dg,e,AI,F3,AN,Bm c (by unfold maxLen;omega)];rfl) (λrec=>by unfold Ep;simp only;rw[A2,Bl];rfl) fz (by unfold fz;omega)
  have l:Aq (Ep q T o<|Uk T q o k) fz (stK T q o k,([]:List zI),0)=some (stK T q o<|k+1,Uk T q o<|k+1):=m;unfold Eo;simp only;rw[Bc s,l,Bm s (by unfold maxLen;omega)];rfl) (λrec=>by unfold Eo;simp only;rw[A2];rfl) fz (by unfold fz;omega)
 have A:Aq (Eo q T o (n:Int)) fz (([[]]:List zI),0,0)=some (Uk T q o n,stK T q o n):=this;rw[A];rfl
def kV{α:Type}:∀l:List α,(l.flatMap λp=>[p])=l
 |[]=>rfl
 |x::l=>by rw[AI,kV l];rfl
def zY:∀(k r:Nat),(Uk T q o k).flatMap (λp=>(wk T q o r p).1)=(wk T q o (k+r) []).1
 |0,r=>by rw[Uk,AI,F3,AN,Cw]
 |k+1,r=>by rw[Uk,List.flatMap_assoc,show k+1+r=k+(r+1)by omega,<-zY k (r+1)];congr 1;funext p;rw[List.flatMap_map];rfl
def tk(T:List Yu)(q:K8)(o:zI):Nat->zI->Int
 |0,_=>0
 |r+1,pre=>(ky T q o pre).2+OM (λv=>tk T q o r<|pre++[v]) (ky T q o pre).1
def AfZ(h:TriesOk T q o){pre:zI}(a:pre.length < o.length):wZ (ky T q o pre).2=(ky T q o pre).2:=by have:=pB (lC h a).1;have b:=this.2.2.2;exact wrap_in (by unfold ky;omega)
def Aao(h:TriesOk T q o):∀(r:Nat) (pre:zI),pre.length+r=o.length->(wk T q o r pre).2=wZ (tk T q o r pre)
 |0,pre,b=>rfl
 |r+1,pre,b=>by
  have a:∀v:Int,(pre++[v]).length+r=o.length:=λv=>by rw[Ak,Af];omega
  have c:=λv=>Aao h r (pre++[v])<|a v
  rw[wk,tk];simp only;rw[<-aP (λv=>(wk T q o r<|pre++[v]).2) (λv=>tk T q o r<|pre++[v]) (λn v=>by rw[c v,Int.add_comm,wrap_add,Int.add_comm]),AfZ h (by omega)]
def sK(T:List Yu)(q:K8)(o:zI):Nat->Int
 |0=>0
 |k+1=>sK T q o k+OM (λp=>(ky T q o p).2) (Uk T q o k)
def Ah9:∀k,stK T q o k=wZ (sK T q o k)
 |0=>rfl
 |k+1=>by rw[stK,Ah9 k,sK,aP _ (λp=>(ky T q o p).2) (λn v=>rfl)]
def Ah7:∀(k r:Nat),sK T q o k+OM (λp=>tk T q o r p) (Uk T q o k)=tk T q o (k+r) []
 |0,r=>by rw[sK,Uk,OM,OM,Cw];omega
 |k+1,r=>by
  rw[show k+1+r=k+(r+1)by omega,<-Ah7 k (r+1),sK,Uk,im];have e:(λp=>tk T q o (r+1) p)=λp=>(ky T q o p).2+OM (λv=>tk T q o r<|p++[v]) (ky T q o p).1:=by funext p;rw[tk]
  have e2:(λp=>OM (λp=>tk T q o r p)<|(ky T q o p).1.map λv=>p++[v])=λp=>OM (λv=>tk T q o r<|p++[v]) (ky T q o p).1:=by funext p;rw[mw]
  rw[e,mt,e2];omega
def AdG:Uk T q o o.length=(wk T q o o.length []).1:=by have:=zY (T:=T) (q:=q) (o:=o) o.length 0;rw[Di]at this;rw[<-this];exact(kV _).symm
def Aeq(h:TriesOk T q o):stK T q o o.length=(wk T q o o.length []).2:=by
 have:=Ah7 (T:=T) (q:=q) (o:=o) o.length 0;rw[Di]at this;rw[Ah9,Aao h o.length [] (by simp),<-this];have e:(λp=>tk T q o 0 p)=λ_=>(0:Int):=by funext p;rw[tk]
 rw[e,io,Int.add_zero]
def oE:∀(p a b:zI),Fa (p++a) (p++b)=Fa a b
 |[],a,b=>rfl
 |x::p,a,b=>by rw[Cq,Cq,Fa,As (by omega),As (by omega)];exact oE p a b
def wu(h:TriesOk T q o)(b:∀t∈T,t.2.length<=16):∀(r:Nat) (pre:zI),pre.length+r=o.length->ao (wk T q o r pre).1
 |0,pre,i=>by rw[wk];exact D0 _ _
 |r+1,pre,i=>by
  have a:∀v:Int,(pre++[v]).length+r=o.length:=λv=>by rw[Ak,Af];omega
  have j:=λv=>wu h b r (pre++[v])<|a v
  have⟨p,k,s⟩:=YN h b (pre:=pre) (by omega);rw[wk];unfold ao;simp only;rw[List.pairwise_flatMap];refine⟨λv _=>j v,k.imp λ{v c} l x m y n=>?_⟩;have d:=((XB h b r (pre++[v])<|a v).2 x m).2.1;have e:=((XB h b r (pre++[c])<|a c).2 y n).2.1;have f:=Db (pre++[v]).length x;have g:=Db (pre++[c]).length y;rw[d]at f;rw[e]at g;rw[<-f,<-g,Bg,Bg,oE];show Fa (v::_) (c::_) < 0;rw[Fa,At l];omega
def wO{x}(h:∀e∈x,0<=e∧e<=99):Sw x=true:=by
 unfold Sw
 rw[df λi hi=>by
  have:=h _<|Aj hi
  first
   |(rw[Cx hi];unfold FX;simp;omega)
   |(unfold FX;simp;omega)]
 rfl
def AhA(h:TriesOk T q o)(c:∀t∈T,t.2.length<=16):jG (o.length:Int) (wk T q o o.length []).1=cond (decide (((wk T q o o.length []).1.length:Int)<=4000)) (((o.length:Int),(wk T q o o.length []).1),true) ((0,[]),false):=by
 have l:=LD h.ov;have j:=T0 h.qv;have⟨m,f⟩:=XB h c o.length [] (by simp);have g:=wu h c o.length [] (by simp);have a:∀x∈(wk T q o o.length []).1,x.length=o.length∧Sw x=true:=λx d=>⟨(f x d).1,wO<|(f x d).2.2 λe k=>by cases k⟩
 have b:sortB (wk T q o o.length []).1=(wk T q o o.length []).1:=(ZZ g λz=>DL).symm;unfold jG
 rw[b,df λi hi=>by
  have:=a _<|Aj hi
  first
   |(unfold UD;rw[this.1,this.2];simp)
   |(rw[Cx hi];unfold UD;rw[this.1,this.2];simp)]
 rw[Aa]
 have e:Rc ((o.length:Int),(wk T q o o.length []).1)=decide (((wk T q o o.length []).1.length:Int)<=4000):=by
  rw[Ck,yz,Bu];constructor
  ·rintro⟨_,i,_⟩;simp only at i;omega
  ·intro i;exact⟨⟨by simp only;omega,by simp only;omega⟩,by simp only;omega,λx d=>⟨by rw[(a x d).1],(a x d).2⟩,g⟩
 rw[e];cases decide (((wk T q o o.length []).1.length:Int)<=4000)<;>rfl
end
def AiN{T}(b:T.length<=lim):QD T=some (emB T):=by
 unfold QD emB;have:=W1 (B:=NF T) (n:=T.length) (λk=>I0 T k λt=>(t.2.length:Int)==0) true b (λk a c=>by unfold NF;rw[Bc a,AG a,Bm a (Ba b),Cx a];rfl) (λrec=>by unfold NF;rw[A2];rfl);rw[this];have e:(List.range T.length).any (λk=>I0 T k λt=>(t.2.length:Int)==0)=BL T λ_ t=>(t.2.length:Int)==0:=rfl
 rw[e];cases BL T λ_ t=>(t.2.length:Int)==0<;>rfl
section
variable {d:List Tp}{q:K8}{o:zI}
def Aa9(h:Up d)(c:T4 q)(g:o.length<=lim):Kt d q o=some (bV d q o):=by
 unfold Kt bV;rw[xG h c g];unfold bJ;cases e:Ju d q with
 |false=>rfl
 |true=>
  cases a:Un q o with
  |false=>rfl
  |true=>
   simp only[FZ,Ab,G,Ai,Aa];have b:=ae (d:=d) c e a;have f:=LD a;rw[show q.2.1.map (b8 d o)=cT d q o from rfl]at b⊢;rw[AiN (by rw[b.len];exact c.1)];simp only;rw[<-f.1];cases emB (cT d q o)with
   |true=>rfl
   |false=>simp only[Aa];rw[xD b (fy e a) (Bb _)];simp only;rw[AdG,Aeq b,AhA b (fy e a)];cases decide (((wk (cT d q o) q o o.length []).1.length:Int)<=4000)<;>rfl
end
section
variable {d:List Tp}{q:K8}
def Yj(d:List Tp)(q:K8):zI:=q.2.1.map λa=>((abB d a).2.length:Int)
def qq(h:Up d)(e:T4 q):Oc d q=some (cond (Ju d q) (Yj d q,true) ([],false)):=by
 unfold Oc;rw[vJ h e];simp only[G];cases f:Ju d q with
 |false=>rfl
 |true=>have⟨g1,g2,i⟩:=TZ f;rw[Ai,Aa,Jo (a:=q.2.1) (h:=λa=>((abB d a).2.length:Int)) (by unfold lim;omega) (λk b g=>by have c:=g2 _<|Aj b;unfold QR;simp only;rw[Bc b,Ab,AG b];simp only[G];rw[AhO h c.1 c.2];simp only;rw[Aw (by simp only[Am,Av,Af];unfold lim;omega),Bm b (Ba (by unfold lim;omega))]) (λrec y=>by unfold QR;simp only[A2,Aa])];rfl
def pq(h:Up d)(e:T4 q):NV d q=some (cond (Ju d q) (Yj d q,true) ([],false)):=by
 unfold NV;rw[tV h e];simp only[G];cases f:Ju d q with
 |false=>rfl
 |true=>have⟨g1,g2,i⟩:=TZ f;rw[Ai,Aa,Jo (a:=q.2.1) (h:=λa=>((abB d a).2.length:Int)) (by unfold lim;omega) (λk b g=>by have c:=g2 _<|Aj b;unfold Qr;simp only;rw[Bc b,Ab,AG b];simp only[G];rw[AfA h c.1 c.2];simp only;rw[Aw (by simp only[Am,Av,Af];unfold lim;omega),Bm b (Ba (by unfold lim;omega))]) (λrec y=>by unfold Qr;simp only[A2,Aa])];rfl
end
section
variable {d:List Tp}{q:K8}{c:Crt}
def jq(d:List Tp)(q:K8)(c:Crt):Bool:=(bV d q c.1).2.2&&(Ju d q&&(icB q c&&((((bV d q c.1).1.2.length:Int)==c.2.2.2.1)&&(((bV d q c.1).2.1==c.2.2.2.2)&&(Yj d q==c.2.2.1)))))
def wg(a:Ju d q=true):(Yj d q).length<=lim:=by have⟨g1,g2,b⟩:=TZ a;unfold Yj;rw[Am];unfold lim;omega
def Ajb(h:Up d)(a:T4 q)(b:smC c):JT d q c=some (jq d q c):=by
 unfold JT jq;rw[AhX h a b.1,Bo,qq h a,Bo,Ad9 a b,Bo];cases(bV d q c.1).2.2 with
 |false=>rfl
 |true=>
  cases e:Ju d q with
  |false=>rfl
  |true=>
   simp only[Ab,AK];cases icB q c with
   |false=>rfl
   |true=>
    cases((bV d q c.1).1.2.length:Int)==c.2.2.2.1 with
    |false=>rfl
    |true=>
     cases(bV d q c.1).2.1==c.2.2.2.2 with
     |false=>rfl
     |true=>simp only[Ab,AK];rw[Xq (wg e),Bo,cmp_eq];rfl
def AiP(h:Up d)(a:T4 q)(b:smC c):JL d q c=some (jq d q c):=by
 unfold JL jq;rw[pq h a,Bo,Aa9 h a b.1,Bo];cases e:Ju d q with
 |false=>cases(bV d q c.1).2.2<;>rfl
 |true=>
  cases(bV d q c.1).2.2 with
  |false=>rfl
  |true=>
   simp only[Ab,AK];rw[AfN a b,Bo];cases icB q c with
   |false=>rfl
   |true=>rw[Ab,nl (wg e),Bo];cases Yj d q==c.2.2.1<;>cases((bV d q c.1).1.2.length:Int)==c.2.2.2.1<;>cases(bV d q c.1).2.1==c.2.2.2.2<;>rfl
end
def gf{α:Type}:∀(l:List α) (k:Nat),(C8 k l).map (·.1)=List.range' k l.length
 |[],_=>rfl
 |x::l,k=>by rw[C8,AH,gf l (k+1),Ar,Dm]
def RW{α:Type}(l:List α):Ls l=List.range l.length:=by rw[Ls,gf,GN]
def hZ{α:Type}:∀(l p:List α),Jt (p++l) (List.range' p.length l.length)=l
 |[],p=>rfl
 |x::l,p=>by have h:=hZ l<|p++[x];rw[Bg,Fd,Ak,Af]at h;rw[Ar,Dm];unfold Jt at h⊢;rw[AI,h];simp
def va{α:Type}(l:List α):Jt l (Ls l)=l:=by rw[RW,GN];exact hZ l []
def lP:∀(n k m:Nat) (a:zN),k+n<=m->(∀j∈a,j < k)->gH m (List.range' k n) a=true
 |0,_,_,_,_,_=>rfl
 |n+1,k,m,a,h,c=>by
  rw[Dm,gH,Ad,Ad,AY];refine⟨⟨by rw[Nat.blt_eq];omega,?_⟩,lP n (k+1) m (k::a) (by omega)<|λj b=>?_⟩
  ·cases d:a.contains k with
   |false=>rfl
   |true=>exact absurd (c k<|Bk.1 d)<|Ka _
  ·rcases AA.1 b with rfl|b
   ·omega
   ·have:=c j b;omega
def ya{α:Type}(l:List α):gH l.length (Ls l) []=true:=by rw[RW,GN];exact lP _ 0 _ [] (by omega) (by simp)
def SI{S O:Type}(st:Nat->S->Sum S O):Nat->Nat->S->Sum S O
 |0,_,s=>.inl s
 |j+1,k,s=>match st k s with
  |.inl a=>SI st j (k+1) a
  |.inr o=>.inr o
def VL{S T O R:Type}{B n}(a:S->Nat->T)(Inv:Nat->S->Prop)(st:Nat->S->Sum S O)(b:Sum S O->R)
  (e:∀c k s,k < n->Inv k s->B c (a s k)=match st k s with|.inl d=>c (a d<|k+1)|.inr o=>some<|b<|.inr o)
  (h:∀c s,Inv n s->B c (a s n)=some (b<|.inl s))
  (i:∀k s d,k < n->Inv k s->st k s=.inl d->Inv (k+1) d):∀(j k:Nat) (s:S) (f:Nat),k+j=n->j < f->Inv k s->Aq B f (a s k)=some (b<|SI st j k s)
 |0,k,s,f,l,m,hi=>by
  obtain⟨f,rfl⟩:∃g,f=g+1:=⟨f - 1,by omega⟩;obtain rfl:k=n:=by omega
  rw[A6,h _ s hi];rfl
 |j+1,k,s,f,l,m,hi=>by
  obtain⟨f,rfl⟩:∃g,f=g+1:=⟨f - 1,by omega⟩;rw[A6,e _ k s (by omega) hi,SI];cases p:st k s with
  |inl d=>exact VL a Inv st b e h i j (k+1) d f (by omega) (by omega)<|i k s d (by omega) hi p
  |inr o=>rfl
def E7{S T O R:Type}{B n}(a:S->Nat->T)(Inv:Nat->S->Prop)(st:Nat->S->Sum S O)(b:Sum S O->R)(e:n<=lim)
  (f:∀c k s,k < n->Inv k s->B c (a s k)=match st k s with|.inl d=>c (a d<|k+1)|.inr o=>some<|b<|.inr o)
  (g:∀c s,Inv n s->B c (a s n)=some (b<|.inl s))
  (h:∀k s d,k < n->Inv k s->st k s=.inl d->Inv (k+1) d) (s:S) (hi:Inv 0 s):Aq B fz (a s 0)=some (b<|SI st n 0 s):=
 VL a Inv st b f g h n 0 s fz (by omega) (EC e) hi
def eU{α O:Type}(g:Nat->α):∀(j k:Nat) (s:List α),SI (O:=O) (λk s=>.inl<|s++[g k]) j k s=.inl (s++(List.range' k j).map g)
 |0,k,s=>by rw[SI];simp
 |j+1,k,s=>by rw[SI];simp only;rw[eU g j (k+1),Dm,AH,Bg];rfl
def QH{α O:Type}(g:Nat->Sum α O):Nat->Nat->Sum (List α) O
 |0,_=>.inl []
 |j+1,k=>match g k with
  |.inr o=>.inr o
  |.inl x=>match QH g j (k+1)with
   |.inl l=>.inl<|x::l
   |.inr o=>.inr o
def ko{α O:Type}(s:List α):Sum α O->Sum (List α) O
 |.inl x=>.inl<|s++[x]
 |.inr o=>.inr o
def T3{α O:Type}(g:Nat->Sum α O):∀(j k:Nat) (s:List α),SI (λk s=>ko s<|g k) j k s=(match QH g j k with|.inl l=>.inl (s++l)|.inr o=>.inr o)
 |0,k,s=>by rw[SI,QH];simp
 |j+1,k,s=>by
  rw[SI,QH];cases a:g k with
  |inr o=>rfl
  |inl x=>
   rw[show ko (O:=O) s (.inl x)=.inl (s++[x])from rfl];simp only;rw[T3 g j (k+1)];cases QH g j (k+1)with
   |inr o=>rfl
   |inl l=>simp only[Bg,Fd]
def ZN{α O:Type}{g:Nat->Sum α O}:∀{j k:Nat}{l:List α},QH g j k=.inl l->l.length=j
 |0,_,_,h=>by cases h;rfl
 |j+1,k,l,h=>by
  rw[QH]at h;cases b:g k with
  |inr o=>rw[b]at h;cases h
  |inl x=>
   rw[b]at h;cases a:QH g j (k+1)with
   |inr o=>simp only[a]at h;cases h
   |inl c=>simp only[a]at h;cases h;rw[Ar,ZN a]
def nP{α:Type}(l:List α)(j:Nat)(J:zN):Jt l (j::J)=(l[j]?).toList++Jt l J:=by rw[Jt,AI];rfl
def hO{α:Type}[Inhabited α](l:List α):∀{J:zN},(∀j∈J,j < l.length)->Jt l J=J.map λj=>l.getD j default
 |[],_=>rfl
 |j::J,h=>by have a:=h j BG;rw[nP,hO l λi hi=>h i (AV _ hi),AH,Ah a,A1,Ah a];rfl
def uR{n}:∀{J seen:zN},J.Nodup->(∀j∈J,j < n∧j∉seen)->gH n J seen=true
 |[],_,_,_=>rfl
 |j::J,seen,hn,h=>by
  have⟨h1,h2⟩:=BF.1 hn;have⟨h3,h4⟩:=h j BG;rw[gH,Ad,Ad,AY];refine⟨⟨by rw[Nat.blt_eq];exact h3,?_⟩,uR h2 λi hi=>⟨(h i<|AV _ hi).1,λhm=>?_⟩⟩
  ·cases hc:seen.contains j with
   |false=>rfl
   |true=>exact absurd (Bk.1 hc) h4
  ·rcases AA.1 hm with rfl|hm
   ·exact h1 hi
   ·exact(h i<|AV _ hi).2 hm
def sw(p k i:Nat):Nat:=if i=p then k else if i=k then p else i
def Aes{p k i j}(h:sw p k i=sw p k j):i=j:=by unfold sw at h;split at h<;>split at h<;>(try split at h)<;>(try split at h)<;>omega
def zc{n p k}(b:p < n)(c:k < n):((List.range n).set k p).set p k=(List.range n).map (sw p k):=by
 apply Ej
 ·simp
 ·intro i a d;simp only[Bd,DG]at a;rw[ER,BO,Fm];unfold sw;by_cases e:p=i
  ·subst e;simp
  ·rw[As e,As (λh=>e h.symm),ER];by_cases e2:k=i
   ·subst e2;simp
   ·rw[As e2,As (λh=>e2 h.symm),Fm]
def we{n p k}(b:p < n)(c:k < n):((List.range n).set p k).set k p=(List.range n).map (sw p k):=by
 apply Ej
 ·simp
 ·intro i a d;simp only[Bd,DG]at a;rw[ER,BO,Fm];unfold sw;by_cases e:k=i
  ·subst e;rw[At rfl];split
   ·rename_i h;exact h.symm
   ·rw[At rfl]
  ·rw[As e,ER];by_cases e2:p=i
   ·subst e2;simp
   ·rw[As e2,As (λh=>e2 h.symm),As (λh=>e h.symm),Fm]
def Aal{n p k i}(a:p < n)(b:k < n)(hi:i < n):sw p k i < n:=by unfold sw;split;exact b;split;exact a;exact hi
def Aam{n p k}(a:p < n)(b:k < n):gH n ((List.range n).map<|sw p k) []=true:=by
 refine uR ?_ λj c=>?_
 ·unfold List.Nodup;rw[E4];exact O5 (λh e=>h<|Aes e)<|show(List.range n).Pairwise (· ≠ ·)from F4
 ·obtain⟨i,hi,rfl⟩:=Bq.1 c;exact⟨Aal a b<|AQ.1 hi,by simp⟩
def swL{α:Type}[Inhabited α](m:List α)(p k:Nat):List α:=(m.set k<|m.getD p default).set p<|m.getD k default
def wd{α:Type}[Inhabited α]{m:List α}{p k:Nat}(b:p < m.length)(c:k < m.length):Jt m ((List.range m.length).map<|sw p k)=swL m p k:=by
 rw[hO m λj d=>by obtain⟨i,hi,rfl⟩:=Bq.1 d;exact Aal b c (AQ.1 hi),EY];unfold swL;apply Ej
 ·simp
 ·intro i a f;simp only[Am,DG]at a;rw[BO,Fm,ER];simp only[Function.comp];unfold sw;by_cases e:p=i
  ·subst e;simp
  ·rw[As e,As (λh=>e h.symm),ER];by_cases e2:k=i
   ·subst e2;simp
   ·rw[As e2,As (λh=>e2 h.symm),A1,Ah a];rfl
def zb{α:Type}[Inhabited α](m:List α)(p k:Nat):(swL m p k).length=m.length:=by unfold swL;simp
end Go.Proofs.YtpnoalhfjnjeaaaGreatDoor
