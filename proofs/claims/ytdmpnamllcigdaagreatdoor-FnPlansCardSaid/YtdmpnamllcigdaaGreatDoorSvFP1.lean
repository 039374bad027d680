/- Ascending lists of small numbers, and how the program unites them. On the printed functions; conditions: numbers from 0 to 99. -/
import Derived.Test.YtdmpnamllcigdaaGreatDoorQfFP1
import Derived.Test.YtdmpnamllcigdaaGreatDoorAlFP1
import Derived.Test.YtdmpnamllcigdaaGreatDoorKc
import Derived.Test.YtdmpnamllcigdaaGreatDoorKe
open Go.RowKit
set_option linter.all false
namespace Go.Proofs.YtdmpnamllcigdaaGreatDoor
section
def Ds(n:Nat)(S:Nat->Bool):zI:=((List.range n).filter S).map λ(v:Nat)=>(v:Int)
def Nc(n:Nat)(S:Nat->Bool):(Ds n S).length<=n:=by unfold Ds;rw[Ai];exact Bm (BY _ _) nF
def jZ(n:Nat)(S:Nat->Bool):Ds (n+1) S=Ds n S++(if S n=true then [(n:Int)]else []):=by
 unfold Ds;rw[CO,CQ,Br];split
 ·rename_i h;simp[h]
 ·rename_i h;simp[h]
def z5{n S x}(h:x∈Ds n S):x < n:=by unfold Ds at h;obtain⟨v,a,rfl⟩:=Aw.1 h;have:=Ao.1 (AM.1 a).1;omega
def upN(e m:Nat)(S:Nat->Bool):zI:=((List.range m).filter λ(v:Nat)=>S<|e+1+v).map λ(v:Nat)=>((e+1+v:Nat):Int)
def zD{e m:Nat}{S x}(h:x∈upN e m S):(e:Int) < x:=by unfold upN at h;obtain⟨v,a,rfl⟩:=Aw.1 h;omega
def iQ{n e:Nat}(b:e < n)(S:Nat->Bool):Ds n S=Ds e S++((if S e=true then [(e:Int)]else [])++upN e (n - (e+1)) S):=by
 have h:n=(e+1)+(n - (e+1)):=aG;have a:∀m,Ds ((e+1)+m) S=Ds (e+1) S++upN e m S:=by intro m;unfold Ds upN;rw[List.range_add,CQ,Br];congr 1;rw[List.filter_map,D4];rfl
 conv=>lhs;rw[h]
 rw[a,jZ,Bw]
def bo(S:Nat->Bool)(e:Nat):Nat->Bool:=λv=>S v || v==e
def asc_add{n e:Nat}(b:e < n)(S:Nat->Bool):Ds n (bo S e)=Ds e S++((e:Int)::upN e (n - (e+1)) S):=by
 rw[iQ b]
 have c:Ds e (bo S e)=Ds e S:=by
  unfold Ds;congr 1;apply FF;intro v a;have:=Ao.1 a;unfold bo;have:(v==e)=false:=by simp;omega
  rw[this,Dv]
 have d:upN e (n - (e+1)) (bo S e)=upN e (n - (e+1)) S:=by
  unfold upN;congr 1;apply FF;intro v a;unfold bo;have:(e+1+v==e)=false:=by simp;omega
  rw[this,Dv]
 have f:bo S e e=true:=by simp[bo]
 rw[c,d,f];rfl
def AiK{A R e}(g:∀x∈A,x < e)(h:∀x∈R,e<=x)(d:(A++R).length<=lim):Ay (Nw (A++R) e) fz 0=some (A.length:Int):=by
 have b:A.length<=lim:=by simp at d;omega
 refine Cm (body:=Nw (A++R) e) (λk=>(k:Int)) A.length (λk f i=>?_) (λrec=>?_) fz<|Dp b
 ·have a:k < (A++R).length:=by simp;omega
  have c:(A++R)[k]=A[k]:=DU f;simp only[Nw,Bq a,Ac,AV a,Aa,c];rw[Ak (g _<|Ae f),Ac,BA a (Bk d)]
 ·cases R with
  |nil=>simp only[A7,Nw,Bh,Ad]
  |cons x R=>
   have a:A.length < (A++x::R).length:=nF;have c:(A++x::R)[A.length]=x:=by rw[HE (A5 _)];simp
   simp only[Nw,Bq a,Ac,AV a,Aa,c];rw[Ah (by have:=h x nF;omega),Ad]
def ag{l}(h:l.length<=lim):EP l=some l:=by unfold EP;rw[AO (by simpa using h)];rfl
def AiL{S:Nat->Bool}{a1:zI}{k:Nat}(j:k < a1.length)(n:a1.length<=lim){e:Nat}(r:a1[k]=(e:Int))(h:e < 100)(b:(zI×Int)->Option zI):
  Lq a1 b (Ds 100 S,(k:Int))=b (Ds 100<|bo S e,((k+1:Nat):Int)):=by
 have o:=Nc 100 S;have s:(Ds 100 S).length<=lim:=uY;have sp:=iQ h S;have t:=asc_add h S;have u:∀x∈Ds e S,x < (e:Int):=λx c=>z5 c
 have w:∀x∈(if S e=true then [(e:Int)]else [])++upN e (100 - (e+1)) S,(e:Int)<=x:=λx c=>by
  rcases Al.1 c with c|c
  ·split at c
   ·simp at c;omega
   ·simp at c
  ·have:=zD c;omega
 have i:=AiK (e:=(e:Int)) u w (by rw[<-sp];exact s);rw[<-sp]at i;simp only[Lq,Bq j,Ac,AV j,Aa,r,i];cases l:S e with
 |true=>
  rw[l]at sp;simp only[FB]at sp;have f:(Ds e S).length < (Ds 100 S).length:=by rw[sp];simp
  have m:AU (Ds 100 S) ((Ds e S).length:Int)=some (e:Int):=by rw[PI,sp,CF (A5 _),Nat.sub_self];rfl
  have g:(((Ds e S).length:Int)==((Ds 100 S).length:Int))=false:=by simp;omega
  have y:bo S e=S:=by
   funext v;unfold bo;by_cases p:v=e
   ·subst p;rw[l];rfl
   ·have:(v==e)=false:=by simpa using p
    rw[this,Dv]
  rw[g,Ad,m];simp only[E2,Nx,Ad,PP,BA j (Bk n),y]
 |false=>
  rw[l]at sp;simp only[CD,Ed,BX]at sp
  have d:Nx b (Ds 100 S) (k:Int) (e:Int) ((Ds e S).length:Int) true=b (Ds 100<|bo S e,((k+1:Nat):Int)):=by
   have z:CZ (Ds 100 S) 0 ((Ds e S).length:Int)=Ds e S:=by rw[UM,sp,List.take_left'];rfl
   have A:CZ (Ds 100 S) ((Ds e S).length:Int) ((Ds 100 S).length:Int)=upN e (100 - (e+1)) S:=by unfold CZ;rw[Ax,Ax,AQ,sp,List.drop_left'];rfl
   have B:(Ds e S).length<=(Ds 100 S).length:=by rw[sp];simp
   have q:(Ds e S).length+(upN e (100 - (e+1)) S).length=(Ds 100 S).length:=by rw[sp,An]
   simp only[Nx,Ac];rw[AO aG,z,ag aG];simp only[Aa];rw[AO (by simp only[Aj];unfold lim;omega),AO aG,A,AO (by simp only[An,Aj];unfold lim;omega)];simp only[PP,BA j (Bk n),t,Bw,CR,BX]
  by_cases a:(((Ds e S).length:Int)==((Ds 100 S).length:Int))=true
  ·rw[a,Ac];exact d
  ·rw[show(((Ds e S).length:Int)==((Ds 100 S).length:Int))=false by simpa using a,Ad]
   have f:(Ds e S).length < (Ds 100 S).length:=by
    have:(Ds e S).length<=(Ds 100 S).length:=by rw[sp];simp
    simp at a;omega
   have m:AU (Ds 100 S) ((Ds e S).length:Int)=some (Ds 100 S)[(Ds e S).length]:=AV f;rw[m]
   have g:((Ds 100 S)[(Ds e S).length]!=(e:Int))=true:=by
    have C:(Ds 100 S)[(Ds e S).length]∈upN e (100 - (e+1)) S:=by
     have:(Ds 100 S)[(Ds e S).length]? =some (Ds 100 S)[(Ds e S).length]:=Af f
     conv at this=>lhs;rw[sp,CF (A5 _)]
     exact B4 this
    have:=zD C;simp;omega
   simp only[g];exact d
def Wg(S:Nat->Bool)(l:zI):Nat->Bool:=λv=>S v || l.contains (v:Int)
def dT{S a1}(b:a1.length<=lim)(h:∀x∈a1,0<=x∧x<=99):MR (Ds 100 S) a1=some (Ds 100<|Wg S a1):=by
 have c:=Nc 100 S;unfold MR;rw[ag uY];have:=Cm (body:=Lq a1) (out:=Ds 100<|Wg S a1) (λk=>(Ds 100<|Wg S<|a1.take k,(k:Int))) a1.length (λk a f=>?_) (λrec=>?_) fz<|Dp b
 ·have g:Wg S (a1.take 0)=S:=by funext v;simp[Wg]
  rw[g]at this;simp only[Aa];rw[show((0:Nat):Int)=0 from rfl]at this;rw[this]
 ·have l:=h _ (Ae a);rw[AiL a b (e:=a1[k].toNat) aG aG];congr 2
  have:bo (Wg S<|a1.take k) a1[k].toNat=Wg S (a1.take<|k+1):=by
   funext v;unfold bo Wg;rw[A3 a];simp only[MT,Al,As,Bool.or_assoc];congr 1;by_cases d:v=a1[k].toNat
   ·subst d;have:((a1[k].toNat:Nat):Int)=a1[k]:=aG;rw[this];simp
   ·have i:(v==a1[k].toNat)=false:=by simpa using d
    have j:¬((v:Int)=a1[k]):=aG;rw[i];simp[j]
  rw[this]
 ·simp only[Lq,Bh,Ad,AQ]
def Mp(W r A:zI):zI:=A.map λv=>EL r<|CA W v
def Wi{u}(g:Int->Int){v:Int}(a:v∈u):EL (u.map g) (CA u v)=g v:=by have⟨k,b,c,e2⟩:=Hs<|Ag.2 a;rw[c,Dz (by rw[Ai];exact b),Bl,e2]
def XN{W r}(hW:W.Nodup)(hr:r.length=W.length):Mp W r W=r:=by
 refine Cp (by unfold Mp;rw[Ai,hr]) λi h1 h2=>?_
 have hi:i < W.length:=aG;have e9:(Mp W r W)[i]'h1=EL r (CA W W[i]):=Bl _;rw[e9];have⟨k,hk,e1,e2⟩:=Hs<|Ag.2<|Ae hi;have:k=i:=(DZ hW).1 e2;subst this;rw[e1,Dz h2]
def Kx(a r b s u:zI):Bool:=u.all λv=> !(a.contains v&&(b.contains v&&(EL r (CA a v)!=EL s (CA b v))))
def Y6(a r b s:zI)(v:Int):Int:=if a.contains v=true then EL r (CA a v)else EL s (CA b v)
def SD(a r b s u:zI):zI:=u.map<|Y6 a r b s
def mV{W A u:zI}{rows B:List zI}(k:W.Nodup)(l:A.Nodup)(m:u.Nodup)(i:∀v,v∈u↔v∈W∨v∈A)(n:∀r∈rows,r.length=W.length)(o:∀s∈B,s.length=A.length)(z:zI):
  (∃r∈rows,∃s∈B,Kx W r A s u=true∧z=SD W r A s u)↔z.length=u.length∧Mp u z W∈rows∧Mp u z A∈B:=by
 constructor
 ·rintro⟨r,f,s,g,j,rfl⟩;have c:∀v∈u,EL (SD W r A s u) (CA u v)=Y6 W r A s v:=λv a=>Wi _ a
  refine⟨by unfold SD;rw[Ai],?_,?_⟩
  ·have e:Mp u (SD W r A s u) W=Mp W r W:=by
    unfold Mp;refine Bd λv a=>?_
    rw[c v ((i v).2<|.inl a)];unfold Y6;rw[Az (Ag.2 a)]
   rw[e,XN k (n r f)];exact f
  ·have e:Mp u (SD W r A s u) A=Mp A s A:=by
    unfold Mp;refine Bd λv a=>?_
    have d:=(i v).2<|.inr a;rw[c v d];unfold Y6;by_cases b:W.contains v=true
    ·rw[Az b];have:=Aq.1 j v d;rw[b,Ag.2 a]at this;simpa using this
    ·rw[AA b]
   rw[e,XN l (o s g)];exact g
 ·rintro⟨f,g,j⟩;refine⟨_,g,_,j,?_,?_⟩
  ·unfold Kx;rw[Aq];intro v a;cases p:W.contains v with
   |false=>rfl
   |true=>
    cases c2:A.contains v with
    |false=>rfl
    |true=>rw[show EL (Mp u z W) (CA W v)=EL z (CA u v)from Wi (λv=>EL z<|CA u v) (Ag.1 p),show EL (Mp u z A) (CA A v)=EL z (CA u v)from Wi (λv=>EL z<|CA u v) (Ag.1 c2)];simp
  ·have e:SD W (Mp u z W) A (Mp u z A) u=Mp u z u:=by
    unfold SD;show _=u.map _;refine Bd λv a=>?_
    unfold Y6;by_cases b:W.contains v=true
    ·rw[Az b];exact Wi (λv=>EL z<|CA u v)<|Ag.1 b
    ·rw[AA b];rcases(i v).1 a with h|h
     ·exact absurd (Ag.2 h) b
     ·exact Wi (λv=>EL z<|CA u v) h
   rw[e,XN m f]
def ZG{a r:zI}{v:Int}(h:a.contains v=true)(c:r.length=a.length):decide (0<=CA a v)=true∧AU r (CA a v)=some (EL r<|CA a v):=by obtain⟨k,d,b,e2⟩:=Hs h;refine⟨by rw[J6,h],?_⟩;rw[b];exact Yl ⟨aG,aG⟩
def wR{u a r b s}(D:u.length<=lim)(m:a.length<=lim)(n:b.length<=lim)(H:r.length=a.length)(F:s.length=b.length)(t:∀v∈u,a.contains v=true∨b.contains v=true):
  VY u a r b s=some (cond (Kx a r b s u) (SD a r b s u,true) ([],false)):=by
 have⟨o,e,I⟩:=Fu (B:=JQ u a r b s) (λst=>∃k:Nat,st=(SD a r b s (u.take k),(k:Int))∧k<=u.length∧Kx a r b s (u.take k)=true) (λst=>u.length - st.2.toNat) (λo=>o=cond (Kx a r b s u) (.inl (SD a r b s u)) (.inr ([],false))) (λst w=>by
  obtain⟨k,rfl,y,g⟩:=w;by_cases c:k < u.length
  ·have G:u.take (k+1)=u.take k++[u[k]]:=by rw[Pv,Af c];rfl
   have z:wZ ((k:Int)+1)=((k+1:Nat):Int):=BA c<|Bk D;have A:∀x:Int,(SD a r b s<|u.take k).length+[x].length<=lim:=λx=>by unfold SD;rw[Ai,AH,Aj];omega
   have C:∀x:Int,x=Y6 a r b s u[k]->SD a r b s (u.take k)++[x]=SD a r b s (u.take<|k+1):=λx J=>by rw[G];unfold SD;rw[Br,J];rfl
   have d:(!(a.contains u[k]&&(b.contains u[k]&&(EL r (CA a u[k])!=EL s (CA b u[k])))))=true->Kx a r b s (u.take<|k+1)=true:=λh=>by unfold Kx at g⊢;rw[G,ED,g,BM,h];rfl
   have j:=Ae c;cases f:a.contains u[k]with
   |true=>
    have⟨a1,p⟩:=ZG f H;have q:Y6 a r b s u[k]=EL r (CA a u[k]):=by unfold Y6;rw[Az f]
    cases l:b.contains u[k]with
    |true=>
     have⟨b1,b2⟩:=ZG l F;cases i:(EL r (CA a u[k])!=EL s (CA b u[k]))with
     |true=>
      left
      have K:Kx a r b s u=false:=by
       cases h:Kx a r b s u with
       |false=>rfl
       |true=>have:=Aq.1 h u[k] j;rw[f,l,i]at this;cases this
      refine⟨_,rfl,λrec=>?_⟩;rw[K];simp only[JQ];rw[Bq c,Ac,AV c,Bj,R4 m,Bj,R4 n,Bj,a1,Ac,b1,Ac,p,Bj,b2,Bj,i];rfl
     |false=>right;refine⟨_,⟨k+1,rfl,c,d<|by rw[f,l,i];rfl⟩,by simp only[Ax];omega,λrec=>?_⟩;simp only[JQ];rw[Bq c,Ac,AV c,Bj,R4 m,Bj,R4 n,Bj,a1,Ac,b1,Ac,p,Bj,b2,Bj,i];simp only[MP,O0];rw[Ad,a1,Ac,p,Bj,AO (A _),C _ q.symm,z]
    |false=>right;refine⟨_,⟨k+1,rfl,c,d<|by rw[f,l];rfl⟩,by simp only[Ax];omega,λrec=>?_⟩;simp only[JQ];rw[Bq c,Ac,AV c,Bj,R4 m,Bj,R4 n,Bj,a1,Ac,J6,l,Ad];simp only[MP,O0];rw[Ad,a1,Ac,p,Bj,AO (A _),C _ q.symm,z]
   |false=>
    have l:b.contains u[k]=true:=(t _ j).resolve_left (by rw[f];simp);have⟨b1,b2⟩:=ZG l F;have q:Y6 a r b s u[k]=EL s (CA b u[k]):=by unfold Y6;rw[AA (by rw[f];simp)]
    right;refine⟨_,⟨k+1,rfl,c,d<|by rw[f];rfl⟩,by simp only[Ax];omega,λrec=>?_⟩;simp only[JQ];rw[Bq c,Ac,AV c,Bj,R4 m,Bj,R4 n,Bj,J6,f,Ad];simp only[MP,O0];rw[Ad,J6,f,Ad,b2,Bj,AO (A _),C _ q.symm,z]
  ·have y:k=u.length:=aG;left;refine⟨_,rfl,λrec=>?_⟩;simp only[JQ];rw[y,Bh,Ad];rw[y,AQ]at g;rw[g,AQ];rfl) fz ([],0) ⟨0,rfl,BF _,rfl⟩ (by unfold fz;unfold lim at D;simp only;omega)
 unfold VY;rw[e,I];cases Kx a r b s u<;>rfl
section
variable {d:List N9}{q:EM}
def gl1(W A u r s:zI):List zI:=cond (Kx W r A s u) [SD W r A s u] []
def glR(W A u:zI)(B:List zI)(r:zI):List zI:=B.flatMap<|gl1 W A u r
def AaQ(W A u r s:zI):(gl1 W A u r s).length<=1:=by unfold gl1;cases Kx W r A s u<;>simp
def mU(W A u r:zI)(B:List zI)(k:Nat):((B.take k).flatMap<|gl1 W A u r).length<=k:=by
 refine Bm ?_ (show(B.take k).length<=k by rw[AH];omega);generalize B.take k=l;induction l with
 |nil=>simp
 |cons s l a=>have:=AaQ W A u r s;rw[AR,An,AC];omega
def fx{α β:Type}(f:α->List β){l:List α}{k:Nat}(a:k < l.length):(l.take<|k+1).flatMap f=(l.take k).flatMap f++f l[k]:=by rw[Pv,Af a,OA,Dw,AR,Ip,A7]
def dG{n S x}:x∈Ds n S↔∃v:Nat,v < n∧S v=true∧x=(v:Int):=by
 unfold Ds;rw[Aw];constructor
 ·rintro⟨v,c,rfl⟩;have⟨a,b⟩:=AM.1 c;exact⟨v,Ao.1 a,b,rfl⟩
 ·rintro⟨v,a,b,rfl⟩;exact⟨v,AM.2 ⟨Ao.2 a,b⟩,rfl⟩
def Zr{l:zN}(h:l.Nodup):(l.map λ(v:Nat)=>(v:Int)).Nodup:=by unfold List.Nodup at h⊢;rw[CV];exact h.imp λh e=>h aG
def iP(n:Nat)(S:Nat->Bool):(Ds n S).Nodup:=Zr<|F5 DY C3
def bu(a:J7)(k:Nat):(FJ a k).Nodup:=Zr<|F5 DY C3
def nO{n}{v:Nat}(h:v < n):CA ((List.range n).map λ(v:Nat)=>(v:Int)) (v:Int)=(v:Int):=by have⟨k,b,a,e2⟩:=Hs (l:=(List.range n).map λ(v:Nat)=>(v:Int)) (v:=(v:Int))<|Ag.2<|Aw.2 ⟨v,Ao.2 h,rfl⟩;rw[Bl,Ei]at e2;rw[a];exact e2
def s8{a z}(ha:LR a)(hf:FK d a=true):dz a z∈(VM d a).2↔Fc z a.2∈(F2 d a.1).1.2:=by
 refine⟨λh=>?_,Aig ha⟩;have⟨f1,f2,f3⟩:=Wf ha hf;unfold VM at h;have h:=(Fd _ _).1 h;unfold Tr at h;have⟨r,hr,e⟩:=Aw.1 h;have⟨hr1,hr2⟩:=AM.1 hr
 have e2:Fc z a.2=r:=by
  refine Cp (by unfold Fc;rw[Ai,f1 r hr1]) λi h1 h2=>?_
  have hi:i < a.2.length:=by rw[f1 r hr1]at h2;exact h2
  have hv:=ha.2 _<|Ae hi;have hav:a.2[i]∈FJ a 5:=J8.2 ⟨hv,Ag.2<|Ae hi⟩;have⟨k,hk,p1,p2⟩:=Hs<|Ag.2 hav;have ea:(rowOf a r)[k]'(by unfold rowOf;rw[Ai];exact hk)=(dz a z)[k]'(by unfold dz;rw[Ai];exact hk):=by simp only[e]
  unfold rowOf dz at ea;rw[Bl,Bl,p2]at ea;unfold Vr at hr2;have h4:=Aq.1 hr2 i<|Ao.2 hi;rw[Dz hi,Bv,Dz h2]at h4;have e9:(Fc z a.2)[i]'h1=EL z a.2[i]:=Bl<|EL z;rw[e9,<-ea,h4]
 rw[e2];exact hr1
end
abbrev JY:=zI×Rln
def lt_eq:∀{a b:zI},a.Pairwise (· < ·)->b.Pairwise (· < ·)->(∀x,x∈a↔x∈b)->a=b
 |[],[],_,_,_=>rfl
 |[],y::b,_,_,h=>by have:=(h y).2 nF;simp at this
 |x::a,[],_,_,h=>by have:=(h x).1 nF;simp at this
 |x::a,y::b,ha,hb,h=>by
  have⟨a1,a2⟩:=Ct.1 ha;have⟨b1,b2⟩:=Ct.1 hb
  have hxy:x=y:=by
   rcases AL.1 ((h x).1 nF)with e|hx
   ·exact e
   ·rcases AL.1 ((h y).2 nF)with e|hy
    ·exact e.symm
    ·have h1:=b1 x hx;have h2:=a1 y hy;omega
  subst hxy;have hne:∀z∈a,z≠x:=λz hz e=>by subst e;have:=a1 z hz;omega
  have hne':∀z∈b,z≠x:=λz hz e=>by subst e;have:=b1 z hz;omega
  rw[lt_eq a2 b2 (λz=>⟨λhz=>(AL.1<|(h z).1<|by simp[hz]).resolve_left<|hne z hz,λhz=>(AL.1<|(h z).2<|by simp[hz]).resolve_left<|hne' z hz⟩)]
def dF(n:Nat)(S:Nat->Bool):(Ds n S).Pairwise (· < ·):=by unfold Ds;rw[CV];exact FE (λh=>by omega)<|Ec _ GO
def vsB(l:zI):Bool:= !BK l λk e=> !HH e 0 4 || Iw l k e
def Wc{l}(h:vsB l=true):l.Pairwise (· < ·)∧∀v∈l,0<=v∧v<=4:=by
 unfold vsB at h;rw[At,TC l (λ_ e=> !HH e 0 4) (λk e=>Iw l k e),BN]at h;refine⟨B3.2 λi j hi c a=>?_,λv b=>?_⟩
 ·have:=oN h.2 (j - i - 1) i aG;simpa only[show i+1+(j - i - 1)=j by omega]using this
 ·have:=Ln h.1 b;unfold HH at this;simpa using this
def qo{l}(h:vsB l=true){n:Nat}(e:5<=n):l=Ds n λv=>l.contains (v:Int):=by
 have⟨b,c⟩:=Wc h;refine lt_eq b (dF _ _) λx=>?_
 rw[dG];constructor
 ·intro a;have:=c x a;exact⟨x.toNat,aG,by rw[show((x.toNat:Nat):Int)=x by omega];exact Ag.2 a,aG⟩
 ·rintro⟨v,_,d,rfl⟩;exact Ag.1 d
def zG(S:Nat->Bool):vsB (Ds 5 S)=true:=by
 unfold vsB;rw[At];refine FSQ λi hi=>?_
 have⟨v,b,_,e⟩:=dG.1<|Ae hi;rw[BN];refine⟨by unfold HH;rw[e];simp;omega,?_⟩;unfold Iw;by_cases a:0 < i
 ·rw[B5 aG];have:=B3.1 (dF 5 S) (i - 1) i aG hi aG;rw[Ah (p:=(Ds 5 S)[i]<=_) aG,Gf]
 ·rw[Ah a];rfl
def l6{l}(h:vsB l=true):l.length<=5:=by rw[qo h (A5 5)];exact Nc _ _
def tN{l}(h:vsB l=true):l.Nodup:=by rw[qo h (A5 5)];exact iP _ _
def GD(a b:zI):zI:=Ds 5 λv=>a.contains (v:Int) || b.contains (v:Int)
def M7{a b}(c:vsB a=true)(d:vsB b=true)(v:Int):v∈GD a b↔v∈a∨v∈b:=by
 unfold GD;rw[dG];constructor
 ·rintro⟨n,_,h,rfl⟩;rw[BZ]at h;exact h.imp Ag.1 Ag.1
 ·intro h;have e:0<=v∧v<=4:=h.elim ((Wc c).2 v)<|(Wc d).2 v;refine⟨v.toNat,aG,?_,aG⟩;rw[show((v.toNat:Nat):Int)=v by omega,BZ];exact h.imp Ag.2 Ag.2
def VF(a b:zI):(GD a b).Nodup:=iP _ _
def eo(a b:zI):(GD a b).length<=5:=Nc _ _
def QJ(b:JY):Bool:=vsB b.1&&(Ml b.2&&(b.2.1==(b.1.length:Int)))
def EK{b}(h:QJ b=true):vsB b.1=true∧b.2.2.length<=4000∧(∀r∈b.2.2,r.length=b.1.length∧Qg r=true)∧X8 b.2.2∧b.2.1=(b.1.length:Int):=by
 unfold QJ at h;rw[Ab,Ab]at h;have⟨d,f,g⟩:=h;have e:b.2.1=(b.1.length:Int):=by simpa using g
 obtain⟨-,i,a,j⟩:=(TL b.2).1 f;exact⟨d,i,λr c=>⟨by have:=(a r c).1;omega,(a r c).2⟩,j,e⟩
def AdK{b:JY}(a:vsB b.1=true)(e:b.2.2.length<=4000)(c:∀r∈b.2.2,r.length=b.1.length∧Qg r=true)(f:X8 b.2.2)(g:b.2.1=(b.1.length:Int)):QJ b=true:=by have:=l6 a;unfold QJ;rw[a,(TL b.2).2 ⟨⟨aG,aG⟩,e,λx d=>⟨by have:=(c x d).1;omega,(c x d).2⟩,f⟩,g];simp
def iq(a b:JY):List Row:=a.2.2.flatMap<|glR a.1 b.1 (GD a.1 b.1) b.2.2
def lg(a b:JY):JY:=(GD a.1 b.1,(((GD a.1 b.1).length:Int),sortB<|iq a b))
def S8(a b:JY):Bool:=decide (4000 < ((iq a b).length:Int))
def smK(W:zI)(b:JY)(r:Row):Bool:=b.2.2.any λs=>Kx W r b.1 s<|GD W b.1
def Wd(a b:JY):JY:=(a.1,(a.2.1,a.2.2.filter<|smK a.1 b))
def kO{W A u}(c:W.Nodup)(d:A.Nodup)(e:u.Nodup)(f:∀v,v∈u↔v∈W∨v∈A){r s z:zI}(g:r.length=W.length)(h:s.length=A.length)(a:z∈gl1 W A u r s):Mp u z W=r∧Mp u z A=s:=by
 unfold gl1 at a;cases b:Kx W r A s u with
 |false=>rw[b]at a;cases a
 |true=>rw[b,Ac,As]at a;have:=(mV c d e f (rows:=[r]) (B:=[s]) (by simpa using g) (by simpa using h) z).1 ⟨r,As.2 rfl,s,As.2 rfl,b,a⟩;exact⟨As.1 this.2.1,As.1 this.2.2⟩
def Akb{W A u:zI}{rows B:List zI}(h:W.Nodup)(i:A.Nodup)(j:u.Nodup)(k:∀v,v∈u↔v∈W∨v∈A)(l:∀r∈rows,r.length=W.length)(m:∀s∈B,s.length=A.length)(q:rows.Nodup)(t:B.Nodup):(rows.flatMap<|glR W A u B).Nodup:=by
 unfold List.Nodup at *;rw[Mk];refine⟨λr g=>?_,q.imp_of_mem λ{r w} n o a x d y f e=>?_⟩
 ·unfold glR;rw[Mk];refine⟨λs z=>?_,t.imp_of_mem λ{s p} b c a x d y f e=>?_⟩
  ·unfold gl1;cases Kx W r A s u<;>simp
  ·subst e;exact a<|(kO h i j k (l r g) (m s b) d).2.symm.trans (kO h i j k (l r g) (m p c) f).2
 ·subst e;unfold glR at d f;obtain⟨s,b,d⟩:=B6.1 d;obtain⟨p,c,f⟩:=B6.1 f;exact a<|(kO h i j k (l r n) (m s b) d).1.symm.trans (kO h i j k (l w o) (m p c) f).1
section
variable {a b:JY}(ha:QJ a=true)(hb:QJ b=true)
include ha hb
def fX(z:Row):z∈iq a b↔z.length=(GD a.1 b.1).length∧Mp (GD a.1 b.1) z a.1∈a.2.2∧Mp (GD a.1 b.1) z b.1∈b.2.2:=by
 obtain⟨a1,j,g,k,l⟩:=EK ha;obtain⟨b1,b2,h,m,n⟩:=EK hb;refine Iff.trans ?_<|mV (tN a1) (tN b1) (VF _ _) (M7 a1 b1) (λr e=>(g r e).1) (λs i=>(h s i).1) z;unfold iq;rw[B6];constructor
 ·rintro⟨r,e,c⟩;unfold glR at c;obtain⟨s,d,c⟩:=B6.1 c;unfold gl1 at c;cases f:Kx a.1 r b.1 s (GD a.1 b.1)with
  |true=>rw[f,Ac,As]at c;exact⟨r,e,s,d,f,c⟩
  |false=>rw[f,Ad]at c;cases c
 ·rintro⟨r,e,s,d,f,rfl⟩;exact⟨r,e,B6.2 ⟨s,d,by unfold gl1;rw[f,Ac];exact As.2 rfl⟩⟩
def Adq:(iq a b).Nodup:=by have⟨a1,i,c,d,j⟩:=EK ha;have⟨b1,b2,e,f,k⟩:=EK hb;exact Akb (tN a1) (tN b1) (VF _ _) (M7 a1 b1) (λr g=>(c r g).1) (λs h=>(e s h).1) (Wa d)<|Wa f
def xU{z}(d:z∈iq a b):(z.length:Int)=((GD a.1 b.1).length:Int)∧Qg z=true:=by
 have⟨a1,u,f,v,w⟩:=EK ha;have⟨b1,b2,g,x,y⟩:=EK hb;have⟨A,l,m⟩:=(fX ha hb z).1 d;refine⟨aG,bw λx n=>?_⟩;obtain⟨i,hi,rfl⟩:=AE.1 n
 have c:∀(W r:zI),Mp (GD a.1 b.1) z W=r->Qg r=true->(GD a.1 b.1)[i]∈W->0<=z[i]∧z[i]<=99:=λW r o p q=>by
  subst o;have⟨j,s,e⟩:=AE.1 q;have:=Zo p (k:=j) (by unfold Mp;rw[Ai];exact s);unfold Mp at this;rw[Bl,e]at this;have⟨k,B,t,e2⟩:=Hs<|Ag.2<|Ae (aG:i < (GD a.1 b.1).length);have:k=i:=(DZ<|VF _ _).1 e2;subst this
  rwa [t,Dz hi]at this
 rcases(M7 a1 b1 _).1 (Ae (aG:i < (GD a.1 b.1).length))with h|h
 ·exact c _ _ rfl (f _ l).2 h
 ·exact c _ _ rfl (g _ m).2 h
def Ah0:(iq a b).length<=16000000:=by
 obtain⟨a1,e,-⟩:=EK ha;obtain⟨b1,b2,-⟩:=EK hb
 have:∀l:List Row,(l.flatMap<|glR a.1 b.1 (GD a.1 b.1) b.2.2).length<=l.length * 4000:=λl=>by
  induction l with
  |nil=>simp
  |cons r l c=>have d:=mU a.1 b.1 (GD a.1 b.1) r b.2.2 b.2.2.length;rw[AQ]at d;rw[AR,An,AC];unfold glR at c⊢;omega
 have:=this a.2.2;unfold iq;omega
def nq(h:S8 a b=false):QJ (lg a b)=true:=by unfold S8 at h;rw[C1]at h;exact AdK (zG _) (by have:=K8<|iq a b;show(sortB<|iq a b).length<=4000;omega) (λr c=>by have:=xU ha hb<|(Fd _ r).1 c;exact⟨by have:=this.1;show r.length=(GD a.1 b.1).length;omega,this.2⟩) (Nm _) rfl
theorem AdG:QJ (Wd a b)=true:=by
 obtain⟨a1,c,d,e,f⟩:=EK ha
 exact AdK a1 (Bm (BY _ _) c) (λr g=>d r (AM.1 g).1) (Ec _ e) f
end
open Go.RowKit Go.ChangeShapes Go.WideShapes Go.Deep
set_option maxRecDepth 100000
def AjI(x:zI):List V:=[dL Lo x]
section
variable {H:Type}{enc:TypeId×Value->H}{w:World}{base:Nat}{spare:Nat->Bool}{held:Bool}
def AlS(x:zI):Prop:=x.length<=maxLen∧∀a∈x,(0<=a∧a<=255)
def AnK:Opens enc Tryz.prog w base spare held 22 AjI AlS:=yj Tryz.underlying22 kh (Nat.le_of_ble_eq_true rfl) qq<|yk Tryz.underlying5
end
end
section
section
variable {d:List N9}{nm:zU}{r:Int×List zI}
end
def s7{r:Rln}(h:Ml r=true):GQ r.2:=by obtain⟨c,d,a,e⟩:=(TL r).1 h;exact⟨uY,λx b=>by have:=(a x b).1;unfold lim;omega⟩
abbrev Dlt:=zU×Rln×Rln
section
variable {d:List N9}{x:Dlt}
end
def XI:∀{l m:zI},l.Nodup->(∀x∈l,x∈m)->l.length<=m.length
 |[],m,_,_=>by simp
 |x::l,m,a,h=>by
  have c:=h x nF;rw[BI]at a
  have f:=XI (l:=l) (m:=m.erase x) a.2 (λy d=>by
   have b:y≠x:=λe=>by subst e;exact a.1 d
   exact(List.mem_erase_of_ne b).2 (h y (by simp[d])))
  have g:=List.length_erase_of_mem c;have i:0 < m.length:=EQ c;rw[AC];omega
def lN{n}(p:1<=n∧n<=5){l:zI}(h:BK l (GP n l)=false):l.Nodup∧∀e∈l,0<=e∧e < n:=by
 have d:wZ (n - 1)=n - 1:=wrap_in aG;constructor
 ·rw[Cr,B3];intro i j hi f g a;have b:=FW h f;unfold GP at b;simp only[BN]at b;have c:=b.2;have m:(l.take j).contains l[j]=true:=by rw[Ag,AE];exact⟨i,by rw[AH];omega,by rw[Gw];exact a⟩
  rw[m]at c;cases c
 ·intro e a;obtain⟨k,o,rfl⟩:=AE.1 a;have:=FW h o;unfold GP HH at this;simp only[BN,B8,Ab,AN,d]at this;omega
def zf{m}(a:0<=m∧m<=5){l:zI}(b:l.Nodup)(d:∀e∈l,0<=e∧e < m):BK l (GP m l)=false:=FSQ λi hi=>by have g:=d _<|Ae hi;unfold GP HH;rw[wrap_in aG,BN];refine⟨by simp;omega,?_⟩;rw[<-F3,Ag];intro a;have⟨j,f,c⟩:=AE.1 a;rw[AH]at f;rw[Gw]at c;rw[Cr,B3]at b;exact b j i aG hi aG c
def vo(a:J7):(FJ a 5).Nodup:=by unfold FJ;rw[Cr,CV];have h:((List.range 5).filter λ(v:Nat)=>a.2.contains (v:Int)).Nodup:=F5 DY C3;rw[Cr]at h;exact h.imp λh e=>h aG
def K7{q o}(h:Sf q o=true):(o.length:Int)=q.1∧o.Nodup∧(∀v∈o,0<=v∧v < q.1)∧∀v:Int,0<=v->v < q.1->v∈o:=by
 unfold Sf at h;simp only[Ab,At,Bv]at h;have d:=LA h.1;have a:=lN d h.2.2;refine⟨h.2.1,a.1,a.2,λv f g=>?_⟩;apply Bp;intro b
 have:=few q.1.toNat (v::o) (BI.2 ⟨b,a.1⟩) (λe c=>by
  rcases AL.1 c with rfl|c
  ·omega
  ·have:=a.2 e c;omega)
 rw[AC]at this;have:=h.2.1;omega
def Qi(V o:zI):Nat->zI
 |0=>[]
 |k+1=>Qi V o k++cond (decide (0<=CA V (EL o (k:Int)))&& !(Qi V o k).contains (CA V<|EL o (k:Int))) [CA V (EL o (k:Int))] []
def mC(V o:zI):∀k,(Qi V o k).length<=k
 |0=>by simp[Qi]
 |k+1=>by
  have:=mC V o k;rw[Qi,An];cases decide (0<=CA V (EL o (k:Int)))&& !(Qi V o k).contains (CA V<|EL o (k:Int))
  ·rw[Ad,Bn];omega
  ·rw[Ac,Aj];omega
def dN(V o:zI):∀k,(Qi V o k).Nodup
 |0=>AZ
 |k+1=>by
  rw[Qi];cases a:decide (0<=CA V (EL o (k:Int)))&& !(Qi V o k).contains (CA V<|EL o (k:Int))with
  |false=>rw[Ad,A7];exact dN V o k
  |true=>rw[Ab,At]at a;rw[Ac];refine AI.2 ⟨dN V o k,nF,λx c y b e=>?_⟩;simp only[As]at b;subst e b;have:=a.2;rw[<-F3,Ag]at this;exact this c
def yA{l v}(h:0<=CA l v):CA l v < (l.length:Int)∧l.contains v=true:=by
 have a:l.contains v=true:=by rw[<-J6];exact Ak h
 have⟨k,b,c,_⟩:=Hs a;exact⟨aG,a⟩
def kx(V o:zI):∀k,∀x∈Qi V o k,0<=x∧x < (V.length:Int)
 |0,x,h=>by cases h
 |k+1,x,h=>by
  rw[Qi]at h;rcases Al.1 h with h|h
  ·exact kx V o k x h
  ·cases a:decide (0<=CA V (EL o (k:Int)))&& !(Qi V o k).contains (CA V<|EL o (k:Int))with
   |false=>rw[a]at h;cases h
   |true=>rw[a,Ac,As]at h;rw[Ab,AN]at a;subst h;exact⟨a.1,(yA a.1).1⟩
def ro(V o:zI){x:Int}:∀{d i:Nat},x∈Qi V o i->x∈Qi V o (i+d)
 |0,_,h=>h
 |d+1,i,h=>by rw[show i+(d+1)=(i+d)+1 by omega,Qi];exact AD _<|ro V o h
def vT{V o}(b:V.Nodup){j i:Nat}(c:j < V.length)(hi:i < o.length)(f:o[i]=V[j]):(j:Int)∈Qi V o o.length:=by
 have k:V.contains o[i]=true:=by rw[Ag,f];exact Ae c
 have⟨p,g,l,e2⟩:=Hs k
 have e:p=j:=by
  apply Bp;intro m;rw[Cr,B3]at b;rw[f]at e2;rcases Bi p j with h|h
  ·exact b p j g c h e2
  ·exact b j p c g aG e2.symm
 have a:(j:Int)∈Qi V o (i+1):=by
  rw[Qi,Dz hi,l,e];rw[Ak (aG:(0:Int)<=(j:Int)),AK];cases n:(Qi V o i).contains (j:Int)with
  |true=>exact AD _<|Ag.1 n
  |false=>exact AB _ nF
 have:=ro V o (d:=o.length - (i+1)) a
 rwa [show i+1+(o.length - (i+1))=o.length by omega]at this
def tX{V o}(b:V.Nodup)(h:∀v∈V,v∈o):(Qi V o o.length).length=V.length:=by
 have g:=few V.length (Qi V o o.length) (dN V o _)<|kx V o _
 have c:((List.range V.length).map λ(j:Nat)=>(j:Int)).length<=(Qi V o o.length).length:=by
  refine XI ?_ ?_
  ·rw[Cr,CV];have h:=C3 (n:=V.length);rw[Cr]at h;exact h.imp λh e=>h aG
  ·intro x d;obtain⟨j,a,rfl⟩:=Aw.1 d;have a:=Ao.1 a;have⟨i,hi,f⟩:=AE.1<|h _<|Ae a;exact vT b a hi f
 rw[Ai,BJ]at c;omega
def eY(a:J7)(o:zI):zI:=Qi (FJ a 5) o o.length
def Aki{a o}(g:LR a)(i:o.length<=5):KR a o=some (eY a o):=by
 have c:a.2.length<=lim:=by have:=g.1;unfold lim;omega
 have h:=NJ a 5;unfold KR;rw[ub c (λv=>bW c v),Bj]
 have:=Cm (body:=FT o (FJ a 5)) (out:=eY a o) (λk=>(Qi (FJ a 5) o k,(k:Int))) o.length (λk d e=>by
  have j:=mC (FJ a 5) o k
  have f:∀(v:Int) (b:Bool),Hf e (Qi (FJ a 5) o k) (k:Int) v b=e (Qi (FJ a 5) o k++cond b [v] [],((k+1:Nat):Int)):=λv b=>by
   rw[Hf];cases b with
   |true=>rw[Ac,AO (by simp only[Aj];unfold lim;omega),Hg,BA d (by unfold maxLen;omega)];rfl
   |false=>rw[Ad,Hg,BA d (by unfold maxLen;omega),Ad,A7]
  rw[FT,Qi];rw[Bq d,AV d,Ac,Bj,R4 uY,Bj,Dz d];cases l:decide (0<=CA (FJ a 5) o[k])with
  |true=>rw[Ac,ah uY,Bj,f,AK]
  |false=>rw[Ad,f,Ho]) (λrec=>by rw[FT];rw[Bh];rfl) fz (Dp uY)
 rw[show((([]:zI),(0:Int)))=(Qi (FJ a 5) o 0,((0:Nat):Int))from rfl,this];rfl
def nJ(r:Int×List zI)(c:zI):Prop:=Ml r=true∧(c.length:Int)=r.1∧c.Nodup∧∀e∈c,0<=e∧e < r.1
def aJ(r:Int×List zI)(c:zI):Int×List zI:=((c.length:Int),sortB<|r.2.map λx=>Fc x c)
def lB{r c}(h:nJ r c):GQ r.2∧c.length<=5∧(∀x∈r.2,∀e∈c,0<=e∧e < (x.length:Int))∧(∀x∈r.2.map λx=>Fc x c,(x.length:Int)=(c.length:Int)∧Qg x=true)∧r.2.length<=4000:=by have⟨i,l,m,f⟩:=h;have a:=Mm i;refine⟨⟨by have:=a.2.2.1;unfold lim;omega,λx b=>by have:=(a.2.2.2 x b).1;unfold lim;omega⟩,aG,λx b e d=>by have:=(a.2.2.2 x b).1;have:=f e d;omega,λy j=>?_,a.2.2.1⟩;obtain⟨x,b,rfl⟩:=Aw.1 j;refine⟨by unfold Fc;rw[Ai],bw λv g=>?_⟩;unfold Fc at g;obtain⟨e,d,rfl⟩:=Aw.1 g;have n:=f e d;have k:=a.2.2.2 x b;have e2:e=((e.toNat:Nat):Int):=aG;rw[e2,Dz aG];exact Zo k.2 aG
def yv{r c}(h:nJ r c):HH (c.length:Int) 0 5=true∧GQ (r.2.map λx=>Fc x c):=by have⟨a,e,f,b,g⟩:=lB h;refine⟨by unfold HH;simp;omega,by rw[Ai];exact a.1,λx d=>by have:=(b x d).1;unfold lim;omega⟩
def Afl{r c}(h:nJ r c):QS r c=some (aJ r c,true):=by
 have⟨h1,h2,h3,h4,h5⟩:=lB h;have⟨h6,h7⟩:=yv h;have⟨g1,g2,g3,g4⟩:=h;have hr:=Mm g1
 have hfit:GX r.1 c=some true:=by
  by_cases h0:c.length=0
  ·have:c=[]:=BG h0;subst this;unfold GX;rw[Ah nF,Ad];have e:Ay (F1 r.1 []) fz 0=some (.inl ()):=Cm (body:=F1 r.1 []) (λ_=>(0:Int)) 0 (λk hk=>absurd hk aG) (λrec=>by rw[F1];rfl) fz (by unfold fz;omega);rw[e];rfl
  ·exact wO aG h2 g4
 have hrows:Ay (KG r c) fz (([]:List zI),0)=some (r.2.map λx=>Fc x c):=
  Kg (a:=r.2) (h:=λx=>Fc x c) h1.1 (λk hk rec=>by rw[KG];rw[Bq hk,AV hk,BA hk (Bk h1.1),Ac,Bj,pj uY (h3 _ (Ae hk)),Bj,AO (by simp only[Ai,AH,Aj];unfold lim;omega)]) (λrec y=>by rw[KG];rw[Bh];rfl)
 have hp:IB r c=some (aJ r c,true):=by unfold IB aJ;rw[fF h1,Bj,g1,Au,Ad,hfit,Bj,Au,Ad,hrows,Bj,Akx h7,Bj,xW h6 (by rw[Ai];exact h5) h4]
 unfold QS Ql Ku;rw[Ak aG,Ac,r7 uY,Bj,zf aG g3 (λe he=>by have:=g4 e he;omega)];rw[show((c.length:Int)!=r.1)=false by rw[g2];simp,hp];rfl
def nQ{r c}(h:nJ r c):Ml (aJ r c)=true∧(aJ r c).2.length<=r.2.length:=by
 have⟨d,e,f,a,b⟩:=lB h;refine⟨aP (yv h).1 (by rw[Ai];exact b) a,?_⟩;unfold aJ;have:=K8<|r.2.map λx=>Fc x c
 rw[Ai]at this;exact this
def dh(d:List N9)(o:zI)(a:J7):Int×List zI:=aJ (VM d a)<|eY a o
def jU{d q o a}(h:Du q=true)(i:Sf q o=true)(j:a∈q.2.1)(k:FK d a=true):LR a∧nJ (VM d a) (eY a o):=by
 have l:=Qw h;have f:=l.2.2.2 a j;have c:LR a:=⟨f.1,λv g=>by have:=f.2 v g;omega⟩;have m:=K7 i;have b:(eY a o).length=(FJ a 5).length:=tX (vo a) λv g=>by have n:=J8.1 g;have:=f.2 v<|Ag.1 n.2;exact m.2.2.2 v this.1 this.2
 refine⟨c,(Xd c k).1,?_,dN _ _ _,λe p=>?_⟩
 ·show((eY a o).length:Int)=((FJ a 5).length:Int);rw[b]
 ·exact kx _ _ _ e p
def iG{d q}(h:D7 d q=true):Du q=true∧dbB d=true∧∀a∈q.2.1,FK d a=true:=by unfold D7 at h;simp only[Ab,At]at h;refine⟨h.1,h.2.1,λa b=>?_⟩;obtain⟨k,c,rfl⟩:=AE.1 b;have:=FW h.2.2 c;simpa using this
def qn(d:List N9)(q:EM)(o:zI):List (Int×List zI)×Bool:=cond (D7 d q&&Sf q o) (q.2.1.map<|dh d o,true) ([],false)
def Aa1{d q o}(h:Tn d)(g:MA q)(k:o.length<=lim):PZ d q o=some (qn d q o):=by
 unfold PZ qn;rw[pk h g,Bj];cases l:D7 d q with
 |false=>rfl
 |true=>
  rw[Au,Ad,kR g k,Bj];cases e:Sf q o with
  |false=>rfl
  |true=>
   have b:=iG l;have r:=Qw b.1;have j:o.length<=5:=by have:=(K7 e).1;omega
   rw[Au,Ad];rw[Kg (a:=q.2.1) (h:=dh d o) g.1 (λk i m=>by have c:=Ae i;have⟨f,n⟩:=jU b.1 e c<|b.2.2 _ c;have p:=Afl n;rw[Qk];rw[Bq i,AV i,BA i (Bk g.1),Ac,Bj,Akd h f (b.2.2 _ c),Bj,Aki f j,Bj,p,Bj,AO (by simp only[Ai,AH,Aj];unfold lim;omega)];rfl) (λrec y=>by rw[Qk];rw[Bh];rfl)];rfl
def pjG(r:Rln)(c:zI):Rln×Bool:=cond (Ml r&&(decide ((c.length:Int)<=5)&& !BK c λ_ e=>Py r.1 e)) (dY (c.length:Int)<|r.2.map λx=>Fc x c) ((0,[]),false)
def Adx{r:Rln}{c:zI}(b:Ml r=true)(d:BK c (λ_ e=>Py r.1 e)=false):∀x∈r.2,∀e∈c,0<=e∧e < (x.length:Int):=λx f e g=>by have h:=Mm b;have a:=Ln d g;have i:=(h.2.2.2 x f).1;unfold Py HH at a;rw[wrap_in aG]at a;simp at a;omega
def AnR{r:Rln}{c:zI}(h:GQ r.2)(d:c.length<=lim):TO r c=some (pjG r c):=by
 unfold TO pjG;rw[Z2 (B:=P8 r c) (λk=>HJ c k λe=>Py r.1 e) ((0,[]),false) d (λk b f=>by rw[P8,Bq b,AV b,Ac,Bj,Sg,Bj,BA b (Bk d),B5 b];rfl) (λrec=>by rw[P8,Bh];rfl)];rw[show((List.range c.length).any λk=>HJ c k λe=>Py r.1 e)=BK c (λ_ e=>Py r.1 e)from rfl];cases j:BK c (λ_ e=>Py r.1 e)with
 |true=>rw[Au,Gf,Gf];rfl
 |false=>
  rw[Ad,Bj];simp only;rw[ti h,Bj];cases l:Ml r with
  |false=>rfl
  |true=>
   rw[Au,Ad,AK,Cq,CX];by_cases i:5 < (c.length:Int)
   ·rw[Ak i,Ah (show ¬((c.length:Int)<=5)by omega)];rfl
   ·rw[Ah i,Ak (show((c.length:Int)<=5)by omega),Ad,Ac];have g:=Adx l j;rw[Kg (a:=r.2) (h:=λx=>Fc x c) h.1 (λk b f=>by rw[To,Bq b,AV b,BA b (Bk h.1),Ac,Bj,Aik d (g _ (Ae b)),Bj,AO (by have:=h.1;simp only[Ai,AH,Aj];omega)]) (λrec y=>by rw[To,Bh];rfl),Bj,Acg ⟨by rw[Ai];exact h.1,λy m=>by obtain⟨x,_,rfl⟩:=Aw.1 m;unfold Fc;rw[Ai];exact d⟩,Bj]
def Anl{n c}(b:c.length<=lim):GX n c=some (decide ((c.length:Int)<=5)&& !BK c λ_ e=>Py n e):=by
 unfold GX;by_cases d:5 < (c.length:Int)
 ·rw[Ak d,Ah (show ¬((c.length:Int)<=5)by omega)];rfl
 ·rw[Ah d,Ak (show((c.length:Int)<=5)by omega),Ad,Ew (n:=c.length) (λk=>HJ c k λv=>Py n v) b (λk a f=>by rw[F1,Bq a,AV a,BA a (Bk b),B5 a,Ac,Bj,Ig,Bj];rfl) (λrec=>by rw[F1,Bh];rfl),Bj,AK];rw[show((List.range c.length).any λk=>HJ c k λe=>Py n e)=BK c (λ_ e=>Py n e)from rfl];cases BK c λ_ e=>Py n e<;>rfl
def AaY{r:Rln}{c:zI}(h:GQ r.2)(d:c.length<=lim):IB r c=some (pjG r c):=by
 unfold IB pjG;rw[fF h,Bj];cases i:Ml r with
 |false=>rfl
 |true=>
  rw[Au,Ad,AK,Anl d,Bj];cases g:decide ((c.length:Int)<=5)&& !BK c (λ_ e=>Py r.1 e)with
  |false=>rfl
  |true=>rw[Ab,At]at g;rw[Au,Ad,Ac];have f:=Adx i g.2;rw[Kg (a:=r.2) (h:=λx=>Fc x c) h.1 (λk b j=>by rw[KG,Bq b,AV b,BA b (Bk h.1),Ac,Bj,pj d (f _ (Ae b)),Bj,AO (by have:=h.1;simp only[Ai,AH,Aj];omega)]) (λrec y=>by rw[KG,Bh];rfl),Bj,Akx ⟨by rw[Ai];exact h.1,λy k=>by obtain⟨x,_,rfl⟩:=Aw.1 k;unfold Fc;rw[Ai];exact d⟩,Bj]
def Yw{r:Rln}{c:zI}(d:Ml r=true)(q:c.length<=5)(hi:∀e∈c,0<=e∧e < r.1):pjG r c=(((c.length:Int),sortB<|r.2.map λx=>Fc x c),true)∧Ml (((c.length:Int),sortB<|r.2.map λx=>Fc x c))=true:=by
 have f:=Mm d;have j:BK c (λ_ e=>Py r.1 e)=false:=FSQ λi b=>by have:=hi _<|Ae b;unfold Py HH;rw[wrap_in aG];simp;omega
 have g:HH (c.length:Int) 0 5=true:=by unfold HH;simp;omega
 have h:(r.2.map λx=>Fc x c).length<=4000:=by rw[Ai];exact f.2.2.1
 have a:∀y∈r.2.map λx=>Fc x c,(y.length:Int)=(c.length:Int)∧Qg y=true:=λy k=>by obtain⟨x,l,rfl⟩:=Aw.1 k;have m:=f.2.2.2 x l;refine⟨by unfold Fc;rw[Ai],bw λv i=>?_⟩;unfold Fc at i;obtain⟨e,o,rfl⟩:=Aw.1 i;have p:=hi e o;obtain⟨n,rfl⟩:=CT p.1;rw[Dz (aG:n < x.length)];exact Zo m.2 aG
 refine⟨?_,aP g h a⟩;unfold pjG;rw[d,j,Ak (show((c.length:Int)<=5)by omega),xW g h a];rfl
def dj{b}(h:QJ b=true):b.1.length<=lim∧GQ b.2.2∧∀s∈b.2.2,s.length=b.1.length:=by obtain⟨c,f,a,-⟩:=EK h;have:=l6 c;exact⟨uY,⟨uY,λr d=>by have:=(a r d).1;unfold lim;omega⟩,λs e=>(a s e).1⟩
def Aa3{b}(h:QJ b=true):E8 b=some true:=by
 obtain⟨d,g,-⟩:=dj h;unfold QJ vsB BK at h;rw[Ab,Ab,At]at h;unfold E8
 rw[Ew (λk=>HJ b.1 k λe=> !HH e 0 4 || Iw b.1 k e) d (λk a i=>by
  unfold HO F0;rw[Bq a,AV a,BA a (Bk d),B5 a];simp only[Ac,Bj,Ig,Iw];cases HH b.1[k] 0 4 with
  |false=>rfl
  |true=>
   by_cases f:0 < k
   ·have c:k - 1 < b.1.length:=aG;rw[ZT a f (Bk d),AV c,B5 c,Ak (aG:(0:Int) < (k:Int)),Ak f];rfl
   ·rw[Ah (aG:¬(0:Int) < (k:Int)),Ah f];rfl) (λrec=>by unfold HO;rw[Bh];rfl),h.1,Ad,Bj]
 simp only;rw[fF g,Bj,h.2.1,Ac,h.2.2];rfl
def JZ(A B:zI):zI:=A.filter B.contains
def V3{A}(a:A.Nodup){k:Nat}(b:k < A.length):CA A A[k]=(k:Int):=by have⟨j,d,c,e2⟩:=Hs<|Ag.2<|Ae b;rw[c,(DZ a).1 e2]
def tQ{A B r s}(c:vsB A=true)(d:vsB B=true):Kx A r B s (GD A B)=(Mp A r (JZ A B)==Mp B s (JZ A B)):=by
 rw[Bb,Bv];unfold Kx Mp JZ;rw[Aq,Pu];constructor
 ·intro h v a;have⟨b,e⟩:=AM.1 a;have:=h v<|(M7 c d v).2<|.inl b;rw[Ag.2 b,e]at this;simpa using this
 ·intro h v a;cases f:A.contains v with
  |false=>rfl
  |true=>
   cases c2:B.contains v with
   |false=>rfl
   |true=>rw[h v (AM.2 ⟨Ag.1 f,c2⟩)];simp
def AcI(a b:zI)(c:vsB a=true)(d:vsB b=true):Ds 100 (Wg (λv=>a.contains (v:Int)) b)=GD a b:=by
 refine lt_eq (dF _ _) (dF _ _) λx=>?_
 rw[M7 c d,dG];unfold Wg;constructor
 ·rintro⟨v,_,h,rfl⟩;rw[BZ]at h;exact h.imp Ag.1 Ag.1
 ·intro h;have e:0<=x∧x<=4:=h.elim ((Wc c).2 x)<|(Wc d).2 x;refine⟨x.toNat,aG,?_,aG⟩;show(a.contains ((x.toNat:Nat):Int) || b.contains ((x.toNat:Nat):Int))=true;rw[show((x.toNat:Nat):Int)=x by omega,BZ];exact h.imp Ag.2 Ag.2
def Adh{a b}(d:vsB a=true)(c:vsB b=true):MR a b=some (GD a b):=by have g:=l6 c;have e:=(Wc c).2;have:=dT (S:=λv=>a.contains (v:Int)) (a1:=b) uY (λx f=>by have:=e x f;omega);rw[<-qo d aG,AcI a b d c]at this;exact this
section
variable {a b:JY}(ha:QJ a=true)(hb:QJ b=true)
include ha hb
def Afk:Nv a b=some (Wd a b,true):=by
 have⟨a1,I,J,K,L⟩:=EK ha;have⟨b1,b2,M,N,O⟩:=EK hb;have⟨p,q,w⟩:=dj ha;have⟨x,z,A⟩:=dj hb;have P:=eo a.1 b.1;unfold Nv;rw[Aa3 ha,Bj,Au,Ad,Aa3 hb,Bj,Au,Ad,ag p,Bj,Adh a1 b1,Bj]
 have g:∀(y:List zI) (r:Row),y.length+1<=lim->r.length=a.1.length->Ay (J2 a b (GD a.1 b.1) y r) fz 0=some (cond (smK a.1 b r) (y++[r]) y):=λy r Q C=>by
  have⟨o,e,D⟩:=Fu (B:=J2 a b (GD a.1 b.1) y r) (λst=>∃k:Nat,st=(k:Int)∧k<=b.2.2.length∧∀j (h:j < b.2.2.length),j < k->Kx a.1 r b.1 b.2.2[j] (GD a.1 b.1)=false) (λst=>b.2.2.length - st.toNat) (λo=>o=cond (smK a.1 b r) (y++[r]) y) (λst m=>by
   obtain⟨k,rfl,f,i⟩:=m;by_cases c:k < b.2.2.length
   ·have t:=wR (u:=GD a.1 b.1) (a:=a.1) (r:=r) (b:=b.1) (s:=b.2.2[k]) uY p x C (A _<|Ae c) (λv F=>((M7 a1 b1 v).1 F).imp Ag.2 Ag.2);cases d:Kx a.1 r b.1 b.2.2[k] (GD a.1 b.1)with
    |true=>left;refine⟨_,rfl,λrec=>?_⟩;have l:smK a.1 b r=true:=BR.2 ⟨_,Ae c,d⟩;rw[l];unfold J2;rw[Bq c,Ac,AV c,Bj,t,Bj,d,Ac,Ac,ag aG,Bj,AO (by rw[Aj];omega)];rfl
    |false=>
     right;refine⟨((k+1:Nat):Int),⟨k+1,rfl,c,λj h G=>?_⟩,by simp only[Ax];omega,λrec=>?_⟩
     ·by_cases e:j=k
      ·subst e;exact d
      ·exact i j h aG
     ·unfold J2;rw[Bq c,Ac,AV c,Bj,t,Bj,d,Ad,Ad,BA c (Bk z.1)]
   ·left;have f:k=b.2.2.length:=aG;refine⟨_,rfl,λrec=>?_⟩;have l:smK a.1 b r=false:=by unfold smK;rw[BU];intro s l;obtain⟨j,h,rfl⟩:=AE.1 l;rw[i j h aG];simp
    rw[l,f];unfold J2;rw[Bh];rfl) fz 0 ⟨0,rfl,BF _,λj _ h=>by omega⟩ (by unfold fz;omega)
  rw[e,D]
 have n:=Cm (body:=OW a b (GD a.1 b.1)) (out:=a.2.2.filter (smK a.1 b)) (λk=>((a.2.2.take k).filter (smK a.1 b),(k:Int))) a.2.2.length (λk f H=>by
  have R:((a.2.2.take k).filter<|smK a.1 b).length<=k:=Bm (BY _ _) (by rw[AH];omega);unfold OW;simp only;rw[Bq f,Ac,AV f,Bj,g _ _ uY (w _<|Ae f),Bj,ft _ f,BA f (Bk q.1)];cases smK a.1 b a.2.2[k]with
  |true=>rfl
  |false=>rw[Ad,Ad,A7]) (λrec=>by
  unfold OW;simp only;rw[Bh,Ad,AQ]) fz (Dp q.1)
 rw[show((([]:List zI),(0:Int)))=((a.2.2.take 0).filter<|smK a.1 b,((0:Nat):Int))from by simp,n];rfl
def Akw:Hi a b=some (cond (S8 a b) (([],(0,[])),false) (lg a b,true)):=by
 have⟨a1,F,G,H,I⟩:=EK ha;have⟨b1,b2,J,K,L⟩:=EK hb;have⟨s,t,u⟩:=dj ha;have⟨w,p,x⟩:=dj hb;have M:=eo a.1 b.1;unfold Hi;rw[Aa3 ha,Bj,Au,Ad,Aa3 hb,Bj,Au,Ad,Adh a1 b1,Bj]
 have h:∀(r:Row) (y:List zI),y.length+4000<=lim->r.length=a.1.length->Ay (H0 a b (GD a.1 b.1) r) fz (y,0)=some (y++glR a.1 b.1 (GD a.1 b.1) b.2.2 r):=λr y N j=>by
  have:=Cm (body:=H0 a b (GD a.1 b.1) r) (out:=y++glR a.1 b.1 (GD a.1 b.1) b.2.2 r) (λk=>(y++(b.2.2.take k).flatMap (gl1 a.1 b.1 (GD a.1 b.1) r),(k:Int))) b.2.2.length (λk g i=>by
   have O:=mU a.1 b.1 (GD a.1 b.1) r b.2.2 k;have l:gl1 a.1 b.1 (GD a.1 b.1) r b.2.2[k]=cond (Kx a.1 r b.1 b.2.2[k]<|GD a.1 b.1) [SD a.1 r b.1 b.2.2[k] (GD a.1 b.1)] []:=rfl;simp only[H0,LH];rw[Bq g,Ac,AV g,Bj,wR uY s w j (x _<|Ae g) (λv z=>((M7 a1 b1 v).1 z).imp Ag.2 Ag.2),Bj,fx _ g,<-Bw,BA g (Bk p.1),l];cases Kx a.1 r b.1 b.2.2[k] (GD a.1 b.1)with
   |true=>rw[Ac,Ac,AO (by simp only[An,Aj];omega),Ac]
   |false=>rw[Ad,Ad,Ad,A7]) (λrec=>by
   simp only[H0];rw[Bh,Ad,AQ];rfl) fz (Dp p.1)
  simpa using this
 have⟨o,e,A⟩:=Fu (B:=JA a b (GD a.1 b.1)) (λst=>∃k:Nat,st=((a.2.2.take k).flatMap (glR a.1 b.1 (GD a.1 b.1) b.2.2),(k:Int))∧k<=a.2.2.length∧((a.2.2.take k).flatMap (glR a.1 b.1 (GD a.1 b.1) b.2.2)).length<=4000) (λst=>a.2.2.length - st.2.toNat) (λo=>o=cond (S8 a b) (.inr (([],(0,[])),false)) (.inl (iq a b))) (λst m=>by
  obtain⟨k,rfl,g,C⟩:=m;by_cases c:k < a.2.2.length
  ·have d:∀i,JA a b (GD a.1 b.1) i ((a.2.2.take k).flatMap<|glR a.1 b.1 (GD a.1 b.1) b.2.2,(k:Int))=cond (decide (4000 < (((a.2.2.take<|k+1).flatMap<|glR a.1 b.1 (GD a.1 b.1) b.2.2).length:Int))) (some<|.inr (([],(0,[])),false)) (i ((a.2.2.take<|k+1).flatMap<|glR a.1 b.1 (GD a.1 b.1) b.2.2,((k+1:Nat):Int))):=λrec=>by simp only[JA];rw[Bq c,Ac,AV c,Bj,h _ _ uY (u _<|Ae c),Bj,BA c (Bk t.1),fx _ c]
   by_cases q:4000 < (((a.2.2.take<|k+1).flatMap<|glR a.1 b.1 (GD a.1 b.1) b.2.2).length:Int)
   ·left;refine⟨_,rfl,λrec=>?_⟩
    have f:S8 a b=true:=by
     unfold S8 iq;rw[AN];have D:a.2.2.flatMap (glR a.1 b.1 (GD a.1 b.1) b.2.2)=(a.2.2.take<|k+1).flatMap (glR a.1 b.1 (GD a.1 b.1) b.2.2)++(a.2.2.drop<|k+1).flatMap (glR a.1 b.1 (GD a.1 b.1) b.2.2):=by rw[<-Dw,CI]
     rw[D,An];omega
    rw[d,Ak q,f];rfl
   ·right;refine⟨_,⟨k+1,rfl,c,aG⟩,by simp only[Ax];omega,λrec=>?_⟩;rw[d,Ah q];rfl
  ·left;have g:k=a.2.2.length:=aG;refine⟨_,rfl,λrec=>?_⟩;rw[g,AQ]at C⊢;have f:S8 a b=false:=by unfold S8 iq;rw[C1];omega
   simp only[JA];rw[Bh,f];rfl) fz (([]:List zI),0) ⟨0,nF,BF _,nF⟩ (by unfold fz;simp only;omega)
 have n:GQ (iq a b):=⟨by have:=Ah0 ha hb;unfold lim;omega,λr j=>by have:=(xU ha hb j).1;unfold lim;omega⟩;rw[e,A,Bj];cases S8 a b with
 |true=>rfl
 |false=>simp only[Ad];rw[po n,Bj];rfl
end
def Jx(n:Nat)(f:Nat->JY):List JY:=(List.range n).map f
def Vj(n:Nat)(f:Nat->JY):(Jx n f).length=n:=by unfold Jx;rw[Ai,BJ]
def Sx{n f}{i:Nat}(h:i < n):AU (Jx n f) (i:Int)=some (f i):=by rw[AV (by rw[Vj];exact h)];unfold Jx;rw[Bl,Ei]
def qj{n f i}(h:i < (Jx n f).length):(Jx n f)[i]=f i:=by simp[Jx]
def eh{n f}{i:Nat}{v}:CY (Jx n f) (i:Int) v=Jx n (TW f i v):=by
 unfold CY;rw[Ax];refine Cp (by rw[By,Vj,Vj]) λt a b=>?_
 rw[Di,qj,qj];unfold TW;by_cases e:i=t
 ·subst e;simp
 ·rw[AA e,AA λh=>e h.symm]
def WO{n f g}(h:∀i,i < n->f i=g i):Jx n f=Jx n g:=Bd λi hi=>h i<|Ao.1 hi
def zr(l:List JY):l=Jx l.length λi=>l.getD i ([],0,[]):=by
 refine Cp (Vj _ _).symm λt a b=>?_
 rw[qj,AF,Af a];rfl
def tI{α:Type}(f:Nat->α)(i:Nat)(v:α):TW f i v i=v:=Az rfl
def tJ{α:Type}(f:Nat->α){i j:Nat}(v:α)(h:j≠i):TW f i v j=f j:=AA h
def oC{p:zI}{x j:Nat}(a:x < p.length)(h:Sk p x=some j):AU p (x:Int)=some (j:Int):=by rw[AV a];have:=AdJ (p:=p) (k:=j) a;rw[h,C4]at this;rw[DL this.symm]
def jN{p}{x:Nat}(a:x < p.length)(h:Sk p x=none):AU p (x:Int)=some p[x]∧p[x] < 0:=by
 refine⟨AV a,?_⟩;unfold Sk at h;rw[di a]at h;split at h
 ·cases h
 ·omega
def S0{α:Type}{l:List α}{k:Nat}(h:k < l.length):l.take (k+1)=l.take k++[l[k]]:=by rw[Pv,Af h];rfl
def YF:∀(l:List JY) (a:JY),l.foldl Wd a=(a.1,(a.2.1,a.2.2.filter λr=>l.all λb=>smK a.1 b r))
 |[],a=>by have⟨v,m,R⟩:=a;simp only[Ez,Fa];rw[NF.2 λ_ _=>rfl]
 |b::l,a=>by rw[Ca,YF l];unfold Wd;simp only[K3,BM];congr 3;funext r;rw[GZ]
def tw{l d:List JY}(a:JY)(h:∀b,b∈l↔b∈d):l.foldl Wd a=d.foldl Wd a:=by rw[YF,YF];congr 3;funext r;rw[Bb,Aq,Aq];exact⟨λg b c=>g b<|(h b).2 c,λg b c=>g b<|(h b).1 c⟩
theorem dQ:∀(l:List JY) (a:JY),QJ a=true->(∀b∈l,QJ b=true)->QJ (l.foldl Wd a)=true
 |[],a,d,_=>d
 |b::l,a,d,h=>dQ l _ (AdG d (h b BD)) λc e=>h c (AW _ e)
section
variable {n r:Nat}{up:Nat->Option Nat}{K:Nat->zN}{D:Nat->Nat}
def Anf{α:Type}{op:α->α->α}{B N:Nat->α}{pre:zN}{x:Nat}(e:up x=none):gE up op B N (pre++[x])=gE up op B N pre:=by funext i;unfold gE;rw[CQ,List.filter_cons_of_neg (by unfold uX;rw[e];simp),DM,A7]
variable (h:TrN n r up K D)
include h
def Xb{B}(a:∀i,i < n->QJ (B i)=true):∀m k,k < n->QJ (NN K Wd B m k)=true
 |0,k,b=>a k b
 |m+1,k,b=>by
  rw[NN];refine dQ _ _ (a k b) λb d=>?_
  obtain⟨c,e,rfl⟩:=Aw.1 d;exact Xb a m c (QF h e).1
def Aj7{B}(b:∀i,i < n->QJ (B i)=true){pre:zN}(a:∀x∈pre,x < n){i:Nat}(hi:i < n):QJ (gE up Wd B (NN K Wd B n) pre i)=true:=by
 unfold gE;refine dQ _ _ (b i hi) λb d=>?_
 obtain⟨c,e,rfl⟩:=Aw.1 d;exact Xb h b n c<|a c (AM.1 e).1
theorem qt{S:Nat->JY}(b:∀i,i < n->QJ (S i)=true):∀m k,k < n->QJ (TT up Wd S m k)=true
 |0,k,a=>b k a
 |m+1,k,a=>by
  rw[TT]
  cases e:up k with
  |none=>exact b k a
  |some j=>exact AdG (b k a) (qt b m j (dE h a e).1)
def AcU{O}(b:BfI n r K O O.length){t:Nat}(e:t < O.reverse.length)(c:Nat):c∈(O.reverse.take t).filter (uX up O.reverse[t])↔c∈K O.reverse[t]:=by
 have f:∀(i:Nat) (hi:i < O.reverse.length),O.reverse[i]=O[O.length - 1 - i]'(by rw[Dx]at hi;omega):=λi hi=>MV hi
 rw[AM];constructor
 ·rintro⟨g,a⟩;unfold uX at a;exact(h.kid _ _).2 ⟨b.lt _<|Iq.1<|Dd g,DL a⟩
 ·intro d;refine⟨?_,by unfold uX;rw[((h.kid _ _).1 d).2];simp⟩;rw[Dx]at e;rw[f t (by rw[Dx];exact e)]at d;have⟨i,hi,g,a⟩:=Ael b _ d;rw[DN];refine⟨O.length - 1 - i,by rw[Dx];omega,?_⟩;rw[f _ (by rw[Dx];omega),<-a];congr 1;omega
theorem qH{O:zN}(b:BfI n r K O O.length){t:Nat}(a:t < O.reverse.length):O.reverse[t] < n:=b.lt _ (Iq.1 (Ae a))
theorem bz{O:zN}(b:BfI n r K O O.length){t:Nat}(ht:t < O.reverse.length):O.reverse[t]∉O.reverse.take t:=λhm=>by
 obtain⟨i,hi,e⟩:=DN.1 hm
 have:=(DZ (List.pairwise_reverse.2 (b.nd.imp λh e=>h e.symm):O.reverse.Nodup)).1 e
 omega
theorem Yd{O:zN}(b:BfI n r K O O.length){t:Nat}(a:t < O.reverse.length){c:Nat}(f:c∈K O.reverse[t]):c∈O.reverse.take t∧c≠O.reverse[t]:=by
 have d:=(AM.1 ((AcU h b a c).2 f)).1
 exact⟨d,λe=>bz h b a (e ▸ d)⟩
theorem Amn{O:zN}(b:BfI n r K O O.length){B:Nat->JY}{t:Nat}(a:t < O.reverse.length):gE up Wd B (NN K Wd B n) (O.reverse.take t) O.reverse[t]=NN K Wd B n O.reverse[t]:=by
 unfold gE
 rw[bl h (qH h b a)]
 refine tw _ λv=>?_
 rw[Aw,Aw]
 exact exists_congr λc=>and_congr_left λ_=>AcU h b a c
def Aiz{O:zN}(b:BfI n r K O O.length){B:Nat->JY}{i:Nat}(hi:i < n):gE up Wd B (NN K Wd B n) O.reverse i=NN K Wd B n i:=by
 unfold gE;rw[bl h hi];refine tw _ λv=>?_
 rw[Aw,Aw];refine exists_congr λc=>and_congr_left λ_=>?_
 rw[AM,h.kid];unfold uX;rw[Bv,Iq,j9 h b]
end
def Se(x y:Option JY):Option JY:=match x,y with
 |some a,some b=>cond (S8 a b) none<|some<|lg a b
 |_,_=>none
def sM(x:Option JY):Se x none=none:=by cases x<;>rfl
def Wn:∀l:List (Option JY),l.foldl Se none=none
 |[]=>rfl
 |x::l=>by rw[Ca,show Se none x=none from rfl,Wn l]
def mM:∀{l:List (Option JY)}(a:Option JY),none∈l->l.foldl Se a=none
 |x::l,a,h=>by
  rw[Ca];rcases AL.1 h with e|h
  ·rw[<-e,sM,Wn]
  ·exact mM _ h
def kI:∀(l:List (Option JY)) (a v:JY),QJ a=true->(∀b,some b∈l->QJ b=true)->l.foldl Se (some a)=some v->QJ v=true
 |[],a,v,d,_,e=>by rw[Ez,Av]at e;exact e ▸ d
 |none::l,a,v,d,f,e=>by rw[Ca,sM,Wn]at e;cases e
 |some b::l,a,v,d,f,e=>by
  rw[Ca]at e;cases g:S8 a b with
  |true=>rw[show Se (some a) (some b)=none by unfold Se;simp only;rw[g];rfl,Wn]at e;cases e
  |false=>rw[show Se (some a) (some b)=some (lg a b)by unfold Se;simp only;rw[g];rfl]at e;exact kI l _ v (nq d (f b BD) g) (λc h=>f c<|AW _ h) e
section
variable {n r:Nat}{up:Nat->Option Nat}{K:Nat->zN}{D:Nat->Nat}(h:TrN n r up K D){B:Nat->JY}
include h
def Xa(a:∀i,i < n->QJ (B i)=true):∀m k v,k < n->NN K Se (λi=>some<|B i) m k=some v->QJ v=true
 |0,k,v,d,e=>by rw[NN,Av]at e;exact e ▸ a k d
 |m+1,k,v,d,e=>by rw[NN]at e;refine kI _ _ v (a k d) (λb f=>?_) e;have⟨c,g,e2⟩:=Aw.1 f;exact Xa a m c b (QF h g).1 e2
def Abw{Bo}:∀d x,D x<=d->x < n->NN K Se Bo n x=none->NN K Se Bo n r=none:=by
 intro d;induction d with
 |zero=>
  intro x f a b;by_cases e:x=r
  ·subst e;exact b
  ·have⟨j,_,_,g⟩:=h.upD x a e;omega
 |succ d i=>
  intro x f a b;by_cases e:x=r
  ·subst e;exact b
  ·have⟨j,k,c,g⟩:=h.upD x a e;refine i j aG c ?_;rw[bl h c];exact mM _<|Aw.2 ⟨x,(h.kid j x).2 ⟨a,k⟩,b⟩
def um{Bo x s}(a:x < n)(b:(((K x).take s).map<|NN K Se Bo n).foldl Se (Bo x)=none):NN K Se Bo n r=none:=by refine Abw h (D x) x (A5 _) a ?_;rw[bl h a];rw[<-CI s (K x),Br,C2,b,Wn]
end
section
variable {p:zI}{r:Nat}{D:Nat->Nat}(hp:p.length<=lim)(h:TrN p.length r (Sk p) (U8 p) D){B:Nat->JY}(hB:∀i,i < p.length->QJ (B i)=true)
abbrev cx(p:zI)(B:Nat->JY):Nat->JY:=NN (U8 p) Wd B p.length
abbrev nnJ(p:zI)(B:Nat->JY):Nat->Option JY:=NN (U8 p) Se (λi=>some<|B i) p.length
abbrev ttS(p:zI)(S:Nat->JY):Nat->JY:=TT (Sk p) Wd S p.length
include hp h
include hB
theorem Akq{O:zN}(b:BfI p.length r (U8 p) O O.length):Ay (GE p (nL O.reverse)) fz (Jx p.length B,0)=some (Jx p.length (cx p B)):=by
 have o:=Zp b
 have l:=h.rn
 have c:O.reverse.length<=lim:=by rw[Dx];omega
 have i:=Cm (body:=GE p (nL O.reverse)) (out:=Jx p.length (cx p B)) (λk=>(Jx p.length (gE (Sk p) Wd B (cx p B) (O.reverse.take k)),(k:Int))) O.reverse.length (λk a m=>by
  have d:=qH h b a
  have e:∀x∈O.reverse.take k,x < p.length:=λx d=>b.lt x (Iq.1 (Dd d))
  unfold GE Kq
  simp only
  rw[NC,Bq a,Ac,fV a,Bj]
  cases f:Sk p O.reverse[k]with
  |none=>
   obtain⟨n,e2⟩:=jN d f
   rw[n,Bj,Ah aG,Ad,BA a (Bk c),S0 a,Anf f]
  |some j=>
   have g:=(dE h d f).1
   rw[oC d f,Bj,Ak aG,Ac,AO (by rw[Vj];omega),Sx g,Bj,Sx d,Bj,Amn h b a,Afk (Aj7 h hB e g) (Xb h hB _ _ d),Bj,Bj,eh,BA a (Bk c),S0 a,Ang f]) (λrec=>by
  unfold GE
  simp only
  rw[NC,Bh,Ad,AQ]
  exact congrArg some (WO λi hi=>Aiz h b hi)) fz (Dp c)
 exact i
omit hB
variable {S:Nat->JY}(hS:∀i,i < p.length->QJ (S i)=true)
include hS
theorem Akr{O:zN}(b:BfI p.length r (U8 p) O O.length):Ay (GF p (nL O.reverse)) fz (Jx p.length S,wZ (((nL O.reverse).length:Int) - 1))=some (Jx p.length (ttS p S)):=by
 have hl:=Zp b
 have hpos:=h.rn
 have hlr:O.length<=lim:=aG
 have hl2:=hlr
 unfold lim at hl2
 obtain⟨o,e,ho⟩:=Fu (B:=GF p (nL O.reverse)) (λst=>∃s:Nat,st=(Jx p.length (λi=>if i∈O.take s then ttS p S i else S i),(O.length:Int) - 1 - (s:Int))∧s<=O.length) (λst=>(st.2+1).toNat) (λo=>o=Jx p.length (ttS p S)) (λst hst=>by
  obtain⟨s,rfl,hs⟩:=hst
  by_cases hlt:s < O.length
  ·right
   have hx:=b.lt _ (Ae hlt)
   obtain⟨k,hk⟩:∃k:Nat,k=O.length - 1 - s:=⟨_,rfl⟩
   have ek:(O.length:Int) - 1 - (s:Int)=(k:Int):=aG
   have hkl:k < O.reverse.length:=by rw[Dx];omega
   have ex:O.reverse[k]=O[s]:=by rw[MV];congr 1;omega
   have hxm:O[s]∉O.take s:=λhm=>by
    obtain⟨i,hi,e⟩:=DN.1 hm
    have:=(DZ b.nd).1 e
    omega
   refine⟨(Jx p.length (λi=>if i∈O.take (s+1)then ttS p S i else S i),(O.length:Int) - 1 - ((s+1:Nat):Int)),⟨s+1,rfl,hlt⟩,by simp only;omega,λrec=>?_⟩
   have hw:wZ ((k:Int) - 1)=(O.length:Int) - 1 - ((s+1:Nat):Int):=by rw[wrap_in aG];omega
   have htab:∀f:Nat->JY,(∀i,i < p.length->f i=if i∈O.take (s+1)then ttS p S i else S i)->Jx p.length f=Jx p.length (λi=>if i∈O.take (s+1)then ttS p S i else S i):=λf hf=>WO hf
   unfold GF Kr
   simp only
   rw[ek,Ak aG,Ac,fV hkl,Bj,ex]
   cases hj:Sk p O[s]with
   |none=>
    obtain⟨e1,e2⟩:=jN hx hj
    rw[e1,Bj,Ah aG,Ad,hw]
    congr 2
    refine htab _ λi hi=>?_
    rw[S0 hlt]
    by_cases hm:i∈O.take s
    ·rw[Az hm,Az (AD _ hm)]
    ·rw[AA hm]
     by_cases e:i=O[s]
     ·have hr:O[s]=r:=by
       by_cases hne:O[s]=r
       ·exact hne
       ·obtain⟨j,e3,_⟩:=h.upD _ hx hne
        rw[hj]at e3;cases e3
      rw[Az (AB _ (As.2 e)),e,hr]
      exact(AmV (op:=Wd) (S:=S) h).symm
     ·rw[AA (by rw[Al,As];exactλh=>h.elim hm e)]
   |some j=>
    obtain⟨hjn,-⟩:=dE h hx hj
    obtain⟨i,hi,his,ei⟩:=AjF h b hlt hj
    have hjm:j∈O.take s:=DN.2 ⟨i,aG,ei⟩
    rw[oC hx hj,Bj,Ak aG,Ac,AO (by rw[Vj];omega),Bj,Bj,Sx hx,Bj,Sx hjn,Bj,AA hxm,Az hjm,Afk (hS _ hx) (qt h hS _ _ hjn),Bj,Bj,eh,hw]
    congr 2
    refine htab _ λi hi=>?_
    simp only[TW]
    rw[S0 hlt]
    by_cases e:i=O[s]
    ·rw[Az e,Az (AB _ (As.2 e)),e]
     exact(AdQ (op:=Wd) (S:=S) h hx hj).symm
    ·rw[AA e]
     by_cases hm:i∈O.take s
     ·rw[Az hm,Az (AD _ hm)]
     ·rw[AA hm,AA (by rw[Al,As];exactλh=>h.elim hm e)]
  ·left
   have hs:s=O.length:=aG
   refine⟨_,rfl,λrec=>?_⟩
   unfold GF
   simp only
   rw[Ah aG,Ad]
   exact congrArg some (WO λi hi=>by rw[Az (by rw[hs,AQ];exact(j9 h b i).2 hi)])) fz (Jx p.length S,wZ (((nL O.reverse).length:Int) - 1)) ⟨0,by rw[NC,Dx,wrap_in aG];simp,BF _⟩ (by unfold fz;rw[NC,Dx,wrap_in aG];simp only;omega)
 rw[e,ho]
omit hS
include hB
def Afb{x:Nat}(m:x < p.length){f:Nat->JY}(t:f x=B x)(u:∀c∈U8 p x,nnJ p B c=some (f c)∧c≠x):∃o,Ay (Er (x:Int)<|nL<|U8 p x) fz (Jx p.length f,0)=some o∧((o=.inr ((0,[]),false)∧nnJ p B r=none)∨∃v,o=.inl (Jx p.length<|TW f x v)∧nnJ p B x=some v):=by
 have A:=h.rn;have F:(U8 p x).length<=p.length:=p8 _ _
 have G:Jx p.length f=Jx p.length (TW f x<|B x):=WO λi hi=>by
  simp only[TW];by_cases e:i=x
  ·rw[Az e,e,t]
  ·rw[AA e]
 refine Fu (B:=Er (x:Int)<|nL<|U8 p x) (λst=>∃s:Nat,∃v:JY,st=(Jx p.length<|TW f x v,(s:Int))∧s<=(U8 p x).length∧(((U8 p x).take s).map<|nnJ p B).foldl Se (some<|B x)=some v) (λst=>(U8 p x).length - st.2.toNat) (λo=>(o=.inr ((0,[]),false)∧nnJ p B r=none)∨∃v,o=.inl (Jx p.length<|TW f x v)∧nnJ p B x=some v) (λst w=>?_) fz (Jx p.length f,0) ⟨0,B x,by rw[<-G];rfl,BF _,rfl⟩ (by unfold fz;unfold lim at hp;simp only;omega);obtain⟨s,v,rfl,y,n⟩:=w;by_cases d:s < (U8 p x).length
 ·have q:=Ae d;obtain⟨k,-⟩:=QF h q;have⟨C,z⟩:=u _ q;have H:QJ v=true:=kI _ _ v (hB x m) (λb j=>by have⟨c,q,e2⟩:=Aw.1 j;exact Xa h hB _ c b (QF h (Dd q)).1 e2) n;have I:=Xa h hB _ _ _ k C;have a:(((U8 p x).take<|s+1).map<|nnJ p B).foldl Se (some<|B x)=cond (S8 v<|f (U8 p x)[s]) none (some<|lg v<|f (U8 p x)[s]):=by rw[S0 d,Br,C2,n,AP,DE,Ca,Ez,C];rfl
  have g:∀l,Er (x:Int) (nL<|U8 p x) l (Jx p.length<|TW f x v,(s:Int))=cond (S8 v<|f (U8 p x)[s]) (some<|.inr ((0,[]),false)) (l (Jx p.length<|TW f x<|lg v<|f (U8 p x)[s],((s+1:Nat):Int))):=λrec=>by
   unfold Er;simp only;rw[NC,Bq d,Ac,fV d,Bj,Sx m,Bj,Sx k,Bj,tI,tJ _ _ z,Akw H I,Bj];cases S8 v (f (U8 p x)[s])with
   |true=>rfl
   |false=>
    simp only[Ad,Au];rw[AO (by rw[Vj];omega),Bj,eh,BA d (Bk aG)];congr 2;refine WO λi hi=>?_
    simp only[TW];by_cases e:i=x
    ·rw[Az e,Az e]
    ·rw[AA e,AA e,AA e]
  cases j:S8 v (f (U8 p x)[s])with
  |true=>left;refine⟨_,.inl ⟨rfl,um h m (s:=s+1)<|by rw[j]at a;exact a⟩,λrec=>by rw[g,j];rfl⟩
  |false=>right;refine⟨_,⟨s+1,_,rfl,d,by rw[a,j];rfl⟩,by simp only[Ax];omega,λrec=>by rw[g,j,Ad]⟩
 ·left;have y:s=(U8 p x).length:=aG;refine⟨_,.inr ⟨v,rfl,?_⟩,λrec=>?_⟩
  ·rw[y,AQ]at n;rw[<-n];exact bl h m
  ·unfold Er;simp only;rw[NC,y,Bh,Ad]
theorem Ac7{O:zN}(b:BfI p.length r (U8 p) O O.length):∃o,Ay (Ep p (nL O.reverse)) fz (Jx p.length B,0)=some o∧((o=.inr ((0,[]),false)∧nnJ p B r=none)∨∃f,o=.inl (Jx p.length f)∧nnJ p B r=some (f r)):=by
 have hl:=Zp b
 have hpos:=h.rn
 have hlr:O.reverse.length<=lim:=by rw[Dx];omega
 refine Fu (B:=Ep p (nL O.reverse)) (λst=>∃k:Nat,∃f:Nat->JY,st=(Jx p.length f,(k:Int))∧k<=O.reverse.length∧(∀i∈O.reverse.take k,nnJ p B i=some (f i))∧∀i,i∉O.reverse.take k->f i=B i) (λst=>O.reverse.length - st.2.toNat) (λo=>(o=.inr ((0,[]),false)∧nnJ p B r=none)∨∃f,o=.inl (Jx p.length f)∧nnJ p B r=some (f r)) (λst hst=>?_) fz (Jx p.length B,0) ⟨0,B,rfl,BF _,λi hi=>by simp at hi,λi _=>rfl⟩ (by unfold fz;unfold lim at hlr;simp only;omega)
 obtain⟨k,f,rfl,hk,hf1,hf2⟩:=hst
 by_cases hlt:k < O.reverse.length
 ·have hx:=qH h b hlt
  obtain⟨o,e,ho⟩:=Afb hp h hB hx (f:=f) (hf2 _ (bz h b hlt)) (λc hc=>⟨hf1 c (Yd h b hlt hc).1,(Yd h b hlt hc).2⟩)
  have hstep:∀rec,Ep p (nL O.reverse) rec (Jx p.length f,(k:Int))=Aa (Ay (Er (O.reverse[k]:Int) (nL (U8 p O.reverse[k]))) fz (Jx p.length f,0)) λo2=>match o2 with
   |.inl z16=>rec (z16,((k+1:Nat):Int))
   |.inr r=>some (.inr r):=λrec=>by
   unfold Ep
   simp only
   rw[NC,Bq hlt,Ac,fV hlt,Bj,pi hp,Bj,BA hlt (Bk hlr)]
   rfl
  rcases ho with⟨rfl,hn⟩|⟨v,rfl,hv⟩
  ·left
   exact⟨_,.inl ⟨rfl,hn⟩,λrec=>by rw[hstep,e];rfl⟩
  ·right
   refine⟨_,⟨k+1,TW f O.reverse[k] v,rfl,hlt,λi hi=>?_,λi hi=>?_⟩,by simp only[Ax];omega,λrec=>by rw[hstep,e];rfl⟩
   ·simp only[TW]
    by_cases e:i=O.reverse[k]
    ·rw[Az e,e];exact hv
    ·rw[AA e]
     rw[S0 hlt,Al,As]at hi
     exact hf1 i (hi.resolve_right e)
   ·rw[S0 hlt,Al,As]at hi
    simp only[TW]
    rw[AA λe=>hi (.inr e)]
    exact hf2 i λhm=>hi (.inl hm)
 ·left
  have hk:k=O.reverse.length:=aG
  refine⟨_,.inr ⟨f,rfl,hf1 r (by rw[hk,AQ,Iq];exact b.rt)⟩,λrec=>?_⟩
  unfold Ep
  simp only
  rw[NC,hk,Bh,Ad]
def Ako{x:Nat}(j:x < p.length){f:Nat->JY}(k:f x=B x)(l:∀c∈U8 p x,f c=cx p B c∧c≠x):Ay (EU (x:Int)<|nL<|U8 p x) fz (Jx p.length f,0)=some (Jx p.length<|TW f x<|cx p B x):=by
 have o:=h.rn;have q:(U8 p x).length<=p.length:=p8 _ _;have a:(((U8 p x).take (U8 p x).length).map<|cx p B).foldl Wd (B x)=cx p B x:=by rw[AQ];exact(bl h j).symm
 have m:=Cm (body:=EU (x:Int) (nL (U8 p x))) (out:=Jx p.length (TW f x (cx p B x))) (λs=>(Jx p.length (TW f x ((((U8 p x).take s).map (cx p B)).foldl Wd (B x))),(s:Int))) (U8 p x).length (λs b t=>by
  have g:=Ae b;obtain⟨d,-⟩:=QF h g;obtain⟨u,n⟩:=l _ g;have v:QJ ((((U8 p x).take s).map<|cx p B).foldl Wd<|B x)=true:=dQ _ _ (hB x j) λb w=>by obtain⟨c,g,rfl⟩:=Aw.1 w;exact Xb h hB _ c (QF h<|Dd g).1
  unfold EU;simp only;rw[NC,Bq b,Ac,fV b,Bj,AO (by rw[Vj];omega),Sx j,Bj,Sx d,Bj,tI,tJ _ _ n,u,Afk v (Xb h hB _ _ d),Bj,Bj,eh,BA b (Bk aG),S0 b,Br,C2,AP,DE,Ca,Ez];congr 2;refine WO λi hi=>?_
  simp only[TW];by_cases e:i=x
  ·rw[Az e,Az e]
  ·rw[AA e,AA e,AA e]) (λrec=>by
  unfold EU;simp only;rw[NC,Bh,Ad,a]) fz (Dp aG)
 rw[<-m];congr 2;refine WO λi hi=>?_
 simp only[TW];by_cases e:i=x
 ·rw[Az e,e,k];rfl
 ·rw[AA e]
theorem Akn{O:zN}(b:BfI p.length r (U8 p) O O.length){x:List zI}:Ay (ET (x,p) (nL O.reverse)) fz (Jx p.length B,0)=some (Jx p.length (cx p B)):=by
 have q:=Zp b
 have l:=h.rn
 have c:O.reverse.length<=lim:=by rw[Dx];omega
 have g:=Cm (body:=ET (x,p) (nL O.reverse)) (out:=Jx p.length (cx p B)) (λk=>(Jx p.length (λi=>if i∈O.reverse.take k then cx p B i else B i),(k:Int))) O.reverse.length (λk a n=>by
  have o:=qH h b a
  have j:=bz h b a
  unfold ET
  simp only
  rw[NC,Bq a,Ac,fV a,Bj,pi hp,Bj,Ako hp h hB o (f:=λi=>if i∈O.reverse.take k then cx p B i else B i) (AA j) (λc m=>⟨Az (Yd h b a m).1,(Yd h b a m).2⟩),Bj,BA a (Bk c)]
  congr 2
  refine WO λi hi=>?_
  simp only[TW]
  rw[S0 a]
  by_cases e:i=O.reverse[k]
  ·rw[Az e,Az (AB _ (As.2 e)),e]
  ·rw[AA e]
   by_cases d:i∈O.reverse.take k
   ·rw[Az d,Az (AD _ d)]
   ·rw[AA d,AA (by rw[Al,As];exactλh=>h.elim d e)]) (λrec=>by
  unfold ET
  simp only
  rw[NC,Bh,Ad]
  exact congrArg some (WO λi hi=>by rw[Az (by rw[AQ,Iq];exact(j9 h b i).2 hi)])) fz (Dp c)
 rw[<-g]
 congr 2
end
def we(x:List zI)(p:zI)(v:zI):Lx (x,p) v=Ep p v:=rfl
abbrev Rt:=Int×Int
def Ani{B}(i:∀c a b,B c (a,b)=cond (b !=0) (chk (b≠0)<|c (b,Int.tmod a b)) (some a)):
  ∀(k f m n:Nat),n < 2 ^ k->2 * k < f->Ay B f ((m:Int),(n:Int))=some ((Nat.gcd m n:Nat):Int):=by
 have e:∀(f m:Nat),0 < f->Ay B f ((m:Int),((0:Nat):Int))=some ((Nat.gcd m 0:Nat):Int):=λf m j=>by
  cases f with
  |zero=>omega
  |succ f=>rw[Cn,i,Nat.gcd_zero_right];rfl
 have l:∀(f m n:Nat),0 < n->Ay B (f+1) ((m:Int),(n:Int))=Ay B f ((n:Int),((m % n:Nat):Int)):=λf m n h=>by rw[Cn,i,show((n:Int)!=0)=true by rw[Cy];omega,Ac,AO aG];rfl
 have o:∀m n:Nat,Nat.gcd m n=Nat.gcd n (m % n):=λm n=>by rw[Nat.gcd_comm m n,Nat.gcd_rec n m,Nat.gcd_comm]
 intro k;induction k with
 |zero=>intro f m n h j;obtain rfl:n=0:=aG;exact e f m aG
 |succ k q=>
  intro f m n h j;rcases DI n with rfl|p
  ·exact e f m aG
  ·obtain⟨f,rfl⟩:∃g,f=g+2:=⟨f - 2,aG⟩;rw[l (f+1) m n p,o m n];rcases DI (m % n)with d|d
   ·rw[d];exact e _ n aG
   ·rw[l f n (m % n) d,o n (m % n)];refine q f _ _ ?_ aG;have s:m % n < n:=O6 _ p;have t:n % (m % n) < m % n:=O6 _ d;rw[Fb]at h;rcases Bi n (2 * (m % n))with r|r
    ·have u:n % (m % n)=n - m % n:=by rw[Nat.mod_eq_sub_mod aG,DF aG]
     omega
    ·omega
def Ac9(m n:Nat)(c:n < 2 ^ 62):XA (m:Int) (n:Int)=some ((Nat.gcd m n:Nat):Int):=by unfold XA;rw[Ani (λrec a b=>by simp only[cY]) 62 fz m n c (by unfold fz;omega),Bj]
def P7(r:Rt):Bool:=HH r.2 1 1000000000&&(HH r.1 (-1000000000) 1000000000&&(((Nat.gcd r.1.natAbs r.2.natAbs:Nat):Int)==1))
def u3{a}(h:a.natAbs<=4000000000000000000):(if a < wZ (0 - a)then wZ (0 - a)else a)=(a.natAbs:Int):=by rw[wrap_in aG];split<;>omega
def U2{x lo hi}:HH x lo hi=true↔lo<=x∧x<=hi:=by unfold HH;simp
def r6(r:Rt):FZ r=some (P7 r):=by
 unfold FZ P7;rw[Ig,Bj];cases b:HH r.2 1 1000000000 with
 |false=>rfl
 |true=>
  rw[Ac,Ig,Bj];cases c:HH r.1 (-1000000000) 1000000000 with
  |false=>rfl
  |true=>rw[U2]at c b;rw[Ac];unfold Xy;rw[u3 aG,Bj];have e:r.2=(r.2.natAbs:Int):=aG;have a:=Ac9 r.1.natAbs r.2.natAbs aG;rw[<-e]at a;rw[a];rfl
def Mn{r}(h:P7 r=true):1<=r.2∧r.2<=1000000000∧r.1.natAbs<=1000000000∧Nat.gcd r.1.natAbs r.2.natAbs=1:=by unfold P7 at h;simp only[Ab,U2,Bv]at h;exact⟨h.1.1,h.1.2,aG,aG⟩
def pZ(n d:Int):Rt×Bool:=
 cond (P7 (n.tdiv (Nat.gcd n.natAbs d.natAbs:Nat),d.tdiv (Nat.gcd n.natAbs d.natAbs:Nat))) ((n.tdiv (Nat.gcd n.natAbs d.natAbs:Nat),d.tdiv (Nat.gcd n.natAbs d.natAbs:Nat)),true) ((0,0),false)
def rNew(n d:Int):Rt×Bool:=
 cond (d==0) ((0,0),false) (cond (HH n (-4000000000000000000) 4000000000000000000) (cond (HH d (-4000000000000000000) 4000000000000000000) (cond (decide (d < 0)) (pZ (-n) (-d))<|pZ n d) ((0,0),false)) ((0,0),false))
def tx{n:Int}{g:Nat}(h:n.natAbs<=4000000000000000000):wZ (n.tdiv (g:Int))=n.tdiv (g:Int):=by
 have:=show(n.tdiv (g:Int)).natAbs=n.natAbs / (g:Int).natAbs from Int.natAbs_tdiv n (g:Int)
 have a:n.natAbs / (g:Int).natAbs<=n.natAbs:=Nat.div_le_self _ _;rw[<-this]at a;exact wrap_in aG
def Ade{n d:Int}(a:n.natAbs<=4000000000000000000)(c:0 < d∧d<=4000000000000000000):JB n d=some (pZ n d):=by unfold JB pZ;have e:d=(d.natAbs:Int):=aG;have b:=Ac9 n.natAbs d.natAbs aG;rw[<-e]at b;have f:0 < Nat.gcd n.natAbs d.natAbs:=Nat.gcd_pos_of_pos_right _ aG;unfold Xy;rw[u3 a,Bj,b,Bj,AO aG,AO aG,tx a,tx aG,r6,Bj];cases P7 (n.tdiv (Nat.gcd n.natAbs d.natAbs:Nat),d.tdiv (Nat.gcd n.natAbs d.natAbs:Nat))<;>rfl
def pm(n d:Int):J1 n d=some (rNew n d):=by
 unfold J1 rNew;cases a:d==0 with
 |true=>rfl
 |false=>
  rw[Be]at a;rw[Ad,Ad,Ig,Bj];cases b:HH n (-4000000000000000000) 4000000000000000000 with
  |false=>rfl
  |true=>
   rw[Au,Ad,Ac,Ig,Bj];cases c:HH d (-4000000000000000000) 4000000000000000000 with
   |false=>rfl
   |true=>
    rw[U2]at b c;rw[Au,Ad,Ac];by_cases h:d < 0
    ·rw[Ak h,Ac,Ac,wrap_in aG,wrap_in aG,Rl,Rl];exact Ade aG aG
    ·rw[Ah h,Ad,Ad];exact Ade aG aG
def zL{x y}(a:x.natAbs<=1000000000)(b:y.natAbs<=1000000000):wZ (x * y)=x * y∧(x * y).natAbs<=1000000000000000000:=by
 have h:(x * y).natAbs<=1000000000 * 1000000000:=by rw[Int.natAbs_mul];exact Hr a b
 exact⟨wrap_in aG,aG⟩
def dy(a b:Rt):Rt×Bool:=cond (P7 a) (cond (P7 b) (rNew (a.1 * b.2+b.1 * a.2)<|a.2 * b.2) ((0,0),false)) ((0,0),false)
def Rs(a b:Rt):Rt×Bool:=cond (P7 a) (cond (P7 b) (rNew (a.1 * b.1)<|a.2 * b.2) ((0,0),false)) ((0,0),false)
def cB(a b:Rt):Rt×Bool:=cond (P7 a) (cond (P7 b) (rNew (a.1 * b.2)<|a.2 * b.1) ((0,0),false)) ((0,0),false)
def lE(a b:Rt):Rt×Bool:=cond (P7 b) (dy a (-b.1,b.2)) ((0,0),false)
def RQ(a b:Rt):Int:=cond (P7 a) (cond (P7 b) (cond (decide (a.1 * b.2 < b.1 * a.2)) (-1)<|cond (decide (b.1 * a.2 < a.1 * b.2)) 1 0) 0) 0
def tf{a b}(c:P7 a=true)(d:P7 b=true):wZ (a.1 * b.2)=a.1 * b.2∧wZ (b.1 * a.2)=b.1 * a.2∧wZ (a.2 * b.2)=a.2 * b.2∧wZ (a.1 * b.2+b.1 * a.2)=a.1 * b.2+b.1 * a.2∧wZ (a.1 * b.1)=a.1 * b.1∧wZ (a.2 * b.1)=a.2 * b.1:=by have g:=Mn c;have h:=Mn d;have e:=zL (x:=a.1) (y:=b.2) aG aG;have f:=zL (x:=b.1) (y:=a.2) aG aG;exact⟨e.1,f.1,(zL aG aG).1,wrap_in aG,(zL aG aG).1,(zL aG aG).1⟩
def kQ(a b:Rt):Kd a b=some (P7 a&&P7 b):=by
 unfold Kd;rw[r6,Bj];cases P7 a with
 |false=>rfl
 |true=>rw[Ac,r6,Bj];rfl
def pl(a b:Rt):LW a b=some (dy a b):=by
 unfold LW dy;rw[kQ,Bj];cases c:P7 a with
 |false=>rfl
 |true=>
  cases d:P7 b with
  |false=>rfl
  |true=>have⟨e,e2,f,g,h,i⟩:=tf c d;rw[Ga,Au,Ad,Ac,Ac,e,e2,f,g,pm];rfl
def w5(a b:Rt):L5 a b=some (Rs a b):=by
 unfold L5 Rs;rw[kQ,Bj];cases c:P7 a with
 |false=>rfl
 |true=>
  cases d:P7 b with
  |false=>rfl
  |true=>have⟨g,e2,e,h,f,i⟩:=tf c d;rw[Ga,Au,Ad,Ac,Ac,f,e,pm];rfl
def w3(a b:Rt):LX a b=some (cB a b):=by
 unfold LX cB;rw[kQ,Bj];cases d:P7 a with
 |false=>rfl
 |true=>
  cases e:P7 b with
  |false=>rfl
  |true=>
   have⟨f,e2,h,i,j,g⟩:=tf d e;rw[Ga,Au,Ad,Ac,Ac];cases c:b.1==0 with
   |true=>rw[Bv]at c;rw[c,Int.mul_zero];rfl
   |false=>rw[Ad,f,g,pm];rfl
def Ab5{b}(a:b.1.natAbs<=4000000000000000000):P7 (-b.1,b.2)=P7 b:=by
 unfold P7;have e:HH (-b.1) (-1000000000) 1000000000=HH b.1 (-1000000000) 1000000000:=by rw[Bb,U2,U2];omega
 simp only[Int.natAbs_neg,e]
def Afh{a b:Rt}(i: -9223372036854775808<=b.1∧b.1<=9223372036854775807):OX a b=some (lE a b):=by
 unfold OX lE;cases d:P7 b with
 |false=>
  have c:P7 (wZ<|0 - b.1,b.2)=false:=by
   by_cases e:b.1= -9223372036854775808
   ·rw[e];cases h:P7 (wZ<|0 - -9223372036854775808,b.2)with
    |false=>rfl
    |true=>have f:=(Mn h).2.2.1;rw[show wZ (0 - -9223372036854775808)= -9223372036854775808 by decide]at f;exact absurd f (show ¬((-9223372036854775808:Int).natAbs<=1000000000)by decide)
   ·rw[wrap_in aG,Rl];by_cases g:b.1.natAbs<=4000000000000000000
    ·rw[Ab5 g];exact d
    ·cases h:P7 (-b.1,b.2)with
     |false=>rfl
     |true=>have f:=(Mn h).2.2.1;simp only at f;omega
  rw[pl];unfold dy;cases P7 a with
  |false=>rfl
  |true=>rw[Ac,c];rfl
 |true=>have j:=Mn d;rw[Ac,wrap_in aG,Rl,pl];rfl
def fE(a b:Rt):EZ a b=some (RQ a b):=by
 unfold EZ RQ;rw[kQ,Bj];cases e:P7 a with
 |false=>rfl
 |true=>
  cases f:P7 b with
  |false=>rfl
  |true=>
   have⟨g,e2,h,i,j,k⟩:=tf e f;rw[Ga,Au,Ad,Ac,Ac,g,e2,ph,Bj];by_cases c:a.1 * b.2 < b.1 * a.2
   ·rw[Az c,Ak c];rfl
   ·rw[AA c,Ah c];by_cases d:b.1 * a.2 < a.1 * b.2
    ·rw[Az d,Ak d];rfl
    ·rw[AA d,Ah d];rfl
def R2{O:Type}{B:(Int->Option (Sum Unit O))->Int->Option (Sum Unit O)}{n:Nat}(a:Nat->Bool)(o:O)(l:n<=lim)(p:∀k,k < n->∀b,B b (k:Int)=cond (a k) (some<|.inr o) (b ((k+1:Nat):Int)))(q:∀b,B b (n:Int)=some (.inl ())):
  Ay B fz 0=some (cond ((List.range n).any a) (.inr o)<|.inl ()):=by
 have e:∀d k,k+d=n->(∀j,j < k->a j=false)->∀m,d < m->Ay B m (k:Int)=some (cond ((List.range n).any a) (.inr o)<|.inl ()):=by
  intro d;induction d with
  |zero=>
   intro k r f m s;obtain⟨m,rfl⟩:∃g,m=g+1:=⟨m - 1,aG⟩;have:(List.range n).any a=false:=by rw[BU];intro x t;rw[f x (by have:=Ao.1 t;omega)];simp
   rw[Cn,show k=n by omega,q,this];rfl
  |succ d u=>
   intro k r f m s;obtain⟨m,rfl⟩:∃g,m=g+1:=⟨m - 1,aG⟩;rw[Cn,p k aG];cases c:a k with
   |true=>
    have:(List.range n).any a=true:=by rw[BR];exact⟨k,Ao.2 aG,c⟩
    rw[this];rfl
   |false=>
    exact u (k+1) aG (λj i=>by
     rcases Bi j k with h|h
     ·exact f j h
     ·rw[show j=k by omega];exact c) m aG
 have:=e n 0 aG (λj i=>absurd i aG) fz<|Dp l;simpa using this
def ml{α:Type}(x:α)(l:List α)(f:α->Bool):BK (x::l) (λ_ e=>f e)=(f x || BK l λ_ e=>f e):=by unfold BK;rw[AC,List.range_succ_eq_map,G1,List.any_map];congr 1
def iY{α:Type}:∀(l:List α) (k:Nat),(HG k l).map (·.1)=List.range' k l.length
 |[],_=>rfl
 |x::l,k=>by rw[HG,AP,iY l (k+1),AC,D0]
def Wz{α:Type}(l:List α):Ro l=List.range l.length:=by rw[Ro,iY,Gg]
def jC{α:Type}:∀(l p:List α),Lz (p++l) (List.range' p.length l.length)=l
 |[],p=>rfl
 |x::l,p=>by have h:=jC l<|p++[x];rw[Bw,Hq,An,Aj]at h;rw[AC,D0];unfold Lz at h⊢;rw[AR,h];simp
def yx{α:Type}(l:List α):Lz l (Ro l)=l:=by rw[Wz,Gg];exact jC l []
def nu:∀(n k m:Nat) (a:zN),k+n<=m->(∀j∈a,j < k)->lj m (List.range' k n) a=true
 |0,_,_,_,_,_=>rfl
 |n+1,k,m,a,h,c=>by
  rw[D0,lj,Ab,Ab,At];refine⟨⟨by rw[Nat.blt_eq];omega,?_⟩,nu n (k+1) m (k::a) aG<|λj b=>?_⟩
  ·cases d:a.contains k with
   |false=>rfl
   |true=>exact absurd (c k<|Ag.1 d)<|G2 _
  ·rcases AL.1 b with rfl|b
   ·omega
   ·have:=c j b;omega
def Abz{α:Type}(l:List α):lj l.length (Ro l) []=true:=by rw[Wz,Gg];exact nu _ 0 _ [] aG nF
def UD{S O:Type}(st:Nat->S->Sum S O):Nat->Nat->S->Sum S O
 |0,_,s=>.inl s
 |j+1,k,s=>match st k s with
  |.inl a=>UD st j (k+1) a
  |.inr o=>.inr o
def cH{S T O R:Type}{B n}(a:S->Nat->T)(Inv:Nat->S->Prop)(st:Nat->S->Sum S O)(b:Sum S O->R)
  (e:∀c k s,k < n->Inv k s->B c (a s k)=match st k s with|.inl d=>c (a d<|k+1)|.inr o=>some<|b<|.inr o)
  (h:∀c s,Inv n s->B c (a s n)=some (b<|.inl s))
  (i:∀k s d,k < n->Inv k s->st k s=.inl d->Inv (k+1) d):∀(j k:Nat) (s:S) (f:Nat),k+j=n->j < f->Inv k s->Ay B f (a s k)=some (b<|UD st j k s)
 |0,k,s,f,l,m,hi=>by obtain⟨f,rfl⟩:∃g,f=g+1:=⟨f - 1,aG⟩;obtain rfl:k=n:=aG;rw[Cn,h _ s hi];rfl
 |j+1,k,s,f,l,m,hi=>by
  obtain⟨f,rfl⟩:∃g,f=g+1:=⟨f - 1,aG⟩;rw[Cn,e _ k s aG hi,UD];cases p:st k s with
  |inl d=>exact cH a Inv st b e h i j (k+1) d f aG aG<|i k s d aG hi p
  |inr o=>rfl
def MY{S T O R:Type}{B n}(a:S->Nat->T)(Inv:Nat->S->Prop)(st:Nat->S->Sum S O)(b:Sum S O->R)(e:n<=lim)
  (f:∀c k s,k < n->Inv k s->B c (a s k)=match st k s with|.inl d=>c (a d<|k+1)|.inr o=>some<|b<|.inr o)
  (g:∀c s,Inv n s->B c (a s n)=some (b<|.inl s))
  (h:∀k s d,k < n->Inv k s->st k s=.inl d->Inv (k+1) d) (s:S) (hi:Inv 0 s):Ay B fz (a s 0)=some (b<|UD st n 0 s):=
 cH a Inv st b f g h n 0 s fz aG (Dp e) hi
def gJ{α O:Type}(g:Nat->α):∀(j k:Nat) (s:List α),UD (O:=O) (λk s=>.inl<|s++[g k]) j k s=.inl (s++(List.range' k j).map g)
 |0,k,s=>by rw[UD];simp
 |j+1,k,s=>by rw[UD];simp only;rw[gJ g j (k+1),D0,AP,Bw];rfl
def Tj{α O:Type}(g:Nat->Sum α O):Nat->Nat->Sum (List α) O
 |0,_=>.inl []
 |j+1,k=>match g k with
  |.inr o=>.inr o
  |.inl x=>match Tj g j (k+1)with
   |.inl l=>.inl<|x::l
   |.inr o=>.inr o
def u5{α O:Type}(s:List α):Sum α O->Sum (List α) O
 |.inl x=>.inl<|s++[x]
 |.inr o=>.inr o
def aS{α O:Type}(g:Nat->Sum α O):∀(j k:Nat) (s:List α),UD (λk s=>u5 s<|g k) j k s=(match Tj g j k with|.inl l=>.inl (s++l)|.inr o=>.inr o)
 |0,k,s=>by rw[UD,Tj];simp
 |j+1,k,s=>by
  rw[UD,Tj];cases a:g k with
  |inr o=>rfl
  |inl x=>
   rw[show u5 (O:=O) s (.inl x)=.inl (s++[x])from rfl];simp only;rw[aS g j (k+1)];cases Tj g j (k+1)with
   |inr o=>rfl
   |inl l=>simp only[Bw,Hq]
def aA{α O:Type}{g:Nat->Sum α O}:∀{j k:Nat}{l:List α},Tj g j k=.inl l->l.length=j
 |0,_,_,h=>by cases h;rfl
 |j+1,k,l,h=>by
  rw[Tj]at h;cases b:g k with
  |inr o=>rw[b]at h;cases h
  |inl x=>
   rw[b]at h;cases a:Tj g j (k+1)with
   |inr o=>simp only[a]at h;cases h
   |inl c=>simp only[a]at h;cases h;rw[AC,aA a]
def pT{α:Type}(l:List α)(j:Nat)(J:zN):Lz l (j::J)=(l[j]?).toList++Lz l J:=by rw[Lz,AR];rfl
def jB{α:Type}[Inhabited α](l:List α):∀{J:zN},(∀j∈J,j < l.length)->Lz l J=J.map λj=>l.getD j default
 |[],_=>rfl
 |j::J,h=>by have a:=h j BD;rw[pT,jB l λi hi=>h i (AW _ hi),AP,Af a,AF,Af a];rfl
def x9{n}:∀{J seen:zN},J.Nodup->(∀j∈J,j < n∧j∉seen)->lj n J seen=true
 |[],_,_,_=>rfl
 |j::J,seen,hn,h=>by
  have⟨h1,h2⟩:=BI.1 hn;have⟨h3,h4⟩:=h j BD;rw[lj,Ab,Ab,At];refine⟨⟨by rw[Nat.blt_eq];exact h3,?_⟩,x9 h2 λi hi=>⟨(h i<|AW _ hi).1,λhm=>?_⟩⟩
  ·cases hc:seen.contains j with
   |false=>rfl
   |true=>exact absurd (Ag.1 hc) h4
  ·rcases AL.1 hm with rfl|hm
   ·exact h1 hi
   ·exact(h i<|AW _ hi).2 hm
def sw(p k i:Nat):Nat:=if i=p then k else if i=k then p else i
def AiC{p k i j}(h:sw p k i=sw p k j):i=j:=by unfold sw at h;split at h<;>split at h<;>(try split at h)<;>(try split at h)<;>omega
def zq{n p k}(b:p < n)(c:k < n):((List.range n).set p k).set k p=(List.range n).map (sw p k):=by
 apply Cp
 ·simp
 ·intro i a d;simp only[By,BJ]at a;rw[Di,Bl,Ei];unfold sw;by_cases e:k=i
  ·subst e;rw[Az rfl];split
   ·rename_i h;exact h.symm
   ·rw[Az rfl]
  ·rw[AA e,Di];by_cases e2:p=i
   ·subst e2;simp
   ·rw[AA e2,AA (λh=>e2 h.symm),AA (λh=>e h.symm),Ei]
def AdH{n p k i}(a:p < n)(b:k < n)(hi:i < n):sw p k i < n:=by unfold sw;split;exact b;split;exact a;exact hi
def Amq{n p k}(a:p < n)(b:k < n):lj n ((List.range n).map<|sw p k) []=true:=by
 refine x9 ?_ λj c=>?_
 ·unfold List.Nodup;rw[CV];exact FE (λh e=>h<|AiC e)<|show(List.range n).Pairwise (· ≠ ·)from C3
 ·obtain⟨i,hi,rfl⟩:=Aw.1 c;exact⟨AdH a b<|Ao.1 hi,nF⟩
def swL{α:Type}[Inhabited α](m:List α)(p k:Nat):List α:=(m.set k<|m.getD p default).set p<|m.getD k default
def AiB{α:Type}[Inhabited α]{m:List α}{p k:Nat}(b:p < m.length)(c:k < m.length):Lz m ((List.range m.length).map<|sw p k)=swL m p k:=by
 rw[jB m λj d=>by obtain⟨i,hi,rfl⟩:=Aw.1 d;exact AdH b c (Ao.1 hi),D4];unfold swL;apply Cp
 ·simp
 ·intro i a f;simp only[Ai,BJ]at a;rw[Bl,Ei,Di];simp only[Function.comp];unfold sw;by_cases e:p=i
  ·subst e;simp
  ·rw[AA e,AA (λh=>e h.symm),Di];by_cases e2:k=i
   ·subst e2;simp
   ·rw[AA e2,AA (λh=>e2 h.symm),AF,Af a];rfl
abbrev Mx:=List<|List Rt
def atR(l:List Rt)(k:Nat):Rt:=l.getD k (0,0)
def Od(m:Mx)(k:Nat):List Rt:=m.getD k []
def rowOk(n:Nat)(r:List Rt):Bool:=(r.length==n)&&r.all P7
def ie(a:Mx)(b:List Rt):Bool:=(a.length==b.length)&&(a.all (rowOk b.length)&&b.all P7)
def elF(f:Rt):List Rt->List Rt->Option (List Rt)
 |x::xs,y::a=>cond ((Rs f y).2&&(lE x (Rs f y).1).2) ((elF f xs a).map ((lE x (Rs f y).1).1:: ·)) none
 |_,_=>some []
def fh(p:Nat)(row piv:List Rt):Option (List Rt):=cond (cB (atR row p)<|atR piv p).2 ((elF (cB (atR row p)<|atR piv p).1 (row.drop p)<|piv.drop p).map (row.take p++ ·)) none
def oo(p:Nat)(m:Mx)(i:Nat):Option Mx:=cond (i==p) (some m)<|cond ((atR (Od m i) p).1==0) (some m)<|(fh p (Od m i)<|Od m p).map (m.set i ·)
def dc(p:Nat):Nat->Nat->Mx->Option Mx
 |0,_,m=>some m
 |j+1,i,m=>match oo p m i with
  |none=>none
  |some m'=>dc p j (i+1) m'
def bk(m:Mx)(p:Nat):Nat->Nat->Nat
 |0,k=>k
 |j+1,k=>cond ((atR (Od m k) p).1==0) (bk m p j<|k+1) k
def Wo(n:Nat):Nat->Nat->Mx->Option Mx
 |0,_,m=>some m
 |j+1,p,m=>cond (bk m p (n - p) p==n) none (match dc p n 0 (swL m p (bk m p (n - p) p))with
  |none=>none
  |some m'=>Wo n j (p+1) m')
def dB(n:Nat)(m:Mx)(p:Nat):Sum Rt (List Rt×Bool):=cond (cB (atR (Od m p) n)<|atR (Od m p) p).2 (.inl (cB (atR (Od m p) n)<|atR (Od m p) p).1)<|.inr ([],false)
def iu(a:Mx)(b:List Rt):Mx:=(List.range' 0 b.length).map λk=>Od a k++[atR b k]
def XP(a:Mx)(b:List Rt):List Rt×Bool:=cond (decide (6 < (b.length:Int))) ([],false) (cond (ie a b) (match Wo b.length b.length 0 (iu a b)with
 |none=>([],false)
 |some m=>match Tj (dB b.length m) b.length 0 with
  |.inl x=>(x,true)
  |.inr o=>o) ([],false))
def Ab4(n d:Int):(rNew n d).1.1.natAbs<=1000000000:=by
 have a:∀n d:Int,(pZ n d).1.1.natAbs<=1000000000:=λn d=>by
  unfold pZ;cases h:P7 (n.tdiv (Nat.gcd n.natAbs d.natAbs:Nat),d.tdiv (Nat.gcd n.natAbs d.natAbs:Nat))with
  |false=>simp
  |true=>exact(Mn h).2.2.1
 unfold rNew;cases d==0 with
 |true=>simp
 |false=>
  cases HH n (-4000000000000000000) 4000000000000000000 with
  |false=>simp
  |true=>
   cases HH d (-4000000000000000000) 4000000000000000000 with
   |false=>simp
   |true=>
    cases decide (d < 0)with
    |true=>exact a _ _
    |false=>exact a _ _
def Ab2(a b:Rt): -9223372036854775808<=(Rs a b).1.1∧(Rs a b).1.1<=9223372036854775807:=by
 have h:(Rs a b).1.1.natAbs<=1000000000:=by
  unfold Rs;cases P7 a with
  |false=>simp
  |true=>
   cases P7 b with
   |false=>simp
   |true=>exact Ab4 _ _
 omega
def eM{α:Type}(f:α->Bool):∀l:List α,BK l (λ_ e=>f e)=l.any f
 |[]=>rfl
 |x::l=>by rw[ml,eM f l,G1]
def oM{α:Type}(l:List α)(f:α->Bool):((List.range l.length).any λk=>HJ l k f)=l.any f:=eM f l
def not_any{α:Type}(l:List α)(f:α->Bool):(l.any λx=> !f x)= !l.all f:=by rw[List.not_all_eq_any_not]
def RY{l k}(h:k < l.length):l[k]=atR l k:=by unfold atR;rw[AF,Af h];rfl
def Qf{m k}(h:k < m.length):m[k]=Od m k:=by unfold Od;rw[AF,Af h];rfl
def NB{l}{k:Nat}(h:k < l.length):AU l (k:Int)=some (atR l k):=by rw[AV h,RY h]
def Zv{m:Mx}{k:Nat}(h:k < m.length):AU m (k:Int)=some (Od m k):=by rw[AV h,Qf h]
def bV{r:List Rt}(h:r.length<=lim):IC r=some (r.all P7):=by
 unfold IC
 rw[R2 (n:=r.length) (λk=>HJ r k λe=> !P7 e) false h (λk a b=>by
  show cond (decide ((k:Int) < (r.length:Int))) _ _=_;rw[Bq a,Ac,AV a];simp only[Aa];rw[r6];simp only[Aa];rw[BA a (Bk h),B5 a]) (λrec=>by
  show cond (decide ((r.length:Int) < (r.length:Int))) _ _=_;rw[Bh,Ad])]
 rw[oM,not_any];cases r.all P7<;>rfl
def tt{row:List Rt}{k:Nat}(h:k < row.length)(y:Rt):(row.set k y).drop (k+1)=row.drop (k+1)∧(row.set k y).take (k+1)=row.take k++[y]:=by
 constructor
 ·rw[List.drop_set_of_lt (G8 k)]
 ·rw[List.take_set,A3 h,List.set_append_right _ _ (by rw[AH];omega),AH,CS (Ck h),Nat.sub_self];rfl
def z8{m i j}(r:List Rt)(h:i < m.length):Od (m.set i r) j=if i=j then r else Od m j:=by
 unfold Od;rw[AF,FG,AF];split
 ·first|rfl|(rename_i e;subst e;rw[Az h];rfl)
 ·rfl
def Adf{d:Rt×Bool}{piv:List Rt}:∀(j k:Nat) (row:List Rt) (f:Nat),k+j=row.length->j < f->row.length<=lim->piv.length=row.length->
  (∀t,elF d.1 (row.drop k) (piv.drop k)=some t->Ay (Je piv d) f (row,(k:Int))=some (.inl<|row.take k++t))∧
  (elF d.1 (row.drop k) (piv.drop k)=none->∃g,Ay (Je piv d) f (row,(k:Int))=some (.inr (false,g)))
 |0,k,row,f,hk,hf,hl,hvl=>by obtain⟨f,rfl⟩:∃g,f=g+1:=⟨f - 1,aG⟩;obtain rfl:k=row.length:=aG;rw[MU,<-hvl,MU];refine⟨λt ht=>?_,λh=>by cases h⟩;cases ht;rw[Cn];show cond (decide ((piv.length:Int) < (row.length:Int))) _ _=_;rw[hvl,Bh,Ad,AQ,A7]
 |j+1,k,row,f,hk,hf,hl,hvl=>by
  obtain⟨f,rfl⟩:∃g,f=g+1:=⟨f - 1,aG⟩;have hk1:k < row.length:=aG;have hk2:k < piv.length:=aG;rw[BQ hk1,BQ hk2,elF,RY hk1,RY hk2,Cn];have hB:Je piv d (Ay (Je piv d) f) (row,(k:Int))=cond (!(Rs d.1<|atR piv k).2) (some<|.inr (false,row,piv)) (cond (!(lE (atR row k) (Rs d.1<|atR piv k).1).2) (some<|.inr (false,row,piv))<|Ay (Je piv d) f (row.set k (lE (atR row k) (Rs d.1<|atR piv k).1).1,((k+1:Nat):Int))):=by show cond (decide ((k:Int) < (row.length:Int))) _ _=_;rw[Bq hk1,Ac,NB hk2];simp only[Aa];rw[w5];simp only[Aa];rw[NB hk1];simp only[Aa];rw[Afh (Ab2 _ _)];simp only[Aa];rw[AO aG,BA hk1 (Bk hl)];simp only[CY,Ax]
  rw[hB];cases(Rs d.1<|atR piv k).2 with
  |false=>exact⟨λt ht=>(by cases ht),λ_=>⟨_,rfl⟩⟩
  |true=>
   rw[AK,Au,Ad];cases(lE (atR row k) (Rs d.1<|atR piv k).1).2 with
   |false=>exact⟨λt ht=>(by cases ht),λ_=>⟨_,rfl⟩⟩
   |true=>rw[Ac,Au,Ad];have ih:=Adf (d:=d) (piv:=piv) j (k+1) (row.set k (lE (atR row k) (Rs d.1<|atR piv k).1).1) f (by rw[By];omega) aG (by rw[By];exact hl) (by rw[By];exact hvl);rw[(tt hk1 _).1,(tt hk1 _).2]at ih;refine⟨λt ht=>?_,λhn=>ih.2<|by simpa using hn⟩;obtain⟨t',h1,h2⟩:=Cj.1 ht;rw[ih.1 t' h1,<-h2,Bw];rfl
def Afc{row piv}{p:Nat}(hl:row.length<=lim)(hvl:piv.length=row.length)(hp:p < row.length):(∀t,fh p row piv=some t->Om row piv (p:Int)=some (true,t,piv))∧(fh p row piv=none->∃g,Om row piv (p:Int)=some (false,g)):=by
 unfold Om fh;rw[NB hp,NB (aG:p < piv.length)];simp only[Aa];rw[w3];simp only[Aa];cases(cB (atR row p)<|atR piv p).2 with
 |false=>exact⟨λt ht=>(by cases ht),λ_=>⟨_,rfl⟩⟩
 |true=>
  rw[Ac,Au,Ad];have h:=Adf (d:=cB (atR row p)<|atR piv p) (piv:=piv) (row.length - p) p row fz aG (by have:=Dp hl;omega) hl hvl;refine⟨λt ht=>?_,λhn=>?_⟩
  ·have⟨t',h1,h2⟩:=Cj.1 ht;rw[h.1 t' h1,<-h2]
  ·have⟨g,hg⟩:=h.2 (by simpa using hn);exact⟨g,by rw[hg]⟩
end
end Go.Proofs.YtdmpnamllcigdaaGreatDoor
