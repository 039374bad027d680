/- A query's cover program has a vertex. No conditions. -/
import Derived.Test.YtpnoalhfjnjeaaaGreatDoorCpFC1
import Derived.Test.YtpnoalhfjnjeaaaGreatDoorGeFC1
import Derived.Test.YtpnoalhfjnjeaaaGreatDoorIcFC1
import Derived.Test.YtpnoalhfjnjeaaaGreatDoorAbFC1
import Derived.Test.YtpnoalhfjnjeaaaGreatDoorKc
open Go.RowKit
set_option linter.all false
namespace Go.Proofs.YtpnoalhfjnjeaaaGreatDoor
def dI{S i}:gB S i=true->i < S.length:=λh=>by
 refine Bv λhc=>?_
 unfold gB at h;rw[A1,BJ (by omega)]at h;cases h
def tB{S i j}(h:i < S.length):gB (S.set i false) j=(if i=j then false else gB S j):=by
 unfold gB;rw[A1,GU,A1];split
 ·first|rfl|(rename_i e;subst e;rw[At h];rfl)
 ·rfl
def eZ:∀{S:List Bool}{i:Nat},gB S i=true->((S.set i false).filter id).length < (S.filter id).length
 |[],i,h=>by simp[gB]at h
 |b::S,0,h=>by have:b=true:=h;subst this;simp
 |b::S,i+1,h=>by have:=eZ (S:=S) (i:=i) h;cases b<;>simp[N4]<;>simpa using this
def bT{P:List Bool->Prop}{n:Nat}:∀(k:Nat) (S:List Bool),(S.filter id).length<=k->S.length=n->P S->∃S:List Bool,S.length=n∧P S∧∀i,gB S i=true->¬P (S.set i false)
 |0,S,c,a,b=>⟨S,a,b,λi hi _=>by have:=eZ hi;omega⟩
 |k+1,S,c,a,b=>by
  by_cases h:∃i,gB S i=true∧P (S.set i false)
  ·obtain⟨i,d,e⟩:=h;have:=eZ d;exact bT k (S.set i false) (by omega) (by rw[Bd];exact a) e
  ·exact⟨S,a,b,λi hi f=>h ⟨i,hi,f⟩⟩
def kv{t}:∀{c:zN}{i:Nat},(i::c).Pairwise (· < ·)->(∀e∈i::c,e < t)->i+c.length < t
 |[],i,_,h=>by have:=h i BG;simpa using this
 |d::c,i,a,h=>by
  have⟨b,f⟩:=Cy.1 a;have:=kv f λe g=>h e<|AV _ g
  have:=b d BG;rw[Ar];omega
def oD{t}:∀{c:zN}{fr:Nat},c.Pairwise (· < ·)->(∀e∈c,fr<=e∧e < t)->c∈Ss t c.length fr
 |[],_,_,_=>AU.2 rfl
 |i::c,fr,b,h=>by
  have⟨d,f⟩:=Cy.1 b;have g:=kv b λe a=>(h e a).2
  have hi:=h i BG;rw[Ar,Ss,CA];refine⟨i,O6.2 ⟨hi.1,by omega⟩,Bq.2 ⟨c,oD f λe a=>⟨d e a,(h e<|AV _ a).2⟩,rfl⟩⟩
def wr{p sg out c}(h:out≠[]):visit p sg out c≠[]:=by
 unfold visit;cases(VV (c.map<|rowAt p)<|c.map<|Gp p).2 with
 |false=>exact h
 |true=>
  cases UH p (VV (c.map<|rowAt p)<|c.map<|Gp p).1 sg with
  |false=>exact h
  |true=>
   cases out.any (· ==(VV (c.map<|rowAt p)<|c.map<|Gp p).1)with
   |true=>exact h
   |false=>simp
def kY{p sg}:∀(l:List zN) (out:Mx),out≠[]->l.foldl (visit p sg) out≠[]
 |[],_,h=>h
 |c::l,out,h=>kY l _<|wr h
def gj{p sg c}(a:(VV (c.map<|rowAt p)<|c.map<|Gp p).2=true)(b:UH p (VV (c.map<|rowAt p)<|c.map<|Gp p).1 sg=true):∀(l:List zN) (out:Mx),c∈l->l.foldl (visit p sg) out≠[]
 |d::l,out,h=>by
  rw[DR];rcases AA.1 h with rfl|h
  ·refine kY l _ ?_;unfold visit;rw[a,b,Ab,Ab];cases f:out.any (· ==(VV (c.map<|rowAt p)<|c.map<|Gp p).1)with
   |true=>intro e;subst e;simp at f
   |false=>simp
  ·exact gj a b l _ h
def gz{α:Type}(f:α->Bool):∀l:List α,(l.filter f).length+(l.filter λx=> !f x).length=l.length
 |[]=>rfl
 |x::l=>by have:=gz f l;cases a:f x<;>simp[a]<;>omega
def sN(b:Bool):I1 (bt b)=true∧0<=(bt b).1:=by cases b<;>decide
section
variable {q:K8}
def bits(q:K8)(v:Nat):List Bool:=q.2.1.map λa=>a.2.contains (v:Int)
def w4(v:Nat):Zj q (v:Int)=(bits q v).map bt:=by unfold Zj bits bt;rw[EY];rfl
def di(v:Nat):(bits q v).length=q.2.1.length:=by unfold bits;rw[Am]
def O2:(Mq q).2.1.length=q.1.toNat∧(Mq q).2.2.length=q.2.1.length∧(Mq q).1.length=q.1.toNat:=by unfold Mq;simp
def mQ{v}(h:v < q.1.toNat):EW (Mq q).1 v=(bits q v).map bt:=by rw[<-ID (by rw[O2.2.2];exact h),<-w4];unfold Mq;simp only[BO,Et];simp
def uV:I1 ((1:Int),(1:Int))=true:=by decide
def zy(d:GY q=true):U1 (Mq q)=true:=by
 have⟨e,f,g,h⟩:=OC d;unfold U1;rw[O2.1,O2.2.1,O2.2.2];simp only[Ad,H0,BK];refine⟨by omega,by omega,trivial,?_,?_,?_⟩
 ·rw[Ap];intro r a;obtain⟨i,hi,rfl⟩:=Es a;have c:i < q.1.toNat:=by rw[O2.2.2]at hi;exact hi
  rw[ID hi,mQ c];unfold rowOk;rw[Am,di,BP,AK,N2,Ap];exactλb _=>(sN b).1
 ·rw[Ap];intro r a;unfold Mq at a;obtain⟨_,_,rfl⟩:=Bq.1 a;exact uV
 ·rw[Ap];intro r a;unfold Mq at a;obtain⟨_,_,rfl⟩:=Bq.1 a;exact uV
def AaE{v i:Nat}(h:i < q.2.1.length):gB (bits q v) i=(q.2.1[i]).2.contains (v:Int):=by unfold gB bits;rw[A1,BZ,Ah h];rfl
def Cov(q:K8)(S:List Bool):Prop:=∀v,v < q.1.toNat->∃i,gB (bits q v) i=true∧gB S i=true
def tx(d:GY q=true):Cov q (List.replicate q.2.1.length true):=λv c=>by
 have b:=d;unfold GY at b;simp only[Ad,AY]at b;have b:=CD.1 b.2.2.2.2 v<|AQ.2 c;have b:Lq q.2.1 (v:Int)=true:=by simpa using b
 unfold Lq at b;have⟨a,e,f⟩:=C4.1 b;obtain⟨i,hi,rfl⟩:=Es e;refine⟨i,by rw[AaE hi];exact f,?_⟩;unfold gB;rw[A1,J2,At hi];rfl
def qL{n}(a:1<=n)(b:n<=4):si n=true∧tryD n=true:=by
 have:n=1∨n=2∨n=3∨n=4:=by omega
 rcases this with rfl|rfl|rfl|rfl
 ·exact⟨Ajo,Aib⟩
 ·exact⟨Ajp,Aic⟩
 ·exact⟨Ajq,Aid⟩
 ·exact⟨Ajr,Aie⟩
def yY(hv:GY q=true){S:List Bool}(hl:S.length=q.2.1.length)(hc:Cov q S):UH (Mq q) (S.map bt) 1=true:=by
 have⟨h1,h2,h3,h4⟩:=OC hv;have hD:=(qL h3 h4).2;have hdot:∀v,v < q.1.toNat->sZ (bits q v) S=true:=λv _=>by unfold tryD at hD;have ha:=Ap.1 hD (bits q v) (by have:=WZ<|bits q v;rwa [di]at this);exact Ap.1 ha S (by have:=WZ S;rwa [hl]at this)
 have hdo:∀v,v < q.1.toNat->(V2 (EW (Mq q).1 v)<|S.map bt).2=true∧decide (wZ (mf (V2 (EW (Mq q).1 v)<|S.map bt).1 (1,1) * 1) < 0)=false:=λv hvn=>by have hd:=hdot v hvn;unfold sZ at hd;rw[Ad,CP,AY,AY]at hd;rw[mQ hvn];refine⟨hd.1,hd.2.resolve_left λhm=>?_⟩;have⟨i,g1,g2⟩:=hc v hvn;unfold zZ at hm;have:=CD.1 hm i<|AQ.2<|dI g2;rw[g1,g2]at this;exact this rfl
 have hmv:ZO (Mq q).1 (S.map bt)=((List.range' 0 q.1.toNat).map<|λv=>(V2 (EW (Mq q).1 v)<|S.map bt).1,true):=by unfold ZO;rw[O2.2.2,d5 (h:=λv=>(V2 (EW (Mq q).1 v) (S.map bt)).1) q.1.toNat 0 (λi _ hi=>by unfold mvG;rw[(hdo i (by omega)).1];rfl)]
 unfold UH;rw[zy hv,AK,Am,hl,O2.2.1,BP,AK,hmv,AK,N2];rw[Ad,AY];refine⟨Ap.2 λb _=>?_,CD.2 λv hvn=>?_⟩
 ·show(I1 (bt b)&&decide (0<=(bt b).1))=true;rw[(sN b).1,Ae (sN b).2];rfl
 ·simp only[Am,KE,AQ]at hvn;unfold ij;rw[hmv];have e1:atR ((List.range' 0 q.1.toNat).map λv=>(V2 (EW (Mq q).1 v)<|S.map bt).1) v=(V2 (EW (Mq q).1 v)<|S.map bt).1:=by rw[<-OZ (by rw[Am,KE];exact hvn),BO,Et];simp
  have e2:atR (Mq q).2.1 v=(1,1):=by rw[<-OZ (by rw[O2.1];exact hvn)];unfold Mq;simp
  simp only;rw[e1,e2,(hdo v hvn).2];simp
def tA(U:GY q=true):Qo (Mq q)≠[]:=by
 obtain⟨h1,h2,h3,h4⟩:=OC U;unfold Qo;rw[zy U,Ab];unfold rT;rw[O2.1,O2.2.1];obtain⟨S,F,hc,H⟩:=bT (P:=Cov q) (n:=q.2.1.length) _ (List.replicate q.2.1.length true) (Bb _) (by simp)<|tx U
 have I:∀i,gB S i=true->∃v,v < q.1.toNat∧gB (bits q v) i=true∧∀j,gB S j=true->gB (bits q v) j=true->j=i:=λi hi=>by
  have hn:=H i hi;refine Bv λhcon=>hn λv J=>?_
  obtain⟨j,g1,g2⟩:=hc v J;by_cases K:j=i
  ·subst K;refine Bv λhno=>hcon ⟨v,J,g1,λk k1 k2=>Bv λhki=>hno ⟨k,k2,?_⟩⟩
   rw[tB (dI hi),As (λh=>hki h.symm)];exact k1
  ·exact⟨j,g1,by rw[tB (dI hi),As (λh=>K h.symm)];exact g2⟩
 obtain⟨f,u⟩:∃f:Nat->Nat,∀i,gB S i=true->f i < q.1.toNat∧gB (bits q<|f i) i=true∧∀j,gB S j=true->gB (bits q<|f i) j=true->j=i:=
  ⟨λi=>if h:gB S i=true then Classical.choose (I i h)else 0,λi hi=>by simp only[dif_pos hi];exact Classical.choose_spec (I i hi)⟩
 have L:∀i j,gB S i=true->gB S j=true->f i=f j->i=j:=λi j hi m e=>(u j m).2.2 i hi (by rw[<-e];exact(u i hi).2.1)
 have l:∀i,i∈kc S↔gB S i=true:=λi=>by unfold kc;rw[CC,AQ];exact⟨λh=>h.2,λh=>⟨dI h,h⟩⟩
 have W:((kc S).map f).Nodup:=by unfold List.Nodup;rw[E4];have:(kc S).Pairwise (· ≠ ·):=IN _ F4;exact List.Pairwise.imp_of_mem (λ{a b} M N X e=>X<|L a b ((l a).1 M) ((l b).1 N) e) this
 let vs:=(List.range q.1.toNat).filter λv=>((kc S).map f).contains v
 have o:∀v,v∈vs↔∃i,gB S i=true∧f i=v:=λv=>by
  show v∈(List.range q.1.toNat).filter _↔_;rw[CC,AQ,Bk,Bq];constructor
  ·rintro⟨_,i,hi,e⟩;exact⟨i,(l i).1 hi,e⟩
  ·rintro⟨i,hi,e⟩;exact⟨by rw[<-e];exact(u i hi).1,i,(l i).2 hi,e⟩
 have O:vs.length=(kc S).length:=by
  have hp:vs.Perm ((kc S).map f):=(List.perm_ext_iff_of_nodup (IN _ F4) W).2 λv=>by rw[o,Bq];exact⟨λ⟨i,hi,e⟩=>⟨i,(l i).2 hi,e⟩,λ⟨i,hi,e⟩=>⟨i,(l i).1 hi,e⟩⟩
  rw[hp.length_eq,Am]
 have g:∀v∈vs,v < q.1.toNat:=λv d=>by obtain⟨i,hi,e⟩:=(o v).1 d;rw[<-e];exact(u i hi).1
 have p:vs.Pairwise (· < ·):=IN _ List.pairwise_lt_range;have A:(TF S).Pairwise (· < ·):=IN _ List.pairwise_lt_range;have Q:∀j∈TF S,j < q.2.1.length:=λj m=>by unfold TF at m;rw[CC,AQ]at m;rw[<-F];exact m.1
 have R:(vs++(TF S).map (q.1.toNat+ ·)).length=q.2.1.length:=by rw[Ak,Am,O];have:=gz (λj=>gB S j)<|List.range S.length;rw[DG]at this;unfold kc TF;omega
 have T:(vs++(TF S).map (q.1.toNat+ ·)).Pairwise (· < ·):=by
  rw[GM];refine⟨p,?_,λv d e B=>?_⟩
  ·rw[E4];exact O5 (λh=>by omega) A
  ·obtain⟨j,_,rfl⟩:=Bq.1 B;have:=g v d;omega
 have w:=oD (t:=q.1.toNat+q.2.1.length) (fr:=0) T (λe B=>by
  rcases Al.1 B with B|B
  ·have:=g e B;omega
  ·obtain⟨j,m,rfl⟩:=Bq.1 B;have:=Q j m;omega)
 rw[R]at w
 have x:(vs++(TF S).map (q.1.toNat+ ·)).map (rowAt<|Mq q)=(vs.map<|bits q).map (λr=>r.map bt)++(TF S).map (Yt S.length):=by
  rw[BM,EY,EY];congr 1
  ·refine Dh λv d=>?_
   unfold rowAt;rw[O2.1,At (g v d),mQ (g v d)];rfl
  ·refine Dh λj _=>?_
   simp only[Function.comp];unfold rowAt;rw[O2.1,O2.2.1,As (by omega),CT,F]
 have y:(vs++(TF S).map (q.1.toNat+ ·)).map (Gp<|Mq q)=(vs.map<|bits q).map (λ_=>((1:Int),(1:Int)))++(TF S).map (λ_=>((0:Int),(1:Int))):=by
  rw[BM,EY,EY];congr 1
  ·refine Dh λv d=>?_
   unfold Gp;rw[O2.1,At (g v d),<-OZ (by rw[O2.1];exact g v d)];unfold Mq;simp
  ·refine Dh λj _=>?_
   simp only[Function.comp];unfold Gp;rw[O2.1,As (by omega)]
 have C:∀r∈vs.map (bits q),r∈oA S:=λr hr=>by
  obtain⟨v,d,rfl⟩:=Bq.1 hr;obtain⟨i,hi,e⟩:=(o v).1 d;subst e;unfold oA;rw[CC];refine⟨by have:=WZ<|bits q<|f i;rwa [di,<-F]at this,?_⟩;unfold z7;refine C4.2 ⟨i,AQ.2<|dI hi,?_⟩;rw[hi,(u i hi).2.1,FZ,AK,Ap];intro j _;rw[CP,BK,AY];by_cases m:j=i
  ·exact .inl m
  ·refine .inr ?_;cases M:gB S j with
   |false=>rfl
   |true=>
    cases N:gB (bits q<|f i) j with
    |false=>rfl
    |true=>exact absurd ((u i hi).2.2 j M N) m
 have D:(vs.map<|bits q).Pairwise (λa b=>apart S a b=true):=by
  rw[E4];refine List.Pairwise.imp_of_mem (λ{a b} M N hlt=>?_) p;obtain⟨i,hi,ei⟩:=(o a).1 M;obtain⟨j,m,ej⟩:=(o b).1 N;unfold apart;rw[Ap];intro k _;rw[AY];cases hk:gB S k with
  |false=>rfl
  |true=>
   cases Y:gB (bits q a) k with
   |false=>rfl
   |true=>
    cases Z:gB (bits q b) k with
    |false=>rfl
    |true=>exfalso;subst ei ej;have e1:=(u i hi).2.2 k hk Y;have e2:=(u j m).2.2 k hk Z;subst e1;subst e2;omega
 have z:=lf C D;rw[Am,O]at z;have hS:=(qL h3 h4).1;unfold si at hS;have s:=Ap.1 (Ap.1 hS S (by have:=WZ S;rwa [F]at this)) _ z;unfold Aak at s;rw[Ad,BK]at s;refine gj (c:=vs++(TF S).map (q.1.toNat+ ·)) ?_ ?_ _ [] w
 ·rw[x,y];exact s.1
 ·rw[x,y,s.2];exact yY U F hc
end
def eS(n:Nat)(m:Mx):Prop:=∀r∈m,r.length<=n
def wq{p sg n out c}(e:c.length<=n)(h:eS n out):eS n (visit p sg out c):=by
 unfold visit;cases f:(VV (c.map<|rowAt p)<|c.map<|Gp p).2 with
 |false=>exact h
 |true=>
  cases UH p (VV (c.map<|rowAt p)<|c.map<|Gp p).1 sg with
  |false=>exact h
  |true=>
   cases out.any (· ==(VV (c.map<|rowAt p)<|c.map<|Gp p).1)with
   |true=>exact h
   |false=>
    intro r d;rcases Al.1 d with d|d
    ·exact h r d
    ·rw[AU]at d;subst d;rw[qx (a:=c.map<|rowAt p) (b:=c.map<|Gp p) (x:=(VV (c.map<|rowAt p)<|c.map<|Gp p).1) (by rw[<-f]),Am];exact e
def oU{p sg n}:∀(l:List zN) (out:Mx),(∀c∈l,c.length<=n)->eS n out->eS n (l.foldl (visit p sg) out)
 |[],_,_,h=>h
 |c::l,out,a,h=>oU l _ (λd b=>a d<|AV _ b)<|wq (a c BG) h
def tz(p:LP):eS 5 (Qo p)∧(Qo p).length<=161051:=by
 unfold Qo;cases c:U1 p with
 |false=>exact⟨λr a=>by simp at a,by simp⟩
 |true=>have⟨g,b,h,i,j,k⟩:=QG c;rw[Ab];unfold rT;refine⟨oU _ [] (λc d=>by rw[(az d).1];exact b) (λr a=>by simp at a),?_⟩;have e:=aQ (f:=visit p 1) (λs x=>bK p 1 s x) (Ss (p.2.1.length+p.2.2.length) p.2.2.length 0) [];have l:=XK (t:=p.2.1.length+p.2.2.length) (by omega) p.2.2.length 0;have m:=pW b;refine BH e ?_;simp only[Bw,Cw];omega
def nbS(s:zI)(l:Mx)(b:Nat×List Rt)(k:Nat):Nat×List Rt:=cond (decide ((agB s (EW l k) b.2).1 < 0)) (k,EW l k) b
def nbB(s:zI)(l:Mx):Nat×List Rt:=(List.range' 1<|l.length - 1).foldl (nbS s l) (0,EW l 0)
def bcB(q:K8)(s:zI):List Rt×Bool:=cond (GY q) (cond ((s.length:Int)!=(q.2.1.length:Int)) ([],false)<|cond (s.all λe=>FX e 0 16) ((nbB s<|Qo<|Mq q).2,true) ([],false)) ([],false)
def NbI(l:Mx)(b:Nat×List Rt):Prop:=b.1 < l.length∧EW l b.1=b.2
def nH{s l b k}(h:NbI l b)(a:k < l.length):NbI l (nbS s l b k):=by
 unfold nbS;cases decide ((agB s (EW l k) b.2).1 < 0)with
 |true=>exact⟨a,rfl⟩
 |false=>exact h
def pM{s l}:∀(a:zN) (b:Nat×List Rt),(∀k∈a,k < l.length)->NbI l b->NbI l (a.foldl (nbS s l) b)
 |[],_,_,h=>h
 |k::a,b,c,h=>pM a _ (λj d=>c j<|AV _ d)<|nH h<|c k BG
def nG{s l}(h:l≠[]):NbI l (nbB s l):=by have a:0 < l.length:=Hc.2 h;exact pM _ _ (λk b=>by rw[O6]at b;omega) ⟨a,rfl⟩
def pS{l b}(h:NbI l b):okJ l [Sum.inl b] []=true:=by unfold okJ;rw[Ah h.1];simp only;rw[ID h.1,h.2,BP];rfl
section
variable {q:K8}{s:zI}
def Ai6(j:T4 q)(g:s.length<=lim):QS q s=some (bcB q s):=by
 unfold QS bcB;rw[Ai8 j];simp only[G];unfold cpB;cases h:GY q with
 |false=>rfl
 |true=>
  have⟨v,w,x,y⟩:=OC h;simp only[Ab,Ai,Aa];cases z:((s.length:Int)!=(q.2.1.length:Int))with
  |true=>rfl
  |false=>
   rw[Aa,Aa,H1 (n:=s.length) (λk=>I0 s k λe=> !FX e 0 16) (([]:List Rt),false) g (λk a l=>by
    show cond (decide ((k:Int) < (s.length:Int))) _ _=_;rw[Bc a,Ab,AG a,Cx a];simp only[G];rw[Jv];simp only[G];rw[Bm a (Ba g)]) (λrec=>by
    show cond (decide ((s.length:Int) < (s.length:Int))) _ _=_;rw[A2];rfl)]
   rw[W0,not_any];cases m:s.all (λe=>FX e 0 16)with
   |false=>rfl
   |true=>
    have p:∀e∈s,e<=9223372036854775807:=λe r=>by have:=Ap.1 m e r;rw[H0]at this;omega
    have d:=tA h;have i:0 < (Qo<|Mq q).length:=Hc.2 d;have⟨t,A⟩:=tz<|Mq q;have f:∀k,k < (Qo<|Mq q).length->(EW (Qo<|Mq q) k).length<=lim:=λk a=>by rw[<-ID a];have:=t _<|Aj a;unfold lim;omega
    simp only[Ai,Aa,G];rw[Aja (zA h)];simp only;rw[show(0:Int)=((0:Nat):Int)from rfl,Vr i];simp only
    have c:=VL (B:=QT s (Qo (Mq q))) (n:=(Qo (Mq q)).length) (O:=Unit) (λ(b:Nat×List Rt) k=>(b,(k:Int))) (λ_ b=>NbI (Qo (Mq q)) b) (λk b=>.inl (nbS s (Qo (Mq q)) b k)) (λo=>match o with|.inl b=>b|.inr _=>(0,[])) (λrec k b a hi=>by
     show cond (decide ((k:Int) < ((C8 0<|Qo<|Mq q).length:Int))) _ _=_;rw[Ru,Bc a,Ab,Vr a];simp only[G];rw[AhP g p (f k a) (by rw[<-hi.2];exact f _ hi.1)];simp only[G];unfold nbS;cases decide ((agB s (EW (Qo<|Mq q) k) b.2).1 < 0)with
     |true=>rw[Ab];unfold KJ;rw[Bm a (by unfold maxLen;omega)];rfl
     |false=>rw[Aa];unfold KJ;rw[Bm a (by unfold maxLen;omega)];rfl) (λrec b hi=>by
     show cond (decide (((Qo<|Mq q).length:Int) < ((C8 0<|Qo<|Mq q).length:Int))) _ _=_;rw[Ru,A2];rfl) (λk b b' a hi u=>by cases u;exact nH hi a) ((Qo (Mq q)).length - 1) 1 (0,EW (Qo (Mq q)) 0) fz (by omega) (by unfold fz;omega) ⟨i,rfl⟩
    rw[show(1:Int)=((1:Nat):Int)from rfl,c,T2 (nbS s<|Qo<|Mq q)];simp only;rw[show(List.range' 1<|(Qo<|Mq q).length - 1).foldl (nbS s<|Qo<|Mq q) (0,EW (Qo<|Mq q) 0)=nbB s (Qo<|Mq q)from rfl,Aw (pS<|nG d)];rfl
def AfH(p:T4 q)(m:s.length<=lim):Qs q s=some (bcB q s):=by
 unfold Qs bcB;rw[Uw p];simp only[G];cases l:GY q with
 |false=>rfl
 |true=>
  have⟨t,u,C,D⟩:=OC l;simp only[Ab,Ai,Aa];cases F:((s.length:Int)!=(q.2.1.length:Int))with
  |true=>rfl
  |false=>
   rw[Aa,Aa,H1 (n:=s.length) (λk=>I0 s k λe=> !FX e 0 16) (([]:List Rt),false) m (λk a v=>by
    show cond (decide ((k:Int) < (s.length:Int))) _ _=_;rw[Bc a,Ab,AG a,Cx a];simp only[G];rw[FC];simp only[G];rw[Bm a (Ba m)]) (λrec=>by
    show cond (decide ((s.length:Int) < (s.length:Int))) _ _=_;rw[A2];rfl)]
   rw[W0,not_any];cases w:s.all (λe=>FX e 0 16)with
   |false=>rfl
   |true=>
    have x:∀e∈s,e<=9223372036854775807:=λe y=>by have:=Ap.1 w e y;rw[H0]at this;omega
    have g:=tA l;have r:0 < (Qo<|Mq q).length:=Hc.2 g;have⟨z,H⟩:=tz<|Mq q;have h:∀k,k < (Qo<|Mq q).length->(EW (Qo<|Mq q) k).length<=lim:=λk a=>by rw[<-ID a];have:=z _<|Aj a;unfold lim;omega
    simp only[Ai,Aa,G];rw[AiM p];unfold cpB;rw[l,Ab];simp only;rw[AiO (zA l)];simp only;rw[show(((Qo<|Mq q).length:Int)==0)=false from by rw[BC];omega,Aa,show AF (C8 0<|Qo<|Mq q) 0=some (0,EW (Qo<|Mq q) 0)from Vr r];simp only;have d:(C8 0<|Qo<|Mq q).length=(Qo<|Mq q).length:=Ru _ _;rw[Aw (by rw[d];omega)];have j:B5 (C8 0<|Qo<|Mq q) 1 ((C8 0<|Qo<|Mq q).length:Int)=(C8 0<|Qo<|Mq q).drop 1:=by unfold B5;rw[AB,Bl];rfl
    have c:=E7 (B:=Qt s (Qo (Mq q))) (n:=(Qo (Mq q)).length - 1) (O:=Unit) (λ(b:Nat×List Rt) k=>(b,(k:Int))) (λ_ b=>NbI (Qo (Mq q)) b) (λk b=>.inl (nbS s (Qo (Mq q)) b (k+1))) (λo=>match o with|.inl b=>b|.inr _=>(0,[])) (by unfold lim;omega) (λrec k b a hi=>by
     show cond (decide ((k:Int) < ((B5 (C8 0<|Qo<|Mq q) 1 ((C8 0<|Qo<|Mq q).length:Int)).length:Int))) _ _=_;rw[j,Be,d,Bc a,Ab,show AF ((C8 0 (Qo (Mq q))).drop 1) (k:Int)=some (k+1,EW (Qo (Mq q)) (k+1))from by rw[G8,Du,XN,QJ 1 k,Ah (by omega),ID (by omega),B3,Cw]];simp only[G];rw[AfC m x (h (k+1)<|by omega) (by rw[<-hi.2];exact h _ hi.1)];simp only[G];rw[<-wE];unfold nbS;cases decide ((agB s (EW (Qo<|Mq q)<|k+1) b.2).1 < 0)with
     |true=>rw[Ab];unfold Kk;rw[Bm a (by unfold maxLen;omega)];rfl
     |false=>rw[Aa];unfold Kk;rw[Bm a (by unfold maxLen;omega)];rfl) (λrec b hi=>by
     show cond (decide ((((Qo<|Mq q).length - 1:Nat):Int) < ((B5 (C8 0<|Qo<|Mq q) 1 ((C8 0<|Qo<|Mq q).length:Int)).length:Int))) _ _=_;rw[j,Be,d,A2];rfl) (λk b b' a hi A=>by cases A;exact nH hi (by omega)) (0,EW (Qo (Mq q)) 0) ⟨r,rfl⟩
    rw[show((0:Nat):Int)=0 from rfl]at c;rw[c,T2 (λb k=>nbS s (Qo<|Mq q) b<|k+1)];simp only
    have f:(List.range' 0<|(Qo<|Mq q).length - 1).foldl (λb k=>nbS s (Qo<|Mq q) b<|k+1) (0,EW (Qo<|Mq q) 0)=nbB s (Qo<|Mq q):=by
     unfold nbB
     have:List.range' 1 ((Qo<|Mq q).length - 1)=(List.range' 0<|(Qo<|Mq q).length - 1).map (· +1):=by
      apply Ej
      ·simp
      ·intro i t u;rw[BO,Et,Et];omega
     rw[this,List.foldl_map]
    rw[f,Aw (pS<|nG g)];rfl
def AaD(q:K8)(s:zI):(bcB q s).1.length<=5:=by
 unfold bcB;cases a:GY q with
 |false=>simp
 |true=>
  cases((s.length:Int)!=(q.2.1.length:Int))with
  |true=>simp
  |false=>
   cases s.all (λe=>FX e 0 16)with
   |false=>simp
   |true=>simp only[Ab,Aa];have h:=nG (s:=s)<|tA a;rw[<-h.2,<-ID h.1];exact(tz<|Mq q).1 _<|Aj h.1
end
abbrev Aiv:=zI×List Rt×zI×Int×Int
section
variable {d:List Tp}{q:K8}{o:zI}
def mcB(d:List Tp)(q:K8)(o:zI):Aiv×Bool:=cond (bV d q o).2.2 (cond (Ju d q) (cond (bcB q<|Yj d q).2 ((o,(bcB q<|Yj d q).1,Yj d q,((bV d q o).1.2.length:Int),(bV d q o).2.1),true) (([],[],[],0,0),false)) (([],[],[],0,0),false)) (([],[],[],0,0),false)
def ka(a:Ju d q=true):(Yj d q).length<=4:=by have⟨g1,g2,b⟩:=TZ a;unfold Yj;rw[Am];exact b
def Aje(h:Up d)(a:T4 q)(b:o.length<=lim):KV d q o=some (mcB d q o):=by
 unfold KV mcB;rw[AhX h a b];simp only[G];rw[qq h a];simp only[G];cases(bV d q o).2.2 with
 |false=>rfl
 |true=>
  cases c:Ju d q with
  |false=>rfl
  |true=>
   have:=ka c;simp only[Ab,Ai,Aa];rw[Ai6 a (by unfold lim;omega)];simp only[G];cases(bcB q<|Yj d q).2 with
   |false=>rfl
   |true=>rw[Ai,Aa,Aw (by simpa using b)];rfl
def AiR(h:Up d)(a:T4 q)(b:o.length<=lim):Ku d q o=some (mcB d q o):=by
 unfold Ku mcB;rw[pq h a];simp only[G];cases c:Ju d q with
 |false=>rw[Aa];simp only;rw[AfH a (by simp)];simp only[G];rw[Aa9 h a b];simp only[G];cases(bV d q o).2.2<;>rfl
 |true=>
  have:=ka c;rw[Ab];simp only;rw[AfH a (by unfold lim;omega)];simp only[G];rw[Aa9 h a b];simp only[G,Ai,Aa];cases(bcB q<|Yj d q).2 with
  |false=>cases(bV d q o).2.2<;>rfl
  |true=>
   cases(bV d q o).2.2 with
   |false=>rfl
   |true=>simp only[Ai,Aa,Ab];rw[zF b]
end
def kW{f:Int->Int}{B:Nat}(b:∀v,0<=f v∧f v<=(B:Int)):∀(l:zI) (n:Int),0<=n->n+(l.length * B:Nat)<=4000000000000000000->0<=l.foldl (λn v=>wZ<|n+f v) n∧l.foldl (λn v=>wZ<|n+f v) n<=n+(l.length * B:Nat)
 |[],n,c,a=>by simp at a⊢;exact c
 |v::l,n,c,a=>by
  have d:=b v;have e:(v::l).length * B=l.length * B+B:=by rw[Ar,CN,DK]
  rw[e]at a⊢;rw[DR,wrap_in (by omega)];have g:=kW b l (n+f v) (by omega) (by omega);omega
def xS{L}(h:YV L):0<=(lfB L).2∧(lfB L).2<=20000:=by
 unfold lfB;cases a:WF L with
 |false=>exact⟨ED 0,(by show(0:Int)<=20000;decide)⟩
 |true=>
  cases b:b5 L L.length==0 with
  |true=>exact⟨ED 0,(by show(0:Int)<=20000;decide)⟩
  |false=>have⟨out,n,e,_,_,c⟩:=pA h a b;rw[e];exact⟨Int.natCast_nonneg n,by show(n:Int)<=20000;omega⟩
def bS:Nat->Nat
 |0=>0
 |r+1=>20000+16 * bS r
section
variable {T:List Yu}{q:K8}{o:zI}
def wt(h:TriesOk T q o)(a:∀t∈T,t.2.length<=16)(d:o.length<=5):∀(r:Nat) (pre:zI),pre.length+r=o.length->0<=(wk T q o r pre).2∧(wk T q o r pre).2<=(bS r:Int)
 |0,pre,_=>⟨ED 0,ED 0⟩
 |r+1,pre,m=>by
  have g:=λv=>wt h a d r (pre++[v]) (by simp;omega)
  have i:=(YN h a (pre:=pre)<|by omega).1;have j:=xS (lC h (pre:=pre)<|by omega).1
  have n:bS r<=bS 4:=by
   have k:r=0∨r=1∨r=2∨r=3∨r=4:=by omega
   rcases k with rfl|rfl|rfl|rfl|rfl<;>decide
  have l:bS 4=87380000:=by decide
  have p:(ky T q o pre).1.length * bS r<=16 * bS r:=BW _ i;have b:0<=(ky T q o pre).2∧(ky T q o pre).2<=20000:=j;have c:=kW (f:=λv=>(wk T q o r<|pre++[v]).2) g (ky T q o pre).1 (ky T q o pre).2 b.1 (by omega);rw[wk];simp only;have e:(bS (r+1):Int)=20000+16 * (bS r:Int):=by rw[bS];omega
  rw[e];constructor
  ·exact c.1
  ·have:=c.2;omega
end
def AdE{d q o}(g:T4 q):0<=(bV d q o).2.1∧(bV d q o).2.1<=1398100000∧(bV d q o).1.2.length<=1048576:=by
 unfold bV;cases a:Ju d q&&Un q o with
 |false=>exact⟨ED 0,(by show(0:Int)<=1398100000;decide),(by show(0:Nat)<=1048576;decide)⟩
 |true=>
  rw[Ad]at a;rw[Ab];cases emB (cT d q o)with
  |true=>exact⟨ED 0,(by show(0:Int)<=1398100000;decide),(by show(0:Nat)<=1048576;decide)⟩
  |false=>
   rw[Aa];have h:=LD a.2;have i:=T0 (ic a.1).1;have c:TriesOk (cT d q o) q o:=ae (d:=d) g a.1 a.2;have b:=fy a.1 a.2;have⟨l,m⟩:=XB c b o.length [] (by simp);have f:=wt c b (by omega) o.length [] (by simp)
   have n:bS o.length<=1398100000:=by
    have j:o.length=0∨o.length=1∨o.length=2∨o.length=3∨o.length=4∨o.length=5:=by omega
    rcases j with e|e|e|e|e|e<;>rw[e]<;>decide
   have p:16 ^ o.length<=16 ^ 5:=Ec (by decide) (by omega);have k:16 ^ 5=1048576:=by decide
   cases(jG (o.length:Int) (wk (cT d q o) q o o.length []).1).2 with
   |false=>exact⟨ED 0,(by show(0:Int)<=1398100000;decide),(by show(0:Nat)<=1048576;decide)⟩
   |true=>
    rw[Ab];refine⟨f.1,by have:=f.2;show(wk (cT d q o) q o o.length []).2<=1398100000;omega,?_⟩;show(jG (o.length:Int) (wk (cT d q o) q o o.length []).1).1.2.length<=1048576;unfold jG;cases BL (wk (cT d q o) q o o.length []).1 λ_ x=>UD (o.length:Int) x with
    |true=>exact Dc _
    |false=>
     rw[Aa];cases Rc ((o.length:Int),sortB (wk (cT d q o) q o o.length []).1)with
     |false=>exact Dc _
     |true=>have r:=Ob (wk (cT d q o) q o o.length []).1;show(sortB (wk (cT d q o) q o o.length []).1).length<=1048576;omega
def obs{α β:Type}(a:α)(f:α->Option β):G (some a) f=f a:=rfl
def dgI(n:Nat):zI:=if n < 10 then [48+(n:Int)]else dgI (n / 10)++[48+((n % 10:Nat):Int)]
termination_by n
decreasing_by omega
def XM{n:Nat}(h:n < 10):dgI n=[48+(n:Int)]:=by rw[dgI,At h]
def Vm{n}(h:¬n < 10):dgI n=dgI (n / 10)++[48+((n % 10:Nat):Int)]:=by rw[dgI,As h]
def iW:∀(k n:Nat),n < 10 ^ (k+1)->(dgI n).length<=k+1
 |0,n,h=>by rw[XM (by omega)];simp
 |k+1,n,h=>by
  by_cases a:n < 10
  ·rw[XM a];simp
  ·rw[Vm a,Ak,Af];have:=iW k (n / 10) (by rw[CX]at h;omega);omega
def Qk(n:Nat):zU:=bytesOf<|dgI n
def Jd(n:Int):zU:=if n < 0 then 45::Qk n.natAbs else Qk n.toNat
def XI(a b:zI):bytesOf (a++b)=bytesOf a++bytesOf b:=by simp[bytesOf]
def LH(a:zI):(bytesOf a).length=a.length:=by simp[bytesOf]
def TD{n}(h:n < 10000000000000000000):(Qk n).length<=19:=by unfold Qk;rw[LH];exact iW 18 n (by simpa using h)
def HB{n}(h:Y4 n):(Jd n).length<=20:=by
 unfold Y4 at h;unfold Jd;split
 ·rw[Ar];have:=TD (n:=n.natAbs) (by omega);omega
 ·have:=TD (n:=n.toNat) (by omega);omega
def oK{d:Nat}(h:d < 10):IntKind.u8.wrap (wZ<|48+(d:Int))=48+(d:Int):=by
 rw[wrap_in (by omega)]
 (try unfold wZ)<;>unfold IntKind.wrap
 simp[IntKind.signed,IntKind.bits]<;>omega
def uF(m:Nat):(m:Int).tmod 10=((m % 10:Nat):Int):=by rw[D6 (by omega)];omega
def sY(m:Nat):(m:Int).tdiv 10=((m / 10:Nat):Int):=by rw[Im (by omega)];omega
def z0(m:Nat):(-(m:Int)).tmod 10= -((m % 10:Nat):Int):=by rw[Int.neg_tmod,uF]
def zD(m:Nat):(-(m:Int)).tdiv 10= -((m / 10:Nat):Int):=by rw[Int.neg_tdiv,sY]
def lm:∀(k m:Nat) (x:Int) (ds:zI) (f:Nat),m < 10 ^ (k+1)->x.natAbs=m->Y4 x->ds.length+k<=100->k < f->Aq Km f (x,ds)=some (dgI m++ds)
 |k,m,x,ds,0,_,_,_,_,c=>absurd c (by omega)
 |k,m,x,ds,f+1,d,l,hi,n,c=>by
  unfold Y4 at hi
  have g:(x.tdiv 10).natAbs=m / 10:=by
   by_cases h:x < 0
   ·obtain rfl:x= -(m:Int):=by omega
    rw[zD];omega
   ·obtain rfl:x=(m:Int):=by omega
    rw[sY];omega
  have i:∀a:Int×zI->Option zI,Km a (x,ds)=Kn a x ds ((m % 10:Nat):Int):=by
   intro a;rw[Km];by_cases h:x < 0
   ·obtain rfl:x= -(m:Int):=by omega
    rw[z0];by_cases j:m % 10=0
    ·rw[j];rfl
    ·rw[Ae (by omega),Ab,wrap_in (by omega)];congr 1;omega
   ·obtain rfl:x=(m:Int):=by omega
    rw[uF,Ac (by omega)];rfl
  rw[A6,i,Kn,oK (by omega),Aw (by simp only[Af];unfold lim;omega),wrap_in (by omega)];by_cases b:m < 10
  ·have e:(x.tdiv 10==0)=true:=by simp;omega
   rw[e,Ab,XM b,Dn b]
  ·have e:(x.tdiv 10==0)=false:=by simp;omega
   rw[e,Aa,Vm b];cases k with
   |zero=>omega
   |succ k=>rw[lm k (m / 10) (x.tdiv 10) _ f (by rw[CX]at d;omega) g (by unfold Y4;omega) (by simp;omega) (by omega),Bg]
def ln{n}(h:Y4 n):GH n=some (Jd n):=by
 have b:=HB h;unfold Y4 at h;unfold GH;rw[lm 18 n.natAbs n [] fz (by rw[show(10:Nat) ^ (18+1)=10000000000000000000 from by decide];omega) rfl h (by simp) (by unfold fz;omega),obs,AN];unfold Jd at b⊢;by_cases a:n < 0
 ·rw[At a,Ar]at b;rw[Ae a,Ab,At a,Aw (by unfold Qk at b;simp only[Af];unfold lim;omega)];rfl
 ·rw[Ac a,Aa,As a];show some (Qk n.natAbs)=some (Qk n.toNat);rw[show n.natAbs=n.toNat by omega]
def bw:∀(k m f:Nat),m < 10 ^ (k+1)->k<=18->k < f->Aq K6 f (m:Int)=some (Qk m)
 |k,m,0,_,_,b=>absurd b (by omega)
 |k,m,f+1,c,h,b=>by
  have d:m < 10000000000000000000:=by
   have:(10:Nat) ^ (k+1)<=10 ^ 19:=Ec (by omega) (by omega);have e:(10:Nat) ^ 19=10000000000000000000:=by decide
   omega
  rw[A6,K6,Ac (by omega:¬(m:Int)<= -10),Ac (by omega:¬(m:Int) < 0)];simp only[Aa];by_cases a:m < 10
  ·rw[Ae (by omega),Ab,oK a];unfold Qk;rw[XM a]
  ·rw[Ac (by omega),Aa,sY,uF];by_cases i:m < 9223372036854775808
   ·cases k with
    |zero=>omega
    |succ k=>have g:=TD (n:=m / 10) (by omega);rw[wrap_in (by omega),bw k (m / 10) f (by rw[CX]at c;omega) (by omega) (by omega),obs,oK (by omega),Aw (by rw[LH];simp only[Af];unfold lim;omega)];unfold Qk;rw[Vm a,XI]
   ·cases k with
    |zero=>omega
    |succ k=>have g:=TD (n:=m / 10) (by omega);rw[wrap_in (by omega),bw k (m / 10) f (by rw[CX]at c;omega) (by omega) (by omega),obs,oK (by omega),Aw (by rw[LH];simp only[Af];unfold lim;omega)];unfold Qk;rw[Vm a,XI]
def X5{n}(h:Y4 n):MP n=some (Jd n):=by
 unfold Y4 at h;have f:(10:Nat) ^ (18+1)=10000000000000000000:=by decide
 unfold MP Jd;by_cases e:n < 0
 ·rw[At e];obtain⟨m,rfl⟩:∃m:Nat,n= -(m:Int):=⟨n.natAbs,by omega⟩;have b:(-(m:Int)).natAbs=m:=by omega
  have c:fz=(fz - 1)+1:=by unfold fz;rfl
  rw[c,A6,K6,b];have a:18 < fz - 1:=by unfold fz;omega
  generalize fz - 1=F at a;by_cases d:m < 10
  ·have g:=TD (n:=m) (by omega);rw[Ac (by omega),Aa,Ae (by omega),Ab,wrap_in (by omega),show(0:Int) - -(m:Int)=(m:Int)by omega,bw 18 m F (by omega) (by omega) a,obs,Aw (by simp only[Af];unfold lim;omega)];rfl
  ·have g:=TD (n:=m / 10) (by omega);have i:=TD (n:=m % 10) (by omega)
   rw[Ae (by omega),Ab,zD,z0,wrap_in (n:= -((m / 10:Nat):Int)) (by omega),wrap_in (n:=0 - -((m / 10:Nat):Int)) (by omega),wrap_in (n:=0 - -((m % 10:Nat):Int)) (by omega),show(0:Int) - -((m / 10:Nat):Int)=((m / 10:Nat):Int)by omega,show(0:Int) - -((m % 10:Nat):Int)=((m % 10:Nat):Int)by omega,
    bw 18 (m / 10) F (by omega) (by omega) a,obs,Aw (by simp only[Af];unfold lim;omega),bw 18 (m % 10) F (by omega) (by omega) a,obs,Aw (by simp only[Ak,Af];unfold lim;omega)]
   unfold Qk;rw[Vm d,XI,XM (n:=m % 10) (by omega)];rfl
 ·rw[As e];obtain⟨m,rfl⟩:∃m:Nat,n=(m:Int):=⟨n.toNat,by omega⟩;rw[AB];exact bw 18 m fz (by omega) (by omega) (by unfold fz;omega)
def nameB(v:Int):zU:=if FX v 0 4=true then B5 [88,89,90,85,86] v (v+1)else []
def bk(v:Int):(nameB v).length<=1:=by
 unfold nameB;split
 ·rename_i h;unfold FX at h;simp only[Ad,Bu]at h;unfold B5;rw[Be,Av];omega
 ·simp
def qr(v:Int):Ig v=some (nameB v):=by
 unfold Ig nameB;rw[Jv,obs];cases h:FX v 0 4 with
 |false=>rfl
 |true=>unfold FX at h;simp only[Ad,Bu]at h;rw[Ai,Aa,wrap_in (by omega),Aw (by simp;omega),At rfl]
def pr(v:Int):Kz v=some (nameB v):=by
 unfold Kz nameB;rw[FC,obs];cases h:FX v 0 4 with
 |false=>rfl
 |true=>unfold FX at h;simp only[Ad,Bu]at h;rw[Ai,Aa,wrap_in (by omega),Aw (by simp;omega),At rfl]
def Js(l:zI):zU:=l.flatMap nameB
def Tt:∀l:zI,(Js l).length<=l.length
 |[]=>by simp[Js]
 |x::l=>by have b:=bk x;have a:=Tt l;unfold Js at a⊢;rw[AI,Ak,Ar];omega
def tr{α β:Type}(f:α->List β){l:List α}{k:Nat}(a:k < l.length):(l.take<|k+1).flatMap f=(l.take k).flatMap f++f l[k]:=by rw[A7 a,Dg];simp
def xB{l}(h:l.length < lim):S7 l=some (Js l):=by unfold S7;have:=DQ (body:=Pz l) (out:=Js l) (λk=>(Js (l.take k),(k:Int))) l.length (λk a b=>by have c:=Tt<|l.take k;have d:=bk l[k];rw[Av]at c;rw[Pz];rw[Bc a,AG a,Bm a (Ba<|by omega),Ab,obs,pr,obs,Aw (by omega)];unfold Js;rw[tr _ a]) (λrec=>by rw[Pz];rw[A2,Bl];rfl) fz (EC (by omega));rw[show((([]:zU),(0:Int)))=(Js<|l.take 0,((0:Nat):Int))from rfl,this];rfl
def Ael{l}(h:l.length+2<=lim):Qe l=some (40::(Js l++[41])):=by unfold Qe;have d:=Tt l;have:=DQ (body:=Q9 l) (out:=40::Js l) (λk=>(40::Js (l.take k),(k:Int))) l.length (λk a b=>by have c:=Tt<|l.take k;have e:=bk l[k];rw[Av]at c;rw[Q9];rw[Bc a,AG a,Bm a (Ba<|by omega),Ab,obs,qr,obs,Aw (by rw[Ar];omega)];unfold Js;rw[tr _ a];rfl) (λrec=>by rw[Q9];rw[A2,Bl];rfl) fz (EC (by omega));rw[show((([40]:zU),(0:Int)))=(40::Js (l.take 0),((0:Nat):Int))from rfl,this,obs,Aw (by simp only[Ar,Bw];omega)];rfl
def EV(a:zU):List zU->zU
 |[]=>[]
 |w::ws=>w++ws.flatMap λu=>a++u
def bh(a:zU)(w:zU):∀ws:List zU,EV a (ws++[w])=if ws.length=0 then w else EV a ws++a++w
 |[]=>by simp[EV]
 |v::ws=>by rw[As (by simp),Cq,EV,EV,Dg];simp
def VA(a:zU)(L:Nat):∀ws:List zU,(∀w∈ws,w.length+a.length<=L)->(EV a ws).length<=ws.length * L
 |[],_=>by simp[EV]
 |w::ws,h=>by
  have g:=h w (by simp)
  have b:∀us:List zU,(∀w∈us,w.length+a.length<=L)->(us.flatMap λu=>a++u).length<=us.length * L:=by
   intro us;induction us with
   |nil=>intro _;simp
   |cons u us e=>
    intro d;have f:=d u (by simp);have i:=e<|λw c=>d w<|by simp[c]
    rw[AI,Ak,Ak,Ar,CN];omega
  have f:=b ws<|λw c=>h w<|by simp[c]
  rw[EV,Ak,Ar,CN];omega
def tM{ws sep L}(h:∀w∈ws,w.length+sep.length<=L)(f:ws.length * L<=lim)(b:ws.length<=lim):Vy ws sep=some (EV sep ws):=by
 unfold Vy
 have:=DQ (body:=QA ws sep) (out:=EV sep ws) (λk=>(EV sep (ws.take k),(k:Int))) ws.length (λk a c=>by
  have d:=VA sep L (ws.take k)<|λw e=>h w<|C5 e
  rw[Av,Ce (by omega)]at d;have g:=h _<|Aj a;have i:k * L+L<=ws.length * L:=by rw[<-GO];exact BW _ a
  rw[QA];rw[Bc a,AG a,Ab,obs,A7 a,bh,Av,Ce (by omega)];by_cases j:0 < k
  ·rw[Ae (by omega:(0:Int) < (k:Int)),Ab,As (by omega),Aw (by omega),QB,Aw (by rw[Ak];omega),Bm a (Ba b)]
  ·obtain rfl:k=0:=by omega
   rw[Ac (by simp),Aa,At rfl,QB,Bm a (Ba b)];rw[Aw (by simp[EV];omega)];simp[EV]) (λrec=>by rw[QA];rw[A2,Bl];rfl) fz (EC b)
 rw[show((([]:zU),(0:Int)))=(EV sep<|ws.take 0,((0:Nat):Int))from rfl,this];rfl
def Xk(a:zU)(l:zI):zU:=EV a<|l.map Jd
def xw{l c}(g:l.length<=1048576)(h:∀x∈l,Y4 x):Py l [c]=some (Xk [c] l):=by
 unfold Py Xk
 rw[Jo (a:=l) (h:=Jd) (by unfold lim;omega) (λk b d=>by
  rw[PV];rw[Bc b,AG b,Bm b (by unfold maxLen;omega),Ab,obs,ln (h _ (Aj b)),obs,Aw (by simp only[Am,Av,Af];unfold lim;omega)]) (λrec y=>by rw[PV];rw[A2];rfl),obs,
  tM (L:=21) (λw e=>by obtain⟨x,f,rfl⟩:=Bq.1 e;have:=HB<|h x f;simp only[Af];omega) (by rw[Am];unfold lim;omega) (by rw[Am];unfold lim;omega),obs]
def Aea{l}(i:l.length<=1048576)(h:∀x∈l,Y4 x):Tm l=some (Xk [32] l):=by
 unfold Tm Xk
 have:=DQ (body:=M8 l) (out:=EV [32] (l.map Jd)) (λk=>(EV [32] ((l.map Jd).take k),(k:Int))) l.length (λk a c=>by
  have b:k < (l.map Jd).length:=by rw[Am];exact a
  have d:=VA [32] 21 ((l.map Jd).take k) (λw f=>by obtain⟨x,g,rfl⟩:=Bq.1<|C5 f;have:=HB<|h x g;simp only[Af];omega);rw[Av,Ce (by omega)]at d;have j:=HB<|h _<|Aj a;rw[M8];rw[Bc a,Ab,A7 b,bh,Av,Ce (by omega),BO];by_cases m:0 < k
  ·rw[Ae (by omega:(0:Int) < (k:Int)),Ab,As (by omega),Aw (by simp only[Af];unfold lim;omega),M9,AG a,obs,X5 (h _<|Aj a),obs,Aw (by rw[Ak];simp only[Af];unfold lim;omega),Bm a (by unfold maxLen;omega)]
  ·obtain rfl:k=0:=by omega
   rw[Ac (by simp),Aa,At rfl,M9,AG a,obs,X5 (h _<|Aj a),obs,Bm a (by unfold maxLen;omega)];rw[Aw (by simp[EV];unfold lim;omega)];simp[EV]) (λrec=>by
   have e:(l.map Jd).take l.length=l.map Jd:=by rw[DJ (by simp)]
   rw[M8];rw[A2,e];rfl) fz (EC (by unfold lim;omega))
 rw[show((([]:zU),(0:Int)))=(EV [32]<|(l.map Jd).take 0,((0:Nat):Int))from rfl,this];rfl
def preB(p:zU):List zU->List zU
 |[]=>[p]
 |w::ws=>(p++w)::ws
def FQ(c:UInt8):zU->List zU
 |[]=>[[]]
 |x::l=>if x=c then []::FQ c l else preB [x] (FQ c l)
def pZ(p q:zU)(ws:List zU):preB p (preB q ws)=preB (p++q) ws:=by cases ws<;>simp[preB]
def Ad0(p:zU)(ws:List zU):preB p ws≠[]:=by cases ws<;>simp[preB]
def aA(c:UInt8)(s:zU):FQ c s≠[]:=by
 cases s with
 |nil=>simp[FQ]
 |cons x l=>
  rw[FQ];split
  ·simp
  ·exact Ad0 _ _
def cL(c:UInt8)(s:zU):preB [] (FQ c s)=FQ c s:=by
 have:=aA c s;cases h:FQ c s with
 |nil=>exact absurd h this
 |cons w ws=>simp[preB]
def Vl{c}:∀{w:zU},c∉w->FQ c w=[w]
 |[],_=>rfl
 |x::l,h=>by simp only[AA,Fn]at h;rw[FQ,As (λe=>h.1 e.symm),Vl h.2];rfl
def cy{c t}:∀{w:zU},c∉w->FQ c (w++c::t)=w::FQ c t
 |[],_=>by rw[Bn,FQ,At rfl]
 |x::l,h=>by simp only[AA,Fn]at h;rw[Cq,FQ,As (λe=>h.1 e.symm),cy h.2];rfl
def ZE(a w v:zU)(ws:List zU):EV a (w::v::ws)=w++(a++EV a (v::ws)):=by simp[EV]
def Vk{c}:∀{ws:List zU},(∀w∈ws,c∉w)->ws≠[]->FQ c (EV [c] ws)=ws
 |[],_,h=>absurd rfl h
 |[w],h,_=>by rw[show EV [c] [w]=w by simp[EV]];exact Vl<|h w<|by simp
 |w::v::ws,h,_=>by rw[ZE,Fd,cy (h w<|by simp),Vk (λu a=>h u<|AV _ a) (by simp)]
def ub(a p:zU)(ws:List zU):EV a (preB p ws)=p++EV a ws:=by cases ws<;>simp[preB,EV]
def dZ(c:UInt8):∀s:zU,EV [c] (FQ c s)=s
 |[]=>rfl
 |x::l=>by
  have a:=dZ c l;rw[FQ];split
  ·rename_i e;subst e;have:=aA x l;cases h:FQ x l with
   |nil=>exact absurd h this
   |cons w ws=>rw[ZE,<-h,a];rfl
  ·rw[ub,a];rfl
def oG(c:UInt8):∀s:zU,(FQ c s).length<=s.length+1
 |[]=>by simp[FQ]
 |x::l=>by
  have a:=oG c l;rw[FQ];split
  ·simp only[Ar];omega
  ·cases h:FQ c l with
   |nil=>simp[preB]
   |cons w ws=>rw[h]at a;simp only[preB,Ar]at a⊢;omega
def oH(c:UInt8):∀(s w:zU),w∈FQ c s->w.length<=s.length
 |[],w,h=>by simp[FQ]at h;simp[h]
 |x::l,w,h=>by
  have a:=oH c l;rw[FQ]at h;split at h
  ·simp only[AA]at h;rcases h with rfl|h
   ·simp
   ·have:=a w h;simp only[Ar];omega
  ·cases b:FQ c l with
   |nil=>exact absurd b<|aA c l
   |cons v vs=>
    rw[b]at h a;simp only[preB,AA]at h;rcases h with rfl|h
    ·have:=a v (by simp);simp only[Ak,Ar,Bw];omega
    ·have:=a w (by simp[h]);simp only[Ar];omega
def Vn(l:zU):Bool:=l.all λb=>decide (48<=b.toNat)&&decide (b.toNat<=57)
def Xz(l:zU):Nat:=l.foldl (λn b=>10 * n+(b.toNat - 48)) 0
def bl:zU->Bool
 |b::_=>b.toNat==45
 |[]=>false
def Wf(s:zU):zU:=if bl s=true then s.tail else s
def sgB(s:zU)(n:Nat):Int:=if bl s=true then -(n:Int)else(n:Int)
def TT(s:zU):Int:=if(Wf s).length < 12∧Vn (Wf s)=true then sgB s (Xz<|Wf s)else 0
def U5(N:Nat)(s:zU):Option Int:=if Wf s=[]∨N < (Wf s).length∨Vn (Wf s)=false then none else some (sgB s<|Xz<|Wf s)
def bX{N s v}(b:N < 12)(h:U5 N s=some v):TT s=v:=by
 unfold U5 at h;split at h
 ·cases h
 ·rename_i a;injection h with h
  simp only[Fn,Iv]at a;unfold TT;rw[At ⟨by omega,a.2.2⟩,h]
def Zd{k}(h:k < 10):(UInt8.ofNat<|48+k).toNat=48+k:=by rw[UInt8.toNat_ofNat'];omega
def Zm{n}(h:n < 10):Qk n=[UInt8.ofNat (48+n)]:=by unfold Qk;rw[XM h];unfold bytesOf;simp only[AH,Dv,CQ,and_true];congr 1
def aC{n}(h:¬n < 10):Qk n=Qk (n / 10)++[UInt8.ofNat (48+n % 10)]:=by unfold Qk;rw[Vm h,XI];congr 1
def Zl(n:Nat):Vn (Qk n)=true:=by
 induction n using Nat.strongRecOn with
 |_ n b=>
  by_cases h:n < 10
  ·rw[Zm h];unfold Vn;simp only[Bz,Fl,Zd h];simp;omega
  ·rw[aC h];have a:=b (n / 10) (by omega);unfold Vn at a⊢;rw[E9,a];simp only[Bz,Fl,Zd (show n % 10 < 10 by omega)];simp;omega
def wo(l:zU)(b:UInt8):Xz (l++[b])=10 * Xz l+(b.toNat - 48):=by unfold Xz;rw[Lz];rfl
def kO(n:Nat):Xz (Qk n)=n:=by
 induction n using Nat.strongRecOn with
 |_ n a=>
  by_cases h:n < 10
  ·rw[Zm h];unfold Xz;simp only[DR,List.foldl_nil,Zd h];omega
  ·rw[aC h,wo,a (n / 10) (by omega),Zd (by omega)];omega
def iU(n:Nat):Qk n≠[]:=by
 by_cases h:n < 10
 ·rw[Zm h];simp
 ·rw[aC h];simp
def iX{l}(h:Vn l=true){b:UInt8}(a:b∈l):48<=b.toNat∧b.toNat<=57:=by have:=Ap.1 h b a;simpa using this
def sW(n:Nat):bl (Qk n)=false:=by
 have h:=Zl n;cases a:Qk n with
 |nil=>rfl
 |cons b l=>rw[a]at h;have:=iX h (b:=b) (by simp);unfold bl;simp;omega
def dw{n k}(h:n < 10 ^ (k+1)):(Qk n).length<=k+1:=by unfold Qk;rw[LH];exact iW k n h
def Zk{n}(h:n < 0):Jd n=45::Qk n.natAbs:=by unfold Jd;rw[At h]
def Xc{n}(h:¬n < 0):Jd n=Qk n.toNat:=by unfold Jd;rw[As h]
def rd_dec{N k n}(b:n.natAbs < 10 ^ (k+1))(d:k+1<=N):U5 N (Jd n)=some n:=by
 by_cases h:n < 0
 ·have a:bl (Jd n)=true:=by rw[Zk h];rfl
  have e2:Wf (Jd n)=Qk n.natAbs:=by unfold Wf;rw[At a,Zk h];rfl
  have c:=dw b;unfold U5 sgB;rw[a,e2,As (by simp only[Fn,Iv];exact⟨iU _,by omega,Zl _⟩),At rfl,kO];congr 1;omega
 ·have a:bl (Jd n)=false:=by rw[Xc h];exact sW _
  have e2:Wf (Jd n)=Qk n.toNat:=by unfold Wf;rw[As (by rw[a];simp),Xc h]
  have c:=dw (n:=n.toNat) (k:=k) (by rw[show n.toNat=n.natAbs by omega];exact b);unfold U5 sgB;rw[a,e2,As (by simp only[Fn,Iv];exact⟨iU _,by omega,Zl _⟩),As (by simp),kO];congr 1;omega
def kP:Jd 0=[48]:=by rw[Xc (by omega),show(0:Int).toNat=0 from rfl,Zm (by omega)];rfl
def nz{s}(h:Jd (TT s)=s):U5 11 s=some (TT s):=by
 by_cases a:s=[48]
 ·subst a;rfl
 by_cases b:(Wf s).length < 12∧Vn (Wf s)=true
 ·have e:TT s=sgB s (Xz<|Wf s):=by unfold TT;rw[At b]
  by_cases c:Wf s=[]
  ·rw[e,c]at h;have d:sgB s (Xz [])=0:=by unfold sgB Xz;split<;>rfl
   rw[d,kP]at h;exact absurd h.symm a
  ·rw[e];unfold U5;rw[As (by simp only[Fn,Iv];exact⟨c,by omega,b.2⟩)]
 ·have e:TT s=0:=by unfold TT;rw[As b]
  rw[e,kP]at h;exact absurd h.symm a
def XL{c}(h:c.toNat < 45∨c.toNat=47∨57 < c.toNat)(n:Int):c∉Jd n:=by
 have a:∀m,c∉Qk m:=λm d=>by have:=iX (Zl m) d;omega
 by_cases b:n < 0
 ·rw[Zk b];simp only[AA,Fn];refine⟨λe=>?_,a _⟩;subst e;revert h;decide
 ·rw[Xc b];exact a _
def iT(n:Int):Jd n≠[]:=by
 by_cases a:n < 0
 ·rw[Zk a];simp
 ·rw[Xc a];exact iU _
def wn:∀(l:zU) (n:Nat),Vn l=true->l.foldl (λn b=>10 * n+(b.toNat - 48)) n < (n+1) * 10 ^ l.length
 |[],n,_=>by simp
 |b::l,n,h=>by
  have c:=iX h (b:=b) (by simp);have a:Vn l=true:=by unfold Vn at h⊢;rw[Bz,Ad]at h;exact h.2
  rw[DR,Ar];refine BA (wn l _ a) ?_;rw[CX,Ez (10 ^ l.length) 10,<-GZ];exact BW _ (by omega)
def cW{l k}(h:Vn l=true)(a:l.length<=k):Xz l < 10 ^ k:=by have:=wn l 0 h;unfold Xz;rw[Cw,DK]at this;exact BA this<|Ec (by omega) a
def Abn(s:zU): -100000000000 < TT s∧TT s < 100000000000:=by
 unfold TT;split
 ·rename_i h;have:=cW h.2 (show(Wf s).length<=11 by omega);have e:(10:Nat) ^ 11=100000000000:=by decide
  unfold sgB;split<;>omega
 ·omega
def NP{α β:Type}(f:α->Option β):List α->Option (List β)
 |[]=>some []
 |x::l=>match f x,NP f l with
  |some y,some a=>some<|y::a
  |_,_=>none
def d6{α β:Type}{f:α->Option β}{g:α->β}:∀{l:List α},(∀x∈l,f x=some (g x))->NP f l=some (l.map g)
 |[],_=>rfl
 |x::l,h=>by rw[NP,h x (by simp),d6 (λy a=>h y<|by simp[a])];rfl
def pI{α β:Type}{f g}(a:∀x y,f x=some y->g x=y):∀{l:List α}{r:List β},NP f l=some r->l.map g=r
 |[],r,h=>by injection h
 |x::l,r,h=>by
  rw[NP]at h;split at h
  ·rename_i y d b c;injection h with h
   rw[AH,a x y b,pI a c,h]
  ·cases h
def lL{α β:Type}{f}:∀{l:List α}{r:List β},NP f l=some r->r.length=l.length
 |[],r,h=>by injection h with h;subst h;rfl
 |x::l,r,h=>by
  rw[NP]at h;split at h
  ·rename_i y b c a;injection h with h
   rw[<-h,Ar,Ar,lL a]
  ·cases h
def fx(s:zU):zI:=if s=[]then []else(FQ 32 s).map TT
def szI(s:zU):Option zI:=if s=[]then some []else NP (U5 11) (FQ 32 s)
def Aan{s r}(h:szI s=some r):fx s=r:=by
 unfold szI at h;unfold fx;split
 ·rename_i e;rw[At e]at h;injection h
 ·rename_i e;rw[As e]at h;exact pI (λx y a=>bX (by omega) a) h
def Aia{s}(h:Xk [32] (fx s)=s):szI s=some (fx s):=by
 unfold szI;split
 ·rename_i e;unfold fx;rw[At e]
 ·rename_i e;unfold fx at h⊢;rw[As e]at h⊢;unfold Xk at h;have a:=Vk (c:=32) (ws:=((FQ 32 s).map TT).map Jd) (λw d=>by obtain⟨x,_,rfl⟩:=Bq.1 d;exact XL (.inl (by decide)) x) (by simp;exact aA 32 s);rw[h,EY]at a;have b:(FQ 32 s).map (Jd ∘ TT)=(FQ 32 s).map id:=by rw[<-a];simp
  rw[List.map_inj_left]at b;exact d6 λx f=>nz<|b x f
def YP(b:UInt8):Option Int:=if b=88 then some 0 else if b=89 then some 1 else if b=90 then some 2 else if b=85 then some 3 else if b=86 then some 4 else none
def lsB(p:zU):zI:=p.filterMap YP
def pnB:zU->Option zI
 |b::q=>if b=40∧q.getLast?=some 41 then NP YP q.dropLast else none
 |[]=>none
def en{b v}(h:YP b=some v):v=0∧b=88∨v=1∧b=89∨v=2∧b=90∨v=3∧b=85∨v=4∧b=86:=by
 unfold YP at h
 repeat (first|(split at h;(rename_i e;injection h with h;subst h;subst e;simp))|(cases h))
def x7{b v}(h:YP b=some v):nameB v=[b]:=by rcases en h with⟨rfl,rfl⟩|⟨rfl,rfl⟩|⟨rfl,rfl⟩|⟨rfl,rfl⟩|⟨rfl,rfl⟩<;>rfl
def x1{v}(h:∃b,YP b=some v):∃b,nameB v=[b]∧YP b=some v∧b≠59:=by have⟨b,h⟩:=h;refine⟨b,x7 h,h,?_⟩;rcases en h with⟨_,rfl⟩|⟨_,rfl⟩|⟨_,rfl⟩|⟨_,rfl⟩|⟨_,rfl⟩<;>decide
def zW{p v}(h:v∈lsB p):∃b,YP b=some v:=by have⟨b,_,a⟩:=List.mem_filterMap.1 h;exact⟨b,a⟩
def Wg:∀{o:zI},(∀v∈o,∃b,YP b=some v)->NP YP (Js o)=some o∧(59:UInt8)∉Js o
 |[],_=>⟨rfl,by simp[Js]⟩
 |v::o,h=>by
  have⟨b,a,c,d⟩:=x1<|h v<|by simp
  have⟨f,g⟩:=Wg (o:=o)<|λu i=>h u<|AV _ i
  have e:Js (v::o)=b::Js o:=by unfold Js;rw[AI,a];rfl
  rw[e];refine⟨by rw[NP,c,f],?_⟩;simp only[AA,Fn];exact⟨λe=>d e.symm,g⟩
def pF{α β:Type}{f}:∀{l:List α}{r:List β},NP f l=some r->l.filterMap f=r
 |[],r,h=>by injection h
 |x::l,r,h=>by
  rw[NP]at h;split at h
  ·rename_i y c a b;injection h with h
   rw[Nr,a,pF b];exact h
  ·cases h
def rq{q:zU}{b:UInt8}(h:q.getLast?=some b):q=q.dropLast++[b]:=by
 obtain⟨a,e⟩:=IP.1 h|> λ⟨c,e⟩=>(⟨by rw[e];simp,by rw[e];simp⟩:q≠[]∧q=q.dropLast++[b])
 exact e
def z9{p o}(h:pnB p=some o):lsB p=o:=by
 cases p with
 |nil=>cases h
 |cons b q=>
  rw[pnB]at h;split at h
  ·rename_i a;have e:=pF h;unfold lsB;rw[a.1,rq a.2,Nr,show YP 40=none from rfl,List.filterMap_append];simp only[Nr,List.filterMap_nil,show YP 41=none from rfl,AN];exact e
  ·cases h
def Ahv{p}(h:p=40::(Js (lsB p)++[41])):pnB p=some (lsB p):=by have a:=(Wg (o:=lsB p)<|λv b=>zW b).1;generalize c:lsB p=o at h a;rw[h,pnB,At ⟨rfl,by simp⟩,List.dropLast_concat];exact a
def VX(c:UInt8):zU->zU
 |[]=>[]
 |x::l=>if x=c then []else x::VX c l
def mH(c:UInt8):zU->Option zU
 |[]=>none
 |x::l=>if x=c then some l else mH c l
def sG(c:UInt8):∀s,c∉VX c s
 |[]=>by simp[VX]
 |x::l=>by
  rw[VX];split
  ·simp
  ·rename_i h;simp only[AA,Fn];exact⟨λe=>h e.symm,sG c l⟩
def iG(c:UInt8):∀s,match mH c s with
  |none=>VX c s=s
  |some t=>s=VX c s++c::t
 |[]=>rfl
 |x::l=>by
  have a:=iG c l;rw[mH,VX];by_cases h:x=c
  ·rw[At h,At h,h];rfl
  ·rw[As h,As h];cases b:mH c l with
   |none=>rw[b]at a;simp only at a⊢;rw[a]
   |some t=>rw[b]at a;simp only at a⊢;rw[Cq,<-a]
section
variable (vR:Int×Int->Bool)(hv:∀r,vR r=true->r.1.natAbs<=1000000000∧r.2.natAbs<=1000000000)
def Uu(r:Int×Int):zU:=if vR r=true then(if r.2=1 then Jd r.1 else Jd r.1++47::Jd r.2)else []
def rtC(s:zU):Int×Int:=(TT (VX 47 s),match mH 47 s with
 |none=>1
 |some t=>TT t)
def rtB(s:zU):Option (Int×Int):=if Uu vR (rtC s)=s∧s≠[]then some (rtC s)else none
def riB(s:zU):Option (Int×Int):=match FQ 47 s with
 |[w]=>(match U5 10 w with
  |some n=>if Uu vR (n,1)=s∧s≠[]then some (n,1)else none
  |none=>none)
 |[w,t]=>(match U5 10 w,U5 10 t with
  |some n,some d=>if Uu vR (n,d)=s∧s≠[]then some (n,d)else none
  |_,_=>none)
 |_=>none
include hv in
def m8{r}(a:Uu vR r≠[]):(r.2=1∧FQ 47 (Uu vR r)=[Jd r.1]∨r.2≠1∧FQ 47 (Uu vR r)=[Jd r.1,Jd r.2])∧U5 10 (Jd r.1)=some r.1∧U5 10 (Jd r.2)=some r.2:=by
 have d:(10:Nat) ^ (9+1)=10000000000:=by decide
 unfold Uu at a⊢;by_cases h:vR r=true
 ·have⟨e,f⟩:=hv r h;rw[At h];refine⟨?_,rd_dec (k:=9) (by omega) (by omega),rd_dec (k:=9) (by omega)<|by omega⟩;have b:∀n,(47:UInt8)∉Jd n:=XL<|.inr<|.inl<|by decide
  by_cases c:r.2=1
  ·rw[At c];exact .inl ⟨c,Vl<|b _⟩
  ·rw[As c];exact .inr ⟨c,by rw[cy (b _),Vl (b _)]⟩
 ·rw[As h]at a;exact absurd rfl a
include hv in
def qd(s:zU):riB vR s=rtB vR s:=by
 have e:=iG 47 s;have g:=sG 47 s;unfold riB rtB rtC;cases q:mH 47 s with
 |none=>
  rw[q]at e;simp only at e⊢;rw[e]at g⊢;rw[Vl g];simp only;cases u:U5 10 s with
  |some n=>rw[bX (by omega) u]
  |none=>simp only;rw[As];rintro⟨f,h⟩;have⟨a,b,_⟩:=m8 vR hv (r:=(TT s,1)) (by rw[f];exact h);rw[f,Vl g]at a;simp only[CQ,and_true,true_and,ne_eq,LB,false_and,N8]at a;simp only at b;rw[<-a]at b;rw[u]at b;cases b
 |some t=>
  rw[q]at e;simp only at e⊢;generalize A:VX 47 s=w at e g;have c:FQ 47 s=w::FQ 47 t:=by rw[e,cy g]
  have i:=aA 47 t
  have m:Uu vR (TT w,TT t)=s->s≠[]->FQ 47 t=[t]∧U5 10 w=some (TT w)∧U5 10 t=some (TT t):=by
   intro f h;have⟨a,b,o⟩:=m8 vR hv (r:=(TT w,TT t)) (by rw[f];exact h);rw[f,c]at a;rcases a with⟨_,a⟩|⟨_,a⟩
   ·injection a with _ a;exact absurd a i
   ·injection a with hc1 hc2
    have j:=dZ 47 t;rw[hc2]at j;have p:Jd (TT t)=t:=by simpa[EV]using j
    simp only at b o hc1;rw[p]at hc2 o;rw[<-hc1]at b;exact⟨hc2,b,o⟩
  rw[c];by_cases k:Uu vR (TT w,TT t)=s∧s≠[]
  ·have⟨x,y,z⟩:=m k.1 k.2;rw[x];simp only[y,z]
  ·rw[As k];cases l:FQ 47 t with
   |nil=>exact absurd l i
   |cons v ts=>
    cases ts with
    |cons _ _=>rfl
    |nil=>
     have j:=dZ 47 t;rw[l]at j;have p:v=t:=by simpa[EV]using j
     subst p;simp only;cases f:U5 10 w with
     |none=>rfl
     |some n=>
      cases h:U5 10 v with
      |none=>rfl
      |some d=>rw[bX (by omega) f,bX (by omega) h]at k;simp only;rw[As k]
def Re(s:zU):Option (List<|Int×Int):=if s=[]then some []else NP (rtB vR) (FQ 32 s)
def Xe(l:List (Int×Int)):zU:=if(l.any λr=>Uu vR r==[])=true then []else EV [32] (l.map<|Uu vR)
abbrev Ur:=zI×List (Int×Int)×zI×Int×Int
def P1(c:Ur):List zU:=[40::(Js c.1++[41]),Xe vR c.2.1,Xk [32] c.2.2.1,Jd c.2.2.2.1,Jd c.2.2.2.2]
def cB(c:Ur):zU:=if 5 < c.1.length∨4 < c.2.1.length∨4 < c.2.2.1.length∨(Xe vR c.2.1=[]∧c.2.1≠[])then []else EV [59] (P1 vR c)
def mo(S:zU):Option Ur:=match FQ 59 S with
 |[p0,p1,p2,p3,p4]=>if cB vR (lsB p0,(Re vR p1).getD [],fx p2,TT p3,TT p4)=S then some (lsB p0,(Re vR p1).getD [],fx p2,TT p3,TT p4)else none
 |_=>none
def Xg(S:zU):Option Ur:=match FQ 59 S with
 |[p0,p1,p2,p3,p4]=>(match szI p2,pnB p0,Re vR p1,U5 11 p3,U5 11 p4 with
  |some b,some o,some c,some a,some d=>if cB vR (o,c,b,a,d)=S then some (o,c,b,a,d)else none
  |_,_,_,_,_=>none)
 |_=>none
def xj(r:Int×Int):(59:UInt8)∉Uu vR r:=by
 have h:∀n,(59:UInt8)∉Jd n:=XL<|.inr<|.inr<|by decide
 unfold Uu;split
 ·split
  ·exact h _
  ·simp only[Al,AA,Fn];exact⟨h _,by decide,h _⟩
 ·simp
def jt{c sep}(b:c∉sep):∀{ws:List zU},(∀w∈ws,c∉w)->c∉EV sep ws
 |[],_=>by simp[EV]
 |[w],h=>by simpa[EV]using h w (by simp)
 |w::v::ws,h=>by
  rw[ZE,Al,Al];rintro(a|a|a)
  ·exact h w (by simp) a
  ·exact b a
  ·exact jt b (λu d=>h u<|AV _ d) a
def l9(c:Ur)(d:∀v∈c.1,∃b,YP b=some v):∀w∈P1 vR c,(59:UInt8)∉w:=by
 have h:∀n,(59:UInt8)∉Jd n:=XL<|.inr<|.inr<|by decide
 intro w a;unfold P1 at a;simp only[AA,F5,N8]at a;rcases a with rfl|rfl|rfl|rfl|rfl
 ·simp only[AA,Al,F5,N8,Fn];exact⟨by decide,(Wg d).2,by decide⟩
 ·unfold Xe;split
  ·simp
  ·exact jt (by decide) λw a=>by obtain⟨r,_,rfl⟩:=Bq.1 a;exact xj vR r
 ·exact jt (by decide) λw a=>by obtain⟨r,_,rfl⟩:=Bq.1 a;exact h r
 ·exact h _
 ·exact h _
def gc(S:zU):mo vR S=Xg vR S:=by
 unfold mo Xg;split
 ·rename_i p0 p1 p2 p3 p4 f;by_cases a:cB vR (lsB p0,(Re vR p1).getD [],fx p2,TT p3,TT p4)=S
  ·rw[At a]
   have i:cB vR (lsB p0,(Re vR p1).getD [],fx p2,TT p3,TT p4)=EV [59] (P1 vR (lsB p0,(Re vR p1).getD [],fx p2,TT p3,TT p4)):=by
    by_cases g:5 < (lsB p0).length∨4 < ((Re vR p1).getD []).length∨4 < (fx p2).length∨(Xe vR ((Re vR p1).getD [])=[]∧(Re vR p1).getD []≠[])
    ·have e:cB vR (lsB p0,(Re vR p1).getD [],fx p2,TT p3,TT p4)=[]:=At g;rw[e]at a;rw[<-a]at f;cases f
    ·exact As g
   have d:=Vk (l9 vR (lsB p0,(Re vR p1).getD [],fx p2,TT p3,TT p4)<|λv hv=>zW hv) (by simp[P1]);rw[<-i,a,f]at d;unfold P1 at d;simp only[CQ,and_true]at d;have⟨j,h,e2,l,m⟩:=d
   have b:∃c,Re vR p1=some c:=by
    cases b:Re vR p1 with
    |some c=>exact⟨c,rfl⟩
    |none=>
     rw[b]at h;have:p1=[]:=by rw[h];rfl
     unfold Re at b;rw[At this]at b;cases b
   have⟨c,b⟩:=b;rw[Aia e2.symm,Ahv j,b,nz l.symm,nz m.symm];simp only;rw[b,BQ]at a;rw[BQ,At a]
  ·rw[As a];split
   ·rename_i u o c r k n p q s t;rw[z9 p,q,Aan n,bX (by omega) s,bX (by omega) t,BQ]at a;rw[As a]
   ·rfl
 ·rfl
end
def d7{α β γ:Type}{f:β->Option γ}{g:α->β}:∀l:List α,NP f (l.map g)=NP (λx=>f<|g x) l
 |[]=>rfl
 |x::l=>by rw[AH,NP,NP,d7 l]
def pG{α:Type}{f:α->Option α}{l:List α}(h:∀x∈l,f x=some x):NP f l=some l:=by have:=d6 (g:=λx:α=>x) h;rw[this,List.map_id']
def jU{n}(h:n.natAbs < 100000000000):U5 11 (Jd n)=some n:=rd_dec (k:=10) (by
 have e:(10:Nat) ^ (10+1)=100000000000:=by decide
 omega) (by omega)
def x9{v}(h:0<=v∧v<=4):∃b,YP b=some v:=by
 have:v=0∨v=1∨v=2∨v=3∨v=4:=by omega
 rcases this with rfl|rfl|rfl|rfl|rfl
 ·exact⟨88,rfl⟩
 ·exact⟨89,rfl⟩
 ·exact⟨90,rfl⟩
 ·exact⟨85,rfl⟩
 ·exact⟨86,rfl⟩
def yp{o}(h:∀v∈o,∃b,YP b=some v):pnB (40::(Js o++[41]))=some o:=by rw[pnB,At ⟨rfl,by simp⟩,List.dropLast_concat];exact(Wg h).1
def js{sep}{w:zU}(a:w≠[]):∀ws:List zU,EV sep (w::ws)≠[]
 |[]=>by simpa[EV]using a
 |v::ws=>by rw[ZE];intro e;exact a (List.append_eq_nil_iff.1 e).1
def zd{l}(h:∀x∈l,x.natAbs < 100000000000):szI (Xk [32] l)=some l:=by
 unfold szI Xk;cases l with
 |nil=>rfl
 |cons x l=>have a:EV [32] ((x::l).map Jd)≠[]:=js (iT x) _;rw[As a,Vk (c:=32) (λw b=>by obtain⟨y,_,rfl⟩:=Bq.1 b;exact XL (.inl (by decide)) y) (by simp),d7];exact pG λy d=>jU<|h y d
section
variable (vR:Int×Int->Bool)(hv:∀r,vR r=true->r.1.natAbs<=1000000000∧r.2.natAbs<=1000000000)
def oV{r}(h:vR r=true):Uu vR r≠[]:=by
 unfold Uu;rw[At h];split
 ·exact iT _
 ·intro e;exact iT _ (List.append_eq_nil_iff.1 e).1
include hv in
def yE{r}(h:vR r=true):rtB vR (Uu vR r)=some r:=by
 have a:=oV vR h;rw[<-qd vR hv];have⟨e,c,f⟩:=m8 vR hv a;unfold riB;rcases e with⟨d,b⟩|⟨d,b⟩
 ·have g:(r.1,(1:Int))=r:=Prod.ext rfl d.symm;rw[b];simp only;rw[c];simp only;rw[g,At ⟨rfl,a⟩]
 ·rw[b];simp only;rw[c,f];simp only;rw[At ⟨trivial,a⟩]
def xi(r:Int×Int):(32:UInt8)∉Uu vR r:=by
 have h:∀n,(32:UInt8)∉Jd n:=XL<|.inl<|by decide
 unfold Uu;split
 ·split
  ·exact h _
  ·simp only[Al,AA,Fn];exact⟨h _,by decide,h _⟩
 ·simp
def oZ{l}(h:∀r∈l,vR r=true):Xe vR l=EV [32] (l.map<|Uu vR):=by unfold Xe;rw[As];rw[Hn,CD];intro r a;rw[BK];exact oV vR<|h r a
include hv in
def vt{l}(h:∀r∈l,vR r=true):Re vR (Xe vR l)=some l:=by
 rw[oZ vR h];unfold Re;cases l with
 |nil=>rfl
 |cons x l=>have a:EV [32] ((x::l).map<|Uu vR)≠[]:=js (oV vR<|h x BG) _;rw[As a,Vk (c:=32) (λw b=>by obtain⟨y,_,rfl⟩:=Bq.1 b;exact xi vR y) (by simp),d7];exact pG λy d=>yE vR hv<|h y d
include hv in
def qY{c:Ur}(o:c.1.length<=5)(p:c.2.1.length<=4)(q:c.2.2.1.length<=4)(g:∀v∈c.1,0<=v∧v<=4)(d:∀r∈c.2.1,vR r=true)(i:∀x∈c.2.2.1,x.natAbs < 100000000000)(j:c.2.2.2.1.natAbs < 100000000000)(k:c.2.2.2.2.natAbs < 100000000000):Xg vR (cB vR c)=some c:=by
 have f:∀v∈c.1,∃b,YP b=some v:=λv hv=>x9<|g v hv
 have m:cB vR c=EV [59] (P1 vR c):=by
  unfold cB;rw[As];rintro(h|h|h|⟨h,n⟩)
  ·omega
  ·omega
  ·omega
  ·cases e:c.2.1 with
   |nil=>exact n e
   |cons x l=>rw[oZ vR d,e,AH]at h;exact js (oV vR<|d x<|by rw[e];exact BG) _ h
 have a:=Vk (c:=59) (l9 vR c f) (by simp[P1]);rw[<-m]at a;unfold Xg;rw[a];unfold P1;simp only;rw[zd i,yp f,vt vR hv d,jU j,jU k];simp only;rw[At trivial]
end
def cR(s:zU)(k:Nat):B5 s (k:Int) (s.length:Int)=s.drop k:=by unfold B5;rw[AB,AB,Bl]
def X6(s:zU)(j k:Nat):B5 s (j:Int) (k:Int)=(s.take k).drop j:=by unfold B5;rw[AB,AB]
def bH{s:zU}{j k:Nat}(b:j<=k)(a:k < s.length):(s.take<|k+1).drop j=(s.take k).drop j++[s[k]]:=by rw[A7 a,C9 (by rw[Av];omega)]
def eY(s:zU)(k:Nat):(s.take k).drop k=[]:=List.drop_eq_nil_of_le (by rw[Av];omega)
def Zb{b c:UInt8}{a:Int}(d:(c.toNat:Int)=a):((b.toNat:Int)==a)=decide (b=c):=by
 subst d;by_cases h:b=c
 ·subst h;simp
 ·have:¬b.toNat=c.toNat:=λe=>h (UInt8.toNat_inj.1 e)
  simp[h];omega
def YS{s:zU}{c:UInt8}{a:Int}(k:(c.toNat:Int)=a)(r:s.length<=1048576):∀(d i j:Nat) (out:List zU) (f:Nat),i+d=s.length->j<=i->out.length<=i->d < f->
  ∃b e,Aq (Pm s a) f (out,(j:Int),(i:Int))=some (b,((e:Nat):Int))∧e<=s.length∧b.length<=s.length∧b++[s.drop e]=out++preB ((s.take i).drop j) (FQ c<|s.drop i)
 |d,i,j,out,0,_,_,_,l=>absurd l (by omega)
 |0,i,j,out,f+1,hi,m,t,l=>by
  obtain rfl:i=s.length:=by omega
  refine⟨out,j,?_,m,t,?_⟩
  ·rw[A6,Pm];rw[A2];rfl
  ·rw[CJ,Bl];simp[FQ,preB]
 |d+1,i,j,out,f+1,hi,m,t,l=>by
  have g:i < s.length:=by omega
  have u:wZ ((i:Int)+1)=((i+1:Nat):Int):=by rw[wrap_in (by omega)];simp
  rw[A6,Pm];rw[Bc g,Ab,AG g,obs,Zb k,AS g,FQ];by_cases h:s[i]=c
  ·rw[Ae h,Ab,At h,Aw (by omega),Aw (by simp only[Af];unfold lim;omega),Pn,u,X6];obtain⟨b,e,n,o,p,q⟩:=YS k r d (i+1) (i+1) (out++[(s.take i).drop j]) f (by omega) (by omega) (by simp;omega) (by omega);refine⟨b,e,n,o,p,?_⟩;rw[q,eY,cL];simp[preB]
  ·rw[Ac h,Aa,As h,Pn,u];obtain⟨b,e,n,o,p,q⟩:=YS k r d (i+1) j out f (by omega) (by omega) (by omega) (by omega);refine⟨b,e,n,o,p,?_⟩;rw[q,pZ,bH m g]
def vz{s}(c:UInt8){a:Int}(d:(c.toNat:Int)=a)(e:s.length<=1048576):MQ s a=some (FQ c s):=by
 unfold MQ;have⟨b,h,f,i,j,g⟩:=YS d e s.length 0 0 [] fz (by omega) (by omega) (by simp)<|EC<|by unfold lim;omega
 rw[show((([]:List zU),(0:Int),(0:Int)))=([],((0:Nat):Int),((0:Nat):Int))from rfl,f,obs];simp only;rw[Aw (by omega),Aw (by simp only[Af];unfold lim;omega),cR,g];simp only[Bn,L9,Cj,List.drop_nil,cL]
def YH{s:zU}{c:UInt8}{a:Int}(g:(c.toNat:Int)=a)(m:s.length<=1048576):∀(d i j:Nat) (out:List zU) (f:Nat),i+d=s.length->j<=i->out.length<=i->d+1 < f->
  Aq (Lb s a) f (out,(j:Int),(i:Int))=some (out++preB ((s.take i).drop j) (FQ c<|s.drop i))
 |d,i,j,out,0,_,_,_,b=>absurd b (by omega)
 |d,i,j,out,1,_,_,_,b=>absurd b (by omega)
 |0,i,j,out,f+2,hi,n,o,b=>by
  obtain rfl:i=s.length:=by omega
  have e:wZ ((s.length:Int)+1)=((s.length+1:Nat):Int):=by rw[wrap_in (by omega)];simp
  rw[A6,Lb];rw[Ae (by omega),Ab,BP,Ab,Ph,Ab,Aw (by omega),Aw (by simp only[Af];unfold lim;omega),Ng,e,A6,Lb];rw[Ac (by omega),Aa,cR,CJ,Bl];simp[FQ,preB]
 |d+1,i,j,out,f+2,hi,n,o,b=>by
  have k:i < s.length:=by omega
  have e:wZ ((i:Int)+1)=((i+1:Nat):Int):=by rw[wrap_in (by omega)];simp
  rw[A6,Lb];have l:((i:Int)==(s.length:Int))=false:=by simp;omega
  rw[Ae (by omega),Ab,l,Aa,AG k,obs,Zb g,AS k,FQ,Ph];by_cases h:s[i]=c
  ·rw[Ae h,Ab,At h,Aw (by omega),Aw (by simp only[Af];unfold lim;omega),Ng,e,X6];rw[YH g m d (i+1) (i+1) (out++[(s.take i).drop j]) (f+1) (by omega) (by omega) (by simp;omega) (by omega),eY,cL];simp[preB]
  ·rw[Ac h,Aa,As h,Ng,e];rw[YH g m d (i+1) j out (f+1) (by omega) (by omega) (by omega) (by omega),pZ,bH n k]
def pk{s}(c:UInt8){a:Int}(b:(c.toNat:Int)=a)(d:s.length<=1048576):PW s a=some (FQ c s):=by unfold PW;rw[show((([]:List zU),(0:Int),(0:Int)))=([],((0:Nat):Int),((0:Nat):Int))from rfl,YH b d s.length 0 0 [] fz (by omega) (by omega) (by simp) (by unfold fz;omega),obs];simp only[Bn,L9,Cj,List.drop_nil,cL]
def dy{O:Type}{B:(Int×Int->Option (Sum Int O))->Int×Int->Option (Sum Int O)}{x:zU}(a:O)(q:x.length<=11)
  (h:∀k (g:k < x.length) (n:Nat) rec,n < 100000000000->B rec ((n:Int),(k:Int))=cond (decide (48<=x[k].toNat)&&decide (x[k].toNat<=57)) (rec (((10 * n+(x[k].toNat - 48):Nat):Int),((k+1:Nat):Int))) (some<|.inr a))
  (i:∀(n:Nat) rec,B rec ((n:Int),(x.length:Int))=some (.inl (n:Int))):Aq B fz (0,0)=some (cond (Vn x) (.inl ((Xz x:Nat):Int))<|.inr a):=by
 have e:∀(d k n f:Nat),k+d=x.length->n < 10 ^ k->d < f->Aq B f ((n:Int),(k:Int))=some (cond (Vn<|x.drop k) (.inl ((((x.drop k).foldl (λn b=>10 * n+(b.toNat - 48)) n:Nat)):Int))<|.inr a):=by
  intro d;induction d with
  |zero=>
   intro k n f g j l;obtain rfl:k=x.length:=by omega
   cases f with
   |zero=>omega
   |succ f=>rw[A6,i,CJ];rfl
  |succ d m=>
   intro k n f g j l;have c:k < x.length:=by omega
   cases f with
   |zero=>omega
   |succ f=>
    have r:(10:Nat) ^ k<=10 ^ 10:=Ec (by omega) (by omega);have o:(10:Nat) ^ 10=10000000000:=by decide
    rw[A6,h k c n _ (by omega),AS c];unfold Vn;rw[Bz,DR];cases p:decide (48<=x[k].toNat)&&decide (x[k].toNat<=57)with
    |false=>rfl
    |true=>simp only[Ad,Bu]at p;rw[Ab,m (k+1) _ f (by omega) (by rw[CX];omega) (by omega),AK];rfl
 have:=e x.length 0 0 fz (by omega) (by simp) (by unfold fz;omega);rw[Cj]at this;exact this
def AeE(b:UInt8):wZ (b.toNat:Int)=(b.toNat:Int):=wrap_in (by have:=b.toNat_lt;omega)
def AeF{n}(h:0<=n∧n < 256):IntKind.u8.wrap n=n:=by
 (try unfold wZ)<;>unfold IntKind.wrap
 simp[IntKind.signed,IntKind.bits]<;>omega
def nW(x:zU)(sg:Int)(i:sg=1∨sg= -1):Pk x sg=some (if x.length < 12∧Vn x=true then sg * (Xz x:Nat)else 0):=by
 unfold Pk;by_cases c:x.length < 12
 ·rw[dy (x:=x) (0:Int) (by omega) (λk d n a m=>by
   have o:=x[k].toNat_lt;rw[R4];rw[Bc d,Ae (by omega:(x.length:Int) < 12),AG d];simp only[Ab,obs];by_cases f:48<=x[k].toNat
   ·by_cases g:x[k].toNat<=57
    ·rw[Ac (by omega:¬(x[k].toNat:Int) < 48),Ac (by omega:¬57 < (x[k].toNat:Int)),Ae f,Ae g,AeE,wrap_in (n:=(n:Int) * 10) (by omega),wrap_in (n:=(n:Int) * 10+_) (by omega),wrap_in (by omega),wrap_in (by omega)];simp only[Aa,CE,Ab];congr 2;omega
    ·rw[Ac (by omega:¬(x[k].toNat:Int) < 48),Ae (by omega:57 < (x[k].toNat:Int)),Ac g];simp
   ·rw[Ae (by omega:(x[k].toNat:Int) < 48),Ac f];simp) (λn a=>by rw[R4];rw[A2];rfl),obs]
  cases j:Vn x with
  |false=>simp
  |true=>
   have p:=cW j (show x.length<=11 by omega);have e:(10:Nat) ^ 11=100000000000:=by decide
   rw[At ⟨c,rfl⟩];simp only[Ab];rw[wrap_in (by rcases i with rfl|rfl<;>omega)]
 ·have l:(0:Nat) < x.length:=by omega
  have b:fz=(fz - 1)+1:=by unfold fz;rfl
  rw[b,A6,R4];rw[Ae (by omega:(0:Int) < (x.length:Int)),Ac (by omega:¬(x.length:Int) < 12),Ab,Aa,obs,As (λh=>c h.1)];simp only[Int.mul_zero];rw[wrap_in (by omega)]
def sub_one(b:UInt8)(l:zU):B5 (b::l) 1 (List.length (b::l):Int)=l:=by have:=cR (b::l) 1;simpa using this
def ig(s:zU):Oj s=some (TT s):=by
 unfold Oj TT Wf sgB;cases s with
 |nil=>show Nj [] false=_;unfold Nj;rw[Aa,nW [] 1 (.inl rfl)];rfl
 |cons b l=>
  rw[Ae (by simp only[Ar];omega),Ab,show AF (b::l) 0=some b from rfl,obs];have a:((b.toNat:Int)==45)=bl (b::l):=by unfold bl;rw[Ck];simp only[BK];omega
  rw[a];unfold Nj;cases c:bl (b::l)with
  |true=>rw[Ab,Aw (by simp only[Ar];omega),sub_one,nW _ _ (.inr rfl)];simp
  |false=>rw[Aa,nW _ _ (.inl rfl)];simp
def PC(x:zU):(x==[])=decide (x=[]):=by cases x<;>rfl
def oJ(b:UInt8)(h:48<=b.toNat):wZ (IntKind.u8.wrap<|(b.toNat:Int) - 48)=((b.toNat - 48:Nat):Int):=by have:=b.toNat_lt;rw[AeF (by omega),wrap_in (by omega)];omega
def jp(x:zU)(sg:Int)(g:sg=1∨sg= -1):L4 sg x=some (if x=[]∨11 < x.length∨Vn x=false then(0,false)else(sg * (Xz x:Nat),true)):=by
 unfold L4;rw[PC];by_cases a:x=[]
 ·rw[Ae a,Ab,At (.inl a)]
 by_cases h:11 < x.length
 ·rw[Ac a,Aa,Ae (by omega),Ab,At (.inr<|.inl h)]
 ·rw[Ac a,Aa,Ac (by omega),Aa]
  rw[dy (x:=x) ((0:Int),false) (by omega) (λk d n b j=>by
   have l:=x[k].toNat_lt;rw[RC];rw[Bc d,AG d];simp only[Ab,obs];by_cases c:48<=x[k].toNat
   ·by_cases f:x[k].toNat<=57
    ·rw[Ac (by omega:¬(x[k].toNat:Int) < 48),Ac (by omega:¬57 < (x[k].toNat:Int)),Ae c,Ae f,oJ _ c,wrap_in (n:=10 * (n:Int)) (by omega),wrap_in (n:=10 * (n:Int)+_) (by omega),wrap_in (by omega)];simp only[Aa,CE,Ab];congr 2
    ·rw[Ac (by omega:¬(x[k].toNat:Int) < 48),Ae (by omega:57 < (x[k].toNat:Int)),Ac f];simp
   ·rw[Ae (by omega:(x[k].toNat:Int) < 48),Ac c];simp) (λn b=>by rw[RC];rw[A2];rfl),obs]
  cases i:Vn x with
  |false=>simp
  |true=>
   have m:=cW i (show x.length<=11 by omega);have e:(10:Nat) ^ 11=100000000000:=by decide
   rw[As (by simp;exact⟨a,by omega⟩)];simp only[Ab];rw[wrap_in (by rcases g with rfl|rfl<;>omega)]
def jk(x:zU)(b:Bool):LZ b x=some (if x=[]∨10 < x.length∨Vn x=false then(0,false)else(if b=true then -((Xz x:Nat):Int)else((Xz x:Nat):Int),true)):=by
 unfold LZ;rw[PC];by_cases a:x=[]
 ·rw[Ae a,Ab,At (.inl a)]
 by_cases h:10 < x.length
 ·rw[Ac a,Aa,Ae (by omega),Ab,At (.inr<|.inl h)]
 ·rw[Ac a,Aa,Ac (by omega),Aa]
  rw[dy (x:=x) ((0:Int),false) (by omega) (λk f n c j=>by
   have l:=x[k].toNat_lt;rw[RB];rw[Bc f,AG f];simp only[Ab,obs];by_cases d:48<=x[k].toNat
   ·by_cases g:x[k].toNat<=57
    ·rw[Ac (by omega:¬(x[k].toNat:Int) < 48),Ac (by omega:¬57 < (x[k].toNat:Int)),Ae d,Ae g,oJ _ d,wrap_in (n:=10 * (n:Int)) (by omega),wrap_in (n:=10 * (n:Int)+_) (by omega),wrap_in (by omega)];simp only[Aa,CE,Ab];congr 2
    ·rw[Ac (by omega:¬(x[k].toNat:Int) < 48),Ae (by omega:57 < (x[k].toNat:Int)),Ac g];simp
   ·rw[Ae (by omega:(x[k].toNat:Int) < 48),Ac d];simp) (λn c=>by rw[RB];rw[A2];rfl),obs]
  cases i:Vn x with
  |false=>simp
  |true=>
   have m:=cW i (show x.length<=11 by omega);have e:(10:Nat) ^ 11=100000000000:=by decide
   rw[As (by simp;exact⟨a,by omega⟩)];simp only[Ab];cases b
   ·rfl
   ·simp only[Ab,EL];unfold Oz;rw[wrap_in (by omega),HO]
def lQ:Option Int->Int×Bool
 |some v=>(v,true)
 |none=>(0,false)
def pN(b:UInt8)(l:zU):((b.toNat:Int)==45)=bl (b::l):=by unfold bl;rw[Ck];simp only[BK];omega
def nn(s:zU):Nd s=some (lQ<|U5 11 s):=by
 unfold Nd U5 Wf sgB;cases s with
 |nil=>show I8 [] false=_;unfold I8;rw[Aa,jp [] 1 (.inl rfl)];rfl
 |cons b l=>
  rw[PC,Ac (by simp),BT,Ab,show AF (b::l) 0=some b from rfl,obs,pN b l];unfold I8;cases a:bl (b::l)with
  |true=>rw[Ab,Aw (by simp only[Ar];omega),sub_one,jp _ _ (.inr rfl)];simp only[EL,List.tail_cons];split<;>simp[lQ]
  |false=>rw[Aa,jp _ _ (.inl rfl)];simp only[Ca,Dz];split<;>simp[lQ]
def tN(s:zU):Pg s=some (lQ<|U5 10 s):=by
 unfold Pg U5 Wf sgB;cases s with
 |nil=>show I7 [] false=_;unfold I7;rw[Aa,jk [] false];rfl
 |cons b l=>
  rw[PC,Ac (by simp),BT,Ab,show AF (b::l) 0=some b from rfl,obs,pN b l];unfold I7;cases a:bl (b::l)with
  |true=>rw[Ab,Aw (by simp only[Ar];omega),sub_one,jk _ _];simp only[EL,List.tail_cons];split<;>simp[lQ]
  |false=>rw[Aa,jk _ _];simp only[Ca,Dz];split<;>simp[lQ]
def ld:∀(f:Nat) (a b:Int),0<=a->0<=b->b.toNat < f->∃g,Aq R3 f (a,b)=some g∧Aq Uz f (a,b)=some g
 |0,a,b,_,_,h=>absurd h (by omega)
 |f+1,a,b,d,e,h=>by
  rw[A6,A6,R3,Uz];by_cases c:b=0
  ·rw[show(b !=0)=false by simp[c]];exact⟨a,rfl,rfl⟩
  ·have i:0<=a.tmod b:=Int.tmod_nonneg _ d;have j:a.tmod b < b:=Int.tmod_lt_of_pos a (by omega);rw[show(b !=0)=true by simp[c],Ab,Ab,Aw c,Aw c];exact ld f b (a.tmod b) e i (by omega)
def Aa5{a b}(c:0<=a)(d:0<=b)(h:b<=1000000000):∃g,Oi a b=some g∧Sh a b=some g:=by have⟨g,e,f⟩:=ld fz a b c d (by unfold fz;omega);exact⟨g,by unfold Oi;rw[e];rfl,by unfold Sh;rw[f];rfl⟩
def EJ(r:Int×Int):Bool:=(BR r).getD false
def nR{r}:BR r=some (EJ r)∧CU r=some (EJ r)∧(EJ r=true->r.1.natAbs<=1000000000∧r.2.natAbs<=1000000000):=by
 have f:∃v,BR r=some v∧CU r=some v∧(v=true->r.1.natAbs<=1000000000∧r.2.natAbs<=1000000000):=by
  unfold BR CU;rw[Jv,FC,obs,obs];cases d:FX r.2 1 1000000000 with
  |false=>exact⟨false,rfl,rfl,λh=>by cases h⟩
  |true=>
   rw[Ab,Ab,Jv,FC,obs,obs];cases c:FX r.1 (-1000000000) 1000000000 with
   |false=>exact⟨false,rfl,rfl,λh=>by cases h⟩
   |true=>unfold FX at c d;simp only[Ad,Bu]at c d;unfold Vx;rw[wrap_in (n:=0 - r.1) (by omega),Ab,Ab,obs];have⟨g,i,e2⟩:=Aa5 (a:=if r.1 < 0 - r.1 then 0 - r.1 else r.1) (b:=r.2) (by split<;>omega) (by omega) (by omega);rw[i,e2];exact⟨g==1,rfl,rfl,λ_=>⟨by omega,by omega⟩⟩
 have⟨v,c,d,j⟩:=f;have e:EJ r=v:=by unfold EJ;rw[c];rfl
 rw[e];exact⟨c,d,j⟩
def eN(r:Int×Int)(h:EJ r=true):r.1.natAbs<=1000000000∧r.2.natAbs<=1000000000:=nR.2.2 h
def vC(r:Int×Int):Iz r=some (Uu EJ r):=by
 unfold Iz Uu;rw[nR.1,obs];cases h:EJ r with
 |false=>rfl
 |true=>
  have⟨d,e⟩:=eN r h;have b:Y4 r.1:=by unfold Y4;omega
  have c:Y4 r.2:=by unfold Y4;omega
  have f:=HB b;have g:=HB c;rw[Ai,Aa,At rfl,X5 b,X5 c,obs,obs,obs];by_cases a:r.2=1
  ·rw[At a,show(r.2==1)=true by simp[a],Ab]
  ·rw[As a,show(r.2==1)=false by simp[a],Aa,Aw (by simp only[Af];unfold lim;omega),Aw (by simp only[Ak,Af];unfold lim;omega)];simp
def tI(r:Int×Int):Is r=some (Uu EJ r):=by
 unfold Is Uu;rw[nR.2.1,obs];cases h:EJ r with
 |false=>rfl
 |true=>
  have⟨d,e⟩:=eN r h;have b:Y4 r.1:=by unfold Y4;omega
  have c:Y4 r.2:=by unfold Y4;omega
  have f:=HB b;have g:=HB c;rw[Ai,Aa,At rfl,ln b,ln c,obs,obs,obs];by_cases a:r.2=1
  ·rw[At a,show(r.2==1)=true by simp[a],Ab]
  ·rw[As a,show(r.2==1)=false by simp[a],Aa,Aw (by simp only[Af];unfold lim;omega),Aw (by simp only[Ak,Af];unfold lim;omega)];simp
def ja(r:Int×Int):(Uu EJ r).length<=41:=by
 unfold Uu;split
 ·rename_i h;have⟨a,b⟩:=eN r h;have c:=HB (n:=r.1) (by unfold Y4;omega);have d:=HB (n:=r.2) (by unfold Y4;omega);split
  ·omega
  ·simp only[Ak,Ar];omega
 ·simp
def okQ:Option (Int×Int)->(Int×Int)×Bool
 |some v=>(v,true)
 |none=>((0,0),false)
def at_loop{s}(g:s.length<=1048576):∀(d k f:Nat),k+d=s.length->d < f->Aq (JX s) f (k:Int)=some ((k+(VX 47<|s.drop k).length:Nat):Int)
 |d,k,0,_,e=>absurd e (by omega)
 |0,k,f+1,i,e=>by
  obtain rfl:k=s.length:=by omega
  rw[A6,JX,A2,CJ];rfl
 |d+1,k,f+1,i,e=>by
  have b:k < s.length:=by omega
  rw[A6,JX,Bc b,Ab,AG b,obs,AS b,VX];have j:(((s[k]).toNat:Int)!=47)= !decide (s[k]=47):=by rw[bne,Zb (c:=47) (a:=47) rfl]
  rw[j];by_cases h:s[k]=47
  ·rw[Ae h,At h];rfl
  ·rw[Ac h,As h,BT,Ab,wrap_in (by omega),show((k:Int)+1)=((k+1:Nat):Int)by simp,at_loop g d (k+1) f (by omega) (by omega),Ar];congr 2;omega
def qo{s a b}:Hg s a b=some (okQ (if Uu EJ (a,b)=s∧s≠[]then some (a,b)else none)):=by
 unfold Hg;rw[vC,obs,PC];by_cases d:Uu EJ (a,b)=s
 ·rw[d,BP,Ai,Aa];by_cases c:s=[]
  ·rw[Ae c,Ab,As (λh=>h.2 c)];rfl
  ·rw[Ac c,Aa,At ⟨rfl,c⟩];rfl
 ·rw[show(Uu EJ (a,b)==s)=false by simp[d],BT,Ab,As (λh=>d h.1)];rfl
def Aee{s:zU}(d:s.length<=1048576):MK s=some (okQ<|rtB EJ s):=by
 unfold MK rtB rtC;have a:=iG 47 s;rw[show(0:Int)=((0:Nat):Int)from rfl,at_loop d s.length 0 fz (by omega) (by unfold fz;omega),obs,Cj,Cw];cases b:mH 47 s with
 |none=>rw[b]at a;simp only at a⊢;rw[a,Aw (by omega),X6,Bl,Cj,ig,obs,A2,Aa,qo]
 |some t=>
  rw[b]at a;simp only at a⊢;have c:s.length=(VX 47 s).length+(t.length+1):=by have:=congrArg List.length a;simpa using this
  have e:s.take (VX 47 s).length=VX 47 s:=by have:=congrArg (List.take (VX 47 s).length) a;rw[this,List.take_left]
  have f:s.drop ((VX 47 s).length+1)=t:=by have:=congrArg (List.drop<|(VX 47 s).length+1) a;rw[this,List.drop_append];simp
  rw[Aw (by omega),X6,e,Cj,ig,obs,Bc (by omega),Ab,wrap_in (by omega),show(((VX 47 s).length:Int)+1)=(((VX 47 s).length+1:Nat):Int)by simp,Aw (by omega),cR,f,ig,obs,qo]
def pp{s ws v b}(d:ws.length<=2):E6 s ws v b true=some (okQ (if Uu EJ (v.1,b)=s∧s≠[]then some (v.1,b)else none)):=by
 unfold E6;rw[Ai,Aa,Ac (by omega),Aa,tI,PC,obs];by_cases a:s=[]
 ·rw[Ae a,Ab,As (λh=>h.2 a)];rfl
 ·rw[Ac a,Aa];by_cases c:Uu EJ (v.1,b)=s
  ·rw[c,BP,Ai,Aa,At ⟨rfl,a⟩];rfl
  ·rw[show(Uu EJ (v.1,b)==s)=false by simp[c],BT,Ab,As (λh=>c h.1)];rfl
def jl{s ws v b ok}(h:ok=false∨2 < ws.length):E6 s ws v b ok=some (okQ none):=by
 unfold E6;cases ok with
 |false=>rfl
 |true=>
  rcases h with h|h
  ·cases h
  ·rw[Ai,Aa,Ae (by omega),Ab];rfl
def Abc{s}(f:s.length<=1048576):Ji s=some (okQ<|riB EJ s):=by
 unfold Ji riB;rw[pk 47 (a:=47) rfl f,obs];cases g:FQ 47 s with
 |nil=>exact absurd g<|aA 47 s
 |cons w ws=>
  rw[show AF (w::ws) 0=some w from rfl,obs,tN,obs];cases b:U5 10 w with
  |none=>
   show E5 s (w::ws) (0,false) false=_;unfold E5;rw[Aa,jl (.inl rfl)];cases ws with
   |nil=>simp only[b]
   |cons t ts=>cases ts with
    |nil=>simp only[b]
    |cons _ _=>rfl
  |some n=>
   show cond true (E5 s (w::ws) (n,true) _) _=_;rw[Ab];unfold E5;cases ws with
   |nil=>rw[show(((List.length [w]:Nat):Int)==2)=false from rfl,Aa,pp (by simp)];simp only[b]
   |cons t ts=>
    cases ts with
    |nil=>
     rw[show(((List.length [w,t]:Nat):Int)==2)=true from rfl,Ab,show AF [w,t] 1=some t from rfl,obs,tN,obs];cases c:U5 10 t with
     |none=>rw[show lQ none=(0,false)from rfl,jl (.inl rfl)];simp only[b,c]
     |some d=>rw[show lQ (some d)=(d,true)from rfl,pp (by simp)];simp only[b,c]
    |cons h ts=>
     have e:(((List.length (w::t::h::ts):Nat):Int)==2)=false:=by simp only[Ar];rw[BC];omega
     rw[e,Aa,jl (.inr<|by simp only[Ar];omega)]
def rS{s}(a:s.length<=1048576):Ji s=some (okQ<|rtB EJ s):=by rw[Abc a,qd EJ eN]
def X4{α β O:Type}{B:(List β×Int->Option (Sum (List β) O))->List β×Int->Option (Sum (List β) O)}{ws:List α}(f:α->Option β)(b:O)(j:ws.length<=lim)
  (l:∀k (i:k < ws.length) (acc:List β) a,acc.length=k->B a (acc,(k:Int))=match f ws[k]with
   |some y=>a (acc++[y],((k+1:Nat):Int))
   |none=>some (.inr b)) (n:∀acc a,B a (acc,(ws.length:Int))=some (.inl acc)):
  Aq B fz ([],0)=some (match NP f ws with
   |some e=>.inl e
   |none=>.inr b):=by
 have g:∀(d k:Nat) (acc:List β) (m:Nat),k+d=ws.length->acc.length=k->d < m->Aq B m (acc,(k:Int))=some (match NP f (ws.drop k)with
   |some e=>.inl<|acc++e
   |none=>.inr b):=by
  intro d;induction d with
  |zero=>
   intro k acc m i h o;obtain rfl:k=ws.length:=by omega
   cases m with
   |zero=>omega
   |succ m=>rw[A6,n,CJ];simp[NP]
  |succ d p=>
   intro k acc m i h o;have c:k < ws.length:=by omega
   cases m with
   |zero=>omega
   |succ m=>
    rw[A6,l k c acc _ h,AS c,NP];cases r:f ws[k]with
    |none=>rfl
    |some y=>
     simp only;rw[p (k+1) (acc++[y]) m (by omega) (by simp[h]) (by omega)];cases q:NP f (ws.drop<|k+1)with
     |none=>rfl
     |some e=>simp
 have:=g ws.length 0 [] fz (by omega) rfl<|EC j;rw[Cj]at this;rw[show((([]:List β),(0:Int)))=([],((0:Nat):Int))from rfl,this];cases NP f ws<;>simp
def uT:Option (List<|Int×Int)->List (Int×Int)×Bool
 |some v=>(v,true)
 |none=>([],false)
def S3(c:UInt8){s:zU}(b:s.length<=1048576):(FQ c s).length<=1048577∧∀w∈FQ c s,w.length<=1048576:=
 ⟨by have:=oG c s;omega,λw a=>by have:=oH c s w a;omega⟩
def yP{s:zU}(d:s.length<=1048576):LF s=some (uT<|Re EJ s):=by
 obtain⟨f,e⟩:=S3 32 d;unfold LF Re;rw[PC];by_cases h:s=[]
 ·rw[Ae h,Ab,At h];rfl
 ·rw[Ac h,Aa,As h,vz 32 (a:=32) rfl d,obs]
  rw[X4 (ws:=FQ 32 s) (rtB EJ) (([]:List (Int×Int)),false) (by unfold lim;omega) (λk b acc c g=>by
   rw[ML];rw[Bc b,Ab,AG b,obs,Aee (e _<|Aj b),obs,wrap_in (by omega)];cases rtB EJ (FQ 32 s)[k]with
   |none=>rfl
   |some y=>show cond (!true) _ _=_;rw[Ai,Aa,Aw (by simp only[Af];unfold lim;omega)];rfl) (λacc c=>by rw[ML];rw[A2];rfl),obs]
  cases NP (rtB EJ) (FQ 32 s)<;>rfl
def xC{s:zU}(d:s.length<=1048576):Lv s=some (uT<|Re EJ s):=by
 obtain⟨f,e⟩:=S3 32 d;unfold Lv Re;rw[PC];by_cases h:s=[]
 ·rw[Ae h,Ab,At h];rfl
 ·rw[Ac h,Aa,As h,pk 32 (a:=32) rfl d,obs]
  rw[X4 (ws:=FQ 32 s) (rtB EJ) (([]:List (Int×Int)),false) (by unfold lim;omega) (λk b acc c g=>by
   rw[Mv];rw[Bc b,Ab,AG b,obs,rS (e _<|Aj b),obs,wrap_in (by omega)];cases rtB EJ (FQ 32 s)[k]with
   |none=>rfl
   |some y=>show cond (!true) _ _=_;rw[Ai,Aa,Aw (by simp only[Af];unfold lim;omega)];rfl) (λacc c=>by rw[Mv];rw[A2];rfl),obs]
  cases NP (rtB EJ) (FQ 32 s)<;>rfl
def pH{α β:Type}(g:α->β)(a:α->Bool):∀l:List α,NP (λx=>if a x=true then none else some (g x)) l=if l.any a=true then none else some (l.map g)
 |[]=>rfl
 |x::l=>by
  rw[NP,pH g a l,Ft];cases h:a x with
  |true=>simp
  |false=>cases b:l.any a<;>simp
def xx{l:List (Int×Int)}(d:l.length<=1048577):Ko l=some (Xe EJ l):=by
 unfold Ko Xe
 rw[X4 (ws:=l) (λr=>if(Uu EJ r==[])=true then none else some (Uu EJ r)) ([]:zU) (by unfold lim;omega) (λk b acc a e=>by
  rw[LM];rw[Bc b,Ab,AG b,obs,tI,obs,wrap_in (by omega)];cases h:Uu EJ l[k]==[]with
  |true=>rfl
  |false=>rw[Aa,Aw (by simp only[Af];unfold lim;omega)];rfl) (λacc a=>by rw[LM];rw[A2];rfl),obs,pH]
 cases h:l.any λr=>Uu EJ r==[]with
 |true=>rfl
 |false=>simp only[Ca,Dz];rw[tM (L:=42) (λw c=>by obtain⟨x,f,rfl⟩:=Bq.1 c;have:=ja x;simp only[Af];omega) (by rw[Am];unfold lim;omega) (by rw[Am];unfold lim;omega),obs]
def yK{l}(n:l.length<=1048577):KN l=some (Xe EJ l):=by
 unfold KN Xe
 have c:∀(d k f:Nat),k+d=l.length->d < f->Aq (Gv l) f (EV [32]<|(l.map<|Uu EJ).take k,(k:Int))=some (if(l.drop k).any (λr=>Uu EJ r==[])=true then .inr []else .inl (EV [32]<|l.map<|Uu EJ)):=by
  intro d;induction d with
  |zero=>
   intro k f g i;obtain rfl:k=l.length:=by omega
   cases f with
   |zero=>omega
   |succ f=>rw[A6,Gv];rw[A2,Aa,CJ,DJ (by simp)];rfl
  |succ d b=>
   intro k f g i;have a:k < l.length:=by omega
   have e:k < (l.map<|Uu EJ).length:=by simpa using a
   cases f with
   |zero=>omega
   |succ f=>
    have j:=VA [32] 42 ((l.map (Uu EJ)).take k) (λw m=>by obtain⟨x,o,rfl⟩:=Bq.1<|C5 m;have:=ja x;simp only[Af];omega);rw[Av,Ce (by omega)]at j;have p:=ja l[k];have b:=b (k+1) f (by omega) (by omega);rw[A7 e,bh,Av,Ce (by omega),BO]at b;rw[A6,Gv];rw[Bc a,Ab,AG a,obs,vC,obs,AS a,Ft];cases h:Uu EJ l[k]==[]with
    |true=>rfl
    |false=>
     rw[Aa,CH];by_cases q:0 < k
     ·rw[As (by omega)]at b;rw[Ae (by omega:(0:Int) < (k:Int)),Ab,Aw (by simp only[Af];unfold lim;omega),Gw,Aw (by rw[Ak];simp only[Af];unfold lim;omega),wrap_in (by omega)];exact b
     ·obtain rfl:k=0:=by omega
      rw[At rfl]at b;rw[Ac (by simp),Aa,Gw,Aw (by simp[EV];unfold lim;omega),wrap_in (by omega)];exact b
 have:=c l.length 0 fz (by omega)<|EC<|by unfold lim;omega
 rw[show((([]:zU),(0:Int)))=(EV [32]<|(l.map<|Uu EJ).take 0,((0:Nat):Int))from rfl,this,obs,Cj];cases l.any λr=>Uu EJ r==[]<;>rfl
def gr(b:UInt8):(((List.range 5).filter λv:Nat=>nameB (v:Int)==[b]).map λv:Nat=>(v:Int))=(YP b).toList:=by
 rw[show List.range 5=[0,1,2,3,4]from rfl];have h:nameB ((0:Nat):Int)=[88]:=rfl;have i:nameB ((1:Nat):Int)=[89]:=rfl;have e2:nameB ((2:Nat):Int)=[90]:=rfl;have j:nameB ((3:Nat):Int)=[85]:=rfl;have k:nameB ((4:Nat):Int)=[86]:=rfl;simp only[EQ,NG,h,i,e2,j,k];unfold YP;by_cases a:b=88
 ·subst a;rfl
 by_cases c:b=89
 ·subst c;rfl
 by_cases d:b=90
 ·subst d;rfl
 by_cases f:b=85
 ·subst f;rfl
 by_cases g:b=86
 ·subst g;rfl
 have n:∀x:UInt8,b≠x->(([x]:zU)==[b])=false:=λx l=>by simp;exactλe=>l e.symm
 rw[n _ a,n _ c,n _ d,n _ f,n _ g,As a,As c,As d,As f,As g];rfl
def uU{s:zU}{i:Nat}(h:i < s.length):(s.take<|i+1).drop i=[s[i]]:=by rw[bH (Bb i) h,eY];rfl
def yL{s:zU}{i:Nat}(hi:i < s.length)(d:s.length<=1048576){acc:zI}(e:acc.length<=10000000):Aq (Mi s (i:Int)) fz (acc,0)=some (acc++(YP s[i]).toList):=by
 have b:wZ ((i:Int)+1)=((i+1:Nat):Int):=by rw[wrap_in (by omega)];simp
 have:=DQ (body:=Mi s (i:Int)) (out:=acc++(YP s[i]).toList) (λk=>(acc++((List.range k).filter λv:Nat=>nameB (v:Int)==[s[i]]).map (λv:Nat=>(v:Int)),(k:Int))) 5 (λk f c=>by
  have a:(((List.range k).filter λv:Nat=>nameB (v:Int)==[s[i]]).map λv:Nat=>(v:Int)).length<=k:=by rw[Am];have:=Ey (λv:Nat=>nameB (v:Int)==[s[i]])<|List.range k;rwa [DG]at this
  rw[Mi];rw[Ae (by omega:(k:Int) < 5),Ab,qr,obs,b,Aw (by omega),X6,uU hi,Ib,Gn,BM];cases h:nameB (k:Int)==[s[i]]with
  |true=>rw[Ab,Aw (by simp only[Ak,Af]at a⊢;unfold lim;omega),Om,wrap_in (by omega)];simp[EQ,h]
  |false=>rw[Aa,Om,wrap_in (by omega)];simp[EQ,h]) (λrec=>by rw[Mi];rw[Ac (by omega),Aa,gr]) fz (by unfold fz;omega)
 simpa using this
def uy(s:zU):(lsB s).length<=s.length:=List.length_filterMap_le _ _
def Aec{s}(b:s.length<=1048576):Qd s=some (lsB s):=by
 unfold Qd
 have:=DQ (body:=Q8 s) (out:=lsB s) (λk=>(lsB (s.take k),(k:Int))) s.length (λk a c=>by
  have d:=uy<|s.take k;rw[Av]at d;rw[Q8];rw[Bc a,Ab,yL a b (by omega),obs,wrap_in (by omega)];have e:lsB (s.take<|k+1)=lsB (s.take k)++(YP s[k]).toList:=by unfold lsB;rw[A7 a,List.filterMap_append];cases h:YP s[k]<;>simp[h]
  rw[e];simp) (λrec=>by rw[Q8];rw[A2,Bl];rfl) fz (EC (by unfold lim;omega))
 rw[show((([]:zI),(0:Int)))=(lsB<|s.take 0,((0:Nat):Int))from rfl,this];rfl
def xy{s:zU}{i:Nat}(hi:i < s.length)(g:s.length<=1048576):Aq (Hl s (i:Int)) fz (-1,0)=some ((YP s[i]).getD (-1)):=by
 have b:wZ ((i:Int)+1)=((i+1:Nat):Int):=by rw[wrap_in (by omega)];simp
 have c:∀k:Nat,((List.range<|k+1).filter λv:Nat=>nameB (v:Int)==[s[i]]).getLast?.elim (-1:Int) (λv:Nat=>(v:Int))=cond (nameB (k:Int)==[s[i]]) (k:Int) (((List.range k).filter λv:Nat=>nameB (v:Int)==[s[i]]).getLast?.elim (-1:Int) (λv:Nat=>(v:Int))):=by intro k;rw[Ib,Gn];cases h:nameB (k:Int)==[s[i]]<;>simp[EQ,h]
 have:=DQ (body:=Hl s (i:Int)) (out:=(YP s[i]).getD (-1)) (λk=>(((List.range k).filter λv:Nat=>nameB (v:Int)==[s[i]]).getLast?.elim (-1:Int) (λv:Nat=>(v:Int)),(k:Int))) 5 (λk j d=>by
  rw[Hl];rw[Ae (by omega:(k:Int) < 5),Ab,pr,obs,b,Aw (by omega),X6,uU hi,c k];cases h:nameB (k:Int)==[s[i]]with
  |true=>rw[Ab,Ab,Jm,wrap_in (by omega)];rfl
  |false=>rw[Aa,Aa,Jm,wrap_in (by omega)];rfl) (λrec=>by
   have a:=gr s[i]
   have e:(((List.range 5).filter λv:Nat=>nameB (v:Int)==[s[i]]).getLast?.elim (-1:Int) (λv:Nat=>(v:Int)))=(YP s[i]).getD (-1):=by
    have f:∀l:zN,l.getLast?.elim (-1:Int) (λv:Nat=>(v:Int))=(l.map λv:Nat=>(v:Int)).getLast?.getD (-1):=by intro l;rw[List.getLast?_map];cases l.getLast?<;>rfl
    rw[f,a];cases YP s[i]<;>rfl
   rw[Hl];rw[Ac (by omega),Aa,e]) fz (by unfold fz;omega)
 exact this
def AdV:Option zI->zI×Bool
 |some v=>(v,true)
 |none=>([],false)
def AdU{b v}(h:YP b=some v):0<=v:=by rcases en h with h|h|h|h|h<;>omega
def pn{s}(b:s.length<=1048576):∀(d i:Nat) (acc:zI) (f:Nat),i+d+1=s.length->acc.length<=i->d < f->
  Aq (MA s) f (acc,(i:Int))=some (match NP YP ((s.take (s.length - 1)).drop i)with
   |some c=>.inl<|acc++c
   |none=>.inr ([],false))
 |d,i,acc,0,_,_,a=>absurd a (by omega)
 |0,i,acc,f+1,hi,g,a=>by rw[A6,MA];rw[wrap_in (by omega),Ac (by omega),Aa,List.drop_eq_nil_of_le (by rw[Av];omega)];simp[NP]
 |d+1,i,acc,f+1,hi,g,a=>by
  have j:i < s.length:=by omega
  rw[A6,MA];rw[wrap_in (by omega),Ae (by omega),Ab,xy j b,obs];have k:i < (s.take<|s.length - 1).length:=by rw[Av];omega
  have e:(s.take<|s.length - 1)[i]=s[i]:=by rw[Iw]
  rw[AS k,NP,e];cases h:YP s[i]with
  |none=>rfl
  |some v=>
   have l:=AdU h;show cond (decide (v < 0)) _ _=_;rw[Ac (by omega),Aa,Aw (by simp only[Af];unfold lim;omega),wrap_in (by omega),show((i:Int)+1)=((i+1:Nat):Int)by simp,pn b d (i+1) (acc++[_]) f (by omega) (by simp;omega) (by omega)];simp only[BQ];cases NP YP ((s.take<|s.length - 1).drop<|i+1)with
   |none=>rfl
   |some c=>simp
def tR{s}(j:s.length<=1048576):PA s=some (AdV<|pnB s):=by
 unfold PA;cases s with
 |nil=>rfl
 |cons b q=>
  rw[pnB];cases q with
  |nil=>rw[Ae (by simp),Ab,As (by simp)];rfl
  |cons b2 q=>
   have f:(List.length (b::b2::q):Int)=((q.length+2:Nat):Int):=by simp only[Ar]
   rw[f,Ac (by omega),Aa,show AF (b::b2::q) 0=some b from rfl,obs,wrap_in (by simp only[Ar]at j;omega)];rw[show(((q.length+2:Nat):Int) - 1)=((q.length+1:Nat):Int)by omega,AG (by simp),obs];have k:((b.toNat:Int)!=40)= !decide (b=40):=by rw[bne,Zb (c:=40) (a:=40) rfl]
   have d:(b2::q).getLast?=some (b::b2::q)[q.length+1]:=by rw[IOQ,show(b2::q).length - 1=q.length by simp,Ah (by simp)];rfl
   have l:(((b::b2::q)[q.length+1].toNat:Int)!=41)= !decide ((b::b2::q)[q.length+1]=41):=by rw[bne,Zb (c:=41) (a:=41) rfl]
   rw[k,l,d];by_cases g:b=40
   ·by_cases i:(b::b2::q)[q.length+1]=41
    ·rw[Ae g,Ae i,Ai,Aa,Aa,At ⟨g,by rw[i]⟩,show(([]:zI),(1:Int))=([],((1:Nat):Int))from rfl,pn j q.length 1 [] fz (by simp only[Ar];omega) (by simp) (by simp only[Ar]at j;unfold fz;omega),obs];have e:((b::b2::q).take<|(b::b2::q).length - 1).drop 1=(b2::q).dropLast:=by rw[List.dropLast_eq_take];simp only[Ar,N6,Dx,Nq,Cj]
     rw[e];cases NP YP (b2::q).dropLast<;>rfl
    ·rw[Ae g,Ac i,Ai,BT,Aa,Ab,As (by simp only[Ay];exactλh=>i h.2)];rfl
   ·rw[Ac g,BT,Ab,As (λh=>g h.1)];rfl
def ee(o:zI):(Js o).length<=o.length:=Tt o
def jb{l n}(b:l.length<=n):(Xe EJ l).length<=n * 42:=by
 unfold Xe;split
 ·simp
 ·refine BH (VA [32] 42 _<|λw a=>?_) ?_
  ·obtain⟨x,c,rfl⟩:=Bq.1 a;have:=ja x;simp only[Af];omega
  ·rw[Am];omega
def dW{l n}(c:l.length<=n)(h:∀x∈l,Y4 x):(Xk [32] l).length<=n * 21:=by
 unfold Xk;refine BH (VA [32] 21 _<|λw a=>?_) ?_
 ·obtain⟨x,b,rfl⟩:=Bq.1 a;have:=HB<|h x b;simp only[Af];omega
 ·rw[Am];omega
def i8(c:Ur):Prop:=c.1.length<=1048577∧c.2.1.length<=1048577∧c.2.2.1.length<=1048577∧(∀x∈c.2.2.1,Y4 x)∧Y4 c.2.2.2.1∧Y4 c.2.2.2.2
def jW{c}(h:i8 c):Fz c=some (cB EJ c):=by
 have⟨j,k,m,e,f,g⟩:=h;unfold Fz cB;by_cases b1:5 < c.1.length
 ·rw[Ae (by omega),Ab,At (.inl b1)]
 by_cases b2:4 < c.2.1.length
 ·rw[Ac (by omega),Aa,Ae (by omega),Ab,At (.inr<|.inl b2)]
 by_cases d:4 < c.2.2.1.length
 ·rw[Ac (by omega),Aa,Ac (by omega),Aa,Ae (by omega),Ab,At (.inr<|.inr<|.inl d)]
 rw[Ac (by omega),Aa,Ac (by omega),Aa,Ac (by omega),Aa,yK (by omega),obs,PC]
 have i:∀x,FL c (Xe EJ c.2.1) x=some (if x=true then []else EV [59] (P1 EJ c)):=by
  intro x;have o:=ee c.1;have p:=jb (l:=c.2.1) (n:=4) (by omega);have q:=dW (l:=c.2.2.1) (n:=4) (by omega) e;have r:=HB f;have s:=HB g;unfold FL;cases x with
  |true=>rfl
  |false=>
   rw[Aa,Ael (by unfold lim;omega),obs,Aea (by omega) e,X5 f,X5 g,obs,obs,obs]
   repeat rw[Aw (by simp only[Ak,Ar,Bw];unfold lim;omega)]
   simp[P1,EV]
 by_cases a:Xe EJ c.2.1=[]
 ·rw[Ae a,Ab,i];congr 1;by_cases b:c.2.1=[]
  ·rw[As (by rw[b];simp),As (by simp only[Fn,not_and];exact⟨b1,b2,d,λ_ h=>h b⟩)]
  ·have:0 < c.2.1.length:=Hc.2 b;rw[At (by simp;omega),At (.inr<|.inr<|.inr ⟨a,b⟩)]
 ·rw[Ac a,Aa,i,As (by simp),As (by simp only[Fn,not_and];exact⟨b1,b2,d,λh=>absurd h a⟩)]
def jj{c}(h:i8 c):Ds c=some (cB EJ c):=by
 have⟨k,j,m,e,f,g⟩:=h;unfold Ds cB;rw[xx j,obs];by_cases b1:5 < c.1.length
 ·rw[Ae (by omega),Ab,At (.inl b1)];rfl
 by_cases b2:4 < c.2.1.length
 ·rw[Ac (by omega),Aa,Ae (by omega),Ab,At (.inr<|.inl b2)];rfl
 by_cases d:4 < c.2.2.1.length
 ·rw[Ac (by omega),Aa,Ac (by omega),Aa,Ae (by omega),Ab,At (.inr<|.inr<|.inl d)];rfl
 rw[Ac (by omega),Aa,Ac (by omega),Aa,Ac (by omega),Aa,PC]
 have i:∀x,DB c (Xe EJ c.2.1) x=some (if x=true then []else EV [59] (P1 EJ c)):=by
  intro x;have o:=ee c.1;have p:=jb (l:=c.2.1) (n:=4) (by omega);have q:=dW (l:=c.2.2.1) (n:=4) (by omega) e;have r:=HB f;have s:=HB g;unfold DB;cases x with
  |true=>rfl
  |false=>
   rw[Aa,xB (by unfold lim;omega),obs,xw (by omega) e,ln f,ln g,obs,obs,obs]
   repeat rw[Aw (by simp only[Ak,Ar,Bw];unfold lim;omega)]
   simp[P1,EV]
 by_cases a:Xe EJ c.2.1=[]
 ·rw[Ae a,Ab,i];congr 1;by_cases b:c.2.1=[]
  ·rw[As (by rw[b];simp),As (by simp only[Fn,not_and];exact⟨b1,b2,d,λ_ h=>h b⟩)]
  ·have:0 < c.2.1.length:=Hc.2 b;rw[At (by simp;omega),At (.inr<|.inr<|.inr ⟨a,b⟩)]
 ·rw[Ac a,Aa,i,As (by simp),As (by simp only[Fn,not_and];exact⟨b1,b2,d,λh=>absurd h a⟩)]
def lN:Option Ur->Ur×Bool
 |some v=>(v,true)
 |none=>(([],[],[],0,0),false)
def t6(s:zU):Y4 (TT s):=by have:=Abn s;unfold Y4;omega
def vZ{s}:∀x∈fx s,Y4 x:=by
 intro x a;unfold fx at a;split at a
 ·simp at a
 ·obtain⟨w,_,rfl⟩:=Bq.1 a;exact t6 w
def r8{s}(a:s.length<=1048576):(fx s).length<=1048577:=by
 unfold fx;split
 ·simp
 ·rw[Am];exact(S3 32 a).1
def vm{s}(a:s.length<=1048576):((Re EJ s).getD []).length<=1048577:=by
 cases h:Re EJ s with
 |none=>simp
 |some r=>
  unfold Re at h;split at h
  ·injection h with h;subst h;simp
  ·have:=lL h;have:=(S3 32 a).1;simp;omega
def tp{p0 p1 p2 p3 p4}(l0:p0.length<=1048576)(a:p1.length<=1048576)(b:p2.length<=1048576):i8 (lsB p0,(Re EJ p1).getD [],fx p2,TT p3,TT p4):=
 ⟨by have:=uy p0;simp only;omega,vm a,r8 b,vZ,t6 p3,t6 p4⟩
def Aac{S o q sz a b}(h:i8 (o,q.1,sz,a,b)):FV S o a b q sz=some (lN (if cB EJ (o,q.1,sz,a,b)=S then some (o,q.1,sz,a,b)else none)):=by
 unfold FV;rw[jW h,obs];by_cases c:cB EJ (o,q.1,sz,a,b)=S
 ·rw[At c,c,BP];rfl
 ·rw[As c,show(cB EJ (o,q.1,sz,a,b)==S)=false by simp[c]];rfl
def tD(r:Option (List<|Int×Int)):(uT r).1=r.getD []:=by cases r<;>rfl
def Ajg{S}(g:S.length<=1048576):JW S=some (lN<|mo EJ S):=by
 unfold JW mo;rw[vz 59 (a:=59) rfl g,obs];have b:=(S3 59 g).2;generalize FQ 59 S=ws at b
 match ws,b with
 |[p0,p1,p2,p3,p4],b=>
  have l0:=b p0 (by simp);have i:=b p1 (by simp);have f:=b p2 (by simp);rw[show(((List.length [p0,p1,p2,p3,p4]:Nat):Int)!=5)=false from rfl,Aa];rw[show AF [p0,p1,p2,p3,p4] 0=some p0 from rfl,show AF [p0,p1,p2,p3,p4] 1=some p1 from rfl,show AF [p0,p1,p2,p3,p4] 2=some p2 from rfl,show AF [p0,p1,p2,p3,p4] 3=some p3 from rfl,show AF [p0,p1,p2,p3,p4] 4=some p4 from rfl];simp only[obs];rw[Aec l0,ig,ig,yP i];simp only[obs];rw[PC];have c:=tp (p3:=p3) (p4:=p4) l0 i f;by_cases d:p2=[]
  ·have e:fx p2=[]:=by unfold fx;rw[At d]
   rw[Ae d,Ai,Aa];rw[<-tD,e]at c⊢;exact Aac c
  ·have e:fx p2=(FQ 32 p2).map TT:=by unfold fx;rw[As d]
   have l:=(S3 32 f).1;rw[Ac d,BT,Ab,vz 32 (a:=32) rfl f,obs];rw[Jo (a:=FQ 32 p2) (h:=TT) (by unfold lim;omega) (λk j k=>by rw[Li];rw[Bc j,AG j,wrap_in (by omega),Ab,obs,ig,obs,Aw (by simp only[Am,Av,Af];unfold lim;omega)];rfl) (λrec y=>by rw[Li];rw[A2];rfl),obs,<-e];rw[<-tD]at c⊢;exact Aac c
 |[],_=>rfl
 |[_],_=>rfl
 |[_,_],_=>rfl
 |[_,_,_],_=>rfl
 |[_,_,_,_],_=>rfl
 |_::_::_::_::_::_::ws,_=>rw[show(((List.length (_::_::_::_::_::_::ws):Nat):Int)!=5)=true by simp only[Ar];rw[CY];omega];rfl
end Go.Proofs.YtpnoalhfjnjeaaaGreatDoor
