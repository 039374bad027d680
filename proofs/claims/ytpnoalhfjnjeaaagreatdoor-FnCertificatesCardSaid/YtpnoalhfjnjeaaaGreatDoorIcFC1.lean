/- Tries of a query's atoms, and their children: the reference and the program agree. On the printed functions; conditions: the query fits. -/
import Derived.Test.YtpnoalhfjnjeaaaGreatDoorAbFC1
open Go.RowKit
set_option linter.all false
namespace Go.Proofs.YtpnoalhfjnjeaaaGreatDoor
def el:∀{l m:zI},l.Nodup->(∀x∈l,x∈m)->l.length<=m.length
 |[],m,_,_=>by simp
 |x::l,m,a,h=>by
  have c:=h x (by simp);rw[BF]at a
  have f:=el (l:=l) (m:=m.erase x) a.2 (λy d=>by
   have b:y≠x:=λe=>by subst e;exact a.1 d
   exact(List.mem_erase_of_ne b).2 (h y (by simp[d])))
  have g:=List.length_erase_of_mem c;have i:0 < m.length:=List.length_pos_of_mem c;rw[Ar];omega
def Aen{n}(p:1<=n∧n<=5){l:zI}(h:BL l (In n l)=false):l.Nodup∧∀e∈l,0<=e∧e < n:=by
 have d:wZ (n - 1)=n - 1:=wrap_in (by omega);constructor
 ·rw[Cv,Cn];intro i j hi f g a;have b:=HA h f;unfold In at b;simp only[Cp]at b;have c:=b.2;have m:(l.take j).contains l[j]=true:=by rw[Bk,Br];exact⟨i,by rw[Av];omega,by rw[Iw];exact a⟩
  rw[m]at c;cases c
 ·intro e a;obtain⟨k,o,rfl⟩:=Br.1 a;have:=HA h o;unfold In FX at this;simp only[Cp,CK,Ad,Bu,d]at this;omega
def vW{m}(a:0<=m∧m<=5){l:zI}(b:l.Nodup)(d:∀e∈l,0<=e∧e < m):BL l (In m l)=false:=Tq λi hi=>by have g:=d _<|Aj hi;unfold In FX;rw[wrap_in (by omega),Cp];refine⟨by simp;omega,?_⟩;rw[<-Hn,Bk];intro a;have⟨j,f,c⟩:=Br.1 a;rw[Av]at f;rw[Iw]at c;rw[Cv,Cn]at b;exact b j i (by omega) hi (by omega) c
def sC(a:R9):(Sv a 5).Nodup:=by unfold Sv;rw[Cv,E4];have h:((List.range 5).filter λ(v:Nat)=>a.2.contains (v:Int)).Nodup:=List.Nodup.sublist List.filter_sublist F4;rw[Cv]at h;exact h.imp λh e=>h (by omega)
def LD{q o}(h:Un q o=true):(o.length:Int)=q.1∧o.Nodup∧(∀v∈o,0<=v∧v < q.1)∧∀v:Int,0<=v->v < q.1->v∈o:=by
 unfold Un at h;simp only[Ad,AY,BK]at h;have d:=T0 h.1;have a:=Aen d h.2.2;refine⟨h.2.1,a.1,a.2,λv f g=>?_⟩;apply Bv;intro b
 have:=few q.1.toNat (v::o) (BF.2 ⟨b,a.1⟩) (λe c=>by
  rcases AA.1 c with rfl|c
  ·omega
  ·have:=a.2 e c;omega)
 rw[Ar]at this;have:=h.2.1;omega
def O1(V o:zI):Nat->zI
 |0=>[]
 |k+1=>O1 V o k++cond (decide (0<=GG V (Qi o (k:Int)))&& !(O1 V o k).contains (GG V<|Qi o (k:Int))) [GG V (Qi o (k:Int))] []
def dp(V o:zI):∀k,(O1 V o k).length<=k
 |0=>by simp[O1]
 |k+1=>by
  have:=dp V o k;rw[O1,Ak];cases decide (0<=GG V (Qi o (k:Int)))&& !(O1 V o k).contains (GG V<|Qi o (k:Int))
  ·rw[Aa,Bw];omega
  ·rw[Ab,Af];omega
def cx(V o:zI):∀k,(O1 V o k).Nodup
 |0=>AR
 |k+1=>by
  rw[O1];cases a:decide (0<=GG V (Qi o (k:Int)))&& !(O1 V o k).contains (GG V<|Qi o (k:Int))with
  |false=>rw[Aa,AN];exact cx V o k
  |true=>rw[Ad,AY]at a;rw[Ab];refine Ax.2 ⟨cx V o k,by simp,λx c y b e=>?_⟩;simp only[AU]at b;subst e b;have:=a.2;rw[<-Hn,Bk]at this;exact this c
def vb{l v}(h:0<=GG l v):GG l v < (l.length:Int)∧l.contains v=true:=by
 have a:l.contains v=true:=by rw[<-Tv];exact Ae h
 have⟨k,b,c,_⟩:=VG a;exact⟨by omega,a⟩
def iR(V o:zI):∀k,∀x∈O1 V o k,0<=x∧x < (V.length:Int)
 |0,x,h=>by cases h
 |k+1,x,h=>by
  rw[O1]at h;rcases Al.1 h with h|h
  ·exact iR V o k x h
  ·cases a:decide (0<=GG V (Qi o (k:Int)))&& !(O1 V o k).contains (GG V<|Qi o (k:Int))with
   |false=>rw[a]at h;cases h
   |true=>rw[a,Ab,AU]at h;rw[Ad,Bu]at a;subst h;exact⟨a.1,(vb a.1).1⟩
def oF(V o:zI){x:Int}:∀{d i:Nat},x∈O1 V o i->x∈O1 V o (i+d)
 |0,_,h=>h
 |d+1,i,h=>by rw[show i+(d+1)=(i+d)+1 by omega,O1];exact Az _<|oF V o h
def sS{V o}(b:V.Nodup){j i:Nat}(c:j < V.length)(hi:i < o.length)(f:o[i]=V[j]):(j:Int)∈O1 V o o.length:=by
 have k:V.contains o[i]=true:=by rw[Bk,f];exact Aj c
 have⟨p,g,l,e2⟩:=VG k
 have e:p=j:=by
  apply Bv;intro m;rw[Cv,Cn]at b;rw[f]at e2;rcases Bi p j with h|h
  ·exact b p j g c h e2
  ·exact b j p c g (by omega) e2.symm
 have a:(j:Int)∈O1 V o (i+1):=by
  rw[O1,HZ hi,l,e];rw[Ae (by omega:(0:Int)<=(j:Int)),AK];cases n:(O1 V o i).contains (j:Int)with
  |true=>exact Az _<|Bk.1 n
  |false=>exact Au _ (by simp)
 have:=oF V o (d:=o.length - (i+1)) a
 rwa [show i+1+(o.length - (i+1))=o.length by omega]at this
def re{V o}(b:V.Nodup)(h:∀v∈V,v∈o):(O1 V o o.length).length=V.length:=by
 have g:=few V.length (O1 V o o.length) (cx V o _)<|iR V o _
 have c:((List.range V.length).map λ(j:Nat)=>(j:Int)).length<=(O1 V o o.length).length:=by
  refine el ?_ ?_
  ·rw[Cv,E4];have h:=F4 (n:=V.length);rw[Cv]at h;exact h.imp λh e=>h (by omega)
  ·intro x d;obtain⟨j,a,rfl⟩:=Bq.1 d;have a:=AQ.1 a;have⟨i,hi,f⟩:=Br.1<|h _<|Aj a;exact sS b a hi f
 rw[Am,DG]at c;omega
def iQ(a:R9)(o:zI):zI:=O1 (Sv a 5) o o.length
def AhT{a o}(g:SK a)(i:o.length<=5):KK a o=some (iQ a o):=by
 have e:a.2.length<=lim:=by have:=g.1;unfold lim;omega
 have h:=S0 a 5;unfold KK;rw[AhS e,Bo]
 have:=DQ (body:=Fe o (Sv a 5)) (out:=iQ a o) (λk=>(O1 (Sv a 5) o k,(k:Int))) o.length (λk c d=>by
  have j:=dp (Sv a 5) o k
  have f:∀(v:Int) (b:Bool),Gt d (O1 (Sv a 5) o k) (k:Int) v b=d (O1 (Sv a 5) o k++cond b [v] [],((k+1:Nat):Int)):=λv b=>by
   rw[Gt];cases b with
   |true=>rw[Ab,Aw (by simp only[Af];unfold lim;omega),Gu,Bm c (by unfold maxLen;omega)];rfl
   |false=>rw[Aa,Gu,Bm c (by unfold maxLen;omega),Aa,AN]
  rw[Fe,O1];rw[Bc c,AG c,Ab,Bo,YT (by unfold lim;omega),Bo,HZ c];cases l:decide (0<=GG (Sv a 5) o[k])with
  |true=>rw[Ab,YT (by unfold lim;omega),Bo,tn,f,AK]
  |false=>rw[Aa,f,Hm]) (λrec=>by rw[Fe];rw[A2];rfl) fz (EC (by unfold lim;omega))
 rw[show((([]:zI),(0:Int)))=(O1 (Sv a 5) o 0,((0:Nat):Int))from rfl,this];rfl
def AfI{a o}(g:SK a)(i:o.length<=5):Kl a o=some (iQ a o):=by
 have c:a.2.length<=lim:=by have:=g.1;unfold lim;omega
 have h:=S0 a 5;unfold Kl;rw[AfG c (λv=>ro c v),Bo]
 have:=DQ (body:=Fb o (Sv a 5)) (out:=iQ a o) (λk=>(O1 (Sv a 5) o k,(k:Int))) o.length (λk d e=>by
  have j:=dp (Sv a 5) o k
  have f:∀(v:Int) (b:Bool),Ga e (O1 (Sv a 5) o k) (k:Int) v b=e (O1 (Sv a 5) o k++cond b [v] [],((k+1:Nat):Int)):=λv b=>by
   rw[Ga];cases b with
   |true=>rw[Ab,Aw (by simp only[Af];unfold lim;omega),Gb,Bm d (by unfold maxLen;omega)];rfl
   |false=>rw[Aa,Gb,Bm d (by unfold maxLen;omega),Aa,AN]
  rw[Fb,O1];rw[Bc d,AG d,Ab,Bo,ni (by unfold lim;omega),Bo,HZ d];cases l:decide (0<=GG (Sv a 5) o[k])with
  |true=>rw[Ab,tL (by unfold lim;omega),Bo,f,AK]
  |false=>rw[Aa,f,Hm]) (λrec=>by rw[Fb];rw[A2];rfl) fz (EC (by unfold lim;omega))
 rw[show((([]:zI),(0:Int)))=(O1 (Sv a 5) o 0,((0:Nat):Int))from rfl,this];rfl
def hE(r:Int×List zI)(c:zI):Prop:=Rc r=true∧(c.length:Int)=r.1∧c.Nodup∧∀e∈c,0<=e∧e < r.1
def Yp(r:Int×List zI)(c:zI):Int×List zI:=((c.length:Int),sortB<|r.2.map λx=>VF x c)
def cJ{r c}(h:hE r c):Jw r.2∧c.length<=5∧(∀x∈r.2,∀e∈c,0<=e∧e < (x.length:Int))∧(∀x∈r.2.map λx=>VF x c,(x.length:Int)=(c.length:Int)∧Sw x=true)∧r.2.length<=4000:=by
 have⟨i,l,m,f⟩:=h;have a:=VJ i;refine⟨⟨by have:=a.2.2.1;unfold lim;omega,λx b=>by have:=(a.2.2.2 x b).1;unfold lim;omega⟩,by omega,λx b e d=>by have:=(a.2.2.2 x b).1;have:=f e d;omega,λy j=>?_,a.2.2.1⟩;obtain⟨x,b,rfl⟩:=Bq.1 j;refine⟨by unfold VF;rw[Am],sD λv g=>?_⟩;unfold VF at g;obtain⟨e,d,rfl⟩:=Bq.1 g;have n:=f e d;have k:=a.2.2.2 x b;have e2:e=((e.toNat:Nat):Int):=by omega
 rw[e2,HZ (by omega)];exact mJ k.2 (by omega)
def nO{r c}(h:hE r c):FX (c.length:Int) 0 5=true∧Jw (r.2.map λx=>VF x c):=by have⟨a,e,f,b,g⟩:=cJ h;refine⟨by unfold FX;simp;omega,by rw[Am];exact a.1,λx d=>by have:=(b x d).1;unfold lim;omega⟩
def Aej{r c}(h:hE r c):QU r c=some (Yp r c,true):=by
 have⟨g,v,m,o,p⟩:=cJ h;have⟨q,s⟩:=nO h;have⟨g1,g2,t,j⟩:=h;have w:=VJ g1
 have d:Aq (M3 r c) fz 0=some (.inl ()):=by
  have:=W1 (B:=M3 r c) (n:=c.length) (λ_=>false) ((0,[]),false) (by unfold lim;omega) (λk b i=>by
   have l:=j _<|Aj b;rw[M3];rw[Bc b,AG b,Ab,Bo,Jv,Bo,wrap_in (by omega),Bm b (by unfold maxLen;omega)];have:FX c[k] 0 (r.1 - 1)=true:=by unfold FX;simp;omega
   rw[this];rfl) (λrec=>by rw[M3];rw[A2];rfl)
  rw[this];have e:((List.range c.length).any λ_=>false)=false:=by rw[CD];intro _ _;simp
  rw[e];rfl
 have f:Aq (PG r c) fz (([]:List zI),0)=some (r.2.map λx=>VF x c):=
  Jo (a:=r.2) (h:=λx=>VF x c) g.1 (λk b i=>by rw[PG];rw[Bc b,AG b,Bm b (Ba g.1),Ab,Bo,Ad7 (by unfold lim;omega) (m _ (Aj b)),Bo,Aw (by simp only[Am,Av,Af];unfold lim;omega)]) (λrec y=>by rw[PG];rw[A2];rfl)
 have u:Tg r c=some (Yp r c,true):=by unfold Tg Yp;rw[d,Bo];simp only;rw[qp g,Bo,g1,Ai,Aa,Ac (by omega),Aa,f,Bo,yO s,Bo,uN q (by rw[Am];exact p) o]
 unfold QU;rw[vG (by unfold lim;omega),Bo,vW (by omega) t (λe l=>by have:=j e l;omega),Ae (by omega)];rw[show((c.length:Int)!=r.1)=false by rw[g2];simp,u];rfl
def Abh{r c}(h:hE r c):Qu r c=some (Yp r c,true):=by
 have⟨h1,h2,h3,h4,h5⟩:=cJ h;have⟨h6,h7⟩:=nO h;have⟨g1,g2,g3,g4⟩:=h;have hr:=VJ g1
 have hfit:Ik r.1 c=some true:=by
  by_cases h0:c.length=0
  ·have:c=[]:=Bf h0;subst this;unfold Ik;rw[Ac (by simp),Aa];have e:Aq (Hk r.1 []) fz 0=some (.inl ()):=DQ (body:=Hk r.1 []) (λ_=>(0:Int)) 0 (λk hk=>absurd hk<|by omega) (λrec=>by rw[Hk];rfl) fz (by unfold fz;omega);rw[e];rfl
  ·exact tG (by omega) h2 g4
 have hrows:Aq (Pt r c) fz (([]:List zI),0)=some (r.2.map λx=>VF x c):=
  Jo (a:=r.2) (h:=λx=>VF x c) h1.1 (λk hk rec=>by rw[Pt];rw[Bc hk,AG hk,Bm hk (Ba h1.1),Ab,Bo,tQ (by unfold lim;omega) (h3 _ (Aj hk)),Bo,Aw (by simp only[Am,Av,Af];unfold lim;omega)]) (λrec y=>by rw[Pt];rw[A2];rfl)
 have hp:S5 r c=some (Yp r c,true):=by unfold S5 Yp;rw[lp h1,Bo,g1,Ai,Aa,hfit,Bo,Ai,Aa,hrows,Bo,AiT h7,Bo,uN h6 (by rw[Am];exact h5) h4]
 unfold Qu PQ JM;rw[Ae (by omega),Ab,tZ (by unfold lim;omega),Bo,vW (by omega) g3 (λe he=>by have:=g4 e he;omega)];rw[show((c.length:Int)!=r.1)=false by rw[g2];simp,hp];rfl
def md{r c}(h:hE r c):Rc (Yp r c)=true∧(Yp r c).2.length<=r.2.length:=by
 have⟨d,e,f,a,b⟩:=cJ h;refine⟨eP (nO h).1 (by rw[Am];exact b) a,?_⟩;unfold Yp;have:=Ob<|r.2.map λx=>VF x c
 rw[Am]at this;exact this
def b8(d:List Tp)(o:zI)(a:R9):Int×List zI:=Yp (abB d a)<|iQ a o
def ct{d q o a}(h:GY q=true)(i:Un q o=true)(j:a∈q.2.1)(k:JH d a=true):SK a∧hE (abB d a) (iQ a o):=by
 have l:=YR h;have f:=l.2.2.2 a j;have c:SK a:=⟨f.1,λv g=>by have:=f.2 v g;omega⟩;have m:=LD i;have b:(iQ a o).length=(Sv a 5).length:=re (sC a) λv g=>by have n:=Yy.1 g;have:=f.2 v<|Bk.1 n.2;exact m.2.2.2 v this.1 this.2
 refine⟨c,(mF c k).1,?_,cx _ _ _,λe p=>?_⟩
 ·show((iQ a o).length:Int)=((Sv a 5).length:Int);rw[b]
 ·exact iR _ _ _ e p
def ic{d q}(h:Ju d q=true):GY q=true∧dbB d=true∧∀a∈q.2.1,JH d a=true:=by unfold Ju at h;simp only[Ad,AY]at h;refine⟨h.1,h.2.1,λa b=>?_⟩;obtain⟨k,c,rfl⟩:=Br.1 b;have:=HA h.2.2 c;simpa using this
def bJ(d:List Tp)(q:K8)(o:zI):List (Int×List zI)×Bool:=cond (Ju d q&&Un q o) (q.2.1.map<|b8 d o,true) ([],false)
def yV{d q o}(h:Up d)(i:T4 q)(l:o.length<=lim):PE d q o=some (bJ d q o):=by
 unfold PE bJ;rw[vJ h i,Bo];cases m:Ju d q with
 |false=>rfl
 |true=>
  rw[Ai,Aa,ql i l,Bo];cases c:Un q o with
  |false=>rfl
  |true=>
   have a:=ic m;have t:=YR a.1;have j:o.length<=5:=by have:=(LD c).1;omega
   rw[Ai,Aa];have:=AaB (v:=(([]:List (Int×List zI)),false)) (B:=MH d q o) (n:=q.2.1.length) (λk=>(q.2.1.take k).map (b8 d o)) (λ_=>false) i.1 (λk f p=>by have b:=Aj f;have⟨g,r⟩:=ct a.1 c b<|a.2.2 _ b;have s:=Aej r;rw[MH];rw[Bc f,AG f,Bm f (Ba i.1),Ab,Bo,AhO h g (a.2.2 _ b),Bo,Bo,AhT g j,Bo,s,Bo,Ai,Aa,Aw (by simp only[Am,Av,Af];unfold lim;omega),A7 f,BM];rfl) (λrec=>by rw[MH];rw[A2];rfl);have e:((List.range q.2.1.length).any λ_=>false)=false:=by rw[CD];intro _ _;simp
   rw[e,Bl]at this;rw[show((([]:List (Int×List zI)),(0:Int)))=((q.2.1.take 0).map<|b8 d o,0)from rfl,this];rfl
def xG{d q o}(h:Up d)(g:T4 q)(k:o.length<=lim):Pr d q o=some (bJ d q o):=by
 unfold Pr bJ;rw[tV h g,Bo];cases l:Ju d q with
 |false=>rfl
 |true=>
  rw[Ai,Aa,po g k,Bo];cases e:Un q o with
  |false=>rfl
  |true=>
   have b:=ic l;have r:=YR b.1;have j:o.length<=5:=by have:=(LD e).1;omega
   rw[Ai,Aa];rw[Jo (a:=q.2.1) (h:=b8 d o) g.1 (λk i m=>by have c:=Aj i;have⟨f,n⟩:=ct b.1 e c<|b.2.2 _ c;have p:=Abh n;rw[PP];rw[Bc i,AG i,Bm i (Ba g.1),Ab,Bo,AfA h f (b.2.2 _ c),Bo,AfI f j,Bo,p,Bo,Aw (by simp only[Am,Av,Af];unfold lim;omega)];rfl) (λrec y=>by rw[PP];rw[A2];rfl)];rfl
def fV(d:List Tp):Prop:=d.length<=6∧∀t∈d,t.1.length<=10∧Jw t.2.2
def fV.sm{d}(h:fV d):Up d:=⟨by have:=h.1;unfold lim;omega,λt a=>⟨by have:=(h.2 t a).1;unfold lim;omega,(h.2 t a).2⟩⟩
def DbD.any{d}(h:DbD d):fV d:=⟨by have:=h.1;omega,λt a=>by have⟨b,k,f,c,e⟩:=h.2 t a;exact⟨b,eT e c⟩⟩
section
variable {c:Cur}
def w6(h:EU c):Dr (Wz c) λd=>fV d:=by
 unfold Wz;have⟨d,I,y,⟨J,z⟩,j⟩:=zC h;have g:=z.any;rw[y];simp only[G];have⟨k,c2,e2,A,m⟩:=DT j (n:=5) (by omega) (by omega);rw[e2];simp only;have⟨w,K,B,_,a⟩:=DT m (n:=14) (by omega) (by omega);rw[B];simp only;have o:AF d k=some (d[k.toNat]'(by omega)):=by unfold AF;rw[At A.1,Ah]
 have p:=g.2 _<|Aj (by omega:k.toNat < d.length)
 have b:∀t:Tp,t.1.length<=10->Jw t.2.2->fV (CL d k t):=λt C D=>by
  refine⟨by unfold CL;rw[Bd];exact g.1,λx e=>?_⟩;unfold CL at e;rcases CG e with i|rfl
  ·exact g.2 x i
  ·exact⟨C,D⟩
 cases(w==0)with
 |true=>
  simp only[Ab];rw[Aw (by omega)];have⟨s,F,q,v,f⟩:=cK a (l:=[[],[82],[97,98,99,100,101],[97],[122]]) (by simp) (by simp);have u:s.length<=10:=by simp at v;rcases v with rfl|rfl|rfl|rfl|rfl<;>simp
  rw[q];simp only[o];exact⟨_,_,rfl,b _ u p.2,f⟩
 |false=>
  simp only[Aa];cases(w==1)with
  |true=>simp only[Ab];rw[Aw (by omega)];have⟨r,F,q,H,f⟩:=any_ok a;rw[q];simp only[o];exact⟨_,_,rfl,b _ p.1 H.sm,f⟩
  |false=>
   simp only[Aa];cases(w==2)with
   |true=>
    simp only[Ab,o];rw[Aw (by omega),Aw (by unfold lim;simp only[Af];omega)];refine⟨_,_,rfl,⟨by simp only[Ak,Af];omega,λx e=>?_⟩,a⟩;rcases Al.1 e with i|i
    ·exact g.2 x i
    ·rw[AU]at i;subst i;exact p
   |false=>
    simp only[Aa];cases(w==3)with
    |true=>
     simp only[Ab];rw[Aw (by omega)];refine⟨_,_,rfl,⟨?_,λx e=>?_⟩,a⟩
     ·unfold B5;rw[Be,Av];omega
     ·unfold B5 at e;exact g.2 x<|C5<|Fx e
    |false=>exact⟨_,_,rfl,g,a⟩
def both_ok(h:EU c):∃d q c',UN c=some (d,q,c')∧fV d∧AnyQ q∧EU c':=by
 unfold UN;have⟨d,x,r,⟨y,m⟩,g⟩:=zC h;rw[r];simp only[G];have⟨q,c2,e2,s,i⟩:=vi g;have f:AnyQ q:=by have⟨z,A,t,B,o,C⟩:=p7 s;exact⟨by omega,by omega,t,by omega,λa p=>⟨(o a p).1,(o a p).2.2⟩,by omega⟩
 rw[e2];simp only;have⟨w,D,u,_,b⟩:=DT i (n:=24) (by omega) (by omega);rw[u];simp only;cases(w==0)with
 |true=>simp only[Ab];have⟨F,v,j,k,e⟩:=w6 b;rw[j];exact⟨_,_,_,rfl,k,f,e⟩
 |false=>
  simp only[Aa];cases(w==1)with
  |true=>simp only[Ab];have⟨H,v,j,l,e⟩:=yt b;rw[j];exact⟨_,_,_,rfl,m.any,l,e⟩
  |false=>exact⟨_,_,_,rfl,m.any,f,b⟩
def xk{n:Int}{l:zI}(h:(l.length:Int) < n):∃v:Int,0<=v∧v < n∧v∉l:=by
 apply Bv;intro b;have a:∀v:Int,0<=v->v < n->v∈l:=λv d f=>by apply Bv;intro g;exact b ⟨v,d,f,g⟩
 have:=el (l:=(List.range n.toNat).map λ(k:Nat)=>(k:Int)) (m:=l) (by
  rw[Cv,E4];exact(Cv.1 F4).imp λh e=>h (Int.ofNat.inj e)) (λx i=>by
  obtain⟨k,j,rfl⟩:=Bq.1 i;have:=AQ.1 j;exact a _ (by omega) (by omega))
 rw[Am,DG]at this;omega
def step_ok{n y f l}(hn:n<=256)(hl:l.length<=lim)(hf:0<=f∧f < n∧f∉l)(hy:0<=y∧y < n):∃z,Aq (M5 n l) fz y=some z∧0<=z∧z < n∧z∉l:=by
 exact H9 (B:=M5 n l) (λy=>0<=y∧y < n) (λy=>(if y<=f then f - y else f - y+n).toNat) (λz=>0<=z∧z < n∧z∉l) (λy hy=>by
  have e:∀rec,M5 n l rec y=cond (l.contains y) (rec<|Int.tmod (y+1) n) (some y):=λrec=>by unfold M5;rw[YT hl];simp only[G];rw[Tv,Aw (by omega),wrap_in ⟨by omega,by omega⟩]
  cases hc:l.contains y with
  |false=>exact .inl ⟨y,⟨hy.1,hy.2,λhm=>by rw[Bk.2 hm]at hc;cases hc⟩,λrec=>by rw[e,hc];rfl⟩
  |true=>
   have hne:y≠f:=λh=>hf.2.2 (by rw[<-h];exact Bk.1 hc)
   have ht:Int.tmod (y+1) n=if y+1 < n then y+1 else 0:=by
    rw[D6 (by omega)];split
    ·exact Int.emod_eq_of_lt (by omega) (by omega)
    ·rw[show y+1=n by omega];exact Int.emod_self
   refine .inr ⟨Int.tmod (y+1) n,?_,?_,λrec=>by rw[e,hc];rfl⟩
   ·rw[ht];split<;>omega
   ·rw[ht];by_cases h1:y+1 < n
    ·rw[At h1];by_cases h2:y<=f
     ·rw[At h2,At (by omega)];omega
     ·rw[As h2,As (by omega)];omega
    ·rw[As h1,At hf.1,As (by omega)];omega) fz y hy (by unfold fz;split<;>omega)
def wY(h:EU c){n:Int}(w:0<=n)(g:n<=256):Dr (Ti c n) λl=>(l.length:Int)=n:=by
 unfold Ti
 obtain⟨o,e,j,k⟩:=H9 (B:=PI n) (λs=>EU (s.1,s.2.1,s.2.2.1)∧(s.2.2.2.length:Int)<=n) (λs=>(n - s.2.2.2.length).toNat) (λo=>EU (o.1,o.2.1,o.2.2.1)∧(o.2.2.2.length:Int)=n) (λs m=>by
  obtain⟨b,i,p,l⟩:=s;obtain⟨a,q⟩:=m;simp only at a q;by_cases d:(l.length:Int) < n
  ·right;obtain⟨v,c',e,r,t⟩:=DT a (n:=n) (by omega) g;obtain⟨f,u⟩:=xk d;obtain⟨z,e2,x⟩:=step_ok (l:=l) g (by unfold lim;omega) u r;refine⟨(c'.1,c'.2.1,c'.2.2,l++[z]),⟨t,?_⟩,?_,λrec=>?_⟩
   ·simp only[Ak,Af];omega
   ·simp only[Ak,Af];omega
   ·simp only[PI];rw[Ae d,e];simp only[Ab,G,e2];rw[Aw (by unfold lim;simp only[Af];omega)]
  ·left;refine⟨(b,i,p,l),⟨a,by simp only;omega⟩,λrec=>?_⟩;simp only[PI];rw[Ac d];rfl) fz (c.1,c.2.1,c.2.2,[]) ⟨h,by simp only[Bw];omega⟩ (by unfold fz;simp only[Bw];omega)
 rw[e];exact⟨_,_,rfl,k,j⟩
def AdX(h:EU c)(q:K8):Dr (R0 c q) λl=>l.length<=5:=by
 unfold R0
 have e:0<=(if 0 < (if q.1 < 5 then q.1 else 5)then(if q.1 < 5 then q.1 else 5)else 0)∧(if 0 < (if q.1 < 5 then q.1 else 5)then(if q.1 < 5 then q.1 else 5)else 0)<=5:=by
  split
  ·rename_i m;refine⟨by omega,?_⟩;split<;>omega
  ·omega
 generalize(if 0 < (if q.1 < 5 then q.1 else 5)then(if q.1 < 5 then q.1 else 5)else 0)=n at e⊢;have⟨l,o,g,p,a⟩:=wY h e.1 (by omega);rw[g];simp only[G];cases f:decide (0 < (l.length:Int))with
 |false=>exact⟨_,_,rfl,(by show l.length<=5;omega),a⟩
 |true=>
  have f:=GW f;simp only[Ab];have⟨w,c2,e2,_,b⟩:=XY a (n:=14) (by omega) (by omega);rw[e2];cases w with
  |false=>exact⟨_,_,rfl,(by show l.length<=5;omega),b⟩
  |true=>simp only[OG,Ab];have⟨v,r,i,_,d⟩:=DT b (n:=6) (by omega) (by omega);rw[Aw (by omega),i];have j:AF l 0=some (l[0]'(by omega)):=AG (k:=0) (by omega);simp only[G,j];exact⟨_,_,rfl,(by show(CL l 0 v).length<=5;unfold CL;rw[Bd];omega),d⟩
end
abbrev Rt:=Int×Int
def Afz{B}(i:∀c a b,B c (a,b)=cond (b !=0) (chk (b≠0)<|c (b,Int.tmod a b)) (some a)):
  ∀(k f m n:Nat),n < 2 ^ k->2 * k < f->Aq B f ((m:Int),(n:Int))=some ((Nat.gcd m n:Nat):Int):=by
 have e:∀(f m:Nat),0 < f->Aq B f ((m:Int),((0:Nat):Int))=some ((Nat.gcd m 0:Nat):Int):=λf m j=>by
  cases f with
  |zero=>omega
  |succ f=>rw[A6,i,Nat.gcd_zero_right];rfl
 have l:∀(f m n:Nat),0 < n->Aq B (f+1) ((m:Int),(n:Int))=Aq B f ((n:Int),((m % n:Nat):Int)):=λf m n h=>by rw[A6,i,show((n:Int)!=0)=true by rw[CY];omega,Ab,Aw (by omega)];rfl
 have o:∀m n:Nat,Nat.gcd m n=Nat.gcd n (m % n):=λm n=>by rw[Nat.gcd_comm m n,Nat.gcd_rec n m,Nat.gcd_comm]
 intro k;induction k with
 |zero=>
  intro f m n h j;obtain rfl:n=0:=by omega
  exact e f m (by omega)
 |succ k q=>
  intro f m n h j;rcases BD n with rfl|p
  ·exact e f m (by omega)
  ·obtain⟨f,rfl⟩:∃g,f=g+2:=⟨f - 2,by omega⟩;rw[l (f+1) m n p,o m n];rcases BD (m % n)with d|d
   ·rw[d];exact e _ n (by omega)
   ·rw[l f n (m % n) d,o n (m % n)];refine q f _ _ ?_ (by omega);have s:m % n < n:=QK _ p;have t:n % (m % n) < m % n:=QK _ d;rw[CX]at h;rcases Bi n (2 * (m % n))with r|r
    ·have u:n % (m % n)=n - m % n:=by rw[Nat.mod_eq_sub_mod (by omega),Dn (by omega)]
     omega
    ·omega
def vD(m n:Nat)(c:n < 2 ^ 62):Oi (m:Int) (n:Int)=some ((Nat.gcd m n:Nat):Int):=by unfold Oi;rw[Afz (λrec a b=>by simp only[R3]) 62 fz m n c (by unfold fz;omega),Bo]
def tJ(m n:Nat)(c:n < 2 ^ 62):Sh (m:Int) (n:Int)=some ((Nat.gcd m n:Nat):Int):=by unfold Sh;rw[Afz (λrec a b=>by simp only[Uz]) 62 fz m n c (by unfold fz;omega),Bo]
def I1(r:Rt):Bool:=FX r.2 1 1000000000&&(FX r.1 (-1000000000) 1000000000&&(((Nat.gcd r.1.natAbs r.2.natAbs:Nat):Int)==1))
def iz{a}(h:a.natAbs<=4000000000000000000):(if a < wZ (0 - a)then wZ (0 - a)else a)=(a.natAbs:Int):=by rw[wrap_in (by omega)];split<;>omega
def H0{x lo hi}:FX x lo hi=true↔lo<=x∧x<=hi:=by unfold FX;simp
def ST(r:Rt):BR r=some (I1 r):=by
 unfold BR I1;rw[Jv,Bo];cases b:FX r.2 1 1000000000 with
 |false=>rfl
 |true=>
  rw[Ab,Jv,Bo];cases c:FX r.1 (-1000000000) 1000000000 with
  |false=>rfl
  |true=>
   rw[H0]at c b;rw[Ab,iz (by omega)];have e:r.2=(r.2.natAbs:Int):=by omega
   have a:=vD r.1.natAbs r.2.natAbs (by omega);rw[<-e]at a;rw[a];rfl
def gq(r:Rt):CU r=some (I1 r):=by
 unfold CU I1;rw[FC,Bo];cases b:FX r.2 1 1000000000 with
 |false=>rfl
 |true=>
  rw[Ab,FC,Bo];cases c:FX r.1 (-1000000000) 1000000000 with
  |false=>rfl
  |true=>
   rw[H0]at c b;rw[Ab];unfold Vx;rw[iz (by omega),Bo];have e:r.2=(r.2.natAbs:Int):=by omega
   have a:=tJ r.1.natAbs r.2.natAbs (by omega);rw[<-e]at a;rw[a];rfl
def Kb{r}(h:I1 r=true):1<=r.2∧r.2<=1000000000∧r.1.natAbs<=1000000000∧Nat.gcd r.1.natAbs r.2.natAbs=1:=by unfold I1 at h;simp only[Ad,H0,BK]at h;exact⟨h.1.1,h.1.2,by omega,by omega⟩
def mg(n d:Int):Rt×Bool:=
 cond (I1 (n.tdiv (Nat.gcd n.natAbs d.natAbs:Nat),d.tdiv (Nat.gcd n.natAbs d.natAbs:Nat))) ((n.tdiv (Nat.gcd n.natAbs d.natAbs:Nat),d.tdiv (Nat.gcd n.natAbs d.natAbs:Nat)),true) ((0,0),false)
def rNew(n d:Int):Rt×Bool:=
 cond (d==0) ((0,0),false) (cond (FX n (-4000000000000000000) 4000000000000000000) (cond (FX d (-4000000000000000000) 4000000000000000000) (cond (decide (d < 0)) (mg (-n) (-d))<|mg n d) ((0,0),false)) ((0,0),false))
def cS{n:Int}{g:Nat}(h:n.natAbs<=4000000000000000000):wZ (n.tdiv (g:Int))=n.tdiv (g:Int):=by
 have:=show(n.tdiv (g:Int)).natAbs=n.natAbs / (g:Int).natAbs from Int.natAbs_tdiv n (g:Int)
 have a:n.natAbs / (g:Int).natAbs<=n.natAbs:=Nat.div_le_self _ _;rw[<-this]at a;exact wrap_in (by omega)
def Aaf{n d:Int}(a:n.natAbs<=4000000000000000000)(c:0 < d∧d<=4000000000000000000):IB n d=some (mg n d):=by
 unfold IB mg;have e:d=(d.natAbs:Int):=by omega
 have b:=vD n.natAbs d.natAbs (by omega);rw[<-e]at b;have f:0 < Nat.gcd n.natAbs d.natAbs:=Nat.gcd_pos_of_pos_right _ (by omega);rw[iz a,b,Bo,Aw (by omega),Aw (by omega),cS a,cS (by omega),ST,Bo];cases I1 (n.tdiv (Nat.gcd n.natAbs d.natAbs:Nat),d.tdiv (Nat.gcd n.natAbs d.natAbs:Nat))<;>rfl
def zJ{n d:Int}(a:n.natAbs<=4000000000000000000)(c:0 < d∧d<=4000000000000000000):Iu n d=some (mg n d):=by
 unfold Iu mg;have e:d=(d.natAbs:Int):=by omega
 have b:=tJ n.natAbs d.natAbs (by omega);rw[<-e]at b;have f:0 < Nat.gcd n.natAbs d.natAbs:=Nat.gcd_pos_of_pos_right _ (by omega);unfold Vx;rw[iz a,Bo,b,Bo,Aw (by omega),Aw (by omega),cS a,cS (by omega),gq,Bo];cases I1 (n.tdiv (Nat.gcd n.natAbs d.natAbs:Nat),d.tdiv (Nat.gcd n.natAbs d.natAbs:Nat))<;>rfl
def bz(n d:Int):FB n d=some (rNew n d):=by
 unfold FB rNew;have a:wZ (0 - 4000000000000000000)= -4000000000000000000:=by decide
 cases b:d==0 with
 |true=>rfl
 |false=>
  rw[BC]at b;rw[Aa,Aa,a,Jv,Bo];cases c:FX n (-4000000000000000000) 4000000000000000000 with
  |false=>rfl
  |true=>
   rw[Ai,Aa,Ab,Jv,Bo];cases e:FX d (-4000000000000000000) 4000000000000000000 with
   |false=>rfl
   |true=>
    rw[H0]at c e;rw[Ai,Aa,Ab];by_cases h:d < 0
    ·rw[Ae h,Ab,Ab,wrap_in (by omega),wrap_in (by omega),HO,HO];exact Aaf (by omega) (by omega)
    ·rw[Ac h,Aa,Aa];exact Aaf (by omega) (by omega)
def nk(n d:Int):I6 n d=some (rNew n d):=by
 unfold I6 rNew;cases a:d==0 with
 |true=>rfl
 |false=>
  rw[BC]at a;rw[Aa,Aa,FC,Bo];cases b:FX n (-4000000000000000000) 4000000000000000000 with
  |false=>rfl
  |true=>
   rw[Ai,Aa,Ab,FC,Bo];cases c:FX d (-4000000000000000000) 4000000000000000000 with
   |false=>rfl
   |true=>
    rw[H0]at b c;rw[Ai,Aa,Ab];by_cases h:d < 0
    ·rw[Ae h,Ab,Ab,wrap_in (by omega),wrap_in (by omega),HO,HO];exact zJ (by omega) (by omega)
    ·rw[Ac h,Aa,Aa];exact zJ (by omega) (by omega)
def wv{x y}(a:x.natAbs<=1000000000)(b:y.natAbs<=1000000000):wZ (x * y)=x * y∧(x * y).natAbs<=1000000000000000000:=by
 have h:(x * y).natAbs<=1000000000 * 1000000000:=by rw[Int.natAbs_mul];exact Fy a b
 exact⟨wrap_in (by omega),by omega⟩
def WT(a b:Rt):Rt×Bool:=cond (I1 a) (cond (I1 b) (rNew (a.1 * b.2+b.1 * a.2)<|a.2 * b.2) ((0,0),false)) ((0,0),false)
def MY(a b:Rt):Rt×Bool:=cond (I1 a) (cond (I1 b) (rNew (a.1 * b.1)<|a.2 * b.2) ((0,0),false)) ((0,0),false)
def Uo(a b:Rt):Rt×Bool:=cond (I1 a) (cond (I1 b) (rNew (a.1 * b.2)<|a.2 * b.1) ((0,0),false)) ((0,0),false)
def VI(a b:Rt):Rt×Bool:=cond (I1 b) (WT a (-b.1,b.2)) ((0,0),false)
def mf(a b:Rt):Int:=cond (I1 a) (cond (I1 b) (cond (decide (a.1 * b.2 < b.1 * a.2)) (-1)<|cond (decide (b.1 * a.2 < a.1 * b.2)) 1 0) 0) 0
def bZ{a b}(c:I1 a=true)(d:I1 b=true):wZ (a.1 * b.2)=a.1 * b.2∧wZ (b.1 * a.2)=b.1 * a.2∧wZ (a.2 * b.2)=a.2 * b.2∧wZ (a.1 * b.2+b.1 * a.2)=a.1 * b.2+b.1 * a.2∧wZ (a.1 * b.1)=a.1 * b.1∧wZ (a.2 * b.1)=a.2 * b.1:=by have g:=Kb c;have h:=Kb d;have e:=wv (x:=a.1) (y:=b.2) (by omega) (by omega);have f:=wv (x:=b.1) (y:=a.2) (by omega) (by omega);exact⟨e.1,f.1,(wv (by omega)<|by omega).1,wrap_in (by omega),(wv (by omega)<|by omega).1,(wv (by omega)<|by omega).1⟩
def ji(a b:Rt):Jj a b=some (I1 a&&I1 b):=by
 unfold Jj;rw[gq,Bo];cases I1 a with
 |false=>rfl
 |true=>rw[Ab,gq,Bo];rfl
def nX(a b:Rt):Jb a b=some (WT a b):=by
 unfold Jb WT;rw[ST,Bo];cases c:I1 a with
 |false=>rfl
 |true=>
  rw[Ai,Aa,Ab,ST,Bo];cases d:I1 b with
  |false=>rfl
  |true=>have⟨e,e2,f,g,h,i⟩:=bZ c d;rw[Ai,Aa,Ab,e,e2,f,g,bz];rfl
def jm(a b:Rt):I4 a b=some (WT a b):=by
 unfold I4 WT;rw[ji,Bo];cases c:I1 a with
 |false=>rfl
 |true=>
  cases d:I1 b with
  |false=>rfl
  |true=>have⟨e,e2,f,g,h,i⟩:=bZ c d;rw[FZ,Ai,Aa,Ab,Ab,e,e2,f,g,nk];rfl
def vM(a b:Rt):Mf a b=some (MY a b):=by
 unfold Mf MY;rw[ST,Bo];cases c:I1 a with
 |false=>rfl
 |true=>
  rw[Ai,Aa,Ab,ST,Bo];cases d:I1 b with
  |false=>rfl
  |true=>have⟨g,e2,e,h,f,i⟩:=bZ c d;rw[Ai,Aa,Ab,f,e,bz];rfl
def tY(a b:Rt):LT a b=some (MY a b):=by
 unfold LT MY;rw[ji,Bo];cases c:I1 a with
 |false=>rfl
 |true=>
  cases d:I1 b with
  |false=>rfl
  |true=>have⟨g,e2,e,h,f,i⟩:=bZ c d;rw[FZ,Ai,Aa,Ab,Ab,f,e,nk];rfl
def vL(a b:Rt):Mc a b=some (Uo a b):=by
 unfold Mc Uo;rw[ST,Bo];cases c:I1 a with
 |false=>rfl
 |true=>
  rw[Ai,Aa,Ab,ST,Bo];cases d:I1 b with
  |false=>rfl
  |true=>have⟨e,e2,g,h,i,f⟩:=bZ c d;rw[Ai,Aa,Ab,e,f,bz];rfl
def tX(a b:Rt):LL a b=some (Uo a b):=by
 unfold LL Uo;rw[ji,Bo];cases d:I1 a with
 |false=>rfl
 |true=>
  cases e:I1 b with
  |false=>rfl
  |true=>
   have⟨f,e2,h,i,j,g⟩:=bZ d e;rw[FZ,Ai,Aa,Ab,Ab];cases c:b.1==0 with
   |true=>rw[BK]at c;rw[c,Int.mul_zero];rfl
   |false=>rw[Aa,f,g,nk];rfl
def yD{b}(a:b.1.natAbs<=4000000000000000000):I1 (-b.1,b.2)=I1 b:=by
 unfold I1;have e:FX (-b.1) (-1000000000) 1000000000=FX b.1 (-1000000000) 1000000000:=by rw[Ck,H0,H0];omega
 simp only[Int.natAbs_neg,e]
def Aef(a b:Rt):OE a b=some (VI a b):=by
 unfold OE VI;rw[ST,Bo];cases c:I1 b with
 |false=>rfl
 |true=>have d:=Kb c;rw[Ai,Aa,Ab,wrap_in (by omega),HO,nX];rfl
def Abe{a b}(i: -9223372036854775808<=b.1∧b.1<=9223372036854775807):Ou a b=some (VI a b):=by
 unfold Ou VI;cases d:I1 b with
 |false=>
  have c:I1 (wZ<|0 - b.1,b.2)=false:=by
   by_cases e:b.1= -9223372036854775808
   ·rw[e];cases h:I1 (wZ<|0 - -9223372036854775808,b.2)with
    |false=>rfl
    |true=>have f:=(Kb h).2.2.1;rw[show wZ (0 - -9223372036854775808)= -9223372036854775808 by decide]at f;exact absurd f (show ¬((-9223372036854775808:Int).natAbs<=1000000000)by decide)
   ·rw[wrap_in (by omega),HO];by_cases g:b.1.natAbs<=4000000000000000000
    ·rw[yD g];exact d
    ·cases h:I1 (-b.1,b.2)with
     |false=>rfl
     |true=>have f:=(Kb h).2.2.1;simp only at f;omega
  rw[jm];unfold WT;cases I1 a with
  |false=>rfl
  |true=>rw[Ab,c];rfl
 |true=>have j:=Kb d;rw[Ab,wrap_in (by omega),HO,jm];rfl
def vK(a b:Rt):Hf a b=some (mf a b):=by
 unfold Hf mf;rw[ST,Bo];cases c:I1 a with
 |false=>rfl
 |true=>
  rw[Ai,Aa,Ab,ST,Bo];cases d:I1 b with
  |false=>rfl
  |true=>have⟨e,e2,f,g,h,i⟩:=bZ c d;rw[Ai,Aa,Ab,e,e2];cases decide (a.1 * b.2 < b.1 * a.2)<;>cases decide (b.1 * a.2 < a.1 * b.2)<;>rfl
def tW(a b:Rt):Ha a b=some (mf a b):=by
 unfold Ha mf;rw[ji,Bo];cases e:I1 a with
 |false=>rfl
 |true=>
  cases f:I1 b with
  |false=>rfl
  |true=>
   have⟨g,e2,h,i,j,k⟩:=bZ e f;rw[FZ,Ai,Aa,Ab,Ab,g,e2,aW,Bo];by_cases c:a.1 * b.2 < b.1 * a.2
   ·rw[At c,Ae c];rfl
   ·rw[As c,Ac c];by_cases d:b.1 * a.2 < a.1 * b.2
    ·rw[At d,Ae d];rfl
    ·rw[As d,Ac d];rfl
def C6(n:Nat):zI:=if h:n=0 then []else((n % 10:Nat):Int)::C6 (n / 10)
termination_by n
decreasing_by exact NH (by omega) (by omega)
def Nm:C6 0=[]:=by rw[C6];rfl
def TG{n}(h:0 < n):C6 n=((n % 10:Nat):Int)::C6 (n / 10):=by rw[C6,dif_neg (by omega)]
def Eh:zI->Nat
 |[]=>0
 |d::l=>d.toNat+10 * Eh l
def Vq:∀n,Eh (C6 n)=n:=by
 intro n;induction n using Nat.strongRecOn with
 |_ n a=>
  rcases BD n with rfl|h
  ·rw[Nm];rfl
  ·rw[TG h,Eh,a (n / 10) (NH h<|by omega)];omega
def tC{n}(h:C6 n=[]):n=0:=by
 rcases BD n with a|a
 ·exact a
 ·rw[TG a]at h;cases h
def Qp:∀(k n:Nat),(C6 n).length<=k↔n < 10 ^ k:=by
 intro k;induction k with
 |zero=>
  intro n;rw[Ma];constructor
  ·intro h;have:=tC<|Bf (by omega:(C6 n).length=0);omega
  ·intro h;obtain rfl:n=0:=by omega
   rw[Nm];simp
 |succ k a=>
  intro n;rcases BD n with rfl|h
  ·rw[Nm];exact⟨λ_=>Nat.pow_pos (by omega),λ_=>by simp⟩
  ·rw[TG h,Ar,CX,<-Nat.div_lt_iff_lt_mul (by omega),<-a];omega
def XO:∀n,∀e∈C6 n,0<=e∧e<=9:=by
 intro n;induction n using Nat.strongRecOn with
 |_ n b=>
  intro e a;rcases BD n with rfl|h
  ·rw[Nm]at a;cases a
  ·rw[TG h]at a;rcases AA.1 a with rfl|a
   ·omega
   ·exact b (n / 10) (NH h<|by omega) e a
def aR:∀n,0 < n->∃l d,C6 n=l++[d]∧d≠0:=by
 intro n;induction n using Nat.strongRecOn with
 |_ n b=>
  intro h;rw[TG h];rcases BD (n / 10)with a|a
  ·rw[a,Nm];exact⟨[],_,rfl,by omega⟩
  ·have⟨l,d,e,c⟩:=b (n / 10) (NH h<|by omega) a;rw[e];exact⟨_::l,d,rfl,c⟩
def o5:∀(l:zI),(∀e∈l,0<=e∧e<=9)->(∀x,l.getLast?=some x->x≠0)->l=C6 (Eh l)
 |[],_,_=>by rw[Eh,Nm]
 |d::l,c,f=>by
  have g:=c d<|BG ..;cases l with
  |nil=>have:d≠0:=f d rfl;rw[Eh,Eh,TG (by omega),show(d.toNat+10 * 0) / 10=0 by omega,Nm];congr 1;omega
  |cons e l=>
   have a:=o5 (e::l) (λx b=>c x<|AV _ b)<|λx b=>f x<|by rw[List.getLast?_cons_cons];exact b
   have i:0 < Eh (e::l):=by
    rcases BD (Eh<|e::l)with h|h
    ·rw[h,Nm]at a;cases a
    ·exact h
   rw[Eh,TG (by omega),show(d.toNat+10 * Eh (e::l)) / 10=Eh (e::l)by omega,<-a];congr 1;omega
def gOk(l:zI):Bool:= !BL l (λ_ e=> !FX e 0 9)&&(decide ((l.length:Int)<=60)&&((l.length:Int)==0 || l.getLast? !=some 0))
def o7{l}:gOk l=true↔∃n,n < 10 ^ 60∧l=C6 n:=by
 unfold gOk;simp only[Ad,AY,Bu,CP,BK,CY,ne_eq];constructor
 ·rintro⟨g,k,a⟩
  have e:=o5 l (λe i=>by have:=PM g i;simpa[H0]using this) (λx b c=>by
   subst c;rcases a with a|a
   ·have f:l=[]:=Bf (by omega);rw[f]at b;cases b
   ·exact a b)
  refine⟨Eh l,?_,e⟩;rw[<-Qp,<-e];omega
 ·rintro⟨n,f,rfl⟩;rw[<-Qp]at f;refine⟨Tq λi hi=>?_,by omega,?_⟩
  ·have:=XO n _ (Aj hi);rw[CK,H0];exact this
  ·rcases BD n with rfl|h
   ·left;rw[Nm];rfl
   ·right;have⟨l,d,e,j⟩:=aR n h;rw[e,List.getLast?_append];simpa using j
def XP{n}(h:n < 10 ^ 60):gOk (C6 n)=true:=o7.2 ⟨n,h,rfl⟩
def gw{l:zI}(h:0 < l.length)(a:l.length<=lim):∃x,AF l (wZ<|(l.length:Int) - 1)=some x∧l.getLast?=some x:=by have:=a;unfold lim at this;rw[wrap_in (by omega),show(l.length:Int) - 1=((l.length - 1:Nat):Int)by omega,AG (by omega)];exact⟨_,rfl,by rw[IOQ,Ah (by omega)]⟩
def qj{l}(h:l.length<=lim):F6 l=some (gOk l):=by
 unfold F6 gOk;rw[DX (λk=>I0 l k λe=> !FX e 0 9) h (λk a b=>by unfold Nu;rw[Bc a,Ab,AG a,Bo,Jv,Bo,Bm a (Ba h),Cx a]) (λrec=>by unfold Nu;rw[A2,Aa]),Bo];show(match cond (BL l λ_ e=> !FX e 0 9) (Sum.inr false) (Sum.inl ())with|.inl _=>_|.inr r=>some r)=_;cases BL l λ_ e=> !FX e 0 9 with
 |true=>rfl
 |false=>
  simp only[Aa,BT,AK];cases decide ((l.length:Int)<=60)with
  |false=>rfl
  |true=>
   rw[Ab,AK];by_cases d:l.length=0
   ·rw[show((l.length:Int)==0)=true by rw[BK];omega];rfl
   ·have⟨x,c,e2⟩:=gw (l:=l) (by omega) h;rw[show((l.length:Int)==0)=false by rw[BC];omega,Aa,c,Bo,e2];show some (x !=0)=some (false || some x !=some 0);rw[CH];rfl
def pm{l}(h:l.length<=lim):F2 l=some (gOk l):=by
 unfold F2 gOk;rw[DX (λk=>I0 l k λe=> !FX e 0 9) h (λk a b=>by unfold Nn;rw[Bc a,Ab,AG a,Bo,FC,Bo,Bm a (Ba h),Cx a]) (λrec=>by unfold Nn;rw[A2,Aa]),Bo];show(match cond (BL l λ_ e=> !FX e 0 9) (Sum.inr false) (Sum.inl ())with|.inl _=>_|.inr r=>some r)=_;cases BL l λ_ e=> !FX e 0 9 with
 |true=>rfl
 |false=>
  simp only[Aa,BT,AK];cases decide ((l.length:Int)<=60)with
  |false=>rfl
  |true=>
   rw[Ab,AK];by_cases d:l.length=0
   ·rw[show((l.length:Int)==0)=true by rw[BK];omega];rfl
   ·have⟨x,c,e2⟩:=gw (l:=l) (by omega) h;rw[show((l.length:Int)==0)=false by rw[BC];omega,Aa,c,Bo,e2];show some (x !=0)=some (false || some x !=some 0);rw[CH];rfl
def Sb{n}(h:n < 10 ^ 60):(C6 n).length<=60:=(Qp 60 n).2 h
def lG{k}(h:k<=60):k<=lim:=by unfold lim;omega
def ot{B}(b:∀a n l,B a (n,l)=cond (decide (0 < n)) (chk (l.length+[Int.tmod n 10].length<=lim)<|a (wZ<|Int.tdiv n 10,l++[Int.tmod n 10])) (some l)):
  ∀(k n:Nat) (l:zI) (f:Nat),n<=9223372036854775807->n < 10 ^ k->k < f->l.length+k<=lim->Aq B f ((n:Int),l)=some (l++C6 n)
 |0,n,l,f,_,h,c,_=>by
  obtain rfl:n=0:=by omega
  obtain⟨f,rfl⟩:∃g,f=g+1:=⟨f - 1,by omega⟩;rw[A6,b,Nm,AN];rfl
 |k+1,n,l,f,j,d,c,m=>by
  obtain⟨f,rfl⟩:∃g,f=g+1:=⟨f - 1,by omega⟩;rw[A6,b];rcases BD n with rfl|e
  ·rw[Nm,AN];rfl
  ·have i:Int.tdiv (n:Int) 10=((n / 10:Nat):Int):=rfl;have e2:Int.tmod (n:Int) 10=((n % 10:Nat):Int):=rfl;rw[Ae (by omega),Ab,i,e2,Aw (by rw[Af];omega),wrap_in (by omega),ot b k (n / 10) _ f (by omega) (by rw[CX]at d;omega) (by omega) (by rw[Ak,Af];omega),TG e,Bg];rfl
def kz{B}(b:∀a n l,B a (n,l)=cond (decide (0 < n)) (chk (l.length+[Int.tmod n 10].length<=lim)<|a (wZ<|Int.tdiv n 10,l++[Int.tmod n 10])) (some l)){n:Int}(h:n<=9223372036854775807):
  Aq B fz (n,[])=some (C6 n.toNat):=by
 by_cases c:0<=n
 ·have:=ot b 19 n.toNat [] fz (by omega) (by omega) (by unfold fz;omega) (by unfold lim;simp);rw[show((n.toNat:Nat):Int)=n by omega]at this;exact this
 ·rw[show n.toNat=0 by omega,Nm,show fz=(fz - 1)+1 from rfl,A6,b,Ac (by omega)];rfl
def nT{n}(h:n<=9223372036854775807):Hp n=some (C6 n.toNat):=by unfold Hp;rw[kz (λrec n l=>by simp only[Rn]) h,Bo]
def nh{n}(h:n<=9223372036854775807):Hi n=some (C6 n.toNat):=by unfold Hi;rw[kz (λrec n l=>by simp only[Rh]) h,Bo]
def gEm:Nat->Nat->zI
 |0,v=>C6 v
 |n+1,v=>((v % 10:Nat):Int)::gEm n (v / 10)
def m9:∀n v,∃z,gEm n v=C6 v++List.replicate z 0
 |0,v=>⟨0,by rw[gEm,List.replicate_zero,AN]⟩
 |n+1,v=>by
  have⟨z,e⟩:=m9 n<|v / 10;rw[gEm,e];rcases BD v with rfl|h
  ·exact⟨z+1,by rw[Nat.zero_div,Nm];rfl⟩
  ·exact⟨z,by rw[TG h];rfl⟩
abbrev CBd:=(zI×Int×Int->Option zI)->zI×Int×Int->Option zI
def wB(B:CBd)(d:zI):Prop:=∀a (out:zI) (c:Int) (k:Nat),
 (∀b:k < d.length,B a (out,c,(k:Int))=chk (out.length+[Int.tmod (wZ<|c+d[k]) 10].length<=lim) (a (out++[Int.tmod (wZ<|c+d[k]) 10],wZ<|Int.tdiv (wZ<|c+d[k]) 10,wZ<|(k:Int)+1)))∧
 (d.length<=k->B a (out,c,(k:Int))=cond (decide (0 < c)) (chk (out.length+[Int.tmod c 10].length<=lim)<|a (out++[Int.tmod c 10],wZ<|Int.tdiv c 10,wZ<|(k:Int)+1)) (some out))
def sQ{B d}(a:wB B d):∀(j c k:Nat) (out:zI) (f:Nat),c < 10 ^ j->c<=1000000000->d.length<=k->j < f->out.length+j<=lim->k+j<=lim->Aq B f (out,(c:Int),(k:Int))=some (out++C6 c)
 |0,c,k,out,f,h,_,b,e,_,_=>by
  obtain rfl:c=0:=by omega
  obtain⟨f,rfl⟩:∃g,f=g+1:=⟨f - 1,by omega⟩;rw[A6,(a _ _ _ _).2 b,Nm,AN];rfl
 |j+1,c,k,out,f,h,n,b,e,o,i=>by
  obtain⟨f,rfl⟩:∃g,f=g+1:=⟨f - 1,by omega⟩;rw[A6,(a _ _ _ _).2 b];rcases BD c with rfl|l
  ·rw[Nm,AN];rfl
  ·have m:Int.tdiv (c:Int) 10=((c / 10:Nat):Int):=rfl;have e2:Int.tmod (c:Int) 10=((c % 10:Nat):Int):=rfl;have p:lim=1099511627776:=rfl
   rw[Ae (by omega),Ab,m,e2,Aw (by rw[Af];omega),wrap_in (by omega),wrap_in (by omega),show((k:Int)+1)=((k+1:Nat):Int)by omega,
    sQ a j (c / 10) (k+1) _ f (by rw[CX]at h;omega) (by omega) (by omega) (by omega) (by rw[Ak,Af];omega) (by omega),TG l,Bg]
   rfl
def mL{B d}(h:wB B d)(l:∀e∈d,0<=e∧e<=1000000000):∀(j c k:Nat) (out:zI) (f:Nat),k+j=d.length->c<=1000000000->j+11 < f->out.length+j+11<=lim->k+j+11<=lim->Aq B f (out,(c:Int),(k:Int))=some (out++gEm j (Eh (d.drop k)+c))
 |0,c,k,out,f,n,m,o,p,i=>by rw[sQ h 10 c k out f (by omega) m (by omega) (by omega) (by omega) (by omega),Cl (by omega),Eh,Cw,gEm]
 |j+1,c,k,out,f,n,m,o,p,i=>by
  obtain⟨f,rfl⟩:∃g,f=g+1:=⟨f - 1,by omega⟩;have a:k < d.length:=by omega
  have q:=l _<|Aj a;have t:lim=1099511627776:=rfl;obtain⟨e,b⟩:∃e:Nat,d[k]=(e:Int):=⟨d[k].toNat,by omega⟩;rw[b]at q;have r:wZ ((c:Int)+(e:Int))=((c+e:Nat):Int):=by rw[wrap_in (by omega)];omega
  have s:Int.tdiv ((c+e:Nat):Int) 10=(((c+e) / 10:Nat):Int):=rfl;have e2:Int.tmod ((c+e:Nat):Int) 10=(((c+e) % 10:Nat):Int):=rfl
  rw[A6,(h _ _ _ _).1 a,b,r,s,e2,Aw (by rw[Af];omega),wrap_in (by omega),wrap_in (by omega),show((k:Int)+1)=((k+1:Nat):Int)by omega,
   mL h l j ((c+e) / 10) (k+1) _ f (by omega) (by omega) (by omega) (by rw[Ak,Af];omega) (by omega),AS a,b,Eh,gEm,Bg,
   show(((e:Int).toNat+10 * Eh (d.drop (k+1))+c) % 10)=(c+e) % 10 by omega,show(((e:Int).toNat+10 * Eh (d.drop (k+1))+c) / 10)=Eh (d.drop (k+1))+(c+e) / 10 by omega]
  rfl
def gR(v:Nat):zI×Bool:=cond (decide (v < 10 ^ 60)) (C6 v,true) ([],false)
def qz:∀(z v f:Nat),(C6 v).length+z<=lim->z < f->Aq PJ f (C6 v++List.replicate z 0)=some (C6 v)
 |0,v,f,b,c=>by
  obtain⟨f,rfl⟩:∃g,f=g+1:=⟨f - 1,by omega⟩;rw[A6,List.replicate_zero,AN,PJ];have h:lim=1099511627776:=rfl;rcases BD v with rfl|i
  ·rw[Nm];rfl
  ·have⟨l,d,e,j⟩:=aR v i;have a:(C6 v).length=l.length+1:=by rw[e];simp
   rw[Ae (by omega),Ab,wrap_in (by omega),show((C6 v).length:Int) - 1=((l.length:Nat):Int)by omega,AG (by omega),Bo];have:(C6 v)[l.length]'(by omega)=d:=by simp[e]
   rw[this,show(d==0)=false by rw[BC];exact j,Aa]
 |z+1,v,f,b,c=>by
  obtain⟨f,rfl⟩:∃g,f=g+1:=⟨f - 1,by omega⟩;have h:lim=1099511627776:=rfl;have a:(C6 v++List.replicate (z+1) (0:Int)).length=(C6 v).length+z+1:=by rw[Ak,CI];omega
  rw[A6,PJ,Ae (by omega),Ab,wrap_in (by omega),a,show(((C6 v).length+z+1:Nat):Int) - 1=(((C6 v).length+z:Nat):Int)by omega,AG (by omega),Bo];have k:(C6 v++List.replicate (z+1) (0:Int))[(C6 v).length+z]'(by omega)=0:=by rw[GD (by omega),Ld]
  rw[k,show((0:Int)==0)=true from rfl,Ab,Aw (by omega)];have:B5 (C6 v++List.replicate (z+1) (0:Int)) 0 (((C6 v).length+z:Nat):Int)=C6 v++List.replicate z 0:=by unfold B5;rw[AB,show(0:Int).toNat=0 from rfl,Cj,MC,DJ (by omega),CT,List.take_replicate,Ce (by omega)]
  rw[this];exact qz z v f (by omega) (by omega)
def qy{v z}(b:(C6 v).length+z<=lim):∀(j f:Nat),j<=z->j < f->Aq (Pw<|C6 v++List.replicate z 0) f (((C6 v).length+j:Nat):Int)=some ((C6 v).length:Int)
 |0,f,c,h=>by
  obtain⟨f,rfl⟩:∃g,f=g+1:=⟨f - 1,by omega⟩;have i:lim=1099511627776:=rfl;rw[A6,Pw,Di];rcases BD v with rfl|k
  ·rw[Nm];rfl
  ·have⟨l,d,e,m⟩:=aR v k;have a:(C6 v).length=l.length+1:=by rw[e];simp
   rw[Ae (by omega),Ab,wrap_in (by omega),show((C6 v).length:Int) - 1=((l.length:Nat):Int)by omega,AG (by rw[Ak];omega),Bo];have:(C6 v++List.replicate z (0:Int))[l.length]'(by rw[Ak];omega)=d:=by rw[Jq (by omega)];simp[e]
   rw[this,show(d==0)=false by rw[BC];exact m,Aa]
 |j+1,f,c,h=>by
  obtain⟨f,rfl⟩:∃g,f=g+1:=⟨f - 1,by omega⟩;have i:lim=1099511627776:=rfl;rw[A6,Pw,Ae (by omega),Ab,wrap_in (by omega),show(((C6 v).length+(j+1):Nat):Int) - 1=(((C6 v).length+j:Nat):Int)by omega,AG (by rw[Ak,CI];omega),Bo];have n:(C6 v++List.replicate z (0:Int))[(C6 v).length+j]'(by rw[Ak,CI];omega)=0:=by rw[GD (by omega),Ld]
  rw[n,show((0:Int)==0)=true from rfl,Ab];exact qy b j f (by omega) (by omega)
def jd:∀n v,(gEm n v).length<=n+(C6 v).length
 |0,v=>by rw[gEm];omega
 |n+1,v=>by
  have:=jd n<|v / 10;rw[gEm,Ar]
  have a:(C6<|v / 10).length<=(C6 v).length:=by
   rcases BD v with rfl|h
   ·rw[Nat.zero_div];exact Bb _
   ·rw[TG h,Ar];omega
  omega
def o8:∀(l:zI),(∀e∈l,0<=e∧e<=1000000000)->Eh l * 9+1000000000<=1000000000 * 10 ^ l.length
 |[],_=>by rw[Eh,Bw,Ma];omega
 |d::l,h=>by
  have b:=h d<|BG ..;have c:=o8 l λe a=>h e<|AV _ a
  rw[Eh,Ar,CX];omega
def o9(l:zI)(h:∀e∈l,0<=e∧e<=1000000000):Eh l < 10 ^ (l.length+10):=by have a:=o8 l h;rw[Nat.pow_add];have:0 < 10 ^ l.length:=Nat.pow_pos (by omega);omega
def yH{d}(hd:∀e∈d,0<=e∧e<=1000000000)(hl:d.length<=1000000):Tn d=some (gR<|Eh d):=by
 have h9:lim=1099511627776:=rfl
 have hB:wB (Kc d) d:=λrec out c k=>⟨λhk=>by
  simp only[Kc,Na,Nb];rw[Bc hk,Ab,Ab,Ab,AG hk,Bo],λhk=>by
  simp only[Kc,Na,Nb];rw[Ac (by omega),Aa,Aa]⟩
 have h1:=mL hB hd d.length 0 0 [] fz (by omega) (by omega) (by unfold fz;omega) (by simp;omega) (by omega);have hlen:=(Qp _ _).2<|o9 d hd;unfold Tn;rw[show((0:Nat):Int)=0 from rfl]at h1;rw[h1,Bo,Bn,Cj,Di];have⟨z,e⟩:=m9 d.length<|Eh d;have hz:=jd d.length<|Eh d;rw[e,Ak,CI]at hz;rw[e,qz z _ fz (by omega) (by unfold fz;omega),Bo];unfold gR;by_cases h:Eh d < 10 ^ 60
 ·have:=Sb h;rw[Ae h,Ac (by omega)];rfl
 ·have:¬(C6<|Eh d).length<=60:=λhh=>h ((Qp _ _).1 hh)
  rw[Ac h,Ae (by omega)];rfl
def xu{d}(hd:∀e∈d,0<=e∧e<=1000000000)(hl:d.length<=1000000):S6 d=some (gR<|Eh d):=by
 have h9:lim=1099511627776:=rfl
 have hB:wB (J9 d) d:=λrec out c k=>⟨λhk=>by
  simp only[J9,MV,MW];rw[Bc hk,Ab,Ab,Ab,AG hk,Bo],λhk=>by
  simp only[J9,MV,MW];rw[Ac (by omega),Aa,Aa]⟩
 have h1:=mL hB hd d.length 0 0 [] fz (by omega) (by omega) (by unfold fz;omega) (by simp;omega) (by omega);have hlen:=(Qp _ _).2<|o9 d hd;unfold S6;rw[show((0:Nat):Int)=0 from rfl]at h1;rw[h1,Bo,Bn,Cj,Di];have⟨z,e⟩:=m9 d.length<|Eh d;have hz:=jd d.length<|Eh d;rw[e,Ak,CI]at hz;have h2:=qy (v:=Eh d) (z:=z) (by omega) z fz (Bb _) (by unfold fz;omega);rw[e,Ak,CI,h2,Bo,Aw (by omega)];have h3:B5 (C6 (Eh d)++List.replicate z (0:Int)) 0 ((C6<|Eh d).length:Int)=C6 (Eh d):=by unfold B5;rw[AB,show(0:Int).toNat=0 from rfl,Cj,List.take_left'];rfl
 rw[h3];unfold gR;by_cases h:Eh d < 10 ^ 60
 ·have:=Sb h;rw[Ae h,Ac (by omega)];rfl
 ·have:¬(C6<|Eh d).length<=60:=λhh=>h ((Qp _ _).1 hh)
  rw[Ac h,Ae (by omega)];rfl
def lc:∀(l:zI) (j:Nat) (t:Int) (a:j < l.length),0<=l[j]->0<=t->Eh (l.set j<|l[j]+t)=Eh l+t.toNat * 10 ^ j
 |[],j,t,a,_,_=>by simp at a
 |d::l,0,t,a,b,c=>by simp only[Lc]at b;simp only[Lc,N5,Eh,Ma];omega
 |d::l,j+1,t,a,b,c=>by simp only[Hx]at b;simp only[Hx,N4,Eh];rw[lc l j t (by simpa using a) b c,CX,Nat.mul_add,<-GZ];rw[Ez (t.toNat) (10 ^ j * 10),Ez 10 t.toNat,GZ t.toNat 10,Ez (10 ^ j) 10,Ez t.toNat (10 * 10 ^ j)];omega
def aT:∀n,Eh (List.replicate n 0)=0
 |0=>rfl
 |n+1=>by rw[List.replicate_succ,Eh,aT n];rfl
def gBd(c:Int)(l:zI):Prop:=∀e∈l,0<=e∧e<=c
def xo{c l}(h:gBd c l){j:Nat}{t:Int}(b:j < l.length)(d:0<=t∧t<=81):gBd (c+81) (l.set j<|l[j]+t):=λe a=>by
 rcases CG a with a|rfl
 ·have:=h e a;omega
 ·have:=h _<|Aj b;omega
abbrev MBd:=(zI×Int->Option zI)->zI×Int->Option zI
def w8{x y:Int}(c:0<=x∧x<=9)(d:0<=y∧y<=9):0<=x * y∧x * y<=81∧(x * y).toNat=x.toNat * y.toNat:=by
 obtain⟨a,rfl⟩:∃a:Nat,x=(a:Int):=⟨x.toNat,by omega⟩;obtain⟨b,rfl⟩:∃b:Nat,y=(b:Int):=⟨y.toNat,by omega⟩;have f:a * b<=9 * 9:=Fy (by omega) (by omega);have e:(a:Int) * (b:Int)=((a * b:Nat):Int):=by simp
 rw[e];exact⟨by omega,by omega,by rw[AB,AB,AB]⟩
def nF{B:MBd}{b:zI}{x:Int}{i:Nat}(s:0<=x∧x<=9)(t:∀e∈b,0<=e∧e<=9)(v:i+b.length<=1000)
  (p:∀h (y:zI) (k:Nat),y.length<=1000->(∀(u:k < b.length) (q:i+k < y.length),B h (y,(k:Int))=h (CL y ((i+k:Nat):Int)<|wZ<|y[i+k]+wZ (x * b[k]),((k+1:Nat):Int)))∧(b.length<=k->B h (y,(k:Int))=some y)):
  ∀(j k:Nat) (y:zI) (c:Int) (f:Nat),k+j=b.length->i+b.length<=y.length->y.length<=1000->gBd c y->0<=c->c+81 * j<=1000000000->j < f->∃y',Aq B f (y,(k:Int))=some y'∧y'.length=y.length∧gBd (c+81 * j) y'∧Eh y'=Eh y+x.toNat * Eh (b.drop k) * 10 ^ (i+k)
 |0,k,y,c,f,u,q,a,m,_,_,w=>by
  obtain⟨f,rfl⟩:∃g,f=g+1:=⟨f - 1,by omega⟩;refine⟨y,?_,rfl,by simpa using m,?_⟩
  ·rw[A6,(p _ _ _ a).2 (by omega)]
  ·rw[Cl (by omega),Eh];simp
 |j+1,k,y,c,f,u,q,a,m,H,I,w=>by
  obtain⟨f,rfl⟩:∃g,f=g+1:=⟨f - 1,by omega⟩;have l:k < b.length:=by omega
  have d:i+k < y.length:=by omega
  have o:=w8 s<|t _<|Aj l;have r:=m _<|Aj d;have z:CL y ((i+k:Nat):Int) (wZ<|y[i+k]+wZ (x * b[k]))=y.set (i+k) (y[i+k]+x * b[k]):=by unfold CL;rw[AB,wrap_in (n:=x * b[k]) (by omega),wrap_in (by omega)]
  obtain⟨y',A,C,D,F⟩:=nF s t v p j (k+1) (y.set (i+k)<|y[i+k]+x * b[k]) (c+81) f (by omega) (by rw[Bd];exact q) (by rw[Bd];exact a) (xo m d ⟨o.1,o.2.1⟩) (by omega) (by omega) (by omega);refine⟨y',?_,by rw[C,Bd],?_,?_⟩
  ·rw[A6,(p _ _ _ a).1 l d,z];exact A
  ·have:c+81+81 * (j:Int)=c+81 * ((j+1:Nat):Int):=by omega
   rw[<-this];exact D
  ·rw[F,lc y (i+k) _ d r.1 o.1,o.2.2,AS l,Eh,show i+(k+1)=i+k+1 by omega,CX];generalize x.toNat=X;generalize(b[k]).toNat=Y;generalize Eh (b.drop<|k+1)=Z;generalize 10 ^ (i+k)=P;rw[Nat.mul_add,CN,MX];congr 2;rw[Ez P 10,<-GZ,GZ X Z 10,Ez Z 10]
def jF{B:MBd}{a b:zI}(o:∀e∈a,0<=e∧e<=9)(p:a.length<=60)(k:b.length<=60)
  (l:∀d (y:zI) (i:Nat),(∀(hi:i < a.length) (c:Int),y.length=a.length+b.length->gBd c y->0<=c->c+81 * 60<=1000000000->∃y',B d (y,(i:Int))=d (y',((i+1:Nat):Int))∧y'.length=y.length∧gBd (c+81 * 60) y'∧Eh y'=Eh y+(a[i]).toNat * Eh b * 10 ^ i)∧(a.length<=i->B d (y,(i:Int))=some y)):
  ∀(j i:Nat) (y:zI) (c:Int) (f:Nat),i+j=a.length->y.length=a.length+b.length->gBd c y->0<=c->c+81 * 60 * j<=1000000000->j < f->∃y',Aq B f (y,(i:Int))=some y'∧y'.length=y.length∧gBd (c+81 * 60 * j) y'∧Eh y'=Eh y+Eh (a.drop i) * Eh b * 10 ^ i
 |0,i,y,c,f,hi,n,m,_,_,q=>by
  obtain⟨f,rfl⟩:∃g,f=g+1:=⟨f - 1,by omega⟩;refine⟨y,?_,rfl,by simpa using m,?_⟩
  ·rw[A6,(l _ _ _).2 (by omega)]
  ·rw[Cl (by omega),Eh];simp
 |j+1,i,y,c,f,hi,n,m,r,A,q=>by
  obtain⟨f,rfl⟩:∃g,f=g+1:=⟨f - 1,by omega⟩;have h:i < a.length:=by omega
  obtain⟨s,t,C,u,v⟩:=(l (Aq B f) y i).1 h c n m r (by omega);obtain⟨y',w,D,x,z⟩:=jF o p k l j (i+1) s (c+81 * 60) f (by omega) (by omega) u (by omega) (by omega) (by omega);refine⟨y',?_,by omega,?_,?_⟩
  ·rw[A6,t];exact w
  ·have:c+81 * 60+81 * 60 * (j:Int)=c+81 * 60 * ((j+1:Nat):Int):=by omega
   rw[<-this];exact x
  ·rw[z,v,AS h,Eh,CX];generalize(a[i]).toNat=X;generalize Eh b=Y;generalize Eh (a.drop<|i+1)=Z;generalize 10 ^ i=P;rw[CN,CN,MX];congr 2;rw[Ez P 10,<-GZ,Nat.mul_right_comm Z Y 10,Ez Z 10]
def fJ(a b:zI):zI×Bool:=cond (gOk a) (cond (gOk b) (gR<|Eh a * Eh b) ([],false)) ([],false)
def XQ{l}(h:gOk l=true):l.length<=60∧∀e∈l,0<=e∧e<=9:=by obtain⟨n,a,rfl⟩:=o7.1 h;exact⟨Sb a,XO n⟩
def nV{a b:zI}(ha:a.length<=lim)(hb:b.length<=lim):Me a b=some (fJ a b):=by
 unfold Me fJ;rw[qj ha,Bo];cases h1:gOk a with
 |false=>rfl
 |true=>
  rw[Ai,Aa,Ab,qj hb,Bo];cases h2:gOk b with
  |false=>rfl
  |true=>
   obtain⟨l1,d1⟩:=XQ h1;obtain⟨l2,d2⟩:=XQ h2;have hw:wZ ((a.length:Int)+(b.length:Int))=((a.length+b.length:Nat):Int):=by rw[wrap_in (by omega)];omega
   rw[Ai,Aa,Ab,hw,Aw (by unfold lim;omega),AB]
   obtain⟨y,q1,q2,q3,q4⟩:=jF (B:=KW a b) d1 l1 l2 (λrec y i=>⟨λhi c hy hc h0 h9=>by
    obtain⟨y',p1,p2,p3,p4⟩:=nF (B:=KX a b (i:Int)) (i:=i) (d1 _ (Aj hi)) d2 (by omega) (λrec y k hy2=>⟨λhk hyk=>by
     simp only[KX];rw[Bc hk,Ab,wrap_in (n:=(i:Int)+(k:Int)) (by omega),show(i:Int)+(k:Int)=((i+k:Nat):Int)by omega,AG hyk,Bo,AG hi,Bo,AG hk,Bo,Bo,wrap_in (n:=(k:Int)+1) (by omega)];rfl,λhk=>by
     simp only[KX];rw[Ac (by omega),Aa]⟩) b.length 0 y c fz (by omega) (by omega) (by omega) hc h0 (by omega) (by unfold fz;omega)
    refine⟨y',?_,p2,λe he=>?_,by rw[p4,Cj];simp⟩
    ·simp only[KW];have p1':Aq (KX a b (i:Int)) fz (y,0)=some y':=p1;rw[Bc hi,Ab,p1',Bo,wrap_in (by omega)];rfl
    ·have:=p3 e he;omega,λhi=>by
    simp only[KW];rw[Ac (by omega),Aa]⟩) a.length 0 (List.replicate (a.length+b.length) 0) 0 fz (by omega) (by simp) (λe he=>by rw[(List.mem_replicate.1 he).2];omega) (by omega) (by omega) (by unfold fz;omega)
   have q1':Aq (KW a b) fz (List.replicate (a.length+b.length) 0,0)=some y:=q1;rw[q1',Bo,yH (λe he=>by have:=q3 e he;omega) (by rw[q2,CI];omega),Bo,q4,aT,Cj,Ma,Nat.mul_one,Cw]
def nj{a b:zI}(ha:a.length<=lim)(hb:b.length<=lim):LR a b=some (fJ a b):=by
 unfold LR fJ;rw[pm ha,Bo];cases h1:gOk a with
 |false=>rfl
 |true=>
  rw[Ai,Aa,Ab,pm hb,Bo];cases h2:gOk b with
  |false=>rfl
  |true=>
   obtain⟨l1,d1⟩:=XQ h1;obtain⟨l2,d2⟩:=XQ h2;have hw:wZ ((a.length:Int)+(b.length:Int))=((a.length+b.length:Nat):Int):=by rw[wrap_in (by omega)];omega
   rw[Ai,Aa,Ab,hw,Aw (by unfold lim;omega),AB]
   obtain⟨y,q1,q2,q3,q4⟩:=jF (B:=Kv a b) d1 l1 l2 (λrec y i=>⟨λhi c hy hc h0 h9=>by
    obtain⟨y',p1,p2,p3,p4⟩:=nF (B:=Kw b (i:Int) a[i]) (i:=i) (d1 _ (Aj hi)) d2 (by omega) (λrec y k hy2=>⟨λhk hyk=>by
     simp only[Kw];rw[Bc hk,Ab,wrap_in (n:=(i:Int)+(k:Int)) (by omega),show(i:Int)+(k:Int)=((i+k:Nat):Int)by omega,AG hk,Bo,AG hyk,Bo,Bo,wrap_in (n:=(k:Int)+1) (by omega)];rfl,λhk=>by
     simp only[Kw];rw[Ac (by omega),Aa]⟩) b.length 0 y c fz (by omega) (by omega) (by omega) hc h0 (by omega) (by unfold fz;omega)
    refine⟨y',?_,p2,λe he=>?_,by rw[p4,Cj];simp⟩
    ·simp only[Kv];have p1':Aq (Kw b (i:Int) a[i]) fz (y,0)=some y':=p1;rw[Bc hi,Ab,AG hi,Bo,p1',Bo,wrap_in (by omega)];rfl
    ·have:=p3 e he;omega,λhi=>by
    simp only[Kv];rw[Ac (by omega),Aa]⟩) a.length 0 (List.replicate (a.length+b.length) 0) 0 fz (by omega) (by simp) (λe he=>by rw[(List.mem_replicate.1 he).2];omega) (by omega) (by omega) (by unfold fz;omega)
   have q1':Aq (Kv a b) fz (List.replicate (a.length+b.length) 0,0)=some y:=q1;rw[q1',Bo,xu (λe he=>by have:=q3 e he;omega) (by rw[q2,CI];omega),Bo,q4,aT,Cj,Ma,Nat.mul_one,Cw]
def lb(m n:Nat):Int:=cond (decide (m < n)) (-1)<|cond (decide (n < m)) 1 0
def aS:∀(l:zI) (i:Nat) (hi:i < l.length),Eh (l.take<|i+1)=Eh (l.take i)+(l[i]).toNat * 10 ^ i
 |[],i,hi=>by simp at hi
 |d::l,0,hi=>by simp[Eh]
 |d::l,i+1,hi=>by simp only[Dx,Eh,Hx];rw[aS l i (by simpa using hi),CX,Nat.mul_add,MX];congr 2;rw[Ez (10 ^ i) 10,<-GZ,<-GZ,Ez 10]
def YF:∀(l:zI) (i:Nat),(∀e∈l,0<=e∧e<=9)->Eh (l.take i) < 10 ^ i
 |l,0,_=>by rw[L9,Eh,Ma];omega
 |[],i+1,_=>by rw[List.take_nil,Eh];exact Nat.pow_pos (by omega)
 |d::l,i+1,h=>by
  have b:=h d<|BG ..;have c:=YF l i λe a=>h e<|AV _ a
  rw[Dx,Eh,CX];omega
def dn{B:(Int->Option (Sum Unit Int))->Int->Option (Sum Unit Int)}{a b:zI}(l:∀e∈a,0<=e∧e<=9)(m:∀e∈b,0<=e∧e<=9)(r:a.length=b.length)(o:a.length<=60)
  (p:∀c (i:Nat) (w:i < a.length) (z:i < b.length),B c (i:Int)=cond (decide (a[i] < b[i])) (some<|.inr (-1)) (cond (decide (b[i] < a[i])) (some<|.inr 1)<|c<|(i:Int) - 1)) (q:∀c,B c (-1)=some (.inl ())):
  ∀(j f:Nat),j<=a.length->j < f->Aq B f ((j:Int) - 1)=some (cond (decide (Eh (a.take j) < Eh (b.take j))) (.inr (-1))<|cond (decide (Eh (b.take j) < Eh (a.take j))) (.inr 1)<|.inl ())
 |0,f,_,s=>by obtain⟨f,rfl⟩:∃g,f=g+1:=⟨f - 1,by omega⟩;rw[A6,show((0:Nat):Int) - 1= -1 from rfl,q];rfl
 |j+1,f,A,s=>by
  obtain⟨f,rfl⟩:∃g,f=g+1:=⟨f - 1,by omega⟩;have d:j < a.length:=by omega
  have k:j < b.length:=by omega
  have t:=l _<|Aj d;have u:=m _<|Aj k;have C:=YF a j l;have D:=YF b j m;rw[A6,show((j+1:Nat):Int) - 1=(j:Int)by omega,p _ j d k,aS a j d,aS b j k];generalize F:a[j]=x at t;generalize H:b[j]=y at u;obtain⟨x,rfl⟩:∃n:Nat,x=(n:Int):=⟨x.toNat,by omega⟩;obtain⟨y,rfl⟩:∃n:Nat,y=(n:Int):=⟨y.toNat,by omega⟩;rw[AB,AB];rcases GV x y with h|h|h
  ·have:(x+1) * 10 ^ j<=y * 10 ^ j:=BW _ h;rw[CN,DK]at this;rw[Ae (show(x:Int) < (y:Int)by omega),Ae (show Eh (a.take j)+x * 10 ^ j < Eh (b.take j)+y * 10 ^ j by omega)];rfl
  ·subst h;rw[Ac (show ¬(x:Int) < (x:Int)by omega),Aa,Aa,dn l m r o p q j f (by omega) (by omega)];have v:decide (Eh (a.take j)+x * 10 ^ j < Eh (b.take j)+x * 10 ^ j)=decide (Eh (a.take j) < Eh (b.take j)):=by rw[decide_eq_decide];omega
   have e2:decide (Eh (b.take j)+x * 10 ^ j < Eh (a.take j)+x * 10 ^ j)=decide (Eh (b.take j) < Eh (a.take j)):=by rw[decide_eq_decide];omega
   rw[v,e2]
  ·have:(y+1) * 10 ^ j<=x * 10 ^ j:=BW _ h;rw[CN,DK]at this;rw[Ac (show ¬(x:Int) < (y:Int)by omega),Ae (show(y:Int) < (x:Int)by omega),Ac (show ¬Eh (a.take j)+x * 10 ^ j < Eh (b.take j)+y * 10 ^ j by omega),Ae (show Eh (b.take j)+y * 10 ^ j < Eh (a.take j)+x * 10 ^ j by omega)];rfl
def jw{m n}(h:(C6 m).length < (C6 n).length):m < n:=by
 have h1:=(Qp (C6 m).length m).1<|Bb _;have h2:¬n < 10 ^ (C6 m).length:=λhh=>by have:=(Qp _ n).2 hh;omega
 omega
def nU{m n}(b:m < 10 ^ 60)(c:n < 10 ^ 60):GX (C6 m) (C6 n)=some (lb m n):=by
 have d:=Sb b;have e:=Sb c;unfold GX lb;rw[qj (lG d),Bo,XP b,Ai,Aa,qj (lG e),Bo,XP c,Ai,Aa];rcases GV (C6 m).length (C6 n).length with h|h|h
 ·rw[show(((C6 m).length:Int)!=((C6 n).length:Int))=true by rw[CY];omega,Ab,Ae (by omega),Ae (jw h)];rfl
 ·have a:=dn (B:=IS (C6 m) (C6 n)) (XO m) (XO n) h d (λrec i f g=>by simp only[IS];rw[Ae (by omega:(0:Int)<=(i:Int)),Ab,AG f,Bo,AG g,Bo,Bo,Bo,wrap_in (by omega)]) (λrec=>by simp only[IS];rfl) (C6 m).length fz (Bb _) (by unfold fz;omega);rw[Bl,h,Bl,Vq,Vq]at a;rw[show(((C6 m).length:Int)!=((C6 n).length:Int))=false by rw[DW];omega,Aa,wrap_in (by omega),h,a,Bo];cases decide (m < n)<;>cases decide (n < m)<;>rfl
 ·have:=jw h;rw[show(((C6 m).length:Int)!=((C6 n).length:Int))=true by rw[CY];omega,Ab,Ac (by omega),Ac (by omega),Ae this];rfl
def tK{m n}(b:m < 10 ^ 60)(c:n < 10 ^ 60):Iq (C6 m) (C6 n)=some (lb m n):=by
 have d:=Sb b;have e:=Sb c;unfold Iq lb;rw[pm (lG d),Bo,XP b,Ai,Aa,pm (lG e),Bo,XP c,Ai,Aa];rcases GV (C6 m).length (C6 n).length with h|h|h
 ·rw[show(((C6 m).length:Int)!=((C6 n).length:Int))=true by rw[CY];omega,Ab,aW,Bo,At (by omega),Ae (jw h)];rfl
 ·have a:=dn (B:=IE (C6 m) (C6 n)) (XO m) (XO n) h d (λrec i f g=>by
   simp only[IE];rw[Ae (by omega:(0:Int)<=(i:Int)),Ab,AG f,Bo,AG g,Bo,Bo,Bo,aW,Bo,wrap_in (by omega)];rcases Int.lt_trichotomy (C6 m)[i] (C6 n)[i]with q|q|q
   ·rw[show((C6 m)[i]!=(C6 n)[i])=true by rw[CY];omega,Ae q,At q];rfl
   ·rw[show((C6 m)[i]!=(C6 n)[i])=false by rw[DW];omega,Ac (by omega),Ac (by omega)];rfl
   ·rw[show((C6 m)[i]!=(C6 n)[i])=true by rw[CY];omega,Ac (by omega),Ae q,As (by omega),At q];rfl) (λrec=>by simp only[IE];rfl) (C6 m).length fz (Bb _) (by unfold fz;omega)
  rw[Bl,h,Bl,Vq,Vq]at a;rw[show(((C6 m).length:Int)!=((C6 n).length:Int))=false by rw[DW];omega,Aa,wrap_in (by omega),h,a,Bo];cases decide (m < n)<;>cases decide (n < m)<;>rfl
 ·have:=jw h;rw[show(((C6 m).length:Int)!=((C6 n).length:Int))=true by rw[CY];omega,Ab,aW,Bo,As (by omega),At (by omega),Ac (by omega),Ae this];rfl
def H1{O:Type}{B:(Int->Option (Sum Unit O))->Int->Option (Sum Unit O)}{n:Nat}(a:Nat->Bool)(o:O)(l:n<=lim)(p:∀k,k < n->∀b,B b (k:Int)=cond (a k) (some<|.inr o) (b ((k+1:Nat):Int)))(q:∀b,B b (n:Int)=some (.inl ())):
  Aq B fz 0=some (cond ((List.range n).any a) (.inr o)<|.inl ()):=by
 have e:∀d k,k+d=n->(∀j,j < k->a j=false)->∀m,d < m->Aq B m (k:Int)=some (cond ((List.range n).any a) (.inr o)<|.inl ()):=by
  intro d;induction d with
  |zero=>
   intro k r f m s;obtain⟨m,rfl⟩:∃g,m=g+1:=⟨m - 1,by omega⟩;have:(List.range n).any a=false:=by rw[CD];intro x t;rw[f x (by have:=AQ.1 t;omega)];simp
   rw[A6,show k=n by omega,q,this];rfl
  |succ d u=>
   intro k r f m s;obtain⟨m,rfl⟩:∃g,m=g+1:=⟨m - 1,by omega⟩;rw[A6,p k (by omega)];cases c:a k with
   |true=>
    have:(List.range n).any a=true:=by rw[C4];exact⟨k,AQ.2 (by omega),c⟩
    rw[this];rfl
   |false=>
    exact u (k+1) (by omega) (λj i=>by
     rcases Bi j k with h|h
     ·exact f j h
     ·rw[show j=k by omega];exact c) m (by omega)
 have:=e n 0 (by omega) (λj i=>absurd i<|by omega) fz<|EC l;simpa using this
def wOk(r:Rt):Bool:=I1 r&&(decide (0<=r.1)&&(decide (r.1<=1000)&&decide (r.2<=1000)))
def yS{w}(h:w.length<=lim)(n:Int):RY w n=some (!BL w (λ_ r=> !wOk r)&&((w.length:Int)==n)):=by
 unfold RY
 rw[DX (λk=>I0 w k λr=> !wOk r) h (λk a e=>by
  unfold RN;simp only[AG a,Bo,ST];rw[Bc a,Ab,Bm a (Ba h),Cx a];unfold wOk;cases I1 w[k]with
  |false=>rfl
  |true=>
   by_cases b:0<=w[k].1
   ·rw[Ae b,Ac (by omega:¬w[k].1 < 0)];by_cases c:w[k].1<=1000
    ·rw[Ae c,Ac (by omega:¬1000 < w[k].1)];by_cases d:w[k].2<=1000
     ·rw[Ae d,Ac (by omega:¬1000 < w[k].2)];rfl
     ·rw[Ac d,Ae (by omega:1000 < w[k].2)];rfl
    ·rw[Ac c,Ae (by omega:1000 < w[k].1)];rfl
   ·rw[Ac b,Ae (by omega:w[k].1 < 0)];rfl) (λrec=>by unfold RN;rw[A2,Aa]),Bo]
 show(match cond (BL w λ_ r=> !wOk r) (Sum.inr false) (Sum.inl ())with|.inl _=>_|.inr r=>some r)=_;cases BL w λ_ r=> !wOk r<;>rfl
def AfB{w}(h:w.length<=lim):Pu w=some (!BL w (λ_ r=> !wOk r)):=by
 unfold Pu
 rw[DX (λk=>I0 w k λr=> !wOk r) h (λk a e=>by
  unfold PU;simp only[AG a,Bo,gq,FC];rw[Bc a,Ab,Bm a (Ba h),Cx a];unfold wOk FX;cases I1 w[k]with
  |false=>rfl
  |true=>
   by_cases b:0<=w[k].1
   ·rw[Ae b];by_cases c:w[k].1<=1000
    ·rw[Ae c];by_cases d:w[k].2<=1000
     ·rw[Ae d,Ac (by omega:¬1000 < w[k].2)];rfl
     ·rw[Ac d,Ae (by omega:1000 < w[k].2)];rfl
    ·rw[Ac c];rfl
   ·rw[Ac b];rfl) (λrec=>by unfold PU;rw[A2,Aa]),Bo]
 show(match cond (BL w λ_ r=> !wOk r) (Sum.inr false) (Sum.inl ())with|.inl _=>_|.inr r=>some r)=_;cases BL w λ_ r=> !wOk r<;>rfl
def Xo:Rt->List Rt->Rt×Bool
 |x,[]=>(x,true)
 |x,r::l=>cond (WT x r).2 (Xo (WT x r).1 l) ((0,0),false)
abbrev SmB:=((Int×Int×Int)->Option (Sum (Int×Int)<|Rt×Bool))->(Int×Int×Int)->Option (Sum (Int×Int)<|Rt×Bool)
def fw{B:SmB}{l:List Rt}(c:∀a (x:Rt) k (d:k < l.length),B a (x.1,x.2,(k:Int))=cond (!(WT x l[k]).2) (some<|.inr ((0,0),false)) (a ((WT x l[k]).1.1,(WT x l[k]).1.2,((k+1:Nat):Int))))(e:∀a (x:Rt),B a (x.1,x.2,(l.length:Int))=some (.inl (x.1,x.2))):
  ∀(j k:Nat) (x:Rt) (f:Nat),k+j=l.length->j < f->Aq B f (x.1,x.2,(k:Int))=some (cond (Xo x<|l.drop k).2 (.inl (Xo x<|l.drop k).1)<|.inr ((0,0),false))
 |0,k,x,f,d,h=>by
  obtain⟨f,rfl⟩:∃g,f=g+1:=⟨f - 1,by omega⟩;obtain rfl:k=l.length:=by omega
  rw[A6,e,CJ];rfl
 |j+1,k,x,f,d,h=>by
  obtain⟨f,rfl⟩:∃g,f=g+1:=⟨f - 1,by omega⟩;have b:k < l.length:=by omega
  rw[A6,c _ x k b,AS b,Xo];cases i:(WT x l[k]).2 with
  |false=>rfl
  |true=>rw[Ai,Aa,Ab];exact fw c e j (k+1) (WT x l[k]).1 f (by omega) (by omega)
def mh(l:List Rt):Rt×Bool:=Xo (0,1) l
def eM:∀(l:List Rt) (x:Rt),(Xo x l).2=false->Xo x l=((0,0),false)
 |[],x,h=>by rw[Xo]at h;cases h
 |r::l,x,h=>by
  rw[Xo]at h⊢;cases a:(WT x r).2 with
  |false=>rfl
  |true=>rw[a,Ab]at h;rw[Ab];exact eM l _ h
def Ah5{l:List Rt}(h:l.length<=lim):NL l=some (mh l):=by
 unfold NL mh;have b:=fw (B:=HU l) (l:=l) (λrec x k c=>by simp only[HU];rw[Bc c,Ab,AG c,Bo,nX,Bo,Bm c (Ba h)]) (λrec x=>by simp only[HU];rw[A2,Aa]) l.length 0 (0,1) fz (by omega) (EC h);have a:Aq (HU l) fz (0,1,0)=_:=b;rw[a,Bo,Cj];cases d:(Xo (0,1) l).2 with
 |true=>exact congrArg some<|Prod.ext rfl d.symm
 |false=>rw[eM _ _ d];rfl
def AfS{l:List Rt}(h:l.length<=lim):NC l=some (mh l):=by
 unfold NC mh;have b:=fw (B:=HI l) (l:=l) (λrec x k c=>by simp only[HI];rw[Bc c,Ab,AG c,Bo,jm,Bo,Bm c (Ba h)]) (λrec x=>by simp only[HI];rw[A2,Aa]) l.length 0 (0,1) fz (by omega) (EC h);have a:Aq (HI l) fz (0,1,0)=_:=b;rw[a,Bo,Cj];cases d:(Xo (0,1) l).2 with
 |true=>exact congrArg some<|Prod.ext rfl d.symm
 |false=>rw[eM _ _ d];rfl
def Zi(p:List (R9×Rt))(v:Int):List Rt:=(p.filter λx=>x.1.2.contains v).map (·.2)
def rh(p:List (R9×Rt))(x:R9×Rt)(v:Int):Zi (p++[x]) v=cond (x.1.2.contains v) (Zi p v++[x.2]) (Zi p v):=by
 unfold Zi;rw[Gn,BM];cases h:x.1.2.contains v with
 |true=>rw[EQ,At h];rfl
 |false=>rw[EQ,As (by rw[h];simp)];simp
def dt(p:List (R9×Rt))(v:Int):(Zi p v).length<=p.length:=by unfold Zi;rw[Am];exact Ey ..
def kM{B p v}(c:p.length<=lim)
  (d:∀a (y:List Rt) k (b:k < p.length),y.length+1<=lim->B a (y,(k:Int))=cond (p[k].1.2.contains v) (a (y++[p[k].2],((k+1:Nat):Int))) (a (y,((k+1:Nat):Int)))) (e:∀a (y:List Rt),B a (y,(p.length:Int))=some y):Aq B fz ([],0)=some (Zi p v):=by
 have:=DQ (body:=B) (out:=Zi p v) (λk=>(Zi (p.take k) v,(k:Int))) p.length (λk b a=>by have f:=dt (p.take k) v;rw[Av]at f;rw[d a _ k b (by omega),A7 b,rh];cases p[k].1.2.contains v<;>rfl) (λrec=>by rw[e,Bl]) fz (EC c);simpa[Zi]using this
def YC(p:List (R9×Rt))(v:Int):Bool:= !(mh<|Zi p v).2 || decide (mf (mh<|Zi p v).1 (1,1) < 0)
def V0(q:K8)(w:List Rt):Bool:=GY q&&(((w.length:Int)==(q.2.1.length:Int))&&(!BL w (λ_ r=> !wOk r)&& !((List.range q.1.toNat).any λv=>YC (q.2.1.zip w) (v:Int))))
def vy{q w}(d:T4 q)(h:w.length<=lim)(e:∀a:R9,a.2.length<=lim->∀v,Dy a v=some (a.2.contains v)):IU q w=some (V0 q w):=by
 unfold IU V0;rw[UG d,Bo];cases g:GY q with
 |false=>rfl
 |true=>
  have o:=T0 g;rw[Ai,Aa,yS h,Bo,AK];cases i:((w.length:Int)==(q.2.1.length:Int))with
  |false=>rw[D5];rfl
  |true=>
   rw[BK]at i;cases s:BL w λ_ r=> !wOk r with
   |true=>rfl
   |false=>
    simp only[BT,CE,AK,Ai,Aa];have f:(q.2.1.zip w).length=q.2.1.length:=by rw[KF];omega
    rw[DX (n:=q.1.toNat) (λv=>YC (q.2.1.zip w) (v:Int)) (by unfold lim;omega) (λv j l=>by
     unfold J6
     rw[Ae (by omega),Ab,kM (p:=q.2.1.zip w) (v:=(v:Int)) (by rw[f];exact d.1) (λrec y k t m=>by
      have c:k < q.2.1.length:=by omega
      have b:k < w.length:=by omega
      simp only[G6,G7];rw[Bc b,Ab,AG c,Bo,e _ (d.2.1 _ (Aj c)).2,Bo,AG b,Bo,Aw (by rw[Af];exact m),Bm b (Ba h),Ho]) (λrec y=>by
      simp only[G6];rw[f,show(q.2.1.length:Int)=(w.length:Int)by omega,A2,Aa]),Bo,Ah5 (BH (dt _ _) (by rw[f];exact d.1)),Bo,vK,Bo,wrap_in (by omega)]
     unfold YC;cases(mh<|Zi (q.2.1.zip w) (v:Int)).2 with
     |false=>rfl
     |true=>simp only[Ai,Aa,CH];rfl) (λrec=>by
     unfold J6;rw[Ac (by omega),Aa]),Bo]
    cases(List.range q.1.toNat).any λv=>YC (q.2.1.zip w) (v:Int)<;>rfl
def tH{q w}(c:T4 q)(h:w.length<=lim)(d:∀a:R9,a.2.length<=lim->∀v,Dw a v=some (a.2.contains v)):IG q w=some (V0 q w):=by
 unfold IG V0;rw[Uw c,Bo];cases g:GY q with
 |false=>rfl
 |true=>
  have o:=T0 g;rw[Ai,Aa,AK,bne];cases i:((w.length:Int)==(q.2.1.length:Int))with
  |false=>rfl
  |true=>
   rw[BK]at i;rw[Ai,Aa,AfB h,Bo];cases s:BL w λ_ r=> !wOk r with
   |true=>rfl
   |false=>
    simp only[BT,CE,AK,Ai,Aa];have e:(q.2.1.zip w).length=q.2.1.length:=by rw[KF];omega
    rw[DX (n:=q.1.toNat) (λv=>YC (q.2.1.zip w) (v:Int)) (by unfold lim;omega) (λv j l=>by
     unfold JZ
     rw[Ae (by omega),Ab,kM (p:=q.2.1.zip w) (v:=(v:Int)) (by rw[e];exact c.1) (λrec y k t m=>by
      have b:k < q.2.1.length:=by omega
      have f:k < w.length:=by omega
      simp only[G3,G4];rw[Bc b,Ab,AG b,Bo,d _ (c.2.1 _ (Aj b)).2,Bo,AG f,Bo,Aw (by rw[Af];exact m),Bm b (Ba c.1),Ho]) (λrec y=>by
      simp only[G3];rw[e,A2,Aa]),Bo,AfS (BH (dt _ _) (by rw[e];exact c.1)),Bo,tW,Bo,wrap_in (by omega)]
     unfold YC;cases(mh<|Zi (q.2.1.zip w) (v:Int)).2 with
     |false=>rfl
     |true=>simp only[Ai,Aa,CH];rfl) (λrec=>by
     unfold JZ;rw[Ac (by omega),Aa]),Bo]
    cases(List.range q.1.toNat).any λv=>YC (q.2.1.zip w) (v:Int)<;>rfl
def YU(r:Rt):Bool:=I1 r&&decide (0<=r.1)
def scN(d:Int)(r:Rt):Int:=d.tdiv (Nat.gcd d.natAbs r.2.natAbs:Nat) * r.2
def scD:Int->List Rt->Option Int
 |d,[]=>some d
 |d,r::l=>cond (decide (1000 < scN d r)) none<|scD (scN d r) l
def vQ{d r}(h:1<=d∧d<=1000)(a:I1 r=true):wZ (d.tdiv (Nat.gcd d.natAbs r.2.natAbs:Nat))=d.tdiv (Nat.gcd d.natAbs r.2.natAbs:Nat)∧wZ (scN d r)=scN d r∧1<=scN d r:=by
 have f:=Kb a;obtain⟨n,rfl⟩:∃n:Nat,d=(n:Int):=⟨d.toNat,by omega⟩;obtain⟨m,b⟩:∃m:Nat,r.2=(m:Int):=⟨r.2.toNat,by omega⟩;unfold scN;rw[b,Int.natAbs_natCast,Int.natAbs_natCast];have c:0 < Nat.gcd n m:=J4 _ (by omega);have e:Int.tdiv (n:Int) ((Nat.gcd n m:Nat):Int)=((n / Nat.gcd n m:Nat):Int):=rfl;have i:n / Nat.gcd n m<=n:=Nat.div_le_self _ _;have g:1<=n / Nat.gcd n m:=Nat.div_pos (Nat.le_of_dvd (by omega)<|Nat.gcd_dvd_left n m) c;have j:n / Nat.gcd n m * m<=1000 * 1000000000:=Fy (by omega) (by omega);have k:1 * 1<=n / Nat.gcd n m * m:=Fy g (by omega);have e2:((n / Nat.gcd n m:Nat):Int) * (m:Int)=((n / Nat.gcd n m * m:Nat):Int):=by simp
 rw[e,e2];exact⟨wrap_in (by omega),wrap_in (by omega),by omega⟩
def Yr(d:Int)(l:List Rt):Sum Int (zI×Int):=cond (BL l λ_ r=> !YU r) (.inr ([],0)) (match scD d l with|none=>.inr ([],0)|some d=>.inl d)
def bM{α:Type}(x:α)(l:List α)(f:α->Bool):BL (x::l) (λ_ e=>f e)=(f x || BL l λ_ e=>f e):=by unfold BL;rw[Ar,List.range_succ_eq_map,Ft,List.any_map];congr 1
def Aah{w}(h:w.length<=lim):∀(j k:Nat) (d:Int) (f:Nat),k+j=w.length->1<=d∧d<=1000->j < f->Aq (Gz w) f (d,(k:Int))=some (Yr d<|w.drop k)
 |0,k,d,f,o,c,p=>by obtain⟨f,rfl⟩:∃g,f=g+1:=⟨f - 1,by omega⟩;rw[A6,Cl (by omega),Gz,Ac (by omega),Aa];rfl
 |j+1,k,d,f,o,c,p=>by
  obtain⟨f,rfl⟩:∃g,f=g+1:=⟨f - 1,by omega⟩;have a:k < w.length:=by omega
  rw[A6,AS a,Yr,bM];simp only[Gz,AG a,Bo,ST];rw[Bc a,Ab,Bm a (Ba h)];unfold YU;cases i:I1 w[k]with
  |false=>rfl
  |true=>
   by_cases l:0<=w[k].1
   ·have s:=Kb i;have⟨q,e2,r⟩:=vQ c i;have m:=vD d.natAbs w[k].2.natAbs (by omega);rw[show((d.natAbs:Nat):Int)=d by omega,show((w[k].2.natAbs:Nat):Int)=w[k].2 by omega]at m;have t:0 < Nat.gcd d.natAbs w[k].2.natAbs:=J4 _ (by omega);have b:wZ (d.tdiv ((Nat.gcd d.natAbs w[k].2.natAbs:Nat):Int) * w[k].2)=scN d w[k]:=e2;rw[Ae l,Ac (by omega:¬w[k].1 < 0),Ai,Aa,Aa,m,Bo,Aw (by omega),q,b,scD];by_cases n:1000 < scN d w[k]
    ·rw[Ae n];simp only[Ab,AK,Ai,CH];cases BL (w.drop<|k+1) λ_ e=> !(I1 e&&decide (0<=e.1))<;>rfl
    ·rw[Ac n,Aa,Aa,Aah h j (k+1) (scN d w[k]) f (by omega) ⟨r,by omega⟩ (by omega)];simp only[AK,Ai,CH];rfl
   ·rw[Ac l,Ae (by omega:w[k].1 < 0)];rfl
def zM{w}(h:w.length<=lim)(c:∀r∈w,YU r=true):∀(j k:Nat) (d:Int) (f:Nat),k+j=w.length->1<=d∧d<=1000->j < f->Aq (Gg w) f (d,(k:Int))=some (match scD d (w.drop k)with|none=>.inr ([],0)|some d=>.inl d)
 |0,k,d,f,n,e,o=>by obtain⟨f,rfl⟩:∃g,f=g+1:=⟨f - 1,by omega⟩;rw[A6,Cl (by omega),Gg,Ac (by omega),Aa];rfl
 |j+1,k,d,f,n,e,o=>by
  obtain⟨f,rfl⟩:∃g,f=g+1:=⟨f - 1,by omega⟩;have a:k < w.length:=by omega
  have i:I1 w[k]=true:=by have:=c _<|Aj a;unfold YU at this;rw[Ad]at this;exact this.1
  have s:=Kb i;have⟨p,e2,q⟩:=vQ e i;have l:=tJ d.natAbs w[k].2.natAbs (by omega);rw[show((d.natAbs:Nat):Int)=d by omega,show((w[k].2.natAbs:Nat):Int)=w[k].2 by omega]at l;have t:0 < Nat.gcd d.natAbs w[k].2.natAbs:=J4 _ (by omega);have b:wZ (d.tdiv ((Nat.gcd d.natAbs w[k].2.natAbs:Nat):Int) * w[k].2)=scN d w[k]:=e2;rw[A6,AS a];simp only[Gg,AG a,Bo];rw[Bc a,Ab,Bm a (Ba h),l,Bo,Aw (by omega),p,b,scD];by_cases m:1000 < scN d w[k]
  ·rw[Ae m];rfl
  ·rw[Ac m,Aa,Aa];exact zM h c j (k+1) (scN d w[k]) f (by omega) ⟨q,by omega⟩ (by omega)
def scI(d:Int)(r:Rt):Int:=wZ<|r.1 * wZ (Int.tdiv d r.2)
def PD(w:List Rt):zI×Int:=match Yr 1 w with
 |.inl d=>(w.map<|scI d,d)
 |.inr r=>r
def vS{w d}(h:Yr 1 w=.inl d):∀r∈w,YU r=true:=λr b=>by
 unfold Yr at h;cases a:BL w λ_ r=> !YU r with
 |true=>rw[a]at h;cases h
 |false=>simpa using PM a b
def cN{w}(h:w.length<=lim):Fq w=some (PD w):=by
 unfold Fq PD;have e:=Aah h w.length 0 1 fz (by omega) (by omega)<|EC h;have b:Aq (Gz w) fz (1,0)=some (Yr 1 w):=e;rw[b,Bo];cases f:Yr 1 w with
 |inr r=>rfl
 |inl d=>
  have g:=vS f;simp only
  rw[Jo (a:=w) (h:=scI d) h (λk c i=>by
   have j:I1 w[k]=true:=by have:=g _<|Aj c;unfold YU at this;rw[Ad]at this;exact this.1
   have l:=Kb j;simp only[Mg];rw[Bc c,Ab,AG c,Bo,Bo,Aw (by omega),Aw (by simp only[Am,Av,Af];omega),Bm c (Ba h)];rfl) (λrec y=>by simp only[Mg];rw[A2,Aa]),Bo]
def jo{w:List Rt}(h:w.length<=lim):Gf w=some (PD w):=by
 unfold Gf PD
 rw[H1 (n:=w.length) (λk=>I0 w k λr=> !YU r) (([]:zI),(0:Int)) h (λk b f=>by
  unfold LV;rw[Bc b,Ab,AG b,Bo,gq,Bo,Bm b (Ba h),Cx b];unfold YU;cases I1 w[k]with
  |false=>rfl
  |true=>
   by_cases j:0<=w[k].1
   ·rw[Ae j,Ac (by omega:¬w[k].1 < 0)];rfl
   ·rw[Ac j,Ae (by omega:w[k].1 < 0)];rfl) (λrec=>by unfold LV;rw[A2,Aa]),Bo]
 have e:((List.range w.length).any λk=>I0 w k λr=> !YU r)=BL w λ_ r=> !YU r:=rfl
 rw[e];unfold Yr;cases m:BL w λ_ r=> !YU r with
 |true=>rfl
 |false=>
  have l:∀r∈w,YU r=true:=λr g=>by simpa using PM m g
  have i:=zM h l w.length 0 1 fz (by omega) (by omega)<|EC h;have c:Aq (Gg w) fz (1,0)=some (match scD 1 w with|none=>.inr ([],0)|some d=>.inl d):=i;simp only[Aa];rw[c,Bo];cases scD 1 w with
  |none=>rfl
  |some d=>
   simp only
   rw[Jo (a:=w) (h:=scI d) h (λk b f=>by
    have g:I1 w[k]=true:=by have:=l _<|Aj b;unfold YU at this;rw[Ad]at this;exact this.1
    have o:=Kb g;simp only[LW];rw[Bc b,Ab,AG b,Bo,Aw (by omega),Aw (by simp only[Am,Av,Af];omega),Bm b (Ba h)];rfl) (λrec y=>by simp only[LW];rw[A2,Aa]),Bo]
def toR:Option Nat->zI×Bool
 |some v=>(C6 v,true)
 |none=>([],false)
def cap(v:Nat):Option Nat:=if v < 10 ^ 60 then some v else none
def Aa4(v:Nat):gR v=toR (cap v):=by
 unfold gR cap;by_cases h:v < 10 ^ 60
 ·rw[Ae h,At h];rfl
 ·rw[Ac h,As h];rfl
def iO{v x}(h:cap v=some x):x=v∧v < 10 ^ 60:=by
 unfold cap at h;split at h
 ·cases h;exact⟨rfl,by assumption⟩
 ·cases h
def Zr{m n}(a:m < 10 ^ 60)(b:n < 10 ^ 60):fJ (C6 m) (C6 n)=toR (cap<|m * n):=by unfold fJ;rw[XP a,XP b,Vq,Vq,Aa4];rfl
def pwA(n:Nat):Nat->Nat->Option Nat
 |acc,0=>some acc
 |acc,k+1=>match cap (acc * n)with
  |some x=>pwA n x k
  |none=>none
def vg{n}:∀(k acc x:Nat),acc < 10 ^ 60->pwA n acc k=some x->x < 10 ^ 60
 |0,acc,x,h,e=>by rw[pwA]at e;cases e;exact h
 |k+1,acc,x,h,e=>by
  rw[pwA]at e;cases a:cap (acc * n)with
  |none=>rw[a]at e;cases e
  |some y=>rw[a]at e;obtain⟨rfl,b⟩:=iO a;exact vg k _ x b e
def toS:Option Nat->Sum zI (zI×Bool)
 |some v=>.inl<|C6 v
 |none=>.inr ([],false)
abbrev PwB:=(zI×Int->Option (Sum zI<|zI×Bool))->zI×Int->Option (Sum zI<|zI×Bool)
def eJ{B n}{e:Nat}(c:n < 10 ^ 60)(d:∀a acc k,acc < 10 ^ 60->k < e->B a (C6 acc,(k:Int))=cond (!(fJ (C6 acc)<|C6 n).2) (some<|.inr ([],false)) (a ((fJ (C6 acc)<|C6 n).1,((k+1:Nat):Int))))(h:∀a y,B a (y,(e:Int))=some (.inl y)):
  ∀(j k acc f:Nat),k+j=e->acc < 10 ^ 60->j < f->Aq B f (C6 acc,(k:Int))=some (toS<|pwA n acc j)
 |0,k,acc,f,i,b,l=>by
  obtain⟨f,rfl⟩:∃g,f=g+1:=⟨f - 1,by omega⟩;obtain rfl:k=e:=by omega
  rw[A6,h];rfl
 |j+1,k,acc,f,i,b,l=>by
  obtain⟨f,rfl⟩:∃g,f=g+1:=⟨f - 1,by omega⟩;rw[A6,d _ acc k b (by omega),Zr b c,pwA];cases m:cap (acc * n)with
  |none=>rfl
  |some x=>obtain⟨rfl,o⟩:=iO m;exact eJ c d h j (k+1) (acc * n) f (by omega) o (by omega)
def O8(n k:Int):Option Nat:=cond (decide (n < 0)) none<|cond (FX k 0 100) (pwA n.toNat 1 k.toNat) none
def RX{n k x}(h:O8 n k=some x):x < 10 ^ 60:=by
 unfold O8 at h;cases a:decide (n < 0)with
 |true=>rw[a]at h;cases h
 |false=>
  cases b:FX k 0 100 with
  |false=>rw[a,b]at h;cases h
  |true=>rw[a,b]at h;exact vg _ _ _ (by decide) h
def Pq{n}(h:n < 10 ^ 60):(C6 n).length<=lim:=lG<|Sb h
def qn{n k}(f:n<=9223372036854775807):JC n k=some (toR<|O8 n k):=by
 unfold JC O8;by_cases c:n < 0
 ·rw[Ae c];rfl
 ·rw[Ac c,Aa,Aa,Jv,Bo];cases g:FX k 0 100 with
  |false=>rfl
  |true=>
   rw[H0]at g;have d:n.toNat < 10 ^ 60:=by omega
   rw[Ai,Aa,Ab,nT (by omega),Bo];have b:=eJ (B:=KY n k) (n:=n.toNat) (e:=k.toNat) d (λrec acc i h hi=>by simp only[KY];rw[Ae (by omega),Ab,nT f,Bo,nV (Pq h) (Pq d),Bo,wrap_in (by omega)];rfl) (λrec y=>by simp only[KY];rw[Ac (by omega),Aa]) k.toNat 0 1 fz (by omega) (by decide) (by unfold fz;omega);have a:Aq (KY n k) fz (C6<|Int.toNat 1,0)=some (toS<|pwA n.toNat 1 k.toNat):=b;rw[a,Bo];cases pwA n.toNat 1 k.toNat<;>rfl
def tU{n k}(f:n<=9223372036854775807):LU n k=some (toR<|O8 n k):=by
 unfold LU O8;by_cases c:n < 0
 ·rw[Ae c];rfl
 ·rw[Ac c,Aa,Aa,FC,Bo];cases g:FX k 0 100 with
  |false=>rfl
  |true=>
   rw[H0]at g;have d:n.toNat < 10 ^ 60:=by omega
   rw[Ai,Aa,Ab,nh (by omega),Bo];have b:=eJ (B:=Kx n k) (n:=n.toNat) (e:=k.toNat) d (λrec acc i h hi=>by simp only[Kx];rw[Ae (by omega),Ab,nh f,Bo,nj (Pq h) (Pq d),Bo,wrap_in (by omega)];rfl) (λrec y=>by simp only[Kx];rw[Ac (by omega),Aa]) k.toNat 0 1 fz (by omega) (by decide) (by unfold fz;omega);have a:Aq (Kx n k) fz (C6<|Int.toNat 1,0)=some (toS<|pwA n.toNat 1 k.toNat):=b;rw[a,Bo];cases pwA n.toNat 1 k.toNat<;>rfl
def prO:Nat->List (Int×Int)->Option Nat
 |v,[]=>some v
 |v,p::l=>match O8 p.1 p.2 with
  |none=>none
  |some x=>match cap (v * x)with
   |some y=>prO y l
   |none=>none
def vd:∀(l:List (Int×Int)) (v x:Nat),v < 10 ^ 60->prO v l=some x->x < 10 ^ 60
 |[],v,x,h,e=>by rw[prO]at e;cases e;exact h
 |p::l,v,x,h,e=>by
  rw[prO]at e;cases b:O8 p.1 p.2 with
  |none=>rw[b]at e;cases e
  |some y=>
   rw[b]at e;simp only at e;cases a:cap (v * y)with
   |none=>rw[a]at e;cases e
   |some z=>rw[a]at e;obtain⟨rfl,c⟩:=iO a;exact vd l _ x c e
def bI{o}(h:∀x,o=some x->x < 10 ^ 60):∃m,m < 10 ^ 60∧(toR o).1=C6 m:=by
 cases o with
 |none=>exact⟨0,by decide,by rw[Nm];rfl⟩
 |some x=>exact⟨x,h x rfl,rfl⟩
def bm{B:PwB}{l:List (Int×Int)}(d:∀a v k (h:k < l.length),v < 10 ^ 60->B a (C6 v,(k:Int))=cond (!(toR<|O8 l[k].1 l[k].2).2) (some<|.inr ([],false)) (cond (!(fJ (C6 v) (toR<|O8 l[k].1 l[k].2).1).2) (some<|.inr ([],false))<|a ((fJ (C6 v) (toR<|O8 l[k].1 l[k].2).1).1,((k+1:Nat):Int))))(i:∀a y,B a (y,(l.length:Int))=some (.inl y)):
  ∀(j k v f:Nat),k+j=l.length->v < 10 ^ 60->j < f->Aq B f (C6 v,(k:Int))=some (toS<|prO v<|l.drop k)
 |0,k,v,f,h,c,m=>by
  obtain⟨f,rfl⟩:∃g,f=g+1:=⟨f - 1,by omega⟩;obtain rfl:k=l.length:=by omega
  rw[A6,i,CJ];rfl
 |j+1,k,v,f,h,c,m=>by
  obtain⟨f,rfl⟩:∃g,f=g+1:=⟨f - 1,by omega⟩;have b:k < l.length:=by omega
  rw[A6,d _ v k b c,AS b,prO];cases n:O8 l[k].1 l[k].2 with
  |none=>rfl
  |some x=>
   have e:(toR<|some x).1=C6 x:=rfl;rw[e,Zr c (RX n)];simp only;cases o:cap (v * x)with
   |none=>rfl
   |some y=>obtain⟨rfl,p⟩:=iO o;exact bm d i j (k+1) (v * x) f (by omega) p (by omega)
def Ta(a b:zI):Option Nat:=cond ((a.length:Int)!=(b.length:Int)) none<|prO 1<|a.zip b
def Tc{a b x}(h:Ta a b=some x):x < 10 ^ 60:=by
 unfold Ta at h;cases c:((a.length:Int)!=(b.length:Int))with
 |true=>rw[c]at h;cases h
 |false=>rw[c]at h;exact vd _ _ _ (by decide) h
def qm{a b}(h:a.length<=lim)(j:∀e∈a,e<=9223372036854775807):Fp a b=some (toR<|Ta a b):=by
 unfold Fp Ta;cases n:((a.length:Int)!=(b.length:Int))with
 |true=>rfl
 |false=>
  rw[DW]at n;have i:(a.zip b).length=a.length:=by rw[KF];omega
  rw[Aa,Aa,nT (by omega),Bo]
  have f:=bm (B:=Gy a b) (l:=a.zip b) (λrec v k t p=>by
   have c:k < a.length:=by omega
   have g:k < b.length:=by omega
   have⟨m,q,r⟩:=bI (o:=O8 a[k] b[k]) λx s=>RX s
   simp only[Gy,Ho];rw[Bc c,Ab,AG c,Bo,AG g,Bo,qn (j _ (Aj c)),Bo,nV (Pq p) (by rw[r];exact Pq q),Bo,Bm c (Ba h)]) (λrec y=>by
   simp only[Gy];rw[i,A2,Aa]) (a.zip b).length 0 1 fz (by omega) (by decide) (by rw[i];exact EC h)
  have d:Aq (Gy a b) fz (C6<|Int.toNat 1,0)=some (toS<|prO 1<|a.zip b):=f;rw[d,Bo];cases prO 1 (a.zip b)<;>rfl
def tT{a b}(h:a.length<=lim)(j:∀e∈a,e<=9223372036854775807):Gd a b=some (toR<|Ta a b):=by
 unfold Gd Ta;cases n:((a.length:Int)!=(b.length:Int))with
 |true=>rfl
 |false=>
  rw[DW]at n;have i:(a.zip b).length=a.length:=by rw[KF];omega
  rw[Aa,Aa,nh (by omega),Bo]
  have f:=bm (B:=Ge a b) (l:=a.zip b) (λrec v k t p=>by
   have c:k < a.length:=by omega
   have g:k < b.length:=by omega
   have⟨m,q,r⟩:=bI (o:=O8 a[k] b[k]) λx s=>RX s
   simp only[Ge,Ho];rw[Bc c,Ab,AG c,Bo,AG g,Bo,tU (j _ (Aj c)),Bo,nj (Pq p) (by rw[r];exact Pq q),Bo,Bm c (Ba h)]) (λrec y=>by
   simp only[Ge];rw[i,A2,Aa]) (a.zip b).length 0 1 fz (by omega) (by decide) (by rw[i];exact EC h)
  have d:Aq (Ge a b) fz (C6<|Int.toNat 1,0)=some (toS<|prO 1<|a.zip b):=f;rw[d,Bo];cases prO 1 (a.zip b)<;>rfl
def pY:∀(l:List (Int×Int)) (v:Nat),(∃p∈l,p.1 < 0)->prO v l=none
 |[],_,⟨p,a,_⟩=>by cases a
 |q::l,v,⟨p,a,b⟩=>by
  rw[prO];rcases AA.1 a with rfl|a
  ·have:O8 p.1 p.2=none:=by unfold O8;rw[Ae b];rfl
   rw[this]
  ·cases O8 q.1 q.2 with
   |none=>rfl
   |some x=>
    simp only;cases cap (v * x)with
    |none=>rfl
    |some y=>exact pY l y ⟨p,a,b⟩
def wpB(a:zI)(w:List Rt)(n b:Int):Bool:=decide (0 < (PD w).2)&&(match Ta a (PD w).1,O8 n (PD w).2,O8 b (PD w).2 with
 |some x,some y,some z=>decide (x * z < 10 ^ 60)&&decide (y<=x * z)
 |_,_,_=>false)
def jc(m n:Nat):decide (lb m n<=0)=decide (m<=n):=by
 unfold lb;rcases GV m n with h|h|h
 ·rw[Ae h,Ae (by omega:m<=n)];rfl
 ·subst h;rw[Ac (by omega:¬m < m),Ae (by omega:m<=m)];rfl
 ·rw[Ac (by omega:¬m < n),Ae h,Ac (by omega:¬m<=n)];rfl
def p6:∀k,pwA 1 1 k=some 1
 |0=>rfl
 |k+1=>by
  rw[pwA];have:cap (1 * 1)=some 1:=by unfold cap;rw[At (by decide)]
  rw[this];exact p6 k
def pow_one{k}(h:0<=k∧k<=100):O8 1 k=some 1:=by unfold O8;rw[(H0 (x:=k) (lo:=0) (hi:=100)).2 h];exact p6 _
def pX{n k}(h:¬(0<=k∧k<=100)):O8 n k=none:=by unfold O8;rw[show FX k 0 100=false by rw[Bool.eq_false_iff];intro a;exact h (H0.1 a)];cases decide (n < 0)<;>rfl
def AhQ{a w n}(ha:a.length<=lim)(hI:∀e∈a,e<=9223372036854775807)(hw:w.length<=lim)(hn:n<=9223372036854775807):JV a w n=some (wpB a w n 1):=by
 unfold JV wpB;rw[cN hw,Bo,qm ha hI,Bo,qn hn,Bo];by_cases hd:0 < (PD w).2
 ·rw[Ae hd,Ab,AK];cases hx:Ta a (PD w).1 with
  |none=>rfl
  |some x=>
   cases hy:O8 n (PD w).2 with
   |none=>rfl
   |some y=>
    have hk:0<=(PD w).2∧(PD w).2<=100:=Bv λhh=>by rw[pX hh]at hy;cases hy
    have lx:=Tc hx;rw[pow_one hk];simp only[toR,Ab];rw[nU (RX hy) lx,Bo,jc,Nat.mul_one,Ae lx];rfl
 ·rw[Ac hd];rfl
def AfU{a w n fac}(g:a.length<=lim)(p:∀e∈a,e<=9223372036854775807)(q:w.length<=lim)(r:n<=9223372036854775807)(s:fac<=9223372036854775807):KC a w n fac=some (wpB a w n fac):=by
 unfold KC wpB;rw[jo q,Bo];by_cases h:n < 0
 ·have:O8 n (PD w).2=none:=by unfold O8;rw[Ae h];rfl
  rw[Ae h,Ab,this];cases Ta a (PD w).1<;>simp
 ·rw[Ac h,Aa];by_cases l:0 < (PD w).2
  ·rw[Ac (by omega:¬(PD w).2 < 1),Aa,Ae l,AK];by_cases b:100 < (PD w).2
   ·rw[Ae b,Ab,pX (by omega)];cases Ta a (PD w).1<;>rfl
   ·rw[Ac b,Aa,DX (n:=a.length) (λk=>I0 a k λe=>decide (e < 0)) g (λk b t=>by unfold NZ;rw[Bc b,Ab,AG b,Bo,Bm b (Ba g),Cx b]) (λrec=>by unfold NZ;rw[A2,Aa]),Bo];have e:((List.range a.length).any λk=>I0 a k λe=>decide (e < 0))=BL a λ_ e=>decide (e < 0):=rfl
    rw[e];cases m:BL a λ_ e=>decide (e < 0)with
    |true=>
     have:Ta a (PD w).1=none:=by
      unfold Ta;cases u:((a.length:Int)!=((PD w).1.length:Int))with
      |true=>rfl
      |false=>rw[DW]at u;rw[Aa];unfold BL at m;have⟨k,i,c⟩:=C4.1 m;have j:k < a.length:=AQ.1 i;rw[Cx j,Bu]at c;exact pY _ _ ⟨(a[k],(PD w).1[k]'(by omega)),by have:(a.zip (PD w).1)[k]'(by rw[KF];omega)=(a[k],(PD w).1[k]'(by omega)):=Ho;rw[<-this];exact Aj _,c⟩
     rw[this];rfl
    |false=>
     simp only[Aa];rw[tU r,Bo,tT g p,Bo,tU s,Bo];have⟨F,v,A⟩:=bI (o:=Ta a (PD w).1) λx d=>Tc d
     have⟨H,B,e2⟩:=bI (o:=O8 fac (PD w).2) λx d=>RX d
     rw[nj (by rw[A];exact Pq v) (by rw[e2];exact Pq B),Bo];cases d:Ta a (PD w).1 with
     |none=>cases O8 n (PD w).2<;>rfl
     |some x=>
      cases C:O8 n (PD w).2 with
      |none=>rfl
      |some y=>
       cases D:O8 fac (PD w).2 with
       |none=>rfl
       |some z=>
        simp only[toR,Ab];rw[Zr (Tc d) (RX D)];unfold cap;by_cases f:x * z < 10 ^ 60
        ·rw[At f];simp only[toR,Ab];rw[tK (RX C) f,Bo,jc,Ae f];rfl
        ·rw[As f,Ac f];rfl
  ·rw[Ae (by omega:(PD w).2 < 1),Ac l];rfl
def AfD{a w n}(b:a.length<=lim)(c:∀e∈a,e<=9223372036854775807)(d:w.length<=lim)(f:n<=9223372036854775807):JO a w n=some (wpB a w n 1):=by unfold JO;rw[AfU b c d f (by omega),Bo]
def skB(q:K8):Int:=cond (GY q) (2 * q.1 * (q.2.1.length:Int)) 0
def n9{q}(h:GY q=true):wZ (wZ (wZ (2 * q.1) * (q.2.1.length:Int)) * 1)=skB q∧skB q<=1000∧0<=skB q:=by
 obtain⟨c,d,f,-⟩:=bo h;unfold skB;rw[h,Ab];have a:q.1=1∨q.1=2∨q.1=3∨q.1=4∨q.1=5:=by omega
 have b:0<=2 * q.1 * (q.2.1.length:Int)∧2 * q.1 * (q.2.1.length:Int)<=40:=by rcases a with e|e|e|e|e<;>rw[e]<;>omega
 rw[wrap_in (n:=2 * q.1) (by omega),wrap_in (n:=2 * q.1 * (q.2.1.length:Int)) (by omega),Int.mul_one,wrap_in (by omega)];exact⟨rfl,by omega,b.1⟩
def Aji{q}(a:T4 q):QW q 1=some (skB q):=by
 unfold QW;rw[UG a,Bo];cases h:GY q with
 |false=>unfold skB;rw[h];rfl
 |true=>rw[Ai,Aa,Jv,Bo,show FX 1 0 1000000=true from rfl,Ai,Aa,(n9 h).1]
def AiV{q}(a:T4 q):Qw q 1=some (skB q):=by
 unfold Qw;rw[Uw a,Bo];cases h:GY q with
 |false=>unfold skB;rw[h];rfl
 |true=>rw[Ai,Aa,FC,Bo,show FX 1 0 1000000=true from rfl,Ai,Aa,(n9 h).1]
def v4{q}:skB q<=9223372036854775807:=by
 cases h:GY q with
 |true=>have:=n9 h;omega
 |false=>unfold skB;rw[h];show(0:Int)<=9223372036854775807;decide
def yQ{q a w n}(d:T4 q)(g:a.length<=lim)(h:∀e∈a,e<=9223372036854775807)(i:w.length<=lim)(j:n<=9223372036854775807):IV q a w n=some (GY q&&wpB a w n (skB q)):=by
 unfold IV wpB;rw[cN i,Bo,qm g h,Bo,qn j,Bo,Aji d,Bo,qn v4,Bo];have⟨s,k,l⟩:=bI (o:=Ta a (PD w).1) λx b=>Tc b
 have⟨t,m,e2⟩:=bI (o:=O8 (skB q) (PD w).2) λx b=>RX b
 rw[nV (by rw[l];exact Pq k) (by rw[e2];exact Pq m),Bo];by_cases f:0 < (PD w).2
 ·rw[Ae f,Ab,AK];cases b:Ta a (PD w).1 with
  |none=>rw[D5];rfl
  |some x=>
   cases p:O8 n (PD w).2 with
   |none=>rw[D5];rfl
   |some y=>
    cases r:O8 (skB q) (PD w).2 with
    |none=>rw[D5];rfl
    |some z=>
     simp only[toR,Ab];rw[Zr (Tc b) (RX r)];unfold cap;by_cases c:x * z < 10 ^ 60
     ·rw[At c];simp only[toR,Ab];rw[UG d,Bo];cases GY q with
      |false=>rfl
      |true=>rw[Ab,nU (RX p) c,Bo,jc,Ae c];rfl
     ·rw[As c,Ac c,Hm,D5];rfl
 ·rw[Ac f,Hm,D5];rfl
def xE{q a w n}(b:T4 q)(c:a.length<=lim)(d:∀e∈a,e<=9223372036854775807)(f:w.length<=lim)(g:n<=9223372036854775807):IH q a w n=some (GY q&&wpB a w n (skB q)):=by
 unfold IH;rw[Uw b,Bo];cases GY q with
 |false=>rfl
 |true=>rw[Ab,AiV b,Bo,AfU c d f g v4,Bo];rfl
abbrev Crt:=zI×List Rt×zI×Int×Int
def smC(c:Crt):Prop:=c.1.length<=lim∧c.2.1.length<=lim∧c.2.2.1.length<=lim∧(∀e∈c.2.2.1,e<=9223372036854775807)∧c.2.2.2.1<=9223372036854775807∧c.2.2.2.2<=9223372036854775807
def icB(q:K8)(c:Crt):Bool:=Un q c.1&&(V0 q c.2.1&&(((c.2.2.1.length:Int)==(q.2.1.length:Int))&&(!BL c.2.2.1 (λ_ e=> !FX e 0 16)&&(wpB c.2.2.1 c.2.1 c.2.2.2.1 1&&(GY q&&wpB c.2.2.1 c.2.1 c.2.2.2.2 (skB q))))))
def Ad9{q c}(d:T4 q)(h:smC c):Fh q c=some (icB q c):=by
 have⟨i,f,a,g,j,l⟩:=h;unfold Fh icB;rw[ql d i,Bo];cases Un q c.1 with
 |false=>rfl
 |true=>
  rw[Ai,Aa,vy d f (λa m v=>rX m v),Bo];cases V0 q c.2.1 with
  |false=>rfl
  |true=>
   rw[Ai,Aa,bne];cases((c.2.2.1.length:Int)==(q.2.1.length:Int))with
   |false=>rfl
   |true=>
    rw[Ai,Aa,DX (λk=>I0 c.2.2.1 k λe=> !FX e 0 16) a (λk b n=>by unfold JA;rw[Bc b,Ab,AG b,Bo,Jv,Bo,Bm b (Ba a),Cx b]) (λrec=>by unfold JA;rw[A2,Aa]),Bo];have e:((List.range c.2.2.1.length).any λk=>I0 c.2.2.1 k λe=> !FX e 0 16)=BL c.2.2.1 λ_ e=> !FX e 0 16:=rfl
    rw[e];cases BL c.2.2.1 λ_ e=> !FX e 0 16 with
    |true=>rfl
    |false=>
     simp only[Aa];rw[AhQ a g f j,Bo];cases wpB c.2.2.1 c.2.1 c.2.2.2.1 1 with
     |false=>rfl
     |true=>rw[Ab,yQ d a g f l,Bo];rfl
def AfN{q c}(d:T4 q)(h:smC c):Fc q c=some (icB q c):=by
 have⟨i,f,a,g,j,l⟩:=h;unfold Fc icB;rw[po d i,Bo];cases Un q c.1 with
 |false=>rfl
 |true=>
  rw[Ai,Aa,tH d f (λa m v=>ro m v),Bo];cases V0 q c.2.1 with
  |false=>rfl
  |true=>
   rw[Ai,Aa,bne];cases((c.2.2.1.length:Int)==(q.2.1.length:Int))with
   |false=>rfl
   |true=>
    rw[Ai,Aa,DX (λk=>I0 c.2.2.1 k λe=> !FX e 0 16) a (λk b n=>by unfold Jg;rw[Bc b,Ab,AG b,Bo,FC,Bo,Bm b (Ba a),Cx b]) (λrec=>by unfold Jg;rw[A2,Aa]),Bo];have e:((List.range c.2.2.1.length).any λk=>I0 c.2.2.1 k λe=> !FX e 0 16)=BL c.2.2.1 λ_ e=> !FX e 0 16:=rfl
    rw[e];cases BL c.2.2.1 λ_ e=> !FX e 0 16 with
    |true=>rfl
    |false=>
     simp only[Aa];rw[AfD a g f j,Bo];cases wpB c.2.2.1 c.2.1 c.2.2.2.1 1 with
     |false=>rfl
     |true=>rw[Ab,xE d a g f l,Bo];rfl
end Go.Proofs.YtpnoalhfjnjeaaaGreatDoor
