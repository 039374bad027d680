/- The bindings of an atom: the reference and the program agree. On the printed functions; conditions: the atom fits its relation. -/
import Derived.Test.YtdnlfoelbfcmnaaGreatDoorNrRP1
import Derived.Test.YtdnlfoelbfcmnaaGreatDoorQuRP1
import Derived.Test.YtdnlfoelbfcmnaaGreatDoorUpRP1
import Derived.Test.YtdnlfoelbfcmnaaGreatDoorKc
open Go.RowKit
set_option linter.all false
namespace Go.Proofs.YtdnlfoelbfcmnaaGreatDoor
section
def yv{l v k}(h:Wh l v=some k):∃d:k < l.length,l[k]=v:=by
 unfold Wh at h;have⟨j,b,a⟩:=List.exists_of_findSome?_eq_some h;have b:=AB.1 b;rw[BV b]at a;split at a
 ·rename_i c;injection a with a
  subst a;exact⟨b,by simpa using c⟩
 ·cases a
def Lz{l v}(h:l.contains v=true):∃k:Nat,∃a:k < l.length,CN l v=(k:Int)∧l[k]=v:=by rw[<-Yh]at h;have⟨k,a⟩:=G0.1 h;have⟨b,c⟩:=yv a;exact⟨k,b,by unfold CN;rw[a],c⟩
theorem AfO{a:MA}(h:a.2.length<=lim):HD a=some (IG a 5):=by
 unfold HD
 have:=CD (body:=Hs a) (out:=IG a 5) (λk=>(IG a k,(k:Int))) 5 (λk hk rec=>by
  have hl:=LR a k
  unfold Hs JS
  simp only
  rw[Ai (by omega:(k:Int) < 5),tg h,wrap_in (by omega),AaX]
  simp only[Ac,AV]
  cases a.2.contains (k:Int)with
  |true=>rw[Ac,A1 (by unfold lim;simp;omega)];rfl
  |false=>rw[Ab,Ab,AR];rfl) (λrec=>by unfold Hs;simp only;rfl) fz (by unfold fz;omega)
 rw[show((([]:zI),(0:Int)))=(IG a 0,((0:Nat):Int))from rfl,this]
 rfl
def X8{a v}:v∈IG a 5↔(0<=v∧v < 5)∧a.2.contains v=true:=by
 unfold IG;rw[A5];constructor
 ·rintro⟨n,d,rfl⟩;have b:=Bj.1 d;have c:=AB.1 b.1;exact⟨by omega,b.2⟩
 ·rintro⟨b,c⟩;exact⟨v.toNat,Bj.2 ⟨AB.2 (by omega),by rw[show((v.toNat:Nat):Int)=v by omega];exact c⟩,by omega⟩
def Ox(a:MA):Prop:=a.2.length<=5∧∀v∈a.2,0<=v∧v < 5
def Va(V r:zI)(k:Nat):Bool:=(List.range k).all λi=>LH r (CN V<|LH V (i:Int))==LH r (i:Int)
def ot(V r:zI)(k:Nat):Va V r (k+1)=(Va V r k&&(LH r (CN V<|LH V (k:Int))==LH r (k:Int))):=by unfold Va;rw[Fb,E8];simp
def rowOf(a:MA)(r:zI):zI:=(IG a 5).map λv=>LH r<|CN a.2 v
def Hi{l}{k:Nat}(h:k < l.length):LH l (k:Int)=l[k]:=by unfold LH;rw[AI h];rfl
def AjK{a:MA}{r}(c:Ox a)(i:r.length=a.2.length){R:List zI}{m:Int}{j:Nat}(d:AN R (j:Int)=some r):Ap (Kx a (IG a 5) ((m,R),true) (j:Int)) fz (([]:zI),0)=some (rowOf a r):=by have k:=LR a 5;unfold rowOf;exact H5 (a:=IG a 5) (h:=λv=>LH r (CN a.2 v)) (by unfold lim;omega) (λk b e=>by have f:=(X8.1<|Ad b).2;have⟨p,l,g,n⟩:=Lz f;rw[Kx];rw[Bi b,d,AI b,Bm b (by unfold maxLen;omega),Ac,AV,AV,Ot (by have:=c.1;unfold lim;omega),AV,g,AI (by omega:p < r.length),AV,A1 (by simp only[Aj,At,Al];unfold lim;omega),Hi (by omega:p < r.length)]) (λrec y=>by rw[Kx];rw[Bc];rfl)
def AjC{a r}(g:Ox a)(u:r.length=a.2.length){R:List zI}{m:Int}{j:Nat}(n:AN R (j:Int)=some r):Ap (GB a (IG a 5) ((m,R),true) (j:Int)<|rowOf a r) fz (true,0)=some (Va a.2 r a.2.length):=by
 have v:=LR a 5
 have:=CD (body:=GB a (IG a 5) ((m,R),true) (j:Int) (rowOf a r)) (out:=Va a.2 r a.2.length) (λk=>(Va a.2 r k,(k:Int))) a.2.length (λk d e=>by
  have c:=Ad d;have o:=g.2 _ c;have h:a.2.contains a.2[k]=true:=by rw[Av];exact c
  have i:(IG a 5).contains a.2[k]=true:=by rw[Av];exact X8.2 ⟨o,h⟩
  have⟨p,q,s,t⟩:=Lz i;have f:AN (rowOf a r) (p:Int)=some (LH r<|CN a.2 a.2[k]):=by rw[Hp];unfold rowOf;rw[BP,Ae q,t];rfl
  have l:∀b:Bool,GC e (k:Int) b=e (b,((k+1:Nat):Int)):=λb=>by rw[GC,Bm d (by have:=g.1;unfold maxLen;omega)]
  rw[GB,ot,Hi d];rw[Bi d,AI d,Ac,AV,Ot (by unfold lim;omega),AV,s,Ai (by omega:(0:Int)<=(p:Int)),Ac,f,AV,n,AV,AI (by omega:k < r.length),AV,Hi (by omega:k < r.length),l,l];cases Va a.2 r k<;>rfl) (λrec=>by rw[GB];rw[Bc];rfl) fz (DN (by have:=g.1;unfold lim;omega))
 exact this
def dN{α β:Type}(f:α->Bool)(g:α->β){l:List α}{k:Nat}(a:k < l.length):((l.take<|k+1).filter f).map g=((l.take k).filter f).map g++cond (f l[k]) [g l[k]] []:=by rw[U9 f a,Bd];cases f l[k]<;>rfl
def V8(a:MA)(R:List zI):List zI:=(R.filter λr=>Va a.2 r a.2.length).map<|rowOf a
def g6(a:MA)(R:List zI)(k:Nat):((((R.take k).filter λr=>Va a.2 r a.2.length).map<|rowOf a)).length<=k:=by rw[Aj];exact BC (Ca _ _) (by simp;omega)
def Aaf{a}(d:Ox a){R:List zI}{m:Int}(g:∀r∈R,r.length=a.2.length)(h:R.length<=4000):Ap (GA a (IG a 5) ((m,R),true)) fz (([]:List zI),0)=some (V8 a R):=by
 have:=CD (body:=GA a (IG a 5) ((m,R),true)) (out:=V8 a R) (λk=>(((R.take k).filter λr=>Va a.2 r a.2.length).map (rowOf a),(k:Int))) R.length (λk b c=>by
  have e:=g _<|Ad b;have i:=g6 a R k;have f:∀y:List zI,Ia c (k:Int) y=c (y,((k+1:Nat):Int)):=λy=>by rw[Ia,Bm b (by unfold maxLen;omega)]
  rw[GA,dN _ _ b];rw[Bi b,Ac,AjK d e (AI b),AV,AjC d e (AI b),AV,f,f];cases Va a.2 R[k] a.2.length with
  |true=>rw[Ac,A1 (by simp only[Al];unfold lim;omega)];rfl
  |false=>rw[Ab,Ab,AR]) (λrec=>by rw[GA];rw[Bc,AT];rfl) fz (DN (by unfold lim;omega))
 exact this
def WS(V r:zI):Nat->zI
 |0=>List.replicate 5 0
 |k+1=>(WS V r k).set (LH V (k:Int)).toNat<|LH r (k:Int)
def ZK(V r:zI):∀k,(WS V r k).length=5
 |0=>rfl
 |k+1=>by rw[WS,Ch];exact ZK V r k
def rN{V r}(h5:∀v∈V,0<=v∧v < 5):∀k,k<=V.length->Va V r k=true->∀v:Int,0<=v->(∃i,∃hi:i < k,LH V (i:Int)=v)->LH (WS V r k) v=LH r (CN V v)
 |0,_,_,v,_,⟨i,hi,_⟩=>absurd hi (by omega)
 |k+1,hk,hf,v,h0,⟨i,hi,he⟩=>by
  rw[ot,Aa]at hf;have hkl:k < V.length:=by omega
  have hvk:=h5 _<|Ad hkl;have hlen:=ZK V r k;by_cases hv:LH V (k:Int)=v
  ·have h2:LH r (CN V<|LH V (k:Int))=LH r (k:Int):=by simpa using hf.2
   rw[hv]at h2;rw[h2,WS,hv];rw[Hi hkl]at hv;obtain⟨w,rfl⟩:∃w:Nat,v=(w:Int):=⟨v.toNat,by omega⟩;rw[Aq,Hi (by rw[Ch];omega),List.getElem_set_self]
  ·have hik:i < k:=by
    rcases Bb i k with h|h
    ·exact h
    ·exfalso;apply hv;rw[<-he];congr 1;omega
   have ih:=rN h5 k (by omega) hf.1 v h0 ⟨i,hik,he⟩
   have hvi:v < 5:=by
    have hil:i < V.length:=by omega
    rw[<-he,Hi hil];exact(h5 _<|Ad hil).2
   rw[<-ih,WS];have e:v=((v.toNat:Nat):Int):=by omega
   have h1:v.toNat < (WS V r k).length:=by omega
   have h2:v.toNat < ((WS V r k).set (LH V (k:Int)).toNat<|LH r (k:Int)).length:=by rw[Ch];exact h1
   conv=>lhs;rw[e]
   conv=>rhs;rw[e]
   rw[Hi h2,Hi h1,DQ];rw[Ay (λe2=>by rw[Hi hkl]at e2 hv;omega)]
def Adg{a r}(g:Ox a)(o:r.length=a.2.length):Ap (Gq a r) fz (List.replicate (Int.toNat 5) (0:Int),true,0)=some (WS a.2 r a.2.length,Va a.2 r a.2.length):=by
 have:=CD (body:=Gq a r) (out:=(WS a.2 r a.2.length,Va a.2 r a.2.length)) (λk=>(WS a.2 r k,Va a.2 r k,(k:Int))) a.2.length (λk e f=>by
  have d:=Ad e;have q:=g.2 _ d;have h:a.2.contains a.2[k]=true:=by rw[Av];exact d
  have⟨p,s,l,t⟩:=Lz h;have i:=ZK a.2 r k;have c:k < r.length:=by omega
  have j:∀b:Bool,HU f r (WS a.2 r k) (k:Int) a.2[k] b=f (WS a.2 r<|k+1,b,((k+1:Nat):Int)):=by
   intro b;have m:a.2[k]=((a.2[k].toNat:Nat):Int):=by omega
   rw[HU,AI c,AV,Bm e (by have:=g.1;unfold maxLen;omega),WS,Hi e,Hi c]
   have n:AN (WS a.2 r k) a.2[k]=some ((WS a.2 r k)[a.2[k].toNat]'(by omega)):=by
    conv=>lhs;rw[m]
    exact AI (by omega)
   rw[n,AV];rfl
  rw[Gq,ot,Hi e];rw[Bi e,AI e,Ac,AV,Q0 (by have:=g.1;unfold lim;omega),AV,l,AI (by omega:p < r.length),AI c,AV,AV,j,j,Hi (by omega:p < r.length),Hi c];cases Va a.2 r k<;>rfl) (λrec=>by rw[Gq];rw[Bc];rfl) fz (DN (by have:=g.1;unfold lim;omega))
 exact this
def yE{a}(g:Ox a){R:List zI}{m:Int}(l:∀r∈R,r.length=a.2.length)(s:R.length<=4000):Ap (Gp a (IG a 5) ((m,R),true)) fz (([]:List zI),0)=some (V8 a R):=by
 have:=CD (body:=Gp a (IG a 5) ((m,R),true)) (out:=V8 a R) (λk=>(((R.take k).filter λr=>Va a.2 r a.2.length).map (rowOf a),(k:Int))) R.length (λk c d=>by
  have n:=l _<|Ad c;have t:=g6 a R k
  have b:Va a.2 R[k] a.2.length=true->SA (WS a.2 R[k] a.2.length) (IG a 5)=some (rowOf a R[k]):=by
   intro f;have o:=LR a 5;rw[oE (by unfold lim;omega) (λc p=>by have:=(X8.1 p).1;rw[ZK];omega)];unfold FP rowOf;congr 1;refine Cf λv q=>?_
   have h:=X8.1 q;refine rN g.2 a.2.length (AJ _) f v h.1.1 ?_;have:=h.2;rw[Av]at this;have⟨i,hi,e⟩:=AY.1 this;exact⟨i,hi,by rw[Hi hi];exact e⟩
  rw[Gp,dN _ _ c];rw[Bi c,AI c,Ac,AV,A1 (by unfold lim;omega),Adg g n,AV];simp only;have j:∀y:List zI,HV d (k:Int) y=d (y,((k+1:Nat):Int)):=λy=>by rw[HV,Bm c (by unfold maxLen;omega)]
  cases f:Va a.2 R[k] a.2.length with
  |true=>rw[Ac,b f,AV,A1 (by simp only[Al];unfold lim;omega),j];rfl
  |false=>rw[Ab,Ab,AR,j]) (λrec=>by rw[Gp];rw[Bc,AT];rfl) fz (DN (by unfold lim;omega))
 exact this
theorem Zq{m:Int}{L:List zI}(hm:Hv m 0 5=true)(hl:L.length<=4000)(hr:∀r∈L,(r.length:Int)=m∧Py r=true):Mr (m,sortB L)=true:=by
 unfold Mr
 simp only[Aa,AH,CV]
 refine⟨hm,by have:=ND L;omega,J0 λi hi=>?_⟩
 have h1:=hr _ ((Mt L _).1 (Ad hi))
 unfold R8
 rw[h1.2,h1.1]
 simp only[Dz,An,C3]
 by_cases h0:0 < i
 ·rw[Ai h0,AL,BV (by omega:i - 1 < (sortB L).length)]
  have:=BK.1 (Qn L) (i - 1) i (by omega) hi (by omega)
  exact Af (by omega)
 ·rw[Af h0,Hx]
theorem mN{m:Int}{L:List zI}(hm:Hv m 0 5=true)(hl:L.length<=4000)(hr:∀r∈L,(r.length:Int)=m∧Py r=true):nrB m L=((m,sortB L),true):=by
 unfold nrB
 have e:Bt L (λ_ x=>S7 m x)=false:=J0 λi hi=>by
  have h1:=hr _ (Ad hi)
  unfold S7
  rw[h1.2,h1.1];simp
 rw[e,Zq hm hl hr];rfl
def Qi{r}(h:Mr r=true):0<=r.1∧r.1<=5∧r.2.length<=4000∧∀x∈r.2,(x.length:Int)=r.1∧Py x=true:=by unfold Mr Hv at h;simp only[Aa,Bf,AH,CV]at h;refine⟨h.1.1,h.1.2,by omega,λx a=>?_⟩;obtain⟨i,hi,rfl⟩:=AY.1 a;have:=FJ h.2.2 hi;unfold R8 at this;simp only[B9,Dm]at this;exact⟨by simpa using this.1.1,this.1.2⟩
def df{x}(h:Py x=true){k:Nat}(a:k < x.length):0<=x[k]∧x[k]<=99:=by unfold Py at h;simp only[AH]at h;have:=FJ h a;unfold Hv at this;simpa using this
def jp{x}(h:∀v∈x,0<=v∧v<=99):Py x=true:=by unfold Py;rw[J0 λi hi=>by have:=h _ (Ad hi);unfold Hv;simp;omega];rfl
def vL{d nm}(h:(H4 d nm).2=true):Mr (H4 d nm).1=true∧(H4 d nm).1.2.length<=16:=by
 unfold H4 at *;split at h
 ·rename_i a;rw[Aw a];cases b:d.find? (λt=>t.1==nm)with
  |none=>rw[b]at h;cases h
  |some t=>simp only;have c:=List.mem_of_find?_eq_some b;unfold dbB at a;simp only[Aa,AH]at a;obtain⟨i,hi,rfl⟩:=AY.1 c;have:=FJ a.2 hi;unfold WO at this;simp only[B9,Dm,CV]at this;exact⟨this.1.1.2,by have:=this.1.2;omega⟩
 ·cases h
def abB(d:List QE)(a:MA):Int×List zI:=(((IG a 5).length:Int),sortB<|V8 a (H4 d a.1).1.2)
def AfL{a r}(f:Ox a)(g:r.length=a.2.length)(c:Py r=true):((rowOf a r).length:Int)=((IG a 5).length:Int)∧Py (rowOf a r)=true:=by refine⟨by unfold rowOf;rw[Aj],jp λv b=>?_⟩;unfold rowOf at b;obtain⟨u,d,rfl⟩:=A5.1 b;have⟨p,h,e,i⟩:=Lz (X8.1 d).2;rw[e,Hi (by omega:p < r.length)];exact df c (by omega)
def cl{d a}(i:Ox a)(b:GP d a=true):(∀r∈(H4 d a.1).1.2,r.length=a.2.length)∧(H4 d a.1).1.2.length<=16∧∀r∈V8 a (H4 d a.1).1.2,(r.length:Int)=((IG a 5).length:Int)∧Py r=true:=by
 unfold GP at b;rw[Aa]at b;have f:=vL b.1;have g:=Qi f.1;have j:(H4 d a.1).1.1=(a.2.length:Int):=by simpa using b.2
 have h:∀r∈(H4 d a.1).1.2,r.length=a.2.length:=λr c=>by have:=(g.2.2.2 r c).1;omega
 refine⟨h,f.2,λr c=>?_⟩;unfold V8 at c;obtain⟨x,e,rfl⟩:=A5.1 c;have e:=(Bj.1 e).1;exact AfL i (h x e) (g.2.2.2 x e).2
def js(a:MA)(R:List zI):(V8 a R).length<=R.length:=by unfold V8;rw[Aj];exact Ca _ _
def av5(a:MA):Hv ((IG a 5).length:Int) 0 5=true:=by have:=LR a 5;unfold Hv;simp;omega
def pI{d a}(b:Ox a)(c:GP d a=true):GN (V8 a (H4 d a.1).1.2):=by have⟨g,h,e⟩:=cl b c;have i:=js a (H4 d a.1).1.2;have j:=LR a 5;exact⟨by unfold lim;omega,λr f=>by have:=(e r f).1;unfold lim;omega⟩
def Ajy{d a}(h:Ql d)(c:Ox a)(f:GP d a=true):Kw d a=some (abB d a):=by
 have⟨i,k,j⟩:=cl c f;have l:=js a (H4 d a.1).1.2;have b:=f;unfold GP at b;rw[Aa]at b;unfold Kw abB;rw[AfO (by have:=c.1;unfold lim;omega),AV,wU h,AV,b.1,An,Ab,show((H4 d a.1).1.1 !=(a.2.length:Int))=false by rw[bne,b.2];rfl,Ab];have g:=Aaf c (R:=(H4 d a.1).1.2) (m:=(H4 d a.1).1.1) i (by omega);have e:H4 d a.1=(((H4 d a.1).1.1,(H4 d a.1).1.2),true):=by rw[<-b.1]
 rw[<-e]at g;rw[g,AV,wW (pI c f),AV,mN (av5 a) (by omega) j];rfl
def u4{n l}(c:1<=n∧n<=5)(d:l.length<=5)(h:∀v∈l,0<=v∧v < n):Ga n l=some true:=by
 unfold Ga;rw[Af (by omega),Ab,DJ (n:=l.length) (λk=>Hg l k λv=>Pi n v) (by unfold lim;omega) (λk a b=>by rw[Ft];rw[Bi a,AI a,Bm a (by unfold maxLen;omega),BV a,Ac,AV,HT,AV];rfl) (λrec=>by rw[Ft];rw[Bc];rfl),AV];have e:((List.range l.length).any λk=>Hg l k λv=>Pi n v)=false:=J0 (l:=l) (f:=λ_ v=>Pi n v) λi hi=>by have:=h _<|Ad hi;unfold Pi Hv;rw[wrap_in (by omega)];simp;omega
 rw[e];rfl
def Ahy{d a}(h:Ql d)(c:Ox a)(g:GP d a=true):Ka d a=some (abB d a):=by
 have⟨j,k,l⟩:=cl c g;have b:=g;unfold GP at b;rw[Aa]at b;have f:a.2.length<=lim:=by have:=c.1;unfold lim;omega
 unfold Ka abB;rw[uZ f (λv=>mm f v),AV,u6 h,AV,b.1,An,Ab,show((H4 d a.1).1.1 !=(a.2.length:Int))=false by rw[bne,b.2];rfl,Ab,u4 (by omega) c.1 c.2,AV,An,Ab];have i:=yE c (R:=(H4 d a.1).1.2) (m:=(H4 d a.1).1.1) j (by omega);have e:H4 d a.1=(((H4 d a.1).1.1,(H4 d a.1).1.2),true):=by rw[<-b.1]
 rw[<-e]at i;rw[i,AV,oK (pI c g),AV]
def jk{d a}(b:Ox a)(c:GP d a=true):Mr (abB d a)=true∧(abB d a).2.length<=16:=by have⟨f,g,e⟩:=cl b c;have h:=js a (H4 d a.1).1.2;have i:=ND<|V8 a (H4 d a.1).1.2;exact⟨Zq (av5 a) (by omega) e,by unfold abB;simp only;omega⟩
def Re{d q}(h:E3 d q=true):JZ q=true∧(∀a∈q.2.1,Ox a∧GP d a=true)∧q.2.1.length<=4:=by
 unfold E3 at h;simp only[Aa,AH]at h;have⟨c,j,f⟩:=h;have⟨g1,g2,g,e⟩:=UP c;refine⟨c,λa b=>⟨⟨(e a b).2.1,λv i=>?_⟩,?_⟩,g⟩
 ·have:=(e a b).2.2 v i;omega
 ·have:=O4 f b;simpa using this
section
variable {d:List QE}{q:Jz}
def i5{l}(h:WW l):l.Nodup:=by rw[CJ];exact h.imp λh e=>by subst e;rw[SJ]at h;omega
end
def EH(n:Nat)(S:Nat->Bool):zI:=((List.range n).filter S).map λ(v:Nat)=>(v:Int)
def V6(n:Nat)(S:Nat->Bool):(EH n S).length<=n:=by unfold EH;rw[Aj];exact BC (Ca _ _) (by simp)
def tN(n:Nat)(S:Nat->Bool):EH (n+1) S=EH n S++(if S n=true then [(n:Int)]else []):=by
 unfold EH;rw[Fb,CA,Bd];split
 ·rename_i h;simp[h]
 ·rename_i h;simp[h]
def xU{n S x}(h:x∈EH n S):x < n:=by unfold EH at h;obtain⟨v,a,rfl⟩:=A5.1 h;have:=AB.1 (Bj.1 a).1;omega
def upN(e m:Nat)(S:Nat->Bool):zI:=((List.range m).filter λ(v:Nat)=>S<|e+1+v).map λ(v:Nat)=>((e+1+v:Nat):Int)
def xC{e m:Nat}{S x}(h:x∈upN e m S):(e:Int) < x:=by unfold upN at h;obtain⟨v,a,rfl⟩:=A5.1 h;omega
def g5{n e:Nat}(b:e < n)(S:Nat->Bool):EH n S=EH e S++((if S e=true then [(e:Int)]else [])++upN e (n - (e+1)) S):=by
 have h:n=(e+1)+(n - (e+1)):=by omega
 have a:∀m,EH ((e+1)+m) S=EH (e+1) S++upN e m S:=by intro m;unfold EH upN;rw[List.range_add,CA,Bd];congr 1;rw[List.filter_map,EU];rfl
 conv=>lhs;rw[h]
 rw[a,tN,Bk]
def ZU(S:Nat->Bool)(e:Nat):Nat->Bool:=λv=>S v || v==e
def asc_add{n e:Nat}(b:e < n)(S:Nat->Bool):EH n (ZU S e)=EH e S++((e:Int)::upN e (n - (e+1)) S):=by
 rw[g5 b]
 have c:EH e (ZU S e)=EH e S:=by
  unfold EH;congr 1;apply IX;intro v a;have:=AB.1 a;unfold ZU;have:(v==e)=false:=by simp;omega
  rw[this,FC]
 have d:upN e (n - (e+1)) (ZU S e)=upN e (n - (e+1)) S:=by
  unfold upN;congr 1;apply IX;intro v a;unfold ZU;have:(e+1+v==e)=false:=by simp;omega
  rw[this,FC]
 have f:ZU S e e=true:=by simp[ZU]
 rw[c,d,f];rfl
def Agh{A R e}(g:∀x∈A,x < e)(h:∀x∈R,e<=x)(d:(A++R).length<=lim):Ap (ME (A++R) e) fz 0=some (A.length:Int):=by
 have b:A.length<=lim:=by simp at d;omega
 refine CD (body:=ME (A++R) e) (λk=>(k:Int)) A.length (λk f i=>?_) (λrec=>?_) fz<|DN b
 ·have a:k < (A++R).length:=by simp;omega
  have c:(A++R)[k]=A[k]:=Dn f;simp only[ME,Bi a,Ac,AI a,G,c];rw[Ai (g _<|Ad f),Ac,Bm a (Ba d)]
 ·cases R with
  |nil=>simp only[AR,ME,Bc,Ab]
  |cons x R=>
   have a:A.length < (A++x::R).length:=by simp
   have c:(A++x::R)[A.length]=x:=by rw[E9 (AJ _)];simp
   simp only[ME,Bi a,Ac,AI a,G,c];rw[Af (by have:=h x (by simp);omega),Ab]
def cE{l}(h:l.length<=lim):ED l=some l:=by unfold ED;rw[A1 (by simpa using h)];rfl
def Agi{S:Nat->Bool}{a1:zI}{k:Nat}(j:k < a1.length)(n:a1.length<=lim){e:Nat}(r:a1[k]=(e:Int))(h:e < 100)(b:(zI×Int)->Option zI):
  KJ a1 b (EH 100 S,(k:Int))=b (EH 100<|ZU S e,((k+1:Nat):Int)):=by
 have o:=V6 100 S;have s:(EH 100 S).length<=lim:=by unfold lim;omega
 have sp:=g5 h S;have t:=asc_add h S;have u:∀x∈EH e S,x < (e:Int):=λx c=>xU c
 have w:∀x∈(if S e=true then [(e:Int)]else [])++upN e (100 - (e+1)) S,(e:Int)<=x:=λx c=>by
  rcases Ak.1 c with c|c
  ·split at c
   ·simp at c;omega
   ·simp at c
  ·have:=xC c;omega
 have i:=Agh (e:=(e:Int)) u w (by rw[<-sp];exact s);rw[<-sp]at i;simp only[KJ,Bi j,Ac,AI j,G,r,i];cases l:S e with
 |true=>
  rw[l]at sp;simp only[Fl]at sp;have f:(EH e S).length < (EH 100 S).length:=by rw[sp];simp
  have m:AN (EH 100 S) ((EH e S).length:Int)=some (e:Int):=by rw[Hp,sp,BT (AJ _),H8];rfl
  have g:(((EH e S).length:Int)==((EH 100 S).length:Int))=false:=by simp;omega
  have y:ZU S e=S:=by
   funext v;unfold ZU;by_cases p:v=e
   ·subst p;rw[l];rfl
   ·have:(v==e)=false:=by simpa using p
    rw[this,FC]
  rw[g,Ab,m];simp only[Dz,MF,Ab,OE,Bm j (Ba n),y]
 |false=>
  rw[l]at sp;simp only[Ct,Dv,BI]at sp
  have d:MF b (EH 100 S) (k:Int) (e:Int) ((EH e S).length:Int) true=b (EH 100<|ZU S e,((k+1:Nat):Int)):=by
   have z:C2 (EH 100 S) 0 ((EH e S).length:Int)=EH e S:=by rw[WM,sp,List.take_left'];rfl
   have A:C2 (EH 100 S) ((EH e S).length:Int) ((EH 100 S).length:Int)=upN e (100 - (e+1)) S:=by unfold C2;rw[Aq,Aq,AT,sp,List.drop_left'];rfl
   have B:(EH e S).length<=(EH 100 S).length:=by rw[sp];simp
   have q:(EH e S).length+(upN e (100 - (e+1)) S).length=(EH 100 S).length:=by rw[sp,Au]
   simp only[MF,Ac];rw[A1 (by omega),z,cE (by omega)];simp only[G];rw[A1 (by simp only[Al];unfold lim;omega),A1 (by omega),A,A1 (by simp only[Au,Al];unfold lim;omega)];simp only[OE,Bm j (Ba n),t,Bk,BY,BI]
  by_cases a:(((EH e S).length:Int)==((EH 100 S).length:Int))=true
  ·rw[a,Ac];exact d
  ·rw[show(((EH e S).length:Int)==((EH 100 S).length:Int))=false by simpa using a,Ab]
   have f:(EH e S).length < (EH 100 S).length:=by
    have:(EH e S).length<=(EH 100 S).length:=by rw[sp];simp
    simp at a;omega
   have m:AN (EH 100 S) ((EH e S).length:Int)=some (EH 100 S)[(EH e S).length]:=AI f;rw[m]
   have g:((EH 100 S)[(EH e S).length]!=(e:Int))=true:=by
    have C:(EH 100 S)[(EH e S).length]∈upN e (100 - (e+1)) S:=by
     have:(EH 100 S)[(EH e S).length]? =some (EH 100 S)[(EH e S).length]:=Ae f
     conv at this=>lhs;rw[sp,BT (AJ _)]
     exact B3 this
    have:=xC C;simp;omega
   simp only[g];exact d
def gc(S:Nat->Bool)(l:zI):Nat->Bool:=λv=>S v || l.contains (v:Int)
def yN{S a1}(b:a1.length<=lim)(h:∀x∈a1,0<=x∧x<=99):Q5 (EH 100 S) a1=some (EH 100<|gc S a1):=by
 have c:=V6 100 S;unfold Q5;rw[cE (by unfold lim;omega)];have:=CD (body:=KJ a1) (out:=EH 100<|gc S a1) (λk=>(EH 100<|gc S<|a1.take k,(k:Int))) a1.length (λk a f=>?_) (λrec=>?_) fz<|DN b
 ·have g:gc S (a1.take 0)=S:=by funext v;simp[gc]
  rw[g]at this;simp only[G];rw[show((0:Nat):Int)=0 from rfl]at this;rw[this]
 ·have l:=h _ (Ad a);rw[Agi a b (e:=a1[k].toNat) (by omega) (by omega)];congr 2
  have:ZU (gc S<|a1.take k) a1[k].toNat=gc S (a1.take<|k+1):=by
   funext v;unfold ZU gc;rw[A6 a];simp only[Ma,Ak,AC,Bool.or_assoc];congr 1;by_cases d:v=a1[k].toNat
   ·subst d;have:((a1[k].toNat:Nat):Int)=a1[k]:=by omega
    rw[this];simp
   ·have i:(v==a1[k].toNat)=false:=by simpa using d
    have j:¬((v:Int)=a1[k]):=by omega
    rw[i];simp[j]
  rw[this]
 ·simp only[KJ,Bc,Ab,AT]
def Nf(W r A:zI):zI:=A.map λv=>LH r<|CN W v
def de{u}(g:Int->Int){v:Int}(a:v∈u):LH (u.map g) (CN u v)=g v:=by have⟨k,b,c,d⟩:=Lz<|Av.2 a;rw[c,Hi (by rw[Aj];exact b),BL,d]
def fB{W r}(hW:W.Nodup)(hr:r.length=W.length):Nf W r W=r:=by
 refine Di (by unfold Nf;rw[Aj,hr]) λi h1 h2=>?_
 have hi:i < W.length:=by omega
 have e9:(Nf W r W)[i]'h1=LH r (CN W W[i]):=BL _;rw[e9];have⟨k,hk,e1,e2⟩:=Lz<|Av.2<|Ad hi;have:k=i:=(DP hW).1 e2;subst this;rw[e1,Hi h2]
def JA(a r b s u:zI):Bool:=u.all λv=> !(a.contains v&&(b.contains v&&(LH r (CN a v)!=LH s (CN b v))))
def TM(a r b s:zI)(v:Int):Int:=if a.contains v=true then LH r (CN a v)else LH s (CN b v)
def PF(a r b s u:zI):zI:=u.map<|TM a r b s
def mi{W A u:zI}{rows B:List zI}(k:W.Nodup)(l:A.Nodup)(m:u.Nodup)(i:∀v,v∈u↔v∈W∨v∈A)(n:∀r∈rows,r.length=W.length)(o:∀s∈B,s.length=A.length)(z:zI):
  (∃r∈rows,∃s∈B,JA W r A s u=true∧z=PF W r A s u)↔z.length=u.length∧Nf u z W∈rows∧Nf u z A∈B:=by
 constructor
 ·rintro⟨r,f,s,g,j,rfl⟩;have c:∀v∈u,LH (PF W r A s u) (CN u v)=TM W r A s v:=λv a=>de _ a
  refine⟨by unfold PF;rw[Aj],?_,?_⟩
  ·have e:Nf u (PF W r A s u) W=Nf W r W:=by
    unfold Nf;refine Cf λv a=>?_
    rw[c v ((i v).2<|.inl a)];unfold TM;rw[Aw (Av.2 a)]
   rw[e,fB k (n r f)];exact f
  ·have e:Nf u (PF W r A s u) A=Nf A s A:=by
    unfold Nf;refine Cf λv a=>?_
    have d:=(i v).2<|.inr a;rw[c v d];unfold TM;by_cases b:W.contains v=true
    ·rw[Aw b];have:=Am.1 j v d;rw[b,Av.2 a]at this;simpa using this
    ·rw[Ay b]
   rw[e,fB l (o s g)];exact g
 ·rintro⟨f,g,j⟩;refine⟨_,g,_,j,?_,?_⟩
  ·unfold JA;rw[Am];intro v a;cases p:W.contains v with
   |false=>rfl
   |true=>
    cases c2:A.contains v with
    |false=>rfl
    |true=>rw[show LH (Nf u z W) (CN W v)=LH z (CN u v)from de (λv=>LH z<|CN u v) (Av.1 p),show LH (Nf u z A) (CN A v)=LH z (CN u v)from de (λv=>LH z<|CN u v) (Av.1 c2)];simp
  ·have e:PF W (Nf u z W) A (Nf u z A) u=Nf u z u:=by
    unfold PF;show _=u.map _;refine Cf λv a=>?_
    unfold TM;by_cases b:W.contains v=true
    ·rw[Aw b];exact de (λv=>LH z<|CN u v)<|Av.1 b
    ·rw[Ay b];rcases(i v).1 a with h|h
     ·exact absurd (Av.2 h) b
     ·exact de (λv=>LH z<|CN u v) h
   rw[e,fB m f]
theorem Td{a r:zI}{v:Int}(h:a.contains v=true)(hr:r.length=a.length):decide (0<=CN a v)=true∧AN r (CN a v)=some (LH r (CN a v)):=by
 obtain⟨k,hk,e1,e2⟩:=Lz h
 refine⟨by rw[HB,h],?_⟩
 rw[e1]
 exact jT ⟨by omega,by omega⟩
def u5{u a r b s}(D:u.length<=lim)(m:a.length<=lim)(n:b.length<=lim)(I:r.length=a.length)(F:s.length=b.length)(t:∀v∈u,a.contains v=true∨b.contains v=true):
  UF u a r b s=some (cond (JA a r b s u) (PF a r b s u,true) ([],false)):=by
 have⟨o,e,J⟩:=GV (B:=Je u a r b s) (λst=>∃k:Nat,st=(PF a r b s (u.take k),(k:Int))∧k<=u.length∧JA a r b s (u.take k)=true) (λst=>u.length - st.2.toNat) (λo=>o=cond (JA a r b s u) (.inl (PF a r b s u)) (.inr ([],false))) (λst w=>by
  obtain⟨k,rfl,y,g⟩:=w;by_cases c:k < u.length
  ·have H:u.take (k+1)=u.take k++[u[k]]:=by rw[I0,Ae c];rfl
   have z:wZ ((k:Int)+1)=((k+1:Nat):Int):=Bm c<|Ba D;have A:∀x:Int,(PF a r b s<|u.take k).length+[x].length<=lim:=λx=>by unfold PF;rw[Aj,At,Al];omega
   have C:∀x:Int,x=TM a r b s u[k]->PF a r b s (u.take k)++[x]=PF a r b s (u.take<|k+1):=λx K=>by rw[H];unfold PF;rw[Bd,K];rfl
   have d:(!(a.contains u[k]&&(b.contains u[k]&&(LH r (CN a u[k])!=LH s (CN b u[k])))))=true->JA a r b s (u.take<|k+1)=true:=λh=>by unfold JA at g⊢;rw[H,E8,g,By,h];rfl
   have j:=Ad c;cases f:a.contains u[k]with
   |true=>
    have⟨a1,p⟩:=Td f I;have q:TM a r b s u[k]=LH r (CN a u[k]):=by unfold TM;rw[Aw f]
    cases l:b.contains u[k]with
    |true=>
     have⟨b1,b2⟩:=Td l F;cases i:(LH r (CN a u[k])!=LH s (CN b u[k]))with
     |true=>
      left
      have L:JA a r b s u=false:=by
       cases h:JA a r b s u with
       |false=>rfl
       |true=>have:=Am.1 h u[k] j;rw[f,l,i]at this;cases this
      refine⟨_,rfl,λrec=>?_⟩;rw[L];simp only[Je];rw[Bi c,Ac,AI c,AV,Q0 m,AV,Q0 n,AV,a1,Ac,b1,Ac,p,AV,b2,AV,i];rfl
     |false=>right;refine⟨_,⟨k+1,rfl,c,d<|by rw[f,l,i];rfl⟩,by simp only[Aq];omega,λrec=>?_⟩;simp only[Je];rw[Bi c,Ac,AI c,AV,Q0 m,AV,Q0 n,AV,a1,Ac,b1,Ac,p,AV,b2,AV,i];simp only[L5,NV];rw[Ab,a1,Ac,p,AV,A1 (A _),C _ q.symm,z]
    |false=>right;refine⟨_,⟨k+1,rfl,c,d<|by rw[f,l];rfl⟩,by simp only[Aq];omega,λrec=>?_⟩;simp only[Je];rw[Bi c,Ac,AI c,AV,Q0 m,AV,Q0 n,AV,a1,Ac,HB,l,Ab];simp only[L5,NV];rw[Ab,a1,Ac,p,AV,A1 (A _),C _ q.symm,z]
   |false=>
    have l:b.contains u[k]=true:=(t _ j).resolve_left (by rw[f];simp);have⟨b1,b2⟩:=Td l F;have q:TM a r b s u[k]=LH s (CN b u[k]):=by unfold TM;rw[Ay (by rw[f];simp)]
    right;refine⟨_,⟨k+1,rfl,c,d<|by rw[f];rfl⟩,by simp only[Aq];omega,λrec=>?_⟩;simp only[Je];rw[Bi c,Ac,AI c,AV,Q0 m,AV,Q0 n,AV,HB,f,Ab];simp only[L5,NV];rw[Ab,HB,f,Ab,b2,AV,A1 (A _),C _ q.symm,z]
  ·have y:k=u.length:=by omega
   left;refine⟨_,rfl,λrec=>?_⟩;simp only[Je];rw[y,Bc,Ab];rw[y,AT]at g;rw[g,AT];rfl) fz ([],0) ⟨0,rfl,Cd _,rfl⟩ (by unfold fz;unfold lim at D;simp only;omega)
 unfold UF;rw[e,J];cases JA a r b s u<;>rfl
section
variable {d:List QE}{q:Jz}
def gl1(W A u r s:zI):List zI:=cond (JA W r A s u) [PF W r A s u] []
def cC(W A u:zI)(B:List zI)(r:zI):List zI:=B.flatMap<|gl1 W A u r
def yB(W A u r s:zI):(gl1 W A u r s).length<=1:=by unfold gl1;cases JA W r A s u<;>simp
def YV(W A u r:zI)(B:List zI)(k:Nat):((B.take k).flatMap<|gl1 W A u r).length<=k:=by
 refine BC ?_ (show(B.take k).length<=k by rw[At];omega);generalize B.take k=l;induction l with
 |nil=>simp
 |cons s l a=>have:=yB W A u r s;rw[Ax,Au,AD];omega
def Vc{α β:Type}(f:α->List β){l:List α}{k:Nat}(a:k < l.length):(l.take<|k+1).flatMap f=(l.take k).flatMap f++f l[k]:=by rw[I0,Ae a,Ku,CK,Ax,Fv,AR]
def co{n S x}:x∈EH n S↔∃v:Nat,v < n∧S v=true∧x=(v:Int):=by
 unfold EH;rw[A5];constructor
 ·rintro⟨v,c,rfl⟩;have⟨a,b⟩:=Bj.1 c;exact⟨v,AB.1 a,b,rfl⟩
 ·rintro⟨v,a,b,rfl⟩;exact⟨v,Bj.2 ⟨AB.2 a,b⟩,rfl⟩
def oa{l:zN}(h:l.Nodup):(l.map λ(v:Nat)=>(v:Int)).Nodup:=by unfold List.Nodup at h⊢;rw[Es];exact h.imp λh e=>h (by omega)
def gZ(n:Nat)(S:Nat->Bool):(EH n S).Nodup:=oa<|H7 E7 Ed
end
abbrev KW:=zI×Rln
def qD{x}:∀{l:List Row},x∉l->(Yn x l).length=l.length+1
 |[],_=>rfl
 |y::l,h=>by
  rw[Yn];split
  ·rfl
  ·split
   ·rename_i _ e;exact absurd (RA e ▸ BH) h
   ·rw[AD,qD λe=>h (A3 _ e),AD]
def rB:∀{l:List Row},l.Nodup->(sortB l).length=l.length
 |[],_=>rfl
 |x::l,h=>by have⟨a,b⟩:=BF.1 h;rw[show sortB (x::l)=Yn x (sortB l)from rfl,qD (λe=>a<|(Mt l x).1 e),rB b,AD]
def lt_eq:∀{a b:zI},a.Pairwise (· < ·)->b.Pairwise (· < ·)->(∀x,x∈a↔x∈b)->a=b
 |[],[],_,_,_=>rfl
 |[],y::b,_,_,h=>by have:=(h y).2 (by simp);simp at this
 |x::a,[],_,_,h=>by have:=(h x).1 (by simp);simp at this
 |x::a,y::b,ha,hb,h=>by
  have⟨a1,a2⟩:=Cn.1 ha;have⟨b1,b2⟩:=Cn.1 hb
  have hxy:x=y:=by
   rcases AE.1 ((h x).1<|by simp)with e|hx
   ·exact e
   ·rcases AE.1 ((h y).2<|by simp)with e|hy
    ·exact e.symm
    ·have h1:=b1 x hx;have h2:=a1 y hy;omega
  subst hxy;have hne:∀z∈a,z≠x:=λz hz e=>by subst e;have:=a1 z hz;omega
  have hne':∀z∈b,z≠x:=λz hz e=>by subst e;have:=b1 z hz;omega
  rw[lt_eq a2 b2 (λz=>⟨λhz=>(AE.1<|(h z).1<|by simp[hz]).resolve_left<|hne z hz,λhz=>(AE.1<|(h z).2<|by simp[hz]).resolve_left<|hne' z hz⟩)]
def cm(n:Nat)(S:Nat->Bool):(EH n S).Pairwise (· < ·):=by unfold EH;rw[Es];exact K5 (λh=>by omega)<|FG _ KM
def vsB(l:zI):Bool:= !Bt l λk e=> !Hv e 0 4 || Fm l k e
def jf{l}(h:vsB l=true):l.Pairwise (· < ·)∧∀v∈l,0<=v∧v<=4:=by
 unfold vsB at h;rw[AH,U1 l (λ_ e=> !Hv e 0 4) (λk e=>Fm l k e),B9]at h;refine⟨BK.2 λi j hi c a=>?_,λv b=>?_⟩
 ·have:=nV h.2 (j - i - 1) i (by omega);simpa only[show i+1+(j - i - 1)=j by omega]using this
 ·have:=O4 h.1 b;unfold Hv at this;simpa using this
def px{l}(h:vsB l=true){n:Nat}(e:5<=n):l=EH n λv=>l.contains (v:Int):=by
 have⟨b,c⟩:=jf h;refine lt_eq b (cm _ _) λx=>?_
 rw[co];constructor
 ·intro a;have:=c x a;exact⟨x.toNat,by omega,by rw[show((x.toNat:Nat):Int)=x by omega];exact Av.2 a,by omega⟩
 ·rintro⟨v,_,d,rfl⟩;exact Av.1 d
def xH(S:Nat->Bool):vsB (EH 5 S)=true:=by
 unfold vsB;rw[AH];refine J0 λi hi=>?_
 have⟨v,b,_,e⟩:=co.1<|Ad hi;rw[B9];refine⟨by unfold Hv;rw[e];simp;omega,?_⟩;unfold Fm;by_cases a:0 < i
 ·rw[BV (by omega)];have:=BK.1 (cm 5 S) (i - 1) i (by omega) hi (by omega);rw[Af (p:=(EH 5 S)[i]<=_) (by omega),Jv]
 ·rw[Af a];rfl
def Yy{l}(h:vsB l=true):l.length<=5:=by rw[px h (AJ 5)];exact V6 _ _
def je{l}(h:vsB l=true):l.Nodup:=by rw[px h (AJ 5)];exact gZ _ _
def EX(a b:zI):zI:=EH 5 λv=>a.contains (v:Int) || b.contains (v:Int)
def T8{a b}(c:vsB a=true)(d:vsB b=true)(v:Int):v∈EX a b↔v∈a∨v∈b:=by
 unfold EX;rw[co];constructor
 ·rintro⟨n,_,h,rfl⟩;rw[Ck]at h;exact h.imp Av.1 Av.1
 ·intro h;have e:0<=v∧v<=4:=h.elim ((jf c).2 v)<|(jf d).2 v;refine⟨v.toNat,by omega,?_,by omega⟩;rw[show((v.toNat:Nat):Int)=v by omega,Ck];exact h.imp Av.2 Av.2
def pw(a b:zI):(EX a b).Nodup:=gZ _ _
def ZH(a b:zI):(EX a b).length<=5:=V6 _ _
def Tq(b:KW):Bool:=vsB b.1&&(Mr b.2&&(b.2.1==(b.1.length:Int)))
def FB{b}(h:Tq b=true):vsB b.1=true∧b.2.2.length<=4000∧(∀r∈b.2.2,r.length=b.1.length∧Py r=true)∧WW b.2.2∧b.2.1=(b.1.length:Int):=by
 unfold Tq at h;rw[Aa,Aa]at h;have⟨d,f,g⟩:=h;have e:b.2.1=(b.1.length:Int):=by simpa using g
 obtain⟨-,i,a,j⟩:=(kI b.2).1 f;exact⟨d,i,λr c=>⟨by have:=(a r c).1;omega,(a r c).2⟩,j,e⟩
theorem AbV{b:KW}(h1:vsB b.1=true)(h2:b.2.2.length<=4000)(h3:∀r∈b.2.2,r.length=b.1.length∧Py r=true)(h4:WW b.2.2)(h5:b.2.1=(b.1.length:Int)):Tq b=true:=by
 have:=Yy h1
 unfold Tq
 rw[h1,(kI b.2).2 ⟨⟨by omega,by omega⟩,h2,λx hx=>⟨by have:=(h3 x hx).1;omega,(h3 x hx).2⟩,h4⟩,h5]
 simp
def kh(a b:KW):List Row:=a.2.2.flatMap<|cC a.1 b.1 (EX a.1 b.1) b.2.2
def kj(a b:KW):KW:=(EX a.1 b.1,(((EX a.1 b.1).length:Int),sortB<|kh a b))
def OA(a b:KW):Bool:=decide (4000 < ((kh a b).length:Int))
def kP(W:zI)(b:KW)(r:Row):Bool:=b.2.2.any λs=>JA W r b.1 s<|EX W b.1
def YB(a b:KW):KW:=(a.1,(a.2.1,a.2.2.filter<|kP a.1 b))
def jW{W A u}(c:W.Nodup)(d:A.Nodup)(e:u.Nodup)(f:∀v,v∈u↔v∈W∨v∈A){r s z:zI}(g:r.length=W.length)(h:s.length=A.length)(a:z∈gl1 W A u r s):Nf u z W=r∧Nf u z A=s:=by
 unfold gl1 at a;cases b:JA W r A s u with
 |false=>rw[b]at a;cases a
 |true=>rw[b,Ac,AC]at a;have:=(mi c d e f (rows:=[r]) (B:=[s]) (by simpa using g) (by simpa using h) z).1 ⟨r,AC.2 rfl,s,AC.2 rfl,b,a⟩;exact⟨AC.1 this.2.1,AC.1 this.2.2⟩
def Ahr{W A u:zI}{rows B:List zI}(h:W.Nodup)(i:A.Nodup)(j:u.Nodup)(k:∀v,v∈u↔v∈W∨v∈A)(l:∀r∈rows,r.length=W.length)(m:∀s∈B,s.length=A.length)(q:rows.Nodup)(t:B.Nodup):(rows.flatMap<|cC W A u B).Nodup:=by
 unfold List.Nodup at *;rw[Ix];refine⟨λr g=>?_,q.imp_of_mem λ{r w} n o a x d y f e=>?_⟩
 ·unfold cC;rw[Ix];refine⟨λs z=>?_,t.imp_of_mem λ{s p} b c a x d y f e=>?_⟩
  ·unfold gl1;cases JA W r A s u<;>simp
  ·subst e;exact a<|(jW h i j k (l r g) (m s b) d).2.symm.trans (jW h i j k (l r g) (m p c) f).2
 ·subst e;unfold cC at d f;obtain⟨s,b,d⟩:=BU.1 d;obtain⟨p,c,f⟩:=BU.1 f;exact a<|(jW h i j k (l r n) (m s b) d).1.symm.trans (jW h i j k (l w o) (m p c) f).1
section
variable {a b:KW}(ha:Tq a=true)(hb:Tq b=true)
include ha hb
def Afx(z:Row):z∈kh a b↔z.length=(EX a.1 b.1).length∧Nf (EX a.1 b.1) z a.1∈a.2.2∧Nf (EX a.1 b.1) z b.1∈b.2.2:=by
 obtain⟨a1,j,g,k,l⟩:=FB ha;obtain⟨b1,b2,h,m,n⟩:=FB hb;refine Iff.trans ?_<|mi (je a1) (je b1) (pw _ _) (T8 a1 b1) (λr e=>(g r e).1) (λs i=>(h s i).1) z;unfold kh;rw[BU];constructor
 ·rintro⟨r,e,c⟩;unfold cC at c;obtain⟨s,d,c⟩:=BU.1 c;unfold gl1 at c;cases f:JA a.1 r b.1 s (EX a.1 b.1)with
  |true=>rw[f,Ac,AC]at c;exact⟨r,e,s,d,f,c⟩
  |false=>rw[f,Ab]at c;cases c
 ·rintro⟨r,e,s,d,f,rfl⟩;exact⟨r,e,BU.2 ⟨s,d,by unfold gl1;rw[f,Ac];exact AC.2 rfl⟩⟩
def Ajj:(kh a b).Nodup:=by have⟨a1,i,c,d,j⟩:=FB ha;have⟨b1,b2,e,f,k⟩:=FB hb;exact Ahr (je a1) (je b1) (pw _ _) (T8 a1 b1) (λr g=>(c r g).1) (λs h=>(e s h).1) (i5 d)<|i5 f
def eP{z}(d:z∈kh a b):(z.length:Int)=((EX a.1 b.1).length:Int)∧Py z=true:=by
 have⟨a1,v,f,w,x⟩:=FB ha;have⟨b1,b2,g,y,A⟩:=FB hb;have⟨B,l,m⟩:=(Afx ha hb z).1 d;refine⟨by omega,jp λx n=>?_⟩;obtain⟨i,hi,rfl⟩:=AY.1 n
 have c:∀(W r:zI),Nf (EX a.1 b.1) z W=r->Py r=true->(EX a.1 b.1)[i]∈W->0<=z[i]∧z[i]<=99:=λW r o p q=>by
  subst o;have⟨j,s,e⟩:=AY.1 q;have:=df p (k:=j) (by unfold Nf;rw[Aj];exact s);unfold Nf at this;rw[BL,e]at this;have⟨k,C,t,u⟩:=Lz<|Av.2<|Ad (by omega:i < (EX a.1 b.1).length);have:k=i:=(DP<|pw _ _).1 u;subst this
  rwa [t,Hi hi]at this
 rcases(T8 a1 b1 _).1 (Ad (by omega:i < (EX a.1 b.1).length))with h|h
 ·exact c _ _ rfl (f _ l).2 h
 ·exact c _ _ rfl (g _ m).2 h
def v7:(kh a b).length<=16000000:=by
 obtain⟨a1,e,-⟩:=FB ha;obtain⟨b1,b2,-⟩:=FB hb
 have:∀l:List Row,(l.flatMap<|cC a.1 b.1 (EX a.1 b.1) b.2.2).length<=l.length * 4000:=λl=>by
  induction l with
  |nil=>simp
  |cons r l c=>have d:=YV a.1 b.1 (EX a.1 b.1) r b.2.2 b.2.2.length;rw[AT]at d;rw[Ax,Au,AD];unfold cC at c⊢;omega
 have:=this a.2.2;unfold kh;omega
def Ajk:nrB ((EX a.1 b.1).length:Int) (kh a b)=cond (OA a b) ((0,[]),false) ((kj a b).2,true):=by
 have g:=ZH a.1 b.1;have d:Hv ((EX a.1 b.1).length:Int) 0 5=true:=by unfold Hv;simp;omega
 cases c:OA a b with
 |false=>unfold OA at c;rw[CV]at c;rw[mN d (by omega) λr f=>eP ha hb f];rfl
 |true=>unfold OA at c;rw[Bf]at c;unfold nrB;rw[show Mr (((EX a.1 b.1).length:Int),sortB (kh a b))=false by unfold Mr;rw[rB (Ajj ha hb),Ai c,d];rfl];rw[show Bt (kh a b) (λ_ x=>S7 ((EX a.1 b.1).length:Int) x)=false from J0 λi hi=>by have e:=eP ha hb<|Ad hi;unfold S7;rw[e.2,e.1];simp];rfl
def AbA(h:OA a b=false):Tq (kj a b)=true:=by unfold OA at h;rw[CV]at h;exact AbV (xH _) (by have:=ND<|kh a b;show(sortB<|kh a b).length<=4000;omega) (λr c=>by have:=eP ha hb<|(Mt _ r).1 c;exact⟨by have:=this.1;show r.length=(EX a.1 b.1).length;omega,this.2⟩) (Qn _) rfl
theorem AbS:Tq (YB a b)=true:=by
 obtain⟨a1,a2,a3,a4,a5⟩:=FB ha
 exact AbV a1 (BC (Ca _ _) a2) (λr hr=>a3 r (Bj.1 hr).1) (FG _ a4) a5
end
def qO{α:Type}{cnt mk}:∀(l:List α) (k:Int) (j:Nat) (a:j < l.length),(gx cnt mk l k)[j]? =some (mk l[j]<|k+(LI cnt (l.take j):Int))
 |[],_,j,a=>by simp at a
 |x::l,k,0,a=>by simp[gx,LI]
 |x::l,k,j+1,a=>by rw[gx,D1,qO l _ j (by simpa using a)];simp only[List.getElem_cons_succ,Ep,LI];congr 2;omega
def dw{α:Type}{cnt}:∀(a b:List α),LI cnt (a++b)=LI cnt a+LI cnt b
 |[],b=>by simp[LI]
 |x::a,b=>by rw[BY,LI,LI,dw a b];omega
def rV{α:Type}{cnt:α->Nat}(l:List α)(j:Nat):LI cnt (l.take j)<=LI cnt l:=by have:=dw (cnt:=cnt) (l.take j)<|l.drop j;rw[Bv]at this;omega
def AcA{α:Type}{cnt}(l:List α)(j:Nat)(a:j < l.length):LI cnt (l.take<|j+1)=LI cnt (l.take j)+cnt l[j]:=by rw[A6 a,dw];simp[LI]
def lN{α:Type}{cnt B}:∀(l:List α),(∀x∈l,cnt x<=B)->LI cnt l<=l.length * B
 |[],_=>by simp[LI]
 |x::l,h=>by
  have b:=h x (by simp);have c:=lN l<|λy a=>h y<|by simp[a]
  rw[LI,AD,DY];omega
def pW{α:Type}{cnt B C}(l:List α)(a:l.length<=C)(h:∀x∈l,cnt x<=B):LI cnt l<=C * B:=BC (lN l h)<|Cy _ a
def cv{α:Type}{cnt tz c}(h:∀x,cnt x<=64 * tz x+c)(a:c<=64):∀(l:List α),LI cnt l<=64 * (l.length+lb tz l)
 |[]=>by simp[LI]
 |x::l=>by have b:=h x;have d:=cv h a l;rw[LI,AD,lb];omega
def lO{α:Type}{cnt c}(h:∀x,cnt x<=c)(a:c<=64):∀(l:List α),LI cnt l<=64 * l.length
 |[]=>by simp[LI]
 |x::l=>by have b:=h x;have d:=lO h a l;rw[LI,AD];omega
def im{α:Type}{cnt:α->Nat}{mk:α->Int->α}{l:List α}{k:Int}{B:(Int×Int->Option (Sum Int Int))->Int×Int->Option (Sum Int Int)}(hl:l.length<=lim)(h0:0<=k)(h1:k+(LI cnt l:Int)<=mB)
  (hB:∀rec (x:α) (y i:Int),x∈l->0<=y->y+(cnt x:Int)<=mB->i < ((gx cnt mk l k).length:Int)->AN (gx cnt mk l k) i=some (mk x y)->B rec (y,i)=rec (y+(cnt x:Int),wZ<|i+1))
  (hE:∀rec (y:Int),B rec (y,((gx cnt mk l k).length:Int))=some (.inl y)):Ap B fz (k,0)=some (.inl<|k+(LI cnt l:Int)):=by
 have:=CD (body:=B) (out:=.inl<|k+(LI cnt l:Int)) (λj=>(k+(LI cnt (l.take j):Int),(j:Int))) l.length (λj hj rec=>?_) (λrec=>?_) fz<|DN hl
 ·simpa[LI]using this
 ·have hs:=AcA (cnt:=cnt) l j hj;have ht:=rV (cnt:=cnt) l<|j+1;rw[hB rec l[j] _ _ (Ad hj) (by omega) (by omega) (by rw[S6];omega) (by rw[Hp];exact qO l k j hj)];rw[Bm hj (Ba hl),hs];congr 2;omega
 ·have:=hE rec (k+(LI cnt (l.take l.length):Int));rw[S6]at this;rw[this,AT]
open Go.RowKit Go.ChangeShapes Go.WideShapes Go.Deep
set_option maxRecDepth 100000
section
variable {H:Type}{enc:TypeId×Value->H}{w:World}{base:Nat}{spare:Nat->Bool}{held:Bool}
def mO(x:zI):Prop:=x.length<=maxLen∧∀a∈x,InI a
def sM:Opens enc Tryz.prog w base spare held 26 Bg mO:=Zj Tryz.underlying26 (by kernel_rfl) (BQ rfl) AQ<|Xk Tryz.underlying3
def zA(x:List zI):Prop:=x.length<=maxLen∧∀a∈x,mO a
def Ajp:Opens enc Tryz.prog w base spare held 31 Acx zA:=Zj Tryz.underlying31 (by kernel_rfl) (BQ rfl) Cm sM
def AfD(x:Dl):Prop:=InI x.1∧zA x.2
def Ak2:Opens enc Tryz.prog w base spare held 92 n9 AfD:=by intro fuel cs x h;have c:cs.length=2:=(st_len Tryz.underlying92 h).trans (by kernel_rfl);have⟨y0,k,a⟩:=Ik Tryz.underlying92 h (j:=0) rfl;rw[show Tryz.prog.cellsOf _=1 from by kernel_rfl]at a;have⟨d,e,f⟩:=(Xk Tryz.underlying3) _ _ _ a;have⟨l,m,b⟩:=Ik Tryz.underlying92 h (j:=1) rfl;rw[show Tryz.prog.cellsOf _=1 from by kernel_rfl]at b;have⟨a1,g,i⟩:=Ajp _ _ _ b;refine⟨(d,a1),?_,f,i⟩;exact(Gz (off:=0) (n:=1) e<|Gz (off:=1) (n:=1) g<|T2 c)
def AfE(x:Tr):Prop:=List.length x.1<=maxLen∧AfD x.2
def Ak3:Opens enc Tryz.prog w base spare held 94 Oi AfE:=by intro fuel cs x h;have c:cs.length=3:=(st_len Tryz.underlying94 h).trans (by kernel_rfl);have⟨y0,k,a⟩:=Ik Tryz.underlying94 h (j:=0) rfl;rw[show Tryz.prog.cellsOf _=1 from by kernel_rfl]at a;have⟨d,e,f⟩:=(iK Tryz.underlying9) _ _ _ a;have⟨l,m,b⟩:=Ik Tryz.underlying94 h (j:=1) rfl;rw[show Tryz.prog.cellsOf _=2 from by kernel_rfl]at b;have⟨a1,g,i⟩:=Ak2 _ _ _ b;refine⟨(d,a1),?_,f,i⟩;exact(Gz (off:=0) (n:=1) e<|Gz (off:=1) (n:=2) g<|T2 c)
def Afz(x:List Tr):Prop:=x.length<=maxLen∧∀a∈x,AfE a
def AkV:Opens enc Tryz.prog w base spare held 22 x7 Afz:=Zj Tryz.underlying22 (by kernel_rfl) (BQ rfl) lm Ak3
def zx(x:List Tr):Prop:=Afz x
def AkW:Opens enc Tryz.prog w base spare held 24 pO zx:=by intro fuel cs x h;have b:cs.length=1:=(st_len Tryz.underlying24 h).trans (by kernel_rfl);have⟨y0,f,a⟩:=Ik Tryz.underlying24 h (j:=0) rfl;rw[show Tryz.prog.cellsOf _=1 from by kernel_rfl]at a;have⟨c,d,e⟩:=AkV _ _ _ a;refine⟨c,?_,e⟩;exact(Gz (off:=0) (n:=1) d<|T2 b)
def AfF(x:Hh):Prop:=List.length x.1<=maxLen∧mO x.2
def Ak4:Opens enc Tryz.prog w base spare held 97 TI AfF:=by intro fuel cs x h;have c:cs.length=2:=(st_len Tryz.underlying97 h).trans (by kernel_rfl);have⟨y0,k,a⟩:=Ik Tryz.underlying97 h (j:=0) rfl;rw[show Tryz.prog.cellsOf _=1 from by kernel_rfl]at a;have⟨d,e,f⟩:=(iK Tryz.underlying9) _ _ _ a;have⟨l,m,b⟩:=Ik Tryz.underlying97 h (j:=1) rfl;rw[show Tryz.prog.cellsOf _=1 from by kernel_rfl]at b;have⟨a1,g,i⟩:=sM _ _ _ b;refine⟨(d,a1),?_,f,i⟩;exact(Gz (off:=0) (n:=1) e<|Gz (off:=1) (n:=1) g<|T2 c)
def AfA(x:List Hh):Prop:=x.length<=maxLen∧∀a∈x,AfF a
def AkX:Opens enc Tryz.prog w base spare held 25 Acw AfA:=Zj Tryz.underlying25 (by kernel_rfl) (BQ rfl) pA Ak4
def zy(x:Y27):Prop:=InI x.1∧AfA x.2.1∧mO x.2.2
def AkY:Opens enc Tryz.prog w base spare held 28 ct zy:=by intro fuel cs x h;have d:cs.length=3:=(st_len Tryz.underlying28 h).trans (by kernel_rfl);have⟨y0,p,a⟩:=Ik Tryz.underlying28 h (j:=0) rfl;rw[show Tryz.prog.cellsOf _=1 from by kernel_rfl]at a;have⟨e,f,g⟩:=(Xk Tryz.underlying3) _ _ _ a;have⟨q,r,b⟩:=Ik Tryz.underlying28 h (j:=1) rfl;rw[show Tryz.prog.cellsOf _=1 from by kernel_rfl]at b;have⟨a1,i,k⟩:=AkX _ _ _ b;have⟨s,t,c⟩:=Ik Tryz.underlying28 h (j:=2) rfl;rw[show Tryz.prog.cellsOf _=1 from by kernel_rfl]at c;have⟨l,m,o⟩:=sM _ _ _ c;refine⟨(e,a1,l),?_,g,k,o⟩;exact(Gz (off:=0) (n:=1) f<|Gz (off:=1) (n:=1) i<|Gz (off:=2) (n:=1) m<|T2 d)
def AfB(x:zI):Prop:=mO x
def AkZ:Opens enc Tryz.prog w base spare held 30 Ag6 AfB:=by intro fuel cs x h;have b:cs.length=1:=(st_len Tryz.underlying30 h).trans (by kernel_rfl);have⟨y0,f,a⟩:=Ik Tryz.underlying30 h (j:=0) rfl;rw[show Tryz.prog.cellsOf _=1 from by kernel_rfl]at a;have⟨c,d,e⟩:=sM _ _ _ a;refine⟨c,?_,e⟩;exact(Gz (off:=0) (n:=1) d<|T2 b)
def AfC(x:Rm):Prop:=zA x.1∧mO x.2
def Ak0:Opens enc Tryz.prog w base spare held 33 jw AfC:=by intro fuel cs x h;have c:cs.length=2:=(st_len Tryz.underlying33 h).trans (by kernel_rfl);have⟨y0,k,a⟩:=Ik Tryz.underlying33 h (j:=0) rfl;rw[show Tryz.prog.cellsOf _=1 from by kernel_rfl]at a;have⟨d,e,f⟩:=Ajp _ _ _ a;have⟨l,m,b⟩:=Ik Tryz.underlying33 h (j:=1) rfl;rw[show Tryz.prog.cellsOf _=1 from by kernel_rfl]at b;have⟨a1,g,i⟩:=sM _ _ _ b;refine⟨(d,a1),?_,f,i⟩;exact(Gz (off:=0) (n:=1) e<|Gz (off:=1) (n:=1) g<|T2 c)
def zB(x:Y34):Prop:=InI x.1∧mO x.2.1∧AfB x.2.2.1∧AfC x.2.2.2
def Ak1:Opens enc Tryz.prog w base spare held 35 W3 zB:=by intro fuel cs x h;have e:cs.length=5:=(st_len Tryz.underlying35 h).trans (by kernel_rfl);have⟨y0,t,a⟩:=Ik Tryz.underlying35 h (j:=0) rfl;rw[show Tryz.prog.cellsOf _=1 from by kernel_rfl]at a;have⟨f,g,i⟩:=(Xk Tryz.underlying3) _ _ _ a;have⟨u,v,b⟩:=Ik Tryz.underlying35 h (j:=1) rfl;rw[show Tryz.prog.cellsOf _=1 from by kernel_rfl]at b;have⟨a1,k,l⟩:=sM _ _ _ b;have⟨y,z,c⟩:=Ik Tryz.underlying35 h (j:=2) rfl;rw[show Tryz.prog.cellsOf _=1 from by kernel_rfl]at c;have⟨m,o,p⟩:=AkZ _ _ _ c;have⟨A,B,d⟩:=Ik Tryz.underlying35 h (j:=3) rfl;rw[show Tryz.prog.cellsOf _=2 from by kernel_rfl]at d;have⟨q,r,s⟩:=Ak0 _ _ _ d;refine⟨(f,a1,m,q),?_,i,l,p,s⟩;exact(Gz (off:=0) (n:=1) g<|Gz (off:=1) (n:=1) k<|Gz (off:=2) (n:=1) o<|Gz (off:=3) (n:=2) r<|T2 e)
end
end
section
def Qm(a:zI):Prop:=List.length a<=1048576
def T7(a:zI):Nat:=a.length
def Xt{a:zI}(h:Qm a):Jp a=some a:=by unfold Jp;rw[A1 (cK<|Jj<|show _ from h),cT (a:=a) (g:=some) (h:=id) (λ_ _ _=>rfl) (λ_ _=>rfl) (Jj<|show _ from h)];simp only[G,OG]
def Xa{a:zI}(h:Qm a):Jo a a=some true:=by unfold Jo;rw[cx (B:=Wu a a) (a:=a) (g:=(λx y=>some<|x==y)) (λ_ _=>rfl) (λ_ _=>by simp) (Jj<|show _ from h)];simp[G]
def Xs{a}(k:mO a){left:Int}(h:0<=left∧left<=1048576):SzR left (Ko a left) (Qm a) (T7 a):=Aga h k.1
def Ti(a:List zI):Prop:=List.length a<=1048576∧∀e∈a,Qm e
def ZF(a:List zI):Nat:=List.length a+lb T7 a
def nG{a:List zI}(h:Ti a):P5 a=some a:=by unfold P5;rw[A1 (cK<|Jj h.1),cT (a:=a) (g:=Jp) (h:=id) (λ_ _ _=>rfl) (λe b=>Xt<|h.2 e b) (Jj h.1)];simp only[G,OG]
def lV{a:List zI}(h:Ti a):PZ a a=some true:=by unfold PZ;rw[cx (B:=VO a a) (a:=a) (g:=Jo) (λ_ _=>rfl) (λe b=>Xa<|h.2 e b) (Jj h.1)];simp[G]
def nD{a}(k:zA a){left:Int}(h:0<=left∧left<=1048576):SzR left (Sq a left) (Ti a) (ZF a):=kU (B:=VQ a) (g:=Ko) (λ_ _ _=>rfl) (λe b left h=>Xs (k.2 e b) h) h k.1
def H9(a:Dl):Prop:=Ti a.2
def RU(a:Dl):Nat:=ZF a.2
def nH{a}(h:H9 a):OS a=some a:=by unfold OS;simp only[nG (h),G]<;>rfl
def bk{a}(h:H9 a):IL a a=some true:=by simp[IL,lV (h),G]
def nE{a}(k:AfD a){left:Int}(h:0<=left∧left<=1048576):SzR left (OR a left) (H9 a) (RU a):=by
 unfold OR;have d:0<=left∧left<=1048576:=h;have⟨c,e,b⟩:=nD (k.2) d;rw[e];rcases b with b|⟨b,f,s0⟩
 ·simp only[G];rw[Ai b];exact⟨-1,rfl,.inl<|by omega⟩
 simp only[G];rw[Af (by omega:¬c < 0)];simp only[Ab];exact⟨c,rfl,.inr ⟨by unfold RU;omega,f,s0⟩⟩
def Zy(a:Tr):Prop:=List.length a.1<=1048576∧H9 a.2
def WR(a:Tr):Nat:=List.length a.1+RU a.2
def xz{a}(h:Zy a):P7 a=some a:=by unfold P7;simp only[nH (h.2),G]<;>rfl
def uH{a}(h:Zy a):P0 a a=some true:=by simp[P0,bk (h.2),G]
def xq{a}(k:AfE a){left:Int}(h:0<=left∧left<=1048576):SzR left (P4 a left) (Zy a) (WR a):=by
 unfold P4;have f:0<=left∧left<=1048576:=h;have⟨d,g,b⟩:=Aaz f k.1;rw[g];rcases b with b|⟨b,m,s0⟩
 ·simp only[G];rw[Ai b];exact⟨-1,rfl,.inl<|by omega⟩
 simp only[G];rw[Af (by omega:¬d < 0)];simp only[Ab];have i:0<=d∧d<=1048576:=by omega
 have⟨e,j,c⟩:=nE (k.2) i;rw[j];rcases c with c|⟨c,l,s1⟩
 ·simp only[G];rw[Ai c];exact⟨-1,rfl,.inl<|by omega⟩
 simp only[G];rw[Af (by omega:¬e < 0)];simp only[Ab];exact⟨e,rfl,.inr ⟨by unfold WR;omega,l,s0,s1⟩⟩
def Xq(a:List Tr):Prop:=List.length a<=1048576∧∀e∈a,Zy e
def bg(a:List Tr):Nat:=List.length a+lb WR a
def tw{a:List Tr}(h:Xq a):Rv a=some a:=by unfold Rv;rw[A1 (cK<|Jj h.1),cT (a:=a) (g:=P7) (h:=id) (λ_ _ _=>rfl) (λe b=>xz<|h.2 e b) (Jj h.1)];simp only[G,OG]
def si{a:List Tr}(h:Xq a):Rr a a=some true:=by unfold Rr;rw[cx (B:=UL a a) (a:=a) (g:=P0) (λ_ _=>rfl) (λe b=>uH<|h.2 e b) (Jj h.1)];simp[G]
def tt{a}(k:Afz a){left:Int}(h:0<=left∧left<=1048576):SzR left (Uk a left) (Xq a) (bg a):=kU (B:=UM a) (g:=P4) (λ_ _ _=>rfl) (λe b left h=>xq (k.2 e b) h) h k.1
def RQ(a:List Tr):Prop:=Xq a
def T6(a:List Tr):Nat:=bg a
def nF{a}(h:RQ a):IM a=some a:=by unfold IM;simp only[tw (h),G]<;>rfl
def lU{a}(h:RQ a):OP a a=some true:=by simp[OP,si (h),G]
def nC{a}(k:zx a){left:Int}(h:0<=left∧left<=1048576):SzR left (OQ a left) (RQ a) (T6 a):=by
 unfold OQ;have d:0<=left∧left<=1048576:=h;have⟨c,e,b⟩:=tt (k) d;rw[e];rcases b with b|⟨b,f,s0⟩
 ·simp only[G];rw[Ai b];exact⟨-1,rfl,.inl<|by omega⟩
 simp only[G];rw[Af (by omega:¬c < 0)];simp only[Ab];exact⟨c,rfl,.inr ⟨by unfold T6;omega,f,s0⟩⟩
def cQ(a:Hh):Prop:=List.length a.1<=1048576∧Qm a.2
def ZE(a:Hh):Nat:=List.length a.1+T7 a.2
def AaD{a}(h:cQ a):RL a=some a:=by unfold RL;simp only[Xt (h.2),G]<;>rfl
def yp{a}(h:cQ a):RJ a a=some true:=by simp[RJ,Xa (h.2),G]
def Aax{a}(k:AfF a){left:Int}(h:0<=left∧left<=1048576):SzR left (RK a left) (cQ a) (ZE a):=by
 unfold RK;have f:0<=left∧left<=1048576:=h;have⟨d,g,b⟩:=Aaz f k.1;rw[g];rcases b with b|⟨b,m,s0⟩
 ·simp only[G];rw[Ai b];exact⟨-1,rfl,.inl<|by omega⟩
 simp only[G];rw[Af (by omega:¬d < 0)];simp only[Ab];have i:0<=d∧d<=1048576:=by omega
 have⟨e,j,c⟩:=Xs (k.2) i;rw[j];rcases c with c|⟨c,l,s1⟩
 ·simp only[G];rw[Ai c];exact⟨-1,rfl,.inl<|by omega⟩
 simp only[G];rw[Af (by omega:¬e < 0)];simp only[Ab];exact⟨e,rfl,.inr ⟨by unfold ZE;omega,l,s0,s1⟩⟩
def Zw(a:List Hh):Prop:=List.length a<=1048576∧∀e∈a,cQ e
def fQ(a:List Hh):Nat:=List.length a+lb ZE a
def xx{a:List Hh}(h:Zw a):Ss a=some a:=by unfold Ss;rw[A1 (cK<|Jj h.1),cT (a:=a) (g:=RL) (h:=id) (λ_ _ _=>rfl) (λe b=>AaD<|h.2 e b) (Jj h.1)];simp only[G,OG]
def uF{a:List Hh}(h:Zw a):So a a=some true:=by unfold So;rw[cx (B:=VN a a) (a:=a) (g:=RJ) (λ_ _=>rfl) (λe b=>yp<|h.2 e b) (Jj h.1)];simp[G]
def xo{a}(k:AfA a){left:Int}(h:0<=left∧left<=1048576):SzR left (Vm a left) (Zw a) (fQ a):=kU (B:=VP a) (g:=RK) (λ_ _ _=>rfl) (λe b left h=>Aax (k.2 e b) h) h k.1
def WG(a:Y27):Prop:=Zw a.2.1∧Qm a.2.2
def ZG(a:Y27):Nat:=fQ a.2.1+T7 a.2.2
def xy{a}(h:WG a):L7 a=some a:=by unfold L7;simp only[xx (h.1),Xt (h.2),G]<;>rfl
def uG{a}(h:WG a):Sp a a=some true:=by simp[Sp,uF (h.1),Xa (h.2),G]
def xp{a}(k:zy a){left:Int}(h:0<=left∧left<=1048576):SzR left (Sr a left) (WG a) (ZG a):=by
 unfold Sr;have f:0<=left∧left<=1048576:=h;have⟨d,g,b⟩:=xo (k.2.1) f;rw[g];rcases b with b|⟨b,m,s0⟩
 ·simp only[G];rw[Ai b];exact⟨-1,rfl,.inl<|by omega⟩
 simp only[G];rw[Af (by omega:¬d < 0)];simp only[Ab];have i:0<=d∧d<=1048576:=by omega
 have⟨e,j,c⟩:=Xs (k.2.2) i;rw[j];rcases c with c|⟨c,l,s1⟩
 ·simp only[G];rw[Ai c];exact⟨-1,rfl,.inl<|by omega⟩
 simp only[G];rw[Af (by omega:¬e < 0)];simp only[Ab];exact⟨e,rfl,.inr ⟨by unfold ZG;omega,l,s0,s1⟩⟩
def Rw(a:zI):Prop:=Qm a
def OL(a:zI):Nat:=T7 a
def gJ{a}(h:Rw a):M7 a=some a:=by unfold M7;simp only[Xt (h),G]<;>rfl
def gf{a}(h:Rw a):M2 a a=some true:=by simp[M2,Xa (h),G]
def gH{a}(k:AfB a){left:Int}(h:0<=left∧left<=1048576):SzR left (M5 a left) (Rw a) (OL a):=by
 unfold M5;have d:0<=left∧left<=1048576:=h;have⟨c,e,b⟩:=Xs (k) d;rw[e];rcases b with b|⟨b,f,s0⟩
 ·simp only[G];rw[Ai b];exact⟨-1,rfl,.inl<|by omega⟩
 simp only[G];rw[Af (by omega:¬c < 0)];simp only[Ab];exact⟨c,rfl,.inr ⟨by unfold OL;omega,f,s0⟩⟩
def N1(a:Rm):Prop:=Ti a.1∧Qm a.2
def LG(a:Rm):Nat:=ZF a.1+T7 a.2
def be{a}(h:N1 a):Kq a=some a:=by unfold Kq;simp only[nG (h.1),Xt (h.2),G]<;>rfl
def Z9{a}(h:N1 a):Kl a a=some true:=by simp[Kl,lV (h.1),Xa (h.2),G]
def bc{a}(k:AfC a){left:Int}(h:0<=left∧left<=1048576):SzR left (Kn a left) (N1 a) (LG a):=by
 unfold Kn;have f:0<=left∧left<=1048576:=h;have⟨d,g,b⟩:=nD (k.1) f;rw[g];rcases b with b|⟨b,m,s0⟩
 ·simp only[G];rw[Ai b];exact⟨-1,rfl,.inl<|by omega⟩
 simp only[G];rw[Af (by omega:¬d < 0)];simp only[Ab];have i:0<=d∧d<=1048576:=by omega
 have⟨e,j,c⟩:=Xs (k.2) i;rw[j];rcases c with c|⟨c,l,s1⟩
 ·simp only[G];rw[Ai c];exact⟨-1,rfl,.inl<|by omega⟩
 simp only[G];rw[Af (by omega:¬e < 0)];simp only[Ab];exact⟨e,rfl,.inr ⟨by unfold LG;omega,l,s0,s1⟩⟩
def Zx(a:Y34):Prop:=Qm a.2.1∧Rw a.2.2.1∧N1 a.2.2.2
def cU(a:Y34):Nat:=T7 a.2.1+OL a.2.2.1+LG a.2.2.2
def AaE{a}(h:Zx a):Ns a=some a:=by unfold Ns;simp only[Xt (h.1),gJ (h.2.1),be (h.2.2),G]<;>rfl
def yq{a}(h:Zx a):TR a a=some true:=by simp[TR,Xa (h.1),gf (h.2.1),Z9 (h.2.2),G]
def Aay{a}(k:zB a){left:Int}(h:0<=left∧left<=1048576):SzR left (TU a left) (Zx a) (cU a):=by
 unfold TU;have g:0<=left∧left<=1048576:=h;have⟨d,i,b⟩:=Xs (k.2.1) g;rw[i];rcases b with b|⟨b,p,s0⟩
 ·simp only[G];rw[Ai b];exact⟨-1,rfl,.inl<|by omega⟩
 simp only[G];rw[Af (by omega:¬d < 0)];simp only[Ab];have j:0<=d∧d<=1048576:=by omega
 have⟨e,l,c⟩:=gH (k.2.2.1) j;rw[l];rcases c with c|⟨c,q,s1⟩
 ·simp only[G];rw[Ai c];exact⟨-1,rfl,.inl<|by omega⟩
 simp only[G];rw[Af (by omega:¬e < 0)];simp only[Ab];have m:0<=e∧e<=1048576:=by omega
 have⟨f,n,p2⟩:=bc (k.2.2.2) m;rw[n];rcases p2 with p2|⟨p2,o,s2⟩
 ·simp only[G];rw[Ai p2];exact⟨-1,rfl,.inl<|by omega⟩
 simp only[G];rw[Af (by omega:¬f < 0)];simp only[Ab];exact⟨f,rfl,.inr ⟨by unfold cU;omega,o,s0,s1,s2⟩⟩
def W7(a:zI):QS a<=64 * T7 a:=lO (c:=1) (λ_=>AJ 1) (by decide) a
def lR(a:List zI):VX a<=64 * ZF a:=cv (c:=0) (λx=>W7 x) (by decide) a
def lS(a:Dl):ug a<=64 * RU a+1:=by have b1:=lR a.2;unfold ug RU;omega
def uu(a:CO):du a<=64 * WR a+2:=by have b1:=lS a.2;unfold du WR;omega
def se(a:List CO):yd a<=64 * bg a:=cv (c:=2) (λx=>uu x) (by decide) a
def jK(a:List CO):bI a<=64 * T6 a+0:=by have b:=se a;unfold bI T6;omega
def yi(a:Hh):dt a<=64 * ZE a+1:=by have b1:=W7 a.2;unfold dt ZE;omega
def ut(a:List Hh):uh a<=64 * fQ a:=cv (c:=1) (λx=>yi x) (by decide) a
def sf(a:Fh):dB a<=64 * ZG a+0:=by have b1:=ut a.2.1;have b2:=W7 a.2.2;unfold dB ZG;omega
def dC(a:zI):r9 a<=64 * OL a+0:=by have b:=W7 a;unfold r9 OL;omega
def YM(a:Rm):ur a<=64 * LG a+0:=by have b:=lR a.1;have b1:=W7 a.2;unfold ur LG;omega
def uv(a:ZS):ge a<=64 * cU a+0:=by have b1:=W7 a.2.1;have b2:=dC a.2.2.1;have b:=YM a.2.2.2;unfold ge cU;omega
def yb{a}(h:Qm a):QS a<=1048576:=BC (pW (C:=1048576) (B:=1) a (show _ from h)<|λx b=>(AJ 1)) (by decide)
def uf{a}(h:Ti a):VX a<=1099511627776:=BC (pW (C:=1048576) (B:=1048576) a (show _ from h.1)<|λx b=>(yb<|h.2 x b)) (by decide)
def jB{a:Dl}(h:H9 a):YL a<=1099511627776:=by have b1:=uf (a:=a.2) h;unfold YL;omega
def yC{x:zI}{k:Int}(h:Qm x)(b:0<=k)(c:k+(QS x:Int)<=mB):Rs (Um x k) k=some (k+(QS x:Int)):=by
 have m:mB<=9223372036854775000:=by unfold mB;omega
 unfold Rs Um QS;rw[im (cnt:=o7) (mk:=mH) (B:=NY<|gx o7 mH x k) (Jj<|show _ from h) b c (λrec x y i n o d hi a=>?_) (λrec y=>?_)]
 ·rfl
 ·have p:o7 x=1:=rfl;have e:y=y:=by omega
  have f:mH x y=y:=e;rw[f]at a;have g:wZ (y+1)=y+1:=wrap_in (by omega);have j:wZ (y)=y:=wrap_in (by omega);have l:y+1=y+(o7 x:Int):=by omega
  simp only[NY,Ai hi,a,Ac,G,Dj,An,Ab,Dz,g,j]
  all_goals rw[l]
 ·simp[NY]
def uY{x:List zI}{k:Int}(h:Ti x)(b:0<=k)(c:k+(VX x:Int)<=mB):P1 (eH x k) k=some (k+(VX x:Int)):=by
 have o:mB<=9223372036854775000:=by unfold mB;omega
 unfold P1 eH VX;rw[im (cnt:=QS) (mk:=Um) (B:=M4<|gx QS Um x k) (Jj h.1) b c (λrec x y i d p e hi a=>?_) (λrec y=>?_)]
 ·rfl
 ·have f:=h.2 _ d;have g:y=y:=by omega
  have j:Um x y=Um x (y):=(congrArg (Um x) g);rw[j]at a;have l:=yC (x:=x) (k:=y) f (by omega) (by omega);have m:decide (y+(QS x:Int) < 0)=false:=Af (by omega);have n:y+(QS x:Int)=y+(QS x:Int):=by omega
  simp only[M4,Ai hi,a,Ac,G,Dj,An,Ab,Dz,l,m]
  all_goals rw[n]
 ·simp[M4]
def mj{x k}(h:H9 x)(d:0<=k)(e:k+(YL x:Int)<=mB):Km (sG x k) k=some (k+(YL x:Int)):=by
 have f:YL x=VX x.2:=rfl;have a:=uY (x:=x.2) (k:=k) h (by omega) (by omega);have b:decide (k+((VX x.2:Nat):Int) < 0)=false:=Af (by omega);have c:k+((VX x.2:Nat):Int)=k+(YL x:Int):=by omega
 simp only[Km,sG,G,Ab,a,b]
 all_goals rw[c]
section
variable {d:List QE}{nm:zU}{r:Int×List zI}
end
theorem su{B:(Int×Int->Option Int)->Int×Int->Option Int}{rows:List Row}{row:Row}(hs:WW rows)(hl:rows.length<=lim)
  (h1:∀rec (lo hi m:Nat),lo < hi->hi<=rows.length->m=(lo+hi) / 2->∀hm:m < rows.length,B rec ((lo:Int),(hi:Int))=cond (decide (Eh rows[m] row < 0)) (rec (((m+1:Nat):Int),(hi:Int))) (rec ((lo:Int),(m:Int))))
  (h2:∀rec (lo:Nat),B rec ((lo:Int),(lo:Int))=some (lo:Int)):
  ∃k:Nat,k<=rows.length∧Ap B fz (0,(rows.length:Int))=some (k:Int)∧(∀i (hi:i < rows.length),i < k->Eh rows[i] row < 0)∧∀i (hi:i < rows.length),k<=i->¬Eh rows[i] row < 0:=by
 have key:∀d (lo hi:Nat),hi - lo<=d->lo<=hi->hi<=rows.length->(∀i (hi:i < rows.length),i < lo->Eh rows[i] row < 0)->(∀i (hi':i < rows.length),hi<=i->¬Eh rows[i] row < 0)->∀m,d < m->
   ∃k:Nat,k<=rows.length∧Ap B m ((lo:Int),(hi:Int))=some (k:Int)∧(∀i (hi:i < rows.length),i < k->Eh rows[i] row < 0)∧∀i (hi:i < rows.length),k<=i->¬Eh rows[i] row < 0:=by
  intro d
  induction d with
  |zero=>
   intro lo hi h3 h4 h5 h6 h7 m hm
   have:lo=hi:=by omega
   subst this
   cases m with
   |zero=>omega
   |succ m=>exact⟨lo,h5,h2 _ lo,h6,h7⟩
  |succ d ih=>
   intro lo hi h3 h4 h5 h6 h7 m hm
   cases m with
   |zero=>omega
   |succ m=>
    rcases Bb lo hi with hlt|hge
    ·have hmid:(lo+hi) / 2 < rows.length:=by omega
     show ∃k:Nat,k<=rows.length∧B (Ap B m) _=_∧_
     rw[h1 _ lo hi _ hlt h5 rfl hmid]
     by_cases hc:Eh rows[(lo+hi) / 2] row < 0
     ·rw[Ai hc]
      refine ih ((lo+hi) / 2+1) hi (by omega) (by omega) h5 (λi hi' hik=>?_) h7 m (by omega)
      rcases Bb i ((lo+hi) / 2)with h8|h8
      ·exact NK (BK.1 hs i _ hi' hmid h8) hc
      ·have:i=(lo+hi) / 2:=by omega
       subst this
       exact hc
     ·rw[Af hc]
      refine ih lo ((lo+hi) / 2) (by omega) (by omega) (by omega) h6 (λi hi' hik=>?_) m (by omega)
      rcases Bb ((lo+hi) / 2) i with h8|h8
      ·intro h9
       exact hc (NK (BK.1 hs _ i hmid hi' h8) h9)
      ·have:i=(lo+hi) / 2:=by omega
       subst this
       exact hc
    ·have:lo=hi:=by omega
     subst this
     exact⟨lo,h5,h2 _ lo,h6,h7⟩
 exact key rows.length 0 rows.length (by omega) (by omega) (AJ _) (λi _ h=>by omega) (λi h h'=>by omega) fz (DN hl)
theorem wz{rows:List Row}{row:Row}(hs:WW rows){k:Nat}(hk:k<=rows.length)(h1:∀i (hi:i < rows.length),i < k->Eh rows[i] row < 0)(h2:∀i (hi:i < rows.length),k<=i->¬Eh rows[i] row < 0):
  (Hg rows k λx=>Eh x row==0)=rows.contains row:=by
 rw[BX,Av]
 constructor
 ·intro h
  rcases Bb k rows.length with hlt|hge
  ·rw[BV hlt,BG]at h
   rw[<-RA h]
   exact Ad hlt
  ·unfold Hg at h;rw[Bu hge]at h;cases h
 ·intro h
  obtain⟨j,hj,rfl⟩:=AY.1 h
  have hkj:¬j < k:=λh3=>by have:=h1 j hj h3;rw[SJ]at this;omega
  have hlt:k < rows.length:=by omega
  rw[BV hlt,BG]
  rcases Bb k j with h3|h3
  ·exact absurd (BK.1 hs k j hlt hj h3) (h2 k hlt (AJ _))
  ·have:k=j:=by omega
   subst this
   exact SJ _
theorem w6{r:Rln}{row:Row}(hs:WW r.2)(hr:GN r.2):∃k:Nat,k<=r.2.length∧QA r row=some ((k:Int),r.2.contains row)∧(∀i (hi:i < r.2.length),i < k->Eh r.2[i] row < 0)∧∀i (hi:i < r.2.length),k<=i->¬Eh r.2[i] row < 0:=by
 obtain⟨k,hk,hl,h1,h2⟩:=su (B:=OZ r row) (row:=row) hs hr.1 (λrec lo hi m h1 h2 h3 hm=>by
  have:=hr.1
  unfold lim at this
  simp only[OZ]
  have hlh:(lo:Int)+(hi:Int)<=2199023255552:=by omega
  have e1:wZ ((lo:Int)+(hi:Int))=((lo+hi:Nat):Int):=by rw[wrap_in ⟨by omega,by omega⟩];omega
  have e2:wZ (Int.tdiv ((lo+hi:Nat):Int) 2)=((m:Nat):Int):=by
   have e3:Int.tdiv ((lo+hi:Nat):Int) 2=(((lo+hi) / 2:Nat):Int):=by rw[IOQ (by omega)];omega
   rw[e3,<-h3,wrap_in ⟨by omega,by omega⟩]
  rw[Ai (by omega),e1,e2,AI hm]
  simp only[Ac,G]
  rw[WD (hr.2 _ (Ad hm))]
  simp only
  rw[wrap_in (by omega)]
  simp) (λrec lo=>by simp only[OZ];rw[Bc];rfl)
 unfold QA
 rw[hl]
 simp only[G]
 have hp:=wz (row:=row) hs hk h1 h2
 rcases Bb k r.2.length with hlt|hge
 ·rw[Bi hlt,AI hlt]
  simp only[Ac,WD (hr.2 _ (Ad hlt)),O0]
  rw[BV hlt]at hp
  exact⟨k,hk,by rw[hp],h1,h2⟩
 ·rw[Af (by omega)]
  have:(Hg r.2 k λx=>Eh x row==0)=false:=by unfold Hg;rw[Bu hge]
  rw[this]at hp
  exact⟨k,hk,by rw[<-hp];rfl,h1,h2⟩
theorem Aak{r:Rln}{row:Row}(hs:WW r.2)(hr:GN r.2):∃z,QA r row=some (z,r.2.contains row):=
 let⟨k,_,h,_⟩:=w6 (row:=row) hs hr
 ⟨_,h⟩
abbrev Dlt:=zU×Rln×Rln
section
variable {d:List QE}{x:Dlt}
end
def kf:∀{l m:zI},l.Nodup->(∀x∈l,x∈m)->l.length<=m.length
 |[],m,_,_=>by simp
 |x::l,m,a,h=>by
  have c:=h x (by simp);rw[BF]at a
  have f:=kf (l:=l) (m:=m.erase x) a.2 (λy d=>by
   have b:y≠x:=λe=>by subst e;exact a.1 d
   exact(List.mem_erase_of_ne b).2 (h y (by simp[d])))
  have g:=List.length_erase_of_mem c;have i:0 < m.length:=List.length_pos_of_mem c;rw[AD];omega
def Af1{n}(p:1<=n∧n<=5){l:zI}(h:Bt l (HC n l)=false):l.Nodup∧∀e∈l,0<=e∧e < n:=by
 have d:wZ (n - 1)=n - 1:=wrap_in (by omega);constructor
 ·rw[CJ,BK];intro i j hi f g a;have b:=FJ h f;unfold HC at b;simp only[B9]at b;have c:=b.2;have m:(l.take j).contains l[j]=true:=by rw[Av,AY];exact⟨i,by rw[At];omega,by rw[IY];exact a⟩
  rw[m]at c;cases c
 ·intro e a;obtain⟨k,o,rfl⟩:=AY.1 a;have:=FJ h o;unfold HC Hv at this;simp only[B9,Dm,Aa,Bf,d]at this;omega
def xd{m}(a:0<=m∧m<=5){l:zI}(b:l.Nodup)(d:∀e∈l,0<=e∧e < m):Bt l (HC m l)=false:=J0 λi hi=>by have g:=d _<|Ad hi;unfold HC Hv;rw[wrap_in (by omega),B9];refine⟨by simp;omega,?_⟩;rw[<-Gm,Av];intro a;have⟨j,f,c⟩:=AY.1 a;rw[At]at f;rw[IY]at c;rw[CJ,BK]at b;exact b j i (by omega) hi (by omega) c
def lA(a:MA):(IG a 5).Nodup:=by unfold IG;rw[CJ,Es];have h:((List.range 5).filter λ(v:Nat)=>a.2.contains (v:Int)).Nodup:=H7 E7 Ed;rw[CJ]at h;exact h.imp λh e=>h (by omega)
def M8{q o}(h:TB q o=true):(o.length:Int)=q.1∧o.Nodup∧(∀v∈o,0<=v∧v < q.1)∧∀v:Int,0<=v->v < q.1->v∈o:=by
 unfold TB at h;simp only[Aa,AH,BG]at h;have d:=Sg h.1;have a:=Af1 d h.2.2;refine⟨h.2.1,a.1,a.2,λv f g=>?_⟩;apply BO;intro b
 have:=few q.1.toNat (v::o) (BF.2 ⟨b,a.1⟩) (λe c=>by
  rcases AE.1 c with rfl|c
  ·omega
  ·have:=a.2 e c;omega)
 rw[AD]at this;have:=h.2.1;omega
def Oj(V o:zI):Nat->zI
 |0=>[]
 |k+1=>Oj V o k++cond (decide (0<=CN V (LH o (k:Int)))&& !(Oj V o k).contains (CN V<|LH o (k:Int))) [CN V (LH o (k:Int))] []
def dx(V o:zI):∀k,(Oj V o k).length<=k
 |0=>by simp[Oj]
 |k+1=>by
  have:=dx V o k;rw[Oj,Au];cases decide (0<=CN V (LH o (k:Int)))&& !(Oj V o k).contains (CN V<|LH o (k:Int))
  ·rw[Ab,Cl];omega
  ·rw[Ac,Al];omega
def cw(V o:zI):∀k,(Oj V o k).Nodup
 |0=>AP
 |k+1=>by
  rw[Oj];cases a:decide (0<=CN V (LH o (k:Int)))&& !(Oj V o k).contains (CN V<|LH o (k:Int))with
  |false=>rw[Ab,AR];exact cw V o k
  |true=>rw[Aa,AH]at a;rw[Ac];refine AA.2 ⟨cw V o k,by simp,λx c y b e=>?_⟩;simp only[AC]at b;subst e b;have:=a.2;rw[<-Gm,Av]at this;exact this c
def wA{l v}(h:0<=CN l v):CN l v < (l.length:Int)∧l.contains v=true:=by
 have a:l.contains v=true:=by rw[<-HB];exact Ai h
 have⟨k,b,c,_⟩:=Lz a;exact⟨by omega,a⟩
def jG(V o:zI):∀k,∀x∈Oj V o k,0<=x∧x < (V.length:Int)
 |0,x,h=>by cases h
 |k+1,x,h=>by
  rw[Oj]at h;rcases Ak.1 h with h|h
  ·exact jG V o k x h
  ·cases a:decide (0<=CN V (LH o (k:Int)))&& !(Oj V o k).contains (CN V<|LH o (k:Int))with
   |false=>rw[a]at h;cases h
   |true=>rw[a,Ac,AC]at h;rw[Aa,Bf]at a;subst h;exact⟨a.1,(wA a.1).1⟩
def pX(V o:zI){x:Int}:∀{d i:Nat},x∈Oj V o i->x∈Oj V o (i+d)
 |0,_,h=>h
 |d+1,i,h=>by rw[show i+(d+1)=(i+d)+1 by omega,Oj];exact AF _<|pX V o h
def um{V o}(b:V.Nodup){j i:Nat}(c:j < V.length)(hi:i < o.length)(g:o[i]=V[j]):(j:Int)∈Oj V o o.length:=by
 have l:V.contains o[i]=true:=by rw[Av,g];exact Ad c
 have⟨p,k,m,e⟩:=Lz l
 have f:p=j:=by
  apply BO;intro n;rw[CJ,BK]at b;rw[g]at e;rcases Bb p j with h|h
  ·exact b p j k c h e
  ·exact b j p c k (by omega) e.symm
 have a:(j:Int)∈Oj V o (i+1):=by
  rw[Oj,Hi hi,m,f];rw[Ai (by omega:(0:Int)<=(j:Int)),AL];cases q:(Oj V o i).contains (j:Int)with
  |true=>exact AF _<|Av.1 q
  |false=>exact Az _ (by simp)
 have:=pX V o (d:=o.length - (i+1)) a
 rwa [show i+1+(o.length - (i+1))=o.length by omega]at this
def r7{V o}(b:V.Nodup)(h:∀v∈V,v∈o):(Oj V o o.length).length=V.length:=by
 have g:=few V.length (Oj V o o.length) (cw V o _)<|jG V o _
 have c:((List.range V.length).map λ(j:Nat)=>(j:Int)).length<=(Oj V o o.length).length:=by
  refine kf ?_ ?_
  ·rw[CJ,Es];have h:=Ed (n:=V.length);rw[CJ]at h;exact h.imp λh e=>h (by omega)
  ·intro x d;obtain⟨j,a,rfl⟩:=A5.1 d;have a:=AB.1 a;have⟨i,hi,f⟩:=AY.1<|h _<|Ad a;exact um b a hi f
 rw[Aj,C9]at c;omega
def jF(a:MA)(o:zI):zI:=Oj (IG a 5) o o.length
def AjA{a o}(g:Ox a)(i:o.length<=5):Kz a o=some (jF a o):=by
 have e:a.2.length<=lim:=by have:=g.1;unfold lim;omega
 have h:=LR a 5;unfold Kz;rw[AfO e,AV]
 have:=CD (body:=Fn o (IG a 5)) (out:=jF a o) (λk=>(Oj (IG a 5) o k,(k:Int))) o.length (λk c d=>by
  have j:=dx (IG a 5) o k
  have f:∀(v:Int) (b:Bool),GD d (Oj (IG a 5) o k) (k:Int) v b=d (Oj (IG a 5) o k++cond b [v] [],((k+1:Nat):Int)):=λv b=>by
   rw[GD];cases b with
   |true=>rw[Ac,A1 (by simp only[Al];unfold lim;omega),GE,Bm c (by unfold maxLen;omega)];rfl
   |false=>rw[Ab,GE,Bm c (by unfold maxLen;omega),Ab,AR]
  rw[Fn,Oj];rw[Bi c,AI c,Ac,AV,Ot (by unfold lim;omega),AV,Hi c];cases l:decide (0<=CN (IG a 5) o[k])with
  |true=>rw[Ac,Ot (by unfold lim;omega),AV,dO,f,AL]
  |false=>rw[Ab,f,Hx]) (λrec=>by rw[Fn];rw[Bc];rfl) fz (DN (by unfold lim;omega))
 rw[show((([]:zI),(0:Int)))=(Oj (IG a 5) o 0,((0:Nat):Int))from rfl,this];rfl
def AhB{a o}(g:Ox a)(i:o.length<=5):Kc a o=some (jF a o):=by
 have c:a.2.length<=lim:=by have:=g.1;unfold lim;omega
 have h:=LR a 5;unfold Kc;rw[uZ c (λv=>mm c v),AV]
 have:=CD (body:=Fj o (IG a 5)) (out:=jF a o) (λk=>(Oj (IG a 5) o k,(k:Int))) o.length (λk d e=>by
  have j:=dx (IG a 5) o k
  have f:∀(v:Int) (b:Bool),Gs e (Oj (IG a 5) o k) (k:Int) v b=e (Oj (IG a 5) o k++cond b [v] [],((k+1:Nat):Int)):=λv b=>by
   rw[Gs];cases b with
   |true=>rw[Ac,A1 (by simp only[Al];unfold lim;omega),Gt,Bm d (by unfold maxLen;omega)];rfl
   |false=>rw[Ab,Gt,Bm d (by unfold maxLen;omega),Ab,AR]
  rw[Fj,Oj];rw[Bi d,AI d,Ac,AV,Q0 (by unfold lim;omega),AV,Hi d];cases l:decide (0<=CN (IG a 5) o[k])with
  |true=>rw[Ac,ip (by unfold lim;omega),AV,f,AL]
  |false=>rw[Ab,f,Hx]) (λrec=>by rw[Fj];rw[Bc];rfl) fz (DN (by unfold lim;omega))
 rw[show((([]:zI),(0:Int)))=(Oj (IG a 5) o 0,((0:Nat):Int))from rfl,this];rfl
def iQ(r:Int×List zI)(c:zI):Prop:=Mr r=true∧(c.length:Int)=r.1∧c.Nodup∧∀e∈c,0<=e∧e < r.1
def X0(r:Int×List zI)(c:zI):Int×List zI:=((c.length:Int),sortB<|r.2.map λx=>FP x c)
def cL{r c}(h:iQ r c):GN r.2∧c.length<=5∧(∀x∈r.2,∀e∈c,0<=e∧e < (x.length:Int))∧(∀x∈r.2.map λx=>FP x c,(x.length:Int)=(c.length:Int)∧Py x=true)∧r.2.length<=4000:=by
 have⟨i,m,n,f⟩:=h;have a:=Qi i;refine⟨⟨by have:=a.2.2.1;unfold lim;omega,λx b=>by have:=(a.2.2.2 x b).1;unfold lim;omega⟩,by omega,λx b e d=>by have:=(a.2.2.2 x b).1;have:=f e d;omega,λy j=>?_,a.2.2.1⟩;obtain⟨x,b,rfl⟩:=A5.1 j;refine⟨by unfold FP;rw[Aj],jp λv g=>?_⟩;unfold FP at g;obtain⟨e,d,rfl⟩:=A5.1 g;have o:=f e d;have k:=a.2.2.2 x b;have l:e=((e.toNat:Nat):Int):=by omega
 rw[l,Hi (by omega)];exact df k.2 (by omega)
def pa{r c}(h:iQ r c):Hv (c.length:Int) 0 5=true∧GN (r.2.map λx=>FP x c):=by have⟨a,e,f,b,g⟩:=cL h;refine⟨by unfold Hv;simp;omega,by rw[Aj];exact a.1,λx d=>by have:=(b x d).1;unfold lim;omega⟩
def AfX{r c}(h:iQ r c):Qo r c=some (X0 r c,true):=by
 have⟨g,v,m,o,p⟩:=cL h;have⟨q,s⟩:=pa h;have⟨g1,g2,t,j⟩:=h;have w:=Qi g1
 have d:Ap (Hj r c) fz 0=some (.inl ()):=by
  have:=Ux (B:=Hj r c) (n:=c.length) (λ_=>false) ((0,[]),false) (by unfold lim;omega) (λk b i=>by
   have l:=j _<|Ad b;rw[Hj];rw[Bi b,AI b,Ac,AV,Qk,AV,wrap_in (by omega),Bm b (by unfold maxLen;omega)];have:Hv c[k] 0 (r.1 - 1)=true:=by unfold Hv;simp;omega
   rw[this];rfl) (λrec=>by rw[Hj];rw[Bc];rfl)
  rw[this];have e:((List.range c.length).any λ_=>false)=false:=by rw[Cz];intro _ _;simp
  rw[e];rfl
 have f:Ap (J8 r c) fz (([]:List zI),0)=some (r.2.map λx=>FP x c):=
  H5 (a:=r.2) (h:=λx=>FP x c) g.1 (λk b i=>by rw[J8];rw[Bi b,AI b,Bm b (Ba g.1),Ac,AV,fw (by unfold lim;omega) (m _ (Ad b)),AV,A1 (by simp only[Aj,At,Al];unfold lim;omega)]) (λrec y=>by rw[J8];rw[Bc];rfl)
 have u:G5 r c=some (X0 r c,true):=by unfold G5 X0;rw[d,AV];simp only;rw[iZ g,AV,g1,An,Ab,Af (by omega),Ab,f,AV,wW s,AV,mN q (by rw[Aj];exact p) o]
 unfold Qo;rw[wY (by unfold lim;omega),AV,xd (by omega) t (λe l=>by have:=j e l;omega),Ai (by omega)];rw[show((c.length:Int)!=r.1)=false by rw[g2];simp,u];rfl
def Adf{r c}(h:iQ r c):PG r c=some (X0 r c,true):=by
 have⟨h1,h2,h3,h4,h5⟩:=cL h;have⟨h6,h7⟩:=pa h;have⟨g1,g2,g3,g4⟩:=h;have hr:=Qi g1
 have hfit:Ga r.1 c=some true:=by
  by_cases h0:c.length=0
  ·have:c=[]:=Bp h0;subst this;unfold Ga;rw[Af (by simp),Ab];have e:Ap (Ft r.1 []) fz 0=some (.inl ()):=CD (body:=Ft r.1 []) (λ_=>(0:Int)) 0 (λk hk=>absurd hk<|by omega) (λrec=>by rw[Ft];rfl) fz (by unfold fz;omega);rw[e];rfl
  ·exact u4 (by omega) h2 g4
 have hrows:Ap (J2 r c) fz (([]:List zI),0)=some (r.2.map λx=>FP x c):=
  H5 (a:=r.2) (h:=λx=>FP x c) h1.1 (λk hk rec=>by rw[J2];rw[Bi hk,AI hk,Bm hk (Ba h1.1),Ac,AV,oE (by unfold lim;omega) (h3 _ (Ad hk)),AV,A1 (by simp only[Aj,At,Al];unfold lim;omega)]) (λrec y=>by rw[J2];rw[Bc];rfl)
 have hp:HJ r c=some (X0 r c,true):=by unfold HJ X0;rw[dW h1,AV,g1,An,Ab,hfit,AV,An,Ab,hrows,AV,AhN h7,AV,mN h6 (by rw[Aj];exact h5) h4]
 unfold PG O7 JP;rw[Ai (by omega),Ac,qx (by unfold lim;omega),AV,xd (by omega) g3 (λe he=>by have:=g4 e he;omega)];rw[show((c.length:Int)!=r.1)=false by rw[g2];simp,hp];rfl
def nf{r c}(h:iQ r c):Mr (X0 r c)=true∧(X0 r c).2.length<=r.2.length:=by
 have⟨d,e,f,a,b⟩:=cL h;refine⟨Zq (pa h).1 (by rw[Aj];exact b) a,?_⟩;unfold X0;have:=ND<|r.2.map λx=>FP x c
 rw[Aj]at this;exact this
def bH(d:List QE)(o:zI)(a:MA):Int×List zI:=X0 (abB d a)<|jF a o
def ck{d q o a}(h:JZ q=true)(i:TB q o=true)(j:a∈q.2.1)(k:GP d a=true):Ox a∧iQ (abB d a) (jF a o):=by
 have l:=WB h;have f:=l.2.2.2 a j;have c:Ox a:=⟨f.1,λv g=>by have:=f.2 v g;omega⟩;have m:=M8 i;have b:(jF a o).length=(IG a 5).length:=r7 (lA a) λv g=>by have n:=X8.1 g;have:=f.2 v<|Av.1 n.2;exact m.2.2.2 v this.1 this.2
 refine⟨c,(jk c k).1,?_,cw _ _ _,λe p=>?_⟩
 ·show((jF a o).length:Int)=((IG a 5).length:Int);rw[b]
 ·exact jG _ _ _ e p
def nh{d q}(h:E3 d q=true):JZ q=true∧dbB d=true∧∀a∈q.2.1,GP d a=true:=by unfold E3 at h;simp only[Aa,AH]at h;refine⟨h.1,h.2.1,λa b=>?_⟩;obtain⟨k,c,rfl⟩:=AY.1 b;have:=FJ h.2.2 c;simpa using this
def bf(d:List QE)(q:Jz)(o:zI):List (Int×List zI)×Bool:=cond (E3 d q&&TB q o) (q.2.1.map<|bH d o,true) ([],false)
def Aam{d q o}(h:Ql d)(i:Th q)(l:o.length<=lim):OU d q o=some (bf d q o):=by
 unfold OU bf;rw[kL h i,AV];cases m:E3 d q with
 |false=>rfl
 |true=>
  rw[An,Ab,ro i l,AV];cases c:TB q o with
  |false=>rfl
  |true=>
   have a:=nh m;have t:=WB a.1;have j:o.length<=5:=by have:=(M8 c).1;omega
   rw[An,Ab];have:=nS (v:=(([]:List (Int×List zI)),false)) (B:=Mf d q o) (n:=q.2.1.length) (λk=>(q.2.1.take k).map (bH d o)) (λ_=>false) i.1 (λk f p=>by have b:=Ad f;have⟨g,r⟩:=ck a.1 c b<|a.2.2 _ b;have s:=AfX r;rw[Mf];rw[Bi f,AI f,Bm f (Ba i.1),Ac,AV,Ajy h g (a.2.2 _ b),AV,AV,AjA g j,AV,s,AV,An,Ab,A1 (by simp only[Aj,At,Al];unfold lim;omega),A6 f,Bd];rfl) (λrec=>by rw[Mf];rw[Bc];rfl);have e:((List.range q.2.1.length).any λ_=>false)=false:=by rw[Cz];intro _ _;simp
   rw[e,AT]at this;rw[show((([]:List (Int×List zI)),(0:Int)))=((q.2.1.take 0).map<|bH d o,0)from rfl,this];rfl
def yM{d q o}(h:Ql d)(g:Th q)(k:o.length<=lim):OM d q o=some (bf d q o):=by
 unfold OM bf;rw[oF h g,AV];cases l:E3 d q with
 |false=>rfl
 |true=>
  rw[An,Ab,yI g k,AV];cases e:TB q o with
  |false=>rfl
  |true=>
   have b:=nh l;have r:=WB b.1;have j:o.length<=5:=by have:=(M8 e).1;omega
   rw[An,Ab];rw[H5 (a:=q.2.1) (h:=bH d o) g.1 (λk i m=>by have c:=Ad i;have⟨f,n⟩:=ck b.1 e c<|b.2.2 _ c;have p:=Adf n;rw[O6];rw[Bi i,AI i,Bm i (Ba g.1),Ac,AV,Ahy h f (b.2.2 _ c),AV,AhB f j,AV,p,AV,A1 (by simp only[Aj,At,Al];unfold lim;omega)];rfl) (λrec y=>by rw[O6];rw[Bc];rfl)];rfl
end
end Go.Proofs.YtdnlfoelbfcmnaaGreatDoor
