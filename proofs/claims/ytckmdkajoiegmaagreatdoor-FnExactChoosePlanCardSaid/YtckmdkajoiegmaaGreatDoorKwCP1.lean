/-
 Cover programs and the comparison of bounds: what both give. No conditions.
-/
import Derived.Test.YtckmdkajoiegmaaGreatDoorTvCP1
import Derived.Test.YtckmdkajoiegmaaGreatDoorNkCP1
open Go.RowKit
set_option linter.unusedVariables false
set_option linter.unusedSimpArgs false
namespace Go.Proofs.YtckmdkajoiegmaaGreatDoor
def K6(q:IZ)(v:Int):List Rt:=q.2.1.map λa=>(cond (a.2.contains v) 1 0,1)
def cpP(q:IZ):LP:=((List.range' 0 q.1.toNat).map (λ(v:Nat)=>K6 q (v:Int)),(List.range' 0 q.1.toNat).map (λ_=>(1,1)),q.2.1.map λ_=>(1,1))
def cpB(q:IZ):LP×Bool:=cond (DD q) (cpP q,true) (([],[],[]),false)
theorem FE{q:IZ}(h:DD q=true):1<=q.1∧q.1<=5∧1<=q.2.1.length∧q.2.1.length<=4:=by
 unfold DD at h
 simp only[Ab,Nk]at h
 omega
section
variable {q:IZ}
theorem oB(hq:LF q)(v:Int):Aq (H1 q v) fz ([],0)=some (K6 q v):=by
 rw[OE (B:=H1 q v) (l:=q.2.1) (s0:=[]) (h:=λa=>(cond (a.2.contains v) 1 0,1)) (by simpa using hq.1) (λk hk s rec hs=>by
  show cond (decide ((k:Int) < (q.2.1.length:Int))) _ _=_
  rw[BC hk,Ac,BL hk]
  simp only[Aa]
  rw[aE (hq.2.1 _ (Ao hk)).2]
  simp only[Aa]
  unfold H2
  have h1:=hq.1
  cases(q.2.1[k]).2.contains v with
  |true=>rw[Ac,AZ (by rw[hs];simp;unfold lim at h1⊢;omega),BQ hk (Bo hq.1)];rfl
  |false=>rw[Ad,AZ (by rw[hs];simp;unfold lim at h1⊢;omega),BQ hk (Bo hq.1)];rfl) (λrec s=>by
  show cond (decide ((q.2.1.length:Int) < (q.2.1.length:Int))) _ _=_
  rw[Bl];rfl),Bh]
 rfl
theorem fc(hq:LF q)(v:Int):Aq (NT q v) fz ([],0)=some (K6 q v):=by
 rw[OE (B:=NT q v) (l:=q.2.1) (s0:=[]) (h:=λa=>(cond (a.2.contains v) 1 0,1)) (by simpa using hq.1) (λk hk s rec hs=>by
  show cond (decide ((k:Int) < (q.2.1.length:Int))) _ _=_
  rw[BC hk,Ac,BL hk]
  simp only[Aa]
  rw[dl (hq.2.1 _ (Ao hk)).2]
  simp only[Aa]
  unfold OV
  have h1:=hq.1
  cases(q.2.1[k]).2.contains v with
  |true=>rw[Ac];simp only[Aa];rw[AZ (by rw[hs];simp;unfold lim at h1⊢;omega),BQ hk (Bo hq.1)];rfl
  |false=>rw[Ad];simp only[Aa];rw[AZ (by rw[hs];simp;unfold lim at h1⊢;omega),BQ hk (Bo hq.1)];rfl) (λrec s=>by
  show cond (decide ((q.2.1.length:Int) < (q.2.1.length:Int))) _ _=_
  rw[Bl];rfl),Bh]
 rfl
theorem lK(hq:LF q):Aq (KF q) fz ([],0)=some (q.2.1.map λ_=>(1,1)):=by
 rw[OE (B:=KF q) (l:=q.2.1) (s0:=[]) (h:=λ_=>(1,1)) (by simpa using hq.1) (λk hk s rec hs=>by
  have h1:=hq.1
  show cond (decide ((k:Int) < (q.2.1.length:Int))) _ _=_
  rw[BC hk,Ac,AZ (by rw[hs];simp;unfold lim at h1⊢;omega),BQ hk (Bo hq.1)]) (λrec s=>by
  show cond (decide ((q.2.1.length:Int) < (q.2.1.length:Int))) _ _=_
  rw[Bl];rfl),Bh]
theorem jL(hq:LF q):Aq (NU q) fz ([],0)=some (q.2.1.map λ_=>(1,1)):=by
 rw[OE (B:=NU q) (l:=q.2.1) (s0:=[]) (h:=λ_=>(1,1)) (by simpa using hq.1) (λk hk s rec hs=>by
  have h1:=hq.1
  show cond (decide ((k:Int) < (q.2.1.length:Int))) _ _=_
  rw[BC hk,Ac,AZ (by rw[hs];simp;unfold lim at h1⊢;omega),BQ hk (Bo hq.1)]) (λrec s=>by
  show cond (decide ((q.2.1.length:Int) < (q.2.1.length:Int))) _ _=_
  rw[Bl];rfl),Bh]
theorem zh(hq:LF q):J3 q=some (cpB q):=by
 unfold J3 cpB
 rw[Nr hq]
 simp only[Aa]
 cases hv:DD q with
 |false=>rfl
 |true=>
  obtain⟨h1,h2,h3,h4⟩:=FE hv
  have hn:((q.1.toNat:Nat):Int)=q.1:=by omega
  rw[Aj,Ad]
  have hl:=Ex (B:=NM q) (n:=q.1.toNat) (O:=Unit) (λ(s:Mx×List Rt) k=>(s.1,s.2,(k:Int))) (λk s=>s.1.length=k∧s.2.length=k) (λk s=>.inl (s.1++[K6 q (k:Int)],s.2++[((1:Int),(1:Int))])) (λo=>match o with|.inl s=>s|.inr _=>([],[])) (by unfold lim;omega) (λrec k s hk hi=>by
   show cond (decide ((k:Int) < q.1)) _ _=_
   rw[Ai (by omega),Ac,oB hq]
   simp only[Aa]
   rw[AZ (by rw[hi.1];simp;unfold lim;omega),AZ (by rw[hi.2];simp;unfold lim;omega),BQ hk (by unfold maxLen;omega)]) (λrec s hi=>by
   show cond (decide (((q.1.toNat:Nat):Int) < q.1)) _ _=_
   rw[Ah (by omega)];rfl) (λk s s' hk hi hs=>by cases hs;exact⟨by simp[hi.1],by simp[hi.2]⟩) ([],[]) ⟨rfl,rfl⟩
  rw[show(([]:Mx),([]:List Rt),(0:Int))=((([],[]):Mx×List Rt).1,(([],[]):Mx×List Rt).2,((0:Nat):Int))from rfl,hl,OB (λk=>K6 q (k:Int)) (λ_=>((1:Int),(1:Int)))]
  simp only[Bh]
  rw[lK hq]
  rfl
theorem yW(hq:LF q):JT q=some (cpB q):=by
 unfold JT cpB
 rw[Mr hq]
 simp only[Aa]
 cases hv:DD q with
 |false=>rfl
 |true=>
  obtain⟨h1,h2,h3,h4⟩:=FE hv
  rw[Aj,Ad]
  have hd:JU q=some ((List.range' 0 q.1.toNat).map λ(v:Nat)=>(v:Int)):=by
   unfold JU
   rw[Mr hq,hv]
   simp only[Aa,Aj,Ad]
   have hl:=Ex (B:=Ny q) (n:=q.1.toNat) (O:=Unit) (λ(s:List Int) k=>(s,(k:Int))) (λk s=>s.length=k) (λk s=>.inl (s++[(k:Int)])) (λo=>match o with|.inl s=>s|.inr _=>[]) (by unfold lim;omega) (λrec k s hk hi=>by
    show cond (decide ((k:Int) < q.1)) _ _=_
    rw[Ai (by omega),Ac,AZ (by rw[hi];simp;unfold lim;omega),BQ hk (by unfold maxLen;omega)]) (λrec s hi=>by
    show cond (decide (((q.1.toNat:Nat):Int) < q.1)) _ _=_
    rw[Ah (by omega)];rfl) (λk s s' hk hi hs=>by cases hs;simp[hi]) [] rfl
   rw[show((0:Nat):Int)=0 from rfl]at hl
   rw[hl,X0 (λ(k:Nat)=>(k:Int))]
   rfl
  rw[hd]
  simp only[Aa]
  unfold Mw
  have hlen:((List.range' 0 q.1.toNat).map λ(v:Nat)=>(v:Int)).length=q.1.toNat:=by simp
  have hl:=Ex (B:=Jt q ((List.range' 0 q.1.toNat).map λ(v:Nat)=>(v:Int))) (n:=q.1.toNat) (O:=Unit) (λ(s:Mx×List Rt) k=>(s.1,s.2,(k:Int))) (λk s=>s.1.length=k∧s.2.length=k) (λk s=>.inl (s.1++[K6 q (k:Int)],s.2++[((1:Int),(1:Int))])) (λo=>match o with|.inl s=>s|.inr _=>([],[])) (by unfold lim;omega) (λrec k s hk hi=>by
   show cond (decide ((k:Int) < ((((List.range' 0 q.1.toNat).map λ(v:Nat)=>(v:Int)).length:Nat):Int))) _ _=_
   rw[hlen,BC hk,Ac,BL (by rw[hlen];exact hk),BU,FP]
   simp only[Aa,CL,F4]
   rw[fc hq]
   simp only[Aa]
   rw[AZ (by rw[hi.1];simp;unfold lim;omega),AZ (by rw[hi.2];simp;unfold lim;omega),BQ hk (by unfold maxLen;omega)]) (λrec s hi=>by
   show cond (decide (((q.1.toNat:Nat):Int) < ((((List.range' 0 q.1.toNat).map λ(v:Nat)=>(v:Int)).length:Nat):Int))) _ _=_
   rw[hlen,Bl];rfl) (λk s s' hk hi hs=>by cases hs;exact⟨by simp[hi.1],by simp[hi.2]⟩) ([],[]) ⟨rfl,rfl⟩
  rw[show(([]:Mx),([]:List Rt),(0:Int))=((([],[]):Mx×List Rt).1,(([],[]):Mx×List Rt).2,((0:Nat):Int))from rfl,hl,OB (λk=>K6 q (k:Int)) (λ_=>((1:Int),(1:Int)))]
  simp only[Bh]
  rw[jL hq]
  rfl
theorem pp(hv:DD q=true):We (cpP q):=by
 obtain⟨h1,h2,h3,h4⟩:=FE hv
 unfold cpP We
 refine⟨by simp;unfold lim;omega,by simp;unfold lim;omega,by simp;unfold lim;omega⟩
end
section
variable {s:List Int}{a b:List Rt}
end
theorem Xf{S:List Bool}{i:Nat}:gB S i=true->i < S.length:=λh=>by
 refine Bq λhc=>?_
 unfold gB at h
 rw[At,AU (by omega)]at h
 cases h
theorem jC{S:List Bool}{i j:Nat}(h:i < S.length):gB (S.set i false) j=(if i=j then false else gB S j):=by
 unfold gB
 rw[At,DM,At]
 split
 ·first|rfl|(rename_i e;subst e;rw[AJ h];rfl)
 ·rfl
theorem X3:∀{S:List Bool}{i:Nat},gB S i=true->((S.set i false).filter id).length < (S.filter id).length
 |[],i,h=>by simp[gB]at h
 |b::S,0,h=>by
  have:b=true:=h
  subst this
  simp
 |b::S,i+1,h=>by
  have:=X3 (S:=S) (i:=i) h
  cases b<;>simp[List.set_cons_succ]<;>simpa using this
theorem VN{P:List Bool->Prop}{n:Nat}:∀(k:Nat) (S:List Bool),(S.filter id).length<=k->S.length=n->P S->∃S:List Bool,S.length=n∧P S∧∀i,gB S i=true->¬P (S.set i false)
 |0,S,hk,hl,hp=>⟨S,hl,hp,λi hi _=>by have:=X3 hi;omega⟩
 |k+1,S,hk,hl,hp=>by
  by_cases h:∃i,gB S i=true∧P (S.set i false)
  ·obtain⟨i,h1,h2⟩:=h
   have:=X3 h1
   exact VN k (S.set i false) (by omega) (by rw[B5];exact hl) h2
  ·exact⟨S,hl,hp,λi hi hc=>h ⟨i,hi,hc⟩⟩
theorem bc{t:Nat}:∀{c:List Nat}{i:Nat},(i::c).Pairwise (· < ·)->(∀e∈i::c,e < t)->i+c.length < t
 |[],i,_,h=>by have:=h i BK;simpa using this
 |d::c,i,hp,h=>by
  obtain⟨h1,h2⟩:=HZ.1 hp
  have:=bc h2 λe he=>h e (AQ _ he)
  have:=h1 d BK
  rw[AL];omega
theorem eD{t:Nat}:∀{c:List Nat}{fr:Nat},c.Pairwise (· < ·)->(∀e∈c,fr<=e∧e < t)->c∈NQ t c.length fr
 |[],_,_,_=>AV.2 rfl
 |i::c,fr,hp,h=>by
  obtain⟨h1,h2⟩:=HZ.1 hp
  have hr:=bc hp λe he=>(h e he).2
  have hi:=h i BK
  rw[AL,NQ,Ch]
  refine⟨i,GH.2 ⟨hi.1,by omega⟩,Bw.2 ⟨c,eD h2 λe he=>⟨h1 e he,(h e (AQ _ he)).2⟩,rfl⟩⟩
theorem YX{α:Type}(f:α->Bool):∀l:List α,(l.filter f).length+(l.filter λx=> !f x).length=l.length
 |[]=>rfl
 |x::l=>by
  have:=YX f l
  cases hf:f x<;>simp[hf]<;>omega
theorem i8(b:Bool):HB (bt b)=true∧0<=(bt b).1:=by cases b<;>decide
section
variable {q:IZ}
def bits(q:IZ)(v:Nat):List Bool:=q.2.1.map λa=>a.2.contains (v:Int)
theorem mW(v:Nat):K6 q (v:Int)=(bits q v).map bt:=by
 unfold K6 bits bt
 rw[Ew];rfl
theorem iZ(v:Nat):(bits q v).length=q.2.1.length:=by unfold bits;rw[Ar]
theorem kY:HB ((1:Int),(1:Int))=true:=by decide
theorem qS{v i:Nat}(h:i < q.2.1.length):gB (bits q v) i=(q.2.1[i]).2.contains (v:Int):=by
 unfold gB bits
 rw[At,BB,Ae h];rfl
theorem aQ{n:Nat}(h1:1<=n)(h2:n<=4):iC n=true∧tryD n=true:=by
 have:n=1∨n=2∨n=3∨n=4:=by omega
 rcases this with rfl|rfl|rfl|rfl
 ·exact⟨zq,yl⟩
 ·exact⟨zr,ym⟩
 ·exact⟨zt,yo⟩
 ·exact⟨zu,yp⟩
end
def QX(q:IZ)(B:List Nat):LP:=(B.map (λ(v:Nat)=>K6 q (v:Int)),B.map (λ_=>(1,1)),q.2.1.map λ_=>(1,1))
def SmG(q:IZ)(B:List Nat):Prop:=1<=B.length∧B.length<=5∧∀v∈B,v < q.1.toNat
theorem mm{p:LP}{sg:Int}{out:Mx}{c:List Nat}{x:List Rt}(h:x∈out):x∈visit p sg out c:=by
 unfold visit
 cases(Qy (c.map (rowAt p)) (c.map (Ft p))).2 with
 |false=>exact h
 |true=>
  cases O9 p (Qy (c.map (rowAt p)) (c.map (Ft p))).1 sg with
  |false=>exact h
  |true=>
   cases out.any (· ==(Qy (c.map (rowAt p)) (c.map (Ft p))).1)with
   |true=>exact h
   |false=>exact AA _ h
theorem bJ{p:LP}{sg:Int}{x:List Rt}:∀(l:List (List Nat)) (out:Mx),x∈out->x∈l.foldl (visit p sg) out
 |[],_,h=>h
 |c::l,out,h=>bJ l _ (mm h)
theorem YO{p:LP}{sg:Int}{c:List Nat}(h1:(Qy (c.map (rowAt p)) (c.map (Ft p))).2=true)(h2:O9 p (Qy (c.map (rowAt p)) (c.map (Ft p))).1 sg=true):∀(l:List (List Nat)) (out:Mx),c∈l->(Qy (c.map (rowAt p)) (c.map (Ft p))).1∈l.foldl (visit p sg) out
 |d::l,out,h=>by
  rw[Db]
  rcases AO.1 h with rfl|h
  ·refine bJ l _ ?_
   unfold visit
   rw[h1,h2,Ac,Ac]
   cases ha:out.any (· ==(Qy (c.map (rowAt p)) (c.map (Ft p))).1)with
   |true=>
    obtain⟨y,hy,e⟩:=Cu.1 ha
    rw[Bi]at e
    rw[<-e];exact hy
   |false=>exact Aw _ (AV.2 rfl)
  ·exact YO h1 h2 l _ h
section
variable {q:IZ}{B:List Nat}
def Qg(q:IZ)(B:List Nat)(k:Nat):List Bool:=bits q (B.getD k 0)
theorem WU(v:Nat):(Qg q B v).length=q.2.1.length:=iZ _
theorem qR{v i:Nat}(h:i < q.2.1.length):gB (Qg q B v) i=(q.2.1[i]).2.contains ((B.getD v 0:Nat):Int):=qS h
theorem Lh:(QX q B).2.1.length=B.length∧(QX q B).2.2.length=q.2.1.length∧(QX q B).1.length=B.length:=by unfold QX;simp
theorem cX{v:Nat}(h:v < B.length):EA (QX q B).1 v=(Qg q B v).map bt:=by
 rw[<-I6 (by rw[Lh.2.2];exact h)]
 unfold Qg
 rw[<-mW,At,Ae h]
 unfold QX
 simp only[BU,BJ]
theorem pn(hv:DD q=true)(hs:SmG q B):Ok (QX q B)=true:=by
 obtain⟨h1,h2,h3,h4⟩:=FE hv
 have hs1:=hs.1
 have hs2:=hs.2.1
 unfold Ok
 rw[Lh.1,Lh.2.1,Lh.2.2]
 simp only[Ab,Nk,Bi]
 refine⟨by omega,by omega,trivial,?_,?_,?_⟩
 ·rw[Af]
  intro r hr
  obtain⟨i,hi,rfl⟩:=Eh hr
  have hi':i < B.length:=by rw[Lh.2.2]at hi;exact hi
  rw[I6 hi,cX hi']
  unfold rowOk
  rw[Ar,WU,BP,AC,Hk,Af]
  exactλb _=>(i8 b).1
 ·rw[Af]
  intro r hr
  unfold QX at hr
  obtain⟨_,_,rfl⟩:=Bw.1 hr
  exact kY
 ·rw[Af]
  intro r hr
  unfold QX at hr
  obtain⟨_,_,rfl⟩:=Bw.1 hr
  exact kY
def ql(q:IZ)(B:List Nat)(S:List Bool):Prop:=∀v,v < B.length->∃i,gB (Qg q B v) i=true∧gB S i=true
theorem jB(hv:DD q=true)(hs:SmG q B):ql q B (List.replicate q.2.1.length true):=λv hvn=>by
 have hu:=hv
 unfold DD at hu
 simp only[Ab,AD]at hu
 have hvm:B.getD v 0 < q.1.toNat:=by
  rw[At,Ae hvn];exact hs.2.2 _ (Ao hvn)
 have hu:=Ct.1 hu.2.2.2.2 (B.getD v 0) (Al.2 hvm)
 have hu:Il q.2.1 ((B.getD v 0:Nat):Int)=true:=by simpa using hu
 unfold Il at hu
 obtain⟨a,ha,hc⟩:=Cu.1 hu
 obtain⟨i,hi,rfl⟩:=Eh ha
 refine⟨i,by rw[qR hi];exact hc,?_⟩
 unfold gB
 rw[At,List.getElem?_replicate,AJ hi];rfl
theorem lZ(hv:DD q=true)(hs:SmG q B){S:List Bool}(hl:S.length=q.2.1.length)(hc:ql q B S):O9 (QX q B) (S.map bt) 1=true:=by
 obtain⟨h1,h2,h3,h4⟩:=FE hv
 have hD:=(aQ h3 h4).2
 have hdot:∀v,v < B.length->eK (Qg q B v) S=true:=λv _=>by
  unfold tryD at hD
  have ha:=Af.1 hD (Qg q B v) (by have:=OH (Qg q B v);rwa [WU]at this)
  exact Af.1 ha S (by have:=OH S;rwa [hl]at this)
 have hdo:∀v,v < B.length->(JI (EA (QX q B).1 v) (S.map bt)).2=true∧decide (IntKind.i64.wrap (KX (JI (EA (QX q B).1 v) (S.map bt)).1 (1,1) * 1) < 0)=false:=λv hvn=>by
  have hd:=hdot v hvn
  unfold eK at hd
  rw[Ab,Ci,AD,AD]at hd
  rw[cX hvn]
  refine⟨hd.1,hd.2.resolve_left λhm=>?_⟩
  obtain⟨i,g1,g2⟩:=hc v hvn
  unfold pR at hm
  have:=Ct.1 hm i (Al.2 (Xf g2))
  rw[g1,g2]at this;exact this rfl
 have hmv:Uf (QX q B).1 (S.map bt)=((List.range' 0 B.length).map (λv=>(JI (EA (QX q B).1 v) (S.map bt)).1),true):=by
  unfold Uf
  rw[Lh.2.2,XB (h:=λv=>(JI (EA (QX q B).1 v) (S.map bt)).1) B.length 0 (λi _ hi=>by
   unfold mvG
   rw[(hdo i (by omega)).1];rfl)]
 unfold O9
 rw[pn hv hs,AC,Ar,hl,Lh.2.1,BP,AC,hmv,AC,Hk]
 rw[Ab,AD]
 refine⟨Af.2 λb _=>?_,Ct.2 λv hvn=>?_⟩
 ·show(HB (bt b)&&decide (0<=(bt b).1))=true
  rw[(i8 b).1,Ai (i8 b).2];rfl
 ·simp only[Ar,HY,Al]at hvn
  unfold Zn
  rw[hmv]
  have e1:atR ((List.range' 0 B.length).map λv=>(JI (EA (QX q B).1 v) (S.map bt)).1) v=(JI (EA (QX q B).1 v) (S.map bt)).1:=by
   rw[<-JH (by rw[Ar,HY];exact hvn),BU,FP];simp
  have e2:atR (QX q B).2.1 v=(1,1):=by
   rw[<-JH (by rw[Lh.1];exact hvn)]
   unfold QX
   simp
  simp only
  rw[e1,e2,(hdo v hvn).2];simp
theorem qP(hv:DD q=true)(hs:SmG q B):∃S:List Bool,S.length=q.2.1.length∧S.map bt∈Om (QX q B) 1:=by
 obtain⟨h1,h2,h3,h4⟩:=FE hv
 unfold Om
 rw[Lh.1,Lh.2.1]
 obtain⟨S,hl,hc,hmin⟩:=VN (P:=ql q B) (n:=q.2.1.length) _ (List.replicate q.2.1.length true) (A9 _) (by simp) (jB hv hs)
 have hex:∀i,gB S i=true->∃v,v < B.length∧gB (Qg q B v) i=true∧∀j,gB S j=true->gB (Qg q B v) j=true->j=i:=λi hi=>by
  have hn:=hmin i hi
  refine Bq λhcon=>hn λv hvn=>?_
  obtain⟨j,g1,g2⟩:=hc v hvn
  by_cases hji:j=i
  ·subst hji
   refine Bq λhno=>hcon ⟨v,hvn,g1,λk k1 k2=>Bq λhki=>hno ⟨k,k2,?_⟩⟩
   rw[jC (Xf hi),AN (λh=>hki h.symm)];exact k1
  ·exact⟨j,g1,by rw[jC (Xf hi),AN (λh=>hji h.symm)];exact g2⟩
 obtain⟨f,hf⟩:∃f:Nat->Nat,∀i,gB S i=true->f i < B.length∧gB (Qg q B (f i)) i=true∧∀j,gB S j=true->gB (Qg q B (f i)) j=true->j=i:=
  ⟨λi=>if h:gB S i=true then Classical.choose (hex i h)else 0,λi hi=>by
   simp only[dif_pos hi];exact Classical.choose_spec (hex i hi)⟩
 have hinj:∀i j,gB S i=true->gB S j=true->f i=f j->i=j:=λi j hi hj e=>(hf j hj).2.2 i hi (by rw[<-e];exact(hf i hi).2.1)
 have htk:∀i,i∈aN S↔gB S i=true:=λi=>by
  unfold aN
  rw[Be,Al]
  exact⟨λh=>h.2,λh=>⟨Xf h,h⟩⟩
 have hVn:((aN S).map f).Nodup:=by
  unfold List.Nodup
  rw[ES]
  have:(aN S).Pairwise (· ≠ ·):=D6 _ Fd
  exact List.Pairwise.imp_of_mem (λ{a b} ha hb hne e=>hne (hinj a b ((htk a).1 ha) ((htk b).1 hb) e)) this
 let vs:=(List.range B.length).filter λv=>((aN S).map f).contains v
 have hvs:∀v,v∈vs↔∃i,gB S i=true∧f i=v:=λv=>by
  show v∈(List.range B.length).filter _↔_
  rw[Be,Al,Av,Bw]
  constructor
  ·rintro⟨_,i,hi,e⟩;exact⟨i,(htk i).1 hi,e⟩
  ·rintro⟨i,hi,e⟩;exact⟨by rw[<-e];exact(hf i hi).1,i,(htk i).2 hi,e⟩
 have hvl:vs.length=(aN S).length:=by
  have hp:vs.Perm ((aN S).map f):=(List.perm_ext_iff_of_nodup (D6 _ Fd) hVn).2 λv=>by
   rw[hvs,Bw]
   exact⟨λ⟨i,hi,e⟩=>⟨i,(htk i).2 hi,e⟩,λ⟨i,hi,e⟩=>⟨i,(htk i).1 hi,e⟩⟩
  rw[hp.length_eq,Ar]
 have hvlt:∀v∈vs,v < B.length:=λv hvm=>by
  obtain⟨i,hi,e⟩:=(hvs v).1 hvm
  rw[<-e];exact(hf i hi).1
 have hvasc:vs.Pairwise (· < ·):=D6 _ Ig
 have hfasc:(OM S).Pairwise (· < ·):=D6 _ Ig
 have hflt:∀j∈OM S,j < q.2.1.length:=λj hj=>by
  unfold OM at hj
  rw[Be,Al]at hj
  rw[<-hl];exact hj.1
 have hlen:(vs++(OM S).map (B.length+ ·)).length=q.2.1.length:=by
  rw[AR,Ar,hvl]
  have:=YX (λj=>gB S j) (List.range S.length)
  rw[BS]at this
  unfold aN OM
  omega
 have hasc:(vs++(OM S).map (B.length+ ·)).Pairwise (· < ·):=by
  rw[List.pairwise_append]
  refine⟨hvasc,?_,λv hvm e he=>?_⟩
  ·rw[ES]
   exact GE (λh=>by omega) hfasc
  ·obtain⟨j,_,rfl⟩:=Bw.1 he
   have:=hvlt v hvm;omega
 have hmem:=eD (t:=B.length+q.2.1.length) (fr:=0) hasc (λe he=>by
  rcases An.1 he with he|he
  ·have:=hvlt e he;omega
  ·obtain⟨j,hj,rfl⟩:=Bw.1 he
   have:=hflt j hj;omega)
 rw[hlen]at hmem
 have hrow:(vs++(OM S).map (B.length+ ·)).map (rowAt (QX q B))=(vs.map (Qg q B)).map (λr=>r.map bt)++(OM S).map (S8 S.length):=by
  rw[BY,Ew,Ew]
  congr 1
  ·refine BE λv hvm=>?_
   unfold rowAt
   rw[Lh.1,AJ (hvlt v hvm),cX (hvlt v hvm)];rfl
  ·refine BE λj _=>?_
   simp only[Function.comp]
   unfold rowAt
   rw[Lh.1,Lh.2.1,AN (by omega),CC,hl]
 have hrgt:(vs++(OM S).map (B.length+ ·)).map (Ft (QX q B))=(vs.map (Qg q B)).map (λ_=>((1:Int),(1:Int)))++(OM S).map (λ_=>((0:Int),(1:Int))):=by
  rw[BY,Ew,Ew]
  congr 1
  ·refine BE λv hvm=>?_
   unfold Ft
   rw[Lh.1,AJ (hvlt v hvm),<-JH (by rw[Lh.1];exact hvlt v hvm)]
   unfold QX
   simp
  ·refine BE λj _=>?_
   simp only[Function.comp]
   unfold Ft
   rw[Lh.1,AN (by omega)]
 have hcand:∀r∈vs.map (Qg q B),r∈ey S:=λr hr=>by
  obtain⟨v,hvm,rfl⟩:=Bw.1 hr
  obtain⟨i,hi,e⟩:=(hvs v).1 hvm
  subst e
  unfold ey
  rw[Be]
  refine⟨by have:=OH (Qg q B (f i));rwa [WU,<-hl]at this,?_⟩
  unfold pU
  refine Cu.2 ⟨i,Al.2 (Xf hi),?_⟩
  rw[hi,(hf i hi).2.1,FG,AC,Af]
  intro j _
  rw[Ci,Bi,AD]
  by_cases hj:j=i
  ·exact .inl hj
  ·refine .inr ?_
   cases ha:gB S j with
   |false=>rfl
   |true=>
    cases hb:gB (Qg q B (f i)) j with
    |false=>rfl
    |true=>exact absurd ((hf i hi).2.2 j ha hb) hj
 have hpair:(vs.map (Qg q B)).Pairwise (λa b=>apart S a b=true):=by
  rw[ES]
  refine List.Pairwise.imp_of_mem (λ{a b} ha hb hlt=>?_) hvasc
  obtain⟨i,hi,ei⟩:=(hvs a).1 ha
  obtain⟨j,hj,ej⟩:=(hvs b).1 hb
  unfold apart
  rw[Af]
  intro k _
  rw[AD]
  cases hk:gB S k with
  |false=>rfl
  |true=>
   cases hka:gB (Qg q B a) k with
   |false=>rfl
   |true=>
    cases hkb:gB (Qg q B b) k with
    |false=>rfl
    |true=>
     exfalso
     subst ei ej
     have e1:=(hf i hi).2.2 k hk hka
     have e2:=(hf j hj).2.2 k hk hkb
     subst e1
     subst e2
     omega
 have hgen:=bN hcand hpair
 rw[Ar,hvl]at hgen
 have hS:=(aQ h3 h4).1
 unfold iC at hS
 have hS2:=Af.1 (Af.1 hS S (by have:=OH S;rwa [hl]at this)) _ hgen
 unfold qd at hS2
 rw[Ab,Bi]at hS2
 refine⟨S,hl,?_⟩
 have hfin:=YO (p:=QX q B) (sg:=1) (c:=vs++(OM S).map (B.length+ ·)) (by rw[hrow,hrgt];exact hS2.1) (by rw[hrow,hrgt,hS2.2];exact lZ hv hs hl hc) _ [] hmem
 rw[hrow,hrgt,hS2.2]at hfin
 exact hfin
end
def mnS(c:List Rt)(st:List Rt×Rt×Bool)(x:List Rt):List Rt×Rt×Bool:=cond ((JI c x).2&&(!st.2.2 || decide (IntKind.i64.wrap (KX (JI c x).1 st.2.1 * 1) < 0))) (x,(JI c x).1,true) st
def mnB(p:LP):List Rt×Rt×Bool:=(Om p 1).foldl (mnS p.2.2) ([],(0,0),false)
def Rg(p:LP):List Rt×Rt×Bool:=cond (Ok p&&p.2.2.all λr=>decide (0<=r.1)) (mnB p) ([],(0,0),false)
def nnR(r:Rt):Prop:=HB r=true∧0<=r.1
theorem fL{n d:Int}(hn:0<=n)(hd:0<=d)(h:(rNew n d).2=true):nnR (rNew n d).1:=by
 unfold rNew at h⊢
 cases h1:d==0 with
 |true=>rw[h1]at h;cases h
 |false=>
  rw[h1]at h
  cases h2:JP n (-4000000000000000000) 4000000000000000000 with
  |false=>rw[h2]at h;cases h
  |true=>
   rw[h2]at h
   cases h3:JP d (-4000000000000000000) 4000000000000000000 with
   |false=>rw[h3]at h;cases h
   |true=>
    rw[h3]at h
    rw[Ah (by omega:¬d < 0)]at h⊢
    simp only[Ad,Ac]at h⊢
    unfold aC at h⊢
    cases h4:HB (n.tdiv (Nat.gcd n.natAbs d.natAbs:Nat),d.tdiv (Nat.gcd n.natAbs d.natAbs:Nat))with
    |false=>rw[h4]at h;cases h
    |true=>exact⟨h4,Int.tdiv_nonneg hn (Int.natCast_nonneg _)⟩
theorem ou{a b:Rt}(ha:0<=a.1)(hb:0<=b.1)(h:(HK a b).2=true):nnR (HK a b).1:=by
 unfold HK at h⊢
 cases h1:HB a with
 |false=>rw[h1]at h;cases h
 |true=>
  cases h2:HB b with
  |false=>rw[h1,h2]at h;cases h
  |true=>
   rw[h1,h2]at h
   have f1:=G9 h1
   have f2:=G9 h2
   exact fL (IK ha hb) (IK (by omega) (by omega)) h
theorem oh{a b:Rt}(ha:0<=a.1)(hb:0<=b.1)(h:(Tv a b).2=true):nnR (Tv a b).1:=by
 unfold Tv at h⊢
 cases h1:HB a with
 |false=>rw[h1]at h;cases h
 |true=>
  cases h2:HB b with
  |false=>rw[h1,h2]at h;cases h
  |true=>
   rw[h1,h2]at h
   have f1:=G9 h1
   have f2:=G9 h2
   exact fL (Int.add_nonneg (IK ha (by omega)) (IK hb (by omega))) (IK (by omega) (by omega)) h
theorem iP{a:List Rt}(h:∀r∈a,0<=r.1)(k:Nat):0<=(atR a k).1:=by
 unfold atR
 rw[At]
 cases hk:a[k]? with
 |none=>exact Int.le_refl 0
 |some r=>exact h r (Bu hk)
theorem lG{a b:List Rt}(ha:∀r∈a,0<=r.1)(hb:∀r∈b,0<=r.1):∀(j k:Nat) (x y:Rt),nnR x->Mi (VY a b) j k x=.inl y->nnR y
 |0,k,x,y,hx,h=>by
  cases h;exact hx
 |j+1,k,x,y,hx,h=>by
  rw[Mi]at h
  unfold VY at h
  cases h1:(HK (atR a k) (atR b k)).2 with
  |false=>rw[h1]at h;cases h
  |true=>
   have m1:=ou (iP ha k) (iP hb k) h1
   cases h2:(Tv x (HK (atR a k) (atR b k)).1).2 with
   |false=>rw[h1,h2]at h;cases h
   |true=>
    rw[h1,h2]at h
    exact lG ha hb j (k+1) _ y (oh hx.2 m1.2 h2) h
theorem ro{a b:List Rt}(ha:∀r∈a,0<=r.1)(hb:∀r∈b,0<=r.1)(h:(JI a b).2=true):nnR (JI a b).1:=by
 unfold JI at h⊢
 cases h1:(a.length:Int)!=(b.length:Int)with
 |true=>rw[h1]at h;cases h
 |false=>
  rw[Ad]
  rw[h1,Ad]at h
  cases h2:Mi (VY a b) a.length 0 (0,1)with
  |inl x=>exact lG ha hb _ _ _ x ⟨by decide,Int.le_refl 0⟩ h2
  |inr o=>
   exfalso
   rw[h2]at h
   have key:∀(j k:Nat) (x:Rt),Mi (VY a b) j k x=.inr o->o=eQ:=by
    intro j
    induction j with
    |zero=>intro k x h;cases h
    |succ j ih=>
     intro k x h
     rw[Mi]at h
     unfold VY at h
     cases h1:(HK (atR a k) (atR b k)).2 with
     |false=>rw[h1]at h;cases h;rfl
     |true=>
      cases h2:(Tv x (HK (atR a k) (atR b k)).1).2 with
      |false=>rw[h1,h2]at h;cases h;rfl
      |true=>rw[h1,h2]at h;exact ih _ _ h
   rw[key _ _ _ h2]at h
   cases h
theorem Sn{α β:Type}{f:β->α->β}(P:β->Prop)(hf:∀b a,P b->P (f b a)):∀(l:List α) (b:β),P b->P (l.foldl f b)
 |[],_,h=>h
 |a::l,b,h=>Sn P hf l _ (hf b a h)
theorem uq(p:LP):∀x∈Om p 1,∀r∈x,0<=r.1:=by
 unfold Om
 refine Sn (P:=λout:Mx=>∀x∈out,∀r∈x,0<=r.1) (λout c h=>?_) _ _ (λx hx=>by cases hx)
 unfold visit
 cases(Qy (c.map (rowAt p)) (c.map (Ft p))).2 with
 |false=>exact h
 |true=>
  cases hs:O9 p (Qy (c.map (rowAt p)) (c.map (Ft p))).1 1 with
  |false=>exact h
  |true=>
   cases out.any (· ==(Qy (c.map (rowAt p)) (c.map (Ft p))).1)with
   |true=>exact h
   |false=>
    intro x hx r hr
    rcases An.1 hx with hx|hx
    ·exact h x hx r hr
    ·rw[AV]at hx
     subst hx
     unfold O9 at hs
     simp only[Ab]at hs
     have:=Af.1 hs.2.2.1 r hr
     rw[Ab,AB]at this
     exact this.2
theorem kB{c:List Rt}(hc:∀r∈c,0<=r.1):∀(l:List (List Rt)) (st:List Rt×Rt×Bool),(∀x∈l,∀r∈x,0<=r.1)->(st.2.2=true->nnR st.2.1)->(l.foldl (mnS c) st).2.2=true->nnR (l.foldl (mnS c) st).2.1
 |[],st,_,h,h2=>h h2
 |x::l,st,hl,h,h2=>by
  refine kB hc l _ (λy hy=>hl y (AQ _ hy)) (λh3=>?_) h2
  unfold mnS at h3⊢
  cases hd:(JI c x).2 with
  |false=>rw[hd]at h3;exact h h3
  |true=>
   rw[hd,AC]at h3
   rw[AC]
   cases ho: !st.2.2 || decide (IntKind.i64.wrap (KX (JI c x).1 st.2.1 * 1) < 0)with
   |false=>rw[ho]at h3;exact h h3
   |true=>exact ro hc (hl x BK) hd
theorem nK{c:List Rt}(l:List (List Rt))(st:List Rt×Rt×Bool)(h:st.2.2=true):(l.foldl (mnS c) st).2.2=true:=by
 refine Sn (P:=λst:List Rt×Rt×Bool=>st.2.2=true) (λb a h=>?_) l st h
 unfold mnS
 cases(JI c a).2&&(!b.2.2 || decide (IntKind.i64.wrap (KX (JI c a).1 b.2.1 * 1) < 0))with
 |false=>exact h
 |true=>rfl
theorem kA{c:List Rt}{x:List Rt}(hd:(JI c x).2=true):∀(l:List (List Rt)) (st:List Rt×Rt×Bool),x∈l->(l.foldl (mnS c) st).2.2=true
 |y::l,st,h=>by
  rw[Db]
  rcases AO.1 h with rfl|h
  ·refine nK l _ ?_
   unfold mnS
   rw[hd,AC]
   cases hf:st.2.2 with
   |true=>
    cases decide (IntKind.i64.wrap (KX (JI c x).1 st.2.1 * 1) < 0)with
    |true=>rfl
    |false=>exact hf
   |false=>rfl
  ·exact kA hd l _ h
theorem nW{r:Rt}(h:nnR r)(hc:decide (0 < KX r (0,1))=false):r=(0,1):=by
 obtain⟨h1,h2⟩:=h
 have f:=G9 h1
 have hz:r.1=0:=by
  refine Bq λhne=>?_
  have:KX r (0,1)=1:=by
   unfold KX
   rw[h1,show HB ((0:Int),(1:Int))=true from by decide,Ac,Ac]
   simp only
   rw[Ah (by omega),Ai (by omega)];rfl
  rw[this]at hc
  cases hc
 have hd:=f.2.2.2
 rw[hz]at hd
 simp only[Int.natAbs_zero,Nat.gcd_zero_left]at hd
 exact Prod.ext hz (by show r.2=1;omega)
section
variable {q:IZ}{B:List Nat}
def wB(q:IZ)(B:List Nat):Rt×Bool:=((Rg (QX q B)).2.1,(Rg (QX q B)).2.2)
theorem qQ(hv:DD q=true)(hs:SmG q B):Rg (QX q B)=mnB (QX q B):=by
 unfold Rg
 rw[pn hv hs,AC]
 have:(QX q B).2.2.all (λr=>decide (0<=r.1))=true:=by
  unfold QX
  rw[Hk,Af]
  intro a _
  rfl
 rw[this,Ac]
theorem iX:∀r∈(QX q B).2.2,0<=r.1:=λr hr=>by
 unfold QX at hr
 obtain⟨_,_,rfl⟩:=Bw.1 hr
 decide
theorem qj(hv:DD q=true)(hs:SmG q B):(wB q B).2=true∧nnR (wB q B).1:=by
 have hf:(mnB (QX q B)).2.2=true:=by
  obtain⟨S,hl,hp⟩:=qP hv hs
  obtain⟨h1,h2,h3,h4⟩:=FE hv
  unfold mnB
  refine kA (x:=S.map bt) ?_ _ _ hp
  have hD:=(aQ h3 h4).2
  unfold tryD at hD
  have ha:=Af.1 hD (List.replicate q.2.1.length true) (by have:=OH (List.replicate q.2.1.length true);rwa [Dw]at this)
  have hb:=Af.1 ha S (by have:=OH S;rwa [hl]at this)
  unfold eK at hb
  rw[Ab]at hb
  have e:(QX q B).2.2=(List.replicate q.2.1.length true).map bt:=by
   show q.2.1.map (λ_=>((1:Int),(1:Int)))=_
   rw[List.map_replicate,Em]
   rfl
  rw[e]
  exact hb.1
 unfold wB
 rw[qQ hv hs]
 refine⟨hf,?_⟩
 unfold mnB at hf⊢
 exact kB iX _ _ (uq _) (λh=>by cases h) hf
end
def CQ(n:Nat)(S:Nat->Bool):List Int:=((List.range n).filter S).map λ(v:Nat)=>(v:Int)
theorem Ln(n:Nat)(S:Nat->Bool):(CQ n S).length<=n:=by
 unfold CQ
 rw[Ar]
 exact By (BR _ _) (by simp)
theorem ZA(n:Nat)(S:Nat->Bool):CQ (n+1) S=CQ n S++(if S n=true then [(n:Int)]else []):=by
 unfold CQ
 rw[CK,Dl,BY]
 split
 ·rename_i h;simp[h]
 ·rename_i h;simp[h]
theorem mG{n:Nat}{S:Nat->Bool}{x:Int}(h:x∈CQ n S):x < n:=by
 unfold CQ at h
 obtain⟨v,hv,rfl⟩:=Bw.1 h
 have:=Al.1 (Be.1 hv).1
 omega
def upN(e m:Nat)(S:Nat->Bool):List Int:=((List.range m).filter λ(v:Nat)=>S (e+1+v)).map λ(v:Nat)=>((e+1+v:Nat):Int)
theorem mj{e m:Nat}{S:Nat->Bool}{x:Int}(h:x∈upN e m S):(e:Int) < x:=by
 unfold upN at h
 obtain⟨v,hv,rfl⟩:=Bw.1 h
 omega
theorem YG{n e:Nat}(he:e < n)(S:Nat->Bool):CQ n S=CQ e S++((if S e=true then [(e:Int)]else [])++upN e (n - (e+1)) S):=by
 have h:n=(e+1)+(n - (e+1)):=by omega
 have key:∀m,CQ ((e+1)+m) S=CQ (e+1) S++upN e m S:=by
  intro m
  unfold CQ upN
  rw[List.range_add,Dl,BY]
  congr 1
  rw[List.filter_map,Ew]
  rfl
 conv=>lhs;rw[h]
 rw[key,ZA,Bd]
def UH(S:Nat->Bool)(e:Nat):Nat->Bool:=λv=>S v || v==e
theorem asc_add{n e:Nat}(he:e < n)(S:Nat->Bool):CQ n (UH S e)=CQ e S++((e:Int)::upN e (n - (e+1)) S):=by
 rw[YG he]
 have h1:CQ e (UH S e)=CQ e S:=by
  unfold CQ
  congr 1
  apply GG
  intro v hv
  have:=Al.1 hv
  unfold UH
  have:(v==e)=false:=by simp;omega
  rw[this,C0]
 have h2:upN e (n - (e+1)) (UH S e)=upN e (n - (e+1)) S:=by
  unfold upN
  congr 1
  apply GG
  intro v hv
  unfold UH
  have:(e+1+v==e)=false:=by simp;omega
  rw[this,C0]
 have h3:UH S e e=true:=by simp[UH]
 rw[h1,h2,h3];rfl
theorem uN{A R:List Int}{e:Int}(hA:∀x∈A,x < e)(hR:∀x∈R,e<=x)(hl:(A++R).length<=lim):Aq (JB (A++R) e) fz 0=some (A.length:Int):=by
 have hlA:A.length<=lim:=by simp at hl;omega
 refine CB (body:=JB (A++R) e) (λk=>(k:Int)) A.length (λk hk rec=>?_) (λrec=>?_) fz (CR hlA)
 ·have hk2:k < (A++R).length:=by simp;omega
  have e1:(A++R)[k]=A[k]:=Hn hk
  simp only[JB,BC hk2,Ac,BL hk2,Aa,e1]
  rw[Ai (hA _ (Ao hk)),Ac,BQ hk2 (Bo hl)]
 ·cases R with
  |nil=>
   simp only[Bm,JB,Bl,Ad]
  |cons x R=>
   have hk2:A.length < (A++x::R).length:=by simp
   have e1:(A++x::R)[A.length]=x:=by rw[GV (A9 _)];simp
   simp only[JB,BC hk2,Ac,BL hk2,Aa,e1]
   rw[Ah (by have:=hR x (by simp);omega),Ad]
theorem Z6{l:List Int}(h:l.length<=lim):F1 l=some l:=by
 unfold F1
 rw[AZ (by simpa using h)];rfl
theorem uO{S:Nat->Bool}{a1:List Int}{k:Nat}(hk:k < a1.length)(hl:a1.length<=lim){e:Nat}(he:a1[k]=(e:Int))(h99:e < 100)(rec:(List Int×Int)->Option (List Int)):
  Ic a1 rec (CQ 100 S,(k:Int))=rec (CQ 100 (UH S e),((k+1:Nat):Int)):=by
 have hlen:=Ln 100 S
 have hL:(CQ 100 S).length<=lim:=by unfold lim;omega
 have sp:=YG h99 S
 have ad:=asc_add h99 S
 have hA:∀x∈CQ e S,x < (e:Int):=λx hx=>mG hx
 have hR:∀x∈(if S e=true then [(e:Int)]else [])++upN e (100 - (e+1)) S,(e:Int)<=x:=λx hx=>by
  rcases An.1 hx with hx|hx
  ·split at hx
   ·simp at hx;omega
   ·simp at hx
  ·have:=mj hx;omega
 have fnd:=uN (e:=(e:Int)) hA hR (by rw[<-sp];exact hL)
 rw[<-sp]at fnd
 simp only[Ic,BC hk,Ac,BL hk,Aa,he,fnd]
 cases hS:S e with
 |true=>
  rw[hS]at sp
  simp only[Er]at sp
  have hlt:(CQ e S).length < (CQ 100 S).length:=by rw[sp];simp
  have hg:A4 (CQ 100 S) ((CQ e S).length:Int)=some (e:Int):=by
   rw[RE,sp,Bn (A9 _),Ge];rfl
  have hne:(((CQ e S).length:Int)==((CQ 100 S).length:Int))=false:=by simp;omega
  have hE:UH S e=S:=by
   funext v
   unfold UH
   by_cases hv:v=e
   ·subst hv;rw[hS];rfl
   ·have:(v==e)=false:=by simpa using hv
    rw[this,C0]
  rw[hne,Ad,hg]
  simp only[C1,JC,Ad,Ls,BQ hk (Bo hl),hE]
 |false=>
  rw[hS]at sp
  simp only[B6,C8,Bh]at sp
  have hins:JC rec (CQ 100 S) (k:Int) (e:Int) ((CQ e S).length:Int) true=rec (CQ 100 (UH S e),((k+1:Nat):Int)):=by
   have h1:Mj (CQ 100 S) 0 ((CQ e S).length:Int)=CQ e S:=by
    rw[R5,sp,List.take_left']
    rfl
   have h2:Mj (CQ 100 S) ((CQ e S).length:Int) ((CQ 100 S).length:Int)=upN e (100 - (e+1)) S:=by
    unfold Mj
    rw[Bg,Bg,A5,sp,List.drop_left']
    rfl
   have hle:(CQ e S).length<=(CQ 100 S).length:=by rw[sp];simp
   have hle2:(CQ e S).length+(upN e (100 - (e+1)) S).length=(CQ 100 S).length:=by rw[sp,AR]
   simp only[JC,Ac]
   rw[AZ (by omega),h1,Z6 (by omega)]
   simp only[Aa]
   rw[AZ (by simp only[Cs];unfold lim;omega),AZ (by omega),h2,AZ (by simp only[AR,Cs];unfold lim;omega)]
   simp only[Ls,BQ hk (Bo hl),ad,Bd,BN,Bh]
  by_cases hlast:(((CQ e S).length:Int)==((CQ 100 S).length:Int))=true
  ·rw[hlast,Ac];exact hins
  ·rw[show(((CQ e S).length:Int)==((CQ 100 S).length:Int))=false by simpa using hlast,Ad]
   have hlt:(CQ e S).length < (CQ 100 S).length:=by
    have:(CQ e S).length<=(CQ 100 S).length:=by rw[sp];simp
    simp at hlast;omega
   have hg:A4 (CQ 100 S) ((CQ e S).length:Int)=some (CQ 100 S)[(CQ e S).length]:=BL hlt
   rw[hg]
   have hne:((CQ 100 S)[(CQ e S).length]!=(e:Int))=true:=by
    have hm:(CQ 100 S)[(CQ e S).length]∈upN e (100 - (e+1)) S:=by
     have:(CQ 100 S)[(CQ e S).length]? =some (CQ 100 S)[(CQ e S).length]:=Ae hlt
     conv at this=>lhs;rw[sp,Bn (A9 _)]
     exact Bu this
    have:=mj hm
    simp;omega
   simp only[hne]
   exact hins
def Ro(S:Nat->Bool)(l:List Int):Nat->Bool:=λv=>S v || l.contains (v:Int)
theorem Z8{S:Nat->Bool}{a1:List Int}(hl:a1.length<=lim)(h:∀x∈a1,0<=x∧x<=99):M9 (CQ 100 S) a1=some (CQ 100 (Ro S a1)):=by
 have hlen:=Ln 100 S
 unfold M9
 rw[Z6 (by unfold lim;omega)]
 have:=CB (body:=Ic a1) (out:=CQ 100 (Ro S a1)) (λk=>(CQ 100 (Ro S (a1.take k)),(k:Int))) a1.length (λk hk rec=>?_) (λrec=>?_) fz (CR hl)
 ·have e0:Ro S (a1.take 0)=S:=by funext v;simp[Ro]
  rw[e0]at this
  simp only[Aa]
  rw[show((0:Nat):Int)=0 from rfl]at this
  rw[this]
 ·have hx:=h _ (Ao hk)
  rw[uO hk hl (e:=a1[k].toNat) (by omega) (by omega)]
  congr 2
  have:UH (Ro S (a1.take k)) a1[k].toNat=Ro S (a1.take (k+1)):=by
   funext v
   unfold UH Ro
   rw[Au hk]
   simp only[Je,An,AV,Bool.or_assoc]
   congr 1
   by_cases hv:v=a1[k].toNat
   ·subst hv
    have:((a1[k].toNat:Nat):Int)=a1[k]:=by omega
    rw[this];simp
   ·have h1:(v==a1[k].toNat)=false:=by simpa using hv
    have h2:¬((v:Int)=a1[k]):=by omega
    rw[h1];simp[h2]
  rw[this]
 ·simp only[Ic,Bl,Ad,A5]
theorem L6{n:Nat}{S T:Nat->Bool}(h:∀u,u < n->S u=T u):CQ n S=CQ n T:=by
 unfold CQ
 rw[GG λu hu=>h u (Al.1 hu)]
theorem ZC{m:Nat}{S:Nat->Bool}(h:∀u,m<=u->S u=false):∀d,CQ (m+d) S=CQ m S
 |0=>rfl
 |d+1=>by rw[<-E9,ZA,ZC h d,h (m+d) (by omega)];simp
theorem Td(n:Nat)(S:Nat->Bool)(p:Int->Bool):(CQ n S).filter p=CQ n λu=>S u&&p (u:Int):=by
 unfold CQ
 rw[List.filter_map,List.filter_filter]
 congr 2
 funext u
 simp only[Function.comp]
 exact HO _ _
theorem Wk{n:Nat}{S:Nat->Bool}{x:Int}:x∈CQ n S↔∃u:Nat,x=(u:Int)∧u < n∧S u=true:=by
 unfold CQ
 rw[Bw]
 constructor
 ·rintro⟨u,hu,rfl⟩
  obtain⟨h1,h2⟩:=Be.1 hu
  exact⟨u,rfl,Al.1 h1,h2⟩
 ·rintro⟨u,rfl,h1,h2⟩
  exact⟨u,Be.2 ⟨Al.2 h1,h2⟩,rfl⟩
theorem Wj(n:Nat)(S:Nat->Bool)(u:Nat):(CQ n S).contains (u:Int)=(decide (u < n)&&S u):=by
 rw[AG,Av,Wk,Ab,AB]
 constructor
 ·rintro⟨w,e,h1,h2⟩
  obtain rfl:u=w:=by omega
  exact⟨h1,h2⟩
 ·rintro⟨h1,h2⟩
  exact⟨u,rfl,h1,h2⟩
theorem iR(a:Atm)(k:Nat):YH a k=CQ k λv=>a.2.contains (v:Int):=rfl
def E1(q:IZ)(v w:Nat):Bool:=w !=v&&q.2.1.any λa=>a.2.contains (v:Int)&&a.2.contains (w:Int)
theorem Sz(k v:Nat):((k:Int)!=(v:Int))=(k !=v):=by
 rw[AG,Cl,Cl];omega
section
variable {q:IZ}
theorem x7(hq:LF q)(v k:Nat):Aq (Gt q (v:Int) (k:Int)) fz (false,0)=some (E1 q v k):=by
 have:=CB (body:=Gt q (v:Int) (k:Int)) (out:=E1 q v k) (λj=>(k !=v&&(q.2.1.take j).any λa=>a.2.contains (v:Int)&&a.2.contains (k:Int),(j:Int))) q.2.1.length (λj hj rec=>by
  have ha:=hq.2.1 _ (Ao hj)
  unfold Gt Gu
  simp only
  rw[BC hj,BL hj,BQ hj (Bo hq.1),Sz]
  simp only[Ac,Aa,aE ha.2]
  have e:((q.2.1.take (j+1)).any λa=>a.2.contains (v:Int)&&a.2.contains (k:Int))=((q.2.1.take j).any (λa=>a.2.contains (v:Int)&&a.2.contains (k:Int)) || (q.2.1[j].2.contains (v:Int)&&q.2.1[j].2.contains (k:Int))):=by
   rw[Au hj,Gn];simp
  rw[e]
  cases k !=v<;>cases(q.2.1.take j).any (λa=>a.2.contains (v:Int)&&a.2.contains (k:Int))<;>cases q.2.1[j].2.contains (v:Int)<;>cases q.2.1[j].2.contains (k:Int)<;>rfl) (λrec=>by unfold Gt;simp only;rw[Bl,A5];rfl) fz (CR hq.1)
 simpa using this
theorem p7(hq:LF q)(hv:DD q=true)(v:Nat):KH q (v:Int)=some (CQ q.1.toNat (E1 q v)):=by
 obtain⟨h1,h5⟩:=MN hv
 unfold KH
 rw[show((([]:List Int),(0:Int)):List Int×Int)=(CQ 0 (E1 q v),((0:Nat):Int))from rfl,CB (body:=H7 q (v:Int)) (out:=CQ q.1.toNat (E1 q v)) (λk=>(CQ k (E1 q v),(k:Int))) q.1.toNat (λk hk rec=>by
  unfold H7 J9
  simp only
  rw[Ai (by omega:(k:Int) < q.1),Nr hq,hv]
  simp only[Ac,Aa,x7 hq]
  have:=Ln k (E1 q v)
  rw[AZ (by unfold lim;simp;omega),wrap_in (by omega),ZA]
  cases E1 q v k
  ·simp
  ·rfl) (λrec=>by
  unfold H7
  simp only
  rw[Ah (by omega:¬((q.1.toNat:Nat):Int) < q.1)];rfl) fz (CR (by unfold lim;omega))]
 rfl
theorem YS{l:List Int}(h:l.length < lim)(v:Int):MD l v=some (l.filter λx=>x !=v):=by
 unfold MD
 rw[show((([]:List Int),(0:Int)):List Int×Int)=((l.take 0).filter (λx=>x !=v),((0:Nat):Int))from rfl,CB (body:=Ju l v) (out:=l.filter λx=>x !=v) (λk=>((l.take k).filter (λx=>x !=v),(k:Int))) l.length (λk hk rec=>by
  unfold Ju LB
  simp only
  rw[BC hk,BL hk,BQ hk (Bo (Df h)),jy _ hk]
  simp only[Ac,Aa]
  have:=BR (λx=>x !=v) (l.take k)
  rw[Bk]at this
  rw[AZ (by simp;omega)]
  cases l[k]!=v
  ·simp
  ·rfl) (λrec=>by unfold Ju;simp only;rw[Bl,A5];rfl) fz (CR (Df h))]
 rfl
theorem pD(hq:LF q)(hv:DD q=true)(v:Nat):Km q (v:Int)=some (CQ q.1.toNat (E1 q v)):=by
 obtain⟨h1,h5⟩:=MN hv
 obtain⟨_,_,h4,hin⟩:=MM hv
 unfold Km
 rw[Mr hq,hv]
 simp only[Aa,Aj,Ad]
 rw[show((([]:List Int),(0:Int)):List Int×Int)=(CQ 100 (λu=>(q.2.1.take 0).any λa=>a.2.contains (v:Int)&&a.2.contains (u:Int)),((0:Nat):Int))from by
  rw[L6 (T:=λ_=>false) (λu _=>by simp)];unfold CQ;simp,CB (body:=HS q (v:Int)) (out:=CQ 100 (λu=>q.2.1.any λa=>a.2.contains (v:Int)&&a.2.contains (u:Int))) (λk=>(CQ 100 (λu=>(q.2.1.take k).any λa=>a.2.contains (v:Int)&&a.2.contains (u:Int)),(k:Int))) q.2.1.length (λk hk rec=>by
  have ha:=hq.2.1 _ (Ao hk)
  have hia:=(hin _ (Ao hk)).2
  unfold HS J0
  simp only
  rw[BC hk,BL hk,BQ hk (Bo hq.1)]
  simp only[Ac,Aa,dl ha.2,v9 ha.2 (dl ha.2)]
  have e:(λu:Nat=>(q.2.1.take (k+1)).any λa=>a.2.contains (v:Int)&&a.2.contains (u:Int))=λu:Nat=>((q.2.1.take k).any (λa=>a.2.contains (v:Int)&&a.2.contains (u:Int)) || (q.2.1[k].2.contains (v:Int)&&q.2.1[k].2.contains (u:Int))):=by
   funext u
   rw[Au hk,Gn];simp
  rw[e]
  cases hc:q.2.1[k].2.contains (v:Int)with
  |false=>simp only[Ad,Bool.false_and,C0]
  |true=>
   have hl:=ZF q.2.1[k] 5
   have hm:∀x∈YH q.2.1[k] 5,(0:Int)<=x∧x<=99:=λx hx=>by
    rw[iR]at hx
    obtain⟨u,rfl,hu,_⟩:=Wk.1 hx
    omega
   rw[Ac,Z8 (by unfold lim;omega) hm]
   simp only
   rw[L6 (λu hu=>?_)]
   unfold Ro
   rw[iR,Wj,AC]
   congr 1
   rw[AG,Ab,AB]
   refine⟨λh=>h.2,λh=>⟨?_,h⟩⟩
   have:=hia _ (Av.1 h)
   omega) (λrec=>by unfold HS;simp only;rw[Bl,A5];rfl) fz (CR hq.1)]
 have hl:=Ln 100 (λu=>q.2.1.any λa=>a.2.contains (v:Int)&&a.2.contains (u:Int))
 simp only
 rw[YS (by unfold lim;omega),Td]
 simp only
 obtain⟨d,hd⟩:∃d,100=q.1.toNat+d:=⟨100 - q.1.toNat,by omega⟩
 rw[hd,ZC (λu hu=>?_)]
 ·rw[L6 (λu _=>?_)]
  unfold E1
  rw[Sz,HO]
 ·rw[Gm]
  left
  rw[Ct]
  intro a ha h
  rw[Ab]at h
  have:=((hin a ha).2 _ (Av.1 h.2)).2
  omega
end
def oAt(O:List Nat)(i:Nat):Nat:=O.getD i 0
def Rp(O:List Nat)(G:Nat->Nat->Bool)(i:Nat):Nat->Bool:=λu=>u==oAt O i || (G (oAt O i) u&& !(O.take i).contains u)
def stepG(O:List Nat)(G:Nat->Nat->Bool)(i:Nat):Nat->Nat->Bool:=λa b=>G a b || ((Rp O G i a&&Rp O G i b)&&a !=b)
def Pk(O:List Nat)(G:Nat->Nat->Bool):Nat->Nat->Nat->Bool
 |0=>G
 |i+1=>stepG O (Pk O G i) i
def Qf(O:List Nat)(G:Nat->Nat->Bool)(i:Nat):Nat->Bool:=Rp O (Pk O G i) i
def LM(O:List Nat)(G:Nat->Nat->Bool)(i:Nat):List Int:=CQ O.length (Qf O G i)
def nxt(O:List Nat)(G:Nat->Nat->Bool)(i:Nat):Nat:=((List.range' (i+1) (O.length - 1 - i)).find? λk=>Qf O G i (oAt O k)).getD (i+1)
def Ji(O:List Nat)(G:Nat->Nat->Bool)(i:Nat):Int:=cond (i+1==O.length) (-1) (nxt O G i:Int)
def Oa(O:List Nat)(G:Nat->Nat->Bool):List (List Int)×List Int:=((List.range O.length).map (LM O G),(List.range O.length).map (Ji O G))
theorem Xc{n r:Nat}{f:Nat->Bool}(hr:r < n)(h1:f r=true)(h2:∀i,i < n->f i=true->i=r):(List.range n).filter f=[r]:=
 kX (D6 _ Fd) (Be.2 ⟨Al.2 hr,h1⟩) (λi hi=>h2 i (Al.1 (Be.1 hi).1) (Be.1 hi).2)
def UF(O:List Nat):Prop:=O.Nodup∧∀x∈O,x < O.length
section
variable {O:List Nat}{G:Nat->Nat->Bool}
theorem KC{i:Nat}(h:i < O.length):oAt O i=O[i]:=by unfold oAt;rw[At,Ae h];rfl
theorem QM(hp:UF O){i:Nat}(h:i < O.length):oAt O i < O.length:=by rw[KC h];exact hp.2 _ (Ao h)
theorem PF(hp:UF O){i j:Nat}(hi:i < O.length)(hj:j < O.length)(h:oAt O i=oAt O j):i=j:=by
 rw[KC hi,KC hj]at h
 exact(Jg hp.1).1 h
theorem Uh(hp:UF O){u:Nat}(h:u < O.length):∃p,p < O.length∧oAt O p=u:=by
 have hm:u∈O:=Bq λhc=>by
  have hn:((u::O).map λx:Nat=>(x:Int)).Nodup:=by
   unfold List.Nodup
   rw[ES]
   refine GE (λh e=>h (by omega)) (show(u::O).Pairwise (· ≠ ·)from Bx.2 ⟨hc,hp.1⟩)
  have:=few O.length _ hn (λe he=>by
   obtain⟨x,hx,rfl⟩:=Bw.1 he
   have:x < O.length:=(AO.1 hx).elim (λe=>e ▸ h) (hp.2 x)
   omega)
  rw[Ar,AL]at this
  omega
 obtain⟨p,hpl,e⟩:=CJ.1 hm
 exact⟨p,hpl,by rw[KC hpl,e]⟩
theorem XI(hp:UF O){i p:Nat}(h:p < O.length):(O.take i).contains (oAt O p)=decide (p < i):=by
 rw[AG,Av,AB,GX]
 constructor
 ·rintro⟨j,hj,e⟩
  have hj':j < O.length:=by omega
  rw[<-KC hj']at e
  have:=PF hp hj' h e
  omega
 ·intro hi
  exact⟨p,by omega,by rw[KC h]⟩
theorem WS(hp:UF O){i p:Nat}(hi:i < O.length)(h:p < O.length):Qf O G i (oAt O p)=(p==i || (Pk O G i (oAt O i) (oAt O p)&&decide (i<=p))):=by
 unfold Qf Rp
 rw[XI hp h]
 have e1:(oAt O p==oAt O i)=(p==i):=by
  rw[AG,Bi,Bi]
  exact⟨PF hp h hi,λe=>by rw[e]⟩
 have e2:(!decide (p < i))=decide (i<=p):=by
  rw[AG];simp
 rw[e1,e2]
theorem Z3{i:Nat}{a b:Nat}(h:Pk O G i a b=true):∀d,Pk O G (i+d) a b=true
 |0=>h
 |d+1=>by
  show stepG O (Pk O G (i+d)) (i+d) a b=true
  unfold stepG
  rw[Z3 h d];rfl
def Sym(G:Nat->Nat->Bool):Prop:=∀a b,G a b=G b a
def Irr(G:Nat->Nat->Bool):Prop:=∀a,G a a=false
theorem jH(h:Sym G):∀i,Sym (Pk O G i)
 |0=>h
 |i+1=>λa b=>by
  show stepG O (Pk O G i) i a b=stepG O (Pk O G i) i b a
  unfold stepG
  have e:(a !=b)=(b !=a):=by rw[AG,Cl,Cl];exact⟨Ne.symm,Ne.symm⟩
  rw[jH h i a b,HO (Rp O (Pk O G i) i a),e]
theorem jG(h:Irr G):∀i,Irr (Pk O G i)
 |0=>h
 |i+1=>λa=>by
  show stepG O (Pk O G i) i a a=false
  unfold stepG
  rw[jG h i a];simp
theorem kN(hp:UF O){i:Nat}(hi:i+1 < O.length):i < nxt O G i∧nxt O G i < O.length∧(∀k,i < k->k < nxt O G i->Qf O G i (oAt O k)=false)∧((∃k,i < k∧k < O.length∧Qf O G i (oAt O k)=true)->Qf O G i (oAt O (nxt O G i))=true):=by
 unfold nxt
 cases hf:(List.range' (i+1) (O.length - 1 - i)).find? λk=>Qf O G i (oAt O k)with
 |none=>
  rw[List.find?_eq_none]at hf
  refine⟨Ho i,hi,λk h1 h2=>by simp at h2;omega,λ⟨k,h1,h2,h3⟩=>?_⟩
  exact absurd h3 (hf k (GH.2 (by omega)))
 |some k=>
  obtain⟨h1,A1,A2,e,h2⟩:=List.find?_eq_some_iff_append.1 hf
  have hk:k∈List.range' (i+1) (O.length - 1 - i):=by rw[e];simp
  have hkr:=GH.1 hk
  refine⟨by simp;omega,by simp;omega,λj h3 h4=>?_,λ_=>h1⟩
  simp only[BJ]at h4
  have hj:j∈A1:=by
   have hm:j∈List.range' (i+1) (O.length - 1 - i):=GH.2 (by omega)
   rw[e,An]at hm
   rcases hm with hm|hm
   ·exact hm
   ·exfalso
    have hpw:(List.range' (i+1) (O.length - 1 - i)).Pairwise (· < ·):=List.pairwise_lt_range'
    rw[e]at hpw
    rcases AO.1 hm with hm|hm
    ·omega
    ·have:=(HZ.1 (List.pairwise_append.1 hpw).2.1).1 j hm
     omega
  have:=h2 j hj
  simpa using this
theorem lg{i:Nat}(hi:i < O.length):((List.range O.length).map (Ji O G))[i]? =some (Ji O G i):=by
 rw[BB,Cy hi];rfl
theorem Wz{i:Nat}(hi:i < O.length)(f:Int->Bool):Mf ((List.range O.length).map (Ji O G)) i f=f (Ji O G i):=by
 unfold Mf;rw[lg hi]
theorem Wl{i:Nat}(hi:i < O.length)(f:List Int->Bool):Mf ((List.range O.length).map (LM O G)) i f=f (LM O G i):=by
 unfold Mf;rw[BB,Cy hi];rfl
theorem uR{i:Nat}(hi:i < O.length):Ym ((List.range O.length).map (Ji O G)) (i:Int)=Ji O G i:=by
 unfold Ym
 rw[Bg,lg hi];rfl
theorem Ng(hp:UF O){i:Nat}(hi:i < O.length):(Ji O G i= -1∧i+1=O.length)∨(∃k:Nat,Ji O G i=(k:Int)∧i < k∧k < O.length∧k=nxt O G i∧i+1 < O.length):=by
 unfold Ji
 by_cases h:i+1=O.length
 ·left;rw[Bi.2 h];exact⟨rfl,h⟩
 ·right
  rw[AS.2 h]
  have:=kN (G:=G) hp (i:=i) (by omega)
  exact⟨_,rfl,this.1,this.2.1,rfl,by omega⟩
theorem mn(p:List Int):∀m,R9 p m (-1)=some (-1)
 |0=>rfl
 |m+1=>by rw[R9,AN (by omega)]
theorem cR(hp:UF O):∀(m i:Nat),i < O.length->O.length<=m+i->R9 ((List.range O.length).map (Ji O G)) m (i:Int)=some (-1)
 |0,i,h1,h2=>by omega
 |m+1,i,h1,h2=>by
  rw[R9,AJ (by omega),uR h1]
  have hin:inP ((List.range O.length).map (Ji O G)) (Ji O G i)=true:=by
   unfold inP JP
   rw[Ar,BS,Ab,AB,AB]
   rcases Ng (G:=G) hp h1 with⟨e,_⟩|⟨k,e,_,hk,_⟩<;>rw[e]<;>omega
  rw[AJ hin]
  rcases Ng (G:=G) hp h1 with⟨e,_⟩|⟨k,e,h3,hk,_⟩
  ·rw[e];exact mn _ m
  ·rw[e];exact cR hp m k hk (by omega)
theorem jl(hp:UF O)(h0:0 < O.length):cL ((List.range O.length).map (Ji O G))=true:=by
 rw[<-ge]
 unfold UA
 have hlen:((List.range O.length).map (Ji O G)).length=O.length:=by simp
 rw[Ab]
 constructor
 ·rw[AD]
  refine L7 λi hi=>?_
  rw[hlen]at hi
  have e:((List.range O.length).map (Ji O G))[i]'(by rw[hlen];exact hi)=Ji O G i:=by simp
  rw[e,C2]
  constructor
  ·rw[C6]
   unfold inP JP
   rw[hlen,Ab,AB,AB]
   rcases Ng (G:=G) hp hi with⟨e,_⟩|⟨k,e,_,hk,_⟩<;>rw[e]<;>omega
  ·rw[C6]
   unfold endsB
   rw[hlen,cR hp _ i hi (by omega)]
   rfl
 ·have:Zk (λx=>decide (x < 0)) ((List.range O.length).map (Ji O G)) ((List.range O.length).map (Ji O G)).length=[O.length - 1]:=by
   rw[hlen]
   refine Xc (by omega) ?_ λi hi h=>?_
   ·rw[Wz (by omega),AB]
    rcases Ng (G:=G) hp (i:=O.length - 1) (by omega)with⟨e,_⟩|⟨k,e,h3,hk,_⟩
    ·rw[e];omega
    ·omega
   ·rw[Wz hi,AB]at h
    rcases Ng (G:=G) hp hi with⟨e,h4⟩|⟨k,e,h3,hk,_⟩
    ·omega
    ·omega
  rw[this];rfl
theorem iO(n:Nat)(S:Nat->Bool):(CQ n S).Pairwise (· < ·):=by
 unfold CQ
 rw[ES]
 exact GE (λh=>by omega) (D6 _ Ig)
theorem d5{n:Nat}(hn:1<=n∧n<=5){S:Nat->Bool}(h:∃u,u < n∧S u=true):TK (n:Int) (CQ n S)=true:=by
 unfold TK
 rw[Ab]
 constructor
 ·rw[AD]
  refine L7 λi hi=>?_
  rw[C2]
  constructor
  ·obtain⟨u,e,hu,_⟩:=Wk.1 (Ao hi)
   unfold cr JP
   rw[e,wrap_in (by omega),C6,Ab,AB,AB]
   omega
  ·unfold NH
   rw[Gm]
   by_cases h0:0 < i
   ·right
    rw[DH (show i - 1 < (CQ n S).length by omega)]
    have:=List.pairwise_iff_getElem.1 (iO n S) (i - 1) i (by omega) hi (by omega)
    exact Ah (by omega)
   ·left;exact Ah h0
 ·obtain⟨u,h1,h2⟩:=h
  have:(u:Int)∈CQ n S:=Wk.2 ⟨u,rfl,h1,h2⟩
  rw[AB]
  exact Int.natCast_pos.2 (F3 this)
theorem TM(hp:UF O){i p:Nat}(hi:i < O.length)(h:p < O.length):(LM O G i).contains ((oAt O p:Nat):Int)=(p==i || (Pk O G i (oAt O i) (oAt O p)&&decide (i<=p))):=by
 unfold LM
 rw[Wj,Ai (QM hp h),AC,WS hp hi h]
theorem jk(hp:UF O)(hs:Sym G)(h0:0 < O.length):gd id ((List.range O.length).map (LM O G)) ((List.range O.length).map (Ji O G)) O.length=false:=by
 unfold gd
 rw[Ct]
 intro v hv
 have hv:=Al.1 hv
 obtain⟨p,hpl,rfl⟩:=Uh hp hv
 have:TC id ((List.range O.length).map (LM O G)) ((List.range O.length).map (Ji O G)) ((oAt O p:Nat):Int) ((List.range O.length).map (Ji O G)).length=1:=by
  unfold TC
  rw[Ar,BS,Xc (r:=p) hpl ?_ ?_]
  ·rfl
  ·unfold iA
   rw[Wl hpl,Wz hpl,id,TM hp hpl hpl,BP,Kw,AC]
   rcases Ng (G:=G) hp hpl with⟨e,_⟩|⟨k,e,h3,hk,_⟩
   ·rw[e];rfl
   ·rw[e,Bg,Wl hk,id,TM hp hk hpl,AS.2 (by omega),Ah (by omega:¬k<=p)]
    simp
  ·intro i hi h
   unfold iA at h
   rw[Wl hi,Wz hi,id,TM hp hi hpl,Ab]at h
   obtain⟨h1,h2⟩:=h
   rw[Ci,Bi,Ab,AB]at h1
   rcases h1 with h1|⟨hg,hle⟩
   ·exact h1.symm
   ·refine Bq λhne=>?_
    rcases Ng (G:=G) hp hi with⟨e,h4⟩|⟨k,e,h3,hk,hkn,h5⟩
    ·omega
    ·have hin:Qf O G i (oAt O p)=true:=by
      rw[WS hp hi hpl,hg,Ai hle];simp
     obtain⟨n1,n2,n3,n4⟩:=kN (G:=G) hp h5
     have hkp:k<=p:=Bq λhc=>by
      have:=n3 p (by omega) (by omega)
      rw[hin]at this;cases this
     have hkb:Qf O G i (oAt O k)=true:=by rw[hkn];exact n4 ⟨p,by omega,hpl,hin⟩
     rw[e,Bg,Wl hk,id,TM hp hk hpl]at h2
     have hn0:decide ((k:Int) < 0)=false:=Ah (by omega)
     rw[hn0,Cr,AD,C2,AS,Ai hkp,Cj]at h2
     have hstep:Pk O G (i+1) (oAt O k) (oAt O p)=true:=by
      show stepG O (Pk O G i) i (oAt O k) (oAt O p)=true
      unfold stepG
      have hne2:(oAt O k !=oAt O p)=true:=by
       rw[Cl];intro e2;exact h2.1 (PF hp hk hpl e2).symm
      rw[show Rp O (Pk O G i) i (oAt O k)=true from hkb,show Rp O (Pk O G i) i (oAt O p)=true from hin,hne2];simp
     have:=Z3 hstep (k - (i+1))
     rw[show i+1+(k - (i+1))=k from by omega]at this
     rw[this]at h2
     cases h2.2
 rw[this];simp
end
theorem kK(q:IZ):Sym (E1 q):=λa b=>by
 unfold E1
 have e:(b !=a)=(a !=b):=by rw[AG,Cl,Cl];exact⟨Ne.symm,Ne.symm⟩
 rw[e]
 congr 2
 funext x
 exact HO _ _
theorem ua(q:IZ):Irr (E1 q):=λa=>by unfold E1;simp
theorem rl{q:IZ}{O:List Nat}(hv:DD q=true)(hp:UF O)(hl:O.length=q.1.toNat):mY q (Oa O (E1 q))=true:=by
 obtain⟨h1,h5,_,hat⟩:=ip hv
 have hq:q.1=(O.length:Int):=by omega
 unfold mY Oa
 simp only
 rw[hv,jl hp (by omega),<-hl,jk hp (kK q) (by omega)]
 have e1:(!Cw ((List.range O.length).map (LM O (E1 q))) λ_ b=> !TK q.1 b)=true:=by
  rw[AD]
  refine L7 λi hi=>?_
  rw[Ar,BS]at hi
  rw[BU,D1,C6,hq]
  refine d5 ⟨by omega,by omega⟩ ⟨oAt O i,QM hp hi,?_⟩
  rw[WS hp hi hi];simp
 have e2:(!Cw q.2.1 λ_ a=> !((List.range O.length).map (LM O (E1 q))).any (Vj a))=true:=by
  rw[AD]
  refine L7 λj hj=>?_
  obtain⟨ha1,ha2,ha3⟩:=hat _ (Ao hj)
  have ham:=Ao hj
  rw[C6,MJ,Cu]
  generalize q.2.1[j]=a at ha1 ha2 ha3 ham
  have hvar:∀v∈a.2,∃p,p < O.length∧v=((oAt O p:Nat):Int):=λv hv=>by
   obtain⟨b1,b2⟩:=ha3 v hv
   obtain⟨p,b3,b4⟩:=Uh hp (u:=v.toNat) (by omega)
   exact⟨p,b3,by omega⟩
  cases hf:(List.range O.length).find? λp=>a.2.contains ((oAt O p:Nat):Int)with
  |none=>
   exfalso
   obtain⟨p,b3,b4⟩:=hvar _ (Ao (show 0 < a.2.length by omega))
   have:=(List.find?_eq_none.1 hf) p (Al.2 b3)
   rw[<-b4]at this
   exact this (Av.2 (Ao _))
  |some p=>
   obtain⟨c1,c2,c3⟩:=List.find?_range_eq_some.1 hf
   have hpl:=Al.1 c2
   refine⟨p,c2,?_⟩
   show Vj a (LM O (E1 q) p)=true
   unfold Vj
   rw[Af]
   intro v hv'
   obtain⟨k,hk,rfl⟩:=hvar v hv'
   rw[TM hp hpl hk]
   have hpk:p<=k:=Bq λhc=>by
    have:=c3 k (by omega)
    rw[Av.2 hv']at this
    cases this
   rw[Ai hpk,Cj]
   by_cases he:k=p
   ·rw[Bi.2 he];rfl
   ·rw[AS.2 he,Cr]
    have hg:Pk O (E1 q) 0 (oAt O p) (oAt O k)=true:=by
     show E1 q (oAt O p) (oAt O k)=true
     unfold E1
     rw[Ab,Cl,Cu]
     exact⟨λe=>he (PF hp hk hpl e),a,ham,by rw[c1,Av.2 hv'];rfl⟩
    have:=Z3 hg p
    rwa [CL]at this
 rw[e1,e2]
 simp
def OA(n:Nat)(H:Nat->Nat->Bool):List Bool:=(List.range (n * n)).map λt=>H (t / n) (t % n)
theorem tV(n:Nat)(H:Nat->Nat->Bool):(OA n H).length=n * n:=by simp[OA]
theorem kI{n v u:Nat}(hv:v < n)(hu:u < n):v * n+u < n * n:=by
 have:(v+1) * n<=n * n:=Co n hv
 rw[DX]at this
 omega
theorem fx{n v u:Nat}(hu:u < n):(v * n+u) / n=v∧(v * n+u) % n=u:=by
 constructor
 ·rw[Ky,Nat.add_mul_div_right _ _ (by omega),Nat.div_eq_of_lt hu,CL]
 ·rw[Ky,Nat.add_mul_mod_self_right,LX hu]
theorem dC{n v u:Nat}(H:Nat->Nat->Bool)(hv:v < n)(hu:u < n):A4 (OA n H) ((v * n+u:Nat):Int)=some (H v u):=by
 have hi:=kI hv hu
 unfold A4
 rw[AJ (by omega),Bg]
 unfold OA
 rw[BB,Cy hi,Bp,(fx hu).1,(fx hu).2]
theorem kJ{n v u:Nat}(H:Nat->Nat->Bool)(x:Bool)(hv:v < n)(hu:u < n):Dj (OA n H) ((v * n+u:Nat):Int) x=OA n λa b=>if a=v∧b=u then x else H a b:=by
 unfold Dj OA
 rw[Bg]
 refine GF λt=>?_
 by_cases ht:t < n * n
 ·rw[DM,BB,BB,Cy ht,Bp,Bp]
  have hn:0 < n:=by omega
  by_cases he:v * n+u=t
  ·rw[AJ he,AJ (by simp;exact kI hv hu),<-he,(fx hu).1,(fx hu).2]
   show some x=some (if v=v∧u=u then x else H v u)
   rw[AJ ⟨rfl,rfl⟩]
  ·rw[AN he]
   have:¬(t / n=v∧t % n=u):=λ⟨h1,h2⟩=>he (by
    have:=Nat.div_add_mod t n
    rw[h1,h2,Nat.mul_comm]at this
    exact this)
   show some (H (t / n) (t % n))=some (if t / n=v∧t % n=u then x else H (t / n) (t % n))
   rw[AN this]
 ·rw[AU (by simp;omega),AU (by simp;omega)]
theorem Lv{n:Nat}{H H':Nat->Nat->Bool}(h:∀a b,a < n->b < n->H a b=H' a b):OA n H=OA n H':=by
 unfold OA
 refine BE λt ht=>?_
 have ht:=Al.1 ht
 have hn:0 < n:=Nat.pos_of_ne_zero λe=>by subst e;simp at ht
 exact h _ _ (Nat.div_lt_of_lt_mul ht) (MK _ hn)
theorem ixw{n v u:Nat}(hn:n<=5)(hv:v < n)(hu:u < n):IntKind.i64.wrap (IntKind.i64.wrap ((v:Int) * (n:Int))+(u:Int))=((v * n+u:Nat):Int):=by
 have h1:=kI hv hu
 have h2:n * n<=25:=EE hn hn
 have h3:(v:Int) * (n:Int)=((v * n:Nat):Int):=by push_cast;rfl
 rw[h3]
 generalize v * n=m at h1⊢
 generalize n * n=k at h1 h2
 have e:IntKind.i64.wrap ((m:Nat):Int)=(m:Int):=wrap_in (by omega)
 rw[e,wrap_in (by omega)]
 omega
def oI(O:List Nat):List Int:=O.map λ(x:Nat)=>(x:Int)
theorem C3(O:List Nat):(oI O).length=O.length:=by simp[oI]
theorem RU{O:List Nat}{i:Nat}(h:i < O.length):A4 (oI O) (i:Int)=some ((oAt O i:Nat):Int):=by
 rw[BL (by rw[C3];exact h),KC h]
 simp[oI]
theorem Wy(O:List Nat)(i u:Nat):((oI O).take i).contains (u:Int)=(O.take i).contains u:=by
 unfold oI
 rw[AG,Av,Av,<-List.map_take,Bw]
 constructor
 ·rintro⟨x,hx,e⟩
  obtain rfl:x=u:=by omega
  exact hx
 ·intro h;exact⟨u,h,rfl⟩
theorem aj(k v:Nat):((k:Int)==(v:Int))=(k==v):=by
 rw[AG,Bi,Bi];omega
section
variable {q:IZ}{O:List Nat}{n:Nat}
theorem ur(h1:1<=n∧n<=5)(hn:q.1=(n:Int))(hp:UF O)(hl:O.length=n){i:Nat}(hi:i < n)(H:Nat->Nat->Bool):
  Aq (CY q (oI O) (OA n H) (i:Int)) fz ([],0)=some (CQ n (Rp O H i)):=by
 have hio:i < O.length:=by omega
 have hoi:oAt O i < n:=by rw[<-hl];exact QM hp hio
 rw[show((([]:List Int),(0:Int)):List Int×Int)=(CQ 0 (Rp O H i),((0:Nat):Int))from rfl]
 exact CB (body:=CY q (oI O) (OA n H) (i:Int)) (out:=CQ n (Rp O H i)) (λk=>(CQ k (Rp O H i),(k:Int))) n (λk hk rec=>by
  unfold CY DV EF
  simp only
  have hal:=Ln k (Rp O H i)
  rw[hn,Ai (by omega:(k:Int) < (n:Int)),RU hio,wrap_in (by omega)]
  simp only[Ac,Aa]
  rw[aj,ixw h1.2 hoi hk,dC H hoi hk,ZA]
  simp only
  have e:Rp O H i k=(k==oAt O i || (H (oAt O i) k&& !(O.take i).contains k)):=rfl
  rw[AZ (by unfold lim;simp;omega)]
  cases hc:k==oAt O i with
  |true=>
   rw[AJ (by rw[e,hc];rfl)]
   rfl
  |false=>
   rw[Ad]
   cases hg:H (oAt O i) k with
   |false=>
    rw[AN (by rw[e,hc,hg];simp)]
    simp
   |true=>
    rw[Ac,AZ (by rw[C3];omega),R5,Ty (by rw[Bk,C3];unfold lim;omega)]
    simp only
    rw[bG,Wy]
    cases ht:(O.take i).contains k with
    |true=>rw[AN (by rw[e,hc,hg,ht];simp)];simp
    |false=>rw[AJ (by rw[e,hc,hg,ht];rfl)];rfl) (λrec=>by
  unfold CY
  simp only
  rw[hn,Ah (by omega:¬(n:Int) < (n:Int))];rfl) fz (CR (by unfold lim;omega))
theorem yh{bag:List Int}(h1:1<=n∧n<=5)(hn:q.1=(n:Int))(hl:O.length=n)(hb:bag.length<=lim)(p:Nat->Bool)(hpb:∀k,k < n->bag.contains ((oAt O k:Nat):Int)=p k):∀(d k m:Nat) (u:Int),k+d=n->d+1 < m->Aq (Cp q (oI O) bag) m (true,(k:Int),u)=some ((((List.range' k d).find? p).map λ(x:Nat)=>(x:Int)).getD u)
 |0,k,m+1,u,h2,h3=>by
  rw[BH]
  generalize Aq (Cp q (oI O) bag) m=rec
  unfold Cp
  simp only
  rw[hn,Ah (by omega)];rfl
 |d+1,k,m+1,u,h2,h3=>by
  have hB:∀rec:(Bool×Int×Int)->Option Int,Cp q (oI O) bag rec (true,(k:Int),u)=cond (p k) (rec (false,((k+1:Nat):Int),(k:Int))) (rec (true,((k+1:Nat):Int),u)):=λrec=>by
   unfold Cp EG
   simp only
   rw[hn,Ai (by omega:(k:Int) < (n:Int)),RU (by omega)]
   simp only[Ac,Aa]
   rw[Ty hb]
   simp only
   rw[Nh,hpb k (by omega),wrap_in (by omega)]
   rfl
  have hE:∀(rec:(Bool×Int×Int)->Option Int) (x y:Int),Cp q (oI O) bag rec (false,x,y)=some y:=λrec x y=>by
   unfold Cp
   simp only
   cases decide (x < q.1)<;>rfl
  rw[BH,hB,CX,List.find?_cons]
  cases hk:p k with
  |false=>
   rw[Ad,yh h1 hn hl hb p hpb d (k+1) m u (by omega) (by omega)]
  |true=>
   rw[Ac]
   cases m with
   |zero=>omega
   |succ m=>rw[BH,hE];rfl
 |_,_,0,_,_,h3=>by omega
theorem x9{B:List Nat}(h1:1<=n∧n<=5)(hn:q.1=(n:Int))(hB:∀x∈B,x < n)(hnd:B.Nodup)(hbl:B.length<=5){a:Nat}(ha:a < B.length)(H:Nat->Nat->Bool):
  Aq (DU q (oI B) (a:Int)) fz (OA n H,0)=some (OA n λx y=>H x y || ((x==B[a]&&B.contains y)&&x !=y)):=by
 have hn1:0 < n * n:=Nat.mul_pos (by omega) (by omega)
 have key:=CB (body:=DU q (oI B) (a:Int)) (out:=OA n λx y=>H x y || ((x==B[a]&&(B.take B.length).contains y)&&x !=y)) (λj=>(OA n λx y=>H x y || ((x==B[a]&&(B.take j).contains y)&&x !=y),(j:Int))) B.length (λj hj rec=>by
  unfold DU
  simp only
  have hga:∀(k:Nat) (hk:k < B.length),A4 (oI B) (k:Int)=some ((B[k]:Nat):Int):=λk hk=>by rw[RU hk,KC hk]
  have hba:=hB _ (Ao ha)
  have hbj:=hB _ (Ao hj)
  rw[C3,BC hj,wrap_in (by omega),AZ (by rw[tV];exact hn1),hga a ha,hga j hj]
  simp only[Ac,Aa]
  rw[hn,ixw h1.2 hba hbj,dC _ hba hbj,Sz]
  simp only
  have hpos:(a !=j)=(B[a]!=B[j]):=by
   rw[AG,Cl,Cl]
   exact⟨λh e=>h ((Jg hnd).1 e),λh e=>h (by subst e;rfl)⟩
  have hset:∀b:Bool,b=(H B[a] B[j] || (B[a]!=B[j]))->Dj (OA n λx y=>H x y || ((x==B[a]&&(B.take j).contains y)&&x !=y)) ((B[a] * n+B[j]:Nat):Int) b=OA n λx y=>H x y || ((x==B[a]&&(B.take (j+1)).contains y)&&x !=y):=λb hb=>by
   rw[kJ _ _ hba hbj]
   refine Lv λx y hx hy=>?_
   have ht:(B.take (j+1)).contains y=((B.take j).contains y || y==B[j]):=by
    rw[AG,Ci,Av,Av,Bi,Au hj,An,AV]
   rw[ht]
   by_cases hxy:x=B[a]∧y=B[j]
   ·obtain⟨rfl,rfl⟩:=hxy
    rw[AJ ⟨rfl,rfl⟩,hb];simp
   ·rw[AN hxy]
    by_cases hx':x=B[a]
    ·have:(y==B[j])=false:=by rw[AS];exactλe=>hxy ⟨hx',e⟩
     rw[this];simp
    ·rw[AS.2 hx'];simp
  have hnot:(B.take j).contains B[j]=false:=by
   rw[Iq,Ne,Av,GX]
   rintro⟨k,hk,e⟩
   have:=(Jg hnd).1 e
   omega
  rw[hnot]
  simp only[Fh,Bool.false_and,C0]
  cases hH:H B[a] B[j]with
  |true=>rw[Ac,hset true (by rw[hH];rfl)];rfl
  |false=>rw[Ad,hset (a !=j) (by rw[hH,hpos];rfl)];rfl) (λrec=>by
  unfold DU
  simp only
  rw[C3,Bl];rfl) fz (CR (by unfold lim;omega))
 rw[A5]at key
 rw[<-key]
 congr 2
 refine Lv λx y _ _=>?_
 simp
theorem oE{B:List Nat}(h1:1<=n∧n<=5)(hn:q.1=(n:Int))(hB:∀x∈B,x < n)(hnd:B.Nodup)(hbl:B.length<=5)(H:Nat->Nat->Bool):
  Aq (DT q (oI B)) fz (OA n H,0)=some (OA n λx y=>H x y || ((B.contains x&&B.contains y)&&x !=y)):=by
 have key:=CB (body:=DT q (oI B)) (out:=OA n λx y=>H x y || (((B.take B.length).contains x&&B.contains y)&&x !=y)) (λj=>(OA n λx y=>H x y || (((B.take j).contains x&&B.contains y)&&x !=y),(j:Int))) B.length (λj hj rec=>by
  unfold DT
  simp only
  rw[C3,BC hj,wrap_in (by omega),x9 h1 hn hB hnd hbl hj]
  simp only[Ac,Aa]
  have:(OA n λx y=>(H x y || (((B.take j).contains x&&B.contains y)&&x !=y)) || ((x==B[j]&&B.contains y)&&x !=y))=OA n λx y=>H x y || (((B.take (j+1)).contains x&&B.contains y)&&x !=y):=by
   refine Lv λx y _ _=>?_
   have ht:(B.take (j+1)).contains x=((B.take j).contains x || x==B[j]):=by
    rw[AG,Ci,Av,Av,Bi,Au hj,An,AV]
   rw[ht]
   cases H x y<;>cases(B.take j).contains x<;>cases x==B[j]<;>cases B.contains y<;>cases x !=y<;>rfl
  rw[this];rfl) (λrec=>by
  unfold DT
  simp only
  rw[C3,Bl];rfl) fz (CR (by unfold lim;omega))
 rw[A5]at key
 rw[<-key]
 congr 2
 refine Lv λx y _ _=>?_
 simp
end
theorem ZD(n:Nat)(S:Nat->Bool):CQ n S=oI ((List.range n).filter S):=rfl
theorem RC{n:Nat}{S:Nat->Bool}{u:Nat}(h:u < n):((List.range n).filter S).contains u=S u:=by
 rw[AG,Av,Be,Al]
 exact⟨λh=>h.2,λh2=>⟨h,h2⟩⟩
theorem Ws{n:Nat}{S:Nat->Bool}:∀x∈(List.range n).filter S,x < n:=λx hx=>Al.1 (Be.1 hx).1
theorem eR(n:Nat)(S:Nat->Bool):((List.range n).filter S).Nodup:=D6 _ Fd
theorem OL(n:Nat)(S:Nat->Bool):((List.range n).filter S).length<=n:=By (BR _ _) (by simp)
theorem sqw{n:Nat}(hn:n<=5):IntKind.i64.wrap ((n:Int) * (n:Int))=((n * n:Nat):Int):=by
 have h2:n * n<=25:=EE hn hn
 have h3:(n:Int) * (n:Int)=((n * n:Nat):Int):=by push_cast;rfl
 rw[h3]
 generalize n * n=k at h2⊢
 exact wrap_in (by omega)
theorem tW(n:Nat):List.replicate (n * n) false=OA n λ_ _=>false:=by
 unfold OA
 rw[Em,BS]
section
variable {q:IZ}{n:Nat}
theorem x3{B:List Nat}(h1:1<=n∧n<=5)(hn:q.1=(n:Int))(hB:∀x∈B,x < n)(hbl:B.length<=5){v:Nat}(hv:v < n)(H:Nat->Nat->Bool):
  Aq (Ib q (v:Int) (oI B)) fz (OA n H,0)=some (OA n λx y=>H x y || (x==v&&B.contains y)):=by
 have key:=CB (body:=Ib q (v:Int) (oI B)) (out:=OA n λx y=>H x y || (x==v&&(B.take B.length).contains y)) (λj=>(OA n λx y=>H x y || (x==v&&(B.take j).contains y),(j:Int))) B.length (λj hj rec=>by
  unfold Ib
  simp only
  have hbj:=hB _ (Ao hj)
  rw[C3,BC hj,wrap_in (n:=(j:Int)+1) (by omega),RU hj,KC hj]
  simp only[Ac,Aa]
  rw[hn,ixw h1.2 hv hbj,dC _ hv hbj]
  simp only
  rw[kJ _ _ hv hbj]
  have:(OA n λa b=>if a=v∧b=B[j]then true else H a b || (a==v&&(B.take j).contains b))=OA n λx y=>H x y || (x==v&&(B.take (j+1)).contains y):=by
   refine Lv λx y hx hy=>?_
   have ht:(B.take (j+1)).contains y=((B.take j).contains y || y==B[j]):=by
    rw[AG,Ci,Av,Av,Bi,Au hj,An,AV]
   rw[ht]
   by_cases hxy:x=v∧y=B[j]
   ·obtain⟨rfl,rfl⟩:=hxy
    rw[AJ ⟨rfl,rfl⟩];simp
   ·rw[AN hxy]
    by_cases hx':x=v
    ·have:(y==B[j])=false:=by rw[AS];exactλe=>hxy ⟨hx',e⟩
     rw[this];simp
    ·rw[AS.2 hx'];simp
  rw[this];rfl) (λrec=>by
  unfold Ib
  simp only
  rw[C3,Bl];rfl) fz (CR (by unfold lim;omega))
 rw[A5]at key
 rw[<-key]
 congr 2
 refine Lv λx y _ _=>?_
 simp
theorem lH(hq:LF q)(hv:DD q=true):M1 q=some (OA q.1.toNat (E1 q)):=by
 obtain⟨h1,h5⟩:=MN hv
 have hn:q.1=((q.1.toNat:Nat):Int):=by omega
 generalize q.1.toNat=n at hn
 have hn5:1<=n∧n<=5:=by omega
 have hn2:q.1.toNat=n:=by omega
 have h25:n * n<=25:=EE hn5.2 hn5.2
 unfold M1
 rw[hn,sqw hn5.2,Bg,AZ (by generalize n * n=k at h25⊢;unfold lim;omega),tW]
 have:=CB (body:=Kd q) (out:=OA n (E1 q)) (λv=>(OA n λa b=>decide (a < v)&&E1 q a b,(v:Int))) n (λv hvn rec=>by
  unfold Kd
  simp only
  rw[hn,Ai (by omega:(v:Int) < (n:Int)),p7 hq hv,hn2,ZD,wrap_in (by omega)]
  simp only[Ac,Aa]
  rw[x3 hn5 hn Ws (By (OL _ _) hn5.2) hvn]
  simp only
  have:(OA n λx y=>(decide (x < v)&&E1 q x y) || (x==v&&((List.range n).filter (E1 q v)).contains y))=OA n λa b=>decide (a < v+1)&&E1 q a b:=by
   refine Lv λx y hx hy=>?_
   rw[RC hy]
   by_cases hxv:x=v
   ·subst hxv
    rw[Ah (Fa _),Ai (Ho _)];simp
   ·rw[AS.2 hxv]
    have:decide (x < v)=decide (x < v+1):=by
     rw[AG,AB,AB];omega
    rw[this];simp
  rw[this];rfl) (λrec=>by
  unfold Kd
  simp only
  rw[hn,Ah (by omega:¬(n:Int) < (n:Int)),Ad]
  congr 1
  refine Lv λx y hx hy=>?_
  rw[Ai hx,AC]) fz (CR (by unfold lim;omega))
 have e0:(OA n λa b=>decide (a < 0)&&E1 q a b)=OA n λ_ _=>false:=Lv λx y _ _=>by simp
 rw[e0]at this
 rw[show((OA n λ_ _=>false,(0:Int)):List Bool×Int)=(OA n λ_ _=>false,((0:Nat):Int))from rfl,this]
 rfl
theorem le{O:List Nat}(hv:DD q=true)(hp:UF O)(hl:O.length=q.1.toNat):ij q (oI O)=true:=by
 obtain⟨h1,h5⟩:=MN hv
 unfold ij
 rw[hv,C3,AC,Ab,Bi]
 refine⟨by omega,?_⟩
 rw[AD]
 refine L7 λi hi=>?_
 rw[C3]at hi
 have e:(oI O)[i]'(by rw[C3];exact hi)=((oAt O i:Nat):Int):=by rw[KC hi];simp[oI]
 have hlt:=QM hp hi
 unfold Hr JP
 rw[e,Wy,XI hp hi,Ah (Fa i),wrap_in (by omega),C0,C6,Ab,AB,AB]
 omega
theorem co(o:Option Nat)(u:Nat):(o.map λ(x:Nat)=>(x:Int)).getD (u:Int)=((o.getD u:Nat):Int):=by cases o<;>rfl
theorem Ue{α:Type}(f:Nat->α)(i:Nat):(List.range i).map f++[f i]=(List.range (i+1)).map f:=by rw[CK,BY];rfl
theorem xX{O:List Nat}(hq:LF q)(hv:DD q=true)(hp:UF O)(hl:O.length=q.1.toNat):Fq q (oI O)=some (Oa O (E1 q),true):=by
 obtain⟨h1,h5⟩:=MN hv
 have hj:=lH hq hv
 rw[<-hl]at hj
 have hn:q.1=(O.length:Int):=by omega
 have hn5:1<=O.length∧O.length<=5:=by omega
 unfold Fq
 rw[oD hq (by rw[C3];unfold lim;omega),le hv hp hl]
 simp only[Aa,Aj,Ad]
 rw[hj]
 simp only
 have:=CB (body:=DS q (oI O)) (out:=Oa O (E1 q)) (λi=>(OA O.length (Pk O (E1 q) i),(List.range i).map (LM O (E1 q)),(List.range i).map (Ji O (E1 q)),(i:Int))) O.length (λi hi rec=>by
  unfold DS EH
  simp only
  have hbag:CQ O.length (Rp O (Pk O (E1 q) i) i)=LM O (E1 q) i:=rfl
  have hbl:=Ln O.length (Qf O (E1 q) i)
  rw[hn,Ai (by omega:(i:Int) < (O.length:Int)),ur hn5 hn hp rfl hi,hbag,wrap_in (n:=(i:Int)+1) (by omega),wrap_in (n:=(O.length:Int) - 1) (by omega)]
  simp only[Ac,Aa]
  have hup:=yh (q:=q) (bag:=LM O (E1 q) i) hn5 hn rfl (by unfold LM lim;omega) (λk=>Qf O (E1 q) i (oAt O k)) (λk hk=>by unfold LM;rw[Wj,Ai (QM hp hk),AC]) (O.length - 1 - i) (i+1) fz ((i:Int)+1) (by omega) (Nat.lt_of_le_of_lt (by omega:O.length - 1 - i+1<=5) (CR (by unfold lim;omega)))
  rw[show((true,(i:Int)+1,(i:Int)+1):Bool×Int×Int)=(true,((i+1:Nat):Int),(i:Int)+1)from rfl,hup]
  simp only
  have hpair:=oE (q:=q) hn5 hn (Ws (n:=O.length) (S:=Qf O (E1 q) i)) (eR _ _) (By (OL _ _) hn5.2) (Pk O (E1 q) i)
  have hb2:LM O (E1 q) i=oI ((List.range O.length).filter (Qf O (E1 q) i)):=rfl
  have hmx:(OA O.length λx y=>Pk O (E1 q) i x y || ((((List.range O.length).filter (Qf O (E1 q) i)).contains x&&((List.range O.length).filter (Qf O (E1 q) i)).contains y)&&x !=y))=OA O.length (Pk O (E1 q) (i+1)):=by
   refine Lv λx y hx hy=>?_
   rw[RC hx,RC hy];rfl
  rw[hmx,<-hb2]at hpair
  rw[hpair,show((i:Int)+1)=((i+1:Nat):Int)from rfl,co]
  simp only
  have hpar:∀x:Int,x=Ji O (E1 q) i->chk (((List.range i).map (LM O (E1 q))).length+[LM O (E1 q) i].length<=lim) (chk (((List.range i).map (Ji O (E1 q))).length+[x].length<=lim) (rec (OA O.length (Pk O (E1 q) (i+1)),(List.range i).map (LM O (E1 q))++[LM O (E1 q) i],(List.range i).map (Ji O (E1 q))++[x],((i+1:Nat):Int))))=rec (OA O.length (Pk O (E1 q) (i+1)),(List.range (i+1)).map (LM O (E1 q)),(List.range (i+1)).map (Ji O (E1 q)),((i+1:Nat):Int)):=λx hx=>by
   subst hx
   rw[AZ (by simp;unfold lim;omega),AZ (by simp;unfold lim;omega),Ue,Ue]
  by_cases he:i+1=O.length
  ·rw[show((i:Int)==(O.length:Int) - 1)=true from Bi.2 (by omega),Ac]
   exact hpar _ (by unfold Ji;rw[Bi.2 he];rfl)
  ·rw[show((i:Int)==(O.length:Int) - 1)=false from AS.2 (by omega),Ad]
   have hx:((((List.range' (i+1) (O.length - 1 - i)).find? λk=>Qf O (E1 q) i (oAt O k)).getD (i+1):Nat):Int)=Ji O (E1 q) i:=by
    unfold Ji nxt
    rw[AS.2 he,Ad]
   exact hpar _ hx) (λrec=>by
  unfold DS
  simp only
  rw[hn,Ah (by omega:¬(O.length:Int) < (O.length:Int))];rfl) fz (CR (by unfold lim;omega))
 rw[show((OA O.length (E1 q),([]:List (List Int)),([]:List Int),(0:Int)):List Bool×List (List Int)×List Int×Int)=(OA O.length (Pk O (E1 q) 0),(List.range 0).map (LM O (E1 q)),(List.range 0).map (Ji O (E1 q)),((0:Nat):Int))from rfl,this]
end
theorem ZB{n:Nat}{S:Nat->Bool}(hn:n<=100)(h:∀u,n<=u->S u=false):CQ 100 S=CQ n S:=by
 obtain⟨d,hd⟩:∃d,100=n+d:=⟨100 - n,by omega⟩
 rw[hd,ZC h]
def S4(n:Nat)(H:Nat->Nat->Bool):List (List Int):=(List.range n).map λv=>CQ n (H v)
theorem uh(n:Nat)(H:Nat->Nat->Bool):(S4 n H).length=n:=by simp[S4]
theorem dF{n v:Nat}(H:Nat->Nat->Bool)(hv:v < n):A4 (S4 n H) (v:Int)=some (CQ n (H v)):=by
 rw[BL (by rw[uh];exact hv)]
 simp[S4]
theorem kM{n v:Nat}(H:Nat->Nat->Bool)(S:Nat->Bool)(hv:v < n):Dj (S4 n H) (v:Int) (CQ n S)=S4 n λa b=>if a=v then S b else H a b:=by
 unfold Dj S4
 rw[Bg]
 refine GF λt=>?_
 by_cases ht:t < n
 ·rw[DM,BB,BB,Cy ht,Bp,Bp]
  by_cases he:v=t
  ·subst he
   rw[AJ rfl,AJ (by simp;exact hv)]
   congr 1
   exact L6 λu _=>by simp
  ·rw[AN he]
   congr 1
   exact L6 λu _=>by
    show H t u=if t=v then S u else H t u
    rw[AN (λe=>he e.symm)]
 ·rw[AU (by simp;omega),AU (by simp;omega)]
theorem RT{n:Nat}{H H':Nat->Nat->Bool}(h:∀a b,a < n->b < n->H a b=H' a b):S4 n H=S4 n H':=by
 unfold S4
 exact BE λv hv=>L6 λu hu=>h v u (Al.1 hv) hu
theorem iN(n:Nat):CQ n (λ_=>false)=[]:=by unfold CQ;simp
theorem uj(n:Nat):List.replicate n ([]:List Int)=S4 n λ_ _=>false:=by
 unfold S4
 simp only[iN]
 rw[Em,BS]
def Bnd(n:Nat)(G:Nat->Nat->Bool):Prop:=∀a u,n<=u->G a u=false
section
variable {q:IZ}{O:List Nat}{n:Nat}{G:Nat->Nat->Bool}
theorem jF(hp:UF O)(h:Bnd O.length G):∀i,i<=O.length->Bnd O.length (Pk O G i)
 |0,_=>h
 |i+1,hi=>λa u hu=>by
  have ih:=jF hp h i (by omega)
  show stepG O (Pk O G i) i a u=false
  unfold stepG Rp
  have:=QM hp (show i < O.length by omega)
  have e:(u==oAt O i)=false:=AS.2 (by omega)
  rw[ih a u hu,ih (oAt O i) u hu,e]
  simp
theorem t6(hv:DD q=true):Bnd q.1.toNat (E1 q):=λa u hu=>by
 obtain⟨_,_,_,hin⟩:=MM hv
 unfold E1
 rw[Gm]
 right
 rw[Ct]
 intro x hx h
 rw[Ab]at h
 have:=((hin x hx).2 _ (Av.1 h.2)).2
 omega
theorem rS(hq:LF q)(hv:DD q=true):Aq (DN q) fz (List.replicate (Int.toNat q.1) [],0)=some (S4 q.1.toNat (E1 q)):=by
 obtain⟨h1,h5⟩:=MN hv
 rw[uj]
 have:=CB (body:=DN q) (out:=S4 q.1.toNat (E1 q)) (λv=>(S4 q.1.toNat λa b=>decide (a < v)&&E1 q a b,(v:Int))) q.1.toNat (λv hvn rec=>by
  unfold DN
  simp only
  rw[Dw,BC hvn,pD hq hv,wrap_in (by omega),dF _ hvn]
  simp only[Ac,Aa]
  rw[kM _ _ hvn]
  have:(S4 q.1.toNat λa b=>if a=v then E1 q v b else decide (a < v)&&E1 q a b)=S4 q.1.toNat λa b=>decide (a < v+1)&&E1 q a b:=by
   refine RT λx y hx hy=>?_
   by_cases hxv:x=v
   ·subst hxv;rw[AJ rfl,Ai (Ho _),AC]
   ·rw[AN hxv]
    have:decide (x < v)=decide (x < v+1):=by
     rw[AG,AB,AB];omega
    rw[this]
  rw[this];rfl) (λrec=>by
  unfold DN
  simp only
  rw[Dw,Bl,Ad]
  congr 1
  refine RT λx y hx hy=>?_
  rw[Ai hx,AC]) fz (CR (by unfold lim;omega))
 have e0:(S4 q.1.toNat λa b=>decide (a < 0)&&E1 q a b)=S4 q.1.toNat λ_ _=>false:=RT λx y _ _=>by simp
 rw[e0]at this
 exact this
def T8(O:List Nat)(G:Nat->Nat->Bool)(i:Nat):Nat->Bool:=λu=>G (oAt O i) u&&((oI O).drop (i+1)).contains (u:Int)
theorem drop_at(hp:UF O){i p:Nat}(h:p < O.length):((oI O).drop (i+1)).contains ((oAt O p:Nat):Int)=decide (i < p):=by
 rw[AG,Av,AB,List.mem_drop_iff_getElem]
 constructor
 ·rintro⟨j,hj,e⟩
  rw[C3]at hj
  have e2:(oI O)[i+1+j]'(by rw[C3];omega)=((oAt O (i+1+j):Nat):Int):=by rw[KC (by omega)];simp[oI]
  rw[e2]at e
  have:=PF hp (by omega) h (by omega:oAt O (i+1+j)=oAt O p)
  omega
 ·intro hi
  refine⟨p - (i+1),by rw[C3];omega,?_⟩
  have e2:(oI O)[i+1+(p - (i+1))]'(by rw[C3];omega)=((oAt O (i+1+(p - (i+1))):Nat):Int):=by rw[KC (by omega)];simp[oI]
  rw[e2,show i+1+(p - (i+1))=p from by omega]
theorem aa(hp:UF O){i p:Nat}(h:p < O.length):T8 O G i (oAt O p)=(G (oAt O i) (oAt O p)&&decide (i < p)):=by
 unfold T8;rw[drop_at hp h]
theorem ab(hp:UF O){i u:Nat}(hi:i < O.length)(hu:u < O.length):(u==oAt O i || T8 O G i u)=Rp O G i u:=by
 obtain⟨p,hpl,rfl⟩:=Uh hp hu
 unfold Rp
 rw[aa hp hpl,XI hp hpl]
 by_cases he:p=i
 ·subst he;rw[BP];rfl
 ·have:decide (i < p)= !decide (p < i):=by
   rw[AG];simp;omega
  rw[this]
theorem jZ(hp:UF O)(hs:Sym G)(hr:Irr G){i a b:Nat}(hi:i < O.length)(ha:a < O.length)(hb:b < O.length):(if T8 O G i a=true then(G a b || T8 O G i b)&&b !=a else G a b)=stepG O G i a b:=by
 obtain⟨p,hpl,rfl⟩:=Uh hp ha
 obtain⟨r,hrl,rfl⟩:=Uh hp hb
 unfold stepG
 rw[<-ab hp hi ha,<-ab hp hi hb,aa hp hpl,aa hp hrl]
 have eb:∀{x:Nat},x < O.length->(oAt O x==oAt O i)=(x==i):=λhx=>by
  rw[AG,Bi,Bi];exact⟨PF hp hx hi,λe=>by rw[e]⟩
 have en:(oAt O r !=oAt O p)=(r !=p):=by
  rw[AG,Cl,Cl];exact⟨λh e=>h (by rw[e]),λh e=>h (PF hp hrl hpl e)⟩
 have en2:(oAt O p !=oAt O r)=(r !=p):=by
  rw[AG,Cl,Cl];exact⟨λh e=>h (by rw[e]),λh e=>h (PF hp hrl hpl e.symm)⟩
 rw[eb hpl,eb hrl,en,en2]
 have hirr:G (oAt O p) (oAt O r)=true->(r !=p)=true:=λh=>by
  rw[Cl];intro e;subst e;rw[hr]at h;cases h
 by_cases e1:p=i
 ·subst e1
  rw[Ah (Fa p),Fh,AN (by simp),BP,Kw,AC]
  by_cases e2:r=p
  ·subst e2;rw[hr];simp
  ·rw[AS.2 e2,Cr]
   cases G (oAt O p) (oAt O r)<;>simp
 ·rw[AS.2 e1,Cr]
  cases hL:G (oAt O i) (oAt O p)&&decide (i < p)with
  |false=>rw[AN (by simp)];simp
  |true=>
   rw[AJ rfl,AC]
   have hg:G (oAt O p) (oAt O i)=true:=by rw[hs];rw[Ab]at hL;exact hL.1
   by_cases e2:r=i
   ·subst e2
    rw[hg,BP]
    have:=hirr hg
    rw[this];rfl
   ·rw[AS.2 e2,Cr]
    cases hg2:G (oAt O p) (oAt O r)with
    |true=>rw[hirr hg2];simp
    |false=>simp
theorem nk{B:List Nat}(hn5:n<=5)(hB:∀x∈B,x < n)(hnd:B.Nodup)(hbl:B.length<=5)(hbd:Bnd n G):
  Aq (DP (oI B)) fz (S4 n G,0)=some (S4 n λa b=>if B.contains a=true then(G a b || B.contains b)&&b !=a else G a b):=by
 have hbc:∀u:Nat,(oI B).contains (u:Int)=B.contains u:=λu=>by
  have:=Wy B B.length u
  rwa [<-C3 B,A5,C3,A5]at this
 have key:=CB (body:=DP (oI B)) (out:=S4 n λa b=>if(B.take B.length).contains a=true then(G a b || B.contains b)&&b !=a else G a b) (λj=>(S4 n λa b=>if(B.take j).contains a=true then(G a b || B.contains b)&&b !=a else G a b,(j:Int))) B.length (λj hj rec=>by
  unfold DP
  simp only
  have hbj:=hB _ (Ao hj)
  have hnot:(B.take j).contains B[j]=false:=by
   rw[Iq,Ne,Av,GX]
   rintro⟨k,hk,e⟩
   have:=(Jg hnd).1 e
   omega
  rw[C3,BC hj,wrap_in (n:=(j:Int)+1) (by omega),RU hj,KC hj]
  simp only[Ac,Aa]
  rw[dF _ hbj]
  simp only
  rw[L6 (T:=G B[j]) (λu _=>by rw[hnot];simp),<-ZB (by omega) (hbd B[j]),Z8 (by rw[C3];unfold lim;omega) (λx hx=>by
   unfold oI at hx
   obtain⟨u,hu,rfl⟩:=Bw.1 hx
   have:=hB u hu
   omega)]
  simp only
  have hal:=Ln 100 (Ro (G B[j]) (oI B))
  have hbd2:∀u,n<=u->Ro (G B[j]) (oI B) u=false:=λu hu=>by
   unfold Ro
   rw[hbd _ u hu,hbc,Cr,Iq,Ne,Av]
   intro hm
   have:=hB u hm
   omega
  rw[YS (by unfold lim;omega),ZB (by omega) hbd2,Td]
  simp only
  rw[kM _ _ hbj]
  have:(S4 n λa b=>if a=B[j]then Ro (G B[j]) (oI B) b&&((b:Int)!=(B[j]:Int))else if(B.take j).contains a=true then(G a b || B.contains b)&&b !=a else G a b)=S4 n λa b=>if(B.take (j+1)).contains a=true then(G a b || B.contains b)&&b !=a else G a b:=by
   refine RT λx y hx hy=>?_
   have ht:(B.take (j+1)).contains x=((B.take j).contains x || x==B[j]):=by
    rw[AG,Ci,Av,Av,Bi,Au hj,An,AV]
   rw[ht]
   by_cases hxb:x=B[j]
   ·subst hxb
    rw[AJ rfl,AJ (by simp),Sz]
    unfold Ro
    rw[hbc]
   ·rw[AN hxb,AS.2 hxb,C0]
  rw[this];rfl) (λrec=>by
  unfold DP
  simp only
  rw[C3,Bl];rfl) fz (CR (by unfold lim;omega))
 rw[A5]at key
 rw[<-key]
 congr 2
theorem wn{bag:List Int}(hb:bag.length<=lim){i:Nat}(p:Nat->Bool)(hpb:∀k,i < k->k < O.length->bag.contains ((oAt O k:Nat):Int)=p k):∀(d m:Nat) (x:Int),i+d < O.length->O.length<=5->d < m->Aq (CD (oI O) (i:Int) bag) m (x,((i+d:Nat):Int))=some ((((List.range' (i+1) d).find? p).map λ(x:Nat)=>(x:Int)).getD x)
 |0,m+1,x,h1,h5,h2=>by
  rw[BH]
  generalize Aq (CD (oI O) (i:Int) bag) m=rec
  unfold CD
  simp only
  rw[CP,Ah (by omega)];rfl
 |d+1,m+1,x,h1,h5,h2=>by
  have hB:∀rec:(Int×Int)->Option Int,CD (oI O) (i:Int) bag rec (x,((i+(d+1):Nat):Int))=rec (cond (p (i+(d+1))) ((i+(d+1):Nat):Int) x,((i+d:Nat):Int)):=λrec=>by
   unfold CD EC
   simp only
   rw[Ai (by omega),RU (by omega)]
   simp only[Ac,Aa]
   rw[VL hb]
   simp only
   rw[hpb _ (by omega) h1,wrap_in (by omega),show((i+(d+1):Nat):Int) - 1=((i+d:Nat):Int)from by omega]
   cases p (i+(d+1))<;>rfl
  rw[BH,hB,wn hb p hpb d m _ (by omega) h5 (by omega),List.range'_concat,List.find?_append]
  cases(List.range' (i+1) d).find? p with
  |some k=>rfl
  |none=>
   have e:i+1+1 * d=i+(d+1):=by omega
   rw[e]
   cases hk:p (i+(d+1))<;>simp[hk]
 |_,0,_,_,_,h=>by omega
theorem wd(hq:LF q)(hv:DD q=true)(hp:UF O)(hl:O.length=q.1.toNat):Fo q (oI O)=some (Oa O (E1 q),true):=by
 obtain⟨h1,h5⟩:=MN hv
 have hn:q.1=(O.length:Int):=by omega
 have hn5:1<=O.length∧O.length<=5:=by omega
 have hnb:=t6 hv
 rw[<-hl]at hnb
 unfold Fo
 rw[nl hq (by rw[C3];unfold lim;omega),le hv hp hl]
 simp only[Aa,Aj,Ad]
 rw[AZ (by unfold lim;omega),rS hq hv,<-hl]
 simp only
 have:=CB (body:=DO q (oI O)) (out:=Oa O (E1 q)) (λi=>(S4 O.length (Pk O (E1 q) i),(List.range i).map (LM O (E1 q)),(List.range i).map (Ji O (E1 q)),(i:Int))) O.length (λi hi rec=>by
  unfold DO EB
  simp only
  have hoi:=QM hp hi
  have hbd:=jF hp hnb i (by omega)
  have hal:=Ln O.length (Pk O (E1 q) i (oAt O i))
  rw[C3,BC hi,RU hi,hn,wrap_in (n:=(i:Int)+1) (by omega),wrap_in (n:=(O.length:Int) - 1) (by omega)]
  simp only[Ac,Aa]
  rw[dF _ hoi]
  simp only
  have hsub:Mj (oI O) ((i:Int)+1) (O.length:Int)=(oI O).drop (i+1):=by
   unfold Mj
   rw[Bg,<-C3 O,A5];rfl
  rw[AZ (by omega),hsub,Xi (by unfold lim;omega) (by rw[BO,C3];unfold lim;omega),Td]
  simp only
  have hlat:CQ O.length (λu=>Pk O (E1 q) i (oAt O i) u&&((oI O).drop (i+1)).contains (u:Int))=oI ((List.range O.length).filter (T8 O (Pk O (E1 q) i) i)):=rfl
  rw[hlat]
  have hsingle:[((oAt O i:Nat):Int)]=CQ 100 λu=>u==oAt O i:=by
   have:(List.range 100).filter (λu=>u==oAt O i)=[oAt O i]:=Xc (by omega) (BP _) (λk _ h=>Bi.1 h)
   unfold CQ;rw[this];rfl
  have hll:=OL O.length (T8 O (Pk O (E1 q) i) i)
  rw[hsingle,Z8 (by rw[C3];unfold lim;omega) (λx hx=>by
   unfold oI at hx
   obtain⟨u,hu,rfl⟩:=Bw.1 hx
   have:=Ws u hu
   omega)]
  simp only
  have hfc:∀u:Nat,(oI ((List.range O.length).filter (T8 O (Pk O (E1 q) i) i))).contains (u:Int)=(decide (u < O.length)&&T8 O (Pk O (E1 q) i) i u):=λu=>by rw[<-ZD,Wj]
  have hbag:CQ 100 (Ro (λu=>u==oAt O i) (oI ((List.range O.length).filter (T8 O (Pk O (E1 q) i) i))))=LM O (E1 q) i:=by
   rw[ZB (n:=O.length) (by omega) (λu hu=>by
    unfold Ro
    show(u==oAt O i || _)=false
    rw[hfc,AS.2 (by omega),Ah (by omega)];rfl)]
   refine L6 λu hu=>?_
   unfold Ro
   rw[hfc,Ai hu,AC,ab hp hi hu];rfl
  rw[hbag,nk (n:=O.length) hn5.2 Ws (eR _ _) (by omega) hbd]
  simp only
  have hstep:(S4 O.length λa b=>if((List.range O.length).filter (T8 O (Pk O (E1 q) i) i)).contains a=true then(Pk O (E1 q) i a b || ((List.range O.length).filter (T8 O (Pk O (E1 q) i) i)).contains b)&&b !=a else Pk O (E1 q) i a b)=S4 O.length (Pk O (E1 q) (i+1)):=by
   refine RT λx y hx hy=>?_
   rw[RC hx,RC hy]
   exact jZ hp (jH (kK q) i) (jG (ua q) i) hi hx hy
  rw[hstep]
  have hup:=λ(x:Int)=>wn (O:=O) (bag:=oI ((List.range O.length).filter (T8 O (Pk O (E1 q) i) i))) (by rw[C3];unfold lim;omega) (i:=i) (λk=>Qf O (E1 q) i (oAt O k)) (λk hk hkl=>by
   rw[hfc,Ai (QM hp hkl),AC,aa hp hkl,WS hp hi hkl,AS.2 (by omega),Ai hk,Ai (by omega:i<=k)];simp) (O.length - 1 - i) fz x (by omega) hn5.2 (Nat.lt_of_le_of_lt (by omega:O.length - 1 - i<=5) (CR (by unfold lim;omega)))
  have hix:((O.length:Int) - 1)=((i+(O.length - 1 - i):Nat):Int):=by omega
  rw[hix]
  have hpar:∀x z:Int,(((List.range' (i+1) (O.length - 1 - i)).find? λk=>Qf O (E1 q) i (oAt O k)).map λ(x:Nat)=>(x:Int)).getD x=z->z=Ji O (E1 q) i->chk (((List.range i).map (LM O (E1 q))).length+[LM O (E1 q) i].length<=lim) (Aa (Aq (CD (oI O) (i:Int) (oI ((List.range O.length).filter (T8 O (Pk O (E1 q) i) i)))) fz (x,((i+(O.length - 1 - i):Nat):Int))) λz49=>chk (((List.range i).map (Ji O (E1 q))).length+[z49].length<=lim) (rec (S4 O.length (Pk O (E1 q) (i+1)),(List.range i).map (LM O (E1 q))++[LM O (E1 q) i],(List.range i).map (Ji O (E1 q))++[z49],(i:Int)+1)))=rec (S4 O.length (Pk O (E1 q) (i+1)),(List.range (i+1)).map (LM O (E1 q)),(List.range (i+1)).map (Ji O (E1 q)),((i+1:Nat):Int)):=λx z hz hx=>by
   rw[hup x,hz,hx]
   simp only[Aa]
   rw[AZ (by simp;unfold lim;omega),AZ (by simp;unfold lim;omega),Ue,Ue];rfl
  by_cases he:i+1=O.length
  ·rw[Ah (by omega:¬(i:Int) < ((i+(O.length - 1 - i):Nat):Int)),Ad]
   refine hpar (-1) (-1) ?_ ?_
   ·rw[show O.length - 1 - i=0 from by omega];rfl
   ·unfold Ji;rw[Bi.2 he];rfl
  ·rw[Ai (by omega:(i:Int) < ((i+(O.length - 1 - i):Nat):Int)),Ac]
   refine hpar _ _ rfl ?_
   rw[show((i:Int)+1)=((i+1:Nat):Int)from rfl,co]
   unfold Ji nxt
   rw[AS.2 he,Ad]) (λrec=>by
  unfold DO
  simp only
  rw[C3,Bl];rfl) fz (CR (by unfold lim;omega))
 rw[show((S4 O.length (E1 q),([]:List (List Int)),([]:List Int),(0:Int)):List (List Int)×List (List Int)×List Int×Int)=(S4 O.length (Pk O (E1 q) 0),(List.range 0).map (LM O (E1 q)),(List.range 0).map (Ji O (E1 q)),((0:Nat):Int))from rfl,this]
end
def ext1(n:Nat)(l:List Nat):List (List Nat):=((List.range n).filter λv=> !l.contains v).map λv=>l++[v]
def Rz(n:Nat):Nat->List Nat->List (List Nat)
 |0,l=>[l]
 |d+1,l=>(ext1 n l).flatMap (Rz n d)
def Mg(n:Nat):Nat->List (List Nat)
 |0=>[[]]
 |k+1=>(Mg n k).flatMap (ext1 n)
theorem ee(n:Nat):∀(k d:Nat),(Mg n k).flatMap (Rz n d)=Rz n (k+d) []
 |0,d=>by rw[Mg,Ay,Jf,Bm,CL]
 |k+1,d=>by
  rw[Mg,List.flatMap_assoc,show k+1+d=k+(d+1)from by omega,<-ee n k (d+1)]
  rfl
def NI(n:Nat):List (List Nat):=Rz n n []
theorem mL(n:Nat):Mg n n=NI n:=by
 have:=ee n n 0
 rw[CP]at this
 rw[NI,<-this]
 have:Rz n 0=λl=>[l]:=by funext l;rfl
 rw[this]
 simp
theorem W9(n:Nat)(l:List Nat):(ext1 n l).length<=n:=by
 unfold ext1
 rw[Ar]
 exact By (BR _ _) (by simp)
theorem RD{α β:Type}{f:α->List β}{c:Nat}:∀{l:List α},(∀x∈l,(f x).length<=c)->(l.flatMap f).length<=l.length * c
 |[],_=>by simp
 |x::l,h=>by
  rw[Ay,AR,AL,DX]
  have h1:=h x (BK)
  have h2:=RD (l:=l) λy hy=>h y (AQ _ hy)
  omega
theorem Wp{n:Nat}(hn:n<=5):∀(d:Nat) (l:List Nat),(Rz n d l).length<=5 ^ d
 |0,l=>by simp[Rz]
 |d+1,l=>by
  rw[Rz]
  have:=RD (l:=ext1 n l) λx _=>Wp hn d x
  have h2:(ext1 n l).length * 5 ^ d<=5 * 5 ^ d:=Co _ (By (W9 n l) hn)
  rw[IN]
  omega
theorem eh{n:Nat}(hn:n<=5):∀(k:Nat),(Mg n k).length<=5 ^ k
 |0=>by simp[Mg]
 |k+1=>by
  rw[Mg]
  have:=RD (l:=Mg n k) (f:=ext1 n) (c:=5) λx _=>By (W9 n x) hn
  have h2:=Co 5 (eh hn k)
  rw[IN]
  omega
def Par(n:Nat)(l:List Nat):Prop:=l.Nodup∧∀x∈l,x < n
theorem ju{n:Nat}{l:List Nat}(h:Par n l):∀x∈ext1 n l,Par n x∧x.length=l.length+1:=λx hx=>by
 unfold ext1 at hx
 obtain⟨v,hv,rfl⟩:=Bw.1 hx
 obtain⟨h1,h2⟩:=Be.1 hv
 have hc:v∉l:=λhm=>by
  rw[Av.2 hm]at h2;cases h2
 refine⟨⟨As.2 ⟨h.1,by simp,λa ha b hb e=>?_⟩,λy hy=>?_⟩,by simp⟩
 ·rw[AV]at hb
  subst hb;subst e;exact hc ha
 ·rcases An.1 hy with hy|hy
  ·exact h.2 y hy
  ·rw[AV]at hy;rw[hy];exact Al.1 h1
theorem eJ{n:Nat}:∀(d:Nat) (l:List Nat),Par n l->∀x∈Rz n d l,Par n x∧x.length=l.length+d
 |0,l,h,x,hx=>by
  rw[Rz,AV]at hx
  rw[hx];exact⟨h,rfl⟩
 |d+1,l,h,x,hx=>by
  rw[Rz]at hx
  obtain⟨y,hy,hxy⟩:=Ch.1 hx
  obtain⟨h1,h2⟩:=ju h y hy
  obtain⟨h3,h4⟩:=eJ d y h1 x hxy
  exact⟨h3,by omega⟩
theorem au{n:Nat}:∀O∈NI n,UF O∧O.length=n:=λO hO=>by
 obtain⟨h1,h2⟩:=eJ n [] ⟨Ax,by simp⟩ O hO
 have hl:O.length=n:=by simpa using h2
 exact⟨⟨h1.1,λx hx=>by rw[hl];exact h1.2 x hx⟩,hl⟩
theorem kO(B:List Nat)(u:Nat):(oI B).contains (u:Int)=B.contains u:=by
 have:=Wy B B.length u
 rwa [<-C3 B,A5,C3,A5]at this
theorem SA(l:List Nat)(v:Nat):oI l++[(v:Int)]=oI (l++[v]):=by simp[oI]
section
variable {q:IZ}
theorem lJ(hn5:1<=q.1∧q.1<=5):∀(d:Nat) (l:List Nat) (m:Nat),l.length+d=q.1.toNat->d < m->Aq Ey m (q,oI l)=some ((Rz q.1.toNat d l).map oI)
 |0,l,m+1,h1,h2=>by
  rw[BH]
  generalize Aq Ey m=frec
  unfold Ey
  simp only
  rw[C3,show(((l.length:Nat):Int)==q.1)=true from Bi.2 (by omega),Ac]
  rw[AZ (by unfold lim;simp;omega)]
  rfl
 |d+1,l,m+1,h1,h2=>by
  have ih:=λv=>lJ hn5 d (l++[v]) m
  rw[BH]
  generalize Aq Ey m=frec at ih⊢
  unfold Ey
  simp only
  rw[C3,show(((l.length:Nat):Int)==q.1)=false from AS.2 (by omega),Ad]
  have key:=CB (body:=Jz q (oI l) frec) (out:=(Rz q.1.toNat (d+1) l).map oI) (λk=>((((List.range k).filter λv=> !l.contains v).flatMap λv=>Rz q.1.toNat d (l++[v])).map oI,(k:Int))) q.1.toNat (λk hk rec=>by
   unfold Jz LH
   simp only
   rw[Ai (by omega:(k:Int) < q.1),Ty (by rw[C3];unfold lim;omega),wrap_in (by omega)]
   simp only[Ac,Aa]
   rw[bG,kO,CK,Dl,DJ,BY]
   cases hc:l.contains k with
   |true=>
    have:([k].filter λv=> !l.contains v)=[]:=by rw[Dr,hc];rfl
    rw[this];simp
   |false=>
    have:([k].filter λv=> !l.contains v)=[k]:=by rw[Dr,hc];rfl
    have hih:=ih k (by simp;omega) (by omega)
    rw[this,Dn,Ac,AZ (by rw[C3];unfold lim;simp;omega),AZ (by rw[Bh,C3];unfold lim;simp;omega),Bh,SA,hih]
    simp only
    have hb1:=Wp (n:=q.1.toNat) (by omega) d (l++[k])
    have hb2:=RD (l:=(List.range k).filter λv=> !l.contains v) (f:=λv=>Rz q.1.toNat d (l++[v])) (c:=5 ^ d) λv _=>Wp (by omega) d _
    have hb3:((List.range k).filter λv=> !l.contains v).length<=5:=By (BR _ _) (by simp;omega)
    have hb4:5 ^ d<=5 ^ 5:=Fz (by omega) (by omega)
    have hb5:=EE hb3 (A9 (5 ^ d))
    rw[AZ (by
     rw[Ar,Ar]
     generalize 5 ^ d=z at *
     unfold lim;omega),Ay,Jf,Bm]
    rfl) (λrec=>by
   unfold Jz
   simp only
   rw[Ah (by omega:¬((q.1.toNat:Nat):Int) < q.1),Ad,Rz]
   unfold ext1
   rw[List.flatMap_map]) fz (CR (by unfold lim;omega))
  rw[show((([]:List (List Int)),(0:Int)):List (List Int)×Int)=((((List.range 0).filter λv=> !l.contains v).flatMap λv=>Rz q.1.toNat d (l++[v])).map oI,((0:Nat):Int))from rfl,key]
  rfl
 |_,_,0,_,h=>by omega
theorem xQ(hq:LF q)(hv:DD q=true):MT q=some ((NI q.1.toNat).map oI):=by
 have hn5:=MN hv
 unfold MT
 rw[Nr hq,hv]
 simp only[Aa,Aj,Ad]
 unfold QS
 rw[show(q,([]:List Int))=(q,oI [])from rfl,lJ hn5 q.1.toNat [] fz (by simp) (CR (by unfold lim;omega))]
 rfl
theorem v6(hq:LF q)(hv:DD q=true):Ms q=some ((NI q.1.toNat).map oI):=by
 have hn5:=MN hv
 unfold Ms
 rw[Mr hq,hv]
 simp only[Aa,Aj,Ad]
 have key:=CB (body:=JQ q) (out:=(Mg q.1.toNat q.1.toNat).map oI) (λk=>((Mg q.1.toNat k).map oI,(k:Int))) q.1.toNat (λk hk rec=>by
  unfold JQ
  simp only
  rw[Ai (by omega:(k:Int) < q.1),wrap_in (by omega),Ac]
  have hbl:=eh (n:=q.1.toNat) (by omega) k
  have h55:5 ^ k<=5 ^ 4:=Fz (by omega) (by omega)
  have key2:=CB (body:=JR q ((Mg q.1.toNat k).map oI)) (out:=(Mg q.1.toNat (k+1)).map oI) (λj=>((((Mg q.1.toNat k).take j).flatMap (ext1 q.1.toNat)).map oI,(j:Int))) (Mg q.1.toNat k).length (λj hj rec=>by
   unfold JR
   simp only
   have hx:A4 ((Mg q.1.toNat k).map oI) (j:Int)=some (oI (Mg q.1.toNat k)[j]):=by
    rw[BL (by rw[Ar];exact hj),BU]
   have hll:(Mg q.1.toNat k)[j].length < 2000:=by
    have:∀(k:Nat) (l:List Nat),l∈Mg q.1.toNat k->l.length=k:=λk=>by
     induction k with
     |zero=>intro l hl;rw[Mg,AV]at hl;rw[hl];rfl
     |succ k ih=>
      intro l hl
      rw[Mg]at hl
      obtain⟨y,hy,hl⟩:=Ch.1 hl
      unfold ext1 at hl
      obtain⟨v,_,rfl⟩:=Bw.1 hl
      simp[ih y hy]
    rw[this k _ (Ao hj)];omega
   rw[Ar,BC hj,hx,wrap_in (by omega)]
   simp only[Ac,Aa]
   have hl':(Mg q.1.toNat k).take (j+1)=(Mg q.1.toNat k).take j++[(Mg q.1.toNat k)[j]]:=Au hj
   generalize(Mg q.1.toNat k)[j]=l at hll hl'⊢
   have hal:(((Mg q.1.toNat k).take j).flatMap (ext1 q.1.toNat)).length<=3125:=by
    have:=RD (l:=(Mg q.1.toNat k).take j) (f:=ext1 q.1.toNat) (c:=5) λx _=>By (W9 _ x) (by omega)
    have h2:((Mg q.1.toNat k).take j).length<=5 ^ 4:=By (by rw[Bk];omega) h55
    omega
   have key3:=λ(A:List (List Nat)) (hA:A.length<=3125)=>CB (body:=HQ q (oI l)) (out:=(A++ext1 q.1.toNat l).map oI) (λv=>((A++((List.range v).filter λv=> !l.contains v).map λv=>l++[v]).map oI,(v:Int))) q.1.toNat (λv hv rec=>by
    unfold HQ JS
    simp only
    have hfl:((List.range v).filter λv=> !l.contains v).length<=5:=By (BR _ _) (by simp;omega)
    rw[Ai (by omega:(v:Int) < q.1),VL (by rw[C3];unfold lim;omega),wrap_in (by omega),kO]
    simp only[Ac,Aa]
    rw[CK,Dl,BY]
    cases hc:l.contains v with
    |true=>
     have:([v].filter λv=> !l.contains v)=[]:=by rw[Dr,hc];rfl
     rw[this];simp
    |false=>
     have:([v].filter λv=> !l.contains v)=[v]:=by rw[Dr,hc];rfl
     rw[this,Dn,Ac,Z6 (by rw[C3];unfold lim;omega)]
     simp only
     rw[AZ (by rw[C3];unfold lim;simp;omega),AZ (by unfold lim;simp only[AR,Ar,AL,HX];omega),SA]
     simp) (λrec=>by
    unfold HQ
    simp only
    rw[Ah (by omega:¬((q.1.toNat:Nat):Int) < q.1)];rfl) fz (CR (by unfold lim;omega))
   have k3:=key3 _ hal
   simp only[List.range_zero,Gp,DR,Bm]at k3
   rw[show(0:Int)=((0:Nat):Int)from rfl,k3,hl',DJ,Ay,Jf,Bm]
   rfl) (λrec=>by
   unfold JR
   simp only
   rw[Ar,Bl,A5];rfl) fz (CR (by unfold lim;omega))
  rw[show((([]:List (List Int)),(0:Int)):List (List Int)×Int)=((((Mg q.1.toNat k).take 0).flatMap (ext1 q.1.toNat)).map oI,((0:Nat):Int))from rfl,key2]
  rfl) (λrec=>by
  unfold JQ
  simp only
  rw[Ah (by omega:¬((q.1.toNat:Nat):Int) < q.1)];rfl) fz (CR (by unfold lim;omega))
 rw[show(([[]]:List (List Int)),(0:Int))=((Mg q.1.toNat 0).map oI,((0:Nat):Int))from rfl,key,mL]
end
def Ol:Nat->(Nat->Bool)->Nat
 |0,_=>0
 |n+1,S=>Ol n S+cond (S n) (2 ^ n) 0
theorem ai(S:Nat->Bool):∀n,Ol n S < 2 ^ n
 |0=>Nat.one_pos
 |n+1=>by
  have:=ai S n
  rw[Ol,IN]
  cases S n with
  |true=>rw[Ac];omega
  |false=>rw[Ad];omega
theorem fu{S T:Nat->Bool}:∀n,Ol n S=Ol n T->∀u,u < n->S u=T u
 |0,_,u,h=>absurd h (Nat.not_lt_zero u)
 |n+1,h,u,hu=>by
  have a:=ai S n
  have b:=ai T n
  rw[Ol,Ol]at h
  have hn:S n=T n∧Ol n S=Ol n T:=by
   cases hs:S n with
   |true=>
    cases ht:T n with
    |true=>rw[hs,ht,Ac]at h;exact⟨rfl,by omega⟩
    |false=>rw[hs,ht,Ac,Ad]at h;omega
   |false=>
    cases ht:T n with
    |true=>rw[hs,ht,Ac,Ad]at h;omega
    |false=>rw[hs,ht,Ad]at h;exact⟨rfl,by omega⟩
  by_cases he:u=n
  ·rw[he];exact hn.1
  ·exact fu n hn.2 u (by omega)
def Pm(n:Nat)(S:Nat->Bool):List Nat:=(List.range n).filter S
theorem cW{n:Nat}{S T:Nat->Bool}(h:∀u,u < n->S u=T u):Pm n S=Pm n T:=GG λu hu=>h u (Al.1 hu)
theorem qO(n:Nat)(S:Nat->Bool):Pm (n+1) S=Pm n S++cond (S n) [n] []:=by
 unfold Pm
 rw[CK,Dl]
 cases h:S n with
 |true=>rw[Dr,AJ h];rfl
 |false=>rw[Dr,AN (by rw[h];exact Kv)];rfl
section
variable {q:IZ}{O:List Nat}
def a5(q:IZ)(S:Nat->Bool):Prop:=∃u,u < q.1.toNat∧S u=true
theorem TL(hv:DD q=true){S:Nat->Bool}(h:a5 q S):SmG q (Pm q.1.toNat S):=by
 obtain⟨h1,h2,h3,h4⟩:=FE hv
 obtain⟨u,hu,hs⟩:=h
 have hm:u∈Pm q.1.toNat S:=Be.2 ⟨Al.2 hu,hs⟩
 refine⟨F3 hm,?_,λv hv=>Al.1 (Be.1 hv).1⟩
 have:=OL q.1.toNat S
 unfold Pm
 omega
theorem WR(hv:DD q=true){S:Nat->Bool}(h:a5 q S):TK q.1 (oI (Pm q.1.toNat S))=true:=by
 obtain⟨h1,h2,h3,h4⟩:=FE hv
 have:=d5 (n:=q.1.toNat) (by omega) h
 rw[ZD]at this
 have e:((q.1.toNat:Nat):Int)=q.1:=by omega
 rw[e]at this
 exact this
def KnI(q:IZ)(K:List Rt):Prop:=K.length=32∧∀S,a5 q S->atR K (Ol q.1.toNat S)=(0,0)∨atR K (Ol q.1.toNat S)=(wB q (Pm q.1.toNat S)).1
theorem rY:KnI q (List.replicate 32 ((0:Int),(0:Int))):=by
 refine⟨by simp,λS _=>.inl ?_⟩
 unfold atR
 rw[At]
 cases h:(List.replicate 32 ((0:Int),(0:Int)))[Ol q.1.toNat S]? with
 |none=>rfl
 |some x=>exact(List.mem_replicate.1 (Bu h)).2
theorem kF(hv:DD q=true)(S:Nat->Bool):Ol q.1.toNat S < 32:=by
 obtain⟨h1,h2,h3,h4⟩:=FE hv
 have:=ai S q.1.toNat
 have h5:2 ^ q.1.toNat<=2 ^ 5:=Fz (by omega) (by omega)
 omega
theorem r6{K:List Rt}{S:Nat->Bool}(hK:KnI q K)(hS:a5 q S):KnI q (K.set (Ol q.1.toNat S) (wB q (Pm q.1.toNat S)).1):=by
 refine⟨by rw[B5];exact hK.1,λT hT=>?_⟩
 unfold atR
 rw[At,DM]
 by_cases he:Ol q.1.toNat S=Ol q.1.toNat T
 ·rw[AJ he]
  by_cases hl:Ol q.1.toNat S < K.length
  ·rw[AJ hl,BJ,cW (fu _ he)]
   exact .inr rfl
  ·rw[AN hl]
   exact .inl rfl
 ·rw[AN he]
  have:=hK.2 T hT
  unfold atR at this
  rw[At]at this
  exact this
theorem wu{K:List Rt}{m:Nat}(h:m < K.length)(x:Rt):atR (K.set m x) m=x:=by
 unfold atR
 rw[At,DM,AJ rfl,AJ h];rfl
def wdS(w v:Rt):Rt:=cond (decide (0 < KX v w)) v w
def VU(q:IZ)(O:List Nat)(i:Nat):Nat->Bool:=Qf O (E1 q) i
def wdP(q:IZ)(O:List Nat)(i:Nat):Rt:=(wB q (Pm q.1.toNat (VU q O i))).1
def Yn(q:IZ)(O:List Nat)(k:Nat):Rt:=((List.range k).map (wdP q O)).foldl wdS (0,1)
def wdB(q:IZ)(O:List Nat):Rt:=Yn q O q.1.toNat
theorem mo(k:Nat):Yn q O (k+1)=wdS (Yn q O k) (wdP q O k):=by
 unfold Yn
 rw[CK,BY,De];rfl
theorem UL(hp:UF O)(hl:O.length=q.1.toNat){i:Nat}(hi:i < q.1.toNat):a5 q (VU q O i):=
 ⟨oAt O i,by rw[<-hl];exact QM hp (by omega),by unfold VU;rw[WS hp (by omega) (by omega)];simp⟩
theorem uW(hv:DD q=true)(hp:UF O)(hl:O.length=q.1.toNat){i:Nat}(hi:i < q.1.toNat):nnR (wdP q O i):=
 (qj hv (TL hv (UL hp hl hi))).2
theorem yu(hv:DD q=true)(hp:UF O)(hl:O.length=q.1.toNat)(h0:0 < q.1.toNat):Yn q O 1=wdP q O 0:=by
 rw[mo]
 show wdS (0,1) (wdP q O 0)=wdP q O 0
 unfold wdS
 cases hc:decide (0 < KX (wdP q O 0) (0,1))with
 |true=>rfl
 |false=>rw[Ad,nW (uW hv hp hl h0) hc]
theorem W6(hl:O.length=q.1.toNat):(Oa O (E1 q)).1=(List.range q.1.toNat).map λi=>oI (Pm q.1.toNat (VU q O i)):=by
 unfold Oa
 rw[hl]
 refine BE λi _=>?_
 unfold LM
 rw[hl,ZD];rfl
def bdS(q:IZ)(st:(List (List Int)×List Int)×Rt×Bool)(O:List Nat):(List (List Int)×List Int)×Rt×Bool:=cond (!st.2.2 || decide (KX (wdB q O) st.2.1 < 0)) (Oa O (E1 q),wdB q O,true) st
def SX(q:IZ)(k:Nat):(List (List Int)×List Int)×Rt×Bool:=((NI q.1.toNat).take k).foldl (bdS q) (([],[]),(0,0),false)
def Yj(q:IZ):(List (List Int)×List Int)×Rt×Bool:=SX q (NI q.1.toNat).length
theorem d8{k:Nat}(h:k < (NI q.1.toNat).length):SX q (k+1)=bdS q (SX q k) (NI q.1.toNat)[k]:=by
 unfold SX
 rw[Au h,De];rfl
theorem fC(hv:DD q=true):(NI q.1.toNat).length<=3125:=by
 obtain⟨h1,h2,h3,h4⟩:=FE hv
 unfold NI
 have:=Wp (n:=q.1.toNat) (by omega) q.1.toNat []
 have h5:5 ^ q.1.toNat<=5 ^ 5:=Fz (by omega) (by omega)
 omega
end
end Go.Proofs.YtckmdkajoiegmaaGreatDoor
