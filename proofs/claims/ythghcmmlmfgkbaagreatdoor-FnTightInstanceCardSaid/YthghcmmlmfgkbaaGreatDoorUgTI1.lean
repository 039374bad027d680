/-
 A query's cover program has a vertex. No conditions.
-/
import Derived.Test.YthghcmmlmfgkbaaGreatDoorCpTI1
open Go.RowKit
set_option linter.unusedVariables false
set_option linter.unusedSimpArgs false
namespace Go.Proofs.YthghcmmlmfgkbaaGreatDoor
theorem WU{S:List Bool}{i:Nat}:gB S i=true->i < S.length:=λh=>by
 refine Cp λhc=>?_
 unfold gB at h
 rw[Af,A2 (by omega)]at h
 cases h
theorem kR{S:List Bool}{i j:Nat}(h:i < S.length):gB (S.set i false) j=(if i=j then false else gB S j):=by
 unfold gB
 rw[Af,GR,Af]
 split
 ·first|rfl|(rename_i e;subst e;rw[Av h];rfl)
 ·rfl
theorem Xz:∀{S:List Bool}{i:Nat},gB S i=true->((S.set i false).filter id).length < (S.filter id).length
 |[],i,h=>by simp[gB]at h
 |b::S,0,h=>by
  have:b=true:=h
  subst this
  simp
 |b::S,i+1,h=>by
  have:=Xz (S:=S) (i:=i) h
  cases b<;>simp[K7]<;>simpa using this
theorem VK{P:List Bool->Prop}{n:Nat}:∀(k:Nat) (S:List Bool),(S.filter id).length<=k->S.length=n->P S->∃S:List Bool,S.length=n∧P S∧∀i,gB S i=true->¬P (S.set i false)
 |0,S,hk,hl,hp=>⟨S,hl,hp,λi hi _=>by have:=Xz hi;omega⟩
 |k+1,S,hk,hl,hp=>by
  by_cases h:∃i,gB S i=true∧P (S.set i false)
  ·obtain⟨i,h1,h2⟩:=h
   have:=Xz h1
   exact VK k (S.set i false) (by omega) (by rw[BM];exact hl) h2
  ·exact⟨S,hl,hp,λi hi hc=>h ⟨i,hi,hc⟩⟩
theorem aJ{t:Nat}:∀{c:zN}{i:Nat},(i::c).Pairwise (· < ·)->(∀e∈i::c,e < t)->i+c.length < t
 |[],i,_,h=>by have:=h i Bg;simpa using this
 |d::c,i,hp,h=>by
  obtain⟨h1,h2⟩:=CK.1 hp
  have:=aJ h2 λe he=>h e (AE _ he)
  have:=h1 d Bg
  rw[AQ];omega
theorem Zp{t:Nat}:∀{c:zN}{fr:Nat},c.Pairwise (· < ·)->(∀e∈c,fr<=e∧e < t)->c∈Ny t c.length fr
 |[],_,_,_=>AP.2 rfl
 |i::c,fr,hp,h=>by
  obtain⟨h1,h2⟩:=CK.1 hp
  have hr:=aJ hp λe he=>(h e he).2
  have hi:=h i Bg
  rw[AQ,Ny,Cj]
  refine⟨i,IOQ.2 ⟨hi.1,by omega⟩,A3.2 ⟨c,Zp h2 λe he=>⟨h1 e he,(h e (AE _ he)).2⟩,rfl⟩⟩
theorem nQ{p:LP}{sg:Int}{out:Mx}{c:zN}(h:out≠[]):visit p sg out c≠[]:=by
 unfold visit
 cases(KF (c.map (rowAt p)) (c.map (Dl p))).2 with
 |false=>exact h
 |true=>
  cases Lh p (KF (c.map (rowAt p)) (c.map (Dl p))).1 sg with
  |false=>exact h
  |true=>
   cases out.any (· ==(KF (c.map (rowAt p)) (c.map (Dl p))).1)with
   |true=>exact h
   |false=>simp
theorem bp{p:LP}{sg:Int}:∀(l:List zN) (out:Mx),out≠[]->l.foldl (visit p sg) out≠[]
 |[],_,h=>h
 |c::l,out,h=>bp l _ (nQ h)
theorem Yo{p:LP}{sg:Int}{c:zN}(h1:(KF (c.map (rowAt p)) (c.map (Dl p))).2=true)(h2:Lh p (KF (c.map (rowAt p)) (c.map (Dl p))).1 sg=true):∀(l:List zN) (out:Mx),c∈l->l.foldl (visit p sg) out≠[]
 |d::l,out,h=>by
  rw[Cz]
  rcases AB.1 h with rfl|h
  ·refine bp l _ ?_
   unfold visit
   rw[h1,h2,Ad,Ad]
   cases ha:out.any (· ==(KF (c.map (rowAt p)) (c.map (Dl p))).1)with
   |true=>intro e;subst e;simp at ha
   |false=>simp
  ·exact Yo h1 h2 l _ h
theorem Qy{α:Type}(f:α->Bool):∀l:List α,(l.filter f).length+(l.filter λx=> !f x).length=l.length
 |[]=>rfl
 |x::l=>by
  have:=Qy f l
  cases hf:f x<;>simp[hf]<;>omega
theorem kf(b:Bool):Ee (bt b)=true∧0<=(bt b).1:=by cases b<;>decide
section
variable {q:NQ}
def bits(q:NQ)(v:Nat):List Bool:=q.2.1.map λa=>a.2.contains (v:Int)
theorem oF(v:Nat):RP q (v:Int)=(bits q v).map bt:=by
 unfold RP bits bt
 rw[C0];rfl
theorem WA(v:Nat):(bits q v).length=q.2.1.length:=by unfold bits;rw[Ak]
theorem LW:(MZ q).2.1.length=q.1.toNat∧(MZ q).2.2.length=q.2.1.length∧(MZ q).1.length=q.1.toNat:=by unfold MZ;simp
theorem dt{v:Nat}(h:v < q.1.toNat):CX (MZ q).1 v=(bits q v).map bt:=by
 rw[<-GY (by rw[LW.2.2];exact h),<-oF]
 unfold MZ
 simp only[Be,DR]
 simp
theorem mj:Ee ((1:Int),(1:Int))=true:=by decide
theorem ko(hv:II q=true):OT (MZ q)=true:=by
 obtain⟨h1,h2,h3,h4⟩:=Jf hv
 unfold OT
 rw[LW.1,LW.2.1,LW.2.2]
 simp only[Aa,Fq,Bc]
 refine⟨by omega,by omega,trivial,?_,?_,?_⟩
 ·rw[Ah]
  intro r hr
  obtain⟨i,hi,rfl⟩:=BO hr
  have hi':i < q.1.toNat:=by rw[LW.2.2]at hi;exact hi
  rw[GY hi,dt hi']
  unfold rowOk
  rw[Ak,WA,Bu,AD,K4,Ah]
  exactλb _=>(kf b).1
 ·rw[Ah]
  intro r hr
  unfold MZ at hr
  obtain⟨_,_,rfl⟩:=A3.1 hr
  exact mj
 ·rw[Ah]
  intro r hr
  unfold MZ at hr
  obtain⟨_,_,rfl⟩:=A3.1 hr
  exact mj
theorem s9{v i:Nat}(h:i < q.2.1.length):gB (bits q v) i=(q.2.1[i]).2.contains (v:Int):=by
 unfold gB bits
 rw[Af,AW,Ac h];rfl
def Cov(q:NQ)(S:List Bool):Prop:=∀v,v < q.1.toNat->∃i,gB (bits q v) i=true∧gB S i=true
theorem kQ(hv:II q=true):Cov q (List.replicate q.2.1.length true):=λv hvn=>by
 have hu:=hv
 unfold II at hu
 simp only[Aa,Ax]at hu
 have hu:=Bx.1 hu.2.2.2.2 v (Ao.2 hvn)
 have hu:Hf q.2.1 (v:Int)=true:=by simpa using hu
 unfold Hf at hu
 obtain⟨a,ha,hc⟩:=Bi.1 hu
 obtain⟨i,hi,rfl⟩:=BO ha
 refine⟨i,by rw[s9 hi];exact hc,?_⟩
 unfold gB
 rw[Af,List.getElem?_replicate,Av hi];rfl
theorem iI{n:Nat}(h1:1<=n)(h2:n<=4):jP n=true∧tryD n=true:=by
 have:n=1∨n=2∨n=3∨n=4:=by omega
 rcases this with rfl|rfl|rfl|rfl
 ·exact⟨Abd,z0⟩
 ·exact⟨Abe,z5⟩
 ·exact⟨Abf,z6⟩
 ·exact⟨Abg,z7⟩
theorem qV(hv:II q=true){S:List Bool}(hl:S.length=q.2.1.length)(hc:Cov q S):Lh (MZ q) (S.map bt) 1=true:=by
 obtain⟨h1,h2,h3,h4⟩:=Jf hv
 have hD:=(iI h3 h4).2
 have hdot:∀v,v < q.1.toNat->kx (bits q v) S=true:=λv _=>by
  unfold tryD at hD
  have ha:=Ah.1 hD (bits q v) (by have:=RG (bits q v);rwa [WA]at this)
  exact Ah.1 ha S (by have:=RG S;rwa [hl]at this)
 have hdo:∀v,v < q.1.toNat->(Gt (CX (MZ q).1 v) (S.map bt)).2=true∧decide (wZ (Vr (Gt (CX (MZ q).1 v) (S.map bt)).1 (1,1) * 1) < 0)=false:=λv hvn=>by
  have hd:=hdot v hvn
  unfold kx at hd
  rw[Aa,BP,Ax,Ax]at hd
  rw[dt hvn]
  refine⟨hd.1,hd.2.resolve_left λhm=>?_⟩
  obtain⟨i,g1,g2⟩:=hc v hvn
  unfold r6 at hm
  have:=Bx.1 hm i (Ao.2 (WU g2))
  rw[g1,g2]at this;exact this rfl
 have hmv:S4 (MZ q).1 (S.map bt)=((List.range' 0 q.1.toNat).map (λv=>(Gt (CX (MZ q).1 v) (S.map bt)).1),true):=by
  unfold S4
  rw[LW.2.2,R2 (h:=λv=>(Gt (CX (MZ q).1 v) (S.map bt)).1) q.1.toNat 0 (λi _ hi=>by
   unfold X6
   rw[(hdo i (by omega)).1];rfl)]
 unfold Lh
 rw[ko hv,AD,Ak,hl,LW.2.1,Bu,AD,hmv,AD,K4]
 rw[Aa,Ax]
 refine⟨Ah.2 λb _=>?_,Bx.2 λv hvn=>?_⟩
 ·show(Ee (bt b)&&decide (0<=(bt b).1))=true
  rw[(kf b).1,Ai (kf b).2];rfl
 ·simp only[Ak,Gi,Ao]at hvn
  unfold VR
  rw[hmv]
  have e1:atR ((List.range' 0 q.1.toNat).map λv=>(Gt (CX (MZ q).1 v) (S.map bt)).1) v=(Gt (CX (MZ q).1 v) (S.map bt)).1:=by
   rw[<-LV (by rw[Ak,Gi];exact hvn),Be,DR];simp
  have e2:atR (MZ q).2.1 v=(1,1):=by
   rw[<-LV (by rw[LW.1];exact hvn)]
   unfold MZ
   simp
  simp only
  rw[e1,e2,(hdo v hvn).2];simp
theorem wT(hv:II q=true):QJ (MZ q)≠[]:=by
 obtain⟨h1,h2,h3,h4⟩:=Jf hv
 unfold QJ
 rw[ko hv,Ad]
 unfold Iz
 rw[LW.1,LW.2.1]
 obtain⟨S,hl,hc,hmin⟩:=VK (P:=Cov q) (n:=q.2.1.length) _ (List.replicate q.2.1.length true) (AT _) (by simp) (kQ hv)
 have hex:∀i,gB S i=true->∃v,v < q.1.toNat∧gB (bits q v) i=true∧∀j,gB S j=true->gB (bits q v) j=true->j=i:=λi hi=>by
  have hn:=hmin i hi
  refine Cp λhcon=>hn λv hvn=>?_
  obtain⟨j,g1,g2⟩:=hc v hvn
  by_cases hji:j=i
  ·subst hji
   refine Cp λhno=>hcon ⟨v,hvn,g1,λk k1 k2=>Cp λhki=>hno ⟨k,k2,?_⟩⟩
   rw[kR (WU hi),At (λh=>hki h.symm)];exact k1
  ·exact⟨j,g1,by rw[kR (WU hi),At (λh=>hji h.symm)];exact g2⟩
 obtain⟨f,hf⟩:∃f:Nat->Nat,∀i,gB S i=true->f i < q.1.toNat∧gB (bits q (f i)) i=true∧∀j,gB S j=true->gB (bits q (f i)) j=true->j=i:=
  ⟨λi=>if h:gB S i=true then Classical.choose (hex i h)else 0,λi hi=>by
   simp only[dif_pos hi];exact Classical.choose_spec (hex i hi)⟩
 have hinj:∀i j,gB S i=true->gB S j=true->f i=f j->i=j:=λi j hi hj e=>(hf j hj).2.2 i hi (by rw[<-e];exact(hf i hi).2.1)
 have htk:∀i,i∈aq S↔gB S i=true:=λi=>by
  unfold aq
  rw[BE,Ao]
  exact⟨λh=>h.2,λh=>⟨WU h,h⟩⟩
 have hVn:((aq S).map f).Nodup:=by
  unfold List.Nodup
  rw[El]
  have:(aq S).Pairwise (· ≠ ·):=G4 _ E4
  exact Ht (λ{a b} ha hb hne e=>hne (hinj a b ((htk a).1 ha) ((htk b).1 hb) e)) this
 let vs:=(List.range q.1.toNat).filter λv=>((aq S).map f).contains v
 have hvs:∀v,v∈vs↔∃i,gB S i=true∧f i=v:=λv=>by
  show v∈(List.range q.1.toNat).filter _↔_
  rw[BE,Ao,AS,A3]
  constructor
  ·rintro⟨_,i,hi,e⟩;exact⟨i,(htk i).1 hi,e⟩
  ·rintro⟨i,hi,e⟩;exact⟨by rw[<-e];exact(hf i hi).1,i,(htk i).2 hi,e⟩
 have hvl:vs.length=(aq S).length:=by
  have hp:vs.Perm ((aq S).map f):=(List.perm_ext_iff_of_nodup (G4 _ E4) hVn).2 λv=>by
   rw[hvs,A3]
   exact⟨λ⟨i,hi,e⟩=>⟨i,(htk i).2 hi,e⟩,λ⟨i,hi,e⟩=>⟨i,(htk i).1 hi,e⟩⟩
  rw[hp.length_eq,Ak]
 have hvlt:∀v∈vs,v < q.1.toNat:=λv hvm=>by
  obtain⟨i,hi,e⟩:=(hvs v).1 hvm
  rw[<-e];exact(hf i hi).1
 have hvasc:vs.Pairwise (· < ·):=G4 _ Ix
 have hfasc:(O7 S).Pairwise (· < ·):=G4 _ Ix
 have hflt:∀j∈O7 S,j < q.2.1.length:=λj hj=>by
  unfold O7 at hj
  rw[BE,Ao]at hj
  rw[<-hl];exact hj.1
 have hlen:(vs++(O7 S).map (q.1.toNat+ ·)).length=q.2.1.length:=by
  rw[Aw,Ak,hvl]
  have:=Qy (λj=>gB S j) (List.range S.length)
  rw[BV]at this
  unfold aq O7
  omega
 have hasc:(vs++(O7 S).map (q.1.toNat+ ·)).Pairwise (· < ·):=by
  rw[G7]
  refine⟨hvasc,?_,λv hvm e he=>?_⟩
  ·rw[El]
   exact LZ (λh=>by omega) hfasc
  ·obtain⟨j,_,rfl⟩:=A3.1 he
   have:=hvlt v hvm;omega
 have hmem:=Zp (t:=q.1.toNat+q.2.1.length) (fr:=0) hasc (λe he=>by
  rcases Al.1 he with he|he
  ·have:=hvlt e he;omega
  ·obtain⟨j,hj,rfl⟩:=A3.1 he
   have:=hflt j hj;omega)
 rw[hlen]at hmem
 have hrow:(vs++(O7 S).map (q.1.toNat+ ·)).map (rowAt (MZ q))=(vs.map (bits q)).map (λr=>r.map bt)++(O7 S).map (QI S.length):=by
  rw[B7,C0,C0]
  congr 1
  ·refine Ca λv hvm=>?_
   unfold rowAt
   rw[LW.1,Av (hvlt v hvm),dt (hvlt v hvm)];rfl
  ·refine Ca λj _=>?_
   simp only[Function.comp]
   unfold rowAt
   rw[LW.1,LW.2.1,At (by omega),De,hl]
 have hrgt:(vs++(O7 S).map (q.1.toNat+ ·)).map (Dl (MZ q))=(vs.map (bits q)).map (λ_=>((1:Int),(1:Int)))++(O7 S).map (λ_=>((0:Int),(1:Int))):=by
  rw[B7,C0,C0]
  congr 1
  ·refine Ca λv hvm=>?_
   unfold Dl
   rw[LW.1,Av (hvlt v hvm),<-LV (by rw[LW.1];exact hvlt v hvm)]
   unfold MZ
   simp
  ·refine Ca λj _=>?_
   simp only[Function.comp]
   unfold Dl
   rw[LW.1,At (by omega)]
 have hcand:∀r∈vs.map (bits q),r∈fp S:=λr hr=>by
  obtain⟨v,hvm,rfl⟩:=A3.1 hr
  obtain⟨i,hi,e⟩:=(hvs v).1 hvm
  subst e
  unfold fp
  rw[BE]
  refine⟨by have:=RG (bits q (f i));rwa [WA,<-hl]at this,?_⟩
  unfold sh
  refine Bi.2 ⟨i,Ao.2 (WU hi),?_⟩
  rw[hi,(hf i hi).2.1,GL,AD,Ah]
  intro j _
  rw[BP,Bc,Ax]
  by_cases hj:j=i
  ·exact .inl hj
  ·refine .inr ?_
   cases ha:gB S j with
   |false=>rfl
   |true=>
    cases hb:gB (bits q (f i)) j with
    |false=>rfl
    |true=>exact absurd ((hf i hi).2.2 j ha hb) hj
 have hpair:(vs.map (bits q)).Pairwise (λa b=>apart S a b=true):=by
  rw[El]
  refine Ht (λ{a b} ha hb hlt=>?_) hvasc
  obtain⟨i,hi,ei⟩:=(hvs a).1 ha
  obtain⟨j,hj,ej⟩:=(hvs b).1 hb
  unfold apart
  rw[Ah]
  intro k _
  rw[Ax]
  cases hk:gB S k with
  |false=>rfl
  |true=>
   cases hka:gB (bits q a) k with
   |false=>rfl
   |true=>
    cases hkb:gB (bits q b) k with
    |false=>rfl
    |true=>
     exfalso
     subst ei ej
     have e1:=(hf i hi).2.2 k hk hka
     have e2:=(hf j hj).2.2 k hk hkb
     subst e1
     subst e2
     omega
 have hgen:=bC hcand hpair
 rw[Ak,hvl]at hgen
 have hS:=(iI h3 h4).1
 unfold jP at hS
 have hS2:=Ah.1 (Ah.1 hS S (by have:=RG S;rwa [hl]at this)) _ hgen
 unfold sJ at hS2
 rw[Aa,Bc]at hS2
 refine Yo (c:=vs++(O7 S).map (q.1.toNat+ ·)) ?_ ?_ _ [] hmem
 ·rw[hrow,hrgt];exact hS2.1
 ·rw[hrow,hrgt,hS2.2];exact qV hv hl hc
end
theorem nO{p:LP}{sg:Int}{out:Mx}{c:zN}{x:List Rt}(h:x∈out):x∈visit p sg out c:=by
 unfold visit
 cases(KF (c.map (rowAt p)) (c.map (Dl p))).2 with
 |false=>exact h
 |true=>
  cases Lh p (KF (c.map (rowAt p)) (c.map (Dl p))).1 sg with
  |false=>exact h
  |true=>
   cases out.any (· ==(KF (c.map (rowAt p)) (c.map (Dl p))).1)with
   |true=>exact h
   |false=>exact Az _ h
theorem bo{p:LP}{sg:Int}{x:List Rt}:∀(l:List zN) (out:Mx),x∈out->x∈l.foldl (visit p sg) out
 |[],_,h=>h
 |c::l,out,h=>bo l _ (nO h)
theorem Yn{p:LP}{sg:Int}{c:zN}(h1:(KF (c.map (rowAt p)) (c.map (Dl p))).2=true)(h2:Lh p (KF (c.map (rowAt p)) (c.map (Dl p))).1 sg=true):∀(l:List zN) (out:Mx),c∈l->(KF (c.map (rowAt p)) (c.map (Dl p))).1∈l.foldl (visit p sg) out
 |d::l,out,h=>by
  rw[Cz]
  rcases AB.1 h with rfl|h
  ·refine bo l _ ?_
   unfold visit
   rw[h1,h2,Ad,Ad]
   cases ha:out.any (· ==(KF (c.map (rowAt p)) (c.map (Dl p))).1)with
   |true=>
    obtain⟨y,hy,e⟩:=Bi.1 ha
    rw[Bc]at e
    rw[<-e];exact hy
   |false=>exact Ar _ (AP.2 rfl)
  ·exact Yn h1 h2 l _ h
section
variable {q:NQ}{B:zN}
end
theorem mU{a b:Rt}(h:(D9 a b).2=true):Ee (D9 a b).1=true∧rv (D9 a b).1=rv a * rv b:=by
 cases ha:Ee a with
 |false=>unfold D9 at h;rw[ha]at h;cases h
 |true=>
  cases hb:Ee b with
  |false=>unfold D9 at h;rw[ha,hb]at h;cases h
  |true=>
   have fa:=Cd ha
   have fb:=Cd hb
   have e:D9 a b=rNew (a.1 * b.1) (a.2 * b.2):=by unfold D9;rw[ha,hb];rfl
   have n1:a.2≠0:=by omega
   have n2:b.2≠0:=by omega
   rw[e]at h⊢
   obtain⟨o,v⟩:=R4 (Ig n1 n2) h
   refine⟨o,v.trans ?_⟩
   have:=SH n1;have:=SH n2
   unfold rv;push_cast;grind
theorem mN{a b:Rt}(h:(Nj a b).2=true):Ee (Nj a b).1=true∧rv (Nj a b).1=rv a+rv b:=by
 cases ha:Ee a with
 |false=>unfold Nj at h;rw[ha]at h;cases h
 |true=>
  cases hb:Ee b with
  |false=>unfold Nj at h;rw[ha,hb]at h;cases h
  |true=>
   have fa:=Cd ha
   have fb:=Cd hb
   have e:Nj a b=rNew (a.1 * b.2+b.1 * a.2) (a.2 * b.2):=by unfold Nj;rw[ha,hb];rfl
   have n1:a.2≠0:=by omega
   have n2:b.2≠0:=by omega
   rw[e]at h⊢
   obtain⟨o,v⟩:=R4 (Ig n1 n2) h
   refine⟨o,v.trans ?_⟩
   have:=SH n1;have:=SH n2
   unfold rv;push_cast;grind
theorem ib{a b:List Rt}:∀(j k:Nat) (x y:Rt),Ee x=true->Lf (Ua a b) j k x=.inl y->Ee y=true∧rv y=rv x+sm j (λi=>rv (atR a (k+i)) * rv (atR b (k+i)))
 |0,k,x,y,hx,h=>by
  rw[Lf]at h;cases h
  exact⟨hx,by rw[sm];grind⟩
 |j+1,k,x,y,hx,h=>by
  rw[Lf]at h
  unfold Ua at h
  cases h1:(D9 (atR a k) (atR b k)).2 with
  |false=>rw[h1]at h;cases h
  |true=>
   cases h2:(Nj x (D9 (atR a k) (atR b k)).1).2 with
   |false=>rw[h1,h2]at h;cases h
   |true=>
    rw[h1,h2]at h
    obtain⟨o1,v1⟩:=mU h1
    obtain⟨o2,v2⟩:=mN h2
    obtain⟨o,v⟩:=ib j (k+1) _ y o2 h
    refine⟨o,v.trans ?_⟩
    rw[v2,v1,R6,Du (n:=j) (g:=λi=>rv (atR a (k+(i+1))) * rv (atR b (k+(i+1)))) (λi _=>by rw[show k+1+i=k+(i+1)by omega])]
    rw[Dt];grind
theorem QU{a b:List Rt}(h:(Gt a b).2=true):a.length=b.length∧Ee (Gt a b).1=true∧rv (Gt a b).1=sm a.length (λi=>rv (atR a i) * rv (atR b i)):=by
 unfold Gt at h⊢
 cases hl:(a.length:Int)!=(b.length:Int)with
 |true=>rw[hl]at h;cases h
 |false=>
  rw[hl]at h
  have e:a.length=b.length:=by
   have:(a.length:Int)=b.length:=by simpa using hl
   omega
  rw[Ae]at h⊢
  cases hr:Lf (Ua a b) a.length 0 (0,1)with
  |inr o=>
   exfalso
   rw[hr]at h
   have:∀(j k:Nat) (x:Rt) (o:Rt×Bool),Lf (Ua a b) j k x=.inr o->o=fI:=λj=>by
    induction j with
    |zero=>intro k x o h;rw[Lf]at h;cases h
    |succ j ih=>
     intro k x o h
     rw[Lf]at h
     unfold Ua at h
     cases h1:(D9 (atR a k) (atR b k)).2 with
     |false=>rw[h1]at h;cases h;rfl
     |true=>
      cases h2:(Nj x (D9 (atR a k) (atR b k)).1).2 with
      |false=>rw[h1,h2]at h;cases h;rfl
      |true=>rw[h1,h2]at h;exact ih _ _ _ h
   rw[this _ _ _ _ hr]at h
   cases h
  |inl y=>
   obtain⟨o,v⟩:=ib a.length 0 (0,1) y (by decide) hr
   refine⟨e,o,v.trans ?_⟩
   have z:rv ((0:Int),(1:Int))=0:=UJ false
   rw[z,Du (g:=λi=>rv (atR a i) * rv (atR b i)) (λi _=>by rw[CR])]
   grind
theorem su{a b:List Rt}{n:Nat}{g:Nat->Bool}{Z:Nat->Int}{D:Int}(hD:0 < D)(hD2:D<=1000)(hn:n<=5)(ha:∀k,k < n->atR a k=bt (g k))(hb:∀k,k < n->Yd (atR b k) (Z k) D∧(Z k).natAbs<=1000):
  ∀(j k:Nat) (x:Rt) (z:Int),k+j=n->Yd x z D->z.natAbs<=1000 * k->∃y,Lf (Ua a b) j k x=.inl y
 |0,k,x,z,_,_,_=>⟨x,by rw[Lf]⟩
 |j+1,k,x,z,hk,hx,hz=>by
  obtain⟨q,hq⟩:=hb k (by omega)
  have s:=Jb hD q
  have f:=Cd q.1
  have sx:=Jb hD hx
  have fx:=Cd hx.1
  have okb:Ee (bt (g k))=true:=by cases g k<;>decide
  have m:(D9 (bt (g k)) (atR b k)).2=true∧Ee (D9 (bt (g k)) (atR b k)).1=true∧rv (D9 (bt (g k)) (atR b k)).1=rv (bt (g k)) * rv (atR b k):=by
   refine mT okb q.1 ?_ ?_
   ·cases g k
    ·show(0 * (atR b k).1).natAbs<=_;rw[Int.zero_mul];decide
    ·show(1 * (atR b k).1).natAbs<=_;rw[Int.one_mul];omega
   ·have:(bt (g k)).2=1:=by cases g k<;>rfl
    rw[this,Int.one_mul];omega
  have qm:Yd (D9 (bt (g k)) (atR b k)).1 (cond (g k) (Z k) 0) D:=by
   refine Pj hD m.2.1 ?_
   rw[m.2.2,UJ,Nc hD q]
   cases g k
   ·show(0:Rat) * _=((0:Int):Rat) / D
    have:=SH (show D≠0 by omega)
    push_cast;grind
   ·show(1:Rat) * _=_
    simp
  have zk:(cond (g k) (Z k) 0).natAbs<=1000:=by cases g k;exact CB _;exact hq
  have sm':=Jb hD qm
  have fm:=Cd m.2.1
  have ad:(Nj x (D9 (bt (g k)) (atR b k)).1).2=true∧Ee (Nj x (D9 (bt (g k)) (atR b k)).1).1=true∧rv (Nj x (D9 (bt (g k)) (atR b k)).1).1=rv x+rv (D9 (bt (g k)) (atR b k)).1:=by
   refine mM hx.1 m.2.1 ?_ ?_
   ·have p1:(x.1 * (D9 (bt (g k)) (atR b k)).1.2).natAbs<=5000 * 1000:=by rw[BQ];exact BC (by omega) (by omega)
    have p2:((D9 (bt (g k)) (atR b k)).1.1 * x.2).natAbs<=1000 * 1000:=by rw[BQ];exact BC (by omega) (by omega)
    omega
   ·rw[BQ];exact BD (BC (show _<=1000 by omega) (show _<=1000 by omega)) (by decide)
  have qa:Yd (Nj x (D9 (bt (g k)) (atR b k)).1).1 (z+cond (g k) (Z k) 0) D:=by
   refine Pj hD ad.2.1 ?_
   rw[ad.2.2,Nc hD hx,Nc hD qm]
   have:=SH (show D≠0 by omega)
   push_cast;grind
  obtain⟨y,hy⟩:=su hD hD2 hn ha hb j (k+1) _ _ (by omega) qa (by omega)
  refine⟨y,?_⟩
  rw[Lf]
  unfold Ua
  rw[ha k (by omega),m.1,ad.1]
  exact hy
theorem ky{a b:List Rt}{n:Nat}{g:Nat->Bool}{Z:Nat->Int}{D:Int}(hD:0 < D)(hD2:D<=1000)(hn:n<=5)(hl:a.length=n)(hl2:b.length=n)(ha:∀k,k < n->atR a k=bt (g k))(hb:∀k,k < n->Yd (atR b k) (Z k) D∧(Z k).natAbs<=1000):(Gt a b).2=true:=by
 obtain⟨y,hy⟩:=su hD hD2 hn ha hb n 0 (0,1) 0 (by omega) ⟨by decide,by simp⟩ (by decide)
 unfold Gt
 rw[hl,hl2,hy]
 simp
theorem sv{a b:Rt}(ha:Ee a=true)(hb:Ee b=true):rv a < rv b↔a.1 * b.2 < b.1 * a.2:=by
 have fa:=Cd ha
 have fb:=Cd hb
 have pa:(0:Rat) < (a.2:Rat):=by exact_mod_cast (show 0 < a.2 by omega)
 have pb:(0:Rat) < (b.2:Rat):=by exact_mod_cast (show 0 < b.2 by omega)
 unfold rv
 rw[Rat.div_lt_iff pa]
 have e:(b.1:Rat) / b.2 * a.2=(b.1 * a.2) / b.2:=by grind
 rw[e,Rat.lt_div_iff pb]
 constructor
 ·intro h;exact_mod_cast h
 ·intro h;exact_mod_cast h
theorem UE{a b:Rt}{sg:Int}(ha:Ee a=true)(hb:Ee b=true)(hs:sg=1∨sg= -1):decide (wZ (Vr a b * sg) < 0)=if sg=1 then decide (rv a < rv b)else decide (rv b < rv a):=by
 have h1:=sv ha hb
 have h2:=sv hb ha
 have e:Vr a b=if rv a < rv b then -1 else if rv b < rv a then 1 else 0:=by
  unfold Vr
  rw[ha,hb,Ad,Ad]
  by_cases c1:rv a < rv b
  ·rw[Av c1,Ai (h1.1 c1),Ad]
  ·rw[At c1,Ag (λh=>c1 (h1.2 h)),Ae]
   by_cases c2:rv b < rv a
   ·rw[Av c2,Ai (h2.1 c2),Ad]
   ·rw[At c2,Ag (λh=>c2 (h2.2 h)),Ae]
 rw[e]
 by_cases c1:rv a < rv b
 ·have c2:¬rv b < rv a:=by grind
  rw[Av c1,Ai c1,Ag c2]
  rcases hs with rfl|rfl
  ·rw[wrap_in (by omega)];decide
  ·rw[wrap_in (by omega)];decide
 ·rw[At c1,Ag c1]
  by_cases c2:rv b < rv a
  ·rw[Av c2,Ai c2]
   rcases hs with rfl|rfl
   ·rw[wrap_in (by omega)];decide
   ·rw[wrap_in (by omega)];decide
  ·rw[At c2,Ag c2]
   rcases hs with rfl|rfl
   ·rw[wrap_in (by omega)];decide
   ·rw[wrap_in (by omega)];decide
def Iu(m n:Nat)(g:Nat->Nat->Bool):LP:=((List.range m).map λi=>(List.range n).map λj=>bt (g i j),(List.range m).map λ_=>(1,1),(List.range n).map λ_=>(1,1))
section
variable {m n:Nat}{g:Nat->Nat->Bool}
theorem HX{f:Nat->Rt}{n k:Nat}(h:k < n):atR ((List.range n).map f) k=f k:=by
 unfold atR
 rw[Af,AW,DS h];rfl
theorem iT{f:Nat->List Rt}{n k:Nat}(h:k < n):CX ((List.range n).map f) k=f k:=by
 unfold CX
 rw[Af,AW,DS h];rfl
theorem Kt:(Iu m n g).1.length=m∧(Iu m n g).2.1.length=m∧(Iu m n g).2.2.length=n:=by unfold Iu;simp
theorem QP{i:Nat}(hi:i < m):CX (Iu m n g).1 i=(List.range n).map λj=>bt (g i j):=iT hi
theorem dj(b:Bool):Ee (bt b)=true:=by cases b<;>decide
theorem WC(h1:1<=m∧m<=5)(h2:1<=n∧n<=5):OT (Iu m n g)=true:=by
 unfold OT
 obtain⟨e1,e2,e3⟩:=Kt (m:=m) (n:=n) (g:=g)
 rw[e1,e2,e3,Fq.2 (by omega),Fq.2 (by omega)]
 have a1:(Iu m n g).1.all (rowOk n)=true:=by
  unfold Iu
  rw[Ah]
  intro r hr
  obtain⟨i,_,rfl⟩:=A3.1 hr
  unfold rowOk
  rw[Ak,BV,Bu,AD,Ah]
  intro x hx
  obtain⟨j,_,rfl⟩:=A3.1 hx
  exact dj _
 have a2:(Iu m n g).2.1.all Ee=true:=by
  unfold Iu
  rw[Ah]
  intro x hx
  obtain⟨j,_,rfl⟩:=A3.1 hx
  decide
 have a3:(Iu m n g).2.2.all Ee=true:=by
  unfold Iu
  rw[Ah]
  intro x hx
  obtain⟨j,_,rfl⟩:=A3.1 hx
  decide
 rw[a1,a2,a3]
 simp
theorem hO{i:Nat}{x:List Rt}(hx:(Gt ((List.range n).map λj=>bt (g i j)) x).2=true):rv (Gt ((List.range n).map λj=>bt (g i j)) x).1=sm n (λj=>bq (g i j) * rv (atR x j)):=by
 obtain⟨_,_,v⟩:=QU hx
 rw[v,Ak,BV]
 exact Du λj hj=>by rw[HX hj,UJ]
theorem bY{α O:Type}{gg:Nat->Sum α O}:∀(j k:Nat) (l:List α),JE gg j k=.inl l->l.length=j∧∀i (hi:i < l.length),gg (k+i)=.inl l[i]
 |0,k,l,h=>by cases h;exact⟨rfl,λi hi=>by simp at hi⟩
 |j+1,k,l,h=>by
  rw[JE]at h
  cases h1:gg k with
  |inr o=>rw[h1]at h;cases h
  |inl x=>
   rw[h1]at h
   simp only at h
   cases h2:JE gg j (k+1)with
   |inr o=>rw[h2]at h;cases h
   |inl l'=>
    rw[h2]at h
    cases h
    obtain⟨a,b⟩:=bY j (k+1) l' h2
    refine⟨by simp[a],λi hi=>?_⟩
    cases i with
    |zero=>exact h1
    |succ i=>have:=b i (by simpa using hi);rw[show k+(i+1)=k+1+i by omega];exact this
theorem Li{x:List Rt}{sg:Int}(hs:sg=1∨sg= -1)(h:Lh (Iu m n g) x sg=true):x.length=n∧(∀j,j < n->Ee (atR x j)=true∧0<=(atR x j).1)∧∀i,i < m->if sg=1 then 1<=sm n (λj=>bq (g i j) * rv (atR x j))else sm n (λj=>bq (g i j) * rv (atR x j))<=1:=by
 obtain⟨e1,e2,e3⟩:=Kt (m:=m) (n:=n) (g:=g)
 unfold Lh at h
 simp only[Aa,Bc,Ah,AN,Ax,Bx,Ao]at h
 obtain⟨-,h1,h2,h3,h4⟩:=h
 rw[e3]at h1
 refine⟨h1,λj hj=>?_,λi hi=>?_⟩
 ·have:atR x j∈x:=by unfold atR;rw[Af,Ac (by omega)];exact Aj _
  exact h2 _ this
 ·unfold S4 at h3 h4
  unfold VR S4 at h4
  cases hm:JE (X6 (Iu m n g).1 x) (Iu m n g).1.length 0 with
  |inr o=>
   exfalso
   rw[hm]at h3
   have:∀(j k:Nat) (o:List Rt×Bool),JE (X6 (Iu m n g).1 x) j k=.inr o->o.2=false:=λj=>by
    induction j with
    |zero=>intro k o h;cases h
    |succ j ih=>
     intro k o h
     rw[JE]at h
     cases hg:X6 (Iu m n g).1 x k with
     |inr o'=>
      rw[hg]at h;cases h
      unfold X6 at hg
      cases hd:(Gt (CX (Iu m n g).1 k) x).2 with
      |true=>rw[hd]at hg;cases hg
      |false=>rw[hd]at hg;cases hg;rfl
     |inl y=>
      rw[hg]at h
      simp only at h
      cases h2:JE (X6 (Iu m n g).1 x) j (k+1)with
      |inr o'=>rw[h2]at h;cases h;exact ih _ _ h2
      |inl l'=>rw[h2]at h;cases h
   rw[this _ _ _ hm]at h3;cases h3
  |inl l=>
   rw[hm]at h4
   obtain⟨l1,l2⟩:=bY _ _ _ hm
   rw[e1]at l1
   have hg:=l2 i (by omega)
   rw[CR]at hg
   unfold X6 at hg
   rw[QP hi]at hg
   cases hd:(Gt ((List.range n).map λj=>bt (g i j)) x).2 with
   |false=>rw[hd]at hg;cases hg
   |true=>
    rw[hd,Ad]at hg
    have hv:=hO hd
    have ho:=(QU hd).2.1
    have e:l[i]'(by omega)=(Gt ((List.range n).map λj=>bt (g i j)) x).1:=(Sum.inl.inj hg).symm
    have h5:=h4 i (by simp only;omega)
    simp only at h5
    have e4:atR l i=l[i]'(by omega):=by unfold atR;rw[Af,Ac (by omega)];rfl
    have e5:atR (Iu m n g).2.1 i=(1,1):=HX hi
    rw[e4,e,e5,UE ho (show Ee ((1:Int),(1:Int))=true by decide) hs]at h5
    have e6:rv ((1:Int),(1:Int))=1:=UJ true
    rw[hv,e6]at h5
    rcases hs with rfl|rfl
    ·rw[Av rfl,AN]at h5;rw[Av rfl];grind
    ·rw[At (by decide),AN]at h5;rw[At (by decide)];grind
end
section
variable {m n:Nat}{g:Nat->Nat->Bool}
theorem eK{x:List Rt}{sg:Int}{X:Nat->Int}{D:Int}(hs:sg=1∨sg= -1)(h1:1<=m∧m<=5)(h2:1<=n∧n<=5)(hD:1<=D)(hD2:D<=1000)(hl:x.length=n)(hx:∀j,j < n->Yd (atR x j) (X j) D∧(X j).natAbs<=1000∧0<=X j)
  (h:∀i,i < m->if sg=1 then(D:Rat)<=sm n (λj=>bq (g i j) * (X j:Rat))else sm n (λj=>bq (g i j) * (X j:Rat))<=D):Lh (Iu m n g) x sg=true:=by
 obtain⟨e1,e2,e3⟩:=Kt (m:=m) (n:=n) (g:=g)
 have hd:∀i,i < m->(Gt ((List.range n).map λj=>bt (g i j)) x).2=true:=λi hi=>
  ky (g:=g i) (show 0 < D by omega) hD2 h2.2 (by simp) hl (λk hk=>HX hk) (λk hk=>⟨(hx k hk).1,(hx k hk).2.1⟩)
 have hm:JE (X6 (Iu m n g).1 x) m 0=.inl ((List.range' 0 m).map λi=>(Gt ((List.range n).map λj=>bt (g i j)) x).1):=R2 m 0 λi _ hi=>by
  unfold X6
  rw[QP (show i < m by omega),hd i (by omega)];rfl
 have hmv:S4 (Iu m n g).1 x=((List.range' 0 m).map λi=>(Gt ((List.range n).map λj=>bt (g i j)) x).1,true):=by unfold S4;rw[e1,hm]
 unfold Lh
 rw[WC h1 h2,hmv,hl,e3,Bu,AD,AD]
 have a1:(x.all λr=>Ee r&&decide (0<=r.1))=true:=by
  rw[Ah]
  intro r hr
  obtain⟨j,hj,rfl⟩:=BO hr
  have q:=hx j (by omega)
  have e:atR x j=x[j]:=by unfold atR;rw[Af,Ac hj];rfl
  rw[e]at q
  rw[Aa,AN]
  refine⟨q.1.1,?_⟩
  have f:=Cd q.1.1
  have eq:=q.1.2
  have:0<=X j * x[j].2:=Ff q.2.2 (by omega)
  rw[<-eq]at this
  exact Eu this (by omega)
 rw[a1]
 simp only[AD,Ax,Bx,Ao,Ak,Gi]
 intro i hi
 unfold VR
 rw[hmv]
 have e4:atR ((List.range' 0 m).map λi=>(Gt ((List.range n).map λj=>bt (g i j)) x).1) i=(Gt ((List.range n).map λj=>bt (g i j)) x).1:=by
  unfold atR
  rw[Af,AW,JG hi];simp
 have e5:atR (Iu m n g).2.1 i=(1,1):=HX hi
 rw[e4,e5,UE (QU (hd i hi)).2.1 (show Ee ((1:Int),(1:Int))=true by decide) hs,show rv ((1:Int),(1:Int))=1 from UJ true,hO (hd i hi)]
 have rD:=SH (show D≠0 by omega)
 have pD:(0:Rat) < (D:Rat):=by exact_mod_cast (show 0 < D by omega)
 have ev:sm n (λj=>bq (g i j) * rv (atR x j)) * D=sm n (λj=>bq (g i j) * (X j:Rat)):=by
  have:∀k,k<=n->sm k (λj=>bq (g i j) * rv (atR x j)) * D=sm k (λj=>bq (g i j) * (X j:Rat)):=λk=>by
   induction k with
   |zero=>intro _;rw[sm,sm];grind
   |succ k ih=>
    intro hk
    have:=Nc (show 0 < D by omega) (hx k (by omega)).1
    have i1:=ih (by omega)
    rw[sm,sm,this,<-i1];grind
  exact this n (AT _)
 have hi':=h i hi
 generalize sm n (λj=>bq (g i j) * rv (atR x j))=v at *
 rw[<-ev]at hi'
 rcases hs with rfl|rfl
 ·rw[Av rfl]at hi'⊢
  rw[AN]
  intro hlt
  have:=Rat.mul_lt_mul_of_pos_right hlt pD
  grind
 ·rw[At (by decide)]at hi'⊢
  rw[AN]
  intro hlt
  have:=Rat.mul_lt_mul_of_pos_right hlt pD
  grind
def gUt(m:Nat)(g:Nat->Nat->Bool)(e j:Nat):Bool:=if e < m then g e j else decide (j=e - m)
theorem rB{n i j:Nat}(hj:j < n):atR (QI n i) j=bt (decide (j=i)):=by
 unfold QI atR
 rw[Af,GR]
 by_cases h:i=j
 ·rw[Av h,Av (by simp;omega),Ai h.symm];rfl
 ·rw[At h,List.getElem?_replicate,Av hj,Ag (λe=>h e.symm)];rfl
theorem cF{e j:Nat}(hj:j < n):atR (rowAt (Iu m n g) e) j=bt (gUt m g e j):=by
 obtain⟨e1,e2,e3⟩:=Kt (m:=m) (n:=n) (g:=g)
 unfold rowAt gUt
 rw[e2,e3]
 by_cases h:e < m
 ·rw[Av h,Av h,QP h,HX hj]
 ·rw[At h,At h,rB hj]
theorem cE(e:Nat):Dl (Iu m n g) e=bt (decide (e < m)):=by
 obtain⟨e1,e2,e3⟩:=Kt (m:=m) (n:=n) (g:=g)
 unfold Dl
 rw[e2]
 by_cases h:e < m
 ·rw[Av h,Ai h];exact HX h
 ·rw[At h,Ag h];rfl
theorem jG(hm:0 < m)(e:Nat):(rowAt (Iu m n g) e).length=n∧∀r∈rowAt (Iu m n g) e,Ee r=true:=by
 obtain⟨e1,e2,e3⟩:=Kt (m:=m) (n:=n) (g:=g)
 have hl:(rowAt (Iu m n g) e).length=n:=by
  unfold rowAt
  rw[e2,e3]
  split
  ·rename_i h;rw[QP h];simp
  ·unfold QI;simp
 refine⟨hl,λr hr=>?_⟩
 obtain⟨j,hj,rfl⟩:=BO hr
 have:=cF (g:=g) (e:=e) (m:=m) (n:=n) (j:=j) (by omega)
 unfold atR at this
 rw[Af,Ac hj]at this
 have e:(rowAt (Iu m n g) e)[j]=bt (gUt m g e j):=this
 rw[e];exact dj _
theorem pM{c:zN}{f:Nat->List Rt}{i:Nat}(hi:i < c.length):CX (c.map f) i=f (c.getD i 0):=by
 unfold CX
 rw[Af,AW,Ac hi,Af,Ac hi];rfl
theorem pN{c:zN}{f:Nat->Rt}{i:Nat}(hi:i < c.length):atR (c.map f) i=f (c.getD i 0):=by
 unfold atR
 rw[Af,AW,Ac hi,Af,Ac hi];rfl
theorem lZ{c:zN}{e:Nat}(h:e∈c):∃i,i < c.length∧c.getD i 0=e:=by
 obtain⟨i,hi,rfl⟩:=BO h
 exact⟨i,hi,by rw[Af,Ac hi];rfl⟩
theorem choice(hm:0 < m)(hn:n<=5){c:zN}(hc:c.length=n):
  ((KF (c.map (rowAt (Iu m n g))) (c.map (Dl (Iu m n g)))).2=false∧∃z:Nat->Rat,(∀e∈c,sm n (λj=>bq (gUt m g e j) * z j)=0)∧∃j,j < n∧z j≠0)∨
  ((KF (c.map (rowAt (Iu m n g))) (c.map (Dl (Iu m n g)))).2=true∧(KF (c.map (rowAt (Iu m n g))) (c.map (Dl (Iu m n g)))).1.length=n∧(∀j,j < n->Ee (atR (KF (c.map (rowAt (Iu m n g))) (c.map (Dl (Iu m n g)))).1 j)=true)∧
   ∀(t:Rat) (z:Nat->Rat),(∀e∈c,sm n (λj=>bq (gUt m g e j) * z j)=t * bq (decide (e < m)))->∀j,j < n->z j=t * rv (atR (KF (c.map (rowAt (Iu m n g))) (c.map (Dl (Iu m n g)))).1 j)):=by
 have hs:PF (c.map (rowAt (Iu m n g))) (c.map (Dl (Iu m n g)))=true:=by
  unfold PF
  rw[Ak,Ak,Bu,AD,Aa,Ah,Ah]
  refine⟨λr hr=>?_,λr hr=>?_⟩
  ·obtain⟨e,_,rfl⟩:=A3.1 hr
   obtain⟨l1,l2⟩:=jG (n:=n) (g:=g) hm e
   unfold rowOk
   rw[l1,hc,Bu,AD,Ah]
   exact l2
  ·obtain⟨e,_,rfl⟩:=A3.1 hr
   rw[cE];exact dj _
 have ea:∀i,i < n->∀j,j < n->atR (CX (c.map (rowAt (Iu m n g))) i) j=bt (gUt m g (c.getD i 0) j):=λi hi j hj=>by rw[pM (by omega),cF hj]
 have eb:∀i,i < n->atR (c.map (Dl (Iu m n g))) i=bt (decide (c.getD i 0 < m)):=λi hi=>by rw[pN (by omega),cE]
 have es:∀i,i < n->∀z:Nat->Rat,sm n (λj=>rv (atR (CX (c.map (rowAt (Iu m n g))) i) j) * z j)=sm n (λj=>bq (gUt m g (c.getD i 0) j) * z j):=λi hi z=>Du λj hj=>by rw[ea i hi j hj,UJ]
 rcases ip (n:=n) hn hs (by simp[hc]) (λi hi j hj=>by rw[ea i hi j hj];exact kc _) (λi hi=>by rw[eb i hi];exact kc _)with⟨e,z,hz,hz0⟩|⟨e,l,o,u⟩
 ·refine .inl ⟨e,z,λe he=>?_,hz0⟩
  obtain⟨i,hi,rfl⟩:=lZ he
  rw[<-es i (by omega)];exact hz i (by omega)
 ·refine .inr ⟨e,l,o,λt z hz=>u t z λi hi=>?_⟩
  rw[es i hi,eb i hi,UJ]
  exact hz _ (getD_mem (by omega))
theorem vtx{sg:Int}{X:Nat->Int}{D:Int}(hs:sg=1∨sg= -1)(h1:1<=m∧m<=5)(h2:1<=n∧n<=5)(hD:1<=D)(hD2:D<=1000)(hX:∀j,j < n->(X j).natAbs<=1000∧0<=X j){c:zN}(hp:c.Pairwise (· < ·))(hlt:∀e∈c,e < m+n)(hc:c.length=n)
  (ker:∀z:Nat->Rat,(∀e∈c,sm n (λj=>bq (gUt m g e j) * z j)=0)->∀j,j < n->z j=0)
  (sol:∀e∈c,sm n (λj=>bq (gUt m g e j) * (X j:Rat))=(D:Rat) * bq (decide (e < m)))
  (h:∀i,i < m->if sg=1 then(D:Rat)<=sm n (λj=>bq (g i j) * (X j:Rat))else sm n (λj=>bq (g i j) * (X j:Rat))<=D):
  ∃x∈Iz (Iu m n g) sg,x.length=n∧∀j,j < n->Ee (atR x j)=true∧rv (atR x j)=(X j:Rat) / D:=by
 obtain⟨e1,e2,e3⟩:=Kt (m:=m) (n:=n) (g:=g)
 rcases choice (g:=g) (show 0 < m by omega) h2.2 hc with⟨_,z,hz,j,hj,hj0⟩|⟨e,l,o,u⟩
 ·exact absurd (ker z hz j hj) hj0
 ·have val:=u D (λj=>(X j:Rat)) sol
  have rD:=SH (show D≠0 by omega)
  refine⟨_,Yn (p:=Iu m n g) (sg:=sg) e ?_ _ [] ?_,l,λj hj=>⟨o j hj,?_⟩⟩
  ·refine eK (X:=X) (D:=D) hs h1 h2 hD hD2 l (λj hj=>⟨Pj (by omega) (o j hj) ?_,hX j hj⟩) h
   have:=val j hj
   grind
  ·rw[e2,e3,<-hc]
   exact Zp hp λe he=>⟨CB _,by have:=hlt e he;omega⟩
  ·have:=val j hj
   grind
end
theorem Zt(f:Nat->Bool):∀n,∃t,t < 2 ^ n∧∀j,j < n->t.testBit j=f j
 |0=>⟨0,by decide,λj hj=>by omega⟩
 |n+1=>by
  obtain⟨t,h1,h2⟩:=Zt f n
  cases hf:f n with
  |false=>
   refine⟨t,by rw[CQ];omega,λj hj=>?_⟩
   by_cases e:j=n
   ·rw[e,hf];exact F5 h1
   ·exact h2 j (by omega)
  |true=>
   refine⟨2 ^ n+t,by rw[CQ];omega,λj hj=>?_⟩
   by_cases e:j=n
   ·rw[e,hf,Nat.testBit_two_pow_add_eq,F5 h1];rfl
   ·rw[Nat.testBit_two_pow_add_gt (by omega)];exact h2 j (by omega)
theorem fJ(p:Nat->Bool):∀n,((((List.range n).filter p).length:Nat):Rat)=sm n (λv=>if p v=true then 1 else 0)
 |0=>by simp[sm]
 |n+1=>by
  rw[EP,Gg,Aw,sm,<-fJ p n]
  by_cases h:p n=true
  ·rw[Av h,List.filter_cons_of_pos h];simp
  ·rw[At h,List.filter_cons_of_neg h,KD,Cg,Dt];grind
theorem ir:∀n,sm n (λ_=>(1:Rat))=(n:Rat)
 |0=>by simp[sm]
 |n+1=>by rw[sm,ir n];push_cast;rfl
theorem Zr{n:Nat}{I:zN}(hn:I.Nodup)(hl:∀v∈I,v < n):((List.range n).filter λv=>decide (v∈I)).length=I.length:=by
 have e:=fJ (λv=>decide (v∈I)) n
 rw[VO I hn hl _ (λv _ hv=>by simp[hv]),Du (g:=λ_=>1) (λm hm=>by rw[Av (Ai (getD_mem hm))]),ir]at e
 exact_mod_cast e
theorem kM(p:Nat->Bool)(m n:Nat):((List.range (m+n)).filter p).length=((List.range m).filter p).length+((List.range n).filter λj=>p (m+j)).length:=by
 rw[List.range_add,Gg,Aw,List.filter_map,Ak];rfl
def chs(m n:Nat)(I S:zN):zN:=(List.range (m+n)).filter λe=>if e < m then decide (e∈I)else !decide (e - m∈S)
theorem fu{m n:Nat}{I S:zN}(hI:I.Nodup)(hl:∀v∈I,v < m)(hS:S.Nodup)(hl2:∀j∈S,j < n)(e:S.length=I.length):(chs m n I S).length=n:=by
 unfold chs
 rw[kM]
 have e1:((List.range m).filter λe=>if e < m then decide (e∈I)else !decide (e - m∈S)).length=I.length:=by
  rw[<-Zr hI hl]
  congr 1
  exact L4 λv hv=>by rw[Av (Ao.1 hv)]
 have e2:((List.range n).filter λj=>if m+j < m then decide (m+j∈I)else !decide (m+j - m∈S)).length=((List.range n).filter λj=> !decide (j∈S)).length:=by
  congr 1
  exact L4 λv hv=>by rw[At (by omega),show m+v - m=v by omega]
 rw[e1,e2]
 have:=Qy (λj=>decide (j∈S)) (List.range n)
 rw[Zr hS hl2,BV]at this
 omega
theorem PO{m n:Nat}{I S:zN}{e:Nat}:e∈chs m n I S↔e < m+n∧if e < m then e∈I else e - m∉S:=by
 unfold chs
 rw[BE,Ao]
 by_cases h:e < m
 ·rw[Av h,Av h,AN]
 ·rw[At h,At h];simp
theorem WI(m n:Nat)(I S:zN):(chs m n I S).Pairwise (· < ·):=(Ix).filter _
theorem Sh{m n e:Nat}{g:Nat->Nat->Bool}(z:Nat->Rat)(h1:¬e < m)(h2:e < m+n):sm n (λj=>bq (gUt m g e j) * z j)=z (e - m):=by
 rw[Vy (a:=e - m) (by omega) (λj _ hj=>by unfold gUt;rw[At h1,Ag hj];show(0:Rat) * _=0;grind)]
 unfold gUt
 rw[At h1,Ai rfl];show(1:Rat) * _=_;grind
theorem UH{m n e:Nat}{g:Nat->Nat->Bool}(z:Nat->Rat)(h1:e < m):sm n (λj=>bq (gUt m g e j) * z j)=sm n (λj=>bq (g e j) * z j):=Du λj _=>by unfold gUt;rw[Av h1]
theorem rM{n nv:Nat}(h1:1<=n∧n<=4)(h2:1<=nv∧nv<=5)(g:Nat->Nat->Bool)(hg:∀v,v < nv->∃j,j < n∧g v j=true):
  ∃(X Y:Nat->Nat) (D:Nat),1<=D∧D<=3∧(∀v,Y v<=3)∧sm n (λj=>(X j:Rat))=sm nv (λv=>(Y v:Rat))∧
   (∃x∈Iz (Iu nv n g) 1,x.length=n∧∀j,j < n->Ee (atR x j)=true∧rv (atR x j)=(X j:Rat) / D)∧
   (∃y∈Iz (Iu n nv λj v=>g v j) (-1),y.length=nv∧∀v,v < nv->Ee (atR y v)=true∧rv (atR y v)=(Y v:Rat) / D):=by
 have hc:∀v,∃t,t < 2 ^ n∧∀j,j < n->t.testBit j=g v j:=λv=>Zt (g v) n
 obtain⟨typ,ht⟩:=EI hc
 have bqe:∀v (z:Nat->Rat),sm n (λj=>bq ((typ v).testBit j) * z j)=sm n (λj=>bq (g v j) * z j):=λv z=>Du λj hj=>by rw[(ht v).2 j hj]
 have bqv:∀j,j < n->∀z:Nat->Rat,sm nv (λv=>bq ((typ v).testBit j) * z v)=sm nv (λv=>bq (g v j) * z v):=λj hj z=>Du λv _=>by rw[(ht v).2 j hj]
 obtain⟨S,I,X,Y,D,nS,nI,lS,lI,e,d1,d2,x3,y3,xz,xe,xg,yz,ye,yl,sxy,k1,k2⟩:=basis (n:=n) (nv:=nv) h1.2 h2.1 typ (λv hv=>by
  refine⟨?_,(ht v).1⟩
  obtain⟨j,hj,hgj⟩:=hg v hv
  have:=(ht v).2 j hj
  rcases Bv (typ v)with h|h
  ·rw[h,Nat.zero_testBit,hgj]at this;cases this
  ·exact h)
 refine⟨X,Y,D,d1,d2,y3,sxy,?_,?_⟩
 ·obtain⟨x,hx,lx,vx⟩:=vtx (m:=nv) (n:=n) (g:=g) (sg:=1) (X:=λj=>(X j:Int)) (D:=(D:Int)) (.inl rfl) h2 ⟨h1.1,by omega⟩ (by omega) (by omega) (λj _=>⟨by have:=x3 j;omega,by omega⟩) (WI nv n I S) (λe he=>(PO.1 he).1) (fu nI lI nS lS e)
   (λz hz j hj=>k1 z (λj hj hjS=>by
    have:=hz (nv+j) (PO.2 ⟨by omega,by rw[At (by omega),show nv+j - nv=j by omega];exact hjS⟩)
    rw[Sh z (by omega) (by omega),show nv+j - nv=j by omega]at this;exact this) (λv hv=>by
    have:=hz v (PO.2 ⟨by have:=lI v hv;omega,by rw[Av (lI v hv)];exact hv⟩)
    rw[UH z (lI v hv),<-bqe]at this;exact this) j hj)
   (λe he=>by
    obtain⟨he1,he2⟩:=PO.1 he
    by_cases h:e < nv
    ·rw[Av h]at he2
     rw[UH _ h,Ai h,<-bqe]
     have:=xe e he2
     show sm n (λj=>bq ((typ e).testBit j) * (((X j:Nat):Int):Rat))=(((D:Nat):Int):Rat) * 1
     push_cast
     rw[this];grind
    ·rw[At h]at he2
     rw[Sh _ h he1,Ag h,xz (e - nv) (by omega) he2]
     show(((0:Nat):Int):Rat)=_ * (0:Rat)
     push_cast;grind)
   (λi hi=>by
    rw[Av rfl,<-bqe]
    have:=xg i hi
    push_cast at this⊢
    exact this)
  exact⟨x,hx,lx,λj hj=>⟨(vx j hj).1,by rw[(vx j hj).2];push_cast;rfl⟩⟩
 ·obtain⟨y,hy,ly,vy⟩:=vtx (m:=n) (n:=nv) (g:=λj v=>g v j) (sg:= -1) (X:=λv=>(Y v:Int)) (D:=(D:Int)) (.inr rfl) ⟨h1.1,by omega⟩ h2 (by omega) (by omega) (λv _=>⟨by have:=y3 v;omega,by omega⟩) (WI n nv S I) (λe he=>(PO.1 he).1) (fu nS lS nI lI e.symm)
   (λz hz v hv=>k2 z (λv hv hvI=>by
    have:=hz (n+v) (PO.2 ⟨by omega,by rw[At (by omega),show n+v - n=v by omega];exact hvI⟩)
    rw[Sh z (by omega) (by omega),show n+v - n=v by omega]at this;exact this) (λj hj=>by
    have:=hz j (PO.2 ⟨by have:=lS j hj;omega,by rw[Av (lS j hj)];exact hj⟩)
    rw[UH z (lS j hj),<-bqv j (lS j hj)]at this;exact this) v hv)
   (λe he=>by
    obtain⟨he1,he2⟩:=PO.1 he
    by_cases h:e < n
    ·rw[Av h]at he2
     rw[UH _ h,Ai h,<-bqv e h]
     have:=ye e he2
     show sm nv (λv=>bq ((typ v).testBit e) * (((Y v:Nat):Int):Rat))=(((D:Nat):Int):Rat) * 1
     push_cast
     rw[this];grind
    ·rw[At h]at he2
     rw[Sh _ h he1,Ag h,yz (e - n) (by omega) he2]
     show(((0:Nat):Int):Rat)=_ * (0:Rat)
     push_cast;grind)
   (λi hi=>by
    rw[At (by decide),<-bqv i hi]
    have:=yl i hi
    push_cast at this⊢
    exact this)
  exact⟨y,hy,ly,λv hv=>⟨(vy v hv).1,by rw[(vy v hv).2];push_cast;rfl⟩⟩
def Zq:List (zI×Nat):=[([0,0,0,0],1),([-2,1,1,1],1),([-1,-1,1,1],1),([-1,-1,1,2],1),([-1,-1,2,1],1),([-1,0,1,1],1),([-1,1,-1,1],1),([-1,1,-1,2],1),([-1,1,0,1],1),([-1,1,1,-1],1),([-1,1,1,0],1),([-1,1,1,1],1),([-1,1,1,1],2),([-1,1,1,2],1),([-1,1,1,2],2),([-1,1,2,-1],1),([-1,1,2,1],1),([-1,1,2,1],2),([-1,2,-1,1],1),([-1,2,1,-1],1),([-1,2,1,1],1),([-1,2,1,1],2),([0,-1,1,1],1),([0,0,0,1],1),([0,0,1,0],1),([0,0,1,1],1),([0,1,-1,1],1),([0,1,0,0],1),([0,1,0,1],1),([0,1,1,-1],1),([0,1,1,0],1),([0,1,1,1],1),([0,1,1,1],2),([1,-2,1,1],1),([1,-1,-1,1],1),([1,-1,-1,2],1),([1,-1,0,1],1),([1,-1,1,-1],1),([1,-1,1,0],1),([1,-1,1,1],1),([1,-1,1,1],2),([1,-1,1,2],1),([1,-1,1,2],2),([1,-1,2,-1],1),([1,-1,2,1],1),([1,-1,2,1],2),([1,0,-1,1],1),([1,0,0,0],1),([1,0,0,1],1),([1,0,1,-1],1),([1,0,1,0],1),([1,0,1,1],1),([1,0,1,1],2),([1,1,-2,1],1),([1,1,-1,-1],1),([1,1,-1,0],1),([1,1,-1,1],1),([1,1,-1,1],2),([1,1,-1,2],1),([1,1,-1,2],2),([1,1,0,-1],1),([1,1,0,0],1),([1,1,0,1],1),([1,1,0,1],2),([1,1,1,-2],1),([1,1,1,-1],1),([1,1,1,-1],2),([1,1,1,0],1),([1,1,1,0],2),([1,1,1,1],1),([1,1,1,1],2),([1,1,1,1],3),([1,1,1,2],2),([1,1,1,2],3),([1,1,2,-1],1),([1,1,2,-1],2),([1,1,2,1],2),([1,1,2,1],3),([1,2,-1,-1],1),([1,2,-1,1],1),([1,2,-1,1],2),([1,2,1,-1],1),([1,2,1,-1],2),([1,2,1,1],2),([1,2,1,1],3),([2,-1,-1,1],1),([2,-1,1,-1],1),([2,-1,1,1],1),([2,-1,1,1],2),([2,1,-1,-1],1),([2,1,-1,1],1),([2,1,-1,1],2),([2,1,1,-1],1),([2,1,1,-1],2),([2,1,1,1],2),([2,1,1,1],3),([0,0,0,1],0),([0,0,1,0],0),([0,1,0,0],0),([1,0,0,0],0),([0,0,1,-1],0),([1,-1,0,0],0),([0,1,-1,0],0),([0,1,0,-1],0),([1,0,-1,0],0),([1,0,0,-1],0),([0,1,-1,-1],0),([0,1,-1,1],0),([0,1,1,-1],0),([1,-1,-1,0],0),([1,-1,0,-1],0),([1,-1,0,1],0),([1,-1,1,0],0),([1,0,-1,-1],0),([1,0,-1,1],0),([1,0,1,-1],0),([1,1,-1,0],0),([1,1,0,-1],0),([1,-1,-1,1],0),([1,-1,1,-1],0),([1,1,-1,-1],0),([1,-2,-1,1],0),([1,-2,1,-1],0),([1,-2,1,1],0),([1,-1,-2,1],0),([1,-1,-1,-1],0),([1,-1,-1,2],0),([1,-1,1,-2],0),([1,-1,1,1],0),([1,-1,2,-1],0),([1,1,-2,-1],0),([1,1,-2,1],0),([1,1,-1,-2],0),([1,1,-1,1],0),([1,1,1,-2],0),([1,1,1,-1],0),([1,2,-1,-1],0),([2,-1,-1,-1],0),([2,-1,-1,1],0),([2,-1,1,-1],0),([2,1,-1,-1],0)]
def fE:zN:=[2787593149816248664529450519743451644297216,584974023113082023804035737321472,72755149233092369842111056808357826,1340868480385184270893476718952937422848,170101998594743772061947540419522094,103577880332976220435809511172807373979664,2107540921925639767208800376963375760167216,526773090048925198739050357422625501883904,88947082641867095153803317080312182,132760188569706271925080365234816353837192,1787526371805151333927411707284605243102248,898358799174596135523369918701861205002560,1099801644976558611130024266819936800773504,1592713137747967592871463081037278546642980,112389204843022254489814854104623557378628,2326228855346746379391132239917782458]
def iE:zN:=[1,633825300114114841485839958017,316912650057057350374310019073,3486039150629936837862770081793,158456325028528675187104677889,21074691228794315066520102764545,5545971375998503631549301260289,88947081209889588951140475483456513,79228162514264337593552338945,41277872669931720308448871579649,10537345614397156899941756436481,170101993408337893199870183086227713,1505335087771022414277393776641,72755142408686426956750646618882081,584941523842813604453143571070977,2787593149816327892691964784081045188247551]
def d4(t:Nat)(X:zI):Int:=cond (t.testBit 0) (X.getD 0 0) 0+cond (t.testBit 1) (X.getD 1 0) 0+cond (t.testBit 2) (X.getD 2 0) 0+cond (t.testBit 3) (X.getD 3 0) 0
def c0:zI×Nat:=([],0)
def ku(F:zN):Nat->Nat->Bool
 |0,s=>cond (Nat.beq s 0) false true
 |k+1,s=>F.all λf=>ku F k (Nat.land s f)
def u9(s:Nat):Nat:=((List.range 4).filter s.testBit).length
def fOk:Bool:=(List.range 16).all λt=>(List.range 141).all λi=>(fE.getD t 0).testBit i==decide (d4 t (Zq.getD i c0).1=((Zq.getD i c0).2:Int))
def iOk:Bool:=(List.range 16).all λs=>decide (iE.getD s 0 < 2 ^ 141)&&(List.range 141).all λi=> !(iE.getD s 0).testBit i || (List.range 4).all λj=>s.testBit j || decide ((Zq.getD i c0).1.getD j 0=0)
def zOk:Bool:=Zq.all λc=>(decide (c.2<=3)&&((List.range 4).all (λj=>decide ((c.1.getD j 0).natAbs<=2))&&((List.range 4).any (λj=>decide (c.1.getD j 0 < 0)) || decide (c.1.getD 0 0+c.1.getD 1 0+c.1.getD 2 0+c.1.getD 3 0<=(cond (c.2==1) 4 5:Int)))))&&(c.2 !=0 || (List.range 4).any λj=>decide (c.1.getD j 0≠0))
theorem f_all:fOk=true:=by kernel_rfl
theorem wY:iOk=true:=by kernel_rfl
theorem Aad:zOk=true:=by kernel_rfl
theorem dl:Zq.length=141∧fE.length=16:=⟨by kernel_rfl,by kernel_rfl⟩
theorem Aaa:((List.range 16).all λs=>ku fE (u9 s) (iE.getD s 0))=true:=by kernel_rfl
theorem Tu{F:zN}(hF:F≠[]):∀(k s:Nat),ku F k s=true->∀L:zN,L.length<=k->(∀f∈L,f∈F)->∃i,s.testBit i=true∧∀f∈L,f.testBit i=true
 |0,s,h,L,hl,_=>by
  have:L=[]:=A1 (by omega)
  subst this
  unfold ku at h
  have h0:s≠0:=λe=>by subst e;cases h
  obtain⟨i,hi⟩:=IF h0
  exact⟨i,hi,λf hf=>by cases hf⟩
 |k+1,s,h,L,hl,hL=>by
  unfold ku at h
  rw[Ah]at h
  cases L with
  |nil=>
   obtain⟨f,F',e⟩:=List.exists_cons_of_ne_nil hF
   obtain⟨i,hi,_⟩:=Tu hF k _ (h f (by rw[e];simp)) [] (by simp) (λf hf=>by cases hf)
   have:(s&&& f).testBit i=true:=hi
   rw[Nat.testBit_and,Aa]at this
   exact⟨i,this.1,λf hf=>by cases hf⟩
  |cons f L=>
   obtain⟨i,hi,g⟩:=Tu hF k _ (h f (hL f (by simp))) L (by simpa using hl) (λf hf=>hL f (by simp[hf]))
   have:(s&&& f).testBit i=true:=hi
   rw[Nat.testBit_and,Aa]at this
   refine⟨i,this.1,λf' hf'=>?_⟩
   rcases AB.1 hf' with rfl|hf'
   ·exact this.2
   ·exact g f' hf'
theorem kh{s:Nat}(hs:s < 16){L:zN}(hl:L.length<=u9 s)(hL:∀t∈L,t < 16):
  ∃(X:zI) (D:Nat),D<=3∧(∀j,j < 4->(X.getD j 0).natAbs<=2)∧((∀j,j < 4->0<=X.getD j 0)->X.getD 0 0+X.getD 1 0+X.getD 2 0+X.getD 3 0<=(cond (D==1) 4 5:Int))∧(D=0->∃j,j < 4∧X.getD j 0≠0)∧(∀j,j < 4->s.testBit j=false->X.getD j 0=0)∧∀t∈L,d4 t X=(D:Int):=by
 obtain⟨i,h1,h2⟩:=Tu (F:=fE) (λe=>by have:=dl.2;rw[e]at this;cases this) _ _ (Ah.1 Aaa s (Ao.2 hs)) (L.map λt=>fE.getD t 0) (by simpa using hl) (λf hf=>by
  obtain⟨t,ht,rfl⟩:=A3.1 hf
  exact getD_mem (by rw[dl.2];exact hL t ht))
 have hi:=wY
 unfold iOk at hi
 have hi:=Ah.1 hi s (Ao.2 hs)
 rw[Aa,AN,Ah]at hi
 have h141:i < 141:=by
  rcases A9 i 141 with h|h
  ·exact h
  ·have:=F5 (Bo hi.1 (Cr (by omega) h))
   rw[h1]at this;cases this
 have hmem:Zq.getD i c0∈Zq:=by
  rw[Af,Ac (by rw[dl.1];exact h141)];exact Aj _
 have hz:=Ah.1 Aad _ hmem
 rw[Aa,Aa,Aa,AN,BP,BP,AN]at hz
 refine⟨(Zq.getD i c0).1,(Zq.getD i c0).2,hz.1.1,λj hj=>Dj (Ah.1 hz.1.2.1 j (Ao.2 hj)),λhn=>?_,λh0=>?_,λj hj hsj=>?_,λt ht=>?_⟩
 ·rcases hz.1.2.2 with h|h
  ·obtain⟨j,hj,h⟩:=Bi.1 h
   have h:=Dj h
   have:=hn j (Ao.1 hj)
   omega
  ·exact h
 ·rcases hz.2 with h|h
  ·rw[h0]at h;cases h
  ·obtain⟨j,hj,h⟩:=Bi.1 h
   exact⟨j,Ao.1 hj,Dj h⟩
 ·have:=hi.2 i (Ao.2 h141)
  rw[h1,An,BZ,Ah]at this
  have:=this j (Ao.2 hj)
  rw[hsj,BZ]at this
  exact Dj this
 ·have hf:=f_all
  unfold fOk at hf
  have:=Ah.1 (Ah.1 hf t (Ao.2 (hL t ht))) i (Ao.2 h141)
  rw[Bc,h2 _ (CE ht)]at this
  exact Dj this.symm
theorem WJ{t:Nat}:∀{r fr:Nat}{c:zN},c∈Ny t r fr->c.Pairwise (· < ·)∧c.length=r∧∀e∈c,fr<=e∧e < t
 |0,fr,c,h=>by
  rw[Ny,AP]at h
  subst h
  exact⟨List.Pairwise.nil,rfl,λe he=>by cases he⟩
 |r+1,fr,c,h=>by
  rw[Ny,Cj]at h
  obtain⟨i,hi,h⟩:=h
  obtain⟨d,hd,rfl⟩:=A3.1 h
  obtain⟨a,b,g⟩:=WJ hd
  rw[IOQ]at hi
  refine⟨CK.2 ⟨λe he=>by have:=(g e he).1;omega,a⟩,by simp[b],λe he=>?_⟩
  rcases AB.1 he with rfl|he
  ·omega
  ·have:=g e he;omega
theorem Nh{p:LP}{sg:Int}{x:List Rt}(hx:x∈Iz p sg):∃c:zN,c.Pairwise (· < ·)∧c.length=p.2.2.length∧(∀e∈c,e < p.2.1.length+p.2.2.length)∧(KF (c.map (rowAt p)) (c.map (Dl p))).2=true∧Lh p (KF (c.map (rowAt p)) (c.map (Dl p))).1 sg=true∧x=(KF (c.map (rowAt p)) (c.map (Dl p))).1:=by
 have gen:∀(l:List zN) (out:Mx),x∈l.foldl (visit p sg) out->x∈out∨∃c∈l,(KF (c.map (rowAt p)) (c.map (Dl p))).2=true∧Lh p (KF (c.map (rowAt p)) (c.map (Dl p))).1 sg=true∧x=(KF (c.map (rowAt p)) (c.map (Dl p))).1:=λl=>by
  induction l with
  |nil=>intro out h;exact .inl h
  |cons c l ih=>
   intro out h
   rw[Cz]at h
   rcases ih _ h with h|⟨d,hd,h⟩
   ·unfold visit at h
    cases h1:(KF (c.map (rowAt p)) (c.map (Dl p))).2 with
    |false=>rw[h1]at h;exact .inl h
    |true=>
     cases h2:Lh p (KF (c.map (rowAt p)) (c.map (Dl p))).1 sg with
     |false=>rw[h1,h2]at h;exact .inl h
     |true=>
      rw[h1,h2,Ad,Ad]at h
      cases h3:out.any (· ==(KF (c.map (rowAt p)) (c.map (Dl p))).1)with
      |true=>rw[h3]at h;exact .inl h
      |false=>
       rw[h3,Ae]at h
       rcases Al.1 h with h|h
       ·exact .inl h
       ·exact .inr ⟨c,by simp,h1,h2,AP.1 h⟩
   ·exact .inr ⟨d,by simp[hd],h⟩
 unfold Iz at hx
 rcases gen _ _ hx with h|⟨c,hc,h1,h2,h3⟩
 ·cases h
 ·obtain⟨a,b,g⟩:=WJ hc
  exact⟨c,a,b,λe he=>(g e he).2,h1,h2,h3⟩
theorem wK(t:Nat)(X:zI):((d4 t X:Int):Rat)=sm 4 (λj=>bq (t.testBit j) * ((X.getD j 0:Int):Rat)):=by
 unfold d4
 simp only[sm]
 cases t.testBit 0<;>cases t.testBit 1<;>cases t.testBit 2<;>cases t.testBit 3<;>simp only[Ad,Ae,bq]<;>push_cast<;>grind
theorem cv{k:Nat}(h:k<=4):u9 (2 ^ k - 1)=k∧2 ^ k - 1 < 16:=by
 match k,h with
 |0,_=>decide
 |1,_=>decide
 |2,_=>decide
 |3,_=>decide
 |4,_=>decide
def X3(A:zN)(X:zI)(v:Nat):Int:=if v∈A then X.getD (A.idxOf v) 0 else 0
theorem Wg{A:zN}{X:zI}(hn:A.Nodup){m:Nat}(hm:m < A.length):X3 A X (A.getD m 0)=X.getD m 0:=by
 unfold X3
 rw[Av (getD_mem hm)]
 have:A.idxOf (A.getD m 0)=m:=by
  rw[Af,Ac hm]
  exact hn.idxOf_getElem _ _
 rw[this]
section
variable {m n:Nat}{g:Nat->Nat->Bool}
theorem iM{sg:Int}{x:List Rt}(hm:0 < m)(hn:n<=5)(hmn:m<=4∨n<=4)(hx:x∈Iz (Iu m n g) sg):∃(X:Nat->Int) (D:Nat),1<=D∧D<=3∧(∀j,j < n->rv (atR x j)=(X j:Rat) / D)∧(∀j,(X j).natAbs<=2)∧((∀j,j < n->0<=X j)->sm n (λj=>(X j:Rat))<=((cond (D==1) 4 5:Int):Rat)):=by
 obtain⟨e1,e2,e3⟩:=Kt (m:=m) (n:=n) (g:=g)
 obtain⟨c,cp,cl,clt,ok,-,rfl⟩:=Nh hx
 rw[e3]at cl
 rw[e2,e3]at clt
 have nc:c.Nodup:=cp.imp λh=>Nat.ne_of_lt h
 obtain⟨A,hA⟩:∃A,A=(List.range n).filter λj=> !decide (m+j∈c):=⟨_,rfl⟩
 have nA:A.Nodup:=by rw[hA];exact E4.filter _
 have lA:∀j∈A,j < n:=λj hj=>by rw[hA]at hj;exact Ao.1 (BE.1 hj).1
 have mA:∀j,j < n->(j∈A↔m+j∉c):=λj hj=>by rw[hA,BE];simp[hj]
 have hlen:(c.filter λe=>decide (e < m)).length=A.length:=by
  have nU:((c.filter λe=> !decide (e < m)).map (· - m)).Nodup:=by
   rw[DB,El]
   refine Ht (λ{a b} ha hb h=>?_) (cp.filter _)
   have ha':=(BE.1 ha).2
   have hb':=(BE.1 hb).2
   simp only[Ax,CI]at ha' hb'
   show a - m≠b - m
   omega
  have lU:∀v∈(c.filter λe=> !decide (e < m)).map (· - m),v < n:=λv hv=>by
   obtain⟨e,he,rfl⟩:=A3.1 hv
   have h1:=(BE.1 he).2
   have:=clt e (BE.1 he).1
   simp only[Ax,CI]at h1
   show e - m < n
   omega
  have cU:=Zr nU lU
  have eU:((List.range n).filter λv=>decide (v∈(c.filter λe=> !decide (e < m)).map (· - m)))=((List.range n).filter λv=>decide (m+v∈c)):=L4 λv hv=>by
   congr 1
   rw[A3]
   apply propext
   constructor
   ·rintro⟨e,he,rfl⟩
    obtain⟨h1,h2⟩:=BE.1 he
    simp only[Ax,CI]at h2
    show m+(e - m)∈c
    rw[show m+(e - m)=e by omega];exact h1
   ·intro h
    exact⟨m+v,BE.2 ⟨h,by simp⟩,by omega⟩
  rw[eU]at cU
  have q1:=Qy (λv=>decide (m+v∈c)) (List.range n)
  have q2:=Qy (λe=>decide (e < m)) c
  rw[cU,BV]at q1
  rw[Ak]at q1
  rw[hA]
  omega
 have k4:A.length<=4:=by
  rcases hmn with h|h
  ·have:=Zr (n:=m) (I:=c.filter λe=>decide (e < m)) (nc.filter _) (λv hv=>Dj (BE.1 hv).2)
   have l2:=Fj (λv=>decide (v∈c.filter λe=>decide (e < m))) (List.range m)
   rw[BV]at l2
   omega
  ·have l2:=Fj (λj=> !decide (m+j∈c)) (List.range n)
   rw[<-hA,BV]at l2
   omega
 have p16:(2:Nat) ^ A.length<=16:=BD (Cr (by omega) k4) (by decide)
 obtain⟨typ,ht⟩:=EI (λe=>Zt (λi=>g e (A.getD i 0)) A.length)
 obtain⟨X,D,dX,x2,xs,d0,sup,fit⟩:=kh (s:=2 ^ A.length - 1) (cv k4).2 (L:=(c.filter λe=>decide (e < m)).map typ) (by rw[(cv k4).1,Ak];omega) (λt ht'=>by
  obtain⟨e,_,rfl⟩:=A3.1 ht'
  have:=(ht e).1;omega)
 have sup':∀j,j < 4->A.length<=j->X.getD j 0=0:=λj hj h=>sup j hj (by rw[Nat.testBit_two_pow_sub_one];exact Ag (by omega))
 have rows:∀e∈c,sm n (λj=>bq (gUt m g e j) * ((X3 A X j:Int):Rat))=(D:Rat) * bq (decide (e < m)):=λe he=>by
  by_cases h:e < m
  ·rw[UH _ h,Ai h]
   have:=fit (typ e) (CE (BE.2 ⟨he,Ai h⟩))
   have e4:((d4 (typ e) X:Int):Rat)=(((D:Nat):Int):Rat):=by rw[this]
   rw[wK]at e4
   have cut:=Vw (f:=λj=>bq ((typ e).testBit j) * ((X.getD j 0:Int):Rat)) (n:=A.length) (λj hj=>by rw[di (ht e).1 hj];show(0:Rat) * _=0;grind) (4 - A.length)
   rw[show A.length+(4 - A.length)=4 by omega]at cut
   rw[cut]at e4
   rw[VO A nA lA (λj=>bq (g e j) * ((X3 A X j:Int):Rat)) (λv _ hv=>by unfold X3;rw[At hv];push_cast;grind),Du (g:=λj=>bq ((typ e).testBit j) * ((X.getD j 0:Int):Rat)) (λj hj=>by rw[(ht e).2 j hj,Wg nA hj]),e4]
   show _=(D:Rat) * 1
   push_cast;grind
  ·rw[Sh _ h (clt e he),Ag h]
   have:e - m∉A:=λhh=>(mA (e - m) (by have:=clt e he;omega)).1 hh (by rw[show m+(e - m)=e by omega];exact he)
   unfold X3
   rw[At this]
   show(((0:Int)):Rat)=_ * (0:Rat)
   push_cast;grind
 rcases choice (g:=g) hm hn cl with⟨h,_⟩|⟨_,_,_,u⟩
 ·rw[ok]at h;cases h
 ·have val:=u D _ rows
  have hD:1<=D:=by
   rcases Bv D with h|h
   ·exfalso
    obtain⟨j,hj,hj0⟩:=d0 h
    by_cases hjn:j < A.length
    ·have:=val (A.getD j 0) (lA _ (getD_mem hjn))
     rw[Wg nA hjn,h]at this
     have:((X.getD j 0:Int):Rat)=0:=by rw[this];push_cast;grind
     exact hj0 (by exact_mod_cast this)
    ·exact hj0 (sup' j hj (by omega))
   ·exact h
  refine⟨X3 A X,D,hD,dX,λj hj=>?_,λj=>?_,λhnn=>?_⟩
  ·have:=val j hj
   have rD:(D:Rat)≠0:=by
    intro h
    have:D=0:=by exact_mod_cast h
    omega
   grind
  ·unfold X3
   split
   ·rename_i h
    have:=D7 h
    exact x2 _ (by omega)
   ·decide
  ·have nn:=xs λj hj=>by
    by_cases hjn:j < A.length
    ·have:=hnn _ (lA _ (getD_mem hjn))
     rw[Wg nA hjn]at this;exact this
    ·rw[sup' j hj (by omega)];exact Int.le_refl _
   rw[VO A nA lA (λj=>((X3 A X j:Int):Rat)) (λv _ hv=>by unfold X3;rw[At hv];rfl),Du (g:=λj=>((X.getD j 0:Int):Rat)) (λj hj=>by rw[Wg nA hj])]
   have cut:=Vw (f:=λj=>if j < 4 then((X.getD j 0:Int):Rat)else 0) (n:=A.length) (λj hj=>by
    by_cases h4:j < 4
    ·rw[Av h4,sup' j h4 hj];rfl
    ·rw[At h4]) (4 - A.length)
   rw[show A.length+(4 - A.length)=4 by omega]at cut
   rw[Du (g:=λj=>if j < 4 then((X.getD j 0:Int):Rat)else 0) (λj hj=>by rw[Av (by omega)]),<-cut]
   simp only[sm]
   have:(((X.getD 0 0+X.getD 1 0+X.getD 2 0+X.getD 3 0:Int)):Rat)<=((cond (D==1) 4 5:Int):Rat):=by exact_mod_cast nn
   push_cast at this
   simp only[show(0:Nat) < 4 by decide,show(1:Nat) < 4 by decide,show(2:Nat) < 4 by decide,show(3:Nat) < 4 by decide,ER]
   grind
end
def Xt(n:Nat)(m:Mx):Prop:=∀r∈m,r.length<=n
theorem nP{p:LP}{sg:Int}{n:Nat}{out:Mx}{c:zN}(hc:c.length<=n)(h:Xt n out):Xt n (visit p sg out c):=by
 unfold visit
 cases hs:(KF (c.map (rowAt p)) (c.map (Dl p))).2 with
 |false=>exact h
 |true=>
  cases Lh p (KF (c.map (rowAt p)) (c.map (Dl p))).1 sg with
  |false=>exact h
  |true=>
   cases out.any (· ==(KF (c.map (rowAt p)) (c.map (Dl p))).1)with
   |true=>exact h
   |false=>
    intro r hr
    rcases Al.1 hr with hr|hr
    ·exact h r hr
    ·rw[AP]at hr
     subst hr
     rw[io (a:=c.map (rowAt p)) (b:=c.map (Dl p)) (x:=(KF (c.map (rowAt p)) (c.map (Dl p))).1) (by rw[<-hs]),Ak]
     exact hc
theorem fL{p:LP}{sg:Int}{n:Nat}:∀(l:List zN) (out:Mx),(∀c∈l,c.length<=n)->Xt n out->Xt n (l.foldl (visit p sg) out)
 |[],_,_,h=>h
 |c::l,out,hl,h=>fL l _ (λd hd=>hl d (AE _ hd)) (nP (hl c Bg) h)
theorem wS(p:LP):Xt 5 (QJ p)∧(QJ p).length<=161051:=by
 unfold QJ
 cases hv:OT p with
 |false=>exact⟨λr hr=>by simp at hr,by simp⟩
 |true=>
  obtain⟨h1,h2,h3,h4,h5,h6⟩:=K1 hv
  rw[Ad]
  unfold Iz
  refine⟨fL _ [] (λc hc=>by rw[(U0 hc).1];exact h2) (λr hr=>by simp at hr),?_⟩
  have h7:=Ss (f:=visit p 1) (λs x=>ST p 1 s x) (Ny (p.2.1.length+p.2.2.length) p.2.2.length 0) []
  have h8:=QR (t:=p.2.1.length+p.2.2.length) (by omega) p.2.2.length 0
  have h9:=cw h2
  refine BD h7 ?_
  simp only[Cg,CR]
  omega
def nbS(s:zI)(l:Mx)(b:Nat×List Rt)(k:Nat):Nat×List Rt:=cond (decide ((agB s (CX l k) b.2).1 < 0)) (k,CX l k) b
def nbB(s:zI)(l:Mx):Nat×List Rt:=(List.range' 1 (l.length - 1)).foldl (nbS s l) (0,CX l 0)
def bcB(q:NQ)(s:zI):List Rt×Bool:=cond (II q) (cond ((s.length:Int)!=(q.2.1.length:Int)) ([],false) (cond (s.all λe=>FI e 0 16) ((nbB s (QJ (MZ q))).2,true) ([],false))) ([],false)
def NbI(l:Mx)(b:Nat×List Rt):Prop:=b.1 < l.length∧CX l b.1=b.2
theorem l9{s:zI}{l:Mx}{b:Nat×List Rt}{k:Nat}(h:NbI l b)(hk:k < l.length):NbI l (nbS s l b k):=by
 unfold nbS
 cases decide ((agB s (CX l k) b.2).1 < 0)with
 |true=>exact⟨hk,rfl⟩
 |false=>exact h
theorem gG{s:zI}{l:Mx}:∀(ks:zN) (b:Nat×List Rt),(∀k∈ks,k < l.length)->NbI l b->NbI l (ks.foldl (nbS s l) b)
 |[],_,_,h=>h
 |k::ks,b,hk,h=>gG ks _ (λj hj=>hk j (AE _ hj)) (l9 h (hk k Bg))
theorem uN{s:zI}{l:Mx}(h:l≠[]):NbI l (nbB s l):=by
 have hp:0 < l.length:=Kq.2 h
 exact gG _ _ (λk hk=>by rw[IOQ]at hk;omega) ⟨hp,rfl⟩
theorem pY{l:Mx}{b:Nat×List Rt}(h:NbI l b):ZU l [Sum.inl b] []=true:=by
 unfold ZU
 rw[Ac h.1]
 simp only
 rw[GY h.1,h.2,Bu]
 rfl
section
variable {q:NQ}{s:zI}
theorem AaE(hq:US q)(hs:s.length<=lim):M5 q s=some (bcB q s):=by
 unfold M5 bcB
 rw[Wc hq]
 simp only[Ab]
 cases hv:II q with
 |false=>rfl
 |true=>
  obtain⟨h1,h2,h3,h4⟩:=Jf hv
  simp only[Ad,An,Ae]
  cases hl:((s.length:Int)!=(q.2.1.length:Int))with
  |true=>rfl
  |false=>
   rw[Ae,Ae,Gu (n:=s.length) (λk=>It s k λe=> !FI e 0 16) (([]:List Rt),false) hs (λk hk rec=>by
    show cond (decide ((k:Int) < (s.length:Int))) _ _=_
    rw[Br hk,Ad,Bd hk,Cu hk]
    simp only[Ab]
    rw[FN]
    simp only[Ab]
    rw[BG hk (Bq hs)]) (λrec=>by
    show cond (decide ((s.length:Int) < (s.length:Int))) _ _=_
    rw[Bm];rfl)]
   rw[Tp,not_any]
   cases ha:s.all (λe=>FI e 0 16)with
   |false=>rfl
   |true=>
    have hI:∀e∈s,e<=9223372036854775807:=λe he=>by
     have:=Ah.1 ha e he
     rw[Fq]at this;omega
    have hne:=wT hv
    have hp:0 < (QJ (MZ q)).length:=Kq.2 hne
    obtain⟨f1,f2⟩:=wS (MZ q)
    have hrl:∀k,k < (QJ (MZ q)).length->(CX (QJ (MZ q)) k).length<=lim:=λk hk=>by
     rw[<-GY hk]
     have:=f1 _ (Aj hk);unfold lim;omega
    simp only[An,Ae,Ab]
    rw[AaF hq]
    unfold cpB
    rw[hv,Ad]
    simp only
    rw[AaH (wJ hv)]
    simp only
    rw[show(((QJ (MZ q)).length:Int)==0)=false from by rw[Cn];omega,Ae,show AZ (BW 0 (QJ (MZ q))) 0=some (0,CX (QJ (MZ q)) 0)from Vc hp]
    simp only
    have hel:(BW 0 (QJ (MZ q))).length=(QJ (MZ q)).length:=Qo _ _
    rw[AX (by rw[hel];omega)]
    have hsl:Ef (BW 0 (QJ (MZ q))) 1 ((BW 0 (QJ (MZ q))).length:Int)=(BW 0 (QJ (MZ q))).drop 1:=by
     unfold Ef;rw[AL,BT];rfl
    have hloop:=Ep (B:=M6 s (QJ (MZ q))) (n:=(QJ (MZ q)).length - 1) (O:=Unit) (λ(b:Nat×List Rt) k=>(b,(k:Int))) (λ_ b=>NbI (QJ (MZ q)) b) (λk b=>.inl (nbS s (QJ (MZ q)) b (k+1))) (λo=>match o with|.inl b=>b|.inr _=>(0,[])) (by unfold lim;omega) (λrec k b hk hi=>by
     show cond (decide ((k:Int) < ((Ef (BW 0 (QJ (MZ q))) 1 ((BW 0 (QJ (MZ q))).length:Int)).length:Int))) _ _=_
     rw[hsl,Bt,hel,Br hk,Ad,show AZ ((BW 0 (QJ (MZ q))).drop 1) (k:Int)=some (k+1,CX (QJ (MZ q)) (k+1))from by
      rw[Qp,DF,Sr,Hw 1 k,Ac (by omega),GY (by omega),B8,CR]]
     simp only[Ab]
     rw[wX hs hI (hrl (k+1) (by omega)) (by rw[<-hi.2];exact hrl _ hi.1)]
     simp only[Ab]
     rw[<-n5]
     unfold nbS
     cases decide ((agB s (CX (QJ (MZ q)) (k+1)) b.2).1 < 0)with
     |true=>rw[Ad];unfold H7;rw[BG hk (by unfold maxLen;omega)];rfl
     |false=>rw[Ae];unfold H7;rw[BG hk (by unfold maxLen;omega)];rfl) (λrec b hi=>by
     show cond (decide ((((QJ (MZ q)).length - 1:Nat):Int) < ((Ef (BW 0 (QJ (MZ q))) 1 ((BW 0 (QJ (MZ q))).length:Int)).length:Int))) _ _=_
     rw[hsl,Bt,hel,Bm];rfl) (λk b b' hk hi hb=>by cases hb;exact l9 hi (by omega)) (0,CX (QJ (MZ q)) 0) ⟨hp,rfl⟩
    rw[show((0:Nat):Int)=0 from rfl]at hloop
    rw[hloop,Q6 (λb k=>nbS s (QJ (MZ q)) b (k+1))]
    simp only
    have hfold:(List.range' 0 ((QJ (MZ q)).length - 1)).foldl (λb k=>nbS s (QJ (MZ q)) b (k+1)) (0,CX (QJ (MZ q)) 0)=nbB s (QJ (MZ q)):=by
     unfold nbB
     have:List.range' 1 ((QJ (MZ q)).length - 1)=(List.range' 0 ((QJ (MZ q)).length - 1)).map (· +1):=by
      apply CD
      ·simp
      ·intro i h1 h2
       rw[Be,DR,DR];omega
     rw[this,List.foldl_map]
    rw[hfold,AX (pY (uN hne))]
    rfl
end
theorem ig{d:Int}{r:Rt}(hd:1<=d)(hr:Ee r=true):d ∣ YW d r∧r.2 ∣ YW d r∧1<=YW d r∧∀M,d ∣ M->r.2 ∣ M->YW d r ∣ M:=by
 have f:=Cd hr
 obtain⟨a,rfl⟩:∃n:Nat,d=(n:Int):=⟨d.toNat,by omega⟩
 obtain⟨b,hb⟩:∃m:Nat,r.2=(m:Int):=⟨r.2.toNat,by omega⟩
 have e:YW (a:Int) r=((Nat.lcm a b:Nat):Int):=by
  unfold YW
  rw[hb,Fh,Fh]
  have e1:Int.tdiv (a:Int) ((Nat.gcd a b:Nat):Int)=((a / Nat.gcd a b:Nat):Int):=rfl
  rw[e1]
  have:Nat.lcm a b=a / Nat.gcd a b * b:=by
   unfold Nat.lcm
   exact Nat.mul_div_right_comm (MI a b) b
  rw[this];push_cast;rfl
 rw[e,hb]
 refine⟨HR.2 (Nat.dvd_lcm_left a b),HR.2 (Nat.dvd_lcm_right a b),?_,λM h1 h2=>?_⟩
 ·have:0 < Nat.lcm a b:=Nat.lcm_pos (by omega) (by omega)
  omega
 ·rw[Int.ofNat_dvd_left]at h1 h2⊢
  exact Nat.lcm_dvd h1 h2
theorem ab:∀(l:List Rt) (d d':Int),1<=d->d<=1000->(∀r∈l,Ee r=true)->scD d l=some d'->1<=d'∧d'<=1000∧d ∣ d'∧∀r∈l,r.2 ∣ d'
 |[],d,d',h1,h2,_,h=>by
  unfold scD at h;cases h
  exact⟨h1,h2,Int.dvd_refl _,λr hr=>by cases hr⟩
 |r::l,d,d',h1,h2,hl,h=>by
  unfold scD at h
  obtain⟨a,b,c,_⟩:=ig h1 (hl r (by simp))
  by_cases hb:1000 < YW d r
  ·rw[Ai hb]at h;cases h
  ·rw[Ag hb,Ae]at h
   obtain⟨p,q,u,v⟩:=ab l _ d' c (by omega) (λx hx=>hl x (by simp[hx])) h
   refine⟨p,q,Int.dvd_trans a u,λx hx=>?_⟩
   rcases AB.1 hx with rfl|hx
   ·exact Int.dvd_trans b u
   ·exact v x hx
theorem cN:∀(l:List Rt) (d M:Int),1<=d->d ∣ M->1<=M->M<=1000->(∀r∈l,Ee r=true∧r.2 ∣ M)->∃d',scD d l=some d'∧d' ∣ M
 |[],d,M,h1,h2,_,_,_=>⟨d,by unfold scD;rfl,h2⟩
 |r::l,d,M,h1,h2,h3,h4,hl=>by
  obtain⟨a,b,c,u⟩:=ig h1 (hl r (by simp)).1
  have hM:=u M h2 (hl r (by simp)).2
  have:=Int.le_of_dvd (by omega) hM
  obtain⟨d',e1,e2⟩:=cN l (YW d r) M c hM h3 h4 (λx hx=>hl x (by simp[hx]))
  exact⟨d',by unfold scD;rw[Ag (by omega),Ae];exact e1,e2⟩
theorem qR{d:Int}{r:Rt}(h1:1<=d)(h2:d<=1000)(hr:Ee r=true)(hd:r.2 ∣ d):((scI d r:Int):Rat)=d * rv r:=by
 have f:=Cd hr
 obtain⟨k,hk⟩:=hd
 have kpos:1<=k:=by
  rcases(show k < 1∨1<=k by omega)with h|h
  ·have:r.2 * k<=0:=Int.mul_nonpos_of_nonneg_of_nonpos (by omega) (by omega)
   omega
  ·exact h
 have kle:k<=1000:=by
  have:1 * k<=r.2 * k:=Fz (by omega) (by omega)
  omega
 have e:scI d r=r.1 * k:=by
  unfold scI
  rw[hk,Hr _ (by omega)]
  have w1:wZ k=k:=wrap_in (by omega)
  rw[w1]
  have b:(r.1 * k).natAbs<=1000000000 * 1000:=by rw[BQ];exact BC f.2.2.1 (by omega)
  exact wrap_in (by omega)
 have:=SH (show r.2≠0 by omega)
 rw[e,hk]
 unfold rv;push_cast;grind
theorem gj{a:Rt}{z D:Int}(h:Yd a z D):a.2 ∣ D:=by
 have f:=Cd h.1
 have hc:Nat.Coprime a.1.natAbs a.2.natAbs:=f.2.2.2
 have e':a.1.natAbs * D.natAbs=z.natAbs * a.2.natAbs:=by rw[<-BQ,<-BQ,h.2]
 exact Int.natAbs_dvd_natAbs.1 (hc.symm.dvd_of_dvd_mul_left ⟨z.natAbs,by rw[e',C6]⟩)
theorem gx{l:List Rt}{r:Rt}(h:r∈l):∃k,k < l.length∧atR l k=r:=by
 obtain⟨i,hi,rfl⟩:=BO h
 exact⟨i,hi,by unfold atR;rw[Af,Ac hi];rfl⟩
theorem eX{l:List Rt}{k:Nat}(h:k < l.length):atR l k∈l:=by
 unfold atR;rw[Af,Ac h];exact Aj _
theorem SO{w:List Rt}(h:(FM w).2≠0):1<=(FM w).2∧(FM w).2<=1000∧(FM w).1.length=w.length∧(∀r∈w,Ee r=true∧0<=r.1)∧∀k,k < w.length->(((FM w).1.getD k 0:Int):Rat)=((FM w).2:Rat) * rv (atR w k):=by
 unfold FM at h⊢
 cases hs:Oe 1 w with
 |inr o=>
  exfalso
  rw[hs]at h
  unfold Oe at hs
  cases hb:B9 w λ_ r=> !Ps r with
  |true=>rw[hb]at hs;cases hs;exact h rfl
  |false=>
   rw[hb,Ae]at hs
   cases hd:scD 1 w with
   |none=>rw[hd]at hs;cases hs;exact h rfl
   |some d=>rw[hd]at hs;cases hs
 |inl d=>
  have hok:=Xy hs
  have hok2:∀r∈w,Ee r=true∧0<=r.1:=λr hr=>by
   have:=hok r hr
   unfold Ps at this
   rw[Aa,AN]at this
   exact this
  unfold Oe at hs
  cases hb:B9 w λ_ r=> !Ps r with
  |true=>rw[hb]at hs;cases hs
  |false=>
   rw[hb,Ae]at hs
   cases hd:scD 1 w with
   |none=>rw[hd]at hs;cases hs
   |some d'=>
    rw[hd]at hs;cases hs
    obtain⟨p,q,_,u⟩:=ab w 1 d (by decide) (by decide) (λr hr=>(hok2 r hr).1) hd
    refine⟨p,q,by simp,hok2,λk hk=>?_⟩
    have hm:=eX hk
    have e:(w.map (scI d)).getD k 0=scI d (atR w k):=by
     unfold atR
     rw[Af,AW,Ac hk,Af,Ac hk];rfl
    show(((w.map (scI d)).getD k 0:Int):Rat)=_
    rw[e]
    exact qR p q (hok2 _ hm).1 (u _ hm)
theorem cO{w:List Rt}{M:Int}(h1:1<=M)(h2:M<=1000)(h:∀r∈w,Ee r=true∧0<=r.1∧r.2 ∣ M):(FM w).2≠0∧(FM w).2 ∣ M:=by
 obtain⟨d,e,dv⟩:=cN w 1 M (by decide) (Int.one_dvd _) h1 h2 (λr hr=>⟨(h r hr).1,(h r hr).2.2⟩)
 have hb:B9 w (λ_ r=> !Ps r)=false:=Kg λi hi=>by
  have:=h _ (Aj hi)
  unfold Ps
  rw[this.1,Ai this.2.1];rfl
 have es:FM w=(w.map (scI d),d):=by
  unfold FM Oe
  rw[hb,Ae,e]
 rw[es]
 have:=ab w 1 d (by decide) (by decide) (λr hr=>(h r hr).1) e
 exact⟨by show d≠0;omega,dv⟩
theorem dk{v:Nat}(h:v < 10 ^ 60):cap v=some v:=by unfold cap;rw[Av h]
theorem mJ{n:Nat}(hn:1<=n):∀(k acc:Nat),acc * n ^ k < 10 ^ 60->pwA n acc k=some (acc * n ^ k)
 |0,acc,_=>by rw[pwA,Je,Me]
 |k+1,acc,h=>by
  have e:acc * n ^ (k+1)=acc * n * n ^ k:=by rw[CQ,C6 (n ^ k) n,DU]
  rw[e]at h⊢
  have:acc * n<=acc * n * n ^ k:=EJ _ (Iy (by omega))
  rw[pwA,dk (by omega)]
  exact mJ hn k _ h
theorem gN{n k:Nat}(hk:k<=100)(h0:n=0->1<=k)(h:n ^ k < 10 ^ 60):Nv (n:Int) (k:Int)=some (n ^ k):=by
 unfold Nv
 rw[Ag (by omega),Ae,(Fq (x:=(k:Int)) (lo:=0) (hi:=100)).2 (by omega),Ad,AL,AL]
 rcases Bv n with hn|hn
 ·subst hn
  have hz:∀(k acc:Nat),1<=k->pwA 0 acc k=some 0:=λk=>by
   induction k with
   |zero=>intro acc h;omega
   |succ k ih=>
    intro acc _
    rw[pwA,Nat.mul_zero,dk (by decide)]
    cases k with
    |zero=>rfl
    |succ k=>exact ih 0 (by omega)
  rw[hz k 1 (h0 rfl),Nat.zero_pow (by have:=h0 rfl;omega)]
 ·rw[mJ hn k 1 (by rw[Dn];exact h),Dn]
def prN(l:List (Nat×Nat)):Nat:=l.foldr (λp v=>p.1 ^ p.2 * v) 1
theorem gP:∀(l:List (Nat×Nat)),(∀p∈l,1<=p.1)->1<=prN l
 |[],_=>by decide
 |p::l,h=>Nat.mul_pos (Iy (h p (by simp))) (gP l λq hq=>h q (by simp[hq]))
theorem mD:∀(l:List (Nat×Nat)) (v:Nat),(∀p∈l,1<=p.1∧p.2<=100)->1<=v->v * prN l < 10 ^ 60->prO v (l.map λp=>((p.1:Int),(p.2:Int)))=some (v * prN l)
 |[],v,_,_,_=>by
  show prO v []=some (v * 1)
  rw[prO,Me]
 |p::l,v,h,hv,hb=>by
  have hp:=h p (by simp)
  have e:v * prN (p::l)=v * p.1 ^ p.2 * prN l:=by show v * (p.1 ^ p.2 * prN l)=_;rw[DU]
  rw[e]at hb⊢
  have pl:=gP l λq hq=>(h q (by simp[hq])).1
  have pp:1<=p.1 ^ p.2:=Iy hp.1
  have b1:v * p.1 ^ p.2<=v * p.1 ^ p.2 * prN l:=EJ _ pl
  have b2:p.1 ^ p.2<=v * p.1 ^ p.2:=F4 _ hv
  rw[AC,prO,gN hp.2 (by omega) (by omega)]
  simp only
  rw[dk (by omega)]
  exact mD l _ (λq hq=>h q (by simp[hq])) (Nat.mul_pos hv pp) hb
theorem iu(f:Nat->Nat->Rat)(n:Nat):∀m,sm m (λi=>sm n (λj=>f i j))=sm n (λj=>sm m (λi=>f i j))
 |0=>by rw[sm];exact(SP λj _=>rfl).symm
 |m+1=>by
  rw[sm,iu f n m]
  have e:∀k,sm k (λj=>sm m (λi=>f i j))+sm k (λj=>f m j)=sm k (λj=>sm (m+1) (λi=>f i j)):=λk=>by
   induction k with
   |zero=>simp only[sm];grind
   |succ k ih=>rw[sm,sm,sm,<-ih];simp only[sm];grind
  exact e n
theorem Vx(c:Rat)(f:Nat->Rat):∀n,sm n (λj=>c * f j)=c * sm n f
 |0=>by simp only[sm];grind
 |n+1=>by rw[sm,sm,Vx c f n];grind
theorem iq{f g:Nat->Rat}:∀{n:Nat},(∀j,j < n->f j<=g j)->sm n f<=sm n g
 |0,_=>by simp only[sm];exact Kj
 |n+1,h=>by
  have a:=iq (n:=n) λj hj=>h j (by omega)
  have b:=h n (by omega)
  simp only[sm];grind
theorem sB{r:Rt}(h:Ee r=true)(h0:0<=r.1):0<=rv r:=by
 have f:=Cd h
 have p:(0:Rat) < (r.2:Rat):=by exact_mod_cast (show 0 < r.2 by omega)
 have q:(0:Rat)<=(r.1:Rat):=by exact_mod_cast h0
 have e:rv r * r.2=r.1:=by unfold rv;grind
 rcases Rat.le_total (a:=0) (b:=rv r)with h|h
 ·exact h
 ·have:=Er h (Hy p)
  have e0:(r.1:Rat)=0:=by grind
  have:rv r=0:=by unfold rv;rw[e0];grind
  rw[this];exact Kj
def Yc(b:Nat)(σ e:zN):List (Nat×Nat):=(σ.zip e).map λp=>(b ^ p.1,p.2)
def Ou:zN->zN->Nat
 |x::xs,y::ys=>x * y+Ou xs ys
 |_,_=>0
theorem Z5(b:Nat):∀(σ e:zN),prN (Yc b σ e)=b ^ Ou σ e
 |[],_=>rfl
 |_::_,[]=>rfl
 |x::xs,y::ys=>by
  show(b ^ x) ^ y * prN (Yc b xs ys)=_
  rw[Z5 b xs ys,Ou,Mf,Nat.pow_mul]
theorem mC{B K:Nat}:∀(l:List (Nat×Nat)),(∀p∈l,1<=p.1∧p.1<=B∧p.2<=K)->prN l<=B ^ (K * l.length)
 |[],_=>AT _
 |p::l,h=>by
  have hp:=h p (by simp)
  have ih:=mC l λq hq=>h q (by simp[hq])
  have a:p.1 ^ p.2<=B ^ K:=BD (HN hp.2.1 _) (Cr (by omega) hp.2.2)
  show p.1 ^ p.2 * prN l<=_
  rw[AQ,Nat.mul_add,Me,Hw,Mf]
  exact BC a ih
theorem iQ(b:Nat):∀(σ e:zN),(σ.map λx=>((b ^ x:Nat):Int)).zip (e.map λ(x:Nat)=>(x:Int))=(Yc b σ e).map λp=>((p.1:Int),(p.2:Int))
 |[],_=>rfl
 |_::_,[]=>rfl
 |x::xs,y::ys=>by
  have:=iQ b xs ys
  unfold Yc at this⊢
  simp only[AC,K9,this]
theorem Z4{b:Nat}{σ e:zN}(hb:1<=b)(hl:σ.length=e.length)(h16:∀x∈σ,b ^ x<=16)(he:∀x∈e,x<=6)(h4:σ.length<=4):
  Q4 (σ.map λx=>((b ^ x:Nat):Int)) (e.map λ(x:Nat)=>(x:Int))=some (b ^ Ou σ e)∧b ^ Ou σ e < 10 ^ 60:=by
 have hz:=iQ b σ e
 have hm:∀p∈Yc b σ e,1<=p.1∧p.1<=16∧p.2<=6:=λp hp=>by
  unfold Yc at hp
  obtain⟨q,hq,rfl⟩:=A3.1 hp
  have h1:=(List.of_mem_zip hq).1
  have h2:=(List.of_mem_zip hq).2
  exact⟨Iy (by omega),h16 _ h1,he _ h2⟩
 have hb60:prN (Yc b σ e) < 10 ^ 60:=by
  have:=mC (B:=16) (K:=6) _ hm
  have l4:(Yc b σ e).length<=4:=by unfold Yc;simp;omega
  have:(16:Nat) ^ (6 * (Yc b σ e).length)<=16 ^ 24:=Cr (by decide) (by omega)
  have:(16:Nat) ^ 24 < 10 ^ 60:=by decide
  omega
 refine⟨?_,by rw[<-Z5];exact hb60⟩
 unfold Q4
 have:(((σ.map λx=>((b ^ x:Nat):Int)).length:Int)!=((e.map λ(x:Nat)=>(x:Int)).length:Int))=false:=by simp[hl]
 rw[this,Ae,hz,mD _ 1 (λp hp=>⟨(hm p hp).1,by have:=(hm p hp).2.2;omega⟩) (by decide) (by rw[Dn];exact hb60),Dn,Z5]
theorem fC:∀(σ e:zN),σ.length=e.length->((Ou σ e:Nat):Rat)=sm σ.length (λj=>((σ.getD j 0:Nat):Rat) * ((e.getD j 0:Nat):Rat))
 |[],[],_=>rfl
 |x::xs,y::ys,h=>by
  rw[Ou,AQ,R6]
  have:=fC xs ys (by simpa using h)
  push_cast
  rw[this]
  rfl
def Ev(σ:zN)(n:Nat)(x:List Rt):Rat:=sm n (λj=>((σ.getD j 0:Nat):Rat) * rv (atR x j))
theorem WM(k:Nat):∀(σ e:zN),Ou σ (e.map (· * k))=Ou σ e * k
 |[],_=>by simp[Ou]
 |_::_,[]=>by simp[Ou]
 |x::xs,y::ys=>by
  rw[AC,Ou,Ou,WM k xs ys,C4,DU]
section
variable {n nv:Nat}{g:Nat->Nat->Bool}
theorem corner(h1:1<=n∧n<=4)(h2:1<=nv∧nv<=5){x:List Rt}(hx:x∈Iz (Iu nv n g) 1):∃(e:zN) (d:Nat),1<=d∧d<=3∧e.length=n∧(∀y∈e,y<=2)∧FM x=(e.map λ(y:Nat)=>(y:Int),(d:Int))∧∀j,j < n->((e.getD j 0:Nat):Rat)=(d:Rat) * rv (atR x j):=by
 obtain⟨c,_,_,_,_,hside,he⟩:=Nh hx
 rw[<-he]at hside
 obtain⟨lx,ox,-⟩:=Li (.inl rfl) hside
 obtain⟨X,D,d1,d3,vx,x2,-⟩:=iM (by omega) (by omega) (.inr h1.2) hx
 have rD:=SH (show(D:Int)≠0 by omega)
 have isq:∀j,j < n->Yd (atR x j) (X j) D:=λj hj=>Pj (by omega) (ox j hj).1 (by rw[vx j hj];push_cast;rfl)
 obtain⟨hd,dv⟩:=cO (w:=x) (M:=(D:Int)) (by omega) (by omega) (λr hr=>by
  obtain⟨k,hk,rfl⟩:=gx hr
  exact⟨(ox k (by omega)).1,(ox k (by omega)).2,gj (isq k (by omega))⟩)
 obtain⟨p,q,l,_,v⟩:=SO hd
 have hle:=Int.le_of_dvd (show(0:Int) < D by omega) dv
 have val:∀j,j < n->0<=(FM x).1.getD j 0∧(FM x).1.getD j 0<=2:=λj hj=>by
  have e:=v j (by omega)
  rw[vx j hj]at e
  have e2:(((FM x).1.getD j 0 * (D:Int):Int):Rat)=(((FM x).2 * X j:Int):Rat):=by push_cast at *;rw[e];grind
  have e3:(FM x).1.getD j 0 * (D:Int)=(FM x).2 * X j:=by exact_mod_cast e2
  have nn:0<=X j:=by
   have q1:=(isq j hj).2
   have f:=Cd (ox j hj).1
   have:0<=X j * (atR x j).2:=by rw[<-q1];exact Ff (ox j hj).2 (by omega)
   exact Eu this (by omega)
  have x2j:=x2 j
  refine⟨?_,?_⟩
  ·have:0<=(FM x).1.getD j 0 * (D:Int):=by rw[e3];exact Ff (by omega) nn
   exact Eu this (by omega)
  ·have:(FM x).1.getD j 0 * (D:Int)<=2 * D:=by
    rw[e3]
    have a:=Fz hle nn
    have b:=Int.mul_le_mul_of_nonneg_left (show X j<=2 by omega) (show(0:Int)<=D by omega)
    omega
   exact Int.le_of_mul_le_mul_right this (by omega)
 refine⟨(FM x).1.map Int.toNat,(FM x).2.toNat,by omega,by omega,by simp;omega,λy hy=>?_,?_,λj hj=>?_⟩
 ·obtain⟨z,hz,rfl⟩:=A3.1 hy
  obtain⟨i,hi,rfl⟩:=BO hz
  have:=(val i (by omega)).2
  rw[Af,Ac hi]at this
  have:(FM x).1[i]<=2:=this
  omega
 ·refine Prod.ext ?_ (by show(FM x).2=(((FM x).2.toNat:Nat):Int);omega)
  show(FM x).1=_
  rw[C0]
  refine(CD (by simp) λi hi hi2=>?_)
  rw[Be]
  have:=(val i (by omega)).1
  rw[Af,Ac hi]at this
  have:0<=(FM x).1[i]:=this
  show(FM x).1[i]=(((FM x).1[i].toNat:Nat):Int)
  omega
 ·have hj':j < (FM x).1.length:=by omega
  have e:=v j (by omega)
  have nn:=(val j hj).1
  rw[Af,Ac hj']at e nn
  rw[Af,AW,Ac hj']
  have e':(((FM x).1[j]:Int):Rat)=((FM x).2:Rat) * rv (atR x j):=e
  have nn':0<=(FM x).1[j]:=nn
  show((((FM x).1[j].toNat:Nat)):Rat)=(((FM x).2.toNat:Nat):Rat) * _
  have a1:(((FM x).1[j].toNat:Nat):Rat)=(((FM x).1[j]:Int):Rat):=by
   have:(((FM x).1[j].toNat:Nat):Int)=(FM x).1[j]:=by omega
   exact_mod_cast congrArg (λz:Int=>(z:Rat)) this
  have a2:(((FM x).2.toNat:Nat):Rat)=(((FM x).2:Int):Rat):=by
   have:(((FM x).2.toNat:Nat):Int)=(FM x).2:=by omega
   exact_mod_cast congrArg (λz:Int=>(z:Rat)) this
  rw[a1,a2,e']
theorem c9{σ e:zN}{d:Nat}{x:List Rt}(hσ:σ.length=n)(he:e.length=n)(hv:∀j,j < n->((e.getD j 0:Nat):Rat)=(d:Rat) * rv (atR x j)):((Ou σ e:Nat):Rat)=(d:Rat) * Ev σ n x:=by
 rw[fC σ e (by omega),hσ]
 unfold Ev
 rw[<-Vx]
 exact Du λj hj=>by rw[hv j hj];grind
theorem kT(m n:Nat):decide (X1 m n < 0)=decide (m < n):=by
 unfold X1
 rcases FG m n with h|h|h
 ·rw[Ai h];rfl
 ·subst h;rw[Ag (by omega:¬m < m)];rfl
 ·rw[Ag (by omega:¬m < n),Ai h];rfl
theorem sR(h1:1<=n∧n<=4)(h2:1<=nv∧nv<=5){b:Nat}{σ:zN}(hb:2<=b)(hσ:σ.length=n)(h16:∀x∈σ,b ^ x<=16){x y:List Rt}(hx:x∈Iz (Iu nv n g) 1)(hy:y∈Iz (Iu nv n g) 1):
  decide ((agB (σ.map λz=>((b ^ z:Nat):Int)) x y).1 < 0)=decide (Ev σ n x < Ev σ n y):=by
 obtain⟨e,d,d1,d3,le,e2,es,ev⟩:=corner h1 h2 hx
 obtain⟨e',d',d1',d3',le',e2',es',ev'⟩:=corner h1 h2 hy
 have lx:x.length=n:=by
  obtain⟨c,_,_,_,_,hside,he⟩:=Nh hx
  rw[<-he]at hside;exact(Li (.inl rfl) hside).1
 have ly:y.length=n:=by
  obtain⟨c,_,_,_,_,hside,he⟩:=Nh hy
  rw[<-he]at hside;exact(Li (.inl rfl) hside).1
 have sc:∀(e:zN) (d:Nat),(∀z∈e,z<=2)->d<=3->scM (e.map λ(z:Nat)=>(z:Int)) (d:Int)=(e.map (· * d)).map λ(z:Nat)=>(z:Int):=λe d h hd=>by
  unfold scM
  rw[C0,C0]
  refine Ca λz hz=>?_
  have:=h z hz
  show wZ ((z:Int) * (d:Int))=((z * d:Nat):Int)
  have l:z * d<=2 * 3:=BC this hd
  rw[show(z:Int) * (d:Int)=((z * d:Nat):Int)by push_cast;rfl]
  exact wrap_in (by omega)
 have six:∀(e:zN) (d:Nat),(∀z∈e,z<=2)->d<=3->∀z∈e.map (· * d),z<=6:=λe d h hd z hz=>by
  obtain⟨w,hw,rfl⟩:=A3.1 hz
  have l:w * d<=2 * 3:=BC (h w hw) hd
  omega
 obtain⟨p1,-⟩:=Z4 (b:=b) (σ:=σ) (e:=e.map (· * d')) (by omega) (by simp;omega) h16 (six e d' e2 d3') (by omega)
 obtain⟨p2,-⟩:=Z4 (b:=b) (σ:=σ) (e:=e'.map (· * d)) (by omega) (by simp;omega) h16 (six e' d e2' d3) (by omega)
 have ea:agB (σ.map λz=>((b ^ z:Nat):Int)) x y=(X1 (b ^ (Ou σ e * d')) (b ^ (Ou σ e' * d)),true):=by
  unfold agB
  rw[es,es']
  simp only
  rw[show((d:Int)==0)=false by simp;omega,show((d':Int)==0)=false by simp;omega,Ae,Ae]
  rw[show(x.length !=(σ.map λz=>((b ^ z:Nat):Int)).length)=false by simp;omega,show(y.length !=(σ.map λz=>((b ^ z:Nat):Int)).length)=false by simp;omega,Ae,Ae,sc e d' e2 d3',sc e' d e2' d3,p1,p2]
  simp only
  rw[WM,WM]
 rw[ea]
 have c1:=c9 (σ:=σ) hσ le ev
 have c2:=c9 (σ:=σ) hσ le' ev'
 have pd:(0:Rat) < (d:Rat):=by exact_mod_cast d1
 have pd':(0:Rat) < (d':Rat):=by exact_mod_cast d1'
 have key:b ^ (Ou σ e * d') < b ^ (Ou σ e' * d)↔Ev σ n x < Ev σ n y:=by
  rw[Nat.pow_lt_pow_iff_right (by omega)]
  have k1:(((Ou σ e * d':Nat)):Rat)=((d:Rat) * d') * Ev σ n x:=by push_cast;rw[c1];grind
  have k2:(((Ou σ e' * d:Nat)):Rat)=((d:Rat) * d') * Ev σ n y:=by push_cast;rw[c2];grind
  have pp:=Rat.mul_pos pd pd'
  constructor
  ·intro h
   have:(((Ou σ e * d':Nat)):Rat) < (((Ou σ e' * d:Nat)):Rat):=by exact_mod_cast h
   rw[k1,k2]at this
   exact Rat.lt_of_mul_lt_mul_left this (Hy pp)
  ·intro h
   have:=Rat.mul_lt_mul_of_pos_left h pp
   rw[<-k1,<-k2]at this
   exact_mod_cast this
 show decide (X1 (b ^ (Ou σ e * d')) (b ^ (Ou σ e' * d)) < 0)=_
 rw[kT]
 exact JK.2 key
theorem uU{P:Mx}(hP:P≠[]){s:zI}(E:List Rt->Rat)(h:∀x∈P,∀y∈P,decide ((agB s x y).1 < 0)=decide (E x < E y)):(nbB s P).2∈P∧∀x∈P,E (nbB s P).2<=E x:=by
 have hp:0 < P.length:=Kq.2 hP
 have am:∀k,k < P.length->CX P k∈P:=λk hk=>by rw[<-GY hk];exact Aj _
 have gen:∀(j k:Nat) (b:Nat×List Rt),k+j=P.length->b.2∈P->(∀i,i < k->E b.2<=E (CX P i))->((List.range' k j).foldl (nbS s P) b).2∈P∧∀i,i < P.length->E ((List.range' k j).foldl (nbS s P) b).2<=E (CX P i):=λj=>by
  induction j with
  |zero=>intro k b hk hb hi;exact⟨hb,λi hi'=>hi i (by omega)⟩
  |succ j ih=>
   intro k b hk hb hi
   rw[Db,Cz]
   have hs:=h _ (am k (by omega)) _ hb
   unfold nbS
   rw[hs]
   by_cases hlt:E (CX P k) < E b.2
   ·rw[Ai hlt,Ad]
    exact ih (k+1) _ (by omega) (am k (by omega)) (λi hik=>by
     by_cases e:i=k
     ·rw[e];exact Kj
     ·have:=hi i (by omega)
      exact Hz (Hy hlt) this)
   ·rw[Ag hlt,Ae]
    exact ih (k+1) _ (by omega) hb (λi hik=>by
     by_cases e:i=k
     ·rw[e];exact Rat.not_lt.1 hlt
     ·exact hi i (by omega))
 unfold nbB
 obtain⟨a,c⟩:=gen (P.length - 1) 1 (0,CX P 0) (by omega) (am 0 hp) (λi hi=>by rw[show i=0 by omega];exact Kj)
 refine⟨a,λx hx=>?_⟩
 obtain⟨i,hi,rfl⟩:=BO hx
 rw[GY hi];exact c i hi
end
section
variable {n nv:Nat}{g:Nat->Nat->Bool}
theorem iO(h1:1<=n∧n<=4)(h2:1<=nv∧nv<=5){y:List Rt}(hy:y∈Iz (Iu n nv λj v=>g v j) (-1)){ν:zN}{den:Nat}(hs:FM y=(ν.map λ(z:Nat)=>(z:Int),(den:Int)))(hd:1<=den):
  y.length=nv∧ν.length=nv∧den<=3∧(∀v,v < nv->((ν.getD v 0:Nat):Rat)=(den:Rat) * rv (atR y v)∧0<=rv (atR y v))∧(∀j,j < n->sm nv (λv=>bq (g v j) * rv (atR y v))<=1)∧sm nv (λv=>((ν.getD v 0:Nat):Rat))<=5:=by
 obtain⟨c,_,_,_,_,hside,he⟩:=Nh hy
 rw[<-he]at hside
 obtain⟨ly,oy,sy⟩:=Li (.inr rfl) hside
 obtain⟨X,D,d1,d3,vy,x2,xs⟩:=iM (m:=n) (n:=nv) (by omega) h2.2 (.inl h1.2) hy
 have isq:∀j,j < nv->Yd (atR y j) (X j) D:=λj hj=>Pj (by omega) (oy j hj).1 (by rw[vy j hj];push_cast;rfl)
 obtain⟨hd0,dv⟩:=cO (w:=y) (M:=(D:Int)) (by omega) (by omega) (λr hr=>by
  obtain⟨k,hk,rfl⟩:=gx hr
  exact⟨(oy k (by omega)).1,(oy k (by omega)).2,gj (isq k (by omega))⟩)
 obtain⟨p,q,l,_,v⟩:=SO hd0
 rw[hs]at dv l v
 have dv':((den:Nat):Int) ∣ (D:Int):=dv
 have dvn:den ∣ D:=HR.1 dv'
 have hle:=Mt (by omega) dvn
 have lν:ν.length=nv:=by rw[<-ly,<-l];simp
 have val:∀v',v' < nv->((ν.getD v' 0:Nat):Rat)=(den:Rat) * rv (atR y v'):=λv' hv'=>by
  have e:=v v' (by omega)
  have e2:(ν.map λ(z:Nat)=>(z:Int)).getD v' 0=((ν.getD v' 0:Nat):Int):=by
   rw[Af,AW,Ac (by omega),Af,Ac (by omega)];rfl
  have e3:(((ν.map λ(z:Nat)=>(z:Int)).getD v' 0:Int):Rat)=(((den:Nat):Int):Rat) * rv (atR y v'):=e
  rw[e2]at e3
  push_cast at e3
  exact e3
 have nn:∀v',v' < nv->0<=rv (atR y v'):=λv' hv'=>sB (oy v' hv').1 (oy v' hv').2
 refine⟨ly,lν,by omega,λv' hv'=>⟨val v' hv',nn v' hv'⟩,λj hj=>?_,?_⟩
 ·have:=sy j hj
  rw[At (by decide)]at this
  exact this
 ·have hX:∀j,j < nv->0<=X j:=λj hj=>by
   have q1:=(isq j hj).2
   have f:=Cd (oy j hj).1
   have:0<=X j * (atR y j).2:=by rw[<-q1];exact Ff (oy j hj).2 (by omega)
   exact Eu this (by omega)
  have b5:sm nv (λj=>(X j:Rat))<=5:=by
   have:=xs hX
   have h5:((cond (D==1) 4 5:Int):Rat)<=5:=by
    cases D==1
    ·show(((5:Int)):Rat)<=5;push_cast;exact Kj
    ·show(((4:Int)):Rat)<=5;push_cast;grind
   exact Hz this h5
  refine Hz (iq λj hj=>?_) b5
  rw[val j hj,vy j hj]
  have pD:(0:Rat) < (D:Rat):=by exact_mod_cast d1
  have xn:(0:Rat)<=(X j:Rat):=by exact_mod_cast hX j hj
  have dle:(den:Rat)<=(D:Rat):=by exact_mod_cast hle
  have:=Er dle xn
  have e:(den:Rat) * ((X j:Rat) / D) * D=den * X j:=by grind
  refine Rat.le_of_mul_le_mul_right (c:=(D:Rat)) ?_ pD
  rw[e]
  grind
theorem iR(h1:1<=n∧n<=4)(h2:1<=nv∧nv<=5)(hg:∀v,v < nv->∃j,j < n∧g v j=true){b:Nat}(hb:2<=b){y:List Rt}(hy:y∈Iz (Iu n nv λj v=>g v j) (-1))
  (hmax:∀z∈Iz (Iu n nv λj v=>g v j) (-1),(Gt ((List.range nv).map λ_=>(1,1)) z).2=true->sm nv (λv=>rv (atR z v))<=sm nv (λv=>rv (atR y v)))
  {ν:zN}{den:Nat}(hs:FM y=(ν.map λ(z:Nat)=>(z:Int),(den:Int))) (hd:1<=den) {σ:zN}(hσ:σ.length=n) (hσv:∀j,j < n->((σ.getD j 0:Nat):Rat)=sm nv (λv=>bq (g v j) * ((ν.getD v 0:Nat):Rat))) (h16:∀x∈σ,b ^ x<=16)
  {N:Nat}(hN:(N:Rat)=sm nv (λv=>((ν.getD v 0:Nat):Rat))):
  (nbB (σ.map λz=>((b ^ z:Nat):Int)) (Iz (Iu nv n g) 1)).2∈Iz (Iu nv n g) 1∧∀mid:Nat,mid<=100000->wpB (σ.map λz=>((b ^ z:Nat):Int)) (nbB (σ.map λz=>((b ^ z:Nat):Int)) (Iz (Iu nv n g) 1)).2 (mid:Int) 1=decide (mid<=b ^ N):=by
 obtain⟨ly,lν,d3,vy,sy,-⟩:=iO h1 h2 hy hs hd
 obtain⟨X,Y,D,D1,D3,y3,sXY,⟨xs,hxs,lxs,vxs⟩,⟨ys,hys,lys,vys⟩⟩:=rM h1 h2 g hg
 have pD:(0:Rat) < (D:Rat):=by exact_mod_cast D1
 have pden:(0:Rat) < (den:Rat):=by exact_mod_cast hd
 obtain⟨hm,hmin⟩:=uU (P:=Iz (Iu nv n g) 1) (λe=>by rw[e]at hxs;cases hxs) (s:=σ.map λz=>((b ^ z:Nat):Int)) (Ev σ n) (λx hx y hy=>sR h1 h2 hb hσ h16 hx hy)
 refine⟨hm,?_⟩
 have low:∀x∈Iz (Iu nv n g) 1,(N:Rat)<=Ev σ n x:=λx hx=>by
  obtain⟨c,_,_,_,_,hside,he⟩:=Nh hx
  rw[<-he]at hside
  obtain⟨_,_,sx⟩:=Li (.inl rfl) hside
  unfold Ev
  rw[hN,Du (n:=n) (g:=λj=>sm nv (λv=>((ν.getD v 0:Nat):Rat) * (bq (g v j) * rv (atR x j)))) (λj hj=>by
   rw[hσv j hj]
   have:∀k,sm k (λv=>bq (g v j) * ((ν.getD v 0:Nat):Rat)) * rv (atR x j)=sm k (λv=>((ν.getD v 0:Nat):Rat) * (bq (g v j) * rv (atR x j))):=λk=>by
    induction k with
    |zero=>simp only[sm];grind
    |succ k ih=>rw[sm,sm,<-ih];grind
   exact this nv),iu]
  refine iq λv hv=>?_
  rw[Vx]
  have:=sx v hv
  rw[Av rfl]at this
  have nn:(0:Rat)<=((ν.getD v 0:Nat):Rat):=by exact_mod_cast CB _
  have:=FK this nn
  grind
 have high:Ev σ n xs<=(N:Rat):=by
  have hle:∀j,j < n->((σ.getD j 0:Nat):Rat)<=(den:Rat):=λj hj=>by
   rw[hσv j hj,Du (g:=λv=>(den:Rat) * (bq (g v j) * rv (atR y v))) (λv hv=>by rw[(vy v hv).1];grind),Vx]
   have:=FK (sy j hj) (Hy pden)
   grind
  have a1:Ev σ n xs<=sm n (λj=>(den:Rat) * ((X j:Rat) / D)):=by
   unfold Ev
   refine iq λj hj=>?_
   rw[(vxs j hj).2]
   have xn:(0:Rat)<=(X j:Rat) / D:=by
    have:(0:Rat)<=(X j:Rat):=by exact_mod_cast CB _
    rcases Rat.le_total (a:=0) (b:=(X j:Rat) / D)with h|h
    ·exact h
    ·have:=Er h (Hy pD)
     have e:(X j:Rat) / D * D=X j:=by grind
     rw[e]at this
     have:(X j:Rat)=0:=by grind
     rw[this];grind
   exact Er (hle j hj) xn
  have a2:sm n (λj=>(den:Rat) * ((X j:Rat) / D))=(den:Rat) * sm nv (λv=>rv (atR ys v)):=by
   rw[Vx]
   congr 1
   have e1:sm n (λj=>(X j:Rat) / D) * D=sm n (λj=>(X j:Rat)):=by
    have:∀k,sm k (λj=>(X j:Rat) / D) * D=sm k (λj=>(X j:Rat)):=λk=>by
     induction k with
     |zero=>simp only[sm];grind
     |succ k ih=>rw[sm,sm,<-ih];grind
    exact this n
   have e2:sm nv (λv=>rv (atR ys v)) * D=sm nv (λv=>(Y v:Rat)):=by
    have:∀k,k<=nv->sm k (λv=>rv (atR ys v)) * D=sm k (λv=>(Y v:Rat)):=λk=>by
     induction k with
     |zero=>intro _;simp only[sm];grind
     |succ k ih=>intro hk;rw[sm,sm,<-ih (by omega),(vys k (by omega)).2];grind
    exact this nv (AT _)
   have:sm n (λj=>(X j:Rat) / D) * D=sm nv (λv=>rv (atR ys v)) * D:=by rw[e1,e2,sXY]
   grind
  have a3:sm nv (λv=>rv (atR ys v))<=sm nv (λv=>rv (atR y v)):=hmax ys hys (ky (n:=nv) (g:=λ_=>true) (Z:=λv=>(Y v:Int)) (D:=(D:Int)) (by omega) (by omega) h2.2 (by simp) lys (λk hk=>HX hk) (λk hk=>⟨Pj (by omega) (vys k hk).1 (by rw[(vys k hk).2];push_cast;rfl),by
   have:=y3 k
   omega⟩))
  have a4:(N:Rat)=(den:Rat) * sm nv (λv=>rv (atR y v)):=by
   rw[hN,<-Vx]
   exact Du λv hv=>(vy v hv).1
  rw[a4]
  exact Hz a1 (by rw[a2];exact FK a3 (Hy pden))
 have eN:Ev σ n (nbB (σ.map λz=>((b ^ z:Nat):Int)) (Iz (Iu nv n g) 1)).2=(N:Rat):=Rat.le_antisymm (Hz (hmin xs hxs) high) (low _ hm)
 generalize(nbB (σ.map λz=>((b ^ z:Nat):Int)) (Iz (Iu nv n g) 1)).2=x at *
 intro mid hmid
 obtain⟨e,d,d1,d3',le,e2,es,ev⟩:=corner h1 h2 hm
 obtain⟨p1,p60⟩:=Z4 (b:=b) (σ:=σ) (e:=e) (by omega) (by omega) h16 (λx hx=>by have:=e2 x hx;omega) (by omega)
 have c1:=c9 (σ:=σ) hσ le ev
 rw[eN]at c1
 have c2:Ou σ e=d * N:=by exact_mod_cast c1
 have pm:mid ^ d < 10 ^ 60:=by
  have a:mid ^ d<=100000 ^ d:=HN hmid _
  have b:(100000:Nat) ^ d<=100000 ^ 3:=Cr (by decide) d3'
  have c:(100000:Nat) ^ 3 < 10 ^ 60:=by decide
  omega
 unfold wpB
 rw[es]
 simp only
 rw[p1,gN (n:=mid) (k:=d) (by omega) (λ_=>d1) pm,pow_one (k:=(d:Int)) (by omega),Ai (by omega),AD]
 simp only
 rw[Me,Ai p60,AD,c2,C6,Nat.pow_mul]
 exact JK.2 (Nat.pow_le_pow_iff_left (by omega))
end
def gQ(q:NQ)(v j:Nat):Bool:=(q.2.1.getD j ([],[])).2.contains (v:Int)
theorem kn(q:NQ):MZ q=Iu q.1.toNat q.2.1.length (gQ q):=by
 have e1:∀v:Nat,RP q (v:Int)=(List.range q.2.1.length).map λj=>bt (gQ q v j):=λv=>by
  unfold RP
  refine CD (by simp) λi hi hi2=>?_
  have hi':i < q.2.1.length:=by simpa using hi
  rw[Be,Be,CV]
  unfold gQ bt
  rw[Af,Ac hi']
  rfl
 have e2:(q.2.1.map λ_=>((1:Int),(1:Int)))=(List.range q.2.1.length).map λ_=>((1:Int),(1:Int)):=CD (by simp) λi hi hi2=>by rw[Be,Be]
 unfold MZ Iu
 rw[<-FB,e2]
 refine Prod.ext ?_ rfl
 exact Ca λv _=>e1 v
theorem jU{r:List Rt}(h:r.length<=lim)(hn:∀k,k < r.length->0<=(atR r k).1):OV r=some true:=by
 unfold OV
 rw[Gu (n:=r.length) (λk=>decide ((atR r k).1 < 0)) false h (λk hk rec=>by
  unfold OF
  rw[Br hk,Ad,Em hk,BG hk (Bq h)];rfl) (λrec=>by
  unfold OF
  rw[Bm];rfl)]
 have:(List.range r.length).any (λk=>decide ((atR r k).1 < 0))=false:=Bx.2 λk hk=>by
  have:=hn k (Ao.1 hk)
  simp;omega
 rw[this];rfl
section
variable {m n:Nat}{g:Nat->Nat->Bool}
theorem SI(i:Nat):((List.range n).map λj=>bt (g i j)).length=n:=by simp
theorem Aa7(h1:1<=m∧m<=5)(h2:1<=n∧n<=5):Nm (Iu m n g).1=some ((Iu n m λj i=>g i j).1,true):=by
 obtain⟨e1,e2,e3⟩:=Kt (m:=m) (n:=n) (g:=g)
 have hl:(Iu m n g).1.length<=lim:=by rw[e1];unfold lim;omega
 have g0:AZ (Iu m n g).1 0=some ((List.range n).map λj=>bt (g 0 j)):=by
  have:=F8 (m:=(Iu m n g).1) (k:=0) (by omega)
  rw[QP (by omega)]at this
  exact this
 have hsq:(Iu m n g).1.all (rowOk n)=true:=by
  have:=WC (m:=m) (n:=n) (g:=g) h1 h2
  unfold OT at this
  simp only[Aa]at this
  rw[e3]at this
  exact this.2.2.2.1
 have inner:∀j,j < n->Au (Ip (Iu m n g).1 (j:Int)) fz (([]:List Rt),0)=some ((List.range m).map λi=>bt (g i j)):=λj hj=>by
  have:=J3 (a:=List.range m) (h:=λi=>bt (g i j)) (B:=Ip (Iu m n g).1 (j:Int)) (by simp;unfold lim;omega) (λk hk rec=>by
   have hk':k < m:=by simpa using hk
   unfold Ip
   simp only
   have hkl:k < (Iu m n g).1.length:=by omega
   rw[Br hkl,Ad,F8 hkl,QP hk']
   simp only[Ab]
   have hj2:j < ((List.range n).map λj=>bt (g k j)).length:=by simpa using hj
   rw[Em hj2,HX hj]
   simp only
   rw[AX (by simp only[Ak,AJ,BV,Ay];unfold lim;omega),BG hk' (by unfold maxLen;omega),CV]) (λrec y=>by
   unfold Ip
   simp only
   rw[BV,e1,Bm];rfl)
  exact this
 unfold Nm
 rw[show(((Iu m n g).1.length:Int)==0)=false by rw[e1];simp;omega,Ae,g0]
 simp only[Ab]
 rw[SI,nj hl (by unfold lim;omega)]
 simp only
 rw[hsq,AD,Bu,An,Ae]
 have outer:=J3 (a:=List.range n) (h:=λj=>(List.range m).map λi=>bt (g i j)) (B:=KK (Iu m n g).1) (by simp;unfold lim;omega) (λk hk rec=>by
  have hk':k < n:=by simpa using hk
  unfold KK
  simp only
  rw[g0]
  simp only[Ab]
  rw[SI,Br hk',Ad,inner k hk']
  simp only
  rw[AX (by simp only[Ak,AJ,BV,Ay];unfold lim;omega),BG hk' (by unfold maxLen;omega),CV]) (λrec y=>by
  unfold KK
  simp only
  rw[g0]
  simp only[Ab]
  rw[SI,BV,Bm];rfl)
 rw[outer]
 rfl
theorem j9(h1:m<=5)(h2:n<=5):XB (Iu m n g):=by
 obtain⟨e1,e2,e3⟩:=Kt (m:=m) (n:=n) (g:=g)
 unfold XB
 rw[e1,e2,e3]
 unfold lim
 omega
theorem vp(h1:1<=m∧m<=5)(h2:1<=n∧n<=5):LD (Iu m n g)=some (Iu n m λj i=>g i j,true):=by
 obtain⟨e1,e2,e3⟩:=Kt (m:=m) (n:=n) (g:=g)
 unfold LD
 rw[vt (j9 h1.2 h2.2),WC h1 h2]
 simp only[Ab,An,Ae]
 rw[Aa7 h1 h2]
 simp only
 rw[e2,e3,AX (by simp only[Cg];unfold lim;omega),AX (by simp only[Cg];unfold lim;omega)]
 rfl
def XV(c:List Rt)(st:List Rt×Rt×Bool)(x:List Rt):List Rt×Rt×Bool:=cond ((Gt c x).2&&(!st.2.2 || decide (wZ (Vr (Gt c x).1 st.2.1 * (-1)) < 0))) (x,(Gt c x).1,true) st
def mxB(p:LP):List Rt×Rt×Bool:=(Iz p (-1)).foldl (XV p.2.2) ([],(0,0),false)
def mxT(st:List Rt×Rt×Bool)(k:Nat):List Rt×Int×Int×Bool×Int:=(st.1,st.2.1.1,st.2.1.2,st.2.2,(k:Int))
theorem qD{p:LP}(hv:OT p=true):OU p (-1)=some (mxB p):=by
 have hn:=(K1 hv).2.1
 have hl:(Iz p (-1)).length<=161051:=by
  obtain⟨h1,h2,h3,h4,h5,h6⟩:=K1 hv
  unfold Iz
  have a:=Ss (ST p (-1)) (Ny (p.2.1.length+p.2.2.length) p.2.2.length 0) []
  have b:=QR (t:=p.2.1.length+p.2.2.length) (by omega) p.2.2.length 0
  have c:=cw h2
  simp only[Cg]at a
  omega
 unfold OU
 rw[m8 hv]
 simp only[Ab]
 have key:=GA (body:=H3 p (-1) (Iz p (-1))) (out:=((mxB p).1,(mxB p).2.1.1,(mxB p).2.1.2,(mxB p).2.2)) (λk=>mxT (((Iz p (-1)).take k).foldl (XV p.2.2) ([],(0,0),false)) k) (Iz p (-1)).length (λk hk rec=>by
  rw[A5 hk,Ek]
  generalize((Iz p (-1)).take k).foldl (XV p.2.2) ([],(0,0),false)=st
  obtain⟨b,⟨v1,v2⟩,f⟩:=st
  unfold H3 mxT
  simp only[Cz,Jd]
  rw[Br hk,Ad,Bd hk]
  simp only[Ab]
  rw[sD (by unfold lim;omega)]
  simp only
  unfold XV Kb Mu
  rw[wrap_in (by omega),Bd hk]
  simp only[Ab]
  cases(Gt p.2.2 (Iz p (-1))[k]).2 with
  |false=>rfl
  |true=>
   cases f with
   |false=>rfl
   |true=>
    rw[ne]
    simp only[An,Ae,Ad,BZ,AD]
    cases decide (wZ (Vr (Gt p.2.2 (Iz p (-1))[k]).1 (v1,v2) * (-1)) < 0)<;>rfl) (λrec=>by
  unfold H3 mxT
  simp only
  rw[Bm,BT];rfl) fz (Ho (by unfold lim;omega))
 rw[show(([]:List Rt),(0:Int),(0:Int),false,(0:Int))=mxT (((Iz p (-1)).take 0).foldl (XV p.2.2) ([],(0,0),false)) 0 from rfl,key]
theorem Ts(h1:1<=m∧m<=5){v:Nat}(hv:v < n)(h2:n<=5):∀(j k:Nat) (b:Bool) (f:Nat),k+j=m->j < f->(b=true∨∃i,k<=i∧i < m∧g i v=true)->Au (Jk (Iu m n g) (v:Int)) f (b,(k:Int))=some true
 |0,k,b,f,hk,hf,h=>by
  obtain⟨e1,e2,e3⟩:=Kt (m:=m) (n:=n) (g:=g)
  obtain⟨f,rfl⟩:∃w,f=w+1:=⟨f - 1,by omega⟩
  obtain rfl:k=m:=by omega
  rw[By,Jk]
  rw[e2,Bm,Ae]
  rcases h with h|⟨i,h3,h4,_⟩
  ·rw[h]
  ·omega
 |j+1,k,b,f,hk,hf,h=>by
  obtain⟨e1,e2,e3⟩:=Kt (m:=m) (n:=n) (g:=g)
  obtain⟨f,rfl⟩:∃w,f=w+1:=⟨f - 1,by omega⟩
  have hkm:k < m:=by omega
  rw[By,Jk]
  simp only[Jl]
  rw[e2,Br hkm,Ad,BG hkm (by unfold maxLen;omega)]
  cases b with
  |true=>rw[Ad];exact Ts h1 hv h2 j (k+1) true f (by omega) (by omega) (.inl rfl)
  |false=>
   rw[Ae,F8 (by omega),QP hkm]
   simp only[Ab]
   rw[jU (by rw[SI];unfold lim;omega) (λi hi=>by
    rw[SI]at hi
    rw[HX hi]
    cases g k i<;>decide)]
   simp only[Ad]
   rw[Em (by rw[SI];exact hv),HX hv]
   simp only
   refine Ts h1 hv h2 j (k+1) _ f (by omega) (by omega) ?_
   rcases h with h|⟨i,h3,h4,h5⟩
   ·cases h
   ·by_cases e:i=k
    ·subst e;rw[h5];exact .inl rfl
    ·exact .inr ⟨i,by omega,h4,h5⟩
theorem zO(h1:1<=m∧m<=5)(h2:1<=n∧n<=5)(hg:∀v,v < n->∃i,i < m∧g i v=true):NW (Iu m n g)=some (mxB (Iu m n g)):=by
 obtain⟨e1,e2,e3⟩:=Kt (m:=m) (n:=n) (g:=g)
 unfold NW
 rw[vt (j9 h1.2 h2.2),WC h1 h2]
 simp only[Ab,An,Ae]
 have hloop:=GA (body:=LE (Iu m n g)) (out:=(.inl ():Sum Unit (List Rt×Rt×Bool))) (λk=>(k:Int)) n (λk hk rec=>by
  unfold LE
  rw[e3,Br hk,Ad]
  obtain⟨i,hi,hgi⟩:=hg k hk
  have:=Ts (g:=g) h1 hk h2.2 m 0 false fz (by omega) (by unfold fz;omega) (.inr ⟨i,by omega,hi,hgi⟩)
  rw[show((0:Nat):Int)=0 from rfl]at this
  rw[this]
  simp only[Ab,An,Ae]
  rw[BG hk (by unfold maxLen;omega)]) (λrec=>by
  unfold LE
  rw[e3,Bm];rfl) fz (by unfold fz;omega)
 rw[show((0:Nat):Int)=0 from rfl]at hloop
 rw[hloop]
 simp only
 rw[qD (WC h1 h2)]
theorem ZS{c:List Rt}:∀(l:List (List Rt)) (st:List Rt×Rt×Bool),(st.2.2=true->(Gt c st.1)=(st.2.1,true))->((l.foldl (XV c) st).2.2=true->(Gt c (l.foldl (XV c) st).1)=((l.foldl (XV c) st).2.1,true)∧((l.foldl (XV c) st).1∈l∨(st.2.2=true∧(l.foldl (XV c) st).1=st.1)))∧
  (st.2.2=true->(l.foldl (XV c) st).2.2=true∧rv st.2.1<=rv (l.foldl (XV c) st).2.1)∧∀x∈l,(Gt c x).2=true->(l.foldl (XV c) st).2.2=true∧rv (Gt c x).1<=rv (l.foldl (XV c) st).2.1
 |[],st,h=>⟨λe=>⟨h e,.inr ⟨e,rfl⟩⟩,λe=>⟨e,Kj⟩,λx hx=>by cases hx⟩
 |y::l,st,h=>by
  rw[Cz]
  cases hd:(Gt c y).2 with
  |false=>
   have e:XV c st y=st:=by unfold XV;rw[hd];rfl
   rw[e]
   obtain⟨a,b,d⟩:=ZS l st h
   refine⟨λhh=>?_,b,λx hx hxd=>?_⟩
   ·obtain⟨p,q⟩:=a hh
    exact⟨p,q.imp (λq=>AE _ q) id⟩
   ·rcases AB.1 hx with rfl|hx
    ·rw[hd]at hxd;cases hxd
    ·exact d x hx hxd
  |true=>
   have oy:=(QU hd).2.1
   by_cases up:(!st.2.2 || decide (wZ (Vr (Gt c y).1 st.2.1 * (-1)) < 0))=true
   ·have e:XV c st y=(y,(Gt c y).1,true):=by unfold XV;rw[hd,up];rfl
    rw[e]
    obtain⟨a,b,d⟩:=ZS l (y,(Gt c y).1,true) (λ_=>by rw[<-hd])
    have b':=b rfl
    refine⟨λhh=>?_,λhst=>⟨b'.1,Hz ?_ b'.2⟩,λx hx hxd=>?_⟩
    ·obtain⟨p,q⟩:=a hh
     refine⟨p,?_⟩
     rcases q with q|⟨_,q⟩
     ·exact .inl (AE _ q)
     ·exact .inl (by rw[q];exact Bg)
    ·rw[hst,An,BZ,AN]at up
     have os:=(QU (a:=c) (b:=st.1) (by rw[h hst])).2.1
     rw[h hst]at os
     have:=UE oy os (.inr rfl)
     rw[Ai up,At (by decide)]at this
     exact Hy (Dj this.symm)
    ·rcases AB.1 hx with rfl|hx
     ·exact b'
     ·exact d x hx hxd
   ·have e:XV c st y=st:=by unfold XV;rw[hd,Ex]at *;rw[up];rfl
    rw[e]
    obtain⟨a,b,d⟩:=ZS l st h
    rw[Ex,BF,Cx]at up
    refine⟨λhh=>?_,b,λx hx hxd=>?_⟩
    ·obtain⟨p,q⟩:=a hh
     exact⟨p,q.imp (λq=>AE _ q) id⟩
    ·rcases AB.1 hx with rfl|hx
     ·refine⟨(b up.1).1,Hz ?_ (b up.1).2⟩
      have os:=(QU (a:=c) (b:=st.1) (by rw[h up.1])).2.1
      rw[h up.1]at os
      have:=UE oy os (.inr rfl)
      rw[up.2,At (by decide)]at this
      exact Rat.not_lt.1 (EB this.symm)
     ·exact d x hx hxd
end
theorem Wz{s:zI}{w:List Rt×Bool}{K:Nat}(hK:K<=100000)(hs:s.length<=lim)(hI:∀e∈s,e<=9223372036854775807)(hw:w.1.length<=lim)(hW:∀mid:Nat,mid<=100000->wpB s w.1 (mid:Int) 1=decide (mid<=K)):
  ∀(d lo hi f:Nat),hi - lo<=d->lo<=K->K<=hi->hi<=100000->d < f->Au (KV s w) f ((lo:Int),(hi:Int))=some (K:Int)
 |d,lo,hi,0,_,_,_,_,hf=>by omega
 |d,lo,hi,f+1,h1,h2,h3,h4,hf=>by
  rw[By,KV]
  by_cases h:lo < hi
  ·rw[Br h,Ad,wrap_in (n:=(lo:Int)+(hi:Int)) (by omega),wrap_in (n:=(lo:Int)+(hi:Int)+1) (by omega)]
   have e:Int.tdiv ((lo:Int)+(hi:Int)+1) 2=(((lo+hi+1) / 2:Nat):Int):=by
    rw[show(lo:Int)+(hi:Int)+1=((lo+hi+1:Nat):Int)by push_cast;rfl];rfl
   rw[e,wrap_in (by omega),rN hs hI hw (by omega)]
   simp only[Ab]
   rw[hW _ (by omega)]
   by_cases hm:(lo+hi+1) / 2<=K
   ·rw[Ai hm,Ad]
    obtain⟨d,rfl⟩:∃w,d=w+1:=⟨d - 1,by omega⟩
    exact Wz hK hs hI hw hW d _ hi f (by omega) hm h3 h4 (by omega)
   ·rw[Ag hm,Ae,wrap_in (by omega),show(((lo+hi+1) / 2:Nat):Int) - 1=(((lo+hi+1) / 2 - 1:Nat):Int)by omega]
    obtain⟨d,rfl⟩:∃w,d=w+1:=⟨d - 1,by omega⟩
    exact Wz hK hs hI hw hW d lo _ f (by omega) h2 (by omega) (by omega) (by omega)
  ·rw[Ag (by omega),Ae]
   have:lo=K:=by omega
   rw[this]
end Go.Proofs.YthghcmmlmfgkbaaGreatDoor
