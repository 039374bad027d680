/-
 Gauss elimination on rationals of bounded size, exactly; systems of noughts and ones. No conditions.
-/
import Derived.Test.YthghcmmlmfgkbaaGreatDoorDpTI1
import Derived.Test.YthghcmmlmfgkbaaGreatDoorRtTI1
open Go.RowKit
set_option linter.unusedVariables false
set_option linter.unusedSimpArgs false
namespace Go.Proofs.YthghcmmlmfgkbaaGreatDoor
def rv(a:Rt):Rat:=(a.1:Rat) / (a.2:Rat)
theorem SH{d:Int}(h:d≠0):(d:Rat)≠0:=λe=>h (by exact_mod_cast e)
theorem cG{n d:Int}(hd:0 < d):(n.tdiv (Nat.gcd n.natAbs d.natAbs:Nat)) * d=n * (d.tdiv (Nat.gcd n.natAbs d.natAbs:Nat))∧0 < d.tdiv (Nat.gcd n.natAbs d.natAbs:Nat)∧(n.tdiv (Nat.gcd n.natAbs d.natAbs:Nat)).natAbs<=n.natAbs∧d.tdiv (Nat.gcd n.natAbs d.natAbs:Nat)<=d∧Nat.gcd (n.tdiv (Nat.gcd n.natAbs d.natAbs:Nat)).natAbs (d.tdiv (Nat.gcd n.natAbs d.natAbs:Nat)).natAbs=1:=by
 have hg:0 < Nat.gcd n.natAbs d.natAbs:=Hx _ (by omega)
 obtain⟨a,ha⟩:=MI n.natAbs d.natAbs
 obtain⟨b,hb⟩:=Nat.gcd_dvd_right n.natAbs d.natAbs
 have hcop:Nat.gcd a b=1:=by
  have:=Nat.gcd_mul_left (Nat.gcd n.natAbs d.natAbs) a b
  rw[<-ha,<-hb]at this
  exact Nat.eq_of_mul_eq_mul_left hg (by omega)
 generalize Nat.gcd n.natAbs d.natAbs=g at *
 have ed:d=(g:Int) * b:=by
  have:(d.natAbs:Int)=g * b:=by rw[hb];push_cast;rfl
  omega
 have hb0:0 < b:=by
  cases b with
  |zero=>simp at hb;omega
  |succ b=>omega
 have en:n=(g:Int) * (n.sign * a):=by
  have h1:n=n.sign * n.natAbs:=(Int.sign_mul_natAbs n).symm
  rw[ha]at h1
  push_cast at h1
  rw[Int.mul_left_comm];exact h1
 have hg':(g:Int)≠0:=by omega
 have e1:n.tdiv (g:Int)=n.sign * a:=by
  conv=>lhs;rw[en]
  exact Hr _ hg'
 have e2:d.tdiv (g:Int)=b:=by
  conv=>lhs;rw[ed]
  exact Hr _ hg'
 rw[e1,e2]
 have hs:(n.sign * (a:Int)).natAbs=a:=by
  rw[BQ,Int.natAbs_sign]
  by_cases h:n=0
  ·have ha':g * a=0:=by rw[<-ha,h];rfl
   rcases Nat.mul_eq_zero.1 ha' with h'|h'
   ·omega
   ·rw[h,h'];rfl
  ·simp[h]
 refine⟨?_,by omega,?_,?_,?_⟩
 ·have e3:(n.sign * (a:Int)) * d=n.sign * a * (g * b):=by rw[<-ed]
  rw[e3]
  conv=>rhs;rw[en]
  grind
 ·rw[hs,ha];exact F4 _ hg
 ·rw[ed];exact_mod_cast F4 _ hg
 ·rw[hs];simpa using hcop
theorem cH{n d:Int}(hd:0 < d)(h:(UD n d).2=true):Ee (UD n d).1=true∧rv (UD n d).1=(n:Rat) / d:=by
 obtain⟨e,p,-,-,-⟩:=cG (n:=n) hd
 unfold UD at h⊢
 cases hk:Ee (n.tdiv (Nat.gcd n.natAbs d.natAbs:Nat),d.tdiv (Nat.gcd n.natAbs d.natAbs:Nat))with
 |false=>rw[hk]at h;cases h
 |true=>
  rw[Ad]
  refine⟨hk,?_⟩
  unfold rv
  simp only
  generalize n.tdiv (Nat.gcd n.natAbs d.natAbs:Nat)=x at *
  generalize d.tdiv (Nat.gcd n.natAbs d.natAbs:Nat)=y at *
  have e':(x:Rat) * d=n * y:=by exact_mod_cast e
  have h1:=SH (show d≠0 by omega)
  have h2:=SH (show y≠0 by omega)
  grind
theorem R4{n d:Int}(hd:d≠0)(h:(rNew n d).2=true):Ee (rNew n d).1=true∧rv (rNew n d).1=(n:Rat) / d:=by
 unfold rNew at h⊢
 rw[GD hd]at h⊢
 rw[Ae]at h⊢
 cases h1:FI n (-4000000000000000000) 4000000000000000000 with
 |false=>rw[h1]at h;cases h
 |true=>
  cases h2:FI d (-4000000000000000000) 4000000000000000000 with
  |false=>rw[h1,h2]at h;cases h
  |true=>
   rw[h1,h2]at h
   rw[Ad,Ad]at h⊢
   by_cases h3:d < 0
   ·rw[Ai h3,Ad]at h⊢
    obtain⟨a,b⟩:=cH (by omega) h
    refine⟨a,b.trans ?_⟩
    have:=SH hd
    push_cast
    grind
   ·rw[Ag h3,Ae]at h⊢
    exact cH (by omega) h
theorem hY{n d:Int}(hd:0 < d)(h1:n.natAbs<=1000000000)(h2:d<=1000000000):(UD n d).2=true:=by
 obtain⟨-,p,a,b,c⟩:=cG (n:=n) hd
 unfold UD
 have:Ee (n.tdiv (Nat.gcd n.natAbs d.natAbs:Nat),d.tdiv (Nat.gcd n.natAbs d.natAbs:Nat))=true:=by
  unfold Ee
  simp only[Aa,Fq,Bc]
  exact⟨⟨by omega,by omega⟩,⟨by omega,by omega⟩,by rw[c];rfl⟩
 rw[this];rfl
theorem Z7{n d:Int}(hd:d≠0)(h1:n.natAbs<=1000000000)(h2:d.natAbs<=1000000000):(rNew n d).2=true:=by
 unfold rNew
 rw[GD hd,Ae,Fq.2 (by omega),Fq.2 (by omega),Ad,Ad]
 by_cases h3:d < 0
 ·rw[Ai h3,Ad];exact hY (by omega) (by omega) (by omega)
 ·rw[Ag h3,Ae];exact hY (by omega) (by omega) (by omega)
def Yd(a:Rt)(z:Int)(D:Int):Prop:=Ee a=true∧a.1 * D=z * a.2
theorem Nc{a:Rt}{z D:Int}(hD:0 < D)(h:Yd a z D):rv a=(z:Rat) / D:=by
 have f:=Cd h.1
 have e:(a.1:Rat) * D=z * a.2:=by exact_mod_cast h.2
 have h1:=SH (show D≠0 by omega)
 have h2:=SH (show a.2≠0 by omega)
 unfold rv
 grind
theorem Pj{a:Rt}{z D:Int}(hD:0 < D)(h:Ee a=true)(e:rv a=(z:Rat) / D):Yd a z D:=by
 have f:=Cd h
 refine⟨h,?_⟩
 have h1:=SH (show D≠0 by omega)
 have h2:=SH (show a.2≠0 by omega)
 unfold rv at e
 have:(a.1:Rat) * D=z * a.2:=by grind
 exact_mod_cast this
theorem Jb{a:Rt}{z D:Int}(hD:0 < D)(h:Yd a z D):a.2<=D∧a.1.natAbs<=z.natAbs:=by
 have f:=Cd h.1
 have e:=h.2
 have hc:Nat.Coprime a.1.natAbs a.2.natAbs:=f.2.2.2
 have e':a.1.natAbs * D.natAbs=z.natAbs * a.2.natAbs:=by rw[<-BQ,<-BQ,e]
 have d1:a.2.natAbs ∣ D.natAbs:=hc.symm.dvd_of_dvd_mul_left ⟨z.natAbs,by rw[e',C6]⟩
 have d2:a.1.natAbs ∣ z.natAbs:=hc.dvd_of_dvd_mul_right ⟨D.natAbs,by rw[<-e']⟩
 have l1:=Mt (by omega) d1
 refine⟨by omega,?_⟩
 by_cases hz:z.natAbs=0
 ·rw[hz,Nat.zero_mul]at e'
  rcases Nat.mul_eq_zero.1 e' with h|h<;>omega
 ·exact Mt (by omega) d2
theorem mT{a b:Rt}(ha:Ee a=true)(hb:Ee b=true)(h1:(a.1 * b.1).natAbs<=1000000000)(h2:(a.2 * b.2).natAbs<=1000000000):(D9 a b).2=true∧Ee (D9 a b).1=true∧rv (D9 a b).1=rv a * rv b:=by
 have fa:=Cd ha
 have fb:=Cd hb
 have e:D9 a b=rNew (a.1 * b.1) (a.2 * b.2):=by unfold D9;rw[ha,hb];rfl
 have n1:a.2≠0:=by omega
 have n2:b.2≠0:=by omega
 have hd:a.2 * b.2≠0:=Ig n1 n2
 rw[e]
 have ok:=Z7 hd h1 h2
 obtain⟨o,v⟩:=R4 hd ok
 refine⟨ok,o,v.trans ?_⟩
 have:=SH n1;have:=SH n2
 unfold rv;push_cast;grind
theorem mP{a b:Rt}(ha:Ee a=true)(hb:Ee b=true)(h0:b.1≠0)(h1:(a.1 * b.2).natAbs<=1000000000)(h2:(a.2 * b.1).natAbs<=1000000000):(Hj a b).2=true∧Ee (Hj a b).1=true∧rv (Hj a b).1=rv a / rv b:=by
 have fa:=Cd ha
 have fb:=Cd hb
 have e:Hj a b=rNew (a.1 * b.2) (a.2 * b.1):=by unfold Hj;rw[ha,hb];rfl
 have n1:a.2≠0:=by omega
 have n2:b.2≠0:=by omega
 have hd:a.2 * b.1≠0:=Ig n1 h0
 rw[e]
 have ok:=Z7 hd h1 h2
 obtain⟨o,v⟩:=R4 hd ok
 refine⟨ok,o,v.trans ?_⟩
 have:=SH n1;have:=SH n2;have:=SH h0
 unfold rv;push_cast;grind
theorem mM{a b:Rt}(ha:Ee a=true)(hb:Ee b=true)(h1:(a.1 * b.2+b.1 * a.2).natAbs<=1000000000)(h2:(a.2 * b.2).natAbs<=1000000000):(Nj a b).2=true∧Ee (Nj a b).1=true∧rv (Nj a b).1=rv a+rv b:=by
 have fa:=Cd ha
 have fb:=Cd hb
 have e:Nj a b=rNew (a.1 * b.2+b.1 * a.2) (a.2 * b.2):=by unfold Nj;rw[ha,hb];rfl
 have n1:a.2≠0:=by omega
 have n2:b.2≠0:=by omega
 have hd:a.2 * b.2≠0:=Ig n1 n2
 rw[e]
 have ok:=Z7 hd h1 h2
 obtain⟨o,v⟩:=R4 hd ok
 refine⟨ok,o,v.trans ?_⟩
 have:=SH n1;have:=SH n2
 unfold rv;push_cast;grind
theorem vi{b:Rt}(hb:Ee b=true):Ee (-b.1,b.2)=true∧rv (-b.1,b.2)= - rv b:=by
 have fb:=Cd hb
 constructor
 ·unfold Ee at hb⊢
  simp only[Aa,Fq,Bc,Int.natAbs_neg]at hb⊢
  exact⟨hb.1,⟨by omega,by omega⟩,hb.2.2⟩
 ·have:=SH (show b.2≠0 by omega)
  unfold rv;push_cast;grind
theorem vk{a b:Rt}(ha:Ee a=true)(hb:Ee b=true)(h1:(a.1 * b.2).natAbs+(b.1 * a.2).natAbs<=1000000000)(h2:(a.2 * b.2).natAbs<=1000000000):(LA a b).2=true∧Ee (LA a b).1=true∧rv (LA a b).1=rv a - rv b:=by
 have e:LA a b=Nj a (-b.1,b.2):=by unfold LA;rw[hb];rfl
 obtain⟨n1,n2⟩:=vi hb
 rw[e]
 have hn: -b.1 * a.2= -(b.1 * a.2):=Int.neg_mul _ _
 obtain⟨x,y,z⟩:=mM ha n1 (by show(a.1 * b.2+ -b.1 * a.2).natAbs<=_;rw[hn];omega) h2
 refine⟨x,y,z.trans ?_⟩
 rw[n2];grind
def EOk(x r c y:Rt):Prop:=(Hj r c).2=true∧(D9 (Hj r c).1 y).2=true∧(LA x (D9 (Hj r c).1 y).1).2=true∧Ee (LA x (D9 (Hj r c).1 y).1).1=true∧rv (LA x (D9 (Hj r c).1 y).1).1=rv x - rv r / rv c * rv y
theorem ti{x y r c:Rt}{zx zy zr zc D:Int}{B:Nat}(hD:0 < D)(hx:Yd x zx D)(hy:Yd y zy D)(hr:Yd r zr D)(hc:Yd c zc D)(h0:zc≠0)(bx:zx.natAbs<=B)(by_:zy.natAbs<=B)(br:zr.natAbs<=B)(bc:zc.natAbs<=B)(hb:2 * (B * B * D.natAbs)<=1000000000)(hb2:D.natAbs * (B * D.natAbs)<=1000000000):
  EOk x r c y:=by
 unfold EOk
 have sx:=Jb hD hx
 have sy:=Jb hD hy
 have sr:=Jb hD hr
 have sc:=Jb hD hc
 have fx:=Cd hx.1
 have fy:=Cd hy.1
 have fr:=Cd hr.1
 have fc:=Cd hc.1
 have k1:B * D.natAbs<=B * B * D.natAbs:=by
  cases B with
  |zero=>omega
  |succ B=>rw[DU];exact F4 _ (by omega)
 have c0:c.1≠0:=λe=>by
  have:=hc.2;rw[e,Int.zero_mul]at this
  rcases Int.mul_eq_zero.1 this.symm with h|h<;>omega
 obtain⟨d1,d2,d3⟩:=mP hr.1 hc.1 c0 (by
  rw[BQ]
  exact BD (BC (BD sr.2 br) (show c.2.natAbs<=D.natAbs by omega)) (by omega)) (by
  rw[BQ,C6]
  exact BD (BC (BD sc.2 bc) (show r.2.natAbs<=D.natAbs by omega)) (by omega))
 have vr:=Nc hD hr
 have vc:=Nc hD hc
 have vy:=Nc hD hy
 have rD:=SH (show D≠0 by omega)
 have rc:=SH h0
 have hf:Yd (Hj r c).1 (zr * zc.sign) zc.natAbs:=by
  refine Pj (by omega) d2 ?_
  rw[d3,vr,vc]
  have e:(zc:Rat) * (zc.sign:Rat)=((zc.natAbs:Int):Rat):=by exact_mod_cast Int.mul_sign_self zc
  have e2:=SH (show(zc.natAbs:Int)≠0 by omega)
  have e3:(zc.sign:Rat) * zc.sign=1:=by
   have:zc.sign * zc.sign=1:=by
    rcases Int.lt_trichotomy zc 0 with h|h|h
    ·rw[Int.sign_eq_neg_one_of_neg h];rfl
    ·omega
    ·rw[Int.sign_eq_one_of_pos h];rfl
   exact_mod_cast this
  push_cast at *
  rw[<-e]
  grind
 have sf:=Jb (by omega) hf
 have bf:(Hj r c).1.1.natAbs<=B:=by
  refine BD sf.2 ?_
  rw[BQ,Int.natAbs_sign]
  split<;>omega
 have ff:=Cd d2
 have bf2:(Hj r c).1.2.natAbs<=B:=by omega
 generalize(Hj r c).1=f at *
 have m1:(f.1 * y.1).natAbs<=B * B:=by rw[BQ];exact BC bf (BD sy.2 by_)
 have m2:(f.2 * y.2).natAbs<=B * D.natAbs:=by rw[BQ];exact BC bf2 (by omega)
 have k2:B * B<=B * B * D.natAbs:=EJ _ (by omega)
 obtain⟨e1,e2,e3⟩:=mT d2 hy.1 (by omega) (by omega)
 have hg:Yd (D9 f y).1 (f.1 * y.1) (f.2 * y.2):=by
  refine Pj (Md (by omega) (by omega)) e2 ?_
  rw[e3]
  have:=SH (show f.2≠0 by omega)
  have:=SH (show y.2≠0 by omega)
  unfold rv;push_cast;grind
 have sg:=Jb (Md (by omega) (by omega)) hg
 have fg:=Cd e2
 generalize(D9 f y).1=g at *
 have g2:g.2.natAbs<=B * D.natAbs:=by omega
 obtain⟨a1,a2,a3⟩:=vk hx.1 e2 (by
  have p1:(x.1 * g.2).natAbs<=B * (B * D.natAbs):=by rw[BQ];exact BC (BD sx.2 bx) g2
  have p2:(g.1 * x.2).natAbs<=B * B * D.natAbs:=by rw[BQ];exact BC (by omega) (by omega)
  rw[<-DU]at p1
  omega) (by
  rw[BQ]
  exact BD (BC (show x.2.natAbs<=D.natAbs by omega) g2) hb2)
 exact⟨d1,e1,a1,a2,a3.trans (by rw[e3,d3])⟩
theorem kC{f:Rt}:∀{xs ys:List Rt},xs.length=ys.length->(∀k,k < xs.length->(D9 f (atR ys k)).2=true∧(LA (atR xs k) (D9 f (atR ys k)).1).2=true)->∃t,elF f xs ys=some t∧t.length=xs.length∧∀k,k < xs.length->atR t k=(LA (atR xs k) (D9 f (atR ys k)).1).1
 |[],[],_,_=>⟨[],rfl,rfl,λk h=>by simp at h⟩
 |x::xs,y::ys,hl,h=>by
  have h0:=h 0 (by simp)
  obtain⟨t,e,l,g⟩:=kC (f:=f) (xs:=xs) (ys:=ys) (by simpa using hl) (λk hk=>h (k+1) (by simpa using hk))
  have h0':(D9 f y).2=true∧(LA x (D9 f y).1).2=true:=h0
  refine⟨(LA x (D9 f y).1).1::t,?_,by simp[l],?_⟩
  ·rw[elF,h0'.1,h0'.2,e];rfl
  ·intro k hk
   cases k with
   |zero=>rfl
   |succ k=>exact g k (by simpa using hk)
theorem TZ(l:List Rt)(p k:Nat):atR (l.drop p) k=atR l (p+k):=by unfold atR;rw[Af,Af,DF]
theorem oe(l t:List Rt){p k:Nat}(hp:p<=l.length):atR (l.take p++t) k=if k < p then atR l k else atR t (k - p):=by
 unfold atR
 rw[Af,List.getElem?_append,AJ,Cq hp]
 split
 ·rename_i h;rw[FA h,Af]
 ·rw[Af]
theorem i9{p L:Nat}{row piv:List Rt}(hr:row.length=L)(hv:piv.length=L)(hp:p < L)(hd:(Hj (atR row p) (atR piv p)).2=true)
  (h:∀k,p<=k->k < L->(D9 (Hj (atR row p) (atR piv p)).1 (atR piv k)).2=true∧(LA (atR row k) (D9 (Hj (atR row p) (atR piv p)).1 (atR piv k)).1).2=true):
  ∃t,RQ p row piv=some t∧t.length=L∧∀k,k < L->atR t k=if k < p then atR row k else(LA (atR row k) (D9 (Hj (atR row p) (atR piv p)).1 (atR piv k)).1).1:=by
 obtain⟨t,e,l,g⟩:=kC (f:=(Hj (atR row p) (atR piv p)).1) (xs:=row.drop p) (ys:=piv.drop p) (by simp[hr,hv]) (λk hk=>by
  rw[TZ,TZ];exact h (p+k) (by omega) (by rw[Bt,hr]at hk;omega))
 refine⟨row.take p++t,by unfold RQ;rw[hd,e];rfl,?_,?_⟩
 ·rw[Aw,l,AJ,Bt,hr];omega
 ·intro k hk
  rw[oe row t (by omega)]
  split
  ·rfl
  ·rename_i hkp
   rw[g (k - p) (by rw[Bt,hr];omega),TZ,TZ,show p+(k - p)=k by omega]
def ZY(p i:Nat)(row piv:List Rt):Option (List Rt):=cond (i==p) (some row) (cond ((atR row p).1==0) (some row) (RQ p row piv))
theorem jN{n p i:Nat}{m:Mx}{r:List Rt}(hm:m.length=n)(hi:i < n)(h:ZY p i (CX m i) (CX m p)=some r):
  ∃m',VT p m i=some m'∧m'.length=n∧CX m' i=r∧∀k,k≠i->CX m' k=CX m k:=by
 unfold ZY at h
 unfold VT
 cases h1:i==p with
 |true=>rw[h1]at h;cases h;exact⟨m,rfl,hm,rfl,λ_ _=>rfl⟩
 |false=>
  rw[h1,Ae]at h
  rw[Ae]
  cases h2:(atR (CX m i) p).1==0 with
  |true=>rw[h2]at h;cases h;exact⟨m,rfl,hm,rfl,λ_ _=>rfl⟩
  |false=>
   rw[h2,Ae]at h
   rw[Ae,h]
   refine⟨m.set i r,rfl,by simp[hm],?_,λk hk=>?_⟩
   ·rw[QO r (by omega),Av rfl]
   ·rw[QO r (by omega),At (λe=>hk e.symm)]
theorem YT{n p:Nat}{R:Nat->List Rt}{m0:Mx}(hp:p < n)(hR:∀i,i < n->ZY p i (CX m0 i) (CX m0 p)=some (R i)):∀(j i:Nat) (m:Mx),i+j=n->m.length=n->(∀k,k < i->CX m k=R k)->(∀k,i<=k->k < n->CX m k=CX m0 k)->
  ∃m',Od p j i m=some m'∧m'.length=n∧∀k,k < n->CX m' k=R k
 |0,i,m,hij,hm,h1,_=>⟨m,rfl,hm,λk hk=>h1 k (by omega)⟩
 |j+1,i,m,hij,hm,h1,h2=>by
  have ep:CX m p=CX m0 p:=by
   by_cases hpi:p < i
   ·rw[h1 p hpi]
    have:=hR p hp
    unfold ZY at this
    rw[Bu,Ad]at this
    exact(DG this).symm
   ·exact h2 p (by omega) hp
  obtain⟨m',e,l,a,b⟩:=jN (p:=p) (r:=R i) hm (show i < n by omega) (by rw[ep,h2 i (by omega) (by omega)];exact hR i (by omega))
  obtain⟨m'',e',l',c⟩:=YT hp hR j (i+1) m' (by omega) l (λk hk=>by
   by_cases hki:k=i
   ·rw[hki,a]
   ·rw[b k hki];exact h1 k (by omega)) (λk hk hkn=>by rw[b k (by omega)];exact h2 k (by omega) hkn)
  refine⟨m'',?_,l',c⟩
  rw[Od,e];exact e'
def ent(m:Mx)(i j:Nat):Rat:=rv (atR (CX m i) j)
def sm:Nat->(Nat->Rat)->Rat
 |0,_=>0
 |n+1,f=>sm n f+f n
theorem Du{f g:Nat->Rat}:∀{n:Nat},(∀j,j < n->f j=g j)->sm n f=sm n g
 |0,_=>rfl
 |n+1,h=>by rw[sm,sm,Du (n:=n) λj hj=>h j (by omega),h n (by omega)]
theorem ai(c:Rat)(f g:Nat->Rat):∀n,sm n (λj=>f j - c * g j)=sm n f - c * sm n g
 |0=>by simp only[sm];grind
 |n+1=>by rw[sm,sm,sm,ai c f g n];grind
def Sol(n:Nat)(m:Mx)(t:Rat)(z:Nat->Rat):Prop:=∀i,i < n->sm n (λj=>ent m i j * z j)=t * ent m i n
def Stg(n:Nat)(A:Int->Prop)(Dm:Nat)(m:Mx):Prop:=∃D:Int,0 < D∧D.natAbs<=Dm∧∀i,i < n->∀j,j<=n->∃z,A z∧Yd (atR (CX m i) j) z D
def Shp(n:Nat)(m:Mx):Prop:=m.length=n∧∀i,i < n->(CX m i).length=n+1
def Dg(p n:Nat)(m:Mx):Prop:=∀q,q < p->ent m q q≠0∧∀i,i < n->i≠q->ent m i q=0
theorem Wj{a:Rt}(h:Ee a=true):rv a=0↔a.1=0:=by
 have f:=Cd h
 have:=SH (show a.2≠0 by omega)
 unfold rv
 constructor
 ·intro e
  have:(a.1:Rat)=0:=by grind
  exact_mod_cast this
 ·intro e;rw[e];grind
theorem qy{n:Nat}{m m':Mx}{p:Nat}(hp:p < n)(fac:Nat->Rat)(h0:fac p=0)(h:∀i,i < n->∀j,j<=n->ent m' i j=ent m i j - fac i * ent m p j)(t:Rat)(z:Nat->Rat):Sol n m t z↔Sol n m' t z:=by
 have e:∀i,i < n->sm n (λj=>ent m' i j * z j)=sm n (λj=>ent m i j * z j) - fac i * sm n (λj=>ent m p j * z j):=λi hi=>by
  rw[<-ai]
  exact Du λj hj=>by rw[h i hi j (by omega)];grind
 constructor
 ·intro s i hi
  rw[e i hi,s i hi,s p hp,h i hi n (AT _)];grind
 ·intro s i hi
  have sp:=s p hp
  rw[e p hp,h0,h p hp n (AT _),h0]at sp
  have si:=s i hi
  rw[e i hi,h i hi n (AT _)]at si
  grind
theorem mz{n p:Nat}{A A':Int->Prop}{B Dm Dm':Nat}{m:Mx}(hp:p < n)(hs:Shp n m)(hst:Stg n A Dm m)(hdg:Dg p n m)(h0:ent m p p≠0)
  (hB:∀z,A z->z.natAbs<=B) (hA:∀a b c d,A a->A b->A c->A d->c≠0->A' ((a * c - b * d) * c.sign)∧A' (a * c.natAbs)) (hD:Dm * B<=Dm') (k1:2 * (B * B * Dm)<=1000000000) (k2:Dm * (B * Dm)<=1000000000):
  ∃m',Od p n 0 m=some m'∧Shp n m'∧Stg n A' Dm' m'∧Dg (p+1) n m'∧∀t z,Sol n m t z↔Sol n m' t z:=by
 obtain⟨D,hD0,hDm,hq⟩:=hst
 have kk1:2 * (B * B * D.natAbs)<=1000000000:=BD (HM 2 (HM _ hDm)) k1
 have kk2:D.natAbs * (B * D.natAbs)<=1000000000:=BD (BC hDm (HM _ hDm)) k2
 obtain⟨zc,ac,hc⟩:=hq p hp p (by omega)
 have vc:=Nc hD0 hc
 have rD:=SH (show D≠0 by omega)
 have c0:zc≠0:=λe=>h0 (by unfold ent;rw[vc,e];grind)
 have key:∀i,i < n->∃r,ZY p i (CX m i) (CX m p)=some r∧r.length=n+1∧∀j,j<=n->Ee (atR r j)=true∧rv (atR r j)=ent m i j - (if i=p then 0 else ent m i p / ent m p p) * ent m p j:=by
  intro i hi
  by_cases hip:i=p
  ·refine⟨CX m i,by unfold ZY;rw[Bc.2 hip];rfl,hs.2 i hi,λj hj=>?_⟩
   obtain⟨z,-,q⟩:=hq i hi j hj
   refine⟨q.1,?_⟩
   rw[Av hip];show ent m i j=_;grind
  ·obtain⟨zr,ar,hr⟩:=hq i hi p (by omega)
   cases h2:(atR (CX m i) p).1==0 with
   |true=>
    refine⟨CX m i,by unfold ZY;rw[GD hip,h2];rfl,hs.2 i hi,λj hj=>?_⟩
    obtain⟨z,-,q⟩:=hq i hi j hj
    refine⟨q.1,?_⟩
    rw[At hip]
    have:ent m i p=0:=(Wj hr.1).2 (Bc.1 h2)
    rw[this];show ent m i j=_;grind
   |false=>
    have ops:∀k,p<=k->k < n+1->EOk (atR (CX m i) k) (atR (CX m i) p) (atR (CX m p) p) (atR (CX m p) k):=λk _ hk=>by
     obtain⟨zx,ax,hx⟩:=hq i hi k (by omega)
     obtain⟨zy,ay,hy⟩:=hq p hp k (by omega)
     exact ti hD0 hx hy hr hc c0 (hB _ ax) (hB _ ay) (hB _ ar) (hB _ ac) kk1 kk2
    obtain⟨t,e,l,g⟩:=i9 (hs.2 i hi) (hs.2 p hp) (show p < n+1 by omega) (ops p (AT _) (by omega)).1 (λk hk hkn=>⟨(ops k hk hkn).2.1,(ops k hk hkn).2.2.1⟩)
    refine⟨t,by unfold ZY;rw[GD hip,h2];exact e,l,λj hj=>?_⟩
    rw[g j (by omega),At hip]
    split
    ·rename_i hjp
     obtain⟨z,-,q⟩:=hq i hi j hj
     refine⟨q.1,?_⟩
     have:=(hdg j hjp).2 p hp (by omega)
     rw[this];show ent m i j=_;grind
    ·rename_i hjp
     exact⟨(ops j (by omega) (by omega)).2.2.2.1,(ops j (by omega) (by omega)).2.2.2.2⟩
 have hR:∀i,∃r,i < n->ZY p i (CX m i) (CX m p)=some r∧r.length=n+1∧∀j,j<=n->Ee (atR r j)=true∧rv (atR r j)=ent m i j - (if i=p then 0 else ent m i p / ent m p p) * ent m p j:=λi=>by
  by_cases hi:i < n
  ·obtain⟨r,h⟩:=key i hi;exact⟨r,λ_=>h⟩
  ·exact⟨[],λh=>absurd h hi⟩
 obtain⟨R,hR⟩:=EI hR
 obtain⟨m',e,l,g⟩:=YT (R:=R) hp (λi hi=>(hR i hi).1) n 0 m (by omega) hs.1 (λk hk=>by omega) (λ_ _ _=>rfl)
 have ee:∀i,i < n->∀j,j<=n->ent m' i j=ent m i j - (if i=p then 0 else ent m i p / ent m p p) * ent m p j:=λi hi j hj=>by
  show rv (atR (CX m' i) j)=_
  rw[g i hi];exact((hR i hi).2.2 j hj).2
 refine⟨m',e,⟨l,λi hi=>by rw[g i hi];exact(hR i hi).2.1⟩,?_,?_,λt z=>qy hp (λi=>if i=p then 0 else ent m i p / ent m p p) (Av rfl) ee t z⟩
 ·refine⟨D * zc.natAbs,Md hD0 (by omega),?_,λi hi j hj=>?_⟩
  ·rw[BQ,Fh]
   exact BD (BC hDm (hB _ ac)) hD
  ·obtain⟨zx,ax,hx⟩:=hq i hi j hj
   obtain⟨zy,ay,hy⟩:=hq p hp j hj
   obtain⟨zr,ar,hr⟩:=hq i hi p (by omega)
   have vx:=Nc hD0 hx
   have vy:=Nc hD0 hy
   have vr:=Nc hD0 hr
   have oo:=(hR i hi).2.2 j hj
   rw[<-g i hi]at oo
   have e1:(zc:Rat) * (zc.sign:Rat)=((zc.natAbs:Int):Rat):=by exact_mod_cast Int.mul_sign_self zc
   have e2:=SH (show(zc.natAbs:Int)≠0 by omega)
   have e3:=SH c0
   by_cases hip:i=p
   ·refine⟨zx * zc.natAbs,(hA zx zx zc zx ax ax ac ax c0).2,Pj (Md hD0 (by omega)) oo.1 ?_⟩
    rw[oo.2,Av hip]
    show rv (atR (CX m i) j) - _=_
    rw[vx]
    push_cast at *
    grind
   ·refine⟨(zx * zc - zr * zy) * zc.sign,(hA zx zr zc zy ax ar ac ay c0).1,Pj (Md hD0 (by omega)) oo.1 ?_⟩
    rw[oo.2,At hip]
    show rv (atR (CX m i) j) - rv (atR (CX m i) p) / rv (atR (CX m p) p) * rv (atR (CX m p) j)=_
    rw[vx,vy,vr,vc]
    push_cast at *
    rw[<-e1]
    have e4:(zc.sign:Rat)≠0:=λh=>by rw[h]at e1;grind
    grind
 ·intro q hq'
  by_cases hqp:q=p
  ·subst hqp
   refine⟨?_,λi hi hiq=>?_⟩
   ·rw[ee q hp q (by omega),Av rfl];grind
   ·rw[ee i hi q (by omega),At hiq];grind
  ·have d:=hdg q (by omega)
   have d2:=d.2 p hp (by omega)
   refine⟨?_,λi hi hiq=>?_⟩
   ·rw[ee q (by omega) q (by omega),d2];have:=d.1;grind
   ·rw[ee i hi q (by omega),d2,d.2 i hi hiq];grind
theorem SP{f:Nat->Rat}:∀{n:Nat},(∀j,j < n->f j=0)->sm n f=0
 |0,_=>rfl
 |n+1,h=>by rw[sm,SP (n:=n) λj hj=>h j (by omega),h n (by omega)];grind
theorem Vy{f:Nat->Rat}{a:Nat}:∀{n:Nat},a < n->(∀j,j < n->j≠a->f j=0)->sm n f=f a
 |n+1,ha,h=>by
  rw[sm]
  by_cases e:a=n
  ·rw[SP (n:=n) λj hj=>h j (by omega) (by omega),e];grind
  ·rw[Vy (n:=n) (by omega) λj hj hja=>h j (by omega) hja,h n (by omega) (by omega)];grind
theorem gY{n p:Nat}{m:Mx}:∀(j k:Nat),k+j=n->(Nw m p j k=n∧∀i,k<=i->i < n->(atR (CX m i) p).1=0)∨(k<=Nw m p j k∧Nw m p j k < n∧(atR (CX m (Nw m p j k)) p).1≠0)
 |0,k,h=>.inl ⟨by rw[Nw];exact h,λi h1 h2=>by omega⟩
 |j+1,k,h=>by
  rw[Nw]
  cases e:(atR (CX m k) p).1==0 with
  |true=>
   rw[Ad]
   rcases gY (n:=n) (p:=p) (m:=m) j (k+1) (by omega)with⟨h1,h2⟩|⟨h1,h2,h3⟩
   ·refine .inl ⟨h1,λi h3 h4=>?_⟩
    by_cases hik:i=k
    ·rw[hik];exact Bc.1 e
    ·exact h2 i (by omega) h4
   ·exact .inr ⟨by omega,h2,h3⟩
  |false=>
   rw[Ae]
   exact .inr ⟨AT _,by omega,λh=>by rw[h]at e;cases e⟩
def swi(p k i:Nat):Nat:=if i=p then k else if i=k then p else i
theorem vH{m:Mx}{p k:Nat}(hp:p < m.length)(hk:k < m.length)(i:Nat):CX (V4 m p k) i=CX m (swi p k i):=by
 unfold V4 swi
 rw[QO _ (by simp;exact hp),QO _ hk]
 by_cases h1:i=p
 ·rw[Av h1.symm,Av h1];rfl
 ·rw[At (λe=>h1 e.symm),At h1]
  by_cases h2:i=k
  ·rw[Av h2.symm,Av h2];rfl
  ·rw[At (λe=>h2 e.symm),At h2]
theorem XO{n p k i:Nat}(hp:p < n)(hk:k < n)(hi:i < n):swi p k i < n:=by unfold swi;split;exact hk;split;exact hp;exact hi
theorem iz(p k i:Nat):swi p k (swi p k i)=i:=by
 unfold swi
 repeat' split
 all_goals omega
theorem mb{n p:Nat}{m:Mx}(hp:p < n)(hdg:Dg p n m)(h:∀i,p<=i->i < n->ent m i p=0):∃z:Nat->Rat,Sol n m 0 z∧z p≠0:=by
 refine⟨λj=>if j=p then 1 else if j < p then - (ent m j p / ent m j j)else 0,?_,by simp⟩
 intro i hi
 rw[show(0:Rat) * ent m i n=0 by grind]
 by_cases hip:i < p
 ·have d:=hdg i hip
  have e:sm n (λj=>ent m i j * (if j=p then 1 else if j < p then - (ent m j p / ent m j j)else 0))=sm n (λj=>(if j=p then ent m i p else 0) - (-1) * (if j=i then - ent m i p else 0)):=Du λj hj=>by
   by_cases h1:j=p
   ·rw[Av h1,Av h1,At (by omega),h1];grind
   ·rw[At h1,At h1]
    by_cases h2:j < p
    ·rw[Av h2]
     by_cases h3:j=i
     ·rw[Av h3,h3];have:=d.1;grind
     ·rw[At h3,(hdg j h2).2 i hi (λe=>h3 e.symm)];grind
    ·rw[At h2,At (by omega)];grind
  rw[e,ai,Vy hp (λj _ hj=>At hj),Vy hi (λj _ hj=>At hj),Av rfl,Av rfl]
  grind
 ·refine SP λj hj=>?_
  show ent m i j * (if j=p then 1 else if j < p then - (ent m j p / ent m j j)else 0)=0
  by_cases h1:j=p
  ·rw[h1,h i (by omega) hi];grind
  ·rw[At h1]
   by_cases h2:j < p
   ·rw[(hdg j h2).2 i hi (by omega)];grind
   ·rw[At h2];grind
def AA:Nat->Int->Prop
 |0,z=>z=0∨z=1
 |1,z=>z.natAbs<=1
 |2,z=>z.natAbs<=2
 |3,z=>z.natAbs<=8
 |4,z=>z.natAbs<=128
 |_,z=>z.natAbs<=32768
def BB:Nat->Nat
 |0=>1
 |1=>1
 |2=>2
 |3=>8
 |4=>128
 |_=>32768
def DD:Nat->Nat
 |0=>1
 |1=>1
 |2=>1
 |3=>2
 |4=>16
 |_=>2048
theorem jR{p:Nat}{z:Int}(h:AA p z):z.natAbs<=BB p:=by
 match p,h with
 |0,h=>
  have h:z=0∨z=1:=h
  rcases h with h|h<;>subst h<;>decide
 |1,h=>exact h
 |2,h=>exact h
 |3,h=>exact h
 |4,h=>exact h
 |_+5,h=>exact h
theorem pS{a b c d s:Int}{B K:Nat}(ha:a.natAbs<=B)(hb:b.natAbs<=B)(hc:c.natAbs<=B)(hd:d.natAbs<=B)(hs:s.natAbs<=1)(h:2 * (B * B)<=K):((a * c - b * d) * s).natAbs<=K∧(a * c.natAbs).natAbs<=K:=by
 have h1:(a * c).natAbs<=B * B:=by rw[BQ];exact BC ha hc
 have h2:(b * d).natAbs<=B * B:=by rw[BQ];exact BC hb hd
 refine⟨?_,?_⟩
 ·rw[BQ]
  exact BD (BC (show(a * c - b * d).natAbs<=K by omega) hs) (by omega)
 ·rw[BQ,Fh,<-BQ];omega
theorem qS(c:Int):c.sign.natAbs<=1:=by rw[Int.natAbs_sign];split<;>omega
theorem n4{p:Nat}(hp:p < 5)(a b c d:Int)(ha:AA p a)(hb:AA p b)(hc:AA p c)(hd:AA p d)(h0:c≠0):AA (p+1) ((a * c - b * d) * c.sign)∧AA (p+1) (a * c.natAbs):=by
 match p,hp with
 |0,_=>
  have ha:a=0∨a=1:=ha
  have hb:b=0∨b=1:=hb
  have hc:c=0∨c=1:=hc
  have hd:d=0∨d=1:=hd
  rcases ha with rfl|rfl<;>rcases hb with rfl|rfl<;>rcases hc with rfl|rfl<;>rcases hd with rfl|rfl<;>first|exact absurd rfl h0|exact⟨by show(_:Nat)<=1;decide,by show(_:Nat)<=1;decide⟩
 |1,_=>exact pS (B:=1) ha hb hc hd (qS c) (by decide)
 |2,_=>exact pS (B:=2) ha hb hc hd (qS c) (by decide)
 |3,_=>exact pS (B:=8) ha hb hc hd (qS c) (by decide)
 |4,_=>exact pS (B:=128) ha hb hc hd (qS c) (by decide)
theorem Ys{n:Nat}(hn:n<=5):∀(j p:Nat) (m:Mx),p+j=n->Shp n m->Stg n (AA p) (DD p) m->Dg p n m->
  (LX n j p m=none∧∃z,Sol n m 0 z∧∃i,i < n∧z i≠0)∨∃m',LX n j p m=some m'∧Shp n m'∧Stg n (AA n) (DD n) m'∧Dg n n m'∧∀t z,Sol n m t z↔Sol n m' t z
 |0,p,m,h,hs,hst,hdg=>.inr <| by
  have:p=n:=by omega
  subst this
  exact⟨m,rfl,hs,hst,hdg,λ_ _=>Dx⟩
 |j+1,p,m,h,hs,hst,hdg=>by
  have hp:p < n:=by omega
  rw[LX]
  rcases gY (n:=n) (p:=p) (m:=m) (n - p) p (by omega)with⟨h1,h2⟩|⟨h1,h2,h3⟩
  ·left
   rw[h1,Bu,Ad]
   obtain⟨D,hD,_,hq⟩:=hst
   obtain⟨z,hz,hz0⟩:=mb hp hdg (λi hi hin=>by
    obtain⟨w,_,q⟩:=hq i hin p (by omega)
    exact(Wj q.1).2 (h2 i hi hin))
   exact⟨rfl,z,hz,p,hp,hz0⟩
  ·have hk':Nw m p (n - p) p < m.length:=by rw[hs.1];exact h2
   generalize Nw m p (n - p) p=k at *
   rw[GD (by omega),Ae]
   have sat:=vH (m:=m) (p:=p) (k:=k) (by rw[hs.1];exact hp) hk'
   have se:∀i j,ent (V4 m p k) i j=ent m (swi p k i) j:=λi j=>by unfold ent;rw[sat]
   have hs':Shp n (V4 m p k):=⟨by unfold V4;simp[hs.1],λi hi=>by rw[sat];exact hs.2 _ (XO hp h2 hi)⟩
   have hst':Stg n (AA p) (DD p) (V4 m p k):=by
    obtain⟨D,hD,hd,hq⟩:=hst
    exact⟨D,hD,hd,λi hi j hj=>by rw[sat];exact hq _ (XO hp h2 hi) j hj⟩
   have hdg':Dg p n (V4 m p k):=λq hq=>by
    have e:swi p k q=q:=by unfold swi;rw[At (by omega),At (by omega)]
    refine⟨by rw[se,e];exact(hdg q hq).1,λi hi hiq=>?_⟩
    rw[se]
    refine(hdg q hq).2 _ (XO hp h2 hi) λh=>hiq ?_
    have:=iz p k i;rw[h,e]at this;exact this.symm
   have hsol:∀t z,Sol n m t z↔Sol n (V4 m p k) t z:=λt z=>by
    constructor
    ·intro s i hi
     have:=s _ (XO hp h2 hi)
     rw[se,Du λj _=>by rw[se]];exact this
    ·intro s i hi
     have:=s _ (XO hp h2 hi)
     rw[se,Du λj _=>by rw[se]]at this
     rw[iz]at this;exact this
   have h0:ent (V4 m p k) p p≠0:=by
    rw[se,show swi p k p=k by unfold swi;rw[Av rfl]]
    obtain⟨D,hD,_,hq⟩:=hst
    obtain⟨w,_,q⟩:=hq k h2 p (by omega)
    exactλe=>h3 ((Wj q.1).1 e)
   have hcond:DD p * BB p<=DD (p+1)∧2 * (BB p * BB p * DD p)<=1000000000∧DD p * (BB p * DD p)<=1000000000:=by
    match p,(show p < 5 by omega)with
    |0,_=>decide
    |1,_=>decide
    |2,_=>decide
    |3,_=>decide
    |4,_=>decide
   obtain⟨m1,e1,s1,st1,d1,so1⟩:=mz (A':=AA (p+1)) hp hs' hst' hdg' h0 (λz=>jR) (n4 (by omega)) hcond.1 hcond.2.1 hcond.2.2
   rw[e1]
   rcases Ys hn j (p+1) m1 (by omega) s1 st1 d1 with⟨e2,z,hz,hz0⟩|⟨m2,e2,s2,st2,d2,so2⟩
   ·exact .inl ⟨e2,z,(hsol 0 z).2 ((so1 0 z).2 hz),hz0⟩
   ·exact .inr ⟨m2,e2,s2,st2,d2,λt z=>(hsol t z).trans ((so1 t z).trans (so2 t z))⟩
def pz(r:Rt):Prop:=r=(0,1)∨r=(1,1)
theorem lp{r:Rt}(h:pz r):∃z,AA 0 z∧Yd r z 1:=by
 rcases h with h|h<;>subst h
 ·exact⟨0,.inl rfl,by decide,by decide⟩
 ·exact⟨1,.inr rfl,by decide,by decide⟩
theorem de{a:Mx}{b:List Rt}{n i:Nat}(hb:b.length=n)(hi:i < n):CX (Oq a b) i=CX a i++[atR b i]:=by
 unfold Oq
 show List.getD _ i []=_
 rw[Af,AW,JG (by omega)]
 simp
theorem aM{l:List Rt}{x:Rt}{n j:Nat}(hl:l.length=n):atR (l++[x]) j=if j < n then atR l j else if j=n then x else(0,0):=by
 unfold atR
 rw[Af,List.getElem?_append]
 split
 ·rename_i h;rw[Av (by omega),Af]
 ·rename_i h
  rw[At (by omega)]
  split
  ·rename_i h2;rw[h2,hl,La];rfl
  ·rename_i h2
   rw[A2 (by simp;omega)];rfl
theorem ip{n:Nat}{a:Mx}{b:List Rt}(hn:n<=5)(hs:PF a b=true)(hb:b.length=n)(hrow:∀i,i < n->∀j,j < n->pz (atR (CX a i) j))(hb1:∀i,i < n->pz (atR b i)):
  ((KF a b).2=false∧∃z:Nat->Rat,(∀i,i < n->sm n (λj=>rv (atR (CX a i) j) * z j)=0)∧∃j,j < n∧z j≠0)∨
  ((KF a b).2=true∧(KF a b).1.length=n∧(∀j,j < n->Ee (atR (KF a b).1 j)=true)∧∀(t:Rat) (z:Nat->Rat),(∀i,i < n->sm n (λj=>rv (atR (CX a i) j) * z j)=t * rv (atR b i))->∀j,j < n->z j=t * rv (atR (KF a b).1 j)):=by
 have hs2:=hs
 unfold PF at hs2
 simp only[Aa,Bc,Ah]at hs2
 have hal:a.length=n:=by omega
 have hrl:∀i,i < n->(CX a i).length=n:=λi hi=>by
  have:CX a i∈a:=by
   unfold CX;rw[Af,Ac (by omega)];exact Aj _
  have:=hs2.2.1 _ this
  unfold rowOk at this
  simp only[Aa,Bc]at this
  omega
 have shp:Shp n (Oq a b):=by
  refine⟨by unfold Oq;simp[hb],λi hi=>by rw[de hb hi,Aw,hrl i hi];rfl⟩
 have at1:∀i,i < n->∀j,j < n->atR (CX (Oq a b) i) j=atR (CX a i) j:=λi hi j hj=>by rw[de hb hi,aM (hrl i hi),Av hj]
 have at2:∀i,i < n->atR (CX (Oq a b) i) n=atR b i:=λi hi=>by rw[de hb hi,aM (hrl i hi),At (by omega),Av rfl]
 have stg:Stg n (AA 0) (DD 0) (Oq a b):=⟨1,by decide,by decide,λi hi j hj=>by
  by_cases h:j < n
  ·rw[at1 i hi j h];exact lp (hrow i hi j h)
  ·rw[show j=n by omega,at2 i hi];exact lp (hb1 i hi)⟩
 have hsol:∀t z,Sol n (Oq a b) t z↔∀i,i < n->sm n (λj=>rv (atR (CX a i) j) * z j)=t * rv (atR b i):=λt z=>by
  have e:∀i,i < n->sm n (λj=>ent (Oq a b) i j * z j)=sm n (λj=>rv (atR (CX a i) j) * z j):=λi hi=>Du λj hj=>by unfold ent;rw[at1 i hi j hj]
  constructor
  ·intro s i hi;have:=s i hi;rw[e i hi]at this;unfold ent at this;rw[at2 i hi]at this;exact this
  ·intro s i hi;rw[e i hi];unfold ent;rw[at2 i hi];exact s i hi
 have es:KF a b=match LX n n 0 (Oq a b)with
   |none=>([],false)
   |some m=>match JE (Qa n m) n 0 with
    |.inl x=>(x,true)
    |.inr o=>o:=by
  unfold KF
  rw[hb,Ag (by omega),Ae,hs,Ad]
  all_goals rfl
 rcases Ys hn n 0 (Oq a b) (by omega) shp stg (λq hq=>by omega)with⟨em,z,hz,hz0⟩|⟨m,em,sm_,⟨D,hD,hDm,hq⟩,dg,so⟩
 ·left
  rw[es,em]
  exact⟨rfl,z,λi hi=>by have:=(hsol 0 z).1 hz i hi;rw[this];grind,hz0⟩
 right
 have bnd:BB n<=32768∧DD n<=2048:=by
  match n,hn with
  |0,_=>decide
  |1,_=>decide
  |2,_=>decide
  |3,_=>decide
  |4,_=>decide
  |5,_=>decide
 have quo:∀i,i < n->(Hj (atR (CX m i) n) (atR (CX m i) i)).2=true∧Ee (Hj (atR (CX m i) n) (atR (CX m i) i)).1=true∧rv (Hj (atR (CX m i) n) (atR (CX m i) i)).1=ent m i n / ent m i i:=λi hi=>by
  obtain⟨z1,a1,q1⟩:=hq i hi n (AT _)
  obtain⟨z2,a2,q2⟩:=hq i hi i (by omega)
  have s1:=Jb hD q1
  have s2:=Jb hD q2
  have b1:=jR a1
  have b2:=jR a2
  have f1:=Cd q1.1
  have f2:=Cd q2.1
  refine mP q1.1 q2.1 (λe=>(dg i hi).1 ((Wj q2.1).2 e)) ?_ ?_
  ·rw[BQ]
   exact BD (BC (show _<=32768 by omega) (show _<=2048 by omega)) (by decide)
  ·rw[BQ]
   exact BD (BC (show _<=2048 by omega) (show _<=32768 by omega)) (by decide)
 have diag:∀i,i < n->∀z:Nat->Rat,sm n (λj=>ent m i j * z j)=ent m i i * z i:=λi hi z=>Vy hi λj hj hji=>by rw[(dg j hj).2 i hi (λe=>hji e.symm)];grind
 have em2:JE (Qa n m) n 0=.inl ((List.range' 0 n).map λi=>(Hj (atR (CX m i) n) (atR (CX m i) i)).1):=R2 n 0 λi _ hi=>by
  unfold Qa;rw[(quo i (by omega)).1];rfl
 have ef:KF a b=((List.range' 0 n).map λi=>(Hj (atR (CX m i) n) (atR (CX m i) i)).1,true):=by
  rw[es,em];simp only[em2]
 have e:∀j,j < n->atR ((List.range' 0 n).map λi=>(Hj (atR (CX m i) n) (atR (CX m i) i)).1) j=(Hj (atR (CX m j) n) (atR (CX m j) j)).1:=λj hj=>by
  unfold atR
  rw[Af,AW,JG hj]
  simp
 rw[ef]
 refine⟨rfl,by simp,λj hj=>by rw[e j hj];exact(quo j hj).2.1,λt z hz j hj=>?_⟩
 rw[e j hj,(quo j hj).2.2]
 have:=(so t z).1 ((hsol t z).2 hz) j hj
 rw[diag j hj]at this
 have:=(dg j hj).1
 grind
theorem cJ{α O:Type}(g:Nat->List α):∀(j k:Nat) (s:List α),Lf (O:=O) (λk s=>.inl (s++g k)) j k s=.inl (s++(List.range' k j).flatMap g)
 |0,k,s=>by rw[Lf];simp
 |j+1,k,s=>by rw[Lf];simp only;rw[cJ g j (k+1),Db,AH,Bj]
theorem OZ{α β O:Type}(g:Nat->α)(h:Nat->β):∀(j k:Nat) (s:List α×List β),Lf (O:=O) (λk s=>.inl (s.1++[g k],s.2++[h k])) j k s=.inl (s.1++(List.range' k j).map g,s.2++(List.range' k j).map h)
 |0,k,s=>by rw[Lf];simp
 |j+1,k,s=>by rw[Lf];simp only;rw[OZ g h j (k+1),Db,AC,AC,Bj,Bj];rfl
theorem hZ{O:Type}(g:Nat->Bool):∀(j k:Nat) (s:Bool),Lf (O:=O) (λk s=>.inl (s || g k)) j k s=.inl (s || (List.range' k j).any g)
 |0,k,s=>by rw[Lf];simp
 |j+1,k,s=>by rw[Lf];simp only;rw[hZ g j (k+1),Db,H0,Bool.or_assoc]
theorem Q6{S O:Type}(g:S->Nat->S):∀(j k:Nat) (s:S),Lf (O:=O) (λk s=>.inl (g s k)) j k s=.inl ((List.range' k j).foldl g s)
 |0,k,s=>by rw[Lf];simp
 |j+1,k,s=>by rw[Lf];simp only;rw[Q6 g j (k+1),Db,Cz]
theorem getD_map{α β:Type}(d:α)(h:α->β)(l:List α):(List.range' 0 l.length).map (λk=>h (l.getD k d))=l.map h:=by
 apply CD
 ·simp
 ·intro i h1 h2
  simp only[Ak,Gi]at h1
  rw[Be,DR,Be,Af]
  simp[Ac h1]
theorem dD{α S:Type}(d:α)(g:S->α->S)(l:List α)(s:S):(List.range' 0 l.length).foldl (λs k=>g s (l.getD k d)) s=l.foldl g s:=by
 have:=getD_map d (λx=>x) l
 rw[List.map_id']at this
 conv=>rhs;rw[<-this]
 rw[List.foldl_map]
theorem Ss{α β:Type}{f:List β->α->List β}(h:∀s x,(f s x).length<=s.length+1):∀(l:List α) (s:List β),(l.foldl f s).length<=s.length+l.length
 |[],s=>by simp
 |x::l,s=>by
  rw[Cz,AQ]
  have h1:=Ss h l (f s x)
  have h2:=h s x
  omega
theorem fK{α β:Type}{f:α->List β}{M:Nat}:∀{l:List α},(∀x∈l,(f x).length<=M)->(l.flatMap f).length<=l.length * M
 |[],_=>by simp
 |x::l,h=>by
  rw[AH,Aw,AQ,FC]
  have h1:=h x Bg
  have h2:=fK (f:=f) (l:=l) λy hy=>h y (AE _ hy)
  omega
theorem Qi{α β:Type}{l:List α}{B:(List β×Int->Option (List β))->List β×Int->Option (List β)}{s0:List β}{h:α->β}(hl:s0.length+l.length<=lim)
  (h1:∀k (hk:k < l.length) s rec,s.length=s0.length+k->B rec (s,(k:Int))=rec (s++[h l[k]],((k+1:Nat):Int))) (h2:∀rec s,B rec (s,(l.length:Int))=some s):Au B fz (s0,0)=some (s0++l.map h):=by
 have key:∀(j k:Nat) (s:List β) (f:Nat),k+j=l.length->j < f->s.length=s0.length+k->Au B f (s,(k:Int))=some (s++(l.drop k).map h):=by
  intro j
  induction j with
  |zero=>
   intro k s f hk hf hs
   obtain⟨f,rfl⟩:∃g,f=g+1:=⟨f - 1,by omega⟩
   obtain rfl:k=l.length:=by omega
   rw[By,h2,Ez];simp
  |succ j ih=>
   intro k s f hk hf hs
   obtain⟨f,rfl⟩:∃g,f=g+1:=⟨f - 1,by omega⟩
   have hlt:k < l.length:=by omega
   rw[By,h1 k hlt s _ hs,ih (k+1) _ f (by omega) (by omega) (by rw[Aw,hs];simp;omega),AR hlt,AC,Bj];rfl
 have:=key l.length 0 s0 fz (by omega) (Ho (by omega)) (by omega)
 simpa using this
def Ny(t:Nat):Nat->Nat->List zN
 |0,_=>[[]]
 |r+1,fr=>(List.range' fr (t - r - fr)).flatMap λi=>(Ny t r (i+1)).map (i:: ·)
def cI(c:zN):zI:=c.map λ(e:Nat)=>(e:Int)
theorem QR{t:Nat}(ht:t<=11):∀(r fr:Nat),(Ny t r fr).length<=11 ^ r
 |0,_=>AT 1
 |r+1,fr=>by
  rw[Ny]
  have:=fK (f:=λi=>(Ny t r (i+1)).map (i:: ·)) (M:=11 ^ r) (l:=List.range' fr (t - r - fr)) λi _=>by rw[Ak];exact QR ht r (i+1)
  refine BD this ?_
  rw[Gi,CQ,C6]
  exact HM _ (by omega)
theorem U0{t:Nat}:∀{r fr:Nat}{c:zN},c∈Ny t r fr->c.length=r∧∀e∈c,e < t
 |0,_,c,h=>by
  rw[Ny,AP]at h
  subst h;exact⟨rfl,by simp⟩
 |r+1,fr,c,h=>by
  rw[Ny,Cj]at h
  obtain⟨i,hi,h⟩:=h
  obtain⟨d,hd,rfl⟩:=A3.1 h
  obtain⟨h1,h2⟩:=U0 hd
  rw[IOQ]at hi
  refine⟨by rw[AQ,h1],λe he=>?_⟩
  rcases AB.1 he with rfl|he
  ·omega
  ·exact h2 e he
theorem cw{r:Nat}(h:r<=5):11 ^ r<=161051:=BD (Cr (by omega) h) (by decide)
theorem m7{t:Nat}(ht:t<=10):∀(r fr f:Nat),r<=5->fr<=11->r < f->Au Gp f ((fr:Int),(t:Int),(r:Int))=some ((Ny t r fr).map cI)
 |0,fr,f,_,_,hf=>by
  obtain⟨f,rfl⟩:∃g,f=g+1:=⟨f - 1,by omega⟩
  rfl
 |r+1,fr,f,hr,hfr,hf=>by
  obtain⟨f,rfl⟩:∃g,f=g+1:=⟨f - 1,by omega⟩
  have hp:=cw (show r<=5 by omega)
  rw[By]
  show cond (((r+1:Nat):Int)==0) (some [[]]) (Ab (Au (OE (t:Int) ((r+1:Nat):Int) (Au Gp f)) fz ([],(fr:Int))) λz4=>some z4)=_
  rw[show(((r+1:Nat):Int)==0)=false from by rw[Cn];omega,Ae]
  have hl:=SN (B:=OE (t:Int) ((r+1:Nat):Int) (Au Gp f)) (n:=fr+(t - r - fr)) (O:=Unit) (λ(s:List zI) k=>(s,(k:Int))) (λk s=>fr<=k∧s.length<=(k - fr) * 11 ^ r) (λk s=>.inl (s++((Ny t r (k+1)).map cI).map ([(k:Int)]++ ·))) (λo=>match o with|.inl s=>s|.inr _=>[])
   (λrec k s hk hi=>by
    have hkt:k+r+1<=t:=by omega
    show cond (decide (wZ ((k:Int)+((r+1:Nat):Int))<=(t:Int))) _ _=_
    rw[wrap_in (by omega),Ai (by omega),Ad,show wZ ((k:Int)+1)=((k+1:Nat):Int)from by rw[wrap_in (by omega)];omega,show wZ (((r+1:Nat):Int) - 1)=(r:Int)from by rw[wrap_in (by omega)];omega,m7 ht r (k+1) f (by omega) (by omega) (by omega)]
    simp only[Ab]
    have hc:=QR (t:=t) (by omega) r (k+1)
    have hm:(k - fr) * 11 ^ r<=11 * 161051:=BC (by omega) hp
    rw[Qi (B:=Rs (k:Int) ((Ny t r (k+1)).map cI)) (l:=(Ny t r (k+1)).map cI) (s0:=s) (h:=([(k:Int)]++ ·)) (by rw[Ak];unfold lim;omega) (λq hq s' rec hs=>by
     show cond (decide ((q:Int) < (((Ny t r (k+1)).map cI).length:Int))) _ _=_
     rw[Br hq,Ad,Bd hq]
     simp only[Ab]
     have hql:q < (Ny t r (k+1)).length:=by simpa using hq
     have he:(((Ny t r (k+1)).map cI)[q]).length=r:=by
      rw[Be];unfold cI;rw[Ak];exact(U0 (Aj hql)).1
     rw[AX (by rw[he];simp;unfold lim;omega),AX (by rw[hs];simp;unfold lim;omega),BG hq (by rw[Ak];unfold maxLen;omega)]) (λrec s'=>by
     show cond (decide ((((Ny t r (k+1)).map cI).length:Int) < (((Ny t r (k+1)).map cI).length:Int))) _ _=_
     rw[Bm];rfl)])
   (λrec s hi=>by
    show cond (decide (wZ (((fr+(t - r - fr):Nat):Int)+((r+1:Nat):Int))<=(t:Int))) _ _=_
    rw[wrap_in (by omega),Ag (by omega)];rfl)
   (λk s s' hk hi hs=>by
    cases hs
    refine⟨by omega,?_⟩
    rw[Aw,Ak,Ak,show k+1 - fr=(k - fr)+1 from by omega,FC]
    have hc:=QR (t:=t) (by omega) r (k+1)
    omega) (t - r - fr) fr [] fz rfl (by unfold fz;omega) ⟨AT _,by simp⟩
  rw[hl,cJ]
  simp only[Ab,Bl]
  rw[Ny,List.map_flatMap]
  congr 2
  funext k
  rw[C0,C0]
  congr 1
def QI(n i:Nat):List Rt:=(List.replicate n (0,1)).set i (1,1)
def rowAt(p:LP)(j:Nat):List Rt:=if j < p.2.1.length then CX p.1 j else QI p.2.2.length (j - p.2.1.length)
def Dl(p:LP)(j:Nat):Rt:=if j < p.2.1.length then atR p.2.1 j else(0,1)
def visit(p:LP)(sg:Int)(out:Mx)(c:zN):Mx:=cond (KF (c.map (rowAt p)) (c.map (Dl p))).2 (cond (Lh p (KF (c.map (rowAt p)) (c.map (Dl p))).1 sg) (cond (out.any (· ==(KF (c.map (rowAt p)) (c.map (Dl p))).1)) out (out++[(KF (c.map (rowAt p)) (c.map (Dl p))).1])) out) out
theorem ST(p:LP)(sg:Int)(out:Mx)(c:zN):(visit p sg out c).length<=out.length+1:=by
 unfold visit
 cases(KF (c.map (rowAt p)) (c.map (Dl p))).2 with
 |false=>simp
 |true=>
  cases Lh p (KF (c.map (rowAt p)) (c.map (Dl p))).1 sg with
  |false=>simp
  |true=>
   cases out.any (· ==(KF (c.map (rowAt p)) (c.map (Dl p))).1)with
   |true=>simp
   |false=>simp
theorem vG(a:Mx)(b:List Rt):(KF a b).2=false->(KF a b).1=[]:=by
 unfold KF
 cases decide (6 < (b.length:Int))with
 |true=>exactλ_=>rfl
 |false=>
  cases PF a b with
  |false=>exactλ_=>rfl
  |true=>
   simp only[Ae,Ad]
   cases hg:LX b.length b.length 0 (Oq a b)with
   |none=>exactλ_=>rfl
   |some m=>
    simp only
    cases hm:JE (Qa b.length m) b.length 0 with
    |inl x=>exactλh=>by cases h
    |inr o=>
     exactλ_=>Us (P:=λo=>o.1=[]) (λk o ho=>by
      unfold Qa at ho
      cases hc:(Hj (atR (CX m k) b.length) (atR (CX m k) k)).2 with
      |false=>rw[hc]at ho;cases ho;rfl
      |true=>rw[hc]at ho;cases ho) hm
theorem ah{a:Mx}{b:List Rt}(h:b.length<=lim):(KF a b).1.length<=lim:=by
 cases hv:(KF a b).2 with
 |true=>rw[io (a:=a) (b:=b) (x:=(KF a b).1) (by rw[<-hv])];exact h
 |false=>rw[vG a b hv];simp
theorem eQ{p:LP}(h:p.2.2.length<=lim):Au (Nq p) fz ([],0)=some (List.replicate p.2.2.length (0,1)):=by
 rw[Qi (B:=Nq p) (l:=p.2.2) (s0:=[]) (h:=λ_=>((0:Int),(1:Int))) (by simpa using h) (λk hk s rec hs=>by
  show cond (decide ((k:Int) < (p.2.2.length:Int))) _ _=_
  rw[Br hk,Ad,AX (by rw[hs];simp;unfold lim at h⊢;omega),BG hk (Bq h)]) (λrec s=>by
  show cond (decide ((p.2.2.length:Int) < (p.2.2.length:Int))) _ _=_
  rw[Bm];rfl),Bl,List.map_const']
theorem zX{p:LP}(hv:OT p=true){v1:List zI}{y:Int}{c:zN}(hg:AZ v1 y=some (cI c))(hc:c.length=p.2.2.length)(hin:∀e∈c,e < p.2.1.length+p.2.2.length):
  Au (KN p v1 y) fz ([],[],0)=some (c.map (rowAt p),c.map (Dl p)):=by
 obtain⟨h1,h2,h3,h4,h5,h6⟩:=K1 hv
 have hl:p.2.2.length<=lim:=by unfold lim;omega
 have hr:=Ep (B:=KN p v1 y) (n:=p.2.2.length) (O:=Unit) (λ(s:Mx×List Rt) k=>(s.1,s.2,(k:Int))) (λk s=>s.1.length=k∧s.2.length=k) (λk s=>.inl (s.1++[rowAt p (c.getD k 0)],s.2++[Dl p (c.getD k 0)])) (λo=>match o with|.inl s=>s|.inr _=>([],[])) hl (λrec k s hk hi=>by
  have hkc:k < c.length:=by rw[hc];exact hk
  have hck:c.getD k 0=c[k]:=by rw[Af,Ac hkc];rfl
  have he:=hin c[k] (Aj hkc)
  show cond (decide ((k:Int) < (p.2.2.length:Int))) _ _=_
  rw[Br hk,Ad,hg]
  simp only[Ab]
  rw[Bd (show k < (cI c).length by unfold cI;rw[Ak];exact hkc)]
  simp only[Ab]
  rw[show(cI c)[k]'(by unfold cI;rw[Ak];exact hkc)=((c[k]:Nat):Int)from by unfold cI;rw[Be],hck]
  unfold rowAt Dl
  have hJ:∀a b,Iq rec (k:Int) a b=rec (a,b,((k+1:Nat):Int)):=λa b=>by unfold Iq;rw[BG hk (Bq hl)]
  by_cases hm:c[k] < p.2.1.length
  ·rw[Av hm,Av hm,Br hm,Ad,F8 (by rw[h5];exact hm)]
   simp only[Ab]
   rw[AX (by rw[hi.1];simp;unfold lim;omega),Em hm]
   simp only[Ab]
   rw[AX (by rw[hi.2];simp;unfold lim;omega),hJ]
  ·have hz:(List.replicate p.2.2.length ((0:Int),(1:Int))).length=p.2.2.length:=Cc
   have hw:wZ (((c[k]:Nat):Int) - (p.2.1.length:Int))=((c[k] - p.2.1.length:Nat):Int):=by rw[wrap_in (by omega)];omega
   rw[At hm,At hm,Ag (by omega),Ae,eQ hl]
   simp only[Ab]
   rw[AX (by rw[hz];omega),hw,Bd (show c[k] - p.2.1.length < (List.replicate p.2.2.length ((0:Int),(1:Int))).length by rw[hz];omega)]
   simp only[Ab]
   rw[AX (by rw[hi.1];simp;unfold lim;omega),AX (by rw[hi.2];simp;unfold lim;omega),hJ]
   simp only[DJ,AL]
   rfl) (λrec s hi=>by
  show cond (decide ((p.2.2.length:Int) < (p.2.2.length:Int))) _ _=_
  rw[Bm];rfl) (λk s s' hk hi hs=>by cases hs;exact⟨by simp[hi.1],by simp[hi.2]⟩) ([],[]) ⟨rfl,rfl⟩
 rw[show(([]:Mx),([]:List Rt),(0:Int))=((([],[]):Mx×List Rt).1,(([],[]):Mx×List Rt).2,((0:Nat):Int))from rfl,hr,OZ]
 simp only[Bl]
 rw[<-hc,getD_map 0 (rowAt p) c,getD_map 0 (Dl p) c]
theorem qJ{out:Mx}{v:List Rt×Bool}(h:out.length<=lim)(hr:∀r∈out,r.length<=lim):Au (KO out v) fz (false,0)=some (out.any (· ==v.1)):=by
 have hl:=Ep (B:=KO out v) (n:=out.length) (O:=Unit) (λ(s:Bool) k=>(s,(k:Int))) (λ_ _=>True) (λk s=>.inl (s || (out.getD k []==v.1))) (λo=>match o with|.inl s=>s|.inr _=>false) h (λrec k s hk _=>by
  show cond (decide ((k:Int) < (out.length:Int))) _ _=_
  have hJ:∀b,Is rec (k:Int) b=rec (b,((k+1:Nat):Int)):=λb=>by unfold Is;rw[BG hk (Bq h)]
  rw[Br hk,Ad]
  cases s with
  |true=>rw[Ad,hJ];rfl
  |false=>
   rw[Ae,F8 hk]
   simp only[Ab]
   rw[zK (by rw[<-GY hk];exact hr _ (Aj hk))]
   simp only[Ab]
   rw[hJ];rfl) (λrec s _=>by
  show cond (decide ((out.length:Int) < (out.length:Int))) _ _=_
  rw[Bm];rfl) (λ_ _ _ _ _ _=>trivial) false trivial
 rw[show((0:Nat):Int)=0 from rfl]at hl
 rw[hl,hZ]
 simp only[BZ]
 have:(List.range' 0 out.length).any (λk=>out.getD k []==v.1)=((List.range' 0 out.length).map (λk=>(λx=>x==v.1) (out.getD k []))).any id:=by rw[List.any_map];rfl
 rw[this,getD_map [] (λx=>x==v.1) out,List.any_map];rfl
def Q5(m:Mx):Prop:=∀r∈m,r.length<=lim
theorem Y3{p:LP}(sg:Int){out:Mx}{c:zN}(hc:c.length<=lim)(h:Q5 out):Q5 (visit p sg out c):=by
 unfold visit
 cases(KF (c.map (rowAt p)) (c.map (Dl p))).2 with
 |false=>exact h
 |true=>
  cases Lh p (KF (c.map (rowAt p)) (c.map (Dl p))).1 sg with
  |false=>exact h
  |true=>
   cases out.any (· ==(KF (c.map (rowAt p)) (c.map (Dl p))).1)with
   |true=>exact h
   |false=>
    intro r hr
    rcases Al.1 hr with hr|hr
    ·exact h r hr
    ·rw[AP]at hr;subst hr;exact ah (by rw[Ak];exact hc)
def Iz(p:LP)(sg:Int):Mx:=(Ny (p.2.1.length+p.2.2.length) p.2.2.length 0).foldl (visit p sg) []
theorem m8{p:LP}{sg:Int}(hv:OT p=true):Np p sg=some (Iz p sg):=by
 obtain⟨h1,h2,h3,h4,h5,h6⟩:=K1 hv
 have hsm:XB p:=⟨by rw[h5];unfold lim;omega,by unfold lim;omega,by unfold lim;omega⟩
 unfold Np Iz
 rw[show wZ ((p.2.1.length:Int)+(p.2.2.length:Int))=((p.2.1.length+p.2.2.length:Nat):Int)from by rw[wrap_in (by omega)];omega]
 unfold Ra
 have hp:=m7 (t:=p.2.1.length+p.2.2.length) (by omega) p.2.2.length 0 fz (by omega) (by omega) (by unfold fz;omega)
 rw[show((0:Nat):Int)=0 from rfl]at hp
 rw[hp]
 simp only[Ab]
 have hcl:=QR (t:=p.2.1.length+p.2.2.length) (by omega) p.2.2.length 0
 have hpw:=cw h2
 have hll:(Ny (p.2.1.length+p.2.2.length) p.2.2.length 0).length<=lim:=by unfold lim;omega
 have hl:=Ep (B:=KM p sg ((Ny (p.2.1.length+p.2.2.length) p.2.2.length 0).map cI)) (n:=(Ny (p.2.1.length+p.2.2.length) p.2.2.length 0).length) (O:=Unit) (λ(s:Mx) k=>(s,(k:Int))) (λk s=>s.length<=k∧Q5 s) (λk s=>.inl (visit p sg s ((Ny (p.2.1.length+p.2.2.length) p.2.2.length 0).getD k []))) (λo=>match o with|.inl s=>s|.inr _=>[]) hll (λrec k s hk hi=>by
  have hcm:=U0 (Aj hk)
  have hgd:(Ny (p.2.1.length+p.2.2.length) p.2.2.length 0).getD k []=(Ny (p.2.1.length+p.2.2.length) p.2.2.length 0)[k]:=by rw[Af,Ac hk];rfl
  rw[hgd]
  show cond (decide ((k:Int) < (((Ny (p.2.1.length+p.2.2.length) p.2.2.length 0).map cI).length:Int))) _ _=_
  rw[Ak,Br hk,Ad,zX hv (y:=(k:Int)) (c:=(Ny (p.2.1.length+p.2.2.length) p.2.2.length 0)[k]) (by rw[Bd (by rw[Ak];exact hk),Be]) hcm.1 hcm.2]
  simp only[Ab]
  have hc1:(Ny (p.2.1.length+p.2.2.length) p.2.2.length 0)[k].length<=lim:=by rw[hcm.1];unfold lim;omega
  rw[zT (by rw[Ak];exact hc1) (by rw[Ak];exact hc1)]
  simp only[Ab]
  unfold visit
  have hJ:∀b,GH rec (k:Int) b=rec (b,((k+1:Nat):Int)):=λb=>by unfold GH;rw[BG hk (Bq hll)]
  cases(KF (((Ny (p.2.1.length+p.2.2.length) p.2.2.length 0)[k]).map (rowAt p)) (((Ny (p.2.1.length+p.2.2.length) p.2.2.length 0)[k]).map (Dl p))).2 with
  |false=>unfold Ir;rw[Ae,Ae,hJ];rfl
  |true=>
   rw[Ad,Ad,vC hsm (ah (by rw[Ak];exact hc1))]
   simp only[Ab]
   unfold Ir
   cases Lh p (KF (((Ny (p.2.1.length+p.2.2.length) p.2.2.length 0)[k]).map (rowAt p)) (((Ny (p.2.1.length+p.2.2.length) p.2.2.length 0)[k]).map (Dl p))).1 sg with
   |false=>rw[Ae,Ae,hJ]
   |true=>
    rw[Ad,Ad,qJ (by unfold lim;omega) hi.2]
    simp only[Ab]
    cases s.any (· ==(KF (((Ny (p.2.1.length+p.2.2.length) p.2.2.length 0)[k]).map (rowAt p)) (((Ny (p.2.1.length+p.2.2.length) p.2.2.length 0)[k]).map (Dl p))).1)with
    |true=>rw[An,Ae,Ad,hJ]
    |false=>rw[CJ,Ad,Ae,AX (by simp;unfold lim;omega),hJ]) (λrec s _=>by
  show cond (decide ((((Ny (p.2.1.length+p.2.2.length) p.2.2.length 0).length:Nat):Int) < (((Ny (p.2.1.length+p.2.2.length) p.2.2.length 0).map cI).length:Int))) _ _=_
  rw[Ak,Bm];rfl) (λk s s' hk hi hs=>by
  cases hs
  have:=ST p sg s ((Ny (p.2.1.length+p.2.2.length) p.2.2.length 0).getD k [])
  refine⟨by omega,Y3 sg ?_ hi.2⟩
  rw[Af,Ac hk,Cy,(U0 (Aj hk)).1];unfold lim;omega) [] ⟨by simp,λr hr=>by simp at hr⟩
 rw[show((0:Nat):Int)=0 from rfl]at hl
 rw[hl,Q6 (λs k=>visit p sg s ((Ny (p.2.1.length+p.2.2.length) p.2.2.length 0).getD k [])),dD [] (visit p sg)]
def bt(b:Bool):Rt:=(cond b 1 0,1)
def gB(l:List Bool)(i:Nat):Bool:=l.getD i false
def allB:Nat->List (List Bool)
 |0=>[[]]
 |n+1=>(allB n).flatMap λl=>[false::l,true::l]
theorem RG:∀l:List Bool,l∈allB l.length
 |[]=>AP.2 rfl
 |b::l=>by
  rw[AQ,allB,Cj]
  refine⟨l,RG l,?_⟩
  cases b
  ·exact Bg
  ·exact AE _ Bg
def sh(S r:List Bool):Bool:=(List.range S.length).any λi=>(gB S i&&gB r i)&&(List.range S.length).all λj=>j==i || !(gB S j&&gB r j)
def apart(S a b:List Bool):Bool:=(List.range S.length).all λi=> !(gB S i&&(gB a i&&gB b i))
def fp(S:List Bool):List (List Bool):=(allB S.length).filter (sh S)
def o5(S:List Bool):Nat->List (List (List Bool))
 |0=>[[]]
 |k+1=>(o5 S k).flatMap λrs=>((fp S).filter λr=>rs.all (apart S r)).map (· ::rs)
theorem bC{S:List Bool}:∀{rs:List (List Bool)},(∀r∈rs,r∈fp S)->rs.Pairwise (λa b=>apart S a b=true)->rs∈o5 S rs.length
 |[],_,_=>AP.2 rfl
 |r::rs,h,hp=>by
  obtain⟨h1,h2⟩:=CK.1 hp
  rw[AQ,o5,Cj]
  refine⟨rs,bC (λr hr=>h r (AE _ hr)) h2,A3.2 ⟨r,BE.2 ⟨h r Bg,Ah.2 h1⟩,rfl⟩⟩
def O7(S:List Bool):zN:=(List.range S.length).filter λj=> !gB S j
def aq(S:List Bool):zN:=(List.range S.length).filter λj=>gB S j
def sJ(S:List Bool)(rs:List (List Bool)):Bool:=(KF (rs.map (λr=>r.map bt)++(O7 S).map (QI S.length)) (rs.map (λ_=>((1:Int),(1:Int)))++(O7 S).map (λ_=>((0:Int),(1:Int))))).2&&(KF (rs.map (λr=>r.map bt)++(O7 S).map (QI S.length)) (rs.map (λ_=>((1:Int),(1:Int)))++(O7 S).map (λ_=>((0:Int),(1:Int))))).1==S.map bt
def jP(n:Nat):Bool:=(allB n).all λS=>(o5 S (aq S).length).all (sJ S)
theorem Abd:jP 1=true:=by kernel_rfl
theorem Abe:jP 2=true:=by kernel_rfl
theorem Abf:jP 3=true:=by kernel_rfl
theorem Abg:jP 4=true:=by kernel_rfl
def r6(a b:List Bool):Bool:=(List.range b.length).any λi=>gB a i&&gB b i
def kx(r S:List Bool):Bool:=(Gt (r.map bt) (S.map bt)).2&&(!r6 r S || !decide (wZ (Vr (Gt (r.map bt) (S.map bt)).1 (1,1) * 1) < 0))
def tryD(n:Nat):Bool:=(allB n).all λr=>(allB n).all (kx r)
theorem z0:tryD 1=true:=by kernel_rfl
theorem z5:tryD 2=true:=by kernel_rfl
theorem z6:tryD 3=true:=by kernel_rfl
theorem z7:tryD 4=true:=by kernel_rfl
def VE:List (zN×zN×zN×zN×Nat):=[([0],[1],[1,0,0,0],[1],1),([0],[3],[1,0,0,0],[1],1),([0],[5],[1,0,0,0],[1],1),([0],[7],[1,0,0,0],[1],1),([0],[15],[1,0,0,0],[1],1),([1],[2],[0,1,0,0],[1],1),([1],[6],[0,1,0,0],[1],1),([1],[10],[0,1,0,0],[1],1),([1],[14],[0,1,0,0],[1],1),([2],[4],[0,0,1,0],[1],1),([2],[5],[0,0,1,0],[1],1),([2],[12],[0,0,1,0],[1],1),([2],[13],[0,0,1,0],[1],1),([3],[8],[0,0,0,1],[1],1),([3],[9],[0,0,0,1],[1],1),([3],[10],[0,0,0,1],[1],1),([3],[11],[0,0,0,1],[1],1),([0,1],[1,2],[1,1,0,0],[1,1],1),([0,1],[1,6],[1,1,0,0],[1,1],1),([0,1],[1,14],[1,1,0,0],[1,1],1),([0,1],[2,5],[1,1,0,0],[1,1],1),([0,1],[2,13],[1,1,0,0],[1,1],1),([0,1],[6,9],[1,1,0,0],[1,1],1),([0,2],[1,4],[1,0,1,0],[1,1],1),([0,2],[1,12],[1,0,1,0],[1,1],1),([0,2],[3,4],[1,0,1,0],[1,1],1),([0,2],[3,12],[1,0,1,0],[1,1],1),([0,2],[4,11],[1,0,1,0],[1,1],1),([0,3],[1,8],[1,0,0,1],[1,1],1),([0,3],[1,10],[1,0,0,1],[1,1],1),([0,3],[3,8],[1,0,0,1],[1,1],1),([0,3],[5,10],[1,0,0,1],[1,1],1),([0,3],[7,8],[1,0,0,1],[1,1],1),([1,2],[2,4],[0,1,1,0],[1,1],1),([1,2],[2,12],[0,1,1,0],[1,1],1),([1,2],[4,10],[0,1,1,0],[1,1],1),([1,2],[5,10],[0,1,1,0],[1,1],1),([1,3],[2,8],[0,1,0,1],[1,1],1),([1,3],[2,9],[0,1,0,1],[1,1],1),([1,3],[3,12],[0,1,0,1],[1,1],1),([1,3],[6,8],[0,1,0,1],[1,1],1),([2,3],[4,8],[0,0,1,1],[1,1],1),([2,3],[4,9],[0,0,1,1],[1,1],1),([2,3],[5,8],[0,0,1,1],[1,1],1),([2,3],[6,9],[0,0,1,1],[1,1],1),([0,1,2],[1,2,4],[1,1,1,0],[1,1,1],1),([0,1,2],[1,2,12],[1,1,1,0],[1,1,1],1),([0,1,2],[1,4,10],[1,1,1,0],[1,1,1],1),([0,1,2],[2,4,9],[1,1,1,0],[1,1,1],1),([0,1,2],[3,5,6],[1,1,1,0],[1,1,1],2),([0,1,2],[3,5,14],[1,1,1,0],[1,1,1],2),([0,1,2],[3,6,13],[1,1,1,0],[1,1,1],2),([0,1,2],[3,13,14],[1,1,1,0],[1,1,1],2),([0,1,2],[5,6,11],[1,1,1,0],[1,1,1],2),([0,1,2],[5,11,14],[1,1,1,0],[1,1,1],2),([0,1,2],[6,11,13],[1,1,1,0],[1,1,1],2),([0,1,3],[1,2,8],[1,1,0,1],[1,1,1],1),([0,1,3],[1,6,8],[1,1,0,1],[1,1,1],1),([0,1,3],[2,5,8],[1,1,0,1],[1,1,1],1),([0,1,3],[3,9,10],[1,1,0,1],[1,1,1],2),([0,1,3],[3,9,14],[1,1,0,1],[1,1,1],2),([0,1,3],[3,10,13],[1,1,0,1],[1,1,1],2),([0,1,3],[7,9,10],[1,1,0,1],[1,1,1],2),([0,1,3],[7,9,14],[1,1,0,1],[1,1,1],2),([0,1,3],[7,10,13],[1,1,0,1],[1,1,1],2),([0,2,3],[1,4,8],[1,0,1,1],[1,1,1],1),([0,2,3],[3,4,8],[1,0,1,1],[1,1,1],1),([0,2,3],[5,9,12],[1,0,1,1],[1,1,1],2),([0,2,3],[5,9,14],[1,0,1,1],[1,1,1],2),([0,2,3],[5,11,12],[1,0,1,1],[1,1,1],2),([0,2,3],[7,9,12],[1,0,1,1],[1,1,1],2),([0,2,3],[7,11,12],[1,0,1,1],[1,1,1],2),([1,2,3],[2,4,8],[0,1,1,1],[1,1,1],1),([1,2,3],[6,10,12],[0,1,1,1],[1,1,1],2),([1,2,3],[6,10,13],[0,1,1,1],[1,1,1],2),([1,2,3],[6,11,12],[0,1,1,1],[1,1,1],2),([1,2,3],[7,10,12],[0,1,1,1],[1,1,1],2),([0,1,2,3],[1,2,4,8],[1,1,1,1],[1,1,1,1],1),([0,1,2,3],[1,6,10,12],[2,1,1,1],[2,1,1,1],2),([0,1,2,3],[2,5,9,12],[1,2,1,1],[2,1,1,1],2),([0,1,2,3],[3,4,9,10],[1,1,2,1],[1,2,1,1],2),([0,1,2,3],[3,5,6,8],[1,1,1,2],[1,1,1,2],2),([0,1,2,3],[3,5,6,9],[1,1,1,1],[0,0,2,2],2),([0,1,2,3],[3,5,9,14],[2,1,1,1],[1,1,1,2],3),([0,1,2,3],[3,6,10,13],[1,2,1,1],[1,1,1,2],3),([0,1,2,3],[5,6,11,12],[1,1,2,1],[1,1,2,1],3),([0,1,2,3],[7,9,10,12],[1,1,1,2],[2,1,1,1],3),([0,1,2,3],[7,11,13,14],[1,1,1,1],[1,1,1,1],3)]
def d6:List (Nat×Nat):=[(618970019642690137449562095,309485009821345068724781055),(454555802627257950830853887,309485009821345068724781024),(444865791356880778325651455,309485009821345068724780575),(501879385421724117641459711,125728248851399394960997888),(425501158030384323889135615,309485009821345068724773375),(520640878795503687903969151,106380897262062443060781536),(525276629744333837685473279,96572394503189471686549535),(616396218724646342581280767,2573800918066612419026944),(386777130356291136061964279,309485009821345068724658175),(553319680605851703869964223,67695234788861550377443296),(562753935695992062353603579,57886732029986654329380383),(617605145048212330692738559,1364874594574649763307008),(581493241403990271839961085,38539380440618778916422143),(618209718278272688197599199,760301508675127167812064),(618516635350427430540148734,453458367750860634456095)]
abbrev Ent:=zN×zN×zN×zN×Nat
def dN(t:Nat)(X:zN):Nat:=(List.range 4).foldl (λs j=>s+cond (t.testBit j) (X.getD j 0) 0) 0
def dT(T Y:zN)(j:Nat):Nat:=(List.range T.length).foldl (λs m=>s+cond ((T.getD m 0).testBit j) (Y.getD m 0) 0) 0
def kD(e:Ent):Bool:=match e with
 |(S,T,X,Y,D)=>((S.length==T.length&&decide (S.length<=4))&&(X.length==4&&(Y.length==T.length&&(decide (1<=D)&&decide (D<=3)))))&&
  ((S.all (λj=>decide (j < 4))&&decide (S.Pairwise (· < ·))&&(T.all (λt=>decide (1<=t)&&decide (t < 16))&&decide (T.Pairwise (· < ·))))&&
  (((List.range 4).all (λj=>S.contains j || X.getD j 0==0)&&T.all λt=>dN t X==D)&&
  (((List.range 4).all λj=>decide (dT T Y j<=D)&&(!S.contains j || dT T Y j==D))&&
  (((List.range 4).foldl (λs j=>s+X.getD j 0) 0==(List.range T.length).foldl (λs m=>s+Y.getD m 0) 0)&&
  ((KF (T.map λt=>S.map λj=>bt (t.testBit j)) (T.map λ_=>(1,1))).2&&((KF (S.map λj=>T.map λt=>bt (t.testBit j)) (S.map λ_=>(1,1))).2&&(X.all (λx=>decide (x<=3))&&Y.all (λx=>decide (x<=3)))))))))
def aY:List (Nat×Nat)->Nat->Bool
 |[],s=>cond (Nat.beq s 0) false true
 |(a,b)::l,s=>cond (aY l (Nat.land s a)) (aY l (Nat.land s b)) false
def e0:Ent:=([],[],[],[],0)
def r7:Bool:=(List.range 15).all λk=>(List.range 89).all λi=>((d6.getD k (0,0)).1.testBit i==(i==88 || !(VE.getD i e0).2.1.contains (15 - k)))&&((d6.getD k (0,0)).2.testBit i==(i !=88&&decide ((VE.getD i e0).2.2.2.2<=dN (15 - k) (VE.getD i e0).2.2.1)))
theorem oQ:VE.all kD=true:=by kernel_rfl
theorem pR:r7=true:=by kernel_rfl
theorem gq:VE.length=88∧d6.length=15:=⟨by kernel_rfl,by kernel_rfl⟩
theorem oC:aY d6 (2 ^ 89 - 1)=true:=by kernel_rfl
theorem Tt:∀(l:List (Nat×Nat)) (s:Nat),aY l s=true->∀U:Nat->Bool,∃i,s.testBit i=true∧∀k,k < l.length->(U k=false->(l.getD k (0,0)).1.testBit i=true)∧(U k=true->(l.getD k (0,0)).2.testBit i=true)
 |[],s,h,U=>by
  unfold aY at h
  have h0:s≠0:=λe=>by subst e;cases h
  obtain⟨i,hi⟩:=IF h0
  exact⟨i,hi,λk hk=>by simp at hk⟩
 |(a,b)::l,s,h,U=>by
  unfold aY at h
  cases h1:aY l (Nat.land s a)with
  |false=>rw[h1]at h;cases h
  |true=>
   rw[h1,Ad]at h
   have step:∀x:Nat,aY l (Nat.land s x)=true->(∃i,(Nat.land s x).testBit i=true∧∀k,k < l.length->(U (k+1)=false->(l.getD k (0,0)).1.testBit i=true)∧(U (k+1)=true->(l.getD k (0,0)).2.testBit i=true))->∃i,s.testBit i=true∧x.testBit i=true∧∀k,k < l.length->(U (k+1)=false->(l.getD k (0,0)).1.testBit i=true)∧(U (k+1)=true->(l.getD k (0,0)).2.testBit i=true):=λx _ ⟨i,hi,g⟩=>by
    have:(s&&& x).testBit i=true:=hi
    rw[Nat.testBit_and,Aa]at this
    exact⟨i,this.1,this.2,g⟩
   cases hU:U 0 with
   |false=>
    obtain⟨i,p,q,g⟩:=step a h1 (Tt l _ h1 λk=>U (k+1))
    refine⟨i,p,λk hk=>?_⟩
    cases k with
    |zero=>exact⟨λ_=>q,λe=>(by rw[hU]at e;cases e)⟩
    |succ k=>exact g k (by simpa using hk)
   |true=>
    obtain⟨i,p,q,g⟩:=step b h (Tt l _ h λk=>U (k+1))
    refine⟨i,p,λk hk=>?_⟩
    cases k with
    |zero=>exact⟨λe=>(by rw[hU]at e;cases e),λ_=>q⟩
    |succ k=>exact g k (by simpa using hk)
theorem rm(U:Nat->Bool)(hU:∃t,1<=t∧t < 16∧U t=true):∃e∈VE,kD e=true∧(∀t∈e.2.1,t < 16->1<=t->U t=true)∧∀t,1<=t->t < 16->U t=true->e.2.2.2.2<=dN t e.2.2.1:=by
 obtain⟨i,hi,g⟩:=Tt d6 _ oC λk=>U (15 - k)
 rw[Nat.testBit_two_pow_sub_one,AN]at hi
 rw[gq.2]at g
 have hm:=pR
 unfold r7 at hm
 rw[Ah]at hm
 have hk:∀k,k < 15->((d6.getD k (0,0)).1.testBit i=(i==88 || !(VE.getD i e0).2.1.contains (15 - k)))∧((d6.getD k (0,0)).2.testBit i=(i !=88&&decide ((VE.getD i e0).2.2.2.2<=dN (15 - k) (VE.getD i e0).2.2.1))):=λk hk=>by
  have:=Ah.1 (hm k (Ao.2 hk)) i (Ao.2 hi)
  rw[Aa,Bc,Bc]at this
  exact this
 obtain⟨t0,h1,h2,h3⟩:=hU
 have h88:i≠88:=λe=>by
  have a:=(g (15 - t0) (by omega)).2 (by show U (15 - (15 - t0))=true;rw[show 15 - (15 - t0)=t0 by omega];exact h3)
  rw[(hk (15 - t0) (by omega)).2,e]at a
  cases a
 have hlt:i < VE.length:=by rw[gq.1];omega
 have hmem:VE.getD i e0∈VE:=by rw[Af,Ac hlt];exact Aj _
 refine⟨VE.getD i e0,hmem,Ah.1 oQ _ hmem,λt ht h16 h1=>?_,λt h1 h16 hU=>?_⟩
 ·cases hu:U t with
  |true=>rfl
  |false=>
   have a:=(g (15 - t) (by omega)).1 (by show U (15 - (15 - t))=false;rw[show 15 - (15 - t)=t by omega];exact hu)
   rw[(hk (15 - t) (by omega)).1,show 15 - (15 - t)=t by omega,GD h88,BZ,AS.2 ht]at a
   cases a
 ·have a:=(g (15 - t) (by omega)).2 (by show U (15 - (15 - t))=true;rw[show 15 - (15 - t)=t by omega];exact hU)
  rw[(hk (15 - t) (by omega)).2,show 15 - (15 - t)=t by omega,Aa]at a
  exact Dj a.2
def bq(b:Bool):Rat:=cond b 1 0
theorem UJ(b:Bool):rv (bt b)=bq b:=by cases b<;>simp[rv,bt,bq]<;>grind
theorem kc(b:Bool):pz (bt b):=by cases b;exact .inl rfl;exact .inr rfl
theorem R6(f:Nat->Rat):∀n,sm (n+1) f=f 0+sm n (λj=>f (j+1))
 |0=>by simp only[sm];grind
 |n+1=>by rw[sm,R6 f n,sm];grind
theorem VO{n:Nat}:∀(I:zN),I.Nodup->(∀v∈I,v < n)->∀f:Nat->Rat,(∀v,v < n->v∉I->f v=0)->sm n f=sm I.length (λm=>f (I.getD m 0))
 |[],_,_,f,h=>SP λv hv=>h v hv (by simp)
 |a::I,hn,hl,f,h=>by
  rw[Bw]at hn
  have e:sm n f=sm n (λv=>(if v=a then f a else 0) - (-1) * (if v=a then 0 else f v)):=Du λv _=>by
   by_cases h1:v=a
   ·rw[Av h1,Av h1,h1];grind
   ·rw[At h1,At h1];grind
  have ih:=VO (n:=n) I hn.2 (λv hv=>hl v (by simp[hv])) (λv=>if v=a then 0 else f v) (λv hv hvI=>by
   by_cases h1:v=a
   ·rw[Av h1]
   ·rw[At h1];exact h v hv (by simp[h1,hvI]))
  rw[e,ai,ih,AQ,R6,Vy (hl a (by simp)) (λj _ hj=>At hj),Av rfl]
  have e2:sm I.length (λm=>if I.getD m 0=a then 0 else f (I.getD m 0))=sm I.length (λj=>f ((a::I).getD (j+1) 0)):=Du λm hm=>by
   rw[At]
   ·rfl
   ·intro e
    apply hn.1
    rw[<-e,Af,Ac hm]
    exact Aj _
  rw[e2]
  show f a - -1 * _=f a+_
  grind
theorem RS(g:Nat->Nat):∀k,((((List.range k).foldl (λs m=>s+g m) 0:Nat)):Rat)=sm k (λm=>((g m:Nat):Rat))
 |0=>by simp[sm]
 |k+1=>by
  rw[EP,Ek,sm,<-RS g k]
  simp
theorem wM(t:Nat)(X:zN):((dN t X:Nat):Rat)=sm 4 (λj=>bq (t.testBit j) * ((X.getD j 0:Nat):Rat)):=by
 unfold dN
 rw[RS]
 exact Du λj _=>by cases t.testBit j<;>simp[bq]
theorem rL(T Y:zN)(j:Nat):((dT T Y j:Nat):Rat)=sm T.length (λm=>bq ((T.getD m 0).testBit j) * ((Y.getD m 0:Nat):Rat)):=by
 unfold dT
 rw[RS]
 exact Du λm _=>by cases(T.getD m 0).testBit j<;>simp[bq]
theorem Vw{f:Nat->Rat}{n:Nat}(h:∀j,n<=j->f j=0):∀k,sm (n+k) f=sm n f
 |0=>rfl
 |k+1=>by rw[Nat.add_succ,sm,Vw h k,h (n+k) (by omega)];grind
theorem getD_mem{l:zN}{m:Nat}(h:m < l.length):l.getD m 0∈l:=by
 rw[Af,Ac h];exact Aj _
theorem ra{a:Mx}{b:List Rt}(h:(KF a b).2=true):PF a b=true:=by
 cases hs:PF a b with
 |true=>rfl
 |false=>
  unfold KF at h
  rw[hs]at h
  cases hd:decide (6 < (b.length:Int))<;>rw[hd]at h<;>cases h
theorem aP{A B:zN}{g:Nat->Nat->Bool}(hA:A.length<=5)(hl:A.length=B.length)(h:(KF (A.map λt=>B.map λj=>bt (g t j)) (A.map λ_=>(1,1))).2=true)(w:Nat->Rat)
  (hw:∀i,i < A.length->sm B.length (λm=>bq (g (A.getD i 0) (B.getD m 0)) * w m)=0):∀m,m < B.length->w m=0:=by
 have at1:∀i,i < A.length->∀m,m < B.length->atR (CX (A.map λt=>B.map λj=>bt (g t j)) i) m=bt (g (A.getD i 0) (B.getD m 0)):=λi hi m hm=>by
  have e1:CX (A.map λt=>B.map λj=>bt (g t j)) i=B.map λj=>bt (g (A.getD i 0) j):=by
   show List.getD _ i []=_
   rw[Af,AW,Ac hi,Af,Ac hi]
   rfl
  rw[e1]
  show List.getD _ m (0,0)=_
  rw[Af,AW,Ac hm,Af (l:=B),Ac hm]
  rfl
 have at2:∀i,i < A.length->atR (A.map λ_=>((1:Int),(1:Int))) i=(1,1):=λi hi=>by
  show List.getD _ i (0,0)=_
  rw[Af,AW,Ac hi];rfl
 rcases ip (n:=A.length) hA (ra h) (by simp) (λi hi j hj=>by rw[at1 i hi j (by omega)];exact kc _) (λi hi=>by rw[at2 i hi];exact .inr rfl)with⟨e,_⟩|⟨_,_,_,u⟩
 ·rw[h]at e;cases e
 ·intro m hm
  have:=u 0 w (λi hi=>by
   rw[Du (g:=λj=>bq (g (A.getD i 0) (B.getD j 0)) * w j) (λj hj=>by rw[at1 i hi j (by omega),UJ]),hl,hw i hi]
   grind) m (by omega)
  rw[this];grind
def X4(I Y:zN)(v:Nat):Nat:=if v∈I then Y.getD (I.idxOf v) 0 else 0
theorem gn{I Y:zN}(hn:I.Nodup){m:Nat}(hm:m < I.length):X4 I Y (I.getD m 0)=Y.getD m 0:=by
 unfold X4
 rw[Av (getD_mem hm)]
 have:I.idxOf (I.getD m 0)=m:=by
  rw[Af,Ac hm]
  exact hn.idxOf_getElem _ _
 rw[this]
theorem di{n t j:Nat}(h:t < 2 ^ n)(hj:n<=j):t.testBit j=false:=F5 (Bo h (Cr (by omega) hj))
theorem cr{nv:Nat}{typ:Nat->Nat}:∀(T:zN),T.Nodup->(∀t∈T,∃v,v < nv∧typ v=t)->∃I:zN,I.length=T.length∧I.Nodup∧(∀v∈I,v < nv)∧I.map typ=T
 |[],_,_=>⟨[],rfl,AG,λv h=>(by cases h),rfl⟩
 |t::T,hn,h=>by
  rw[Bw]at hn
  obtain⟨I,a,b,c,d⟩:=cr T hn.2 (λt ht=>h t (by simp[ht]))
  obtain⟨v,hv,e⟩:=h t (by simp)
  refine⟨v::I,by simp[a],?_,?_,by simp[d,e]⟩
  ·rw[Bw]
   refine⟨λhvI=>hn.1 ?_,b⟩
   rw[<-d,<-e]
   exact CE hvI
  ·intro w hw
   rcases AB.1 hw with rfl|hw
   ·exact hv
   ·exact c w hw
theorem basis{n nv:Nat}(hn:n<=4)(hv:1<=nv)(typ:Nat->Nat)(ht:∀v,v < nv->1<=typ v∧typ v < 2 ^ n):
  ∃(S I:zN) (X Y:Nat->Nat) (D:Nat),S.Nodup∧I.Nodup∧(∀j∈S,j < n)∧(∀v∈I,v < nv)∧S.length=I.length∧1<=D∧D<=3∧(∀j,X j<=3)∧(∀v,Y v<=3)∧
   (∀j,j < n->j∉S->X j=0)∧(∀v∈I,sm n (λj=>bq ((typ v).testBit j) * (X j:Rat))=D)∧(∀v,v < nv->(D:Rat)<=sm n (λj=>bq ((typ v).testBit j) * (X j:Rat)))∧
   (∀v,v < nv->v∉I->Y v=0)∧(∀j∈S,sm nv (λv=>bq ((typ v).testBit j) * (Y v:Rat))=D)∧(∀j,j < n->sm nv (λv=>bq ((typ v).testBit j) * (Y v:Rat))<=D)∧
   sm n (λj=>(X j:Rat))=sm nv (λv=>(Y v:Rat))∧
   (∀z:Nat->Rat,(∀j,j < n->j∉S->z j=0)->(∀v∈I,sm n (λj=>bq ((typ v).testBit j) * z j)=0)->∀j,j < n->z j=0)∧
   (∀z:Nat->Rat,(∀v,v < nv->v∉I->z v=0)->(∀j∈S,sm nv (λv=>bq ((typ v).testBit j) * z v)=0)->∀v,v < nv->z v=0):=by
 have p16:(2:Nat) ^ n<=16:=BD (Cr (by omega) hn) (by decide)
 obtain⟨⟨S,T,X,Y,D⟩,-,hok,hT,hK⟩:=rm (λt=>(List.range nv).any λv=>typ v==t) ⟨typ 0,(ht 0 (by omega)).1,by have:=(ht 0 (by omega)).2;omega,Bi.2 ⟨0,Ao.2 (by omega),by simp⟩⟩
 simp only at hT hK
 unfold kD at hok
 simp only[Aa,Bc,AN,Ah,Ao,BP,Ax,AS]at hok
 obtain⟨⟨⟨k1,k1'⟩,k2,k3,k4,k5⟩,⟨⟨k6,k7⟩,k8,k9⟩,⟨k10,k11⟩,k12,k13,k14,k15,k16,k17⟩:=hok
 have nS:S.Nodup:=k7.imp λh=>Nat.ne_of_lt h
 have nT:T.Nodup:=k9.imp λh=>Nat.ne_of_lt h
 obtain⟨I,i1,i2,i3,i4⟩:=cr (nv:=nv) (typ:=typ) T nT (λt htT=>by
  have:=hT t htT (k8 t htT).2 (k8 t htT).1
  obtain⟨v,hv,e⟩:=Bi.1 this
  exact⟨v,Ao.1 hv,Bc.1 e⟩)
 have tI:∀m,m < I.length->typ (I.getD m 0)=T.getD m 0:=λm hm=>by
  rw[<-i4,Af,Af,AW,Ac hm];rfl
 have tmem:∀v∈I,typ v∈T:=λv hv=>by rw[<-i4];exact CE hv
 have sS:∀j∈S,j < n:=λj hj=>by
  rcases A9 j n with h|h
  ·exact h
  ·exfalso
   have e:=(k12 j (k6 j hj)).2.resolve_left (by simp[hj])
   have:((dT T Y j:Nat):Rat)=0:=by
    rw[rL]
    refine SP λm hm=>?_
    have hv:=i3 _ (getD_mem (l:=I) (m:=m) (by omega))
    have:=di (ht _ hv).2 h
    rw[tI m (by omega)]at this
    rw[this];show(0:Rat) * _=0;grind
   rw[e]at this
   have:D=0:=by exact_mod_cast this
   omega
 have cut:∀v,v < nv->∀z:Nat->Rat,sm 4 (λj=>bq ((typ v).testBit j) * z j)=sm n (λj=>bq ((typ v).testBit j) * z j):=λv hv z=>by
  have:=Vw (f:=λj=>bq ((typ v).testBit j) * z j) (n:=n) (λj hj=>by rw[di (ht v hv).2 hj];show(0:Rat) * _=0;grind) (4 - n)
  rw[show n+(4 - n)=4 by omega]at this
  exact this
 have dNv:∀v,v < nv->((dN (typ v) X:Nat):Rat)=sm n (λj=>bq ((typ v).testBit j) * ((X.getD j 0:Nat):Rat)):=λv hv=>by rw[wM,cut v hv]
 have dTj:∀j,((dT T Y j:Nat):Rat)=sm nv (λv=>bq ((typ v).testBit j) * ((X4 I Y v:Nat):Rat)):=λj=>by
  rw[rL,VO I i2 i3 (λv=>bq ((typ v).testBit j) * ((X4 I Y v:Nat):Rat)) (λv _ hvI=>by unfold X4;rw[At hvI];show _ * (((0:Nat):Rat))=0;simp),i1]
  exact Du λm hm=>by rw[tI m (by omega),gn i2 (by omega)]
 have le3:∀(l:zN),(∀x∈l,x<=3)->∀j,l.getD j 0<=3:=λl h j=>by
  by_cases hj:j < l.length
  ·exact h _ (getD_mem hj)
  ·rw[Af,A2 (by omega)];exact CB _
 refine⟨S,I,λj=>X.getD j 0,X4 I Y,D,nS,i2,sS,i3,by omega,k4,k5,le3 X k16,λv=>by unfold X4;split;exact le3 Y k17 _;exact CB _,?_,?_,?_,?_,?_,?_,?_,?_,?_⟩
 ·intro j hj hjS
  have:=(k10 j (by omega)).resolve_left hjS
  exact this
 ·intro v hvI
  rw[<-dNv v (i3 v hvI),k11 _ (tmem v hvI)]
 ·intro v hv
  rw[<-dNv v hv]
  have:=hK (typ v) (ht v hv).1 (by have:=(ht v hv).2;omega) (Bi.2 ⟨v,Ao.2 hv,by simp⟩)
  exact_mod_cast this
 ·intro v _ hvI
  unfold X4;rw[At hvI]
 ·intro j hj
  rw[<-dTj,(k12 j (k6 j hj)).2.resolve_left (by simp[hj])]
 ·intro j hj
  rw[<-dTj]
  have:=(k12 j (by omega)).1
  exact_mod_cast this
 ·have e:(((List.range 4).foldl (λs j=>s+X.getD j 0) 0:Nat):Rat)=(((List.range T.length).foldl (λs m=>s+Y.getD m 0) 0:Nat):Rat):=by rw[k13]
  rw[RS,RS]at e
  have c4:=Vw (f:=λj=>((X.getD j 0:Nat):Rat)) (n:=n) (λj hj=>by
   by_cases h4:j < 4
   ·have:=(k10 j h4).resolve_left (λh=>by have:=sS j h;omega)
    rw[this];rfl
   ·rw[Af,A2 (by omega)];rfl) (4 - n)
  rw[show n+(4 - n)=4 by omega]at c4
  rw[<-c4,e,VO I i2 i3 (λv=>((X4 I Y v:Nat):Rat)) (λv _ hvI=>by unfold X4;rw[At hvI];rfl),i1]
  exact Du λm hm=>by rw[gn i2 (by omega)]
 ·intro z hz hw j hj
  have key:=aP (A:=T) (B:=S) (g:=λt j=>t.testBit j) (by omega) (by omega) k14 (λm=>z (S.getD m 0)) (λi hi=>by
   have hvI:=getD_mem (l:=I) (m:=i) (by omega)
   have:=hw _ hvI
   rw[tI i (by omega),VO S nS sS (λj=>bq ((T.getD i 0).testBit j) * z j) (λj hj hjS=>by rw[hz j hj hjS];grind)]at this
   exact this)
  by_cases hjS:j∈S
  ·have:=key (S.idxOf j) (D7 hjS)
   rw[Af,Ac (D7 hjS)]at this
   simpa using this
  ·exact hz j hj hjS
 ·intro z hz hw v hv
  have key:=aP (A:=S) (B:=T) (g:=λj t=>t.testBit j) (by omega) (by omega) k15 (λm=>z (I.getD m 0)) (λi hi=>by
   have:=hw _ (getD_mem (l:=S) hi)
   rw[VO I i2 i3 (λv=>bq ((typ v).testBit (S.getD i 0)) * z v) (λv hv hvI=>by rw[hz v hv hvI];grind),i1]at this
   rw[<-this]
   exact Du λm hm=>by rw[tI m (by omega)])
  by_cases hvI:v∈I
  ·have:=key (I.idxOf v) (by have:=D7 hvI;omega)
   rw[Af,Ac (D7 hvI)]at this
   simpa using this
  ·exact hz v hv hvI
theorem a9{α:Type}(g:Nat->List α):∀(b a fr:Nat),(∀k,fr+a<=k->k < fr+a+b->g k=[])->(List.range' fr (a+b)).flatMap g=(List.range' fr a).flatMap g
 |0,a,fr,_=>rfl
 |b+1,a,fr,h=>by
  rw[<-J5,List.range'_concat,DQ,a9 g b a fr (λk h1 h2=>h k h1 (by omega))]
  simp[h (fr+(a+b)) (by omega) (by omega)]
theorem oE{t r fr:Nat}(hr:0 < r)(h:t+1<=r+fr):Ny t r fr=[]:=by
 obtain⟨r,rfl⟩:∃q,r=q+1:=⟨r - 1,by omega⟩
 rw[Ny,show t - r - fr=0 from by omega];rfl
theorem oD(t r fr:Nat)(h:fr<=t):(List.range' fr (t - fr)).flatMap (λi=>(Ny t r (i+1)).map (i:: ·))=Ny t (r+1) fr:=by
 rw[Ny]
 have:=a9 (λi=>(Ny t r (i+1)).map (i:: ·)) (t - fr - (t - r - fr)) (t - r - fr) fr (λk hk hk2=>by
  cases r with
  |zero=>omega
  |succ r=>rw[oE (by omega) (by omega)];rfl)
 rw[<-this,show t - r - fr+(t - fr - (t - r - fr))=t - fr from by omega]
theorem foldl_flat{α β S:Type}(f:S->β->S)(g:α->List β):∀(l:List α) (s:S),(l.flatMap g).foldl f s=l.foldl (λs x=>(g x).foldl f s) s
 |[],_=>rfl
 |x::l,s=>by rw[AH,Ek,Cz,foldl_flat f g l]
theorem RK(c:zN):(cI c).length=c.length:=by unfold cI;rw[Ak]
theorem tf(c d:zN):cI (c++d)=cI c++cI d:=by unfold cI;rw[B7]
theorem w6{l:zI}(h:l.length<=lim):He l=some l:=by
 unfold He
 rw[AX (by simpa using h),Bl]
theorem bj{p:LP}{sg:Int}{c:zN}:∀(l:List zN) (s:Mx),(∀d∈l,(c++d).length<=lim)->Q5 s->Q5 (l.foldl (λo d=>visit p sg o (c++d)) s)
 |[],_,_,h=>h
 |d::l,s,hl,h=>bj l _ (λd hd=>hl d (AE _ hd)) (Y3 sg (hl d Bg) h)
theorem wz(a:Mx)(f:List Rt->Bool):(List.range a.length).any (λk=>f (CX a k))=a.any f:=by
 rw[B5,Bi,Bi]
 constructor
 ·rintro⟨i,hi,h⟩
  rw[Ao]at hi
  rw[<-GY hi]at h
  exact⟨_,Aj hi,h⟩
 ·rintro⟨x,hx,h⟩
  obtain⟨i,hi,rfl⟩:=BO hx
  rw[GY hi]at h
  exact⟨i,Ao.2 hi,h⟩
section
variable {p:LP}{R:Mx}{rt:List Rt}
theorem xk(hv:OT p=true)(hR:R.length=p.2.1.length+p.2.2.length)(hrt:rt.length=p.2.1.length+p.2.2.length)(hA:∀j,j < p.2.1.length+p.2.2.length->CX R j=rowAt p j)(hB:∀j,j < p.2.1.length+p.2.2.length->atR rt j=Dl p j)
  {c:zN}(hc:c.length<=5) (hin:∀e∈c,e < p.2.1.length+p.2.2.length):Au (MD (cI c) R rt) fz ([],[],0)=some (c.map (rowAt p),c.map (Dl p)):=by
 have hl:c.length<=lim:=by unfold lim;omega
 have hr:=Ep (B:=MD (cI c) R rt) (n:=c.length) (O:=Unit) (λ(s:Mx×List Rt) k=>(s.1,s.2,(k:Int))) (λk s=>s.1.length=k∧s.2.length=k) (λk s=>.inl (s.1++[rowAt p (c.getD k 0)],s.2++[Dl p (c.getD k 0)])) (λo=>match o with|.inl s=>s|.inr _=>([],[])) hl (λrec k s hk hi=>by
  have hck:c.getD k 0=c[k]:=by rw[Af,Ac hk];rfl
  have he:=hin c[k] (Aj hk)
  show cond (decide ((k:Int) < ((cI c).length:Int))) _ _=_
  rw[RK,Br hk,Ad,Bd (show k < (cI c).length by rw[RK];exact hk)]
  simp only[Ab]
  rw[show(cI c)[k]'(by rw[RK];exact hk)=((c[k]:Nat):Int)from by unfold cI;rw[Be],hck,F8 (by rw[hR];exact he)]
  simp only[Ab]
  rw[AX (by rw[hi.1];simp;unfold lim;omega),Em (by rw[hrt];exact he)]
  simp only[Ab]
  rw[AX (by rw[hi.2];simp;unfold lim;omega),hA _ he,hB _ he,BG hk (Bq hl)]) (λrec s hi=>by
  show cond (decide ((c.length:Int) < ((cI c).length:Int))) _ _=_
  rw[RK,Bm];rfl) (λk s s' hk hi hs=>by cases hs;exact⟨by simp[hi.1],by simp[hi.2]⟩) ([],[]) ⟨rfl,rfl⟩
 rw[show(([]:Mx),([]:List Rt),(0:Int))=((([],[]):Mx×List Rt).1,(([],[]):Mx×List Rt).2,((0:Nat):Int))from rfl,hr,OZ]
 simp only[Bl]
 rw[getD_map 0 (rowAt p) c,getD_map 0 (Dl p) c]
theorem pi{out:Mx}{v:List Rt×Bool}(h:out.length<=lim)(hv:v.1.length<=lim):Au (Pi out v) fz 0=some (cond (out.any (· ==v.1)) (.inr out) (.inl ())):=by
 rw[Gu (n:=out.length) (λk=>v.1==CX out k) out h (λk hk rec=>by
  show cond (decide ((k:Int) < (out.length:Int))) _ _=_
  rw[Br hk,Ad,F8 hk]
  simp only[Ab]
  rw[xa hv]
  simp only[Ab]
  rw[BG hk (Bq h)]) (λrec=>by
  show cond (decide ((out.length:Int) < (out.length:Int))) _ _=_
  rw[Bm];rfl)]
 rw[wz out (λx=>v.1==x),show(λx=>v.1==x)=(λx=>x==v.1)from by
  funext x
  rw[B5,Bc,Bc]
  exact eq_comm]
theorem bF{sg:Int}(hv:OT p=true)(hR:R.length=p.2.1.length+p.2.2.length)(hrt:rt.length=p.2.1.length+p.2.2.length)(hA:∀j,j < p.2.1.length+p.2.2.length->CX R j=rowAt p j)(hB:∀j,j < p.2.1.length+p.2.2.length->atR rt j=Dl p j):
  ∀(r:Nat) (c:zN) (fr f:Nat) (out:Mx),c.length+r=p.2.2.length->fr<=p.2.1.length+p.2.2.length->(∀e∈c,e < p.2.1.length+p.2.2.length)->r < f->out.length+11 ^ r<=lim->Q5 out->
  Au EN f ((fr:Int),cI c,(p.2.2.length:Int),R,rt,p,sg,out)=some ((Ny (p.2.1.length+p.2.2.length) r fr).foldl (λo d=>visit p sg o (c++d)) out)
 |0,c,fr,f,out,hc,hfr,hin,hf,ho,hol=>by
  obtain⟨f,rfl⟩:∃g,f=g+1:=⟨f - 1,by omega⟩
  obtain⟨h1,h2,h3,h4,h5,h6⟩:=K1 hv
  have hsm:XB p:=⟨by rw[h5];unfold lim;omega,by unfold lim;omega,by unfold lim;omega⟩
  have hcl:c.length<=lim:=by unfold lim;omega
  rw[By]
  show cond (decide (((cI c).length:Int) < (p.2.2.length:Int))) _ _=_
  rw[RK,show c.length=p.2.2.length from by omega,Bm,Ae,xk hv hR hrt hA hB (by omega) hin]
  simp only[Ab]
  rw[xi (by rw[Ak];exact hcl)]
  simp only[Ab]
  rw[Ny,Cz,Jd,AY]
  unfold visit
  cases(KF (c.map (rowAt p)) (c.map (Dl p))).2 with
  |false=>rfl
  |true=>
   have hxl:=ah (a:=c.map (rowAt p)) (b:=c.map (Dl p)) (by rw[Ak];exact hcl)
   rw[An,Ae,Ad,tT hsm hxl]
   simp only[Ab]
   cases Lh p (KF (c.map (rowAt p)) (c.map (Dl p))).1 sg with
   |false=>rfl
   |true=>
    rw[An,Ae,Ad,pi (by omega) hxl]
    simp only[Ab]
    cases out.any (· ==(KF (c.map (rowAt p)) (c.map (Dl p))).1)with
    |true=>rfl
    |false=>
     simp only[Ae]
     rw[AX (by simpa using ho)]
 |r+1,c,fr,f,out,hc,hfr,hin,hf,ho,hol=>by
  obtain⟨f,rfl⟩:∃g,f=g+1:=⟨f - 1,by omega⟩
  obtain⟨h1,h2,h3,h4,h5,h6⟩:=K1 hv
  have hpw:11 ^ (r+1)=11 ^ r * 11:=CQ ..
  have hNm:p.2.1.length+p.2.2.length<=maxLen:=by unfold maxLen;omega
  rw[By]
  show cond (decide (((cI c).length:Int) < (p.2.2.length:Int))) (Ab (Au (MC (cI c) (p.2.2.length:Int) R rt p sg (Au EN f)) fz (out,(fr:Int))) λz4=>some z4) _=_
  rw[RK,Br (show c.length < p.2.2.length by omega),Ad]
  have hl:=SN (B:=MC (cI c) (p.2.2.length:Int) R rt p sg (Au EN f)) (n:=p.2.1.length+p.2.2.length) (O:=Unit) (λ(s:Mx) k=>(s,(k:Int))) (λk s=>fr<=k∧s.length<=out.length+(k - fr) * 11 ^ r∧Q5 s) (λk s=>.inl ((Ny (p.2.1.length+p.2.2.length) r (k+1)).foldl (λo d=>visit p sg o (c++(k::d))) s)) (λo=>match o with|.inl s=>s|.inr _=>[])
   (λrec k s hk hi=>by
    have hkm:(k - fr) * 11 ^ r<=10 * 11 ^ r:=CA _ (by omega)
    show cond (decide ((k:Int) < (R.length:Int))) _ _=_
    rw[hR,Br hk,Ad,w6 (by rw[RK];unfold lim;omega)]
    simp only[Ab]
    rw[AX (by rw[RK];simp;unfold lim;omega),BG hk hNm,show cI c++[(k:Int)]=cI (c++[k])from by rw[tf];rfl,bF hv hR hrt hA hB r (c++[k]) (k+1) f s (by rw[Aw];simp;omega) (by omega) (λe he=>by
     rcases Al.1 he with he|he
     ·exact hin e he
     ·rw[AP]at he;subst he;exact hk) (by omega) (by omega) hi.2.2]
    simp only[Ab,Bj,GC])
   (λrec s hi=>by
    show cond (decide (((p.2.1.length+p.2.2.length:Nat):Int) < (R.length:Int))) _ _=_
    rw[hR,Bm];rfl)
   (λk s s' hk hi hs=>by
    cases hs
    refine⟨by omega,?_,?_⟩
    ·have h1:=Ss (f:=λo d=>visit p sg o (c++(k::d))) (λs x=>ST p sg s _) (Ny (p.2.1.length+p.2.2.length) r (k+1)) s
     have h2:=QR (t:=p.2.1.length+p.2.2.length) (by omega) r (k+1)
     rw[show k+1 - fr=(k - fr)+1 from by omega,FC]
     have:=hi.2.1
     refine BD h1 ?_
     omega
    ·have:=bj (p:=p) (sg:=sg) (c:=c++[k]) (Ny (p.2.1.length+p.2.2.length) r (k+1)) s (λd hd=>by
      rw[Aw,Aw,(U0 hd).1];simp;unfold lim;omega) hi.2.2
     simpa only[Bj,GC]using this) (p.2.1.length+p.2.2.length - fr) fr out fz (by omega) (by unfold fz;omega) ⟨AT _,by simp,hol⟩
  rw[hl,Q6 (λs k=>(Ny (p.2.1.length+p.2.2.length) r (k+1)).foldl (λo d=>visit p sg o (c++(k::d))) s)]
  simp only[Ab]
  rw[<-oD _ r fr hfr,foldl_flat]
  simp only[List.foldl_map]
end
theorem jQ{p:LP}{i:Nat}(hi:i < p.2.2.length)(h:p.2.2.length<=lim):Au (NI p (i:Int)) fz ([],0)=some (QI p.2.2.length i):=by
 have hl:=Ep (B:=NI p (i:Int)) (n:=p.2.2.length) (O:=Unit) (λ(s:List Rt) k=>(s,(k:Int))) (λk s=>s.length=k) (λk s=>.inl (s++[(if i=k then(1:Int)else 0,(1:Int))])) (λo=>match o with|.inl s=>s|.inr _=>[]) h (λrec k s hk hs=>by
  show cond (decide ((k:Int) < (p.2.2.length:Int))) _ _=_
  rw[Br hk,Ad,show((i:Int)==(k:Int))=decide (i=k)from by rw[B5,Bc,decide_eq_true_iff];omega]
  unfold RY
  by_cases e:i=k
  ·rw[Ai e,Av e,Ad]
   simp only[Ab]
   rw[AX (by rw[hs];simp;unfold lim at h⊢;omega),BG hk (Bq h)]
  ·rw[Ag e,At e,Ae]
   simp only[Ab]
   rw[AX (by rw[hs];simp;unfold lim at h⊢;omega),BG hk (Bq h)]) (λrec s _=>by
  show cond (decide ((p.2.2.length:Int) < (p.2.2.length:Int))) _ _=_
  rw[Bm];rfl) (λk s s' hk hi hs=>by cases hs;simp[hi]) [] rfl
 rw[show((0:Nat):Int)=0 from rfl]at hl
 rw[hl,Xu]
 simp only[Bl]
 congr 1
 unfold QI
 apply CD
 ·simp
 ·intro k h1 h2
  rw[Be,DR,Ec]
  simp only[CR,Dn,Iw]
  split<;>rfl
theorem lf{p:LP}{sg:Int}(hv:OT p=true):NT p sg=some (Iz p sg):=by
 obtain⟨h1,h2,h3,h4,h5,h6⟩:=K1 hv
 have hl:p.2.2.length<=lim:=by unfold lim;omega
 unfold NT
 rw[AX (by rw[h5];simp;unfold lim;omega)]
 unfold Hn
 rw[AX (by simp;unfold lim;omega),Bl,Bl]
 simp only[Ab]
 have hr:=Ep (B:=Qw p) (n:=p.2.2.length) (O:=Unit) (λ(s:Mx×List Rt) k=>(s.1,s.2,(k:Int))) (λk s=>s.1.length=p.2.1.length+k∧s.2.length=p.2.1.length+k) (λk s=>.inl (s.1++[QI p.2.2.length k],s.2++[((0:Int),(1:Int))])) (λo=>match o with|.inl s=>s|.inr _=>([],[])) hl (λrec k s hk hi=>by
  show cond (decide ((k:Int) < (p.2.2.length:Int))) _ _=_
  rw[Br hk,Ad,jQ hk hl]
  simp only[Ab]
  rw[AX (by rw[hi.1];simp;unfold lim;omega),AX (by rw[hi.2];simp;unfold lim;omega),BG hk (Bq hl)]) (λrec s hi=>by
  show cond (decide ((p.2.2.length:Int) < (p.2.2.length:Int))) _ _=_
  rw[Bm];rfl) (λk s s' hk hi hs=>by cases hs;exact⟨by simp[hi.1];omega,by simp[hi.2];omega⟩) (p.1,p.2.1) ⟨h5,rfl⟩
 rw[show((0:Nat):Int)=0 from rfl]at hr
 rw[hr,OZ (λk=>QI p.2.2.length k) (λ_=>((0:Int),(1:Int)))]
 simp only
 unfold OC
 have hR:(p.1++(List.range' 0 p.2.2.length).map λk=>QI p.2.2.length k).length=p.2.1.length+p.2.2.length:=by simp[h5]
 have hrt:(p.2.1++(List.range' 0 p.2.2.length).map λ_=>((0:Int),(1:Int))).length=p.2.1.length+p.2.2.length:=by simp
 have hc:=bF (p:=p) (R:=p.1++(List.range' 0 p.2.2.length).map λk=>QI p.2.2.length k) (rt:=p.2.1++(List.range' 0 p.2.2.length).map λ_=>((0:Int),(1:Int))) (sg:=sg) hv hR hrt (λj hj=>by
  rw[<-GY (by rw[hR];exact hj)]
  unfold rowAt
  split
  ·rename_i hm
   rw[Hu (by rw[h5];exact hm),GY]
  ·rename_i hm
   rw[G5 (by rw[h5];omega),Be,DR]
   simp[h5]) (λj hj=>by
  rw[<-LV (by rw[hrt];exact hj)]
  unfold Dl
  split
  ·rename_i hm
   rw[Hu hm,LV]
  ·rename_i hm
   rw[G5 (by omega),Be]) p.2.2.length [] 0 fz [] (by simp) (by omega) (by simp) (by unfold fz;omega) (by have:=cw h2;simp;unfold lim;omega) (λr hr=>by simp at hr)
 rw[show((0:Nat):Int)=0 from rfl,show cI []=[]from rfl]at hc
 rw[hc]
 simp only[Bl]
 rfl
def QJ(p:LP):Mx:=cond (OT p) (Iz p 1) []
theorem AaH{p:LP}(h:XB p):HI p=some (QJ p):=by
 unfold HI QJ
 rw[xd h]
 simp only[Ab]
 cases hv:OT p with
 |false=>rfl
 |true=>rw[An,Ae,lf hv];rfl
def Rv(a:PG)(k:Nat):zI:=((List.range k).filter λ(v:Nat)=>a.2.contains (v:Int)).map λ(v:Nat)=>(v:Int)
theorem wA(a:PG)(k:Nat):Rv a (k+1)=Rv a k++cond (a.2.contains (k:Int)) [(k:Int)] []:=by
 unfold Rv
 rw[EP,Gg,B7,List.filter_cons,KD]
 cases a.2.contains (k:Int)<;>rfl
theorem T2(a:PG)(k:Nat):(Rv a k).length<=k:=by
 unfold Rv
 rw[Ak]
 exact BD (Fj _ _) (by simp)
theorem tD{α:Type}(f:α->Bool){l:List α}{k:Nat}(hk:k < l.length):(l.take (k+1)).filter f=(l.take k).filter f++cond (f l[k]) [l[k]] []:=by
 rw[A5 hk,Gg,List.filter_cons,KD]
 cases f l[k]<;>rfl
theorem AaG{a:PG}(h:a.2.length<=lim)(v:Int):HH a v=some (a.2.contains v):=by
 unfold HH
 simp only[rO h,Ck]
def RP(q:NQ)(v:Int):List Rt:=q.2.1.map λa=>(cond (a.2.contains v) 1 0,1)
def MZ(q:NQ):LP:=((List.range' 0 q.1.toNat).map (λ(v:Nat)=>RP q (v:Int)),(List.range' 0 q.1.toNat).map (λ_=>(1,1)),q.2.1.map λ_=>(1,1))
def cpB(q:NQ):LP×Bool:=cond (II q) (MZ q,true) (([],[],[]),false)
theorem Jf{q:NQ}(h:II q=true):1<=q.1∧q.1<=5∧1<=q.2.1.length∧q.2.1.length<=4:=by
 unfold II at h
 simp only[Aa,Fq]at h
 omega
section
variable {q:NQ}
theorem qH(hq:US q)(v:Int):Au (Ii q v) fz ([],0)=some (RP q v):=by
 rw[Qi (B:=Ii q v) (l:=q.2.1) (s0:=[]) (h:=λa=>(cond (a.2.contains v) 1 0,1)) (by simpa using hq.1) (λk hk s rec hs=>by
  show cond (decide ((k:Int) < (q.2.1.length:Int))) _ _=_
  rw[Br hk,Ad,Bd hk]
  simp only[Ab]
  rw[vn (hq.2.1 _ (Aj hk)).2]
  simp only[Ab]
  unfold Ij
  have h1:=hq.1
  cases(q.2.1[k]).2.contains v with
  |true=>rw[Ad,AX (by rw[hs];simp;unfold lim at h1⊢;omega),BG hk (Bq hq.1)];rfl
  |false=>rw[Ae,AX (by rw[hs];simp;unfold lim at h1⊢;omega),BG hk (Bq hq.1)];rfl) (λrec s=>by
  show cond (decide ((q.2.1.length:Int) < (q.2.1.length:Int))) _ _=_
  rw[Bm];rfl),Bl]
 rfl
theorem ph(hq:US q)(v:Int):Au (Oy q v) fz ([],0)=some (RP q v):=by
 rw[Qi (B:=Oy q v) (l:=q.2.1) (s0:=[]) (h:=λa=>(cond (a.2.contains v) 1 0,1)) (by simpa using hq.1) (λk hk s rec hs=>by
  show cond (decide ((k:Int) < (q.2.1.length:Int))) _ _=_
  rw[Br hk,Ad,Bd hk]
  simp only[Ab]
  rw[AaG (hq.2.1 _ (Aj hk)).2]
  simp only[Ab]
  unfold RY
  have h1:=hq.1
  cases(q.2.1[k]).2.contains v with
  |true=>rw[Ad];simp only[Ab];rw[AX (by rw[hs];simp;unfold lim at h1⊢;omega),BG hk (Bq hq.1)];rfl
  |false=>rw[Ae];simp only[Ab];rw[AX (by rw[hs];simp;unfold lim at h1⊢;omega),BG hk (Bq hq.1)];rfl) (λrec s=>by
  show cond (decide ((q.2.1.length:Int) < (q.2.1.length:Int))) _ _=_
  rw[Bm];rfl),Bl]
 rfl
theorem vu(hq:US q):Au (Lk q) fz ([],0)=some (q.2.1.map λ_=>(1,1)):=by
 rw[Qi (B:=Lk q) (l:=q.2.1) (s0:=[]) (h:=λ_=>(1,1)) (by simpa using hq.1) (λk hk s rec hs=>by
  have h1:=hq.1
  show cond (decide ((k:Int) < (q.2.1.length:Int))) _ _=_
  rw[Br hk,Ad,AX (by rw[hs];simp;unfold lim at h1⊢;omega),BG hk (Bq hq.1)]) (λrec s=>by
  show cond (decide ((q.2.1.length:Int) < (q.2.1.length:Int))) _ _=_
  rw[Bm];rfl),Bl]
theorem tN(hq:US q):Au (Oz q) fz ([],0)=some (q.2.1.map λ_=>(1,1)):=by
 rw[Qi (B:=Oz q) (l:=q.2.1) (s0:=[]) (h:=λ_=>(1,1)) (by simpa using hq.1) (λk hk s rec hs=>by
  have h1:=hq.1
  show cond (decide ((k:Int) < (q.2.1.length:Int))) _ _=_
  rw[Br hk,Ad,AX (by rw[hs];simp;unfold lim at h1⊢;omega),BG hk (Bq hq.1)]) (λrec s=>by
  show cond (decide ((q.2.1.length:Int) < (q.2.1.length:Int))) _ _=_
  rw[Bm];rfl),Bl]
theorem Aa1(hq:US q):KH q=some (cpB q):=by
 unfold KH cpB
 rw[Wk hq]
 simp only[Ab]
 cases hv:II q with
 |false=>rfl
 |true=>
  obtain⟨h1,h2,h3,h4⟩:=Jf hv
  have hn:((q.1.toNat:Nat):Int)=q.1:=by omega
  rw[An,Ae]
  have hl:=Ep (B:=Oi q) (n:=q.1.toNat) (O:=Unit) (λ(s:Mx×List Rt) k=>(s.1,s.2,(k:Int))) (λk s=>s.1.length=k∧s.2.length=k) (λk s=>.inl (s.1++[RP q (k:Int)],s.2++[((1:Int),(1:Int))])) (λo=>match o with|.inl s=>s|.inr _=>([],[])) (by unfold lim;omega) (λrec k s hk hi=>by
   show cond (decide ((k:Int) < q.1)) _ _=_
   rw[Ai (by omega),Ad,qH hq]
   simp only[Ab]
   rw[AX (by rw[hi.1];simp;unfold lim;omega),AX (by rw[hi.2];simp;unfold lim;omega),BG hk (by unfold maxLen;omega)]) (λrec s hi=>by
   show cond (decide (((q.1.toNat:Nat):Int) < q.1)) _ _=_
   rw[Ag (by omega)];rfl) (λk s s' hk hi hs=>by cases hs;exact⟨by simp[hi.1],by simp[hi.2]⟩) ([],[]) ⟨rfl,rfl⟩
  rw[show(([]:Mx),([]:List Rt),(0:Int))=((([],[]):Mx×List Rt).1,(([],[]):Mx×List Rt).2,((0:Nat):Int))from rfl,hl,OZ (λk=>RP q (k:Int)) (λ_=>((1:Int),(1:Int)))]
  simp only[Bl]
  rw[vu hq]
  rfl
theorem AaF(hq:US q):Ku q=some (cpB q):=by
 unfold Ku cpB
 rw[Wc hq]
 simp only[Ab]
 cases hv:II q with
 |false=>rfl
 |true=>
  obtain⟨h1,h2,h3,h4⟩:=Jf hv
  rw[An,Ae]
  have hd:Kv q=some ((List.range' 0 q.1.toNat).map λ(v:Nat)=>(v:Int)):=by
   unfold Kv
   rw[Wc hq,hv]
   simp only[Ab,An,Ae]
   have hl:=Ep (B:=N4 q) (n:=q.1.toNat) (O:=Unit) (λ(s:zI) k=>(s,(k:Int))) (λk s=>s.length=k) (λk s=>.inl (s++[(k:Int)])) (λo=>match o with|.inl s=>s|.inr _=>[]) (by unfold lim;omega) (λrec k s hk hi=>by
    show cond (decide ((k:Int) < q.1)) _ _=_
    rw[Ai (by omega),Ad,AX (by rw[hi];simp;unfold lim;omega),BG hk (by unfold maxLen;omega)]) (λrec s hi=>by
    show cond (decide (((q.1.toNat:Nat):Int) < q.1)) _ _=_
    rw[Ag (by omega)];rfl) (λk s s' hk hi hs=>by cases hs;simp[hi]) [] rfl
   rw[show((0:Nat):Int)=0 from rfl]at hl
   rw[hl,Xu (λ(k:Nat)=>(k:Int))]
   rfl
  rw[hd]
  simp only[Ab]
  unfold QW
  have hlen:((List.range' 0 q.1.toNat).map λ(v:Nat)=>(v:Int)).length=q.1.toNat:=by simp
  have hl:=Ep (B:=Ro q ((List.range' 0 q.1.toNat).map λ(v:Nat)=>(v:Int))) (n:=q.1.toNat) (O:=Unit) (λ(s:Mx×List Rt) k=>(s.1,s.2,(k:Int))) (λk s=>s.1.length=k∧s.2.length=k) (λk s=>.inl (s.1++[RP q (k:Int)],s.2++[((1:Int),(1:Int))])) (λo=>match o with|.inl s=>s|.inr _=>([],[])) (by unfold lim;omega) (λrec k s hk hi=>by
   show cond (decide ((k:Int) < ((((List.range' 0 q.1.toNat).map λ(v:Nat)=>(v:Int)).length:Nat):Int))) _ _=_
   rw[hlen,Br hk,Ad,Bd (by rw[hlen];exact hk),Be,DR]
   simp only[Ab,CR,Dn]
   rw[ph hq]
   simp only[Ab]
   rw[AX (by rw[hi.1];simp;unfold lim;omega),AX (by rw[hi.2];simp;unfold lim;omega),BG hk (by unfold maxLen;omega)]) (λrec s hi=>by
   show cond (decide (((q.1.toNat:Nat):Int) < ((((List.range' 0 q.1.toNat).map λ(v:Nat)=>(v:Int)).length:Nat):Int))) _ _=_
   rw[hlen,Bm];rfl) (λk s s' hk hi hs=>by cases hs;exact⟨by simp[hi.1],by simp[hi.2]⟩) ([],[]) ⟨rfl,rfl⟩
  rw[show(([]:Mx),([]:List Rt),(0:Int))=((([],[]):Mx×List Rt).1,(([],[]):Mx×List Rt).2,((0:Nat):Int))from rfl,hl,OZ (λk=>RP q (k:Int)) (λ_=>((1:Int),(1:Int)))]
  simp only[Bl]
  rw[tN hq]
  rfl
theorem wJ(hv:II q=true):XB (MZ q):=by
 obtain⟨h1,h2,h3,h4⟩:=Jf hv
 unfold MZ XB
 refine⟨by simp;unfold lim;omega,by simp;unfold lim;omega,by simp;unfold lim;omega⟩
end
def scM(l:zI)(n:Int):zI:=l.map λx=>wZ (x * n)
def agB(s:zI)(a b:List Rt):Int×Bool:=cond ((FM a).2==0) (0,false) (cond ((FM b).2==0) (0,false) (cond (a.length !=s.length) (0,false) (cond (b.length !=s.length) (0,false) (match Q4 s (scM (FM a).1 (FM b).2),Q4 s (scM (FM b).1 (FM a).2)with
 |some m,some n=>(X1 m n,true)
 |_,_=>(0,false)))))
theorem ii{w:List Rt}(h:((FM w).2==0)=false):(FM w).1.length=w.length:=by
 unfold FM at h⊢
 cases hs:Oe 1 w with
 |inl d=>simp
 |inr o=>
  rw[hs]at h
  exfalso
  unfold Oe at hs
  cases hb:B9 w λ_ r=> !Ps r with
  |true=>rw[hb]at hs;cases hs;cases h
  |false=>
   rw[hb,Ae]at hs
   cases hd:scD 1 w with
   |none=>rw[hd]at hs;cases hs;cases h
   |some d=>rw[hd]at hs;cases hs
theorem bI{l:zI}(n:Int)(h:l.length<=lim):N8 l n=some (scM l n):=by
 unfold N8 scM
 rw[J3 (a:=l) (h:=λx=>wZ (x * n)) h (λk hk rec=>by
  show cond (decide ((k:Int) < (l.length:Int))) _ _=_
  rw[Br hk,Ad,Bd hk]
  simp only[Ab]
  rw[AX (by simp only[Ak,AJ,Ay];omega),BG hk (Bq h)]) (λrec y=>by
  show cond (decide ((l.length:Int) < (l.length:Int))) _ _=_
  rw[Bm];rfl)]
 rfl
section
variable {s:zI}{a b:List Rt}
theorem gr(x y:Nat):((x:Int)!=(y:Int))=(x !=y):=by
 rw[B5,C9,C9];omega
theorem wX(hs:s.length<=lim)(hI:∀e∈s,e<=9223372036854775807)(ha:a.length<=lim)(hb:b.length<=lim):HF s a b=some (agB s a b):=by
 unfold HF agB
 rw[ZM ha]
 simp only[Ab]
 rw[ZM hb]
 simp only[Ab]
 rw[gr,gr]
 cases h1:(FM a).2==0 with
 |true=>cases a.length !=s.length<;>cases b.length !=s.length<;>rfl
 |false=>
  cases h2:(FM b).2==0 with
  |true=>cases a.length !=s.length<;>cases b.length !=s.length<;>rfl
  |false=>
   simp only[Ae]
   cases h3:a.length !=s.length with
   |true=>rfl
   |false=>
    cases h4:b.length !=s.length with
    |true=>rfl
    |false=>
     simp only[Ae]
     rw[bI _ (by rw[ii h1];exact ha)]
     simp only[Ab]
     rw[lg hs hI]
     simp only[Ab]
     rw[bI _ (by rw[ii h2];exact hb)]
     simp only[Ab]
     rw[lg hs hI]
     simp only[Ab]
     cases hp:Q4 s (scM (FM a).1 (FM b).2)with
     |none=>rfl
     |some m=>
      cases hp2:Q4 s (scM (FM b).1 (FM a).2)with
      |none=>rfl
      |some n=>
       simp only[toR,An,Ae]
       rw[lb (Wh hp) (Wh hp2)]
end
theorem n5(s:zI)(a b:List Rt):decide ((agB s a b).1 < 0)=((agB s a b).1== -1):=by
 have key:(agB s a b).1=0∨(agB s a b).1=1∨(agB s a b).1= -1:=by
  unfold agB
  cases(FM a).2==0 with
  |true=>exact .inl rfl
  |false=>
   cases(FM b).2==0 with
   |true=>exact .inl rfl
   |false=>
    cases a.length !=s.length with
    |true=>exact .inl rfl
    |false=>
     cases b.length !=s.length with
     |true=>exact .inl rfl
     |false=>
      simp only[Ae]
      cases Q4 s (scM (FM a).1 (FM b).2)with
      |none=>exact .inl rfl
      |some m=>
       cases Q4 s (scM (FM b).1 (FM a).2)with
       |none=>exact .inl rfl
       |some n=>
        simp only
        unfold X1
        cases decide (m < n)with
        |true=>exact .inr (.inr rfl)
        |false=>
         cases decide (n < m)with
         |true=>exact .inr (.inl rfl)
         |false=>exact .inl rfl
 rcases key with h|h|h<;>rw[h]<;>rfl
end Go.Proofs.YthghcmmlmfgkbaaGreatDoor
