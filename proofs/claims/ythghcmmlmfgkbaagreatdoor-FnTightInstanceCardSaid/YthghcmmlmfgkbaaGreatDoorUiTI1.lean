/-
 A tight database's tables are full: the sizes of its atoms and the number of its bindings. Plain lists; conditions: the database is built.
-/
import Derived.Test.YthghcmmlmfgkbaaGreatDoorUgTI1
import Derived.Test.YthghcmmlmfgkbaaGreatDoorTdTI1
import Derived.Test.YthghcmmlmfgkbaaGreatDoorRtTI1
open Go.RowKit
set_option linter.unusedVariables false
set_option linter.unusedSimpArgs false
namespace Go.Proofs.YthghcmmlmfgkbaaGreatDoor
def XW:zN->List zI
 |[]=>[[]]
 |c::cs=>(List.range c).flatMap λ(v:Nat)=>(XW cs).map ((v:Int):: ·)
theorem WS{α β:Type}{f:α->List β}{k:Nat}(h:∀a,(f a).length=k):∀l:List α,(l.flatMap f).length=l.length * k
 |[]=>by simp
 |a::l=>by rw[AH,Aw,h,WS h l,AQ,C4,Dn,Hw]
theorem fh:∀cs:zN,(XW cs).length=cs.prod
 |[]=>rfl
 |c::cs=>by
  rw[XW,WS (k:=cs.prod) (λv=>by rw[Ak,fh cs]),BV,List.prod_cons]
theorem Zj:∀(cs:zN) (x:zI),x∈XW cs↔x.length=cs.length∧∀i,i < cs.length->0<=x.getD i 0∧x.getD i 0 < (cs.getD i 0:Int)
 |[],x=>by
  rw[XW,AP]
  constructor
  ·intro h;subst h;exact⟨rfl,λi hi=>by simp at hi⟩
  ·intro h;exact A1 h.1
 |c::cs,x=>by
  rw[XW,Cj]
  constructor
  ·rintro⟨v,hv,h⟩
   obtain⟨y,hy,rfl⟩:=A3.1 h
   obtain⟨h1,h2⟩:=(Zj cs y).1 hy
   have hv:=Ao.1 hv
   refine⟨by simp[h1],λi hi=>?_⟩
   cases i with
   |zero=>show 0<=(v:Int)∧(v:Int) < (c:Int);omega
   |succ i=>exact h2 i (by simpa using hi)
  ·rintro⟨h1,h2⟩
   cases x with
   |nil=>simp at h1
   |cons e y=>
    have h0:0<=e∧e < (c:Int):=h2 0 (by simp)
    refine⟨e.toNat,Ao.2 (by omega),A3.2 ⟨y,(Zj cs y).2 ⟨by simpa using h1,λi hi=>h2 (i+1) (by simpa using hi)⟩,?_⟩⟩
    rw[show((e.toNat:Nat):Int)=e by omega]
theorem Yg:∀cs:zN,(XW cs).Nodup
 |[]=>by rw[XW];simp
 |c::cs=>by
  rw[XW,DB,List.flatMap_def,List.pairwise_flatten]
  refine⟨λl hl=>?_,?_⟩
  ·obtain⟨v,_,rfl⟩:=A3.1 hl
   rw[El]
   exact(DB.1 (Yg cs)).imp λh e=>h (J4 e).2
  ·rw[El]
   refine(DB.1 (E4 (n:=c))).imp ?_
   intro u v h x hx y hy e
   obtain⟨x',_,rfl⟩:=A3.1 hx
   obtain⟨y',_,rfl⟩:=A3.1 hy
   exact h (by have:=(J4 e).1;omega)
theorem fv{cs:zN}{L:List zI}(hn:L.Nodup)(h:∀x,x∈L↔x.length=cs.length∧∀i,i < cs.length->0<=x.getD i 0∧x.getD i 0 < (cs.getD i 0:Int)):L.length=cs.prod:=by
 have hp:L.Perm (XW cs):=(List.perm_ext_iff_of_nodup hn (Yg cs)).2 λx=>(h x).trans (Zj cs x).symm
 rw[hp.length_eq,fh]
theorem SK{cs:zI}(hc:∀c∈cs,0<=c):∀(k:Nat),k<=cs.length->∀r:zI,r∈HB cs k↔r.length=k∧∀i,i < k->0<=r.getD i 0∧r.getD i 0 < cs.getD i 0
 |0,_,r=>by
  show r∈[[]]↔_
  rw[AP]
  constructor
  ·intro h;subst h;exact⟨rfl,λi hi=>by omega⟩
  ·intro h;exact A1 h.1
 |k+1,hk,r=>by
  have hlt:k < cs.length:=by omega
  have ck:=hc _ (Aj hlt)
  have eck:cs.getD k 0=cs[k]:=by rw[Af,Ac hlt];rfl
  rw[SM hlt]
  unfold WP
  rw[Cj]
  constructor
  ·rintro⟨y,hy,h⟩
   obtain⟨v,hv,rfl⟩:=A3.1 h
   obtain⟨h1,h2⟩:=(SK hc k (by omega) y).1 hy
   have hv:=Ao.1 hv
   refine⟨by simp[h1],λi hi=>?_⟩
   by_cases e:i=k
   ·subst e
    rw[eck,Af,CF (by omega),h1,La]
    show 0<=(v:Int)∧(v:Int) < cs[i]
    omega
   ·have:=h2 i (by omega)
    rw[Af,B4 (by omega),<-Af]
    exact this
  ·rintro⟨h1,h2⟩
   have hr:k < r.length:=by omega
   have h3:=h2 k (by omega)
   have er:r.getD k 0=r[k]:=by rw[Af,Ac hr];rfl
   rw[er,eck]at h3
   refine⟨r.take k,(SK hc k (by omega) _).2 ⟨by rw[AJ];omega,λi hi=>?_⟩,A3.2 ⟨r[k].toNat,Ao.2 (by omega),?_⟩⟩
   ·have:=h2 i (by omega)
    rw[Af,FA hi,<-Af]
    exact this
   ·rw[show((r[k].toNat:Nat):Int)=r[k]by omega,<-A5 hr,DL (by omega)]
theorem Su{cs:zI}(h:(J0 cs).2=true):cs.length<=5∧(J0 cs).1=((cs.length:Int),HB cs cs.length)∧∀c∈cs,0<=c:=by
 unfold J0 at h⊢
 cases hb:(decide ((5:Int) < (cs.length:Int)) || (List.range cs.length).any (N0 cs))with
 |true=>rw[hb]at h;cases h
 |false=>
  rw[BF,CI,Bx]at hb
  refine⟨by omega,rfl,λc hc=>?_⟩
  obtain⟨k,hk,rfl⟩:=BO hc
  have:=hb.2 k (Ao.2 hk)
  rw[Ex]at this
  exact(ZA hk this).1
section
variable {d:List Jt}{nm:zU}{r:Int×List zI}
theorem ve(h:SV d=true):(nm,r)∈PK d nm r:=by
 rw[QD h]
 unfold cz
 cases hc:It d (E3 d nm) λt=>t.1==nm with
 |false=>simp
 |true=>
  have hlt:E3 d nm < d.length:=by
   rcases A9 (E3 d nm) d.length with h1|h1
   ·exact h1
   ·unfold It at hc;rw[A2 h1]at hc;cases hc
  exact Bf.2 ⟨E3 d nm,by simpa using hlt,by simp⟩
theorem mI(h:SV d=true){t:Jt}(ht:t∈d)(hne:(t.1==nm)=false):t∈PK d nm r:=by
 rw[QD h]
 unfold cz
 cases hc:It d (E3 d nm) λt=>t.1==nm with
 |false=>
  rw[<-C8 (E3 d nm) d]at ht
  simp only[Ae,Al,AP]
  rcases Al.1 ht with ht|ht
  ·exact .inl (.inl ht)
  ·exact .inr ht
 |true=>
  obtain⟨j,hj,rfl⟩:=Bf.1 ht
  have e:j≠E3 d nm:=λe=>by
   subst e
   rw[Cu hj]at hc
   rw[hc]at hne;cases hne
  refine Bf.2 ⟨j,by simpa using hj,?_⟩
  simp only[Ad]
  rw[List.getElem_set_ne (Ne.symm e)]
theorem pI(h:SV d=true)(hm:(nm,r)∈d):Fe d nm=(r,true):=by
 unfold Fe
 rw[Av h]
 cases hf:d.find? (λt=>t.1==nm)with
 |none=>
  have:=List.find?_eq_none.1 hf _ hm
  simp at this
 |some t=>
  have h1:=G6 hf
  have h2:=List.find?_some hf
  simp only
  have ha:=kt h
  obtain⟨i,hi,ei⟩:=BO h1
  obtain⟨j,hj,ej⟩:=BO hm
  have e:i=j:=by
   rcases FG i j with h|h|h
   ·have:=DM.1 ha i j hi hj h
    rw[ei,ej,Dv h2,Zi]at this;cases this
   ·exact h
   ·have:=DM.1 ha j i hj hi h
    rw[ei,ej,Dv h2,Zi]at this;cases this
  subst e
  rw[ei]at ej
  rw[ej]
end
section
variable {l:List PG}{nums:zI}{b:Int}
theorem fw:∀(k:Nat) (hk:k<=l.length) (hb:∀j,j < k->Se l nums b j=false) (j:Nat) (hj:j < k),((l[j]'(by omega)).1,(J0 (cnt nums b (l[j]'(by omega)))).1)∈dbK l nums b k
 |k+1,hk,hb,j,hj=>by
  obtain⟨i1,i2⟩:=WK k (by omega) (λj hj=>hb j (by omega))
  have h1:=hb k (by omega)
  unfold Se at h1
  rw[Cu (by omega)]at h1
  simp only[BF,Cx]at h1
  obtain⟨e1,e2,e3⟩:=ij h1.2.2
  rw[fA (by omega)]
  show _∈(setB _ _ _).1
  rw[e3]
  by_cases e:j=k
  ·subst e;exact ve i1
  ·have hm:=fw k (by omega) (λj hj=>hb j (by omega)) j (by omega)
   refine mI i1 hm ?_
   have hl:=h1.2.1
   rw[bV i1]at hl
   have:=Bx.1 hl _ hm
   rw[Ex]at this
   exact this
end
theorem Rk{q:NQ}{nums:zI}{b:Int}(h:(XP q nums b).2=true):Hd q nums b=true∧SV (XP q nums b).1=true∧∀a∈q.2.1,(J0 (cnt nums b a)).2=true∧Fe (XP q nums b).1 a.1=((J0 (cnt nums b a)).1,true):=by
 unfold XP at h⊢
 cases ht:Hd q nums b with
 |false=>rw[ht]at h;cases h
 |true=>
  cases hb:(List.range q.2.1.length).any (Se q.2.1 nums b)with
  |true=>rw[ht,hb]at h;cases h
  |false=>
   have hb':∀j,j < q.2.1.length->Se q.2.1 nums b j=false:=λj hj=>by
    have:=Bx.1 hb j (Ao.2 hj)
    rwa [Ex]at this
   have hd:=(WK (l:=q.2.1) (nums:=nums) (b:=b) q.2.1.length (AT _) hb').1
   refine⟨rfl,hd,λa ha=>?_⟩
   obtain⟨j,hj,rfl⟩:=BO ha
   have h1:=hb' j hj
   unfold Se at h1
   rw[Cu hj]at h1
   simp only[BF,Cx]at h1
   exact⟨h1.1,pI hd (fw q.2.1.length (AT _) hb' j hj)⟩
theorem Xn(b:Nat):∀l:zN,(l.map λx=>b ^ x).prod=b ^ l.sum
 |[]=>rfl
 |x::l=>by rw[AC,List.prod_cons,Xn b l,List.sum_cons,Mf]
theorem bi(p:Nat->Bool)(f:Nat->Nat):∀n,(((((List.range n).filter p).map f).sum:Nat):Rat)=sm n (λv=>bq (p v) * ((f v:Nat):Rat))
 |0=>by simp[sm]
 |n+1=>by
  rw[EP,Gg,B7,List.sum_append,sm,<-bi p f n]
  cases h:p n with
  |true=>rw[List.filter_cons_of_pos h];simp[bq]
  |false=>
   rw[List.filter_cons_of_neg (by rw[h];decide),KD,DX,List.sum_nil,Dt]
   show _=_+(0:Rat) * _
   grind
theorem eM:∀l:zN,((l.sum:Nat):Rat)=sm l.length (λv=>((l.getD v 0:Nat):Rat))
 |[]=>rfl
 |x::l=>by
  rw[List.sum_cons,AQ,R6]
  push_cast
  rw[eM l]
  rfl
section
variable {q:NQ}{ν:zN}{b:Nat}
theorem d9{v:Int}(h0:0<=v)(h:v.toNat < ν.length):HQ (ν.map λ(z:Nat)=>(z:Int)) v=((ν.getD v.toNat 0:Nat):Int):=by
 obtain⟨k,rfl⟩:=CH h0
 have hk:k < ν.length:=by simpa using h
 rw[ID (by simpa using hk),Be,AL,Af,Ac hk]
 rfl
theorem cA(ht:(XP q (ν.map λ(z:Nat)=>(z:Int)) (b:Int)).2=true){a:PG}(ha:a∈q.2.1){v:Int}(hv:v∈a.2):0<=v∧v.toNat < ν.length∧pvT (ν.map λ(z:Nat)=>(z:Int)) (b:Int) v=((b ^ ν.getD v.toNat 0:Nat):Int)∧ν.length=q.1.toNat:=by
 obtain⟨hok,-,h3⟩:=Rk ht
 unfold Hd at hok
 simp only[Aa,Bc,Ak]at hok
 obtain⟨-,-,-,q4⟩:=MU hok.2.1
 have r:=(q4 a ha).2.2 v hv
 have hlt:v.toNat < ν.length:=by omega
 refine⟨r.1,hlt,?_,by omega⟩
 obtain⟨hf,-⟩:=h3 a ha
 have nn:=(Su hf).2.2 (pvT (ν.map λ(z:Nat)=>(z:Int)) (b:Int) v) (by unfold cnt;exact CE hv)
 have e:pw (b:Int) (HQ (ν.map λ(z:Nat)=>(z:Int)) v)=((b ^ ν.getD v.toNat 0:Nat):Int):=by
  rw[d9 r.1 hlt]
  unfold pw
  rw[AL,AL]
 unfold pvT at nn⊢
 rw[e]at nn⊢
 by_cases h:100 < ((b ^ ν.getD v.toNat 0:Nat):Int)
 ·rw[Av h]at nn;omega
 ·rw[At h]
theorem YM(ht:(XP q (ν.map λ(z:Nat)=>(z:Int)) (b:Int)).2=true){a:PG}(ha:a∈q.2.1)(z:zI):Le z a.2∈(Fe (XP q (ν.map λ(z:Nat)=>(z:Int)) (b:Int)).1 a.1).1.2↔∀v∈a.2,0<=HQ z v∧HQ z v < ((b ^ ν.getD v.toNat 0:Nat):Int):=by
 obtain⟨-,-,h3⟩:=Rk ht
 obtain⟨hf,hl⟩:=h3 a ha
 obtain⟨f1,f2,f3⟩:=Su hf
 rw[hl,f2]
 show Le z a.2∈HB _ _↔_
 rw[SK f3 _ (AT _)]
 have lc:(cnt (ν.map λ(z:Nat)=>(z:Int)) (b:Int) a).length=a.2.length:=by unfold cnt;rw[Ak]
 have at1:∀i (hi:i < a.2.length),(Le z a.2).getD i 0=HQ z a.2[i]:=λi hi=>by
  unfold Le
  rw[Af,AW,Ac hi];rfl
 have at2:∀i (hi:i < a.2.length),(cnt (ν.map λ(z:Nat)=>(z:Int)) (b:Int) a).getD i 0=((b ^ ν.getD (a.2[i]).toNat 0:Nat):Int):=λi hi=>by
  unfold cnt
  rw[Af,AW,Ac hi]
  exact(cA ht ha (Aj hi)).2.2.1
 rw[lc]
 constructor
 ·rintro⟨-,h⟩ v hv
  obtain⟨i,hi,rfl⟩:=BO hv
  have:=h i hi
  rw[at1 i hi,at2 i hi]at this
  exact this
 ·intro h
  refine⟨by unfold Le;rw[Ak],λi hi=>?_⟩
  rw[at1 i hi,at2 i hi]
  exact h _ (Aj hi)
theorem nL(ht:(XP q (ν.map λ(z:Nat)=>(z:Int)) (b:Int)).2=true):Rq (XP q (ν.map λ(z:Nat)=>(z:Int)) (b:Int)).1 q=true:=by
 obtain⟨hok,hd,h3⟩:=Rk ht
 unfold Hd at hok
 simp only[Aa]at hok
 unfold Rq
 rw[hok.2.1,hd,AD,AD,Ax]
 refine Kg λi hi=>?_
 obtain⟨hf,hl⟩:=h3 _ (Aj hi)
 unfold Lr
 rw[hl,(Su hf).2.1]
 unfold cnt
 simp
theorem iA(ht:(XP q (ν.map λ(z:Nat)=>(z:Int)) (b:Int)).2=true)(z:zI):IsB (XP q (ν.map λ(z:Nat)=>(z:Int)) (b:Int)).1 q z↔z.length=(ν.map λx=>b ^ x).length∧∀i,i < (ν.map λx=>b ^ x).length->0<=z.getD i 0∧z.getD i 0 < ((ν.map λx=>b ^ x).getD i 0:Int):=by
 have hok:=(Rk ht).1
 unfold Hd at hok
 simp only[Aa,Bc,Ak]at hok
 obtain⟨q1,q2,-,q4⟩:=MU hok.2.1
 have key:∀a∈q.2.1,(Le z a.2∈(Fe (XP q (ν.map λ(z:Nat)=>(z:Int)) (b:Int)).1 a.1).1.2↔∀v∈a.2,0<=HQ z v∧HQ z v < ((b ^ ν.getD v.toNat 0:Nat):Int)):=λa ha=>YM ht ha z
 have eb:∀i,i < ν.length->(ν.map λx=>b ^ x).getD i 0=b ^ ν.getD i 0:=λi hi=>by
  rw[Af,AW,Ac hi,Af,Ac hi];rfl
 unfold IsB
 rw[Ak]
 constructor
 ·rintro⟨hl,h⟩
  refine⟨by omega,λi hi=>?_⟩
  have hv:=hok.2.1
  unfold II at hv
  simp only[Aa,Ax]at hv
  have hu:=Bx.1 hv.2.2.2.2 i (Ao.2 (by omega))
  simp only[Ax,IN]at hu
  unfold Hf at hu
  obtain⟨a,ha,hv⟩:=Bi.1 hu
  have:=(key a ha).1 (h a ha) (i:Int) (AS.1 hv)
  rw[ID (by omega),AL]at this
  rw[eb i hi,Af,Ac (by omega)]
  exact this
 ·rintro⟨hl,h⟩
  refine⟨by omega,λa ha=>(key a ha).2 λv hv=>?_⟩
  obtain⟨p1,p2,-⟩:=cA ht ha hv
  have:=h v.toNat p2
  obtain⟨k,rfl⟩:=CH p1
  have hk:k < ν.length:=by simpa using p2
  rw[AL]at this⊢
  rw[eb k hk,Af,Ac (by omega)]at this
  rw[ID (by omega)]
  exact this
def YY(ν:zN)(a:PG):Nat:=(((List.range 5).filter λ(v:Nat)=>a.2.contains (v:Int)).map λv=>ν.getD v 0).sum
theorem iB(ht:(XP q (ν.map λ(z:Nat)=>(z:Int)) (b:Int)).2=true)(hb:1<=b){a:PG}(ha:a∈q.2.1):(abB (XP q (ν.map λ(z:Nat)=>(z:Int)) (b:Int)).1 a).2.length=b ^ YY ν a:=by
 have hfor:=nL ht
 obtain⟨-,g2,-⟩:=NL hfor
 obtain⟨aok,afit⟩:=g2 a ha
 have hcs:(((List.range 5).filter λ(v:Nat)=>a.2.contains (v:Int)).map λv=>b ^ ν.getD v 0).prod=b ^ YY ν a:=by
  unfold YY
  rw[<-Xn,C0];rfl
 rw[<-hcs]
 have lav:(Rv a 5).length=((List.range 5).filter λ(v:Nat)=>a.2.contains (v:Int)).length:=by unfold Rv;rw[Ak]
 have eav:∀i (hi:i < (Rv a 5).length),(Rv a 5)[i]=((((List.range 5).filter λ(v:Nat)=>a.2.contains (v:Int))[i]'(by omega):Nat):Int):=λi hi=>by
  exact Be (λ(n:Nat)=>(n:Int))
 refine fv ?_ λx=>?_
 ·unfold abB;exact Y0 (Oh _)
 ·have ecs:∀i (hi:i < (Rv a 5).length),(((List.range 5).filter λ(v:Nat)=>a.2.contains (v:Int)).map λv=>b ^ ν.getD v 0).getD i 0=b ^ ν.getD ((Rv a 5)[i]).toNat 0:=λi hi=>by
   rw[Af,AW,Ac (by omega),eav i hi];rfl
  rw[Ak,<-lav]
  constructor
  ·intro hx
   unfold abB at hx
   have hx:=(Mh _ _).1 hx
   unfold RI at hx
   obtain⟨r,hr,rfl⟩:=A3.1 hx
   have hr:=(BE.1 hr).1
   refine⟨by unfold rowOf;rw[Ak],λi hi=>?_⟩
   rw[ecs i hi]
   have e:(rowOf a r).getD i 0=HQ r (ML a.2 (Rv a 5)[i]):=by
    unfold rowOf
    rw[Af,AW,Ac hi];rfl
   rw[e]
   obtain⟨k,hk,e1,e2⟩:=Ob (Tq.1 (Aj hi)).2
   obtain⟨-,-,h3⟩:=Rk ht
   obtain⟨hf,hl⟩:=h3 a ha
   obtain⟨f1,f2,f3⟩:=Su hf
   rw[hl,f2]at hr
   have hr:r∈HB (cnt (ν.map λ(z:Nat)=>(z:Int)) (b:Int) a) (cnt (ν.map λ(z:Nat)=>(z:Int)) (b:Int) a).length:=hr
   have lc:(cnt (ν.map λ(z:Nat)=>(z:Int)) (b:Int) a).length=a.2.length:=by unfold cnt;rw[Ak]
   obtain⟨r1,r2⟩:=(SK f3 _ (AT _) r).1 hr
   have:=r2 k (by omega)
   have at2:(cnt (ν.map λ(z:Nat)=>(z:Int)) (b:Int) a).getD k 0=((b ^ ν.getD (a.2[k]).toNat 0:Nat):Int):=by
    unfold cnt
    rw[Af,AW,Ac hk]
    exact(cA ht ha (Aj hk)).2.2.1
   rw[at2,Af,Ac (by omega)]at this
   rw[e1,ID (by omega),<-e2]
   exact this
  ·rintro⟨hl,h⟩
   have hres:qt a ((List.range 5).map λ(v:Nat)=>HQ x (ML (Rv a 5) (v:Int)))=x:=by
    unfold qt
    refine CD (by rw[Ak,hl]) λi h1 h2=>?_
    have hi:i < (Rv a 5).length:=by simpa using h1
    rw[Be]
    have m:=Tq.1 (Aj hi)
    obtain⟨v,hv⟩:=CH m.1.1
    have hv5:v < 5:=by omega
    rw[hv,ID (by simpa using hv5),Be,CV]
    obtain⟨k,hk,e1,e2⟩:=Ob (l:=Rv a 5) (v:=(v:Int)) (AS.2 (by rw[<-hv];exact Aj hi))
    rw[e1,ID (by omega)]
    have:k=i:=by
     have e3:(Rv a 5)[k]=(Rv a 5)[i]:=by rw[e2,hv]
     rw[eav k hk,eav i hi]at e3
     have nd:((List.range 5).filter λ(v:Nat)=>a.2.contains (v:Int)).Nodup:=E4.filter _
     have e4:((List.range 5).filter λ(v:Nat)=>a.2.contains (v:Int))[k]'(by omega)=((List.range 5).filter λ(v:Nat)=>a.2.contains (v:Int))[i]'(by omega):=by omega
     exact(List.getElem_inj nd).1 e4
    subst this
    rfl
   rw[<-hres]
   refine vg aok ((YM ht ha _).2 λv hv=>?_)
   have r:=aok.2 v hv
   obtain⟨k,rfl⟩:=CH r.1
   have hk5:k < 5:=by omega
   rw[ID (by simpa using hk5),Be,CV]
   obtain⟨i,hi,e1,e2⟩:=Ob (l:=Rv a 5) (v:=(k:Int)) (AS.2 (Tq.2 ⟨r,AS.2 hv⟩))
   have:=h i hi
   rw[ecs i hi,e2,Af,Ac (by omega)]at this
   rw[e1,ID (by omega)]
   exact this
end
theorem tg(a b:zI):(GZ a b !=0)= !(a==b):=by rw[bne,cmp_eq]
def YV{α β:Type}(f:α->β->Bool)(a:List α)(b:List β):Bool:=((a.length:Int)==(b.length:Int))&& !B9 a λk x=> !It b k (f x)
theorem rU(m n:Nat):((m:Int)!=(n:Int))= !((m:Int)==(n:Int)):=rfl
def eD(a b:List zI):Bool:=YV (λx y=>x==y) a b
def YR(a b:Int×List zI):Bool:=(a.1==b.1)&&eD a.2 b.2
theorem gu{m n:Nat}(h:((m:Int)==(n:Int))=true):m=n:=by have h:=Dv h;omega
theorem qM{a b:Int×List zI}(h:Lj a.2):IT a b=some (YR a b):=by
 unfold IT YR eD YV B9
 rw[rU,bne]
 cases a.1==b.1 with
 |false=>rfl
 |true=>
  cases hl:((a.2.length:Int)==(b.2.length:Int))with
  |false=>rfl
  |true=>
   have hn:=gu hl
   simp only[An,Ae,AD]
   rw[E5 (λk=>It a.2 k λx=> !It b.2 k λy=>x==y) h.1 (λk hk rec=>by
    have hk':k < b.2.length:=by omega
    unfold JQ
    rw[Br hk,Bd hk,Bd hk',BG hk (Bq h.1),Cu hk,Cu hk']
    simp only[Ad,Ab,cK (h.2 _ (Aj hk)),tg]) (λrec=>by unfold JQ;rw[Bm];rfl)]
   cases(List.range a.2.length).any λk=>It a.2 k λx=> !It b.2 k λy=>x==y<;>rfl
def oH(a b:List Jt):Bool:=YV (λx y=>(x.1==y.1)&&YR x.2 y.2) a b
theorem vo{a b:List Jt}(h:R5 a):IR a b=some (oH a b):=by
 unfold IR oH YV B9
 rw[rU]
 cases hl:((a.length:Int)==(b.length:Int))with
 |false=>rfl
 |true=>
  have hn:=gu hl
  simp only[An,Ae,AD]
  rw[E5 (λk=>It a k λx=> !It b k λy=>(x.1==y.1)&&YR x.2 y.2) h.1 (λk hk rec=>by
   have hk':k < b.length:=by omega
   unfold JP
   rw[Br hk,Bd hk,Bd hk',BG hk (Bq h.1),Cu hk,Cu hk']
   simp only[Ad,Ab,qM (h.2 _ (Aj hk)).2]
   cases a[k].1==b[k].1<;>rfl) (λrec=>by unfold JP;rw[Bm];rfl)]
  cases(List.range a.length).any λk=>It a k λx=> !It b k λy=>(x.1==y.1)&&YR x.2 y.2<;>rfl
abbrev Cur:=zI×Int×Int
def JV(c:Cur):Prop:=c.1.length<=1048576∧0<=c.2.1∧c.2.1<=c.1.length
def Dr{α:Type}(x:Option (α×Cur))(Q:α->Prop):Prop:=∃v c',x=some (v,c')∧Q v∧JV c'
theorem eV(a:Int):0<=aG a 255∧aG a 255<=255:=by
 unfold aG
 have h:(BitVec.ofInt IntKind.i64.bits a&&& BitVec.ofInt IntKind.i64.bits 255).toNat<=255:=by
  rw[BitVec.toNat_and]
  exact BD Nat.and_le_right (Nat.le_of_eq rfl)
 rw[wrap_in ⟨by omega,by omega⟩]
 omega
theorem u3{b:zI}(h:b.length<=1048576):∃c,Rb b=some c∧JV c:=by
 unfold Rb
 obtain⟨o,e,_⟩:=OS (B:=Mj b) (λs=>0<=s.2∧s.2<=4000) (λs=>(4000 - s.2).toNat) (λ_=>True) (λs hs=>by
  obtain⟨y1,y2⟩:=s
  simp only at hs
  by_cases h1:y2 < (b.length:Int)
  ·by_cases h2:y2 < 4000
   ·right
    obtain⟨v,hv⟩:∃v,AZ b y2=some v:=⟨_,by unfold AZ;rw[Av hs.1,Ac (by omega)]⟩
    refine⟨(aG (wZ ((wZ ((wZ (y1 * 131))+(wZ v)))+7)) 1073741823,y2+1),⟨by simp only;omega,by simp only;omega⟩,by simp only;omega,λrec=>?_⟩
    simp only[Mj]
    rw[Ai h1,Ai h2,hv,wrap_in (n:=y2+1) ⟨by omega,by omega⟩]
    rfl
   ·left
    refine⟨y1,trivial,λrec=>?_⟩
    simp only[Mj]
    rw[Ai h1,Ag h2];rfl
  ·left
   refine⟨y1,trivial,λrec=>?_⟩
   simp only[Mj]
   rw[Ag h1];rfl) fz (wZ (10101+(List.length b:Int)),0) ⟨by simp,by simp⟩ (by unfold fz;simp)
 rw[e]
 exact⟨_,rfl,h,by simp,by simp⟩
section
variable {c:Cur}
theorem oz(h:JV c):Dr (Jw c) λv=>0<=v∧v<=255:=by
 obtain⟨h1,h2,h3⟩:=h
 unfold Jw Nr
 by_cases h4:c.2.1 < (c.1.length:Int)
 ·rw[Ai h4]
  obtain⟨v,hv⟩:∃v,AZ c.1 c.2.1=some v:=⟨_,by unfold AZ;rw[Av h2,Ac (by omega)]⟩
  simp only[Ad,hv,Ab]
  refine⟨_,_,rfl,eV _,h1,?_,?_⟩
  ·simp only;rw[wrap_in ⟨by omega,by omega⟩];omega
  ·simp only;rw[wrap_in ⟨by omega,by omega⟩];omega
 ·rw[Ag h4]
  exact⟨_,_,rfl,eV _,h1,h2,h3⟩
theorem NZ(h:JV c){n:Int}(h0:0 < n)(h1:n<=256):Dr (FE c n) λv=>0<=v∧v < n:=by
 obtain⟨v,c',e,hv,hc⟩:=oz h
 unfold FE
 rw[Ag (by omega),Ai h1,e]
 simp only[Ae,Ad,Ab]
 rw[AX (by omega)]
 refine⟨_,_,rfl,?_,hc⟩
 rw[Int.tmod_eq_emod_of_nonneg hv.1]
 exact⟨Int.emod_nonneg _ (by omega),Int.emod_lt_of_pos _ h0⟩
theorem Uw(h:JV c){n:Int}(h0:0 < n)(h1:n<=256):Dr (Jx c n) λ_=>True:=by
 obtain⟨v,c',e,hv,hc⟩:=NZ h h0 h1
 unfold Jx
 rw[e]
 exact⟨_,_,rfl,trivial,hc⟩
theorem mw(h:JV c){l:zI}(h0:0 < l.length)(h1:l.length<=256):Dr (Ns c l) λv=>v∈l:=by
 obtain⟨v,c',e,hv,hc⟩:=NZ h (n:=(l.length:Int)) (by omega) (by omega)
 unfold Ns
 rw[e]
 simp only[Ab]
 have:AZ l v=some (l[v.toNat]'(by omega)):=by unfold AZ;rw[Av hv.1,Ac]
 rw[this]
 exact⟨_,_,rfl,Aj _,hc⟩
theorem ql(h:JV c){l:List zU}(h0:0 < l.length)(h1:l.length<=256):Dr (P1 c l) λv=>v∈l:=by
 obtain⟨v,c',e,hv,hc⟩:=NZ h (n:=(l.length:Int)) (by omega) (by omega)
 unfold P1
 rw[e]
 simp only[Ab]
 have:AZ l v=some (l[v.toNat]'(by omega)):=by unfold AZ;rw[Av hv.1,Ac]
 rw[this]
 exact⟨_,_,rfl,Aj _,hc⟩
theorem oN(h:JV c){n m:Int}(hn:n<=1000)(h0:0 < m)(h1:m<=256):Dr (Rg c n m) λr=>(r.length:Int)=max 0 n∧∀e∈r,0<=e∧e < m:=by
 unfold Rg
 obtain⟨o,e,k1,k2,k3⟩:=OS (B:=NX n m) (λs=>JV (s.1,s.2.1,s.2.2.1)∧(s.2.2.2.length:Int)<=max 0 n∧∀e∈s.2.2.2,0<=e∧e < m) (λs=>(n - s.2.2.2.length).toNat) (λo=>JV (o.1,o.2.1,o.2.2.1)∧(o.2.2.2.length:Int)=max 0 n∧∀e∈o.2.2.2,0<=e∧e < m) (λs hs=>by
  obtain⟨b,i,hh,r⟩:=s
  obtain⟨i1,i2,i3⟩:=hs
  simp only at i1 i2 i3
  by_cases h2:(r.length:Int) < n
  ·right
   obtain⟨v,c',e,hv,hc⟩:=NZ i1 h0 h1
   refine⟨(c'.1,c'.2.1,c'.2.2,r++[v]),⟨hc,?_,?_⟩,?_,λrec=>?_⟩
   ·simp only[Aw,Ay];omega
   ·intro x hx
    rcases Al.1 hx with hx|hx
    ·exact i3 x hx
    ·rw[AP]at hx;subst hx;exact hv
   ·simp only[Aw,Ay];omega
   ·simp only[NX]
    rw[Ai h2,e]
    simp only[Ad,Ab]
    rw[AX (by unfold lim;simp only[Ay];omega)]
  ·left
   refine⟨(b,i,hh,r),⟨i1,?_,i3⟩,λrec=>?_⟩
   ·simp only;omega
   ·simp only[NX]
    rw[Ag h2];rfl) fz (c.1,c.2.1,c.2.2,[]) ⟨h,by simp;omega,λe he=>by cases he⟩ (by unfold fz;simp only[Cg];omega)
 rw[e]
 exact⟨_,_,rfl,⟨k2,k3⟩,k1⟩
def rI(k:Int)(l:List Row):Prop:=l.length<=1000∧∀r∈l,(r.length:Int)=k
theorem mW{k:Int}{l:List Row}(h:rI k l)(hk:k<=1000):Lj l:=⟨by have:=h.1;unfold lim;omega,λr hr=>by have:=h.2 r hr;unfold lim;omega⟩
def Aap(t:Jt):Prop:=t.1.length<=10∧∃k:Int,2<=k∧k<=1000∧rI k t.2.2
def DbD(d:List Jt):Prop:=d.length<=5∧∀t∈d,Aap t
theorem DbD.sm{d:List Jt}(h:DbD d):R5 d:=⟨by have:=h.1;unfold lim;omega,λt ht=>by
 obtain⟨h1,k,h2,h3,h4⟩:=h.2 t ht
 exact⟨by unfold lim;omega,mW h4 h3⟩⟩
end
theorem g5{q:NQ}(h:II q=true):1<=q.1∧q.1<=5∧1<=q.2.1.length∧q.2.1.length<=4∧(∀a∈q.2.1,a.1.length<=4∧1<=a.2.length∧a.2.length<=5)∧q.2.2.length<=5:=by
 obtain⟨h1,h2,h3,h4⟩:=MU h
 unfold II at h
 simp only[Aa,Ax]at h
 obtain⟨g1,g2,g3,g4,-⟩:=h
 have e2:1<=(q.2.1.length:Int)∧(q.2.1.length:Int)<=4:=by unfold FI at g2;simpa using g2
 have e3:=il ⟨h1,h2⟩ g3
 refine⟨h1,h2,by omega,h3,λa ha=>⟨?_,(h4 a ha).1,(h4 a ha).2.1⟩,by omega⟩
 have h5:=Mw g4 ha
 unfold Mn at h5
 simp only[BF,Cx]at h5
 have h6:=h5.1
 unfold nmB at h6
 simp only[Aa]at h6
 have:1<=(a.1.length:Int)∧(a.1.length:Int)<=4:=by have:=h6.1;unfold FI at this;simpa using this
 omega
theorem mL{q:NQ}(h:II q=true):US q:=by
 obtain⟨h1,h2,h3,h4,h5,h6⟩:=g5 h
 unfold US lim
 exact⟨by omega,λa ha=>by have:=h5 a ha;omega,by omega⟩
def TJ:List zU:=[[40,88,89,90,41,61,114,40,88,89,41,44,115,40,89,90,41,44,116,40,90,88,41],[40,88,89,90,85,41,61,114,40,88,89,41,44,115,40,89,90,41,44,116,40,90,85,41,44,117,40,85,88,41],[40,88,89,90,41,61,114,40,88,89,41,44,115,40,89,90,41],[40,88,41,61,114,40,88,89,41,44,115,40,89,90,41,44,116,40,90,85,41],[40,88,89,90,41,61,118,40,88,89,90,41,44,114,40,88,89,41],[40,88,89,41,61,114,40,88,89,41,44,114,40,89,88,41],[40,88,89,90,85,41,61,118,40,88,89,90,41,44,115,40,90,85,41,44,116,40,85,88,41],[40,88,41,61,114,40,88,88,41],[40,88,89,41,61,114,40,88,90,41,44,115,40,90,89,41,44,114,40,88,85,41,44,115,40,85,89,41],[40,41,61,114,40,88,89,41,44,115,40,89,88,41],[40,88,89,90,85,86,41,61,114,40,88,89,41,44,115,40,89,90,41,44,116,40,90,85,41,44,117,40,85,86,41]]
def parsed(s:zU):Bool:=match H2 s with
 |some (q,_)=>II q
 |none=>false
theorem lw:TJ.all parsed=true:=by kernel_rfl
theorem VL{s:zU}(h:s∈TJ):∃q b,H2 s=some (q,b)∧II q=true:=by
 have:=Ah.1 lw s h
 unfold parsed at this
 cases e:H2 s with
 |none=>rw[e]at this;cases this
 |some x=>rw[e]at this;exact⟨x.1,x.2,rfl,this⟩
section
variable {c:Cur}
theorem rF(h:JV c)(n:Int)(m:Int×Cur)(h0:0<=m.1)(h1:m.1<=100)(hn:n<=10):∃o,Au (H5 m) fz (c.1,c.2.1,c.2.2,([]:zI),n)=some o∧JV (o.1,o.2.1,o.2.2.1)∧o.2.2.2.length<=10:=by
 exact OS (B:=H5 m) (λs=>JV (s.1,s.2.1,s.2.2.1)∧(s.2.2.2.1.length:Int)+max 0 s.2.2.2.2<=10∧s.2.2.2.2<=10) (λs=>s.2.2.2.2.toNat) (λo=>JV (o.1,o.2.1,o.2.2.1)∧o.2.2.2.length<=10) (λs hs=>by
  obtain⟨b,i,hh,l,k⟩:=s
  obtain⟨i1,i2,i3⟩:=hs
  simp only at i1 i2 i3
  by_cases h2:0 < k
  ·right
   obtain⟨v,c',e,hv,hc⟩:=NZ i1 (n:=1+m.1) (by omega) (by omega)
   refine⟨(c'.1,c'.2.1,c'.2.2,l++[v],k - 1),⟨hc,?_,?_⟩,?_,λrec=>?_⟩
   ·simp only[Aw,Ay];omega
   ·simp only;omega
   ·simp only;omega
   ·simp only[H5]
    rw[Ai h2,wrap_in (n:=1+m.1) ⟨by omega,by omega⟩,e]
    simp only[Ad,Ab]
    rw[AX (by unfold lim;simp only[Ay];omega),wrap_in ⟨by omega,by omega⟩]
  ·left
   refine⟨(b,i,hh,l),⟨i1,by simp only;omega⟩,λrec=>?_⟩
   simp only[H5]
   rw[Ag h2];rfl) fz (c.1,c.2.1,c.2.2,([]:zI),n) ⟨h,by simp only[Cg];omega,hn⟩ (by unfold fz;simp only;omega)
theorem jY(h:JV c)(n:Int)(m:Int×Cur)(h0:0<=m.1)(h1:m.1<=100)(hn:n<=10):∃o,Au (H4 m) fz (c.1,c.2.1,c.2.2,([]:List PG),n)=some o∧JV (o.1,o.2.1,o.2.2.1)∧o.2.2.2.length<=10∧∀a∈o.2.2.2,a.1.length<=10∧a.2.length<=10:=by
 exact OS (B:=H4 m) (λs=>JV (s.1,s.2.1,s.2.2.1)∧(s.2.2.2.1.length:Int)+max 0 s.2.2.2.2<=10∧s.2.2.2.2<=10∧∀a∈s.2.2.2.1,a.1.length<=10∧a.2.length<=10) (λs=>s.2.2.2.2.toNat) (λo=>JV (o.1,o.2.1,o.2.2.1)∧o.2.2.2.length<=10∧∀a∈o.2.2.2,a.1.length<=10∧a.2.length<=10) (λs hs=>by
  obtain⟨b,i,hh,l,k⟩:=s
  obtain⟨i1,i2,i3,i4⟩:=hs
  simp only at i1 i2 i3 i4
  by_cases h2:0 < k
  ·right
   obtain⟨v,c',e,hv,hc⟩:=NZ i1 (n:=5) (by omega) (by omega)
   obtain⟨nm,hg,hnm⟩:∃nm,AZ ([[114],[115],[116],[117],[118]]:List zU) v=some nm∧nm.length<=10:=by
    have:v=0∨v=1∨v=2∨v=3∨v=4:=by omega
    rcases this with rfl|rfl|rfl|rfl|rfl<;>exact⟨_,rfl,by simp⟩
   have hdiv:0<=Int.tdiv v 4∧Int.tdiv v 4<=1:=by
    rw[Int.tdiv_eq_ediv_of_nonneg hv.1];omega
   obtain⟨o,e2,ho,hl⟩:=rF hc (2+Int.tdiv v 4) m h0 h1 (by omega)
   refine⟨(o.1,o.2.1,o.2.2.1,l++[(nm,o.2.2.2)],k - 1),⟨ho,?_,?_,?_⟩,?_,λrec=>?_⟩
   ·simp only[Aw,Ay];omega
   ·simp only;omega
   ·intro a ha
    rcases Al.1 ha with ha|ha
    ·exact i4 a ha
    ·rw[AP]at ha;subst ha;exact⟨hnm,hl⟩
   ·simp only;omega
   ·simp only[H4]
    rw[Ai h2,e]
    simp only[Ad,Ab,hg]
    rw[wrap_in (n:=Int.tdiv v 4) ⟨by omega,by omega⟩,wrap_in (n:=2+Int.tdiv v 4) ⟨by omega,by omega⟩,e2]
    obtain⟨o1,o2,o3,o4⟩:=o
    simp only
    rw[AX (by unfold lim;simp only[Ay];omega),wrap_in (n:=k - 1) ⟨by omega,by omega⟩]
  ·left
   refine⟨(b,i,hh,l),⟨i1,by simp only;omega,i4⟩,λrec=>?_⟩
   simp only[H4]
   rw[Ag h2];rfl) fz (c.1,c.2.1,c.2.2,([]:List PG),n) ⟨h,by simp only[Cg];omega,hn,λa ha=>by cases ha⟩ (by unfold fz;simp only;omega)
theorem qc(h:JV c)(m:Int×Cur)(h0:0<=m.1)(h1:m.1<=9):∃o,Au (FH m) fz (c.1,c.2.1,c.2.2,([]:zI),0)=some o∧JV (o.1,o.2.1,o.2.2.1)∧o.2.2.2.length<=10:=by
 exact OS (B:=FH m) (λs=>JV (s.1,s.2.1,s.2.2.1)∧0<=s.2.2.2.2∧s.2.2.2.2<=1+m.1∧(s.2.2.2.1.length:Int)<=s.2.2.2.2) (λs=>(1+m.1 - s.2.2.2.2).toNat) (λo=>JV (o.1,o.2.1,o.2.2.1)∧o.2.2.2.length<=10) (λs hs=>by
  obtain⟨b,i,hh,l,k⟩:=s
  obtain⟨i1,i2,i3,i4⟩:=hs
  simp only at i1 i2 i3 i4
  by_cases h2:k < 1+m.1
  ·right
   obtain⟨w,c',e,_,hc⟩:=Uw i1 (n:=2) (by omega) (by omega)
   cases w with
   |true=>
    refine⟨(c'.1,c'.2.1,c'.2.2,[k]++l,k+1),⟨hc,?_,?_,?_⟩,?_,λrec=>?_⟩
    ·simp only;omega
    ·simp only;omega
    ·simp only[Aw,Ay];omega
    ·simp only;omega
    ·simp only[FH]
     rw[wrap_in (n:=1+m.1) ⟨by omega,by omega⟩,Ai h2,e]
     simp only[Ad,Ab]
     rw[AX (by unfold lim;simp only[Ay];omega)]
     unfold H6
     rw[wrap_in (n:=k+1) ⟨by omega,by omega⟩]
   |false=>
    refine⟨(c'.1,c'.2.1,c'.2.2,l,k+1),⟨hc,?_,?_,?_⟩,?_,λrec=>?_⟩
    ·simp only;omega
    ·simp only;omega
    ·simp only;omega
    ·simp only;omega
    ·simp only[FH]
     rw[wrap_in (n:=1+m.1) ⟨by omega,by omega⟩,Ai h2,e]
     simp only[Ad,Ae,Ab]
     unfold H6
     rw[wrap_in (n:=k+1) ⟨by omega,by omega⟩]
  ·left
   refine⟨(b,i,hh,l),⟨i1,by simp only;omega⟩,λrec=>?_⟩
   simp only[FH]
   rw[wrap_in (n:=1+m.1) ⟨by omega,by omega⟩,Ag h2];rfl) fz (c.1,c.2.1,c.2.2,([]:zI),0) ⟨h,by simp,by simp only;omega,by simp⟩ (by unfold fz;simp only;omega)
theorem vf(h:JV c):Dr (Nt c) λq=>II q=true:=by
 unfold Nt
 obtain⟨s,c1,e1,hs,hc1⟩:=ql h (l:=TJ) (by simp[TJ]) (by simp[TJ])
 unfold TJ at e1
 rw[e1]
 simp only[Ab]
 obtain⟨q,b,e2,hq⟩:=VL hs
 rw[e2]
 simp only
 obtain⟨w,c2,e3,_,hc2⟩:=Uw hc1 (n:=3) (by omega) (by omega)
 rw[e3]
 simp only
 cases w with
 |false=>exact⟨_,_,rfl,hq,hc2⟩
 |true=>
  simp only[An,Ae]
  obtain⟨n,c3,e4,hn,hc3⟩:=NZ hc2 (n:=4) (by omega) (by omega)
  rw[e4]
  simp only
  obtain⟨m,c4,e5,hm,hc4⟩:=NZ hc3 (n:=4) (by omega) (by omega)
  rw[e5]
  simp only
  rw[wrap_in (n:=1+m) ⟨by omega,by omega⟩,wrap_in (n:=1+n) ⟨by omega,by omega⟩]
  obtain⟨o,e6,ho,hl,ha⟩:=jY hc4 (1+m) (n,c3) (by simp only;omega) (by simp only;omega) (by omega)
  rw[e6]
  obtain⟨o1,o2,o3,o4⟩:=o
  simp only at ho hl ha⊢
  obtain⟨p,e7,hp,hl2⟩:=qc ho (n,c3) (by simp only;omega) (by simp only;omega)
  simp only at e7
  rw[e7]
  obtain⟨p1,p2,p3,p4⟩:=p
  simp only at hp hl2⊢
  rw[Wk (q:=(1+n,o4,p4)) ⟨by unfold lim;simp only;omega,λa h=>by have:=ha a h;unfold lim;omega,by unfold lim;simp only;omega⟩]
  simp only
  cases hv:II (1+n,o4,p4)with
  |false=>exact⟨_,_,rfl,hq,hp⟩
  |true=>exact⟨_,_,rfl,hv,hp⟩
def AnyQ(q:NQ):Prop:=0<=q.1∧q.1<=6∧1<=q.2.1.length∧q.2.1.length<=5∧(∀a∈q.2.1,a.1.length<=4∧a.2.length<=5)∧q.2.2.length<=6
theorem AnyQ.sm{q:NQ}(h:AnyQ q):US q:=by
 obtain⟨h1,h2,h3,h4,h5,h6⟩:=h
 unfold US lim
 exact⟨by omega,λa ha=>by have:=h5 a ha;omega,by omega⟩
end
theorem jn{r:zI}(h:r.length<=1000):Au Kc fz (r,0)=some (List.replicate r.length 1):=by
 have:=GA (body:=Kc) (out:=List.replicate r.length 1) (λk=>(List.replicate k 1++r.drop k,(k:Int))) r.length (λk hk rec=>by
  have e:(List.replicate k (1:Int)++r.drop k).length=r.length:=by simp;omega
  unfold Kc
  simp only
  rw[e,Br hk,Ad,AX (by omega),Bd (by omega)]
  simp only[Ab]
  rw[BG hk (by unfold maxLen;omega)]
  have e2:DJ (List.replicate k (1:Int)++r.drop k) (k:Int) 1=List.replicate (k+1) 1++r.drop (k+1):=by
   unfold DJ
   rw[AL,List.set_append_right _ _ (by simp),Cc,La,AR hk,K8,List.replicate_succ',Bj];rfl
  rw[e2]) (λrec=>by
  have e:(List.replicate r.length (1:Int)++r.drop r.length).length=r.length:=by simp
  unfold Kc
  simp only
  rw[e,Bm,Ae,Ez,AY]) fz (by unfold fz;omega)
 simpa using this
theorem kw{v12:Bool×Cur}(hc:JV v12.2)(x6:Int)(x7:List PG)(x8:zI){x14:zI}(h:x14.length<=1000):∃r,Ke x6 x7 x8 v12 x14=some r∧r.1=(x6,x7,x8):=by
 unfold Ke
 obtain⟨b,c',e,-,hc'⟩:=Uw hc (n:=14) (by decide) (by decide)
 rw[e,Ck]
 have j3:∀l:zI,∃r,Kf x6 x7 x8 (b,c') l=some r∧r.1=(x6,x7,x8):=λl=>by
  unfold Kf
  obtain⟨v,c2,e2,-,-⟩:=mw hc' (l:=[1,2,3,4,0,11]) (by decide) (by decide)
  rw[e2,Ck]
  exact⟨_,rfl,rfl⟩
 cases b with
 |true=>simp only[Ad];rw[AX (by simp only[Ay];unfold lim;omega)];exact j3 _
 |false=>simp only[Ae];exact j3 _
theorem kv{v4:Bool×Cur}(hc:JV v4.2){q:NQ}(hq:II q=true):∃r,Kd v4 q.1 q.2.1 q.2.2=some r∧r.1=q:=by
 have hl:=g5 hq
 unfold Kd
 obtain⟨r,c',e,⟨hr,-⟩,hc'⟩:=oN hc (n:=q.1) (m:=3) (by omega) (by decide) (by decide)
 rw[e,Ck]
 obtain⟨b,c2,e2,-,hc2⟩:=Uw hc' (n:=2) (by decide) (by decide)
 simp only
 rw[e2,Ck]
 have hr':r.length<=1000:=by omega
 cases b with
 |true=>
  simp only[Ad]
  rw[jn hr',Ck]
  exact kw hc2 _ _ _ (by simp;omega)
 |false=>simp only[Ae];exact kw hc2 _ _ _ hr'
theorem dy{b:zI}(h:b.length<=1048576):∃v,G9 b=some v∧II v.1=true:=by
 obtain⟨c,e,hc⟩:=u3 h
 obtain⟨q,c1,e1,hq,hc1⟩:=vf hc
 obtain⟨b,c2,e2,-,hc2⟩:=Uw hc1 (n:=3) (by decide) (by decide)
 unfold G9 Re
 rw[e,Ck,e1,Ck]
 simp only
 rw[e2,Ck]
 cases b with
 |true=>
  obtain⟨q',bb,e3,hq'⟩:=VL (s:=[40,88,89,90,41,61,114,40,88,89,41,44,115,40,89,90,41,44,116,40,90,88,41]) (by unfold TJ;exact Bg)
  simp only[Ad]
  rw[e3,Ck]
  obtain⟨r,e4,hr⟩:=kv (v4:=(true,c2)) hc2 hq'
  simp only
  rw[e4,Ck]
  exact⟨_,rfl,by simp only;rw[hr];exact hq'⟩
 |false=>
  simp only[Ae]
  obtain⟨r,e4,hr⟩:=kv (v4:=(false,c2)) hc2 hq
  rw[e4,Ck]
  exact⟨_,rfl,by simp only;rw[hr];exact hq⟩
section
variable {q:NQ}
theorem Xp(hq:II q=true):∀v,v < q.1.toNat->∃j,j < q.2.1.length∧gQ q v j=true:=λv hv=>by
 have h:=hq
 unfold II at h
 simp only[Aa,Ax]at h
 have hu:=Bx.1 h.2.2.2.2 v (Ao.2 hv)
 simp only[Ax,IN]at hu
 unfold Hf at hu
 obtain⟨a,ha,hv⟩:=Bi.1 hu
 obtain⟨j,hj,rfl⟩:=BO ha
 refine⟨j,hj,?_⟩
 unfold gQ
 rw[Af,Ac hj]
 exact hv
def dlQ(q:NQ):LP:=Iu q.2.1.length q.1.toNat λj v=>gQ q v j
theorem Aa2(hq:II q=true):IU q=some (mxB (dlQ q)):=by
 obtain⟨h1,h2,h3,h4⟩:=Jf hq
 unfold IU
 rw[Aa1 (mL hq),Ck]
 unfold cpB
 rw[hq,Ad]
 simp only[An,Ae]
 rw[kn,vp (by omega) (by omega),Ck]
 simp only
 rw[zO (by omega) (by omega) (λv hv=>by obtain⟨j,hj,h⟩:=Xp hq v hv;exact⟨j,hj,h⟩),Ck]
 rfl
theorem gA(hq:II q=true):(mxB (dlQ q)).1∈Iz (dlQ q) (-1)∧∀z∈Iz (dlQ q) (-1),(Gt ((List.range q.1.toNat).map λ_=>(1,1)) z).2=true->sm q.1.toNat (λv=>rv (atR z v))<=sm q.1.toNat (λv=>rv (atR (mxB (dlQ q)).1 v)):=by
 obtain⟨h1,h2,h3,h4⟩:=Jf hq
 obtain⟨X,Y,D,D1,D3,y3,-,-,⟨ys,hys,lys,vys⟩⟩:=rM (n:=q.2.1.length) (nv:=q.1.toNat) (by omega) (by omega) (gQ q) (Xp hq)
 have hd:=ky (a:=(List.range q.1.toNat).map λ_=>((1:Int),(1:Int))) (b:=ys) (n:=q.1.toNat) (g:=λ_=>true) (Z:=λv=>(Y v:Int)) (D:=(D:Int)) (by omega) (by omega) (by omega) (by simp) lys (λk hk=>HX hk) (λk hk=>⟨Pj (by omega) (vys k hk).1 (by rw[(vys k hk).2];push_cast;rfl),by have:=y3 k;omega⟩)
 obtain⟨a,-,b⟩:=ZS (c:=(List.range q.1.toNat).map λ_=>((1:Int),(1:Int))) (Iz (dlQ q) (-1)) ([],(0,0),false) (λh=>by cases h)
 have hm:mxB (dlQ q)=(Iz (dlQ q) (-1)).foldl (XV ((List.range q.1.toNat).map λ_=>((1:Int),(1:Int)))) ([],(0,0),false):=rfl
 rw[hm]
 generalize(Iz (dlQ q) (-1)).foldl (XV ((List.range q.1.toNat).map λ_=>((1:Int),(1:Int)))) ([],(0,0),false)=M at *
 have found:=(b ys hys hd).1
 obtain⟨p,m⟩:=a found
 refine⟨?_,λz hz hzd=>?_⟩
 ·rcases m with m|⟨m,_⟩
  ·exact m
  ·cases m
 ·have:=(b z hz hzd).2
  have e:∀w:List Rt,(Gt ((List.range q.1.toNat).map λ_=>((1:Int),(1:Int))) w).2=true->rv (Gt ((List.range q.1.toNat).map λ_=>((1:Int),(1:Int))) w).1=sm q.1.toNat (λv=>rv (atR w v)):=λw hw=>by
   rw[(QU hw).2.2,Ak,BV]
   exact Du λi hi=>by rw[HX hi,show rv ((1:Int),(1:Int))=1 from UJ true];grind
  rw[e z hzd]at this
  have e2:=e M.1 (by rw[p])
  rw[p]at e2
  rw[<-e2]
  exact this
theorem Wi(b x:Nat):pw (b:Int) (x:Int)=((b ^ x:Nat):Int):=by unfold pw;rw[AL,AL]
theorem bm(b:Nat):∀(l:zN) (z:Int),(l.map λx=>((b ^ x:Nat):Int)).foldl (λa e=>a * e) z=z * ((b ^ l.sum:Nat):Int)
 |[],z=>by simp
 |x::l,z=>by
  rw[AC,Cz,bm b l,List.sum_cons,Mf]
  push_cast
  rw[Int.mul_assoc]
theorem YP(b:Nat)(ν:zN)(k:Nat):Oc ((ν.map λ(z:Nat)=>(z:Int)).map (pw (b:Int))) k=((b ^ (ν.take k).sum:Nat):Int):=by
 unfold Oc
 have:((ν.map λ(z:Nat)=>(z:Int)).map (pw (b:Int)))=ν.map λx=>((b ^ x:Nat):Int):=by
  rw[C0];exact Ca λx _=>Wi b x
 rw[this,<-List.map_take,bm,Int.one_mul]
theorem nD(ν:zN)(k:Nat):(ν.take k).sum<=ν.sum:=by
 have:=congrArg List.sum (C8 k ν)
 rw[List.sum_append]at this
 omega
theorem jO{ν:zN}{b:Nat}(hb:1<=b)(ht:(XP q (ν.map λ(z:Nat)=>(z:Int)) (b:Int)).2=true)(h4:b ^ ν.sum<=4000):au q (ν.map λ(z:Nat)=>(z:Int)) (b:Int)=(((b ^ ν.sum:Nat):Int),true):=by
 obtain⟨hok,hd,h3⟩:=Rk ht
 have hok2:=hok
 unfold Hd at hok2
 simp only[Aa,Bc,Ak]at hok2
 obtain⟨q1,q2,-,q4⟩:=MU hok2.2.1
 have big:B9 (ν.map λ(z:Nat)=>(z:Int)) (My (b:Int))=false:=Kg λi hi=>by
  have hi':i < ν.length:=by simpa using hi
  obtain⟨j,hj,hg⟩:=Xp hok2.2.1 i (by omega)
  have hmem:(i:Int)∈(q.2.1[j]).2:=by
   unfold gQ at hg
   rw[Af,Ac hj]at hg
   exact AS.1 hg
  obtain⟨-,-,e,-⟩:=cA ht (Aj hj) hmem
  unfold My
  rw[Be,Wi]
  unfold pvT at e
  rw[d9 (by omega) (by rw[AL];exact hi'),Wi,AL,Af,Ac hi']at e
  have e:(if 100 < ((b ^ ν[i]:Nat):Int)then -1 else((b ^ ν[i]:Nat):Int))=((b ^ ν[i]:Nat):Int):=e
  by_cases h:100 < ((b ^ ν[i]:Nat):Int)
  ·rw[Av h]at e;omega
  ·exact Ag h
 unfold au
 rw[hok,big,CJ,CC,Ad]
 have np:(List.range (ν.map λ(z:Nat)=>(z:Int)).length).any (PU ((ν.map λ(z:Nat)=>(z:Int)).map (pw (b:Int))))=false:=Bx.2 λk _=>by
  unfold PU
  rw[YP]
  have:b ^ (ν.take (k+1)).sum<=b ^ ν.sum:=Cr (by omega) (nD ν _)
  rw[AN];omega
 rw[np,Ae,YP,Ak,BT]
theorem u4{m:Int}{L:List zI}(hm:FI m 0 5=true)(hl:(sortB L).length<=4000)(hr:∀r∈L,(r.length:Int)=m∧Qj r=true):nrB m L=((m,sortB L),true):=by
 have e:B9 L (λ_ x=>Uv m x)=false:=Kg λi hi=>by
  have h1:=hr _ (Aj hi)
  unfold Uv
  rw[h1.2,h1.1];simp
 have hrel:PJ (m,sortB L)=true:=by
  unfold PJ
  simp only[Aa,Ax,CI]
  refine⟨hm,by omega,Kg λi hi=>?_⟩
  have h1:=hr _ ((Mh L _).1 (Aj hi))
  unfold Pq
  rw[h1.2,h1.1]
  simp only[Di,An,BZ]
  by_cases h0:0 < i
  ·rw[Ai h0,AD,Cu (by omega:i - 1 < (sortB L).length)]
   have:=DM.1 (Oh L) (i - 1) i (by omega) hi (by omega)
   exact Ag (by omega)
  ·rw[Ag h0,Lx]
 unfold nrB
 rw[e,hrel];rfl
theorem cP{w:List Rt}(h:(FM w).2=0):(FM w).1=[]:=by
 unfold FM at h⊢
 cases hs:Oe 1 w with
 |inr o=>
  unfold Oe at hs
  cases hb:B9 w λ_ r=> !Ps r with
  |true=>rw[hb]at hs;cases hs;rfl
  |false=>
   rw[hb,Ae]at hs
   cases hd:scD 1 w with
   |none=>rw[hd]at hs;cases hs;rfl
   |some d=>rw[hd]at hs;cases hs
 |inl d=>
  exfalso
  rw[hs]at h
  have hok:=Xy hs
  unfold Oe at hs
  cases hb:B9 w λ_ r=> !Ps r with
  |true=>rw[hb]at hs;cases hs
  |false=>
   rw[hb,Ae]at hs
   cases hd:scD 1 w with
   |none=>rw[hd]at hs;cases hs
   |some d'=>
    rw[hd]at hs;cases hs
    have:=(ab w 1 d (by decide) (by decide) (λr hr=>by have:=hok r hr;unfold Ps at this;rw[Aa]at this;exact this.1) hd).1
    have h:d=0:=h
    omega
theorem Xx{α:Type}{f:α->α->Bool}(h:∀x,f x x=true)(a:List α):YV f a a=true:=by
 unfold YV
 rw[Bu,AD,Ax]
 exact Kg λi hi=>by rw[Cu hi,h];rfl
theorem i0(d:List Jt):oH d d=true:=by
 unfold oH
 exact Xx (λx=>by
  rw[Bu,AD]
  unfold YR eD
  rw[Bu,AD]
  exact Xx (λy=>Bu y) _) d
theorem XQ(hq:II q=true){v5:NQ×zI×Int}(h5:v5.1=q){bb:Nat}(hb:2<=bb)(hb4:bb<=4):Fd v5 (FM (mxB (dlQ q)).1) (bb:Int)=some true:=by
 obtain⟨h1,h2,h3,h4⟩:=Jf hq
 obtain⟨hy,hmax⟩:=gA hq
 generalize(mxB (dlQ q)).1=y at *
 have hsq:=mL hq
 have ly:y.length=q.1.toNat:=by
  obtain⟨c,_,_,_,_,hside,he⟩:=Nh hy
  rw[<-he]at hside
  exact(Li (.inr rfl) hside).1
 have hln:(FM y).1.length<=lim:=by
  by_cases h:(FM y).2=0
  ·rw[cP h];exact CB _
  ·rw[(SO h).2.2.1,ly];unfold lim;omega
 unfold Fd
 rw[h5,AaK hsq hln,Ck,Aa6 hsq hln,Ck,Bu,An,Ae]
 have hdok:=zZ (nums:=(FM y).1) (b:=(bb:Int)) hsq
 have hsd:=Zv hdok
 rw[vo hsd,Ck,i0,An,Ae]
 cases ht:(XP q (FM y).1 (bb:Int)).2 with
 |false=>rfl
 |true=>
  rw[An,Ae]
  have hd0:(FM y).2≠0:=λh=>by
   have hok:=(Rk ht).1
   unfold Hd at hok
   simp only[Aa,Bc]at hok
   rw[cP h]at hok
   have:=hok.2.2.1
   simp at this
   omega
  obtain⟨p1,p2,p3,p4,p5⟩:=SO hd0
  obtain⟨ν,hν⟩:∃ν:zN,(FM y).1=ν.map λ(z:Nat)=>(z:Int):=by
   refine⟨(FM y).1.map Int.toNat,?_⟩
   rw[C0]
   refine CD (by simp) λi hi hi2=>?_
   rw[Be]
   have e:=p5 i (by omega)
   rw[Af,Ac hi]at e
   have e:(((FM y).1[i]:Int):Rat)=((FM y).2:Rat) * rv (atR y i):=e
   have nn:(0:Rat)<=rv (atR y i):=by
    have:=p4 _ (eX (l:=y) (k:=i) (by omega))
    exact sB this.1 this.2
   have dn:(0:Rat)<=((FM y).2:Rat):=by exact_mod_cast (show(0:Int)<=(FM y).2 by omega)
   have:=Rat.mul_nonneg dn nn
   rw[<-e]at this
   have:0<=(FM y).1[i]:=by exact_mod_cast this
   show(FM y).1[i]=(((FM y).1[i].toNat:Nat):Int)
   omega
  obtain⟨den,hden⟩:∃den:Nat,(FM y).2=(den:Int):=⟨(FM y).2.toNat,by omega⟩
  have hs:FM y=(ν.map λ(z:Nat)=>(z:Int),(den:Int)):=Prod.ext hν hden
  have hd1:1<=den:=by omega
  obtain⟨_,lν,d3,vy,sy,s5⟩:=iO (n:=q.2.1.length) (nv:=q.1.toNat) (g:=gQ q) (by omega) (by omega) hy hs hd1
  rw[hν]at ht hdok hsd hln⊢
  have hfor:=nL ht
  obtain⟨-,g2,-⟩:=NL hfor
  have hN5:ν.sum<=5:=by
   have:=eM ν
   rw[lν]at this
   rw[<-this]at s5
   exact_mod_cast s5
  have hN:bb ^ ν.sum<=1024:=by
   have a:bb ^ ν.sum<=4 ^ ν.sum:=HN hb4 _
   have b:(4:Nat) ^ ν.sum<=4 ^ 5:=Cr (by decide) hN5
   have c:(4:Nat) ^ 5=1024:=by decide
   omega
  have esz:vJ (XP q (ν.map λ(z:Nat)=>(z:Int)) (bb:Int)).1 q=(q.2.1.map (YY ν)).map λz=>((bb ^ z:Nat):Int):=by
   unfold vJ
   rw[C0]
   exact Ca λa ha=>by rw[iB ht (by omega) ha];rfl
  have h16:∀x∈q.2.1.map (YY ν),bb ^ x<=16:=λx hx=>by
   obtain⟨a,ha,rfl⟩:=A3.1 hx
   rw[<-iB ht (by omega) ha]
   exact(sQ (g2 a ha).1 (g2 a ha).2).2
  have hσv:∀j,j < q.2.1.length->(((q.2.1.map (YY ν)).getD j 0:Nat):Rat)=sm q.1.toNat (λv=>bq (gQ q v j) * ((ν.getD v 0:Nat):Rat)):=λj hj=>by
   have e:(q.2.1.map (YY ν)).getD j 0=YY ν q.2.1[j]:=by
    rw[Af,AW,Ac hj];rfl
   rw[e]
   unfold YY
   rw[bi]
   have cut:=Vw (f:=λv=>bq ((q.2.1[j]).2.contains (v:Int)) * ((ν.getD v 0:Nat):Rat)) (n:=q.1.toNat) (λv hv=>by
    rw[Af,A2 (by omega)]
    show _ * (((0:Nat):Rat))=0
    push_cast;grind) (5 - q.1.toNat)
   rw[show q.1.toNat+(5 - q.1.toNat)=5 by omega]at cut
   rw[cut]
   exact Du λv hv=>by
    unfold gQ
    rw[Af (l:=q.2.1),Ac hj];rfl
  obtain⟨hm,hw⟩:=iR (n:=q.2.1.length) (nv:=q.1.toNat) (g:=gQ q) (by omega) (by omega) (Xp hq) (b:=bb) hb hy hmax hs hd1 (σ:=q.2.1.map (YY ν)) (by simp) hσv h16 (N:=ν.sum) (by rw[eM,lν])
  rw[pk hsq hln,Ck,jO (by omega) ht (by omega),qQ hsd hsq,Ck,hfor,Ad]
  simp only
  rw[esz]
  have hI:∀e∈(q.2.1.map (YY ν)).map λz=>((bb ^ z:Nat):Int),0<=e∧e<=16:=λe he=>by
   obtain⟨z,hz,rfl⟩:=A3.1 he
   have:=h16 z hz
   omega
  have hbc:bcB q ((q.2.1.map (YY ν)).map λz=>((bb ^ z:Nat):Int))=((nbB ((q.2.1.map (YY ν)).map λz=>((bb ^ z:Nat):Int)) (Iz (Iu q.1.toNat q.2.1.length (gQ q)) 1)).2,true):=by
   unfold bcB
   rw[hq,Ad,show((((q.2.1.map (YY ν)).map λz=>((bb ^ z:Nat):Int)).length:Int)!=(q.2.1.length:Int))=false by simp,Ae]
   have:(((q.2.1.map (YY ν)).map λz=>((bb ^ z:Nat):Int)).all λe=>FI e 0 16)=true:=Ah.2 λe he=>Fq.2 (hI e he)
   rw[this,Ad]
   unfold QJ
   rw[ko hq,Ad,kn]
  have lx:(nbB ((q.2.1.map (YY ν)).map λz=>((bb ^ z:Nat):Int)) (Iz (Iu q.1.toNat q.2.1.length (gQ q)) 1)).2.length<=lim:=by
   obtain⟨c,_,_,_,_,hside,he⟩:=Nh hm
   rw[<-he]at hside
   rw[(Li (.inl rfl) hside).1]
   unfold lim;omega
  have hsl:((q.2.1.map (YY ν)).map λz=>((bb ^ z:Nat):Int)).length<=lim:=by simp;unfold lim;omega
  have hmr:Kz q ((q.2.1.map (YY ν)).map λz=>((bb ^ z:Nat):Int))=some (((bb ^ ν.sum:Nat):Int),true):=by
   unfold Kz
   rw[AaE hsq hsl,Ck,hbc]
   simp only[An,Ae]
   have w0:=hw 0 (by decide)
   rw[show((0:Nat):Int)=0 from rfl]at w0
   rw[rN hsl (λe he=>by have:=hI e he;omega) lx (by decide),Ck,w0,Ai (CB _),An,Ae]
   have:=Wz (s:=(q.2.1.map (YY ν)).map λz=>((bb ^ z:Nat):Int)) (w:=((nbB ((q.2.1.map (YY ν)).map λz=>((bb ^ z:Nat):Int)) (Iz (Iu q.1.toNat q.2.1.length (gQ q)) 1)).2,true)) (K:=bb ^ ν.sum) (by omega) hsl (λe he=>by have:=hI e he;omega) lx hw 100000 0 100000 fz (by omega) (CB _) (by omega) (AT _) (by unfold fz;omega)
   rw[show((0:Nat):Int)=0 from rfl,show((100000:Nat):Int)=100000 from rfl]at this
   rw[this,Ck]
  rw[hmr,Ck]
  obtain⟨r,e,-,r3⟩:=vm hsd hsq
  obtain⟨out,o1,o2,o3⟩:=r3 hfor
  rw[e,Ck]
  have hcnt:(sortB out).length=bb ^ ν.sum:=by
   rw[<-Xn]
   exact fv (Y0 (Oh out)) λx=>(Mh out x).trans ((o2 x).trans (iA ht x))
  have hr:r.2.length=bb ^ ν.sum:=by
   rw[o3,u4 (m:=q.1) (by unfold FI;simp;omega) (by omega) (λx hx=>?_)]
   ·exact hcnt
   ·obtain⟨b1,b2⟩:=(iA ht x).1 ((o2 x).1 hx)
    rw[Ak,lν]at b1 b2
    refine⟨by omega,j0 λz hz=>?_⟩
    obtain⟨i,hi,rfl⟩:=BO hz
    have:=b2 i (by omega)
    rw[Af,Ac hi]at this
    have:0<=x[i]∧x[i] < (((ν.map λx=>bb ^ x).getD i 0:Nat):Int):=this
    rw[Af,AW,Ac (by omega)]at this
    have:0<=x[i]∧x[i] < ((bb ^ ν[i]'(by omega):Nat):Int):=this
    obtain⟨j,hj,hg⟩:=Xp hq i (by omega)
    have hmem:(i:Int)∈(q.2.1[j]).2:=by
     unfold gQ at hg
     rw[Af,Ac hj]at hg
     exact AS.1 hg
    obtain⟨-,-,e,-⟩:=cA ht (Aj hj) hmem
    unfold pvT at e
    rw[d9 (by omega) (by rw[AL];omega),Wi,AL,Af,Ac (by omega)]at e
    have e:(if 100 < ((bb ^ ν[i]'(by omega):Nat):Int)then -1 else((bb ^ ν[i]'(by omega):Nat):Int))=((bb ^ ν[i]'(by omega):Nat):Int):=e
    by_cases h:100 < ((bb ^ ν[i]'(by omega):Nat):Int)
    ·rw[Av h]at e;omega
    ·omega
  rw[hr]
  simp only[Ad]
  rw[Bu]
  rfl
end
theorem jX{a:zI}(k:u5 a)(hb:a.length<=1048576):∃u,Wf a 0=some u∧0<=u∧u<=255:=by
 unfold Wf
 by_cases h:0 < a.length
 ·have hm:=k.2 a[0] (Aj h)
  refine⟨a[0],?_,hm⟩
  rw[Ai (by omega:(0:Int) < (a.length:Int))]
  have:AZ a 0=some a[0]:=by simp[AZ,h]
  simp only[Ad,this,Ab]
  rw[wrap_in (by omega)]
 ·rw[Ag (by omega:¬(0:Int) < (a.length:Int))]
  simp only[Ae]
  refine⟨_,rfl,?_⟩
  rw[wrap_in (by omega: -9223372036854775808<=(0:Int) * 37∧(0:Int) * 37<=9223372036854775807),wrap_in (by omega: -9223372036854775808<=(a.length:Int) * 11∧(a.length:Int) * 11<=9223372036854775807),wrap_in (by omega)]
  rw[Int.tmod_eq_emod_of_nonneg (by omega)]
  omega
theorem S3{b:zI}(k:u5 b):K0 b=some true:=by
 unfold K0 W8
 rw[Ck]
 by_cases hb:1048576 < b.length
 ·rw[Ai (by omega:(1048576:Int) < (b.length:Int))]
  rfl
 rw[Ag (by omega:¬(1048576:Int) < (b.length:Int)),Ae]
 obtain⟨v,e,hq⟩:=dy (b:=b) (by omega)
 rw[e,Ck,Aa2 hq,Ck]
 obtain⟨h1,h2,h3,h4⟩:=Jf hq
 have ly:(mxB (dlQ v.1)).1.length<=lim:=by
  obtain⟨c,_,_,_,_,hside,he⟩:=Nh (gA hq).1
  rw[<-he]at hside
  rw[(Li (.inr rfl) hside).1]
  unfold lim;omega
 rw[qO ly,Ck]
 cases(FM (mxB (dlQ v.1)).1).2==2 with
 |false=>
  rw[Ae]
  exact XQ hq rfl (bb:=2) (by decide) (by decide)
 |true=>
  rw[Ad]
  obtain⟨u,e0,u0,u1⟩:=jX k (by omega)
  rw[e0,Ck]
  have hm:0<=Int.tmod u 3∧Int.tmod u 3 < 3:=⟨Int.tmod_nonneg _ u0,Int.tmod_lt_of_pos _ (by decide)⟩
  rw[wrap_in (by omega),show 2+Int.tmod u 3=(((2+Int.tmod u 3).toNat:Nat):Int)by omega]
  exact XQ hq rfl (by omega) (by omega)
end Go.Proofs.YthghcmmlmfgkbaaGreatDoor
