/-
 Great numbers: the reference and the program reckon the same, and it is the numbers' own arithmetic. On the printed functions; conditions: lengths.
-/
import Derived.Test.YthghcmmlmfgkbaaGreatDoorRtTI1
import Derived.Test.YthghcmmlmfgkbaaGreatDoorKe
open Go.RowKit
set_option linter.unusedVariables false
set_option linter.unusedSimpArgs false
namespace Go.Proofs.YthghcmmlmfgkbaaGreatDoor
def DN(n:Nat):zI:=if h:n=0 then []else((n % 10:Nat):Int)::DN (n / 10)
termination_by n
decreasing_by exact KE (by omega) (by omega)
theorem KS:DN 0=[]:=by rw[DN];rfl
theorem O9{n:Nat}(h:0 < n):DN n=((n % 10:Nat):Int)::DN (n / 10):=by rw[DN,dif_neg (by omega)]
def DV:zI->Nat
 |[]=>0
 |d::l=>d.toNat+10 * DV l
theorem Ug:∀n,DV (DN n)=n:=by
 intro n
 induction n using Nat.strongRecOn with
 |_ n ih=>
  rcases Bv n with rfl|h
  ·rw[KS];rfl
  ·rw[O9 h,DV,ih (n / 10) (KE h (by omega))];omega
theorem kU{n:Nat}(h:DN n=[]):n=0:=by
 rcases Bv n with h0|h0
 ·exact h0
 ·rw[O9 h0]at h;cases h
theorem O8:∀(k n:Nat),(DN n).length<=k↔n < 10 ^ k:=by
 intro k
 induction k with
 |zero=>
  intro n
  rw[Je]
  constructor
  ·intro h
   have:=kU (A1 (by omega:(DN n).length=0));omega
  ·intro h;obtain rfl:n=0:=by omega
   rw[KS];simp
 |succ k ih=>
  intro n
  rcases Bv n with rfl|h
  ·rw[KS];exact⟨λ_=>Iy (by omega),λ_=>by simp⟩
  ·rw[O9 h,AQ,CQ,<-Nat.div_lt_iff_lt_mul (by omega),<-ih];omega
theorem V9:∀n,∀e∈DN n,0<=e∧e<=9:=by
 intro n
 induction n using Nat.strongRecOn with
 |_ n ih=>
  intro e he
  rcases Bv n with rfl|h
  ·rw[KS]at he;cases he
  ·rw[O9 h]at he
   rcases AB.1 he with rfl|he
   ·omega
   ·exact ih (n / 10) (KE h (by omega)) e he
theorem Yq:∀n,0 < n->∃l d,DN n=l++[d]∧d≠0:=by
 intro n
 induction n using Nat.strongRecOn with
 |_ n ih=>
  intro h
  rw[O9 h]
  rcases Bv (n / 10)with h0|h0
  ·rw[h0,KS];exact⟨[],_,rfl,by omega⟩
  ·obtain⟨l,d,e,hd⟩:=ih (n / 10) (KE h (by omega)) h0
   rw[e];exact⟨_::l,d,rfl,hd⟩
theorem fQ:∀(l:zI),(∀e∈l,0<=e∧e<=9)->(∀x,l.getLast?=some x->x≠0)->l=DN (DV l)
 |[],_,_=>by rw[DV,KS]
 |d::l,h1,h2=>by
  have hd:=h1 d (Bg ..)
  cases l with
  |nil=>
   have:d≠0:=h2 d rfl
   rw[DV,DV,O9 (by omega),show(d.toNat+10 * 0) / 10=0 by omega,KS]
   congr 1;omega
  |cons e l=>
   have ih:=fQ (e::l) (λx hx=>h1 x (AE _ hx)) (λx hx=>h2 x (by rw[List.getLast?_cons_cons];exact hx))
   have hp:0 < DV (e::l):=by
    rcases Bv (DV (e::l))with h|h
    ·rw[h,KS]at ih;cases ih
    ·exact h
   rw[DV,O9 (by omega),show(d.toNat+10 * DV (e::l)) / 10=DV (e::l)by omega,<-ih]
   congr 1;omega
def gOk(l:zI):Bool:= !B9 l (λ_ e=> !FI e 0 9)&&(decide ((l.length:Int)<=60)&&((l.length:Int)==0 || l.getLast? !=some 0))
theorem fS{l:zI}:gOk l=true↔∃n,n < 10 ^ 60∧l=DN n:=by
 unfold gOk
 simp only[Aa,Ax,AN,BP,Bc,C9,ne_eq]
 constructor
 ·rintro⟨h1,h2,h3⟩
  have e:=fQ l (λe he=>by have:=Mw h1 he;simpa[Fq]using this) (λx hx hx0=>by
   subst hx0
   rcases h3 with h3|h3
   ·have hn:l=[]:=A1 (by omega)
    rw[hn]at hx;cases hx
   ·exact h3 hx)
  refine⟨DV l,?_,e⟩
  rw[<-O8,<-e];omega
 ·rintro⟨n,hn,rfl⟩
  rw[<-O8]at hn
  refine⟨Kg λi hi=>?_,by omega,?_⟩
  ·have:=V9 n _ (Aj hi)
   rw[Cx,Fq];exact this
  ·rcases Bv n with rfl|h
   ·left;rw[KS];rfl
   ·right
    obtain⟨l,d,e,hd⟩:=Yq n h
    rw[e,List.getLast?_append]
    simpa using hd
theorem Wa{n:Nat}(h:n < 10 ^ 60):gOk (DN n)=true:=fS.2 ⟨n,h,rfl⟩
theorem jg{l:zI}(h:0 < l.length)(hl:l.length<=lim):∃x,AZ l (wZ ((l.length:Int) - 1))=some x∧l.getLast?=some x:=by
 have:=hl
 unfold lim at this
 rw[wrap_in (by omega),show(l.length:Int) - 1=((l.length - 1:Nat):Int)by omega,Bd (by omega)]
 exact⟨_,rfl,by rw[List.getLast?_eq_getElem?,Ac (by omega)]⟩
theorem fZ{l:zI}(h:l.length<=lim):E2 l=some (gOk l):=by
 unfold E2 gOk
 rw[E5 (λk=>It l k λe=> !FI e 0 9) h (λk hk rec=>by
  unfold Ko
  rw[Br hk,Ad,Bd hk,Ck,FN,Ck,BG hk (Bq h),Cu hk]) (λrec=>by unfold Ko;rw[Bm,Ae]),Ck]
 show(match cond (B9 l λ_ e=> !FI e 0 9) (Sum.inr false) (Sum.inl ())with|.inl _=>_|.inr r=>some r)=_
 cases B9 l λ_ e=> !FI e 0 9 with
 |true=>rfl
 |false=>
  simp only[Ae,CJ,AD]
  cases decide ((l.length:Int)<=60)with
  |false=>rfl
  |true=>
   rw[Ad,AD]
   by_cases h0:l.length=0
   ·rw[show((l.length:Int)==0)=true by rw[Bc];omega];rfl
   ·obtain⟨x,e1,e2⟩:=jg (l:=l) (by omega) h
    rw[show((l.length:Int)==0)=false by rw[Cn];omega,Ae,e1,Ck,e2]
    show some (x !=0)=some (false || some x !=some 0)
    rw[BZ]
    rfl
theorem RT{n:Nat}(h:n < 10 ^ 60):(DN n).length<=60:=(O8 60 n).2 h
theorem lM{k:Nat}(h:k<=60):k<=lim:=by unfold lim;omega
theorem e8{B:(Int×zI->Option zI)->Int×zI->Option zI}(hB:∀rec n l,B rec (n,l)=cond (decide (0 < n)) (chk (l.length+[Int.tmod n 10].length<=lim) (rec (wZ (Int.tdiv n 10),l++[Int.tmod n 10]))) (some l)):
  ∀(k n:Nat) (l:zI) (f:Nat),n<=9223372036854775807->n < 10 ^ k->k < f->l.length+k<=lim->Au B f ((n:Int),l)=some (l++DN n)
 |0,n,l,f,_,h,hf,_=>by
  obtain rfl:n=0:=by omega
  obtain⟨f,rfl⟩:∃g,f=g+1:=⟨f - 1,by omega⟩
  rw[By,hB,KS,AY];rfl
 |k+1,n,l,f,h1,h2,hf,h3=>by
  obtain⟨f,rfl⟩:∃g,f=g+1:=⟨f - 1,by omega⟩
  rw[By,hB]
  rcases Bv n with rfl|hp
  ·rw[KS,AY];rfl
  ·have e1:Int.tdiv (n:Int) 10=((n / 10:Nat):Int):=rfl
   have e2:Int.tmod (n:Int) 10=((n % 10:Nat):Int):=rfl
   rw[Ai (by omega),Ad,e1,e2,AX (by rw[Ay];omega),wrap_in (by omega),e8 hB k (n / 10) _ f (by omega) (by rw[CQ]at h2;omega) (by omega) (by rw[Aw,Ay];omega),O9 hp,Bj]
   rfl
theorem j4{B:(Int×zI->Option zI)->Int×zI->Option zI}(hB:∀rec n l,B rec (n,l)=cond (decide (0 < n)) (chk (l.length+[Int.tmod n 10].length<=lim) (rec (wZ (Int.tdiv n 10),l++[Int.tmod n 10]))) (some l)){n:Int}(h:n<=9223372036854775807):
  Au B fz (n,[])=some (DN n.toNat):=by
 by_cases h0:0<=n
 ·have:=e8 hB 19 n.toNat [] fz (by omega) (by omega) (by unfold fz;omega) (by unfold lim;simp)
  rw[show((n.toNat:Nat):Int)=n by omega]at this
  exact this
 ·rw[show n.toNat=0 by omega,KS,show fz=(fz - 1)+1 from rfl,By,hB,Ag (by omega)];rfl
theorem dH{n:Int}(h:n<=9223372036854775807):FW n=some (DN n.toNat):=by
 unfold FW
 rw[j4 (λrec n l=>by simp only[Nz]) h,Ck]
def gEm:Nat->Nat->zI
 |0,v=>DN v
 |n+1,v=>((v % 10:Nat):Int)::gEm n (v / 10)
theorem kV:∀n v,∃z,gEm n v=DN v++List.replicate z 0
 |0,v=>⟨0,by rw[gEm,List.replicate_zero,AY]⟩
 |n+1,v=>by
  obtain⟨z,e⟩:=kV n (v / 10)
  rw[gEm,e]
  rcases Bv v with rfl|h
  ·exact⟨z+1,by rw[Nat.zero_div,KS];rfl⟩
  ·exact⟨z,by rw[O9 h];rfl⟩
abbrev CBd:=(zI×Int×Int->Option zI)->zI×Int×Int->Option zI
def sM(B:CBd)(d:zI):Prop:=∀rec (out:zI) (c:Int) (k:Nat),
 (∀hk:k < d.length,B rec (out,c,(k:Int))=chk (out.length+[Int.tmod (wZ (c+d[k])) 10].length<=lim) (rec (out++[Int.tmod (wZ (c+d[k])) 10],wZ (Int.tdiv (wZ (c+d[k])) 10),wZ ((k:Int)+1))))∧
 (d.length<=k->B rec (out,c,(k:Int))=cond (decide (0 < c)) (chk (out.length+[Int.tmod c 10].length<=lim) (rec (out++[Int.tmod c 10],wZ (Int.tdiv c 10),wZ ((k:Int)+1)))) (some out))
theorem kl{B:CBd}{d:zI}(hB:sM B d):∀(j c k:Nat) (out:zI) (f:Nat),c < 10 ^ j->c<=1000000000->d.length<=k->j < f->out.length+j<=lim->k+j<=lim->Au B f (out,(c:Int),(k:Int))=some (out++DN c)
 |0,c,k,out,f,h,_,hk,hf,_,_=>by
  obtain rfl:c=0:=by omega
  obtain⟨f,rfl⟩:∃g,f=g+1:=⟨f - 1,by omega⟩
  rw[By,(hB _ _ _ _).2 hk,KS,AY];rfl
 |j+1,c,k,out,f,h,hc,hk,hf,ho,hkl=>by
  obtain⟨f,rfl⟩:∃g,f=g+1:=⟨f - 1,by omega⟩
  rw[By,(hB _ _ _ _).2 hk]
  rcases Bv c with rfl|hp
  ·rw[KS,AY];rfl
  ·have e1:Int.tdiv (c:Int) 10=((c / 10:Nat):Int):=rfl
   have e2:Int.tmod (c:Int) 10=((c % 10:Nat):Int):=rfl
   have hl:lim=1099511627776:=rfl
   rw[Ai (by omega),Ad,e1,e2,AX (by rw[Ay];omega),wrap_in (by omega),wrap_in (by omega),show((k:Int)+1)=((k+1:Nat):Int)by omega,
    kl hB j (c / 10) (k+1) _ f (by rw[CQ]at h;omega) (by omega) (by omega) (by omega) (by rw[Aw,Ay];omega) (by omega),O9 hp,Bj]
   rfl
theorem kj{B:CBd}{d:zI}(hB:sM B d)(hd:∀e∈d,0<=e∧e<=1000000000):∀(j c k:Nat) (out:zI) (f:Nat),k+j=d.length->c<=1000000000->j+11 < f->out.length+j+11<=lim->k+j+11<=lim->Au B f (out,(c:Int),(k:Int))=some (out++gEm j (DV (d.drop k)+c))
 |0,c,k,out,f,hk,hc,hf,ho,hkl=>by
  rw[kl hB 10 c k out f (by omega) hc (by omega) (by omega) (by omega) (by omega),BY (by omega),DV,CR,gEm]
 |j+1,c,k,out,f,hk,hc,hf,ho,hkl=>by
  obtain⟨f,rfl⟩:∃g,f=g+1:=⟨f - 1,by omega⟩
  have hlt:k < d.length:=by omega
  have he:=hd _ (Aj hlt)
  have hl:lim=1099511627776:=rfl
  obtain⟨e,hee⟩:∃e:Nat,d[k]=(e:Int):=⟨d[k].toNat,by omega⟩
  rw[hee]at he
  have e0:wZ ((c:Int)+(e:Int))=((c+e:Nat):Int):=by rw[wrap_in (by omega)];omega
  have e1:Int.tdiv ((c+e:Nat):Int) 10=(((c+e) / 10:Nat):Int):=rfl
  have e2:Int.tmod ((c+e:Nat):Int) 10=(((c+e) % 10:Nat):Int):=rfl
  rw[By,(hB _ _ _ _).1 hlt,hee,e0,e1,e2,AX (by rw[Ay];omega),wrap_in (by omega),wrap_in (by omega),show((k:Int)+1)=((k+1:Nat):Int)by omega,
   kj hB hd j ((c+e) / 10) (k+1) _ f (by omega) (by omega) (by omega) (by rw[Aw,Ay];omega) (by omega),AR hlt,hee,DV,gEm,Bj,
   show(((e:Int).toNat+10 * DV (d.drop (k+1))+c) % 10)=(c+e) % 10 by omega,show(((e:Int).toNat+10 * DV (d.drop (k+1))+c) / 10)=DV (d.drop (k+1))+(c+e) / 10 by omega]
  rfl
def gR(v:Nat):zI×Bool:=cond (decide (v < 10 ^ 60)) (DN v,true) ([],false)
theorem iy{v z:Nat}(hl:(DN v).length+z<=lim):∀(j f:Nat),j<=z->j < f->Au (Mq (DN v++List.replicate z 0)) f (((DN v).length+j:Nat):Int)=some ((DN v).length:Int)
 |0,f,hj,hf=>by
  obtain⟨f,rfl⟩:∃g,f=g+1:=⟨f - 1,by omega⟩
  have h9:lim=1099511627776:=rfl
  rw[By,Mq,Dt]
  rcases Bv v with rfl|hv
  ·rw[KS];rfl
  ·obtain⟨l,d,e,hd⟩:=Yq v hv
   have hlen:(DN v).length=l.length+1:=by rw[e];simp
   rw[Ai (by omega),Ad,wrap_in (by omega),show((DN v).length:Int) - 1=((l.length:Nat):Int)by omega,Bd (by rw[Aw];omega),Ck]
   have:(DN v++List.replicate z (0:Int))[l.length]'(by rw[Aw];omega)=d:=by rw[Hu (by omega)];simp[e]
   rw[this,show(d==0)=false by rw[Cn];exact hd,Ae]
 |j+1,f,hj,hf=>by
  obtain⟨f,rfl⟩:∃g,f=g+1:=⟨f - 1,by omega⟩
  have h9:lim=1099511627776:=rfl
  rw[By,Mq,Ai (by omega),Ad,wrap_in (by omega),show(((DN v).length+(j+1):Nat):Int) - 1=(((DN v).length+j:Nat):Int)by omega,Bd (by rw[Aw,Cc];omega),Ck]
  have h0:(DN v++List.replicate z (0:Int))[(DN v).length+j]'(by rw[Aw,Cc];omega)=0:=by
   rw[G5 (by omega),Iw]
  rw[h0,show((0:Int)==0)=true from rfl,Ad]
  exact iy hl j f (by omega) (by omega)
theorem fR:∀n v,(gEm n v).length<=n+(DN v).length
 |0,v=>by rw[gEm];omega
 |n+1,v=>by
  have:=fR n (v / 10)
  rw[gEm,AQ]
  have h2:(DN (v / 10)).length<=(DN v).length:=by
   rcases Bv v with rfl|h
   ·rw[Nat.zero_div];exact AT _
   ·rw[O9 h,AQ];omega
  omega
theorem fT:∀(l:zI),(∀e∈l,0<=e∧e<=1000000000)->DV l * 9+1000000000<=1000000000 * 10 ^ l.length
 |[],_=>by rw[DV,Cg,Je];omega
 |d::l,h=>by
  have h1:=h d (Bg ..)
  have h2:=fT l λe he=>h e (AE _ he)
  rw[DV,AQ,CQ]
  omega
theorem oZ(l:zI)(h:∀e∈l,0<=e∧e<=1000000000):DV l < 10 ^ (l.length+10):=by
 have h1:=fT l h
 rw[Mf]
 have:0 < 10 ^ l.length:=Iy (by omega)
 omega
theorem pf{d:zI}(hd:∀e∈d,0<=e∧e<=1000000000)(hl:d.length<=1000000):ON d=some (gR (DV d)):=by
 have h9:lim=1099511627776:=rfl
 have hB:sM (HZ d) d:=λrec out c k=>⟨λhk=>by
  simp only[HZ,J1,J2]
  rw[Br hk,Ad,Ad,Ad,Bd hk,Ck],λhk=>by
  simp only[HZ,J1,J2]
  rw[Ag (by omega),Ae,Ae]⟩
 have h1:=kj hB hd d.length 0 0 [] fz (by omega) (by omega) (by unfold fz;omega) (by simp;omega) (by omega)
 have hlen:=(O8 _ _).2 (oZ d hd)
 unfold ON
 rw[show((0:Nat):Int)=0 from rfl]at h1
 rw[h1,Ck,Bl,Fi,Dt]
 obtain⟨z,e⟩:=kV d.length (DV d)
 have hz:=fR d.length (DV d)
 rw[e,Aw,Cc]at hz
 have h2:=iy (v:=DV d) (z:=z) (by omega) z fz (AT _) (by unfold fz;omega)
 rw[e,Aw,Cc,h2,Ck,AX (by omega)]
 have h3:Ef (DN (DV d)++List.replicate z (0:Int)) 0 ((DN (DV d)).length:Int)=DN (DV d):=by
  unfold Ef
  rw[AL,show(0:Int).toNat=0 from rfl,Fi,List.take_left'];rfl
 rw[h3]
 unfold gR
 by_cases h:DV d < 10 ^ 60
 ·have:=RT h
  rw[Ai h,Ag (by omega)];rfl
 ·have:¬(DN (DV d)).length<=60:=λhh=>h ((O8 _ _).1 hh)
  rw[Ag h,Ai (by omega)];rfl
theorem bB:∀(l:zI) (j:Nat) (t:Int) (hj:j < l.length),0<=l[j]->0<=t->DV (l.set j (l[j]+t))=DV l+t.toNat * 10 ^ j
 |[],j,t,hj,_,_=>by simp at hj
 |d::l,0,t,hj,h0,ht=>by
  simp only[Iv]at h0
  simp only[Iv,K8,DV,Je];omega
 |d::l,j+1,t,hj,h0,ht=>by
  simp only[F3]at h0
  simp only[F3,K7,DV]
  rw[bB l j t (by simpa using hj) h0 ht,CQ,Nat.mul_add,<-DU]
  rw[C6 (t.toNat) (10 ^ j * 10),C6 10 t.toNat,DU t.toNat 10,C6 (10 ^ j) 10,C6 t.toNat (10 * 10 ^ j)]
  omega
theorem Yr:∀n,DV (List.replicate n 0)=0
 |0=>rfl
 |n+1=>by rw[List.replicate_succ,DV,Yr n];rfl
def gBd(c:Int)(l:zI):Prop:=∀e∈l,0<=e∧e<=c
theorem oX{c:Int}{l:zI}(h:gBd c l){j:Nat}{t:Int}(hj:j < l.length)(ht:0<=t∧t<=81):gBd (c+81) (l.set j (l[j]+t)):=λe he=>by
 rcases Ft he with he|rfl
 ·have:=h e he;omega
 ·have:=h _ (Aj hj);omega
abbrev MBd:=(zI×Int->Option zI)->zI×Int->Option zI
theorem oJ{x y:Int}(hx:0<=x∧x<=9)(hy:0<=y∧y<=9):0<=x * y∧x * y<=81∧(x * y).toNat=x.toNat * y.toNat:=by
 obtain⟨a,rfl⟩:∃a:Nat,x=(a:Int):=⟨x.toNat,by omega⟩
 obtain⟨b,rfl⟩:∃b:Nat,y=(b:Int):=⟨y.toNat,by omega⟩
 have h1:a * b<=9 * 9:=BC (by omega) (by omega)
 have e:(a:Int) * (b:Int)=((a * b:Nat):Int):=by simp
 rw[e]
 exact⟨by omega,by omega,by rw[AL,AL,AL]⟩
theorem l6{B:MBd}{b:zI}{x:Int}{i:Nat}(hx:0<=x∧x<=9)(hb:∀e∈b,0<=e∧e<=9)(hl:i+b.length<=1000)
  (hB:∀rec (y:zI) (k:Nat),y.length<=1000->(∀(hk:k < b.length) (hy:i+k < y.length),B rec (y,(k:Int))=rec (DJ y ((i+k:Nat):Int) (wZ (y[i+k]+wZ (x * b[k]))),((k+1:Nat):Int)))∧(b.length<=k->B rec (y,(k:Int))=some y)):
  ∀(j k:Nat) (y:zI) (c:Int) (f:Nat),k+j=b.length->i+b.length<=y.length->y.length<=1000->gBd c y->0<=c->c+81 * j<=1000000000->j < f->∃y',Au B f (y,(k:Int))=some y'∧y'.length=y.length∧gBd (c+81 * j) y'∧DV y'=DV y+x.toNat * DV (b.drop k) * 10 ^ (i+k)
 |0,k,y,c,f,hk,hy,hy2,hc,_,_,hf=>by
  obtain⟨f,rfl⟩:∃g,f=g+1:=⟨f - 1,by omega⟩
  refine⟨y,?_,rfl,by simpa using hc,?_⟩
  ·rw[By,(hB _ _ _ hy2).2 (by omega)]
  ·rw[BY (by omega),DV];simp
 |j+1,k,y,c,f,hk,hy,hy2,hc,h0,h1,hf=>by
  obtain⟨f,rfl⟩:∃g,f=g+1:=⟨f - 1,by omega⟩
  have hkl:k < b.length:=by omega
  have hyl:i+k < y.length:=by omega
  have hd:=oJ hx (hb _ (Aj hkl))
  have hyb:=hc _ (Aj hyl)
  have e1:DJ y ((i+k:Nat):Int) (wZ (y[i+k]+wZ (x * b[k])))=y.set (i+k) (y[i+k]+x * b[k]):=by
   unfold DJ
   rw[AL,wrap_in (n:=x * b[k]) (by omega),wrap_in (by omega)]
  obtain⟨y',q1,q2,q3,q4⟩:=l6 hx hb hl hB j (k+1) (y.set (i+k) (y[i+k]+x * b[k])) (c+81) f (by omega) (by rw[BM];exact hy) (by rw[BM];exact hy2) (oX hc hyl ⟨hd.1,hd.2.1⟩) (by omega) (by omega) (by omega)
  refine⟨y',?_,by rw[q2,BM],?_,?_⟩
  ·rw[By,(hB _ _ _ hy2).1 hkl hyl,e1];exact q1
  ·have:c+81+81 * (j:Int)=c+81 * ((j+1:Nat):Int):=by omega
   rw[<-this];exact q3
  ·rw[q4,bB y (i+k) _ hyl hyb.1 hd.1,hd.2.2,AR hkl,DV,show i+(k+1)=i+k+1 by omega,CQ]
   generalize x.toNat=X
   generalize(b[k]).toNat=Y
   generalize DV (b.drop (k+1))=Z
   generalize 10 ^ (i+k)=P
   rw[Nat.mul_add,C4,J5]
   congr 2
   rw[C6 P 10,<-DU,DU X Z 10,C6 Z 10]
theorem gC{B:MBd}{a b:zI}(ha:∀e∈a,0<=e∧e<=9)(hl:a.length<=60)(hlb:b.length<=60)
  (hB:∀rec (y:zI) (i:Nat),(∀(hi:i < a.length) (c:Int),y.length=a.length+b.length->gBd c y->0<=c->c+81 * 60<=1000000000->∃y',B rec (y,(i:Int))=rec (y',((i+1:Nat):Int))∧y'.length=y.length∧gBd (c+81 * 60) y'∧DV y'=DV y+(a[i]).toNat * DV b * 10 ^ i)∧(a.length<=i->B rec (y,(i:Int))=some y)):
  ∀(j i:Nat) (y:zI) (c:Int) (f:Nat),i+j=a.length->y.length=a.length+b.length->gBd c y->0<=c->c+81 * 60 * j<=1000000000->j < f->∃y',Au B f (y,(i:Int))=some y'∧y'.length=y.length∧gBd (c+81 * 60 * j) y'∧DV y'=DV y+DV (a.drop i) * DV b * 10 ^ i
 |0,i,y,c,f,hi,hy,hc,_,_,hf=>by
  obtain⟨f,rfl⟩:∃g,f=g+1:=⟨f - 1,by omega⟩
  refine⟨y,?_,rfl,by simpa using hc,?_⟩
  ·rw[By,(hB _ _ _).2 (by omega)]
  ·rw[BY (by omega),DV];simp
 |j+1,i,y,c,f,hi,hy,hc,h0,h1,hf=>by
  obtain⟨f,rfl⟩:∃g,f=g+1:=⟨f - 1,by omega⟩
  have hil:i < a.length:=by omega
  obtain⟨y1,q1,q2,q3,q4⟩:=(hB (Au B f) y i).1 hil c hy hc h0 (by omega)
  obtain⟨y',r1,r2,r3,r4⟩:=gC ha hl hlb hB j (i+1) y1 (c+81 * 60) f (by omega) (by omega) q3 (by omega) (by omega) (by omega)
  refine⟨y',?_,by omega,?_,?_⟩
  ·rw[By,q1];exact r1
  ·have:c+81 * 60+81 * 60 * (j:Int)=c+81 * 60 * ((j+1:Nat):Int):=by omega
   rw[<-this];exact r3
  ·rw[r4,q4,AR hil,DV,CQ]
   generalize(a[i]).toNat=X
   generalize DV b=Y
   generalize DV (a.drop (i+1))=Z
   generalize 10 ^ i=P
   rw[C4,C4,J5]
   congr 2
   rw[C6 P 10,<-DU,Nat.mul_right_comm Z Y 10,C6 Z 10]
def bA(a b:zI):zI×Bool:=cond (gOk a) (cond (gOk b) (gR (DV a * DV b)) ([],false)) ([],false)
theorem Yt{l:zI}(h:gOk l=true):l.length<=60∧∀e∈l,0<=e∧e<=9:=by
 obtain⟨n,hn,rfl⟩:=fS.1 h
 exact⟨RT hn,V9 n⟩
theorem dI{a b:zI}(ha:a.length<=lim)(hb:b.length<=lim):I5 a b=some (bA a b):=by
 unfold I5 bA
 rw[fZ ha,Ck]
 cases h1:gOk a with
 |false=>rfl
 |true=>
  rw[An,Ae,Ad,fZ hb,Ck]
  cases h2:gOk b with
  |false=>rfl
  |true=>
   obtain⟨l1,d1⟩:=Yt h1
   obtain⟨l2,d2⟩:=Yt h2
   have hw:wZ ((a.length:Int)+(b.length:Int))=((a.length+b.length:Nat):Int):=by rw[wrap_in (by omega)];omega
   rw[An,Ae,Ad,hw,AX (by unfold lim;omega),AL]
   obtain⟨y,q1,q2,q3,q4⟩:=gC (B:=Ia a b) d1 l1 l2 (λrec y i=>⟨λhi c hy hc h0 h9=>by
    obtain⟨y',p1,p2,p3,p4⟩:=l6 (B:=Ib b (i:Int) a[i]) (i:=i) (d1 _ (Aj hi)) d2 (by omega) (λrec y k hy2=>⟨λhk hyk=>by
     simp only[Ib]
     rw[Br hk,Ad,wrap_in (n:=(i:Int)+(k:Int)) (by omega),show(i:Int)+(k:Int)=((i+k:Nat):Int)by omega,Bd hk,Ck,Bd hyk,Ck,Ck,wrap_in (n:=(k:Int)+1) (by omega)]
     rfl,λhk=>by
     simp only[Ib]
     rw[Ag (by omega),Ae]⟩) b.length 0 y c fz (by omega) (by omega) (by omega) hc h0 (by omega) (by unfold fz;omega)
    refine⟨y',?_,p2,λe he=>?_,by rw[p4,Fi];simp⟩
    ·simp only[Ia]
     have p1':Au (Ib b (i:Int) a[i]) fz (y,0)=some y':=p1
     rw[Br hi,Ad,Bd hi,Ck,p1',Ck,wrap_in (by omega)];rfl
    ·have:=p3 e he;omega,λhi=>by
    simp only[Ia]
    rw[Ag (by omega),Ae]⟩) a.length 0 (List.replicate (a.length+b.length) 0) 0 fz (by omega) (by simp) (λe he=>by rw[(List.mem_replicate.1 he).2];omega) (by omega) (by omega) (by unfold fz;omega)
   have q1':Au (Ia a b) fz (List.replicate (a.length+b.length) 0,0)=some y:=q1
   rw[q1',Ck,pf (λe he=>by have:=q3 e he;omega) (by rw[q2,Cc];omega),Ck,q4,Yr,Fi,Je,Me,CR]
def X1(m n:Nat):Int:=cond (decide (m < n)) (-1) (cond (decide (n < m)) 1 0)
theorem Va:∀(l:zI) (i:Nat) (hi:i < l.length),DV (l.take (i+1))=DV (l.take i)+(l[i]).toNat * 10 ^ i
 |[],i,hi=>by simp at hi
 |d::l,0,hi=>by simp[DV]
 |d::l,i+1,hi=>by
  simp only[C1,DV,F3]
  rw[Va l i (by simpa using hi),CQ,Nat.mul_add,J5]
  congr 2
  rw[C6 (10 ^ i) 10,<-DU,<-DU,C6 10]
theorem TB:∀(l:zI) (i:Nat),(∀e∈l,0<=e∧e<=9)->DV (l.take i) < 10 ^ i
 |l,0,_=>by rw[List.take_zero,DV,Je];omega
 |[],i+1,_=>by rw[List.take_nil,DV];exact Iy (by omega)
 |d::l,i+1,h=>by
  have h1:=h d (Bg ..)
  have h2:=TB l i λe he=>h e (AE _ he)
  rw[C1,DV,CQ];omega
theorem aZ{B:(Int->Option (Sum Unit Int))->Int->Option (Sum Unit Int)}{a b:zI}(ha:∀e∈a,0<=e∧e<=9)(hb:∀e∈b,0<=e∧e<=9)(hl:a.length=b.length)(hl2:a.length<=60)
  (hB:∀rec (i:Nat) (h1:i < a.length) (h2:i < b.length),B rec (i:Int)=cond (decide (a[i] < b[i])) (some (.inr (-1))) (cond (decide (b[i] < a[i])) (some (.inr 1)) (rec ((i:Int) - 1)))) (h0:∀rec,B rec (-1)=some (.inl ())):
  ∀(j f:Nat),j<=a.length->j < f->Au B f ((j:Int) - 1)=some (cond (decide (DV (a.take j) < DV (b.take j))) (.inr (-1)) (cond (decide (DV (b.take j) < DV (a.take j))) (.inr 1) (.inl ())))
 |0,f,_,hf=>by
  obtain⟨f,rfl⟩:∃g,f=g+1:=⟨f - 1,by omega⟩
  rw[By,show((0:Nat):Int) - 1= -1 from rfl,h0];rfl
 |j+1,f,hj,hf=>by
  obtain⟨f,rfl⟩:∃g,f=g+1:=⟨f - 1,by omega⟩
  have hja:j < a.length:=by omega
  have hjb:j < b.length:=by omega
  have d1:=ha _ (Aj hja)
  have d2:=hb _ (Aj hjb)
  have v1:=TB a j ha
  have v2:=TB b j hb
  rw[By,show((j+1:Nat):Int) - 1=(j:Int)by omega,hB _ j hja hjb,Va a j hja,Va b j hjb]
  generalize hx:a[j]=x at d1
  generalize hy:b[j]=y at d2
  obtain⟨x,rfl⟩:∃n:Nat,x=(n:Int):=⟨x.toNat,by omega⟩
  obtain⟨y,rfl⟩:∃n:Nat,y=(n:Int):=⟨y.toNat,by omega⟩
  rw[AL,AL]
  rcases FG x y with h|h|h
  ·have:(x+1) * 10 ^ j<=y * 10 ^ j:=CA _ h
   rw[C4,Dn]at this
   rw[Ai (show(x:Int) < (y:Int)by omega),Ai (show DV (a.take j)+x * 10 ^ j < DV (b.take j)+y * 10 ^ j by omega)];rfl
  ·subst h
   rw[Ag (show ¬(x:Int) < (x:Int)by omega),Ae,Ae,aZ ha hb hl hl2 hB h0 j f (by omega) (by omega)]
   have e1:decide (DV (a.take j)+x * 10 ^ j < DV (b.take j)+x * 10 ^ j)=decide (DV (a.take j) < DV (b.take j)):=by rw[JK];omega
   have e2:decide (DV (b.take j)+x * 10 ^ j < DV (a.take j)+x * 10 ^ j)=decide (DV (b.take j) < DV (a.take j)):=by rw[JK];omega
   rw[e1,e2]
  ·have:(y+1) * 10 ^ j<=x * 10 ^ j:=CA _ h
   rw[C4,Dn]at this
   rw[Ag (show ¬(x:Int) < (y:Int)by omega),Ai (show(y:Int) < (x:Int)by omega),Ag (show ¬DV (a.take j)+x * 10 ^ j < DV (b.take j)+y * 10 ^ j by omega),Ai (show DV (b.take j)+y * 10 ^ j < DV (a.take j)+x * 10 ^ j by omega)];rfl
theorem lF{m n:Nat}(h:(DN m).length < (DN n).length):m < n:=by
 have h1:=(O8 (DN m).length m).1 (AT _)
 have h2:¬n < 10 ^ (DN m).length:=λhh=>by have:=(O8 _ n).2 hh;omega
 omega
theorem lb{m n:Nat}(hm:m < 10 ^ 60)(hn:n < 10 ^ 60):GM (DN m) (DN n)=some (X1 m n):=by
 have l1:=RT hm
 have l2:=RT hn
 unfold GM X1
 rw[fZ (lM l1),Ck,Wa hm,An,Ae,fZ (lM l2),Ck,Wa hn,An,Ae]
 rcases FG (DN m).length (DN n).length with h|h|h
 ·rw[show(((DN m).length:Int)!=((DN n).length:Int))=true by rw[C9];omega,Ad,Ve,Ck,Av (by omega),Ai (lF h)];rfl
 ·have key:=aZ (B:=G0 (DN m) (DN n)) (V9 m) (V9 n) h l1 (λrec i h1 h2=>by
   simp only[G0]
   rw[Ai (by omega:(0:Int)<=(i:Int)),Ad,Bd h1,Ck,Bd h2,Ck,Ck,Ck,Ve,Ck,wrap_in (by omega)]
   rcases Int.lt_trichotomy (DN m)[i] (DN n)[i]with q|q|q
   ·rw[show((DN m)[i]!=(DN n)[i])=true by rw[C9];omega,Ai q,Av q];rfl
   ·rw[show((DN m)[i]!=(DN n)[i])=false by rw[Eo];omega,Ag (by omega),Ag (by omega)];rfl
   ·rw[show((DN m)[i]!=(DN n)[i])=true by rw[C9];omega,Ag (by omega),Ai q,At (by omega),Av q];rfl) (λrec=>by simp only[G0];rfl) (DN m).length fz (AT _) (by unfold fz;omega)
  rw[BT,h,BT,Ug,Ug]at key
  rw[show(((DN m).length:Int)!=((DN n).length:Int))=false by rw[Eo];omega,Ae,wrap_in (by omega),h,key,Ck]
  cases decide (m < n)<;>cases decide (n < m)<;>rfl
 ·have:=lF h
  rw[show(((DN m).length:Int)!=((DN n).length:Int))=true by rw[C9];omega,Ad,Ve,Ck,At (by omega),Av (by omega),Ag (by omega),Ai this];rfl
theorem Gu{O:Type}{B:(Int->Option (Sum Unit O))->Int->Option (Sum Unit O)}{n:Nat}(bad:Nat->Bool)(o:O)(hn:n<=lim)(h1:∀k,k < n->∀rec,B rec (k:Int)=cond (bad k) (some (.inr o)) (rec ((k+1:Nat):Int)))(h2:∀rec,B rec (n:Int)=some (.inl ())):
  Au B fz 0=some (cond ((List.range n).any bad) (.inr o) (.inl ())):=by
 have key:∀d k,k+d=n->(∀j,j < k->bad j=false)->∀m,d < m->Au B m (k:Int)=some (cond ((List.range n).any bad) (.inr o) (.inl ())):=by
  intro d
  induction d with
  |zero=>
   intro k hk hb m hm
   obtain⟨m,rfl⟩:∃g,m=g+1:=⟨m - 1,by omega⟩
   have:(List.range n).any bad=false:=by
    rw[Bx]
    intro x hx
    rw[hb x (by have:=Ao.1 hx;omega)];simp
   rw[By,show k=n by omega,h2,this];rfl
  |succ d ih=>
   intro k hk hb m hm
   obtain⟨m,rfl⟩:∃g,m=g+1:=⟨m - 1,by omega⟩
   rw[By,h1 k (by omega)]
   cases hbk:bad k with
   |true=>
    have:(List.range n).any bad=true:=by rw[Bi];exact⟨k,Ao.2 (by omega),hbk⟩
    rw[this];rfl
   |false=>
    exact ih (k+1) (by omega) (λj hj=>by
     rcases A9 j k with h|h
     ·exact hb j h
     ·rw[show j=k by omega];exact hbk) m (by omega)
 have:=key n 0 (by omega) (λj hj=>absurd hj (by omega)) fz (Ho hn)
 simpa using this
def Ps(r:Rt):Bool:=Ee r&&decide (0<=r.1)
def YW(d:Int)(r:Rt):Int:=d.tdiv (Nat.gcd d.natAbs r.2.natAbs:Nat) * r.2
def scD:Int->List Rt->Option Int
 |d,[]=>some d
 |d,r::l=>cond (decide (1000 < YW d r)) none (scD (YW d r) l)
theorem nk{d:Int}{r:Rt}(hd:1<=d∧d<=1000)(hr:Ee r=true):wZ (d.tdiv (Nat.gcd d.natAbs r.2.natAbs:Nat))=d.tdiv (Nat.gcd d.natAbs r.2.natAbs:Nat)∧wZ (YW d r)=YW d r∧1<=YW d r:=by
 have f:=Cd hr
 obtain⟨n,rfl⟩:∃n:Nat,d=(n:Int):=⟨d.toNat,by omega⟩
 obtain⟨m,hm⟩:∃m:Nat,r.2=(m:Int):=⟨r.2.toNat,by omega⟩
 unfold YW
 rw[hm,Fh,Fh]
 have hg:0 < Nat.gcd n m:=HT _ (by omega)
 have e1:Int.tdiv (n:Int) ((Nat.gcd n m:Nat):Int)=((n / Nat.gcd n m:Nat):Int):=rfl
 have h1:n / Nat.gcd n m<=n:=Nat.div_le_self _ _
 have h2:1<=n / Nat.gcd n m:=Nat.div_pos (Mt (by omega) (MI n m)) hg
 have h3:n / Nat.gcd n m * m<=1000 * 1000000000:=BC (by omega) (by omega)
 have h4:1 * 1<=n / Nat.gcd n m * m:=BC h2 (by omega)
 have e2:((n / Nat.gcd n m:Nat):Int) * (m:Int)=((n / Nat.gcd n m * m:Nat):Int):=by simp
 rw[e1,e2]
 exact⟨wrap_in (by omega),wrap_in (by omega),by omega⟩
def Oe(d:Int)(l:List Rt):Sum Int (zI×Int):=cond (B9 l λ_ r=> !Ps r) (.inr ([],0)) (match scD d l with|none=>.inr ([],0)|some d=>.inl d)
theorem VG{α:Type}(x:α)(l:List α)(f:α->Bool):B9 (x::l) (λ_ e=>f e)=(f x || B9 l λ_ e=>f e):=by
 unfold B9
 rw[AQ,List.range_succ_eq_map,H0,List.any_map]
 congr 1
theorem sH{w:List Rt}(h:w.length<=lim):∀(j k:Nat) (d:Int) (f:Nat),k+j=w.length->1<=d∧d<=1000->j < f->Au (Fp w) f (d,(k:Int))=some (Oe d (w.drop k))
 |0,k,d,f,hk,hd,hf=>by
  obtain⟨f,rfl⟩:∃g,f=g+1:=⟨f - 1,by omega⟩
  rw[By,BY (by omega),Fp,Ag (by omega),Ae];rfl
 |j+1,k,d,f,hk,hd,hf=>by
  obtain⟨f,rfl⟩:∃g,f=g+1:=⟨f - 1,by omega⟩
  have hlt:k < w.length:=by omega
  rw[By,AR hlt,Oe,VG]
  simp only[Fp,Bd hlt,Ck,PW]
  rw[Br hlt,Ad,BG hlt (Bq h)]
  unfold Ps
  cases hr:Ee w[k]with
  |false=>rfl
  |true=>
   by_cases h0:0<=w[k].1
   ·have f0:=Cd hr
    obtain⟨e1,e2,e3⟩:=nk hd hr
    have hg:=m5 d.natAbs w[k].2.natAbs (by omega)
    rw[show((d.natAbs:Nat):Int)=d by omega,show((w[k].2.natAbs:Nat):Int)=w[k].2 by omega]at hg
    have hp:0 < Nat.gcd d.natAbs w[k].2.natAbs:=HT _ (by omega)
    have e2':wZ (d.tdiv ((Nat.gcd d.natAbs w[k].2.natAbs:Nat):Int) * w[k].2)=YW d w[k]:=e2
    rw[Ai h0,Ag (by omega:¬w[k].1 < 0),An,Ae,Ae,hg,Ck,AX (by omega),e1,e2',scD]
    by_cases hb:1000 < YW d w[k]
    ·rw[Ai hb]
     simp only[Ad,AD,An,BZ]
     cases B9 (w.drop (k+1)) λ_ e=> !(Ee e&&decide (0<=e.1))<;>rfl
    ·rw[Ag hb,Ae,Ae,sH h j (k+1) (YW d w[k]) f (by omega) ⟨e3,by omega⟩ (by omega)]
     simp only[AD,An,BZ]
     rfl
   ·rw[Ag h0,Ai (by omega:w[k].1 < 0)];rfl
theorem rS{w:List Rt}(h:w.length<=lim)(hv:∀r∈w,Ps r=true):∀(j k:Nat) (d:Int) (f:Nat),k+j=w.length->1<=d∧d<=1000->j < f->Au (E9 w) f (d,(k:Int))=some (match scD d (w.drop k)with|none=>.inr ([],0)|some d=>.inl d)
 |0,k,d,f,hk,hd,hf=>by
  obtain⟨f,rfl⟩:∃g,f=g+1:=⟨f - 1,by omega⟩
  rw[By,BY (by omega),E9,Ag (by omega),Ae];rfl
 |j+1,k,d,f,hk,hd,hf=>by
  obtain⟨f,rfl⟩:∃g,f=g+1:=⟨f - 1,by omega⟩
  have hlt:k < w.length:=by omega
  have hr:Ee w[k]=true:=by
   have:=hv _ (Aj hlt)
   unfold Ps at this
   rw[Aa]at this;exact this.1
  have f0:=Cd hr
  obtain⟨e1,e2,e3⟩:=nk hd hr
  have hg:=kZ d.natAbs w[k].2.natAbs (by omega)
  rw[show((d.natAbs:Nat):Int)=d by omega,show((w[k].2.natAbs:Nat):Int)=w[k].2 by omega]at hg
  have hp:0 < Nat.gcd d.natAbs w[k].2.natAbs:=HT _ (by omega)
  have e2':wZ (d.tdiv ((Nat.gcd d.natAbs w[k].2.natAbs:Nat):Int) * w[k].2)=YW d w[k]:=e2
  rw[By,AR hlt]
  simp only[E9,Bd hlt,Ck]
  rw[Br hlt,Ad,BG hlt (Bq h),hg,Ck,AX (by omega),e1,e2',scD]
  by_cases hb:1000 < YW d w[k]
  ·rw[Ai hb];rfl
  ·rw[Ag hb,Ae,Ae]
   exact rS h hv j (k+1) (YW d w[k]) f (by omega) ⟨e3,by omega⟩ (by omega)
def scI(d:Int)(r:Rt):Int:=wZ (r.1 * wZ (Int.tdiv d r.2))
def FM(w:List Rt):zI×Int:=match Oe 1 w with
 |.inl d=>(w.map (scI d),d)
 |.inr r=>r
theorem Xy{w:List Rt}{d:Int}(h:Oe 1 w=.inl d):∀r∈w,Ps r=true:=λr hr=>by
 unfold Oe at h
 cases hb:B9 w λ_ r=> !Ps r with
 |true=>rw[hb]at h;cases h
 |false=>simpa using Mw hb hr
theorem qO{w:List Rt}(h:w.length<=lim):Io w=some (FM w):=by
 unfold Io FM
 have key:=sH h w.length 0 1 fz (by omega) (by omega) (Ho h)
 have key':Au (Fp w) fz (1,0)=some (Oe 1 w):=key
 rw[key',Ck]
 cases hs:Oe 1 w with
 |inr r=>rfl
 |inl d=>
  have hv:=Xy hs
  simp only
  rw[J3 (a:=w) (h:=scI d) h (λk hk rec=>by
   have hr:Ee w[k]=true:=by
    have:=hv _ (Aj hk)
    unfold Ps at this
    rw[Aa]at this;exact this.1
   have f0:=Cd hr
   simp only[Jp]
   rw[Br hk,Ad,Bd hk,Ck,Ck,AX (by omega),AX (by simp only[Ak,AJ,Ay];omega),BG hk (Bq h)]
   rfl) (λrec y=>by simp only[Jp];rw[Bm,Ae]),Ck]
theorem ZM{w:List Rt}(h:w.length<=lim):E8 w=some (FM w):=by
 unfold E8 FM
 rw[Gu (n:=w.length) (λk=>It w k λr=> !Ps r) (([]:zI),(0:Int)) h (λk hk rec=>by
  unfold I8
  rw[Br hk,Ad,Bd hk,Ck,bH,Ck,BG hk (Bq h),Cu hk]
  unfold Ps
  cases Ee w[k]with
  |false=>rfl
  |true=>
   by_cases h0:0<=w[k].1
   ·rw[Ai h0,Ag (by omega:¬w[k].1 < 0)];rfl
   ·rw[Ag h0,Ai (by omega:w[k].1 < 0)];rfl) (λrec=>by unfold I8;rw[Bm,Ae]),Ck]
 have e:((List.range w.length).any λk=>It w k λr=> !Ps r)=B9 w λ_ r=> !Ps r:=rfl
 rw[e]
 unfold Oe
 cases hb:B9 w λ_ r=> !Ps r with
 |true=>rfl
 |false=>
  have hv:∀r∈w,Ps r=true:=λr hr=>by simpa using Mw hb hr
  have key:=rS h hv w.length 0 1 fz (by omega) (by omega) (Ho h)
  have key':Au (E9 w) fz (1,0)=some (match scD 1 w with|none=>.inr ([],0)|some d=>.inl d):=key
  simp only[Ae]
  rw[key',Ck]
  cases scD 1 w with
  |none=>rfl
  |some d=>
   simp only
   rw[J3 (a:=w) (h:=scI d) h (λk hk rec=>by
    have hr:Ee w[k]=true:=by
     have:=hv _ (Aj hk)
     unfold Ps at this
     rw[Aa]at this;exact this.1
    have f0:=Cd hr
    simp only[I9]
    rw[Br hk,Ad,Bd hk,Ck,AX (by omega),AX (by simp only[Ak,AJ,Ay];omega),BG hk (Bq h)]
    rfl) (λrec y=>by simp only[I9];rw[Bm,Ae]),Ck]
def toR:Option Nat->zI×Bool
 |some v=>(DN v,true)
 |none=>([],false)
def cap(v:Nat):Option Nat:=if v < 10 ^ 60 then some v else none
theorem tJ(v:Nat):gR v=toR (cap v):=by
 unfold gR cap
 by_cases h:v < 10 ^ 60
 ·rw[Ai h,Av h];rfl
 ·rw[Ag h,At h];rfl
theorem Zo{v x:Nat}(h:cap v=some x):x=v∧v < 10 ^ 60:=by
 unfold cap at h
 split at h
 ·cases h;exact⟨rfl,by assumption⟩
 ·cases h
theorem WV{m n:Nat}(hm:m < 10 ^ 60)(hn:n < 10 ^ 60):bA (DN m) (DN n)=toR (cap (m * n)):=by
 unfold bA
 rw[Wa hm,Wa hn,Ug,Ug,tJ];rfl
def pwA(n:Nat):Nat->Nat->Option Nat
 |acc,0=>some acc
 |acc,k+1=>match cap (acc * n)with
  |some x=>pwA n x k
  |none=>none
theorem mK{n:Nat}:∀(k acc x:Nat),acc < 10 ^ 60->pwA n acc k=some x->x < 10 ^ 60
 |0,acc,x,h,e=>by rw[pwA]at e;cases e;exact h
 |k+1,acc,x,h,e=>by
  rw[pwA]at e
  cases hc:cap (acc * n)with
  |none=>rw[hc]at e;cases e
  |some y=>rw[hc]at e;obtain⟨rfl,hy⟩:=Zo hc;exact mK k _ x hy e
def toS:Option Nat->Sum zI (zI×Bool)
 |some v=>.inl (DN v)
 |none=>.inr ([],false)
abbrev PwB:=(zI×Int->Option (Sum zI (zI×Bool)))->zI×Int->Option (Sum zI (zI×Bool))
theorem cx{B:PwB}{n:Nat}{e:Nat}(hn:n < 10 ^ 60)(h1:∀rec acc k,acc < 10 ^ 60->k < e->B rec (DN acc,(k:Int))=cond (!(bA (DN acc) (DN n)).2) (some (.inr ([],false))) (rec ((bA (DN acc) (DN n)).1,((k+1:Nat):Int))))(h2:∀rec y,B rec (y,(e:Int))=some (.inl y)):
  ∀(j k acc f:Nat),k+j=e->acc < 10 ^ 60->j < f->Au B f (DN acc,(k:Int))=some (toS (pwA n acc j))
 |0,k,acc,f,hk,ha,hf=>by
  obtain⟨f,rfl⟩:∃g,f=g+1:=⟨f - 1,by omega⟩
  obtain rfl:k=e:=by omega
  rw[By,h2];rfl
 |j+1,k,acc,f,hk,ha,hf=>by
  obtain⟨f,rfl⟩:∃g,f=g+1:=⟨f - 1,by omega⟩
  rw[By,h1 _ acc k ha (by omega),WV ha hn,pwA]
  cases hc:cap (acc * n)with
  |none=>rfl
  |some x=>
   obtain⟨rfl,hx⟩:=Zo hc
   exact cx hn h1 h2 j (k+1) (acc * n) f (by omega) hx (by omega)
def Nv(n k:Int):Option Nat:=cond (decide (n < 0)) none (cond (FI k 0 100) (pwA n.toNat 1 k.toNat) none)
theorem UA{n k:Int}{x:Nat}(h:Nv n k=some x):x < 10 ^ 60:=by
 unfold Nv at h
 cases h1:decide (n < 0)with
 |true=>rw[h1]at h;cases h
 |false=>
  cases h2:FI k 0 100 with
  |false=>rw[h1,h2]at h;cases h
  |true=>rw[h1,h2]at h;exact mK _ _ _ (by decide) h
theorem So{n:Nat}(h:n < 10 ^ 60):(DN n).length<=lim:=lM (RT h)
theorem li{n k:Int}(hn:n<=9223372036854775807):I7 n k=some (toR (Nv n k)):=by
 unfold I7 Nv
 by_cases h0:n < 0
 ·rw[Ai h0];rfl
 ·rw[Ag h0,Ae,Ae,FN,Ck]
  cases hk:FI k 0 100 with
  |false=>rfl
  |true=>
   rw[Fq]at hk
   have hb:n.toNat < 10 ^ 60:=by omega
   rw[An,Ae,Ad,dH (by omega),Ck]
   have key:=cx (B:=Ic n k) (n:=n.toNat) (e:=k.toNat) hb (λrec acc i ha hi=>by
    simp only[Ic]
    rw[Ai (by omega),Ad,dH hn,Ck,dI (So ha) (So hb),Ck,wrap_in (by omega)]
    rfl) (λrec y=>by simp only[Ic];rw[Ag (by omega),Ae]) k.toNat 0 1 fz (by omega) (by decide) (by unfold fz;omega)
   have key':Au (Ic n k) fz (DN (Int.toNat 1),0)=some (toS (pwA n.toNat 1 k.toNat)):=key
   rw[key',Ck]
   cases pwA n.toNat 1 k.toNat<;>rfl
def prO:Nat->List (Int×Int)->Option Nat
 |v,[]=>some v
 |v,p::l=>match Nv p.1 p.2 with
  |none=>none
  |some x=>match cap (v * x)with
   |some y=>prO y l
   |none=>none
theorem mF:∀(l:List (Int×Int)) (v x:Nat),v < 10 ^ 60->prO v l=some x->x < 10 ^ 60
 |[],v,x,h,e=>by rw[prO]at e;cases e;exact h
 |p::l,v,x,h,e=>by
  rw[prO]at e
  cases hp:Nv p.1 p.2 with
  |none=>rw[hp]at e;cases e
  |some y=>
   rw[hp]at e
   simp only at e
   cases hc:cap (v * y)with
   |none=>rw[hc]at e;cases e
   |some z=>rw[hc]at e;obtain⟨rfl,hz⟩:=Zo hc;exact mF l _ x hz e
theorem eP{o:Option Nat}(h:∀x,o=some x->x < 10 ^ 60):∃m,m < 10 ^ 60∧(toR o).1=DN m:=by
 cases o with
 |none=>exact⟨0,by decide,by rw[KS];rfl⟩
 |some x=>exact⟨x,h x rfl,rfl⟩
theorem YQ{B:PwB}{l:List (Int×Int)}(h1:∀rec v k (hk:k < l.length),v < 10 ^ 60->B rec (DN v,(k:Int))=cond (!(toR (Nv l[k].1 l[k].2)).2) (some (.inr ([],false))) (cond (!(bA (DN v) (toR (Nv l[k].1 l[k].2)).1).2) (some (.inr ([],false))) (rec ((bA (DN v) (toR (Nv l[k].1 l[k].2)).1).1,((k+1:Nat):Int)))))(h2:∀rec y,B rec (y,(l.length:Int))=some (.inl y)):
  ∀(j k v f:Nat),k+j=l.length->v < 10 ^ 60->j < f->Au B f (DN v,(k:Int))=some (toS (prO v (l.drop k)))
 |0,k,v,f,hk,hv,hf=>by
  obtain⟨f,rfl⟩:∃g,f=g+1:=⟨f - 1,by omega⟩
  obtain rfl:k=l.length:=by omega
  rw[By,h2,Ez];rfl
 |j+1,k,v,f,hk,hv,hf=>by
  obtain⟨f,rfl⟩:∃g,f=g+1:=⟨f - 1,by omega⟩
  have hlt:k < l.length:=by omega
  rw[By,h1 _ v k hlt hv,AR hlt,prO]
  cases hp:Nv l[k].1 l[k].2 with
  |none=>rfl
  |some x=>
   have e:(toR (some x)).1=DN x:=rfl
   rw[e,WV hv (UA hp)]
   simp only
   cases hc:cap (v * x)with
   |none=>rfl
   |some y=>
    obtain⟨rfl,hy⟩:=Zo hc
    exact YQ h1 h2 j (k+1) (v * x) f (by omega) hy (by omega)
def Q4(a b:zI):Option Nat:=cond ((a.length:Int)!=(b.length:Int)) none (prO 1 (a.zip b))
theorem Wh{a b:zI}{x:Nat}(h:Q4 a b=some x):x < 10 ^ 60:=by
 unfold Q4 at h
 cases hl:((a.length:Int)!=(b.length:Int))with
 |true=>rw[hl]at h;cases h
 |false=>rw[hl]at h;exact mF _ _ _ (by decide) h
theorem lg{a b:zI}(h:a.length<=lim)(hI:∀e∈a,e<=9223372036854775807):E6 a b=some (toR (Q4 a b)):=by
 unfold E6 Q4
 cases hl:((a.length:Int)!=(b.length:Int))with
 |true=>rfl
 |false=>
  rw[Eo]at hl
  have hz:(a.zip b).length=a.length:=by rw[List.length_zip];omega
  rw[Ae,Ae,dH (by omega),Ck]
  have key:=YQ (B:=E7 a b) (l:=a.zip b) (λrec v k hk hv=>by
   have hk1:k < a.length:=by omega
   have hk2:k < b.length:=by omega
   obtain⟨m,hm,em⟩:=eP (o:=Nv a[k] b[k]) λx hx=>UA hx
   simp only[E7,MF]
   rw[Br hk1,Ad,Bd hk1,Ck,Bd hk2,Ck,li (hI _ (Aj hk1)),Ck,dI (So hv) (by rw[em];exact So hm),Ck,BG hk1 (Bq h)]) (λrec y=>by
   simp only[E7]
   rw[hz,Bm,Ae]) (a.zip b).length 0 1 fz (by omega) (by decide) (by rw[hz];exact Ho h)
  have key':Au (E7 a b) fz (DN (Int.toNat 1),0)=some (toS (prO 1 (a.zip b))):=key
  rw[key',Ck]
  cases prO 1 (a.zip b)<;>rfl
theorem gW:∀(l:List (Int×Int)) (v:Nat),(∃p∈l,p.1 < 0)->prO v l=none
 |[],_,⟨p,hp,_⟩=>by cases hp
 |q::l,v,⟨p,hp,hn⟩=>by
  rw[prO]
  rcases AB.1 hp with rfl|hp
  ·have:Nv p.1 p.2=none:=by unfold Nv;rw[Ai hn];rfl
   rw[this]
  ·cases Nv q.1 q.2 with
   |none=>rfl
   |some x=>
    simp only
    cases cap (v * x)with
    |none=>rfl
    |some y=>exact gW l y ⟨p,hp,hn⟩
def wpB(a:zI)(w:List Rt)(n fac:Int):Bool:=decide (0 < (FM w).2)&&(match Q4 a (FM w).1,Nv n (FM w).2,Nv fac (FM w).2 with
 |some x,some y,some z=>decide (x * z < 10 ^ 60)&&decide (y<=x * z)
 |_,_,_=>false)
theorem oY(m n:Nat):decide (X1 m n<=0)=decide (m<=n):=by
 unfold X1
 rcases FG m n with h|h|h
 ·rw[Ai h,Ai (by omega:m<=n)];rfl
 ·subst h;rw[Ag (by omega:¬m < m),Ai (by omega:m<=m)];rfl
 ·rw[Ag (by omega:¬m < n),Ai h,Ag (by omega:¬m<=n)];rfl
theorem gZ:∀k,pwA 1 1 k=some 1
 |0=>rfl
 |k+1=>by
  rw[pwA]
  have:cap (1 * 1)=some 1:=by unfold cap;rw[Av (by decide)]
  rw[this];exact gZ k
theorem pow_one{k:Int}(h:0<=k∧k<=100):Nv 1 k=some 1:=by
 unfold Nv
 rw[(Fq (x:=k) (lo:=0) (hi:=100)).2 h]
 exact gZ _
theorem qn{n k:Int}(h:¬(0<=k∧k<=100)):Nv n k=none:=by
 unfold Nv
 rw[show FI k 0 100=false by rw[Bool.eq_false_iff];intro hh;exact h (Fq.1 hh)]
 cases decide (n < 0)<;>rfl
theorem AaL{a:zI}{w:List Rt}{n fac:Int}(ha:a.length<=lim)(hI:∀e∈a,e<=9223372036854775807)(hw:w.length<=lim)(hn:n<=9223372036854775807)(hf:fac<=9223372036854775807):KB a w n fac=some (wpB a w n fac):=by
 unfold KB wpB
 rw[ZM hw,Ck]
 by_cases h0:n < 0
 ·have:Nv n (FM w).2=none:=by unfold Nv;rw[Ai h0];rfl
  rw[Ai h0,Ad,this]
  cases Q4 a (FM w).1<;>simp
 ·rw[Ag h0,Ae]
  by_cases hd:0 < (FM w).2
  ·rw[Ag (by omega:¬(FM w).2 < 1),Ae,Ai hd,AD]
   by_cases hk:100 < (FM w).2
   ·rw[Ai hk,Ad,qn (by omega)]
    cases Q4 a (FM w).1<;>rfl
   ·rw[Ag hk,Ae,E5 (n:=a.length) (λk=>It a k λe=>decide (e < 0)) ha (λk hk rec=>by
     unfold KZ
     rw[Br hk,Ad,Bd hk,Ck,BG hk (Bq ha),Cu hk]) (λrec=>by unfold KZ;rw[Bm,Ae]),Ck]
    have e:((List.range a.length).any λk=>It a k λe=>decide (e < 0))=B9 a λ_ e=>decide (e < 0):=rfl
    rw[e]
    cases hb:B9 a λ_ e=>decide (e < 0)with
    |true=>
     have:Q4 a (FM w).1=none:=by
      unfold Q4
      cases hl:((a.length:Int)!=((FM w).1.length:Int))with
      |true=>rfl
      |false=>
       rw[Eo]at hl
       rw[Ae]
       unfold B9 at hb
       obtain⟨k,hk1,hk2⟩:=Bi.1 hb
       have hk3:k < a.length:=Ao.1 hk1
       rw[Cu hk3,AN]at hk2
       exact gW _ _ ⟨(a[k],(FM w).1[k]'(by omega)),by
        have:(a.zip (FM w).1)[k]'(by rw[List.length_zip];omega)=(a[k],(FM w).1[k]'(by omega)):=MF
        rw[<-this];exact Aj _,hk2⟩
     rw[this];rfl
    |false=>
     simp only[Ae]
     rw[li hn,Ck,lg ha hI,Ck,li hf,Ck]
     obtain⟨m1,l1,e1⟩:=eP (o:=Q4 a (FM w).1) λx hx=>Wh hx
     obtain⟨m2,l2,e2⟩:=eP (o:=Nv fac (FM w).2) λx hx=>UA hx
     rw[dI (by rw[e1];exact So l1) (by rw[e2];exact So l2),Ck]
     cases hx:Q4 a (FM w).1 with
     |none=>cases Nv n (FM w).2<;>rfl
     |some x=>
      cases hy:Nv n (FM w).2 with
      |none=>rfl
      |some y=>
       cases hz:Nv fac (FM w).2 with
       |none=>rfl
       |some z=>
        simp only[toR,Ad]
        rw[WV (Wh hx) (UA hz)]
        unfold cap
        by_cases hc:x * z < 10 ^ 60
        ·rw[Av hc]
         simp only[toR,Ad]
         rw[lb (UA hy) hc,Ck,oY,Ai hc];rfl
        ·rw[At hc,Ag hc];rfl
  ·rw[Ai (by omega:(FM w).2 < 1),Ag hd];rfl
theorem rN{a:zI}{w:List Rt}{n:Int}(ha:a.length<=lim)(hI:∀e∈a,e<=9223372036854775807)(hw:w.length<=lim)(hn:n<=9223372036854775807):FO a w n=some (wpB a w n 1):=by
 unfold FO
 rw[AaL ha hI hw hn (by omega),Ck]
theorem Yl{α:Type}:∀(l:List α) (k:Nat),(BW k l).map (·.1)=List.range' k l.length
 |[],_=>rfl
 |x::l,k=>by rw[BW,AC,Yl l (k+1),AQ,Db]
theorem NU{α:Type}(l:List α):IH l=List.range l.length:=by rw[IH,Yl,FB]
theorem YL{α:Type}:∀(l p:List α),HA (p++l) (List.range' p.length l.length)=l
 |[],p=>rfl
 |x::l,p=>by
  have h:=YL l (p++[x])
  rw[Bj,GC,Aw,Ay]at h
  rw[AQ,Db]
  unfold HA at h⊢
  rw[AH,h]
  simp
theorem my{α:Type}(l:List α):HA l (IH l)=l:=by
 rw[NU,FB]
 exact YL l []
theorem b8:∀(n k m:Nat) (seen:zN),k+n<=m->(∀j∈seen,j < k)->YB m (List.range' k n) seen=true
 |0,_,_,_,_,_=>rfl
 |n+1,k,m,seen,h,hs=>by
  rw[Db,YB,Aa,Aa,Ax]
  refine⟨⟨by rw[Nat.blt_eq];omega,?_⟩,b8 n (k+1) m (k::seen) (by omega) (λj hj=>?_)⟩
  ·cases hc:seen.contains k with
   |false=>rfl
   |true=>exact absurd (hs k (AS.1 hc)) (H1 _)
  ·rcases AB.1 hj with rfl|hj
   ·omega
   ·have:=hs j hj;omega
theorem p6{α:Type}(l:List α):YB l.length (IH l) []=true:=by
 rw[NU,FB]
 exact b8 _ 0 _ [] (by omega) (by simp)
def Lf{S O:Type}(st:Nat->S->Sum S O):Nat->Nat->S->Sum S O
 |0,_,s=>.inl s
 |j+1,k,s=>match st k s with
  |.inl s'=>Lf st j (k+1) s'
  |.inr o=>.inr o
theorem SN{S T O R:Type}{B:(T->Option R)->T->Option R}{n:Nat}(at_:S->Nat->T)(Inv:Nat->S->Prop)(st:Nat->S->Sum S O)(fin:Sum S O->R)
  (h1:∀rec k s,k < n->Inv k s->B rec (at_ s k)=match st k s with|.inl s'=>rec (at_ s' (k+1))|.inr o=>some (fin (.inr o)))
  (h2:∀rec s,Inv n s->B rec (at_ s n)=some (fin (.inl s)))
  (h3:∀k s s',k < n->Inv k s->st k s=.inl s'->Inv (k+1) s'):∀(j k:Nat) (s:S) (f:Nat),k+j=n->j < f->Inv k s->Au B f (at_ s k)=some (fin (Lf st j k s))
 |0,k,s,f,hk,hf,hi=>by
  obtain⟨f,rfl⟩:∃g,f=g+1:=⟨f - 1,by omega⟩
  obtain rfl:k=n:=by omega
  rw[By,h2 _ s hi];rfl
 |j+1,k,s,f,hk,hf,hi=>by
  obtain⟨f,rfl⟩:∃g,f=g+1:=⟨f - 1,by omega⟩
  rw[By,h1 _ k s (by omega) hi,Lf]
  cases hs:st k s with
  |inl s'=>exact SN at_ Inv st fin h1 h2 h3 j (k+1) s' f (by omega) (by omega) (h3 k s s' (by omega) hi hs)
  |inr o=>rfl
theorem Ep{S T O R:Type}{B:(T->Option R)->T->Option R}{n:Nat}(at_:S->Nat->T)(Inv:Nat->S->Prop)(st:Nat->S->Sum S O)(fin:Sum S O->R)(hn:n<=lim)
  (h1:∀rec k s,k < n->Inv k s->B rec (at_ s k)=match st k s with|.inl s'=>rec (at_ s' (k+1))|.inr o=>some (fin (.inr o)))
  (h2:∀rec s,Inv n s->B rec (at_ s n)=some (fin (.inl s)))
  (h3:∀k s s',k < n->Inv k s->st k s=.inl s'->Inv (k+1) s') (s:S) (hi:Inv 0 s):Au B fz (at_ s 0)=some (fin (Lf st n 0 s)):=
 SN at_ Inv st fin h1 h2 h3 n 0 s fz (by omega) (Ho hn) hi
theorem Xu{α O:Type}(g:Nat->α):∀(j k:Nat) (s:List α),Lf (O:=O) (λk s=>.inl (s++[g k])) j k s=.inl (s++(List.range' k j).map g)
 |0,k,s=>by rw[Lf];simp
 |j+1,k,s=>by rw[Lf];simp only;rw[Xu g j (k+1),Db,AC,Bj];rfl
def JE{α O:Type}(g:Nat->Sum α O):Nat->Nat->Sum (List α) O
 |0,_=>.inl []
 |j+1,k=>match g k with
  |.inr o=>.inr o
  |.inl x=>match JE g j (k+1)with
   |.inl l=>.inl (x::l)
   |.inr o=>.inr o
def aF{α O:Type}(s:List α):Sum α O->Sum (List α) O
 |.inl x=>.inl (s++[x])
 |.inr o=>.inr o
theorem Pr{α O:Type}(g:Nat->Sum α O):∀(j k:Nat) (s:List α),Lf (λk s=>aF s (g k)) j k s=(match JE g j k with|.inl l=>.inl (s++l)|.inr o=>.inr o)
 |0,k,s=>by rw[Lf,JE];simp
 |j+1,k,s=>by
  rw[Lf,JE]
  cases hg:g k with
  |inr o=>rfl
  |inl x=>
   rw[show aF (O:=O) s (.inl x)=.inl (s++[x])from rfl]
   simp only
   rw[Pr g j (k+1)]
   cases JE g j (k+1)with
   |inr o=>rfl
   |inl l=>simp only[Bj,GC]
theorem Ut{α O:Type}{g:Nat->Sum α O}:∀{j k:Nat}{l:List α},JE g j k=.inl l->l.length=j
 |0,_,_,h=>by cases h;rfl
 |j+1,k,l,h=>by
  rw[JE]at h
  cases hg:g k with
  |inr o=>rw[hg]at h;cases h
  |inl x=>
   rw[hg]at h
   cases hm:JE g j (k+1)with
   |inr o=>simp only[hm]at h;cases h
   |inl l'=>simp only[hm]at h;cases h;rw[AQ,Ut hm]
theorem eB{α:Type}(l:List α)(j:Nat)(J:zN):HA l (j::J)=(l[j]?).toList++HA l J:=by rw[HA,AH];rfl
theorem YK{α:Type}[Inhabited α](l:List α):∀{J:zN},(∀j∈J,j < l.length)->HA l J=J.map λj=>l.getD j default
 |[],_=>rfl
 |j::J,h=>by
  have hj:=h j Bg
  rw[eB,YK l λi hi=>h i (AE _ hi),AC,Ac hj,Af,Ac hj];rfl
theorem mh{n:Nat}:∀{J seen:zN},J.Nodup->(∀j∈J,j < n∧j∉seen)->YB n J seen=true
 |[],_,_,_=>rfl
 |j::J,seen,hn,h=>by
  obtain⟨h1,h2⟩:=Bw.1 hn
  obtain⟨h3,h4⟩:=h j Bg
  rw[YB,Aa,Aa,Ax]
  refine⟨⟨by rw[Nat.blt_eq];exact h3,?_⟩,mh h2 λi hi=>⟨(h i (AE _ hi)).1,λhm=>?_⟩⟩
  ·cases hc:seen.contains j with
   |false=>rfl
   |true=>exact absurd (AS.1 hc) h4
  ·rcases AB.1 hm with rfl|hm
   ·exact h1 hi
   ·exact(h i (AE _ hi)).2 hm
def sw(p k i:Nat):Nat:=if i=p then k else if i=k then p else i
theorem vI{p k i j:Nat}(h:sw p k i=sw p k j):i=j:=by
 unfold sw at h
 split at h<;>split at h<;>(try split at h)<;>(try split at h)<;>omega
theorem rl{n p k:Nat}(hp:p < n)(hk:k < n):((List.range n).set k p).set p k=(List.range n).map (sw p k):=by
 apply CD
 ·simp
 ·intro i h1 h2
  simp only[BM,BV]at h1
  rw[Ec,Be,CV]
  unfold sw
  by_cases e:p=i
  ·subst e;simp
  ·rw[At e,At (λh=>e h.symm),Ec]
   by_cases e2:k=i
   ·subst e2;simp
   ·rw[At e2,At (λh=>e2 h.symm),CV]
theorem nF{n p k:Nat}(hp:p < n)(hk:k < n):((List.range n).set p k).set k p=(List.range n).map (sw p k):=by
 apply CD
 ·simp
 ·intro i h1 h2
  simp only[BM,BV]at h1
  rw[Ec,Be,CV]
  unfold sw
  by_cases e:k=i
  ·subst e
   rw[Av rfl]
   split
   ·rename_i h;exact h.symm
   ·rw[Av rfl]
  ·rw[At e,Ec]
   by_cases e2:p=i
   ·subst e2;simp
   ·rw[At e2,At (λh=>e2 h.symm),At (λh=>e h.symm),CV]
theorem sK{n p k i:Nat}(hp:p < n)(hk:k < n)(hi:i < n):sw p k i < n:=by unfold sw;split;exact hk;split;exact hp;exact hi
theorem sL{n p k:Nat}(hp:p < n)(hk:k < n):YB n ((List.range n).map (sw p k)) []=true:=by
 refine mh ?_ λj hj=>?_
 ·unfold List.Nodup
  rw[El]
  exact LZ (λh e=>h (vI e)) (show(List.range n).Pairwise (· ≠ ·)from E4)
 ·obtain⟨i,hi,rfl⟩:=A3.1 hj
  exact⟨sK hp hk (Ao.1 hi),by simp⟩
def V4{α:Type}[Inhabited α](m:List α)(p k:Nat):List α:=(m.set k (m.getD p default)).set p (m.getD k default)
theorem nE{α:Type}[Inhabited α]{m:List α}{p k:Nat}(hp:p < m.length)(hk:k < m.length):HA m ((List.range m.length).map (sw p k))=V4 m p k:=by
 rw[YK m λj hj=>by obtain⟨i,hi,rfl⟩:=A3.1 hj;exact sK hp hk (Ao.1 hi),C0]
 unfold V4
 apply CD
 ·simp
 ·intro i h1 h2
  simp only[Ak,BV]at h1
  rw[Be,CV,Ec]
  simp only[Function.comp]
  unfold sw
  by_cases e:p=i
  ·subst e;simp
  ·rw[At e,At (λh=>e h.symm),Ec]
   by_cases e2:k=i
   ·subst e2;simp
   ·rw[At e2,At (λh=>e2 h.symm),Af,Ac h1];rfl
theorem rj{α:Type}[Inhabited α](m:List α)(p k:Nat):(V4 m p k).length=m.length:=by unfold V4;simp
abbrev Mx:=List (List Rt)
def atR(l:List Rt)(k:Nat):Rt:=l.getD k (0,0)
def CX(m:Mx)(k:Nat):List Rt:=m.getD k []
def rowOk(n:Nat)(r:List Rt):Bool:=(r.length==n)&&r.all Ee
def PF(a:Mx)(b:List Rt):Bool:=(a.length==b.length)&&(a.all (rowOk b.length)&&b.all Ee)
def elF(f:Rt):List Rt->List Rt->Option (List Rt)
 |x::xs,y::ys=>cond ((D9 f y).2&&(LA x (D9 f y).1).2) ((elF f xs ys).map ((LA x (D9 f y).1).1:: ·)) none
 |_,_=>some []
def RQ(p:Nat)(row piv:List Rt):Option (List Rt):=cond (Hj (atR row p) (atR piv p)).2 ((elF (Hj (atR row p) (atR piv p)).1 (row.drop p) (piv.drop p)).map (row.take p++ ·)) none
def VT(p:Nat)(m:Mx)(i:Nat):Option Mx:=cond (i==p) (some m) (cond ((atR (CX m i) p).1==0) (some m) ((RQ p (CX m i) (CX m p)).map (m.set i ·)))
def Od(p:Nat):Nat->Nat->Mx->Option Mx
 |0,_,m=>some m
 |j+1,i,m=>match VT p m i with
  |none=>none
  |some m'=>Od p j (i+1) m'
def Nw(m:Mx)(p:Nat):Nat->Nat->Nat
 |0,k=>k
 |j+1,k=>cond ((atR (CX m k) p).1==0) (Nw m p j (k+1)) k
def LX(n:Nat):Nat->Nat->Mx->Option Mx
 |0,_,m=>some m
 |j+1,p,m=>cond (Nw m p (n - p) p==n) none (match Od p n 0 (V4 m p (Nw m p (n - p) p))with
  |none=>none
  |some m'=>LX n j (p+1) m')
def Qa(n:Nat)(m:Mx)(p:Nat):Sum Rt (List Rt×Bool):=cond (Hj (atR (CX m p) n) (atR (CX m p) p)).2 (.inl (Hj (atR (CX m p) n) (atR (CX m p) p)).1) (.inr ([],false))
def Oq(a:Mx)(b:List Rt):Mx:=(List.range' 0 b.length).map λk=>CX a k++[atR b k]
def KF(a:Mx)(b:List Rt):List Rt×Bool:=cond (decide (6 < (b.length:Int))) ([],false) (cond (PF a b) (match LX b.length b.length 0 (Oq a b)with
 |none=>([],false)
 |some m=>match JE (Qa b.length m) b.length 0 with
  |.inl x=>(x,true)
  |.inr o=>o) ([],false))
theorem qv(n d:Int):(rNew n d).1.1.natAbs<=1000000000:=by
 have hr:∀n d:Int,(UD n d).1.1.natAbs<=1000000000:=λn d=>by
  unfold UD
  cases h:Ee (n.tdiv (Nat.gcd n.natAbs d.natAbs:Nat),d.tdiv (Nat.gcd n.natAbs d.natAbs:Nat))with
  |false=>simp
  |true=>exact(Cd h).2.2.1
 unfold rNew
 cases d==0 with
 |true=>simp
 |false=>
  cases FI n (-4000000000000000000) 4000000000000000000 with
  |false=>simp
  |true=>
   cases FI d (-4000000000000000000) 4000000000000000000 with
   |false=>simp
   |true=>
    cases decide (d < 0)with
    |true=>exact hr _ _
    |false=>exact hr _ _
theorem qu(a b:Rt): -9223372036854775808<=(D9 a b).1.1∧(D9 a b).1.1<=9223372036854775807:=by
 have h:(D9 a b).1.1.natAbs<=1000000000:=by
  unfold D9
  cases Ee a with
  |false=>simp
  |true=>
   cases Ee b with
   |false=>simp
   |true=>exact qv _ _
 omega
theorem Ww{α:Type}(f:α->Bool):∀l:List α,B9 l (λ_ e=>f e)=l.any f
 |[]=>rfl
 |x::l=>by rw[VG,Ww f l,H0]
theorem Tp{α:Type}(l:List α)(f:α->Bool):((List.range l.length).any λk=>It l k f)=l.any f:=Ww f l
theorem not_any{α:Type}(l:List α)(f:α->Bool):(l.any λx=> !f x)= !l.all f:=by
 rw[List.not_all_eq_any_not]
theorem LV{l:List Rt}{k:Nat}(h:k < l.length):l[k]=atR l k:=by unfold atR;rw[Af,Ac h];rfl
theorem GY{m:Mx}{k:Nat}(h:k < m.length):m[k]=CX m k:=by unfold CX;rw[Af,Ac h];rfl
theorem Em{l:List Rt}{k:Nat}(h:k < l.length):AZ l (k:Int)=some (atR l k):=by rw[Bd h,LV h]
theorem F8{m:Mx}{k:Nat}(h:k < m.length):AZ m (k:Int)=some (CX m k):=by rw[Bd h,GY h]
theorem zW{a:Mx}{i:Nat}(hi:i < a.length)(hl:(CX a i).length<=lim):Au (P0 a ((CX a i).length:Int) (i:Int)) fz 0=some (cond ((CX a i).all Ee) (.inl ()) (.inr false)):=by
 rw[Gu (n:=(CX a i).length) (λk=>It (CX a i) k λr=> !Ee r) false hl (λk hk rec=>by
  show cond (decide ((k:Int) < ((CX a i).length:Int))) _ _=_
  rw[Br hk,Ad,F8 hi]
  simp only[Ab]
  rw[Bd hk]
  simp only[Ab]
  rw[PW]
  simp only[Ab]
  rw[BG hk (Bq hl),Cu hk]) (λrec=>by
  show cond (decide (((CX a i).length:Int) < ((CX a i).length:Int))) _ _=_
  rw[Bm,Ae])]
 rw[Tp,not_any]
 cases(CX a i).all Ee<;>rfl
theorem nj{a:Mx}{m:Nat}(ha:a.length<=lim)(hm:m<=lim)(n:Int):Gn a n (m:Int)=some (a.all (rowOk m)&&((a.length:Int)==n)):=by
 unfold Gn
 rw[Gu (n:=a.length) (λk=>It a k λr=> !rowOk m r) false ha (λk hk rec=>by
  show cond (decide ((k:Int) < (a.length:Int))) _ _=_
  rw[Br hk,Ad,F8 hk,Cu hk,GY hk]
  simp only[Ab]
  unfold rowOk
  by_cases hl:(CX a k).length=m
  ·subst hl
   rw[zW hk hm,BG hk (Bq ha),Di,Ae,Bu,AD]
   cases(CX a k).all Ee<;>rfl
  ·rw[show(((CX a k).length:Int)!=(m:Int))=true from by rw[C9];omega,Ad,show((CX a k).length==m)=false from by simpa using hl]
   rfl) (λrec=>by
  show cond (decide ((a.length:Int) < (a.length:Int))) _ _=_
  rw[Bm,Ae])]
 rw[Tp,not_any]
 cases a.all (rowOk m)<;>rfl
theorem Vd{r:List Rt}(h:r.length<=lim):F2 r=some (r.all Ee):=by
 unfold F2
 rw[Gu (n:=r.length) (λk=>It r k λe=> !Ee e) false h (λk hk rec=>by
  show cond (decide ((k:Int) < (r.length:Int))) _ _=_
  rw[Br hk,Ad,Bd hk]
  simp only[Ab]
  rw[bH]
  simp only[Ab]
  rw[BG hk (Bq h),Cu hk]) (λrec=>by
  show cond (decide ((r.length:Int) < (r.length:Int))) _ _=_
  rw[Bm,Ae])]
 rw[Tp,not_any]
 cases r.all Ee<;>rfl
theorem Wm{row:List Rt}{k:Nat}(h:k < row.length)(y:Rt):(row.set k y).drop (k+1)=row.drop (k+1)∧(row.set k y).take (k+1)=row.take k++[y]:=by
 constructor
 ·rw[List.drop_set_of_lt (Nat.lt_succ_self k)]
 ·rw[List.take_set,A5 h,List.set_append_right _ _ (by rw[AJ];omega),AJ,Cq (Eg h),La];rfl
theorem QO{m:Mx}{i j:Nat}(r:List Rt)(h:i < m.length):CX (m.set i r) j=if i=j then r else CX m j:=by
 unfold CX
 rw[Af,GR,Af]
 split
 ·first|rfl|(rename_i e;subst e;rw[Av h];rfl)
 ·rfl
theorem nh{p i:Nat}{d:Rt×Bool}{piv:List Rt}:∀(j k:Nat) (m:Mx) (f:Nat),k+j=(CX m i).length->j < f->(CX m i).length<=lim->i < m.length->p < m.length->i≠p->CX m p=piv->piv.length=(CX m i).length->
  (∀t,elF d.1 ((CX m i).drop k) (piv.drop k)=some t->Au (EE (p:Int) (i:Int) d) f (m,true,(k:Int))=some (m.set i ((CX m i).take k++t),true))∧
  (elF d.1 ((CX m i).drop k) (piv.drop k)=none->∃g,Au (EE (p:Int) (i:Int) d) f (m,true,(k:Int))=some (g,false))
 |0,k,m,f,hk,hf,hl,hi,hp,hne,hv,hvl=>by
  obtain⟨f,rfl⟩:∃g,f=g+1:=⟨f - 1,by omega⟩
  obtain rfl:k=(CX m i).length:=by omega
  rw[Ez,<-hvl,Ez]
  refine⟨λt ht=>?_,λh=>by cases h⟩
  cases ht
  rw[By]
  show Ab (AZ m (i:Int)) _=_
  rw[F8 hi]
  simp only[Ab]
  rw[hvl,Bm,Ae,BT,AY]
  congr 2
  rw[<-GY hi,List.set_getElem_self]
 |j+1,k,m,f,hk,hf,hl,hi,hp,hne,hv,hvl=>by
  obtain⟨f,rfl⟩:∃g,f=g+1:=⟨f - 1,by omega⟩
  have hk1:k < (CX m i).length:=by omega
  have hk2:k < piv.length:=by omega
  have hm1:∀y,CX (m.set i ((CX m i).set k y)) i=(CX m i).set k y:=λy=>by rw[QO _ hi,Av rfl]
  have hmp:∀y,CX (m.set i ((CX m i).set k y)) p=piv:=λy=>by rw[QO _ hi,At hne,hv]
  rw[AR hk1,AR hk2,elF,LV hk1,LV hk2]
  have hstep:Au (EE (p:Int) (i:Int) d) (f+1) (m,true,(k:Int))=Au (EE (p:Int) (i:Int) d) f (m.set i ((CX m i).set k (LA (atR (CX m i) k) (D9 d.1 (atR piv k)).1).1),(D9 d.1 (atR piv k)).2&&(LA (atR (CX m i) k) (D9 d.1 (atR piv k)).1).2,((k+1:Nat):Int)):=by
   rw[By]
   show Ab (AZ m (i:Int)) _=_
   rw[F8 hi]
   simp only[Ab]
   rw[Br hk1,Ad,Ad,F8 hp,hv]
   simp only[Ab]
   rw[Em hk2]
   simp only[Ab]
   rw[ng]
   simp only[Ab]
   rw[Em hk1]
   simp only[Ab]
   rw[vw]
   simp only[Ab]
   have hJ:∀x,Ka (Au (EE (p:Int) (i:Int) d) f) (i:Int) m (k:Int) (LA (atR (CX m i) k) (D9 d.1 (atR piv k)).1) x=Au (EE (p:Int) (i:Int) d) f (m.set i ((CX m i).set k (LA (atR (CX m i) k) (D9 d.1 (atR piv k)).1).1),x,((k+1:Nat):Int)):=λx=>by
    unfold Ka
    rw[AX (by omega),F8 hi]
    simp only[Ab]
    rw[AX (by omega),Em hk1,BG hk1 (Bq hl)]
    simp only[Ab,DJ,AL]
   cases(D9 d.1 (atR piv k)).2 with
   |true=>rw[Ad,hJ,AD]
   |false=>rw[Ae,hJ,Lx]
  rw[hstep]
  cases hb:(D9 d.1 (atR piv k)).2&&(LA (atR (CX m i) k) (D9 d.1 (atR piv k)).1).2 with
  |true=>
   rw[Ad]
   have ih:=nh (p:=p) (i:=i) (d:=d) (piv:=piv) j (k+1) (m.set i ((CX m i).set k (LA (atR (CX m i) k) (D9 d.1 (atR piv k)).1).1)) f (by rw[hm1,BM];omega) (by omega) (by rw[hm1,BM];exact hl) (by rw[BM];exact hi) (by rw[BM];exact hp) hne (hmp _) (by rw[hm1,BM];exact hvl)
   rw[hm1,(Wm hk1 _).1,(Wm hk1 _).2]at ih
   refine⟨λt ht=>?_,λhn=>ih.2 (by simpa using hn)⟩
   obtain⟨t',h1,h2⟩:=BI.1 ht
   rw[ih.1 t' h1,<-h2,Bj,List.set_set];rfl
  |false=>
   rw[Ae]
   refine⟨λt ht=>(by cases ht),λ_=>?_⟩
   obtain⟨f',rfl⟩:∃g,f=g+1:=⟨f - 1,by omega⟩
   refine⟨m.set i ((CX m i).set k (LA (atR (CX m i) k) (D9 d.1 (atR piv k)).1).1),?_⟩
   rw[By]
   show Ab (AZ (m.set i ((CX m i).set k (LA (atR (CX m i) k) (D9 d.1 (atR piv k)).1).1)) (i:Int)) _=_
   rw[F8 (by rw[BM];exact hi)]
   simp only[Ab]
   cases decide (((k+1:Nat):Int) < ((CX (m.set i ((CX m i).set k (LA (atR (CX m i) k) (D9 d.1 (atR piv k)).1).1)) i).length:Int))<;>rfl
theorem rR{d:Rt×Bool}{piv:List Rt}:∀(j k:Nat) (row:List Rt) (f:Nat),k+j=row.length->j < f->row.length<=lim->piv.length=row.length->
  (∀t,elF d.1 (row.drop k) (piv.drop k)=some t->Au (Gy piv d) f (row,(k:Int))=some (.inl (row.take k++t)))∧
  (elF d.1 (row.drop k) (piv.drop k)=none->∃g,Au (Gy piv d) f (row,(k:Int))=some (.inr (false,g)))
 |0,k,row,f,hk,hf,hl,hvl=>by
  obtain⟨f,rfl⟩:∃g,f=g+1:=⟨f - 1,by omega⟩
  obtain rfl:k=row.length:=by omega
  rw[Ez,<-hvl,Ez]
  refine⟨λt ht=>?_,λh=>by cases h⟩
  cases ht
  rw[By]
  show cond (decide ((piv.length:Int) < (row.length:Int))) _ _=_
  rw[hvl,Bm,Ae,BT,AY]
 |j+1,k,row,f,hk,hf,hl,hvl=>by
  obtain⟨f,rfl⟩:∃g,f=g+1:=⟨f - 1,by omega⟩
  have hk1:k < row.length:=by omega
  have hk2:k < piv.length:=by omega
  rw[AR hk1,AR hk2,elF,LV hk1,LV hk2,By]
  have hB:Gy piv d (Au (Gy piv d) f) (row,(k:Int))=cond (!(D9 d.1 (atR piv k)).2) (some (.inr (false,row,piv))) (cond (!(LA (atR row k) (D9 d.1 (atR piv k)).1).2) (some (.inr (false,row,piv))) (Au (Gy piv d) f (row.set k (LA (atR row k) (D9 d.1 (atR piv k)).1).1,((k+1:Nat):Int)))):=by
   show cond (decide ((k:Int) < (row.length:Int))) _ _=_
   rw[Br hk1,Ad,Em hk2]
   simp only[Ab]
   rw[lm]
   simp only[Ab]
   rw[Em hk1]
   simp only[Ab]
   rw[tR (qu _ _)]
   simp only[Ab]
   rw[AX (by omega),BG hk1 (Bq hl)]
   simp only[DJ,AL]
  rw[hB]
  cases(D9 d.1 (atR piv k)).2 with
  |false=>exact⟨λt ht=>(by cases ht),λ_=>⟨_,rfl⟩⟩
  |true=>
   rw[AD,An,Ae]
   cases(LA (atR row k) (D9 d.1 (atR piv k)).1).2 with
   |false=>exact⟨λt ht=>(by cases ht),λ_=>⟨_,rfl⟩⟩
   |true=>
    rw[Ad,An,Ae]
    have ih:=rR (d:=d) (piv:=piv) j (k+1) (row.set k (LA (atR row k) (D9 d.1 (atR piv k)).1).1) f (by rw[BM];omega) (by omega) (by rw[BM];exact hl) (by rw[BM];exact hvl)
    rw[(Wm hk1 _).1,(Wm hk1 _).2]at ih
    refine⟨λt ht=>?_,λhn=>ih.2 (by simpa using hn)⟩
    obtain⟨t',h1,h2⟩:=BI.1 ht
    rw[ih.1 t' h1,<-h2,Bj];rfl
theorem tK{row piv:List Rt}{p:Nat}(hl:row.length<=lim)(hvl:piv.length=row.length)(hp:p < row.length):(∀t,RQ p row piv=some t->KX row piv (p:Int)=some (true,t,piv))∧(RQ p row piv=none->∃g,KX row piv (p:Int)=some (false,g)):=by
 unfold KX RQ
 rw[Em hp,Em (by omega:p < piv.length)]
 simp only[Ab]
 rw[lj]
 simp only[Ab]
 cases(Hj (atR row p) (atR piv p)).2 with
 |false=>exact⟨λt ht=>(by cases ht),λ_=>⟨_,rfl⟩⟩
 |true=>
  rw[Ad,An,Ae]
  have h:=rR (d:=Hj (atR row p) (atR piv p)) (piv:=piv) (row.length - p) p row fz (by omega) (by have:=Ho hl;omega) hl hvl
  refine⟨λt ht=>?_,λhn=>?_⟩
  ·obtain⟨t',h1,h2⟩:=BI.1 ht
   rw[h.1 t' h1,<-h2]
  ·obtain⟨g,hg⟩:=h.2 (by simpa using hn)
   exact⟨g,by rw[hg]⟩
def P8(n L:Nat)(m:Mx):Prop:=m.length=n∧∀i,i < n->(CX m i).length=L
theorem P8.set{n L i:Nat}{m:Mx}{r:List Rt}(h:P8 n L m)(hi:i < n)(hr:r.length=L):P8 n L (m.set i r):=
 ⟨by rw[BM];exact h.1,λj hj=>by
  rw[QO _ (by rw[h.1];exact hi)]
  split
  ·exact hr
  ·exact h.2 j hj⟩
theorem Zx{f:Rt}:∀{xs ys t:List Rt},elF f xs ys=some t->xs.length=ys.length->t.length=xs.length
 |[],_,t,h,_=>by cases h;rfl
 |x::xs,[],t,h,hl=>by simp at hl
 |x::xs,y::ys,t,h,hl=>by
  rw[elF]at h
  cases hb:(D9 f y).2&&(LA x (D9 f y).1).2 with
  |false=>rw[hb]at h;cases h
  |true=>
   rw[hb,Ad]at h
   obtain⟨t',h1,h2⟩:=BI.1 h
   rw[<-h2,AQ,AQ,Zx h1 (by simpa using hl)]
theorem Yk{p:Nat}{row piv t:List Rt}(h:RQ p row piv=some t)(hl:row.length=piv.length)(hp:p<=row.length):t.length=row.length:=by
 unfold RQ at h
 cases hb:(Hj (atR row p) (atR piv p)).2 with
 |false=>rw[hb]at h;cases h
 |true=>
  rw[hb,Ad]at h
  obtain⟨t',h1,h2⟩:=BI.1 h
  have:=Zx h1 (by rw[Bt,Bt,hl])
  rw[<-h2,Aw,AJ,this,Bt]
  omega
theorem nC{n L p i:Nat}{m m':Mx}(h:P8 n L m)(hs:VT p m i=some m')(hi:i < n)(hp:p < n)(hpl:p < L):P8 n L m':=by
 unfold VT at hs
 cases h1:i==p with
 |true=>rw[h1]at hs;cases hs;exact h
 |false=>
  rw[h1,Ae]at hs
  cases h2:(atR (CX m i) p).1==0 with
  |true=>rw[h2]at hs;cases hs;exact h
  |false=>
   rw[h2,Ae]at hs
   obtain⟨t,h3,h4⟩:=BI.1 hs
   rw[<-h4]
   exact h.set hi (by rw[Yk h3 (by rw[h.2 i hi,h.2 p hp]) (by rw[h.2 i hi];omega),h.2 i hi])
theorem UI{n L p:Nat}(hp:p < n)(hpl:p < L):∀{j i:Nat}{m m':Mx},i+j=n->P8 n L m->Od p j i m=some m'->P8 n L m'
 |0,_,_,_,_,h,hs=>by cases hs;exact h
 |j+1,i,m,m',hj,h,hs=>by
  rw[Od]at hs
  cases hr:VT p m i with
  |none=>rw[hr]at hs;cases hs
  |some m1=>rw[hr]at hs;exact UI hp hpl (by omega) (nC h hr (by omega) hp hpl) hs
theorem ni{p i f:Nat}{d:Rt×Bool}{m:Mx}{k:Nat}(hi:i < m.length):Au (EE (p:Int) (i:Int) d) (f+1) (m,false,(k:Int))=some (m,false):=by
 rw[By]
 show Ab (AZ m (i:Int)) _=_
 rw[F8 hi]
 simp only[Ab]
 cases decide ((k:Int) < ((CX m i).length:Int))<;>rfl
theorem aa{n L p:Nat}(hp:p < n)(hpl:p < L)(hn:n<=lim)(hL:L<=lim):∀(j i:Nat) (m:Mx) (f:Nat),i+j=n->j < f->P8 n L m->
  (∀m',Od p j i m=some m'->Au (Eh (p:Int)) f (m,(i:Int))=some (.inl m'))∧(Od p j i m=none->∃g,Au (Eh (p:Int)) f (m,(i:Int))=some (.inr (false,g)))
 |0,i,m,f,hj,hf,h=>by
  obtain⟨f,rfl⟩:∃g,f=g+1:=⟨f - 1,by omega⟩
  obtain rfl:i=n:=by omega
  refine⟨λm' hm=>?_,λhm=>by cases hm⟩
  cases hm
  rw[By]
  show cond (decide ((i:Int) < (m.length:Int))) _ _=_
  rw[h.1,Bm];rfl
 |j+1,i,m,f,hj,hf,h=>by
  obtain⟨f,rfl⟩:∃g,f=g+1:=⟨f - 1,by omega⟩
  have hi:i < n:=by omega
  have hiL:=h.2 i hi
  have hJ:∀x:Mx,EZ (Au (Eh (p:Int)) f) (i:Int) x=Au (Eh (p:Int)) f (x,((i+1:Nat):Int)):=λx=>by
   unfold EZ;rw[BG hi (Bq hn)]
  have hq:Eh (p:Int) (Au (Eh (p:Int)) f) (m,(i:Int))=cond (((i:Int))==(p:Int)) (EZ (Au (Eh (p:Int)) f) (i:Int) m) (cond ((atR (CX m i) p).1==0) (EZ (Au (Eh (p:Int)) f) (i:Int) m) (Ab (Au (EE (p:Int) (i:Int) (Hj (atR (CX m i) p) (atR (CX m p) p))) fz (m,(Hj (atR (CX m i) p) (atR (CX m p) p)).2,(p:Int))) λo3=>(match o3 with
    |(z25,z26)=>(cond (!z26) (some (.inr (false,z25))) (EZ (Au (Eh (p:Int)) f) (i:Int) z25))))):=by
   show cond (decide ((i:Int) < (m.length:Int))) _ _=_
   rw[h.1,Br hi,Ad,F8 (by rw[h.1];exact hi),F8 (by rw[h.1];exact hp)]
   simp only[Ab]
   rw[Em (by rw[hiL];exact hpl),Em (by rw[h.2 p hp];exact hpl)]
   simp only[Ab]
   rw[nf]
  rw[By,Od]
  unfold VT
  have hc:((i:Int)==(p:Int))=(i==p):=by
   rw[B5,Bc,Bc];omega
  cases h1:i==p with
  |true=>
   rw[Ad]
   rw[hq,hc,h1,Ad,hJ]
   exact aa hp hpl hn hL j (i+1) m f (by omega) (by omega) h
  |false=>
   rw[Ae]
   rw[hq,hc,h1,Ae]
   cases h2:(atR (CX m i) p).1==0 with
   |true=>
    rw[Ad,Ad,hJ]
    exact aa hp hpl hn hL j (i+1) m f (by omega) (by omega) h
   |false=>
    rw[Ae,Ae]
    unfold RQ
    cases hd:(Hj (atR (CX m i) p) (atR (CX m p) p)).2 with
    |false=>
     rw[Ae,show fz=fz - 1+1 from by unfold fz;rfl,ni (by rw[h.1];exact hi)]
     exact⟨λm' hm=>(by cases hm),λ_=>⟨_,rfl⟩⟩
    |true=>
     rw[Ad]
     have hr:=nh (p:=p) (i:=i) (d:=Hj (atR (CX m i) p) (atR (CX m p) p)) (piv:=CX m p) (L - p) p m fz (by rw[hiL];omega) (by have:=Ho hL;omega) (by rw[hiL];exact hL) (by rw[h.1];exact hi) (by rw[h.1];exact hp) (by simpa using h1) rfl (by rw[h.2 p hp,hiL])
     cases he:elF (Hj (atR (CX m i) p) (atR (CX m p) p)).1 ((CX m i).drop p) ((CX m p).drop p)with
     |none=>
      obtain⟨g,hg⟩:=hr.2 he
      rw[hg]
      exact⟨λm' hm=>(by cases hm),λ_=>⟨g,rfl⟩⟩
     |some t=>
      rw[hr.1 t he]
      have ho:P8 n L (m.set i ((CX m i).take p++t)):=h.set hi (by
       rw[Aw,AJ,Zx he (by rw[Bt,Bt,hiL,h.2 p hp]),Bt,hiL];omega)
      have ih:=aa hp hpl hn hL j (i+1) _ f (by omega) (by omega) ho
      simp only[Ab,An,Ae,B8,hJ]
      exact ih
theorem Vc{m:Mx}{k:Nat}(h:k < m.length):AZ (BW 0 m) (k:Int)=some (k,CX m k):=by
 rw[Qp,Sr,Ac h,GY h,B8,CR]
theorem Xd{α:Type}{m m':List α}(h:m'.length=m.length):YB m'.length (IH m) []=true∧HA m' (IH m)=m':=by
 have e:IH m=IH m':=by rw[NU,NU,h]
 rw[e]
 exact⟨p6 m',my m'⟩
theorem ZK{b:List Rt}{L p:Nat}(hp:p < b.length)(hpl:p < L)(hn:b.length<=lim)(hL:L<=lim):∀(j i:Nat) (m:Mx) (f:Nat),i+j=b.length->j < f->P8 b.length L m->
  Au (LL b (p:Int)) f (m,(i:Int))=some (match Od p j i m with|some m'=>.inl m'|none=>.inr ([],false))
 |0,i,m,f,hj,hf,h=>by
  obtain⟨f,rfl⟩:∃g,f=g+1:=⟨f - 1,by omega⟩
  obtain rfl:i=b.length:=by omega
  rw[By]
  show cond (decide ((b.length:Int) < (b.length:Int))) _ _=_
  rw[Bm];rfl
 |j+1,i,m,f,hj,hf,h=>by
  obtain⟨f,rfl⟩:∃g,f=g+1:=⟨f - 1,by omega⟩
  have hi:i < b.length:=by omega
  have him:i < m.length:=by rw[h.1];exact hi
  have hpm:p < m.length:=by rw[h.1];exact hp
  have hiL:=h.2 i hi
  obtain⟨hk1,hk2⟩:=Xd (m:=m) (m':=m) rfl
  rw[By,Od]
  show cond (decide ((i:Int) < (b.length:Int))) _ _=_
  rw[Br hi,Ad,BG hi (Bq hn)]
  have hc:((i:Int)!=(p:Int))= !(i==p):=by
   rw[B5,C9,Ax,Cn];omega
  rw[hc]
  unfold VT
  cases h1:i==p with
  |true=>
   rw[An,Ae,AX hk1,hk2,Ad]
   exact ZK hp hpl hn hL j (i+1) m f (by omega) (by omega) h
  |false=>
   rw[CJ,Ad,Ae,Vc him,Vc hpm]
   simp only[Ab]
   rw[Em (by rw[hiL];exact hpl)]
   simp only[Ab]
   rw[show((atR (CX m i) p).1 !=0)= !((atR (CX m i) p).1==0)from rfl]
   cases h2:(atR (CX m i) p).1==0 with
   |true=>
    rw[An,Ae,AX hk1,hk2,Ad]
    exact ZK hp hpl hn hL j (i+1) m f (by omega) (by omega) h
   |false=>
    have hne:i≠p:=by simpa using h1
    rw[CJ,Ad,Ae,AX (by
     cases hb:Nat.beq i p with
     |false=>rfl
     |true=>exact absurd (CL hb) hne)]
    have hr:=tK (p:=p) (row:=CX m i) (piv:=CX m p) (by rw[hiL];exact hL) (by rw[h.2 p hp,hiL]) (by rw[hiL];exact hpl)
    cases he:RQ p (CX m i) (CX m p)with
    |none=>
     obtain⟨g,hg⟩:=hr.2 he
     rw[hg]
     simp only[Ab]
     rw[AX (Xd (by unfold DJ;simp)).1]
     rfl
    |some t=>
     rw[hr.1 t he]
     simp only[Ab]
     have e:DJ (DJ m (i:Int) t) (p:Int) (CX m p)=m.set i t:=by
      simp only[DJ,AL]
      rw[List.set_comm _ _ hne,<-GY hpm,List.set_getElem_self]
     rw[e]
     obtain⟨q1,q2⟩:=Xd (m:=m) (m':=m.set i t) (by simp)
     rw[AX q1,q2,An,Ae,B8]
     exact ZK hp hpl hn hL j (i+1) _ f (by omega) (by omega) (h.set hi (by rw[Yk he (by rw[hiL,h.2 p hp]) (by rw[hiL];omega),hiL]))
theorem Z6(m:Mx)(p:Nat):∀(j k:Nat),k<=Nw m p j k∧Nw m p j k<=k+j
 |0,k=>⟨AT _,AT _⟩
 |j+1,k=>by
  rw[Nw]
  cases(atR (CX m k) p).1==0 with
  |true=>rw[Ad];have:=Z6 m p j (k+1);omega
  |false=>rw[Ae];omega
theorem sE{b:List Rt}{L p:Nat}{m:Mx}(h:P8 b.length L m)(hpl:p < L)(hn:b.length<=lim):∀(j k f:Nat),k+j=b.length->j < f->Au (LR b m (p:Int)) f (k:Int)=some ((Nw m p j k:Nat):Int)
 |0,k,f,hk,hf=>by
  obtain⟨f,rfl⟩:∃g,f=g+1:=⟨f - 1,by omega⟩
  obtain rfl:k=b.length:=by omega
  rw[By]
  show cond (decide ((b.length:Int) < (b.length:Int))) _ _=_
  rw[Bm];rfl
 |j+1,k,f,hk,hf=>by
  obtain⟨f,rfl⟩:∃g,f=g+1:=⟨f - 1,by omega⟩
  have hk1:k < b.length:=by omega
  rw[By,Nw]
  show cond (decide ((k:Int) < (b.length:Int))) _ _=_
  rw[Br hk1,Ad,F8 (by rw[h.1];exact hk1)]
  simp only[Ab]
  rw[Em (by rw[h.2 k hk1];exact hpl)]
  simp only[Ab]
  cases(atR (CX m k) p).1==0 with
  |true=>rw[Ad,Ad,BG hk1 (Bq hn)];exact sE h hpl hn j (k+1) f (by omega) (by omega)
  |false=>rfl
theorem rP{b:List Rt}{L p:Nat}{m:Mx}(h:P8 b.length L m)(hpl:p < L)(hn:b.length<=lim):∀(j k f:Nat),k+j=b.length->j < f->Au (LK b m (p:Int)) f (k:Int)=some ((Nw m p j k:Nat):Int)
 |0,k,f,hk,hf=>by
  obtain⟨f,rfl⟩:∃g,f=g+1:=⟨f - 1,by omega⟩
  obtain rfl:k=b.length:=by omega
  rw[By]
  show cond (decide ((b.length:Int) < (b.length:Int))) _ _=_
  rw[Bm];rfl
 |j+1,k,f,hk,hf=>by
  obtain⟨f,rfl⟩:∃g,f=g+1:=⟨f - 1,by omega⟩
  have hk1:k < b.length:=by omega
  rw[By,Nw]
  show cond (decide ((k:Int) < (b.length:Int))) _ _=_
  rw[Br hk1,Ad,F8 (by rw[h.1];exact hk1)]
  simp only[Ab]
  rw[Em (by rw[h.2 k hk1];exact hpl)]
  simp only[Ab]
  cases(atR (CX m k) p).1==0 with
  |true=>rw[Ad,Ad,BG hk1 (Bq hn)];exact rP h hpl hn j (k+1) f (by omega) (by omega)
  |false=>rfl
theorem eO{n L p k:Nat}{m:Mx}(h:P8 n L m)(hp:p < n)(hk:k < n):P8 n L (V4 m p k):=by
 unfold V4
 have e:∀i,m.getD i default=CX m i:=λ_=>rfl
 rw[e,e]
 exact(h.set hk (h.2 p hp)).set hp (h.2 k hk)
theorem Ui{m:Mx}{k:Nat}(h:k < m.length):AZ (IH m) (k:Int)=some k:=by
 rw[NU,Qp,DS h]
theorem Vb{n:Nat}:∀{j p:Nat}{m m':Mx},p+j=n->P8 n (n+1) m->LX n j p m=some m'->P8 n (n+1) m'
 |0,_,_,_,_,h,hg=>by cases hg;exact h
 |j+1,p,m,m',hj,h,hg=>by
  rw[LX]at hg
  have hb:=Z6 m p (n - p) p
  cases hk:Nw m p (n - p) p==n with
  |true=>rw[hk]at hg;cases hg
  |false=>
   rw[hk,Ae]at hg
   have hk':Nw m p (n - p) p≠n:=by simpa using hk
   cases hr:Od p n 0 (V4 m p (Nw m p (n - p) p))with
   |none=>rw[hr]at hg;cases hg
   |some m1=>
    rw[hr]at hg
    exact Vb (by omega) (UI (by omega) (by omega) (by omega) (eO h (by omega) (by omega)) hr) hg
theorem ie{b:List Rt}(hn:b.length<=6):∀(j p:Nat) (m:Mx) (f:Nat),p+j=b.length->j < f->P8 b.length (b.length+1) m->
  Au (LQ b) f (m,(p:Int))=some (match LX b.length j p m with|some m'=>.inl m'|none=>.inr ([],false))
 |0,p,m,f,hj,hf,h=>by
  obtain⟨f,rfl⟩:∃g,f=g+1:=⟨f - 1,by omega⟩
  obtain rfl:p=b.length:=by omega
  rw[By]
  show cond (decide ((b.length:Int) < (b.length:Int))) _ _=_
  rw[Bm];rfl
 |j+1,p,m,f,hj,hf,h=>by
  obtain⟨f,rfl⟩:∃g,f=g+1:=⟨f - 1,by omega⟩
  have hp:p < b.length:=by omega
  have hl:b.length<=lim:=by unfold lim;omega
  have hb:=Z6 m p (b.length - p) p
  rw[By,LX]
  show cond (decide ((p:Int) < (b.length:Int))) _ _=_
  rw[Br hp,Ad,sE h (by omega) hl (b.length - p) p fz (by omega) (by have:=Ho hl;omega)]
  simp only[Ab]
  rw[show(((Nw m p (b.length - p) p:Nat):Int)==(b.length:Int))=(Nw m p (b.length - p) p==b.length)from by rw[B5,Bc,Bc];omega]
  cases hk:Nw m p (b.length - p) p==b.length with
  |true=>rfl
  |false=>
   have hk':Nw m p (b.length - p) p≠b.length:=by simpa using hk
   have hkb:Nw m p (b.length - p) p < m.length:=by rw[h.1];omega
   have hpm:p < m.length:=by rw[h.1];exact hp
   rw[Ae,Ae,Ui hkb,Ui hpm]
   simp only[Ab]
   rw[AX (by rw[NU,BV];omega),AX (by rw[NU];simp[DJ];omega)]
   have e0:DJ (IH m) ((Nw m p (b.length - p) p:Nat):Int) p=(List.range m.length).set (Nw m p (b.length - p) p) p:=by rw[NU];simp only[DJ,AL]
   have e1:DJ (DJ (IH m) ((Nw m p (b.length - p) p:Nat):Int) p) (p:Int) (Nw m p (b.length - p) p)=(List.range m.length).map (sw p (Nw m p (b.length - p) p)):=by
    rw[e0,<-rl hpm hkb];simp only[DJ,AL]
   rw[e1,e0]
   have e2:AZ ((List.range m.length).set (Nw m p (b.length - p) p) p) (p:Int)=some (((List.range m.length).set (Nw m p (b.length - p) p) p)[p]'(by simp;exact hpm)):=Bd _
   rw[e2]
   simp only[Ab]
   rw[AX (sL hpm hkb),nE hpm hkb,AX (by rw[rj];omega)]
   have ho:=eO h hp (show Nw m p (b.length - p) p < b.length by omega)
   have hs:=aa (L:=b.length+1) hp (by omega) hl (by unfold lim;omega) b.length 0 (V4 m p (Nw m p (b.length - p) p)) fz (by omega) (Ho hl) ho
   have hss:(∀m',Od p b.length 0 (V4 m p (Nw m p (b.length - p) p))=some m'->Nn (V4 m p (Nw m p (b.length - p) p)) (p:Int)=some (true,m'))∧(Od p b.length 0 (V4 m p (Nw m p (b.length - p) p))=none->∃g,Nn (V4 m p (Nw m p (b.length - p) p)) (p:Int)=some (false,g)):=by
    unfold Nn
    refine⟨λm' hm=>?_,λhm=>?_⟩
    ·have:=hs.1 m' hm
     rw[show((0:Nat):Int)=0 from rfl]at this
     rw[this];rfl
    ·obtain⟨g,hg⟩:=hs.2 hm
     rw[show((0:Nat):Int)=0 from rfl]at hg
     exact⟨g,by rw[hg];rfl⟩
   cases hr:Od p b.length 0 (V4 m p (Nw m p (b.length - p) p))with
   |none=>
    obtain⟨g,hg⟩:=hss.2 hr
    rw[hg];rfl
   |some m1=>
    rw[hss.1 m1 hr]
    simp only[Ab,An,Ae]
    rw[BG hp (Bq hl)]
    exact ie hn j (p+1) m1 f (by omega) (by omega) (UI hp (by omega) (by omega) ho hr)
theorem fY{b:List Rt}(hn:b.length<=6):∀(j p:Nat) (m:Mx) (f:Nat),p+j=b.length->j < f->P8 b.length (b.length+1) m->
  Au (LJ b) f (m,(p:Int))=some (match LX b.length j p m with|some m'=>.inl m'|none=>.inr ([],false))
 |0,p,m,f,hj,hf,h=>by
  obtain⟨f,rfl⟩:∃g,f=g+1:=⟨f - 1,by omega⟩
  obtain rfl:p=b.length:=by omega
  rw[By]
  show cond (decide ((b.length:Int) < (b.length:Int))) _ _=_
  rw[Bm];rfl
 |j+1,p,m,f,hj,hf,h=>by
  obtain⟨f,rfl⟩:∃g,f=g+1:=⟨f - 1,by omega⟩
  have hp:p < b.length:=by omega
  have hl:b.length<=lim:=by unfold lim;omega
  have hb:=Z6 m p (b.length - p) p
  rw[By,LX]
  show cond (decide ((p:Int) < (b.length:Int))) _ _=_
  rw[Br hp,Ad,rP h (by omega) hl (b.length - p) p fz (by omega) (by have:=Ho hl;omega)]
  simp only[Ab]
  rw[show(((Nw m p (b.length - p) p:Nat):Int)==(b.length:Int))=(Nw m p (b.length - p) p==b.length)from by rw[B5,Bc,Bc];omega]
  cases hk:Nw m p (b.length - p) p==b.length with
  |true=>rfl
  |false=>
   have hk':Nw m p (b.length - p) p≠b.length:=by simpa using hk
   have hkb:Nw m p (b.length - p) p < m.length:=by rw[h.1];omega
   have hpm:p < m.length:=by rw[h.1];exact hp
   rw[Ae,Ae,AX (by rw[NU,BV];omega),Ui hkb,Ui hpm]
   simp only[Ab]
   have e0:DJ (IH m) (p:Int) (Nw m p (b.length - p) p)=(List.range m.length).set p (Nw m p (b.length - p) p):=by rw[NU];simp only[DJ,AL]
   have e1:DJ (DJ (IH m) (p:Int) (Nw m p (b.length - p) p)) ((Nw m p (b.length - p) p:Nat):Int) p=(List.range m.length).map (sw p (Nw m p (b.length - p) p)):=by
    rw[e0,<-nF hpm hkb];simp only[DJ,AL]
   rw[e1,e0]
   have e2:AZ ((List.range m.length).set p (Nw m p (b.length - p) p)) ((Nw m p (b.length - p) p:Nat):Int)=some (((List.range m.length).set p (Nw m p (b.length - p) p))[Nw m p (b.length - p) p]'(by simp;exact hkb)):=Bd _
   rw[e2]
   simp only[Ab]
   rw[AX (sL hpm hkb),nE hpm hkb]
   have ho:=eO h hp (show Nw m p (b.length - p) p < b.length by omega)
   have hs:=ZK (b:=b) (L:=b.length+1) hp (by omega) hl (by unfold lim;omega) b.length 0 (V4 m p (Nw m p (b.length - p) p)) fz (by omega) (Ho hl) ho
   rw[show((0:Nat):Int)=0 from rfl]at hs
   rw[hs]
   cases hr:Od p b.length 0 (V4 m p (Nw m p (b.length - p) p))with
   |none=>rfl
   |some m1=>
    simp only[Ab]
    rw[BG hp (Bq hl)]
    exact fY hn j (p+1) m1 f (by omega) (by omega) (UI hp (by omega) (by omega) ho hr)
theorem R2{α O:Type}{g:Nat->Sum α O}{h:Nat->α}:∀(j k:Nat),(∀i,k<=i->i < k+j->g i=.inl (h i))->JE g j k=.inl ((List.range' k j).map h)
 |0,_,_=>rfl
 |j+1,k,hh=>by
  rw[JE,hh k (AT _) (by omega),R2 j (k+1) (λi h1 h2=>hh i (by omega) (by omega)),Db];rfl
theorem bX{α O:Type}{g:Nat->Sum α O}{o:O}{i:Nat}(hi:g i=.inr o):∀(j k:Nat),(∀i,k<=i->i < k+j->(∃x,g i=.inl x)∨g i=.inr o)->k<=i->i < k+j->JE g j k=.inr o
 |0,k,_,h1,h2=>by omega
 |j+1,k,hh,h1,h2=>by
  rw[JE]
  rcases hh k (AT _) (by omega)with⟨x,hx⟩|hx
  ·rw[hx]
   by_cases e:k=i
   ·subst e;rw[hi]at hx;cases hx
   ·simp only
    rw[bX hi j (k+1) (λi h1 h2=>hh i (by omega) (by omega)) (by omega) (by omega)]
  ·rw[hx]
theorem Yy{α O:Type}(c:Nat->Bool)(h:Nat->α)(o:O)(n:Nat):JE (λk=>cond (c k) (.inl (h k)) (.inr o)) n 0=cond ((List.range n).all c) (.inl ((List.range' 0 n).map h)) (.inr o):=by
 cases hc:(List.range n).all c with
 |true=>
  rw[Ad]
  exact R2 n 0 λi _ hi=>by
   rw[Ah.1 hc i (Ao.2 (by omega))];rfl
 |false=>
  rw[Ae]
  obtain⟨i,hi,hb⟩:=List.all_eq_false.1 hc
  rw[Ao]at hi
  have hb:c i=false:=by simpa using hb
  refine bX (i:=i) (by rw[hb];rfl) n 0 (λi _ _=>?_) (by omega) (by omega)
  cases c i with
  |true=>exact .inl ⟨_,rfl⟩
  |false=>exact .inr rfl
theorem wx(b:List Rt):(List.range b.length).all (λk=>Ee (atR b k))=b.all Ee:=by
 rw[B5,Ah,Ah]
 constructor
 ·intro h x hx
  obtain⟨i,hi,rfl⟩:=BO hx
  rw[LV hi];exact h i (Ao.2 hi)
 ·intro h i hi
  rw[Ao]at hi
  rw[<-LV hi];exact h _ (Aj hi)
theorem ww(a:Mx)(f:List Rt->Bool):(List.range a.length).all (λk=>f (CX a k))=a.all f:=by
 rw[B5,Ah,Ah]
 constructor
 ·intro h x hx
  obtain⟨i,hi,rfl⟩:=BO hx
  rw[GY hi];exact h i (Ao.2 hi)
 ·intro h i hi
  rw[Ao]at hi
  rw[<-GY hi];exact h _ (Aj hi)
theorem jZ{a:Mx}{b:List Rt}(h:PF a b=true):P8 b.length (b.length+1) (Oq a b):=by
 unfold PF at h
 simp only[Aa,Bc]at h
 refine⟨by unfold Oq;simp,λi hi=>?_⟩
 have ha:i < a.length:=by rw[h.1];exact hi
 have hr:=Ah.1 h.2.1 _ (Aj ha)
 unfold rowOk at hr
 rw[Aa,Bc,GY ha]at hr
 unfold Oq
 have:CX ((List.range' 0 b.length).map λk=>CX a k++[atR b k]) i=CX a i++[atR b i]:=by
  rw[<-GY (by simp;exact hi),Be]
  simp
 rw[this,Aw,hr.1];rfl
theorem zV{b:List Rt}{m:Mx}(h:P8 b.length (b.length+1) m)(hl:b.length<=lim):Au (LT b m) fz ([],0)=some (JE (Qa b.length m) b.length 0):=by
 rw[show(([]:List Rt),(0:Int))=(λ(s:List Rt) (k:Nat)=>(s,(k:Int))) [] 0 from rfl,
  Ep (n:=b.length) (O:=List Rt×Bool) (λs k=>(s,(k:Int))) (λk s=>s.length=k) (λk s=>aF s (Qa b.length m k)) id hl (λrec s k hk hi=>?_) (λrec s hi=>?_) (λk s s' hk hi hs=>?_) [] rfl]
 ·rw[Pr]
  cases JE (Qa b.length m) b.length 0<;>rfl
 ·show cond (decide ((s:Int) < (b.length:Int))) _ _=_
  rw[Br hk,Ad,F8 (by rw[h.1];exact hk)]
  simp only[Ab]
  rw[Em (by rw[h.2 s hk];omega),Em (by rw[h.2 s hk];omega)]
  simp only[Ab]
  rw[nf]
  simp only[Ab]
  unfold Qa
  cases(Hj (atR (CX m s) b.length) (atR (CX m s) s)).2 with
  |false=>rfl
  |true=>
   rw[An,Ae,AX (by rw[hi,Ay];unfold lim at hl⊢;omega),BG hk (Bq hl)]
   rfl
 ·show cond (decide ((b.length:Int) < (b.length:Int))) _ _=_
  rw[Bm];rfl
 ·unfold Qa at hs
  cases hc:(Hj (atR (CX m k) b.length) (atR (CX m k) k)).2 with
  |false=>rw[hc]at hs;cases hs
  |true=>rw[hc]at hs;cases hs;rw[Aw,hi];rfl
theorem xj{b:List Rt}{m:Mx}(h:P8 b.length (b.length+1) m)(hl:b.length<=lim):Au (LM b m) fz ([],0)=some (JE (Qa b.length m) b.length 0):=by
 rw[show(([]:List Rt),(0:Int))=(λ(s:List Rt) (k:Nat)=>(s,(k:Int))) [] 0 from rfl,
  Ep (n:=b.length) (O:=List Rt×Bool) (λs k=>(s,(k:Int))) (λk s=>s.length=k) (λk s=>aF s (Qa b.length m k)) id hl (λrec s k hk hi=>?_) (λrec s hi=>?_) (λk s s' hk hi hs=>?_) [] rfl]
 ·rw[Pr]
  cases JE (Qa b.length m) b.length 0<;>rfl
 ·show cond (decide ((s:Int) < (b.length:Int))) _ _=_
  rw[Br hk,Ad,F8 (by rw[h.1];exact hk)]
  simp only[Ab]
  rw[Em (by rw[h.2 s hk];omega),Em (by rw[h.2 s hk];omega)]
  simp only[Ab]
  rw[lj]
  simp only[Ab]
  unfold Qa
  cases(Hj (atR (CX m s) b.length) (atR (CX m s) s)).2 with
  |false=>rfl
  |true=>
   rw[An,Ae,AX (by rw[hi,Ay];unfold lim at hl⊢;omega),BG hk (Bq hl)]
   rfl
 ·show cond (decide ((b.length:Int) < (b.length:Int))) _ _=_
  rw[Bm];rfl
 ·unfold Qa at hs
  cases hc:(Hj (atR (CX m k) b.length) (atR (CX m k) k)).2 with
  |false=>rw[hc]at hs;cases hs
  |true=>rw[hc]at hs;cases hs;rw[Aw,hi];rfl
theorem zH{a:Mx}{b:List Rt}(hl:b.length<=6)(ha:a.length=b.length)(hr:a.all (rowOk b.length)=true):Au (LN a b) fz ([],0)=some (cond (b.all Ee) (.inl (Oq a b)) (.inr ([],false))):=by
 have hn:b.length<=lim:=by unfold lim;omega
 rw[show(([]:Mx),(0:Int))=(λ(s:Mx) (k:Nat)=>(s,(k:Int))) [] 0 from rfl,
  Ep (n:=b.length) (O:=List Rt×Bool) (λs k=>(s,(k:Int))) (λk s=>s.length=k) (λk s=>aF s (cond (Ee (atR b k)) (.inl (CX a k++[atR b k])) (.inr ([],false)):Sum (List Rt) (List Rt×Bool))) id hn (λrec s k hk hi=>?_) (λrec s hi=>?_) (λk s s' hk hi hs=>?_) [] rfl]
 ·rw[Pr,Yy,wx]
  unfold Oq
  cases b.all Ee<;>rfl
 ·have hka:s < a.length:=by rw[ha];exact hk
  have hrl:=Ah.1 hr _ (Aj hka)
  unfold rowOk at hrl
  rw[Aa,Bc,GY hka]at hrl
  show cond (decide ((s:Int) < (b.length:Int))) _ _=_
  rw[Br hk,Ad,Em hk]
  simp only[Ab]
  rw[PW]
  simp only[Ab]
  cases Ee (atR b s)with
  |false=>rfl
  |true=>
   rw[An,Ae,F8 hka]
   simp only[Ab]
   rw[AX (by rw[hrl.1];simp;unfold lim;omega),AX (by rw[Bl,hrl.1,Ay];unfold lim;omega),AX (by rw[hi,Ay];unfold lim;omega),BG hk (Bq hn),Bl]
   rfl
 ·show cond (decide ((b.length:Int) < (b.length:Int))) _ _=_
  rw[Bm];rfl
 ·cases hc:Ee (atR b k)with
  |false=>rw[hc]at hs;cases hs
  |true=>rw[hc]at hs;cases hs;rw[Aw,hi];rfl
theorem w3{a:Mx}{b:List Rt}(hl:b.length<=6)(ha:a.length=b.length):Au (LI a b) fz ([],0)=some (cond (a.all (rowOk b.length)) (.inl (Oq a b)) (.inr ([],false))):=by
 have hn:b.length<=lim:=by unfold lim;omega
 rw[show(([]:Mx),(0:Int))=(λ(s:Mx) (k:Nat)=>(s,(k:Int))) [] 0 from rfl,
  Ep (n:=b.length) (O:=List Rt×Bool) (λs k=>(s,(k:Int))) (λk s=>s.length=k) (λk s=>aF s (cond (rowOk b.length (CX a k)) (.inl (CX a k++[atR b k])) (.inr ([],false)):Sum (List Rt) (List Rt×Bool))) id hn (λrec s k hk hi=>?_) (λrec s hi=>?_) (λk s s' hk hi hs=>?_) [] rfl]
 ·rw[Pr,Yy,<-ha,ww,ha]
  unfold Oq
  cases a.all (rowOk b.length)<;>rfl
 ·have hka:s < a.length:=by rw[ha];exact hk
  show cond (decide ((s:Int) < (a.length:Int))) _ _=_
  rw[Br hka,Ad,F8 hka]
  simp only[Ab]
  unfold rowOk
  by_cases hrl:(CX a s).length=b.length
  ·rw[hrl,Di,Ae,Bu,AD,Vd (by rw[hrl];exact hn)]
   simp only[Ab]
   cases(CX a s).all Ee with
   |false=>rfl
   |true=>
    rw[An,Ae]
    unfold Hn
    rw[AX (by rw[hrl];simp;unfold lim;omega),Bl]
    simp only[Ab]
    rw[Em hk]
    simp only[Ab]
    rw[AX (by rw[hrl,Ay];unfold lim;omega),AX (by rw[hi,Ay];unfold lim;omega),BG hk (Bq hn)]
    rfl
  ·rw[show(((CX a s).length:Int)!=(b.length:Int))=true from by rw[C9];omega,Ad,show((CX a s).length==b.length)=false from by simpa using hrl]
   rfl
 ·show cond (decide ((b.length:Int) < (a.length:Int))) _ _=_
  rw[ha,Bm];rfl
 ·cases hc:rowOk b.length (CX a k)with
  |false=>rw[hc]at hs;cases hs
  |true=>rw[hc]at hs;cases hs;rw[Aw,hi];rfl
theorem zT{a:Mx}{b:List Rt}(ha:a.length<=lim)(hb:b.length<=lim):Hc a b=some (KF a b):=by
 unfold Hc KF
 cases h6:decide (6 < (b.length:Int))with
 |true=>rfl
 |false=>
  have hl:b.length<=6:=by have:=EB h6;omega
  rw[Ae,Ae,nj ha hb]
  simp only[Ab]
  unfold PF
  by_cases hal:a.length=b.length
  ·rw[hal,Bu,Bu,AD,CC]
   cases hr:a.all (rowOk b.length)with
   |false=>rfl
   |true=>
    rw[An,Ae,zH hl hal hr,AD]
    simp only[Ab]
    cases hv:b.all Ee with
    |false=>rfl
    |true=>
     rw[Ad,Ad]
     have ho:=jZ (a:=a) (b:=b) (by unfold PF;rw[hal,Bu,hr,hv];rfl)
     have hg:=ie hl b.length 0 (Oq a b) fz (by omega) (Ho hb) ho
     rw[show((0:Nat):Int)=0 from rfl]at hg
     simp only[Ab]
     rw[hg]
     cases hm:LX b.length b.length 0 (Oq a b)with
     |none=>rfl
     |some m=>
      simp only[Ab]
      rw[zV (Vb (by omega) ho hm) hb]
      simp only[Ab]
      cases JE (Qa b.length m) b.length 0<;>rfl
  ·rw[show((a.length:Int)==(b.length:Int))=false from by rw[Cn];omega,FX,show(a.length==b.length)=false from by simpa using hal]
   rfl
theorem xi{a:Mx}{b:List Rt}(hb:b.length<=lim):G1 a b=some (KF a b):=by
 unfold G1 KF
 cases h6:decide (6 < (b.length:Int))with
 |true=>rfl
 |false=>
  have hl:b.length<=6:=by have:=EB h6;omega
  rw[Ae,Ae]
  unfold PF
  by_cases hal:a.length=b.length
  ·rw[hal,Di,Bu,AD,Ae,Vd hb]
   simp only[Ab]
   cases hv:b.all Ee with
   |false=>rw[FX];rfl
   |true=>
    rw[An,Ae,w3 hl hal,CC]
    simp only[Ab]
    cases hr:a.all (rowOk b.length)with
    |false=>rfl
    |true=>
     rw[Ad,Ad]
     have ho:=jZ (a:=a) (b:=b) (by unfold PF;rw[hal,Bu,hr,hv];rfl)
     have hg:=fY hl b.length 0 (Oq a b) fz (by omega) (Ho hb) ho
     rw[show((0:Nat):Int)=0 from rfl]at hg
     simp only[Ab]
     rw[hg]
     cases hm:LX b.length b.length 0 (Oq a b)with
     |none=>rfl
     |some m=>
      simp only[Ab]
      rw[xj (Vb (by omega) ho hm) hb]
      simp only[Ab]
      cases JE (Qa b.length m) b.length 0<;>rfl
  ·rw[show((a.length:Int)!=(b.length:Int))=true from by rw[C9];omega,show(a.length==b.length)=false from by simpa using hal]
   rfl
theorem Us{α O:Type}{P:O->Prop}{g:Nat->Sum α O}(h:∀k o,g k=.inr o->P o):∀{j k:Nat}{o:O},JE g j k=.inr o->P o
 |0,_,_,e=>by cases e
 |j+1,k,o,e=>by
  rw[JE]at e
  cases hg:g k with
  |inr o'=>rw[hg]at e;cases e;exact h k _ hg
  |inl x=>
   rw[hg]at e
   cases hm:JE g j (k+1)with
   |inl l=>simp only[hm]at e;cases e
   |inr o'=>simp only[hm]at e;cases e;exact Us h hm
theorem io{a:Mx}{b x:List Rt}(h:KF a b=(x,true)):x.length=b.length:=by
 unfold KF at h
 cases h6:decide (6 < (b.length:Int))with
 |true=>rw[h6]at h;cases h
 |false=>
  rw[h6,Ae]at h
  cases hs:PF a b with
  |false=>rw[hs]at h;cases h
  |true=>
   rw[hs,Ad]at h
   cases hg:LX b.length b.length 0 (Oq a b)with
   |none=>rw[hg]at h;cases h
   |some m=>
    rw[hg]at h
    cases hm:JE (Qa b.length m) b.length 0 with
    |inl y=>simp only[hm]at h;cases h;exact Ut hm
    |inr o=>
     simp only[hm]at h
     exfalso
     have:=Us (P:=λo=>o.2=false) (g:=Qa b.length m) (λk o ho=>by
      unfold Qa at ho
      cases hc:(Hj (atR (CX m k) b.length) (atR (CX m k) k)).2 with
      |false=>rw[hc]at ho;cases ho;rfl
      |true=>rw[hc]at ho;cases ho) hm
     rw[h]at this;cases this
abbrev LP:=Mx×List Rt×List Rt
def fI:Rt×Bool:=((0,0),false)
def Ua(a b:List Rt)(k:Nat)(x:Rt):Sum Rt (Rt×Bool):=cond (D9 (atR a k) (atR b k)).2 (cond (Nj x (D9 (atR a k) (atR b k)).1).2 (.inl (Nj x (D9 (atR a k) (atR b k)).1).1) (.inr fI)) (.inr fI)
def Gt(a b:List Rt):Rt×Bool:=cond ((a.length:Int)!=(b.length:Int)) fI (match Lf (Ua a b) a.length 0 (0,1)with
 |.inl x=>(x,true)
 |.inr o=>o)
theorem sD{a b:List Rt}(h:a.length<=lim):J8 a b=some (Gt a b):=by
 unfold J8 Gt
 cases hc:(a.length:Int)!=(b.length:Int)with
 |true=>rfl
 |false=>
  have hb:a.length=b.length:=by have:=Eo.1 hc;omega
  rw[Ae,Ae]
  have hr:=Ep (B:=Pv a b) (n:=a.length) (λ(s:Rt) k=>(s.1,s.2,(k:Int))) (λ_ _=>True) (Ua a b) (λo=>match o with|.inl x=>.inl (x.1,x.2)|.inr o=>.inr o) h (λrec k s hk _=>by
   show cond (decide ((k:Int) < (a.length:Int))) _ _=_
   rw[Br hk,Ad,Em hk,Em (by rw[<-hb];exact hk)]
   simp only[Ab]
   rw[ng]
   simp only[Ab]
   unfold Ua
   cases(D9 (atR a k) (atR b k)).2 with
   |false=>rfl
   |true=>
    rw[An,Ae,na]
    simp only[Ab]
    rw[BG hk (Bq h)]
    cases hq:(Nj s (D9 (atR a k) (atR b k)).1).2 with
    |false=>simp only[hq,Ad,Ae,CJ];rfl
    |true=>simp only[hq,Ad,Ae,An]) (λrec s _=>by
   show cond (decide ((a.length:Int) < (a.length:Int))) _ _=_
   rw[Bm];rfl) (λ_ _ _ _ _ _=>trivial) (0,1) trivial
  rw[show((0:Int),(1:Int),(0:Int))=(((0,1):Rt).1,((0,1):Rt).2,((0:Nat):Int))from rfl,hr]
  simp only[Ab]
  cases Lf (Ua a b) a.length 0 (0,1)<;>rfl
theorem w8{a b:List Rt}(h:a.length<=lim):Mp a b=some (Gt a b):=by
 unfold Mp Gt
 cases hc:(a.length:Int)!=(b.length:Int)with
 |true=>rfl
 |false=>
  have hb:a.length=b.length:=by have:=Eo.1 hc;omega
  rw[Ae,Ae]
  have hr:=Ep (B:=Pc a b) (n:=a.length) (λ(s:Rt) k=>(s.1,s.2,(k:Int))) (λ_ _=>True) (Ua a b) (λo=>match o with|.inl x=>.inl (x.1,x.2)|.inr o=>.inr o) h (λrec k s hk _=>by
   show cond (decide ((k:Int) < (a.length:Int))) _ _=_
   rw[Br hk,Ad,Em hk,Em (by rw[<-hb];exact hk)]
   simp only[Ab]
   rw[lm]
   simp only[Ab]
   rw[dJ]
   simp only[Ab]
   unfold Ua
   rw[BG hk (Bq h)]
   cases(D9 (atR a k) (atR b k)).2 with
   |false=>rfl
   |true=>
    cases hq:(Nj s (D9 (atR a k) (atR b k)).1).2 with
    |false=>simp only[hq,Ad,Ae,CJ,An];rfl
    |true=>simp only[hq,Ad,Ae,An]) (λrec s _=>by
   show cond (decide ((a.length:Int) < (a.length:Int))) _ _=_
   rw[Bm];rfl) (λ_ _ _ _ _ _=>trivial) (0,1) trivial
  rw[show((0:Int),(1:Int),(0:Int))=(((0,1):Rt).1,((0,1):Rt).2,((0:Nat):Int))from rfl,hr]
  simp only[Ab]
  cases Lf (Ua a b) a.length 0 (0,1)<;>rfl
def X6(a:Mx)(x:List Rt)(k:Nat):Sum Rt (List Rt×Bool):=cond (Gt (CX a k) x).2 (.inl (Gt (CX a k) x).1) (.inr ([],false))
def S4(a:Mx)(x:List Rt):List Rt×Bool:=match JE (X6 a x) a.length 0 with
 |.inl l=>(l,true)
 |.inr o=>o
theorem uM(a:Mx)(x:List Rt){k:Nat}{o:List Rt×Bool}(h:X6 a x k=.inr o):o=([],false):=by
 unfold X6 at h
 cases hc:(Gt (CX a k) x).2 with
 |true=>rw[hc]at h;cases h
 |false=>rw[hc]at h;cases h;rfl
theorem gE(a:Mx)(x:List Rt):(S4 a x).1.length<=a.length∧((S4 a x).2=true->(S4 a x).1.length=a.length)∧((S4 a x).2=false->(S4 a x).1=[]):=by
 unfold S4
 cases h:JE (X6 a x) a.length 0 with
 |inl l=>exact⟨Nat.le_of_eq (Ut h),λ_=>Ut h,λh=>by cases h⟩
 |inr o=>
  have:=Us (P:=λo=>o=([],false)) (λk o ho=>uM a x ho) h
  subst this
  exact⟨CB _,(λh=>by cases h),λ_=>rfl⟩
theorem Aa3{a:Mx}{x:List Rt}(h:a.length<=lim)(hr:∀k,k < a.length->(CX a k).length<=lim):F6 a x=some (S4 a x):=by
 unfold F6 S4
 have hl:=Ep (B:=KJ a x) (n:=a.length) (O:=List Rt×Bool) (λ(s:List Rt) k=>(s,(k:Int))) (λk s=>s.length=k) (λk s=>aF s (X6 a x k)) id h (λrec k s hk hi=>by
  show cond (decide ((k:Int) < (a.length:Int))) _ _=_
  rw[Br hk,Ad,F8 hk]
  simp only[Ab]
  rw[sD (hr k hk)]
  simp only[Ab]
  unfold X6
  cases(Gt (CX a k) x).2 with
  |false=>rfl
  |true=>
   rw[An,Ae,AX (by rw[hi,Ay];unfold lim at h⊢;omega),BG hk (Bq h)]
   rfl) (λrec s hi=>by
  show cond (decide ((a.length:Int) < (a.length:Int))) _ _=_
  rw[Bm];rfl) (λk s s' hk hi hs=>by
  unfold X6 at hs
  cases hc:(Gt (CX a k) x).2 with
  |false=>rw[hc]at hs;cases hs
  |true=>rw[hc]at hs;cases hs;rw[Aw,hi];rfl) [] rfl
 rw[show((0:Nat):Int)=0 from rfl]at hl
 rw[hl,Pr]
 cases JE (X6 a x) a.length 0<;>rfl
theorem AaI{a:Mx}{x:List Rt}(h:a.length<=lim)(hr:∀k,k < a.length->(CX a k).length<=lim):F1 a x=some (S4 a x):=by
 unfold F1 S4
 have hl:=Ep (B:=Ky a x) (n:=a.length) (O:=List Rt×Bool) (λ(s:List Rt) k=>(s,(k:Int))) (λk s=>s.length=k) (λk s=>aF s (X6 a x k)) id h (λrec k s hk hi=>by
  show cond (decide ((k:Int) < (a.length:Int))) _ _=_
  rw[Br hk,Ad,F8 hk]
  simp only[Ab]
  rw[w8 (hr k hk)]
  simp only[Ab]
  unfold X6
  cases(Gt (CX a k) x).2 with
  |false=>rfl
  |true=>
   rw[An,Ae,AX (by rw[hi,Ay];unfold lim at h⊢;omega),BG hk (Bq h)]
   rfl) (λrec s hi=>by
  show cond (decide ((a.length:Int) < (a.length:Int))) _ _=_
  rw[Bm];rfl) (λk s s' hk hi hs=>by
  unfold X6 at hs
  cases hc:(Gt (CX a k) x).2 with
  |false=>rw[hc]at hs;cases hs
  |true=>rw[hc]at hs;cases hs;rw[Aw,hi];rfl) [] rfl
 rw[show((0:Nat):Int)=0 from rfl]at hl
 rw[hl,Pr]
 cases JE (X6 a x) a.length 0<;>rfl
def OT(p:LP):Bool:=FI (p.2.2.length:Int) 1 5&&(FI (p.2.1.length:Int) 1 5&&((p.1.length==p.2.1.length)&&(p.1.all (rowOk p.2.2.length)&&(p.2.1.all Ee&&p.2.2.all Ee))))
def XB(p:LP):Prop:=p.1.length<=lim∧p.2.1.length<=lim∧p.2.2.length<=lim
theorem one_row(n:Nat)(r:List Rt):[r].all (rowOk n)=rowOk n r:=by simp
theorem vt{p:LP}(h:XB p):Eb p=some (OT p):=by
 unfold Eb OT
 rw[L7]
 simp only[Ab]
 cases FI (p.2.2.length:Int) 1 5 with
 |false=>rfl
 |true=>
  rw[Ad,L7,AD]
  simp only[Ab]
  cases FI (p.2.1.length:Int) 1 5 with
  |false=>rfl
  |true=>
   rw[Ad,nj h.1 h.2.2,AD]
   simp only[Ab]
   rw[show(((p.1.length:Int))==(p.2.1.length:Int))=(p.1.length==p.2.1.length)from by rw[B5,Bc,Bc];omega]
   cases p.1.length==p.2.1.length with
   |false=>rw[FX];rfl
   |true=>
    rw[CC,AD]
    cases p.1.all (rowOk p.2.2.length)with
    |false=>rfl
    |true=>
     rw[Ad,nj (by simp[lim]) h.2.2,one_row,AD]
     simp only[Ab]
     unfold rowOk
     rw[Bu,AD,show((([p.2.2].length:Nat):Int)==1)=true from rfl,CC]
     cases p.2.2.all Ee with
     |false=>rw[FX];rfl
     |true=>
      rw[Ad,nj (by simp[lim]) h.2.1,one_row,CC]
      simp only[Ab]
      unfold rowOk Dc
      rw[Bu,AD,show((([p.2.1].length:Nat):Int)==1)=true from rfl,CC]
theorem xd{p:LP}(h:XB p):EH p=some (OT p):=by
 unfold EH OT
 rw[FN]
 simp only[Ab]
 cases FI (p.2.2.length:Int) 1 5 with
 |false=>rfl
 |true=>
  rw[An,Ae,FN,AD]
  simp only[Ab]
  cases FI (p.2.1.length:Int) 1 5 with
  |false=>rfl
  |true=>
   rw[An,Ae,AD]
   by_cases he:p.1.length=p.2.1.length
   ·rw[he,Di,Ae,Bu,AD,Vd h.2.1]
    simp only[Ab]
    cases p.2.1.all Ee with
    |false=>simp
    |true=>
     rw[An,Ae,Vd h.2.2,AD]
     simp only[Ab]
     cases p.2.2.all Ee with
     |false=>rw[FX];rfl
     |true=>
      rw[An,Ae,CC,Gu (n:=p.1.length) (λk=>It p.1 k λr=> !rowOk p.2.2.length r) false h.1 (λk hk rec=>by
       show cond (decide ((k:Int) < (p.1.length:Int))) _ _=_
       rw[Br hk,Ad,F8 hk,Cu hk,GY hk]
       simp only[Ab]
       unfold rowOk
       by_cases hl:(CX p.1 k).length=p.2.2.length
       ·rw[hl,Di,Ae,Bu,AD,Vd (by rw[hl];exact h.2.2),BG hk (Bq h.1)]
       ·rw[show(((CX p.1 k).length:Int)!=(p.2.2.length:Int))=true from by rw[C9];omega,Ad,show((CX p.1 k).length==p.2.2.length)=false from by simpa using hl]
        rfl) (λrec=>by
       show cond (decide ((p.1.length:Int) < (p.1.length:Int))) _ _=_
       rw[Bm];rfl)]
      rw[Tp,not_any]
      cases p.1.all (rowOk p.2.2.length)<;>rfl
   ·rw[show((p.1.length:Int)!=(p.2.1.length:Int))=true from by rw[C9];omega,show(p.1.length==p.2.1.length)=false from by simpa using he]
    rfl
def VR(p:LP)(x:List Rt)(sg:Int)(k:Nat):Bool:=decide (wZ (Vr (atR (S4 p.1 x).1 k) (atR p.2.1 k) * sg) < 0)
def Lh(p:LP)(x:List Rt)(sg:Int):Bool:=OT p&&((x.length==p.2.2.length)&&((x.all λr=>Ee r&&decide (0<=r.1))&&((S4 p.1 x).2&& !((List.range (S4 p.1 x).1.length).any (VR p x sg)))))
theorem K1{p:LP}(h:OT p=true):1<=p.2.2.length∧p.2.2.length<=5∧1<=p.2.1.length∧p.2.1.length<=5∧p.1.length=p.2.1.length∧(∀k,k < p.1.length->(CX p.1 k).length=p.2.2.length):=by
 unfold OT at h
 simp only[Aa,Fq,Bc]at h
 refine⟨by omega,by omega,by omega,by omega,h.2.2.1,λk hk=>?_⟩
 have:=Ah.1 h.2.2.2.1 _ (Aj hk)
 unfold rowOk at this
 rw[Aa,Bc,GY hk]at this
 exact this.1
theorem lR{p:LP}(h:OT p=true):p.1.length<=lim∧∀k,k < p.1.length->(CX p.1 k).length<=lim:=by
 obtain⟨h1,h2,h3,h4,h5,h6⟩:=K1 h
 refine⟨by rw[h5];unfold lim;omega,λk hk=>by rw[h6 k hk];unfold lim;omega⟩
theorem vC{p:LP}{x:List Rt}{sg:Int}(h:XB p)(hx:x.length<=lim):OW p x sg=some (Lh p x sg):=by
 unfold OW Lh
 rw[vt h]
 simp only[Ab]
 cases hv:OT p with
 |false=>rfl
 |true=>
  obtain⟨h1,h2,h3,h4,h5,h6⟩:=K1 hv
  obtain⟨h7,h8⟩:=lR hv
  rw[An,Ae,AD]
  by_cases he:x.length=p.2.2.length
  ·rw[he,Di,Ae,Bu,AD,Gu (n:=x.length) (λk=>It x k λr=> !(Ee r&&decide (0<=r.1))) false hx (λk hk rec=>by
    show cond (decide ((k:Int) < (x.length:Int))) _ _=_
    rw[Br hk,Ad,Em hk,Cu hk,LV hk]
    simp only[Ab]
    rw[PW]
    simp only[Ab]
    cases Ee (atR x k)with
    |false=>rfl
    |true=>
     rw[An,Ae,AD,BG hk (Bq hx)]
     by_cases hn:(atR x k).1 < 0
     ·rw[Ai hn,Ag (by omega)];rfl
     ·rw[Ag hn,Ai (by omega)];rfl) (λrec=>by
    show cond (decide ((x.length:Int) < (x.length:Int))) _ _=_
    rw[Bm];rfl)]
   rw[Tp,not_any]
   cases x.all (λr=>Ee r&&decide (0<=r.1))with
   |false=>rfl
   |true=>
    rw[An,Ae,AD]
    simp only[Ab]
    rw[Aa3 h7 h8]
    simp only[Ab]
    have hm:=gE p.1 x
    have hml:(S4 p.1 x).1.length<=lim:=BD hm.1 h7
    rw[Gu (n:=(S4 p.1 x).1.length) (VR p x sg) false hml (λk hk rec=>by
     show cond (decide ((k:Int) < ((S4 p.1 x).1.length:Int))) _ _=_
     rw[Br hk,Ad,Em hk,Em (by rw[<-h5];omega)]
     simp only[Ab]
     rw[ne]
     simp only[Ab]
     rw[BG hk (Bq hml)];rfl) (λrec=>by
     show cond (decide (((S4 p.1 x).1.length:Int) < ((S4 p.1 x).1.length:Int))) _ _=_
     rw[Bm];rfl)]
    cases hq:(S4 p.1 x).2 with
    |true=>
     cases(List.range (S4 p.1 x).1.length).any (VR p x sg)<;>simp[Ab,hq]
    |false=>
     rw[hm.2.2 hq];simp[Ab,hq]
  ·rw[show((x.length:Int)!=(p.2.2.length:Int))=true from by rw[C9];omega,show(x.length==p.2.2.length)=false from by simpa using he]
   rfl
theorem tT{p:LP}{x:List Rt}{sg:Int}(h:XB p)(hx:x.length<=lim):NS p x sg=some (Lh p x sg):=by
 unfold NS Lh
 rw[xd h]
 simp only[Ab]
 cases hv:OT p with
 |false=>rfl
 |true=>
  obtain⟨h1,h2,h3,h4,h5,h6⟩:=K1 hv
  obtain⟨h7,h8⟩:=lR hv
  rw[An,Ae,AD]
  by_cases he:x.length=p.2.2.length
  ·rw[he,Di,Ae,Bu,AD,Vd hx]
   simp only[Ab]
   have hs:(x.all λr=>Ee r&&decide (0<=r.1))=(x.all Ee&&x.all λr=>decide (0<=r.1)):=by
    rw[B5]
    simp only[Ah,Aa]
    exact⟨λh=>⟨λr hr=>(h r hr).1,λr hr=>(h r hr).2⟩,λh r hr=>⟨h.1 r hr,h.2 r hr⟩⟩
   rw[hs]
   cases x.all Ee with
   |false=>rfl
   |true=>
    rw[An,Ae,AD,Gu (n:=x.length) (λk=>It x k λr=> !decide (0<=r.1)) false hx (λk hk rec=>by
     show cond (decide ((k:Int) < (x.length:Int))) _ _=_
     rw[Br hk,Ad,Em hk,Cu hk,LV hk]
     simp only[Ab]
     rw[BG hk (Bq hx)]
     by_cases hn:(atR x k).1 < 0
     ·rw[Ai hn,Ag (by omega)];rfl
     ·rw[Ag hn,Ai (by omega)];rfl) (λrec=>by
     show cond (decide ((x.length:Int) < (x.length:Int))) _ _=_
     rw[Bm];rfl)]
    rw[Tp,not_any]
    cases x.all (λr=>decide (0<=r.1))with
    |false=>rfl
    |true=>
     rw[An,Ae,AD]
     simp only[Ab]
     rw[AaI h7 h8]
     simp only[Ab]
     have hm:=gE p.1 x
     have hml:(S4 p.1 x).1.length<=lim:=BD hm.1 h7
     cases hq:(S4 p.1 x).2 with
     |false=>simp
     |true=>
      rw[An,Ae,AD,Gu (n:=(S4 p.1 x).1.length) (VR p x sg) false hml (λk hk rec=>by
       show cond (decide ((k:Int) < ((S4 p.1 x).1.length:Int))) _ _=_
       rw[Br hk,Ad,Em hk,Em (by rw[<-h5];omega)]
       simp only[Ab]
       rw[tP]
       simp only[Ab]
       rw[BG hk (Bq hml),Int.mul_comm];rfl) (λrec=>by
       show cond (decide (((S4 p.1 x).1.length:Int) < ((S4 p.1 x).1.length:Int))) _ _=_
       rw[Bm];rfl)]
      cases(List.range (S4 p.1 x).1.length).any (VR p x sg)<;>rfl
  ·rw[show((x.length:Int)!=(p.2.2.length:Int))=true from by rw[C9];omega,show(x.length==p.2.2.length)=false from by simpa using he]
   rfl
theorem fD:∀{a b:List Rt},a.length=b.length->((List.range a.length).any λk=> !((atR a k).1==(atR b k).1&&(atR a k).2==(atR b k).2))= !(a==b)
 |a,b,h=>by
  rw[B5,Bi,Ax]
  constructor
  ·rintro⟨k,hk,hb⟩
   rw[Ao]at hk
   rw[Cn]
   rintro rfl
   simp at hb
  ·intro hne
   rw[Cn]at hne
   refine Cp λhc=>hne (CD h λk h1 h2=>?_)
   rw[LV h1,LV h2]
   have:¬(!((atR a k).1==(atR b k).1&&(atR a k).2==(atR b k).2))=true:=λhb=>hc ⟨k,Ao.2 h1,hb⟩
   rw[Ax,IN,Aa,Bc,Bc]at this
   exact Prod.ext this.1 this.2
theorem lG{a b:List Rt}(h:a.length≠b.length):(a==b)=false:=by
 rw[Cn];rintro rfl;exact h rfl
theorem zK{a b:List Rt}(h:a.length<=lim):IS a b=some (a==b):=by
 unfold IS
 by_cases he:a.length=b.length
 ·rw[he,Di,Ae,Gu (n:=a.length) (λk=> !((atR a k).1==(atR b k).1&&(atR a k).2==(atR b k).2)) false h (λk hk rec=>by
   show cond (decide ((k:Int) < (a.length:Int))) _ _=_
   rw[Br hk,Ad,Em hk,Em (by rw[<-he];exact hk)]
   simp only[Ab]
   rw[BG hk (Bq h)]) (λrec=>by
   show cond (decide ((a.length:Int) < (a.length:Int))) _ _=_
   rw[Bm];rfl)]
  rw[fD he]
  cases a==b<;>rfl
 ·rw[show((a.length:Int)!=(b.length:Int))=true from by rw[C9];omega,lG he];rfl
theorem xa{a b:List Rt}(h:a.length<=lim):IL a b=some (a==b):=by
 unfold IL
 by_cases he:a.length=b.length
 ·rw[he,Di,Ae,Gu (n:=a.length) (λk=> !((atR a k).1==(atR b k).1&&(atR a k).2==(atR b k).2)) false h (λk hk rec=>by
   show cond (decide ((k:Int) < (a.length:Int))) _ _=_
   rw[Br hk,Ad,Em hk,Em (by rw[<-he];exact hk)]
   simp only[Ab]
   rw[BG hk (Bq h)]) (λrec=>by
   show cond (decide ((a.length:Int) < (a.length:Int))) _ _=_
   rw[Bm];rfl)]
  rw[fD he]
  cases a==b<;>rfl
 ·rw[show((a.length:Int)!=(b.length:Int))=true from by rw[C9];omega,lG he];rfl
end Go.Proofs.YthghcmmlmfgkbaaGreatDoor
