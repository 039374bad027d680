/-
 Great numbers: the reference and the program reckon the same, and it is the numbers' own arithmetic. On the printed functions; conditions: lengths.
-/
import Derived.Test.YtaagdgjndpgdgaaGreatDoorRtMC1
import Derived.Test.YtaagdgjndpgdgaaGreatDoorKe
open Go.RowKit
set_option linter.unusedVariables false
set_option linter.unusedSimpArgs false
namespace Go.Proofs.YtaagdgjndpgdgaaGreatDoor
def CS(n:Nat):List Int:=if h:n=0 then []else((n % 10:Nat):Int)::CS (n / 10)
termination_by n
decreasing_by exact Lt (by omega) (by omega)
theorem K7:CS 0=[]:=by rw[CS];rfl
theorem QM{n:Nat}(h:0 < n):CS n=((n % 10:Nat):Int)::CS (n / 10):=by rw[CS,dif_neg (by omega)]
def DO:List Int->Nat
 |[]=>0
 |d::l=>d.toNat+10 * DO l
theorem Sd:∀n,DO (CS n)=n:=by
 intro n
 induction n using Nat.strongRecOn with
 |_ n ih=>
  rcases Bv n with rfl|h
  ·rw[K7];rfl
  ·rw[QM h,DO,ih (n / 10) (Lt h (by omega))];omega
theorem o5{n:Nat}(h:CS n=[]):n=0:=by
 rcases Bv n with h0|h0
 ·exact h0
 ·rw[QM h0]at h;cases h
theorem NO:∀(k n:Nat),(CS n).length<=k↔n < 10 ^ k:=by
 intro k
 induction k with
 |zero=>
  intro n
  rw[Ke]
  constructor
  ·intro h
   have:=o5 (Ba (by omega:(CS n).length=0));omega
  ·intro h;obtain rfl:n=0:=by omega
   rw[K7];simp
 |succ k ih=>
  intro n
  rcases Bv n with rfl|h
  ·rw[K7];exact⟨λ_=>Nat.pow_pos (by omega),λ_=>by simp⟩
  ·rw[QM h,Az,DJ,<-Nat.div_lt_iff_lt_mul (by omega),<-ih];omega
theorem UT:∀n,∀e∈CS n,0<=e∧e<=9:=by
 intro n
 induction n using Nat.strongRecOn with
 |_ n ih=>
  intro e he
  rcases Bv n with rfl|h
  ·rw[K7]at he;cases he
  ·rw[QM h]at he
   rcases AC.1 he with rfl|he
   ·omega
   ·exact ih (n / 10) (Lt h (by omega)) e he
theorem XG:∀n,0 < n->∃l d,CS n=l++[d]∧d≠0:=by
 intro n
 induction n using Nat.strongRecOn with
 |_ n ih=>
  intro h
  rw[QM h]
  rcases Bv (n / 10)with h0|h0
  ·rw[h0,K7];exact⟨[],_,rfl,by omega⟩
  ·obtain⟨l,d,e,hd⟩:=ih (n / 10) (Lt h (by omega)) h0
   rw[e];exact⟨_::l,d,rfl,hd⟩
theorem ld:∀(l:List Int),(∀e∈l,0<=e∧e<=9)->(∀x,l.getLast?=some x->x≠0)->l=CS (DO l)
 |[],_,_=>by rw[DO,K7]
 |d::l,h1,h2=>by
  have hd:=h1 d (BK ..)
  cases l with
  |nil=>
   have:d≠0:=h2 d rfl
   rw[DO,DO,QM (by omega),show(d.toNat+10 * 0) / 10=0 by omega,K7]
   congr 1;omega
  |cons e l=>
   have ih:=ld (e::l) (λx hx=>h1 x (AZ _ hx)) (λx hx=>h2 x (by rw[List.getLast?_cons_cons];exact hx))
   have hp:0 < DO (e::l):=by
    rcases Bv (DO (e::l))with h|h
    ·rw[h,K7]at ih;cases ih
    ·exact h
   rw[DO,QM (by omega),show(d.toNat+10 * DO (e::l)) / 10=DO (e::l)by omega,<-ih]
   congr 1;omega
def gOk(l:List Int):Bool:= !BV l (λ_ e=> !G9 e 0 9)&&(decide ((l.length:Int)<=60)&&((l.length:Int)==0 || l.getLast? !=some 0))
theorem lg{l:List Int}:gOk l=true↔∃n,n < 10 ^ 60∧l=CS n:=by
 unfold gOk
 simp only[Ac,AT,BB,CF,BU,C4,ne_eq]
 constructor
 ·rintro⟨h1,h2,h3⟩
  have e:=ld l (λe he=>by have:=OV h1 he;simpa[JE]using this) (λx hx hx0=>by
   subst hx0
   rcases h3 with h3|h3
   ·have hn:l=[]:=Ba (by omega)
    rw[hn]at hx;cases hx
   ·exact h3 hx)
  refine⟨DO l,?_,e⟩
  rw[<-NO,<-e];omega
 ·rintro⟨n,hn,rfl⟩
  rw[<-NO]at hn
  refine⟨QB λi hi=>?_,by omega,?_⟩
  ·have:=UT n _ (Ag hi)
   rw[Db,JE];exact this
  ·rcases Bv n with rfl|h
   ·left;rw[K7];rfl
   ·right
    obtain⟨l,d,e,hd⟩:=XG n h
    rw[e,List.getLast?_append]
    simpa using hd
theorem UU{n:Nat}(h:n < 10 ^ 60):gOk (CS n)=true:=lg.2 ⟨n,h,rfl⟩
theorem cJ{l:List Int}(h:0 < l.length)(hl:l.length<=lim):∃x,AI l (IntKind.i64.wrap ((l.length:Int) - 1))=some x∧l.getLast?=some x:=by
 have:=hl
 unfold lim at this
 rw[wrap_in (by omega),show(l.length:Int) - 1=((l.length - 1:Nat):Int)by omega,AK (by omega)]
 exact⟨_,rfl,by rw[List.getLast?_eq_getElem?,Ad (by omega)]⟩
theorem mb{l:List Int}(h:l.length<=lim):Fs l=some (gOk l):=by
 unfold Fs gOk
 rw[EU (λk=>Jz l k λe=> !G9 e 0 9) h (λk hk rec=>by
  unfold Le
  rw[Bl hk,Ab,AK hk,Bz,Lc,Bz,Bn hk (Bd h),CD hk]) (λrec=>by unfold Le;rw[Bh,Aa]),Bz]
 show(match cond (BV l λ_ e=> !G9 e 0 9) (Sum.inr false) (Sum.inl ())with|.inl _=>_|.inr r=>some r)=_
 cases BV l λ_ e=> !G9 e 0 9 with
 |true=>rfl
 |false=>
  simp only[Aa,C7,AJ]
  cases decide ((l.length:Int)<=60)with
  |false=>rfl
  |true=>
   rw[Ab,AJ]
   by_cases h0:l.length=0
   ·rw[show((l.length:Int)==0)=true by rw[BU];omega];rfl
   ·obtain⟨x,e1,e2⟩:=cJ (l:=l) (by omega) h
    rw[show((l.length:Int)==0)=false by rw[Bw];omega,Aa,e1,Bz,e2]
    show some (x !=0)=some (false || some x !=some 0)
    rw[CX]
    rfl
theorem lB{l:List Int}(h:l.length<=lim):Fp l=some (gOk l):=by
 unfold Fp gOk
 rw[EU (λk=>Jz l k λe=> !G9 e 0 9) h (λk hk rec=>by
  unfold K8
  rw[Bl hk,Ab,AK hk,Bz,Hx,Bz,Bn hk (Bd h),CD hk]) (λrec=>by unfold K8;rw[Bh,Aa]),Bz]
 show(match cond (BV l λ_ e=> !G9 e 0 9) (Sum.inr false) (Sum.inl ())with|.inl _=>_|.inr r=>some r)=_
 cases BV l λ_ e=> !G9 e 0 9 with
 |true=>rfl
 |false=>
  simp only[Aa,C7,AJ]
  cases decide ((l.length:Int)<=60)with
  |false=>rfl
  |true=>
   rw[Ab,AJ]
   by_cases h0:l.length=0
   ·rw[show((l.length:Int)==0)=true by rw[BU];omega];rfl
   ·obtain⟨x,e1,e2⟩:=cJ (l:=l) (by omega) h
    rw[show((l.length:Int)==0)=false by rw[Bw];omega,Aa,e1,Bz,e2]
    show some (x !=0)=some (false || some x !=some 0)
    rw[CX]
    rfl
theorem Pr{n:Nat}(h:n < 10 ^ 60):(CS n).length<=60:=(NO 60 n).2 h
theorem ie{k:Nat}(h:k<=60):k<=lim:=by unfold lim;omega
theorem kD{B:(Int×List Int->Option (List Int))->Int×List Int->Option (List Int)}(hB:∀rec n l,B rec (n,l)=cond (decide (0 < n)) (chk (l.length+[Int.tmod n 10].length<=lim) (rec (IntKind.i64.wrap (Int.tdiv n 10),l++[Int.tmod n 10]))) (some l)):
  ∀(k n:Nat) (l:List Int) (f:Nat),n<=9223372036854775807->n < 10 ^ k->k < f->l.length+k<=lim->An B f ((n:Int),l)=some (l++CS n)
 |0,n,l,f,_,h,hf,_=>by
  obtain rfl:n=0:=by omega
  obtain⟨f,rfl⟩:∃g,f=g+1:=⟨f - 1,by omega⟩
  rw[Bq,hB,K7,AD];rfl
 |k+1,n,l,f,h1,h2,hf,h3=>by
  obtain⟨f,rfl⟩:∃g,f=g+1:=⟨f - 1,by omega⟩
  rw[Bq,hB]
  rcases Bv n with rfl|hp
  ·rw[K7,AD];rfl
  ·have e1:Int.tdiv (n:Int) 10=((n / 10:Nat):Int):=rfl
   have e2:Int.tmod (n:Int) 10=((n % 10:Nat):Int):=rfl
   rw[Ah (by omega),Ab,e1,e2,AN (by rw[Ao];omega),wrap_in (by omega),kD hB k (n / 10) _ f (by omega) (by rw[DJ]at h2;omega) (by omega) (by rw[Aq,Ao];omega),QM hp,A3]
   rfl
theorem fQ{B:(Int×List Int->Option (List Int))->Int×List Int->Option (List Int)}(hB:∀rec n l,B rec (n,l)=cond (decide (0 < n)) (chk (l.length+[Int.tmod n 10].length<=lim) (rec (IntKind.i64.wrap (Int.tdiv n 10),l++[Int.tmod n 10]))) (some l)){n:Int}(h:n<=9223372036854775807):
  An B fz (n,[])=some (CS n.toNat):=by
 by_cases h0:0<=n
 ·have:=kD hB 19 n.toNat [] fz (by omega) (by omega) (by unfold fz;omega) (by unfold lim;simp)
  rw[show((n.toNat:Nat):Int)=n by omega]at this
  exact this
 ·rw[show n.toNat=0 by omega,K7,show fz=(fz - 1)+1 from rfl,Bq,hB,Af (by omega)];rfl
theorem kh{n:Int}(h:n<=9223372036854775807):Gt n=some (CS n.toNat):=by
 unfold Gt
 rw[fQ (λrec n l=>by simp only[OS]) h,Bz]
theorem jH{n:Int}(h:n<=9223372036854775807):Gm n=some (CS n.toNat):=by
 unfold Gm
 rw[fQ (λrec n l=>by simp only[OP]) h,Bz]
def gEm:Nat->Nat->List Int
 |0,v=>CS v
 |n+1,v=>((v % 10:Nat):Int)::gEm n (v / 10)
theorem jC:∀n v,∃z,gEm n v=CS v++List.replicate z 0
 |0,v=>⟨0,by rw[gEm,List.replicate_zero,AD]⟩
 |n+1,v=>by
  obtain⟨z,e⟩:=jC n (v / 10)
  rw[gEm,e]
  rcases Bv v with rfl|h
  ·exact⟨z+1,by rw[Nat.zero_div,K7];rfl⟩
  ·exact⟨z,by rw[QM h];rfl⟩
abbrev CBd:=(List Int×Int×Int->Option (List Int))->List Int×Int×Int->Option (List Int)
def sn(B:CBd)(d:List Int):Prop:=∀rec (out:List Int) (c:Int) (k:Nat),
 (∀hk:k < d.length,B rec (out,c,(k:Int))=chk (out.length+[Int.tmod (IntKind.i64.wrap (c+d[k])) 10].length<=lim) (rec (out++[Int.tmod (IntKind.i64.wrap (c+d[k])) 10],IntKind.i64.wrap (Int.tdiv (IntKind.i64.wrap (c+d[k])) 10),IntKind.i64.wrap ((k:Int)+1))))∧
 (d.length<=k->B rec (out,c,(k:Int))=cond (decide (0 < c)) (chk (out.length+[Int.tmod c 10].length<=lim) (rec (out++[Int.tmod c 10],IntKind.i64.wrap (Int.tdiv c 10),IntKind.i64.wrap ((k:Int)+1)))) (some out))
theorem og{B:CBd}{d:List Int}(hB:sn B d):∀(j c k:Nat) (out:List Int) (f:Nat),c < 10 ^ j->c<=1000000000->d.length<=k->j < f->out.length+j<=lim->k+j<=lim->An B f (out,(c:Int),(k:Int))=some (out++CS c)
 |0,c,k,out,f,h,_,hk,hf,_,_=>by
  obtain rfl:c=0:=by omega
  obtain⟨f,rfl⟩:∃g,f=g+1:=⟨f - 1,by omega⟩
  rw[Bq,(hB _ _ _ _).2 hk,K7,AD];rfl
 |j+1,c,k,out,f,h,hc,hk,hf,ho,hkl=>by
  obtain⟨f,rfl⟩:∃g,f=g+1:=⟨f - 1,by omega⟩
  rw[Bq,(hB _ _ _ _).2 hk]
  rcases Bv c with rfl|hp
  ·rw[K7,AD];rfl
  ·have e1:Int.tdiv (c:Int) 10=((c / 10:Nat):Int):=rfl
   have e2:Int.tmod (c:Int) 10=((c % 10:Nat):Int):=rfl
   have hl:lim=1099511627776:=rfl
   rw[Ah (by omega),Ab,e1,e2,AN (by rw[Ao];omega),wrap_in (by omega),wrap_in (by omega),show((k:Int)+1)=((k+1:Nat):Int)by omega,
    og hB j (c / 10) (k+1) _ f (by rw[DJ]at h;omega) (by omega) (by omega) (by omega) (by rw[Aq,Ao];omega) (by omega),QM hp,A3]
   rfl
theorem jl{B:CBd}{d:List Int}(hB:sn B d)(hd:∀e∈d,0<=e∧e<=1000000000):∀(j c k:Nat) (out:List Int) (f:Nat),k+j=d.length->c<=1000000000->j+11 < f->out.length+j+11<=lim->k+j+11<=lim->An B f (out,(c:Int),(k:Int))=some (out++gEm j (DO (d.drop k)+c))
 |0,c,k,out,f,hk,hc,hf,ho,hkl=>by
  rw[og hB 10 c k out f (by omega) hc (by omega) (by omega) (by omega) (by omega),BO (by omega),DO,B6,gEm]
 |j+1,c,k,out,f,hk,hc,hf,ho,hkl=>by
  obtain⟨f,rfl⟩:∃g,f=g+1:=⟨f - 1,by omega⟩
  have hlt:k < d.length:=by omega
  have he:=hd _ (Ag hlt)
  have hl:lim=1099511627776:=rfl
  obtain⟨e,hee⟩:∃e:Nat,d[k]=(e:Int):=⟨d[k].toNat,by omega⟩
  rw[hee]at he
  have e0:IntKind.i64.wrap ((c:Int)+(e:Int))=((c+e:Nat):Int):=by rw[wrap_in (by omega)];omega
  have e1:Int.tdiv ((c+e:Nat):Int) 10=(((c+e) / 10:Nat):Int):=rfl
  have e2:Int.tmod ((c+e:Nat):Int) 10=(((c+e) % 10:Nat):Int):=rfl
  rw[Bq,(hB _ _ _ _).1 hlt,hee,e0,e1,e2,AN (by rw[Ao];omega),wrap_in (by omega),wrap_in (by omega),show((k:Int)+1)=((k+1:Nat):Int)by omega,
   jl hB hd j ((c+e) / 10) (k+1) _ f (by omega) (by omega) (by omega) (by rw[Aq,Ao];omega) (by omega),AO hlt,hee,DO,gEm,A3,
   show(((e:Int).toNat+10 * DO (d.drop (k+1))+c) % 10)=(c+e) % 10 by omega,show(((e:Int).toNat+10 * DO (d.drop (k+1))+c) / 10)=DO (d.drop (k+1))+(c+e) / 10 by omega]
  rfl
def gR(v:Nat):List Int×Bool:=cond (decide (v < 10 ^ 60)) (CS v,true) ([],false)
theorem mi:∀(z v f:Nat),(CS v).length+z<=lim->z < f->An Nd f (CS v++List.replicate z 0)=some (CS v)
 |0,v,f,hl,hf=>by
  obtain⟨f,rfl⟩:∃g,f=g+1:=⟨f - 1,by omega⟩
  rw[Bq,List.replicate_zero,AD,Nd]
  have h9:lim=1099511627776:=rfl
  rcases Bv v with rfl|hv
  ·rw[K7];rfl
  ·obtain⟨l,d,e,hd⟩:=XG v hv
   have hlen:(CS v).length=l.length+1:=by rw[e];simp
   rw[Ah (by omega),Ab,wrap_in (by omega),show((CS v).length:Int) - 1=((l.length:Nat):Int)by omega,AK (by omega),Bz]
   have:(CS v)[l.length]'(by omega)=d:=by simp[e]
   rw[this,show(d==0)=false by rw[Bw];exact hd,Aa]
 |z+1,v,f,hl,hf=>by
  obtain⟨f,rfl⟩:∃g,f=g+1:=⟨f - 1,by omega⟩
  have h9:lim=1099511627776:=rfl
  have hlen:(CS v++List.replicate (z+1) (0:Int)).length=(CS v).length+z+1:=by rw[Aq,Cw];omega
  rw[Bq,Nd,Ah (by omega),Ab,wrap_in (by omega),hlen,show(((CS v).length+z+1:Nat):Int) - 1=(((CS v).length+z:Nat):Int)by omega,AK (by omega),Bz]
  have h0:(CS v++List.replicate (z+1) (0:Int))[(CS v).length+z]'(by omega)=0:=by
   rw[FV (by omega),Jv]
  rw[h0,show((0:Int)==0)=true from rfl,Ab,AN (by omega)]
  have:CC (CS v++List.replicate (z+1) (0:Int)) 0 (((CS v).length+z:Nat):Int)=CS v++List.replicate z 0:=by
   unfold CC
   rw[As,show(0:Int).toNat=0 from rfl,Dw,KD,CB (by omega),Cv,List.take_replicate,CH (by omega)]
  rw[this]
  exact mi z v f (by omega) (by omega)
theorem mh{v z:Nat}(hl:(CS v).length+z<=lim):∀(j f:Nat),j<=z->j < f->An (M2 (CS v++List.replicate z 0)) f (((CS v).length+j:Nat):Int)=some ((CS v).length:Int)
 |0,f,hj,hf=>by
  obtain⟨f,rfl⟩:∃g,f=g+1:=⟨f - 1,by omega⟩
  have h9:lim=1099511627776:=rfl
  rw[Bq,M2,Cb]
  rcases Bv v with rfl|hv
  ·rw[K7];rfl
  ·obtain⟨l,d,e,hd⟩:=XG v hv
   have hlen:(CS v).length=l.length+1:=by rw[e];simp
   rw[Ah (by omega),Ab,wrap_in (by omega),show((CS v).length:Int) - 1=((l.length:Nat):Int)by omega,AK (by rw[Aq];omega),Bz]
   have:(CS v++List.replicate z (0:Int))[l.length]'(by rw[Aq];omega)=d:=by rw[Ih (by omega)];simp[e]
   rw[this,show(d==0)=false by rw[Bw];exact hd,Aa]
 |j+1,f,hj,hf=>by
  obtain⟨f,rfl⟩:∃g,f=g+1:=⟨f - 1,by omega⟩
  have h9:lim=1099511627776:=rfl
  rw[Bq,M2,Ah (by omega),Ab,wrap_in (by omega),show(((CS v).length+(j+1):Nat):Int) - 1=(((CS v).length+j:Nat):Int)by omega,AK (by rw[Aq,Cw];omega),Bz]
  have h0:(CS v++List.replicate z (0:Int))[(CS v).length+j]'(by rw[Aq,Cw];omega)=0:=by
   rw[FV (by omega),Jv]
  rw[h0,show((0:Int)==0)=true from rfl,Ab]
  exact mh hl j f (by omega) (by omega)
theorem ee:∀n v,(gEm n v).length<=n+(CS v).length
 |0,v=>by rw[gEm];omega
 |n+1,v=>by
  have:=ee n (v / 10)
  rw[gEm,Az]
  have h2:(CS (v / 10)).length<=(CS v).length:=by
   rcases Bv v with rfl|h
   ·rw[Nat.zero_div];exact AW _
   ·rw[QM h,Az];omega
  omega
theorem li:∀(l:List Int),(∀e∈l,0<=e∧e<=1000000000)->DO l * 9+1000000000<=1000000000 * 10 ^ l.length
 |[],_=>by rw[DO,BY,Ke];omega
 |d::l,h=>by
  have h1:=h d (BK ..)
  have h2:=li l λe he=>h e (AZ _ he)
  rw[DO,Az,DJ]
  omega
theorem lj(l:List Int)(h:∀e∈l,0<=e∧e<=1000000000):DO l < 10 ^ (l.length+10):=by
 have h1:=li l h
 rw[Nat.pow_add]
 have:0 < 10 ^ l.length:=Nat.pow_pos (by omega)
 omega
theorem uM{d:List Int}(hd:∀e∈d,0<=e∧e<=1000000000)(hl:d.length<=1000000):QA d=some (gR (DO d)):=by
 have h9:lim=1099511627776:=rfl
 have hB:sn (IOQ d) d:=λrec out c k=>⟨λhk=>by
  simp only[IOQ,KX,KY]
  rw[Bl hk,Ab,Ab,Ab,AK hk,Bz],λhk=>by
  simp only[IOQ,KX,KY]
  rw[Af (by omega),Aa,Aa]⟩
 have h1:=jl hB hd d.length 0 0 [] fz (by omega) (by omega) (by unfold fz;omega) (by simp;omega) (by omega)
 have hlen:=(NO _ _).2 (lj d hd)
 unfold QA
 rw[show((0:Nat):Int)=0 from rfl]at h1
 rw[h1,Bz,Bg,Dw,Cb]
 obtain⟨z,e⟩:=jC d.length (DO d)
 have hz:=ee d.length (DO d)
 rw[e,Aq,Cw]at hz
 rw[e,mi z _ fz (by omega) (by unfold fz;omega),Bz]
 unfold gR
 by_cases h:DO d < 10 ^ 60
 ·have:=Pr h
  rw[Ah h,Af (by omega)];rfl
 ·have:¬(CS (DO d)).length<=60:=λhh=>h ((NO _ _).1 hh)
  rw[Af h,Ah (by omega)];rfl
theorem tr{d:List Int}(hd:∀e∈d,0<=e∧e<=1000000000)(hl:d.length<=1000000):Qk d=some (gR (DO d)):=by
 have h9:lim=1099511627776:=rfl
 have hB:sn (IJ d) d:=λrec out c k=>⟨λhk=>by
  simp only[IJ,KM,KN]
  rw[Bl hk,Ab,Ab,Ab,AK hk,Bz],λhk=>by
  simp only[IJ,KM,KN]
  rw[Af (by omega),Aa,Aa]⟩
 have h1:=jl hB hd d.length 0 0 [] fz (by omega) (by omega) (by unfold fz;omega) (by simp;omega) (by omega)
 have hlen:=(NO _ _).2 (lj d hd)
 unfold Qk
 rw[show((0:Nat):Int)=0 from rfl]at h1
 rw[h1,Bz,Bg,Dw,Cb]
 obtain⟨z,e⟩:=jC d.length (DO d)
 have hz:=ee d.length (DO d)
 rw[e,Aq,Cw]at hz
 have h2:=mh (v:=DO d) (z:=z) (by omega) z fz (AW _) (by unfold fz;omega)
 rw[e,Aq,Cw,h2,Bz,AN (by omega)]
 have h3:CC (CS (DO d)++List.replicate z (0:Int)) 0 ((CS (DO d)).length:Int)=CS (DO d):=by
  unfold CC
  rw[As,show(0:Int).toNat=0 from rfl,Dw,List.take_left'];rfl
 rw[h3]
 unfold gR
 by_cases h:DO d < 10 ^ 60
 ·have:=Pr h
  rw[Ah h,Af (by omega)];rfl
 ·have:¬(CS (DO d)).length<=60:=λhh=>h ((NO _ _).1 hh)
  rw[Af h,Ah (by omega)];rfl
theorem gK:∀(l:List Int) (j:Nat) (t:Int) (hj:j < l.length),0<=l[j]->0<=t->DO (l.set j (l[j]+t))=DO l+t.toNat * 10 ^ j
 |[],j,t,hj,_,_=>by simp at hj
 |d::l,0,t,hj,h0,ht=>by
  simp only[Ju]at h0
  simp only[Ju,GU,DO,Ke];omega
 |d::l,j+1,t,hj,h0,ht=>by
  simp only[Fi]at h0
  simp only[Fi,LW,DO]
  rw[gK l j t (by simpa using hj) h0 ht,DJ,Nat.mul_add,<-Ht]
  rw[Es (t.toNat) (10 ^ j * 10),Es 10 t.toNat,Ht t.toNat 10,Es (10 ^ j) 10,Es t.toNat (10 * 10 ^ j)]
  omega
theorem XI:∀n,DO (List.replicate n 0)=0
 |0=>rfl
 |n+1=>by rw[Lb,DO,XI n];rfl
def gBd(c:Int)(l:List Int):Prop:=∀e∈l,0<=e∧e<=c
theorem ti{c:Int}{l:List Int}(h:gBd c l){j:Nat}{t:Int}(hj:j < l.length)(ht:0<=t∧t<=81):gBd (c+81) (l.set j (l[j]+t)):=λe he=>by
 rcases FW he with he|rfl
 ·have:=h e he;omega
 ·have:=h _ (Ag hj);omega
abbrev MBd:=(List Int×Int->Option (List Int))->List Int×Int->Option (List Int)
theorem sZ{x y:Int}(hx:0<=x∧x<=9)(hy:0<=y∧y<=9):0<=x * y∧x * y<=81∧(x * y).toNat=x.toNat * y.toNat:=by
 obtain⟨a,rfl⟩:∃a:Nat,x=(a:Int):=⟨x.toNat,by omega⟩
 obtain⟨b,rfl⟩:∃b:Nat,y=(b:Int):=⟨y.toNat,by omega⟩
 have h1:a * b<=9 * 9:=ER (by omega) (by omega)
 have e:(a:Int) * (b:Int)=((a * b:Nat):Int):=by simp
 rw[e]
 exact⟨by omega,by omega,by rw[As,As,As]⟩
theorem jZ{B:MBd}{b:List Int}{x:Int}{i:Nat}(hx:0<=x∧x<=9)(hb:∀e∈b,0<=e∧e<=9)(hl:i+b.length<=1000)
  (hB:∀rec (y:List Int) (k:Nat),y.length<=1000->(∀(hk:k < b.length) (hy:i+k < y.length),B rec (y,(k:Int))=rec (Dl y ((i+k:Nat):Int) (IntKind.i64.wrap (y[i+k]+IntKind.i64.wrap (x * b[k]))),((k+1:Nat):Int)))∧(b.length<=k->B rec (y,(k:Int))=some y)):
  ∀(j k:Nat) (y:List Int) (c:Int) (f:Nat),k+j=b.length->i+b.length<=y.length->y.length<=1000->gBd c y->0<=c->c+81 * j<=1000000000->j < f->∃y',An B f (y,(k:Int))=some y'∧y'.length=y.length∧gBd (c+81 * j) y'∧DO y'=DO y+x.toNat * DO (b.drop k) * 10 ^ (i+k)
 |0,k,y,c,f,hk,hy,hy2,hc,_,_,hf=>by
  obtain⟨f,rfl⟩:∃g,f=g+1:=⟨f - 1,by omega⟩
  refine⟨y,?_,rfl,by simpa using hc,?_⟩
  ·rw[Bq,(hB _ _ _ hy2).2 (by omega)]
  ·rw[BO (by omega),DO];simp
 |j+1,k,y,c,f,hk,hy,hy2,hc,h0,h1,hf=>by
  obtain⟨f,rfl⟩:∃g,f=g+1:=⟨f - 1,by omega⟩
  have hkl:k < b.length:=by omega
  have hyl:i+k < y.length:=by omega
  have hd:=sZ hx (hb _ (Ag hkl))
  have hyb:=hc _ (Ag hyl)
  have e1:Dl y ((i+k:Nat):Int) (IntKind.i64.wrap (y[i+k]+IntKind.i64.wrap (x * b[k])))=y.set (i+k) (y[i+k]+x * b[k]):=by
   unfold Dl
   rw[As,wrap_in (n:=x * b[k]) (by omega),wrap_in (by omega)]
  obtain⟨y',q1,q2,q3,q4⟩:=jZ hx hb hl hB j (k+1) (y.set (i+k) (y[i+k]+x * b[k])) (c+81) f (by omega) (by rw[Bx];exact hy) (by rw[Bx];exact hy2) (ti hc hyl ⟨hd.1,hd.2.1⟩) (by omega) (by omega) (by omega)
  refine⟨y',?_,by rw[q2,Bx],?_,?_⟩
  ·rw[Bq,(hB _ _ _ hy2).1 hkl hyl,e1];exact q1
  ·have:c+81+81 * (j:Int)=c+81 * ((j+1:Nat):Int):=by omega
   rw[<-this];exact q3
  ·rw[q4,gK y (i+k) _ hyl hyb.1 hd.1,hd.2.2,AO hkl,DO,show i+(k+1)=i+k+1 by omega,DJ]
   generalize x.toNat=X
   generalize(b[k]).toNat=Y
   generalize DO (b.drop (k+1))=Z
   generalize 10 ^ (i+k)=P
   rw[Nat.mul_add,CQ,CY]
   congr 2
   rw[Es P 10,<-Ht,Ht X Z 10,Es Z 10]
theorem eN{B:MBd}{a b:List Int}(ha:∀e∈a,0<=e∧e<=9)(hl:a.length<=60)(hlb:b.length<=60)
  (hB:∀rec (y:List Int) (i:Nat),(∀(hi:i < a.length) (c:Int),y.length=a.length+b.length->gBd c y->0<=c->c+81 * 60<=1000000000->∃y',B rec (y,(i:Int))=rec (y',((i+1:Nat):Int))∧y'.length=y.length∧gBd (c+81 * 60) y'∧DO y'=DO y+(a[i]).toNat * DO b * 10 ^ i)∧(a.length<=i->B rec (y,(i:Int))=some y)):
  ∀(j i:Nat) (y:List Int) (c:Int) (f:Nat),i+j=a.length->y.length=a.length+b.length->gBd c y->0<=c->c+81 * 60 * j<=1000000000->j < f->∃y',An B f (y,(i:Int))=some y'∧y'.length=y.length∧gBd (c+81 * 60 * j) y'∧DO y'=DO y+DO (a.drop i) * DO b * 10 ^ i
 |0,i,y,c,f,hi,hy,hc,_,_,hf=>by
  obtain⟨f,rfl⟩:∃g,f=g+1:=⟨f - 1,by omega⟩
  refine⟨y,?_,rfl,by simpa using hc,?_⟩
  ·rw[Bq,(hB _ _ _).2 (by omega)]
  ·rw[BO (by omega),DO];simp
 |j+1,i,y,c,f,hi,hy,hc,h0,h1,hf=>by
  obtain⟨f,rfl⟩:∃g,f=g+1:=⟨f - 1,by omega⟩
  have hil:i < a.length:=by omega
  obtain⟨y1,q1,q2,q3,q4⟩:=(hB (An B f) y i).1 hil c hy hc h0 (by omega)
  obtain⟨y',r1,r2,r3,r4⟩:=eN ha hl hlb hB j (i+1) y1 (c+81 * 60) f (by omega) (by omega) q3 (by omega) (by omega) (by omega)
  refine⟨y',?_,by omega,?_,?_⟩
  ·rw[Bq,q1];exact r1
  ·have:c+81 * 60+81 * 60 * (j:Int)=c+81 * 60 * ((j+1:Nat):Int):=by omega
   rw[<-this];exact r3
  ·rw[r4,q4,AO hil,DO,DJ]
   generalize(a[i]).toNat=X
   generalize DO b=Y
   generalize DO (a.drop (i+1))=Z
   generalize 10 ^ i=P
   rw[CQ,CQ,CY]
   congr 2
   rw[Es P 10,<-Ht,Nat.mul_right_comm Z Y 10,Es Z 10]
def b7(a b:List Int):List Int×Bool:=cond (gOk a) (cond (gOk b) (gR (DO a * DO b)) ([],false)) ([],false)
theorem UV{l:List Int}(h:gOk l=true):l.length<=60∧∀e∈l,0<=e∧e<=9:=by
 obtain⟨n,hn,rfl⟩:=lg.1 h
 exact⟨Pr hn,UT n⟩
theorem rh{a b:List Int}(ha:a.length<=lim)(hb:b.length<=lim):L7 a b=some (b7 a b):=by
 unfold L7 b7
 rw[mb ha,Bz]
 cases h1:gOk a with
 |false=>rfl
 |true=>
  rw[Ai,Aa,Ab,mb hb,Bz]
  cases h2:gOk b with
  |false=>rfl
  |true=>
   obtain⟨l1,d1⟩:=UV h1
   obtain⟨l2,d2⟩:=UV h2
   have hw:IntKind.i64.wrap ((a.length:Int)+(b.length:Int))=((a.length+b.length:Nat):Int):=by rw[wrap_in (by omega)];omega
   rw[Ai,Aa,Ab,hw,AN (by unfold lim;omega),As]
   obtain⟨y,q1,q2,q3,q4⟩:=eN (B:=Jh a b) d1 l1 l2 (λrec y i=>⟨λhi c hy hc h0 h9=>by
    obtain⟨y',p1,p2,p3,p4⟩:=jZ (B:=Ji a b (i:Int)) (i:=i) (d1 _ (Ag hi)) d2 (by omega) (λrec y k hy2=>⟨λhk hyk=>by
     simp only[Ji]
     rw[Bl hk,Ab,wrap_in (n:=(i:Int)+(k:Int)) (by omega),show(i:Int)+(k:Int)=((i+k:Nat):Int)by omega,AK hyk,Bz,AK hi,Bz,AK hk,Bz,Bz,wrap_in (n:=(k:Int)+1) (by omega)]
     rfl,λhk=>by
     simp only[Ji]
     rw[Af (by omega),Aa]⟩) b.length 0 y c fz (by omega) (by omega) (by omega) hc h0 (by omega) (by unfold fz;omega)
    refine⟨y',?_,p2,λe he=>?_,by rw[p4,Dw];simp⟩
    ·simp only[Jh]
     have p1':An (Ji a b (i:Int)) fz (y,0)=some y':=p1
     rw[Bl hi,Ab,p1',Bz,wrap_in (by omega)];rfl
    ·have:=p3 e he;omega,λhi=>by
    simp only[Jh]
    rw[Af (by omega),Aa]⟩) a.length 0 (List.replicate (a.length+b.length) 0) 0 fz (by omega) (by simp) (λe he=>by rw[(List.mem_replicate.1 he).2];omega) (by omega) (by omega) (by unfold fz;omega)
   have q1':An (Jh a b) fz (List.replicate (a.length+b.length) 0,0)=some y:=q1
   rw[q1',Bz,uM (λe he=>by have:=q3 e he;omega) (by rw[q2,Cw];omega),Bz,q4,XI,Dw,Ke,Nat.mul_one,B6]
theorem pa{a b:List Int}(ha:a.length<=lim)(hb:b.length<=lim):LM a b=some (b7 a b):=by
 unfold LM b7
 rw[lB ha,Bz]
 cases h1:gOk a with
 |false=>rfl
 |true=>
  rw[Ai,Aa,Ab,lB hb,Bz]
  cases h2:gOk b with
  |false=>rfl
  |true=>
   obtain⟨l1,d1⟩:=UV h1
   obtain⟨l2,d2⟩:=UV h2
   have hw:IntKind.i64.wrap ((a.length:Int)+(b.length:Int))=((a.length+b.length:Nat):Int):=by rw[wrap_in (by omega)];omega
   rw[Ai,Aa,Ab,hw,AN (by unfold lim;omega),As]
   obtain⟨y,q1,q2,q3,q4⟩:=eN (B:=IV a b) d1 l1 l2 (λrec y i=>⟨λhi c hy hc h0 h9=>by
    obtain⟨y',p1,p2,p3,p4⟩:=jZ (B:=IW b (i:Int) a[i]) (i:=i) (d1 _ (Ag hi)) d2 (by omega) (λrec y k hy2=>⟨λhk hyk=>by
     simp only[IW]
     rw[Bl hk,Ab,wrap_in (n:=(i:Int)+(k:Int)) (by omega),show(i:Int)+(k:Int)=((i+k:Nat):Int)by omega,AK hk,Bz,AK hyk,Bz,Bz,wrap_in (n:=(k:Int)+1) (by omega)]
     rfl,λhk=>by
     simp only[IW]
     rw[Af (by omega),Aa]⟩) b.length 0 y c fz (by omega) (by omega) (by omega) hc h0 (by omega) (by unfold fz;omega)
    refine⟨y',?_,p2,λe he=>?_,by rw[p4,Dw];simp⟩
    ·simp only[IV]
     have p1':An (IW b (i:Int) a[i]) fz (y,0)=some y':=p1
     rw[Bl hi,Ab,AK hi,Bz,p1',Bz,wrap_in (by omega)];rfl
    ·have:=p3 e he;omega,λhi=>by
    simp only[IV]
    rw[Af (by omega),Aa]⟩) a.length 0 (List.replicate (a.length+b.length) 0) 0 fz (by omega) (by simp) (λe he=>by rw[(List.mem_replicate.1 he).2];omega) (by omega) (by omega) (by unfold fz;omega)
   have q1':An (IV a b) fz (List.replicate (a.length+b.length) 0,0)=some y:=q1
   rw[q1',Bz,tr (λe he=>by have:=q3 e he;omega) (by rw[q2,Cw];omega),Bz,q4,XI,Dw,Ke,Nat.mul_one,B6]
def mP(m n:Nat):Int:=cond (decide (m < n)) (-1) (cond (decide (n < m)) 1 0)
theorem XH:∀(l:List Int) (i:Nat) (hi:i < l.length),DO (l.take (i+1))=DO (l.take i)+(l[i]).toNat * 10 ^ i
 |[],i,hi=>by simp at hi
 |d::l,0,hi=>by simp[DO]
 |d::l,i+1,hi=>by
  simp only[Dh,DO,Fi]
  rw[XH l i (by simpa using hi),DJ,Nat.mul_add,CY]
  congr 2
  rw[Es (10 ^ i) 10,<-Ht,<-Ht,Es 10]
theorem VO:∀(l:List Int) (i:Nat),(∀e∈l,0<=e∧e<=9)->DO (l.take i) < 10 ^ i
 |l,0,_=>by rw[Mj,DO,Ke];omega
 |[],i+1,_=>by rw[List.take_nil,DO];exact Nat.pow_pos (by omega)
 |d::l,i+1,h=>by
  have h1:=h d (BK ..)
  have h2:=VO l i λe he=>h e (AZ _ he)
  rw[Dh,DO,DJ];omega
theorem Z3{B:(Int->Option (Sum Unit Int))->Int->Option (Sum Unit Int)}{a b:List Int}(ha:∀e∈a,0<=e∧e<=9)(hb:∀e∈b,0<=e∧e<=9)(hl:a.length=b.length)(hl2:a.length<=60)
  (hB:∀rec (i:Nat) (h1:i < a.length) (h2:i < b.length),B rec (i:Int)=cond (decide (a[i] < b[i])) (some (.inr (-1))) (cond (decide (b[i] < a[i])) (some (.inr 1)) (rec ((i:Int) - 1)))) (h0:∀rec,B rec (-1)=some (.inl ())):
  ∀(j f:Nat),j<=a.length->j < f->An B f ((j:Int) - 1)=some (cond (decide (DO (a.take j) < DO (b.take j))) (.inr (-1)) (cond (decide (DO (b.take j) < DO (a.take j))) (.inr 1) (.inl ())))
 |0,f,_,hf=>by
  obtain⟨f,rfl⟩:∃g,f=g+1:=⟨f - 1,by omega⟩
  rw[Bq,show((0:Nat):Int) - 1= -1 from rfl,h0];rfl
 |j+1,f,hj,hf=>by
  obtain⟨f,rfl⟩:∃g,f=g+1:=⟨f - 1,by omega⟩
  have hja:j < a.length:=by omega
  have hjb:j < b.length:=by omega
  have d1:=ha _ (Ag hja)
  have d2:=hb _ (Ag hjb)
  have v1:=VO a j ha
  have v2:=VO b j hb
  rw[Bq,show((j+1:Nat):Int) - 1=(j:Int)by omega,hB _ j hja hjb,XH a j hja,XH b j hjb]
  generalize hx:a[j]=x at d1
  generalize hy:b[j]=y at d2
  obtain⟨x,rfl⟩:∃n:Nat,x=(n:Int):=⟨x.toNat,by omega⟩
  obtain⟨y,rfl⟩:∃n:Nat,y=(n:Int):=⟨y.toNat,by omega⟩
  rw[As,As]
  rcases HE x y with h|h|h
  ·have:(x+1) * 10 ^ j<=y * 10 ^ j:=B3 _ h
   rw[CQ,DP]at this
   rw[Ah (show(x:Int) < (y:Int)by omega),Ah (show DO (a.take j)+x * 10 ^ j < DO (b.take j)+y * 10 ^ j by omega)];rfl
  ·subst h
   rw[Af (show ¬(x:Int) < (x:Int)by omega),Aa,Aa,Z3 ha hb hl hl2 hB h0 j f (by omega) (by omega)]
   have e1:decide (DO (a.take j)+x * 10 ^ j < DO (b.take j)+x * 10 ^ j)=decide (DO (a.take j) < DO (b.take j)):=by rw[decide_eq_decide];omega
   have e2:decide (DO (b.take j)+x * 10 ^ j < DO (a.take j)+x * 10 ^ j)=decide (DO (b.take j) < DO (a.take j)):=by rw[decide_eq_decide];omega
   rw[e1,e2]
  ·have:(y+1) * 10 ^ j<=x * 10 ^ j:=B3 _ h
   rw[CQ,DP]at this
   rw[Af (show ¬(x:Int) < (y:Int)by omega),Ah (show(y:Int) < (x:Int)by omega),Af (show ¬DO (a.take j)+x * 10 ^ j < DO (b.take j)+y * 10 ^ j by omega),Ah (show DO (b.take j)+y * 10 ^ j < DO (a.take j)+x * 10 ^ j by omega)];rfl
theorem eD{m n:Nat}(h:(CS m).length < (CS n).length):m < n:=by
 have h1:=(NO (CS m).length m).1 (AW _)
 have h2:¬n < 10 ^ (CS m).length:=λhh=>by have:=(NO _ n).2 hh;omega
 omega
theorem AaH{m n:Nat}(hm:m < 10 ^ 60)(hn:n < 10 ^ 60):JO (CS m) (CS n)=some (mP m n):=by
 have l1:=Pr hm
 have l2:=Pr hn
 unfold JO mP
 rw[mb (ie l1),Bz,UU hm,Ai,Aa,mb (ie l2),Bz,UU hn,Ai,Aa]
 rcases HE (CS m).length (CS n).length with h|h|h
 ·rw[show(((CS m).length:Int)!=((CS n).length:Int))=true by rw[C4];omega,Ab,Ah (by omega),Ah (eD h)];rfl
 ·have key:=Z3 (B:=HW (CS m) (CS n)) (UT m) (UT n) h l1 (λrec i h1 h2=>by
   simp only[HW]
   rw[Ah (by omega:(0:Int)<=(i:Int)),Ab,AK h1,Bz,AK h2,Bz,Bz,Bz,wrap_in (by omega)]) (λrec=>by simp only[HW];rfl) (CS m).length fz (AW _) (by unfold fz;omega)
  rw[By,h,By,Sd,Sd]at key
  rw[show(((CS m).length:Int)!=((CS n).length:Int))=false by rw[D1];omega,Aa,wrap_in (by omega),h,key,Bz]
  cases decide (m < n)<;>cases decide (n < m)<;>rfl
 ·have:=eD h
  rw[show(((CS m).length:Int)!=((CS n).length:Int))=true by rw[C4];omega,Ab,Af (by omega),Af (by omega),Ah this];rfl
theorem xo{m n:Nat}(hm:m < 10 ^ 60)(hn:n < 10 ^ 60):JI (CS m) (CS n)=some (mP m n):=by
 have l1:=Pr hm
 have l2:=Pr hn
 unfold JI mP
 rw[lB (ie l1),Bz,UU hm,Ai,Aa,lB (ie l2),Bz,UU hn,Ai,Aa]
 rcases HE (CS m).length (CS n).length with h|h|h
 ·rw[show(((CS m).length:Int)!=((CS n).length:Int))=true by rw[C4];omega,Ab,XL,Bz,AH (by omega),Ah (eD h)];rfl
 ·have key:=Z3 (B:=HL (CS m) (CS n)) (UT m) (UT n) h l1 (λrec i h1 h2=>by
   simp only[HL]
   rw[Ah (by omega:(0:Int)<=(i:Int)),Ab,AK h1,Bz,AK h2,Bz,Bz,Bz,XL,Bz,wrap_in (by omega)]
   rcases Int.lt_trichotomy (CS m)[i] (CS n)[i]with q|q|q
   ·rw[show((CS m)[i]!=(CS n)[i])=true by rw[C4];omega,Ah q,AH q];rfl
   ·rw[show((CS m)[i]!=(CS n)[i])=false by rw[D1];omega,Af (by omega),Af (by omega)];rfl
   ·rw[show((CS m)[i]!=(CS n)[i])=true by rw[C4];omega,Af (by omega),Ah q,AE (by omega),AH q];rfl) (λrec=>by simp only[HL];rfl) (CS m).length fz (AW _) (by unfold fz;omega)
  rw[By,h,By,Sd,Sd]at key
  rw[show(((CS m).length:Int)!=((CS n).length:Int))=false by rw[D1];omega,Aa,wrap_in (by omega),h,key,Bz]
  cases decide (m < n)<;>cases decide (n < m)<;>rfl
 ·have:=eD h
  rw[show(((CS m).length:Int)!=((CS n).length:Int))=true by rw[C4];omega,Ab,XL,Bz,AE (by omega),AH (by omega),Af (by omega),Ah this];rfl
theorem Ha{O:Type}{B:(Int->Option (Sum Unit O))->Int->Option (Sum Unit O)}{n:Nat}(bad:Nat->Bool)(o:O)(hn:n<=lim)(h1:∀k,k < n->∀rec,B rec (k:Int)=cond (bad k) (some (.inr o)) (rec ((k+1:Nat):Int)))(h2:∀rec,B rec (n:Int)=some (.inl ())):
  An B fz 0=some (cond ((List.range n).any bad) (.inr o) (.inl ())):=by
 have key:∀d k,k+d=n->(∀j,j < k->bad j=false)->∀m,d < m->An B m (k:Int)=some (cond ((List.range n).any bad) (.inr o) (.inl ())):=by
  intro d
  induction d with
  |zero=>
   intro k hk hb m hm
   obtain⟨m,rfl⟩:∃g,m=g+1:=⟨m - 1,by omega⟩
   have:(List.range n).any bad=false:=by
    rw[CG]
    intro x hx
    rw[hb x (by have:=AL.1 hx;omega)];simp
   rw[Bq,show k=n by omega,h2,this];rfl
  |succ d ih=>
   intro k hk hb m hm
   obtain⟨m,rfl⟩:∃g,m=g+1:=⟨m - 1,by omega⟩
   rw[Bq,h1 k (by omega)]
   cases hbk:bad k with
   |true=>
    have:(List.range n).any bad=true:=by rw[Dj];exact⟨k,AL.2 (by omega),hbk⟩
    rw[this];rfl
   |false=>
    exact ih (k+1) (by omega) (λj hj=>by
     rcases A8 j k with h|h
     ·exact hb j h
     ·rw[show j=k by omega];exact hbk) m (by omega)
 have:=key n 0 (by omega) (λj hj=>absurd hj (by omega)) fz (EO hn)
 simpa using this
def V0(r:Rt):Bool:=IE r&&decide (0<=r.1)
def scN(d:Int)(r:Rt):Int:=d.tdiv (Nat.gcd d.natAbs r.2.natAbs:Nat) * r.2
def scD:Int->List Rt->Option Int
 |d,[]=>some d
 |d,r::l=>cond (decide (1000 < scN d r)) none (scD (scN d r) l)
theorem rz{d:Int}{r:Rt}(hd:1<=d∧d<=1000)(hr:IE r=true):IntKind.i64.wrap (d.tdiv (Nat.gcd d.natAbs r.2.natAbs:Nat))=d.tdiv (Nat.gcd d.natAbs r.2.natAbs:Nat)∧IntKind.i64.wrap (scN d r)=scN d r∧1<=scN d r:=by
 have f:=IN hr
 obtain⟨n,rfl⟩:∃n:Nat,d=(n:Int):=⟨d.toNat,by omega⟩
 obtain⟨m,hm⟩:∃m:Nat,r.2=(m:Int):=⟨r.2.toNat,by omega⟩
 unfold scN
 rw[hm,Int.natAbs_natCast,Int.natAbs_natCast]
 have hg:0 < Nat.gcd n m:=IH _ (by omega)
 have e1:Int.tdiv (n:Int) ((Nat.gcd n m:Nat):Int)=((n / Nat.gcd n m:Nat):Int):=rfl
 have h1:n / Nat.gcd n m<=n:=Nat.div_le_self _ _
 have h2:1<=n / Nat.gcd n m:=Nat.div_pos (Nat.le_of_dvd (by omega) (Nat.gcd_dvd_left n m)) hg
 have h3:n / Nat.gcd n m * m<=1000 * 1000000000:=ER (by omega) (by omega)
 have h4:1 * 1<=n / Nat.gcd n m * m:=ER h2 (by omega)
 have e2:((n / Nat.gcd n m:Nat):Int) * (m:Int)=((n / Nat.gcd n m * m:Nat):Int):=by simp
 rw[e1,e2]
 exact⟨wrap_in (by omega),wrap_in (by omega),by omega⟩
def Vy(d:Int)(l:List Rt):Sum Int (List Int×Int):=cond (BV l λ_ r=> !V0 r) (.inr ([],0)) (match scD d l with|none=>.inr ([],0)|some d=>.inl d)
theorem Yr{α:Type}(x:α)(l:List α)(f:α->Bool):BV (x::l) (λ_ e=>f e)=(f x || BV l λ_ e=>f e):=by
 unfold BV
 rw[Az,List.range_succ_eq_map,Hs,List.any_map]
 congr 1
theorem wg{w:List Rt}(h:w.length<=lim):∀(j k:Nat) (d:Int) (f:Nat),k+j=w.length->1<=d∧d<=1000->j < f->An (FSQ w) f (d,(k:Int))=some (Vy d (w.drop k))
 |0,k,d,f,hk,hd,hf=>by
  obtain⟨f,rfl⟩:∃g,f=g+1:=⟨f - 1,by omega⟩
  rw[Bq,BO (by omega),FSQ,Af (by omega),Aa];rfl
 |j+1,k,d,f,hk,hd,hf=>by
  obtain⟨f,rfl⟩:∃g,f=g+1:=⟨f - 1,by omega⟩
  have hlt:k < w.length:=by omega
  rw[Bq,AO hlt,Vy,Yr]
  simp only[FSQ,AK hlt,Bz,RH]
  rw[Bl hlt,Ab,Bn hlt (Bd h)]
  unfold V0
  cases hr:IE w[k]with
  |false=>rfl
  |true=>
   by_cases h0:0<=w[k].1
   ·have f0:=IN hr
    obtain⟨e1,e2,e3⟩:=rz hd hr
    have hg:=re d.natAbs w[k].2.natAbs (by omega)
    rw[show((d.natAbs:Nat):Int)=d by omega,show((w[k].2.natAbs:Nat):Int)=w[k].2 by omega]at hg
    have hp:0 < Nat.gcd d.natAbs w[k].2.natAbs:=IH _ (by omega)
    have e2':IntKind.i64.wrap (d.tdiv ((Nat.gcd d.natAbs w[k].2.natAbs:Nat):Int) * w[k].2)=scN d w[k]:=e2
    rw[Ah h0,Af (by omega:¬w[k].1 < 0),Ai,Aa,Aa,hg,Bz,AN (by omega),e1,e2',scD]
    by_cases hb:1000 < scN d w[k]
    ·rw[Ah hb]
     simp only[Ab,AJ,Ai,CX]
     cases BV (w.drop (k+1)) λ_ e=> !(IE e&&decide (0<=e.1))<;>rfl
    ·rw[Af hb,Aa,Aa,wg h j (k+1) (scN d w[k]) f (by omega) ⟨e3,by omega⟩ (by omega)]
     simp only[AJ,Ai,CX]
     rfl
   ·rw[Af h0,Ah (by omega:w[k].1 < 0)];rfl
theorem vL{w:List Rt}(h:w.length<=lim)(hv:∀r∈w,V0 r=true):∀(j k:Nat) (d:Int) (f:Nat),k+j=w.length->1<=d∧d<=1000->j < f->An (Fz w) f (d,(k:Int))=some (match scD d (w.drop k)with|none=>.inr ([],0)|some d=>.inl d)
 |0,k,d,f,hk,hd,hf=>by
  obtain⟨f,rfl⟩:∃g,f=g+1:=⟨f - 1,by omega⟩
  rw[Bq,BO (by omega),Fz,Af (by omega),Aa];rfl
 |j+1,k,d,f,hk,hd,hf=>by
  obtain⟨f,rfl⟩:∃g,f=g+1:=⟨f - 1,by omega⟩
  have hlt:k < w.length:=by omega
  have hr:IE w[k]=true:=by
   have:=hv _ (Ag hlt)
   unfold V0 at this
   rw[Ac]at this;exact this.1
  have f0:=IN hr
  obtain⟨e1,e2,e3⟩:=rz hd hr
  have hg:=o9 d.natAbs w[k].2.natAbs (by omega)
  rw[show((d.natAbs:Nat):Int)=d by omega,show((w[k].2.natAbs:Nat):Int)=w[k].2 by omega]at hg
  have hp:0 < Nat.gcd d.natAbs w[k].2.natAbs:=IH _ (by omega)
  have e2':IntKind.i64.wrap (d.tdiv ((Nat.gcd d.natAbs w[k].2.natAbs:Nat):Int) * w[k].2)=scN d w[k]:=e2
  rw[Bq,AO hlt]
  simp only[Fz,AK hlt,Bz]
  rw[Bl hlt,Ab,Bn hlt (Bd h),hg,Bz,AN (by omega),e1,e2',scD]
  by_cases hb:1000 < scN d w[k]
  ·rw[Ah hb];rfl
  ·rw[Af hb,Aa,Aa]
   exact vL h hv j (k+1) (scN d w[k]) f (by omega) ⟨e3,by omega⟩ (by omega)
def scI(d:Int)(r:Rt):Int:=IntKind.i64.wrap (r.1 * IntKind.i64.wrap (Int.tdiv d r.2))
def V1(w:List Rt):List Int×Int:=match Vy 1 w with
 |.inl d=>(w.map (scI d),d)
 |.inr r=>r
theorem rA{w:List Rt}{d:Int}(h:Vy 1 w=.inl d):∀r∈w,V0 r=true:=λr hr=>by
 unfold Vy at h
 cases hb:BV w λ_ r=> !V0 r with
 |true=>rw[hb]at h;cases h
 |false=>simpa using OV hb hr
theorem md{w:List Rt}(h:w.length<=lim):G3 w=some (V1 w):=by
 unfold G3 V1
 have key:=wg h w.length 0 1 fz (by omega) (by omega) (EO h)
 have key':An (FSQ w) fz (1,0)=some (Vy 1 w):=key
 rw[key',Bz]
 cases hs:Vy 1 w with
 |inr r=>rfl
 |inl d=>
  have hv:=rA hs
  simp only
  rw[J6 (a:=w) (h:=scI d) h (λk hk rec=>by
   have hr:IE w[k]=true:=by
    have:=hv _ (Ag hk)
    unfold V0 at this
    rw[Ac]at this;exact this.1
   have f0:=IN hr
   simp only[Kl]
   rw[Bl hk,Ab,AK hk,Bz,Bz,AN (by omega),AN (by simp only[Aj,At,Ao];omega),Bn hk (Bd h)]
   rfl) (λrec y=>by simp only[Kl];rw[Bh,Aa]),Bz]
theorem lC{w:List Rt}(h:w.length<=lim):GK w=some (V1 w):=by
 unfold GK V1
 rw[Ha (n:=w.length) (λk=>Jz w k λr=> !V0 r) (([]:List Int),(0:Int)) h (λk hk rec=>by
  unfold J0
  rw[Bl hk,Ab,AK hk,Bz,gZ,Bz,Bn hk (Bd h),CD hk]
  unfold V0
  cases IE w[k]with
  |false=>rfl
  |true=>
   by_cases h0:0<=w[k].1
   ·rw[Ah h0,Af (by omega:¬w[k].1 < 0)];rfl
   ·rw[Af h0,Ah (by omega:w[k].1 < 0)];rfl) (λrec=>by unfold J0;rw[Bh,Aa]),Bz]
 have e:((List.range w.length).any λk=>Jz w k λr=> !V0 r)=BV w λ_ r=> !V0 r:=rfl
 rw[e]
 unfold Vy
 cases hb:BV w λ_ r=> !V0 r with
 |true=>rfl
 |false=>
  have hv:∀r∈w,V0 r=true:=λr hr=>by simpa using OV hb hr
  have key:=vL h hv w.length 0 1 fz (by omega) (by omega) (EO h)
  have key':An (Fz w) fz (1,0)=some (match scD 1 w with|none=>.inr ([],0)|some d=>.inl d):=key
  simp only[Aa]
  rw[key',Bz]
  cases scD 1 w with
  |none=>rfl
  |some d=>
   simp only
   rw[J6 (a:=w) (h:=scI d) h (λk hk rec=>by
    have hr:IE w[k]=true:=by
     have:=hv _ (Ag hk)
     unfold V0 at this
     rw[Ac]at this;exact this.1
    have f0:=IN hr
    simp only[J1]
    rw[Bl hk,Ab,AK hk,Bz,AN (by omega),AN (by simp only[Aj,At,Ao];omega),Bn hk (Bd h)]
    rfl) (λrec y=>by simp only[J1];rw[Bh,Aa]),Bz]
def toR:Option Nat->List Int×Bool
 |some v=>(CS v,true)
 |none=>([],false)
def cap(v:Nat):Option Nat:=if v < 10 ^ 60 then some v else none
theorem xj(v:Nat):gR v=toR (cap v):=by
 unfold gR cap
 by_cases h:v < 10 ^ 60
 ·rw[Ah h,AH h];rfl
 ·rw[Af h,AE h];rfl
theorem dO{v x:Nat}(h:cap v=some x):x=v∧v < 10 ^ 60:=by
 unfold cap at h
 split at h
 ·cases h;exact⟨rfl,by assumption⟩
 ·cases h
theorem gJ{m n:Nat}(hm:m < 10 ^ 60)(hn:n < 10 ^ 60):b7 (CS m) (CS n)=toR (cap (m * n)):=by
 unfold b7
 rw[UU hm,UU hn,Sd,Sd,xj];rfl
def pwA(n:Nat):Nat->Nat->Option Nat
 |acc,0=>some acc
 |acc,k+1=>match cap (acc * n)with
  |some x=>pwA n x k
  |none=>none
theorem qN{n:Nat}:∀(k acc x:Nat),acc < 10 ^ 60->pwA n acc k=some x->x < 10 ^ 60
 |0,acc,x,h,e=>by rw[pwA]at e;cases e;exact h
 |k+1,acc,x,h,e=>by
  rw[pwA]at e
  cases hc:cap (acc * n)with
  |none=>rw[hc]at e;cases e
  |some y=>rw[hc]at e;obtain⟨rfl,hy⟩:=dO hc;exact qN k _ x hy e
def toS:Option Nat->Sum (List Int) (List Int×Bool)
 |some v=>.inl (CS v)
 |none=>.inr ([],false)
abbrev PwB:=(List Int×Int->Option (Sum (List Int) (List Int×Bool)))->List Int×Int->Option (Sum (List Int) (List Int×Bool))
theorem bi{B:PwB}{n:Nat}{e:Nat}(hn:n < 10 ^ 60)(h1:∀rec acc k,acc < 10 ^ 60->k < e->B rec (CS acc,(k:Int))=cond (!(b7 (CS acc) (CS n)).2) (some (.inr ([],false))) (rec ((b7 (CS acc) (CS n)).1,((k+1:Nat):Int))))(h2:∀rec y,B rec (y,(e:Int))=some (.inl y)):
  ∀(j k acc f:Nat),k+j=e->acc < 10 ^ 60->j < f->An B f (CS acc,(k:Int))=some (toS (pwA n acc j))
 |0,k,acc,f,hk,ha,hf=>by
  obtain⟨f,rfl⟩:∃g,f=g+1:=⟨f - 1,by omega⟩
  obtain rfl:k=e:=by omega
  rw[Bq,h2];rfl
 |j+1,k,acc,f,hk,ha,hf=>by
  obtain⟨f,rfl⟩:∃g,f=g+1:=⟨f - 1,by omega⟩
  rw[Bq,h1 _ acc k ha (by omega),gJ ha hn,pwA]
  cases hc:cap (acc * n)with
  |none=>rfl
  |some x=>
   obtain⟨rfl,hx⟩:=dO hc
   exact bi hn h1 h2 j (k+1) (acc * n) f (by omega) hx (by omega)
def WS(n k:Int):Option Nat:=cond (decide (n < 0)) none (cond (G9 k 0 100) (pwA n.toNat 1 k.toNat) none)
theorem fc{n k:Int}{x:Nat}(h:WS n k=some x):x < 10 ^ 60:=by
 unfold WS at h
 cases h1:decide (n < 0)with
 |true=>rw[h1]at h;cases h
 |false=>
  cases h2:G9 k 0 100 with
  |false=>rw[h1,h2]at h;cases h
  |true=>rw[h1,h2]at h;exact qN _ _ _ (by decide) h
theorem Rx{n:Nat}(h:n < 10 ^ 60):(CS n).length<=lim:=ie (Pr h)
theorem AdF{n k:Int}(hn:n<=9223372036854775807):OC n k=some (toR (WS n k)):=by
 unfold OC WS
 by_cases h0:n < 0
 ·rw[Ah h0];rfl
 ·rw[Af h0,Aa,Aa,Lc,Bz]
  cases hk:G9 k 0 100 with
  |false=>rfl
  |true=>
   rw[JE]at hk
   have hb:n.toNat < 10 ^ 60:=by omega
   rw[Ai,Aa,Ab,kh (by omega),Bz]
   have key:=bi (B:=Jj n k) (n:=n.toNat) (e:=k.toNat) hb (λrec acc i ha hi=>by
    simp only[Jj]
    rw[Ah (by omega),Ab,kh hn,Bz,rh (Rx ha) (Rx hb),Bz,wrap_in (by omega)]
    rfl) (λrec y=>by simp only[Jj];rw[Af (by omega),Aa]) k.toNat 0 1 fz (by omega) (by decide) (by unfold fz;omega)
   have key':An (Jj n k) fz (CS (Int.toNat 1),0)=some (toS (pwA n.toNat 1 k.toNat)):=key
   rw[key',Bz]
   cases pwA n.toNat 1 k.toNat<;>rfl
theorem Ack{n k:Int}(hn:n<=9223372036854775807):NX n k=some (toR (WS n k)):=by
 unfold NX WS
 by_cases h0:n < 0
 ·rw[Ah h0];rfl
 ·rw[Af h0,Aa,Aa,Hx,Bz]
  cases hk:G9 k 0 100 with
  |false=>rfl
  |true=>
   rw[JE]at hk
   have hb:n.toNat < 10 ^ 60:=by omega
   rw[Ai,Aa,Ab,jH (by omega),Bz]
   have key:=bi (B:=IX n k) (n:=n.toNat) (e:=k.toNat) hb (λrec acc i ha hi=>by
    simp only[IX]
    rw[Ah (by omega),Ab,jH hn,Bz,pa (Rx ha) (Rx hb),Bz,wrap_in (by omega)]
    rfl) (λrec y=>by simp only[IX];rw[Af (by omega),Aa]) k.toNat 0 1 fz (by omega) (by decide) (by unfold fz;omega)
   have key':An (IX n k) fz (CS (Int.toNat 1),0)=some (toS (pwA n.toNat 1 k.toNat)):=key
   rw[key',Bz]
   cases pwA n.toNat 1 k.toNat<;>rfl
def prO:Nat->List (Int×Int)->Option Nat
 |v,[]=>some v
 |v,p::l=>match WS p.1 p.2 with
  |none=>none
  |some x=>match cap (v * x)with
   |some y=>prO y l
   |none=>none
theorem qK:∀(l:List (Int×Int)) (v x:Nat),v < 10 ^ 60->prO v l=some x->x < 10 ^ 60
 |[],v,x,h,e=>by rw[prO]at e;cases e;exact h
 |p::l,v,x,h,e=>by
  rw[prO]at e
  cases hp:WS p.1 p.2 with
  |none=>rw[hp]at e;cases e
  |some y=>
   rw[hp]at e
   simp only at e
   cases hc:cap (v * y)with
   |none=>rw[hc]at e;cases e
   |some z=>rw[hc]at e;obtain⟨rfl,hz⟩:=dO hc;exact qK l _ x hz e
theorem rU{o:Option Nat}(h:∀x,o=some x->x < 10 ^ 60):∃m,m < 10 ^ 60∧(toR o).1=CS m:=by
 cases o with
 |none=>exact⟨0,by decide,by rw[K7];rfl⟩
 |some x=>exact⟨x,h x rfl,rfl⟩
theorem X9{B:PwB}{l:List (Int×Int)}(h1:∀rec v k (hk:k < l.length),v < 10 ^ 60->B rec (CS v,(k:Int))=cond (!(toR (WS l[k].1 l[k].2)).2) (some (.inr ([],false))) (cond (!(b7 (CS v) (toR (WS l[k].1 l[k].2)).1).2) (some (.inr ([],false))) (rec ((b7 (CS v) (toR (WS l[k].1 l[k].2)).1).1,((k+1:Nat):Int)))))(h2:∀rec y,B rec (y,(l.length:Int))=some (.inl y)):
  ∀(j k v f:Nat),k+j=l.length->v < 10 ^ 60->j < f->An B f (CS v,(k:Int))=some (toS (prO v (l.drop k)))
 |0,k,v,f,hk,hv,hf=>by
  obtain⟨f,rfl⟩:∃g,f=g+1:=⟨f - 1,by omega⟩
  obtain rfl:k=l.length:=by omega
  rw[Bq,h2,Ei];rfl
 |j+1,k,v,f,hk,hv,hf=>by
  obtain⟨f,rfl⟩:∃g,f=g+1:=⟨f - 1,by omega⟩
  have hlt:k < l.length:=by omega
  rw[Bq,h1 _ v k hlt hv,AO hlt,prO]
  cases hp:WS l[k].1 l[k].2 with
  |none=>rfl
  |some x=>
   have e:(toR (some x)).1=CS x:=rfl
   rw[e,gJ hv (fc hp)]
   simp only
   cases hc:cap (v * x)with
   |none=>rfl
   |some y=>
    obtain⟨rfl,hy⟩:=dO hc
    exact X9 h1 h2 j (k+1) (v * x) f (by omega) hy (by omega)
def WR(a b:List Int):Option Nat:=cond ((a.length:Int)!=(b.length:Int)) none (prO 1 (a.zip b))
theorem Zs{a b:List Int}{x:Nat}(h:WR a b=some x):x < 10 ^ 60:=by
 unfold WR at h
 cases hl:((a.length:Int)!=(b.length:Int))with
 |true=>rw[hl]at h;cases h
 |false=>rw[hl]at h;exact qK _ _ _ (by decide) h
theorem wb{a b:List Int}(h:a.length<=lim)(hI:∀e∈a,e<=9223372036854775807):G2 a b=some (toR (WR a b)):=by
 unfold G2 WR
 cases hl:((a.length:Int)!=(b.length:Int))with
 |true=>rfl
 |false=>
  rw[D1]at hl
  have hz:(a.zip b).length=a.length:=by rw[List.length_zip];omega
  rw[Aa,Aa,kh (by omega),Bz]
  have key:=X9 (B:=FR a b) (l:=a.zip b) (λrec v k hk hv=>by
   have hk1:k < a.length:=by omega
   have hk2:k < b.length:=by omega
   obtain⟨m,hm,em⟩:=rU (o:=WS a[k] b[k]) λx hx=>fc hx
   simp only[FR,Np]
   rw[Bl hk1,Ab,AK hk1,Bz,AK hk2,Bz,AdF (hI _ (Ag hk1)),Bz,rh (Rx hv) (by rw[em];exact Rx hm),Bz,Bn hk1 (Bd h)]) (λrec y=>by
   simp only[FR]
   rw[hz,Bh,Aa]) (a.zip b).length 0 1 fz (by omega) (by decide) (by rw[hz];exact EO h)
  have key':An (FR a b) fz (CS (Int.toNat 1),0)=some (toS (prO 1 (a.zip b))):=key
  rw[key',Bz]
  cases prO 1 (a.zip b)<;>rfl
theorem vG{a b:List Int}(h:a.length<=lim)(hI:∀e∈a,e<=9223372036854775807):GJ a b=some (toR (WR a b)):=by
 unfold GJ WR
 cases hl:((a.length:Int)!=(b.length:Int))with
 |true=>rfl
 |false=>
  rw[D1]at hl
  have hz:(a.zip b).length=a.length:=by rw[List.length_zip];omega
  rw[Aa,Aa,jH (by omega),Bz]
  have key:=X9 (B:=Fy a b) (l:=a.zip b) (λrec v k hk hv=>by
   have hk1:k < a.length:=by omega
   have hk2:k < b.length:=by omega
   obtain⟨m,hm,em⟩:=rU (o:=WS a[k] b[k]) λx hx=>fc hx
   simp only[Fy,Np]
   rw[Bl hk1,Ab,AK hk1,Bz,AK hk2,Bz,Ack (hI _ (Ag hk1)),Bz,pa (Rx hv) (by rw[em];exact Rx hm),Bz,Bn hk1 (Bd h)]) (λrec y=>by
   simp only[Fy]
   rw[hz,Bh,Aa]) (a.zip b).length 0 1 fz (by omega) (by decide) (by rw[hz];exact EO h)
  have key':An (Fy a b) fz (CS (Int.toNat 1),0)=some (toS (prO 1 (a.zip b))):=key
  rw[key',Bz]
  cases prO 1 (a.zip b)<;>rfl
theorem cz{α:Type}:∀(l:List α) (k:Nat),(CV k l).map (·.1)=List.range' k l.length
 |[],_=>rfl
 |x::l,k=>by rw[CV,AB,cz l (k+1),Az,C8]
theorem Pm{α:Type}(l:List α):JC l=List.range l.length:=by rw[JC,cz,F8]
theorem dc{α:Type}:∀(l p:List α),Ii (p++l) (List.range' p.length l.length)=l
 |[],p=>rfl
 |x::l,p=>by
  have h:=dc l (p++[x])
  rw[A3,FH,Aq,Ao]at h
  rw[Az,C8]
  unfold Ii at h⊢
  rw[Au,h]
  simp
theorem qH{α:Type}(l:List α):Ii l (JC l)=l:=by
 rw[Pm,F8]
 exact dc l []
theorem iq:∀(n k m:Nat) (seen:List Nat),k+n<=m->(∀j∈seen,j < k)->cU m (List.range' k n) seen=true
 |0,_,_,_,_,_=>rfl
 |n+1,k,m,seen,h,hs=>by
  rw[C8,cU,Ac,Ac,AT]
  refine⟨⟨by rw[Nat.blt_eq];omega,?_⟩,iq n (k+1) m (k::seen) (by omega) (λj hj=>?_)⟩
  ·cases hc:seen.contains k with
   |false=>rfl
   |true=>exact absurd (hs k (Bk.1 hc)) (IM _)
  ·rcases AC.1 hj with rfl|hj
   ·omega
   ·have:=hs j hj;omega
theorem uj{α:Type}(l:List α):cU l.length (JC l) []=true:=by
 rw[Pm,F8]
 exact iq _ 0 _ [] (by omega) (by simp)
def P4{S O:Type}(st:Nat->S->Sum S O):Nat->Nat->S->Sum S O
 |0,_,s=>.inl s
 |j+1,k,s=>match st k s with
  |.inl s'=>P4 st j (k+1) s'
  |.inr o=>.inr o
theorem SB{S T O R:Type}{B:(T->Option R)->T->Option R}{n:Nat}(at_:S->Nat->T)(Inv:Nat->S->Prop)(st:Nat->S->Sum S O)(fin:Sum S O->R)
  (h1:∀rec k s,k < n->Inv k s->B rec (at_ s k)=match st k s with|.inl s'=>rec (at_ s' (k+1))|.inr o=>some (fin (.inr o)))
  (h2:∀rec s,Inv n s->B rec (at_ s n)=some (fin (.inl s)))
  (h3:∀k s s',k < n->Inv k s->st k s=.inl s'->Inv (k+1) s'):∀(j k:Nat) (s:S) (f:Nat),k+j=n->j < f->Inv k s->An B f (at_ s k)=some (fin (P4 st j k s))
 |0,k,s,f,hk,hf,hi=>by
  obtain⟨f,rfl⟩:∃g,f=g+1:=⟨f - 1,by omega⟩
  obtain rfl:k=n:=by omega
  rw[Bq,h2 _ s hi];rfl
 |j+1,k,s,f,hk,hf,hi=>by
  obtain⟨f,rfl⟩:∃g,f=g+1:=⟨f - 1,by omega⟩
  rw[Bq,h1 _ k s (by omega) hi,P4]
  cases hs:st k s with
  |inl s'=>exact SB at_ Inv st fin h1 h2 h3 j (k+1) s' f (by omega) (by omega) (h3 k s s' (by omega) hi hs)
  |inr o=>rfl
theorem Ez{S T O R:Type}{B:(T->Option R)->T->Option R}{n:Nat}(at_:S->Nat->T)(Inv:Nat->S->Prop)(st:Nat->S->Sum S O)(fin:Sum S O->R)(hn:n<=lim)
  (h1:∀rec k s,k < n->Inv k s->B rec (at_ s k)=match st k s with|.inl s'=>rec (at_ s' (k+1))|.inr o=>some (fin (.inr o)))
  (h2:∀rec s,Inv n s->B rec (at_ s n)=some (fin (.inl s)))
  (h3:∀k s s',k < n->Inv k s->st k s=.inl s'->Inv (k+1) s') (s:S) (hi:Inv 0 s):An B fz (at_ s 0)=some (fin (P4 st n 0 s)):=
 SB at_ Inv st fin h1 h2 h3 n 0 s fz (by omega) (EO hn) hi
theorem bu{α O:Type}(g:Nat->α):∀(j k:Nat) (s:List α),P4 (O:=O) (λk s=>.inl (s++[g k])) j k s=.inl (s++(List.range' k j).map g)
 |0,k,s=>by rw[P4];simp
 |j+1,k,s=>by rw[P4];simp only;rw[bu g j (k+1),C8,AB,A3];rfl
def Od{α O:Type}(g:Nat->Sum α O):Nat->Nat->Sum (List α) O
 |0,_=>.inl []
 |j+1,k=>match g k with
  |.inr o=>.inr o
  |.inl x=>match Od g j (k+1)with
   |.inl l=>.inl (x::l)
   |.inr o=>.inr o
def fL{α O:Type}(s:List α):Sum α O->Sum (List α) O
 |.inl x=>.inl (s++[x])
 |.inr o=>.inr o
theorem Ra{α O:Type}(g:Nat->Sum α O):∀(j k:Nat) (s:List α),P4 (λk s=>fL s (g k)) j k s=(match Od g j k with|.inl l=>.inl (s++l)|.inr o=>.inr o)
 |0,k,s=>by rw[P4,Od];simp
 |j+1,k,s=>by
  rw[P4,Od]
  cases hg:g k with
  |inr o=>rfl
  |inl x=>
   rw[show fL (O:=O) s (.inl x)=.inl (s++[x])from rfl]
   simp only
   rw[Ra g j (k+1)]
   cases Od g j (k+1)with
   |inr o=>rfl
   |inl l=>simp only[A3,FH]
theorem WK{α O:Type}{g:Nat->Sum α O}:∀{j k:Nat}{l:List α},Od g j k=.inl l->l.length=j
 |0,_,_,h=>by cases h;rfl
 |j+1,k,l,h=>by
  rw[Od]at h
  cases hg:g k with
  |inr o=>rw[hg]at h;cases h
  |inl x=>
   rw[hg]at h
   cases hm:Od g j (k+1)with
   |inr o=>simp only[hm]at h;cases h
   |inl l'=>simp only[hm]at h;cases h;rw[Az,WK hm]
theorem j9{α:Type}(l:List α)(j:Nat)(J:List Nat):Ii l (j::J)=(l[j]?).toList++Ii l J:=by rw[Ii,Au];rfl
theorem db{α:Type}[Inhabited α](l:List α):∀{J:List Nat},(∀j∈J,j < l.length)->Ii l J=J.map λj=>l.getD j default
 |[],_=>rfl
 |j::J,h=>by
  have hj:=h j BK
  rw[j9,db l λi hi=>h i (AZ _ hi),AB,Ad hj,AQ,Ad hj];rfl
theorem qo{n:Nat}:∀{J seen:List Nat},J.Nodup->(∀j∈J,j < n∧j∉seen)->cU n J seen=true
 |[],_,_,_=>rfl
 |j::J,seen,hn,h=>by
  obtain⟨h1,h2⟩:=BQ.1 hn
  obtain⟨h3,h4⟩:=h j BK
  rw[cU,Ac,Ac,AT]
  refine⟨⟨by rw[Nat.blt_eq];exact h3,?_⟩,qo h2 λi hi=>⟨(h i (AZ _ hi)).1,λhm=>?_⟩⟩
  ·cases hc:seen.contains j with
   |false=>rfl
   |true=>exact absurd (Bk.1 hc) h4
  ·rcases AC.1 hm with rfl|hm
   ·exact h1 hi
   ·exact(h i (AZ _ hi)).2 hm
def sw(p k i:Nat):Nat:=if i=p then k else if i=k then p else i
theorem AaX{p k i j:Nat}(h:sw p k i=sw p k j):i=j:=by
 unfold sw at h
 split at h<;>split at h<;>(try split at h)<;>(try split at h)<;>omega
theorem u9{n p k:Nat}(hp:p < n)(hk:k < n):((List.range n).set k p).set p k=(List.range n).map (sw p k):=by
 apply Ej
 ·simp
 ·intro i h1 h2
  simp only[Bx,D3]at h1
  rw[Ek,BJ,EJ]
  unfold sw
  by_cases e:p=i
  ·subst e;simp
  ·rw[AE e,AE (λh=>e h.symm),Ek]
   by_cases e2:k=i
   ·subst e2;simp
   ·rw[AE e2,AE (λh=>e2 h.symm),EJ]
theorem rL{n p k:Nat}(hp:p < n)(hk:k < n):((List.range n).set p k).set k p=(List.range n).map (sw p k):=by
 apply Ej
 ·simp
 ·intro i h1 h2
  simp only[Bx,D3]at h1
  rw[Ek,BJ,EJ]
  unfold sw
  by_cases e:k=i
  ·subst e
   rw[AH rfl]
   split
   ·rename_i h;exact h.symm
   ·rw[AH rfl]
  ·rw[AE e,Ek]
   by_cases e2:p=i
   ·subst e2;simp
   ·rw[AE e2,AE (λh=>e2 h.symm),AE (λh=>e h.symm),EJ]
theorem wm{n p k i:Nat}(hp:p < n)(hk:k < n)(hi:i < n):sw p k i < n:=by unfold sw;split;exact hk;split;exact hp;exact hi
theorem wn{n p k:Nat}(hp:p < n)(hk:k < n):cU n ((List.range n).map (sw p k)) []=true:=by
 refine qo ?_ λj hj=>?_
 ·unfold List.Nodup
  rw[E7]
  exact MI (λh e=>h (AaX e)) (show(List.range n).Pairwise (· ≠ ·)from Gs)
 ·obtain⟨i,hi,rfl⟩:=BF.1 hj
  exact⟨wm hp hk (AL.1 hi),by simp⟩
def swL{α:Type}[Inhabited α](m:List α)(p k:Nat):List α:=(m.set k (m.getD p default)).set p (m.getD k default)
theorem rK{α:Type}[Inhabited α]{m:List α}{p k:Nat}(hp:p < m.length)(hk:k < m.length):Ii m ((List.range m.length).map (sw p k))=swL m p k:=by
 rw[db m λj hj=>by obtain⟨i,hi,rfl⟩:=BF.1 hj;exact wm hp hk (AL.1 hi),EK]
 unfold swL
 apply Ej
 ·simp
 ·intro i h1 h2
  simp only[Aj,D3]at h1
  rw[BJ,EJ,Ek]
  simp only[Function.comp]
  unfold sw
  by_cases e:p=i
  ·subst e;simp
  ·rw[AE e,AE (λh=>e h.symm),Ek]
   by_cases e2:k=i
   ·subst e2;simp
   ·rw[AE e2,AE (λh=>e2 h.symm),AQ,Ad h1];rfl
theorem u7{α:Type}[Inhabited α](m:List α)(p k:Nat):(swL m p k).length=m.length:=by unfold swL;simp
abbrev Mx:=List (List Rt)
def atR(l:List Rt)(k:Nat):Rt:=l.getD k (0,0)
def Eo(m:Mx)(k:Nat):List Rt:=m.getD k []
def rowOk(n:Nat)(r:List Rt):Bool:=(r.length==n)&&r.all IE
def W9(a:Mx)(b:List Rt):Bool:=(a.length==b.length)&&(a.all (rowOk b.length)&&b.all IE)
def elF(f:Rt):List Rt->List Rt->Option (List Rt)
 |x::xs,y::ys=>cond ((KQ f y).2&&(Sy x (KQ f y).1).2) ((elF f xs ys).map ((Sy x (KQ f y).1).1:: ·)) none
 |_,_=>some []
def Yt(p:Nat)(row piv:List Rt):Option (List Rt):=cond (Ru (atR row p) (atR piv p)).2 ((elF (Ru (atR row p) (atR piv p)).1 (row.drop p) (piv.drop p)).map (row.take p++ ·)) none
def dm(p:Nat)(m:Mx)(i:Nat):Option Mx:=cond (i==p) (some m) (cond ((atR (Eo m i) p).1==0) (some m) ((Yt p (Eo m i) (Eo m p)).map (m.set i ·)))
def RG(p:Nat):Nat->Nat->Mx->Option Mx
 |0,_,m=>some m
 |j+1,i,m=>match dm p m i with
  |none=>none
  |some m'=>RG p j (i+1) m'
def Qt(m:Mx)(p:Nat):Nat->Nat->Nat
 |0,k=>k
 |j+1,k=>cond ((atR (Eo m k) p).1==0) (Qt m p j (k+1)) k
def PT(n:Nat):Nat->Nat->Mx->Option Mx
 |0,_,m=>some m
 |j+1,p,m=>cond (Qt m p (n - p) p==n) none (match RG p n 0 (swL m p (Qt m p (n - p) p))with
  |none=>none
  |some m'=>PT n j (p+1) m')
def TL(n:Nat)(m:Mx)(p:Nat):Sum Rt (List Rt×Bool):=cond (Ru (atR (Eo m p) n) (atR (Eo m p) p)).2 (.inl (Ru (atR (Eo m p) n) (atR (Eo m p) p)).1) (.inr ([],false))
def Wb(a:Mx)(b:List Rt):Mx:=(List.range' 0 b.length).map λk=>Eo a k++[atR b k]
def SH(a:Mx)(b:List Rt):List Rt×Bool:=cond (decide (6 < (b.length:Int))) ([],false) (cond (W9 a b) (match PT b.length b.length 0 (Wb a b)with
 |none=>([],false)
 |some m=>match Od (TL b.length m) b.length 0 with
  |.inl x=>(x,true)
  |.inr o=>o) ([],false))
theorem uH(n d:Int):(rNew n d).1.1.natAbs<=1000000000:=by
 have hr:∀n d:Int,(iM n d).1.1.natAbs<=1000000000:=λn d=>by
  unfold iM
  cases h:IE (n.tdiv (Nat.gcd n.natAbs d.natAbs:Nat),d.tdiv (Nat.gcd n.natAbs d.natAbs:Nat))with
  |false=>simp
  |true=>exact(IN h).2.2.1
 unfold rNew
 cases d==0 with
 |true=>simp
 |false=>
  cases G9 n (-4000000000000000000) 4000000000000000000 with
  |false=>simp
  |true=>
   cases G9 d (-4000000000000000000) 4000000000000000000 with
   |false=>simp
   |true=>
    cases decide (d < 0)with
    |true=>exact hr _ _
    |false=>exact hr _ _
theorem uG(a b:Rt): -9223372036854775808<=(KQ a b).1.1∧(KQ a b).1.1<=9223372036854775807:=by
 have h:(KQ a b).1.1.natAbs<=1000000000:=by
  unfold KQ
  cases IE a with
  |false=>simp
  |true=>
   cases IE b with
   |false=>simp
   |true=>exact uH _ _
 omega
theorem ZS{α:Type}(f:α->Bool):∀l:List α,BV l (λ_ e=>f e)=l.any f
 |[]=>rfl
 |x::l=>by rw[Yr,ZS f l,Hs]
theorem TT{α:Type}(l:List α)(f:α->Bool):((List.range l.length).any λk=>Jz l k f)=l.any f:=ZS f l
theorem not_any{α:Type}(l:List α)(f:α->Bool):(l.any λx=> !f x)= !l.all f:=by
 rw[List.not_all_eq_any_not]
theorem MD{l:List Rt}{k:Nat}(h:k < l.length):l[k]=atR l k:=by unfold atR;rw[AQ,Ad h];rfl
theorem HJ{m:Mx}{k:Nat}(h:k < m.length):m[k]=Eo m k:=by unfold Eo;rw[AQ,Ad h];rfl
theorem EP{l:List Rt}{k:Nat}(h:k < l.length):AI l (k:Int)=some (atR l k):=by rw[AK h,MD h]
theorem H7{m:Mx}{k:Nat}(h:k < m.length):AI m (k:Int)=some (Eo m k):=by rw[AK h,HJ h]
theorem AdK{a:Mx}{i:Nat}(hi:i < a.length)(hl:(Eo a i).length<=lim):An (RL a ((Eo a i).length:Int) (i:Int)) fz 0=some (cond ((Eo a i).all IE) (.inl ()) (.inr false)):=by
 rw[Ha (n:=(Eo a i).length) (λk=>Jz (Eo a i) k λr=> !IE r) false hl (λk hk rec=>by
  show cond (decide ((k:Int) < ((Eo a i).length:Int))) _ _=_
  rw[Bl hk,Ab,H7 hi]
  simp only[G]
  rw[AK hk]
  simp only[G]
  rw[RH]
  simp only[G]
  rw[Bn hk (Bd hl),CD hk]) (λrec=>by
  show cond (decide (((Eo a i).length:Int) < ((Eo a i).length:Int))) _ _=_
  rw[Bh,Aa])]
 rw[TT,not_any]
 cases(Eo a i).all IE<;>rfl
theorem uU{a:Mx}{m:Nat}(ha:a.length<=lim)(hm:m<=lim)(n:Int):Im a n (m:Int)=some (a.all (rowOk m)&&((a.length:Int)==n)):=by
 unfold Im
 rw[Ha (n:=a.length) (λk=>Jz a k λr=> !rowOk m r) false ha (λk hk rec=>by
  show cond (decide ((k:Int) < (a.length:Int))) _ _=_
  rw[Bl hk,Ab,H7 hk,CD hk,HJ hk]
  simp only[G]
  unfold rowOk
  by_cases hl:(Eo a k).length=m
  ·subst hl
   rw[AdK hk hm,Bn hk (Bd ha),CR,Aa,Ci,AJ]
   cases(Eo a k).all IE<;>rfl
  ·rw[show(((Eo a k).length:Int)!=(m:Int))=true from by rw[C4];omega,Ab,show((Eo a k).length==m)=false from by simpa using hl]
   rfl) (λrec=>by
  show cond (decide ((a.length:Int) < (a.length:Int))) _ _=_
  rw[Bh,Aa])]
 rw[TT,not_any]
 cases a.all (rowOk m)<;>rfl
theorem XK{r:List Rt}(h:r.length<=lim):Gx r=some (r.all IE):=by
 unfold Gx
 rw[Ha (n:=r.length) (λk=>Jz r k λe=> !IE e) false h (λk hk rec=>by
  show cond (decide ((k:Int) < (r.length:Int))) _ _=_
  rw[Bl hk,Ab,AK hk]
  simp only[G]
  rw[gZ]
  simp only[G]
  rw[Bn hk (Bd h),CD hk]) (λrec=>by
  show cond (decide ((r.length:Int) < (r.length:Int))) _ _=_
  rw[Bh,Aa])]
 rw[TT,not_any]
 cases r.all IE<;>rfl
theorem Zx{row:List Rt}{k:Nat}(h:k < row.length)(y:Rt):(row.set k y).drop (k+1)=row.drop (k+1)∧(row.set k y).take (k+1)=row.take k++[y]:=by
 constructor
 ·rw[List.drop_set_of_lt (KE k)]
 ·rw[List.take_set,A9 h,FG _ _ (by rw[At];omega),At,CH (GV h),F9];rfl
theorem dC{m:Mx}{i j:Nat}(r:List Rt)(h:i < m.length):Eo (m.set i r) j=if i=j then r else Eo m j:=by
 unfold Eo
 rw[AQ,Gg,AQ]
 split
 ·first|rfl|(rename_i e;subst e;rw[AH h];rfl)
 ·rfl
theorem rv{p i:Nat}{d:Rt×Bool}{piv:List Rt}:∀(j k:Nat) (m:Mx) (f:Nat),k+j=(Eo m i).length->j < f->(Eo m i).length<=lim->i < m.length->p < m.length->i≠p->Eo m p=piv->piv.length=(Eo m i).length->
  (∀t,elF d.1 ((Eo m i).drop k) (piv.drop k)=some t->An (EM (p:Int) (i:Int) d) f (m,true,(k:Int))=some (m.set i ((Eo m i).take k++t),true))∧
  (elF d.1 ((Eo m i).drop k) (piv.drop k)=none->∃g,An (EM (p:Int) (i:Int) d) f (m,true,(k:Int))=some (g,false))
 |0,k,m,f,hk,hf,hl,hi,hp,hne,hv,hvl=>by
  obtain⟨f,rfl⟩:∃g,f=g+1:=⟨f - 1,by omega⟩
  obtain rfl:k=(Eo m i).length:=by omega
  rw[Ei,<-hvl,Ei]
  refine⟨λt ht=>?_,λh=>by cases h⟩
  cases ht
  rw[Bq]
  show G (AI m (i:Int)) _=_
  rw[H7 hi]
  simp only[G]
  rw[hvl,Bh,Aa,By,AD]
  congr 2
  rw[<-HJ hi,List.set_getElem_self]
 |j+1,k,m,f,hk,hf,hl,hi,hp,hne,hv,hvl=>by
  obtain⟨f,rfl⟩:∃g,f=g+1:=⟨f - 1,by omega⟩
  have hk1:k < (Eo m i).length:=by omega
  have hk2:k < piv.length:=by omega
  have hm1:∀y,Eo (m.set i ((Eo m i).set k y)) i=(Eo m i).set k y:=λy=>by rw[dC _ hi,AH rfl]
  have hmp:∀y,Eo (m.set i ((Eo m i).set k y)) p=piv:=λy=>by rw[dC _ hi,AE hne,hv]
  rw[AO hk1,AO hk2,elF,MD hk1,MD hk2]
  have hstep:An (EM (p:Int) (i:Int) d) (f+1) (m,true,(k:Int))=An (EM (p:Int) (i:Int) d) f (m.set i ((Eo m i).set k (Sy (atR (Eo m i) k) (KQ d.1 (atR piv k)).1).1),(KQ d.1 (atR piv k)).2&&(Sy (atR (Eo m i) k) (KQ d.1 (atR piv k)).1).2,((k+1:Nat):Int)):=by
   rw[Bq]
   show G (AI m (i:Int)) _=_
   rw[H7 hi]
   simp only[G]
   rw[Bl hk1,Ab,Ab,H7 hp,hv]
   simp only[G]
   rw[EP hk2]
   simp only[G]
   rw[ru]
   simp only[G]
   rw[EP hk1]
   simp only[G]
   rw[AaM]
   simp only[G]
   have hJ:∀x,KU (An (EM (p:Int) (i:Int) d) f) (i:Int) m (k:Int) (Sy (atR (Eo m i) k) (KQ d.1 (atR piv k)).1) x=An (EM (p:Int) (i:Int) d) f (m.set i ((Eo m i).set k (Sy (atR (Eo m i) k) (KQ d.1 (atR piv k)).1).1),x,((k+1:Nat):Int)):=λx=>by
    unfold KU
    rw[AN (by omega),H7 hi]
    simp only[G]
    rw[AN (by omega),EP hk1,Bn hk1 (Bd hl)]
    simp only[G,Dl,As]
   cases(KQ d.1 (atR piv k)).2 with
   |true=>rw[Ab,hJ,AJ]
   |false=>rw[Aa,hJ,J9]
  rw[hstep]
  cases hb:(KQ d.1 (atR piv k)).2&&(Sy (atR (Eo m i) k) (KQ d.1 (atR piv k)).1).2 with
  |true=>
   rw[Ab]
   have ih:=rv (p:=p) (i:=i) (d:=d) (piv:=piv) j (k+1) (m.set i ((Eo m i).set k (Sy (atR (Eo m i) k) (KQ d.1 (atR piv k)).1).1)) f (by rw[hm1,Bx];omega) (by omega) (by rw[hm1,Bx];exact hl) (by rw[Bx];exact hi) (by rw[Bx];exact hp) hne (hmp _) (by rw[hm1,Bx];exact hvl)
   rw[hm1,(Zx hk1 _).1,(Zx hk1 _).2]at ih
   refine⟨λt ht=>?_,λhn=>ih.2 (by simpa using hn)⟩
   obtain⟨t',h1,h2⟩:=BH.1 ht
   rw[ih.1 t' h1,<-h2,A3,List.set_set];rfl
  |false=>
   rw[Aa]
   refine⟨λt ht=>(by cases ht),λ_=>?_⟩
   obtain⟨f',rfl⟩:∃g,f=g+1:=⟨f - 1,by omega⟩
   refine⟨m.set i ((Eo m i).set k (Sy (atR (Eo m i) k) (KQ d.1 (atR piv k)).1).1),?_⟩
   rw[Bq]
   show G (AI (m.set i ((Eo m i).set k (Sy (atR (Eo m i) k) (KQ d.1 (atR piv k)).1).1)) (i:Int)) _=_
   rw[H7 (by rw[Bx];exact hi)]
   simp only[G]
   cases decide (((k+1:Nat):Int) < ((Eo (m.set i ((Eo m i).set k (Sy (atR (Eo m i) k) (KQ d.1 (atR piv k)).1).1)) i).length:Int))<;>rfl
theorem vJ{d:Rt×Bool}{piv:List Rt}:∀(j k:Nat) (row:List Rt) (f:Nat),k+j=row.length->j < f->row.length<=lim->piv.length=row.length->
  (∀t,elF d.1 (row.drop k) (piv.drop k)=some t->An (Hf piv d) f (row,(k:Int))=some (.inl (row.take k++t)))∧
  (elF d.1 (row.drop k) (piv.drop k)=none->∃g,An (Hf piv d) f (row,(k:Int))=some (.inr (false,g)))
 |0,k,row,f,hk,hf,hl,hvl=>by
  obtain⟨f,rfl⟩:∃g,f=g+1:=⟨f - 1,by omega⟩
  obtain rfl:k=row.length:=by omega
  rw[Ei,<-hvl,Ei]
  refine⟨λt ht=>?_,λh=>by cases h⟩
  cases ht
  rw[Bq]
  show cond (decide ((piv.length:Int) < (row.length:Int))) _ _=_
  rw[hvl,Bh,Aa,By,AD]
 |j+1,k,row,f,hk,hf,hl,hvl=>by
  obtain⟨f,rfl⟩:∃g,f=g+1:=⟨f - 1,by omega⟩
  have hk1:k < row.length:=by omega
  have hk2:k < piv.length:=by omega
  rw[AO hk1,AO hk2,elF,MD hk1,MD hk2,Bq]
  have hB:Hf piv d (An (Hf piv d) f) (row,(k:Int))=cond (!(KQ d.1 (atR piv k)).2) (some (.inr (false,row,piv))) (cond (!(Sy (atR row k) (KQ d.1 (atR piv k)).1).2) (some (.inr (false,row,piv))) (An (Hf piv d) f (row.set k (Sy (atR row k) (KQ d.1 (atR piv k)).1).1,((k+1:Nat):Int)))):=by
   show cond (decide ((k:Int) < (row.length:Int))) _ _=_
   rw[Bl hk1,Ab,EP hk2]
   simp only[G]
   rw[pk]
   simp only[G]
   rw[EP hk1]
   simp only[G]
   rw[xu (uG _ _)]
   simp only[G]
   rw[AN (by omega),Bn hk1 (Bd hl)]
   simp only[Dl,As]
  rw[hB]
  cases(KQ d.1 (atR piv k)).2 with
  |false=>exact⟨λt ht=>(by cases ht),λ_=>⟨_,rfl⟩⟩
  |true=>
   rw[AJ,Ai,Aa]
   cases(Sy (atR row k) (KQ d.1 (atR piv k)).1).2 with
   |false=>exact⟨λt ht=>(by cases ht),λ_=>⟨_,rfl⟩⟩
   |true=>
    rw[Ab,Ai,Aa]
    have ih:=vJ (d:=d) (piv:=piv) j (k+1) (row.set k (Sy (atR row k) (KQ d.1 (atR piv k)).1).1) f (by rw[Bx];omega) (by omega) (by rw[Bx];exact hl) (by rw[Bx];exact hvl)
    rw[(Zx hk1 _).1,(Zx hk1 _).2]at ih
    refine⟨λt ht=>?_,λhn=>ih.2 (by simpa using hn)⟩
    obtain⟨t',h1,h2⟩:=BH.1 ht
    rw[ih.1 t' h1,<-h2,A3];rfl
theorem xn{row piv:List Rt}{p:Nat}(hl:row.length<=lim)(hvl:piv.length=row.length)(hp:p < row.length):(∀t,Yt p row piv=some t->LN row piv (p:Int)=some (true,t,piv))∧(Yt p row piv=none->∃g,LN row piv (p:Int)=some (false,g)):=by
 unfold LN Yt
 rw[EP hp,EP (by omega:p < piv.length)]
 simp only[G]
 rw[pj]
 simp only[G]
 cases(Ru (atR row p) (atR piv p)).2 with
 |false=>exact⟨λt ht=>(by cases ht),λ_=>⟨_,rfl⟩⟩
 |true=>
  rw[Ab,Ai,Aa]
  have h:=vJ (d:=Ru (atR row p) (atR piv p)) (piv:=piv) (row.length - p) p row fz (by omega) (by have:=EO hl;omega) hl hvl
  refine⟨λt ht=>?_,λhn=>?_⟩
  ·obtain⟨t',h1,h2⟩:=BH.1 ht
   rw[h.1 t' h1,<-h2]
  ·obtain⟨g,hg⟩:=h.2 (by simpa using hn)
   exact⟨g,by rw[hg]⟩
def R3(n L:Nat)(m:Mx):Prop:=m.length=n∧∀i,i < n->(Eo m i).length=L
theorem R3.set{n L i:Nat}{m:Mx}{r:List Rt}(h:R3 n L m)(hi:i < n)(hr:r.length=L):R3 n L (m.set i r):=
 ⟨by rw[Bx];exact h.1,λj hj=>by
  rw[dC _ (by rw[h.1];exact hi)]
  split
  ·exact hr
  ·exact h.2 j hj⟩
theorem dX{f:Rt}:∀{xs ys t:List Rt},elF f xs ys=some t->xs.length=ys.length->t.length=xs.length
 |[],_,t,h,_=>by cases h;rfl
 |x::xs,[],t,h,hl=>by simp at hl
 |x::xs,y::ys,t,h,hl=>by
  rw[elF]at h
  cases hb:(KQ f y).2&&(Sy x (KQ f y).1).2 with
  |false=>rw[hb]at h;cases h
  |true=>
   rw[hb,Ab]at h
   obtain⟨t',h1,h2⟩:=BH.1 h
   rw[<-h2,Az,Az,dX h1 (by simpa using hl)]
theorem cy{p:Nat}{row piv t:List Rt}(h:Yt p row piv=some t)(hl:row.length=piv.length)(hp:p<=row.length):t.length=row.length:=by
 unfold Yt at h
 cases hb:(Ru (atR row p) (atR piv p)).2 with
 |false=>rw[hb]at h;cases h
 |true=>
  rw[hb,Ab]at h
  obtain⟨t',h1,h2⟩:=BH.1 h
  have:=dX h1 (by rw[A6,A6,hl])
  rw[<-h2,Aq,At,this,A6]
  omega
theorem rJ{n L p i:Nat}{m m':Mx}(h:R3 n L m)(hs:dm p m i=some m')(hi:i < n)(hp:p < n)(hpl:p < L):R3 n L m':=by
 unfold dm at hs
 cases h1:i==p with
 |true=>rw[h1]at hs;cases hs;exact h
 |false=>
  rw[h1,Aa]at hs
  cases h2:(atR (Eo m i) p).1==0 with
  |true=>rw[h2]at hs;cases hs;exact h
  |false=>
   rw[h2,Aa]at hs
   obtain⟨t,h3,h4⟩:=BH.1 hs
   rw[<-h4]
   exact h.set hi (by rw[cy h3 (by rw[h.2 i hi,h.2 p hp]) (by rw[h.2 i hi];omega),h.2 i hi])
theorem WY{n L p:Nat}(hp:p < n)(hpl:p < L):∀{j i:Nat}{m m':Mx},i+j=n->R3 n L m->RG p j i m=some m'->R3 n L m'
 |0,_,_,_,_,h,hs=>by cases hs;exact h
 |j+1,i,m,m',hj,h,hs=>by
  rw[RG]at hs
  cases hr:dm p m i with
  |none=>rw[hr]at hs;cases hs
  |some m1=>rw[hr]at hs;exact WY hp hpl (by omega) (rJ h hr (by omega) hp hpl) hs
theorem rx{p i f:Nat}{d:Rt×Bool}{m:Mx}{k:Nat}(hi:i < m.length):An (EM (p:Int) (i:Int) d) (f+1) (m,false,(k:Int))=some (m,false):=by
 rw[Bq]
 show G (AI m (i:Int)) _=_
 rw[H7 hi]
 simp only[G]
 cases decide ((k:Int) < ((Eo m i).length:Int))<;>rfl
theorem fk{n L p:Nat}(hp:p < n)(hpl:p < L)(hn:n<=lim)(hL:L<=lim):∀(j i:Nat) (m:Mx) (f:Nat),i+j=n->j < f->R3 n L m->
  (∀m',RG p j i m=some m'->An (Et (p:Int)) f (m,(i:Int))=some (.inl m'))∧(RG p j i m=none->∃g,An (Et (p:Int)) f (m,(i:Int))=some (.inr (false,g)))
 |0,i,m,f,hj,hf,h=>by
  obtain⟨f,rfl⟩:∃g,f=g+1:=⟨f - 1,by omega⟩
  obtain rfl:i=n:=by omega
  refine⟨λm' hm=>?_,λhm=>by cases hm⟩
  cases hm
  rw[Bq]
  show cond (decide ((i:Int) < (m.length:Int))) _ _=_
  rw[h.1,Bh];rfl
 |j+1,i,m,f,hj,hf,h=>by
  obtain⟨f,rfl⟩:∃g,f=g+1:=⟨f - 1,by omega⟩
  have hi:i < n:=by omega
  have hiL:=h.2 i hi
  have hJ:∀x:Mx,Fn (An (Et (p:Int)) f) (i:Int) x=An (Et (p:Int)) f (x,((i+1:Nat):Int)):=λx=>by
   unfold Fn;rw[Bn hi (Bd hn)]
  have hq:Et (p:Int) (An (Et (p:Int)) f) (m,(i:Int))=cond (((i:Int))==(p:Int)) (Fn (An (Et (p:Int)) f) (i:Int) m) (cond ((atR (Eo m i) p).1==0) (Fn (An (Et (p:Int)) f) (i:Int) m) (G (An (EM (p:Int) (i:Int) (Ru (atR (Eo m i) p) (atR (Eo m p) p))) fz (m,(Ru (atR (Eo m i) p) (atR (Eo m p) p)).2,(p:Int))) λo3=>(match o3 with
    |(z25,z26)=>(cond (!z26) (some (.inr (false,z25))) (Fn (An (Et (p:Int)) f) (i:Int) z25))))):=by
   show cond (decide ((i:Int) < (m.length:Int))) _ _=_
   rw[h.1,Bl hi,Ab,H7 (by rw[h.1];exact hi),H7 (by rw[h.1];exact hp)]
   simp only[G]
   rw[EP (by rw[hiL];exact hpl),EP (by rw[h.2 p hp];exact hpl)]
   simp only[G]
   rw[rr]
  rw[Bq,RG]
  unfold dm
  have hc:((i:Int)==(p:Int))=(i==p):=by
   rw[Cn,BU,BU];omega
  cases h1:i==p with
  |true=>
   rw[Ab]
   rw[hq,hc,h1,Ab,hJ]
   exact fk hp hpl hn hL j (i+1) m f (by omega) (by omega) h
  |false=>
   rw[Aa]
   rw[hq,hc,h1,Aa]
   cases h2:(atR (Eo m i) p).1==0 with
   |true=>
    rw[Ab,Ab,hJ]
    exact fk hp hpl hn hL j (i+1) m f (by omega) (by omega) h
   |false=>
    rw[Aa,Aa]
    unfold Yt
    cases hd:(Ru (atR (Eo m i) p) (atR (Eo m p) p)).2 with
    |false=>
     rw[Aa,show fz=fz - 1+1 from by unfold fz;rfl,rx (by rw[h.1];exact hi)]
     exact⟨λm' hm=>(by cases hm),λ_=>⟨_,rfl⟩⟩
    |true=>
     rw[Ab]
     have hr:=rv (p:=p) (i:=i) (d:=Ru (atR (Eo m i) p) (atR (Eo m p) p)) (piv:=Eo m p) (L - p) p m fz (by rw[hiL];omega) (by have:=EO hL;omega) (by rw[hiL];exact hL) (by rw[h.1];exact hi) (by rw[h.1];exact hp) (by simpa using h1) rfl (by rw[h.2 p hp,hiL])
     cases he:elF (Ru (atR (Eo m i) p) (atR (Eo m p) p)).1 ((Eo m i).drop p) ((Eo m p).drop p)with
     |none=>
      obtain⟨g,hg⟩:=hr.2 he
      rw[hg]
      exact⟨λm' hm=>(by cases hm),λ_=>⟨g,rfl⟩⟩
     |some t=>
      rw[hr.1 t he]
      have ho:R3 n L (m.set i ((Eo m i).take p++t)):=h.set hi (by
       rw[Aq,At,dX he (by rw[A6,A6,hiL,h.2 p hp]),A6,hiL];omega)
      have ih:=fk hp hpl hn hL j (i+1) _ f (by omega) (by omega) ho
      simp only[G,Ai,Aa,BR,hJ]
      exact ih
theorem Se{m:Mx}{k:Nat}(h:k < m.length):AI (CV 0 m) (k:Int)=some (k,Eo m k):=by
 rw[F0,UR,Ad h,HJ h,BR,B6]
theorem aZ{α:Type}{m m':List α}(h:m'.length=m.length):cU m'.length (JC m) []=true∧Ii m' (JC m)=m':=by
 have e:JC m=JC m':=by rw[Pm,Pm,h]
 rw[e]
 exact⟨uj m',qH m'⟩
theorem ep{b:List Rt}{L p:Nat}(hp:p < b.length)(hpl:p < L)(hn:b.length<=lim)(hL:L<=lim):∀(j i:Nat) (m:Mx) (f:Nat),i+j=b.length->j < f->R3 b.length L m->
  An (Mv b (p:Int)) f (m,(i:Int))=some (match RG p j i m with|some m'=>.inl m'|none=>.inr ([],false))
 |0,i,m,f,hj,hf,h=>by
  obtain⟨f,rfl⟩:∃g,f=g+1:=⟨f - 1,by omega⟩
  obtain rfl:i=b.length:=by omega
  rw[Bq]
  show cond (decide ((b.length:Int) < (b.length:Int))) _ _=_
  rw[Bh];rfl
 |j+1,i,m,f,hj,hf,h=>by
  obtain⟨f,rfl⟩:∃g,f=g+1:=⟨f - 1,by omega⟩
  have hi:i < b.length:=by omega
  have him:i < m.length:=by rw[h.1];exact hi
  have hpm:p < m.length:=by rw[h.1];exact hp
  have hiL:=h.2 i hi
  obtain⟨hk1,hk2⟩:=aZ (m:=m) (m':=m) rfl
  rw[Bq,RG]
  show cond (decide ((i:Int) < (b.length:Int))) _ _=_
  rw[Bl hi,Ab,Bn hi (Bd hn)]
  have hc:((i:Int)!=(p:Int))= !(i==p):=by
   rw[Cn,C4,AT,Bw];omega
  rw[hc]
  unfold dm
  cases h1:i==p with
  |true=>
   rw[Ai,Aa,AN hk1,hk2,Ab]
   exact ep hp hpl hn hL j (i+1) m f (by omega) (by omega) h
  |false=>
   rw[C7,Ab,Aa,Se him,Se hpm]
   simp only[G]
   rw[EP (by rw[hiL];exact hpl)]
   simp only[G]
   rw[show((atR (Eo m i) p).1 !=0)= !((atR (Eo m i) p).1==0)from rfl]
   cases h2:(atR (Eo m i) p).1==0 with
   |true=>
    rw[Ai,Aa,AN hk1,hk2,Ab]
    exact ep hp hpl hn hL j (i+1) m f (by omega) (by omega) h
   |false=>
    have hne:i≠p:=by simpa using h1
    rw[C7,Ab,Aa,AN (by
     cases hb:Nat.beq i p with
     |false=>rfl
     |true=>exact absurd (CJ hb) hne)]
    have hr:=xn (p:=p) (row:=Eo m i) (piv:=Eo m p) (by rw[hiL];exact hL) (by rw[h.2 p hp,hiL]) (by rw[hiL];exact hpl)
    cases he:Yt p (Eo m i) (Eo m p)with
    |none=>
     obtain⟨g,hg⟩:=hr.2 he
     rw[hg]
     simp only[G]
     rw[AN (aZ (by unfold Dl;simp)).1]
     rfl
    |some t=>
     rw[hr.1 t he]
     simp only[G]
     have e:Dl (Dl m (i:Int) t) (p:Int) (Eo m p)=m.set i t:=by
      simp only[Dl,As]
      rw[List.set_comm _ _ hne,<-HJ hpm,List.set_getElem_self]
     rw[e]
     obtain⟨q1,q2⟩:=aZ (m:=m) (m':=m.set i t) (by simp)
     rw[AN q1,q2,Ai,Aa,BR]
     exact ep hp hpl hn hL j (i+1) _ f (by omega) (by omega) (h.set hi (by rw[cy he (by rw[hiL,h.2 p hp]) (by rw[hiL];omega),hiL]))
theorem ff(m:Mx)(p:Nat):∀(j k:Nat),k<=Qt m p j k∧Qt m p j k<=k+j
 |0,k=>⟨AW _,AW _⟩
 |j+1,k=>by
  rw[Qt]
  cases(atR (Eo m k) p).1==0 with
  |true=>rw[Ab];have:=ff m p j (k+1);omega
  |false=>rw[Aa];omega
theorem wc{b:List Rt}{L p:Nat}{m:Mx}(h:R3 b.length L m)(hpl:p < L)(hn:b.length<=lim):∀(j k f:Nat),k+j=b.length->j < f->An (MA b m (p:Int)) f (k:Int)=some ((Qt m p j k:Nat):Int)
 |0,k,f,hk,hf=>by
  obtain⟨f,rfl⟩:∃g,f=g+1:=⟨f - 1,by omega⟩
  obtain rfl:k=b.length:=by omega
  rw[Bq]
  show cond (decide ((b.length:Int) < (b.length:Int))) _ _=_
  rw[Bh];rfl
 |j+1,k,f,hk,hf=>by
  obtain⟨f,rfl⟩:∃g,f=g+1:=⟨f - 1,by omega⟩
  have hk1:k < b.length:=by omega
  rw[Bq,Qt]
  show cond (decide ((k:Int) < (b.length:Int))) _ _=_
  rw[Bl hk1,Ab,H7 (by rw[h.1];exact hk1)]
  simp only[G]
  rw[EP (by rw[h.2 k hk1];exact hpl)]
  simp only[G]
  cases(atR (Eo m k) p).1==0 with
  |true=>rw[Ab,Ab,Bn hk1 (Bd hn)];exact wc h hpl hn j (k+1) f (by omega) (by omega)
  |false=>rfl
theorem vH{b:List Rt}{L p:Nat}{m:Mx}(h:R3 b.length L m)(hpl:p < L)(hn:b.length<=lim):∀(j k f:Nat),k+j=b.length->j < f->An (Mu b m (p:Int)) f (k:Int)=some ((Qt m p j k:Nat):Int)
 |0,k,f,hk,hf=>by
  obtain⟨f,rfl⟩:∃g,f=g+1:=⟨f - 1,by omega⟩
  obtain rfl:k=b.length:=by omega
  rw[Bq]
  show cond (decide ((b.length:Int) < (b.length:Int))) _ _=_
  rw[Bh];rfl
 |j+1,k,f,hk,hf=>by
  obtain⟨f,rfl⟩:∃g,f=g+1:=⟨f - 1,by omega⟩
  have hk1:k < b.length:=by omega
  rw[Bq,Qt]
  show cond (decide ((k:Int) < (b.length:Int))) _ _=_
  rw[Bl hk1,Ab,H7 (by rw[h.1];exact hk1)]
  simp only[G]
  rw[EP (by rw[h.2 k hk1];exact hpl)]
  simp only[G]
  cases(atR (Eo m k) p).1==0 with
  |true=>rw[Ab,Ab,Bn hk1 (Bd hn)];exact vH h hpl hn j (k+1) f (by omega) (by omega)
  |false=>rfl
theorem kt{n L p k:Nat}{m:Mx}(h:R3 n L m)(hp:p < n)(hk:k < n):R3 n L (swL m p k):=by
 unfold swL
 have e:∀i,m.getD i default=Eo m i:=λ_=>rfl
 rw[e,e]
 exact(h.set hk (h.2 p hp)).set hp (h.2 k hk)
theorem Wo{m:Mx}{k:Nat}(h:k < m.length):AI (JC m) (k:Int)=some k:=by
 rw[Pm,F0,Fd h]
theorem XJ{n:Nat}:∀{j p:Nat}{m m':Mx},p+j=n->R3 n (n+1) m->PT n j p m=some m'->R3 n (n+1) m'
 |0,_,_,_,_,h,hg=>by cases hg;exact h
 |j+1,p,m,m',hj,h,hg=>by
  rw[PT]at hg
  have hb:=ff m p (n - p) p
  cases hk:Qt m p (n - p) p==n with
  |true=>rw[hk]at hg;cases hg
  |false=>
   rw[hk,Aa]at hg
   have hk':Qt m p (n - p) p≠n:=by simpa using hk
   cases hr:RG p n 0 (swL m p (Qt m p (n - p) p))with
   |none=>rw[hr]at hg;cases hg
   |some m1=>
    rw[hr]at hg
    exact XJ (by omega) (WY (by omega) (by omega) (by omega) (kt h (by omega) (by omega)) hr) hg
theorem ma{b:List Rt}(hn:b.length<=6):∀(j p:Nat) (m:Mx) (f:Nat),p+j=b.length->j < f->R3 b.length (b.length+1) m->
  An (Mz b) f (m,(p:Int))=some (match PT b.length j p m with|some m'=>.inl m'|none=>.inr ([],false))
 |0,p,m,f,hj,hf,h=>by
  obtain⟨f,rfl⟩:∃g,f=g+1:=⟨f - 1,by omega⟩
  obtain rfl:p=b.length:=by omega
  rw[Bq]
  show cond (decide ((b.length:Int) < (b.length:Int))) _ _=_
  rw[Bh];rfl
 |j+1,p,m,f,hj,hf,h=>by
  obtain⟨f,rfl⟩:∃g,f=g+1:=⟨f - 1,by omega⟩
  have hp:p < b.length:=by omega
  have hl:b.length<=lim:=by unfold lim;omega
  have hb:=ff m p (b.length - p) p
  rw[Bq,PT]
  show cond (decide ((p:Int) < (b.length:Int))) _ _=_
  rw[Bl hp,Ab,wc h (by omega) hl (b.length - p) p fz (by omega) (by have:=EO hl;omega)]
  simp only[G]
  rw[show(((Qt m p (b.length - p) p:Nat):Int)==(b.length:Int))=(Qt m p (b.length - p) p==b.length)from by rw[Cn,BU,BU];omega]
  cases hk:Qt m p (b.length - p) p==b.length with
  |true=>rfl
  |false=>
   have hk':Qt m p (b.length - p) p≠b.length:=by simpa using hk
   have hkb:Qt m p (b.length - p) p < m.length:=by rw[h.1];omega
   have hpm:p < m.length:=by rw[h.1];exact hp
   rw[Aa,Aa,Wo hkb,Wo hpm]
   simp only[G]
   rw[AN (by rw[Pm,D3];omega),AN (by rw[Pm];simp[Dl];omega)]
   have e0:Dl (JC m) ((Qt m p (b.length - p) p:Nat):Int) p=(List.range m.length).set (Qt m p (b.length - p) p) p:=by rw[Pm];simp only[Dl,As]
   have e1:Dl (Dl (JC m) ((Qt m p (b.length - p) p:Nat):Int) p) (p:Int) (Qt m p (b.length - p) p)=(List.range m.length).map (sw p (Qt m p (b.length - p) p)):=by
    rw[e0,<-u9 hpm hkb];simp only[Dl,As]
   rw[e1,e0]
   have e2:AI ((List.range m.length).set (Qt m p (b.length - p) p) p) (p:Int)=some (((List.range m.length).set (Qt m p (b.length - p) p) p)[p]'(by simp;exact hpm)):=AK _
   rw[e2]
   simp only[G]
   rw[AN (wn hpm hkb),rK hpm hkb,AN (by rw[u7];omega)]
   have ho:=kt h hp (show Qt m p (b.length - p) p < b.length by omega)
   have hs:=fk (L:=b.length+1) hp (by omega) hl (by unfold lim;omega) b.length 0 (swL m p (Qt m p (b.length - p) p)) fz (by omega) (EO hl) ho
   have hss:(∀m',RG p b.length 0 (swL m p (Qt m p (b.length - p) p))=some m'->OG (swL m p (Qt m p (b.length - p) p)) (p:Int)=some (true,m'))∧(RG p b.length 0 (swL m p (Qt m p (b.length - p) p))=none->∃g,OG (swL m p (Qt m p (b.length - p) p)) (p:Int)=some (false,g)):=by
    unfold OG
    refine⟨λm' hm=>?_,λhm=>?_⟩
    ·have:=hs.1 m' hm
     rw[show((0:Nat):Int)=0 from rfl]at this
     rw[this];rfl
    ·obtain⟨g,hg⟩:=hs.2 hm
     rw[show((0:Nat):Int)=0 from rfl]at hg
     exact⟨g,by rw[hg];rfl⟩
   cases hr:RG p b.length 0 (swL m p (Qt m p (b.length - p) p))with
   |none=>
    obtain⟨g,hg⟩:=hss.2 hr
    rw[hg];rfl
   |some m1=>
    rw[hss.1 m1 hr]
    simp only[G,Ai,Aa]
    rw[Bn hp (Bd hl)]
    exact ma hn j (p+1) m1 f (by omega) (by omega) (WY hp (by omega) (by omega) ho hr)
theorem lA{b:List Rt}(hn:b.length<=6):∀(j p:Nat) (m:Mx) (f:Nat),p+j=b.length->j < f->R3 b.length (b.length+1) m->
  An (Mt b) f (m,(p:Int))=some (match PT b.length j p m with|some m'=>.inl m'|none=>.inr ([],false))
 |0,p,m,f,hj,hf,h=>by
  obtain⟨f,rfl⟩:∃g,f=g+1:=⟨f - 1,by omega⟩
  obtain rfl:p=b.length:=by omega
  rw[Bq]
  show cond (decide ((b.length:Int) < (b.length:Int))) _ _=_
  rw[Bh];rfl
 |j+1,p,m,f,hj,hf,h=>by
  obtain⟨f,rfl⟩:∃g,f=g+1:=⟨f - 1,by omega⟩
  have hp:p < b.length:=by omega
  have hl:b.length<=lim:=by unfold lim;omega
  have hb:=ff m p (b.length - p) p
  rw[Bq,PT]
  show cond (decide ((p:Int) < (b.length:Int))) _ _=_
  rw[Bl hp,Ab,vH h (by omega) hl (b.length - p) p fz (by omega) (by have:=EO hl;omega)]
  simp only[G]
  rw[show(((Qt m p (b.length - p) p:Nat):Int)==(b.length:Int))=(Qt m p (b.length - p) p==b.length)from by rw[Cn,BU,BU];omega]
  cases hk:Qt m p (b.length - p) p==b.length with
  |true=>rfl
  |false=>
   have hk':Qt m p (b.length - p) p≠b.length:=by simpa using hk
   have hkb:Qt m p (b.length - p) p < m.length:=by rw[h.1];omega
   have hpm:p < m.length:=by rw[h.1];exact hp
   rw[Aa,Aa,AN (by rw[Pm,D3];omega),Wo hkb,Wo hpm]
   simp only[G]
   have e0:Dl (JC m) (p:Int) (Qt m p (b.length - p) p)=(List.range m.length).set p (Qt m p (b.length - p) p):=by rw[Pm];simp only[Dl,As]
   have e1:Dl (Dl (JC m) (p:Int) (Qt m p (b.length - p) p)) ((Qt m p (b.length - p) p:Nat):Int) p=(List.range m.length).map (sw p (Qt m p (b.length - p) p)):=by
    rw[e0,<-rL hpm hkb];simp only[Dl,As]
   rw[e1,e0]
   have e2:AI ((List.range m.length).set p (Qt m p (b.length - p) p)) ((Qt m p (b.length - p) p:Nat):Int)=some (((List.range m.length).set p (Qt m p (b.length - p) p))[Qt m p (b.length - p) p]'(by simp;exact hkb)):=AK _
   rw[e2]
   simp only[G]
   rw[AN (wn hpm hkb),rK hpm hkb]
   have ho:=kt h hp (show Qt m p (b.length - p) p < b.length by omega)
   have hs:=ep (b:=b) (L:=b.length+1) hp (by omega) hl (by unfold lim;omega) b.length 0 (swL m p (Qt m p (b.length - p) p)) fz (by omega) (EO hl) ho
   rw[show((0:Nat):Int)=0 from rfl]at hs
   rw[hs]
   cases hr:RG p b.length 0 (swL m p (Qt m p (b.length - p) p))with
   |none=>rfl
   |some m1=>
    simp only[G]
    rw[Bn hp (Bd hl)]
    exact lA hn j (p+1) m1 f (by omega) (by omega) (WY hp (by omega) (by omega) ho hr)
theorem aU{α O:Type}{g:Nat->Sum α O}{h:Nat->α}:∀(j k:Nat),(∀i,k<=i->i < k+j->g i=.inl (h i))->Od g j k=.inl ((List.range' k j).map h)
 |0,_,_=>rfl
 |j+1,k,hh=>by
  rw[Od,hh k (AW _) (by omega),aU j (k+1) (λi h1 h2=>hh i (by omega) (by omega)),C8];rfl
theorem ij{α O:Type}{g:Nat->Sum α O}{o:O}{i:Nat}(hi:g i=.inr o):∀(j k:Nat),(∀i,k<=i->i < k+j->(∃x,g i=.inl x)∨g i=.inr o)->k<=i->i < k+j->Od g j k=.inr o
 |0,k,_,h1,h2=>by omega
 |j+1,k,hh,h1,h2=>by
  rw[Od]
  rcases hh k (AW _) (by omega)with⟨x,hx⟩|hx
  ·rw[hx]
   by_cases e:k=i
   ·subst e;rw[hi]at hx;cases hx
   ·simp only
    rw[ij hi j (k+1) (λi h1 h2=>hh i (by omega) (by omega)) (by omega) (by omega)]
  ·rw[hx]
theorem cP{α O:Type}(c:Nat->Bool)(h:Nat->α)(o:O)(n:Nat):Od (λk=>cond (c k) (.inl (h k)) (.inr o)) n 0=cond ((List.range n).all c) (.inl ((List.range' 0 n).map h)) (.inr o):=by
 cases hc:(List.range n).all c with
 |true=>
  rw[Ab]
  exact aU n 0 λi _ hi=>by
   rw[Al.1 hc i (AL.2 (by omega))];rfl
 |false=>
  rw[Aa]
  obtain⟨i,hi,hb⟩:=List.all_eq_false.1 hc
  rw[AL]at hi
  have hb:c i=false:=by simpa using hb
  refine ij (i:=i) (by rw[hb];rfl) n 0 (λi _ _=>?_) (by omega) (by omega)
  cases c i with
  |true=>exact .inl ⟨_,rfl⟩
  |false=>exact .inr rfl
theorem AbE(b:List Rt):(List.range b.length).all (λk=>IE (atR b k))=b.all IE:=by
 rw[Cn,Al,Al]
 constructor
 ·intro h x hx
  obtain⟨i,hi,rfl⟩:=Fc hx
  rw[MD hi];exact h i (AL.2 hi)
 ·intro h i hi
  rw[AL]at hi
  rw[<-MD hi];exact h _ (Ag hi)
theorem AbD(a:Mx)(f:List Rt->Bool):(List.range a.length).all (λk=>f (Eo a k))=a.all f:=by
 rw[Cn,Al,Al]
 constructor
 ·intro h x hx
  obtain⟨i,hi,rfl⟩:=Fc hx
  rw[HJ hi];exact h i (AL.2 hi)
 ·intro h i hi
  rw[AL]at hi
  rw[<-HJ hi];exact h _ (Ag hi)
theorem nU{a:Mx}{b:List Rt}(h:W9 a b=true):R3 b.length (b.length+1) (Wb a b):=by
 unfold W9 at h
 simp only[Ac,BU]at h
 refine⟨by unfold Wb;simp,λi hi=>?_⟩
 have ha:i < a.length:=by rw[h.1];exact hi
 have hr:=Al.1 h.2.1 _ (Ag ha)
 unfold rowOk at hr
 rw[Ac,BU,HJ ha]at hr
 unfold Wb
 have:Eo ((List.range' 0 b.length).map λk=>Eo a k++[atR b k]) i=Eo a i++[atR b i]:=by
  rw[<-HJ (by simp;exact hi),BJ]
  simp
 rw[this,Aq,hr.1];rfl
theorem AdJ{b:List Rt}{m:Mx}(h:R3 b.length (b.length+1) m)(hl:b.length<=lim):An (MB b m) fz ([],0)=some (Od (TL b.length m) b.length 0):=by
 rw[show(([]:List Rt),(0:Int))=(λ(s:List Rt) (k:Nat)=>(s,(k:Int))) [] 0 from rfl,
  Ez (n:=b.length) (O:=List Rt×Bool) (λs k=>(s,(k:Int))) (λk s=>s.length=k) (λk s=>fL s (TL b.length m k)) id hl (λrec s k hk hi=>?_) (λrec s hi=>?_) (λk s s' hk hi hs=>?_) [] rfl]
 ·rw[Ra]
  cases Od (TL b.length m) b.length 0<;>rfl
 ·show cond (decide ((s:Int) < (b.length:Int))) _ _=_
  rw[Bl hk,Ab,H7 (by rw[h.1];exact hk)]
  simp only[G]
  rw[EP (by rw[h.2 s hk];omega),EP (by rw[h.2 s hk];omega)]
  simp only[G]
  rw[rr]
  simp only[G]
  unfold TL
  cases(Ru (atR (Eo m s) b.length) (atR (Eo m s) s)).2 with
  |false=>rfl
  |true=>
   rw[Ai,Aa,AN (by rw[hi,Ao];unfold lim at hl⊢;omega),Bn hk (Bd hl)]
   rfl
 ·show cond (decide ((b.length:Int) < (b.length:Int))) _ _=_
  rw[Bh];rfl
 ·unfold TL at hs
  cases hc:(Ru (atR (Eo m k) b.length) (atR (Eo m k) k)).2 with
  |false=>rw[hc]at hs;cases hs
  |true=>rw[hc]at hs;cases hs;rw[Aq,hi];rfl
theorem Acm{b:List Rt}{m:Mx}(h:R3 b.length (b.length+1) m)(hl:b.length<=lim):An (Mw b m) fz ([],0)=some (Od (TL b.length m) b.length 0):=by
 rw[show(([]:List Rt),(0:Int))=(λ(s:List Rt) (k:Nat)=>(s,(k:Int))) [] 0 from rfl,
  Ez (n:=b.length) (O:=List Rt×Bool) (λs k=>(s,(k:Int))) (λk s=>s.length=k) (λk s=>fL s (TL b.length m k)) id hl (λrec s k hk hi=>?_) (λrec s hi=>?_) (λk s s' hk hi hs=>?_) [] rfl]
 ·rw[Ra]
  cases Od (TL b.length m) b.length 0<;>rfl
 ·show cond (decide ((s:Int) < (b.length:Int))) _ _=_
  rw[Bl hk,Ab,H7 (by rw[h.1];exact hk)]
  simp only[G]
  rw[EP (by rw[h.2 s hk];omega),EP (by rw[h.2 s hk];omega)]
  simp only[G]
  rw[pj]
  simp only[G]
  unfold TL
  cases(Ru (atR (Eo m s) b.length) (atR (Eo m s) s)).2 with
  |false=>rfl
  |true=>
   rw[Ai,Aa,AN (by rw[hi,Ao];unfold lim at hl⊢;omega),Bn hk (Bd hl)]
   rfl
 ·show cond (decide ((b.length:Int) < (b.length:Int))) _ _=_
  rw[Bh];rfl
 ·unfold TL at hs
  cases hc:(Ru (atR (Eo m k) b.length) (atR (Eo m k) k)).2 with
  |false=>rw[hc]at hs;cases hs
  |true=>rw[hc]at hs;cases hs;rw[Aq,hi];rfl
theorem Adx{a:Mx}{b:List Rt}(hl:b.length<=6)(ha:a.length=b.length)(hr:a.all (rowOk b.length)=true):An (My a b) fz ([],0)=some (cond (b.all IE) (.inl (Wb a b)) (.inr ([],false))):=by
 have hn:b.length<=lim:=by unfold lim;omega
 rw[show(([]:Mx),(0:Int))=(λ(s:Mx) (k:Nat)=>(s,(k:Int))) [] 0 from rfl,
  Ez (n:=b.length) (O:=List Rt×Bool) (λs k=>(s,(k:Int))) (λk s=>s.length=k) (λk s=>fL s (cond (IE (atR b k)) (.inl (Eo a k++[atR b k])) (.inr ([],false)):Sum (List Rt) (List Rt×Bool))) id hn (λrec s k hk hi=>?_) (λrec s hi=>?_) (λk s s' hk hi hs=>?_) [] rfl]
 ·rw[Ra,cP,AbE]
  unfold Wb
  cases b.all IE<;>rfl
 ·have hka:s < a.length:=by rw[ha];exact hk
  have hrl:=Al.1 hr _ (Ag hka)
  unfold rowOk at hrl
  rw[Ac,BU,HJ hka]at hrl
  show cond (decide ((s:Int) < (b.length:Int))) _ _=_
  rw[Bl hk,Ab,EP hk]
  simp only[G]
  rw[RH]
  simp only[G]
  cases IE (atR b s)with
  |false=>rfl
  |true=>
   rw[Ai,Aa,H7 hka]
   simp only[G]
   rw[AN (by rw[hrl.1];simp;unfold lim;omega),AN (by rw[Bg,hrl.1,Ao];unfold lim;omega),AN (by rw[hi,Ao];unfold lim;omega),Bn hk (Bd hn),Bg]
   rfl
 ·show cond (decide ((b.length:Int) < (b.length:Int))) _ _=_
  rw[Bh];rfl
 ·cases hc:IE (atR b k)with
  |false=>rw[hc]at hs;cases hs
  |true=>rw[hc]at hs;cases hs;rw[Aq,hi];rfl
theorem Aca{a:Mx}{b:List Rt}(hl:b.length<=6)(ha:a.length=b.length):An (Ms a b) fz ([],0)=some (cond (a.all (rowOk b.length)) (.inl (Wb a b)) (.inr ([],false))):=by
 have hn:b.length<=lim:=by unfold lim;omega
 rw[show(([]:Mx),(0:Int))=(λ(s:Mx) (k:Nat)=>(s,(k:Int))) [] 0 from rfl,
  Ez (n:=b.length) (O:=List Rt×Bool) (λs k=>(s,(k:Int))) (λk s=>s.length=k) (λk s=>fL s (cond (rowOk b.length (Eo a k)) (.inl (Eo a k++[atR b k])) (.inr ([],false)):Sum (List Rt) (List Rt×Bool))) id hn (λrec s k hk hi=>?_) (λrec s hi=>?_) (λk s s' hk hi hs=>?_) [] rfl]
 ·rw[Ra,cP,<-ha,AbD,ha]
  unfold Wb
  cases a.all (rowOk b.length)<;>rfl
 ·have hka:s < a.length:=by rw[ha];exact hk
  show cond (decide ((s:Int) < (a.length:Int))) _ _=_
  rw[Bl hka,Ab,H7 hka]
  simp only[G]
  unfold rowOk
  by_cases hrl:(Eo a s).length=b.length
  ·rw[hrl,CR,Aa,Ci,AJ,XK (by rw[hrl];exact hn)]
   simp only[G]
   cases(Eo a s).all IE with
   |false=>rfl
   |true=>
    rw[Ai,Aa]
    unfold Ib
    rw[AN (by rw[hrl];simp;unfold lim;omega),Bg]
    simp only[G]
    rw[EP hk]
    simp only[G]
    rw[AN (by rw[hrl,Ao];unfold lim;omega),AN (by rw[hi,Ao];unfold lim;omega),Bn hk (Bd hn)]
    rfl
  ·rw[show(((Eo a s).length:Int)!=(b.length:Int))=true from by rw[C4];omega,Ab,show((Eo a s).length==b.length)=false from by simpa using hrl]
   rfl
 ·show cond (decide ((b.length:Int) < (a.length:Int))) _ _=_
  rw[ha,Bh];rfl
 ·cases hc:rowOk b.length (Eo a k)with
  |false=>rw[hc]at hs;cases hs
  |true=>rw[hc]at hs;cases hs;rw[Aq,hi];rfl
theorem AdI{a:Mx}{b:List Rt}(ha:a.length<=lim)(hb:b.length<=lim):HY a b=some (SH a b):=by
 unfold HY SH
 cases h6:decide (6 < (b.length:Int))with
 |true=>rfl
 |false=>
  have hl:b.length<=6:=by have:=GW h6;omega
  rw[Aa,Aa,uU ha hb]
  simp only[G]
  unfold W9
  by_cases hal:a.length=b.length
  ·rw[hal,Ci,Ci,AJ,CL]
   cases hr:a.all (rowOk b.length)with
   |false=>rfl
   |true=>
    rw[Ai,Aa,Adx hl hal hr,AJ]
    simp only[G]
    cases hv:b.all IE with
    |false=>rfl
    |true=>
     rw[Ab,Ab]
     have ho:=nU (a:=a) (b:=b) (by unfold W9;rw[hal,Ci,hr,hv];rfl)
     have hg:=ma hl b.length 0 (Wb a b) fz (by omega) (EO hb) ho
     rw[show((0:Nat):Int)=0 from rfl]at hg
     simp only[G]
     rw[hg]
     cases hm:PT b.length b.length 0 (Wb a b)with
     |none=>rfl
     |some m=>
      simp only[G]
      rw[AdJ (XJ (by omega) ho hm) hb]
      simp only[G]
      cases Od (TL b.length m) b.length 0<;>rfl
  ·rw[show((a.length:Int)==(b.length:Int))=false from by rw[Bw];omega,H1,show(a.length==b.length)=false from by simpa using hal]
   rfl
theorem Acl{a:Mx}{b:List Rt}(hb:b.length<=lim):HO a b=some (SH a b):=by
 unfold HO SH
 cases h6:decide (6 < (b.length:Int))with
 |true=>rfl
 |false=>
  have hl:b.length<=6:=by have:=GW h6;omega
  rw[Aa,Aa]
  unfold W9
  by_cases hal:a.length=b.length
  ·rw[hal,CR,Ci,AJ,Aa,XK hb]
   simp only[G]
   cases hv:b.all IE with
   |false=>rw[H1];rfl
   |true=>
    rw[Ai,Aa,Aca hl hal,CL]
    simp only[G]
    cases hr:a.all (rowOk b.length)with
    |false=>rfl
    |true=>
     rw[Ab,Ab]
     have ho:=nU (a:=a) (b:=b) (by unfold W9;rw[hal,Ci,hr,hv];rfl)
     have hg:=lA hl b.length 0 (Wb a b) fz (by omega) (EO hb) ho
     rw[show((0:Nat):Int)=0 from rfl]at hg
     simp only[G]
     rw[hg]
     cases hm:PT b.length b.length 0 (Wb a b)with
     |none=>rfl
     |some m=>
      simp only[G]
      rw[Acm (XJ (by omega) ho hm) hb]
      simp only[G]
      cases Od (TL b.length m) b.length 0<;>rfl
  ·rw[show((a.length:Int)!=(b.length:Int))=true from by rw[C4];omega,show(a.length==b.length)=false from by simpa using hal]
   rfl
theorem WJ{α O:Type}{P:O->Prop}{g:Nat->Sum α O}(h:∀k o,g k=.inr o->P o):∀{j k:Nat}{o:O},Od g j k=.inr o->P o
 |0,_,_,e=>by cases e
 |j+1,k,o,e=>by
  rw[Od]at e
  cases hg:g k with
  |inr o'=>rw[hg]at e;cases e;exact h k _ hg
  |inl x=>
   rw[hg]at e
   cases hm:Od g j (k+1)with
   |inl l=>simp only[hm]at e;cases e
   |inr o'=>simp only[hm]at e;cases e;exact WJ h hm
theorem mg{a:Mx}{b x:List Rt}(h:SH a b=(x,true)):x.length=b.length:=by
 unfold SH at h
 cases h6:decide (6 < (b.length:Int))with
 |true=>rw[h6]at h;cases h
 |false=>
  rw[h6,Aa]at h
  cases hs:W9 a b with
  |false=>rw[hs]at h;cases h
  |true=>
   rw[hs,Ab]at h
   cases hg:PT b.length b.length 0 (Wb a b)with
   |none=>rw[hg]at h;cases h
   |some m=>
    rw[hg]at h
    cases hm:Od (TL b.length m) b.length 0 with
    |inl y=>simp only[hm]at h;cases h;exact WK hm
    |inr o=>
     simp only[hm]at h
     exfalso
     have:=WJ (P:=λo=>o.2=false) (g:=TL b.length m) (λk o ho=>by
      unfold TL at ho
      cases hc:(Ru (atR (Eo m k) b.length) (atR (Eo m k) k)).2 with
      |false=>rw[hc]at ho;cases ho;rfl
      |true=>rw[hc]at ho;cases ho) hm
     rw[h]at this;cases this
end Go.Proofs.YtaagdgjndpgdgaaGreatDoor
