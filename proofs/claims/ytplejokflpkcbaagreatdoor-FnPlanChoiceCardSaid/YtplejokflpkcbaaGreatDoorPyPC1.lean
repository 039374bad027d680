/-
 Atoms taken off one after the other (join trees), the same on both sides. On the printed functions; conditions: sizes, a valid query.
-/
import Derived.Test.YtplejokflpkcbaaGreatDoorWtPC1
import Derived.Test.YtplejokflpkcbaaGreatDoorSwPC1
import Derived.Test.YtplejokflpkcbaaGreatDoorKc
import Derived.Test.YtplejokflpkcbaaGreatDoorNgPC1
import Derived.Test.YtplejokflpkcbaaGreatDoorVaPC1
open Go.RowKit
set_option linter.unusedVariables false
set_option linter.unusedSimpArgs false
namespace Go.Proofs.YtplejokflpkcbaaGreatDoor
def aH(q:Hc)(j:Nat)(v:Int):Bool:=J6 q.2.1 j λa=>a.2.contains v
def UK(q:Hc)(L:Nat->Bool)(i k:Nat):Bool:=(List.range q.1.toNat).all λv=> !aH q i (v:Int) || (!((List.range q.2.1.length).any λj=>(L j&&j !=i)&&aH q j (v:Int)) || aH q k (v:Int))
def TX(q:Hc)(L:Nat->Bool)(i:Nat):Option Nat:=(List.range q.2.1.length).findSome? λk=>if(L k&&k !=i)&&UK q L i k then some k else none
def Qh(q:Hc)(L:Nat->Bool):Option (Nat×Nat):=(List.range q.2.1.length).findSome? λi=>if L i then(TX q L i).map λk=>(i,k)else none
def runM(q:Hc):Nat->List Nat->(Nat->Int)->(Nat->Bool)->List Nat×(Nat->Int)
 |0,out,up,_=>(out,up)
 |f+1,out,up,L=>match Qh q L with
  |none=>(out,up)
  |some (i,k)=>runM q f (out++[i]) (λj=>if j=i then(k:Int)else up j) (λj=>L j&&j !=i)
def QR(m:Nat)(up:Nat->Int):List Int:=(List.range m).map up
def gyM(q:Hc):List Int×List Int:=(oI (runM q q.2.1.length [] (λ_=> -1) (λ_=>true)).1,QR q.2.1.length (runM q q.2.1.length [] (λ_=> -1) (λ_=>true)).2)
def ZM(m:Nat)(L:Nat->Bool):Nat:=((List.range m).filter L).length
theorem OS{α:Type}{m j:Nat}(f:Nat->α)(h:j < m):AZ ((List.range m).map f) (j:Int)=some (f j):=by
 rw[Bm (by simp;exact h)];simp
theorem Uf{α:Type}{m j:Nat}(f:Nat->α)(x:α)(h:j < m):Da ((List.range m).map f) (j:Int) x=(List.range m).map λt=>if t=j then x else f t:=by
 unfold Da
 rw[Bk]
 refine GV λt=>?_
 by_cases ht:t < m
 ·rw[DM,BE,BE,CE ht,Br,Br]
  by_cases he:j=t
  ·subst he;rw[AI rfl,AI (by simp;exact h),AI rfl]
  ·rw[AJ he,AJ (λe=>he e.symm)]
 ·rw[A8 (by simp;omega),A8 (by simp;omega)]
theorem QY{q:Hc}{L:Nat->Bool}{i k:Nat}(h:Qh q L=some (i,k)):i < q.2.1.length∧k < q.2.1.length∧L i=true:=by
 unfold Qh at h
 obtain⟨a,ha,h1⟩:=D7 h
 split at h1
 ·rename_i hL
  unfold TX at h1
  cases hk:(List.range q.2.1.length).findSome? λk=>if(L k&&k !=a)&&UK q L a k then some k else none with
  |none=>rw[hk]at h1;cases h1
  |some b=>
   rw[hk]at h1
   simp only[Br,Ao,B3]at h1
   obtain⟨rfl,rfl⟩:=h1
   obtain⟨c,hc,h2⟩:=D7 hk
   split at h2
   ·cases h2;exact⟨An.1 ha,An.1 hc,hL⟩
   ·cases h2
 ·cases h1
theorem bg{m:Nat}{L:Nat->Bool}{i:Nat}(hi:i < m)(h:L i=true):ZM m (λj=>L j&&j !=i) < ZM m L:=by
 unfold ZM
 have e:(List.range m).filter (λj=>L j&&j !=i)=((List.range m).filter L).filter (λj=>j !=i):=by
  rw[List.filter_filter]
  congr 1
  funext j
  exact HU _ _
 rw[e]
 have hm:i∈(List.range m).filter L:=Bf.2 ⟨An.2 hi,h⟩
 have:=List.length_filter_lt_length_iff_exists (p:=λj=>j !=i) (l:=(List.range m).filter L)
 exact this.2 ⟨i,hm,by simp⟩
theorem dZ{m:Nat}{L:Nat->Bool}{i:Nat}(hi:i < m)(h:L i=true):0 < ZM m L:=by
 unfold ZM
 exact Gl (Bf.2 ⟨An.2 hi,h⟩)
section
variable {q:Hc}{L:Nat->Bool}
theorem R1{j:Nat}(h:j < q.2.1.length)(v:Int):q.2.1[j].2.contains v=aH q j v:=by unfold aH;rw[CP h]
theorem xn(hq:JH q)(i:Nat)(v:Int):Ap (Jd q (uL q.2.1.length L) (i:Int) v) fz (false,0)=some ((List.range q.2.1.length).any λj=>(L j&&j !=i)&&aH q j v):=by
 have:=Cs (body:=Jd q (uL q.2.1.length L) (i:Int) v) (out:=(List.range q.2.1.length).any λj=>(L j&&j !=i)&&aH q j v) (λk=>((List.range k).any λj=>(L j&&j !=i)&&aH q j v,(k:Int))) q.2.1.length (λk hk rec=>by
  have ha:=hq.2.1 _ (Ak hk)
  unfold Jd Jf
  simp only
  rw[Bu hk,BC hk (Be hq.1),show AZ (uL q.2.1.length L) (k:Int)=some (L k)from OS L hk,Bm hk,Tc]
  simp only[Ac,Aa,X9 ha.2]
  rw[R1 hk,CI,GC,EM,List.any_nil,CV]
  cases(List.range k).any λj=>(L j&&j !=i)&&aH q j v<;>cases L k<;>cases k !=i<;>cases aH q k v<;>rfl) (λrec=>by unfold Jd;simp only;rw[Ba];rfl) fz (CQ hq.1)
 simpa using this
theorem xh(hq:JH q)(hv:De q=true){i k:Nat}(hi:i < q.2.1.length)(hk:k < q.2.1.length):Ap (Jc q (uL q.2.1.length L) (i:Int) (k:Int)) fz (true,0)=some (UK q L i k):=by
 obtain⟨h1,h5⟩:=KY hv
 have:=Cs (body:=Jc q (uL q.2.1.length L) (i:Int) (k:Int)) (out:=UK q L i k) (λt=>((List.range t).all λv=> !aH q i (v:Int) || (!((List.range q.2.1.length).any λj=>(L j&&j !=i)&&aH q j (v:Int)) || aH q k (v:Int)),(t:Int))) q.1.toNat (λt ht rec=>by
  have hai:=hq.2.1 _ (Ak hi)
  have hak:=hq.2.1 _ (Ak hk)
  unfold Jc Jg
  simp only
  rw[Ag (by omega:(t:Int) < q.1),xn hq,wrap_in (by omega),Bm hi,Bm hk]
  simp only[Ac,Aa,X9 hai.2,X9 hak.2]
  rw[R1 hi,R1 hk,CI,Es,Bt,ED,Cu]
  cases(List.range t).all λv=> !aH q i (v:Int) || (!((List.range q.2.1.length).any λj=>(L j&&j !=i)&&aH q j (v:Int)) || aH q k (v:Int))<;>cases aH q i (t:Int)<;>cases((List.range q.2.1.length).any λj=>(L j&&j !=i)&&aH q j (t:Int))<;>cases aH q k (t:Int)<;>rfl) (λrec=>by
  unfold Jc;simp only;rw[Ah (by omega:¬((q.1.toNat:Nat):Int) < q.1)];rfl) fz (CQ (by unfold lim;omega))
 simpa using this
theorem xf(hq:JH q)(hv:De q=true):QB q (uL q.2.1.length L)=some (match Qh q L with|some (i,k)=>((i:Int),(k:Int))|none=>(-1,-1)):=by
 unfold QB
 have key:=Po (B:=Nt q (uL q.2.1.length L)) (n:=q.2.1.length) (λi=>if L i then(TX q L i).map (λ(k:Nat)=>((i:Int),(k:Int)))else none) hq.1 (λi hi rec=>by
  unfold Nt
  have k2:=Po (B:=K6 q (uL q.2.1.length L) (i:Int)) (n:=q.2.1.length) (λk=>if L i then(if(L k&&k !=i)&&UK q L i k then some ((i:Int),(k:Int))else none)else none) hq.1 (λk hk rec=>by
   unfold K6 Je
   rw[Bu hk,BC hk (Be hq.1),show AZ (uL q.2.1.length L) (i:Int)=some (L i)from OS L hi,show AZ (uL q.2.1.length L) (k:Int)=some (L k)from OS L hk,aa]
   simp only[Ac,Aa,xh hq hv hi hk]
   have e:(i==k)= !(k !=i):=by
    rw[AL];simp;exact eq_comm
   rw[e]
   cases L i<;>cases L k<;>cases k !=i<;>cases UK q L i k<;>rfl) (λrec=>by unfold K6;rw[Ba];rfl)
  rw[Bu hi,k2,BC hi (Be hq.1)]
  simp only[Ac,Aa]
  cases hL:L i with
  |false=>
   have:((List.range q.2.1.length).findSome? λk=>if(false:Bool)=true then(if(L k&&k !=i)&&UK q L i k then some ((i:Int),(k:Int))else none)else none)=none:=by
    rw[List.findSome?_eq_none_iff];intro x _;rfl
   rw[this];rfl
  |true=>
   have:((List.range q.2.1.length).findSome? λk=>if(true:Bool)=true then(if(L k&&k !=i)&&UK q L i k then some ((i:Int),(k:Int))else none)else none)=(TX q L i).map λ(k:Nat)=>((i:Int),(k:Int)):=by
    unfold TX
    rw[FD]
    congr 1
    funext k
    simp only[Function.comp,Fh]
    split<;>rfl
   rw[this,AI rfl]
   cases TX q L i<;>rfl) (λrec=>by unfold Nt;rw[Ba];rfl)
 rw[key]
 have e:((List.range q.2.1.length).findSome? λi=>if L i then(TX q L i).map (λ(k:Nat)=>((i:Int),(k:Int)))else none)=(Qh q L).map λ(x:Nat×Nat)=>((x.1:Int),(x.2:Int)):=by
  unfold Qh
  rw[FD]
  congr 1
  funext i
  simp only[Function.comp]
  split
  ·rw[Option.map_map];rfl
  ·rfl
 rw[e]
 cases Qh q L<;>rfl
theorem kV(hq:JH q)(hv:De q=true):∀(c:Nat) (out:List Nat) (up:Nat->Int) (L:Nat->Bool) (M:Nat),ZM q.2.1.length L<=c->c < M->out.length+c<=100->Ap (Nw q) M (oI out,QR q.2.1.length up,uL q.2.1.length L)=some (.inr (oI (runM q c out up L).1,QR q.2.1.length (runM q c out up L).2))
 |c,out,up,L,0,h1,h2,_=>by omega
 |c,out,up,L,M+1,h1,h2,h3=>by
  rw[By]
  have hstep:∀rec:(List Int×List Int×List Bool)->Option (Sum Unit (List Int×List Int)),Nw q rec (oI out,QR q.2.1.length up,uL q.2.1.length L)=match Qh q L with
    |none=>some (.inr (oI out,QR q.2.1.length up))
    |some (i,k)=>rec (oI (out++[i]),QR q.2.1.length (λj=>if j=i then(k:Int)else up j),uL q.2.1.length (λj=>L j&&j !=i)):=λrec=>by
   unfold Nw
   simp only
   rw[xf hq hv]
   simp only[Aa]
   cases he:Qh q L with
   |none=>rfl
   |some x=>
    obtain⟨i,k⟩:=x
    obtain⟨e1,e2,e3⟩:=QY he
    simp only
    rw[Ah (by omega:¬(i:Int) < 0),Ad,AH (by rw[C6];unfold lim;simp;omega),AH (by simp[QR];omega),show AZ (QR q.2.1.length up) (i:Int)=some (up i)from OS up e1]
    simp only
    rw[AH (by simp[uL];omega),show AZ (uL q.2.1.length L) (i:Int)=some (L i)from OS L e1]
    simp only
    rw[Td]
    congr 1
    congr 1
    congr 1
    ·exact Uf up _ e1
    ·unfold uL
     rw[Uf L _ e1]
     refine BI λt _=>?_
     by_cases ht:t=i
     ·subst ht;simp
     ·rw[AJ ht];simp[ht]
  rw[hstep]
  cases c with
  |zero=>
   have hn:Qh q L=none:=by
    cases he:Qh q L with
    |none=>rfl
    |some x=>
     obtain⟨i,k⟩:=x
     obtain⟨e1,e2,e3⟩:=QY he
     have:=dZ e1 e3
     omega
   rw[hn];rfl
  |succ c=>
   rw[runM]
   cases he:Qh q L with
   |none=>rfl
   |some x=>
    obtain⟨i,k⟩:=x
    obtain⟨e1,e2,e3⟩:=QY he
    have:=bg e1 e3
    exact kV hq hv c _ _ _ M (by omega) (by omega) (by simp;omega)
theorem o9(hq:JH q)(hv:De q=true):OA q=some (gyM q):=by
 obtain⟨_,_,h4,_⟩:=MG hv
 unfold OA
 rw[Bk,AH (by unfold lim;omega),AH (by unfold lim;omega)]
 have key:=Cs (body:=Nv) (out:=(QR q.2.1.length (λ_=> -1),uL q.2.1.length (λ_=>true))) (λt=>(QR q.2.1.length (λj=>if j < t then -1 else 0),uL q.2.1.length (λj=>decide (j < t)),(t:Int))) q.2.1.length (λt ht rec=>by
  unfold Nv
  simp only
  rw[Wg,Bu ht,BC ht (Be hq.1),AH (by omega),show AZ (uL q.2.1.length (λj=>decide (j < t))) (t:Int)=some (decide (t < t))from OS _ ht]
  simp only[Ac,Aa]
  rw[AH (by simp[QR];omega),show AZ (QR q.2.1.length (λj=>if j < t then -1 else 0)) (t:Int)=some (if t < t then -1 else 0)from OS (λj=>if j < t then(-1:Int)else 0) ht]
  simp only
  congr 1
  congr 1
  ·unfold QR
   rw[Uf _ _ ht]
   refine BI λx _=>?_
   by_cases hx:x=t
   ·subst hx;rw[AI rfl,AI (by omega)]
   ·rw[AJ hx]
    by_cases hx2:x < t
    ·rw[AI hx2,AI (by omega)]
    ·rw[AJ hx2,AJ (by omega)]
  ·congr 1
   unfold uL
   rw[Uf _ _ ht]
   refine BI λx _=>?_
   by_cases hx:x=t
   ·subst hx;rw[AI rfl,Ag (by omega)]
   ·rw[AJ hx,AL,AE,AE];omega) (λrec=>by
  unfold Nv
  simp only
  rw[Wg,Ba,Ad]
  congr 1
  congr 1
  ·exact BI λx hx=>by rw[AI (An.1 hx)]
  ·exact BI λx hx=>Ag (An.1 hx)) fz (CQ hq.1)
 have e0:((List.replicate q.2.1.length (0:Int),List.replicate q.2.1.length false,(0:Int)):List Int×List Bool×Int)=(QR q.2.1.length (λj=>if j < 0 then -1 else 0),uL q.2.1.length (λj=>decide (j < 0)),((0:Nat):Int)):=by
  congr 1
  ·unfold QR
   have:(λj:Nat=>if j < 0 then(-1:Int)else 0)=λ_=>0:=by funext j;rw[AJ (by omega)]
   rw[this,Eu,BZ]
  ·congr 1
   unfold uL
   have:(λj:Nat=>decide (j < 0))=λ_=>false:=by funext j;exact Ah (by omega)
   rw[this,Eu,BZ]
 rw[e0,key]
 simp only[Aa]
 have hr:=kV hq hv q.2.1.length [] (λ_=> -1) (λ_=>true) fz (by unfold ZM;exact BD (BS _ _) (by simp)) (CQ hq.1) (by simp;omega)
 rw[show(([]:List Int),QR q.2.1.length (λ_=> -1),uL q.2.1.length (λ_=>true))=(oI [],QR q.2.1.length (λ_=> -1),uL q.2.1.length (λ_=>true))from rfl,hr]
 rfl
end
section
variable {q:Hc}{L:Nat->Bool}
def okY(q:Hc)(L:Nat->Bool)(i k:Nat)(v:Int)(j:Nat):Bool:= !((j !=i&&L j)&&aH q j v) || aH q k v
theorem qb(hv:De q=true){i k:Nat}(hi:i < q.2.1.length):(q.2.1[i].2.all λv=>(List.range q.2.1.length).all (okY q L i k v))=UK q L i k:=by
 obtain⟨_,_,_,hin⟩:=MG hv
 have hia:=(hin _ (Ak hi)).2
 rw[AL]
 unfold UK
 rw[Ae,Ae]
 constructor
 ·intro h u hu
  have hu:=An.1 hu
  cases hc:aH q i (u:Int)with
  |false=>rfl
  |true=>
   rw[<-R1 hi]at hc
   have h1:=Ae.1 (h _ (Av.1 hc))
   cases hk:aH q k (u:Int)with
   |true=>simp
   |false=>
    rw[Al,Ck,CV,AC,Cm]
    intro j hj hh
    have:=h1 j hj
    unfold okY at this
    rw[hk,CV,AC]at this
    rw[Ab,Ab]at hh
    rw[hh.1.1,hh.1.2,hh.2]at this
    cases this
 ·intro h v hvm
  obtain⟨b1,b2⟩:=hia v hvm
  have h1:=h v.toNat (An.2 (by omega))
  have e:((v.toNat:Nat):Int)=v:=by omega
  rw[e,<-R1 hi,Av.2 hvm,Al,Ck]at h1
  rw[Ae]
  intro j hj
  unfold okY
  cases hk:aH q k v with
  |true=>simp
  |false=>
   rw[hk,CV,AC,Cm]at h1
   have:=h1 j hj
   rw[CV,AC,GA]
   cases hb:aH q j v with
   |false=>right;rfl
   |true=>
    left
    rw[hb,Cu]at this
    rw[HU]
    exact IJ.2 this
theorem oB(hq:JH q){i k:Nat}(hk:k < q.2.1.length)(v:Int):∀(d j M:Nat) (ok:Bool),j+d=q.2.1.length->d < M->Ap (FB (i:Int) (q.2.1.length:Int) (uL q.2.1.length λj=> !L j) q (k:Int) v) M (ok,(j:Int))=some (ok&&(List.range' j d).all (okY q L i k v))
 |0,j,M+1,ok,h1,h2=>by
  rw[By]
  generalize Ap (FB (i:Int) (q.2.1.length:Int) (uL q.2.1.length λj=> !L j) q (k:Int) v) M=rec
  unfold FB
  simp only
  rw[Ah (by omega)]
  simp
 |d+1,j,M+1,ok,h1,h2=>by
  have hj:j < q.2.1.length:=by omega
  have hB:∀rec:(Bool×Int)->Option Bool,FB (i:Int) (q.2.1.length:Int) (uL q.2.1.length λj=> !L j) q (k:Int) v rec (ok,(j:Int))=cond ok (rec (okY q L i k v j,((j+1:Nat):Int))) (some false):=λrec=>by
   have haj:=hq.2.1 _ (Ak hj)
   have hak:=hq.2.1 _ (Ak hk)
   unfold FB I0 Ll
   simp only
   rw[Ag (by omega:(j:Int) < (q.2.1.length:Int)),Tc,show AZ (uL q.2.1.length λj=> !L j) (j:Int)=some (!L j)from OS (λj=> !L j) hj,Bm hj,Bm hk,BC hj (Be hq.1)]
   simp only[Ac,Aa,cY haj.2,cY hak.2]
   rw[R1 hj,R1 hk]
   unfold okY
   cases ok<;>cases j !=i<;>cases L j<;>cases aH q j v<;>cases aH q k v<;>rfl
  rw[By,hB,C4,Bt]
  cases ok with
  |false=>rfl
  |true=>rw[Ac,oB hq hk v d (j+1) M _ (by omega) (by omega)];rfl
 |_,_,0,_,_,h=>by omega
theorem qt(hq:JH q)(hv:De q=true){i k:Nat}(hi:i < q.2.1.length)(hk:k < q.2.1.length):Ap (IY (i:Int) (q.2.1.length:Int) (uL q.2.1.length λj=> !L j) q (k:Int) q.2.1[i]) fz (true,0)=some (UK q L i k):=by
 have hai:=hq.2.1 _ (Ak hi)
 rw[<-qb hv hi]
 generalize q.2.1[i]=a at hai
 have:=Cs (body:=IY (i:Int) (q.2.1.length:Int) (uL q.2.1.length λj=> !L j) q (k:Int) a) (out:=a.2.all λv=>(List.range q.2.1.length).all (okY q L i k v)) (λt=>((a.2.take t).all λv=>(List.range q.2.1.length).all (okY q L i k v),(t:Int))) a.2.length (λt ht rec=>by
  unfold IY
  simp only
  have:=oB (q:=q) (L:=L) hq (i:=i) hk a.2[t] q.2.1.length 0 fz ((a.2.take t).all λv=>(List.range q.2.1.length).all (okY q L i k v)) (by omega) (CQ hq.1)
  rw[Bu ht,Bm ht,BC ht (Be hai.2)]
  simp only[Ac,Aa]
  rw[show(0:Int)=((0:Nat):Int)from rfl,this]
  simp only
  rw[AB ht,Es,Bt,ED,Cu,<-ES]) (λrec=>by unfold IY;simp only;rw[Ba,A6];rfl) fz (CQ hai.2)
 simpa using this
theorem uI(hq:JH q)(hv:De q=true){i:Nat}(hi:i < q.2.1.length):N2 (i:Int) (q.2.1.length:Int) (uL q.2.1.length λj=> !L j) q=some (match TX q L i with|some k=>(k:Int)|none=> -1):=by
 unfold N2
 have key:=Po (B:=IX (i:Int) (q.2.1.length:Int) (uL q.2.1.length λj=> !L j) q) (n:=q.2.1.length) (λk=>if(L k&&k !=i)&&UK q L i k then some ((k:Nat):Int)else none) hq.1 (λk hk rec=>by
  unfold IX IZ
  rw[Bu hk,BC hk (Be hq.1),aa,show AZ (uL q.2.1.length λj=> !L j) (k:Int)=some (!L k)from OS (λj=> !L j) hk,Bm hi]
  simp only[Ac,Aa,qt hq hv hi hk]
  have e:(k==i)= !(k !=i):=by unfold bne;rw[Bool.not_not]
  rw[e]
  cases L k<;>cases k !=i<;>cases UK q L i k<;>rfl) (λrec=>by unfold IX;rw[Ba];rfl)
 rw[key]
 have e:((List.range q.2.1.length).findSome? λk=>if(L k&&k !=i)&&UK q L i k then some ((k:Nat):Int)else none)=(TX q L i).map λ(k:Nat)=>(k:Int):=by
  unfold TX
  rw[FD]
  congr 1
  funext k
  simp only[Function.comp]
  split<;>rfl
 rw[e]
 cases TX q L i<;>rfl
def bU(q:Hc)(L:Nat->Bool)(i:Nat):Option (Nat×Nat):=if L i then(TX q L i).map λk=>(i,k)else none
theorem jh(hq:JH q)(hv:De q=true){out:List Nat}{up:Nat->Int}(ho:out.length<=100):∀(d i M:Nat),i+d=q.2.1.length->d+1 < M->Ap (FSQ q) M (QR q.2.1.length up,uL q.2.1.length (λj=> !L j),oI out,false,(i:Int))=some (match(List.range' i d).findSome? (bU q L)with
  |none=>(QR q.2.1.length up,uL q.2.1.length (λj=> !L j),oI out,false)
  |some (i,k)=>(QR q.2.1.length (λj=>if j=i then(k:Int)else up j),uL q.2.1.length (λj=> !(L j&&j !=i)),oI (out++[i]),true))
 |0,i,M+1,h1,h2=>by
  rw[By]
  generalize Ap (FSQ q) M=rec
  unfold FSQ
  simp only
  rw[Ah (by omega)];rfl
 |d+1,i,M+1,h1,h2=>by
  have hi:i < q.2.1.length:=by omega
  have hB:∀rec:(List Int×List Bool×List Int×Bool×Int)->Option (List Int×List Bool×List Int×Bool),FSQ q rec (QR q.2.1.length up,uL q.2.1.length (λj=> !L j),oI out,false,(i:Int))=match bU q L i with
    |none=>rec (QR q.2.1.length up,uL q.2.1.length (λj=> !L j),oI out,false,((i+1:Nat):Int))
    |some (i,k)=>rec (QR q.2.1.length (λj=>if j=i then(k:Int)else up j),uL q.2.1.length (λj=> !(L j&&j !=i)),oI (out++[i]),true,((i+1:Nat):Int)):=λrec=>by
   unfold FSQ KP bU
   simp only
   rw[Bu hi,BC hi (Be hq.1),show AZ (uL q.2.1.length λj=> !L j) (i:Int)=some (!L i)from OS (λj=> !L j) hi]
   simp only[Ac,Aa,CD]
   cases hL:L i with
   |false=>rfl
   |true=>
    rw[Al,Ad,uI hq hv hi,AI rfl]
    simp only
    cases TX q L i with
    |none=>rfl
    |some k=>
     simp only[Br]
     rw[Ag (by omega:(0:Int)<=(k:Int)),Ac,AH (by simp[QR];omega),show AZ (QR q.2.1.length up) (i:Int)=some (up i)from OS up hi]
     simp only
     rw[AH (by simp[uL];omega),AH (by rw[C6];unfold lim;simp;omega),Td]
     congr 1
     congr 1
     ·exact Uf up _ hi
     ·congr 1
      unfold uL
      rw[Uf (λj=> !L j) _ hi]
      refine BI λt _=>?_
      by_cases ht:t=i
      ·subst ht;simp
      ·rw[AJ ht];simp[ht]
  have hE:∀(rec:(List Int×List Bool×List Int×Bool×Int)->Option (List Int×List Bool×List Int×Bool)) (a:List Int) (b:List Bool) (c:List Int) (x:Int),FSQ q rec (a,b,c,true,x)=some (a,b,c,true):=λrec a b c x=>by
   unfold FSQ
   simp only
   cases decide (x < (q.2.1.length:Int))<;>rfl
  rw[By,hB,C4,List.findSome?_cons]
  cases hn:bU q L i with
  |none=>exact jh hq hv ho d (i+1) M (by omega) (by omega)
  |some x=>
   obtain⟨i',k⟩:=x
   simp only
   cases M with
   |zero=>omega
   |succ M=>rw[By,hE]
 |_,_,0,_,h=>by omega
theorem jg(hq:JH q)(hv:De q=true):∀(c:Nat) (out:List Nat) (up:Nat->Int) (L:Nat->Bool) (M:Nat),ZM q.2.1.length L<=c->c+1 < M->out.length+c<=100->Ap (I1 q) M (QR q.2.1.length up,uL q.2.1.length (λj=> !L j),oI out,true)=some (QR q.2.1.length (runM q c out up L).2,oI (runM q c out up L).1)
 |c,out,up,L,0,h1,h2,_=>by omega
 |c,out,up,L,M+1,h1,h2,h3=>by
  have hscan:=jh (L:=L) hq hv (out:=out) (up:=up) (by omega) q.2.1.length 0 fz (by omega) (CQ (by have:=(MG hv).2.2.1;unfold lim;omega))
  have hp:(List.range' 0 q.2.1.length).findSome? (bU q L)=Qh q L:=by rw[<-ES];rfl
  rw[hp]at hscan
  have hE:∀(rec:(List Int×List Bool×List Int×Bool)->Option (List Int×List Int)) (a:List Int) (b:List Bool) (c:List Int),I1 q rec (a,b,c,false)=some (a,c):=λrec a b c=>rfl
  have hstep:∀rec:(List Int×List Bool×List Int×Bool)->Option (List Int×List Int),I1 q rec (QR q.2.1.length up,uL q.2.1.length (λj=> !L j),oI out,true)=match Qh q L with
    |none=>rec (QR q.2.1.length up,uL q.2.1.length (λj=> !L j),oI out,false)
    |some (i,k)=>rec (QR q.2.1.length (λj=>if j=i then(k:Int)else up j),uL q.2.1.length (λj=> !(L j&&j !=i)),oI (out++[i]),true):=λrec=>by
   unfold I1
   simp only[Ac]
   rw[show(0:Int)=((0:Nat):Int)from rfl,hscan]
   cases Qh q L with
   |none=>rfl
   |some x=>obtain⟨i,k⟩:=x;rfl
  rw[By,hstep]
  have hno:Qh q L=none->Ap (I1 q) M (QR q.2.1.length up,uL q.2.1.length (λj=> !L j),oI out,false)=some (QR q.2.1.length up,oI out):=λ_=>by
   cases M with
   |zero=>omega
   |succ M=>rw[By,hE]
  cases c with
  |zero=>
   have hn:Qh q L=none:=by
    cases he:Qh q L with
    |none=>rfl
    |some x=>
     obtain⟨i,k⟩:=x
     obtain⟨e1,e2,e3⟩:=QY he
     have:=dZ e1 e3
     omega
   rw[hn]
   exact hno hn
  |succ c=>
   rw[runM]
   cases he:Qh q L with
   |none=>exact hno he
   |some x=>
    obtain⟨i,k⟩:=x
    obtain⟨e1,e2,e3⟩:=QY he
    have:=bg e1 e3
    exact jg hq hv c _ _ _ M (by omega) (by omega) (by simp;omega)
theorem je(hq:JH q)(hv:De q=true):Ok q=some (gyM q):=by
 obtain⟨_,_,h4,_⟩:=MG hv
 unfold Ok
 rw[Bk,AH (by unfold lim;omega),AH (by unfold lim;omega)]
 have key:=Cs (body:=Ng q) (out:=QR q.2.1.length (λ_=> -1)) (λt=>(QR q.2.1.length (λj=>if j < t then -1 else 0),(t:Int))) q.2.1.length (λt ht rec=>by
  unfold Ng
  simp only
  rw[Bk,Dw,Bu ht,BC ht (Be hq.1),AH (by simp[QR];omega),show AZ (QR q.2.1.length (λj=>if j < t then -1 else 0)) (t:Int)=some (if t < t then -1 else 0)from OS (λj=>if j < t then(-1:Int)else 0) ht]
  simp only[Ac,Aa]
  congr 1
  congr 1
  unfold QR
  rw[Uf _ _ ht]
  refine BI λx _=>?_
  by_cases hx:x=t
  ·subst hx;rw[AI rfl,AI (by omega)]
  ·rw[AJ hx]
   by_cases hx2:x < t
   ·rw[AI hx2,AI (by omega)]
   ·rw[AJ hx2,AJ (by omega)]) (λrec=>by
  unfold Ng
  simp only
  rw[Bk,Dw,Ba,Ad]
  congr 1
  exact BI λx hx=>by rw[AI (An.1 hx)]) fz (CQ hq.1)
 have e0:((List.replicate q.2.1.length (0:Int),(0:Int)):List Int×Int)=(QR q.2.1.length (λj=>if j < 0 then -1 else 0),((0:Nat):Int)):=by
  congr 1
  unfold QR
  have:(λj:Nat=>if j < 0 then(-1:Int)else 0)=λ_=>0:=by funext j;rw[AJ (by omega)]
  rw[this,Eu,BZ]
 have e1:List.replicate q.2.1.length false=uL q.2.1.length (λj=> !(λ_=>true:Nat->Bool) j):=by
  unfold uL
  rw[show(λj:Nat=> !(λ_=>true:Nat->Bool) j)=λ_=>false from rfl,Eu,BZ]
 rw[e0,key,e1]
 simp only[Aa]
 have hr:=jg hq hv q.2.1.length [] (λ_=> -1) (λ_=>true) fz (by unfold ZM;exact BD (BS _ _) (by simp)) (CQ (by unfold lim;omega)) (by simp;omega)
 rw[show((QR q.2.1.length (λ_=> -1),uL q.2.1.length (λj=> !(λ_=>true:Nat->Bool) j),([]:List Int),true):List Int×List Bool×List Int×Bool)=(QR q.2.1.length (λ_=> -1),uL q.2.1.length (λj=> !(λ_=>true:Nat->Bool) j),oI [],true)from rfl,hr]
 rfl
def Vs(q:Hc):Bool:=((gyM q).1.length:Int)==(q.2.1.length:Int) - 1
theorem xc(hq:JH q)(hv:De q=true):JJ q=some (cond (Vs q) ((gyM q).2,true) ([],false)):=by
 obtain⟨_,_,h4,_⟩:=MG hv
 unfold JJ Ja IQ Ih
 rw[Ks hq,hv]
 simp only[Aa,Ac,Al,Ad,o9 hq hv]
 rw[wrap_in (by omega)]
 unfold Vs
 cases((gyM q).1.length:Int)==(q.2.1.length:Int) - 1<;>rfl
theorem uF(hq:JH q)(hv:De q=true):Jx q=some (cond (Vs q) ((gyM q).2,true) ([],false)):=by
 obtain⟨_,_,h4,_⟩:=MG hv
 unfold Jx PF LT Kj
 rw[Mj hq,hv]
 simp only[Aa,Ac,Al,Ad,je hq hv]
 rw[wrap_in (by omega)]
 unfold Vs
 cases((gyM q).1.length:Int)==(q.2.1.length:Int) - 1<;>rfl
end
def Wk(q:Hc)(v:Nat):List Nat:=(List.range q.2.1.length).filter λj=>aH q j (v:Int)
def NL(q:Hc)(out:List Int)(v:Nat):Bool:=(C1 q.1.toNat (Fe q v)).any out.contains
def KB(s:List Int)(i:Nat):Int:=s.getD i 0
def Sx(q:Hc)(s:List Int)(v:Nat):Int:=(Wk q v).tail.foldl (λn i=>if KB s i < n then KB s i else n) (KB s ((Wk q v).headD 0))
def im(q:Hc)(s:List Int)(v w:Nat):Bool:=cond (((Wk q v).length:Int)!=(Wk q w).length) (decide (((Wk q w).length:Int) < (Wk q v).length)) (decide (Sx q s v < Sx q s w))
def lY(q:Hc)(s out:List Int)(v w:Nat):Bool:=(NL q out v&& !NL q out w) || (NL q out v==NL q out w&&im q s v w)
def Ou(q:Hc)(s out:List Int)(k:Nat):Option Nat:=(List.range k).foldl (λ(b:Option Nat) (v:Nat)=>if out.contains (v:Int)then b else match b with
 |none=>some v
 |some w=>if lY q s out v w then some v else some w) none
def bI(b:Option Nat):Int:=match b with
 |none=> -1
 |some v=>(v:Int)
def Tu(q:Hc)(s:List Int):Nat->List Int
 |0=>[]
 |t+1=>Tu q s t++[bI (Ou q s (Tu q s t) q.1.toNat)]
theorem PU(q:Hc)(s:List Int):∀t,(Tu q s t).length=t
 |0=>rfl
 |t+1=>by rw[Tu,Ar,PU q s t];rfl
theorem ar(q:Hc)(s out:List Int):∀k w,Ou q s out k=some w->w < k
 |0,w,h=>by cases h
 |k+1,w,h=>by
  unfold Ou at h
  rw[CI,Dj,Dc,I6]at h
  have ih:=ar q s out k
  unfold Ou at ih
  revert h ih
  generalize(List.range k).foldl _ none=b
  intro h ih
  split at h
  ·have:=ih w h;omega
  ·split at h
   ·cases h;omega
   ·rename_i w'
    split at h
    ·cases h;omega
    ·cases h;have:=ih _ rfl;omega
section
variable {q:Hc}{s out:List Int}
theorem oc(hv:De q=true){v:Nat}(h:v < q.1.toNat):Wk q v≠[]:=λe=>by
 have hv':=hv
 unfold De at hv'
 simp only[Ab,AC]at hv'
 have hu:=hv'.2.2.2.2
 rw[Cm]at hu
 have:=hu v (An.2 h)
 rw[AC,Bool.not_eq_false]at this
 unfold IF at this
 obtain⟨a,ha,hc⟩:=Cg.1 this
 obtain⟨j,hj,rfl⟩:=Cx.1 ha
 have hm:j∈Wk q v:=Bf.2 ⟨An.2 hj,by rw[<-R1 hj];exact hc⟩
 rw[e]at hm
 cases hm
theorem oa{v i:Nat}(h:i∈Wk q v):i < q.2.1.length:=An.1 (Bf.1 h).1
theorem pr(v k:Nat):(List.range (k+1)).filter (λj=>aH q j (v:Int))=(List.range k).filter (λj=>aH q j (v:Int))++cond (aH q k (v:Int)) [k] []:=by
 rw[CI,Dn,Du,GD]
 cases aH q k (v:Int)<;>rfl
theorem oX(hq:JH q)(hv:De q=true)(v:Nat):Fb q (v:Int)=some ((Wk q v).length:Int):=by
 have h4:=(MG hv).2.2.1
 unfold Fb
 have:=Cs (body:=FW q (v:Int)) (out:=((Wk q v).length:Int)) (λk=>((((List.range k).filter λj=>aH q j (v:Int)).length:Int),(k:Int))) q.2.1.length (λk hk rec=>by
  have ha:=hq.2.1 _ (Ak hk)
  have hl:=BS (λj=>aH q j (v:Int)) (List.range k)
  rw[BZ]at hl
  unfold FW Ha
  simp only
  rw[Bu hk,Ks hq,hv,Bm hk,BC hk (Be hq.1),pr]
  simp only[Ac,Aa,X9 ha.2]
  rw[R1 hk,wrap_in (by omega)]
  cases aH q k (v:Int)<;>simp) (λrec=>by unfold FW;simp only;rw[Ba];rfl) fz (CQ hq.1)
 rw[show((0:Int),(0:Int))=((((List.range 0).filter λj=>aH q j (v:Int)).length:Int),((0:Nat):Int))from rfl,this]
 rfl
theorem w8(hq:JH q)(hv:De q=true)(v:Nat):G8 q (v:Int)=some (oI (Wk q v)):=by
 have h4:=(MG hv).2.2.1
 unfold G8
 have:=Cs (body:=E3 q (v:Int)) (out:=oI (Wk q v)) (λk=>(oI ((List.range k).filter λj=>aH q j (v:Int)),(k:Int))) q.2.1.length (λk hk rec=>by
  have ha:=hq.2.1 _ (Ak hk)
  have hl:=BS (λj=>aH q j (v:Int)) (List.range k)
  rw[BZ]at hl
  unfold E3 F6
  simp only
  rw[Bu hk,Ks hq,hv,Bm hk,BC hk (Be hq.1),pr]
  simp only[Ac,Aa,X9 ha.2]
  rw[R1 hk,AH (by rw[C6];unfold lim;simp;omega),Td]
  cases aH q k (v:Int)<;>simp) (λrec=>by unfold E3;simp only;rw[Ba];rfl) fz (CQ hq.1)
 rw[show(([]:List Int),(0:Int))=(oI ((List.range 0).filter λj=>aH q j (v:Int)),((0:Nat):Int))from rfl,this]
 rfl
theorem oq(hq:JH q)(hv:De q=true)(v:Nat):FP q (v:Int)=some (oI (Wk q v)):=by
 have h4:=(MG hv).2.2.1
 unfold FP
 rw[Mj hq,hv]
 simp only[Aa,Al,Ad]
 have:=Cs (body:=E0 q (v:Int)) (out:=oI (Wk q v)) (λk=>(oI ((List.range k).filter λj=>aH q j (v:Int)),(k:Int))) q.2.1.length (λk hk rec=>by
  have ha:=hq.2.1 _ (Ak hk)
  have hl:=BS (λj=>aH q j (v:Int)) (List.range k)
  rw[BZ]at hl
  unfold E0 F3
  simp only
  rw[Bu hk,Bm hk,BC hk (Be hq.1),pr]
  simp only[Ac,Aa,cY ha.2]
  rw[R1 hk,AH (by rw[C6];unfold lim;simp;omega),Td]
  cases aH q k (v:Int)<;>simp) (λrec=>by unfold E0;simp only;rw[Ba];rfl) fz (CQ hq.1)
 rw[show(([]:List Int),(0:Int))=(oI ((List.range 0).filter λj=>aH q j (v:Int)),((0:Nat):Int))from rfl,this]
theorem ox(hq:JH q)(hv:De q=true)(v:Nat):GS q (v:Int)=some ((Wk q v).length:Int):=by
 unfold GS
 rw[oq hq hv]
 simp only[Aa,C6]
theorem lq(hs:s.length=q.2.1.length){i:Nat}(h:i < q.2.1.length):AZ s (i:Int)=some (KB s i):=by
 rw[Bm (by omega)]
 unfold KB
 rw[Au,Af (by omega)];rfl
theorem YJ(s:List Int)(l:List Nat)(x:Int)(i:Nat):(l++[i]).foldl (λn i=>if KB s i < n then KB s i else n) x=if KB s i < l.foldl (λn i=>if KB s i < n then KB s i else n) x then KB s i else l.foldl (λn i=>if KB s i < n then KB s i else n) x:=by
 rw[Dj];rfl
theorem fq(hq:JH q)(hv:De q=true)(hs:s.length=q.2.1.length){v:Nat}(h:v < q.1.toNat):Me q s (v:Int)=some (Sx q s v):=by
 have h4:=(MG hv).2.2.1
 unfold Me Sx
 rw[w8 hq hv]
 have hlt:=λi (hi:i∈Wk q v)=>oa hi
 have hne:=oc hv h
 have hl:(Wk q v).length<=4:=BD (BS _ _) (by simp;omega)
 generalize Wk q v=A at hlt hne hl
 cases A with
 |nil=>exact absurd rfl hne
 |cons a A=>
  simp only[Aa]
  rw[show(0:Int)=((0:Nat):Int)from rfl,SB (by simp),show oAt (a::A) 0=a from rfl]
  simp only
  rw[lq hs (hlt a (BO))]
  simp only[List.tail_cons,List.headD_cons]
  rw[Ax]at hl
  have:=Cs (body:=Lw s (oI (a::A))) (out:=A.foldl (λn i=>if KB s i < n then KB s i else n) (KB s a)) (λk=>((A.take k).foldl (λn i=>if KB s i < n then KB s i else n) (KB s a),((k+1:Nat):Int))) A.length (λk hk rec=>by
   unfold Lw
   simp only
   rw[C6,Ax,Bu (by omega:k+1 < A.length+1),SB (by simp;omega),wrap_in (by omega),show oAt (a::A) (k+1)=A[k]from by rw[KV (by simp;omega)];rfl]
   simp only[Ac,Aa]
   rw[lq hs (hlt _ (AX _ (Ak hk)))]
   simp only
   rw[AB hk,YJ]
   rfl) (λrec=>by
   unfold Lw
   simp only
   rw[C6,Ax,Ba,A6];rfl) fz (CQ (by unfold lim;omega))
  rw[show(KB s a,(1:Int))=((A.take 0).foldl (λn i=>if KB s i < n then KB s i else n) (KB s a),((0+1:Nat):Int))from rfl,this]
theorem eH(hq:JH q)(hv:De q=true)(hs:s.length=q.2.1.length){v:Nat}(h:v < q.1.toNat):Hp (v:Int) q s=some (Sx q s v):=by
 have h4:=(MG hv).2.2.1
 unfold Hp Sx
 rw[oq hq hv]
 have hlt:=λi (hi:i∈Wk q v)=>oa hi
 have hne:=oc hv h
 have hl:(Wk q v).length<=4:=BD (BS _ _) (by simp;omega)
 generalize Wk q v=A at hlt hne hl
 cases A with
 |nil=>exact absurd rfl hne
 |cons a A=>
  simp only[Aa,List.tail_cons,List.headD_cons]
  rw[Ax]at hl
  have:=Cs (body:=Ff s (oI (a::A))) (out:=A.foldl (λn i=>if KB s i < n then KB s i else n) (KB s a)) (λk=>(cond (k==0) 0 ((A.take (k - 1)).foldl (λn i=>if KB s i < n then KB s i else n) (KB s a)),(k:Int))) (A.length+1) (λk hk rec=>by
   have hm:oAt (a::A) k∈a::A:=by rw[KV (by simp;omega)];exact Ak _
   unfold Ff HG HH
   simp only
   rw[C6,Ax,Bu hk,SB (by simp;omega),wrap_in (by omega)]
   simp only[Ac,Aa]
   rw[lq hs (hlt _ hm)]
   simp only
   cases k with
   |zero=>rfl
   |succ k=>
    rw[show(((k+1:Nat):Int)==0)=false from A3.2 (by omega),Ad,show(k+1==0)=false from rfl,show(k+1+1==0)=false from rfl,Ad,Ad,show k+1 - 1=k from rfl,show k+1+1 - 1=k+1 from rfl,show oAt (a::A) (k+1)=A[k]'(by omega)from by rw[KV (by simp;omega)];rfl,AB (by omega),YJ]
    by_cases hc:KB s (A[k]'(by omega)) < (A.take k).foldl (λn i=>if KB s i < n then KB s i else n) (KB s a)
    ·rw[Ag hc,AI hc];rfl
    ·rw[Ah hc,AJ hc];rfl) (λrec=>by
   unfold Ff
   simp only
   rw[C6,Ax,Ba,show(A.length+1==0)=false from rfl,Ad,Ad,Nat.add_sub_cancel,A6]) fz (CQ (by unfold lim;omega))
  rw[show((0:Int),(0:Int))=(cond (0==0) 0 ((A.take (0 - 1)).foldl (λn i=>if KB s i < n then KB s i else n) (KB s a)),((0:Nat):Int))from rfl,this]
theorem xb(hq:JH q)(hv:De q=true)(hs:s.length=q.2.1.length){v w:Nat}(h:v < q.1.toNat)(h':w < q.1.toNat):K7 q s (v:Int) (w:Int)=some (im q s v w):=by
 unfold K7 im
 rw[oX hq hv,oX hq hv]
 simp only[Aa]
 rw[fq hq hv hs h,fq hq hv hs h']
 cases((Wk q v).length:Int)!=(Wk q w).length<;>rfl
theorem sT(hq:JH q)(hv:De q=true)(ho:out.length<=lim)(v:Nat):Ap (FZ out (C1 q.1.toNat (Fe q v))) fz (false,0)=some (NL q out v):=by
 have hal:=L4 q.1.toNat (Fe q v)
 have h5:=KY hv
 unfold NL
 generalize C1 q.1.toNat (Fe q v)=l at hal
 have:=Cs (body:=FZ out l) (out:=l.any out.contains) (λk=>((l.take k).any out.contains,(k:Int))) l.length (λk hk rec=>by
  unfold FZ IOQ
  simp only
  rw[Bu hk,Bm hk,wrap_in (by omega),g9 _ hk]
  simp only[Ac,Aa]
  rw[QM ho]
  simp only
  rw[MU]
  cases(l.take k).any out.contains<;>rfl) (λrec=>by unfold FZ;simp only;rw[Ba,A6];rfl) fz (CQ (by unfold lim;omega))
 simpa using this
theorem eJ(hq:JH q)(hv:De q=true)(ho:out.length<=lim)(v:Nat):Ho (v:Int) out q=some (cond (NL q out v) 1 0):=by
 have hal:=L4 q.1.toNat (Fe q v)
 have h5:=KY hv
 unfold Ho PJ NL
 rw[oC hq hv]
 simp only[Aa]
 rw[XD (by unfold lim;omega) ho]
 simp only
 generalize C1 q.1.toNat (Fe q v)=l at hal
 have e:decide ((0:Int) < ((l.filter out.contains).length:Int))=l.any out.contains:=by
  rw[AL,AE,Cg]
  constructor
  ·intro h
   have hp:0 < (l.filter out.contains).length:=by omega
   obtain⟨x,hx⟩:=List.exists_mem_of_length_pos hp
   exact⟨x,(Bf.1 hx).1,(Bf.1 hx).2⟩
  ·rintro⟨x,hx,hc⟩
   have:=Gl (Bf.2 ⟨hx,hc⟩)
   omega
 rw[e]
 cases l.any out.contains<;>rfl
theorem ku(k:Nat):Ou q s out (k+1)=if out.contains (k:Int)then Ou q s out k else match Ou q s out k with
 |none=>some k
 |some w=>if lY q s out k w then some k else some w:=by
 unfold Ou
 rw[CI,Dj,Dc,I6]
def ly(q:Hc)(out:List Int)(b:Option Nat):Bool:=match b with
 |none=>false
 |some w=>NL q out w
theorem nF(hq:JH q)(hv:De q=true)(hs:s.length=q.2.1.length)(ho:out.length<=lim):Ap (Fa q s out) fz ((-1),false,0)=some (bI (Ou q s out q.1.toNat)):=by
 have h5:=KY hv
 exact Cs (body:=Fa q s out) (out:=bI (Ou q s out q.1.toNat)) (λk=>(bI (Ou q s out k),ly q out (Ou q s out k),(k:Int))) q.1.toNat (λk hk rec=>by
  unfold Fa Ek GX
  simp only
  rw[Ag (by omega:(k:Int) < q.1),QM ho,wrap_in (by omega),o6 hq hv]
  simp only[Ac,Aa]
  rw[sT hq hv ho,MU,ku]
  cases hc:out.contains (k:Int)with
  |true=>rw[Ac,AI rfl];rfl
  |false=>
   rw[Ad,AJ (by simp)]
   cases hb:Ou q s out k with
   |none=>rfl
   |some w=>
    have hw:=ar q s out k w hb
    have e:bI (some w)=(w:Int):=rfl
    have e2:ly q out (some w)=NL q out w:=rfl
    simp only[e,e2]
    rw[Ah (by omega:¬(w:Int) < 0),Ad,xb hq hv hs hk (by omega)]
    simp only
    unfold lY
    cases hn:NL q out k<;>cases hn2:NL q out w<;>cases im q s k w<;>simp[bI,ly,hn,hn2]) (λrec=>by
  unfold Fa
  simp only
  rw[Ah (by omega:¬((q.1.toNat:Nat):Int) < q.1)];rfl) fz (CQ (by unfold lim;omega))
theorem mz(hq:JH q)(hv:De q=true)(hs:s.length=q.2.1.length)(ho:out.length<=lim):Ap (E6 q s out) fz ((-1),0)=some (bI (Ou q s out q.1.toNat)):=by
 have h5:=KY hv
 exact Cs (body:=E6 q s out) (out:=bI (Ou q s out q.1.toNat)) (λk=>(bI (Ou q s out k),(k:Int))) q.1.toNat (λk hk rec=>by
  unfold E6 E7 FX
  simp only
  rw[Ag (by omega:(k:Int) < q.1),Wp ho,wrap_in (by omega)]
  simp only[Ac,Aa]
  rw[ku]
  cases hc:out.contains (k:Int)with
  |true=>rw[Ac,AI rfl];rfl
  |false=>
   rw[Ad,AJ (by simp)]
   cases hb:Ou q s out k with
   |none=>rfl
   |some w=>
    have hw:=ar q s out k w hb
    have e:bI (some w)=(w:Int):=rfl
    simp only[e]
    rw[Ah (by omega:¬(w:Int) < 0),Ad,eJ hq hv ho,eJ hq hv ho,ox hq hv,ox hq hv,eH hq hv hs hk,eH hq hv hs (by omega)]
    simp only
    unfold lY im
    generalize((Wk q k).length:Int)=a
    generalize((Wk q w).length:Int)=b
    have hab:(a !=b)= !(a==b):=rfl
    rw[hab]
    by_cases h1:b < a
    ·have h2:(a==b)=false:=A3.2 (by omega)
     rw[Ag h1,h2]
     cases NL q out k<;>cases NL q out w<;>simp[bI]
    ·rw[Ah h1]
     cases hq2:a==b with
     |true=>cases NL q out k<;>cases NL q out w<;>cases decide (Sx q s k < Sx q s w)<;>simp[bI]
     |false=>cases NL q out k<;>cases NL q out w<;>simp[bI]) (λrec=>by
  unfold E6
  simp only
  rw[Ah (by omega:¬((q.1.toNat:Nat):Int) < q.1)];rfl) fz (CQ (by unfold lim;omega))
theorem yw(hq:JH q)(hv:De q=true)(hs:s.length=q.2.1.length):Lq q s=some (Tu q s q.1.toNat):=by
 have h5:=KY hv
 unfold Lq
 rw[Ks hq,hv,show((s.length:Int)!=(q.2.1.length:Int))=false from by rw[hs];simp]
 simp only[Aa,Al,Ad]
 have:=Cs (body:=IN q s) (out:=Tu q s q.1.toNat) (λt=>Tu q s t) q.1.toNat (λt ht rec=>by
  unfold IN
  have hl:=PU q s t
  rw[hl,Ag (by omega:(t:Int) < q.1),nF hq hv hs (by unfold lim;omega)]
  simp only[Ac,Aa]
  rw[AH (by unfold lim;simp;omega)]
  rfl) (λrec=>by
  unfold IN
  rw[PU,Ah (by omega:¬((q.1.toNat:Nat):Int) < q.1)];rfl) fz (CQ (by unfold lim;omega))
 rw[show([]:List Int)=Tu q s 0 from rfl,this]
theorem ye(hq:JH q)(hv:De q=true)(hs:s.length=q.2.1.length):Ld q s=some (Tu q s q.1.toNat):=by
 have h5:=KY hv
 unfold Ld
 rw[Mj hq,hv,show((s.length:Int)!=(q.2.1.length:Int))=false from by rw[hs];simp]
 simp only[Aa,Al,Ad]
 have:=Cs (body:=II q s) (out:=Tu q s q.1.toNat) (λt=>Tu q s t) q.1.toNat (λt ht rec=>by
  unfold II
  have hl:=PU q s t
  rw[hl,Ag (by omega:(t:Int) < q.1),mz hq hv hs (by unfold lim;omega)]
  simp only[Ac,Aa]
  rw[AH (by unfold lim;simp;omega)]
  rfl) (λrec=>by
  unfold II
  rw[PU,Ah (by omega:¬((q.1.toNat:Nat):Int) < q.1)];rfl) fz (CQ (by unfold lim;omega))
 rw[show([]:List Int)=Tu q s 0 from rfl,this]
end
abbrev xP:=Int×List Int×List Int×List (List Int)×List Int
section
variable {q:Hc}{s:List Int}
def chB(q:Hc)(s:List Int):xP×Bool:=cond (De q) (cond ((s.length:Int)!=(q.2.1.length:Int)) ((0,[],[],([],[])),false) (cond (Vs q) ((1,[],(gyM q).2,([],[])),true) (cond (decide (JS (Us q).2.1 (Qm (cpP q)).2.1 < 0)) ((2,[],[],(Us q).1),true) ((3,Tu q s q.1.toNat,[],([],[])),true)))) ((0,[],[],([],[])),false)
theorem od:∀k,k<=(Ot q.1.toNat).length->(Tz q k).2.2=false->(Tz q k).2.1=(0,0)
 |0,_,_=>rfl
 |k+1,hk,h=>by
  have ih:=od k (by omega)
  rw[dM hk]at h⊢
  generalize Tz q k=st at ih h⊢
  unfold bdS at h⊢
  cases hc: !st.2.2 || decide (JS (wdB q (Ot q.1.toNat)[k]) st.2.1 < 0)with
  |true=>rw[hc]at h;cases h
  |false=>rw[hc]at h;exact ih h
theorem il:∀k,k<=(Ot q.1.toNat).length->(Tz q k).1=([],[])∨∃O∈Ot q.1.toNat,(Tz q k).1=OJ O (Fe q)
 |0,_=>.inl rfl
 |k+1,hk=>by
  have ih:=il k (by omega)
  rw[dM hk]
  generalize Tz q k=st at ih⊢
  unfold bdS
  cases !st.2.2 || decide (JS (wdB q (Ot q.1.toNat)[k]) st.2.1 < 0)with
  |true=>exact .inr ⟨_,Ak hk,rfl⟩
  |false=>exact ih
theorem pG(r:Rt):JS (0,0) r=0:=rfl
theorem pH(r:Rt):JS r (0,0)=0:=by
 unfold JS
 rw[show HK ((0:Int),(0:Int))=false from by decide]
 cases HK r<;>rfl
theorem yu(hq:JH q):Mq q s=some (chB q s):=by
 unfold Mq chB
 rw[Ks hq]
 simp only[Aa]
 cases hv:De q with
 |false=>rfl
 |true=>
  rw[Al,Ad,Ac]
  cases hl:(s.length:Int)!=(q.2.1.length:Int)with
  |true=>rfl
  |false=>
   have hsl:s.length=q.2.1.length:=by have:=HJ.1 hl;omega
   rw[Ad,Ad,xc hq hv]
   simp only
   cases Vs q with
   |true=>rfl
   |false=>
    rw[Ad,Ad,Ad,xa hq hv]
    simp only
    rw[o5 hq hv]
    unfold HD
    rw[yw hq hv hsl]
    simp only
    cases h1:(Us q).2.2 with
    |false=>
     rw[show(Us q).2.1=(0,0)from od _ (Bl _) h1,pG];rfl
    |true=>
     cases h2:(Qm (cpP q)).2.2 with
     |false=>
      rw[r7 _ h2,pH];rfl
     |true=>
      rw[Ac,Ac,Uh]
      simp only
      cases decide (JS (Us q).2.1 (Qm (cpP q)).2.1 < 0)<;>rfl
theorem yb(hq:JH q):Mk q s=some (chB q s):=by
 unfold Mk chB
 rw[Mj hq]
 simp only[Aa]
 cases hv:De q with
 |false=>rfl
 |true=>
  rw[Al,Ad,Ac]
  cases hl:(s.length:Int)!=(q.2.1.length:Int)with
  |true=>rfl
  |false=>
   have hsl:s.length=q.2.1.length:=by have:=HJ.1 hl;omega
   rw[Ad,Ad,uF hq hv]
   simp only
   cases Vs q with
   |true=>rfl
   |false=>
    rw[Ad,Ad,Ad,ya hq hv]
    simp only
    rw[uN hq hv]
    simp only
    rw[XE,ye hq hv hsl]
    simp only
    cases decide (JS (Us q).2.1 (Qm (cpP q)).2.1 < 0)<;>rfl
end
theorem obs{α β:Type}(a:α)(f:α->Option β):Aa (some a) f=f a:=rfl
def dgI(n:Nat):List Int:=if n < 10 then [48+(n:Int)]else dgI (n / 10)++[48+((n % 10:Nat):Int)]
termination_by n
decreasing_by omega
theorem UG{n:Nat}(h:n < 10):dgI n=[48+(n:Int)]:=by rw[dgI,AI h]
theorem Sg{n:Nat}(h:¬n < 10):dgI n=dgI (n / 10)++[48+((n % 10:Nat):Int)]:=by rw[dgI,AJ h]
theorem d6:∀(k n:Nat),n < 10 ^ (k+1)->(dgI n).length<=k+1
  |0,n,h=>by rw[UG (by omega)];simp
  |k+1,n,h=>by
    by_cases h10:n < 10
    · rw[UG h10];simp
    · rw[Sg h10,Ar,At]
      have:=d6 k (n / 10) (by rw[Fl]at h;omega)
      omega
def WB(n:Nat):List UInt8:=bytesOf (dgI n)
def Tm(n:Int):List UInt8:=if n < 0 then 45::WB n.natAbs else WB n.toNat
theorem VC(a b:List Int):bytesOf (a++b)=bytesOf a++bytesOf b:=by simp[bytesOf]
theorem VD(a:List Int):(bytesOf a).length=a.length:=by simp[bytesOf]
theorem Pv{n:Nat}(h:n < 10000000000000000000):(WB n).length<=19:=by
  unfold WB;rw[VD];exact d6 18 n (by simpa using h)
theorem Ob{n:Int}(h:Zo n):(Tm n).length<=20:=by
  unfold Zo at h
  unfold Tm
  split
  · rw[Ax];have:=Pv (n:=n.natAbs) (by omega);omega
  · have:=Pv (n:=n.toNat) (by omega);omega
theorem d7{d:Nat}(h:d < 10):IntKind.u8.wrap (IntKind.i64.wrap (48+(d:Int)))=48+(d:Int):=by
  rw[wrap_in (by omega)]
  unfold IntKind.wrap
  simp[IntKind.signed,IntKind.bits]<;>omega
theorem jP(m:Nat):(m:Int).tmod 10=((m % 10:Nat):Int):=by rw[Int.tmod_eq_emod_of_nonneg (by omega)];omega
theorem iG(m:Nat):(m:Int).tdiv 10=((m / 10:Nat):Int):=by rw[GP (by omega)];omega
theorem oO(m:Nat):(-(m:Int)).tmod 10= -((m % 10:Nat):Int):=by rw[Int.neg_tmod,jP]
theorem oo(m:Nat):(-(m:Int)).tdiv 10= -((m / 10:Nat):Int):=by rw[Int.neg_tdiv,iG]
theorem bC:∀(k m:Nat) (x:Int) (ds:List Int) (f:Nat),m < 10 ^ (k+1)->x.natAbs=m->Zo x->ds.length+k<=100->k < f->Ap H3 f (x,ds)=some (dgI m++ds)
  |k,m,x,ds,0,_,_,_,_,hf=>absurd hf (by omega)
  |k,m,x,ds,f+1,hm,hx,hi,hd,hf=>by
    unfold Zo at hi
    have hq:(x.tdiv 10).natAbs=m / 10:=by
      by_cases h:x < 0
      · obtain rfl:x= -(m:Int):=by omega
        rw[oo];omega
      · obtain rfl:x=(m:Int):=by omega
        rw[iG];omega
    have hj:∀rec:Int×List Int->Option (List Int),H3 rec (x,ds)=H4 rec x ds ((m % 10:Nat):Int):=by
      intro rec
      rw[H3]
      by_cases h:x < 0
      · obtain rfl:x= -(m:Int):=by omega
        rw[oO]
        by_cases h0:m % 10=0
        · rw[h0];rfl
        · rw[Ag (by omega),Ac,wrap_in (by omega)]
          congr 1
          omega
      · obtain rfl:x=(m:Int):=by omega
        rw[jP,Ah (by omega)];rfl
    rw[By,hj,H4,d7 (by omega),AH (by simp only[At];unfold lim;omega),wrap_in (by omega)]
    by_cases h10:m < 10
    · have e:(x.tdiv 10==0)=true:=by simp;omega
      rw[e,Ac,UG h10,JF h10]
    · have e:(x.tdiv 10==0)=false:=by simp;omega
      rw[e,Ad,Sg h10]
      cases k with
      |zero=>omega
      |succ k=>
        rw[bC k (m / 10) (x.tdiv 10) _ f (by rw[Fl]at hm;omega) hq (by unfold Zo;omega) (by simp;omega) (by omega),Bc]
theorem oz{n:Int}(h:Zo n):KI n=some (Tm n):=by
  have hl:=Ob h
  unfold Zo at h
  unfold KI
  rw[bC 18 n.natAbs n [] fz (by rw[show (10:Nat) ^ (18+1)=10000000000000000000 from by decide];omega) rfl h (by simp) (by unfold fz;omega),obs,Bp]
  unfold Tm at hl⊢
  by_cases h0:n < 0
  · rw[AI h0,Ax]at hl
    rw[Ag h0,Ac,AI h0,AH (by unfold WB at hl;simp only[At];unfold lim;omega)]
    rfl
  · rw[Ah h0,Ad,AJ h0]
    show some (WB n.natAbs)=some (WB n.toNat)
    rw[show n.natAbs=n.toNat by omega]
theorem Wa:∀(k m f:Nat),m < 10 ^ (k+1)->k<=18->k < f->Ap Iu f (m:Int)=some (WB m)
  |k,m,0,_,_,hf=>absurd hf (by omega)
  |k,m,f+1,hm,hk,hf=>by
    have hm19:m < 10000000000000000000:=by
      have:(10:Nat) ^ (k+1)<=10 ^ 19:=EU (by omega) (by omega)
      have e:(10:Nat) ^ 19=10000000000000000000:=by decide
      omega
    rw[By,Iu,Ah (by omega:¬(m:Int)<= -10),Ah (by omega:¬(m:Int) < 0)]
    simp only[Ad]
    by_cases h10:m < 10
    · rw[Ag (by omega),Ac,d7 h10]
      unfold WB
      rw[UG h10]
    · rw[Ah (by omega),Ad,iG,jP]
      by_cases hw:m < 9223372036854775808
      · cases k with
        |zero=>omega
        |succ k=>
          have hl:=Pv (n:=m / 10) (by omega)
          rw[wrap_in (by omega),Wa k (m / 10) f (by rw[Fl]at hm;omega) (by omega) (by omega),obs,d7 (by omega),AH (by rw[VD];simp only[At];unfold lim;omega)]
          unfold WB
          rw[Sg h10,VC]
      · cases k with
        |zero=>omega
        |succ k=>
          have hl:=Pv (n:=m / 10) (by omega)
          rw[wrap_in (by omega),Wa k (m / 10) f (by rw[Fl]at hm;omega) (by omega) (by omega),obs,d7 (by omega),AH (by rw[VD];simp only[At];unfold lim;omega)]
          unfold WB
          rw[Sg h10,VC]
theorem ay{n:Int}(h:Zo n):P6 n=some (Tm n):=by
  unfold Zo at h
  have e19:(10:Nat) ^ (18+1)=10000000000000000000:=by decide
  unfold P6 Tm
  by_cases h0:n < 0
  · rw[AI h0]
    obtain⟨m,rfl⟩:∃m:Nat,n= -(m:Int):=⟨n.natAbs,by omega⟩
    have hab:(-(m:Int)).natAbs=m:=by omega
    have hfz:fz=(fz - 1)+1:=by unfold fz;rfl
    rw[hfz,By,Iu,hab]
    have hf1:18 < fz - 1:=by unfold fz;omega
    generalize fz - 1=F at hf1
    by_cases h10:m < 10
    · have hl:=Pv (n:=m) (by omega)
      rw[Ah (by omega),Ad,Ag (by omega),Ac,wrap_in (by omega),show(0:Int) - -(m:Int)=(m:Int)by omega,Wa 18 m F (by omega) (by omega) hf1,obs,AH (by simp only[At];unfold lim;omega)]
      rfl
    · have hl:=Pv (n:=m / 10) (by omega)
      have hl2:=Pv (n:=m % 10) (by omega)
      rw[Ag (by omega),Ac,oo,oO,wrap_in (n:= -((m / 10:Nat):Int)) (by omega),wrap_in (n:=0 - -((m / 10:Nat):Int)) (by omega),wrap_in (n:=0 - -((m % 10:Nat):Int)) (by omega),show(0:Int) - -((m / 10:Nat):Int)=((m / 10:Nat):Int)by omega,show(0:Int) - -((m % 10:Nat):Int)=((m % 10:Nat):Int)by omega,
        Wa 18 (m / 10) F (by omega) (by omega) hf1,obs,AH (by simp only[At];unfold lim;omega),Wa 18 (m % 10) F (by omega) (by omega) hf1,obs,AH (by simp only[Ar,At];unfold lim;omega)]
      unfold WB
      rw[Sg h10,VC,UG (n:=m % 10) (by omega)]
      rfl
  · rw[AJ h0]
    obtain⟨m,rfl⟩:∃m:Nat,n=(m:Int):=⟨n.toNat,by omega⟩
    rw[Bk]
    exact Wa 18 m fz (by omega) (by omega) (by unfold fz;omega)
def nameB(v:Int):List UInt8:=if Iw v 0 4=true then Hk [88,89,90,85,86] v (v+1)else []
theorem V7(v:Int):(nameB v).length<=1:=by
  unfold nameB
  split
  · rename_i h
    unfold Iw at h
    simp only[Ab,AE]at h
    unfold Hk
    rw[BX,Bb]
    omega
  · simp
theorem nH(v:Int):GK v=some (nameB v):=by
  unfold GK nameB
  rw[LW,obs]
  cases h:Iw v 0 4 with
  |false=>rfl
  |true=>
    unfold Iw at h
    simp only[Ab,AE]at h
    rw[Al,Ad,wrap_in (by omega),AH (by simp;omega),AI rfl]
theorem mA(v:Int):Kq v=some (nameB v):=by
  unfold Kq nameB
  rw[IS,obs]
  cases h:Iw v 0 4 with
  |false=>rfl
  |true=>
    unfold Iw at h
    simp only[Ab,AE]at h
    rw[Al,Ad,wrap_in (by omega),AH (by simp;omega),AI rfl]
def Nq(l:List Int):List UInt8:=l.flatMap nameB
theorem MS:∀l:List Int,(Nq l).length<=l.length
  |[]=>by simp[Nq]
  |x::l=>by
    have h1:=V7 x
    have h2:=MS l
    unfold Nq at h2⊢
    rw[AG,Ar,Ax];omega
theorem iV{α β:Type}(f:α->List β){l:List α}{k:Nat}(hk:k < l.length):(l.take (k+1)).flatMap f=(l.take k).flatMap f++f l[k]:=by
  rw[AB hk,Dd];simp
theorem eI{l:List Int}(h:l.length < lim):Nf l=some (Nq l):=by
  unfold Nf
  have:=Cs (body:=Mn l) (out:=Nq l) (λk=>(Nq (l.take k),(k:Int))) l.length (λk hk rec=>by
    have h1:=MS (l.take k)
    have h2:=V7 l[k]
    rw[Bb]at h1
    rw[Mn]
    rw[Bu hk,Bm hk,BC hk (Be (by omega)),Ac,obs,mA,obs,AH (by omega)]
    unfold Nq
    rw[iV _ hk]) (λrec=>by rw[Mn];rw[Ba,A6];rfl) fz (CQ (by omega))
  rw[show((([]:List UInt8),(0:Int)))=(Nq (l.take 0),((0:Nat):Int))from rfl,this]
  rfl
theorem kW{l:List Int}(h:l.length+2<=lim):K9 l=some (40::(Nq l++[41])):=by
  unfold K9
  have h3:=MS l
  have:=Cs (body:=NF l) (out:=40::Nq l) (λk=>(40::Nq (l.take k),(k:Int))) l.length (λk hk rec=>by
    have h1:=MS (l.take k)
    have h2:=V7 l[k]
    rw[Bb]at h1
    rw[NF]
    rw[Bu hk,Bm hk,BC hk (Be (by omega)),Ac,obs,nH,obs,AH (by rw[Ax];omega)]
    unfold Nq
    rw[iV _ hk]
    rfl) (λrec=>by rw[NF];rw[Ba,A6];rfl) fz (CQ (by omega))
  rw[show((([40]:List UInt8),(0:Int)))=(40::Nq (l.take 0),((0:Nat):Int))from rfl,this,obs,AH (by simp only[Ax,Cb];omega)]
  rfl
def Jr(sep:List UInt8):List (List UInt8)->List UInt8
  |[]=>[]
  |w::ws=>w++ws.flatMap λu=>sep++u
theorem V3(sep:List UInt8)(w:List UInt8):∀ws:List (List UInt8),Jr sep (ws++[w])=if ws.length=0 then w else Jr sep ws++sep++w
  |[]=>by simp[Jr]
  |v::ws=>by
    rw[AJ (by simp),CS,Jr,Jr,Dd]
    simp
theorem Su(sep:List UInt8)(L:Nat):∀ws:List (List UInt8),(∀w∈ws,w.length+sep.length<=L)->(Jr sep ws).length<=ws.length * L
  |[],_=>by simp[Jr]
  |w::ws,h=>by
    have h1:=h w (by simp)
    have key:∀us:List (List UInt8),(∀w∈us,w.length+sep.length<=L)->(us.flatMap λu=>sep++u).length<=us.length * L:=by
      intro us
      induction us with
      |nil=>intro _;simp
      |cons u us ih=>
        intro hu
        have h2:=hu u (by simp)
        have h3:=ih (λw hw=>hu w (by simp[hw]))
        rw[AG,Ar,Ar,Ax,DG]
        omega
    have h2:=key ws (λw hw=>h w (by simp[hw]))
    rw[Jr,Ar,Ax,DG]
    omega
theorem i9{ws:List (List UInt8)}{sep:List UInt8}{L:Nat}(h:∀w∈ws,w.length+sep.length<=L)(hl:ws.length * L<=lim)(hn:ws.length<=lim):Q2 ws sep=some (Jr sep ws):=by
  unfold Q2
  have:=Cs (body:=Nc ws sep) (out:=Jr sep ws) (λk=>(Jr sep (ws.take k),(k:Int))) ws.length (λk hk rec=>by
    have h1:=Su sep L (ws.take k) (λw hw=>h w (JD hw))
    rw[Bb,Cv (by omega)]at h1
    have h2:=h _ (Ak hk)
    have h3:k * L+L<=ws.length * L:=by rw[<-FT];exact Cy _ hk
    rw[Nc]
    rw[Bu hk,Bm hk,Ac,obs,AB hk,V3,Bb,Cv (by omega)]
    by_cases h0:0 < k
    · rw[Ag (by omega:(0:Int) < (k:Int)),Ac,AJ (by omega),AH (by omega),Nd,AH (by rw[Ar];omega),BC hk (Be hn)]
    · obtain rfl:k=0:=by omega
      rw[Ah (by simp),Ad,AI rfl,Nd,BC hk (Be hn)]
      rw[AH (by simp[Jr];omega)]
      simp[Jr]) (λrec=>by rw[Nc];rw[Ba,A6];rfl) fz (CQ hn)
  rw[show((([]:List UInt8),(0:Int)))=(Jr sep (ws.take 0),((0:Nat):Int))from rfl,this]
  rfl
def YO(sep:List UInt8)(l:List Int):List UInt8:=Jr sep (l.map Tm)
theorem mu{l:List Int}{c:UInt8}(hl:l.length<=1048576)(h:∀x∈l,Zo x):Mm l [c]=some (YO [c] l):=by
  unfold Mm YO
  rw[bS (a:=l) (h:=Tm) (by unfold lim;omega) (λk hk rec=>by
    rw[MA]
    rw[Bu hk,Bm hk,BC hk (by unfold maxLen;omega),Ac,obs,oz (h _ (Ak hk)),obs,AH (by simp only[As,Bb,At];unfold lim;omega)]) (λrec y=>by rw[MA];rw[Ba];rfl),obs,
    i9 (L:=21) (λw hw=>by
      obtain⟨x,hx,rfl⟩:=Bh.1 hw
      have:=Ob (h x hx)
      simp only[At];omega) (by rw[As];unfold lim;omega) (by rw[As];unfold lim;omega),obs]
theorem sR{l:List Int}(hl:l.length<=1048576)(h:∀x∈l,Zo x):Pg l=some (YO [32] l):=by
  unfold Pg YO
  have:=Cs (body:=JZ l) (out:=Jr [32] (l.map Tm)) (λk=>(Jr [32] ((l.map Tm).take k),(k:Int))) l.length (λk hk rec=>by
    have hk':k < (l.map Tm).length:=by rw[As];exact hk
    have h1:=Su [32] 21 ((l.map Tm).take k) (λw hw=>by
      obtain⟨x,hx,rfl⟩:=Bh.1 (JD hw)
      have:=Ob (h x hx)
      simp only[At];omega)
    rw[Bb,Cv (by omega)]at h1
    have h2:=Ob (h _ (Ak hk))
    rw[JZ]
    rw[Bu hk,Ac,AB hk',V3,Bb,Cv (by omega),BQ]
    by_cases h0:0 < k
    · rw[Ag (by omega:(0:Int) < (k:Int)),Ac,AJ (by omega),AH (by simp only[At];unfold lim;omega),J0,Bm hk,obs,ay (h _ (Ak hk)),obs,AH (by rw[Ar];simp only[At];unfold lim;omega),BC hk (by unfold maxLen;omega)]
    · obtain rfl:k=0:=by omega
      rw[Ah (by simp),Ad,AI rfl,J0,Bm hk,obs,ay (h _ (Ak hk)),obs,BC hk (by unfold maxLen;omega)]
      rw[AH (by simp[Jr];unfold lim;omega)]
      simp[Jr]) (λrec=>by
      have e:(l.map Tm).take l.length=l.map Tm:=by rw[Eh (by simp)]
      rw[JZ];rw[Ba,e];rfl) fz (CQ (by unfold lim;omega))
  rw[show((([]:List UInt8),(0:Int)))=(Jr [32] ((l.map Tm).take 0),((0:Nat):Int))from rfl,this]
  rfl
def ZC(b:List Int)(p:Int):List UInt8:=40::(Nq b++[41])++(if 0<=p then Tm p else [])
def Zn(x:List (List Int)×List Int)(k:Nat):List UInt8:=match x.1[k]?,x.2[k]? with
 |some b,some p=>ZC b p
 |_,_=>[]
def La(x:List (List Int)×List Int)(k:Nat):List (List UInt8):=(List.range k).map (Zn x)
theorem cD(x:List (List Int)×List Int)(k:Nat):La x (k+1)=La x k++[Zn x k]:=by
 unfold La
 rw[CI,BU];rfl
theorem Qa(x:List (List Int)×List Int)(k:Nat):(La x k).length=k:=by unfold La;simp
def fR(x:List (List Int)×List Int):Prop:=x.2.length=x.1.length∧x.1.length<=1048576∧(∀b∈x.1,b.length<=5)∧∀p∈x.2,Zo p
theorem Yq{x:List (List Int)×List Int}(h:fR x){k:Nat}(hk:k < x.1.length):Zn x k=ZC (x.1[k]) (x.2[k]'(by rw[h.1];exact hk)):=by
 have hk2:k < x.2.length:=by rw[h.1];exact hk
 unfold Zn
 rw[Af hk,Af hk2]
theorem ii{b:List Int}{p:Int}(hb:b.length<=5)(hp:Zo p):(ZC b p).length<=27:=by
 have h1:=MS b
 have h2:=Ob hp
 unfold ZC
 rw[Ar,Ax,Ar,At]
 split
 ·omega
 ·rw[Cb];omega
theorem gW{x:List (List Int)×List Int}(h:fR x)(k:Nat):(Zn x k).length<=27:=by
 rcases BV k x.1.length with hk|hk
 ·rw[Yq h hk]
  exact ii (h.2.2.1 _ (Ak hk)) (h.2.2.2 _ (Ak _))
 ·unfold Zn
  rw[A8 hk];simp
theorem Wi{x:List (List Int)×List Int}(h:fR x)(k:Nat):∀w∈La x k,w.length+([32]:List UInt8).length<=28:=by
 intro w hw
 unfold La at hw
 obtain⟨j,_,rfl⟩:=Bh.1 hw
 have:=gW h j
 simp only[At];omega
def fO(x:List (List Int)×List Int):List UInt8:=Jr [32] (La x x.1.length)
theorem ql{x:List (List Int)×List Int}(h:fR x):Gf x=some (fO x):=by
 have hl:x.1.length<=lim:=by have:=h.2.1;unfold lim;omega
 unfold Gf fO
 rw[show((x.1.length:Int)!=(x.2.length:Int))=false by rw[h.1];simp,Ad]
 have:=Cs (body:=Ep x) (out:=La x x.1.length) (λk=>(La x k,(k:Int))) x.1.length (λk hk rec=>by
  have hk2:k < x.2.length:=by rw[h.1];exact hk
  have hb:=h.2.2.1 _ (Ak hk)
  have hp:=h.2.2.2 _ (Ak hk2)
  have h1:=MS x.1[k]
  have h2:=Ob hp
  have hw:=Qa x k
  have hlen:x.1.length<=1048576:=h.2.1
  rw[Ep,cD,Yq h hk]
  rw[Bu hk,Bm hk,Bm hk2,Ac,obs,eI (by unfold lim;omega),obs,AH (by simp only[At];unfold lim;omega),AH (by simp only[Ar,At];unfold lim;omega),obs]
  by_cases h0:0<=x.2[k]
  ·rw[Ag h0,Ac,obs,oz hp,obs,AH (by simp only[Ar,At];unfold lim;omega),Er,AH (by simp only[At];unfold lim;omega),BC hk (Be hl)]
   unfold ZC
   rw[AI h0]
   simp
  ·rw[Ah h0,Ad,Er,AH (by simp only[At];unfold lim;omega),BC hk (Be hl)]
   unfold ZC
   rw[AJ h0]
   simp) (λrec=>by rw[Ep];rw[Ba];rfl) fz (CQ hl)
 rw[show((([]:List (List UInt8)),(0:Int)))=(La x 0,((0:Nat):Int))from rfl,this,obs,i9 (Wi h x.1.length) (by rw[Qa];have:=h.2.1;unfold lim;omega) (by rw[Qa];exact hl)]
 rfl
theorem sQ{x:List (List Int)×List Int}(h:fR x):Gn x=some (fO x):=by
 have hl:x.1.length<=lim:=by have:=h.2.1;unfold lim;omega
 unfold Gn fO
 have:=Cs (body:=DI x) (out:=Jr [32] (La x x.1.length)) (λk=>(Jr [32] (La x k),(k:Int))) x.1.length (λk hk rec=>by
  have hk2:k < x.2.length:=by rw[h.1];exact hk
  have hb:=h.2.2.1 _ (Ak hk)
  have hp:=h.2.2.2 _ (Ak hk2)
  have h1:=MS x.1[k]
  have h2:=Ob hp
  have hw:=Qa x k
  have hj:=Su [32] 28 (La x k) (Wi h k)
  rw[hw]at hj
  have hlen:x.1.length<=1048576:=h.2.1
  have hJ:∀y:List UInt8,y.length<=k * 28+1->Ew rec x (k:Int) y=rec (y++ZC x.1[k] x.2[k],((k+1:Nat):Int)):=by
   intro y hy
   rw[Ew,Bm hk,obs,kW (by unfold lim;omega),obs,AH (by simp only[Ar,Ax,Cb];unfold lim;omega),Bm hk2,obs]
   by_cases h0:0<=x.2[k]
   ·rw[Ag h0,Ac,obs,ay hp,obs,AH (by simp only[Ar,Ax,Cb];unfold lim;omega),Ex,BC hk (Be hl)]
    unfold ZC
    rw[AI h0,Bc]
   ·rw[Ah h0,Ad,Ex,BC hk (Be hl)]
    unfold ZC
    rw[AJ h0,Bp]
  rw[DI,cD,Yq h hk,V3,hw]
  rw[Bu hk,Ac,show((x.1.length:Int)==(x.2.length:Int))=true by rw[h.1];simp,Ac]
  by_cases h0:0 < k
  ·rw[Ag (by omega:(0:Int) < (k:Int)),Ac,AJ (by omega),AH (by simp only[At];unfold lim;omega),hJ _ (by simp only[Ar,At];omega)]
  ·obtain rfl:k=0:=by omega
   rw[Ah (by simp),Ad,AI rfl,hJ _ (by simp[La,Jr])]
   simp[La,Jr]) (λrec=>by rw[DI];rw[Ba];rfl) fz (CQ hl)
 rw[show((([]:List UInt8),(0:Int)))=(Jr [32] (La x 0),((0:Nat):Int))from rfl,this]
 rfl
theorem mf{q:Hc}{x:List (List Int)×List Int}(h:ZP q x=true)(hx:x.1.length<=1048576)(hb:∀b∈x.1,b.length<=1048576)(hi:∀p∈x.2,Zo p):fR x:=by
 unfold ZP at h
 simp only[Ab,AC]at h
 obtain⟨hv,hl,_,hbag,_⟩:=h
 have hn:=UY hl
 have hq:=KY hv
 refine⟨hn,hx,λb hb=>?_,hi⟩
 obtain⟨k,hk,rfl⟩:=Cx.1 hb
 have h1:=KF hbag hk
 simp only[CM]at h1
 unfold QV at h1
 simp only[Ab,AC]at h1
 have h2:=h1.1
 rw[WQ,CF]at h2
 have h3:B9 x.1[k] (G7 q.1 x.1[k])=false:=by rw[fw h2.2];exact h2.1
 have:=aB hq h3
 omega
def iO(p:Pln):Prop:=p.2.2.1.length<=1048576∧(∀x∈p.2.2.1,Zo x)∧p.2.2.2.1.length<=1048576∧(∀b∈p.2.2.2.1,b.length<=1048576)∧(∀x∈p.2.2.2.2,Zo x)∧p.2.1.length<=1048576
theorem mp{q:Hc}{p:Pln}(hq:JH q)(hp:cr p)(s1:iO p):∃r,Lp q p=some r∧Lc q p=some r:=by
 unfold Lp Lc
 rw[xo hq hp,uO hq hp,obs,obs]
 cases hv:gG q p with
 |false=>exact⟨_,rfl,rfl⟩
 |true=>
  rw[Al,Ad,Ad]
  unfold gG at hv
  unfold LR
  cases h1:p.1==1 with
  |true=>
   have l1:p.2.2.1.length<=1048576:=s1.1
   have hi:∀x∈p.2.2.1,Zo x:=s1.2.1
   have hlen:(YO [32] p.2.2.1).length<=1048576 * 21:=by
    unfold YO
    refine BD (Su [32] 21 _ (λw hw=>?_)) (by rw[As];omega)
    obtain⟨x,hx,rfl⟩:=Bh.1 hw
    have:=Ob (hi x hx)
    simp only[At];omega
   rw[Ac,Ac,obs,Ac]
   rw[AH (by simp only[Ax,Cb];unfold lim;omega),sR l1 hi,mu l1 hi,obs,obs,AH (by simp only[Ax,Cb];unfold lim;omega),AH (by simp only[Ar,Ax,Cb];unfold lim;omega)]
   exact⟨_,rfl,rfl⟩
  |false=>
   rw[h1,Ad]at hv
   cases h2:p.1==2 with
   |true=>
    rw[h2,Ac]at hv
    have hf:=mf hv s1.2.2.1 s1.2.2.2.1 s1.2.2.2.2.1
    have hlen:(fO p.2.2.2).length<=1048576 * 28:=by
     unfold fO
     refine BD (Su [32] 28 _ (Wi hf _)) ?_
     rw[Qa]
     have:=hf.2.1
     omega
    rw[Ad,Ac,Ad,Ac,obs,Ad,Ac]
    rw[AH (by simp only[Ax,Cb];unfold lim;omega),sQ hf,ql hf,obs,obs,AH (by simp only[Ax,Cb];unfold lim;omega),AH (by simp only[Ar,Ax,Cb];unfold lim;omega)]
    exact⟨_,rfl,rfl⟩
   |false=>
    rw[h2,Ad]at hv
    cases h3:p.1==3 with
    |false=>rw[h3]at hv;cases hv
    |true=>
     have l1:p.2.1.length<=1048576:=s1.2.2.2.2.2
     have hn:=MS p.2.1
     rw[Ad,Ad,Ad,Ad,Ac,obs,Ad,Ad]
     rw[AH (by simp only[Ax,Cb];unfold lim;omega),kW (by unfold lim;omega),eI (by unfold lim;omega),obs,obs,AH (by simp only[Ar,Ax,Cb];unfold lim;omega),AH (by simp only[Ar,Ax,Cb];unfold lim;omega),AH (by simp only[Ar,Ax,Cb];unfold lim;omega),AH (by simp only[Ar,Ax,Cb];unfold lim;omega)]
     refine⟨_,rfl,?_⟩
     simp
section
variable {q:Hc}{s:List Int}
theorem pL{L:Nat->Bool}{i k:Nat}(h:Qh q L=some (i,k)):k < q.2.1.length:=by
 unfold Qh at h
 obtain⟨j,_,h2⟩:=D7 h
 split at h2
 ·cases he:TX q L j with
  |none=>rw[he]at h2;cases h2
  |some m=>
   rw[he]at h2
   cases h2
   unfold TX at he
   obtain⟨t,h3,h4⟩:=D7 he
   split at h4
   ·cases h4;exact An.1 h3
   ·cases h4
 ·cases h2
theorem runinQ:∀(f:Nat) (out:List Nat) (up:Nat->Int) (L:Nat->Bool),(∀j,-1<=up j∧up j<=(q.2.1.length:Int))->∀j,-1<=(runM q f out up L).2 j∧(runM q f out up L).2 j<=(q.2.1.length:Int)
 |0,out,up,L,h=>by rw[runM];exact h
 |f+1,out,up,L,h=>by
  rw[runM]
  cases he:Qh q L with
  |none=>exact h
  |some p=>
   obtain⟨i,k⟩:=p
   have hk:=pL he
   refine runinQ f _ _ _ λj=>?_
   show -1<=(if j=i then(k:Int)else up j)∧(if j=i then(k:Int)else up j)<=_
   split
   ·omega
   ·exact h j
theorem nU:∀x∈(gyM q).2,-1<=x∧x<=(q.2.1.length:Int):=λx hx=>by
 unfold gyM QR at hx
 obtain⟨j,_,rfl⟩:=Bh.1 hx
 exact runinQ _ _ _ _ (λj=>by omega) j
theorem lC:(gyM q).2.length=q.2.1.length:=by unfold gyM QR;simp
theorem sI{O:List Nat}(hp:Vp O)(hl:O.length<=5):∀x∈(OJ O (Fe q)).2,-1<=x∧x<=5:=λx hx=>by
 unfold OJ at hx
 obtain⟨i,hi,rfl⟩:=Bh.1 hx
 have hi:=An.1 hi
 rcases MT (G:=Fe q) hp hi with⟨e,_⟩|⟨k,e,_,hk,_⟩<;>rw[e]<;>omega
def uk(x:List (List Int)×List Int):Prop:=x.1.length<=5∧(∀b∈x.1,b.length<=5)∧x.2.length<=5∧∀p∈x.2,-1<=p∧p<=5
theorem px(hv:De q=true):uk (Us q).1:=by
 obtain⟨h1,h2,h3,h4⟩:=FF hv
 rcases il (q:=q) _ (Bl _)with e|⟨O,hO,e⟩
 ·unfold Us
  rw[e]
  exact⟨CK _,λb hb=>(by cases hb),CK _,λp hp=>(by cases hp)⟩
 ·obtain⟨hp,hl⟩:=ai _ hO
  unfold Us
  rw[e]
  refine⟨by rw[(O3 hl).1];omega,λb hb=>?_,by rw[(O3 hl).2];omega,sI hp (by omega)⟩
  rw[Xr hl]at hb
  obtain⟨i,_,rfl⟩:=Bh.1 hb
  rw[C6]
  have:=Py q.1.toNat (WA q O i)
  unfold Qg
  omega
theorem iB:iO (chB q s).1∧cr (chB q s).1:=by
 have nil:∀k:Int,iO (k,[],[],([],[]))∧cr (k,[],[],([],[])):=λk=>⟨⟨CK _,λx hx=>(by cases hx),CK _,λb hb=>(by cases hb),λx hx=>(by cases hx),CK _⟩,CK _,by simp[lim],by simp[lim],λb hb=>(by cases hb),by simp[lim]⟩
 unfold chB
 cases hv:De q with
 |false=>exact nil 0
 |true=>
  obtain⟨h1,h2,h3,h4⟩:=FF hv
  rw[Ac]
  cases(s.length:Int)!=(q.2.1.length:Int)with
  |true=>exact nil 0
  |false=>
   rw[Ad]
   cases Vs q with
   |true=>
    have ht:=nU (q:=q)
    have hl:=lC (q:=q)
    refine⟨⟨?_,λx hx=>?_,(nil 0).1.2.2⟩,CK _,?_,(nil 0).2.2.2⟩
    ·show(gyM q).2.length<=1048576
     omega
    ·have:=ht x hx
     unfold Zo
     omega
    ·show(gyM q).2.length < lim
     unfold lim;omega
   |false=>
    rw[Ad]
    cases decide (JS (Us q).2.1 (Qm (cpP q)).2.1 < 0)with
    |true=>
     obtain⟨f1,f2,f3,f4⟩:=px hv
     refine⟨⟨CK _,λx hx=>(by cases hx),?_,λb hb=>?_,λx hx=>?_,CK _⟩,CK _,by simp[lim],?_,λb hb=>?_,?_⟩
     ·show(Us q).1.1.length<=1048576
      omega
     ·have:=f2 b hb
      omega
     ·have:=f4 x hx
      unfold Zo
      omega
     ·show(Us q).1.1.length < lim
      unfold lim;omega
     ·have:=f2 b hb
      unfold lim;omega
     ·show(Us q).1.2.length < lim
      unfold lim;omega
    |false=>
     refine⟨⟨CK _,(nil 0).1.2.1,(nil 0).1.2.2.1,(nil 0).1.2.2.2.1,(nil 0).1.2.2.2.2.1,?_⟩,?_,(nil 0).2.2⟩
     ·show(Tu q s q.1.toNat).length<=1048576
      rw[PU];omega
     ·show(Tu q s q.1.toNat).length<=lim
      rw[PU];unfold lim;omega
end
abbrev Row:=List Int
theorem S8{S O:Type}{B:(S->Option O)->S->Option O}(I:S->Prop)(μ:S->Nat)(R:O->Prop)(h:∀s,I s->(∃o,R o∧∀rec,B rec s=some o)∨∃s',I s'∧μ s' < μ s∧∀rec,B rec s=rec s'):∀(m:Nat) (s:S),I s->μ s < m->∃o,Ap B m s=some o∧R o
 |0,_,_,hm=>by omega
 |m+1,s,hs,hm=>by
  rw[By]
  rcases h s hs with⟨o,ho,he⟩|⟨s',h1,h2,he⟩
  ·exact⟨o,he _,ho⟩
  ·rw[he];exact S8 I μ R h m s' h1 (by omega)
section
variable {A0 B0:List Row}
end
abbrev Cur:=List Int×Int×Int
def Jo(c:Cur):Prop:=c.1.length<=1048576∧0<=c.2.1∧c.2.1<=c.1.length
def Dr{α:Type}(x:Option (α×Cur))(Q:α->Prop):Prop:=∃v c',x=some (v,c')∧Q v∧Jo c'
theorem dH(a:Int):0<=aZ a 255∧aZ a 255<=255:=by
 unfold aZ
 have h:(BitVec.ofInt IntKind.i64.bits a&&& BitVec.ofInt IntKind.i64.bits 255).toNat<=255:=by
  rw[BitVec.toNat_and]
  exact BD Nat.and_le_right (Nat.le_of_eq rfl)
 rw[wrap_in ⟨by omega,by omega⟩]
 omega
theorem sD{b:List Int}(h:b.length<=1048576):∃c,RB b=some c∧Jo c:=by
 unfold RB
 obtain⟨o,e,_⟩:=S8 (B:=Mg b) (λs=>0<=s.2∧s.2<=4000) (λs=>(4000 - s.2).toNat) (λ_=>True) (λs hs=>by
  obtain⟨y1,y2⟩:=s
  simp only at hs
  by_cases h1:y2 < (b.length:Int)
  ·by_cases h2:y2 < 4000
   ·right
    obtain⟨v,hv⟩:∃v,AZ b y2=some v:=⟨_,by unfold AZ;rw[AI hs.1,Af (by omega)]⟩
    refine⟨(aZ (IntKind.i64.wrap ((IntKind.i64.wrap ((IntKind.i64.wrap (y1 * 131))+(IntKind.i64.wrap v)))+7)) 1073741823,y2+1),⟨by simp only;omega,by simp only;omega⟩,by simp only;omega,λrec=>?_⟩
    simp only[Mg]
    rw[Ag h1,Ag h2,hv,wrap_in (n:=y2+1) ⟨by omega,by omega⟩]
    rfl
   ·left
    refine⟨y1,trivial,λrec=>?_⟩
    simp only[Mg]
    rw[Ag h1,Ah h2];rfl
  ·left
   refine⟨y1,trivial,λrec=>?_⟩
   simp only[Mg]
   rw[Ah h1];rfl) fz (IntKind.i64.wrap (10101+(List.length b:Int)),0) ⟨by simp,by simp⟩ (by unfold fz;simp)
 rw[e]
 exact⟨_,rfl,h,by simp,by simp⟩
section
variable {c:Cur}
theorem l9(h:Jo c):Dr (Jt c) λv=>0<=v∧v<=255:=by
 obtain⟨h1,h2,h3⟩:=h
 unfold Jt NA
 by_cases h4:c.2.1 < (c.1.length:Int)
 ·rw[Ag h4]
  obtain⟨v,hv⟩:∃v,AZ c.1 c.2.1=some v:=⟨_,by unfold AZ;rw[AI h2,Af (by omega)]⟩
  simp only[Ac,hv,Aa]
  refine⟨_,_,rfl,dH _,h1,?_,?_⟩
  ·simp only;rw[wrap_in ⟨by omega,by omega⟩];omega
  ·simp only;rw[wrap_in ⟨by omega,by omega⟩];omega
 ·rw[Ah h4]
  exact⟨_,_,rfl,dH _,h1,h2,h3⟩
theorem L5(h:Jo c){n:Int}(h0:0 < n)(h1:n<=256):Dr (EY c n) λv=>0<=v∧v < n:=by
 obtain⟨v,c',e,hv,hc⟩:=l9 h
 unfold EY
 rw[Ah (by omega),Ag h1,e]
 simp only[Ad,Ac,Aa]
 rw[AH (by omega)]
 refine⟨_,_,rfl,?_,hc⟩
 rw[Int.tmod_eq_emod_of_nonneg hv.1]
 exact⟨Int.emod_nonneg _ (by omega),Int.emod_lt_of_pos _ h0⟩
theorem ae(h:Jo c){n:Int}(h0:0 < n)(h1:n<=256):Dr (MW c n) λ_=>True:=by
 obtain⟨v,c',e,hv,hc⟩:=L5 h h0 h1
 unfold MW
 rw[e]
 exact⟨_,_,rfl,trivial,hc⟩
theorem X3(h:Jo c){l:List Int}(h0:0 < l.length)(h1:l.length<=256):Dr (Jh c l) λv=>v∈l:=by
 obtain⟨v,c',e,hv,hc⟩:=L5 h (n:=(l.length:Int)) (by omega) (by omega)
 unfold Jh
 rw[e]
 simp only[Aa]
 have:AZ l v=some (l[v.toNat]'(by omega)):=by unfold AZ;rw[AI hv.1,Af]
 rw[this]
 exact⟨_,_,rfl,Ak _,hc⟩
theorem fe(h:Jo c){l:List (List UInt8)}(h0:0 < l.length)(h1:l.length<=256):Dr (OB c l) λv=>v∈l:=by
 obtain⟨v,c',e,hv,hc⟩:=L5 h (n:=(l.length:Int)) (by omega) (by omega)
 unfold OB
 rw[e]
 simp only[Aa]
 have:AZ l v=some (l[v.toNat]'(by omega)):=by unfold AZ;rw[AI hv.1,Af]
 rw[this]
 exact⟨_,_,rfl,Ak _,hc⟩
def n9(k:Int)(l:List Row):Prop:=l.length<=1000∧∀r∈l,(r.length:Int)=k
theorem kD{k:Int}{l:List Row}(h:n9 k l)(hk:k<=1000):lg l:=⟨by have:=h.1;unfold lim;omega,λr hr=>by have:=h.2 r hr;unfold lim;omega⟩
def xR(t:Tbl):Prop:=t.1.length<=10∧∃k:Int,2<=k∧k<=1000∧n9 k t.2.2
def DbD(d:List Tbl):Prop:=d.length<=5∧∀t∈d,xR t
theorem DbD.sm{d:List Tbl}(h:DbD d):yC d:=⟨by have:=h.1;unfold lim;omega,λt ht=>by
 obtain⟨h1,k,h2,h3,h4⟩:=h.2 t ht
 exact⟨by unfold lim;omega,kD h4 h3⟩⟩
end
theorem av{q:Hc}(h:De q=true):1<=q.1∧q.1<=5∧1<=q.2.1.length∧q.2.1.length<=4∧(∀a∈q.2.1,a.1.length<=4∧1<=a.2.length∧a.2.length<=5)∧q.2.2.length<=5:=by
 obtain⟨h1,h2,h3,h4⟩:=Zb h
 unfold De at h
 simp only[Ab,AC]at h
 obtain⟨g1,g2,g3,g4,-⟩:=h
 have e2:1<=(q.2.1.length:Int)∧(q.2.1.length:Int)<=4:=by unfold Iw at g2;simpa using g2
 have e3:=aB ⟨h1,h2⟩ g3
 refine⟨h1,h2,by omega,h3,λa ha=>⟨?_,(h4 a ha).1,(h4 a ha).2.1⟩,by omega⟩
 have h5:=TV g4 ha
 unfold Mi at h5
 simp only[CF,CM]at h5
 have h6:=h5.1
 unfold nmB at h6
 simp only[Ab]at h6
 have:1<=(a.1.length:Int)∧(a.1.length:Int)<=4:=by have:=h6.1;unfold Iw at this;simpa using this
 omega
theorem sM{q:Hc}(h:De q=true):JH q:=by
 obtain⟨h1,h2,h3,h4,h5,h6⟩:=av h
 unfold JH lim
 exact⟨by omega,λa ha=>by have:=h5 a ha;omega,by omega⟩
def Ub:List (List UInt8):=[[40,88,89,90,41,61,114,40,88,89,41,44,115,40,89,90,41,44,116,40,90,88,41],[40,88,89,90,85,41,61,114,40,88,89,41,44,115,40,89,90,41,44,116,40,90,85,41,44,117,40,85,88,41],[40,88,89,90,41,61,114,40,88,89,41,44,115,40,89,90,41],[40,88,41,61,114,40,88,89,41,44,115,40,89,90,41,44,116,40,90,85,41],[40,88,89,90,41,61,118,40,88,89,90,41,44,114,40,88,89,41],[40,88,89,41,61,114,40,88,89,41,44,114,40,89,88,41],[40,88,89,90,85,41,61,118,40,88,89,90,41,44,115,40,90,85,41,44,116,40,85,88,41],[40,88,41,61,114,40,88,88,41],[40,88,89,41,61,114,40,88,90,41,44,115,40,90,89,41,44,114,40,88,85,41,44,115,40,85,89,41],[40,41,61,114,40,88,89,41,44,115,40,89,88,41],[40,88,89,90,85,86,41,61,114,40,88,89,41,44,115,40,89,90,41,44,116,40,90,85,41,44,117,40,85,86,41]]
def parsed(s:List UInt8):Bool:=match HW s with
 |some (q,_)=>De q
 |none=>false
theorem jp:Ub.all parsed=true:=by kernel_rfl
theorem Wt{s:List UInt8}(h:s∈Ub):∃q b,HW s=some (q,b)∧De q=true:=by
 have:=Ae.1 jp s h
 unfold parsed at this
 cases e:HW s with
 |none=>rw[e]at this;cases this
 |some x=>rw[e]at this;exact⟨x.1,x.2,rfl,this⟩
section
variable {c:Cur}
theorem n7(h:Jo c)(n:Int)(m:Int×Cur)(h0:0<=m.1)(h1:m.1<=100)(hn:n<=10):∃o,Ap (HZ m) fz (c.1,c.2.1,c.2.2,([]:List Int),n)=some o∧Jo (o.1,o.2.1,o.2.2.1)∧o.2.2.2.length<=10:=by
 exact S8 (B:=HZ m) (λs=>Jo (s.1,s.2.1,s.2.2.1)∧(s.2.2.2.1.length:Int)+max 0 s.2.2.2.2<=10∧s.2.2.2.2<=10) (λs=>s.2.2.2.2.toNat) (λo=>Jo (o.1,o.2.1,o.2.2.1)∧o.2.2.2.length<=10) (λs hs=>by
  obtain⟨b,i,hh,l,k⟩:=s
  obtain⟨i1,i2,i3⟩:=hs
  simp only at i1 i2 i3
  by_cases h2:0 < k
  ·right
   obtain⟨v,c',e,hv,hc⟩:=L5 i1 (n:=1+m.1) (by omega) (by omega)
   refine⟨(c'.1,c'.2.1,c'.2.2,l++[v],k - 1),⟨hc,?_,?_⟩,?_,λrec=>?_⟩
   ·simp only[Ar,At];omega
   ·simp only;omega
   ·simp only;omega
   ·simp only[HZ]
    rw[Ag h2,wrap_in (n:=1+m.1) ⟨by omega,by omega⟩,e]
    simp only[Ac,Aa]
    rw[AH (by unfold lim;simp only[At];omega),wrap_in ⟨by omega,by omega⟩]
  ·left
   refine⟨(b,i,hh,l),⟨i1,by simp only;omega⟩,λrec=>?_⟩
   simp only[HZ]
   rw[Ah h2];rfl) fz (c.1,c.2.1,c.2.2,([]:List Int),n) ⟨h,by simp only[Cb];omega,hn⟩ (by unfold fz;simp only;omega)
theorem ic(h:Jo c)(n:Int)(m:Int×Cur)(h0:0<=m.1)(h1:m.1<=100)(hn:n<=10):∃o,Ap (HY m) fz (c.1,c.2.1,c.2.2,([]:List SR),n)=some o∧Jo (o.1,o.2.1,o.2.2.1)∧o.2.2.2.length<=10∧∀a∈o.2.2.2,a.1.length<=10∧a.2.length<=10:=by
 exact S8 (B:=HY m) (λs=>Jo (s.1,s.2.1,s.2.2.1)∧(s.2.2.2.1.length:Int)+max 0 s.2.2.2.2<=10∧s.2.2.2.2<=10∧∀a∈s.2.2.2.1,a.1.length<=10∧a.2.length<=10) (λs=>s.2.2.2.2.toNat) (λo=>Jo (o.1,o.2.1,o.2.2.1)∧o.2.2.2.length<=10∧∀a∈o.2.2.2,a.1.length<=10∧a.2.length<=10) (λs hs=>by
  obtain⟨b,i,hh,l,k⟩:=s
  obtain⟨i1,i2,i3,i4⟩:=hs
  simp only at i1 i2 i3 i4
  by_cases h2:0 < k
  ·right
   obtain⟨v,c',e,hv,hc⟩:=L5 i1 (n:=5) (by omega) (by omega)
   obtain⟨nm,hg,hnm⟩:∃nm,AZ ([[114],[115],[116],[117],[118]]:List (List UInt8)) v=some nm∧nm.length<=10:=by
    have:v=0∨v=1∨v=2∨v=3∨v=4:=by omega
    rcases this with rfl|rfl|rfl|rfl|rfl<;>exact⟨_,rfl,by simp⟩
   have hdiv:0<=Int.tdiv v 4∧Int.tdiv v 4<=1:=by
    rw[GP hv.1];omega
   obtain⟨o,e2,ho,hl⟩:=n7 hc (2+Int.tdiv v 4) m h0 h1 (by omega)
   refine⟨(o.1,o.2.1,o.2.2.1,l++[(nm,o.2.2.2)],k - 1),⟨ho,?_,?_,?_⟩,?_,λrec=>?_⟩
   ·simp only[Ar,At];omega
   ·simp only;omega
   ·intro a ha
    rcases Aq.1 ha with ha|ha
    ·exact i4 a ha
    ·rw[AT]at ha;subst ha;exact⟨hnm,hl⟩
   ·simp only;omega
   ·simp only[HY]
    rw[Ag h2,e]
    simp only[Ac,Aa,hg]
    rw[wrap_in (n:=Int.tdiv v 4) ⟨by omega,by omega⟩,wrap_in (n:=2+Int.tdiv v 4) ⟨by omega,by omega⟩,e2]
    obtain⟨o1,o2,o3,o4⟩:=o
    simp only
    rw[AH (by unfold lim;simp only[At];omega),wrap_in (n:=k - 1) ⟨by omega,by omega⟩]
  ·left
   refine⟨(b,i,hh,l),⟨i1,by simp only;omega,i4⟩,λrec=>?_⟩
   simp only[HY]
   rw[Ah h2];rfl) fz (c.1,c.2.1,c.2.2,([]:List SR),n) ⟨h,by simp only[Cb];omega,hn,λa ha=>by cases ha⟩ (by unfold fz;simp only;omega)
theorem nc(h:Jo c)(m:Int×Cur)(h0:0<=m.1)(h1:m.1<=9):∃o,Ap (F1 m) fz (c.1,c.2.1,c.2.2,([]:List Int),0)=some o∧Jo (o.1,o.2.1,o.2.2.1)∧o.2.2.2.length<=10:=by
 exact S8 (B:=F1 m) (λs=>Jo (s.1,s.2.1,s.2.2.1)∧0<=s.2.2.2.2∧s.2.2.2.2<=1+m.1∧(s.2.2.2.1.length:Int)<=s.2.2.2.2) (λs=>(1+m.1 - s.2.2.2.2).toNat) (λo=>Jo (o.1,o.2.1,o.2.2.1)∧o.2.2.2.length<=10) (λs hs=>by
  obtain⟨b,i,hh,l,k⟩:=s
  obtain⟨i1,i2,i3,i4⟩:=hs
  simp only at i1 i2 i3 i4
  by_cases h2:k < 1+m.1
  ·right
   obtain⟨w,c',e,_,hc⟩:=ae i1 (n:=2) (by omega) (by omega)
   cases w with
   |true=>
    refine⟨(c'.1,c'.2.1,c'.2.2,[k]++l,k+1),⟨hc,?_,?_,?_⟩,?_,λrec=>?_⟩
    ·simp only;omega
    ·simp only;omega
    ·simp only[Ar,At];omega
    ·simp only;omega
    ·simp only[F1]
     rw[wrap_in (n:=1+m.1) ⟨by omega,by omega⟩,Ag h2,e]
     simp only[Ac,Aa]
     rw[AH (by unfold lim;simp only[At];omega)]
     unfold H0
     rw[wrap_in (n:=k+1) ⟨by omega,by omega⟩]
   |false=>
    refine⟨(c'.1,c'.2.1,c'.2.2,l,k+1),⟨hc,?_,?_,?_⟩,?_,λrec=>?_⟩
    ·simp only;omega
    ·simp only;omega
    ·simp only;omega
    ·simp only;omega
    ·simp only[F1]
     rw[wrap_in (n:=1+m.1) ⟨by omega,by omega⟩,Ag h2,e]
     simp only[Ac,Ad,Aa]
     unfold H0
     rw[wrap_in (n:=k+1) ⟨by omega,by omega⟩]
  ·left
   refine⟨(b,i,hh,l),⟨i1,by simp only;omega⟩,λrec=>?_⟩
   simp only[F1]
   rw[wrap_in (n:=1+m.1) ⟨by omega,by omega⟩,Ah h2];rfl) fz (c.1,c.2.1,c.2.2,([]:List Int),0) ⟨h,by simp,by simp only;omega,by simp⟩ (by unfold fz;simp only;omega)
theorem kx(h:Jo c):Dr (Ly c) λq=>De q=true:=by
 unfold Ly
 obtain⟨s,c1,e1,hs,hc1⟩:=fe h (l:=Ub) (by simp[Ub]) (by simp[Ub])
 unfold Ub at e1
 rw[e1]
 simp only[Aa]
 obtain⟨q,b,e2,hq⟩:=Wt hs
 rw[e2]
 simp only
 obtain⟨w,c2,e3,_,hc2⟩:=ae hc1 (n:=3) (by omega) (by omega)
 rw[e3]
 simp only
 cases w with
 |false=>exact⟨_,_,rfl,hq,hc2⟩
 |true=>
  simp only[Al,Ad]
  obtain⟨n,c3,e4,hn,hc3⟩:=L5 hc2 (n:=4) (by omega) (by omega)
  rw[e4]
  simp only
  obtain⟨m,c4,e5,hm,hc4⟩:=L5 hc3 (n:=4) (by omega) (by omega)
  rw[e5]
  simp only
  rw[wrap_in (n:=1+m) ⟨by omega,by omega⟩,wrap_in (n:=1+n) ⟨by omega,by omega⟩]
  obtain⟨o,e6,ho,hl,ha⟩:=ic hc4 (1+m) (n,c3) (by simp only;omega) (by simp only;omega) (by omega)
  rw[e6]
  obtain⟨o1,o2,o3,o4⟩:=o
  simp only at ho hl ha⊢
  obtain⟨p,e7,hp,hl2⟩:=nc ho (n,c3) (by simp only;omega) (by simp only;omega)
  simp only at e7
  rw[e7]
  obtain⟨p1,p2,p3,p4⟩:=p
  simp only at hp hl2⊢
  rw[Ks (q:=(1+n,o4,p4)) ⟨by unfold lim;simp only;omega,λa h=>by have:=ha a h;unfold lim;omega,by unfold lim;simp only;omega⟩]
  simp only
  cases hv:De (1+n,o4,p4)with
  |false=>exact⟨_,_,rfl,hq,hp⟩
  |true=>exact⟨_,_,rfl,hv,hp⟩
def AnyQ(q:Hc):Prop:=0<=q.1∧q.1<=6∧1<=q.2.1.length∧q.2.1.length<=5∧(∀a∈q.2.1,a.1.length<=4∧a.2.length<=5)∧q.2.2.length<=6
theorem AnyQ.sm{q:Hc}(h:AnyQ q):JH q:=by
 obtain⟨h1,h2,h3,h4,h5,h6⟩:=h
 unfold JH lim
 exact⟨by omega,λa ha=>by have:=h5 a ha;omega,by omega⟩
theorem nn(h:Jo c):Dr (RE c) λq=>AnyQ q:=by
 unfold RE
 obtain⟨q,c1,e1,hq,hc1⟩:=kx h
 obtain⟨h1,h2,h3,h4,h5,h6⟩:=av hq
 have h5':∀a∈q.2.1,a.1.length<=4∧a.2.length<=5:=λa ha=>⟨(h5 a ha).1,(h5 a ha).2.2⟩
 rw[e1]
 simp only[Aa]
 obtain⟨w,c2,e2,_,hc2⟩:=L5 hc1 (n:=14) (by omega) (by omega)
 rw[e2]
 simp only
 have g0:AZ q.2.1 0=some (q.2.1[0]'(by omega)):=Bm (k:=0) (by omega)
 have m0:=h5 _ (Ak (by omega:0 < q.2.1.length))
 cases(w==0)with
 |true=>
  simp only[Ac]
  rw[wrap_in ⟨by omega,by omega⟩]
  obtain⟨x,c3,e3,hx,hc3⟩:=X3 hc2 (l:=[0,6,q.1+1]) (by simp) (by simp)
  have hx':0<=x∧x<=6:=by simp at hx;omega
  rw[e3]
  exact⟨_,_,rfl,⟨hx'.1,hx'.2,h3,by simp only;omega,h5',by simp only;omega⟩,hc3⟩
 |false=>
  simp only[Ad]
  cases(w==1)with
  |true=>
   simp only[Ac]
   obtain⟨x,c3,e3,hx,hc3⟩:=fe hc2 (l:=[[],[119],[114]]) (by simp) (by simp)
   have hx':x.length<=4:=by simp at hx;rcases hx with rfl|rfl|rfl<;>simp
   rw[e3]
   simp only
   rw[AH (by unfold lim;simp only[At];omega)]
   refine⟨_,_,rfl,⟨by simp only;omega,by simp only;omega,by simp only[Ar,At];omega,by simp only[Ar,At];omega,λa ha=>?_,by simp only;omega⟩,hc3⟩
   rcases Aq.1 ha with ha|ha
   ·exact h5' a ha
   ·rw[AT]at ha;subst ha;exact⟨hx',by simp⟩
  |false=>
   simp only[Ad]
   cases(w==2)with
   |true=>
    simp only[Ac]
    obtain⟨x,c3,e3,hx,hc3⟩:=L5 hc2 (n:=6) (by omega) (by omega)
    rw[e3]
    simp only
    rw[AH (by unfold lim;simp only[At];omega)]
    exact⟨_,_,rfl,⟨by simp only;omega,by simp only;omega,by simp only;omega,by simp only;omega,h5',by simp only[Ar,At];omega⟩,hc3⟩
   |false=>
    simp only[Ad]
    cases(w==3)with
    |true=>
     simp only[Ac]
     rw[AH (by omega),g0]
     refine⟨_,_,rfl,⟨by simp only;omega,by simp only;omega,by unfold Da;simp only[BG];omega,by unfold Da;simp only[BG];omega,λa ha=>?_,by simp only;omega⟩,hc2⟩
     unfold Da at ha
     rcases Ev ha with h7|rfl
     ·exact h5' a h7
     ·exact⟨m0.1,by simp⟩
    |false=>
     simp only[Ad]
     cases(w==4)with
     |true=>
      simp only[Ac]
      rw[AH (by omega),g0]
      simp only
      rw[AH (by omega)]
      obtain⟨x,c3,e3,hx,hc3⟩:=X3 hc2 (l:=[-1,5]) (by simp) (by simp)
      rw[e3]
      have g1:AZ (q.2.1[0]'(by omega)).2 0=some ((q.2.1[0]'(by omega)).2[0]'(by omega)):=Bm (k:=0) (by omega)
      simp only[g1]
      refine⟨_,_,rfl,⟨by simp only;omega,by simp only;omega,by unfold Da;simp only[BG];omega,by unfold Da;simp only[BG];omega,λa ha=>?_,by simp only;omega⟩,hc3⟩
      unfold Da at ha
      rcases Ev ha with h7|rfl
      ·exact h5' a h7
      ·exact⟨m0.1,by simp only[BG];omega⟩
     |false=>exact⟨_,_,rfl,⟨by simp only;omega,by simp only;omega,by simp only;omega,by simp only;omega,h5',by simp only;omega⟩,hc2⟩
end
section
variable {c:Cur}
theorem fy(h:Jo c){p:Hc}{n:Int}{al:List SR}{o:List Int}(hq:De (n,al,o)=true):Dr (Ji (p,c) n al o) λq=>JH q∧q.2.1.length<=5:=by
 unfold Ji
 obtain⟨w,c2,e,_,hc2⟩:=ae h (n:=14) (by omega) (by omega)
 rw[e]
 simp only[Aa]
 cases w with
 |false=>
  have hl:=av hq
  exact⟨_,_,rfl,⟨sM hq,by have:=hl.2.2.2.1;simp only at this⊢;omega⟩,hc2⟩
 |true=>
  obtain⟨x,c3,e3,hx,hc3⟩:=nn hc2
  simp only[Ac]
  rw[e3]
  exact⟨_,_,rfl,⟨hx.sm,hx.2.2.2.1⟩,hc3⟩
theorem li(h:Jo c):Dr (N7 c) λq=>JH q∧q.2.1.length<=5:=by
 unfold N7
 obtain⟨q,c1,e1,hq,hc1⟩:=kx h
 rw[e1]
 simp only[Aa]
 cases decide (4 < q.1)with
 |false=>exact fy hc1 hq
 |true=>
  obtain⟨r,b,e2,hr⟩:=Wt (s:=[40,88,41,61,114,40,88,89,41,44,115,40,89,90,41,44,116,40,90,85,41]) (by simp[Ub])
  simp only[Ac]
  rw[e2]
  exact fy hc1 hr
theorem lf(h:Jo c){n:Int}(hn:n<=10):Dr (N6 c n) λl=>l.length<=10:=by
 obtain⟨o,e,h1,h2⟩:=S8 (B:=Lv n) (λs=>Jo (s.1,s.2.1,s.2.2.1)∧s.2.2.2.length<=10) (λs=>10 - s.2.2.2.length) (λo=>Jo (o.1,o.2.1,o.2.2.1)∧o.2.2.2.length<=10) (λs hs=>by
  obtain⟨b,i,hh,l⟩:=s
  obtain⟨i1,i2⟩:=hs
  simp only at i1 i2
  by_cases h2:(l.length:Int) < n
  ·right
   obtain⟨v,c',e,hv,hc⟩:=X3 i1 (l:=[0,1,2,3,5,9,16]) (by simp) (by simp)
   refine⟨(c'.1,c'.2.1,c'.2.2,l++[v]),⟨hc,?_⟩,?_,λrec=>?_⟩
   ·simp only[Ar,At];omega
   ·simp only[Ar,At];omega
   ·simp only[Lv]
    rw[Ag h2,e]
    simp only[Ac,Aa]
    rw[AH (by unfold lim;simp only[At];omega)]
  ·left
   refine⟨(b,i,hh,l),⟨i1,i2⟩,λrec=>?_⟩
   simp only[Lv]
   rw[Ah h2];rfl) fz (c.1,c.2.1,c.2.2,([]:List Int)) ⟨h,by simp⟩ (by unfold fz;simp)
 unfold N6
 rw[e]
 exact⟨_,_,rfl,h2,h1⟩
end
theorem mh{b:List Int}(h:b.length<=1048576):∃q s,IL b=some (q,s)∧JH q:=by
 unfold IL
 obtain⟨c,e,hc⟩:=sD h
 rw[e]
 simp only[Aa]
 obtain⟨q,c1,e1,⟨hq,hl⟩,hc1⟩:=li hc
 rw[e1]
 simp only
 obtain⟨v,c2,e2,hv,hc2⟩:=L5 hc1 (n:=14) (by omega) (by omega)
 rw[e2]
 simp only
 have ht:Int.tdiv v 13=v / 13:=GP hv.1
 rw[ht,wrap_in (n:=v / 13) (by omega),wrap_in (by omega)]
 obtain⟨s,c3,e3,_,_⟩:=lf hc2 (n:=(q.2.1.length:Int)+v / 13) (by omega)
 rw[e3]
 exact⟨_,_,rfl,hq⟩
open Go.RowKit Go.ChangeShapes Go.WideShapes Go.Deep
set_option maxRecDepth 100000
def uc(x:List Int):List V:=[dL NJ x]
section
variable {H:Type}{enc:TypeId×Value->H}{w:World}{base:Nat}{spare:Nat->Bool}{held:Bool}
def wS(x:List Int):Prop:=x.length<=maxLen∧∀a∈x,(0<=a∧a<=255)
theorem yr:Opens enc Tryz.prog w base spare held 22 uc wS:=kg Tryz.underlying22 (by kernel_rfl) (Nat.le_of_ble_eq_true rfl) dD (kh Tryz.underlying5)
end
end Go.Proofs.YtplejokflpkcbaaGreatDoor
namespace Go.Proofs.YtplejokflpkcbaaGreatDoor
section
variable {q:Hc}{s:List Int}
theorem w5(hq:JH q)(hv:De q=true):Ja q=some (Vs q):=by
 obtain⟨_,_,h4,_⟩:=MG hv
 unfold Ja IQ Ih
 rw[Ks hq,hv]
 simp only[Aa,Ac,Al,Ad,o9 hq hv]
 rw[wrap_in (by omega)]
 rfl
theorem iA:chB q s=((0,[],[],([],[])),false)∨(De q=true∧((Vs q=true∧chB q s=((1,[],(gyM q).2,([],[])),true))∨(Vs q=false∧decide (JS (Us q).2.1 (Qm (cpP q)).2.1 < 0)=true∧chB q s=((2,[],[],(Us q).1),true))∨(Vs q=false∧decide (JS (Us q).2.1 (Qm (cpP q)).2.1 < 0)=false∧chB q s=((3,Tu q s q.1.toNat,[],([],[])),true)))):=by
 unfold chB
 cases hv:De q with
 |false=>exact .inl rfl
 |true=>
  rw[Ac]
  cases(s.length:Int)!=(q.2.1.length:Int)with
  |true=>exact .inl rfl
  |false=>
   rw[Ad]
   refine .inr ⟨rfl,?_⟩
   cases Vs q with
   |true=>exact .inl ⟨rfl,rfl⟩
   |false=>
    rw[Ad]
    cases decide (JS (Us q).2.1 (Qm (cpP q)).2.1 < 0)with
    |true=>exact .inr (.inl ⟨rfl,rfl,rfl⟩)
    |false=>exact .inr (.inr ⟨rfl,rfl,rfl⟩)
end
theorem V5{b:List Int}(k:wS b):Kr b=some true:=by
 by_cases hb:1048576 < b.length
 ·unfold Kr UX
  rw[Ag (by omega:(1048576:Int) < (b.length:Int))]
  rfl
 unfold Kr UX
 rw[Ah (by omega:¬(1048576:Int) < (b.length:Int))]
 simp only[Aa,Ad]
 obtain⟨q,s,e,hq⟩:=mh (b:=b) (by omega)
 rw[e]
 simp only
 rw[yb hq,yu hq]
 simp only
 obtain⟨r,x1,x2⟩:=mp hq (iB (q:=q) (s:=s)).2 (iB (q:=q) (s:=s)).1
 rw[x1,x2]
 simp only[BY,Dk,Al,Ad]
 rcases iA (q:=q) (s:=s)with h|⟨hv,h⟩
 ·rw[h];rfl
 ·rw[xa hq hv,o5 hq hv,w5 hq hv]
  simp only
  rcases h with⟨ha,h⟩|⟨ha,hc,h⟩|⟨ha,hc,h⟩
  ·rw[h,ha];rfl
  ·rw[h,ha,Uh]
   simp only
   rw[hc];rfl
  ·rw[h,ha,Uh]
   have h0:=Ie hc
   simp only
   rw[Ag (by omega:0<=JS (Us q).2.1 (Qm (cpP q)).2.1)];rfl
end Go.Proofs.YtplejokflpkcbaaGreatDoor
