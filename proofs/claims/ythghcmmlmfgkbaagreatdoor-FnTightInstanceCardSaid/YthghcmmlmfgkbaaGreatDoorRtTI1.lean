/-
  Functions of the program as typed functions, printed by gen.py, and that the program's functions do what they say. No conditions.
-/
import Derived.Test.YthghcmmlmfgkbaaGreatDoorGScTI1
import Derived.Test.YthghcmmlmfgkbaaGreatDoorKb
open Go.RowKit
set_option linter.unusedVariables false
set_option linter.unusedSimpArgs false
namespace Go.Proofs.YthghcmmlmfgkbaaGreatDoor
section
set_option maxRecDepth 100000
set_option maxHeartbeats 1000000
def I8(a:List AV)(b:Int->Option (Sum Unit (zI×Int)))(c:Int):Option (Sum Unit (zI×Int)):=cond (decide (c < (List.length a:Int))) (Ab (AZ a c) λd=>Ab (D6 d) λe=>cond (!e) (some (.inr (([]:zI),0))) (cond (decide (d.1 < 0)) (some (.inr (([]:zI),0))) (b (wZ (c+1))))) (some (.inl ()))
def E9(a:List AV)(b:(Int×Int)->Option (Sum Int (zI×Int)))(c:Int×Int):Option (Sum Int (zI×Int)):=match c with
  |(d,e)=>cond (decide (e < (List.length a:Int))) (Ab (AZ a e) λf=>Ab (Qu d f.2) λg=>chk (g≠0) (cond (decide (1000 < (wZ ((wZ (Int.tdiv d g)) * f.2)))) (some (.inr (([]:zI),0))) (b ((wZ ((wZ (Int.tdiv d g)) * f.2)),(wZ (e+1)))))) (some (.inl d))
def I9(a:List AV)(b:Int)(c:(zI×Int)->Option (zI))(d:zI×Int):Option (zI):=match d with
  |(e,f)=>cond (decide (f < (List.length a:Int))) (Ab (AZ a f) λg=>chk (g.2≠0) (chk (List.length e+List.length [wZ (g.1 * (wZ (Int.tdiv b g.2)))]<=lim) (c ((e++[wZ (g.1 * (wZ (Int.tdiv b g.2)))]),(wZ (f+1)))))) (some e)
def E8(a:List AV):Option (zI×Int):=Ab (Au (I8 a) fz 0) λb=>(match b with
  |.inl _=>(Ab (Au (E9 a) fz (1,0)) λc=>(match c with
  |.inl d=>(Ab (Au (I9 a d) fz (([]:zI),0)) λe=>some (e,d))
  |.inr f=>some f))
  |.inr f=>some f)
theorem JB{a:List AV}{b:zI×Int}(h:E8 a=some b):Bn 89 [dL AO a] (.tup [oL 3 AF b.1,nI b.2]):=st zb G (rn 2 G (As λc d=>rn 1 G (EF h λe f g=>have i:(.inl ())=e->Jn c [(0,dL AO a),(4,nI 1)]:=λh _ j=>have h:=g h;d _ (lh j G (As λk l=>rn 1 G (EF h λm f n=>have o:∀{p:Int},(.inl p)=m->Jn k [(0,dL AO a),(4,nI p)]:=@λp h _ j=>have h:=n h;l _ (lh j G (rn 1 G (As λq r=>rn 1 G (EF h λs f t=>have u:∀{v:zI},v=s->Jn q [(4,nI p),(9,oL 3 AF v)]:=@λv h _ j=>have h:=t h;r _ (lh j G (rn 1 G (sj h ▸ Am rZ)));(Ba (λ(w:zI×Int)=>match w with|(x,y)=>[(4,nI p),(9,oL 3 AF x),(45,dL AO a),(46,nI (List.length a:Int)),(47,nI y)]) _ _ _ _ f (Bb G) (λ_=>G) (λz=>Kk λx y A h B=>rn 1 G (CU λC=>Ce h G (λh=>Cl C (CU λD=>A8 (rs (Bk h λF H h=>qI G BX H (AU 3 G (rgd (by kernel_rfl) (sd 6 G (EM h λI h=>ed G (qB G ⟨G,I⟩ G (sd 1 G (ed G (EW AF [wZ (F.1 * (wZ (Int.tdiv p F.2)))] G G G BJ (EM h λJ h=>ed G (qA AF x [wZ (F.1 * (wZ (Int.tdiv p F.2)))] G G (Bh BJ [wZ (F.1 * (wZ (Int.tdiv p F.2)))]) G J (sd 1 G (Dh (D _ (rg (AU 2 G (B _ _ h (Bb G))))))))))))))))))))) λh=>AI (u (sj h) _ (Bb G)))))))));(Ba (λ(w:Int×Int)=>match w with|(K,L)=>[(0,dL AO a),(4,nI K),(27,dL AO a),(28,nI (List.length a:Int)),(29,nI L)]) _ _ _ _ f (Bb G) (λ_=>G) (λz=>Kk λK L A h B=>rn 1 G (CU λM=>Ce h G (λh=>Cl M (CU λN=>A8 (rs (Bk h λO P h=>qI G BX P (AU 3 G (rd (by kernel_rfl) (sd 4 G (Bk h λQ R h=>ed G (qC (qs G (qs G A4)) (TG R) (EM h λS h=>ed G (qB G ⟨G,S⟩ G (sd 4 G (Dh (rn 1 G (Ce h G (λh=>rn 1 G (sj (n (sj h)) ▸ Am rZ)) λh=>Cl N (qk [0,4,27,28,29] G (rg (AU 2 G (B _ _ h (Bb G)))))))))))))))))))) λh=>AI (o (sj h) _ (Bb G))))))));(Ba (λ(T:Int)=>[(0,dL AO a),(4,nI 1),(12,dL AO a),(13,nI (List.length a:Int)),(14,nI T)]) _ _ _ _ f (Bb G) (λ_=>G) (λz T A h B=>rn 1 G (CU λU=>Ce h G (λh=>Cl U (CU λV=>A8 (rs (Bk h λW X h=>qI G BX X (AU 3 G (rs (sp 1 G (Bk h λY Z h=>qC (qa G (D2 (BR G (BR G G))) A4) (Fx Z) (sp 2 G (Ew h (λb h=>qg 21 b G (AU 4 G (qT G G (rn 1 G (sj (g (sj h)) ▸ Am rZ))))) λb h=>qg 21 b G (AU 4 G (Ce h G (λh=>rn 1 G (qk [2,3] G (sj (g (sj h)) ▸ Am rZ))) λh=>Cl V (rg (AU 2 G (B _ _ h (Bb G)))))))))))))))) λh=>AI (i (sj h) _ (Bb G))))))))
def Ko(a:zI)(b:Int->Option (Sum Unit Bool))(c:Int):Option (Sum Unit Bool):=cond (decide (c < (List.length a:Int))) (Ab (AZ a c) λd=>Ab (Dd d 0 9) λe=>cond (!e) (some (.inr false)) (b (wZ (c+1)))) (some (.inl ()))
def HJ(a:Bool):Option Bool:=some a
def E2(a:zI):Option Bool:=Ab (Au (Ko a) fz 0) λb=>(match b with
  |.inl _=>(cond (decide ((List.length a:Int)<=60)) (cond ((List.length a:Int)==0) (HJ true) (Ab (AZ a (wZ ((List.length a:Int) - 1))) λc=>HJ (c !=0))) (HJ false))
  |.inr d=>some d)
theorem H8{a:zI}{b:Bool}(h:E2 a=some b):Bn 117 [.agg [dL AF a]] (.bool b):=st ul G (rn 2 G (As λc d=>rn 1 G (EF h λe f g=>have i:(.inl ())=e->Jn c [(1,.box [dL AF a]),(3,nI (List.length a:Int))]:=λh _ j=>have h:=g h;d _ (lh j G (rk λk l=>have m:∀{n:Bool},HJ n=some b->Jn k [(2,.bool n)]:=@λn h _ j=>l _ (lh j G (sj h ▸ Am rZ));(sp 3 G (Ew h (λo h=>qg 22 o G (sp 3 G (Ew h (λp h=>qg 25 p G (AU 10 G (m h _ (Bb G)))) λp h=>qg 25 p G (sp 4 G (Bk h λq r h=>FY G G (qI G BJ r (AU 5 G (m h _ (Bb G))))))))) λo h=>qg 22 o G (AU 13 G (m h _ (Bb G)))))));(Ba (λ(s:Int)=>[(1,.box [dL AF a]),(3,nI (List.length a:Int)),(10,dL AF a),(11,nI (List.length a:Int)),(12,nI s)]) _ _ _ _ f (Bb G) (λ_=>G) (λt s u h v=>rn 1 G (CU λw=>Ce h G (λh=>Cl w (CU λx=>A8 (rs (Bk h λy z h=>qI G BJ z (AU 2 G (rs (sp 1 G (Bk h λA B h=>qC (qs G (qs G (qs G A4))) (C3 B) (AU 1 G (Ce h G (λh=>rn 1 G (sj (g (sj h)) ▸ Am rZ)) λh=>Cl x (rg (AU 2 G (v _ _ h (Bb G)))))))))))))) λh=>AI (i (sj h) _ (Bb G))))))))
def J2(a:(zI×Int×Int)->Option (zI))(b:zI)(c:Int)(d:Int):Option (zI):=chk (List.length b+List.length [Int.tmod d 10]<=lim) (a ((b++[Int.tmod d 10]),(wZ (Int.tdiv d 10)),(wZ (c+1))))
def J1(a:(zI×Int×Int)->Option (zI))(b:zI)(c:zI)(d:Int)(e:Int)(f:Bool):Option (zI):=cond f (cond (decide (e < (List.length b:Int))) (Ab (AZ b e) λg=>J2 a c e (wZ (d+g))) (J2 a c e d)) (some c)
def HZ(a:zI)(b:(zI×Int×Int)->Option (zI))(c:zI×Int×Int):Option (zI):=match c with
  |(d,e,f)=>cond (decide (f < (List.length a:Int))) (J1 b a d e f true) (J1 b a d e f (decide (0 < e)))
def Mq(a:zI)(b:Int->Option Int)(c:Int):Option Int:=cond (decide (0 < c)) (Ab (AZ a (wZ (c - 1))) λd=>cond (d==0) (b (wZ (c - 1))) (some c)) (some c)
def ON(a:zI):Option (zI×Bool):=Ab (Au (HZ a) fz (([]:zI),0,0)) λb=>Ab (Au (Mq b) fz (List.length b:Int)) λc=>chk ((0:Int)<=0∧0<=c∧c<=(List.length b:Int)) (cond (decide (60 < c)) (some ([],false)) (some (Ef b 0 c,true)))
theorem W1{a:zI}{b:zI×Bool}(h:ON a=some b):Bn 119 [dL AF a] (.tup [.agg [dL AF b.1],.bool b.2]):=st un G (rn 3 G (As λc d=>rn 1 G (EF h λe f g=>have i:∀{j:zI},j=e->Jn c [(2,.box [oL 3 AF []]),(4,.box [oL 3 AF j])]:=@λj h _ k=>have h:=g h;d _ (lh k G (rn 1 G (As λl m=>EF h λn f o=>have p:∀{q:Int},q=n->Jn l [(2,.box [oL 3 AF []]),(4,.box [oL 3 AF j]),(7,nI q)]:=@λq h _ k=>have h:=o h;m _ (lh k G (rs (sp 3 G (EM h λr h=>qSl G BJ r (AU 2 G (Fu G λs=>Ce h G (λh=>rn 1 G (G2 [(2,.box [dL AF []]),(3,.bool false)] ⟨(kb (cwe G G cwn)),kr,trivial⟩ G (sj h ▸ Am rZ))) λh=>Cl s (rn 1 G (sj h ▸ Am rZ))))))));(Ba (λ(t:Int)=>[(2,.box [oL 3 AF []]),(4,.box [oL 3 AF j]),(7,nI t)]) _ _ _ _ f (Bb G) (λ_=>G) (λu t v h w=>CU λx=>rs (sp 3 G (Ew h (λy h=>qg 42 y G (sp 4 G (Bk h λz A h=>FY G G (qI G BJ A (AU 3 G (Ce h G (λh=>Cl x (A8 (rg (AU 3 G (w _ _ h (Bb G)))))) λh=>AI (p (sj h) _ (Bb G)))))))) λy h=>qg 42 y G (AU 8 G (qF G G (AI (p (sj h) _ (Bb G))))))))))));(Ba (λ(B:zI×Int×Int)=>match B with|(C,D,F)=>[(0,dL AF a),(2,.box [oL 3 AF []]),(4,.box [oL 3 AF C]),(5,nI D),(6,nI F)]) _ _ _ _ f (Bb G) (λ_=>G) (λu=>pr3 λC D F v h w=>CU λH=>rk λI J=>have K:∀{L:Bool},J1 (Au (HZ a) u) a C D F L=some e->Jn I [(0,dL AF a),(2,.box [oL 3 AF []]),(4,.box [oL 3 AF C]),(5,nI D),(6,nI F),(15,.bool L)]:=@λL h _ k=>J _ (lh k G (Ce h G (λh=>Cl H (CU λM=>A8 (As λN O=>rn 1 G (have P:∀{Q:Int},J2 (Au (HZ a) u) C F Q=some e->Jn N [(0,dL AF a),(2,.box [oL 3 AF []]),(4,.box [oL 3 AF C]),(5,nI Q),(6,nI F)]:=@λQ h _ k=>O _ (lh k G (rs (sp 4 G (EW AF [Int.tmod Q 10] G G G BJ (EM h λR h=>qA AF C [Int.tmod Q 10] G G (Bh BJ [Int.tmod Q 10]) G R (AU 2 G (rg (AU 3 G (M _ (rg (AU 3 G (w _ _ h (Bb G)))))))))))));(Ce h G (λh=>rg (sp 3 G (Bk h λS T h=>qI G BJ T (AU 3 G (P h _ (Bb G)))))) λh=>DZ (P h _ (Bb G))))))) λh=>AI (i (sj h) _ (Bb G))));(sp 5 G (Ew h (λU h=>qg 12 U G (AU 3 G (K h _ (Bb G)))) λU h=>qg 12 U G (AU 3 G (K h _ (Bb G))))))))))
def Ib(a:zI)(b:Int)(c:Int)(d:(zI×Int)->Option (zI))(e:zI×Int):Option (zI):=match e with
  |(f,g)=>cond (decide (g < (List.length a:Int))) (Ab (AZ a g) λi=>Ab (AZ f (wZ (b+g))) λj=>Ab (AZ f (wZ (b+g))) λk=>d ((DJ f (wZ (b+g)) (wZ (j+(wZ (c * i))))),(wZ (g+1)))) (some f)
def Ia(a:zI)(b:zI)(c:(zI×Int)->Option (zI))(d:zI×Int):Option (zI):=match d with
  |(e,f)=>cond (decide (f < (List.length a:Int))) (Ab (AZ a f) λg=>Ab (Au (Ib b f g) fz (e,0)) λi=>c (i,(wZ (f+1)))) (some e)
def I5(a:zI)(b:zI):Option (zI×Bool):=Ab (E2 a) λc=>cond (!c) (some ([],false)) (Ab (E2 b) λd=>cond (!d) (some ([],false)) (chk ((0:Int)<=wZ ((List.length a:Int)+(List.length b:Int))∧Int.toNat (wZ ((List.length a:Int)+(List.length b:Int)))<=lim) (Ab (Au (Ia a b) fz ((List.replicate (Int.toNat (wZ ((List.length a:Int)+(List.length b:Int)))) (0:Int)),0)) λe=>Ab (ON e) λf=>some (f.1,f.2))))
theorem NF{a:zI}{b:zI}{c:zI×Bool}(h:I5 a b=some c):Bn 94 [.agg [dL AF a],.agg [dL AF b]] (.tup [.agg [dL AF c.1],.bool c.2]):=st zh G (rn 1 G (CU λd=>rs (sp 1 G (Bk h λe f h=>qC (qa G (D2 (BR (CM Cb _) G)) A4) (H8 f) (sp 2 G (Ew h (λg h=>qg 14 g G (AU 4 G (qT G G (rn 1 G (G2 [(4,.box [dL AF []]),(5,.bool false)] ⟨(kb (cwe G G cwn)),kr,trivial⟩ G (sj h ▸ Am rZ)))))) λg h=>qg 14 g G (sp 1 G (Bk h λi j h=>FY G G (qC (qa G (D2 (BR (CM Cb _) G)) A4) (H8 j) (AU 2 G (Ce h G (λh=>rn 1 G (G2 [(4,.box [dL AF []]),(5,.bool false)] ⟨(kb (cwe G G cwn)),kr,trivial⟩ G (sj h ▸ Am rZ))) λh=>Cl d (rs (sp 7 G (EM h λk h=>qMu AF (0:Int) G G G G k G (qAu G G G G (Rw (As λl m=>rn 1 G (EF h λn o p=>have q:∀{r:zI},r=n->Jn l [(4,.box [oL 3 AF []]),(6,wL 3 AF r)]:=@λr h _ s=>have h:=p h;m _ (lh s G (rs (qTu G G G (Bk h λt u h=>qC (qa G (XY Cb _) A4) (W1 u) (AU 4 G (sj h ▸ Am rZ))))));(Ba (λ(v:zI×Int)=>match v with|(w,x)=>[(3,.box [dL AF b]),(4,.box [oL 3 AF []]),(6,wL 3 AF w),(29,dL AF a),(30,nI (List.length a:Int)),(31,nI x)]) _ _ _ _ o (Bb G) (λ_=>G) (λy=>Kk λw x z h A=>rn 1 G (CU λB=>Ce h G (λh=>Cl B (As λC D=>A8 (rs (sp 1 G (Bk h λF H h=>qI G BJ H (AU 3 G (rn 1 G (EF h λI o J=>have K:∀{L:zI},L=I->Jn C [(3,.box [dL AF b]),(4,.box [oL 3 AF []]),(6,wL 3 AF L),(29,dL AF a),(30,nI (List.length a:Int)),(31,nI x)]:=@λL h _ s=>have h:=J h;D _ (lh s G (rg (AU 2 G (A _ _ h (Bb G)))));(Ba (λ(v:zI×Int)=>match v with|(M,N)=>[(3,.box [dL AF b]),(4,.box [oL 3 AF []]),(6,wL 3 AF M),(7,nI x),(8,nI F),(29,dL AF a),(30,nI (List.length a:Int)),(31,nI x),(37,dL AF b),(38,nI (List.length b:Int)),(39,nI N)]) _ _ _ _ o (Bb G) (λ_=>G) (λy=>Kk λM N z h A=>rn 1 G (CU λO=>Ce h G (λh=>Cl O (CU λP=>A8 (rs (sp 1 G (Bk h λQ R h=>qI G BJ R (AU 3 G (rg (sp 4 G (Bk h λS T h=>qIu G ⟨(Ea T).1,(Ea T).2.1⟩ (qLu 0 G G G BJ T G G G (sp 4 G (Bk h λU V h=>qIu G ⟨(Ea V).1,(Ea V).2.1⟩ (qSu (wZ (S+(wZ (F * Q)))) G G BJ ⟨(Ea V).1,(Ea V).2.1⟩ G G G G G G (Rw (P _ (rg (AU 2 G (A _ _ h (Bb G))))))))))))))))))) λh=>AI (K (sj h) _ (Bb G))))))))))))) λh=>AI (q (sj h) _ (Bb G)))))))))))))))))))))))
def Nz(a:(Int×zI)->Option (zI))(b:Int×zI):Option (zI):=match b with
  |(c,d)=>cond (decide (0 < c)) (chk (List.length d+List.length [Int.tmod c 10]<=lim) (a ((wZ (Int.tdiv c 10)),(d++[Int.tmod c 10])))) (some d)
def FW(a:Int):Option (zI):=Ab (Au Nz fz (a,([]:zI))) λb=>some b
theorem KT{a:Int}{b:zI}(h:FW a=some b):Bn 116 [nI a] (.agg [oL 3 AF b]):=st uk G (rn 2 G (As λc d=>EF h λe f g=>have i:∀{j:zI},j=e->Jn c [(2,.box [oL 3 AF []]),(3,.box [oL 3 AF j])]:=@λj h _ k=>have h:=g h;d _ (lh k G (rn 1 G (sj h ▸ Am rZ)));(Ba (λ(l:Int×zI)=>match l with|(m,n)=>[(0,nI m),(2,.box [oL 3 AF []]),(3,.box [oL 3 AF n])]) _ _ _ _ f (Bb G) (λ_=>G) (λo=>Kk λm n p h q=>Fu G λr=>Ce h G (λh=>Cl r (A8 (rs (sp 4 G (EW AF [Int.tmod m 10] G G G BJ (EM h λs h=>qA AF n [Int.tmod m 10] G G (Bh BJ [Int.tmod m 10]) G s (AU 2 G (rg (AU 3 G (q _ _ h (Bb G))))))))))) λh=>AI (i (sj h) _ (Bb G))))))
def Ic(a:Int)(b:Int)(c:(zI×Int)->Option (Sum (zI) (zI×Bool)))(d:zI×Int):Option (Sum (zI) (zI×Bool)):=match d with
  |(e,f)=>cond (decide (f < b)) (Ab (FW a) λg=>Ab (I5 e g) λi=>cond (!i.2) (some (.inr ([],false))) (c (i.1,(wZ (f+1))))) (some (.inl e))
def I7(a:Int)(b:Int):Option (zI×Bool):=cond (decide (a < 0)) (some ([],false)) (Ab (Dd b 0 100) λc=>cond (!c) (some ([],false)) (Ab (FW 1) λd=>Ab (Au (Ic a b) fz (d,0)) λe=>(match e with
  |.inl f=>(some (f,true))
  |.inr g=>some g)))
theorem NG{a:Int}{b:Int}{c:zI×Bool}(h:I7 a b=some c):Bn 93 [nI a,nI b] (.tup [.agg [dL AF c.1],.bool c.2]):=st zg G (rn 1 G (CU λd=>rs (sp 3 G (Ew h (λe h=>qg 12 e G (AU 4 G (qT G G (rn 1 G (G2 [(4,.box [dL AF []]),(5,.bool false)] ⟨(kb (cwe G G cwn)),kr,trivial⟩ G (sj h ▸ Am rZ)))))) λe h=>qg 12 e G (sp 1 G (Bk h λf g h=>FY G G (qC (qs G (qs G (qs G A4))) (C3 g) (AU 2 G (Ce h G (λh=>rn 1 G (G2 [(4,.box [dL AF []]),(5,.bool false)] ⟨(kb (cwe G G cwn)),kr,trivial⟩ G (sj h ▸ Am rZ))) λh=>Cl d (rs (Bk h λi j h=>qC (qs G A4) (KT j) (AU 2 G (As λk l=>rn 1 G (EF h λm n o=>have p:∀{q:zI},(.inl q)=m->Jn k [(4,.box [oL 3 AF []]),(6,.box [dL AF q])]:=@λq h _ r=>have h:=o h;l _ (lh r G (rn 1 G (sj h ▸ Am rZ)));(Ba (λ(s:zI×Int)=>match s with|(t,u)=>[(0,nI a),(1,nI b),(4,.box [oL 3 AF []]),(6,.box [dL AF t]),(7,nI u)]) _ _ _ _ n ⟨kr,kr,kr,(kb (cwd G G cwn)),kr,trivial⟩ (λ_=>G) (λv=>Kk λt u w h x=>Fu G λy=>Ce h G (λh=>Cl y (CU λz=>A8 (rd (by kernel_rfl) (sd 2 G (Bk h λA B h=>ed G (qC (qs G A4) (KT B) (Bk h λC D h=>ed G (qC (qa G (D2 (BR (CM Cb _) G)) (qa G (D2 (BR (XY Cb _) G)) A4)) (NF D) (sd 6 G (Dh (Fu G λF=>Ce h G (λh=>rn 1 G (G2 [(4,.box [dL AF []]),(5,.bool false)] ⟨(kb (cwe G G cwn)),kr,trivial⟩ G (sj (o (sj h)) ▸ Am rZ))) λh=>Cl F (rg (AU 2 G (z _ (rg (AU 3 G (x _ _ h (Bb G)))))))))))))))))) λh=>AI (p (sj h) _ (Bb G))))))))))))))))))
def E7(a:zI)(b:zI)(c:(zI×Int)->Option (Sum (zI) (zI×Bool)))(d:zI×Int):Option (Sum (zI) (zI×Bool)):=match d with
  |(e,f)=>cond (decide (f < (List.length a:Int))) (Ab (AZ a f) λg=>Ab (AZ b f) λi=>Ab (I7 g i) λj=>Ab (I5 e j.1) λk=>cond (!j.2) (some (.inr ([],false))) (cond (!k.2) (some (.inr ([],false))) (c (k.1,(wZ (f+1)))))) (some (.inl e))
def E6(a:zI)(b:zI):Option (zI×Bool):=cond ((List.length a:Int)!=(List.length b:Int)) (some ([],false)) (Ab (FW 1) λc=>Ab (Au (E7 a b) fz (c,0)) λd=>(match d with
  |.inl e=>(some (e,true))
  |.inr f=>some f))
theorem JA{a:zI}{b:zI}{c:zI×Bool}(h:E6 a b=some c):Bn 90 [dL AF a,dL AF b] (.tup [.agg [dL AF c.1],.bool c.2]):=st zd G (rn 1 G (Fu G λd=>Ce h G (λh=>rn 1 G (G2 [(4,.box [dL AF []]),(5,.bool false)] ⟨(kb (cwe G G cwn)),kr,trivial⟩ G (sj h ▸ Am rZ))) λh=>Cl d (rs (Bk h λe f h=>qC (qs G A4) (KT f) (AU 2 G (As λg i=>rn 1 G (EF h λj k l=>have m:∀{n:zI},(.inl n)=j->Jn g [(4,.box [oL 3 AF []]),(6,.box [dL AF n])]:=@λn h _ o=>have h:=l h;i _ (lh o G (rn 1 G (sj h ▸ Am rZ)));(Ba (λ(p:zI×Int)=>match p with|(q,r)=>[(0,dL AF a),(1,dL AF b),(4,.box [oL 3 AF []]),(6,.box [dL AF q]),(20,nI (List.length a:Int)),(21,nI r)]) _ _ _ _ k ⟨kr,kr,kr,(kb (cwd G G cwn)),kr,kr,trivial⟩ (λ_=>G) (λs=>Kk λq r t h u=>rn 1 G (CU λv=>Ce h G (λh=>Cl v (CU λw=>A8 (rn 1 G (rd (by kernel_rfl) (sd 2 G (Bk h λx y h=>ed G (qI G BJ y (sd 3 G (Bk h λz A h=>ed G (qI G BJ A (sd 1 G (Bk h λB C h=>ed G (qC (qs G (qs G A4)) (NG C) (sd 6 G (Dh (rs (sp 2 G (Bk h λD F h=>qC (qa G (D2 (BR (CM Cb _) G)) (qa G (D2 (BR (CM Cb _) G)) A4)) (NF F) (AU 6 G (qk [0,1,4,6,9,10,11,20,21] G (CU λH=>rs (sp 3 G (Ew h (λI h=>qg 44 I G (AU 3 G (qT G G (rn 1 G (G2 [(4,.box [dL AF []]),(5,.bool false)] ⟨(kb (cwe G G cwn)),kr,trivial⟩ G (sj (l (sj h)) ▸ Am rZ)))))) λI h=>qg 44 I G (AU 3 G (Ce h G (λh=>rn 1 G (G2 [(4,.box [dL AF []]),(5,.bool false)] ⟨(kb (cwe G G cwn)),kr,trivial⟩ G (sj (l (sj h)) ▸ Am rZ))) λh=>Cl H (rg (AU 2 G (w _ (rg (AU 2 G (u _ _ h (Bb G)))))))))))))))))))))))))))))))) λh=>AI (m (sj h) _ (Bb G))))))))))))
def W5(a:zI)(b:Int)(c:(zI×Int)->Option (zI))(d:zI×Int):Option (zI):=match d with
  |(e,f)=>cond (decide (f < (List.length a:Int))) (Ab (AZ a f) λg=>chk (List.length e+List.length [wZ (g * b)]<=lim) (c ((e++[wZ (g * b)]),(wZ (f+1))))) (some e)
def N8(a:zI)(b:Int):Option (zI):=Ab (Au (W5 a b) fz (([]:zI),0)) λc=>some c
theorem Te{a:zI}{b:Int}{c:zI}(h:N8 a b=some c):Bn 91 [dL AF a,nI b] (oL 3 AF c):=st ze G (rn 2 G (As λd e=>rn 1 G (EF h λf g i=>have j:∀{k:zI},k=f->Jn d [(5,oL 3 AF k)]:=@λk h _ l=>have h:=i h;e _ (lh l G (rn 1 G (sj h ▸ Am rZ)));(Ba (λ(m:zI×Int)=>match m with|(n,o)=>[(1,nI b),(5,oL 3 AF n),(8,dL AF a),(9,nI (List.length a:Int)),(10,nI o)]) _ _ _ _ g (Bb G) (λ_=>G) (λp=>Kk λn o q h r=>rn 1 G (CU λs=>Ce h G (λh=>Cl s (CU λt=>A8 (rs (Bk h λu v h=>qI G BJ v (AU 2 G (rg (sp 4 G (EW AF [wZ (u * b)] G G G BJ (EM h λw h=>qA AF n [wZ (u * b)] G G (Bh BJ [wZ (u * b)]) G w (AU 1 G (t _ (rg (AU 2 G (r _ _ h (Bb G))))))))))))))) λh=>AI (j (sj h) _ (Bb G))))))))
def G0(a:zI)(b:zI)(c:Int->Option (Sum Unit Int))(d:Int):Option (Sum Unit Int):=cond (decide (0<=d)) (Ab (AZ a d) λe=>Ab (AZ b d) λf=>cond (e !=f) (Ab (AZ a d) λg=>Ab (AZ b d) λi=>Ab (Fa g i) λj=>some (.inr j)) (c (wZ (d - 1)))) (some (.inl ()))
def GM(a:zI)(b:zI):Option Int:=Ab (E2 a) λc=>cond (!c) (some 0) (Ab (E2 b) λd=>cond (!d) (some 0) (cond ((List.length a:Int)!=(List.length b:Int)) (Ab (Fa (List.length a:Int) (List.length b:Int)) λe=>some e) (Ab (Au (G0 a b) fz (wZ ((List.length a:Int) - 1))) λf=>(match f with
  |.inl _=>(some 0)
  |.inr g=>some g))))
theorem NA{a:zI}{b:zI}{c:Int}(h:GM a b=some c):Bn 92 [.agg [dL AF a],.agg [dL AF b]] (nI c):=st zf G (rn 1 G (CU λd=>rs (sp 1 G (Bk h λe f h=>qC (qa G (D2 (BR (CM Cb _) G)) A4) (H8 f) (sp 2 G (Ew h (λg h=>qg 9 g G (AU 4 G (qT G G (rn 1 G (sj h ▸ Am rZ))))) λg h=>qg 9 g G (sp 1 G (Bk h λi j h=>FY G G (qC (qa G (D2 (BR (CM Cb _) G)) A4) (H8 j) (AU 2 G (Ce h G (λh=>rn 1 G (sj h ▸ Am rZ)) λh=>Cl d (Fu G λk=>qk [2,3,20] G (Ce h G (λh=>rs (sp 6 G (Bk h λl m h=>qC (qs G (qs G A4)) (Hm m) (AU 1 G (sj h ▸ Am rZ))))) λh=>Cl k (As λn o=>rn 1 G (EF h λp q r=>have s:(.inl ())=p->Jn n []:=λh _ t=>have h:=r h;o _ (lh t G (rn 1 G (sj h ▸ Am rZ)));(Ba (λ(u:Int)=>[(2,.box [dL AF a]),(3,.box [dL AF b]),(5,nI u)]) _ _ _ _ q (Bb G) (λ_=>G) (λv u w h x=>Fu G λy=>Ce h G (λh=>Cl y (CU λz=>A8 (rd (by kernel_rfl) (sd 3 G (Bk h λA B h=>ed G (qI G BJ B (sd 4 G (Bk h λC D h=>ed G (qI G BJ D (sd 2 G (Dh (Ce h G (λh=>rd (by kernel_rfl) (sd 3 G (Bk h λF H h=>ed G (qI G BJ H (sd 4 G (Bk h λI J h=>ed G (qI G BJ J (sd 1 G (Bk h λK L h=>ed G (qC (qs G (qs G A4)) (Hm L) (sd 1 G (Dh (sj (r (sj h)) ▸ Am rZ))))))))))))) λh=>Cl z (qk [2,3,5] G (rg (AU 3 G (x _ _ h (Bb G))))))))))))))))) λh=>AI (s (sj h) _ trivial))))))))))))))))))
def HF(a:zI)(b:List AV)(c:List AV):Option (Int×Bool):=Ab (E8 b) λd=>Ab (E8 c) λe=>cond ((List.length b:Int)!=(List.length a:Int)) (some (0,false)) (cond ((List.length c:Int)!=(List.length a:Int)) (some (0,false)) (cond (d.2==0) (some (0,false)) (cond (e.2==0) (some (0,false)) (Ab (N8 d.1 e.2) λf=>Ab (E6 a f) λg=>Ab (N8 e.1 d.2) λi=>Ab (E6 a i) λj=>cond (!g.2) (some (0,false)) (cond (!j.2) (some (0,false)) (Ab (GM g.1 j.1) λk=>some (k,true)))))))
theorem Qq{a:zI}{b:List AV}{c:List AV}{d:Int×Bool}(h:HF a b c=some d):Bn 65 [dL AF a,dL AO b,dL AO c] (.tup [nI d.1,.bool d.2]):=st yC G (rn 1 G (rs (sp 1 G (Bk h λe f h=>qC (qa G (CM C7 _) A4) (JB f) (AU 5 G (rs (sp 1 G (Bk h λg i h=>qC (qa G (CM C7 _) A4) (JB i) (AU 5 G (CU λj=>rs (sp 6 G (Ew h (λk h=>qg 31 k G (AU 14 G (qk [0,8,9,10,11,45] G (qT G G (rn 1 G (sj h ▸ Am rZ)))))) λk h=>qg 31 k G (sp 7 G (Ew h (λl h=>qg 38 l G (AU 7 G (qT G G (rn 1 G (sj h ▸ Am rZ))))) λl h=>qg 38 l G (sp 4 G (Ew h (λm h=>qg 42 m G (AU 3 G (qT G G (rn 1 G (qk [6,7] G (sj h ▸ Am rZ)))))) λm h=>qg 42 m G (AU 3 G (Ce h G (λh=>rn 1 G (sj h ▸ Am rZ)) λh=>Cl j (rs (sp 3 G (Bk h λn o h=>qC (qa G (CM Cb _) (qs G A4)) (Te o) (Bk h λp q h=>qC (qa G (CM Cb _) (qa G (XY Cb _) A4)) (JA q) (AU 6 G (rs (sp 3 G (Bk h λr s h=>qC (qa G (CM Cb _) (qs G A4)) (Te s) (Bk h λt u h=>qC (qa G (CM Cb _) (qa G (XY Cb _) A4)) (JA u) (AU 6 G (CU λv=>rs (sp 3 G (Ew h (λw h=>qg 64 w G (AU 3 G (qk [12,14,67] G (qT G G (rn 1 G (sj h ▸ Am rZ)))))) λw h=>qg 64 w G (AU 3 G (Ce h G (λh=>rn 1 G (sj h ▸ Am rZ)) λh=>Cl v (rs (sp 2 G (Bk h λx y h=>qC (qa G (D2 (BR (CM Cb _) G)) (qa G (D2 (BR (CM Cb _) G)) A4)) (NA y) (AU 2 G (sj h ▸ Am rZ))))))))))))))))))))))))))))))))))))))
def Uk(a:zI)(b:Int->Option (Sum Unit (List AV×Bool)))(c:Int):Option (Sum Unit (List AV×Bool)):=cond (decide (c < (List.length a:Int))) (Ab (AZ a c) λd=>Ab (Dd d 0 16) λe=>cond (!e) (some (.inr (([]:List AV),false))) (b (wZ (c+1)))) (some (.inl ()))
def H7(a:((Nat×(List AV))×Int)->Option ((Nat×(List AV))))(b:Int)(c:Nat×(List AV)):Option ((Nat×(List AV))):=a (c,(wZ (b+1)))
def M6(a:zI)(b:(List (List AV)))(c:((Nat×(List AV))×Int)->Option ((Nat×(List AV))))(d:(Nat×(List AV))×Int):Option ((Nat×(List AV))):=match d with
  |(e,f)=>cond (decide (f < (List.length (Ef (BW 0 b) 1 (List.length (BW 0 b):Int)):Int))) (Ab (AZ (Ef (BW 0 b) 1 (List.length (BW 0 b):Int)) f) λg=>Ab (HF a g.2 e.2) λi=>cond (i.1==(-1)) (H7 c f g) (H7 c f e)) (some e)
def M5(a:IC)(b:zI):Option (List AV×Bool):=Ab (Fw a) λc=>cond (!c) (some (([]:List AV),false)) (cond ((List.length b:Int)!=(List.length a.2.1:Int)) (some (([]:List AV),false)) (Ab (Au (Uk b) fz 0) λd=>(match d with
  |.inl _=>(Ab (Ku a) λe=>Ab (HI e.1) λf=>cond ((List.length f:Int)==0) (some (([]:List AV),false)) (Ab (AZ (BW 0 f) 0) λg=>chk ((0:Int)<=1∧1<=(List.length (BW 0 f):Int)∧(List.length (BW 0 f):Int)<=(List.length (BW 0 f):Int)) (Ab (Au (M6 b f) fz (g,0)) λi=>chk (ZU (f) ([Sum.inl i]) []=true) (some (i.2,true)))))
  |.inr j=>some j)))
theorem Vf{a:IC}{b:zI}{c:(List AV)×Bool}(h:M5 a b=some c):Bn 35 [.agg (EY a),dL AF b] (.tup [oL 32 AO c.1,.bool c.2]):=st xT G (rn 1 G (CU λd=>rs (sp 1 G (Bk h λe g h=>qC (qa G (D2 (BR G (BR (CM I0 _) (BR (CM Cb _) G)))) A4) (IM g) (sp 2 G (Ew h (λi h=>qg 19 i G (AU 7 G (qT G G (rn 1 G (sj h ▸ Am rZ))))) λi h=>qg 19 i G (AU 7 G (Ce h G (λh=>rn 1 G (sj h ▸ Am rZ)) λh=>Cl d (qk [1,2] G (As λj k=>rn 1 G (EF h λm n o=>have p:(.inl ())=m->Jn j [(1,dL AF b),(2,.box [nI a.1,dL DK a.2.1,dL AF a.2.2])]:=λh _ r=>have h:=o h;k _ (lh r G (rs (sp 1 G (Bk h λs t h=>qC (qa G (D2 (BR G (BR (CM I0 _) (BR (CM Cb _) G)))) A4) (SY t) (AU 6 G (rs (sp 1 G (Bk h λu v h=>qC (qa G (D2 (BR (CM Zw _) (BR (CM C7 _) (BR (CM C7 _) G)))) A4) (Qt v) (AU 1 G (Fu G λw=>Ce h G (λh=>rn 1 G (sj h ▸ Am rZ)) λh=>Cl w (qk [1,10] G (SA (f:=BH) (s:=10) (q:=900001) G G (by decide) (SQ (λ_=>G)) (λ_=>G) (λ_=>G) (λx y z A=>kp [(1,dL AF b),(10,oL 30 (pE BH x) (BW 0 u)),(900001,.gh y (List.map (λB=>E0 (BH B)) u))] G G (rs (sp 1 G (Bk h λC D h=>qI G (zpE Dy) D (AU 2 G (As λF H=>rs (sp 1 G (EM h λI h=>qSl G (zpE Dy) I (AU 2 G (EF h λJ n K=>have M:∀{N:Nat×(List AV)},N=J->Jn F [(11,.pin (x N.1) N.2.length (Mz (N.2.flatMap AO))),(900001,.gh y (List.map (λB=>E0 (BH B)) u))]:=@λN h _ r=>have h:=K h;H _ (lh r G (qk [11,900001] G (EM h λO h=>lV (f:=BH) (s:=11) (q:=900001) (l:=u) (U:=x) (L:=[Sum.inl N]) G G G (by decide) (lu (λ_=>G) G) A O G G (kp [(11,oL 32 AO N.2)] G G (rn 1 G (sj h ▸ Am rZ))))));(Ba (λ(P:(Nat×(List AV))×Int)=>match P with|(Q,R)=>[(1,dL AF b),(11,.pin (x Q.1) Q.2.length (Mz (Q.2.flatMap AO))),(51,dL (pE BH x) (Ef (BW 0 u) 1 (List.length (BW 0 u):Int))),(52,nI (List.length (Ef (BW 0 u) 1 (List.length (BW 0 u):Int)):Int)),(53,nI R),(900001,.gh y (List.map (λB=>E0 (BH B)) u))]) _ _ _ _ n (Bb G) (λ_=>G) (λS=>Kk λQ R T h U=>rn 1 G (CU λV=>Ce h G (λh=>Cl V (As λW X=>A8 (rs (Bk h λY Z h=>qI G (zpE Dy) Z (AU 2 G (rs (sp 3 G (Bk h λc e h=>qC (qa G (CM Cb _) (qa G (erP C7 C7 _) (qa G (erP C7 C7 _) A4))) (Qq e) (AU 5 G (rn 1 G (have g:∀{d:Nat×(List AV)},H7 (Au (M6 b u) S) R d=some J->Jn W [(1,dL AF b),(11,.pin (x d.1) d.2.length (Mz (d.2.flatMap AO))),(51,dL (pE BH x) (Ef (BW 0 u) 1 (List.length (BW 0 u):Int))),(52,nI (List.length (Ef (BW 0 u) 1 (List.length (BW 0 u):Int)):Int)),(53,nI R),(900001,.gh y (List.map (λB=>E0 (BH B)) u))]:=@λd h _ r=>X _ (lh r G (rg (AU 2 G (U _ _ h (Bb G)))));(Ce h G (λh=>rg (AU 2 G (g h _ (Bb G)))) λh=>DZ (g h _ (Bb G)))))))))))))) λh=>AI (M (sj h) _ (Bb G)))))))))))))))))))))))))));(Ba (λ(i:Int)=>[(1,dL AF b),(2,.box [nI a.1,dL DK a.2.1,dL AF a.2.2]),(27,dL AF b),(28,nI (List.length b:Int)),(29,nI i)]) _ _ _ _ n (Bb G) (λ_=>G) (λS i T h U=>rn 1 G (CU λj=>Ce h G (λh=>Cl j (CU λm=>A8 (rs (Bk h λk s h=>qI G BJ s (AU 2 G (rs (sp 1 G (Bk h λt v h=>qC (qs G (qs G (qs G A4))) (C3 v) (AU 1 G (Ce h G (λh=>rn 1 G (sj (o (sj h)) ▸ Am rZ)) λh=>Cl m (rg (AU 2 G (U _ _ h (Bb G)))))))))))))) λh=>AI (p (sj h) _ (Bb G))))))))))))))))
def KZ(a:zI)(b:Int->Option (Sum Unit Bool))(c:Int):Option (Sum Unit Bool):=cond (decide (c < (List.length a:Int))) (Ab (AZ a c) λd=>cond (decide (d < 0)) (some (.inr false)) (b (wZ (c+1)))) (some (.inl ()))
def Fb(a:Bool):Option Bool:=some a
def KB(a:zI)(b:List AV)(c:Int)(d:Int):Option Bool:=Ab (E8 b) λe=>cond (decide (c < 0)) (some false) (cond (decide (e.2 < 1)) (some false) (cond (decide (100 < e.2)) (some false) (Ab (Au (KZ a) fz 0) λf=>(match f with
  |.inl _=>(Ab (I7 c e.2) λg=>Ab (E6 a e.1) λi=>Ab (I7 d e.2) λj=>Ab (I5 i.1 j.1) λk=>cond g.2 (cond i.2 (cond j.2 (cond k.2 (Ab (GM g.1 k.1) λl=>Fb (decide (l<=0))) (Fb false)) (Fb false)) (Fb false)) (Fb false))
  |.inr m=>some m))))
theorem S2{a:zI}{b:List AV}{c:Int}{d:Int}{e:Bool}(h:KB a b c d=some e):Bn 66 [dL AF a,dL AO b,nI c,nI d] (.bool e):=st yD G (rn 1 G (rs (sp 1 G (Bk h λf g h=>qC (qa G (CM C7 _) A4) (JB g) (AU 5 G (CU λi=>rs (sp 3 G (Ew h (λj h=>qg 28 j G (AU 7 G (qT G G (rn 1 G (sj h ▸ Am rZ))))) λj h=>qg 28 j G (sp 4 G (Ew h (λk h=>qg 32 k G (AU 3 G (qk [0,2,3,9,10,35] G (qT G G (rn 1 G (sj h ▸ Am rZ)))))) λk h=>qg 32 k G (AU 3 G (Ce h G (λh=>rn 1 G (sj h ▸ Am rZ)) λh=>Cl i (As λl m=>rn 1 G (EF h λn o p=>have q:(.inl ())=n->Jn l [(0,dL AF a),(2,nI c),(3,nI d),(9,oL 3 AF f.1),(10,nI f.2)]:=λh _ r=>have h:=p h;m _ (lh r G (rs (sp 2 G (Bk h λs t h=>qC (qs G (qs G A4)) (NG t) (AU 6 G (rs (sp 2 G (Bk h λu v h=>qC (qa G (CM Cb _) (qa G (CM Cb _) A4)) (JA v) (AU 6 G (rs (sp 2 G (Bk h λw x h=>qC (qs G (qs G A4)) (NG x) (AU 6 G (rs (sp 2 G (Bk h λy z h=>qC (qa G (D2 (BR (CM Cb _) G)) (qa G (D2 (BR (CM Cb _) G)) A4)) (NF z) (AU 6 G (rk λA B=>have C:∀{D:Bool},Fb D=some e->Jn A [(8,.bool D)]:=@λD h _ r=>B _ (lh r G (sj h ▸ Am rZ));(sp 2 G (Ew h (λF h=>qg 70 F G (sp 3 G (Ew h (λH h=>qg 73 H G (sp 3 G (Ew h (λI h=>qg 76 I G (sp 3 G (Ew h (λJ h=>qg 79 J G (sp 2 G (Bk h λK L h=>FY G G (qC (qa G (D2 (BR (CM Cb _) G)) (qa G (D2 (BR (CM Cb _) G)) A4)) (NA L) (AU 3 G (C h _ (Bb G))))))) λJ h=>qg 79 J G (AU 6 G (C h _ (Bb G)))))) λI h=>qg 76 I G (AU 9 G (C h _ (Bb G)))))) λH h=>qg 73 H G (AU 12 G (C h _ (Bb G)))))) λF h=>qg 70 F G (AU 15 G (C h _ (Bb G)))))))))))))))))))))));(Ba (λ(M:Int)=>[(0,dL AF a),(2,nI c),(3,nI d),(9,oL 3 AF f.1),(10,nI f.2),(36,dL AF a),(37,nI (List.length a:Int)),(38,nI M)]) _ _ _ _ o (Bb G) (λ_=>G) (λN M O h P=>rn 1 G (CU λQ=>Ce h G (λh=>Cl Q (CU λR=>A8 (rs (Bk h λS T h=>qI G BJ T (AU 2 G (rn 1 G (Ce h G (λh=>rn 1 G (sj (p (sj h)) ▸ Am rZ)) λh=>Cl R (rg (AU 2 G (P _ _ h (Bb G))))))))))) λh=>AI (q (sj h) _ (Bb G)))))))))))))))))))
def FO(a:zI)(b:List AV)(c:Int):Option Bool:=Ab (KB a b c 1) λd=>some d
theorem MT{a:zI}{b:List AV}{c:Int}{d:Bool}(h:FO a b c=some d):Bn 36 [dL AF a,dL AO b,nI c] (.bool d):=st xU G (rn 1 G (rs (sp 3 G (Bk h λe f h=>qC (qa G (CM Cb _) (qa G (CM C7 _) (qs G (qs G A4)))) (S2 f) (AU 1 G (sj h ▸ Am rZ))))))
def KV(a:zI)(b:(List AV)×Bool)(c:(Int×Int)->Option Int)(d:Int×Int):Option Int:=match d with
  |(e,f)=>cond (decide (e < f)) (Ab (FO a b.1 (wZ (Int.tdiv (wZ ((wZ (e+f))+1)) 2))) λg=>cond g (c ((wZ (Int.tdiv (wZ ((wZ (e+f))+1)) 2)),f)) (c (e,(wZ ((wZ (Int.tdiv (wZ ((wZ (e+f))+1)) 2)) - 1))))) (some e)
def Kz(a:IC)(b:zI):Option (Int×Bool):=Ab (M5 a b) λc=>cond (!c.2) (some (0,false)) (Ab (FO b c.1 0) λd=>cond (!d) (some (0,false)) (Ab (Au (KV b c) fz (0,100000)) λe=>some (e,true)))
theorem S1{a:IC}{b:zI}{c:Int×Bool}(h:Kz a b=some c):Bn 14 [.agg (EY a),dL AF b] (.tup [nI c.1,.bool c.2]):=st xx G (rn 1 G (rs (sp 2 G (Bk h λd e h=>qC (qa G (D2 (BR G (BR (CM I0 _) (BR (CM Cb _) G)))) (qa G (CM Cb _) A4)) (Vf e) (AU 5 G (CU λf=>rs (sp 3 G (Ew h (λg h=>qg 19 g G (AU 5 G (qT G G (rn 1 G (sj h ▸ Am rZ))))) λg h=>qg 19 g G (sp 2 G (Bk h λi j h=>FY G G (qC (qa G (CM Cb _) (qa G (CM C7 _) (qs G A4))) (MT j) (AU 2 G (Ce h G (λh=>rn 1 G (qk [4,5] G (sj h ▸ Am rZ))) λh=>Cl f (rn 1 G (As λk l=>EF h λm n o=>have p:∀{q:Int},q=m->Jn k [(8,nI q)]:=@λq h _ r=>have h:=o h;l _ (lh r G (rn 1 G (sj h ▸ Am rZ)));(Ba (λ(s:Int×Int)=>match s with|(t,u)=>[(1,dL AF b),(6,oL 32 AO d.1),(8,nI t),(9,nI u)]) _ _ _ _ n (Bb G) (λ_=>G) (λv=>Kk λt u w h x=>Fu G λy=>Ce h G (λh=>Cl y (A8 (rn 1 G (rs (sp 3 G (Bk h λz A h=>qC (qa G (CM Cb _) (qa G (CM C7 _) (qs G A4))) (MT A) (Rw (Ce h G (λh=>rg (AU 2 G (x _ _ h (Bb G)))) λh=>rg (AU 3 G (x _ _ h (Bb G))))))))))) λh=>AI (p (sj h) _ (Bb G)))))))))))))))))))
def T4(a:O2):List V:=[.str a.1,aL AF a.2]
theorem nW(a:O2):(T4 a).length=2:=G
theorem th(a:O2):Mz (T4 a)=DK a:=(BR G (BR (V6 Cb _) G))
theorem o8(a:O2):KR (T4 a)=true:=(acc G (acc (aca (λ_=>G) _) G))
theorem ou(a:O2):D4 (DK a)=true:=(Zd G (Zd (Nx (λ_=>G) _) G))
theorem rG(a:O2):JY (DK a)=T4 a:=(aw G (aw (Ru (λ_=>G) _) G))
def Lo(a:(zI×Bool×Int)->Option (zI×Bool))(b:M0×Bool)(c:Int)(d:zI)(e:Int)(f:Int)(g:Bool):Option (zI×Bool):=chk (0 < List.length d) (Ab (AZ b.1.2 c) λi=>Ab (AZ i e) λj=>Ab (AZ d f) λk=>a ((DJ d f j),g,(wZ (e+1))))
def Gs(a:IC)(b:Int)(c:M0×Bool)(d:Int)(e:(zI×Bool×Int)->Option (zI×Bool))(f:zI×Bool×Int):Option (zI×Bool):=match f with
  |(g,i,j)=>cond (decide (j < c.1.1)) (cond i (Ab (AZ a.2.1 b) λk=>Ab (AZ k.2 j) λl=>Ab (AZ g l) λm=>cond (m==(-1)) (Lo e c d g j l true) (Ab (AZ g l) λn=>Ab (AZ c.1.2 d) λo=>Ab (AZ o j) λp=>Lo e c d g j l (n==p))) (some (g,i))) (some (g,i))
def Lp(a:(List zI×Int)->Option (List zI))(b:Int)(c:List zI):Option (List zI):=a (c,(wZ (b+1)))
def HD(a:List Ed)(b:IC)(c:Int)(d:zI)(e:M0×Bool)(f:(List Ed×IC×Int×zI)->Option (List zI))(g:(List zI×Int)->Option (List zI))(i:(List zI)×Int):Option (List zI):=match i with
  |(j,k)=>cond (decide (k < (List.length e.1.2:Int))) (chk (List.length ([]:zI)+List.length d<=lim) (Ab (Au (Gs b c e k) fz ((([]:zI)++d),true,0)) λl=>(match l with
  |(m,n)=>(cond n (Ab (f (a,b,(wZ (c+1)),m)) λo=>chk (List.length j+List.length o<=lim) (Lp g k (j++o))) (Lp g k j))))) (some j)
def EX(a:(List Ed×IC×Int×zI)->Option (List zI))(b:(List Ed)×IC×Int×zI):Option (List zI):=match b with
  |(c,d,e,f)=>cond (e==(List.length d.2.1:Int)) (chk (List.length ([]:zI)+List.length f<=lim) (some ([([]:zI)++f]))) (Ab (AZ d.2.1 e) λg=>Ab (EK c g.1) λi=>Ab (Au (HD c d e f i a) fz (([]:List zI),0)) λj=>some j)
def Sd(a:List Ed)(b:IC)(c:Int)(d:zI):Option (List zI):=Au EX fz (a,b,c,d)
theorem Ya{a:List Ed}{c:IC}{d:Int}{e:zI}{f:(List zI)}(h:Sd a c d e=some f):Bn 38 [.agg [dL CN a],.agg (EY c),nI d,dL AF e] (oL 25 BK f):=by
 suffices g:∀j (a:List Ed) (c:IC) (d:Int) (e:zI) (f:(List zI)),Au EX j (a,c,d,e)=some f->Bn 38 [.agg [dL CN a],.agg (EY c),nI d,dL AF e] (oL 25 BK f)from g fz a c d e f h
 refineλj=>?_
 induction j with
 |zero=>intro a c d e f h;cases h
 |succ j k=>
  intro a c d e f h
  have ih:∀{a:List Ed}{c:IC}{d:Int}{e:zI}{f:(List zI)},Au EX j (a,c,d,e)=some f->Bn 38 [.agg [dL CN a],.agg (EY c),nI d,dL AF e] (oL 25 BK f):=λh=>k _ _ _ _ _ h
  change EX (Au EX j) (a,c,d,e)=some f at h
  exact sta xW G (SU (Zd (Nx aQ _) G) (SU (Zd G (Zd (Nx ou _) (Zd (Nx (λ_=>G) _) G))) (SU G (SU (Nx (λ_=>G) _) G)))) (mvv (vag (aw (Ru c8 _) G)) (mvv (vag (aw G (aw (Ru rG _) (aw (Ru (λ_=>G) _) G)))) (mvv G (mvv (Ru (λ_=>G) _) G)))) (XU Sp 25 _) (rn 1 G (Fu G λl=>Ce h G (λh=>rs (EW AF [] G G G BJ (sp 1 G (EM h λm h=>qA AF ([]:zI) e G G (Bh BJ e) (Nf (λ_=>G) _) m (EW BK [([]:zI)++e] G G G Fv (AU 1 G (sj h ▸ Am rZ))))))) λh=>Cl l (rs (EW BK [] G G G Fv (AU 1 G (rd (by kernel_rfl) (sd 4 G (Bk h λn o h=>ed G (qI G nW o (sd 2 G (Bk h λp r h=>ed G (qC (qa G (D2 (BR (V6 Sq _) G)) (qs G A4)) (HP r) (sd 6 G (Dh (As λs t=>rn 1 G (qk [2,3,4,5,9,10,12] G (EF h λu v w=>have x:∀{y:List zI},y=u->Jn s [(9,oL 25 BK y)]:=@λy h _ z=>have h:=w h;t _ (lh z G (rn 1 G (sj h ▸ Am rZ)));(Ba (λ(A:(List zI)×Int)=>match A with|(B,C)=>[(2,nI d),(3,aL AF e),(4,.box [aL ND a]),(5,.box [nI c.1,aL T4 c.2.1,aL AF c.2.2]),(9,oL 25 BK B),(10,.box [nI p.1.1,oL 25 BK p.1.2]),(12,nI C)]) _ _ _ _ v (Bb G) (λ_=>G) (λD=>Kk λB C F h H=>Fu G λI=>Ce h G (λh=>Cl I (As λJ K=>A8 (rs (EW AF [] G G G BJ (sp 1 G (EM h λL h=>qA AF ([]:zI) e G G (Bh BJ e) (Nf (λ_=>G) _) L (AU 1 G (rn 1 G (As λM N=>rn 1 G (EF h λO v P=>have Q:∀{R:zI}{S:Bool},(R,S)=O->Jn M [(2,nI d),(3,aL AF e),(4,.box [aL ND a]),(5,.box [nI c.1,aL T4 c.2.1,aL AF c.2.2]),(9,oL 25 BK B),(10,.box [nI p.1.1,oL 25 BK p.1.2]),(12,nI C),(13,oL 3 AF R),(14,.bool S)]:=@λR S h _ z=>have h:=P h;N _ (lh z G (rn 1 G (have T:∀{U:List zI},Lp (Au (HD a c d e p (Au EX j)) D) C U=some u->Jn J [(2,nI d),(3,aL AF e),(4,.box [aL ND a]),(5,.box [nI c.1,aL T4 c.2.1,aL AF c.2.2]),(9,oL 25 BK U),(10,.box [nI p.1.1,oL 25 BK p.1.2]),(12,nI C)]:=@λU h _ z=>K _ (lh z G (rg (AU 3 G (H _ _ h (Bb G)))));(Ce h G (λh=>rg (sp 6 G (Bk h λV W h=>qC (qa G (D2 (BR (V6 Sq _) G)) (qa G (D2 (BR G (BR (V6 th _) (BR (V6 Cb _) G)))) (qs G (qa G (CM Cb _) A4)))) (ih W) (EM h λX h=>qA BK B V G G (Bh Fv V) G X (AU 1 G (T h _ (Bb G))))))) λh=>DZ (T h _ (Bb G))))));(Ba (λ(A:zI×Bool×Int)=>match A with|(Y,Z,g)=>[(2,nI d),(3,aL AF e),(4,.box [aL ND a]),(5,.box [nI c.1,aL T4 c.2.1,aL AF c.2.2]),(9,oL 25 BK B),(10,.box [nI p.1.1,oL 25 BK p.1.2]),(12,nI C),(13,oL 3 AF Y),(14,.bool Z),(15,nI g)]) _ _ _ _ v (Bb G) (λ_=>G) (λD=>pr3 λY Z g F h H=>CU λf=>rs (sp 5 G (Ew h (λk h=>qg 52 k G (AU 2 G (Ce h G (λh=>Cl f (CU λl=>A8 (rs (sp 3 G (Bk h λm n h=>qI G nW n (sp 3 G (Bk h λo r h=>qI G BJ r (AU 2 G (rdk (by kernel_rfl) λs y=>have t:∀{w:Bool},Lo (Au (Gs c d p C) D) p C Y g o w=some O->Jn s [(2,nI d),(3,aL AF e),(4,.box [aL ND a]),(5,.box [nI c.1,aL T4 c.2.1,aL AF c.2.2]),(9,oL 25 BK B),(10,.box [nI p.1.1,oL 25 BK p.1.2]),(12,nI C),(13,oL 3 AF Y),(14,.bool w),(15,nI g),(16,nI o)]:=@λw h _ z=>y _ (lh z G (qk [2,3,4,5,9,10,12,13,14,15,16] G (EM h λI h=>Gf (gLs (q:=900003) (b:=13) G G G I (λL M=>qk [2,3,4,5,9,10,12,13,14,15,16,900003] G (W9 (rg (sp 5 G (Bk h λN P h=>qI G Fv P (sp 2 G (Bk h λR S h=>qI G BJ S (sp 1 G (Bk h λj u h=>qIt G G G G u (qSt (y0:=j) (i:=o) (es:=1) 0 R [2,3,4,5,9,10,12,13,14,15] G G G G G G G G G G BJ u (λ_=>G) (Wl (RE G XX)) (yc G (yc (acf (λ_=>G) _) (yc (V0 (sA (aca bE _)) G) (yc (V0 G (V0 (sA (aca o8 _)) (V0 (sA (aca (λ_=>G) _)) G))) (yc (Wl (dcf Sp _)) (yc (V0 G (V0 (sO (XU Sp 25 _)) G)) (yc G (yc G (yc G (yc G yn)))))))))) (Rw (gDs (q:=900003) (b:=13) G G G (sl G) (l _ (rg (AU 3 G (H _ _ h (Bb G)))))))))))))))))))));(sd 2 G (Bk h λJ K h=>ed G (qI G BJ K (sd 3 G (Ew h (λU h=>NV 71 U G (sd 15 G (Dh (t h _ (Bb G))))) λU h=>NV 71 U G (sd 2 G (Bk h λW A h=>ed G (FY G G (qI G BJ A (sd 4 G (Bk h λT V h=>ed G (FY G G (qI G Fv V (sd 2 G (Bk h λX v h=>ed G (FY G G (qI G BJ v (sd 4 G (Dh (t h _ (Bb G)))))))))))))))))))))))))))))) λh=>AI (Q (sj h) _ (Bb G))))) λk h=>qg 52 k G (AU 2 G (qk [2,3,4,5,9,10,12,13,14,15,54] G (qF G G (AI (Q (sj h) _ (Bb G)))))))))))))))))))) λh=>AI (x (sj h) _ (Bb G)))))))))))))))))))))
def GS(a:IC)(b:(zI)->Option (zI))(c:zI):Option (zI):=cond (decide ((List.length c:Int) < a.1)) (chk (List.length c+List.length [-1]<=lim) (b (c++[-1]))) (some c)
def LB(a:List Ed)(b:IC):Option M0:=Ab (J9 a b) λc=>cond (!c) (some (0,[])) (Ab (Au (GS b) fz ([]:zI)) λd=>Ab (Sd a b 0 d) λe=>Ab (Jo b.1 e) λf=>cond (!f.2) (some (0,[])) (some f.1))
theorem TL{a:List Ed}{b:IC}{c:M0}(h:LB a b=some c):Bn 15 [.agg [dL CN a],.agg (EY b)] (.agg (P4 c)):=st xy G (rn 1 G (CU λd=>rs (sp 2 G (Bk h λe f h=>qC (qa G (D2 (BR (CM Mo _) G)) (qa G (D2 (BR G (BR (CM I0 _) (BR (CM Cb _) G)))) A4)) (PY f) (AU 1 G (Ce h G (λh=>rn 1 G (sj h ▸ Am rZ)) λh=>Cl d (rs (EW AF [] G G G BJ (AU 1 G (As λg i=>EF h λj k l=>have m:∀{n:zI},n=j->Jn g [(2,.box [dL CN a]),(3,.box [nI b.1,dL DK b.2.1,dL AF b.2.2]),(4,.box [nI 0,oL 25 BK []]),(5,oL 3 AF n)]:=@λn h _ o=>have h:=l h;i _ (lh o G (rd (by kernel_rfl) (sd 5 G (Bk h λp q h=>ed G (qC (qa G (D2 (BR (CM Mo _) G)) (qa G (D2 (BR G (BR (CM I0 _) (BR (CM Cb _) G)))) (qs G (qa G (CM Cb _) A4)))) (Ya q) (Bk h λr s h=>ed G (qC (qs G (qa G (XY Tv _) A4)) (Pz s) (sd 6 G (Dh (Fu G λt=>Ce h G (λh=>rn 1 G (sj h ▸ Am rZ)) λh=>Cl t (rn 1 G (sj h ▸ Am rZ))))))))))));(Ba (λ(u:zI)=>[(2,.box [dL CN a]),(3,.box [nI b.1,dL DK b.2.1,dL AF b.2.2]),(4,.box [nI 0,oL 25 BK []]),(5,oL 3 AF u)]) _ _ _ _ k (Bb G) (λ_=>G) (λv u w h x=>Fu G λy=>Ce h G (λh=>Cl y (A8 (rg (sp 1 G (EW AF [-1] G G G BJ (EM h λz h=>qA AF u [-1] G G (Bh BJ [-1]) G z (AU 1 G (x _ _ h (Bb G))))))))) λh=>AI (m (sj h) _ (Bb G))))))))))))))
def Es(a:Bool):Option Bool:=some a
def Fd(a:IC×zI×Int)(b:zI×Int)(c:Int):Option Bool:=Ab (JC a.1 b.1 c) λd=>Ab (JT a.1 b.1 c) λe=>cond (!(d.2==e.2)) (some false) (Ab (IR d.1 e.1) λf=>cond (!f) (some false) (cond (!d.2) (some true) (Ab (JD a.1 b.1 c) λg=>Ab (Nk d.1 a.1) λi=>Ab (Kz a.1 i.1) λj=>Ab (LB d.1 a.1) λk=>cond g.2 (cond i.2 (cond j.2 (cond (g.1==(List.length k.2:Int)) (Es (j.1==g.1)) (Es false)) (Es false)) (Es false)) (Es false))))
def K0(a:zI):Option Bool:=Ab (W8 a) λb=>cond b (some true) (Ab (G9 a) λc=>Ab (IU c.1) λd=>Ab (Io d.1) λe=>cond (e.2==2) (Ab (Wf a 0) λf=>Fd c e (wZ (2+(Int.tmod f 3)))) (Fd c e 2))
theorem QZ{a:zI}{b:Bool}(h:K0 a=some b):Bn 3 [dL Qm a] (.bool b):=sta AaN G (SU (Nx (λ_=>G) _) G) (mvv (Ru (λ_=>G) _) G) G (rn 1 G (CU λc=>rs (sp 1 G (Bk h λd e h=>qC (qa G (V6 oP _) A4) (dW e) (Rw (Ce h G (λh=>rn 1 G (sj h ▸ Am rZ)) λh=>Cl c (rs (sp 1 G (Bk h λf g h=>qCk G G (Qb g) (AU 8 G (rs (sp 1 G (Bk h λi j h=>qC (qa G (D2 (BR G (BR (CM P5 _) (BR (CM Cb _) G)))) A4) (RC j) (AU 8 G (qk [0,3,6] G (rs (sp 1 G (Bk h λk l h=>qC (qa G (CM C7 _) A4) (Q9 l) (AU 5 G (rn 1 G (As λm n=>rn 1 G (have o:∀{p:Int},Fd f k p=some b->Jn m [(3,.box [nI f.1.1,oL 67 DY f.1.2.1,oL 3 AF f.1.2.2]),(9,oL 3 AF k.1),(11,nI p)]:=@λp h _ q=>n _ (lh q G (rs (sp 3 G (Bk h λr s h=>qC (qa G (D2 (BR G (BR (CM P5 _) (BR (CM Cb _) G)))) (qa G (CM Cb _) (qs G A4))) (RV s) (AU 6 G (rs (sp 3 G (Bk h λt u h=>qC (qa G (D2 (BR G (BR (CM P5 _) (BR (CM Cb _) G)))) (qa G (CM Cb _) (qs G A4))) (R8 u) (AU 6 G (CU λv=>rs (sp 4 G (Ew h (λw h=>qg 65 w G (AU 5 G (qT G G (rn 1 G (sj h ▸ Am rZ))))) λw h=>qg 65 w G (sp 2 G (Bk h λx y h=>FY G G (qC (qa G (D2 (BR (CM PP _) G)) (qa G (D2 (BR (CM PP _) G)) A4)) (Rz y) (AU 2 G (qk [3,9,11,12,13,70] G (Ce h G (λh=>rn 1 G (sj h ▸ Am rZ)) λh=>Cl v (Fu G λz=>Ce h G (λh=>rn 1 G (sj h ▸ Am rZ)) λh=>Cl z (rs (sp 3 G (Bk h λA B h=>qC (qa G (D2 (BR G (BR (CM P5 _) (BR (CM Cb _) G)))) (qa G (CM Cb _) (qs G A4))) (RW B) (AU 5 G (rs (sp 2 G (Bk h λC D h=>qC (qa G (D2 (BR (CM PP _) G)) (qa G (D2 (BR G (BR (CM P5 _) (BR (CM Cb _) G)))) A4)) (VA D) (AU 5 G (qk [3,12,16,17,18,19] G (rs (sp 2 G (Bk h λF H h=>qC (qa G (D2 (BR G (BR (CM P5 _) (BR (CM Cb _) G)))) (qa G (CM Cb _) A4)) (S1 H) (AU 5 G (rs (sp 2 G (Bk h λI J h=>qC (qa G (D2 (BR (CM PP _) G)) (qa G (D2 (BR G (BR (CM P5 _) (BR (CM Cb _) G)))) A4)) (TL J) (AU 2 G (rk λK L=>have M:∀{N:Bool},Es N=some b->Jn K [(2,.bool N)]:=@λN h _ q=>L _ (lh q G (sj h ▸ Am rZ));(sp 2 G (Ew h (λO h=>qg 96 O G (sp 3 G (Ew h (λP h=>qg 99 P G (sp 3 G (Ew h (λQ h=>qg 102 Q G (sp 7 G (Ew h (λR h=>qg 109 R G (AU 5 G (M h _ (Bb G)))) λR h=>qg 109 R G (AU 5 G (M h _ (Bb G)))))) λQ h=>qg 102 Q G (AU 12 G (M h _ (Bb G)))))) λP h=>qg 99 P G (AU 15 G (M h _ (Bb G)))))) λO h=>qg 96 O G (AU 18 G (M h _ (Bb G))))))))))))))))))))))))))))))))))))))))));(Ce h G (λh=>rg (sp 1 G (Bk h λS T h=>qC (qa G (V6 oP _) (qs G A4)) (jj T) (AU 3 G (o h _ (Bb G)))))) λh=>DZ (o h _ (Bb G)))))))))))))))))))))))))
end
section
theorem db{B:(Int->zS)->Int->zS}{n:Nat}(bad:Nat->Bool){M:Nat}(hn:n < M)(h1:∀k,k < n->∀rec,B rec (k:Int)=cond (bad k) (some (.inr false)) (rec ((k+1:Nat):Int)))(h2:∀rec,B rec (n:Int)=some (.inl ())):
  Au B M 0=some (cond ((List.range n).any bad) (.inr false) (.inl ())):=by
 have key:∀d k,k+d=n->(∀j,j < k->bad j=false)->∀m,d < m->Au B m (k:Int)=some (cond ((List.range n).any bad) (.inr false) (.inl ())):=by
  intro d
  induction d with
  |zero=>
   intro k hk hb m hm
   cases m with
   |zero=>omega
   |succ m=>
    have hkn:k=n:=by omega
    have:(List.range n).any bad=false:=by
     rw[Bx]
     intro x hx
     rw[hb x (by have:=Ao.1 hx;omega)];simp
    show B (Au B m) (k:Int)=_
    rw[hkn,h2,this];rfl
  |succ d ih=>
   intro k hk hb m hm
   cases m with
   |zero=>omega
   |succ m=>
    show B (Au B m) (k:Int)=_
    rw[h1 k (by omega)]
    cases hbk:bad k with
    |true=>
     have:(List.range n).any bad=true:=by rw[Bi];exact⟨k,Ao.2 (by omega),hbk⟩
     rw[this];rfl
    |false=>
     exact ih (k+1) (by omega) (λj hj=>by
      rcases A9 j k with h|h
      ·exact hb j h
      ·rw[show j=k by omega];exact hbk) m (by omega)
 have:=key n 0 (by omega) (λj hj=>absurd hj (by omega)) M hn
 simpa using this
theorem E5{B:(Int->zS)->Int->zS}{n:Nat}(bad:Nat->Bool)(hn:n<=lim)(h1:∀k,k < n->∀rec,B rec (k:Int)=cond (bad k) (some (.inr false)) (rec ((k+1:Nat):Int)))(h2:∀rec,B rec (n:Int)=some (.inl ())):
  Au B fz 0=some (cond ((List.range n).any bad) (.inr false) (.inl ())):=db bad (Ho hn) h1 h2
theorem Br{k n:Nat}(h:k < n):decide ((k:Int) < (n:Int))=true:=Ai (by omega)
theorem Bm(n:Nat):decide ((n:Int) < (n:Int))=false:=Ag (by omega)
def It{α:Type}(l:List α)(k:Nat)(f:α->Bool):Bool:=match l[k]? with
 |some e=>f e
 |none=>false
theorem Cu{α:Type}{l:List α}{k:Nat}(h:k < l.length)(f:α->Bool):It l k f=f l[k]:=by unfold It;rw[Ac h]
def B9{α:Type}(l:List α)(f:Nat->α->Bool):Bool:=(List.range l.length).any λk=>It l k (f k)
def FI(x lo hi:Int):Bool:=decide (lo<=x)&&decide (x<=hi)
theorem L7(x lo hi:Int):Ej x lo hi=some (FI x lo hi):=by
 unfold Ej OX FI
 cases decide (lo<=x)<;>rfl
theorem FN(x lo hi:Int):Dd x lo hi=some (FI x lo hi):=by
 unfold Dd Nb FI
 cases decide (lo<=x)<;>rfl
def Qj(l:zI):Bool:= !B9 l λ_ e=> !FI e 0 99
theorem sC{l:zI}(h:l.length<=lim):GU l=some (Qj l):=by
 unfold GU Qj B9
 rw[E5 (λk=>It l k λe=> !FI e 0 99) h (λk hk rec=>by
  unfold JM
  rw[Br hk,Bd hk,BG hk (Bq h),Cu hk]
  simp only[Ad,Ab,L7]) (λrec=>by unfold JM;rw[Bm];rfl)]
 cases(List.range l.length).any λk=>It l k λe=> !FI e 0 99<;>rfl
theorem w4{l:zI}(h:l.length<=lim):IJ l=some (Qj l):=by
 unfold IJ Qj B9
 rw[E5 (λk=>It l k λe=> !FI e 0 99) h (λk hk rec=>by
  unfold Jz
  rw[Br hk,Bd hk,BG hk (Bq h),Cu hk]
  simp only[Ad,Ab,FN]) (λrec=>by unfold Jz;rw[Bm];rfl)]
 cases(List.range l.length).any λk=>It l k λe=> !FI e 0 99<;>rfl
def GZ:zI->zI->Int
 |[],[]=>0
 |[],_::_=> -1
 |_::_,[]=>1
 |x::xs,y::ys=>if x < y then -1 else if y < x then 1 else GZ xs ys
theorem a5{B:(Int->Option (Sum Unit Int))->Int->Option (Sum Unit Int)}{a b:zI}(ha:a.length<=lim)
  (h1:∀k (hk:k < a.length) (hk':k < b.length),∀rec,B rec (k:Int)=if a[k] < b[k]then some (.inr (-1))else if b[k] < a[k]then some (.inr 1)else rec ((k+1:Nat):Int))
  (h2:∀k:Nat,¬(k < a.length∧k < b.length)->∀rec,B rec (k:Int)=some (.inl ())):
  ∃o,Au B fz 0=some o∧((∃r,o=.inr r∧GZ a b=r)∨(o=.inl ()∧GZ a b=if a.length < b.length then -1 else if b.length < a.length then 1 else 0)):=by
 have key:∀d k,k+d=a.length->k<=b.length->GZ a b=GZ (a.drop k) (b.drop k)->∀m,d < m->∃o,Au B m (k:Int)=some o∧((∃r,o=.inr r∧GZ a b=r)∨(o=.inl ()∧GZ a b=if a.length < b.length then -1 else if b.length < a.length then 1 else 0)):=by
  intro d
  induction d with
  |zero=>
   intro k hk hkb hc m hm
   cases m with
   |zero=>omega
   |succ m=>
    refine⟨.inl (),h2 k (by omega) _,.inr ⟨rfl,?_⟩⟩
    rw[hc,BY (by omega:a.length<=k)]
    rcases A9 k b.length with h|h
    ·rw[AR h,Av (by omega)];rfl
    ·rw[BY h,At (by omega),At (by omega)];rfl
  |succ d ih=>
   intro k hk hkb hc m hm
   cases m with
   |zero=>omega
   |succ m=>
    have hka:k < a.length:=by omega
    rcases A9 k b.length with h|h
    ·have e1:=h1 k hka h (Au B m)
     rw[AR hka,AR h,GZ]at hc
     by_cases q1:a[k] < b[k]
     ·rw[Av q1]at e1 hc;exact⟨_,e1,.inl ⟨_,rfl,hc⟩⟩
     ·rw[At q1]at e1 hc
      by_cases q2:b[k] < a[k]
      ·rw[Av q2]at e1 hc;exact⟨_,e1,.inl ⟨_,rfl,hc⟩⟩
      ·rw[At q2]at e1 hc
       obtain⟨o,e2,p⟩:=ih (k+1) (by omega) (by omega) hc m (by omega)
       exact⟨o,e1.trans e2,p⟩
    ·refine⟨.inl (),h2 k (by omega) _,.inr ⟨rfl,?_⟩⟩
     rw[hc,AR hka,BY h,At (by omega),Av (by omega)];rfl
 exact key a.length 0 (by omega) (by omega) (by simp) fz (Ho ha)
theorem cK{a b:zI}(ha:a.length<=lim):FZ a b=some (GZ a b):=by
 unfold FZ
 obtain⟨o,e,p⟩:=a5 (B:=IQ a b) ha (λk hk hk' rec=>by
   unfold IQ
   rw[Br hk,Br hk',Bd hk,Bd hk',BG hk (Bq ha)]
   simp only[Ad,Ab]
   by_cases q1:a[k] < b[k]
   ·rw[Ai q1,Av q1];rfl
   ·rw[Ag q1,At q1]
    by_cases q2:b[k] < a[k]
    ·rw[Ai q2,Av q2];rfl
    ·rw[Ag q2,At q2];rfl) (λk hk rec=>by
   unfold IQ
   by_cases q:k < a.length
   ·rw[Br q,Ag (by omega:¬(k:Int) < (b.length:Int))];rfl
   ·rw[Ag (by omega:¬(k:Int) < (a.length:Int))];rfl)
 rw[e]
 rcases p with⟨r,rfl,hr⟩|⟨rfl,hr⟩
 ·rw[hr];rfl
 ·simp only[Ab]
  rw[hr]
  by_cases q1:a.length < b.length
  ·rw[Av q1,Ai (by omega)];rfl
  ·rw[At q1,Ag (by omega)]
   by_cases q2:b.length < a.length
   ·rw[Av q2,Ai (by omega)];rfl
   ·rw[At q2,Ag (by omega)];rfl
theorem Ve(x y:Int):Fa x y=some (if x < y then -1 else if y < x then 1 else 0):=by
 unfold Fa
 by_cases q1:x < y
 ·rw[Ai q1,Av q1];rfl
 ·rw[Ag q1,At q1]
  by_cases q2:y < x
  ·rw[Ai q2,Av q2];rfl
  ·rw[Ag q2,At q2];rfl
theorem w5{a b:zI}(ha:a.length<=lim):Lt a b=some (GZ a b):=by
 unfold Lt
 obtain⟨o,e,p⟩:=a5 (B:=IK a b) ha (λk hk hk' rec=>by
   unfold IK
   rw[Br hk,Br hk',Bd hk,Bd hk',BG hk (Bq ha)]
   simp only[Ad,Ab,Ve]
   by_cases q1:a[k] < b[k]
   ·have:(a[k]!=b[k])=true:=by simp;omega
    simp only[this,Av q1,Ad]
   ·by_cases q2:b[k] < a[k]
    ·have:(a[k]!=b[k])=true:=by simp;omega
     simp only[this,At q1,Av q2,Ad]
    ·have:(a[k]!=b[k])=false:=by simp;omega
     simp only[this,At q1,At q2,Ae]) (λk hk rec=>by
   unfold IK
   by_cases q:k < a.length
   ·rw[Br q,Ag (by omega:¬(k:Int) < (b.length:Int))];rfl
   ·rw[Ag (by omega:¬(k:Int) < (a.length:Int))];rfl)
 rw[e]
 rcases p with⟨r,rfl,hr⟩|⟨rfl,hr⟩
 ·rw[hr];rfl
 ·simp only[Ab,Ve]
  rw[hr]
  by_cases q1:a.length < b.length
  ·rw[Av q1,Av (by omega)]
  ·rw[At q1,At (by omega)]
   by_cases q2:b.length < a.length
   ·rw[Av q2,Av (by omega)]
   ·rw[At q2,At (by omega)]
def Pq(arity:Int)(rows:List zI)(k:Nat)(r:zI):Bool:=((r.length:Int)!=arity) || !Qj r || (decide (0 < k)&&It rows (k - 1) λq=>decide (0<=GZ q r))
def PJ(r:Int×List zI):Bool:=FI r.1 0 5&&(!decide (4000 < (r.2.length:Int))&& !B9 r.2 (Pq r.1 r.2))
theorem aA{k n:Nat}(h:k < n)(h0:0 < k)(hn:n<=maxLen):wZ ((k:Int) - 1)=((k - 1:Nat):Int):=by
 rw[wrap_in (by unfold maxLen at hn;omega)];omega
def Lj(l:List zI):Prop:=l.length<=lim∧∀r∈l,r.length<=lim
theorem sG{r:Int×List zI}(h:Lj r.2):Fo r=some (PJ r):=by
 unfold Fo PJ B9
 simp only[L7,Ab]
 cases FI r.1 0 5 with
 |false=>rfl
 |true=>
  cases decide (4000 < (r.2.length:Int))with
  |true=>rfl
  |false=>
   simp only[An,CJ,Ae,AD]
   rw[E5 (λk=>It r.2 k (Pq r.1 r.2 k)) h.1 (λk hk rec=>by
    have hr:=h.2 _ (Aj hk)
    unfold GG Et
    rw[Br hk,Bd hk,BG hk (Bq h.1),Cu hk]
    simp only[Ad,Ab,sC hr,Pq]
    cases h1:((r.2[k].length:Int)!=r.1)with
    |true=>rfl
    |false=>
     cases h2:Qj r.2[k]with
     |false=>rfl
     |true=>
      by_cases h0:0 < k
      ·have hk':k - 1 < r.2.length:=by omega
       rw[aA hk h0 (Bq h.1),Bd hk',Cu hk',Ai (by omega:(0:Int) < (k:Int)),Ai h0]
       simp only[Ad,Ae,An,BZ,AD,cK (h.2 _ (Aj hk'))]
      ·rw[Ag (by omega:¬(0:Int) < (k:Int)),Ag h0];rfl) (λrec=>by unfold GG;rw[Bm];rfl)]
   cases(List.range r.2.length).any λk=>It r.2 k (Pq r.1 r.2 k)<;>rfl
theorem xf{r:Int×List zI}(h:Lj r.2):Ge r=some (PJ r):=by
 unfold Ge Ph PJ B9
 simp only[FN,Ab]
 cases FI r.1 0 5 with
 |false=>rfl
 |true=>
  cases decide (4000 < (r.2.length:Int))with
  |true=>rfl
  |false=>
   simp only[An,CJ,Ae,AD]
   rw[E5 (λk=>It r.2 k (Pq r.1 r.2 k)) h.1 (λk hk rec=>by
    have hr:=h.2 _ (Aj hk)
    unfold KA Gz
    rw[Br hk,Bd hk,BG hk (Bq h.1),Cu hk]
    simp only[Ad,Ab,w4 hr,Pq]
    cases h1:((r.2[k].length:Int)!=r.1)with
    |true=>rfl
    |false=>
     cases h2:Qj r.2[k]with
     |false=>rfl
     |true=>
      by_cases h0:0 < k
      ·have hk':k - 1 < r.2.length:=by omega
       rw[aA hk h0 (Bq h.1),Bd hk',Cu hk',Ai (by omega:(0:Int) < (k:Int)),Ai h0]
       simp only[Ad,Ae,An,BZ,AD,w5 (h.2 _ (Aj hk'))]
      ·rw[Ag (by omega:¬(0:Int) < (k:Int)),Ag h0];rfl) (λrec=>by unfold KA;rw[Bm];rfl)]
   cases(List.range r.2.length).any λk=>It r.2 k (Pq r.1 r.2 k)<;>rfl
def nmB(s:zU):Bool:=FI (s.length:Int) 1 4&& !B9 s λ_ b=>decide ((UInt8.toNat b:Int) < 97) || decide (122 < (UInt8.toNat b:Int))
theorem m6{s:zU}(h:s.length<=lim):Jj s=some (nmB s):=by
 unfold Jj nmB B9
 rw[E5 (λk=>It s k λb=>decide ((UInt8.toNat b:Int) < 97) || decide (122 < (UInt8.toNat b:Int))) h (λk hk rec=>by
  unfold L9
  rw[Br hk,Bd hk,BG hk (Bq h),Cu hk]
  simp only[Ad,Ab]
  cases decide ((UInt8.toNat s[k]:Int) < 97)<;>rfl) (λrec=>by unfold L9;rw[Bm];rfl)]
 cases(List.range s.length).any λk=>It s k λb=>decide ((UInt8.toNat b:Int) < 97) || decide (122 < (UInt8.toNat b:Int))<;>simp[Ab,L7]
theorem ld{s:zU}(h:s.length<=lim):I4 s=some (nmB s):=by
 unfold I4 Pg nmB B9 FI
 by_cases h1:(s.length:Int) < 1
 ·rw[Ai h1,Ag (by omega:¬(1:Int)<=(s.length:Int))];rfl
 ·rw[Ag h1,Ai (by omega:(1:Int)<=(s.length:Int))]
  by_cases h2:4 < (s.length:Int)
  ·rw[Ai h2,Ag (by omega:¬(s.length:Int)<=4)];rfl
  ·rw[Ag h2,Ai (by omega:(s.length:Int)<=4)]
   simp only[Ae,GL,AD]
   rw[E5 (λk=>It s k λb=>decide ((UInt8.toNat b:Int) < 97) || decide (122 < (UInt8.toNat b:Int))) h (λk hk rec=>by
    unfold Na
    rw[Br hk,Bd hk,BG hk (Bq h),Cu hk]
    simp only[Ad,Ab]
    cases decide ((UInt8.toNat s[k]:Int) < 97)<;>rfl) (λrec=>by unfold Na;rw[Bm];rfl)]
   cases(List.range s.length).any λk=>It s k λb=>decide ((UInt8.toNat b:Int) < 97) || decide (122 < (UInt8.toNat b:Int))<;>rfl
abbrev Jt:=zU×(Int×List zI)
def Qh(d:List Jt)(k:Nat)(t:Jt):Bool:= !nmB t.1 || (decide (0 < k)&&It d (k - 1) λq=> !Op.bytesLess q.1 t.1) || !PJ t.2 || decide (16 < (t.2.2.length:Int)) || decide (t.2.1 < 1)
def SV(d:List Jt):Bool:=decide ((d.length:Int)<=6)&& !B9 d (Qh d)
def R5(d:List Jt):Prop:=d.length<=lim∧∀t∈d,t.1.length<=lim∧Lj t.2.2
theorem mZ{d:List Jt}(h:R5 d):EC d=some (SV d):=by
 unfold EC SV B9
 rw[E5 (λk=>It d k (Qh d k)) h.1 (λk hk rec=>by
  have hr:=h.2 _ (Aj hk)
  unfold GE CZ
  rw[Br hk,Bd hk,BG hk (Bq h.1),Cu hk]
  simp only[Ad,Ab,m6 hr.1,sG hr.2,Qh]
  cases nmB d[k].1 with
  |false=>rfl
  |true=>
   by_cases h0:0 < k
   ·have hk':k - 1 < d.length:=by omega
    rw[aA hk h0 (Bq h.1),Bd hk',Cu hk',Ai (by omega:(0:Int) < (k:Int)),Ai h0]
    simp only[Ad,Ae,An,BZ,AD]
    cases Op.bytesLess d[k - 1].1 d[k].1<;>cases PJ d[k].2<;>cases decide (16 < (d[k].2.2.length:Int))<;>rfl
   ·rw[Ag (by omega:¬(0:Int) < (k:Int)),Ag h0]
    cases PJ d[k].2<;>cases decide (16 < (d[k].2.2.length:Int))<;>rfl) (λrec=>by unfold GE;rw[Bm];rfl)]
 cases(List.range d.length).any λk=>It d k (Qh d k)<;>simp[Ab]
theorem w7{d:List Jt}(h:R5 d):Gc d=some (SV d):=by
 unfold Gc SV B9
 by_cases h6:6 < (d.length:Int)
 ·rw[Ai h6,Ag (by omega:¬(d.length:Int)<=6)];rfl
 rw[Ag h6,Ai (by omega:(d.length:Int)<=6),Ae,AD]
 rw[E5 (λk=>It d k (Qh d k)) h.1 (λk hk rec=>by
  have hr:=h.2 _ (Aj hk)
  unfold Gv CY
  rw[Br hk,Bd hk,BG hk (Bq h.1),Cu hk]
  simp only[Ad,Ab,ld hr.1,xf hr.2,Qh]
  cases nmB d[k].1 with
  |false=>rfl
  |true=>
   by_cases h0:0 < k
   ·have hk':k - 1 < d.length:=by omega
    rw[aA hk h0 (Bq h.1),Bd hk',Cu hk',Ai (by omega:(0:Int) < (k:Int)),Ai h0]
    simp only[Ad,Ae,An,BZ,AD]
    cases Op.bytesLess d[k - 1].1 d[k].1<;>cases PJ d[k].2<;>cases decide (16 < (d[k].2.2.length:Int))<;>cases decide (d[k].2.1 < 1)<;>rfl
   ·rw[Ag (by omega:¬(0:Int) < (k:Int)),Ag h0]
    cases PJ d[k].2<;>cases decide (16 < (d[k].2.2.length:Int))<;>cases decide (d[k].2.1 < 1)<;>rfl) (λrec=>by unfold Gv;rw[Bm];rfl)]
 cases(List.range d.length).any λk=>It d k (Qh d k)<;>rfl
theorem J3{α β:Type}{a:List α}{h:α->β}{B:(List β×Int->Option (List β))->List β×Int->Option (List β)}(hl:a.length<=lim)
  (h1:∀k (hk:k < a.length),∀rec,B rec ((a.take k).map h,(k:Int))=rec ((a.take k).map h++[h a[k]],((k+1:Nat):Int))) (h2:∀rec y,B rec (y,(a.length:Int))=some y):Au B fz ([],0)=some (a.map h):=by
 have:=GA (body:=B) (out:=a.map h) (λk=>((a.take k).map h,(k:Int))) a.length (λk hk rec=>by
  rw[h1 k hk,A5 hk,B7];rfl) (λrec=>by rw[h2,BT]) fz (Ho hl)
 simpa using this
theorem jd{α O:Type}{a:List α}{B:(Int->Option (Sum Unit O))->Int->Option (Sum Unit O)}(p:α->Bool)(g:α->O)(hl:a.length<=lim)
  (h1:∀k (hk:k < a.length),∀rec,B rec (k:Int)=cond (p a[k]) (some (.inr (g a[k]))) (rec ((k+1:Nat):Int))) (h2:∀rec,B rec (a.length:Int)=some (.inl ())):
  Au B fz 0=some (match a.find? p with|some e=>.inr (g e)|none=>.inl ()):=by
 have key:∀d k,k+d=a.length->∀m,d < m->Au B m (k:Int)=some (match(a.drop k).find? p with|some e=>.inr (g e)|none=>.inl ()):=by
  intro d
  induction d with
  |zero=>
   intro k hk m hm
   cases m with
   |zero=>omega
   |succ m=>
    show B (Au B m) (k:Int)=_
    rw[show k=a.length by omega,h2,Ez];rfl
  |succ d ih=>
   intro k hk m hm
   cases m with
   |zero=>omega
   |succ m=>
    have hlt:k < a.length:=by omega
    show B (Au B m) (k:Int)=_
    rw[h1 k hlt,AR hlt,List.find?_cons]
    cases hp:p a[k]with
    |true=>rfl
    |false=>exact ih (k+1) (by omega) m (by omega)
 have:=key a.length 0 (by omega) fz (Ho hl)
 simpa using this
theorem eE{r:Int×List zI}(h:Lj r.2):MW r=some r:=by
 unfold MW
 rw[J3 (a:=r.2) (h:=id) h.1 (λk hk rec=>by
  have hr:=h.2 _ (Aj hk)
  unfold PB
  simp only
  rw[Br hk,Bd hk,BG hk (Bq h.1)]
  simp only[Ad,Ab]
  rw[AX (by simpa using hr),AX (by simp only[Ak,AJ,Ay];unfold lim at *;have:=h.1;unfold lim at this;omega)]
  simp) (λrec y=>by unfold PB;simp only;rw[Bm];rfl)]
 simp[Ab]
theorem fX{l:zI}(h:l.length<=lim):He l=some l:=by
 unfold He
 rw[AX (by simpa using h)];simp
theorem pg{l:List zI}(h:Lj l):NR l=some l:=by
 unfold NR
 rw[J3 (a:=l) (h:=id) h.1 (λk hk rec=>by
  have hr:=h.2 _ (Aj hk)
  unfold NH
  simp only
  rw[Br hk,Bd hk,BG hk (Bq h.1)]
  simp only[Ad,Ab,fX hr]
  rw[AX (by simp only[Ak,AJ,Ay];unfold lim at *;have:=h.1;unfold lim at this;omega)]
  simp) (λrec y=>by unfold NH;simp only;rw[Bm];rfl)]
 simp[Ab]
theorem kY{r:Int×List zI}(h:Lj r.2):Ie r=some r:=by
 unfold Ie
 simp[pg h,Ab]
def Fe(d:List Jt)(nm:zU):(Int×List zI)×Bool:=if SV d=true then(match d.find? (λt=>t.1==nm)with|some t=>(t.2,true)|none=>((0,[]),false))else((0,[]),false)
theorem Z8{d:List Jt}(h:R5 d)(nm:zU):EK d nm=some (Fe d nm):=by
 unfold EK Fe
 cases hd:SV d with
 |true=>
  rw[jd (a:=d) (λt=>t.1==nm) (λt=>(t.2,true)) h.1 (λk hk rec=>by
   have hr:=h.2 _ (Aj hk)
   unfold EG
   rw[Br hk,Bd hk,BG hk (Bq h.1),mZ h,hd]
   simp only[Ad,Ab,eE hr.2]) (λrec=>by unfold EG;rw[Bm];rfl)]
  simp only[Ab,ER]
  cases d.find? (λt=>t.1==nm)<;>rfl
 |false=>
  have:Au (EG d nm) fz 0=some (.inl ()):=by
   refine GA (body:=EG d nm) (λ_=>0) 0 (λk hk=>absurd hk (by omega)) (λrec=>?_) fz (by unfold fz;omega)
   unfold EG
   rw[mZ h,hd]
   cases decide ((0:Int) < (d.length:Int))<;>rfl
  rw[this];rfl
theorem s6{α:Type}(l:List α)(f g:Nat->α->Bool):B9 l (λk e=>f k e || g k e)=(B9 l f || B9 l g):=by
 unfold B9
 rw[B5]
 simp only[Bi,BP,Ao]
 constructor
 ·rintro⟨k,hk,h⟩
  rw[Cu hk]at h
  simp only[BP]at h
  rcases h with h|h
  ·exact .inl ⟨k,hk,by rw[Cu hk];exact h⟩
  ·exact .inr ⟨k,hk,by rw[Cu hk];exact h⟩
 ·rintro(⟨k,hk,h⟩|⟨k,hk,h⟩)<;>rw[Cu hk]at h<;>exact⟨k,hk,by rw[Cu hk,h];simp⟩
theorem By{S O:Type}(body:(S->Option O)->S->Option O)(n:Nat)(s:S):Au body (n+1) s=body (Au body n) s:=rfl
theorem Vz{O:Type}{B:(Int->Option (Sum Unit O))->Int->Option (Sum Unit O)}{n:Nat}(g:Nat->Option O)(hn:n<=lim)
  (h1:∀k,k < n->∀rec,B rec (k:Int)=match g k with|some o=>some (.inr o)|none=>rec ((k+1:Nat):Int)) (h2:∀rec,B rec (n:Int)=some (.inl ())):
  Au B fz 0=some (match(List.range n).findSome? g with|some o=>.inr o|none=>.inl ()):=by
 have key:∀d k,k+d=n->∀m,d < m->Au B m (k:Int)=some (match(List.range' k d).findSome? g with|some o=>.inr o|none=>.inl ()):=by
  intro d
  induction d with
  |zero=>
   intro k hk m hm
   cases m with
   |zero=>omega
   |succ m=>
    show B (Au B m) (k:Int)=_
    rw[show k=n by omega,h2];rfl
  |succ d ih=>
   intro k hk m hm
   cases m with
   |zero=>omega
   |succ m=>
    show B (Au B m) (k:Int)=_
    rw[h1 k (by omega),Db,List.findSome?_cons]
    cases hg:g k with
    |some o=>rfl
    |none=>exact ih (k+1) (by omega) m (by omega)
 have:=key n 0 (by omega) fz (Ho hn)
 rw[FB]
 simpa using this
theorem IZ{α:Type}{l:List α}{f:Nat->α->Bool}(h:B9 l f=false){k:Nat}(hk:k < l.length):f k l[k]=false:=by
 unfold B9 at h
 rw[Bx]at h
 have:=h k (Ao.2 hk)
 rw[Cu hk]at this
 simpa using this
def HQ(row:zI)(c:Int):Int:=(AZ row c).getD 0
def Le(row cols:zI):zI:=cols.map (HQ row)
theorem Uj{row:zI}{c:Int}(h:0<=c∧c < row.length):AZ row c=some (HQ row c):=by
 unfold HQ AZ
 rw[Av h.1,Ac (by omega)];rfl
theorem tO{row cols:zI}(hl:cols.length<=lim)(h:∀c∈cols,0<=c∧c < row.length):Qv row cols=some (Le row cols):=by
 unfold Qv
 rw[J3 (a:=cols) (h:=HQ row) hl (λk hk rec=>by
  unfold QX
  simp only
  rw[Br hk,Bd hk,BG hk (Bq hl)]
  simp only[Ad,Ab,Uj (h _ (Aj hk))]
  rw[AX (by simp only[Ak,AJ,Ay];unfold lim at *;omega)]) (λrec y=>by unfold QX;simp only;rw[Bm];rfl)]
 rfl
theorem cmp_eq:∀a b:zI,(GZ a b==0)=(a==b)
 |[],[]=>rfl
 |[],_::_=>rfl
 |_::_,[]=>rfl
 |x::xs,y::ys=>by
  rw[GZ]
  by_cases h1:x < y
  ·rw[Av h1]
   have:(x::xs==y::ys)=false:=by simp;intro h;omega
   rw[this];rfl
  ·rw[At h1]
   by_cases h2:y < x
   ·rw[Av h2]
    have:(x::xs==y::ys)=false:=by simp;intro h;omega
    rw[this];rfl
   ·rw[At h2,cmp_eq xs ys]
    have:x=y:=by omega
    subst this
    simp
theorem jV{S:Type}{B:(S×Int->Option (Sum S Bool))->S×Int->Option (Sum S Bool)}{n:Nat}(s:Nat->S)(bad:Nat->Bool)(hn:n<=lim)(h1:∀k,k < n->∀rec,B rec (s k,(k:Int))=cond (bad k) (some (.inr false)) (rec (s (k+1),((k+1:Nat):Int))))(h2:∀rec,B rec (s n,(n:Int))=some (.inl (s n))):
  Au B fz (s 0,0)=some (cond ((List.range n).any bad) (.inr false) (.inl (s n))):=by
 have key:∀d k,k+d=n->(∀j,j < k->bad j=false)->∀m,d < m->Au B m (s k,(k:Int))=some (cond ((List.range n).any bad) (.inr false) (.inl (s n))):=by
  intro d
  induction d with
  |zero=>
   intro k hk hb m hm
   cases m with
   |zero=>omega
   |succ m=>
    have hkn:k=n:=by omega
    have:(List.range n).any bad=false:=by
     rw[Bx]
     intro x hx
     rw[hb x (by have:=Ao.1 hx;omega)];simp
    show B (Au B m) (s k,(k:Int))=_
    rw[hkn,h2,this];rfl
  |succ d ih=>
   intro k hk hb m hm
   cases m with
   |zero=>omega
   |succ m=>
    show B (Au B m) (s k,(k:Int))=_
    rw[h1 k (by omega)]
    cases hbk:bad k with
    |true=>
     have:(List.range n).any bad=true:=by rw[Bi];exact⟨k,Ao.2 (by omega),hbk⟩
     rw[this];rfl
    |false=>
     exact ih (k+1) (by omega) (λj hj=>by
      rcases A9 j k with h|h
      ·exact hb j h
      ·rw[show j=k by omega];exact hbk) m (by omega)
 have:=key n 0 (by omega) (λj hj=>absurd hj (by omega)) fz (Ho hn)
 simpa using this
def RR(l:zI)(v:Int):Option Nat:=(List.range l.length).findSome? λk=>if(It l k λe=>e==v)=true then some k else none
theorem TA(l:zI)(v:Int):(RR l v).isSome=l.contains v:=by
 unfold RR
 rw[B5,List.findSome?_isSome_iff,AS]
 constructor
 ·rintro⟨k,hk,h⟩
  have hk:=Ao.1 hk
  split at h
  ·rename_i he;rw[Cu hk]at he;have:l[k]=v:=by simpa using he
   rw[<-this];exact Aj hk
  ·cases h
 ·intro h
  obtain⟨k,hk,rfl⟩:=Bf.1 h
  exact⟨k,Ao.2 hk,by rw[Cu hk];simp⟩
def ML(l:zI)(v:Int):Int:=match RR l v with
 |some k=>(k:Int)
 |none=> -1
theorem YN(l:zI)(v:Int):decide (0<=ML l v)=l.contains v:=by
 rw[<-TA]
 unfold ML
 cases RR l v with
 |some k=>simp
 |none=>rfl
theorem eF{l:zI}(h:l.length<=lim)(v:Int):MX l v=some (ML l v):=by
 unfold MX ML RR
 rw[Vz (O:=Int) (λk=>if(It l k λe=>e==v)=true then some (k:Int)else none) h (λk hk rec=>by
  unfold PD
  rw[Br hk,Bd hk,BG hk (Bq h),Cu hk]
  simp only[Ad,Ab]
  cases(l[k]==v)<;>rfl) (λrec=>by unfold PD;rw[Bm];rfl)]
 have e:((List.range l.length).findSome? λk=>if(It l k λe=>e==v)=true then some (k:Int)else none)=((List.range l.length).findSome? λk=>if(It l k λe=>e==v)=true then some k else none).map (λk:Nat=>(k:Int)):=by
  rw[K6]
  congr 1
  funext k
  simp only[Function.comp]
  split<;>rfl
 rw[e]
 cases(List.range l.length).findSome? λk=>if(It l k λe=>e==v)=true then some k else none<;>rfl
theorem tL{l:zI}(h:l.length<=lim)(v:Int):OO l v=some (ML l v):=by
 unfold OO ML RR
 rw[Vz (O:=Int) (λk=>if(It l k λe=>e==v)=true then some (k:Int)else none) h (λk hk rec=>by
  unfold OA
  rw[Br hk,Bd hk,BG hk (Bq h),Cu hk]
  simp only[Ad,Ab]
  cases(l[k]==v)<;>rfl) (λrec=>by unfold OA;rw[Bm];rfl)]
 have e:((List.range l.length).findSome? λk=>if(It l k λe=>e==v)=true then some (k:Int)else none)=((List.range l.length).findSome? λk=>if(It l k λe=>e==v)=true then some k else none).map (λk:Nat=>(k:Int)):=by
  rw[K6]
  congr 1
  funext k
  simp only[Function.comp]
  split<;>rfl
 rw[e]
 cases(List.range l.length).findSome? λk=>if(It l k λe=>e==v)=true then some k else none<;>rfl
theorem rO{l:zI}(h:l.length<=lim)(v:Int):N6 l v=some (l.contains v):=by
 unfold N6
 simp only[tL h,Ab,YN]
abbrev PG:=zU×zI
abbrev NQ:=Int×List PG×zI
theorem vn{a:PG}(h:a.2.length<=lim)(v:Int):ES a v=some (a.2.contains v):=by
 unfold ES
 rw[Vz (O:=Bool) (λk=>if(It a.2 k λe=>e==v)=true then some true else none) h (λk hk rec=>by
  unfold IA
  rw[Br hk,Bd hk,BG hk (Bq h),Cu hk]
  simp only[Ad,Ab]
  cases(a.2[k]==v)<;>rfl) (λrec=>by unfold IA;rw[Bm];rfl)]
 rw[<-TA]
 have e:((List.range a.2.length).findSome? λk=>if(It a.2 k λe=>e==v)=true then some true else none)=(RR a.2 v).map (λ_=>true):=by
  unfold RR
  rw[K6]
  congr 1
  funext k
  simp only[Function.comp]
  split<;>rfl
 rw[e]
 cases RR a.2 v<;>rfl
def MM(n:Int)(l:zI)(k:Nat)(e:Int):Bool:= !FI e 0 (wZ (n - 1)) || (l.take k).contains e
theorem XN{α:Type}(l:List α)(k:Nat):Ef l 0 (k:Int)=l.take k:=by simp[Ef]
theorem xh{l:zI}(h:l.length<=lim)(n:Int):OP l n=some (!B9 l (MM n l)):=by
 unfold OP B9
 rw[E5 (λk=>It l k (MM n l k)) h (λk hk rec=>by
  unfold OB
  rw[Br hk,Bd hk,BG hk (Bq h),Cu hk]
  simp only[Ad,Ab,FN]
  rw[AX (by omega),XN]
  simp only[rO (l:=l.take k) (by rw[AJ];omega),MM]
  cases FI l[k] 0 (wZ (n - 1))<;>rfl) (λrec=>by unfold OB;rw[Bm];rfl)]
 cases(List.range l.length).any λk=>It l k (MM n l k)<;>rfl
def Mn(n:Int)(a:PG):Bool:= !nmB a.1 || (!FI (a.2.length:Int) 1 5 || B9 a.2 λ_ v=> !FI v 0 (wZ (n - 1)))
def US(q:NQ):Prop:=q.2.1.length<=lim∧(∀a∈q.2.1,a.1.length<=lim∧a.2.length<=lim)∧q.2.2.length<=lim
def Hf(l:List PG)(v:Int):Bool:=l.any λa=>a.2.contains v
theorem qz{q:NQ}(h:US q):Au (Ik q) fz 0=some (cond (B9 q.2.1 λ_ a=>Mn q.1 a) (.inr false) (.inl ())):=by
 unfold B9
 refine E5 (λk=>It q.2.1 k λa=>Mn q.1 a) h.1 (λk hk rec=>?_) (λrec=>by unfold Ik;rw[Bm];rfl)
 have ha:=h.2.1 _ (Aj hk)
 unfold Ik
 rw[Br hk,Bd hk,BG hk (Bq h.1),Cu hk]
 simp only[Ad,Ab,m6 ha.1,L7,Mn]
 cases nmB q.2.1[k].1 with
 |false=>rfl
 |true=>
  cases FI (q.2.1[k].2.length:Int) 1 5 with
  |false=>rfl
  |true=>
   simp only[An,Ae,BZ]
   rw[E5 (λj=>It q.2.1[k].2 j λv=> !FI v 0 (wZ (q.1 - 1))) ha.2 (λj hj rec=>by
    unfold Ll
    rw[Bd hk]
    simp only[Ab]
    rw[Br hj,Bd hj,BG hj (Bq ha.2),Cu hj]
    simp only[Ad,L7]) (λrec=>by unfold Ll;rw[Bd hk];simp only[Ab];rw[Bm];rfl)]
   unfold B9
   cases(List.range q.2.1[k].2.length).any λj=>It q.2.1[k].2 j λv=> !FI v 0 (wZ (q.1 - 1))<;>rfl
theorem vE{q:NQ}(h:US q)(v:Int):Au (Fn q v) fz (false,0)=some (Hf q.2.1 v):=by
 have:=GA (body:=Fn q v) (out:=Hf q.2.1 v) (λk=>(Hf (q.2.1.take k) v,(k:Int))) q.2.1.length (λk hk rec=>by
  have ha:=h.2.1 _ (Aj hk)
  unfold Fn In
  simp only
  rw[Br hk,Bd hk,BG hk (Bq h.1)]
  simp only[Ad,Ab,vn ha.2]
  have e:Hf (q.2.1.take (k+1)) v=(Hf (q.2.1.take k) v || q.2.1[k].2.contains v):=by
   unfold Hf
   rw[A5 hk,List.any_append];simp
  rw[e]
  cases Hf (q.2.1.take k) v<;>rfl) (λrec=>by unfold Fn;simp only;rw[Bm,BT];rfl) fz (Ho h.1)
 simpa[Hf]using this
theorem qG{q:NQ}(h:US q)(hn:1<=q.1∧q.1<=5):Au (Il q) fz 0=some (cond ((List.range q.1.toNat).any λv=> !Hf q.2.1 (v:Int)) (.inr false) (.inl ())):=by
 have e:q.1=(q.1.toNat:Int):=by omega
 refine E5 (λv=> !Hf q.2.1 (v:Int)) (by unfold lim;omega) (λk hk rec=>?_) (λrec=>by
  unfold Il
  rw[Ag (by omega:¬((q.1.toNat:Nat):Int) < q.1)];rfl)
 unfold Il
 rw[Ai (by omega:(k:Int) < q.1),vE h,wrap_in (by omega)]
 simp only[Ad,Ab]
 rfl
theorem zR{q:NQ}(h:US q):Au (Im q) fz 0=some (cond (B9 q.2.2 (MM q.1 q.2.2)) (.inr false) (.inl ())):=by
 unfold B9
 refine E5 (λk=>It q.2.2 k (MM q.1 q.2.2 k)) h.2.2 (λk hk rec=>?_) (λrec=>by unfold Im;rw[Bm];rfl)
 unfold Im
 rw[Br hk,Bd hk,BG hk (Bq h.2.2),Cu hk]
 simp only[Ad,Ab,L7]
 rw[AX (by omega),XN]
 simp only[eF (l:=q.2.2.take k) (by rw[AJ];have:=h.2.2;omega),YN,MM]
 cases FI q.2.2[k] 0 (wZ (q.1 - 1))<;>rfl
def II(q:NQ):Bool:=FI q.1 1 5&&(FI (q.2.1.length:Int) 1 4&&(!B9 q.2.2 (MM q.1 q.2.2)&&(!(B9 q.2.1 λ_ a=>Mn q.1 a)&& !((List.range q.1.toNat).any λv=> !Hf q.2.1 (v:Int)))))
theorem few:∀(n:Nat) (l:zI),l.Nodup->(∀e∈l,0<=e∧e < (n:Int))->l.length<=n
 |0,l,_,h=>by
  cases l with
  |nil=>simp
  |cons e l=>have:=h e (by simp);omega
 |n+1,l,hd,h=>by
  have h1:=few n (l.erase (n:Int)) (hd.erase _) (λe he=>by
   have h2:=h e (List.mem_of_mem_erase he)
   have h3:e≠(n:Int):=λq=>by subst q;exact(List.Nodup.not_mem_erase hd) he
   omega)
  have h2:=List.length_erase (a:=(n:Int)) (l:=l)
  split at h2<;>omega
theorem il{n:Int}(hn:1<=n∧n<=5){l:zI}(h:B9 l (MM n l)=false):(l.length:Int)<=n:=by
 have hw:wZ (n - 1)=n - 1:=wrap_in (by omega)
 have hin:∀e∈l,0<=e∧e < (n.toNat:Int):=by
  intro e he
  obtain⟨k,hk,rfl⟩:=Bf.1 he
  have:=IZ h hk
  unfold MM FI at this
  simp only[BF,Cx,Aa,AN,hw]at this
  omega
 have hd:l.Nodup:=by
  rw[DB,DM]
  intro i j hi hj hij he
  have:=IZ h hj
  unfold MM at this
  simp only[BF]at this
  have h2:=this.2
  have:(l.take j).contains l[j]=true:=by
   rw[AS,Bf]
   exact⟨i,by rw[AJ];omega,by rw[List.getElem_take];exact he⟩
  rw[this]at h2;cases h2
 have:=few n.toNat l hd hin
 omega
theorem Wk{q:NQ}(h:US q):EQ q=some (II q):=by
 unfold EQ II
 simp only[L7,Ab,qz h,zR h]
 cases hb:FI q.1 1 5 with
 |false=>rfl
 |true=>
  have hn:1<=q.1∧q.1<=5:=by unfold FI at hb;simpa using hb
  rw[qG h hn]
  cases FI (q.2.1.length:Int) 1 4 with
  |false=>rfl
  |true=>
   by_cases hl:q.1 < (q.2.2.length:Int)
   ·rw[Ai hl]
    have:B9 q.2.2 (MM q.1 q.2.2)=true:=by
     cases hs:B9 q.2.2 (MM q.1 q.2.2)with
     |true=>rfl
     |false=>have:=il hn hs;omega
    rw[this];rfl
   ·rw[Ag hl]
    cases B9 q.2.2 (MM q.1 q.2.2)<;>cases(B9 q.2.1 λ_ a=>Mn q.1 a)<;>cases((List.range q.1.toNat).any λv=> !Hf q.2.1 (v:Int))<;>rfl
def uL(m:Nat)(f:Nat->Bool):List Bool:=(List.range m).map f
theorem av(m:Nat)(f:Nat->Bool):(uL m f).length=m:=by simp[uL]
theorem vN{m v:Nat}(f:Nat->Bool):(uL m f).set v true=uL m (λu=>f u || u==v):=by
 apply CD
 ·simp[uL]
 ·intro i h1 h2
  rw[Ec]
  simp only[uL,Be,CV]
  split
  ·rename_i e;subst e;simp
  ·rename_i e
   have:(i==v)=false:=by simp;omega
   rw[this];simp
theorem pe{q:NQ}(h:US q)(hn:1<=q.1∧q.1<=5):Au (Gd q) fz (List.replicate (Int.toNat q.1) false,0)=some (cond (B9 q.2.1 λ_ a=>Mn q.1 a) (.inr false) (.inl (uL q.1.toNat λv=>Hf q.2.1 (v:Int)))):=by
 have hw:wZ (q.1 - 1)=q.1 - 1:=wrap_in (by omega)
 have h0:List.replicate (Int.toNat q.1) false=uL q.1.toNat λv=>Hf (q.2.1.take 0) (v:Int):=by
  unfold uL Hf
  simp[List.map_const']
 rw[h0]
 unfold B9
 have:=jV (B:=Gd q) (n:=q.2.1.length) (λk=>uL q.1.toNat λv=>Hf (q.2.1.take k) (v:Int)) (λk=>It q.2.1 k λa=>Mn q.1 a) h.1 (λk hk rec=>by
  have ha:=h.2.1 _ (Aj hk)
  unfold Gd
  simp only
  rw[Br hk,Bd hk,BG hk (Bq h.1),Cu hk]
  simp only[Ad,Ab,ld ha.1,FN,Mn]
  cases nmB q.2.1[k].1 with
  |false=>rfl
  |true=>
   cases FI (q.2.1[k].2.length:Int) 1 5 with
   |false=>rfl
   |true=>
    simp only[An,Ae,BZ]
    have hin:=jV (B:=H9 q q.2.1[k]) (n:=q.2.1[k].2.length) (λj=>uL q.1.toNat λv=>Hf (q.2.1.take k) (v:Int) || (q.2.1[k].2.take j).contains (v:Int)) (λj=>It q.2.1[k].2 j λv=> !FI v 0 (wZ (q.1 - 1))) ha.2 (λj hj rec=>by
     unfold H9
     simp only
     rw[Br hj,Bd hj,BG hj (Bq ha.2),Cu hj]
     simp only[Ad,Ab,FN]
     cases hb:FI q.2.1[k].2[j] 0 (wZ (q.1 - 1))with
     |false=>rfl
     |true=>
      have hv:0<=q.2.1[k].2[j]∧q.2.1[k].2[j]<=q.1 - 1:=by rw[hw]at hb;unfold FI at hb;simpa using hb
      have hvn:q.2.1[k].2[j]=((q.2.1[k].2[j].toNat:Nat):Int):=by omega
      simp only[An,Ae]
      rw[hvn,Bd (by rw[av];omega)]
      simp only
      congr 2
      unfold DJ
      rw[AL,vN _]
      congr 1
      funext u
      rw[A5 hj,List.contains_append,Bool.or_assoc]
      congr 1
      congr 1
      rw[hvn]
      simp only[List.contains_cons,List.contains_nil,Mr]
      rw[B5]
      simp
      omega) (λrec=>by unfold H9;simp only;rw[Bm];rfl)
    have e0:(uL q.1.toNat λv=>Hf (q.2.1.take k) (v:Int) || (q.2.1[k].2.take 0).contains (v:Int))=uL q.1.toNat λv=>Hf (q.2.1.take k) (v:Int):=by
     unfold uL;simp
    have e1:(uL q.1.toNat λv=>Hf (q.2.1.take k) (v:Int) || (q.2.1[k].2.take q.2.1[k].2.length).contains (v:Int))=uL q.1.toNat λv=>Hf (q.2.1.take (k+1)) (v:Int):=by
     congr 1
     funext v
     unfold Hf
     rw[BT,A5 hk,List.any_append];simp
    simp only[e0,e1]at hin
    rw[hin]
    unfold B9
    cases(List.range q.2.1[k].2.length).any λj=>It q.2.1[k].2 j λv=> !FI v 0 (wZ (q.1 - 1))<;>rfl) (λrec=>by unfold Gd;simp only;rw[Bm];rfl)
 rw[BT]at this
 exact this
theorem Wc{q:NQ}(h:US q):Fw q=some (II q):=by
 unfold Fw II
 simp only[FN,Ab,xh h.2.2]
 cases hb:FI q.1 1 5 with
 |false=>rfl
 |true=>
  have hn:1<=q.1∧q.1<=5:=by unfold FI at hb;simpa using hb
  cases FI (q.2.1.length:Int) 1 4 with
  |false=>rfl
  |true=>
   cases B9 q.2.2 (MM q.1 q.2.2)with
   |true=>rfl
   |false=>
    simp only[An,CJ,Ae,AD]
    rw[AX (by unfold lim;omega),pe h hn]
    cases(B9 q.2.1 λ_ a=>Mn q.1 a)with
    |true=>rfl
    |false=>
     simp only[Ae,CJ,AD]
     rw[E5 (n:=(uL q.1.toNat λv=>Hf q.2.1 (v:Int)).length) (λk=> !Hf q.2.1 (k:Int)) (by rw[av];unfold lim;omega) (λk hk rec=>by
      unfold KU
      rw[Br hk,Bd hk,BG hk (by rw[av];unfold maxLen;omega)]
      simp only[Ad,Ab,uL,Be,CV]) (λrec=>by unfold KU;rw[Bm];rfl),av]
     cases(List.range q.1.toNat).any λv=> !Hf q.2.1 (v:Int)<;>rfl
theorem Mw{α:Type}{l:List α}{f:α->Bool}(h:B9 l (λ_ e=>f e)=false){a:α}(ha:a∈l):f a=false:=by
 obtain⟨k,hk,rfl⟩:=Bf.1 ha
 exact IZ h hk
theorem MU{q:NQ}(h:II q=true):1<=q.1∧q.1<=5∧q.2.1.length<=4∧∀a∈q.2.1,1<=a.2.length∧a.2.length<=5∧∀v∈a.2,0<=v∧v < q.1:=by
 unfold II at h
 simp only[Aa,Ax]at h
 obtain⟨h1,h2,-,h4,-⟩:=h
 have e1:1<=q.1∧q.1<=5:=by unfold FI at h1;simpa using h1
 have e2:1<=(q.2.1.length:Int)∧(q.2.1.length:Int)<=4:=by unfold FI at h2;simpa using h2
 refine⟨e1.1,e1.2,by omega,λa ha=>?_⟩
 have h5:=Mw h4 ha
 unfold Mn at h5
 simp only[BF,Cx]at h5
 have e3:1<=(a.2.length:Int)∧(a.2.length:Int)<=5:=by have:=h5.2.1;unfold FI at this;simpa using this
 refine⟨by omega,by omega,λv hv=>?_⟩
 have h6:=Mw h5.2.2 hv
 simp only[Cx]at h6
 rw[wrap_in (by omega)]at h6
 have:0<=v∧v<=q.1 - 1:=by unfold FI at h6;simpa using h6
 omega
theorem Kg{α:Type}{l:List α}{f:Nat->α->Bool}(h:∀i (hi:i < l.length),f i l[i]=false):B9 l f=false:=by
 unfold B9
 rw[Bx]
 intro k hk
 have hk:=Ao.1 hk
 rw[Cu hk,h k hk]
 simp
def Lr(d:List Jt)(a:PG):Bool:=(Fe d a.1).2&&((Fe d a.1).1.1==(a.2.length:Int))
def Rq(d:List Jt)(q:NQ):Bool:=II q&&(SV d&& !B9 q.2.1 λ_ a=> !Lr d a)
theorem m9{d:List Jt}{q:NQ}(h:R5 d)(hq:US q):J9 d q=some (Rq d q):=by
 unfold J9 Rq B9
 rw[E5 (λk=>It q.2.1 k λa=> !Lr d a) hq.1 (λk hk rec=>by
  unfold MN
  rw[Br hk,Bd hk,BG hk (Bq hq.1),Cu hk]
  simp only[Ad,Ab,Z8 h,Lr]
  cases(Fe d q.2.1[k].1).2 with
  |false=>rfl
  |true=>
   simp only[An,Ae,AD,bne]) (λrec=>by unfold MN;rw[Bm];rfl)]
 simp only[Wk hq,mZ h,Ab,JR]
 cases(List.range q.2.1.length).any λk=>It q.2.1 k λa=> !Lr d a<;>cases II q<;>cases SV d<;>rfl
theorem Ck{α β:Type}(a:α)(f:α->Option β):Ab (some a) f=f a:=rfl
abbrev Rt:=Int×Int
theorem wW{B:(Int×Int->Option Int)->Int×Int->Option Int}(hB:∀rec a b,B rec (a,b)=cond (b !=0) (chk (b≠0) (rec (b,Int.tmod a b))) (some a)):
  ∀(k f m n:Nat),n < 2 ^ k->2 * k < f->Au B f ((m:Int),(n:Int))=some ((Nat.gcd m n:Nat):Int):=by
 have hz:∀(f m:Nat),0 < f->Au B f ((m:Int),((0:Nat):Int))=some ((Nat.gcd m 0:Nat):Int):=λf m hf=>by
  cases f with
  |zero=>omega
  |succ f=>rw[By,hB,Nat.gcd_zero_right];rfl
 have hs:∀(f m n:Nat),0 < n->Au B (f+1) ((m:Int),(n:Int))=Au B f ((n:Int),((m % n:Nat):Int)):=λf m n hn=>by
  rw[By,hB,show((n:Int)!=0)=true by rw[C9];omega,Ad,AX (by omega)]
  rfl
 have hg:∀m n:Nat,Nat.gcd m n=Nat.gcd n (m % n):=λm n=>by rw[Nat.gcd_comm m n,Nat.gcd_rec n m,Nat.gcd_comm]
 intro k
 induction k with
 |zero=>
  intro f m n hn hf
  obtain rfl:n=0:=by omega
  exact hz f m (by omega)
 |succ k ih=>
  intro f m n hn hf
  rcases Bv n with rfl|h0
  ·exact hz f m (by omega)
  ·obtain⟨f,rfl⟩:∃g,f=g+2:=⟨f - 2,by omega⟩
   rw[hs (f+1) m n h0,hg m n]
   rcases Bv (m % n)with h1|h1
   ·rw[h1];exact hz _ n (by omega)
   ·rw[hs f n (m % n) h1,hg n (m % n)]
    refine ih f _ _ ?_ (by omega)
    have h2:m % n < n:=Nat.mod_lt _ h0
    have h3:n % (m % n) < m % n:=Nat.mod_lt _ h1
    rw[CQ]at hn
    rcases A9 n (2 * (m % n))with h4|h4
    ·have h5:n % (m % n)=n - m % n:=by
      rw[Nat.mod_eq_sub_mod (by omega),Nat.mod_eq_of_lt (by omega)]
     omega
    ·omega
theorem m5(m n:Nat)(hn:n < 2 ^ 62):NN (m:Int) (n:Int)=some ((Nat.gcd m n:Nat):Int):=by
 unfold NN
 rw[wW (λrec a b=>by simp only[Ti]) 62 fz m n hn (by unfold fz;omega),Ck]
theorem kZ(m n:Nat)(hn:n < 2 ^ 62):Qu (m:Int) (n:Int)=some ((Nat.gcd m n:Nat):Int):=by
 unfold Qu
 rw[wW (λrec a b=>by simp only[VJ]) 62 fz m n hn (by unfold fz;omega),Ck]
def Ee(r:Rt):Bool:=FI r.2 1 1000000000&&(FI r.1 (-1000000000) 1000000000&&(((Nat.gcd r.1.natAbs r.2.natAbs:Nat):Int)==1))
theorem Y8{a:Int}(h:a.natAbs<=4000000000000000000):(if a < wZ (0 - a)then wZ (0 - a)else a)=(a.natAbs:Int):=by
 rw[wrap_in (by omega)]
 split<;>omega
theorem Fq{x lo hi:Int}:FI x lo hi=true↔lo<=x∧x<=hi:=by unfold FI;simp
theorem PW(r:Rt):Ci r=some (Ee r):=by
 unfold Ci Ee
 rw[L7,Ck]
 cases h2:FI r.2 1 1000000000 with
 |false=>rfl
 |true=>
  rw[Ad,L7,Ck]
  cases h1:FI r.1 (-1000000000) 1000000000 with
  |false=>rfl
  |true=>
   rw[Fq]at h1 h2
   rw[Ad,Y8 (by omega)]
   have e:r.2=(r.2.natAbs:Int):=by omega
   have hg:=m5 r.1.natAbs r.2.natAbs (by omega)
   rw[<-e]at hg
   rw[hg];rfl
theorem bH(r:Rt):D6 r=some (Ee r):=by
 unfold D6 Ee
 rw[FN,Ck]
 cases h2:FI r.2 1 1000000000 with
 |false=>rfl
 |true=>
  rw[Ad,FN,Ck]
  cases h1:FI r.1 (-1000000000) 1000000000 with
  |false=>rfl
  |true=>
   rw[Fq]at h1 h2
   rw[Ad]
   unfold RX
   rw[Y8 (by omega),Ck]
   have e:r.2=(r.2.natAbs:Int):=by omega
   have hg:=kZ r.1.natAbs r.2.natAbs (by omega)
   rw[<-e]at hg
   rw[hg];rfl
theorem Cd{r:Rt}(h:Ee r=true):1<=r.2∧r.2<=1000000000∧r.1.natAbs<=1000000000∧Nat.gcd r.1.natAbs r.2.natAbs=1:=by
 unfold Ee at h
 simp only[Aa,Fq,Bc]at h
 exact⟨h.1.1,h.1.2,by omega,by omega⟩
def UD(n d:Int):Rt×Bool:=
 cond (Ee (n.tdiv (Nat.gcd n.natAbs d.natAbs:Nat),d.tdiv (Nat.gcd n.natAbs d.natAbs:Nat))) ((n.tdiv (Nat.gcd n.natAbs d.natAbs:Nat),d.tdiv (Nat.gcd n.natAbs d.natAbs:Nat)),true) ((0,0),false)
def rNew(n d:Int):Rt×Bool:=
 cond (d==0) ((0,0),false) (cond (FI n (-4000000000000000000) 4000000000000000000) (cond (FI d (-4000000000000000000) 4000000000000000000) (cond (decide (d < 0)) (UD (-n) (-d)) (UD n d)) ((0,0),false)) ((0,0),false))
theorem Wn{n:Int}{g:Nat}(h:n.natAbs<=4000000000000000000):wZ (n.tdiv (g:Int))=n.tdiv (g:Int):=by
 have:=show(n.tdiv (g:Int)).natAbs=n.natAbs / (g:Int).natAbs from Int.natAbs_tdiv n (g:Int)
 have h2:n.natAbs / (g:Int).natAbs<=n.natAbs:=Nat.div_le_self _ _
 rw[<-this]at h2
 exact wrap_in (by omega)
theorem sF{n d:Int}(hn:n.natAbs<=4000000000000000000)(hd:0 < d∧d<=4000000000000000000):GW n d=some (UD n d):=by
 unfold GW UD
 have e:d=(d.natAbs:Int):=by omega
 have hg:=m5 n.natAbs d.natAbs (by omega)
 rw[<-e]at hg
 have hp:0 < Nat.gcd n.natAbs d.natAbs:=Hx _ (by omega)
 rw[Y8 hn,hg,Ck,AX (by omega),AX (by omega),Wn hn,Wn (by omega),PW,Ck]
 cases Ee (n.tdiv (Nat.gcd n.natAbs d.natAbs:Nat),d.tdiv (Nat.gcd n.natAbs d.natAbs:Nat))<;>rfl
theorem rQ{n d:Int}(hn:n.natAbs<=4000000000000000000)(hd:0 < d∧d<=4000000000000000000):GN n d=some (UD n d):=by
 unfold GN UD
 have e:d=(d.natAbs:Int):=by omega
 have hg:=kZ n.natAbs d.natAbs (by omega)
 rw[<-e]at hg
 have hp:0 < Nat.gcd n.natAbs d.natAbs:=Hx _ (by omega)
 unfold RX
 rw[Y8 hn,Ck,hg,Ck,AX (by omega),AX (by omega),Wn hn,Wn (by omega),bH,Ck]
 cases Ee (n.tdiv (Nat.gcd n.natAbs d.natAbs:Nat),d.tdiv (Nat.gcd n.natAbs d.natAbs:Nat))<;>rfl
theorem eG(n d:Int):Hk n d=some (rNew n d):=by
 unfold Hk rNew
 have e4:wZ (0 - 4000000000000000000)= -4000000000000000000:=by decide
 cases h0:d==0 with
 |true=>rfl
 |false=>
  rw[Cn]at h0
  rw[Ae,Ae,e4,L7,Ck]
  cases h1:FI n (-4000000000000000000) 4000000000000000000 with
  |false=>rfl
  |true=>
   rw[An,Ae,Ad,L7,Ck]
   cases h2:FI d (-4000000000000000000) 4000000000000000000 with
   |false=>rfl
   |true=>
    rw[Fq]at h1 h2
    rw[An,Ae,Ad]
    by_cases h:d < 0
    ·rw[Ai h,Ad,Ad,wrap_in (by omega),wrap_in (by omega),Hs,Hs]
     exact sF (by omega) (by omega)
    ·rw[Ag h,Ae,Ae]
     exact sF (by omega) (by omega)
theorem dK(n d:Int):Hg n d=some (rNew n d):=by
 unfold Hg rNew
 cases h0:d==0 with
 |true=>rfl
 |false=>
  rw[Cn]at h0
  rw[Ae,Ae,FN,Ck]
  cases h1:FI n (-4000000000000000000) 4000000000000000000 with
  |false=>rfl
  |true=>
   rw[An,Ae,Ad,FN,Ck]
   cases h2:FI d (-4000000000000000000) 4000000000000000000 with
   |false=>rfl
   |true=>
    rw[Fq]at h1 h2
    rw[An,Ae,Ad]
    by_cases h:d < 0
    ·rw[Ai h,Ad,Ad,wrap_in (by omega),wrap_in (by omega),Hs,Hs]
     exact rQ (by omega) (by omega)
    ·rw[Ag h,Ae,Ae]
     exact rQ (by omega) (by omega)
theorem nR{x y:Int}(hx:x.natAbs<=1000000000)(hy:y.natAbs<=1000000000):wZ (x * y)=x * y∧(x * y).natAbs<=1000000000000000000:=by
 have h:(x * y).natAbs<=1000000000 * 1000000000:=by rw[BQ];exact BC hx hy
 exact⟨wrap_in (by omega),by omega⟩
def Nj(a b:Rt):Rt×Bool:=cond (Ee a) (cond (Ee b) (rNew (a.1 * b.2+b.1 * a.2) (a.2 * b.2)) ((0,0),false)) ((0,0),false)
def D9(a b:Rt):Rt×Bool:=cond (Ee a) (cond (Ee b) (rNew (a.1 * b.1) (a.2 * b.2)) ((0,0),false)) ((0,0),false)
def Hj(a b:Rt):Rt×Bool:=cond (Ee a) (cond (Ee b) (rNew (a.1 * b.2) (a.2 * b.1)) ((0,0),false)) ((0,0),false)
def LA(a b:Rt):Rt×Bool:=cond (Ee b) (Nj a (-b.1,b.2)) ((0,0),false)
def Vr(a b:Rt):Int:=cond (Ee a) (cond (Ee b) (cond (decide (a.1 * b.2 < b.1 * a.2)) (-1) (cond (decide (b.1 * a.2 < a.1 * b.2)) 1 0)) 0) 0
theorem VQ{a b:Rt}(ha:Ee a=true)(hb:Ee b=true):wZ (a.1 * b.2)=a.1 * b.2∧wZ (b.1 * a.2)=b.1 * a.2∧wZ (a.2 * b.2)=a.2 * b.2∧wZ (a.1 * b.2+b.1 * a.2)=a.1 * b.2+b.1 * a.2∧wZ (a.1 * b.1)=a.1 * b.1∧wZ (a.2 * b.1)=a.2 * b.1:=by
 have fa:=Cd ha
 have fb:=Cd hb
 have h1:=nR (x:=a.1) (y:=b.2) (by omega) (by omega)
 have h2:=nR (x:=b.1) (y:=a.2) (by omega) (by omega)
 exact⟨h1.1,h2.1,(nR (by omega) (by omega)).1,wrap_in (by omega),(nR (by omega) (by omega)).1,(nR (by omega) (by omega)).1⟩
theorem ZI(a b:Rt):Hl a b=some (Ee a&&Ee b):=by
 unfold Hl
 rw[bH,Ck]
 cases Ee a with
 |false=>rfl
 |true=>rw[Ad,bH,Ck];rfl
theorem na(a b:Rt):Jg a b=some (Nj a b):=by
 unfold Jg Nj
 rw[PW,Ck]
 cases ha:Ee a with
 |false=>rfl
 |true=>
  rw[An,Ae,Ad,PW,Ck]
  cases hb:Ee b with
  |false=>rfl
  |true=>
   obtain⟨e1,e2,e3,e4,e5,e6⟩:=VQ ha hb
   rw[An,Ae,Ad,e1,e2,e3,e4,eG];rfl
theorem dJ(a b:Rt):I2 a b=some (Nj a b):=by
 unfold I2 Nj
 rw[ZI,Ck]
 cases ha:Ee a with
 |false=>rfl
 |true=>
  cases hb:Ee b with
  |false=>rfl
  |true=>
   obtain⟨e1,e2,e3,e4,e5,e6⟩:=VQ ha hb
   rw[GL,An,Ae,Ad,Ad,e1,e2,e3,e4,dK];rfl
theorem ng(a b:Rt):Jm a b=some (D9 a b):=by
 unfold Jm D9
 rw[PW,Ck]
 cases ha:Ee a with
 |false=>rfl
 |true=>
  rw[An,Ae,Ad,PW,Ck]
  cases hb:Ee b with
  |false=>rfl
  |true=>
   obtain⟨e1,e2,e3,e4,e5,e6⟩:=VQ ha hb
   rw[An,Ae,Ad,e5,e3,eG];rfl
theorem lm(a b:Rt):I6 a b=some (D9 a b):=by
 unfold I6 D9
 rw[ZI,Ck]
 cases ha:Ee a with
 |false=>rfl
 |true=>
  cases hb:Ee b with
  |false=>rfl
  |true=>
   obtain⟨e1,e2,e3,e4,e5,e6⟩:=VQ ha hb
   rw[GL,An,Ae,Ad,Ad,e5,e3,dK];rfl
theorem nf(a b:Rt):Ji a b=some (Hj a b):=by
 unfold Ji Hj
 rw[PW,Ck]
 cases ha:Ee a with
 |false=>rfl
 |true=>
  rw[An,Ae,Ad,PW,Ck]
  cases hb:Ee b with
  |false=>rfl
  |true=>
   obtain⟨e1,e2,e3,e4,e5,e6⟩:=VQ ha hb
   rw[An,Ae,Ad,e1,e6,eG];rfl
theorem lj(a b:Rt):I3 a b=some (Hj a b):=by
 unfold I3 Hj
 rw[ZI,Ck]
 cases ha:Ee a with
 |false=>rfl
 |true=>
  cases hb:Ee b with
  |false=>rfl
  |true=>
   obtain⟨e1,e2,e3,e4,e5,e6⟩:=VQ ha hb
   rw[GL,An,Ae,Ad,Ad]
   cases h0:b.1==0 with
   |true=>rw[Bc]at h0;rw[h0,Int.mul_zero];rfl
   |false=>rw[Ae,e1,e6,dK];rfl
theorem qw{b:Rt}(hb:b.1.natAbs<=4000000000000000000):Ee (-b.1,b.2)=Ee b:=by
 unfold Ee
 have e:FI (-b.1) (-1000000000) 1000000000=FI b.1 (-1000000000) 1000000000:=by
  rw[B5,Fq,Fq];omega
 simp only[Int.natAbs_neg,e]
theorem vw(a b:Rt):LG a b=some (LA a b):=by
 unfold LG LA
 rw[PW,Ck]
 cases hb:Ee b with
 |false=>rfl
 |true=>
  have fb:=Cd hb
  rw[An,Ae,Ad,wrap_in (by omega),Hs,na];rfl
theorem tR{a b:Rt}(hI: -9223372036854775808<=b.1∧b.1<=9223372036854775807):Lv a b=some (LA a b):=by
 unfold Lv LA
 cases hb:Ee b with
 |false=>
  have hb':Ee (wZ (0 - b.1),b.2)=false:=by
   by_cases e:b.1= -9223372036854775808
   ·rw[e]
    cases h:Ee (wZ (0 - -9223372036854775808),b.2)with
    |false=>rfl
    |true=>
     have f:=(Cd h).2.2.1
     rw[show wZ (0 - -9223372036854775808)= -9223372036854775808 by decide]at f
     exact absurd f (show ¬((-9223372036854775808:Int).natAbs<=1000000000)by decide)
   ·rw[wrap_in (by omega),Hs]
    by_cases hm:b.1.natAbs<=4000000000000000000
    ·rw[qw hm];exact hb
    ·cases h:Ee (-b.1,b.2)with
     |false=>rfl
     |true=>
      have f:=(Cd h).2.2.1
      simp only at f
      omega
  rw[dJ]
  unfold Nj
  cases Ee a with
  |false=>rfl
  |true=>rw[Ad,hb'];rfl
 |true=>
  have fb:=Cd hb
  rw[Ad,wrap_in (by omega),Hs,dJ];rfl
theorem ne(a b:Rt):FT a b=some (Vr a b):=by
 unfold FT Vr
 rw[PW,Ck]
 cases ha:Ee a with
 |false=>rfl
 |true=>
  rw[An,Ae,Ad,PW,Ck]
  cases hb:Ee b with
  |false=>rfl
  |true=>
   obtain⟨e1,e2,e3,e4,e5,e6⟩:=VQ ha hb
   rw[An,Ae,Ad,e1,e2]
   cases decide (a.1 * b.2 < b.1 * a.2)<;>cases decide (b.1 * a.2 < a.1 * b.2)<;>rfl
theorem tP(a b:Rt):HG a b=some (Vr a b):=by
 unfold HG Vr
 rw[ZI,Ck]
 cases ha:Ee a with
 |false=>rfl
 |true=>
  cases hb:Ee b with
  |false=>rfl
  |true=>
   obtain⟨e1,e2,e3,e4,e5,e6⟩:=VQ ha hb
   rw[GL,An,Ae,Ad,Ad,e1,e2,Ve,Ck]
   by_cases h1:a.1 * b.2 < b.1 * a.2
   ·rw[Av h1,Ai h1];rfl
   ·rw[At h1,Ag h1]
    by_cases h2:b.1 * a.2 < a.1 * b.2
    ·rw[Av h2,Ai h2];rfl
    ·rw[At h2,Ag h2];rfl
end
end Go.Proofs.YthghcmmlmfgkbaaGreatDoor
