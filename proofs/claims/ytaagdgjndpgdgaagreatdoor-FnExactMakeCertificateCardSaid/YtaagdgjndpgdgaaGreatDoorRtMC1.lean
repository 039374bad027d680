/-
  Functions of the program as typed functions, printed by gen.py, and that the program's functions do what they say. No conditions.
-/
import Derived.Test.YtaagdgjndpgdgaaGreatDoorGSdMC1
import Derived.Test.YtaagdgjndpgdgaaGreatDoorKb
open Go.RowKit
set_option linter.unusedVariables false
set_option linter.unusedSimpArgs false
namespace Go.Proofs.YtaagdgjndpgdgaaGreatDoor
set_option maxRecDepth 100000
set_option maxHeartbeats 1000000
def J2(a:DY)(b:List Int)(c:Int->Option (Int))(d:Int):Option (Int):=cond (decide (d < (List.length a.2:Int))) (G (AI a.2 d) λe=>chk ((0:Int)<=0∧0<=(List.length b:Int)∧(List.length b:Int)<=(List.length e:Int)) (G (Gn (CC e 0 (List.length b:Int)) b) λf=>cond (decide (f < 0)) (c (IntKind.i64.wrap (d+1))) (some d))) (some d)
def J3(a:DY)(b:List Int)(c:Int->Option (Int))(d:Int):Option (Int):=cond (decide (d < (List.length a.2:Int))) (G (AI a.2 d) λe=>chk ((0:Int)<=0∧0<=(List.length b:Int)∧(List.length b:Int)<=(List.length e:Int)) (G (Gn (CC e 0 (List.length b:Int)) b) λf=>cond (f==0) (c (IntKind.i64.wrap (d+1))) (some d))) (some d)
def GM(a:DY)(b:List Int):Option (Int×Int):=cond (decide (a.1 < (List.length b:Int))) (some (0,0)) (G (JY a) λc=>cond (!c) (some (0,0)) (G (An (J2 a b) fz 0) λd=>G (An (J3 a b) fz d) λe=>some (d,e)))
theorem ST{a:DY}{b:List Int}{c:Int×Int}(h:GM a b=some c):Aw Tryz.prog 251 [.agg (DS a),dL Am b] (.tup [nI c.1,nI c.2]):=st zV E (rn 2 E (Cr λd=>rs (sp 5 E (D6 h (λe h=>qg 15 e E (AM 4 E (qT E E (rn 1 E (sj h ▸ Ae rZ))))) λe h=>qg 15 e E (sp 1 E (AV h λf g h=>EN E E (qC (qa E (CZ (Br E (Br (BN Dd _) E))) AP) (QS g) (AM 2 E (BA h E (λh=>rn 1 E (sj h ▸ Ae rZ)) λh=>BI d (qk [1,2,6] E (rn 1 E (Ap λi j=>DX h λk l m=>have n:∀{o:Int},o=k->Jn i [(1,dL Am b),(2,.box [nI a.1,dL B4 a.2]),(6,nI (List.length b:Int)),(7,nI o)]:=@λo h _ p=>have h:=m h;j _ (lh p E (rn 1 E (Ap λq r=>DX h λs l t=>have u:∀{v:Int},v=s->Jn q [(7,nI o),(8,nI v)]:=@λv h _ p=>have h:=t h;r _ (lh p E (rn 1 E (sj h ▸ Ae rZ)));(A1 (λ(w:Int)=>[(1,dL Am b),(2,.box [nI a.1,dL B4 a.2]),(6,nI (List.length b:Int)),(7,nI o),(8,nI w)]) _ _ _ _ l (A5 E) (λ_=>E) (λx w y h z=>Cr λA=>rs (sp 6 E (D6 h (λB h=>qg 45 B E (sp 3 E (AV h λC D h=>EN E E (qI E CN D (sp 2 E (Ex h λF h=>EN E E (bk E AY F (sp 1 E (AV h λH I h=>EN E E (qC (qa E (BN AU _) (qa E (BN AU _) AP)) (Kx I) (AM 2 E (BA h E (λh=>BI A (AX (rg (AM 3 E (z _ _ h (A5 E)))))) λh=>Ay (u (sj h) _ (A5 E)))))))))))))) λB h=>qg 45 B E (AM 11 E (qk [1,2,6,7,8,56] E (qF E E (Ay (u (sj h) _ (A5 E)))))))))))));(A1 (λ(J:Int)=>[(1,dL Am b),(2,.box [nI a.1,dL B4 a.2]),(6,nI (List.length b:Int)),(7,nI J)]) _ _ _ _ l (A5 E) (λ_=>E) (λx J y h z=>Cr λK=>rs (sp 6 E (D6 h (λL h=>qg 25 L E (sp 3 E (AV h λM N h=>EN E E (qI E CN N (sp 2 E (Ex h λO h=>EN E E (bk E AY O (sp 1 E (AV h λP Q h=>EN E E (qC (qa E (BN AU _) (qa E (BN AU _) AP)) (Kx Q) (AM 2 E (BA h E (λh=>BI K (AX (rg (AM 3 E (z _ _ h (A5 E)))))) λh=>Ay (n (sj h) _ (A5 E)))))))))))))) λL h=>qg 25 L E (AM 11 E (qk [1,2,6,7,36] E (qF E E (Ay (n (sj h) _ (A5 E))))))))))))))))))))))
def GL(a:((List Int)×Int)->Option ((List Int)))(b:Int)(c:List Int):Option ((List Int)):=a (c,(IntKind.i64.wrap (b+1)))
def FB(a:((List Int)×Int)->Option ((List Int)))(b:List Int)(c:List Int)(d:Int)(e:List Int)(f:Bool):Option ((List Int)):=cond f (G (AI e (List.length b:Int)) λg=>chk (List.length c+List.length [g]<=lim) (GL a d (c++[g]))) (GL a d c)
def FA(a:DY)(b:List Int)(c:Int×Int)(d:((List Int)×Int)->Option ((List Int)))(e:(List Int)×Int):Option ((List Int)):=match e with
  |(f,g)=>cond (decide (g < (List.length (CC a.2 c.1 c.2):Int))) (G (AI (CC a.2 c.1 c.2) g) λi=>cond ((List.length f:Int)==0) (FB d b f g i true) (G (AI f (IntKind.i64.wrap ((List.length f:Int) - 1))) λj=>G (AI i (List.length b:Int)) λk=>FB d b f g i (j !=k))) (some f)
def He(a:DY)(b:List Int):Option ((List Int)):=cond (decide (a.1<=(List.length b:Int))) (some ([]:List Int)) (G (JY a) λc=>cond (!c) (some ([]:List Int)) (G (GM a b) λd=>chk ((0:Int)<=d.1∧d.1<=d.2∧d.2<=(List.length a.2:Int)) (G (An (FA a b d) fz (([]:List Int),0)) λe=>some e)))
theorem Vh{a:DY}{b:List Int}{c:(List Int)}(h:He a b=some c):Aw Tryz.prog 228 [.agg (DS a),dL Am b] (oL 3 Am c):=st zx E (rn 2 E (Cr λd=>rs (sp 5 E (D6 h (λe h=>qg 17 e E (AM 4 E (qT E E (rn 1 E (sj h ▸ Ae rZ))))) λe h=>qg 17 e E (sp 1 E (AV h λf g h=>EN E E (qC (qa E (CZ (Br E (Br (BN Dd _) E))) AP) (QS g) (AM 2 E (BA h E (λh=>rn 1 E (sj h ▸ Ae rZ)) λh=>BI d (qk [1,2,5] E (rn 1 E (rs (sp 2 E (AV h λi j h=>qC (qa E (CZ (Br E (Br (BN Dd _) E))) (qa E (BN AU _) AP)) (ST j) (AM 5 E (Ap λk l=>rs (sp 4 E (Ex h λm h=>bk E CN m (AM 2 E (DX h λn o p=>have q:∀{r:List Int},r=n->Jn k [(6,oL 3 Am r)]:=@λr h _ s=>have h:=p h;l _ (lh s E (rn 1 E (sj h ▸ Ae rZ)));(A1 (λ(t:(List Int)×Int)=>match t with|(u,v)=>[(5,nI (List.length b:Int)),(6,oL 3 Am u),(32,dL B4 (CC a.2 i.1 i.2)),(33,nI (List.length (CC a.2 i.1 i.2):Int)),(34,nI v)]) _ _ _ _ o (A5 E) (λ_=>E) (λw=>JD λu v x h y=>rn 1 E (Cr λz=>BA h E (λh=>BI z (Ap λA B=>AX (rs (AV h λC D h=>qI E CN D (AM 2 E (rdk (by kernel_rfl) λF H=>have I:∀{J:Bool},FB (An (FA a b i) w) b u v C J=some n->Jn F [(5,nI (List.length b:Int)),(6,oL 3 Am u),(10,dL Am C),(32,dL B4 (CC a.2 i.1 i.2)),(33,nI (List.length (CC a.2 i.1 i.2):Int)),(34,nI v),(53,.bool J)]:=@λJ h _ s=>H _ (lh s E (have K:∀{L:List Int},GL (An (FA a b i) w) v L=some n->Jn A [(5,nI (List.length b:Int)),(6,oL 3 Am L),(32,dL B4 (CC a.2 i.1 i.2)),(33,nI (List.length (CC a.2 i.1 i.2):Int)),(34,nI v)]:=@λL h _ s=>B _ (lh s E (rg (AM 2 E (y _ _ h (A5 E)))));(BA h E (λh=>rg (sp 3 E (AV h λM N h=>qI E AY N (sp 1 E (E6 Am [M] E E E AY (Ex h λO h=>qA Am u [M] E E (Bf AY [M]) E O (AM 1 E (K h _ (A5 E))))))))) λh=>Ev (K h _ (A5 E)))));(sd 4 E (D6 h (λP h=>NE 41 P E (sd 12 E (CP (I h _ (A5 E))))) λP h=>NE 41 P E (sd 4 E (AV h λQ R h=>ed E (EN E E (qI E AY R (sd 3 E (AV h λS T h=>ed E (EN E E (qI E AY T (sd 3 E (CP (I h _ (A5 E)))))))))))))))))))) λh=>Ay (q (sj h) _ (A5 E)))))))))))))))))))))))))
def IZ(a:((List (List Int))×Int)->Option ((List (List Int))))(b:Int)(c:List (List Int)):Option ((List (List Int))):=a (c,(IntKind.i64.wrap (b+1)))
def I0(a:((List Int)×Int)->Option ((List Int)))(b:Int)(c:List Int):Option ((List Int)):=a (c,(IntKind.i64.wrap (b+1)))
def Hh(a:List Int)(b:List Int)(c:Dn)(d:((List Int)×Int)->Option ((List Int)))(e:(List Int)×Int):Option ((List Int)):=match e with
  |(f,g)=>cond (decide (g < (List.length b:Int))) (G (AI b g) λi=>G (AI a g) λj=>G (DZ c j) λk=>cond k (chk (List.length f+List.length [i]<=lim) (I0 d g (f++[i]))) (I0 d g f)) (some f)
def Hg(a:Hv)(b:List DY)(c:List Int)(d:List Int)(e:((List (List Int))×Int)->Option ((List (List Int))))(f:(List (List Int))×Int):Option ((List (List Int))):=match f with
  |(g,i)=>cond (decide (i < (List.length a.2.1:Int))) (G (AI a.2.1 i) λj=>G (AI c (List.length d:Int)) λk=>G (DZ j k) λl=>cond (!l) (IZ e i g) (G (An (Hh c d j) fz (([]:List Int),0)) λm=>G (AI b i) λn=>G (He n m) λo=>chk (List.length g+List.length [o]<=lim) (IZ e i (g++[o])))) (some g)
def N3(a:Hv)(b:List DY)(c:List Int)(d:List Int):Option ((List (List Int))):=G (An (Hg a b c d) fz (([]:List (List Int)),0)) λe=>some e
theorem XW{a:Hv}{b:List DY}{c:List Int}{d:List Int}{e:(List (List Int))}(h:N3 a b c d=some e):Aw Tryz.prog 181 [.agg (EA a),dL DS b,dL Am c,dL Am d] (oL 23 A2 e):=st yI E (rn 2 E (Ap λf g=>rn 1 E (DX h λi j k=>have l:∀{m:List (List Int)},m=i->Jn f [(9,oL 23 A2 m)]:=@λm h _ n=>have h:=k h;g _ (lh n E (rn 1 E (sj h ▸ Ae rZ)));(A1 (λ(o:(List (List Int))×Int)=>match o with|(p,q)=>[(1,dL DS b),(2,dL Am c),(3,dL Am d),(9,oL 23 A2 p),(16,dL Cu a.2.1),(17,nI (List.length a.2.1:Int)),(18,nI q)]) _ _ _ _ j (A5 E) (λ_=>E) (λr=>JD λp q s h t=>rn 1 E (Cr λu=>BA h E (λh=>BI u (Ap λv w=>have x:∀{y:List (List Int)},IZ (An (Hg a b c d) r) q y=some i->Jn v [(1,dL DS b),(2,dL Am c),(3,dL Am d),(9,oL 23 A2 y),(16,dL Cu a.2.1),(17,nI (List.length a.2.1:Int)),(18,nI q)]:=@λy h _ n=>w _ (lh n E (rg (AM 2 E (t _ _ h (A5 E)))));(AX (rs (sp 1 E (AV h λz A h=>qI E GC A (AM 4 E (Cr λB=>rd (by kernel_rfl) (sd 4 E (AV h λC D h=>ed E (qI E AY D (sd 1 E (AV h λF H h=>ed E (qC (qa E (CZ (Br E (Br (BN AU _) E))) (qs E AP)) (Hb H) (sd 1 E (CP (BA h E (λh=>Ay (x h _ (A5 E))) λh=>BI B (rn 1 E (Ap λI J=>rn 1 E (DX h λK j L=>have M:∀{N:List Int},N=K->Jn I [(1,dL DS b),(2,dL Am c),(3,dL Am d),(9,oL 23 A2 p),(10,nI q),(12,oL 3 Am N),(16,dL Cu a.2.1),(17,nI (List.length a.2.1:Int)),(18,nI q)]:=@λN h _ n=>have h:=L h;J _ (lh n E (rg (sp 3 E (AV h λO P h=>qI E Xg P (sp 2 E (AV h λQ R h=>qC (qa E (CZ (Br E (Br (BN Dd _) E))) (qa E (BN AU _) AP)) (Vh R) (E6 A2 [Q] E E E Dp (Ex h λS h=>qA A2 p [Q] E E (Bf Dp [Q]) E S (AM 1 E (x h _ (A5 E)))))))))));(A1 (λ(o:(List Int)×Int)=>match o with|(T,U)=>[(1,dL DS b),(2,dL Am c),(3,dL Am d),(9,oL 23 A2 p),(10,nI q),(11,.box [.str z.1,dL Am z.2]),(12,oL 3 Am T),(16,dL Cu a.2.1),(17,nI (List.length a.2.1:Int)),(18,nI q),(31,dL Am d),(32,nI (List.length d:Int)),(33,nI U)]) _ _ _ _ j (A5 E) (λ_=>E) (λr=>JD λT U s h t=>rn 1 E (Cr λV=>BA h E (λh=>BI V (Ap λW X=>AX (rs (sp 1 E (AV h λY Z h=>qI E AY Z (AM 3 E (rd (by kernel_rfl) (sd 3 E (AV h λe f h=>ed E (qI E AY f (sd 1 E (AV h λm g h=>ed E (qC (qa E (CZ (Br E (Br (BN AU _) E))) (qs E AP)) (Hb g) (CP (have k:∀{u:List Int},I0 (An (Hh c d z) r) U u=some K->Jn W [(1,dL DS b),(2,dL Am c),(3,dL Am d),(9,oL 23 A2 p),(10,nI q),(11,.box [.str z.1,dL Am z.2]),(12,oL 3 Am u),(16,dL Cu a.2.1),(17,nI (List.length a.2.1:Int)),(18,nI q),(31,dL Am d),(32,nI (List.length d:Int)),(33,nI U)]:=@λu h _ n=>X _ (lh n E (rg (AM 2 E (t _ _ h (A5 E)))));(BA h E (λh=>rg (sp 2 E (E6 Am [Y] E E E AY (Ex h λi h=>qA Am T [Y] E E (Bf AY [Y]) E i (AM 1 E (k h _ (A5 E))))))) λh=>Ev (k h _ (A5 E)))))))))))))))))) λh=>Ay (M (sj h) _ (A5 E))))))))))))))))))))))))) λh=>Ay (l (sj h) _ (A5 E))))))))
def DW(a:List Int)(b:(List Int)×Int)(c:((List (List Int))×Int)->Option ((List (List Int))))(d:(List (List Int))×Int):Option ((List (List Int))):=match d with
  |(e,f)=>cond (decide (f < (List.length b.1:Int))) (G (AI b.1 f) λg=>G (Gy a) λi=>chk (List.length i+List.length [g]<=lim) (chk (List.length e+List.length ([i++[g]])<=lim) (c ((e++([i++[g]])),(IntKind.i64.wrap (f+1)))))) (some e)
def DV(a:Hv)(b:List DY)(c:List Int)(d:List (List Int))(e:(Int×(List (List Int))×Int)->Option (Int×(List (List Int))))(f:Int×(List (List Int))×Int):Option (Int×(List (List Int))):=match f with
  |(g,i,j)=>cond (decide (j < (List.length d:Int))) (G (AI d j) λk=>G (N3 a b c k) λl=>G (HM l) λm=>G (An (DW k m) fz (i,0)) λn=>e ((IntKind.i64.wrap (g+m.2)),n,(IntKind.i64.wrap (j+1)))) (some (g,i))
def DU(a:Hv)(b:List DY)(c:List Int)(d:Int)(e:((List (List Int))×Int×Int)->Option ((List (List Int))×Int))(f:(List (List Int))×Int×Int):Option ((List (List Int))×Int):=match f with
  |(g,i,j)=>cond (decide (j < d)) (G (An (DV a b c g) fz (i,([]:List (List Int)),0)) λk=>(match k with
  |(l,m)=>(e (m,l,(IntKind.i64.wrap (j+1)))))) (some (g,i))
def Fl(a:Hv)(b:List DY)(c:List Int)(d:Int):Option ((List (List Int))×Int×Bool):=G (An (DU a b c d) fz (([[]]),0,0)) λe=>(match e with
  |(f,g)=>(some (f,g,decide ((List.length f:Int)<=4000))))
theorem O4{a:Hv}{b:List DY}{c:List Int}{d:Int}{e:(List (List Int))×Int×Bool}(h:Fl a b c d=some e):Aw Tryz.prog 121 [.agg (EA a),dL DS b,dL Am c,nI d,.fn 122] (.tup [oL 23 A2 e.1,nI e.2.1,.bool e.2.2]):=st xU E (rn 1 E (rs (E6 Am [] E E E AY (E6 A2 [[]] E E E Dp (AM 1 E (rn 1 E (Ap λf g=>rn 1 E (DX h λi j k=>have l:∀{m:List (List Int)}{n:Int},(m,n)=i->Jn f [(13,oL 23 A2 m),(14,nI n)]:=@λm n h _ o=>have h:=k h;g _ (lh o E (rn 1 E (sj h ▸ Ae rZ)));(A1 (λ(p:(List (List Int))×Int×Int)=>match p with|(q,r,s)=>[(1,dL DS b),(2,dL Am c),(3,nI d),(4,.fn 122),(5,.box [nI a.1,dL Cu a.2.1,dL Am a.2.2]),(13,oL 23 A2 q),(14,nI r),(15,nI s)]) _ _ _ _ j (A5 E) (λ_=>E) (λt=>pr3 λq r s u h v=>DN E λw=>BA h E (λh=>BI w (Cr λx=>AX (rn 1 E (Ap λy z=>rn 1 E (DX h λA j B=>have C:∀{D:Int}{F:List (List Int)},(D,F)=A->Jn y [(1,dL DS b),(2,dL Am c),(3,nI d),(4,.fn 122),(5,.box [nI a.1,dL Cu a.2.1,dL Am a.2.2]),(14,nI D),(15,nI s),(16,oL 23 A2 F)]:=@λD F h _ o=>have h:=B h;z _ (lh o E (rg (AM 2 E (x _ (rg (AM 3 E (v _ _ h (A5 E))))))));(A1 (λ(p:Int×(List (List Int))×Int)=>match p with|(H,I,J)=>[(1,dL DS b),(2,dL Am c),(3,nI d),(4,.fn 122),(5,.box [nI a.1,dL Cu a.2.1,dL Am a.2.2]),(14,nI H),(15,nI s),(16,oL 23 A2 I),(30,dL A2 q),(31,nI (List.length q:Int)),(32,nI J)]) _ _ _ _ j (A5 E) (λ_=>E) (λt=>pr3 λH I J u h v=>rn 1 E (Cr λK=>BA h E (λh=>BI K (Ap λL M=>AX (rs (AV h λN O h=>qI E Dp O (AM 2 E (rs (sp 5 E (AV h λP Q h=>qC (qa E (CZ (Br E (Br (BN DH _) (Br (BN AU _) E)))) (qa E (BN ab _) (qa E (BN AU _) (qa E (BN AU _) AP)))) (XW Q) (AV h λR S h=>qCt E (qa E (Tr OY _) AP) (RV S) (AM 5 E (rn 2 E (DX h λT j U=>have V:∀{W:List (List Int)},W=T->Jn L [(1,dL DS b),(2,dL Am c),(3,nI d),(4,.fn 122),(5,.box [nI a.1,dL Cu a.2.1,dL Am a.2.2]),(14,nI (IntKind.i64.wrap (H+R.2))),(15,nI s),(16,oL 23 A2 W),(30,dL A2 q),(31,nI (List.length q:Int)),(32,nI J)]:=@λW h _ o=>have h:=U h;M _ (lh o E (rg (AM 2 E (v _ _ h (A5 E)))));(A1 (λ(p:(List (List Int))×Int)=>match p with|(X,Y)=>[(1,dL DS b),(2,dL Am c),(3,nI d),(4,.fn 122),(5,.box [nI a.1,dL Cu a.2.1,dL Am a.2.2]),(14,nI (IntKind.i64.wrap (H+R.2))),(15,nI s),(16,oL 23 A2 X),(18,dL Am N),(30,dL A2 q),(31,nI (List.length q:Int)),(32,nI J),(49,dL Am R.1),(50,nI (List.length R.1:Int)),(51,nI Y)]) _ _ _ _ j (A5 E) (λ_=>E) (λt=>JD λX Y u h v=>rn 1 E (Cr λZ=>BA h E (λh=>BI Z (Cr λe=>AX (rs (AV h λf i h=>qI E AY i (AM 2 E (rg (sp 2 E (AV h λm n h=>qC (qa E (BN AU _) AP) (M3 n) (sp 1 E (E6 Am [f] E E E AY (Ex h λg h=>qA Am m [f] E E (Bf AY [f]) E g (E6 A2 [m++[f]] E E E Dp (Ex h λk h=>qA A2 X ([m++[f]]) E E (Bf Dp ([m++[f]])) E k (AM 1 E (e _ (rg (AM 2 E (v _ _ h (A5 E))))))))))))))))))) λh=>Ay (V (sj h) _ (A5 E))))))))))))))))) λh=>Ay (C (sj h) _ (A5 E)))))))))) λh=>Ay (l (sj h) _ (A5 E))))))))))))
def Ll(a:List Di)(b:Hv)(c:List Int):Option (DY×Int×Bool):=G (MY a b c) λd=>cond (!d.2) (some ((0,[]),0,false)) (G (N4 d.1) λe=>cond e (some ((b.1,[]),0,true)) (G (Fl b d.1 c b.1) λf=>cond (!f.2.2) (some ((0,[]),0,false)) (some ((b.1,f.1),f.2.1,true))))
theorem Vg{a:List Di}{b:Hv}{c:List Int}{d:DY×Int×Bool}(h:Ll a b c=some d):Aw Tryz.prog 57 [.agg [dL C6 a],.agg (EA b),dL Am c] (.tup [.agg (Ng d.1),nI d.2.1,.bool d.2.2]):=st AcV E (rn 1 E (rs (sp 3 E (AV h λe f h=>qC (qa E (CZ (Br (BN EB _) E)) (qa E (CZ (Br E (Br (BN DH _) (Br (BN AU _) E)))) (qa E (BN AU _) AP))) (Wr f) (AM 5 E (DN E λg=>BA h E (λh=>rn 1 E (sj h ▸ Ae rZ)) λh=>BI g (Cr λi=>rs (sp 1 E (AV h λj k h=>qC (qa E (BN Wj _) AP) (XY k) (Ts (BA h E (λh=>rn 1 E (qk [6,7,8] E (sj h ▸ Ae rZ))) λh=>BI i (rs (sp 5 E (AV h λl m h=>qC (qa E (CZ (Br E (Br (BN DH _) (Br (BN AU _) E)))) (qa E (BN Wj _) (qa E (BN AU _) (qs E (qs E AP))))) (O4 m) (AM 7 E (DN E λn=>BA h E (λh=>rn 1 E (sj h ▸ Ae rZ)) λh=>BI n (rn 1 E (sj h ▸ Ae rZ))))))))))))))))))
def Fx(a:List Di)(b:Hv)(c:List Int):Option (Xh×Bool):=G (NQ a b) λd=>G (NS b d.1) λe=>G (Ll a b c) λf=>cond (!d.2) (some (([],[],[],0,0),false)) (cond (!e.2) (some (([],[],[],0,0),false)) (cond (!f.2.2) (some (([],[],[],0,0),false)) (G (Gy c) λg=>some ((g,e.1,d.1,(List.length f.1.2:Int),f.2.1),true))))
theorem NW{a:List Di}{b:Hv}{c:List Int}{d:Xh×Bool}(h:Fx a b c=some d):Aw Tryz.prog 20 [.agg [dL C6 a],.agg (EA b),dL Am c] (.tup [.agg (Gj d.1),.bool d.2]):=st AcB E (rn 1 E (rs (sp 2 E (AV h λe f h=>qC (qa E (CZ (Br (BN EB _) E)) (qa E (CZ (Br E (Br (BN DH _) (Br (BN AU _) E)))) AP)) (XM f) (AM 5 E (rs (sp 2 E (AV h λg i h=>qC (qa E (CZ (Br E (Br (BN DH _) (Br (BN AU _) E)))) (qa E (BN AU _) AP)) (XN i) (AM 5 E (rs (sp 3 E (AV h λj k h=>qC (qa E (CZ (Br (BN EB _) E)) (qa E (CZ (Br E (Br (BN DH _) (Br (BN AU _) E)))) (qa E (BN AU _) AP))) (Vg k) (AM 8 E (Cr λl=>rs (sp 3 E (D6 h (λm h=>qg 37 m E (AM 7 E (qk [2,6,8,10,12,13,44] E (qT E E (rn 1 E (sj h ▸ Ae rZ)))))) λm h=>qg 37 m E (sp 4 E (D6 h (λn h=>qg 41 n E (AM 3 E (qT E E (rn 1 E (sj h ▸ Ae rZ))))) λn h=>qg 41 n E (AM 3 E (BA h E (λh=>rn 1 E (sj h ▸ Ae rZ)) λh=>BI l (rd (by kernel_rfl) (sd 1 E (AV h λo p h=>ed E (qC (qa E (BN AU _) AP) (M3 p) (sd 9 E (CP (qk [6,7] E (sj h ▸ Ae rZ))))))))))))))))))))))))))))
def KO(a:Bc)(b:Bc):Option (Bool):=cond (a.1 !=b.1) (some false) (cond (a.2 !=b.2) (some false) (some true))
theorem WA{a:Bc}{b:Bc}{c:Bool}(h:KO a b=some c):Aw Tryz.prog 123 [.agg (AS a),.agg (AS b)] (.bool c):=st xW E (rn 1 E (DN E λd=>BA h E (λh=>rn 1 E (sj h ▸ Ae rZ)) λh=>BI d (DN E λe=>BA h E (λh=>rn 1 E (sj h ▸ Ae rZ)) λh=>BI e (rn 1 E (qk [4] E (sj h ▸ Ae rZ))))))
def Qa(a:List Bc)(b:List Bc)(c:Int->Option (Sum (Unit) (Bool)))(d:Int):Option (Sum (Unit) (Bool)):=cond (decide (d < (List.length a:Int))) (G (AI a d) λe=>G (AI b d) λf=>G (KO e f) λg=>cond (!g) (some (.inr false)) (c (IntKind.i64.wrap (d+1)))) (some (.inl ()))
def Mg(a:List Bc)(b:List Bc):Option (Bool):=cond ((List.length a:Int)!=(List.length b:Int)) (some false) (G (An (Qa a b) fz 0) λc=>(match c with
  |.inl _=>(some true)
  |.inr d=>some d))
theorem VV{a:List Bc}{b:List Bc}{c:Bool}(h:Mg a b=some c):Aw Tryz.prog 59 [dL AS a,dL AS b] (.bool c):=st AcX E (rn 1 E (DN E λd=>BA h E (λh=>rn 1 E (sj h ▸ Ae rZ)) λh=>BI d (Ap λe f=>rn 1 E (DX h λg i j=>have k:(.inl ())=g->Jn e []:=λh _ l=>have h:=j h;f _ (lh l E (rn 1 E (sj h ▸ Ae rZ)));(A1 (λ(m:Int)=>[(0,dL AS a),(1,dL AS b),(5,nI m)]) _ _ _ _ i (A5 E) (λ_=>E) (λn m o h p=>DN E λq=>BA h E (λh=>BI q (Cr λr=>AX (rd (by kernel_rfl) (sd 2 E (AV h λs t h=>ed E (qI E B9 t (sd 3 E (AV h λu v h=>ed E (qI E B9 v (sd 1 E (AV h λw x h=>ed E (qC (qa E (CZ (Br E (Br E E))) (qa E (CZ (Br E (Br E E))) AP)) (WA x) (sd 1 E (CP (BA h E (λh=>rn 1 E (sj (j (sj h)) ▸ Ae rZ)) λh=>BI r (rg (AM 3 E (p _ _ h (A5 E))))))))))))))))))) λh=>Ay (k (sj h) _ trivial)))))))
def Gq(a:Xh)(b:Xh):Option (Bool):=G (HZ a.1 b.1) λc=>cond (!c) (some false) (G (Mg a.2.1 b.2.1) λd=>cond (!d) (some false) (G (HZ a.2.2.1 b.2.2.1) λe=>cond (!e) (some false) (cond (a.2.2.2.1 !=b.2.2.2.1) (some false) (cond (a.2.2.2.2 !=b.2.2.2.2) (some false) (some true)))))
theorem LQ{a:Xh}{b:Xh}{c:Bool}(h:Gq a b=some c):Aw Tryz.prog 21 [.agg (dI a),.agg (dI b)] (.bool c):=st AcC E (rn 1 E (Cr λd=>rs (sp 4 E (AV h λe f h=>qC (qa E (BN AU _) (qa E (BN AU _) AP)) (K1 f) (AM 1 E (BA h E (λh=>rn 1 E (sj h ▸ Ae rZ)) λh=>BI d (Cr λg=>rs (sp 4 E (AV h λi j h=>qC (qa E (BN C9 _) (qa E (BN C9 _) AP)) (VV j) (AM 1 E (BA h E (λh=>rn 1 E (sj h ▸ Ae rZ)) λh=>BI g (qk [2,3] E (Cr λk=>rs (sp 4 E (AV h λl m h=>qC (qa E (BN AU _) (qa E (BN AU _) AP)) (K1 m) (AM 1 E (BA h E (λh=>rn 1 E (sj h ▸ Ae rZ)) λh=>BI k (DN E λn=>BA h E (λh=>rn 1 E (sj h ▸ Ae rZ)) λh=>BI n (DN E λo=>BA h E (λh=>rn 1 E (qk [4] E (sj h ▸ Ae rZ))) λh=>BI o (rn 1 E (sj h ▸ Ae rZ)))))))))))))))))))))
def Tx(a:List (List Int))(b:List (List Int))(c:Int->Option (Sum (Unit) (Bool)))(d:Int):Option (Sum (Unit) (Bool)):=cond (decide (d < (List.length a:Int))) (G (AI a d) λe=>G (AI b d) λf=>G (HZ e f) λg=>cond (!g) (some (.inr false)) (c (IntKind.i64.wrap (d+1)))) (some (.inl ()))
def Qm(a:List (List Int))(b:List (List Int)):Option (Bool):=cond ((List.length a:Int)!=(List.length b:Int)) (some false) (G (An (Tx a b) fz 0) λc=>(match c with
  |.inl _=>(some true)
  |.inr d=>some d))
theorem aG{a:List (List Int)}{b:List (List Int)}{c:Bool}(h:Qm a b=some c):Aw Tryz.prog 100 [dL B4 a,dL B4 b] (.bool c):=st xC E (rn 1 E (DN E λd=>BA h E (λh=>rn 1 E (sj h ▸ Ae rZ)) λh=>BI d (Ap λe f=>rn 1 E (DX h λg i j=>have k:(.inl ())=g->Jn e []:=λh _ l=>have h:=j h;f _ (lh l E (rn 1 E (sj h ▸ Ae rZ)));(A1 (λ(m:Int)=>[(0,dL B4 a),(1,dL B4 b),(5,nI m)]) _ _ _ _ i (A5 E) (λ_=>E) (λn m o h p=>DN E λq=>BA h E (λh=>BI q (Cr λr=>AX (rd (by kernel_rfl) (sd 2 E (AV h λs t h=>ed E (qI E CN t (sd 3 E (AV h λu v h=>ed E (qI E CN v (sd 1 E (AV h λw x h=>ed E (qC (qa E (BN AU _) (qa E (BN AU _) AP)) (K1 x) (sd 1 E (CP (BA h E (λh=>rn 1 E (sj (j (sj h)) ▸ Ae rZ)) λh=>BI r (rg (AM 3 E (p _ _ h (A5 E))))))))))))))))))) λh=>Ay (k (sj h) _ trivial)))))))
def M5(a:DY)(b:DY):Option (Bool):=cond (a.1 !=b.1) (some false) (G (Qm a.2 b.2) λc=>cond (!c) (some false) (some true))
theorem WB{a:DY}{b:DY}{c:Bool}(h:M5 a b=some c):Aw Tryz.prog 185 [.agg (PR a),.agg (PR b)] (.bool c):=st yM E (rn 1 E (DN E λd=>BA h E (λh=>rn 1 E (sj h ▸ Ae rZ)) λh=>BI d (Cr λe=>rs (sp 4 E (AV h λf g h=>qC (qa E (BN Dd _) (qa E (BN Dd _) AP)) (aG g) (AM 1 E (BA h E (λh=>rn 1 E (sj h ▸ Ae rZ)) λh=>BI e (rn 1 E (qk [4] E (sj h ▸ Ae rZ))))))))))
def N6(a:Di)(b:Di):Option (Bool):=cond (!(a.1==b.1)) (some false) (G (M5 a.2 b.2) λc=>cond (!c) (some false) (some true))
theorem aI{a:Di}{b:Di}{c:Bool}(h:N6 a b=some c):Aw Tryz.prog 124 [.agg (C6 a),.agg (C6 b)] (.bool c):=st xX E (rn 1 E (DN E λd=>BA h E (λh=>rn 1 E (sj h ▸ Ae rZ)) λh=>BI d (Cr λe=>rs (sp 4 E (AV h λf g h=>qC (qa E (CZ (Br E (Br (BN Dd _) E))) (qa E (CZ (Br E (Br (BN Dd _) E))) AP)) (WB g) (AM 1 E (BA h E (λh=>rn 1 E (sj h ▸ Ae rZ)) λh=>BI e (rn 1 E (qk [4] E (sj h ▸ Ae rZ))))))))))
def So(a:List Di)(b:List Di)(c:Int->Option (Sum (Unit) (Bool)))(d:Int):Option (Sum (Unit) (Bool)):=cond (decide (d < (List.length a:Int))) (G (AI a d) λe=>G (AI b d) λf=>G (N6 e f) λg=>cond (!g) (some (.inr false)) (c (IntKind.i64.wrap (d+1)))) (some (.inl ()))
def Pj(a:List Di)(b:List Di):Option (Bool):=cond ((List.length a:Int)!=(List.length b:Int)) (some false) (G (An (So a b) fz 0) λc=>(match c with
  |.inl _=>(some true)
  |.inr d=>some d))
theorem YO{a:List Di}{b:List Di}{c:Bool}(h:Pj a b=some c):Aw Tryz.prog 60 [dL C6 a,dL C6 b] (.bool c):=st AcY E (rn 1 E (DN E λd=>BA h E (λh=>rn 1 E (sj h ▸ Ae rZ)) λh=>BI d (Ap λe f=>rn 1 E (DX h λg i j=>have k:(.inl ())=g->Jn e []:=λh _ l=>have h:=j h;f _ (lh l E (rn 1 E (sj h ▸ Ae rZ)));(A1 (λ(m:Int)=>[(0,dL C6 a),(1,dL C6 b),(5,nI m)]) _ _ _ _ i (A5 E) (λ_=>E) (λn m o h p=>DN E λq=>BA h E (λh=>BI q (Cr λr=>AX (rd (by kernel_rfl) (sd 2 E (AV h λs t h=>ed E (qI E OM t (sd 3 E (AV h λu v h=>ed E (qI E OM v (sd 1 E (AV h λw x h=>ed E (qC (qa E (CZ (Br E (Br E (Br (BN Dd _) E)))) (qa E (CZ (Br E (Br E (Br (BN Dd _) E)))) AP)) (aI x) (sd 1 E (CP (BA h E (λh=>rn 1 E (sj (j (sj h)) ▸ Ae rZ)) λh=>BI r (rg (AM 3 E (p _ _ h (A5 E))))))))))))))))))) λh=>Ay (k (sj h) _ trivial)))))))
def M4(a:List Di)(b:List Di):Option (Bool):=G (Pj a b) λc=>cond (!c) (some false) (some true)
theorem Wz{a:List Di}{b:List Di}{c:Bool}(h:M4 a b=some c):Aw Tryz.prog 22 [.agg [dL C6 a],.agg [dL C6 b]] (.bool c):=st AcD E (rn 1 E (Cr λd=>rs (sp 4 E (AV h λe f h=>qC (qa E (BN EB _) (qa E (BN EB _) AP)) (YO f) (AM 1 E (BA h E (λh=>rn 1 E (sj h ▸ Ae rZ)) λh=>BI d (rn 1 E (sj h ▸ Ae rZ))))))))
def Mh(a:List Int)(b:(Int×Int)->Option (Sum (Int) (Int)))(c:Int×Int):Option (Sum (Int) (Int)):=match c with
  |(d,e)=>cond (decide (e < (List.length a:Int))) (G (AI a e) λf=>cond (f !=d) (some (.inr (-1))) (b ((IntKind.i64.wrap (d+1)),(IntKind.i64.wrap (e+1))))) (some (.inl d))
def MU(a:List Int)(b:Int):Option (Int):=G (An (Mh a) fz (b,0)) λc=>(match c with
  |.inl d=>(some d)
  |.inr e=>some e)
theorem Ty{a:List Int}{b:Int}{c:Int}(h:MU a b=some c):Aw Tryz.prog 47 [dL Am a,nI b] (nI c):=st AcN E (rn 1 E (Ap λd e=>rn 1 E (DX h λf g i=>have j:∀{k:Int},(.inl k)=f->Jn d [(1,nI k)]:=@λk h _ l=>have h:=i h;e _ (lh l E (rn 1 E (sj h ▸ Ae rZ)));(A1 (λ(m:Int×Int)=>match m with|(n,o)=>[(0,dL Am a),(1,nI n),(5,nI o)]) _ _ _ _ g (A5 E) (λ_=>E) (λp=>JD λn o q h r=>DN E λs=>BA h E (λh=>BI s (Cr λt=>AX (Cr λu=>rs (sp 2 E (AV h λv w h=>qI E AY w (AM 3 E (BA h E (λh=>rn 1 E (sj (i (sj h)) ▸ Ae rZ)) λh=>BI u (rg (AM 3 E (t _ (rg (AM 3 E (r _ _ h (A5 E)))))))))))))) λh=>Ay (j (sj h) _ (A5 E)))))))
def Iw(a:List Bc)(b:(Int×Int)->Option (Sum (Int) (Int)))(c:Int×Int):Option (Sum (Int) (Int)):=match c with
  |(d,e)=>cond (decide (e < (List.length a:Int))) (G (AI a e) λf=>cond (f.1 !=d) (some (.inr (-1))) (G (AI a e) λg=>cond (g.2 !=(IntKind.i64.wrap (d+1))) (some (.inr (-1))) (b ((IntKind.i64.wrap ((IntKind.i64.wrap (d+1))+1)),(IntKind.i64.wrap (e+1)))))) (some (.inl d))
def KA(a:List Bc)(b:Int):Option (Int):=G (An (Iw a) fz (b,0)) λc=>(match c with
  |.inl d=>(some d)
  |.inr e=>some e)
theorem Ug{a:List Bc}{b:Int}{c:Int}(h:KA a b=some c):Aw Tryz.prog 63 [dL AS a,nI b] (nI c):=st AcZ E (rn 1 E (Ap λd e=>rn 1 E (DX h λf g i=>have j:∀{k:Int},(.inl k)=f->Jn d [(1,nI k)]:=@λk h _ l=>have h:=i h;e _ (lh l E (rn 1 E (sj h ▸ Ae rZ)));(A1 (λ(m:Int×Int)=>match m with|(n,o)=>[(0,dL AS a),(1,nI n),(5,nI o)]) _ _ _ _ g (A5 E) (λ_=>E) (λp=>JD λn o q h r=>DN E λs=>BA h E (λh=>BI s (Cr λt=>AX (Cr λu=>rs (sp 2 E (AV h λv w h=>qI E B9 w (AM 4 E (BA h E (λh=>rn 1 E (sj (i (sj h)) ▸ Ae rZ)) λh=>BI u (rn 1 E (Cr λx=>rs (sp 2 E (AV h λy z h=>qI E B9 z (AM 4 E (qk [0,1,5,27] E (BA h E (λh=>rn 1 E (sj (i (sj h)) ▸ Ae rZ)) λh=>BI x (rg (AM 3 E (t _ (rg (AM 3 E (r _ _ h (A5 E))))))))))))))))))))) λh=>Ay (j (sj h) _ (A5 E)))))))
def GP(a:Xh)(b:Int):Option (Int):=G (MU a.1 b) λc=>cond (decide (c < 0)) (some (-1)) (G (KA a.2.1 c) λd=>cond (decide (d < 0)) (some (-1)) (G (MU a.2.2.1 d) λe=>cond (decide (e < 0)) (some (-1)) (some e)))
theorem N7{a:Xh}{b:Int}{c:Int}(h:GP a b=some c):Aw Tryz.prog 25 [.agg (dI a),nI b] (nI c):=st AcE E (rn 1 E (rs (sp 3 E (AV h λd e h=>qC (qa E (BN AU _) (qs E AP)) (Ty e) (AM 1 E (DN E λf=>BA h E (λh=>rn 1 E (sj h ▸ Ae rZ)) λh=>BI f (rs (sp 3 E (AV h λg i h=>qC (qa E (BN C9 _) (qs E AP)) (Ug i) (AM 1 E (DN E λj=>BA h E (λh=>rn 1 E (qk [4] E (sj h ▸ Ae rZ))) λh=>BI j (rs (sp 3 E (AV h λk l h=>qC (qa E (BN AU _) (qs E AP)) (Ty l) (AM 1 E (DN E λm=>BA h E (λh=>rn 1 E (sj h ▸ Ae rZ)) λh=>BI m (rn 1 E (sj h ▸ Ae rZ))))))))))))))))))
def HQ(a:List ID)(b:Y24)(c:List Int):Option (Bool):=cond (decide (1048576 < (List.length c:Int))) (some true) (G (M6 a 1048576) λd=>cond (decide (d < 0)) (some true) (G (Qo b d) λe=>cond (decide (e < 0)) (some true) (G (Hr a) λf=>G (KB b) λg=>G (GQ c) λi=>G (G1 f g i) λj=>G (Hr a) λk=>G (KB b) λl=>G (GQ c) λm=>G (Fx k l m) λn=>G (Gq n.1 j.1) λo=>cond (!o) (some false) (cond (!(n.2==j.2)) (some false) (G (Hr a) λp=>G (M4 k p) λq=>cond (!q) (some false) (G (KB b) λr=>G (Qn l r) λs=>cond (!s) (some false) (G (GQ c) λt=>G (HZ m t) λu=>cond (!u) (some false) (G (N8 k 1) λv=>G (Q0 l v.2) λw=>G (RY m w.2) λx=>cond (decide (x.2 < 0)) (some false) (G (Gq n.1 j.1) λy=>cond (!y) (some false) (cond (!(n.2==j.2)) (some false) (G (LR n.1 1) λz=>G (GP z.1 1) λA=>cond (decide (A < 0)) (some false) (cond (A !=z.2) (some false) (G (Hr a) λB=>G (KB b) λC=>G (GQ c) λD=>G (Fx B C D) λF=>G (Gq F.1 j.1) λH=>cond (!H) (some false) (cond (!(F.2==j.2)) (some false) (G (GP z.1 1) λI=>cond (decide (I < 0)) (some false) (cond (I !=z.2) (some false) (some true)))))))))))))))))
theorem Py{a:List ID}{b:Y24}{c:List Int}{d:Bool}(h:HQ a b c=some d):Aw Tryz.prog 4 [.agg [aL Qg a],.agg (kI b),aL Am c] (.bool d):=by
 refine st Aev E (rn 1 E (DN E λe=>BA h E (λh=>rn 1 E (sj h ▸ Ae rZ)) λh=>BI e (rn 1 E (rs (sp 2 E (AV h λf g h=>qC (qa E (CZ (Br (T7 T5 _) E)) (qs E AP)) (WC g) (AM 1 E (DN E λi=>BA h E (λh=>rn 1 E (qk [6] E (sj h ▸ Ae rZ))) λh=>BI i (rs (sp 2 E (AV h λj k h=>qC (qa E (CZ (Br E (Br (T7 Wh _) (Br (T7 AU _) E)))) (qs E AP)) (aM k) (AM 1 E (DN E λl=>BA h E (λh=>rn 1 E (sj h ▸ Ae rZ)) λh=>BI l (rd (by kernel_rfl) (sd 1 E (AV h λm n h=>ed E (qC (qa E (CZ (Br (T7 T5 _) E)) AP) (Lq n) (sd 1 E (AV h λo p h=>ed E (qC (qa E (CZ (Br E (Br (T7 Wh _) (Br (T7 AU _) E)))) AP) (Oa p) (sd 1 E (AV h λq r h=>ed E (qC (qa E (T7 AU _) AP) (Js r) (AV h λs t h=>ed E (qC (qa E (CZ (Br (Tr T6 _) E)) (qa E (CZ (Br E (Br (Tr Wi _) (Br (Tr AU _) E)))) (qa E (Tr AU _) AP))) (Th t) (sd 6 E (CP (qk [2,3,4,8,9] E (rs (sp 1 E (AV h λu v h=>qC (qa E (CZ (Br (T7 T5 _) E)) AP) (Lq v) (AM 2 E (rs (sp 1 E (AV h λw x h=>qC (qa E (CZ (Br E (Br (T7 Wh _) (Br (T7 AU _) E)))) AP) (Oa x) (AM 2 E (rs (sp 1 E (AV h λy z h=>qC (qa E (T7 AU _) AP) (Js z) (AM 1 E (rs (sp 3 E (AV h λA B h=>qC (qa E (CZ (Br (BN T6 _) E)) (qa E (CZ (Br E (Br (BN Wi _) (Br (BN AU _) E)))) (qa E (BN AU _) AP))) (NW B) (AM 6 E (Cr λC=>rs (sp 2 E (AV h λD F h=>qC (qa E (CZ (Br (BN AU _) (Br (BN C9 _) (Br (BN AU _) (Br E (Br E E)))))) (qa E (CZ (Br (BN AU _) (Br (BN C9 _) (Br (BN AU _) (Br E (Br E E)))))) AP)) (LQ F) (sp 2 E (D6 h (λH h=>qg 60 H E (AM 4 E (qT E E (rn 1 E (qk [6] E (sj h ▸ Ae rZ)))))) λH h=>qg 60 H E (AM 4 E (BA h E (λh=>rn 1 E (sj h ▸ Ae rZ)) λh=>BI C (Cr λI=>rd (by kernel_rfl) (sd 2 E (AV h λJ K h=>ed E (qC (qa E (CZ (Br (T7 T5 _) E)) AP) (Lq K) (AV h λL M h=>ed E (qC (qa E (CZ (Br (BN T6 _) E)) (qa E (CZ (Br (Tr T6 _) E)) AP)) (Wz M) (sd 1 E (CP (BA h E (λh=>rn 1 E (sj h ▸ Ae rZ)) λh=>BI I (Cr λN=>rd (by kernel_rfl) (sd 2 E (AV h λO P h=>ed E (qC (qa E (CZ (Br E (Br (T7 Wh _) (Br (T7 AU _) E)))) AP) (Oa P) (AV h λQ R h=>ed E (qC (qa E (CZ (Br E (Br (BN Wi _) (Br (BN AU _) E)))) (qa E (CZ (Br E (Br (Tr Wi _) (Br (Tr AU _) E)))) AP)) (aH R) (sd 1 E (CP (qk [2,3,4,8,9,10,11,12,13,14,74] E (BA h E (λh=>rn 1 E (sj h ▸ Ae rZ)) λh=>BI N (Cr λS=>rs (sp 2 E (AV h λT U h=>qC (qa E (T7 AU _) AP) (Js U) (AV h λV W h=>qC (qa E (BN AU _) (qa E (Tr AU _) AP)) (K1 W) (AM 1 E (BA h E (λh=>rn 1 E (sj h ▸ Ae rZ)) λh=>BI S (rn 1 E (qk [2,3,4,8,9,10,11,12,13,14,15] E (AV h λX Y h=>Zo (fu FZ E E E) E E (Vl Y) (AbT _) (iS (Vn (OU (λ_=>E) _) (Vn (scc (sca kz _) scn) (Vn (scc E (scc (sca kx _) (scc (sca (λ_=>E) _) scn))) (Vn (scc (bB (λ_=>E) _) (scc (bB dW _) (scc (bB (λ_=>E) _) (scc E (scc E scn))))) (Vn E (sfs (Vn (scc E (scc (bB oE _) (scc (bB (λ_=>E) _) scn))) (Vn (YF (JT (λ_=>E) _)) (Vn (scc (bB (λ_=>E) _) (scc (bB dW _) (scc (bB (λ_=>E) _) (scc E (scc E scn))))) (Vn E (Vn E sfn)))))))))))) E E ⟨by decide,by decide⟩ E E (kp [(2,aL Am c),(3,.box [aL Qg a]),(4,.box [nI b.1,aL TY b.2.1,aL Am b.2.2]),(8,.box [oL 3 Am s.1.1,oL 71 AS s.1.2.1,oL 3 Am s.1.2.2.1,nI s.1.2.2.2.1,nI s.1.2.2.2.2]),(9,.bool s.2),(11,.box [nI w.1,oL 104 Ey w.2.1,oL 3 Am w.2.2]),(12,oL 3 Am y),(13,.box [oL 3 Am A.1.1,oL 71 AS A.1.2.1,oL 3 Am A.1.2.2.1,nI A.1.2.2.2.1,nI A.1.2.2.2.2]),(14,.bool A.2),(15,nI X.2)] E E (qk [2,3,4,8,9,11,12,13,14,15] E ?_)))))))))))))))))))))))))))))))))))))))))))))))))))))))))))))))))))))))))))))))))
 exact AV h λZ d h=>Zo (fu FZ E E E) E E (X2 d) (AbR _) (iS (Vn (OU (λ_=>E) _) (Vn (scc (sca kz _) scn) (Vn (scc E (scc (sca kx _) (scc (sca (λ_=>E) _) scn))) (Vn (scc (bB (λ_=>E) _) (scc (bB dW _) (scc (bB (λ_=>E) _) (scc E (scc E scn))))) (Vn E (sfs (Vn (YF (JT (λ_=>E) _)) (Vn (scc (bB (λ_=>E) _) (scc (bB dW _) (scc (bB (λ_=>E) _) (scc E (scc E scn))))) (Vn E (Vn E sfn))))))))))) E E ⟨by decide,by decide⟩ E E (kp [(2,aL Am c),(3,.box [aL Qg a]),(4,.box [nI b.1,aL TY b.2.1,aL Am b.2.2]),(8,.box [oL 3 Am s.1.1,oL 71 AS s.1.2.1,oL 3 Am s.1.2.2.1,nI s.1.2.2.2.1,nI s.1.2.2.2.2]),(9,.bool s.2),(12,oL 3 Am y),(13,.box [oL 3 Am A.1.1,oL 71 AS A.1.2.1,oL 3 Am A.1.2.2.1,nI A.1.2.2.2.1,nI A.1.2.2.2.2]),(14,.bool A.2),(15,nI Z.2)] E E (qk [2,3,4,8,9,12,13,14,15] E (AV h λe f h=>Zo (u5 E) E E (YQ f) (JT (λ_=>E) _) (iS (Vn (OU (λ_=>E) _) (Vn (scc (sca kz _) scn) (Vn (scc E (scc (sca kx _) (scc (sca (λ_=>E) _) scn))) (Vn (scc (bB (λ_=>E) _) (scc (bB dW _) (scc (bB (λ_=>E) _) (scc E (scc E scn))))) (Vn E (sfs (Vn (scc (bB (λ_=>E) _) (scc (bB dW _) (scc (bB (λ_=>E) _) (scc E (scc E scn))))) (Vn E (Vn E sfn)))))))))) E E ⟨by decide,by decide⟩ E E (kp [(2,aL Am c),(3,.box [aL Qg a]),(4,.box [nI b.1,aL TY b.2.1,aL Am b.2.2]),(8,.box [oL 3 Am s.1.1,oL 71 AS s.1.2.1,oL 3 Am s.1.2.2.1,nI s.1.2.2.2.1,nI s.1.2.2.2.2]),(9,.bool s.2),(13,.box [oL 3 Am A.1.1,oL 71 AS A.1.2.1,oL 3 Am A.1.2.2.1,nI A.1.2.2.2.1,nI A.1.2.2.2.2]),(14,.bool A.2),(15,nI e.2)] E E (Cr λg=>rs (sp 3 E (D6 h (λi h=>qg 91 i E (AM 10 E (qT E E (rn 1 E (sj h ▸ Ae rZ))))) λi h=>qg 91 i E (sp 2 E (AV h λj k h=>EN E E (qC (qa E (CZ (Br (BN AU _) (Br (BN C9 _) (Br (BN AU _) (Br E (Br E E)))))) (qa E (CZ (Br (BN AU _) (Br (BN C9 _) (Br (BN AU _) (Br E (Br E E)))))) AP)) (LQ k) (sp 3 E (D6 h (λl h=>qg 97 l E (AM 4 E (qT E E (rn 1 E (qk [6] E (sj h ▸ Ae rZ)))))) λl h=>qg 97 l E (AM 4 E (BA h E (λh=>rn 1 E (sj h ▸ Ae rZ)) λh=>BI g (rn 1 E (qk [2,3,4,8,9,13,16] E (AV h λm n h=>Zo (fu FZ E E E) E E (SY n) (AbS _) (iS (Vn (OU (λ_=>E) _) (Vn (scc (sca kz _) scn) (Vn (scc E (scc (sca kx _) (scc (sca (λ_=>E) _) scn))) (Vn (scc (bB (λ_=>E) _) (scc (bB dW _) (scc (bB (λ_=>E) _) (scc E (scc E scn))))) (Vn E (sfs (Vn E sfn)))))))) E E ⟨by decide,by decide⟩ E E (kp [(2,aL Am c),(3,.box [aL Qg a]),(4,.box [nI b.1,aL TY b.2.1,aL Am b.2.2]),(8,.box [oL 3 Am s.1.1,oL 71 AS s.1.2.1,oL 3 Am s.1.2.2.1,nI s.1.2.2.2.1,nI s.1.2.2.2.2]),(9,.bool s.2),(13,.box [oL 3 Am m.1.1,oL 71 AS m.1.2.1,oL 3 Am m.1.2.2.1,nI m.1.2.2.2.1,nI m.1.2.2.2.2]),(16,nI m.2)] E E (rn 1 E (rs (sp 2 E (AV h λo p h=>qC (qa E (CZ (Br (BN AU _) (Br (BN C9 _) (Br (BN AU _) (Br E (Br E E)))))) (qs E AP)) (N7 p) (AM 1 E (DN E λq=>BA h E (λh=>rn 1 E (sj h ▸ Ae rZ)) λh=>BI q (DN E λr=>BA h E (λh=>rn 1 E (qk [6] E (sj h ▸ Ae rZ))) λh=>BI r (rd (by kernel_rfl) (sd 1 E (AV h λt u h=>ed E (qC (qa E (CZ (Br (T7 T5 _) E)) AP) (Lq u) (sd 1 E (AV h λv x h=>ed E (qC (qa E (CZ (Br E (Br (T7 Wh _) (Br (T7 AU _) E)))) AP) (Oa x) (sd 1 E (AV h λz B h=>ed E (qC (qa E (T7 AU _) AP) (Js B) (AV h λD F h=>ed E (qC (qa E (CZ (Br (Tr T6 _) E)) (qa E (CZ (Br E (Br (Tr Wi _) (Br (Tr AU _) E)))) (qa E (Tr AU _) AP))) (NW F) (sd 6 E (CP (Cr λC=>rs (sp 2 E (AV h λH J h=>qC (qa E (CZ (Br (BN AU _) (Br (BN C9 _) (Br (BN AU _) (Br E (Br E E)))))) (qa E (CZ (Br (BN AU _) (Br (BN C9 _) (Br (BN AU _) (Br E (Br E E)))))) AP)) (LQ J) (sp 2 E (D6 h (λK h=>qg 127 K E (AM 4 E (qT E E (rn 1 E (sj h ▸ Ae rZ))))) λK h=>qg 127 K E (AM 4 E (qk [13,16,131] E (BA h E (λh=>rn 1 E (sj h ▸ Ae rZ)) λh=>BI C (rn 1 E (rs (sp 2 E (AV h λL I h=>qC (qa E (CZ (Br (BN AU _) (Br (BN C9 _) (Br (BN AU _) (Br E (Br E E)))))) (qs E AP)) (N7 I) (AM 1 E (DN E λM=>BA h E (λh=>rn 1 E (sj h ▸ Ae rZ)) λh=>BI M (DN E λO=>qk [139] E (BA h E (λh=>rn 1 E (sj h ▸ Ae rZ)) λh=>BI O (rn 1 E (sj h ▸ Ae rZ)))))))))))))))))))))))))))))))))))))))))))))))))))))))))
end Go.Proofs.YtaagdgjndpgdgaaGreatDoor

namespace Go.Proofs.YtaagdgjndpgdgaaGreatDoor
theorem ZG{B:(Int->Option (Sum Unit Bool))->Int->Option (Sum Unit Bool)}{n:Nat}(bad:Nat->Bool){M:Nat}(hn:n < M)(h1:∀k,k < n->∀rec,B rec (k:Int)=cond (bad k) (some (.inr false)) (rec ((k+1:Nat):Int)))(h2:∀rec,B rec (n:Int)=some (.inl ())):
  An B M 0=some (cond ((List.range n).any bad) (.inr false) (.inl ())):=by
 have key:∀d k,k+d=n->(∀j,j < k->bad j=false)->∀m,d < m->An B m (k:Int)=some (cond ((List.range n).any bad) (.inr false) (.inl ())):=by
  intro d
  induction d with
  |zero=>
   intro k hk hb m hm
   cases m with
   |zero=>omega
   |succ m=>
    have hkn:k=n:=by omega
    have:(List.range n).any bad=false:=by
     rw[CG]
     intro x hx
     rw[hb x (by have:=AL.1 hx;omega)];simp
    show B (An B m) (k:Int)=_
    rw[hkn,h2,this];rfl
  |succ d ih=>
   intro k hk hb m hm
   cases m with
   |zero=>omega
   |succ m=>
    show B (An B m) (k:Int)=_
    rw[h1 k (by omega)]
    cases hbk:bad k with
    |true=>
     have:(List.range n).any bad=true:=by rw[Dj];exact⟨k,AL.2 (by omega),hbk⟩
     rw[this];rfl
    |false=>
     exact ih (k+1) (by omega) (λj hj=>by
      rcases A8 j k with h|h
      ·exact hb j h
      ·rw[show j=k by omega];exact hbk) m (by omega)
 have:=key n 0 (by omega) (λj hj=>absurd hj (by omega)) M hn
 simpa using this
theorem EU{B:(Int->Option (Sum Unit Bool))->Int->Option (Sum Unit Bool)}{n:Nat}(bad:Nat->Bool)(hn:n<=lim)(h1:∀k,k < n->∀rec,B rec (k:Int)=cond (bad k) (some (.inr false)) (rec ((k+1:Nat):Int)))(h2:∀rec,B rec (n:Int)=some (.inl ())):
  An B fz 0=some (cond ((List.range n).any bad) (.inr false) (.inl ())):=ZG bad (EO hn) h1 h2
theorem Bl{k n:Nat}(h:k < n):decide ((k:Int) < (n:Int))=true:=Ah (by omega)
theorem Bh(n:Nat):decide ((n:Int) < (n:Int))=false:=Af (by omega)
def Jz{α:Type}(l:List α)(k:Nat)(f:α->Bool):Bool:=match l[k]? with
 |some e=>f e
 |none=>false
theorem CD{α:Type}{l:List α}{k:Nat}(h:k < l.length)(f:α->Bool):Jz l k f=f l[k]:=by unfold Jz;rw[Ad h]
def BV{α:Type}(l:List α)(f:Nat->α->Bool):Bool:=(List.range l.length).any λk=>Jz l k (f k)
def G9(x lo hi:Int):Bool:=decide (lo<=x)&&decide (x<=hi)
theorem Lc(x lo hi:Int):Eg x lo hi=some (G9 x lo hi):=by
 unfold Eg Qy G9
 cases decide (lo<=x)<;>rfl
theorem Hx(x lo hi:Int):DC x lo hi=some (G9 x lo hi):=by
 unfold DC N5 G9
 cases decide (lo<=x)<;>rfl
def PQ(l:List Int):Bool:= !BV l λ_ e=> !G9 e 0 99
theorem wa{l:List Int}(h:l.length<=lim):HG l=some (PQ l):=by
 unfold HG PQ BV
 rw[EU (λk=>Jz l k λe=> !G9 e 0 99) h (λk hk rec=>by
  unfold KF
  rw[Bl hk,AK hk,Bn hk (Bd h),CD hk]
  simp only[Ab,G,Lc]) (λrec=>by unfold KF;rw[Bh];rfl)]
 cases(List.range l.length).any λk=>Jz l k λe=> !G9 e 0 99<;>rfl
theorem vE{l:List Int}(h:l.length<=lim):Hy l=some (PQ l):=by
 unfold Hy PQ BV
 rw[EU (λk=>Jz l k λe=> !G9 e 0 99) h (λk hk rec=>by
  unfold Kw
  rw[Bl hk,AK hk,Bn hk (Bd h),CD hk]
  simp only[Ab,G,Hx]) (λrec=>by unfold Kw;rw[Bh];rfl)]
 cases(List.range l.length).any λk=>Jz l k λe=> !G9 e 0 99<;>rfl
def EH:List Int->List Int->Int
 |[],[]=>0
 |[],_::_=> -1
 |_::_,[]=>1
 |x::xs,y::ys=>if x < y then -1 else if y < x then 1 else EH xs ys
theorem f6{B:(Int->Option (Sum Unit Int))->Int->Option (Sum Unit Int)}{a b:List Int}(ha:a.length<=lim)
  (h1:∀k (hk:k < a.length) (hk':k < b.length),∀rec,B rec (k:Int)=if a[k] < b[k]then some (.inr (-1))else if b[k] < a[k]then some (.inr 1)else rec ((k+1:Nat):Int))
  (h2:∀k:Nat,¬(k < a.length∧k < b.length)->∀rec,B rec (k:Int)=some (.inl ())):
  ∃o,An B fz 0=some o∧((∃r,o=.inr r∧EH a b=r)∨(o=.inl ()∧EH a b=if a.length < b.length then -1 else if b.length < a.length then 1 else 0)):=by
 have key:∀d k,k+d=a.length->k<=b.length->EH a b=EH (a.drop k) (b.drop k)->∀m,d < m->∃o,An B m (k:Int)=some o∧((∃r,o=.inr r∧EH a b=r)∨(o=.inl ()∧EH a b=if a.length < b.length then -1 else if b.length < a.length then 1 else 0)):=by
  intro d
  induction d with
  |zero=>
   intro k hk hkb hc m hm
   cases m with
   |zero=>omega
   |succ m=>
    refine⟨.inl (),h2 k (by omega) _,.inr ⟨rfl,?_⟩⟩
    rw[hc,BO (by omega:a.length<=k)]
    rcases A8 k b.length with h|h
    ·rw[AO h,AH (by omega)];rfl
    ·rw[BO h,AE (by omega),AE (by omega)];rfl
  |succ d ih=>
   intro k hk hkb hc m hm
   cases m with
   |zero=>omega
   |succ m=>
    have hka:k < a.length:=by omega
    rcases A8 k b.length with h|h
    ·have e1:=h1 k hka h (An B m)
     rw[AO hka,AO h,EH]at hc
     by_cases q1:a[k] < b[k]
     ·rw[AH q1]at e1 hc;exact⟨_,e1,.inl ⟨_,rfl,hc⟩⟩
     ·rw[AE q1]at e1 hc
      by_cases q2:b[k] < a[k]
      ·rw[AH q2]at e1 hc;exact⟨_,e1,.inl ⟨_,rfl,hc⟩⟩
      ·rw[AE q2]at e1 hc
       obtain⟨o,e2,p⟩:=ih (k+1) (by omega) (by omega) hc m (by omega)
       exact⟨o,e1.trans e2,p⟩
    ·refine⟨.inl (),h2 k (by omega) _,.inr ⟨rfl,?_⟩⟩
     rw[hc,AO hka,BO h,AE (by omega),AH (by omega)];rfl
 exact key a.length 0 (by omega) (by omega) (by simp) fz (EO ha)
theorem YE{a b:List Int}(ha:a.length<=lim):FO a b=some (EH a b):=by
 unfold FO
 obtain⟨o,e,p⟩:=f6 (B:=JP a b) ha (λk hk hk' rec=>by
   unfold JP
   rw[Bl hk,Bl hk',AK hk,AK hk',Bn hk (Bd ha)]
   simp only[Ab,G]
   by_cases q1:a[k] < b[k]
   ·rw[Ah q1,AH q1];rfl
   ·rw[Af q1,AE q1]
    by_cases q2:b[k] < a[k]
    ·rw[Ah q2,AH q2];rfl
    ·rw[Af q2,AE q2];rfl) (λk hk rec=>by
   unfold JP
   by_cases q:k < a.length
   ·rw[Bl q,Af (by omega:¬(k:Int) < (b.length:Int))];rfl
   ·rw[Af (by omega:¬(k:Int) < (a.length:Int))];rfl)
 rw[e]
 rcases p with⟨r,rfl,hr⟩|⟨rfl,hr⟩
 ·rw[hr];rfl
 ·simp only[G]
  rw[hr]
  by_cases q1:a.length < b.length
  ·rw[AH q1,Ah (by omega)];rfl
  ·rw[AE q1,Af (by omega)]
   by_cases q2:b.length < a.length
   ·rw[AH q2,Ah (by omega)];rfl
   ·rw[AE q2,Af (by omega)];rfl
theorem XL(x y:Int):FC x y=some (if x < y then -1 else if y < x then 1 else 0):=by
 unfold FC
 by_cases q1:x < y
 ·rw[Ah q1,AH q1];rfl
 ·rw[Af q1,AE q1]
  by_cases q2:y < x
  ·rw[Ah q2,AH q2];rfl
  ·rw[Af q2,AE q2];rfl
theorem cE{a b:List Int}(ha:a.length<=lim):Gn a b=some (EH a b):=by
 unfold Gn
 obtain⟨o,e,p⟩:=f6 (B:=JJ a b) ha (λk hk hk' rec=>by
   unfold JJ
   rw[Bl hk,Bl hk',AK hk,AK hk',Bn hk (Bd ha)]
   simp only[Ab,G,XL]
   by_cases q1:a[k] < b[k]
   ·have:(a[k]!=b[k])=true:=by simp;omega
    simp only[this,AH q1,Ab]
   ·by_cases q2:b[k] < a[k]
    ·have:(a[k]!=b[k])=true:=by simp;omega
     simp only[this,AE q1,AH q2,Ab]
    ·have:(a[k]!=b[k])=false:=by simp;omega
     simp only[this,AE q1,AE q2,Aa]) (λk hk rec=>by
   unfold JJ
   by_cases q:k < a.length
   ·rw[Bl q,Af (by omega:¬(k:Int) < (b.length:Int))];rfl
   ·rw[Af (by omega:¬(k:Int) < (a.length:Int))];rfl)
 rw[e]
 rcases p with⟨r,rfl,hr⟩|⟨rfl,hr⟩
 ·rw[hr];rfl
 ·simp only[G,XL]
  rw[hr]
  by_cases q1:a.length < b.length
  ·rw[AH q1,AH (by omega)]
  ·rw[AE q1,AE (by omega)]
   by_cases q2:b.length < a.length
   ·rw[AH q2,AH (by omega)]
   ·rw[AE q2,AE (by omega)]
def P3(arity:Int)(rows:List (List Int))(k:Nat)(r:List Int):Bool:=((r.length:Int)!=arity) || !PQ r || (decide (0 < k)&&Jz rows (k - 1) λq=>decide (0<=EH q r))
def P2(r:Int×List (List Int)):Bool:=G9 r.1 0 5&&(!decide (4000 < (r.2.length:Int))&& !BV r.2 (P3 r.1 r.2))
theorem bV{k n:Nat}(h:k < n)(h0:0 < k)(hn:n<=maxLen):IntKind.i64.wrap ((k:Int) - 1)=((k - 1:Nat):Int):=by
 rw[wrap_in (by unfold maxLen at hn;omega)];omega
def Kg(l:List (List Int)):Prop:=l.length<=lim∧∀r∈l,r.length<=lim
theorem mc{r:Int×List (List Int)}(h:Kg r.2):Ee r=some (P2 r):=by
 unfold Ee P2 BV
 simp only[Lc,G]
 cases G9 r.1 0 5 with
 |false=>rfl
 |true=>
  cases decide (4000 < (r.2.length:Int))with
  |true=>rfl
  |false=>
   simp only[Ai,C7,Aa,AJ]
   rw[EU (λk=>Jz r.2 k (P3 r.1 r.2 k)) h.1 (λk hk rec=>by
    have hr:=h.2 _ (Ag hk)
    unfold Hm EF
    rw[Bl hk,AK hk,Bn hk (Bd h.1),CD hk]
    simp only[Ab,G,wa hr,P3]
    cases h1:((r.2[k].length:Int)!=r.1)with
    |true=>rfl
    |false=>
     cases h2:PQ r.2[k]with
     |false=>rfl
     |true=>
      by_cases h0:0 < k
      ·have hk':k - 1 < r.2.length:=by omega
       rw[bV hk h0 (Bd h.1),AK hk',CD hk',Ah (by omega:(0:Int) < (k:Int)),Ah h0]
       simp only[Ab,Aa,Ai,CX,AJ,YE (h.2 _ (Ag hk'))]
      ·rw[Af (by omega:¬(0:Int) < (k:Int)),Af h0];rfl) (λrec=>by unfold Hm;rw[Bh];rfl)]
   cases(List.range r.2.length).any λk=>Jz r.2 k (P3 r.1 r.2 k)<;>rfl
theorem gY{r:Int×List (List Int)}(h:Kg r.2):Eb r=some (P2 r):=by
 unfold Eb QY P2 BV
 simp only[Hx,G]
 cases G9 r.1 0 5 with
 |false=>rfl
 |true=>
  cases decide (4000 < (r.2.length:Int))with
  |true=>rfl
  |false=>
   simp only[Ai,C7,Aa,AJ]
   rw[EU (λk=>Jz r.2 k (P3 r.1 r.2 k)) h.1 (λk hk rec=>by
    have hr:=h.2 _ (Ag hk)
    unfold Lo Hi
    rw[Bl hk,AK hk,Bn hk (Bd h.1),CD hk]
    simp only[Ab,G,vE hr,P3]
    cases h1:((r.2[k].length:Int)!=r.1)with
    |true=>rfl
    |false=>
     cases h2:PQ r.2[k]with
     |false=>rfl
     |true=>
      by_cases h0:0 < k
      ·have hk':k - 1 < r.2.length:=by omega
       rw[bV hk h0 (Bd h.1),AK hk',CD hk',Ah (by omega:(0:Int) < (k:Int)),Ah h0]
       simp only[Ab,Aa,Ai,CX,AJ,cE (h.2 _ (Ag hk'))]
      ·rw[Af (by omega:¬(0:Int) < (k:Int)),Af h0];rfl) (λrec=>by unfold Lo;rw[Bh];rfl)]
   cases(List.range r.2.length).any λk=>Jz r.2 k (P3 r.1 r.2 k)<;>rfl
def nmB(s:List UInt8):Bool:=G9 (s.length:Int) 1 4&& !BV s λ_ b=>decide ((UInt8.toNat b:Int) < 97) || decide (122 < (UInt8.toNat b:Int))
theorem rj{s:List UInt8}(h:s.length<=lim):Kj s=some (nmB s):=by
 unfold Kj nmB BV
 rw[EU (λk=>Jz s k λb=>decide ((UInt8.toNat b:Int) < 97) || decide (122 < (UInt8.toNat b:Int))) h (λk hk rec=>by
  unfold MM
  rw[Bl hk,AK hk,Bn hk (Bd h),CD hk]
  simp only[Ab,G]
  cases decide ((UInt8.toNat s[k]:Int) < 97)<;>rfl) (λrec=>by unfold MM;rw[Bh];rfl)]
 cases(List.range s.length).any λk=>Jz s k λb=>decide ((UInt8.toNat b:Int) < 97) || decide (122 < (UInt8.toNat b:Int))<;>simp[G,Lc]
theorem pf{s:List UInt8}(h:s.length<=lim):JX s=some (nmB s):=by
 unfold JX QW nmB BV G9
 by_cases h1:(s.length:Int) < 1
 ·rw[Ah h1,Af (by omega:¬(1:Int)<=(s.length:Int))];rfl
 ·rw[Af h1,Ah (by omega:(1:Int)<=(s.length:Int))]
  by_cases h2:4 < (s.length:Int)
  ·rw[Ah h2,Af (by omega:¬(s.length:Int)<=4)];rfl
  ·rw[Af h2,Ah (by omega:(s.length:Int)<=4)]
   simp only[Aa,Er,AJ]
   rw[EU (λk=>Jz s k λb=>decide ((UInt8.toNat b:Int) < 97) || decide (122 < (UInt8.toNat b:Int))) h (λk hk rec=>by
    unfold N2
    rw[Bl hk,AK hk,Bn hk (Bd h),CD hk]
    simp only[Ab,G]
    cases decide ((UInt8.toNat s[k]:Int) < 97)<;>rfl) (λrec=>by unfold N2;rw[Bh];rfl)]
   cases(List.range s.length).any λk=>Jz s k λb=>decide ((UInt8.toNat b:Int) < 97) || decide (122 < (UInt8.toNat b:Int))<;>rfl
abbrev Tp:=List UInt8×(Int×List (List Int))
def Uz(d:List Tp)(k:Nat)(t:Tp):Bool:= !nmB t.1 || (decide (0 < k)&&Jz d (k - 1) λq=> !Op.bytesLess q.1 t.1) || !P2 t.2 || decide (16 < (t.2.2.length:Int)) || decide (t.2.1 < 1)
def dbB(d:List Tp):Bool:=decide ((d.length:Int)<=6)&& !BV d (Uz d)
def Ut(d:List Tp):Prop:=d.length<=lim∧∀t∈d,t.1.length<=lim∧Kg t.2.2
theorem AaG{d:List Tp}(h:Ut d):GZ d=some (dbB d):=by
 unfold GZ dbB BV
 rw[EU (λk=>Jz d k (Uz d k)) h.1 (λk hk rec=>by
  have hr:=h.2 _ (Ag hk)
  unfold Hk C1
  rw[Bl hk,AK hk,Bn hk (Bd h.1),CD hk]
  simp only[Ab,G,rj hr.1,mc hr.2,Uz]
  cases nmB d[k].1 with
  |false=>rfl
  |true=>
   by_cases h0:0 < k
   ·have hk':k - 1 < d.length:=by omega
    rw[bV hk h0 (Bd h.1),AK hk',CD hk',Ah (by omega:(0:Int) < (k:Int)),Ah h0]
    simp only[Ab,Aa,Ai,CX,AJ]
    cases Op.bytesLess d[k - 1].1 d[k].1<;>cases P2 d[k].2<;>cases decide (16 < (d[k].2.2.length:Int))<;>rfl
   ·rw[Af (by omega:¬(0:Int) < (k:Int)),Af h0]
    cases P2 d[k].2<;>cases decide (16 < (d[k].2.2.length:Int))<;>rfl) (λrec=>by unfold Hk;rw[Bh];rfl)]
 cases(List.range d.length).any λk=>Jz d k (Uz d k)<;>simp[G]
theorem Acf{d:List Tp}(h:Ut d):GG d=some (dbB d):=by
 unfold GG dbB BV
 by_cases h6:6 < (d.length:Int)
 ·rw[Ah h6,Af (by omega:¬(d.length:Int)<=6)];rfl
 rw[Af h6,Ah (by omega:(d.length:Int)<=6),Aa,AJ]
 rw[EU (λk=>Jz d k (Uz d k)) h.1 (λk hk rec=>by
  have hr:=h.2 _ (Ag hk)
  unfold Hc C0
  rw[Bl hk,AK hk,Bn hk (Bd h.1),CD hk]
  simp only[Ab,G,pf hr.1,gY hr.2,Uz]
  cases nmB d[k].1 with
  |false=>rfl
  |true=>
   by_cases h0:0 < k
   ·have hk':k - 1 < d.length:=by omega
    rw[bV hk h0 (Bd h.1),AK hk',CD hk',Ah (by omega:(0:Int) < (k:Int)),Ah h0]
    simp only[Ab,Aa,Ai,CX,AJ]
    cases Op.bytesLess d[k - 1].1 d[k].1<;>cases P2 d[k].2<;>cases decide (16 < (d[k].2.2.length:Int))<;>cases decide (d[k].2.1 < 1)<;>rfl
   ·rw[Af (by omega:¬(0:Int) < (k:Int)),Af h0]
    cases P2 d[k].2<;>cases decide (16 < (d[k].2.2.length:Int))<;>cases decide (d[k].2.1 < 1)<;>rfl) (λrec=>by unfold Hc;rw[Bh];rfl)]
 cases(List.range d.length).any λk=>Jz d k (Uz d k)<;>rfl
theorem J6{α β:Type}{a:List α}{h:α->β}{B:(List β×Int->Option (List β))->List β×Int->Option (List β)}(hl:a.length<=lim)
  (h1:∀k (hk:k < a.length),∀rec,B rec ((a.take k).map h,(k:Int))=rec ((a.take k).map h++[h a[k]],((k+1:Nat):Int))) (h2:∀rec y,B rec (y,(a.length:Int))=some y):An B fz ([],0)=some (a.map h):=by
 have:=D7 (body:=B) (out:=a.map h) (λk=>((a.take k).map h,(k:Int))) a.length (λk hk rec=>by
  rw[h1 k hk,A9 hk,BM];rfl) (λrec=>by rw[h2,By]) fz (EO hl)
 simpa using this
theorem cA{α O:Type}{a:List α}{B:(Int->Option (Sum Unit O))->Int->Option (Sum Unit O)}(p:α->Bool)(g:α->O)(hl:a.length<=lim)
  (h1:∀k (hk:k < a.length),∀rec,B rec (k:Int)=cond (p a[k]) (some (.inr (g a[k]))) (rec ((k+1:Nat):Int))) (h2:∀rec,B rec (a.length:Int)=some (.inl ())):
  An B fz 0=some (match a.find? p with|some e=>.inr (g e)|none=>.inl ()):=by
 have key:∀d k,k+d=a.length->∀m,d < m->An B m (k:Int)=some (match(a.drop k).find? p with|some e=>.inr (g e)|none=>.inl ()):=by
  intro d
  induction d with
  |zero=>
   intro k hk m hm
   cases m with
   |zero=>omega
   |succ m=>
    show B (An B m) (k:Int)=_
    rw[show k=a.length by omega,h2,Ei];rfl
  |succ d ih=>
   intro k hk m hm
   cases m with
   |zero=>omega
   |succ m=>
    have hlt:k < a.length:=by omega
    show B (An B m) (k:Int)=_
    rw[h1 k hlt,AO hlt,List.find?_cons]
    cases hp:p a[k]with
    |true=>rfl
    |false=>exact ih (k+1) (by omega) m (by omega)
 have:=key a.length 0 (by omega) fz (EO hl)
 simpa using this
theorem ra{r:Int×List (List Int)}(h:Kg r.2):PJ r=some r:=by
 unfold PJ
 rw[J6 (a:=r.2) (h:=id) h.1 (λk hk rec=>by
  have hr:=h.2 _ (Ag hk)
  unfold Rl
  simp only
  rw[Bl hk,AK hk,Bn hk (Bd h.1)]
  simp only[Ab,G]
  rw[AN (by simpa using hr),AN (by simp only[Aj,At,Ao];unfold lim at *;have:=h.1;unfold lim at this;omega)]
  simp) (λrec y=>by unfold Rl;simp only;rw[Bh];rfl)]
 simp[G]
theorem ly{l:List Int}(h:l.length<=lim):Gy l=some l:=by
 unfold Gy
 rw[AN (by simpa using h)];simp
theorem lz{l:List (List Int)}(h:Kg l):MT l=some l:=by
 unfold MT
 rw[J6 (a:=l) (h:=id) h.1 (λk hk rec=>by
  have hr:=h.2 _ (Ag hk)
  unfold O3
  simp only
  rw[Bl hk,AK hk,Bn hk (Bd h.1)]
  simp only[Ab,G,ly hr]
  rw[AN (by simp only[Aj,At,Ao];unfold lim at *;have:=h.1;unfold lim at this;omega)]
  simp) (λrec y=>by unfold O3;simp only;rw[Bh];rfl)]
 simp[G]
theorem xm{r:Int×List (List Int)}(h:Kg r.2):Ln r=some r:=by
 unfold Ln
 simp[lz h,G]
def GR(d:List Tp)(nm:List UInt8):(Int×List (List Int))×Bool:=if dbB d=true then(match d.find? (λt=>t.1==nm)with|some t=>(t.2,true)|none=>((0,[]),false))else((0,[]),false)
theorem ri{d:List Tp}(h:Ut d)(nm:List UInt8):HH d nm=some (GR d nm):=by
 unfold HH GR
 cases hd:dbB d with
 |true=>
  rw[cA (a:=d) (λt=>t.1==nm) (λt=>(t.2,true)) h.1 (λk hk rec=>by
   have hr:=h.2 _ (Ag hk)
   unfold ES
   rw[Bl hk,AK hk,Bn hk (Bd h.1),AaG h,hd]
   simp only[Ab,G,ra hr.2]) (λrec=>by unfold ES;rw[Bh];rfl)]
  simp only[G,ED]
  cases d.find? (λt=>t.1==nm)<;>rfl
 |false=>
  have:An (ES d nm) fz 0=some (.inl ()):=by
   refine D7 (body:=ES d nm) (λ_=>0) 0 (λk hk=>absurd hk (by omega)) (λrec=>?_) fz (by unfold fz;omega)
   unfold ES
   rw[AaG h,hd]
   cases decide ((0:Int) < (d.length:Int))<;>rfl
  rw[this];rfl
theorem pd{d:List Tp}(h:Ut d)(nm:List UInt8):HA d nm=some (GR d nm):=by
 unfold HA HN GR
 simp only[Acf h,G]
 cases hd:dbB d with
 |true=>
  rw[cA (a:=d) (λt=>t.1==nm) (λt=>(t.2,true)) h.1 (λk hk rec=>by
   have hr:=h.2 _ (Ag hk)
   unfold Ky
   rw[Bl hk,AK hk,Bn hk (Bd h.1)]
   simp only[Ab,G,xm hr.2]) (λrec=>by unfold Ky;rw[Bh];rfl)]
  simp only[Ab,ED]
  cases d.find? (λt=>t.1==nm)<;>rfl
 |false=>rfl
def I4(l:List Int)(k:Nat)(e:Int):Bool:=decide (0 < k)&&Jz l (k - 1) λq=>decide (e<=q)
theorem Bq{S O:Type}(body:(S->Option O)->S->Option O)(n:Nat)(s:S):An body (n+1) s=body (An body n) s:=rfl
def Sa(l:List Int)(rec:Int->Option (Sum Unit Bool))(i:Int):Option (Sum Unit Bool):=if i=0 then(if l.length=0 then some (.inl ())else rec 1)else B5 l rec i
theorem Ab9{l:List Int}(h:l.length<=lim):Gv l=some (!BV l (I4 l)):=by
 unfold Gv BV
 have hB:An (B5 l) fz 1=some (cond ((List.range l.length).any λk=>Jz l k (I4 l k)) (.inr false) (.inl ())):=by
  have h0:=ZG (M:=fz+1) (B:=Sa l) (λk=>Jz l k (I4 l k)) (Nat.lt_succ_of_lt (EO h)) (λk hk rec=>by
   by_cases hz:k=0
   ·subst hz
    rw[CD hk]
    unfold Sa
    rw[AH (show((0:Nat):Int)=0 from rfl),AE (by omega)]
    simp[I4]
   ·have hk':k - 1 < l.length:=by omega
    have hz':¬((k:Int)=0):=by omega
    unfold Sa
    rw[AE hz']
    unfold B5
    rw[Bl hk,AK hk,Bn hk (Bd h),bV hk (by omega) (Bd h),AK hk',CD hk]
    simp only[Ab,G,I4]
    rw[CD hk',Ah (by omega:0 < k)]
    simp only[AJ]) (λrec=>by
   by_cases hz:l.length=0
   ·unfold Sa;rw[hz];rfl
   ·have hz':¬((l.length:Int)=0):=by omega
    unfold Sa
    rw[AE hz']
    unfold B5
    rw[Bh];rfl)
  have same:∀m (k:Nat),0 < k->An (Sa l) m (k:Int)=An (B5 l) m (k:Int):=by
   intro m
   induction m with
   |zero=>intro k _;rfl
   |succ m ih=>
    intro k hk
    have hz:¬((k:Int)=0):=by omega
    have ea:∀rec,Sa l rec (k:Int)=B5 l rec (k:Int):=λrec=>by unfold Sa;rw[AE hz]
    show Sa l (An (Sa l) m) (k:Int)=B5 l (An (B5 l) m) (k:Int)
    rw[ea]
    have e:∀rec,B5 l rec (k:Int)=cond (decide ((k:Int) < (List.length l:Int))) (G (AI l (IntKind.i64.wrap ((k:Int) - 1))) λe5=>G (AI l (k:Int)) λe7=>cond (decide (e7<=e5)) (some (.inr false)) (rec (IntKind.i64.wrap ((k:Int)+1)))) (some (.inl ())):=λrec=>rfl
    rw[e,e]
    by_cases q:k < l.length
    ·rw[Bn q (Bd h),ih (k+1) (by omega)]
    ·rw[Af (by omega:¬(k:Int) < (l.length:Int))];rfl
  by_cases hz:l.length=0
  ·have e1:(List.range l.length).any (λk=>Jz l k (I4 l k))=false:=by rw[hz];rfl
   rw[e1]
   refine D7 (body:=B5 l) (λ_=>1) 0 (λk hk=>absurd hk (by omega)) (λrec=>?_) fz (by unfold fz;omega)
   unfold B5
   rw[hz];rfl
  ·have h2:An (Sa l) (fz+1) 0=An (B5 l) fz ((1:Nat):Int):=by
    have e0:∀rec,Sa l rec 0=rec 1:=λrec=>by unfold Sa;rw[AH rfl,AE hz]
    rw[Bq,e0]
    exact same fz 1 (by omega)
   rw[h2]at h0
   exact h0
 rw[hB]
 cases(List.range l.length).any λk=>Jz l k (I4 l k)<;>rfl
theorem Yf{O:Type}{B:(Int->Option (Sum Unit O))->Int->Option (Sum Unit O)}{n:Nat}(g:Nat->Option O)(hn:n<=lim)
  (h1:∀k,k < n->∀rec,B rec (k:Int)=match g k with|some o=>some (.inr o)|none=>rec ((k+1:Nat):Int)) (h2:∀rec,B rec (n:Int)=some (.inl ())):
  An B fz 0=some (match(List.range n).findSome? g with|some o=>.inr o|none=>.inl ()):=by
 have key:∀d k,k+d=n->∀m,d < m->An B m (k:Int)=some (match(List.range' k d).findSome? g with|some o=>.inr o|none=>.inl ()):=by
  intro d
  induction d with
  |zero=>
   intro k hk m hm
   cases m with
   |zero=>omega
   |succ m=>
    show B (An B m) (k:Int)=_
    rw[show k=n by omega,h2];rfl
  |succ d ih=>
   intro k hk m hm
   cases m with
   |zero=>omega
   |succ m=>
    show B (An B m) (k:Int)=_
    rw[h1 k (by omega),C8,List.findSome?_cons]
    cases hg:g k with
    |some o=>rfl
    |none=>exact ih (k+1) (by omega) m (by omega)
 have:=key n 0 (by omega) fz (EO hn)
 rw[F8]
 simpa using this
theorem H6{α:Type}{l:List α}{f:Nat->α->Bool}(h:BV l f=false){k:Nat}(hk:k < l.length):f k l[k]=false:=by
 unfold BV at h
 rw[CG]at h
 have:=h k (AL.2 hk)
 rw[CD hk]at this
 simpa using this
def NH(row:List Int)(c:Int):Int:=(AI row c).getD 0
def Sv(row cols:List Int):List Int:=cols.map (NH row)
theorem ln{row:List Int}{c:Int}(h:0<=c∧c < row.length):AI row c=some (NH row c):=by
 unfold NH AI
 rw[AH h.1,Ad (by omega)];rfl
theorem AaF{row cols:List Int}(hl:cols.length<=lim)(h:∀c∈cols,0<=c∧c < row.length):RN row cols=some (Sv row cols):=by
 unfold RN
 rw[J6 (a:=cols) (h:=NH row) hl (λk hk rec=>by
  unfold Rk
  simp only
  rw[Bl hk,AK hk,Bn hk (Bd hl)]
  simp only[Ab,G,ln (h _ (Ag hk))]
  rw[AN (by simp only[Aj,At,Ao];unfold lim at *;omega)]) (λrec y=>by unfold Rk;simp only;rw[Bh];rfl)]
 rfl
theorem pg{row cols:List Int}(hl:cols.length<=lim)(h:∀c∈cols,0<=c∧c < row.length):QC row cols=some (Sv row cols):=by
 unfold QC
 rw[J6 (a:=cols) (h:=NH row) hl (λk hk rec=>by
  unfold SV
  simp only
  rw[Bl hk,AK hk,Bn hk (Bd hl)]
  simp only[Ab,G,ln (h _ (Ag hk))]
  rw[AN (by simp only[Aj,At,Ao];unfold lim at *;omega)]) (λrec y=>by unfold SV;simp only;rw[Bh];rfl)]
 rfl
theorem nR{S:Type}{B:(S×Int->Option (Sum S Bool))->S×Int->Option (Sum S Bool)}{n:Nat}(s:Nat->S)(bad:Nat->Bool)(hn:n<=lim)(h1:∀k,k < n->∀rec,B rec (s k,(k:Int))=cond (bad k) (some (.inr false)) (rec (s (k+1),((k+1:Nat):Int))))(h2:∀rec,B rec (s n,(n:Int))=some (.inl (s n))):
  An B fz (s 0,0)=some (cond ((List.range n).any bad) (.inr false) (.inl (s n))):=by
 have key:∀d k,k+d=n->(∀j,j < k->bad j=false)->∀m,d < m->An B m (s k,(k:Int))=some (cond ((List.range n).any bad) (.inr false) (.inl (s n))):=by
  intro d
  induction d with
  |zero=>
   intro k hk hb m hm
   cases m with
   |zero=>omega
   |succ m=>
    have hkn:k=n:=by omega
    have:(List.range n).any bad=false:=by
     rw[CG]
     intro x hx
     rw[hb x (by have:=AL.1 hx;omega)];simp
    show B (An B m) (s k,(k:Int))=_
    rw[hkn,h2,this];rfl
  |succ d ih=>
   intro k hk hb m hm
   cases m with
   |zero=>omega
   |succ m=>
    show B (An B m) (s k,(k:Int))=_
    rw[h1 k (by omega)]
    cases hbk:bad k with
    |true=>
     have:(List.range n).any bad=true:=by rw[Dj];exact⟨k,AL.2 (by omega),hbk⟩
     rw[this];rfl
    |false=>
     exact ih (k+1) (by omega) (λj hj=>by
      rcases A8 j k with h|h
      ·exact hb j h
      ·rw[show j=k by omega];exact hbk) m (by omega)
 have:=key n 0 (by omega) (λj hj=>absurd hj (by omega)) fz (EO hn)
 simpa using this
def T8(l:List Int)(v:Int):Option Nat:=(List.range l.length).findSome? λk=>if(Jz l k λe=>e==v)=true then some k else none
theorem VN(l:List Int)(v:Int):(T8 l v).isSome=l.contains v:=by
 unfold T8
 rw[Cn,List.findSome?_isSome_iff,Bk]
 constructor
 ·rintro⟨k,hk,h⟩
  have hk:=AL.1 hk
  split at h
  ·rename_i he;rw[CD hk]at he;have:l[k]=v:=by simpa using he
   rw[<-this];exact Ag hk
  ·cases h
 ·intro h
  obtain⟨k,hk,rfl⟩:=Bi.1 h
  exact⟨k,AL.2 hk,by rw[CD hk];simp⟩
def FY(l:List Int)(v:Int):Int:=match T8 l v with
 |some k=>(k:Int)
 |none=> -1
theorem Sw(l:List Int)(v:Int):decide (0<=FY l v)=l.contains v:=by
 rw[<-VN]
 unfold FY
 cases T8 l v with
 |some k=>simp
 |none=>rfl
theorem Ye{l:List Int}(h:l.length<=lim)(v:Int):Jq l v=some (FY l v):=by
 unfold Jq FY T8
 rw[Yf (O:=Int) (λk=>if(Jz l k λe=>e==v)=true then some (k:Int)else none) h (λk hk rec=>by
  unfold Rm
  rw[Bl hk,AK hk,Bn hk (Bd h),CD hk]
  simp only[Ab,G]
  cases(l[k]==v)<;>rfl) (λrec=>by unfold Rm;rw[Bh];rfl)]
 have e:((List.range l.length).findSome? λk=>if(Jz l k λe=>e==v)=true then some (k:Int)else none)=((List.range l.length).findSome? λk=>if(Jz l k λe=>e==v)=true then some k else none).map (λk:Nat=>(k:Int)):=by
  rw[LV]
  congr 1
  funext k
  simp only[Function.comp]
  split<;>rfl
 rw[e]
 cases(List.range l.length).findSome? λk=>if(Jz l k λe=>e==v)=true then some k else none<;>rfl
theorem jI{l:List Int}(h:l.length<=lim)(v:Int):Me l v=some (FY l v):=by
 unfold Me FY T8
 rw[Yf (O:=Int) (λk=>if(Jz l k λe=>e==v)=true then some (k:Int)else none) h (λk hk rec=>by
  unfold PX
  rw[Bl hk,AK hk,Bn hk (Bd h),CD hk]
  simp only[Ab,G]
  cases(l[k]==v)<;>rfl) (λrec=>by unfold PX;rw[Bh];rfl)]
 have e:((List.range l.length).findSome? λk=>if(Jz l k λe=>e==v)=true then some (k:Int)else none)=((List.range l.length).findSome? λk=>if(Jz l k λe=>e==v)=true then some k else none).map (λk:Nat=>(k:Int)):=by
  rw[LV]
  congr 1
  funext k
  simp only[Function.comp]
  split<;>rfl
 rw[e]
 cases(List.range l.length).findSome? λk=>if(Jz l k λe=>e==v)=true then some k else none<;>rfl
theorem pb{l:List Int}(h:l.length<=lim)(v:Int):NA l v=some (l.contains v):=by
 unfold NA
 simp only[jI h,G,Sw]
abbrev RQ:=List UInt8×List Int
abbrev MQ:=Int×List RQ×List Int
theorem rc{a:RQ}(h:a.2.length<=lim)(v:Int):D2 a v=some (a.2.contains v):=by
 unfold D2
 rw[Yf (O:=Bool) (λk=>if(Jz a.2 k λe=>e==v)=true then some true else none) h (λk hk rec=>by
  unfold Jx
  rw[Bl hk,AK hk,Bn hk (Bd h),CD hk]
  simp only[Ab,G]
  cases(a.2[k]==v)<;>rfl) (λrec=>by unfold Jx;rw[Bh];rfl)]
 rw[<-VN]
 have e:((List.range a.2.length).findSome? λk=>if(Jz a.2 k λe=>e==v)=true then some true else none)=(T8 a.2 v).map (λ_=>true):=by
  unfold T8
  rw[LV]
  congr 1
  funext k
  simp only[Function.comp]
  split<;>rfl
 rw[e]
 cases T8 a.2 v<;>rfl
def Hu(n:Int)(l:List Int)(k:Nat)(e:Int):Bool:= !G9 e 0 (IntKind.i64.wrap (n - 1)) || (l.take k).contains e
theorem W8{α:Type}(l:List α)(k:Nat):CC l 0 (k:Int)=l.take k:=by simp[CC]
theorem pl{l:List Int}(h:l.length<=lim)(n:Int):Mf l n=some (!BV l (Hu n l)):=by
 unfold Mf BV
 rw[EU (λk=>Jz l k (Hu n l k)) h (λk hk rec=>by
  unfold PY
  rw[Bl hk,AK hk,Bn hk (Bd h),CD hk]
  simp only[Ab,G,Hx]
  rw[AN (by omega),W8]
  simp only[pb (l:=l.take k) (by rw[At];omega),Hu]
  cases G9 l[k] 0 (IntKind.i64.wrap (n - 1))<;>rfl) (λrec=>by unfold PY;rw[Bh];rfl)]
 cases(List.range l.length).any λk=>Jz l k (Hu n l k)<;>rfl
def NI(n:Int)(a:RQ):Bool:= !nmB a.1 || (!G9 (a.2.length:Int) 1 5 || BV a.2 λ_ v=> !G9 v 0 (IntKind.i64.wrap (n - 1)))
def Vz(q:MQ):Prop:=q.2.1.length<=lim∧(∀a∈q.2.1,a.1.length<=lim∧a.2.length<=lim)∧q.2.2.length<=lim
def JA(l:List RQ)(v:Int):Bool:=l.any λa=>a.2.contains v
theorem uJ{q:MQ}(h:Vz q):An (Jd q) fz 0=some (cond (BV q.2.1 λ_ a=>NI q.1 a) (.inr false) (.inl ())):=by
 unfold BV
 refine EU (λk=>Jz q.2.1 k λa=>NI q.1 a) h.1 (λk hk rec=>?_) (λrec=>by unfold Jd;rw[Bh];rfl)
 have ha:=h.2.1 _ (Ag hk)
 unfold Jd
 rw[Bl hk,AK hk,Bn hk (Bd h.1),CD hk]
 simp only[Ab,G,rj ha.1,Lc,NI]
 cases nmB q.2.1[k].1 with
 |false=>rfl
 |true=>
  cases G9 (q.2.1[k].2.length:Int) 1 5 with
  |false=>rfl
  |true=>
   simp only[Ai,Aa,CX]
   rw[EU (λj=>Jz q.2.1[k].2 j λv=> !G9 v 0 (IntKind.i64.wrap (q.1 - 1))) ha.2 (λj hj rec=>by
    unfold L6
    rw[AK hk]
    simp only[G]
    rw[Bl hj,AK hj,Bn hj (Bd ha.2),CD hj]
    simp only[Ab,Lc]) (λrec=>by unfold L6;rw[AK hk];simp only[G];rw[Bh];rfl)]
   unfold BV
   cases(List.range q.2.1[k].2.length).any λj=>Jz q.2.1[k].2 j λv=> !G9 v 0 (IntKind.i64.wrap (q.1 - 1))<;>rfl
theorem AaR{q:MQ}(h:Vz q)(v:Int):An (FQ q v) fz (false,0)=some (JA q.2.1 v):=by
 have:=D7 (body:=FQ q v) (out:=JA q.2.1 v) (λk=>(JA (q.2.1.take k) v,(k:Int))) q.2.1.length (λk hk rec=>by
  have ha:=h.2.1 _ (Ag hk)
  unfold FQ Jg
  simp only
  rw[Bl hk,AK hk,Bn hk (Bd h.1)]
  simp only[Ab,G,rc ha.2]
  have e:JA (q.2.1.take (k+1)) v=(JA (q.2.1.take k) v || q.2.1[k].2.contains v):=by
   unfold JA
   rw[A9 hk,List.any_append];simp
  rw[e]
  cases JA (q.2.1.take k) v<;>rfl) (λrec=>by unfold FQ;simp only;rw[Bh,By];rfl) fz (EO h.1)
 simpa[JA]using this
theorem uN{q:MQ}(h:Vz q)(hn:1<=q.1∧q.1<=5):An (Je q) fz 0=some (cond ((List.range q.1.toNat).any λv=> !JA q.2.1 (v:Int)) (.inr false) (.inl ())):=by
 have e:q.1=(q.1.toNat:Int):=by omega
 refine EU (λv=> !JA q.2.1 (v:Int)) (by unfold lim;omega) (λk hk rec=>?_) (λrec=>by
  unfold Je
  rw[Af (by omega:¬((q.1.toNat:Nat):Int) < q.1)];rfl)
 unfold Je
 rw[Ah (by omega:(k:Int) < q.1),AaR h,wrap_in (by omega)]
 simp only[Ab,G]
 rfl
theorem AdH{q:MQ}(h:Vz q):An (Jf q) fz 0=some (cond (BV q.2.2 (Hu q.1 q.2.2)) (.inr false) (.inl ())):=by
 unfold BV
 refine EU (λk=>Jz q.2.2 k (Hu q.1 q.2.2 k)) h.2.2 (λk hk rec=>?_) (λrec=>by unfold Jf;rw[Bh];rfl)
 unfold Jf
 rw[Bl hk,AK hk,Bn hk (Bd h.2.2),CD hk]
 simp only[Ab,G,Lc]
 rw[AN (by omega),W8]
 simp only[Ye (l:=q.2.2.take k) (by rw[At];have:=h.2.2;omega),Sw,Hu]
 cases G9 q.2.2[k] 0 (IntKind.i64.wrap (q.1 - 1))<;>rfl
def KP(q:MQ):Bool:=G9 q.1 1 5&&(G9 (q.2.1.length:Int) 1 4&&(!BV q.2.2 (Hu q.1 q.2.2)&&(!(BV q.2.1 λ_ a=>NI q.1 a)&& !((List.range q.1.toNat).any λv=> !JA q.2.1 (v:Int)))))
theorem few:∀(n:Nat) (l:List Int),l.Nodup->(∀e∈l,0<=e∧e < (n:Int))->l.length<=n
 |0,l,_,h=>by
  cases l with
  |nil=>simp
  |cons e l=>have:=h e (by simp);omega
 |n+1,l,hd,h=>by
  have h1:=few n (l.erase (n:Int)) (hd.erase _) (λe he=>by
   have h2:=h e (List.mem_of_mem_erase he)
   have h3:e≠(n:Int):=λq=>by subst q;exact(List.Nodup.not_mem_erase hd) he
   omega)
  have h2:=List.length_erase (a:=(n:Int)) (l:=l)
  split at h2<;>omega
theorem uW{n:Int}(hn:1<=n∧n<=5){l:List Int}(h:BV l (Hu n l)=false):(l.length:Int)<=n:=by
 have hw:IntKind.i64.wrap (n - 1)=n - 1:=wrap_in (by omega)
 have hin:∀e∈l,0<=e∧e < (n.toNat:Int):=by
  intro e he
  obtain⟨k,hk,rfl⟩:=Bi.1 he
  have:=H6 h hk
  unfold Hu G9 at this
  simp only[Co,Db,Ac,BB,hw]at this
  omega
 have hd:l.Nodup:=by
  rw[CE,Cf]
  intro i j hi hj hij he
  have:=H6 h hj
  unfold Hu at this
  simp only[Co]at this
  have h2:=this.2
  have:(l.take j).contains l[j]=true:=by
   rw[Bk,Bi]
   exact⟨i,by rw[At];omega,by rw[JN];exact he⟩
  rw[this]at h2;cases h2
 have:=few n.toNat l hd hin
 omega
theorem Zu{q:MQ}(h:Vz q):Gc q=some (KP q):=by
 unfold Gc KP
 simp only[Lc,G,uJ h,AdH h]
 cases hb:G9 q.1 1 5 with
 |false=>rfl
 |true=>
  have hn:1<=q.1∧q.1<=5:=by unfold G9 at hb;simpa using hb
  rw[uN h hn]
  cases G9 (q.2.1.length:Int) 1 4 with
  |false=>rfl
  |true=>
   by_cases hl:q.1 < (q.2.2.length:Int)
   ·rw[Ah hl]
    have:BV q.2.2 (Hu q.1 q.2.2)=true:=by
     cases hs:BV q.2.2 (Hu q.1 q.2.2)with
     |true=>rfl
     |false=>have:=uW hn hs;omega
    rw[this];rfl
   ·rw[Af hl]
    cases BV q.2.2 (Hu q.1 q.2.2)<;>cases(BV q.2.1 λ_ a=>NI q.1 a)<;>cases((List.range q.1.toNat).any λv=> !JA q.2.1 (v:Int))<;>rfl
def uL(m:Nat)(f:Nat->Bool):List Bool:=(List.range m).map f
theorem fE(m:Nat)(f:Nat->Bool):(uL m f).length=m:=by simp[uL]
theorem Aa4{m v:Nat}(f:Nat->Bool):(uL m f).set v true=uL m (λu=>f u || u==v):=by
 apply Ej
 ·simp[uL]
 ·intro i h1 h2
  rw[Ek]
  simp only[uL,BJ,EJ]
  split
  ·rename_i e;subst e;simp
  ·rename_i e
   have:(i==v)=false:=by simp;omega
   rw[this];simp
theorem tp{q:MQ}(h:Vz q)(hn:1<=q.1∧q.1<=5):An (GI q) fz (List.replicate (Int.toNat q.1) false,0)=some (cond (BV q.2.1 λ_ a=>NI q.1 a) (.inr false) (.inl (uL q.1.toNat λv=>JA q.2.1 (v:Int)))):=by
 have hw:IntKind.i64.wrap (q.1 - 1)=q.1 - 1:=wrap_in (by omega)
 have h0:List.replicate (Int.toNat q.1) false=uL q.1.toNat λv=>JA (q.2.1.take 0) (v:Int):=by
  unfold uL JA
  simp[List.map_const']
 rw[h0]
 unfold BV
 have:=nR (B:=GI q) (n:=q.2.1.length) (λk=>uL q.1.toNat λv=>JA (q.2.1.take k) (v:Int)) (λk=>Jz q.2.1 k λa=>NI q.1 a) h.1 (λk hk rec=>by
  have ha:=h.2.1 _ (Ag hk)
  unfold GI
  simp only
  rw[Bl hk,AK hk,Bn hk (Bd h.1),CD hk]
  simp only[Ab,G,pf ha.1,Hx,NI]
  cases nmB q.2.1[k].1 with
  |false=>rfl
  |true=>
   cases G9 (q.2.1[k].2.length:Int) 1 5 with
   |false=>rfl
   |true=>
    simp only[Ai,Aa,CX]
    have hin:=nR (B:=IU q q.2.1[k]) (n:=q.2.1[k].2.length) (λj=>uL q.1.toNat λv=>JA (q.2.1.take k) (v:Int) || (q.2.1[k].2.take j).contains (v:Int)) (λj=>Jz q.2.1[k].2 j λv=> !G9 v 0 (IntKind.i64.wrap (q.1 - 1))) ha.2 (λj hj rec=>by
     unfold IU
     simp only
     rw[Bl hj,AK hj,Bn hj (Bd ha.2),CD hj]
     simp only[Ab,G,Hx]
     cases hb:G9 q.2.1[k].2[j] 0 (IntKind.i64.wrap (q.1 - 1))with
     |false=>rfl
     |true=>
      have hv:0<=q.2.1[k].2[j]∧q.2.1[k].2[j]<=q.1 - 1:=by rw[hw]at hb;unfold G9 at hb;simpa using hb
      have hvn:q.2.1[k].2[j]=((q.2.1[k].2[j].toNat:Nat):Int):=by omega
      simp only[Ai,Aa]
      rw[hvn,AK (by rw[fE];omega)]
      simp only
      congr 2
      unfold Dl
      rw[As,Aa4 _]
      congr 1
      funext u
      rw[A9 hj,List.contains_append,Bool.or_assoc]
      congr 1
      congr 1
      rw[hvn]
      simp only[List.contains_cons,List.contains_nil,Bool.or_false]
      rw[Cn]
      simp
      omega) (λrec=>by unfold IU;simp only;rw[Bh];rfl)
    have e0:(uL q.1.toNat λv=>JA (q.2.1.take k) (v:Int) || (q.2.1[k].2.take 0).contains (v:Int))=uL q.1.toNat λv=>JA (q.2.1.take k) (v:Int):=by
     unfold uL;simp
    have e1:(uL q.1.toNat λv=>JA (q.2.1.take k) (v:Int) || (q.2.1[k].2.take q.2.1[k].2.length).contains (v:Int))=uL q.1.toNat λv=>JA (q.2.1.take (k+1)) (v:Int):=by
     congr 1
     funext v
     unfold JA
     rw[By,A9 hk,List.any_append];simp
    simp only[e0,e1]at hin
    rw[hin]
    unfold BV
    cases(List.range q.2.1[k].2.length).any λj=>Jz q.2.1[k].2 j λv=> !G9 v 0 (IntKind.i64.wrap (q.1 - 1))<;>rfl) (λrec=>by unfold GI;simp only;rw[Bh];rfl)
 rw[By]at this
 exact this
theorem Wp{q:MQ}(h:Vz q):E9 q=some (KP q):=by
 unfold E9 KP
 simp only[Hx,G,pl h.2.2]
 cases hb:G9 q.1 1 5 with
 |false=>rfl
 |true=>
  have hn:1<=q.1∧q.1<=5:=by unfold G9 at hb;simpa using hb
  cases G9 (q.2.1.length:Int) 1 4 with
  |false=>rfl
  |true=>
   cases BV q.2.2 (Hu q.1 q.2.2)with
   |true=>rfl
   |false=>
    simp only[Ai,C7,Aa,AJ]
    rw[AN (by unfold lim;omega),tp h hn]
    cases(BV q.2.1 λ_ a=>NI q.1 a)with
    |true=>rfl
    |false=>
     simp only[Aa,C7,AJ]
     rw[EU (n:=(uL q.1.toNat λv=>JA q.2.1 (v:Int)).length) (λk=> !JA q.2.1 (k:Int)) (by rw[fE];unfold lim;omega) (λk hk rec=>by
      unfold LK
      rw[Bl hk,AK hk,Bn hk (by rw[fE];unfold maxLen;omega)]
      simp only[Ab,G,uL,BJ,EJ]) (λrec=>by unfold LK;rw[Bh];rfl),fE]
     cases(List.range q.1.toNat).any λv=> !JA q.2.1 (v:Int)<;>rfl
theorem OV{α:Type}{l:List α}{f:α->Bool}(h:BV l (λ_ e=>f e)=false){a:α}(ha:a∈l):f a=false:=by
 obtain⟨k,hk,rfl⟩:=Bi.1 ha
 exact H6 h hk
theorem nv{q:MQ}(h:KP q=true):1<=q.1∧q.1<=5∧q.2.1.length<=4∧∀a∈q.2.1,1<=a.2.length∧a.2.length<=5∧∀v∈a.2,0<=v∧v < q.1:=by
 unfold KP at h
 simp only[Ac,AT]at h
 obtain⟨h1,h2,-,h4,-⟩:=h
 have e1:1<=q.1∧q.1<=5:=by unfold G9 at h1;simpa using h1
 have e2:1<=(q.2.1.length:Int)∧(q.2.1.length:Int)<=4:=by unfold G9 at h2;simpa using h2
 refine⟨e1.1,e1.2,by omega,λa ha=>?_⟩
 have h5:=OV h4 ha
 unfold NI at h5
 simp only[Co,Db]at h5
 have e3:1<=(a.2.length:Int)∧(a.2.length:Int)<=5:=by have:=h5.2.1;unfold G9 at this;simpa using this
 refine⟨by omega,by omega,λv hv=>?_⟩
 have h6:=OV h5.2.2 hv
 simp only[Db]at h6
 rw[wrap_in (by omega)]at h6
 have:0<=v∧v<=q.1 - 1:=by unfold G9 at h6;simpa using h6
 omega
theorem QB{α:Type}{l:List α}{f:Nat->α->Bool}(h:∀i (hi:i < l.length),f i l[i]=false):BV l f=false:=by
 unfold BV
 rw[CG]
 intro k hk
 have hk:=AL.1 hk
 rw[CD hk,h k hk]
 simp
def Ip(d:List Tp)(a:RQ):Bool:=(GR d a.1).2&&((GR d a.1).1.1==(a.2.length:Int))
def Ks(d:List Tp)(q:MQ):Bool:=KP q&&(dbB d&& !BV q.2.1 λ_ a=> !Ip d a)
theorem rp{d:List Tp}{q:MQ}(h:Ut d)(hq:Vz q):KS d q=some (Ks d q):=by
 unfold KS Ks BV
 rw[EU (λk=>Jz q.2.1 k λa=> !Ip d a) hq.1 (λk hk rec=>by
  unfold Nu
  rw[Bl hk,AK hk,Bn hk (Bd hq.1),CD hk]
  simp only[Ab,G,ri h,Ip]
  cases(GR d q.2.1[k].1).2 with
  |false=>rfl
  |true=>
   simp only[Ai,Aa,AJ,bne]) (λrec=>by unfold Nu;rw[Bh];rfl)]
 simp only[Zu hq,AaG h,G,KH]
 cases(List.range q.2.1.length).any λk=>Jz q.2.1 k λa=> !Ip d a<;>cases KP q<;>cases dbB d<;>rfl
theorem pi{d:List Tp}{q:MQ}(h:Ut d)(hq:Vz q):KL d q=some (Ks d q):=by
 unfold KL Ks BV
 simp only[Wp hq,Acf h,G]
 rw[EU (λk=>Jz q.2.1 k λa=> !Ip d a) hq.1 (λk hk rec=>by
  unfold Nj
  rw[Bl hk,AK hk,Bn hk (Bd hq.1),CD hk]
  simp only[Ab,G,pd h,Ip]
  cases(GR d q.2.1[k].1).2 with
  |false=>rfl
  |true=>
   simp only[Ai,Aa,AJ,bne]) (λrec=>by unfold Nj;rw[Bh];rfl)]
 cases(List.range q.2.1.length).any λk=>Jz q.2.1 k λa=> !Ip d a<;>cases KP q<;>cases dbB d<;>rfl
theorem rl{l:List Int}(h:l.length<=lim):Il l=some (!BV l (Hu (l.length:Int) l)&&decide ((l.length:Int)<=5)):=by
 unfold Il BV
 rw[EU (λk=>Jz l k (Hu (l.length:Int) l k)) h (λk hk rec=>by
  unfold Ld
  rw[Bl hk,AK hk,Bn hk (Bd h),CD hk]
  simp only[Ab,G,Lc]
  rw[AN (by omega),W8]
  simp only[Ye (l:=l.take k) (by rw[At];omega),Sw,Hu]
  cases G9 l[k] 0 (IntKind.i64.wrap ((l.length:Int) - 1))<;>rfl) (λrec=>by unfold Ld;rw[Bh];rfl)]
 cases(List.range l.length).any λk=>Jz l k (Hu (l.length:Int) l k)<;>simp[G]
def Un(q:MQ)(o:List Int):Bool:=KP q&&(((o.length:Int)==q.1)&& !BV o (Hu q.1 o))
theorem TC{q:MQ}(h:KP q=true):1<=q.1∧q.1<=5:=by
 unfold KP G9 at h
 simp only[Ac,BB]at h
 exact h.1
theorem uR{q:MQ}{o:List Int}(hq:Vz q)(ho:o.length<=lim):Ly q o=some (Un q o):=by
 unfold Ly G0 Un
 simp only[Zu hq,rl ho,G]
 cases hv:KP q with
 |false=>rfl
 |true=>
  have hn:=TC hv
  cases hl:((o.length:Int)==q.1)with
  |false=>rfl
  |true=>
   have hl:(o.length:Int)=q.1:=by simpa using hl
   rw[hl,Ah hn.2]
   simp
theorem tw{q:MQ}{o:List Int}(hq:Vz q)(ho:o.length<=lim):Lk q o=some (Un q o):=by
 unfold Lk GH Un
 simp only[Wp hq,pl ho,G]
 cases KP q with
 |false=>rfl
 |true=>cases((o.length:Int)==q.1)<;>rfl
theorem Bz{α β:Type}(a:α)(f:α->Option β):G (some a) f=f a:=rfl
theorem wH{S O:Type}(v:O){B:(S×Int->Option (Sum S O))->S×Int->Option (Sum S O)}{n:Nat}(s:Nat->S)(bad:Nat->Bool)(hn:n<=lim)(h1:∀k,k < n->∀rec,B rec (s k,(k:Int))=cond (bad k) (some (.inr v)) (rec (s (k+1),((k+1:Nat):Int))))(h2:∀rec,B rec (s n,(n:Int))=some (.inl (s n))):
  An B fz (s 0,0)=some (cond ((List.range n).any bad) (.inr v) (.inl (s n))):=by
 have key:∀d k,k+d=n->(∀j,j < k->bad j=false)->∀m,d < m->An B m (s k,(k:Int))=some (cond ((List.range n).any bad) (.inr v) (.inl (s n))):=by
  intro d
  induction d with
  |zero=>
   intro k hk hb m hm
   cases m with
   |zero=>omega
   |succ m=>
    have hkn:k=n:=by omega
    have:(List.range n).any bad=false:=by
     rw[CG]
     intro x hx
     rw[hb x (by have:=AL.1 hx;omega)];simp
    show B (An B m) (s k,(k:Int))=_
    rw[hkn,h2,this];rfl
  |succ d ih=>
   intro k hk hb m hm
   cases m with
   |zero=>omega
   |succ m=>
    show B (An B m) (s k,(k:Int))=_
    rw[h1 k (by omega)]
    cases hbk:bad k with
    |true=>
     have:(List.range n).any bad=true:=by rw[Dj];exact⟨k,AL.2 (by omega),hbk⟩
     rw[this];rfl
    |false=>
     exact ih (k+1) (by omega) (λj hj=>by
      rcases A8 j k with h|h
      ·exact hb j h
      ·rw[show j=k by omega];exact hbk) m (by omega)
 have:=key n 0 (by omega) (λj hj=>absurd hj (by omega)) fz (EO hn)
 simpa using this
abbrev Rt:=Int×Int
theorem Ab0{B:(Int×Int->Option Int)->Int×Int->Option Int}(hB:∀rec a b,B rec (a,b)=cond (b !=0) (chk (b≠0) (rec (b,Int.tmod a b))) (some a)):
  ∀(k f m n:Nat),n < 2 ^ k->2 * k < f->An B f ((m:Int),(n:Int))=some ((Nat.gcd m n:Nat):Int):=by
 have hz:∀(f m:Nat),0 < f->An B f ((m:Int),((0:Nat):Int))=some ((Nat.gcd m 0:Nat):Int):=λf m hf=>by
  cases f with
  |zero=>omega
  |succ f=>rw[Bq,hB,Nat.gcd_zero_right];rfl
 have hs:∀(f m n:Nat),0 < n->An B (f+1) ((m:Int),(n:Int))=An B f ((n:Int),((m % n:Nat):Int)):=λf m n hn=>by
  rw[Bq,hB,show((n:Int)!=0)=true by rw[C4];omega,Ab,AN (by omega)]
  rfl
 have hg:∀m n:Nat,Nat.gcd m n=Nat.gcd n (m % n):=λm n=>by rw[Nat.gcd_comm m n,Nat.gcd_rec n m,Nat.gcd_comm]
 intro k
 induction k with
 |zero=>
  intro f m n hn hf
  obtain rfl:n=0:=by omega
  exact hz f m (by omega)
 |succ k ih=>
  intro f m n hn hf
  rcases Bv n with rfl|h0
  ·exact hz f m (by omega)
  ·obtain⟨f,rfl⟩:∃g,f=g+2:=⟨f - 2,by omega⟩
   rw[hs (f+1) m n h0,hg m n]
   rcases Bv (m % n)with h1|h1
   ·rw[h1];exact hz _ n (by omega)
   ·rw[hs f n (m % n) h1,hg n (m % n)]
    refine ih f _ _ ?_ (by omega)
    have h2:m % n < n:=Oh _ h0
    have h3:n % (m % n) < m % n:=Oh _ h1
    rw[DJ]at hn
    rcases A8 n (2 * (m % n))with h4|h4
    ·have h5:n % (m % n)=n - m % n:=by
      rw[Nat.mod_eq_sub_mod (by omega),Dk (by omega)]
     omega
    ·omega
theorem re(m n:Nat)(hn:n < 2 ^ 62):Pf (m:Int) (n:Int)=some ((Nat.gcd m n:Nat):Int):=by
 unfold Pf
 rw[Ab0 (λrec a b=>by simp only[VA]) 62 fz m n hn (by unfold fz;omega),Bz]
theorem o9(m n:Nat)(hn:n < 2 ^ 62):Sj (m:Int) (n:Int)=some ((Nat.gcd m n:Nat):Int):=by
 unfold Sj
 rw[Ab0 (λrec a b=>by simp only[Yw]) 62 fz m n hn (by unfold fz;omega),Bz]
def IE(r:Rt):Bool:=G9 r.2 1 1000000000&&(G9 r.1 (-1000000000) 1000000000&&(((Nat.gcd r.1.natAbs r.2.natAbs:Nat):Int)==1))
theorem dx{a:Int}(h:a.natAbs<=4000000000000000000):(if a < IntKind.i64.wrap (0 - a)then IntKind.i64.wrap (0 - a)else a)=(a.natAbs:Int):=by
 rw[wrap_in (by omega)]
 split<;>omega
theorem JE{x lo hi:Int}:G9 x lo hi=true↔lo<=x∧x<=hi:=by unfold G9;simp
theorem RH(r:Rt):Cg r=some (IE r):=by
 unfold Cg IE
 rw[Lc,Bz]
 cases h2:G9 r.2 1 1000000000 with
 |false=>rfl
 |true=>
  rw[Ab,Lc,Bz]
  cases h1:G9 r.1 (-1000000000) 1000000000 with
  |false=>rfl
  |true=>
   rw[JE]at h1 h2
   rw[Ab,dx (by omega)]
   have e:r.2=(r.2.natAbs:Int):=by omega
   have hg:=re r.1.natAbs r.2.natAbs (by omega)
   rw[<-e]at hg
   rw[hg];rfl
theorem gZ(r:Rt):Ea r=some (IE r):=by
 unfold Ea IE
 rw[Hx,Bz]
 cases h2:G9 r.2 1 1000000000 with
 |false=>rfl
 |true=>
  rw[Ab,Hx,Bz]
  cases h1:G9 r.1 (-1000000000) 1000000000 with
  |false=>rfl
  |true=>
   rw[JE]at h1 h2
   rw[Ab]
   unfold Uc
   rw[dx (by omega),Bz]
   have e:r.2=(r.2.natAbs:Int):=by omega
   have hg:=o9 r.1.natAbs r.2.natAbs (by omega)
   rw[<-e]at hg
   rw[hg];rfl
theorem IN{r:Rt}(h:IE r=true):1<=r.2∧r.2<=1000000000∧r.1.natAbs<=1000000000∧Nat.gcd r.1.natAbs r.2.natAbs=1:=by
 unfold IE at h
 simp only[Ac,JE,BU]at h
 exact⟨h.1.1,h.1.2,by omega,by omega⟩
def iM(n d:Int):Rt×Bool:=
 cond (IE (n.tdiv (Nat.gcd n.natAbs d.natAbs:Nat),d.tdiv (Nat.gcd n.natAbs d.natAbs:Nat))) ((n.tdiv (Nat.gcd n.natAbs d.natAbs:Nat),d.tdiv (Nat.gcd n.natAbs d.natAbs:Nat)),true) ((0,0),false)
def rNew(n d:Int):Rt×Bool:=
 cond (d==0) ((0,0),false) (cond (G9 n (-4000000000000000000) 4000000000000000000) (cond (G9 d (-4000000000000000000) 4000000000000000000) (cond (decide (d < 0)) (iM (-n) (-d)) (iM n d)) ((0,0),false)) ((0,0),false))
theorem Zz{n:Int}{g:Nat}(h:n.natAbs<=4000000000000000000):IntKind.i64.wrap (n.tdiv (g:Int))=n.tdiv (g:Int):=by
 have:=show(n.tdiv (g:Int)).natAbs=n.natAbs / (g:Int).natAbs from Int.natAbs_tdiv n (g:Int)
 have h2:n.natAbs / (g:Int).natAbs<=n.natAbs:=Nat.div_le_self _ _
 rw[<-this]at h2
 exact wrap_in (by omega)
theorem wd{n d:Int}(hn:n.natAbs<=4000000000000000000)(hd:0 < d∧d<=4000000000000000000):HI n d=some (iM n d):=by
 unfold HI iM
 have e:d=(d.natAbs:Int):=by omega
 have hg:=re n.natAbs d.natAbs (by omega)
 rw[<-e]at hg
 have hp:0 < Nat.gcd n.natAbs d.natAbs:=Nat.gcd_pos_of_pos_right _ (by omega)
 rw[dx hn,hg,Bz,AN (by omega),AN (by omega),Zz hn,Zz (by omega),RH,Bz]
 cases IE (n.tdiv (Nat.gcd n.natAbs d.natAbs:Nat),d.tdiv (Nat.gcd n.natAbs d.natAbs:Nat))<;>rfl
theorem vI{n d:Int}(hn:n.natAbs<=4000000000000000000)(hd:0 < d∧d<=4000000000000000000):HB n d=some (iM n d):=by
 unfold HB iM
 have e:d=(d.natAbs:Int):=by omega
 have hg:=o9 n.natAbs d.natAbs (by omega)
 rw[<-e]at hg
 have hp:0 < Nat.gcd n.natAbs d.natAbs:=Nat.gcd_pos_of_pos_right _ (by omega)
 unfold Uc
 rw[dx hn,Bz,hg,Bz,AN (by omega),AN (by omega),Zz hn,Zz (by omega),gZ,Bz]
 cases IE (n.tdiv (Nat.gcd n.natAbs d.natAbs:Nat),d.tdiv (Nat.gcd n.natAbs d.natAbs:Nat))<;>rfl
theorem kj(n d:Int):H2 n d=some (rNew n d):=by
 unfold H2 rNew
 have e4:IntKind.i64.wrap (0 - 4000000000000000000)= -4000000000000000000:=by decide
 cases h0:d==0 with
 |true=>rfl
 |false=>
  rw[Bw]at h0
  rw[Aa,Aa,e4,Lc,Bz]
  cases h1:G9 n (-4000000000000000000) 4000000000000000000 with
  |false=>rfl
  |true=>
   rw[Ai,Aa,Ab,Lc,Bz]
   cases h2:G9 d (-4000000000000000000) 4000000000000000000 with
   |false=>rfl
   |true=>
    rw[JE]at h1 h2
    rw[Ai,Aa,Ab]
    by_cases h:d < 0
    ·rw[Ah h,Ab,Ab,wrap_in (by omega),wrap_in (by omega),Ig,Ig]
     exact wd (by omega) (by omega)
    ·rw[Af h,Aa,Aa]
     exact wd (by omega) (by omega)
theorem jK(n d:Int):H0 n d=some (rNew n d):=by
 unfold H0 rNew
 cases h0:d==0 with
 |true=>rfl
 |false=>
  rw[Bw]at h0
  rw[Aa,Aa,Hx,Bz]
  cases h1:G9 n (-4000000000000000000) 4000000000000000000 with
  |false=>rfl
  |true=>
   rw[Ai,Aa,Ab,Hx,Bz]
   cases h2:G9 d (-4000000000000000000) 4000000000000000000 with
   |false=>rfl
   |true=>
    rw[JE]at h1 h2
    rw[Ai,Aa,Ab]
    by_cases h:d < 0
    ·rw[Ah h,Ab,Ab,wrap_in (by omega),wrap_in (by omega),Ig,Ig]
     exact vI (by omega) (by omega)
    ·rw[Af h,Aa,Aa]
     exact vI (by omega) (by omega)
theorem se{x y:Int}(hx:x.natAbs<=1000000000)(hy:y.natAbs<=1000000000):IntKind.i64.wrap (x * y)=x * y∧(x * y).natAbs<=1000000000000000000:=by
 have h:(x * y).natAbs<=1000000000 * 1000000000:=by rw[Int.natAbs_mul];exact ER hx hy
 exact⟨wrap_in (by omega),by omega⟩
def ce(a b:Rt):Rt×Bool:=cond (IE a) (cond (IE b) (rNew (a.1 * b.2+b.1 * a.2) (a.2 * b.2)) ((0,0),false)) ((0,0),false)
def KQ(a b:Rt):Rt×Bool:=cond (IE a) (cond (IE b) (rNew (a.1 * b.1) (a.2 * b.2)) ((0,0),false)) ((0,0),false)
def Ru(a b:Rt):Rt×Bool:=cond (IE a) (cond (IE b) (rNew (a.1 * b.2) (a.2 * b.1)) ((0,0),false)) ((0,0),false)
def Sy(a b:Rt):Rt×Bool:=cond (IE b) (ce a (-b.1,b.2)) ((0,0),false)
def kc(a b:Rt):Int:=cond (IE a) (cond (IE b) (cond (decide (a.1 * b.2 < b.1 * a.2)) (-1) (cond (decide (b.1 * a.2 < a.1 * b.2)) 1 0)) 0) 0
theorem YD{a b:Rt}(ha:IE a=true)(hb:IE b=true):IntKind.i64.wrap (a.1 * b.2)=a.1 * b.2∧IntKind.i64.wrap (b.1 * a.2)=b.1 * a.2∧IntKind.i64.wrap (a.2 * b.2)=a.2 * b.2∧IntKind.i64.wrap (a.1 * b.2+b.1 * a.2)=a.1 * b.2+b.1 * a.2∧IntKind.i64.wrap (a.1 * b.1)=a.1 * b.1∧IntKind.i64.wrap (a.2 * b.1)=a.2 * b.1:=by
 have fa:=IN ha
 have fb:=IN hb
 have h1:=se (x:=a.1) (y:=b.2) (by omega) (by omega)
 have h2:=se (x:=b.1) (y:=a.2) (by omega) (by omega)
 exact⟨h1.1,h2.1,(se (by omega) (by omega)).1,wrap_in (by omega),(se (by omega) (by omega)).1,(se (by omega) (by omega)).1⟩
theorem eo(a b:Rt):H9 a b=some (IE a&&IE b):=by
 unfold H9
 rw[gZ,Bz]
 cases IE a with
 |false=>rfl
 |true=>rw[Ab,gZ,Bz];rfl
theorem rq(a b:Rt):Kh a b=some (ce a b):=by
 unfold Kh ce
 rw[RH,Bz]
 cases ha:IE a with
 |false=>rfl
 |true=>
  rw[Ai,Aa,Ab,RH,Bz]
  cases hb:IE b with
  |false=>rfl
  |true=>
   obtain⟨e1,e2,e3,e4,e5,e6⟩:=YD ha hb
   rw[Ai,Aa,Ab,e1,e2,e3,e4,kj];rfl
theorem jJ(a b:Rt):JV a b=some (ce a b):=by
 unfold JV ce
 rw[eo,Bz]
 cases ha:IE a with
 |false=>rfl
 |true=>
  cases hb:IE b with
  |false=>rfl
  |true=>
   obtain⟨e1,e2,e3,e4,e5,e6⟩:=YD ha hb
   rw[Er,Ai,Aa,Ab,Ab,e1,e2,e3,e4,jK];rfl
theorem ru(a b:Rt):Kk a b=some (KQ a b):=by
 unfold Kk KQ
 rw[RH,Bz]
 cases ha:IE a with
 |false=>rfl
 |true=>
  rw[Ai,Aa,Ab,RH,Bz]
  cases hb:IE b with
  |false=>rfl
  |true=>
   obtain⟨e1,e2,e3,e4,e5,e6⟩:=YD ha hb
   rw[Ai,Aa,Ab,e5,e3,kj];rfl
theorem pk(a b:Rt):JZ a b=some (KQ a b):=by
 unfold JZ KQ
 rw[eo,Bz]
 cases ha:IE a with
 |false=>rfl
 |true=>
  cases hb:IE b with
  |false=>rfl
  |true=>
   obtain⟨e1,e2,e3,e4,e5,e6⟩:=YD ha hb
   rw[Er,Ai,Aa,Ab,Ab,e5,e3,jK];rfl
theorem rr(a b:Rt):Ki a b=some (Ru a b):=by
 unfold Ki Ru
 rw[RH,Bz]
 cases ha:IE a with
 |false=>rfl
 |true=>
  rw[Ai,Aa,Ab,RH,Bz]
  cases hb:IE b with
  |false=>rfl
  |true=>
   obtain⟨e1,e2,e3,e4,e5,e6⟩:=YD ha hb
   rw[Ai,Aa,Ab,e1,e6,kj];rfl
theorem pj(a b:Rt):JW a b=some (Ru a b):=by
 unfold JW Ru
 rw[eo,Bz]
 cases ha:IE a with
 |false=>rfl
 |true=>
  cases hb:IE b with
  |false=>rfl
  |true=>
   obtain⟨e1,e2,e3,e4,e5,e6⟩:=YD ha hb
   rw[Er,Ai,Aa,Ab,Ab]
   cases h0:b.1==0 with
   |true=>rw[BU]at h0;rw[h0,Int.mul_zero];rfl
   |false=>rw[Aa,e1,e6,jK];rfl
theorem uI{b:Rt}(hb:b.1.natAbs<=4000000000000000000):IE (-b.1,b.2)=IE b:=by
 unfold IE
 have e:G9 (-b.1) (-1000000000) 1000000000=G9 b.1 (-1000000000) 1000000000:=by
  rw[Cn,JE,JE];omega
 simp only[Int.natAbs_neg,e]
theorem AaM(a b:Rt):Mm a b=some (Sy a b):=by
 unfold Mm Sy
 rw[RH,Bz]
 cases hb:IE b with
 |false=>rfl
 |true=>
  have fb:=IN hb
  rw[Ai,Aa,Ab,wrap_in (by omega),Ig,rq];rfl
theorem xu{a b:Rt}(hI: -9223372036854775808<=b.1∧b.1<=9223372036854775807):Mc a b=some (Sy a b):=by
 unfold Mc Sy
 cases hb:IE b with
 |false=>
  have hb':IE (IntKind.i64.wrap (0 - b.1),b.2)=false:=by
   by_cases e:b.1= -9223372036854775808
   ·rw[e]
    cases h:IE (IntKind.i64.wrap (0 - -9223372036854775808),b.2)with
    |false=>rfl
    |true=>
     have f:=(IN h).2.2.1
     rw[show IntKind.i64.wrap (0 - -9223372036854775808)= -9223372036854775808 by decide]at f
     exact absurd f (show ¬((-9223372036854775808:Int).natAbs<=1000000000)by decide)
   ·rw[wrap_in (by omega),Ig]
    by_cases hm:b.1.natAbs<=4000000000000000000
    ·rw[uI hm];exact hb
    ·cases h:IE (-b.1,b.2)with
     |false=>rfl
     |true=>
      have f:=(IN h).2.2.1
      simp only at f
      omega
  rw[jJ]
  unfold ce
  cases IE a with
  |false=>rfl
  |true=>rw[Ab,hb'];rfl
 |true=>
  have fb:=IN hb
  rw[Ab,wrap_in (by omega),Ig,jJ];rfl
theorem AaL(a b:Rt):IA a b=some (kc a b):=by
 unfold IA kc
 rw[RH,Bz]
 cases ha:IE a with
 |false=>rfl
 |true=>
  rw[Ai,Aa,Ab,RH,Bz]
  cases hb:IE b with
  |false=>rfl
  |true=>
   obtain⟨e1,e2,e3,e4,e5,e6⟩:=YD ha hb
   rw[Ai,Aa,Ab,e1,e2]
   cases decide (a.1 * b.2 < b.1 * a.2)<;>cases decide (b.1 * a.2 < a.1 * b.2)<;>rfl
theorem xt(a b:Rt):Is a b=some (kc a b):=by
 unfold Is kc
 rw[eo,Bz]
 cases ha:IE a with
 |false=>rfl
 |true=>
  cases hb:IE b with
  |false=>rfl
  |true=>
   obtain⟨e1,e2,e3,e4,e5,e6⟩:=YD ha hb
   rw[Er,Ai,Aa,Ab,Ab,e1,e2,XL,Bz]
   by_cases h1:a.1 * b.2 < b.1 * a.2
   ·rw[AH h1,Ah h1];rfl
   ·rw[AE h1,Af h1]
    by_cases h2:b.1 * a.2 < a.1 * b.2
    ·rw[AH h2,Ah h2];rfl
    ·rw[AE h2,Af h2];rfl
end Go.Proofs.YtaagdgjndpgdgaaGreatDoor
