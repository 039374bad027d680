/- Typed functions, and that the program's functions do what they say. No conditions. -/
import Derived.Test.YtdnlfoelbfcmnaaGreatDoorGSdRP1
import Derived.Test.YtdnlfoelbfcmnaaGreatDoorKb
open Go.RowKit
set_option linter.all false
namespace Go.Proofs.YtdnlfoelbfcmnaaGreatDoor
section
set_option maxRecDepth 100000
set_option maxHeartbeats 1000000
def Ej(a:Int)(b:zI)(c:(List BN×Int)->Option (List BN))(d:(List BN)×Int):Option (List BN):=match d with
  |(e,f)=>cond (decide (f < (b.length:Int))) (G (AN b f) λg=>chk (0 < e.length)<|G (AN e a) λi=>G (AN e g) λj=>G (MC i j) λk=>G (AN e a) λl=>c ((En e a k.1),(wZ<|f+1)))<|some e
def Ei(a:Rm)(b:zI)(c:(List BN×Int)->Option (List BN))(d:(List BN)×Int):Option (List BN):=match d with
  |(e,f)=>cond (decide (f < (b.length:Int))) (G (AN b f) λg=>G (E6 a.2 g) λi=>G (Ap (Ej g i) fz (e,0)) λj=>c (j,(wZ<|f+1)))<|some e
def QG(a:Int)(b:zI)(c:(List BN×Int)->Option (Sum (List BN)<|Dl×Bool))(d:(List BN)×Int):Option (Sum (List BN)<|Dl×Bool):=match d with
  |(e,f)=>cond (decide (f < (b.length:Int))) (G (AN b f) λg=>G (AN e a) λi=>G (AN e g) λj=>G (Gu i j) λk=>cond (!k.2) (some<|.inr ((0,[]),false))<|chk (0 < e.length)<|G (AN e a) λl=>c ((En e a k.1),(wZ<|f+1)))<|some<|.inl e
def KR(a:Rm)(b:zI)(c:(List BN×Int)->Option (Sum (List BN)<|Dl×Bool))(d:(List BN)×Int):Option (Sum (List BN)<|Dl×Bool):=match d with
  |(e,f)=>cond (decide (f < (b.length:Int))) (G (AN b f) λg=>G (E6 a.2 g) λi=>G (Ap (QG g i) fz (e,0)) λj=>(match j with
  |.inl k=>(c (k,(wZ<|f+1)))
  |.inr l=>some (.inr l))) (some (.inl e))
def F6(a:List CO)(b:Fh)(c:Rm):Option (Dl×Bool):=G (MU a b c) λd=>cond (!d.2) (some ((0,[]),false)) (G (NX c.2) λe=>G (Ap (Ei c e) fz (d.1,0)) λf=>G (Ap (KR c e) fz (f,0)) λg=>(match g with
  |.inl i=>(G (GR c.2) λj=>G (AN i j) λk=>G (HJ k.2 b.2.2) λl=>some (l.1,l.2))
  |.inr m=>some m))
def Q1{a c d e}(h:F6 a c d=some e):AX 37 [.agg [dL Co a],.agg (Df c),.agg (TH d)] (.tup [.agg (EK e.1),.bool e.2]):=by
 refine sta Ail E (Tv (Ut (IQ Sz _) E)<|Tv (Ut E<|Ut (IQ Uz _)<|Ut (IQ (λ_=>E) _) E)<|Tv (Ut (IQ jt _)<|Ut (IQ (λ_=>E) _) E) E) (fV (lf<|Uu (Og SD _) E)<|fV (lf<|Uu E<|Uu (Og UV _)<|Uu (Og (λ_=>E) _) E)<|fV (lf<|Uu (Og lg _)<|Uu (Og (λ_=>E) _) E) E) (NM (dag<|NM E<|NM (VK LU 26 _) Yf)<|NM E Yf)<|rn 1 E<|rs<|sp 3 E<|AW h λf g h=>qC (qa E (Cp<|A2 (I8 RB _) E)<|qa E (Cp<|A2 E<|A2 (I8 U7 _)<|A2 (I8 As _) E)<|qa E (Cp<|A2 (I8 U8 _)<|A2 (I8 As _) E) AS) (XB g)<|AZ 5 E<|Ee E λj=>BJ h E (λh=>rn 1 E<|sj h ▸ Ag rZ) λh=>BS j<|rn 1 E<|rs<|sp 1 E<|AW h λk l h=>qC (qa E (Cp<|A2 (I8 As _) E) AS) (SX l)<|AZ 1 E<|qk [4,6,8,10,11] E<|Ao λm n=>qk [4,6,8,10,11] E<|JF<|gFs (b:=11) E (λ_=>E)<|qk [4,6,8,10,11] E<|rn 1 E (DZ h λo p r=>have s:∀{t:List BN},t=o->Jn m [(4,.box [nI c.1,aL I6 c.2.1,aL Ah c.2.2]),(6,.box [nI 0,oL 26 AK []]),(8,oL 111 B7 t),(10,.box [aL Ah d.2]),(11,aL Ah k)]:=@λt h _ u=>have h:=r h;n _<|lh u E<|Ao λv w=>rn 1 E (DZ h λx p y=>have z:∀{A:List BN},(.inl A)=x->Jn v [(4,.box [nI c.1,aL I6 c.2.1,aL Ah c.2.2]),(6,.box [nI 0,oL 26 AK []]),(8,oL 111 B7 A),(10,.box [aL Ah d.2])]:=@λA h _ u=>have h:=y h;w _<|lh u E<|rd (by kernel_rfl)<|sd 2 E<|AW h λB C h=>ed E<|qC (qa E (Cp<|A2 (I8 As _) E) AS) (Ok C)<|AW h λD F h=>ed E<|qI E Cv F<|sd 4 E<|AW h λH I h=>ed E<|qC (qa E (Cp<|A2 E<|A2 (Bq CX _) E)<|qa E (I8 As _) AS) (Nl I)<|sd 4 E<|Cs<|sj h ▸ Ag rZ;(A9 (λ(J:(List BN)×Int)=>match J with|(K,L)=>[(4,.box [nI c.1,aL I6 c.2.1,aL Ah c.2.2]),(6,.box [nI 0,oL 26 AK []]),(8,oL 111 B7 K),(10,.box [aL Ah d.2]),(68,aL Ah k),(69,nI (k.length:Int)),(70,nI L)]) _ _ _ _ p (A7 E) (λ_=>E)<|λM=>Ji λK L N h O=>rn 1 E<|CE λP=>BJ h E (λh=>BS P<|Ao λQ R=>A4<|rs<|AW h λS T h=>qI E AQ T<|AZ 2 E<|rs<|sp 2 E<|AW h λU V h=>qC (qa E (Cp<|A2 (I8 As _) E)<|qs E AS) (Iq V)<|AZ 2 E (DZ h λW p X=>have Y:∀{Z:List BN},(.inl Z)=W->Jn Q [(4,.box [nI c.1,aL I6 c.2.1,aL Ah c.2.2]),(6,.box [nI 0,oL 26 AK []]),(8,oL 111 B7 Z),(10,.box [aL Ah d.2]),(68,aL Ah k),(69,nI (k.length:Int)),(70,nI L)]:=@λZ h _ u=>have h:=X h;R _<|lh u E<|rg<|AZ 2 E<|O _ _ h<|A7 E;(A9 (λ(J:(List BN)×Int)=>match J with|(a,e)=>[(4,.box [nI c.1,aL I6 c.2.1,aL Ah c.2.2]),(6,.box [nI 0,oL 26 AK []]),(8,oL 111 B7 a),(10,.box [aL Ah d.2]),(17,nI S),(68,aL Ah k),(69,nI (k.length:Int)),(70,nI L),(76,oL 3 Ah U),(77,nI (U.length:Int)),(78,nI e)]) _ _ _ _ p (A7 E) (λ_=>E)<|λM=>Ji λa e N h O=>rn 1 E<|CE λf=>BJ h E (λh=>BS f<|CE λg=>A4<|rs<|AW h λj l h=>qI E AQ l<|AZ 2 E<|rd (by kernel_rfl)<|sd 2 E<|AW h λm o h=>ed E<|qI E Cv o<|sd 3 E<|AW h λt n h=>ed E<|qI E Cv n<|sd 1 E<|AW h λr v h=>ed E<|qC (qa E (Cp<|A2 (Bq As _)<|A2 E<|A2 (Bq CX _) E)<|qa E (Cp<|A2 (Bq As _)<|A2 E<|A2 (Bq CX _) E) AS) (O9 v)<|sd 6 E<|Cs<|Ee E λw=>BJ h E (λh=>rn 1 E<|qk [6,7] E<|sj (y<|sj<|X<|sj h) ▸ Ag rZ) λh=>BS w<|qk [4,6,8,10,17,20,68,69,70,76,77,78] E<|Fi h λx h=>JF<|gLs (q:=900003) (b:=8) E E E x<|λA B=>qk [4,6,8,10,17,20,68,69,70,76,77,78,900003] E<|VR<|rg<|sp 3 E<|AW h λC D h=>Yt E E E E D<|qSt (y0:=C) (i:=S) (es:=3) 0 r.1 [4,6,8,10,17,68,69,70,76,77,78] E E E E E E E E E E Cv D (λF=>UR<|II F) (UR<|NM (VK (λ_=>E) 3 _)<|NM E<|NM (VK LU 26 _) Yf) (yc (Tt E<|Tt (sA<|aca UE _)<|Tt (sA<|aca (λ_=>E) _) E)<|yc (Tt E<|Tt E E)<|yc E<|yc (Tt (sA<|aca (λ_=>E) _) E)<|yc E<|yc (acf (λ_=>E) _)<|yc E<|yc E<|yc (UR<|dcf (λ_=>E) _)<|yc E<|yc E yn)<|UX<|gDs (q:=900003) (b:=8) E E E (sl E)<|g _<|rg<|AZ 2 E<|O _ _ h<|A7 E) λh=>AG<|Y (sj h) _<|A7 E))) λh=>AG<|z (sj h) _<|A7 E));?_)
 exact A9 (λ(J:(List BN)×Int)=>match J with|(H,I)=>[(4,.box [nI c.1,aL I6 c.2.1,aL Ah c.2.2]),(6,.box [nI 0,oL 26 AK []]),(8,oL 111 B7 H),(10,.box [aL Ah d.2]),(11,aL Ah k),(37,aL Ah k),(38,nI (k.length:Int)),(39,nI I)]) _ _ _ _ p (A7 E) (λ_=>E)<|λM=>Ji λH I N h O=>rn 1 E<|CE λK=>BJ h E (λh=>BS K<|Ao λP T=>A4<|rs<|AW h λV Q h=>qI E AQ Q<|AZ 2 E<|rs<|sp 2 E<|AW h λR W h=>qC (qa E (Cp<|A2 (I8 As _) E)<|qs E AS) (Iq W)<|AZ 2 E (DZ h λZ p L=>have U:∀{a:List BN},a=Z->Jn P [(4,.box [nI c.1,aL I6 c.2.1,aL Ah c.2.2]),(6,.box [nI 0,oL 26 AK []]),(8,oL 111 B7 a),(10,.box [aL Ah d.2]),(11,aL Ah k),(37,aL Ah k),(38,nI (k.length:Int)),(39,nI I)]:=@λa h _ u=>have h:=L h;T _<|lh u E<|rg<|AZ 2 E<|O _ _ h<|A7 E;(A9 (λ(J:(List BN)×Int)=>match J with|(e,f)=>[(4,.box [nI c.1,aL I6 c.2.1,aL Ah c.2.2]),(6,.box [nI 0,oL 26 AK []]),(8,oL 111 B7 e),(10,.box [aL Ah d.2]),(11,aL Ah k),(13,nI V),(37,aL Ah k),(38,nI (k.length:Int)),(39,nI I),(45,oL 3 Ah R),(46,nI (R.length:Int)),(47,nI f)]) _ _ _ _ p (A7 E) (λ_=>E)<|λM=>Ji λe f N h O=>rn 1 E<|CE λj=>BJ h E (λh=>BS j<|CE λl=>A4<|rs<|AW h λm o h=>qI E AQ o<|AZ 2 E<|qk [4,6,8,10,11,13,15,37,38,39,45,46,47] E<|Fi h λt h=>JF<|gLs (q:=900003) (b:=8) E E E t<|λn v=>qk [4,6,8,10,11,13,15,37,38,39,45,46,47,900003] E<|VR<|rgt 14 (by kernel_rfl)<|sd 4 E<|AW h λy X h=>ed E<|Yt E E E E X<|ed E<|qLe (i:=V) (es:=3) (q:=900003) 0 E E E E E E Cv X E E<|sd 2 E<|AW h λw x h=>ed E<|Yt E E E E x<|ed E<|qLe (i:=m) (es:=3) (q:=900003) 0 E E E E E E Cv x E E<|AW h λA B h=>ed E<|qC (qa E (Cp<|A2 (Bq As _)<|A2 E<|A2 (Bq CX _) E)<|qa E (Cp<|A2 (Bq As _)<|A2 E<|A2 (Bq CX _) E) AS) (R0 B)<|sd 3 E<|Cs<|O5<|AW h λS r h=>Yt E E E E r<|qSt (y0:=S) (i:=V) (es:=3) 0 A.1 [4,6,8,10,11,13,37,38,39,45,46,47] E E E E E E E E E E Cv r (λF=>UR<|II F) (UR<|NM (VK (λ_=>E) 3 _)<|NM E<|NM (VK LU 26 _) Yf) (yc (Tt E<|Tt (sA<|aca UE _)<|Tt (sA<|aca (λ_=>E) _) E)<|yc (Tt E<|Tt E E)<|yc E<|yc (Tt (sA<|aca (λ_=>E) _) E)<|yc (acf (λ_=>E) _)<|yc E<|yc (acf (λ_=>E) _)<|yc E<|yc E<|yc (UR<|dcf (λ_=>E) _)<|yc E<|yc E yn)<|UX<|gDs (q:=900003) (b:=8) E E E (sl E)<|l _<|rg<|AZ 2 E<|O _ _ h<|A7 E) λh=>AG<|U (sj h) _<|A7 E))) λh=>AG<|s (sj h) _<|A7 E
def HY(a:Bool):Option Bool:=some a
def MW(a:Fh)(b:zI):Option Bool:=G (FV a) λc=>cond c (cond ((b.length:Int)==a.1) (G (L6 b a.1) λd=>HY d)<|HY false)<|HY false
def XC{a b c}(h:MW a b=some c):AX 152 [.agg (Df a),dL Ah b] (.bool c):=st Aeb E<|rn 1 E (rk λd e=>have f:∀{g:Bool},HY g=some c->Jn d [(4,.bool g)]:=@λg h _ i=>e _<|lh i E<|sj h ▸ Ag rZ;(sp 1 E<|AW h λj k h=>qC (qa E (Cp<|A2 E<|A2 (Bq CS _)<|A2 (Bq As _) E) AS) (IS k)<|sp 1 E<|EC h (λl h=>qg 7 l E<|sp 7 E<|EC h (λm h=>qg 14 m E<|sp 3 E<|AW h λn o h=>EQ E E<|qC (qa E (Bq As _)<|qs E AS) (PP o)<|AZ 2 E<|f h _<|A7 E) λm h=>qg 14 m E<|AZ 6 E<|f h _<|A7 E) λl h=>qg 7 l E<|AZ 13 E<|f h _<|A7 E))
def JP(a:Bool):Option Bool:=some a
def O7(a:zI):Option Bool:=cond (decide ((a.length:Int)<=5)) (G (L6 a (a.length:Int)) λb=>JP b)<|JP false
def Wm{a b}(h:O7 a=some b):AX 173 [dL Ah a] (.bool b):=st Aew E<|rn 1 E (rk λc d=>have e:∀{f:Bool},JP f=some b->Jn c [(2,.bool f)]:=@λf h _ g=>d _<|lh g E<|sj h ▸ Ag rZ;(sp 4 E<|EC h (λi h=>qg 6 i E<|sp 3 E<|AW h λj k h=>EQ E E<|qC (qa E (Bq As _)<|qs E AS) (PP k)<|AZ 2 E<|e h _<|A7 E) λi h=>qg 6 i E<|AZ 6 E<|e h _<|A7 E))
def PG(a:Dl)(b:zI):Option (Dl×Bool):=G (O7 b) λc=>cond (!c) (some ((0,[]),false))<|cond ((b.length:Int)!=a.1) (some ((0,[]),false))<|G (HJ a b) λd=>cond (!d.2) (some ((0,[]),false))<|some (d.1,true)
def ar{a b c}(h:PG a b=some c):AX 153 [.agg (PC a),dL Ah b] (.tup [.agg (KX c.1),.bool c.2]):=st Aec E<|rn 1 E<|CE λd=>rs<|sp 1 E<|AW h λe f h=>qC (qa E (Bq As _) AS) (Wm f)<|sp 2 E<|EC h (λg h=>qg 11 g E<|AZ 6 E<|qT E E<|rn 1 E<|sj h ▸ Ag rZ) λg h=>qg 11 g E<|AZ 6 E<|BJ h E (λh=>rn 1 E<|sj h ▸ Ag rZ) λh=>BS d<|qk [1,2,4] E<|rs<|sp 2 E<|AW h λi j h=>qC (qa E (Cp<|A2 E<|A2 (Bq Cj _) E)<|qa E (Bq As _) AS) (Nl j)<|AZ 6 E<|Ee E λk=>BJ h E (λh=>rn 1 E<|sj h ▸ Ag rZ) λh=>BS k<|rn 1 E<|sj h ▸ Ag rZ
def Gt(a:(zI×Int)->Option (zI))(b:Int)(c:zI):Option (zI):=a (c,(wZ<|b+1))
def Gs(a:(zI×Int)->Option (zI))(b:zI)(c:Int)(d:Int)(e:Bool):Option (zI):=cond e (chk (List.length b+List.length [d]<=lim)<|Gt a c<|b++[d])<|Gt a c b
def Fj(a:zI)(b:zI)(c:(zI×Int)->Option (zI))(d:zI×Int):Option (zI):=match d with
  |(e,f)=>cond (decide (f < (a.length:Int))) (G (AN a f) λg=>G (HL b g) λi=>cond (decide (0<=i)) (G (Ki e i) λj=>Gs c e f i (!j))<|Gs c e f i false)<|some e
def Kc(a:Hh)(b:zI):Option (zI):=G (EL a) λc=>G (Ap (Fj b c) fz (([]:zI),0)) λd=>some d
def Ve{a b c}(h:Kc a b=some c):AX 154 [.agg (BM a),dL Ah b] (oL 3 Ah c):=st Aed E<|rn 1 E<|rs<|sp 1 E<|AW h λd e h=>qC (qa E (Cp<|A2 E<|A2 (Bq As _) E) AS) (Gr e)<|AZ 1 E<|rn 1 E<|Ao λf g=>rn 1 E (DZ h λi j k=>have l:∀{m:zI},m=i->Jn f [(6,oL 3 Ah m)]:=@λm h _ n=>have h:=k h;g _<|lh n E<|rn 1 E<|sj h ▸ Ag rZ;(A9 (λ(o:zI×Int)=>match o with|(p,q)=>[(5,oL 3 Ah d),(6,oL 3 Ah p),(12,dL Ah b),(13,nI (b.length:Int)),(14,nI q)]) _ _ _ _ j (A7 E) (λ_=>E)<|λr=>Ji λp q s h t=>rn 1 E<|CE λu=>BJ h E (λh=>BS u<|Ao λv w=>A4<|rs<|AW h λx y h=>qI E AQ y<|AZ 2 E<|rs<|sp 2 E<|AW h λz A h=>qC (qa E (Bq As _)<|qs E AS) (JE A)<|AZ 1 E (rk λB C=>have D:∀{F:Bool},Gs (Ap (Fj b d) r) p q z F=some i->Jn B [(5,oL 3 Ah d),(6,oL 3 Ah p),(9,nI z),(12,dL Ah b),(13,nI (b.length:Int)),(14,nI q),(28,.bool F)]:=@λF h _ n=>C _<|lh n E (have H:∀{I:zI},Gt (Ap (Fj b d) r) q I=some i->Jn v [(5,oL 3 Ah d),(6,oL 3 Ah I),(12,dL Ah b),(13,nI (b.length:Int)),(14,nI q)]:=@λI h _ n=>w _<|lh n E<|rg<|AZ 2 E<|t _ _ h<|A7 E;(BJ h E (λh=>rg<|sp 2 E<|Gl Ah [z] E E E AQ<|Fi h λJ h=>qA Ah p [z] E E (Bl AQ [z]) E J<|AZ 1 E<|H h _<|A7 E) λh=>DF<|H h _<|A7 E));(sp 3 E<|EC h (λK h=>qg 23 K E<|sp 2 E<|AW h λL M h=>EQ E E<|qC (qa E (Bq As _)<|qs E AS) (MD M)<|AZ 2 E<|D h _<|A7 E) λK h=>qg 23 K E<|AZ 5 E<|D h _<|A7 E))) λh=>AG<|l (sj h) _<|A7 E))
def O6(a:List CO)(b:Fh)(c:zI)(d:(List Dl×Int)->Option (List Dl))(e:(List Dl)×Int):Option (List Dl):=match e with
  |(f,g)=>cond (decide (g < (b.2.1.length:Int))) (G (AN b.2.1 g) λi=>G (Ka a i) λj=>G (Kc i c) λk=>G (PG j k) λl=>chk (List.length f+List.length [l.1]<=lim)<|d ((f++[l.1]),(wZ<|g+1)))<|some f
def OM(a:List CO)(b:Fh)(c:zI):Option (List Dl×Bool):=G (J1 a b) λd=>cond (!d) (some (([]:List Dl),false))<|G (MW b c) λe=>cond (!e) (some (([]:List Dl),false))<|G (Ap (O6 a b c) fz (([]:List Dl),0)) λf=>some (f,true)
def YX{a b c d}(h:OM a b c=some d):AX 124 [.agg [dL Co a],.agg (Df b),dL Ah c] (.tup [oL 163 KX d.1,.bool d.2]):=st AdJ E<|rn 1 E<|CE λe=>rs<|sp 2 E<|AW h λf g h=>qC (qa E (Cp<|A2 (Bq Dr _) E)<|qa E (Cp<|A2 E<|A2 (Bq CS _)<|A2 (Bq As _) E) AS) (PH g)<|sp 2 E<|EC h (λi h=>qg 17 i E<|AZ 5 E<|qT E E<|rn 1 E<|sj h ▸ Ag rZ) λi h=>qg 17 i E<|sp 2 E<|AW h λj k h=>EQ E E<|qC (qa E (Cp<|A2 E<|A2 (Bq CS _)<|A2 (Bq As _) E)<|qa E (Bq As _) AS) (XC k)<|AZ 2 E<|BJ h E (λh=>rn 1 E<|sj h ▸ Ag rZ) λh=>BS e<|qk [2,3,4] E<|rn 1 E<|Ao λl m=>rn 1 E (DZ h λn o p=>have q:∀{r:List Dl},r=n->Jn l [(8,oL 163 KX r)]:=@λr h _ s=>have h:=p h;m _<|lh s E<|rn 1 E<|sj h ▸ Ag rZ;(A9 (λ(t:(List Dl)×Int)=>match t with|(u,v)=>[(2,dL Ah c),(3,.box [dL Co a]),(8,oL 163 KX u),(24,dL BM b.2.1),(25,nI (b.2.1.length:Int)),(26,nI v)]) _ _ _ _ o (A7 E) (λ_=>E)<|λw=>Ji λu v x h y=>rn 1 E<|CE λz=>BJ h E (λh=>BS z<|CE λA=>A4<|rs<|AW h λB C h=>qI E Gk C<|AZ 3 E<|rd (by kernel_rfl)<|sd 2 E<|AW h λD F h=>ed E<|qC (qa E (Cp<|A2 (Bq Dr _) E)<|qa E (Cp<|A2 E<|A2 (Bq As _) E) AS) (Sd F)<|sd 2 E<|AW h λH I h=>ed E<|qC (qa E (Cp<|A2 E<|A2 (Bq As _) E)<|qa E (Bq As _) AS) (Ve I)<|AW h λJ K h=>ed E<|qC (qa E (Cp<|A2 E<|A2 (QX CX _) E)<|qa E (QX As _) AS) (ar K)<|sd 6 E<|Cs<|rg<|sp 2 E<|Gl KX [J.1] E E E UW<|Fi h λL h=>qA KX u [J.1] E E (Bl UW [J.1]) E L<|AZ 1 E<|A _<|rg<|AZ 2 E<|y _ _ h<|A7 E) λh=>AG<|q (sj h) _<|A7 E))
def M1(a:List Dl)(b:Int->Option (Sum Unit Bool))(c:Int):Option (Sum Unit Bool):=cond (decide (c < (a.length:Int))) (G (AN a c) λd=>cond ((d.2.length:Int)==0) (some<|.inr true)<|b<|wZ<|c+1)<|some<|.inl ()
def PW(a:List Dl):Option Bool:=G (Ap (M1 a) fz 0) λb=>(match b with
  |.inl _=>(some false)
  |.inr c=>some c)
def aD{a b}(h:PW a=some b):AX 125 [dL Ef a] (.bool b):=st AdK E<|rn 1 E<|Ao λc d=>rn 1 E (DZ h λe f g=>have i:(.inl ())=e->Jn c []:=λh _ j=>have h:=g h;d _<|lh j E<|rn 1 E<|sj h ▸ Ag rZ;(A9 (λ(k:Int)=>[(5,dL Ef a),(6,nI (a.length:Int)),(7,nI k)]) _ _ _ _ f (A7 E) (λ_=>E)<|λl k m h n=>rn 1 E<|CE λo=>BJ h E (λh=>BS o<|CE λp=>A4<|rs<|AW h λq r h=>qI E ZO r<|AZ 3 E<|rn 1 E<|BJ h E (λh=>rn 1 E<|sj (g<|sj h) ▸ Ag rZ) λh=>BS p<|rg<|AZ 2 E<|n _ _ h<|A7 E) λh=>AG<|i (sj h) _ trivial))
def Jd(a:List zI)(b:Int->Option (Sum Unit Bool))(c:Int):Option (Sum Unit Bool):=cond (decide (c < (a.length:Int))) (G (AN a c) λd=>G (F2 d) λe=>cond (!e) (some<|.inr false)<|b<|wZ<|c+1)<|some<|.inl ()
def K4(a:List zI):Option Bool:=G (Ap (Jd a) fz 0) λb=>(match b with
  |.inl _=>(some<|decide (0 < (a.length:Int)))
  |.inr c=>some c)
def V1{a b}(h:K4 a=some b):AX 156 [dL Bg a] (.bool b):=st Aef E<|rn 1 E<|Ao λc d=>rn 1 E (DZ h λe f g=>have i:(.inl ())=e->Jn c [(0,dL Bg a)]:=λh _ j=>have h:=g h;d _<|lh j E<|rn 1 E<|sj h ▸ Ag rZ;(A9 (λ(k:Int)=>[(0,dL Bg a),(5,dL Bg a),(6,nI (a.length:Int)),(7,nI k)]) _ _ _ _ f (A7 E) (λ_=>E)<|λl k m h n=>rn 1 E<|CE λo=>BJ h E (λh=>BS o<|CE λp=>A4<|rs<|AW h λq r h=>qI E Cm r<|AZ 2 E<|rs<|sp 1 E<|AW h λs t h=>qC (qa E (Bq As _) AS) (Nj t)<|AZ 1 E<|BJ h E (λh=>rn 1 E<|sj (g<|sj h) ▸ Ag rZ) λh=>BS p<|rg<|AZ 2 E<|n _ _ h<|A7 E) λh=>AG<|i (sj h) _<|A7 E))
def GS(a:(Int×Int)->Option Int)(b:Int)(c:Int):Option Int:=a (c,(wZ<|b+1))
def L4(a:(Int×Int)->Option Int)(b:Int)(c:Int)(d:zI)(e:Bool):Option Int:=cond e (GS a c (d.length:Int))<|GS a c b
def EM(a:List zI)(b:(Int×Int)->Option Int)(c:Int×Int):Option Int:=match c with
  |(d,e)=>cond (decide (e < (a.length:Int))) (G (AN a e) λf=>cond (e==0) (L4 b d e f true)<|L4 b d e f<|decide ((f.length:Int) < d))<|some d
def K3(a:List zI):Option Int:=G (Ap (EM a) fz (0,0)) λb=>some b
def V0{a b}(h:K3 a=some b):AX 157 [dL Bg a] (nI b):=st Aeg E<|rn 2 E<|Ao λc d=>rn 1 E (DZ h λe f g=>have i:∀{j:Int},j=e->Jn c [(3,nI j)]:=@λj h _ k=>have h:=g h;d _<|lh k E<|rn 1 E<|sj h ▸ Ag rZ;(A9 (λ(l:Int×Int)=>match l with|(m,n)=>[(3,nI m),(6,dL Bg a),(7,nI (a.length:Int)),(8,nI n)]) _ _ _ _ f (A7 E) (λ_=>E)<|λo=>Ji λm n p h q=>rn 1 E<|CE λr=>BJ h E (λh=>BS r<|Ao λs t=>A4<|rs<|sp 1 E<|AW h λu v h=>qI E Cm v<|AZ 3 E (rk λw x=>have y:∀{z:Bool},L4 (Ap (EM a) o) m n u z=some e->Jn w [(3,nI m),(5,dL Ah u),(6,dL Bg a),(7,nI (a.length:Int)),(8,nI n),(20,.bool z)]:=@λz h _ k=>x _<|lh k E (have A:∀{B:Int},GS (Ap (EM a) o) n B=some e->Jn s [(3,nI B),(6,dL Bg a),(7,nI (a.length:Int)),(8,nI n)]:=@λB h _ k=>t _<|lh k E<|rg<|AZ 2 E<|q _ _ h<|A7 E;(BJ h E (λh=>rg<|AZ 3 E<|A h _<|A7 E) λh=>DF<|A h _<|A7 E));(sp 3 E<|EC h (λC h=>qg 15 C E<|AZ 5 E<|y h _<|A7 E) λC h=>qg 15 C E<|AZ 5 E<|y h _<|A7 E))) λh=>AG<|i (sj h) _<|A7 E))
def Kh(a:zI)(b:Int)(c:Int->Option (Sum Unit Int))(d:Int):Option (Sum Unit Int):=cond (decide (d < (a.length:Int))) (G (AN a d) λe=>cond (decide (b<=e)) (some<|.inr d)<|c<|wZ<|d+1)<|some<|.inl ()
def PJ(a:zI)(b:Int)(c:Int):Option Int:=G (Ap (Kh a c) fz (if 0 < b then b else 0)) λd=>(match d with
  |.inl _=>(some (a.length:Int))
  |.inr e=>some e)
def au{a b c d}(h:PJ a b c=some d):AX 158 [dL Ah a,nI b,nI c] (nI d):=st Aeh E<|rn 1 E<|Ao λe f=>rn 1 E (DZ h λg i j=>have k:(.inl ())=g->Jn e [(0,dL Ah a)]:=λh _ l=>have h:=j h;f _<|lh l E<|rn 1 E<|sj h ▸ Ag rZ;(A9 (λ(m:Int)=>[(0,dL Ah a),(2,nI c),(7,nI m)]) _ _ _ _ i (A7 E) (λ_=>E)<|λn m o h p=>Ee E λq=>BJ h E (λh=>BS q<|CE λr=>A4<|rs<|sp 2 E<|AW h λs t h=>qI E AQ t<|AZ 3 E<|BJ h E (λh=>rn 1 E<|sj (j<|sj h) ▸ Ag rZ) λh=>BS r<|rg<|AZ 3 E<|p _ _ h<|A7 E) λh=>AG<|k (sj h) _<|A7 E))
def EJ(a:List zI)(b:zI)(c:Int->Option Int)(d:Int):Option Int:=cond (decide (0 < d)) (G (AN a<|wZ<|d - 1) λe=>G (AN e 0) λf=>G (AN b 0) λg=>cond (decide (g < f)) (c<|wZ<|d - 1)<|some d)<|some d
def FL(a:List zI)(b:(List zI×Int)->Option (List zI))(c:(List zI)×Int):Option (List zI):=match c with
  |(d,e)=>cond (decide (e < (a.length:Int))) (G (AN a e) λf=>G (Ap (EJ d f) fz (d.length:Int)) λg=>chk ((0:Int)<=0∧0<=g∧g<=(d.length:Int))<|chk (List.length ([]:List zI)+List.length (C2 d 0 g)<=lim)<|chk (List.length (([]:List zI)++(C2 d 0 g))+List.length [f]<=lim)<|chk ((0:Int)<=g∧g<=(d.length:Int)∧(d.length:Int)<=(d.length:Int))<|chk (List.length ((([]:List zI)++(C2 d 0 g))++[f])+List.length (C2 d g (d.length:Int))<=lim)<|b ((((([]:List zI)++(C2 d 0 g))++[f])++(C2 d g (d.length:Int))),(wZ<|e+1)))<|some d
def FN(a:(zI×Int×zI×Int)->Option (Sum Unit<|zI×Int))(b:List zI)(c:Int)(d:zI)(e:zI)(f:zI):Option (Sum Unit<|zI×Int):=G (AN e<|Int.tmod (wZ<|c - 1) (b.length:Int)) λg=>cond (g==(d.length:Int)) (some<|.inr (f,c))<|G (AN e<|Int.tmod (wZ<|c - 1) (b.length:Int)) λi=>G (AN d i) λj=>a (e,j,f,(wZ<|c+1))
def FM(a:List zI)(b:(zI×Int×zI×Int)->Option (Sum Unit<|zI×Int))(c:zI×Int×zI×Int):Option (Sum Unit<|zI×Int):=match c with
  |(d,e,f,g)=>chk ((a.length:Int)≠0)<|G (AN a<|Int.tmod (wZ<|g - 1) (a.length:Int)) λi=>G (AN d<|Int.tmod (wZ<|g - 1) (a.length:Int)) λj=>G (AN i j) λk=>cond (k==e) (chk (List.length f+List.length [e]<=lim)<|G (AN d<|Int.tmod (wZ<|g - 1) (a.length:Int)) λl=>G (AN d<|Int.tmod (wZ<|g - 1) (a.length:Int)) λm=>FN b a g i (En d (Int.tmod (wZ<|g - 1) (a.length:Int))<|wZ<|l+1)<|f++[e])<|G (AN d<|Int.tmod (wZ<|g - 1) (a.length:Int)) λn=>G (PJ i n e) λo=>G (AN d<|Int.tmod (wZ<|g - 1) (a.length:Int)) λp=>FN b a g i (En d (Int.tmod (wZ<|g - 1) (a.length:Int)) o) f
def Ja(a:List zI):Option (zI×Int):=G (K4 a) λb=>cond (!b) (some (([]:zI),0)) (G (K3 a) λc=>cond (c==0) (some (([]:zI),0)) (G (Ap (FL a) fz (([]:List zI),0)) λd=>chk ((0:Int)<=(d.length:Int)∧Int.toNat (d.length:Int)<=lim) (G (AN d (wZ ((d.length:Int) - 1))) λe=>G (AN e 0) λf=>G (Ap (FM d) fz ((List.replicate (Int.toNat (d.length:Int)) (0:Int)),f,([]:zI),1)) λg=>(match g with
  |.inl _=>(none)
  |.inr i=>some i))))
def Ue{a b}(h:Ja a=some b):AX 127 [dL Bg a] (.tup [oL 3 Ah b.1,nI b.2]):=st AdM E<|rn 1 E<|CE λc=>rs<|sp 1 E<|AW h λd e h=>qC (qa E (Bq Cj _) AS) (V1 e)<|sp 2 E<|EC h (λf h=>qg 17 f E<|AZ 4 E<|qT E E<|rn 1 E<|sj h ▸ Ag rZ) λf h=>qg 17 f E<|sp 1 E<|AW h λg i h=>EQ E E<|qC (qa E (Bq Cj _) AS) (V0 i)<|AZ 2 E<|BJ h E (λh=>rn 1 E<|sj h ▸ Ag rZ) λh=>BS c<|rn 1 E<|qk [0,4] E<|Ao λj k=>rn 1 E (DZ h λl m n=>have o:∀{p:List zI},p=l->Jn j [(4,oL 26 Bg p)]:=@λp h _ q=>have h:=n h;k _<|lh q E<|rs<|sp 2 E<|Fi h λr h=>qMu Ah (0:Int) E E E E r E<|qAu E E E E<|UX<|rs<|sp 4 E<|AW h λs t h=>qI E Cm t<|sp 1 E<|AW h λu v h=>qI E AQ v<|AZ 2 E<|rn 2 E<|DZ h λw m x=>A9 (λ(y:zI×Int×zI×Int)=>match y with|(z,A,B,C)=>[(4,oL 26 Bg p),(8,wL 3 Ah z),(9,nI A),(10,oL 3 Ah B),(11,nI C)]) _ _ _ _ m (A7 E) (λ_=>E)<|λD=>pr4 λz A B C F h H=>CE λI=>A4<|rs<|sp 4 E<|Fi h λJ h=>qB E ⟨E,J⟩ E<|AZ 1 E<|rs<|sp 2 E<|AW h λK L h=>qI E Cm L<|AZ 2 E<|Ao λM N=>rs<|sp 3 E<|AW h λO P h=>gz E ⟨(BE P).1,(BE P).2.1⟩<|qLu 0 E E E AQ P E E E<|AW h λQ R h=>qI E AQ R<|AZ 3 E (have S:∀{T:zI}{U:zI},FN (Ap (FM p) D) p C K T U=some w->Jn M [(4,oL 26 Bg p),(8,wL 3 Ah T),(10,oL 3 Ah U),(11,nI C),(12,nI<|Int.tmod (wZ<|C - 1) (p.length:Int)),(13,dL Ah K)]:=@λT U h _ q=>N _<|lh q E<|CE λV=>rs<|sp 2 E<|AW h λW X h=>gz E ⟨(BE X).1,(BE X).2.1⟩<|qLu 0 E E E AQ X E E E<|AZ 3 E<|BJ h E (λh=>rn 1 E<|sj (x<|sj h) ▸ Ag rZ) λh=>BS V<|rg<|sp 3 E<|AW h λY Z h=>gz E ⟨(BE Z).1,(BE Z).2.1⟩<|qLu 0 E E E AQ Z E E E<|AW h λb d h=>qI E AQ d<|AZ 2 E<|I _<|rg<|AZ 3 E<|H _ _ h<|A7 E;(BJ h E (λh=>rs<|sp 2 E<|Gl Ah [A] E E E AQ<|Fi h λe h=>qA Ah B [A] E E (Bl AQ [A]) E e<|AZ 1 E<|rg<|sp 2 E<|AW h λf g h=>gz E ⟨(BE g).1,(BE g).2.1⟩<|qLu 0 E E E AQ g E E E<|sp 1 E<|AW h λc i h=>gz E ⟨(BE i).1,(BE i).2.1⟩<|qSu (wZ<|f+1) E E AQ ⟨(BE i).1,(BE i).2.1⟩ E E E E E E<|UX<|S h _<|A7 E) λh=>rg<|sp 5 E<|AW h λj l h=>gz E ⟨(BE l).1,(BE l).2.1⟩<|qLu 0 E E E AQ l E E E<|sp 1 E<|AW h λk n h=>qC (qa E (Bq As _)<|qs E<|qs E AS) (au n)<|AW h λr s h=>gz E ⟨(BE s).1,(BE s).2.1⟩<|qSu k E E AQ ⟨(BE s).1,(BE s).2.1⟩ E E E E E E<|UX<|S h _<|A7 E));(A9 (λ(y:(List zI)×Int)=>match y with|(t,u)=>[(4,oL 26 Bg t),(22,dL Bg a),(23,nI (a.length:Int)),(24,nI u)]) _ _ _ _ m (A7 E) (λ_=>E)<|λD=>Ji λt u F h H=>rn 1 E<|CE λv=>BJ h E (λh=>BS v<|CE λz=>A4<|rs<|AW h λJ L h=>qI E Cm L<|AZ 2 E<|rn 1 E (Ao λO P=>DZ h λQ m R=>have p:∀{w:Int},w=Q->Jn O [(4,oL 26 Bg t),(6,dL Ah J),(7,nI w),(22,dL Bg a),(23,nI (a.length:Int)),(24,nI u)]:=@λw h _ q=>have h:=R h;P _<|lh q E<|iY (by kernel_rfl)<|ed E<|Gl AK [] E E E Dk<|sd 2 E<|Fi h λC h=>ed E<|fX E Cm C<|Fi h λK h=>ed E<|qA Bg ([]:List zI) (C2 t 0 w) E E (Bl Cm<|C2 t 0 w) (Oo (λ_=>E) _) K<|sd 1 E<|ed E<|Gl Bg [J] E E E Cm<|Fi h λM h=>ed E<|qA Bg (([]:List zI)++(C2 t 0 w)) [J] E E (Bl Cm [J]) E M<|sd 2 E<|Fi h λN h=>ed E<|fX E Cm N<|Fi h λT h=>ed E<|qA Bg ((([]:List zI)++(C2 t 0 w))++[J]) (C2 t w (t.length:Int)) E E (Bl Cm<|C2 t w (t.length:Int)) (Oo (λ_=>E) _) T<|sd 1 E<|Cs<|z _<|rg<|AZ 2 E<|H _ _ h<|A7 E;(A9 (λ(U:Int)=>[(4,oL 26 Bg t),(6,dL Ah J),(7,nI U),(22,dL Bg a),(23,nI (a.length:Int)),(24,nI u)]) _ _ _ _ m (A7 E) (λ_=>E)<|λD U F h H=>CE λW=>rd (by kernel_rfl)<|sd 3 E<|EC h (λx h=>J7 32 x E<|sd 3 E<|AW h λV X h=>ed E<|EQ E E<|qI E Cm X<|sd 1 E<|AW h λY Z h=>ed E<|EQ E E<|qI E AQ Z<|sd 2 E<|AW h λb I h=>ed E<|EQ E E<|qI E AQ I<|sd 3 E<|Cs<|BJ h E (λh=>BS W<|A4<|rg<|AZ 3 E<|H _ _ h<|A7 E) λh=>AG<|p (sj h) _<|A7 E) λx h=>J7 32 x E<|sd 12 E<|Cs<|qk [4,6,7,22,23,24,44] E<|qF E E<|AG<|p (sj h) _<|A7 E))) λh=>AG<|o (sj h) _<|A7 E))
def ON(a:Dl):Option Dl:=some a
def YY{a b}(h:ON a=some b):AX 193 [.agg (Ef a)] (.agg<|PC b):=st AeQ E<|rn 2 E<|sj h ▸ Ag rZ
def Lk(a:Dl):Option Bool:=G (ON a) λb=>G (D7 b) λc=>some c
def SR{a b}(h:Lk a=some b):AX 185 [.agg (Ef a)] (.bool b):=st AeI E<|rn 1 E<|rs<|sp 1 E<|AW h λc d h=>qC (qa E (Cp<|A2 E<|A2 (Bq Cj _) E) AS) (YY d)<|AW h λe f h=>qC (qa E (Cp<|A2 E<|A2 (Bq Cj _) E) AS) (FE f)<|AZ 1 E<|sj h ▸ Ag rZ
def Lm(a:Dl)(b:zI)(c:Int->Option Int)(d:Int):Option Int:=cond (decide (d < (a.2.length:Int))) (G (AN a.2 d) λe=>chk ((0:Int)<=0∧0<=(b.length:Int)∧(b.length:Int)<=(e.length:Int))<|G (Hw (C2 e 0 (b.length:Int)) b) λf=>cond (decide (f < 0)) (c<|wZ<|d+1)<|some d)<|some d
def Ln(a:Dl)(b:zI)(c:Int->Option Int)(d:Int):Option Int:=cond (decide (d < (a.2.length:Int))) (G (AN a.2 d) λe=>chk ((0:Int)<=0∧0<=(b.length:Int)∧(b.length:Int)<=(e.length:Int))<|G (Hw (C2 e 0 (b.length:Int)) b) λf=>cond (f==0) (c<|wZ<|d+1)<|some d)<|some d
def H1(a:Dl)(b:zI):Option (Int×Int):=cond (decide (a.1 < (b.length:Int))) (some (0,0))<|G (Lk a) λc=>cond (!c) (some (0,0))<|G (Ap (Lm a b) fz 0) λd=>G (Ap (Ln a b) fz d) λe=>some (d,e)
def Vh{a b c}(h:H1 a b=some c):AX 186 [.agg (Ef a),dL Ah b] (.tup [nI c.1,nI c.2]):=st AeJ E<|rn 2 E<|CE λd=>rs<|sp 5 E<|EC h (λe h=>qg 15 e E<|AZ 4 E<|qT E E<|rn 1 E<|sj h ▸ Ag rZ) λe h=>qg 15 e E<|sp 1 E<|AW h λf g h=>EQ E E<|qC (qa E (Cp<|A2 E<|A2 (Bq Cj _) E) AS) (SR g)<|AZ 2 E<|BJ h E (λh=>rn 1 E<|sj h ▸ Ag rZ) λh=>BS d<|qk [1,2,6] E<|rn 1 E (Ao λi j=>DZ h λk l m=>have n:∀{o:Int},o=k->Jn i [(1,dL Ah b),(2,.box [nI a.1,dL Bg a.2]),(6,nI (b.length:Int)),(7,nI o)]:=@λo h _ p=>have h:=m h;j _<|lh p E<|rn 1 E (Ao λq r=>DZ h λs l t=>have u:∀{v:Int},v=s->Jn q [(7,nI o),(8,nI v)]:=@λv h _ p=>have h:=t h;r _<|lh p E<|rn 1 E<|sj h ▸ Ag rZ;(A9 (λ(w:Int)=>[(1,dL Ah b),(2,.box [nI a.1,dL Bg a.2]),(6,nI (b.length:Int)),(7,nI o),(8,nI w)]) _ _ _ _ l (A7 E) (λ_=>E)<|λx w y h z=>CE λA=>rs<|sp 6 E<|EC h (λB h=>qg 45 B E<|sp 3 E<|AW h λC D h=>EQ E E<|qI E Cm D<|sp 2 E<|Fi h λF h=>EQ E E<|fX E AQ F<|sp 1 E<|AW h λH I h=>EQ E E<|qC (qa E (Bq As _)<|qa E (Bq As _) AS) (LX I)<|AZ 2 E<|BJ h E (λh=>BS A<|A4<|rg<|AZ 3 E<|z _ _ h<|A7 E) λh=>AG<|u (sj h) _<|A7 E) λB h=>qg 45 B E<|AZ 11 E<|qk [1,2,6,7,8,56] E<|qF E E<|AG<|u (sj h) _<|A7 E));(A9 (λ(J:Int)=>[(1,dL Ah b),(2,.box [nI a.1,dL Bg a.2]),(6,nI (b.length:Int)),(7,nI J)]) _ _ _ _ l (A7 E) (λ_=>E)<|λx J y h z=>CE λK=>rs<|sp 6 E<|EC h (λL h=>qg 25 L E<|sp 3 E<|AW h λM N h=>EQ E E<|qI E Cm N<|sp 2 E<|Fi h λO h=>EQ E E<|fX E AQ O<|sp 1 E<|AW h λP Q h=>EQ E E<|qC (qa E (Bq As _)<|qa E (Bq As _) AS) (LX Q)<|AZ 2 E<|BJ h E (λh=>BS K<|A4<|rg<|AZ 3 E<|z _ _ h<|A7 E) λh=>AG<|n (sj h) _<|A7 E) λL h=>qg 25 L E<|AZ 11 E<|qk [1,2,6,7,36] E<|qF E E<|AG<|n (sj h) _<|A7 E))
def H0(a:(zI×Int)->Option (zI))(b:Int)(c:zI):Option (zI):=a (c,(wZ<|b+1))
def Gw(a:(zI×Int)->Option (zI))(b:zI)(c:zI)(d:Int)(e:zI)(f:Bool):Option (zI):=cond f (G (AN e (b.length:Int)) λg=>chk (List.length c+List.length [g]<=lim)<|H0 a d<|c++[g])<|H0 a d c
def Gv(a:Dl)(b:zI)(c:Int×Int)(d:(zI×Int)->Option (zI))(e:zI×Int):Option (zI):=match e with
  |(f,g)=>cond (decide (g < (List.length (C2 a.2 c.1 c.2):Int))) (G (AN (C2 a.2 c.1 c.2) g) λi=>cond ((f.length:Int)==0) (Gw d b f g i true)<|G (AN f<|wZ<|(f.length:Int) - 1) λj=>G (AN i (b.length:Int)) λk=>Gw d b f g i<|j !=k)<|some f
def Ir(a:Dl)(b:zI):Option (zI):=cond (decide (a.1<=(b.length:Int))) (some ([]:zI))<|G (Lk a) λc=>cond (!c) (some ([]:zI))<|G (H1 a b) λd=>chk ((0:Int)<=d.1∧d.1<=d.2∧d.2<=(a.2.length:Int))<|G (Ap (Gv a b d) fz (([]:zI),0)) λe=>some e
def XE{a b c}(h:Ir a b=some c):AX 174 [.agg (Ef a),dL Ah b] (oL 3 Ah c):=st Aex E<|rn 2 E<|CE λd=>rs<|sp 5 E<|EC h (λe h=>qg 17 e E<|AZ 4 E<|qT E E<|rn 1 E<|sj h ▸ Ag rZ) λe h=>qg 17 e E<|sp 1 E<|AW h λf g h=>EQ E E<|qC (qa E (Cp<|A2 E<|A2 (Bq Cj _) E) AS) (SR g)<|AZ 2 E<|BJ h E (λh=>rn 1 E<|sj h ▸ Ag rZ) λh=>BS d<|qk [1,2,5] E<|rn 1 E<|rs<|sp 2 E<|AW h λi j h=>qC (qa E (Cp<|A2 E<|A2 (Bq Cj _) E)<|qa E (Bq As _) AS) (Vh j)<|AZ 5 E<|Ao λk l=>rs<|sp 4 E<|Fi h λm h=>fX E Cm m<|AZ 2 E (DZ h λn o p=>have q:∀{r:zI},r=n->Jn k [(6,oL 3 Ah r)]:=@λr h _ s=>have h:=p h;l _<|lh s E<|rn 1 E<|sj h ▸ Ag rZ;(A9 (λ(t:zI×Int)=>match t with|(u,v)=>[(5,nI (b.length:Int)),(6,oL 3 Ah u),(32,dL Bg<|C2 a.2 i.1 i.2),(33,nI (List.length (C2 a.2 i.1 i.2):Int)),(34,nI v)]) _ _ _ _ o (A7 E) (λ_=>E)<|λw=>Ji λu v x h y=>rn 1 E<|CE λz=>BJ h E (λh=>BS z<|Ao λA B=>A4<|rs<|AW h λC D h=>qI E Cm D<|AZ 2 E (rdk (by kernel_rfl) λF H=>have I:∀{J:Bool},Gw (Ap (Gv a b i) w) b u v C J=some n->Jn F [(5,nI (b.length:Int)),(6,oL 3 Ah u),(10,dL Ah C),(32,dL Bg<|C2 a.2 i.1 i.2),(33,nI (List.length (C2 a.2 i.1 i.2):Int)),(34,nI v),(53,.bool J)]:=@λJ h _ s=>H _<|lh s E (have K:∀{L:zI},H0 (Ap (Gv a b i) w) v L=some n->Jn A [(5,nI (b.length:Int)),(6,oL 3 Ah L),(32,dL Bg<|C2 a.2 i.1 i.2),(33,nI (List.length (C2 a.2 i.1 i.2):Int)),(34,nI v)]:=@λL h _ s=>B _<|lh s E<|rg<|AZ 2 E<|y _ _ h<|A7 E;(BJ h E (λh=>rg<|sp 3 E<|AW h λM N h=>qI E AQ N<|sp 1 E<|Gl Ah [M] E E E AQ<|Fi h λO h=>qA Ah u [M] E E (Bl AQ [M]) E O<|AZ 1 E<|K h _<|A7 E) λh=>DF<|K h _<|A7 E));(sd 4 E<|EC h (λP h=>J7 41 P E<|sd 12 E<|Cs<|I h _<|A7 E) λP h=>J7 41 P E<|sd 4 E<|AW h λQ R h=>ed E<|EQ E E<|qI E AQ R<|sd 3 E<|AW h λS T h=>ed E<|EQ E E<|qI E AQ T<|sd 3 E<|Cs<|I h _<|A7 E))) λh=>AG<|q (sj h) _<|A7 E))
def Kj(a:(List zI×Int)->Option (List zI))(b:Int)(c:List zI):Option (List zI):=a (c,(wZ<|b+1))
def Kk(a:(zI×Int)->Option (zI))(b:Int)(c:zI):Option (zI):=a (c,(wZ<|b+1))
def Iu(a:zI)(b:zI)(c:Hh)(d:(zI×Int)->Option (zI))(e:zI×Int):Option (zI):=match e with
  |(f,g)=>cond (decide (g < (b.length:Int))) (G (AN b g) λi=>G (AN a g) λj=>G (DV c j) λk=>cond k (chk (List.length f+List.length [i]<=lim)<|Kk d g<|f++[i])<|Kk d g f)<|some f
def It(a:Fh)(b:List Dl)(c:zI)(d:zI)(e:(List zI×Int)->Option (List zI))(f:(List zI)×Int):Option (List zI):=match f with
  |(g,i)=>cond (decide (i < (a.2.1.length:Int))) (G (AN a.2.1 i) λj=>G (AN c (d.length:Int)) λk=>G (DV j k) λl=>cond (!l) (Kj e i g)<|G (Ap (Iu c d j) fz (([]:zI),0)) λm=>G (AN b i) λn=>G (Ir n m) λo=>chk (List.length g+List.length [o]<=lim)<|Kj e i<|g++[o])<|some g
def PR(a:Fh)(b:List Dl)(c:zI)(d:zI):Option (List zI):=G (Ap (It a b c d) fz (([]:List zI),0)) λe=>some e
def aA{a b c d e}(h:PR a b c d=some e):AX 155 [.agg (Df a),dL Ef b,dL Ah c,dL Ah d] (oL 26 AK e):=st Aee E<|rn 2 E<|Ao λf g=>rn 1 E (DZ h λi j k=>have l:∀{m:List zI},m=i->Jn f [(9,oL 26 AK m)]:=@λm h _ n=>have h:=k h;g _<|lh n E<|rn 1 E<|sj h ▸ Ag rZ;(A9 (λ(o:(List zI)×Int)=>match o with|(p,q)=>[(1,dL Ef b),(2,dL Ah c),(3,dL Ah d),(9,oL 26 AK p),(16,dL BM a.2.1),(17,nI (a.2.1.length:Int)),(18,nI q)]) _ _ _ _ j (A7 E) (λ_=>E)<|λr=>Ji λp q s h t=>rn 1 E<|CE λu=>BJ h E (λh=>BS u (Ao λv w=>have x:∀{y:List zI},Kj (Ap (It a b c d) r) q y=some i->Jn v [(1,dL Ef b),(2,dL Ah c),(3,dL Ah d),(9,oL 26 AK y),(16,dL BM a.2.1),(17,nI (a.2.1.length:Int)),(18,nI q)]:=@λy h _ n=>w _<|lh n E<|rg<|AZ 2 E<|t _ _ h<|A7 E;(A4<|rs<|sp 1 E<|AW h λz A h=>qI E Gk A<|AZ 4 E<|CE λB=>rd (by kernel_rfl)<|sd 4 E<|AW h λC D h=>ed E<|qI E AQ D<|sd 1 E<|AW h λF H h=>ed E<|qC (qa E (Cp<|A2 E<|A2 (Bq As _) E)<|qs E AS) (Il H)<|sd 1 E<|Cs<|BJ h E (λh=>AG<|x h _<|A7 E) λh=>BS B<|rn 1 E<|Ao λI J=>rn 1 E (DZ h λK j L=>have M:∀{N:zI},N=K->Jn I [(1,dL Ef b),(2,dL Ah c),(3,dL Ah d),(9,oL 26 AK p),(10,nI q),(12,oL 3 Ah N),(16,dL BM a.2.1),(17,nI (a.2.1.length:Int)),(18,nI q)]:=@λN h _ n=>have h:=L h;J _<|lh n E<|rg<|sp 3 E<|AW h λO P h=>qI E ZO P<|sp 2 E<|AW h λQ R h=>qC (qa E (Cp<|A2 E<|A2 (Bq Cj _) E)<|qa E (Bq As _) AS) (XE R)<|Gl AK [Q] E E E Dk<|Fi h λS h=>qA AK p [Q] E E (Bl Dk [Q]) E S<|AZ 1 E<|x h _<|A7 E;(A9 (λ(o:zI×Int)=>match o with|(T,U)=>[(1,dL Ef b),(2,dL Ah c),(3,dL Ah d),(9,oL 26 AK p),(10,nI q),(11,.box [.str z.1,dL Ah z.2]),(12,oL 3 Ah T),(16,dL BM a.2.1),(17,nI (a.2.1.length:Int)),(18,nI q),(31,dL Ah d),(32,nI (d.length:Int)),(33,nI U)]) _ _ _ _ j (A7 E) (λ_=>E)<|λr=>Ji λT U s h t=>rn 1 E<|CE λV=>BJ h E (λh=>BS V<|Ao λW X=>A4<|rs<|sp 1 E<|AW h λY Z h=>qI E AQ Z<|AZ 3 E<|rd (by kernel_rfl)<|sd 3 E<|AW h λe f h=>ed E<|qI E AQ f<|sd 1 E<|AW h λm g h=>ed E<|qC (qa E (Cp<|A2 E<|A2 (Bq As _) E)<|qs E AS) (Il g)<|Cs (have k:∀{u:zI},Kk (Ap (Iu c d z) r) U u=some K->Jn W [(1,dL Ef b),(2,dL Ah c),(3,dL Ah d),(9,oL 26 AK p),(10,nI q),(11,.box [.str z.1,dL Ah z.2]),(12,oL 3 Ah u),(16,dL BM a.2.1),(17,nI (a.2.1.length:Int)),(18,nI q),(31,dL Ah d),(32,nI (d.length:Int)),(33,nI U)]:=@λu h _ n=>X _<|lh n E<|rg<|AZ 2 E<|t _ _ h<|A7 E;(BJ h E (λh=>rg<|sp 2 E<|Gl Ah [Y] E E E AQ<|Fi h λi h=>qA Ah T [Y] E E (Bl AQ [Y]) E i<|AZ 1 E<|k h _<|A7 E) λh=>DF<|k h _<|A7 E))) λh=>AG<|M (sj h) _<|A7 E))))) λh=>AG<|l (sj h) _<|A7 E))
def Em(a:zI)(b:zI×Int)(c:(List zI×Int)->Option (List zI))(d:(List zI)×Int):Option (List zI):=match d with
  |(e,f)=>cond (decide (f < (b.1.length:Int))) (G (AN b.1 f) λg=>G (ED a) λi=>chk (List.length i+List.length [g]<=lim)<|chk (List.length e+List.length ([i++[g]])<=lim)<|c ((e++([i++[g]])),(wZ<|f+1)))<|some e
def El(a:Fh)(b:List Dl)(c:zI)(d:List zI)(e:(Int×List zI×Int)->Option (Int×(List zI)))(f:Int×List zI×Int):Option (Int×(List zI)):=match f with
  |(g,i,j)=>cond (decide (j < (d.length:Int))) (G (AN d j) λk=>G (PR a b c k) λl=>G (Ja l) λm=>G (Ap (Em k m) fz (i,0)) λn=>e ((wZ<|g+m.2),n,(wZ<|j+1)))<|some (g,i)
def Ek(a:Fh)(b:List Dl)(c:zI)(d:Int)(e:(List zI×Int×Int)->Option (List zI×Int))(f:(List zI)×Int×Int):Option (List zI×Int):=match f with
  |(g,i,j)=>cond (decide (j < d)) (G (Ap (El a b c g) fz (i,([]:List zI),0)) λk=>(match k with
  |(l,m)=>(e (m,l,(wZ (j+1)))))) (some (g,i))
def Gb(a:Fh)(b:List Dl)(c:zI)(d:Int):Option (List zI×Int×Bool):=G (Ap (Ek a b c d) fz (([[]]),0,0)) λe=>(match e with
  |(f,g)=>(some (f,g,decide ((f.length:Int)<=4000))))
def Q4{a b c d e}(h:Gb a b c d=some e):AX 126 [.agg (Df a),dL Ef b,dL Ah c,nI d,.fn 127] (.tup [oL 26 AK e.1,nI e.2.1,.bool e.2.2]):=st AdL E<|rn 1 E<|rs<|Gl Ah [] E E E AQ<|Gl AK [[]] E E E Dk<|AZ 1 E<|rn 1 E<|Ao λf g=>rn 1 E (DZ h λi j k=>have l:∀{m:List zI}{n:Int},(m,n)=i->Jn f [(13,oL 26 AK m),(14,nI n)]:=@λm n h _ o=>have h:=k h;g _<|lh o E<|rn 1 E<|sj h ▸ Ag rZ;(A9 (λ(p:(List zI)×Int×Int)=>match p with|(q,r,s)=>[(1,dL Ef b),(2,dL Ah c),(3,nI d),(4,.fn 127),(5,.box [nI a.1,dL BM a.2.1,dL Ah a.2.2]),(13,oL 26 AK q),(14,nI r),(15,nI s)]) _ _ _ _ j (A7 E) (λ_=>E)<|λt=>pr3 λq r s u h v=>Ee E λw=>BJ h E (λh=>BS w<|CE λx=>A4<|rn 1 E<|Ao λy z=>rn 1 E (DZ h λA j B=>have C:∀{D:Int}{F:List zI},(D,F)=A->Jn y [(1,dL Ef b),(2,dL Ah c),(3,nI d),(4,.fn 127),(5,.box [nI a.1,dL BM a.2.1,dL Ah a.2.2]),(14,nI D),(15,nI s),(16,oL 26 AK F)]:=@λD F h _ o=>have h:=B h;z _<|lh o E<|rg<|AZ 2 E<|x _<|rg<|AZ 3 E<|v _ _ h<|A7 E;(A9 (λ(p:Int×List zI×Int)=>match p with|(H,I,J)=>[(1,dL Ef b),(2,dL Ah c),(3,nI d),(4,.fn 127),(5,.box [nI a.1,dL BM a.2.1,dL Ah a.2.2]),(14,nI H),(15,nI s),(16,oL 26 AK I),(30,dL AK q),(31,nI (q.length:Int)),(32,nI J)]) _ _ _ _ j (A7 E) (λ_=>E)<|λt=>pr3 λH I J u h v=>rn 1 E<|CE λK=>BJ h E (λh=>BS K<|Ao λL M=>A4<|rs<|AW h λN O h=>qI E Dk O<|AZ 2 E<|rs<|sp 5 E<|AW h λP Q h=>qC (qa E (Cp<|A2 E<|A2 (Bq CS _)<|A2 (Bq As _) E)<|qa E (Bq dE _)<|qa E (Bq As _)<|qa E (Bq As _) AS) (aA Q)<|AW h λR S h=>qCt E (qa E (QX CX _) AS) (Ue S)<|AZ 5 E<|rn 2 E (DZ h λT j U=>have V:∀{W:List zI},W=T->Jn L [(1,dL Ef b),(2,dL Ah c),(3,nI d),(4,.fn 127),(5,.box [nI a.1,dL BM a.2.1,dL Ah a.2.2]),(14,nI<|wZ<|H+R.2),(15,nI s),(16,oL 26 AK W),(30,dL AK q),(31,nI (q.length:Int)),(32,nI J)]:=@λW h _ o=>have h:=U h;M _<|lh o E<|rg<|AZ 2 E<|v _ _ h<|A7 E;(A9 (λ(p:(List zI)×Int)=>match p with|(X,Y)=>[(1,dL Ef b),(2,dL Ah c),(3,nI d),(4,.fn 127),(5,.box [nI a.1,dL BM a.2.1,dL Ah a.2.2]),(14,nI<|wZ<|H+R.2),(15,nI s),(16,oL 26 AK X),(18,dL Ah N),(30,dL AK q),(31,nI (q.length:Int)),(32,nI J),(49,dL Ah R.1),(50,nI (R.1.length:Int)),(51,nI Y)]) _ _ _ _ j (A7 E) (λ_=>E)<|λt=>Ji λX Y u h v=>rn 1 E<|CE λZ=>BJ h E (λh=>BS Z<|CE λe=>A4<|rs<|AW h λf i h=>qI E AQ i<|AZ 2 E<|rg<|sp 2 E<|AW h λm n h=>qC (qa E (Bq As _) AS) (IK n)<|sp 1 E<|Gl Ah [f] E E E AQ<|Fi h λg h=>qA Ah m [f] E E (Bl AQ [f]) E g<|Gl AK [m++[f]] E E E Dk<|Fi h λk h=>qA AK X ([m++[f]]) E E (Bl Dk<|[m++[f]]) E k<|AZ 1 E<|e _<|rg<|AZ 2 E<|v _ _ h<|A7 E) λh=>AG<|V (sj h) _<|A7 E))) λh=>AG<|C (sj h) _<|A7 E))) λh=>AG<|l (sj h) _<|A7 E))
def MX(a:List CO)(b:Fh)(c:zI):Option (Dl×Int×Bool):=G (OM a b c) λd=>cond (!d.2) (some ((0,[]),0,false))<|G (PW d.1) λe=>cond e (some ((b.1,[]),0,true))<|G (Gb b d.1 c b.1) λf=>cond (!f.2.2) (some ((0,[]),0,false))<|some ((b.1,f.1),f.2.1,true)
def XD{a b c d}(h:MX a b c=some d):AX 81 [.agg [dL Co a],.agg (Df b),dL Ah c] (.tup [.agg (EK d.1),nI d.2.1,.bool d.2.2]):=st AiY E<|rn 1 E<|rs<|sp 3 E<|AW h λe f h=>qC (qa E (Cp<|A2 (Bq Dr _) E)<|qa E (Cp<|A2 E<|A2 (Bq CS _)<|A2 (Bq As _) E)<|qa E (Bq As _) AS) (YX f)<|AZ 5 E<|Ee E λg=>BJ h E (λh=>rn 1 E<|sj h ▸ Ag rZ) λh=>BS g<|CE λi=>rs<|sp 1 E<|AW h λj k h=>qC (qa E (Bq YP _) AS) (aD k)<|UX<|BJ h E (λh=>rn 1 E<|qk [6,7,8] E<|sj h ▸ Ag rZ) λh=>BS i<|rs<|sp 5 E<|AW h λl m h=>qC (qa E (Cp<|A2 E<|A2 (Bq CS _)<|A2 (Bq As _) E)<|qa E (Bq YP _)<|qa E (Bq As _)<|qs E<|qs E AS) (Q4 m)<|AZ 7 E<|Ee E λn=>BJ h E (λh=>rn 1 E<|sj h ▸ Ag rZ) λh=>BS n<|rn 1 E<|sj h ▸ Ag rZ
def PT(a:Fh)(b:zI)(c:(zI×Int)->Option (zI))(d:zI×Int):Option (zI):=match d with
  |(e,f)=>cond (decide (f < (a.2.2.length:Int))) (G (AN a.2.2 f) λg=>G (HL b g) λi=>chk (List.length e+List.length [i]<=lim)<|c ((e++[i]),(wZ<|f+1)))<|some e
def Wr(a:Fh)(b:zI):Option (zI):=G (Ap (PT a b) fz (([]:zI),0)) λc=>some c
def gm{a b c}(h:Wr a b=some c):AX 82 [.agg (Df a),dL Ah b] (oL 3 Ah c):=st AiZ E<|rn 2 E<|Ao λd e=>rn 1 E (DZ h λf g i=>have j:∀{k:zI},k=f->Jn d [(5,oL 3 Ah k)]:=@λk h _ l=>have h:=i h;e _<|lh l E<|rn 1 E<|sj h ▸ Ag rZ;(A9 (λ(m:zI×Int)=>match m with|(n,o)=>[(1,dL Ah b),(5,oL 3 Ah n),(9,dL Ah a.2.2),(10,nI (a.2.2.length:Int)),(11,nI o)]) _ _ _ _ g (A7 E) (λ_=>E)<|λp=>Ji λn o q h r=>rn 1 E<|CE λs=>BJ h E (λh=>BS s<|CE λt=>A4<|rs<|AW h λu v h=>qI E AQ v<|AZ 2 E<|rg<|sp 3 E<|AW h λw x h=>qC (qa E (Bq As _)<|qs E AS) (JE x)<|Gl Ah [w] E E E AQ<|Fi h λy h=>qA Ah n [w] E E (Bl AQ [w]) E y<|AZ 1 E<|t _<|rg<|AZ 2 E<|r _ _ h<|A7 E) λh=>AG<|j (sj h) _<|A7 E))
def In(a:List CO)(b:Fh)(c:zI):Option (Dl×Bool):=G (MX a b c) λd=>cond (!d.2.2) (some ((0,[]),false))<|G (Wr b c) λe=>G (HJ d.1 e) λf=>some (f.1,f.2)
def Tz{a b c d}(h:In a b c=some d):AX 38 [.agg [dL Co a],.agg (Df b),dL Ah c] (.tup [.agg (EK d.1),.bool d.2]):=st Aim E<|rn 1 E<|rs<|sp 3 E<|AW h λe f h=>qC (qa E (Cp<|A2 (Bq Dr _) E)<|qa E (Cp<|A2 E<|A2 (Bq CS _)<|A2 (Bq As _) E)<|qa E (Bq As _) AS) (XD f)<|AZ 8 E<|Ee E λg=>BJ h E (λh=>rn 1 E<|sj h ▸ Ag rZ) λh=>BS g<|rd (by kernel_rfl)<|sd 3 E<|AW h λi j h=>ed E<|qC (qa E (Cp<|A2 E<|A2 (Bq CS _)<|A2 (Bq As _) E)<|qa E (Bq As _) AS) (gm j)<|AW h λk l h=>ed E<|qC (qa E (Cp<|A2 E<|A2 (Bq CX _) E)<|qa E (QX As _) AS) (Nl l)<|sd 4 E<|Cs<|qk [6,7] E<|sj h ▸ Ag rZ
def NQ(a:List CO)(b:Fh)(c:ZS):Option (Dl×Bool):=cond (c.1==1) (G (Im a b c.2.2.1) λd=>some (d.1,d.2))<|cond (c.1==2) (G (F6 a b c.2.2.2) λe=>some (e.1,e.2))<|cond (c.1==3) (G (In a b c.2.1) λf=>some (f.1,f.2))<|some ((0,[]),false)
def Wn{a b c d}(h:NQ a b c=some d):AX 11 [.agg [dL Co a],.agg (Df b),.agg (UA c)] (.tup [.agg (EK d.1),.bool d.2]):=st AhZ E<|rn 1 E<|Ee E λe=>A4<|rn 1 E<|BJ h E (λh=>rs<|sp 4 E<|AW h λf g h=>qC (qa E (Cp<|A2 (Bq Dr _) E)<|qa E (Cp<|A2 E<|A2 (Bq CS _)<|A2 (Bq As _) E)<|qa E (Cp<|A2 (Bq As _) E) AS) (Ty g)<|AZ 4 E<|sj h ▸ Ag rZ) λh=>rn 1 E<|BJ h E (λh=>rs<|sp 4 E<|AW h λi j h=>qC (qa E (Cp<|A2 (Bq Dr _) E)<|qa E (Cp<|A2 E<|A2 (Bq CS _)<|A2 (Bq As _) E)<|qa E (Cp<|A2 (Bq Cj _)<|A2 (Bq As _) E) AS) (Q1 j)<|AZ 4 E<|qk [6,7] E<|sj h ▸ Ag rZ) λh=>rn 1 E<|BJ h E (λh=>rs<|sp 4 E<|AW h λk l h=>qC (qa E (Cp<|A2 (Bq Dr _) E)<|qa E (Cp<|A2 E<|A2 (Bq CS _)<|A2 (Bq As _) E)<|qa E (Bq As _) AS) (Tz l)<|AZ 4 E<|sj h ▸ Ag rZ) λh=>BS e<|rn 1 E<|sj h ▸ Ag rZ
def Wu(a:zI)(b:zI)(c:Int->Option (Sum Unit Bool))(d:Int):Option (Sum Unit Bool):=cond (decide (d < (a.length:Int))) (G (AN a d) λe=>G (AN b d) λf=>cond (e !=f) (some<|.inr false)<|c<|wZ<|d+1)<|some<|.inl ()
def Jo(a:zI)(b:zI):Option Bool:=cond ((a.length:Int)!=(b.length:Int)) (some false) (G (Ap (Wu a b) fz 0) λc=>(match c with
  |.inl _=>(some true)
  |.inr d=>some d))
def MG{a b c}(h:Jo a b=some c):AX 42 [dL Ah a,dL Ah b] (.bool c):=st Air E<|rn 1 E<|Ee E λd=>BJ h E (λh=>rn 1 E<|sj h ▸ Ag rZ) λh=>BS d<|Ao λe f=>rn 1 E (DZ h λg i j=>have k:(.inl ())=g->Jn e []:=λh _ l=>have h:=j h;f _<|lh l E<|rn 1 E<|sj h ▸ Ag rZ;(A9 (λ(m:Int)=>[(0,dL Ah a),(1,dL Ah b),(5,nI m)]) _ _ _ _ i (A7 E) (λ_=>E)<|λn m o h p=>Ee E λq=>BJ h E (λh=>BS q<|CE λr=>A4<|rd (by kernel_rfl)<|sd 2 E<|AW h λs t h=>ed E<|qI E AQ t<|sd 3 E<|AW h λu v h=>ed E<|qI E AQ v<|sd 2 E<|Cs<|BJ h E (λh=>rn 1 E<|sj (j<|sj h) ▸ Ag rZ) λh=>BS r<|rg<|AZ 3 E<|p _ _ h<|A7 E) λh=>AG<|k (sj h) _ trivial))
def VO(a:List zI)(b:List zI)(c:Int->Option (Sum Unit Bool))(d:Int):Option (Sum Unit Bool):=cond (decide (d < (a.length:Int))) (G (AN a d) λe=>G (AN b d) λf=>G (Jo e f) λg=>cond (!g) (some<|.inr false)<|c<|wZ<|d+1)<|some<|.inl ()
def PZ(a:List zI)(b:List zI):Option Bool:=cond ((a.length:Int)!=(b.length:Int)) (some false) (G (Ap (VO a b) fz 0) λc=>(match c with
  |.inl _=>(some true)
  |.inr d=>some d))
def Wt{a b c}(h:PZ a b=some c):AX 39 [dL Bg a,dL Bg b] (.bool c):=st Aio E<|rn 1 E<|Ee E λd=>BJ h E (λh=>rn 1 E<|sj h ▸ Ag rZ) λh=>BS d<|Ao λe f=>rn 1 E (DZ h λg i j=>have k:(.inl ())=g->Jn e []:=λh _ l=>have h:=j h;f _<|lh l E<|rn 1 E<|sj h ▸ Ag rZ;(A9 (λ(m:Int)=>[(0,dL Bg a),(1,dL Bg b),(5,nI m)]) _ _ _ _ i (A7 E) (λ_=>E)<|λn m o h p=>Ee E λq=>BJ h E (λh=>BS q<|CE λr=>A4<|rd (by kernel_rfl)<|sd 2 E<|AW h λs t h=>ed E<|qI E Cm t<|sd 3 E<|AW h λu v h=>ed E<|qI E Cm v<|sd 1 E<|AW h λw x h=>ed E<|qC (qa E (Bq As _)<|qa E (Bq As _) AS) (MG x)<|sd 1 E<|Cs<|BJ h E (λh=>rn 1 E<|sj (j<|sj h) ▸ Ag rZ) λh=>BS r<|rg<|AZ 3 E<|p _ _ h<|A7 E) λh=>AG<|k (sj h) _ trivial))
def IL(a:Dl)(b:Dl):Option Bool:=cond (a.1 !=b.1) (some false)<|G (PZ a.2 b.2) λc=>cond (!c) (some false)<|some true
def M3{a b c}(h:IL a b=some c):AX 12 [.agg (PC a),.agg (PC b)] (.bool c):=st Ah0 E<|rn 1 E<|Ee E λd=>BJ h E (λh=>rn 1 E<|sj h ▸ Ag rZ) λh=>BS d<|CE λe=>rs<|sp 4 E<|AW h λf g h=>qC (qa E (Bq Cj _)<|qa E (Bq Cj _) AS) (Wt g)<|AZ 1 E<|BJ h E (λh=>rn 1 E<|sj h ▸ Ag rZ) λh=>BS e<|rn 1 E<|qk [4] E<|sj h ▸ Ag rZ
def P0(a:CO)(b:CO):Option Bool:=cond (!(a.1==b.1)) (some false)<|G (IL a.2 b.2) λc=>cond (!c) (some false)<|some true
def en{a b c}(h:P0 a b=some c):AX 83 [.agg (Co a),.agg (Co b)] (.bool c):=st Ai0 E<|rn 1 E<|Ee E λd=>BJ h E (λh=>rn 1 E<|sj h ▸ Ag rZ) λh=>BS d<|CE λe=>rs<|sp 4 E<|AW h λf g h=>qC (qa E (Cp<|A2 E<|A2 (Bq Cj _) E)<|qa E (Cp<|A2 E<|A2 (Bq Cj _) E) AS) (M3 g)<|AZ 1 E<|BJ h E (λh=>rn 1 E<|sj h ▸ Ag rZ) λh=>BS e<|rn 1 E<|qk [4] E<|sj h ▸ Ag rZ
def UL(a:List CO)(b:List CO)(c:Int->Option (Sum Unit Bool))(d:Int):Option (Sum Unit Bool):=cond (decide (d < (a.length:Int))) (G (AN a d) λe=>G (AN b d) λf=>G (P0 e f) λg=>cond (!g) (some<|.inr false)<|c<|wZ<|d+1)<|some<|.inl ()
def Rr(a:List CO)(b:List CO):Option Bool:=cond ((a.length:Int)!=(b.length:Int)) (some false) (G (Ap (UL a b) fz 0) λc=>(match c with
  |.inl _=>(some true)
  |.inr d=>some d))
def bO{a b c}(h:Rr a b=some c):AX 40 [dL Co a,dL Co b] (.bool c):=st Aip E<|rn 1 E<|Ee E λd=>BJ h E (λh=>rn 1 E<|sj h ▸ Ag rZ) λh=>BS d<|Ao λe f=>rn 1 E (DZ h λg i j=>have k:(.inl ())=g->Jn e []:=λh _ l=>have h:=j h;f _<|lh l E<|rn 1 E<|sj h ▸ Ag rZ;(A9 (λ(m:Int)=>[(0,dL Co a),(1,dL Co b),(5,nI m)]) _ _ _ _ i (A7 E) (λ_=>E)<|λn m o h p=>Ee E λq=>BJ h E (λh=>BS q<|CE λr=>A4<|rd (by kernel_rfl)<|sd 2 E<|AW h λs t h=>ed E<|qI E QD t<|sd 3 E<|AW h λu v h=>ed E<|qI E QD v<|sd 1 E<|AW h λw x h=>ed E<|qC (qa E (Cp<|A2 E<|A2 E<|A2 (Bq Cj _) E)<|qa E (Cp<|A2 E<|A2 E<|A2 (Bq Cj _) E) AS) (en x)<|sd 1 E<|Cs<|BJ h E (λh=>rn 1 E<|sj (j<|sj h) ▸ Ag rZ) λh=>BS r<|rg<|AZ 3 E<|p _ _ h<|A7 E) λh=>AG<|k (sj h) _ trivial))
def OP(a:List CO)(b:List CO):Option Bool:=G (Rr a b) λc=>cond (!c) (some false)<|some true
def Y6{a b c}(h:OP a b=some c):AX 13 [.agg [dL Co a],.agg [dL Co b]] (.bool c):=st Ah1 E<|rn 1 E<|CE λd=>rs<|sp 4 E<|AW h λe f h=>qC (qa E (Bq Dr _)<|qa E (Bq Dr _) AS) (bO f)<|AZ 1 E<|BJ h E (λh=>rn 1 E<|sj h ▸ Ag rZ) λh=>BS d<|rn 1 E<|sj h ▸ Ag rZ
def RJ(a:Hh)(b:Hh):Option Bool:=cond (!(a.1==b.1)) (some false)<|G (Jo a.2 b.2) λc=>cond (!c) (some false)<|some true
def gn{a b c}(h:RJ a b=some c):AX 84 [.agg (BM a),.agg (BM b)] (.bool c):=st Ai1 E<|rn 1 E<|Ee E λd=>BJ h E (λh=>rn 1 E<|sj h ▸ Ag rZ) λh=>BS d<|CE λe=>rs<|sp 4 E<|AW h λf g h=>qC (qa E (Bq As _)<|qa E (Bq As _) AS) (MG g)<|AZ 1 E<|BJ h E (λh=>rn 1 E<|sj h ▸ Ag rZ) λh=>BS e<|rn 1 E<|qk [4] E<|sj h ▸ Ag rZ
def VN(a:List Hh)(b:List Hh)(c:Int->Option (Sum Unit Bool))(d:Int):Option (Sum Unit Bool):=cond (decide (d < (a.length:Int))) (G (AN a d) λe=>G (AN b d) λf=>G (RJ e f) λg=>cond (!g) (some<|.inr false)<|c<|wZ<|d+1)<|some<|.inl ()
def So(a:List Hh)(b:List Hh):Option Bool:=cond ((a.length:Int)!=(b.length:Int)) (some false) (G (Ap (VN a b) fz 0) λc=>(match c with
  |.inl _=>(some true)
  |.inr d=>some d))
def eh{a b c}(h:So a b=some c):AX 41 [dL BM a,dL BM b] (.bool c):=st Aiq E<|rn 1 E<|Ee E λd=>BJ h E (λh=>rn 1 E<|sj h ▸ Ag rZ) λh=>BS d<|Ao λe f=>rn 1 E (DZ h λg i j=>have k:(.inl ())=g->Jn e []:=λh _ l=>have h:=j h;f _<|lh l E<|rn 1 E<|sj h ▸ Ag rZ;(A9 (λ(m:Int)=>[(0,dL BM a),(1,dL BM b),(5,nI m)]) _ _ _ _ i (A7 E) (λ_=>E)<|λn m o h p=>Ee E λq=>BJ h E (λh=>BS q<|CE λr=>A4<|rd (by kernel_rfl)<|sd 2 E<|AW h λs t h=>ed E<|qI E Gk t<|sd 3 E<|AW h λu v h=>ed E<|qI E Gk v<|sd 1 E<|AW h λw x h=>ed E<|qC (qa E (Cp<|A2 E<|A2 (Bq As _) E)<|qa E (Cp<|A2 E<|A2 (Bq As _) E) AS) (gn x)<|sd 1 E<|Cs<|BJ h E (λh=>rn 1 E<|sj (j<|sj h) ▸ Ag rZ) λh=>BS r<|rg<|AZ 3 E<|p _ _ h<|A7 E) λh=>AG<|k (sj h) _ trivial))
def Sp(a:Fh)(b:Fh):Option Bool:=cond (a.1 !=b.1) (some false)<|G (So a.2.1 b.2.1) λc=>cond (!c) (some false)<|G (Jo a.2.2 b.2.2) λd=>cond (!d) (some false)<|some true
def el{a b c}(h:Sp a b=some c):AX 14 [.agg (Df a),.agg (Df b)] (.bool c):=st Ah2 E<|rn 1 E<|Ee E λd=>BJ h E (λh=>rn 1 E<|sj h ▸ Ag rZ) λh=>BS d<|CE λe=>rs<|sp 4 E<|AW h λf g h=>qC (qa E (Bq CS _)<|qa E (Bq CS _) AS) (eh g)<|AZ 1 E<|BJ h E (λh=>rn 1 E<|sj h ▸ Ag rZ) λh=>BS e<|CE λi=>rs<|sp 4 E<|AW h λj k h=>qC (qa E (Bq As _)<|qa E (Bq As _) AS) (MG k)<|AZ 1 E<|qk [21] E<|BJ h E (λh=>rn 1 E<|sj h ▸ Ag rZ) λh=>BS i<|rn 1 E<|sj h ▸ Ag rZ
def M2(a:zI)(b:zI):Option Bool:=G (Jo a b) λc=>cond (!c) (some false)<|some true
def XG{a b c}(h:M2 a b=some c):AX 43 [.agg [dL Ah a],.agg [dL Ah b]] (.bool c):=st Ais E<|rn 1 E<|CE λd=>rs<|sp 4 E<|AW h λe f h=>qC (qa E (Bq As _)<|qa E (Bq As _) AS) (MG f)<|AZ 1 E<|BJ h E (λh=>rn 1 E<|sj h ▸ Ag rZ) λh=>BS d<|rn 1 E<|sj h ▸ Ag rZ
def Kl(a:Rm)(b:Rm):Option Bool:=G (PZ a.1 b.1) λc=>cond (!c) (some false)<|G (Jo a.2 b.2) λd=>cond (!d) (some false)<|some true
def Vl{a b c}(h:Kl a b=some c):AX 44 [.agg (TH a),.agg (TH b)] (.bool c):=st Ait E<|rn 1 E<|CE λd=>rs<|sp 4 E<|AW h λe f h=>qC (qa E (Bq Cj _)<|qa E (Bq Cj _) AS) (Wt f)<|AZ 1 E<|BJ h E (λh=>rn 1 E<|sj h ▸ Ag rZ) λh=>BS d<|CE λg=>rs<|sp 4 E<|AW h λi j h=>qC (qa E (Bq As _)<|qa E (Bq As _) AS) (MG j)<|AZ 1 E<|BJ h E (λh=>rn 1 E<|sj h ▸ Ag rZ) λh=>BS g<|qk [] E<|rn 1 E<|sj h ▸ Ag rZ
def TR(a:ZS)(b:ZS):Option Bool:=cond (a.1 !=b.1) (some false)<|G (Jo a.2.1 b.2.1) λc=>cond (!c) (some false)<|G (M2 a.2.2.1 b.2.2.1) λd=>cond (!d) (some false)<|G (Kl a.2.2.2 b.2.2.2) λe=>cond (!e) (some false)<|some true
def gq{a b c}(h:TR a b=some c):AX 15 [.agg (UA a),.agg (UA b)] (.bool c):=st Ah3 E<|rn 1 E<|Ee E λd=>BJ h E (λh=>rn 1 E<|sj h ▸ Ag rZ) λh=>BS d<|CE λe=>rs<|sp 4 E<|AW h λf g h=>qC (qa E (Bq As _)<|qa E (Bq As _) AS) (MG g)<|AZ 1 E<|BJ h E (λh=>rn 1 E<|sj h ▸ Ag rZ) λh=>BS e<|CE λi=>rs<|sp 4 E<|AW h λj k h=>qC (qa E (Cp<|A2 (Bq As _) E)<|qa E (Cp<|A2 (Bq As _) E) AS) (XG k)<|AZ 1 E<|qk [2,3,21] E<|BJ h E (λh=>rn 1 E<|sj h ▸ Ag rZ) λh=>BS i<|CE λl=>rs<|sp 4 E<|AW h λm n h=>qC (qa E (Cp<|A2 (Bq Cj _)<|A2 (Bq As _) E)<|qa E (Cp<|A2 (Bq Cj _)<|A2 (Bq As _) E) AS) (Vl n)<|AZ 1 E<|BJ h E (λh=>rn 1 E<|sj h ▸ Ag rZ) λh=>BS l<|rn 1 E<|sj h ▸ Ag rZ
def NY(a:zI)(b:(Int×Int)->Option (Sum Int Int))(c:Int×Int):Option (Sum Int Int):=match c with
  |(d,e)=>cond (decide (e < (a.length:Int))) (G (AN a e) λf=>cond (f !=d) (some<|.inr (-1))<|b ((wZ<|d+1),(wZ<|e+1)))<|some<|.inl d
def Rs(a:zI)(b:Int):Option Int:=G (Ap (NY a) fz (b,0)) λc=>(match c with
  |.inl d=>(some d)
  |.inr e=>some e)
def bP{a b c}(h:Rs a b=some c):AX 86 [dL Ah a,nI b] (nI c):=st Ai2 E<|rn 1 E<|Ao λd e=>rn 1 E (DZ h λf g i=>have j:∀{k:Int},(.inl k)=f->Jn d [(1,nI k)]:=@λk h _ l=>have h:=i h;e _<|lh l E<|rn 1 E<|sj h ▸ Ag rZ;(A9 (λ(m:Int×Int)=>match m with|(n,o)=>[(0,dL Ah a),(1,nI n),(5,nI o)]) _ _ _ _ g (A7 E) (λ_=>E)<|λp=>Ji λn o q h r=>Ee E λs=>BJ h E (λh=>BS s<|CE λt=>A4<|CE λu=>rs<|sp 2 E<|AW h λv w h=>qI E AQ w<|AZ 3 E<|BJ h E (λh=>rn 1 E<|sj (i<|sj h) ▸ Ag rZ) λh=>BS u<|rg<|AZ 3 E<|t _<|rg<|AZ 3 E<|r _ _ h<|A7 E) λh=>AG<|j (sj h) _<|A7 E))
def M4(a:List zI)(b:(Int×Int)->Option (Sum Int Int))(c:Int×Int):Option (Sum Int Int):=match c with
  |(d,e)=>cond (decide (e < (a.length:Int))) (G (AN a e) λf=>G (Rs f d) λg=>cond (decide (g < 0)) (some<|.inr (-1))<|b (g,(wZ<|e+1)))<|some<|.inl d
def P1(a:List zI)(b:Int):Option Int:=G (Ap (M4 a) fz (b,0)) λc=>(match c with
  |.inl d=>(some d)
  |.inr e=>some e)
def aG{a b c}(h:P1 a b=some c):AX 51 [dL Bg a,nI b] (nI c):=st Aiu E<|rn 1 E<|Ao λd e=>rn 1 E (DZ h λf g i=>have j:∀{k:Int},(.inl k)=f->Jn d [(1,nI k)]:=@λk h _ l=>have h:=i h;e _<|lh l E<|rn 1 E<|sj h ▸ Ag rZ;(A9 (λ(m:Int×Int)=>match m with|(n,o)=>[(0,dL Bg a),(1,nI n),(5,nI o)]) _ _ _ _ g (A7 E) (λ_=>E)<|λp=>Ji λn o q h r=>Ee E λs=>BJ h E (λh=>BS s<|CE λt=>A4<|rs<|sp 2 E<|AW h λu v h=>qI E Cm v<|sp 2 E<|AW h λw x h=>qC (qa E (Bq As _)<|qs E AS) (bP x)<|AZ 1 E<|rn 1 E<|BJ h E (λh=>rn 1 E<|sj (i<|sj h) ▸ Ag rZ) λh=>BS t<|rg<|AZ 3 E<|r _ _ h<|A7 E) λh=>AG<|j (sj h) _<|A7 E))
def Km(a:Dl)(b:Int):Option Int:=G (P1 a.2 b) λc=>cond (decide (c < 0)) (some (-1))<|some c
def Sf{a b c}(h:Km a b=some c):AX 20 [.agg (PC a),nI b] (nI c):=st Ah4 E<|rn 1 E<|rs<|sp 3 E<|AW h λd e h=>qC (qa E (Bq Cj _)<|qs E AS) (aG e)<|AZ 1 E<|Ee E λf=>BJ h E (λh=>rn 1 E<|sj h ▸ Ag rZ) λh=>BS f<|rn 1 E<|sj h ▸ Ag rZ
def Om(a:List Tr)(b:Y27)(c:Y34):Option Bool:=G (OQ a 1048576) λd=>cond (decide (d < 0)) (some true)<|G (Sr b d) λe=>cond (decide (e < 0)) (some true)<|G (TU c e) λf=>cond (decide (f < 0)) (some true)<|G (IM a) λg=>G (L7 b) λi=>G (Ns c) λj=>G (Qr g i j) λk=>G (IM a) λl=>G (L7 b) λm=>G (Ns c) λn=>G (NQ l m n) λo=>G (IL o.1 k.1) λp=>cond (!p) (some false)<|cond (!(o.2==k.2)) (some false)<|G (IM a) λq=>G (OP l q) λr=>cond (!r) (some false)<|G (L7 b) λs=>G (Sp m s) λt=>cond (!t) (some false)<|G (Ns c) λu=>G (TR n u) λv=>cond (!v) (some false)<|G (P2 l 1) λw=>G (S0 m w.2) λx=>G (Uj n x.2) λy=>cond (decide (y.2 < 0)) (some false)<|G (IL o.1 k.1) λz=>cond (!z) (some false)<|cond (!(o.2==k.2)) (some false)<|G (P3 o.1 1) λA=>G (Km A.1 1) λB=>cond (decide (B < 0)) (some false)<|cond (B !=A.2) (some false)<|G (IM a) λC=>G (L7 b) λD=>G (Ns c) λF=>G (NQ C D F) λH=>G (IL H.1 k.1) λI=>cond (!I) (some false)<|cond (!(H.2==k.2)) (some false)<|G (Km A.1 1) λJ=>cond (decide (J < 0)) (some false)<|cond (J !=A.2) (some false)<|some true
def V2{a b c d}(h:Om a b c=some d):AX 3 [.agg [aL U2 a],.agg (pP b),.agg (g8 c)] (.bool d):=by
 refine st AkM E<|rn 2 E<|rs<|sp 2 E<|AW h λe f h=>qC (qa E (Cp<|A2 (I8 YQ _) E)<|qs E AS) (Y7 f)<|AZ 1 E<|Ee E λg=>?_
 refine BJ h E (λh=>rn 1 E<|sj h ▸ Ag rZ) λh=>BS g<|rs<|sp 2 E<|AW h λi j h=>qC (qa E (Cp<|A2 E<|A2 (I8 dF _)<|A2 (I8 As _) E)<|qs E AS) (ep j)<|AZ 1 E<|Ee E λk=>qk [3,4,5,7,29] E<|BJ h E (λh=>rn 1 E<|sj h ▸ Ag rZ) λh=>BS k<|rs<|sp 2 E<|AW h λl m h=>qC (qa E (Cp<|A2 E<|A2 (I8 As _)<|A2 (I8 As _)<|A2 (I8 U8 _)<|A2 (I8 As _) E)<|qs E AS) (gu m)<|AZ 1 E<|Ee E λn=>BJ h E (λh=>rn 1 E<|sj h ▸ Ag rZ) λh=>BS n<|rd (by kernel_rfl)<|sd 1 E<|AW h λo p h=>ed E<|qC (qa E (Cp<|A2 (I8 YQ _) E) AS) (M6 p)<|sd 1 E<|AW h λq r h=>ed E<|qC (qa E (Cp<|A2 E<|A2 (I8 dF _)<|A2 (I8 As _) E) AS) (P6 r)<|sd 1 E<|AW h λs t h=>ed E<|qC (qa E (Cp<|A2 E<|A2 (I8 As _)<|A2 (I8 As _)<|A2 (I8 U8 _)<|A2 (I8 As _) E) AS) (Ru t)<|AW h λu v h=>ed E<|qC (qa E (Cp<|A2 (QX Wg _) E)<|qa E (Cp<|A2 E<|A2 (QX YO _)<|A2 (QX As _) E)<|qa E (Cp<|A2 E<|A2 (QX As _)<|A2 (QX As _)<|A2 (QX CX _)<|A2 (QX As _) E) AS) (fG v)<|sd 6 E<|Cs<|qk [3,4,5,8,9] E<|rs<|sp 1 E<|AW h λw x h=>qC (qa E (Cp<|A2 (I8 YQ _) E) AS) (M6 x)<|AZ 2 E<|rs<|sp 1 E<|AW h λy z h=>qC (qa E (Cp<|A2 E<|A2 (I8 dF _)<|A2 (I8 As _) E) AS) (P6 z)<|AZ 2 E<|rs<|sp 1 E<|AW h λA B h=>qC (qa E (Cp<|A2 E<|A2 (I8 As _)<|A2 (I8 As _)<|A2 (I8 U8 _)<|A2 (I8 As _) E) AS) (Ru B)<|AZ 2 E<|rs<|sp 3 E<|AW h λC D h=>qC (qa E (Cp<|A2 (Bq Wg _) E)<|qa E (Cp<|A2 E<|A2 (Bq YO _)<|A2 (Bq As _) E)<|qa E (Cp<|A2 E<|A2 (Bq As _)<|A2 (Bq As _)<|A2 (Bq CX _)<|A2 (Bq As _) E) AS) (Wn D)<|AZ 6 E<|CE λF=>rs<|sp 2 E<|AW h λH I h=>qC (qa E (Cp<|A2 E<|A2 (Bq CX _) E)<|qa E (Cp<|A2 E<|A2 (Bq CX _) E) AS) (M3 I)<|sp 2 E<|EC h (λJ h=>qg 62 J E<|AZ 4 E<|qT E E<|rn 1 E<|qk [6] E<|sj h ▸ Ag rZ) λJ h=>qg 62 J E<|AZ 4 E<|BJ h E (λh=>rn 1 E<|sj h ▸ Ag rZ) λh=>BS F<|CE λK=>rd (by kernel_rfl)<|sd 2 E<|AW h λL M h=>ed E<|qC (qa E (Cp<|A2 (I8 YQ _) E) AS) (M6 M)<|AW h λN O h=>ed E<|qC (qa E (Cp<|A2 (Bq Wg _) E)<|qa E (Cp<|A2 (QX Wg _) E) AS) (Y6 O)<|sd 1 E<|Cs<|BJ h E (λh=>rn 1 E<|sj h ▸ Ag rZ) λh=>BS K<|CE λP=>rd (by kernel_rfl)<|sd 2 E<|AW h λQ R h=>ed E<|qC (qa E (Cp<|A2 E<|A2 (I8 dF _)<|A2 (I8 As _) E) AS) (P6 R)<|AW h λS T h=>ed E<|qC (qa E (Cp<|A2 E<|A2 (Bq YO _)<|A2 (Bq As _) E)<|qa E (Cp<|A2 E<|A2 (QX YO _)<|A2 (QX As _) E) AS) (el T)<|sd 1 E<|Cs<|qk [3,4,5,8,9,10,11,12,13,14,76] E<|BJ h E (λh=>rn 1 E<|sj h ▸ Ag rZ) λh=>BS P<|CE λU=>rd (by kernel_rfl)<|sd 2 E<|AW h λV W h=>ed E<|qC (qa E (Cp<|A2 E<|A2 (I8 As _)<|A2 (I8 As _)<|A2 (I8 U8 _)<|A2 (I8 As _) E) AS) (Ru W)<|AW h λX Y h=>ed E<|qC (qa E (Cp<|A2 E<|A2 (Bq As _)<|A2 (Bq As _)<|A2 (Bq CX _)<|A2 (Bq As _) E)<|qa E (Cp<|A2 E<|A2 (QX As _)<|A2 (QX As _)<|A2 (QX CX _)<|A2 (QX As _) E) AS) (gq Y)<|sd 1 E<|Cs<|BJ h E (λh=>rn 1 E<|sj h ▸ Ag rZ) λh=>BS U<|rn 1 E<|qk [3,4,5,8,9,10,11,12,13,14,15] E<|AW h λZ d h=>cJ (cR GK E E E) E E (XI d) (Ahh _) (nr<|XR (scc (ZR xO _) fY)<|XR (scc E<|scc (ZR xP _)<|scc (ZR (λ_=>E) _) fY)<|XR (scc E<|scc (ZR (λ_=>E) _)<|scc (ZR (λ_=>E) _)<|scc (ZR xN _)<|scc (ZR (λ_=>E) _) fY)<|XR (scc E<|scc (sco YN _) fY)<|XR E<|sfs<|XR (scc E<|scc (sco uz _)<|scc (sco (λ_=>E) _) fY)<|XR (scc E<|scc (sco (λ_=>E) _)<|scc (sco (λ_=>E) _)<|scc (sco YN _)<|scc (sco (λ_=>E) _) fY)<|XR (scc E<|scc (sco YN _) fY)<|XR E<|XR E sfn) E E ⟨by decide,by decide⟩ E E<|kp [(3,.box [aL U2 a]),(4,.box [nI b.1,aL bi b.2.1,aL Ah b.2.2]),(5,.box [nI c.1,aL Ah c.2.1,aL Ah c.2.2.1,aL SG c.2.2.2.1,aL Ah c.2.2.2.2]),(8,.box [nI u.1.1,oL 26 AK u.1.2]),(9,.bool u.2),(11,.box [nI y.1,oL 102 E4 y.2.1,oL 3 Ah y.2.2]),(12,.box [nI A.1,oL 3 Ah A.2.1,oL 3 Ah A.2.2.1,oL 26 AK A.2.2.2.1,oL 3 Ah A.2.2.2.2]),(13,.box [nI C.1.1,oL 26 AK C.1.2]),(14,.bool C.2),(15,nI Z.2)] E E<|qk [3,4,5,8,9,11,12,13,14,15] E ?_
 exact AW h λe f h=>cJ (cR GK E E E) E E (aI f) (Ahi _) (nr<|XR (scc (ZR xO _) fY)<|XR (scc E<|scc (ZR xP _)<|scc (ZR (λ_=>E) _) fY)<|XR (scc E<|scc (ZR (λ_=>E) _)<|scc (ZR (λ_=>E) _)<|scc (ZR xN _)<|scc (ZR (λ_=>E) _) fY)<|XR (scc E<|scc (sco YN _) fY)<|XR E<|sfs<|XR (scc E<|scc (sco (λ_=>E) _)<|scc (sco (λ_=>E) _)<|scc (sco YN _)<|scc (sco (λ_=>E) _) fY)<|XR (scc E<|scc (sco YN _) fY)<|XR E<|XR E sfn) E E ⟨by decide,by decide⟩ E E<|kp [(3,.box [aL U2 a]),(4,.box [nI b.1,aL bi b.2.1,aL Ah b.2.2]),(5,.box [nI c.1,aL Ah c.2.1,aL Ah c.2.2.1,aL SG c.2.2.2.1,aL Ah c.2.2.2.2]),(8,.box [nI u.1.1,oL 26 AK u.1.2]),(9,.bool u.2),(12,.box [nI A.1,oL 3 Ah A.2.1,oL 3 Ah A.2.2.1,oL 26 AK A.2.2.2.1,oL 3 Ah A.2.2.2.2]),(13,.box [nI C.1.1,oL 26 AK C.1.2]),(14,.bool C.2),(15,nI e.2)] E E<|qk [3,4,5,8,9,12,13,14,15] E<|AW h λg i h=>cJ (cR GK E E E) E E (bR i) (Ahj _) (nr<|XR (scc (ZR xO _) fY)<|XR (scc E<|scc (ZR xP _)<|scc (ZR (λ_=>E) _) fY)<|XR (scc E<|scc (ZR (λ_=>E) _)<|scc (ZR (λ_=>E) _)<|scc (ZR xN _)<|scc (ZR (λ_=>E) _) fY)<|XR (scc E<|scc (sco YN _) fY)<|XR E<|sfs<|XR (scc E<|scc (sco YN _) fY)<|XR E<|XR E sfn) E E ⟨by decide,by decide⟩ E E<|kp [(3,.box [aL U2 a]),(4,.box [nI b.1,aL bi b.2.1,aL Ah b.2.2]),(5,.box [nI c.1,aL Ah c.2.1,aL Ah c.2.2.1,aL SG c.2.2.2.1,aL Ah c.2.2.2.2]),(8,.box [nI u.1.1,oL 26 AK u.1.2]),(9,.bool u.2),(13,.box [nI C.1.1,oL 26 AK C.1.2]),(14,.bool C.2),(15,nI g.2)] E E<|CE λj=>rs<|sp 3 E<|EC h (λk h=>qg 93 k E<|AZ 10 E<|qT E E<|rn 1 E<|sj h ▸ Ag rZ) λk h=>qg 93 k E<|sp 2 E<|AW h λl m h=>EQ E E<|qC (qa E (Cp<|A2 E<|A2 (Bq CX _) E)<|qa E (Cp<|A2 E<|A2 (Bq CX _) E) AS) (M3 m)<|sp 3 E<|EC h (λn h=>qg 99 n E<|AZ 4 E<|qT E E<|rn 1 E<|qk [6] E<|sj h ▸ Ag rZ) λn h=>qg 99 n E<|AZ 4 E<|BJ h E (λh=>rn 1 E<|sj h ▸ Ag rZ) λh=>BS j<|rn 1 E<|qk [3,4,5,8,9,13,16] E<|AW h λo p h=>cJ (cR GK E E E) E E (XK p) (Ahg _) (nr<|XR (scc (ZR xO _) fY)<|XR (scc E<|scc (ZR xP _)<|scc (ZR (λ_=>E) _) fY)<|XR (scc E<|scc (ZR (λ_=>E) _)<|scc (ZR (λ_=>E) _)<|scc (ZR xN _)<|scc (ZR (λ_=>E) _) fY)<|XR (scc E<|scc (sco YN _) fY)<|XR E<|sfs<|XR E sfn) E E ⟨by decide,by decide⟩ E E<|kp [(3,.box [aL U2 a]),(4,.box [nI b.1,aL bi b.2.1,aL Ah b.2.2]),(5,.box [nI c.1,aL Ah c.2.1,aL Ah c.2.2.1,aL SG c.2.2.2.1,aL Ah c.2.2.2.2]),(8,.box [nI u.1.1,oL 26 AK u.1.2]),(9,.bool u.2),(13,.box [nI o.1.1,oL 26 AK o.1.2]),(16,nI o.2)] E E<|rn 1 E<|rs<|sp 2 E<|AW h λq r h=>qC (qa E (Cp<|A2 E<|A2 (Bq CX _) E)<|qs E AS) (Sf r)<|AZ 1 E<|Ee E λs=>BJ h E (λh=>rn 1 E<|sj h ▸ Ag rZ) λh=>BS s<|Ee E λt=>BJ h E (λh=>rn 1 E<|qk [6] E<|sj h ▸ Ag rZ) λh=>BS t<|rd (by kernel_rfl)<|sd 1 E<|AW h λv w h=>ed E<|qC (qa E (Cp<|A2 (I8 YQ _) E) AS) (M6 w)<|sd 1 E<|AW h λx z h=>ed E<|qC (qa E (Cp<|A2 E<|A2 (I8 dF _)<|A2 (I8 As _) E) AS) (P6 z)<|sd 1 E<|AW h λB D h=>ed E<|qC (qa E (Cp<|A2 E<|A2 (I8 As _)<|A2 (I8 As _)<|A2 (I8 U8 _)<|A2 (I8 As _) E) AS) (Ru D)<|AW h λH I h=>ed E<|qC (qa E (Cp<|A2 (QX Wg _) E)<|qa E (Cp<|A2 E<|A2 (QX YO _)<|A2 (QX As _) E)<|qa E (Cp<|A2 E<|A2 (QX As _)<|A2 (QX As _)<|A2 (QX CX _)<|A2 (QX As _) E) AS) (Wn I)<|sd 6 E<|Cs<|CE λF=>rs<|sp 2 E<|AW h λJ L h=>qC (qa E (Cp<|A2 E<|A2 (Bq CX _) E)<|qa E (Cp<|A2 E<|A2 (Bq CX _) E) AS) (M3 L)<|sp 2 E<|EC h (λM h=>qg 129 M E<|AZ 4 E<|qT E E<|rn 1 E<|sj h ▸ Ag rZ) λM h=>qg 129 M E<|AZ 4 E<|qk [13,16,133] E<|BJ h E (λh=>rn 1 E<|sj h ▸ Ag rZ) λh=>BS F<|rn 1 E<|rs<|sp 2 E<|AW h λN K h=>qC (qa E (Cp<|A2 E<|A2 (Bq CX _) E)<|qs E AS) (Sf K)<|AZ 1 E<|Ee E λO=>BJ h E (λh=>rn 1 E<|sj h ▸ Ag rZ) λh=>BS O<|Ee E λQ=>qk [141] E<|BJ h E (λh=>rn 1 E<|sj h ▸ Ag rZ) λh=>BS Q<|rn 1 E<|sj h ▸ Ag rZ
end
section
def cZ{B:(Int->zS)->Int->zS}{n:Nat}(a:Nat->Bool){M:Nat}(l:n < M)(o:∀k,k < n->∀b,B b (k:Int)=cond (a k) (some<|.inr false) (b ((k+1:Nat):Int)))(p:∀b,B b (n:Int)=some (.inl ())):
  Ap B M 0=some (cond ((List.range n).any a) (.inr false)<|.inl ()):=by
 have e:∀d k,k+d=n->(∀j,j < k->a j=false)->∀m,d < m->Ap B m (k:Int)=some (cond ((List.range n).any a) (.inr false)<|.inl ()):=by
  intro d;induction d with
  |zero=>
   intro k q f m r;cases m with
   |zero=>omega
   |succ m=>
    have g:k=n:=by omega
    have:(List.range n).any a=false:=by rw[Cz];intro x s;rw[f x (by have:=AB.1 s;omega)];simp
    show B (Ap B m) (k:Int)=_;rw[g,p,this];rfl
  |succ d t=>
   intro k q f m r;cases m with
   |zero=>omega
   |succ m=>
    show B (Ap B m) (k:Int)=_;rw[o k (by omega)];cases c:a k with
    |true=>
     have:(List.range n).any a=true:=by rw[Cx];exact⟨k,AB.2 (by omega),c⟩
     rw[this];rfl
    |false=>
     exact t (k+1) (by omega) (λj i=>by
      rcases Bb j k with h|h
      ·exact f j h
      ·rw[show j=k by omega];exact c) m (by omega)
 have:=e n 0 (by omega) (λj i=>absurd i<|by omega) M l;simpa using this
def DJ{B:(Int->zS)->Int->zS}{n:Nat}(b:Nat->Bool)(c:n<=lim)(d:∀k,k < n->∀a,B a (k:Int)=cond (b k) (some<|.inr false) (a ((k+1:Nat):Int)))(e:∀a,B a (n:Int)=some (.inl ())):
  Ap B fz 0=some (cond ((List.range n).any b) (.inr false)<|.inl ()):=cZ b (DN c) d e
def Bi{k n:Nat}(h:k < n):decide ((k:Int) < (n:Int))=true:=Ai (by omega)
def Bc(n:Nat):decide ((n:Int) < (n:Int))=false:=Af (by omega)
def Hg{α:Type}(l:List α)(k:Nat)(f:α->Bool):Bool:=match l[k]? with
 |some e=>f e
 |none=>false
def BV{α:Type}{l k}(h:k < l.length)(f:α->Bool):Hg l k f=f l[k]:=by unfold Hg;rw[Ae h]
def Bt{α:Type}(l:List α)(f:Nat->α->Bool):Bool:=(List.range l.length).any λk=>Hg l k<|f k
def Hv(x lo hi:Int):Bool:=decide (lo<=x)&&decide (x<=hi)
def Qk(x lo hi:Int):Hf x lo hi=some (Hv x lo hi):=by unfold Hf Sx Hv;cases decide (lo<=x)<;>rfl
def HT(x lo hi:Int):DX x lo hi=some (Hv x lo hi):=by unfold DX PY Hv;cases decide (lo<=x)<;>rfl
def Py(l:zI):Bool:= !Bt l λ_ e=> !Hv e 0 99
def AbK{l:zI}(h:l.length<=lim):I3 l=some (Py l):=by unfold I3 Py Bt;rw[DJ (λk=>Hg l k λe=> !Hv e 0 99) h (λk a b=>by unfold Me;rw[Bi a,AI a,Bm a (Ba h),BV a];simp only[Ac,G,Qk]) (λrec=>by unfold Me;rw[Bc];rfl)];cases(List.range l.length).any λk=>Hg l k λe=> !Hv e 0 99<;>rfl
def Aa7{l:zI}(h:l.length<=lim):IR l=some (Py l):=by unfold IR Py Bt;rw[DJ (λk=>Hg l k λe=> !Hv e 0 99) h (λk a b=>by unfold LV;rw[Bi a,AI a,Bm a (Ba h),BV a];simp only[Ac,G,HT]) (λrec=>by unfold LV;rw[Bc];rfl)];cases(List.range l.length).any λk=>Hg l k λe=> !Hv e 0 99<;>rfl
def Eh:zI->zI->Int
 |[],[]=>0
 |[],_::_=> -1
 |_::_,[]=>1
 |x::xs,y::a=>if x < y then -1 else if y < x then 1 else Eh xs a
def lL{B:(Int->Option (Sum Unit Int))->Int->Option (Sum Unit Int)}{a b:zI}(t:a.length<=lim)
  (u:∀k (l:k < a.length) (v:k < b.length),∀e,B e (k:Int)=if a[k] < b[k]then some (.inr (-1))else if b[k] < a[k]then some (.inr 1)else e ((k+1:Nat):Int))
  (n:∀k:Nat,¬(k < a.length∧k < b.length)->∀e,B e (k:Int)=some (.inl ())):
  ∃o,Ap B fz 0=some o∧((∃r,o=.inr r∧Eh a b=r)∨(o=.inl ()∧Eh a b=if a.length < b.length then -1 else if b.length < a.length then 1 else 0)):=by
 have i:∀d k,k+d=a.length->k<=b.length->Eh a b=Eh (a.drop k) (b.drop k)->∀m,d < m->∃o,Ap B m (k:Int)=some o∧((∃r,o=.inr r∧Eh a b=r)∨(o=.inl ()∧Eh a b=if a.length < b.length then -1 else if b.length < a.length then 1 else 0)):=by
  intro d;induction d with
  |zero=>
   intro k l j c m w;cases m with
   |zero=>omega
   |succ m=>
    refine⟨.inl (),n k (by omega) _,.inr ⟨rfl,?_⟩⟩;rw[c,CI (by omega:a.length<=k)];rcases Bb k b.length with h|h
    ·rw[BB h,Aw (by omega)];rfl
    ·rw[CI h,Ay (by omega),Ay (by omega)];rfl
  |succ d x=>
   intro k l j c m w;cases m with
   |zero=>omega
   |succ m=>
    have f:k < a.length:=by omega
    rcases Bb k b.length with h|h
    ·have g:=u k f h (Ap B m);rw[BB f,BB h,Eh]at c;by_cases q:a[k] < b[k]
     ·rw[Aw q]at g c;exact⟨_,g,.inl ⟨_,rfl,c⟩⟩
     ·rw[Ay q]at g c;by_cases s:b[k] < a[k]
      ·rw[Aw s]at g c;exact⟨_,g,.inl ⟨_,rfl,c⟩⟩
      ·rw[Ay s]at g c;obtain⟨o,y,p⟩:=x (k+1) (by omega) (by omega) c m (by omega);exact⟨o,g.trans y,p⟩
    ·refine⟨.inl (),n k (by omega) _,.inr ⟨rfl,?_⟩⟩;rw[c,BB f,CI h,Ay (by omega),Aw (by omega)];rfl
 exact i a.length 0 (by omega) (by omega) (by simp) fz<|DN t
def WD{a b:zI}(j:a.length<=lim):Ex a b=some (Eh a b):=by
 unfold Ex
 obtain⟨o,e,p⟩:=lL (B:=K8 a b) j (λk g f h=>by
   unfold K8;rw[Bi g,Bi f,AI g,AI f,Bm g (Ba j)];simp only[Ac,G];by_cases c:a[k] < b[k]
   ·rw[Ai c,Aw c];rfl
   ·rw[Af c,Ay c];by_cases d:b[k] < a[k]
    ·rw[Ai d,Aw d];rfl
    ·rw[Af d,Ay d];rfl) (λk g h=>by
   unfold K8;by_cases q:k < a.length
   ·rw[Bi q,Af (by omega:¬(k:Int) < (b.length:Int))];rfl
   ·rw[Af (by omega:¬(k:Int) < (a.length:Int))];rfl)
 rw[e];rcases p with⟨r,rfl,i⟩|⟨rfl,i⟩
 ·rw[i];rfl
 ·simp only[G];rw[i];by_cases c:a.length < b.length
  ·rw[Aw c,Ai (by omega)];rfl
  ·rw[Ay c,Af (by omega)];by_cases d:b.length < a.length
   ·rw[Aw d,Ai (by omega)];rfl
   ·rw[Ay d,Af (by omega)];rfl
def oC(x y:Int):Ju x y=some (if x < y then -1 else if y < x then 1 else 0):=by
 unfold Ju;by_cases a:x < y
 ·rw[Ai a,Aw a];rfl
 ·rw[Af a,Ay a];by_cases b:y < x
  ·rw[Ai b,Aw b];rfl
  ·rw[Af b,Ay b];rfl
def io{a b:zI}(j:a.length<=lim):Hw a b=some (Eh a b):=by
 unfold Hw
 obtain⟨o,e,p⟩:=lL (B:=K0 a b) j (λk g d h=>by
   unfold K0;rw[Bi g,Bi d,AI g,AI d,Bm g (Ba j)];simp only[Ac,G,oC];by_cases c:a[k] < b[k]
   ·have:(a[k]!=b[k])=true:=by simp;omega
    simp only[this,Aw c,Ac]
   ·by_cases f:b[k] < a[k]
    ·have:(a[k]!=b[k])=true:=by simp;omega
     simp only[this,Ay c,Aw f,Ac]
    ·have:(a[k]!=b[k])=false:=by simp;omega
     simp only[this,Ay c,Ay f,Ab]) (λk g h=>by
   unfold K0;by_cases q:k < a.length
   ·rw[Bi q,Af (by omega:¬(k:Int) < (b.length:Int))];rfl
   ·rw[Af (by omega:¬(k:Int) < (a.length:Int))];rfl)
 rw[e];rcases p with⟨r,rfl,i⟩|⟨rfl,i⟩
 ·rw[i];rfl
 ·simp only[G,oC];rw[i];by_cases c:a.length < b.length
  ·rw[Aw c,Aw (by omega)]
  ·rw[Ay c,Ay (by omega)];by_cases f:b.length < a.length
   ·rw[Aw f,Aw (by omega)]
   ·rw[Ay f,Ay (by omega)]
def R8(a:Int)(rows:List zI)(k:Nat)(r:zI):Bool:=((r.length:Int)!=a) || !Py r || (decide (0 < k)&&Hg rows (k - 1) λq=>decide (0<=Eh q r))
def Mr(r:Int×List zI):Bool:=Hv r.1 0 5&&(!decide (4000 < (r.2.length:Int))&& !Bt r.2 (R8 r.1 r.2))
def WT{k n:Nat}(h:k < n)(b:0 < k)(a:n<=maxLen):wZ ((k:Int) - 1)=((k - 1:Nat):Int):=by rw[wrap_in (by unfold maxLen at a;omega)];omega
def GN(l:List zI):Prop:=l.length<=lim∧∀r∈l,r.length<=lim
theorem iZ{r:Int×List zI}(h:GN r.2):Ea r=some (Mr r):=by
 unfold Ea Mr Bt
 simp only[Qk,G]
 cases Hv r.1 0 5 with
 |false=>rfl
 |true=>
  cases decide (4000 < (r.2.length:Int))with
  |true=>rfl
  |false=>
   simp only[An,CF,Ab,AL]
   rw[DJ (λk=>Hg r.2 k (R8 r.1 r.2 k)) h.1 (λk hk rec=>by
    have hr:=h.2 _ (Ad hk)
    unfold IE Fp
    rw[Bi hk,AI hk,Bm hk (Ba h.1),BV hk]
    simp only[Ac,G,AbK hr,R8]
    cases h1:((r.2[k].length:Int)!=r.1)with
    |true=>rfl
    |false=>
     cases h2:Py r.2[k]with
     |false=>rfl
     |true=>
      by_cases h0:0 < k
      ·have hk':k - 1 < r.2.length:=by omega
       rw[WT hk h0 (Ba h.1),AI hk',BV hk',Ai (by omega:(0:Int) < (k:Int)),Ai h0]
       simp only[Ac,Ab,An,C3,AL,WD (h.2 _ (Ad hk'))]
      ·rw[Af (by omega:¬(0:Int) < (k:Int)),Af h0];rfl) (λrec=>by unfold IE;rw[Bc];rfl)]
   cases(List.range r.2.length).any λk=>Hg r.2 k (R8 r.1 r.2 k)<;>rfl
theorem dW{r:Int×List zI}(h:GN r.2):D7 r=some (Mr r):=by
 unfold D7 SW Mr Bt
 simp only[HT,G]
 cases Hv r.1 0 5 with
 |false=>rfl
 |true=>
  cases decide (4000 < (r.2.length:Int))with
  |true=>rfl
  |false=>
   simp only[An,CF,Ab,AL]
   rw[DJ (λk=>Hg r.2 k (R8 r.1 r.2 k)) h.1 (λk hk rec=>by
    have hr:=h.2 _ (Ad hk)
    unfold M0 Iv
    rw[Bi hk,AI hk,Bm hk (Ba h.1),BV hk]
    simp only[Ac,G,Aa7 hr,R8]
    cases h1:((r.2[k].length:Int)!=r.1)with
    |true=>rfl
    |false=>
     cases h2:Py r.2[k]with
     |false=>rfl
     |true=>
      by_cases h0:0 < k
      ·have hk':k - 1 < r.2.length:=by omega
       rw[WT hk h0 (Ba h.1),AI hk',BV hk',Ai (by omega:(0:Int) < (k:Int)),Ai h0]
       simp only[Ac,Ab,An,C3,AL,io (h.2 _ (Ad hk'))]
      ·rw[Af (by omega:¬(0:Int) < (k:Int)),Af h0];rfl) (λrec=>by unfold M0;rw[Bc];rfl)]
   cases(List.range r.2.length).any λk=>Hg r.2 k (R8 r.1 r.2 k)<;>rfl
def nmB(s:zU):Bool:=Hv (s.length:Int) 1 4&& !Bt s λ_ b=>decide ((UInt8.toNat b:Int) < 97) || decide (122 < (UInt8.toNat b:Int))
def wV{s:zU}(h:s.length<=lim):LB s=some (nmB s):=by unfold LB nmB Bt;rw[DJ (λk=>Hg s k λb=>decide ((UInt8.toNat b:Int) < 97) || decide (122 < (UInt8.toNat b:Int))) h (λk a c=>by unfold Ou;rw[Bi a,AI a,Bm a (Ba h),BV a];simp only[Ac,G];cases decide ((UInt8.toNat s[k]:Int) < 97)<;>rfl) (λrec=>by unfold Ou;rw[Bc];rfl)];cases(List.range s.length).any λk=>Hg s k λb=>decide ((UInt8.toNat b:Int) < 97) || decide (122 < (UInt8.toNat b:Int))<;>simp[G,Qk]
def u7{s}(h:s.length<=lim):Lj s=some (nmB s):=by
 unfold Lj SV nmB Bt Hv;by_cases c:(s.length:Int) < 1
 ·rw[Ai c,Af (by omega:¬(1:Int)<=(s.length:Int))];rfl
 ·rw[Af c,Ai (by omega:(1:Int)<=(s.length:Int))];by_cases d:4 < (s.length:Int)
  ·rw[Ai d,Af (by omega:¬(s.length:Int)<=4)];rfl
  ·rw[Af d,Ai (by omega:(s.length:Int)<=4)];simp only[Ab,Eu,AL];rw[DJ (λk=>Hg s k λb=>decide ((UInt8.toNat b:Int) < 97) || decide (122 < (UInt8.toNat b:Int))) h (λk a e=>by unfold PO;rw[Bi a,AI a,Bm a (Ba h),BV a];simp only[Ac,G];cases decide ((UInt8.toNat s[k]:Int) < 97)<;>rfl) (λrec=>by unfold PO;rw[Bc];rfl)];cases(List.range s.length).any λk=>Hg s k λb=>decide ((UInt8.toNat b:Int) < 97) || decide (122 < (UInt8.toNat b:Int))<;>rfl
abbrev QE:=zU×(Int×List zI)
def WO(d:List QE)(k:Nat)(t:QE):Bool:= !nmB t.1 || (decide (0 < k)&&Hg d (k - 1) λq=> !Op.bytesLess q.1 t.1) || !Mr t.2 || decide (16 < (t.2.2.length:Int)) || decide (t.2.1 < 1)
def dbB(d:List QE):Bool:=decide ((d.length:Int)<=6)&& !Bt d (WO d)
def Ql(d:List QE):Prop:=d.length<=lim∧∀t∈d,t.1.length<=lim∧GN t.2.2
def AfP{d:List QE}(h:Ql d):Ic d=some (dbB d):=by
 unfold Ic dbB Bt
 rw[DJ (λk=>Hg d k (WO d k)) h.1 (λk a f=>by
  have e:=h.2 _<|Ad a;unfold IB Db;rw[Bi a,AI a,Bm a (Ba h.1),BV a];simp only[Ac,G,wV e.1,iZ e.2,WO];cases nmB d[k].1 with
  |false=>rfl
  |true=>
   by_cases c:0 < k
   ·have b:k - 1 < d.length:=by omega
    rw[WT a c (Ba h.1),AI b,BV b,Ai (by omega:(0:Int) < (k:Int)),Ai c];simp only[Ac,Ab,An,C3,AL];cases Op.bytesLess d[k - 1].1 d[k].1<;>cases Mr d[k].2<;>cases decide (16 < (d[k].2.2.length:Int))<;>rfl
   ·rw[Af (by omega:¬(0:Int) < (k:Int)),Af c];cases Mr d[k].2<;>cases decide (16 < (d[k].2.2.length:Int))<;>rfl) (λrec=>by unfold IB;rw[Bc];rfl)]
 cases(List.range d.length).any λk=>Hg d k (WO d k)<;>simp[G]
def AhD{d:List QE}(h:Ql d):HX d=some (dbB d):=by
 unfold HX dbB Bt;by_cases e:6 < (d.length:Int)
 ·rw[Ai e,Af (by omega:¬(d.length:Int)<=6)];rfl
 rw[Af e,Ai (by omega:(d.length:Int)<=6),Ab,AL]
 rw[DJ (λk=>Hg d k (WO d k)) h.1 (λk a g=>by
  have f:=h.2 _<|Ad a;unfold Io Da;rw[Bi a,AI a,Bm a (Ba h.1),BV a];simp only[Ac,G,u7 f.1,dW f.2,WO];cases nmB d[k].1 with
  |false=>rfl
  |true=>
   by_cases c:0 < k
   ·have b:k - 1 < d.length:=by omega
    rw[WT a c (Ba h.1),AI b,BV b,Ai (by omega:(0:Int) < (k:Int)),Ai c];simp only[Ac,Ab,An,C3,AL];cases Op.bytesLess d[k - 1].1 d[k].1<;>cases Mr d[k].2<;>cases decide (16 < (d[k].2.2.length:Int))<;>cases decide (d[k].2.1 < 1)<;>rfl
   ·rw[Af (by omega:¬(0:Int) < (k:Int)),Af c];cases Mr d[k].2<;>cases decide (16 < (d[k].2.2.length:Int))<;>cases decide (d[k].2.1 < 1)<;>rfl) (λrec=>by unfold Io;rw[Bc];rfl)]
 cases(List.range d.length).any λk=>Hg d k (WO d k)<;>rfl
def H5{α β:Type}{a:List α}{h:α->β}{B:(List β×Int->Option (List β))->List β×Int->Option (List β)}(d:a.length<=lim)
  (e:∀k (c:k < a.length),∀b,B b ((a.take k).map h,(k:Int))=b ((a.take k).map h++[h a[k]],((k+1:Nat):Int))) (f:∀b y,B b (y,(a.length:Int))=some y):Ap B fz ([],0)=some (a.map h):=by
 have:=CD (body:=B) (out:=a.map h) (λk=>((a.take k).map h,(k:Int))) a.length (λk c b=>by rw[e k c,A6 c,Bd];rfl) (λrec=>by rw[f,AT]) fz (DN d);simpa using this
def ig{α O:Type}{a:List α}{B:(Int->Option (Sum Unit O))->Int->Option (Sum Unit O)}(p:α->Bool)(g:α->O)(i:a.length<=lim)
  (j:∀k (h:k < a.length),∀b,B b (k:Int)=cond (p a[k]) (some<|.inr<|g a[k]) (b ((k+1:Nat):Int))) (l:∀b,B b (a.length:Int)=some (.inl ())):
  Ap B fz 0=some (match a.find? p with|some e=>.inr (g e)|none=>.inl ()):=by
 have f:∀d k,k+d=a.length->∀m,d < m->Ap B m (k:Int)=some (match(a.drop k).find? p with|some e=>.inr (g e)|none=>.inl ()):=by
  intro d;induction d with
  |zero=>
   intro k h m n;cases m with
   |zero=>omega
   |succ m=>show B (Ap B m) (k:Int)=_;rw[show k=a.length by omega,l,Mb];rfl
  |succ d o=>
   intro k h m n;cases m with
   |zero=>omega
   |succ m=>
    have c:k < a.length:=by omega
    show B (Ap B m) (k:Int)=_;rw[j k c,BB c,List.find?_cons];cases q:p a[k]with
    |true=>rfl
    |false=>exact o (k+1) (by omega) m (by omega)
 have:=f a.length 0 (by omega) fz<|DN i;simpa using this
def wT{r:Int×List zI}(h:GN r.2):RT r=some r:=by unfold RT;rw[H5 (a:=r.2) (h:=id) h.1 (λk b c=>by have d:=h.2 _<|Ad b;unfold Tm;simp only;rw[Bi b,AI b,Bm b (Ba h.1)];simp only[Ac,G];rw[A1 (by simpa using d),A1 (by simp only[Aj,At,Al];unfold lim at *;have:=h.1;unfold lim at this;omega)];simp) (λrec y=>by unfold Tm;simp only;rw[Bc];rfl)];simp[G]
def qr{l}(h:l.length<=lim):ED l=some l:=by unfold ED;rw[A1 (by simpa using h)];simp
def qt{l:List zI}(h:GN l):OC l=some l:=by unfold OC;rw[H5 (a:=l) (h:=id) h.1 (λk b c=>by have d:=h.2 _<|Ad b;unfold Q3;simp only;rw[Bi b,AI b,Bm b (Ba h.1)];simp only[Ac,G,qr d];rw[A1 (by simp only[Aj,At,Al];unfold lim at *;have:=h.1;unfold lim at this;omega)];simp) (λrec y=>by unfold Q3;simp only;rw[Bc];rfl)];simp[G]
theorem Ac2{r:Int×List zI}(h:GN r.2):MZ r=some r:=by
 unfold MZ
 simp[qt h,G]
def H4(d:List QE)(a:zU):(Int×List zI)×Bool:=if dbB d=true then(match d.find? (λt=>t.1==a)with|some t=>(t.2,true)|none=>((0,[]),false))else((0,[]),false)
def wU{d}(h:Ql d)(b:zU):I5 d b=some (H4 d b):=by
 unfold I5 H4;cases e:dbB d with
 |true=>rw[ig (a:=d) (λt=>t.1==b) (λt=>(t.2,true)) h.1 (λk c f=>by have g:=h.2 _<|Ad c;unfold FI;rw[Bi c,AI c,Bm c (Ba h.1),AfP h,e];simp only[Ac,G,wT g.2]) (λrec=>by unfold FI;rw[Bc];rfl)];simp only[G,Fl];cases d.find? (λt=>t.1==b)<;>rfl
 |false=>
  have:Ap (FI d b) fz 0=some (.inl ()):=by refine CD (body:=FI d b) (λ_=>0) 0 (λk c=>absurd c<|by omega) (λrec=>?_) fz (by unfold fz;omega);unfold FI;rw[AfP h,e];cases decide ((0:Int) < (d.length:Int))<;>rfl
  rw[this];rfl
def u6{d}(h:Ql d)(b:zU):IT d b=some (H4 d b):=by
 unfold IT Jb H4;simp only[AhD h,G];cases g:dbB d with
 |true=>rw[ig (a:=d) (λt=>t.1==b) (λt=>(t.2,true)) h.1 (λk c e=>by have f:=h.2 _<|Ad c;unfold LZ;rw[Bi c,AI c,Bm c (Ba h.1)];simp only[Ac,G,Ac2 f.2]) (λrec=>by unfold LZ;rw[Bc];rfl)];simp only[Ac,Fl];cases d.find? (λt=>t.1==b)<;>rfl
 |false=>rfl
def Fm(l:zI)(k:Nat)(e:Int):Bool:=decide (0 < k)&&Hg l (k - 1) λq=>decide (e<=q)
def CM{S O:Type}(body:(S->Option O)->S->Option O)(n:Nat)(s:S):Ap body (n+1) s=body (Ap body n) s:=rfl
def Uw(l:zI)(a:Int->zS)(i:Int):zS:=if i=0 then(if l.length=0 then some (.inl ())else a 1)else Ci l a i
def Aa5{l}(h:l.length<=lim):F2 l=some (!Bt l (Fm l)):=by
 unfold F2 Bt
 have hB:Ap (Ci l) fz 1=some (cond ((List.range l.length).any λk=>Hg l k<|Fm l k) (.inr false)<|.inl ()):=by
  have h0:=cZ (M:=fz+1) (B:=Uw l) (λk=>Hg l k (Fm l k)) (Nat.lt_succ_of_lt (DN h)) (λk hk rec=>by
   by_cases hz:k=0
   ·subst hz;rw[BV hk];unfold Uw;rw[Aw (show((0:Nat):Int)=0 from rfl),Ay (by omega)];simp[Fm]
   ·have hk':k - 1 < l.length:=by omega
    have hz':¬((k:Int)=0):=by omega
    unfold Uw;rw[Ay hz'];unfold Ci;rw[Bi hk,AI hk,Bm hk (Ba h),WT hk (by omega) (Ba h),AI hk',BV hk];simp only[Ac,G,Fm];rw[BV hk',Ai (by omega:0 < k)];simp only[AL]) (λrec=>by
   by_cases hz:l.length=0
   ·unfold Uw;rw[hz];rfl
   ·have hz':¬((l.length:Int)=0):=by omega
    unfold Uw;rw[Ay hz'];unfold Ci;rw[Bc];rfl)
  have same:∀m (k:Nat),0 < k->Ap (Uw l) m (k:Int)=Ap (Ci l) m (k:Int):=by
   intro m;induction m with
   |zero=>intro k _;rfl
   |succ m ih=>
    intro k hk;have hz:¬((k:Int)=0):=by omega
    have ea:∀rec,Uw l rec (k:Int)=Ci l rec (k:Int):=λrec=>by unfold Uw;rw[Ay hz]
    show Uw l (Ap (Uw l) m) (k:Int)=Ci l (Ap (Ci l) m) (k:Int);rw[ea];have e:∀rec,Ci l rec (k:Int)=cond (decide ((k:Int) < (l.length:Int))) (G (AN l<|wZ<|(k:Int) - 1) λe5=>G (AN l (k:Int)) λe7=>cond (decide (e7<=e5)) (some<|.inr false)<|rec<|wZ<|(k:Int)+1) (some<|.inl ()):=λrec=>rfl
    rw[e,e];by_cases q:k < l.length
    ·rw[Bm q (Ba h),ih (k+1) (by omega)]
    ·rw[Af (by omega:¬(k:Int) < (l.length:Int))];rfl
  by_cases hz:l.length=0
  ·have e1:(List.range l.length).any (λk=>Hg l k<|Fm l k)=false:=by rw[hz];rfl
   rw[e1];refine CD (body:=Ci l) (λ_=>1) 0 (λk hk=>absurd hk<|by omega) (λrec=>?_) fz (by unfold fz;omega);unfold Ci;rw[hz];rfl
  ·have h2:Ap (Uw l) (fz+1) 0=Ap (Ci l) fz ((1:Nat):Int):=by
    have e0:∀rec,Uw l rec 0=rec 1:=λrec=>by unfold Uw;rw[Aw rfl,Ay hz]
    rw[CM,e0];exact same fz 1 (by omega)
   rw[h2]at h0;exact h0
 rw[hB];cases(List.range l.length).any λk=>Hg l k (Fm l k)<;>rfl
def aX{O:Type}{B:(Int->Option (Sum Unit O))->Int->Option (Sum Unit O)}{n:Nat}(g:Nat->Option O)(c:n<=lim)
  (e:∀k,k < n->∀a,B a (k:Int)=match g k with|some o=>some (.inr o)|none=>a ((k+1:Nat):Int)) (f:∀a,B a (n:Int)=some (.inl ())):
  Ap B fz 0=some (match(List.range n).findSome? g with|some o=>.inr o|none=>.inl ()):=by
 have b:∀d k,k+d=n->∀m,d < m->Ap B m (k:Int)=some (match(List.range' k d).findSome? g with|some o=>.inr o|none=>.inl ()):=by
  intro d;induction d with
  |zero=>
   intro k h m i;cases m with
   |zero=>omega
   |succ m=>show B (Ap B m) (k:Int)=_;rw[show k=n by omega,f];rfl
  |succ d j=>
   intro k h m i;cases m with
   |zero=>omega
   |succ m=>
    show B (Ap B m) (k:Int)=_;rw[e k (by omega),DR,List.findSome?_cons];cases l:g k with
    |some o=>rfl
    |none=>exact j (k+1) (by omega) m (by omega)
 have:=b n 0 (by omega) fz<|DN c;rw[GY];simpa using this
def FJ{α:Type}{l:List α}{f:Nat->α->Bool}(h:Bt l f=false){k:Nat}(a:k < l.length):f k l[k]=false:=by unfold Bt at h;rw[Cz]at h;have:=h k<|AB.2 a;rw[BV a]at this;simpa using this
def LH(row:zI)(c:Int):Int:=(AN row c).getD 0
def FP(row a:zI):zI:=a.map<|LH row
theorem jT{row:zI}{c:Int}(h:0<=c∧c < row.length):AN row c=some (LH row c):=by
 unfold LH AN
 rw[Aw h.1,Ae (by omega)];rfl
def fw{row b:zI}(e:b.length<=lim)(h:∀c∈b,0<=c∧c < row.length):NH row b=some (FP row b):=by unfold NH;rw[H5 (a:=b) (h:=LH row) e (λk d f=>by unfold Tl;simp only;rw[Bi d,AI d,Bm d (Ba e)];simp only[Ac,G,jT (h _<|Ad d)];rw[A1 (by simp only[Aj,At,Al];unfold lim at *;omega)]) (λrec y=>by unfold Tl;simp only;rw[Bc];rfl)];rfl
def oE{row b:zI}(e:b.length<=lim)(h:∀c∈b,0<=c∧c < row.length):SA row b=some (FP row b):=by unfold SA;rw[H5 (a:=b) (h:=LH row) e (λk d f=>by unfold Vj;simp only;rw[Bi d,AI d,Bm d (Ba e)];simp only[Ac,G,jT (h _<|Ad d)];rw[A1 (by simp only[Aj,At,Al];unfold lim at *;omega)]) (λrec y=>by unfold Vj;simp only;rw[Bc];rfl)];rfl
def tL{S:Type}{B:(S×Int->Option (Sum S Bool))->S×Int->Option (Sum S Bool)}{n:Nat}(s:Nat->S)(a:Nat->Bool)(l:n<=lim)(o:∀k,k < n->∀b,B b (s k,(k:Int))=cond (a k) (some<|.inr false) (b (s<|k+1,((k+1:Nat):Int))))(p:∀b,B b (s n,(n:Int))=some (.inl<|s n)):
  Ap B fz (s 0,0)=some (cond ((List.range n).any a) (.inr false)<|.inl<|s n):=by
 have e:∀d k,k+d=n->(∀j,j < k->a j=false)->∀m,d < m->Ap B m (s k,(k:Int))=some (cond ((List.range n).any a) (.inr false)<|.inl<|s n):=by
  intro d;induction d with
  |zero=>
   intro k q f m r;cases m with
   |zero=>omega
   |succ m=>
    have g:k=n:=by omega
    have:(List.range n).any a=false:=by rw[Cz];intro x t;rw[f x (by have:=AB.1 t;omega)];simp
    show B (Ap B m) (s k,(k:Int))=_;rw[g,p,this];rfl
  |succ d u=>
   intro k q f m r;cases m with
   |zero=>omega
   |succ m=>
    show B (Ap B m) (s k,(k:Int))=_;rw[o k (by omega)];cases c:a k with
    |true=>
     have:(List.range n).any a=true:=by rw[Cx];exact⟨k,AB.2 (by omega),c⟩
     rw[this];rfl
    |false=>
     exact u (k+1) (by omega) (λj i=>by
      rcases Bb j k with h|h
      ·exact f j h
      ·rw[show j=k by omega];exact c) m (by omega)
 have:=e n 0 (by omega) (λj i=>absurd i<|by omega) fz<|DN l;simpa using this
def Wh(l:zI)(v:Int):Option Nat:=(List.range l.length).findSome? λk=>if(Hg l k λe=>e==v)=true then some k else none
def Yh(l:zI)(v:Int):(Wh l v).isSome=l.contains v:=by
 unfold Wh;rw[BX,List.findSome?_isSome_iff,Av];constructor
 ·rintro⟨k,a,h⟩;have a:=AB.1 a;split at h
  ·rename_i b;rw[BV a]at b;have:l[k]=v:=by simpa using b
   rw[<-this];exact Ad a
  ·cases h
 ·intro h;obtain⟨k,a,rfl⟩:=AY.1 h;exact⟨k,AB.2 a,by rw[BV a];simp⟩
def CN(l:zI)(v:Int):Int:=match Wh l v with
 |some k=>(k:Int)
 |none=> -1
def HB(l:zI)(v:Int):decide (0<=CN l v)=l.contains v:=by
 rw[<-Yh];unfold CN;cases Wh l v with
 |some k=>simp
 |none=>rfl
def Ot{l:zI}(h:l.length<=lim)(v:Int):Ec l v=some (CN l v):=by
 unfold Ec CN Wh;rw[aX (O:=Int) (λk=>if(Hg l k λe=>e==v)=true then some (k:Int)else none) h (λk a b=>by unfold Tn;rw[Bi a,AI a,Bm a (Ba h),BV a];simp only[Ac,G];cases(l[k]==v)<;>rfl) (λrec=>by unfold Tn;rw[Bc];rfl)];have e:((List.range l.length).findSome? λk=>if(Hg l k λe=>e==v)=true then some (k:Int)else none)=((List.range l.length).findSome? λk=>if(Hg l k λe=>e==v)=true then some k else none).map (λk:Nat=>(k:Int)):=by rw[Nu];congr 1;funext k;simp only[Function.comp];split<;>rfl
 rw[e];cases(List.range l.length).findSome? λk=>if(Hg l k λe=>e==v)=true then some k else none<;>rfl
def Q0{l:zI}(h:l.length<=lim)(v:Int):HL l v=some (CN l v):=by
 unfold HL CN Wh;rw[aX (O:=Int) (λk=>if(Hg l k λe=>e==v)=true then some (k:Int)else none) h (λk a b=>by unfold R3;rw[Bi a,AI a,Bm a (Ba h),BV a];simp only[Ac,G];cases(l[k]==v)<;>rfl) (λrec=>by unfold R3;rw[Bc];rfl)];have e:((List.range l.length).findSome? λk=>if(Hg l k λe=>e==v)=true then some (k:Int)else none)=((List.range l.length).findSome? λk=>if(Hg l k λe=>e==v)=true then some k else none).map (λk:Nat=>(k:Int)):=by rw[Nu];congr 1;funext k;simp only[Function.comp];split<;>rfl
 rw[e];cases(List.range l.length).findSome? λk=>if(Hg l k λe=>e==v)=true then some k else none<;>rfl
def ip{l}(h:l.length<=lim)(v:Int):Ki l v=some (l.contains v):=by unfold Ki;simp only[Q0 h,G,HB]
abbrev MA:=zU×zI
abbrev Jz:=Int×List MA×zI
def tg{a:MA}(h:a.2.length<=lim)(v:Int):DW a v=some (a.2.contains v):=by
 unfold DW;rw[aX (O:=Bool) (λk=>if(Hg a.2 k λe=>e==v)=true then some true else none) h (λk b c=>by unfold KO;rw[Bi b,AI b,Bm b (Ba h),BV b];simp only[Ac,G];cases(a.2[k]==v)<;>rfl) (λrec=>by unfold KO;rw[Bc];rfl)];rw[<-Yh];have e:((List.range a.2.length).findSome? λk=>if(Hg a.2 k λe=>e==v)=true then some true else none)=(Wh a.2 v).map (λ_=>true):=by unfold Wh;rw[Nu];congr 1;funext k;simp only[Function.comp];split<;>rfl
 rw[e];cases Wh a.2 v<;>rfl
def HC(n:Int)(l:zI)(k:Nat)(e:Int):Bool:= !Hv e 0 (wZ<|n - 1) || (l.take k).contains e
def WM{α:Type}(l:List α)(k:Nat):C2 l 0 (k:Int)=l.take k:=by simp[C2]
def qx{l:zI}(h:l.length<=lim)(n:Int):L6 l n=some (!Bt l (HC n l)):=by unfold L6 Bt;rw[DJ (λk=>Hg l k (HC n l k)) h (λk a b=>by unfold R4;rw[Bi a,AI a,Bm a (Ba h),BV a];simp only[Ac,G,HT];rw[A1 (by omega),WM];simp only[ip (l:=l.take k) (by rw[At];omega),HC];cases Hv l[k] 0 (wZ (n - 1))<;>rfl) (λrec=>by unfold R4;rw[Bc];rfl)];cases(List.range l.length).any λk=>Hg l k (HC n l k)<;>rfl
def PB(n:Int)(a:MA):Bool:= !nmB a.1 || (!Hv (a.2.length:Int) 1 5 || Bt a.2 λ_ v=> !Hv v 0 (wZ<|n - 1))
def Th(q:Jz):Prop:=q.2.1.length<=lim∧(∀a∈q.2.1,a.1.length<=lim∧a.2.length<=lim)∧q.2.2.length<=lim
def KV(l:List MA)(v:Int):Bool:=l.any λa=>a.2.contains v
def Aae{q:Jz}(h:Th q):Ap (KB q) fz 0=some (cond (Bt q.2.1 λ_ a=>PB q.1 a) (.inr false)<|.inl ()):=by
 unfold Bt;refine DJ (λk=>Hg q.2.1 k λa=>PB q.1 a) h.1 (λk b d=>?_) (λrec=>by unfold KB;rw[Bc];rfl);have e:=h.2.1 _<|Ad b;unfold KB;rw[Bi b,AI b,Bm b (Ba h.1),BV b];simp only[Ac,G,wV e.1,Qk,PB];cases nmB q.2.1[k].1 with
 |false=>rfl
 |true=>
  cases Hv (q.2.1[k].2.length:Int) 1 5 with
  |false=>rfl
  |true=>simp only[An,Ab,C3];rw[DJ (λj=>Hg q.2.1[k].2 j λv=> !Hv v 0 (wZ (q.1 - 1))) e.2 (λj c d=>by unfold NF;rw[AI b];simp only[G];rw[Bi c,AI c,Bm c (Ba e.2),BV c];simp only[Ac,Qk]) (λrec=>by unfold NF;rw[AI b];simp only[G];rw[Bc];rfl)];unfold Bt;cases(List.range q.2.1[k].2.length).any λj=>Hg q.2.1[k].2 j λv=> !Hv v 0 (wZ<|q.1 - 1)<;>rfl
def AfY{q}(h:Th q)(v:Int):Ap (GG q v) fz (false,0)=some (KV q.2.1 v):=by
 have:=CD (body:=GG q v) (out:=KV q.2.1 v) (λk=>(KV (q.2.1.take k) v,(k:Int))) q.2.1.length (λk a b=>by
  have c:=h.2.1 _<|Ad a;unfold GG KE;simp only;rw[Bi a,AI a,Bm a (Ba h.1)];simp only[Ac,G,tg c.2];have e:KV (q.2.1.take<|k+1) v=(KV (q.2.1.take k) v || q.2.1[k].2.contains v):=by unfold KV;rw[A6 a,List.any_append];simp
  rw[e];cases KV (q.2.1.take k) v<;>rfl) (λrec=>by unfold GG;simp only;rw[Bc,AT];rfl) fz (DN h.1)
 simpa[KV]using this
def Aag{q:Jz}(h:Th q)(b:1<=q.1∧q.1<=5):Ap (KC q) fz 0=some (cond ((List.range q.1.toNat).any λv=> !KV q.2.1 (v:Int)) (.inr false)<|.inl ()):=by
 have e:q.1=(q.1.toNat:Int):=by omega
 refine DJ (λv=> !KV q.2.1 (v:Int)) (by unfold lim;omega) (λk c a=>?_) (λrec=>by unfold KC;rw[Af (by omega:¬((q.1.toNat:Nat):Int) < q.1)];rfl);unfold KC;rw[Ai (by omega:(k:Int) < q.1),AfY h,wrap_in (by omega)];simp only[Ac,G];rfl
def AjL{q:Jz}(h:Th q):Ap (KD q) fz 0=some (cond (Bt q.2.2<|HC q.1 q.2.2) (.inr false)<|.inl ()):=by unfold Bt;refine DJ (λk=>Hg q.2.2 k<|HC q.1 q.2.2 k) h.2.2 (λk a b=>?_) (λrec=>by unfold KD;rw[Bc];rfl);unfold KD;rw[Bi a,AI a,Bm a (Ba h.2.2),BV a];simp only[Ac,G,Qk];rw[A1 (by omega),WM];simp only[Ot (l:=q.2.2.take k) (by rw[At];have:=h.2.2;omega),HB,HC];cases Hv q.2.2[k] 0 (wZ<|q.1 - 1)<;>rfl
def JZ(q:Jz):Bool:=Hv q.1 1 5&&(Hv (q.2.1.length:Int) 1 4&&(!Bt q.2.2 (HC q.1 q.2.2)&&(!(Bt q.2.1 λ_ a=>PB q.1 a)&& !((List.range q.1.toNat).any λv=> !KV q.2.1 (v:Int)))))
def few:∀(n:Nat) (l:zI),l.Nodup->(∀e∈l,0<=e∧e < (n:Int))->l.length<=n
 |0,l,_,h=>by
  cases l with
  |nil=>simp
  |cons e l=>have:=h e (by simp);omega
 |n+1,l,b,h=>by
  have f:=few n (l.erase (n:Int)) (b.erase _) (λe c=>by
   have d:=h e<|List.mem_of_mem_erase c;have g:e≠(n:Int):=λq=>by subst q;exact(List.Nodup.not_mem_erase b) c
   omega)
  have d:=List.length_erase (a:=(n:Int)) (l:=l);split at d<;>omega
def Aaq{n}(p:1<=n∧n<=5){l:zI}(h:Bt l (HC n l)=false):(l.length:Int)<=n:=by
 have d:wZ (n - 1)=n - 1:=wrap_in (by omega);have a:∀e∈l,0<=e∧e < (n.toNat:Int):=by intro e b;obtain⟨k,f,rfl⟩:=AY.1 b;have:=FJ h f;unfold HC Hv at this;simp only[B9,Dm,Aa,Bf,d]at this;omega
 have g:l.Nodup:=by
  rw[CJ,BK];intro i j hi m o b;have:=FJ h m;unfold HC at this;simp only[B9]at this;have c:=this.2;have:(l.take j).contains l[j]=true:=by rw[Av,AY];exact⟨i,by rw[At];omega,by rw[IY];exact b⟩
  rw[this]at c;cases c
 have:=few n.toNat l g a;omega
def Zs{q}(h:Th q):FX q=some (JZ q):=by
 unfold FX JZ;simp only[Qk,G,Aae h,AjL h];cases b:Hv q.1 1 5 with
 |false=>rfl
 |true=>
  have c:1<=q.1∧q.1<=5:=by unfold Hv at b;simpa using b
  rw[Aag h c];cases Hv (q.2.1.length:Int) 1 4 with
  |false=>rfl
  |true=>
   by_cases d:q.1 < (q.2.2.length:Int)
   ·rw[Ai d]
    have:Bt q.2.2 (HC q.1 q.2.2)=true:=by
     cases e:Bt q.2.2 (HC q.1 q.2.2)with
     |true=>rfl
     |false=>have:=Aaq c e;omega
    rw[this];rfl
   ·rw[Af d];cases Bt q.2.2 (HC q.1 q.2.2)<;>cases(Bt q.2.1 λ_ a=>PB q.1 a)<;>cases((List.range q.1.toNat).any λv=> !KV q.2.1 (v:Int))<;>rfl
def uL(m:Nat)(f:Nat->Bool):List Bool:=(List.range m).map f
def lc(m:Nat)(f:Nat->Bool):(uL m f).length=m:=by simp[uL]
def Agg{m v}(f:Nat->Bool):(uL m f).set v true=uL m (λu=>f u || u==v):=by
 apply Di
 ·simp[uL]
 ·intro i a b;rw[DQ];simp only[uL,BL,Fw];split
  ·rename_i e;subst e;simp
  ·rename_i e;have:(i==v)=false:=by simp;omega
   rw[this];simp
def yD{q}(h:Th q)(r:1<=q.1∧q.1<=5):Ap (HZ q) fz (List.replicate (Int.toNat q.1) false,0)=some (cond (Bt q.2.1 λ_ a=>PB q.1 a) (.inr false)<|.inl<|uL q.1.toNat λv=>KV q.2.1 (v:Int)):=by
 have l:wZ (q.1 - 1)=q.1 - 1:=wrap_in (by omega);have m:List.replicate (Int.toNat q.1) false=uL q.1.toNat λv=>KV (q.2.1.take 0) (v:Int):=by unfold uL KV;simp[List.map_const']
 rw[m];unfold Bt
 have:=tL (B:=HZ q) (n:=q.2.1.length) (λk=>uL q.1.toNat λv=>KV (q.2.1.take k) (v:Int)) (λk=>Hg q.2.1 k λa=>PB q.1 a) h.1 (λk b f=>by
  have g:=h.2.1 _<|Ad b;unfold HZ;simp only;rw[Bi b,AI b,Bm b (Ba h.1),BV b];simp only[Ac,G,u7 g.1,HT,PB];cases nmB q.2.1[k].1 with
  |false=>rfl
  |true=>
   cases Hv (q.2.1[k].2.length:Int) 1 5 with
   |false=>rfl
   |true=>
    simp only[An,Ab,C3]
    have c:=tL (B:=Ke q q.2.1[k]) (n:=q.2.1[k].2.length) (λj=>uL q.1.toNat λv=>KV (q.2.1.take k) (v:Int) || (q.2.1[k].2.take j).contains (v:Int)) (λj=>Hg q.2.1[k].2 j λv=> !Hv v 0 (wZ (q.1 - 1))) g.2 (λj d f=>by
     unfold Ke;simp only;rw[Bi d,AI d,Bm d (Ba g.2),BV d];simp only[Ac,G,HT];cases i:Hv q.2.1[k].2[j] 0 (wZ<|q.1 - 1)with
     |false=>rfl
     |true=>
      have s:0<=q.2.1[k].2[j]∧q.2.1[k].2[j]<=q.1 - 1:=by rw[l]at i;unfold Hv at i;simpa using i
      have e:q.2.1[k].2[j]=((q.2.1[k].2[j].toNat:Nat):Int):=by omega
      simp only[An,Ab];rw[e,AI (by rw[lc];omega)];simp only;congr 2;unfold En;rw[Aq,Agg _];congr 1;funext u;rw[A6 d,List.contains_append,Bool.or_assoc];congr 1;congr 1;rw[e];simp only[List.contains_cons,List.contains_nil,FC];rw[BX];simp;omega) (λrec=>by unfold Ke;simp only;rw[Bc];rfl)
    have o:(uL q.1.toNat λv=>KV (q.2.1.take k) (v:Int) || (q.2.1[k].2.take 0).contains (v:Int))=uL q.1.toNat λv=>KV (q.2.1.take k) (v:Int):=by unfold uL;simp
    have p:(uL q.1.toNat λv=>KV (q.2.1.take k) (v:Int) || (q.2.1[k].2.take q.2.1[k].2.length).contains (v:Int))=uL q.1.toNat λv=>KV (q.2.1.take<|k+1) (v:Int):=by congr 1;funext v;unfold KV;rw[AT,A6 b,List.any_append];simp
    simp only[o,p]at c;rw[c];unfold Bt;cases(List.range q.2.1[k].2.length).any λj=>Hg q.2.1[k].2 j λv=> !Hv v 0 (wZ (q.1 - 1))<;>rfl) (λrec=>by unfold HZ;simp only;rw[Bc];rfl)
 rw[AT]at this;exact this
def YW{q}(h:Th q):FV q=some (JZ q):=by
 unfold FV JZ;simp only[HT,G,qx h.2.2];cases c:Hv q.1 1 5 with
 |false=>rfl
 |true=>
  have d:1<=q.1∧q.1<=5:=by unfold Hv at c;simpa using c
  cases Hv (q.2.1.length:Int) 1 4 with
  |false=>rfl
  |true=>
   cases Bt q.2.2 (HC q.1 q.2.2)with
   |true=>rfl
   |false=>
    simp only[An,CF,Ab,AL];rw[A1 (by unfold lim;omega),yD h d];cases(Bt q.2.1 λ_ a=>PB q.1 a)with
    |true=>rfl
    |false=>simp only[Ab,CF,AL];rw[DJ (n:=(uL q.1.toNat λv=>KV q.2.1 (v:Int)).length) (λk=> !KV q.2.1 (k:Int)) (by rw[lc];unfold lim;omega) (λk b e=>by unfold Nk;rw[Bi b,AI b,Bm b (by rw[lc];unfold maxLen;omega)];simp only[Ac,G,uL,BL,Fw]) (λrec=>by unfold Nk;rw[Bc];rfl),lc];cases(List.range q.1.toNat).any λv=> !KV q.2.1 (v:Int)<;>rfl
def O4{α:Type}{l:List α}{f:α->Bool}(h:Bt l (λ_ e=>f e)=false){a:α}(b:a∈l):f a=false:=by obtain⟨k,c,rfl⟩:=AY.1 b;exact FJ h c
def UP{q:Jz}(h:JZ q=true):1<=q.1∧q.1<=5∧q.2.1.length<=4∧∀a∈q.2.1,1<=a.2.length∧a.2.length<=5∧∀v∈a.2,0<=v∧v < q.1:=by
 unfold JZ at h;simp only[Aa,AH]at h;obtain⟨d,e,-,g,-⟩:=h;have f:1<=q.1∧q.1<=5:=by unfold Hv at d;simpa using d
 have k:1<=(q.2.1.length:Int)∧(q.2.1.length:Int)<=4:=by unfold Hv at e;simpa using e
 refine⟨f.1,f.2,by omega,λa i=>?_⟩;have b:=O4 g i;unfold PB at b;simp only[B9,Dm]at b;have l:1<=(a.2.length:Int)∧(a.2.length:Int)<=5:=by have:=b.2.1;unfold Hv at this;simpa using this
 refine⟨by omega,by omega,λv j=>?_⟩;have c:=O4 b.2.2 j;simp only[Dm]at c;rw[wrap_in (by omega)]at c;have:0<=v∧v<=q.1 - 1:=by unfold Hv at c;simpa using c
 omega
end
end Go.Proofs.YtdnlfoelbfcmnaaGreatDoor
