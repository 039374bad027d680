/- Typed functions, and that the program's functions do what they say. No conditions. -/
import Derived.Test.YtpnoalhfjnjeaaaGreatDoorGSeFC1
import Derived.Test.YtpnoalhfjnjeaaaGreatDoorKb
open Go.RowKit
set_option linter.all false
namespace Go.Proofs.YtpnoalhfjnjeaaaGreatDoor
section
set_option maxRecDepth 100000
set_option maxHeartbeats 1000000
def Is(a:A5):Option (zU):=G (CU a) λb=>cond (!b) (some [])<|cond (a.2==1) (G (GH a.1) λc=>some c)<|G (GH a.1) λd=>chk (List.length d+List.length [47]<=lim)<|G (GH a.2) λe=>chk (List.length (d++[47])+List.length e<=lim)<|some<|(d++[47])++e
def Rk{a b}(h:Is a=some b):AP 99 [.agg (AT a)] (.str b):=st Ahu E<|rn 1 E<|Cc λc=>AO<|rs<|sp 1 E<|AL h λd e h=>qC (qa E (CF<|A9 E<|A9 E E) AD) (EN e)<|AE 2 E<|Bt h E (λh=>rn 1 E<|sj h ▸ Ag rZ) λh=>rn 1 E<|Bt h E (λh=>rs<|sp 2 E<|AL h λf g h=>qC (qs E AD) (I5 g)<|AE 1 E<|sj h ▸ Ag rZ) λh=>BN c<|rd (by kernel_rfl)<|sd 2 E<|AL h λi j h=>ed E<|qC (qs E AD) (I5 j)<|CR h λk h=>ed E<|qB E k E<|sd 2 E<|AL h λl m h=>ed E<|qC (qs E AD) (I5 m)<|CR h λn h=>ed E<|qB E n E<|sd 1 E<|Ct<|qk [2] E<|sj h ▸ Ag rZ
def QB(a:(zU×Int)->Option (zU))(b:Int)(c:zU)(d:zU):Option (zU):=chk (List.length d+List.length c<=lim)<|a ((d++c),(wZ<|b+1))
def QA(a:List zU)(b:zU)(c:(zU×Int)->Option (zU))(d:zU×Int):Option (zU):=match d with
  |(e,f)=>cond (decide (f < (a.length:Int))) (G (AF a f) λg=>cond (decide (0 < f)) (chk (List.length e+List.length b<=lim)<|QB c f g<|e++b)<|QB c f g e)<|some e
def Vy(a:List zU)(b:zU):Option (zU):=G (Aq (QA a b) fz ([],0)) λc=>some c
def bQ{a b c}(h:Vy a b=some c):AP 100 [dL cst a,.str b] (.str c):=st Abp E<|rn 2 E<|An λd e=>rn 1 E (DE h λf g i=>have j:∀{k:zU},k=f->Jn d [(5,.str k)]:=@λk h _ l=>have h:=i h;e _<|lh l E<|rn 1 E<|sj h ▸ Ag rZ;(AW (λ(m:zU×Int)=>match m with|(n,o)=>[(1,.str b),(5,.str n),(8,dL cst a),(9,nI (a.length:Int)),(10,nI o)]) _ _ _ _ g (AM E) (λ_=>E)<|λp=>IC λn o q h r=>rn 1 E<|Cc λs=>Bt h E (λh=>BN s<|Cc λt=>AO<|rs<|sp 1 E<|AL h λu v h=>qI E JY v<|AE 3 E<|An λw x=>rn 1 E (have y:∀{z:zU},QB (Aq (QA a b) p) o u z=some f->Jn w [(1,.str b),(5,.str z),(7,.str u),(8,dL cst a),(9,nI (a.length:Int)),(10,nI o)]:=@λz h _ l=>x _<|lh l E<|rg<|sp 2 E<|CR h λA h=>qB E A E<|AE 1 E<|t _<|rg<|AE 2 E<|r _ _ h<|AM E;(Bt h E (λh=>rg<|sp 2 E<|CR h λB h=>qB E B E<|AE 1 E<|y h _<|AM E) λh=>B6<|y h _<|AM E))) λh=>AC<|j (sj h) _<|AM E))
def LM(a:List A5)(b:(List zU×Int)->Option (Sum (List zU) zU))(c:(List zU)×Int):Option (Sum (List zU) zU):=match c with
  |(d,e)=>cond (decide (e < (a.length:Int))) (G (AF a e) λf=>G (Is f) λg=>cond (g==[]) (some<|.inr [])<|chk (List.length d+List.length [g]<=lim)<|b ((d++[g]),(wZ<|e+1)))<|some<|.inl d
def Ko(a:List A5):Option (zU):=G (Aq (LM a) fz (([]:List zU),0)) λb=>(match b with
  |.inl c=>(G (Vy c [32]) λd=>some d)
  |.inr e=>some e)
def V6{a b}(h:Ko a=some b):AP 39 [dL AT a] (.str b):=st Agw E<|rn 2 E<|An λc d=>rn 1 E (DE h λe f g=>have i:∀{j:List zU},(.inl j)=e->Jn c [(3,oL 9 cst j)]:=@λj h _ k=>have h:=g h;d _<|lh k E<|rs<|sp 1 E<|AL h λl m h=>qC (qa E (Bx ri _)<|qs E AD) (bQ m)<|AE 1 E<|sj h ▸ Ag rZ;(AW (λ(n:(List zU)×Int)=>match n with|(o,p)=>[(3,oL 9 cst o),(7,dL AT a),(8,nI (a.length:Int)),(9,nI p)]) _ _ _ _ f (AM E) (λ_=>E)<|λq=>IC λo p r h s=>rn 1 E<|Cc λt=>Bt h E (λh=>BN t<|Cc λu=>AO<|rs<|AL h λv w h=>qI E BU w<|AE 3 E<|rs<|sp 1 E<|AL h λx y h=>qC (qa E (CF<|A9 E<|A9 E E) AD) (Rk y)<|AE 1 E<|Eg E λz=>Bt h E (λh=>rn 1 E<|sj (g<|sj h) ▸ Ag rZ) λh=>BN z<|rg<|sp 2 E<|DV cst [x] E E E JY<|CR h λA h=>qA cst o [x] E E (A3 JY [x]) E A<|AE 1 E<|u _<|qk [3,7,8,9] E<|rg<|AE 2 E<|s _ _ h<|AM E) λh=>AC<|i (sj h) _<|AM E))
def Kz(a:Int):Option (zU):=G (Dk a 0 4) λb=>cond (!b) (some [])<|chk ((0:Int)<=a∧a<=wZ (a+1)∧wZ (a+1)<=(List.length [88,89,90,85,86]:Int))<|some<|B5 [88,89,90,85,86] a<|wZ<|a+1
def SR{a b}(h:Kz a=some b):AP 101 [nI a] (.str b):=st Abq E<|rn 1 E<|Cc λc=>rs<|sp 1 E<|AL h λd e h=>qC (qs E<|qs E<|qs E AD) (C1 e)<|AE 1 E<|Bt h E (λh=>rn 1 E<|sj h ▸ Ag rZ) λh=>BN c<|rs<|sp 3 E<|CR h λf h=>ib E f<|AE 1 E<|sj h ▸ Ag rZ
def Pz(a:zI)(b:(zU×Int)->Option (zU))(c:zU×Int):Option (zU):=match c with
  |(d,e)=>cond (decide (e < (a.length:Int))) (G (AF a e) λf=>G (Kz f) λg=>chk (List.length d+List.length g<=lim)<|b ((d++g),(wZ<|e+1)))<|some d
def S7(a:zI):Option (zU):=G (Aq (Pz a) fz ([],0)) λb=>some b
def dU{a b}(h:S7 a=some b):AP 40 [dL Ao a] (.str b):=st Agx E<|rn 2 E<|An λc d=>rn 1 E (DE h λe f g=>have i:∀{j:zU},j=e->Jn c [(3,.str j)]:=@λj h _ k=>have h:=g h;d _<|lh k E<|rn 1 E<|sj h ▸ Ag rZ;(AW (λ(l:zU×Int)=>match l with|(m,n)=>[(3,.str m),(6,dL Ao a),(7,nI (a.length:Int)),(8,nI n)]) _ _ _ _ f (AM E) (λ_=>E)<|λo=>IC λm n p h q=>rn 1 E<|Cc λr=>Bt h E (λh=>BN r<|Cc λs=>AO<|rs<|AL h λt u h=>qI E AX u<|AE 2 E<|rg<|sp 2 E<|AL h λv w h=>qC (qs E AD) (SR w)<|CR h λx h=>qB E x E<|AE 1 E<|s _<|rg<|AE 2 E<|q _ _ h<|AM E) λh=>AC<|i (sj h) _<|AM E))
def PV(a:zI)(b:(List zU×Int)->Option (List zU))(c:(List zU)×Int):Option (List zU):=match c with
  |(d,e)=>cond (decide (e < (a.length:Int))) (G (AF a e) λf=>G (GH f) λg=>chk (List.length d+List.length [g]<=lim)<|b ((d++[g]),(wZ<|e+1)))<|some d
def Py(a:zI)(b:zU):Option (zU):=G (Aq (PV a) fz (([]:List zU),0)) λc=>G (Vy c b) λd=>some d
def ZA{a b c}(h:Py a b=some c):AP 41 [dL Ao a,.str b] (.str c):=st Agy E<|rn 2 E<|An λd e=>rn 1 E (DE h λf g i=>have j:∀{k:List zU},k=f->Jn d [(1,.str b),(5,oL 9 cst k)]:=@λk h _ l=>have h:=i h;e _<|lh l E<|rs<|sp 2 E<|AL h λm n h=>qC (qa E (Bx ri _)<|qs E AD) (bQ n)<|AE 1 E<|sj h ▸ Ag rZ;(AW (λ(o:(List zU)×Int)=>match o with|(p,q)=>[(1,.str b),(5,oL 9 cst p),(8,dL Ao a),(9,nI (a.length:Int)),(10,nI q)]) _ _ _ _ g (AM E) (λ_=>E)<|λr=>IC λp q s h t=>rn 1 E<|Cc λu=>Bt h E (λh=>BN u<|Cc λv=>AO<|rs<|AL h λw x h=>qI E AX x<|AE 2 E<|rg<|sp 2 E<|AL h λy z h=>qC (qs E AD) (I5 z)<|DV cst [y] E E E JY<|CR h λA h=>qA cst p [y] E E (A3 JY [y]) E A<|AE 1 E<|v _<|rg<|AE 2 E<|t _ _ h<|AM E) λh=>AC<|j (sj h) _<|AM E))
def DB(a:SL)(b:zU)(c:Bool):Option (zU):=cond c (some [])<|G (S7 a.1) λd=>chk (List.length [40]+List.length d<=lim)<|chk (List.length ([40]++d)+List.length [41,59]<=lim)<|chk (List.length (([40]++d)++[41,59])+List.length b<=lim)<|chk (List.length ((([40]++d)++[41,59])++b)+List.length [59]<=lim)<|G (Py a.2.2.1 [32]) λe=>chk (List.length (((([40]++d)++[41,59])++b)++[59])+List.length e<=lim)<|chk (List.length ((((([40]++d)++[41,59])++b)++[59])++e)+List.length [59]<=lim)<|G (GH a.2.2.2.1) λf=>chk (List.length (((((([40]++d)++[41,59])++b)++[59])++e)++[59])+List.length f<=lim)<|chk (List.length ((((((([40]++d)++[41,59])++b)++[59])++e)++[59])++f)+List.length [59]<=lim)<|G (GH a.2.2.2.2) λg=>chk (List.length (((((((([40]++d)++[41,59])++b)++[59])++e)++[59])++f)++[59])+List.length g<=lim)<|some<|(((((((([40]++d)++[41,59])++b)++[59])++e)++[59])++f)++[59])++g
def Ds(a:SL):Option (zU):=G (Ko a.2.1) λb=>cond (decide (5 < (a.1.length:Int))) (DB a b true)<|cond (decide (4 < (a.2.1.length:Int))) (DB a b true)<|cond (decide (4 < (a.2.2.1.length:Int))) (DB a b true)<|cond (b==[]) (DB a b<|decide (0 < (a.2.1.length:Int)))<|DB a b false
def Hs{a b}(h:Ds a=some b):AP 12 [.agg (Nx a)] (.str b):=st Af3 E<|rn 2 E<|rs<|sp 2 E<|AL h λc d h=>qC (qa E (Bx Cs _) AD) (V6 d)<|AE 1 E (Cc λe=>rk λf g=>have i:∀{j:Bool},DB a c j=some b->Jn f [(3,.box [dL Ao a.1,dL AT a.2.1,dL Ao a.2.2.1,nI a.2.2.2.1,nI a.2.2.2.2]),(4,.str c),(34,.bool j)]:=@λj h _ k=>g _<|lh k E<|Bt h E (λh=>rn 1 E<|sj h ▸ Ag rZ) λh=>BN e<|rd (by kernel_rfl)<|sd 2 E<|AL h λl m h=>ed E<|qC (qa E (Bx AJ _) AD) (dU m)<|CR h λn h=>ed E<|qB E n E<|CR h λo h=>ed E<|qB E o E<|sd 1 E<|CR h λp h=>ed E<|qB E p E<|CR h λq h=>ed E<|qB E q E<|sd 2 E<|AL h λr s h=>ed E<|qC (qa E (Bx AJ _)<|qs E AD) (ZA s)<|CR h λt h=>ed E<|qB E t E<|CR h λu h=>ed E<|qB E u E<|sd 2 E<|AL h λv w h=>ed E<|qC (qs E AD) (I5 w)<|CR h λx h=>ed E<|qB E x E<|CR h λy h=>ed E<|qB E y E<|sd 2 E<|AL h λz A h=>ed E<|qC (qs E AD) (I5 A)<|CR h λB h=>ed E<|qB E B E<|sd 1 E<|Ct<|qk [2] E<|sj h ▸ Ag rZ;(sp 5 E<|CM h (λC h=>qg 13 C E<|AE 21 E<|i h _<|AM E) λC h=>qg 13 C E<|sp 6 E<|CM h (λD h=>qg 19 D E<|AE 15 E<|i h _<|AM E) λD h=>qg 19 D E<|sp 6 E<|CM h (λF h=>qg 25 F E<|AE 9 E<|i h _<|AM E) λF h=>qg 25 F E<|sp 3 E<|CM h (λH h=>qg 28 H E<|AE 6 E<|i h _<|AM E) λH h=>qg 28 H E<|AE 6 E<|i h _<|AM E))
def Ng(a:(List zU×Int×Int)->Option (List zU))(b:Int)(c:List zU)(d:Int):Option (List zU):=a (c,d,(wZ<|b+1))
def Ph(a:(List zU×Int×Int)->Option (List zU))(b:zU)(c:List zU)(d:Int)(e:Int)(f:Bool):Option (List zU):=cond f (chk ((0:Int)<=d∧d<=e∧e<=(b.length:Int))<|chk (List.length c+List.length [B5 b d e]<=lim)<|Ng a e (c++[B5 b d e])<|wZ<|e+1)<|Ng a e c d
def Lb(a:zU)(b:Int)(c:(List zU×Int×Int)->Option (List zU))(d:(List zU)×Int×Int):Option (List zU):=match d with
  |(e,f,g)=>cond (decide (g<=(a.length:Int))) (cond (g==(a.length:Int)) (Ph c a e f g true)<|G (AF a g) λi=>Ph c a e f g<|(UInt8.toNat i:Int)==b)<|some e
def PW(a:zU)(b:Int):Option (List zU):=G (Aq (Lb a b) fz (([]:List zU),0,0)) λc=>some c
def S8{a b c}(h:PW a b=some c):AP 43 [.str a,.int .u8 b] (oL 9 cst c):=st AgA E<|rn 3 E<|An λd e=>rn 1 E (DE h λf g i=>have j:∀{k:List zU},k=f->Jn d [(5,oL 9 cst k)]:=@λk h _ l=>have h:=i h;e _<|lh l E<|rn 1 E<|sj h ▸ Ag rZ;(AW (λ(m:(List zU)×Int×Int)=>match m with|(n,o,p)=>[(0,.str a),(1,.int .u8 b),(5,oL 9 cst n),(6,nI o),(7,nI p)]) _ _ _ _ g (AM E) (λ_=>E)<|λq=>fF λn o p r h s=>Eg E λt=>Bt h E (λh=>BN t<|An λu v=>AO (rk λw x=>have y:∀{z:Bool},Ph (Aq (Lb a b) q) a n o p z=some f->Jn w [(0,.str a),(1,.int .u8 b),(5,oL 9 cst n),(6,nI o),(7,nI p),(24,.bool z)]:=@λz h _ l=>x _<|lh l E (have A:∀{B:List zU}{C:Int},Ng (Aq (Lb a b) q) p B C=some f->Jn u [(0,.str a),(1,.int .u8 b),(5,oL 9 cst B),(6,nI C),(7,nI p)]:=@λB C h _ l=>v _<|lh l E<|rg<|AE 3 E<|s _ _ h<|AM E;(Bt h E (λh=>rs<|sp 4 E<|CR h λD h=>ib E D<|DV cst [B5 a o p] E E E JY<|CR h λF h=>qA cst n [B5 a o p] E E (A3 JY [B5 a o p]) E F<|AE 1 E<|rg<|AE 3 E<|A h _<|AM E) λh=>B6<|A h _<|AM E));(sp 5 E<|CM h (λH h=>qg 18 H E<|AE 6 E<|y h _<|AM E) λH h=>qg 18 H E<|sp 2 E<|AL h λI J h=>DU E E<|qX E J<|AE 3 E<|y h _<|AM E))) λh=>AC<|j (sj h) _<|AM E))
def Jm(a:(Int×Int)->Option Int)(b:Int)(c:Int):Option Int:=a (c,(wZ<|b+1))
def Hl(a:zU)(b:Int)(c:(Int×Int)->Option Int)(d:Int×Int):Option Int:=match d with
  |(e,f)=>cond (decide (f < 5)) (G (Kz f) λg=>chk ((0:Int)<=b∧b<=wZ (b+1)∧wZ (b+1)<=(a.length:Int))<|cond (g==(B5 a b<|wZ<|b+1)) (Jm c f f)<|Jm c f e)<|some e
def MA(a:zU)(b:(zI×Int)->Option (Sum (zI)<|zI×Bool))(c:zI×Int):Option (Sum (zI)<|zI×Bool):=match c with
  |(d,e)=>cond (decide (e < (wZ<|(a.length:Int) - 1))) (G (Aq (Hl a e) fz ((-1),0)) λf=>cond (decide (f < 0)) (some<|.inr (([]:zI),false))<|chk (List.length d+List.length [f]<=lim)<|b ((d++[f]),(wZ<|e+1)))<|some<|.inl d
def PA(a:zU):Option (zI×Bool):=cond (decide ((a.length:Int) < 2)) (some (([]:zI),false)) (G (AF a 0) λb=>cond ((UInt8.toNat b:Int)!=40) (some (([]:zI),false)) (G (AF a (wZ ((a.length:Int) - 1))) λc=>cond ((UInt8.toNat c:Int)!=41) (some (([]:zI),false)) (G (Aq (MA a) fz (([]:zI),1)) λd=>(match d with
  |.inl e=>(some (e,true))
  |.inr f=>some f))))
def ZB{a b}(h:PA a=some b):AP 44 [.str a] (.tup [oL 3 Ao b.1,.bool b.2]):=st AgB E<|rn 1 E<|Cc λc=>rs<|sp 4 E<|CM h (λd h=>qg 11 d E<|AE 12 E<|qT E E<|rn 1 E<|sj h ▸ Ag rZ) λd h=>qg 11 d E<|sp 1 E<|AL h λe f h=>DU E E<|qX E f<|sp 3 E<|CM h (λg h=>qg 16 g E<|AE 7 E<|qk [0,23] E<|qT E E<|rn 1 E<|sj h ▸ Ag rZ) λg h=>qg 16 g E<|sp 4 E<|AL h λi j h=>DU E E<|qX E j<|AE 2 E<|Bt h E (λh=>rn 1 E<|sj h ▸ Ag rZ) λh=>BN c<|rn 1 E<|An λk l=>rn 1 E (DE h λm n o=>have p:∀{q:zI},(.inl q)=m->Jn k [(4,oL 3 Ao q)]:=@λq h _ r=>have h:=o h;l _<|lh r E<|rn 1 E<|sj h ▸ Ag rZ;(AW (λ(s:zI×Int)=>match s with|(t,u)=>[(0,.str a),(4,oL 3 Ao t),(5,nI u)]) _ _ _ _ n (AM E) (λ_=>E)<|λv=>IC λt u w h x=>Eg E λy=>Bt h E (λh=>BN y<|Cc λz=>AO<|rn 1 E<|An λA B=>rn 1 E (DE h λC n D=>have F:∀{H:Int},H=C->Jn A [(0,.str a),(4,oL 3 Ao t),(5,nI u),(6,nI H)]:=@λH h _ r=>have h:=D h;B _<|lh r E<|Eg E λI=>Bt h E (λh=>rn 1 E<|sj (o<|sj h) ▸ Ag rZ) λh=>BN I<|rg<|sp 2 E<|DV Ao [H] E E E AX<|CR h λJ h=>qA Ao t [H] E E (A3 AX [H]) E J<|AE 1 E<|z _<|rg<|AE 3 E<|x _ _ h<|AM E;(AW (λ(s:Int×Int)=>match s with|(K,L)=>[(0,.str a),(4,oL 3 Ao t),(5,nI u),(6,nI K),(7,nI L)]) _ _ _ _ n (AM E) (λ_=>E)<|λv=>IC λK L w h x=>Eg E λM=>Bt h E (λh=>BN M<|An λN O=>AO<|rd (by kernel_rfl)<|sd 1 E<|AL h λP Q h=>ed E<|qC (qs E AD) (SR Q)<|sd 4 E<|CR h λR h=>ed E<|ib E R<|sd 1 E<|Ct (have S:∀{T:Int},Jm (Aq (Hl a u) v) L T=some C->Jn N [(0,.str a),(4,oL 3 Ao t),(5,nI u),(6,nI T),(7,nI L)]:=@λT h _ r=>O _<|lh r E<|rg<|AE 3 E<|x _ _ h<|AM E;(Bt h E (λh=>rg<|AE 2 E<|S h _<|AM E) λh=>B6<|S h _<|AM E))) λh=>AC<|F (sj h) _<|AM E))) λh=>AC<|p (sj h) _<|AM E))
def RB(a:zU)(b:(Int×Int)->Option (Sum Int<|Int×Bool))(c:Int×Int):Option (Sum Int<|Int×Bool):=match c with
  |(d,e)=>cond (decide (e < (a.length:Int))) (G (AF a e) λf=>cond (decide ((UInt8.toNat f:Int) < 48)) (some<|.inr (0,false))<|G (AF a e) λg=>cond (decide (57 < (UInt8.toNat g:Int))) (some<|.inr (0,false))<|G (AF a e) λi=>b ((wZ<|(wZ<|10 * d)+(wZ<|IntKind.u8.wrap<|(UInt8.toNat i:Int) - 48)),(wZ<|e+1)))<|some<|.inl d
def Oz(a:Int):Option (Int×Bool):=some (a,true)
def LZ(a:Bool)(b:zU):Option (Int×Bool):=cond (b==[]) (some (0,false)) (cond (decide (10 < (b.length:Int))) (some (0,false)) (G (Aq (RB b) fz (0,0)) λc=>(match c with
  |.inl d=>(cond a (Oz<|wZ<|0 - d)<|Oz d)
  |.inr e=>some e)))
def I7(a:zU)(b:Bool):Option (Int×Bool):=cond b (chk ((0:Int)<=1∧1<=(a.length:Int)∧(a.length:Int)<=(a.length:Int))<|LZ b<|B5 a 1 (a.length:Int))<|LZ b a
def Pg(a:zU):Option (Int×Bool):=cond (!(a==[])) (G (AF a 0) λb=>I7 a<|(UInt8.toNat b:Int)==45)<|I7 a false
def WK{a b}(h:Pg a=some b):AP 161 [.str a] (.tup [nI b.1,.bool b.2]):=st Acp E<|rn 2 E (rk λc d=>have e:∀{f:Bool},I7 a f=some b->Jn c [(0,.str a),(4,.str a),(5,.bool f)]:=@λf h _ g=>d _<|lh g E<|An λi j=>rn 1 E (have k:∀{l:zU},LZ f l=some b->Jn i [(4,.str l),(5,.bool f)]:=@λl h _ g=>j _<|lh g E<|Cc λm=>rs<|sp 3 E<|CM h (λn h=>qg 21 n E<|AE 4 E<|qT E E<|rn 1 E<|sj h ▸ Ag rZ) λn h=>qg 21 n E<|AE 4 E<|Bt h E (λh=>rn 1 E<|sj h ▸ Ag rZ) λh=>BN m<|rn 1 E<|An λo p=>rn 1 E<|qk [4,5,6,7] E (DE h λq r s=>have t:∀{u:Int},(.inl u)=q->Jn o [(5,.bool f),(6,nI u)]:=@λu h _ g=>have h:=s h;p _<|lh g E<|An λv w=>rn 1 E (have x:∀{y:Int},Oz y=some b->Jn v [(6,nI y)]:=@λy h _ g=>w _<|lh g E<|rn 1 E<|sj h ▸ Ag rZ;(Bt h E (λh=>rg<|AE 3 E<|x h _<|AM E) λh=>B6<|x h _<|AM E));(AW (λ(z:Int×Int)=>match z with|(A,B)=>[(4,.str l),(5,.bool f),(6,nI A),(7,nI B)]) _ _ _ _ r (AM E) (λ_=>E)<|λC=>IC λA B D h F=>Eg E λH=>Bt h E (λh=>BN H<|Cc λI=>AO<|Cc λJ=>rs<|sp 2 E<|AL h λK L h=>qX E L<|sp 2 E<|CM h (λM h=>qg 36 M E<|AE 5 E<|qT E E<|rn 1 E<|sj (s<|sj h) ▸ Ag rZ) λM h=>qg 36 M E<|sp 2 E<|AL h λN O h=>DU E E<|qX E O<|AE 2 E<|Bt h E (λh=>rn 1 E<|qk [2,3] E<|sj (s<|sj h) ▸ Ag rZ) λh=>BN J<|rg<|sp 4 E<|AL h λP Q h=>qX E Q<|AE 4 E<|I _<|rg<|AE 3 E<|F _ _ h<|AM E) λh=>AC<|t (sj h) _<|AM E));(Bt h E (λh=>rg<|sp 1 E<|CR h λR h=>ib E R<|AE 1 E<|k h _<|AM E) λh=>B6<|k h _<|AM E));(sp 3 E<|CM h (λS h=>qg 11 S E<|sp 1 E<|AL h λT U h=>DU E E<|qX E U<|AE 3 E<|e h _<|AM E) λS h=>qg 11 S E<|AE 5 E<|e h _<|AM E))
def E6(a:zU)(b:(List zU))(c:Int×Bool)(d:Int)(e:Bool):Option (A5×Bool):=cond (!e) (some ((0,0),false))<|cond (decide (2 < (b.length:Int))) (some ((0,0),false))<|cond (a==[]) (some ((0,0),false))<|G (Is (c.1,d)) λf=>cond (!(f==a)) (some ((0,0),false))<|some ((c.1,d),true)
def E5(a:zU)(b:(List zU))(c:Int×Bool)(d:Bool):Option (A5×Bool):=cond d (G (AF b 1) λe=>G (Pg e) λf=>E6 a b c f.1 f.2)<|E6 a b c 1 c.2
def Ji(a:zU):Option (A5×Bool):=G (PW a 47) λb=>G (AF b 0) λc=>G (Pg c) λd=>cond d.2 (E5 a b d<|(b.length:Int)==2)<|E5 a b d false
def Xi{a b}(h:Ji a=some b):AP 102 [.str a] (.tup [.agg (AT b.1),.bool b.2]):=st Abr E<|rn 1 E<|rs<|sp 1 E<|AL h λc d h=>qC (qs E<|qs E AD) (S8 d)<|AE 1 E<|rn 1 E<|rs<|sp 1 E<|AL h λe f h=>qI E JY f<|sp 1 E<|AL h λg i h=>qC (qs E AD) (WK i)<|AE 5 E<|rn 1 E (An λj k=>rk λl m=>have n:∀{o:Bool},E5 a c g o=some b->Jn l [(0,.str a),(2,.box [nI 0,nI 0]),(4,oL 9 cst c),(5,.box [nI g.1,nI 1]),(7,.bool g.2),(25,.bool o)]:=@λo h _ p=>m _<|lh p E (have q:∀{r:Int}{s:Bool},E6 a c g r s=some b->Jn j [(0,.str a),(2,.box [nI 0,nI 0]),(4,oL 9 cst c),(5,.box [nI g.1,nI r]),(7,.bool s)]:=@λr s h _ p=>k _<|lh p E<|Cc λt=>rs<|sp 3 E<|CM h (λu h=>qg 36 u E<|AE 14 E<|qT E E<|rn 1 E<|sj h ▸ Ag rZ) λu h=>qg 36 u E<|sp 5 E<|CM h (λv h=>qg 41 v E<|AE 9 E<|qT E E<|rn 1 E<|qk [2,3] E<|sj h ▸ Ag rZ) λv h=>qg 41 v E<|sp 4 E<|CM h (λw h=>qg 45 w E<|AE 5 E<|qT E E<|rn 1 E<|sj h ▸ Ag rZ) λw h=>qg 45 w E<|sp 1 E<|AL h λx y h=>DU E E<|qC (qa E (CF<|A9 E<|A9 E E) AD) (Rk y)<|AE 3 E<|Bt h E (λh=>rn 1 E<|sj h ▸ Ag rZ) λh=>BN t<|rn 1 E<|sj h ▸ Ag rZ;(Bt h E (λh=>rg<|sp 1 E<|AL h λz A h=>qI E JY A<|sp 1 E<|AL h λB C h=>qC (qs E AD) (WK C)<|AE 6 E<|q h _<|AM E) λh=>B6<|q h _<|AM E));(sp 2 E<|CM h (λD h=>qg 21 D E<|AE 4 E<|n h _<|AM E) λD h=>qg 21 D E<|AE 4 E<|n h _<|AM E))
def Mv(a:(List zU))(b:(List A5×Int)->Option (Sum (List A5)<|List A5×Bool))(c:(List A5)×Int):Option (Sum (List A5)<|List A5×Bool):=match c with
  |(d,e)=>cond (decide (e < (a.length:Int))) (G (AF a e) λf=>G (Ji f) λg=>cond (!g.2) (some<|.inr (([]:List A5),false))<|chk (List.length d+List.length [g.1]<=lim)<|b ((d++[g.1]),(wZ<|e+1)))<|some<|.inl d
def Lv(a:zU):Option (List A5×Bool):=cond (a==[]) (some (([]:List A5),true)) (G (PW a 32) λb=>G (Aq (Mv b) fz (([]:List A5),0)) λc=>(match c with
  |.inl d=>(some (d,true))
  |.inr e=>some e))
def WP{a b}(h:Lv a=some b):AP 45 [.str a] (.tup [oL 84 AT b.1,.bool b.2]):=st AgC E<|rn 1 E<|Eg E λc=>Bt h E (λh=>rn 1 E<|sj h ▸ Ag rZ) λh=>BN c<|rn 1 E<|An λd e=>rs<|sp 1 E<|AL h λf g h=>qC (qs E<|qs E AD) (S8 g)<|AE 2 E (DE h λi j k=>have l:∀{m:List A5},(.inl m)=i->Jn d [(4,oL 84 AT m)]:=@λm h _ n=>have h:=k h;e _<|lh n E<|rn 1 E<|sj h ▸ Ag rZ;(AW (λ(o:(List A5)×Int)=>match o with|(p,q)=>[(4,oL 84 AT p),(12,oL 9 cst f),(13,nI (f.length:Int)),(14,nI q)]) _ _ _ _ j (AM E) (λ_=>E)<|λr=>IC λp q s h t=>rn 1 E<|Cc λu=>Bt h E (λh=>BN u<|Cc λv=>AO<|rs<|AL h λw x h=>qI E JY x<|AE 2 E<|rs<|sp 1 E<|AL h λy z h=>qC (qs E AD) (Xi z)<|AE 6 E<|Eg E λA=>Bt h E (λh=>rn 1 E<|sj (k<|sj h) ▸ Ag rZ) λh=>BN A<|qk [4,7,12,13,14] E<|rg<|sp 2 E<|DV AT [y.1] E E E BU<|CR h λB h=>qA AT p [y.1] E E (A3 BU [y.1]) E B<|AE 1 E<|v _<|rg<|AE 2 E<|t _ _ h<|AM E) λh=>AC<|l (sj h) _<|AM E))
def RC(a:zU)(b:(Int×Int)->Option (Sum Int<|Int×Bool))(c:Int×Int):Option (Sum Int<|Int×Bool):=match c with
  |(d,e)=>cond (decide (e < (a.length:Int))) (G (AF a e) λf=>cond (decide ((UInt8.toNat f:Int) < 48)) (some<|.inr (0,false))<|G (AF a e) λg=>cond (decide (57 < (UInt8.toNat g:Int))) (some<|.inr (0,false))<|G (AF a e) λi=>b ((wZ<|(wZ<|10 * d)+(wZ<|IntKind.u8.wrap<|(UInt8.toNat i:Int) - 48)),(wZ<|e+1)))<|some<|.inl d
def L4(a:Int)(b:zU):Option (Int×Bool):=cond (b==[]) (some (0,false)) (cond (decide (11 < (b.length:Int))) (some (0,false)) (G (Aq (RC b) fz (0,0)) λc=>(match c with
  |.inl d=>(some (wZ<|a * d,true))
  |.inr e=>some e)))
def I8(a:zU)(b:Bool):Option (Int×Bool):=cond b (chk ((0:Int)<=1∧1<=(a.length:Int)∧(a.length:Int)<=(a.length:Int))<|L4 (-1)<|B5 a 1 (a.length:Int))<|L4 1 a
def Nd(a:zU):Option (Int×Bool):=cond (!(a==[])) (G (AF a 0) λb=>I8 a<|(UInt8.toNat b:Int)==45)<|I8 a false
def SD{a b}(h:Nd a=some b):AP 46 [.str a] (.tup [nI b.1,.bool b.2]):=st AgD E<|rn 3 E (An λc d=>rk λe f=>have g:∀{i:Bool},I8 a i=some b->Jn e [(0,.str a),(4,nI 1),(5,.str a),(15,.bool i)]:=@λi h _ j=>f _<|lh j E (have k:∀{l:Int}{m:zU},L4 l m=some b->Jn c [(4,nI l),(5,.str m)]:=@λl m h _ j=>d _<|lh j E<|Cc λn=>rs<|sp 3 E<|CM h (λo h=>qg 20 o E<|AE 4 E<|qT E E<|rn 1 E<|sj h ▸ Ag rZ) λo h=>qg 20 o E<|AE 4 E<|Bt h E (λh=>rn 1 E<|sj h ▸ Ag rZ) λh=>BN n<|rn 1 E<|An λp q=>rn 1 E<|qk [4,5,6,7] E (DE h λr s t=>have u:∀{v:Int},(.inl v)=r->Jn p [(4,nI l),(6,nI v)]:=@λv h _ j=>have h:=t h;q _<|lh j E<|rn 1 E<|sj h ▸ Ag rZ;(AW (λ(w:Int×Int)=>match w with|(x,y)=>[(4,nI l),(5,.str m),(6,nI x),(7,nI y)]) _ _ _ _ s (AM E) (λ_=>E)<|λz=>IC λx y A h B=>Eg E λC=>Bt h E (λh=>BN C<|Cc λD=>AO<|Cc λF=>rs<|sp 2 E<|AL h λH I h=>qX E I<|sp 2 E<|CM h (λJ h=>qg 35 J E<|AE 5 E<|qT E E<|rn 1 E<|sj (t<|sj h) ▸ Ag rZ) λJ h=>qg 35 J E<|sp 2 E<|AL h λK L h=>DU E E<|qX E L<|AE 2 E<|Bt h E (λh=>rn 1 E<|qk [2,3] E<|sj (t<|sj h) ▸ Ag rZ) λh=>BN F<|rg<|sp 4 E<|AL h λM N h=>qX E N<|AE 4 E<|D _<|rg<|AE 3 E<|B _ _ h<|AM E) λh=>AC<|u (sj h) _<|AM E));(Bt h E (λh=>rn 1 E<|rg<|sp 1 E<|CR h λO h=>ib E O<|AE 1 E<|k h _<|AM E) λh=>B6<|k h _<|AM E));(sp 3 E<|CM h (λP h=>qg 11 P E<|sp 1 E<|AL h λQ R h=>DU E E<|qX E R<|AE 2 E<|g h _<|AM E) λP h=>qg 11 P E<|AE 4 E<|g h _<|AM E))
def E2(a:zU)(b:(List zU))(c:zI×Bool)(d:(List A5)×Bool)(e:zI):Option (SL×Bool):=G (AF b 3) λf=>G (Nd f) λg=>G (AF b 4) λi=>G (Nd i) λj=>cond (!c.2) (some (([],[],[],0,0),false))<|cond (!d.2) (some (([],[],[],0,0),false))<|cond (!g.2) (some (([],[],[],0,0),false))<|cond (!j.2) (some (([],[],[],0,0),false))<|G (Ds (c.1,d.1,e,g.1,j.1)) λk=>cond (!(k==a)) (some (([],[],[],0,0),false))<|some ((c.1,d.1,e,g.1,j.1),true)
def K9(a:(List zU))(b:(zI×Int)->Option (Sum (zI)<|SL×Bool))(c:zI×Int):Option (Sum (zI)<|SL×Bool):=match c with
  |(d,e)=>cond (decide (e < (a.length:Int))) (G (AF a e) λf=>G (Nd f) λg=>cond (!g.2) (some<|.inr (([],[],[],0,0),false))<|chk (List.length d+List.length [g.1]<=lim)<|b ((d++[g.1]),(wZ<|e+1)))<|some<|.inl d
def Hb(a:zU):Option (SL×Bool):=G (PW a 59) λb=>cond ((b.length:Int)!=5) (some (([],[],[],0,0),false)) (G (AF b 0) λc=>G (PA c) λd=>G (AF b 1) λe=>G (Lv e) λf=>G (AF b 2) λg=>cond (!(g==[])) (G (AF b 2) λi=>G (PW i 32) λj=>G (Aq (K9 j) fz (([]:zI),0)) λk=>(match k with
  |.inl l=>(E2 a b d f l)
  |.inr m=>some m)) (E2 a b d f ([]:zI)))
def P9{a b}(h:Hb a=some b):AP 13 [.str a] (.tup [.agg (Ut b.1),.bool b.2]):=st Af4 E<|rn 1 E<|rs<|sp 1 E<|AL h λc d h=>qC (qs E<|qs E AD) (S8 d)<|AE 1 E<|Eg E λe=>Bt h E (λh=>rn 1 E<|sj h ▸ Ag rZ) λh=>BN e<|rn 1 E<|rs<|sp 1 E<|AL h λf g h=>qI E JY g<|sp 1 E<|AL h λi j h=>qC (qs E AD) (ZB j)<|AE 5 E<|qk [0,2,4,5,6,7] E<|rs<|sp 1 E<|AL h λk l h=>qI E JY l<|sp 1 E<|AL h λm n h=>qC (qs E AD) (WP n)<|AE 5 E<|An λo p=>rs<|sp 1 E<|AL h λq r h=>qI E JY r<|AE 2 E (have s:∀{t:zI},E2 a c i m t=some b->Jn o [(0,.str a),(2,.box [oL 3 Ao [],oL 84 AT [],oL 3 Ao [],nI 0,nI 0]),(4,oL 9 cst c),(5,.box [oL 3 Ao [],oL 84 AT [],oL 3 Ao t,nI 0,nI 0]),(6,oL 3 Ao i.1),(7,.bool i.2),(8,oL 84 AT m.1),(9,.bool m.2)]:=@λt h _ u=>p _<|lh u E<|rs<|sp 1 E<|AL h λv w h=>qI E JY w<|sp 1 E<|AL h λx y h=>qC (qs E AD) (SD y)<|AE 5 E<|rs<|sp 1 E<|AL h λz A h=>qI E JY A<|sp 1 E<|AL h λB C h=>qC (qs E AD) (SD C)<|AE 5 E<|rn 1 E<|Cc λD=>rs<|sp 3 E<|CM h (λF h=>qg 90 F E<|AE 17 E<|qk [2,5,107] E<|qT E E<|rn 1 E<|sj h ▸ Ag rZ) λF h=>qg 90 F E<|sp 4 E<|CM h (λH h=>qg 94 H E<|AE 13 E<|qT E E<|rn 1 E<|sj h ▸ Ag rZ) λH h=>qg 94 H E<|sp 4 E<|CM h (λI h=>qg 98 I E<|AE 9 E<|qk [2,5,107] E<|qT E E<|rn 1 E<|sj h ▸ Ag rZ) λI h=>qg 98 I E<|sp 4 E<|CM h (λJ h=>qg 102 J E<|AE 5 E<|qT E E<|rn 1 E<|sj h ▸ Ag rZ) λJ h=>qg 102 J E<|sp 1 E<|AL h λK L h=>DU E E<|qC (qa E (CF<|A9 (Bx AJ _)<|A9 (Bx Cs _)<|A9 (Bx AJ _)<|A9 E<|A9 E E) AD) (Hs L)<|AE 3 E<|Bt h E (λh=>rn 1 E<|sj h ▸ Ag rZ) λh=>BN D<|rn 1 E<|qk [2,3] E<|sj h ▸ Ag rZ;(Bt h E (λh=>rs<|sp 1 E<|AL h λM N h=>qI E JY N<|sp 1 E<|AL h λO P h=>qC (qs E<|qs E AD) (S8 P)<|AE 2 E (DE h λQ R S=>have T:∀{U:zI},(.inl U)=Q->Jn o [(0,.str a),(2,.box [oL 3 Ao [],oL 84 AT [],oL 3 Ao [],nI 0,nI 0]),(4,oL 9 cst c),(5,.box [oL 3 Ao [],oL 84 AT [],oL 3 Ao U,nI 0,nI 0]),(6,oL 3 Ao i.1),(7,.bool i.2),(8,oL 84 AT m.1),(9,.bool m.2)]:=@λU h _ u=>have h:=S h;s h _ ⟨u.1,u.2.1,u.2.2.1,u.2.2.2.1,u.2.2.2.2.1,u.2.2.2.2.2.1,u.2.2.2.2.2.2.1,u.2.2.2.2.2.2.2.1,trivial⟩;(AW (λ(V:zI×Int)=>match V with|(W,X)=>[(0,.str a),(2,.box [oL 3 Ao [],oL 84 AT [],oL 3 Ao [],nI 0,nI 0]),(4,oL 9 cst c),(5,.box [oL 3 Ao [],oL 84 AT [],oL 3 Ao W,nI 0,nI 0]),(6,oL 3 Ao i.1),(7,.bool i.2),(8,oL 84 AT m.1),(9,.bool m.2),(45,oL 9 cst O),(46,nI (O.length:Int)),(47,nI X)]) _ _ _ _ R (AM E) (λ_=>E)<|λY=>IC λW X Z h d=>rn 1 E<|Cc λe=>Bt h E (λh=>BN e<|Cc λf=>AO<|rs<|AL h λg j h=>qI E JY j<|AE 2 E<|rs<|sp 1 E<|AL h λk l h=>qC (qs E AD) (SD l)<|AE 5 E<|Eg E λn=>Bt h E (λh=>rn 1 E<|sj (S<|sj h) ▸ Ag rZ) λh=>BN n<|qk [0,2,4,5,6,7,8,9,12,45,46,47] E<|rg<|sp 3 E<|DV Ao [k.1] E E E AX<|CR h λq h=>qA Ao W [k.1] E E (A3 AX [k.1]) E q<|AE 2 E<|f _<|rg<|AE 2 E<|d _ _ h<|AM E) λh=>AC<|T (sj h) _<|AM E))) λh=>B6<|s h _<|AM E))
def K6(a:(Int)->Option (zU))(b:Int):Option (zU):=cond (decide (b<=(-10))) (G (a<|wZ<|0 - (wZ<|Int.tdiv b 10)) λc=>chk (List.length [45]+List.length c<=lim)<|G (a<|wZ<|0 - (Int.tmod b 10)) λd=>chk (List.length ([45]++c)+List.length d<=lim)<|some<|([45]++c)++d)<|cond (decide (b < 0)) (G (a<|wZ<|0 - b) λe=>chk (List.length [45]+List.length e<=lim)<|some<|[45]++e)<|cond (decide (b < 10)) (some<|bytesOf [IntKind.u8.wrap (wZ<|48+b)])<|G (a<|wZ<|Int.tdiv b 10) λf=>chk (List.length f+List.length (bytesOf [IntKind.u8.wrap (wZ<|48+(Int.tmod b 10))])<=lim)<|some<|f++(bytesOf [IntKind.u8.wrap (wZ<|48+(Int.tmod b 10))])
def MP(a:Int):Option (zU):=Aq K6 fz a
def OI{a b}(h:MP a=some b):AP 57 [nI a] (.str b):=by
 suffices c:∀d (a:Int) (b:zU),Aq K6 d a=some b->AP 57 [nI a] (.str b)from c fz a b h
 refineλd=>?_
 induction d with
 |zero=>intro a b h;cases h
 |succ d e=>
  intro a b h;have ih:∀{a:Int}{b:zU},Aq K6 d a=some b->AP 57 [nI a] (.str b):=λh=>e _ _ h
  change K6 (Aq K6 d) a=some b at h;exact st AgO E<|rn 1 E<|Eg E λf=>Bt h E (λh=>rs<|sp 3 E<|AL h λg i h=>qC (qs E AD) (ih i)<|CR h λj h=>qB E j E<|sp 3 E<|AL h λk m h=>qC (qs E AD) (ih m)<|CR h λn h=>qB E n E<|AE 1 E<|sj h ▸ Ag rZ) λh=>BN f<|Eg E λo=>Bt h E (λh=>rs<|sp 2 E<|AL h λp q h=>qC (qs E AD) (ih q)<|CR h λr h=>qB E r E<|AE 1 E<|qk [2] E<|sj h ▸ Ag rZ) λh=>BN o<|Eg E λs=>Bt h E (λh=>rs<|sp 3 E<|DV G1 [IntKind.u8.wrap (wZ<|48+a)] E E E cr<|qCs (l:=[IntKind.u8.wrap (wZ<|48+a)]) E E E E<|AE 1 E<|sj h ▸ Ag rZ) λh=>BN s<|rd (by kernel_rfl)<|sd 2 E<|AL h λt u h=>ed E<|qC (qs E AD) (ih u)<|sd 4 E<|ed E<|DV G1 [IntKind.u8.wrap (wZ<|48+(Int.tmod a 10))] E E E cr<|ed E<|qCs (l:=[IntKind.u8.wrap (wZ<|48+(Int.tmod a 10))]) E E E E<|CR h λv h=>ed E<|qB E v E<|sd 1 E<|Ct<|sj h ▸ Ag rZ
def Iz(a:A5):Option (zU):=G (BR a) λb=>cond (!b) (some [])<|cond (a.2==1) (G (MP a.1) λc=>some c)<|G (MP a.1) λd=>chk (List.length d+List.length [47]<=lim)<|G (MP a.2) λe=>chk (List.length (d++[47])+List.length e<=lim)<|some<|(d++[47])++e
def Rp{a b}(h:Iz a=some b):AP 107 [.agg (AT a)] (.str b):=st Abw E<|rn 1 E<|Cc λc=>rs<|sp 1 E<|AL h λd e h=>qC (qa E (CF<|A9 E<|A9 E E) AD) (Cg e)<|AE 1 E<|Bt h E (λh=>rn 1 E<|sj h ▸ Ag rZ) λh=>BN c<|Eg E λf=>Bt h E (λh=>rs<|sp 2 E<|AL h λg i h=>qC (qs E AD) (OI i)<|AE 1 E<|sj h ▸ Ag rZ) λh=>BN f<|rd (by kernel_rfl)<|sd 2 E<|AL h λj k h=>ed E<|qC (qs E AD) (OI k)<|CR h λl h=>ed E<|qB E l E<|sd 2 E<|AL h λm n h=>ed E<|qC (qs E AD) (OI n)<|CR h λo h=>ed E<|qB E o E<|sd 1 E<|Ct<|qk [2] E<|sj h ▸ Ag rZ
def Gw(a:(zU×Int)->Option (Sum (zU) zU))(b:Int)(c:zU)(d:zU):Option (Sum (zU) zU):=chk (List.length d+List.length c<=lim)<|a ((d++c),(wZ<|b+1))
def Gv(a:List A5)(b:(zU×Int)->Option (Sum (zU) zU))(c:zU×Int):Option (Sum (zU) zU):=match c with
  |(d,e)=>cond (decide (e < (a.length:Int))) (G (AF a e) λf=>G (Iz f) λg=>cond (g==[]) (some<|.inr [])<|cond (decide (0 < e)) (chk (List.length d+List.length [32]<=lim)<|Gw b e g<|d++[32])<|Gw b e g d)<|some<|.inl d
def KN(a:List A5):Option (zU):=G (Aq (Gv a) fz ([],0)) λb=>(match b with
  |.inl c=>(some c)
  |.inr d=>some d)
def Wp{a b}(h:KN a=some b):AP 54 [dL AT a] (.str b):=st AgL E<|rn 2 E<|An λc d=>rn 1 E (DE h λe f g=>have i:∀{j:zU},(.inl j)=e->Jn c [(3,.str j)]:=@λj h _ k=>have h:=g h;d _<|lh k E<|rn 1 E<|sj h ▸ Ag rZ;(AW (λ(l:zU×Int)=>match l with|(m,n)=>[(0,dL AT a),(3,.str m),(4,nI n)]) _ _ _ _ f (AM E) (λ_=>E)<|λo=>IC λm n p h q=>Eg E λr=>Bt h E (λh=>BN r<|Cc λs=>AO<|rs<|sp 2 E<|AL h λt u h=>qI E BU u<|sp 1 E<|AL h λv w h=>qC (qa E (CF<|A9 E<|A9 E E) AD) (Rp w)<|AE 1 E<|Eg E λx=>Bt h E (λh=>rn 1 E<|sj (g<|sj h) ▸ Ag rZ) λh=>BN x<|An λy z=>rn 1 E<|qk [0,3,4,5,20] E (have A:∀{B:zU},Gw (Aq (Gv a) o) n v B=some e->Jn y [(0,dL AT a),(3,.str B),(4,nI n),(5,.str v)]:=@λB h _ k=>z _<|lh k E<|rg<|sp 2 E<|CR h λC h=>qB E C E<|AE 1 E<|s _<|rg<|AE 3 E<|q _ _ h<|AM E;(Bt h E (λh=>rg<|sp 1 E<|CR h λD h=>qB E D E<|AE 1 E<|A h _<|AM E) λh=>B6<|A h _<|AM E))) λh=>AC<|i (sj h) _<|AM E))
def M9(a:(zU×Int)->Option (zU))(b:zI)(c:Int)(d:zU):Option (zU):=G (AF b c) λe=>G (MP e) λf=>chk (List.length d+List.length f<=lim)<|a ((d++f),(wZ<|c+1))
def M8(a:zI)(b:(zU×Int)->Option (zU))(c:zU×Int):Option (zU):=match c with
  |(d,e)=>cond (decide (e < (a.length:Int))) (cond (decide (0 < e)) (chk (List.length d+List.length [32]<=lim)<|M9 b a e<|d++[32])<|M9 b a e d)<|some d
def Tm(a:zI):Option (zU):=G (Aq (M8 a) fz ([],0)) λb=>some b
def fp{a b}(h:Tm a=some b):AP 56 [dL Ao a] (.str b):=st AgN E<|rn 2 E<|An λc d=>rn 1 E (DE h λe f g=>have i:∀{j:zU},j=e->Jn c [(3,.str j)]:=@λj h _ k=>have h:=g h;d _<|lh k E<|rn 1 E<|sj h ▸ Ag rZ;(AW (λ(l:zU×Int)=>match l with|(m,n)=>[(0,dL Ao a),(3,.str m),(4,nI n)]) _ _ _ _ f (AM E) (λ_=>E)<|λo=>IC λm n p h q=>Eg E λr=>Bt h E (λh=>BN r<|Cc λs=>AO<|An λt u=>rn 1 E (have v:∀{w:zU},M9 (Aq (M8 a) o) a n w=some e->Jn t [(0,dL Ao a),(3,.str w),(4,nI n)]:=@λw h _ k=>u _<|lh k E<|rg<|sp 3 E<|AL h λx y h=>qI E AX y<|sp 1 E<|AL h λz A h=>qC (qs E AD) (OI A)<|CR h λB h=>qB E B E<|AE 1 E<|s _<|rg<|AE 3 E<|q _ _ h<|AM E;(Bt h E (λh=>rg<|sp 1 E<|CR h λC h=>qB E C E<|AE 1 E<|v h _<|AM E) λh=>B6<|v h _<|AM E))) λh=>AC<|i (sj h) _<|AM E))
def FL(a:SL)(b:zU)(c:Bool):Option (zU):=cond c (some [])<|G (Qe a.1) λd=>chk (List.length d+List.length [59]<=lim)<|chk (List.length (d++[59])+List.length b<=lim)<|chk (List.length ((d++[59])++b)+List.length [59]<=lim)<|G (Tm a.2.2.1) λe=>chk (List.length (((d++[59])++b)++[59])+List.length e<=lim)<|chk (List.length ((((d++[59])++b)++[59])++e)+List.length [59]<=lim)<|G (MP a.2.2.2.1) λf=>chk (List.length (((((d++[59])++b)++[59])++e)++[59])+List.length f<=lim)<|chk (List.length ((((((d++[59])++b)++[59])++e)++[59])++f)+List.length [59]<=lim)<|G (MP a.2.2.2.2) λg=>chk (List.length (((((((d++[59])++b)++[59])++e)++[59])++f)++[59])+List.length g<=lim)<|some<|(((((((d++[59])++b)++[59])++e)++[59])++f)++[59])++g
def Fz(a:SL):Option (zU):=cond (decide (5 < (a.1.length:Int))) (some [])<|cond (decide (4 < (a.2.1.length:Int))) (some [])<|cond (decide (4 < (a.2.2.1.length:Int))) (some [])<|G (KN a.2.1) λb=>cond (b==[]) (FL a b<|decide (0 < (a.2.1.length:Int)))<|FL a b false
def Lh{a b}(h:Fz a=some b):AP 16 [.agg (Nx a)] (.str b):=st Af7 E<|rn 1 E<|Cc λc=>rs<|sp 5 E<|CM h (λd h=>qg 8 d E<|AE 11 E<|qT E E<|rn 1 E<|sj h ▸ Ag rZ) λd h=>qg 8 d E<|sp 6 E<|CM h (λe h=>qg 14 e E<|AE 5 E<|qk [1,19] E<|qT E E<|rn 1 E<|sj h ▸ Ag rZ) λe h=>qg 14 e E<|AE 5 E<|Bt h E (λh=>rn 1 E<|sj h ▸ Ag rZ) λh=>BN c<|rs<|sp 2 E<|AL h λf g h=>qC (qa E (Bx Cs _) AD) (Wp g)<|AE 1 E (Cc λi=>rk λj k=>have l:∀{m:Bool},FL a f m=some b->Jn j [(1,.box [dL Ao a.1,dL AT a.2.1,dL Ao a.2.2.1,nI a.2.2.2.1,nI a.2.2.2.2]),(3,.str f),(30,.bool m)]:=@λm h _ n=>k _<|lh n E<|Bt h E (λh=>rn 1 E<|sj h ▸ Ag rZ) λh=>BN i<|rd (by kernel_rfl)<|sd 2 E<|AL h λo p h=>ed E<|qC (qa E (Bx AJ _) AD) (Vd p)<|CR h λq h=>ed E<|qB E q E<|sd 1 E<|CR h λr h=>ed E<|qB E r E<|CR h λs h=>ed E<|qB E s E<|sd 2 E<|AL h λt u h=>ed E<|qC (qa E (Bx AJ _) AD) (fp u)<|CR h λv h=>ed E<|qB E v E<|CR h λw h=>ed E<|qB E w E<|sd 2 E<|AL h λx y h=>ed E<|qC (qs E AD) (OI y)<|CR h λz h=>ed E<|qB E z E<|CR h λA h=>ed E<|qB E A E<|sd 2 E<|AL h λB C h=>ed E<|qC (qs E AD) (OI C)<|CR h λD h=>ed E<|qB E D E<|sd 1 E<|Ct<|sj h ▸ Ag rZ;(sp 3 E<|CM h (λF h=>qg 25 F E<|AE 5 E<|l h _<|AM E) λF h=>qg 25 F E<|AE 5 E<|l h _<|AM E))
def Oh(a:(zI×Int×Int×zI×Int)->Option (zI×Int×Int×zI))(b:zI)(c:Int)(d:Int×GB)(e:Int):Option (zI×Int×Int×zI):=chk (List.length b+List.length [IntKind.u8.wrap e]<=lim)<|a (d.2.1,d.2.2.1,d.2.2.2,(b++[IntKind.u8.wrap e]),(wZ<|c - 1))
def Q3(a:(zI×Int×Int×zI×Int)->Option (zI×Int×Int×zI))(b:Int×GB)(c:zI)(d:Int)(e:Int×GB)(f:Int):Option (zI×Int×Int×zI):=cond (b.1==2) (Oh a c d e<|wZ<|97+(Int.tmod f 4))<|Oh a c d e f
def JE(a:Int×GB)(b:(zI×Int×Int×zI×Int)->Option (zI×Int×Int×zI))(c:zI×Int×Int×zI×Int):Option (zI×Int×Int×zI):=match c with
  |(d,e,f,g,i)=>cond (decide (0 < i)) (G (I2 (d,e,f)) λj=>cond (a.1==1) (Q3 b a g i j<|Int.tmod j.1 2)<|Q3 b a g i j j.1)<|some (d,e,f,g)
def UL(a:GB)(b:Int):Option (zU×GB):=G (B8 a 4) λc=>G (B8 c.2 (wZ (b+1))) λd=>G (Aq (JE c) fz (d.2.1,d.2.2.1,d.2.2.2,([]:zI),d.1)) λe=>(match e with
  |(f,g,i,j)=>(some (bytesOf j,(f,g,i))))
def fQ{a b c}(h:UL a b=some c):Kg Tryz.prog 104 [aL G1 a.1,nI a.2.1,nI a.2.2] [nI b] [aL G1 c.2.1,nI c.2.2.1,nI c.2.2.2] (.str c.1):=fG Abt E<|rn 1 E<|rs<|DV G1 [] E E E cr<|AE 1 E<|rs<|sp 1 E<|AL h λd e h=>qP E E E E (qs E AD) (B4 e)<|AE 1 E<|An λf g=>rs<|sp 3 E<|AL h λi j h=>qP E E E E (qs E AD) (B4 j)<|AE 1 E (DE h λk m n=>have o:∀{p:zI}{q:Int}{r:Int}{s:zI},(p,q,r,s)=k->Jn f [(0,.box [aL G1 p,nI q,nI r]),(5,oL 5 G1 s)]:=@λp q r s h _ t=>have h:=n h;g _<|lh t E<|rs<|sp 1 E<|qCs (l:=s) E E E E<|AE 1 E<|sj h ▸ Ag ⟨.inl E,E,E⟩;(AW (λ(u:zI×Int×Int×zI×Int)=>match u with|(v,w,x,y,z)=>[(0,.box [aL G1 v,nI w,nI x]),(5,oL 5 G1 y),(6,nI d.1),(7,nI z)]) _ _ _ _ m (AM E) (λ_=>E)<|λA=>pr5 λv w x y z B h C=>Eg E λD=>Bt h E (λh=>BN D<|Cc λF=>AO<|rs<|sp 1 E<|AL h λH I h=>qP E E E E AD (Lj I)<|AE 1 E<|An λJ K=>rn 1 E (have L:∀{M:Int},Q3 (Aq (JE d) A) d y z H M=some k->Jn J [(0,.box<|bN H.2),(5,oL 5 G1 y),(6,nI d.1),(7,nI z),(8,nI M)]:=@λM h _ t=>K _<|lh t E<|An λN O=>rn 1 E (have P:∀{Q:Int},Oh (Aq (JE d) A) y z H Q=some k->Jn N [(0,.box<|bN H.2),(5,oL 5 G1 y),(6,nI d.1),(7,nI z),(8,nI Q)]:=@λQ h _ t=>O _<|lh t E<|rg<|sp 3 E<|DV G1 [IntKind.u8.wrap Q] E E E cr<|CR h λR h=>qA G1 y [IntKind.u8.wrap Q] E E (A3 cr [IntKind.u8.wrap Q]) E R<|AE 1 E<|F _<|rg<|AE 3 E<|C _ _ h<|AM E;(Bt h E (λh=>rg<|AE 4 E<|P h _<|AM E) λh=>B6<|P h _<|AM E));(Bt h E (λh=>rg<|AE 3 E<|L h _<|AM E) λh=>B6<|L h _<|AM E))) λh=>AC<|o (sj h) _<|AM E))
def Tk(a:GB)(b:zU):Option (zU×GB):=cond ((b.length:Int)==0) (G (UL a 3) λc=>some (c.1,c.2))<|G (B8 a (b.length:Int)) λd=>G (B8 d.2 4) λe=>cond (e.1==0) (chk ((0:Int)<=0∧0<=d.1∧d.1<=(b.length:Int))<|chk ((0:Int)<=wZ (d.1+1)∧wZ (d.1+1)<=(b.length:Int)∧(b.length:Int)<=(b.length:Int))<|chk (List.length (B5 b 0 d.1)+List.length (B5 b (wZ<|d.1+1) (b.length:Int))<=lim)<|some ((B5 b 0 d.1)++(B5 b (wZ<|d.1+1) (b.length:Int)),e.2))<|cond (e.1==1) (chk ((0:Int)<=0∧0<=d.1∧d.1<=(b.length:Int))<|G (I2 e.2) λf=>chk (List.length (B5 b 0 d.1)+List.length (bytesOf [IntKind.u8.wrap f.1])<=lim)<|chk ((0:Int)<=d.1∧d.1<=(b.length:Int)∧(b.length:Int)<=(b.length:Int))<|chk (List.length ((B5 b 0 d.1)++(bytesOf [IntKind.u8.wrap f.1]))+List.length (B5 b d.1 (b.length:Int))<=lim)<|some (((B5 b 0 d.1)++(bytesOf [IntKind.u8.wrap f.1]))++(B5 b d.1 (b.length:Int)),f.2))<|cond (e.1==2) (chk ((0:Int)<=0∧0<=d.1∧d.1<=(b.length:Int))<|some (B5 b 0 d.1,e.2))<|chk ((0:Int)<=0∧0<=d.1∧d.1<=(b.length:Int))<|G (AF b d.1) λg=>G (B8 e.2 255) λi=>chk (List.length (B5 b 0 d.1)+List.length (bytesOf [IntKind.u8.wrap (od (wZ (UInt8.toNat g:Int))<|wZ<|1+i.1)])<=lim)<|chk ((0:Int)<=wZ (d.1+1)∧wZ (d.1+1)<=(b.length:Int)∧(b.length:Int)<=(b.length:Int))<|chk (List.length ((B5 b 0 d.1)++(bytesOf [IntKind.u8.wrap (od (wZ (UInt8.toNat g:Int))<|wZ<|1+i.1)]))+List.length (B5 b (wZ<|d.1+1) (b.length:Int))<=lim)<|some (((B5 b 0 d.1)++(bytesOf [IntKind.u8.wrap (od (wZ (UInt8.toNat g:Int))<|wZ<|1+i.1)]))++(B5 b (wZ<|d.1+1) (b.length:Int)),i.2)
def fj{a b c}(h:Tk a b=some c):Kg Tryz.prog 48 [aL G1 a.1,nI a.2.1,nI a.2.2] [.str b] [aL G1 c.2.1,nI c.2.2.1,nI c.2.2.2] (.str c.1):=fG AgF E<|rn 1 E<|Eg E λd=>Bt h E (λh=>rs<|sp 1 E<|AL h λe f h=>qP E E E E (qs E AD) (fQ f)<|AE 1 E<|sj h ▸ Ag ⟨.inl E,E,E⟩) λh=>BN d<|rs<|sp 3 E<|AL h λg i h=>qP E E E E (qs E AD) (B4 i)<|AE 1 E<|Cc λj=>rs<|sp 1 E<|AL h λk m h=>qP E E E E (qs E AD) (B4 m)<|NR<|AO<|rn 1 E<|Bt h E (λh=>rd (by kernel_rfl)<|sd 2 E<|CR h λn h=>ed E<|ib E n<|sd 3 E<|CR h λo h=>ed E<|ib E o<|CR h λp h=>ed E<|qB E p E<|sd 1 E<|Ct<|qk [0,4] E<|sj h ▸ Ag ⟨.inl E,E,E⟩) λh=>rn 1 E<|Bt h E (λh=>rd (by kernel_rfl)<|sd 2 E<|CR h λq h=>ed E<|ib E q<|sd 1 E<|AL h λr s h=>ed E<|qP E E E E AD (Lj s)<|sd 1 E<|ed E<|DV G1 [IntKind.u8.wrap r.1] E E E cr<|ed E<|qCs (l:=[IntKind.u8.wrap r.1]) E E E E<|CR h λt h=>ed E<|qB E t E<|sd 2 E<|CR h λu h=>ed E<|ib E u<|CR h λv h=>ed E<|qB E v E<|sd 1 E<|Ct<|sj h ▸ Ag ⟨.inl E,E,E⟩) λh=>rn 1 E<|Bt h E (λh=>rs<|sp 2 E<|CR h λw h=>ib E w<|AE 1 E<|sj h ▸ Ag ⟨.inl E,E,E⟩) λh=>BN j<|qk [0,1,5] E<|rd (by kernel_rfl)<|sd 2 E<|CR h λx h=>ed E<|ib E x<|sd 2 E<|AL h λy z h=>ed E<|qX E z<|sd 2 E<|AL h λA B h=>ed E<|qP E E E E (qs E AD) (B4 B)<|sd 3 E<|ed E<|DV G1 [IntKind.u8.wrap (od (wZ (UInt8.toNat y:Int))<|wZ<|1+A.1)] E E E cr<|ed E<|qCs (l:=[IntKind.u8.wrap (od (wZ (UInt8.toNat y:Int))<|wZ<|1+A.1)]) E E E E<|CR h λC h=>ed E<|qB E C E<|sd 3 E<|CR h λD h=>ed E<|ib E D<|CR h λF h=>ed E<|qB E F E<|sd 1 E<|Ct<|sj h ▸ Ag ⟨.inl E,E,E⟩
def FK(a:zI):Option (zU):=G (Ud a) λb=>G (Q6 b) λc=>G (Fz c.2.2.1) λd=>G (B8 c.2.2.2 4) λe=>cond (e.1==0) (G (Tk e.2 d) λf=>some f.1)<|cond (e.1==1) (G (Og e.2<|[[],[59,59,59,59],[40,41,59,59,59,48,59,48],[40,41,59,59,59,48,48,59,48],[40,88,41,59,49,47,49,59,59,48,59,48],[40,88,41,59,49,59,50,59,51],[40,88,41,59,49,59,50,59,51,59,52],[40,88,41,59,49,59,50,32,59,51,59,52]]) λg=>some g.1)<|some d
def Tf{a0 r}(h:FK a0=some r):AP 14 [aL G1 a0] (.str r):=by
 unfold FK at h;generalize a:([[],[59,59,59,59],[40,41,59,59,59,48,59,48],[40,41,59,59,59,48,48,59,48],[40,88,41,59,49,47,49,59,59,48,59,48],[40,88,41,59,49,59,50,59,51],[40,88,41,59,49,59,50,59,51,59,52],[40,88,41,59,49,59,50,32,59,51,59,52]]:List zU)=d at h;refine st Af5 rfl<|rn 1 rfl<|rs<|sp 1 rfl ?_;have⟨n,g2,h⟩:=AZ h;refine qN rfl rfl rfl rfl (Z6 g2)<|sp 1 rfl<|NR<|rs<|sp 1 rfl ?_;have⟨o,i,h⟩:=AZ h;refine qP rfl rfl rfl rfl AD (Xt i)<|sp 10 rfl<|NR<|rs<|sp 1 rfl ?_;have⟨p,j,h⟩:=AZ h;refine qC (qa rfl (CF<|A9 (Bx AJ _)<|A9 (Bx Cs _)<|A9 (Bx AJ _)<|A9 rfl<|A9 rfl rfl) AD) (Lh j)<|sp 1 rfl<|NR<|An λK7 e=>rs<|sp 1 rfl ?_
 have⟨q,k,h⟩:=AZ h;refine qP rfl rfl rfl rfl (qs rfl AD) (B4 k)<|NR<|AO<|rn 1 rfl ?_;rcases LI h with⟨b,h⟩|⟨b,h⟩
 ·refine qT rfl b (rs<|sp 2 rfl ?_);have⟨l,f,h⟩:=AZ h;exact qP rfl rfl rfl rfl (qs rfl AD) (fj f)<|sp 1 rfl<|NR<|qk [2] rfl<|Ag<|(by cases h;exact⟨.inl rfl,rfl⟩)
 ·refine qF rfl b (rn 1 rfl ?_);rcases LI h with⟨c,h⟩|⟨c,h⟩
  ·refine qT rfl c (rs<|sp 1 rfl<|qBk cst d 9 1 (by subst a;kernel_rfl) (by subst a;rfl) JY ?_);have⟨m,g,h⟩:=AZ h;exact qP rfl rfl rfl rfl (qa rfl (Tr ri _) AD) (R1 g)<|sp 1 rfl<|NR<|Ag<|(by cases h;exact⟨.inl rfl,rfl⟩)
  ·exact qF rfl c<|B6<|e _<|rn 1 rfl<|Ag<|(by cases h;exact⟨.inl rfl,rfl⟩)
def R4(a:zU)(b:(Int×Int)->Option (Sum Int Int))(c:Int×Int):Option (Sum Int Int):=match c with
  |(d,e)=>cond (decide (e < (a.length:Int))) (cond (decide ((a.length:Int) < 12)) (G (AF a e) λf=>cond (decide ((UInt8.toNat f:Int) < 48)) (some<|.inr 0)<|G (AF a e) λg=>cond (decide (57 < (UInt8.toNat g:Int))) (some<|.inr 0)<|G (AF a e) λi=>b ((wZ<|(wZ<|(wZ<|d * 10)+(wZ (UInt8.toNat i:Int))) - 48),(wZ<|e+1)))<|some<|.inl d)<|some<|.inl d
def Pk(a:zU)(b:Int):Option Int:=G (Aq (R4 a) fz (0,0)) λc=>(match c with
  |.inl d=>(some<|wZ<|b * d)
  |.inr e=>some e)
def Nj(a:zU)(b:Bool):Option Int:=cond b (chk ((0:Int)<=1∧1<=(a.length:Int)∧(a.length:Int)<=(a.length:Int))<|Pk (B5 a 1 (a.length:Int)) (-1))<|Pk a 1
def Oj(a:zU):Option Int:=cond (decide (0 < (a.length:Int))) (G (AF a 0) λb=>Nj a<|(UInt8.toNat b:Int)==45)<|Nj a false
def Q5{a b}(h:Oj a=some b):AP 52 [.str a] (nI b):=st AgJ E<|rn 3 E (An λc d=>rk λe f=>have g:∀{i:Bool},Nj a i=some b->Jn e [(0,.str a),(3,nI 0),(4,nI 1),(13,.bool i)]:=@λi h _ j=>f _<|lh j E (have k:∀{l:zU}{m:Int},Pk l m=some b->Jn c [(0,.str l),(3,nI 0),(4,nI m)]:=@λl m h _ j=>d _<|lh j E<|An λn o=>rn 1 E (DE h λp q r=>have s:∀{t:Int},(.inl t)=p->Jn n [(3,nI t),(4,nI m)]:=@λt h _ j=>have h:=r h;o _<|lh j E<|rn 1 E<|sj h ▸ Ag rZ;(AW (λ(u:Int×Int)=>match u with|(v,w)=>[(0,.str l),(3,nI v),(4,nI m),(5,nI w)]) _ _ _ _ q (AM E) (λ_=>E)<|λx=>IC λv w y h z=>Cc λA=>rs<|sp 5 E<|CM h (λB h=>qg 20 B E<|AE 4 E<|Bt h E (λh=>BN A<|Cc λC=>AO<|Cc λD=>rs<|sp 2 E<|AL h λF H h=>qX E H<|sp 2 E<|CM h (λI h=>qg 31 I E<|AE 5 E<|qT E E<|rn 1 E<|sj (r<|sj h) ▸ Ag rZ) λI h=>qg 31 I E<|sp 2 E<|AL h λJ K h=>DU E E<|qX E K<|AE 2 E<|qk [0,3,4,5,36] E<|Bt h E (λh=>rn 1 E<|sj (r<|sj h) ▸ Ag rZ) λh=>BN D<|rg<|sp 4 E<|AL h λL M h=>qX E M<|AE 4 E<|C _<|rg<|AE 3 E<|z _ _ h<|AM E) λh=>AC<|s (sj h) _<|AM E) λB h=>qg 20 B E<|AE 4 E<|qF E E<|AC<|s (sj h) _<|AM E));(Bt h E (λh=>rn 1 E<|qk [0,3,4] E<|rg<|sp 1 E<|CR h λN h=>ib E N<|AE 1 E<|k h _<|AM E) λh=>B6<|k h _<|AM E));(sp 4 E<|CM h (λO h=>qg 9 O E<|sp 1 E<|AL h λP Q h=>DU E E<|qX E Q<|AE 2 E<|g h _<|AM E) λO h=>qg 9 O E<|AE 4 E<|g h _<|AM E))
def JX(a:zU)(b:Int->Option Int)(c:Int):Option Int:=cond (decide (c < (a.length:Int))) (G (AF a c) λd=>cond ((UInt8.toNat d:Int)!=47) (b<|wZ<|c+1)<|some c)<|some c
def Hg(a:zU)(b:Int)(c:Int):Option (A5×Bool):=G (Iz (b,c)) λd=>cond (!(d==a)) (some ((0,0),false))<|cond (a==[]) (some ((0,0),false))<|some ((b,c),true)
def MK(a:zU):Option (A5×Bool):=G (Aq (JX a) fz 0) λb=>chk ((0:Int)<=0∧0<=b∧b<=(a.length:Int))<|G (Oj<|B5 a 0 b) λc=>cond (decide (b < (a.length:Int))) (chk ((0:Int)<=wZ (b+1)∧wZ (b+1)<=(a.length:Int)∧(a.length:Int)<=(a.length:Int))<|G (Oj<|B5 a (wZ<|b+1) (a.length:Int)) λd=>Hg a c d)<|Hg a c 1
def Xr{a b}(h:MK a=some b):AP 106 [.str a] (.tup [.agg (AT b.1),.bool b.2]):=st Abv E<|rn 2 E (An λc d=>DE h λe f g=>have i:∀{j:Int},j=e->Jn c [(0,.str a),(2,.box [nI 0,nI 0]),(4,nI j)]:=@λj h _ k=>have h:=g h;d _<|lh k E<|rn 1 E<|rs<|sp 2 E<|CR h λl h=>ib E l<|AL h λm n h=>qC (qs E AD) (Q5 n)<|AE 2 E<|An λo p=>rn 1 E (have q:∀{r:Int},Hg a m r=some b->Jn o [(0,.str a),(2,.box [nI 0,nI 0]),(5,.box [nI m,nI r])]:=@λr h _ k=>p _<|lh k E<|Cc λs=>rs<|sp 1 E<|AL h λt u h=>qC (qa E (CF<|A9 E<|A9 E E) AD) (Rp u)<|sp 3 E<|CM h (λv h=>qg 38 v E<|AE 3 E<|qT E E<|rn 1 E<|sj h ▸ Ag rZ) λv h=>qg 38 v E<|AE 3 E<|Bt h E (λh=>rn 1 E<|sj h ▸ Ag rZ) λh=>BN s<|rn 1 E<|sj h ▸ Ag rZ;(Bt h E (λh=>rg<|sp 3 E<|CR h λw h=>ib E w<|AL h λx y h=>qC (qs E AD) (Q5 y)<|AE 2 E<|q h _<|AM E) λh=>B6<|q h _<|AM E));(AW (λ(z:Int)=>[(0,.str a),(2,.box [nI 0,nI 0]),(4,nI z)]) _ _ _ _ f (AM E) (λ_=>E)<|λA z B h C=>Cc λD=>rs<|sp 5 E<|CM h (λF h=>qg 10 F E<|sp 2 E<|AL h λH I h=>DU E E<|qX E I<|AE 2 E<|Bt h E (λh=>BN D<|AO<|rg<|AE 3 E<|C _ _ h<|AM E) λh=>AC<|i (sj h) _<|AM E) λF h=>qg 10 F E<|AE 5 E<|qF E E<|AC<|i (sj h) _<|AM E))
def ML(a:(List zU))(b:(List A5×Int)->Option (Sum (List A5)<|List A5×Bool))(c:(List A5)×Int):Option (Sum (List A5)<|List A5×Bool):=match c with
  |(d,e)=>cond (decide (e < (a.length:Int))) (G (AF a e) λf=>G (MK f) λg=>cond (!g.2) (some<|.inr (([]:List A5),false))<|chk (List.length d+List.length [g.1]<=lim)<|b ((d++[g.1]),(wZ<|e+1)))<|some<|.inl d
def LF(a:zU):Option (List A5×Bool):=cond (a==[]) (some (([]:List A5),true)) (G (MQ a 32) λb=>G (Aq (ML b) fz (([]:List A5),0)) λc=>(match c with
  |.inl d=>(some (d,true))
  |.inr e=>some e))
def WV{a b}(h:LF a=some b):AP 53 [.str a] (.tup [oL 84 AT b.1,.bool b.2]):=st AgK E<|rn 1 E<|rs<|DV AT [] E E E BU<|AE 1 E<|Eg E λc=>Bt h E (λh=>rn 1 E<|sj h ▸ Ag rZ) λh=>BN c<|rs<|sp 1 E<|AL h λd e h=>qC (qs E<|qs E AD) (OJ e)<|AE 1 E<|An λf g=>rn 1 E (DE h λi j k=>have l:∀{m:List A5},(.inl m)=i->Jn f [(4,oL 84 AT m)]:=@λm h _ n=>have h:=k h;g _<|lh n E<|rn 1 E<|sj h ▸ Ag rZ;(AW (λ(o:(List A5)×Int)=>match o with|(p,q)=>[(4,oL 84 AT p),(5,oL 9 cst d),(6,nI q)]) _ _ _ _ j (AM E) (λ_=>E)<|λr=>IC λp q s h t=>Eg E λu=>Bt h E (λh=>BN u<|Cc λv=>AO<|rs<|sp 2 E<|AL h λw x h=>qI E JY x<|sp 1 E<|AL h λy z h=>qC (qs E AD) (Xr z)<|AE 6 E<|Eg E λA=>Bt h E (λh=>rs<|DV AT [] E E E BU<|AE 2 E<|sj (k<|sj h) ▸ Ag rZ) λh=>BN A<|rg<|sp 2 E<|DV AT [y.1] E E E BU<|CR h λB h=>qA AT p [y.1] E E (A3 BU [y.1]) E B<|AE 1 E<|v _<|qk [4,5,6] E<|rg<|AE 3 E<|t _ _ h<|AM E) λh=>AC<|l (sj h) _<|AM E))
def FV(a:zU)(b:zI)(c:Int)(d:Int)(e:(List A5)×Bool)(f:zI):Option (SL×Bool):=G (Fz (b,e.1,f,c,d)) λg=>cond (!(g==a)) (some (([],[],[],0,0),false))<|some ((b,e.1,f,c,d),true)
def Li(a:(List zU))(b:(zI×Int)->Option (zI))(c:zI×Int):Option (zI):=match c with
  |(d,e)=>cond (decide (e < (a.length:Int))) (G (AF a e) λf=>G (Oj f) λg=>chk (List.length d+List.length [g]<=lim)<|b ((d++[g]),(wZ<|e+1)))<|some d
def JW(a:zU):Option (SL×Bool):=G (MQ a 59) λb=>cond ((b.length:Int)!=5) (some (([],[],[],0,0),false))<|G (AF b 0) λc=>G (Qd c) λd=>G (AF b 3) λe=>G (Oj e) λf=>G (AF b 4) λg=>G (Oj g) λi=>G (AF b 1) λj=>G (LF j) λk=>G (AF b 2) λl=>cond (!(l==[])) (G (AF b 2) λm=>G (MQ m 32) λn=>G (Aq (Li n) fz (([]:zI),0)) λo=>FV a d f i k o)<|FV a d f i k ([]:zI)
def VS{a b}(h:JW a=some b):AP 15 [.str a] (.tup [.agg (Ut b.1),.bool b.2]):=st Af6 E<|rn 1 E<|rs<|sp 1 E<|AL h λc d h=>qC (qs E<|qs E AD) (OJ d)<|AE 1 E<|Eg E λe=>Bt h E (λh=>rn 1 E<|sj h ▸ Ag rZ) λh=>BN e<|rd (by kernel_rfl)<|sd 1 E<|AL h λf g h=>ed E<|qI E JY g<|sd 1 E<|AL h λi j h=>ed E<|qC (qs E AD) (Vc j)<|sd 1 E<|AL h λk l h=>ed E<|qI E JY l<|sd 1 E<|AL h λm n h=>ed E<|qC (qs E AD) (Q5 n)<|sd 1 E<|AL h λo p h=>ed E<|qI E JY p<|sd 1 E<|AL h λq r h=>ed E<|qC (qs E AD) (Q5 r)<|sd 3 E<|Ct<|qk [0,2,4,5] E<|rs<|sp 1 E<|AL h λs t h=>qI E JY t<|sp 1 E<|AL h λu v h=>qC (qs E AD) (WV v)<|AE 5 E<|An λw x=>rs<|sp 1 E<|AL h λy z h=>qI E JY z<|AE 2 E (have A:∀{B:zI},FV a i m q u B=some b->Jn w [(0,.str a),(2,.box [oL 3 Ao [],oL 84 AT [],oL 3 Ao [],nI 0,nI 0]),(5,.box [oL 3 Ao i,oL 84 AT u.1,oL 3 Ao B,nI m,nI q])]:=@λB h _ C=>x _<|lh C E<|Cc λD=>rs<|sp 1 E<|AL h λF H h=>qC (qa E (CF<|A9 (Bx AJ _)<|A9 (Bx Cs _)<|A9 (Bx AJ _)<|A9 E<|A9 E E) AD) (Lh H)<|AE 2 E<|Bt h E (λh=>rn 1 E<|sj h ▸ Ag rZ) λh=>BN D<|rn 1 E<|sj h ▸ Ag rZ;(Bt h E (λh=>rs<|sp 1 E<|AL h λI J h=>qI E JY J<|sp 1 E<|AL h λK L h=>qC (qs E<|qs E AD) (OJ L)<|AE 1 E<|rn 1 E (DE h λM N O=>have P:∀{Q:zI},Q=M->Jn w [(0,.str a),(2,.box [oL 3 Ao [],oL 84 AT [],oL 3 Ao [],nI 0,nI 0]),(5,.box [oL 3 Ao i,oL 84 AT u.1,oL 3 Ao Q,nI m,nI q])]:=@λQ h _ C=>have h:=O h;A h _ ⟨C.1,C.2.1,C.2.2.1,trivial⟩;(AW (λ(R:zI×Int)=>match R with|(S,T)=>[(0,.str a),(2,.box [oL 3 Ao [],oL 84 AT [],oL 3 Ao [],nI 0,nI 0]),(5,.box [oL 3 Ao i,oL 84 AT u.1,oL 3 Ao S,nI m,nI q]),(6,oL 9 cst K),(7,nI T)]) _ _ _ _ N (AM E) (λ_=>E)<|λU=>IC λS T V h W=>Eg E λX=>Bt h E (λh=>BN X<|Cc λY=>AO<|eR (by kernel_rfl)<|sd 4 E<|AL h λZ c h=>ed E<|qI E JY c<|sd 1 E<|AL h λd e h=>ed E<|qC (qs E AD) (Q5 e)<|ed E<|DV Ao [d] E E E AX<|CR h λf h=>ed E<|qA Ao S [d] E E (A3 AX [d]) E f<|sd 2 E<|Ct<|Y _<|rg<|AE 3 E<|W _ _ h<|AM E) λh=>AC<|P (sj h) _<|AM E))) λh=>B6<|A h _<|AM E))
def D2(a:Bool):Option Bool:=some a
def IT(a:SL)(b:SL):Option Bool:=G (EA a.1 b.1) λc=>cond (c==0) (G (Iy a.2.1 b.2.1) λd=>cond d (G (EA a.2.2.1 b.2.2.1) λe=>cond (e==0) (cond (a.2.2.2.1==b.2.2.2.1) (D2<|a.2.2.2.2==b.2.2.2.2)<|D2 false)<|D2 false)<|D2 false)<|D2 false
def U7{a b c}(h:IT a b=some c):AP 17 [.agg (Nx a),.agg (Nx b)] (.bool c):=st Af8 E<|rn 1 E (rk λd e=>have f:∀{g:Bool},D2 g=some c->Jn d [(4,.bool g)]:=@λg h _ i=>e _<|lh i E<|sj h ▸ Ag rZ;(sp 4 E<|AL h λj k h=>qC (qa E (Bx AJ _)<|qa E (Bx AJ _) AD) (Fo k)<|sp 2 E<|CM h (λl h=>qg 11 l E<|sp 4 E<|AL h λm n h=>DU E E<|qC (qa E (Bx Cs _)<|qa E (Bx Cs _) AD) (Ro n)<|sp 2 E<|CM h (λo h=>qg 18 o E<|sp 4 E<|AL h λp q h=>DU E E<|qC (qa E (Bx AJ _)<|qa E (Bx AJ _) AD) (Fo q)<|sp 3 E<|CM h (λr h=>qg 26 r E<|sp 7 E<|CM h (λs h=>qg 33 s E<|AE 7 E<|f h _<|AM E) λs h=>qg 33 s E<|AE 7 E<|f h _<|AM E) λr h=>qg 26 r E<|AE 14 E<|f h _<|AM E) λo h=>qg 18 o E<|AE 22 E<|f h _<|AM E) λl h=>qg 11 l E<|AE 29 E<|f h _<|AM E))
def DZ(a:Bool):Option Bool:=some a
def IF(a:SL)(b:SL):Option Bool:=G (Nf a.1 b.1) λc=>cond c (G (Ir a.2.1 b.2.1) λd=>cond d (G (Nf a.2.2.1 b.2.2.1) λe=>cond e (cond (a.2.2.2.1==b.2.2.2.1) (DZ<|a.2.2.2.2==b.2.2.2.2)<|DZ false)<|DZ false)<|DZ false)<|DZ false
def UU{a b c}(h:IF a b=some c):AP 18 [.agg (Nx a),.agg (Nx b)] (.bool c):=st Af9 E<|rn 1 E (rk λd e=>have f:∀{g:Bool},DZ g=some c->Jn d [(4,.bool g)]:=@λg h _ i=>e _<|lh i E<|sj h ▸ Ag rZ;(sp 4 E<|AL h λj k h=>qC (qa E (Bx AJ _)<|qa E (Bx AJ _) AD) (SE k)<|sp 1 E<|CM h (λl h=>qg 10 l E<|sp 4 E<|AL h λm n h=>DU E E<|qC (qa E (Bx Cs _)<|qa E (Bx Cs _) AD) (Rj n)<|sp 2 E<|CM h (λo h=>qg 17 o E<|sp 4 E<|AL h λp q h=>DU E E<|qC (qa E (Bx AJ _)<|qa E (Bx AJ _) AD) (SE q)<|sp 2 E<|CM h (λr h=>qg 24 r E<|sp 7 E<|CM h (λs h=>qg 31 s E<|AE 7 E<|f h _<|AM E) λs h=>qg 31 s E<|AE 7 E<|f h _<|AM E) λr h=>qg 24 r E<|AE 14 E<|f h _<|AM E) λo h=>qg 17 o E<|AE 21 E<|f h _<|AM E) λl h=>qg 10 l E<|AE 28 E<|f h _<|AM E))
def Co(a:Bool):Option Bool:=some a
def D9(a:zI)(b:(List DY)×Fv×SL)(c:Bool):Option Bool:=cond c (some false)<|G (Ds b.2.2) λd=>G (Hb d) λe=>G (FK a) λf=>G (Hb f) λg=>G (JW f) λi=>G (Fz b.2.2) λj=>cond (d==j) (G (Fh b.2.1 b.2.2) λk=>cond (!k) (cond (g.2==i.2) (cond (!g.2) (Co true)<|G (Ds g.1) λl=>Co<|l==f)<|Co false)<|cond e.2 (G (IT e.1 b.2.2) λm=>cond m (G (IF e.1 b.2.2) λn=>cond n (cond (g.2==i.2) (cond (!g.2) (Co true)<|G (Ds g.1) λo=>Co<|o==f)<|Co false)<|Co false)<|Co false)<|Co false)<|Co false
def EP(a:zI)(b:(List DY)×Fv×SL)(c:Bool)(d:Bool):Option Bool:=cond d (some false)<|G (Ku b.1 b.2.1 b.2.2.1) λe=>cond c (cond (!e.2) (D9 a b true)<|cond (e.1.2.2.2.1 !=b.2.2.2.2.2.1) (D9 a b true)<|cond (e.1.2.2.2.2 !=b.2.2.2.2.2.2) (D9 a b true)<|G (RV e.1.2.2.1 b.2.2.2.2.1) λf=>D9 a b (!f))<|D9 a b false
def Ly(a:zI):Option Bool:=G (ZH a) λb=>cond b (some true)<|G (G5 a) λc=>G (JL c.1 c.2.1 c.2.2) λd=>G (JT c.1 c.2.1 c.2.2) λe=>cond (!(d==e)) (EP a c d true)<|G (Fc c.2.1 c.2.2) λf=>G (Fh c.2.1 c.2.2) λg=>cond (!(f==g)) (EP a c d true)<|cond d (G (Fc c.2.1 c.2.2) λi=>EP a c d (!i))<|EP a c d false
def WS{a b}(h:Ly a=some b):AP 3 [dL G1 a] (.bool b):=by
 refine sta AiX E (b9 (WE (λ_=>E) _) E) (mvv (ca (λ_=>E) _) E) E<|rn 1 E<|Cc λc=>rs<|sp 1 E<|AL h λd e h=>qC (qa E (Vf AaM _) AD) (nA e)<|NR<|Bt h E (λh=>rn 1 E<|sj h ▸ Ag rZ) λh=>BN c<|rs<|sp 1 E<|AL h λf g h=>qCk E E (Te g)<|AE 10 E<|rs<|sp 3 E<|AL h λi j h=>qC (qa E (CF<|A9 (Vf Zo _) E)<|qa E (CF<|A9 E<|A9 (Vf US _)<|A9 (Vf AJ _) E)<|qa E (CF<|A9 (Bx AJ _)<|A9 (Bx Cs _)<|A9 (Bx AJ _)<|A9 E<|A9 E E) AD) (Vv j)<|AE 1 E (Cc λk=>rdk (by kernel_rfl) λl m=>have n:∀{o:Bool},EP a f i o=some b->Jn l [(0,aL G1 a),(3,.box [aL Nw f.1]),(4,.box [nI f.2.1.1,aL Zf f.2.1.2.1,aL Ao f.2.1.2.2]),(5,.box [oL 3 Ao f.2.2.1,oL 84 AT f.2.2.2.1,oL 3 Ao f.2.2.2.2.1,nI f.2.2.2.2.2.1,nI f.2.2.2.2.2.2]),(6,.bool i),(52,.bool o)]:=@λo h _ p=>m _<|lh p E<|Bt h E (λh=>rn 1 E<|sj h ▸ Ag rZ) λh=>BN k<|rs<|sp 4 E<|AL h λq r h=>qC (qa E (CF<|A9 (Vf Zo _) E)<|qa E (CF<|A9 E<|A9 (Vf US _)<|A9 (Vf AJ _) E)<|qa E (Bx AJ _) AD) (V7 r)<|AE 6 E (Cc λs=>rk λt u=>have v:∀{w:Bool},D9 a f w=some b->Jn t [(0,aL G1 a),(4,.box [nI f.2.1.1,aL Zf f.2.1.2.1,aL Ao f.2.1.2.2]),(5,.box [oL 3 Ao f.2.2.1,oL 84 AT f.2.2.2.1,oL 3 Ao f.2.2.2.2.1,nI f.2.2.2.2.2.1,nI f.2.2.2.2.2.2]),(87,.bool w)]:=@λw h _ p=>u _<|lh p E<|Bt h E (λh=>rn 1 E<|sj h ▸ Ag rZ) λh=>BN s<|rs<|sp 1 E<|AL h λx y h=>qC (qa E (CF<|A9 (Bx AJ _)<|A9 (Bx Cs _)<|A9 (Bx AJ _)<|A9 E<|A9 E E) AD) (Hs y)<|AE 1 E<|rs<|sp 1 E<|AL h λz A h=>qC (qs E AD) (P9 A)<|AE 6 E<|rs<|sp 1 E<|AL h λB C h=>qCk E E (Tf C)<|AE 1 E<|rs<|sp 1 E<|AL h λD F h=>qC (qs E AD) (P9 F)<|AE 6 E<|rs<|sp 1 E<|AL h λH I h=>qC (qs E AD) (VS I)<|AE 6 E<|qk [4,5,9,10,11,12,13,14,16] E (rk λJ K=>have L:∀{M:Bool},Co M=some b->Jn J [(2,.bool M)]:=@λM h _ p=>K _<|lh p E<|sj h ▸ Ag rZ;(sp 2 E<|AL h λN O h=>qC (qa E (CF<|A9 (Bx AJ _)<|A9 (Bx Cs _)<|A9 (Bx AJ _)<|A9 E<|A9 E E) AD) (Lh O)<|sp 2 E<|CM h (λP h=>qg 111 P E<|sp 2 E<|AL h λQ R h=>DU E E<|qC (qa E (CF<|A9 E<|A9 (Vf US _)<|A9 (Vf AJ _) E)<|qa E (CF<|A9 (Bx AJ _)<|A9 (Bx Cs _)<|A9 (Bx AJ _)<|A9 E<|A9 E E) AD) (J7 R)<|sp 2 E<|CM h (λS h=>qg 116 S E<|sp 19 E<|CM h (λT h=>qg 135 T E<|sp 3 E<|CM h (λU h=>qg 138 U E<|AE 7 E<|L h _<|AM E) λU h=>qg 138 U E<|sp 1 E<|AL h λV W h=>DU E E<|qC (qa E (CF<|A9 (Bx AJ _)<|A9 (Bx Cs _)<|A9 (Bx AJ _)<|A9 E<|A9 E E) AD) (Hs W)<|AE 5 E<|L h _<|AM E) λT h=>qg 135 T E<|AE 10 E<|L h _<|AM E) λS h=>qg 116 S E<|sp 2 E<|CM h (λX h=>qg 118 X E<|sp 2 E<|AL h λY Z h=>DU E E<|qC (qa E (CF<|A9 (Bx AJ _)<|A9 (Bx Cs _)<|A9 (Bx AJ _)<|A9 E<|A9 E E)<|qa E (CF<|A9 (Bx AJ _)<|A9 (Bx Cs _)<|A9 (Bx AJ _)<|A9 E<|A9 E E) AD) (U7 Z)<|sp 2 E<|CM h (λd h=>qg 123 d E<|sp 2 E<|AL h λc e h=>DU E E<|qC (qa E (CF<|A9 (Bx AJ _)<|A9 (Bx Cs _)<|A9 (Bx AJ _)<|A9 E<|A9 E E)<|qa E (CF<|A9 (Bx AJ _)<|A9 (Bx Cs _)<|A9 (Bx AJ _)<|A9 E<|A9 E E) AD) (UU e)<|sp 4 E<|CM h (λg h=>qg 130 g E<|sp 5 E<|CM h (λj h=>qg 135 j E<|sp 3 E<|CM h (λi h=>qg 138 i E<|AE 7 E<|L h _<|AM E) λi h=>qg 138 i E<|sp 1 E<|AL h λl o h=>DU E E<|qC (qa E (CF<|A9 (Bx AJ _)<|A9 (Bx Cs _)<|A9 (Bx AJ _)<|A9 E<|A9 E E) AD) (Hs o)<|AE 5 E<|L h _<|AM E) λj h=>qg 135 j E<|AE 10 E<|L h _<|AM E) λg h=>qg 130 g E<|AE 15 E<|L h _<|AM E) λd h=>qg 123 d E<|AE 22 E<|L h _<|AM E) λX h=>qg 118 X E<|AE 27 E<|L h _<|AM E) λP h=>qg 111 P E<|AE 34 E<|L h _<|AM E));(sp 2 E<|CM h (λk h=>qg 62 k E<|sp 3 E<|CM h (λm h=>qg 65 m E<|AE 22 E<|v h _<|AM E) λm h=>qg 65 m E<|sp 7 E<|CM h (λq h=>qg 72 q E<|AE 15 E<|v h _<|AM E) λq h=>qg 72 q E<|sp 7 E<|CM h (λr h=>qg 79 r E<|AE 8 E<|v h _<|AM E) λr h=>qg 79 r E<|sp 4 E<|AL h λa f h=>DU E E<|qC (qa E (Bx AJ _)<|qa E (Bx AJ _) AD) (cg f)<|AE 3 E<|v h _<|AM E) λk h=>qg 62 k E<|AE 25 E<|v h _<|AM E));?_)
 exact sd 4 E<|AL h λs t h=>ed E<|qC (qa E (CF<|A9 (Vf Zo _) E)<|qa E (CF<|A9 E<|A9 (Vf US _)<|A9 (Vf AJ _) E)<|qa E (CF<|A9 (Bx AJ _)<|A9 (Bx Cs _)<|A9 (Bx AJ _)<|A9 E<|A9 E E) AD) (VQ t)<|sd 2 E<|CM h (λu h=>Pd 35 u E<|sd 17 E<|Ct<|n h _<|AM E) λu h=>Pd 35 u E<|sd 2 E<|AL h λw x h=>ed E<|DU E E<|qC (qa E (CF<|A9 E<|A9 (Vf US _)<|A9 (Vf AJ _) E)<|qa E (CF<|A9 (Bx AJ _)<|A9 (Bx Cs _)<|A9 (Bx AJ _)<|A9 E<|A9 E E) AD) (J0 x)<|sd 2 E<|AL h λy z h=>ed E<|DU E E<|qC (qa E (CF<|A9 E<|A9 (Vf US _)<|A9 (Vf AJ _) E)<|qa E (CF<|A9 (Bx AJ _)<|A9 (Bx Cs _)<|A9 (Bx AJ _)<|A9 E<|A9 E E) AD) (J7 z)<|sd 3 E<|CM h (λA h=>Pd 44 A E<|sd 8 E<|Ct<|n h _<|AM E) λA h=>Pd 44 A E<|sd 2 E<|CM h (λB h=>Pd 46 B E<|sd 2 E<|AL h λC D h=>ed E<|DU E E<|qC (qa E (CF<|A9 E<|A9 (Vf US _)<|A9 (Vf AJ _) E)<|qa E (CF<|A9 (Bx AJ _)<|A9 (Bx Cs _)<|A9 (Bx AJ _)<|A9 E<|A9 E E) AD) (J0 D)<|sd 3 E<|Ct<|n h _<|AM E) λB h=>Pd 46 B E<|sd 6 E<|Ct<|n h _<|AM E
end
section
def cY{B:(Int->zS)->Int->zS}{n:Nat}(a:Nat->Bool){M:Nat}(l:n < M)(o:∀k,k < n->∀b,B b (k:Int)=cond (a k) (some<|.inr false) (b ((k+1:Nat):Int)))(p:∀b,B b (n:Int)=some (.inl ())):
  Aq B M 0=some (cond ((List.range n).any a) (.inr false)<|.inl ()):=by
 have e:∀d k,k+d=n->(∀j,j < k->a j=false)->∀m,d < m->Aq B m (k:Int)=some (cond ((List.range n).any a) (.inr false)<|.inl ()):=by
  intro d;induction d with
  |zero=>
   intro k q f m r;cases m with
   |zero=>omega
   |succ m=>
    have g:k=n:=by omega
    have:(List.range n).any a=false:=by rw[CD];intro x s;rw[f x (by have:=AQ.1 s;omega)];simp
    show B (Aq B m) (k:Int)=_;rw[g,p,this];rfl
  |succ d t=>
   intro k q f m r;cases m with
   |zero=>omega
   |succ m=>
    show B (Aq B m) (k:Int)=_;rw[o k (by omega)];cases c:a k with
    |true=>
     have:(List.range n).any a=true:=by rw[C4];exact⟨k,AQ.2 (by omega),c⟩
     rw[this];rfl
    |false=>
     exact t (k+1) (by omega) (λj i=>by
      rcases Bi j k with h|h
      ·exact f j h
      ·rw[show j=k by omega];exact c) m (by omega)
 have:=e n 0 (by omega) (λj i=>absurd i<|by omega) M l;simpa using this
def DX{B:(Int->zS)->Int->zS}{n:Nat}(b:Nat->Bool)(c:n<=lim)(d:∀k,k < n->∀a,B a (k:Int)=cond (b k) (some<|.inr false) (a ((k+1:Nat):Int)))(e:∀a,B a (n:Int)=some (.inl ())):
  Aq B fz 0=some (cond ((List.range n).any b) (.inr false)<|.inl ()):=cY b (EC c) d e
def Bc{k n:Nat}(h:k < n):decide ((k:Int) < (n:Int))=true:=Ae (by omega)
def A2(n:Nat):decide ((n:Int) < (n:Int))=false:=Ac (by omega)
def I0{α:Type}(l:List α)(k:Nat)(f:α->Bool):Bool:=match l[k]? with
 |some e=>f e
 |none=>false
def Cx{α:Type}{l k}(h:k < l.length)(f:α->Bool):I0 l k f=f l[k]:=by unfold I0;rw[Ah h]
def BL{α:Type}(l:List α)(f:Nat->α->Bool):Bool:=(List.range l.length).any λk=>I0 l k<|f k
def FX(x lo hi:Int):Bool:=decide (lo<=x)&&decide (x<=hi)
def Jv(x lo hi:Int):D7 x lo hi=some (FX x lo hi):=by unfold D7 Tj FX;cases decide (lo<=x)<;>rfl
def FC(x lo hi:Int):Dk x lo hi=some (FX x lo hi):=by unfold Dk QE FX;cases decide (lo<=x)<;>rfl
def Sw(l:zI):Bool:= !BL l λ_ e=> !FX e 0 99
def Aab{l:zI}(h:l.length<=lim):Ix l=some (Sw l):=by unfold Ix Sw BL;rw[DX (λk=>I0 l k λe=> !FX e 0 99) h (λk a b=>by unfold MG;rw[Bc a,AG a,Bm a (Ba h),Cx a];simp only[Ab,G,Jv]) (λrec=>by unfold MG;rw[A2];rfl)];cases(List.range l.length).any λk=>I0 l k λe=> !FX e 0 99<;>rfl
def zE{l:zI}(h:l.length<=lim):Ip l=some (Sw l):=by unfold Ip Sw BL;rw[DX (λk=>I0 l k λe=> !FX e 0 99) h (λk a b=>by unfold Ms;rw[Bc a,AG a,Bm a (Ba h),Cx a];simp only[Ab,G,FC]) (λrec=>by unfold Ms;rw[A2];rfl)];cases(List.range l.length).any λk=>I0 l k λe=> !FX e 0 99<;>rfl
def Fa:zI->zI->Int
 |[],[]=>0
 |[],_::_=> -1
 |_::_,[]=>1
 |x::xs,y::a=>if x < y then -1 else if y < x then 1 else Fa xs a
def kJ{B:(Int->Option (Sum Unit Int))->Int->Option (Sum Unit Int)}{a b:zI}(t:a.length<=lim)
  (u:∀k (l:k < a.length) (v:k < b.length),∀e,B e (k:Int)=if a[k] < b[k]then some (.inr (-1))else if b[k] < a[k]then some (.inr 1)else e ((k+1:Nat):Int))
  (n:∀k:Nat,¬(k < a.length∧k < b.length)->∀e,B e (k:Int)=some (.inl ())):
  ∃o,Aq B fz 0=some o∧((∃r,o=.inr r∧Fa a b=r)∨(o=.inl ()∧Fa a b=if a.length < b.length then -1 else if b.length < a.length then 1 else 0)):=by
 have i:∀d k,k+d=a.length->k<=b.length->Fa a b=Fa (a.drop k) (b.drop k)->∀m,d < m->∃o,Aq B m (k:Int)=some o∧((∃r,o=.inr r∧Fa a b=r)∨(o=.inl ()∧Fa a b=if a.length < b.length then -1 else if b.length < a.length then 1 else 0)):=by
  intro d;induction d with
  |zero=>
   intro k l j c m w;cases m with
   |zero=>omega
   |succ m=>
    refine⟨.inl (),n k (by omega) _,.inr ⟨rfl,?_⟩⟩;rw[c,Cl (by omega:a.length<=k)];rcases Bi k b.length with h|h
    ·rw[AS h,At (by omega)];rfl
    ·rw[Cl h,As (by omega),As (by omega)];rfl
  |succ d x=>
   intro k l j c m w;cases m with
   |zero=>omega
   |succ m=>
    have f:k < a.length:=by omega
    rcases Bi k b.length with h|h
    ·have g:=u k f h (Aq B m);rw[AS f,AS h,Fa]at c;by_cases q:a[k] < b[k]
     ·rw[At q]at g c;exact⟨_,g,.inl ⟨_,rfl,c⟩⟩
     ·rw[As q]at g c;by_cases s:b[k] < a[k]
      ·rw[At s]at g c;exact⟨_,g,.inl ⟨_,rfl,c⟩⟩
      ·rw[As s]at g c;obtain⟨o,e2,p⟩:=x (k+1) (by omega) (by omega) c m (by omega);exact⟨o,g.trans e2,p⟩
    ·refine⟨.inl (),n k (by omega) _,.inr ⟨rfl,?_⟩⟩;rw[c,AS f,Cl h,As (by omega),At (by omega)];rfl
 exact i a.length 0 (by omega) (by omega) (by simp) fz<|EC t
def Xq{a b:zI}(j:a.length<=lim):EA a b=some (Fa a b):=by
 unfold EA
 obtain⟨o,e,p⟩:=kJ (B:=LE a b) j (λk g f h=>by
   unfold LE;rw[Bc g,Bc f,AG g,AG f,Bm g (Ba j)];simp only[Ab,G];by_cases c:a[k] < b[k]
   ·rw[Ae c,At c];rfl
   ·rw[Ac c,As c];by_cases d:b[k] < a[k]
    ·rw[Ae d,At d];rfl
    ·rw[Ac d,As d];rfl) (λk g h=>by
   unfold LE;by_cases q:k < a.length
   ·rw[Bc q,Ac (by omega:¬(k:Int) < (b.length:Int))];rfl
   ·rw[Ac (by omega:¬(k:Int) < (a.length:Int))];rfl)
 rw[e];rcases p with⟨r,rfl,i⟩|⟨rfl,i⟩
 ·rw[i];rfl
 ·simp only[G];rw[i];by_cases c:a.length < b.length
  ·rw[At c,Ae (by omega)];rfl
  ·rw[As c,Ac (by omega)];by_cases d:b.length < a.length
   ·rw[At d,Ae (by omega)];rfl
   ·rw[As d,Ac (by omega)];rfl
def aW(x y:Int):Gk x y=some (if x < y then -1 else if y < x then 1 else 0):=by
 unfold Gk;by_cases a:x < y
 ·rw[Ae a,At a];rfl
 ·rw[Ac a,As a];by_cases b:y < x
  ·rw[Ae b,At b];rfl
  ·rw[Ac b,As b];rfl
def gn{a b:zI}(j:a.length<=lim):Hj a b=some (Fa a b):=by
 unfold Hj
 obtain⟨o,e,p⟩:=kJ (B:=Lu a b) j (λk g d h=>by
   unfold Lu;rw[Bc g,Bc d,AG g,AG d,Bm g (Ba j)];simp only[Ab,G,aW];by_cases c:a[k] < b[k]
   ·have:(a[k]!=b[k])=true:=by simp;omega
    simp only[this,At c,Ab]
   ·by_cases f:b[k] < a[k]
    ·have:(a[k]!=b[k])=true:=by simp;omega
     simp only[this,As c,At f,Ab]
    ·have:(a[k]!=b[k])=false:=by simp;omega
     simp only[this,As c,As f,Aa]) (λk g h=>by
   unfold Lu;by_cases q:k < a.length
   ·rw[Bc q,Ac (by omega:¬(k:Int) < (b.length:Int))];rfl
   ·rw[Ac (by omega:¬(k:Int) < (a.length:Int))];rfl)
 rw[e];rcases p with⟨r,rfl,i⟩|⟨rfl,i⟩
 ·rw[i];rfl
 ·simp only[G,aW];rw[i];by_cases c:a.length < b.length
  ·rw[At c,At (by omega)]
  ·rw[As c,As (by omega)];by_cases f:b.length < a.length
   ·rw[At f,At (by omega)]
   ·rw[As f,As (by omega)]
def SH(a:Int)(b:List zI)(k:Nat)(r:zI):Bool:=((r.length:Int)!=a) || !Sw r || (decide (0 < k)&&I0 b (k - 1) λq=>decide (0<=Fa q r))
def Rc(r:Int×List zI):Bool:=FX r.1 0 5&&(!decide (4000 < (r.2.length:Int))&& !BL r.2 (SH r.1 r.2))
def fB{k n:Nat}(h:k < n)(b:0 < k)(a:n<=maxLen):wZ ((k:Int) - 1)=((k - 1:Nat):Int):=by rw[wrap_in (by unfold maxLen at a;omega)];omega
def Jw(l:List zI):Prop:=l.length<=lim∧∀r∈l,r.length<=lim
def qp{r}(h:Jw r.2):EI r=some (Rc r):=by
 unfold EI Rc BL;simp only[Jv,G];cases FX r.1 0 5 with
 |false=>rfl
 |true=>
  cases decide (4000 < (r.2.length:Int))with
  |true=>rfl
  |false=>
   simp only[Ai,BT,Aa,AK]
   rw[DX (λk=>I0 r.2 k (SH r.1 r.2 k)) h.1 (λk b d=>by
    have e:=h.2 _<|Aj b;unfold If Fi;rw[Bc b,AG b,Bm b (Ba h.1),Cx b];simp only[Ab,G,Aab e,SH];cases f:((r.2[k].length:Int)!=r.1)with
    |true=>rfl
    |false=>
     cases g:Sw r.2[k]with
     |false=>rfl
     |true=>
      by_cases c:0 < k
      ·have a:k - 1 < r.2.length:=by omega
       rw[fB b c (Ba h.1),AG a,Cx a,Ae (by omega:(0:Int) < (k:Int)),Ae c];simp only[Ab,Aa,Ai,CH,AK,Xq (h.2 _<|Aj a)]
      ·rw[Ac (by omega:¬(0:Int) < (k:Int)),Ac c];rfl) (λrec=>by unfold If;rw[A2];rfl)]
   cases(List.range r.2.length).any λk=>I0 r.2 k (SH r.1 r.2 k)<;>rfl
def lp{r}(h:Jw r.2):EG r=some (Rc r):=by
 unfold EG TR Rc BL;simp only[FC,G];cases FX r.1 0 5 with
 |false=>rfl
 |true=>
  cases decide (4000 < (r.2.length:Int))with
  |true=>rfl
  |false=>
   simp only[Ai,BT,Aa,AK]
   rw[DX (λk=>I0 r.2 k (SH r.1 r.2 k)) h.1 (λk b d=>by
    have e:=h.2 _<|Aj b;unfold NE H8;rw[Bc b,AG b,Bm b (Ba h.1),Cx b];simp only[Ab,G,zE e,SH];cases f:((r.2[k].length:Int)!=r.1)with
    |true=>rfl
    |false=>
     cases g:Sw r.2[k]with
     |false=>rfl
     |true=>
      by_cases c:0 < k
      ·have a:k - 1 < r.2.length:=by omega
       rw[fB b c (Ba h.1),AG a,Cx a,Ae (by omega:(0:Int) < (k:Int)),Ae c];simp only[Ab,Aa,Ai,CH,AK,gn (h.2 _<|Aj a)]
      ·rw[Ac (by omega:¬(0:Int) < (k:Int)),Ac c];rfl) (λrec=>by unfold NE;rw[A2];rfl)]
   cases(List.range r.2.length).any λk=>I0 r.2 k (SH r.1 r.2 k)<;>rfl
def nmB(s:zU):Bool:=FX (s.length:Int) 1 4&& !BL s λ_ b=>decide ((UInt8.toNat b:Int) < 97) || decide (122 < (UInt8.toNat b:Int))
def vF{s:zU}(h:s.length<=lim):Md s=some (nmB s):=by unfold Md nmB BL;rw[DX (λk=>I0 s k λb=>decide ((UInt8.toNat b:Int) < 97) || decide (122 < (UInt8.toNat b:Int))) h (λk a c=>by unfold Pa;rw[Bc a,AG a,Bm a (Ba h),Cx a];simp only[Ab,G];cases decide ((UInt8.toNat s[k]:Int) < 97)<;>rfl) (λrec=>by unfold Pa;rw[A2];rfl)];cases(List.range s.length).any λk=>I0 s k λb=>decide ((UInt8.toNat b:Int) < 97) || decide (122 < (UInt8.toNat b:Int))<;>simp[G,Jv]
def tP{s}(h:s.length<=lim):LN s=some (nmB s):=by
 unfold LN TP nmB BL FX;by_cases c:(s.length:Int) < 1
 ·rw[Ae c,Ac (by omega:¬(1:Int)<=(s.length:Int))];rfl
 ·rw[Ac c,Ae (by omega:(1:Int)<=(s.length:Int))];by_cases d:4 < (s.length:Int)
  ·rw[Ae d,Ac (by omega:¬(s.length:Int)<=4)];rfl
  ·rw[Ac d,Ae (by omega:(s.length:Int)<=4)];simp only[Aa,FZ,AK];rw[DX (λk=>I0 s k λb=>decide ((UInt8.toNat b:Int) < 97) || decide (122 < (UInt8.toNat b:Int))) h (λk a e=>by unfold Qz;rw[Bc a,AG a,Bm a (Ba h),Cx a];simp only[Ab,G];cases decide ((UInt8.toNat s[k]:Int) < 97)<;>rfl) (λrec=>by unfold Qz;rw[A2];rfl)];cases(List.range s.length).any λk=>I0 s k λb=>decide ((UInt8.toNat b:Int) < 97) || decide (122 < (UInt8.toNat b:Int))<;>rfl
abbrev Tp:=zU×(Int×List zI)
def Xx(d:List Tp)(k:Nat)(t:Tp):Bool:= !nmB t.1 || (decide (0 < k)&&I0 d (k - 1) λq=> !Op.bytesLess q.1 t.1) || !Rc t.2 || decide (16 < (t.2.2.length:Int)) || decide (t.2.1 < 1)
def dbB(d:List Tp):Bool:=decide ((d.length:Int)<=6)&& !BL d (Xx d)
def Up(d:List Tp):Prop:=d.length<=lim∧∀t∈d,t.1.length<=lim∧Jw t.2.2
def Ad8{d:List Tp}(h:Up d):HS d=some (dbB d):=by
 unfold HS dbB BL
 rw[DX (λk=>I0 d k (Xx d k)) h.1 (λk a f=>by
  have e:=h.2 _<|Aj a;unfold Ic Dd;rw[Bc a,AG a,Bm a (Ba h.1),Cx a];simp only[Ab,G,vF e.1,qp e.2,Xx];cases nmB d[k].1 with
  |false=>rfl
  |true=>
   by_cases c:0 < k
   ·have b:k - 1 < d.length:=by omega
    rw[fB a c (Ba h.1),AG b,Cx b,Ae (by omega:(0:Int) < (k:Int)),Ae c];simp only[Ab,Aa,Ai,CH,AK];cases Op.bytesLess d[k - 1].1 d[k].1<;>cases Rc d[k].2<;>cases decide (16 < (d[k].2.2.length:Int))<;>rfl
   ·rw[Ac (by omega:¬(0:Int) < (k:Int)),Ac c];cases Rc d[k].2<;>cases decide (16 < (d[k].2.2.length:Int))<;>rfl) (λrec=>by unfold Ic;rw[A2];rfl)]
 cases(List.range d.length).any λk=>I0 d k (Xx d k)<;>simp[G]
def AfJ{d:List Tp}(h:Up d):HF d=some (dbB d):=by
 unfold HF dbB BL;by_cases e:6 < (d.length:Int)
 ·rw[Ae e,Ac (by omega:¬(d.length:Int)<=6)];rfl
 rw[Ac e,Ae (by omega:(d.length:Int)<=6),Aa,AK]
 rw[DX (λk=>I0 d k (Xx d k)) h.1 (λk a g=>by
  have f:=h.2 _<|Aj a;unfold H2 Da;rw[Bc a,AG a,Bm a (Ba h.1),Cx a];simp only[Ab,G,tP f.1,lp f.2,Xx];cases nmB d[k].1 with
  |false=>rfl
  |true=>
   by_cases c:0 < k
   ·have b:k - 1 < d.length:=by omega
    rw[fB a c (Ba h.1),AG b,Cx b,Ae (by omega:(0:Int) < (k:Int)),Ae c];simp only[Ab,Aa,Ai,CH,AK];cases Op.bytesLess d[k - 1].1 d[k].1<;>cases Rc d[k].2<;>cases decide (16 < (d[k].2.2.length:Int))<;>cases decide (d[k].2.1 < 1)<;>rfl
   ·rw[Ac (by omega:¬(0:Int) < (k:Int)),Ac c];cases Rc d[k].2<;>cases decide (16 < (d[k].2.2.length:Int))<;>cases decide (d[k].2.1 < 1)<;>rfl) (λrec=>by unfold H2;rw[A2];rfl)]
 cases(List.range d.length).any λk=>I0 d k (Xx d k)<;>rfl
def Jo{α β:Type}{a:List α}{h:α->β}{B:(List β×Int->Option (List β))->List β×Int->Option (List β)}(d:a.length<=lim)
  (e:∀k (c:k < a.length),∀b,B b ((a.take k).map h,(k:Int))=b ((a.take k).map h++[h a[k]],((k+1:Nat):Int))) (f:∀b y,B b (y,(a.length:Int))=some y):Aq B fz ([],0)=some (a.map h):=by
 have:=DQ (body:=B) (out:=a.map h) (λk=>((a.take k).map h,(k:Int))) a.length (λk c b=>by rw[e k c,A7 c,BM];rfl) (λrec=>by rw[f,Bl]) fz (EC d);simpa using this
def gg{α O:Type}{a:List α}{B:(Int->Option (Sum Unit O))->Int->Option (Sum Unit O)}(p:α->Bool)(g:α->O)(i:a.length<=lim)
  (j:∀k (h:k < a.length),∀b,B b (k:Int)=cond (p a[k]) (some<|.inr<|g a[k]) (b ((k+1:Nat):Int))) (l:∀b,B b (a.length:Int)=some (.inl ())):
  Aq B fz 0=some (match a.find? p with|some e=>.inr (g e)|none=>.inl ()):=by
 have f:∀d k,k+d=a.length->∀m,d < m->Aq B m (k:Int)=some (match(a.drop k).find? p with|some e=>.inr (g e)|none=>.inl ()):=by
  intro d;induction d with
  |zero=>
   intro k h m n;cases m with
   |zero=>omega
   |succ m=>show B (Aq B m) (k:Int)=_;rw[show k=a.length by omega,l,CJ];rfl
  |succ d o=>
   intro k h m n;cases m with
   |zero=>omega
   |succ m=>
    have c:k < a.length:=by omega
    show B (Aq B m) (k:Int)=_;rw[j k c,AS c,List.find?_cons];cases q:p a[k]with
    |true=>rfl
    |false=>exact o (k+1) (by omega) m (by omega)
 have:=f a.length 0 (by omega) fz<|EC i;simpa using this
def vw{r:Int×List zI}(h:Jw r.2):Sq r=some r:=by unfold Sq;rw[Jo (a:=r.2) (h:=id) h.1 (λk b c=>by have d:=h.2 _<|Aj b;unfold Ug;simp only;rw[Bc b,AG b,Bm b (Ba h.1)];simp only[Ab,G];rw[Aw (by simpa using d),Aw (by simp only[Am,Av,Af];unfold lim at *;have:=h.1;unfold lim at this;omega)];simp) (λrec y=>by unfold Ug;simp only;rw[A2];rfl)];simp[G]
def pi{l}(h:l.length<=lim):Hw l=some l:=by unfold Hw;rw[Aw (by simpa using h)];simp
def pj{l:List zI}(h:Jw l):Pf l=some l:=by unfold Pf;rw[Jo (a:=l) (h:=id) h.1 (λk b c=>by have d:=h.2 _<|Aj b;unfold Rz;simp only;rw[Bc b,AG b,Bm b (Ba h.1)];simp only[Ab,G,pi d];rw[Aw (by simp only[Am,Av,Af];unfold lim at *;have:=h.1;unfold lim at this;omega)];simp) (λrec y=>by unfold Rz;simp only;rw[A2];rfl)];simp[G]
def Aa7{r}(h:Jw r.2):ND r=some r:=by unfold ND;simp[pj h,G]
def HN(d:List Tp)(a:zU):(Int×List zI)×Bool:=if dbB d=true then(match d.find? (λt=>t.1==a)with|some t=>(t.2,true)|none=>((0,[]),false))else((0,[]),false)
def vE{d}(h:Up d)(b:zU):IA d b=some (HN d b):=by
 unfold IA HN;cases e:dbB d with
 |true=>rw[gg (a:=d) (λt=>t.1==b) (λt=>(t.2,true)) h.1 (λk c f=>by have g:=h.2 _<|Aj c;unfold FA;rw[Bc c,AG c,Bm c (Ba h.1),Ad8 h,e];simp only[Ab,G,vw g.2]) (λrec=>by unfold FA;rw[A2];rfl)];simp only[G,EL];cases d.find? (λt=>t.1==b)<;>rfl
 |false=>
  have:Aq (FA d b) fz 0=some (.inl ()):=by refine DQ (body:=FA d b) (λ_=>0) 0 (λk c=>absurd c<|by omega) (λrec=>?_) fz (by unfold fz;omega);unfold FA;rw[Ad8 h,e];cases decide ((0:Int) < (d.length:Int))<;>rfl
  rw[this];rfl
def tO{d}(h:Up d)(b:zU):It d b=some (HN d b):=by
 unfold It IJ HN;simp only[AfJ h,G];cases g:dbB d with
 |true=>rw[gg (a:=d) (λt=>t.1==b) (λt=>(t.2,true)) h.1 (λk c e=>by have f:=h.2 _<|Aj c;unfold Mu;rw[Bc c,AG c,Bm c (Ba h.1)];simp only[Ab,G,Aa7 f.2]) (λrec=>by unfold Mu;rw[A2];rfl)];simp only[Ab,EL];cases d.find? (λt=>t.1==b)<;>rfl
 |false=>rfl
def KG(l:zI)(k:Nat)(e:Int):Bool:=decide (0 < k)&&I0 l (k - 1) λq=>decide (e<=q)
def A6{S O:Type}(body:(S->Option O)->S->Option O)(n:Nat)(s:S):Aq body (n+1) s=body (Aq body n) s:=rfl
def Vi(l:zI)(a:Int->zS)(i:Int):zS:=if i=0 then(if l.length=0 then some (.inl ())else a 1)else Cb l a i
def AfE{l}(h:l.length<=lim):Ht l=some (!BL l (KG l)):=by
 unfold Ht BL
 have hB:Aq (Cb l) fz 1=some (cond ((List.range l.length).any λk=>I0 l k<|KG l k) (.inr false)<|.inl ()):=by
  have h0:=cY (M:=fz+1) (B:=Vi l) (λk=>I0 l k (KG l k)) (Nat.lt_succ_of_lt (EC h)) (λk hk rec=>by
   by_cases hz:k=0
   ·subst hz;rw[Cx hk];unfold Vi;rw[At (show((0:Nat):Int)=0 from rfl),As (by omega)];simp[KG]
   ·have hk':k - 1 < l.length:=by omega
    have hz':¬((k:Int)=0):=by omega
    unfold Vi;rw[As hz'];unfold Cb;rw[Bc hk,AG hk,Bm hk (Ba h),fB hk (by omega) (Ba h),AG hk',Cx hk];simp only[Ab,G,KG];rw[Cx hk',Ae (by omega:0 < k)];simp only[AK]) (λrec=>by
   by_cases hz:l.length=0
   ·unfold Vi;rw[hz];rfl
   ·have hz':¬((l.length:Int)=0):=by omega
    unfold Vi;rw[As hz'];unfold Cb;rw[A2];rfl)
  have same:∀m (k:Nat),0 < k->Aq (Vi l) m (k:Int)=Aq (Cb l) m (k:Int):=by
   intro m;induction m with
   |zero=>intro k _;rfl
   |succ m ih=>
    intro k hk;have hz:¬((k:Int)=0):=by omega
    have ea:∀rec,Vi l rec (k:Int)=Cb l rec (k:Int):=λrec=>by unfold Vi;rw[As hz]
    show Vi l (Aq (Vi l) m) (k:Int)=Cb l (Aq (Cb l) m) (k:Int);rw[ea];have e:∀rec,Cb l rec (k:Int)=cond (decide ((k:Int) < (l.length:Int))) (G (AF l<|wZ<|(k:Int) - 1) λe5=>G (AF l (k:Int)) λe7=>cond (decide (e7<=e5)) (some<|.inr false)<|rec<|wZ<|(k:Int)+1) (some<|.inl ()):=λrec=>rfl
    rw[e,e];by_cases q:k < l.length
    ·rw[Bm q (Ba h),ih (k+1) (by omega)]
    ·rw[Ac (by omega:¬(k:Int) < (l.length:Int))];rfl
  by_cases hz:l.length=0
  ·have e1:(List.range l.length).any (λk=>I0 l k<|KG l k)=false:=by rw[hz];rfl
   rw[e1];refine DQ (body:=Cb l) (λ_=>1) 0 (λk hk=>absurd hk<|by omega) (λrec=>?_) fz (by unfold fz;omega);unfold Cb;rw[hz];rfl
  ·have h2:Aq (Vi l) (fz+1) 0=Aq (Cb l) fz ((1:Nat):Int):=by
    have e0:∀rec,Vi l rec 0=rec 1:=λrec=>by unfold Vi;rw[At rfl,As hz]
    rw[A6,e0];exact same fz 1 (by omega)
   rw[h2]at h0;exact h0
 rw[hB];cases(List.range l.length).any λk=>I0 l k (KG l k)<;>rfl
end
end Go.Proofs.YtpnoalhfjnjeaaaGreatDoor
