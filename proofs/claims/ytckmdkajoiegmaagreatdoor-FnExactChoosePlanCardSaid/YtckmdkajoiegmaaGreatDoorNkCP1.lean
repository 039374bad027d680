/-
  Functions of the program as typed functions, printed by gen.py, and that the program's functions do what they say. No conditions.
-/
import Derived.Test.YtckmdkajoiegmaaGreatDoorGScCP1
import Derived.Test.YtckmdkajoiegmaaGreatDoorKb
import Derived.Test.YtckmdkajoiegmaaGreatDoorKe
open Go.RowKit
set_option linter.unusedVariables false
set_option linter.unusedSimpArgs false
namespace Go.Proofs.YtckmdkajoiegmaaGreatDoor
set_option maxRecDepth 100000
set_option maxHeartbeats 1000000
def NT(a:Dt)(b:Int)(c:((List AP)×Int)->Option ((List AP)))(d:(List AP)×Int):Option ((List AP)):=match d with
  |(e,f)=>cond (decide (f < (List.length a.2.1:Int))) (Aa (A4 a.2.1 f) λg=>Aa (CO g b) λi=>Aa (OV i) λj=>chk (List.length e+List.length [(j,1)]<=lim) (c ((e++[(j,1)]),(IntKind.i64.wrap (f+1))))) (some e)
def Jt(a:Dt)(b:List Int)(c:((List (List AP))×(List AP)×Int)->Option ((List (List AP))×(List AP)))(d:(List (List AP))×(List AP)×Int):Option ((List (List AP))×(List AP)):=match d with
  |(e,f,g)=>cond (decide (g < (List.length b:Int))) (Aa (A4 b g) λi=>Aa (Aq (NT a i) fz (([]:List AP),0)) λj=>chk (List.length e+List.length [j]<=lim) (chk (List.length f+List.length [(1,1)]<=lim) (c ((e++[j]),(f++[(1,1)]),(IntKind.i64.wrap (g+1)))))) (some (e,f))
def NU(a:Dt)(b:((List AP)×Int)->Option ((List AP)))(c:(List AP)×Int):Option ((List AP)):=match c with
  |(d,e)=>cond (decide (e < (List.length a.2.1:Int))) (chk (List.length d+List.length [(1,1)]<=lim) (b ((d++[(1,1)]),(IntKind.i64.wrap (e+1))))) (some d)
def Mw(a:Dt)(b:List Int):Option (Gw):=Aa (Aq (Jt a b) fz (([]:List (List AP)),([]:List AP),0)) λc=>(match c with
  |(d,e)=>(Aa (Aq (NU a) fz (([]:List AP),0)) λf=>some (d,e,f)))
theorem RK{a:Dt}{b:List Int}{c:Gw}(h:Mw a b=some c):AI Tryz.prog 146 [.agg (CA a),dL Am b] (.agg (Qh c)):=st sK E (rn 2 E (Ap λd e=>rn 1 E (EO h λf g i=>have j:∀{k:List (List AP)}{l:List AP},(k,l)=f->Jn d [(2,.box [nI a.1,dL Br a.2.1,dL Am a.2.2]),(4,.box [oL 52 BI [],oL 71 AF [],oL 71 AF []]),(5,.box [oL 52 BI k,oL 71 AF l,oL 71 AF []])]:=@λk l h _ m=>have h:=i h;e _ (lh m E (Ap λn o=>rn 1 E (EO h λp g q=>have r:∀{s:List AP},s=p->Jn n [(4,.box [oL 52 BI [],oL 71 AF [],oL 71 AF []]),(5,.box [oL 52 BI k,oL 71 AF l,oL 71 AF s])]:=@λs h _ m=>have h:=q h;o _ (lh m E (rn 1 E (sj h ▸ Ag rZ)));(Bc (λ(t:(List AP)×Int)=>match t with|(u,v)=>[(4,.box [oL 52 BI [],oL 71 AF [],oL 71 AF []]),(5,.box [oL 52 BI k,oL 71 AF l,oL 71 AF u]),(48,nI (List.length a.2.1:Int)),(49,nI v)]) _ _ _ _ g (A0 E) (λ_=>E) (λw=>Kg λu v x h y=>rn 1 E (C9 λz=>B7 h E (λh=>Cf z (C9 λA=>Ba (rg (sp 3 E (GK AF [(1,1)] E E E B8 (FQ h λB h=>qA AF u [(1,1)] E E (Bv B8 [(1,1)]) E B (AW 2 E (A _ (rg (AW 2 E (y _ _ h (A0 E)))))))))))) λh=>AE (r (sj h) _ (A0 E))))))));(Bc (λ(t:(List (List AP))×(List AP)×Int)=>match t with|(C,D,F)=>[(2,.box [nI a.1,dL Br a.2.1,dL Am a.2.2]),(4,.box [oL 52 BI [],oL 71 AF [],oL 71 AF []]),(5,.box [oL 52 BI C,oL 71 AF D,oL 71 AF []]),(11,dL Am b),(12,nI (List.length b:Int)),(13,nI F)]) _ _ _ _ g (A0 E) (λ_=>E) (λw=>pr3 λC D F x h y=>rn 1 E (C9 λH=>B7 h E (λh=>Cf H (C9 λI=>Ba (rs (Bf h λJ K h=>qI E BT K (AW 2 E (rn 1 E (Ap λL M=>rn 1 E (EO h λN g O=>have P:∀{Q:List AP},Q=N->Jn L [(2,.box [nI a.1,dL Br a.2.1,dL Am a.2.2]),(4,.box [oL 52 BI [],oL 71 AF [],oL 71 AF []]),(5,.box [oL 52 BI C,oL 71 AF D,oL 71 AF []]),(8,oL 71 AF Q),(11,dL Am b),(12,nI (List.length b:Int)),(13,nI F)]:=@λQ h _ m=>have h:=O h;M _ (lh m E (rs (sp 3 E (GK BI [Q] E E E DF (FQ h λR h=>qA BI C [Q] E E (Bv DF [Q]) E R (AW 2 E (rg (sp 3 E (GK AF [(1,1)] E E E B8 (FQ h λS h=>qA AF D [(1,1)] E E (Bv B8 [(1,1)]) E S (AW 2 E (I _ (rg (AW 2 E (y _ _ h (A0 E))))))))))))))));(Bc (λ(t:(List AP)×Int)=>match t with|(T,U)=>[(2,.box [nI a.1,dL Br a.2.1,dL Am a.2.2]),(4,.box [oL 52 BI [],oL 71 AF [],oL 71 AF []]),(5,.box [oL 52 BI C,oL 71 AF D,oL 71 AF []]),(7,nI J),(8,oL 71 AF T),(11,dL Am b),(12,nI (List.length b:Int)),(13,nI F),(18,dL Br a.2.1),(19,nI (List.length a.2.1:Int)),(20,nI U)]) _ _ _ _ g (A0 E) (λ_=>E) (λw=>Kg λT U x h y=>rn 1 E (C9 λV=>B7 h E (λh=>Cf V (C9 λW=>Ba (rs (Bf h λX Y h=>qI E F6 Y (AW 3 E (rg (sp 3 E (Bf h λZ c h=>qC (qa E (C4 (A3 E (A3 (BW AM _) E))) (qs E AX)) (Eo c) (Bf h λd f h=>qC (qs E AX) (Tp f) (sp 1 E (GK AF [(d,1)] E E E B8 (FQ h λe h=>qA AF T [(d,1)] E E (Bv B8 [(d,1)]) E e (AW 1 E (W _ (rg (AW 2 E (y _ _ h (A0 E)))))))))))))))))) λh=>AE (P (sj h) _ (A0 E))))))))))))) λh=>AE (j (sj h) _ (A0 E))))))))
def I7(a:Dt)(b:List Int):Option (AP×Bool):=Aa (CI a) λc=>cond (!c) (some ((0,0),false)) (Aa (OW a b) λd=>cond (!d) (some ((0,0),false)) (Aa (Mw a b) λe=>Aa (Lq e) λf=>some (f.2.1,f.2.2)))
theorem RH{a:Dt}{b:List Int}{c:AP×Bool}(h:I7 a b=some c):AI Tryz.prog 145 [.agg (CA a),dL Am b] (.tup [.agg (AF c.1),.bool c.2]):=st sJ E (rn 1 E (C9 λd=>rs (sp 1 E (Bf h λe f h=>qC (qa E (C4 (A3 E (A3 (BW BX _) (A3 (BW AM _) E)))) AX) (CZ f) (sp 2 E (EY h (λg h=>qg 12 g E (AW 5 E (qT E E (rn 1 E (sj h ▸ Ag rZ))))) λg h=>qg 12 g E (sp 2 E (Bf h λi j h=>FD E E (qC (qa E (C4 (A3 E (A3 (BW BX _) (A3 (BW AM _) E)))) (qa E (BW AM _) AX)) (T4 j) (AW 2 E (B7 h E (λh=>rn 1 E (sj h ▸ Ag rZ)) λh=>Cf d (qk [1,2,4] E (rs (sp 2 E (Bf h λk l h=>qC (qa E (C4 (A3 E (A3 (BW BX _) (A3 (BW AM _) E)))) (qa E (BW AM _) AX)) (RK l) (Bf h λm n h=>qC (qa E (C4 (A3 (UZ W7 _) (A3 (UZ Dp _) (A3 (UZ Dp _) E)))) AX) (Q0 n) (AW 8 E (rn 1 E (sj h ▸ Ag rZ)))))))))))))))))))
def Fw(a:(Int×Int×Int)->Option (Int×Int))(b:Int)(c:Int)(d:Int):Option (Int×Int):=a (c,d,(IntKind.i64.wrap (b+1)))
def Fv(a:(Int×Int×Int)->Option (Int×Int))(b:Int)(c:Int)(d:Int)(e:AP×Bool)(f:Bool):Option (Int×Int):=cond f (Fw a d e.1.1 e.1.2) (Fw a d b c)
def DQ(a:Dt)(b:Qa)(c:(Int×Int×Int)->Option (Int×Int))(d:Int×Int×Int):Option (Int×Int):=match d with
  |(e,f,g)=>cond (decide (g < (List.length b.1:Int))) (Aa (A4 b.1 g) λi=>Aa (I7 a i) λj=>cond (g==0) (Fv c e f g j true) (Aa (DI j.1 (e,f)) λk=>Fv c e f g j (decide (0 < k)))) (some (e,f))
def Gj(a:Dt)(b:Qa):Option (AP×Bool):=Aa (FL a b) λc=>cond (!c) (some ((0,0),false)) (Aa (Aq (DQ a b) fz (0,0,0)) λd=>(match d with
  |(e,f)=>(some ((e,f),true))))
theorem Pp{a:Dt}{b:Qa}{c:AP×Bool}(h:Gj a b=some c):AI Tryz.prog 87 [.agg (CA a),.agg (Sh b)] (.tup [.agg (AF c.1),.bool c.2]):=st xp E (rn 1 E (C9 λd=>rs (sp 2 E (Bf h λe f h=>qC (qa E (C4 (A3 E (A3 (BW BX _) (A3 (BW AM _) E)))) (qa E (C4 (A3 (BW RA _) (A3 (BW AM _) E))) AX)) (Oc f) (AW 1 E (B7 h E (λh=>rn 1 E (sj h ▸ Ag rZ)) λh=>Cf d (rn 1 E (Ap λg i=>rn 1 E (EO h λj k l=>have m:∀{n:Int}{o:Int},(n,o)=j->Jn g [(4,.box [nI 0,nI 0]),(6,.box [nI n,nI o])]:=@λn o h _ p=>have h:=l h;i _ (lh p E (rn 1 E (sj h ▸ Ag rZ)));(Bc (λ(q:Int×Int×Int)=>match q with|(r,s,t)=>[(2,.box [nI a.1,dL Br a.2.1,dL Am a.2.2]),(4,.box [nI 0,nI 0]),(6,.box [nI r,nI s]),(17,dL FW b.1),(18,nI (List.length b.1:Int)),(19,nI t)]) _ _ _ _ k (A0 E) (λ_=>E) (λu=>pr3 λr s t v h w=>rn 1 E (C9 λx=>B7 h E (λh=>Cf x (Ap λy z=>Ba (rs (sp 1 E (Bf h λA B h=>qI E Sa B (AW 3 E (rs (sp 2 E (Bf h λC D h=>qC (qa E (C4 (A3 E (A3 (BW BX _) (A3 (BW AM _) E)))) (qa E (BW AM _) AX)) (RH D) (AW 6 E (rk λF H=>have I:∀{J:Bool},Fv (Aq (DQ a b) u) r s t C J=some j->Jn F [(2,.box [nI a.1,dL Br a.2.1,dL Am a.2.2]),(4,.box [nI 0,nI 0]),(6,.box [nI r,nI s]),(9,.box [nI C.1.1,nI C.1.2]),(17,dL FW b.1),(18,nI (List.length b.1:Int)),(19,nI t),(37,.bool J)]:=@λJ h _ p=>H _ (lh p E (have K:∀{L:Int}{M:Int},Fw (Aq (DQ a b) u) t L M=some j->Jn y [(2,.box [nI a.1,dL Br a.2.1,dL Am a.2.2]),(4,.box [nI 0,nI 0]),(6,.box [nI L,nI M]),(17,dL FW b.1),(18,nI (List.length b.1:Int)),(19,nI t)]:=@λL M h _ p=>z _ (lh p E (rg (AW 2 E (w _ _ h (A0 E)))));(B7 h E (λh=>rg (AW 2 E (K h _ (A0 E)))) λh=>Dd (K h _ (A0 E)))));(sp 3 E (EY h (λN h=>qg 32 N E (AW 5 E (I h _ (A0 E)))) λN h=>qg 32 N E (sp 2 E (Bf h λO P h=>FD E E (qC (qa E (C4 (A3 E (A3 E E))) (qa E (C4 (A3 E (A3 E E))) AX)) (Fe P) (AW 2 E (I h _ (A0 E))))))))))))))))))) λh=>AE (m (sj h) _ (A0 E))))))))))))))
def FK(a:((List (List Int))×(List Int)×Int×Int×Bool×Int)->Option ((List (List Int))×(List Int)×Int×Int×Bool))(b:Int)(c:List (List Int))(d:List Int)(e:Int)(f:Int)(g:Bool):Option ((List (List Int))×(List Int)×Int×Int×Bool):=a (c,d,e,f,g,(IntKind.i64.wrap (b+1)))
def FJ(a:((List (List Int))×(List Int)×Int×Int×Bool×Int)->Option ((List (List Int))×(List Int)×Int×Int×Bool))(b:List (List Int))(c:List Int)(d:Int)(e:Int)(f:Bool)(g:Int)(i:Qa×Bool)(j:AP×Bool)(k:Bool):Option ((List (List Int))×(List Int)×Int×Int×Bool):=cond k (FK a g i.1.1 i.1.2 j.1.1 j.1.2 true) (FK a g b c d e f)
def D5(a:Dt)(b:(List (List Int)))(c:((List (List Int))×(List Int)×Int×Int×Bool×Int)->Option ((List (List Int))×(List Int)×Int×Int×Bool))(d:(List (List Int))×(List Int)×Int×Int×Bool×Int):Option ((List (List Int))×(List Int)×Int×Int×Bool):=match d with
  |(e,f,g,i,j,k)=>cond (decide (k < (List.length b:Int))) (Aa (A4 b k) λl=>Aa (Fo a l) λm=>Aa (Gj a m.1) λn=>cond (!j) (FJ c e f g i j k m n true) (Aa (DI n.1 (g,i)) λo=>FJ c e f g i j k m n (decide (o < 0)))) (some (e,f,g,i,j))
def GQ(a:Dt):Option (Qa×AP×Bool):=Aa (Ms a) λb=>Aa (Aq (D5 a b) fz (([]:List (List Int)),([]:List Int),0,0,false,0)) λc=>(match c with
  |(d,e,f,g,i)=>(some ((d,e),(f,g),i)))
theorem PV{a:Dt}{b:Qa×AP×Bool}(h:GQ a=some b):AI Tryz.prog 37 [.agg (CA a)] (.tup [.agg (Hv b.1),.agg (AF b.2.1),.bool b.2.2]):=st wN E (rn 4 E (Ap λc d=>rs (sp 1 E (Bf h λe f h=>qC (qa E (C4 (A3 E (A3 (BW BX _) (A3 (BW AM _) E)))) AX) (Vc f) (AW 2 E (EO h λg i j=>have k:∀{l:List (List Int)}{m:List Int}{n:Int}{o:Int}{p:Bool},(l,m,n,o,p)=g->Jn c [(2,.box [oL 23 Bj [],oL 3 Am []]),(3,.box [nI 0,nI 0]),(5,.box [oL 23 Bj l,oL 3 Am m]),(6,.box [nI n,nI o]),(7,.bool p)]:=@λl m n o p h _ q=>have h:=j h;d _ (lh q E (rd (by kernel_rfl) (sd 6 E (Es (sj h ▸ Ag rZ)))));(Bc (λ(r:(List (List Int))×(List Int)×Int×Int×Bool×Int)=>match r with|(s,t,u,v,w,x)=>[(1,.box [nI a.1,dL Br a.2.1,dL Am a.2.2]),(2,.box [oL 23 Bj [],oL 3 Am []]),(3,.box [nI 0,nI 0]),(5,.box [oL 23 Bj s,oL 3 Am t]),(6,.box [nI u,nI v]),(7,.bool w),(15,oL 23 Bj e),(16,nI (List.length e:Int)),(17,nI x)]) _ _ _ _ i (A0 E) (λ_=>E) (λy=>pr6 λs t u v w x z h A=>rn 1 E (C9 λB=>B7 h E (λh=>Cf B (Ap λC D=>Ba (rs (Bf h λF H h=>qI E Gi H (AW 2 E (rs (sp 2 E (Bf h λI J h=>qC (qa E (C4 (A3 E (A3 (BW BX _) (A3 (BW AM _) E)))) (qa E (BW AM _) AX)) (Nx J) (AW 6 E (rs (sp 2 E (Bf h λK L h=>qC (qa E (C4 (A3 E (A3 (BW BX _) (A3 (BW AM _) E)))) (qa E (C4 (A3 (BW PT _) (A3 (BW AM _) E))) AX)) (Pp L) (AW 6 E (rk λM N=>have O:∀{P:Bool},FJ (Aq (D5 a e) y) s t u v w x I K P=some g->Jn M [(1,.box [nI a.1,dL Br a.2.1,dL Am a.2.2]),(2,.box [oL 23 Bj [],oL 3 Am []]),(3,.box [nI 0,nI 0]),(5,.box [oL 23 Bj s,oL 3 Am t]),(6,.box [nI u,nI v]),(7,.bool w),(10,.box [oL 23 Bj I.1.1,oL 3 Am I.1.2]),(12,.box [nI K.1.1,nI K.1.2]),(15,oL 23 Bj e),(16,nI (List.length e:Int)),(17,nI x),(40,.bool P)]:=@λP h _ q=>N _ (lh q E (have Q:∀{R:List (List Int)}{S:List Int}{T:Int}{U:Int}{V:Bool},FK (Aq (D5 a e) y) x R S T U V=some g->Jn C [(1,.box [nI a.1,dL Br a.2.1,dL Am a.2.2]),(2,.box [oL 23 Bj [],oL 3 Am []]),(3,.box [nI 0,nI 0]),(5,.box [oL 23 Bj R,oL 3 Am S]),(6,.box [nI T,nI U]),(7,.bool V),(15,oL 23 Bj e),(16,nI (List.length e:Int)),(17,nI x)]:=@λR S T U V h _ q=>D _ (lh q E (rg (AW 2 E (A _ _ h (A0 E)))));(B7 h E (λh=>rgd (by kernel_rfl) (sd 5 E (Es (Q h _ (A0 E))))) λh=>Dd (Q h _ (A0 E)))));(sp 3 E (EY h (λW h=>qg 35 W E (AW 5 E (O h _ (A0 E)))) λW h=>qg 35 W E (sp 2 E (Bf h λX Y h=>FD E E (qC (qa E (C4 (A3 E (A3 E E))) (qa E (C4 (A3 E (A3 E E))) AX)) (Fe Y) (AW 2 E (O h _ (A0 E)))))))))))))))))))))) λh=>AE (k (sj h) _ (A0 E)))))))))))
def Ny(a:Dt)(b:((List Int)×Int)->Option ((List Int)))(c:(List Int)×Int):Option ((List Int)):=match c with
  |(d,e)=>cond (decide (e < a.1)) (chk (List.length d+List.length [e]<=lim) (b ((d++[e]),(IntKind.i64.wrap (e+1))))) (some d)
def JU(a:Dt):Option ((List Int)):=Aa (CI a) λb=>cond (!b) (some ([]:List Int)) (Aa (Aq (Ny a) fz (([]:List Int),0)) λc=>some c)
theorem SO{a:Dt}{b:(List Int)}(h:JU a=some b):AI Tryz.prog 147 [.agg (CA a)] (oL 3 Am b):=st sL E (rn 1 E (C9 λc=>rs (sp 1 E (Bf h λd e h=>qC (qa E (C4 (A3 E (A3 (BW BX _) (A3 (BW AM _) E)))) AX) (CZ e) (AW 1 E (B7 h E (λh=>rn 1 E (sj h ▸ Ag rZ)) λh=>Cf c (rn 1 E (Ap λf g=>rn 1 E (EO h λi j k=>have l:∀{m:List Int},m=i->Jn f [(3,oL 3 Am m)]:=@λm h _ n=>have h:=k h;g _ (lh n E (rn 1 E (sj h ▸ Ag rZ)));(Bc (λ(o:(List Int)×Int)=>match o with|(p,q)=>[(1,.box [nI a.1,dL Br a.2.1,dL Am a.2.2]),(3,oL 3 Am p),(4,nI q)]) _ _ _ _ j (A0 E) (λ_=>E) (λr=>Kg λp q s h t=>EZ E λu=>B7 h E (λh=>Cf u (C9 λv=>Ba (rg (sp 2 E (GK Am [q] E E E BT (FQ h λw h=>qA Am p [q] E E (Bv BT [q]) E w (AW 1 E (v _ (rg (AW 3 E (t _ _ h (A0 E)))))))))))) λh=>AE (l (sj h) _ (A0 E)))))))))))))
def JT(a:Dt):Option (Gw×Bool):=Aa (CI a) λb=>cond (!b) (some (([],[],[]),false)) (Aa (JU a) λc=>Aa (Mw a c) λd=>some (d,true))
theorem SN{a:Dt}{b:Gw×Bool}(h:JT a=some b):AI Tryz.prog 88 [.agg (CA a)] (.tup [.agg (Qh b.1),.bool b.2]):=st xq E (rn 1 E (C9 λc=>rs (sp 1 E (Bf h λd e h=>qC (qa E (C4 (A3 E (A3 (BW BX _) (A3 (BW AM _) E)))) AX) (CZ e) (AW 1 E (B7 h E (λh=>rn 1 E (sj h ▸ Ag rZ)) λh=>Cf c (rd (by kernel_rfl) (sd 2 E (Bf h λf g h=>ed E (qC (qa E (C4 (A3 E (A3 (BW BX _) (A3 (BW AM _) E)))) AX) (SO g) (Bf h λi j h=>ed E (qC (qa E (C4 (A3 E (A3 (BW BX _) (A3 (BW AM _) E)))) (qa E (UZ AM _) AX)) (RK j) (sd 2 E (Es (sj h ▸ Ag rZ)))))))))))))))
def JZ(a:Dt):Option ((List AP)×AP×Bool):=Aa (JT a) λb=>Aa (Lq b.1) λc=>some (c.1,c.2.1,c.2.2)
theorem SQ{a:Dt}{b:(List AP)×AP×Bool}(h:JZ a=some b):AI Tryz.prog 38 [.agg (CA a)] (.tup [dL AF b.1,.agg (AF b.2.1),.bool b.2.2]):=st wO E (rn 1 E (rs (sp 1 E (Bf h λc d h=>qC (qa E (C4 (A3 E (A3 (BW BX _) (A3 (BW AM _) E)))) AX) (SN d) (AW 6 E (rs (sp 1 E (Bf h λe f h=>qC (qa E (C4 (A3 (BW W7 _) (A3 (BW Dp _) (A3 (BW Dp _) E)))) AX) (Q0 f) (AW 6 E (sj h ▸ Ag rZ))))))))))
def He(a:Int)(b:List Int)(c:Dt):Option (Int):=Aa (Km c a) λd=>Aa (Md d b) λe=>Aa (OV (decide (0 < (List.length e:Int)))) λf=>some f
theorem Nz{a:Value}{b:Int}{c:List Int}{d:Dt}{e:Int}(h:He b c d=some e):Qd Tryz.prog 92 [a] [(FX d)] [nI b,dL Am c] [(FX d)] (nI e):=stv xv E (.inr E) (qk [0,1,2,910002] E (rn 1 E (rs (sp 2 E (Bf h λf g h=>qC (qa E (C4 (A3 E (A3 (N4 Nl _) (A3 (N4 AM _) E)))) (qs E AX)) (Qk g) (sp 1 E (Bf h λi j h=>qC (qa E (UZ AM _) (qa E (BW AM _) AX)) (PX j) (sp 2 E (Bf h λk l h=>qC (qs E AX) (Tp l) (AW 1 E (sj h ▸ Ag ⟨.inl E,E,E⟩)))))))))))
def FI(a:((List Int)×Int)->Option ((List Int)))(b:Int)(c:List Int):Option ((List Int)):=a (c,(IntKind.i64.wrap (b+1)))
def EJ(a:Dt)(b:Int)(c:((List Int)×Int)->Option ((List Int)))(d:(List Int)×Int):Option ((List Int)):=match d with
  |(e,f)=>cond (decide (f < (List.length a.2.1:Int))) (Aa (A4 a.2.1 f) λg=>Aa (CO g b) λi=>cond i (chk (List.length e+List.length [f]<=lim) (FI c f (e++[f]))) (FI c f e)) (some e)
def Fu(a:Dt)(b:Int):Option ((List Int)):=Aa (CI a) λc=>cond (!c) (some ([]:List Int)) (Aa (Aq (EJ a b) fz (([]:List Int),0)) λd=>some d)
theorem Lp{a:Dt}{b:Int}{c:(List Int)}(h:Fu a b=some c):AI Tryz.prog 97 [.agg (CA a),nI b] (oL 3 Am c):=st xA E (rn 1 E (C9 λd=>rs (sp 1 E (Bf h λe f h=>qC (qa E (C4 (A3 E (A3 (BW BX _) (A3 (BW AM _) E)))) AX) (CZ f) (AW 1 E (B7 h E (λh=>rn 1 E (sj h ▸ Ag rZ)) λh=>Cf d (rn 1 E (Ap λg i=>rn 1 E (EO h λj k l=>have m:∀{n:List Int},n=j->Jn g [(5,oL 3 Am n)]:=@λn h _ o=>have h:=l h;i _ (lh o E (rn 1 E (sj h ▸ Ag rZ)));(Bc (λ(p:(List Int)×Int)=>match p with|(q,r)=>[(1,nI b),(5,oL 3 Am q),(12,dL Br a.2.1),(13,nI (List.length a.2.1:Int)),(14,nI r)]) _ _ _ _ k (A0 E) (λ_=>E) (λs=>Kg λq r t h u=>rn 1 E (C9 λv=>B7 h E (λh=>Cf v (Ap λw x=>Ba (rs (sp 1 E (Bf h λy z h=>qI E F6 z (AW 4 E (rs (sp 2 E (Bf h λA B h=>qC (qa E (C4 (A3 E (A3 (BW AM _) E))) (qs E AX)) (Eo B) (Qx (have C:∀{D:List Int},FI (Aq (EJ a b) s) r D=some j->Jn w [(1,nI b),(5,oL 3 Am D),(12,dL Br a.2.1),(13,nI (List.length a.2.1:Int)),(14,nI r)]:=@λD h _ o=>x _ (lh o E (rg (AW 2 E (u _ _ h (A0 E)))));(B7 h E (λh=>rg (sp 2 E (GK Am [r] E E E BT (FQ h λF h=>qA Am q [r] E E (Bv BT [r]) E F (AW 1 E (C h _ (A0 E))))))) λh=>Dd (C h _ (A0 E)))))))))))))) λh=>AE (m (sj h) _ (A0 E))))))))))))))
def Hy(a:(Int×Int)->Option (Int))(b:Int)(c:Int):Option (Int):=a (c,(IntKind.i64.wrap (b+1)))
def Hx(a:(Int×Int)->Option (Int))(b:List Int)(c:Int)(d:Int)(e:Int)(f:Bool):Option (Int):=cond f (Aa (A4 b e) λg=>Hy a d g) (Hy a d c)
def E0(a:List Int)(b:(List Int))(c:(Int×Int)->Option (Int))(d:Int×Int):Option (Int):=match d with
  |(e,f)=>cond (decide (f < (List.length b:Int))) (Aa (A4 b f) λg=>cond (f==0) (Hx c a e f g true) (Aa (A4 a g) λi=>Hx c a e f g (decide (i < e)))) (some e)
def Hf(a:Int)(b:Dt)(c:List Int):Option (Int):=Aa (Fu b a) λd=>Aa (Aq (E0 c d) fz (0,0)) λe=>some e
theorem NA{a b:Value}{c:Int}{d:Dt}{e:List Int}{f:Int}(h:Hf c d e=some f):Qd Tryz.prog 96 [a,b] [(FX d),[aL Am e]] [nI c] [(FX d),[aL Am e]] (nI f):=stv xz E (.inr E) (qk [0,1,2,910001,910002] E (rn 2 E (Ap λg i=>rs (sp 2 E (Bf h λj k h=>qC (qa E (C4 (A3 E (A3 (N4 Nl _) (A3 (N4 AM _) E)))) (qs E AX)) (Lp k) (AW 2 E (EO h λl m n=>have o:∀{p:Int},p=l->Jn g [(1,.box (FX d)),(2,.box [aL Am e]),(5,nI p),(910001,.val 1 a),(910002,.val 2 b)]:=@λp h _ q=>have h:=n h;i _ (lh q E (rn 1 E (sj h ▸ Ag ⟨.inl E,E,E⟩)));(Bc (λ(r:Int×Int)=>match r with|(s,t)=>[(1,.box (FX d)),(2,.box [aL Am e]),(5,nI s),(10,oL 3 Am j),(11,nI (List.length j:Int)),(12,nI t),(910001,.val 1 a),(910002,.val 2 b)]) _ _ _ _ m (A0 E) (λ_=>E) (λu=>Kg λs t v h w=>rn 1 E (C9 λx=>B7 h E (λh=>Cf x (Ap λy z=>Ba (rs (sp 1 E (Bf h λA B h=>qI E BT B (AW 3 E (rk λC D=>have F:∀{H:Bool},Hx (Aq (E0 e j) u) e s t A H=some l->Jn C [(1,.box (FX d)),(2,.box [aL Am e]),(5,nI s),(7,nI A),(10,oL 3 Am j),(11,nI (List.length j:Int)),(12,nI t),(26,.bool H),(910001,.val 1 a),(910002,.val 2 b)]:=@λH h _ q=>D _ (lh q E (have I:∀{J:Int},Hy (Aq (E0 e j) u) t J=some l->Jn y [(1,.box (FX d)),(2,.box [aL Am e]),(5,nI J),(10,oL 3 Am j),(11,nI (List.length j:Int)),(12,nI t),(910001,.val 1 a),(910002,.val 2 b)]:=@λJ h _ q=>z _ (lh q E (rg (AW 2 E (w _ _ h (A0 E)))));(B7 h E (λh=>rg (sp 2 E (Bf h λK L h=>qI E BT L (AW 2 E (I h _ (A0 E)))))) λh=>Dd (I h _ (A0 E)))));(sp 3 E (EY h (λM h=>qg 19 M E (AW 7 E (F h _ (A0 E)))) λM h=>qg 19 M E (sp 2 E (Bf h λN O h=>FD E E (qI E BT O (AW 4 E (F h _ (A0 E))))))))))))))) λh=>AE (o (sj h) _ (A0 E))))))))))))
def GD(a:Dt)(b:Int):Option (Int):=Aa (Fu a b) λc=>some (List.length c:Int)
theorem M3{a:Dt}{b:Int}{c:Int}(h:GD a b=some c):AI Tryz.prog 99 [.agg (CA a),nI b] (nI c):=st xC E (rn 1 E (rs (sp 2 E (Bf h λd e h=>qC (qa E (C4 (A3 E (A3 (BW BX _) (A3 (BW AM _) E)))) (qs E AX)) (Lp e) (AW 2 E (sj h ▸ Ag rZ))))))
def FC(a:(Int×Int)->Option (Int))(b:Int)(c:Int):Option (Int):=a (c,(IntKind.i64.wrap (b+1)))
def ER(a:(Int×Int)->Option (Int))(b:Int)(c:Int)(d:Bool):Option (Int):=cond d (FC a c c) (FC a c b)
def EQ(a:Dt)(b:List Int)(c:List Int)(d:(Int×Int)->Option (Int))(e:Int×Int):Option (Int):=match e with
  |(f,g)=>cond (decide (g < a.1)) (Aa (Ga c g) λi=>cond i (FC d g f) (cond (decide (f < 0)) (FC d g g) (Aa (He g c a) λj=>Aa (He f c a) λk=>Aa (GD a g) λl=>Aa (GD a f) λm=>cond (decide (k < j)) (ER d f g true) (cond (j==k) (cond (decide (m < l)) (ER d f g true) (cond (l==m) (Aa (Hf g a b) λn=>Aa (Hf f a b) λo=>ER d f g (decide (n < o))) (ER d f g false))) (ER d f g false))))) (some f)
def Io(a:Dt)(b:List Int)(c:((List Int))->Option ((List Int)))(d:(List Int)):Option ((List Int)):=cond (decide ((List.length d:Int) < a.1)) (Aa (Aq (EQ a b d) fz ((-1),0)) λe=>chk (List.length d+List.length [e]<=lim) (c (d++[e]))) (some d)
def KM(a:Dt)(b:List Int):Option ((List Int)):=Aa (CI a) λc=>cond (!c) (some ([]:List Int)) (cond ((List.length b:Int)!=(List.length a.2.1:Int)) (some ([]:List Int)) (Aa (Aq (Io a b) fz ([]:List Int)) λd=>some d))
theorem Tm{a:Dt}{b:List Int}{c:(List Int)}(h:KM a b=some c):AI Tryz.prog 40 [.agg (CA a),dL Am b] (oL 3 Am c):=by
 refine sta wQ E (SJ (VG E (VG (JN Rq _) (VG (JN (λ_=>E) _) E))) (SJ (JN (λ_=>E) _) E)) (mvv (vag (VT E (VT (N8 R8 _) (VT (N8 (λ_=>E) _) E)))) (mvv (N8 (λ_=>E) _) E)) (TR (λ_=>E) 3 _) (rn 1 E (C9 λd=>rs (sp 1 E (Bf h λe f h=>qC (qa E (C4 (A3 E (A3 (N4 Nl _) (A3 (N4 AM _) E)))) AX) (CZ f) (sp 2 E (EY h (λg h=>qg 17 g E (AW 7 E (qT E E (rn 1 E (sj h ▸ Ag rZ))))) λg h=>qg 17 g E (AW 7 E (B7 h E (λh=>rn 1 E (sj h ▸ Ag rZ)) λh=>Cf d (qk [2,3] E (qk [2,3] E (Ej (gFv (s:=2) E E λi=>Ke (qk [2,3,910002] E (rs (qMf E E (AW 1 E (qk [2,3,5,910002] E (Ej (gFv (s:=3) E E λj=>Ke (qk [2,3,5,910002,910003] E (rs (qMf E E (AW 1 E (rn 1 E (Ap λk l=>?_)))))))))))))))))))))))))
 exact EO h λm n o=>have p:∀{q:List Int},q=m->Jn k [(7,oL 3 Am q)]:=@λq h _ r=>have h:=o h;l _ (lh r E (rn 1 E (sj h ▸ Ag rZ)));(Bc (λ(s:List Int)=>[(2,.box [nI a.1,aL GO a.2.1,aL Am a.2.2]),(3,.box [aL Am b]),(5,.tok (.func (.func 92) #[] [i].toArray)),(6,.tok (.func (.func 96) #[] [i,j].toArray)),(7,oL 3 Am s),(910002,.val 2 i),(910003,.val 3 j)]) _ _ _ _ n (A0 E) (λ_=>E) (λt s u h v=>EZ E λw=>B7 h E (λh=>Cf w (Ba (rn 1 E (Ap λx y=>rn 1 E (EO h λz n A=>have B:∀{C:Int},C=z->Jn x [(2,.box [nI a.1,aL GO a.2.1,aL Am a.2.2]),(3,.box [aL Am b]),(5,.tok (.func (.func 92) #[] [i].toArray)),(6,.tok (.func (.func 96) #[] [i,j].toArray)),(7,oL 3 Am s),(8,nI C),(910002,.val 2 i),(910003,.val 3 j)]:=@λC h _ r=>have h:=A h;y _ (lh r E (rg (sp 2 E (GK Am [C] E E E BT (FQ h λD h=>qA Am s [C] E E (Bv BT [C]) E D (AW 1 E (v _ _ h (A0 E))))))));(Bc (λ(F:Int×Int)=>match F with|(H,I)=>[(2,.box [nI a.1,aL GO a.2.1,aL Am a.2.2]),(3,.box [aL Am b]),(5,.tok (.func (.func 92) #[] [i].toArray)),(6,.tok (.func (.func 96) #[] [i,j].toArray)),(7,oL 3 Am s),(8,nI H),(9,nI I),(910002,.val 2 i),(910003,.val 3 j)]) _ _ _ _ n (A0 E) (λ_=>E) (λt=>Kg λH I u h v=>EZ E λJ=>B7 h E (λh=>Cf J (Ap λK L=>have M:∀{N:Int},FC (Aq (EQ a b s) t) I N=some z->Jn K [(2,.box [nI a.1,aL GO a.2.1,aL Am a.2.2]),(3,.box [aL Am b]),(5,.tok (.func (.func 92) #[] [i].toArray)),(6,.tok (.func (.func 96) #[] [i,j].toArray)),(7,oL 3 Am s),(8,nI N),(9,nI I),(910002,.val 2 i),(910003,.val 3 j)]:=@λN h _ r=>L _ (lh r E (rg (AW 3 E (v _ _ h (A0 E)))));(Ba (C9 λO=>rs (sp 2 E (Bf h λP Q h=>qC (qa E (BW AM _) (qs E AX)) (G3 Q) (Qx (B7 h E (λh=>AE (M h _ (A0 E))) λh=>Cf O (EZ E λR=>B7 h E (λh=>rn 1 E (AE (M h _ (A0 E)))) λh=>Cf R (rs (sp 3 E (Bf h λS T h=>qV [2] [3,5,6,7,8,9,910002,910003] E E E E (qs E (qa E (BW AM _) AX)) (Nz T) E (Yg E (LI (NL (sA (aca (λ_=>E) _)) E) (LI E (LI E (LI (N1 (VW (λ_=>E) _)) (LI E (LI E (LI E (LI E yvn))))))))) (sp 3 E (Bf h λU V h=>qV [2] [3,5,6,7,8,9,47,910002,910003] E E E E (qs E (qa E (BW AM _) AX)) (Nz V) E (Yg E (LI (NL (sA (aca (λ_=>E) _)) E) (LI E (LI E (LI (N1 (VW (λ_=>E) _)) (LI E (LI E (LI E (LI E (LI E yvn)))))))))) (AW 2 E (qk [2,3,5,6,7,8,9,10,11,910002,910003] E (rd (by kernel_rfl) (sd 2 E (Bf h λW X h=>ed E (qC (qa E (C4 (A3 E (A3 (N4 Nl _) (A3 (N4 AM _) E)))) (qs E AX)) (M3 X) (sd 2 E (Bf h λY Z h=>ed E (qC (qa E (C4 (A3 E (A3 (N4 Nl _) (A3 (N4 AM _) E)))) (qs E AX)) (M3 Z) (sd 2 E (Es (rk λc e=>have f:∀{d:Bool},ER (Aq (EQ a b s) t) H I d=some z->Jn c [(2,.box [nI a.1,aL GO a.2.1,aL Am a.2.2]),(3,.box [aL Am b]),(5,.tok (.func (.func 92) #[] [i].toArray)),(6,.tok (.func (.func 96) #[] [i,j].toArray)),(7,oL 3 Am s),(8,nI H),(9,nI I),(84,.bool d),(910002,.val 2 i),(910003,.val 3 j)]:=@λd h _ r=>e _ (lh r E (B7 h E (λh=>rg (AW 2 E (M h _ (A0 E)))) λh=>Dd (M h _ (A0 E))));(sp 4 E (EY h (λg h=>qg 61 g E (sp 14 E (qVs E E (sp 2 E (qVs E E (AW 5 E (f h _ (A0 E)))))))) λg h=>qg 61 g E (sp 4 E (EY h (λk h=>qg 65 k E (sp 4 E (EY h (λm h=>qg 69 m E (sp 6 E (qVs E E (sp 2 E (qVs E E (AW 5 E (f h _ (A0 E)))))))) λm h=>qg 69 m E (sp 4 E (EY h (λq h=>qg 73 q E (sp 2 E (Bf h λl o h=>qVg E E E (qV [2,3] [5,6,7,8,9,61,65,69,73,910002,910003] E E E E (qs E AX) (NA o) E (Yg E (Yg E (LI E (LI E (LI (N1 (VW (λ_=>E) _)) (LI E (LI E (LI E (LI E (LI E (LI E (LI E (LI E yvn))))))))))))) (sp 2 E (Bf h λw x h=>qVg E E E (qV [2,3] [5,6,7,8,9,61,65,69,73,76,910002,910003] E E E E (qs E AX) (NA x) E (Yg E (Yg E (LI E (LI E (LI (N1 (VW (λ_=>E) _)) (LI E (LI E (LI E (LI E (LI E (LI E (LI E (LI E (LI E yvn)))))))))))))) (AW 5 E (f h _ (A0 E)))))))))) λq h=>qg 73 q E (sp 2 E (qVs E E (sp 2 E (qVs E E (AW 5 E (f h _ (A0 E)))))))))))) λk h=>qg 65 k E (sp 10 E (qVs E E (sp 2 E (qVs E E (AW 5 E (f h _ (A0 E))))))))))))))))))))))))))))))))))))) λh=>AE (B (sj h) _ (A0 E))))))))) λh=>AE (p (sj h) _ (A0 E))))
def HM(a:Dt)(b:List Int):Option (TF×Bool):=Aa (CI a) λc=>cond (!c) (some ((0,[],[],([],[])),false)) (cond ((List.length b:Int)!=(List.length a.2.1:Int)) (some ((0,[],[],([],[])),false)) (Aa (I8 a) λd=>cond d.2 (some ((1,[],d.1,([],[])),true)) (Aa (GQ a) λe=>Aa (JZ a) λf=>Aa (DI e.2.1 f.2.1) λg=>cond (decide (g < 0)) (some ((2,[],[],e.1),true)) (Aa (KM a b) λi=>some ((3,i,[],([],[])),true)))))
theorem Px{a:Dt}{b:List Int}{c:TF×Bool}(h:HM a b=some c):AI Tryz.prog 9 [.agg (CA a),dL Am b] (.tup [.agg (D4 c.1),.bool c.2]):=st y8 E (rn 1 E (C9 λd=>rs (sp 1 E (Bf h λe f h=>qC (qa E (C4 (A3 E (A3 (BW BX _) (A3 (BW AM _) E)))) AX) (CZ f) (sp 2 E (EY h (λg h=>qg 17 g E (AW 7 E (qT E E (rn 1 E (sj h ▸ Ag rZ))))) λg h=>qg 17 g E (AW 7 E (B7 h E (λh=>rn 1 E (sj h ▸ Ag rZ)) λh=>Cf d (qk [1,2,4] E (C9 λi=>rs (sp 1 E (Bf h λj k h=>qC (qa E (C4 (A3 E (A3 (BW BX _) (A3 (BW AM _) E)))) AX) (RI k) (AW 6 E (rn 1 E (B7 h E (λh=>rn 1 E (sj h ▸ Ag rZ)) λh=>Cf i (rs (sp 1 E (Bf h λl m h=>qC (qa E (C4 (A3 E (A3 (BW BX _) (A3 (BW AM _) E)))) AX) (PV m) (AW 9 E (C9 λn=>rs (sp 1 E (Bf h λo p h=>qC (qa E (C4 (A3 E (A3 (BW BX _) (A3 (BW AM _) E)))) AX) (SQ p) (AW 8 E (qk [1,2,4,8,9,12] E (rs (sp 2 E (Bf h λq r h=>qC (qa E (C4 (A3 E (A3 E E))) (qa E (C4 (A3 E (A3 E E))) AX)) (Fe r) (AW 1 E (B7 h E (λh=>rn 1 E (sj h ▸ Ag rZ)) λh=>Cf n (rs (sp 2 E (Bf h λs t h=>qC (qa E (C4 (A3 E (A3 (BW BX _) (A3 (BW AM _) E)))) (qa E (BW AM _) AX)) (Tm t) (AW 3 E (sj h ▸ Ag rZ))))))))))))))))))))))))))))))))))
def RP(a:List Int)(b:List Int)(c:Int->Option (Sum (Unit) (Bool)))(d:Int):Option (Sum (Unit) (Bool)):=cond (decide (d < (List.length a:Int))) (Aa (A4 a d) λe=>Aa (A4 b d) λf=>cond (e !=f) (some (.inr false)) (c (IntKind.i64.wrap (d+1)))) (some (.inl ()))
def Gb(a:List Int)(b:List Int):Option (Bool):=cond ((List.length a:Int)!=(List.length b:Int)) (some false) (Aa (Aq (RP a b) fz 0) λc=>(match c with
  |.inl _=>(some true)
  |.inr d=>some d))
theorem Ie{a:List Int}{b:List Int}{c:Bool}(h:Gb a b=some c):AI Tryz.prog 12 [dL Am a,dL Am b] (.bool c):=st wy E (rn 1 E (EZ E λd=>B7 h E (λh=>rn 1 E (sj h ▸ Ag rZ)) λh=>Cf d (Ap λe f=>rn 1 E (EO h λg i j=>have k:(.inl ())=g->Jn e []:=λh _ l=>have h:=j h;f _ (lh l E (rn 1 E (sj h ▸ Ag rZ)));(Bc (λ(m:Int)=>[(0,dL Am a),(1,dL Am b),(5,nI m)]) _ _ _ _ i (A0 E) (λ_=>E) (λn m o h p=>EZ E λq=>B7 h E (λh=>Cf q (C9 λr=>Ba (rd (by kernel_rfl) (sd 2 E (Bf h λs t h=>ed E (qI E BT t (sd 3 E (Bf h λu v h=>ed E (qI E BT v (sd 2 E (Es (B7 h E (λh=>rn 1 E (sj (j (sj h)) ▸ Ag rZ)) λh=>Cf r (rg (AW 3 E (p _ _ h (A0 E)))))))))))))))) λh=>AE (k (sj h) _ trivial)))))))
def J1(a:List Int)(b:List Int):Option (Bool):=Aa (Gb a b) λc=>cond (!c) (some false) (some true)
theorem SR{a:List Int}{b:List Int}{c:Bool}(h:J1 a b=some c):AI Tryz.prog 41 [.agg [dL Am a],.agg [dL Am b]] (.bool c):=st wR E (rn 1 E (C9 λd=>rs (sp 4 E (Bf h λe f h=>qC (qa E (BW AM _) (qa E (BW AM _) AX)) (Ie f) (AW 1 E (B7 h E (λh=>rn 1 E (sj h ▸ Ag rZ)) λh=>Cf d (rn 1 E (sj h ▸ Ag rZ))))))))
def Q2(a:List (List Int))(b:List (List Int))(c:Int->Option (Sum (Unit) (Bool)))(d:Int):Option (Sum (Unit) (Bool)):=cond (decide (d < (List.length a:Int))) (Aa (A4 a d) λe=>Aa (A4 b d) λf=>Aa (Gb e f) λg=>cond (!g) (some (.inr false)) (c (IntKind.i64.wrap (d+1)))) (some (.inl ()))
def Og(a:List (List Int))(b:List (List Int)):Option (Bool):=cond ((List.length a:Int)!=(List.length b:Int)) (some false) (Aa (Aq (Q2 a b) fz 0) λc=>(match c with
  |.inl _=>(some true)
  |.inr d=>some d))
theorem Xs{a:List (List Int)}{b:List (List Int)}{c:Bool}(h:Og a b=some c):AI Tryz.prog 100 [dL FW a,dL FW b] (.bool c):=st r7 E (rn 1 E (EZ E λd=>B7 h E (λh=>rn 1 E (sj h ▸ Ag rZ)) λh=>Cf d (Ap λe f=>rn 1 E (EO h λg i j=>have k:(.inl ())=g->Jn e []:=λh _ l=>have h:=j h;f _ (lh l E (rn 1 E (sj h ▸ Ag rZ)));(Bc (λ(m:Int)=>[(0,dL FW a),(1,dL FW b),(5,nI m)]) _ _ _ _ i (A0 E) (λ_=>E) (λn m o h p=>EZ E λq=>B7 h E (λh=>Cf q (C9 λr=>Ba (rd (by kernel_rfl) (sd 2 E (Bf h λs t h=>ed E (qI E Sa t (sd 3 E (Bf h λu v h=>ed E (qI E Sa v (sd 1 E (Bf h λw x h=>ed E (qC (qa E (BW AM _) (qa E (BW AM _) AX)) (Ie x) (sd 1 E (Es (B7 h E (λh=>rn 1 E (sj (j (sj h)) ▸ Ag rZ)) λh=>Cf r (rg (AW 3 E (p _ _ h (A0 E))))))))))))))))))) λh=>AE (k (sj h) _ trivial)))))))
def HT(a:Qa)(b:Qa):Option (Bool):=Aa (Og a.1 b.1) λc=>cond (!c) (some false) (Aa (Gb a.2 b.2) λd=>cond (!d) (some false) (some true))
theorem QH{a:Qa}{b:Qa}{c:Bool}(h:HT a b=some c):AI Tryz.prog 42 [.agg (Sh a),.agg (Sh b)] (.bool c):=st wS E (rn 1 E (C9 λd=>rs (sp 4 E (Bf h λe f h=>qC (qa E (BW RA _) (qa E (BW RA _) AX)) (Xs f) (AW 1 E (B7 h E (λh=>rn 1 E (sj h ▸ Ag rZ)) λh=>Cf d (C9 λg=>rs (sp 4 E (Bf h λi j h=>qC (qa E (BW AM _) (qa E (BW AM _) AX)) (Ie j) (AW 1 E (B7 h E (λh=>rn 1 E (sj h ▸ Ag rZ)) λh=>Cf g (qk [] E (rn 1 E (sj h ▸ Ag rZ))))))))))))))
def Me(a:TF)(b:TF):Option (Bool):=cond (a.1 !=b.1) (some false) (Aa (Gb a.2.1 b.2.1) λc=>cond (!c) (some false) (Aa (J1 a.2.2.1 b.2.2.1) λd=>cond (!d) (some false) (Aa (HT a.2.2.2 b.2.2.2) λe=>cond (!e) (some false) (some true))))
theorem PZ{a:TF}{b:TF}{c:Bool}(h:Me a b=some c):AI Tryz.prog 10 [.agg (UO a),.agg (UO b)] (.bool c):=st ww E (rn 1 E (EZ E λd=>B7 h E (λh=>rn 1 E (sj h ▸ Ag rZ)) λh=>Cf d (C9 λe=>rs (sp 4 E (Bf h λf g h=>qC (qa E (BW AM _) (qa E (BW AM _) AX)) (Ie g) (AW 1 E (B7 h E (λh=>rn 1 E (sj h ▸ Ag rZ)) λh=>Cf e (C9 λi=>rs (sp 4 E (Bf h λj k h=>qC (qa E (C4 (A3 (BW AM _) E)) (qa E (C4 (A3 (BW AM _) E)) AX)) (SR k) (AW 1 E (qk [2,3,21] E (B7 h E (λh=>rn 1 E (sj h ▸ Ag rZ)) λh=>Cf i (C9 λl=>rs (sp 4 E (Bf h λm n h=>qC (qa E (C4 (A3 (BW RA _) (A3 (BW AM _) E))) (qa E (C4 (A3 (BW RA _) (A3 (BW AM _) E))) AX)) (QH n) (AW 1 E (B7 h E (λh=>rn 1 E (sj h ▸ Ag rZ)) λh=>Cf l (rn 1 E (sj h ▸ Ag rZ))))))))))))))))))))
def ND(a:Dz)(b:Dz):Option (Bool):=cond (!(a.1==b.1)) (some false) (Aa (Gb a.2 b.2) λc=>cond (!c) (some false) (some true))
theorem Yv{a:Dz}{b:Dz}{c:Bool}(h:ND a b=some c):AI Tryz.prog 101 [.agg (Br a),.agg (Br b)] (.bool c):=st r8 E (rn 1 E (EZ E λd=>B7 h E (λh=>rn 1 E (sj h ▸ Ag rZ)) λh=>Cf d (C9 λe=>rs (sp 4 E (Bf h λf g h=>qC (qa E (BW AM _) (qa E (BW AM _) AX)) (Ie g) (AW 1 E (B7 h E (λh=>rn 1 E (sj h ▸ Ag rZ)) λh=>Cf e (rn 1 E (qk [4] E (sj h ▸ Ag rZ))))))))))
def Q1(a:List Dz)(b:List Dz)(c:Int->Option (Sum (Unit) (Bool)))(d:Int):Option (Sum (Unit) (Bool)):=cond (decide (d < (List.length a:Int))) (Aa (A4 a d) λe=>Aa (A4 b d) λf=>Aa (ND e f) λg=>cond (!g) (some (.inr false)) (c (IntKind.i64.wrap (d+1)))) (some (.inl ()))
def Of(a:List Dz)(b:List Dz):Option (Bool):=cond ((List.length a:Int)!=(List.length b:Int)) (some false) (Aa (Aq (Q1 a b) fz 0) λc=>(match c with
  |.inl _=>(some true)
  |.inr d=>some d))
theorem Xr{a:List Dz}{b:List Dz}{c:Bool}(h:Of a b=some c):AI Tryz.prog 43 [dL Br a,dL Br b] (.bool c):=st wT E (rn 1 E (EZ E λd=>B7 h E (λh=>rn 1 E (sj h ▸ Ag rZ)) λh=>Cf d (Ap λe f=>rn 1 E (EO h λg i j=>have k:(.inl ())=g->Jn e []:=λh _ l=>have h:=j h;f _ (lh l E (rn 1 E (sj h ▸ Ag rZ)));(Bc (λ(m:Int)=>[(0,dL Br a),(1,dL Br b),(5,nI m)]) _ _ _ _ i (A0 E) (λ_=>E) (λn m o h p=>EZ E λq=>B7 h E (λh=>Cf q (C9 λr=>Ba (rd (by kernel_rfl) (sd 2 E (Bf h λs t h=>ed E (qI E F6 t (sd 3 E (Bf h λu v h=>ed E (qI E F6 v (sd 1 E (Bf h λw x h=>ed E (qC (qa E (C4 (A3 E (A3 (BW AM _) E))) (qa E (C4 (A3 E (A3 (BW AM _) E))) AX)) (Yv x) (sd 1 E (Es (B7 h E (λh=>rn 1 E (sj (j (sj h)) ▸ Ag rZ)) λh=>Cf r (rg (AW 3 E (p _ _ h (A0 E))))))))))))))))))) λh=>AE (k (sj h) _ trivial)))))))
def Oh(a:Dt)(b:Dt):Option (Bool):=cond (a.1 !=b.1) (some false) (Aa (Of a.2.1 b.2.1) λc=>cond (!c) (some false) (Aa (Gb a.2.2 b.2.2) λd=>cond (!d) (some false) (some true)))
theorem Xt{a:Dt}{b:Dt}{c:Bool}(h:Oh a b=some c):AI Tryz.prog 11 [.agg (CA a),.agg (CA b)] (.bool c):=st wx E (rn 1 E (EZ E λd=>B7 h E (λh=>rn 1 E (sj h ▸ Ag rZ)) λh=>Cf d (C9 λe=>rs (sp 4 E (Bf h λf g h=>qC (qa E (BW BX _) (qa E (BW BX _) AX)) (Xr g) (AW 1 E (B7 h E (λh=>rn 1 E (sj h ▸ Ag rZ)) λh=>Cf e (C9 λi=>rs (sp 4 E (Bf h λj k h=>qC (qa E (BW AM _) (qa E (BW AM _) AX)) (Ie k) (AW 1 E (qk [21] E (B7 h E (λh=>rn 1 E (sj h ▸ Ag rZ)) λh=>Cf i (rn 1 E (sj h ▸ Ag rZ)))))))))))))))
def KU(a:List Int)(b:(Int×Int)->Option (Sum (Int) (Int)))(c:Int×Int):Option (Sum (Int) (Int)):=match c with
  |(d,e)=>cond (decide (e < (List.length a:Int))) (Aa (A4 a e) λf=>cond (f !=d) (some (.inr (-1))) (b ((IntKind.i64.wrap (d+1)),(IntKind.i64.wrap (e+1))))) (some (.inl d))
def If(a:List Int)(b:Int):Option (Int):=Aa (Aq (KU a) fz (b,0)) λc=>(match c with
  |.inl d=>(some d)
  |.inr e=>some e)
theorem LD{a:List Int}{b:Int}{c:Int}(h:If a b=some c):AI Tryz.prog 47 [dL Am a,nI b] (nI c):=st wU E (rn 1 E (Ap λd e=>rn 1 E (EO h λf g i=>have j:∀{k:Int},(.inl k)=f->Jn d [(1,nI k)]:=@λk h _ l=>have h:=i h;e _ (lh l E (rn 1 E (sj h ▸ Ag rZ)));(Bc (λ(m:Int×Int)=>match m with|(n,o)=>[(0,dL Am a),(1,nI n),(5,nI o)]) _ _ _ _ g (A0 E) (λ_=>E) (λp=>Kg λn o q h r=>EZ E λs=>B7 h E (λh=>Cf s (C9 λt=>Ba (C9 λu=>rs (sp 2 E (Bf h λv w h=>qI E BT w (AW 3 E (B7 h E (λh=>rn 1 E (sj (i (sj h)) ▸ Ag rZ)) λh=>Cf u (rg (AW 3 E (t _ (rg (AW 3 E (r _ _ h (A0 E)))))))))))))) λh=>AE (j (sj h) _ (A0 E)))))))
def Ip(a:List Int)(b:Int):Option (Int):=Aa (If a b) λc=>cond (decide (c < 0)) (some (-1)) (some c)
theorem Re{a:List Int}{b:Int}{c:Int}(h:Ip a b=some c):AI Tryz.prog 48 [.agg [dL Am a],nI b] (nI c):=st wV E (rn 1 E (rs (sp 3 E (Bf h λd e h=>qC (qa E (BW AM _) (qs E AX)) (LD e) (AW 1 E (EZ E λf=>B7 h E (λh=>rn 1 E (sj h ▸ Ag rZ)) λh=>Cf f (rn 1 E (sj h ▸ Ag rZ))))))))
def J2(a:List (List Int))(b:(Int×Int)->Option (Sum (Int) (Int)))(c:Int×Int):Option (Sum (Int) (Int)):=match c with
  |(d,e)=>cond (decide (e < (List.length a:Int))) (Aa (A4 a e) λf=>Aa (If f d) λg=>cond (decide (g < 0)) (some (.inr (-1))) (b (g,(IntKind.i64.wrap (e+1))))) (some (.inl d))
def ME(a:List (List Int))(b:Int):Option (Int):=Aa (Aq (J2 a) fz (b,0)) λc=>(match c with
  |.inl d=>(some d)
  |.inr e=>some e)
theorem Vl{a:List (List Int)}{b:Int}{c:Int}(h:ME a b=some c):AI Tryz.prog 104 [dL FW a,nI b] (nI c):=st r9 E (rn 1 E (Ap λd e=>rn 1 E (EO h λf g i=>have j:∀{k:Int},(.inl k)=f->Jn d [(1,nI k)]:=@λk h _ l=>have h:=i h;e _ (lh l E (rn 1 E (sj h ▸ Ag rZ)));(Bc (λ(m:Int×Int)=>match m with|(n,o)=>[(0,dL FW a),(1,nI n),(5,nI o)]) _ _ _ _ g (A0 E) (λ_=>E) (λp=>Kg λn o q h r=>EZ E λs=>B7 h E (λh=>Cf s (C9 λt=>Ba (rs (sp 2 E (Bf h λu v h=>qI E Sa v (sp 2 E (Bf h λw x h=>qC (qa E (BW AM _) (qs E AX)) (LD x) (AW 1 E (rn 1 E (B7 h E (λh=>rn 1 E (sj (i (sj h)) ▸ Ag rZ)) λh=>Cf t (rg (AW 3 E (r _ _ h (A0 E)))))))))))))) λh=>AE (j (sj h) _ (A0 E)))))))
def GU(a:Qa)(b:Int):Option (Int):=Aa (ME a.1 b) λc=>cond (decide (c < 0)) (some (-1)) (Aa (If a.2 c) λd=>cond (decide (d < 0)) (some (-1)) (some d))
theorem P0{a:Qa}{b:Int}{c:Int}(h:GU a b=some c):AI Tryz.prog 49 [.agg (Sh a),nI b] (nI c):=st wW E (rn 1 E (rs (sp 3 E (Bf h λd e h=>qC (qa E (BW RA _) (qs E AX)) (Vl e) (AW 1 E (EZ E λf=>B7 h E (λh=>rn 1 E (sj h ▸ Ag rZ)) λh=>Cf f (rs (sp 3 E (Bf h λg i h=>qC (qa E (BW AM _) (qs E AX)) (LD i) (AW 1 E (EZ E λj=>B7 h E (λh=>rn 1 E (qk [4] E (sj h ▸ Ag rZ))) λh=>Cf j (rn 1 E (sj h ▸ Ag rZ)))))))))))))
def Lt(a:TF)(b:Int):Option (Int):=Aa (If a.2.1 b) λc=>cond (decide (c < 0)) (some (-1)) (Aa (Ip a.2.2.1 c) λd=>cond (decide (d < 0)) (some (-1)) (Aa (GU a.2.2.2 d) λe=>cond (decide (e < 0)) (some (-1)) (some e)))
theorem Q3{a:TF}{b:Int}{c:Int}(h:Lt a b=some c):AI Tryz.prog 16 [.agg (UO a),nI b] (nI c):=st wz E (rn 1 E (rs (sp 3 E (Bf h λd e h=>qC (qa E (BW AM _) (qs E AX)) (LD e) (AW 1 E (EZ E λf=>B7 h E (λh=>rn 1 E (sj h ▸ Ag rZ)) λh=>Cf f (rs (sp 3 E (Bf h λg i h=>qC (qa E (C4 (A3 (BW AM _) E)) (qs E AX)) (Re i) (AW 1 E (EZ E λj=>B7 h E (λh=>rn 1 E (qk [4] E (sj h ▸ Ag rZ))) λh=>Cf j (rs (sp 3 E (Bf h λk l h=>qC (qa E (C4 (A3 (BW RA _) (A3 (BW AM _) E))) (qs E AX)) (P0 l) (AW 1 E (EZ E λm=>B7 h E (λh=>rn 1 E (sj h ▸ Ag rZ)) λh=>Cf m (rn 1 E (sj h ▸ Ag rZ))))))))))))))))))
def I9(a:Y24)(b:List Int):Option (Bool):=cond (decide (1048576 < (List.length b:Int))) (some true) (Aa (Oi a 1048576) λc=>cond (decide (c < 0)) (some true) (Aa (Ja a) λd=>Aa (HU b) λe=>Aa (Jv d e) λf=>Aa (Ja a) λg=>Aa (HU b) λi=>Aa (HM g i) λj=>Aa (Me j.1 f.1) λk=>cond (!k) (some false) (cond (!(j.2==f.2)) (some false) (Aa (Ja a) λl=>Aa (Oh g l) λm=>cond (!m) (some false) (Aa (HU b) λn=>Aa (Gb i n) λo=>cond (!o) (some false) (Aa (O1 g 1) λp=>Aa (P1 i p.2) λq=>cond (decide (q.2 < 0)) (some false) (Aa (Me j.1 f.1) λr=>cond (!r) (some false) (cond (!(j.2==f.2)) (some false) (Aa (P2 j.1 1) λs=>Aa (Lt s.1 1) λt=>cond (decide (t < 0)) (some false) (cond (t !=s.2) (some false) (Aa (Ja a) λu=>Aa (HU b) λv=>Aa (HM u v) λw=>Aa (Me w.1 f.1) λx=>cond (!x) (some false) (cond (!(w.2==f.2)) (some false) (Aa (Lt s.1 1) λy=>cond (decide (y < 0)) (some false) (cond (y !=s.2) (some false) (some true)))))))))))))))
theorem PY{a:Y24}{b:List Int}{c:Bool}(h:I9 a b=some c):AI Tryz.prog 3 [.agg (ep a),aL Am b] (.bool c):=by
 refine st y3 E (rn 1 E (EZ E λd=>B7 h E (λh=>rn 1 E (sj h ▸ Ag rZ)) λh=>Cf d (rn 1 E (rs (sp 2 E (Bf h λe f h=>qC (qa E (C4 (A3 E (A3 (N4 TU _) (A3 (N4 AM _) E)))) (qs E AX)) (Xv f) (AW 1 E (EZ E λg=>B7 h E (λh=>rn 1 E (qk [4] E (sj h ▸ Ag rZ))) λh=>Cf g (rs (sp 1 E (Bf h λi j h=>qC (qa E (C4 (A3 E (A3 (N4 TU _) (A3 (N4 AM _) E)))) AX) (MF j) (sp 1 E (Bf h λk l h=>qC (qa E (N4 AM _) AX) (JD l) (Bf h λm n h=>qC (qa E (C4 (A3 E (A3 (UZ TV _) (A3 (UZ AM _) E)))) (qa E (UZ AM _) AX)) (Uv n) (AW 6 E (rs (sp 1 E (Bf h λo p h=>qC (qa E (C4 (A3 E (A3 (N4 TU _) (A3 (N4 AM _) E)))) AX) (MF p) (AW 2 E (rs (sp 1 E (Bf h λq r h=>qC (qa E (N4 AM _) AX) (JD r) (AW 1 E (rs (sp 2 E (Bf h λs t h=>qC (qa E (C4 (A3 E (A3 (BW TV _) (A3 (BW AM _) E)))) (qa E (BW AM _) AX)) (Px t) (AW 6 E (C9 λu=>rs (sp 2 E (Bf h λv w h=>qC (qa E (C4 (A3 E (A3 (BW AM _) (A3 (BW AM _) (A3 (BW PT _) (A3 (BW AM _) E)))))) (qa E (C4 (A3 E (A3 (BW AM _) (A3 (BW AM _) (A3 (BW PT _) (A3 (BW AM _) E)))))) AX)) (PZ w) (sp 2 E (EY h (λx h=>qg 47 x E (AW 4 E (qk [1,2,6,7,8,9,10,11,51] E (qT E E (rn 1 E (sj h ▸ Ag rZ)))))) λx h=>qg 47 x E (AW 4 E (B7 h E (λh=>rn 1 E (sj h ▸ Ag rZ)) λh=>Cf u (C9 λy=>rd (by kernel_rfl) (sd 2 E (Bf h λz A h=>ed E (qC (qa E (C4 (A3 E (A3 (N4 TU _) (A3 (N4 AM _) E)))) AX) (MF A) (Bf h λB C h=>ed E (qC (qa E (C4 (A3 E (A3 (BW TV _) (A3 (BW AM _) E)))) (qa E (C4 (A3 E (A3 (UZ TV _) (A3 (UZ AM _) E)))) AX)) (Xt C) (sd 1 E (Es (B7 h E (λh=>rn 1 E (sj h ▸ Ag rZ)) λh=>Cf y (C9 λD=>rs (sp 2 E (Bf h λF H h=>qC (qa E (N4 AM _) AX) (JD H) (?_)))))))))))))))))))))))))))))))))))))))))))))))
 exact Bf h λI J h=>qC (qa E (BW AM _) (qa E (UZ AM _) AX)) (Ie J) (AW 1 E (qk [1,2,6,7,8,9,10,11,61] E (B7 h E (λh=>rn 1 E (sj h ▸ Ag rZ)) λh=>Cf D (rn 1 E (qk [1,2,6,7,8,9,10,11,12] E (Bf h λK L h=>af (fU HL E E E) E E (Vn L) (vP _) (fS (Zp (Oy (λ_=>E) _) (Zp (scc E (scc (sca iH _) (scc (sca (λ_=>E) _) scn))) (Zp (scc E (scc (Zm (λ_=>E) _) (scc (Zm (λ_=>E) _) (scc (Zm bA _) (scc (Zm (λ_=>E) _) scn))))) (Zp E (sfs (Zp (N1 (L8 (λ_=>E) _)) (Zp (scc E (scc (Zm (λ_=>E) _) (scc (Zm (λ_=>E) _) (scc (Zm bA _) (scc (Zm (λ_=>E) _) scn))))) (Zp E (Zp E sfn)))))))))) E E ⟨by decide,by decide⟩ E E (kp [(1,aL Am b),(2,.box [nI a.1,aL Th a.2.1,aL Am a.2.2]),(6,.box [nI m.1.1,oL 3 Am m.1.2.1,oL 3 Am m.1.2.2.1,oL 23 Bj m.1.2.2.2.1,oL 3 Am m.1.2.2.2.2]),(7,.bool m.2),(9,oL 3 Am q),(10,.box [nI s.1.1,oL 3 Am s.1.2.1,oL 3 Am s.1.2.2.1,oL 23 Bj s.1.2.2.2.1,oL 3 Am s.1.2.2.2.2]),(11,.bool s.2),(12,nI K.2)] E E (qk [1,2,6,7,9,10,11,12] E (Bf h λM N h=>af (oO E) E E (V4 N) (L8 (λ_=>E) _) (fS (Zp (Oy (λ_=>E) _) (Zp (scc E (scc (sca iH _) (scc (sca (λ_=>E) _) scn))) (Zp (scc E (scc (Zm (λ_=>E) _) (scc (Zm (λ_=>E) _) (scc (Zm bA _) (scc (Zm (λ_=>E) _) scn))))) (Zp E (sfs (Zp (scc E (scc (Zm (λ_=>E) _) (scc (Zm (λ_=>E) _) (scc (Zm bA _) (scc (Zm (λ_=>E) _) scn))))) (Zp E (Zp E sfn))))))))) E E ⟨by decide,by decide⟩ E E (kp [(1,aL Am b),(2,.box [nI a.1,aL Th a.2.1,aL Am a.2.2]),(6,.box [nI m.1.1,oL 3 Am m.1.2.1,oL 3 Am m.1.2.2.1,oL 23 Bj m.1.2.2.2.1,oL 3 Am m.1.2.2.2.2]),(7,.bool m.2),(10,.box [nI s.1.1,oL 3 Am s.1.2.1,oL 3 Am s.1.2.2.1,oL 23 Bj s.1.2.2.2.1,oL 3 Am s.1.2.2.2.2]),(11,.bool s.2),(12,nI M.2)] E E (C9 λO=>rs (sp 3 E (EY h (λP h=>qg 70 P E (AW 10 E (qT E E (rn 1 E (sj h ▸ Ag rZ))))) λP h=>qg 70 P E (sp 2 E (Bf h λQ R h=>FD E E (qC (qa E (C4 (A3 E (A3 (BW AM _) (A3 (BW AM _) (A3 (BW PT _) (A3 (BW AM _) E)))))) (qa E (C4 (A3 E (A3 (BW AM _) (A3 (BW AM _) (A3 (BW PT _) (A3 (BW AM _) E)))))) AX)) (PZ R) (sp 3 E (EY h (λS h=>qg 76 S E (AW 4 E (qT E E (rn 1 E (qk [4] E (sj h ▸ Ag rZ)))))) λS h=>qg 76 S E (AW 4 E (B7 h E (λh=>rn 1 E (sj h ▸ Ag rZ)) λh=>Cf O (rn 1 E (qk [1,2,6,7,10,13] E (Bf h λT U h=>af (fU HL E E E) E E (V6 U) (vO _) (fS (Zp (Oy (λ_=>E) _) (Zp (scc E (scc (sca iH _) (scc (sca (λ_=>E) _) scn))) (Zp (scc E (scc (Zm (λ_=>E) _) (scc (Zm (λ_=>E) _) (scc (Zm bA _) (scc (Zm (λ_=>E) _) scn))))) (Zp E (sfs (Zp E sfn))))))) E E ⟨by decide,by decide⟩ E E (kp [(1,aL Am b),(2,.box [nI a.1,aL Th a.2.1,aL Am a.2.2]),(6,.box [nI m.1.1,oL 3 Am m.1.2.1,oL 3 Am m.1.2.2.1,oL 23 Bj m.1.2.2.2.1,oL 3 Am m.1.2.2.2.2]),(7,.bool m.2),(10,.box [nI T.1.1,oL 3 Am T.1.2.1,oL 3 Am T.1.2.2.1,oL 23 Bj T.1.2.2.2.1,oL 3 Am T.1.2.2.2.2]),(13,nI T.2)] E E (rn 1 E (rs (sp 2 E (Bf h λV W h=>qC (qa E (C4 (A3 E (A3 (BW AM _) (A3 (BW AM _) (A3 (BW PT _) (A3 (BW AM _) E)))))) (qs E AX)) (Q3 W) (AW 1 E (EZ E λX=>B7 h E (λh=>rn 1 E (sj h ▸ Ag rZ)) λh=>Cf X (EZ E λY=>B7 h E (λh=>rn 1 E (qk [4] E (sj h ▸ Ag rZ))) λh=>Cf Y (rs (sp 1 E (Bf h λZ c h=>qC (qa E (C4 (A3 E (A3 (N4 TU _) (A3 (N4 AM _) E)))) AX) (MF c) (sp 1 E (Bf h λd e h=>qC (qa E (N4 AM _) AX) (JD e) (Bf h λf g h=>qC (qa E (C4 (A3 E (A3 (UZ TV _) (A3 (UZ AM _) E)))) (qa E (UZ AM _) AX)) (Px g) (AW 6 E (C9 λi=>rs (sp 2 E (Bf h λj k h=>qC (qa E (C4 (A3 E (A3 (BW AM _) (A3 (BW AM _) (A3 (BW PT _) (A3 (BW AM _) E)))))) (qa E (C4 (A3 E (A3 (BW AM _) (A3 (BW AM _) (A3 (BW PT _) (A3 (BW AM _) E)))))) AX)) (PZ k) (sp 2 E (EY h (λl h=>qg 104 l E (AW 4 E (qT E E (rn 1 E (sj h ▸ Ag rZ))))) λl h=>qg 104 l E (AW 4 E (B7 h E (λh=>rn 1 E (qk [4] E (sj h ▸ Ag rZ))) λh=>Cf i (rn 1 E (rs (sp 2 E (Bf h λn o h=>qC (qa E (C4 (A3 E (A3 (BW AM _) (A3 (BW AM _) (A3 (BW PT _) (A3 (BW AM _) E)))))) (qs E AX)) (Q3 o) (AW 1 E (EZ E λp=>B7 h E (λh=>rn 1 E (sj h ▸ Ag rZ)) λh=>Cf p (EZ E λr=>B7 h E (λh=>rn 1 E (qk [4] E (sj h ▸ Ag rZ))) λh=>Cf r (rn 1 E (sj h ▸ Ag rZ))))))))))))))))))))))))))))))))))))))))))))))))))))))
end Go.Proofs.YtckmdkajoiegmaaGreatDoor

namespace Go.Proofs.YtckmdkajoiegmaaGreatDoor
theorem WH{B:(Int->Option (Sum Unit Bool))->Int->Option (Sum Unit Bool)}{n:Nat}(bad:Nat->Bool){M:Nat}(hn:n < M)(h1:∀k,k < n->∀rec,B rec (k:Int)=cond (bad k) (some (.inr false)) (rec ((k+1:Nat):Int)))(h2:∀rec,B rec (n:Int)=some (.inl ())):
  Aq B M 0=some (cond ((List.range n).any bad) (.inr false) (.inl ())):=by
 have key:∀d k,k+d=n->(∀j,j < k->bad j=false)->∀m,d < m->Aq B m (k:Int)=some (cond ((List.range n).any bad) (.inr false) (.inl ())):=by
  intro d
  induction d with
  |zero=>
   intro k hk hb m hm
   cases m with
   |zero=>omega
   |succ m=>
    have hkn:k=n:=by omega
    have:(List.range n).any bad=false:=by
     rw[Ct]
     intro x hx
     rw[hb x (by have:=Al.1 hx;omega)];simp
    show B (Aq B m) (k:Int)=_
    rw[hkn,h2,this];rfl
  |succ d ih=>
   intro k hk hb m hm
   cases m with
   |zero=>omega
   |succ m=>
    show B (Aq B m) (k:Int)=_
    rw[h1 k (by omega)]
    cases hbk:bad k with
    |true=>
     have:(List.range n).any bad=true:=by rw[Cu];exact⟨k,Al.2 (by omega),hbk⟩
     rw[this];rfl
    |false=>
     exact ih (k+1) (by omega) (λj hj=>by
      rcases BZ j k with h|h
      ·exact hb j h
      ·rw[show j=k by omega];exact hbk) m (by omega)
 have:=key n 0 (by omega) (λj hj=>absurd hj (by omega)) M hn
 simpa using this
theorem Iv{B:(Int->Option (Sum Unit Bool))->Int->Option (Sum Unit Bool)}{n:Nat}(bad:Nat->Bool)(hn:n<=lim)(h1:∀k,k < n->∀rec,B rec (k:Int)=cond (bad k) (some (.inr false)) (rec ((k+1:Nat):Int)))(h2:∀rec,B rec (n:Int)=some (.inl ())):
  Aq B fz 0=some (cond ((List.range n).any bad) (.inr false) (.inl ())):=WH bad (CR hn) h1 h2
theorem BC{k n:Nat}(h:k < n):decide ((k:Int) < (n:Int))=true:=Ai (by omega)
theorem Bl(n:Nat):decide ((n:Int) < (n:Int))=false:=Ah (by omega)
def Mf{α:Type}(l:List α)(k:Nat)(f:α->Bool):Bool:=match l[k]? with
 |some e=>f e
 |none=>false
theorem DH{α:Type}{l:List α}{k:Nat}(h:k < l.length)(f:α->Bool):Mf l k f=f l[k]:=by unfold Mf;rw[Ae h]
def Cw{α:Type}(l:List α)(f:Nat->α->Bool):Bool:=(List.range l.length).any λk=>Mf l k (f k)
def JP(x lo hi:Int):Bool:=decide (lo<=x)&&decide (x<=hi)
theorem Ni(x lo hi:Int):Fm x lo hi=some (JP x lo hi):=by
 unfold Fm Ox JP
 cases decide (lo<=x)<;>rfl
theorem Jq(x lo hi:Int):Ee x lo hi=some (JP x lo hi):=by
 unfold Ee MC JP
 cases decide (lo<=x)<;>rfl
theorem rO(x y:Int):KR x y=some (if x < y then -1 else if y < x then 1 else 0):=by
 unfold KR
 by_cases q1:x < y
 ·rw[Ai q1,AJ q1];rfl
 ·rw[Ah q1,AN q1]
  by_cases q2:y < x
  ·rw[Ai q2,AJ q2];rfl
  ·rw[Ah q2,AN q2];rfl
theorem ms{k n:Nat}(h:k < n)(h0:0 < k)(hn:n<=maxLen):IntKind.i64.wrap ((k:Int) - 1)=((k - 1:Nat):Int):=by
 rw[wrap_in (by unfold maxLen at hn;omega)];omega
def nmB(s:List UInt8):Bool:=JP (s.length:Int) 1 4&& !Cw s λ_ b=>decide ((UInt8.toNat b:Int) < 97) || decide (122 < (UInt8.toNat b:Int))
theorem uu{s:List UInt8}(h:s.length<=lim):KZ s=some (nmB s):=by
 unfold KZ nmB Cw
 rw[Iv (λk=>Mf s k λb=>decide ((UInt8.toNat b:Int) < 97) || decide (122 < (UInt8.toNat b:Int))) h (λk hk rec=>by
  unfold Ll
  rw[BC hk,BL hk,BQ hk (Bo h),DH hk]
  simp only[Ac,Aa]
  cases decide ((UInt8.toNat s[k]:Int) < 97)<;>rfl) (λrec=>by unfold Ll;rw[Bl];rfl)]
 cases(List.range s.length).any λk=>Mf s k λb=>decide ((UInt8.toNat b:Int) < 97) || decide (122 < (UInt8.toNat b:Int))<;>simp[Aa,Ni]
theorem rR{s:List UInt8}(h:s.length<=lim):KN s=some (nmB s):=by
 unfold KN OX nmB Cw JP
 by_cases h1:(s.length:Int) < 1
 ·rw[Ai h1,Ah (by omega:¬(1:Int)<=(s.length:Int))];rfl
 ·rw[Ah h1,Ai (by omega:(1:Int)<=(s.length:Int))]
  by_cases h2:4 < (s.length:Int)
  ·rw[Ai h2,Ah (by omega:¬(s.length:Int)<=4)];rfl
  ·rw[Ah h2,Ai (by omega:(s.length:Int)<=4)]
   simp only[Ad,FG,AC]
   rw[Iv (λk=>Mf s k λb=>decide ((UInt8.toNat b:Int) < 97) || decide (122 < (UInt8.toNat b:Int))) h (λk hk rec=>by
    unfold My
    rw[BC hk,BL hk,BQ hk (Bo h),DH hk]
    simp only[Ac,Aa]
    cases decide ((UInt8.toNat s[k]:Int) < 97)<;>rfl) (λrec=>by unfold My;rw[Bl];rfl)]
   cases(List.range s.length).any λk=>Mf s k λb=>decide ((UInt8.toNat b:Int) < 97) || decide (122 < (UInt8.toNat b:Int))<;>rfl
def NH(l:List Int)(k:Nat)(e:Int):Bool:=decide (0 < k)&&Mf l (k - 1) λq=>decide (e<=q)
theorem BH{S O:Type}(body:(S->Option O)->S->Option O)(n:Nat)(s:S):Aq body (n+1) s=body (Aq body n) s:=rfl
def Qe(l:List Int)(rec:Int->Option (Sum Unit Bool))(i:Int):Option (Sum Unit Bool):=if i=0 then(if l.length=0 then some (.inl ())else rec 1)else B3 l rec i
theorem v7{l:List Int}(h:l.length<=lim):FY l=some (!Cw l (NH l)):=by
 unfold FY Cw
 have hB:Aq (B3 l) fz 1=some (cond ((List.range l.length).any λk=>Mf l k (NH l k)) (.inr false) (.inl ())):=by
  have h0:=WH (M:=fz+1) (B:=Qe l) (λk=>Mf l k (NH l k)) (Nat.lt_succ_of_lt (CR h)) (λk hk rec=>by
   by_cases hz:k=0
   ·subst hz
    rw[DH hk]
    unfold Qe
    rw[AJ (show((0:Nat):Int)=0 from rfl),AN (by omega)]
    simp[NH]
   ·have hk':k - 1 < l.length:=by omega
    have hz':¬((k:Int)=0):=by omega
    unfold Qe
    rw[AN hz']
    unfold B3
    rw[BC hk,BL hk,BQ hk (Bo h),ms hk (by omega) (Bo h),BL hk',DH hk]
    simp only[Ac,Aa,NH]
    rw[DH hk',Ai (by omega:0 < k)]
    simp only[AC]) (λrec=>by
   by_cases hz:l.length=0
   ·unfold Qe;rw[hz];rfl
   ·have hz':¬((l.length:Int)=0):=by omega
    unfold Qe
    rw[AN hz']
    unfold B3
    rw[Bl];rfl)
  have same:∀m (k:Nat),0 < k->Aq (Qe l) m (k:Int)=Aq (B3 l) m (k:Int):=by
   intro m
   induction m with
   |zero=>intro k _;rfl
   |succ m ih=>
    intro k hk
    have hz:¬((k:Int)=0):=by omega
    have ea:∀rec,Qe l rec (k:Int)=B3 l rec (k:Int):=λrec=>by unfold Qe;rw[AN hz]
    show Qe l (Aq (Qe l) m) (k:Int)=B3 l (Aq (B3 l) m) (k:Int)
    rw[ea]
    have e:∀rec,B3 l rec (k:Int)=cond (decide ((k:Int) < (List.length l:Int))) (Aa (A4 l (IntKind.i64.wrap ((k:Int) - 1))) λe5=>Aa (A4 l (k:Int)) λe7=>cond (decide (e7<=e5)) (some (.inr false)) (rec (IntKind.i64.wrap ((k:Int)+1)))) (some (.inl ())):=λrec=>rfl
    rw[e,e]
    by_cases q:k < l.length
    ·rw[BQ q (Bo h),ih (k+1) (by omega)]
    ·rw[Ah (by omega:¬(k:Int) < (l.length:Int))];rfl
  by_cases hz:l.length=0
  ·have e1:(List.range l.length).any (λk=>Mf l k (NH l k))=false:=by rw[hz];rfl
   rw[e1]
   refine CB (body:=B3 l) (λ_=>1) 0 (λk hk=>absurd hk (by omega)) (λrec=>?_) fz (by unfold fz;omega)
   unfold B3
   rw[hz];rfl
  ·have h2:Aq (Qe l) (fz+1) 0=Aq (B3 l) fz ((1:Nat):Int):=by
    have e0:∀rec,Qe l rec 0=rec 1:=λrec=>by unfold Qe;rw[AJ rfl,AN hz]
    rw[BH,e0]
    exact same fz 1 (by omega)
   rw[h2]at h0
   exact h0
 rw[hB]
 cases(List.range l.length).any λk=>Mf l k (NH l k)<;>rfl
theorem OD{O:Type}{B:(Int->Option (Sum Unit O))->Int->Option (Sum Unit O)}{n:Nat}(g:Nat->Option O)(hn:n<=lim)
  (h1:∀k,k < n->∀rec,B rec (k:Int)=match g k with|some o=>some (.inr o)|none=>rec ((k+1:Nat):Int)) (h2:∀rec,B rec (n:Int)=some (.inl ())):
  Aq B fz 0=some (match(List.range n).findSome? g with|some o=>.inr o|none=>.inl ()):=by
 have key:∀d k,k+d=n->∀m,d < m->Aq B m (k:Int)=some (match(List.range' k d).findSome? g with|some o=>.inr o|none=>.inl ()):=by
  intro d
  induction d with
  |zero=>
   intro k hk m hm
   cases m with
   |zero=>omega
   |succ m=>
    show B (Aq B m) (k:Int)=_
    rw[show k=n by omega,h2];rfl
  |succ d ih=>
   intro k hk m hm
   cases m with
   |zero=>omega
   |succ m=>
    show B (Aq B m) (k:Int)=_
    rw[h1 k (by omega),CX,List.findSome?_cons]
    cases hg:g k with
    |some o=>rfl
    |none=>exact ih (k+1) (by omega) m (by omega)
 have:=key n 0 (by omega) fz (CR hn)
 rw[ED]
 simpa using this
theorem Lo{α:Type}{l:List α}{f:Nat->α->Bool}(h:Cw l f=false){k:Nat}(hk:k < l.length):f k l[k]=false:=by
 unfold Cw at h
 rw[Ct]at h
 have:=h k (Al.2 hk)
 rw[DH hk]at this
 simpa using this
theorem iK{S:Type}{B:(S×Int->Option (Sum S Bool))->S×Int->Option (Sum S Bool)}{n:Nat}(s:Nat->S)(bad:Nat->Bool)(hn:n<=lim)(h1:∀k,k < n->∀rec,B rec (s k,(k:Int))=cond (bad k) (some (.inr false)) (rec (s (k+1),((k+1:Nat):Int))))(h2:∀rec,B rec (s n,(n:Int))=some (.inl (s n))):
  Aq B fz (s 0,0)=some (cond ((List.range n).any bad) (.inr false) (.inl (s n))):=by
 have key:∀d k,k+d=n->(∀j,j < k->bad j=false)->∀m,d < m->Aq B m (s k,(k:Int))=some (cond ((List.range n).any bad) (.inr false) (.inl (s n))):=by
  intro d
  induction d with
  |zero=>
   intro k hk hb m hm
   cases m with
   |zero=>omega
   |succ m=>
    have hkn:k=n:=by omega
    have:(List.range n).any bad=false:=by
     rw[Ct]
     intro x hx
     rw[hb x (by have:=Al.1 hx;omega)];simp
    show B (Aq B m) (s k,(k:Int))=_
    rw[hkn,h2,this];rfl
  |succ d ih=>
   intro k hk hb m hm
   cases m with
   |zero=>omega
   |succ m=>
    show B (Aq B m) (s k,(k:Int))=_
    rw[h1 k (by omega)]
    cases hbk:bad k with
    |true=>
     have:(List.range n).any bad=true:=by rw[Cu];exact⟨k,Al.2 (by omega),hbk⟩
     rw[this];rfl
    |false=>
     exact ih (k+1) (by omega) (λj hj=>by
      rcases BZ j k with h|h
      ·exact hb j h
      ·rw[show j=k by omega];exact hbk) m (by omega)
 have:=key n 0 (by omega) (λj hj=>absurd hj (by omega)) fz (CR hn)
 simpa using this
def TX(l:List Int)(v:Int):Option Nat:=(List.range l.length).findSome? λk=>if(Mf l k λe=>e==v)=true then some k else none
theorem Xd(l:List Int)(v:Int):(TX l v).isSome=l.contains v:=by
 unfold TX
 rw[AG,List.findSome?_isSome_iff,Av]
 constructor
 ·rintro⟨k,hk,h⟩
  have hk:=Al.1 hk
  split at h
  ·rename_i he;rw[DH hk]at he;have:l[k]=v:=by simpa using he
   rw[<-this];exact Ao hk
  ·cases h
 ·intro h
  obtain⟨k,hk,rfl⟩:=CJ.1 h
  exact⟨k,Al.2 hk,by rw[DH hk];simp⟩
def RY(l:List Int)(v:Int):Int:=match TX l v with
 |some k=>(k:Int)
 |none=> -1
theorem Nh(l:List Int)(v:Int):decide (0<=RY l v)=l.contains v:=by
 rw[<-Xd]
 unfold RY
 cases TX l v with
 |some k=>simp
 |none=>rfl
theorem Ty{l:List Int}(h:l.length<=lim)(v:Int):G4 l v=some (RY l v):=by
 unfold G4 RY TX
 rw[OD (O:=Int) (λk=>if(Mf l k λe=>e==v)=true then some (k:Int)else none) h (λk hk rec=>by
  unfold Ph
  rw[BC hk,BL hk,BQ hk (Bo h),DH hk]
  simp only[Ac,Aa]
  cases(l[k]==v)<;>rfl) (λrec=>by unfold Ph;rw[Bl];rfl)]
 have e:((List.range l.length).findSome? λk=>if(Mf l k λe=>e==v)=true then some (k:Int)else none)=((List.range l.length).findSome? λk=>if(Mf l k λe=>e==v)=true then some k else none).map (λk:Nat=>(k:Int)):=by
  rw[Fj]
  congr 1
  funext k
  simp only[Function.comp]
  split<;>rfl
 rw[e]
 cases(List.range l.length).findSome? λk=>if(Mf l k λe=>e==v)=true then some k else none<;>rfl
theorem rQ{l:List Int}(h:l.length<=lim)(v:Int):Oe l v=some (RY l v):=by
 unfold Oe RY TX
 rw[OD (O:=Int) (λk=>if(Mf l k λe=>e==v)=true then some (k:Int)else none) h (λk hk rec=>by
  unfold NV
  rw[BC hk,BL hk,BQ hk (Bo h),DH hk]
  simp only[Ac,Aa]
  cases(l[k]==v)<;>rfl) (λrec=>by unfold NV;rw[Bl];rfl)]
 have e:((List.range l.length).findSome? λk=>if(Mf l k λe=>e==v)=true then some (k:Int)else none)=((List.range l.length).findSome? λk=>if(Mf l k λe=>e==v)=true then some k else none).map (λk:Nat=>(k:Int)):=by
  rw[Fj]
  congr 1
  funext k
  simp only[Function.comp]
  split<;>rfl
 rw[e]
 cases(List.range l.length).findSome? λk=>if(Mf l k λe=>e==v)=true then some k else none<;>rfl
theorem VL{l:List Int}(h:l.length<=lim)(v:Int):Ga l v=some (l.contains v):=by
 unfold Ga
 simp only[rQ h,Aa,Nh]
abbrev Atm:=List UInt8×List Int
abbrev IZ:=Int×List Atm×List Int
theorem aE{a:Atm}(h:a.2.length<=lim)(v:Int):Cz a v=some (a.2.contains v):=by
 unfold Cz
 rw[OD (O:=Bool) (λk=>if(Mf a.2 k λe=>e==v)=true then some true else none) h (λk hk rec=>by
  unfold Ii
  rw[BC hk,BL hk,BQ hk (Bo h),DH hk]
  simp only[Ac,Aa]
  cases(a.2[k]==v)<;>rfl) (λrec=>by unfold Ii;rw[Bl];rfl)]
 rw[<-Xd]
 have e:((List.range a.2.length).findSome? λk=>if(Mf a.2 k λe=>e==v)=true then some true else none)=(TX a.2 v).map (λ_=>true):=by
  unfold TX
  rw[Fj]
  congr 1
  funext k
  simp only[Function.comp]
  split<;>rfl
 rw[e]
 cases TX a.2 v<;>rfl
def Hr(n:Int)(l:List Int)(k:Nat)(e:Int):Bool:= !JP e 0 (IntKind.i64.wrap (n - 1)) || (l.take k).contains e
theorem R5{α:Type}(l:List α)(k:Nat):Mj l 0 (k:Int)=l.take k:=by simp[Mj]
theorem jS{l:List Int}(h:l.length<=lim)(n:Int):KS l n=some (!Cw l (Hr n l)):=by
 unfold KS Cw
 rw[Iv (λk=>Mf l k (Hr n l k)) h (λk hk rec=>by
  unfold NW
  rw[BC hk,BL hk,BQ hk (Bo h),DH hk]
  simp only[Ac,Aa,Jq]
  rw[AZ (by omega),R5]
  simp only[VL (l:=l.take k) (by rw[Bk];omega),Hr]
  cases JP l[k] 0 (IntKind.i64.wrap (n - 1))<;>rfl) (λrec=>by unfold NW;rw[Bl];rfl)]
 cases(List.range l.length).any λk=>Mf l k (Hr n l k)<;>rfl
def Mn(n:Int)(a:Atm):Bool:= !nmB a.1 || (!JP (a.2.length:Int) 1 5 || Cw a.2 λ_ v=> !JP v 0 (IntKind.i64.wrap (n - 1)))
def LF(q:IZ):Prop:=q.2.1.length<=lim∧(∀a∈q.2.1,a.1.length<=lim∧a.2.length<=lim)∧q.2.2.length<=lim
def Il(l:List Atm)(v:Int):Bool:=l.any λa=>a.2.contains v
theorem oz{q:IZ}(h:LF q):Aq (H3 q) fz 0=some (cond (Cw q.2.1 λ_ a=>Mn q.1 a) (.inr false) (.inl ())):=by
 unfold Cw
 refine Iv (λk=>Mf q.2.1 k λa=>Mn q.1 a) h.1 (λk hk rec=>?_) (λrec=>by unfold H3;rw[Bl];rfl)
 have ha:=h.2.1 _ (Ao hk)
 unfold H3
 rw[BC hk,BL hk,BQ hk (Bo h.1),DH hk]
 simp only[Ac,Aa,uu ha.1,Ni,Mn]
 cases nmB q.2.1[k].1 with
 |false=>rfl
 |true=>
  cases JP (q.2.1[k].2.length:Int) 1 5 with
  |false=>rfl
  |true=>
   simp only[Aj,Ad,Cr]
   rw[Iv (λj=>Mf q.2.1[k].2 j λv=> !JP v 0 (IntKind.i64.wrap (q.1 - 1))) ha.2 (λj hj rec=>by
    unfold KG
    rw[BL hk]
    simp only[Aa]
    rw[BC hj,BL hj,BQ hj (Bo ha.2),DH hj]
    simp only[Ac,Ni]) (λrec=>by unfold KG;rw[BL hk];simp only[Aa];rw[Bl];rfl)]
   unfold Cw
   cases(List.range q.2.1[k].2.length).any λj=>Mf q.2.1[k].2 j λv=> !JP v 0 (IntKind.i64.wrap (q.1 - 1))<;>rfl
theorem uz{q:IZ}(h:LF q)(v:Int):Aq (Fl q v) fz (false,0)=some (Il q.2.1 v):=by
 have:=CB (body:=Fl q v) (out:=Il q.2.1 v) (λk=>(Il (q.2.1.take k) v,(k:Int))) q.2.1.length (λk hk rec=>by
  have ha:=h.2.1 _ (Ao hk)
  unfold Fl H6
  simp only
  rw[BC hk,BL hk,BQ hk (Bo h.1)]
  simp only[Ac,Aa,aE ha.2]
  have e:Il (q.2.1.take (k+1)) v=(Il (q.2.1.take k) v || q.2.1[k].2.contains v):=by
   unfold Il
   rw[Au hk,Gn];simp
  rw[e]
  cases Il (q.2.1.take k) v<;>rfl) (λrec=>by unfold Fl;simp only;rw[Bl,A5];rfl) fz (CR h.1)
 simpa[Il]using this
theorem oA{q:IZ}(h:LF q)(hn:1<=q.1∧q.1<=5):Aq (H4 q) fz 0=some (cond ((List.range q.1.toNat).any λv=> !Il q.2.1 (v:Int)) (.inr false) (.inl ())):=by
 have e:q.1=(q.1.toNat:Int):=by omega
 refine Iv (λv=> !Il q.2.1 (v:Int)) (by unfold lim;omega) (λk hk rec=>?_) (λrec=>by
  unfold H4
  rw[Ah (by omega:¬((q.1.toNat:Nat):Int) < q.1)];rfl)
 unfold H4
 rw[Ai (by omega:(k:Int) < q.1),uz h,wrap_in (by omega)]
 simp only[Ac,Aa]
 rfl
theorem yb{q:IZ}(h:LF q):Aq (H5 q) fz 0=some (cond (Cw q.2.2 (Hr q.1 q.2.2)) (.inr false) (.inl ())):=by
 unfold Cw
 refine Iv (λk=>Mf q.2.2 k (Hr q.1 q.2.2 k)) h.2.2 (λk hk rec=>?_) (λrec=>by unfold H5;rw[Bl];rfl)
 unfold H5
 rw[BC hk,BL hk,BQ hk (Bo h.2.2),DH hk]
 simp only[Ac,Aa,Ni]
 rw[AZ (by omega),R5]
 simp only[Ty (l:=q.2.2.take k) (by rw[Bk];have:=h.2.2;omega),Nh,Hr]
 cases JP q.2.2[k] 0 (IntKind.i64.wrap (q.1 - 1))<;>rfl
def DD(q:IZ):Bool:=JP q.1 1 5&&(JP (q.2.1.length:Int) 1 4&&(!Cw q.2.2 (Hr q.1 q.2.2)&&(!(Cw q.2.1 λ_ a=>Mn q.1 a)&& !((List.range q.1.toNat).any λv=> !Il q.2.1 (v:Int)))))
theorem few:∀(n:Nat) (l:List Int),l.Nodup->(∀e∈l,0<=e∧e < (n:Int))->l.length<=n
 |0,l,_,h=>by
  cases l with
  |nil=>simp
  |cons e l=>have:=h e (by simp);omega
 |n+1,l,hd,h=>by
  have h1:=few n (l.erase (n:Int)) (hd.erase _) (λe he=>by
   have h2:=h e (List.mem_of_mem_erase he)
   have h3:e≠(n:Int):=λq=>by subst q;exact(List.Nodup.not_mem_erase hd) he
   omega)
  have h2:=List.length_erase (a:=(n:Int)) (l:=l)
  split at h2<;>omega
theorem oH{n:Int}(hn:1<=n∧n<=5){l:List Int}(h:Cw l (Hr n l)=false):(l.length:Int)<=n:=by
 have hw:IntKind.i64.wrap (n - 1)=n - 1:=wrap_in (by omega)
 have hin:∀e∈l,0<=e∧e < (n.toNat:Int):=by
  intro e he
  obtain⟨k,hk,rfl⟩:=CJ.1 he
  have:=Lo h hk
  unfold Hr JP at this
  simp only[C2,C6,Ab,AB,hw]at this
  omega
 have hd:l.Nodup:=by
  rw[List.nodup_iff_pairwise_ne,List.pairwise_iff_getElem]
  intro i j hi hj hij he
  have:=Lo h hj
  unfold Hr at this
  simp only[C2]at this
  have h2:=this.2
  have:(l.take j).contains l[j]=true:=by
   rw[Av,CJ]
   exact⟨i,by rw[Bk];omega,by rw[List.getElem_take];exact he⟩
  rw[this]at h2;cases h2
 have:=few n.toNat l hd hin
 omega
theorem Nr{q:IZ}(h:LF q):CU q=some (DD q):=by
 unfold CU DD
 simp only[Ni,Aa,oz h,yb h]
 cases hb:JP q.1 1 5 with
 |false=>rfl
 |true=>
  have hn:1<=q.1∧q.1<=5:=by unfold JP at hb;simpa using hb
  rw[oA h hn]
  cases JP (q.2.1.length:Int) 1 4 with
  |false=>rfl
  |true=>
   by_cases hl:q.1 < (q.2.2.length:Int)
   ·rw[Ai hl]
    have:Cw q.2.2 (Hr q.1 q.2.2)=true:=by
     cases hs:Cw q.2.2 (Hr q.1 q.2.2)with
     |true=>rfl
     |false=>have:=oH hn hs;omega
    rw[this];rfl
   ·rw[Ah hl]
    cases Cw q.2.2 (Hr q.1 q.2.2)<;>cases(Cw q.2.1 λ_ a=>Mn q.1 a)<;>cases((List.range q.1.toNat).any λv=> !Il q.2.1 (v:Int))<;>rfl
def uL(m:Nat)(f:Nat->Bool):List Bool:=(List.range m).map f
theorem VC(m:Nat)(f:Nat->Bool):(uL m f).length=m:=by simp[uL]
theorem uM{m v:Nat}(f:Nat->Bool):(uL m f).set v true=uL m (λu=>f u || u==v):=by
 apply Eu
 ·simp[uL]
 ·intro i h1 h2
  rw[Ev]
  simp only[uL,BU,D1]
  split
  ·rename_i e;subst e;simp
  ·rename_i e
   have:(i==v)=false:=by simp;omega
   rw[this];simp
theorem ni{q:IZ}(h:LF q)(hn:1<=q.1∧q.1<=5):Aq (F9 q) fz (List.replicate (Int.toNat q.1) false,0)=some (cond (Cw q.2.1 λ_ a=>Mn q.1 a) (.inr false) (.inl (uL q.1.toNat λv=>Il q.2.1 (v:Int)))):=by
 have hw:IntKind.i64.wrap (q.1 - 1)=q.1 - 1:=wrap_in (by omega)
 have h0:List.replicate (Int.toNat q.1) false=uL q.1.toNat λv=>Il (q.2.1.take 0) (v:Int):=by
  unfold uL Il
  simp[Em]
 rw[h0]
 unfold Cw
 have:=iK (B:=F9 q) (n:=q.2.1.length) (λk=>uL q.1.toNat λv=>Il (q.2.1.take k) (v:Int)) (λk=>Mf q.2.1 k λa=>Mn q.1 a) h.1 (λk hk rec=>by
  have ha:=h.2.1 _ (Ao hk)
  unfold F9
  simp only
  rw[BC hk,BL hk,BQ hk (Bo h.1),DH hk]
  simp only[Ac,Aa,rR ha.1,Jq,Mn]
  cases nmB q.2.1[k].1 with
  |false=>rfl
  |true=>
   cases JP (q.2.1[k].2.length:Int) 1 5 with
   |false=>rfl
   |true=>
    simp only[Aj,Ad,Cr]
    have hin:=iK (B:=HR q q.2.1[k]) (n:=q.2.1[k].2.length) (λj=>uL q.1.toNat λv=>Il (q.2.1.take k) (v:Int) || (q.2.1[k].2.take j).contains (v:Int)) (λj=>Mf q.2.1[k].2 j λv=> !JP v 0 (IntKind.i64.wrap (q.1 - 1))) ha.2 (λj hj rec=>by
     unfold HR
     simp only
     rw[BC hj,BL hj,BQ hj (Bo ha.2),DH hj]
     simp only[Ac,Aa,Jq]
     cases hb:JP q.2.1[k].2[j] 0 (IntKind.i64.wrap (q.1 - 1))with
     |false=>rfl
     |true=>
      have hv:0<=q.2.1[k].2[j]∧q.2.1[k].2[j]<=q.1 - 1:=by rw[hw]at hb;unfold JP at hb;simpa using hb
      have hvn:q.2.1[k].2[j]=((q.2.1[k].2[j].toNat:Nat):Int):=by omega
      simp only[Aj,Ad]
      rw[hvn,BL (by rw[VC];omega)]
      simp only
      congr 2
      unfold Dj
      rw[Bg,uM _]
      congr 1
      funext u
      rw[Au hj,List.contains_append,Bool.or_assoc]
      congr 1
      congr 1
      rw[hvn]
      simp only[List.contains_cons,List.contains_nil,C0]
      rw[AG]
      simp
      omega) (λrec=>by unfold HR;simp only;rw[Bl];rfl)
    have e0:(uL q.1.toNat λv=>Il (q.2.1.take k) (v:Int) || (q.2.1[k].2.take 0).contains (v:Int))=uL q.1.toNat λv=>Il (q.2.1.take k) (v:Int):=by
     unfold uL;simp
    have e1:(uL q.1.toNat λv=>Il (q.2.1.take k) (v:Int) || (q.2.1[k].2.take q.2.1[k].2.length).contains (v:Int))=uL q.1.toNat λv=>Il (q.2.1.take (k+1)) (v:Int):=by
     congr 1
     funext v
     unfold Il
     rw[A5,Au hk,Gn];simp
    simp only[e0,e1]at hin
    rw[hin]
    unfold Cw
    cases(List.range q.2.1[k].2.length).any λj=>Mf q.2.1[k].2 j λv=> !JP v 0 (IntKind.i64.wrap (q.1 - 1))<;>rfl) (λrec=>by unfold F9;simp only;rw[Bl];rfl)
 rw[A5]at this
 exact this
theorem Mr{q:IZ}(h:LF q):CI q=some (DD q):=by
 unfold CI DD
 simp only[Jq,Aa,jS h.2.2]
 cases hb:JP q.1 1 5 with
 |false=>rfl
 |true=>
  have hn:1<=q.1∧q.1<=5:=by unfold JP at hb;simpa using hb
  cases JP (q.2.1.length:Int) 1 4 with
  |false=>rfl
  |true=>
   cases Cw q.2.2 (Hr q.1 q.2.2)with
   |true=>rfl
   |false=>
    simp only[Aj,Dn,Ad,AC]
    rw[AZ (by unfold lim;omega),ni h hn]
    cases(Cw q.2.1 λ_ a=>Mn q.1 a)with
    |true=>rfl
    |false=>
     simp only[Ad,Dn,AC]
     rw[Iv (n:=(uL q.1.toNat λv=>Il q.2.1 (v:Int)).length) (λk=> !Il q.2.1 (k:Int)) (by rw[VC];unfold lim;omega) (λk hk rec=>by
      unfold Kl
      rw[BC hk,BL hk,BQ hk (by rw[VC];unfold maxLen;omega)]
      simp only[Ac,Aa,uL,BU,D1]) (λrec=>by unfold Kl;rw[Bl];rfl),VC]
     cases(List.range q.1.toNat).any λv=> !Il q.2.1 (v:Int)<;>rfl
theorem WQ{α:Type}{l:List α}{f:α->Bool}(h:Cw l (λ_ e=>f e)=false){a:α}(ha:a∈l):f a=false:=by
 obtain⟨k,hk,rfl⟩:=CJ.1 ha
 exact Lo h hk
theorem ip{q:IZ}(h:DD q=true):1<=q.1∧q.1<=5∧q.2.1.length<=4∧∀a∈q.2.1,1<=a.2.length∧a.2.length<=5∧∀v∈a.2,0<=v∧v < q.1:=by
 unfold DD at h
 simp only[Ab,AD]at h
 obtain⟨h1,h2,-,h4,-⟩:=h
 have e1:1<=q.1∧q.1<=5:=by unfold JP at h1;simpa using h1
 have e2:1<=(q.2.1.length:Int)∧(q.2.1.length:Int)<=4:=by unfold JP at h2;simpa using h2
 refine⟨e1.1,e1.2,by omega,λa ha=>?_⟩
 have h5:=WQ h4 ha
 unfold Mn at h5
 simp only[C2,C6]at h5
 have e3:1<=(a.2.length:Int)∧(a.2.length:Int)<=5:=by have:=h5.2.1;unfold JP at this;simpa using this
 refine⟨by omega,by omega,λv hv=>?_⟩
 have h6:=WQ h5.2.2 hv
 simp only[C6]at h6
 rw[wrap_in (by omega)]at h6
 have:0<=v∧v<=q.1 - 1:=by unfold JP at h6;simpa using h6
 omega
theorem L7{α:Type}{l:List α}{f:Nat->α->Bool}(h:∀i (hi:i < l.length),f i l[i]=false):Cw l f=false:=by
 unfold Cw
 rw[Ct]
 intro k hk
 have hk:=Al.1 hk
 rw[DH hk,h k hk]
 simp
def Zk(f:Int->Bool)(l:List Int)(k:Nat):List Nat:=(List.range k).filter λi=>Mf l i f
theorem xP(f:Int->Bool)(l:List Int)(k:Nat):Zk f l (k+1)=Zk f l k++(if Mf l k f=true then [k]else []):=by
 unfold Zk
 rw[CK,Dl,Dr,Gp]
theorem Uq{f:Int->Bool}{l:List Int}{k i:Nat}:i∈Zk f l k↔i < k∧Mf l i f=true:=by
 unfold Zk
 rw[Be,Al]
theorem kX{l:List Nat}{r:Nat}(hn:l.Nodup)(hr:r∈l)(h:∀i∈l,i=r):l=[r]:=by
 cases l with
 |nil=>cases hr
 |cons a l=>
  have ha:=h a (by simp)
  subst ha
  cases l with
  |nil=>rfl
  |cons b l=>
   have hb:=h b (by simp)
   subst hb
   rw[Bx]at hn
   exact absurd (by simp) hn.1
theorem fM{f:Int->Bool}{l:List Int}{n r:Nat}:Zk f l n=[r]↔(r < n∧Mf l r f=true)∧∀i,i < n->Mf l i f=true->i=r:=by
 constructor
 ·intro h
  refine⟨Uq.1 (by rw[h];simp),λi hi hf=>?_⟩
  have:=Uq.2 ⟨hi,hf⟩
  rw[h]at this
  simpa using this
 ·rintro⟨h1,h2⟩
  refine kX ?_ (Uq.2 h1) (λi hi=>h2 i (Uq.1 hi).1 (Uq.1 hi).2)
  exact List.Nodup.sublist List.filter_sublist Fd
def Uo(p:List Int):Int:=match Zk (λx=>x== -1) p p.length with
 |[r]=>(r:Int)
 |_=> -1
def Ym(p:List Int)(a:Int):Int:=(p[a.toNat]?).getD (-1)
def inP(p:List Int)(a:Int):Bool:=JP a (-1) ((p.length:Int) - 1)
def R9(p:List Int):Nat->Int->Option Int
 |0,a=>some a
 |m+1,a=>if 0<=a then(if inP p (Ym p a)=true then R9 p m (Ym p a)else none)else some a
def endsB(p:List Int)(i:Nat):Bool:=match R9 p (p.length+1) i with
 |some a=>decide (a < 0)
 |none=>false
def UA(p:List Int):Bool:=(!Cw p λi x=> !inP p x || !endsB p i)&&(((Zk (λx=>decide (x < 0)) p p.length).length:Int)==1)
def Lw(p:List Int):Nat->Int->List Int
 |0,_=>[]
 |m+1,a=>if 0<=a∧a < (p.length:Int)then a::Lw p m (Ym p a)else []
def dJ(p:List Int)(i:Nat):Bool:=decide ((Lw p (p.length+1) i).length<=p.length)&&((Lw p (p.length+1) i).getLast?==some (Uo p))
def cL(p:List Int):Bool:=decide (0<=Uo p)&& !Cw p λi _=> !dJ p i
def goUp(p:List Int):Nat->Int->Int
 |0,a=>a
 |m+1,a=>if 0<=a then goUp p m (Ym p a)else a
theorem jE{p:List Int}{a:Int}(h:a < 0):∀m,goUp p m a=a
 |0=>rfl
 |m+1=>by rw[goUp,AN (by omega)]
theorem U9{p:List Int}:∀{m:Nat}{a:Int},goUp p m a < 0->goUp p (m+1) a < 0
 |0,a,h=>by rw[jE (show a < 0 from h)];exact h
 |m+1,a,h=>by
  rw[goUp]at h⊢
  split
  ·rename_i h0;rw[AJ h0]at h;exact U9 h
  ·rename_i h0;rw[AN h0]at h;exact h
def wide(p:List Int):Prop:=∀(i:Nat) (h:i < p.length),-1<=p[i]∧p[i]<=(p.length:Int) - 1
theorem aR{p:List Int}(hw:wide p){a:Int}(h0:0<=a)(h1:a < (p.length:Int)): -1<=Ym p a∧Ym p a < (p.length:Int):=by
 have hk:a.toNat < p.length:=by omega
 have:=hw a.toNat hk
 unfold Ym
 rw[Ae hk]
 simp only[BJ]
 omega
theorem aT{p:List Int}(hw:wide p):∀(m:Nat) {a:Int},a < (p.length:Int)->R9 p m a=some (goUp p m a)
 |0,a,_=>rfl
 |m+1,a,h=>by
  rw[R9,goUp]
  split
  ·rename_i h0
   have:=aR hw h0 h
   rw[AJ (by unfold inP JP;simp;omega)]
   exact aT hw m this.2
  ·rfl
theorem Zb{p:List Int}(hw:wide p):∀(m:Nat) {a:Int},0<=a->a < (p.length:Int)->goUp p m a < 0->∃l,(Lw p m a).getLast?=some l∧0<=l∧l < (p.length:Int)∧Ym p l < 0
 |0,a,h0,_,h=>absurd (show a < 0 from h) (by omega)
 |m+1,a,h0,h1,h=>by
  rw[goUp,AJ h0]at h
  have hb:=aR hw h0 h1
  rw[Lw,AJ ⟨h0,h1⟩]
  by_cases hn:Ym p a < 0
  ·refine⟨a,?_,h0,h1,hn⟩
   have:Lw p m (Ym p a)=[]:=by cases m<;>simp[Lw];omega
   rw[this];rfl
  ·obtain⟨l,e,q⟩:=Zb hw m (by omega) hb.2 h
   refine⟨l,?_,q⟩
   rw[List.getLast?_cons,e];rfl
theorem fF{p:List Int}:∀(m:Nat) {a x:Int},x∈Lw p m a->0<=x∧x < (p.length:Int)
 |0,_,_,h=>by cases h
 |m+1,a,x,h=>by
  rw[Lw]at h
  split at h
  ·rename_i hc
   rcases AO.1 h with rfl|h
   ·exact hc
   ·exact fF m h
  ·cases h
theorem Za{p:List Int}:∀(m:Nat) {a x:Int}{j:Nat},x∈Lw p m a->goUp p j a < 0->goUp p j x < 0
 |0,_,_,_,h,_=>by cases h
 |m+1,a,x,j,h,hj=>by
  rw[Lw]at h
  split at h
  ·rename_i hc
   rcases AO.1 h with rfl|h
   ·exact hj
   ·cases j with
    |zero=>exact absurd (show a < 0 from hj) (by omega)
    |succ j=>
     rw[goUp,AJ hc.1]at hj
     exact U9 (Za m h hj)
  ·cases h
theorem YW{p:List Int}{a:Int}:∀j,goUp p j a < 0->∃k,goUp p k a < 0∧∀i,i < k->¬goUp p i a < 0
 |0,h=>⟨0,h,λi hi=>absurd hi (by omega)⟩
 |j+1,h=>by
  by_cases h':goUp p j a < 0
  ·exact YW j h'
  ·refine⟨j+1,h,λi hi hn=>h' ?_⟩
   have:∀d,i+d<=j->goUp p (i+d) a < 0:=by
    intro d
    induction d with
    |zero=>intro _;exact hn
    |succ d ih=>intro hd;exact U9 (ih (by omega))
   have:=this (j - i) (by omega)
   rwa [show i+(j - i)=j by omega]at this
theorem XT{p:List Int}:∀(m:Nat) {a:Int}{j:Nat},goUp p j a < 0->(Lw p m a).Nodup
 |0,_,_,_=>Ax
 |m+1,a,j,h=>by
  rw[Lw]
  split
  ·rename_i hc
   obtain⟨k,h1,h2⟩:=YW j h
   cases k with
   |zero=>exact absurd (show a < 0 from h1) (by omega)
   |succ k=>
    have h3:=h1
    rw[goUp,AJ hc.1]at h3
    refine Bx.2 ⟨λhm=>?_,XT m h3⟩
    exact h2 k (by omega) (Za m hm h3)
  ·exact Ax
theorem XU{p:List Int}(hw:wide p):∀(m:Nat) {a:Int},a < (p.length:Int)->(Lw p m a).length < m->goUp p m a < 0
 |0,_,_,h=>absurd h (by omega)
 |m+1,a,h1,h=>by
  rw[goUp]
  split
  ·rename_i h0
   rw[Lw,AJ ⟨h0,h1⟩,AL]at h
   exact XU hw m (aR hw h0 h1).2 (by omega)
  ·omega
theorem lB{p:List Int}(h:0<=Uo p):∃r:Nat,Uo p=(r:Int)∧Zk (λx=>x== -1) p p.length=[r]:=by
 unfold Uo at *
 split at h
 ·rename_i r e;exact⟨r,rfl,e⟩
 ·omega
theorem lD{p:List Int}(hw:wide p):Zk (λx=>decide (x < 0)) p p.length=Zk (λx=>x== -1) p p.length:=by
 unfold Zk
 refine GG λi hi=>?_
 have hi:=Al.1 hi
 rw[DH hi,DH hi,AG]
 have:=hw i hi
 simp
 omega
theorem aU{p:List Int}(h:∀i (hi:i < p.length),inP p p[i]=true):wide p:=λi hi=>by
 have:=h i hi
 unfold inP JP at this
 simp only[Ab,AB]at this
 exact this
theorem ge(p:List Int):UA p=cL p:=by
 rw[AG]
 constructor
 ·intro h
  unfold UA at h
  simp only[Ab,AD,Bi]at h
  obtain⟨h1,h2⟩:=h
  have h1':∀i (hi:i < p.length),inP p p[i]=true∧endsB p i=true:=λi hi=>by
   have:=Lo h1 hi
   simpa using this
  have hw:=aU λi hi=>(h1' i hi).1
  have hend:∀i,i < p.length->goUp p (p.length+1) i < 0:=λi hi=>by
   have:=(h1' i hi).2
   unfold endsB at this
   rw[aT hw _ (by omega)]at this
   simpa using this
  rw[lD hw]at h2
  obtain⟨r,hr⟩:∃r,Zk (λx=>x== -1) p p.length=[r]:=List.length_eq_one_iff.1 (by omega)
  have hroot:Uo p=(r:Int):=by unfold Uo;rw[hr]
  have hq:=fM.1 hr
  unfold cL
  simp only[Ab,AB,AD]
  refine⟨by omega,L7 λi hi=>?_⟩
  have h3:=hend i hi
  obtain⟨l,e1,e2,e3,e4⟩:=Zb hw (p.length+1) (a:=i) (by omega) (by omega) h3
  have hlen:=few p.length (Lw p (p.length+1) i) (XT _ h3) (λx hx=>fF _ hx)
  have hl:l=Uo p:=by
   have hk:l.toNat < p.length:=by omega
   have:=hq.2 l.toNat hk (by
    rw[DH hk]
    unfold Ym at e4
    rw[Ae hk]at e4
    simp only[BJ]at e4
    have:=hw l.toNat hk
    simp
    omega)
   omega
  unfold dJ
  rw[e1,hl]
  simp
  exact hlen
 ·intro h
  unfold cL at h
  simp only[Ab,AB,AD]at h
  obtain⟨h1,h2⟩:=h
  obtain⟨r,hroot,hr⟩:=lB h1
  have hq:=fM.1 hr
  have h3:∀i,i < p.length->(Lw p (p.length+1) i).length<=p.length∧(Lw p (p.length+1) i).getLast?=some (Uo p):=λi hi=>by
   have:=Lo h2 hi
   unfold dJ at this
   simpa using this
  have hin:∀i (hi:i < p.length),inP p p[i]=true:=λi hi=>by
   unfold inP JP
   simp only[Ab,AB]
   have hl:=(h3 i hi).2
   rw[Lw,AJ (by omega)]at hl
   have hu:Ym p i=p[i]:=by unfold Ym;rw[Bg,Ae hi];rfl
   by_cases hc:0<=p[i]∧p[i] < (p.length:Int)
   ·omega
   ·have:Lw p p.length (Ym p i)=[]:=by
     rw[hu]
     cases hn:p.length with
     |zero=>rfl
     |succ m=>rw[Lw,AN (by omega)]
    rw[this]at hl
    simp only[List.getLast?_singleton,Ak]at hl
    have:i=r:=by omega
    subst this
    have:=hq.1.2
    rw[DH hi]at this
    have:p[i]= -1:=by simpa using this
    omega
  have hw:=aU hin
  unfold UA
  simp only[Ab,AD,Bi]
  refine⟨L7 λi hi=>?_,by rw[lD hw,hr];rfl⟩
  rw[hin i hi]
  have:=XU hw (p.length+1) (a:=i) (by omega) (by have:=(h3 i hi).1;omega)
  unfold endsB
  rw[aT hw _ (by omega)]
  simpa using this
theorem uw{l:List Int}(h:l.length<=lim):Jl l=some (!Cw l (Hr (l.length:Int) l)&&decide ((l.length:Int)<=5)):=by
 unfold Jl Cw
 rw[Iv (λk=>Mf l k (Hr (l.length:Int) l k)) h (λk hk rec=>by
  unfold JL
  rw[BC hk,BL hk,BQ hk (Bo h),DH hk]
  simp only[Ac,Aa,Ni]
  rw[AZ (by omega),R5]
  simp only[Ty (l:=l.take k) (by rw[Bk];omega),Nh,Hr]
  cases JP l[k] 0 (IntKind.i64.wrap ((l.length:Int) - 1))<;>rfl) (λrec=>by unfold JL;rw[Bl];rfl)]
 cases(List.range l.length).any λk=>Mf l k (Hr (l.length:Int) l k)<;>simp[Aa]
def ij(q:IZ)(o:List Int):Bool:=DD q&&(((o.length:Int)==q.1)&& !Cw o (Hr q.1 o))
theorem MN{q:IZ}(h:DD q=true):1<=q.1∧q.1<=5:=by
 unfold DD JP at h
 simp only[Ab,AB]at h
 exact h.1
theorem oD{q:IZ}{o:List Int}(hq:LF q)(ho:o.length<=lim):J6 q o=some (ij q o):=by
 unfold J6 Gf ij
 simp only[Nr hq,uw ho,Aa]
 cases hv:DD q with
 |false=>rfl
 |true=>
  have hn:=MN hv
  cases hl:((o.length:Int)==q.1)with
  |false=>rfl
  |true=>
   have hl:(o.length:Int)=q.1:=by simpa using hl
   rw[hl,Ai hn.2]
   simp
theorem nl{q:IZ}{o:List Int}(hq:LF q)(ho:o.length<=lim):JX q o=some (ij q o):=by
 unfold JX F8 ij
 simp only[Mr hq,jS ho,Aa]
 cases DD q with
 |false=>rfl
 |true=>cases((o.length:Int)==q.1)<;>rfl
theorem HG{α β:Type}(a:α)(f:α->Option β):Aa (some a) f=f a:=rfl
theorem qK{S O:Type}(v:O){B:(S×Int->Option (Sum S O))->S×Int->Option (Sum S O)}{n:Nat}(s:Nat->S)(bad:Nat->Bool)(hn:n<=lim)(h1:∀k,k < n->∀rec,B rec (s k,(k:Int))=cond (bad k) (some (.inr v)) (rec (s (k+1),((k+1:Nat):Int))))(h2:∀rec,B rec (s n,(n:Int))=some (.inl (s n))):
  Aq B fz (s 0,0)=some (cond ((List.range n).any bad) (.inr v) (.inl (s n))):=by
 have key:∀d k,k+d=n->(∀j,j < k->bad j=false)->∀m,d < m->Aq B m (s k,(k:Int))=some (cond ((List.range n).any bad) (.inr v) (.inl (s n))):=by
  intro d
  induction d with
  |zero=>
   intro k hk hb m hm
   cases m with
   |zero=>omega
   |succ m=>
    have hkn:k=n:=by omega
    have:(List.range n).any bad=false:=by
     rw[Ct]
     intro x hx
     rw[hb x (by have:=Al.1 hx;omega)];simp
    show B (Aq B m) (s k,(k:Int))=_
    rw[hkn,h2,this];rfl
  |succ d ih=>
   intro k hk hb m hm
   cases m with
   |zero=>omega
   |succ m=>
    show B (Aq B m) (s k,(k:Int))=_
    rw[h1 k (by omega)]
    cases hbk:bad k with
    |true=>
     have:(List.range n).any bad=true:=by rw[Cu];exact⟨k,Al.2 (by omega),hbk⟩
     rw[this];rfl
    |false=>
     exact ih (k+1) (by omega) (λj hj=>by
      rcases BZ j k with h|h
      ·exact hb j h
      ·rw[show j=k by omega];exact hbk) m (by omega)
 have:=key n 0 (by omega) (λj hj=>absurd hj (by omega)) fz (CR hn)
 simpa using this
theorem oy(f:Int->Bool)(l:List Int)(k:Nat):(Zk f l k).length<=k:=by
 unfold Zk
 exact By (BR _ _) (by simp)
theorem mq{n:Nat}(h:n<=lim):IntKind.i64.wrap ((n:Int) - 1)=(n:Int) - 1:=wrap_in (by unfold lim at h;omega)
theorem aV{k:Nat}(h:k<=lim):IntKind.i64.wrap ((k:Int)+1)=((k+1:Nat):Int):=by rw[wrap_in (by unfold lim at h;omega)];simp
theorem yt{p:List Int}{k:Nat}(h:k < p.length):Ym p (k:Int)=p[k]:=by unfold Ym;rw[Bg,Ae h];rfl
theorem jT{p:List Int}(hp:p.length<=lim):∀(m k:Nat) (a:Int),k+m=p.length+1->a < (p.length:Int)->∀f,m < f->Aq (Kr p) f (a,(k:Int))=some (match R9 p m a with|some b=>.inl b|none=>.inr false)
 |0,k,a,hk,ha,f,hf=>by
  cases f with
  |zero=>omega
  |succ f=>
   rw[BH,Kr]
   rw[Ah (by omega:¬(k:Int)<=(p.length:Int))];rfl
 |m+1,k,a,hk,ha,f,hf=>by
  cases f with
  |zero=>omega
  |succ f=>
   rw[BH,Kr]
   rw[Ai (by omega:(k:Int)<=(p.length:Int)),Ac,R9]
   by_cases h0:0<=a
   ·have hj:a.toNat < p.length:=by omega
    have e:a=((a.toNat:Nat):Int):=by omega
    have hg:A4 p a=some (Ym p a):=by rw[e,BL hj,yt hj]
    rw[Ai h0,AJ h0,Ac,hg]
    simp only[HG,Jq,mq hp]
    show(cond (!inP p (Ym p a)) _ _)=_
    cases hi:inP p (Ym p a)with
    |false=>rfl
    |true=>
     rw[aV (by omega)]
     have:=jT hp m (k+1) (Ym p a) (by omega) (by unfold inP JP at hi;simp at hi;omega) f (by omega)
     exact this
   ·rw[Ah h0,AN h0];rfl
theorem jJ{p:List Int}(hp:p.length < lim):Pz p=some (UA p):=by
 unfold Pz UA Cw
 have h0:(0:Int)=(((Zk (λx=>decide (x < 0)) p 0).length:Nat):Int):=rfl
 have:=qK false (B:=Kq p) (n:=p.length) (λk=>(((Zk (λx=>decide (x < 0)) p k).length:Nat):Int)) (λk=>Mf p k λx=> !inP p x || !endsB p k) (by omega) (λk hk rec=>by
  have hw:=jT (p:=p) (by omega) (p.length+1) 0 (k:Int) (by omega) (by omega) fz (by unfold fz;unfold lim at hp;omega)
  have hlen:=oy (λx=>decide (x < 0)) p k
  unfold Kq Mz
  simp only
  rw[BC hk,BL hk,DH hk,aV (show k<=lim by omega)]
  simp only[Ac,HG,Jq,mq (show p.length<=lim by omega)]
  show(cond (!inP p p[k]) _ _)=_
  cases hi:inP p p[k]with
  |false=>rfl
  |true=>
   simp only[Aj,Ad,Cr]
   have key:∀r:Int,(Aa (Aq (Kr p) fz ((k:Int),0)) λo3=>(match o3 with|.inl z15=>(cond (decide (0<=z15)) (some (.inr false)) (rec (r,((k+1:Nat):Int))))|.inr r=>some (.inr r)))=cond (!endsB p k) (some (.inr false)) (rec (r,((k+1:Nat):Int))):=by
    intro r
    rw[show((k:Int),(0:Int))=((k:Int),((0:Nat):Int))from rfl,hw,HG]
    unfold endsB
    cases R9 p (p.length+1) (k:Int)with
    |none=>rfl
    |some a=>
     simp only
     by_cases ha:a < 0
     ·rw[Ah (by omega:¬0<=a),Ai ha];rfl
     ·rw[Ai (by omega:0<=a),Ah ha];rfl
   have hs:∀r:Int,r=(((Zk (λx=>decide (x < 0)) p (k+1)).length:Nat):Int)->cond (!endsB p k) (some (Sum.inr false)) (rec (r,((k+1:Nat):Int)))=cond (!endsB p k) (some (.inr false)) (rec ((((Zk (λx=>decide (x < 0)) p (k+1)).length:Nat):Int),((k+1:Nat):Int))):=λr e=>by rw[e]
   have hstep:=xP (λx=>decide (x < 0)) p k
   rw[DH hk]at hstep
   by_cases hn:p[k] < 0
   ·rw[Ai hn,Ac]
    refine(key _).trans (hs _ ?_)
    rw[wrap_in (by unfold lim at hp;omega),hstep,Ai hn]
    simp
   ·rw[Ah hn,Ad]
    refine(key _).trans (hs _ ?_)
    rw[hstep,Ah hn]
    simp) (λrec=>by unfold Kq;simp only;rw[Bl];rfl)
 rw[<-h0]at this
 rw[this]
 cases(List.range p.length).any λk=>Mf p k λx=> !inP p x || !endsB p k with
 |true=>rfl
 |false=>rfl
def iA{α:Type}(g:α->List Int)(l:List α)(p:List Int)(v:Int)(i:Nat):Bool:=Mf l i λx=>(g x).contains v&&Mf p i λy=>decide (y < 0) || !Mf l y.toNat λz=>(g z).contains v
def TC{α:Type}(g:α->List Int)(l:List α)(p:List Int)(v:Int)(k:Nat):Nat:=((List.range k).filter (iA g l p v)).length
theorem uK{α:Type}(g:α->List Int)(l:List α)(p:List Int)(v:Int)(k:Nat):TC g l p v (k+1)=TC g l p v k+cond (iA g l p v k) 1 0:=by
 unfold TC
 rw[CK,Dl,Dr,Gp,AR]
 cases iA g l p v k<;>rfl
theorem o5{α:Type}(g:α->List Int)(l:List α)(p:List Int)(v:Int)(k:Nat):TC g l p v k<=k:=By (BR _ _) (by simp)
theorem rV{ls:List (List Int)}{p:List Int}(hw:wide p)(hl:ls.length=p.length)(hp:p.length<=lim)(hs:∀l∈ls,l.length<=lim)(v:Int):PA ls p v=some ((TC id ls p v p.length:Nat):Int):=by
 unfold PA
 have:=CB (body:=IF ls p v) (out:=((TC id ls p v p.length:Nat):Int)) (λk=>(((TC id ls p v k:Nat):Int),(k:Int))) p.length (λk hk rec=>by
  have hk':k < ls.length:=by omega
  have hle:=o5 id ls p v k
  have hst:=uK id ls p v k
  unfold iA at hst
  rw[DH hk',DH hk]at hst
  unfold IF Kt MB
  simp only
  rw[BC hk',BL hk',BL hk,BQ hk (Bo hp),hst]
  simp only[Ac,Aa,VL (hs _ (Ao hk')),id]
  have hwrap:IntKind.i64.wrap (((TC id ls p v k:Nat):Int)+1)=((TC id ls p v k+1:Nat):Int):=aV (by omega)
  cases ls[k].contains v with
  |false=>simp
  |true=>
   simp only[Ac,AC]
   have hwk:=hw k hk
   by_cases hn:p[k] < 0
   ·rw[Ai hn]
    simp only[Ac,Kw,hwrap]
   ·rw[Ah hn]
    have hj:p[k].toNat < ls.length:=by omega
    have hg:A4 ls p[k]=some ls[p[k].toNat]:=by
     have e:p[k]=((p[k].toNat:Nat):Int):=by omega
     conv=>lhs;rw[e]
     exact BL hj
    rw[hg,DH hj]
    simp only[Ad,Cr,VL (hs _ (Ao hj))]
    cases ls[p[k].toNat].contains v with
    |true=>simp
    |false=>simp only[Dn,Ac,hwrap]) (λrec=>by unfold IF;simp only;rw[hl,Bl];rfl) fz (CR hp)
 have h0:TC id ls p v 0=0:=rfl
 simp only[h0]at this
 rw[show((0:Int),(0:Int))=(((0:Nat):Int),((0:Nat):Int))from rfl,this]
 rfl
abbrev Rt:=Int×Int
theorem vY{B:(Int×Int->Option Int)->Int×Int->Option Int}(hB:∀rec a b,B rec (a,b)=cond (b !=0) (chk (b≠0) (rec (b,Int.tmod a b))) (some a)):
  ∀(k f m n:Nat),n < 2 ^ k->2 * k < f->Aq B f ((m:Int),(n:Int))=some ((Nat.gcd m n:Nat):Int):=by
 have hz:∀(f m:Nat),0 < f->Aq B f ((m:Int),((0:Nat):Int))=some ((Nat.gcd m 0:Nat):Int):=λf m hf=>by
  cases f with
  |zero=>omega
  |succ f=>rw[BH,hB,Nat.gcd_zero_right];rfl
 have hs:∀(f m n:Nat),0 < n->Aq B (f+1) ((m:Int),(n:Int))=Aq B f ((n:Int),((m % n:Nat):Int)):=λf m n hn=>by
  rw[BH,hB,show((n:Int)!=0)=true by rw[Cl];omega,Ac,AZ (by omega)]
  rfl
 have hg:∀m n:Nat,Nat.gcd m n=Nat.gcd n (m % n):=λm n=>by rw[Nat.gcd_comm m n,Nat.gcd_rec n m,Nat.gcd_comm]
 intro k
 induction k with
 |zero=>
  intro f m n hn hf
  obtain rfl:n=0:=by omega
  exact hz f m (by omega)
 |succ k ih=>
  intro f m n hn hf
  rcases C7 n with rfl|h0
  ·exact hz f m (by omega)
  ·obtain⟨f,rfl⟩:∃g,f=g+2:=⟨f - 2,by omega⟩
   rw[hs (f+1) m n h0,hg m n]
   rcases C7 (m % n)with h1|h1
   ·rw[h1];exact hz _ n (by omega)
   ·rw[hs f n (m % n) h1,hg n (m % n)]
    refine ih f _ _ ?_ (by omega)
    have h2:m % n < n:=MK _ h0
    have h3:n % (m % n) < m % n:=MK _ h1
    rw[IN]at hn
    rcases BZ n (2 * (m % n))with h4|h4
    ·have h5:n % (m % n)=n - m % n:=by
      rw[Nat.mod_eq_sub_mod (by omega),LX (by omega)]
     omega
    ·omega
theorem p6(m n:Nat)(hn:n < 2 ^ 62):Pg (m:Int) (n:Int)=some ((Nat.gcd m n:Nat):Int):=by
 unfold Pg
 rw[vY (λrec a b=>by simp only[S7]) 62 fz m n hn (by unfold fz;omega),HG]
theorem pB(m n:Nat)(hn:n < 2 ^ 62):RL (m:Int) (n:Int)=some ((Nat.gcd m n:Nat):Int):=by
 unfold RL
 rw[vY (λrec a b=>by simp only[VM]) 62 fz m n hn (by unfold fz;omega),HG]
def HB(r:Rt):Bool:=JP r.2 1 1000000000&&(JP r.1 (-1000000000) 1000000000&&(((Nat.gcd r.1.natAbs r.2.natAbs:Nat):Int)==1))
theorem Zw{a:Int}(h:a.natAbs<=4000000000000000000):(if a < IntKind.i64.wrap (0 - a)then IntKind.i64.wrap (0 - a)else a)=(a.natAbs:Int):=by
 rw[wrap_in (by omega)]
 split<;>omega
theorem Nk{x lo hi:Int}:JP x lo hi=true↔lo<=x∧x<=hi:=by unfold JP;simp
theorem Qu(r:Rt):Cg r=some (HB r):=by
 unfold Cg HB
 rw[Ni,HG]
 cases h2:JP r.2 1 1000000000 with
 |false=>rfl
 |true=>
  rw[Ac,Ni,HG]
  cases h1:JP r.1 (-1000000000) 1000000000 with
  |false=>rfl
  |true=>
   rw[Nk]at h1 h2
   rw[Ac,Zw (by omega)]
   have e:r.2=(r.2.natAbs:Int):=by omega
   have hg:=p6 r.1.natAbs r.2.natAbs (by omega)
   rw[<-e]at hg
   rw[hg];rfl
theorem fh(r:Rt):Et r=some (HB r):=by
 unfold Et HB
 rw[Jq,HG]
 cases h2:JP r.2 1 1000000000 with
 |false=>rfl
 |true=>
  rw[Ac,Jq,HG]
  cases h1:JP r.1 (-1000000000) 1000000000 with
  |false=>rfl
  |true=>
   rw[Nk]at h1 h2
   rw[Ac]
   unfold RJ
   rw[Zw (by omega),HG]
   have e:r.2=(r.2.natAbs:Int):=by omega
   have hg:=pB r.1.natAbs r.2.natAbs (by omega)
   rw[<-e]at hg
   rw[hg];rfl
theorem G9{r:Rt}(h:HB r=true):1<=r.2∧r.2<=1000000000∧r.1.natAbs<=1000000000∧Nat.gcd r.1.natAbs r.2.natAbs=1:=by
 unfold HB at h
 simp only[Ab,Nk,Bi]at h
 exact⟨h.1.1,h.1.2,by omega,by omega⟩
def aC(n d:Int):Rt×Bool:=
 cond (HB (n.tdiv (Nat.gcd n.natAbs d.natAbs:Nat),d.tdiv (Nat.gcd n.natAbs d.natAbs:Nat))) ((n.tdiv (Nat.gcd n.natAbs d.natAbs:Nat),d.tdiv (Nat.gcd n.natAbs d.natAbs:Nat)),true) ((0,0),false)
def rNew(n d:Int):Rt×Bool:=
 cond (d==0) ((0,0),false) (cond (JP n (-4000000000000000000) 4000000000000000000) (cond (JP d (-4000000000000000000) 4000000000000000000) (cond (decide (d < 0)) (aC (-n) (-d)) (aC n d)) ((0,0),false)) ((0,0),false))
theorem WE{n:Int}{g:Nat}(h:n.natAbs<=4000000000000000000):IntKind.i64.wrap (n.tdiv (g:Int))=n.tdiv (g:Int):=by
 have:=show(n.tdiv (g:Int)).natAbs=n.natAbs / (g:Int).natAbs from Int.natAbs_tdiv n (g:Int)
 have h2:n.natAbs / (g:Int).natAbs<=n.natAbs:=Nat.div_le_self _ _
 rw[<-this]at h2
 exact wrap_in (by omega)
theorem p9{n d:Int}(hn:n.natAbs<=4000000000000000000)(hd:0 < d∧d<=4000000000000000000):GM n d=some (aC n d):=by
 unfold GM aC
 have e:d=(d.natAbs:Int):=by omega
 have hg:=p6 n.natAbs d.natAbs (by omega)
 rw[<-e]at hg
 have hp:0 < Nat.gcd n.natAbs d.natAbs:=Nat.gcd_pos_of_pos_right _ (by omega)
 rw[Zw hn,hg,HG,AZ (by omega),AZ (by omega),WE hn,WE (by omega),Qu,HG]
 cases HB (n.tdiv (Nat.gcd n.natAbs d.natAbs:Nat),d.tdiv (Nat.gcd n.natAbs d.natAbs:Nat))<;>rfl
theorem pG{n d:Int}(hn:n.natAbs<=4000000000000000000)(hd:0 < d∧d<=4000000000000000000):GC n d=some (aC n d):=by
 unfold GC aC
 have e:d=(d.natAbs:Int):=by omega
 have hg:=pB n.natAbs d.natAbs (by omega)
 rw[<-e]at hg
 have hp:0 < Nat.gcd n.natAbs d.natAbs:=Nat.gcd_pos_of_pos_right _ (by omega)
 unfold RJ
 rw[Zw hn,HG,hg,HG,AZ (by omega),AZ (by omega),WE hn,WE (by omega),fh,HG]
 cases HB (n.tdiv (Nat.gcd n.natAbs d.natAbs:Nat),d.tdiv (Nat.gcd n.natAbs d.natAbs:Nat))<;>rfl
theorem dP(n d:Int):Hb n d=some (rNew n d):=by
 unfold Hb rNew
 have e4:IntKind.i64.wrap (0 - 4000000000000000000)= -4000000000000000000:=by decide
 cases h0:d==0 with
 |true=>rfl
 |false=>
  rw[AS]at h0
  rw[Ad,Ad,e4,Ni,HG]
  cases h1:JP n (-4000000000000000000) 4000000000000000000 with
  |false=>rfl
  |true=>
   rw[Aj,Ad,Ac,Ni,HG]
   cases h2:JP d (-4000000000000000000) 4000000000000000000 with
   |false=>rfl
   |true=>
    rw[Nk]at h1 h2
    rw[Aj,Ad,Ac]
    by_cases h:d < 0
    ·rw[Ai h,Ac,Ac,wrap_in (by omega),wrap_in (by omega),Hj,Hj]
     exact p9 (by omega) (by omega)
    ·rw[Ah h,Ad,Ad]
     exact p9 (by omega) (by omega)
theorem dn(n d:Int):G7 n d=some (rNew n d):=by
 unfold G7 rNew
 cases h0:d==0 with
 |true=>rfl
 |false=>
  rw[AS]at h0
  rw[Ad,Ad,Jq,HG]
  cases h1:JP n (-4000000000000000000) 4000000000000000000 with
  |false=>rfl
  |true=>
   rw[Aj,Ad,Ac,Jq,HG]
   cases h2:JP d (-4000000000000000000) 4000000000000000000 with
   |false=>rfl
   |true=>
    rw[Nk]at h1 h2
    rw[Aj,Ad,Ac]
    by_cases h:d < 0
    ·rw[Ai h,Ac,Ac,wrap_in (by omega),wrap_in (by omega),Hj,Hj]
     exact pG (by omega) (by omega)
    ·rw[Ah h,Ad,Ad]
     exact pG (by omega) (by omega)
theorem mp{x y:Int}(hx:x.natAbs<=1000000000)(hy:y.natAbs<=1000000000):IntKind.i64.wrap (x * y)=x * y∧(x * y).natAbs<=1000000000000000000:=by
 have h:(x * y).natAbs<=1000000000 * 1000000000:=by rw[Int.natAbs_mul];exact EE hx hy
 exact⟨wrap_in (by omega),by omega⟩
def Tv(a b:Rt):Rt×Bool:=cond (HB a) (cond (HB b) (rNew (a.1 * b.2+b.1 * a.2) (a.2 * b.2)) ((0,0),false)) ((0,0),false)
def HK(a b:Rt):Rt×Bool:=cond (HB a) (cond (HB b) (rNew (a.1 * b.1) (a.2 * b.2)) ((0,0),false)) ((0,0),false)
def Pt(a b:Rt):Rt×Bool:=cond (HB a) (cond (HB b) (rNew (a.1 * b.2) (a.2 * b.1)) ((0,0),false)) ((0,0),false)
def Qr(a b:Rt):Rt×Bool:=cond (HB b) (Tv a (-b.1,b.2)) ((0,0),false)
def KX(a b:Rt):Int:=cond (HB a) (cond (HB b) (cond (decide (a.1 * b.2 < b.1 * a.2)) (-1) (cond (decide (b.1 * a.2 < a.1 * b.2)) 1 0)) 0) 0
theorem VR{a b:Rt}(ha:HB a=true)(hb:HB b=true):IntKind.i64.wrap (a.1 * b.2)=a.1 * b.2∧IntKind.i64.wrap (b.1 * a.2)=b.1 * a.2∧IntKind.i64.wrap (a.2 * b.2)=a.2 * b.2∧IntKind.i64.wrap (a.1 * b.2+b.1 * a.2)=a.1 * b.2+b.1 * a.2∧IntKind.i64.wrap (a.1 * b.1)=a.1 * b.1∧IntKind.i64.wrap (a.2 * b.1)=a.2 * b.1:=by
 have fa:=G9 ha
 have fb:=G9 hb
 have h1:=mp (x:=a.1) (y:=b.2) (by omega) (by omega)
 have h2:=mp (x:=b.1) (y:=a.2) (by omega) (by omega)
 exact⟨h1.1,h2.1,(mp (by omega) (by omega)).1,wrap_in (by omega),(mp (by omega) (by omega)).1,(mp (by omega) (by omega)).1⟩
theorem Z5(a b:Rt):Hg a b=some (HB a&&HB b):=by
 unfold Hg
 rw[fh,HG]
 cases HB a with
 |false=>rfl
 |true=>rw[Ac,fh,HG];rfl
theorem lN(a b:Rt):IOQ a b=some (Tv a b):=by
 unfold IOQ Tv
 rw[Qu,HG]
 cases ha:HB a with
 |false=>rfl
 |true=>
  rw[Aj,Ad,Ac,Qu,HG]
  cases hb:HB b with
  |false=>rfl
  |true=>
   obtain⟨e1,e2,e3,e4,e5,e6⟩:=VR ha hb
   rw[Aj,Ad,Ac,e1,e2,e3,e4,dP];rfl
theorem dm(a b:Rt):Ix a b=some (Tv a b):=by
 unfold Ix Tv
 rw[Z5,HG]
 cases ha:HB a with
 |false=>rfl
 |true=>
  cases hb:HB b with
  |false=>rfl
  |true=>
   obtain⟨e1,e2,e3,e4,e5,e6⟩:=VR ha hb
   rw[FG,Aj,Ad,Ac,Ac,e1,e2,e3,e4,dn];rfl
theorem lP(a b:Rt):IQ a b=some (HK a b):=by
 unfold IQ HK
 rw[Qu,HG]
 cases ha:HB a with
 |false=>rfl
 |true=>
  rw[Aj,Ad,Ac,Qu,HG]
  cases hb:HB b with
  |false=>rfl
  |true=>
   obtain⟨e1,e2,e3,e4,e5,e6⟩:=VR ha hb
   rw[Aj,Ad,Ac,e5,e3,dP];rfl
theorem jP(a b:Rt):Iz a b=some (HK a b):=by
 unfold Iz HK
 rw[Z5,HG]
 cases ha:HB a with
 |false=>rfl
 |true=>
  cases hb:HB b with
  |false=>rfl
  |true=>
   obtain⟨e1,e2,e3,e4,e5,e6⟩:=VR ha hb
   rw[FG,Aj,Ad,Ac,Ac,e5,e3,dn];rfl
theorem lO(a b:Rt):IP a b=some (Pt a b):=by
 unfold IP Pt
 rw[Qu,HG]
 cases ha:HB a with
 |false=>rfl
 |true=>
  rw[Aj,Ad,Ac,Qu,HG]
  cases hb:HB b with
  |false=>rfl
  |true=>
   obtain⟨e1,e2,e3,e4,e5,e6⟩:=VR ha hb
   rw[Aj,Ad,Ac,e1,e6,dP];rfl
theorem jN(a b:Rt):Iy a b=some (Pt a b):=by
 unfold Iy Pt
 rw[Z5,HG]
 cases ha:HB a with
 |false=>rfl
 |true=>
  cases hb:HB b with
  |false=>rfl
  |true=>
   obtain⟨e1,e2,e3,e4,e5,e6⟩:=VR ha hb
   rw[FG,Aj,Ad,Ac,Ac]
   cases h0:b.1==0 with
   |true=>rw[Bi]at h0;rw[h0,Int.mul_zero];rfl
   |false=>rw[Ad,e1,e6,dn];rfl
theorem ox{b:Rt}(hb:b.1.natAbs<=4000000000000000000):HB (-b.1,b.2)=HB b:=by
 unfold HB
 have e:JP (-b.1) (-1000000000) 1000000000=JP b.1 (-1000000000) 1000000000:=by
  rw[AG,Nk,Nk];omega
 simp only[Int.natAbs_neg,e]
theorem ux(a b:Rt):K0 a b=some (Qr a b):=by
 unfold K0 Qr
 rw[Qu,HG]
 cases hb:HB b with
 |false=>rfl
 |true=>
  have fb:=G9 hb
  rw[Aj,Ad,Ac,wrap_in (by omega),Hj,lN];rfl
theorem rT{a b:Rt}(hI: -9223372036854775808<=b.1∧b.1<=9223372036854775807):KO a b=some (Qr a b):=by
 unfold KO Qr
 cases hb:HB b with
 |false=>
  have hb':HB (IntKind.i64.wrap (0 - b.1),b.2)=false:=by
   by_cases e:b.1= -9223372036854775808
   ·rw[e]
    cases h:HB (IntKind.i64.wrap (0 - -9223372036854775808),b.2)with
    |false=>rfl
    |true=>
     have f:=(G9 h).2.2.1
     rw[show IntKind.i64.wrap (0 - -9223372036854775808)= -9223372036854775808 by decide]at f
     exact absurd f (show ¬((-9223372036854775808:Int).natAbs<=1000000000)by decide)
   ·rw[wrap_in (by omega),Hj]
    by_cases hm:b.1.natAbs<=4000000000000000000
    ·rw[ox hm];exact hb
    ·cases h:HB (-b.1,b.2)with
     |false=>rfl
     |true=>
      have f:=(G9 h).2.2.1
      simp only at f
      omega
  rw[dm]
  unfold Tv
  cases HB a with
  |false=>rfl
  |true=>rw[Ac,hb'];rfl
 |true=>
  have fb:=G9 hb
  rw[Ac,wrap_in (by omega),Hj,dm];rfl
theorem X1(a b:Rt):DL a b=some (KX a b):=by
 unfold DL KX
 rw[Qu,HG]
 cases ha:HB a with
 |false=>rfl
 |true=>
  rw[Aj,Ad,Ac,Qu,HG]
  cases hb:HB b with
  |false=>rfl
  |true=>
   obtain⟨e1,e2,e3,e4,e5,e6⟩:=VR ha hb
   rw[Aj,Ad,Ac,e1,e2]
   cases decide (a.1 * b.2 < b.1 * a.2)<;>cases decide (b.1 * a.2 < a.1 * b.2)<;>rfl
theorem Xj(a b:Rt):DI a b=some (KX a b):=by
 unfold DI KX
 rw[Z5,HG]
 cases ha:HB a with
 |false=>rfl
 |true=>
  cases hb:HB b with
  |false=>rfl
  |true=>
   obtain⟨e1,e2,e3,e4,e5,e6⟩:=VR ha hb
   rw[FG,Aj,Ad,Ac,Ac,e1,e2,rO,HG]
   by_cases h1:a.1 * b.2 < b.1 * a.2
   ·rw[AJ h1,Ai h1];rfl
   ·rw[AN h1,Ah h1]
    by_cases h2:b.1 * a.2 < a.1 * b.2
    ·rw[AJ h2,Ai h2];rfl
    ·rw[AN h2,Ah h2];rfl
theorem G6{O:Type}{B:(Int->Option (Sum Unit O))->Int->Option (Sum Unit O)}{n:Nat}(bad:Nat->Bool)(o:O)(hn:n<=lim)(h1:∀k,k < n->∀rec,B rec (k:Int)=cond (bad k) (some (.inr o)) (rec ((k+1:Nat):Int)))(h2:∀rec,B rec (n:Int)=some (.inl ())):
  Aq B fz 0=some (cond ((List.range n).any bad) (.inr o) (.inl ())):=by
 have key:∀d k,k+d=n->(∀j,j < k->bad j=false)->∀m,d < m->Aq B m (k:Int)=some (cond ((List.range n).any bad) (.inr o) (.inl ())):=by
  intro d
  induction d with
  |zero=>
   intro k hk hb m hm
   obtain⟨m,rfl⟩:∃g,m=g+1:=⟨m - 1,by omega⟩
   have:(List.range n).any bad=false:=by
    rw[Ct]
    intro x hx
    rw[hb x (by have:=Al.1 hx;omega)];simp
   rw[BH,show k=n by omega,h2,this];rfl
  |succ d ih=>
   intro k hk hb m hm
   obtain⟨m,rfl⟩:∃g,m=g+1:=⟨m - 1,by omega⟩
   rw[BH,h1 k (by omega)]
   cases hbk:bad k with
   |true=>
    have:(List.range n).any bad=true:=by rw[Cu];exact⟨k,Al.2 (by omega),hbk⟩
    rw[this];rfl
   |false=>
    exact ih (k+1) (by omega) (λj hj=>by
     rcases BZ j k with h|h
     ·exact hb j h
     ·rw[show j=k by omega];exact hbk) m (by omega)
 have:=key n 0 (by omega) (λj hj=>absurd hj (by omega)) fz (CR hn)
 simpa using this
theorem be{α:Type}(x:α)(l:List α)(f:α->Bool):Cw (x::l) (λ_ e=>f e)=(f x || Cw l λ_ e=>f e):=by
 unfold Cw
 rw[AL,List.range_succ_eq_map,E8,MJ]
 congr 1
def cap(v:Nat):Option Nat:=if v < 10 ^ 60 then some v else none
theorem YM{α:Type}:∀(l:List α) (k:Nat),(Ik k l).map (·.1)=List.range' k l.length
 |[],_=>rfl
 |x::l,k=>by rw[Ik,AK,YM l (k+1),AL,CX]
theorem Nq{α:Type}(l:List α):Im l=List.range l.length:=by rw[Im,YM,ED]
theorem Zf{α:Type}:∀(l p:List α),Hq (p++l) (List.range' p.length l.length)=l
 |[],p=>rfl
 |x::l,p=>by
  have h:=Zf l (p++[x])
  rw[Bd,Gr,AR,Cs]at h
  rw[AL,CX]
  unfold Hq at h⊢
  rw[Ay,h]
  simp
theorem lp{α:Type}(l:List α):Hq l (Im l)=l:=by
 rw[Nq,ED]
 exact Zf l []
theorem cg:∀(n k m:Nat) (seen:List Nat),k+n<=m->(∀j∈seen,j < k)->Y2 m (List.range' k n) seen=true
 |0,_,_,_,_,_=>rfl
 |n+1,k,m,seen,h,hs=>by
  rw[CX,Y2,Ab,Ab,AD]
  refine⟨⟨by rw[Nat.blt_eq];omega,?_⟩,cg n (k+1) m (k::seen) (by omega) (λj hj=>?_)⟩
  ·cases hc:seen.contains k with
   |false=>rfl
   |true=>exact absurd (hs k (Av.1 hc)) (Fa _)
  ·rcases AO.1 hj with rfl|hj
   ·omega
   ·have:=hs j hj;omega
theorem nY{α:Type}(l:List α):Y2 l.length (Im l) []=true:=by
 rw[Nq,ED]
 exact cg _ 0 _ [] (by omega) (by simp)
end Go.Proofs.YtckmdkajoiegmaaGreatDoor
