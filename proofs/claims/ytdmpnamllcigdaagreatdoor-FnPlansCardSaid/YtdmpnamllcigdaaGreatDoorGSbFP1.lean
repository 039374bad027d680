/- Typed functions, and that the program's functions do what they say. No conditions. -/
import Derived.Test.YtdmpnamllcigdaaGreatDoorGSFP1
open Go.RowKit
set_option linter.all false
namespace Go.Proofs.YtdmpnamllcigdaaGreatDoor
open Tryz
set_option maxRecDepth 100000
set_option maxHeartbeats 1000000
abbrev Sy:=(List zI)×zI
def Ha(a:PW):List V:=[.str a.1,aL Am a.2]
def cS(a:PW):(Ha a).length=2:=E
def II(a:PW):ON (Ha a)=Cb a:=(Ba E<|Ba (KC AG _) E)
def PY(a:Sy):List V:=[dL BL a.1,dL Am a.2]
def Yh(a:Sy):List V:=[oL 28 AS a.1,oL 3 Am a.2]
def U1(a:PW):Fl (Cb a)=true:=(VJ E<|VJ (IH (λ_=>E) _) E)
def Vl(a:PW):Nb (Cb a)=Ha a:=(VK E<|VK (Oc (λ_=>E) _) E)
def Gk(a:(zI×Int)->Option (zI))(b:Int)(c:zI):Option (zI):=a (c,(wZ<|b+1))
def Fi(a:(zI×Int)->Option (zI))(b:zI)(c:Int)(d:Bool):Option (zI):=cond d (chk (List.length b+List.length [c]<=lim)<|Gk a c<|b++[c])<|Gk a c b
def DP(a:DA)(b:zI)(c:List Bool)(d:Int)(e:(zI×Int)->Option (zI))(f:zI×Int):Option (zI):=match f with
  |(g,i)=>cond (decide (i < a.1)) (Aa (AU b d) λj=>cond (i==j) (Fi e g i true)<|Aa (AU b d) λk=>Aa (AU c<|wZ<|(wZ<|k * a.1)+i) λl=>cond l (chk ((0:Int)<=0∧0<=d∧d<=(b.length:Int))<|Aa (HB (CZ b 0 d) i) λm=>Fi e g i<|decide (m < 0))<|Fi e g i false)<|some g
def Gl(a:(Bool×Int×Int)->Option Int)(b:Int)(c:Int)(d:Bool):Option Int:=a (d,(wZ<|b+1),c)
def C0(a:DA)(b:zI)(c:zI)(d:(Bool×Int×Int)->Option Int)(e:Bool×Int×Int):Option Int:=match e with
  |(f,g,i)=>cond (decide (g < a.1)) (cond f (Aa (AU b g) λj=>Aa (HB c j) λk=>cond (decide (0<=k)) (Gl d g g false)<|Gl d g i f)<|some i)<|some i
def Fh(a:DA)(b:zI)(c:Int)(d:(List Bool×Int)->Option (List Bool))(e:(List Bool)×Int):Option (List Bool):=match e with
  |(f,g)=>cond (decide (g < (b.length:Int))) (chk (0 < f.length)<|Aa (AU b c) λi=>Aa (AU b g) λj=>Aa (AU b c) λk=>Aa (AU b g) λl=>Aa (AU f<|wZ<|(wZ<|k * a.1)+l) λm=>cond m (Aa (AU f<|wZ<|(wZ<|i * a.1)+j) λn=>d ((CY f (wZ<|(wZ<|i * a.1)+j) true),(wZ<|g+1)))<|Aa (AU f<|wZ<|(wZ<|i * a.1)+j) λo=>d ((CY f (wZ<|(wZ<|i * a.1)+j)<|c !=g),(wZ<|g+1)))<|some f
def Ff(a:DA)(b:zI)(c:(List Bool×Int)->Option (List Bool))(d:(List Bool)×Int):Option (List Bool):=match d with
  |(e,f)=>cond (decide (f < (b.length:Int))) (Aa (Ay (Fh a b f) fz (e,0)) λg=>c (g,(wZ<|f+1)))<|some e
def Gm(a:(List Bool×List zI×zI×Int)->Option (List zI×zI))(b:DA)(c:List Bool)(d:List zI)(e:zI)(f:Int)(g:zI)(i:Int):Option (List zI×zI):=Aa (Ay (Ff b g) fz (c,0)) λj=>chk (List.length d+List.length [g]<=lim)<|chk (List.length e+List.length [i]<=lim)<|a (j,(d++[g]),(e++[i]),(wZ<|f+1))
def Fe(a:DA)(b:zI)(c:(List Bool×List zI×zI×Int)->Option (List zI×zI))(d:(List Bool)×List zI×zI×Int):Option (List zI×zI):=match d with
  |(e,f,g,i)=>cond (decide (i < a.1)) (Aa (Ay (DP a b e i) fz (([]:zI),0)) λj=>Aa (Ay (C0 a b j) fz (true,(wZ<|i+1),(wZ<|i+1))) λk=>cond (i==(wZ<|a.1 - 1)) (Gm c a e f g i j (-1))<|Gm c a e f g i j k)<|some (f,g)
def Ef(a:DA)(b:zI):Option (Sy×Bool):=Aa (Lc a b) λc=>cond (!c) (some (([],[]),false)) (Aa (RH a) λd=>Aa (Ay (Fe a b) fz (d,([]:List zI),([]:zI),0)) λe=>(match e with
  |(f,g)=>(some ((f,g),true))))
instance SV{a:DA}{c:zI}:Qe 170 (Ef a c) [.agg (Cl a),dL Am c] (λd=>.tup [.agg (Yh d.1),.bool d.2]):=Qe.mk @λd h=>by
 refine sta Agl E (TA (VJ E (VJ (IH U1 _) (VJ (IH (λ_=>E) _) E))) (TA (IH (λ_=>E) _) E)) (dV (vag (VK E (VK (Oc Vl _) (VK (Oc (λ_=>E) _) E)))) (dV (Oc (λ_=>E) _) E)) (Of (dag (Of (TY KN 28 _) (Of (TY (λ_=>E) 3 _) VP))) (Of E VP)) (rn 1 E (CL λe=>rs (sp 2 E (A8 h λf g h=>qC (qa E (CM (Ba E (Ba (KC II _) (Ba (KC AG _) E)))) (qa E (KC AG _) AT)) (Ty.s g) (AY 1 E (BT h E (λh=>rn 1 E (sj h ▸ Ap rZ)) λh=>Cf e (rn 1 E (rs (sp 1 E (A8 h λj k h=>qC (qa E (CM (Ba E (Ba (KC II _) (Ba (KC AG _) E)))) AT) (cO.s k) (AY 1 E (rn 1 E (Ar λl m=>rn 1 E (qk [1,4,6,7,8,9] E (D6 h λn o p=>have r:∀{s:List zI}{t:zI},(s,t)=n->Jn l [(4,.box [oL 28 AS [],oL 3 Am []]),(8,.box [oL 28 AS s,oL 3 Am t])]:=@λs t h _ u=>have h:=p h;m _ (lh u E (rn 1 E (sj h ▸ Ap rZ)));(A9 (λ(v:(List Bool)×List zI×zI×Int)=>match v with|(w,x,y,z)=>[(1,aL Am c),(4,.box [oL 28 AS [],oL 3 Am []]),(6,nI a.1),(7,oL 4 QM w),(8,.box [oL 28 AS x,oL 3 Am y]),(9,nI z)]) _ _ _ _ o (AX E) (λ_=>E) (λA=>pr4 λw x y z B h C=>GC E λD=>?_)))))))))))))))))
 rcases LU h with⟨F,h⟩|⟨F,h⟩
 ·refine qT E F (Cf D (CL λH=>A4 (rs (Gi Am [] E E E A6 (AY 1 E (rn 2 E (Ar λI J=>rn 1 E (D6 h λK o L=>?_))))))))
  have M:∀{N:zI},N=K->Jn I [(1,aL Am c),(4,.box [oL 28 AS [],oL 3 Am []]),(6,nI a.1),(7,oL 4 QM w),(8,.box [oL 28 AS x,oL 3 Am y]),(9,nI z),(10,oL 3 Am N),(11,nI (wZ (z+1))),(12,.bool true)]:=by
   intro N h σ' u
   replace h:=L h
   refine J _ (lh u E (Ar λO P=>rn 1 E (D6 h λQ o R=>have S:∀{T:Int},T=Q->Jn O [(1,aL Am c),(4,.box [oL 28 AS [],oL 3 Am []]),(6,nI a.1),(7,oL 4 QM w),(8,.box [oL 28 AS x,oL 3 Am y]),(9,nI z),(10,oL 3 Am N),(11,nI T)]:=@λT h _ u=>have h:=R h;P _ (lh u E (Ar λU V=>rn 1 E (have W:∀{X:Int},Gm (Ay (Fe a c) A) a w x y z N X=some n->Jn U [(1,aL Am c),(4,.box [oL 28 AS [],oL 3 Am []]),(6,nI a.1),(7,oL 4 QM w),(8,.box [oL 28 AS x,oL 3 Am y]),(9,nI z),(10,oL 3 Am N),(11,nI X)]:=@λX h _ u=>V _ (lh u E (Ar λY Z=>rn 1 E (D6 h λd o f=>have e:∀{g:List Bool},g=d->Jn Y [(1,aL Am c),(4,.box [oL 28 AS [],oL 3 Am []]),(6,nI a.1),(7,oL 4 QM g),(8,.box [oL 28 AS x,oL 3 Am y]),(9,nI z),(10,oL 3 Am N),(11,nI X)]:=@λg h _ u=>have h:=f h;Z _ (lh u E (rs (sp 3 E (Gi AS [N] E E E Db (D9 h λj h=>qA AS x [N] E E (Bu Db [N]) E j (AY 2 E (rg (sp 3 E (Gi Am [X] E E E A6 (D9 h λk h=>qA Am y [X] E E (Bu A6 [X]) E k (AY 2 E (H _ (rg (AY 3 E (C _ _ h (AX E))))))))))))))));(A9 (λ(v:(List Bool)×Int)=>match v with|(l,s)=>[(1,aL Am c),(4,.box [oL 28 AS [],oL 3 Am []]),(6,nI a.1),(7,oL 4 QM l),(8,.box [oL 28 AS x,oL 3 Am y]),(9,nI z),(10,oL 3 Am N),(11,nI X),(15,nI s)]) _ _ _ _ o (AX E) (λ_=>E) (λA=>IV λl s B h C=>GC E λt=>BT h E (λh=>Cf t (Ar λm p=>A4 (rn 1 E (D6 h λD o I=>have J:∀{L:List Bool},L=D->Jn m [(1,aL Am c),(4,.box [oL 28 AS [],oL 3 Am []]),(6,nI a.1),(7,oL 4 QM L),(8,.box [oL 28 AS x,oL 3 Am y]),(9,nI z),(10,oL 3 Am N),(11,nI X),(15,nI s)]:=@λL h _ u=>have h:=I h;p _ (lh u E (rg (AY 3 E (C _ _ h (AX E)))));(A9 (λ(v:(List Bool)×Int)=>match v with|(O,P)=>[(1,aL Am c),(4,.box [oL 28 AS [],oL 3 Am []]),(6,nI a.1),(7,oL 4 QM O),(8,.box [oL 28 AS x,oL 3 Am y]),(9,nI z),(10,oL 3 Am N),(11,nI X),(15,nI s),(16,nI P)]) _ _ _ _ o (AX E) (λ_=>E) (λA=>IV λO P B h C=>GC E λR=>BT h E (λh=>Cf R (CL λT=>A4 (qk [1,4,6,7,8,9,10,11,15,16] E (D9 h λn h=>E0 (gLs (q:=900003) (b:=7) E E E n (λU V=>qk [1,4,6,7,8,9,10,11,15,16,900003] E (N1 (rgt 31 (by kernel_rfl) (sd 3 E (A8 h λY Z h=>ed E (qI E A6 Z (sd 5 E (A8 h λd f h=>ed E (qI E A6 f (sd 5 E (A8 h λg j h=>ed E (qI E A6 j (sd 5 E (A8 h λH k h=>ed E (qI E A6 k (sd 2 E (A8 h λl t h=>ed E (V7 E E E E t (ed E (qLe (i:=wZ ((wZ (g * a.1))+H)) (es:=1) (q:=900003) 0 E E E E E E Y3 t E E (sd 1 E (Eo h (λm h=>I5 131 m E (sd 4 E (CN (Ky (A8 h λp D h=>V7 E E E E D (d6 (y0:=p) (i:=wZ ((wZ (Y * a.1))+d)) (es:=1) 0 true [1,4,6,7,8,9,10,11,15,16] E E E E E E E E E E Y3 D (λ_=>E) (Qx (Of E VP)) (yc (acf (λ_=>E) _) (yc (Im E (Im E E)) (yc E (yc E (yc (Im (sO (TY KN 28 _)) (Im (sO (TY (λ_=>E) 3 _)) E)) (yc E (yc (Qx (bH (λ_=>E) _)) (yc E (yc E (yc E yn)))))))))) (OR (gDs (q:=900003) (b:=7) E E E (sl E) (T _ (rg (AY 3 E (C _ _ h (AX E))))))))))))) λm h=>I5 131 m E (sd 4 E (CN (Ky (A8 h λI L h=>V7 E E E E L (d6 (y0:=I) (i:=wZ ((wZ (Y * a.1))+d)) (es:=1) 0 (s !=P) [1,4,6,7,8,9,10,11,15,16] E E E E E E E E E E Y3 L (λ_=>E) (Qx (Of E VP)) (yc (acf (λ_=>E) _) (yc (Im E (Im E E)) (yc E (yc E (yc (Im (sO (TY KN 28 _)) (Im (sO (TY (λ_=>E) 3 _)) E)) (yc E (yc (Qx (bH (λ_=>E) _)) (yc E (yc E (yc E yn)))))))))) (OR (gDs (q:=900003) (b:=7) E E E (sl E) (T _ (qk [1,4,6,7,8,9,10,11,15,16] E (rg (AY 3 E (C _ _ h (AX E)))))))))))))))))))))))))))))))))))))))) λh=>AJ (J (sj h) _ (AX E)))))))) λh=>AJ (e (sj h) _ (AX E)))))));(BT h E (λh=>rg (AY 1 E (W h _ (AX E)))) λh=>Ci (W h _ (AX E))))));?_)))
   exact A9 (λ(v:Bool×Int×Int)=>match v with|(X,O,R)=>[(1,aL Am c),(4,.box [oL 28 AS [],oL 3 Am []]),(6,nI a.1),(7,oL 4 QM w),(8,.box [oL 28 AS x,oL 3 Am y]),(9,nI z),(10,oL 3 Am N),(11,nI R),(12,.bool X),(14,nI O)]) _ _ _ _ o (AX E) (λ_=>E) (λA=>pr3 λX O R B h C=>CL λn=>rs (sp 4 E (Eo h (λU h=>qg 76 U E (AY 2 E (BT h E (λh=>Cf n (Ar λV Z=>A4 (rs (sp 3 E (A8 h λf j h=>qI E A6 j (sp 1 E (A8 h λk l h=>qC (qa E (BE AG _) (qs E AT)) (HI.s l) (AY 1 E (have g:∀{H:Int}{t:Bool},Gl (Ay (C0 a c N) A) O H t=some Q->Jn V [(1,aL Am c),(4,.box [oL 28 AS [],oL 3 Am []]),(6,nI a.1),(7,oL 4 QM w),(8,.box [oL 28 AS x,oL 3 Am y]),(9,nI z),(10,oL 3 Am N),(11,nI H),(12,.bool t),(14,nI O)]:=@λH t h _ u=>Z _ (lh u E (rg (AY 3 E (C _ _ h (AX E)))));(BT h E (λh=>rn 1 E (rg (AY 1 E (g h _ (AX E))))) λh=>Ci (g h _ (AX E)))))))))))) λh=>AJ (S (sj h) _ (AX E))))) λU h=>qg 76 U E (AY 2 E (qF E E (AJ (S (sj h) _ (AX E))))))))
  exact A9 (λ(v:zI×Int)=>match v with|(m,p)=>[(1,aL Am c),(4,.box [oL 28 AS [],oL 3 Am []]),(6,nI a.1),(7,oL 4 QM w),(8,.box [oL 28 AS x,oL 3 Am y]),(9,nI z),(10,oL 3 Am m),(11,nI (wZ (z+1))),(12,.bool true),(13,nI p)]) _ _ _ _ o (AX E) (λ_=>E) (λA=>IV λm p B h C=>GC E λD=>BT h E (λh=>Cf D (Ar λW e=>A4 (rk λs J=>have P:∀{T:Bool},Fi (Ay (DP a c w z) A) m p T=some K->Jn s [(1,aL Am c),(4,.box [oL 28 AS [],oL 3 Am []]),(6,nI a.1),(7,oL 4 QM w),(8,.box [oL 28 AS x,oL 3 Am y]),(9,nI z),(10,oL 3 Am m),(11,nI (wZ (z+1))),(12,.bool true),(13,nI p),(66,.bool T)]:=@λT h _ u=>J _ (lh u E (have Y:∀{d:zI},Gk (Ay (DP a c w z) A) p d=some K->Jn W [(1,aL Am c),(4,.box [oL 28 AS [],oL 3 Am []]),(6,nI a.1),(7,oL 4 QM w),(8,.box [oL 28 AS x,oL 3 Am y]),(9,nI z),(10,oL 3 Am d),(11,nI (wZ (z+1))),(12,.bool true),(13,nI p)]:=@λd h _ u=>e _ (lh u E (rg (AY 3 E (C _ _ h (AX E)))));(BT h E (λh=>rg (sp 2 E (Gi Am [p] E E E A6 (D9 h λI h=>qA Am m [p] E E (Bu A6 [p]) E I (AY 1 E (Y h _ (AX E))))))) λh=>Ci (Y h _ (AX E)))));(sp 3 E (A8 h λL X h=>qI E A6 X (sp 3 E (Eo h (λR h=>qg 46 R E (AY 20 E (P h _ (AX E)))) λR h=>qg 46 R E (sp 3 E (A8 h λn f h=>EN E E (qI E A6 f (sp 5 E (A8 h λj k h=>EN E E (qI E Y3 k (sp 2 E (Eo h (λl h=>qg 58 l E (sp 2 E (D9 h λv h=>EN E E (qSa E A6 v (sp 1 E (A8 h λN Q h=>EN E E (qC (qa E (KC AG _) (qs E AT)) (HI.s Q) (AY 3 E (P h _ (AX E)))))))))) λl h=>qg 58 l E (AY 8 E (P h _ (AX E)))))))))))))))))) λh=>AJ (M (sj h) _ (AX E)))
 ·exact qF E F (AJ (r (sj h) _ (AX E)))
def IX(a:DA)(b:(zI×Int)->Option (zI))(c:zI×Int):Option (zI):=match c with
  |(d,e)=>cond (decide (e < a.1)) (Aa (DO a) λf=>cond f (chk (List.length d+List.length [e]<=lim)<|b ((d++[e]),(wZ<|e+1)))<|some d)<|some d
def N3(a:DA):Option (zI):=Aa (Ay (IX a) fz (([]:zI),0)) λb=>some b
instance{a:DA}:Xs (IX a) (λ(m,n)=>[(3,oL 3 Am m),(4,nI n)]) [1]:=⟨⟩
instance Y2{a:DA}:Qe 223 (N3 a) [.agg (Cl a)] (λb=>oL 3 Am b):=sX [1] [] [(5,[16]),(6,[20])] func223
def FQ(a:DA):Option Sy:=Aa (DO a) λb=>cond (!b) (some ([],[]))<|Aa (N3 a) λc=>some ([c],[-1])
instance MF{a:DA}:Qe 171 (FQ a) [.agg (Cl a)] (λb=>.agg (Yh b)):=sX [1,2] [] [] func171
def eU(a:zI):List V:=[aL Am a]
def zO(a:zI):(eU a).length=1:=E
def o6(a:zI):ON (eU a)=BL a:=(Ba (KC AG _) E)
def eC(a:zI):RO (AS a)=eU a:=(fzc (fzO (λ_=>E) 3 _) E)
def rR(a:zI):PF (eU a)=true:=(acc (aca (λ_=>E) _) E)
def kj(a:Sy):List V:=[dL BL a.1,oL 3 Am a.2]
def Lk(a:zI)(b:Int)(c:Int)(d:List zI)(e:zI):Option (Sy×Et):=some ((d,e),(a,b,c))
def RG(a:Et)(b:DA):Option (Sy×Et):=Aa (RD a (if 0 < (if b.1 < 5 then b.1 else 5)then(if b.1 < 5 then b.1 else 5)else 0)) λc=>Aa (Ef b c.1) λd=>cond (!d.2) (Aa (FQ b) λe=>some (e,c.2))<|Aa (DH c.2 (d.1.1.length:Int)) λf=>Aa (DH f.2 10) λg=>cond (g.1==0) (Aa (FQ b) λi=>some (i,g.2))<|cond (g.1==1) (chk (0 < d.1.2.length)<|Aa (DH g.2<|wZ<|(d.1.1.length:Int)+1) λj=>Aa (AU d.1.2 f.1) λk=>Lk j.2.1 j.2.2.1 j.2.2.2 d.1.1<|CY d.1.2 f.1<|wZ<|j.1 - 1)<|cond (g.1==2) (chk (0 < d.1.1.length)<|Aa (AU d.1.1 f.1) λl=>chk ((0:Int)<=1∧1<=(l.length:Int)∧(l.length:Int)<=(l.length:Int))<|Aa (AU d.1.1 f.1) λm=>Lk g.2.1 g.2.2.1 g.2.2.2 (CY d.1.1 f.1<|CZ l 1 (l.length:Int)) d.1.2)<|cond (g.1==3) (chk (0 < d.1.1.length)<|Aa (AU d.1.1 f.1) λn=>Aa (AU d.1.1 f.1) λo=>Aa (DH g.2 6) λp=>chk (List.length n+List.length [p.1]<=lim)<|Aa (AU d.1.1 f.1) λq=>Lk p.2.1 p.2.2.1 p.2.2.2 (CY d.1.1 f.1<|n++[p.1]) d.1.2)<|Lk g.2.1 g.2.2.1 g.2.2.2 d.1.1 d.1.2
instance cN{a:Et}{c:DA}:MH 89 (RG a c) [aL Lo a.1,nI a.2.1,nI a.2.2] [.agg (Cl c)] (λd=>[aL Lo d.2.1,nI d.2.2.1,nI d.2.2.2]) (λd=>.agg (kj d.1)):=MH.mk @λd h=>stp AlC E (rn 1 E (rd (by kernel_rfl) (sd 6 E (A8 h λe f h=>ed E (qP E E E E (qs E AT) (XV.s f) (A8 h λg j h=>ed E (qC (qa E (CM (Ba E (Ba (BE Cs _) (Ba (BE AG _) E)))) (qa E (SB AG _) AT)) (SV.s j) (sd 6 E (CN (GC E λk=>BT h E (λh=>rs (sp 1 E (A8 h λl m h=>qC (qa E (CM (Ba E (Ba (BE Cs _) (Ba (BE AG _) E)))) AT) (MF.s m) (AY 1 E (P5 [(0,.box (Xh e.2)),(4,.box [dL BL l.1,oL 3 Am l.2])] ⟨kr,(kb (cwe E (SB E3 _) (cwr cwn))),trivial⟩ E (sj h ▸ Ap ⟨.inl E,E,E⟩)))))) λh=>Cf k (rs (sp 4 E (A8 h λn p h=>qP E E E E (qs E AT) (Dq.s p) (AY 1 E (Ar λr s=>rs (sp 1 E (A8 h λt u h=>qP E E E E (qs E AT) (Dq.s u) (OR (A4 (rn 1 E (BT h E (λh=>rs (sp 1 E (A8 h λv w h=>qC (qa E (CM (Ba E (Ba (BE Cs _) (Ba (BE AG _) E)))) AT) (MF.s w) (AY 1 E (P5 [(0,.box (Xh t.2)),(4,.box [dL BL v.1,oL 3 Am v.2])] ⟨kr,(kb (cwe E (SB E3 _) (cwr cwn))),trivial⟩ E (sj h ▸ Ap ⟨.inl E,E,E⟩)))))) λh=>rn 1 E (have x:∀{y:zI}{z:Int}{A:Int}{B:List zI}{C:zI},Lk y z A B C=some d->Jn r [(0,.box [aL Lo y,nI z,nI A]),(4,.box [oL 28 AS [],oL 3 Am []]),(5,.box [aL eU B,oL 3 Am C])]:=@λy z A B C h _ D=>s _ (lh D E (rn 1 E (P5 [(0,.box [aL Lo y,nI z,nI A]),(4,.box [dL BL B,oL 3 Am C])] ⟨kr,(kb (cwe E (KC o6 _) (cwr cwn))),trivial⟩ E (sj h ▸ Ap ⟨.inl E,E,E⟩))));(BT h E (λh=>qk [0,4,5,7] E (D9 h λF h=>E0 (gLb (q:=900003) (b:=5) [oL 28 AS g.1.1] [] E E E F (λH I=>qk [0,4,5,7,900003] E (N1 (N1 (rgt 10 (by kernel_rfl) (sd 8 E (A8 h λJ K h=>ed E (qP E E E E (qs E AT) (Dq.s K) (sd 1 E (CN (Ky (A8 h λL M h=>V7 E E E E M (d6 (y0:=L) (i:=n.1) (es:=1) 0 (wZ (J.1 - 1)) [0,4,5] E E E E E E E E E E A6 M (λ_=>E) (Qx (Of E VP)) (yc (Im (sA (aca (λ_=>E) _)) (Im E (Im E E))) (yc (Im E (Im E E)) (yc (Im (sO (TY KN 28 _)) (Im E E)) yn))) (OR (gDb (q:=900003) (b:=5) [oL 28 AS g.1.1] [] E E E (sl E) (gFb (b:=5) [] [oL 3 Am (CY g.1.2 n.1 (wZ (J.1 - 1)))] E eC (x h _ (AX E)))))))))))))))))))) λh=>rn 1 E (BT h E (λh=>qk [0,4,5,7] E (E0 (gFi (b:=5) [] [oL 3 Am g.1.2] E eC (qk [0,4,5,7] E (qk [0,4,5,7] E (D9 h λN h=>E0 (gLb (q:=900003) (b:=5) [] [oL 3 Am g.1.2] E E E N (λO P=>qk [0,4,5,7,900003] E (N1 (N1 (rgt 9 (by kernel_rfl) (sd 6 E (A8 h λQ R h=>ed E (V7 E E E E R (ed E (qLe (i:=n.1) (es:=1) (q:=900003) 0 E E E E E E zO R E E (D9 h λS h=>ed E (qSa E A6 S (CN (Ky (A8 h λT U h=>V7 E E E E U (d6 (y0:=T) (i:=n.1) (es:=1) 0 (CZ Q 1 (List.length Q:Int)) [0,4,5] E E E E E E E E E E zO U (λV=>sdA (rR V)) (sdA (acc (aca (λ_=>E) _) E)) (yc (Im (sA (aca (λ_=>E) _)) (Im E (Im E E))) (yc (Im E (Im E E)) (yc (Im E (Im (sO (TY (λ_=>E) 3 _)) E)) yn))) (OR (gDb (q:=900003) (b:=5) [] [oL 3 Am g.1.2] E E E (sl E) (gFb (b:=5) [] [oL 3 Am g.1.2] E (λ_=>E) (x h _ (AX E))))))))))))))))))))))))))) λh=>rn 1 E (BT h E (λh=>qk [0,4,5,7] E (D9 h λW h=>E0 (gLb (q:=900003) (b:=5) [] [oL 3 Am g.1.2] E E E W (λX Y=>qk [0,4,5,7,900003] E (A8 h λZ a h=>E0 (Anh (i:=n.1) (es:=1) 0 E E Db a E E (λc=>qk [0,4,5,7,900003,900004] E (N1 (N1 (rgt 12 (by kernel_rfl) (sd 6 E (A8 h λf j h=>ed E (V7 E E E E j (ed E (AnL E E E E E E (gk (o:=0) Db j E) (sd 1 E (A8 h λe k h=>ed E (qP E E E E (qs E AT) (Dq.s k) (ed E (Gi Am [e.1] E E E A6 (D9 h λl h=>ed E (qAt Am Z [e.1] E E E E (Bu A6 [e.1]) E l (CN (Ky (A8 h λm p h=>V7 E E E E p (AnM (y0:=m) (i:=n.1) (es:=1) 0 (Z++[e.1]) [0,4,5] E E E E E E E E E E E Db p (λV=>Qx (KN V)) (Qx (Of (TY (λ_=>E) 3 _) VP)) (yc (Im (sA (aca (λ_=>E) _)) (Im E (Im E E))) (yc (Im E (Im E E)) (yc (Im E (Im (sO (TY (λ_=>E) 3 _)) E)) yn))) (OR (gDb (q:=900003) (b:=5) [] [oL 3 Am g.1.2] E E E (sl E) (gFb (b:=5) [] [oL 3 Am g.1.2] E eC (x h _ (AX E))))))))))))))))))))))))))))))) λh=>qk [0,4,5] E (N1 (Ci (gFb (b:=5) [] [oL 3 Am g.1.2] E eC (x h _ (AX E))))))))))))))))))))))))))))))
def Mt(a:Int->Option (Sum Unit<|Int×Int))(b:Int):Option (Sum Unit<|Int×Int):=a<|wZ<|b+1
def Mu(a:(Bool×Int)->Option Bool)(b:Int)(c:Bool):Option Bool:=a (c,(wZ<|b+1))
def Ms(a:DA)(b:List Bool)(c:Int)(d:Int)(e:(Bool×Int)->Option Bool)(f:Bool×Int):Option Bool:=match f with
  |(g,i)=>cond (decide (i < (a.2.1.length:Int))) (cond g (Mu e i true)<|Aa (AU b i) λj=>cond j (cond (i !=c) (Aa (AU a.2.1 i) λk=>Aa (Dy k d) λl=>Mu e i l)<|Mu e i false)<|Mu e i false)<|some g
def Mv(a:(Bool×Int)->Option Bool)(b:Int)(c:Bool):Option Bool:=a (c,(wZ<|b+1))
def Mr(a:DA)(b:List Bool)(c:Int)(d:Int)(e:(Bool×Int)->Option Bool)(f:Bool×Int):Option Bool:=match f with
  |(g,i)=>cond (decide (i < a.1)) (Aa (Ay (Ms a b c i) fz (false,0)) λj=>cond g (Aa (AU a.2.1 c) λk=>Aa (Dy k i) λl=>cond (!l) (Mv e i true)<|cond (!j) (Mv e i true)<|Aa (AU a.2.1 d) λm=>Aa (Dy m i) λn=>Mv e i n)<|Mv e i false)<|some g
def OE(a:DA)(b:List Bool)(c:Int)(d:Int->Option (Sum Unit<|Int×Int))(e:Int):Option (Sum Unit<|Int×Int):=cond (decide (e < (a.2.1.length:Int))) (Aa (AU b c) λf=>cond (!f) (Mt d e)<|Aa (AU b e) λg=>cond (!g) (Mt d e)<|cond (c==e) (Mt d e)<|Aa (Ay (Mr a b c e) fz (true,0)) λi=>cond i (some<|.inr (c,e))<|Mt d e)<|some<|.inl ()
def Rz(a:DA)(b:List Bool)(c:Int->Option (Sum Unit (Int×Int)))(d:Int):Option (Sum Unit (Int×Int)):=cond (decide (d < (a.2.1.length:Int))) (Aa (Ay (OE a b d) fz 0) λe=>(match e with
  |.inl _=>(c<|wZ<|d+1)
  |.inr f=>some (.inr f))) (some (.inl ()))
def Vg(a:DA)(b:List Bool):Option (Int×Int):=Aa (Ay (Rz a b) fz 0) λc=>(match c with
  |.inl _=>(some (-1,-1))
  |.inr d=>some d)
instance iF{a:DA}{b:List Bool}:Qe 242 (Vg a b) [.agg (Cl a),dL QM b] (λc=>.tup [nI c.1,nI c.2]):=Qe.mk @λc h=>st Ahh E (rn 1 E (Ar λd e=>rn 1 E (D6 h λf g i=>have j:(.inl ())=f->Jn d []:=λh _ k=>have h:=i h;e _ (lh k E (rn 1 E (sj h ▸ Ap rZ)));(A9 (λ(l:Int)=>[(1,dL QM b),(2,.box [nI a.1,dL Cb a.2.1,dL Am a.2.2]),(6,nI l)]) _ _ _ _ g (AX E) (λ_=>E) (λm l n h o=>GC E λp=>BT h E (λh=>Cf p (Ar λq r=>A4 (rn 1 E (D6 h λs g t=>have u:(.inl ())=s->Jn q [(1,dL QM b),(2,.box [nI a.1,dL Cb a.2.1,dL Am a.2.2]),(6,nI l)]:=λh _ k=>have h:=t h;r _ (lh k E (rg (AY 3 E (o _ _ h (AX E)))));(A9 (λ(v:Int)=>[(1,dL QM b),(2,.box [nI a.1,dL Cb a.2.1,dL Am a.2.2]),(6,nI l),(7,nI v)]) _ _ _ _ g (AX E) (λ_=>E) (λm v n h o=>GC E λw=>BT h E (λh=>Cf w (Ar λx y=>have z:Mt (Ay (OE a b l) m) v=some s->Jn x [(1,dL QM b),(2,.box [nI a.1,dL Cb a.2.1,dL Am a.2.2]),(6,nI l),(7,nI v)]:=λh _ k=>y _ (lh k E (rg (AY 3 E (o _ _ h (AX E)))));(A4 (CL λA=>rs (sp 2 E (A8 h λB C h=>qI E Y3 C (sp 3 E (Eo h (λD h=>qg 31 D E (AY 11 E (qT E E (AJ (z h _ (AX E)))))) λD h=>qg 31 D E (sp 2 E (A8 h λF H h=>EN E E (qI E Y3 H (sp 4 E (Eo h (λI h=>qg 38 I E (AY 4 E (qT E E (AJ (z h _ (AX E)))))) λI h=>qg 38 I E (AY 4 E (qk [1,2,6,7,42] E (BT h E (λh=>AJ (z h _ (AX E))) λh=>Cf A (rn 1 E (Ar λJ K=>rn 1 E (D6 h λL g M=>have N:∀{O:Bool},O=L->Jn J [(1,dL QM b),(2,.box [nI a.1,dL Cb a.2.1,dL Am a.2.2]),(6,nI l),(7,nI v),(8,.bool O)]:=@λO h _ k=>have h:=M h;K _ (lh k E (rn 1 E (BT h E (λh=>rn 1 E (sj (i (sj (t (sj h)))) ▸ Ap rZ)) λh=>Ci (z h _ (AX E)))));(A9 (λ(P:Bool×Int)=>match P with|(Q,R)=>[(1,dL QM b),(2,.box [nI a.1,dL Cb a.2.1,dL Am a.2.2]),(6,nI l),(7,nI v),(8,.bool Q),(9,nI R)]) _ _ _ _ g (AX E) (λ_=>E) (λm=>IV λQ R n h o=>GC E λS=>BT h E (λh=>Cf S (Ar λT U=>A4 (rn 1 E (Ar λV W=>rn 1 E (D6 h λX g Y=>have Z:∀{c:Bool},c=X->Jn V [(1,dL QM b),(2,.box [nI a.1,dL Cb a.2.1,dL Am a.2.2]),(6,nI l),(7,nI v),(8,.bool Q),(9,nI R),(10,.bool c)]:=@λc h _ k=>have h:=Y h;W _ (lh k E (have d:∀{f:Bool},Mv (Ay (Mr a b l v) m) R f=some L->Jn T [(1,dL QM b),(2,.box [nI a.1,dL Cb a.2.1,dL Am a.2.2]),(6,nI l),(7,nI v),(8,.bool f),(9,nI R)]:=@λf h _ k=>U _ (lh k E (rg (AY 3 E (o _ _ h (AX E)))));(rg (sp 2 E (Eo h (λe h=>qg 78 e E (sp 3 E (A8 h λp q h=>EN E E (qI E H8 q (sp 2 E (A8 h λr w h=>EN E E (qC (qa E (CM (Ba E (Ba (BE AG _) E))) (qs E AT)) (DW.s w) (sp 2 E (Eo h (λs h=>qg 87 s E (AY 14 E (d h _ (AX E)))) λs h=>qg 87 s E (sp 4 E (Eo h (λx h=>qg 91 x E (AY 10 E (d h _ (AX E)))) λx h=>qg 91 x E (sp 3 E (A8 h λy B h=>EN E E (qI E H8 B (sp 2 E (A8 h λC D h=>EN E E (qC (qa E (CM (Ba E (Ba (BE AG _) E))) (qs E AT)) (DW.s D) (AY 3 E (d h _ (AX E)))))))))))))))))))) λe h=>qg 78 e E (AY 23 E (d h _ (AX E))))))));(A9 (λ(P:Bool×Int)=>match P with|(F,H)=>[(1,dL QM b),(2,.box [nI a.1,dL Cb a.2.1,dL Am a.2.2]),(6,nI l),(7,nI v),(8,.bool Q),(9,nI R),(10,.bool F),(11,nI H)]) _ _ _ _ g (AX E) (λ_=>E) (λm=>IV λF H n h o=>GC E λA=>BT h E (λh=>Cf A (Ar λI i=>A4 (have t:∀{z:Bool},Mu (Ay (Ms a b l R) m) H z=some X->Jn I [(1,dL QM b),(2,.box [nI a.1,dL Cb a.2.1,dL Am a.2.2]),(6,nI l),(7,nI v),(8,.bool Q),(9,nI R),(10,.bool z),(11,nI H)]:=@λz h _ k=>i _ (lh k E (rg (AY 3 E (o _ _ h (AX E)))));(rg (sp 2 E (Eo h (λJ h=>qg 57 J E (AY 20 E (t h _ (AX E)))) λJ h=>qg 57 J E (sp 2 E (A8 h λK M h=>EN E E (qI E Y3 M (sp 2 E (Eo h (λO h=>qg 62 O E (sp 5 E (Eo h (λS h=>qg 67 S E (sp 3 E (A8 h λV W h=>EN E E (qI E H8 W (sp 2 E (A8 h λY c h=>EN E E (qC (qa E (CM (Ba E (Ba (BE AG _) E))) (qs E AT)) (DW.s c) (AY 3 E (t h _ (AX E)))))))))) λS h=>qg 67 S E (AY 10 E (t h _ (AX E)))))) λO h=>qg 62 O E (AY 15 E (t h _ (AX E)))))))))))))) λh=>AJ (Z (sj h) _ (AX E))))))))) λh=>AJ (N (sj h) _ (AX E))))))))))))))))))))))) λh=>AJ (u (sj h) _ (AX E)))))))) λh=>AJ (j (sj h) _ trivial))))))
def QQ(a:PW):PF (Ha a)=true:=(acc E<|acc (aca (λ_=>E) _) E)
def RB(a:(zI×List Bool×Int)->Option (zI×(List Bool)))(b:zI×List Bool×Int):Option (zI×(List Bool)):=match b with
  |(c,d,e)=>cond (decide (e < (d.length:Int))) (chk (0 < d.length)<|Aa (AU d e) λf=>chk (0 < c.length)<|Aa (AU c e) λg=>a ((CY c e (-1)),(CY d e true),(wZ<|e+1)))<|some (c,d)
def RC(a:DA)(b:(zI×zI×(List Bool))->Option (Sum Unit<|zI×zI))(c:zI×zI×(List Bool)):Option (Sum Unit<|zI×zI):=match c with
  |(d,e,f)=>Aa (Vg a f) λg=>cond (decide (g.1 < 0)) (some<|.inr (d,e))<|chk (List.length d+List.length [g.1]<=lim)<|chk (0 < e.length)<|Aa (AU e g.1) λi=>chk (0 < f.length)<|Aa (AU f g.1) λj=>b ((d++[g.1]),(CY e g.1 g.2),(CY f g.1 false))
def SW(a:DA):Option (zI×zI):=chk ((0:Int)<=(a.2.1.length:Int)∧Int.toNat (a.2.1.length:Int)<=lim) (chk ((0:Int)<=(a.2.1.length:Int)∧Int.toNat (a.2.1.length:Int)<=lim) (Aa (Ay RB fz ((List.replicate (Int.toNat (a.2.1.length:Int)) (0:Int)),(List.replicate (Int.toNat (a.2.1.length:Int)) (false:Bool)),0)) λb=>(match b with
  |(c,d)=>(Aa (Ay (RC a) fz (([]:zI),c,d)) λe=>(match e with
  |.inl _=>(none)
  |.inr f=>some f)))))
instance Zf{a:DA}:Qe 205 (SW a) [.agg (Cl a)] (λc=>.tup [oL 3 Am c.1,oL 3 Am c.2]):=Qe.mk @λc h=>sta AgU E (TA (VJ E (VJ (IH U1 _) (VJ (IH (λ_=>E) _) E))) E) (dV (vag (VK E (VK (Oc Vl _) (VK (Oc (λ_=>E) _) E)))) E) (Of (TY (λ_=>E) 3 _) (Of (TY (λ_=>E) 3 _) VP)) (rn 1 E (rs (Gi Am [] E E E A6 (AY 1 E (rs (sp 3 E (D9 h λd h=>qM Am (0:Int) E E E E d (AY 1 E (rs (sp 3 E (D9 h λe h=>qM QM (false:Bool) E E E E e (AY 1 E (Ar λf g=>rn 1 E (D6 h λj k l=>have m:∀{n:zI}{o:List Bool},(n,o)=j->Jn f [(1,.box [nI a.1,aL Ha a.2.1,aL Am a.2.2]),(4,oL 3 Am []),(5,oL 3 Am n),(6,oL 4 QM o)]:=@λn o h _ p=>have h:=l h;g _ (lh p E (D6 h λr k s=>A9 (λ(t:zI×zI×(List Bool))=>match t with|(u,v,w)=>[(1,.box [nI a.1,aL Ha a.2.1,aL Am a.2.2]),(4,oL 3 Am u),(5,oL 3 Am v),(6,oL 4 QM w)]) _ _ _ _ k (AX E) (λ_=>E) (λx=>pr3 λu v w y h z=>A4 (rs (sp 2 E (A8 h λA B h=>qC (qa E (CM (Ba E (Ba (KC II _) (Ba (KC AG _) E)))) (qa E (BE Anc _) AT)) (iF.s B) (AY 5 E (GC E λC=>BT h E (λh=>rn 1 E (sj (s (sj h)) ▸ Ap rZ)) λh=>Cf C (rs (sp 2 E (Gi Am [A.1] E E E A6 (D9 h λD h=>qA Am u [A.1] E E (Bu A6 [A.1]) E D (AY 1 E (qk [1,4,5,6,8,9] E (D9 h λF h=>E0 (gLs (q:=900003) (b:=5) E E E F (λH I=>qk [1,4,5,6,8,9,900003] E (rs (sp 3 E (A8 h λJ K h=>V7 E E E E K (d6 (y0:=J) (i:=A.1) (es:=1) 0 A.2 [1,4,5,6,8] E E E E E E E E E E A6 K (λ_=>E) (Qx (Of E VP)) (yc (Im E (Im (sA (aca QQ _)) (Im (sA (aca (λ_=>E) _)) E))) (yc (Qx (bH (λ_=>E) _)) (yc E (yc (Qx (bH (λ_=>E) _)) (yc E yn))))) (OR (E0 (gDs (q:=900003) (b:=5) E E E (sl E) (qk [1,4,5,6,8] E (qk [1,4,5,6,8] E (D9 h λL h=>E0 (gLs (q:=900003) (b:=6) E E E L (λM N=>qk [1,4,5,6,8,900003] E (N1 (rg (sp 2 E (A8 h λO P h=>V7 E E E E P (d6 (y0:=O) (i:=A.1) (es:=1) 0 false [1,4,5,6] E E E E E E E E E E Y3 P (λ_=>E) (Qx (Of E VP)) (yc (Im E (Im (sA (aca QQ _)) (Im (sA (aca (λ_=>E) _)) E))) (yc (Qx (bH (λ_=>E) _)) (yc (Qx (bH (λ_=>E) _)) (yc E yn)))) (OR (gDs (q:=900003) (b:=6) E E E (sl E) (z _ _ h (AX E))))))))))))))))))))))))))))))))))))));(A9 (λ(t:zI×List Bool×Int)=>match t with|(Q,R,S)=>[(1,.box [nI a.1,aL Ha a.2.1,aL Am a.2.2]),(4,oL 3 Am []),(5,oL 3 Am Q),(6,oL 4 QM R),(7,nI S)]) _ _ _ _ k (AX E) (λ_=>E) (λx=>pr3 λQ R S y h z=>GC E λT=>BT h E (λh=>Cf T (CL λU=>A4 (qk [1,4,5,6,7] E (D9 h λV h=>E0 (gLs (q:=900003) (b:=6) E E E V (λW X=>qk [1,4,5,6,7,900003] E (rs (sp 2 E (A8 h λY Z h=>V7 E E E E Z (d6 (y0:=Y) (i:=S) (es:=1) 0 true [1,4,5,6,7] E E E E E E E E E E Y3 Z (λ_=>E) (Qx (Of E VP)) (yc (Im E (Im (sA (aca QQ _)) (Im (sA (aca (λ_=>E) _)) E))) (yc (Qx (bH (λ_=>E) _)) (yc (Qx (bH (λ_=>E) _)) (yc E (yc E yn))))) (OR (E0 (gDs (q:=900003) (b:=6) E E E (sl E) (qk [1,4,5,6,7] E (qk [1,4,5,6,7] E (D9 h λc h=>E0 (gLs (q:=900003) (b:=5) E E E c (λd e=>qk [1,4,5,6,7,900003] E (N1 (rg (sp 2 E (A8 h λf j h=>V7 E E E E j (d6 (y0:=f) (i:=S) (es:=1) 0 (-1) [1,4,5,6,7] E E E E E E E E E E A6 j (λ_=>E) (Qx (Of E VP)) (yc (Im E (Im (sA (aca QQ _)) (Im (sA (aca (λ_=>E) _)) E))) (yc (Qx (bH (λ_=>E) _)) (yc E (yc (Qx (bH (λ_=>E) _)) (yc E yn))))) (OR (gDs (q:=900003) (b:=5) E E E (sl E) (U _ (rg (AY 3 E (z _ _ h (AX E)))))))))))))))))))))))))))))) λh=>AJ (m (sj h) _ (AX E))))))))))))))))))
def PD(a:DA):Option (zI):=Aa (DO a) λb=>cond (!b) (some ([]:zI))<|Aa (SW a) λc=>some c.1
instance W7{a:DA}:Qe 241 (PD a) [.agg (Cl a)] (λb=>oL 3 Am b):=sX [1] [] [(3,[9]),(4,[14])] func241
def La(a:Bool):Option Bool:=some a
def Rw(a:DA):Option Bool:=Aa (DO a) λb=>cond b (Aa (PD a) λc=>La<|(c.length:Int)==(wZ<|(a.2.1.length:Int) - 1))<|La false
instance cL{a:DA}:Qe 204 (Rw a) [.agg (Cl a)] (λb=>.bool b):=sX [1] [(9,1)] [] func204
def Ir(a:DA):Option (zI×Bool):=Aa (Rw a) λb=>cond (!b) (some ([],false))<|Aa (SW a) λc=>some (c.2,true)
instance XR{a:DA}:Qe 147 (Ir a) [.agg (Cl a)] (λb=>.tup [.agg [oL 3 Am b.1],.bool b.2]):=sX [1,2] [] [(3,[10]),(4,[15])] func147
def Qb(a:zI)(b:Int)(c:Int)(d:zI):Option (zI×Et):=some (d,(a,b,c))
def Qa(a:DA)(b:(zI×Int×Int×zI×Int)->Option (zI×Int×Int×zI))(c:zI×Int×Int×zI×Int):Option (zI×Int×Int×zI):=match c with
  |(d,e,f,g,i)=>cond (decide (i < (a.2.1.length:Int))) (Aa (DH (d,e,f)<|wZ<|(a.2.1.length:Int)+1) λj=>chk (List.length g+List.length [wZ (j.1 - 1)]<=lim)<|b (j.2.1,j.2.2.1,j.2.2.2,(g++[wZ (j.1 - 1)]),(wZ<|i+1)))<|some (d,e,f,g)
def Np(a:DA)(b:zI×Bool)(c:zI)(d:Int)(e:Int)(f:Bool):Option (zI×Et):=cond f (Aa (Ay (Qa a) fz (c,d,e,([]:zI),0)) λg=>(match g with
  |(i,j,k,l)=>(Qb i j k l))) (Qb c d e b.1)
def TP(a:Et)(b:DA):Option (zI×Et):=Aa (Ir b) λc=>cond ((c.1.length:Int)==0) (Np b c a.1 a.2.1 a.2.2 true)<|Aa (JX a 3) λd=>Np b c d.2.1 d.2.2.1 d.2.2.2 d.1
instance{a:DA}:Xs (Qa a) (λ(F,H,I,J,K)=>[(0,.box [aL Lo F,nI H,nI I]),(5,.box [oL 3 Am J]),(7,nI K)]) [3,4]:=⟨⟩
instance g6{a:Et}{b:DA}:MH 90 (TP a b) [aL Lo a.1,nI a.2.1,nI a.2.2] [.agg (Cl b)] (λc=>[aL Lo c.2.1,nI c.2.2.1,nI c.2.2.2]) (λc=>.agg [oL 3 Am c.1]):=MH.mk λh=>stp AlD E U0
abbrev bf:=Int×zI×zI×Sy
def Nu(a:bf):List V:=[nI a.1,dL Am a.2.1,dL Am a.2.2.1,dL BL a.2.2.2.1,dL Am a.2.2.2.2]
def Yi(a:bf):List V:=[nI a.1,oL 3 Am a.2.1,oL 3 Am a.2.2.1,dL BL a.2.2.2.1,oL 3 Am a.2.2.2.2]
def Tp(a:zI×Et)(b:Sy×Et)(c:zI×Et)(d:zI)(e:Int)(f:Int)(g:Int):Option (bf×Et):=some ((g,a.1,c.1,b.1),(d,e,f))
def TS(a:Et)(b:DA):Option (bf×Et):=Aa (DH a 3) λc=>Aa (Sr c.2 b) λd=>Aa (RG d.2 b) λe=>Aa (TP e.2 b) λf=>Aa (JX f.2 14) λg=>cond g.1 (Aa (I2 g.2 [0,4]) λi=>Tp d e f i.2.1 i.2.2.1 i.2.2.2 i.1)<|Tp d e f g.2.1 g.2.2.1 g.2.2.2<|wZ<|1+c.1
instance hM{a:Et}{b:DA}:MH 34 (TS a b) [aL Lo a.1,nI a.2.1,nI a.2.2] [.agg (Cl b)] (λc=>[aL Lo c.2.1,nI c.2.2.1,nI c.2.2.2]) (λc=>.agg (Yi c.1)):=MH.mk λh=>stp AkX E U0
def AcN(a:PW):RO (FD a)=Ha a:=(fzc E<|fzc (fzO (λ_=>E) 3 _) E)
def H9(a:DA):List V:=[nI a.1,aL Ha a.2.1,aL Am a.2.2]
def O9(a:zI):Option (List En×DA×bf):=Aa (WI a) λb=>Aa (YG b) λc=>Aa (Ss c.2) λd=>Aa (TS d.2 d.1) λe=>some (c.1,d.1,e.1)
instance ZM{a:zI}:Qe 6 (O9 a) [aL Lo a] (λc=>.tup [.agg [oL 123 KM c.1],.agg (H9 c.2.1),.agg (Yi c.2.2)]):=Qe.mk λh=>st AnE E (rn 1 E (rs (sp 1 E (A8 h λd e h=>qN E E E E (lR e) (AY 1 E (rs (sp 1 E (A8 h λf g h=>qP E E E E AT (oa.s g) (AY 2 E (rs (sp 1 E (A8 h λi j h=>qP E E E E AT (dD.s j) (AY 2 E (qk [2,3,4,5,6,7,9] E (E0 (gFb (b:=7) [nI i.1.1] [oL 3 Am i.1.2.2] E AcN (E0 (gFb (b:=7) [nI i.1.1,aL Ha i.1.2.1] [] E (λ_=>E) (qk [2,3,4,5,6,7,9] E (rd (by kernel_rfl) (sd 4 E (A8 h λk l h=>ed E (qP E E E E (qa E (CM (Ba E (Ba (KC II _) (Ba (KC AG _) E)))) AT) (hM.s l) (sd 3 E (CN (sj h ▸ Ap rZ))))))))))))))))))))))))))
def Iz(a:(zI×Int)->Option (zI))(b:Int)(c:zI):Option (zI):=a (c,(wZ<|b+1))
def Iy(a:(zI×Int)->Option (zI))(b:zI)(c:Int)(d:Bool):Option (zI):=cond d (chk (List.length b+List.length [c]<=lim)<|Iz a c<|b++[c])<|Iz a c b
def Fz(a:zI)(b:Int)(c:(zI×Int)->Option (zI))(d:zI×Int):Option (zI):=match d with
  |(e,f)=>cond (decide (f < (a.length:Int))) (Aa (AU a f) λg=>cond (g==b) (Iy c e f<|decide (0<=b))<|Iy c e f false)<|some e
def FI(a:zI)(b:Int):Option (zI):=Aa (Ay (Fz a b) fz (([]:zI),0)) λc=>some c
instance{a:zI}{b:Int}:Xs (Fz a b) (λ(n,o)=>[(5,oL 3 Am n),(11,nI o)]) [1,9,10]:=⟨⟩
instance Jc{a:zI}{b:Int}:Qe 93 (FI a b) [.agg [dL Am a],nI b] (λc=>oL 3 Am c):=sX [2] [] [(6,[23]),(8,[28])] func93
def KW(a:(Int×Int)->Option (Sum Int Int))(b:Int)(c:Int):Option (Sum Int Int):=a (c,(wZ<|b+1))
def KV(a:zI)(b:(Int×Int)->Option (Sum Int Int))(c:Int×Int):Option (Sum Int Int):=match c with
  |(d,e)=>cond (decide (e < (a.length:Int))) (Aa (AU a e) λf=>cond (f !=(-1)) (KW b e d)<|cond (decide (0<=d)) (some<|.inr (-1))<|KW b e e)<|some<|.inl d
def HP(a:zI):Option Int:=Aa (Ay (KV a) fz ((-1),0)) λb=>(match b with
  |.inl c=>(some c)
  |.inr d=>some d)
instance{a:zI}:Xs (KV a) (λ(m,n)=>[(3,nI m),(9,nI n)]) [7,8]:=⟨⟩
instance Pq{a:zI}:Qe 96 (HP a) [.agg [dL Am a]] (λb=>nI b):=sX [1] [] [] func96
def Nh(a:zI)(b:(zI×Int)->Option (zI))(c:zI×Int):Option (zI):=match c with
  |(d,e)=>cond (decide (e < (d.length:Int))) (Aa (AU d e) λf=>Aa (FI a f) λg=>chk (List.length d+List.length g<=lim)<|b ((d++g),(wZ<|e+1)))<|some d
def Ni(a:(zI×Int×Int)->Option (zI))(b:zI×Int×Int):Option (zI):=match b with
  |(c,d,e)=>cond (decide (d < e)) (chk (0 < c.length)<|Aa (AU c e) λf=>Aa (AU c d) λg=>Aa (AU c d) λi=>Aa (AU (CY c d f) e) λj=>a ((CY (CY c d f) e g),(wZ<|d+1),(wZ<|e - 1)))<|some c
def O3(a:zI):Option (zI):=Aa (HP a) λb=>Aa (Ay (Nh a) fz ([b],0)) λc=>Aa (Ay Ni fz (c,0,(wZ<|(c.length:Int) - 1))) λd=>some d
instance Uu{a:zI}:Qe 92 (O3 a) [.agg [dL Am a]] (λc=>oL 3 Am c):=Qe.mk @λc h=>sta AlF E (TA (VJ (IH (λ_=>E) _) E) E) (dV (vag (VK (Oc (λ_=>E) _) E)) E) (TY (λ_=>E) 3 _) (rn 1 E (rs (sp 1 E (A8 h λd e h=>qC (qa E (CM (Ba (KC AG _) E)) AT) (Pq.s e) (Gi Am [d] E E E A6 (AY 1 E (Ar λf g=>rn 1 E (D6 h λj k l=>have m:∀{n:zI},n=j->Jn f [(3,oL 3 Am n)]:=@λn h _ o=>have h:=l h;g _ (lh o E (Ar λp r=>rn 1 E (D6 h λs k t=>have u:∀{v:zI},v=s->Jn p [(3,oL 3 Am v)]:=@λv h _ o=>have h:=t h;r _ (lh o E (rn 1 E (sj h ▸ Ap rZ)));(A9 (λ(w:zI×Int×Int)=>match w with|(x,y,z)=>[(3,oL 3 Am x),(5,nI y),(6,nI z)]) _ _ _ _ k (AX E) (λ_=>E) (λA=>pr3 λx y z B h C=>GC E λD=>BT h E (λh=>Cf D (CL λF=>A4 (qk [3,5,6] E (D9 h λH h=>E0 (gLs (q:=900003) (b:=3) E E E H (λI J=>qk [3,5,6,900003] E (N1 (rgt 12 (by kernel_rfl) (sd 6 E (A8 h λK L h=>ed E (V7 E E E E L (ed E (qLe (i:=z) (es:=1) (q:=900003) 0 E E E E E E A6 L E E (sd 2 E (A8 h λM N h=>ed E (V7 E E E E N (ed E (qLe (i:=y) (es:=1) (q:=900003) 0 E E E E E E A6 N E E (CN (Ky (A8 h λO P h=>V7 E E E E P (d6 (y0:=O) (i:=y) (es:=1) 0 K [3,5,6,36,37,45] E E E E E E E E E E A6 P (λ_=>E) (Qx (Of E VP)) (yc E (yc E (yc E (yc E (yc E (yc E yn)))))) (A8 h λQ R h=>V7 E E E (sl E) R (d6 (y0:=Q) (i:=z) (es:=1) 0 M [3,5,6] E E E E E E E E E E A6 R (λ_=>E) (Qx (Of E VP)) (yc E (yc E (yc E yn))) (OR (gDs (q:=900003) (b:=3) E E E (sl (sl E)) (F _ (rg (AY 6 E (C _ _ h (AX E))))))))))))))))))))))))))))))) λh=>AJ (u (sj h) _ (AX E)))))));(A9 (λ(w:zI×Int)=>match w with|(S,T)=>[(1,.box [aL Am a]),(3,oL 3 Am S),(4,nI T)]) _ _ _ _ k (AX E) (λ_=>E) (λA=>IV λS T B h C=>GC E λU=>BT h E (λh=>Cf U (CL λV=>A4 (jG (by kernel_rfl) (sd 4 E (A8 h λW X h=>ed E (qI E A6 X (sd 1 E (A8 h λY Z h=>ed E (qC (qa E (CM (Ba (KC AG _) E)) (qs E AT)) (Jc.s Z) (D9 h λc h=>ed E (qA Am S Y E E (Bu A6 Y) E c (sd 1 E (CN (V _ (rg (AY 3 E (C _ _ h (AX E)))))))))))))))))) λh=>AJ (m (sj h) _ (AX E))))))))))))
def Rh(a:Bool):Option Bool:=some a
def Eh(a:Int)(b:Int)(c:Int):Option Bool:=cond (decide (b<=a)) (Rh<|decide (a<=c))<|Rh false
instance DX{a:Int}{b:Int}{c:Int}:Qe 122 (Eh a b c) [nI a,nI b,nI c] (λd=>.bool d):=sX [] [] [] func122
def J3(a:Int)(b:Int):Option Int:=cond (decide (a < b)) (some (-1))<|cond (decide (b < a)) (some 1)<|some 0
instance Qp{a:Int}{b:Int}:Qe 132 (J3 a b) [nI a,nI b] (λc=>nI c):=sX [] [] [] func132
def LE(a:zI)(b:zI)(c:Int->Option (Sum Unit Int))(d:Int):Option (Sum Unit Int):=cond (decide (d < (a.length:Int))) (cond (decide (d < (b.length:Int))) (Aa (AU a d) λe=>Aa (AU b d) λf=>cond (e !=f) (Aa (AU a d) λg=>Aa (AU b d) λi=>Aa (J3 g i) λj=>some<|.inr j)<|c<|wZ<|d+1)<|some<|.inl ())<|some<|.inl ()
def In(a:zI)(b:zI):Option Int:=Aa (Ay (LE a b) fz 0) λc=>(match c with
  |.inl _=>(Aa (J3 (a.length:Int) (b.length:Int)) λd=>some d)
  |.inr e=>some e)
instance{a:zI}{b:zI}:Xs (LE a b) (λn=>[(5,nI n)]) [0,1]:=⟨⟩
instance ML{a:zI}{b:zI}:Qe 225 (In a b) [dL Am a,dL Am b] (λc=>nI c):=sX [] [] [] func225
def MJ(a:zI)(b:Int->Option (Sum Unit Bool))(c:Int):Option (Sum Unit Bool):=cond (decide (c < (a.length:Int))) (Aa (AU a c) λd=>Aa (Eh d 0 99) λe=>cond (!e) (some<|.inr false)<|b<|wZ<|c+1)<|some<|.inl ()
def Jy(a:zI):Option Bool:=Aa (Ay (MJ a) fz 0) λb=>(match b with
  |.inl _=>(some true)
  |.inr c=>some c)
instance{a:zI}:Xs (MJ a) (λk=>[(7,nI k)]) [5,6]:=⟨⟩
instance RR{a:zI}:Qe 227 (Jy a) [dL Am a] (λb=>.bool b):=sX [] [] [] func227
def Jh(a:Int->Option (Sum Unit Bool))(b:Int)(c:Bool):Option (Sum Unit Bool):=cond c (some<|.inr false)<|a<|wZ<|b+1
def NZ(a:Int)(b:List zI)(c:Int->Option (Sum Unit Bool))(d:Int):Option (Sum Unit Bool):=cond (decide (d < (b.length:Int))) (Aa (AU b d) λe=>cond ((e.length:Int)!=a) (Jh c d true)<|Aa (Jy e) λf=>cond (!f) (Jh c d true)<|cond (decide (0 < d)) (Aa (AU b<|wZ<|d - 1) λg=>Aa (In g e) λi=>Jh c d<|decide (0<=i))<|Jh c d false)<|some<|.inl ()
def Ut(a:Int)(b:List zI):Option Bool:=Aa (Eh a 0 5) λc=>cond (!c) (some false) (cond (decide (4000 < (b.length:Int))) (some false) (Aa (Ay (NZ a b) fz 0) λd=>(match d with
  |.inl _=>(some true)
  |.inr e=>some e)))
instance{a:Int}{b:List zI}:Xs (NZ a b) (λp=>[(17,nI p)]) [0,1,15,16]:=⟨⟩
instance cl{a:Int}{b:List zI}:Qe 226 (Ut a b) [nI a,dL BL b] (λc=>.bool c):=sX [] [] [(5,[21])] func226
def EB(a:FH):Option Bool:=Aa (Ut a.1 a.2) λb=>some b
instance Ge{a:FH}:Qe 178 (EB a) [.agg (Qh a)] (λb=>.bool b):=sX [1] [] [] func178
abbrev Dl:=zI×FH
def PG(a:Dl):List V:=[dL Am a.1,nI a.2.1,dL BL a.2.2]
def F0(a:Int->Option (Sum Unit Bool))(b:Int)(c:Bool):Option (Sum Unit Bool):=cond c (some<|.inr false)<|a<|wZ<|b+1
def HO(a:Dl)(b:Int->Option (Sum Unit Bool))(c:Int):Option (Sum Unit Bool):=cond (decide (c < (a.1.length:Int))) (Aa (AU a.1 c) λd=>Aa (Eh d 0 4) λe=>cond (!e) (F0 b c true)<|cond (decide (0 < c)) (Aa (AU a.1<|wZ<|c - 1) λf=>F0 b c<|decide (d<=f))<|F0 b c false)<|some<|.inl ()
def Kc(a:Bool):Option Bool:=some a
def E8(a:Dl):Option Bool:=Aa (Ay (HO a) fz 0) λb=>(match b with
  |.inl _=>(Aa (EB a.2) λc=>cond c (Kc<|a.2.1==(a.1.length:Int))<|Kc false)
  |.inr d=>some d)
instance{a:Dl}:Xs (HO a) (λr=>[(8,nI r)]) [1,6,7]:=⟨⟩
instance Ie{a:Dl}:Qe 174 (E8 a) [.agg (PG a)] (λb=>.bool b):=sX [1] [] [] func174
def EP(a:zI):Option (zI):=chk (List.length ([]:zI)+List.length a<=lim)<|some<|([]:zI)++a
instance H4{a:zI}:Qe 183 (EP a) [dL Am a] (λb=>oL 3 Am b):=sX [] [] [(1,[4])] func183
def Nw(a:zI)(b:Int)(c:Int->Option Int)(d:Int):Option Int:=cond (decide (d < (a.length:Int))) (Aa (AU a d) λe=>cond (decide (e < b)) (c<|wZ<|d+1)<|some d)<|some d
def PP(a:(zI×Int)->Option (zI))(b:Int)(c:zI):Option (zI):=a (c,(wZ<|b+1))
def Nx(a:(zI×Int)->Option (zI))(b:zI)(c:Int)(d:Int)(e:Int)(f:Bool):Option (zI):=cond f (chk ((0:Int)<=0∧0<=e∧e<=(b.length:Int))<|Aa (EP<|CZ b 0 e) λg=>chk (List.length g+List.length [d]<=lim)<|chk ((0:Int)<=e∧e<=(b.length:Int)∧(b.length:Int)<=(b.length:Int))<|chk (List.length (g++[d])+List.length (CZ b e (b.length:Int))<=lim)<|PP a c<|(g++[d])++(CZ b e (b.length:Int)))<|PP a c b
def Lq(a:zI)(b:(zI×Int)->Option (zI))(c:zI×Int):Option (zI):=match c with
  |(d,e)=>cond (decide (e < (a.length:Int))) (Aa (AU a e) λf=>Aa (Ay (Nw d f) fz 0) λg=>cond (g==(d.length:Int)) (Nx b d e f g true)<|Aa (AU d g) λi=>Nx b d e f g<|i !=f)<|some d
def MR(a:zI)(b:zI):Option (zI):=Aa (EP a) λc=>Aa (Ay (Lq b) fz (c,0)) λd=>some d
instance{a:zI}{b:Int}:Xs (Nw a b) (λW=>[(8,nI W)]) [5,7,11,12,13]:=⟨⟩
instance{a:zI}:Xs (Lq a) (λ(p,q)=>[(5,oL 3 Am p),(13,nI q)]) [11,12]:=⟨⟩
instance Rg{a:zI}{b:zI}:Qe 175 (MR a b) [dL Am a,dL Am b] (λc=>oL 3 Am c):=sX [] [] [(11,[55])] func175
def Tf(a:zI)(b:Int)(c:Int->Option (Sum Unit Int))(d:Int):Option (Sum Unit Int):=cond (decide (d < (a.length:Int))) (Aa (AU a d) λe=>cond (e==b) (some<|.inr d)<|c<|wZ<|d+1)<|some<|.inl ()
def IE(a:zI)(b:Int):Option Int:=Aa (Ay (Tf a b) fz 0) λc=>(match c with
  |.inl _=>(some (-1))
  |.inr d=>some d)
instance{a:zI}{b:Int}:Xs (Tf a b) (λl=>[(9,nI l)]) [1,7,8]:=⟨⟩
instance Kf{a:zI}{b:Int}:Qe 188 (IE a b) [dL Am a,nI b] (λc=>nI c):=sX [] [] [] func188
def O0(a:(zI×Int)->Option (Sum (zI)<|zI×Bool))(b:Int)(c:zI):Option (Sum (zI)<|zI×Bool):=a (c,(wZ<|b+1))
def MP(a:(zI×Int)->Option (Sum (zI)<|zI×Bool))(b:zI)(c:zI)(d:zI)(e:Int)(f:Int)(g:Int)(i:Bool):Option (Sum (zI)<|zI×Bool):=cond i (some<|.inr (([]:zI),false))<|cond (decide (0<=f)) (Aa (AU b f) λj=>chk (List.length d+List.length [j]<=lim)<|O0 a e<|d++[j])<|Aa (AU c g) λk=>chk (List.length d+List.length [k]<=lim)<|O0 a e<|d++[k]
def JQ(a:zI)(b:zI)(c:zI)(d:zI)(e:zI)(f:(zI×Int)->Option (Sum (zI)<|zI×Bool))(g:zI×Int):Option (Sum (zI)<|zI×Bool):=match g with
  |(i,j)=>cond (decide (j < (a.length:Int))) (Aa (AU a j) λk=>Aa (IE b k) λl=>Aa (IE d k) λm=>cond (decide (0<=l)) (cond (decide (0<=m)) (Aa (AU c l) λn=>Aa (AU e m) λo=>MP f c e i j l m<|n !=o)<|MP f c e i j l m false)<|MP f c e i j l m false)<|some<|.inl i
def VY(a:zI)(b:zI)(c:zI)(d:zI)(e:zI):Option (zI×Bool):=Aa (Ay (JQ a b c d e) fz (([]:zI),0)) λf=>(match f with
  |.inl g=>(some (g,true))
  |.inr i=>some i)
instance{a:zI}{b:zI}{c:zI}{d:zI}{e:zI}:Xs (JQ a b c d e) (λ(q,r)=>[(12,oL 3 Am q),(20,nI r)]) [1,2,3,4,18,19]:=⟨⟩
instance cZ{a:zI}{b:zI}{c:zI}{d:zI}{e:zI}:Qe 176 (VY a b c d e) [dL Am a,dL Am b,dL Am c,dL Am d,dL Am e] (λf=>.tup [oL 3 Am f.1,.bool f.2]):=sX [] [] [(10,[58]),(6,[30]),(12,[66])] func176
def DQ(a:Dl):List V:=[oL 3 Am a.1,nI a.2.1,oL 28 AS a.2.2]
def FC(a:Dl):(DQ a).length=3:=E
def J2(a:Dl)(b:Dl)(c:zI)(d:List zI)(e:zI)(f:Int->Option (List zI))(g:Int):Option (List zI):=cond (decide (g < (b.2.2.length:Int))) (Aa (AU b.2.2 g) λi=>Aa (VY c a.1 e b.1 i) λj=>cond j.2 (Aa (EP e) λk=>chk (List.length d+List.length [k]<=lim)<|some<|d++[k])<|f<|wZ<|g+1)<|some d
def OW(a:Dl)(b:Dl)(c:zI)(d:(List zI×Int)->Option (List zI))(e:(List zI)×Int):Option (List zI):=match e with
  |(f,g)=>cond (decide (g < (a.2.2.length:Int))) (Aa (AU a.2.2 g) λi=>Aa (Ay (J2 a b c f i) fz 0) λj=>d (j,(wZ<|g+1)))<|some f
def Nv(a:Dl)(b:Dl):Option (Dl×Bool):=Aa (E8 a) λc=>cond (!c) (some (([],(0,[])),false))<|Aa (E8 b) λd=>cond (!d) (some (([],(0,[])),false))<|Aa (EP a.1) λe=>Aa (MR a.1 b.1) λf=>Aa (Ay (OW a b f) fz (([]:List zI),0)) λg=>some ((e,(a.2.1,g)),true)
instance Tc{a:Dl}{b:Dl}:Qe 98 (Nv a b) [.agg (PG a),.agg (PG b)] (λc=>.tup [.agg (DQ c.1),.bool c.2]):=Qe.mk λh=>st AlL E (rn 1 E (CL λd=>rs (sp 1 E (A8 h λe f h=>qC (qa E (CM (Ba (BE AG _) (Ba E (Ba (BE Dg _) E)))) AT) (Ie.s f) (sp 2 E (Eo h (λg h=>qg 17 g E (AY 4 E (qT E E (rn 1 E (sj h ▸ Ap rZ))))) λg h=>qg 17 g E (sp 1 E (A8 h λi j h=>EN E E (qC (qa E (CM (Ba (BE AG _) (Ba E (Ba (BE Dg _) E)))) AT) (Ie.s j) (AY 2 E (BT h E (λh=>rn 1 E (sj h ▸ Ap rZ)) λh=>Cf d (rd (by kernel_rfl) (sd 2 E (A8 h λk l h=>ed E (qC (qa E (BE AG _) AT) (H4.s l) (sd 7 E (CN (qk [2,3,4,6] E (rs (sp 4 E (A8 h λm n h=>qC (qa E (BE AG _) (qa E (BE AG _) AT)) (Rg.s n) (AY 1 E (Ar λo p=>rn 1 E (D6 h λq r s=>have t:∀{u:List zI},u=q->Jn o [(4,.box [oL 3 Am [],nI 0,oL 28 AS []]),(6,.box [oL 3 Am k,nI a.2.1,oL 28 AS u])]:=@λu h _ v=>have h:=s h;p _ (lh v E (rn 1 E (sj h ▸ Ap rZ)));(A9 (λ(w:(List zI)×Int)=>match w with|(x,y)=>[(2,.box [dL Am a.1,nI a.2.1,dL BL a.2.2]),(3,.box [dL Am b.1,nI b.2.1,dL BL b.2.2]),(4,.box [oL 3 Am [],nI 0,oL 28 AS []]),(6,.box [oL 3 Am k,nI a.2.1,oL 28 AS x]),(7,oL 3 Am m),(38,dL BL a.2.2),(39,nI (List.length a.2.2:Int)),(40,nI y)]) _ _ _ _ r (AX E) (λ_=>E) (λz=>IV λx y A h B=>rn 1 E (CL λC=>BT h E (λh=>Cf C (Ar λD F=>A4 (rs (A8 h λH I h=>qI E Da I (AY 2 E (rn 1 E (D6 h λJ r K=>have L:∀{M:List zI},M=J->Jn D [(2,.box [dL Am a.1,nI a.2.1,dL BL a.2.2]),(3,.box [dL Am b.1,nI b.2.1,dL BL b.2.2]),(4,.box [oL 3 Am [],nI 0,oL 28 AS []]),(6,.box [oL 3 Am k,nI a.2.1,oL 28 AS M]),(7,oL 3 Am m),(38,dL BL a.2.2),(39,nI (List.length a.2.2:Int)),(40,nI y)]:=@λM h _ v=>have h:=K h;F _ (lh v E (rg (AY 2 E (B _ _ h (AX E)))));(A9 (λ(N:Int)=>[(2,.box [dL Am a.1,nI a.2.1,dL BL a.2.2]),(3,.box [dL Am b.1,nI b.2.1,dL BL b.2.2]),(4,.box [oL 3 Am [],nI 0,oL 28 AS []]),(6,.box [oL 3 Am k,nI a.2.1,oL 28 AS x]),(7,oL 3 Am m),(9,dL Am H),(38,dL BL a.2.2),(39,nI (List.length a.2.2:Int)),(40,nI y),(46,dL BL b.2.2),(47,nI (List.length b.2.2:Int)),(48,nI N)]) _ _ _ _ r (AX E) (λ_=>E) (λz N A h B=>rn 1 E (CL λO=>BT h E (λh=>Cf O (CL λP=>A4 (rs (A8 h λQ R h=>qI E Da R (AY 2 E (rs (sp 7 E (A8 h λS T h=>qC (qa E (BE AG _) (qa E (BE AG _) (qa E (BE AG _) (qa E (BE AG _) (qa E (BE AG _) AT))))) (cZ.s T) (AY 5 E (rn 1 E (BT h E (λh=>rd (by kernel_rfl) (sd 4 E (A8 h λU V h=>ed E (qC (qa E (BE AG _) AT) (H4.s V) (ed E (Gi AS [U] E E E Db (D9 h λW h=>ed E (qA AS x [U] E E (Bu Db [U]) E W (sd 3 E (CN (qk [2,3,4,6,7,38,39,40] E (AJ (L (sj h) _ (AX E)))))))))))))) λh=>Cf P (rg (AY 2 E (B _ _ h (AX E))))))))))))))) λh=>AJ (L (sj h) _ (AX E)))))))))))) λh=>AJ (t (sj h) _ (AX E)))))))))))))))))))))))))))))
def H5(a:zI)(b:Int):Option Bool:=Aa (IE a b) λc=>some<|decide (0<=c)
instance ID{a:zI}{b:Int}:Qe 138 (H5 a b) [dL Am a,nI b] (λc=>.bool c):=sX [] [] [] func138
def Tg(a:zI)(b:Int)(c:Int->Option (Sum Unit Bool))(d:Int):Option (Sum Unit Bool):=cond (decide (d < (a.length:Int))) (Aa (AU a d) λe=>Aa (Eh e 0<|wZ<|b - 1) λf=>cond (!f) (some<|.inr false)<|chk ((0:Int)<=0∧0<=d∧d<=(a.length:Int))<|Aa (H5 (CZ a 0 d) e) λg=>cond g (some<|.inr false)<|c<|wZ<|d+1)<|some<|.inl ()
def MQ(a:zI)(b:Int):Option Bool:=Aa (Ay (Tg a b) fz 0) λc=>(match c with
  |.inl _=>(some true)
  |.inr d=>some d)
instance{a:zI}{b:Int}:Xs (Tg a b) (λl=>[(9,nI l)]) [0,1,7,8]:=⟨⟩
instance Q2{a:zI}{b:Int}:Qe 106 (MQ a b) [dL Am a,nI b] (λc=>.bool c):=sX [] [] [] func106
def Q1(a:zU)(b:Int->Option (Sum Unit Bool))(c:Int):Option (Sum Unit Bool):=cond (decide (c < (a.length:Int))) (Aa (AU a c) λd=>cond (decide ((UInt8.toNat d:Int) < 97)) (some<|.inr false)<|Aa (AU a c) λe=>cond (decide (122 < (UInt8.toNat e:Int))) (some<|.inr false)<|b<|wZ<|c+1)<|some<|.inl ()
def Us(a:zU)(b:Int):Option Bool:=cond (decide ((a.length:Int) < 1)) (some false) (cond (decide (b < (a.length:Int))) (some false) (Aa (Ay (Q1 a) fz 0) λc=>(match c with
  |.inl _=>(some true)
  |.inr d=>some d)))
instance{a:zU}:Xs (Q1 a) (λn=>[(5,nI n)]) [0]:=⟨⟩
instance ci{a:zU}{b:Int}:Qe 193 (Us a b) [.str a,nI b] (λc=>.bool c):=sX [] [] [] func193
def LZ(a:zU):Option Bool:=Aa (Us a 4) λb=>some b
instance Ul{a:zU}:Qe 123 (LZ a) [.str a] (λb=>.bool b):=sX [] [] [] func123
def KU(a:DA)(b:PW)(c:(List Bool×Int)->Option (Sum (List Bool) Bool))(d:(List Bool)×Int):Option (Sum (List Bool) Bool):=match d with
  |(e,f)=>cond (decide (f < (b.2.length:Int))) (Aa (AU b.2 f) λg=>Aa (Eh g 0<|wZ<|a.1 - 1) λi=>cond (!i) (some<|.inr false)<|Aa (AU e g) λj=>c ((CY e g true),(wZ<|f+1)))<|some<|.inl e
def IQ(a:DA)(b:(List Bool×Int)->Option (Sum (List Bool) Bool))(c:(List Bool)×Int):Option (Sum (List Bool) Bool):=match c with
  |(d,e)=>cond (decide (e < (a.2.1.length:Int))) (Aa (AU a.2.1 e) λf=>Aa (LZ f.1) λg=>cond (!g) (some (.inr false)) (Aa (Eh (f.2.length:Int) 1 5) λi=>cond (!i) (some (.inr false)) (Aa (Ay (KU a f) fz (d,0)) λj=>(match j with
  |.inl k=>(b (k,(wZ<|e+1)))
  |.inr l=>some (.inr l))))) (some (.inl d))
def Oi(a:List Bool)(b:Int->Option (Sum Unit Bool))(c:Int):Option (Sum Unit Bool):=cond (decide (c < (a.length:Int))) (Aa (AU a c) λd=>cond (!d) (some<|.inr false)<|b<|wZ<|c+1)<|some<|.inl ()
def C5(a:DA):Option Bool:=Aa (Eh a.1 1 5) λb=>cond (!b) (some false) (Aa (Eh (a.2.1.length:Int) 1 4) λc=>cond (!c) (some false) (Aa (MQ a.2.2 a.1) λd=>cond (!d) (some false) (chk ((0:Int)<=a.1∧Int.toNat a.1<=lim) (Aa (Ay (IQ a) fz ((List.replicate (Int.toNat a.1) (false:Bool)),0)) λe=>(match e with
  |.inl f=>(Aa (Ay (Oi f) fz 0) λg=>(match g with
  |.inl _=>(some true)
  |.inr i=>some i))
  |.inr i=>some i)))))
instance{a:DA}{b:PW}:Xs (KU a b) (λ(e,f)=>[(4,wL 4 QM e),(53,nI f)]) [3,33,34,35,51,52]:=⟨⟩
instance{a:DA}:Xs (IQ a) (λ(L,M)=>[(4,wL 4 QM L),(35,nI M)]) [3,33,34]:=⟨⟩
instance{a:List Bool}:Xs (Oi a) (λA=>[(69,nI A)]) [4,67,68]:=⟨⟩
instance Dj{a:DA}:Qe 51 (C5 a) [.agg (Cl a)] (λb=>.bool b):=sX [1,4,6,31] [] [(4,[4,31]),(7,[38])] func51
def Oq(a:zI)(b:(Int×Int)->Option (Sum Int Bool))(c:Int×Int):Option (Sum Int Bool):=match c with
  |(d,e)=>cond (decide (e<=(a.length:Int))) (cond (decide (0<=d)) (Aa (AU a d) λf=>Aa (Eh f (-1)<|wZ<|(a.length:Int) - 1) λg=>cond (!g) (some<|.inr false)<|b (f,(wZ<|e+1)))<|some<|.inl d)<|some<|.inl d
def Q3(a:(Int×Int)->Option (Sum Int Bool))(b:zI)(c:Int)(d:Int):Option (Sum Int Bool):=Aa (Ay (Oq b) fz (c,0)) λe=>(match e with
  |.inl f=>(cond (decide (0<=f)) (some<|.inr false)<|a (d,(wZ<|c+1)))
  |.inr g=>some (.inr g))
def Oo(a:zI)(b:(Int×Int)->Option (Sum Int Bool))(c:Int×Int):Option (Sum Int Bool):=match c with
  |(d,e)=>cond (decide (e < (a.length:Int))) (Aa (AU a e) λf=>Aa (Eh f (-1)<|wZ<|(a.length:Int) - 1) λg=>cond (!g) (some<|.inr false)<|cond (decide (f < 0)) (Q3 b a e<|wZ<|d+1)<|Q3 b a e d)<|some<|.inl d
def SM(a:zI):Option Bool:=Aa (Ay (Oo a) fz (0,0)) λb=>(match b with
  |.inl c=>(some<|c==1)
  |.inr d=>some d)
instance{a:zI}:Xs (Oq a) (λ(K,L)=>[(6,nI K),(7,nI L)]) [0,3,8,9,10]:=⟨⟩
instance{a:zI}:Xs (Oo a) (λ(m,n)=>[(3,nI m),(10,nI n)]) [0,8,9]:=⟨⟩
instance Y7{a:zI}:Qe 101 (SM a) [dL Am a] (λb=>.bool b):=sX [] [] [] func101
def Rf(a:(Int×Int)->Option Int)(b:Int)(c:Int):Option Int:=a (c,(wZ<|b+1))
def Ou(a:(Int×Int)->Option Int)(b:Int)(c:Int)(d:Bool):Option Int:=cond d (Rf a c<|wZ<|b+1)<|Rf a c b
def Me(a:List zI)(b:zI)(c:Int)(d:(Int×Int)->Option Int)(e:Int×Int):Option Int:=match e with
  |(f,g)=>cond (decide (g < (a.length:Int))) (Aa (AU a g) λi=>Aa (H5 i c) λj=>cond j (Aa (AU b g) λk=>cond (decide (k < 0)) (Ou d f g true)<|Aa (AU b g) λl=>Aa (AU a l) λm=>Aa (H5 m c) λn=>Ou d f g (!n))<|Ou d f g false)<|some f
def SP(a:List zI)(b:zI)(c:Int):Option Int:=Aa (Ay (Me a b c) fz (0,0)) λd=>some d
instance{a:List zI}{b:zI}{c:Int}:Xs (Me a b c) (λ(o,p)=>[(7,nI o),(12,nI p)]) [0,1,2,10,11]:=⟨⟩
instance Y9{a:List zI}{b:zI}{c:Int}:Qe 102 (SP a b c) [dL BL a,dL Am b,nI c] (λd=>nI d):=sX [] [] [(4,[16])] func102
def LY(a:DA)(b:(List zI×Int)->Option (List zI))(c:(List zI)×Int):Option (List zI):=match c with
  |(d,e)=>cond (decide (e < (a.2.1.length:Int))) (Aa (AU a.2.1 e) λf=>chk (List.length d+List.length [f.2]<=lim)<|b ((d++[f.2]),(wZ<|e+1)))<|some d
def QE(a:DA)(b:zI)(c:List zI)(d:Int->Option (Sum Unit Bool))(e:Int):Option (Sum Unit Bool):=cond (decide (e < a.1)) (Aa (SP c b e) λf=>cond (f !=1) (some<|.inr false)<|d<|wZ<|e+1)<|some<|.inl ()
def IOQ(a:DA)(b:zI):Option Bool:=Aa (C5 a) λc=>cond (!c) (some false) (cond ((b.length:Int)!=(a.2.1.length:Int)) (some false) (Aa (SM b) λd=>cond (!d) (some false) (Aa (Ay (LY a) fz (([]:List zI),0)) λe=>Aa (Ay (QE a b e) fz 0) λf=>(match f with
  |.inl _=>(some true)
  |.inr g=>some g))))
instance{a:DA}:Xs (LY a) (λ(J,K)=>[(5,oL 28 BL J),(30,nI K)]) [2,3,28,29]:=⟨⟩
instance{a:DA}{b:zI}{c:List zI}:Xs (QE a b c) (λy=>[(8,nI y)]) [2,3,5]:=⟨⟩
instance QV{a:DA}{b:zI}:Qe 38 (IOQ a b) [.agg (Cl a),.agg [dL Am b]] (λc=>.bool c):=sX [2,3,7] [] [(6,[33]),(7,[34,36])] func38
def DJ(a:Int->Option (Sum Unit Bool))(b:Int)(c:Bool):Option (Sum Unit Bool):=cond c (some<|.inr false)<|a<|wZ<|b+1
def I9(a:List En)(b:Int->Option (Sum Unit Bool))(c:Int):Option (Sum Unit Bool):=cond (decide (c < (a.length:Int))) (Aa (AU a c) λd=>Aa (LZ d.1) λe=>cond (!e) (DJ b c true)<|cond (decide (0 < c)) (Aa (AU a<|wZ<|c - 1) λf=>cond (!Op.bytesLess f.1 d.1) (DJ b c true)<|Aa (EB d.2) λg=>cond (!g) (DJ b c true)<|cond (decide (d.2.1 < 1)) (DJ b c true)<|DJ b c<|decide (16 < (d.2.2.length:Int)))<|Aa (EB d.2) λi=>cond (!i) (DJ b c true)<|cond (decide (d.2.1 < 1)) (DJ b c true)<|DJ b c<|decide (16 < (d.2.2.length:Int)))<|some<|.inl ()
def IN(a:List En):Option Bool:=cond (decide (6 < (a.length:Int))) (some false) (Aa (Ay (I9 a) fz 0) λb=>(match b with
  |.inl _=>(some true)
  |.inr c=>some c))
instance{a:List En}:Xs (I9 a) (λl=>[(12,nI l)]) [1,10,11]:=⟨⟩
instance QU{a:List En}:Qe 220 (IN a) [.agg [dL Dc a]] (λb=>.bool b):=sX [1,4] [(17,4),(25,1),(32,4),(38,4),(44,4),(45,4),(50,4),(51,4)] [(5,[16])] func220
def R7(a:List zI)(b:(List zI×Int)->Option (List zI))(c:(List zI)×Int):Option (List zI):=match c with
  |(d,e)=>cond (decide (e < (a.length:Int))) (Aa (AU a e) λf=>Aa (EP f) λg=>chk (List.length d+List.length [g]<=lim)<|b ((d++[g]),(wZ<|e+1)))<|some d
def PN(a:List zI):Option (List zI):=Aa (Ay (R7 a) fz (([]:List zI),0)) λb=>some b
instance{a:List zI}:Xs (R7 a) (λ(m,n)=>[(3,oL 28 AS m),(8,nI n)]) [6,7]:=⟨⟩
instance WV{a:List zI}:Qe 224 (PN a) [dL BL a] (λb=>oL 28 AS b):=sX [] [] [(4,[11]),(5,[12]),(7,[18])] func224
def NY(a:FH):Option FH:=Aa (PN a.2) λb=>some (a.1,b)
instance YY{a:FH}:Qe 262 (NY a) [.agg (Qh a)] (λb=>.agg (LT b)):=sX [1,2] [(3,1),(5,1)] [] func262
end Go.Proofs.YtdmpnamllcigdaaGreatDoor
