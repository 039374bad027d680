/- Typed functions, and that the program's functions do what they say. No conditions. -/
import Derived.Test.YtdmpnamllcigdaaGreatDoorGSbFP1
open Go.RowKit
set_option linter.all false
namespace Go.Proofs.YtdmpnamllcigdaaGreatDoor
open Tryz
set_option maxRecDepth 100000
set_option maxHeartbeats 1000000
def JN:Option (FH×Bool):=some ((0,[]),false)
def MN(a:List En)(b:zU)(c:Int->Option (Sum Unit (FH×Bool)))(d:Int):Option (Sum Unit (FH×Bool)):=cond (decide (d < (List.length a:Int))) (Aa (AU a d) λe=>cond (e.1==b) (Aa (NY e.2) λf=>some (.inr (f,true))) (c (wZ (d+1)))) (some (.inl ()))
def Jz(a:List En)(b:zU):Option (FH×Bool):=Aa (IN a) λc=>cond c (Aa (Ay (MN a b) fz 0) λd=>(match d with
  |.inl _=>(JN)
  |.inr e=>some e)) JN
instance{a:List En}{b:zU}:Xs (MN a b) (λo=>[(13,nI o)]) [1,4,11,12]:=⟨⟩
instance RT{a:List En}{b:zU}:Qe 221 (Jz a b) [.agg [dL Dc a],.str b] (λc=>.tup [.agg (LT c.1),.bool c.2]):=sX [2,4,7] [] [(4,[16])] func221
def Qm(a:List En)(b:DA)(c:Int->Option (Sum Unit Bool))(d:Int):Option (Sum Unit Bool):=cond (decide (d < (List.length b.2.1:Int))) (Aa (AU b.2.1 d) λe=>Aa (Jz a e.1) λf=>cond (!f.2) (some (.inr false)) (cond (f.1.1 !=(List.length e.2:Int)) (some (.inr false)) (c (wZ (d+1))))) (some (.inl ()))
def KF(a:List En)(b:DA):Option Bool:=Aa (C5 b) λc=>cond (!c) (some false) (Aa (IN a) λd=>cond (!d) (some false) (Aa (Ay (Qm a b) fz 0) λe=>(match e with
  |.inl _=>(some true)
  |.inr f=>some f)))
instance{a:List En}{b:DA}:Xs (Qm a b) (λr=>[(20,nI r)]) [2,18,19]:=⟨⟩
instance QT{a:List En}{b:DA}:Qe 157 (KF a b) [.agg [dL Dc a],.agg (Cl b)] (λc=>.bool c):=sX [2,3,6,7] [] [(5,[23]),(6,[24])] func157
def O2(a:Bool):Option Bool:=some a
def Vx(a:List En)(b:DA)(c:zI):Option Bool:=Aa (KF a b) λd=>cond d (Aa (IOQ b c) λe=>O2 e) (O2 false)
instance dt{a:List En}{b:DA}{c:zI}:Qe 172 (Vx a b c) [.agg [dL Dc a],.agg (Cl b),.agg [dL Am c]] (λd=>.bool d):=sX [3,4,5] [] [] func172
def C7(a:PW)(b:Int):Option Bool:=Aa (H5 a.2 b) λc=>some c
instance Ev{a:PW}{b:Int}:Qe 190 (C7 a b) [.agg (Cb a),nI b] (λc=>.bool c):=sX [2] [] [] func190
def Kn(a:(zI×Int)->Option (zI))(b:Int)(c:zI):Option (zI):=a (c,(wZ (b+1)))
def Ih(a:PW)(b:(zI×Int)->Option (zI))(c:zI×Int):Option (zI):=match c with
  |(d,e)=>cond (decide (e < 5)) (Aa (C7 a e) λf=>cond f (chk (List.length d+List.length [e]<=lim) (Kn b e (d++[e]))) (Kn b e d)) (some d)
def EO(a:PW):Option (zI):=Aa (Ay (Ih a) fz (([]:zI),0)) λb=>some b
instance{a:PW}:Xs (Ih a) (λ(m,n)=>[(3,oL 3 Am m),(4,nI n)]) [1]:=⟨⟩
instance FY{a:PW}:Qe 105 (EO a) [.agg (Cb a)] (λb=>oL 3 Am b):=sX [1] [] [(6,[12]),(7,[16])] func105
def Md(a:((List (Nat×zI))×(List (Nat×zI))×(List (Nat×zI)))->Option ((List (Nat×zI))))(b:List (Nat×zI))(c:List (Nat×zI))(d:List (Nat×zI)):Option ((List (Nat×zI))):=chk ((0:Int)<=1∧1<=(List.length b:Int)∧(List.length b:Int)<=(List.length b:Int)) (a (c,(CZ b 1 (List.length b:Int)),d))
def IU(a:((List (Nat×zI))×(List (Nat×zI))×(List (Nat×zI)))->Option ((List (Nat×zI))))(b:List (Nat×zI))(c:Int)(d:List (Nat×zI))(e:List (Nat×zI)):Option ((List (Nat×zI))):=cond (decide (0<=c)) (cond (decide (0 < c)) (Aa (AU b 0) λf=>chk (List.length e+List.length [f]<=lim) (Md a b d (e++[f]))) (Md a b d e)) (a (d,b,e))
def HS(a:((List (Nat×zI))×(List (Nat×zI))×(List (Nat×zI)))->Option ((List (Nat×zI))))(b:List (Nat×zI))(c:List (Nat×zI))(d:List (Nat×zI))(e:Int):Option ((List (Nat×zI))):=cond (decide (e<=0)) (Aa (AU b 0) λf=>chk (List.length d+List.length [f]<=lim) (chk ((0:Int)<=1∧1<=(List.length b:Int)∧(List.length b:Int)<=(List.length b:Int)) (IU a c e (CZ b 1 (List.length b:Int)) (d++[f])))) (IU a c e b d)
def IT(a:((List (Nat×zI))×(List (Nat×zI))×(List (Nat×zI)))->Option ((List (Nat×zI))))(b:List (Nat×zI))(c:List (Nat×zI))(d:List (Nat×zI))(e:Bool):Option ((List (Nat×zI))):=cond e (cond ((List.length b:Int)==0) (HS a b c d 1) (cond (decide (0 < (List.length c:Int))) (Aa (AU b 0) λf=>Aa (AU c 0) λg=>Aa (In f.2 g.2) λi=>HS a b c d i) (HS a b c d (-1)))) (some d)
def Fv(a:((List (Nat×zI))×(List (Nat×zI))×(List (Nat×zI)))->Option ((List (Nat×zI))))(b:(List (Nat×zI))×(List (Nat×zI))×(List (Nat×zI))):Option ((List (Nat×zI))):=match b with
  |(c,d,e)=>cond (decide (0 < (List.length c:Int))) (IT a c d e true) (IT a c d e (decide (0 < (List.length d:Int))))
def Lp(a:(List zI)->Option (List zI))(b:(List zI)):Option (List zI):=cond (decide ((List.length b:Int) < 2)) (Aa (PN b) λc=>some c) (chk ((0:Int)<=0∧0<=wZ (Int.tdiv (List.length b:Int) 2)∧wZ (Int.tdiv (List.length b:Int) 2)<=(List.length b:Int)) (Aa (a (CZ b 0 (wZ (Int.tdiv (List.length b:Int) 2)))) λd=>chk ((0:Int)<=wZ (Int.tdiv (List.length b:Int) 2)∧wZ (Int.tdiv (List.length b:Int) 2)<=(List.length b:Int)∧(List.length b:Int)<=(List.length b:Int)) (Aa (a (CZ b (wZ (Int.tdiv (List.length b:Int) 2)) (List.length b:Int))) λe=>Aa (Ay Fv fz ((HG 0 d),(HG (List.length d) e),([]:List (Nat×zI)))) λf=>chk (okJ (d++e) (List.map Sum.inl f) []=true) (some (List.map getM (List.map Sum.inl f))))))
def SO(a:List zI):Option (List zI):=Ay Lp fz a
instance Vw{a:List zI}:Qe 177 (SO a) [dL BL a] (λb=>oL 28 AS b):=Qe.mk @λb h=>by
 suffices c:∀d (a:List zI) (b:(List zI)),Ay Lp d a=some b->Bf 177 [dL BL a] (oL 28 AS b)from c fz a b h
 refineλd=>?_
 induction d with
 |zero=>intro a b h;cases h
 |succ d e=>
  intro a b h
  have ih:∀{a:List zI}{b:(List zI)},Ay Lp d a=some b->Bf 177 [dL BL a] (oL 28 AS b):=λh=>e _ _ h
  change Lp (Ay Lp d) a=some b at h
  exact st Agt E (rn 1 E (GC E λg=>Eo h (λi h=>qT E i (rs (sp 1 E (A8 h λj k h=>qC (qa E (BE Dg _) AT) (WV.s k) (AY 1 E (sj h ▸ Ap rZ)))))) λi h=>qF E i (Cf g (rn 1 E (rd (by kernel_rfl) (sd 2 E (D9 h λm h=>ed E (iD E Da m (A8 h λn o h=>ed E (qC (qa E (BE Dg _) AT) (ih o) (sd 2 E (D9 h λp h=>ed E (iD E Da p (A8 h λr s h=>ed E (qC (qa E (BE Dg _) AT) (ih s) (sd 2 E (CN (qk [4,5] E (uh (f:=AS) (s1:=4) (s2:=5) (g1:=900001) (g2:=900002) E E E E ⟨by decide,by decide,by decide,by decide,by decide,by decide⟩ (YH (λ_=>E)) (YH (λ_=>E)) (λ_=>E) (λ_=>E) (λ_=>E) (λ_=>E) (λt u v w x y=>kp [(4,oL 28 (pE AS t) (HG 0 n)),(5,oL 28 (pE AS t) (HG (List.length n) r)),(900001,.gh u (List.map (λz=>FR (AS z)) n)),(900002,.gh v (List.map (λz=>FR (AS z)) r))] E E (rn 1 E (Ar λA B=>D6 h λC D F=>have H:∀{I:List (Nat×zI)},I=C->Jn A [(6,oL 28 (pE AS t) I),(900001,.gh u (List.map (λz=>FR (AS z)) n)),(900002,.gh v (List.map (λz=>FR (AS z)) r))]:=@λI h _ J=>have h:=F h;B _ (lh J E (qk [6,900001,900002] E (D9 h λK h=>xD (g1:=900001) (g2:=900002) E E (by decide) (xB (f:=AS) (s:=6) (q:=900001) (l:=n++r) (U:=t) (L:=List.map Sum.inl I) AbN E Br.symm (by decide) (xg (λ_=>E)) y K E E (kp [(6,oL 28 AS (List.map getM (List.map Sum.inl I)))] E E (rn 1 E (sj h ▸ Ap rZ)))))));(A9 (λ(M:(List (Nat×zI))×(List (Nat×zI))×(List (Nat×zI)))=>match M with|(N,O,P)=>[(4,dL (pE AS t) N),(5,dL (pE AS t) O),(6,oL 28 (pE AS t) P),(900001,.gh u (List.map (λz=>FR (AS z)) n)),(900002,.gh v (List.map (λz=>FR (AS z)) r))]) _ _ _ _ D ⟨(kd E E),(kd E E),kr,kr,kr,trivial⟩ (λ_=>E) (λQ=>pr3 λN O P R h S=>CL λT=>rk λU V=>have W:∀{X:Bool},IT (Ay Fv Q) N O P X=some C->Jn U [(4,dL (pE AS t) N),(5,dL (pE AS t) O),(6,oL 28 (pE AS t) P),(31,.bool X),(900001,.gh u (List.map (λz=>FR (AS z)) n)),(900002,.gh v (List.map (λz=>FR (AS z)) r))]:=@λX h _ J=>V _ (lh J E (BT h E (λh=>Cf T (A4 (rn 1 E (Ar λY Z=>rn 1 E (have c:∀{a:Int},HS (Ay Fv Q) N O P a=some C->Jn Y [(4,dL (pE AS t) N),(5,dL (pE AS t) O),(6,oL 28 (pE AS t) P),(7,nI a),(900001,.gh u (List.map (λz=>FR (AS z)) n)),(900002,.gh v (List.map (λz=>FR (AS z)) r))]:=@λa h _ J=>Z _ (lh J E (Ar λb d=>rn 1 E (have e:∀{j:List (Nat×zI)}{g:List (Nat×zI)},IU (Ay Fv Q) O a j g=some C->Jn b [(4,dL (pE AS t) j),(5,dL (pE AS t) O),(6,oL 28 (pE AS t) g),(7,nI a),(900001,.gh u (List.map (λz=>FR (AS z)) n)),(900002,.gh v (List.map (λz=>FR (AS z)) r))]:=@λj g h _ J=>d _ (lh J E (rn 1 E (BT h E (λh=>Ar λi k=>rn 1 E (have m:∀{o:List (Nat×zI)},Md (Ay Fv Q) O j o=some C->Jn i [(4,dL (pE AS t) j),(5,dL (pE AS t) O),(6,oL 28 (pE AS t) o),(900001,.gh u (List.map (λz=>FR (AS z)) n)),(900002,.gh v (List.map (λz=>FR (AS z)) r))]:=@λo h _ J=>k _ (lh J E (rg (sp 1 E (D9 h λp h=>iD E (zpE Db) p (AY 1 E (S _ _ h (AX E)))))));(BT h E (λh=>rg (sp 2 E (A8 h λs w h=>qI E (zpE Db) w (sp 1 E (Gi (pE AS t) [s] E E E (zpE Db) (D9 h λx h=>qA (pE AS t) g [s] E E (Bu (zpE Db) [s]) E x (AY 1 E (m h _ (AX E))))))))) λh=>Ci (m h _ (AX E))))) λh=>Ci (S _ _ h (AX E)))));(BT h E (λh=>rs (sp 2 E (A8 h λA B h=>qI E (zpE Db) B (sp 1 E (Gi (pE AS t) [A] E E E (zpE Db) (D9 h λF h=>qA (pE AS t) P [A] E E (Bu (zpE Db) [A]) E F (AY 1 E (rg (sp 1 E (D9 h λy h=>iD E (zpE Db) y (AY 1 E (e h _ (AX E))))))))))))) λh=>Ci (e h _ (AX E))))));(BT h E (λh=>rg (AY 1 E (c h _ (AX E)))) λh=>rn 1 E (qk [4,5,6,7,37,900001,900002] E (BT h E (λh=>jG (by kernel_rfl) (sd 1 E (A8 h λI K h=>ed E (qI E (zpE Db) K (sd 2 E (A8 h λM D h=>ed E (qI E (zpE Db) D (sd 1 E (A8 h λR T h=>ed E (qC (qa E (erP AG AG _) (qa E (erP AG AG _) AT)) (ML.s T) (sd 1 E (CN (c h _ (AX E)))))))))))))) λh=>Ci (c h _ (AX E)))))))))) λh=>AJ (H (sj h) _ (AX E))));(sp 4 E (Eo h (λU h=>qg 27 U E (AY 4 E (W h _ (AX E)))) λU h=>qg 27 U E (AY 4 E (W h _ (AX E)))))))))))))))))))))))))))))
def F1(a:Int)(b:zI)(c:Int->Option (Sum Unit Bool))(d:Int):Option (Sum Unit Bool):=cond (decide (d < (List.length b:Int))) (Aa (AU b d) λe=>Aa (Eh e 0 (wZ (a - 1))) λf=>cond (!f) (some (.inr false)) (c (wZ (d+1)))) (some (.inl ()))
def GX(a:Int)(b:zI):Option Bool:=cond (decide (5 < (List.length b:Int))) (some false) (Aa (Ay (F1 a b) fz 0) λc=>(match c with
  |.inl _=>(some true)
  |.inr d=>some d))
instance{a:Int}{b:zI}:Xs (F1 a b) (λm=>[(12,nI m)]) [0,10,11]:=⟨⟩
instance U7{a:Int}{b:zI}:Qe 179 (GX a b) [nI a,dL Am b] (λc=>.bool c):=sX [] [] [] func179
def Ws(a:zI)(b:zI)(c:(zI×Int)->Option (zI))(d:zI×Int):Option (zI):=match d with
  |(e,f)=>cond (decide (f < (List.length b:Int))) (Aa (AU b f) λg=>Aa (AU a g) λi=>chk (List.length e+List.length [i]<=lim) (c ((e++[i]),(wZ (f+1))))) (some e)
def T0(a:zI)(b:zI):Option (zI):=Aa (Ay (Ws a b) fz (([]:zI),0)) λc=>some c
instance{a:zI}{b:zI}:Xs (Ws a b) (λ(n,o)=>[(5,oL 3 Am n),(11,nI o)]) [0,9,10]:=⟨⟩
instance c8{a:zI}{b:zI}:Qe 180 (T0 a b) [dL Am a,dL Am b] (λc=>oL 3 Am c):=sX [] [] [(5,[15]),(7,[23])] func180
def IK(a:(zI×Bool×Int)->Option (zI×Bool))(b:zI)(c:zI)(d:Int)(e:Int)(f:Bool):Option (zI×Bool):=Aa (AU b d) λg=>Aa (AU c e) λi=>a ((CY c e g),f,(wZ (d+1)))
def He(a:PW)(b:zI)(c:(zI×Bool×Int)->Option (zI×Bool))(d:zI×Bool×Int):Option (zI×Bool):=match d with
  |(e,f,g)=>cond (decide (g < (List.length a.2:Int))) (Aa (AU a.2 g) λi=>Aa (IE a.2 i) λj=>cond f (Aa (AU b j) λk=>Aa (AU b g) λl=>IK c b e g i (k==l)) (IK c b e g i false)) (some (e,f))
def IL(a:(List zI×Int)->Option (List zI))(b:Int)(c:List zI):Option (List zI):=a (c,(wZ (b+1)))
def Hd(a:PW)(b:zI)(c:FH×Bool)(d:(List zI×Int)->Option (List zI))(e:(List zI)×Int):Option (List zI):=match e with
  |(f,g)=>cond (decide (g < (List.length c.1.2:Int))) (Aa (AU c.1.2 g) λi=>chk ((0:Int)<=5∧Int.toNat 5<=lim) (Aa (Ay (He a i) fz ((List.replicate (Int.toNat 5) (0:Int)),true,0)) λj=>(match j with
  |(k,l)=>(cond l (Aa (T0 k b) λm=>chk (List.length f+List.length [m]<=lim) (IL d g (f++[m]))) (IL d g f))))) (some f)
def KP(a:List En)(b:PW):Option FH:=Aa (EO b) λc=>Aa (Jz a b.1) λd=>cond (!d.2) (some ((List.length c:Int),[])) (cond (d.1.1 !=(List.length b.2:Int)) (some ((List.length c:Int),[])) (Aa (GX 5 b.2) λe=>cond (!e) (some ((List.length c:Int),[])) (Aa (Ay (Hd b c d) fz (([]:List zI),0)) λf=>Aa (SO f) λg=>some ((List.length c:Int),g))))
instance{a:PW}{b:zI}:Xs (He a b) (λ(X,Y,Z)=>[(12,wL 3 Am X),(13,.bool Y),(57,nI Z)]) [3,4,5,6,9,11,47,48,49,55,56]:=⟨⟩
instance{a:PW}{b:zI}{c:FH×Bool}:Xs (Hd a b c) (λ(y,z)=>[(9,oL 28 AS y),(49,nI z)]) [3,4,5,6,47,48]:=⟨⟩
instance Tu{a:List En}{b:PW}:Qe 158 (KP a b) [.agg [dL Dc a],.agg (Cb b)] (λc=>.agg (LT c)):=sX [2,3,4,6,7,12,53] [] [(3,[22]),(5,[45]),(9,[52]),(10,[12,53]),(20,[87,88]),(23,[97])] func158
def KQ(a:List En)(b:PW):Option Dl:=Aa (EO b) λc=>Aa (KP a b) λd=>some (c,d)
instance Tv{a:List En}{b:PW}:Qe 173 (KQ a b) [.agg [dL Dc a],.agg (Cb b)] (λc=>.agg (DQ c)):=sX [2,3,4] [] [] func173
def Sm(a:En):List V:=[.str a.1,nI a.2.1,aL eU a.2.2]
theorem VR(a:En):ON (Sm a)=Dc a:=(Ba E (Ba E (Ba (KC o6 _) E)))
theorem R0(a:Dl):GK (DQ a)=true:=(Of (TY (λ_=>E) 3 _) (Of E (Of (TY KN 28 _) VP)))
theorem qQ(a:zI):Fl (BL a)=true:=(VJ (IH (λ_=>E) _) E)
theorem Ye(a:En):Fl (Dc a)=true:=(VJ E (VJ E (VJ (IH qQ _) E)))
theorem tM(a:zI):Nb (BL a)=eU a:=(VK (Oc (λ_=>E) _) E)
theorem YJ(a:En):Nb (Dc a)=Sm a:=(VK E (VK E (VK (Oc tM _) E)))
def Ko(a:List En)(b:DA)(c:(List Dl×Int)->Option (List Dl))(d:(List Dl)×Int):Option (List Dl):=match d with
  |(e,f)=>cond (decide (f < (List.length b.2.1:Int))) (Aa (AU b.2.1 f) λg=>Aa (KQ a g) λi=>chk (List.length e+List.length [i]<=lim) (c ((e++[i]),(wZ (f+1))))) (some e)
def Kq(a:(List Dl×Int)->Option (List Dl))(b:Int)(c:List Dl):Option (List Dl):=a (c,(wZ (b+1)))
def GE(a:zI)(b:zI)(c:(List Dl×Int)->Option (List Dl))(d:(List Dl)×Int):Option (List Dl):=match d with
  |(e,f)=>cond (decide (f < (List.length b:Int))) (Aa (AU b f) λg=>Aa (AU a g) λi=>cond (decide (0<=i)) (chk (0 < List.length e) (Aa (AU e i) λj=>Aa (AU e g) λk=>Aa (Nv j k) λl=>Aa (AU e i) λm=>Kq c f (CY e i l.1))) (Kq c f e)) (some e)
def Kr(a:(List Dl×Int)->Option (List Dl))(b:Int)(c:List Dl):Option (List Dl):=a (c,(wZ (b - 1)))
def GF(a:zI)(b:zI)(c:(List Dl×Int)->Option (List Dl))(d:(List Dl)×Int):Option (List Dl):=match d with
  |(e,f)=>cond (decide (0<=f)) (Aa (AU b f) λg=>Aa (AU a g) λi=>cond (decide (0<=i)) (chk (0 < List.length e) (Aa (AU b f) λj=>Aa (AU b f) λk=>Aa (AU e k) λl=>Aa (AU e i) λm=>Aa (Nv l m) λn=>Aa (AU e j) λo=>Kr c f (CY e j n.1))) (Kr c f e)) (some e)
def MM(a:List En)(b:DA)(c:zI):Option (List Dl×Bool):=Aa (Vx a b c) λd=>cond (!d) (some (([]:List Dl),false)) (Aa (Ay (Ko a b) fz (([]:List Dl),0)) λe=>Aa (O3 c) λf=>Aa (Ay (GE c f) fz (e,0)) λg=>Aa (Ay (GF c f) fz (g,(wZ ((List.length f:Int) - 1)))) λi=>some (i,true))
instance Xw{a:List En}{c:DA}{d:zI}:Qe 91 (MM a c d) [.agg [dL Dc a],.agg (Cl c),.agg [dL Am d]] (λe=>.tup [oL 137 DQ e.1,.bool e.2]):=Qe.mk @λe h=>by
 refine sta AlE E (TA (VJ (IH Ye _) E) (TA (VJ E (VJ (IH U1 _) (VJ (IH (λ_=>E) _) E))) (TA (VJ (IH (λ_=>E) _) E) E))) (dV (vag (VK (Oc YJ _) E)) (dV (vag (VK E (VK (Oc Vl _) (VK (Oc (λ_=>E) _) E)))) (dV (vag (VK (Oc (λ_=>E) _) E)) E))) (Of (TY R0 137 _) (Of E VP)) (rn 1 E (CL λf=>rs (sp 3 E (?_))))
 refine A8 h λg j h=>qC (qa E (CM (Ba (KC VR _) E)) (qa E (CM (Ba E (Ba (KC II _) (Ba (KC AG _) E)))) (qa E (CM (Ba (KC AG _) E)) AT))) (dt.s j) (AY 1 E (BT h E (λh=>rn 1 E (sj h ▸ Ap rZ)) λh=>Cf f (rn 1 E (Ar λk l=>rn 1 E (D6 h λm n o=>have p:∀{r:List Dl},r=m->Jn k [(5,.box [aL Am d]),(8,oL 137 DQ r)]:=@λr h _ s=>have h:=o h;l _ (lh s E (rs (sp 1 E (A8 h λt u h=>qC (qa E (CM (Ba (KC AG _) E)) AT) (Uu.s u) (AY 1 E (Ar λv w=>qk [5,8,11] E (E0 (gFs (b:=11) E (λ_=>E) (qk [5,8,11] E (rn 1 E (D6 h λx n y=>have z:∀{A:List Dl},A=x->Jn v [(5,.box [aL Am d]),(8,oL 137 DQ A),(11,aL Am t)]:=@λA h _ s=>have h:=y h;w _ (lh s E (Ar λB C=>rn 1 E (D6 h λD n F=>have H:∀{I:List Dl},I=D->Jn B [(8,oL 137 DQ I)]:=@λI h _ s=>have h:=F h;C _ (lh s E (rn 1 E (sj h ▸ Ap rZ)));(A9 (λ(J:(List Dl)×Int)=>match J with|(K,L)=>[(5,.box [aL Am d]),(8,oL 137 DQ K),(11,aL Am t),(15,nI L)]) _ _ _ _ n (AX E) (λ_=>E) (λM=>IV λK L N h O=>GC E λP=>BT h E (λh=>Cf P (Ar λQ R=>A4 (rd (by kernel_rfl) (sd 4 E (A8 h λS T h=>ed E (qI E A6 T (sd 1 E (A8 h λU V h=>ed E (qI E A6 V (sd 2 E (CN (rn 1 E (have W:∀{X:List Dl},Kr (Ay (GF d t) M) L X=some D->Jn Q [(5,.box [aL Am d]),(8,oL 137 DQ X),(11,aL Am t),(15,nI L)]:=@λX h _ s=>R _ (lh s E (rg (AY 3 E (O _ _ h (AX E)))));(BT h E (λh=>qk [5,8,11,15,16] E (D9 h λY h=>E0 (gLs (q:=900003) (b:=8) E E E Y (λZ e=>qk [5,8,11,15,16,900003] E (N1 (rgt 20 (by kernel_rfl) (sd 3 E (A8 h λg f h=>ed E (qI E A6 f (sd 4 E (A8 h λj k h=>ed E (qI E A6 k (sd 1 E (A8 h λm r h=>ed E (V7 E E E E r (ed E (qLe (i:=j) (es:=3) (q:=900003) 0 E E E E E E FC r E E (sd 2 E (A8 h λl o h=>ed E (V7 E E E E o (ed E (qLe (i:=U) (es:=3) (q:=900003) 0 E E E E E E FC o E E (A8 h λu v h=>ed E (qC (qa E (CM (Ba (BE AG _) (Ba E (Ba (BE E3 _) E)))) (qa E (CM (Ba (BE AG _) (Ba E (Ba (BE E3 _) E)))) AT)) (Tc.s v) (sd 3 E (CN (Ky (A8 h λw y h=>V7 E E E E y (d6 (y0:=w) (i:=g) (es:=3) 0 u.1 [5,8,11,15] E E E E E E E E E E FC y (λA=>Qx (R0 A)) (Qx (Of (TY (λ_=>E) 3 _) (Of E (Of (TY KN 28 _) VP)))) (yc (Im (sA (aca (λ_=>E) _)) E) (yc E (yc (acf (λ_=>E) _) (yc E yn)))) (OR (gDs (q:=900003) (b:=8) E E E (sl E) (W h _ (AX E))))))))))))))))))))))))))))))))) λh=>Ci (W h _ (AX E)))))))))))))))) λh=>AJ (H (sj h) _ (AX E)))))));(A9 (λ(J:(List Dl)×Int)=>match J with|(B,C)=>[(5,.box [aL Am d]),(8,oL 137 DQ B),(11,aL Am t),(38,aL Am t),(39,nI (List.length t:Int)),(40,nI C)]) _ _ _ _ n (AX E) (λ_=>E) (λM=>IV λB C N h O=>rn 1 E (CL λF=>BT h E (λh=>Cf F (Ar λI K=>A4 (rs (A8 h λP S h=>qI E A6 S (AY 2 E (rs (sp 3 E (A8 h λT V h=>qI E A6 V (AY 2 E (rn 1 E (have D:∀{L:List Dl},Kq (Ay (GE d t) M) C L=some x->Jn I [(5,.box [aL Am d]),(8,oL 137 DQ L),(11,aL Am t),(38,aL Am t),(39,nI (List.length t:Int)),(40,nI C)]:=@λL h _ s=>K _ (lh s E (rg (AY 2 E (O _ _ h (AX E)))));(BT h E (λh=>qk [5,8,11,13,14,38,39,40] E (D9 h λQ h=>E0 (gLs (q:=900003) (b:=8) E E E Q (λR X=>qk [5,8,11,13,14,38,39,40,900003] E (N1 (rgt 14 (by kernel_rfl) (sd 4 E (A8 h λY Z h=>ed E (V7 E E E E Z (ed E (qLe (i:=T) (es:=3) (q:=900003) 0 E E E E E E FC Z E E (sd 2 E (A8 h λe f h=>ed E (V7 E E E E f (ed E (qLe (i:=P) (es:=3) (q:=900003) 0 E E E E E E FC f E E (A8 h λk m h=>ed E (qC (qa E (CM (Ba (BE AG _) (Ba E (Ba (BE E3 _) E)))) (qa E (CM (Ba (BE AG _) (Ba E (Ba (BE E3 _) E)))) AT)) (Tc.s m) (sd 3 E (CN (Ky (A8 h λj r h=>V7 E E E E r (d6 (y0:=j) (i:=T) (es:=3) 0 k.1 [5,8,11,38,39,40] E E E E E E E E E E FC r (λA=>Qx (R0 A)) (Qx (Of (TY (λ_=>E) 3 _) (Of E (Of (TY KN 28 _) VP)))) (yc (Im (sA (aca (λ_=>E) _)) E) (yc E (yc (acf (λ_=>E) _) (yc (acf (λ_=>E) _) (yc E (yc E yn)))))) (OR (gDs (q:=900003) (b:=8) E E E (sl E) (D h _ (AX E))))))))))))))))))))))))))) λh=>Ci (D h _ (AX E)))))))))))))) λh=>AJ (z (sj h) _ (AX E))))))))))))))));?_)))))
 exact A9 (λ(J:(List Dl)×Int)=>match J with|(l,U)=>[(3,.box [aL Sm a]),(5,.box [aL Am d]),(8,oL 137 DQ l),(23,aL Ha c.2.1),(24,nI (List.length c.2.1:Int)),(25,nI U)]) _ _ _ _ n (AX E) (λ_=>E) (λM=>IV λl U N h O=>rn 1 E (CL λo=>BT h E (λh=>Cf o (CL λv=>A4 (rs (A8 h λg u h=>qI E cS u (AY 3 E (rg (sp 3 E (A8 h λw y h=>qC (qa E (CM (Ba (KC VR _) E)) (qa E (CM (Ba E (Ba (KC AG _) E))) AT)) (Tv.s y) (Gi DQ [w] E E E FC (D9 h λH h=>qA DQ l [w] E E (Bu FC [w]) E H (AY 1 E (v _ (rg (AY 2 E (O _ _ h (AX E)))))))))))))))) λh=>AJ (p (sj h) _ (AX E))))
def LH(a:(List zI×Int)->Option (List zI))(b:Int)(c:List zI):Option (List zI):=a (c,(wZ (b+1)))
def H0(a:Dl)(b:Dl)(c:zI)(d:zI)(e:(List zI×Int)->Option (List zI))(f:(List zI)×Int):Option (List zI):=match f with
  |(g,i)=>cond (decide (i < (List.length b.2.2:Int))) (Aa (AU b.2.2 i) λj=>Aa (VY c a.1 d b.1 j) λk=>cond k.2 (chk (List.length g+List.length [k.1]<=lim) (LH e i (g++[k.1]))) (LH e i g)) (some g)
def JA(a:Dl)(b:Dl)(c:zI)(d:(List zI×Int)->Option (Sum (List zI) (Dl×Bool)))(e:(List zI)×Int):Option (Sum (List zI) (Dl×Bool)):=match e with
  |(f,g)=>cond (decide (g < (List.length a.2.2:Int))) (Aa (AU a.2.2 g) λi=>Aa (Ay (H0 a b c i) fz (f,0)) λj=>cond (decide (4000 < (List.length j:Int))) (some (.inr (([],(0,[])),false))) (d (j,(wZ (g+1))))) (some (.inl f))
def Hi(a:Dl)(b:Dl):Option (Dl×Bool):=Aa (E8 a) λc=>cond (!c) (some (([],(0,[])),false)) (Aa (E8 b) λd=>cond (!d) (some (([],(0,[])),false)) (Aa (MR a.1 b.1) λe=>Aa (Ay (JA a b e) fz (([]:List zI),0)) λf=>(match f with
  |.inl g=>(Aa (SO g) λi=>some ((e,((List.length e:Int),i)),true))
  |.inr j=>some j)))
instance{a:Dl}{b:Dl}{c:zI}{d:zI}:Xs (H0 a b c d) (λ(O,P)=>[(7,oL 28 AS O),(40,nI P)]) [2,3,4,6,9,30,31,32,38,39]:=⟨⟩
instance{a:Dl}{b:Dl}{c:zI}:Xs (JA a b c) (λ(x,y)=>[(7,oL 28 AS x),(32,nI y)]) [2,3,4,6,30,31]:=⟨⟩
instance Qn{a:Dl}{b:Dl}:Qe 94 (Hi a b) [.agg (PG a),.agg (PG b)] (λc=>.tup [.agg (DQ c.1),.bool c.2]):=sX [2,3,4] [] [(7,[35]),(10,[43]),(11,[44]),(13,[56,57]),(18,[66])] func94
def Pr(a:Int)(b:List zI)(c:Int->Option (Sum Unit (FH×Bool)))(d:Int):Option (Sum Unit (FH×Bool)):=cond (decide (d < (List.length b:Int))) (Aa (AU b d) λe=>cond ((List.length e:Int)!=a) (some (.inr ((0,[]),false))) (Aa (Jy e) λf=>cond (!f) (some (.inr ((0,[]),false))) (c (wZ (d+1))))) (some (.inl ()))
def OV(a:Int)(b:List zI):Option (FH×Bool):=Aa (Ay (Pr a b) fz 0) λc=>(match c with
  |.inl _=>(Aa (SO b) λd=>Aa (EB (a,d)) λe=>cond (!e) (some ((0,[]),false)) (some ((a,d),true)))
  |.inr f=>some f)
instance{a:Int}{b:List zI}:Xs (Pr a b) (λq=>[(11,nI q)]) [0,1,4,9,10]:=⟨⟩
instance Zz{a:Int}{b:List zI}:Qe 181 (OV a b) [nI a,dL BL b] (λc=>.tup [.agg (LT c.1),.bool c.2]):=sX [4,8] [] [(3,[14]),(10,[34])] func181
def KG(a:FH)(b:zI)(c:(List zI×Int)->Option (List zI))(d:(List zI)×Int):Option (List zI):=match d with
  |(e,f)=>cond (decide (f < (List.length a.2:Int))) (Aa (AU a.2 f) λg=>Aa (T0 g b) λi=>chk (List.length e+List.length [i]<=lim) (c ((e++[i]),(wZ (f+1))))) (some e)
def IB(a:FH)(b:zI):Option (FH×Bool):=Aa (EB a) λc=>cond (!c) (some ((0,[]),false)) (Aa (GX a.1 b) λd=>cond (!d) (some ((0,[]),false)) (Aa (Ay (KG a b) fz (([]:List zI),0)) λe=>Aa (OV (List.length b:Int) e) λf=>some (f.1,f.2)))
instance{a:FH}{b:zI}:Xs (KG a b) (λ(v,w)=>[(6,oL 28 AS v),(23,nI w)]) [1,4,21,22]:=⟨⟩
instance Ok{a:FH}{b:zI}:Qe 95 (IB a b) [.agg (Qh a),dL Am b] (λc=>.tup [.agg (LT c.1),.bool c.2]):=sX [2,4] [] [(6,[26]),(7,[27])] func95
def Er(a:Int)(b:zI)(c:(List Dl×Int)->Option (Sum (List Dl) (FH×Bool)))(d:(List Dl)×Int):Option (Sum (List Dl) (FH×Bool)):=match d with
  |(e,f)=>cond (decide (f < (List.length b:Int))) (Aa (AU b f) λg=>Aa (AU e a) λi=>Aa (AU e g) λj=>Aa (Hi i j) λk=>cond (!k.2) (some (.inr ((0,[]),false))) (chk (0 < List.length e) (Aa (AU e a) λl=>c ((CY e a k.1),(wZ (f+1)))))) (some (.inl e))
def Ep(a:zI)(b:zI)(c:(List Dl×Int)->Option (Sum (List Dl) (FH×Bool)))(d:(List Dl)×Int):Option (Sum (List Dl) (FH×Bool)):=match d with
  |(e,f)=>cond (decide (f < (List.length b:Int))) (Aa (AU b f) λg=>Aa (FI a g) λi=>Aa (Ay (Er g i) fz (e,0)) λj=>(match j with
  |.inl k=>(c (k,(wZ (f+1))))
  |.inr l=>some (.inr l))) (some (.inl e))
def I7(a:List En)(b:DA)(c:zI):Option (FH×Bool):=Aa (MM a b c) λd=>cond (!d.2) (some ((0,[]),false)) (Aa (O3 c) λe=>Aa (Ay (Ep c e) fz (d.1,0)) λf=>(match f with
  |.inl g=>(Aa (HP c) λi=>Aa (AU g i) λj=>Aa (IB j.2 b.2.2) λk=>some (k.1,k.2))
  |.inr l=>some l))
instance UV{a:List En}{c:DA}{d:zI}:Qe 35 (I7 a c d) [.agg [dL Dc a],.agg (Cl c),.agg [dL Am d]] (λe=>.tup [.agg (LT e.1),.bool e.2]):=Qe.mk @λe h=>sta AkY E (TA (VJ (IH Ye _) E) (TA (VJ E (VJ (IH U1 _) (VJ (IH (λ_=>E) _) E))) (TA (VJ (IH (λ_=>E) _) E) E))) (dV (vag (VK (Oc YJ _) E)) (dV (vag (VK E (VK (Oc Vl _) (VK (Oc (λ_=>E) _) E)))) (dV (vag (VK (Oc (λ_=>E) _) E)) E))) (Of (dag (Of E (Of (TY KN 28 _) VP))) (Of E VP)) (rn 1 E (rs (sp 3 E (A8 h λf g h=>qC (qa E (CM (Ba (KC VR _) E)) (qa E (CM (Ba E (Ba (KC II _) (Ba (KC AG _) E)))) (qa E (CM (Ba (KC AG _) E)) AT))) (Xw.s g) (AY 5 E (GC E λj=>BT h E (λh=>rn 1 E (sj h ▸ Ap rZ)) λh=>Cf j (Ar λk l=>rs (sp 1 E (A8 h λm n h=>qC (qa E (CM (Ba (KC AG _) E)) AT) (Uu.s n) (AY 2 E (D6 h λo p r=>have s:∀{t:List Dl},(.inl t)=o->Jn k [(4,.box [nI c.1,aL Ha c.2.1,aL Am c.2.2]),(5,.box [aL Am d]),(6,.box [nI 0,oL 28 AS []]),(8,oL 137 DQ t)]:=@λt h _ u=>have h:=r h;l _ (lh u E (rd (by kernel_rfl) (sd 2 E (A8 h λv w h=>ed E (qC (qa E (CM (Ba (KC AG _) E)) AT) (Pq.s w) (A8 h λx y h=>ed E (qI E FC y (sd 4 E (A8 h λz A h=>ed E (qC (qa E (CM (Ba E (Ba (BE E3 _) E))) (qa E (KC AG _) AT)) (Ok.s A) (sd 4 E (CN (sj h ▸ Ap rZ)))))))))))));(A9 (λ(B:(List Dl)×Int)=>match B with|(C,D)=>[(4,.box [nI c.1,aL Ha c.2.1,aL Am c.2.2]),(5,.box [aL Am d]),(6,.box [nI 0,oL 28 AS []]),(8,oL 137 DQ C),(27,oL 3 Am m),(28,nI (List.length m:Int)),(29,nI D)]) _ _ _ _ p (AX E) (λ_=>E) (λF=>IV λC D H h I=>rn 1 E (CL λJ=>BT h E (λh=>Cf J (Ar λK L=>A4 (rs (A8 h λM N h=>qI E A6 N (AY 2 E (rs (sp 2 E (A8 h λO P h=>qC (qa E (CM (Ba (KC AG _) E)) (qs E AT)) (Jc.s P) (AY 2 E (D6 h λQ p R=>have S:∀{T:List Dl},(.inl T)=Q->Jn K [(4,.box [nI c.1,aL Ha c.2.1,aL Am c.2.2]),(5,.box [aL Am d]),(6,.box [nI 0,oL 28 AS []]),(8,oL 137 DQ T),(27,oL 3 Am m),(28,nI (List.length m:Int)),(29,nI D)]:=@λT h _ u=>have h:=R h;L _ (lh u E (rg (AY 2 E (I _ _ h (AX E)))));(A9 (λ(B:(List Dl)×Int)=>match B with|(U,V)=>[(4,.box [nI c.1,aL Ha c.2.1,aL Am c.2.2]),(5,.box [aL Am d]),(6,.box [nI 0,oL 28 AS []]),(8,oL 137 DQ U),(11,nI M),(27,oL 3 Am m),(28,nI (List.length m:Int)),(29,nI D),(35,oL 3 Am O),(36,nI (List.length O:Int)),(37,nI V)]) _ _ _ _ p (AX E) (λ_=>E) (λF=>IV λU V H h I=>rn 1 E (CL λW=>BT h E (λh=>Cf W (CL λX=>A4 (rs (A8 h λY Z h=>qI E A6 Z (AY 2 E (rd (by kernel_rfl) (sd 2 E (A8 h λa e h=>ed E (qI E FC e (sd 3 E (A8 h λf g h=>ed E (qI E FC g (sd 1 E (A8 h λj n h=>ed E (qC (qa E (CM (Ba (BE AG _) (Ba E (Ba (BE E3 _) E)))) (qa E (CM (Ba (BE AG _) (Ba E (Ba (BE E3 _) E)))) AT)) (Qn.s n) (sd 6 E (CN (GC E λk=>BT h E (λh=>rn 1 E (qk [6,7] E (sj (r (sj (R (sj h)))) ▸ Ap rZ))) λh=>Cf k (qk [4,5,6,8,11,14,27,28,29,35,36,37] E (D9 h λo h=>E0 (gLs (q:=900003) (b:=8) E E E o (λt l=>qk [4,5,6,8,11,14,27,28,29,35,36,37,900003] E (N1 (rg (sp 3 E (A8 h λv w h=>V7 E E E E w (d6 (y0:=v) (i:=M) (es:=3) 0 j.1 [4,5,6,8,11,27,28,29,35,36,37] E E E E E E E E E E FC w (λx=>Qx (R0 x)) (Qx (Of (TY (λ_=>E) 3 _) (Of E (Of (TY KN 28 _) VP)))) (yc (Im E (Im (sA (aca QQ _)) (Im (sA (aca (λ_=>E) _)) E))) (yc (Im (sA (aca (λ_=>E) _)) E) (yc (Im E (Im E E)) (yc E (yc E (yc (Qx (bH (λ_=>E) _)) (yc E (yc E (yc (Qx (bH (λ_=>E) _)) (yc E (yc E yn))))))))))) (OR (gDs (q:=900003) (b:=8) E E E (sl E) (X _ (rg (AY 2 E (I _ _ h (AX E)))))))))))))))))))))))))))))))))) λh=>AJ (S (sj h) _ (AX E))))))))))))))) λh=>AJ (s (sj h) _ (AX E))))))))))))))))
def Cw(a:zI)(b:Int->Option (Sum Unit Bool))(c:Int):Option (Sum Unit Bool):=cond (decide (c < (List.length a:Int))) (Aa (AU a (wZ (c - 1))) λd=>Aa (AU a c) λe=>cond (decide (e<=d)) (some (.inr false)) (b (wZ (c+1)))) (some (.inl ()))
def GL(a:zI):Option Bool:=Aa (Ay (Cw a) fz 1) λb=>(match b with
  |.inl _=>(some true)
  |.inr c=>some c)
instance{a:zI}:Xs (Cw a) (λk=>[(3,nI k)]) [0]:=⟨⟩
instance Oh{a:zI}:Qe 189 (GL a) [dL Am a] (λb=>.bool b):=sX [] [] [] func189
def PO(a:Bool):Option Bool:=some a
def Ur(a:DA)(b:zI):Option Bool:=cond (decide (0 < (List.length b:Int))) (Aa (GL b) λc=>cond c (Aa (MQ b a.1) λd=>PO d) (PO false)) (PO false)
instance ao{a:DA}{b:zI}:Qe 103 (Ur a b) [.agg (Cl a),dL Am b] (λc=>.bool c):=sX [2] [] [] func103
def QZ(a:(zI×Int)->Option (zI))(b:Int)(c:zI):Option (zI):=a (c,(wZ (b+1)))
def Ol(a:zI)(b:zI)(c:(zI×Int)->Option (zI))(d:zI×Int):Option (zI):=match d with
  |(e,f)=>cond (decide (f < (List.length a:Int))) (Aa (AU a f) λg=>Aa (H5 b g) λi=>cond i (chk (List.length e+List.length [g]<=lim) (QZ c f (e++[g]))) (QZ c f e)) (some e)
def MC(a:zI)(b:zI):Option (zI):=Aa (Ay (Ol a b) fz (([]:zI),0)) λc=>some c
instance{a:zI}{b:zI}:Xs (Ol a b) (λ(n,o)=>[(5,oL 3 Am n),(10,nI o)]) [1,8,9]:=⟨⟩
instance PM{a:zI}{b:zI}:Qe 104 (MC a b) [dL Am a,dL Am b] (λc=>oL 3 Am c):=sX [] [] [(6,[17]),(8,[22])] func104
def GU(a:DA)(b:Sy)(c:Int->Option (Sum Unit Bool))(d:Int):Option (Sum Unit Bool):=cond (decide (d < (List.length b.1:Int))) (Aa (AU b.1 d) λe=>Aa (Ur a e) λf=>cond (!f) (some (.inr false)) (c (wZ (d+1)))) (some (.inl ()))
def GW(a:(Bool×Int)->Option Bool)(b:Int)(c:Bool):Option Bool:=a (c,(wZ (b+1)))
def Ey(a:Sy)(b:PW)(c:(Bool×Int)->Option Bool)(d:Bool×Int):Option Bool:=match d with
  |(e,f)=>cond (decide (f < (List.length a.1:Int))) (Aa (AU a.1 f) λg=>cond e (GW c f true) (Aa (EO b) λi=>Aa (MC i g) λj=>Aa (EO b) λk=>GW c f ((List.length j:Int)==(List.length k:Int)))) (some e)
def GV(a:DA)(b:Sy)(c:Int->Option (Sum Unit Bool))(d:Int):Option (Sum Unit Bool):=cond (decide (d < (List.length a.2.1:Int))) (Aa (AU a.2.1 d) λe=>Aa (Ay (Ey b e) fz (false,0)) λf=>cond (!f) (some (.inr false)) (c (wZ (d+1)))) (some (.inl ()))
def Nf(a:DA)(b:Sy)(c:Int->Option (Sum Unit Bool))(d:Int):Option (Sum Unit Bool):=cond (decide (d < a.1)) (Aa (SP b.1 b.2 d) λe=>cond (e !=1) (some (.inr false)) (c (wZ (d+1)))) (some (.inl ()))
def Fp(a:DA)(b:Sy):Option Bool:=Aa (C5 a) λc=>cond (!c) (some false) (cond ((List.length b.1:Int)!=(List.length b.2:Int)) (some false) (Aa (SM b.2) λd=>cond (!d) (some false) (Aa (Ay (GU a b) fz 0) λe=>(match e with
  |.inl _=>(Aa (Ay (GV a b) fz 0) λf=>(match f with
  |.inl _=>(Aa (Ay (Nf a b) fz 0) λg=>(match g with
  |.inl _=>(some true)
  |.inr i=>some i))
  |.inr i=>some i))
  |.inr i=>some i))))
instance{a:DA}{b:Sy}:Xs (GU a b) (λx=>[(36,nI x)]) [2,5,34,35]:=⟨⟩
instance{a:Sy}{b:PW}:Xs (Ey a b) (λ(Y,Z)=>[(10,.bool Y),(55,nI Z)]) [2,5,9,46,47,48,53,54]:=⟨⟩
instance{a:DA}{b:Sy}:Xs (GV a b) (λM=>[(48,nI M)]) [2,5,46,47]:=⟨⟩
instance{a:DA}{b:Sy}:Xs (Nf a b) (λC=>[(13,nI C)]) [2,5]:=⟨⟩
instance JK{a:DA}{b:Sy}:Qe 39 (Fp a b) [.agg (Cl a),.agg (PY b)] (λc=>.bool c):=sX [2,3,5,9] [] [(6,[39]),(12,[51]),(16,[58])] func39
def cY(a:(Int×Int)->Option Int)(b:Int×Int):Option Int:=match b with
  |(c,d)=>cond (d !=0) (chk (d≠0) (a (d,(Int.tmod c d)))) (some c)
def XA(a:Int)(b:Int):Option Int:=Aa (Ay cY fz (a,b)) λc=>some c
instance:Xs cY (λ(n,o)=>[(0,nI n),(1,nI o)]) []:=⟨⟩
instance fK{a:Int}{b:Int}:Qe 238 (XA a b) [nI a,nI b] (λc=>nI c):=sX [] [] [] func238
def Xy(a:Int):Option Int:=some (if a < (wZ (0 - a))then(wZ (0 - a))else a)
instance fJ{a:Int}:Qe 239 (Xy a) [nI a] (λb=>nI b):=sX [] [] [] func239
abbrev CG:=Int×Int
def Cu(a:CG):List V:=[nI a.1,nI a.2]
theorem HC(a:CG):(Cu a).length=2:=E
theorem HK(a:CG):ON (Cu a)=Cu a:=(Ba E (Ba E E))
def Jb(a:Bool):Option Bool:=some a
def FZ(a:CG):Option Bool:=Aa (Eh a.2 1 1000000000) λb=>cond b (Aa (Eh a.1 (-1000000000) 1000000000) λc=>cond c (Aa (Xy a.1) λd=>Aa (XA d a.2) λe=>Jb (e==1)) (Jb false)) (Jb false)
instance JL{a:CG}:Qe 202 (FZ a) [.agg (Cu a)] (λb=>.bool b):=sX [1] [(3,1),(7,1),(12,1),(15,1)] [] func202
def cd(a:List CG)(b:Int->Option (Sum Unit Bool))(c:Int):Option (Sum Unit Bool):=cond (decide (c < (List.length a:Int))) (Aa (AU a c) λd=>Aa (FZ d) λe=>cond (!e) (some (.inr false)) (b (wZ (c+1)))) (some (.inl ()))
def IC(a:List CG):Option Bool:=Aa (Ay (cd a) fz 0) λb=>(match b with
  |.inl _=>(some true)
  |.inr c=>some c)
instance{a:List CG}:Xs (cd a) (λk=>[(7,nI k)]) [5,6]:=⟨⟩
instance KH{a:List CG}:Qe 235 (IC a) [dL Cu a] (λb=>.bool b):=sX [4] [] [] func235
abbrev OO:=(List (List CG))×List CG×(List CG)
def FX(a:List CG):List V:=[dL Cu a]
theorem cT(a:List CG):(FX a).length=1:=E
theorem Xn(a:List CG):ON (FX a)=FX a:=(Ba (BE HK _) E)
def Fy(a:OO):List V:=[dL FX a.1,dL Cu a.2.1,dL Cu a.2.2]
def Ta(a:OO)(b:Int->Option (Sum Unit Bool))(c:Int):Option (Sum Unit Bool):=cond (decide (c < (List.length a.1:Int))) (Aa (AU a.1 c) λd=>cond ((List.length d:Int)!=(List.length a.2.2:Int)) (some (.inr false)) (Aa (IC d) λe=>cond (!e) (some (.inr false)) (b (wZ (c+1))))) (some (.inl ()))
def Gq(a:OO):Option Bool:=Aa (Eh (List.length a.2.2:Int) 1 5) λb=>cond (!b) (some false) (Aa (Eh (List.length a.2.1:Int) 1 5) λc=>cond (!c) (some false) (cond ((List.length a.1:Int)!=(List.length a.2.1:Int)) (some false) (Aa (IC a.2.1) λd=>cond (!d) (some false) (Aa (IC a.2.2) λe=>cond (!e) (some false) (Aa (Ay (Ta a) fz 0) λf=>(match f with
  |.inl _=>(some true)
  |.inr g=>some g))))))
instance{a:OO}:Xs (Ta a) (λx=>[(43,nI x)]) [3,41,42]:=⟨⟩
instance NS{a:OO}:Qe 200 (Gq a) [.agg (Fy a)] (λb=>.bool b):=sX [1] [] [(6,[46])] func200
def QY(a:Bool):Option Bool:=some a
def Kd(a:CG)(b:CG):Option Bool:=Aa (FZ a) λc=>cond c (Aa (FZ b) λd=>QY d) (QY false)
instance OZ{a:CG}{b:CG}:Qe 131 (Kd a b) [.agg (Cu a),.agg (Cu b)] (λc=>.bool c):=sX [2,3] [] [] func131
def EZ(a:CG)(b:CG):Option Int:=Aa (Kd a b) λc=>cond (!c) (some 0) (Aa (J3 (wZ (a.1 * b.2)) (wZ (b.1 * a.2))) λd=>some d)
instance Hh{a:CG}{b:CG}:Qe 55 (EZ a b) [.agg (Cu a),.agg (Cu b)] (λc=>nI c):=sX [2,3] [] [] func55
def Uq(a:Bool):Option Int:=cond a (some 1) (some 0)
instance ZB{a:Bool}:Qe 134 (Uq a) [.bool a] (λb=>nI b):=sX [] [] [] func134
def Ke(a:List CG):Option (List CG):=chk (List.length ([]:List CG)+List.length a<=lim) (some (([]:List CG)++a))
instance SL{a:List CG}:Qe 265 (Ke a) [dL Cu a] (λb=>oL 93 Cu b):=sX [] [] [(1,[4])] func265
def JB(a:Int)(b:Int):Option (CG×Bool):=Aa (Xy a) λc=>Aa (XA c b) λd=>chk (d≠0) (chk (d≠0) (Aa (FZ (wZ (Int.tdiv a d),wZ (Int.tdiv b d))) λe=>cond (!e) (some ((0,0),false)) (some ((wZ (Int.tdiv a d),wZ (Int.tdiv b d)),true))))
def J1(a:Int)(b:Int):Option (CG×Bool):=cond (b==0) (some ((0,0),false)) (Aa (Eh a (-4000000000000000000) 4000000000000000000) λc=>cond (!c) (some ((0,0),false)) (Aa (Eh b (-4000000000000000000) 4000000000000000000) λd=>cond (!d) (some ((0,0),false)) (cond (decide (b < 0)) (JB (wZ (0 - a)) (wZ (0 - b))) (JB a b))))
instance Qo{a:Int}{b:Int}:Qe 284 (J1 a b) [nI a,nI b] (λc=>.tup [.agg (Cu c.1),.bool c.2]):=Qe.mk @λc h=>st Ahx E (rn 1 E (CL λd=>rs (sp 3 E (Eo h (λe h=>qg 10 e E (AY 9 E (qT E E (rn 1 E (sj h ▸ Ap rZ))))) λe h=>qg 10 e E (sp 1 E (A8 h λf g h=>EN E E (qC (qs E (qs E (qs E AT))) (DX.s g) (sp 3 E (Eo h (λi h=>qg 15 i E (AY 4 E (qT E E (rn 1 E (qk [4,5] E (sj h ▸ Ap rZ)))))) λi h=>qg 15 i E (sp 1 E (A8 h λj k h=>EN E E (qC (qs E (qs E (qs E AT))) (DX.s k) (AY 2 E (BT h E (λh=>rn 1 E (sj h ▸ Ap rZ)) λh=>Cf d (Ar λl m=>rn 1 E (have n:∀{o:Int}{p:Int},JB o p=some c->Jn l [(0,nI o),(1,nI p),(4,.box [nI 0,nI 0])]:=@λo p h _ q=>m _ (lh q E (rs (sp 1 E (A8 h λr s h=>qC (qs E AT) (fJ.s s) (sp 1 E (A8 h λt u h=>qC (qs E (qs E AT)) (fK.s u) (AY 1 E (rd (by kernel_rfl) (sd 2 E (D9 h λv h=>ed E (qB E ⟨E,v⟩ E (sd 2 E (D9 h λw h=>ed E (qB E ⟨E,w⟩ E (sd 3 E (CN (CL λx=>rs (sp 1 E (A8 h λy z h=>qC (qa E (CM (Ba E (Ba E E))) AT) (JL.s z) (AY 1 E (BT h E (λh=>rn 1 E (sj h ▸ Ap rZ)) λh=>Cf x (rn 1 E (sj h ▸ Ap rZ)))))))))))))))))))))));(BT h E (λh=>rg (AY 6 E (n h _ (AX E)))) λh=>Ci (n h _ (AX E)))))))))))))))))))
def L5(a:CG)(b:CG):Option (CG×Bool):=Aa (Kd a b) λc=>cond (!c) (some ((0,0),false)) (Aa (J1 (wZ (a.1 * b.1)) (wZ (a.2 * b.2))) λd=>some (d.1,d.2))
instance Up{a:CG}{b:CG}:Qe 270 (L5 a b) [.agg (Cu a),.agg (Cu b)] (λc=>.tup [.agg (Cu c.1),.bool c.2]):=sX [2,3,4] [] [] func270
def LX(a:CG)(b:CG):Option (CG×Bool):=Aa (Kd a b) λc=>cond (!c) (some ((0,0),false)) (cond (b.1==0) (some ((0,0),false)) (Aa (J1 (wZ (a.1 * b.2)) (wZ (a.2 * b.1))) λd=>some (d.1,d.2)))
instance Ug{a:CG}{b:CG}:Qe 282 (LX a b) [.agg (Cu a),.agg (Cu b)] (λc=>.tup [.agg (Cu c.1),.bool c.2]):=sX [2,3,4] [] [] func282
def LW(a:CG)(b:CG):Option (CG×Bool):=Aa (Kd a b) λc=>cond (!c) (some ((0,0),false)) (Aa (J1 (wZ ((wZ (a.1 * b.2))+(wZ (b.1 * a.2)))) (wZ (a.2 * b.2))) λd=>some (d.1,d.2))
instance Uf{a:CG}{b:CG}:Qe 271 (LW a b) [.agg (Cu a),.agg (Cu b)] (λc=>.tup [.agg (Cu c.1),.bool c.2]):=sX [2,3,4] [] [] func271
def OX(a:CG)(b:CG):Option (CG×Bool):=Aa (LW a (wZ (0 - b.1),b.2)) λc=>some (c.1,c.2)
instance ZA{a:CG}{b:CG}:Qe 295 (OX a b) [.agg (Cu a),.agg (Cu b)] (λc=>.tup [.agg (Cu c.1),.bool c.2]):=sX [2,3,4] [] [] func295
theorem Vq(a:CG):GK (Cu a)=true:=(Of E (Of E VP))
def Je(a:List CG)(b:CG×Bool)(c:(List CG×Int)->Option (Sum (List CG) (Bool×List CG×(List CG))))(d:(List CG)×Int):Option (Sum (List CG) (Bool×List CG×(List CG))):=match d with
  |(e,f)=>cond (decide (f < (List.length e:Int))) (Aa (AU a f) λg=>Aa (L5 b.1 g) λi=>Aa (AU e f) λj=>Aa (OX j i.1) λk=>cond (!i.2) (some (.inr (false,e,a))) (cond (!k.2) (some (.inr (false,e,a))) (chk (0 < List.length e) (Aa (AU e f) λl=>c ((CY e f k.1),(wZ (f+1))))))) (some (.inl e))
def Om(a:List CG)(b:List CG)(c:Int):Option (Bool×List CG×(List CG)):=Aa (AU a c) λd=>Aa (AU b c) λe=>Aa (LX d e) λf=>cond (!f.2) (some (false,a,b)) (Aa (Ay (Je b f) fz (a,c)) λg=>(match g with
  |.inl i=>(some (true,i,b))
  |.inr j=>some j))
theorem ce{a:List CG}{c:List CG}{d:Int}{e:Bool×List CG×(List CG)}(h:Om a c d=some e):We Tryz.prog 281 [] [oL 93 Cu a,oL 93 Cu c] [nI d] [oL 93 Cu e.2.1,oL 93 Cu e.2.2] (.bool e.1):=stl Ahu E (TA E E) (dV E E) (Of (TY Vq 93 _) (Of (TY Vq 93 _) VP)) (Of (TY Vq 93 _) (Of (TY Vq 93 _) VP)) (rn 1 E (rd (by kernel_rfl) (sd 2 E (A8 h λf g h=>ed E (qI E HC g (sd 3 E (A8 h λj k h=>ed E (qI E HC k (sd 1 E (A8 h λl m h=>ed E (qC (qa E (CM (Ba E (Ba E E))) (qa E (CM (Ba E (Ba E E))) AT)) (Ug.s m) (sd 6 E (CN (GC E λn=>BT h E (λh=>rn 1 E (sj h ▸ Ap ⟨.inl E,E,E⟩)) λh=>Cf n (Ar λo p=>rn 1 E (qk [0,1,7,9] E (D6 h λr s t=>have u:∀{v:List CG},(.inl v)=r->Jn o [(0,oL 93 Cu v),(1,oL 93 Cu c)]:=@λv h _ w=>have h:=t h;p _ (lh w E (rn 1 E (sj h ▸ Ap ⟨.inl E,E,E⟩)));(A9 (λ(x:(List CG)×Int)=>match x with|(y,z)=>[(0,oL 93 Cu y),(1,oL 93 Cu c),(7,.box [nI l.1.1,nI l.1.2]),(9,nI z)]) _ _ _ _ s (AX E) (λ_=>E) (λA=>IV λy z B h C=>GC E λD=>BT h E (λh=>Cf D (CL λF=>A4 (rd (by kernel_rfl) (sd 3 E (A8 h λH I h=>ed E (qI E HC I (sd 1 E (A8 h λJ K h=>ed E (qC (qa E (CM (Ba E (Ba E E))) (qa E (CM (Ba E (Ba E E))) AT)) (Up.s K) (sd 6 E (CN (rd (by kernel_rfl) (sd 2 E (A8 h λL M h=>ed E (qI E HC M (sd 2 E (A8 h λN O h=>ed E (qC (qa E (CM (Ba E (Ba E E))) (qa E (CM (Ba E (Ba E E))) AT)) (ZA.s O) (sd 6 E (CN (CL λP=>rs (sp 3 E (Eo h (λQ h=>qg 55 Q E (AY 3 E (qk [0,1,7,9,12,58] E (qT E E (rn 1 E (sj (t (sj h)) ▸ Ap ⟨.inl E,E,E⟩)))))) λQ h=>qg 55 Q E (AY 3 E (BT h E (λh=>rn 1 E (sj (t (sj h)) ▸ Ap ⟨.inl E,E,E⟩)) λh=>Cf P (qk [0,1,7,9,12] E (D9 h λR h=>E0 (gLs (q:=900003) (b:=0) E E E R (λS T=>qk [0,1,7,9,12,900003] E (N1 (rg (sp 3 E (A8 h λU V h=>V7 E E E E V (d6 (y0:=U) (i:=z) (es:=2) 0 N.1 [0,1,7,9] E E E E E E E E E E HC V (λW=>Qx (Vq W)) (Qx (Of E (Of E VP))) (yc E (yc (Qx (bH Vq _)) (yc (Im E (Im E E)) (yc E yn)))) (OR (gDs (q:=900003) (b:=0) E E E (sl E) (F _ (rg (AY 3 E (C _ _ h (AX E))))))))))))))))))))))))))))))))))))))))) λh=>AJ (u (sj h) _ (AX E)))))))))))))))))))))
def qY(a:List CG):List V:=[aL Cu a]
theorem Ai1(a:List CG):(qY a).length=1:=E
def Eg(a:List CG):List V:=[oL 93 Cu a]
theorem OM(a:List CG):(Eg a).length=1:=E
theorem o8(a:List CG):ON (Eg a)=FX a:=(Ba (SB HK _) E)
theorem kC(a:List CG):GK (Eg a)=true:=(Of (TY Vq 93 _) VP)
theorem vE(a:CG):Fl (Cu a)=true:=(VJ E (VJ E E))
theorem zF(a:CG):Nb (Cu a)=Cu a:=(VK E (VK E E))
theorem Aah(a:List CG):Fl (FX a)=true:=(VJ (IH vE _) E)
theorem AcM(a:List CG):Nb (FX a)=qY a:=(VK (Oc zF _) E)
def Pg(a:List (List CG))(b:List CG)(c:((List (List CG))×Int)->Option (Sum ((List (List CG))) (List CG×Bool)))(d:(List (List CG))×Int):Option (Sum ((List (List CG))) (List CG×Bool)):=match d with
  |(e,f)=>cond (decide (f < (List.length a:Int))) (Aa (AU a f) λg=>cond ((List.length g:Int)!=(List.length b:Int)) (some (.inr (([]:List CG),false))) (Aa (IC g) λi=>cond (!i) (some (.inr (([]:List CG),false))) (Aa (Ke g) λj=>Aa (AU b f) λk=>chk (List.length j+List.length [k]<=lim) (chk (List.length e+List.length ([j++[k]])<=lim) (c ((e++([j++[k]])),(wZ (f+1)))))))) (some (.inl e))
def Pi(a:List CG)(b:List (List CG))(c:Int)(d:Int->Option Int)(e:Int):Option Int:=cond (decide (e < (List.length a:Int))) (Aa (AU b e) λf=>Aa (AU f c) λg=>cond (g.1==0) (d (wZ (e+1))) (some e)) (some e)
def Pj(a:List CG)(b:Int)(c:((List (List CG))×Int)->Option (Sum ((List (List CG))) (List CG×Bool)))(d:(List (List CG))×Int):Option (Sum ((List (List CG))) (List CG×Bool)):=match d with
  |(e,f)=>cond (decide (f < (List.length a:Int))) (cond (f !=b) (Aa (AU (HG 0 e) f) λg=>Aa (AU g.2 b) λi=>cond (i.1 !=0) (Aa (AU (HG 0 e) f) λj=>Aa (AU (HG 0 e) b) λk=>chk (Nat.beq j.1 k.1=false) (Aa (Om j.2 k.2 b) λl=>chk (lj (List.length (CY (CY e f l.2.1) b l.2.2)) (Ro e) []=true) (cond (!l.1) (some (.inr (([]:List CG),false))) (c ((Lz (CY (CY e f l.2.1) b l.2.2) (Ro e)),(wZ (f+1))))))) (chk (lj (List.length e) (Ro e) []=true) (c ((Lz e (Ro e)),(wZ (f+1)))))) (chk (lj (List.length e) (Ro e) []=true) (c ((Lz e (Ro e)),(wZ (f+1)))))) (some (.inl e))
def Ph(a:List CG)(b:((List (List CG))×Int)->Option (Sum ((List (List CG))) (List CG×Bool)))(c:(List (List CG))×Int):Option (Sum ((List (List CG))) (List CG×Bool)):=match c with
  |(d,e)=>cond (decide (e < (List.length a:Int))) (Aa (Ay (Pi a d e) fz e) λf=>cond (f==(List.length a:Int)) (some (.inr (([]:List CG),false))) (chk (0 < List.length (Ro d)) (Aa (AU (Ro d) f) λg=>Aa (AU (Ro d) e) λi=>Aa (AU (Ro d) e) λj=>Aa (AU (CY (Ro d) e g) f) λk=>chk (lj (List.length d) (CY (CY (Ro d) e g) f i) []=true) (Aa (Ay (Pj a e) fz ((Lz d (CY (CY (Ro d) e g) f i)),0)) λl=>(match l with
  |.inl m=>(b (m,(wZ (e+1))))
  |.inr n=>some (.inr n)))))) (some (.inl d))
def Pk(a:List CG)(b:List (List CG))(c:(List CG×Int)->Option (Sum (List CG) (List CG×Bool)))(d:(List CG)×Int):Option (Sum (List CG) (List CG×Bool)):=match d with
  |(e,f)=>cond (decide (f < (List.length a:Int))) (Aa (AU b f) λg=>Aa (AU g (List.length a:Int)) λi=>Aa (AU b f) λj=>Aa (AU j f) λk=>Aa (LX i k) λl=>cond (!l.2) (some (.inr (([]:List CG),false))) (chk (List.length e+List.length [l.1]<=lim) (c ((e++[l.1]),(wZ (f+1)))))) (some (.inl e))
def JO(a:List (List CG))(b:List CG):Option (List CG×Bool):=cond (decide (6 < (List.length b:Int))) (some (([]:List CG),false)) (cond ((List.length a:Int)!=(List.length b:Int)) (some (([]:List CG),false)) (Aa (IC b) λc=>cond (!c) (some (([]:List CG),false)) (Aa (Ay (Pg a b) fz (([]:List (List CG)),0)) λd=>(match d with
  |.inl e=>(Aa (Ay (Ph b) fz (e,0)) λf=>(match f with
  |.inl g=>(Aa (Ay (Pk b g) fz (([]:List CG),0)) λi=>(match i with
  |.inl j=>(some (j,true))
  |.inr k=>some k))
  |.inr k=>some k))
  |.inr k=>some k))))
instance Vv{a:List (List CG)}{c:List CG}:Qe 267 (JO a c) [dL FX a,dL Cu c] (λd=>.tup [oL 93 Cu d.1,.bool d.2]):=Qe.mk @λd h=>by
 refine sta Ahn E (TA (IH Aah _) (TA (IH vE _) E)) (dV (Oc AcM _) (dV (Oc zF _) E)) (Of (TY Vq 93 _) (Of E VP)) (rn 2 E (CL λe=>rs (sp 3 E (Eo h (λg h=>qg 21 g E (AY 10 E (qT E E (rn 1 E (sj h ▸ Ap rZ))))) λg h=>qg 21 g E (sp 6 E (Eo h (λj h=>qg 27 j E (AY 4 E (qk [0,1,6,31] E (qT E E (rn 1 E (sj h ▸ Ap rZ)))))) λj h=>qg 27 j E (sp 1 E (A8 h λk m h=>EN E E (qC (qa E (KC HK _) AT) (KH.s m) (AY 2 E (BT h E (λh=>rn 1 E (sj h ▸ Ap rZ)) λh=>Cf e (rn 1 E (Ar λn o=>rn 1 E (D6 h λp r s=>?_))))))))))))))
 have t:∀{u:List (List CG)},(.inl u)=p->Jn n [(6,nI (List.length c:Int)),(7,oL 96 Eg u)]:=by
  intro u h σ' v
  replace h:=s h
  refine o _ (lh v E (Ar λw x=>rn 1 E (D6 h λy r z=>have A:∀{B:List (List CG)},(.inl B)=y->Jn w [(6,nI (List.length c:Int)),(7,oL 96 Eg B)]:=@λB h _ v=>have h:=z h;x _ (lh v E (rn 1 E (Ar λC D=>rn 1 E (D6 h λF r H=>have I:∀{K:List CG},(.inl K)=F->Jn C [(13,oL 93 Cu K)]:=@λK h _ v=>have h:=H h;D _ (lh v E (rn 1 E (sj h ▸ Ap rZ)));(A9 (λ(L:(List CG)×Int)=>match L with|(M,N)=>[(6,nI (List.length c:Int)),(7,oL 96 Eg B),(13,oL 93 Cu M),(14,nI N)]) _ _ _ _ r (AX E) (λ_=>E) (λO=>IV λM N P h Q=>GC E λR=>BT h E (λh=>Cf R (CL λS=>A4 (rd (by kernel_rfl) (sd 2 E (A8 h λT U h=>ed E (qI E OM U (sd 2 E (A8 h λV W h=>ed E (qI E HC W (sd 3 E (A8 h λX Y h=>ed E (qI E OM Y (sd 2 E (A8 h λZ d h=>ed E (qI E HC d (sd 1 E (A8 h λg j h=>ed E (qC (qa E (CM (Ba E (Ba E E))) (qa E (CM (Ba E (Ba E E))) AT)) (Ug.s j) (sd 6 E (CN (GC E λk=>qk [6,7,13,14,15,155] E (BT h E (λh=>rn 1 E (sj (H (sj h)) ▸ Ap rZ)) λh=>Cf k (rg (sp 2 E (Gi Cu [g.1] E E E HC (D9 h λe h=>qA Cu M [g.1] E E (Bu HC [g.1]) E e (AY 1 E (S _ (rg (AY 3 E (Q _ _ h (AX E)))))))))))))))))))))))))))))))) λh=>AJ (I (sj h) _ (AX E))))))));(A9 (λ(L:(List (List CG))×Int)=>match L with|(m,n)=>[(6,nI (List.length c:Int)),(7,oL 96 Eg m),(10,nI n)]) _ _ _ _ r (AX E) (λ_=>E) (λO=>IV λm n P h Q=>GC E λp=>?_)))))
  rcases LU h with⟨u,h⟩|⟨u,h⟩
  ·refine qT E u (Cf p (Ar λo w=>A4 (rn 1 E (Ar λx y=>D6 h λC r D=>have F:∀{K:Int},K=C->Jn x [(6,nI (List.length c:Int)),(7,oL 96 Eg m),(10,nI n),(11,nI K)]:=@λK h _ v=>have h:=D h;y _ (lh v E (GC E λB=>BT h E (λh=>rn 1 E (sj (z (sj h)) ▸ Ap rZ)) λh=>Cf B (qk [6,7,10,11] E (jl (f:=Eg) (s:=7) (q:=900001) E E (by decide) (YH (λ_=>E)) (λ_=>E) (λ_=>E) (λN R T U=>kp [(6,nI (List.length c:Int)),(7,oL 96 (pE Eg N) (HG 0 m)),(10,nI n),(11,nI K),(900001,.gh R (List.map (λV=>FR (Eg V)) m))] E E (E0 (gWl (s:=7) E (λ_=>E) (Ky (kp [(6,nI (List.length c:Int)),(7,oL 96 (tE N) (Ro m)),(10,nI n),(11,nI K),(900001,.gh R (List.map (λV=>FR (Eg V)) m))] E E (qk [6,7,10,11,900001] E (D9 h λW h=>E0 (gLs (q:=900003) (b:=7) E E E W (λX Y=>qk [6,7,10,11,900001,900003] E (rt 12 (by kernel_rfl) (sd 6 E (A8 h λZ d h=>ed E (V7 E E E E d (ed E (qLe (i:=K) (es:=1) (q:=900003) 0 E E E E E E ztE d E E (sd 2 E (A8 h λj H h=>ed E (V7 E E E E H (ed E (qLe (i:=n) (es:=1) (q:=900003) 0 E E E E E E ztE H E E (CN (Ky (A8 h λk I h=>V7 E E E E I (d6 (y0:=k) (i:=n) (es:=1) 0 Z [6,7,10,87,88,96,900001] E E E E E E E E E E ztE I (λ_=>E) E (yc E (yc E (yc E (yc E (yc E (yc E (yc (Acn (λ_=>E) (λV=>Qx (kC V)) _) yn))))))) (A8 h λM S h=>V7 E E E (sl E) S (d6 (y0:=M) (i:=K) (es:=1) 0 j [6,7,10,900001] E E E E E E E E E E ztE S (λ_=>E) E (yc E (yc E (yc E (yc (Acn (λ_=>E) (λV=>Qx (kC V)) _) yn)))) (OR (E0 (gDs (q:=900003) (b:=7) E E E (sl (sl E)) (qk [6,7,10,900001] E (qk [6,7,10,900001] E (D9 h λg h=>E0 (gTj (f:=Eg) (l:=m) (s:=7) (q:=900001) E E E (λ_=>E) U g (Ky (kp [(6,nI (List.length c:Int)),(7,oL 96 Eg (Lz m (CY (CY (Ro m) n Z) K j))),(10,nI n)] E E (rn 1 E (D6 h λe r p=>have x:∀{y:List (List CG)},(.inl y)=e->Jn o [(6,nI (List.length c:Int)),(7,oL 96 Eg y),(10,nI n)]:=@λy h _ v=>have h:=p h;w _ (lh v E (rg (AY 3 E (Q _ _ h (AX E)))));(A9 (λ(L:(List (List CG))×Int)=>match L with|(C,D)=>[(6,nI (List.length c:Int)),(7,oL 96 Eg C),(10,nI n),(12,nI D)]) _ _ _ _ r (AX E) (λ_=>E) (λO=>IV λC D P h Q=>GC E λB=>BT h E (λh=>Cf B (CL λW=>A4 (qk [6,7,10,12] E (jl (f:=Eg) (s:=7) (q:=900001) E E (by decide) (YH (λ_=>E)) (λ_=>E) (λ_=>E) (λN R T U=>kp [(6,nI (List.length c:Int)),(7,oL 96 (pE Eg N) (HG 0 C)),(10,nI n),(12,nI D),(900001,.gh R (List.map (λV=>FR (Eg V)) C))] E E (rt 24 (by kernel_rfl) (sd 4 E (Eo h (λX h=>I5 107 X E (sd 2 E (A8 h λY d h=>ed E (EN E E (qI E (zpE OM) d (sd 2 E (A8 h λH k h=>ed E (EN E E (qIp E HK HC k (sd 5 E (Eo h (λI h=>I5 118 I E (sd 2 E (A8 h λM S h=>ed E (EN E E (qI E (zpE OM) S (sd 3 E (A8 h λK Z h=>ed E (EN E E (qI E (zpE OM) Z (sd 2 E (D9 h λj h=>CN (gWl (s:=7) E (λ_=>E) (gWt (s:=122) E (gWt (s:=126) E (gT3 (f:=Eg) (l:=C) (q:=900001) E E E (λ_=>E) U S Z j (Ky (A8 h λg v h=>EN E E (qZ [6,7,10,12,118,127,900001] [] [.tmp 122,.tmp 126] E E E E E AT (qs E AT) (Of (TY Vq 93 _) (Of (TY Vq 93 _) VP)) (ce v) E (yc E (yc (sdF dtE _) (yc E (yc E (yc E (yc E (yc (AnS (λ_=>E) (λV=>Qx (kC V)) _) yn))))))) (AY 2 E (E0 (gJ3 (f:=Eg) (l:=C) (x':=g.2.1) (y':=g.2.2) (q:=900001) E E E (λ_=>E) U S Z j (Ky (D9 h λo h=>E0 (gTj (f:=Eg) (l:=CY (CY C D g.2.1) n g.2.2) (J:=Ro C) (s:=7) (q:=900001) E E E (λ_=>E) (hU2 U) o (Ky (qk [6,7,10,12,130] E (BT h E (λh=>rn 1 E (sj (z (sj (p (sj h)))) ▸ Ap rZ)) λh=>Cf W (rg (AY 3 E (Q _ _ h (AX E))))))))))))))))))))))))))))))) λI h=>I5 118 I E (sd 9 E (CN (Ky (AY 3 E (E0 (gWl (s:=7) E (λ_=>E) (Ky (D9 h λw h=>E0 (gTj (f:=Eg) (l:=C) (J:=Ro C) (s:=7) (q:=900001) E E E (λ_=>E) U w (Ky (qk [6,7,10,12,130] E (qF E E (Cf W (rg (AY 3 E (Q _ _ h (AX E)))))))))))))))))))))))))))) λX h=>I5 107 X E (sd 20 E (CN (Ky (AY 3 E (E0 (gWl (s:=7) E (λ_=>E) (Ky (D9 h λe h=>E0 (gTj (f:=Eg) (l:=C) (J:=Ro C) (s:=7) (q:=900001) E E E (λ_=>E) U e (Ky (qk [6,7,10,12,130] E (qF E E (Cf W (rg (AY 3 E (Q _ _ h (AX E))))))))))))))))))))))))) λh=>AJ (x (sj h) _ (AX E)))))))))))))))))))))))))))))))))))))))))))));?_))))
   exact A9 (λ(y:Int)=>[(6,nI (List.length c:Int)),(7,oL 96 Eg m),(10,nI n),(11,nI y)]) _ _ _ _ r (AX E) (λ_=>E) (λO y P h Q=>CL λB=>rs (sp 4 E (Eo h (λN h=>qg 69 N E (sp 2 E (A8 h λR T h=>EN E E (qI E OM T (sp 2 E (A8 h λY d h=>EN E E (qI E HC d (AY 4 E (BT h E (λh=>Cf B (A4 (rg (AY 3 E (Q _ _ h (AX E)))))) λh=>AJ (F (sj h) _ (AX E))))))))))) λN h=>qg 69 N E (AY 10 E (qF E E (AJ (F (sj h) _ (AX E))))))))
  ·exact qF E u (AJ (A (sj h) _ (AX E)))
 exact A9 (λ(L:(List (List CG))×Int)=>match L with|(H,k)=>[(1,aL Cu c),(6,nI (List.length c:Int)),(7,oL 96 Eg H),(32,aL qY a),(33,nI (List.length a:Int)),(34,nI k)]) _ _ _ _ r (AX E) (λ_=>E) (λO=>IV λH k P h Q=>rn 1 E (CL λM=>BT h E (λh=>Cf M (CL λK=>A4 (rs (sp 1 E (A8 h λV S h=>qI E Ai1 S (AY 3 E (CL λZ=>rs (sp 5 E (Eo h (λj h=>qg 43 j E (AY 4 E (qT E E (rn 1 E (sj (s (sj h)) ▸ Ap rZ))))) λj h=>qg 43 j E (sp 1 E (A8 h λv z h=>EN E E (qC (qa E (KC HK _) AT) (KH.s z) (AY 2 E (qk [1,6,7,8,9,32,33,34,47] E (BT h E (λh=>rn 1 E (sj (s (sj h)) ▸ Ap rZ)) λh=>Cf Z (jG (by kernel_rfl) (sd 2 E (A8 h λp D h=>ed E (qC (qa E (KC HK _) AT) (SL.s D) (sd 2 E (A8 h λI g h=>ed E (qI E HC g (sd 1 E (ed E (Gi Cu [I] E E E HC (D9 h λo h=>ed E (qA Cu p [I] E E (Bu HC [I]) E o (ed E (Gi Eg [p++[I]] E E E OM (D9 h λX h=>ed E (qA Eg H ([p++[I]]) E E (Bu OM ([p++[I]])) E X (sd 1 E (CN (K _ (rg (AY 2 E (Q _ _ h (AX E)))))))))))))))))))))))))))))))))))))) λh=>AJ (t (sj h) _ (AX E))))
def Uh(a:List CG)(b:List CG)(c:(Int×Int×Int)->Option (Sum (Int×Int) (CG×Bool)))(d:Int×Int×Int):Option (Sum (Int×Int) (CG×Bool)):=match d with
  |(e,f,g)=>cond (decide (g < (List.length a:Int))) (Aa (AU a g) λi=>Aa (AU b g) λj=>Aa (L5 i j) λk=>Aa (LW (e,f) k.1) λl=>cond (!k.2) (some (.inr ((0,0),false))) (cond (!l.2) (some (.inr ((0,0),false))) (c (l.1.1,l.1.2,(wZ (g+1)))))) (some (.inl (e,f)))
def Nd(a:List CG)(b:List CG):Option (CG×Bool):=cond ((List.length a:Int)!=(List.length b:Int)) (some ((0,0),false)) (Aa (Ay (Uh a b) fz (0,1,0)) λc=>(match c with
  |.inl (d,e)=>(some ((d,e),true))
  |.inr f=>some f))
instance{a:List CG}{b:List CG}:Xs (Uh a b) (λ(p,q,r)=>[(6,.box [nI p,nI q]),(21,nI r)]) [0,1,4,20]:=⟨⟩
instance U6{a:List CG}{b:List CG}:Qe 237 (Nd a b) [dL Cu a,dL Cu b] (λc=>.tup [.agg (Cu c.1),.bool c.2]):=sX [4,6,8,10] [] [] func237
def NU(a:List (List CG))(b:List CG)(c:(List CG×Int)->Option (Sum (List CG) (List CG×Bool)))(d:(List CG)×Int):Option (Sum (List CG) (List CG×Bool)):=match d with
  |(e,f)=>cond (decide (f < (List.length a:Int))) (Aa (AU a f) λg=>Aa (Nd g b) λi=>cond (!i.2) (some (.inr (([]:List CG),false))) (chk (List.length e+List.length [i.1]<=lim) (c ((e++[i.1]),(wZ (f+1)))))) (some (.inl e))
def IA(a:List (List CG))(b:List CG):Option (List CG×Bool):=Aa (Ay (NU a b) fz (([]:List CG),0)) λc=>(match c with
  |.inl d=>(some (d,true))
  |.inr e=>some e)
instance{a:List (List CG)}{b:List CG}:Xs (NU a b) (λ(n,o)=>[(6,oL 93 Cu n),(13,nI o)]) [1,11,12]:=⟨⟩
instance Uo{a:List (List CG)}{b:List CG}:Qe 283 (IA a b) [dL FX a,dL Cu b] (λc=>.tup [oL 93 Cu c.1,.bool c.2]):=sX [9] [] [(4,[16]),(8,[25]),(10,[30])] func283
def cf(a:List CG)(b:Int->Option (Sum Unit Bool))(c:Int):Option (Sum Unit Bool):=cond (decide (c < (List.length a:Int))) (Aa (AU a c) λd=>cond (decide (d.1 < 0)) (some (.inr false)) (b (wZ (c+1)))) (some (.inl ()))
def cg(a:OO)(b:Int)(c:(List CG)×Bool)(d:Int->Option (Sum Unit Bool))(e:Int):Option (Sum Unit Bool):=cond (decide (e < (List.length c.1:Int))) (Aa (AU c.1 e) λf=>Aa (AU a.2.1 e) λg=>Aa (EZ f g) λi=>cond (decide ((wZ (b * i)) < 0)) (some (.inr false)) (d (wZ (e+1)))) (some (.inl ()))
def Sn(a:OO)(b:List CG)(c:Int):Option Bool:=Aa (Gq a) λd=>cond (!d) (some false) (cond ((List.length b:Int)!=(List.length a.2.2:Int)) (some false) (Aa (IC b) λe=>cond (!e) (some false) (Aa (Ay (cf b) fz 0) λf=>(match f with
  |.inl _=>(Aa (IA a.1 b) λg=>cond (!g.2) (some false) (Aa (Ay (cg a c g) fz 0) λi=>(match i with
  |.inl _=>(some true)
  |.inr j=>some j)))
  |.inr j=>some j))))
instance{a:List CG}:Xs (cf a) (λP=>[(31,nI P)]) [1,2,3,29,30]:=⟨⟩
instance{a:OO}{b:Int}{c:(List CG)×Bool}:Xs (cg a b c) (λB=>[(50,nI B)]) [2,3,48,49]:=⟨⟩
instance dq{a:OO}{b:List CG}{c:Int}:Qe 268 (Sn a b c) [.agg (Fy a),dL Cu b,nI c] (λd=>.bool d):=sX [3,8,12] [(57,3)] [(9,[39])] func268
def Wq(a:List CG)(b:List CG)(c:Int->Option (Sum Unit Bool))(d:Int):Option (Sum Unit Bool):=cond (decide (d < (List.length a:Int))) (Aa (AU a d) λe=>Aa (AU b d) λf=>cond (!(e.1==f.1&&e.2==f.2)) (some (.inr false)) (c (wZ (d+1)))) (some (.inl ()))
def LF(a:List CG)(b:List CG):Option Bool:=cond ((List.length a:Int)!=(List.length b:Int)) (some false) (Aa (Ay (Wq a b) fz 0) λc=>(match c with
  |.inl _=>(some true)
  |.inr d=>some d))
instance{a:List CG}{b:List CG}:Xs (Wq a b) (λm=>[(13,nI m)]) [0,1,12]:=⟨⟩
instance W2{a:List CG}{b:List CG}:Qe 269 (LF a b) [dL Cu a,dL Cu b] (λc=>.bool c):=sX [] [] [] func269
end Go.Proofs.YtdmpnamllcigdaaGreatDoor
