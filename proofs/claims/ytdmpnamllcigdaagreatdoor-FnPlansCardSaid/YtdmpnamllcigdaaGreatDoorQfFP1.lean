/- Typed functions, and that the program's functions do what they say. No conditions. -/
import Derived.Test.YtdmpnamllcigdaaGreatDoorGSeFP1
import Derived.Test.YtdmpnamllcigdaaGreatDoorKb
open Go.RowKit
set_option linter.all false
namespace Go.Proofs.YtdmpnamllcigdaaGreatDoor
open Tryz
section
set_option maxRecDepth 100000
set_option maxHeartbeats 1000000
def HZ(a:(Int×Int)->Option Int)(b:Int)(c:Int):Option Int:=a (c,(wZ<|b+1))
def Gv(a:(Int×Int)->Option Int)(b:Int)(c:Int)(d:Bool):Option Int:=cond d (HZ a c c)<|HZ a c b
def Gu(a:DA)(b:zI)(c:zI)(d:(Int×Int)->Option Int)(e:Int×Int):Option Int:=match e with
  |(f,g)=>cond (decide (g < a.1)) (Aa (H5 c g) λi=>cond i (HZ d g f)<|cond (decide (f < 0)) (HZ d g g)<|Aa (Ka g c a) λj=>Aa (Ka f c a) λk=>Aa (JC a g) λl=>Aa (JC a f) λm=>cond (decide (k < j)) (Gv d f g true)<|cond (j==k) (cond (decide (m < l)) (Gv d f g true)<|cond (l==m) (Aa (Kb g a b) λn=>Aa (Kb f a b) λo=>Gv d f g<|decide (n < o))<|Gv d f g false)<|Gv d f g false)<|some f
def LG(a:DA)(b:zI)(c:(zI)->Option (zI))(d:zI):Option (zI):=cond (decide ((d.length:Int) < a.1)) (Aa (Ay (Gu a b d) fz ((-1),0)) λe=>chk (List.length d+List.length [e]<=lim)<|c<|d++[e])<|some d
def OU(a:DA)(b:zI):Option (zI):=Aa (C5 a) λc=>cond (!c) (some ([]:zI))<|cond ((b.length:Int)!=(a.2.1.length:Int)) (some ([]:zI))<|Aa (Ay (LG a b) fz ([]:zI)) λd=>some d
instance Zy{a:DA}{b:zI}:Qe 56 (OU a b) [.agg (Cl a),dL Am b] (λc=>oL 3 Am c):=Qe.mk @λc h=>by
 refine sta Alj E (TA (VJ E (VJ (IH U1 _) (VJ (IH (λ_=>E) _) E))) (TA (IH (λ_=>E) _) E)) (dV (vag (VK E (VK (Oc Vl _) (VK (Oc (λ_=>E) _) E)))) (dV (Oc (λ_=>E) _) E)) (TY (λ_=>E) 3 _) (rn 1 E (CL λd=>rs (sp 1 E (A8 h λe f h=>qC (qa E (CM (Ba E (Ba (KC II _) (Ba (KC AG _) E)))) AT) (Dj.s f) (sp 2 E (Eo h (λg h=>qg 17 g E (AY 7 E (qT E E (rn 1 E (sj h ▸ Ap rZ))))) λg h=>qg 17 g E (AY 7 E (BT h E (λh=>rn 1 E (sj h ▸ Ap rZ)) λh=>Cf d (qk [2,3] E (qk [2,3] E (E0 (gFv (s:=2) E E λi=>Ky (qk [2,3,910002] E (rs (qMf E E (AY 1 E (qk [2,3,5,910002] E (E0 (gFv (s:=3) E E λj=>Ky (qk [2,3,5,910002,910003] E (rs (qMf E E (AY 1 E (rn 1 E (Ar λk l=>?_)))))))))))))))))))))))))
 exact D6 h λm n o=>have p:∀{q:zI},q=m->Jn k [(7,oL 3 Am q)]:=@λq h _ r=>have h:=o h;l _ (lh r E (rn 1 E (sj h ▸ Ap rZ)));(A9 (λ(s:zI)=>[(2,.box [nI a.1,aL Ha a.2.1,aL Am a.2.2]),(3,.box [aL Am b]),(5,.tok (.func (.func 133) #[] [i].toArray)),(6,.tok (.func (.func 136) #[] [i,j].toArray)),(7,oL 3 Am s),(910002,.val 2 i),(910003,.val 3 j)]) _ _ _ _ n (AX E) (λ_=>E) (λt s u h v=>GC E λw=>BT h E (λh=>Cf w (A4 (rn 1 E (Ar λx y=>rn 1 E (D6 h λz n A=>have B:∀{C:Int},C=z->Jn x [(2,.box [nI a.1,aL Ha a.2.1,aL Am a.2.2]),(3,.box [aL Am b]),(5,.tok (.func (.func 133) #[] [i].toArray)),(6,.tok (.func (.func 136) #[] [i,j].toArray)),(7,oL 3 Am s),(8,nI C),(910002,.val 2 i),(910003,.val 3 j)]:=@λC h _ r=>have h:=A h;y _ (lh r E (rg (sp 2 E (Gi Am [C] E E E A6 (D9 h λD h=>qA Am s [C] E E (Bu A6 [C]) E D (AY 1 E (v _ _ h (AX E))))))));(A9 (λ(F:Int×Int)=>match F with|(H,I)=>[(2,.box [nI a.1,aL Ha a.2.1,aL Am a.2.2]),(3,.box [aL Am b]),(5,.tok (.func (.func 133) #[] [i].toArray)),(6,.tok (.func (.func 136) #[] [i,j].toArray)),(7,oL 3 Am s),(8,nI H),(9,nI I),(910002,.val 2 i),(910003,.val 3 j)]) _ _ _ _ n (AX E) (λ_=>E) (λt=>IV λH I u h v=>GC E λJ=>BT h E (λh=>Cf J (Ar λK L=>have M:∀{N:Int},HZ (Ay (Gu a b s) t) I N=some z->Jn K [(2,.box [nI a.1,aL Ha a.2.1,aL Am a.2.2]),(3,.box [aL Am b]),(5,.tok (.func (.func 133) #[] [i].toArray)),(6,.tok (.func (.func 136) #[] [i,j].toArray)),(7,oL 3 Am s),(8,nI N),(9,nI I),(910002,.val 2 i),(910003,.val 3 j)]:=@λN h _ r=>L _ (lh r E (rg (AY 3 E (v _ _ h (AX E)))));(A4 (CL λO=>rs (sp 2 E (A8 h λP Q h=>qC (qa E (BE AG _) (qs E AT)) (ID.s Q) (OR (BT h E (λh=>AJ (M h _ (AX E))) λh=>Cf O (GC E λR=>BT h E (λh=>rn 1 E (AJ (M h _ (AX E)))) λh=>Cf R (rs (sp 3 E (A8 h λS T h=>qV [2] [3,5,6,7,8,9,910002,910003] E E E E (qs E (qa E (BE AG _) AT)) (SJ T) E (im E (Qd (Im (sA (aca (λ_=>E) _)) E) (Qd E (Qd E (Qd (Qx (bH (λ_=>E) _)) (Qd E (Qd E (Qd E (Qd E yvn))))))))) (sp 3 E (A8 h λU V h=>qV [2] [3,5,6,7,8,9,47,910002,910003] E E E E (qs E (qa E (BE AG _) AT)) (SJ V) E (im E (Qd (Im (sA (aca (λ_=>E) _)) E) (Qd E (Qd E (Qd (Qx (bH (λ_=>E) _)) (Qd E (Qd E (Qd E (Qd E (Qd E yvn)))))))))) (AY 2 E (qk [2,3,5,6,7,8,9,10,11,910002,910003] E (rd kh (sd 2 E (A8 h λW X h=>ed E (qC (qa E (CM (Ba E (Ba (KC II _) (Ba (KC AG _) E)))) (qs E AT)) (RU.s X) (sd 2 E (A8 h λY Z h=>ed E (qC (qa E (CM (Ba E (Ba (KC II _) (Ba (KC AG _) E)))) (qs E AT)) (RU.s Z) (sd 2 E (CN (rk λc e=>have f:∀{d:Bool},Gv (Ay (Gu a b s) t) H I d=some z->Jn c [(2,.box [nI a.1,aL Ha a.2.1,aL Am a.2.2]),(3,.box [aL Am b]),(5,.tok (.func (.func 133) #[] [i].toArray)),(6,.tok (.func (.func 136) #[] [i,j].toArray)),(7,oL 3 Am s),(8,nI H),(9,nI I),(84,.bool d),(910002,.val 2 i),(910003,.val 3 j)]:=@λd h _ r=>e _ (lh r E (BT h E (λh=>rg (AY 2 E (M h _ (AX E)))) λh=>Ci (M h _ (AX E))));(sp 4 E (Eo h (λg h=>qg 61 g E (sp 14 E (qVs E E (sp 2 E (qVs E E (AY 5 E (f h _ (AX E)))))))) λg h=>qg 61 g E (sp 4 E (Eo h (λk h=>qg 65 k E (sp 4 E (Eo h (λm h=>qg 69 m E (sp 6 E (qVs E E (sp 2 E (qVs E E (AY 5 E (f h _ (AX E)))))))) λm h=>qg 69 m E (sp 4 E (Eo h (λq h=>qg 73 q E (sp 2 E (A8 h λl o h=>qVg E E E (qV [2,3] [5,6,7,8,9,61,65,69,73,910002,910003] E E E E (qs E AT) (SK o) E (im E (im E (Qd E (Qd E (Qd (Qx (bH (λ_=>E) _)) (Qd E (Qd E (Qd E (Qd E (Qd E (Qd E (Qd E (Qd E yvn))))))))))))) (sp 2 E (A8 h λw x h=>qVg E E E (qV [2,3] [5,6,7,8,9,61,65,69,73,76,910002,910003] E E E E (qs E AT) (SK x) E (im E (im E (Qd E (Qd E (Qd (Qx (bH (λ_=>E) _)) (Qd E (Qd E (Qd E (Qd E (Qd E (Qd E (Qd E (Qd E (Qd E yvn)))))))))))))) (AY 5 E (f h _ (AX E)))))))))) λq h=>qg 73 q E (sp 2 E (qVs E E (sp 2 E (qVs E E (AY 5 E (f h _ (AX E)))))))))))) λk h=>qg 65 k E (sp 10 E (qVs E E (sp 2 E (qVs E E (AY 5 E (f h _ (AX E))))))))))))))))))))))))))))))))))))) λh=>AJ (B (sj h) _ (AX E))))))))) λh=>AJ (p (sj h) _ (AX E))))
def bE(a:bf):List V:=[nI a.1,oL 3 Am a.2.1,oL 3 Am a.2.2.1,oL 28 AS a.2.2.2.1,oL 3 Am a.2.2.2.2]
def P0(a:DA)(b:zI):Option (bf×Bool):=Aa (C5 a) λc=>cond (!c) (some ((0,[],[],([],[])),false))<|cond ((b.length:Int)!=(a.2.1.length:Int)) (some ((0,[],[],([],[])),false))<|Aa (MK a) λd=>cond d.2 (some ((1,[],d.1,([],[])),true))<|Aa (JJ a) λe=>Aa (NV a) λf=>Aa (EZ e.2.1 f.2.1) λg=>cond (decide (g < 0)) (some ((2,[],[],e.1),true))<|Aa (OU a b) λi=>some ((3,i,[],([],[])),true)
instance aj{a:DA}{b:zI}:Qe 14 (P0 a b) [.agg (Cl a),dL Am b] (λc=>.tup [.agg (bE c.1),.bool c.2]):=sX [2,4,6,8,9,12] [] [(3,[26]),(5,[32]),(6,[34]),(7,[40]),(9,[50])] func14
def HY(a:Int):Option (zU):=cond (a==1) (some [116,114,101,101])<|cond (a==2) (some [98,97,103,115])<|cond (a==3) (some [108,101,97,112])<|some []
instance RS{a:Int}:Qe 15 (HY a) [nI a] (λb=>.str b):=sX [] [] [] func15
def KT(a:(Int×zI)->Option (zI))(b:Int)(c:zI)(d:Int):Option (zI):=chk (List.length [IntKind.u8.wrap (wZ<|48+d)]+List.length c<=lim)<|cond ((wZ<|Int.tdiv b 10)==0) (some<|[IntKind.u8.wrap (wZ<|48+d)]++c)<|a ((wZ<|Int.tdiv b 10),([IntKind.u8.wrap (wZ<|48+d)]++c))
def KS(a:(Int×zI)->Option (zI))(b:Int×zI):Option (zI):=match b with
  |(c,d)=>cond (decide ((Int.tmod c 10) < 0)) (KT a c d<|wZ<|0 - (Int.tmod c 10))<|KT a c d<|Int.tmod c 10
def Og(a:Int):Option (zU):=Aa (Ay KS fz (a,([]:zI))) λb=>cond (decide (a < 0)) (chk (List.length [45]+List.length (bytesOf b)<=lim)<|some<|[45]++(bytesOf b))<|some<|bytesOf b
instance VW{a:Int}:Qe 140 (Og a) [nI a] (λb=>.str b):=Qe.mk λh=>st Af5 E (rn 3 E (Ar λc d=>D6 h λe f g=>have i:∀{j:zI},j=e->Jn c [(3,oL 5 Lo j),(4,.bool (decide (a < 0)))]:=@λj h _ k=>have h:=g h;d _ (lh k E (GC E λm=>BT h E (λh=>rs (sp 1 E (qCs (l:=j) E E E E (D9 h λn h=>qB E n E (AY 1 E (sj h ▸ Ap rZ)))))) λh=>Cf m (rs (sp 1 E (qCs (l:=j) E E E E (AY 1 E (sj h ▸ Ap rZ)))))));(A9 (λ(o:Int×zI)=>match o with|(p,q)=>[(0,nI p),(3,oL 5 Lo q),(4,.bool (decide (a < 0)))]) _ _ _ _ f (AX E) (λ_=>E) (λr=>IV λp q s h t=>A4 (rn 1 E (Ar λu v=>rn 1 E (have w:∀{x:Int},KT (Ay KS r) p q x=some e->Jn u [(0,nI p),(3,oL 5 Lo q),(4,.bool (decide (a < 0))),(5,nI x)]:=@λx h _ k=>v _ (lh k E (rs (sp 3 E (Gi Lo [IntKind.u8.wrap (wZ (48+x))] E E E qq (sp 1 E (D9 h λy h=>qA Lo [IntKind.u8.wrap (wZ (48+x))] q E E (Bu qq q) E y (AY 1 E (rn 2 E (BT h E (λh=>AJ (i (sj h) _ (AX E))) λh=>Ci (t _ _ h (AX E)))))))))));(BT h E (λh=>rg (AY 3 E (w h _ (AX E)))) λh=>Ci (w h _ (AX E))))))))))
def Q6(a:(zU×Int)->Option (zU))(b:Int)(c:zU)(d:zU):Option (zU):=chk (List.length d+List.length c<=lim)<|a ((d++c),(wZ<|b+1))
def Q4(a:List zU)(b:zU)(c:(zU×Int)->Option (zU))(d:zU×Int):Option (zU):=match d with
  |(e,f)=>cond (decide (f < (a.length:Int))) (Aa (AU a f) λg=>cond (decide (0 < f)) (chk (List.length e+List.length b<=lim)<|Q6 c f g<|e++b)<|Q6 c f g e)<|some e
def VZ(a:List zU)(b:zU):Option (zU):=Aa (Ay (Q4 a b) fz ([],0)) λc=>some c
instance{a:List zU}{b:zU}:Xs (Q4 a b) (λ(n,o)=>[(5,.str n),(10,nI o)]) [1,8,9]:=⟨⟩
instance c7{a:List zU}{b:zU}:Qe 141 (VZ a b) [dL cst a,.str b] (λc=>.str c):=sX [] [] [] func141
def Qq(a:zI)(b:(List zU×Int)->Option (List zU))(c:(List zU)×Int):Option (List zU):=match c with
  |(d,e)=>cond (decide (e < (a.length:Int))) (Aa (AU a e) λf=>Aa (Og f) λg=>chk (List.length d+List.length [g]<=lim)<|b ((d++[g]),(wZ<|e+1)))<|some d
def P2(a:zI)(b:zU):Option (zU):=Aa (Ay (Qq a) fz (([]:List zU),0)) λc=>Aa (VZ c b) λd=>some d
instance{a:zI}:Xs (Qq a) (λ(p,q)=>[(5,oL 9 cst p),(10,nI q)]) [1,8,9]:=⟨⟩
instance am{a:zI}{b:zU}:Qe 57 (P2 a b) [dL Am a,.str b] (λc=>.str c):=sX [] [] [(5,[14])] func57
def NX(a:Int):Option (zU):=Aa (Eh a 0 4) λb=>cond (!b) (some [])<|chk ((0:Int)<=a∧a<=wZ (a+1)∧wZ (a+1)<=(List.length [88,89,90,85,86]:Int))<|some<|CZ [88,89,90,85,86] a<|wZ<|a+1
instance YX{a:Int}:Qe 142 (NX a) [nI a] (λb=>.str b):=sX [] [] [] func142
def P3(a:zI)(b:(zU×Int)->Option (zU))(c:zU×Int):Option (zU):=match c with
  |(d,e)=>cond (decide (e < (a.length:Int))) (Aa (AU a e) λf=>Aa (NX f) λg=>chk (List.length d+List.length g<=lim)<|b ((d++g),(wZ<|e+1)))<|some d
def Q7(a:zI):Option (zU):=Aa (Ay (P3 a) fz ([],0)) λb=>some b
instance{a:zI}:Xs (P3 a) (λ(m,n)=>[(3,.str m),(8,nI n)]) [6,7]:=⟨⟩
instance XB{a:zI}:Qe 59 (Q7 a) [dL Am a] (λb=>.str b):=sX [] [] [] func59
def FM(a:(List zU×Int)->Option (List zU))(b:List zU)(c:Int)(d:zU):Option (List zU):=chk (List.length b+List.length [d]<=lim)<|a ((b++[d]),(wZ<|c+1))
def FL(a:Sy)(b:(List zU×Int)->Option (List zU))(c:(List zU)×Int):Option (List zU):=match c with
  |(d,e)=>cond (decide (e < (a.1.length:Int))) (Aa (AU a.1 e) λf=>Aa (Q7 f) λg=>chk (List.length [40]+List.length g<=lim)<|chk (List.length ([40]++g)+List.length [41]<=lim)<|Aa (AU a.2 e) λi=>cond (decide (0<=i)) (Aa (AU a.2 e) λj=>Aa (Og j) λk=>chk (List.length (([40]++g)++[41])+List.length k<=lim)<|FM b d e<|(([40]++g)++[41])++k)<|FM b d e<|([40]++g)++[41])<|some d
def Ix(a:Sy):Option (zU):=cond ((a.1.length:Int)!=(a.2.length:Int)) (some [])<|Aa (Ay (FL a) fz (([]:List zU),0)) λb=>Aa (VZ b [32]) λc=>some c
instance{a:Sy}:Xs (FL a) (λ(p,q)=>[(4,oL 9 cst p),(19,nI q)]) [3,17,18]:=⟨⟩
instance Uj{a:Sy}:Qe 58 (Ix a) [.agg (PY a)] (λb=>.str b):=sX [1,3] [] [(7,[23]),(11,[42])] func58
def Io(a:DA)(b:bf):Option (zU):=Aa (J0 a b) λc=>cond (!c) (some [])<|Aa (HY b.1) λd=>chk (List.length d+List.length [32]<=lim)<|cond (b.1==1) (Aa (P2 b.2.2.1 [32]) λe=>chk (List.length (d++[32])+List.length e<=lim)<|some<|(d++[32])++e)<|cond (b.1==2) (Aa (Ix b.2.2.2) λf=>chk (List.length (d++[32])+List.length f<=lim)<|some<|(d++[32])++f)<|chk (List.length (d++[32])+List.length [40]<=lim)<|Aa (Q7 b.2.1) λg=>chk (List.length ((d++[32])++[40])+List.length g<=lim)<|chk (List.length (((d++[32])++[40])++g)+List.length [41]<=lim)<|some<|(((d++[32])++[40])++g)++[41]
instance Ui{a:DA}{b:bf}:Qe 16 (Io a b) [.agg (Cl a),.agg (Nu b)] (λc=>.str c):=sX [2,3] [] [] func16
def Lj(a:(Int)->Option (zU))(b:Int):Option (zU):=cond (decide (b<=(-10))) (Aa (a<|wZ<|0 - (wZ<|Int.tdiv b 10)) λc=>chk (List.length [45]+List.length c<=lim)<|Aa (a<|wZ<|0 - (Int.tmod b 10)) λd=>chk (List.length ([45]++c)+List.length d<=lim)<|some<|([45]++c)++d)<|cond (decide (b < 0)) (Aa (a<|wZ<|0 - b) λe=>chk (List.length [45]+List.length e<=lim)<|some<|[45]++e)<|cond (decide (b < 10)) (some<|bytesOf [IntKind.u8.wrap (wZ<|48+b)])<|Aa (a<|wZ<|Int.tdiv b 10) λf=>chk (List.length f+List.length (bytesOf [IntKind.u8.wrap (wZ<|48+(Int.tmod b 10))])<=lim)<|some<|f++(bytesOf [IntKind.u8.wrap (wZ<|48+(Int.tmod b 10))])
def UH(a:Int):Option (zU):=Ay Lj fz a
instance aU{a:Int}:Qe 143 (UH a) [nI a] (λb=>.str b):=Qe.mk @λb h=>by
 suffices c:∀d (a:Int) (b:zU),Ay Lj d a=some b->Bf 143 [nI a] (.str b)from c fz a b h
 refineλd=>?_
 induction d with
 |zero=>intro a b h;cases h
 |succ d e=>
  intro a b h
  have ih:∀{a:Int}{b:zU},Ay Lj d a=some b->Bf 143 [nI a] (.str b):=λh=>e _ _ h
  change Lj (Ay Lj d) a=some b at h
  exact st Af8 E (rn 1 E (GC E λf=>BT h E (λh=>rs (sp 3 E (A8 h λg i h=>qC (qs E AT) (ih i) (D9 h λj h=>qB E j E (sp 3 E (A8 h λk m h=>qC (qs E AT) (ih m) (D9 h λn h=>qB E n E (AY 1 E (sj h ▸ Ap rZ))))))))) λh=>Cf f (GC E λo=>BT h E (λh=>rs (sp 2 E (A8 h λp q h=>qC (qs E AT) (ih q) (D9 h λr h=>qB E r E (AY 1 E (qk [2] E (sj h ▸ Ap rZ))))))) λh=>Cf o (GC E λs=>BT h E (λh=>rs (sp 3 E (Gi Lo [IntKind.u8.wrap (wZ (48+a))] E E E qq (qCs (l:=[IntKind.u8.wrap (wZ (48+a))]) E E E E (AY 1 E (sj h ▸ Ap rZ)))))) λh=>Cf s (rd kh (sd 2 E (A8 h λt u h=>ed E (qC (qs E AT) (ih u) (sd 4 E (ed E (Gi Lo [IntKind.u8.wrap (wZ (48+(Int.tmod a 10)))] E E E qq (ed E (qCs (l:=[IntKind.u8.wrap (wZ (48+(Int.tmod a 10)))]) E E E E (D9 h λv h=>ed E (qB E v E (sd 1 E (CN (sj h ▸ Ap rZ))))))))))))))))))
def Ns(a:(zU×Int)->Option (zU))(b:zI)(c:Int)(d:zU):Option (zU):=Aa (AU b c) λe=>Aa (UH e) λf=>chk (List.length d+List.length f<=lim)<|a ((d++f),(wZ<|c+1))
def Nr(a:zI)(b:(zU×Int)->Option (zU))(c:zU×Int):Option (zU):=match c with
  |(d,e)=>cond (decide (e < (a.length:Int))) (cond (decide (0 < e)) (chk (List.length d+List.length [32]<=lim)<|Ns b a e<|d++[32])<|Ns b a e d)<|some d
def TR(a:zI):Option (zU):=Aa (Ay (Nr a) fz ([],0)) λb=>some b
instance{a:zI}:Xs (Nr a) (λ(m,n)=>[(3,.str m),(4,nI n)]) [0]:=⟨⟩
instance g9{a:zI}:Qe 60 (TR a) [dL Am a] (λb=>.str b):=sX [] [] [] func60
def FO(a:(zU×Int)->Option (zU))(b:Int)(c:zU):Option (zU):=a (c,(wZ<|b+1))
def FN(a:(zU×Int)->Option (zU))(b:Sy)(c:Int)(d:zU):Option (zU):=Aa (AU b.1 c) λe=>Aa (OI e) λf=>chk (List.length d+List.length f<=lim)<|Aa (AU b.2 c) λg=>cond (decide (0<=g)) (Aa (AU b.2 c) λi=>Aa (UH i) λj=>chk (List.length (d++f)+List.length j<=lim)<|FO a c<|(d++f)++j)<|FO a c<|d++f
def ES(a:Sy)(b:(zU×Int)->Option (zU))(c:zU×Int):Option (zU):=match c with
  |(d,e)=>cond (decide (e < (a.1.length:Int))) (cond ((a.1.length:Int)==(a.2.length:Int)) (cond (decide (0 < e)) (chk (List.length d+List.length [32]<=lim)<|FN b a e<|d++[32])<|FN b a e d)<|some d)<|some d
def IF(a:Sy):Option (zU):=Aa (Ay (ES a) fz ([],0)) λb=>some b
instance{a:Sy}:Xs (ES a) (λ(m,n)=>[(3,.str m),(4,nI n)]) [1]:=⟨⟩
instance UE{a:Sy}:Qe 61 (IF a) [.agg (PY a)] (λb=>.str b):=sX [1] [] [] func61
def Pa(a:DA)(b:bf):Option (zU):=Aa (Iu a b) λc=>cond (!c) (some [])<|cond (b.1==1) (Aa (TR b.2.2.1) λd=>chk (List.length [116,114,101,101,32]+List.length d<=lim)<|some<|[116,114,101,101,32]++d)<|cond (b.1==2) (Aa (IF b.2.2.2) λe=>chk (List.length [98,97,103,115,32]+List.length e<=lim)<|some<|[98,97,103,115,32]++e)<|Aa (OI b.2.1) λf=>chk (List.length [108,101,97,112,32]+List.length f<=lim)<|some<|[108,101,97,112,32]++f
instance ZN{a:DA}{b:bf}:Qe 17 (Pa a b) [.agg (Cl a),.agg (Nu b)] (λc=>.str c):=sX [2,3] [] [] func17
def H6(a:Bool):Option Bool:=some a
def Nk(a:(List En)×DA×bf)(b:Bool):Option Bool:=cond b (some false)<|Aa (Ru a.1 a.2.1) λc=>Aa (P0 a.2.1 c.1) λd=>cond (!c.2) (H6 true)<|cond d.2 (Aa (Iu a.2.1 d.1) λe=>cond e (Aa (HY d.1.1) λf=>cond (!(f==[])) (Aa (Io a.2.1 d.1) λg=>cond (!(g==[])) (Aa (Io a.2.1 a.2.2) λi=>Aa (Pa a.2.1 a.2.2) λj=>H6<|i==j)<|H6 false)<|H6 false)<|H6 false)<|H6 false
def Jt(a:(List En)×DA×bf)(b:FH×Bool)(c:Bool):Option Bool:=cond c (some false)<|Aa (It a.1 a.2.1) λd=>cond b.2 (Aa (LN b.1 d.1) λe=>Nk a (!e))<|Nk a false
def TK(a:zI):Option Bool:=Aa (aw a) λb=>cond b (some true)<|Aa (O9 a) λc=>Aa (TG c.1 c.2.1 c.2.2) λd=>Aa (J0 c.2.1 c.2.2) λe=>Aa (Iu c.2.1 c.2.2) λf=>cond (!(e==f)) (Jt c d true)<|Aa (Iu c.2.1 c.2.2) λg=>cond g (Aa (Jw c.1 c.2.1) λi=>Jt c d (!(d.2==i)))<|Jt c d (!(d.2==false))
instance fO{a:zI}:Qe 3 (TK a) [dL Lo a] (λb=>.bool b):=Qe.mk @λb h=>by
 refine sta AnC E (TA (IH (λ_=>E) _) E) (dV (Oc (λ_=>E) _) E) E (rn 1 E (CL λc=>rs (sp 1 E (?_))))
 exact A8 h λd e h=>qC (qa E (KC AeK _) AT) (pC.s e) (OR (BT h E (λh=>rn 1 E (sj h ▸ Ap rZ)) λh=>Cf c (rs (sp 1 E (A8 h λf g h=>qCk E E (ZM.s g) (AY 10 E (rs (sp 3 E (A8 h λi j h=>qC (qa E (CM (Ba (BE Z9 _) E)) (qa E (CM (Ba E (Ba (KC II _) (Ba (KC AG _) E)))) (qa E (CM (Ba E (Ba (BE AG _) (Ba (BE AG _) (Ba (BE Dg _) (Ba (BE AG _) E)))))) AT))) (fI.s j) (AY 6 E (qk [3,4,5,6,7] E (CL λk=>rdk kh λl m=>have n:∀{o:Bool},Jt f i o=some b->Jn l [(3,.box [oL 123 KM f.1]),(4,.box [nI f.2.1.1,aL Ha f.2.1.2.1,aL Am f.2.1.2.2]),(5,.box [nI f.2.2.1,oL 3 Am f.2.2.2.1,oL 3 Am f.2.2.2.2.1,dL BL f.2.2.2.2.2.1,oL 3 Am f.2.2.2.2.2.2]),(6,.box [nI i.1.1,oL 28 AS i.1.2]),(7,.bool i.2),(47,.bool o)]:=@λo h _ p=>m _ (lh p E (BT h E (λh=>rn 1 E (sj h ▸ Ap rZ)) λh=>Cf k (rs (sp 2 E (A8 h λq r h=>qC (qa E (CM (Ba (BE Z9 _) E)) (qa E (CM (Ba E (Ba (KC II _) (Ba (KC AG _) E)))) AT)) (XS.s r) (AY 6 E (CL λs=>rk λt u=>have v:∀{w:Bool},Nk f w=some b->Jn t [(3,.box [oL 123 KM f.1]),(4,.box [nI f.2.1.1,aL Ha f.2.1.2.1,aL Am f.2.1.2.2]),(5,.box [nI f.2.2.1,oL 3 Am f.2.2.2.1,oL 3 Am f.2.2.2.2.1,dL BL f.2.2.2.2.2.1,oL 3 Am f.2.2.2.2.2.2]),(60,.bool w)]:=@λw h _ p=>u _ (lh p E (BT h E (λh=>rn 1 E (sj h ▸ Ap rZ)) λh=>Cf s (rs (sp 2 E (A8 h λx y h=>qC (qa E (CM (Ba (BE Z9 _) E)) (qa E (CM (Ba E (Ba (KC II _) (Ba (KC AG _) E)))) AT)) (cK.s y) (AY 5 E (rs (sp 2 E (A8 h λz A h=>qC (qa E (CM (Ba E (Ba (KC II _) (Ba (KC AG _) E)))) (qa E (BE AG _) AT)) (aj.s A) (AY 6 E (rdk kh λB C=>have D:∀{F:Bool},H6 F=some b->Jn B [(2,.bool F)]:=@λF h _ p=>C _ (lh p E (sj h ▸ Ap rZ));(sd 3 E (Eo h (λH h=>I5 75 H E (sd 29 E (CN (D h _ (AX E))))) λH h=>I5 75 H E (sd 2 E (Eo h (λI h=>I5 77 I E (sd 2 E (A8 h λJ K h=>ed E (EN E E (qC (qa E (CM (Ba E (Ba (KC II _) (Ba (KC AG _) E)))) (qa E (CM (Ba E (Ba (BE AG _) (Ba (BE AG _) (Ba (BE E3 _) (Ba (BE AG _) E)))))) AT)) (M5.s K) (sd 2 E (Eo h (λL h=>I5 82 L E (sd 2 E (A8 h λM N h=>ed E (EN E E (qC (qs E AT) (RS.s N) (sd 3 E (Eo h (λO h=>I5 88 O E (sd 2 E (A8 h λP Q h=>ed E (EN E E (qC (qa E (CM (Ba E (Ba (KC II _) (Ba (KC AG _) E)))) (qa E (CM (Ba E (Ba (BE AG _) (Ba (BE AG _) (Ba (BE E3 _) (Ba (BE AG _) E)))))) AT)) (Ui.s Q) (sd 3 E (Eo h (λR h=>I5 94 R E (sd 2 E (A8 h λS T h=>ed E (EN E E (qC (qa E (CM (Ba E (Ba (KC II _) (Ba (KC AG _) E)))) (qa E (CM (Ba E (Ba (BE AG _) (Ba (BE AG _) (Ba (BE Dg _) (Ba (BE AG _) E)))))) AT)) (Ui.s T) (sd 2 E (A8 h λU V h=>ed E (EN E E (qC (qa E (CM (Ba E (Ba (KC II _) (Ba (KC AG _) E)))) (qa E (CM (Ba E (Ba (BE AG _) (Ba (BE AG _) (Ba (BE Dg _) (Ba (BE AG _) E)))))) AT)) (ZN.s V) (sd 4 E (CN (D h _ (AX E))))))))))))) λR h=>I5 94 R E (sd 10 E (CN (D h _ (AX E))))))))))) λO h=>I5 88 O E (sd 16 E (CN (D h _ (AX E))))))))))) λL h=>I5 82 L E (sd 22 E (CN (D h _ (AX E))))))))))) λI h=>I5 77 I E (sd 27 E (CN (D h _ (AX E)))))))))))))))))));(sp 2 E (Eo h (λW h=>qg 55 W E (sp 2 E (A8 h λX Y h=>EN E E (qC (qa E (CM (Ba E (Ba (BE E3 _) E))) (qa E (CM (Ba E (Ba (BE E3 _) E))) AT)) (W6.s Y) (AY 2 E (v h _ (AX E))))))) λW h=>qg 55 W E (AY 5 E (v h _ (AX E))))))))))));(sd 2 E (A8 h λZ a h=>ed E (qC (qa E (CM (Ba E (Ba (KC II _) (Ba (KC AG _) E)))) (qa E (CM (Ba E (Ba (BE AG _) (Ba (BE AG _) (Ba (BE Dg _) (Ba (BE AG _) E)))))) AT)) (Um.s a) (sd 2 E (A8 h λd c h=>ed E (qC (qa E (CM (Ba E (Ba (KC II _) (Ba (KC AG _) E)))) (qa E (CM (Ba E (Ba (BE AG _) (Ba (BE AG _) (Ba (BE Dg _) (Ba (BE AG _) E)))))) AT)) (M5.s c) (sd 2 E (Eo h (λe h=>I5 36 e E (sd 11 E (CN (n h _ (AX E))))) λe h=>I5 36 e E (sd 3 E (A8 h λg j h=>ed E (EN E E (qC (qa E (CM (Ba E (Ba (KC II _) (Ba (KC AG _) E)))) (qa E (CM (Ba E (Ba (BE AG _) (Ba (BE AG _) (Ba (BE Dg _) (Ba (BE AG _) E)))))) AT)) (M5.s j) (sd 1 E (Eo h (λi h=>I5 41 i E (sd 2 E (A8 h λl o h=>ed E (EN E E (qC (qa E (CM (Ba (BE Z9 _) E)) (qa E (CM (Ba E (Ba (KC II _) (Ba (KC AG _) E)))) AT)) (N4.s o) (sd 3 E (CN (n h _ (AX E))))))))) λi h=>I5 41 i E (sd 6 E (CN (n h _ (AX E))))))))))))))))))))))))))))))
def XW(a:FH):Option FH:=some a
def Si(a:FH):Option Bool:=Aa (XW a) λb=>Aa (Fn b) λc=>some c
def CJ(a:FH)(b:zI)(c:Int->Option Int)(d:Int):Option Int:=cond (decide (d < (a.2.length:Int))) (Aa (AU a.2 d) λe=>chk ((0:Int)<=0∧0<=(b.length:Int)∧(b.length:Int)<=(e.length:Int))<|Aa (Gj (CZ e 0 (b.length:Int)) b) λf=>cond (decide (f < 0)) (c<|wZ<|d+1)<|some d)<|some d
def CK(a:FH)(b:zI)(c:Int->Option Int)(d:Int):Option Int:=cond (decide (d < (a.2.length:Int))) (Aa (AU a.2 d) λe=>chk ((0:Int)<=0∧0<=(b.length:Int)∧(b.length:Int)<=(e.length:Int))<|Aa (Gj (CZ e 0 (b.length:Int)) b) λf=>cond (f==0) (c<|wZ<|d+1)<|some d)<|some d
def Hz(a:FH)(b:zI):Option (Int×Int):=Aa (Si a) λc=>cond (!c) (some (0,0))<|cond (decide (a.1 < (b.length:Int))) (some (0,0))<|Aa (Ay (CJ a b) fz 0) λd=>Aa (Ay (CK a b) fz d) λe=>some (d,e)
def I1(a:(zI×Int)->Option (zI))(b:Int)(c:zI):Option (zI):=a (c,(wZ<|b+1))
def Hy(a:(zI×Int)->Option (zI))(b:zI)(c:Int)(d:Int)(e:Bool):Option (zI):=cond e (chk (List.length b+List.length [d]<=lim)<|I1 a c<|b++[d])<|I1 a c b
def EJ(a:FH)(b:zI)(c:Int×Int)(d:(zI×Int)->Option (zI))(e:zI×Int):Option (zI):=match e with
  |(f,g)=>cond (decide (g < c.2)) (cond (decide ((b.length:Int) < a.1)) (Aa (AU a.2 g) λi=>Aa (AU i (b.length:Int)) λj=>cond ((f.length:Int)==0) (Hy d f g j true)<|Aa (AU f<|wZ<|(f.length:Int) - 1) λk=>Hy d f g j<|k !=j)<|some f)<|some f
def Li(a:FH)(b:zI):Option (zI):=Aa (Hz a b) λc=>Aa (Ay (EJ a b c) fz (([]:zI),c.1)) λd=>some d
end
section
def eD{B:(Int->zS)->Int->zS}{n:Nat}(a:Nat->Bool){M:Nat}(l:n < M)(o:∀k,k < n->∀b,B b (k:Int)=cond (a k) (some<|.inr false) (b ((k+1:Nat):Int)))(p:∀b,B b (n:Int)=some (.inl ())):
  Ay B M 0=some (cond ((List.range n).any a) (.inr false)<|.inl ()):=by
 have e:∀d k,k+d=n->(∀j,j < k->a j=false)->∀m,d < m->Ay B m (k:Int)=some (cond ((List.range n).any a) (.inr false)<|.inl ()):=by
  intro d;induction d with
  |zero=>
   intro k q f m r;cases m with
   |zero=>omega
   |succ m=>
    have g:k=n:=aG;have:(List.range n).any a=false:=by rw[BU];intro x s;rw[f x (by have:=Ao.1 s;omega)];simp
    show B (Ay B m) (k:Int)=_;rw[g,p,this];rfl
  |succ d t=>
   intro k q f m r;cases m with
   |zero=>omega
   |succ m=>
    show B (Ay B m) (k:Int)=_;rw[o k aG];cases c:a k with
    |true=>
     have:(List.range n).any a=true:=by rw[BR];exact⟨k,Ao.2 aG,c⟩
     rw[this];rfl
    |false=>
     exact t (k+1) aG (λj i=>by
      rcases Bi j k with h|h
      ·exact f j h
      ·rw[show j=k by omega];exact c) m aG
 have:=e n 0 aG (λj i=>absurd i aG) M l;simpa using this
def Ew{B:(Int->zS)->Int->zS}{n:Nat}(b:Nat->Bool)(c:n<=lim)(d:∀k,k < n->∀a,B a (k:Int)=cond (b k) (some<|.inr false) (a ((k+1:Nat):Int)))(e:∀a,B a (n:Int)=some (.inl ())):
  Ay B fz 0=some (cond ((List.range n).any b) (.inr false)<|.inl ()):=eD b (Dp c) d e
def Bq{k n:Nat}(h:k < n):decide ((k:Int) < (n:Int))=true:=Ak aG
def Bh(n:Nat):decide ((n:Int) < (n:Int))=false:=Ah aG
def HJ{α:Type}(l:List α)(k:Nat)(f:α->Bool):Bool:=match l[k]? with
 |some e=>f e
 |none=>false
def B5{α:Type}{l k}(h:k < l.length)(f:α->Bool):HJ l k f=f l[k]:=by unfold HJ;rw[Af h]
def BK{α:Type}(l:List α)(f:Nat->α->Bool):Bool:=(List.range l.length).any λk=>HJ l k<|f k
def HH(x lo hi:Int):Bool:=decide (lo<=x)&&decide (x<=hi)
def Sg(x lo hi:Int):H3 x lo hi=some (HH x lo hi):=by unfold H3 TQ HH;cases decide (lo<=x)<;>rfl
def Ig(x lo hi:Int):Eh x lo hi=some (HH x lo hi):=by unfold Eh Rh HH;cases decide (lo<=x)<;>rfl
def Qg(l:zI):Bool:= !BK l λ_ e=> !HH e 0 99
def AdC{l:zI}(h:l.length<=lim):JH l=some (Qg l):=by unfold JH Qg BK;rw[Ew (λk=>HJ l k λe=> !HH e 0 99) h (λk a b=>by unfold M0;rw[Bq a,AV a,BA a (Bk h),B5 a];simp only[Ac,Aa,Sg]) (λrec=>by unfold M0;rw[Bh];rfl)];cases(List.range l.length).any λk=>HJ l k λe=> !HH e 0 99<;>rfl
def Ac2{l:zI}(h:l.length<=lim):Jy l=some (Qg l):=by unfold Jy Qg BK;rw[Ew (λk=>HJ l k λe=> !HH e 0 99) h (λk a b=>by unfold MJ;rw[Bq a,AV a,BA a (Bk h),B5 a];simp only[Ac,Aa,Ig]) (λrec=>by unfold MJ;rw[Bh];rfl)];cases(List.range l.length).any λk=>HJ l k λe=> !HH e 0 99<;>rfl
def DV:zI->zI->Int
 |[],[]=>0
 |[],_::_=> -1
 |_::_,[]=>1
 |x::xs,y::a=>if x < y then -1 else if y < x then 1 else DV xs a
def my{B:(Int->Option (Sum Unit Int))->Int->Option (Sum Unit Int)}{a b:zI}(t:a.length<=lim)
  (u:∀k (l:k < a.length) (v:k < b.length),∀e,B e (k:Int)=if a[k] < b[k]then some (.inr (-1))else if b[k] < a[k]then some (.inr 1)else e ((k+1:Nat):Int))
  (n:∀k:Nat,¬(k < a.length∧k < b.length)->∀e,B e (k:Int)=some (.inl ())):
  ∃o,Ay B fz 0=some o∧((∃r,o=.inr r∧DV a b=r)∨(o=.inl ()∧DV a b=if a.length < b.length then -1 else if b.length < a.length then 1 else 0)):=by
 have i:∀d k,k+d=a.length->k<=b.length->DV a b=DV (a.drop k) (b.drop k)->∀m,d < m->∃o,Ay B m (k:Int)=some o∧((∃r,o=.inr r∧DV a b=r)∨(o=.inl ()∧DV a b=if a.length < b.length then -1 else if b.length < a.length then 1 else 0)):=by
  intro d;induction d with
  |zero=>
   intro k l j c m w;cases m with
   |zero=>omega
   |succ m=>
    refine⟨.inl (),n k aG _,.inr ⟨rfl,?_⟩⟩;rw[c,DR (aG:a.length<=k)];rcases Bi k b.length with h|h
    ·rw[BQ h,Az aG];rfl
    ·rw[DR h,AA aG,AA aG];rfl
  |succ d x=>
   intro k l j c m w;cases m with
   |zero=>omega
   |succ m=>
    have f:k < a.length:=aG;rcases Bi k b.length with h|h
    ·have g:=u k f h (Ay B m);rw[BQ f,BQ h,DV]at c;by_cases q:a[k] < b[k]
     ·rw[Az q]at g c;exact⟨_,g,.inl ⟨_,rfl,c⟩⟩
     ·rw[AA q]at g c;by_cases s:b[k] < a[k]
      ·rw[Az s]at g c;exact⟨_,g,.inl ⟨_,rfl,c⟩⟩
      ·rw[AA s]at g c;obtain⟨o,e2,p⟩:=x (k+1) aG aG c m aG;exact⟨o,g.trans e2,p⟩
    ·refine⟨.inl (),n k aG _,.inr ⟨rfl,?_⟩⟩;rw[c,BQ f,DR h,AA aG,Az aG];rfl
 exact i a.length 0 aG aG nF fz<|Dp t
def XM{a b:zI}(j:a.length<=lim):Gj a b=some (DV a b):=by
 unfold Gj
 obtain⟨o,e,p⟩:=my (B:=LM a b) j (λk g f h=>by
   unfold LM;rw[Bq g,Bq f,AV g,AV f,BA g (Bk j)];simp only[Ac,Aa];by_cases c:a[k] < b[k]
   ·rw[Ak c,Az c];rfl
   ·rw[Ah c,AA c];by_cases d:b[k] < a[k]
    ·rw[Ak d,Az d];rfl
    ·rw[Ah d,AA d];rfl) (λk g h=>by
   unfold LM;by_cases q:k < a.length
   ·rw[Bq q,Ah (aG:¬(k:Int) < (b.length:Int))];rfl
   ·rw[Ah (aG:¬(k:Int) < (a.length:Int))];rfl)
 rw[e];rcases p with⟨r,rfl,i⟩|⟨rfl,i⟩
 ·rw[i];rfl
 ·simp only[Aa];rw[i];by_cases c:a.length < b.length
  ·rw[Az c,Ak aG];rfl
  ·rw[AA c,Ah aG];by_cases d:b.length < a.length
   ·rw[Az d,Ak aG];rfl
   ·rw[AA d,Ah aG];rfl
def ph(x y:Int):J3 x y=some (if x < y then -1 else if y < x then 1 else 0):=by
 unfold J3;by_cases a:x < y
 ·rw[Ak a,Az a];rfl
 ·rw[Ah a,AA a];by_cases b:y < x
  ·rw[Ak b,Az b];rfl
  ·rw[Ah b,AA b];rfl
def jd{a b:zI}(j:a.length<=lim):In a b=some (DV a b):=by
 unfold In
 obtain⟨o,e,p⟩:=my (B:=LE a b) j (λk g d h=>by
   unfold LE;rw[Bq g,Bq d,AV g,AV d,BA g (Bk j)];simp only[Ac,Aa,ph];by_cases c:a[k] < b[k]
   ·have:(a[k]!=b[k])=true:=by simp;omega
    simp only[this,Az c,Ac]
   ·by_cases f:b[k] < a[k]
    ·have:(a[k]!=b[k])=true:=by simp;omega
     simp only[this,AA c,Az f,Ac]
    ·have:(a[k]!=b[k])=false:=by simp;omega
     simp only[this,AA c,AA f,Ad]) (λk g h=>by
   unfold LE;by_cases q:k < a.length
   ·rw[Bq q,Ah (aG:¬(k:Int) < (b.length:Int))];rfl
   ·rw[Ah (aG:¬(k:Int) < (a.length:Int))];rfl)
 rw[e];rcases p with⟨r,rfl,i⟩|⟨rfl,i⟩
 ·rw[i];rfl
 ·simp only[Aa,ph];rw[i];by_cases c:a.length < b.length
  ·rw[Az c,Az aG]
  ·rw[AA c,AA aG];by_cases f:b.length < a.length
   ·rw[Az f,Az aG]
   ·rw[AA f,AA aG]
def Tm(a:Int)(rows:List zI)(k:Nat)(r:zI):Bool:=((r.length:Int)!=a) || !Qg r || (decide (0 < k)&&HJ rows (k - 1) λq=>decide (0<=DV q r))
def Ml(r:Int×List zI):Bool:=HH r.1 0 5&&(!decide (4000 < (r.2.length:Int))&& !BK r.2 (Tm r.1 r.2))
def ZT{k n:Nat}(h:k < n)(b:0 < k)(a:n<=maxLen):wZ ((k:Int) - 1)=((k - 1:Nat):Int):=by rw[wrap_in (by unfold maxLen at a;omega)];omega
def GQ(l:List zI):Prop:=l.length<=lim∧∀r∈l,r.length<=lim
def ti{r:Int×List zI}(h:GQ r.2):Fn r=some (Ml r):=by
 unfold Fn Ml BK;simp only[Sg,Aa];cases HH r.1 0 5 with
 |false=>rfl
 |true=>
  cases decide (4000 < (r.2.length:Int))with
  |true=>rfl
  |false=>
   simp only[Au,Cq,Ad,AK]
   rw[Ew (λk=>HJ r.2 k (Tm r.1 r.2 k)) h.1 (λk b d=>by
    have e:=h.2 _<|Ae b;unfold Jp FU;rw[Bq b,AV b,BA b (Bk h.1),B5 b];simp only[Ac,Aa,AdC e,Tm];cases f:((r.2[k].length:Int)!=r.1)with
    |true=>rfl
    |false=>
     cases g:Qg r.2[k]with
     |false=>rfl
     |true=>
      by_cases c:0 < k
      ·have a:k - 1 < r.2.length:=aG;rw[ZT b c (Bk h.1),AV a,B5 a,Ak (aG:(0:Int) < (k:Int)),Ak c];simp only[Ac,Ad,Au,Cg,AK,XM (h.2 _<|Ae a)]
      ·rw[Ah (aG:¬(0:Int) < (k:Int)),Ah c];rfl) (λrec=>by unfold Jp;rw[Bh];rfl)]
   cases(List.range r.2.length).any λk=>HJ r.2 k (Tm r.1 r.2 k)<;>rfl
def fF{r:Int×List zI}(h:GQ r.2):EB r=some (Ml r):=by
 unfold EB Ut Ml BK;simp only[Ig,Aa];cases HH r.1 0 5 with
 |false=>rfl
 |true=>
  cases decide (4000 < (r.2.length:Int))with
  |true=>rfl
  |false=>
   simp only[Au,Cq,Ad,AK]
   rw[Ew (λk=>HJ r.2 k (Tm r.1 r.2 k)) h.1 (λk b d=>by
    have e:=h.2 _<|Ae b;unfold NZ Jh;rw[Bq b,AV b,BA b (Bk h.1),B5 b];simp only[Ac,Aa,Ac2 e,Tm];cases f:((r.2[k].length:Int)!=r.1)with
    |true=>rfl
    |false=>
     cases g:Qg r.2[k]with
     |false=>rfl
     |true=>
      by_cases c:0 < k
      ·have a:k - 1 < r.2.length:=aG;rw[ZT b c (Bk h.1),AV a,B5 a,Ak (aG:(0:Int) < (k:Int)),Ak c];simp only[Ac,Ad,Au,Cg,AK,jd (h.2 _<|Ae a)]
      ·rw[Ah (aG:¬(0:Int) < (k:Int)),Ah c];rfl) (λrec=>by unfold NZ;rw[Bh];rfl)]
   cases(List.range r.2.length).any λk=>HJ r.2 k (Tm r.1 r.2 k)<;>rfl
def nmB(s:zU):Bool:=HH (s.length:Int) 1 4&& !BK s λ_ b=>decide ((UInt8.toNat b:Int) < 97) || decide (122 < (UInt8.toNat b:Int))
def yU{s:zU}(h:s.length<=lim):Mq s=some (nmB s):=by unfold Mq nmB BK;rw[Ew (λk=>HJ s k λb=>decide ((UInt8.toNat b:Int) < 97) || decide (122 < (UInt8.toNat b:Int))) h (λk a c=>by unfold PB;rw[Bq a,AV a,BA a (Bk h),B5 a];simp only[Ac,Aa];cases decide ((UInt8.toNat s[k]:Int) < 97)<;>rfl) (λrec=>by unfold PB;rw[Bh];rfl)];cases(List.range s.length).any λk=>HJ s k λb=>decide ((UInt8.toNat b:Int) < 97) || decide (122 < (UInt8.toNat b:Int))<;>simp[Aa,Sg]
def wV{s}(h:s.length<=lim):LZ s=some (nmB s):=by
 unfold LZ Us nmB BK HH;by_cases c:(s.length:Int) < 1
 ·rw[Ak c,Ah (aG:¬(1:Int)<=(s.length:Int))];rfl
 ·rw[Ah c,Ak (aG:(1:Int)<=(s.length:Int))];by_cases d:4 < (s.length:Int)
  ·rw[Ak d,Ah (aG:¬(s.length:Int)<=4)];rfl
  ·rw[Ah d,Ak (aG:(s.length:Int)<=4)];simp only[Ad,Ga,AK];rw[Ew (λk=>HJ s k λb=>decide ((UInt8.toNat b:Int) < 97) || decide (122 < (UInt8.toNat b:Int))) h (λk a e=>by unfold Q1;rw[Bq a,AV a,BA a (Bk h),B5 a];simp only[Ac,Aa];cases decide ((UInt8.toNat s[k]:Int) < 97)<;>rfl) (λrec=>by unfold Q1;rw[Bh];rfl)];cases(List.range s.length).any λk=>HJ s k λb=>decide ((UInt8.toNat b:Int) < 97) || decide (122 < (UInt8.toNat b:Int))<;>rfl
abbrev N9:=zU×(Int×List zI)
def X3(d:List N9)(k:Nat)(t:N9):Bool:= !nmB t.1 || (decide (0 < k)&&HJ d (k - 1) λq=> !Op.bytesLess q.1 t.1) || !Ml t.2 || decide (16 < (t.2.2.length:Int)) || decide (t.2.1 < 1)
def dbB(d:List N9):Bool:=decide ((d.length:Int)<=6)&& !BK d (X3 d)
def Tn(d:List N9):Prop:=d.length<=lim∧∀t∈d,t.1.length<=lim∧GQ t.2.2
def Ail{d:List N9}(h:Tn d):IY d=some (dbB d):=by
 unfold IY dbB BK
 rw[Ew (λk=>HJ d k (X3 d k)) h.1 (λk a f=>by
  have e:=h.2 _<|Ae a;unfold Jl DK;rw[Bq a,AV a,BA a (Bk h.1),B5 a];simp only[Ac,Aa,yU e.1,ti e.2,X3];cases nmB d[k].1 with
  |false=>rfl
  |true=>
   by_cases c:0 < k
   ·have b:k - 1 < d.length:=aG;rw[ZT a c (Bk h.1),AV b,B5 b,Ak (aG:(0:Int) < (k:Int)),Ak c];simp only[Ac,Ad,Au,Cg,AK];cases Op.bytesLess d[k - 1].1 d[k].1<;>cases Ml d[k].2<;>cases decide (16 < (d[k].2.2.length:Int))<;>rfl
   ·rw[Ah (aG:¬(0:Int) < (k:Int)),Ah c];cases Ml d[k].2<;>cases decide (16 < (d[k].2.2.length:Int))<;>rfl) (λrec=>by unfold Jl;rw[Bh];rfl)]
 cases(List.range d.length).any λk=>HJ d k (X3 d k)<;>simp[Aa]
def Akk{d:List N9}(h:Tn d):IN d=some (dbB d):=by
 unfold IN dbB BK;by_cases e:6 < (d.length:Int)
 ·rw[Ak e,Ah (aG:¬(d.length:Int)<=6)];rfl
 rw[Ah e,Ak (aG:(d.length:Int)<=6),Ad,AK]
 rw[Ew (λk=>HJ d k (X3 d k)) h.1 (λk a g=>by
  have f:=h.2 _<|Ae a;unfold I9 DJ;rw[Bq a,AV a,BA a (Bk h.1),B5 a];simp only[Ac,Aa,wV f.1,fF f.2,X3];cases nmB d[k].1 with
  |false=>rfl
  |true=>
   by_cases c:0 < k
   ·have b:k - 1 < d.length:=aG;rw[ZT a c (Bk h.1),AV b,B5 b,Ak (aG:(0:Int) < (k:Int)),Ak c];simp only[Ac,Ad,Au,Cg,AK];cases Op.bytesLess d[k - 1].1 d[k].1<;>cases Ml d[k].2<;>cases decide (16 < (d[k].2.2.length:Int))<;>cases decide (d[k].2.1 < 1)<;>rfl
   ·rw[Ah (aG:¬(0:Int) < (k:Int)),Ah c];cases Ml d[k].2<;>cases decide (16 < (d[k].2.2.length:Int))<;>cases decide (d[k].2.1 < 1)<;>rfl) (λrec=>by unfold I9;rw[Bh];rfl)]
 cases(List.range d.length).any λk=>HJ d k (X3 d k)<;>rfl
def Kg{α β:Type}{a:List α}{h:α->β}{B:(List β×Int->Option (List β))->List β×Int->Option (List β)}(d:a.length<=lim)
  (e:∀k (c:k < a.length),∀b,B b ((a.take k).map h,(k:Int))=b ((a.take k).map h++[h a[k]],((k+1:Nat):Int))) (f:∀b y,B b (y,(a.length:Int))=some y):Ay B fz ([],0)=some (a.map h):=by
 have:=Cm (body:=B) (out:=a.map h) (λk=>((a.take k).map h,(k:Int))) a.length (λk c b=>by rw[e k c,A3 c,Br];rfl) (λrec=>by rw[f,AQ]) fz (Dp d);simpa using this
def iZ{α O:Type}{a:List α}{B:(Int->Option (Sum Unit O))->Int->Option (Sum Unit O)}(p:α->Bool)(g:α->O)(i:a.length<=lim)
  (j:∀k (h:k < a.length),∀b,B b (k:Int)=cond (p a[k]) (some<|.inr<|g a[k]) (b ((k+1:Nat):Int))) (l:∀b,B b (a.length:Int)=some (.inl ())):
  Ay B fz 0=some (match a.find? p with|some e=>.inr (g e)|none=>.inl ()):=by
 have f:∀d k,k+d=a.length->∀m,d < m->Ay B m (k:Int)=some (match(a.drop k).find? p with|some e=>.inr (g e)|none=>.inl ()):=by
  intro d;induction d with
  |zero=>
   intro k h m n;cases m with
   |zero=>omega
   |succ m=>show B (Ay B m) (k:Int)=_;rw[show k=a.length by omega,l,MU];rfl
  |succ d o=>
   intro k h m n;cases m with
   |zero=>omega
   |succ m=>
    have c:k < a.length:=aG;show B (Ay B m) (k:Int)=_;rw[j k c,BQ c,List.find?_cons];cases q:p a[k]with
    |true=>rfl
    |false=>exact o (k+1) aG m aG
 have:=f a.length 0 aG fz<|Dp i;simpa using this
def yR{r:Int×List zI}(h:GQ r.2):SY r=some r:=by unfold SY;rw[Kg (a:=r.2) (h:=id) h.1 (λk b c=>by have d:=h.2 _<|Ae b;unfold UJ;simp only;rw[Bq b,AV b,BA b (Bk h.1)];simp only[Ac,Aa];rw[AO (by simpa using d),AO (by simp only[Ai,AH,Aj];unfold lim at *;have:=h.1;unfold lim at this;omega)];simp) (λrec y=>by unfold UJ;simp only;rw[Bh];rfl)];simp[Aa]
def rT{l}(h:l.length<=lim):EP l=some l:=by unfold EP;rw[AO (by simpa using h)];simp
def rU{l:List zI}(h:GQ l):PN l=some l:=by unfold PN;rw[Kg (a:=l) (h:=id) h.1 (λk b c=>by have d:=h.2 _<|Ae b;unfold R7;simp only;rw[Bq b,AV b,BA b (Bk h.1)];simp only[Ac,Aa,rT d];rw[AO (by simp only[Ai,AH,Aj];unfold lim at *;have:=h.1;unfold lim at this;omega)];simp) (λrec y=>by unfold R7;simp only;rw[Bh];rfl)];simp[Aa]
def Ae9{r:Int×List zI}(h:GQ r.2):NY r=some r:=by unfold NY;simp[rU h,Aa]
def F2(d:List N9)(a:zU):(Int×List zI)×Bool:=if dbB d=true then(match d.find? (λt=>t.1==a)with|some t=>(t.2,true)|none=>((0,[]),false))else((0,[]),false)
def qb{d}(h:Tn d)(b:zU):H2 d b=some (F2 d b):=by
 unfold H2 F2;cases e:dbB d with
 |true=>rw[iZ (a:=d) (λt=>t.1==b) (λt=>(t.2,true)) h.1 (λk c f=>by have g:=h.2 _<|Ae c;unfold Gn;rw[Bq c,AV c,BA c (Bk h.1),Ail h,e];simp only[Ac,Aa,yR g.2]) (λrec=>by unfold Gn;rw[Bh];rfl)];simp only[Aa,FB];cases d.find? (λt=>t.1==b)<;>rfl
 |false=>
  have:Ay (Gn d b) fz 0=some (.inl ()):=by refine Cm (body:=Gn d b) (λ_=>0) 0 (λk c=>absurd c aG) (λrec=>?_) fz (by unfold fz;omega);unfold Gn;rw[Ail h,e];cases decide ((0:Int) < (d.length:Int))<;>rfl
  rw[this];rfl
def wT{d}(h:Tn d)(b:zU):Jz d b=some (F2 d b):=by
 unfold Jz JN F2;simp only[Akk h,Aa];cases g:dbB d with
 |true=>rw[iZ (a:=d) (λt=>t.1==b) (λt=>(t.2,true)) h.1 (λk c e=>by have f:=h.2 _<|Ae c;unfold MN;rw[Bq c,AV c,BA c (Bk h.1)];simp only[Ac,Aa,Ae9 f.2]) (λrec=>by unfold MN;rw[Bh];rfl)];simp only[Ac,FB];cases d.find? (λt=>t.1==b)<;>rfl
 |false=>rfl
def Iw(l:zI)(k:Nat)(e:Int):Bool:=decide (0 < k)&&HJ l (k - 1) λq=>decide (e<=q)
def Cn{S O:Type}(body:(S->Option O)->S->Option O)(n:Nat)(s:S):Ay body (n+1) s=body (Ay body n) s:=rfl
def VN(l:zI)(a:Int->zS)(i:Int):zS:=if i=0 then(if l.length=0 then some (.inl ())else a 1)else Cw l a i
def Ac0{l}(h:l.length<=lim):GL l=some (!BK l (Iw l)):=by
 unfold GL BK
 have hB:Ay (Cw l) fz 1=some (cond ((List.range l.length).any λk=>HJ l k<|Iw l k) (.inr false)<|.inl ()):=by
  have h0:=eD (M:=fz+1) (B:=VN l) (λk=>HJ l k (Iw l k)) (Nat.lt_succ_of_lt (Dp h)) (λk hk rec=>by
   by_cases hz:k=0
   ·subst hz;rw[B5 hk];unfold VN;rw[Az (show((0:Nat):Int)=0 from rfl),AA aG];simp[Iw]
   ·have hk':k - 1 < l.length:=aG;have hz':¬((k:Int)=0):=aG;unfold VN;rw[AA hz'];unfold Cw;rw[Bq hk,AV hk,BA hk (Bk h),ZT hk aG (Bk h),AV hk',B5 hk];simp only[Ac,Aa,Iw];rw[B5 hk',Ak (aG:0 < k)];simp only[AK]) (λrec=>by
   by_cases hz:l.length=0
   ·unfold VN;rw[hz];rfl
   ·have hz':¬((l.length:Int)=0):=aG;unfold VN;rw[AA hz'];unfold Cw;rw[Bh];rfl)
  have same:∀m (k:Nat),0 < k->Ay (VN l) m (k:Int)=Ay (Cw l) m (k:Int):=by
   intro m;induction m with
   |zero=>intro k _;rfl
   |succ m ih=>
    intro k hk;have hz:¬((k:Int)=0):=aG;have ea:∀rec,VN l rec (k:Int)=Cw l rec (k:Int):=λrec=>by unfold VN;rw[AA hz]
    show VN l (Ay (VN l) m) (k:Int)=Cw l (Ay (Cw l) m) (k:Int);rw[ea];have e:∀rec,Cw l rec (k:Int)=cond (decide ((k:Int) < (l.length:Int))) (Aa (AU l<|wZ<|(k:Int) - 1) λe5=>Aa (AU l (k:Int)) λe7=>cond (decide (e7<=e5)) (some<|.inr false)<|rec<|wZ<|(k:Int)+1) (some<|.inl ()):=λrec=>rfl
    rw[e,e];by_cases q:k < l.length
    ·rw[BA q (Bk h),ih (k+1) aG]
    ·rw[Ah (aG:¬(k:Int) < (l.length:Int))];rfl
  by_cases hz:l.length=0
  ·have e1:(List.range l.length).any (λk=>HJ l k<|Iw l k)=false:=by rw[hz];rfl
   rw[e1];refine Cm (body:=Cw l) (λ_=>1) 0 (λk hk=>absurd hk aG) (λrec=>?_) fz (by unfold fz;omega);unfold Cw;rw[hz];rfl
  ·have h2:Ay (VN l) (fz+1) 0=Ay (Cw l) fz ((1:Nat):Int):=by
    have e0:∀rec,VN l rec 0=rec 1:=λrec=>by unfold VN;rw[Az rfl,AA hz]
    rw[Cn,e0];exact same fz 1 aG
   rw[h2]at h0;exact h0
 rw[hB];cases(List.range l.length).any λk=>HJ l k (Iw l k)<;>rfl
def T6{O:Type}{B:(Int->Option (Sum Unit O))->Int->Option (Sum Unit O)}{n:Nat}(g:Nat->Option O)(c:n<=lim)
  (e:∀k,k < n->∀a,B a (k:Int)=match g k with|some o=>some (.inr o)|none=>a ((k+1:Nat):Int)) (f:∀a,B a (n:Int)=some (.inl ())):
  Ay B fz 0=some (match(List.range n).findSome? g with|some o=>.inr o|none=>.inl ()):=by
 have b:∀d k,k+d=n->∀m,d < m->Ay B m (k:Int)=some (match(List.range' k d).findSome? g with|some o=>.inr o|none=>.inl ()):=by
  intro d;induction d with
  |zero=>
   intro k h m i;cases m with
   |zero=>omega
   |succ m=>show B (Ay B m) (k:Int)=_;rw[show k=n by omega,f];rfl
  |succ d j=>
   intro k h m i;cases m with
   |zero=>omega
   |succ m=>
    show B (Ay B m) (k:Int)=_;rw[e k aG,D0,List.findSome?_cons];cases l:g k with
    |some o=>rfl
    |none=>exact j (k+1) aG m aG
 have:=b n 0 aG fz<|Dp c;rw[Gg];simpa using this
def FW{α:Type}{l:List α}{f:Nat->α->Bool}(h:BK l f=false){k:Nat}(a:k < l.length):f k l[k]=false:=by unfold BK at h;rw[BU]at h;have:=h k<|Ao.2 a;rw[B5 a]at this;simpa using this
def EL(row:zI)(c:Int):Int:=(AU row c).getD 0
def Fc(row a:zI):zI:=a.map<|EL row
def Yl{row:zI}{c:Int}(h:0<=c∧c < row.length):AU row c=some (EL row c):=by unfold EL AU;rw[Az h.1,Af aG];rfl
def Aik{row b:zI}(e:b.length<=lim)(h:∀c∈b,0<=c∧c < row.length):Vi row b=some (Fc row b):=by unfold Vi;rw[Kg (a:=b) (h:=EL row) e (λk d f=>by unfold UI;simp only;rw[Bq d,AV d,BA d (Bk e)];simp only[Ac,Aa,Yl (h _<|Ae d)];rw[AO (by simp only[Ai,AH,Aj];unfold lim at *;omega)]) (λrec y=>by unfold UI;simp only;rw[Bh];rfl)];rfl
def pj{row b:zI}(e:b.length<=lim)(h:∀c∈b,0<=c∧c < row.length):T0 row b=some (Fc row b):=by unfold T0;rw[Kg (a:=b) (h:=EL row) e (λk d f=>by unfold Ws;simp only;rw[Bq d,AV d,BA d (Bk e)];simp only[Ac,Aa,Yl (h _<|Ae d)];rw[AO (by simp only[Ai,AH,Aj];unfold lim at *;omega)]) (λrec y=>by unfold Ws;simp only;rw[Bh];rfl)];rfl
def cmp_eq:∀a b:zI,(DV a b==0)=(a==b)
 |[],[]=>rfl
 |[],_::_=>rfl
 |_::_,[]=>rfl
 |x::xs,y::c=>by
  rw[DV];by_cases d:x < y
  ·rw[Az d];have:(x::xs==y::c)=false:=by simp;intro h;omega
   rw[this];rfl
  ·rw[AA d];by_cases e:y < x
   ·rw[Az e];have:(x::xs==y::c)=false:=by simp;intro h;omega
    rw[this];rfl
   ·rw[AA e,cmp_eq xs c];have:x=y:=aG;subst this;simp
def u7{S:Type}{B:(S×Int->Option (Sum S Bool))->S×Int->Option (Sum S Bool)}{n:Nat}(s:Nat->S)(a:Nat->Bool)(l:n<=lim)(o:∀k,k < n->∀b,B b (s k,(k:Int))=cond (a k) (some<|.inr false) (b (s<|k+1,((k+1:Nat):Int))))(p:∀b,B b (s n,(n:Int))=some (.inl<|s n)):
  Ay B fz (s 0,0)=some (cond ((List.range n).any a) (.inr false)<|.inl<|s n):=by
 have e:∀d k,k+d=n->(∀j,j < k->a j=false)->∀m,d < m->Ay B m (s k,(k:Int))=some (cond ((List.range n).any a) (.inr false)<|.inl<|s n):=by
  intro d;induction d with
  |zero=>
   intro k q f m r;cases m with
   |zero=>omega
   |succ m=>
    have g:k=n:=aG;have:(List.range n).any a=false:=by rw[BU];intro x t;rw[f x (by have:=Ao.1 t;omega)];simp
    show B (Ay B m) (s k,(k:Int))=_;rw[g,p,this];rfl
  |succ d u=>
   intro k q f m r;cases m with
   |zero=>omega
   |succ m=>
    show B (Ay B m) (s k,(k:Int))=_;rw[o k aG];cases c:a k with
    |true=>
     have:(List.range n).any a=true:=by rw[BR];exact⟨k,Ao.2 aG,c⟩
     rw[this];rfl
    |false=>
     exact u (k+1) aG (λj i=>by
      rcases Bi j k with h|h
      ·exact f j h
      ·rw[show j=k by omega];exact c) m aG
 have:=e n 0 aG (λj i=>absurd i aG) fz<|Dp l;simpa using this
def Xp(l:zI)(v:Int):Option Nat:=(List.range l.length).findSome? λk=>if(HJ l k λe=>e==v)=true then some k else none
def Zu(l:zI)(v:Int):(Xp l v).isSome=l.contains v:=by
 unfold Xp;rw[Bb,List.findSome?_isSome_iff,Ag];constructor
 ·rintro⟨k,a,h⟩;have a:=Ao.1 a;split at h
  ·rename_i b;rw[B5 a]at b;have:l[k]=v:=by simpa using b
   rw[<-this];exact Ae a
  ·cases h
 ·intro h;obtain⟨k,a,rfl⟩:=AE.1 h;exact⟨k,Ao.2 a,by rw[B5 a];simp⟩
def CA(l:zI)(v:Int):Int:=match Xp l v with
 |some k=>(k:Int)
 |none=> -1
def J6(l:zI)(v:Int):decide (0<=CA l v)=l.contains v:=by
 rw[<-Zu];unfold CA;cases Xp l v with
 |some k=>simp
 |none=>rfl
def VC{l:zI}(h:l.length<=lim)(v:Int):HB l v=some (CA l v):=by
 unfold HB CA Xp;rw[T6 (O:=Int) (λk=>if(HJ l k λe=>e==v)=true then some (k:Int)else none) h (λk a b=>by unfold UK;rw[Bq a,AV a,BA a (Bk h),B5 a];simp only[Ac,Aa];cases(l[k]==v)<;>rfl) (λrec=>by unfold UK;rw[Bh];rfl)];have e:((List.range l.length).findSome? λk=>if(HJ l k λe=>e==v)=true then some (k:Int)else none)=((List.range l.length).findSome? λk=>if(HJ l k λe=>e==v)=true then some k else none).map (λk:Nat=>(k:Int)):=by rw[Hp];congr 1;funext k;simp only[Function.comp];split<;>rfl
 rw[e];cases(List.range l.length).findSome? λk=>if(HJ l k λe=>e==v)=true then some k else none<;>rfl
def R4{l:zI}(h:l.length<=lim)(v:Int):IE l v=some (CA l v):=by
 unfold IE CA Xp;rw[T6 (O:=Int) (λk=>if(HJ l k λe=>e==v)=true then some (k:Int)else none) h (λk a b=>by unfold Tf;rw[Bq a,AV a,BA a (Bk h),B5 a];simp only[Ac,Aa];cases(l[k]==v)<;>rfl) (λrec=>by unfold Tf;rw[Bh];rfl)];have e:((List.range l.length).findSome? λk=>if(HJ l k λe=>e==v)=true then some (k:Int)else none)=((List.range l.length).findSome? λk=>if(HJ l k λe=>e==v)=true then some k else none).map (λk:Nat=>(k:Int)):=by rw[Hp];congr 1;funext k;simp only[Function.comp];split<;>rfl
 rw[e];cases(List.range l.length).findSome? λk=>if(HJ l k λe=>e==v)=true then some k else none<;>rfl
def ah{l}(h:l.length<=lim)(v:Int):H5 l v=some (l.contains v):=by unfold H5;simp only[R4 h,Aa,J6]
abbrev J7:=zU×zI
abbrev EM:=Int×List J7×zI
def nW{a:J7}(h:a.2.length<=lim)(v:Int):Dy a v=some (a.2.contains v):=by
 unfold Dy;rw[T6 (O:=Bool) (λk=>if(HJ a.2 k λe=>e==v)=true then some true else none) h (λk b c=>by unfold Lt;rw[Bq b,AV b,BA b (Bk h),B5 b];simp only[Ac,Aa];cases(a.2[k]==v)<;>rfl) (λrec=>by unfold Lt;rw[Bh];rfl)];rw[<-Zu];have e:((List.range a.2.length).findSome? λk=>if(HJ a.2 k λe=>e==v)=true then some true else none)=(Xp a.2 v).map (λ_=>true):=by unfold Xp;rw[Hp];congr 1;funext k;simp only[Function.comp];split<;>rfl
 rw[e];cases Xp a.2 v<;>rfl
def GP(n:Int)(l:zI)(k:Nat)(e:Int):Bool:= !HH e 0 (wZ<|n - 1) || (l.take k).contains e
def UM{α:Type}(l:List α)(k:Nat):CZ l 0 (k:Int)=l.take k:=by simp[CZ]
def r7{l:zI}(h:l.length<=lim)(n:Int):MQ l n=some (!BK l (GP n l)):=by unfold MQ BK;rw[Ew (λk=>HJ l k (GP n l k)) h (λk a b=>by unfold Tg;rw[Bq a,AV a,BA a (Bk h),B5 a];simp only[Ac,Aa,Ig];rw[AO aG,UM];simp only[ah (l:=l.take k) (by rw[AH];omega),GP];cases HH l[k] 0 (wZ (n - 1))<;>rfl) (λrec=>by unfold Tg;rw[Bh];rfl)];cases(List.range l.length).any λk=>HJ l k (GP n l k)<;>rfl
def PX(n:Int)(a:J7):Bool:= !nmB a.1 || (!HH (a.2.length:Int) 1 5 || BK a.2 λ_ v=> !HH v 0 (wZ<|n - 1))
def MA(q:EM):Prop:=q.2.1.length<=lim∧(∀a∈q.2.1,a.1.length<=lim∧a.2.length<=lim)∧q.2.2.length<=lim
def JI(l:List J7)(v:Int):Bool:=l.any λa=>a.2.contains v
def Ab9{q:EM}(h:MA q):Ay (Ld q) fz 0=some (cond (BK q.2.1 λ_ a=>PX q.1 a) (.inr false)<|.inl ()):=by
 unfold BK;refine Ew (λk=>HJ q.2.1 k λa=>PX q.1 a) h.1 (λk b d=>?_) (λrec=>by unfold Ld;rw[Bh];rfl);have e:=h.2.1 _<|Ae b;unfold Ld;rw[Bq b,AV b,BA b (Bk h.1),B5 b];simp only[Ac,Aa,yU e.1,Sg,PX];cases nmB q.2.1[k].1 with
 |false=>rfl
 |true=>
  cases HH (q.2.1[k].2.length:Int) 1 5 with
  |false=>rfl
  |true=>simp only[Au,Ad,Cg];rw[Ew (λj=>HJ q.2.1[k].2 j λv=> !HH v 0 (wZ (q.1 - 1))) e.2 (λj c d=>by unfold OD;rw[AV b];simp only[Aa];rw[Bq c,AV c,BA c (Bk e.2),B5 c];simp only[Ac,Sg]) (λrec=>by unfold OD;rw[AV b];simp only[Aa];rw[Bh];rfl)];unfold BK;cases(List.range q.2.1[k].2.length).any λj=>HJ q.2.1[k].2 j λv=> !HH v 0 (wZ<|q.1 - 1)<;>rfl
def Aiu{q}(h:MA q)(v:Int):Ay (Hx q v) fz (false,0)=some (JI q.2.1 v):=by
 have:=Cm (body:=Hx q v) (out:=JI q.2.1 v) (λk=>(JI (q.2.1.take k) v,(k:Int))) q.2.1.length (λk a b=>by
  have c:=h.2.1 _<|Ae a;unfold Hx Lg;simp only;rw[Bq a,AV a,BA a (Bk h.1)];simp only[Ac,Aa,nW c.2];have e:JI (q.2.1.take<|k+1) v=(JI (q.2.1.take k) v || q.2.1[k].2.contains v):=by unfold JI;rw[A3 a,Jj];simp
  rw[e];cases JI (q.2.1.take k) v<;>rfl) (λrec=>by unfold Hx;simp only;rw[Bh,AQ];rfl) fz (Dp h.1)
 simpa[JI]using this
def Acb{q:EM}(h:MA q)(b:1<=q.1∧q.1<=5):Ay (Le q) fz 0=some (cond ((List.range q.1.toNat).any λv=> !JI q.2.1 (v:Int)) (.inr false)<|.inl ()):=by have e:q.1=(q.1.toNat:Int):=aG;refine Ew (λv=> !JI q.2.1 (v:Int)) uY (λk c a=>?_) (λrec=>by unfold Le;rw[Ah (aG:¬((q.1.toNat:Nat):Int) < q.1)];rfl);unfold Le;rw[Ak (aG:(k:Int) < q.1),Aiu h,wrap_in aG];simp only[Ac,Aa];rfl
def Amk{q:EM}(h:MA q):Ay (Lf q) fz 0=some (cond (BK q.2.2<|GP q.1 q.2.2) (.inr false)<|.inl ()):=by unfold BK;refine Ew (λk=>HJ q.2.2 k<|GP q.1 q.2.2 k) h.2.2 (λk a b=>?_) (λrec=>by unfold Lf;rw[Bh];rfl);unfold Lf;rw[Bq a,AV a,BA a (Bk h.2.2),B5 a];simp only[Ac,Aa,Sg];rw[AO aG,UM];simp only[VC (l:=q.2.2.take k) (by rw[AH];have:=h.2.2;omega),J6,GP];cases HH q.2.2[k] 0 (wZ<|q.1 - 1)<;>rfl
def Du(q:EM):Bool:=HH q.1 1 5&&(HH (q.2.1.length:Int) 1 4&&(!BK q.2.2 (GP q.1 q.2.2)&&(!(BK q.2.1 λ_ a=>PX q.1 a)&& !((List.range q.1.toNat).any λv=> !JI q.2.1 (v:Int)))))
def few:∀(n:Nat) (l:zI),l.Nodup->(∀e∈l,0<=e∧e < (n:Int))->l.length<=n
 |0,l,_,h=>by
  cases l with
  |nil=>simp
  |cons e l=>have:=h e nF;omega
 |n+1,l,b,h=>by
  have f:=few n (l.erase (n:Int)) (b.erase _) (λe c=>by
   have d:=h e<|List.mem_of_mem_erase c;have g:e≠(n:Int):=λq=>by subst q;exact(List.Nodup.not_mem_erase b) c
   omega)
  have d:=List.length_erase (a:=(n:Int)) (l:=l);split at d<;>omega
def YE{n}(p:1<=n∧n<=5){l:zI}(h:BK l (GP n l)=false):(l.length:Int)<=n:=by
 have d:wZ (n - 1)=n - 1:=wrap_in aG;have a:∀e∈l,0<=e∧e < (n.toNat:Int):=by intro e b;obtain⟨k,f,rfl⟩:=AE.1 b;have:=FW h f;unfold GP HH at this;simp only[BN,B8,Ab,AN,d]at this;omega
 have g:l.Nodup:=by
  rw[Cr,B3];intro i j hi m o b;have:=FW h m;unfold GP at this;simp only[BN]at this;have c:=this.2;have:(l.take j).contains l[j]=true:=by rw[Ag,AE];exact⟨i,by rw[AH];omega,by rw[Gw];exact b⟩
  rw[this]at c;cases c
 have:=few n.toNat l g a;omega
def Sq{q}(h:MA q):DO q=some (Du q):=by
 unfold DO Du;simp only[Sg,Aa,Ab9 h,Amk h];cases b:HH q.1 1 5 with
 |false=>rfl
 |true=>
  have c:1<=q.1∧q.1<=5:=by unfold HH at b;simpa using b
  rw[Acb h c];cases HH (q.2.1.length:Int) 1 4 with
  |false=>rfl
  |true=>
   by_cases d:q.1 < (q.2.2.length:Int)
   ·rw[Ak d]
    have:BK q.2.2 (GP q.1 q.2.2)=true:=by
     cases e:BK q.2.2 (GP q.1 q.2.2)with
     |true=>rfl
     |false=>have:=YE c e;omega
    rw[this];rfl
   ·rw[Ah d];cases BK q.2.2 (GP q.1 q.2.2)<;>cases(BK q.2.1 λ_ a=>PX q.1 a)<;>cases((List.range q.1.toNat).any λv=> !JI q.2.1 (v:Int))<;>rfl
def uL(m:Nat)(f:Nat->Bool):List Bool:=(List.range m).map f
def cQ(m:Nat)(f:Nat->Bool):(uL m f).length=m:=by simp[uL]
def AiJ{m v}(f:Nat->Bool):(uL m f).set v true=uL m (λu=>f u || u==v):=by
 apply Cp
 ·simp[uL]
 ·intro i a b;rw[Di];simp only[uL,Bl,Ei];split
  ·rename_i e;subst e;simp
  ·rename_i e;have:(i==v)=false:=by simp;omega
   rw[this];simp
def AaR{q}(h:MA q)(r:1<=q.1∧q.1<=5):Ay (IQ q) fz (List.replicate (Int.toNat q.1) false,0)=some (cond (BK q.2.1 λ_ a=>PX q.1 a) (.inr false)<|.inl<|uL q.1.toNat λv=>JI q.2.1 (v:Int)):=by
 have l:wZ (q.1 - 1)=q.1 - 1:=wrap_in aG;have m:List.replicate (Int.toNat q.1) false=uL q.1.toNat λv=>JI (q.2.1.take 0) (v:Int):=by unfold uL JI;simp[GA]
 rw[m];unfold BK
 have:=u7 (B:=IQ q) (n:=q.2.1.length) (λk=>uL q.1.toNat λv=>JI (q.2.1.take k) (v:Int)) (λk=>HJ q.2.1 k λa=>PX q.1 a) h.1 (λk b f=>by
  have g:=h.2.1 _<|Ae b;unfold IQ;simp only;rw[Bq b,AV b,BA b (Bk h.1),B5 b];simp only[Ac,Aa,wV g.1,Ig,PX];cases nmB q.2.1[k].1 with
  |false=>rfl
  |true=>
   cases HH (q.2.1[k].2.length:Int) 1 5 with
   |false=>rfl
   |true=>
    simp only[Au,Ad,Cg]
    have c:=u7 (B:=KU q q.2.1[k]) (n:=q.2.1[k].2.length) (λj=>uL q.1.toNat λv=>JI (q.2.1.take k) (v:Int) || (q.2.1[k].2.take j).contains (v:Int)) (λj=>HJ q.2.1[k].2 j λv=> !HH v 0 (wZ (q.1 - 1))) g.2 (λj d f=>by
     unfold KU;simp only;rw[Bq d,AV d,BA d (Bk g.2),B5 d];simp only[Ac,Aa,Ig];cases i:HH q.2.1[k].2[j] 0 (wZ<|q.1 - 1)with
     |false=>rfl
     |true=>
      have s:0<=q.2.1[k].2[j]∧q.2.1[k].2[j]<=q.1 - 1:=by rw[l]at i;unfold HH at i;simpa using i
      have e:q.2.1[k].2[j]=((q.2.1[k].2[j].toNat:Nat):Int):=aG;simp only[Au,Ad];rw[e,AV (by rw[cQ];omega)];simp only;congr 2;unfold CY;rw[Ax,AiJ _];congr 1;funext u;rw[A3 d,List.contains_append,Bool.or_assoc];congr 1;congr 1;rw[e];simp only[List.contains_cons,List.contains_nil,Dv];rw[Bb];simp;omega) (λrec=>by unfold KU;simp only;rw[Bh];rfl)
    have o:(uL q.1.toNat λv=>JI (q.2.1.take k) (v:Int) || (q.2.1[k].2.take 0).contains (v:Int))=uL q.1.toNat λv=>JI (q.2.1.take k) (v:Int):=by unfold uL;simp
    have p:(uL q.1.toNat λv=>JI (q.2.1.take k) (v:Int) || (q.2.1[k].2.take q.2.1[k].2.length).contains (v:Int))=uL q.1.toNat λv=>JI (q.2.1.take<|k+1) (v:Int):=by congr 1;funext v;unfold JI;rw[AQ,A3 b,Jj];simp
    simp only[o,p]at c;rw[c];unfold BK;cases(List.range q.2.1[k].2.length).any λj=>HJ q.2.1[k].2 j λv=> !HH v 0 (wZ (q.1 - 1))<;>rfl) (λrec=>by unfold IQ;simp only;rw[Bh];rfl)
 rw[AQ]at this;exact this
def OS{q}(h:MA q):C5 q=some (Du q):=by
 unfold C5 Du;simp only[Ig,Aa,r7 h.2.2];cases c:HH q.1 1 5 with
 |false=>rfl
 |true=>
  have d:1<=q.1∧q.1<=5:=by unfold HH at c;simpa using c
  cases HH (q.2.1.length:Int) 1 4 with
  |false=>rfl
  |true=>
   cases BK q.2.2 (GP q.1 q.2.2)with
   |true=>rfl
   |false=>
    simp only[Au,Cq,Ad,AK];rw[AO uY,AaR h d];cases(BK q.2.1 λ_ a=>PX q.1 a)with
    |true=>rfl
    |false=>simp only[Ad,Cq,AK];rw[Ew (n:=(uL q.1.toNat λv=>JI q.2.1 (v:Int)).length) (λk=> !JI q.2.1 (k:Int)) (by rw[cQ];unfold lim;omega) (λk b e=>by unfold Oi;rw[Bq b,AV b,BA b (by rw[cQ];unfold maxLen;omega)];simp only[Ac,Aa,uL,Bl,Ei]) (λrec=>by unfold Oi;rw[Bh];rfl),cQ];cases(List.range q.1.toNat).any λv=> !JI q.2.1 (v:Int)<;>rfl
def Ln{α:Type}{l:List α}{f:α->Bool}(h:BK l (λ_ e=>f e)=false){a:α}(b:a∈l):f a=false:=by obtain⟨k,c,rfl⟩:=AE.1 b;exact FW h c
def De{q:EM}(h:Du q=true):1<=q.1∧q.1<=5∧q.2.1.length<=4∧∀a∈q.2.1,1<=a.2.length∧a.2.length<=5∧∀v∈a.2,0<=v∧v < q.1:=by
 unfold Du at h;simp only[Ab,At]at h;obtain⟨d,e,-,g,-⟩:=h;have f:1<=q.1∧q.1<=5:=by unfold HH at d;simpa using d
 have e2:1<=(q.2.1.length:Int)∧(q.2.1.length:Int)<=4:=by unfold HH at e;simpa using e
 refine⟨f.1,f.2,aG,λa i=>?_⟩;have b:=Ln g i;unfold PX at b;simp only[BN,B8]at b;have k:1<=(a.2.length:Int)∧(a.2.length:Int)<=5:=by have:=b.2.1;unfold HH at this;simpa using this
 refine⟨aG,aG,λv j=>?_⟩;have c:=Ln b.2.2 j;simp only[B8]at c;rw[wrap_in aG]at c;have:0<=v∧v<=q.1 - 1:=by unfold HH at c;simpa using c
 omega
def FSQ{α:Type}{l:List α}{f:Nat->α->Bool}(h:∀i (hi:i < l.length),f i l[i]=false):BK l f=false:=by unfold BK;rw[BU];intro k a;have a:=Ao.1 a;rw[B5 a,h k a];simp
def YB(f:Int->Bool)(l:zI)(k:Nat):zN:=(List.range k).filter λi=>HJ l i f
def AdB(f:Int->Bool)(l:zI)(k:Nat):YB f l (k+1)=YB f l k++(if HJ l k f=true then [k]else []):=by unfold YB;rw[CO,CQ,DD,DM]
def TM{f l k i}:i∈YB f l k↔i < k∧HJ l i f=true:=by unfold YB;rw[AM,Ao]
def yb{l:zN}{r:Nat}(c:l.Nodup)(d:r∈l)(h:∀i∈l,i=r):l=[r]:=by
 cases l with
 |nil=>cases d
 |cons a l=>
  have e:=h a nF;subst e;cases l with
  |nil=>rfl
  |cons b l=>have f:=h b nF;subst f;rw[BI]at c;exact absurd nF c.1
def aR{f l n r}:YB f l n=[r]↔(r < n∧HJ l r f=true)∧∀i,i < n->HJ l i f=true->i=r:=by
 constructor
 ·intro h;refine⟨TM.1 (by rw[h];simp),λi hi a=>?_⟩;have:=TM.2 ⟨hi,a⟩;rw[h]at this;simpa using this
 ·rintro⟨b,c⟩;refine yb ?_ (TM.2 b)<|λi hi=>c i (TM.1 hi).1 (TM.1 hi).2
  exact F5 DY C3
def Mo(p:zI):Int:=match YB (λx=>x== -1) p p.length with
 |[r]=>(r:Int)
 |_=> -1
def VG(p:zI)(a:Int):Int:=(p[a.toNat]?).getD (-1)
def kU(p:zI)(a:Int):Bool:=HH a (-1)<|(p.length:Int) - 1
def X6(p:zI):Nat->Int->Option Int
 |0,a=>some a
 |m+1,a=>if 0<=a then(if kU p (VG p a)=true then X6 p m (VG p a)else none)else some a
def endsB(p:zI)(i:Nat):Bool:=match X6 p (p.length+1) i with
 |some a=>decide (a < 0)
 |none=>false
def Tz(p:zI):Bool:=(!BK p λi x=> !kU p x || !endsB p i)&&(((YB (λx=>decide (x < 0)) p p.length).length:Int)==1)
def E1(p:zI):Nat->Int->zI
 |0,_=>[]
 |m+1,a=>if 0<=a∧a < (p.length:Int)then a::E1 p m (VG p a)else []
def Rp(p:zI)(i:Nat):Bool:=decide ((E1 p (p.length+1) i).length<=p.length)&&((E1 p (p.length+1) i).getLast?==some (Mo p))
def UN(p:zI):Bool:=decide (0<=Mo p)&& !BK p λi _=> !Rp p i
def goUp(p:zI):Nat->Int->Int
 |0,a=>a
 |m+1,a=>if 0<=a then goUp p m (VG p a)else a
def wG{p a}(h:a < 0):∀m,goUp p m a=a
 |0=>rfl
 |m+1=>by rw[goUp,AA aG]
def VV{p}:∀{m:Nat}{a:Int},goUp p m a < 0->goUp p (m+1) a < 0
 |0,a,h=>by rw[wG (show a < 0 from h)];exact h
 |m+1,a,h=>by
  rw[goUp]at h⊢;split
  ·rename_i b;rw[Az b]at h;exact VV h
  ·rename_i b;rw[AA b]at h;exact h
def wide(p:zI):Prop:=∀(i:Nat) (h:i < p.length),-1<=p[i]∧p[i]<=(p.length:Int) - 1
def ep{p}(c:wide p){a:Int}(d:0<=a)(e:a < (p.length:Int)): -1<=VG p a∧VG p a < (p.length:Int):=by have b:a.toNat < p.length:=aG;have:=c a.toNat b;unfold VG;rw[Af b];simp only[Bz];omega
def eB{p}(b:wide p):∀(m:Nat) {a:Int},a < (p.length:Int)->X6 p m a=some (goUp p m a)
 |0,a,_=>rfl
 |m+1,a,h=>by
  rw[X6,goUp];split
  ·rename_i c;have:=ep b c h;rw[Az (by unfold kU HH;simp;omega)];exact eB b m this.2
  ·rfl
def jz{p}(d:wide p):∀(m:Nat) {a:Int},0<=a->a < (p.length:Int)->goUp p m a < 0->∃l,(E1 p m a).getLast?=some l∧0<=l∧l < (p.length:Int)∧VG p l < 0
 |0,a,b,_,h=>absurd (show a < 0 from h) aG
 |m+1,a,b,c,h=>by
  rw[goUp,Az b]at h;have f:=ep d b c;rw[E1,Az ⟨b,c⟩];by_cases g:VG p a < 0
  ·refine⟨a,?_,b,c,g⟩;have:E1 p m (VG p a)=[]:=by cases m<;>simp[E1];omega
   rw[this];rfl
  ·have⟨l,e,q⟩:=jz d m aG f.2 h;refine⟨l,?_,q⟩;rw[List.getLast?_cons,e];rfl
def sR{p}:∀(m:Nat) {a x:Int},x∈E1 p m a->0<=x∧x < (p.length:Int)
 |0,_,_,h=>by cases h
 |m+1,a,x,h=>by
  rw[E1]at h;split at h
  ·rename_i b;rcases AL.1 h with rfl|h
   ·exact b
   ·exact sR m h
  ·cases h
def jy{p}:∀(m:Nat) {a x:Int}{j:Nat},x∈E1 p m a->goUp p j a < 0->goUp p j x < 0
 |0,_,_,_,h,_=>by cases h
 |m+1,a,x,j,h,b=>by
  rw[E1]at h;split at h
  ·rename_i c;rcases AL.1 h with rfl|h
   ·exact b
   ·cases j with
    |zero=>exact absurd (show a < 0 from b) aG
    |succ j=>rw[goUp,Az c.1]at b;exact VV<|jy m h b
  ·cases h
def jj{p a}:∀j,goUp p j a < 0->∃k,goUp p k a < 0∧∀i,i < k->¬goUp p i a < 0
 |0,h=>⟨0,h,λi hi=>absurd hi aG⟩
 |j+1,h=>by
  by_cases h':goUp p j a < 0
  ·exact jj j h'
  ·refine⟨j+1,h,λi hi b=>h' ?_⟩
   have:∀d,i+d<=j->goUp p (i+d) a < 0:=by
    intro d;induction d with
    |zero=>intro _;exact b
    |succ d c=>intro e;exact VV<|c aG
   have:=this (j - i) aG
   rwa [show i+(j - i)=j by omega]at this
def gr{p}:∀(m:Nat) {a:Int}{j:Nat},goUp p j a < 0->(E1 p m a).Nodup
 |0,_,_,_=>AZ
 |m+1,a,j,h=>by
  rw[E1];split
  ·rename_i hc;have⟨k,h1,h2⟩:=jj j h;cases k with
   |zero=>exact absurd (show a < 0 from h1) aG
   |succ k=>have h3:=h1;rw[goUp,Az hc.1]at h3;refine BI.2 ⟨λhm=>?_,gr m h3⟩;exact h2 k aG<|jy m hm h3
  ·exact AZ
def gu{p}(b:wide p):∀(m:Nat) {a:Int},a < (p.length:Int)->(E1 p m a).length < m->goUp p m a < 0
 |0,_,_,h=>absurd h aG
 |m+1,a,c,h=>by
  rw[goUp];split
  ·rename_i d;rw[E1,Az ⟨d,c⟩,AC]at h;exact gu b m (ep b d c).2 aG
  ·omega
def nU{p}(h:0<=Mo p):∃r:Nat,Mo p=(r:Int)∧YB (λx=>x== -1) p p.length=[r]:=by
 unfold Mo at *;split at h
 ·rename_i r e;exact⟨r,rfl,e⟩
 ·omega
def yM{p}(a:wide p):YB (λx=>decide (x < 0)) p p.length=YB (λx=>x== -1) p p.length:=by
 unfold YB;refine FF λi hi=>?_
 have hi:=Ao.1 hi;rw[B5 hi,B5 hi,Bb];have:=a i hi;simp;omega
def l7{p}(h:∀i (hi:i < p.length),kU p p[i]=true):wide p:=λi hi=>by have:=h i hi;unfold kU HH at this;simp only[Ab,AN]at this;exact this
def TV(p:zI):Tz p=UN p:=by
 rw[Bb];constructor
 ·intro h;unfold Tz at h;simp only[Ab,At,Bv]at h;have⟨q,s⟩:=h;have d:∀i (hi:i < p.length),kU p p[i]=true∧endsB p i=true:=λi hi=>by have:=FW q hi;simpa using this
  have b:=l7 λi hi=>(d i hi).1
  have e:∀i,i < p.length->goUp p (p.length+1) i < 0:=λi hi=>by have:=(d i hi).2;unfold endsB at this;rw[eB b _ aG]at this;simpa using this
  rw[yM b]at s;obtain⟨r,f⟩:∃r,YB (λx=>x== -1) p p.length=[r]:=GN.1 aG;have c:Mo p=(r:Int):=by unfold Mo;rw[f]
  have t:=aR.1 f;unfold UN;simp only[Ab,AN,At];refine⟨aG,FSQ λi hi=>?_⟩;have g:=e i hi;have⟨l,v,e2,z,u⟩:=jz b (p.length+1) (a:=i) aG aG g;have j:=few p.length (E1 p (p.length+1) i) (gr _ g)<|λx w=>sR _ w
  have k:l=Mo p:=by have o:l.toNat < p.length:=aG;have:=t.2 l.toNat o (by rw[B5 o];unfold VG at u;rw[Af o]at u;simp only[Bz]at u;have:=b l.toNat o;simp;omega);omega
  unfold Rp;rw[v,k];simp;exact j
 ·intro h;unfold UN at h;simp only[Ab,AN,At]at h;have⟨q,s⟩:=h;have⟨r,c,f⟩:=nU q;have t:=aR.1 f;have g:∀i,i < p.length->(E1 p (p.length+1) i).length<=p.length∧(E1 p (p.length+1) i).getLast?=some (Mo p):=λi hi=>by have:=FW s hi;unfold Rp at this;simpa using this
  have n:∀i (hi:i < p.length),kU p p[i]=true:=λi hi=>by
   unfold kU HH;simp only[Ab,AN];have k:=(g i hi).2;rw[E1,Az aG]at k;have y:VG p i=p[i]:=by unfold VG;rw[Ax,Af hi];rfl
   by_cases A:0<=p[i]∧p[i] < (p.length:Int)
   ·omega
   ·have:E1 p p.length (VG p i)=[]:=by
     rw[y];cases B:p.length with
     |zero=>rfl
     |succ m=>rw[E1,AA aG]
    rw[this]at k;simp only[List.getLast?_singleton,Av]at k;have:i=r:=aG;subst this;have:=t.1.2;rw[B5 hi]at this;have:p[i]= -1:=by simpa using this
    omega
  have b:=l7 n;unfold Tz;simp only[Ab,At,Bv];refine⟨FSQ λi hi=>?_,by rw[yM b,f];rfl⟩;rw[n i hi];have:=gu b (p.length+1) (a:=i) aG (by have:=(g i hi).1;omega);unfold endsB;rw[eB b _ aG];simpa using this
def lf{α:Type}[DecidableEq α]:∀{l m:List α},l.Nodup->(∀x∈l,x∈m)->l.length<=m.length
 |[],m,_,_=>BF _
 |x::l,m,h,a=>by
  have⟨d,e⟩:=BI.1 h;have b:=a x BD;have:=lf (m:=m.erase x) e λy c=>(List.mem_erase_of_ne<|by rintro rfl;exact d c).2<|a y<|AW _ c
  have f:=List.length_erase_of_mem b;have g:=EQ b;rw[AC];omega
structure TrN (n r:Nat) (up:Nat->Option Nat) (K:Nat->zN) (D:Nat->Nat):Prop where
 rn:r < n
 root:up r=none
 upD:∀i,i < n->i≠r->∃j,up i=some j∧j < n∧D i=D j+1
 kid:∀i c,c∈K i↔c < n∧up c=some i
 knd:∀i,(K i).Nodup
 dn:∀i,i < n->D i < n
inductive SbT (up:Nat->Option Nat) (c:Nat):Nat->Prop
 |self:SbT up c c
 |up {x j:Nat}:up x=some j->SbT up c j->SbT up c x
def uX(up:Nat->Option Nat)(x y:Nat):Bool:=up y==some x
section
variable {n r:Nat}{up:Nat->Option Nat}{K:Nat->zN}{D:Nat->Nat}
def Acl{c k x}(a:SbT up c x)(e:up c=some k):SbT up k x:=by
 induction a with
 |self=>exact .up e .self
 |up b _ d=>exact .up b d
variable (h:TrN n r up K D)
include h
def QF{i c}(f:c∈K i):c < n∧i < n∧D c=D i+1:=by
 have⟨d,a⟩:=(h.kid i c).1 f;have b:c≠r:=λe=>by subst e;rw[h.root]at a;cases a
 have⟨j,e,g,k⟩:=h.upD c d b;rw[a]at e;cases e;exact⟨d,g,k⟩
def dE{x j}(a:x < n)(e:up x=some j):j < n∧D x=D j+1:=by have:=QF h<|(h.kid j x).2 ⟨a,e⟩;exact⟨this.2.1,this.2.2⟩
def y4{k x}(a:SbT up k x):x < n->x=k∨∃c,c∈K k∧SbT up c x:=by
 induction a with
 |self=>exactλ_=>.inl rfl
 | @up x j e a d=>
  intro b;rcases d (dE h b e).1 with rfl|⟨c,f,g⟩
  ·exact .inr ⟨x,(h.kid _ _).2 ⟨b,e⟩,.self⟩
  ·exact .inr ⟨c,f,.up e g⟩
def Acm:∀d x,D x<=d->x < n->SbT up r x:=by
 intro d;induction d with
 |zero=>
  intro x b a;by_cases e:x=r
  ·subst e;exact .self
  ·have⟨j,_,_,c⟩:=h.upD x a e;omega
 |succ d f=>
  intro x b a;by_cases e:x=r
  ·subst e;exact .self
  ·have⟨j,g,i,c⟩:=h.upD x a e;exact .up g<|f j aG i
structure BfI (n r:Nat) (K:Nat->zN) (O:zN) (k:Nat):Prop where
 nd:O.Nodup
 lt:∀x∈O,x < n
 rt:r∈O
 src:∀x∈O,x=r∨∃j,∃hj:j < O.length,j < k∧x∈K O[j]
 dst:∀j (hj:j < O.length),j < k->∀c∈K O[j],∃i,∃hi:i < O.length,j < i∧O[i]=c
def Am2:BfI n r K [r] 0:=⟨nF,λx a=>by rw[As.1 a];exact h.rn,nF,λx a=>.inl<|As.1 a,λj _ b=>by omega⟩
def Am3{O k}(b:BfI n r K O k)(o:k < O.length):BfI n r K (O++K O[k]) (k+1):=by
 refine⟨AI.2 ⟨b.nd,h.knd _,λx a y s e=>?_⟩,λx a=>?_,AD _ b.rt,λx a=>?_,λj m d c g=>?_⟩
 ·subst e;have l:=((h.kid _ _).1 s).2;rcases b.src x a with rfl|⟨j,m,d,p⟩
  ·rw[h.root]at l;cases l
  ·have q:=((h.kid _ _).1 p).2;rw[l,Av]at q;have:=(DZ b.nd).1 q;omega
 ·rcases Al.1 a with a|a
  ·exact b.lt x a
  ·exact(QF h a).1
 ·rcases Al.1 a with a|a
  ·rcases b.src x a with e|⟨j,m,d,p⟩
   ·exact .inl e
   ·exact .inr ⟨j,by rw[An];omega,aG,by rwa [DU m]⟩
  ·exact .inr ⟨k,by rw[An];omega,aG,by rwa [DU o]⟩
 ·by_cases e:j=k
  ·subst e;rw[DU o]at g;have⟨t,v,e⟩:=AE.1 g;exact⟨O.length+t,by rw[An];omega,aG,by rw[HE aG];simpa using e⟩
  ·have f:j < O.length:=aG;rw[DU f]at g;have⟨i,hi,u,l⟩:=b.dst j f aG c g;exact⟨i,by rw[An];omega,u,by rwa [DU hi]⟩
omit h in
def Zp{O k}(b:BfI n r K O k):O.length<=n:=by
 have:=lf (m:=List.range n) b.nd λx a=>Ao.2<|b.lt x a
 rwa [BJ]at this
def j9{O}(b:BfI n r K O O.length)(x:Nat):x∈O↔x < n:=by
 refine⟨b.lt x,λhx=>?_⟩
 have:∀d x,D x<=d->x < n->x∈O:=by
  intro d;induction d with
  |zero=>
   intro x hd hx;by_cases e:x=r
   ·subst e;exact b.rt
   ·have⟨j,_,_,h3⟩:=h.upD x hx e;omega
  |succ d ih=>
   intro x hd hx;by_cases e:x=r
   ·subst e;exact b.rt
   ·have⟨j,h1,h2,h3⟩:=h.upD x hx e;obtain⟨t,ht,rfl⟩:=AE.1<|ih j aG h2;have⟨i,hi,_,h5⟩:=b.dst t ht ht x<|(h.kid _ x).2 ⟨hx,h1⟩;exact h5 ▸ Ae hi
 exact this _ x (A5 _) hx
omit h in
def Ael{O}(b:BfI n r K O O.length){j:Nat}(a:j < O.length){c:Nat}(d:c∈K O[j]):∃i,∃hi:i < O.length,j < i∧O[i]=c:=b.dst j a a c d
def AjF{O:zN}(b:BfI n r K O O.length){j:Nat}(d:j < O.length){x:Nat}(a:up O[j]=some x):∃i,∃hi:i < O.length,i < j∧O[i]=x:=by have c:=b.lt _<|Ae d;obtain⟨i,hi,e⟩:=AE.1<|(j9 h b x).2 (dE h c a).1;obtain⟨t,g,k,f⟩:=b.dst i hi hi _ (by rw[e];exact(h.kid x _).2 ⟨c,a⟩);have:=(DZ b.nd).1 f;exact⟨i,hi,aG,e⟩
end
def TW{α:Type}(f:Nat->α)(i:Nat)(v:α):Nat->α:=λj=>if j=i then v else f j
def NN{α:Type}(K:Nat->zN)(op:α->α->α)(B:Nat->α):Nat->Nat->α
 |0,k=>B k
 |m+1,k=>((K k).map<|NN K op B m).foldl op<|B k
def TT{α:Type}(up:Nat->Option Nat)(op:α->α->α)(S:Nat->α):Nat->Nat->α
 |0,k=>S k
 |m+1,k=>match up k with
  |none=>S k
  |some j=>op (S k)<|TT up op S m j
def gE{α:Type}(up:Nat->Option Nat)(op:α->α->α)(B N:Nat->α)(pre:zN)(i:Nat):α:=((pre.filter<|uX up i).map N).foldl op<|B i
section
variable {α:Type}{n r:Nat}{up:Nat->Option Nat}{K:Nat->zN}{D:Nat->Nat}{op:α->α->α}{B:Nat->α}
def Ang{N pre x j}(e:up x=some j):gE up op B N (pre++[x])=TW (gE up op B N pre) j (op (gE up op B N pre j)<|N x):=by
 funext i;unfold gE TW;rw[CQ];by_cases hi:i=j
 ·subst hi;rw[Az rfl,List.filter_cons_of_pos (by unfold uX;rw[e];simp),DM,Br,C2];rfl
 ·rw[AA hi,List.filter_cons_of_neg (by unfold uX;rw[e,Bv,Av];exactλe=>hi e.symm),DM,A7]
variable (h:TrN n r up K D)
include h
def AcP:∀a b k,k < n->n<=a+D k->n<=b+D k->NN K op B a k=NN K op B b k
 |0,_,k,d,e,_=>by have:=h.dn k d;omega
 |_+1,0,k,d,_,f=>by have:=h.dn k d;omega
 |a+1,b+1,k,d,e,f=>by
  rw[NN,NN];congr 1;refine Bd λc g=>?_
  have:=QF h g;exact AcP a b c this.1 aG aG
def bl{k}(b:k < n):NN K op B n k=((K k).map<|NN K op B n).foldl op (B k):=by
 cases n with
 |zero=>omega
 |succ m=>
  rw[NN];congr 1;refine Bd λc a=>?_
  have:=QF h a;exact AcP h _ _ c this.1 aG aG
def Ajc{S}:∀c f k,k < n->D k<=c->D k<=f->TT up op S c k=TT up op S f k:=by
 have b:∀m k,k < n->D k<=m->TT up op S m k=TT up op S (D k) k:=by
  intro m;induction m with
  |zero=>intro k a g;rw[show D k=0 by omega]
  |succ m i=>
   intro k a g;cases p:D k with
   |zero=>
    rw[TT,TT];cases e:up k with
    |none=>rfl
    |some j=>have:=dE h a e;omega
   |succ d=>
    rw[TT,TT];cases e:up k with
    |none=>rfl
    |some j=>have:=dE h a e;simp only;rw[i j this.1 aG,show D j=d by omega]
 intro c f k a l o;rw[b c k a l,b f k a o]
def AmV{S}:TT up op S n r=S r:=by
 cases n with
 |zero=>rfl
 |succ m=>rw[TT,h.root]
def AdQ{S k j}(c:k < n)(e:up k=some j):TT up op S n k=op (S k) (TT up op S n j):=by
 have a:=dE h c e;have b:=h.dn k c;have d:TT up op S (n - 1+1) k=op (S k) (TT up op S (n - 1) j):=by rw[TT,e]
 rw[Ajc h (n - 1) n j a.1 aG aG,show n - 1+1=n by omega]at d;exact d
end
def FK(d:List N9)(a:J7):Bool:=(F2 d a.1).2&&((F2 d a.1).1.1==(a.2.length:Int))
def D7(d:List N9)(q:EM):Bool:=Du q&&(dbB d&& !BK q.2.1 λ_ a=> !FK d a)
def gM{d q}(h:Tn d)(c:MA q):Jw d q=some (D7 d q):=by
 unfold Jw D7 BK
 rw[Ew (λk=>HJ q.2.1 k λa=> !FK d a) c.1 (λk b e=>by
  unfold Qy;rw[Bq b,AV b,BA b (Bk c.1),B5 b];simp only[Ac,Aa,qb h,FK];cases(F2 d q.2.1[k].1).2 with
  |false=>rfl
  |true=>simp only[Au,Ad,AK,bne]) (λrec=>by unfold Qy;rw[Bh];rfl)]
 simp only[Sq c,Ail h,Aa,M4];cases(List.range q.2.1.length).any λk=>HJ q.2.1 k λa=> !FK d a<;>cases Du q<;>cases dbB d<;>rfl
def pk{d q}(h:Tn d)(c:MA q):KF d q=some (D7 d q):=by
 unfold KF D7 BK;simp only[OS c,Akk h,Aa]
 rw[Ew (λk=>HJ q.2.1 k λa=> !FK d a) c.1 (λk b e=>by
  unfold Qm;rw[Bq b,AV b,BA b (Bk c.1),B5 b];simp only[Ac,Aa,wT h,FK];cases(F2 d q.2.1[k].1).2 with
  |false=>rfl
  |true=>simp only[Au,Ad,AK,bne]) (λrec=>by unfold Qm;rw[Bh];rfl)]
 cases(List.range q.2.1.length).any λk=>HJ q.2.1 k λa=> !FK d a<;>cases Du q<;>cases dbB d<;>rfl
def Aiq{l:zI}(h:l.length<=lim):M3 l=some (!BK l (GP (l.length:Int) l)&&decide ((l.length:Int)<=5)):=by unfold M3 BK;rw[Ew (λk=>HJ l k (GP (l.length:Int) l k)) h (λk a b=>by unfold NG;rw[Bq a,AV a,BA a (Bk h),B5 a];simp only[Ac,Aa,Sg];rw[AO aG,UM];simp only[VC (l:=l.take k) (by rw[AH];omega),J6,GP];cases HH l[k] 0 (wZ ((l.length:Int) - 1))<;>rfl) (λrec=>by unfold NG;rw[Bh];rfl)];cases(List.range l.length).any λk=>HJ l k (GP (l.length:Int) l k)<;>simp[Aa]
def Sf(q:EM)(o:zI):Bool:=Du q&&(((o.length:Int)==q.1)&& !BK o (GP q.1 o))
def LA{q}(h:Du q=true):1<=q.1∧q.1<=5:=by unfold Du HH at h;simp only[Ab,AN]at h;exact h.1
def lJ{q o}(b:MA q)(c:o.length<=lim):Lc q o=some (Sf q o):=by
 unfold Lc IZ Sf;simp only[Sq b,Aiq c,Aa];cases d:Du q with
 |false=>rfl
 |true=>
  have e:=LA d;cases a:((o.length:Int)==q.1)with
  |false=>rfl
  |true=>
   have a:(o.length:Int)=q.1:=by simpa using a
   rw[a,Ak e.2];simp
def kR{q o}(a:MA q)(b:o.length<=lim):Ja q o=some (Sf q o):=by
 unfold Ja IP Sf;simp only[OS a,r7 b,Aa];cases Du q with
 |false=>rfl
 |true=>cases((o.length:Int)==q.1)<;>rfl
end
end Go.Proofs.YtdmpnamllcigdaaGreatDoor
