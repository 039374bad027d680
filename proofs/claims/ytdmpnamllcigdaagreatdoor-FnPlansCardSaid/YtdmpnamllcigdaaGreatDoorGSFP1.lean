/- The functions' code. No conditions. -/
import Derived.Test.YtdmpnamllcigdaaGreatDoorAv
import Derived.Test.YtdmpnamllcigdaaGreatDoorKb
open Go.RowKit
set_option linter.all false
namespace Go.Proofs.YtdmpnamllcigdaaGreatDoor
open Tryz
set_option maxRecDepth 100000
def AnE:B7 6 [2,3,4,6,7,9] [(5,9),(16,9)] [(1,[9]),(4,[14])] f6:=BB func6
def AkU:B7 31 [31] [] [(6,[28])] f31:=BB func31
def AkV:B7 32 [0,2,4,8,1000000] [(0,0),(39,4),(41,0),(40,900003),(40,900004),(43,900003),(43,900004),(44,900003),(44,900004),(45,900003),(45,900004)] [(10,[29,31]),(14,[46])] f32:=BB func32
def AkW:B7 33 [0,2,3,1000000] [] [(3,[9]),(6,[17])] f33:=BB func33
def AkX:B7 34 [0,3,4,5,1000000] [(0,0),(6,0),(9,0),(12,0)] [(1,[2000000]),(5,[26])] f34:=BB func34
def AkY:B7 35 [3,4,5,6,14] [(68,4)] [(1,[16]),(10,[41]),(13,[58])] f35:=BB func35
def AkZ:B7 36 [3,4,5,6,10,20] [(109,4),(52,900003),(52,900004),(54,900003),(54,900004),(56,900003),(56,900004),(58,900003),(58,900004),(60,900003),(60,900004),(65,900003),(65,900004)] [(1,[22]),(12,[51,57,61,1500057,1500061]),(21,[82]),(24,[99])] f36:=BB func36
def Ak5:B7 42 [2,3,5] [(45,3),(55,3),(87,2),(92,3),(114,3),(123,3),(130,3),(132,3)] [] f42:=BB func42
def Alj:B7 56 [2,3] [] [(18,[86]),(19,[90])] f56:=BB func56
def Alr:B7 81 [0,1000000] [] [] f81:=BB func81
def Als:B7 82 [0,8,11,1000000] [] [(5,[22]),(6,[29]),(7,[35])] f82:=BB func82
def Alu:B7 83 [0,1000000] [] [] f83:=BB func83
def Alv:B7 84 [0,1000000] [] [] f84:=BB func84
def Aly:B7 85 [0,2,4,6,9,1000000] [(0,0),(49,9),(51,0),(52,6),(57,9)] [(2,[13]),(4,[23]),(14,[50]),(15,[59,60]),(20,[75]),(22,[81]),(23,[82])] f85:=BB func85
def Alz:B7 86 [2,5] [(37,5),(50,5)] [(10,[38]),(21,[89])] f86:=BB func86
def AlA:B7 87 [0,2,3,1000000] [(0,0),(19,3),(21,0),(28,3),(31,3),(33,0),(38,3),(47,3),(52,0),(48,900003),(48,900004),(49,900003),(49,900004),(50,900003),(50,900004),(51,900003),(51,900004),(55,900003),(55,900004)] [(6,[20]),(8,[32]),(12,[51]),(13,[56])] f87:=BB func87
def AlB:B7 88 [0,3,1000000] [] [(4,[23])] f88:=BB func88
def AlC:B7 89 [0,3,4,5,1000000] [(0,0),(10,0),(11,3),(36,5),(39,0),(40,5),(49,5),(52,5),(61,5),(64,5),(69,0),(37,900003),(37,900004),(46,900003),(46,900004),(50,900003),(50,900004),(53,900003),(53,900004),(55,900003),(55,900004),(58,900003),(58,900004),(62,900003),(62,900004),(65,900003),(65,900004),(67,900003),(67,900004),(68,900003),(68,900004),(73,900003),(73,900004)] [(1,[8]),(11,[56]),(13,[68]),(14,[74])] f89:=BB func89
def AlD:B7 90 [0,3,4,5,1000000] [(0,0),(29,5),(31,0),(32,3),(40,5)] [(1,[8]),(7,[30]),(8,[41])] f90:=BB func90
def AlE:B7 91 [3,4,5,10] [(74,5),(52,900003),(52,900004),(54,900003),(54,900004),(56,900003),(56,900004),(58,900003),(58,900004),(60,900003),(60,900004),(65,900003),(65,900004),(85,900003),(85,900004),(90,900003),(90,900004),(95,900003),(95,900004),(97,900003),(97,900004),(99,900003),(99,900004),(104,900003),(104,900004)] [(6,[28]),(7,[29]),(15,[51,57,61,1500057,1500061]),(22,[84,96,100,1500096,1500100]),(23,[105])] f91:=BB func91
def AlF:B7 92 [1] [(34,900003),(34,900004),(36,900003),(36,900004),(38,900003),(38,900004),(40,900003),(40,900004),(42,900003),(42,900004),(44,900003),(44,900004),(46,900003),(46,900004),(47,900003),(47,900004)] [(5,[16]),(9,[41,45,1500041,1500045]),(10,[48])] f92:=BB func92
def AlL:B7 98 [2,3,4,6] [(23,2),(26,2),(27,2),(64,6),(65,6),(71,6),(72,6)] [(7,[43]),(10,[51]),(11,[52]),(13,[66]),(16,[75])] f98:=BB func98
def AfK:B7 119 [4,5,10] [(29,5),(76,10)] [(2,[23]),(4,[27]),(8,[46]),(17,[98]),(18,[106])] f119:=BB func119
def AfQ:B7 125 [1,4,6] [] [(22,[56]),(24,[60,61])] f125:=BB func125
def AfS:B7 127 [2,4,7,9,25] [(45,7),(47,7),(54,9),(62,9)] [(4,[7,25]),(15,[55]),(29,[102]),(31,[108])] f127:=BB func127
def AfV:B7 130 [1,3,6] [] [] f130:=BB func130
def AfY:B7 133 [2,1000002] [] [] f133:=BB func133
def Af1:B7 136 [1,2,1000001,1000002] [] [] f136:=BB func136
def Af5:B7 140 [] [] [(6,[18])] f140:=BB func140
def Af8:B7 143 [] [] [] f143:=BB func143
def Agd:B7 163 [0,1000000] [] [(3,[13]),(4,[19])] f163:=BB func163
def Agf:B7 164 [0,1000000] [(0,0),(13,0),(14,0),(15,0),(18,0),(19,0),(20,0),(25,0),(26,0),(27,0),(29,0),(30,0),(31,0),(36,0),(37,0),(38,0),(40,0),(41,0),(42,0)] [] f164:=BB func164
def Agg:B7 165 [0,1000000] [] [] f165:=BB func165
def Agk:B7 169 [0,1000000] [] [(6,[23]),(7,[27])] f169:=BB func169
def Agl:B7 170 [2,4,8] [(105,900003),(105,900004),(117,900003),(117,900004),(129,900003),(129,900004),(136,900003),(136,900004)] [(16,[67]),(31,[130]),(32,[138,139]),(33,[144]),(34,[149])] f170:=BB func170
def Agt:B7 177 [] [] [(13,[47,50]),(17,[59,62]),(19,[67])] f177:=BB func177
def AgC:B7 186 [5] [] [(9,[35]),(10,[36]),(15,[55]),(18,[65]),(19,[66])] f186:=BB func186
def AgD:B7 187 [8,62] [] [(6,[27]),(10,[52]),(12,[8,62]),(18,[81]),(20,[91]),(24,[118])] f187:=BB func187
def AgI:B7 192 [] [] [(2,[12]),(16,[53]),(18,[58]),(21,[75,76]),(22,[79])] f192:=BB func192
def AgL:B7 195 [1,2,3,1000001,1000002,1000003] [] [] f195:=BB func195
def AgO:B7 198 [2,4,5,10] [] [(8,[23]),(9,[24]),(11,[34,35]),(12,[40]),(16,[52]),(18,[58])] f198:=BB func198
def AgU:B7 205 [1] [] [(11,[39,40]),(12,[41])] f205:=BB func205
def Ahc:B7 236 [2,3,5,6,7,11,12] [] [(11,[34]),(12,[42,43]),(13,[46]),(18,[53])] f236:=BB func236
def Ahh:B7 242 [2] [] [] f242:=BB func242
def Ahm:B7 266 [2,3,4,5,6,7,8,1000002,1000003,1000004,1000005,1000006,1000007,1000008] [] [(10,[46,50]),(11,[53]),(13,[61]),(17,[81]),(20,[86,87])] f266:=BB func266
def Ahn:B7 267 [15] [(85,900003),(85,900004),(87,900003),(87,900004),(89,900003),(89,900004),(91,900003),(91,900004),(93,900003),(93,900004),(95,900003),(95,900004),(97,900003),(97,900004),(98,900003),(98,900004)] [(7,[38]),(10,[48]),(20,[92,96,1500092,1500096]),(33,[156]),(34,[160])] f267:=BB func267
def Ahu:B7 281 [0,1,7,10,12,1000000,1000001] [] [] f281:=BB func281
def Ahx:B7 284 [4,7] [] [] f284:=BB func284
set_option maxRecDepth 100000
def AnC:B7 3 [3,4,5,6,8,12] [(83,12)] [(3,[16]),(4,[22]),(7,[48]),(10,[61]),(11,[67])] f3:=BB func3
set_option maxRecDepth 100000
set_option maxHeartbeats 1000000
def aw(a:zI):Option Bool:=some<|decide (1048576 < (a.length:Int))
instance pC{a:zI}:Qe 5 (aw a) [dL Lo a] (λb=>.bool b):=sX [] [] [] func5
abbrev Et:=zI×Int×Int
def PU(a:zI)(b:(Int×Int)->Option Int)(c:Int×Int):Option Int:=match c with
  |(d,e)=>cond (decide (e < (a.length:Int))) (cond (decide (e < 4000)) (Aa (AU a e) λf=>b ((mf (wZ<|(wZ<|(wZ<|d * 131)+(wZ f))+7) 1073741823),(wZ<|e+1)))<|some d)<|some d
def WI(a:zI):Option Et:=Aa (Ay (PU a) fz ((wZ<|10101+(a.length:Int)),0)) λb=>some (a,0,b)
def lR{a b}(h:WI a=some b):NewAt Tryz.prog 31 [aL Lo a] [aL Lo b.1,nI b.2.1,nI b.2.2]:=stn AkU E E<|rn 2 E<|Ar λc d=>rn 1 E (D6 h λe f g=>have i:∀{j:Int},j=e->Jn c [(0,aL Lo a),(3,nI j)]:=@λj h _ k=>have h:=g h;d _<|lh k E<|rn 1 E<|sj h ▸ Ap ⟨.inl E,31,E,E⟩;(A9 (λ(l:Int×Int)=>match l with|(m,n)=>[(0,aL Lo a),(3,nI m),(4,nI n)]) _ _ _ _ f (AX E) (λ_=>E)<|λo=>IV λm n p h q=>CL λr=>rs<|sp 5 E<|Eo h (λs h=>qg 12 s E<|AY 3 E<|BT h E (λh=>Cf r<|CL λt=>A4<|rg<|sp 4 E<|A8 h λu v h=>qI E qq v<|AY 6 E<|t _<|rg<|AY 3 E<|q _ _ h<|AX E) λh=>AJ<|i (sj h) _<|AX E) λs h=>qg 12 s E<|AY 3 E<|qF E E<|AJ<|i (sj h) _<|AX E))
def RE(a:Et)(b:Int)(c:Int):Option (Int×Et):=some (c,(a.1,b,wZ<|(wZ<|a.2.2 * 6364136223846793005)+1442695040888963407))
def MG(a:Et):Option (Int×Et):=cond (decide (a.2.1 < (a.1.length:Int))) (Aa (AU a.1 a.2.1) λb=>RE a (wZ<|a.2.1+1)<|mf (wZ<|(mf (AmB (Aco (wZ<|(wZ<|a.2.2 * 6364136223846793005)+1442695040888963407) 33)<|Aco (wZ<|(wZ<|a.2.2 * 6364136223846793005)+1442695040888963407) 45) 255)+(wZ b)) 255)<|RE a a.2.1<|mf (AmB (Aco (wZ<|(wZ<|a.2.2 * 6364136223846793005)+1442695040888963407) 33)<|Aco (wZ<|(wZ<|a.2.2 * 6364136223846793005)+1442695040888963407) 45) 255
instance PT{a:Et}:MH 164 (MG a) [aL Lo a.1,nI a.2.1,nI a.2.2] [] (λb=>[aL Lo b.2.1,nI b.2.2.1,nI b.2.2.2]) (λb=>nI b.1):=MH.mk λh=>stp Agf E U0
def Xh(a:Et):List V:=[aL Lo a.1,nI a.2.1,nI a.2.2]
def DH(a:Et)(b:Int):Option (Int×Et):=cond (decide (b<=0)) (some (0,a))<|cond (decide (b<=256)) (Aa (MG a) λc=>chk (b≠0)<|some (Int.tmod c.1 b,c.2))<|Aa (MG a) λd=>Aa (MG d.2) λe=>Aa (MG e.2) λf=>Aa (MG f.2) λg=>chk (b≠0)<|some (Int.tmod (wZ<|(wZ<|(wZ<|(wZ<|d.1 * 16777216)+(wZ<|e.1 * 65536))+(wZ<|f.1 * 256))+g.1) b,g.2)
instance Dq{a:Et}{b:Int}:MH 84 (DH a b) [aL Lo a.1,nI a.2.1,nI a.2.2] [nI b] (λc=>[aL Lo c.2.1,nI c.2.2.1,nI c.2.2.2]) (λc=>nI c.1):=MH.mk λh=>stp Alv E U0
def I2(a:Et)(b:zI):Option (Int×Et):=Aa (DH a (b.length:Int)) λc=>Aa (AU b c.1) λd=>some (d,c.2)
instance Mw{a:Et}{b:zI}:MH 81 (I2 a b) [aL Lo a.1,nI a.2.1,nI a.2.2] [dL Am b] (λc=>[aL Lo c.2.1,nI c.2.2.1,nI c.2.2.2]) (λc=>nI c.1):=MH.mk λh=>stp Alr E U0
abbrev FH:=Int×(List zI)
def BL(a:zI):List V:=[dL Am a]
def Da(a:zI):(BL a).length=1:=E
def Dg(a:zI):ON (BL a)=BL a:=(Ba (BE AG _) E)
def AS(a:zI):List V:=[oL 3 Am a]
def Db(a:zI):(AS a).length=1:=E
def E3(a:zI):ON (AS a)=BL a:=(Ba (SB AG _) E)
def Qh(a:FH):List V:=[nI a.1,dL BL a.2]
def LT(a:FH):List V:=[nI a.1,oL 28 AS a.2]
def UJ(a:FH)(b:(List zI×Int)->Option (List zI))(c:(List zI)×Int):Option (List zI):=match c with
  |(d,e)=>cond (decide (e < (a.2.length:Int))) (Aa (AU a.2 e) λf=>chk (List.length ([]:zI)+List.length f<=lim)<|chk (List.length d+List.length ([([]:zI)++f])<=lim)<|b ((d++([([]:zI)++f])),(wZ<|e+1)))<|some d
def SY(a:FH):Option FH:=Aa (Ay (UJ a) fz (([]:List zI),0)) λb=>some (a.1,b)
instance{a:FH}:Xs (UJ a) (λ(m,n)=>[(3,.box [nI a.1,oL 28 AS m]),(4,nI n)]) [1,2]:=⟨⟩
instance Zh{a:FH}:Qe 114 (SY a) [.agg (Qh a)] (λb=>.agg (LT b)):=sX [1,2,3] [(15,3),(18,1),(26,3)] [(5,[16,22]),(6,[27])] func114
def LM(a:zI)(b:zI)(c:Int->Option (Sum Unit Int))(d:Int):Option (Sum Unit Int):=cond (decide (d < (a.length:Int))) (cond (decide (d < (b.length:Int))) (Aa (AU a d) λe=>Aa (AU b d) λf=>cond (decide (e < f)) (some<|.inr (-1))<|Aa (AU a d) λg=>Aa (AU b d) λi=>cond (decide (i < g)) (some<|.inr 1)<|c<|wZ<|d+1)<|some<|.inl ())<|some<|.inl ()
def Gj(a:zI)(b:zI):Option Int:=Aa (Ay (LM a b) fz 0) λc=>(match c with
  |.inl _=>(cond (decide ((a.length:Int) < (b.length:Int))) (some (-1))<|cond (decide ((b.length:Int) < (a.length:Int))) (some 1)<|some 0)
  |.inr d=>some d)
instance{a:zI}{b:zI}:Xs (LM a b) (λn=>[(5,nI n)]) [0,1]:=⟨⟩
instance Is{a:zI}{b:zI}:Qe 49 (Gj a b) [dL Am a,dL Am b] (λc=>nI c):=sX [] [] [] func49
def TQ(a:Bool):Option Bool:=some a
def H3(a:Int)(b:Int)(c:Int):Option Bool:=cond (decide (b<=a)) (TQ<|decide (a<=c))<|TQ false
instance HA{a:Int}{b:Int}{c:Int}:Qe 115 (H3 a b c) [nI a,nI b,nI c] (λd=>.bool d):=sX [] [] [] func115
def M0(a:zI)(b:Int->Option (Sum Unit Bool))(c:Int):Option (Sum Unit Bool):=cond (decide (c < (a.length:Int))) (Aa (AU a c) λd=>Aa (H3 d 0 99) λe=>cond (!e) (some<|.inr false)<|b<|wZ<|c+1)<|some<|.inl ()
def JH(a:zI):Option Bool:=Aa (Ay (M0 a) fz 0) λb=>(match b with
  |.inl _=>(some true)
  |.inr c=>some c)
instance{a:zI}:Xs (M0 a) (λk=>[(3,nI k)]) [0]:=⟨⟩
instance RV{a:zI}:Qe 191 (JH a) [dL Am a] (λb=>.bool b):=sX [] [] [] func191
def FU(a:Int->Option (Sum Unit Bool))(b:Int)(c:Bool):Option (Sum Unit Bool):=cond c (some<|.inr false)<|a<|wZ<|b+1
def Jp(a:FH)(b:Int->Option (Sum Unit Bool))(c:Int):Option (Sum Unit Bool):=cond (decide (c < (a.2.length:Int))) (Aa (AU a.2 c) λd=>cond ((d.length:Int)!=a.1) (FU b c true)<|Aa (AU a.2 c) λe=>Aa (JH e) λf=>cond (!f) (FU b c true)<|cond (decide (0 < c)) (Aa (AU a.2<|wZ<|c - 1) λg=>Aa (AU a.2 c) λi=>Aa (Gj g i) λj=>FU b c<|decide (0<=j))<|FU b c false)<|some<|.inl ()
def Fn(a:FH):Option Bool:=Aa (H3 a.1 0 5) λb=>cond (!b) (some false) (cond (decide (4000 < (a.2.length:Int))) (some false) (Aa (Ay (Jp a) fz 0) λc=>(match c with
  |.inl _=>(some true)
  |.inr d=>some d)))
instance{a:FH}:Xs (Jp a) (λo=>[(3,nI o)]) [1]:=⟨⟩
instance HW{a:FH}:Qe 117 (Fn a) [.agg (Qh a)] (λb=>.bool b):=sX [1] [(21,1),(27,1),(31,1),(43,1),(49,1)] [] func117
def OH(a:(List zI×List zI×(List zI))->Option (List zI))(b:List zI)(c:List zI)(d:List zI)(e:zI)(f:Bool):Option (List zI):=cond f (chk (List.length b+List.length [e]<=lim)<|a (c,d,(b++[e])))<|a (c,d,b)
def OG(a:(List zI×List zI×(List zI))->Option (List zI))(b:List zI)(c:List zI)(d:List zI)(e:zI):Option (List zI):=cond ((b.length:Int)==0) (OH a b c d e true)<|Aa (AU b<|wZ<|(b.length:Int) - 1) λf=>Aa (Gj f e) λg=>OH a b c d e<|g !=0
def I3(a:(List zI×List zI×(List zI))->Option (List zI))(b:List zI)(c:List zI)(d:List zI)(e:Int):Option (List zI):=cond (decide (0 < e)) (Aa (AU c 0) λf=>chk ((0:Int)<=1∧1<=(c.length:Int)∧(c.length:Int)<=(c.length:Int))<|OG a d b (CZ c 1 (c.length:Int)) f)<|Aa (AU b 0) λg=>chk ((0:Int)<=1∧1<=(b.length:Int)∧(b.length:Int)<=(b.length:Int))<|OG a d (CZ b 1 (b.length:Int)) c g
def Kl(a:(List zI×List zI×(List zI))->Option (List zI))(b:List zI)(c:List zI)(d:List zI)(e:Bool):Option (List zI):=cond e (cond ((b.length:Int)==0) (I3 a b c d 1)<|cond (decide (0 < (c.length:Int))) (Aa (AU b 0) λf=>Aa (AU c 0) λg=>Aa (Gj f g) λi=>I3 a b c d i)<|I3 a b c d (-1))<|some d
def F7(a:(List zI×List zI×(List zI))->Option (List zI))(b:(List zI)×List zI×(List zI)):Option (List zI):=match b with
  |(c,d,e)=>cond (decide (0 < (c.length:Int))) (Kl a c d e true)<|Kl a c d e<|decide (0 < (d.length:Int))
def Lv(a:(List zI)->Option (List zI))(b:(List zI)):Option (List zI):=cond (decide ((b.length:Int) < 2)) (some b)<|chk ((0:Int)<=0∧0<=wZ (Int.tdiv (b.length:Int) 2)∧wZ (Int.tdiv (b.length:Int) 2)<=(b.length:Int))<|Aa (a<|CZ b 0<|wZ<|Int.tdiv (b.length:Int) 2) λc=>chk ((0:Int)<=wZ (Int.tdiv (b.length:Int) 2)∧wZ (Int.tdiv (b.length:Int) 2)<=(b.length:Int)∧(b.length:Int)<=(b.length:Int))<|Aa (a<|CZ b (wZ<|Int.tdiv (b.length:Int) 2) (b.length:Int)) λd=>Aa (Ay F7 fz (c,d,([]:List zI))) λe=>some e
def XX(a:List zI):Option (List zI):=Ay Lv fz a
instance:Xs F7 (λ(w,x,y)=>[(4,dL BL w),(5,dL BL x),(6,oL 28 BL y)]) []:=⟨⟩
instance iJ{a:List zI}:Qe 192 (XX a) [dL BL a] (λb=>dL BL b):=Qe.mk @λb h=>by
 suffices c:∀d (a:List zI) (b:(List zI)),Ay Lv d a=some b->Bf 192 [dL BL a] (dL BL b)from c fz a b h
 refineλd=>?_
 induction d with
 |zero=>intro a b h;cases h
 |succ d e=>
  intro a b h
  have ih:∀{a:List zI}{b:(List zI)},Ay Lv d a=some b->Bf 192 [dL BL a] (dL BL b):=λh=>e _ _ h
  change Lv (Ay Lv d) a=some b at h
  exact st AgI E U0
def PC(a:Int)(b:List zI)(c:Int->Option (Sum Unit<|FH×Bool))(d:Int):Option (Sum Unit<|FH×Bool):=cond (decide (d < (b.length:Int))) (Aa (AU b d) λe=>cond ((e.length:Int)!=a) (some<|.inr ((0,[]),false))<|Aa (AU b d) λf=>Aa (JH f) λg=>cond (!g) (some<|.inr ((0,[]),false))<|c<|wZ<|d+1)<|some<|.inl ()
def Iv(a:Int)(b:List zI):Option (FH×Bool):=Aa (Ay (PC a b) fz 0) λc=>(match c with
  |.inl _=>(Aa (XX b) λd=>Aa (SY (a,d)) λe=>Aa (Fn e) λf=>cond (!f) (some ((0,[]),false))<|some (e,true))
  |.inr g=>some g)
instance{a:Int}{b:List zI}:Xs (PC a b) (λs=>[(6,nI s)]) [0,1,4]:=⟨⟩
instance M6{a:Int}{b:List zI}:Qe 118 (Iv a b) [nI a,dL BL b] (λc=>.tup [.agg (LT c.1),.bool c.2]):=sX [4,7] [] [(9,[39])] func118
def Su(a:Int)(b:Int)(c:(zI×Int×Int×zI)->Option (zI×Int×Int×zI))(d:zI×Int×Int×zI):Option (zI×Int×Int×zI):=match d with
  |(e,f,g,i)=>cond (decide ((i.length:Int) < a)) (Aa (DH (e,f,g) b) λj=>chk (List.length i+List.length [j.1]<=lim)<|c (j.2.1,j.2.2.1,j.2.2.2,(i++[j.1])))<|some (e,f,g,i)
def WJ(a:Et)(b:Int)(c:Int):Option (zI×Et):=Aa (Ay (Su b c) fz (a.1,a.2.1,a.2.2,([]:zI))) λd=>(match d with
  |(e,f,g,i)=>(some (i,(e,f,g))))
instance{a:Int}{b:Int}:Xs (Su a b) (λ(r,s,t,u)=>[(0,.box [aL Lo r,nI s,nI t]),(7,oL 3 Am u)]) [1,2]:=⟨⟩
instance lS{a:Et}{b:Int}{c:Int}:MH 163 (WJ a b c) [aL Lo a.1,nI a.2.1,nI a.2.2] [nI b,nI c] (λd=>[aL Lo d.2.1,nI d.2.2.1,nI d.2.2.2]) (λd=>oL 3 Am d.1):=MH.mk λh=>stp Agd E U0
def Sv(a:Int)(b:Int)(c:(zI×Int×Int×List zI×Int)->Option (zI×Int×Int×(List zI)))(d:zI×Int×Int×List zI×Int):Option (zI×Int×Int×(List zI)):=match d with
  |(e,f,g,i,j)=>cond (decide (0 < j)) (Aa (WJ (e,f,g) a b) λk=>chk (List.length i+List.length [k.1]<=lim)<|c (k.2.1,k.2.2.1,k.2.2.2,(i++[k.1]),(wZ<|j - 1)))<|some (e,f,g,i)
def WM(a:Et)(b:Int)(c:Int)(d:Int):Option (FH×Et):=Aa (DH a (wZ (c+1))) λe=>Aa (Ay (Sv b d) fz (e.2.1,e.2.2.1,e.2.2.2,([]:List zI),e.1)) λf=>(match f with
  |(g,i,j,k)=>(Aa (Iv b k) λl=>some (l.1,(g,i,j))))
instance{a:Int}{b:Int}:Xs (Sv a b) (λ(w,x,y,z,A)=>[(0,.box [aL Lo w,nI x,nI y]),(9,oL 28 AS z),(10,nI A)]) [1,3,8]:=⟨⟩
instance lT{a:Et}{b:Int}{c:Int}{d:Int}:MH 82 (WM a b c d) [aL Lo a.1,nI a.2.1,nI a.2.2] [nI b,nI c,nI d] (λe=>[aL Lo e.2.1,nI e.2.2.1,nI e.2.2.2]) (λe=>.agg (LT e.1)):=MH.mk λh=>stp Als E U0
def JX(a:Et)(b:Int):Option (Bool×Et):=Aa (DH a b) λc=>some ((c.1==0),c.2)
instance Lu{a:Et}{b:Int}:MH 83 (JX a b) [aL Lo a.1,nI a.2.1,nI a.2.2] [nI b] (λc=>[aL Lo c.2.1,nI c.2.2.1,nI c.2.2.2]) (λc=>.bool c.1):=MH.mk λh=>stp Alu E U0
abbrev En:=zU×FH
def Dc(a:En):List V:=[.str a.1,nI a.2.1,dL BL a.2.2]
def KM(a:En):List V:=[.str a.1,nI a.2.1,oL 28 AS a.2.2]
def io(a:En):(KM a).length=3:=E
def Z9(a:En):ON (KM a)=Dc a:=(Ba E<|Ba E<|Ba (SB E3 _) E)
def KN(a:zI):GK (AS a)=true:=(Of (TY (λ_=>E) 3 _) VP)
def tZ(a:En):GK (KM a)=true:=(Of E<|Of E<|Of (TY KN 28 _) VP)
def RK(a:(zI×Int×Int×List En×Int)->Option (zI×Int×Int×(List En)))(b:Int×Et)(c:zI)(d:Int)(e:Int)(f:List En)(g:Int)(i:zU)(j:Int):Option (zI×Int×Int×(List En)):=Aa (I2 (c,d,e) [3,6,9]) λk=>Aa (WM k.2 j k.1 b.1) λl=>chk (List.length f+List.length [(i,l.1)]<=lim)<|a (l.2.1,l.2.2.1,l.2.2.2,(f++[(i,l.1)]),(wZ<|g+1))
def Pc(a:Int×Et)(b:(zI×Int×Int×List En×Int)->Option (zI×Int×Int×(List En)))(c:zI×Int×Int×List En×Int):Option (zI×Int×Int×(List En)):=match c with
  |(d,e,f,g,i)=>cond (decide (i < (List.length ([[114],[115],[116],[117],[118]]):Int))) (Aa (AU ([[114],[115],[116],[117],[118]]) i) λj=>cond (j==[118]) (RK b a d e f g i j 3)<|RK b a d e f g i j 2)<|some (d,e,f,g)
def TU(a:zI)(b:Int)(c:Int)(d:List En):Option (List En×Et):=some (d,(a,b,c))
def YG(a:Et):Option (List En×Et):=Aa (I2 a [2,3,4,6]) λb=>Aa (Ay (Pc b) fz (b.2.1,b.2.2.1,b.2.2.2,([]:List En),0)) λc=>(match c with
  |(d,e,f,g)=>(Aa (JX (d,e,f) 8) λi=>cond i.1 (chk (0 < g.length) (Aa (DH i.2 5) λj=>Aa (AU g j.1) λk=>TU j.2.1 j.2.2.1 j.2.2.2 (CY g j.1 (k.1,(k.2.1,[]))))) (TU i.2.1 i.2.2.1 i.2.2.2 g)))
instance oa{a:Et}:MH 32 (YG a) [aL Lo a.1,nI a.2.1,nI a.2.2] [] (λc=>[aL Lo c.2.1,nI c.2.2.1,nI c.2.2.2]) (λc=>.agg [oL 123 KM c.1]):=MH.mk @λc h=>stp AkV E (rn 1 E (rs (sp 1 E (qBk Am [2,3,4,6] 3 1 (by kernel_rfl) E A6 (A8 h λd e h=>qP E E E E (qa E (SB AG _) AT) (Mw.s e) (AY 1 E (rn 1 E (Ar λf g=>rs (qBk cst [[114],[115],[116],[117],[118]] 9 1 (by kernel_rfl) E TX (AY 2 E (D6 h λj k l=>have m:∀{n:zI}{o:Int}{p:Int}{r:List En},(n,o,p,r)=j->Jn f [(0,.box [aL Lo n,nI o,nI p]),(2,.box [oL 123 KM []]),(4,.box [oL 123 KM r])]:=@λn o p r h _ s=>have h:=l h;g _ (lh s E (Ar λt u=>rs (sp 1 E (A8 h λv w h=>qP E E E E (qs E AT) (Lu.s w) (OR (have x:∀{y:zI}{z:Int}{A:Int}{B:List En},TU y z A B=some c->Jn t [(0,.box [aL Lo y,nI z,nI A]),(2,.box [oL 123 KM []]),(4,.box [oL 123 KM B])]:=@λy z A B h _ s=>u _ (lh s E (rn 1 E (sj h ▸ Ap ⟨.inl E,E,E⟩)));(BT h E (λh=>qk [0,2,4] E (D9 h λC h=>E0 (gLb (q:=900003) (b:=4) [] [] E E E C (λD F=>qk [0,2,4,900003] E (N1 (rgt 4 (by kernel_rfl) (sd 3 E (A8 h λH I h=>ed E (qP E E E E (qs E AT) (Dq.s I) (CN (Ky (A8 h λJ K h=>V7 E E E E K (sp 2 E (Al0 (y0:=J) (i:=H.1) (es:=3) (e2:=28) 2 (J.1,(J.2.1,[])) [0,2,4] E E E E E E E E io K (λL=>Qx (tZ L)) (yc (Im (sA (aca (λ_=>E) _)) (Im E (Im E E))) (yc (Im E E) (yc (Im E E) yn))) (OR (gDb (q:=900003) (b:=4) [] [] E E E (sl E) (x h _ (AX E)))))))))))))))))) λh=>Ci (x h _ (AX E)))))))));(A9 (λ(M:zI×Int×Int×List En×Int)=>match M with|(N,O,P,Q,R)=>[(0,.box [aL Lo N,nI O,nI P]),(2,.box [oL 123 KM []]),(3,nI d.1),(4,.box [oL 123 KM Q]),(13,oL 9 cst ([[114],[115],[116],[117],[118]])),(14,nI (List.length ([[114],[115],[116],[117],[118]]):Int)),(15,nI R)]) _ _ _ _ k (AX E) (λ_=>E) (λS=>pr5 λN O P Q R T h U=>rn 1 E (CL λV=>BT h E (λh=>Cf V (CL λW=>A4 (rs (A8 h λX Y h=>qI E TX Y (AY 2 E (rn 1 E (Ar λZ a=>rn 1 E (have e:∀{f:Int},RK (Ay (Pc d) S) d N O P Q R X f=some j->Jn Z [(0,.box [aL Lo N,nI O,nI P]),(2,.box [oL 123 KM []]),(3,nI d.1),(4,.box [oL 123 KM Q]),(6,.str X),(7,nI f),(13,oL 9 cst ([[114],[115],[116],[117],[118]])),(14,nI (List.length ([[114],[115],[116],[117],[118]]):Int)),(15,nI R)]:=@λf h _ s=>a _ (lh s E (rs (sp 3 E (Gi Am [3,6,9] E E E A6 (A8 h λn o h=>qP E E E E (qa E (SB AG _) AT) (Mw.s o) (sp 1 E (A8 h λp r h=>qP E E E E (qs E (qs E (qs E AT))) (lT.s r) (AY 2 E (rg (sp 5 E (Gi KM [(X,p.1)] E E E io (D9 h λg h=>qA KM Q [(X,p.1)] E E (Bu io [(X,p.1)]) E g (AY 2 E (W _ (rg (AY 2 E (U _ _ h (AX E))))))))))))))))));(BT h E (λh=>rg (AY 1 E (e h _ (AX E)))) λh=>Ci (e h _ (AX E))))))))))) λh=>AJ (m (sj h) _ (AX E))))))))))))))))
abbrev PW:=zU×zI
def Cb(a:PW):List V:=[.str a.1,dL Am a.2]
def H8(a:PW):(Cb a).length=2:=E
def Cs(a:PW):ON (Cb a)=Cb a:=(Ba E<|Ba (BE AG _) E)
def Lt(a:PW)(b:Int)(c:Int->Option (Sum Unit Bool))(d:Int):Option (Sum Unit Bool):=cond (decide (d < (a.2.length:Int))) (Aa (AU a.2 d) λe=>cond (e==b) (some<|.inr true)<|c<|wZ<|d+1)<|some<|.inl ()
def Dy(a:PW)(b:Int):Option Bool:=Aa (Ay (Lt a b) fz 0) λc=>(match c with
  |.inl _=>(some false)
  |.inr d=>some d)
instance{a:PW}{b:Int}:Xs (Lt a b) (λl=>[(5,nI l)]) [1,2]:=⟨⟩
instance DW{a:PW}{b:Int}:Qe 109 (Dy a b) [.agg (Cb a),nI b] (λc=>.bool c):=sX [2] [] [] func109
def UK(a:zI)(b:Int)(c:Int->Option (Sum Unit Int))(d:Int):Option (Sum Unit Int):=cond (decide (d < (a.length:Int))) (Aa (AU a d) λe=>cond (e==b) (some<|.inr d)<|c<|wZ<|d+1)<|some<|.inl ()
def HB(a:zI)(b:Int):Option Int:=Aa (Ay (UK a b) fz 0) λc=>(match c with
  |.inl _=>(some (-1))
  |.inr d=>some d)
instance{a:zI}{b:Int}:Xs (UK a b) (λl=>[(5,nI l)]) [0,1]:=⟨⟩
instance HI{a:zI}{b:Int}:Qe 112 (HB a b) [dL Am a,nI b] (λc=>nI c):=sX [] [] [] func112
def PB(a:zU)(b:Int->Option (Sum Unit Bool))(c:Int):Option (Sum Unit Bool):=cond (decide (c < (a.length:Int))) (Aa (AU a c) λd=>cond (decide ((UInt8.toNat d:Int) < 97)) (some<|.inr false)<|Aa (AU a c) λe=>cond (decide (122 < (UInt8.toNat e:Int))) (some<|.inr false)<|b<|wZ<|c+1)<|some<|.inl ()
def Mq(a:zU):Option Bool:=Aa (Ay (PB a) fz 0) λb=>(match b with
  |.inl _=>(Aa (H3 (a.length:Int) 1 4) λc=>some c)
  |.inr d=>some d)
instance{a:zU}:Xs (PB a) (λm=>[(3,nI m)]) [0]:=⟨⟩
instance UF{a:zU}:Qe 116 (Mq a) [.str a] (λb=>.bool b):=sX [] [] [] func116
abbrev DA:=Int×List PW×zI
def Cl(a:DA):List V:=[nI a.1,dL Cb a.2.1,dL Am a.2.2]
def OD(a:DA)(b:Int)(c:Int->Option (Sum Unit Bool))(d:Int):Option (Sum Unit Bool):=Aa (AU a.2.1 b) λe=>cond (decide (d < (e.2.length:Int))) (Aa (AU a.2.1 b) λf=>Aa (AU f.2 d) λg=>Aa (H3 g 0<|wZ<|a.1 - 1) λi=>cond (!i) (some<|.inr false)<|c<|wZ<|d+1)<|some<|.inl ()
def Ld(a:DA)(b:Int->Option (Sum Unit Bool))(c:Int):Option (Sum Unit Bool):=cond (decide (c < (a.2.1.length:Int))) (Aa (AU a.2.1 c) λd=>Aa (Mq d.1) λe=>cond (!e) (some (.inr false)) (Aa (AU a.2.1 c) λf=>Aa (H3 (f.2.length:Int) 1 5) λg=>cond (!g) (some (.inr false)) (Aa (Ay (OD a c) fz 0) λi=>(match i with
  |.inl _=>(b<|wZ<|c+1)
  |.inr j=>some (.inr j))))) (some (.inl ()))
def Lg(a:(Bool×Int)->Option Bool)(b:Int)(c:Bool):Option Bool:=a (c,(wZ<|b+1))
def Hx(a:DA)(b:Int)(c:(Bool×Int)->Option Bool)(d:Bool×Int):Option Bool:=match d with
  |(e,f)=>cond (decide (f < (a.2.1.length:Int))) (cond e (Lg c f true)<|Aa (AU a.2.1 f) λg=>Aa (Dy g b) λi=>Lg c f i)<|some e
def Le(a:DA)(b:Int->Option (Sum Unit Bool))(c:Int):Option (Sum Unit Bool):=cond (decide (c < a.1)) (Aa (Ay (Hx a c) fz (false,0)) λd=>cond (!d) (some<|.inr false)<|b<|wZ<|c+1)<|some<|.inl ()
def Lf(a:DA)(b:Int->Option (Sum Unit Bool))(c:Int):Option (Sum Unit Bool):=cond (decide (c < (a.2.2.length:Int))) (Aa (AU a.2.2 c) λd=>Aa (H3 d 0<|wZ<|a.1 - 1) λe=>cond (!e) (some<|.inr false)<|chk ((0:Int)<=0∧0<=c∧c<=(a.2.2.length:Int))<|Aa (AU a.2.2 c) λf=>Aa (HB (CZ a.2.2 0 c) f) λg=>cond (decide (0<=g)) (some<|.inr false)<|b<|wZ<|c+1)<|some<|.inl ()
def DO(a:DA):Option Bool:=Aa (H3 a.1 1 5) λb=>cond (!b) (some false) (Aa (H3 (a.2.1.length:Int) 1 4) λc=>cond (!c) (some false) (cond (decide (a.1 < (a.2.2.length:Int))) (some false) (Aa (Ay (Ld a) fz 0) λd=>(match d with
  |.inl _=>(Aa (Ay (Le a) fz 0) λe=>(match e with
  |.inl _=>(Aa (Ay (Lf a) fz 0) λf=>(match f with
  |.inl _=>(some true)
  |.inr g=>some g))
  |.inr g=>some g))
  |.inr g=>some g))))
instance{a:DA}{b:Int}:Xs (OD a b) (λU=>[(4,nI U)]) [1,3]:=⟨⟩
instance{a:DA}:Xs (Ld a) (λx=>[(3,nI x)]) [1]:=⟨⟩
instance{a:DA}{b:Int}:Xs (Hx a b) (λ(f,g)=>[(6,.bool f),(7,nI g)]) [1,5]:=⟨⟩
instance{a:DA}:Xs (Le a) (λT=>[(5,nI T)]) [1]:=⟨⟩
instance{a:DA}:Xs (Lf a) (λB=>[(8,nI B)]) [1]:=⟨⟩
instance D8{a:DA}:Qe 45 (DO a) [.agg (Cl a)] (λb=>.bool b):=sX [1] [(65,1),(74,1),(111,1),(116,1),(122,1),(126,1)] [] func45
def Js(a:Int):Option (zU):=Aa (H3 a 0 4) λb=>cond (!b) (some [])<|chk ((0:Int)<=a∧a<=wZ (a+1)∧wZ (a+1)<=(List.length [88,89,90,85,86]:Int))<|some<|CZ [88,89,90,85,86] a<|wZ<|a+1
instance PE{a:Int}:Qe 144 (Js a) [nI a] (λb=>.str b):=sX [] [] [] func144
def VD(a:(List zU×Int×Int)->Option (List zU×Int))(b:Int)(c:List zU)(d:Int):Option (List zU×Int):=a (c,d,(wZ<|b+1))
def Zi(a:zU)(b:Int)(c:(List zU×Int×Int)->Option (List zU×Int))(d:(List zU)×Int×Int):Option (List zU×Int):=match d with
  |(e,f,g)=>cond (decide (g < (a.length:Int))) (Aa (AU a g) λi=>cond ((UInt8.toNat i:Int)==b) (chk ((0:Int)<=f∧f<=g∧g<=(a.length:Int))<|chk (List.length e+List.length [CZ a f g]<=lim)<|VD c g (e++[CZ a f g])<|wZ<|g+1)<|VD c g e f)<|some (e,f)
def WK(a:zU)(b:Int):Option (List zU):=Aa (Ay (Zi a b) fz (([]:List zU),0,0)) λc=>(match c with
  |(d,e)=>(chk ((0:Int)<=e∧e<=(a.length:Int)∧(a.length:Int)<=(a.length:Int)) (chk (List.length d+List.length [CZ a e (a.length:Int)]<=lim) (some (d++[CZ a e (a.length:Int)])))))
instance{a:zU}{b:Int}:Xs (Zi a b) (λ(q,r,s)=>[(5,oL 9 cst q),(6,nI r),(7,nI s)]) [0,1]:=⟨⟩
instance WL{a:zU}{b:Int}:Qe 166 (WK a b) [.str a,.int .u8 b] (λc=>oL 9 cst c):=sX [] [] [(7,[20]),(9,[29])] func166
def UL(a:(zI×Int)->Option (zI))(b:Int)(c:zI):Option (zI):=a (c,(wZ<|b+1))
def XZ(a:zU)(b:Int)(c:(zI×Int)->Option (zI))(d:zI×Int):Option (zI):=match d with
  |(e,f)=>cond (decide (f < 5)) (Aa (Js f) λg=>chk ((0:Int)<=b∧b<=wZ (b+1)∧wZ (b+1)<=(a.length:Int))<|cond (g==(CZ a b<|wZ<|b+1)) (chk (List.length e+List.length [f]<=lim)<|UL c f<|e++[f])<|UL c f e)<|some e
def hZ(a:zU)(b:(zI×Int)->Option (zI))(c:zI×Int):Option (zI):=match c with
  |(d,e)=>cond (decide (e < (a.length:Int))) (Aa (Ay (XZ a e) fz (d,0)) λf=>b (f,(wZ<|e+1)))<|some d
def XY(a:zU):Option (zI):=Aa (Ay (hZ a) fz (([]:zI),0)) λb=>some b
instance{a:zU}{b:Int}:Xs (XZ a b) (λ(y,z)=>[(3,oL 3 Am y),(5,nI z)]) [0,4]:=⟨⟩
instance{a:zU}:Xs (hZ a) (λ(m,n)=>[(3,oL 3 Am m),(4,nI n)]) [0]:=⟨⟩
instance Zj{a:zU}:Qe 167 (XY a) [.str a] (λb=>oL 3 Am b):=sX [] [] [(9,[25]),(10,[29])] func167
def RL(a:zI)(b:(zU×Int)->Option (zU))(c:zU×Int):Option (zU):=match c with
  |(d,e)=>cond (decide (e < (a.length:Int))) (Aa (AU a e) λf=>Aa (Js f) λg=>chk (List.length d+List.length g<=lim)<|b ((d++g),(wZ<|e+1)))<|some d
def OI(a:zI):Option (zU):=Aa (Ay (RL a) fz ([40],0)) λb=>chk (List.length b+List.length [41]<=lim)<|some<|b++[41]
instance{a:zI}:Xs (RL a) (λ(n,o)=>[(3,.str n),(4,nI o)]) [0]:=⟨⟩
instance Sw{a:zI}:Qe 62 (OI a) [dL Am a] (λb=>.str b):=sX [] [] [] func62
def PA(a:(zU×Int)->Option (zU))(b:DA)(c:Int)(d:zU):Option (zU):=Aa (AU b.2.1 c) λe=>chk (List.length d+List.length e.1<=lim)<|Aa (AU b.2.1 c) λf=>Aa (OI f.2) λg=>chk (List.length (d++e.1)+List.length g<=lim)<|a (((d++e.1)++g),(wZ<|c+1))
def Tx(a:DA)(b:(zU×Int)->Option (zU))(c:zU×Int):Option (zU):=match c with
  |(d,e)=>cond (decide (e < (a.2.1.length:Int))) (cond (decide (0 < e)) (chk (List.length d+List.length [44]<=lim)<|PA b a e<|d++[44])<|PA b a e d)<|some d
def V9(a:DA):Option (zU):=Aa (DO a) λb=>cond (!b) (some [])<|Aa (OI a.2.2) λc=>chk (List.length c+List.length [61]<=lim)<|Aa (Ay (Tx a) fz ((c++[61]),0)) λd=>some d
instance{a:DA}:Xs (Tx a) (λ(s,t)=>[(3,.str s),(4,nI t)]) [1]:=⟨⟩
instance ZO{a:DA}:Qe 168 (V9 a) [.agg (Cl a)] (λb=>.str b):=sX [1] [(24,1),(31,1)] [] func168
def FD(a:PW):List V:=[.str a.1,oL 3 Am a.2]
def VH(a:PW):(FD a).length=2:=E
def o7(a:PW):ON (FD a)=Cb a:=(Ba E<|Ba (SB AG _) E)
def Yg(a:DA):List V:=[nI a.1,oL 83 FD a.2.1,oL 3 Am a.2.2]
def Qz(a:(Int×Int)->Option Int)(b:Int)(c:Int):Option Int:=a (c,(wZ<|b+1))
def UG(a:(List zU))(b:Int)(c:Int)(d:(Int×Int)->Option Int)(e:Int×Int):Option Int:=match e with
  |(f,g)=>cond (decide (g < 5)) (Aa (Js g) λi=>Aa (AU a b) λj=>chk ((0:Int)<=c∧c<=wZ (c+1)∧wZ (c+1)<=(j.length:Int))<|cond (i==(CZ j c<|wZ<|c+1)) (Qz d g<|wZ<|g+1)<|Qz d g f)<|some f
def ZR(a:(List zU))(b:Int)(c:(Int×Int)->Option Int)(d:Int×Int):Option Int:=match d with
  |(e,f)=>Aa (AU a b) λg=>cond (decide (f < (g.length:Int))) (Aa (Ay (UG a b f) fz (e,e)) λi=>c (i,(wZ<|f+1)))<|some e
def ZQ(a:(List zU))(b:(Int×List PW×Int)->Option (Int×(List PW)))(c:Int×List PW×Int):Option (Int×(List PW)):=match c with
  |(d,e,f)=>cond (decide (f < (a.length:Int))) (Aa (AU a f) λg=>Aa (WK g 40) λi=>Aa (AU i 0) λj=>Aa (AU a f) λk=>Aa (XY k) λl=>chk (List.length e+List.length [(j,l)]<=lim)<|Aa (Ay (ZR a f) fz (d,0)) λm=>b (m,(e++[(j,l)]),(wZ<|f+1)))<|some (d,e)
def KI(a:zU):Option (DA×Bool):=Aa (WK a 61) λb=>cond ((b.length:Int)!=2) (some ((0,[],[]),false)) (Aa (AU b 0) λc=>Aa (XY c) λd=>Aa (AU b 1) λe=>Aa (WK e 44) λf=>Aa (Ay (ZQ f) fz (0,([]:List PW),0)) λg=>(match g with
  |(i,j)=>(Aa (V9 (i,j,d)) λk=>cond (!(k==a)) (some ((0,[],[]),false)) (cond (a==[]) (some ((0,[],[]),false)) (some ((i,j,d),true))))))
instance Vf{a:zU}:Qe 86 (KI a) [.str a] (λb=>.tup [.agg (Yg b.1),.bool b.2]):=Qe.mk @λb h=>st Alz E (rn 1 E (rs (sp 1 E (A8 h λc d h=>qC (qs E (qs E AT)) (WL.s d) (AY 1 E (GC E λe=>BT h E (λh=>rn 1 E (sj h ▸ Ap rZ)) λh=>Cf e (rs (sp 1 E (A8 h λf g h=>qI E TX g (sp 1 E (A8 h λi j h=>qC (qs E AT) (Zj.s j) (AY 3 E (rs (sp 1 E (A8 h λk l h=>qI E TX l (sp 1 E (A8 h λm n h=>qC (qs E (qs E AT)) (WL.s n) (AY 1 E (qk [0,2,5,6] E (Ar λo p=>rn 1 E (D6 h λq r s=>have t:∀{u:Int}{v:List PW},(u,v)=q->Jn o [(0,.str a),(2,.box [nI 0,oL 83 FD [],oL 3 Am []]),(5,.box [nI u,oL 83 FD v,oL 3 Am i])]:=@λu v h _ w=>have h:=s h;p _ (lh w E (CL λx=>rs (sp 1 E (A8 h λy z h=>qC (qa E (CM (Ba E (Ba (BE o7 _) (Ba (BE AG _) E)))) AT) (ZO.s z) (sp 3 E (Eo h (λA h=>qg 84 A E (AY 3 E (qT E E (rn 1 E (sj h ▸ Ap rZ))))) λA h=>qg 84 A E (AY 3 E (BT h E (λh=>rn 1 E (sj h ▸ Ap rZ)) λh=>Cf x (rn 1 E (sj h ▸ Ap rZ))))))))));(A9 (λ(B:Int×List PW×Int)=>match B with|(C,D,F)=>[(0,.str a),(2,.box [nI 0,oL 83 FD [],oL 3 Am []]),(5,.box [nI C,oL 83 FD D,oL 3 Am i]),(6,oL 9 cst m),(7,nI F)]) _ _ _ _ r (AX E) (λ_=>E) (λH=>pr3 λC D F I h J=>GC E λK=>BT h E (λh=>Cf K (Ar λL M=>A4 (rs (sp 2 E (A8 h λN O h=>qI E TX O (sp 1 E (A8 h λP Q h=>qC (qs E (qs E AT)) (WL.s Q) (AY 1 E (rd (by kernel_rfl) (sd 3 E (A8 h λR S h=>ed E (qI E TX S (sd 3 E (A8 h λT U h=>ed E (qI E TX U (sd 1 E (A8 h λV W h=>ed E (qC (qs E AT) (Zj.s W) (sd 1 E (ed E (Gi FD [(R,V)] E E E VH (D9 h λX h=>ed E (qA FD D [(R,V)] E E (Bu VH [(R,V)]) E X (sd 2 E (CN (rn 1 E (qk [0,2,5,6,7,9] E (D6 h λY r Z=>have b:∀{c:Int},c=Y->Jn L [(0,.str a),(2,.box [nI 0,oL 83 FD [],oL 3 Am []]),(5,.box [nI c,oL 83 FD (D++[(R,V)]),oL 3 Am i]),(6,oL 9 cst m),(7,nI F)]:=@λc h _ w=>have h:=Z h;M _ (lh w E (rg (AY 3 E (J _ _ h (AX E)))));(A9 (λ(B:Int×Int)=>match B with|(d,e)=>[(0,.str a),(2,.box [nI 0,oL 83 FD [],oL 3 Am []]),(5,.box [nI d,oL 83 FD (D++[(R,V)]),oL 3 Am i]),(6,oL 9 cst m),(7,nI F),(9,nI e)]) _ _ _ _ r (AX E) (λ_=>E) (λH=>IV λd e I h J=>CL λf=>rs (sp 3 E (A8 h λg j h=>qI E TX j (AY 3 E (BT h E (λh=>Cf f (Ar λk l=>A4 (rn 1 E (D6 h λn r o=>have q:∀{u:Int},u=n->Jn k [(0,.str a),(2,.box [nI 0,oL 83 FD [],oL 3 Am []]),(5,.box [nI u,oL 83 FD (D++[(R,V)]),oL 3 Am i]),(6,oL 9 cst m),(7,nI F),(9,nI e)]:=@λu h _ w=>have h:=o h;l _ (lh w E (rg (AY 3 E (J _ _ h (AX E)))));(A9 (λ(B:Int×Int)=>match B with|(v,p)=>[(0,.str a),(2,.box [nI 0,oL 83 FD [],oL 3 Am []]),(5,.box [nI v,oL 83 FD (D++[(R,V)]),oL 3 Am i]),(6,oL 9 cst m),(7,nI F),(9,nI e),(10,nI p)]) _ _ _ _ r (AX E) (λ_=>E) (λH=>IV λv p I h J=>GC E λs=>BT h E (λh=>Cf s (Ar λy z=>A4 (rd (by kernel_rfl) (sd 1 E (A8 h λx A h=>ed E (qC (qs E AT) (PE.s A) (sd 2 E (A8 h λC K h=>ed E (qI E TX K (sd 4 E (D9 h λN h=>ed E (qSs E N (sd 1 E (CN (have O:∀{P:Int},Qz (Ay (UG m F e) H) p P=some n->Jn y [(0,.str a),(2,.box [nI 0,oL 83 FD [],oL 3 Am []]),(5,.box [nI P,oL 83 FD (D++[(R,V)]),oL 3 Am i]),(6,oL 9 cst m),(7,nI F),(9,nI e),(10,nI p)]:=@λP h _ w=>z _ (lh w E (rg (AY 3 E (J _ _ h (AX E)))));(BT h E (λh=>rg (AY 4 E (O h _ (AX E)))) λh=>Ci (O h _ (AX E)))))))))))))))))) λh=>AJ (q (sj h) _ (AX E)))))))) λh=>AJ (b (sj h) _ (AX E)))))))))))))))))))))))))))))))))))) λh=>AJ (t (sj h) _ (AX E)))))))))))))))))))))))))
def SX(a:Et)(b:List zU):Option (zU×Et):=Aa (DH a (b.length:Int)) λc=>Aa (AU b c.1) λd=>some (d,c.2)
instance Zg{a:Et}{b:List zU}:MH 165 (SX a b) [aL Lo a.1,nI a.2.1,nI a.2.2] [dL cst b] (λc=>[aL Lo c.2.1,nI c.2.2.1,nI c.2.2.2]) (λc=>.str c.1):=MH.mk λh=>stp Agg E U0
def KK(a:Int×Et)(b:(zI×Int×Int×zI×Int)->Option (zI×Int×Int×zI))(c:zI×Int×Int×zI×Int):Option (zI×Int×Int×zI):=match c with
  |(d,e,f,g,i)=>cond (decide (0 < i)) (Aa (DH (d,e,f)<|wZ<|1+a.1) λj=>chk (List.length g+List.length [j.1]<=lim)<|b (j.2.1,j.2.2.1,j.2.2.2,(g++[j.1]),(wZ<|i - 1)))<|some (d,e,f,g)
def KJ(a:Int×Et)(b:(zI×Int×Int×List PW×Int)->Option (zI×Int×Int×(List PW)))(c:zI×Int×Int×List PW×Int):Option (zI×Int×Int×(List PW)):=match c with
  |(d,e,f,g,i)=>cond (decide (0 < i)) (Aa (DH (d,e,f) 5) λj=>Aa (AU ([[114],[115],[116],[117],[118]]) j.1) λk=>Aa (Ay (KK a) fz (j.2.1,j.2.2.1,j.2.2.2,([]:zI),(wZ (2+(wZ (Int.tdiv j.1 4)))))) λl=>(match l with
  |(m,n,o,p)=>(chk (List.length g+List.length [(k,p)]<=lim) (b (m,n,o,(g++[(k,p)]),(wZ (i - 1))))))) (some (d,e,f,g))
def KL(a:(zI×Int×Int×zI×Int)->Option (zI×Int×Int×zI))(b:Int)(c:Bool×Et)(d:zI):Option (zI×Int×Int×zI):=a (c.2.1,c.2.2.1,c.2.2.2,d,(wZ<|b+1))
def H7(a:Int×Et)(b:(zI×Int×Int×zI×Int)->Option (zI×Int×Int×zI))(c:zI×Int×Int×zI×Int):Option (zI×Int×Int×zI):=match c with
  |(d,e,f,g,i)=>cond (decide (i < (wZ<|1+a.1))) (Aa (JX (d,e,f) 2) λj=>cond j.1 (chk (List.length [i]+List.length g<=lim)<|KL b i j<|[i]++g)<|KL b i j g)<|some (d,e,f,g)
def Pd(a:Et):Option (DA×Et):=Aa (SX a ([[40,88,89,90,41,61,114,40,88,89,41,44,115,40,89,90,41,44,116,40,90,88,41],[40,88,89,90,85,41,61,114,40,88,89,41,44,115,40,89,90,41,44,116,40,90,85,41,44,117,40,85,88,41],[40,88,89,90,41,61,114,40,88,89,41,44,115,40,89,90,41],[40,88,41,61,114,40,88,89,41,44,115,40,89,90,41,44,116,40,90,85,41],[40,88,89,90,41,61,118,40,88,89,90,41,44,114,40,88,89,41],[40,88,89,41,61,114,40,88,89,41,44,114,40,89,88,41],[40,88,89,90,85,41,61,118,40,88,89,90,41,44,115,40,90,85,41,44,116,40,85,88,41],[40,88,41,61,114,40,88,88,41],[40,88,89,41,61,114,40,88,90,41,44,115,40,90,89,41,44,114,40,88,85,41,44,115,40,85,89,41],[40,41,61,114,40,88,89,41,44,115,40,89,88,41],[40,88,89,90,85,86,41,61,114,40,88,89,41,44,115,40,89,90,41,44,116,40,90,85,41,44,117,40,85,86,41]])) λb=>Aa (KI b.1) λc=>Aa (JX b.2 3) λd=>cond (!d.1) (some (c.1,d.2)) (Aa (DH d.2 4) λe=>Aa (DH e.2 4) λf=>Aa (Ay (KJ e) fz (f.2.1,f.2.2.1,f.2.2.2,([]:List PW),(wZ (1+f.1)))) λg=>(match g with
  |(i,j,k,l)=>(Aa (Ay (H7 e) fz (i,j,k,([]:zI),0)) λm=>(match m with
  |(n,o,p,q)=>(Aa (DO (wZ (1+e.1),l,q)) λr=>cond (!r) (some (c.1,(n,o,p))) (some ((wZ (1+e.1),l,q),(n,o,p))))))))
instance X0{a0:Et}:MH 85 (Pd a0) [aL Lo a0.1,nI a0.2.1,nI a0.2.2] [] (λr=>[aL Lo r.2.1,nI r.2.2.1,nI r.2.2.2]) (λr=>.agg (Yg r.1)):=MH.mk @λr h=>by
 unfold Pd at h
 generalize hkk0:([[40,88,89,90,41,61,114,40,88,89,41,44,115,40,89,90,41,44,116,40,90,88,41],[40,88,89,90,85,41,61,114,40,88,89,41,44,115,40,89,90,41,44,116,40,90,85,41,44,117,40,85,88,41],[40,88,89,90,41,61,114,40,88,89,41,44,115,40,89,90,41],[40,88,41,61,114,40,88,89,41,44,115,40,89,90,41,44,116,40,90,85,41],[40,88,89,90,41,61,118,40,88,89,90,41,44,114,40,88,89,41],[40,88,89,41,61,114,40,88,89,41,44,114,40,89,88,41],[40,88,89,90,85,41,61,118,40,88,89,90,41,44,115,40,90,85,41,44,116,40,85,88,41],[40,88,41,61,114,40,88,88,41],[40,88,89,41,61,114,40,88,90,41,44,115,40,90,89,41,44,114,40,88,85,41,44,115,40,85,89,41],[40,41,61,114,40,88,89,41,44,115,40,89,88,41],[40,88,89,90,85,86,41,61,114,40,88,89,41,44,115,40,89,90,41,44,116,40,90,85,41,44,117,40,85,86,41]]:List zU)=kk0 at h
 refine stp Aly rfl (rn 1 rfl ((rsB cst kk0 9 1 (by subst hkk0;kernel_rfl) (by subst hkk0;rfl) TX (sp 1 rfl (OR (rs (sp 2 rfl (?_))))))))
 obtain⟨v1,g2,h⟩:=Bc h
 refine qP rfl rfl rfl rfl (qa rfl (BE AaB _) AT) (Zg.s g2) (?_)
 obtain⟨v3,g4,h⟩:=Bc h
 refine qC (qs rfl AT) (Vf.s g4) (sp 6 rfl (OR (Ar λK5 hK5=>rs (sp 1 rfl (?_)))))
 obtain⟨v6,g7,h⟩:=Bc h
 refine qP rfl rfl rfl rfl (qs rfl AT) (Lu.s g7) (sp 1 rfl (OR ?_))
 rcases LU h with⟨g8,h⟩|⟨g8,h⟩
 ·exact qT rfl g8 (rn 1 rfl (Ap ((by cases h;exact⟨.inl rfl,rfl,rfl⟩))))
 ·refine qF rfl g8 (Ci (hK5 _ (rs (sp 1 rfl (?_)))))
  obtain⟨v9,g10,h⟩:=Bc h
  refine qP rfl rfl rfl rfl (qs rfl AT) (Dq.s g10) (sp 4 rfl (OR (qk [0,2,4,6] rfl (Ar λK11 hK11=>rs (sp 1 rfl (?_))))))
  obtain⟨v12,g13,h⟩:=Bc h
  refine qP rfl rfl rfl rfl (qs rfl AT) (Dq.s g13) (sp 2 rfl (OR ?_))
  obtain⟨o1,hl,hr1⟩:=Bc h
  have kXB1:∀{z14:zI}{z15:Int}{z16:Int}{z17:List PW},(z14,z15,z16,z17)=o1->Jn K11 [(0,.box [aL Lo z14,nI z15,nI z16]),(2,.box [nI 0,oL 83 FD [],oL 3 Am []]),(4,.box [nI v3.1.1,oL 83 FD v3.1.2.1,oL 3 Am v3.1.2.2]),(6,.box [nI (wZ (1+v9.1)),oL 83 FD z17,oL 3 Am []])]:=by
   intro z14 z15 z16 z17 h σ' hk
   subst h
   replace h:=hr1
   try dsimp only at h
   refine hK11 _ (lh hk rfl (Ar λK37 hK37=>rn 1 rfl ?_))
   obtain⟨o3,hl,hr3⟩:=Bc h
   have kXB3:∀{z38:zI}{z39:Int}{z40:Int}{z41:zI},(z38,z39,z40,z41)=o3->Jn K37 [(0,.box [aL Lo z38,nI z39,nI z40]),(2,.box [nI 0,oL 83 FD [],oL 3 Am []]),(4,.box [nI v3.1.1,oL 83 FD v3.1.2.1,oL 3 Am v3.1.2.2]),(6,.box [nI (wZ (1+v9.1)),oL 83 FD z17,oL 3 Am z41])]:=by
    intro z38 z39 z40 z41 h σ' hk
    subst h
    replace h:=hr3
    try dsimp only at h
    refine hK37 _ (lh hk rfl (Ar λK50 hK50=>rs (sp 1 rfl (?_))))
    obtain⟨v51,g52,h⟩:=Bc h
    refine qC (qa rfl (CM (Ba rfl (Ba (BE o7 _) (Ba (BE AG _) rfl)))) AT) (D8.s g52) (sp 1 rfl (OR ?_))
    rcases LU h with⟨g53,h⟩|⟨g53,h⟩
    ·exact qT rfl g53 (rn 1 rfl (Ap ((by cases h;exact⟨.inl rfl,rfl,rfl⟩))))
    ·exact qF rfl g53 (Ci (hK50 _ (rn 1 rfl (Ap ((by cases h;exact⟨.inl rfl,rfl,rfl⟩))))))
   refine A9 (λ(s:zI×Int×Int×zI×Int)=>match s with|(y21,y22,y23,y24,y25)=>[(0,.box [aL Lo y21,nI y22,nI y23]),(2,.box [nI 0,oL 83 FD [],oL 3 Am []]),(4,.box [nI v3.1.1,oL 83 FD v3.1.2.1,oL 3 Am v3.1.2.2]),(6,.box [nI (wZ (1+v9.1)),oL 83 FD z17,oL 3 Am y24]),(11,nI y25)]) _ _ _ _ hl (AX rfl) (λ_=>rfl) ?_
   rintro m ⟨y21,y22,y23,y24,y25⟩ N h hN
   unfold H7 at h
   dsimp only at h
   refine Ar λK42 hK42=>rn 1 rfl ?_
   rcases LU h with⟨g43,h⟩|⟨g43,h⟩
   ·refine qT rfl g43 (Ci (hK42 _ (Ar λK44 hK44=>A4 (rs (sp 1 rfl (?_))))))
    obtain⟨v45,g46,h⟩:=Bc h
    refine qP rfl rfl rfl rfl (qs rfl AT) (Lu.s g46) (OR ?_)
    have kJ4:∀{x47:zI},KL (Ay (H7 v9) m) y25 v45 x47=some o3->Jn K44 [(0,.box (Xh v45.2)),(2,.box [nI 0,oL 83 FD [],oL 3 Am []]),(4,.box [nI v3.1.1,oL 83 FD v3.1.2.1,oL 3 Am v3.1.2.2]),(6,.box [nI (wZ (1+v9.1)),oL 83 FD z17,oL 3 Am x47]),(11,nI y25)]:=by
     intro x47 h σ' hk
     unfold KL at h
     exact hK44 _ (lh hk rfl (rg (sp 3 rfl (OR (hN _ _ h (AX rfl))))))
    rcases LU h with⟨g48,h⟩|⟨g48,h⟩
    ·refine qT rfl g48 (rg (sp 1 rfl (Gi Am [y25] rfl rfl rfl A6 (sp 2 rfl (?_)))))
     obtain⟨g49,h⟩:=Oe h
     exact qA Am [y25] y24 rfl rfl (Bu A6 y24) rfl g49 (sp 2 rfl (OR (kJ4 h _ (AX rfl))))
    ·exact qF rfl g48 (Ci (kJ4 h _ (AX rfl)))
   ·exact qF rfl g43 (AJ (kXB3 (EH h) _ (AX rfl)))
  refine A9 (λ(s:zI×Int×Int×List PW×Int)=>match s with|(y6,y7,y8,y9,y10)=>[(0,.box [aL Lo y6,nI y7,nI y8]),(2,.box [nI 0,oL 83 FD [],oL 3 Am []]),(4,.box [nI v3.1.1,oL 83 FD v3.1.2.1,oL 3 Am v3.1.2.2]),(6,.box [nI (wZ (1+v9.1)),oL 83 FD y9,oL 3 Am []]),(7,nI y10)]) _ _ _ _ hl (AX rfl) (λ_=>rfl) ?_
  rintro m ⟨y6,y7,y8,y9,y10⟩ N h hN
  unfold KJ at h
  dsimp only at h
  refine Ar λK18 hK18=>rn 1 rfl ?_
  rcases LU h with⟨g19,h⟩|⟨g19,h⟩
  ·refine qT rfl g19 (Ci (hK18 _ (Ar λK20 hK20=>A4 (rs (sp 1 rfl (?_))))))
   obtain⟨v21,g22,h⟩:=Bc h
   refine qP rfl rfl rfl rfl (qs rfl AT) (Dq.s g22) (sp 1 rfl (OR (rs (qBk cst [[114],[115],[116],[117],[118]] 9 1 (by kernel_rfl) rfl TX (sp 1 rfl (?_))))))
   obtain⟨e23,g24,h⟩:=Bc h
   refine qI rfl TX g24 (sp 4 rfl (OR (Ar λK25 hK25=>rn 1 rfl ?_)))
   obtain⟨o2,hl,hr2⟩:=Bc h
   have kXB2:∀{z26:zI}{z27:Int}{z28:Int}{z29:zI},(z26,z27,z28,z29)=o2->Jn K25 [(0,.box [aL Lo z26,nI z27,nI z28]),(2,.box [nI 0,oL 83 FD [],oL 3 Am []]),(4,.box [nI v3.1.1,oL 83 FD v3.1.2.1,oL 3 Am v3.1.2.2]),(6,.box [nI (wZ (1+v9.1)),oL 83 FD y9,oL 3 Am []]),(7,nI y10),(9,.box [.str e23,oL 3 Am z29])]:=by
    intro z26 z27 z28 z29 h σ' hk
    subst h
    replace h:=hr2
    try dsimp only at h
    refine hK25 _ (lh hk rfl (rg (sp 3 rfl (Gi FD [(e23,z29)] rfl rfl rfl VH (?_)))))
    obtain⟨g36,h⟩:=Oe h
    exact qA FD y9 [(e23,z29)] rfl rfl (Bu VH [(e23,z29)]) rfl g36 (sp 2 rfl (OR (hK20 _ (rg (sp 3 rfl (OR (hN _ _ h (AX rfl))))))))
   refine A9 (λ(s:zI×Int×Int×zI×Int)=>match s with|(y16,y17,y18,y19,y20)=>[(0,.box [aL Lo y16,nI y17,nI y18]),(2,.box [nI 0,oL 83 FD [],oL 3 Am []]),(4,.box [nI v3.1.1,oL 83 FD v3.1.2.1,oL 3 Am v3.1.2.2]),(6,.box [nI (wZ (1+v9.1)),oL 83 FD y9,oL 3 Am []]),(7,nI y10),(9,.box [.str e23,oL 3 Am y19]),(10,nI y20)]) _ _ _ _ hl (AX rfl) (λ_=>rfl) ?_
   rintro m ⟨y16,y17,y18,y19,y20⟩ N h hN
   unfold KK at h
   dsimp only at h
   refine Ar λK30 hK30=>rn 1 rfl ?_
   rcases LU h with⟨g31,h⟩|⟨g31,h⟩
   ·refine qT rfl g31 (Ci (hK30 _ (Ar λK32 hK32=>A4 (jG (by kernel_rfl) (sd 5 rfl (?_))))))
    obtain⟨v33,g34,h⟩:=Bc h
    refine ed rfl (qP rfl rfl rfl rfl (qs rfl AT) (Dq.s g34) (ed rfl (Gi Am [v33.1] rfl rfl rfl A6 (?_))))
    obtain⟨g35,h⟩:=Oe h
    exact ed rfl (qA Am y19 [v33.1] rfl rfl (Bu A6 [v33.1]) rfl g35 (sd 2 rfl (CN (hK32 _ (rg (sp 3 rfl (OR (hN _ _ h (AX rfl)))))))))
   ·exact qF rfl g31 (AJ (kXB2 (EH h) _ (AX rfl)))
  ·exact qF rfl g19 (AJ (kXB1 (EH h) _ (AX rfl)))
def rz(a:PW):GK (FD a)=true:=(Of E<|Of (TY (λ_=>E) 3 _) VP)
def Lw(a:zI)(b:Int)(c:Int)(d:Int)(e:List PW)(f:zI):Option (DA×Et):=some ((d,e,f),(a,b,c))
def WN(a:Et):Option (DA×Et):=Aa (Pd a) λb=>Aa (DH b.2 14) λc=>cond (c.1==0) (Aa (I2 c.2 [0,6,wZ (b.1.1+1)]) λd=>Lw d.2.1 d.2.2.1 d.2.2.2 d.1 b.1.2.1 b.1.2.2)<|cond (c.1==1) (Aa (SX c.2<|[[],[119],[114]]) λe=>chk (List.length b.1.2.1+List.length ([(e.1,[0])])<=lim)<|Lw e.2.1 e.2.2.1 e.2.2.2 b.1.1 (b.1.2.1++([(e.1,[0])])) b.1.2.2)<|cond (c.1==2) (Aa (DH c.2 6) λf=>chk (List.length b.1.2.2+List.length [wZ (f.1 - 1)]<=lim)<|Lw f.2.1 f.2.2.1 f.2.2.2 b.1.1 b.1.2.1<|b.1.2.2++[wZ (f.1 - 1)])<|cond (c.1==3) (chk (0 < b.1.2.1.length)<|Aa (AU b.1.2.1 0) λg=>Lw c.2.1 c.2.2.1 c.2.2.2 b.1.1 (CY b.1.2.1 0 (g.1,[])) b.1.2.2)<|cond (c.1==4) (chk (0 < b.1.2.1.length)<|Aa (AU b.1.2.1 0) λi=>chk (0 < i.2.length)<|Aa (AU b.1.2.1 0) λj=>Aa (I2 c.2 [-1,5]) λk=>Aa (AU i.2 0) λl=>Lw k.2.1 k.2.2.1 k.2.2.2 b.1.1 (CY b.1.2.1 0 (i.1,CY i.2 0 k.1)) b.1.2.2)<|Lw c.2.1 c.2.2.1 c.2.2.2 b.1.1 b.1.2.1 b.1.2.2
instance lU{a:Et}:MH 87 (WN a) [aL Lo a.1,nI a.2.1,nI a.2.2] [] (λc=>[aL Lo c.2.1,nI c.2.2.1,nI c.2.2.2]) (λc=>.agg (Yg c.1)):=MH.mk @λc h=>stp AlA E (rn 1 E (rs (sp 1 E (A8 h λd e h=>qP E E E E AT (X0.s e) (AY 2 E (Ar λf g=>rs (sp 1 E (A8 h λj k h=>qP E E E E (qs E AT) (Dq.s k) (OR (A4 (rn 1 E (have l:∀{m:zI}{n:Int}{o:Int}{p:Int}{r:List PW}{s:zI},Lw m n o p r s=some c->Jn f [(0,.box [aL Lo m,nI n,nI o]),(2,.box [nI 0,oL 83 FD [],oL 3 Am []]),(3,.box [nI p,oL 83 FD r,oL 3 Am s])]:=@λm n o p r s h _ t=>g _ (lh t E (rn 1 E (sj h ▸ Ap ⟨.inl E,E,E⟩)));(BT h E (λh=>rg (sp 4 E (Gi Am [0,6,wZ (d.1.1+1)] E E E A6 (A8 h λu v h=>qP E E E E (qa E (SB AG _) AT) (Mw.s v) (AY 2 E (l h _ (AX E))))))) λh=>rn 1 E (BT h E (λh=>jG (by kernel_rfl) (sd 3 E (ed E (Gi cst [[],[119],[114]] E E E TX (A8 h λw x h=>ed E (qP E E E E (qa E (SB AaB _) AT) (Zg.s x) (ed E (Gi Am [0] E E E A6 (sd 1 E (ed E (Gi FD [(w.1,[0])] E E E VH (D9 h λy h=>ed E (qA FD d.1.2.1 ([(w.1,[0])]) E E (Bu VH ([(w.1,[0])])) E y (sd 2 E (CN (l h _ (AX E))))))))))))))))) λh=>rn 1 E (BT h E (λh=>jG (by kernel_rfl) (sd 3 E (A8 h λz A h=>ed E (qP E E E E (qs E AT) (Dq.s A) (sd 1 E (ed E (Gi Am [wZ (z.1 - 1)] E E E A6 (D9 h λB h=>ed E (qA Am d.1.2.2 [wZ (z.1 - 1)] E E (Bu A6 [wZ (z.1 - 1)]) E B (sd 2 E (CN (l h _ (AX E))))))))))))) λh=>rn 1 E (qk [0,2,3,7,39] E (BT h E (λh=>qk [0,2,3] E (D9 h λC h=>E0 (gLb (q:=900003) (b:=3) [nI d.1.1] [oL 3 Am d.1.2.2] E E E C (λD F=>qk [0,2,3,900003] E (N1 (rg (sp 2 E (A8 h λH I h=>V7 E E E E I (sp 1 E (Al0 (y0:=H) (i:=0) (es:=2) (e2:=3) 1 (H.1,[]) [0,2,3] E E E E E E E E VH I (λJ=>Qx (rz J)) (yc (Im (sA (aca (λ_=>E) _)) (Im E (Im E E))) (yc (Im E (Im E (Im E E))) (yc (Im E (Im E (Im (sO (TY (λ_=>E) 3 _)) E))) yn))) (OR (gDb (q:=900003) (b:=3) [nI d.1.1] [oL 3 Am d.1.2.2] E E E (sl E) (l h _ (AX E)))))))))))))) λh=>rn 1 E (BT h E (λh=>qk [0,2,3] E (D9 h λK h=>E0 (gLb (q:=900004) (b:=3) [nI d.1.1] [oL 3 Am d.1.2.2] E E E K (λL M=>qk [0,2,3,900004] E (A8 h λN O h=>D9 h λP h=>E0 (gLg (i:=0) (es:=2) 1 E E VH O E E P (λQ R=>qk [0,2,3,900003,900004] E (N1 (N1 (rgt 8 (by kernel_rfl) (sd 2 E (A8 h λS T h=>ed E (V7 E E E E T (sd 1 E (ed E (qLh E E E E E E (gk VH T E) (sd 1 E (ed E (Gi Am [-1,5] E E E A6 (A8 h λU V h=>ed E (qP E E E E (qa E (SB AG _) AT) (Mw.s V) (CN (Ky (A8 h λW X h=>V7 E E E E X (d6 (y0:=W) (i:=0) (es:=1) 0 U.1 [0,2,3,900004] E E E E E E E E E E A6 X (λ_=>E) (Qx (Of E VP)) (yc (Im (sA (aca (λ_=>E) _)) (Im E (Im E E))) (yc (Im E (Im E (Im E E))) (yc (Im E (Im E (Im (sO (TY (λ_=>E) 3 _)) E))) (yc (sgh (Qx (bH rz _))) yn)))) (OR (gDg (i:=0) (es:=2) 1 (N.1,CY N.2 0 U.1) E E VH O E (sl E) E (gDb (q:=900004) (b:=3) [nI d.1.1] [oL 3 Am d.1.2.2] E E E (sl E) (l h _ (AX E)))))))))))))))))))))))))))))) λh=>Ci (l h _ (AX E))))))))))))))))))))
def My(a:DA×Et)(b:Int)(c:List PW)(d:zI):Option (DA×Et):=Aa (JX a.2 14) λe=>cond e.1 (Aa (WN e.2) λf=>some (f.1,f.2))<|some ((b,c,d),e.2)
def Ss(a:Et):Option (DA×Et):=Aa (Pd a) λb=>cond (decide (4 < b.1.1)) (Aa (KI [40,88,41,61,114,40,88,89,41,44,115,40,89,90,41,44,116,40,90,85,41]) λc=>My b c.1.1 c.1.2.1 c.1.2.2)<|My b b.1.1 b.1.2.1 b.1.2.2
instance dD{a:Et}:MH 33 (Ss a) [aL Lo a.1,nI a.2.1,nI a.2.2] [] (λb=>[aL Lo b.2.1,nI b.2.2.1,nI b.2.2.2]) (λb=>.agg (Yg b.1)):=MH.mk λh=>stp AkW E U0
def Nq(a:Int)(b:zI)(c:Int->Option Int)(d:Int):Option Int:=Aa (HB b d) λe=>cond (decide (0<=e)) (chk (a≠0)<|c<|Int.tmod (wZ<|d+1) a)<|some d
def Qc(a:Int)(b:(zI×Int×Int×zI)->Option (zI×Int×Int×zI))(c:zI×Int×Int×zI):Option (zI×Int×Int×zI):=match c with
  |(d,e,f,g)=>cond (decide ((g.length:Int) < a)) (Aa (DH (d,e,f) a) λi=>Aa (Ay (Nq a g) fz i.1) λj=>chk (List.length g+List.length [j]<=lim)<|b (i.2.1,i.2.2.1,i.2.2.2,(g++[j])))<|some (d,e,f,g)
def RD(a:Et)(b:Int):Option (zI×Et):=Aa (Ay (Qc b) fz (a.1,a.2.1,a.2.2,([]:zI))) λc=>(match c with
  |(d,e,f,g)=>(some (g,(d,e,f))))
instance{a:Int}{b:zI}:Xs (Nq a b) (λJ=>[(6,nI J)]) [0,1,5]:=⟨⟩
instance{a:Int}:Xs (Qc a) (λ(q,r,s,t)=>[(0,.box [aL Lo q,nI r,nI s]),(5,oL 3 Am t)]) [1]:=⟨⟩
instance XV{a:Et}{b:Int}:MH 169 (RD a b) [aL Lo a.1,nI a.2.1,nI a.2.2] [nI b] (λc=>[aL Lo c.2.1,nI c.2.2.1,nI c.2.2.2]) (λc=>oL 3 Am c.1):=MH.mk λh=>stp Agk E U0
def Sj(a:zI)(b:Int)(c:Int)(d:zI):Option (zI×Et):=some (d,(a,b,c))
def Pb(a:zI×Et)(b:zI)(c:Int)(d:Int)(e:Bool):Option (zI×Et):=cond e (chk (0 < a.1.length)<|Aa (DH (b,c,d) 6) λf=>Aa (AU a.1 0) λg=>Sj f.2.1 f.2.2.1 f.2.2.2<|CY a.1 0 f.1)<|Sj b c d a.1
def Sr(a:Et)(b:DA):Option (zI×Et):=Aa (RD a (if 0 < (if b.1 < 5 then b.1 else 5)then(if b.1 < 5 then b.1 else 5)else 0)) λc=>cond (decide (0 < (c.1.length:Int))) (Aa (JX c.2 14) λd=>Pb c d.2.1 d.2.2.1 d.2.2.2 d.1)<|Pb c c.2.1 c.2.2.1 c.2.2.2 false
instance dC{a:Et}{c:DA}:MH 88 (Sr a c) [aL Lo a.1,nI a.2.1,nI a.2.2] [.agg (Cl c)] (λd=>[aL Lo d.2.1,nI d.2.2.1,nI d.2.2.2]) (λd=>oL 3 Am d.1):=MH.mk @λd h=>stp AlB E (rn 1 E (rs (sp 5 E (A8 h λe f h=>qP E E E E (qs E AT) (XV.s f) (AY 1 E (Ar λg j=>rk λk l=>have m:∀{n:zI}{o:Int}{p:Int}{r:Bool},Pb e n o p r=some d->Jn k [(0,.box [aL Lo n,nI o,nI p]),(5,oL 3 Am e.1),(18,.bool r)]:=@λn o p r h _ s=>l _ (lh s E (have t:∀{u:zI}{v:Int}{w:Int}{x:zI},Sj u v w x=some d->Jn g [(0,.box [aL Lo u,nI v,nI w]),(5,oL 3 Am x)]:=@λu v w x h _ s=>j _ (lh s E (rn 1 E (sj h ▸ Ap ⟨.inl E,E,E⟩)));(BT h E (λh=>qk [0,5] E (D9 h λy h=>E0 (gLs (q:=900003) (b:=5) E E E y (λz A=>qk [0,5,900003] E (N1 (rg (sp 2 E (A8 h λB C h=>qP E E E E (qs E AT) (Dq.s C) (A8 h λD F h=>V7 E E E E F (d6 (y0:=D) (i:=0) (es:=1) 0 B.1 [0,5] E E E E E E E E E E A6 F (λ_=>E) (Qx (Of E VP)) (yc (Im (sA (aca (λ_=>E) _)) (Im E (Im E E))) (yc E yn)) (OR (gDs (q:=900003) (b:=5) E E E (sl E) (t h _ (AX E)))))))))))))) λh=>Ci (t h _ (AX E)))));(sp 4 E (Eo h (λH h=>qg 15 H E (sp 1 E (A8 h λI J h=>EN E E (qP E E E E (qs E AT) (Lu.s J) (AY 1 E (m h _ (AX E))))))) λH h=>qg 15 H E (AY 3 E (m h _ (AX E)))))))))))
def NG(a:zI)(b:Int->Option (Sum Unit Bool))(c:Int):Option (Sum Unit Bool):=cond (decide (c < (a.length:Int))) (Aa (AU a c) λd=>Aa (H3 d 0<|wZ<|(a.length:Int) - 1) λe=>cond (!e) (some<|.inr false)<|chk ((0:Int)<=0∧0<=c∧c<=(a.length:Int))<|Aa (AU a c) λf=>Aa (HB (CZ a 0 c) f) λg=>cond (decide (0<=g)) (some<|.inr false)<|b<|wZ<|c+1)<|some<|.inl ()
def M3(a:zI):Option Bool:=Aa (Ay (NG a) fz 0) λb=>(match b with
  |.inl _=>(some<|decide ((a.length:Int)<=5))
  |.inr c=>some c)
instance{a:zI}:Xs (NG a) (λk=>[(3,nI k)]) [0]:=⟨⟩
instance XT{a:zI}:Qe 113 (M3 a) [dL Am a] (λb=>.bool b):=sX [] [] [] func113
def IZ(a:Bool):Option Bool:=some a
def Lc(a:DA)(b:zI):Option Bool:=Aa (DO a) λc=>cond c (cond ((b.length:Int)==a.1) (Aa (M3 b) λd=>IZ d)<|IZ false)<|IZ false
instance Ty{a:DA}{b:zI}:Qe 43 (Lc a b) [.agg (Cl a),dL Am b] (λc=>.bool c):=sX [2] [] [] func43
def Jr(a:(Bool×Int)->Option Bool)(b:Int)(c:Bool):Option Bool:=a (c,(wZ<|b+1))
def Jq(a:DA)(b:Int)(c:Int)(d:(Bool×Int)->Option Bool)(e:Bool×Int):Option Bool:=match e with
  |(f,g)=>cond (decide (g < (a.2.1.length:Int))) (cond f (Jr d g true)<|cond (c !=b) (Aa (AU a.2.1 g) λi=>Aa (Dy i b) λj=>cond j (Aa (AU a.2.1 g) λk=>Aa (Dy k c) λl=>Jr d g l)<|Jr d g false)<|Jr d g false)<|some f
def N5(a:(zI×Int)->Option (zI))(b:Int)(c:zI):Option (zI):=a (c,(wZ<|b+1))
def Lh(a:DA)(b:Int)(c:(zI×Int)->Option (zI))(d:zI×Int):Option (zI):=match d with
  |(e,f)=>cond (decide (f < a.1)) (Aa (DO a) λg=>cond g (Aa (Ay (Jq a b f) fz (false,0)) λi=>cond i (chk (List.length e+List.length [f]<=lim)<|N5 c f<|e++[f])<|N5 c f e)<|some e)<|some e
def Ry(a:DA)(b:Int):Option (zI):=Aa (Ay (Lh a b) fz (([]:zI),0)) λc=>some c
instance{a:DA}{b:Int}{c:Int}:Xs (Jq a b c) (λ(J,K)=>[(7,.bool J),(8,nI K)]) [1,2,5,6]:=⟨⟩
instance{a:DA}{b:Int}:Xs (Lh a b) (λ(n,o)=>[(5,oL 3 Am n),(6,nI o)]) [1,2]:=⟨⟩
instance cM{a:DA}{b:Int}:Qe 211 (Ry a b) [.agg (Cl a),nI b] (λc=>oL 3 Am c):=sX [2] [] [(11,[52]),(12,[56])] func211
def Ll(a:DA)(b:Int)(c:zI)(d:(List Bool×Int)->Option (List Bool))(e:(List Bool)×Int):Option (List Bool):=match e with
  |(f,g)=>cond (decide (g < (c.length:Int))) (Aa (AU c g) λi=>Aa (AU f<|wZ<|(wZ<|b * a.1)+i) λj=>d ((CY f (wZ<|(wZ<|b * a.1)+i) true),(wZ<|g+1)))<|some f
def N6(a:DA)(b:(List Bool×Int)->Option (List Bool))(c:(List Bool)×Int):Option (List Bool):=match c with
  |(d,e)=>cond (decide (e < a.1)) (Aa (Ry a e) λf=>Aa (Ay (Ll a e f) fz (d,0)) λg=>b (g,(wZ<|e+1)))<|some d
def RH(a:DA):Option (List Bool):=chk ((0:Int)<=wZ (a.1 * a.1)∧Int.toNat (wZ<|a.1 * a.1)<=lim)<|Aa (Ay (N6 a) fz ((List.replicate (Int.toNat<|wZ<|a.1 * a.1) (false:Bool)),0)) λb=>some b
instance{a:DA}{b:Int}{c:zI}:Xs (Ll a b c) (λ(B,C)=>[(4,wL 4 QM B),(7,nI C)]) [1,3,5,6]:=⟨⟩
instance{a:DA}:Xs (N6 a) (λ(n,o)=>[(4,wL 4 QM n),(5,nI o)]) [1,3]:=⟨⟩
instance cO{a:DA}:Qe 222 (RH a) [.agg (Cl a)] (λb=>oL 4 QM b):=sX [1,4,13] [] [(2,[4,13]),(11,[38])] func222
end Go.Proofs.YtdmpnamllcigdaaGreatDoor
