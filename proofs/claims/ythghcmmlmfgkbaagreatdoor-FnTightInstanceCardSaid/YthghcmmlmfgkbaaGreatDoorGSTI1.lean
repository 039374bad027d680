/-
  The functions' code as the program holds it, without places and edges; printed by genlit.py. No conditions.
-/
import Derived.Test.YthghcmmlmfgkbaaGreatDoorTb
import Derived.Test.YthghcmmlmfgkbaaGreatDoorKb
open Go.RowKit
set_option linter.unusedVariables false
set_option linter.unusedSimpArgs false
namespace Go.Proofs.YthghcmmlmfgkbaaGreatDoor
set_option maxRecDepth 100000
theorem AaO:Cw 4 [] [] [] Tryz.f4:=BL Tryz.func4
theorem AaP:Cw 5 [2,5,10] [] [(1,[8,10]),(2,[15,16])] Tryz.f5:=BL Tryz.func5
theorem AaQ:Cw 6 [1,3,5,7,10] [] [(1,[12]),(4,[21]),(5,[26]),(6,[32])] Tryz.f6:=BL Tryz.func6
theorem AaR:Cw 7 [] [] [(14,[54]),(15,[70])] Tryz.f7:=BL Tryz.func7
theorem AaS:Cw 8 [] [] [] Tryz.f8:=BL Tryz.func8
theorem AaT:Cw 9 [3,6,10,12,14,15,17] [] [(1,[19]),(7,[36]),(10,[45]),(14,[53]),(15,[61]),(18,[76]),(20,[78])] Tryz.f9:=BL Tryz.func9
theorem xt:Cw 10 [3,6,8,12,14,16] [(68,3),(79,3)] [(3,[24]),(11,[44]),(12,[61]),(13,[66]),(14,[77]),(17,[99]),(18,[100])] Tryz.f10:=BL Tryz.func10
theorem xu:Cw 11 [2,3] [(20,2),(26,3),(34,2),(40,3)] [] Tryz.f11:=BL Tryz.func11
theorem xv:Cw 12 [3] [] [(1,[13])] Tryz.f12:=BL Tryz.func12
theorem xw:Cw 13 [2,3] [(23,3)] [(3,[13]),(7,[21]),(8,[33])] Tryz.f13:=BL Tryz.func13
theorem xx:Cw 14 [2] [] [(1,[11])] Tryz.f14:=BL Tryz.func14
theorem xy:Cw 15 [2,3,4,6] [(23,3)] [(5,[19]),(6,[22]),(9,[35])] Tryz.f15:=BL Tryz.func15
theorem xA:Cw 16 [0,2,5,1000000] [(0,0),(38,0)] [(3,[12]),(11,[33]),(12,[36,37])] Tryz.f16:=BL Tryz.func16
theorem xB:Cw 17 [31] [] [(6,[28])] Tryz.f17:=BL Tryz.func17
theorem xC:Cw 18 [1,2,4] [] [(14,[36]),(15,[42,43]),(16,[48]),(20,[61]),(21,[66])] Tryz.f18:=BL Tryz.func18
theorem xD:Cw 19 [1,2] [(18,1),(22,1)] [(3,[10]),(4,[16])] Tryz.f19:=BL Tryz.func19
theorem xE:Cw 20 [1,3,9] [] [(13,[55]),(14,[61])] Tryz.f20:=BL Tryz.func20
theorem xF:Cw 21 [1] [] [] Tryz.f21:=BL Tryz.func21
theorem xG:Cw 22 [] [] [] Tryz.f22:=BL Tryz.func22
theorem xH:Cw 23 [3] [] [(16,[47]),(18,[52])] Tryz.f23:=BL Tryz.func23
theorem xI:Cw 24 [2] [] [(20,[48]),(24,[54]),(26,[63]),(28,[67])] Tryz.f24:=BL Tryz.func24
theorem xJ:Cw 25 [] [] [(5,[15]),(7,[23])] Tryz.f25:=BL Tryz.func25
theorem xK:Cw 26 [3,5,6,8,10] [(60,8),(68,8),(73,8)] [(9,[57]),(10,[65]),(13,[79])] Tryz.f26:=BL Tryz.func26
theorem xL:Cw 27 [3] [] [] Tryz.f27:=BL Tryz.func27
theorem xM:Cw 28 [] [] [] Tryz.f28:=BL Tryz.func28
theorem xN:Cw 29 [2] [] [(14,[54,59]),(15,[66]),(16,[69])] Tryz.f29:=BL Tryz.func29
theorem xO:Cw 30 [2,4] [] [] Tryz.f30:=BL Tryz.func30
theorem xP:Cw 31 [3,5,6,8,11] [] [(6,[24]),(8,[34]),(11,[46,47]),(13,[54])] Tryz.f31:=BL Tryz.func31
theorem xQ:Cw 32 [2,3] [(27,2),(32,3)] [] Tryz.f32:=BL Tryz.func32
theorem xR:Cw 33 [2,3,6] [(17,3),(29,6),(31,3)] [(4,[15])] Tryz.f33:=BL Tryz.func33
theorem xS:Cw 34 [2,3,4,6,8,16] [(57,6),(62,3),(97,6)] [(2,[20]),(5,[40]),(14,[56]),(22,[108,109]),(23,[112]),(25,[121]),(26,[122])] Tryz.f34:=BL Tryz.func34
theorem xT:Cw 35 [2,8] [] [(9,[37]),(13,[49]),(16,[56]),(19,[66]),(21,[68])] Tryz.f35:=BL Tryz.func35
theorem xU:Cw 36 [] [] [] Tryz.f36:=BL Tryz.func36
theorem xV:Cw 37 [4,7] [] [(9,[39])] Tryz.f37:=BL Tryz.func37
theorem xW:Cw 38 [4,5,10] [(29,5),(76,10)] [(2,[23]),(4,[27]),(8,[46]),(17,[98]),(18,[106])] Tryz.f38:=BL Tryz.func38
theorem xX:Cw 39 [0,2,4,6,9,1000000] [(0,0),(49,9),(51,0),(52,6),(57,9)] [(2,[13]),(4,[23]),(14,[50]),(15,[59,60]),(20,[75]),(22,[81]),(23,[82])] Tryz.f39:=BL Tryz.func39
theorem xY:Cw 40 [0,1000000] [] [] Tryz.f40:=BL Tryz.func40
theorem xZ:Cw 41 [2,5] [(37,5),(50,5)] [(10,[38]),(21,[89])] Tryz.f41:=BL Tryz.func41
theorem x9:Cw 42 [0,1000000] [] [(3,[13]),(4,[19])] Tryz.f42:=BL Tryz.func42
theorem ya:Cw 43 [0,1000000] [] [] Tryz.f43:=BL Tryz.func43
theorem yb:Cw 44 [1] [(65,1),(74,1),(111,1),(116,1),(122,1),(126,1)] [] Tryz.f44:=BL Tryz.func44
theorem yd:Cw 45 [2] [] [] Tryz.f45:=BL Tryz.func45
theorem yf:Cw 46 [1] [] [] Tryz.f46:=BL Tryz.func46
theorem yg:Cw 47 [] [] [(3,[23]),(11,[39]),(12,[49,50]),(13,[53])] Tryz.f47:=BL Tryz.func47
theorem yh:Cw 48 [] [] [] Tryz.f48:=BL Tryz.func48
theorem yi:Cw 49 [2,5,8,12] [(26,2)] [(10,[51]),(13,[53])] Tryz.f49:=BL Tryz.func49
theorem yj:Cw 50 [] [] [] Tryz.f50:=BL Tryz.func50
theorem yk:Cw 51 [1,4,6,31] [] [(4,[4,31]),(7,[38])] Tryz.f51:=BL Tryz.func51
theorem ym:Cw 52 [] [] [] Tryz.f52:=BL Tryz.func52
theorem yo:Cw 53 [] [] [(1,[4])] Tryz.f53:=BL Tryz.func53
theorem yp:Cw 54 [1,4] [(17,4),(25,1),(32,4),(38,4),(44,4),(45,4),(50,4),(51,4)] [(5,[16])] Tryz.f54:=BL Tryz.func54
theorem yq:Cw 55 [1,2,3,5] [(13,3),(15,5),(17,5),(23,3)] [(4,[12]),(5,[14]),(7,[25])] Tryz.f55:=BL Tryz.func55
theorem yr:Cw 56 [1,2] [(3,1),(5,1)] [] Tryz.f56:=BL Tryz.func56
theorem yt:Cw 57 [1,4] [(17,4),(25,1),(32,4),(38,4),(44,4),(45,4),(51,4),(52,4)] [(4,[16])] Tryz.f57:=BL Tryz.func57
theorem yu:Cw 58 [1,2,3] [(15,3),(18,1),(26,3)] [(5,[16,22]),(6,[27])] Tryz.f58:=BL Tryz.func58
theorem yv:Cw 59 [1,2,3,5] [(21,3),(23,1),(33,3)] [(6,[22,29]),(7,[34])] Tryz.f59:=BL Tryz.func59
theorem yw:Cw 60 [] [] [] Tryz.f60:=BL Tryz.func60
theorem yx:Cw 61 [1] [] [(6,[13]),(7,[17])] Tryz.f61:=BL Tryz.func61
theorem yy:Cw 62 [] [] [] Tryz.f62:=BL Tryz.func62
theorem yA:Cw 63 [1,2] [] [] Tryz.f63:=BL Tryz.func63
theorem yB:Cw 64 [1] [] [] Tryz.f64:=BL Tryz.func64
theorem yC:Cw 65 [12,14] [] [(1,[16]),(2,[21]),(5,[46]),(6,[54])] Tryz.f65:=BL Tryz.func65
theorem yD:Cw 66 [13,15,17,19] [] [(1,[21]),(10,[45]),(11,[51]),(12,[57]),(13,[63])] Tryz.f66:=BL Tryz.func66
theorem yE:Cw 67 [] [] [] Tryz.f67:=BL Tryz.func67
theorem yF:Cw 68 [] [] [(2,[12]),(16,[53]),(18,[58]),(21,[75,76]),(22,[79])] Tryz.f68:=BL Tryz.func68
theorem yG:Cw 69 [1] [(21,1),(27,1),(31,1),(43,1),(49,1)] [] Tryz.f69:=BL Tryz.func69
theorem yH:Cw 70 [0,1000000] [] [] Tryz.f70:=BL Tryz.func70
theorem yI:Cw 71 [0,1000000] [] [] Tryz.f71:=BL Tryz.func71
theorem yJ:Cw 72 [] [] [(7,[20]),(9,[29])] Tryz.f72:=BL Tryz.func72
theorem yK:Cw 73 [] [] [(9,[25]),(10,[29])] Tryz.f73:=BL Tryz.func73
theorem yL:Cw 74 [] [] [] Tryz.f74:=BL Tryz.func74
theorem yM:Cw 75 [1] [(24,1),(31,1)] [] Tryz.f75:=BL Tryz.func75
theorem yN:Cw 76 [] [] [] Tryz.f76:=BL Tryz.func76
theorem yO:Cw 77 [] [] [] Tryz.f77:=BL Tryz.func77
theorem yP:Cw 78 [2] [] [(15,[55,60]),(16,[63]),(21,[77]),(23,[87,88]),(24,[91]),(25,[95]),(33,[125,126]),(34,[129])] Tryz.f78:=BL Tryz.func78
theorem yQ:Cw 79 [4,6,8] [] [] Tryz.f79:=BL Tryz.func79
theorem yR:Cw 80 [2,3] [] [] Tryz.f80:=BL Tryz.func80
theorem yS:Cw 81 [] [] [] Tryz.f81:=BL Tryz.func81
theorem yU:Cw 82 [] [] [] Tryz.f82:=BL Tryz.func82
theorem yV:Cw 83 [1] [] [] Tryz.f83:=BL Tryz.func83
theorem yW:Cw 84 [] [] [(4,[11]),(5,[12]),(7,[18])] Tryz.f84:=BL Tryz.func84
theorem yX:Cw 85 [2,4,5,10] [] [(8,[23]),(9,[24]),(11,[34,35]),(12,[40]),(16,[52]),(18,[58])] Tryz.f85:=BL Tryz.func85
theorem yY:Cw 86 [1] [] [(7,[14]),(8,[18])] Tryz.f86:=BL Tryz.func86
theorem yZ:Cw 87 [1] [] [(6,[46])] Tryz.f87:=BL Tryz.func87
theorem y5:Cw 88 [2,3,5,6,7,11,12] [] [(11,[34]),(12,[42,43]),(13,[46]),(18,[53])] Tryz.f88:=BL Tryz.func88
theorem zb:Cw 89 [6,8,11] [(35,8),(39,8),(52,11),(55,11)] [(19,[51]),(21,[62])] Tryz.f89:=BL Tryz.func89
theorem zd:Cw 90 [4,6,8,10] [] [(7,[24]),(8,[36]),(11,[49]),(13,[51])] Tryz.f90:=BL Tryz.func90
theorem ze:Cw 91 [] [] [(5,[14]),(7,[21])] Tryz.f91:=BL Tryz.func91
theorem zf:Cw 92 [2,3] [(36,2),(41,3),(47,2),(52,3)] [] Tryz.f92:=BL Tryz.func92
theorem zg:Cw 93 [4,6,8] [] [(7,[24]),(10,[34]),(11,[35])] Tryz.f93:=BL Tryz.func93
theorem zh:Cw 94 [2,3,4,6,27] [] [(3,[6,27]),(13,[57])] Tryz.f94:=BL Tryz.func94
theorem zi:Cw 95 [0,1000000] [(0,0),(13,0),(14,0),(15,0),(18,0),(19,0),(20,0),(25,0),(26,0),(27,0),(29,0),(30,0),(31,0),(36,0),(37,0),(38,0),(40,0),(41,0),(42,0)] [] Tryz.f95:=BL Tryz.func95
theorem zj:Cw 96 [] [] [] Tryz.f96:=BL Tryz.func96
theorem zl:Cw 97 [] [] [(11,[36,42]),(12,[46])] Tryz.f97:=BL Tryz.func97
theorem zm:Cw 98 [14] [] [(10,[41,46]),(19,[85]),(20,[91]),(21,[95]),(31,[129]),(32,[133])] Tryz.f98:=BL Tryz.func98
theorem zo:Cw 99 [3] [(59,3)] [(8,[42])] Tryz.f99:=BL Tryz.func99
theorem tU:Cw 100 [] [] [] Tryz.f100:=BL Tryz.func100
theorem tV:Cw 101 [2,3,4,6] [] [] Tryz.f101:=BL Tryz.func101
theorem tW:Cw 102 [2,3,4,6] [] [] Tryz.f102:=BL Tryz.func102
theorem tX:Cw 103 [] [] [] Tryz.f103:=BL Tryz.func103
theorem tY:Cw 104 [] [] [] Tryz.f104:=BL Tryz.func104
theorem tZ:Cw 105 [] [] [(5,[21])] Tryz.f105:=BL Tryz.func105
theorem t9:Cw 106 [] [] [] Tryz.f106:=BL Tryz.func106
theorem ua:Cw 107 [2] [] [] Tryz.f107:=BL Tryz.func107
theorem ub:Cw 108 [4] [] [] Tryz.f108:=BL Tryz.func108
theorem uc:Cw 109 [] [] [(1,[4])] Tryz.f109:=BL Tryz.func109
theorem ud:Cw 110 [2,3,4,5,6,7,8,1000002,1000003,1000004,1000005,1000006,1000007,1000008] [] [(10,[46,50]),(11,[53]),(13,[61]),(17,[81]),(20,[86,87])] Tryz.f110:=BL Tryz.func110
theorem ue:Cw 111 [15] [(85,900003),(85,900004),(87,900003),(87,900004),(89,900003),(89,900004),(91,900003),(91,900004),(93,900003),(93,900004),(95,900003),(95,900004),(97,900003),(97,900004),(98,900003),(98,900004)] [(7,[38]),(10,[48]),(20,[92,96,1500092,1500096]),(33,[156]),(34,[160])] Tryz.f111:=BL Tryz.func111
theorem uf:Cw 112 [3,8,12] [(57,3)] [(9,[39])] Tryz.f112:=BL Tryz.func112
theorem ug:Cw 113 [] [] [] Tryz.f113:=BL Tryz.func113
theorem uh:Cw 114 [1] [(3,1),(7,1),(12,1),(15,1)] [] Tryz.f114:=BL Tryz.func114
theorem uj:Cw 115 [] [] [] Tryz.f115:=BL Tryz.func115
theorem uk:Cw 116 [2,3] [] [(3,[7]),(5,[15])] Tryz.f116:=BL Tryz.func116
theorem ul:Cw 117 [1] [] [] Tryz.f117:=BL Tryz.func117
theorem um:Cw 118 [] [] [] Tryz.f118:=BL Tryz.func118
theorem un:Cw 119 [2,4] [] [(8,[29]),(16,[61])] Tryz.f119:=BL Tryz.func119
theorem uo:Cw 120 [0,6,9,11,1000000] [(92,900003),(92,900004),(94,900003),(94,900004),(95,900003),(95,900004),(98,900003),(98,900004)] [(12,[95])] Tryz.f120:=BL Tryz.func120
theorem uq:Cw 121 [2,3,4,6] [] [] Tryz.f121:=BL Tryz.func121
theorem ur:Cw 122 [8] [] [(8,[29]),(9,[33])] Tryz.f122:=BL Tryz.func122
theorem ut:Cw 123 [4,8] [] [] Tryz.f123:=BL Tryz.func123
theorem uu:Cw 124 [] [] [] Tryz.f124:=BL Tryz.func124
theorem uv:Cw 125 [] [] [] Tryz.f125:=BL Tryz.func125
theorem uw:Cw 126 [] [] [] Tryz.f126:=BL Tryz.func126
theorem ux:Cw 127 [0,1,7,10,12,1000000,1000001] [] [] Tryz.f127:=BL Tryz.func127
theorem uy:Cw 128 [2,3,4] [] [] Tryz.f128:=BL Tryz.func128
theorem uz:Cw 129 [9] [] [(4,[16]),(8,[25]),(10,[30])] Tryz.f129:=BL Tryz.func129
theorem uA:Cw 130 [2,3] [] [] Tryz.f130:=BL Tryz.func130
theorem uB:Cw 131 [] [] [] Tryz.f131:=BL Tryz.func131
theorem uC:Cw 132 [2,3,4,6] [] [] Tryz.f132:=BL Tryz.func132
theorem uD:Cw 133 [2,3,4] [] [] Tryz.f133:=BL Tryz.func133
theorem uE:Cw 134 [2,3,4] [] [] Tryz.f134:=BL Tryz.func134
theorem uF:Cw 135 [2,3] [] [] Tryz.f135:=BL Tryz.func135
theorem uG:Cw 136 [4,7] [] [] Tryz.f136:=BL Tryz.func136
theorem uH:Cw 137 [4,6,8,10] [] [] Tryz.f137:=BL Tryz.func137
theorem uI:Cw 138 [2,3,4] [] [] Tryz.f138:=BL Tryz.func138
set_option maxRecDepth 100000
theorem AaN:Cw 3 [3,7,12,14,22] [] [(3,[25]),(4,[31]),(5,[37]),(9,[48]),(10,[55]),(16,[80])] Tryz.f3:=BL Tryz.func3
set_option maxRecDepth 100000
set_option maxHeartbeats 1000000
def W8(a:zI):Option Bool:=some (decide (1048576 < (List.length a:Int)))
theorem dW{a:zI}{b:Bool}(h:W8 a=some b):Bn 4 [dL Qm a] (.bool b):=st AaO G (rn 2 G (sj h ▸ Am rZ))
abbrev Om:=zI×Int×Int
def Nr(a:Om)(b:Int)(c:Int):Option (Int×Om):=some (c,(a.1,b,wZ ((wZ (a.2.2 * 6364136223846793005))+1442695040888963407)))
def Jw(a:Om):Option (Int×Om):=cond (decide (a.2.1 < (List.length a.1:Int))) (Ab (AZ a.1 a.2.1) λb=>Nr a (wZ (a.2.1+1)) (aG (wZ ((aG (Aac (qU (wZ ((wZ (a.2.2 * 6364136223846793005))+1442695040888963407)) 33) (qU (wZ ((wZ (a.2.2 * 6364136223846793005))+1442695040888963407)) 45)) 255)+(wZ b))) 255)) (Nr a a.2.1 (aG (Aac (qU (wZ ((wZ (a.2.2 * 6364136223846793005))+1442695040888963407)) 33) (qU (wZ ((wZ (a.2.2 * 6364136223846793005))+1442695040888963407)) 45)) 255))
theorem Mi{a:Om}{b:Int×Om}(h:Jw a=some b):O1 Tryz.prog 95 [aL Qm a.1,nI a.2.1,nI a.2.2] [] [aL Qm b.2.1,nI b.2.2.1,nI b.2.2.2] (nI b.1):=stp zi G (rn 2 G (rd (by kernel_rfl) (sd 13 G (Dh (As λc d=>rd (by kernel_rfl) (sd 10 G (Dh (have e:∀{f:Int}{g:Int},Nr a f g=some b->Jn c [(0,.box [aL Qm a.1,nI f,nI (wZ ((wZ (a.2.2 * 6364136223846793005))+1442695040888963407))]),(3,nI g)]:=@λf g h _ i=>d _ (lh i G (rn 1 G (sj h ▸ Am ⟨.inl G,G,G⟩)));(Ce h G (λh=>rd (by kernel_rfl) (sd 9 G (Bk h λj k h=>ed G (qI G rH k (sd 5 G (Dh (rg (AU 9 G (e h _ (Bb G)))))))))) λh=>DZ (e h _ (Bb G)))))))))))
def fo(a:Om):List V:=[dL Qm a.1,nI a.2.1,nI a.2.2]
theorem Abj(a:Om):(fo a).length=3:=G
theorem AaB(a:Om):Mz (fo a)=fo a:=(BR (CM oP _) (BR G (BR G G)))
def VH(a:Om):List V:=[aL Qm a.1,nI a.2.1,nI a.2.2]
theorem Abi(a:Om):(VH a).length=3:=G
theorem AaA(a:Om):Mz (VH a)=fo a:=(BR (V6 oP _) (BR G (BR G G)))
def FE(a:Om)(b:Int):Option (Int×Om):=cond (decide (b<=0)) (some (0,a)) (cond (decide (b<=256)) (Ab (Jw a) λc=>chk (b≠0) (some (Int.tmod c.1 b,c.2))) (Ab (Jw a) λd=>Ab (Jw d.2) λe=>Ab (Jw e.2) λf=>Ab (Jw f.2) λg=>chk (b≠0) (some (Int.tmod (wZ ((wZ ((wZ ((wZ (d.1 * 16777216))+(wZ (e.1 * 65536))))+(wZ (f.1 * 256))))+g.1)) b,g.2))))
theorem Gq{a:Om}{b:Int}{c:Int×Om}(h:FE a b=some c):O1 Tryz.prog 71 [aL Qm a.1,nI a.2.1,nI a.2.2] [nI b] [aL Qm c.2.1,nI c.2.2.1,nI c.2.2.2] (nI c.1):=stp yI G (rn 1 G (Fu G λd=>Ce h G (λh=>rn 1 G (sj h ▸ Am ⟨.inl G,G,G⟩)) λh=>Cl d (Fu G λe=>Ce h G (λh=>rs (sp 1 G (Bk h λf g h=>qP G G G G A4 (Mi g) (sp 1 G (EM h λi h=>qB G ⟨G,i⟩ G (AU 1 G (sj h ▸ Am ⟨.inl G,G,G⟩))))))) λh=>Cl e (rs (sp 1 G (Bk h λj k h=>qP G G G G A4 (Mi k) (AU 1 G (qk [0,1,5] G (rs (sp 1 G (Bk h λl m h=>qP G G G G A4 (Mi m) (AU 1 G (rs (sp 1 G (Bk h λn o h=>qP G G G G A4 (Mi o) (AU 1 G (rs (sp 1 G (Bk h λp q h=>qP G G G G A4 (Mi q) (AU 1 G (rs (sp 11 G (EM h λr h=>qB G ⟨G,r⟩ G (AU 1 G (sj h ▸ Am ⟨.inl G,G,G⟩)))))))))))))))))))))))))
def Jx(a:Om)(b:Int):Option (Bool×Om):=Ab (FE a b) λc=>some ((c.1==0),c.2)
theorem Mk{a:Om}{b:Int}{c:Bool×Om}(h:Jx a b=some c):O1 Tryz.prog 40 [aL Qm a.1,nI a.2.1,nI a.2.2] [nI b] [aL Qm c.2.1,nI c.2.2.1,nI c.2.2.2] (.bool c.1):=stp xY G (rn 1 G (rs (sp 2 G (Bk h λd e h=>qP G G G G (qs G A4) (Gq e) (AU 2 G (sj h ▸ Am ⟨.inl G,G,G⟩))))))
def Qf(a:(List zU×Int×Int)->Option (List zU×Int))(b:Int)(c:List zU)(d:Int):Option (List zU×Int):=a (c,d,(wZ (b+1)))
def Tj(a:zU)(b:Int)(c:(List zU×Int×Int)->Option (List zU×Int))(d:(List zU)×Int×Int):Option (List zU×Int):=match d with
  |(e,f,g)=>cond (decide (g < (List.length a:Int))) (Ab (AZ a g) λi=>cond ((UInt8.toNat i:Int)==b) (chk ((0:Int)<=f∧f<=g∧g<=(List.length a:Int)) (chk (List.length e+List.length [Ef a f g]<=lim) (Qf c g (e++[Ef a f g]) (wZ (g+1))))) (Qf c g e f)) (some (e,f))
def Rh(a:zU)(b:Int):Option (List zU):=Ab (Au (Tj a b) fz (([]:List zU),0,0)) λc=>(match c with
  |(d,e)=>(chk ((0:Int)<=e∧e<=(List.length a:Int)∧(List.length a:Int)<=(List.length a:Int)) (chk (List.length d+List.length [Ef a e (List.length a:Int)]<=lim) (some (d++[Ef a e (List.length a:Int)])))))
theorem Ri{a:zU}{b:Int}{c:(List zU)}(h:Rh a b=some c):Bn 72 [.str a,.int .u8 b] (oL 9 cst c):=st yJ G (rn 1 G (rs (EW cst [] G G G S8 (AU 1 G (rn 1 G (As λd e=>rn 1 G (EF h λf g i=>have j:∀{k:List zU}{l:Int},(k,l)=f->Jn d [(0,.str a),(5,oL 9 cst k),(6,nI l)]:=@λk l h _ m=>have h:=i h;e _ (lh m G (rs (sp 3 G (EM h λn h=>qSs G n (EW cst [Ef a l (List.length a:Int)] G G G S8 (EM h λo h=>qA cst k [Ef a l (List.length a:Int)] G G (Bh S8 [Ef a l (List.length a:Int)]) G o (AU 1 G (sj h ▸ Am rZ))))))));(Ba (λ(p:(List zU)×Int×Int)=>match p with|(q,r,s)=>[(0,.str a),(1,.int .u8 b),(5,oL 9 cst q),(6,nI r),(7,nI s)]) _ _ _ _ g (Bb G) (λ_=>G) (λt=>pr3 λq r s u h v=>Fu G λw=>Ce h G (λh=>Cl w (As λx y=>A8 (rs (sp 2 G (Bk h λz A h=>qX G A (AU 2 G (have B:∀{C:List zU}{D:Int},Qf (Au (Tj a b) t) s C D=some f->Jn x [(0,.str a),(1,.int .u8 b),(5,oL 9 cst C),(6,nI D),(7,nI s)]:=@λC D h _ m=>y _ (lh m G (rg (AU 3 G (v _ _ h (Bb G)))));(Ce h G (λh=>rs (sp 4 G (EM h λF h=>qSs G F (EW cst [Ef a r s] G G G S8 (EM h λH h=>qA cst q [Ef a r s] G G (Bh S8 [Ef a r s]) G H (AU 1 G (rg (AU 3 G (B h _ (Bb G)))))))))) λh=>DZ (B h _ (Bb G)))))))))) λh=>AI (j (sj h) _ (Bb G)))))))))))
def OX(a:Bool):Option Bool:=some a
def Ej(a:Int)(b:Int)(c:Int):Option Bool:=cond (decide (b<=a)) (OX (decide (a<=c))) (OX false)
theorem DT{a:Int}{b:Int}{c:Int}{d:Bool}(h:Ej a b c=some d):Bn 50 [nI a,nI b,nI c] (.bool d):=st yj G (rn 1 G (rk λe f=>have g:∀{i:Bool},OX i=some d->Jn e [(6,.bool i)]:=@λi h _ j=>f _ (lh j G (sj h ▸ Am rZ));(sp 4 G (Ew h (λk h=>qg 10 k G (AU 5 G (g h _ (Bb G)))) λk h=>qg 10 k G (AU 5 G (g h _ (Bb G)))))))
def KL(a:Int):Option (zU):=Ab (Ej a 0 4) λb=>cond (!b) (some []) (chk ((0:Int)<=a∧a<=wZ (a+1)∧wZ (a+1)<=(List.length [88,89,90,85,86]:Int)) (some (Ef [88,89,90,85,86] a (wZ (a+1)))))
theorem Mb{a:Int}{b:zU}(h:KL a=some b):Bn 74 [nI a] (.str b):=st yL G (rn 1 G (CU λc=>rs (sp 1 G (Bk h λd e h=>qC (qs G (qs G (qs G A4))) (DT e) (AU 1 G (Ce h G (λh=>rn 1 G (sj h ▸ Am rZ)) λh=>Cl c (rs (sp 3 G (EM h λf h=>qSs G f (AU 1 G (sj h ▸ Am rZ)))))))))))
def PE(a:(zI×Int)->Option (zI))(b:Int)(c:zI):Option (zI):=a (c,(wZ (b+1)))
def Sb(a:zU)(b:Int)(c:(zI×Int)->Option (zI))(d:zI×Int):Option (zI):=match d with
  |(e,f)=>cond (decide (f < 5)) (Ab (KL f) λg=>chk ((0:Int)<=b∧b<=wZ (b+1)∧wZ (b+1)<=(List.length a:Int)) (cond (g==(Ef a b (wZ (b+1)))) (chk (List.length e+List.length [f]<=lim) (PE c f (e++[f]))) (PE c f e))) (some e)
def XI(a:zU)(b:(zI×Int)->Option (zI))(c:zI×Int):Option (zI):=match c with
  |(d,e)=>cond (decide (e < (List.length a:Int))) (Ab (Au (Sb a e) fz (d,0)) λf=>b (f,(wZ (e+1)))) (some d)
def Sa(a:zU):Option (zI):=Ab (Au (XI a) fz (([]:zI),0)) λb=>some b
theorem Tl{a:zU}{b:zI}(h:Sa a=some b):Bn 73 [.str a] (oL 3 AF b):=st yK G (rn 1 G (rs (EW AF [] G G G BJ (AU 1 G (As λc d=>rn 1 G (EF h λe f g=>have i:∀{j:zI},j=e->Jn c [(3,oL 3 AF j)]:=@λj h _ k=>have h:=g h;d _ (lh k G (rn 1 G (sj h ▸ Am rZ)));(Ba (λ(l:zI×Int)=>match l with|(m,n)=>[(0,.str a),(3,oL 3 AF m),(4,nI n)]) _ _ _ _ f (Bb G) (λ_=>G) (λo=>Kk λm n p h q=>Fu G λr=>Ce h G (λh=>Cl r (As λs t=>A8 (rn 1 G (EF h λu f v=>have w:∀{x:zI},x=u->Jn s [(0,.str a),(3,oL 3 AF x),(4,nI n)]:=@λx h _ k=>have h:=v h;t _ (lh k G (rg (AU 3 G (q _ _ h (Bb G)))));(Ba (λ(l:zI×Int)=>match l with|(y,z)=>[(0,.str a),(3,oL 3 AF y),(4,nI n),(5,nI z)]) _ _ _ _ f (Bb G) (λ_=>G) (λo=>Kk λy z p h q=>Fu G λA=>Ce h G (λh=>Cl A (As λB C=>A8 (rd (by kernel_rfl) (sd 1 G (Bk h λD F h=>ed G (qC (qs G A4) (Mb F) (sd 4 G (EM h λH h=>ed G (qSs G H (sd 1 G (Dh (have I:∀{J:zI},PE (Au (Sb a n) o) z J=some u->Jn B [(0,.str a),(3,oL 3 AF J),(4,nI n),(5,nI z)]:=@λJ h _ k=>C _ (lh k G (rg (AU 3 G (q _ _ h (Bb G)))));(Ce h G (λh=>rg (sp 2 G (EW AF [z] G G G BJ (EM h λK h=>qA AF y [z] G G (Bh BJ [z]) G K (AU 1 G (I h _ (Bb G))))))) λh=>DZ (I h _ (Bb G))))))))))))))) λh=>AI (w (sj h) _ (Bb G)))))))) λh=>AI (i (sj h) _ (Bb G))))))))))
abbrev O2:=zU×zI
def DK(a:O2):List V:=[.str a.1,dL AF a.2]
theorem Jr(a:O2):(DK a).length=2:=G
theorem I0(a:O2):Mz (DK a)=DK a:=(BR G (BR (CM Cb _) G))
def IA(a:O2)(b:Int)(c:Int->Option (Sum Unit Bool))(d:Int):Option (Sum Unit Bool):=cond (decide (d < (List.length a.2:Int))) (Ab (AZ a.2 d) λe=>cond (e==b) (some (.inr true)) (c (wZ (d+1)))) (some (.inl ()))
def ES(a:O2)(b:Int):Option Bool:=Ab (Au (IA a b) fz 0) λc=>(match c with
  |.inl _=>(some false)
  |.inr d=>some d)
theorem Jh{a:O2}{b:Int}{c:Bool}(h:ES a b=some c):Bn 45 [.agg (DK a),nI b] (.bool c):=st yd G (rn 1 G (As λd e=>rn 1 G (EF h λf g i=>have j:(.inl ())=f->Jn d []:=λh _ k=>have h:=i h;e _ (lh k G (rn 1 G (sj h ▸ Am rZ)));(Ba (λ(l:Int)=>[(1,nI b),(2,.box [.str a.1,dL AF a.2]),(5,nI l)]) _ _ _ _ g (Bb G) (λ_=>G) (λm l n h o=>Fu G λp=>Ce h G (λh=>Cl p (CU λq=>A8 (rs (sp 3 G (Bk h λr s h=>qI G BJ s (AU 3 G (Ce h G (λh=>rn 1 G (sj (i (sj h)) ▸ Am rZ)) λh=>Cl q (rg (AU 3 G (o _ _ h (Bb G))))))))))) λh=>AI (j (sj h) _ trivial))))))
def PD(a:zI)(b:Int)(c:Int->Option (Sum Unit Int))(d:Int):Option (Sum Unit Int):=cond (decide (d < (List.length a:Int))) (Ab (AZ a d) λe=>cond (e==b) (some (.inr d)) (c (wZ (d+1)))) (some (.inl ()))
def MX(a:zI)(b:Int):Option Int:=Ab (Au (PD a b) fz 0) λc=>(match c with
  |.inl _=>(some (-1))
  |.inr d=>some d)
theorem Qg{a:zI}{b:Int}{c:Int}(h:MX a b=some c):Bn 62 [dL AF a,nI b] (nI c):=st yy G (rn 1 G (As λd e=>rn 1 G (EF h λf g i=>have j:(.inl ())=f->Jn d []:=λh _ k=>have h:=i h;e _ (lh k G (rn 1 G (sj h ▸ Am rZ)));(Ba (λ(l:Int)=>[(0,dL AF a),(1,nI b),(5,nI l)]) _ _ _ _ g (Bb G) (λ_=>G) (λm l n h o=>Fu G λp=>Ce h G (λh=>Cl p (CU λq=>A8 (rs (sp 2 G (Bk h λr s h=>qI G BJ s (AU 3 G (Ce h G (λh=>rn 1 G (sj (i (sj h)) ▸ Am rZ)) λh=>Cl q (rg (AU 3 G (o _ _ h (Bb G))))))))))) λh=>AI (j (sj h) _ trivial))))))
def L9(a:zU)(b:Int->Option (Sum Unit Bool))(c:Int):Option (Sum Unit Bool):=cond (decide (c < (List.length a:Int))) (Ab (AZ a c) λd=>cond (decide ((UInt8.toNat d:Int) < 97)) (some (.inr false)) (Ab (AZ a c) λe=>cond (decide (122 < (UInt8.toNat e:Int))) (some (.inr false)) (b (wZ (c+1))))) (some (.inl ()))
def Jj(a:zU):Option Bool:=Ab (Au (L9 a) fz 0) λb=>(match b with
  |.inl _=>(Ab (Ej (List.length a:Int) 1 4) λc=>some c)
  |.inr d=>some d)
theorem Pw{a:zU}{b:Bool}(h:Jj a=some b):Bn 76 [.str a] (.bool b):=st yN G (rn 1 G (As λc d=>rn 1 G (EF h λe f g=>have i:(.inl ())=e->Jn c [(0,.str a)]:=λh _ j=>have h:=g h;d _ (lh j G (rs (sp 2 G (Bk h λk l h=>qC (qs G (qs G (qs G A4))) (DT l) (AU 1 G (sj h ▸ Am rZ))))));(Ba (λ(m:Int)=>[(0,.str a),(3,nI m)]) _ _ _ _ f (Bb G) (λ_=>G) (λn m o h p=>Fu G λq=>Ce h G (λh=>Cl q (CU λr=>A8 (rs (sp 2 G (Bk h λs t h=>qX G t (sp 2 G (Ew h (λu h=>qg 14 u G (AU 5 G (qT G G (rn 1 G (sj (g (sj h)) ▸ Am rZ))))) λu h=>qg 14 u G (sp 2 G (Bk h λv w h=>FY G G (qX G w (AU 2 G (Ce h G (λh=>rn 1 G (qk [2] G (sj (g (sj h)) ▸ Am rZ))) λh=>Cl r (rg (AU 3 G (p _ _ h (Bb G)))))))))))))))) λh=>AI (i (sj h) _ (Bb G)))))))
abbrev IC:=Int×List O2×zI
def EY(a:IC):List V:=[nI a.1,dL DK a.2.1,dL AF a.2.2]
theorem Aae(a:IC):(EY a).length=3:=G
theorem wN(a:IC):Mz (EY a)=EY a:=(BR G (BR (CM I0 _) (BR (CM Cb _) G)))
def Ll(a:IC)(b:Int)(c:Int->Option (Sum Unit Bool))(d:Int):Option (Sum Unit Bool):=Ab (AZ a.2.1 b) λe=>cond (decide (d < (List.length e.2:Int))) (Ab (AZ a.2.1 b) λf=>Ab (AZ f.2 d) λg=>Ab (Ej g 0 (wZ (a.1 - 1))) λi=>cond (!i) (some (.inr false)) (c (wZ (d+1)))) (some (.inl ()))
def Ik(a:IC)(b:Int->Option (Sum Unit Bool))(c:Int):Option (Sum Unit Bool):=cond (decide (c < (List.length a.2.1:Int))) (Ab (AZ a.2.1 c) λd=>Ab (Jj d.1) λe=>cond (!e) (some (.inr false)) (Ab (AZ a.2.1 c) λf=>Ab (Ej (List.length f.2:Int) 1 5) λg=>cond (!g) (some (.inr false)) (Ab (Au (Ll a c) fz 0) λi=>(match i with
  |.inl _=>(b (wZ (c+1)))
  |.inr j=>some (.inr j))))) (some (.inl ()))
def In(a:(Bool×Int)->Option Bool)(b:Int)(c:Bool):Option Bool:=a (c,(wZ (b+1)))
def Fn(a:IC)(b:Int)(c:(Bool×Int)->Option Bool)(d:Bool×Int):Option Bool:=match d with
  |(e,f)=>cond (decide (f < (List.length a.2.1:Int))) (cond e (In c f true) (Ab (AZ a.2.1 f) λg=>Ab (ES g b) λi=>In c f i)) (some e)
def Il(a:IC)(b:Int->Option (Sum Unit Bool))(c:Int):Option (Sum Unit Bool):=cond (decide (c < a.1)) (Ab (Au (Fn a c) fz (false,0)) λd=>cond (!d) (some (.inr false)) (b (wZ (c+1)))) (some (.inl ()))
def Im(a:IC)(b:Int->Option (Sum Unit Bool))(c:Int):Option (Sum Unit Bool):=cond (decide (c < (List.length a.2.2:Int))) (Ab (AZ a.2.2 c) λd=>Ab (Ej d 0 (wZ (a.1 - 1))) λe=>cond (!e) (some (.inr false)) (chk ((0:Int)<=0∧0<=c∧c<=(List.length a.2.2:Int)) (Ab (AZ a.2.2 c) λf=>Ab (MX (Ef a.2.2 0 c) f) λg=>cond (decide (0<=g)) (some (.inr false)) (b (wZ (c+1)))))) (some (.inl ()))
def EQ(a:IC):Option Bool:=Ab (Ej a.1 1 5) λb=>cond (!b) (some false) (Ab (Ej (List.length a.2.1:Int) 1 4) λc=>cond (!c) (some false) (cond (decide (a.1 < (List.length a.2.2:Int))) (some false) (Ab (Au (Ik a) fz 0) λd=>(match d with
  |.inl _=>(Ab (Au (Il a) fz 0) λe=>(match e with
  |.inl _=>(Ab (Au (Im a) fz 0) λf=>(match f with
  |.inl _=>(some true)
  |.inr g=>some g))
  |.inr g=>some g))
  |.inr g=>some g))))
theorem GV{a:IC}{b:Bool}(h:EQ a=some b):Bn 44 [.agg (EY a)] (.bool b):=by
 refine st yb G (rn 1 G (CU λc=>rs (sp 2 G (Bk h λd e h=>qC (qs G (qs G (qs G A4))) (DT e) (sp 2 G (Ew h (λf h=>qg 13 f G (AU 14 G (qT G G (rn 1 G (sj h ▸ Am rZ))))) λf h=>qg 13 f G (sp 3 G (Bk h λg i h=>FY G G (qC (qs G (qs G (qs G A4))) (DT i) (sp 3 G (Ew h (λj h=>qg 20 j G (AU 7 G (qk [1,27] G (qT G G (rn 1 G (sj h ▸ Am rZ)))))) λj h=>?_)))))))))))
 exact qg 20 j G (AU 7 G (Ce h G (λh=>rn 1 G (sj h ▸ Am rZ)) λh=>Cl c (As λk l=>rn 1 G (EF h λm n o=>have p:(.inl ())=m->Jn k [(1,.box [nI a.1,dL DK a.2.1,dL AF a.2.2])]:=λh _ q=>have h:=o h;l _ (lh q G (As λr s=>rn 1 G (EF h λt n u=>have v:(.inl ())=t->Jn r [(1,.box [nI a.1,dL DK a.2.1,dL AF a.2.2])]:=λh _ q=>have h:=u h;s _ (lh q G (As λw x=>rn 1 G (EF h λy n z=>have A:(.inl ())=y->Jn w []:=λh _ q=>have h:=z h;x _ (lh q G (rn 1 G (sj h ▸ Am rZ)));(Ba (λ(B:Int)=>[(1,.box [nI a.1,dL DK a.2.1,dL AF a.2.2]),(8,nI B)]) _ _ _ _ n (Bb G) (λ_=>G) (λC B D h F=>Fu G λH=>Ce h G (λh=>Cl H (CU λI=>A8 (rd (by kernel_rfl) (sd 3 G (Bk h λJ K h=>ed G (qI G BJ K (sd 4 G (Bk h λL M h=>ed G (qC (qs G (qs G (qs G A4))) (DT M) (sd 2 G (Ew h (λN h=>NV 121 N G (sd 12 G (Dh (qT G G (rn 1 G (qk [2] G (sj (z (sj h)) ▸ Am rZ))))))) λN h=>NV 121 N G (sd 3 G (EM h λO h=>ed G (FY G G (qSl G BJ O (sd 3 G (Bk h λP Q h=>ed G (FY G G (qI G BJ Q (sd 1 G (Bk h λR S h=>ed G (FY G G (qC (qa G (CM Cb _) (qs G A4)) (Qg S) (sd 2 G (Dh (Ce h G (λh=>rn 1 G (sj (z (sj h)) ▸ Am rZ)) λh=>Cl I (rg (AU 3 G (F _ _ h (Bb G)))))))))))))))))))))))))))))) λh=>AI (A (sj h) _ trivial))))));(Ba (λ(T:Int)=>[(1,.box [nI a.1,dL DK a.2.1,dL AF a.2.2]),(5,nI T)]) _ _ _ _ n (Bb G) (λ_=>G) (λC T D h F=>Fu G λU=>Ce h G (λh=>Cl U (CU λV=>A8 (rn 1 G (As λW X=>rn 1 G (EF h λY n Z=>have b:∀{d:Bool},d=Y->Jn W [(1,.box [nI a.1,dL DK a.2.1,dL AF a.2.2]),(5,nI T),(6,.bool d)]:=@λd h _ q=>have h:=Z h;X _ (lh q G (rn 1 G (Ce h G (λh=>rn 1 G (sj (u (sj h)) ▸ Am rZ)) λh=>Cl V (rg (AU 3 G (F _ _ h (Bb G)))))));(Ba (λ(e:Bool×Int)=>match e with|(f,g)=>[(1,.box [nI a.1,dL DK a.2.1,dL AF a.2.2]),(5,nI T),(6,.bool f),(7,nI g)]) _ _ _ _ n (Bb G) (λ_=>G) (λC=>Kk λf g D h F=>Fu G λi=>Ce h G (λh=>Cl i (As λc j=>A8 (have k:∀{m:Bool},In (Au (Fn a T) C) g m=some Y->Jn c [(1,.box [nI a.1,dL DK a.2.1,dL AF a.2.2]),(5,nI T),(6,.bool m),(7,nI g)]:=@λm h _ q=>j _ (lh q G (rg (AU 3 G (F _ _ h (Bb G)))));(rg (sp 2 G (Ew h (λl h=>qg 93 l G (AU 9 G (k h _ (Bb G)))) λl h=>qg 93 l G (sp 3 G (Bk h λr s h=>FY G G (qI G Jr s (sp 2 G (Bk h λt w h=>FY G G (qC (qa G (D2 (BR G (BR (CM Cb _) G))) (qs G A4)) (Jh w) (AU 2 G (k h _ (Bb G))))))))))))))) λh=>AI (b (sj h) _ (Bb G))))))))) λh=>AI (v (sj h) _ (Bb G)))))));(Ba (λ(x:Int)=>[(1,.box [nI a.1,dL DK a.2.1,dL AF a.2.2]),(3,nI x)]) _ _ _ _ n (Bb G) (λ_=>G) (λC x D h F=>Fu G λy=>Ce h G (λh=>Cl y (As λB H=>A8 (CU λJ=>rs (sp 3 G (Bk h λK L h=>qI G Jr L (sp 2 G (Bk h λM N h=>qC (qs G A4) (Pw N) (sp 2 G (Ew h (λO h=>qg 43 O G (AU 10 G (qT G G (rn 1 G (sj (o (sj h)) ▸ Am rZ))))) λO h=>qg 43 O G (sp 3 G (Bk h λP Q h=>FY G G (qI G Jr Q (sp 3 G (Bk h λR z h=>FY G G (qC (qs G (qs G (qs G A4))) (DT z) (AU 2 G (qk [1,3,53] G (Ce h G (λh=>rn 1 G (sj (o (sj h)) ▸ Am rZ)) λh=>Cl J (rn 1 G (EF h λA n I=>have S:(.inl ())=A->Jn B [(1,.box [nI a.1,dL DK a.2.1,dL AF a.2.2]),(3,nI x)]:=λh _ q=>have h:=I h;H _ (lh q G (rg (AU 3 G (F _ _ h (Bb G)))));(Ba (λ(U:Int)=>[(1,.box [nI a.1,dL DK a.2.1,dL AF a.2.2]),(3,nI x),(4,nI U)]) _ _ _ _ n (Bb G) (λ_=>G) (λC U D h F=>CU λu=>rs (sp 4 G (Bk h λV W h=>qI G Jr W (AU 4 G (Ce h G (λh=>Cl u (CU λX=>A8 (rd (by kernel_rfl) (sd 3 G (Bk h λZ d h=>ed G (qI G Jr d (sd 3 G (Bk h λe f h=>ed G (qI G BJ f (sd 4 G (Bk h λi T h=>ed G (qC (qs G (qs G (qs G A4))) (DT T) (sd 1 G (Dh (Ce h G (λh=>rn 1 G (sj (o (sj (I (sj h)))) ▸ Am rZ)) λh=>Cl X (qk [1,3,4] G (rg (AU 3 G (F _ _ h (Bb G)))))))))))))))))))) λh=>AI (S (sj h) _ (Bb G)))))))))))))))))))))))))))) λh=>AI (p (sj h) _ (Bb G))))))))
def XK(a:zI)(b:(zU×Int)->Option (zU))(c:zU×Int):Option (zU):=match c with
  |(d,e)=>cond (decide (e < (List.length a:Int))) (Ab (AZ a e) λf=>Ab (KL f) λg=>chk (List.length d+List.length g<=lim) (b ((d++g),(wZ (e+1))))) (some d)
def Sc(a:zI):Option (zU):=Ab (Au (XK a) fz ([40],0)) λb=>chk (List.length b+List.length [41]<=lim) (some (b++[41]))
theorem Tm{a:zI}{b:zU}(h:Sc a=some b):Bn 96 [dL AF a] (.str b):=st zj G (rn 2 G (As λc d=>rn 1 G (EF h λe f g=>have i:∀{j:zU},j=e->Jn c [(3,.str j)]:=@λj h _ k=>have h:=g h;d _ (lh k G (rs (sp 1 G (EM h λl h=>qB G l G (AU 1 G (sj h ▸ Am rZ))))));(Ba (λ(m:zU×Int)=>match m with|(n,o)=>[(0,dL AF a),(3,.str n),(4,nI o)]) _ _ _ _ f (Bb G) (λ_=>G) (λp=>Kk λn o q h r=>Fu G λs=>Ce h G (λh=>Cl s (CU λt=>A8 (rg (sp 3 G (Bk h λu v h=>qI G BJ v (sp 1 G (Bk h λw x h=>qC (qs G A4) (Mb x) (EM h λy h=>qB G y G (AU 1 G (t _ (rg (AU 3 G (r _ _ h (Bb G)))))))))))))) λh=>AI (i (sj h) _ (Bb G)))))))
def L8(a:(zU×Int)->Option (zU))(b:IC)(c:Int)(d:zU):Option (zU):=Ab (AZ b.2.1 c) λe=>chk (List.length d+List.length e.1<=lim) (Ab (AZ b.2.1 c) λf=>Ab (Sc f.2) λg=>chk (List.length (d++e.1)+List.length g<=lim) (a (((d++e.1)++g),(wZ (c+1)))))
def OJ(a:IC)(b:(zU×Int)->Option (zU))(c:zU×Int):Option (zU):=match c with
  |(d,e)=>cond (decide (e < (List.length a.2.1:Int))) (cond (decide (0 < e)) (chk (List.length d+List.length [44]<=lim) (L8 b a e (d++[44]))) (L8 b a e d)) (some d)
def QG(a:IC):Option (zU):=Ab (EQ a) λb=>cond (!b) (some []) (Ab (Sc a.2.2) λc=>chk (List.length c+List.length [61]<=lim) (Ab (Au (OJ a) fz ((c++[61]),0)) λd=>some d))
theorem TN{a:IC}{b:zU}(h:QG a=some b):Bn 75 [.agg (EY a)] (.str b):=st yM G (rn 1 G (CU λc=>rs (sp 1 G (Bk h λd e h=>qC (qa G (D2 (BR G (BR (CM I0 _) (BR (CM Cb _) G)))) A4) (GV e) (AU 1 G (Ce h G (λh=>rn 1 G (sj h ▸ Am rZ)) λh=>Cl c (rs (sp 2 G (Bk h λf g h=>qC (qa G (CM Cb _) A4) (Tm g) (EM h λi h=>qB G i G (AU 1 G (As λj k=>rn 1 G (EF h λl m n=>have o:∀{p:zU},p=l->Jn j [(3,.str p)]:=@λp h _ q=>have h:=n h;k _ (lh q G (rn 1 G (sj h ▸ Am rZ)));(Ba (λ(r:zU×Int)=>match r with|(s,t)=>[(1,.box [nI a.1,dL DK a.2.1,dL AF a.2.2]),(3,.str s),(4,nI t)]) _ _ _ _ m (Bb G) (λ_=>G) (λu=>Kk λs t v h w=>Fu G λx=>Ce h G (λh=>Cl x (CU λy=>A8 (As λz A=>rn 1 G (have B:∀{C:zU},L8 (Au (OJ a) u) a t C=some l->Jn z [(1,.box [nI a.1,dL DK a.2.1,dL AF a.2.2]),(3,.str C),(4,nI t)]:=@λC h _ q=>A _ (lh q G (rgd (by kernel_rfl) (sd 4 G (Bk h λD F h=>ed G (qI G Jr F (sd 2 G (EM h λH h=>ed G (qB G H G (sd 3 G (Bk h λI J h=>ed G (qI G Jr J (sd 2 G (Bk h λK L h=>ed G (qC (qa G (CM Cb _) A4) (Tm L) (EM h λM h=>ed G (qB G M G (sd 1 G (Dh (y _ (rg (AU 3 G (w _ _ h (Bb G)))))))))))))))))))))));(Ce h G (λh=>rg (sp 1 G (EM h λN h=>qB G N G (AU 1 G (B h _ (Bb G)))))) λh=>DZ (B h _ (Bb G))))))) λh=>AI (o (sj h) _ (Bb G)))))))))))))))))
def DY(a:O2):List V:=[.str a.1,oL 3 AF a.2]
theorem aB(a:O2):(DY a).length=2:=G
theorem P5(a:O2):Mz (DY a)=DK a:=(BR G (BR (XY Cb _) G))
def Sn(a:IC):List V:=[nI a.1,oL 67 DY a.2.1,oL 3 AF a.2.2]
theorem Aaf(a:IC):(Sn a).length=3:=G
theorem wO(a:IC):Mz (Sn a)=EY a:=(BR G (BR (XY P5 _) (BR (XY Cb _) G)))
def MP(a:(Int×Int)->Option Int)(b:Int)(c:Int):Option Int:=a (c,(wZ (b+1)))
def PA(a:(List zU))(b:Int)(c:Int)(d:(Int×Int)->Option Int)(e:Int×Int):Option Int:=match e with
  |(f,g)=>cond (decide (g < 5)) (Ab (KL g) λi=>Ab (AZ a b) λj=>chk ((0:Int)<=c∧c<=wZ (c+1)∧wZ (c+1)<=(List.length j:Int)) (cond (i==(Ef j c (wZ (c+1)))) (MP d g (wZ (g+1))) (MP d g f))) (some f)
def TP(a:(List zU))(b:Int)(c:(Int×Int)->Option Int)(d:Int×Int):Option Int:=match d with
  |(e,f)=>Ab (AZ a b) λg=>cond (decide (f < (List.length g:Int))) (Ab (Au (PA a b f) fz (e,e)) λi=>c (i,(wZ (f+1)))) (some e)
def TO(a:(List zU))(b:(Int×List O2×Int)->Option (Int×(List O2)))(c:Int×List O2×Int):Option (Int×(List O2)):=match c with
  |(d,e,f)=>cond (decide (f < (List.length a:Int))) (Ab (AZ a f) λg=>Ab (Rh g 40) λi=>Ab (AZ i 0) λj=>Ab (AZ a f) λk=>Ab (Sa k) λl=>chk (List.length e+List.length [(j,l)]<=lim) (Ab (Au (TP a f) fz (d,0)) λm=>b (m,(e++[(j,l)]),(wZ (f+1))))) (some (d,e))
def H2(a:zU):Option (IC×Bool):=Ab (Rh a 61) λb=>cond ((List.length b:Int)!=2) (some ((0,[],[]),false)) (Ab (AZ b 0) λc=>Ab (Sa c) λd=>Ab (AZ b 1) λe=>Ab (Rh e 44) λf=>Ab (Au (TO f) fz (0,([]:List O2),0)) λg=>(match g with
  |(i,j)=>(Ab (QG (i,j,d)) λk=>cond (!(k==a)) (some ((0,[],[]),false)) (cond (a==[]) (some ((0,[],[]),false)) (some ((i,j,d),true))))))
theorem PZ{a:zU}{b:IC×Bool}(h:H2 a=some b):Bn 41 [.str a] (.tup [.agg (Sn b.1),.bool b.2]):=st xZ G (rn 1 G (rs (sp 1 G (Bk h λc d h=>qC (qs G (qs G A4)) (Ri d) (AU 1 G (Fu G λe=>Ce h G (λh=>rn 1 G (sj h ▸ Am rZ)) λh=>Cl e (rs (sp 1 G (Bk h λf g h=>qI G S8 g (sp 1 G (Bk h λi j h=>qC (qs G A4) (Tl j) (AU 3 G (rs (sp 1 G (Bk h λk l h=>qI G S8 l (sp 1 G (Bk h λm n h=>qC (qs G (qs G A4)) (Ri n) (AU 1 G (qk [0,2,5,6] G (As λo p=>rn 1 G (EF h λq r s=>have t:∀{u:Int}{v:List O2},(u,v)=q->Jn o [(0,.str a),(2,.box [nI 0,oL 67 DY [],oL 3 AF []]),(5,.box [nI u,oL 67 DY v,oL 3 AF i])]:=@λu v h _ w=>have h:=s h;p _ (lh w G (CU λx=>rs (sp 1 G (Bk h λy z h=>qC (qa G (D2 (BR G (BR (CM P5 _) (BR (CM Cb _) G)))) A4) (TN z) (sp 3 G (Ew h (λA h=>qg 84 A G (AU 3 G (qT G G (rn 1 G (sj h ▸ Am rZ))))) λA h=>qg 84 A G (AU 3 G (Ce h G (λh=>rn 1 G (sj h ▸ Am rZ)) λh=>Cl x (rn 1 G (sj h ▸ Am rZ))))))))));(Ba (λ(B:Int×List O2×Int)=>match B with|(C,D,F)=>[(0,.str a),(2,.box [nI 0,oL 67 DY [],oL 3 AF []]),(5,.box [nI C,oL 67 DY D,oL 3 AF i]),(6,oL 9 cst m),(7,nI F)]) _ _ _ _ r (Bb G) (λ_=>G) (λH=>pr3 λC D F I h J=>Fu G λK=>Ce h G (λh=>Cl K (As λL M=>A8 (rs (sp 2 G (Bk h λN O h=>qI G S8 O (sp 1 G (Bk h λP Q h=>qC (qs G (qs G A4)) (Ri Q) (AU 1 G (rd (by kernel_rfl) (sd 3 G (Bk h λR S h=>ed G (qI G S8 S (sd 3 G (Bk h λT U h=>ed G (qI G S8 U (sd 1 G (Bk h λV W h=>ed G (qC (qs G A4) (Tl W) (sd 1 G (ed G (EW DY [(R,V)] G G G aB (EM h λX h=>ed G (qA DY D [(R,V)] G G (Bh aB [(R,V)]) G X (sd 2 G (Dh (rn 1 G (qk [0,2,5,6,7,9] G (EF h λY r Z=>have b:∀{c:Int},c=Y->Jn L [(0,.str a),(2,.box [nI 0,oL 67 DY [],oL 3 AF []]),(5,.box [nI c,oL 67 DY (D++[(R,V)]),oL 3 AF i]),(6,oL 9 cst m),(7,nI F)]:=@λc h _ w=>have h:=Z h;M _ (lh w G (rg (AU 3 G (J _ _ h (Bb G)))));(Ba (λ(B:Int×Int)=>match B with|(d,e)=>[(0,.str a),(2,.box [nI 0,oL 67 DY [],oL 3 AF []]),(5,.box [nI d,oL 67 DY (D++[(R,V)]),oL 3 AF i]),(6,oL 9 cst m),(7,nI F),(9,nI e)]) _ _ _ _ r (Bb G) (λ_=>G) (λH=>Kk λd e I h J=>CU λf=>rs (sp 3 G (Bk h λg j h=>qI G S8 j (AU 3 G (Ce h G (λh=>Cl f (As λk l=>A8 (rn 1 G (EF h λn r o=>have q:∀{u:Int},u=n->Jn k [(0,.str a),(2,.box [nI 0,oL 67 DY [],oL 3 AF []]),(5,.box [nI u,oL 67 DY (D++[(R,V)]),oL 3 AF i]),(6,oL 9 cst m),(7,nI F),(9,nI e)]:=@λu h _ w=>have h:=o h;l _ (lh w G (rg (AU 3 G (J _ _ h (Bb G)))));(Ba (λ(B:Int×Int)=>match B with|(v,p)=>[(0,.str a),(2,.box [nI 0,oL 67 DY [],oL 3 AF []]),(5,.box [nI v,oL 67 DY (D++[(R,V)]),oL 3 AF i]),(6,oL 9 cst m),(7,nI F),(9,nI e),(10,nI p)]) _ _ _ _ r (Bb G) (λ_=>G) (λH=>Kk λv p I h J=>Fu G λs=>Ce h G (λh=>Cl s (As λy z=>A8 (rd (by kernel_rfl) (sd 1 G (Bk h λx A h=>ed G (qC (qs G A4) (Mb A) (sd 2 G (Bk h λC K h=>ed G (qI G S8 K (sd 4 G (EM h λN h=>ed G (qSs G N (sd 1 G (Dh (have O:∀{P:Int},MP (Au (PA m F e) H) p P=some n->Jn y [(0,.str a),(2,.box [nI 0,oL 67 DY [],oL 3 AF []]),(5,.box [nI P,oL 67 DY (D++[(R,V)]),oL 3 AF i]),(6,oL 9 cst m),(7,nI F),(9,nI e),(10,nI p)]:=@λP h _ w=>z _ (lh w G (rg (AU 3 G (J _ _ h (Bb G)))));(Ce h G (λh=>rg (AU 4 G (O h _ (Bb G)))) λh=>DZ (O h _ (Bb G)))))))))))))))))) λh=>AI (q (sj h) _ (Bb G)))))))) λh=>AI (b (sj h) _ (Bb G)))))))))))))))))))))))))))))))))))) λh=>AI (t (sj h) _ (Bb G)))))))))))))))))))))))))
def P1(a:Om)(b:List zU):Option (zU×Om):=Ab (FE a (List.length b:Int)) λc=>Ab (AZ b c.1) λd=>some (d,c.2)
theorem X7{a:Om}{b:List zU}{c:zU×Om}(h:P1 a b=some c):O1 Tryz.prog 70 [aL Qm a.1,nI a.2.1,nI a.2.2] [dL cst b] [aL Qm c.2.1,nI c.2.2.1,nI c.2.2.2] (.str c.1):=stp yH G (rn 1 G (rs (sp 4 G (Bk h λd e h=>qP G G G G (qs G A4) (Gq e) (Bk h λf g h=>qI G S8 g (AU 2 G (sj h ▸ Am ⟨.inl G,G,G⟩)))))))
def H5(a:Int×Om)(b:(zI×Int×Int×zI×Int)->Option (zI×Int×Int×zI))(c:zI×Int×Int×zI×Int):Option (zI×Int×Int×zI):=match c with
  |(d,e,f,g,i)=>cond (decide (0 < i)) (Ab (FE (d,e,f) (wZ (1+a.1))) λj=>chk (List.length g+List.length [j.1]<=lim) (b (j.2.1,j.2.2.1,j.2.2.2,(g++[j.1]),(wZ (i - 1))))) (some (d,e,f,g))
def H4(a:Int×Om)(b:(zI×Int×Int×List O2×Int)->Option (zI×Int×Int×(List O2)))(c:zI×Int×Int×List O2×Int):Option (zI×Int×Int×(List O2)):=match c with
  |(d,e,f,g,i)=>cond (decide (0 < i)) (Ab (FE (d,e,f) 5) λj=>Ab (AZ ([[114],[115],[116],[117],[118]]) j.1) λk=>Ab (Au (H5 a) fz (j.2.1,j.2.2.1,j.2.2.2,([]:zI),(wZ (2+(wZ (Int.tdiv j.1 4)))))) λl=>(match l with
  |(m,n,o,p)=>(chk (List.length g+List.length [(k,p)]<=lim) (b (m,n,o,(g++[(k,p)]),(wZ (i - 1))))))) (some (d,e,f,g))
def H6(a:(zI×Int×Int×zI×Int)->Option (zI×Int×Int×zI))(b:Int)(c:Bool×Om)(d:zI):Option (zI×Int×Int×zI):=a (c.2.1,c.2.2.1,c.2.2.2,d,(wZ (b+1)))
def FH(a:Int×Om)(b:(zI×Int×Int×zI×Int)->Option (zI×Int×Int×zI))(c:zI×Int×Int×zI×Int):Option (zI×Int×Int×zI):=match c with
  |(d,e,f,g,i)=>cond (decide (i < (wZ (1+a.1)))) (Ab (Jx (d,e,f) 2) λj=>cond j.1 (chk (List.length [i]+List.length g<=lim) (H6 b i j ([i]++g))) (H6 b i j g)) (some (d,e,f,g))
def Nt(a:Om):Option (IC×Om):=Ab (P1 a ([[40,88,89,90,41,61,114,40,88,89,41,44,115,40,89,90,41,44,116,40,90,88,41],[40,88,89,90,85,41,61,114,40,88,89,41,44,115,40,89,90,41,44,116,40,90,85,41,44,117,40,85,88,41],[40,88,89,90,41,61,114,40,88,89,41,44,115,40,89,90,41],[40,88,41,61,114,40,88,89,41,44,115,40,89,90,41,44,116,40,90,85,41],[40,88,89,90,41,61,118,40,88,89,90,41,44,114,40,88,89,41],[40,88,89,41,61,114,40,88,89,41,44,114,40,89,88,41],[40,88,89,90,85,41,61,118,40,88,89,90,41,44,115,40,90,85,41,44,116,40,85,88,41],[40,88,41,61,114,40,88,88,41],[40,88,89,41,61,114,40,88,90,41,44,115,40,90,89,41,44,114,40,88,85,41,44,115,40,85,89,41],[40,41,61,114,40,88,89,41,44,115,40,89,88,41],[40,88,89,90,85,86,41,61,114,40,88,89,41,44,115,40,89,90,41,44,116,40,90,85,41,44,117,40,85,86,41]])) λb=>Ab (H2 b.1) λc=>Ab (Jx b.2 3) λd=>cond (!d.1) (some (c.1,d.2)) (Ab (FE d.2 4) λe=>Ab (FE e.2 4) λf=>Ab (Au (H4 e) fz (f.2.1,f.2.2.1,f.2.2.2,([]:List O2),(wZ (1+f.1)))) λg=>(match g with
  |(i,j,k,l)=>(Ab (Au (FH e) fz (i,j,k,([]:zI),0)) λm=>(match m with
  |(n,o,p,q)=>(Ab (EQ (wZ (1+e.1),l,q)) λr=>cond (!r) (some (c.1,(n,o,p))) (some ((wZ (1+e.1),l,q),(n,o,p))))))))
theorem XJ{a0:Om}{r:IC×Om}(h:Nt a0=some r):O1 Tryz.prog 39 [aL Qm a0.1,nI a0.2.1,nI a0.2.2] [] [aL Qm r.2.1,nI r.2.2.1,nI r.2.2.2] (.agg (Sn r.1)):=by
 unfold Nt at h
 generalize hkk0:([[40,88,89,90,41,61,114,40,88,89,41,44,115,40,89,90,41,44,116,40,90,88,41],[40,88,89,90,85,41,61,114,40,88,89,41,44,115,40,89,90,41,44,116,40,90,85,41,44,117,40,85,88,41],[40,88,89,90,41,61,114,40,88,89,41,44,115,40,89,90,41],[40,88,41,61,114,40,88,89,41,44,115,40,89,90,41,44,116,40,90,85,41],[40,88,89,90,41,61,118,40,88,89,90,41,44,114,40,88,89,41],[40,88,89,41,61,114,40,88,89,41,44,114,40,89,88,41],[40,88,89,90,85,41,61,118,40,88,89,90,41,44,115,40,90,85,41,44,116,40,85,88,41],[40,88,41,61,114,40,88,88,41],[40,88,89,41,61,114,40,88,90,41,44,115,40,90,89,41,44,114,40,88,85,41,44,115,40,85,89,41],[40,41,61,114,40,88,89,41,44,115,40,89,88,41],[40,88,89,90,85,86,41,61,114,40,88,89,41,44,115,40,89,90,41,44,116,40,90,85,41,44,117,40,85,86,41]]:List zU)=kk0 at h
 refine stp xX rfl (rn 1 rfl ((rsB cst kk0 9 1 (by subst hkk0;kernel_rfl) (by subst hkk0;rfl) S8 (sp 1 rfl (Rw (rs (sp 2 rfl (?_))))))))
 obtain⟨v1,g2,h⟩:=AK h
 refine qP rfl rfl rfl rfl (qa rfl (CM AaC _) A4) (X7 g2) (?_)
 obtain⟨v3,g4,h⟩:=AK h
 refine qC (qs rfl A4) (PZ g4) (sp 6 rfl (Rw (As λK5 hK5=>rs (sp 1 rfl (?_)))))
 obtain⟨v6,g7,h⟩:=AK h
 refine qP rfl rfl rfl rfl (qs rfl A4) (Mk g7) (sp 1 rfl (Rw ?_))
 rcases Ls h with⟨g8,h⟩|⟨g8,h⟩
 ·exact qT rfl g8 (rn 1 rfl (Am ((by cases h;exact⟨.inl rfl,rfl,rfl⟩))))
 ·refine qF rfl g8 (DZ (hK5 _ (rs (sp 1 rfl (?_)))))
  obtain⟨v9,g10,h⟩:=AK h
  refine qP rfl rfl rfl rfl (qs rfl A4) (Gq g10) (sp 4 rfl (Rw (qk [0,2,4,6] rfl (As λK11 hK11=>rs (sp 1 rfl (?_))))))
  obtain⟨v12,g13,h⟩:=AK h
  refine qP rfl rfl rfl rfl (qs rfl A4) (Gq g13) (sp 2 rfl (Rw ?_))
  obtain⟨o1,hl,hr1⟩:=AK h
  have kXB1:∀{z14:zI}{z15:Int}{z16:Int}{z17:List O2},(z14,z15,z16,z17)=o1->Jn K11 [(0,.box [aL Qm z14,nI z15,nI z16]),(2,.box [nI 0,oL 67 DY [],oL 3 AF []]),(4,.box [nI v3.1.1,oL 67 DY v3.1.2.1,oL 3 AF v3.1.2.2]),(6,.box [nI (wZ (1+v9.1)),oL 67 DY z17,oL 3 AF []])]:=by
   intro z14 z15 z16 z17 h σ' hk
   subst h
   replace h:=hr1
   try dsimp only at h
   refine hK11 _ (lh hk rfl (As λK37 hK37=>rn 1 rfl ?_))
   obtain⟨o3,hl,hr3⟩:=AK h
   have kXB3:∀{z38:zI}{z39:Int}{z40:Int}{z41:zI},(z38,z39,z40,z41)=o3->Jn K37 [(0,.box [aL Qm z38,nI z39,nI z40]),(2,.box [nI 0,oL 67 DY [],oL 3 AF []]),(4,.box [nI v3.1.1,oL 67 DY v3.1.2.1,oL 3 AF v3.1.2.2]),(6,.box [nI (wZ (1+v9.1)),oL 67 DY z17,oL 3 AF z41])]:=by
    intro z38 z39 z40 z41 h σ' hk
    subst h
    replace h:=hr3
    try dsimp only at h
    refine hK37 _ (lh hk rfl (As λK50 hK50=>rs (sp 1 rfl (?_))))
    obtain⟨v51,g52,h⟩:=AK h
    refine qC (qa rfl (D2 (BR rfl (BR (CM P5 _) (BR (CM Cb _) rfl)))) A4) (GV g52) (sp 1 rfl (Rw ?_))
    rcases Ls h with⟨g53,h⟩|⟨g53,h⟩
    ·exact qT rfl g53 (rn 1 rfl (Am ((by cases h;exact⟨.inl rfl,rfl,rfl⟩))))
    ·exact qF rfl g53 (DZ (hK50 _ (rn 1 rfl (Am ((by cases h;exact⟨.inl rfl,rfl,rfl⟩))))))
   refine Ba (λ(s:zI×Int×Int×zI×Int)=>match s with|(y21,y22,y23,y24,y25)=>[(0,.box [aL Qm y21,nI y22,nI y23]),(2,.box [nI 0,oL 67 DY [],oL 3 AF []]),(4,.box [nI v3.1.1,oL 67 DY v3.1.2.1,oL 3 AF v3.1.2.2]),(6,.box [nI (wZ (1+v9.1)),oL 67 DY z17,oL 3 AF y24]),(11,nI y25)]) _ _ _ _ hl (Bb rfl) (λ_=>rfl) ?_
   rintro m ⟨y21,y22,y23,y24,y25⟩ N h hN
   unfold FH at h
   dsimp only at h
   refine As λK42 hK42=>rn 1 rfl ?_
   rcases Ls h with⟨g43,h⟩|⟨g43,h⟩
   ·refine qT rfl g43 (DZ (hK42 _ (As λK44 hK44=>A8 (rs (sp 1 rfl (?_))))))
    obtain⟨v45,g46,h⟩:=AK h
    refine qP rfl rfl rfl rfl (qs rfl A4) (Mk g46) (Rw ?_)
    have kJ4:∀{x47:zI},H6 (Au (FH v9) m) y25 v45 x47=some o3->Jn K44 [(0,.box (VH v45.2)),(2,.box [nI 0,oL 67 DY [],oL 3 AF []]),(4,.box [nI v3.1.1,oL 67 DY v3.1.2.1,oL 3 AF v3.1.2.2]),(6,.box [nI (wZ (1+v9.1)),oL 67 DY z17,oL 3 AF x47]),(11,nI y25)]:=by
     intro x47 h σ' hk
     unfold H6 at h
     exact hK44 _ (lh hk rfl (rg (sp 3 rfl (Rw (hN _ _ h (Bb rfl))))))
    rcases Ls h with⟨g48,h⟩|⟨g48,h⟩
    ·refine qT rfl g48 (rg (sp 1 rfl (EW AF [y25] rfl rfl rfl BJ (sp 2 rfl (?_)))))
     obtain⟨g49,h⟩:=RN h
     exact qA AF [y25] y24 rfl rfl (Bh BJ y24) rfl g49 (sp 2 rfl (Rw (kJ4 h _ (Bb rfl))))
    ·exact qF rfl g48 (DZ (kJ4 h _ (Bb rfl)))
   ·exact qF rfl g43 (AI (kXB3 (DG h) _ (Bb rfl)))
  refine Ba (λ(s:zI×Int×Int×List O2×Int)=>match s with|(y6,y7,y8,y9,y10)=>[(0,.box [aL Qm y6,nI y7,nI y8]),(2,.box [nI 0,oL 67 DY [],oL 3 AF []]),(4,.box [nI v3.1.1,oL 67 DY v3.1.2.1,oL 3 AF v3.1.2.2]),(6,.box [nI (wZ (1+v9.1)),oL 67 DY y9,oL 3 AF []]),(7,nI y10)]) _ _ _ _ hl (Bb rfl) (λ_=>rfl) ?_
  rintro m ⟨y6,y7,y8,y9,y10⟩ N h hN
  unfold H4 at h
  dsimp only at h
  refine As λK18 hK18=>rn 1 rfl ?_
  rcases Ls h with⟨g19,h⟩|⟨g19,h⟩
  ·refine qT rfl g19 (DZ (hK18 _ (As λK20 hK20=>A8 (rs (sp 1 rfl (?_))))))
   obtain⟨v21,g22,h⟩:=AK h
   refine qP rfl rfl rfl rfl (qs rfl A4) (Gq g22) (sp 1 rfl (Rw (rs (qBk cst [[114],[115],[116],[117],[118]] 9 1 (by kernel_rfl) rfl S8 (sp 1 rfl (?_))))))
   obtain⟨e23,g24,h⟩:=AK h
   refine qI rfl S8 g24 (sp 4 rfl (Rw (As λK25 hK25=>rn 1 rfl ?_)))
   obtain⟨o2,hl,hr2⟩:=AK h
   have kXB2:∀{z26:zI}{z27:Int}{z28:Int}{z29:zI},(z26,z27,z28,z29)=o2->Jn K25 [(0,.box [aL Qm z26,nI z27,nI z28]),(2,.box [nI 0,oL 67 DY [],oL 3 AF []]),(4,.box [nI v3.1.1,oL 67 DY v3.1.2.1,oL 3 AF v3.1.2.2]),(6,.box [nI (wZ (1+v9.1)),oL 67 DY y9,oL 3 AF []]),(7,nI y10),(9,.box [.str e23,oL 3 AF z29])]:=by
    intro z26 z27 z28 z29 h σ' hk
    subst h
    replace h:=hr2
    try dsimp only at h
    refine hK25 _ (lh hk rfl (rg (sp 3 rfl (EW DY [(e23,z29)] rfl rfl rfl aB (?_)))))
    obtain⟨g36,h⟩:=RN h
    exact qA DY y9 [(e23,z29)] rfl rfl (Bh aB [(e23,z29)]) rfl g36 (sp 2 rfl (Rw (hK20 _ (rg (sp 3 rfl (Rw (hN _ _ h (Bb rfl))))))))
   refine Ba (λ(s:zI×Int×Int×zI×Int)=>match s with|(y16,y17,y18,y19,y20)=>[(0,.box [aL Qm y16,nI y17,nI y18]),(2,.box [nI 0,oL 67 DY [],oL 3 AF []]),(4,.box [nI v3.1.1,oL 67 DY v3.1.2.1,oL 3 AF v3.1.2.2]),(6,.box [nI (wZ (1+v9.1)),oL 67 DY y9,oL 3 AF []]),(7,nI y10),(9,.box [.str e23,oL 3 AF y19]),(10,nI y20)]) _ _ _ _ hl (Bb rfl) (λ_=>rfl) ?_
   rintro m ⟨y16,y17,y18,y19,y20⟩ N h hN
   unfold H5 at h
   dsimp only at h
   refine As λK30 hK30=>rn 1 rfl ?_
   rcases Ls h with⟨g31,h⟩|⟨g31,h⟩
   ·refine qT rfl g31 (DZ (hK30 _ (As λK32 hK32=>A8 (rgd (by kernel_rfl) (sd 5 rfl (?_))))))
    obtain⟨v33,g34,h⟩:=AK h
    refine ed rfl (qP rfl rfl rfl rfl (qs rfl A4) (Gq g34) (ed rfl (EW AF [v33.1] rfl rfl rfl BJ (?_))))
    obtain⟨g35,h⟩:=RN h
    exact ed rfl (qA AF y19 [v33.1] rfl rfl (Bh BJ [v33.1]) rfl g35 (sd 2 rfl (Dh (hK32 _ (rg (sp 3 rfl (Rw (hN _ _ h (Bb rfl)))))))))
   ·exact qF rfl g31 (AI (kXB2 (DG h) _ (Bb rfl)))
  ·exact qF rfl g19 (AI (kXB1 (DG h) _ (Bb rfl)))
def NX(a:Int)(b:Int)(c:(zI×Int×Int×zI)->Option (zI×Int×Int×zI))(d:zI×Int×Int×zI):Option (zI×Int×Int×zI):=match d with
  |(e,f,g,i)=>cond (decide ((List.length i:Int) < a)) (Ab (FE (e,f,g) b) λj=>chk (List.length i+List.length [j.1]<=lim) (c (j.2.1,j.2.2.1,j.2.2.2,(i++[j.1])))) (some (e,f,g,i))
def Rg(a:Om)(b:Int)(c:Int):Option (zI×Om):=Ab (Au (NX b c) fz (a.1,a.2.1,a.2.2,([]:zI))) λd=>(match d with
  |(e,f,g,i)=>(some (i,(e,f,g))))
theorem al{a:Om}{b:Int}{c:Int}{d:zI×Om}(h:Rg a b c=some d):O1 Tryz.prog 42 [aL Qm a.1,nI a.2.1,nI a.2.2] [nI b,nI c] [aL Qm d.2.1,nI d.2.2.1,nI d.2.2.2] (oL 3 AF d.1):=stp x9 G (rn 1 G (rs (EW AF [] G G G BJ (AU 1 G (As λe f=>EF h λg i j=>have k:∀{l:zI}{m:Int}{n:Int}{o:zI},(l,m,n,o)=g->Jn e [(0,.box [aL Qm l,nI m,nI n]),(7,oL 3 AF o)]:=@λl m n o h _ p=>have h:=j h;f _ (lh p G (rn 1 G (sj h ▸ Am ⟨.inl G,G,G⟩)));(Ba (λ(q:zI×Int×Int×zI)=>match q with|(r,s,t,u)=>[(0,.box [aL Qm r,nI s,nI t]),(1,nI b),(2,nI c),(7,oL 3 AF u)]) _ _ _ _ i (Bb G) (λ_=>G) (λv=>pr4 λr s t u w h x=>Fu G λy=>Ce h G (λh=>Cl y (A8 (rg (sp 3 G (Bk h λz A h=>qP G G G G (qs G A4) (Gq A) (EW AF [z.1] G G G BJ (EM h λB h=>qA AF u [z.1] G G (Bh BJ [z.1]) G B (AU 1 G (x _ _ h (Bb G)))))))))) λh=>AI (k (sj h) _ (Bb G)))))))))
def Ns(a:Om)(b:zI):Option (Int×Om):=Ab (FE a (List.length b:Int)) λc=>Ab (AZ b c.1) λd=>some (d,c.2)
theorem VD{a:Om}{b:zI}{c:Int×Om}(h:Ns a b=some c):O1 Tryz.prog 43 [aL Qm a.1,nI a.2.1,nI a.2.2] [dL AF b] [aL Qm c.2.1,nI c.2.2.1,nI c.2.2.2] (nI c.1):=stp ya G (rn 1 G (rs (sp 4 G (Bk h λd e h=>qP G G G G (qs G A4) (Gq e) (Bk h λf g h=>qI G BJ g (AU 2 G (sj h ▸ Am ⟨.inl G,G,G⟩)))))))
theorem oK(a:O2):E1 (DY a)=true:=(RE G (RE (XU (λ_=>G) 3 _) XX))
def Kf(a:Int)(b:List O2)(c:zI)(d:Bool×Om)(e:zI):Option (IC×zI×Int×Om):=Ab (Ns d.2 [1,2,3,4,0,11]) λf=>some ((a,b,c),e,f.1,f.2)
def Ke(a:Int)(b:List O2)(c:zI)(d:Bool×Om)(e:zI):Option (IC×zI×Int×Om):=Ab (Jx d.2 14) λf=>cond f.1 (chk (List.length e+List.length [1]<=lim) (Kf a b c f (e++[1]))) (Kf a b c f e)
def Kc(a:(zI×Int)->Option (zI))(b:zI×Int):Option (zI):=match b with
  |(c,d)=>cond (decide (d < (List.length c:Int))) (chk (0 < List.length c) (Ab (AZ c d) λe=>a ((DJ c d 1),(wZ (d+1))))) (some c)
def Kd(a:Bool×Om)(b:Int)(c:List O2)(d:zI):Option (IC×zI×Int×Om):=Ab (Rg a.2 b 3) λe=>Ab (Jx e.2 2) λf=>cond f.1 (Ab (Au Kc fz (e.1,0)) λg=>Ke b c d f g) (Ke b c d f e.1)
def Re(a:Om):Option (IC×zI×Int×Om):=Ab (Nt a) λb=>Ab (Jx b.2 3) λc=>cond c.1 (Ab (H2 [40,88,89,90,41,61,114,40,88,89,41,44,115,40,89,90,41,44,116,40,90,88,41]) λd=>Kd c d.1.1 d.1.2.1 d.1.2.2) (Kd c b.1.1 b.1.2.1 b.1.2.2)
theorem XH{a:Om}{c:IC×zI×Int×Om}(h:Re a=some c):O1 Tryz.prog 16 [aL Qm a.1,nI a.2.1,nI a.2.2] [] [aL Qm c.2.2.2.1,nI c.2.2.2.2.1,nI c.2.2.2.2.2] (.tup [.agg (Sn c.1),oL 3 AF c.2.1,nI c.2.2.1]):=stp xA G (rn 1 G (rs (sp 1 G (Bk h λd e h=>qP G G G G A4 (XJ e) (AU 2 G (As λf g=>rs (sp 1 G (Bk h λj k h=>qP G G G G (qs G A4) (Mk k) (Rw (have l:∀{m:Int}{n:List O2}{o:zI},Kd j m n o=some c->Jn f [(0,.box (VH j.2)),(2,.box [nI 0,oL 67 DY [],oL 3 AF []]),(5,.box [nI m,oL 67 DY n,oL 3 AF o])]:=@λm n o h _ p=>g _ (lh p G (rs (sp 3 G (Bk h λr s h=>qP G G G G (qs G (qs G A4)) (al s) (AU 1 G (As λt u=>rs (sp 1 G (Bk h λv w h=>qP G G G G (qs G A4) (Mk w) (Rw (have x:∀{y:zI},Ke m n o v y=some c->Jn t [(0,.box (VH v.2)),(2,.box [nI 0,oL 67 DY [],oL 3 AF []]),(5,.box [nI m,oL 67 DY n,oL 3 AF o]),(6,oL 3 AF y)]:=@λy h _ p=>u _ (lh p G (As λz A=>rs (sp 1 G (Bk h λB C h=>qP G G G G (qs G A4) (Mk C) (Rw (have D:∀{F:zI},Kf m n o B F=some c->Jn z [(0,.box (VH B.2)),(2,.box [nI 0,oL 67 DY [],oL 3 AF []]),(5,.box [nI m,oL 67 DY n,oL 3 AF o]),(6,oL 3 AF F)]:=@λF h _ p=>A _ (lh p G (rd (by kernel_rfl) (sd 3 G (ed G (qBk AF [1,2,3,4,0,11] 3 1 (by kernel_rfl) G BJ (Bk h λH I h=>ed G (qP G G G G (qa G (XY Cb _) A4) (VD I) (sd 3 G (Dh (sj h ▸ Am ⟨.inl G,G,G⟩))))))))));(Ce h G (λh=>rg (sp 1 G (EW AF [1] G G G BJ (EM h λJ h=>qA AF y [1] G G (Bh BJ [1]) G J (AU 1 G (D h _ (Bb G))))))) λh=>DZ (D h _ (Bb G)))))))));(Ce h G (λh=>rn 1 G (EF h λK L M=>have N:∀{O:zI},O=K->Jn t [(0,.box (VH v.2)),(2,.box [nI 0,oL 67 DY [],oL 3 AF []]),(5,.box [nI m,oL 67 DY n,oL 3 AF o]),(6,oL 3 AF O)]:=@λO h _ p=>have h:=M h;x h _ ⟨p.1,p.2.1,p.2.2.1,p.2.2.2.1,trivial⟩;(Ba (λ(P:zI×Int)=>match P with|(Q,R)=>[(0,.box (VH v.2)),(2,.box [nI 0,oL 67 DY [],oL 3 AF []]),(5,.box [nI m,oL 67 DY n,oL 3 AF o]),(6,oL 3 AF Q),(7,nI R)]) _ _ _ _ L (Bb G) (λ_=>G) (λS=>Kk λQ R T h U=>Fu G λV=>Ce h G (λh=>Cl V (CU λW=>A8 (qk [0,2,5,6,7] G (EM h λX h=>Gf (gLs (q:=900003) (b:=6) G G G X (λY Z=>qk [0,2,5,6,7,900003] G (W9 (rg (sp 2 G (Bk h λa d h=>qIt G G G G d (qSt (y0:=a) (i:=R) (es:=1) 0 1 [0,2,5,6,7] G G G G G G G G G G BJ d (λ_=>G) (Wl (RE G XX)) (yc (V0 (sA (aca (λ_=>G) _)) (V0 G (V0 G G))) (yc (V0 G (V0 G (V0 G G))) (yc (V0 G (V0 (sO (XU oK 67 _)) (V0 (sO (XU (λ_=>G) 3 _)) G))) (yc G (yc G yn))))) (Rw (gDs (q:=900003) (b:=6) G G G (sl G) (W _ (rg (AU 3 G (U _ _ h (Bb G)))))))))))))))))) λh=>AI (N (sj h) _ (Bb G)))))) λh=>DZ (x h _ (Bb G)))))))))))));(Ce h G (λh=>rg (Bk h λe k h=>qC (qs G A4) (PZ k) (AU 4 G (l h _ (Bb G))))) λh=>DZ (l h _ (Bb G)))))))))))))
def Mj(a:zI)(b:(Int×Int)->Option Int)(c:Int×Int):Option Int:=match c with
  |(d,e)=>cond (decide (e < (List.length a:Int))) (cond (decide (e < 4000)) (Ab (AZ a e) λf=>b ((aG (wZ ((wZ ((wZ (d * 131))+(wZ f)))+7)) 1073741823),(wZ (e+1)))) (some d)) (some d)
def Rb(a:zI):Option Om:=Ab (Au (Mj a) fz ((wZ (10101+(List.length a:Int))),0)) λb=>some (a,0,b)
theorem aj{a:zI}{b:Om}(h:Rb a=some b):NewAt Tryz.prog 17 [aL Qm a] [aL Qm b.1,nI b.2.1,nI b.2.2]:=stn xB G G (rn 2 G (As λc d=>rn 1 G (EF h λe f g=>have i:∀{j:Int},j=e->Jn c [(0,aL Qm a),(3,nI j)]:=@λj h _ k=>have h:=g h;d _ (lh k G (rn 1 G (sj h ▸ Am ⟨.inl G,31,G,G⟩)));(Ba (λ(l:Int×Int)=>match l with|(m,n)=>[(0,aL Qm a),(3,nI m),(4,nI n)]) _ _ _ _ f (Bb G) (λ_=>G) (λo=>Kk λm n p h q=>CU λr=>rs (sp 5 G (Ew h (λs h=>qg 12 s G (AU 3 G (Ce h G (λh=>Cl r (CU λt=>A8 (rg (sp 4 G (Bk h λu v h=>qI G rH v (AU 6 G (t _ (rg (AU 3 G (q _ _ h (Bb G))))))))))) λh=>AI (i (sj h) _ (Bb G))))) λs h=>qg 12 s G (AU 3 G (qF G G (AI (i (sj h) _ (Bb G))))))))))))
def G9(a:zI):Option (IC×zI×Int):=Ab (Rb a) λb=>Ab (Re b) λc=>some (c.1,c.2.1,c.2.2.1)
theorem Qb{a:zI}{b:IC×zI×Int}(h:G9 a=some b):Bn 5 [aL Qm a] (.tup [.agg (Sn b.1),oL 3 AF b.2.1,nI b.2.2]):=st AaP G (rn 1 G (rs (sp 1 G (Bk h λc d h=>qN G G G G (aj d) (Bk h λe f h=>qP G G G G A4 (XH f) (AU 8 G (rn 1 G (sj h ▸ Am rZ))))))))
abbrev AV:=Int×Int
abbrev NY:=(List (List AV))×List AV×(List AV)
def AO(a:AV):List V:=[nI a.1,nI a.2]
theorem BX(a:AV):(AO a).length=2:=G
theorem C7(a:AV):Mz (AO a)=AO a:=(BR G (BR G G))
def Df(a:List AV):List V:=[dL AO a]
theorem Mc(a:List AV):(Df a).length=1:=G
theorem Kn(a:List AV):Mz (Df a)=Df a:=(BR (CM C7 _) G)
def BH(a:List AV):List V:=[oL 32 AO a]
theorem Dy(a:List AV):(BH a).length=1:=G
theorem Zw(a:List AV):Mz (BH a)=Df a:=(BR (XY C7 _) G)
def D5(a:NY):List V:=[dL Df a.1,dL AO a.2.1,dL AO a.2.2]
theorem vY(a:NY):(D5 a).length=3:=G
theorem vV(a:NY):Mz (D5 a)=D5 a:=(BR (CM Kn _) (BR (CM C7 _) (BR (CM C7 _) G)))
def Qk(a:NY):List V:=[oL 30 BH a.1,oL 32 AO a.2.1,oL 32 AO a.2.2]
theorem vZ(a:NY):(Qk a).length=3:=G
theorem vW(a:NY):Mz (Qk a)=D5 a:=(BR (XY Zw _) (BR (XY C7 _) (BR (XY C7 _) G)))
def Ij(a:(List AV×Int)->Option (List AV))(b:List AV)(c:Int)(d:Int):Option (List AV):=chk (List.length b+List.length [(d,1)]<=lim) (a ((b++[(d,1)]),(wZ (c+1))))
def Ii(a:IC)(b:Int)(c:(List AV×Int)->Option (List AV))(d:(List AV)×Int):Option (List AV):=match d with
  |(e,f)=>cond (decide (f < (List.length a.2.1:Int))) (Ab (AZ a.2.1 f) λg=>Ab (ES g b) λi=>cond i (Ij c e f 1) (Ij c e f 0)) (some e)
def Oi(a:IC)(b:((List (List AV))×List AV×Int)->Option ((List (List AV))×(List AV)))(c:(List (List AV))×List AV×Int):Option ((List (List AV))×(List AV)):=match c with
  |(d,e,f)=>cond (decide (f < a.1)) (Ab (Au (Ii a f) fz (([]:List AV),0)) λg=>chk (List.length d+List.length [g]<=lim) (chk (List.length e+List.length [(1,1)]<=lim) (b ((d++[g]),(e++[(1,1)]),(wZ (f+1)))))) (some (d,e))
def Lk(a:IC)(b:(List AV×Int)->Option (List AV))(c:(List AV)×Int):Option (List AV):=match c with
  |(d,e)=>cond (decide (e < (List.length a.2.1:Int))) (chk (List.length d+List.length [(1,1)]<=lim) (b ((d++[(1,1)]),(wZ (e+1))))) (some d)
def KH(a:IC):Option (NY×Bool):=Ab (EQ a) λb=>cond (!b) (some (([],[],[]),false)) (Ab (Au (Oi a) fz (([]:List (List AV)),([]:List AV),0)) λc=>(match c with
  |(d,e)=>(Ab (Au (Lk a) fz (([]:List AV),0)) λf=>some ((d,e,f),true))))
theorem S6{a:IC}{b:NY×Bool}(h:KH a=some b):Bn 18 [.agg (EY a)] (.tup [.agg (Qk b.1),.bool b.2]):=st xC G (rn 1 G (CU λc=>rs (sp 1 G (Bk h λd e h=>qC (qa G (D2 (BR G (BR (CM I0 _) (BR (CM Cb _) G)))) A4) (GV e) (AU 1 G (Ce h G (λh=>rn 1 G (sj h ▸ Am rZ)) λh=>Cl c (rn 1 G (As λf g=>rn 1 G (EF h λi j k=>have l:∀{m:List (List AV)}{n:List AV},(m,n)=i->Jn f [(1,.box [nI a.1,dL DK a.2.1,dL AF a.2.2]),(2,.box [oL 30 BH [],oL 32 AO [],oL 32 AO []]),(4,.box [oL 30 BH m,oL 32 AO n,oL 32 AO []])]:=@λm n h _ o=>have h:=k h;g _ (lh o G (As λp q=>rn 1 G (EF h λr j s=>have t:∀{u:List AV},u=r->Jn p [(2,.box [oL 30 BH [],oL 32 AO [],oL 32 AO []]),(4,.box [oL 30 BH m,oL 32 AO n,oL 32 AO u])]:=@λu h _ o=>have h:=s h;q _ (lh o G (rn 1 G (sj h ▸ Am rZ)));(Ba (λ(v:(List AV)×Int)=>match v with|(w,x)=>[(1,.box [nI a.1,dL DK a.2.1,dL AF a.2.2]),(2,.box [oL 30 BH [],oL 32 AO [],oL 32 AO []]),(4,.box [oL 30 BH m,oL 32 AO n,oL 32 AO w]),(9,nI x)]) _ _ _ _ j (Bb G) (λ_=>G) (λy=>Kk λw x z h A=>Fu G λB=>Ce h G (λh=>Cl B (CU λC=>A8 (rg (sp 3 G (EW AO [(1,1)] G G G BX (EM h λD h=>qA AO w [(1,1)] G G (Bh BX [(1,1)]) G D (AU 2 G (C _ (rg (AU 3 G (A _ _ h (Bb G)))))))))))) λh=>AI (t (sj h) _ (Bb G)))))));(Ba (λ(v:(List (List AV))×List AV×Int)=>match v with|(F,H,I)=>[(1,.box [nI a.1,dL DK a.2.1,dL AF a.2.2]),(2,.box [oL 30 BH [],oL 32 AO [],oL 32 AO []]),(4,.box [oL 30 BH F,oL 32 AO H,oL 32 AO []]),(5,nI I)]) _ _ _ _ j (Bb G) (λ_=>G) (λy=>pr3 λF H I z h A=>Fu G λJ=>Ce h G (λh=>Cl J (CU λK=>A8 (rs (EW AO [] G G G BX (AU 1 G (As λL M=>rn 1 G (EF h λN j O=>have P:∀{Q:List AV},Q=N->Jn L [(1,.box [nI a.1,dL DK a.2.1,dL AF a.2.2]),(2,.box [oL 30 BH [],oL 32 AO [],oL 32 AO []]),(4,.box [oL 30 BH F,oL 32 AO H,oL 32 AO []]),(5,nI I),(6,oL 32 AO Q)]:=@λQ h _ o=>have h:=O h;M _ (lh o G (rs (sp 3 G (EW BH [Q] G G G Dy (EM h λR h=>qA BH F [Q] G G (Bh Dy [Q]) G R (AU 2 G (rg (sp 3 G (EW AO [(1,1)] G G G BX (EM h λS h=>qA AO H [(1,1)] G G (Bh BX [(1,1)]) G S (AU 2 G (K _ (rg (AU 3 G (A _ _ h (Bb G))))))))))))))));(Ba (λ(v:(List AV)×Int)=>match v with|(T,U)=>[(1,.box [nI a.1,dL DK a.2.1,dL AF a.2.2]),(2,.box [oL 30 BH [],oL 32 AO [],oL 32 AO []]),(4,.box [oL 30 BH F,oL 32 AO H,oL 32 AO []]),(5,nI I),(6,oL 32 AO T),(7,nI U)]) _ _ _ _ j (Bb G) (λ_=>G) (λy=>Kk λT U z h A=>Fu G λV=>Ce h G (λh=>Cl V (CU λW=>A8 (rn 1 G (As λX Y=>rs (sp 3 G (Bk h λZ b h=>qI G Jr b (sp 2 G (Bk h λd c h=>qC (qa G (D2 (BR G (BR (CM Cb _) G))) (qs G A4)) (Jh c) (Rw (have e:∀{f:Int},Ij (Au (Ii a I) y) T U f=some N->Jn X [(1,.box [nI a.1,dL DK a.2.1,dL AF a.2.2]),(2,.box [oL 30 BH [],oL 32 AO [],oL 32 AO []]),(4,.box [oL 30 BH F,oL 32 AO H,oL 32 AO []]),(5,nI I),(6,oL 32 AO T),(7,nI U),(8,nI f)]:=@λf h _ o=>Y _ (lh o G (rg (sp 3 G (EW AO [(f,1)] G G G BX (EM h λi h=>qA AO T [(f,1)] G G (Bh BX [(f,1)]) G i (AU 1 G (W _ (rg (AU 3 G (A _ _ h (Bb G)))))))))));(Ce h G (λh=>rg (AU 1 G (e h _ (Bb G)))) λh=>DZ (e h _ (Bb G))))))))))))) λh=>AI (P (sj h) _ (Bb G))))))))))) λh=>AI (l (sj h) _ (Bb G)))))))))))))
def Ti(a:(Int×Int)->Option Int)(b:Int×Int):Option Int:=match b with
  |(c,d)=>cond (d !=0) (chk (d≠0) (a (d,(Int.tmod c d)))) (some c)
def NN(a:Int)(b:Int):Option Int:=Ab (Au Ti fz (a,b)) λc=>some c
theorem Rc{a:Int}{b:Int}{c:Int}(h:NN a b=some c):Bn 22 [nI a,nI b] (nI c):=st xG G (rn 1 G (As λd e=>EF h λf g i=>have j:∀{k:Int},k=f->Jn d [(0,nI k)]:=@λk h _ l=>have h:=i h;e _ (lh l G (rn 1 G (sj h ▸ Am rZ)));(Ba (λ(m:Int×Int)=>match m with|(n,o)=>[(0,nI n),(1,nI o)]) _ _ _ _ g (Bb G) (λ_=>G) (λp=>Kk λn o q h r=>Fu G λs=>Ce h G (λh=>Cl s (A8 (rs (sp 2 G (EM h λt h=>qB G ⟨G,t⟩ G (AU 1 G (rn 1 G (rg (AU 2 G (r _ _ h (Bb G))))))))))) λh=>AI (j (sj h) _ (Bb G))))))
def GF(a:Bool):Option Bool:=some a
def Ci(a:AV):Option Bool:=Ab (Ej a.2 1 1000000000) λb=>cond b (Ab (Ej a.1 (-1000000000) 1000000000) λc=>cond c (Ab (NN (if a.1 < (wZ (0 - a.1))then(wZ (0 - a.1))else a.1) a.2) λd=>GF (d==1)) (GF false)) (GF false)
theorem Cs{a:AV}{b:Bool}(h:Ci a=some b):Bn 21 [.agg (AO a)] (.bool b):=st xF G (rn 1 G (rk λc d=>have e:∀{f:Bool},GF f=some b->Jn c [(2,.bool f)]:=@λf h _ g=>d _ (lh g G (sj h ▸ Am rZ));(sp 2 G (Bk h λi j h=>qC (qs G (qs G (qs G A4))) (DT j) (sp 1 G (Ew h (λk h=>qg 6 k G (sp 2 G (Bk h λl m h=>FY G G (qC (qs G (qs G (qs G A4))) (DT m) (sp 2 G (Ew h (λn h=>qg 11 n G (sp 8 G (Bk h λo p h=>FY G G (qC (qs G (qs G A4)) (Rc p) (AU 3 G (e h _ (Bb G))))))) λn h=>qg 11 n G (AU 12 G (e h _ (Bb G))))))))) λk h=>qg 6 k G (AU 17 G (e h _ (Bb G)))))))))
def P0(a:List (List AV))(b:Int)(c:Int)(d:Int->Option (Sum Unit Bool))(e:Int):Option (Sum Unit Bool):=cond (decide (e < b)) (Ab (AZ a c) λf=>Ab (AZ f e) λg=>Ab (Ci g) λi=>cond (!i) (some (.inr false)) (d (wZ (e+1)))) (some (.inl ()))
def UL(a:List (List AV))(b:Int)(c:Int->Option (Sum Unit Bool))(d:Int):Option (Sum Unit Bool):=cond (decide (d < (List.length a:Int))) (Ab (AZ a d) λe=>cond ((List.length e:Int)!=b) (some (.inr false)) (Ab (Au (P0 a b d) fz 0) λf=>(match f with
  |.inl _=>(c (wZ (d+1)))
  |.inr g=>some (.inr g)))) (some (.inl ()))
def Gn(a:List (List AV))(b:Int)(c:Int):Option Bool:=Ab (Au (UL a c) fz 0) λd=>(match d with
  |.inl _=>(some ((List.length a:Int)==b))
  |.inr e=>some e)
theorem Jq{a:List (List AV)}{b:Int}{c:Int}{d:Bool}(h:Gn a b c=some d):Bn 77 [dL Df a,nI b,nI c] (.bool d):=st yO G (rn 1 G (As λe f=>rn 1 G (EF h λg i j=>have k:(.inl ())=g->Jn e [(0,dL Df a),(1,nI b)]:=λh _ l=>have h:=j h;f _ (lh l G (rn 1 G (sj h ▸ Am rZ)));(Ba (λ(m:Int)=>[(0,dL Df a),(1,nI b),(2,nI c),(7,nI m)]) _ _ _ _ i (Bb G) (λ_=>G) (λn m o h p=>Fu G λq=>Ce h G (λh=>Cl q (As λr s=>A8 (CU λt=>rs (sp 2 G (Bk h λu v h=>qI G Mc v (AU 4 G (Ce h G (λh=>rn 1 G (sj (j (sj h)) ▸ Am rZ)) λh=>Cl t (rn 1 G (EF h λw i x=>have y:(.inl ())=w->Jn r [(0,dL Df a),(1,nI b),(2,nI c),(7,nI m)]:=λh _ l=>have h:=x h;s _ (lh l G (rg (AU 3 G (p _ _ h (Bb G)))));(Ba (λ(z:Int)=>[(0,dL Df a),(1,nI b),(2,nI c),(7,nI m),(8,nI z)]) _ _ _ _ i (Bb G) (λ_=>G) (λn z o h p=>Fu G λA=>Ce h G (λh=>Cl A (CU λB=>A8 (rs (sp 2 G (Bk h λC D h=>qI G Mc D (sp 2 G (Bk h λF H h=>qI G BX H (sp 1 G (Bk h λI J h=>qC (qa G (D2 (BR G (BR G G))) A4) (Cs J) (AU 1 G (Ce h G (λh=>rn 1 G (sj (j (sj (x (sj h)))) ▸ Am rZ)) λh=>Cl B (rg (AU 3 G (p _ _ h (Bb G))))))))))))))) λh=>AI (y (sj h) _ (Bb G))))))))))))) λh=>AI (k (sj h) _ (Bb G)))))))
def Dc(a:Bool):Option Bool:=some a
def Eb(a:NY):Option Bool:=Ab (Ej (List.length a.2.2:Int) 1 5) λb=>cond b (Ab (Ej (List.length a.2.1:Int) 1 5) λc=>cond c (Ab (Gn a.1 (List.length a.2.1:Int) (List.length a.2.2:Int)) λd=>cond d (Ab (Gn [a.2.2] 1 (List.length a.2.2:Int)) λe=>cond e (Ab (Gn [a.2.1] 1 (List.length a.2.1:Int)) λf=>Dc f) (Dc false)) (Dc false)) (Dc false)) (Dc false)
theorem Hb{a:NY}{b:Bool}(h:Eb a=some b):Bn 46 [.agg (D5 a)] (.bool b):=st yf G (rn 3 G (rk λc d=>have e:∀{f:Bool},Dc f=some b->Jn c [(2,.bool f)]:=@λf h _ g=>d _ (lh g G (sj h ▸ Am rZ));(sp 1 G (Bk h λi j h=>qC (qs G (qs G (qs G A4))) (DT j) (sp 1 G (Ew h (λk h=>qg 13 k G (sp 1 G (Bk h λl m h=>FY G G (qC (qs G (qs G (qs G A4))) (DT m) (sp 2 G (Ew h (λn h=>qg 17 n G (sp 4 G (Bk h λo p h=>FY G G (qC (qa G (CM Kn _) (qs G (qs G A4))) (Jq p) (sp 2 G (Ew h (λq h=>qg 24 q G (sp 2 G (FY G G (EW Df [a.2.2] G G G Mc (sp 1 G (Bk h λr s h=>FY G G (qC (qa G (XY Kn _) (qs G (qs G A4))) (Jq s) (sp 2 G (Ew h (λt h=>qg 31 t G (sp 2 G (FY G G (EW Df [a.2.1] G G G Mc (sp 1 G (Bk h λu v h=>FY G G (qC (qa G (XY Kn _) (qs G (qs G A4))) (Jq v) (AU 2 G (e h _ (Bb G)))))))))) λt h=>qg 31 t G (AU 7 G (e h _ (Bb G)))))))))))) λq h=>qg 24 q G (AU 14 G (e h _ (Bb G))))))))) λn h=>qg 17 n G (AU 21 G (e h _ (Bb G))))))))) λk h=>qg 13 k G (AU 25 G (e h _ (Bb G)))))))))
def Ip(a:List (List AV))(b:Int)(c:(List AV×Int)->Option (List AV))(d:(List AV)×Int):Option (List AV):=match d with
  |(e,f)=>cond (decide (f < (List.length a:Int))) (Ab (AZ a f) λg=>Ab (AZ g b) λi=>chk (List.length e+List.length [i]<=lim) (c ((e++[i]),(wZ (f+1))))) (some e)
def KK(a:List (List AV))(b:((List (List AV))×Int)->Option ((List (List AV))))(c:(List (List AV))×Int):Option ((List (List AV))):=match c with
  |(d,e)=>Ab (AZ a 0) λf=>cond (decide (e < (List.length f:Int))) (Ab (Au (Ip a e) fz (([]:List AV),0)) λg=>chk (List.length d+List.length [g]<=lim) (b ((d++[g]),(wZ (e+1))))) (some d)
def Nm(a:List (List AV)):Option ((List (List AV))×Bool):=cond ((List.length a:Int)==0) (some (([]:List (List AV)),false)) (Ab (AZ a 0) λb=>Ab (Gn a (List.length a:Int) (List.length b:Int)) λc=>cond (!c) (some (([]:List (List AV)),false)) (Ab (Au (KK a) fz (([]:List (List AV)),0)) λd=>some (d,true)))
theorem VB{a:List (List AV)}{b:(List (List AV))×Bool}(h:Nm a=some b):Bn 47 [dL Df a] (.tup [oL 30 BH b.1,.bool b.2]):=st yg G (rn 1 G (rs (EW BH [] G G G Dy (AU 1 G (CU λc=>rs (sp 4 G (Ew h (λd h=>qg 12 d G (AU 10 G (qT G G (rn 1 G (sj h ▸ Am rZ))))) λd h=>qg 12 d G (sp 4 G (Bk h λe f h=>FY G G (qI G Mc f (sp 2 G (Bk h λg i h=>FY G G (qC (qa G (CM Kn _) (qs G (qs G A4))) (Jq i) (AU 2 G (qk [0,4,22] G (Ce h G (λh=>rn 1 G (sj h ▸ Am rZ)) λh=>Cl c (As λj k=>rn 1 G (EF h λl m n=>have o:∀{p:List (List AV)},p=l->Jn j [(4,oL 30 BH p)]:=@λp h _ q=>have h:=n h;k _ (lh q G (rn 1 G (sj h ▸ Am rZ)));(Ba (λ(r:(List (List AV))×Int)=>match r with|(s,t)=>[(0,dL Df a),(4,oL 30 BH s),(5,nI t)]) _ _ _ _ m (Bb G) (λ_=>G) (λu=>Kk λs t v h w=>CU λx=>rs (sp 2 G (Bk h λy z h=>qI G Mc z (AU 3 G (Ce h G (λh=>Cl x (CU λA=>A8 (rs (EW AO [] G G G BX (AU 1 G (As λB C=>rn 1 G (EF h λD m F=>have H:∀{I:List AV},I=D->Jn B [(0,dL Df a),(4,oL 30 BH s),(5,nI t),(6,oL 32 AO I)]:=@λI h _ q=>have h:=F h;C _ (lh q G (rg (sp 2 G (EW BH [I] G G G Dy (EM h λJ h=>qA BH s [I] G G (Bh Dy [I]) G J (AU 1 G (A _ (rg (AU 3 G (w _ _ h (Bb G)))))))))));(Ba (λ(r:(List AV)×Int)=>match r with|(K,L)=>[(0,dL Df a),(4,oL 30 BH s),(5,nI t),(6,oL 32 AO K),(7,nI L)]) _ _ _ _ m (Bb G) (λ_=>G) (λu=>Kk λK L v h w=>Fu G λM=>Ce h G (λh=>Cl M (CU λN=>A8 (rg (sp 3 G (Bk h λO P h=>qI G Mc P (sp 2 G (Bk h λQ R h=>qI G BX R (sp 1 G (EW AO [Q] G G G BX (EM h λS h=>qA AO K [Q] G G (Bh BX [Q]) G S (AU 1 G (N _ (rg (AU 3 G (w _ _ h (Bb G)))))))))))))))) λh=>AI (H (sj h) _ (Bb G))))))))))) λh=>AI (o (sj h) _ (Bb G))))))))))))))))))))))))))
def LD(a:NY):Option (NY×Bool):=Ab (Eb a) λb=>cond (!b) (some (([],[],[]),false)) (Ab (Nm a.1) λc=>chk (List.length ([]:List AV)+List.length a.2.2<=lim) (chk (List.length ([]:List AV)+List.length a.2.1<=lim) (some ((c.1,([]:List AV)++a.2.2,([]:List AV)++a.2.1),true))))
theorem TM{a:NY}{b:NY×Bool}(h:LD a=some b):Bn 19 [.agg (D5 a)] (.tup [.agg (Qk b.1),.bool b.2]):=st xD G (rn 1 G (CU λc=>rs (sp 1 G (Bk h λd e h=>qC (qa G (D2 (BR (CM Kn _) (BR (CM C7 _) (BR (CM C7 _) G)))) A4) (Hb e) (AU 1 G (Ce h G (λh=>rn 1 G (sj h ▸ Am rZ)) λh=>Cl c (rs (sp 2 G (Bk h λf g h=>qC (qa G (CM Kn _) A4) (VB g) (AU 5 G (rd (by kernel_rfl) (sd 1 G (ed G (EW AO [] G G G BX (sd 2 G (EM h λi h=>ed G (qA AO ([]:List AV) a.2.2 G G (Bh BX a.2.2) (Nf (λ_=>G) _) i (ed G (EW AO [] G G G BX (sd 2 G (EM h λj h=>ed G (qA AO ([]:List AV) a.2.1 G G (Bh BX a.2.1) (Nf (λ_=>G) _) j (sd 3 G (Dh (qk [2,3] G (sj h ▸ Am rZ))))))))))))))))))))))))))
def OF(a:List AV)(b:Int->Option (Sum Unit Bool))(c:Int):Option (Sum Unit Bool):=cond (decide (c < (List.length a:Int))) (Ab (AZ a c) λd=>cond (decide (d.1 < 0)) (some (.inr false)) (b (wZ (c+1)))) (some (.inl ()))
def OV(a:List AV):Option Bool:=Ab (Au (OF a) fz 0) λb=>(match b with
  |.inl _=>(some true)
  |.inr c=>some c)
theorem XF{a:List AV}{b:Bool}(h:OV a=some b):Bn 48 [dL AO a] (.bool b):=st yh G (rn 1 G (As λc d=>rn 1 G (EF h λe f g=>have i:(.inl ())=e->Jn c []:=λh _ j=>have h:=g h;d _ (lh j G (rn 1 G (sj h ▸ Am rZ)));(Ba (λ(k:Int)=>[(0,dL AO a),(3,nI k)]) _ _ _ _ f (Bb G) (λ_=>G) (λl k m h n=>Fu G λo=>Ce h G (λh=>Cl o (CU λp=>A8 (rs (sp 2 G (Bk h λq r h=>qI G BX r (AU 3 G (Ce h G (λh=>rn 1 G (sj (g (sj h)) ▸ Am rZ)) λh=>Cl p (rg (AU 3 G (n _ _ h (Bb G))))))))))) λh=>AI (i (sj h) _ trivial))))))
def DO(a:zI):List V:=[dL AF a]
theorem HE(a:zI):(DO a).length=1:=G
theorem Km(a:zI):Mz (DO a)=DO a:=(BR (CM Cb _) G)
def BK(a:zI):List V:=[oL 3 AF a]
theorem Fv(a:zI):(BK a).length=1:=G
theorem Tv(a:zI):Mz (BK a)=DO a:=(BR (XY Cb _) G)
def Rs(a:Int)(b:(List zI))(c:(List zI×Int)->Option (List zI))(d:(List zI)×Int):Option (List zI):=match d with
  |(e,f)=>cond (decide (f < (List.length b:Int))) (Ab (AZ b f) λg=>chk (List.length [a]+List.length g<=lim) (chk (List.length e+List.length ([[a]++g])<=lim) (c ((e++([[a]++g])),(wZ (f+1)))))) (some e)
def OE(a:Int)(b:Int)(c:(Int×Int×Int)->Option (List zI))(d:(List zI×Int)->Option (List zI))(e:(List zI)×Int):Option (List zI):=match e with
  |(f,g)=>cond (decide ((wZ (g+b))<=a)) (Ab (c ((wZ (g+1)),a,(wZ (b - 1)))) λi=>Ab (Au (Rs g i) fz (f,0)) λj=>d (j,(wZ (g+1)))) (some f)
def Gp(a:(Int×Int×Int)->Option (List zI))(b:Int×Int×Int):Option (List zI):=match b with
  |(c,d,e)=>cond (e==0) (some ([[]])) (Ab (Au (OE d e a) fz (([]:List zI),c)) λf=>some f)
def Ra(a:Int)(b:Int)(c:Int):Option (List zI):=Au Gp fz (a,b,c)
theorem XE{a:Int}{b:Int}{c:Int}{d:(List zI)}(h:Ra a b c=some d):Bn 97 [nI a,nI b,nI c] (oL 25 BK d):=by
 suffices e:∀f (a:Int) (b:Int) (c:Int) (d:(List zI)),Au Gp f (a,b,c)=some d->Bn 97 [nI a,nI b,nI c] (oL 25 BK d)from e fz a b c d h
 refineλf=>?_
 induction f with
 |zero=>intro a b c d h;cases h
 |succ f g=>
  intro a b c d h
  have ih:∀{a:Int}{b:Int}{c:Int}{d:(List zI)},Au Gp f (a,b,c)=some d->Bn 97 [nI a,nI b,nI c] (oL 25 BK d):=λh=>g _ _ _ _ h
  change Gp (Au Gp f) (a,b,c)=some d at h
  exact st zl G (rn 1 G (Fu G λi=>Ce h G (λh=>rs (EW AF [] G G G BJ (EW BK [[]] G G G Fv (AU 1 G (sj h ▸ Am rZ))))) λh=>Cl i (rs (EW BK [] G G G Fv (AU 1 G (As λj k=>rn 1 G (EF h λl m n=>have o:∀{p:List zI},p=l->Jn j [(7,oL 25 BK p)]:=@λp h _ q=>have h:=n h;k _ (lh q G (rn 1 G (sj h ▸ Am rZ)));(Ba (λ(r:(List zI)×Int)=>match r with|(s,t)=>[(1,nI b),(2,nI c),(7,oL 25 BK s),(8,nI t)]) _ _ _ _ m (Bb G) (λ_=>G) (λu=>Kk λs t v h w=>Fu G λx=>Ce h G (λh=>Cl x (As λy z=>A8 (rs (sp 5 G (Bk h λA B h=>qC (qs G (qs G (qs G A4))) (ih B) (AU 1 G (rn 1 G (EF h λC m D=>have F:∀{H:List zI},H=C->Jn y [(1,nI b),(2,nI c),(7,oL 25 BK H),(8,nI t)]:=@λH h _ q=>have h:=D h;z _ (lh q G (rg (AU 3 G (w _ _ h (Bb G)))));(Ba (λ(r:(List zI)×Int)=>match r with|(I,J)=>[(1,nI b),(2,nI c),(7,oL 25 BK I),(8,nI t),(9,oL 25 BK A),(10,nI J)]) _ _ _ _ m (Bb G) (λ_=>G) (λu=>Kk λI J v h w=>Fu G λK=>Ce h G (λh=>Cl K (CU λL=>A8 (rg (sp 2 G (EW AF [t] G G G BJ (sp 2 G (Bk h λM N h=>qI G Fv N (sp 1 G (EM h λO h=>qA AF [t] M G G (Bh BJ M) (Nf (λ_=>G) _) O (EW BK [[t]++M] G G G Fv (EM h λP h=>qA BK I ([[t]++M]) G G (Bh Fv ([[t]++M])) G P (AU 1 G (L _ (rg (AU 3 G (w _ _ h (Bb G))))))))))))))))) λh=>AI (F (sj h) _ (Bb G)))))))))))) λh=>AI (o (sj h) _ (Bb G)))))))))))
def GW(a:Int)(b:Int):Option (AV×Bool):=Ab (NN (if a < (wZ (0 - a))then(wZ (0 - a))else a) b) λc=>chk (c≠0) (chk (c≠0) (Ab (Ci (wZ (Int.tdiv a c),wZ (Int.tdiv b c))) λd=>cond (!d) (some ((0,0),false)) (some ((wZ (Int.tdiv a c),wZ (Int.tdiv b c)),true))))
def Hk(a:Int)(b:Int):Option (AV×Bool):=cond (b==0) (some ((0,0),false)) (Ab (Ej a (wZ (0 - 4000000000000000000)) 4000000000000000000) λc=>cond (!c) (some ((0,0),false)) (Ab (Ej b (wZ (0 - 4000000000000000000)) 4000000000000000000) λd=>cond (!d) (some ((0,0),false)) (cond (decide (b < 0)) (GW (wZ (0 - a)) (wZ (0 - b))) (GW a b))))
theorem MO{a:Int}{b:Int}{c:AV×Bool}(h:Hk a b=some c):Bn 123 [nI a,nI b] (.tup [.agg (AO c.1),.bool c.2]):=st ut G (rn 2 G (CU λd=>rs (sp 3 G (Ew h (λe h=>qg 11 e G (AU 15 G (qT G G (rn 1 G (sj h ▸ Am rZ))))) λe h=>qg 11 e G (sp 4 G (Bk h λf g h=>FY G G (qC (qs G (qs G (qs G A4))) (DT g) (sp 3 G (Ew h (λi h=>qg 19 i G (AU 7 G (qk [0,1,4,26] G (qT G G (rn 1 G (sj h ▸ Am rZ)))))) λi h=>qg 19 i G (sp 4 G (Bk h λj k h=>FY G G (qC (qs G (qs G (qs G A4))) (DT k) (AU 2 G (Ce h G (λh=>rn 1 G (sj h ▸ Am rZ)) λh=>Cl d (As λl m=>rn 1 G (have n:∀{o:Int}{p:Int},GW o p=some c->Jn l [(0,nI o),(1,nI p),(4,.box [nI 0,nI 0])]:=@λo p h _ q=>m _ (lh q G (rs (sp 5 G (Bk h λr s h=>qC (qs G (qs G A4)) (Rc s) (AU 1 G (rd (by kernel_rfl) (sd 2 G (EM h λt h=>ed G (qB G ⟨G,t⟩ G (sd 2 G (EM h λu h=>ed G (qB G ⟨G,u⟩ G (sd 3 G (Dh (CU λv=>rs (sp 1 G (Bk h λw x h=>qC (qa G (D2 (BR G (BR G G))) A4) (Cs x) (AU 1 G (Ce h G (λh=>rn 1 G (sj h ▸ Am rZ)) λh=>Cl v (rn 1 G (sj h ▸ Am rZ)))))))))))))))))))));(Ce h G (λh=>rn 1 G (qk [0,1,4] G (rg (AU 3 G (n h _ (Bb G)))))) λh=>DZ (n h _ (Bb G)))))))))))))))))))
def Jm(a:AV)(b:AV):Option (AV×Bool):=Ab (Ci a) λc=>cond (!c) (some ((0,0),false)) (Ab (Ci b) λd=>cond (!d) (some ((0,0),false)) (Ab (Hk (wZ (a.1 * b.1)) (wZ (a.2 * b.2))) λe=>some (e.1,e.2)))
theorem Py{a:AV}{b:AV}{c:AV×Bool}(h:Jm a b=some c):Bn 101 [.agg (AO a),.agg (AO b)] (.tup [.agg (AO c.1),.bool c.2]):=st tV G (rn 1 G (CU λd=>rs (sp 1 G (Bk h λe f h=>qC (qa G (D2 (BR G (BR G G))) A4) (Cs f) (sp 2 G (Ew h (λg h=>qg 11 g G (AU 4 G (qT G G (rn 1 G (sj h ▸ Am rZ))))) λg h=>qg 11 g G (sp 1 G (Bk h λi j h=>FY G G (qC (qa G (D2 (BR G (BR G G))) A4) (Cs j) (AU 2 G (Ce h G (λh=>rn 1 G (sj h ▸ Am rZ)) λh=>Cl d (rs (sp 10 G (Bk h λk l h=>qC (qs G (qs G A4)) (MO l) (AU 6 G (qk [4,6,7] G (rn 1 G (sj h ▸ Am rZ))))))))))))))))))
def Ji(a:AV)(b:AV):Option (AV×Bool):=Ab (Ci a) λc=>cond (!c) (some ((0,0),false)) (Ab (Ci b) λd=>cond (!d) (some ((0,0),false)) (Ab (Hk (wZ (a.1 * b.2)) (wZ (a.2 * b.1))) λe=>some (e.1,e.2)))
theorem Pu{a:AV}{b:AV}{c:AV×Bool}(h:Ji a b=some c):Bn 121 [.agg (AO a),.agg (AO b)] (.tup [.agg (AO c.1),.bool c.2]):=st uq G (rn 1 G (CU λd=>rs (sp 1 G (Bk h λe f h=>qC (qa G (D2 (BR G (BR G G))) A4) (Cs f) (sp 2 G (Ew h (λg h=>qg 11 g G (AU 4 G (qT G G (rn 1 G (sj h ▸ Am rZ))))) λg h=>qg 11 g G (sp 1 G (Bk h λi j h=>FY G G (qC (qa G (D2 (BR G (BR G G))) A4) (Cs j) (AU 2 G (Ce h G (λh=>rn 1 G (sj h ▸ Am rZ)) λh=>Cl d (rs (sp 10 G (Bk h λk l h=>qC (qs G (qs G A4)) (MO l) (AU 6 G (qk [4,6,7] G (rn 1 G (sj h ▸ Am rZ))))))))))))))))))
def Jg(a:AV)(b:AV):Option (AV×Bool):=Ab (Ci a) λc=>cond (!c) (some ((0,0),false)) (Ab (Ci b) λd=>cond (!d) (some ((0,0),false)) (Ab (Hk (wZ ((wZ (a.1 * b.2))+(wZ (b.1 * a.2)))) (wZ (a.2 * b.2))) λe=>some (e.1,e.2)))
theorem Pt{a:AV}{b:AV}{c:AV×Bool}(h:Jg a b=some c):Bn 102 [.agg (AO a),.agg (AO b)] (.tup [.agg (AO c.1),.bool c.2]):=st tW G (rn 1 G (CU λd=>rs (sp 1 G (Bk h λe f h=>qC (qa G (D2 (BR G (BR G G))) A4) (Cs f) (sp 2 G (Ew h (λg h=>qg 11 g G (AU 4 G (qT G G (rn 1 G (sj h ▸ Am rZ))))) λg h=>qg 11 g G (sp 1 G (Bk h λi j h=>FY G G (qC (qa G (D2 (BR G (BR G G))) A4) (Cs j) (AU 2 G (Ce h G (λh=>rn 1 G (sj h ▸ Am rZ)) λh=>Cl d (rs (sp 16 G (Bk h λk l h=>qC (qs G (qs G A4)) (MO l) (AU 6 G (qk [4,6,7] G (rn 1 G (sj h ▸ Am rZ))))))))))))))))))
def LG(a:AV)(b:AV):Option (AV×Bool):=Ab (Ci b) λc=>cond (!c) (some ((0,0),false)) (Ab (Jg a (wZ (0 - b.1),b.2)) λd=>some (d.1,d.2))
theorem TR{a:AV}{b:AV}{c:AV×Bool}(h:LG a b=some c):Bn 132 [.agg (AO a),.agg (AO b)] (.tup [.agg (AO c.1),.bool c.2]):=st uC G (rn 1 G (CU λd=>rs (sp 1 G (Bk h λe f h=>qC (qa G (D2 (BR G (BR G G))) A4) (Cs f) (AU 1 G (Ce h G (λh=>rn 1 G (sj h ▸ Am rZ)) λh=>Cl d (rs (sp 7 G (Bk h λg i h=>qC (qa G (D2 (BR G (BR G G))) (qa G (D2 (BR G (BR G G))) A4)) (Pt i) (AU 6 G (rn 1 G (sj h ▸ Am rZ))))))))))))
theorem M4(a:AV):E1 (AO a)=true:=(RE G (RE G XX))
theorem M3(a:List AV):E1 (BH a)=true:=(RE (XU M4 32 _) XX)
def EZ(a:((List (List AV))×Int)->Option (Sum ((List (List AV))) (Bool×(List (List AV)))))(b:Int)(c:List (List AV)):Option (Sum ((List (List AV))) (Bool×(List (List AV)))):=a (c,(wZ (b+1)))
def Ka(a:((List (List AV))×Bool×Int)->Option ((List (List AV))×Bool))(b:Int)(c:List (List AV))(d:Int)(e:AV×Bool)(f:Bool):Option ((List (List AV))×Bool):=chk (0 < List.length c) (Ab (AZ c b) λg=>chk (0 < List.length g) (Ab (AZ c b) λi=>Ab (AZ g d) λj=>a ((DJ c b (DJ g d e.1)),f,(wZ (d+1)))))
def EE(a:Int)(b:Int)(c:AV×Bool)(d:((List (List AV))×Bool×Int)->Option ((List (List AV))×Bool))(e:(List (List AV))×Bool×Int):Option ((List (List AV))×Bool):=match e with
  |(f,g,i)=>Ab (AZ f b) λj=>cond (decide (i < (List.length j:Int))) (cond g (Ab (AZ f a) λk=>Ab (AZ k i) λl=>Ab (Jm c.1 l) λm=>Ab (AZ f b) λn=>Ab (AZ n i) λo=>Ab (LG o m.1) λp=>cond m.2 (Ka d b f i p p.2) (Ka d b f i p false)) (some (f,g))) (some (f,g))
def Eh(a:Int)(b:((List (List AV))×Int)->Option (Sum ((List (List AV))) (Bool×(List (List AV)))))(c:(List (List AV))×Int):Option (Sum ((List (List AV))) (Bool×(List (List AV)))):=match c with
  |(d,e)=>cond (decide (e < (List.length d:Int))) (cond (e==a) (EZ b e d) (Ab (AZ d e) λf=>Ab (AZ f a) λg=>cond (g.1==0) (EZ b e d) (Ab (AZ d e) λi=>Ab (AZ i a) λj=>Ab (AZ d a) λk=>Ab (AZ k a) λl=>Ab (Ji j l) λm=>Ab (Au (EE a e m) fz (d,m.2,a)) λn=>(match n with
  |(o,p)=>(cond (!p) (some (.inr (false,o))) (EZ b e o)))))) (some (.inl d))
def Nn(a:List (List AV))(b:Int):Option (Bool×(List (List AV))):=Ab (Au (Eh b) fz (a,0)) λc=>(match c with
  |.inl d=>(some (true,d))
  |.inr e=>some e)
theorem XC{a:List (List AV)}{c:Int}{d:Bool×(List (List AV))}(h:Nn a c=some d):P3 Tryz.prog 120 [] [oL 30 BH a] [nI c] [oL 30 BH d.2] (.bool d.1):=stl uo G (SU G G) (mvv G G) (RE (XU M3 30 _) XX) (RE (XU M3 30 _) XX) (rn 1 G (As λe f=>rn 1 G (EF h λg j k=>have l:∀{m:List (List AV)},(.inl m)=g->Jn e [(0,oL 30 BH m)]:=@λm h _ n=>have h:=k h;f _ (lh n G (rn 1 G (sj h ▸ Am ⟨.inl G,G,G⟩)));(Ba (λ(p:(List (List AV))×Int)=>match p with|(r,s)=>[(0,oL 30 BH r),(1,nI c),(5,nI s)]) _ _ _ _ j (Bb G) (λ_=>G) (λt=>Kk λr s u h v=>Fu G λw=>Ce h G (λh=>Cl w (As λx y=>have z:∀{A:List (List AV)},EZ (Au (Eh c) t) s A=some g->Jn x [(0,oL 30 BH A),(1,nI c),(5,nI s)]:=@λA h _ n=>y _ (lh n G (rg (AU 3 G (v _ _ h (Bb G)))));(A8 (CU λB=>rs (sp 4 G (Ew h (λC h=>qg 22 C G (AU 10 G (qT G G (AI (z h _ (Bb G)))))) λC h=>qg 22 C G (sp 2 G (Bk h λD F h=>FY G G (qI G Dy F (sp 2 G (Bk h λH I h=>FY G G (qI G BX I (AU 4 G (Ce h G (λh=>AI (z h _ (Bb G))) λh=>Cl B (rd (by kernel_rfl) (sd 2 G (Bk h λJ K h=>ed G (qI G Dy K (sd 2 G (Bk h λL M h=>ed G (qI G BX M (sd 3 G (Bk h λN O h=>ed G (qI G Dy O (sd 2 G (Bk h λP Q h=>ed G (qI G BX Q (sd 1 G (Bk h λR S h=>ed G (qC (qa G (D2 (BR G (BR G G))) (qa G (D2 (BR G (BR G G))) A4)) (Pu S) (sd 6 G (Dh (qk [0,1,5,6,7] G (As λT U=>rn 1 G (EF h λV j W=>have X:∀{Y:List (List AV)}{Z:Bool},(Y,Z)=V->Jn T [(0,oL 30 BH Y),(1,nI c),(5,nI s),(7,.bool Z)]:=@λY Z h _ n=>have h:=W h;U _ (lh n G (rn 1 G (Ce h G (λh=>rn 1 G (sj (k (sj h)) ▸ Am ⟨.inl G,G,G⟩)) λh=>DZ (z h _ (Bb G)))));(Ba (λ(p:(List (List AV))×Bool×Int)=>match p with|(a,d,e)=>[(0,oL 30 BH a),(1,nI c),(5,nI s),(6,.box [nI R.1.1,nI R.1.2]),(7,.bool d),(8,nI e)]) _ _ _ _ j (Bb G) (λ_=>G) (λt=>pr3 λa d e u h v=>CU λm=>rs (sp 3 G (Bk h λf r h=>qI G Dy r (sp 4 G (Ew h (λw h=>qg 59 w G (AU 2 G (Ce h G (λh=>Cl m (CU λg=>A8 (rd (by kernel_rfl) (sd 3 G (Bk h λx y h=>ed G (qI G Dy y (sd 2 G (Bk h λA C h=>ed G (qI G BX C (sd 1 G (Bk h λD F h=>ed G (qC (qa G (D2 (BR G (BR G G))) (qa G (D2 (BR G (BR G G))) A4)) (Py F) (sd 6 G (Dh (rd (by kernel_rfl) (sd 2 G (Bk h λH B h=>ed G (qI G Dy B (sd 2 G (Bk h λI J h=>ed G (qI G BX J (sd 2 G (Bk h λK L h=>ed G (qC (qa G (D2 (BR G (BR G G))) (qa G (D2 (BR G (BR G G))) A4)) (TR L) (sd 6 G (Dh (qk [0,1,5,6,8,10,11,12] G (rk λM N=>have O:∀{P:Bool},Ka (Au (EE c s R) t) s a e K P=some V->Jn M [(0,oL 30 BH a),(1,nI c),(5,nI s),(6,.box [nI R.1.1,nI R.1.2]),(7,.bool P),(8,nI e),(11,.box [nI K.1.1,nI K.1.2])]:=@λP h _ n=>N _ (lh n G (qk [0,1,5,6,7,8,11] G (EM h λQ h=>Gf (gLs (q:=900004) (b:=0) G G G Q (λS k=>qk [0,1,5,6,7,8,11,900004] G (Bk h λp z h=>EM h λT h=>Gf (gLg (i:=s) (es:=1) 0 G G Dy z G G T (λU W=>qk [0,1,5,6,7,8,11,900003,900004] G (W9 (W9 (rgt 6 (by kernel_rfl) (sd 2 G (Bk h λY Z h=>ed G (qIt G G G G Z (ed G (qLh G G G G G G (gk (o:=0) Dy Z G) (sd 2 G (Dh (MA (Bk h λj u h=>qIt G G G G u (qSt (y0:=j) (i:=e) (es:=2) 0 K.1 [0,1,5,6,7,8,900004] G G G G G G G G G G BX u (λd=>Wl (M4 d)) (Wl (RE G (RE G XX))) (yc G (yc G (yc G (yc (V0 G (V0 G G)) (yc G (yc G (yc (sgh (Wl (dcf M3 _))) yn))))))) (Rw (gDg (i:=s) (es:=1) 0 (DJ p e K.1) G G Dy z G (sl G) G (gDs (q:=900004) (b:=0) G G G (sl G) (g _ (rg (AU 3 G (v _ _ h (Bb G)))))))))))))))))))))))))))));(sp 2 G (Ew h (λf h=>qg 89 f G (AU 3 G (O h _ (Bb G)))) λf h=>qg 89 f G (AU 3 G (O h _ (Bb G))))))))))))))))))))))))))))))))) λh=>AI (X (sj h) _ (Bb G))))) λw h=>qg 59 w G (AU 2 G (qF G G (AI (X (sj h) _ (Bb G)))))))))))))))))))))))))))))))))))))))))))))) λh=>AI (l (sj h) _ (Bb G)))))))
def Ju(a:List AV):List V:=[aL AO a]
theorem TS(a:List AV):(Ju a).length=1:=G
theorem dz(a:List AV):Mz (Ju a)=Df a:=(BR (V6 C7 _) G)
theorem WB(a:AV):D4 (AO a)=true:=(Zd G (Zd G G))
theorem XS(a:AV):JY (AO a)=AO a:=(aw G (aw G G))
theorem Zh(a:List AV):D4 (Df a)=true:=(Zd (Nx WB _) G)
theorem az(a:List AV):JY (Df a)=Ju a:=(aw (Ru XS _) G)
def LN(a:List (List AV))(b:List AV)(c:((List (List AV))×Int)->Option (Sum ((List (List AV))) (List AV×Bool)))(d:(List (List AV))×Int):Option (Sum ((List (List AV))) (List AV×Bool)):=match d with
  |(e,f)=>cond (decide (f < (List.length b:Int))) (Ab (AZ b f) λg=>Ab (Ci g) λi=>cond (!i) (some (.inr (([]:List AV),false))) (Ab (AZ a f) λj=>chk (List.length ([]:List AV)+List.length j<=lim) (Ab (AZ b f) λk=>chk (List.length (([]:List AV)++j)+List.length [k]<=lim) (chk (List.length e+List.length ([(([]:List AV)++j)++[k]])<=lim) (c ((e++([(([]:List AV)++j)++[k]])),(wZ (f+1)))))))) (some (.inl e))
def LR(a:List AV)(b:List (List AV))(c:Int)(d:Int->Option Int)(e:Int):Option Int:=cond (decide (e < (List.length a:Int))) (Ab (AZ b e) λf=>Ab (AZ f c) λg=>cond (g.1==0) (d (wZ (e+1))) (some e)) (some e)
def LQ(a:List AV)(b:((List (List AV))×Int)->Option (Sum ((List (List AV))) (List AV×Bool)))(c:(List (List AV))×Int):Option (Sum ((List (List AV))) (List AV×Bool)):=match c with
  |(d,e)=>cond (decide (e < (List.length a:Int))) (Ab (Au (LR a d e) fz e) λf=>cond (f==(List.length a:Int)) (some (.inr (([]:List AV),false))) (Ab (AZ (IH d) f) λg=>chk (0 < List.length (IH d)) (Ab (AZ (IH d) e) λi=>Ab (AZ (IH d) f) λj=>chk (0 < List.length (DJ (IH d) f i)) (Ab (AZ (DJ (IH d) f i) e) λk=>chk (YB (List.length d) (DJ (DJ (IH d) f i) e g) []=true) (chk (0 < List.length (HA d (DJ (DJ (IH d) f i) e g))) (Ab (Nn (HA d (DJ (DJ (IH d) f i) e g)) e) λl=>cond (!l.1) (some (.inr (([]:List AV),false))) (b (l.2,(wZ (e+1)))))))))) (some (.inl d))
def LT(a:List AV)(b:List (List AV))(c:(List AV×Int)->Option (Sum (List AV) (List AV×Bool)))(d:(List AV)×Int):Option (Sum (List AV) (List AV×Bool)):=match d with
  |(e,f)=>cond (decide (f < (List.length a:Int))) (Ab (AZ b f) λg=>Ab (AZ g (List.length a:Int)) λi=>Ab (AZ b f) λj=>Ab (AZ j f) λk=>Ab (Ji i k) λl=>cond (!l.2) (some (.inr (([]:List AV),false))) (chk (List.length e+List.length [l.1]<=lim) (c ((e++[l.1]),(wZ (f+1)))))) (some (.inl e))
def Hc(a:List (List AV))(b:List AV):Option (List AV×Bool):=cond (decide (6 < (List.length b:Int))) (some (([]:List AV),false)) (Ab (Gn a (List.length b:Int) (List.length b:Int)) λc=>cond (!c) (some (([]:List AV),false)) (Ab (Au (LN a b) fz (([]:List (List AV)),0)) λd=>(match d with
  |.inl e=>(Ab (Au (LQ b) fz (e,0)) λf=>(match f with
  |.inl g=>(Ab (Au (LT b g) fz (([]:List AV),0)) λi=>(match i with
  |.inl j=>(some (j,true))
  |.inr k=>some k))
  |.inr k=>some k))
  |.inr k=>some k)))
theorem Qc{a:List (List AV)}{c:List AV}{d:(List AV)×Bool}(h:Hc a c=some d):Bn 98 [dL Df a,dL AO c] (.tup [oL 32 AO d.1,.bool d.2]):=by
 refine sta zm G (SU (Nx Zh _) (SU (Nx WB _) G)) (mvv (Ru az _) (mvv (Ru XS _) G)) (RE (XU M4 32 _) (RE G XX)) (rn 2 G (CU λe=>rs (sp 3 G (Ew h (λg h=>qg 20 g G (AU 6 G (qT G G (rs (EW AO [] G G G BX (AU 2 G (sj h ▸ Am rZ))))))) λg h=>qg 20 g G (sp 3 G (Bk h λj k h=>FY G G (qC (qa G (V6 dz _) (qs G (qs G A4))) (Jq k) (AU 2 G (Ce h G (λh=>rs (EW AO [] G G G BX (AU 2 G (sj h ▸ Am rZ)))) λh=>Cl e (qk [0,1,6] G (rs (EW BH [] G G G Dy (AU 1 G (As λm n=>rn 1 G (EF h λo p r=>?_)))))))))))))))
 have s:∀{t:List (List AV)},(.inl t)=o->Jn m [(6,nI (List.length c:Int)),(7,oL 30 BH t)]:=by
  intro t h σ' u
  replace h:=r h
  refine n _ (lh u G (As λv w=>rn 1 G (EF h λx p y=>have z:∀{A:List (List AV)},(.inl A)=x->Jn v [(6,nI (List.length c:Int)),(7,oL 30 BH A)]:=@λA h _ u=>have h:=y h;w _ (lh u G (rs (EW AO [] G G G BX (AU 1 G (As λB C=>rn 1 G (EF h λD p F=>have H:∀{I:List AV},(.inl I)=D->Jn B [(12,oL 32 AO I)]:=@λI h _ u=>have h:=F h;C _ (lh u G (rn 1 G (sj h ▸ Am rZ)));(Ba (λ(J:(List AV)×Int)=>match J with|(K,L)=>[(6,nI (List.length c:Int)),(7,oL 30 BH A),(12,oL 32 AO K),(13,nI L)]) _ _ _ _ p (Bb G) (λ_=>G) (λM=>Kk λK L N h O=>Fu G λP=>Ce h G (λh=>Cl P (CU λQ=>A8 (rd (by kernel_rfl) (sd 2 G (Bk h λR S h=>ed G (qI G Dy S (sd 2 G (Bk h λT U h=>ed G (qI G BX U (sd 3 G (Bk h λV W h=>ed G (qI G Dy W (sd 2 G (Bk h λX Y h=>ed G (qI G BX Y (sd 1 G (Bk h λZ d h=>ed G (qC (qa G (D2 (BR G (BR G G))) (qa G (D2 (BR G (BR G G))) A4)) (Pu d) (sd 6 G (Dh (Fu G λg=>qk [6,7,12,13,14,127] G (Ce h G (λh=>rs (EW AO [] G G G BX (AU 2 G (sj (F (sj h)) ▸ Am rZ)))) λh=>Cl g (rg (sp 2 G (EW AO [Z.1] G G G BX (EM h λj h=>qA AO K [Z.1] G G (Bh BX [Z.1]) G j (AU 1 G (Q _ (rg (AU 3 G (O _ _ h (Bb G)))))))))))))))))))))))))))))))) λh=>AI (H (sj h) _ (Bb G))))))))));?_)))
  exact Ba (λ(J:(List (List AV))×Int)=>match J with|(e,k)=>[(6,nI (List.length c:Int)),(7,oL 30 BH e),(9,nI k)]) _ _ _ _ p (Bb G) (λ_=>G) (λM=>Kk λe k N h O=>Fu G λm=>Ce h G (λh=>Cl m (CU λo=>A8 (rn 1 G (As λt n=>EF h λv p w=>have x:∀{B:Int},B=v->Jn t [(6,nI (List.length c:Int)),(7,oL 30 BH e),(9,nI k),(10,nI B)]:=@λB h _ u=>have h:=w h;n _ (lh u G (Fu G λC=>Ce h G (λh=>rs (EW AO [] G G G BX (AU 2 G (sj (y (sj h)) ▸ Am rZ)))) λh=>Cl C (qk [6,7,9,10] G (SA (f:=BH) (s:=7) (q:=900001) G G (by decide) (SQ (λ_=>G)) (λ_=>G) (λ_=>G) (λD I A L=>kp [(6,nI (List.length c:Int)),(7,oL 30 (pE BH D) (BW 0 e)),(9,nI k),(10,nI B),(900001,.gh I (List.map (λP=>E0 (BH P)) e))] G G (Gf (gWl (s:=7) G (λ_=>G) (MA (kp [(6,nI (List.length c:Int)),(7,oL 30 (tE D) (IH e)),(9,nI k),(10,nI B),(900001,.gh I (List.map (λP=>E0 (BH P)) e))] G G (rs (sp 2 G (Bk h λR S h=>qI G ztE S (AU 2 G (qk [6,7,9,10,11,900001] G (EM h λT h=>Gf (gLs (q:=900003) (b:=7) G G G T (λU V=>qk [6,7,9,10,11,900001,900003] G (rs (sp 4 G (Bk h λW X h=>qIt G G G G X (qLe (i:=k) (es:=1) (q:=900003) 0 G G G G G G ztE X G G (Bk h λY d h=>qIt G G G G d (qSt (y0:=Y) (i:=B) (es:=1) 0 W [6,7,9,11,900001] G G G G G G G G G G ztE d (λ_=>G) G (yc G (yc G (yc G (yc G (yc (jH (λ_=>G) (λP=>Wl (M3 P)) _) yn))))) (Rw (Gf (gDs (q:=900003) (b:=7) G G G (sl G) (qk [6,7,9,11,900001] G (qk [6,7,9,11,900001] G (EM h λF h=>Gf (gLs (q:=900003) (b:=7) G G G F (λg H=>qk [6,7,9,11,900001,900003] G (rs (sp 3 G (Bk h λK Q h=>qIt G G G G Q (qSt (y0:=K) (i:=k) (es:=1) 0 R [6,7,9,900001] G G G G G G G G G G ztE Q (λ_=>G) G (yc G (yc G (yc G (yc (jH (λ_=>G) (λP=>Wl (M3 P)) _) yn)))) (Rw (Gf (gDs (q:=900003) (b:=7) G G G (sl G) (qk [6,7,9,900001] G (qk [6,7,9,900001] G (EM h λZ h=>Gf (gTj (f:=BH) (l:=e) (s:=7) (q:=900001) G G G (λ_=>G) L Z (MA (kp [(6,nI (List.length c:Int)),(7,oL 30 BH (HA e (DJ (DJ (IH e) B W) k R))),(9,nI k)] G G (qk [6,7,9] G (EM h λj h=>Gf (gLs (q:=900003) (b:=7) G G G j (λm u=>qk [6,7,9,900003] G (rs (sp 2 G (Bk h λt n h=>qZ [6,7,9,98] [] [.tmp 97] G G G G G A4 (qs G A4) (RE (XU M3 30 _) XX) (XC n) G (yc G (yc G (yc G (yc G yn)))) (AU 1 G (Gf (gDs (q:=900003) (b:=7) G G G G (qk [6,7,9,100] G (Ce h G (λh=>rs (EW AO [] G G G BX (AU 2 G (sj (y (sj h)) ▸ Am rZ)))) λh=>Cl o (rg (AU 3 G (O _ _ h (Bb G))))))))))))))))))))))))))))))))))))))))))))))))))))))))))));(Ba (λ(v:Int)=>[(6,nI (List.length c:Int)),(7,oL 30 BH e),(9,nI k),(10,nI v)]) _ _ _ _ p (Bb G) (λ_=>G) (λM v N h O=>CU λw=>rs (sp 4 G (Ew h (λC h=>qg 65 C G (sp 2 G (Bk h λA D h=>FY G G (qI G Dy D (sp 2 G (Bk h λI S h=>FY G G (qI G BX S (AU 4 G (Ce h G (λh=>Cl w (A8 (rg (AU 3 G (O _ _ h (Bb G)))))) λh=>AI (x (sj h) _ (Bb G))))))))))) λC h=>qg 65 C G (AU 10 G (qF G G (AI (x (sj h) _ (Bb G))))))))))))) λh=>AI (z (sj h) _ (Bb G)))
 exact Ba (λ(J:(List (List AV))×Int)=>match J with|(T,U)=>[(0,aL Ju a),(1,aL AO c),(6,nI (List.length c:Int)),(7,oL 30 BH T),(8,nI U)]) _ _ _ _ p (Bb G) (λ_=>G) (λM=>Kk λT U N h O=>Fu G λV=>Ce h G (λh=>Cl V (CU λX=>A8 (CU λY=>rs (sp 2 G (Bk h λd F h=>qI G BX F (sp 1 G (Bk h λg H h=>qC (qa G (D2 (BR G (BR G G))) A4) (Cs H) (AU 1 G (Ce h G (λh=>rs (EW AO [] G G G BX (AU 2 G (sj (r (sj h)) ▸ Am rZ)))) λh=>Cl Y (rgd (by kernel_rfl) (sd 1 G (ed G (EW AO [] G G G BX (sd 2 G (Bk h λP K h=>ed G (qI G TS K (sd 1 G (EM h λQ h=>ed G (qA AO ([]:List AV) P G G (Bh BX P) (Nf (λ_=>G) _) Q (sd 2 G (Bk h λB L h=>ed G (qI G BX L (sd 1 G (ed G (EW AO [B] G G G BX (EM h λR h=>ed G (qA AO (([]:List AV)++P) [B] G G (Bh BX [B]) G R (ed G (EW BH [(([]:List AV)++P)++[B]] G G G Dy (EM h λW h=>ed G (qA BH T ([(([]:List AV)++P)++[B]]) G G (Bh Dy ([(([]:List AV)++P)++[B]])) G W (sd 1 G (Dh (X _ (qk [0,1,6,7,8] G (rg (AU 3 G (O _ _ h (Bb G))))))))))))))))))))))))))))))))))))))) λh=>AI (s (sj h) _ (Bb G)))
def FT(a:AV)(b:AV):Option Int:=Ab (Ci a) λc=>cond (!c) (some 0) (Ab (Ci b) λd=>cond (!d) (some 0) (cond (decide ((wZ (a.1 * b.2)) < (wZ (b.1 * a.2)))) (some (-1)) (cond (decide ((wZ (b.1 * a.2)) < (wZ (a.1 * b.2)))) (some 1) (some 0))))
theorem MV{a:AV}{b:AV}{c:Int}(h:FT a b=some c):Bn 80 [.agg (AO a),.agg (AO b)] (nI c):=st yR G (rn 1 G (CU λd=>rs (sp 1 G (Bk h λe f h=>qC (qa G (D2 (BR G (BR G G))) A4) (Cs f) (sp 2 G (Ew h (λg h=>qg 10 g G (AU 4 G (qT G G (rn 1 G (sj h ▸ Am rZ))))) λg h=>qg 10 g G (sp 1 G (Bk h λi j h=>FY G G (qC (qa G (D2 (BR G (BR G G))) A4) (Cs j) (AU 2 G (Ce h G (λh=>rn 1 G (sj h ▸ Am rZ)) λh=>Cl d (rn 1 G (qk [2,3,5] G (rn 1 G (Fu G λk=>Ce h G (λh=>rn 1 G (sj h ▸ Am rZ)) λh=>Cl k (Fu G λl=>Ce h G (λh=>rn 1 G (sj h ▸ Am rZ)) λh=>Cl l (rn 1 G (qk [4] G (sj h ▸ Am rZ)))))))))))))))))))
def Pv(a:List AV)(b:List AV)(c:(Int×Int×Int)->Option (Sum (Int×Int) (AV×Bool)))(d:Int×Int×Int):Option (Sum (Int×Int) (AV×Bool)):=match d with
  |(e,f,g)=>cond (decide (g < (List.length a:Int))) (Ab (AZ a g) λi=>Ab (AZ b g) λj=>Ab (Jm i j) λk=>cond (!k.2) (some (.inr ((0,0),false))) (Ab (Jg (e,f) k.1) λl=>cond (!l.2) (some (.inr ((0,0),false))) (c (l.1.1,l.1.2,(wZ (g+1)))))) (some (.inl (e,f)))
def J8(a:List AV)(b:List AV):Option (AV×Bool):=cond ((List.length a:Int)!=(List.length b:Int)) (some ((0,0),false)) (Ab (Au (Pv a b) fz (0,1,0)) λc=>(match c with
  |.inl (d,e)=>(some ((d,e),true))
  |.inr f=>some f))
theorem PX{a:List AV}{b:List AV}{c:AV×Bool}(h:J8 a b=some c):Bn 79 [dL AO a,dL AO b] (.tup [.agg (AO c.1),.bool c.2]):=st yQ G (rn 1 G (Fu G λd=>Ce h G (λh=>rn 1 G (sj h ▸ Am rZ)) λh=>Cl d (rn 1 G (As λe f=>rn 1 G (EF h λg i j=>have k:∀{l:Int}{m:Int},(.inl (l,m))=g->Jn e [(4,.box [nI 0,nI 0]),(6,.box [nI l,nI m])]:=@λl m h _ n=>have h:=j h;f _ (lh n G (rn 1 G (sj h ▸ Am rZ)));(Ba (λ(o:Int×Int×Int)=>match o with|(p,q,r)=>[(0,dL AO a),(1,dL AO b),(4,.box [nI 0,nI 0]),(6,.box [nI p,nI q]),(7,nI r)]) _ _ _ _ i (Bb G) (λ_=>G) (λs=>pr3 λp q r t h u=>Fu G λv=>Ce h G (λh=>Cl v (CU λw=>A8 (rd (by kernel_rfl) (sd 2 G (Bk h λx y h=>ed G (qI G BX y (sd 3 G (Bk h λz A h=>ed G (qI G BX A (sd 1 G (Bk h λB C h=>ed G (qC (qa G (D2 (BR G (BR G G))) (qa G (D2 (BR G (BR G G))) A4)) (Py C) (sd 6 G (Dh (Fu G λD=>Ce h G (λh=>rn 1 G (qk [4,5] G (sj (j (sj h)) ▸ Am rZ))) λh=>Cl D (rs (sp 2 G (Bk h λF H h=>qC (qa G (D2 (BR G (BR G G))) (qa G (D2 (BR G (BR G G))) A4)) (Pt H) (AU 5 G (rn 1 G (Ce h G (λh=>rn 1 G (sj (j (sj h)) ▸ Am rZ)) λh=>Cl w (rg (AU 3 G (u _ _ h (Bb G))))))))))))))))))))))))) λh=>AI (k (sj h) _ (Bb G)))))))))
def KJ(a:List (List AV))(b:List AV)(c:(List AV×Int)->Option (Sum (List AV) (List AV×Bool)))(d:(List AV)×Int):Option (Sum (List AV) (List AV×Bool)):=match d with
  |(e,f)=>cond (decide (f < (List.length a:Int))) (Ab (AZ a f) λg=>Ab (J8 g b) λi=>cond (!i.2) (some (.inr (([]:List AV),false))) (chk (List.length e+List.length [i.1]<=lim) (c ((e++[i.1]),(wZ (f+1)))))) (some (.inl e))
def F6(a:List (List AV))(b:List AV):Option (List AV×Bool):=Ab (Au (KJ a b) fz (([]:List AV),0)) λc=>(match c with
  |.inl d=>(some (d,true))
  |.inr e=>some e)
theorem Px{a:List (List AV)}{b:List AV}{c:(List AV)×Bool}(h:F6 a b=some c):Bn 122 [dL Df a,dL AO b] (.tup [oL 32 AO c.1,.bool c.2]):=st ur G (rn 1 G (rs (EW AO [] G G G BX (AU 1 G (As λd e=>rn 1 G (EF h λf g i=>have j:∀{k:List AV},(.inl k)=f->Jn d [(6,oL 32 AO k)]:=@λk h _ l=>have h:=i h;e _ (lh l G (rn 1 G (sj h ▸ Am rZ)));(Ba (λ(m:(List AV)×Int)=>match m with|(n,o)=>[(0,dL Df a),(1,dL AO b),(6,oL 32 AO n),(7,nI o)]) _ _ _ _ g (Bb G) (λ_=>G) (λp=>Kk λn o q h r=>Fu G λs=>Ce h G (λh=>Cl s (CU λt=>A8 (rs (sp 2 G (Bk h λu v h=>qI G Mc v (sp 2 G (Bk h λw x h=>qC (qa G (CM C7 _) (qa G (CM C7 _) A4)) (PX x) (AU 6 G (Fu G λy=>Ce h G (λh=>rs (EW AO [] G G G BX (AU 2 G (sj (i (sj h)) ▸ Am rZ)))) λh=>Cl y (rg (sp 2 G (EW AO [w.1] G G G BX (EM h λz h=>qA AO n [w.1] G G (Bh BX [w.1]) G z (AU 1 G (t _ (qk [0,1,6,7] G (rg (AU 3 G (r _ _ h (Bb G)))))))))))))))))))) λh=>AI (j (sj h) _ (Bb G))))))))))
end Go.Proofs.YthghcmmlmfgkbaaGreatDoor
