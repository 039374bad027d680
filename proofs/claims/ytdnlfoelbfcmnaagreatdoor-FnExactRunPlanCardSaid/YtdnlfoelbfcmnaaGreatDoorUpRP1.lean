/- The functions' code. No conditions. -/
import Derived.Test.YtdnlfoelbfcmnaaGreatDoorTb
import Derived.Test.YtdnlfoelbfcmnaaGreatDoorKb
import Derived.Test.YtdnlfoelbfcmnaaGreatDoorKd
import Derived.Test.YtdnlfoelbfcmnaaGreatDoorKc
open Go.RowKit
set_option linter.all false
namespace Go.Proofs.YtdnlfoelbfcmnaaGreatDoor
set_option maxRecDepth 100000
def AkN:BW 4 [2] [] [] Tryz.f4:=Br Tryz.func4
def AkO:BW 5 [2] [] [] Tryz.f5:=Br Tryz.func5
def AkP:BW 6 [2] [] [] Tryz.f6:=Br Tryz.func6
def AkQ:BW 7 [3,4,5,6,8] [] [(8,[34]),(10,[44]),(6,[24]),(11,[52])] Tryz.f7:=Br Tryz.func7
def AkR:BW 8 [1,2,3] [] [(3,[8])] Tryz.f8:=Br Tryz.func8
def AkS:BW 9 [1,2,3] [] [(5,[15])] Tryz.f9:=Br Tryz.func9
def AhY:BW 10 [1,2,3] [] [(6,[19])] Tryz.f10:=Br Tryz.func10
def AhZ:BW 11 [3,4,5,6] [] [] Tryz.f11:=Br Tryz.func11
def Ah0:BW 12 [2,3] [] [] Tryz.f12:=Br Tryz.func12
def Ah1:BW 13 [2,3] [] [] Tryz.f13:=Br Tryz.func13
def Ah2:BW 14 [2,3] [] [] Tryz.f14:=Br Tryz.func14
def Ah3:BW 15 [2,3] [] [] Tryz.f15:=Br Tryz.func15
def c16:LC:=
  (.seq (.rgn [] [LL 2 (.box 45 (.tmp 0)) 0,
 LL 4 (.assign (.const (.int .i64 0))) 3])
 (.seq (.rgn [] [LL 5 (.fieldAddr 45 (.tmp 2) 0) 0,
 LL 6 (.load 43<|.tmp 5) 43,
 LL 7 (.move<|.tmp 1) 3,
 LL 8 (.call {callee:=(.value<|.func 45),args:= #[(.tmp 6),(.tmp 7)],argTypes:= #[43,3]}) 3,
 LL 1 (.assign (.tmp 8)) 3])
 (.seq (.rgn [] [LL 9 (.move (.tmp 1)) 3,
 LL 4 (.assign (.tmp 9)) 3])
 .ret)))
def Abk:Lit Tryz.prog 16 10 [2] [.tmp 4] c16:=⟨⟨Tryz.f16,_,Tryz.func16,rfl,by kernel_rfl,rfl,rfl,by kernel_rfl,by kernel_rfl⟩,by decide,by kernel_rfl⟩
def c17:LC:=
  (.seq (.rgn [] [LL 2 (.box 49 (.tmp 0)) 0,
 LL 4 (.assign (.const (.int .i64 0))) 3])
 (.seq (.rgn [] [LL 5 (.fieldAddr 49 (.tmp 2) 1) 0,
 LL 6 (.load 47<|.tmp 5) 47,
 LL 7 (.move<|.tmp 1) 3,
 LL 8 (.call {callee:=(.value<|.func 46),args:= #[(.tmp 6),(.tmp 7)],argTypes:= #[47,3]}) 3,
 LL 1 (.assign (.tmp 8)) 3])
 (.seq (.rgn [] [LL 9 (.fieldAddr 49 (.tmp 2) 2) 0,
 LL 10 (.load 26<|.tmp 9) 26,
 LL 11 (.move<|.tmp 1) 3,
 LL 12 (.call {callee:=(.value<|.func 47),args:= #[(.tmp 10),(.tmp 11)],argTypes:= #[26,3]}) 3,
 LL 1 (.assign (.tmp 12)) 3])
 (.seq (.rgn [] [LL 13 (.move (.tmp 1)) 3,
 LL 4 (.assign (.tmp 13)) 3])
 .ret))))
def Abl:Lit Tryz.prog 17 14 [2] [.tmp 4] c17:=⟨⟨Tryz.f17,_,Tryz.func17,rfl,by kernel_rfl,rfl,rfl,by kernel_rfl,by kernel_rfl⟩,by decide,by kernel_rfl⟩
def c18:LC:=
  (.seq (.rgn [] [LL 2 (.box 54 (.tmp 0)) 0,
 LL 4 (.assign (.const (.int .i64 0))) 3])
 (.seq (.rgn [] [LL 5 (.fieldAddr 54 (.tmp 2) 1) 0,
 LL 6 (.load 26<|.tmp 5) 26,
 LL 7 (.move<|.tmp 1) 3,
 LL 8 (.call {callee:=(.value<|.func 47),args:= #[(.tmp 6),(.tmp 7)],argTypes:= #[26,3]}) 3,
 LL 1 (.assign (.tmp 8)) 3])
 (.seq (.rgn [] [LL 9 (.fieldAddr 54 (.tmp 2) 2) 0,
 LL 10 (.load 51<|.tmp 9) 51,
 LL 11 (.move<|.tmp 1) 3,
 LL 12 (.call {callee:=(.value<|.func 48),args:= #[(.tmp 10),(.tmp 11)],argTypes:= #[51,3]}) 3,
 LL 1 (.assign (.tmp 12)) 3])
 (.seq (.rgn [] [LL 13 (.fieldAddr 54 (.tmp 2) 3) 0,
 LL 14 (.load 52<|.tmp 13) 52,
 LL 15 (.move<|.tmp 1) 3,
 LL 16 (.call {callee:=(.value<|.func 49),args:= #[(.tmp 14),(.tmp 15)],argTypes:= #[52,3]}) 3,
 LL 1 (.assign (.tmp 16)) 3])
 (.seq (.rgn [] [LL 17 (.move (.tmp 1)) 3,
 LL 4 (.assign (.tmp 17)) 3])
 .ret)))))
def Abm:Lit Tryz.prog 18 18 [2] [.tmp 4] c18:=⟨⟨Tryz.f18,_,Tryz.func18,rfl,by kernel_rfl,rfl,rfl,by kernel_rfl,by kernel_rfl⟩,by decide,by kernel_rfl⟩
def c19:LC:=
  (.seq (.rgn [] [LL 2 (.box 40 (.tmp 0)) 0,
 LL 4 (.assign (.const (.int .i64 0))) 3])
 (.seq (.rgn [] [LL 5 (.fieldAddr 40 (.tmp 2) 1) 0,
 LL 6 (.load 31<|.tmp 5) 31,
 LL 7 (.move<|.tmp 1) 3,
 LL 8 (.call {callee:=(.value<|.func 50),args:= #[(.tmp 6),(.tmp 7)],argTypes:= #[31,3]}) 3,
 LL 1 (.assign (.tmp 8)) 3])
 (.seq (.rgn [] [LL 9 (.move (.tmp 1)) 3,
 LL 4 (.assign (.tmp 9)) 3])
 .ret)))
def Abn:Lit Tryz.prog 19 10 [2] [.tmp 4] c19:=⟨⟨Tryz.f19,_,Tryz.func19,rfl,by kernel_rfl,rfl,rfl,by kernel_rfl,by kernel_rfl⟩,by decide,by kernel_rfl⟩
def Ah4:BW 20 [2] [] [] Tryz.f20:=Br Tryz.func20
def Ah5:BW 21 [] [] [] Tryz.f21:=Br Tryz.func21
def Ah6:BW 22 [] [] [] Tryz.f22:=Br Tryz.func22
def Ah7:BW 23 [] [] [] Tryz.f23:=Br Tryz.func23
def Ah8:BW 24 [2] [] [] Tryz.f24:=Br Tryz.func24
def Ah9:BW 25 [2] [] [] Tryz.f25:=Br Tryz.func25
def Aia:BW 26 [2,3] [] [] Tryz.f26:=Br Tryz.func26
def Aib:BW 27 [2,3,6] [(17,3),(29,6),(31,3)] [(4,[15])] Tryz.f27:=Br Tryz.func27
def Aic:BW 28 [3,4,5,6,12,14] [(39,5),(63,5),(80,4),(62,900003),(62,900004),(72,900003),(72,900004)] [(1,[16]),(8,[37]),(11,[71]),(12,[73]),(13,[85])] Tryz.f28:=Br Tryz.func28
def Aid:BW 29 [3,4,5,6,10,14,16] [(44,5),(53,5),(83,5),(107,5),(124,4),(43,900003),(43,900004),(52,900003),(52,900004),(61,900003),(61,900004),(63,900003),(63,900004),(68,900003),(68,900004),(73,900003),(73,900004),(106,900003),(106,900004),(116,900003),(116,900004)] [(1,[18]),(9,[42,62,69,1500062,1500069]),(13,[81]),(16,[115]),(17,[117]),(18,[129])] Tryz.f29:=Br Tryz.func29
def Aie:BW 30 [3,4,6,8,13] [] [(1,[15]),(8,[34]),(9,[44]),(10,[50])] Tryz.f30:=Br Tryz.func30
def Aif:BW 31 [3,7] [] [(1,[3,7]),(6,[22])] Tryz.f31:=Br Tryz.func31
def Aig:BW 32 [3,7] [] [(1,[3,7]),(6,[22])] Tryz.f32:=Br Tryz.func32
def Aih:BW 33 [3,7] [] [(1,[3,7]),(6,[21])] Tryz.f33:=Br Tryz.func33
def Aii:BW 34 [1,2,3] [] [(3,[8])] Tryz.f34:=Br Tryz.func34
def Aij:BW 35 [1,2,3] [] [(4,[12])] Tryz.f35:=Br Tryz.func35
def Aik:BW 36 [3,4,5,6,14] [(68,4)] [(1,[16]),(10,[41]),(13,[58])] Tryz.f36:=Br Tryz.func36
def Ail:BW 37 [3,4,5,6,10,20] [(109,4),(52,900003),(52,900004),(54,900003),(54,900004),(56,900003),(56,900004),(58,900003),(58,900004),(60,900003),(60,900004),(65,900003),(65,900004)] [(1,[22]),(12,[51,57,61,1500057,1500061]),(21,[82]),(24,[99])] Tryz.f37:=Br Tryz.func37
def Aim:BW 38 [3,4,6,8] [] [(1,[11])] Tryz.f38:=Br Tryz.func38
def Aio:BW 39 [] [] [] Tryz.f39:=Br Tryz.func39
def Aip:BW 40 [] [] [] Tryz.f40:=Br Tryz.func40
def Aiq:BW 41 [] [] [] Tryz.f41:=Br Tryz.func41
def Air:BW 42 [] [] [] Tryz.f42:=Br Tryz.func42
def Ais:BW 43 [2,3] [] [] Tryz.f43:=Br Tryz.func43
def Ait:BW 44 [2,3] [] [] Tryz.f44:=Br Tryz.func44
def c45:LC:=
  (.seq (.rgn [] [LL 4 (.assign (.const (.int .i64 0))) 3])
 (.seq (.seq (.rgn [] [LL 5 (.assign (.const (.int .i64 0))) 3])
 (.blk 0
 (.loop []
 (.seq (.seq (.rgn [] [LL 6 (.move (.tmp 5)) 3,
 LL 7 (.move<|.tmp 0) 43,
 LL 8 (.call {callee:=(.builtin .len),args:= #[(.tmp 7)],argTypes:= #[43]}) 3,
 LL 9 (.binOp .lss 3 (.tmp 6) (.tmp 8) 3) 4])
 (.cond (.tmp 9)
 .skip
 (.exit 0)))
 (.seq (.blk 1
 (.seq (.rgn [] [LL 12 (.move (.tmp 0)) 43,
 LL 13 (.move<|.tmp 5) 3,
 LL 14 (.move<|.tmp 1) 3,
 LL 15 (.call {callee:=(.value<|.func 85),args:= #[(.tmp 14)],argTypes:= #[3]}) 9,
 LL 16 (.indexAddr 43 (.tmp 12)<|.tmp 13) 0,
 LL 17 (.fieldAddr 119 (.tmp 16) 0) 0,
 ⟨none,(.store 9 (.tmp 17) (.tmp 15)),0,none⟩])
 (.seq (.rgn [] [LL 18 (.move (.tmp 1)) 3,
 LL 19 (.binOp .add 3 (.tmp 18) (.const<|.int .i64 1) 3) 3,
 LL 1 (.assign (.tmp 19)) 3])
 (.seq (.rgn [] [LL 20 (.move (.tmp 0)) 43,
 LL 21 (.move<|.tmp 5) 3,
 LL 22 (.move<|.tmp 1) 3,
 LL 23 (.indexAddr 43 (.tmp 20)<|.tmp 21) 0,
 LL 24 (.fieldAddr 119 (.tmp 23) 1) 0,
 LL 25 (.fieldAddr 40 (.tmp 24) 0) 0,
 ⟨none,(.store 3 (.tmp 25) (.tmp 22)),0,none⟩])
 (.seq (.rgn [] [LL 26 (.move (.tmp 1)) 3,
 LL 27 (.binOp .add 3 (.tmp 26) (.const<|.int .i64 1) 3) 3,
 LL 1 (.assign (.tmp 27)) 3])
 (.rgn [] [LL 28 (.move (.tmp 0)) 43,
 LL 29 (.move<|.tmp 5) 3,
 LL 30 (.indexAddr 43 (.tmp 28)<|.tmp 29) 0,
 LL 31 (.fieldAddr 119 (.tmp 30) 1) 0,
 LL 32 (.fieldAddr 40 (.tmp 31) 1) 0,
 LL 33 (.load 31<|.tmp 32) 31,
 LL 34 (.move<|.tmp 1) 3,
 LL 35 (.call {callee:=(.value<|.func 50),args:= #[(.tmp 33),(.tmp 34)],argTypes:= #[31,3]}) 3,
 LL 1 (.assign (.tmp 35)) 3]))))))
 (.rgn [] [LL 10 (.move (.tmp 5)) 3,
 LL 11 (.binOp .add 3 (.tmp 10) (.const<|.int .i64 1) 3) 3,
 LL 5 (.assign (.tmp 11)) 3]))))))
 (.seq (.rgn [] [LL 36 (.move (.tmp 1)) 3,
 LL 4 (.assign (.tmp 36)) 3])
 .ret)))
def Abp:Lit Tryz.prog 45 37 [] [.tmp 4] c45:=⟨⟨Tryz.f45,_,Tryz.func45,rfl,by kernel_rfl,rfl,rfl,by kernel_rfl,by kernel_rfl⟩,by decide,by kernel_rfl⟩
def c46:LC:=
  (.seq (.rgn [] [LL 4 (.assign (.const (.int .i64 0))) 3])
 (.seq (.seq (.rgn [] [LL 5 (.assign (.const (.int .i64 0))) 3])
 (.blk 0
 (.loop []
 (.seq (.seq (.rgn [] [LL 6 (.move (.tmp 5)) 3,
 LL 7 (.move<|.tmp 0) 47,
 LL 8 (.call {callee:=(.builtin .len),args:= #[(.tmp 7)],argTypes:= #[47]}) 3,
 LL 9 (.binOp .lss 3 (.tmp 6) (.tmp 8) 3) 4])
 (.cond (.tmp 9)
 .skip
 (.exit 0)))
 (.seq (.blk 1
 (.seq (.rgn [] [LL 12 (.move (.tmp 0)) 47,
 LL 13 (.move<|.tmp 5) 3,
 LL 14 (.move<|.tmp 1) 3,
 LL 15 (.call {callee:=(.value<|.func 85),args:= #[(.tmp 14)],argTypes:= #[3]}) 9,
 LL 16 (.indexAddr 47 (.tmp 12)<|.tmp 13) 0,
 LL 17 (.fieldAddr 102 (.tmp 16) 0) 0,
 ⟨none,(.store 9 (.tmp 17) (.tmp 15)),0,none⟩])
 (.seq (.rgn [] [LL 18 (.move (.tmp 1)) 3,
 LL 19 (.binOp .add 3 (.tmp 18) (.const<|.int .i64 1) 3) 3,
 LL 1 (.assign (.tmp 19)) 3])
 (.rgn [] [LL 20 (.move (.tmp 0)) 47,
 LL 21 (.move<|.tmp 5) 3,
 LL 22 (.indexAddr 47 (.tmp 20)<|.tmp 21) 0,
 LL 23 (.fieldAddr 102 (.tmp 22) 1) 0,
 LL 24 (.load 26<|.tmp 23) 26,
 LL 25 (.move<|.tmp 1) 3,
 LL 26 (.call {callee:=(.value<|.func 47),args:= #[(.tmp 24),(.tmp 25)],argTypes:= #[26,3]}) 3,
 LL 1 (.assign (.tmp 26)) 3]))))
 (.rgn [] [LL 10 (.move (.tmp 5)) 3,
 LL 11 (.binOp .add 3 (.tmp 10) (.const<|.int .i64 1) 3) 3,
 LL 5 (.assign (.tmp 11)) 3]))))))
 (.seq (.rgn [] [LL 27 (.move (.tmp 1)) 3,
 LL 4 (.assign (.tmp 27)) 3])
 .ret)))
def Abq:Lit Tryz.prog 46 28 [] [.tmp 4] c46:=⟨⟨Tryz.f46,_,Tryz.func46,rfl,by kernel_rfl,rfl,rfl,by kernel_rfl,by kernel_rfl⟩,by decide,by kernel_rfl⟩
def c47:LC:=
  (.seq (.rgn [] [LL 4 (.assign (.const (.int .i64 0))) 3])
 (.seq (.seq (.rgn [] [LL 5 (.assign (.const (.int .i64 0))) 3])
 (.blk 0
 (.loop []
 (.seq (.seq (.rgn [] [LL 6 (.move (.tmp 5)) 3,
 LL 7 (.move<|.tmp 0) 26,
 LL 8 (.call {callee:=(.builtin .len),args:= #[(.tmp 7)],argTypes:= #[26]}) 3,
 LL 9 (.binOp .lss 3 (.tmp 6) (.tmp 8) 3) 4])
 (.cond (.tmp 9)
 .skip
 (.exit 0)))
 (.seq (.blk 1
 (.seq (.rgn [] [LL 12 (.move (.tmp 0)) 26,
 LL 13 (.move<|.tmp 5) 3,
 LL 14 (.move<|.tmp 1) 3,
 LL 15 (.indexAddr 26 (.tmp 12)<|.tmp 13) 0,
 ⟨none,(.store 3 (.tmp 15) (.tmp 14)),0,none⟩])
 (.rgn [] [LL 16 (.move (.tmp 1)) 3,
 LL 17 (.binOp .add 3 (.tmp 16) (.const<|.int .i64 1) 3) 3,
 LL 1 (.assign (.tmp 17)) 3])))
 (.rgn [] [LL 10 (.move (.tmp 5)) 3,
 LL 11 (.binOp .add 3 (.tmp 10) (.const<|.int .i64 1) 3) 3,
 LL 5 (.assign (.tmp 11)) 3]))))))
 (.seq (.rgn [] [LL 18 (.move (.tmp 1)) 3,
 LL 4 (.assign (.tmp 18)) 3])
 .ret)))
def eE:Lit Tryz.prog 47 19 [] [.tmp 4] c47:=⟨⟨Tryz.f47,_,Tryz.func47,rfl,by kernel_rfl,rfl,rfl,by kernel_rfl,by kernel_rfl⟩,by decide,by kernel_rfl⟩
def c48:LC:=
  (.seq (.rgn [] [LL 2 (.box 51 (.tmp 0)) 0,
 LL 4 (.assign (.const (.int .i64 0))) 3])
 (.seq (.rgn [] [LL 5 (.fieldAddr 51 (.tmp 2) 0) 0,
 LL 6 (.load 26<|.tmp 5) 26,
 LL 7 (.move<|.tmp 1) 3,
 LL 8 (.call {callee:=(.value<|.func 47),args:= #[(.tmp 6),(.tmp 7)],argTypes:= #[26,3]}) 3,
 LL 1 (.assign (.tmp 8)) 3])
 (.seq (.rgn [] [LL 9 (.move (.tmp 1)) 3,
 LL 4 (.assign (.tmp 9)) 3])
 .ret)))
def vF:Lit Tryz.prog 48 10 [2] [.tmp 4] c48:=⟨⟨Tryz.f48,_,Tryz.func48,rfl,by kernel_rfl,rfl,rfl,by kernel_rfl,by kernel_rfl⟩,by decide,by kernel_rfl⟩
def c49:LC:=
  (.seq (.rgn [] [LL 2 (.box 52 (.tmp 0)) 0,
 LL 4 (.assign (.const (.int .i64 0))) 3])
 (.seq (.rgn [] [LL 5 (.fieldAddr 52 (.tmp 2) 0) 0,
 LL 6 (.load 31<|.tmp 5) 31,
 LL 7 (.move<|.tmp 1) 3,
 LL 8 (.call {callee:=(.value<|.func 50),args:= #[(.tmp 6),(.tmp 7)],argTypes:= #[31,3]}) 3,
 LL 1 (.assign (.tmp 8)) 3])
 (.seq (.rgn [] [LL 9 (.fieldAddr 52 (.tmp 2) 1) 0,
 LL 10 (.load 26<|.tmp 9) 26,
 LL 11 (.move<|.tmp 1) 3,
 LL 12 (.call {callee:=(.value<|.func 47),args:= #[(.tmp 10),(.tmp 11)],argTypes:= #[26,3]}) 3,
 LL 1 (.assign (.tmp 12)) 3])
 (.seq (.rgn [] [LL 13 (.move (.tmp 1)) 3,
 LL 4 (.assign (.tmp 13)) 3])
 .ret))))
def vG:Lit Tryz.prog 49 14 [2] [.tmp 4] c49:=⟨⟨Tryz.f49,_,Tryz.func49,rfl,by kernel_rfl,rfl,rfl,by kernel_rfl,by kernel_rfl⟩,by decide,by kernel_rfl⟩
def c50:LC:=
  (.seq (.rgn [] [LL 4 (.assign (.const (.int .i64 0))) 3])
 (.seq (.seq (.rgn [] [LL 5 (.assign (.const (.int .i64 0))) 3])
 (.blk 0
 (.loop []
 (.seq (.seq (.rgn [] [LL 6 (.move (.tmp 5)) 3,
 LL 7 (.move<|.tmp 0) 31,
 LL 8 (.call {callee:=(.builtin .len),args:= #[(.tmp 7)],argTypes:= #[31]}) 3,
 LL 9 (.binOp .lss 3 (.tmp 6) (.tmp 8) 3) 4])
 (.cond (.tmp 9)
 .skip
 (.exit 0)))
 (.seq (.blk 1
 (.rgn [] [LL 12 (.move (.tmp 0)) 31,
 LL 13 (.move<|.tmp 5) 3,
 LL 14 (.indexAddr 31 (.tmp 12)<|.tmp 13) 0,
 LL 15 (.load 26<|.tmp 14) 26,
 LL 16 (.move<|.tmp 1) 3,
 LL 17 (.call {callee:=(.value<|.func 47),args:= #[(.tmp 15),(.tmp 16)],argTypes:= #[26,3]}) 3,
 LL 1 (.assign (.tmp 17)) 3]))
 (.rgn [] [LL 10 (.move (.tmp 5)) 3,
 LL 11 (.binOp .add 3 (.tmp 10) (.const<|.int .i64 1) 3) 3,
 LL 5 (.assign (.tmp 11)) 3]))))))
 (.seq (.rgn [] [LL 18 (.move (.tmp 1)) 3,
 LL 4 (.assign (.tmp 18)) 3])
 .ret)))
def qK:Lit Tryz.prog 50 19 [] [.tmp 4] c50:=⟨⟨Tryz.f50,_,Tryz.func50,rfl,by kernel_rfl,rfl,rfl,by kernel_rfl,by kernel_rfl⟩,by decide,by kernel_rfl⟩
def Aiu:BW 51 [] [] [] Tryz.f51:=Br Tryz.func51
def Aiv:BW 52 [2] [] [] Tryz.f52:=Br Tryz.func52
def Aiw:BW 53 [2] [] [] Tryz.f53:=Br Tryz.func53
def Aix:BW 54 [] [] [] Tryz.f54:=Br Tryz.func54
def Aiy:BW 55 [2,3] [(39,3),(67,2),(75,3),(82,2),(84,3)] [] Tryz.f55:=Br Tryz.func55
def Aiz:BW 56 [2,3,5] [(45,3),(55,3),(87,2),(92,3),(114,3),(123,3),(130,3),(132,3)] [] Tryz.f56:=Br Tryz.func56
def AiA:BW 57 [2] [] [] Tryz.f57:=Br Tryz.func57
def AiB:BW 58 [2,4] [] [] Tryz.f58:=Br Tryz.func58
def AiC:BW 59 [1] [(65,1),(74,1),(111,1),(116,1),(122,1),(126,1)] [] Tryz.f59:=Br Tryz.func59
def AiD:BW 60 [1,4] [(17,4),(25,1),(32,4),(38,4),(44,4),(45,4),(51,4),(52,4)] [(4,[16])] Tryz.f60:=Br Tryz.func60
def AiE:BW 61 [3,4,5] [(36,4),(55,5),(88,5),(64,900003),(64,900004),(66,900003),(66,900004),(68,900003),(68,900004),(70,900003),(70,900004),(75,900003),(75,900004),(80,900003),(80,900004),(97,900003),(97,900004),(102,900003),(102,900004),(107,900003),(107,900004),(109,900003),(109,900004),(111,900003),(111,900004),(116,900003),(116,900004)] [(3,[26]),(7,[34]),(13,[63,69,76,1500069,1500076]),(18,[96,108,112,1500108,1500112]),(19,[117])] Tryz.f61:=Br Tryz.func61
def AiF:BW 62 [2] [] [(6,[18]),(7,[26])] Tryz.f62:=Br Tryz.func62
def AiG:BW 63 [1] [] [] Tryz.f63:=Br Tryz.func63
def AiH:BW 64 [2,3,4,15] [(54,2),(55,2),(62,3),(63,3),(79,2),(101,3),(102,3),(107,3)] [(3,[26]),(19,[88]),(20,[100]),(21,[118,119]),(22,[122]),(25,[132,133])] Tryz.f64:=Br Tryz.func64
def AiI:BW 65 [2,4,9] [(21,2)] [(12,[44]),(13,[54]),(14,[61])] Tryz.f65:=Br Tryz.func65
def AiJ:BW 66 [3,4,5,10] [(28,5)] [(3,[17]),(7,[25]),(10,[39,40]),(11,[43])] Tryz.f66:=Br Tryz.func66
def AiK:BW 67 [2,3,4,8,10] [(37,2),(40,2),(41,2),(55,2),(56,2),(67,10),(68,10),(71,2),(72,2),(80,10),(81,10)] [(3,[23]),(4,[29]),(11,[69,76]),(12,[82])] Tryz.f67:=Br Tryz.func67
def AiL:BW 68 [3,4,6,13] [] [(1,[15]),(6,[30]),(7,[38]),(10,[48])] Tryz.f68:=Br Tryz.func68
def AiM:BW 69 [] [] [] Tryz.f69:=Br Tryz.func69
def AiN:BW 70 [1,2,3] [] [(4,[11])] Tryz.f70:=Br Tryz.func70
def AiO:BW 71 [1,2,3] [] [(4,[11])] Tryz.f71:=Br Tryz.func71
def AiP:BW 72 [3,7] [] [(1,[3,7]),(6,[22])] Tryz.f72:=Br Tryz.func72
def AiQ:BW 73 [3,4,5,10] [(74,5),(52,900003),(52,900004),(54,900003),(54,900004),(56,900003),(56,900004),(58,900003),(58,900004),(60,900003),(60,900004),(65,900003),(65,900004),(85,900003),(85,900004),(90,900003),(90,900004),(95,900003),(95,900004),(97,900003),(97,900004),(99,900003),(99,900004),(104,900003),(104,900004)] [(6,[28]),(7,[29]),(15,[51,57,61,1500057,1500061]),(22,[84,96,100,1500096,1500100]),(23,[105])] Tryz.f73:=Br Tryz.func73
def AiR:BW 74 [1] [(34,900003),(34,900004),(36,900003),(36,900004),(38,900003),(38,900004),(40,900003),(40,900004),(42,900003),(42,900004),(44,900003),(44,900004),(46,900003),(46,900004),(47,900003),(47,900004)] [(5,[16]),(9,[41,45,1500041,1500045]),(10,[48])] Tryz.f74:=Br Tryz.func74
def AiS:BW 75 [2] [] [(6,[23]),(8,[28])] Tryz.f75:=Br Tryz.func75
def AiT:BW 76 [2,3,4] [] [(7,[35]),(10,[43]),(11,[44]),(13,[56,57]),(18,[66])] Tryz.f76:=Br Tryz.func76
def AiU:BW 77 [2,4] [] [(6,[26]),(7,[27])] Tryz.f77:=Br Tryz.func77
def AiV:BW 78 [1] [] [] Tryz.f78:=Br Tryz.func78
def AiW:BW 79 [3,4,5,11] [] [(6,[23]),(7,[24]),(10,[33,34]),(12,[38])] Tryz.f79:=Br Tryz.func79
def AiX:BW 80 [2,3,4,6] [(23,2),(26,2),(27,2),(64,6),(65,6),(71,6),(72,6)] [(7,[43]),(10,[51]),(11,[52]),(13,[66]),(16,[75])] Tryz.f80:=Br Tryz.func80
def AiY:BW 81 [3,4,6] [] [(1,[14]),(6,[29]),(9,[44])] Tryz.f81:=Br Tryz.func81
def AiZ:BW 82 [2] [] [(5,[15]),(7,[22])] Tryz.f82:=Br Tryz.func82
def Ai0:BW 83 [2,3] [] [] Tryz.f83:=Br Tryz.func83
def Ai1:BW 84 [2,3] [] [] Tryz.f84:=Br Tryz.func84
def Abr:BW 85 [] [] [] Tryz.f85:=Br Tryz.func85
def Ai2:BW 86 [] [] [] Tryz.f86:=Br Tryz.func86
def Ai3:BW 87 [2] [] [] Tryz.f87:=Br Tryz.func87
def Ai4:BW 88 [2] [] [(3,[21]),(5,[30])] Tryz.f88:=Br Tryz.func88
def Ai5:BW 89 [2] [] [] Tryz.f89:=Br Tryz.func89
def Ai6:BW 90 [2] [(16,2)] [] Tryz.f90:=Br Tryz.func90
def Ai7:BW 91 [2] [] [] Tryz.f91:=Br Tryz.func91
def Ai8:BW 92 [] [] [] Tryz.f92:=Br Tryz.func92
def Ai9:BW 93 [1,2,3] [(15,3),(18,1),(26,3)] [(5,[16,22]),(6,[27])] Tryz.f93:=Br Tryz.func93
def Aja:BW 94 [] [] [] Tryz.f94:=Br Tryz.func94
def Ajb:BW 95 [] [] [] Tryz.f95:=Br Tryz.func95
def Ajc:BW 96 [1] [(21,1),(27,1),(31,1),(43,1),(49,1)] [] Tryz.f96:=Br Tryz.func96
def Ajd:BW 97 [2,3,4] [] [] Tryz.f97:=Br Tryz.func97
def Aje:BW 98 [2] [] [(6,[26]),(7,[30])] Tryz.f98:=Br Tryz.func98
def Ajf:BW 99 [1] [(11,1),(22,1),(27,1)] [] Tryz.f99:=Br Tryz.func99
def Adl:BW 100 [2,3] [(19,3),(21,2)] [(8,[29]),(9,[33]),(10,[37,38])] Tryz.f100:=Br Tryz.func100
def Adm:BW 101 [] [] [(6,[22]),(7,[26])] Tryz.f101:=Br Tryz.func101
def Adn:BW 102 [] [] [] Tryz.f102:=Br Tryz.func102
def Ado:BW 103 [] [] [(5,[14]),(6,[24])] Tryz.f103:=Br Tryz.func103
def Adp:BW 104 [4,7] [] [(9,[39])] Tryz.f104:=Br Tryz.func104
def Adq:BW 105 [3,4,6,8,10,14,16] [(41,4)] [(14,[64]),(15,[68]),(17,[79]),(18,[86,88,89]),(21,[97]),(22,[98])] Tryz.f105:=Br Tryz.func105
def Adr:BW 106 [2] [] [] Tryz.f106:=Br Tryz.func106
def Ads:BW 107 [3,4,10] [(33,4),(39,4)] [(3,[23]),(7,[31]),(10,[52,53]),(11,[56])] Tryz.f107:=Br Tryz.func107
def Adt:BW 108 [] [] [] Tryz.f108:=Br Tryz.func108
def Adu:BW 109 [5] [] [(2,[22]),(4,[26]),(8,[40,45]),(9,[56,57]),(11,[62])] Tryz.f109:=Br Tryz.func109
def Adv:BW 110 [1,2,3] [] [(4,[11])] Tryz.f110:=Br Tryz.func110
def Adw:BW 111 [3,4,5] [] [] Tryz.f111:=Br Tryz.func111
def Adx:BW 112 [2,3,4] [] [] Tryz.f112:=Br Tryz.func112
def Ady:BW 113 [1] [] [] Tryz.f113:=Br Tryz.func113
def Adz:BW 114 [] [] [(11,[55])] Tryz.f114:=Br Tryz.func114
def AdA:BW 115 [] [] [(10,[58]),(6,[30]),(12,[66])] Tryz.f115:=Br Tryz.func115
def AdB:BW 116 [] [] [(13,[47,50]),(17,[59,62]),(19,[67])] Tryz.f116:=Br Tryz.func116
def AdC:BW 117 [1] [] [] Tryz.f117:=Br Tryz.func117
def AdD:BW 118 [] [] [] Tryz.f118:=Br Tryz.func118
def AdE:BW 119 [] [] [(5,[15]),(7,[23])] Tryz.f119:=Br Tryz.func119
def AdF:BW 120 [4,8] [] [(3,[14]),(10,[34])] Tryz.f120:=Br Tryz.func120
def AdG:BW 121 [2,3,5,9] [] [(6,[39]),(12,[51]),(16,[58])] Tryz.f121:=Br Tryz.func121
def AdH:BW 122 [3,4,6,8,10,12,13] [] [(7,[40]),(9,[47]),(12,[60]),(14,[62])] Tryz.f122:=Br Tryz.func122
def AdI:BW 123 [] [] [(1,[4])] Tryz.f123:=Br Tryz.func123
def AdJ:BW 124 [3,4,10,11] [] [(6,[29]),(7,[30]),(8,[40,41]),(10,[45])] Tryz.f124:=Br Tryz.func124
def AdK:BW 125 [4] [] [(3,[10])] Tryz.f125:=Br Tryz.func125
def AdL:BW 126 [5] [] [(9,[35]),(10,[36]),(15,[55]),(18,[65]),(19,[66])] Tryz.f126:=Br Tryz.func126
def AdM:BW 127 [8,62] [] [(6,[27]),(10,[52]),(12,[8,62]),(18,[81]),(20,[91]),(24,[118])] Tryz.f127:=Br Tryz.func127
def AdN:BW 128 [] [] [] Tryz.f128:=Br Tryz.func128
def AdO:BW 129 [] [] [] Tryz.f129:=Br Tryz.func129
def AdP:BW 130 [1] [] [(6,[13]),(7,[17])] Tryz.f130:=Br Tryz.func130
def AdQ:BW 131 [2,3,4,6,8,16] [(57,6),(62,3),(97,6)] [(2,[20]),(5,[40]),(14,[56]),(22,[108,109]),(23,[112]),(25,[121]),(26,[122])] Tryz.f131:=Br Tryz.func131
def AdR:BW 132 [] [] [(2,[12]),(16,[53]),(18,[58]),(21,[75,76]),(22,[79])] Tryz.f132:=Br Tryz.func132
def AdS:BW 133 [2,4,6] [] [(3,[19]),(6,[31])] Tryz.f133:=Br Tryz.func133
def AdT:BW 134 [2] [] [(8,[32]),(9,[36])] Tryz.f134:=Br Tryz.func134
def AdU:BW 135 [5] [(37,5)] [(6,[29]),(7,[51]),(8,[56])] Tryz.f135:=Br Tryz.func135
def AdV:BW 136 [2,3,6,7] [] [(5,[23]),(6,[24])] Tryz.f136:=Br Tryz.func136
def AdW:BW 137 [2,3,7] [] [(6,[33]),(7,[34,36])] Tryz.f137:=Br Tryz.func137
def AdX:BW 138 [1] [] [(6,[12]),(7,[16])] Tryz.f138:=Br Tryz.func138
def AdY:BW 139 [2,3,4,6,7,12,53] [] [(3,[22]),(5,[45]),(9,[52]),(10,[12,53]),(20,[87,88]),(23,[97])] Tryz.f139:=Br Tryz.func139
def AdZ:BW 140 [] [] [] Tryz.f140:=Br Tryz.func140
def Ad0:BW 141 [] [] [(4,[11]),(5,[12]),(7,[18])] Tryz.f141:=Br Tryz.func141
def Ad1:BW 142 [] [] [] Tryz.f142:=Br Tryz.func142
def Ad2:BW 143 [] [] [(5,[21])] Tryz.f143:=Br Tryz.func143
def Ad3:BW 144 [] [] [] Tryz.f144:=Br Tryz.func144
def Ad4:BW 145 [1,4,6,31] [] [(4,[4,31]),(7,[38])] Tryz.f145:=Br Tryz.func145
def Ad5:BW 146 [] [] [] Tryz.f146:=Br Tryz.func146
def Ad6:BW 147 [2] [] [] Tryz.f147:=Br Tryz.func147
def Ad7:BW 148 [] [] [(6,[17]),(8,[22])] Tryz.f148:=Br Tryz.func148
def Ad8:BW 149 [] [] [(4,[16])] Tryz.f149:=Br Tryz.func149
def Ad9:BW 150 [2,4,7] [] [(3,[19])] Tryz.f150:=Br Tryz.func150
def Aea:BW 151 [2,4,9] [] [(6,[21]),(8,[29]),(9,[36,37])] Tryz.f151:=Br Tryz.func151
def Aeb:BW 152 [2] [] [] Tryz.f152:=Br Tryz.func152
def Aec:BW 153 [2,4,6] [] [(3,[19]),(6,[31])] Tryz.f153:=Br Tryz.func153
def Aed:BW 154 [2] [] [(8,[29]),(10,[34])] Tryz.f154:=Br Tryz.func154
def Aee:BW 155 [4,11] [] [(4,[22]),(11,[44]),(13,[49]),(15,[59])] Tryz.f155:=Br Tryz.func155
def Aef:BW 156 [] [] [(3,[10])] Tryz.f156:=Br Tryz.func156
def Aeg:BW 157 [] [] [(4,[12])] Tryz.f157:=Br Tryz.func157
def Aeh:BW 158 [] [] [] Tryz.f158:=Br Tryz.func158
def Aei:BW 159 [2] [] [(6,[26]),(7,[30])] Tryz.f159:=Br Tryz.func159
def Aej:BW 160 [2] [] [(8,[52]),(9,[56])] Tryz.f160:=Br Tryz.func160
def Aek:BW 161 [3] [] [(6,[22]),(7,[29])] Tryz.f161:=Br Tryz.func161
def Ael:BW 162 [6,26] [(46,6),(48,6),(69,6),(75,6),(77,6),(81,6),(82,6),(84,6),(98,6),(100,6)] [(3,[21]),(5,[6,26]),(13,[57]),(17,[92])] Tryz.f162:=Br Tryz.func162
def Aem:BW 163 [1,4] [(17,4),(25,1),(32,4),(38,4),(44,4),(45,4),(50,4),(51,4)] [(5,[16])] Tryz.f163:=Br Tryz.func163
def Aen:BW 164 [2,4,7] [] [(4,[16])] Tryz.f164:=Br Tryz.func164
def Aeo:BW 165 [2] [] [] Tryz.f165:=Br Tryz.func165
def Aep:BW 166 [] [] [] Tryz.f166:=Br Tryz.func166
def Aeq:BW 167 [] [] [] Tryz.f167:=Br Tryz.func167
def Aer:BW 168 [] [] [] Tryz.f168:=Br Tryz.func168
def Aes:BW 169 [] [] [] Tryz.f169:=Br Tryz.func169
def Aet:BW 170 [] [] [] Tryz.f170:=Br Tryz.func170
def Aeu:BW 171 [1,3,6] [] [] Tryz.f171:=Br Tryz.func171
def Aev:BW 172 [2,4,5,10] [] [(8,[23]),(9,[24]),(11,[34,35]),(12,[40]),(16,[52]),(18,[58])] Tryz.f172:=Br Tryz.func172
def Aew:BW 173 [] [] [] Tryz.f173:=Br Tryz.func173
def Aex:BW 174 [2] [] [(8,[37]),(10,[54]),(12,[62])] Tryz.f174:=Br Tryz.func174
def Aey:BW 175 [2] [] [] Tryz.f175:=Br Tryz.func175
def Aez:BW 176 [] [] [] Tryz.f176:=Br Tryz.func176
def AeA:BW 177 [] [] [] Tryz.f177:=Br Tryz.func177
def AeB:BW 178 [] [] [(9,[50])] Tryz.f178:=Br Tryz.func178
def AeC:BW 179 [] [] [] Tryz.f179:=Br Tryz.func179
def AeD:BW 180 [1,2] [(3,1),(5,1)] [] Tryz.f180:=Br Tryz.func180
def AeE:BW 181 [] [] [] Tryz.f181:=Br Tryz.func181
def AeF:BW 182 [1] [] [(6,[46])] Tryz.f182:=Br Tryz.func182
def AeG:BW 183 [2,5,8,12] [] [(6,[21]),(9,[42]),(11,[45])] Tryz.f183:=Br Tryz.func183
def AeH:BW 184 [] [] [] Tryz.f184:=Br Tryz.func184
def AeI:BW 185 [1] [] [] Tryz.f185:=Br Tryz.func185
def AeJ:BW 186 [2] [] [] Tryz.f186:=Br Tryz.func186
def AeK:BW 187 [1] [] [] Tryz.f187:=Br Tryz.func187
def AeL:BW 188 [] [] [] Tryz.f188:=Br Tryz.func188
def AeM:BW 189 [4] [] [] Tryz.f189:=Br Tryz.func189
def AeN:BW 190 [2,3,5,6,7,11,12] [] [(11,[34]),(12,[42,43]),(13,[46]),(18,[53])] Tryz.f190:=Br Tryz.func190
def AeO:BW 191 [4,6,8,10] [] [] Tryz.f191:=Br Tryz.func191
def AeP:BW 192 [2,3] [] [] Tryz.f192:=Br Tryz.func192
def AeQ:BW 193 [1,2] [] [] Tryz.f193:=Br Tryz.func193
def AeR:BW 194 [1,2] [] [] Tryz.f194:=Br Tryz.func194
def AeS:BW 195 [1] [(3,1),(7,1),(12,1),(15,1)] [] Tryz.f195:=Br Tryz.func195
def AeT:BW 196 [] [] [(1,[4])] Tryz.f196:=Br Tryz.func196
def AeU:BW 197 [2,3,4,5,6,7,8,1000002,1000003,1000004,1000005,1000006,1000007,1000008] [] [(10,[46,50]),(11,[53]),(13,[61]),(17,[81]),(20,[86,87])] Tryz.f197:=Br Tryz.func197
def AeV:BW 198 [15] [(85,900003),(85,900004),(87,900003),(87,900004),(89,900003),(89,900004),(91,900003),(91,900004),(93,900003),(93,900004),(95,900003),(95,900004),(97,900003),(97,900004),(98,900003),(98,900004)] [(7,[38]),(10,[48]),(20,[92,96,1500092,1500096]),(33,[156]),(34,[160])] Tryz.f198:=Br Tryz.func198
def AeW:BW 199 [3,8,12] [(57,3)] [(9,[39])] Tryz.f199:=Br Tryz.func199
def AeX:BW 200 [] [] [] Tryz.f200:=Br Tryz.func200
def AeY:BW 201 [2,3,4] [] [] Tryz.f201:=Br Tryz.func201
def AeZ:BW 202 [2,3,4] [] [] Tryz.f202:=Br Tryz.func202
def Ae0:BW 203 [2,3] [] [] Tryz.f203:=Br Tryz.func203
def Ae1:BW 204 [] [] [] Tryz.f204:=Br Tryz.func204
def Ae2:BW 205 [] [] [] Tryz.f205:=Br Tryz.func205
def Ae3:BW 206 [0,1,7,10,12,1000000,1000001] [] [] Tryz.f206:=Br Tryz.func206
def Ae4:BW 207 [2,3,4] [] [] Tryz.f207:=Br Tryz.func207
def Ae5:BW 208 [9] [] [(4,[16]),(8,[25]),(10,[30])] Tryz.f208:=Br Tryz.func208
def Ae6:BW 209 [4,7] [] [] Tryz.f209:=Br Tryz.func209
def Ae7:BW 210 [2,3,4] [] [] Tryz.f210:=Br Tryz.func210
set_option maxRecDepth 100000
def AkM:BW 3 [3,4,5,8,10,11,12,13,18] [] [(11,[35]),(15,[51]),(38,[115])] Tryz.f3:=Br Tryz.func3
set_option maxRecDepth 100000
set_option maxHeartbeats 1000000
def Lq(a:(Int×zU)->Option (zU))(b:Int×zU):Option (zU):=match b with
  |(c,d)=>cond (decide (0 < c)) (chk (List.length (bytesOf [IntKind.u8.wrap (wZ<|48+(Int.tmod c 10))])+List.length d<=lim)<|a ((wZ<|Int.tdiv c 10),((bytesOf [IntKind.u8.wrap (wZ<|48+(Int.tmod c 10))])++d)))<|some d
def OF(a:Int):Option (zU):=cond (decide (a<=0)) (some [109,48])<|G (Ap Lq fz (a,[])) λb=>chk (List.length [109]+List.length b<=lim)<|some<|[109]++b
def bS{a b}(h:OF a=some b):AX 85 [nI a] (.str b):=st Abr E<|rn 1 E<|Ee E λc=>BJ h E (λh=>rn 1 E<|sj h ▸ Ag rZ) λh=>BS c<|rn 1 E (Ao λd e=>DZ h λf g i=>have j:∀{k:zU},k=f->Jn d [(3,.str k)]:=@λk h _ m=>have h:=i h;e _<|lh m E<|rs<|sp 1 E<|Fi h λn h=>qB E n E<|AZ 1 E<|sj h ▸ Ag rZ;(A9 (λ(o:Int×zU)=>match o with|(p,q)=>[(0,nI p),(3,.str q)]) _ _ _ _ g (A7 E) (λ_=>E)<|λr=>Ji λp q s h t=>Ee E λu=>BJ h E (λh=>BS u<|A4<|rs<|sp 4 E<|Gl cu8 [IntKind.u8.wrap (wZ<|48+(Int.tmod p 10))] E E E AlB<|qCs (l:=[IntKind.u8.wrap (wZ<|48+(Int.tmod p 10))]) E E E E<|sp 1 E<|Fi h λv h=>qB E v E<|AZ 1 E<|rg<|AZ 3 E<|t _ _ h<|A7 E) λh=>AG<|j (sj h) _<|A7 E))
def Rb(k:Int):zU:=(OF k).getD []
def mK:∀(n:Nat) (k:Int) (u:zU),0<=k->k < 10 ^ n->k<=9223372036854775000->u.length+n<=100->∀m,n < m->∃z,Ap Lq m (k,u)=some z∧z.length<=u.length+n
 |n,k,u,d,b,f,o,m,p=>by
  cases m with
  |zero=>omega
  |succ m=>
   show ∃z,Lq (Ap Lq m) (k,u)=some z∧_;have g:∀a,Lq a (k,u)=cond (decide (0 < k)) (chk (List.length (bytesOf [IntKind.u8.wrap (wZ<|48+(Int.tmod k 10))])+List.length u<=lim)<|a ((wZ<|Int.tdiv k 10),((bytesOf [IntKind.u8.wrap (wZ<|48+(Int.tmod k 10))])++u))) (some u):=λ_=>rfl
   rw[g];by_cases c:0 < k
   ·cases n with
    |zero=>simp at b;omega
    |succ n=>
     have h:k.tdiv 10=k / 10:=IOQ d;have i:k / 10 < 10 ^ n:=by rw[Int.pow_succ]at b;omega
     have j:wZ (k.tdiv 10)=k / 10:=by rw[h,wrap_in];omega
     rw[Ai c,Ac,A1 (by simp[bytesOf];unfold lim;omega),j];have⟨z,e,l⟩:=mK n (k / 10) (bytesOf [IntKind.u8.wrap (wZ<|48+k.tmod 10)]++u) (by omega) i (by omega) (by simp[bytesOf];omega) m (by omega);exact⟨z,e,by simp[bytesOf]at l;omega⟩
   ·rw[Af c];exact⟨u,rfl,by omega⟩
def Abz{k}(f:0<=k)(d:k<=mB):OF k=some (Rb k)∧(Rb k).length<=100:=by
 have a:∃z,OF k=some z∧z.length<=100:=by
  unfold OF;by_cases c:k<=0
  ·rw[Ai c];exact⟨_,rfl,by simp⟩
  ·rw[Af c,Ab];unfold mB at d;have⟨z,e,b⟩:=mK 20 k [] (by omega) (by omega) (by omega) (by simp) fz (by unfold fz;omega);rw[e];simp only[G];simp only[Cl,CH]at b;rw[A1 (by simp;unfold lim;omega)];exact⟨_,rfl,by simp;omega⟩
 have⟨z,e,b⟩:=a;have:Rb k=z:=by unfold Rb;rw[e];rfl
 rw[this];exact⟨e,b⟩
def qP{k}(a:0<=k)(b:k+1<=mB):(Rb k).length<=maxLen:=by have:=(Abz a<|by omega).2;unfold maxLen;omega
def vZ:MT Tryz.prog 85:=Lr Abr
def iD{k}(a:0<=k)(c:k+1<=mB){w:World}{bs:zN}(b:Xw w bs):Calls Tryz.prog 85 #[.int .i64 k] w (λe w'=>e=.returned (.string ⟨(Rb k).toArray⟩)∧Below w.heap.size w w'):=
 tB (bS (Abz a<|by omega).1) b
def o7(_:Int):Nat:=1
def mH(_:Int)(k:Int):Int:=k
def hmI(x k:Int):KK Rb (Ah x) k=Ah (mH x k):=rfl
def hcI(x:Int):D6 (Ah x)=o7 x:=rfl
set_option maxRecDepth 100000
def Bg(x:zI):List V:=[dL Ah x]
def Cm(x:zI):(Bg x).length=1:=rfl
def Cj(x:zI):QF (Bg x)=Bg x:=(A2 (Bq As _) rfl)
def AK(x:zI):List V:=[oL 3 Ah x]
def Dk(x:zI):(AK x).length=1:=rfl
def CX(x:zI):QF (AK x)=Bg x:=(A2 (QX As _) rfl)
def Acx(x:List zI):List V:=[dL Bg x]
abbrev Dl:=Int×(List zI)
def PC(x:Dl):List V:=[nI x.1,dL Bg x.2]
def EK(x:Dl):List V:=[nI x.1,oL 26 AK x.2]
abbrev CO:=zU×Dl
def Co(x:CO):List V:=[.str x.1,nI x.2.1,dL Bg x.2.2]
def QD(x:CO):(Co x).length=3:=rfl
def Dr(x:CO):QF (Co x)=Co x:=(A2 rfl<|A2 rfl<|A2 (Bq Cj _) rfl)
def Dq(x:CO):List V:=[.str x.1,nI x.2.1,oL 26 AK x.2.2]
def WU(x:CO):(Dq x).length=3:=rfl
def Wg(x:CO):QF (Dq x)=Co x:=(A2 rfl<|A2 rfl<|A2 (QX CX _) rfl)
def KY(x:List CO):List V:=[oL 119 Dq x]
abbrev Hh:=zU×zI
def BM(x:Hh):List V:=[.str x.1,dL Ah x.2]
def Gk(x:Hh):(BM x).length=2:=rfl
def CS(x:Hh):QF (BM x)=BM x:=(A2 rfl<|A2 (Bq As _) rfl)
def E4(x:Hh):List V:=[.str x.1,oL 3 Ah x.2]
def cY(x:Hh):(E4 x).length=2:=rfl
def YO(x:Hh):QF (E4 x)=BM x:=(A2 rfl<|A2 (QX As _) rfl)
abbrev Fh:=Int×List Hh×zI
def Df(x:Fh):List V:=[nI x.1,dL BM x.2.1,dL Ah x.2.2]
def I7(x:Fh):List V:=[nI x.1,oL 102 E4 x.2.1,oL 3 Ah x.2.2]
def VJ(x:zI):List V:=[oL 3 Ah x]
abbrev Rm:=(List zI)×zI
def TH(x:Rm):List V:=[dL Bg x.1,dL Ah x.2]
def LT(x:Rm):List V:=[oL 26 AK x.1,oL 3 Ah x.2]
abbrev ZS:=Int×zI×zI×Rm
def UA(x:ZS):List V:=[nI x.1,dL Ah x.2.1,dL Ah x.2.2.1,dL Bg x.2.2.2.1,dL Ah x.2.2.2.2]
def E0(x:ZS):List V:=[nI x.1,oL 3 Ah x.2.1,oL 3 Ah x.2.2.1,oL 26 AK x.2.2.2.1,oL 3 Ah x.2.2.2.2]
def QS(x:zI):Nat:=LI o7 x
def Um(x:zI)(k:Int):zI:=gx o7 mH x k
def AcZ(x:zI)(k:Int):KK Rb (AK x) k=AK (Um x k):=by unfold AK Um;exact mkc (oX hmI hcI x k) (W6 hcI x) rfl
def oz(x:zI):D6 (AK x)=QS x:=by unfold AK QS;exact rX (W6 hcI x) rfl
def YN(x:zI):Cw (AK x)=true:=ib (dpo (λ_=>rfl) x) rfl
def cd(l:zI)(k:Int)(o:0<=k)(p:k+D6 (l.flatMap Ah)<=mB){body:LC}(q:body=(.seq (.rgn [] [LL 12 (.move (.tmp 0)) 26,
   LL 13 (.move<|.tmp 5) 3,
   LL 14 (.move<|.tmp 1) 3,
   LL 15 (.indexAddr 26 (.tmp 12)<|.tmp 13) 0,
   ⟨none,(.store 3 (.tmp 15) (.tmp 14)),0,none⟩])
  (.rgn [] [LL 16 (.move (.tmp 1)) 3,
   LL 17 (.binOp .add 3 (.tmp 16) (.const<|.int .i64 1) 3) 3,
   LL 1 (.assign (.tmp 17)) 3]))):Round Tryz.prog 19 [] Rb 3 1 body l.length (l.flatMap Ah) k:=by
 subst q;intro r s bs g d j w T e t h a i c m;have u:Cw (l.flatMap Ah)=true:=QV (λ_=>rfl) l;have a:Inv Tryz.prog r Rb 3 l.length (l.flatMap Ah) k (.slice (some ⟨g,0,none⟩) l.length d) bs s (j * 1+0) w:=a;have c:T 1=some (.int .i64<|k+(GM (l.flatMap Ah) (j * 1+0):Int)):=c;have f:(l.flatMap Ah)[j * 1+0]? =some (nI<|l[j]):=(Vb AQ h<|by decide).trans rfl;have n:=Yd f p;rw[show Wd (nI<|l[j])=1 from rfl]at n;have v:k+(GM (l.flatMap Ah) (j * 1+0):Int)+1=k+(GM (l.flatMap Ah) (j * 1+1):Int):=jD (k:=k) f rfl;have A:0<=k+(GM (l.flatMap Ah) (j * 1+0):Int):=Ye o;have⟨B,x,y,b⟩:=a.int' u e f;refine Fe<|ET<|De i<|De m<|De c<|eM GK rfl rfl rfl h<|Zg GK rfl rfl rfl rfl x y rfl<|ES ?_;generalize z:World.setCell _ _ _=C at b⊢;refine ET<|De c<|eL rfl (by omega) (by unfold mB at n;omega)<|IN rfl<|ES ?_;rw[v];exact⟨rfl,i,rfl,m,b⟩
def J4(l:zI)(k:Int)(a:0<=k)(b:k+D6 (l.flatMap Ah)<=mB):Ld Tryz.prog 47 (.own 3 l.length<|l.flatMap Ah) k (.own 3 l.length<|KK Rb (l.flatMap Ah) k) (k+D6 (l.flatMap Ah)):=
 Vt GK (r:=18) (ty:=26) (it:=3) (bt:=4) eE (by decide) rfl (Bl AQ l) (by decide) (cd l k a b rfl)
def VX(x:List zI):Nat:=LI QS x
def eH(x:List zI)(k:Int):List zI:=gx QS Um x k
def aS(l:List zI)(k:Int)(h0:0<=k)(h1:k+D6 (l.flatMap AK)<=mB){body:LC}(hb:body=(.rgn [] [LL 12 (.move (.tmp 0)) 31,
   LL 13 (.move<|.tmp 5) 3,
   LL 14 (.indexAddr 31 (.tmp 12)<|.tmp 13) 0,
   LL 15 (.load 26<|.tmp 14) 26,
   LL 16 (.move<|.tmp 1) 3,
   LL 17 (.call {callee:=(.value<|.func 47),args:= #[(.tmp 15),(.tmp 16)],argTypes:= #[26,3]}) 3,
   LL 1 (.assign (.tmp 17)) 3])):Round Tryz.prog 19 [] Rb 26 1 body l.length (l.flatMap AK) k:=by
 subst hb;intro St w0 bs g cap j w T hnd hbs hj hI0 t0 t1 t5;have hd:Cw (l.flatMap AK)=true:=QV YN l;have hI0:Inv Tryz.prog St Rb 26 l.length (l.flatMap AK) k (.slice (some ⟨g,0,none⟩) l.length cap) bs w0 (j * 1+0) w:=hI0;have t1:T 1=some (.int .i64<|k+(GM (l.flatMap AK) (j * 1+0):Int)):=t1;have q0:(l.flatMap AK)[j * 1+0]? =some (oL 3 Ah<|l[j]):=(Vb Dk hj<|by decide).trans rfl;have b0:=Yd q0 h1;have n0:0<=k+(GM (l.flatMap AK) (j * 1+0):Int):=Ye h0;have k0:=J4 (l[j]) (k+(GM (l.flatMap AK) (j * 1+0):Int)) n0 b0;have⟨u0,c0,d0⟩:=hI0.own' hd hnd hbs q0 k0;have d0:Calls Tryz.prog 47 #[u0,.int .i64 (k+(GM (l.flatMap AK) (j * 1+0):Int))] w (λe' w'=>e'=.returned (.int .i64<|k+(GM (l.flatMap AK) (j * 1+1):Int))∧Inv Tryz.prog St Rb 26 l.length (l.flatMap AK) k (.slice (some ⟨g,0,none⟩) l.length cap) bs w0 (j * 1+1) w'):=d0;refine ET<|De t0<|De t5<|eM GK rfl rfl rfl hj<|P8 GK rfl rfl rfl c0<|De t1<|L8 (Lr eE) (args2 rfl rfl)<|d0.mono ?_;rintro e0 w1 ⟨rfl,hI1⟩;refine⟨_,rfl,IN rfl<|ES ?_⟩;exact⟨rfl,t0,rfl,t5,hI1⟩
def Q9(l:List zI)(k:Int)(a:0<=k)(b:k+D6 (l.flatMap AK)<=mB):Ld Tryz.prog 50 (.own 26 l.length<|l.flatMap AK) k (.own 26 l.length<|KK Rb (l.flatMap AK) k) (k+D6 (l.flatMap AK)):=
 Vt GK (r:=18) (ty:=31) (it:=3) (bt:=4) qK (by decide) rfl (Bl Dk l) (by decide) (aS l k a b rfl)
def ug(x:Dl):Nat:=(1)+(VX x.2)
def Afd(x:Dl)(k:Int):Dl:=((k),eH x.2<|k+((1:Nat):Int))
def Ahg(x:Dl):Cw (EK x)=true:=(ib rfl<|ib (dpo YN _) rfl)
def du(x:CO):Nat:=(1)+(ug x.2)
def vU(x:CO)(k:Int):CO:=(Rb k,Afd x.2<|k+((1:Nat):Int))
def Aht(x:CO)(k:Int):KK Rb (Dq x) k=Dq (vU x k):=by have h:KK Rb [.str x.1,nI x.2.1,oL 26 AK x.2.2] k=_:=(mkc (n:=1) (c':=V.str _) rfl rfl<|mkc (n:=1) (c':=V.int .i64 _) rfl rfl<|mkc (oX AcZ oz _ _) (W6 oz _)<|show KK Rb [] _=[]from rfl);refine h.trans ?_;simp only[Dq,vU,du,EK,VX,ug,eH,Afd,J5,<-DH,DI,DH]
def Aa4(x:CO):D6 (Dq x)=du x:=by have h:D6 [.str x.1,nI x.2.1,oL 26 AK x.2.2]=_:=(rX (n:=1) rfl<|rX (n:=1) rfl<|rX (W6 oz _)<|show D6 []=0 from rfl);refine(show D6 (Dq x)=_ from h).trans ?_;simp only[du,EK,VX,ug,eH,Afd,DI,CG]
def Aa2(x:CO):Cw (Dq x)=true:=(ib rfl<|ib rfl<|ib (dpo YN _) rfl)
def yd(x:List CO):Nat:=LI du x
def Afe(x:List CO)(k:Int):List CO:=gx du vU x k
def Zo(l:List CO)(k:Int)(h0:0<=k)(h1:k+D6 (l.flatMap Dq)<=mB){body:LC}(hb:body=(.seq (.rgn [] [LL 12 (.move (.tmp 0)) 43,
   LL 13 (.move<|.tmp 5) 3,
   LL 14 (.move<|.tmp 1) 3,
   LL 15 (.call {callee:=(.value<|.func 85),args:= #[(.tmp 14)],argTypes:= #[3]}) 9,
   LL 16 (.indexAddr 43 (.tmp 12)<|.tmp 13) 0,
   LL 17 (.fieldAddr 119 (.tmp 16) 0) 0,
   ⟨none,(.store 9 (.tmp 17) (.tmp 15)),0,none⟩])
  (.seq (.rgn [] [LL 18 (.move (.tmp 1)) 3,
   LL 19 (.binOp .add 3 (.tmp 18) (.const<|.int .i64 1) 3) 3,
   LL 1 (.assign (.tmp 19)) 3])
  (.seq (.rgn [] [LL 20 (.move (.tmp 0)) 43,
   LL 21 (.move<|.tmp 5) 3,
   LL 22 (.move<|.tmp 1) 3,
   LL 23 (.indexAddr 43 (.tmp 20)<|.tmp 21) 0,
   LL 24 (.fieldAddr 119 (.tmp 23) 1) 0,
   LL 25 (.fieldAddr 40 (.tmp 24) 0) 0,
   ⟨none,(.store 3 (.tmp 25) (.tmp 22)),0,none⟩])
  (.seq (.rgn [] [LL 26 (.move (.tmp 1)) 3,
   LL 27 (.binOp .add 3 (.tmp 26) (.const<|.int .i64 1) 3) 3,
   LL 1 (.assign (.tmp 27)) 3])
  (.rgn [] [LL 28 (.move (.tmp 0)) 43,
   LL 29 (.move<|.tmp 5) 3,
   LL 30 (.indexAddr 43 (.tmp 28)<|.tmp 29) 0,
   LL 31 (.fieldAddr 119 (.tmp 30) 1) 0,
   LL 32 (.fieldAddr 40 (.tmp 31) 1) 0,
   LL 33 (.load 31<|.tmp 32) 31,
   LL 34 (.move<|.tmp 1) 3,
   LL 35 (.call {callee:=(.value<|.func 50),args:= #[(.tmp 33),(.tmp 34)],argTypes:= #[31,3]}) 3,
   LL 1 (.assign (.tmp 35)) 3])))))):Round Tryz.prog 37 [] Rb 119 3 body l.length (l.flatMap Dq) k:=by
 subst hb;intro St w0 bs g cap j w T hnd hbs hj hI0 t0 t1 t5;have hd:Cw (l.flatMap Dq)=true:=QV Aa2 l;have hI0:Inv Tryz.prog St Rb 119 l.length (l.flatMap Dq) k (.slice (some ⟨g,0,none⟩) l.length cap) bs w0 (j * 3+0) w:=hI0;have t1:T 1=some (.int .i64<|k+(GM (l.flatMap Dq) (j * 3+0):Int)):=t1;have q0:(l.flatMap Dq)[j * 3+0]? =some (.str<|(l[j]).1):=(Vb WU hj<|by decide).trans rfl;have b0:=Yd q0 h1;rw[show Wd (.str<|(l[j]).1)=1 from rfl]at b0;have x0:k+(GM (l.flatMap Dq) (j * 3+0):Int)+1=k+(GM (l.flatMap Dq) (j * 3+1):Int):=jD (k:=k) q0 rfl;have n0:0<=k+(GM (l.flatMap Dq) (j * 3+0):Int):=Ye h0;have q1:(l.flatMap Dq)[j * 3+1]? =some (nI<|((l[j]).2).1):=(Vb WU hj<|by decide).trans rfl;have b1:=Yd q1 h1;rw[show Wd (nI<|((l[j]).2).1)=1 from rfl]at b1;have x1:k+(GM (l.flatMap Dq) (j * 3+1):Int)+1=k+(GM (l.flatMap Dq) (j * 3+2):Int):=jD (k:=k) q1 rfl;have n1:0<=k+(GM (l.flatMap Dq) (j * 3+1):Int):=Ye h0;have q2:(l.flatMap Dq)[j * 3+2]? =some (oL 26 AK<|((l[j]).2).2):=(Vb WU hj<|by decide).trans rfl;have b2:=Yd q2 h1;have n2:0<=k+(GM (l.flatMap Dq) (j * 3+2):Int):=Ye h0;refine Fe<|ET<|De t0<|De t5<|De t1<|L8 vZ (args1 rfl)<|(iD n0 (by omega) hI0.glb).mono ?_;rintro e0 w1 ⟨rfl,z0⟩;have hI0:=hI0.grow hd hbs z0;have⟨u0,c0,f0,hI1⟩:=hI0.str' hd hnd q0<|qP n0<|by omega
 refine⟨_,rfl,eM GK rfl rfl rfl hj<|RM GK rfl rfl rfl<|Zg GK rfl rfl rfl rfl c0 f0 rfl<|ES ?_⟩;generalize hw2:World.setCell _ _ _=w2 at hI1⊢;refine Fe<|ET<|De t1<|eL rfl (by omega) (by unfold mB at b0;omega)<|IN rfl<|ES ?_;rw[x0];have⟨u1,c1,f1,hI2⟩:=hI1.int' hd hnd q1;refine Fe<|ET<|De t0<|De t5<|De rfl<|eM GK rfl rfl rfl hj<|RM GK rfl rfl rfl<|RM GK rfl rfl rfl<|Zg GK rfl rfl rfl rfl c1 f1 rfl<|ES ?_;generalize hw3:World.setCell _ _ _=w3 at hI2⊢;refine Fe<|ET<|De rfl<|eL rfl (by omega) (by unfold mB at b1;omega)<|IN rfl<|ES ?_;rw[x1];have k2:=Q9 (((l[j]).2).2) (k+(GM (l.flatMap Dq) (j * 3+2):Int)) n2 b2;have⟨u2,c2,d2⟩:=hI2.own' hd hnd hbs q2 k2;have d2:Calls Tryz.prog 50 #[u2,.int .i64 (k+(GM (l.flatMap Dq) (j * 3+2):Int))] w3 (λe' w'=>e'=.returned (.int .i64<|k+(GM (l.flatMap Dq) (j * 3+3):Int))∧Inv Tryz.prog St Rb 119 l.length (l.flatMap Dq) k (.slice (some ⟨g,0,none⟩) l.length cap) bs w0 (j * 3+3) w'):=d2;refine ET<|De t0<|De t5<|eM GK rfl rfl rfl hj<|RM GK rfl rfl rfl<|RM GK rfl rfl rfl<|P8 GK rfl rfl rfl c2<|De rfl<|L8 (Lr qK) (args2 rfl rfl)<|d2.mono ?_;rintro e2 w4 ⟨rfl,hI3⟩;refine⟨_,rfl,IN rfl<|ES ?_⟩;exact⟨rfl,t0,rfl,t5,hI3⟩
def Zd(l:List CO)(k:Int)(a:0<=k)(b:k+D6 (l.flatMap Dq)<=mB):Ld Tryz.prog 45 (.own 119 l.length<|l.flatMap Dq) k (.own 119 l.length<|KK Rb (l.flatMap Dq) k) (k+D6 (l.flatMap Dq)):=
 Vt GK (r:=36) (ty:=43) (it:=3) (bt:=4) Abp (by decide) rfl (Bl WU l) (by decide) (Zo l k a b rfl)
def Ahh(x:List CO):Cw (KY x)=true:=(ib (dpo Aa2 _) rfl)
def bI(x:List CO):Nat:=yd x
def ze(x:List CO)(k:Int):List CO:=Afe x k
def Akt(x:List CO)(k:Int):TX Rb (KY x) k=KY (ze x k):=by have h:TX Rb [oL 119 Dq x] k=_:=(mI Aht Aa4 _<|show TX Rb [] _=[]from rfl);refine h.trans ?_;simp only[KY,ze,bI,yd,Afe,J5,<-DH,DI,DH]
def Ahv(x:List CO):Ev (KY x)=bI x:=by have h:Ev [oL 119 Dq x]=_:=(bj Aa4 _<|show Ev []=0 from rfl);refine(show Ev (KY x)=_ from h).trans ?_;simp only[bI,yd,Afe,DI,CG,CH]
def XO(x:List CO)(k:Int)(p:0<=k)(h:k+Ev (KY x)<=mB):Ld Tryz.prog 16 (.agg<|KY x) k (.agg<|TX Rb (KY x) k) (k+Ev (KY x)):=by refine⟨Lr Abk,λw0 q v bs b c a i=>?_⟩;obtain⟨us,rfl,b⟩:=b;refine SI (rs:=[]) (vs:=[.agg us.toArray,.int .i64 k]) Abk (BQ rfl) ?_;have f:Cw (KY x)=true:=Ahh x;have d:=Tu.start (mt:=Rb) (k:=k) (t:=45) b f a i;refine Fe<|ET<|aO rfl<|TY<|ES ?_;have g:(KY x)[0]? =some (oL 119 Dq x):=rfl;have⟨r,j,l⟩:=d.own f c a g<|Zd x (k+(Ev ((KY x).take 0):Int)) (by omega)<|TJ g h;refine Fe<|ET<|RM GK rfl rfl rfl<|P8 GK rfl rfl rfl j<|De (tu (k:=k) (n:=Ev<|(KY x).take 0) rfl)<|L8 (Lr Abp) (args2 rfl rfl)<|l.mono ?_;rintro s u ⟨rfl,e⟩;refine⟨_,rfl,IN rfl<|ES ?_⟩;have⟨m,o⟩:=e.done<|BQ rfl;refine Fe<|ET<|De rfl<|IN rfl<|ES ?_;exact Yq ⟨.inl rfl,_,rfl,rfl,⟨us,rfl,m⟩,o⟩
def P2(x:List CO)(k:Int):Option (List CO×Int):=chk (0<=k∧k+(bI x:Int)<=mB)<|some (ze x k,k+bI x)
def XH{x k}(a:0<=k)(b:k+(bI x:Int)<=mB):P2 x k=some (ze x k,k+bI x):=A1 ⟨a,b⟩
def XI{x k r}(h:P2 x k=some r):Ld Tryz.prog 16 (.agg<|KY x) k (.agg<|KY r.1) r.2:=by have⟨⟨a,b⟩,h⟩:=UB h;have c:=Dt h;subst c;have e:=XO x k a (by rw[Ahv];exact b);rw[Akt,Ahv]at e;exact e
def dt(x:Hh):Nat:=(1)+(QS x.2)
def vT(x:Hh)(k:Int):Hh:=(Rb k,Um x.2<|k+((1:Nat):Int))
def Ahs(x:Hh)(k:Int):KK Rb (E4 x) k=E4 (vT x k):=by have h:KK Rb [.str x.1,oL 3 Ah x.2] k=_:=(mkc (n:=1) (c':=V.str _) rfl rfl<|mkc (oX hmI hcI _ _) (W6 hcI _)<|show KK Rb [] _=[]from rfl);refine h.trans ?_;simp only[E4,vT,dt,QS,Um,J5,<-DH,DI,DH]
def hc102(x:Hh):D6 (E4 x)=dt x:=by have h:D6 [.str x.1,oL 3 Ah x.2]=_:=(rX (n:=1) rfl<|rX (W6 hcI _)<|show D6 []=0 from rfl);refine(show D6 (E4 x)=_ from h).trans ?_;simp only[dt,QS,Um,DI,CG]
def uz(x:Hh):Cw (E4 x)=true:=(ib rfl<|ib (dpo (λ_=>rfl) _) rfl)
def uh(x:List Hh):Nat:=LI dt x
def Aff(x:List Hh)(k:Int):List Hh:=gx dt vT x k
def aR(l:List Hh)(k:Int)(h0:0<=k)(h1:k+D6 (l.flatMap E4)<=mB){body:LC}(hb:body=(.seq (.rgn [] [LL 12 (.move (.tmp 0)) 47,
   LL 13 (.move<|.tmp 5) 3,
   LL 14 (.move<|.tmp 1) 3,
   LL 15 (.call {callee:=(.value<|.func 85),args:= #[(.tmp 14)],argTypes:= #[3]}) 9,
   LL 16 (.indexAddr 47 (.tmp 12)<|.tmp 13) 0,
   LL 17 (.fieldAddr 102 (.tmp 16) 0) 0,
   ⟨none,(.store 9 (.tmp 17) (.tmp 15)),0,none⟩])
  (.seq (.rgn [] [LL 18 (.move (.tmp 1)) 3,
   LL 19 (.binOp .add 3 (.tmp 18) (.const<|.int .i64 1) 3) 3,
   LL 1 (.assign (.tmp 19)) 3])
  (.rgn [] [LL 20 (.move (.tmp 0)) 47,
   LL 21 (.move<|.tmp 5) 3,
   LL 22 (.indexAddr 47 (.tmp 20)<|.tmp 21) 0,
   LL 23 (.fieldAddr 102 (.tmp 22) 1) 0,
   LL 24 (.load 26<|.tmp 23) 26,
   LL 25 (.move<|.tmp 1) 3,
   LL 26 (.call {callee:=(.value<|.func 47),args:= #[(.tmp 24),(.tmp 25)],argTypes:= #[26,3]}) 3,
   LL 1 (.assign (.tmp 26)) 3])))):Round Tryz.prog 28 [] Rb 102 2 body l.length (l.flatMap E4) k:=by
 subst hb;intro St w0 bs g cap j w T hnd hbs hj hI0 t0 t1 t5;have hd:Cw (l.flatMap E4)=true:=QV uz l;have hI0:Inv Tryz.prog St Rb 102 l.length (l.flatMap E4) k (.slice (some ⟨g,0,none⟩) l.length cap) bs w0 (j * 2+0) w:=hI0;have t1:T 1=some (.int .i64<|k+(GM (l.flatMap E4) (j * 2+0):Int)):=t1;have q0:(l.flatMap E4)[j * 2+0]? =some (.str<|(l[j]).1):=(Vb cY hj<|by decide).trans rfl;have b0:=Yd q0 h1;rw[show Wd (.str<|(l[j]).1)=1 from rfl]at b0;have x0:k+(GM (l.flatMap E4) (j * 2+0):Int)+1=k+(GM (l.flatMap E4) (j * 2+1):Int):=jD (k:=k) q0 rfl;have n0:0<=k+(GM (l.flatMap E4) (j * 2+0):Int):=Ye h0;have q1:(l.flatMap E4)[j * 2+1]? =some (oL 3 Ah<|(l[j]).2):=(Vb cY hj<|by decide).trans rfl;have b1:=Yd q1 h1;have n1:0<=k+(GM (l.flatMap E4) (j * 2+1):Int):=Ye h0;refine Fe<|ET<|De t0<|De t5<|De t1<|L8 vZ (args1 rfl)<|(iD n0 (by omega) hI0.glb).mono ?_;rintro e0 w1 ⟨rfl,z0⟩;have hI0:=hI0.grow hd hbs z0;have⟨u0,c0,f0,hI1⟩:=hI0.str' hd hnd q0<|qP n0<|by omega
 refine⟨_,rfl,eM GK rfl rfl rfl hj<|RM GK rfl rfl rfl<|Zg GK rfl rfl rfl rfl c0 f0 rfl<|ES ?_⟩;generalize hw2:World.setCell _ _ _=w2 at hI1⊢;refine Fe<|ET<|De t1<|eL rfl (by omega) (by unfold mB at b0;omega)<|IN rfl<|ES ?_;rw[x0];have k1:=J4 ((l[j]).2) (k+(GM (l.flatMap E4) (j * 2+1):Int)) n1 b1;have⟨u1,c1,d1⟩:=hI1.own' hd hnd hbs q1 k1;have d1:Calls Tryz.prog 47 #[u1,.int .i64 (k+(GM (l.flatMap E4) (j * 2+1):Int))] w2 (λe' w'=>e'=.returned (.int .i64<|k+(GM (l.flatMap E4) (j * 2+2):Int))∧Inv Tryz.prog St Rb 102 l.length (l.flatMap E4) k (.slice (some ⟨g,0,none⟩) l.length cap) bs w0 (j * 2+2) w'):=d1;refine ET<|De t0<|De t5<|eM GK rfl rfl rfl hj<|RM GK rfl rfl rfl<|P8 GK rfl rfl rfl c1<|De rfl<|L8 (Lr eE) (args2 rfl rfl)<|d1.mono ?_;rintro e1 w3 ⟨rfl,hI2⟩;refine⟨_,rfl,IN rfl<|ES ?_⟩;exact⟨rfl,t0,rfl,t5,hI2⟩
def aK(l:List Hh)(k:Int)(a:0<=k)(b:k+D6 (l.flatMap E4)<=mB):Ld Tryz.prog 46 (.own 102 l.length<|l.flatMap E4) k (.own 102 l.length<|KK Rb (l.flatMap E4) k) (k+D6 (l.flatMap E4)):=
 Vt GK (r:=27) (ty:=47) (it:=3) (bt:=4) Abq (by decide) rfl (Bl cY l) (by decide) (aR l k a b rfl)
def Ahi(x:Fh):Cw (I7 x)=true:=(ib rfl<|ib (dpo uz _)<|ib (dpo (λ_=>rfl) _) rfl)
def dB(x:Fh):Nat:=uh x.2.1+QS x.2.2
def zf(x:Fh)(k:Int):Fh:=(x.1,Aff x.2.1 k,Um x.2.2<|k+((uh x.2.1:Nat):Int))
def Aku(x:Fh)(k:Int):TX Rb (I7 x) k=I7 (zf x k):=by have h:TX Rb [nI x.1,oL 102 E4 x.2.1,oL 3 Ah x.2.2] k=_:=(mka (λ_ _=>rfl)<|mI Ahs hc102 _<|mI hmI hcI _<|show TX Rb [] _=[]from rfl);refine h.trans ?_;simp only[I7,zf,dB,QS,uh,Um,Aff,J5,<-DH,DI,DH]
def Ahw(x:Fh):Ev (I7 x)=dB x:=by have h:Ev [nI x.1,oL 102 E4 x.2.1,oL 3 Ah x.2.2]=_:=(AcB (λ_=>rfl)<|bj hc102 _<|bj hcI _<|show Ev []=0 from rfl);refine(show Ev (I7 x)=_ from h).trans ?_;simp only[dB,QS,uh,Um,Aff,DI,CG,CH]
def aM(x:Fh)(k:Int)(w:0<=k)(j:k+Ev (I7 x)<=mB):Ld Tryz.prog 17 (.agg<|I7 x) k (.agg<|TX Rb (I7 x) k) (k+Ev (I7 x)):=by
 refine⟨Lr Abl,λw0 y v bs d b a o=>?_⟩;obtain⟨us,rfl,d⟩:=d;refine SI (rs:=[]) (vs:=[.agg us.toArray,.int .i64 k]) Abl (BQ rfl) ?_;have e:Cw (I7 x)=true:=Ahi x;have f:=Tu.start (mt:=Rb) (k:=k) (t:=49) d e a o;refine Fe<|ET<|aO rfl<|TY<|ES ?_;have g:=f.skip (c:=nI x.1) rfl<|λ_=>rfl
 have l:(I7 x)[1]? =some (oL 102 E4 x.2.1):=rfl;have⟨z,p,q⟩:=g.own e b a l<|aK x.2.1 (k+(Ev ((I7 x).take 1):Int)) (by omega)<|TJ l j;refine Fe<|ET<|RM GK rfl rfl rfl<|P8 GK rfl rfl rfl p<|De (tu (k:=k) (n:=Ev<|(I7 x).take 1) rfl)<|L8 (Lr Abq) (args2 rfl rfl)<|q.mono ?_;rintro A B ⟨rfl,h⟩;refine⟨_,rfl,IN rfl<|ES ?_⟩;have m:(I7 x)[2]? =some (oL 3 Ah x.2.2):=rfl;have⟨C,c2,r⟩:=h.own e b a m<|J4 x.2.2 (k+(Ev ((I7 x).take 2):Int)) (by omega)<|TJ m j;refine Fe<|ET<|RM GK rfl rfl rfl<|P8 GK rfl rfl rfl c2<|De rfl<|L8 (Lr eE) (args2 rfl rfl)<|r.mono ?_;rintro D F ⟨rfl,i⟩;refine⟨_,rfl,IN rfl<|ES ?_⟩;have⟨s,u⟩:=i.done<|BQ rfl;refine Fe<|ET<|De rfl<|IN rfl<|ES ?_;exact Yq ⟨.inl rfl,_,rfl,rfl,⟨us,rfl,s⟩,u⟩
def S0(x:Fh)(k:Int):Option (Fh×Int):=chk (0<=k∧k+(dB x:Int)<=mB)<|some (zf x k,k+dB x)
def aH{x k}(a:0<=k)(b:k+(dB x:Int)<=mB):S0 x k=some (zf x k,k+dB x):=A1 ⟨a,b⟩
def aI{x k r}(h:S0 x k=some r):Ld Tryz.prog 17 (.agg<|I7 x) k (.agg<|I7 r.1) r.2:=by have⟨⟨a,b⟩,h⟩:=UB h;have c:=Dt h;subst c;have e:=aM x k a (by rw[Ahw];exact b);rw[Aku,Ahw]at e;exact e
def Akn(x:zI):Cw (VJ x)=true:=(ib (dpo (λ_=>rfl) _) rfl)
def r9(x:zI):Nat:=QS x
def Afj(x:zI)(k:Int):zI:=Um x k
def V3(x:zI)(k:Int)(p:0<=k)(h:k+Ev (VJ x)<=mB):Ld Tryz.prog 48 (.agg<|VJ x) k (.agg<|TX Rb (VJ x) k) (k+Ev (VJ x)):=by refine⟨Lr vF,λw0 q v bs b c a i=>?_⟩;obtain⟨us,rfl,b⟩:=b;refine SI (rs:=[]) (vs:=[.agg us.toArray,.int .i64 k]) vF (BQ rfl) ?_;have f:Cw (VJ x)=true:=Akn x;have d:=Tu.start (mt:=Rb) (k:=k) (t:=51) b f a i;refine Fe<|ET<|aO rfl<|TY<|ES ?_;have g:(VJ x)[0]? =some (oL 3 Ah x):=rfl;have⟨r,j,l⟩:=d.own f c a g<|J4 x (k+(Ev ((VJ x).take 0):Int)) (by omega)<|TJ g h;refine Fe<|ET<|RM GK rfl rfl rfl<|P8 GK rfl rfl rfl j<|De (tu (k:=k) (n:=Ev<|(VJ x).take 0) rfl)<|L8 (Lr eE) (args2 rfl rfl)<|l.mono ?_;rintro s u ⟨rfl,e⟩;refine⟨_,rfl,IN rfl<|ES ?_⟩;have⟨m,o⟩:=e.done<|BQ rfl;refine Fe<|ET<|De rfl<|IN rfl<|ES ?_;exact Yq ⟨.inl rfl,_,rfl,rfl,⟨us,rfl,m⟩,o⟩
def Ako(x:Rm):Cw (LT x)=true:=(ib (dpo YN _)<|ib (dpo (λ_=>rfl) _) rfl)
def ur(x:Rm):Nat:=VX x.1+QS x.2
def Afk(x:Rm)(k:Int):Rm:=(eH x.1 k,Um x.2<|k+((VX x.1:Nat):Int))
def Ul(x:Rm)(k:Int)(u:0<=k)(h:k+Ev (LT x)<=mB):Ld Tryz.prog 49 (.agg<|LT x) k (.agg<|TX Rb (LT x) k) (k+Ev (LT x)):=by refine⟨Lr vG,λw0 w v bs c b a l=>?_⟩;obtain⟨us,rfl,c⟩:=c;refine SI (rs:=[]) (vs:=[.agg us.toArray,.int .i64 k]) vG (BQ rfl) ?_;have d:Cw (LT x)=true:=Ako x;have e:=Tu.start (mt:=Rb) (k:=k) (t:=52) c d a l;refine Fe<|ET<|aO rfl<|TY<|ES ?_;have i:(LT x)[0]? =some (oL 26 AK x.1):=rfl;have⟨y,m,o⟩:=e.own d b a i<|Q9 x.1 (k+(Ev ((LT x).take 0):Int)) (by omega)<|TJ i h;refine Fe<|ET<|RM GK rfl rfl rfl<|P8 GK rfl rfl rfl m<|De (tu (k:=k) (n:=Ev<|(LT x).take 0) rfl)<|L8 (Lr qK) (args2 rfl rfl)<|o.mono ?_;rintro z A ⟨rfl,f⟩;refine⟨_,rfl,IN rfl<|ES ?_⟩;have j:(LT x)[1]? =some (oL 3 Ah x.2):=rfl;have⟨B,p,q⟩:=f.own d b a j<|J4 x.2 (k+(Ev ((LT x).take 1):Int)) (by omega)<|TJ j h;refine Fe<|ET<|RM GK rfl rfl rfl<|P8 GK rfl rfl rfl p<|De rfl<|L8 (Lr eE) (args2 rfl rfl)<|q.mono ?_;rintro C D ⟨rfl,g⟩;refine⟨_,rfl,IN rfl<|ES ?_⟩;have⟨r,s⟩:=g.done<|BQ rfl;refine Fe<|ET<|De rfl<|IN rfl<|ES ?_;exact Yq ⟨.inl rfl,_,rfl,rfl,⟨us,rfl,r⟩,s⟩
def Ahj(x:ZS):Cw (E0 x)=true:=(ib rfl<|ib (dpo (λ_=>rfl) _)<|ib (dpo (λ_=>rfl) _)<|ib (dpo YN _)<|ib (dpo (λ_=>rfl) _) rfl)
def ge(x:ZS):Nat:=QS x.2.1+r9 x.2.2.1+ur x.2.2.2
def zg(x:ZS)(k:Int):ZS:=(x.1,Um x.2.1 k,Afj x.2.2.1<|k+((QS x.2.1:Nat):Int),Afk x.2.2.2<|k+((QS x.2.1:Nat):Int)+((r9 x.2.2.1:Nat):Int))
def Akv(x:ZS)(k:Int):TX Rb (E0 x) k=E0 (zg x k):=by have h:TX Rb [nI x.1,oL 3 Ah x.2.1,oL 3 Ah x.2.2.1,oL 26 AK x.2.2.2.1,oL 3 Ah x.2.2.2.2] k=_:=(mka (λ_ _=>rfl)<|mI hmI hcI _<|mI hmI hcI _<|mI AcZ oz _<|mI hmI hcI _<|show TX Rb [] _=[]from rfl);refine h.trans ?_;simp only[E0,zg,ge,VJ,LT,QS,VX,r9,ur,Um,eH,Afj,Afk,J5,<-DH,DI,DH]
def Ahx(x:ZS):Ev (E0 x)=ge x:=by have h:Ev [nI x.1,oL 3 Ah x.2.1,oL 3 Ah x.2.2.1,oL 26 AK x.2.2.2.1,oL 3 Ah x.2.2.2.2]=_:=(AcB (λ_=>rfl)<|bj hcI _<|bj hcI _<|bj oz _<|bj hcI _<|show Ev []=0 from rfl);refine(show Ev (E0 x)=_ from h).trans ?_;simp only[ge,VJ,LT,QS,VX,r9,ur,Um,eH,Afj,Afk,DI,CG,CH]
def bX(x:ZS)(k:Int)(D:0<=k)(e:k+Ev (E0 x)<=mB):Ld Tryz.prog 18 (.agg<|E0 x) k (.agg<|TX Rb (E0 x) k) (k+Ev (E0 x)):=by
 refine⟨Lr Abm,λw0 F v bs f b a q=>?_⟩;obtain⟨us,rfl,f⟩:=f;refine SI (rs:=[]) (vs:=[.agg us.toArray,.int .i64 k]) Abm (BQ rfl) ?_;have d:Cw (E0 x)=true:=Ahj x;have g:=Tu.start (mt:=Rb) (k:=k) (t:=54) f d a q;refine Fe<|ET<|aO rfl<|TY<|ES ?_;have h:=g.skip (c:=nI x.1) rfl<|λ_=>rfl
 have m:(E0 x)[1]? =some (oL 3 Ah x.2.1):=rfl;have⟨H,r,s⟩:=h.own d b a m<|J4 x.2.1 (k+(Ev ((E0 x).take 1):Int)) (by omega)<|TJ m e;refine Fe<|ET<|RM GK rfl rfl rfl<|P8 GK rfl rfl rfl r<|De (tu (k:=k) (n:=Ev<|(E0 x).take 1) rfl)<|L8 (Lr eE) (args2 rfl rfl)<|s.mono ?_;rintro I J ⟨rfl,i⟩;refine⟨_,rfl,IN rfl<|ES ?_⟩;have o:((E0 x).drop 2).take 1=VJ x.2.2.1:=rfl;have⟨K,u,c2,w⟩:=i.agg d b a (BQ rfl) o<|V3 x.2.2.1 (k+(Ev ((E0 x).take 2):Int)) (by omega)<|lM o e;refine Fe<|ET<|RM GK rfl rfl rfl<|mJ GK rfl u rfl c2<|De rfl<|L8 (Lr vF) (args2 rfl rfl)<|w.mono ?_;rintro L M ⟨rfl,j⟩;refine⟨_,rfl,IN rfl<|ES ?_⟩;have p:((E0 x).drop 3).take 2=LT x.2.2.2:=rfl;have⟨N,y,z,A⟩:=j.agg d b a (BQ rfl) p<|Ul x.2.2.2 (k+(Ev ((E0 x).take 3):Int)) (by omega)<|lM p e;refine Fe<|ET<|RM GK rfl rfl rfl<|mJ GK rfl y rfl z<|De rfl<|L8 (Lr vG) (args2 rfl rfl)<|A.mono ?_;rintro O P ⟨rfl,l⟩;refine⟨_,rfl,IN rfl<|ES ?_⟩;have⟨B,C⟩:=l.done<|BQ rfl;refine Fe<|ET<|De rfl<|IN rfl<|ES ?_;exact Yq ⟨.inl rfl,_,rfl,rfl,⟨us,rfl,B⟩,C⟩
def Uj(x:ZS)(k:Int):Option (ZS×Int):=chk (0<=k∧k+(ge x:Int)<=mB)<|some (zg x k,k+ge x)
def bQ{x k}(a:0<=k)(b:k+(ge x:Int)<=mB):Uj x k=some (zg x k,k+ge x):=A1 ⟨a,b⟩
def bR{x k r}(h:Uj x k=some r):Ld Tryz.prog 18 (.agg<|E0 x) k (.agg<|E0 r.1) r.2:=by have⟨⟨a,b⟩,h⟩:=UB h;have c:=Dt h;subst c;have e:=bX x k a (by rw[Ahx];exact b);rw[Akv,Ahx]at e;exact e
def YL(x:Dl):Nat:=VX x.2
def sG(x:Dl)(k:Int):Dl:=(x.1,eH x.2 k)
def Aks(x:Dl)(k:Int):TX Rb (EK x) k=EK (sG x k):=by have h:TX Rb [nI x.1,oL 26 AK x.2] k=_:=(mka (λ_ _=>rfl)<|mI AcZ oz _<|show TX Rb [] _=[]from rfl);refine h.trans ?_;simp only[EK,sG,YL,VX,eH,J5,<-DH,DI,DH]
def Ahu(x:Dl):Ev (EK x)=YL x:=by have h:Ev [nI x.1,oL 26 AK x.2]=_:=(AcB (λ_=>rfl)<|bj oz _<|show Ev []=0 from rfl);refine(show Ev (EK x)=_ from h).trans ?_;simp only[YL,VX,eH,DI,CG,CH]
def XP(x:Dl)(k:Int)(r:0<=k)(j:k+Ev (EK x)<=mB):Ld Tryz.prog 19 (.agg<|EK x) k (.agg<|TX Rb (EK x) k) (k+Ev (EK x)):=by
 refine⟨Lr Abn,λw0 s v bs b d a l=>?_⟩;obtain⟨us,rfl,b⟩:=b;refine SI (rs:=[]) (vs:=[.agg us.toArray,.int .i64 k]) Abn (BQ rfl) ?_;have h:Cw (EK x)=true:=Ahg x;have e:=Tu.start (mt:=Rb) (k:=k) (t:=40) b h a l;refine Fe<|ET<|aO rfl<|TY<|ES ?_;have f:=e.skip (c:=nI x.1) rfl<|λ_=>rfl
 have i:(EK x)[1]? =some (oL 26 AK x.2):=rfl;have⟨u,m,o⟩:=f.own h d a i<|Q9 x.2 (k+(Ev ((EK x).take 1):Int)) (by omega)<|TJ i j;refine Fe<|ET<|RM GK rfl rfl rfl<|P8 GK rfl rfl rfl m<|De (tu (k:=k) (n:=Ev<|(EK x).take 1) rfl)<|L8 (Lr qK) (args2 rfl rfl)<|o.mono ?_;rintro w y ⟨rfl,g⟩;refine⟨_,rfl,IN rfl<|ES ?_⟩;have⟨p,q⟩:=g.done<|BQ rfl;refine Fe<|ET<|De rfl<|IN rfl<|ES ?_;exact Yq ⟨.inl rfl,_,rfl,rfl,⟨us,rfl,p⟩,q⟩
def P3(x:Dl)(k:Int):Option (Dl×Int):=chk (0<=k∧k+(YL x:Int)<=mB)<|some (sG x k,k+YL x)
def XJ{x k}(a:0<=k)(b:k+(YL x:Int)<=mB):P3 x k=some (sG x k,k+YL x):=A1 ⟨a,b⟩
def XK{x k r}(h:P3 x k=some r):Ld Tryz.prog 19 (.agg<|EK x) k (.agg<|EK r.1) r.2:=by have⟨⟨a,b⟩,h⟩:=UB h;have c:=Dt h;subst c;have e:=XP x k a (by rw[Ahu];exact b);rw[Aks,Ahu]at e;exact e
def SG(x:zI):List V:=[aL Ah x]
def U8(x:zI):QF (SG x)=Bg x:=(A2 (I8 As _) rfl)
def jU(x:zI):HF (SG x)=true:=(acc (aca (λ_=>rfl) _) rfl)
def n9(x:Dl):List V:=[nI x.1,dL Bg x.2]
abbrev Tr:=zU×Dl
def Oi(x:Tr):List V:=[.str x.1,nI x.2.1,dL Bg x.2.2]
def lm(x:Tr):(Oi x).length=3:=rfl
def p8(x:Tr):QF (Oi x)=Oi x:=(A2 rfl<|A2 rfl<|A2 (Bq Cj _) rfl)
def U2(x:Tr):List V:=[.str x.1,nI x.2.1,aL SG x.2.2]
def YQ(x:Tr):QF (U2 x)=Oi x:=(A2 rfl<|A2 rfl<|A2 (I8 U8 _) rfl)
def x7(x:List Tr):List V:=[dL Oi x]
def pO(x:List Tr):List V:=[dL Oi x]
def x8(x:List Tr):List V:=[aL U2 x]
def TI(x:Hh):List V:=[.str x.1,dL Ah x.2]
def pA(x:Hh):(TI x).length=2:=rfl
def uB(x:Hh):QF (TI x)=TI x:=(A2 rfl<|A2 (Bq As _) rfl)
def bi(x:Hh):List V:=[.str x.1,aL Ah x.2]
def dF(x:Hh):QF (bi x)=TI x:=(A2 rfl<|A2 (I8 As _) rfl)
def Acw(x:List Hh):List V:=[dL TI x]
abbrev Y27:=Int×List Hh×zI
def ct(x:Y27):List V:=[nI x.1,dL TI x.2.1,dL Ah x.2.2]
def pP(x:Y27):List V:=[nI x.1,aL bi x.2.1,aL Ah x.2.2]
def Ag6(x:zI):List V:=[dL Ah x]
def jw(x:Rm):List V:=[dL Bg x.1,dL Ah x.2]
abbrev Y34:=Int×zI×zI×Rm
def W3(x:Y34):List V:=[nI x.1,dL Ah x.2.1,dL Ah x.2.2.1,dL Bg x.2.2.2.1,dL Ah x.2.2.2.2]
def g8(x:Y34):List V:=[nI x.1,aL Ah x.2.1,aL Ah x.2.2.1,aL SG x.2.2.2.1,aL Ah x.2.2.2.2]
def xN(x:zI):HF (SG x)=true:=(adc (ada (λ_=>rfl) _) rfl)
def Aj0(x:zI):Ups (Bg x) (SG x):=(upc (gP W4 _) upn)
def xO(x:Tr):HF (U2 x)=true:=(adc rfl<|adc rfl<|adc (ada jU _) rfl)
def Alz(x:Tr):Ups (Oi x) (U2 x):=(upc ⟨rfl,rfl⟩<|upc ⟨rfl,rfl⟩<|upc (gP Aj0 _) upn)
def Alu(x:List Tr):Ups (pO x) (x8 x):=(upc (gP Alz _) upn)
def xP(x:Hh):HF (bi x)=true:=(adc rfl<|adc (ada (λ_=>rfl) _) rfl)
def AlA(x:Hh):Ups (TI x) (bi x):=(upc ⟨rfl,rfl⟩<|upc (gP W4 _) upn)
def Alv(x:Y27):Ups (ct x) (pP x):=(upc ⟨rfl,rfl⟩<|upc (gP AlA _)<|upc (gP W4 _) upn)
def Aly(x:Y34):Ups (W3 x) (g8 x):=(upc ⟨rfl,rfl⟩<|upc (gP W4 _)<|upc (gP W4 _)<|upc (gP Aj0 _)<|upc (gP W4 _) upn)
end Go.Proofs.YtdnlfoelbfcmnaaGreatDoor
