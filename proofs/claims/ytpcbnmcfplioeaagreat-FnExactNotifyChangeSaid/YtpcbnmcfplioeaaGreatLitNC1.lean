/-
  The functions' code as the program holds it, without places and edges; printed by genlit.py. No conditions.
-/
import Derived.Test.YtpcbnmcfplioeaaGreatTb
namespace Go.Proofs.YtpcbnmcfplioeaaGreat
open Go.RowKit
set_option linter.unusedVariables false
set_option maxRecDepth 100000
theorem pJ : Bj 7 [2,3,4,7,9,12,13,15,17] [(65,2)] [(1,[19]),(5,[37]),(9,[46]),(10,[47]),(11,[56]),(12,[64]),(15,[89]),(16,[94]),(17,[96,97]),(19,[101,102])] Tryz.f7 := AE Tryz.func7 (by kernel_rfl)
theorem pK : Bj 8 [2,3,4,8,9,12,14,16] [(45,2),(47,2),(58,2),(63,2),(70,2)] [(3,[21]),(5,[35,36]),(9,[44]),(10,[57]),(11,[69]),(14,[95]),(15,[100]),(16,[102,103]),(17,[106]),(18,[108,109])] Tryz.f8 := AE Tryz.func8 (by kernel_rfl)
theorem pL : Bj 9 [1,3,5] [(34,3),(40,3),(45,5)] [(6,[33])] Tryz.f9 := AE Tryz.func9 (by kernel_rfl)
theorem mP : Bj 10 [1] [(30,1),(32,1),(40,1),(46,1)] [] Tryz.f10 := AE Tryz.func10 (by kernel_rfl)
theorem mQ : Bj 12 [2,3,4,6] [(25,2),(28,2),(31,3),(35,2),(38,3)] [(3,[24]),(4,[44])] Tryz.f12 := AE Tryz.func12 (by kernel_rfl)
theorem mR : Bj 15 [2,3] [] [] Tryz.f15 := AE Tryz.func15 (by kernel_rfl)
theorem mS : Bj 16 [2,3] [(27,2),(32,3)] [] Tryz.f16 := AE Tryz.func16 (by kernel_rfl)
theorem mT : Bj 17 [2] [] [] Tryz.f17 := AE Tryz.func17 (by kernel_rfl)
theorem mU : Bj 18 [2] [] [] Tryz.f18 := AE Tryz.func18 (by kernel_rfl)
theorem mV : Bj 19 [1,2,3] [] [(5,[16])] Tryz.f19 := AE Tryz.func19 (by kernel_rfl)
theorem mW : Bj 20 [1,2,3] [] [(5,[15])] Tryz.f20 := AE Tryz.func20 (by kernel_rfl)
theorem mX : Bj 21 [2,3] [] [] Tryz.f21 := AE Tryz.func21 (by kernel_rfl)
theorem mY : Bj 22 [] [] [] Tryz.f22 := AE Tryz.func22 (by kernel_rfl)
theorem mZ : Bj 23 [2,3] [] [] Tryz.f23 := AE Tryz.func23 (by kernel_rfl)
def c24 : LC :=
  (.seq (.rgn [] [LL 2 (.box 30 (.tmp 0)) 0,
 LL 4 (.assign (.const (.int .i64 0))) 3])
 (.seq (.rgn [] [LL 5 (.fieldAddr 30 (.tmp 2) 0) 0,
 LL 6 (.load 26 (.tmp 5)) 26,
 LL 7 (.move (.tmp 1)) 3,
 LL 8 (.call { callee := (.value (.func 68)),args := #[(.tmp 6),(.tmp 7)],argTypes := #[26,3] }) 3,
 LL 1 (.assign (.tmp 8)) 3])
 (.seq (.rgn [] [LL 9 (.fieldAddr 30 (.tmp 2) 1) 0,
 LL 10 (.load 27 (.tmp 9)) 27,
 LL 11 (.move (.tmp 1)) 3,
 LL 12 (.call { callee := (.value (.func 69)),args := #[(.tmp 10),(.tmp 11)],argTypes := #[27,3] }) 3,
 LL 1 (.assign (.tmp 12)) 3])
 (.seq (.rgn [] [LL 13 (.fieldAddr 30 (.tmp 2) 2) 0,
 LL 14 (.load 28 (.tmp 13)) 28,
 LL 15 (.move (.tmp 1)) 3,
 LL 16 (.call { callee := (.value (.func 26)),args := #[(.tmp 14),(.tmp 15)],argTypes := #[28,3] }) 3,
 LL 1 (.assign (.tmp 16)) 3])
 (.seq (.rgn [] [LL 17 (.move (.tmp 1)) 3,
 LL 4 (.assign (.tmp 17)) 3])
 .ret)))))
theorem jL : Lit Tryz.prog 24 18 [2] [.tmp 4] c24 := ⟨⟨Tryz.f24,_,Tryz.func24,rfl,by kernel_rfl,rfl,rfl,by kernel_rfl,by kernel_rfl⟩,by decide,by kernel_rfl⟩
def c25 : LC :=
  (.seq (.rgn [] [LL 2 (.box 35 (.tmp 0)) 0,
 LL 4 (.assign (.const (.int .i64 0))) 3])
 (.seq (.rgn [] [LL 5 (.fieldAddr 35 (.tmp 2) 1) 0,
 LL 6 (.load 33 (.tmp 5)) 33,
 LL 7 (.move (.tmp 1)) 3,
 LL 8 (.call { callee := (.value (.func 70)),args := #[(.tmp 6),(.tmp 7)],argTypes := #[33,3] }) 3,
 LL 1 (.assign (.tmp 8)) 3])
 (.seq (.rgn [] [LL 9 (.fieldAddr 35 (.tmp 2) 2) 0,
 LL 10 (.load 33 (.tmp 9)) 33,
 LL 11 (.move (.tmp 1)) 3,
 LL 12 (.call { callee := (.value (.func 70)),args := #[(.tmp 10),(.tmp 11)],argTypes := #[33,3] }) 3,
 LL 1 (.assign (.tmp 12)) 3])
 (.seq (.rgn [] [LL 13 (.move (.tmp 1)) 3,
 LL 4 (.assign (.tmp 13)) 3])
 .ret))))
theorem jM : Lit Tryz.prog 25 14 [2] [.tmp 4] c25 := ⟨⟨Tryz.f25,_,Tryz.func25,rfl,by kernel_rfl,rfl,rfl,by kernel_rfl,by kernel_rfl⟩,by decide,by kernel_rfl⟩
def c26 : LC :=
  (.seq (.rgn [] [LL 4 (.assign (.const (.int .i64 0))) 3])
 (.seq (.seq (.rgn [] [LL 5 (.assign (.const (.int .i64 0))) 3])
 (.blk 0
 (.loop []
 (.seq (.seq (.rgn [] [LL 6 (.move (.tmp 5)) 3,
 LL 7 (.move (.tmp 0)) 28,
 LL 8 (.call { callee := (.builtin .len),args := #[(.tmp 7)],argTypes := #[28] }) 3,
 LL 9 (.binOp .lss 3 (.tmp 6) (.tmp 8) 3) 4])
 (.cond (.tmp 9)
 .skip
 (.exit 0)))
 (.seq (.blk 1
 (.seq (.rgn [] [LL 12 (.move (.tmp 0)) 28,
 LL 13 (.move (.tmp 5)) 3,
 LL 14 (.move (.tmp 1)) 3,
 LL 15 (.indexAddr 28 (.tmp 12) (.tmp 13)) 0,
 LL 16 (.fieldAddr 44 (.tmp 15) 0) 0,
 ⟨none,(.store 3 (.tmp 16) (.tmp 14)),0,none⟩])
 (.seq (.rgn [] [LL 17 (.move (.tmp 1)) 3,
 LL 18 (.binOp .add 3 (.tmp 17) (.const (.int .i64 1)) 3) 3,
 LL 1 (.assign (.tmp 18)) 3])
 (.seq (.rgn [] [LL 19 (.move (.tmp 0)) 28,
 LL 20 (.move (.tmp 5)) 3,
 LL 21 (.indexAddr 28 (.tmp 19) (.tmp 20)) 0,
 LL 22 (.fieldAddr 44 (.tmp 21) 1) 0,
 LL 23 (.load 31 (.tmp 22)) 31,
 LL 24 (.move (.tmp 1)) 3,
 LL 25 (.call { callee := (.value (.func 71)),args := #[(.tmp 23),(.tmp 24)],argTypes := #[31,3] }) 3,
 LL 1 (.assign (.tmp 25)) 3])
 (.rgn [] [LL 26 (.move (.tmp 0)) 28,
 LL 27 (.move (.tmp 5)) 3,
 LL 28 (.indexAddr 28 (.tmp 26) (.tmp 27)) 0,
 LL 29 (.fieldAddr 44 (.tmp 28) 2) 0,
 LL 30 (.load 42 (.tmp 29)) 42,
 LL 31 (.move (.tmp 1)) 3,
 LL 32 (.call { callee := (.value (.func 72)),args := #[(.tmp 30),(.tmp 31)],argTypes := #[42,3] }) 3,
 LL 1 (.assign (.tmp 32)) 3])))))
 (.rgn [] [LL 10 (.move (.tmp 5)) 3,
 LL 11 (.binOp .add 3 (.tmp 10) (.const (.int .i64 1)) 3) 3,
 LL 5 (.assign (.tmp 11)) 3]))))))
 (.seq (.rgn [] [LL 33 (.move (.tmp 1)) 3,
 LL 4 (.assign (.tmp 33)) 3])
 .ret)))
theorem jN : Lit Tryz.prog 26 34 [] [.tmp 4] c26 := ⟨⟨Tryz.f26,_,Tryz.func26,rfl,by kernel_rfl,rfl,rfl,by kernel_rfl,by kernel_rfl⟩,by decide,by kernel_rfl⟩
theorem m3 : Bj 27 [2] [] [] Tryz.f27 := AE Tryz.func27 (by kernel_rfl)
theorem m5 : Bj 28 [] [] [] Tryz.f28 := AE Tryz.func28 (by kernel_rfl)
theorem m6 : Bj 32 [2,3,4,6,8,10,12] [] [(1,[14]),(4,[24]),(5,[31]),(6,[38])] Tryz.f32 := AE Tryz.func32 (by kernel_rfl)
theorem m7 : Bj 33 [1,2,3,5,7] [(19,3),(25,3),(34,3),(40,3)] [(4,[18]),(5,[20]),(9,[33]),(10,[35]),(12,[42])] Tryz.f33 := AE Tryz.func33 (by kernel_rfl)
theorem m8 : Bj 34 [3,4,5,6,8,10,12] [(43,10),(45,12)] [(1,[14]),(2,[20]),(3,[26])] Tryz.f34 := AE Tryz.func34 (by kernel_rfl)
theorem m9 : Bj 35 [3,4,5,6,8,10] [(39,3)] [(1,[12]),(4,[29]),(7,[42])] Tryz.f35 := AE Tryz.func35 (by kernel_rfl)
theorem na : Bj 36 [2,3,4,6,9] [] [(6,[35]),(12,[56])] Tryz.f36 := AE Tryz.func36 (by kernel_rfl)
theorem nc : Bj 37 [1,2,3,4] [(19,4),(21,1),(29,4),(37,4),(39,1),(48,4)] [(2,[10]),(6,[20]),(10,[38]),(11,[49])] Tryz.f37 := AE Tryz.func37 (by kernel_rfl)
theorem ne : Bj 38 [2,3,4,6,8,10,12,14] [] [(1,[16]),(4,[26]),(5,[33]),(6,[40]),(9,[51]),(10,[59])] Tryz.f38 := AE Tryz.func38 (by kernel_rfl)
theorem nf : Bj 39 [3,4,5,6,8,10,12,14] [] [(1,[16]),(2,[22]),(3,[28]),(6,[45]),(7,[52])] Tryz.f39 := AE Tryz.func39 (by kernel_rfl)
theorem ng : Bj 40 [3,4,5,6,8,10] [(39,3)] [(1,[12]),(4,[29]),(7,[42])] Tryz.f40 := AE Tryz.func40 (by kernel_rfl)
theorem nh : Bj 41 [1,4] [(17,4),(25,1),(32,4),(38,4),(44,4),(45,4),(50,4),(51,4)] [(5,[16])] Tryz.f41 := AE Tryz.func41 (by kernel_rfl)
theorem ni : Bj 42 [2,3,5] [] [(1,[7])] Tryz.f42 := AE Tryz.func42 (by kernel_rfl)
theorem nj : Bj 43 [2,3] [] [] Tryz.f43 := AE Tryz.func43 (by kernel_rfl)
theorem nk : Bj 44 [1,4] [(17,4),(25,1),(32,4),(38,4),(44,4),(45,4),(51,4),(52,4)] [(4,[16])] Tryz.f44 := AE Tryz.func44 (by kernel_rfl)
theorem nl : Bj 45 [2,3,5] [] [(1,[7])] Tryz.f45 := AE Tryz.func45 (by kernel_rfl)
theorem nn : Bj 48 [1] [] [] Tryz.f48 := AE Tryz.func48 (by kernel_rfl)
theorem np : Bj 49 [6,8,10,14,28] [(44,10),(46,10),(48,10),(55,10),(70,14),(72,8),(79,14),(80,14),(82,10),(84,10),(88,14)] [(1,[16]),(4,[10,28]),(15,[71,76]),(16,[81]),(19,[93])] Tryz.f49 := AE Tryz.func49 (by kernel_rfl)
theorem nq : Bj 50 [] [] [] Tryz.f50 := AE Tryz.func50 (by kernel_rfl)
theorem nr : Bj 52 [2,3,4,6] [(23,3)] [(5,[19]),(6,[22]),(9,[35])] Tryz.f52 := AE Tryz.func52 (by kernel_rfl)
theorem nu : Bj 53 [2,3,6] [(17,3),(29,6),(31,3)] [(4,[15])] Tryz.f53 := AE Tryz.func53 (by kernel_rfl)
theorem nv : Bj 55 [] [] [] Tryz.f55 := AE Tryz.func55 (by kernel_rfl)
theorem nw : Bj 56 [2] [] [] Tryz.f56 := AE Tryz.func56 (by kernel_rfl)
theorem nx : Bj 57 [] [] [] Tryz.f57 := AE Tryz.func57 (by kernel_rfl)
theorem ny : Bj 58 [] [] [] Tryz.f58 := AE Tryz.func58 (by kernel_rfl)
theorem nz : Bj 59 [2] [] [] Tryz.f59 := AE Tryz.func59 (by kernel_rfl)
theorem nA : Bj 60 [1,2,3] [] [(3,[8])] Tryz.f60 := AE Tryz.func60 (by kernel_rfl)
theorem nB : Bj 61 [3,7] [] [(1,[3,7]),(6,[22])] Tryz.f61 := AE Tryz.func61 (by kernel_rfl)
theorem nC : Bj 62 [3,7] [] [(1,[3,7]),(6,[22])] Tryz.f62 := AE Tryz.func62 (by kernel_rfl)
theorem nD : Bj 63 [1,2,3] [] [(4,[11])] Tryz.f63 := AE Tryz.func63 (by kernel_rfl)
theorem nE : Bj 64 [2,3] [] [] Tryz.f64 := AE Tryz.func64 (by kernel_rfl)
theorem nF : Bj 65 [] [] [] Tryz.f65 := AE Tryz.func65 (by kernel_rfl)
theorem nG : Bj 66 [2,3] [] [] Tryz.f66 := AE Tryz.func66 (by kernel_rfl)
theorem nH : Bj 67 [2,3] [] [] Tryz.f67 := AE Tryz.func67 (by kernel_rfl)
def c68 : LC :=
  (.seq (.rgn [] [LL 2 (.box 26 (.tmp 0)) 0,
 LL 4 (.assign (.const (.int .i64 0))) 3])
 (.seq (.rgn [] [LL 5 (.fieldAddr 26 (.tmp 2) 0) 0,
 LL 6 (.load 24 (.tmp 5)) 24,
 LL 7 (.move (.tmp 1)) 3,
 LL 8 (.call { callee := (.value (.func 136)),args := #[(.tmp 6),(.tmp 7)],argTypes := #[24,3] }) 3,
 LL 1 (.assign (.tmp 8)) 3])
 (.seq (.rgn [] [LL 9 (.move (.tmp 1)) 3,
 LL 4 (.assign (.tmp 9)) 3])
 .ret)))
theorem du : Lit Tryz.prog 68 10 [2] [.tmp 4] c68 := ⟨⟨Tryz.f68,_,Tryz.func68,rfl,by kernel_rfl,rfl,rfl,by kernel_rfl,by kernel_rfl⟩,by decide,by kernel_rfl⟩
def c69 : LC :=
  (.seq (.rgn [] [LL 4 (.assign (.const (.int .i64 0))) 3])
 (.seq (.seq (.rgn [] [LL 5 (.assign (.const (.int .i64 0))) 3])
 (.blk 0
 (.loop []
 (.seq (.seq (.rgn [] [LL 6 (.move (.tmp 5)) 3,
 LL 7 (.move (.tmp 0)) 27,
 LL 8 (.call { callee := (.builtin .len),args := #[(.tmp 7)],argTypes := #[27] }) 3,
 LL 9 (.binOp .lss 3 (.tmp 6) (.tmp 8) 3) 4])
 (.cond (.tmp 9)
 .skip
 (.exit 0)))
 (.seq (.blk 1
 (.seq (.rgn [] [LL 12 (.move (.tmp 0)) 27,
 LL 13 (.move (.tmp 5)) 3,
 LL 14 (.move (.tmp 1)) 3,
 LL 15 (.indexAddr 27 (.tmp 12) (.tmp 13)) 0,
 LL 16 (.fieldAddr 54 (.tmp 15) 0) 0,
 LL 17 (.fieldAddr 52 (.tmp 16) 0) 0,
 ⟨none,(.store 3 (.tmp 17) (.tmp 14)),0,none⟩])
 (.seq (.rgn [] [LL 18 (.move (.tmp 1)) 3,
 LL 19 (.binOp .add 3 (.tmp 18) (.const (.int .i64 1)) 3) 3,
 LL 1 (.assign (.tmp 19)) 3])
 (.seq (.rgn [] [LL 20 (.move (.tmp 0)) 27,
 LL 21 (.move (.tmp 5)) 3,
 LL 22 (.indexAddr 27 (.tmp 20) (.tmp 21)) 0,
 LL 23 (.fieldAddr 54 (.tmp 22) 0) 0,
 LL 24 (.fieldAddr 52 (.tmp 23) 1) 0,
 LL 25 (.load 50 (.tmp 24)) 50,
 LL 26 (.move (.tmp 1)) 3,
 LL 27 (.call { callee := (.value (.func 137)),args := #[(.tmp 25),(.tmp 26)],argTypes := #[50,3] }) 3,
 LL 1 (.assign (.tmp 27)) 3])
 (.seq (.rgn [] [LL 28 (.move (.tmp 0)) 27,
 LL 29 (.move (.tmp 5)) 3,
 LL 30 (.indexAddr 27 (.tmp 28) (.tmp 29)) 0,
 LL 31 (.fieldAddr 54 (.tmp 30) 0) 0,
 LL 32 (.fieldAddr 52 (.tmp 31) 2) 0,
 LL 33 (.load 42 (.tmp 32)) 42,
 LL 34 (.move (.tmp 1)) 3,
 LL 35 (.call { callee := (.value (.func 72)),args := #[(.tmp 33),(.tmp 34)],argTypes := #[42,3] }) 3,
 LL 1 (.assign (.tmp 35)) 3])
 (.seq (.rgn [] [LL 36 (.move (.tmp 0)) 27,
 LL 37 (.move (.tmp 5)) 3,
 LL 38 (.move (.tmp 1)) 3,
 LL 39 (.indexAddr 27 (.tmp 36) (.tmp 37)) 0,
 LL 40 (.fieldAddr 54 (.tmp 39) 1) 0,
 LL 41 (.fieldAddr 44 (.tmp 40) 0) 0,
 ⟨none,(.store 3 (.tmp 41) (.tmp 38)),0,none⟩])
 (.seq (.rgn [] [LL 42 (.move (.tmp 1)) 3,
 LL 43 (.binOp .add 3 (.tmp 42) (.const (.int .i64 1)) 3) 3,
 LL 1 (.assign (.tmp 43)) 3])
 (.seq (.rgn [] [LL 44 (.move (.tmp 0)) 27,
 LL 45 (.move (.tmp 5)) 3,
 LL 46 (.indexAddr 27 (.tmp 44) (.tmp 45)) 0,
 LL 47 (.fieldAddr 54 (.tmp 46) 1) 0,
 LL 48 (.fieldAddr 44 (.tmp 47) 1) 0,
 LL 49 (.load 31 (.tmp 48)) 31,
 LL 50 (.move (.tmp 1)) 3,
 LL 51 (.call { callee := (.value (.func 71)),args := #[(.tmp 49),(.tmp 50)],argTypes := #[31,3] }) 3,
 LL 1 (.assign (.tmp 51)) 3])
 (.rgn [] [LL 52 (.move (.tmp 0)) 27,
 LL 53 (.move (.tmp 5)) 3,
 LL 54 (.indexAddr 27 (.tmp 52) (.tmp 53)) 0,
 LL 55 (.fieldAddr 54 (.tmp 54) 1) 0,
 LL 56 (.fieldAddr 44 (.tmp 55) 2) 0,
 LL 57 (.load 42 (.tmp 56)) 42,
 LL 58 (.move (.tmp 1)) 3,
 LL 59 (.call { callee := (.value (.func 72)),args := #[(.tmp 57),(.tmp 58)],argTypes := #[42,3] }) 3,
 LL 1 (.assign (.tmp 59)) 3])))))))))
 (.rgn [] [LL 10 (.move (.tmp 5)) 3,
 LL 11 (.binOp .add 3 (.tmp 10) (.const (.int .i64 1)) 3) 3,
 LL 5 (.assign (.tmp 11)) 3]))))))
 (.seq (.rgn [] [LL 60 (.move (.tmp 1)) 3,
 LL 4 (.assign (.tmp 60)) 3])
 .ret)))
theorem jO : Lit Tryz.prog 69 61 [] [.tmp 4] c69 := ⟨⟨Tryz.f69,_,Tryz.func69,rfl,by kernel_rfl,rfl,rfl,by kernel_rfl,by kernel_rfl⟩,by decide,by kernel_rfl⟩
def c70 : LC :=
  (.seq (.rgn [] [LL 2 (.box 33 (.tmp 0)) 0,
 LL 4 (.assign (.const (.int .i64 0))) 3])
 (.seq (.rgn [] [LL 5 (.fieldAddr 33 (.tmp 2) 1) 0,
 LL 6 (.load 31 (.tmp 5)) 31,
 LL 7 (.move (.tmp 1)) 3,
 LL 8 (.call { callee := (.value (.func 71)),args := #[(.tmp 6),(.tmp 7)],argTypes := #[31,3] }) 3,
 LL 1 (.assign (.tmp 8)) 3])
 (.seq (.rgn [] [LL 9 (.move (.tmp 1)) 3,
 LL 4 (.assign (.tmp 9)) 3])
 .ret)))
theorem Z6 : Lit Tryz.prog 70 10 [2] [.tmp 4] c70 := ⟨⟨Tryz.f70,_,Tryz.func70,rfl,by kernel_rfl,rfl,rfl,by kernel_rfl,by kernel_rfl⟩,by decide,by kernel_rfl⟩
def c71 : LC :=
  (.seq (.rgn [] [LL 4 (.assign (.const (.int .i64 0))) 3])
 (.seq (.seq (.rgn [] [LL 5 (.assign (.const (.int .i64 0))) 3])
 (.blk 0
 (.loop []
 (.seq (.seq (.rgn [] [LL 6 (.move (.tmp 5)) 3,
 LL 7 (.move (.tmp 0)) 31,
 LL 8 (.call { callee := (.builtin .len),args := #[(.tmp 7)],argTypes := #[31] }) 3,
 LL 9 (.binOp .lss 3 (.tmp 6) (.tmp 8) 3) 4])
 (.cond (.tmp 9)
 .skip
 (.exit 0)))
 (.seq (.blk 1
 (.rgn [] [LL 12 (.move (.tmp 0)) 31,
 LL 13 (.move (.tmp 5)) 3,
 LL 14 (.indexAddr 31 (.tmp 12) (.tmp 13)) 0,
 LL 15 (.load 42 (.tmp 14)) 42,
 LL 16 (.move (.tmp 1)) 3,
 LL 17 (.call { callee := (.value (.func 72)),args := #[(.tmp 15),(.tmp 16)],argTypes := #[42,3] }) 3,
 LL 1 (.assign (.tmp 17)) 3]))
 (.rgn [] [LL 10 (.move (.tmp 5)) 3,
 LL 11 (.binOp .add 3 (.tmp 10) (.const (.int .i64 1)) 3) 3,
 LL 5 (.assign (.tmp 11)) 3]))))))
 (.seq (.rgn [] [LL 18 (.move (.tmp 1)) 3,
 LL 4 (.assign (.tmp 18)) 3])
 .ret)))
theorem XR : Lit Tryz.prog 71 19 [] [.tmp 4] c71 := ⟨⟨Tryz.f71,_,Tryz.func71,rfl,by kernel_rfl,rfl,rfl,by kernel_rfl,by kernel_rfl⟩,by decide,by kernel_rfl⟩
def c72 : LC :=
  (.seq (.rgn [] [LL 4 (.assign (.const (.int .i64 0))) 3])
 (.seq (.seq (.rgn [] [LL 5 (.assign (.const (.int .i64 0))) 3])
 (.blk 0
 (.loop []
 (.seq (.seq (.rgn [] [LL 6 (.move (.tmp 5)) 3,
 LL 7 (.move (.tmp 0)) 42,
 LL 8 (.call { callee := (.builtin .len),args := #[(.tmp 7)],argTypes := #[42] }) 3,
 LL 9 (.binOp .lss 3 (.tmp 6) (.tmp 8) 3) 4])
 (.cond (.tmp 9)
 .skip
 (.exit 0)))
 (.seq (.blk 1
 (.seq (.rgn [] [LL 12 (.move (.tmp 0)) 42,
 LL 13 (.move (.tmp 5)) 3,
 LL 14 (.move (.tmp 1)) 3,
 LL 15 (.indexAddr 42 (.tmp 12) (.tmp 13)) 0,
 ⟨none,(.store 3 (.tmp 15) (.tmp 14)),0,none⟩])
 (.rgn [] [LL 16 (.move (.tmp 1)) 3,
 LL 17 (.binOp .add 3 (.tmp 16) (.const (.int .i64 1)) 3) 3,
 LL 1 (.assign (.tmp 17)) 3])))
 (.rgn [] [LL 10 (.move (.tmp 5)) 3,
 LL 11 (.binOp .add 3 (.tmp 10) (.const (.int .i64 1)) 3) 3,
 LL 5 (.assign (.tmp 11)) 3]))))))
 (.seq (.rgn [] [LL 18 (.move (.tmp 1)) 3,
 LL 4 (.assign (.tmp 18)) 3])
 .ret)))
theorem Wv : Lit Tryz.prog 72 19 [] [.tmp 4] c72 := ⟨⟨Tryz.f72,_,Tryz.func72,rfl,by kernel_rfl,rfl,rfl,by kernel_rfl,by kernel_rfl⟩,by decide,by kernel_rfl⟩
theorem nJ : Bj 73 [2] [] [] Tryz.f73 := AE Tryz.func73 (by kernel_rfl)
theorem nK : Bj 74 [] [] [] Tryz.f74 := AE Tryz.func74 (by kernel_rfl)
theorem nL : Bj 75 [] [] [] Tryz.f75 := AE Tryz.func75 (by kernel_rfl)
theorem nM : Bj 76 [] [] [] Tryz.f76 := AE Tryz.func76 (by kernel_rfl)
theorem nN : Bj 87 [2,3,4,6,8] [(43,8),(44,8),(50,8),(51,8),(71,8),(72,8),(78,8),(79,8)] [(1,[13]),(7,[38]),(9,[45]),(13,[60]),(15,[73]),(17,[81])] Tryz.f87 := AE Tryz.func87 (by kernel_rfl)
theorem nO : Bj 88 [1,2,3,5] [(13,3),(15,5),(17,5),(23,3)] [(4,[12]),(5,[14]),(7,[25])] Tryz.f88 := AE Tryz.func88 (by kernel_rfl)
theorem nP : Bj 89 [2,4,7] [] [(4,[16])] Tryz.f89 := AE Tryz.func89 (by kernel_rfl)
theorem nQ : Bj 90 [2,3,4,6] [(39,6),(45,6)] [(6,[34]),(8,[40]),(10,[47])] Tryz.f90 := AE Tryz.func90 (by kernel_rfl)
theorem nR : Bj 91 [2,3,4] [(22,2),(24,2),(27,3)] [] Tryz.f91 := AE Tryz.func91 (by kernel_rfl)
theorem nS : Bj 92 [3,5,6,8,10] [(60,8),(68,8),(73,8)] [(9,[57]),(10,[65]),(13,[79])] Tryz.f92 := AE Tryz.func92 (by kernel_rfl)
theorem nT : Bj 93 [1,2] [(3,1),(6,1)] [] Tryz.f93 := AE Tryz.func93 (by kernel_rfl)
theorem nU : Bj 94 [1,2] [(3,1),(5,1),(8,1)] [] Tryz.f94 := AE Tryz.func94 (by kernel_rfl)
theorem nV : Bj 95 [2,3,4,6,8,10] [] [(1,[12]),(4,[21]),(5,[26]),(8,[38])] Tryz.f95 := AE Tryz.func95 (by kernel_rfl)
theorem nW : Bj 96 [1,2,3] [(13,3),(16,3),(14,900003),(14,900004),(17,900003),(17,900004),(19,900003),(19,900004),(22,900003),(22,900004)] [(5,[20]),(7,[24])] Tryz.f96 := AE Tryz.func96 (by kernel_rfl)
theorem nX : Bj 97 [1,2,3,5] [(6,1),(8,1),(19,3),(21,5),(23,5),(29,3)] [(4,[18]),(5,[20]),(7,[31])] Tryz.f97 := AE Tryz.func97 (by kernel_rfl)
theorem nY : Bj 98 [1] [] [] Tryz.f98 := AE Tryz.func98 (by kernel_rfl)
theorem nZ : Bj 99 [0,1000000] [(0,0),(28,0),(30,0),(31,0),(32,0),(41,0),(42,0),(43,0),(48,0),(49,0),(50,0),(51,0),(52,0),(53,0),(61,0),(62,0),(63,0),(68,0),(69,0)] [(2,[24])] Tryz.f99 := AE Tryz.func99 (by kernel_rfl)
theorem gZ : Bj 100 [1,2,3] [(19,3),(21,1),(28,3)] [(6,[20,25]),(7,[30]),(9,[36])] Tryz.f100 := AE Tryz.func100 (by kernel_rfl)
theorem g0 : Bj 101 [1,2,3,5] [(21,3),(23,1),(33,3)] [(6,[22,29]),(7,[34])] Tryz.f101 := AE Tryz.func101 (by kernel_rfl)
theorem hH : Bj 102 [1,2] [(3,1),(6,1)] [] Tryz.f102 := AE Tryz.func102 (by kernel_rfl)
theorem hM : Bj 103 [1,2,3,4] [(22,4),(24,1),(32,4)] [(2,[13]),(6,[23]),(7,[33])] Tryz.f103 := AE Tryz.func103 (by kernel_rfl)
theorem hY : Bj 104 [2,3,4,6,8,10,12,14] [] [(3,[21]),(4,[28]),(5,[35]),(6,[43]),(7,[49]),(8,[57,58])] Tryz.f104 := AE Tryz.func104 (by kernel_rfl)
theorem hZ : Bj 105 [2,4] [] [] Tryz.f105 := AE Tryz.func105 (by kernel_rfl)
theorem ia : Bj 106 [2,3,4,6] [(38,2),(48,6),(51,2),(59,6)] [(9,[49,55]),(10,[60])] Tryz.f106 := AE Tryz.func106 (by kernel_rfl)
theorem ib : Bj 107 [2,3,4,6] [(25,2),(28,2),(31,3)] [(3,[24]),(4,[37])] Tryz.f107 := AE Tryz.func107 (by kernel_rfl)
theorem ic : Bj 108 [3,5,6,8,11] [] [(6,[24]),(8,[34]),(11,[46,47]),(13,[54])] Tryz.f108 := AE Tryz.func108 (by kernel_rfl)
theorem ie : Bj 109 [2,3,4,6,7,9] [] [(4,[26]),(5,[31]),(6,[38])] Tryz.f109 := AE Tryz.func109 (by kernel_rfl)
theorem ig : Bj 110 [1,2,3] [(5,1),(8,1),(19,3),(21,1),(28,1),(38,3)] [(5,[20,33]),(6,[39])] Tryz.f110 := AE Tryz.func110 (by kernel_rfl)
theorem ii : Bj 111 [] [] [] Tryz.f111 := AE Tryz.func111 (by kernel_rfl)
theorem ij : Bj 112 [1] [] [] Tryz.f112 := AE Tryz.func112 (by kernel_rfl)
theorem ik : Bj 113 [] [] [] Tryz.f113 := AE Tryz.func113 (by kernel_rfl)
theorem il : Bj 114 [] [] [] Tryz.f114 := AE Tryz.func114 (by kernel_rfl)
theorem im : Bj 115 [] [] [] Tryz.f115 := AE Tryz.func115 (by kernel_rfl)
theorem io : Bj 116 [1] [(21,1),(27,1),(31,1),(43,1),(49,1)] [] Tryz.f116 := AE Tryz.func116 (by kernel_rfl)
theorem ip : Bj 117 [] [] [] Tryz.f117 := AE Tryz.func117 (by kernel_rfl)
theorem iq : Bj 118 [4,7] [] [(9,[39])] Tryz.f118 := AE Tryz.func118 (by kernel_rfl)
theorem ir : Bj 119 [2] [] [] Tryz.f119 := AE Tryz.func119 (by kernel_rfl)
theorem iu : Bj 121 [4,5,10] [(29,5),(76,10)] [(2,[23]),(4,[27]),(8,[46]),(17,[98]),(18,[106])] Tryz.f121 := AE Tryz.func121 (by kernel_rfl)
theorem iv : Bj 122 [1] [(65,1),(74,1),(111,1),(116,1),(122,1),(126,1)] [] Tryz.f122 := AE Tryz.func122 (by kernel_rfl)
theorem iw : Bj 123 [] [] [(5,[14]),(6,[24])] Tryz.f123 := AE Tryz.func123 (by kernel_rfl)
theorem iy : Bj 124 [] [] [] Tryz.f124 := AE Tryz.func124 (by kernel_rfl)
theorem iz : Bj 125 [2] [] [] Tryz.f125 := AE Tryz.func125 (by kernel_rfl)
theorem iA : Bj 126 [2] [] [] Tryz.f126 := AE Tryz.func126 (by kernel_rfl)
theorem iB : Bj 127 [] [] [] Tryz.f127 := AE Tryz.func127 (by kernel_rfl)
theorem iC : Bj 128 [3,7] [] [(1,[3,7]),(6,[22])] Tryz.f128 := AE Tryz.func128 (by kernel_rfl)
theorem iD : Bj 129 [1,2,3] [] [(4,[12])] Tryz.f129 := AE Tryz.func129 (by kernel_rfl)
theorem iE : Bj 130 [1,2,3] [] [(5,[15])] Tryz.f130 := AE Tryz.func130 (by kernel_rfl)
theorem iF : Bj 131 [3,7] [] [(1,[3,7]),(6,[22])] Tryz.f131 := AE Tryz.func131 (by kernel_rfl)
theorem iG : Bj 132 [] [] [] Tryz.f132 := AE Tryz.func132 (by kernel_rfl)
theorem iH : Bj 133 [2,3] [] [] Tryz.f133 := AE Tryz.func133 (by kernel_rfl)
theorem iI : Bj 134 [] [] [] Tryz.f134 := AE Tryz.func134 (by kernel_rfl)
theorem iJ : Bj 135 [] [] [] Tryz.f135 := AE Tryz.func135 (by kernel_rfl)
def pq : LC :=
  (.seq (.rgn [] [LL 4 (.assign (.const (.int .i64 0))) 3])
 (.seq (.seq (.rgn [] [LL 5 (.assign (.const (.int .i64 0))) 3])
 (.blk 0
 (.loop []
 (.seq (.seq (.rgn [] [LL 6 (.move (.tmp 5)) 3,
 LL 7 (.move (.tmp 0)) 24,
 LL 8 (.call { callee := (.builtin .len),args := #[(.tmp 7)],argTypes := #[24] }) 3,
 LL 9 (.binOp .lss 3 (.tmp 6) (.tmp 8) 3) 4])
 (.cond (.tmp 9)
 .skip
 (.exit 0)))
 (.seq (.blk 1
 (.seq (.rgn [] [LL 12 (.move (.tmp 0)) 24,
 LL 13 (.move (.tmp 5)) 3,
 LL 14 (.move (.tmp 1)) 3,
 LL 15 (.call { callee := (.value (.func 173)),args := #[(.tmp 14)],argTypes := #[3] }) 9,
 LL 16 (.indexAddr 24 (.tmp 12) (.tmp 13)) 0,
 LL 17 (.fieldAddr 123 (.tmp 16) 0) 0,
 ⟨none,(.store 9 (.tmp 17) (.tmp 15)),0,none⟩])
 (.seq (.rgn [] [LL 18 (.move (.tmp 1)) 3,
 LL 19 (.binOp .add 3 (.tmp 18) (.const (.int .i64 1)) 3) 3,
 LL 1 (.assign (.tmp 19)) 3])
 (.seq (.rgn [] [LL 20 (.move (.tmp 0)) 24,
 LL 21 (.move (.tmp 5)) 3,
 LL 22 (.move (.tmp 1)) 3,
 LL 23 (.indexAddr 24 (.tmp 20) (.tmp 21)) 0,
 LL 24 (.fieldAddr 123 (.tmp 23) 1) 0,
 LL 25 (.fieldAddr 33 (.tmp 24) 0) 0,
 ⟨none,(.store 3 (.tmp 25) (.tmp 22)),0,none⟩])
 (.seq (.rgn [] [LL 26 (.move (.tmp 1)) 3,
 LL 27 (.binOp .add 3 (.tmp 26) (.const (.int .i64 1)) 3) 3,
 LL 1 (.assign (.tmp 27)) 3])
 (.rgn [] [LL 28 (.move (.tmp 0)) 24,
 LL 29 (.move (.tmp 5)) 3,
 LL 30 (.indexAddr 24 (.tmp 28) (.tmp 29)) 0,
 LL 31 (.fieldAddr 123 (.tmp 30) 1) 0,
 LL 32 (.fieldAddr 33 (.tmp 31) 1) 0,
 LL 33 (.load 31 (.tmp 32)) 31,
 LL 34 (.move (.tmp 1)) 3,
 LL 35 (.call { callee := (.value (.func 71)),args := #[(.tmp 33),(.tmp 34)],argTypes := #[31,3] }) 3,
 LL 1 (.assign (.tmp 35)) 3]))))))
 (.rgn [] [LL 10 (.move (.tmp 5)) 3,
 LL 11 (.binOp .add 3 (.tmp 10) (.const (.int .i64 1)) 3) 3,
 LL 5 (.assign (.tmp 11)) 3]))))))
 (.seq (.rgn [] [LL 36 (.move (.tmp 1)) 3,
 LL 4 (.assign (.tmp 36)) 3])
 .ret)))
theorem bG : Lit Tryz.prog 136 37 [] [.tmp 4] pq := ⟨⟨Tryz.f136,_,Tryz.func136,rfl,by kernel_rfl,rfl,rfl,by kernel_rfl,by kernel_rfl⟩,by decide,by kernel_rfl⟩
def pr : LC :=
  (.seq (.rgn [] [LL 4 (.assign (.const (.int .i64 0))) 3])
 (.seq (.seq (.rgn [] [LL 5 (.assign (.const (.int .i64 0))) 3])
 (.blk 0
 (.loop []
 (.seq (.seq (.rgn [] [LL 6 (.move (.tmp 5)) 3,
 LL 7 (.move (.tmp 0)) 50,
 LL 8 (.call { callee := (.builtin .len),args := #[(.tmp 7)],argTypes := #[50] }) 3,
 LL 9 (.binOp .lss 3 (.tmp 6) (.tmp 8) 3) 4])
 (.cond (.tmp 9)
 .skip
 (.exit 0)))
 (.seq (.blk 1
 (.seq (.rgn [] [LL 12 (.move (.tmp 0)) 50,
 LL 13 (.move (.tmp 5)) 3,
 LL 14 (.move (.tmp 1)) 3,
 LL 15 (.call { callee := (.value (.func 173)),args := #[(.tmp 14)],argTypes := #[3] }) 9,
 LL 16 (.indexAddr 50 (.tmp 12) (.tmp 13)) 0,
 LL 17 (.fieldAddr 146 (.tmp 16) 0) 0,
 ⟨none,(.store 9 (.tmp 17) (.tmp 15)),0,none⟩])
 (.seq (.rgn [] [LL 18 (.move (.tmp 1)) 3,
 LL 19 (.binOp .add 3 (.tmp 18) (.const (.int .i64 1)) 3) 3,
 LL 1 (.assign (.tmp 19)) 3])
 (.rgn [] [LL 20 (.move (.tmp 0)) 50,
 LL 21 (.move (.tmp 5)) 3,
 LL 22 (.indexAddr 50 (.tmp 20) (.tmp 21)) 0,
 LL 23 (.fieldAddr 146 (.tmp 22) 1) 0,
 LL 24 (.load 42 (.tmp 23)) 42,
 LL 25 (.move (.tmp 1)) 3,
 LL 26 (.call { callee := (.value (.func 72)),args := #[(.tmp 24),(.tmp 25)],argTypes := #[42,3] }) 3,
 LL 1 (.assign (.tmp 26)) 3]))))
 (.rgn [] [LL 10 (.move (.tmp 5)) 3,
 LL 11 (.binOp .add 3 (.tmp 10) (.const (.int .i64 1)) 3) 3,
 LL 5 (.assign (.tmp 11)) 3]))))))
 (.seq (.rgn [] [LL 27 (.move (.tmp 1)) 3,
 LL 4 (.assign (.tmp 27)) 3])
 .ret)))
theorem bH : Lit Tryz.prog 137 28 [] [.tmp 4] pr := ⟨⟨Tryz.f137,_,Tryz.func137,rfl,by kernel_rfl,rfl,rfl,by kernel_rfl,by kernel_rfl⟩,by decide,by kernel_rfl⟩
theorem iK : Bj 138 [] [] [] Tryz.f138 := AE Tryz.func138 (by kernel_rfl)
theorem iL : Bj 139 [] [] [] Tryz.f139 := AE Tryz.func139 (by kernel_rfl)
theorem iM : Bj 145 [1,2,3] [(15,3),(18,1),(26,3)] [(5,[16,22]),(6,[27])] Tryz.f145 := AE Tryz.func145 (by kernel_rfl)
theorem iN : Bj 146 [] [] [] Tryz.f146 := AE Tryz.func146 (by kernel_rfl)
theorem iO : Bj 147 [2,3,4,6] [(29,3),(30,3),(32,6),(37,3),(38,3),(40,6)] [(1,[8])] Tryz.f147 := AE Tryz.func147 (by kernel_rfl)
theorem iP : Bj 148 [2] [] [] Tryz.f148 := AE Tryz.func148 (by kernel_rfl)
theorem iQ : Bj 149 [] [] [(1,[4])] Tryz.f149 := AE Tryz.func149 (by kernel_rfl)
theorem iR : Bj 150 [1,2] [(3,1),(5,1)] [] Tryz.f150 := AE Tryz.func150 (by kernel_rfl)
theorem iS : Bj 151 [4,8] [] [(3,[14]),(10,[34])] Tryz.f151 := AE Tryz.func151 (by kernel_rfl)
theorem iT : Bj 152 [] [] [(4,[11]),(5,[12]),(7,[18])] Tryz.f152 := AE Tryz.func152 (by kernel_rfl)
theorem iU : Bj 153 [2,3,4,9,10,19] [(76,3)] [(7,[34]),(13,[47]),(16,[55]),(17,[56]),(19,[67,68]),(22,[73]),(23,[74]),(28,[85])] Tryz.f153 := AE Tryz.func153 (by kernel_rfl)
theorem iV : Bj 154 [1,2,4] [(9,1),(11,1)] [(6,[21]),(8,[26])] Tryz.f154 := AE Tryz.func154 (by kernel_rfl)
theorem iW : Bj 155 [2,4,6,9] [(35,2)] [(6,[31]),(12,[48])] Tryz.f155 := AE Tryz.func155 (by kernel_rfl)
theorem iX : Bj 156 [] [] [(5,[21])] Tryz.f156 := AE Tryz.func156 (by kernel_rfl)
theorem iY : Bj 157 [] [] [] Tryz.f157 := AE Tryz.func157 (by kernel_rfl)
theorem iZ : Bj 158 [2,3,5] [] [(1,[7])] Tryz.f158 := AE Tryz.func158 (by kernel_rfl)
theorem i9 : Bj 159 [1,2,4,5] [] [(4,[16]),(8,[26]),(9,[30])] Tryz.f159 := AE Tryz.func159 (by kernel_rfl)
theorem ja : Bj 160 [2,4,9] [(21,2)] [(12,[44]),(13,[54]),(14,[63])] Tryz.f160 := AE Tryz.func160 (by kernel_rfl)
theorem jb : Bj 161 [] [] [] Tryz.f161 := AE Tryz.func161 (by kernel_rfl)
theorem jc : Bj 162 [] [] [(2,[12]),(16,[53]),(18,[58]),(21,[75,76]),(22,[79])] Tryz.f162 := AE Tryz.func162 (by kernel_rfl)
theorem jd : Bj 163 [2] [] [] Tryz.f163 := AE Tryz.func163 (by kernel_rfl)
theorem je : Bj 164 [] [] [] Tryz.f164 := AE Tryz.func164 (by kernel_rfl)
theorem jf : Bj 165 [2] [] [] Tryz.f165 := AE Tryz.func165 (by kernel_rfl)
theorem jg : Bj 166 [2] [] [] Tryz.f166 := AE Tryz.func166 (by kernel_rfl)
theorem jh : Bj 167 [] [] [] Tryz.f167 := AE Tryz.func167 (by kernel_rfl)
theorem ji : Bj 168 [1,2,3] [] [(4,[11])] Tryz.f168 := AE Tryz.func168 (by kernel_rfl)
theorem jk : Bj 169 [1,2,3] [] [(5,[15])] Tryz.f169 := AE Tryz.func169 (by kernel_rfl)
theorem jl : Bj 170 [3,7] [] [(1,[3,7]),(6,[21])] Tryz.f170 := AE Tryz.func170 (by kernel_rfl)
theorem jm : Bj 171 [2,3] [] [] Tryz.f171 := AE Tryz.func171 (by kernel_rfl)
theorem jn : Bj 172 [2,3] [] [] Tryz.f172 := AE Tryz.func172 (by kernel_rfl)
theorem bI : Bj 173 [] [] [] Tryz.f173 := AE Tryz.func173 (by kernel_rfl)
theorem jo : Bj 178 [] [] [] Tryz.f178 := AE Tryz.func178 (by kernel_rfl)
theorem jp : Bj 179 [] [] [(13,[47,50]),(17,[59,62]),(19,[67])] Tryz.f179 := AE Tryz.func179 (by kernel_rfl)
theorem jq : Bj 180 [2,3,6,7] [] [(5,[23]),(6,[24])] Tryz.f180 := AE Tryz.func180 (by kernel_rfl)
theorem jr : Bj 181 [2,3,4] [] [] Tryz.f181 := AE Tryz.func181 (by kernel_rfl)
theorem js : Bj 182 [] [] [(11,[55])] Tryz.f182 := AE Tryz.func182 (by kernel_rfl)
theorem jt : Bj 183 [] [] [(10,[58]),(6,[30]),(12,[66])] Tryz.f183 := AE Tryz.func183 (by kernel_rfl)
theorem ju : Bj 184 [] [] [] Tryz.f184 := AE Tryz.func184 (by kernel_rfl)
theorem jv : Bj 185 [] [] [(5,[15]),(7,[23])] Tryz.f185 := AE Tryz.func185 (by kernel_rfl)
theorem jw : Bj 186 [] [] [] Tryz.f186 := AE Tryz.func186 (by kernel_rfl)
theorem jx : Bj 187 [] [] [] Tryz.f187 := AE Tryz.func187 (by kernel_rfl)
theorem jy : Bj 188 [3,7] [] [(1,[3,7]),(6,[22])] Tryz.f188 := AE Tryz.func188 (by kernel_rfl)
theorem jz : Bj 189 [] [] [] Tryz.f189 := AE Tryz.func189 (by kernel_rfl)
theorem jA : Bj 191 [1,4,6,31] [] [(4,[4,31]),(7,[38])] Tryz.f191 := AE Tryz.func191 (by kernel_rfl)
theorem jB : Bj 192 [1] [] [(6,[12]),(7,[16])] Tryz.f192 := AE Tryz.func192 (by kernel_rfl)
theorem jC : Bj 193 [2,3,4,6,7,12,53] [] [(3,[22]),(5,[45]),(9,[52]),(10,[12,53]),(20,[87,88]),(23,[97])] Tryz.f193 := AE Tryz.func193 (by kernel_rfl)
theorem jD : Bj 194 [] [] [] Tryz.f194 := AE Tryz.func194 (by kernel_rfl)
theorem jE : Bj 195 [] [] [] Tryz.f195 := AE Tryz.func195 (by kernel_rfl)
theorem jF : Bj 196 [2] [] [] Tryz.f196 := AE Tryz.func196 (by kernel_rfl)
theorem jG : Bj 197 [1,2,3] [] [(4,[11])] Tryz.f197 := AE Tryz.func197 (by kernel_rfl)
theorem jH : Bj 198 [2,3] [] [] Tryz.f198 := AE Tryz.func198 (by kernel_rfl)
theorem jI : Bj 199 [] [] [] Tryz.f199 := AE Tryz.func199 (by kernel_rfl)
theorem jJ : Bj 200 [2] [] [] Tryz.f200 := AE Tryz.func200 (by kernel_rfl)
theorem jK : Bj 201 [] [] [] Tryz.f201 := AE Tryz.func201 (by kernel_rfl)
end Go.Proofs.YtpcbnmcfplioeaaGreat
