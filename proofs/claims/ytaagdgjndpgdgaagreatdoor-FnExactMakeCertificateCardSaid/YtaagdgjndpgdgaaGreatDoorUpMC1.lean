/-
  The functions' code as the program holds it, without places and edges; printed by genlit.py. No conditions.
-/
import Derived.Test.YtaagdgjndpgdgaaGreatDoorTb
import Derived.Test.YtaagdgjndpgdgaaGreatDoorKb
import Derived.Test.YtaagdgjndpgdgaaGreatDoorKd
import Derived.Test.YtaagdgjndpgdgaaGreatDoorKc
open Go.RowKit
set_option linter.unusedVariables false
set_option linter.unusedSimpArgs false
namespace Go.Proofs.YtaagdgjndpgdgaaGreatDoor
set_option maxRecDepth 100000
theorem Aew : BS 5 [2] [] [] Tryz.f5 := Bj Tryz.func5 (by kernel_rfl)
theorem Aex : BS 7 [1, 2, 3] [] [(5, [15])] Tryz.f7 := Bj Tryz.func7 (by kernel_rfl)
theorem Aey : BS 8 [3, 7] [] [(1, [3, 7]), (6, [21])] Tryz.f8 := Bj Tryz.func8 (by kernel_rfl)
theorem Acw : BS 11 [2, 3] [] [] Tryz.f11 := Bj Tryz.func11 (by kernel_rfl)
theorem Acx : BS 12 [] [] [] Tryz.f12 := Bj Tryz.func12 (by kernel_rfl)
def c13 : LC :=
  (.seq (.rgn [] [LL 2 (.box 38 (.tmp 0)) 0,
 LL 4 (.assign (.const (.int .i64 0))) 3])
 (.seq (.rgn [] [LL 5 (.fieldAddr 38 (.tmp 2) 1) 0,
 LL 6 (.load 36 (.tmp 5)) 36,
 LL 7 (.move (.tmp 1)) 3,
 LL 8 (.call { callee := (.value (.func 44)), args := #[(.tmp 6), (.tmp 7)], argTypes := #[36, 3] }) 3,
 LL 1 (.assign (.tmp 8)) 3])
 (.seq (.rgn [] [LL 9 (.fieldAddr 38 (.tmp 2) 2) 0,
 LL 10 (.load 23 (.tmp 9)) 23,
 LL 11 (.move (.tmp 1)) 3,
 LL 12 (.call { callee := (.value (.func 14)), args := #[(.tmp 10), (.tmp 11)], argTypes := #[23, 3] }) 3,
 LL 1 (.assign (.tmp 12)) 3])
 (.seq (.rgn [] [LL 13 (.move (.tmp 1)) 3,
 LL 4 (.assign (.tmp 13)) 3])
 .ret))))
theorem vP : Lit Tryz.prog 13 14 [2] [.tmp 4] c13 := ⟨⟨Tryz.f13, _, Tryz.func13, rfl, by kernel_rfl, rfl, rfl, by kernel_rfl, by kernel_rfl⟩, by decide, by kernel_rfl⟩
def c14 : LC :=
  (.seq (.rgn [] [LL 4 (.assign (.const (.int .i64 0))) 3])
 (.seq (.seq (.rgn [] [LL 5 (.assign (.const (.int .i64 0))) 3])
 (.blk 0
 (.loop []
 (.seq (.seq (.rgn [] [LL 6 (.move (.tmp 5)) 3,
 LL 7 (.move (.tmp 0)) 23,
 LL 8 (.call { callee := (.builtin .len), args := #[(.tmp 7)], argTypes := #[23] }) 3,
 LL 9 (.binOp .lss 3 (.tmp 6) (.tmp 8) 3) 4])
 (.cond (.tmp 9)
 .skip
 (.exit 0)))
 (.seq (.blk 1
 (.seq (.rgn [] [LL 12 (.move (.tmp 0)) 23,
 LL 13 (.move (.tmp 5)) 3,
 LL 14 (.move (.tmp 1)) 3,
 LL 15 (.indexAddr 23 (.tmp 12) (.tmp 13)) 0,
 ⟨none, (.store 3 (.tmp 15) (.tmp 14)), 0, none⟩])
 (.rgn [] [LL 16 (.move (.tmp 1)) 3,
 LL 17 (.binOp .add 3 (.tmp 16) (.const (.int .i64 1)) 3) 3,
 LL 1 (.assign (.tmp 17)) 3])))
 (.rgn [] [LL 10 (.move (.tmp 5)) 3,
 LL 11 (.binOp .add 3 (.tmp 10) (.const (.int .i64 1)) 3) 3,
 LL 5 (.assign (.tmp 11)) 3]))))))
 (.seq (.rgn [] [LL 18 (.move (.tmp 1)) 3,
 LL 4 (.assign (.tmp 18)) 3])
 .ret)))
theorem cM : Lit Tryz.prog 14 19 [] [.tmp 4] c14 := ⟨⟨Tryz.f14, _, Tryz.func14, rfl, by kernel_rfl, rfl, rfl, by kernel_rfl, by kernel_rfl⟩, by decide, by kernel_rfl⟩
theorem Acy : BS 17 [2] [] [] Tryz.f17 := Bj Tryz.func17 (by kernel_rfl)
theorem Acz : BS 18 [3, 4, 6, 8] [(50, 8)] [(1, [15]), (2, [23]), (5, [36]), (8, [46, 48, 49])] Tryz.f18 := Bj Tryz.func18 (by kernel_rfl)
theorem AcA : BS 19 [1, 2, 3] [] [(3, [8])] Tryz.f19 := Bj Tryz.func19 (by kernel_rfl)
theorem AcB : BS 20 [3, 4, 6, 12] [(50, 12)] [(1, [15]), (2, [21]), (3, [27]), (6, [48, 49])] Tryz.f20 := Bj Tryz.func20 (by kernel_rfl)
theorem AcC : BS 21 [2, 3] [] [] Tryz.f21 := Bj Tryz.func21 (by kernel_rfl)
theorem AcD : BS 22 [2, 3] [] [] Tryz.f22 := Bj Tryz.func22 (by kernel_rfl)
def c23 : LC :=
  (.seq (.rgn [] [LL 2 (.box 59 (.tmp 0)) 0,
 LL 4 (.assign (.const (.int .i64 0))) 3])
 (.seq (.rgn [] [LL 5 (.fieldAddr 59 (.tmp 2) 0) 0,
 LL 6 (.load 57 (.tmp 5)) 57,
 LL 7 (.move (.tmp 1)) 3,
 LL 8 (.call { callee := (.value (.func 61)), args := #[(.tmp 6), (.tmp 7)], argTypes := #[57, 3] }) 3,
 LL 1 (.assign (.tmp 8)) 3])
 (.seq (.rgn [] [LL 9 (.move (.tmp 1)) 3,
 LL 4 (.assign (.tmp 9)) 3])
 .ret)))
theorem vQ : Lit Tryz.prog 23 10 [2] [.tmp 4] c23 := ⟨⟨Tryz.f23, _, Tryz.func23, rfl, by kernel_rfl, rfl, rfl, by kernel_rfl, by kernel_rfl⟩, by decide, by kernel_rfl⟩
def c24 : LC :=
  (.seq (.rgn [] [LL 2 (.box 54 (.tmp 0)) 0,
 LL 4 (.assign (.const (.int .i64 0))) 3])
 (.seq (.rgn [] [LL 5 (.fieldAddr 54 (.tmp 2) 0) 0,
 LL 6 (.load 23 (.tmp 5)) 23,
 LL 7 (.move (.tmp 1)) 3,
 LL 8 (.call { callee := (.value (.func 14)), args := #[(.tmp 6), (.tmp 7)], argTypes := #[23, 3] }) 3,
 LL 1 (.assign (.tmp 8)) 3])
 (.seq (.rgn [] [LL 9 (.fieldAddr 54 (.tmp 2) 1) 0,
 LL 10 (.load 52 (.tmp 9)) 52,
 LL 11 (.move (.tmp 1)) 3,
 LL 12 (.call { callee := (.value (.func 62)), args := #[(.tmp 10), (.tmp 11)], argTypes := #[52, 3] }) 3,
 LL 1 (.assign (.tmp 12)) 3])
 (.seq (.rgn [] [LL 13 (.fieldAddr 54 (.tmp 2) 2) 0,
 LL 14 (.load 23 (.tmp 13)) 23,
 LL 15 (.move (.tmp 1)) 3,
 LL 16 (.call { callee := (.value (.func 14)), args := #[(.tmp 14), (.tmp 15)], argTypes := #[23, 3] }) 3,
 LL 1 (.assign (.tmp 16)) 3])
 (.seq (.rgn [] [LL 17 (.move (.tmp 1)) 3,
 LL 4 (.assign (.tmp 17)) 3])
 .ret)))))
theorem vR : Lit Tryz.prog 24 18 [2] [.tmp 4] c24 := ⟨⟨Tryz.f24, _, Tryz.func24, rfl, by kernel_rfl, rfl, rfl, by kernel_rfl, by kernel_rfl⟩, by decide, by kernel_rfl⟩
theorem AcE : BS 25 [2] [] [] Tryz.f25 := Bj Tryz.func25 (by kernel_rfl)
theorem AcF : BS 26 [] [] [] Tryz.f26 := Bj Tryz.func26 (by kernel_rfl)
theorem AcG : BS 27 [] [] [] Tryz.f27 := Bj Tryz.func27 (by kernel_rfl)
theorem AcH : BS 28 [1] [(65, 1), (74, 1), (111, 1), (116, 1), (122, 1), (126, 1)] [] Tryz.f28 := Bj Tryz.func28 (by kernel_rfl)
theorem AcI : BS 32 [2, 3] [] [] Tryz.f32 := Bj Tryz.func32 (by kernel_rfl)
theorem AcJ : BS 34 [3, 7] [] [(1, [3, 7]), (6, [22])] Tryz.f34 := Bj Tryz.func34 (by kernel_rfl)
theorem AcK : BS 35 [1, 4, 6, 31] [] [(4, [4, 31]), (7, [38])] Tryz.f35 := Bj Tryz.func35 (by kernel_rfl)
theorem AcL : BS 39 [2, 3] [] [] Tryz.f39 := Bj Tryz.func39 (by kernel_rfl)
theorem AcM : BS 43 [] [] [] Tryz.f43 := Bj Tryz.func43 (by kernel_rfl)
def c44 : LC :=
  (.seq (.rgn [] [LL 4 (.assign (.const (.int .i64 0))) 3])
 (.seq (.seq (.rgn [] [LL 5 (.assign (.const (.int .i64 0))) 3])
 (.blk 0
 (.loop []
 (.seq (.seq (.rgn [] [LL 6 (.move (.tmp 5)) 3,
 LL 7 (.move (.tmp 0)) 36,
 LL 8 (.call { callee := (.builtin .len), args := #[(.tmp 7)], argTypes := #[36] }) 3,
 LL 9 (.binOp .lss 3 (.tmp 6) (.tmp 8) 3) 4])
 (.cond (.tmp 9)
 .skip
 (.exit 0)))
 (.seq (.blk 1
 (.seq (.rgn [] [LL 12 (.move (.tmp 0)) 36,
 LL 13 (.move (.tmp 5)) 3,
 LL 14 (.move (.tmp 1)) 3,
 LL 15 (.call { callee := (.value (.func 102)), args := #[(.tmp 14)], argTypes := #[3] }) 9,
 LL 16 (.indexAddr 36 (.tmp 12) (.tmp 13)) 0,
 LL 17 (.fieldAddr 104 (.tmp 16) 0) 0,
 ⟨none, (.store 9 (.tmp 17) (.tmp 15)), 0, none⟩])
 (.seq (.rgn [] [LL 18 (.move (.tmp 1)) 3,
 LL 19 (.binOp .add 3 (.tmp 18) (.const (.int .i64 1)) 3) 3,
 LL 1 (.assign (.tmp 19)) 3])
 (.rgn [] [LL 20 (.move (.tmp 0)) 36,
 LL 21 (.move (.tmp 5)) 3,
 LL 22 (.indexAddr 36 (.tmp 20) (.tmp 21)) 0,
 LL 23 (.fieldAddr 104 (.tmp 22) 1) 0,
 LL 24 (.load 23 (.tmp 23)) 23,
 LL 25 (.move (.tmp 1)) 3,
 LL 26 (.call { callee := (.value (.func 14)), args := #[(.tmp 24), (.tmp 25)], argTypes := #[23, 3] }) 3,
 LL 1 (.assign (.tmp 26)) 3]))))
 (.rgn [] [LL 10 (.move (.tmp 5)) 3,
 LL 11 (.binOp .add 3 (.tmp 10) (.const (.int .i64 1)) 3) 3,
 LL 5 (.assign (.tmp 11)) 3]))))))
 (.seq (.rgn [] [LL 27 (.move (.tmp 1)) 3,
 LL 4 (.assign (.tmp 27)) 3])
 .ret)))
theorem vS : Lit Tryz.prog 44 28 [] [.tmp 4] c44 := ⟨⟨Tryz.f44, _, Tryz.func44, rfl, by kernel_rfl, rfl, rfl, by kernel_rfl, by kernel_rfl⟩, by decide, by kernel_rfl⟩
theorem AcN : BS 47 [] [] [] Tryz.f47 := Bj Tryz.func47 (by kernel_rfl)
theorem AcO : BS 50 [] [] [] Tryz.f50 := Bj Tryz.func50 (by kernel_rfl)
theorem AcP : BS 51 [3, 4, 6, 13] [] [(1, [15]), (6, [30]), (7, [38]), (10, [48])] Tryz.f51 := Bj Tryz.func51 (by kernel_rfl)
theorem AcQ : BS 52 [2, 3] [(23, 3)] [(3, [13]), (7, [21]), (8, [33])] Tryz.f52 := Bj Tryz.func52 (by kernel_rfl)
theorem AcR : BS 53 [2, 6] [] [(1, [14]), (10, [47]), (16, [69]), (17, [70])] Tryz.f53 := Bj Tryz.func53 (by kernel_rfl)
theorem AcS : BS 54 [3, 7] [] [(1, [3, 7]), (6, [22])] Tryz.f54 := Bj Tryz.func54 (by kernel_rfl)
theorem AcT : BS 55 [2, 3, 8] [] [(6, [19]), (7, [20]), (9, [29])] Tryz.f55 := Bj Tryz.func55 (by kernel_rfl)
theorem AcU : BS 56 [2, 8] [] [(9, [37]), (13, [49]), (16, [56]), (19, [66]), (21, [68])] Tryz.f56 := Bj Tryz.func56 (by kernel_rfl)
theorem AcV : BS 57 [3, 4, 6] [] [(1, [14]), (6, [29]), (9, [44])] Tryz.f57 := Bj Tryz.func57 (by kernel_rfl)
theorem AcW : BS 58 [] [] [(1, [4])] Tryz.f58 := Bj Tryz.func58 (by kernel_rfl)
theorem AcX : BS 59 [] [] [] Tryz.f59 := Bj Tryz.func59 (by kernel_rfl)
theorem AcY : BS 60 [] [] [] Tryz.f60 := Bj Tryz.func60 (by kernel_rfl)
def c61 : LC :=
  (.seq (.rgn [] [LL 4 (.assign (.const (.int .i64 0))) 3])
 (.seq (.seq (.rgn [] [LL 5 (.assign (.const (.int .i64 0))) 3])
 (.blk 0
 (.loop []
 (.seq (.seq (.rgn [] [LL 6 (.move (.tmp 5)) 3,
 LL 7 (.move (.tmp 0)) 57,
 LL 8 (.call { callee := (.builtin .len), args := #[(.tmp 7)], argTypes := #[57] }) 3,
 LL 9 (.binOp .lss 3 (.tmp 6) (.tmp 8) 3) 4])
 (.cond (.tmp 9)
 .skip
 (.exit 0)))
 (.seq (.blk 1
 (.seq (.rgn [] [LL 12 (.move (.tmp 0)) 57,
 LL 13 (.move (.tmp 5)) 3,
 LL 14 (.move (.tmp 1)) 3,
 LL 15 (.call { callee := (.value (.func 102)), args := #[(.tmp 14)], argTypes := #[3] }) 9,
 LL 16 (.indexAddr 57 (.tmp 12) (.tmp 13)) 0,
 LL 17 (.fieldAddr 154 (.tmp 16) 0) 0,
 ⟨none, (.store 9 (.tmp 17) (.tmp 15)), 0, none⟩])
 (.seq (.rgn [] [LL 18 (.move (.tmp 1)) 3,
 LL 19 (.binOp .add 3 (.tmp 18) (.const (.int .i64 1)) 3) 3,
 LL 1 (.assign (.tmp 19)) 3])
 (.seq (.rgn [] [LL 20 (.move (.tmp 0)) 57,
 LL 21 (.move (.tmp 5)) 3,
 LL 22 (.move (.tmp 1)) 3,
 LL 23 (.indexAddr 57 (.tmp 20) (.tmp 21)) 0,
 LL 24 (.fieldAddr 154 (.tmp 23) 1) 0,
 LL 25 (.fieldAddr 87 (.tmp 24) 0) 0,
 ⟨none, (.store 3 (.tmp 25) (.tmp 22)), 0, none⟩])
 (.seq (.rgn [] [LL 26 (.move (.tmp 1)) 3,
 LL 27 (.binOp .add 3 (.tmp 26) (.const (.int .i64 1)) 3) 3,
 LL 1 (.assign (.tmp 27)) 3])
 (.rgn [] [LL 28 (.move (.tmp 0)) 57,
 LL 29 (.move (.tmp 5)) 3,
 LL 30 (.indexAddr 57 (.tmp 28) (.tmp 29)) 0,
 LL 31 (.fieldAddr 154 (.tmp 30) 1) 0,
 LL 32 (.fieldAddr 87 (.tmp 31) 1) 0,
 LL 33 (.load 29 (.tmp 32)) 29,
 LL 34 (.move (.tmp 1)) 3,
 LL 35 (.call { callee := (.value (.func 103)), args := #[(.tmp 33), (.tmp 34)], argTypes := #[29, 3] }) 3,
 LL 1 (.assign (.tmp 35)) 3]))))))
 (.rgn [] [LL 10 (.move (.tmp 5)) 3,
 LL 11 (.binOp .add 3 (.tmp 10) (.const (.int .i64 1)) 3) 3,
 LL 5 (.assign (.tmp 11)) 3]))))))
 (.seq (.rgn [] [LL 36 (.move (.tmp 1)) 3,
 LL 4 (.assign (.tmp 36)) 3])
 .ret)))
theorem vT : Lit Tryz.prog 61 37 [] [.tmp 4] c61 := ⟨⟨Tryz.f61, _, Tryz.func61, rfl, by kernel_rfl, rfl, rfl, by kernel_rfl, by kernel_rfl⟩, by decide, by kernel_rfl⟩
def c62 : LC :=
  (.seq (.rgn [] [LL 4 (.assign (.const (.int .i64 0))) 3])
 (.seq (.seq (.rgn [] [LL 5 (.assign (.const (.int .i64 0))) 3])
 (.blk 0
 (.loop []
 (.seq (.seq (.rgn [] [LL 6 (.move (.tmp 5)) 3,
 LL 7 (.move (.tmp 0)) 52,
 LL 8 (.call { callee := (.builtin .len), args := #[(.tmp 7)], argTypes := #[52] }) 3,
 LL 9 (.binOp .lss 3 (.tmp 6) (.tmp 8) 3) 4])
 (.cond (.tmp 9)
 .skip
 (.exit 0)))
 (.seq (.blk 1
 (.seq (.rgn [] [LL 12 (.move (.tmp 0)) 52,
 LL 13 (.move (.tmp 5)) 3,
 LL 14 (.move (.tmp 1)) 3,
 LL 15 (.indexAddr 52 (.tmp 12) (.tmp 13)) 0,
 LL 16 (.fieldAddr 71 (.tmp 15) 0) 0,
 ⟨none, (.store 3 (.tmp 16) (.tmp 14)), 0, none⟩])
 (.seq (.rgn [] [LL 17 (.move (.tmp 1)) 3,
 LL 18 (.binOp .add 3 (.tmp 17) (.const (.int .i64 1)) 3) 3,
 LL 1 (.assign (.tmp 18)) 3])
 (.seq (.rgn [] [LL 19 (.move (.tmp 0)) 52,
 LL 20 (.move (.tmp 5)) 3,
 LL 21 (.move (.tmp 1)) 3,
 LL 22 (.indexAddr 52 (.tmp 19) (.tmp 20)) 0,
 LL 23 (.fieldAddr 71 (.tmp 22) 1) 0,
 ⟨none, (.store 3 (.tmp 23) (.tmp 21)), 0, none⟩])
 (.rgn [] [LL 24 (.move (.tmp 1)) 3,
 LL 25 (.binOp .add 3 (.tmp 24) (.const (.int .i64 1)) 3) 3,
 LL 1 (.assign (.tmp 25)) 3])))))
 (.rgn [] [LL 10 (.move (.tmp 5)) 3,
 LL 11 (.binOp .add 3 (.tmp 10) (.const (.int .i64 1)) 3) 3,
 LL 5 (.assign (.tmp 11)) 3]))))))
 (.seq (.rgn [] [LL 26 (.move (.tmp 1)) 3,
 LL 4 (.assign (.tmp 26)) 3])
 .ret)))
theorem vU : Lit Tryz.prog 62 27 [] [.tmp 4] c62 := ⟨⟨Tryz.f62, _, Tryz.func62, rfl, by kernel_rfl, rfl, rfl, by kernel_rfl, by kernel_rfl⟩, by decide, by kernel_rfl⟩
theorem AcZ : BS 63 [] [] [] Tryz.f63 := Bj Tryz.func63 (by kernel_rfl)
theorem Ac0 : BS 64 [2] [] [] Tryz.f64 := Bj Tryz.func64 (by kernel_rfl)
theorem Ac1 : BS 65 [] [] [] Tryz.f65 := Bj Tryz.func65 (by kernel_rfl)
theorem Ac2 : BS 66 [] [] [] Tryz.f66 := Bj Tryz.func66 (by kernel_rfl)
theorem Ac3 : BS 67 [2] [] [] Tryz.f67 := Bj Tryz.func67 (by kernel_rfl)
theorem Ac4 : BS 68 [] [] [] Tryz.f68 := Bj Tryz.func68 (by kernel_rfl)
theorem Ac5 : BS 74 [1, 2, 4] [] [(14, [36]), (15, [42, 43]), (16, [48]), (20, [61]), (21, [66])] Tryz.f74 := Bj Tryz.func74 (by kernel_rfl)
theorem Ac6 : BS 76 [1] [] [] Tryz.f76 := Bj Tryz.func76 (by kernel_rfl)
theorem Ac7 : BS 79 [1, 2, 3] [] [(4, [11])] Tryz.f79 := Bj Tryz.func79 (by kernel_rfl)
theorem Ac8 : BS 80 [] [] [] Tryz.f80 := Bj Tryz.func80 (by kernel_rfl)
theorem Ac9 : BS 81 [] [] [] Tryz.f81 := Bj Tryz.func81 (by kernel_rfl)
theorem Ada : BS 82 [] [] [] Tryz.f82 := Bj Tryz.func82 (by kernel_rfl)
theorem Adb : BS 88 [1, 2] [] [] Tryz.f88 := Bj Tryz.func88 (by kernel_rfl)
theorem Adc : BS 90 [2, 3] [] [] Tryz.f90 := Bj Tryz.func90 (by kernel_rfl)
theorem Ade : BS 91 [] [] [] Tryz.f91 := Bj Tryz.func91 (by kernel_rfl)
theorem Adf : BS 93 [] [] [] Tryz.f93 := Bj Tryz.func93 (by kernel_rfl)
theorem Adg : BS 98 [] [] [] Tryz.f98 := Bj Tryz.func98 (by kernel_rfl)
theorem xC : BS 100 [] [] [] Tryz.f100 := Bj Tryz.func100 (by kernel_rfl)
theorem xD : BS 101 [2, 3] [] [] Tryz.f101 := Bj Tryz.func101 (by kernel_rfl)
theorem pI : BS 102 [] [] [] Tryz.f102 := Bj Tryz.func102 (by kernel_rfl)
def Aee : LC :=
  (.seq (.rgn [] [LL 4 (.assign (.const (.int .i64 0))) 3])
 (.seq (.seq (.rgn [] [LL 5 (.assign (.const (.int .i64 0))) 3])
 (.blk 0
 (.loop []
 (.seq (.seq (.rgn [] [LL 6 (.move (.tmp 5)) 3,
 LL 7 (.move (.tmp 0)) 29,
 LL 8 (.call { callee := (.builtin .len), args := #[(.tmp 7)], argTypes := #[29] }) 3,
 LL 9 (.binOp .lss 3 (.tmp 6) (.tmp 8) 3) 4])
 (.cond (.tmp 9)
 .skip
 (.exit 0)))
 (.seq (.blk 1
 (.rgn [] [LL 12 (.move (.tmp 0)) 29,
 LL 13 (.move (.tmp 5)) 3,
 LL 14 (.indexAddr 29 (.tmp 12) (.tmp 13)) 0,
 LL 15 (.load 23 (.tmp 14)) 23,
 LL 16 (.move (.tmp 1)) 3,
 LL 17 (.call { callee := (.value (.func 14)), args := #[(.tmp 15), (.tmp 16)], argTypes := #[23, 3] }) 3,
 LL 1 (.assign (.tmp 17)) 3]))
 (.rgn [] [LL 10 (.move (.tmp 5)) 3,
 LL 11 (.binOp .add 3 (.tmp 10) (.const (.int .i64 1)) 3) 3,
 LL 5 (.assign (.tmp 11)) 3]))))))
 (.seq (.rgn [] [LL 18 (.move (.tmp 1)) 3,
 LL 4 (.assign (.tmp 18)) 3])
 .ret)))
theorem pJ : Lit Tryz.prog 103 19 [] [.tmp 4] Aee := ⟨⟨Tryz.f103, _, Tryz.func103, rfl, by kernel_rfl, rfl, rfl, by kernel_rfl, by kernel_rfl⟩, by decide, by kernel_rfl⟩
theorem xE : BS 105 [2] [] [] Tryz.f105 := Bj Tryz.func105 (by kernel_rfl)
theorem xF : BS 106 [3, 4, 10] [(33, 4), (39, 4)] [(3, [23]), (7, [31]), (10, [52, 53]), (11, [56])] Tryz.f106 := Bj Tryz.func106 (by kernel_rfl)
theorem xG : BS 107 [] [] [] Tryz.f107 := Bj Tryz.func107 (by kernel_rfl)
theorem xH : BS 108 [5] [] [(2, [22]), (4, [26]), (8, [40, 45]), (9, [56, 57]), (11, [62])] Tryz.f108 := Bj Tryz.func108 (by kernel_rfl)
theorem xI : BS 109 [4, 7] [] [(9, [39])] Tryz.f109 := Bj Tryz.func109 (by kernel_rfl)
theorem xJ : BS 110 [2, 3, 6] [(17, 3), (29, 6), (31, 3)] [(4, [15])] Tryz.f110 := Bj Tryz.func110 (by kernel_rfl)
theorem xK : BS 111 [2, 3, 4, 6, 8, 16] [(57, 6), (62, 3), (97, 6)] [(2, [20]), (5, [40]), (14, [56]), (22, [108, 109]), (23, [112]), (25, [121]), (26, [122])] Tryz.f111 := Bj Tryz.func111 (by kernel_rfl)
theorem xL : BS 112 [1] [] [] Tryz.f112 := Bj Tryz.func112 (by kernel_rfl)
theorem xM : BS 113 [13, 15] [] [(1, [17]), (2, [22]), (8, [58]), (9, [67]), (10, [71]), (11, [77])] Tryz.f113 := Bj Tryz.func113 (by kernel_rfl)
theorem xN : BS 114 [1, 2, 3] [] [(4, [11])] Tryz.f114 := Bj Tryz.func114 (by kernel_rfl)
theorem xO : BS 115 [2, 3, 6, 7] [] [(5, [23]), (6, [24])] Tryz.f115 := Bj Tryz.func115 (by kernel_rfl)
theorem xP : BS 116 [2, 3, 4, 6, 7, 12, 53] [] [(3, [22]), (5, [45]), (9, [52]), (10, [12, 53]), (20, [87, 88]), (23, [97])] Tryz.f116 := Bj Tryz.func116 (by kernel_rfl)
theorem xQ : BS 117 [1] [] [] Tryz.f117 := Bj Tryz.func117 (by kernel_rfl)
theorem xR : BS 118 [12, 14] [] [(1, [16]), (2, [21]), (5, [46]), (6, [54])] Tryz.f118 := Bj Tryz.func118 (by kernel_rfl)
theorem xS : BS 119 [3, 4, 10, 11] [] [(6, [29]), (7, [30]), (8, [40, 41]), (10, [45])] Tryz.f119 := Bj Tryz.func119 (by kernel_rfl)
theorem xT : BS 120 [4] [] [(3, [10])] Tryz.f120 := Bj Tryz.func120 (by kernel_rfl)
theorem xU : BS 121 [5] [] [(9, [35]), (10, [36]), (15, [55]), (18, [65]), (19, [66])] Tryz.f121 := Bj Tryz.func121 (by kernel_rfl)
theorem xV : BS 122 [8, 62] [] [(6, [27]), (10, [52]), (12, [8, 62]), (18, [81]), (20, [91]), (24, [118])] Tryz.f122 := Bj Tryz.func122 (by kernel_rfl)
theorem xW : BS 123 [2, 3] [] [] Tryz.f123 := Bj Tryz.func123 (by kernel_rfl)
theorem xX : BS 124 [2, 3] [] [] Tryz.f124 := Bj Tryz.func124 (by kernel_rfl)
theorem xY : BS 128 [2] [] [] Tryz.f128 := Bj Tryz.func128 (by kernel_rfl)
theorem xZ : BS 131 [1] [] [] Tryz.f131 := Bj Tryz.func131 (by kernel_rfl)
theorem x3 : BS 134 [] [] [] Tryz.f134 := Bj Tryz.func134 (by kernel_rfl)
theorem x4 : BS 137 [] [] [] Tryz.f137 := Bj Tryz.func137 (by kernel_rfl)
theorem x5 : BS 140 [2] [] [] Tryz.f140 := Bj Tryz.func140 (by kernel_rfl)
theorem x6 : BS 141 [2] [] [] Tryz.f141 := Bj Tryz.func141 (by kernel_rfl)
theorem x7 : BS 146 [2, 4, 5, 10] [] [(8, [23]), (9, [24]), (11, [34, 35]), (12, [40]), (16, [52]), (18, [58])] Tryz.f146 := Bj Tryz.func146 (by kernel_rfl)
theorem x8 : BS 147 [1] [] [(7, [14]), (8, [18])] Tryz.f147 := Bj Tryz.func147 (by kernel_rfl)
theorem x9 : BS 148 [1] [] [(6, [46])] Tryz.f148 := Bj Tryz.func148 (by kernel_rfl)
theorem ya : BS 150 [1] [(3, 1), (7, 1), (12, 1), (15, 1)] [] Tryz.f150 := Bj Tryz.func150 (by kernel_rfl)
theorem yb : BS 151 [1] [] [(6, [12]), (7, [16])] Tryz.f151 := Bj Tryz.func151 (by kernel_rfl)
theorem yd : BS 152 [] [] [] Tryz.f152 := Bj Tryz.func152 (by kernel_rfl)
theorem ye : BS 153 [2] [] [] Tryz.f153 := Bj Tryz.func153 (by kernel_rfl)
theorem yf : BS 154 [2, 4, 6] [] [(3, [19]), (6, [31])] Tryz.f154 := Bj Tryz.func154 (by kernel_rfl)
theorem yg : BS 155 [2] [] [(8, [32]), (9, [36])] Tryz.f155 := Bj Tryz.func155 (by kernel_rfl)
theorem yh : BS 156 [5] [(37, 5)] [(6, [29]), (7, [51]), (8, [56])] Tryz.f156 := Bj Tryz.func156 (by kernel_rfl)
theorem yi : BS 157 [] [] [] Tryz.f157 := Bj Tryz.func157 (by kernel_rfl)
theorem yj : BS 158 [1, 2, 3] [(15, 3), (18, 1), (26, 3)] [(5, [16, 22]), (6, [27])] Tryz.f158 := Bj Tryz.func158 (by kernel_rfl)
theorem yk : BS 159 [] [] [(2, [12]), (16, [53]), (18, [58]), (21, [75, 76]), (22, [79])] Tryz.f159 := Bj Tryz.func159 (by kernel_rfl)
theorem yl : BS 160 [1] [(21, 1), (27, 1), (31, 1), (43, 1), (49, 1)] [] Tryz.f160 := Bj Tryz.func160 (by kernel_rfl)
theorem ym : BS 161 [2, 4] [] [] Tryz.f161 := Bj Tryz.func161 (by kernel_rfl)
theorem yo : BS 162 [1, 4] [(17, 4), (25, 1), (32, 4), (38, 4), (44, 4), (45, 4), (51, 4), (52, 4)] [(4, [16])] Tryz.f162 := Bj Tryz.func162 (by kernel_rfl)
theorem yp : BS 163 [1] [] [(6, [13]), (7, [17])] Tryz.f163 := Bj Tryz.func163 (by kernel_rfl)
theorem yq : BS 164 [2] [] [(15, [55, 60]), (16, [63]), (21, [77]), (23, [87, 88]), (24, [91]), (25, [95]), (33, [125, 126]), (34, [129])] Tryz.f164 := Bj Tryz.func164 (by kernel_rfl)
theorem yr : BS 165 [] [] [(14, [54]), (15, [70])] Tryz.f165 := Bj Tryz.func165 (by kernel_rfl)
theorem yt : BS 166 [4, 6, 8, 10] [] [(7, [25]), (8, [37]), (11, [50]), (12, [51])] Tryz.f166 := Bj Tryz.func166 (by kernel_rfl)
theorem yu : BS 167 [2, 3] [(36, 2), (41, 3), (47, 2), (52, 3)] [] Tryz.f167 := Bj Tryz.func167 (by kernel_rfl)
theorem yv : BS 168 [1, 2, 3] [] [(4, [11])] Tryz.f168 := Bj Tryz.func168 (by kernel_rfl)
theorem yw : BS 169 [1, 4] [(17, 4), (25, 1), (32, 4), (38, 4), (44, 4), (45, 4), (50, 4), (51, 4)] [(5, [16])] Tryz.f169 := Bj Tryz.func169 (by kernel_rfl)
theorem yx : BS 170 [2, 4, 7] [] [(4, [16])] Tryz.f170 := Bj Tryz.func170 (by kernel_rfl)
theorem yy : BS 171 [] [] [] Tryz.f171 := Bj Tryz.func171 (by kernel_rfl)
theorem yz : BS 172 [] [] [(5, [15]), (7, [23])] Tryz.f172 := Bj Tryz.func172 (by kernel_rfl)
theorem yA : BS 173 [] [] [(13, [47, 50]), (17, [59, 62]), (19, [67])] Tryz.f173 := Bj Tryz.func173 (by kernel_rfl)
theorem yB : BS 174 [2, 3, 5, 6, 7, 11, 12] [] [(11, [34]), (12, [42, 43]), (13, [46]), (18, [53])] Tryz.f174 := Bj Tryz.func174 (by kernel_rfl)
theorem yC : BS 175 [6, 8, 11] [(35, 8), (39, 8), (52, 11), (55, 11)] [(19, [51]), (21, [62])] Tryz.f175 := Bj Tryz.func175 (by kernel_rfl)
theorem yD : BS 176 [4, 6, 8, 10] [] [(7, [24]), (8, [36]), (11, [49]), (13, [51])] Tryz.f176 := Bj Tryz.func176 (by kernel_rfl)
theorem yE : BS 177 [] [] [(5, [14]), (7, [21])] Tryz.f177 := Bj Tryz.func177 (by kernel_rfl)
theorem yF : BS 178 [2, 3] [(36, 2), (41, 3), (47, 2), (52, 3)] [] Tryz.f178 := Bj Tryz.func178 (by kernel_rfl)
theorem yG : BS 179 [2, 4, 6] [] [(3, [19]), (6, [31])] Tryz.f179 := Bj Tryz.func179 (by kernel_rfl)
theorem yH : BS 180 [2] [] [(8, [29]), (10, [34])] Tryz.f180 := Bj Tryz.func180 (by kernel_rfl)
theorem yI : BS 181 [4, 11] [] [(4, [22]), (11, [44]), (13, [49]), (15, [59])] Tryz.f181 := Bj Tryz.func181 (by kernel_rfl)
theorem yJ : BS 182 [] [] [(3, [10])] Tryz.f182 := Bj Tryz.func182 (by kernel_rfl)
theorem yK : BS 183 [] [] [(4, [12])] Tryz.f183 := Bj Tryz.func183 (by kernel_rfl)
theorem yL : BS 184 [] [] [] Tryz.f184 := Bj Tryz.func184 (by kernel_rfl)
theorem yM : BS 185 [2, 3] [] [] Tryz.f185 := Bj Tryz.func185 (by kernel_rfl)
theorem yN : BS 186 [] [] [] Tryz.f186 := Bj Tryz.func186 (by kernel_rfl)
theorem yO : BS 188 [] [] [] Tryz.f188 := Bj Tryz.func188 (by kernel_rfl)
theorem yP : BS 189 [4, 6, 8] [] [] Tryz.f189 := Bj Tryz.func189 (by kernel_rfl)
theorem yQ : BS 190 [2] [] [(6, [26]), (7, [30])] Tryz.f190 := Bj Tryz.func190 (by kernel_rfl)
theorem yR : BS 194 [4] [] [] Tryz.f194 := Bj Tryz.func194 (by kernel_rfl)
theorem yS : BS 195 [4, 6, 8, 10] [] [] Tryz.f195 := Bj Tryz.func195 (by kernel_rfl)
theorem yU : BS 196 [] [] [] Tryz.f196 := Bj Tryz.func196 (by kernel_rfl)
theorem yV : BS 197 [] [] [] Tryz.f197 := Bj Tryz.func197 (by kernel_rfl)
theorem yW : BS 198 [] [] [] Tryz.f198 := Bj Tryz.func198 (by kernel_rfl)
theorem yX : BS 199 [2, 4, 9] [(21, 2)] [(12, [44]), (13, [54]), (14, [61])] Tryz.f199 := Bj Tryz.func199 (by kernel_rfl)
theorem yY : BS 200 [2] [] [(8, [52]), (9, [56])] Tryz.f200 := Bj Tryz.func200 (by kernel_rfl)
theorem yZ : BS 201 [3] [] [(6, [22]), (7, [29])] Tryz.f201 := Bj Tryz.func201 (by kernel_rfl)
theorem y3 : BS 202 [6, 26] [(46, 6), (48, 6), (69, 6), (75, 6), (77, 6), (81, 6), (82, 6), (84, 6), (98, 6), (100, 6)] [(3, [21]), (5, [6, 26]), (13, [57]), (17, [92])] Tryz.f202 := Bj Tryz.func202 (by kernel_rfl)
theorem y4 : BS 203 [] [] [] Tryz.f203 := Bj Tryz.func203 (by kernel_rfl)
theorem y5 : BS 204 [] [] [(11, [36, 42]), (12, [46])] Tryz.f204 := Bj Tryz.func204 (by kernel_rfl)
theorem y6 : BS 205 [14] [] [(10, [41, 46]), (19, [85]), (20, [91]), (21, [95]), (31, [129]), (32, [133])] Tryz.f205 := Bj Tryz.func205 (by kernel_rfl)
theorem y7 : BS 206 [3] [(59, 3)] [(8, [42])] Tryz.f206 := Bj Tryz.func206 (by kernel_rfl)
theorem y8 : BS 207 [] [] [] Tryz.f207 := Bj Tryz.func207 (by kernel_rfl)
theorem y9 : BS 208 [2, 3] [] [(3, [8]), (5, [16])] Tryz.f208 := Bj Tryz.func208 (by kernel_rfl)
theorem zb : BS 209 [4, 6, 8] [] [(7, [24]), (10, [34]), (11, [35])] Tryz.f209 := Bj Tryz.func209 (by kernel_rfl)
theorem zc : BS 210 [2, 3, 4, 6, 9, 27] [(42, 6), (46, 6), (50, 6), (52, 2), (57, 3), (64, 6)] [(3, [6, 27]), (11, [65, 66]), (12, [70])] Tryz.f210 := Bj Tryz.func210 (by kernel_rfl)
theorem zd : BS 211 [1] [] [] Tryz.f211 := Bj Tryz.func211 (by kernel_rfl)
theorem ze : BS 212 [3, 7] [] [(1, [3, 7]), (6, [22])] Tryz.f212 := Bj Tryz.func212 (by kernel_rfl)
theorem zf : BS 213 [1] [] [] Tryz.f213 := Bj Tryz.func213 (by kernel_rfl)
theorem zg : BS 214 [1, 2] [(3, 1), (5, 1)] [] Tryz.f214 := Bj Tryz.func214 (by kernel_rfl)
theorem zh : BS 215 [] [] [(4, [11]), (5, [12]), (7, [18])] Tryz.f215 := Bj Tryz.func215 (by kernel_rfl)
theorem zi : BS 216 [] [] [] Tryz.f216 := Bj Tryz.func216 (by kernel_rfl)
theorem zj : BS 217 [] [] [(1, [4])] Tryz.f217 := Bj Tryz.func217 (by kernel_rfl)
theorem zk : BS 218 [2, 3, 4, 5, 6, 7, 8, 1000002, 1000003, 1000004, 1000005, 1000006, 1000007, 1000008] [] [(10, [46, 50]), (11, [53]), (13, [61]), (17, [81]), (20, [86, 87])] Tryz.f218 := Bj Tryz.func218 (by kernel_rfl)
theorem zl : BS 219 [15] [(85, 900003), (85, 900004), (87, 900003), (87, 900004), (89, 900003), (89, 900004), (91, 900003), (91, 900004), (93, 900003), (93, 900004), (95, 900003), (95, 900004), (97, 900003), (97, 900004), (98, 900003), (98, 900004)] [(7, [38]), (10, [48]), (20, [92, 96, 1500092, 1500096]), (33, [156]), (34, [160])] Tryz.f219 := Bj Tryz.func219 (by kernel_rfl)
theorem zm : BS 220 [3, 8, 12] [(57, 3)] [(9, [39])] Tryz.f220 := Bj Tryz.func220 (by kernel_rfl)
theorem zo : BS 221 [] [] [] Tryz.f221 := Bj Tryz.func221 (by kernel_rfl)
theorem zp : BS 222 [2, 3] [] [(3, [7]), (5, [15])] Tryz.f222 := Bj Tryz.func222 (by kernel_rfl)
theorem zq : BS 223 [4, 6, 8] [] [(7, [24]), (10, [34]), (11, [35])] Tryz.f223 := Bj Tryz.func223 (by kernel_rfl)
theorem zr : BS 224 [2, 3, 4, 6, 27] [] [(3, [6, 27]), (13, [57])] Tryz.f224 := Bj Tryz.func224 (by kernel_rfl)
theorem zt : BS 225 [1] [] [] Tryz.f225 := Bj Tryz.func225 (by kernel_rfl)
theorem zu : BS 226 [] [] [] Tryz.f226 := Bj Tryz.func226 (by kernel_rfl)
theorem zw : BS 227 [2, 4] [] [(6, [26]), (7, [27])] Tryz.f227 := Bj Tryz.func227 (by kernel_rfl)
theorem zx : BS 228 [2] [] [(8, [37]), (10, [54]), (12, [62])] Tryz.f228 := Bj Tryz.func228 (by kernel_rfl)
theorem zy : BS 229 [] [] [] Tryz.f229 := Bj Tryz.func229 (by kernel_rfl)
theorem zA : BS 230 [2, 3, 4, 6] [] [] Tryz.f230 := Bj Tryz.func230 (by kernel_rfl)
theorem zB : BS 231 [2, 3, 4, 6] [] [] Tryz.f231 := Bj Tryz.func231 (by kernel_rfl)
theorem zC : BS 232 [2, 3, 4] [] [] Tryz.f232 := Bj Tryz.func232 (by kernel_rfl)
theorem zD : BS 233 [2, 3, 4] [] [] Tryz.f233 := Bj Tryz.func233 (by kernel_rfl)
theorem zE : BS 234 [] [] [(5, [14]), (6, [24])] Tryz.f234 := Bj Tryz.func234 (by kernel_rfl)
theorem zF : BS 235 [2] [] [] Tryz.f235 := Bj Tryz.func235 (by kernel_rfl)
theorem zG : BS 236 [] [] [] Tryz.f236 := Bj Tryz.func236 (by kernel_rfl)
theorem zH : BS 237 [] [] [] Tryz.f237 := Bj Tryz.func237 (by kernel_rfl)
theorem zI : BS 238 [] [] [(9, [50])] Tryz.f238 := Bj Tryz.func238 (by kernel_rfl)
theorem zJ : BS 239 [] [] [] Tryz.f239 := Bj Tryz.func239 (by kernel_rfl)
theorem zK : BS 240 [0, 6, 9, 11, 1000000] [(92, 900003), (92, 900004), (94, 900003), (94, 900004), (95, 900003), (95, 900004), (98, 900003), (98, 900004)] [(12, [95])] Tryz.f240 := Bj Tryz.func240 (by kernel_rfl)
theorem zL : BS 241 [2, 3, 4, 6] [] [] Tryz.f241 := Bj Tryz.func241 (by kernel_rfl)
theorem zM : BS 242 [8] [] [(8, [29]), (9, [33])] Tryz.f242 := Bj Tryz.func242 (by kernel_rfl)
theorem zN : BS 243 [2, 4] [] [(8, [29]), (14, [65])] Tryz.f243 := Bj Tryz.func243 (by kernel_rfl)
theorem zO : BS 244 [] [] [(5, [21])] Tryz.f244 := Bj Tryz.func244 (by kernel_rfl)
theorem zP : BS 245 [0, 1, 7, 10, 12, 1000000, 1000001] [] [] Tryz.f245 := Bj Tryz.func245 (by kernel_rfl)
theorem zQ : BS 246 [2, 3, 4] [] [] Tryz.f246 := Bj Tryz.func246 (by kernel_rfl)
theorem zR : BS 247 [9] [] [(4, [16]), (8, [25]), (10, [30])] Tryz.f247 := Bj Tryz.func247 (by kernel_rfl)
theorem zS : BS 248 [2, 4] [] [(8, [29]), (16, [61])] Tryz.f248 := Bj Tryz.func248 (by kernel_rfl)
theorem zT : BS 249 [4, 8] [] [(3, [14]), (10, [34])] Tryz.f249 := Bj Tryz.func249 (by kernel_rfl)
theorem zU : BS 250 [1] [] [] Tryz.f250 := Bj Tryz.func250 (by kernel_rfl)
theorem zV : BS 251 [2] [] [] Tryz.f251 := Bj Tryz.func251 (by kernel_rfl)
theorem zW : BS 252 [4, 8] [] [] Tryz.f252 := Bj Tryz.func252 (by kernel_rfl)
theorem zX : BS 253 [4, 7] [] [] Tryz.f253 := Bj Tryz.func253 (by kernel_rfl)
theorem zY : BS 254 [1] [] [] Tryz.f254 := Bj Tryz.func254 (by kernel_rfl)
theorem zZ : BS 255 [] [] [] Tryz.f255 := Bj Tryz.func255 (by kernel_rfl)
theorem z5 : BS 256 [2, 3, 4, 6] [] [] Tryz.f256 := Bj Tryz.func256 (by kernel_rfl)
theorem z6 : BS 257 [] [] [] Tryz.f257 := Bj Tryz.func257 (by kernel_rfl)
theorem z7 : BS 258 [2, 3, 4] [] [] Tryz.f258 := Bj Tryz.func258 (by kernel_rfl)
theorem z8 : BS 259 [1, 2] [] [] Tryz.f259 := Bj Tryz.func259 (by kernel_rfl)
theorem z9 : BS 260 [1, 2] [] [] Tryz.f260 := Bj Tryz.func260 (by kernel_rfl)
set_option maxRecDepth 100000
theorem Aev : BS 4 [3, 4, 8, 10, 11, 13, 18] [] [(10, [33]), (14, [49]), (37, [113])] Tryz.f4 := Bj Tryz.func4 (by kernel_rfl)
set_option maxRecDepth 100000
set_option maxHeartbeats 1000000
def J5(a:(Int×(List UInt8))->Option ((List UInt8)))(b:Int×(List UInt8)):Option ((List UInt8)):=match b with
  |(c,d)=>cond (decide (0 < c)) (chk (List.length (bytesOf [IntKind.u8.wrap (IntKind.i64.wrap (48+(Int.tmod c 10)))])+List.length d<=lim) (a ((IntKind.i64.wrap (Int.tdiv c 10)),((bytesOf [IntKind.u8.wrap (IntKind.i64.wrap (48+(Int.tmod c 10)))])++d)))) (some d)
def MV(a:Int):Option ((List UInt8)):=cond (decide (a<=0)) (some [109,48]) (G (An J5 fz (a,[])) λb=>chk (List.length [109]+List.length b<=lim) (some ([109]++b)))
theorem YR{a:Int}{b:(List UInt8)}(h:MV a=some b):Aw Tryz.prog 102 [nI a] (.str b):=st pI E (rn 1 E (DN E λc=>BA h E (λh=>rn 1 E (sj h ▸ Ae rZ)) λh=>BI c (rn 1 E (Ap λd e=>DX h λf g i=>have j:∀{k:List UInt8},k=f->Jn d [(3,.str k)]:=@λk h _ m=>have h:=i h;e _ (lh m E (rs (sp 1 E (Ex h λn h=>qB E n E (AM 1 E (sj h ▸ Ae rZ))))));(A1 (λ(o:Int×(List UInt8))=>match o with|(p,q)=>[(0,nI p),(3,.str q)]) _ _ _ _ g (A5 E) (λ_=>E) (λr=>JD λp q s h t=>DN E λu=>BA h E (λh=>BI u (AX (rs (sp 4 E (E6 cu8 [IntKind.u8.wrap (IntKind.i64.wrap (48+(Int.tmod p 10)))] E E E Ae4 (qCs (l:=[IntKind.u8.wrap (IntKind.i64.wrap (48+(Int.tmod p 10)))]) E E E E (sp 1 E (Ex h λv h=>qB E v E (AM 1 E (rg (AM 3 E (t _ _ h (A5 E))))))))))))) λh=>Ay (j (sj h) _ (A5 E))))))))
def PO(k:Int):List UInt8:=(MV k).getD []
theorem il:∀(n:Nat) (k:Int) (u:List UInt8),0<=k->k < 10 ^ n->k<=9223372036854775000->u.length+n<=100->∀m,n < m->∃z,An J5 m (k,u)=some z∧z.length<=u.length+n
 |n,k,u,h0,hk,hkB,hu,m,hm=>by
  cases m with
  |zero=>omega
  |succ m=>
   show ∃z,J5 (An J5 m) (k,u)=some z∧_
   have hE:∀rec,J5 rec (k,u)=cond (decide (0 < k)) (chk (List.length (bytesOf [IntKind.u8.wrap (IntKind.i64.wrap (48+(Int.tmod k 10)))])+List.length u<=lim) (rec ((IntKind.i64.wrap (Int.tdiv k 10)),((bytesOf [IntKind.u8.wrap (IntKind.i64.wrap (48+(Int.tmod k 10)))])++u)))) (some u):=λ_=>rfl
   rw[hE]
   by_cases hp:0 < k
   ·cases n with
    |zero=>simp at hk;omega
    |succ n=>
     have hd:k.tdiv 10=k / 10:=Int.tdiv_eq_ediv_of_nonneg h0
     have hb:k / 10 < 10 ^ n:=by
      rw[Int.pow_succ]at hk
      omega
     have hw:IntKind.i64.wrap (k.tdiv 10)=k / 10:=by
      rw[hd,wrap_in]
      omega
     rw[Ah hp,Ab,AN (by simp[bytesOf];unfold lim;omega),hw]
     obtain⟨z,e,hz⟩:=il n (k / 10) (bytesOf [IntKind.u8.wrap (IntKind.i64.wrap (48+k.tmod 10))]++u) (by omega) hb (by omega) (by simp[bytesOf];omega) m (by omega)
     exact⟨z,e,by simp[bytesOf]at hz;omega⟩
   ·rw[Af hp]
    exact⟨u,rfl,by omega⟩
theorem v5{k:Int}(h0:0<=k)(h1:k<=mB):MV k=some (PO k)∧(PO k).length<=100:=by
 have key:∃z,MV k=some z∧z.length<=100:=by
  unfold MV
  by_cases hp:k<=0
  ·rw[Ah hp];exact⟨_,rfl,by simp⟩
  ·rw[Af hp,Aa]
   unfold mB at h1
   obtain⟨z,e,hz⟩:=il 20 k [] (by omega) (by omega) (by omega) (by simp) fz (by unfold fz;omega)
   rw[e]
   simp only[G]
   simp only[BY,B6]at hz
   rw[AN (by simp;unfold lim;omega)]
   exact⟨_,rfl,by simp;omega⟩
 obtain⟨z,e,hz⟩:=key
 have:PO k=z:=by unfold PO;rw[e];rfl
 rw[this];exact⟨e,hz⟩
theorem lO{k:Int}(h0:0<=k)(h1:k+1<=mB):(PO k).length<=maxLen:=by
 have:=(v5 h0 (by omega)).2
 unfold maxLen;omega
theorem p7:Lf Tryz.prog 102:=O8 pI
theorem cR{k:Int}(h0:0<=k)(h1:k+1<=mB){w:World}{bs:List Nat}(hG:U9 w bs):Calls Tryz.prog 102 #[.int .i64 k] w (λe w'=>e=.returned (.string ⟨(PO k).toArray⟩)∧Below w.heap.size w w'):=
 nJ (YR (v5 h0 (by omega)).1) hG
def YW(_:Int):Nat:=1
def YA(_:Int)(k:Int):Int:=k
def AeA(_:List UInt8):Nat:=1
theorem hmI(x k:Int):Ic PO (Am x) k=Am (YA x k):=rfl
theorem hcI(x:Int):Dr (Am x)=YW x:=rfl
theorem hcS(x:List UInt8):Dr (cst x)=AeA x:=rfl
set_option maxRecDepth 100000
def B4(x:List Int):List V:=[dL Am x]
theorem CN(x:List Int):(B4 x).length=1:=rfl
theorem Dd(x:List Int):Nx (B4 x)=B4 x:=(Br (BN AU _) rfl)
def A2(x:List Int):List V:=[oL 3 Am x]
theorem Dp(x:List Int):(A2 x).length=1:=rfl
theorem OY(x:List Int):Nx (A2 x)=B4 x:=(Br (Tr AU _) rfl)
abbrev Dn:=(List UInt8)×(List Int)
def Cu(x:Dn):List V:=[.str x.1,dL Am x.2]
theorem GC(x:Dn):(Cu x).length=2:=rfl
theorem DH(x:Dn):Nx (Cu x)=Cu x:=(Br rfl (Br (BN AU _) rfl))
def Ey(x:Dn):List V:=[.str x.1,oL 3 Am x.2]
theorem ZD(x:Dn):(Ey x).length=2:=rfl
theorem Wi(x:Dn):Nx (Ey x)=Cu x:=(Br rfl (Br (Tr AU _) rfl))
abbrev Hv:=Int×(List Dn)×(List Int)
def EA(x:Hv):List V:=[nI x.1,dL Cu x.2.1,dL Am x.2.2]
def HK(x:Hv):List V:=[nI x.1,oL 104 Ey x.2.1,oL 3 Am x.2.2]
def wQ(x:List (List Int)):List V:=[dL B4 x]
abbrev DY:=Int×(List (List Int))
def PR(x:DY):List V:=[nI x.1,dL B4 x.2]
def Ng(x:DY):List V:=[nI x.1,oL 23 A2 x.2]
abbrev Di:=(List UInt8)×DY
def C6(x:Di):List V:=[.str x.1,nI x.2.1,dL B4 x.2.2]
theorem OM(x:Di):(C6 x).length=3:=rfl
theorem EB(x:Di):Nx (C6 x)=C6 x:=(Br rfl (Br rfl (Br (BN Dd _) rfl)))
def Df(x:Di):List V:=[.str x.1,nI x.2.1,oL 23 A2 x.2.2]
theorem UD(x:Di):(Df x).length=3:=rfl
theorem T6(x:Di):Nx (Df x)=C6 x:=(Br rfl (Br rfl (Br (Tr OY _) rfl)))
def JH(x:List Di):List V:=[oL 154 Df x]
abbrev Bc:=Int×Int
def AS(x:Bc):List V:=[nI x.1,nI x.2]
theorem B9(x:Bc):(AS x).length=2:=rfl
theorem C9(x:Bc):Nx (AS x)=AS x:=(Br rfl (Br rfl rfl))
def D5(x:List Bc):List V:=[dL AS x]
theorem Ro(x:List Bc):(D5 x).length=1:=rfl
theorem NM(x:List Bc):Nx (D5 x)=D5 x:=(Br (BN C9 _) rfl)
def BD(x:List Bc):List V:=[oL 71 AS x]
theorem DG(x:List Bc):(BD x).length=1:=rfl
theorem jw(x:List Bc):Nx (BD x)=D5 x:=(Br (Tr C9 _) rfl)
abbrev Xh:=(List Int)×(List Bc)×(List Int)×Int×Int
def dI(x:Xh):List V:=[dL Am x.1,dL AS x.2.1,dL Am x.2.2.1,nI x.2.2.2.1,nI x.2.2.2.2]
def Gj(x:Xh):List V:=[oL 3 Am x.1,oL 71 AS x.2.1,oL 3 Am x.2.2.1,nI x.2.2.2.1,nI x.2.2.2.2]
def LG(x:List Int):Nat:=JB YW x
def Uj(x:List Int)(k:Int):List Int:=Zq YW YA x k
theorem Aeg(x:List Int)(k:Int):Ic PO (A2 x) k=A2 (Uj x k):=by
 unfold A2 Uj
 exact mkc (jW hmI hcI x k) (UO hcI x) rfl
theorem xk(x:List Int):Dr (A2 x)=LG x:=by
 unfold A2 LG
 exact gd (UO hcI x) rfl
theorem AbQ(x:List Int):Cm (A2 x)=true:=dpc (dpo (λ_=>rfl) x) rfl
theorem YZ(l:List Int)(k:Int)(h0:0<=k)(h1:k+Dr (l.flatMap Am)<=mB){body:LC}(hb:body=(.seq (.rgn [] [LL 12 (.move (.tmp 0)) 23,
   LL 13 (.move (.tmp 5)) 3,
   LL 14 (.move (.tmp 1)) 3,
   LL 15 (.indexAddr 23 (.tmp 12) (.tmp 13)) 0,
   ⟨none,(.store 3 (.tmp 15) (.tmp 14)),0,none⟩])
  (.rgn [] [LL 16 (.move (.tmp 1)) 3,
   LL 17 (.binOp .add 3 (.tmp 16) (.const (.int .i64 1)) 3) 3,
   LL 1 (.assign (.tmp 17)) 3]))):Round Tryz.prog 19 [] PO 3 1 body l.length (l.flatMap Am) k:=by
 subst hb
 intro St w0 bs g cap j w T hnd hbs hj hI0 t0 t1 t5
 have hd:Cm (l.flatMap Am)=true:=JT (λ_=>rfl) l
 have hI0:Inv Tryz.prog St PO 3 l.length (l.flatMap Am) k (.slice (some ⟨g,0,none⟩) l.length cap) bs w0 (j * 1+0) w:=hI0
 have t1:T 1=some (.int .i64 (k+(EV (l.flatMap Am) (j * 1+0):Int))):=t1
 have q0:(l.flatMap Am)[j * 1+0]? =some (nI (l[j])):=(Qh AY hj (by decide)).trans rfl
 have b0:=SL q0 h1
 rw[show SK (nI (l[j]))=1 from rfl]at b0
 have x0:k+(EV (l.flatMap Am) (j * 1+0):Int)+1=k+(EV (l.flatMap Am) (j * 1+1):Int):=Xs (k:=k) q0 rfl
 have n0:0<=k+(EV (l.flatMap Am) (j * 1+0):Int):=SM h0
 obtain⟨u0,c0,f0,hI1⟩:=hI0.int' hd hnd q0
 refine F5 (Fh (CT t0 (CT t5 (CT t1 (WM FZ rfl rfl rfl hj (Sr FZ rfl rfl rfl rfl c0 f0 rfl (Ff ?_)))))))
 generalize hw1:World.setCell _ _ _=w1 at hI1⊢
 refine Fh (CT t1 (VW rfl (by omega) (by unfold mB at b0;omega) (J7 rfl (Ff ?_))))
 rw[x0]
 exact⟨rfl,t0,rfl,t5,hI1⟩
theorem IK(l:List Int)(k:Int)(h0:0<=k)(h1:k+Dr (l.flatMap Am)<=mB):Kt Tryz.prog 14 (.own 3 l.length (l.flatMap Am)) k (.own 3 l.length (Ic PO (l.flatMap Am) k)) (k+Dr (l.flatMap Am)):=
 Q2 FZ (r:=18) (ty:=23) (it:=3) (bt:=4) cM (by decide) rfl (Bf AY l) (by decide) (YZ l k h0 h1 rfl)
def RY(x:List Int)(k:Int):Option ((List Int)×Int):=chk (0<=k∧k+(LG x:Int)<=mB) (some (Uj x k,k+LG x))
theorem YP{x:List Int}{k:Int}(h0:0<=k)(h1:k+(LG x:Int)<=mB):RY x k=some (Uj x k,k+LG x):=AN ⟨h0,h1⟩
theorem YQ{x:List Int}{k:Int}{r:(List Int)×Int}(h:RY x k=some r):Kt Tryz.prog 14 (oL 3 Am x) k (oL 3 Am r.1) r.2:=by
 obtain⟨⟨h0,h1⟩,h⟩:=Sc h
 have hr:=Dy h
 subst hr
 have hx:=QJ (f:=Am) (cnt:=YW) hcI x
 have e:=IK x k h0 (by rw[hx];exact h1)
 rw[U2 (f:=Am) (cnt:=YW) (mk:=YA) hmI hcI,hx]at e
 show Kt Tryz.prog 14 _ k (.own 3 (Zq YW YA x k).length ((Zq YW YA x k).flatMap Am)) (k+(JB YW x:Int))
 rw[O9]
 exact e
def Z0(x:Dn):Nat:=(1)+(LG x.2)
def pW(x:Dn)(k:Int):Dn:=(PO (k),Uj x.2 (k+((1:Nat):Int)))
theorem Ab2(x:Dn)(k:Int):Ic PO (Ey x) k=Ey (pW x k):=by
 have h:Ic PO [.str x.1,oL 3 Am x.2] k=_:=(mkc (n:=1) (c':=V.str _) rfl rfl (mkc (jW hmI hcI _ _) (UO hcI _) (show Ic PO [] _=[]from rfl)))
 refine h.trans ?_
 simp only[Ey,pW,Z0,LG,Uj,IL,<-Dx,CY,Dx]
theorem hc104(x:Dn):Dr (Ey x)=Z0 x:=by
 have h:Dr [.str x.1,oL 3 Am x.2]=_:=(gd (n:=1) rfl (gd (UO hcI _) (show Dr []=0 from rfl)))
 refine(show Dr (Ey x)=_ from h).trans ?_
 simp only[Z0,LG,Uj,CY,Cb]
theorem oE(x:Dn):Cm (Ey x)=true:=(dpc rfl (dpc (dpo (λ_=>rfl) _) rfl))
def oh(x:List Dn):Nat:=JB Z0 x
def Aae(x:List Dn)(k:Int):List Dn:=Zq Z0 pW x k
theorem Ya(l:List Dn)(k:Int)(h0:0<=k)(h1:k+Dr (l.flatMap Ey)<=mB){body:LC}(hb:body=(.seq (.rgn [] [LL 12 (.move (.tmp 0)) 36,
   LL 13 (.move (.tmp 5)) 3,
   LL 14 (.move (.tmp 1)) 3,
   LL 15 (.call {callee:=(.value (.func 102)),args:= #[(.tmp 14)],argTypes:= #[3]}) 9,
   LL 16 (.indexAddr 36 (.tmp 12) (.tmp 13)) 0,
   LL 17 (.fieldAddr 104 (.tmp 16) 0) 0,
   ⟨none,(.store 9 (.tmp 17) (.tmp 15)),0,none⟩])
  (.seq (.rgn [] [LL 18 (.move (.tmp 1)) 3,
   LL 19 (.binOp .add 3 (.tmp 18) (.const (.int .i64 1)) 3) 3,
   LL 1 (.assign (.tmp 19)) 3])
  (.rgn [] [LL 20 (.move (.tmp 0)) 36,
   LL 21 (.move (.tmp 5)) 3,
   LL 22 (.indexAddr 36 (.tmp 20) (.tmp 21)) 0,
   LL 23 (.fieldAddr 104 (.tmp 22) 1) 0,
   LL 24 (.load 23 (.tmp 23)) 23,
   LL 25 (.move (.tmp 1)) 3,
   LL 26 (.call {callee:=(.value (.func 14)),args:= #[(.tmp 24),(.tmp 25)],argTypes:= #[23,3]}) 3,
   LL 1 (.assign (.tmp 26)) 3])))):Round Tryz.prog 28 [] PO 104 2 body l.length (l.flatMap Ey) k:=by
 subst hb
 intro St w0 bs g cap j w T hnd hbs hj hI0 t0 t1 t5
 have hd:Cm (l.flatMap Ey)=true:=JT oE l
 have hI0:Inv Tryz.prog St PO 104 l.length (l.flatMap Ey) k (.slice (some ⟨g,0,none⟩) l.length cap) bs w0 (j * 2+0) w:=hI0
 have t1:T 1=some (.int .i64 (k+(EV (l.flatMap Ey) (j * 2+0):Int))):=t1
 have q0:(l.flatMap Ey)[j * 2+0]? =some (.str ((l[j]).1)):=(Qh ZD hj (by decide)).trans rfl
 have b0:=SL q0 h1
 rw[show SK (.str ((l[j]).1))=1 from rfl]at b0
 have x0:k+(EV (l.flatMap Ey) (j * 2+0):Int)+1=k+(EV (l.flatMap Ey) (j * 2+1):Int):=Xs (k:=k) q0 rfl
 have n0:0<=k+(EV (l.flatMap Ey) (j * 2+0):Int):=SM h0
 have q1:(l.flatMap Ey)[j * 2+1]? =some (oL 3 Am ((l[j]).2)):=(Qh ZD hj (by decide)).trans rfl
 have b1:=SL q1 h1
 have n1:0<=k+(EV (l.flatMap Ey) (j * 2+1):Int):=SM h0
 refine F5 (Fh (CT t0 (CT t5 (CT t1 (Oe p7 (args1 rfl) ((cR n0 (by omega) hI0.glb).mono ?_))))))
 rintro e0 w1 ⟨rfl,z0⟩
 have hI0:=hI0.grow hd hbs z0
 obtain⟨u0,c0,f0,hI1⟩:=hI0.str' hd hnd q0 (lO n0 (by omega))
 refine⟨_,rfl,WM FZ rfl rfl rfl hj (Q3 FZ rfl rfl rfl (Sr FZ rfl rfl rfl rfl c0 f0 rfl (Ff ?_)))⟩
 generalize hw2:World.setCell _ _ _=w2 at hI1⊢
 refine F5 (Fh (CT t1 (VW rfl (by omega) (by unfold mB at b0;omega) (J7 rfl (Ff ?_)))))
 rw[x0]
 have k1:=IK ((l[j]).2) (k+(EV (l.flatMap Ey) (j * 2+1):Int)) n1 b1
 obtain⟨u1,c1,d1⟩:=hI1.own' hd hnd hbs q1 k1
 have d1:Calls Tryz.prog 14 #[u1,.int .i64 (k+(EV (l.flatMap Ey) (j * 2+1):Int))] w2 (λe' w'=>e'=.returned (.int .i64 (k+(EV (l.flatMap Ey) (j * 2+2):Int)))∧Inv Tryz.prog St PO 104 l.length (l.flatMap Ey) k (.slice (some ⟨g,0,none⟩) l.length cap) bs w0 (j * 2+2) w'):=d1
 refine Fh (CT t0 (CT t5 (WM FZ rfl rfl rfl hj (Q3 FZ rfl rfl rfl (Qs FZ rfl rfl rfl c1 (CT rfl (Oe (O8 cM) (args2 rfl rfl) (d1.mono ?_))))))))
 rintro e1 w3 ⟨rfl,hI2⟩
 refine⟨_,rfl,J7 rfl (Ff ?_)⟩
 exact⟨rfl,t0,rfl,t5,hI2⟩
theorem X4(l:List Dn)(k:Int)(h0:0<=k)(h1:k+Dr (l.flatMap Ey)<=mB):Kt Tryz.prog 44 (.own 104 l.length (l.flatMap Ey)) k (.own 104 l.length (Ic PO (l.flatMap Ey) k)) (k+Dr (l.flatMap Ey)):=
 Q2 FZ (r:=27) (ty:=36) (it:=3) (bt:=4) vS (by decide) rfl (Bf ZD l) (by decide) (Ya l k h0 h1 rfl)
theorem AbR(x:Hv):Cm (HK x)=true:=(dpc rfl (dpc (dpo oE _) (dpc (dpo (λ_=>rfl) _) rfl)))
def Z9(x:Hv):Nat:=oh x.2.1+LG x.2.2
def tY(x:Hv)(k:Int):Hv:=(x.1,Aae x.2.1 (k),Uj x.2.2 (k+((oh x.2.1:Nat):Int)))
theorem Aei(x:Hv)(k:Int):TB PO (HK x) k=HK (tY x k):=by
 have h:TB PO [nI x.1,oL 104 Ey x.2.1,oL 3 Am x.2.2] k=_:=(mka (λ_ _=>rfl) (mY Ab2 hc104 _ (mY hmI hcI _ (show TB PO [] _=[]from rfl))))
 refine h.trans ?_
 simp only[HK,tY,Z9,LG,oh,Uj,Aae,IL,<-Dx,CY,Dx]
theorem Ab4(x:Hv):Fo (HK x)=Z9 x:=by
 have h:Fo [nI x.1,oL 104 Ey x.2.1,oL 3 Am x.2.2]=_:=(wU (λ_=>rfl) (cw hc104 _ (cw hcI _ (show Fo []=0 from rfl))))
 refine(show Fo (HK x)=_ from h).trans ?_
 simp only[Z9,LG,oh,Uj,Aae,CY,Cb,B6]
theorem X6(x:Hv)(k:Int)(h0:0<=k)(h1:k+Fo (HK x)<=mB):Kt Tryz.prog 13 (.agg (HK x)) k (.agg (TB PO (HK x) k)) (k+Fo (HK x)):=by
 refine⟨O8 vP,λw0 St v bs hO hnd hbs hG=>?_⟩
 obtain⟨us,rfl,hO⟩:=hO
 refine We (rs:=[]) (vs:=[.agg us.toArray,.int .i64 k]) vP (CK rfl) ?_
 have hd:Cm (HK x)=true:=AbR x
 have hI0:=SI.start (mt:=PO) (k:=k) (t:=38) hO hd hbs hG
 refine F5 (Fh (jY rfl (WL (Ff ?_))))
 have hI1:=hI0.skip (c:=nI x.1) rfl (λ_=>rfl)
 have q1:(HK x)[1]? =some (oL 104 Ey x.2.1):=rfl
 obtain⟨u1,c1,d1⟩:=hI1.own hd hnd hbs q1 (X4 x.2.1 (k+(Fo ((HK x).take 1):Int)) (by omega) (UM q1 h1))
 refine F5 (Fh (Q3 FZ rfl rfl rfl (Qs FZ rfl rfl rfl c1 (CT (AaZ (k:=k) (n:=Fo ((HK x).take 1)) rfl) (Oe (O8 vS) (args2 rfl rfl) (d1.mono ?_))))))
 rintro e1 w1 ⟨rfl,hI2⟩
 refine⟨_,rfl,J7 rfl (Ff ?_)⟩
 have q2:(HK x)[2]? =some (oL 3 Am x.2.2):=rfl
 obtain⟨u2,c2,d2⟩:=hI2.own hd hnd hbs q2 (IK x.2.2 (k+(Fo ((HK x).take 2):Int)) (by omega) (UM q2 h1))
 refine F5 (Fh (Q3 FZ rfl rfl rfl (Qs FZ rfl rfl rfl c2 (CT rfl (Oe (O8 cM) (args2 rfl rfl) (d2.mono ?_))))))
 rintro e2 w2 ⟨rfl,hI3⟩
 refine⟨_,rfl,J7 rfl (Ff ?_)⟩
 obtain⟨hx,hy⟩:=hI3.done (CK rfl)
 refine F5 (Fh (CT rfl (J7 rfl (Ff ?_))))
 exact eM ⟨.inl rfl,_,rfl,rfl,⟨us,rfl,hx⟩,hy⟩
def Q0(x:Hv)(k:Int):Option (Hv×Int):=chk (0<=k∧k+(Z9 x:Int)<=mB) (some (tY x k,k+Z9 x))
theorem X1{x:Hv}{k:Int}(h0:0<=k)(h1:k+(Z9 x:Int)<=mB):Q0 x k=some (tY x k,k+Z9 x):=AN ⟨h0,h1⟩
theorem X2{x:Hv}{k:Int}{r:Hv×Int}(h:Q0 x k=some r):Kt Tryz.prog 13 (.agg (HK x)) k (.agg (HK r.1)) r.2:=by
 obtain⟨⟨h0,h1⟩,h⟩:=Sc h
 have hr:=Dy h
 subst hr
 have e:=X6 x k h0 (by rw[Ab4];exact h1)
 rw[Aei,Ab4]at e
 exact e
def sO(x:List (List Int)):Nat:=JB LG x
def Aad(x:List (List Int))(k:Int):List (List Int):=Zq LG Uj x k
theorem Yb(l:List (List Int))(k:Int)(h0:0<=k)(h1:k+Dr (l.flatMap A2)<=mB){body:LC}(hb:body=(.rgn [] [LL 12 (.move (.tmp 0)) 29,
   LL 13 (.move (.tmp 5)) 3,
   LL 14 (.indexAddr 29 (.tmp 12) (.tmp 13)) 0,
   LL 15 (.load 23 (.tmp 14)) 23,
   LL 16 (.move (.tmp 1)) 3,
   LL 17 (.call {callee:=(.value (.func 14)),args:= #[(.tmp 15),(.tmp 16)],argTypes:= #[23,3]}) 3,
   LL 1 (.assign (.tmp 17)) 3])):Round Tryz.prog 19 [] PO 23 1 body l.length (l.flatMap A2) k:=by
 subst hb
 intro St w0 bs g cap j w T hnd hbs hj hI0 t0 t1 t5
 have hd:Cm (l.flatMap A2)=true:=JT AbQ l
 have hI0:Inv Tryz.prog St PO 23 l.length (l.flatMap A2) k (.slice (some ⟨g,0,none⟩) l.length cap) bs w0 (j * 1+0) w:=hI0
 have t1:T 1=some (.int .i64 (k+(EV (l.flatMap A2) (j * 1+0):Int))):=t1
 have q0:(l.flatMap A2)[j * 1+0]? =some (oL 3 Am (l[j])):=(Qh Dp hj (by decide)).trans rfl
 have b0:=SL q0 h1
 have n0:0<=k+(EV (l.flatMap A2) (j * 1+0):Int):=SM h0
 have k0:=IK (l[j]) (k+(EV (l.flatMap A2) (j * 1+0):Int)) n0 b0
 obtain⟨u0,c0,d0⟩:=hI0.own' hd hnd hbs q0 k0
 have d0:Calls Tryz.prog 14 #[u0,.int .i64 (k+(EV (l.flatMap A2) (j * 1+0):Int))] w (λe' w'=>e'=.returned (.int .i64 (k+(EV (l.flatMap A2) (j * 1+1):Int)))∧Inv Tryz.prog St PO 23 l.length (l.flatMap A2) k (.slice (some ⟨g,0,none⟩) l.length cap) bs w0 (j * 1+1) w'):=d0
 refine Fh (CT t0 (CT t5 (WM FZ rfl rfl rfl hj (Qs FZ rfl rfl rfl c0 (CT t1 (Oe (O8 cM) (args2 rfl rfl) (d0.mono ?_)))))))
 rintro e0 w1 ⟨rfl,hI1⟩
 refine⟨_,rfl,J7 rfl (Ff ?_)⟩
 exact⟨rfl,t0,rfl,t5,hI1⟩
theorem X5(l:List (List Int))(k:Int)(h0:0<=k)(h1:k+Dr (l.flatMap A2)<=mB):Kt Tryz.prog 103 (.own 23 l.length (l.flatMap A2)) k (.own 23 l.length (Ic PO (l.flatMap A2) k)) (k+Dr (l.flatMap A2)):=
 Q2 FZ (r:=18) (ty:=29) (it:=3) (bt:=4) pJ (by decide) rfl (Bf Dp l) (by decide) (Yb l k h0 h1 rfl)
def ol(x:DY):Nat:=(1)+(sO x.2)
def Aag(x:DY)(k:Int):DY:=((k),Aad x.2 (k+((1:Nat):Int)))
def Z1(x:Di):Nat:=(1)+(ol x.2)
def pX(x:Di)(k:Int):Di:=(PO (k),Aag x.2 (k+((1:Nat):Int)))
theorem Ab3(x:Di)(k:Int):Ic PO (Df x) k=Df (pX x k):=by
 have h:Ic PO [.str x.1,nI x.2.1,oL 23 A2 x.2.2] k=_:=(mkc (n:=1) (c':=V.str _) rfl rfl (mkc (n:=1) (c':=V.int .i64 _) rfl rfl (mkc (jW Aeg xk _ _) (UO xk _) (show Ic PO [] _=[]from rfl))))
 refine h.trans ?_
 simp only[Df,pX,Z1,Ng,sO,ol,Aad,Aag,IL,<-Dx,CY,Dx]
theorem vD(x:Di):Dr (Df x)=Z1 x:=by
 have h:Dr [.str x.1,nI x.2.1,oL 23 A2 x.2.2]=_:=(gd (n:=1) rfl (gd (n:=1) rfl (gd (UO xk _) (show Dr []=0 from rfl))))
 refine(show Dr (Df x)=_ from h).trans ?_
 simp only[Z1,Ng,sO,ol,Aad,Aag,CY,Cb]
theorem vC(x:Di):Cm (Df x)=true:=(dpc rfl (dpc rfl (dpc (dpo AbQ _) rfl)))
def sP(x:List Di):Nat:=JB Z1 x
def Aaf(x:List Di)(k:Int):List Di:=Zq Z1 pX x k
theorem WV(l:List Di)(k:Int)(h0:0<=k)(h1:k+Dr (l.flatMap Df)<=mB){body:LC}(hb:body=(.seq (.rgn [] [LL 12 (.move (.tmp 0)) 57,
   LL 13 (.move (.tmp 5)) 3,
   LL 14 (.move (.tmp 1)) 3,
   LL 15 (.call {callee:=(.value (.func 102)),args:= #[(.tmp 14)],argTypes:= #[3]}) 9,
   LL 16 (.indexAddr 57 (.tmp 12) (.tmp 13)) 0,
   LL 17 (.fieldAddr 154 (.tmp 16) 0) 0,
   ⟨none,(.store 9 (.tmp 17) (.tmp 15)),0,none⟩])
  (.seq (.rgn [] [LL 18 (.move (.tmp 1)) 3,
   LL 19 (.binOp .add 3 (.tmp 18) (.const (.int .i64 1)) 3) 3,
   LL 1 (.assign (.tmp 19)) 3])
  (.seq (.rgn [] [LL 20 (.move (.tmp 0)) 57,
   LL 21 (.move (.tmp 5)) 3,
   LL 22 (.move (.tmp 1)) 3,
   LL 23 (.indexAddr 57 (.tmp 20) (.tmp 21)) 0,
   LL 24 (.fieldAddr 154 (.tmp 23) 1) 0,
   LL 25 (.fieldAddr 87 (.tmp 24) 0) 0,
   ⟨none,(.store 3 (.tmp 25) (.tmp 22)),0,none⟩])
  (.seq (.rgn [] [LL 26 (.move (.tmp 1)) 3,
   LL 27 (.binOp .add 3 (.tmp 26) (.const (.int .i64 1)) 3) 3,
   LL 1 (.assign (.tmp 27)) 3])
  (.rgn [] [LL 28 (.move (.tmp 0)) 57,
   LL 29 (.move (.tmp 5)) 3,
   LL 30 (.indexAddr 57 (.tmp 28) (.tmp 29)) 0,
   LL 31 (.fieldAddr 154 (.tmp 30) 1) 0,
   LL 32 (.fieldAddr 87 (.tmp 31) 1) 0,
   LL 33 (.load 29 (.tmp 32)) 29,
   LL 34 (.move (.tmp 1)) 3,
   LL 35 (.call {callee:=(.value (.func 103)),args:= #[(.tmp 33),(.tmp 34)],argTypes:= #[29,3]}) 3,
   LL 1 (.assign (.tmp 35)) 3])))))):Round Tryz.prog 37 [] PO 154 3 body l.length (l.flatMap Df) k:=by
 subst hb
 intro St w0 bs g cap j w T hnd hbs hj hI0 t0 t1 t5
 have hd:Cm (l.flatMap Df)=true:=JT vC l
 have hI0:Inv Tryz.prog St PO 154 l.length (l.flatMap Df) k (.slice (some ⟨g,0,none⟩) l.length cap) bs w0 (j * 3+0) w:=hI0
 have t1:T 1=some (.int .i64 (k+(EV (l.flatMap Df) (j * 3+0):Int))):=t1
 have q0:(l.flatMap Df)[j * 3+0]? =some (.str ((l[j]).1)):=(Qh UD hj (by decide)).trans rfl
 have b0:=SL q0 h1
 rw[show SK (.str ((l[j]).1))=1 from rfl]at b0
 have x0:k+(EV (l.flatMap Df) (j * 3+0):Int)+1=k+(EV (l.flatMap Df) (j * 3+1):Int):=Xs (k:=k) q0 rfl
 have n0:0<=k+(EV (l.flatMap Df) (j * 3+0):Int):=SM h0
 have q1:(l.flatMap Df)[j * 3+1]? =some (nI (((l[j]).2).1)):=(Qh UD hj (by decide)).trans rfl
 have b1:=SL q1 h1
 rw[show SK (nI (((l[j]).2).1))=1 from rfl]at b1
 have x1:k+(EV (l.flatMap Df) (j * 3+1):Int)+1=k+(EV (l.flatMap Df) (j * 3+2):Int):=Xs (k:=k) q1 rfl
 have n1:0<=k+(EV (l.flatMap Df) (j * 3+1):Int):=SM h0
 have q2:(l.flatMap Df)[j * 3+2]? =some (oL 23 A2 (((l[j]).2).2)):=(Qh UD hj (by decide)).trans rfl
 have b2:=SL q2 h1
 have n2:0<=k+(EV (l.flatMap Df) (j * 3+2):Int):=SM h0
 refine F5 (Fh (CT t0 (CT t5 (CT t1 (Oe p7 (args1 rfl) ((cR n0 (by omega) hI0.glb).mono ?_))))))
 rintro e0 w1 ⟨rfl,z0⟩
 have hI0:=hI0.grow hd hbs z0
 obtain⟨u0,c0,f0,hI1⟩:=hI0.str' hd hnd q0 (lO n0 (by omega))
 refine⟨_,rfl,WM FZ rfl rfl rfl hj (Q3 FZ rfl rfl rfl (Sr FZ rfl rfl rfl rfl c0 f0 rfl (Ff ?_)))⟩
 generalize hw2:World.setCell _ _ _=w2 at hI1⊢
 refine F5 (Fh (CT t1 (VW rfl (by omega) (by unfold mB at b0;omega) (J7 rfl (Ff ?_)))))
 rw[x0]
 obtain⟨u1,c1,f1,hI2⟩:=hI1.int' hd hnd q1
 refine F5 (Fh (CT t0 (CT t5 (CT rfl (WM FZ rfl rfl rfl hj (Q3 FZ rfl rfl rfl (Q3 FZ rfl rfl rfl (Sr FZ rfl rfl rfl rfl c1 f1 rfl (Ff ?_)))))))))
 generalize hw3:World.setCell _ _ _=w3 at hI2⊢
 refine F5 (Fh (CT rfl (VW rfl (by omega) (by unfold mB at b1;omega) (J7 rfl (Ff ?_)))))
 rw[x1]
 have k2:=X5 (((l[j]).2).2) (k+(EV (l.flatMap Df) (j * 3+2):Int)) n2 b2
 obtain⟨u2,c2,d2⟩:=hI2.own' hd hnd hbs q2 k2
 have d2:Calls Tryz.prog 103 #[u2,.int .i64 (k+(EV (l.flatMap Df) (j * 3+2):Int))] w3 (λe' w'=>e'=.returned (.int .i64 (k+(EV (l.flatMap Df) (j * 3+3):Int)))∧Inv Tryz.prog St PO 154 l.length (l.flatMap Df) k (.slice (some ⟨g,0,none⟩) l.length cap) bs w0 (j * 3+3) w'):=d2
 refine Fh (CT t0 (CT t5 (WM FZ rfl rfl rfl hj (Q3 FZ rfl rfl rfl (Q3 FZ rfl rfl rfl (Qs FZ rfl rfl rfl c2 (CT rfl (Oe (O8 pJ) (args2 rfl rfl) (d2.mono ?_)))))))))
 rintro e2 w4 ⟨rfl,hI3⟩
 refine⟨_,rfl,J7 rfl (Ff ?_)⟩
 exact⟨rfl,t0,rfl,t5,hI3⟩
theorem WI(l:List Di)(k:Int)(h0:0<=k)(h1:k+Dr (l.flatMap Df)<=mB):Kt Tryz.prog 61 (.own 154 l.length (l.flatMap Df)) k (.own 154 l.length (Ic PO (l.flatMap Df) k)) (k+Dr (l.flatMap Df)):=
 Q2 FZ (r:=36) (ty:=57) (it:=3) (bt:=4) vT (by decide) rfl (Bf UD l) (by decide) (WV l k h0 h1 rfl)
theorem AbT(x:List Di):Cm (JH x)=true:=(dpc (dpo vC _) rfl)
def YJ(x:List Di):Nat:=sP x
def tZ(x:List Di)(k:Int):List Di:=Aaf x (k)
theorem Aek(x:List Di)(k:Int):TB PO (JH x) k=JH (tZ x k):=by
 have h:TB PO [oL 154 Df x] k=_:=(mY Ab3 vD _ (show TB PO [] _=[]from rfl))
 refine h.trans ?_
 simp only[JH,tZ,YJ,sP,Aaf,IL,<-Dx,CY,Dx]
theorem Ab6(x:List Di):Fo (JH x)=YJ x:=by
 have h:Fo [oL 154 Df x]=_:=(cw vD _ (show Fo []=0 from rfl))
 refine(show Fo (JH x)=_ from h).trans ?_
 simp only[YJ,sP,Aaf,CY,Cb,B6]
theorem Vm(x:List Di)(k:Int)(h0:0<=k)(h1:k+Fo (JH x)<=mB):Kt Tryz.prog 23 (.agg (JH x)) k (.agg (TB PO (JH x) k)) (k+Fo (JH x)):=by
 refine⟨O8 vQ,λw0 St v bs hO hnd hbs hG=>?_⟩
 obtain⟨us,rfl,hO⟩:=hO
 refine We (rs:=[]) (vs:=[.agg us.toArray,.int .i64 k]) vQ (CK rfl) ?_
 have hd:Cm (JH x)=true:=AbT x
 have hI0:=SI.start (mt:=PO) (k:=k) (t:=59) hO hd hbs hG
 refine F5 (Fh (jY rfl (WL (Ff ?_))))
 have q0:(JH x)[0]? =some (oL 154 Df x):=rfl
 obtain⟨u0,c0,d0⟩:=hI0.own hd hnd hbs q0 (WI x (k+(Fo ((JH x).take 0):Int)) (by omega) (UM q0 h1))
 refine F5 (Fh (Q3 FZ rfl rfl rfl (Qs FZ rfl rfl rfl c0 (CT (AaZ (k:=k) (n:=Fo ((JH x).take 0)) rfl) (Oe (O8 vT) (args2 rfl rfl) (d0.mono ?_))))))
 rintro e0 w1 ⟨rfl,hI1⟩
 refine⟨_,rfl,J7 rfl (Ff ?_)⟩
 obtain⟨hx,hy⟩:=hI1.done (CK rfl)
 refine F5 (Fh (CT rfl (J7 rfl (Ff ?_))))
 exact eM ⟨.inl rfl,_,rfl,rfl,⟨us,rfl,hx⟩,hy⟩
def N8(x:List Di)(k:Int):Option ((List Di)×Int):=chk (0<=k∧k+(YJ x:Int)<=mB) (some (tZ x k,k+YJ x))
theorem Vk{x:List Di}{k:Int}(h0:0<=k)(h1:k+(YJ x:Int)<=mB):N8 x k=some (tZ x k,k+YJ x):=AN ⟨h0,h1⟩
theorem Vl{x:List Di}{k:Int}{r:(List Di)×Int}(h:N8 x k=some r):Kt Tryz.prog 23 (.agg (JH x)) k (.agg (JH r.1)) r.2:=by
 obtain⟨⟨h0,h1⟩,h⟩:=Sc h
 have hr:=Dy h
 subst hr
 have e:=Vm x k h0 (by rw[Ab6];exact h1)
 rw[Aek,Ab6]at e
 exact e
def Z2(x:Bc):Nat:=(1)+(1)
def mX(x:Bc)(k:Int):Bc:=((k),(k+((1:Nat):Int)))
theorem Aeh(x:Bc)(k:Int):Ic PO (AS x) k=AS (mX x k):=by
 have h:Ic PO [nI x.1,nI x.2] k=_:=(mkc (n:=1) (c':=V.int .i64 _) rfl rfl (mkc (n:=1) (c':=V.int .i64 _) rfl rfl (show Ic PO [] _=[]from rfl)))
 refine h.trans ?_
 simp only[AS,mX,Z2,IL,<-Dx,CY,Dx]
theorem Ab1(x:Bc):Dr (AS x)=Z2 x:=by
 have h:Dr [nI x.1,nI x.2]=_:=(gd (n:=1) rfl (gd (n:=1) rfl (show Dr []=0 from rfl)))
 refine(show Dr (AS x)=_ from h).trans ?_
 simp only[Z2,CY,Cb]
theorem dW(x:Bc):Cm (AS x)=true:=(dpc rfl (dpc rfl rfl))
def Xp(x:List Bc):Nat:=JB Z2 x
def pY(x:List Bc)(k:Int):List Bc:=Zq Z2 mX x k
theorem Ur(l:List Bc)(k:Int)(h0:0<=k)(h1:k+Dr (l.flatMap AS)<=mB){body:LC}(hb:body=(.seq (.rgn [] [LL 12 (.move (.tmp 0)) 52,
   LL 13 (.move (.tmp 5)) 3,
   LL 14 (.move (.tmp 1)) 3,
   LL 15 (.indexAddr 52 (.tmp 12) (.tmp 13)) 0,
   LL 16 (.fieldAddr 71 (.tmp 15) 0) 0,
   ⟨none,(.store 3 (.tmp 16) (.tmp 14)),0,none⟩])
  (.seq (.rgn [] [LL 17 (.move (.tmp 1)) 3,
   LL 18 (.binOp .add 3 (.tmp 17) (.const (.int .i64 1)) 3) 3,
   LL 1 (.assign (.tmp 18)) 3])
  (.seq (.rgn [] [LL 19 (.move (.tmp 0)) 52,
   LL 20 (.move (.tmp 5)) 3,
   LL 21 (.move (.tmp 1)) 3,
   LL 22 (.indexAddr 52 (.tmp 19) (.tmp 20)) 0,
   LL 23 (.fieldAddr 71 (.tmp 22) 1) 0,
   ⟨none,(.store 3 (.tmp 23) (.tmp 21)),0,none⟩])
  (.rgn [] [LL 24 (.move (.tmp 1)) 3,
   LL 25 (.binOp .add 3 (.tmp 24) (.const (.int .i64 1)) 3) 3,
   LL 1 (.assign (.tmp 25)) 3]))))):Round Tryz.prog 27 [] PO 71 2 body l.length (l.flatMap AS) k:=by
 subst hb
 intro St w0 bs g cap j w T hnd hbs hj hI0 t0 t1 t5
 have hd:Cm (l.flatMap AS)=true:=JT dW l
 have hI0:Inv Tryz.prog St PO 71 l.length (l.flatMap AS) k (.slice (some ⟨g,0,none⟩) l.length cap) bs w0 (j * 2+0) w:=hI0
 have t1:T 1=some (.int .i64 (k+(EV (l.flatMap AS) (j * 2+0):Int))):=t1
 have q0:(l.flatMap AS)[j * 2+0]? =some (nI ((l[j]).1)):=(Qh B9 hj (by decide)).trans rfl
 have b0:=SL q0 h1
 rw[show SK (nI ((l[j]).1))=1 from rfl]at b0
 have x0:k+(EV (l.flatMap AS) (j * 2+0):Int)+1=k+(EV (l.flatMap AS) (j * 2+1):Int):=Xs (k:=k) q0 rfl
 have n0:0<=k+(EV (l.flatMap AS) (j * 2+0):Int):=SM h0
 have q1:(l.flatMap AS)[j * 2+1]? =some (nI ((l[j]).2)):=(Qh B9 hj (by decide)).trans rfl
 have b1:=SL q1 h1
 rw[show SK (nI ((l[j]).2))=1 from rfl]at b1
 have x1:k+(EV (l.flatMap AS) (j * 2+1):Int)+1=k+(EV (l.flatMap AS) (j * 2+2):Int):=Xs (k:=k) q1 rfl
 have n1:0<=k+(EV (l.flatMap AS) (j * 2+1):Int):=SM h0
 obtain⟨u0,c0,f0,hI1⟩:=hI0.int' hd hnd q0
 refine F5 (Fh (CT t0 (CT t5 (CT t1 (WM FZ rfl rfl rfl hj (Q3 FZ rfl rfl rfl (Sr FZ rfl rfl rfl rfl c0 f0 rfl (Ff ?_))))))))
 generalize hw1:World.setCell _ _ _=w1 at hI1⊢
 refine F5 (Fh (CT t1 (VW rfl (by omega) (by unfold mB at b0;omega) (J7 rfl (Ff ?_)))))
 rw[x0]
 obtain⟨u1,c1,f1,hI2⟩:=hI1.int' hd hnd q1
 refine F5 (Fh (CT t0 (CT t5 (CT rfl (WM FZ rfl rfl rfl hj (Q3 FZ rfl rfl rfl (Sr FZ rfl rfl rfl rfl c1 f1 rfl (Ff ?_))))))))
 generalize hw2:World.setCell _ _ _=w2 at hI2⊢
 refine Fh (CT rfl (VW rfl (by omega) (by unfold mB at b1;omega) (J7 rfl (Ff ?_))))
 rw[x1]
 exact⟨rfl,t0,rfl,t5,hI2⟩
theorem Ui(l:List Bc)(k:Int)(h0:0<=k)(h1:k+Dr (l.flatMap AS)<=mB):Kt Tryz.prog 62 (.own 71 l.length (l.flatMap AS)) k (.own 71 l.length (Ic PO (l.flatMap AS) k)) (k+Dr (l.flatMap AS)):=
 Q2 FZ (r:=26) (ty:=52) (it:=3) (bt:=4) vU (by decide) rfl (Bf B9 l) (by decide) (Ur l k h0 h1 rfl)
theorem AbS(x:Xh):Cm (Gj x)=true:=(dpc (dpo (λ_=>rfl) _) (dpc (dpo dW _) (dpc (dpo (λ_=>rfl) _) (dpc rfl (dpc rfl rfl)))))
def Wf(x:Xh):Nat:=LG x.1+Xp x.2.1+LG x.2.2.1
def mZ(x:Xh)(k:Int):Xh:=(Uj x.1 (k),pY x.2.1 (k+((LG x.1:Nat):Int)),Uj x.2.2.1 (k+((LG x.1:Nat):Int)+((Xp x.2.1:Nat):Int)),x.2.2.2.1,x.2.2.2.2)
theorem Aej(x:Xh)(k:Int):TB PO (Gj x) k=Gj (mZ x k):=by
 have h:TB PO [oL 3 Am x.1,oL 71 AS x.2.1,oL 3 Am x.2.2.1,nI x.2.2.2.1,nI x.2.2.2.2] k=_:=(mY hmI hcI _ (mY Aeh Ab1 _ (mY hmI hcI _ (mka (λ_ _=>rfl) (mka (λ_ _=>rfl) (show TB PO [] _=[]from rfl))))))
 refine h.trans ?_
 simp only[Gj,mZ,Wf,LG,Xp,Uj,pY,IL,<-Dx,CY,Dx]
theorem Ab5(x:Xh):Fo (Gj x)=Wf x:=by
 have h:Fo [oL 3 Am x.1,oL 71 AS x.2.1,oL 3 Am x.2.2.1,nI x.2.2.2.1,nI x.2.2.2.2]=_:=(cw hcI _ (cw Ab1 _ (cw hcI _ (wU (λ_=>rfl) (wU (λ_=>rfl) (show Fo []=0 from rfl))))))
 refine(show Fo (Gj x)=_ from h).trans ?_
 simp only[Wf,LG,Xp,Uj,pY,CY,Cb,B6]
theorem S7(x:Xh)(k:Int)(h0:0<=k)(h1:k+Fo (Gj x)<=mB):Kt Tryz.prog 24 (.agg (Gj x)) k (.agg (TB PO (Gj x) k)) (k+Fo (Gj x)):=by
 refine⟨O8 vR,λw0 St v bs hO hnd hbs hG=>?_⟩
 obtain⟨us,rfl,hO⟩:=hO
 refine We (rs:=[]) (vs:=[.agg us.toArray,.int .i64 k]) vR (CK rfl) ?_
 have hd:Cm (Gj x)=true:=AbS x
 have hI0:=SI.start (mt:=PO) (k:=k) (t:=54) hO hd hbs hG
 refine F5 (Fh (jY rfl (WL (Ff ?_))))
 have q0:(Gj x)[0]? =some (oL 3 Am x.1):=rfl
 obtain⟨u0,c0,d0⟩:=hI0.own hd hnd hbs q0 (IK x.1 (k+(Fo ((Gj x).take 0):Int)) (by omega) (UM q0 h1))
 refine F5 (Fh (Q3 FZ rfl rfl rfl (Qs FZ rfl rfl rfl c0 (CT (AaZ (k:=k) (n:=Fo ((Gj x).take 0)) rfl) (Oe (O8 cM) (args2 rfl rfl) (d0.mono ?_))))))
 rintro e0 w1 ⟨rfl,hI1⟩
 refine⟨_,rfl,J7 rfl (Ff ?_)⟩
 have q1:(Gj x)[1]? =some (oL 71 AS x.2.1):=rfl
 obtain⟨u1,c1,d1⟩:=hI1.own hd hnd hbs q1 (Ui x.2.1 (k+(Fo ((Gj x).take 1):Int)) (by omega) (UM q1 h1))
 refine F5 (Fh (Q3 FZ rfl rfl rfl (Qs FZ rfl rfl rfl c1 (CT rfl (Oe (O8 vU) (args2 rfl rfl) (d1.mono ?_))))))
 rintro e1 w2 ⟨rfl,hI2⟩
 refine⟨_,rfl,J7 rfl (Ff ?_)⟩
 have q2:(Gj x)[2]? =some (oL 3 Am x.2.2.1):=rfl
 obtain⟨u2,c2,d2⟩:=hI2.own hd hnd hbs q2 (IK x.2.2.1 (k+(Fo ((Gj x).take 2):Int)) (by omega) (UM q2 h1))
 refine F5 (Fh (Q3 FZ rfl rfl rfl (Qs FZ rfl rfl rfl c2 (CT rfl (Oe (O8 cM) (args2 rfl rfl) (d2.mono ?_))))))
 rintro e2 w3 ⟨rfl,hI3⟩
 refine⟨_,rfl,J7 rfl (Ff ?_)⟩
 have hI4:=hI3.skip (c:=nI x.2.2.2.1) rfl (λ_=>rfl)
 have hI5:=hI4.skip (c:=nI x.2.2.2.2) rfl (λ_=>rfl)
 obtain⟨hx,hy⟩:=hI5.done (CK rfl)
 refine F5 (Fh (CT rfl (J7 rfl (Ff ?_))))
 exact eM ⟨.inl rfl,_,rfl,rfl,⟨us,rfl,hx⟩,hy⟩
def LR(x:Xh)(k:Int):Option (Xh×Int):=chk (0<=k∧k+(Wf x:Int)<=mB) (some (mZ x k,k+Wf x))
theorem SX{x:Xh}{k:Int}(h0:0<=k)(h1:k+(Wf x:Int)<=mB):LR x k=some (mZ x k,k+Wf x):=AN ⟨h0,h1⟩
theorem SY{x:Xh}{k:Int}{r:Xh×Int}(h:LR x k=some r):Kt Tryz.prog 24 (.agg (Gj x)) k (.agg (Gj r.1)) r.2:=by
 obtain⟨⟨h0,h1⟩,h⟩:=Sc h
 have hr:=Dy h
 subst hr
 have e:=S7 x k h0 (by rw[Ab5];exact h1)
 rw[Aej,Ab5]at e
 exact e
def kH(x:List Int):List V:=[aL Am x]
theorem wX(x:List Int):Nx (kH x)=B4 x:=(Br (T7 AU _) rfl)
theorem tn(x:List Int):Gu (kH x)=true:=(acc (aca (λ_=>rfl) _) rfl)
def dH(x:DY):List V:=[nI x.1,dL B4 x.2]
abbrev ID:=(List UInt8)×DY
def JF(x:ID):List V:=[.str x.1,nI x.2.1,dL B4 x.2.2]
theorem bW(x:ID):(JF x).length=3:=rfl
theorem gm(x:ID):Nx (JF x)=JF x:=(Br rfl (Br rfl (Br (BN Dd _) rfl)))
def Qg(x:ID):List V:=[.str x.1,nI x.2.1,aL kH x.2.2]
theorem T5(x:ID):Nx (Qg x)=JF x:=(Br rfl (Br rfl (Br (T7 wX _) rfl)))
def sJ(x:List ID):List V:=[dL JF x]
def kJ(x:List ID):List V:=[dL JF x]
def sL(x:List ID):List V:=[aL Qg x]
def NJ(x:Dn):List V:=[.str x.1,dL Am x.2]
theorem fG(x:Dn):(NJ x).length=2:=rfl
theorem kU(x:Dn):Nx (NJ x)=NJ x:=(Br rfl (Br (BN AU _) rfl))
def TY(x:Dn):List V:=[.str x.1,aL Am x.2]
theorem Wh(x:Dn):Nx (TY x)=NJ x:=(Br rfl (Br (T7 AU _) rfl))
def wP(x:List Dn):List V:=[dL NJ x]
abbrev Y24:=Int×(List Dn)×(List Int)
def Y9(x:Y24):List V:=[nI x.1,dL NJ x.2.1,dL Am x.2.2]
def kI(x:Y24):List V:=[nI x.1,aL TY x.2.1,aL Am x.2.2]
theorem Ae1(x:List Int):Ups (B4 x) (kH x):=(upc (ku Zb _) upn)
theorem kz(x:ID):Gu (Qg x)=true:=(adc rfl (adc rfl (adc (ada tn _) rfl)))
theorem AdX(x:ID):Ups (JF x) (Qg x):=(upc ⟨rfl,rfl⟩ (upc ⟨rfl,rfl⟩ (upc (ku Ae1 _) upn)))
theorem Ae3(x:List ID):Ups (kJ x) (sL x):=(upc (ku AdX _) upn)
theorem kx(x:Dn):Gu (TY x)=true:=(adc rfl (adc (ada (λ_=>rfl) _) rfl))
theorem AdW(x:Dn):Ups (NJ x) (TY x):=(upc ⟨rfl,rfl⟩ (upc (ku Zb _) upn))
theorem Ae2(x:Y24):Ups (Y9 x) (kI x):=(upc ⟨rfl,rfl⟩ (upc (ku AdW _) (upc (ku Zb _) upn)))
end Go.Proofs.YtaagdgjndpgdgaaGreatDoor
