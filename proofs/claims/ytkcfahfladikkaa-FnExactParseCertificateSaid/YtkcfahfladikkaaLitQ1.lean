/-
  The functions' code as the program holds it, without places and edges; printed by genlit.py. No conditions.
-/
import Derived.Test.YtkcfahfladikkaaTb
namespace Go.Proofs.Ytkcfahfladikkaa
open Go.RowKit
set_option linter.unusedVariables false
set_option maxRecDepth 100000
/-- laws.eqIntS -/
def c19 : LC :=
  (.seq (.rgn [] [LL 4 (.assign (.const (.bool false))) 4])
 (.seq (.seq (.rgn [] [LL 6 (.move (.tmp 0)) 25,
 LL 7 (.call { callee := (.builtin .len), args := #[(.tmp 6)], argTypes := #[25] }) 3,
 LL 8 (.move (.tmp 1)) 25,
 LL 9 (.call { callee := (.builtin .len), args := #[(.tmp 8)], argTypes := #[25] }) 3,
 LL 10 (.binOp .neq 3 (.tmp 7) (.tmp 9) 3) 4])
 (.cond (.tmp 10)
 (.seq (.rgn [] [LL 4 (.assign (.const (.bool false))) 4])
 .ret)
 .skip))
 (.seq (.seq (.rgn [] [LL 5 (.assign (.const (.int .i64 0))) 3])
 (.blk 0
 (.loop []
 (.seq (.seq (.rgn [] [LL 11 (.move (.tmp 5)) 3,
 LL 12 (.move (.tmp 0)) 25,
 LL 13 (.call { callee := (.builtin .len), args := #[(.tmp 12)], argTypes := #[25] }) 3,
 LL 14 (.binOp .lss 3 (.tmp 11) (.tmp 13) 3) 4])
 (.cond (.tmp 14)
 .skip
 (.exit 0)))
 (.seq (.blk 1
 (.seq (.drw [] [([0], [17]), ([5], [18]), ([17, 18], [19]), ([19], [20]), ([1], [21]), ([5], [22]), ([21, 22], [23]), ([23], [24]), ([20, 24], [25])] [[], [], [0, 1], [2], [], [], [4, 5], [6], [3, 7]] [LL 17 (.move (.tmp 0)) 25,
 LL 18 (.move (.tmp 5)) 3,
 LL 19 (.indexAddr 25 (.tmp 17) (.tmp 18)) 0,
 LL 20 (.load 3 (.tmp 19)) 3,
 LL 21 (.move (.tmp 1)) 25,
 LL 22 (.move (.tmp 5)) 3,
 LL 23 (.indexAddr 25 (.tmp 21) (.tmp 22)) 0,
 LL 24 (.load 3 (.tmp 23)) 3,
 LL 25 (.binOp .neq 3 (.tmp 20) (.tmp 24) 3) 4])
 (.cond (.tmp 25)
 (.seq (.rgn [] [LL 4 (.assign (.const (.bool false))) 4])
 .ret)
 .skip)))
 (.rgn [] [LL 15 (.move (.tmp 5)) 3,
 LL 16 (.binOp .add 3 (.tmp 15) (.const (.int .i64 1)) 3) 3,
 LL 5 (.assign (.tmp 16)) 3]))))))
 (.seq (.rgn [] [LL 4 (.assign (.const (.bool true))) 4])
 .ret))))
theorem lit19 : Lit Try.prog 19 26 [] [.tmp 4] c19 := ⟨⟨Try.f19, _, Try.func19, rfl, by kernel_rfl, rfl, rfl, by kernel_rfl, by kernel_rfl⟩, by decide, by kernel_rfl⟩
/-- laws.markIntS -/
def c24 : LC :=
  (.seq (.rgn [] [LL 4 (.assign (.const (.int .i64 0))) 3])
 (.seq (.seq (.rgn [] [LL 5 (.assign (.const (.int .i64 0))) 3])
 (.blk 0
 (.loop []
 (.seq (.seq (.rgn [] [LL 6 (.move (.tmp 5)) 3,
 LL 7 (.move (.tmp 0)) 25,
 LL 8 (.call { callee := (.builtin .len), args := #[(.tmp 7)], argTypes := #[25] }) 3,
 LL 9 (.binOp .lss 3 (.tmp 6) (.tmp 8) 3) 4])
 (.cond (.tmp 9)
 .skip
 (.exit 0)))
 (.seq (.blk 1
 (.seq (.rgn [] [LL 12 (.move (.tmp 0)) 25,
 LL 13 (.move (.tmp 5)) 3,
 LL 14 (.move (.tmp 1)) 3,
 LL 15 (.indexAddr 25 (.tmp 12) (.tmp 13)) 0,
 ⟨none, (.store 3 (.tmp 15) (.tmp 14)), 0, none⟩])
 (.rgn [] [LL 16 (.move (.tmp 1)) 3,
 LL 17 (.binOp .add 3 (.tmp 16) (.const (.int .i64 1)) 3) 3,
 LL 1 (.assign (.tmp 17)) 3])))
 (.rgn [] [LL 10 (.move (.tmp 5)) 3,
 LL 11 (.binOp .add 3 (.tmp 10) (.const (.int .i64 1)) 3) 3,
 LL 5 (.assign (.tmp 11)) 3]))))))
 (.seq (.rgn [] [LL 18 (.move (.tmp 1)) 3,
 LL 4 (.assign (.tmp 18)) 3])
 .ret)))
theorem lit24 : Lit Try.prog 24 19 [] [.tmp 4] c24 := ⟨⟨Try.f24, _, Try.func24, rfl, by kernel_rfl, rfl, rfl, by kernel_rfl, by kernel_rfl⟩, by decide, by kernel_rfl⟩
/-- laws.heldIntS -/
def c25 : LC :=
  (.seq (.rgn [] [LL 4 (.assign (.const (.int .i64 0))) 3])
 (.seq (.seq (.rgn [] [LL 5 (.assign (.const (.int .i64 0))) 3])
 (.blk 0
 (.loop []
 (.seq (.seq (.rgn [] [LL 6 (.move (.tmp 5)) 3,
 LL 7 (.move (.tmp 0)) 25,
 LL 8 (.call { callee := (.builtin .len), args := #[(.tmp 7)], argTypes := #[25] }) 3,
 LL 9 (.binOp .lss 3 (.tmp 6) (.tmp 8) 3) 4])
 (.cond (.tmp 9)
 .skip
 (.exit 0)))
 (.seq (.blk 1
 (.seq (.seq (.rgn [] [LL 12 (.move (.tmp 0)) 25,
 LL 13 (.move (.tmp 5)) 3,
 LL 14 (.indexAddr 25 (.tmp 12) (.tmp 13)) 0,
 LL 15 (.load 3 (.tmp 14)) 3,
 LL 16 (.move (.tmp 1)) 3,
 LL 17 (.binOp .neq 3 (.tmp 15) (.tmp 16) 3) 4])
 (.cond (.tmp 17)
 (.seq (.rgn [] [LL 4 (.assign (.const (.int .i64 (-1)))) 3])
 .ret)
 .skip))
 (.rgn [] [LL 18 (.move (.tmp 1)) 3,
 LL 19 (.binOp .add 3 (.tmp 18) (.const (.int .i64 1)) 3) 3,
 LL 1 (.assign (.tmp 19)) 3])))
 (.rgn [] [LL 10 (.move (.tmp 5)) 3,
 LL 11 (.binOp .add 3 (.tmp 10) (.const (.int .i64 1)) 3) 3,
 LL 5 (.assign (.tmp 11)) 3]))))))
 (.seq (.rgn [] [LL 20 (.move (.tmp 1)) 3,
 LL 4 (.assign (.tmp 20)) 3])
 .ret)))
theorem lit25 : Lit Try.prog 25 21 [] [.tmp 4] c25 := ⟨⟨Try.f25, _, Try.func25, rfl, by kernel_rfl, rfl, rfl, by kernel_rfl, by kernel_rfl⟩, by decide, by kernel_rfl⟩
/-- spec.ParseCertificate -/
def c33 : LC :=
  (.seq (.rgn [] [LL 2 (.alloc 59) 0,
 LL 3 (.assign (.const (.bool false))) 4])
 (.seq (.rgn [] [LL 8 (.move (.tmp 0)) 9,
 LL 9 (.call { callee := (.value (.func 95)), args := #[(.tmp 8), (.const (.int .u8 59))], argTypes := #[9, 5] }) 144,
 LL 4 (.assign (.tmp 9)) 144])
 (.seq (.seq (.rgn [] [LL 10 (.move (.tmp 4)) 144,
 LL 11 (.call { callee := (.builtin .len), args := #[(.tmp 10)], argTypes := #[144] }) 3,
 LL 12 (.binOp .neq 3 (.tmp 11) (.const (.int .i64 5)) 3) 4])
 (.cond (.tmp 12)
 (.seq (.rgn [] [LL 13 (.build 59 #[]) 59,
 ⟨none, (.store 59 (.tmp 2) (.tmp 13)), 0, none⟩,
 LL 3 (.assign (.const (.bool false))) 4])
 .ret)
 .skip))
 (.seq (.drw [] [([4], [14]), ([14], [15]), ([15], [16]), ([16], [17]), ([4], [18]), ([18], [19]), ([19], [20]), ([20], [21]), ([4], [22]), ([22], [23]), ([23], [24]), ([24], [25]), ([17, 21, 25], [17, 21, 25, 26]), ([5], [5]), ([5, 26], [5, 26])] [[], [0], [1], [2], [], [4], [5], [6, 3], [], [8], [9], [10, 7], [3, 7, 11], [], [13, 12, 11, 0, 1, 2, 3, 4, 5, 6, 7, 8, 9, 10, 11, 12, 13]] [LL 14 (.move (.tmp 4)) 144,
 LL 15 (.indexAddr 144 (.tmp 14) (.const (.int .i64 0))) 0,
 LL 16 (.load 9 (.tmp 15)) 9,
 LL 17 (.call { callee := (.value (.func 96)), args := #[(.tmp 16)], argTypes := #[9] }) 25,
 LL 18 (.move (.tmp 4)) 144,
 LL 19 (.indexAddr 144 (.tmp 18) (.const (.int .i64 3))) 0,
 LL 20 (.load 9 (.tmp 19)) 9,
 LL 21 (.call { callee := (.value (.func 97)), args := #[(.tmp 20)], argTypes := #[9] }) 3,
 LL 22 (.move (.tmp 4)) 144,
 LL 23 (.indexAddr 144 (.tmp 22) (.const (.int .i64 4))) 0,
 LL 24 (.load 9 (.tmp 23)) 9,
 LL 25 (.call { callee := (.value (.func 97)), args := #[(.tmp 24)], argTypes := #[9] }) 3,
 LL 26 (.build 59 #[(0, (.tmp 17)), (3, (.tmp 21)), (4, (.tmp 25))]) 59,
 LL 5 (.alloc 59) 0,
 ⟨none, (.store 59 (.tmp 5) (.tmp 26)), 0, none⟩])
 (.seq (.rgn [27] [LL 28 (.move (.tmp 4)) 144,
 LL 29 (.indexAddr 144 (.tmp 28) (.const (.int .i64 1))) 0,
 LL 30 (.load 9 (.tmp 29)) 9,
 LL 31 (.call { callee := (.value (.func 98)), args := #[(.tmp 30)], argTypes := #[9] }) 148,
 LL 27 (.move (.tmp 31)) 148,
 LL 32 (.extract (.tmp 27) 0) 57,
 LL 33 (.extract (.tmp 27) 1) 4,
 LL 34 (.fieldAddr 59 (.tmp 5) 1) 0,
 ⟨none, (.store 57 (.tmp 34) (.tmp 32)), 0, none⟩])
 (.seq (.seq (.rgn [] [LL 35 (.move (.tmp 4)) 144,
 LL 36 (.indexAddr 144 (.tmp 35) (.const (.int .i64 2))) 0,
 LL 37 (.load 9 (.tmp 36)) 9,
 LL 38 (.binOp .neq 9 (.tmp 37) (.const (.string { data := #[] })) 9) 4])
 (.cond (.tmp 38)
 (.seq (.rgn [] [LL 39 (.move (.tmp 4)) 144,
 LL 40 (.indexAddr 144 (.tmp 39) (.const (.int .i64 2))) 0,
 LL 41 (.load 9 (.tmp 40)) 9,
 LL 42 (.call { callee := (.value (.func 95)), args := #[(.tmp 41), (.const (.int .u8 32))], argTypes := #[9, 5] }) 144,
 LL 6 (.assign (.tmp 42)) 144])
 (.seq (.rgn [] [LL 7 (.assign (.const (.int .i64 0))) 3])
 (.blk 0
 (.loop []
 (.seq (.seq (.rgn [] [LL 43 (.move (.tmp 7)) 3,
 LL 44 (.move (.tmp 6)) 144,
 LL 45 (.call { callee := (.builtin .len), args := #[(.tmp 44)], argTypes := #[144] }) 3,
 LL 46 (.binOp .lss 3 (.tmp 43) (.tmp 45) 3) 4])
 (.cond (.tmp 46)
 .skip
 (.exit 0)))
 (.seq (.blk 1
 (.drw [50] [([5], [49]), ([5, 49], [5, 49, 50]), ([6], [51]), ([7], [52]), ([51, 52], [53]), ([53], [54]), ([54], [55]), ([55], [55, 56]), ([50, 56], [50, 56, 57]), ([5], [58]), ([5, 57, 58], [5, 57, 58])] [[], [0], [], [], [2, 3], [4], [5], [6], [1, 7, 6], [0, 1, 2, 3, 4, 5, 6, 7, 8], [9, 8, 8, 0, 1, 2, 3, 4, 5, 6, 7, 8]] [LL 49 (.fieldAddr 59 (.tmp 5) 2) 0,
 LL 50 (.load 25 (.tmp 49)) 25,
 LL 51 (.move (.tmp 6)) 144,
 LL 52 (.move (.tmp 7)) 3,
 LL 53 (.indexAddr 144 (.tmp 51) (.tmp 52)) 0,
 LL 54 (.load 9 (.tmp 53)) 9,
 LL 55 (.call { callee := (.value (.func 97)), args := #[(.tmp 54)], argTypes := #[9] }) 3,
 LL 56 (.buildSlice 25 1 #[(0, (.tmp 55))]) 25,
 LL 57 (.call { callee := (.builtin .append), args := #[(.tmp 50), (.tmp 56)], argTypes := #[25, 25] }) 25,
 LL 58 (.fieldAddr 59 (.tmp 5) 2) 0,
 ⟨none, (.store 25 (.tmp 58) (.tmp 57)), 0, none⟩]))
 (.rgn [] [LL 47 (.move (.tmp 7)) 3,
 LL 48 (.binOp .add 3 (.tmp 47) (.const (.int .i64 1)) 3) 3,
 LL 7 (.assign (.tmp 48)) 3])))))))
 .skip))
 (.seq (.seq (.rgn [] [LL 59 (.load 59 (.tmp 5)) 59,
 LL 60 (.call { callee := (.value (.func 99)), args := #[(.tmp 59)], argTypes := #[59] }) 9,
 LL 61 (.move (.tmp 0)) 9,
 LL 62 (.binOp .neq 9 (.tmp 60) (.tmp 61) 9) 4])
 (.cond (.tmp 62)
 (.seq (.rgn [] [LL 63 (.build 59 #[]) 59,
 ⟨none, (.store 59 (.tmp 2) (.tmp 63)), 0, none⟩,
 LL 3 (.assign (.const (.bool false))) 4])
 .ret)
 .skip))
 (.seq (.rgn [64] [LL 64 (.load 59 (.tmp 5)) 59,
 ⟨none, (.store 59 (.tmp 2) (.tmp 64)), 0, none⟩,
 LL 3 (.assign (.const (.bool true))) 4])
 .ret))))))))
theorem lit33 : Lit Try.prog 33 65 [2, 5] [.cell 2 59, .tmp 3] c33 := ⟨⟨Try.f33, _, Try.func33, rfl, by kernel_rfl, rfl, rfl, by kernel_rfl, by kernel_rfl⟩, by decide, by kernel_rfl⟩
/-- impl.ParseCertificate -/
def c34 : LC :=
  (.seq (.rgn [] [LL 2 (.alloc 59) 0,
 LL 3 (.assign (.const (.bool false))) 4])
 (.seq (.rgn [] [LL 18 (.move (.tmp 0)) 9,
 LL 19 (.call { callee := (.value (.func 100)), args := #[(.tmp 18), (.const (.int .u8 59))], argTypes := #[9, 5] }) 144,
 LL 4 (.assign (.tmp 19)) 144])
 (.seq (.seq (.rgn [] [LL 20 (.move (.tmp 4)) 144,
 LL 21 (.call { callee := (.builtin .len), args := #[(.tmp 20)], argTypes := #[144] }) 3,
 LL 22 (.binOp .neq 3 (.tmp 21) (.const (.int .i64 5)) 3) 4])
 (.cond (.tmp 22)
 (.seq (.rgn [] [LL 23 (.build 59 #[]) 59,
 ⟨none, (.store 59 (.tmp 2) (.tmp 23)), 0, none⟩,
 LL 3 (.assign (.const (.bool false))) 4])
 .ret)
 .skip))
 (.seq (.rgn [] [LL 5 (.alloc 59) 0])
 (.seq (.rgn [24] [LL 25 (.move (.tmp 4)) 144,
 LL 26 (.indexAddr 144 (.tmp 25) (.const (.int .i64 0))) 0,
 LL 27 (.load 9 (.tmp 26)) 9,
 LL 28 (.call { callee := (.value (.func 101)), args := #[(.tmp 27)], argTypes := #[9] }) 151,
 LL 24 (.move (.tmp 28)) 151,
 LL 29 (.extract (.tmp 24) 0) 25,
 LL 30 (.extract (.tmp 24) 1) 4,
 LL 6 (.assign (.tmp 29)) 25,
 LL 7 (.assign (.tmp 30)) 4])
 (.seq (.rgn [31] [LL 32 (.move (.tmp 4)) 144,
 LL 33 (.indexAddr 144 (.tmp 32) (.const (.int .i64 1))) 0,
 LL 34 (.load 9 (.tmp 33)) 9,
 LL 35 (.call { callee := (.value (.func 102)), args := #[(.tmp 34)], argTypes := #[9] }) 148,
 LL 31 (.move (.tmp 35)) 148,
 LL 36 (.extract (.tmp 31) 0) 57,
 LL 37 (.extract (.tmp 31) 1) 4,
 LL 8 (.assign (.tmp 36)) 57,
 LL 9 (.assign (.tmp 37)) 4])
 (.seq (.seq (.rgn [] [LL 38 (.move (.tmp 4)) 144,
 LL 39 (.indexAddr 144 (.tmp 38) (.const (.int .i64 2))) 0,
 LL 40 (.load 9 (.tmp 39)) 9,
 LL 41 (.binOp .neq 9 (.tmp 40) (.const (.string { data := #[] })) 9) 4])
 (.cond (.tmp 41)
 (.seq (.rgn [] [LL 42 (.move (.tmp 4)) 144,
 LL 43 (.indexAddr 144 (.tmp 42) (.const (.int .i64 2))) 0,
 LL 44 (.load 9 (.tmp 43)) 9,
 LL 45 (.call { callee := (.value (.func 100)), args := #[(.tmp 44), (.const (.int .u8 32))], argTypes := #[9, 5] }) 144,
 LL 46 (.call { callee := (.builtin .len), args := #[(.tmp 45)], argTypes := #[144] }) 3,
 LL 47 (.move (.const (.int .i64 0))) 3])
 (.blk 0
 (.loop []
 (.seq (.rgn [] [LL 48 (.binOp .lss 3 (.tmp 47) (.tmp 46) 3) 0])
 (.seq (.cond (.tmp 48)
 .skip
 (.exit 0))
 (.seq (.blk 1
 (.seq (.rgn [] [LL 49 (.indexAddr 144 (.tmp 45) (.tmp 47)) 0,
 LL 50 (.load 9 (.tmp 49)) 9,
 LL 11 (.assign (.tmp 50)) 9])
 (.seq (.rgn [] [LL 52 (.move (.tmp 11)) 9,
 LL 53 (.call { callee := (.value (.func 103)), args := #[(.tmp 52)], argTypes := #[9] }) 116,
 LL 51 (.move (.tmp 53)) 116,
 LL 54 (.extract (.tmp 51) 0) 3,
 LL 55 (.extract (.tmp 51) 1) 4,
 LL 12 (.assign (.tmp 54)) 3,
 LL 13 (.assign (.tmp 55)) 4])
 (.seq (.seq (.rgn [] [LL 56 (.move (.tmp 13)) 4,
 LL 57 (.unOp .not 4 (.tmp 56)) 4])
 (.cond (.tmp 57)
 (.seq (.rgn [] [LL 58 (.build 59 #[]) 59,
 ⟨none, (.store 59 (.tmp 2) (.tmp 58)), 0, none⟩,
 LL 3 (.assign (.const (.bool false))) 4])
 .ret)
 .skip))
 (.rgn [60] [LL 59 (.fieldAddr 59 (.tmp 5) 2) 0,
 LL 60 (.load 25 (.tmp 59)) 25,
 LL 61 (.move (.tmp 12)) 3,
 LL 62 (.buildSlice 25 1 #[(0, (.tmp 61))]) 25,
 LL 63 (.call { callee := (.builtin .append), args := #[(.tmp 60), (.tmp 62)], argTypes := #[25, 25] }) 25,
 LL 64 (.fieldAddr 59 (.tmp 5) 2) 0,
 ⟨none, (.store 25 (.tmp 64) (.tmp 63)), 0, none⟩])))))
 (.rgn [] [LL 65 (.binOp .add 3 (.tmp 47) (.const (.int .i64 1)) 3) 3,
 LL 47 (.move (.tmp 65)) 3])))))))
 .skip))
 (.seq (.rgn [] [LL 67 (.move (.tmp 4)) 144,
 LL 68 (.indexAddr 144 (.tmp 67) (.const (.int .i64 3))) 0,
 LL 69 (.load 9 (.tmp 68)) 9,
 LL 70 (.call { callee := (.value (.func 103)), args := #[(.tmp 69)], argTypes := #[9] }) 116,
 LL 66 (.move (.tmp 70)) 116,
 LL 71 (.extract (.tmp 66) 0) 3,
 LL 72 (.extract (.tmp 66) 1) 4,
 LL 14 (.assign (.tmp 71)) 3,
 LL 15 (.assign (.tmp 72)) 4])
 (.seq (.rgn [] [LL 74 (.move (.tmp 4)) 144,
 LL 75 (.indexAddr 144 (.tmp 74) (.const (.int .i64 4))) 0,
 LL 76 (.load 9 (.tmp 75)) 9,
 LL 77 (.call { callee := (.value (.func 103)), args := #[(.tmp 76)], argTypes := #[9] }) 116,
 LL 73 (.move (.tmp 77)) 116,
 LL 78 (.extract (.tmp 73) 0) 3,
 LL 79 (.extract (.tmp 73) 1) 4,
 LL 16 (.assign (.tmp 78)) 3,
 LL 17 (.assign (.tmp 79)) 4])
 (.seq (.rgn [80, 81] [LL 80 (.move (.tmp 6)) 25,
 LL 81 (.move (.tmp 8)) 57,
 LL 82 (.move (.tmp 14)) 3,
 LL 83 (.move (.tmp 16)) 3,
 LL 84 (.fieldAddr 59 (.tmp 5) 0) 0,
 ⟨none, (.store 25 (.tmp 84) (.tmp 80)), 0, none⟩,
 LL 85 (.fieldAddr 59 (.tmp 5) 1) 0,
 ⟨none, (.store 57 (.tmp 85) (.tmp 81)), 0, none⟩,
 LL 86 (.fieldAddr 59 (.tmp 5) 3) 0,
 ⟨none, (.store 3 (.tmp 86) (.tmp 82)), 0, none⟩,
 LL 87 (.fieldAddr 59 (.tmp 5) 4) 0,
 ⟨none, (.store 3 (.tmp 87) (.tmp 83)), 0, none⟩])
 (.seq (.seq (.rgn [] [LL 88 (.move (.tmp 7)) 4,
 LL 89 (.unOp .not 4 (.tmp 88)) 4,
 LL 90 (.move (.tmp 89)) 4,
 ⟨some 91, (.move (.tmp 9)), 4, some (some 90, false)⟩,
 ⟨some 92, (.unOp .not 4 (.tmp 91)), 4, some (some 90, false)⟩,
 LL 93 (.pick (.tmp 90) (.const (.bool true)) (.tmp 92)) 4,
 LL 94 (.move (.tmp 93)) 4,
 ⟨some 95, (.move (.tmp 15)), 4, some (some 94, false)⟩,
 ⟨some 96, (.unOp .not 4 (.tmp 95)), 4, some (some 94, false)⟩,
 LL 97 (.pick (.tmp 94) (.const (.bool true)) (.tmp 96)) 4,
 LL 98 (.move (.tmp 97)) 4,
 ⟨some 99, (.move (.tmp 17)), 4, some (some 98, false)⟩,
 ⟨some 100, (.unOp .not 4 (.tmp 99)), 4, some (some 98, false)⟩,
 LL 101 (.pick (.tmp 98) (.const (.bool true)) (.tmp 100)) 4,
 LL 102 (.move (.tmp 101)) 4,
 ⟨some 103, (.load 59 (.tmp 5)), 59, some (some 102, false)⟩,
 ⟨some 104, (.call { callee := (.value (.func 104)), args := #[(.tmp 103)], argTypes := #[59] }), 9, some (some 102, false)⟩,
 ⟨some 105, (.move (.tmp 0)), 9, some (some 102, false)⟩,
 ⟨some 106, (.binOp .neq 9 (.tmp 104) (.tmp 105) 9), 4, some (some 102, false)⟩,
 LL 107 (.pick (.tmp 102) (.const (.bool true)) (.tmp 106)) 4])
 (.cond (.tmp 107)
 (.seq (.rgn [] [LL 108 (.build 59 #[]) 59,
 ⟨none, (.store 59 (.tmp 2) (.tmp 108)), 0, none⟩,
 LL 3 (.assign (.const (.bool false))) 4])
 .ret)
 .skip))
 (.seq (.rgn [109] [LL 109 (.load 59 (.tmp 5)) 59,
 ⟨none, (.store 59 (.tmp 2) (.tmp 109)), 0, none⟩,
 LL 3 (.assign (.const (.bool true))) 4])
 .ret))))))))))))
theorem lit34 : Lit Try.prog 34 110 [2, 5] [.cell 2 59, .tmp 3] c34 := ⟨⟨Try.f34, _, Try.func34, rfl, by kernel_rfl, rfl, rfl, by kernel_rfl, by kernel_rfl⟩, by decide, by kernel_rfl⟩
/-- laws.eqCertificate -/
def c35 : LC :=
  (.seq (.rgn [] [LL 2 (.box 59 (.tmp 0)) 0,
 LL 3 (.box 59 (.tmp 1)) 0,
 LL 4 (.assign (.const (.bool false))) 4])
 (.seq (.seq (.rgn [] [LL 5 (.fieldAddr 59 (.tmp 2) 0) 0,
 LL 6 (.load 25 (.tmp 5)) 25,
 LL 7 (.fieldAddr 59 (.tmp 3) 0) 0,
 LL 8 (.load 25 (.tmp 7)) 25,
 LL 9 (.call { callee := (.value (.func 19)), args := #[(.tmp 6), (.tmp 8)], argTypes := #[25, 25] }) 4,
 LL 10 (.unOp .not 4 (.tmp 9)) 4])
 (.cond (.tmp 10)
 (.seq (.rgn [] [LL 4 (.assign (.const (.bool false))) 4])
 .ret)
 .skip))
 (.seq (.seq (.rgn [] [LL 11 (.fieldAddr 59 (.tmp 2) 1) 0,
 LL 12 (.load 57 (.tmp 11)) 57,
 LL 13 (.fieldAddr 59 (.tmp 3) 1) 0,
 LL 14 (.load 57 (.tmp 13)) 57,
 LL 15 (.call { callee := (.value (.func 105)), args := #[(.tmp 12), (.tmp 14)], argTypes := #[57, 57] }) 4,
 LL 16 (.unOp .not 4 (.tmp 15)) 4])
 (.cond (.tmp 16)
 (.seq (.rgn [] [LL 4 (.assign (.const (.bool false))) 4])
 .ret)
 .skip))
 (.seq (.seq (.rgn [] [LL 17 (.fieldAddr 59 (.tmp 2) 2) 0,
 LL 18 (.load 25 (.tmp 17)) 25,
 LL 19 (.fieldAddr 59 (.tmp 3) 2) 0,
 LL 20 (.load 25 (.tmp 19)) 25,
 LL 21 (.call { callee := (.value (.func 19)), args := #[(.tmp 18), (.tmp 20)], argTypes := #[25, 25] }) 4,
 LL 22 (.unOp .not 4 (.tmp 21)) 4])
 (.cond (.tmp 22)
 (.seq (.rgn [] [LL 4 (.assign (.const (.bool false))) 4])
 .ret)
 .skip))
 (.seq (.seq (.rgn [] [LL 23 (.fieldAddr 59 (.tmp 2) 3) 0,
 LL 24 (.load 3 (.tmp 23)) 3,
 LL 25 (.fieldAddr 59 (.tmp 3) 3) 0,
 LL 26 (.load 3 (.tmp 25)) 3,
 LL 27 (.binOp .neq 3 (.tmp 24) (.tmp 26) 3) 4])
 (.cond (.tmp 27)
 (.seq (.rgn [] [LL 4 (.assign (.const (.bool false))) 4])
 .ret)
 .skip))
 (.seq (.seq (.rgn [] [LL 28 (.fieldAddr 59 (.tmp 2) 4) 0,
 LL 29 (.load 3 (.tmp 28)) 3,
 LL 30 (.fieldAddr 59 (.tmp 3) 4) 0,
 LL 31 (.load 3 (.tmp 30)) 3,
 LL 32 (.binOp .neq 3 (.tmp 29) (.tmp 31) 3) 4])
 (.cond (.tmp 32)
 (.seq (.rgn [] [LL 4 (.assign (.const (.bool false))) 4])
 .ret)
 .skip))
 (.seq (.rgn [] [LL 4 (.assign (.const (.bool true))) 4])
 .ret)))))))
theorem lit35 : Lit Try.prog 35 33 [2, 3] [.tmp 4] c35 := ⟨⟨Try.f35, _, Try.func35, rfl, by kernel_rfl, rfl, rfl, by kernel_rfl, by kernel_rfl⟩, by decide, by kernel_rfl⟩
/-- laws.markCertificate -/
def c36 : LC :=
  (.seq (.rgn [] [LL 2 (.box 59 (.tmp 0)) 0,
 LL 4 (.assign (.const (.int .i64 0))) 3])
 (.seq (.rgn [] [LL 5 (.fieldAddr 59 (.tmp 2) 0) 0,
 LL 6 (.load 25 (.tmp 5)) 25,
 LL 7 (.move (.tmp 1)) 3,
 LL 8 (.call { callee := (.value (.func 24)), args := #[(.tmp 6), (.tmp 7)], argTypes := #[25, 3] }) 3,
 LL 1 (.assign (.tmp 8)) 3])
 (.seq (.rgn [] [LL 9 (.fieldAddr 59 (.tmp 2) 1) 0,
 LL 10 (.load 57 (.tmp 9)) 57,
 LL 11 (.move (.tmp 1)) 3,
 LL 12 (.call { callee := (.value (.func 106)), args := #[(.tmp 10), (.tmp 11)], argTypes := #[57, 3] }) 3,
 LL 1 (.assign (.tmp 12)) 3])
 (.seq (.rgn [] [LL 13 (.fieldAddr 59 (.tmp 2) 2) 0,
 LL 14 (.load 25 (.tmp 13)) 25,
 LL 15 (.move (.tmp 1)) 3,
 LL 16 (.call { callee := (.value (.func 24)), args := #[(.tmp 14), (.tmp 15)], argTypes := #[25, 3] }) 3,
 LL 1 (.assign (.tmp 16)) 3])
 (.seq (.rgn [] [LL 17 (.move (.tmp 1)) 3,
 LL 4 (.assign (.tmp 17)) 3])
 .ret)))))
theorem lit36 : Lit Try.prog 36 18 [2] [.tmp 4] c36 := ⟨⟨Try.f36, _, Try.func36, rfl, by kernel_rfl, rfl, rfl, by kernel_rfl, by kernel_rfl⟩, by decide, by kernel_rfl⟩
/-- laws.heldCertificate -/
def c37 : LC :=
  (.seq (.rgn [] [LL 2 (.box 59 (.tmp 0)) 0,
 LL 4 (.assign (.const (.int .i64 0))) 3])
 (.seq (.rgn [] [LL 5 (.fieldAddr 59 (.tmp 2) 0) 0,
 LL 6 (.load 25 (.tmp 5)) 25,
 LL 7 (.move (.tmp 1)) 3,
 LL 8 (.call { callee := (.value (.func 25)), args := #[(.tmp 6), (.tmp 7)], argTypes := #[25, 3] }) 3,
 LL 1 (.assign (.tmp 8)) 3])
 (.seq (.seq (.rgn [] [LL 9 (.move (.tmp 1)) 3,
 LL 10 (.binOp .lss 3 (.tmp 9) (.const (.int .i64 0)) 3) 4])
 (.cond (.tmp 10)
 (.seq (.rgn [] [LL 4 (.assign (.const (.int .i64 (-1)))) 3])
 .ret)
 .skip))
 (.seq (.rgn [] [LL 11 (.fieldAddr 59 (.tmp 2) 1) 0,
 LL 12 (.load 57 (.tmp 11)) 57,
 LL 13 (.move (.tmp 1)) 3,
 LL 14 (.call { callee := (.value (.func 107)), args := #[(.tmp 12), (.tmp 13)], argTypes := #[57, 3] }) 3,
 LL 1 (.assign (.tmp 14)) 3])
 (.seq (.seq (.rgn [] [LL 15 (.move (.tmp 1)) 3,
 LL 16 (.binOp .lss 3 (.tmp 15) (.const (.int .i64 0)) 3) 4])
 (.cond (.tmp 16)
 (.seq (.rgn [] [LL 4 (.assign (.const (.int .i64 (-1)))) 3])
 .ret)
 .skip))
 (.seq (.rgn [] [LL 17 (.fieldAddr 59 (.tmp 2) 2) 0,
 LL 18 (.load 25 (.tmp 17)) 25,
 LL 19 (.move (.tmp 1)) 3,
 LL 20 (.call { callee := (.value (.func 25)), args := #[(.tmp 18), (.tmp 19)], argTypes := #[25, 3] }) 3,
 LL 1 (.assign (.tmp 20)) 3])
 (.seq (.seq (.rgn [] [LL 21 (.move (.tmp 1)) 3,
 LL 22 (.binOp .lss 3 (.tmp 21) (.const (.int .i64 0)) 3) 4])
 (.cond (.tmp 22)
 (.seq (.rgn [] [LL 4 (.assign (.const (.int .i64 (-1)))) 3])
 .ret)
 .skip))
 (.seq (.rgn [] [LL 23 (.move (.tmp 1)) 3,
 LL 4 (.assign (.tmp 23)) 3])
 .ret))))))))
theorem lit37 : Lit Try.prog 37 24 [2] [.tmp 4] c37 := ⟨⟨Try.f37, _, Try.func37, rfl, by kernel_rfl, rfl, rfl, by kernel_rfl, by kernel_rfl⟩, by decide, by kernel_rfl⟩
/-- spec.l1In -/
def c86 : LC :=
  (.seq (.rgn [] [LL 6 (.assign (.const (.bool false))) 4])
 (.seq (.rgn [] [LL 7 (.move (.tmp 0)) 3,
 LL 8 (.move (.tmp 1)) 3,
 LL 9 (.binOp .geq 3 (.tmp 7) (.tmp 8) 3) 4,
 LL 10 (.move (.tmp 9)) 4,
 ⟨some 11, (.move (.tmp 0)), 3, some (some 10, true)⟩,
 ⟨some 12, (.move (.tmp 2)), 3, some (some 10, true)⟩,
 ⟨some 13, (.binOp .leq 3 (.tmp 11) (.tmp 12) 3), 4, some (some 10, true)⟩,
 LL 14 (.pick (.tmp 10) (.tmp 13) (.const (.bool false))) 4,
 LL 6 (.assign (.tmp 14)) 4])
 .ret))
theorem lit86 : Lit Try.prog 86 15 [] [.tmp 6] c86 := ⟨⟨Try.f86, _, Try.func86, rfl, by kernel_rfl, rfl, rfl, by kernel_rfl, by kernel_rfl⟩, by decide, by kernel_rfl⟩
/-- impl.within -/
def c90 : LC :=
  (.seq (.rgn [] [LL 6 (.assign (.const (.bool false))) 4])
 (.seq (.rgn [] [LL 7 (.move (.tmp 0)) 3,
 LL 8 (.move (.tmp 1)) 3,
 LL 9 (.binOp .geq 3 (.tmp 7) (.tmp 8) 3) 4,
 LL 10 (.move (.tmp 9)) 4,
 ⟨some 11, (.move (.tmp 0)), 3, some (some 10, true)⟩,
 ⟨some 12, (.move (.tmp 2)), 3, some (some 10, true)⟩,
 ⟨some 13, (.binOp .leq 3 (.tmp 11) (.tmp 12) 3), 4, some (some 10, true)⟩,
 LL 14 (.pick (.tmp 10) (.tmp 13) (.const (.bool false))) 4,
 LL 6 (.assign (.tmp 14)) 4])
 .ret))
theorem lit90 : Lit Try.prog 90 15 [] [.tmp 6] c90 := ⟨⟨Try.f90, _, Try.func90, rfl, by kernel_rfl, rfl, rfl, by kernel_rfl, by kernel_rfl⟩, by decide, by kernel_rfl⟩
/-- spec.l5Cut -/
def c95 : LC :=
  (.seq (.rgn [] [LL 4 (.assign (.const (.slice none 0 0))) 144])
 (.seq (.rgn [] [LL 8 (.buildSlice 144 0 #[]) 144,
 LL 5 (.assign (.tmp 8)) 144])
 (.seq (.rgn [] [LL 6 (.assign (.const (.int .i64 0))) 3])
 (.seq (.seq (.rgn [] [LL 7 (.assign (.const (.int .i64 0))) 3])
 (.blk 0
 (.loop []
 (.seq (.seq (.rgn [] [LL 9 (.move (.tmp 7)) 3,
 LL 10 (.move (.tmp 0)) 9,
 LL 11 (.call { callee := (.builtin .len), args := #[(.tmp 10)], argTypes := #[9] }) 3,
 LL 12 (.binOp .lss 3 (.tmp 9) (.tmp 11) 3) 4])
 (.cond (.tmp 12)
 .skip
 (.exit 0)))
 (.seq (.blk 1
 (.seq (.rgn [] [LL 15 (.move (.tmp 0)) 9,
 LL 16 (.move (.tmp 7)) 3,
 LL 17 (.index 9 (.tmp 15) (.tmp 16)) 5,
 LL 18 (.move (.tmp 1)) 5,
 LL 19 (.binOp .eql 5 (.tmp 17) (.tmp 18) 5) 4])
 (.cond (.tmp 19)
 (.seq (.rgn [20] [LL 20 (.move (.tmp 5)) 144,
 LL 21 (.move (.tmp 0)) 9,
 LL 22 (.move (.tmp 6)) 3,
 LL 23 (.move (.tmp 7)) 3,
 LL 24 (.slice 9 (.tmp 21) (some (.tmp 22)) (some (.tmp 23)) none) 9,
 LL 25 (.buildSlice 144 1 #[(0, (.tmp 24))]) 144,
 LL 26 (.call { callee := (.builtin .append), args := #[(.tmp 20), (.tmp 25)], argTypes := #[144, 144] }) 144,
 LL 5 (.assign (.tmp 26)) 144])
 (.rgn [] [LL 27 (.move (.tmp 7)) 3,
 LL 28 (.binOp .add 3 (.tmp 27) (.const (.int .i64 1)) 3) 3,
 LL 6 (.assign (.tmp 28)) 3]))
 .skip)))
 (.rgn [] [LL 13 (.move (.tmp 7)) 3,
 LL 14 (.binOp .add 3 (.tmp 13) (.const (.int .i64 1)) 3) 3,
 LL 7 (.assign (.tmp 14)) 3]))))))
 (.seq (.rgn [29] [LL 29 (.move (.tmp 5)) 144,
 LL 30 (.move (.tmp 0)) 9,
 LL 31 (.move (.tmp 6)) 3,
 LL 32 (.slice 9 (.tmp 30) (some (.tmp 31)) none none) 9,
 LL 33 (.buildSlice 144 1 #[(0, (.tmp 32))]) 144,
 LL 34 (.call { callee := (.builtin .append), args := #[(.tmp 29), (.tmp 33)], argTypes := #[144, 144] }) 144,
 LL 4 (.assign (.tmp 34)) 144])
 .ret)))))
theorem lit95 : Lit Try.prog 95 35 [] [.tmp 4] c95 := ⟨⟨Try.f95, _, Try.func95, rfl, by kernel_rfl, rfl, rfl, by kernel_rfl, by kernel_rfl⟩, by decide, by kernel_rfl⟩
/-- spec.l7List -/
def c96 : LC :=
  (.seq (.rgn [] [LL 2 (.assign (.const (.slice none 0 0))) 25])
 (.seq (.rgn [] [LL 6 (.buildSlice 25 0 #[]) 25,
 LL 3 (.assign (.tmp 6)) 25])
 (.seq (.seq (.rgn [] [LL 4 (.assign (.const (.int .i64 0))) 3])
 (.blk 0
 (.loop []
 (.seq (.seq (.rgn [] [LL 7 (.move (.tmp 4)) 3,
 LL 8 (.move (.tmp 0)) 9,
 LL 9 (.call { callee := (.builtin .len), args := #[(.tmp 8)], argTypes := #[9] }) 3,
 LL 10 (.binOp .lss 3 (.tmp 7) (.tmp 9) 3) 4])
 (.cond (.tmp 10)
 .skip
 (.exit 0)))
 (.seq (.blk 1
 (.seq (.rgn [] [LL 5 (.assign (.const (.int .i64 0))) 3])
 (.blk 2
 (.loop []
 (.seq (.seq (.rgn [] [LL 13 (.move (.tmp 5)) 3,
 LL 14 (.binOp .lss 3 (.tmp 13) (.const (.int .i64 5)) 3) 4])
 (.cond (.tmp 14)
 .skip
 (.exit 2)))
 (.seq (.blk 3
 (.seq (.drw [] [([5], [17]), ([17], [18]), ([0], [19]), ([4], [20]), ([4], [21]), ([21], [22]), ([19, 20, 22], [23]), ([18, 23], [24])] [[], [0], [], [], [], [4], [2, 3, 5], [1, 6]] [LL 17 (.move (.tmp 5)) 3,
 LL 18 (.call { callee := (.value (.func 180)), args := #[(.tmp 17)], argTypes := #[3] }) 9,
 LL 19 (.move (.tmp 0)) 9,
 LL 20 (.move (.tmp 4)) 3,
 LL 21 (.move (.tmp 4)) 3,
 LL 22 (.binOp .add 3 (.tmp 21) (.const (.int .i64 1)) 3) 3,
 LL 23 (.slice 9 (.tmp 19) (some (.tmp 20)) (some (.tmp 22)) none) 9,
 LL 24 (.binOp .eql 9 (.tmp 18) (.tmp 23) 9) 4])
 (.cond (.tmp 24)
 (.rgn [25] [LL 25 (.move (.tmp 3)) 25,
 LL 26 (.move (.tmp 5)) 3,
 LL 27 (.buildSlice 25 1 #[(0, (.tmp 26))]) 25,
 LL 28 (.call { callee := (.builtin .append), args := #[(.tmp 25), (.tmp 27)], argTypes := #[25, 25] }) 25,
 LL 3 (.assign (.tmp 28)) 25])
 .skip)))
 (.rgn [] [LL 15 (.move (.tmp 5)) 3,
 LL 16 (.binOp .add 3 (.tmp 15) (.const (.int .i64 1)) 3) 3,
 LL 5 (.assign (.tmp 16)) 3])))))))
 (.rgn [] [LL 11 (.move (.tmp 4)) 3,
 LL 12 (.binOp .add 3 (.tmp 11) (.const (.int .i64 1)) 3) 3,
 LL 4 (.assign (.tmp 12)) 3]))))))
 (.seq (.rgn [29] [LL 29 (.move (.tmp 3)) 25,
 LL 2 (.assign (.tmp 29)) 25])
 .ret))))
theorem lit96 : Lit Try.prog 96 30 [] [.tmp 2] c96 := ⟨⟨Try.f96, _, Try.func96, rfl, by kernel_rfl, rfl, rfl, by kernel_rfl, by kernel_rfl⟩, by decide, by kernel_rfl⟩
/-- spec.l2Num -/
def c97 : LC :=
  (.seq (.rgn [] [LL 2 (.assign (.const (.int .i64 0))) 3])
 (.seq (.rgn [] [LL 3 (.assign (.const (.int .i64 0))) 3])
 (.seq (.rgn [] [LL 4 (.assign (.const (.int .i64 1))) 3])
 (.seq (.seq (.rgn [] [LL 6 (.move (.tmp 0)) 9,
 LL 7 (.call { callee := (.builtin .len), args := #[(.tmp 6)], argTypes := #[9] }) 3,
 LL 8 (.binOp .gtr 3 (.tmp 7) (.const (.int .i64 0)) 3) 4,
 LL 9 (.move (.tmp 8)) 4,
 ⟨some 10, (.move (.tmp 0)), 9, some (some 9, true)⟩,
 ⟨some 11, (.index 9 (.tmp 10) (.const (.int .i64 0))), 5, some (some 9, true)⟩,
 ⟨some 12, (.binOp .eql 5 (.tmp 11) (.const (.int .u8 45)) 5), 4, some (some 9, true)⟩,
 LL 13 (.pick (.tmp 9) (.tmp 12) (.const (.bool false))) 4])
 (.cond (.tmp 13)
 (.seq (.rgn [] [LL 4 (.assign (.const (.int .i64 (-1)))) 3])
 (.rgn [] [LL 14 (.move (.tmp 0)) 9,
 LL 15 (.slice 9 (.tmp 14) (some (.const (.int .i64 1))) none none) 9,
 LL 0 (.assign (.tmp 15)) 9]))
 .skip))
 (.seq (.seq (.rgn [] [LL 5 (.assign (.const (.int .i64 0))) 3])
 (.blk 0
 (.loop []
 (.seq (.seq (.rgn [] [LL 16 (.move (.tmp 5)) 3,
 LL 17 (.move (.tmp 0)) 9,
 LL 18 (.call { callee := (.builtin .len), args := #[(.tmp 17)], argTypes := #[9] }) 3,
 LL 19 (.binOp .lss 3 (.tmp 16) (.tmp 18) 3) 4,
 LL 20 (.move (.tmp 19)) 4,
 ⟨some 21, (.move (.tmp 0)), 9, some (some 20, true)⟩,
 ⟨some 22, (.call { callee := (.builtin .len), args := #[(.tmp 21)], argTypes := #[9] }), 3, some (some 20, true)⟩,
 ⟨some 23, (.binOp .lss 3 (.tmp 22) (.const (.int .i64 12)) 3), 4, some (some 20, true)⟩,
 LL 24 (.pick (.tmp 20) (.tmp 23) (.const (.bool false))) 4])
 (.cond (.tmp 24)
 .skip
 (.exit 0)))
 (.seq (.blk 1
 (.seq (.seq (.rgn [] [LL 27 (.move (.tmp 0)) 9,
 LL 28 (.move (.tmp 5)) 3,
 LL 29 (.index 9 (.tmp 27) (.tmp 28)) 5,
 LL 30 (.binOp .lss 5 (.tmp 29) (.const (.int .u8 48)) 5) 4,
 LL 31 (.move (.tmp 30)) 4,
 ⟨some 32, (.move (.tmp 0)), 9, some (some 31, false)⟩,
 ⟨some 33, (.move (.tmp 5)), 3, some (some 31, false)⟩,
 ⟨some 34, (.index 9 (.tmp 32) (.tmp 33)), 5, some (some 31, false)⟩,
 ⟨some 35, (.binOp .gtr 5 (.tmp 34) (.const (.int .u8 57)) 5), 4, some (some 31, false)⟩,
 LL 36 (.pick (.tmp 31) (.const (.bool true)) (.tmp 35)) 4])
 (.cond (.tmp 36)
 (.seq (.rgn [] [LL 2 (.assign (.const (.int .i64 0))) 3])
 .ret)
 .skip))
 (.rgn [] [LL 37 (.move (.tmp 3)) 3,
 LL 38 (.binOp .mul 3 (.tmp 37) (.const (.int .i64 10)) 3) 3,
 LL 39 (.move (.tmp 0)) 9,
 LL 40 (.move (.tmp 5)) 3,
 LL 41 (.index 9 (.tmp 39) (.tmp 40)) 5,
 LL 42 (.convert 5 3 (.tmp 41)) 3,
 LL 43 (.binOp .add 3 (.tmp 38) (.tmp 42) 3) 3,
 LL 44 (.binOp .sub 3 (.tmp 43) (.const (.int .i64 48)) 3) 3,
 LL 3 (.assign (.tmp 44)) 3])))
 (.rgn [] [LL 25 (.move (.tmp 5)) 3,
 LL 26 (.binOp .add 3 (.tmp 25) (.const (.int .i64 1)) 3) 3,
 LL 5 (.assign (.tmp 26)) 3]))))))
 (.seq (.rgn [] [LL 45 (.move (.tmp 4)) 3,
 LL 46 (.move (.tmp 3)) 3,
 LL 47 (.binOp .mul 3 (.tmp 45) (.tmp 46) 3) 3,
 LL 2 (.assign (.tmp 47)) 3])
 .ret))))))
theorem lit97 : Lit Try.prog 97 48 [] [.tmp 2] c97 := ⟨⟨Try.f97, _, Try.func97, rfl, by kernel_rfl, rfl, rfl, by kernel_rfl, by kernel_rfl⟩, by decide, by kernel_rfl⟩
/-- spec.ParseRationals -/
def c98 : LC :=
  (.seq (.rgn [] [LL 2 (.assign (.const (.slice none 0 0))) 57,
 LL 3 (.assign (.const (.bool false))) 4])
 (.seq (.rgn [] [LL 9 (.buildSlice 57 0 #[]) 57,
 LL 4 (.assign (.tmp 9)) 57])
 (.seq (.seq (.rgn [] [LL 10 (.move (.tmp 0)) 9,
 LL 11 (.binOp .eql 9 (.tmp 10) (.const (.string { data := #[] })) 9) 4])
 (.cond (.tmp 11)
 (.seq (.rgn [12] [LL 12 (.move (.tmp 4)) 57,
 LL 2 (.assign (.tmp 12)) 57,
 LL 3 (.assign (.const (.bool true))) 4])
 .ret)
 .skip))
 (.seq (.rgn [] [LL 13 (.move (.tmp 0)) 9,
 LL 14 (.call { callee := (.value (.func 95)), args := #[(.tmp 13), (.const (.int .u8 32))], argTypes := #[9, 5] }) 144,
 LL 5 (.assign (.tmp 14)) 144])
 (.seq (.seq (.rgn [] [LL 6 (.assign (.const (.int .i64 0))) 3])
 (.blk 0
 (.loop [7]
 (.seq (.seq (.rgn [] [LL 15 (.move (.tmp 6)) 3,
 LL 16 (.move (.tmp 5)) 144,
 LL 17 (.call { callee := (.builtin .len), args := #[(.tmp 16)], argTypes := #[144] }) 3,
 LL 18 (.binOp .lss 3 (.tmp 15) (.tmp 17) 3) 4])
 (.cond (.tmp 18)
 .skip
 (.exit 0)))
 (.seq (.blk 1
 (.seq (.rgn [] [LL 22 (.move (.tmp 5)) 144,
 LL 23 (.move (.tmp 6)) 3,
 LL 24 (.indexAddr 144 (.tmp 22) (.tmp 23)) 0,
 LL 25 (.load 9 (.tmp 24)) 9,
 LL 26 (.call { callee := (.value (.func 181)), args := #[(.tmp 25)], argTypes := #[9] }) 216,
 LL 21 (.move (.tmp 26)) 216,
 LL 27 (.extract (.tmp 21) 0) 215,
 LL 28 (.extract (.tmp 21) 1) 4,
 LL 7 (.alloc 215) 0,
 ⟨none, (.store 215 (.tmp 7) (.tmp 27)), 0, none⟩,
 LL 8 (.assign (.tmp 28)) 4])
 (.seq (.seq (.rgn [] [LL 29 (.move (.tmp 8)) 4,
 LL 30 (.unOp .not 4 (.tmp 29)) 4])
 (.cond (.tmp 30)
 (.seq (.rgn [] [LL 31 (.buildSlice 57 0 #[]) 57,
 LL 2 (.assign (.tmp 31)) 57,
 LL 3 (.assign (.const (.bool false))) 4])
 .ret)
 .skip))
 (.rgn [32] [LL 32 (.move (.tmp 4)) 57,
 LL 33 (.load 215 (.tmp 7)) 215,
 LL 34 (.buildSlice 57 1 #[(0, (.tmp 33))]) 57,
 LL 35 (.call { callee := (.builtin .append), args := #[(.tmp 32), (.tmp 34)], argTypes := #[57, 57] }) 57,
 LL 4 (.assign (.tmp 35)) 57]))))
 (.rgn [] [LL 19 (.move (.tmp 6)) 3,
 LL 20 (.binOp .add 3 (.tmp 19) (.const (.int .i64 1)) 3) 3,
 LL 6 (.assign (.tmp 20)) 3]))))))
 (.seq (.rgn [36] [LL 36 (.move (.tmp 4)) 57,
 LL 2 (.assign (.tmp 36)) 57,
 LL 3 (.assign (.const (.bool true))) 4])
 .ret))))))
theorem lit98 : Lit Try.prog 98 37 [7] [.tmp 2, .tmp 3] c98 := ⟨⟨Try.f98, _, Try.func98, rfl, by kernel_rfl, rfl, rfl, by kernel_rfl, by kernel_rfl⟩, by decide, by kernel_rfl⟩
/-- spec.FormatCertificate -/
def c99 : LC :=
  (.seq (.rgn [] [LL 1 (.box 59 (.tmp 0)) 0,
 LL 2 (.assign (.const (.string { data := #[] }))) 9])
 (.seq (.seq (.rgn [] [LL 4 (.fieldAddr 59 (.tmp 1) 0) 0,
 LL 5 (.load 25 (.tmp 4)) 25,
 LL 6 (.call { callee := (.builtin .len), args := #[(.tmp 5)], argTypes := #[25] }) 3,
 LL 7 (.binOp .gtr 3 (.tmp 6) (.const (.int .i64 5)) 3) 4,
 LL 8 (.move (.tmp 7)) 4,
 ⟨some 9, (.fieldAddr 59 (.tmp 1) 1), 0, some (some 8, false)⟩,
 ⟨some 10, (.load 57 (.tmp 9)), 57, some (some 8, false)⟩,
 ⟨some 11, (.call { callee := (.builtin .len), args := #[(.tmp 10)], argTypes := #[57] }), 3, some (some 8, false)⟩,
 ⟨some 12, (.binOp .gtr 3 (.tmp 11) (.const (.int .i64 4)) 3), 4, some (some 8, false)⟩,
 LL 13 (.pick (.tmp 8) (.const (.bool true)) (.tmp 12)) 4,
 LL 14 (.move (.tmp 13)) 4,
 ⟨some 15, (.fieldAddr 59 (.tmp 1) 2), 0, some (some 14, false)⟩,
 ⟨some 16, (.load 25 (.tmp 15)), 25, some (some 14, false)⟩,
 ⟨some 17, (.call { callee := (.builtin .len), args := #[(.tmp 16)], argTypes := #[25] }), 3, some (some 14, false)⟩,
 ⟨some 18, (.binOp .gtr 3 (.tmp 17) (.const (.int .i64 4)) 3), 4, some (some 14, false)⟩,
 LL 19 (.pick (.tmp 14) (.const (.bool true)) (.tmp 18)) 4])
 (.cond (.tmp 19)
 (.seq (.rgn [] [LL 2 (.assign (.const (.string { data := #[] }))) 9])
 .ret)
 .skip))
 (.seq (.rgn [] [LL 20 (.fieldAddr 59 (.tmp 1) 1) 0,
 LL 21 (.load 57 (.tmp 20)) 57,
 LL 22 (.call { callee := (.value (.func 182)), args := #[(.tmp 21)], argTypes := #[57] }) 9,
 LL 3 (.assign (.tmp 22)) 9])
 (.seq (.seq (.rgn [] [LL 23 (.move (.tmp 3)) 9,
 LL 24 (.binOp .eql 9 (.tmp 23) (.const (.string { data := #[] })) 9) 4,
 LL 25 (.move (.tmp 24)) 4,
 ⟨some 26, (.fieldAddr 59 (.tmp 1) 1), 0, some (some 25, true)⟩,
 ⟨some 27, (.load 57 (.tmp 26)), 57, some (some 25, true)⟩,
 ⟨some 28, (.call { callee := (.builtin .len), args := #[(.tmp 27)], argTypes := #[57] }), 3, some (some 25, true)⟩,
 ⟨some 29, (.binOp .gtr 3 (.tmp 28) (.const (.int .i64 0)) 3), 4, some (some 25, true)⟩,
 LL 30 (.pick (.tmp 25) (.tmp 29) (.const (.bool false))) 4])
 (.cond (.tmp 30)
 (.seq (.rgn [] [LL 2 (.assign (.const (.string { data := #[] }))) 9])
 .ret)
 .skip))
 (.seq (.drw [] [([1], [31]), ([1, 31], [32]), ([32], [33]), ([33], [34]), ([3], [35]), ([34, 35], [36]), ([36], [37]), ([1], [38]), ([1, 38], [39]), ([39], [40]), ([37, 40], [41]), ([41], [42]), ([1], [43]), ([1, 43], [44]), ([44], [45]), ([42, 45], [46]), ([46], [47]), ([1], [48]), ([1, 48], [49]), ([49], [50]), ([47, 50], [51]), ([51], [2, 51])] [[], [0], [1], [2], [], [3, 4], [5], [], [7], [8, 2], [6, 9], [10], [], [12], [13, 9], [11, 14], [15], [], [17], [18, 14], [16, 19], [20, 19, 0, 1, 2, 3, 4, 5, 6, 7, 8, 9, 10, 11, 12, 13, 14, 15, 16, 17, 18, 19, 20]] [LL 31 (.fieldAddr 59 (.tmp 1) 0) 0,
 LL 32 (.load 25 (.tmp 31)) 25,
 LL 33 (.call { callee := (.value (.func 143)), args := #[(.tmp 32)], argTypes := #[25] }) 9,
 LL 34 (.binOp .add 9 (.tmp 33) (.const (.string { data := #[59] })) 9) 9,
 LL 35 (.move (.tmp 3)) 9,
 LL 36 (.binOp .add 9 (.tmp 34) (.tmp 35) 9) 9,
 LL 37 (.binOp .add 9 (.tmp 36) (.const (.string { data := #[59] })) 9) 9,
 LL 38 (.fieldAddr 59 (.tmp 1) 2) 0,
 LL 39 (.load 25 (.tmp 38)) 25,
 LL 40 (.call { callee := (.value (.func 141)), args := #[(.tmp 39)], argTypes := #[25] }) 9,
 LL 41 (.binOp .add 9 (.tmp 37) (.tmp 40) 9) 9,
 LL 42 (.binOp .add 9 (.tmp 41) (.const (.string { data := #[59] })) 9) 9,
 LL 43 (.fieldAddr 59 (.tmp 1) 3) 0,
 LL 44 (.load 3 (.tmp 43)) 3,
 LL 45 (.call { callee := (.value (.func 183)), args := #[(.tmp 44)], argTypes := #[3] }) 9,
 LL 46 (.binOp .add 9 (.tmp 42) (.tmp 45) 9) 9,
 LL 47 (.binOp .add 9 (.tmp 46) (.const (.string { data := #[59] })) 9) 9,
 LL 48 (.fieldAddr 59 (.tmp 1) 4) 0,
 LL 49 (.load 3 (.tmp 48)) 3,
 LL 50 (.call { callee := (.value (.func 183)), args := #[(.tmp 49)], argTypes := #[3] }) 9,
 LL 51 (.binOp .add 9 (.tmp 47) (.tmp 50) 9) 9,
 LL 2 (.assign (.tmp 51)) 9])
 .ret)))))
theorem lit99 : Lit Try.prog 99 52 [1] [.tmp 2] c99 := ⟨⟨Try.f99, _, Try.func99, rfl, by kernel_rfl, rfl, rfl, by kernel_rfl, by kernel_rfl⟩, by decide, by kernel_rfl⟩
/-- impl.split -/
def c100 : LC :=
  (.seq (.rgn [] [LL 4 (.assign (.const (.slice none 0 0))) 144])
 (.seq (.rgn [] [LL 5 (.assign (.const (.slice none 0 0))) 144])
 (.seq (.rgn [] [LL 6 (.assign (.const (.int .i64 0))) 3])
 (.seq (.seq (.rgn [] [LL 7 (.assign (.const (.int .i64 0))) 3])
 (.blk 0
 (.loop []
 (.seq (.seq (.rgn [] [LL 8 (.move (.tmp 7)) 3,
 LL 9 (.move (.tmp 0)) 9,
 LL 10 (.call { callee := (.builtin .len), args := #[(.tmp 9)], argTypes := #[9] }) 3,
 LL 11 (.binOp .leq 3 (.tmp 8) (.tmp 10) 3) 4])
 (.cond (.tmp 11)
 .skip
 (.exit 0)))
 (.seq (.blk 1
 (.seq (.rgn [] [LL 14 (.move (.tmp 7)) 3,
 LL 15 (.move (.tmp 0)) 9,
 LL 16 (.call { callee := (.builtin .len), args := #[(.tmp 15)], argTypes := #[9] }) 3,
 LL 17 (.binOp .eql 3 (.tmp 14) (.tmp 16) 3) 4,
 LL 18 (.move (.tmp 17)) 4,
 ⟨some 19, (.move (.tmp 0)), 9, some (some 18, false)⟩,
 ⟨some 20, (.move (.tmp 7)), 3, some (some 18, false)⟩,
 ⟨some 21, (.index 9 (.tmp 19) (.tmp 20)), 5, some (some 18, false)⟩,
 ⟨some 22, (.move (.tmp 1)), 5, some (some 18, false)⟩,
 ⟨some 23, (.binOp .eql 5 (.tmp 21) (.tmp 22) 5), 4, some (some 18, false)⟩,
 LL 24 (.pick (.tmp 18) (.const (.bool true)) (.tmp 23)) 4])
 (.cond (.tmp 24)
 (.seq (.rgn [25] [LL 25 (.move (.tmp 5)) 144,
 LL 26 (.move (.tmp 0)) 9,
 LL 27 (.move (.tmp 6)) 3,
 LL 28 (.move (.tmp 7)) 3,
 LL 29 (.slice 9 (.tmp 26) (some (.tmp 27)) (some (.tmp 28)) none) 9,
 LL 30 (.buildSlice 144 1 #[(0, (.tmp 29))]) 144,
 LL 31 (.call { callee := (.builtin .append), args := #[(.tmp 25), (.tmp 30)], argTypes := #[144, 144] }) 144,
 LL 5 (.assign (.tmp 31)) 144])
 (.rgn [] [LL 32 (.move (.tmp 7)) 3,
 LL 33 (.binOp .add 3 (.tmp 32) (.const (.int .i64 1)) 3) 3,
 LL 6 (.assign (.tmp 33)) 3]))
 .skip)))
 (.rgn [] [LL 12 (.move (.tmp 7)) 3,
 LL 13 (.binOp .add 3 (.tmp 12) (.const (.int .i64 1)) 3) 3,
 LL 7 (.assign (.tmp 13)) 3]))))))
 (.seq (.rgn [34] [LL 34 (.move (.tmp 5)) 144,
 LL 4 (.assign (.tmp 34)) 144])
 .ret)))))
theorem lit100 : Lit Try.prog 100 35 [] [.tmp 4] c100 := ⟨⟨Try.f100, _, Try.func100, rfl, by kernel_rfl, rfl, rfl, by kernel_rfl, by kernel_rfl⟩, by decide, by kernel_rfl⟩
/-- impl.parseNames -/
def c101 : LC :=
  (.seq (.rgn [] [LL 2 (.assign (.const (.slice none 0 0))) 25,
 LL 3 (.assign (.const (.bool false))) 4])
 (.seq (.seq (.rgn [] [LL 8 (.move (.tmp 0)) 9,
 LL 9 (.call { callee := (.builtin .len), args := #[(.tmp 8)], argTypes := #[9] }) 3,
 LL 10 (.binOp .lss 3 (.tmp 9) (.const (.int .i64 2)) 3) 4,
 LL 11 (.move (.tmp 10)) 4,
 ⟨some 12, (.move (.tmp 0)), 9, some (some 11, false)⟩,
 ⟨some 13, (.index 9 (.tmp 12) (.const (.int .i64 0))), 5, some (some 11, false)⟩,
 ⟨some 14, (.binOp .neq 5 (.tmp 13) (.const (.int .u8 40)) 5), 4, some (some 11, false)⟩,
 LL 15 (.pick (.tmp 11) (.const (.bool true)) (.tmp 14)) 4,
 LL 16 (.move (.tmp 15)) 4,
 ⟨some 17, (.move (.tmp 0)), 9, some (some 16, false)⟩,
 ⟨some 18, (.move (.tmp 0)), 9, some (some 16, false)⟩,
 ⟨some 19, (.call { callee := (.builtin .len), args := #[(.tmp 18)], argTypes := #[9] }), 3, some (some 16, false)⟩,
 ⟨some 20, (.binOp .sub 3 (.tmp 19) (.const (.int .i64 1)) 3), 3, some (some 16, false)⟩,
 ⟨some 21, (.index 9 (.tmp 17) (.tmp 20)), 5, some (some 16, false)⟩,
 ⟨some 22, (.binOp .neq 5 (.tmp 21) (.const (.int .u8 41)) 5), 4, some (some 16, false)⟩,
 LL 23 (.pick (.tmp 16) (.const (.bool true)) (.tmp 22)) 4])
 (.cond (.tmp 23)
 (.seq (.rgn [] [LL 2 (.assign (.const (.slice none 0 0))) 25,
 LL 3 (.assign (.const (.bool false))) 4])
 .ret)
 .skip))
 (.seq (.rgn [] [LL 4 (.assign (.const (.slice none 0 0))) 25])
 (.seq (.seq (.rgn [] [LL 5 (.assign (.const (.int .i64 1))) 3])
 (.blk 0
 (.loop []
 (.seq (.seq (.rgn [] [LL 24 (.move (.tmp 5)) 3,
 LL 25 (.move (.tmp 0)) 9,
 LL 26 (.call { callee := (.builtin .len), args := #[(.tmp 25)], argTypes := #[9] }) 3,
 LL 27 (.binOp .sub 3 (.tmp 26) (.const (.int .i64 1)) 3) 3,
 LL 28 (.binOp .lss 3 (.tmp 24) (.tmp 27) 3) 4])
 (.cond (.tmp 28)
 .skip
 (.exit 0)))
 (.seq (.blk 1
 (.seq (.rgn [] [LL 6 (.assign (.const (.int .i64 (-1)))) 3])
 (.seq (.seq (.rgn [] [LL 7 (.assign (.const (.int .i64 0))) 3])
 (.blk 2
 (.loop []
 (.seq (.seq (.rgn [] [LL 31 (.move (.tmp 7)) 3,
 LL 32 (.binOp .lss 3 (.tmp 31) (.const (.int .i64 5)) 3) 4])
 (.cond (.tmp 32)
 .skip
 (.exit 2)))
 (.seq (.blk 3
 (.seq (.drw [] [([7], [35]), ([35], [36]), ([0], [37]), ([5], [38]), ([5], [39]), ([39], [40]), ([37, 38, 40], [41]), ([36, 41], [42])] [[], [0], [], [], [], [4], [2, 3, 5], [1, 6]] [LL 35 (.move (.tmp 7)) 3,
 LL 36 (.call { callee := (.value (.func 184)), args := #[(.tmp 35)], argTypes := #[3] }) 9,
 LL 37 (.move (.tmp 0)) 9,
 LL 38 (.move (.tmp 5)) 3,
 LL 39 (.move (.tmp 5)) 3,
 LL 40 (.binOp .add 3 (.tmp 39) (.const (.int .i64 1)) 3) 3,
 LL 41 (.slice 9 (.tmp 37) (some (.tmp 38)) (some (.tmp 40)) none) 9,
 LL 42 (.binOp .eql 9 (.tmp 36) (.tmp 41) 9) 4])
 (.cond (.tmp 42)
 (.rgn [] [LL 43 (.move (.tmp 7)) 3,
 LL 6 (.assign (.tmp 43)) 3])
 .skip)))
 (.rgn [] [LL 33 (.move (.tmp 7)) 3,
 LL 34 (.binOp .add 3 (.tmp 33) (.const (.int .i64 1)) 3) 3,
 LL 7 (.assign (.tmp 34)) 3]))))))
 (.seq (.seq (.rgn [] [LL 44 (.move (.tmp 6)) 3,
 LL 45 (.binOp .lss 3 (.tmp 44) (.const (.int .i64 0)) 3) 4])
 (.cond (.tmp 45)
 (.seq (.rgn [] [LL 2 (.assign (.const (.slice none 0 0))) 25,
 LL 3 (.assign (.const (.bool false))) 4])
 .ret)
 .skip))
 (.rgn [46] [LL 46 (.move (.tmp 4)) 25,
 LL 47 (.move (.tmp 6)) 3,
 LL 48 (.buildSlice 25 1 #[(0, (.tmp 47))]) 25,
 LL 49 (.call { callee := (.builtin .append), args := #[(.tmp 46), (.tmp 48)], argTypes := #[25, 25] }) 25,
 LL 4 (.assign (.tmp 49)) 25])))))
 (.rgn [] [LL 29 (.move (.tmp 5)) 3,
 LL 30 (.binOp .add 3 (.tmp 29) (.const (.int .i64 1)) 3) 3,
 LL 5 (.assign (.tmp 30)) 3]))))))
 (.seq (.rgn [50] [LL 50 (.move (.tmp 4)) 25,
 LL 2 (.assign (.tmp 50)) 25,
 LL 3 (.assign (.const (.bool true))) 4])
 .ret)))))
theorem lit101 : Lit Try.prog 101 51 [] [.tmp 2, .tmp 3] c101 := ⟨⟨Try.f101, _, Try.func101, rfl, by kernel_rfl, rfl, rfl, by kernel_rfl, by kernel_rfl⟩, by decide, by kernel_rfl⟩
/-- impl.ParseRationals -/
def c102 : LC :=
  (.seq (.rgn [] [LL 2 (.assign (.const (.slice none 0 0))) 57,
 LL 3 (.assign (.const (.bool false))) 4])
 (.seq (.seq (.rgn [] [LL 9 (.move (.tmp 0)) 9,
 LL 10 (.binOp .eql 9 (.tmp 9) (.const (.string { data := #[] })) 9) 4])
 (.cond (.tmp 10)
 (.seq (.rgn [] [LL 2 (.assign (.const (.slice none 0 0))) 57,
 LL 3 (.assign (.const (.bool true))) 4])
 .ret)
 .skip))
 (.seq (.rgn [] [LL 4 (.assign (.const (.slice none 0 0))) 57])
 (.seq (.seq (.rgn [] [LL 11 (.move (.tmp 0)) 9,
 LL 12 (.call { callee := (.value (.func 100)), args := #[(.tmp 11), (.const (.int .u8 32))], argTypes := #[9, 5] }) 144,
 LL 13 (.call { callee := (.builtin .len), args := #[(.tmp 12)], argTypes := #[144] }) 3,
 LL 14 (.move (.const (.int .i64 0))) 3])
 (.blk 0
 (.loop [7]
 (.seq (.rgn [] [LL 15 (.binOp .lss 3 (.tmp 14) (.tmp 13) 3) 0])
 (.seq (.cond (.tmp 15)
 .skip
 (.exit 0))
 (.seq (.blk 1
 (.seq (.rgn [] [LL 16 (.indexAddr 144 (.tmp 12) (.tmp 14)) 0,
 LL 17 (.load 9 (.tmp 16)) 9,
 LL 6 (.assign (.tmp 17)) 9])
 (.seq (.rgn [] [LL 19 (.move (.tmp 6)) 9,
 LL 20 (.call { callee := (.value (.func 185)), args := #[(.tmp 19)], argTypes := #[9] }) 216,
 LL 18 (.move (.tmp 20)) 216,
 LL 21 (.extract (.tmp 18) 0) 215,
 LL 22 (.extract (.tmp 18) 1) 4,
 LL 7 (.alloc 215) 0,
 ⟨none, (.store 215 (.tmp 7) (.tmp 21)), 0, none⟩,
 LL 8 (.assign (.tmp 22)) 4])
 (.seq (.seq (.rgn [] [LL 23 (.move (.tmp 8)) 4,
 LL 24 (.unOp .not 4 (.tmp 23)) 4])
 (.cond (.tmp 24)
 (.seq (.rgn [] [LL 2 (.assign (.const (.slice none 0 0))) 57,
 LL 3 (.assign (.const (.bool false))) 4])
 .ret)
 .skip))
 (.rgn [25] [LL 25 (.move (.tmp 4)) 57,
 LL 26 (.load 215 (.tmp 7)) 215,
 LL 27 (.buildSlice 57 1 #[(0, (.tmp 26))]) 57,
 LL 28 (.call { callee := (.builtin .append), args := #[(.tmp 25), (.tmp 27)], argTypes := #[57, 57] }) 57,
 LL 4 (.assign (.tmp 28)) 57])))))
 (.rgn [] [LL 29 (.binOp .add 3 (.tmp 14) (.const (.int .i64 1)) 3) 3,
 LL 14 (.move (.tmp 29)) 3])))))))
 (.seq (.rgn [30] [LL 30 (.move (.tmp 4)) 57,
 LL 2 (.assign (.tmp 30)) 57,
 LL 3 (.assign (.const (.bool true))) 4])
 .ret)))))
theorem lit102 : Lit Try.prog 102 31 [7] [.tmp 2, .tmp 3] c102 := ⟨⟨Try.f102, _, Try.func102, rfl, by kernel_rfl, rfl, rfl, by kernel_rfl, by kernel_rfl⟩, by decide, by kernel_rfl⟩
/-- impl.readWide -/
def c103 : LC :=
  (.seq (.rgn [] [LL 2 (.assign (.const (.int .i64 0))) 3,
 LL 3 (.assign (.const (.bool false))) 4])
 (.seq (.rgn [] [LL 4 (.assign (.const (.int .i64 1))) 3])
 (.seq (.rgn [] [LL 8 (.move (.tmp 0)) 9,
 LL 5 (.assign (.tmp 8)) 9])
 (.seq (.seq (.rgn [] [LL 9 (.move (.tmp 0)) 9,
 LL 10 (.binOp .neq 9 (.tmp 9) (.const (.string { data := #[] })) 9) 4,
 LL 11 (.move (.tmp 10)) 4,
 ⟨some 12, (.move (.tmp 0)), 9, some (some 11, true)⟩,
 ⟨some 13, (.index 9 (.tmp 12) (.const (.int .i64 0))), 5, some (some 11, true)⟩,
 ⟨some 14, (.binOp .eql 5 (.tmp 13) (.const (.int .u8 45)) 5), 4, some (some 11, true)⟩,
 LL 15 (.pick (.tmp 11) (.tmp 14) (.const (.bool false))) 4])
 (.cond (.tmp 15)
 (.seq (.rgn [] [LL 4 (.assign (.const (.int .i64 (-1)))) 3])
 (.rgn [] [LL 16 (.move (.tmp 0)) 9,
 LL 17 (.slice 9 (.tmp 16) (some (.const (.int .i64 1))) none none) 9,
 LL 5 (.assign (.tmp 17)) 9]))
 .skip))
 (.seq (.seq (.rgn [] [LL 18 (.move (.tmp 5)) 9,
 LL 19 (.binOp .eql 9 (.tmp 18) (.const (.string { data := #[] })) 9) 4,
 LL 20 (.move (.tmp 19)) 4,
 ⟨some 21, (.move (.tmp 5)), 9, some (some 20, false)⟩,
 ⟨some 22, (.call { callee := (.builtin .len), args := #[(.tmp 21)], argTypes := #[9] }), 3, some (some 20, false)⟩,
 ⟨some 23, (.binOp .gtr 3 (.tmp 22) (.const (.int .i64 11)) 3), 4, some (some 20, false)⟩,
 LL 24 (.pick (.tmp 20) (.const (.bool true)) (.tmp 23)) 4])
 (.cond (.tmp 24)
 (.seq (.rgn [] [LL 2 (.assign (.const (.int .i64 0))) 3,
 LL 3 (.assign (.const (.bool false))) 4])
 .ret)
 .skip))
 (.seq (.rgn [] [LL 6 (.assign (.const (.int .i64 0))) 3])
 (.seq (.seq (.rgn [] [LL 7 (.assign (.const (.int .i64 0))) 3])
 (.blk 0
 (.loop []
 (.seq (.seq (.rgn [] [LL 25 (.move (.tmp 7)) 3,
 LL 26 (.move (.tmp 5)) 9,
 LL 27 (.call { callee := (.builtin .len), args := #[(.tmp 26)], argTypes := #[9] }) 3,
 LL 28 (.binOp .lss 3 (.tmp 25) (.tmp 27) 3) 4])
 (.cond (.tmp 28)
 .skip
 (.exit 0)))
 (.seq (.blk 1
 (.seq (.seq (.rgn [] [LL 31 (.move (.tmp 5)) 9,
 LL 32 (.move (.tmp 7)) 3,
 LL 33 (.index 9 (.tmp 31) (.tmp 32)) 5,
 LL 34 (.binOp .lss 5 (.tmp 33) (.const (.int .u8 48)) 5) 4,
 LL 35 (.move (.tmp 34)) 4,
 ⟨some 36, (.move (.tmp 5)), 9, some (some 35, false)⟩,
 ⟨some 37, (.move (.tmp 7)), 3, some (some 35, false)⟩,
 ⟨some 38, (.index 9 (.tmp 36) (.tmp 37)), 5, some (some 35, false)⟩,
 ⟨some 39, (.binOp .gtr 5 (.tmp 38) (.const (.int .u8 57)) 5), 4, some (some 35, false)⟩,
 LL 40 (.pick (.tmp 35) (.const (.bool true)) (.tmp 39)) 4])
 (.cond (.tmp 40)
 (.seq (.rgn [] [LL 2 (.assign (.const (.int .i64 0))) 3,
 LL 3 (.assign (.const (.bool false))) 4])
 .ret)
 .skip))
 (.rgn [] [LL 41 (.move (.tmp 6)) 3,
 LL 42 (.binOp .mul 3 (.const (.int .i64 10)) (.tmp 41) 3) 3,
 LL 43 (.move (.tmp 5)) 9,
 LL 44 (.move (.tmp 7)) 3,
 LL 45 (.index 9 (.tmp 43) (.tmp 44)) 5,
 LL 46 (.binOp .sub 5 (.tmp 45) (.const (.int .u8 48)) 5) 5,
 LL 47 (.convert 5 3 (.tmp 46)) 3,
 LL 48 (.binOp .add 3 (.tmp 42) (.tmp 47) 3) 3,
 LL 6 (.assign (.tmp 48)) 3])))
 (.rgn [] [LL 29 (.move (.tmp 7)) 3,
 LL 30 (.binOp .add 3 (.tmp 29) (.const (.int .i64 1)) 3) 3,
 LL 7 (.assign (.tmp 30)) 3]))))))
 (.seq (.rgn [] [LL 49 (.move (.tmp 4)) 3,
 LL 50 (.move (.tmp 6)) 3,
 LL 51 (.binOp .mul 3 (.tmp 49) (.tmp 50) 3) 3,
 LL 2 (.assign (.tmp 51)) 3,
 LL 3 (.assign (.const (.bool true))) 4])
 .ret))))))))
theorem lit103 : Lit Try.prog 103 52 [] [.tmp 2, .tmp 3] c103 := ⟨⟨Try.f103, _, Try.func103, rfl, by kernel_rfl, rfl, rfl, by kernel_rfl, by kernel_rfl⟩, by decide, by kernel_rfl⟩
/-- impl.FormatCertificate -/
def c104 : LC :=
  (.seq (.rgn [] [LL 1 (.box 59 (.tmp 0)) 0,
 LL 2 (.assign (.const (.string { data := #[] }))) 9])
 (.seq (.rgn [] [LL 5 (.load 59 (.tmp 1)) 59,
 LL 3 (.alloc 59) 0,
 ⟨none, (.store 59 (.tmp 3) (.tmp 5)), 0, none⟩])
 (.seq (.rgn [] [LL 6 (.fieldAddr 59 (.tmp 3) 1) 0,
 LL 7 (.load 57 (.tmp 6)) 57,
 LL 8 (.call { callee := (.value (.func 186)), args := #[(.tmp 7)], argTypes := #[57] }) 9,
 LL 4 (.assign (.tmp 8)) 9])
 (.seq (.seq (.rgn [] [LL 9 (.fieldAddr 59 (.tmp 3) 0) 0,
 LL 10 (.load 25 (.tmp 9)) 25,
 LL 11 (.call { callee := (.builtin .len), args := #[(.tmp 10)], argTypes := #[25] }) 3,
 LL 12 (.binOp .gtr 3 (.tmp 11) (.const (.int .i64 5)) 3) 4,
 LL 13 (.move (.tmp 12)) 4,
 ⟨some 14, (.fieldAddr 59 (.tmp 3) 1), 0, some (some 13, false)⟩,
 ⟨some 15, (.load 57 (.tmp 14)), 57, some (some 13, false)⟩,
 ⟨some 16, (.call { callee := (.builtin .len), args := #[(.tmp 15)], argTypes := #[57] }), 3, some (some 13, false)⟩,
 ⟨some 17, (.binOp .gtr 3 (.tmp 16) (.const (.int .i64 4)) 3), 4, some (some 13, false)⟩,
 LL 18 (.pick (.tmp 13) (.const (.bool true)) (.tmp 17)) 4,
 LL 19 (.move (.tmp 18)) 4,
 ⟨some 20, (.fieldAddr 59 (.tmp 3) 2), 0, some (some 19, false)⟩,
 ⟨some 21, (.load 25 (.tmp 20)), 25, some (some 19, false)⟩,
 ⟨some 22, (.call { callee := (.builtin .len), args := #[(.tmp 21)], argTypes := #[25] }), 3, some (some 19, false)⟩,
 ⟨some 23, (.binOp .gtr 3 (.tmp 22) (.const (.int .i64 4)) 3), 4, some (some 19, false)⟩,
 LL 24 (.pick (.tmp 19) (.const (.bool true)) (.tmp 23)) 4,
 LL 25 (.move (.tmp 24)) 4,
 ⟨some 26, (.move (.tmp 4)), 9, some (some 25, false)⟩,
 ⟨some 27, (.binOp .eql 9 (.tmp 26) (.const (.string { data := #[] })) 9), 4, some (some 25, false)⟩,
 ⟨some 28, (.move (.tmp 27)), 4, some (some 25, false)⟩,
 ⟨some 29, (.fieldAddr 59 (.tmp 3) 1), 0, some (some 28, true)⟩,
 ⟨some 30, (.load 57 (.tmp 29)), 57, some (some 28, true)⟩,
 ⟨some 31, (.call { callee := (.builtin .len), args := #[(.tmp 30)], argTypes := #[57] }), 3, some (some 28, true)⟩,
 ⟨some 32, (.binOp .gtr 3 (.tmp 31) (.const (.int .i64 0)) 3), 4, some (some 28, true)⟩,
 ⟨some 33, (.pick (.tmp 28) (.tmp 32) (.const (.bool false))), 4, some (some 25, false)⟩,
 LL 34 (.pick (.tmp 25) (.const (.bool true)) (.tmp 33)) 4])
 (.cond (.tmp 34)
 (.seq (.rgn [] [LL 2 (.assign (.const (.string { data := #[] }))) 9])
 .ret)
 .skip))
 (.seq (.drw [] [([3], [35]), ([3, 35], [36]), ([36], [37]), ([37], [38]), ([38], [39]), ([4], [40]), ([39, 40], [41]), ([41], [42]), ([3], [43]), ([3, 43], [44]), ([44], [45]), ([42, 45], [46]), ([46], [47]), ([3], [48]), ([3, 48], [49]), ([49], [50]), ([47, 50], [51]), ([51], [52]), ([3], [53]), ([3, 53], [54]), ([54], [55]), ([52, 55], [56]), ([56], [2, 56])] [[], [0], [1], [2], [3], [], [4, 5], [6], [], [8], [9, 2], [7, 10], [11], [], [13], [14, 10], [12, 15], [16], [], [18], [19, 15], [17, 20], [21, 20, 0, 1, 2, 3, 4, 5, 6, 7, 8, 9, 10, 11, 12, 13, 14, 15, 16, 17, 18, 19, 20, 21]] [LL 35 (.fieldAddr 59 (.tmp 3) 0) 0,
 LL 36 (.load 25 (.tmp 35)) 25,
 LL 37 (.call { callee := (.value (.func 147)), args := #[(.tmp 36)], argTypes := #[25] }) 9,
 LL 38 (.binOp .add 9 (.const (.string { data := #[40] })) (.tmp 37) 9) 9,
 LL 39 (.binOp .add 9 (.tmp 38) (.const (.string { data := #[41, 59] })) 9) 9,
 LL 40 (.move (.tmp 4)) 9,
 LL 41 (.binOp .add 9 (.tmp 39) (.tmp 40) 9) 9,
 LL 42 (.binOp .add 9 (.tmp 41) (.const (.string { data := #[59] })) 9) 9,
 LL 43 (.fieldAddr 59 (.tmp 3) 2) 0,
 LL 44 (.load 25 (.tmp 43)) 25,
 LL 45 (.call { callee := (.value (.func 145)), args := #[(.tmp 44), (.const (.string { data := #[32] }))], argTypes := #[25, 9] }) 9,
 LL 46 (.binOp .add 9 (.tmp 42) (.tmp 45) 9) 9,
 LL 47 (.binOp .add 9 (.tmp 46) (.const (.string { data := #[59] })) 9) 9,
 LL 48 (.fieldAddr 59 (.tmp 3) 3) 0,
 LL 49 (.load 3 (.tmp 48)) 3,
 LL 50 (.call { callee := (.value (.func 187)), args := #[(.tmp 49)], argTypes := #[3] }) 9,
 LL 51 (.binOp .add 9 (.tmp 47) (.tmp 50) 9) 9,
 LL 52 (.binOp .add 9 (.tmp 51) (.const (.string { data := #[59] })) 9) 9,
 LL 53 (.fieldAddr 59 (.tmp 3) 4) 0,
 LL 54 (.load 3 (.tmp 53)) 3,
 LL 55 (.call { callee := (.value (.func 187)), args := #[(.tmp 54)], argTypes := #[3] }) 9,
 LL 56 (.binOp .add 9 (.tmp 52) (.tmp 55) 9) 9,
 LL 2 (.assign (.tmp 56)) 9])
 .ret)))))
theorem lit104 : Lit Try.prog 104 57 [1, 3] [.tmp 2] c104 := ⟨⟨Try.f104, _, Try.func104, rfl, by kernel_rfl, rfl, rfl, by kernel_rfl, by kernel_rfl⟩, by decide, by kernel_rfl⟩
/-- laws.eqRationalS -/
def c105 : LC :=
  (.seq (.rgn [] [LL 4 (.assign (.const (.bool false))) 4])
 (.seq (.seq (.rgn [] [LL 6 (.move (.tmp 0)) 57,
 LL 7 (.call { callee := (.builtin .len), args := #[(.tmp 6)], argTypes := #[57] }) 3,
 LL 8 (.move (.tmp 1)) 57,
 LL 9 (.call { callee := (.builtin .len), args := #[(.tmp 8)], argTypes := #[57] }) 3,
 LL 10 (.binOp .neq 3 (.tmp 7) (.tmp 9) 3) 4])
 (.cond (.tmp 10)
 (.seq (.rgn [] [LL 4 (.assign (.const (.bool false))) 4])
 .ret)
 .skip))
 (.seq (.seq (.rgn [] [LL 5 (.assign (.const (.int .i64 0))) 3])
 (.blk 0
 (.loop []
 (.seq (.seq (.rgn [] [LL 11 (.move (.tmp 5)) 3,
 LL 12 (.move (.tmp 0)) 57,
 LL 13 (.call { callee := (.builtin .len), args := #[(.tmp 12)], argTypes := #[57] }) 3,
 LL 14 (.binOp .lss 3 (.tmp 11) (.tmp 13) 3) 4])
 (.cond (.tmp 14)
 .skip
 (.exit 0)))
 (.seq (.blk 1
 (.seq (.drw [] [([0], [17]), ([5], [18]), ([17, 18], [19]), ([19], [20]), ([1], [21]), ([5], [22]), ([21, 22], [23]), ([23], [24]), ([20, 24], [25]), ([25], [26])] [[], [], [0, 1], [2], [], [], [4, 5], [6], [3, 7], [8]] [LL 17 (.move (.tmp 0)) 57,
 LL 18 (.move (.tmp 5)) 3,
 LL 19 (.indexAddr 57 (.tmp 17) (.tmp 18)) 0,
 LL 20 (.load 215 (.tmp 19)) 215,
 LL 21 (.move (.tmp 1)) 57,
 LL 22 (.move (.tmp 5)) 3,
 LL 23 (.indexAddr 57 (.tmp 21) (.tmp 22)) 0,
 LL 24 (.load 215 (.tmp 23)) 215,
 LL 25 (.call { callee := (.value (.func 188)), args := #[(.tmp 20), (.tmp 24)], argTypes := #[215, 215] }) 4,
 LL 26 (.unOp .not 4 (.tmp 25)) 4])
 (.cond (.tmp 26)
 (.seq (.rgn [] [LL 4 (.assign (.const (.bool false))) 4])
 .ret)
 .skip)))
 (.rgn [] [LL 15 (.move (.tmp 5)) 3,
 LL 16 (.binOp .add 3 (.tmp 15) (.const (.int .i64 1)) 3) 3,
 LL 5 (.assign (.tmp 16)) 3]))))))
 (.seq (.rgn [] [LL 4 (.assign (.const (.bool true))) 4])
 .ret))))
theorem lit105 : Lit Try.prog 105 27 [] [.tmp 4] c105 := ⟨⟨Try.f105, _, Try.func105, rfl, by kernel_rfl, rfl, rfl, by kernel_rfl, by kernel_rfl⟩, by decide, by kernel_rfl⟩
/-- laws.markRationalS -/
def c106 : LC :=
  (.seq (.rgn [] [LL 4 (.assign (.const (.int .i64 0))) 3])
 (.seq (.seq (.rgn [] [LL 5 (.assign (.const (.int .i64 0))) 3])
 (.blk 0
 (.loop []
 (.seq (.seq (.rgn [] [LL 6 (.move (.tmp 5)) 3,
 LL 7 (.move (.tmp 0)) 57,
 LL 8 (.call { callee := (.builtin .len), args := #[(.tmp 7)], argTypes := #[57] }) 3,
 LL 9 (.binOp .lss 3 (.tmp 6) (.tmp 8) 3) 4])
 (.cond (.tmp 9)
 .skip
 (.exit 0)))
 (.seq (.blk 1
 (.seq (.rgn [] [LL 12 (.move (.tmp 0)) 57,
 LL 13 (.move (.tmp 5)) 3,
 LL 14 (.move (.tmp 1)) 3,
 LL 15 (.indexAddr 57 (.tmp 12) (.tmp 13)) 0,
 LL 16 (.fieldAddr 215 (.tmp 15) 0) 0,
 ⟨none, (.store 3 (.tmp 16) (.tmp 14)), 0, none⟩])
 (.seq (.rgn [] [LL 17 (.move (.tmp 1)) 3,
 LL 18 (.binOp .add 3 (.tmp 17) (.const (.int .i64 1)) 3) 3,
 LL 1 (.assign (.tmp 18)) 3])
 (.seq (.rgn [] [LL 19 (.move (.tmp 0)) 57,
 LL 20 (.move (.tmp 5)) 3,
 LL 21 (.move (.tmp 1)) 3,
 LL 22 (.indexAddr 57 (.tmp 19) (.tmp 20)) 0,
 LL 23 (.fieldAddr 215 (.tmp 22) 1) 0,
 ⟨none, (.store 3 (.tmp 23) (.tmp 21)), 0, none⟩])
 (.rgn [] [LL 24 (.move (.tmp 1)) 3,
 LL 25 (.binOp .add 3 (.tmp 24) (.const (.int .i64 1)) 3) 3,
 LL 1 (.assign (.tmp 25)) 3])))))
 (.rgn [] [LL 10 (.move (.tmp 5)) 3,
 LL 11 (.binOp .add 3 (.tmp 10) (.const (.int .i64 1)) 3) 3,
 LL 5 (.assign (.tmp 11)) 3]))))))
 (.seq (.rgn [] [LL 26 (.move (.tmp 1)) 3,
 LL 4 (.assign (.tmp 26)) 3])
 .ret)))
theorem lit106 : Lit Try.prog 106 27 [] [.tmp 4] c106 := ⟨⟨Try.f106, _, Try.func106, rfl, by kernel_rfl, rfl, rfl, by kernel_rfl, by kernel_rfl⟩, by decide, by kernel_rfl⟩
/-- laws.heldRationalS -/
def c107 : LC :=
  (.seq (.rgn [] [LL 4 (.assign (.const (.int .i64 0))) 3])
 (.seq (.seq (.rgn [] [LL 5 (.assign (.const (.int .i64 0))) 3])
 (.blk 0
 (.loop []
 (.seq (.seq (.rgn [] [LL 6 (.move (.tmp 5)) 3,
 LL 7 (.move (.tmp 0)) 57,
 LL 8 (.call { callee := (.builtin .len), args := #[(.tmp 7)], argTypes := #[57] }) 3,
 LL 9 (.binOp .lss 3 (.tmp 6) (.tmp 8) 3) 4])
 (.cond (.tmp 9)
 .skip
 (.exit 0)))
 (.seq (.blk 1
 (.seq (.seq (.rgn [] [LL 12 (.move (.tmp 0)) 57,
 LL 13 (.move (.tmp 5)) 3,
 LL 14 (.indexAddr 57 (.tmp 12) (.tmp 13)) 0,
 LL 15 (.fieldAddr 215 (.tmp 14) 0) 0,
 LL 16 (.load 3 (.tmp 15)) 3,
 LL 17 (.move (.tmp 1)) 3,
 LL 18 (.binOp .neq 3 (.tmp 16) (.tmp 17) 3) 4])
 (.cond (.tmp 18)
 (.seq (.rgn [] [LL 4 (.assign (.const (.int .i64 (-1)))) 3])
 .ret)
 .skip))
 (.seq (.rgn [] [LL 19 (.move (.tmp 1)) 3,
 LL 20 (.binOp .add 3 (.tmp 19) (.const (.int .i64 1)) 3) 3,
 LL 1 (.assign (.tmp 20)) 3])
 (.seq (.seq (.rgn [] [LL 21 (.move (.tmp 0)) 57,
 LL 22 (.move (.tmp 5)) 3,
 LL 23 (.indexAddr 57 (.tmp 21) (.tmp 22)) 0,
 LL 24 (.fieldAddr 215 (.tmp 23) 1) 0,
 LL 25 (.load 3 (.tmp 24)) 3,
 LL 26 (.move (.tmp 1)) 3,
 LL 27 (.binOp .neq 3 (.tmp 25) (.tmp 26) 3) 4])
 (.cond (.tmp 27)
 (.seq (.rgn [] [LL 4 (.assign (.const (.int .i64 (-1)))) 3])
 .ret)
 .skip))
 (.rgn [] [LL 28 (.move (.tmp 1)) 3,
 LL 29 (.binOp .add 3 (.tmp 28) (.const (.int .i64 1)) 3) 3,
 LL 1 (.assign (.tmp 29)) 3])))))
 (.rgn [] [LL 10 (.move (.tmp 5)) 3,
 LL 11 (.binOp .add 3 (.tmp 10) (.const (.int .i64 1)) 3) 3,
 LL 5 (.assign (.tmp 11)) 3]))))))
 (.seq (.rgn [] [LL 30 (.move (.tmp 1)) 3,
 LL 4 (.assign (.tmp 30)) 3])
 .ret)))
theorem lit107 : Lit Try.prog 107 31 [] [.tmp 4] c107 := ⟨⟨Try.f107, _, Try.func107, rfl, by kernel_rfl, rfl, rfl, by kernel_rfl, by kernel_rfl⟩, by decide, by kernel_rfl⟩
/-- spec.l34Ints -/
def c141 : LC :=
  (.seq (.rgn [] [LL 2 (.assign (.const (.string { data := #[] }))) 9])
 (.seq (.rgn [] [LL 3 (.assign (.const (.string { data := #[] }))) 9])
 (.seq (.seq (.rgn [] [LL 4 (.assign (.const (.int .i64 0))) 3])
 (.blk 0
 (.loop []
 (.seq (.seq (.rgn [] [LL 5 (.move (.tmp 4)) 3,
 LL 6 (.move (.tmp 0)) 25,
 LL 7 (.call { callee := (.builtin .len), args := #[(.tmp 6)], argTypes := #[25] }) 3,
 LL 8 (.binOp .lss 3 (.tmp 5) (.tmp 7) 3) 4])
 (.cond (.tmp 8)
 .skip
 (.exit 0)))
 (.seq (.blk 1
 (.seq (.seq (.rgn [] [LL 11 (.move (.tmp 4)) 3,
 LL 12 (.binOp .gtr 3 (.tmp 11) (.const (.int .i64 0)) 3) 4])
 (.cond (.tmp 12)
 (.rgn [] [LL 13 (.move (.tmp 3)) 9,
 LL 14 (.binOp .add 9 (.tmp 13) (.const (.string { data := #[32] })) 9) 9,
 LL 3 (.assign (.tmp 14)) 9])
 .skip))
 (.rgn [] [LL 15 (.move (.tmp 3)) 9,
 LL 16 (.move (.tmp 0)) 25,
 LL 17 (.move (.tmp 4)) 3,
 LL 18 (.indexAddr 25 (.tmp 16) (.tmp 17)) 0,
 LL 19 (.load 3 (.tmp 18)) 3,
 LL 20 (.call { callee := (.value (.func 183)), args := #[(.tmp 19)], argTypes := #[3] }) 9,
 LL 21 (.binOp .add 9 (.tmp 15) (.tmp 20) 9) 9,
 LL 3 (.assign (.tmp 21)) 9])))
 (.rgn [] [LL 9 (.move (.tmp 4)) 3,
 LL 10 (.binOp .add 3 (.tmp 9) (.const (.int .i64 1)) 3) 3,
 LL 4 (.assign (.tmp 10)) 3]))))))
 (.seq (.rgn [] [LL 22 (.move (.tmp 3)) 9,
 LL 2 (.assign (.tmp 22)) 9])
 .ret))))
theorem lit141 : Lit Try.prog 141 23 [] [.tmp 2] c141 := ⟨⟨Try.f141, _, Try.func141, rfl, by kernel_rfl, rfl, rfl, by kernel_rfl, by kernel_rfl⟩, by decide, by kernel_rfl⟩
/-- spec.l7Vars -/
def c143 : LC :=
  (.seq (.rgn [] [LL 2 (.assign (.const (.string { data := #[] }))) 9])
 (.seq (.rgn [] [LL 3 (.assign (.const (.string { data := #[40] }))) 9])
 (.seq (.seq (.rgn [] [LL 4 (.assign (.const (.int .i64 0))) 3])
 (.blk 0
 (.loop []
 (.seq (.seq (.rgn [] [LL 5 (.move (.tmp 4)) 3,
 LL 6 (.move (.tmp 0)) 25,
 LL 7 (.call { callee := (.builtin .len), args := #[(.tmp 6)], argTypes := #[25] }) 3,
 LL 8 (.binOp .lss 3 (.tmp 5) (.tmp 7) 3) 4])
 (.cond (.tmp 8)
 .skip
 (.exit 0)))
 (.seq (.blk 1
 (.rgn [] [LL 11 (.move (.tmp 3)) 9,
 LL 12 (.move (.tmp 0)) 25,
 LL 13 (.move (.tmp 4)) 3,
 LL 14 (.indexAddr 25 (.tmp 12) (.tmp 13)) 0,
 LL 15 (.load 3 (.tmp 14)) 3,
 LL 16 (.call { callee := (.value (.func 180)), args := #[(.tmp 15)], argTypes := #[3] }) 9,
 LL 17 (.binOp .add 9 (.tmp 11) (.tmp 16) 9) 9,
 LL 3 (.assign (.tmp 17)) 9]))
 (.rgn [] [LL 9 (.move (.tmp 4)) 3,
 LL 10 (.binOp .add 3 (.tmp 9) (.const (.int .i64 1)) 3) 3,
 LL 4 (.assign (.tmp 10)) 3]))))))
 (.seq (.rgn [] [LL 18 (.move (.tmp 3)) 9,
 LL 19 (.binOp .add 9 (.tmp 18) (.const (.string { data := #[41] })) 9) 9,
 LL 2 (.assign (.tmp 19)) 9])
 .ret))))
theorem lit143 : Lit Try.prog 143 20 [] [.tmp 2] c143 := ⟨⟨Try.f143, _, Try.func143, rfl, by kernel_rfl, rfl, rfl, by kernel_rfl, by kernel_rfl⟩, by decide, by kernel_rfl⟩
/-- impl.formatList -/
def c145 : LC :=
  (.seq (.rgn [] [LL 4 (.assign (.const (.string { data := #[] }))) 9])
 (.seq (.rgn [] [LL 5 (.assign (.const (.slice none 0 0))) 144])
 (.seq (.seq (.rgn [] [LL 8 (.move (.tmp 0)) 25,
 LL 9 (.call { callee := (.builtin .len), args := #[(.tmp 8)], argTypes := #[25] }) 3,
 LL 10 (.move (.const (.int .i64 0))) 3])
 (.blk 0
 (.loop []
 (.seq (.rgn [] [LL 11 (.binOp .lss 3 (.tmp 10) (.tmp 9) 3) 0])
 (.seq (.cond (.tmp 11)
 .skip
 (.exit 0))
 (.seq (.blk 1
 (.seq (.rgn [] [LL 12 (.indexAddr 25 (.tmp 8) (.tmp 10)) 0,
 LL 13 (.load 3 (.tmp 12)) 3,
 LL 7 (.assign (.tmp 13)) 3])
 (.rgn [14] [LL 14 (.move (.tmp 5)) 144,
 LL 15 (.move (.tmp 7)) 3,
 LL 16 (.call { callee := (.value (.func 187)), args := #[(.tmp 15)], argTypes := #[3] }) 9,
 LL 17 (.buildSlice 144 1 #[(0, (.tmp 16))]) 144,
 LL 18 (.call { callee := (.builtin .append), args := #[(.tmp 14), (.tmp 17)], argTypes := #[144, 144] }) 144,
 LL 5 (.assign (.tmp 18)) 144])))
 (.rgn [] [LL 19 (.binOp .add 3 (.tmp 10) (.const (.int .i64 1)) 3) 3,
 LL 10 (.move (.tmp 19)) 3])))))))
 (.seq (.rgn [] [LL 20 (.move (.tmp 5)) 144,
 LL 21 (.move (.tmp 1)) 9,
 LL 22 (.call { callee := (.value (.func 221)), args := #[(.tmp 20), (.tmp 21)], argTypes := #[144, 9] }) 9,
 LL 4 (.assign (.tmp 22)) 9])
 .ret))))
theorem lit145 : Lit Try.prog 145 23 [] [.tmp 4] c145 := ⟨⟨Try.f145, _, Try.func145, rfl, by kernel_rfl, rfl, rfl, by kernel_rfl, by kernel_rfl⟩, by decide, by kernel_rfl⟩
/-- impl.namesOf -/
def c147 : LC :=
  (.seq (.rgn [] [LL 2 (.assign (.const (.string { data := #[] }))) 9])
 (.seq (.rgn [] [LL 3 (.assign (.const (.string { data := #[] }))) 9])
 (.seq (.seq (.rgn [] [LL 6 (.move (.tmp 0)) 25,
 LL 7 (.call { callee := (.builtin .len), args := #[(.tmp 6)], argTypes := #[25] }) 3,
 LL 8 (.move (.const (.int .i64 0))) 3])
 (.blk 0
 (.loop []
 (.seq (.rgn [] [LL 9 (.binOp .lss 3 (.tmp 8) (.tmp 7) 3) 0])
 (.seq (.cond (.tmp 9)
 .skip
 (.exit 0))
 (.seq (.blk 1
 (.seq (.rgn [] [LL 10 (.indexAddr 25 (.tmp 6) (.tmp 8)) 0,
 LL 11 (.load 3 (.tmp 10)) 3,
 LL 5 (.assign (.tmp 11)) 3])
 (.rgn [] [LL 12 (.move (.tmp 3)) 9,
 LL 13 (.move (.tmp 5)) 3,
 LL 14 (.call { callee := (.value (.func 184)), args := #[(.tmp 13)], argTypes := #[3] }) 9,
 LL 15 (.binOp .add 9 (.tmp 12) (.tmp 14) 9) 9,
 LL 3 (.assign (.tmp 15)) 9])))
 (.rgn [] [LL 16 (.binOp .add 3 (.tmp 8) (.const (.int .i64 1)) 3) 3,
 LL 8 (.move (.tmp 16)) 3])))))))
 (.seq (.rgn [] [LL 17 (.move (.tmp 3)) 9,
 LL 2 (.assign (.tmp 17)) 9])
 .ret))))
theorem lit147 : Lit Try.prog 147 18 [] [.tmp 2] c147 := ⟨⟨Try.f147, _, Try.func147, rfl, by kernel_rfl, rfl, rfl, by kernel_rfl, by kernel_rfl⟩, by decide, by kernel_rfl⟩
/-- spec.VariableName -/
def c180 : LC :=
  (.seq (.rgn [] [LL 2 (.assign (.const (.string { data := #[] }))) 9])
 (.seq (.seq (.rgn [] [LL 3 (.move (.tmp 0)) 3,
 LL 4 (.call { callee := (.value (.func 86)), args := #[(.tmp 3), (.const (.int .i64 0)), (.const (.int .i64 4))], argTypes := #[3, 3, 3] }) 4,
 LL 5 (.unOp .not 4 (.tmp 4)) 4])
 (.cond (.tmp 5)
 (.seq (.rgn [] [LL 2 (.assign (.const (.string { data := #[] }))) 9])
 .ret)
 .skip))
 (.seq (.rgn [] [LL 6 (.move (.tmp 0)) 3,
 LL 7 (.move (.tmp 0)) 3,
 LL 8 (.binOp .add 3 (.tmp 7) (.const (.int .i64 1)) 3) 3,
 LL 9 (.slice 9 (.const (.string { data := #[88, 89, 90, 85, 86] })) (some (.tmp 6)) (some (.tmp 8)) none) 9,
 LL 2 (.assign (.tmp 9)) 9])
 .ret)))
theorem lit180 : Lit Try.prog 180 10 [] [.tmp 2] c180 := ⟨⟨Try.f180, _, Try.func180, rfl, by kernel_rfl, rfl, rfl, by kernel_rfl, by kernel_rfl⟩, by decide, by kernel_rfl⟩
/-- spec.ParseRational -/
def c181 : LC :=
  (.seq (.rgn [] [LL 2 (.alloc 215) 0,
 LL 3 (.assign (.const (.bool false))) 4])
 (.seq (.rgn [] [LL 4 (.assign (.const (.int .i64 0))) 3])
 (.seq (.blk 0
 (.loop []
 (.seq (.seq (.rgn [] [LL 6 (.move (.tmp 4)) 3,
 LL 7 (.move (.tmp 0)) 9,
 LL 8 (.call { callee := (.builtin .len), args := #[(.tmp 7)], argTypes := #[9] }) 3,
 LL 9 (.binOp .lss 3 (.tmp 6) (.tmp 8) 3) 4,
 LL 10 (.move (.tmp 9)) 4,
 ⟨some 11, (.move (.tmp 0)), 9, some (some 10, true)⟩,
 ⟨some 12, (.move (.tmp 4)), 3, some (some 10, true)⟩,
 ⟨some 13, (.index 9 (.tmp 11) (.tmp 12)), 5, some (some 10, true)⟩,
 ⟨some 14, (.binOp .neq 5 (.tmp 13) (.const (.int .u8 47)) 5), 4, some (some 10, true)⟩,
 LL 15 (.pick (.tmp 10) (.tmp 14) (.const (.bool false))) 4])
 (.cond (.tmp 15)
 .skip
 (.exit 0)))
 (.blk 1
 (.rgn [] [LL 16 (.move (.tmp 4)) 3,
 LL 17 (.binOp .add 3 (.tmp 16) (.const (.int .i64 1)) 3) 3,
 LL 4 (.assign (.tmp 17)) 3])))))
 (.seq (.rgn [] [LL 18 (.build 215 #[(1, (.const (.int .i64 1)))]) 215,
 LL 5 (.alloc 215) 0,
 ⟨none, (.store 215 (.tmp 5) (.tmp 18)), 0, none⟩])
 (.seq (.rgn [] [LL 19 (.move (.tmp 0)) 9,
 LL 20 (.move (.tmp 4)) 3,
 LL 21 (.slice 9 (.tmp 19) none (some (.tmp 20)) none) 9,
 LL 22 (.call { callee := (.value (.func 97)), args := #[(.tmp 21)], argTypes := #[9] }) 3,
 LL 23 (.fieldAddr 215 (.tmp 5) 0) 0,
 ⟨none, (.store 3 (.tmp 23) (.tmp 22)), 0, none⟩])
 (.seq (.seq (.rgn [] [LL 24 (.move (.tmp 4)) 3,
 LL 25 (.move (.tmp 0)) 9,
 LL 26 (.call { callee := (.builtin .len), args := #[(.tmp 25)], argTypes := #[9] }) 3,
 LL 27 (.binOp .lss 3 (.tmp 24) (.tmp 26) 3) 4])
 (.cond (.tmp 27)
 (.rgn [] [LL 28 (.move (.tmp 0)) 9,
 LL 29 (.move (.tmp 4)) 3,
 LL 30 (.binOp .add 3 (.tmp 29) (.const (.int .i64 1)) 3) 3,
 LL 31 (.slice 9 (.tmp 28) (some (.tmp 30)) none none) 9,
 LL 32 (.call { callee := (.value (.func 97)), args := #[(.tmp 31)], argTypes := #[9] }) 3,
 LL 33 (.fieldAddr 215 (.tmp 5) 1) 0,
 ⟨none, (.store 3 (.tmp 33) (.tmp 32)), 0, none⟩])
 .skip))
 (.seq (.seq (.rgn [] [LL 34 (.load 215 (.tmp 5)) 215,
 LL 35 (.call { callee := (.value (.func 239)), args := #[(.tmp 34)], argTypes := #[215] }) 9,
 LL 36 (.move (.tmp 0)) 9,
 LL 37 (.binOp .neq 9 (.tmp 35) (.tmp 36) 9) 4,
 LL 38 (.move (.tmp 37)) 4,
 ⟨some 39, (.move (.tmp 0)), 9, some (some 38, false)⟩,
 ⟨some 40, (.binOp .eql 9 (.tmp 39) (.const (.string { data := #[] })) 9), 4, some (some 38, false)⟩,
 LL 41 (.pick (.tmp 38) (.const (.bool true)) (.tmp 40)) 4])
 (.cond (.tmp 41)
 (.seq (.rgn [] [LL 42 (.build 215 #[]) 215,
 ⟨none, (.store 215 (.tmp 2) (.tmp 42)), 0, none⟩,
 LL 3 (.assign (.const (.bool false))) 4])
 .ret)
 .skip))
 (.seq (.rgn [] [LL 43 (.load 215 (.tmp 5)) 215,
 ⟨none, (.store 215 (.tmp 2) (.tmp 43)), 0, none⟩,
 LL 3 (.assign (.const (.bool true))) 4])
 .ret))))))))
theorem lit181 : Lit Try.prog 181 44 [2, 5] [.cell 2 215, .tmp 3] c181 := ⟨⟨Try.f181, _, Try.func181, rfl, by kernel_rfl, rfl, rfl, by kernel_rfl, by kernel_rfl⟩, by decide, by kernel_rfl⟩
/-- spec.FormatRationals -/
def c182 : LC :=
  (.seq (.rgn [] [LL 2 (.assign (.const (.string { data := #[] }))) 9])
 (.seq (.rgn [] [LL 3 (.assign (.const (.string { data := #[] }))) 9])
 (.seq (.seq (.rgn [] [LL 4 (.assign (.const (.int .i64 0))) 3])
 (.blk 0
 (.loop []
 (.seq (.seq (.rgn [] [LL 6 (.move (.tmp 4)) 3,
 LL 7 (.move (.tmp 0)) 57,
 LL 8 (.call { callee := (.builtin .len), args := #[(.tmp 7)], argTypes := #[57] }) 3,
 LL 9 (.binOp .lss 3 (.tmp 6) (.tmp 8) 3) 4])
 (.cond (.tmp 9)
 .skip
 (.exit 0)))
 (.seq (.blk 1
 (.seq (.rgn [] [LL 12 (.move (.tmp 0)) 57,
 LL 13 (.move (.tmp 4)) 3,
 LL 14 (.indexAddr 57 (.tmp 12) (.tmp 13)) 0,
 LL 15 (.load 215 (.tmp 14)) 215,
 LL 16 (.call { callee := (.value (.func 239)), args := #[(.tmp 15)], argTypes := #[215] }) 9,
 LL 5 (.assign (.tmp 16)) 9])
 (.seq (.seq (.rgn [] [LL 17 (.move (.tmp 5)) 9,
 LL 18 (.binOp .eql 9 (.tmp 17) (.const (.string { data := #[] })) 9) 4])
 (.cond (.tmp 18)
 (.seq (.rgn [] [LL 2 (.assign (.const (.string { data := #[] }))) 9])
 .ret)
 .skip))
 (.seq (.seq (.rgn [] [LL 19 (.move (.tmp 4)) 3,
 LL 20 (.binOp .gtr 3 (.tmp 19) (.const (.int .i64 0)) 3) 4])
 (.cond (.tmp 20)
 (.rgn [] [LL 21 (.move (.tmp 3)) 9,
 LL 22 (.binOp .add 9 (.tmp 21) (.const (.string { data := #[32] })) 9) 9,
 LL 3 (.assign (.tmp 22)) 9])
 .skip))
 (.rgn [] [LL 23 (.move (.tmp 3)) 9,
 LL 24 (.move (.tmp 5)) 9,
 LL 25 (.binOp .add 9 (.tmp 23) (.tmp 24) 9) 9,
 LL 3 (.assign (.tmp 25)) 9])))))
 (.rgn [] [LL 10 (.move (.tmp 4)) 3,
 LL 11 (.binOp .add 3 (.tmp 10) (.const (.int .i64 1)) 3) 3,
 LL 4 (.assign (.tmp 11)) 3]))))))
 (.seq (.rgn [] [LL 26 (.move (.tmp 3)) 9,
 LL 2 (.assign (.tmp 26)) 9])
 .ret))))
theorem lit182 : Lit Try.prog 182 27 [] [.tmp 2] c182 := ⟨⟨Try.f182, _, Try.func182, rfl, by kernel_rfl, rfl, rfl, by kernel_rfl, by kernel_rfl⟩, by decide, by kernel_rfl⟩
/-- spec.l2Dec -/
def c183 : LC :=
  (.seq (.rgn [] [LL 2 (.assign (.const (.string { data := #[] }))) 9])
 (.seq (.seq (.rgn [] [LL 3 (.move (.tmp 0)) 3,
 LL 4 (.binOp .leq 3 (.tmp 3) (.const (.int .i64 (-10))) 3) 4])
 (.cond (.tmp 4)
 (.seq (.rgn [] [LL 5 (.move (.tmp 0)) 3,
 LL 6 (.binOp .quo 3 (.tmp 5) (.const (.int .i64 10)) 3) 3,
 LL 7 (.unOp .neg 3 (.tmp 6)) 3,
 LL 8 (.call { callee := (.value (.func 183)), args := #[(.tmp 7)], argTypes := #[3] }) 9,
 LL 9 (.binOp .add 9 (.const (.string { data := #[45] })) (.tmp 8) 9) 9,
 LL 10 (.move (.tmp 0)) 3,
 LL 11 (.binOp .rem 3 (.tmp 10) (.const (.int .i64 10)) 3) 3,
 LL 12 (.unOp .neg 3 (.tmp 11)) 3,
 LL 13 (.call { callee := (.value (.func 183)), args := #[(.tmp 12)], argTypes := #[3] }) 9,
 LL 14 (.binOp .add 9 (.tmp 9) (.tmp 13) 9) 9,
 LL 2 (.assign (.tmp 14)) 9])
 .ret)
 .skip))
 (.seq (.seq (.rgn [] [LL 15 (.move (.tmp 0)) 3,
 LL 16 (.binOp .lss 3 (.tmp 15) (.const (.int .i64 0)) 3) 4])
 (.cond (.tmp 16)
 (.seq (.rgn [] [LL 17 (.move (.tmp 0)) 3,
 LL 18 (.unOp .neg 3 (.tmp 17)) 3,
 LL 19 (.call { callee := (.value (.func 183)), args := #[(.tmp 18)], argTypes := #[3] }) 9,
 LL 20 (.binOp .add 9 (.const (.string { data := #[45] })) (.tmp 19) 9) 9,
 LL 2 (.assign (.tmp 20)) 9])
 .ret)
 .skip))
 (.seq (.seq (.rgn [] [LL 21 (.move (.tmp 0)) 3,
 LL 22 (.binOp .lss 3 (.tmp 21) (.const (.int .i64 10)) 3) 4])
 (.cond (.tmp 22)
 (.seq (.rgn [] [LL 23 (.move (.tmp 0)) 3,
 LL 24 (.binOp .add 3 (.const (.int .i64 48)) (.tmp 23) 3) 3,
 LL 25 (.convert 3 5 (.tmp 24)) 5,
 LL 26 (.buildSlice 254 1 #[(0, (.tmp 25))]) 254,
 LL 27 (.convert 254 9 (.tmp 26)) 9,
 LL 2 (.assign (.tmp 27)) 9])
 .ret)
 .skip))
 (.seq (.drw [] [([0], [28]), ([28], [29]), ([29], [30]), ([0], [31]), ([31], [32]), ([32], [33]), ([33], [34]), ([34], [34, 35]), ([35], [36]), ([30, 36], [37]), ([37], [2, 37])] [[], [0], [1], [], [3], [4], [5], [6], [7], [2, 8], [9, 2, 0, 1, 2, 3, 4, 5, 6, 7, 8, 9]] [LL 28 (.move (.tmp 0)) 3,
 LL 29 (.binOp .quo 3 (.tmp 28) (.const (.int .i64 10)) 3) 3,
 LL 30 (.call { callee := (.value (.func 183)), args := #[(.tmp 29)], argTypes := #[3] }) 9,
 LL 31 (.move (.tmp 0)) 3,
 LL 32 (.binOp .rem 3 (.tmp 31) (.const (.int .i64 10)) 3) 3,
 LL 33 (.binOp .add 3 (.const (.int .i64 48)) (.tmp 32) 3) 3,
 LL 34 (.convert 3 5 (.tmp 33)) 5,
 LL 35 (.buildSlice 254 1 #[(0, (.tmp 34))]) 254,
 LL 36 (.convert 254 9 (.tmp 35)) 9,
 LL 37 (.binOp .add 9 (.tmp 30) (.tmp 36) 9) 9,
 LL 2 (.assign (.tmp 37)) 9])
 .ret)))))
theorem lit183 : Lit Try.prog 183 38 [] [.tmp 2] c183 := ⟨⟨Try.f183, _, Try.func183, rfl, by kernel_rfl, rfl, rfl, by kernel_rfl, by kernel_rfl⟩, by decide, by kernel_rfl⟩
/-- impl.VariableName -/
def c184 : LC :=
  (.seq (.rgn [] [LL 2 (.assign (.const (.string { data := #[] }))) 9])
 (.seq (.seq (.rgn [] [LL 3 (.move (.tmp 0)) 3,
 LL 4 (.call { callee := (.value (.func 90)), args := #[(.tmp 3), (.const (.int .i64 0)), (.const (.int .i64 4))], argTypes := #[3, 3, 3] }) 4,
 LL 5 (.unOp .not 4 (.tmp 4)) 4])
 (.cond (.tmp 5)
 (.seq (.rgn [] [LL 2 (.assign (.const (.string { data := #[] }))) 9])
 .ret)
 .skip))
 (.seq (.rgn [] [LL 6 (.move (.tmp 0)) 3,
 LL 7 (.move (.tmp 0)) 3,
 LL 8 (.binOp .add 3 (.tmp 7) (.const (.int .i64 1)) 3) 3,
 LL 9 (.slice 9 (.const (.string { data := #[88, 89, 90, 85, 86] })) (some (.tmp 6)) (some (.tmp 8)) none) 9,
 LL 2 (.assign (.tmp 9)) 9])
 .ret)))
theorem lit184 : Lit Try.prog 184 10 [] [.tmp 2] c184 := ⟨⟨Try.f184, _, Try.func184, rfl, by kernel_rfl, rfl, rfl, by kernel_rfl, by kernel_rfl⟩, by decide, by kernel_rfl⟩
/-- impl.ParseRational -/
def c185 : LC :=
  (.seq (.rgn [] [LL 2 (.alloc 215) 0,
 LL 3 (.assign (.const (.bool false))) 4])
 (.seq (.rgn [] [LL 8 (.move (.tmp 0)) 9,
 LL 9 (.call { callee := (.value (.func 100)), args := #[(.tmp 8), (.const (.int .u8 47))], argTypes := #[9, 5] }) 144,
 LL 4 (.assign (.tmp 9)) 144])
 (.seq (.rgn [] [LL 10 (.build 215 #[(1, (.const (.int .i64 1)))]) 215,
 LL 5 (.alloc 215) 0,
 ⟨none, (.store 215 (.tmp 5) (.tmp 10)), 0, none⟩])
 (.seq (.rgn [] [LL 12 (.move (.tmp 4)) 144,
 LL 13 (.indexAddr 144 (.tmp 12) (.const (.int .i64 0))) 0,
 LL 14 (.load 9 (.tmp 13)) 9,
 LL 15 (.call { callee := (.value (.func 240)), args := #[(.tmp 14)], argTypes := #[9] }) 116,
 LL 11 (.move (.tmp 15)) 116,
 LL 16 (.extract (.tmp 11) 0) 3,
 LL 17 (.extract (.tmp 11) 1) 4,
 LL 6 (.assign (.tmp 16)) 3,
 LL 7 (.assign (.tmp 17)) 4])
 (.seq (.rgn [] [LL 18 (.move (.tmp 6)) 3,
 LL 19 (.fieldAddr 215 (.tmp 5) 0) 0,
 ⟨none, (.store 3 (.tmp 19) (.tmp 18)), 0, none⟩])
 (.seq (.seq (.rgn [] [LL 20 (.move (.tmp 7)) 4,
 LL 21 (.move (.tmp 20)) 4,
 ⟨some 22, (.move (.tmp 4)), 144, some (some 21, true)⟩,
 ⟨some 23, (.call { callee := (.builtin .len), args := #[(.tmp 22)], argTypes := #[144] }), 3, some (some 21, true)⟩,
 ⟨some 24, (.binOp .eql 3 (.tmp 23) (.const (.int .i64 2)) 3), 4, some (some 21, true)⟩,
 LL 25 (.pick (.tmp 21) (.tmp 24) (.const (.bool false))) 4])
 (.cond (.tmp 25)
 (.rgn [] [LL 27 (.move (.tmp 4)) 144,
 LL 28 (.indexAddr 144 (.tmp 27) (.const (.int .i64 1))) 0,
 LL 29 (.load 9 (.tmp 28)) 9,
 LL 30 (.call { callee := (.value (.func 240)), args := #[(.tmp 29)], argTypes := #[9] }) 116,
 LL 26 (.move (.tmp 30)) 116,
 LL 31 (.extract (.tmp 26) 0) 3,
 LL 32 (.extract (.tmp 26) 1) 4,
 LL 33 (.fieldAddr 215 (.tmp 5) 1) 0,
 ⟨none, (.store 3 (.tmp 33) (.tmp 31)), 0, none⟩,
 LL 7 (.assign (.tmp 32)) 4])
 .skip))
 (.seq (.seq (.rgn [] [LL 34 (.move (.tmp 7)) 4,
 LL 35 (.unOp .not 4 (.tmp 34)) 4,
 LL 36 (.move (.tmp 35)) 4,
 ⟨some 37, (.move (.tmp 4)), 144, some (some 36, false)⟩,
 ⟨some 38, (.call { callee := (.builtin .len), args := #[(.tmp 37)], argTypes := #[144] }), 3, some (some 36, false)⟩,
 ⟨some 39, (.binOp .gtr 3 (.tmp 38) (.const (.int .i64 2)) 3), 4, some (some 36, false)⟩,
 LL 40 (.pick (.tmp 36) (.const (.bool true)) (.tmp 39)) 4,
 LL 41 (.move (.tmp 40)) 4,
 ⟨some 42, (.move (.tmp 0)), 9, some (some 41, false)⟩,
 ⟨some 43, (.binOp .eql 9 (.tmp 42) (.const (.string { data := #[] })) 9), 4, some (some 41, false)⟩,
 LL 44 (.pick (.tmp 41) (.const (.bool true)) (.tmp 43)) 4,
 LL 45 (.move (.tmp 44)) 4,
 ⟨some 46, (.load 215 (.tmp 5)), 215, some (some 45, false)⟩,
 ⟨some 47, (.call { callee := (.value (.func 241)), args := #[(.tmp 46)], argTypes := #[215] }), 9, some (some 45, false)⟩,
 ⟨some 48, (.move (.tmp 0)), 9, some (some 45, false)⟩,
 ⟨some 49, (.binOp .neq 9 (.tmp 47) (.tmp 48) 9), 4, some (some 45, false)⟩,
 LL 50 (.pick (.tmp 45) (.const (.bool true)) (.tmp 49)) 4])
 (.cond (.tmp 50)
 (.seq (.rgn [] [LL 51 (.build 215 #[]) 215,
 ⟨none, (.store 215 (.tmp 2) (.tmp 51)), 0, none⟩,
 LL 3 (.assign (.const (.bool false))) 4])
 .ret)
 .skip))
 (.seq (.rgn [] [LL 52 (.load 215 (.tmp 5)) 215,
 ⟨none, (.store 215 (.tmp 2) (.tmp 52)), 0, none⟩,
 LL 3 (.assign (.const (.bool true))) 4])
 .ret))))))))
theorem lit185 : Lit Try.prog 185 53 [2, 5] [.cell 2 215, .tmp 3] c185 := ⟨⟨Try.f185, _, Try.func185, rfl, by kernel_rfl, rfl, rfl, by kernel_rfl, by kernel_rfl⟩, by decide, by kernel_rfl⟩
/-- impl.FormatRationals -/
def c186 : LC :=
  (.seq (.rgn [] [LL 2 (.assign (.const (.string { data := #[] }))) 9])
 (.seq (.rgn [] [LL 3 (.assign (.const (.slice none 0 0))) 144])
 (.seq (.seq (.rgn [] [LL 7 (.move (.tmp 0)) 57,
 LL 8 (.call { callee := (.builtin .len), args := #[(.tmp 7)], argTypes := #[57] }) 3,
 LL 9 (.move (.const (.int .i64 0))) 3])
 (.blk 0
 (.loop [5]
 (.seq (.rgn [] [LL 10 (.binOp .lss 3 (.tmp 9) (.tmp 8) 3) 0])
 (.seq (.cond (.tmp 10)
 .skip
 (.exit 0))
 (.seq (.blk 1
 (.seq (.rgn [] [LL 11 (.indexAddr 57 (.tmp 7) (.tmp 9)) 0,
 LL 12 (.load 215 (.tmp 11)) 215,
 LL 5 (.alloc 215) 0,
 ⟨none, (.store 215 (.tmp 5) (.tmp 12)), 0, none⟩])
 (.seq (.rgn [] [LL 13 (.load 215 (.tmp 5)) 215,
 LL 14 (.call { callee := (.value (.func 241)), args := #[(.tmp 13)], argTypes := #[215] }) 9,
 LL 6 (.assign (.tmp 14)) 9])
 (.seq (.seq (.rgn [] [LL 15 (.move (.tmp 6)) 9,
 LL 16 (.binOp .eql 9 (.tmp 15) (.const (.string { data := #[] })) 9) 4])
 (.cond (.tmp 16)
 (.seq (.rgn [] [LL 2 (.assign (.const (.string { data := #[] }))) 9])
 .ret)
 .skip))
 (.rgn [17] [LL 17 (.move (.tmp 3)) 144,
 LL 18 (.move (.tmp 6)) 9,
 LL 19 (.buildSlice 144 1 #[(0, (.tmp 18))]) 144,
 LL 20 (.call { callee := (.builtin .append), args := #[(.tmp 17), (.tmp 19)], argTypes := #[144, 144] }) 144,
 LL 3 (.assign (.tmp 20)) 144])))))
 (.rgn [] [LL 21 (.binOp .add 3 (.tmp 9) (.const (.int .i64 1)) 3) 3,
 LL 9 (.move (.tmp 21)) 3])))))))
 (.seq (.rgn [] [LL 22 (.move (.tmp 3)) 144,
 LL 23 (.call { callee := (.value (.func 221)), args := #[(.tmp 22), (.const (.string { data := #[32] }))], argTypes := #[144, 9] }) 9,
 LL 2 (.assign (.tmp 23)) 9])
 .ret))))
theorem lit186 : Lit Try.prog 186 24 [5] [.tmp 2] c186 := ⟨⟨Try.f186, _, Try.func186, rfl, by kernel_rfl, rfl, rfl, by kernel_rfl, by kernel_rfl⟩, by decide, by kernel_rfl⟩
/-- impl.FormatInt -/
def c187 : LC :=
  (.seq (.rgn [] [LL 2 (.assign (.const (.string { data := #[] }))) 9])
 (.seq (.rgn [] [LL 3 (.assign (.const (.slice none 0 0))) 254])
 (.seq (.rgn [] [LL 6 (.move (.tmp 0)) 3,
 LL 7 (.binOp .lss 3 (.tmp 6) (.const (.int .i64 0)) 3) 4,
 LL 4 (.assign (.tmp 7)) 4])
 (.seq (.blk 0
 (.loop []
 (.blk 1
 (.seq (.rgn [] [LL 8 (.move (.tmp 0)) 3,
 LL 9 (.binOp .rem 3 (.tmp 8) (.const (.int .i64 10)) 3) 3,
 LL 5 (.assign (.tmp 9)) 3])
 (.seq (.seq (.rgn [] [LL 10 (.move (.tmp 5)) 3,
 LL 11 (.binOp .lss 3 (.tmp 10) (.const (.int .i64 0)) 3) 4])
 (.cond (.tmp 11)
 (.rgn [] [LL 12 (.move (.tmp 5)) 3,
 LL 13 (.unOp .neg 3 (.tmp 12)) 3,
 LL 5 (.assign (.tmp 13)) 3])
 .skip))
 (.seq (.rgn [18] [LL 14 (.move (.tmp 5)) 3,
 LL 15 (.binOp .add 3 (.const (.int .i64 48)) (.tmp 14) 3) 3,
 LL 16 (.convert 3 5 (.tmp 15)) 5,
 LL 17 (.buildSlice 254 1 #[(0, (.tmp 16))]) 254,
 LL 18 (.move (.tmp 3)) 254,
 LL 19 (.call { callee := (.builtin .append), args := #[(.tmp 17), (.tmp 18)], argTypes := #[254, 254] }) 254,
 LL 3 (.assign (.tmp 19)) 254])
 (.seq (.rgn [] [LL 20 (.move (.tmp 0)) 3,
 LL 21 (.binOp .quo 3 (.tmp 20) (.const (.int .i64 10)) 3) 3,
 LL 0 (.assign (.tmp 21)) 3])
 (.seq (.rgn [] [LL 22 (.move (.tmp 0)) 3,
 LL 23 (.binOp .eql 3 (.tmp 22) (.const (.int .i64 0)) 3) 4])
 (.cond (.tmp 23)
 (.exit 0)
 .skip)))))))))
 (.seq (.seq (.rgn [] [LL 24 (.move (.tmp 4)) 4])
 (.cond (.tmp 24)
 (.seq (.rgn [] [LL 25 (.move (.tmp 3)) 254,
 LL 26 (.convert 254 9 (.tmp 25)) 9,
 LL 27 (.binOp .add 9 (.const (.string { data := #[45] })) (.tmp 26) 9) 9,
 LL 2 (.assign (.tmp 27)) 9])
 .ret)
 .skip))
 (.seq (.rgn [] [LL 28 (.move (.tmp 3)) 254,
 LL 29 (.convert 254 9 (.tmp 28)) 9,
 LL 2 (.assign (.tmp 29)) 9])
 .ret))))))
theorem lit187 : Lit Try.prog 187 30 [] [.tmp 2] c187 := ⟨⟨Try.f187, _, Try.func187, rfl, by kernel_rfl, rfl, rfl, by kernel_rfl, by kernel_rfl⟩, by decide, by kernel_rfl⟩
/-- laws.eqRational -/
def c188 : LC :=
  (.seq (.rgn [] [LL 2 (.box 215 (.tmp 0)) 0,
 LL 3 (.box 215 (.tmp 1)) 0,
 LL 4 (.assign (.const (.bool false))) 4])
 (.seq (.seq (.rgn [] [LL 5 (.fieldAddr 215 (.tmp 2) 0) 0,
 LL 6 (.load 3 (.tmp 5)) 3,
 LL 7 (.fieldAddr 215 (.tmp 3) 0) 0,
 LL 8 (.load 3 (.tmp 7)) 3,
 LL 9 (.binOp .neq 3 (.tmp 6) (.tmp 8) 3) 4])
 (.cond (.tmp 9)
 (.seq (.rgn [] [LL 4 (.assign (.const (.bool false))) 4])
 .ret)
 .skip))
 (.seq (.seq (.rgn [] [LL 10 (.fieldAddr 215 (.tmp 2) 1) 0,
 LL 11 (.load 3 (.tmp 10)) 3,
 LL 12 (.fieldAddr 215 (.tmp 3) 1) 0,
 LL 13 (.load 3 (.tmp 12)) 3,
 LL 14 (.binOp .neq 3 (.tmp 11) (.tmp 13) 3) 4])
 (.cond (.tmp 14)
 (.seq (.rgn [] [LL 4 (.assign (.const (.bool false))) 4])
 .ret)
 .skip))
 (.seq (.rgn [] [LL 4 (.assign (.const (.bool true))) 4])
 .ret))))
theorem lit188 : Lit Try.prog 188 15 [2, 3] [.tmp 4] c188 := ⟨⟨Try.f188, _, Try.func188, rfl, by kernel_rfl, rfl, rfl, by kernel_rfl, by kernel_rfl⟩, by decide, by kernel_rfl⟩
/-- impl.join -/
def c221 : LC :=
  (.seq (.rgn [] [LL 4 (.assign (.const (.string { data := #[] }))) 9])
 (.seq (.rgn [] [LL 5 (.assign (.const (.string { data := #[] }))) 9])
 (.seq (.seq (.rgn [] [LL 8 (.move (.tmp 0)) 144,
 LL 9 (.call { callee := (.builtin .len), args := #[(.tmp 8)], argTypes := #[144] }) 3,
 LL 10 (.move (.const (.int .i64 0))) 3])
 (.blk 0
 (.loop []
 (.seq (.rgn [] [LL 11 (.binOp .lss 3 (.tmp 10) (.tmp 9) 3) 0])
 (.seq (.cond (.tmp 11)
 .skip
 (.exit 0))
 (.seq (.blk 1
 (.seq (.rgn [] [LL 12 (.move (.tmp 10)) 3,
 LL 13 (.indexAddr 144 (.tmp 8) (.tmp 10)) 0,
 LL 14 (.load 9 (.tmp 13)) 9,
 LL 6 (.assign (.tmp 12)) 3,
 LL 7 (.assign (.tmp 14)) 9])
 (.seq (.seq (.rgn [] [LL 15 (.move (.tmp 6)) 3,
 LL 16 (.binOp .gtr 3 (.tmp 15) (.const (.int .i64 0)) 3) 4])
 (.cond (.tmp 16)
 (.rgn [] [LL 17 (.move (.tmp 5)) 9,
 LL 18 (.move (.tmp 1)) 9,
 LL 19 (.binOp .add 9 (.tmp 17) (.tmp 18) 9) 9,
 LL 5 (.assign (.tmp 19)) 9])
 .skip))
 (.rgn [] [LL 20 (.move (.tmp 5)) 9,
 LL 21 (.move (.tmp 7)) 9,
 LL 22 (.binOp .add 9 (.tmp 20) (.tmp 21) 9) 9,
 LL 5 (.assign (.tmp 22)) 9]))))
 (.rgn [] [LL 23 (.binOp .add 3 (.tmp 10) (.const (.int .i64 1)) 3) 3,
 LL 10 (.move (.tmp 23)) 3])))))))
 (.seq (.rgn [] [LL 24 (.move (.tmp 5)) 9,
 LL 4 (.assign (.tmp 24)) 9])
 .ret))))
theorem lit221 : Lit Try.prog 221 25 [] [.tmp 4] c221 := ⟨⟨Try.f221, _, Try.func221, rfl, by kernel_rfl, rfl, rfl, by kernel_rfl, by kernel_rfl⟩, by decide, by kernel_rfl⟩
/-- spec.FormatRational -/
def c239 : LC :=
  (.seq (.rgn [] [LL 1 (.box 215 (.tmp 0)) 0,
 LL 2 (.assign (.const (.string { data := #[] }))) 9])
 (.seq (.seq (.rgn [] [LL 3 (.load 215 (.tmp 1)) 215,
 LL 4 (.call { callee := (.value (.func 256)), args := #[(.tmp 3)], argTypes := #[215] }) 4,
 LL 5 (.unOp .not 4 (.tmp 4)) 4])
 (.cond (.tmp 5)
 (.seq (.rgn [] [LL 2 (.assign (.const (.string { data := #[] }))) 9])
 .ret)
 .skip))
 (.seq (.seq (.rgn [] [LL 6 (.fieldAddr 215 (.tmp 1) 1) 0,
 LL 7 (.load 3 (.tmp 6)) 3,
 LL 8 (.binOp .eql 3 (.tmp 7) (.const (.int .i64 1)) 3) 4])
 (.cond (.tmp 8)
 (.seq (.rgn [] [LL 9 (.fieldAddr 215 (.tmp 1) 0) 0,
 LL 10 (.load 3 (.tmp 9)) 3,
 LL 11 (.call { callee := (.value (.func 183)), args := #[(.tmp 10)], argTypes := #[3] }) 9,
 LL 2 (.assign (.tmp 11)) 9])
 .ret)
 .skip))
 (.seq (.drw [] [([1], [12]), ([1, 12], [13]), ([13], [14]), ([14], [15]), ([1], [16]), ([1, 16], [17]), ([17], [18]), ([15, 18], [19]), ([19], [2, 19])] [[], [0], [1], [2], [], [4], [5, 2], [3, 6], [7, 6, 0, 1, 2, 3, 4, 5, 6, 7]] [LL 12 (.fieldAddr 215 (.tmp 1) 0) 0,
 LL 13 (.load 3 (.tmp 12)) 3,
 LL 14 (.call { callee := (.value (.func 183)), args := #[(.tmp 13)], argTypes := #[3] }) 9,
 LL 15 (.binOp .add 9 (.tmp 14) (.const (.string { data := #[47] })) 9) 9,
 LL 16 (.fieldAddr 215 (.tmp 1) 1) 0,
 LL 17 (.load 3 (.tmp 16)) 3,
 LL 18 (.call { callee := (.value (.func 183)), args := #[(.tmp 17)], argTypes := #[3] }) 9,
 LL 19 (.binOp .add 9 (.tmp 15) (.tmp 18) 9) 9,
 LL 2 (.assign (.tmp 19)) 9])
 .ret))))
theorem lit239 : Lit Try.prog 239 20 [1] [.tmp 2] c239 := ⟨⟨Try.f239, _, Try.func239, rfl, by kernel_rfl, rfl, rfl, by kernel_rfl, by kernel_rfl⟩, by decide, by kernel_rfl⟩
/-- impl.readLong -/
def c240 : LC :=
  (.seq (.rgn [] [LL 2 (.assign (.const (.int .i64 0))) 3,
 LL 3 (.assign (.const (.bool false))) 4])
 (.seq (.rgn [] [LL 8 (.move (.tmp 0)) 9,
 LL 4 (.assign (.tmp 8)) 9])
 (.seq (.rgn [] [LL 9 (.move (.tmp 0)) 9,
 LL 10 (.binOp .neq 9 (.tmp 9) (.const (.string { data := #[] })) 9) 4,
 LL 11 (.move (.tmp 10)) 4,
 ⟨some 12, (.move (.tmp 0)), 9, some (some 11, true)⟩,
 ⟨some 13, (.index 9 (.tmp 12) (.const (.int .i64 0))), 5, some (some 11, true)⟩,
 ⟨some 14, (.binOp .eql 5 (.tmp 13) (.const (.int .u8 45)) 5), 4, some (some 11, true)⟩,
 LL 15 (.pick (.tmp 11) (.tmp 14) (.const (.bool false))) 4,
 LL 5 (.assign (.tmp 15)) 4])
 (.seq (.seq (.rgn [] [LL 16 (.move (.tmp 5)) 4])
 (.cond (.tmp 16)
 (.rgn [] [LL 17 (.move (.tmp 0)) 9,
 LL 18 (.slice 9 (.tmp 17) (some (.const (.int .i64 1))) none none) 9,
 LL 4 (.assign (.tmp 18)) 9])
 .skip))
 (.seq (.seq (.rgn [] [LL 19 (.move (.tmp 4)) 9,
 LL 20 (.binOp .eql 9 (.tmp 19) (.const (.string { data := #[] })) 9) 4,
 LL 21 (.move (.tmp 20)) 4,
 ⟨some 22, (.move (.tmp 4)), 9, some (some 21, false)⟩,
 ⟨some 23, (.call { callee := (.builtin .len), args := #[(.tmp 22)], argTypes := #[9] }), 3, some (some 21, false)⟩,
 ⟨some 24, (.binOp .gtr 3 (.tmp 23) (.const (.int .i64 10)) 3), 4, some (some 21, false)⟩,
 LL 25 (.pick (.tmp 21) (.const (.bool true)) (.tmp 24)) 4])
 (.cond (.tmp 25)
 (.seq (.rgn [] [LL 2 (.assign (.const (.int .i64 0))) 3,
 LL 3 (.assign (.const (.bool false))) 4])
 .ret)
 .skip))
 (.seq (.rgn [] [LL 6 (.assign (.const (.int .i64 0))) 3])
 (.seq (.seq (.rgn [] [LL 7 (.assign (.const (.int .i64 0))) 3])
 (.blk 0
 (.loop []
 (.seq (.seq (.rgn [] [LL 26 (.move (.tmp 7)) 3,
 LL 27 (.move (.tmp 4)) 9,
 LL 28 (.call { callee := (.builtin .len), args := #[(.tmp 27)], argTypes := #[9] }) 3,
 LL 29 (.binOp .lss 3 (.tmp 26) (.tmp 28) 3) 4])
 (.cond (.tmp 29)
 .skip
 (.exit 0)))
 (.seq (.blk 1
 (.seq (.seq (.rgn [] [LL 32 (.move (.tmp 4)) 9,
 LL 33 (.move (.tmp 7)) 3,
 LL 34 (.index 9 (.tmp 32) (.tmp 33)) 5,
 LL 35 (.binOp .lss 5 (.tmp 34) (.const (.int .u8 48)) 5) 4,
 LL 36 (.move (.tmp 35)) 4,
 ⟨some 37, (.move (.tmp 4)), 9, some (some 36, false)⟩,
 ⟨some 38, (.move (.tmp 7)), 3, some (some 36, false)⟩,
 ⟨some 39, (.index 9 (.tmp 37) (.tmp 38)), 5, some (some 36, false)⟩,
 ⟨some 40, (.binOp .gtr 5 (.tmp 39) (.const (.int .u8 57)) 5), 4, some (some 36, false)⟩,
 LL 41 (.pick (.tmp 36) (.const (.bool true)) (.tmp 40)) 4])
 (.cond (.tmp 41)
 (.seq (.rgn [] [LL 2 (.assign (.const (.int .i64 0))) 3,
 LL 3 (.assign (.const (.bool false))) 4])
 .ret)
 .skip))
 (.rgn [] [LL 42 (.move (.tmp 6)) 3,
 LL 43 (.binOp .mul 3 (.const (.int .i64 10)) (.tmp 42) 3) 3,
 LL 44 (.move (.tmp 4)) 9,
 LL 45 (.move (.tmp 7)) 3,
 LL 46 (.index 9 (.tmp 44) (.tmp 45)) 5,
 LL 47 (.binOp .sub 5 (.tmp 46) (.const (.int .u8 48)) 5) 5,
 LL 48 (.convert 5 3 (.tmp 47)) 3,
 LL 49 (.binOp .add 3 (.tmp 43) (.tmp 48) 3) 3,
 LL 6 (.assign (.tmp 49)) 3])))
 (.rgn [] [LL 30 (.move (.tmp 7)) 3,
 LL 31 (.binOp .add 3 (.tmp 30) (.const (.int .i64 1)) 3) 3,
 LL 7 (.assign (.tmp 31)) 3]))))))
 (.seq (.seq (.rgn [] [LL 50 (.move (.tmp 5)) 4])
 (.cond (.tmp 50)
 (.rgn [] [LL 51 (.move (.tmp 6)) 3,
 LL 52 (.unOp .neg 3 (.tmp 51)) 3,
 LL 6 (.assign (.tmp 52)) 3])
 .skip))
 (.seq (.rgn [] [LL 53 (.move (.tmp 6)) 3,
 LL 2 (.assign (.tmp 53)) 3,
 LL 3 (.assign (.const (.bool true))) 4])
 .ret)))))))))
theorem lit240 : Lit Try.prog 240 54 [] [.tmp 2, .tmp 3] c240 := ⟨⟨Try.f240, _, Try.func240, rfl, by kernel_rfl, rfl, rfl, by kernel_rfl, by kernel_rfl⟩, by decide, by kernel_rfl⟩
/-- impl.FormatRational -/
def c241 : LC :=
  (.seq (.rgn [] [LL 1 (.box 215 (.tmp 0)) 0,
 LL 2 (.assign (.const (.string { data := #[] }))) 9])
 (.seq (.blk 0
 (.seq (.rgn [] [LL 4 (.load 215 (.tmp 1)) 215,
 LL 5 (.call { callee := (.value (.func 257)), args := #[(.tmp 4)], argTypes := #[215] }) 4,
 LL 6 (.unOp .not 4 (.tmp 5)) 4,
 LL 3 (.assign (.tmp 6)) 4])
 (.cond (.tmp 3)
 (.seq (.rgn [] [LL 2 (.assign (.const (.string { data := #[] }))) 9])
 .ret)
 (.seq (.rgn [] [LL 8 (.fieldAddr 215 (.tmp 1) 1) 0,
 LL 9 (.load 3 (.tmp 8)) 3,
 LL 10 (.binOp .eql 3 (.tmp 9) (.const (.int .i64 1)) 3) 4,
 LL 7 (.assign (.tmp 10)) 4])
 (.cond (.tmp 7)
 (.seq (.rgn [] [LL 11 (.fieldAddr 215 (.tmp 1) 0) 0,
 LL 12 (.load 3 (.tmp 11)) 3,
 LL 13 (.call { callee := (.value (.func 187)), args := #[(.tmp 12)], argTypes := #[3] }) 9,
 LL 2 (.assign (.tmp 13)) 9])
 .ret)
 .skip)))))
 (.seq (.drw [] [([1], [14]), ([1, 14], [15]), ([15], [16]), ([16], [17]), ([1], [18]), ([1, 18], [19]), ([19], [20]), ([17, 20], [21]), ([21], [2, 21])] [[], [0], [1], [2], [], [4], [5, 2], [3, 6], [7, 6, 0, 1, 2, 3, 4, 5, 6, 7]] [LL 14 (.fieldAddr 215 (.tmp 1) 0) 0,
 LL 15 (.load 3 (.tmp 14)) 3,
 LL 16 (.call { callee := (.value (.func 187)), args := #[(.tmp 15)], argTypes := #[3] }) 9,
 LL 17 (.binOp .add 9 (.tmp 16) (.const (.string { data := #[47] })) 9) 9,
 LL 18 (.fieldAddr 215 (.tmp 1) 1) 0,
 LL 19 (.load 3 (.tmp 18)) 3,
 LL 20 (.call { callee := (.value (.func 187)), args := #[(.tmp 19)], argTypes := #[3] }) 9,
 LL 21 (.binOp .add 9 (.tmp 17) (.tmp 20) 9) 9,
 LL 2 (.assign (.tmp 21)) 9])
 .ret)))
theorem lit241 : Lit Try.prog 241 22 [1] [.tmp 2] c241 := ⟨⟨Try.f241, _, Try.func241, rfl, by kernel_rfl, rfl, rfl, by kernel_rfl, by kernel_rfl⟩, by decide, by kernel_rfl⟩
/-- spec.IsValidRational -/
def c256 : LC :=
  (.seq (.rgn [] [LL 1 (.box 215 (.tmp 0)) 0,
 LL 2 (.assign (.const (.bool false))) 4])
 (.seq (.rgn [] [LL 3 (.fieldAddr 215 (.tmp 1) 1) 0,
 LL 4 (.load 3 (.tmp 3)) 3,
 LL 5 (.call { callee := (.value (.func 86)), args := #[(.tmp 4), (.const (.int .i64 1)), (.const (.int .i64 1000000000))], argTypes := #[3, 3, 3] }) 4,
 LL 6 (.move (.tmp 5)) 4,
 ⟨some 7, (.fieldAddr 215 (.tmp 1) 0), 0, some (some 6, true)⟩,
 ⟨some 8, (.load 3 (.tmp 7)), 3, some (some 6, true)⟩,
 ⟨some 9, (.call { callee := (.value (.func 86)), args := #[(.tmp 8), (.const (.int .i64 (-1000000000))), (.const (.int .i64 1000000000))], argTypes := #[3, 3, 3] }), 4, some (some 6, true)⟩,
 LL 10 (.pick (.tmp 6) (.tmp 9) (.const (.bool false))) 4,
 LL 11 (.move (.tmp 10)) 4,
 ⟨some 12, (.fieldAddr 215 (.tmp 1) 0), 0, some (some 11, true)⟩,
 ⟨some 13, (.load 3 (.tmp 12)), 3, some (some 11, true)⟩,
 ⟨some 14, (.fieldAddr 215 (.tmp 1) 0), 0, some (some 11, true)⟩,
 ⟨some 15, (.load 3 (.tmp 14)), 3, some (some 11, true)⟩,
 ⟨some 16, (.unOp .neg 3 (.tmp 15)), 3, some (some 11, true)⟩,
 ⟨some 17, (.call { callee := (.builtin .max), args := #[(.tmp 13), (.tmp 16)], argTypes := #[3, 3] }), 3, some (some 11, true)⟩,
 ⟨some 18, (.fieldAddr 215 (.tmp 1) 1), 0, some (some 11, true)⟩,
 ⟨some 19, (.load 3 (.tmp 18)), 3, some (some 11, true)⟩,
 ⟨some 20, (.call { callee := (.value (.func 263)), args := #[(.tmp 17), (.tmp 19)], argTypes := #[3, 3] }), 3, some (some 11, true)⟩,
 ⟨some 21, (.binOp .eql 3 (.tmp 20) (.const (.int .i64 1)) 3), 4, some (some 11, true)⟩,
 LL 22 (.pick (.tmp 11) (.tmp 21) (.const (.bool false))) 4,
 LL 2 (.assign (.tmp 22)) 4])
 .ret))
theorem lit256 : Lit Try.prog 256 23 [1] [.tmp 2] c256 := ⟨⟨Try.f256, _, Try.func256, rfl, by kernel_rfl, rfl, rfl, by kernel_rfl, by kernel_rfl⟩, by decide, by kernel_rfl⟩
/-- impl.IsValidRational -/
def c257 : LC :=
  (.seq (.rgn [] [LL 1 (.box 215 (.tmp 0)) 0,
 LL 2 (.assign (.const (.bool false))) 4])
 (.seq (.drw [] [([1], [3]), ([1, 3], [4]), ([4], [5]), ([5], [6]), ([1, 6], [7]), ([1, 6, 7], [8]), ([6, 8], [9]), ([6, 9], [10]), ([10], [11]), ([1, 11], [12]), ([1, 11, 12], [13]), ([11, 13], [14]), ([1, 11], [15]), ([1, 11, 15], [16]), ([11, 14, 16], [17]), ([11, 17], [18]), ([11, 18], [19]), ([19], [2, 19])] [[], [0], [1], [2, 2], [3], [4, 3], [5, 3, 3], [3, 6], [7, 6], [8], [9, 8], [10, 8, 8], [8], [12, 8], [11, 13, 11, 8], [14, 8], [8, 15], [16, 14, 0, 1, 2, 3, 4, 5, 6, 7, 8, 9, 10, 11, 12, 13, 14, 15, 16]] [LL 3 (.fieldAddr 215 (.tmp 1) 1) 0,
 LL 4 (.load 3 (.tmp 3)) 3,
 LL 5 (.call { callee := (.value (.func 90)), args := #[(.tmp 4), (.const (.int .i64 1)), (.const (.int .i64 1000000000))], argTypes := #[3, 3, 3] }) 4,
 LL 6 (.move (.tmp 5)) 4,
 ⟨some 7, (.fieldAddr 215 (.tmp 1) 0), 0, some (some 6, true)⟩,
 ⟨some 8, (.load 3 (.tmp 7)), 3, some (some 6, true)⟩,
 ⟨some 9, (.call { callee := (.value (.func 90)), args := #[(.tmp 8), (.const (.int .i64 (-1000000000))), (.const (.int .i64 1000000000))], argTypes := #[3, 3, 3] }), 4, some (some 6, true)⟩,
 LL 10 (.pick (.tmp 6) (.tmp 9) (.const (.bool false))) 4,
 LL 11 (.move (.tmp 10)) 4,
 ⟨some 12, (.fieldAddr 215 (.tmp 1) 0), 0, some (some 11, true)⟩,
 ⟨some 13, (.load 3 (.tmp 12)), 3, some (some 11, true)⟩,
 ⟨some 14, (.call { callee := (.value (.func 265)), args := #[(.tmp 13)], argTypes := #[3] }), 3, some (some 11, true)⟩,
 ⟨some 15, (.fieldAddr 215 (.tmp 1) 1), 0, some (some 11, true)⟩,
 ⟨some 16, (.load 3 (.tmp 15)), 3, some (some 11, true)⟩,
 ⟨some 17, (.call { callee := (.value (.func 264)), args := #[(.tmp 14), (.tmp 16)], argTypes := #[3, 3] }), 3, some (some 11, true)⟩,
 ⟨some 18, (.binOp .eql 3 (.tmp 17) (.const (.int .i64 1)) 3), 4, some (some 11, true)⟩,
 LL 19 (.pick (.tmp 11) (.tmp 18) (.const (.bool false))) 4,
 LL 2 (.assign (.tmp 19)) 4])
 .ret))
theorem lit257 : Lit Try.prog 257 20 [1] [.tmp 2] c257 := ⟨⟨Try.f257, _, Try.func257, rfl, by kernel_rfl, rfl, rfl, by kernel_rfl, by kernel_rfl⟩, by decide, by kernel_rfl⟩
/-- spec.l2Gcd -/
def c263 : LC :=
  (.seq (.rgn [] [LL 4 (.assign (.const (.int .i64 0))) 3])
 (.seq (.blk 0
 (.loop []
 (.seq (.seq (.rgn [] [LL 6 (.move (.tmp 1)) 3,
 LL 7 (.binOp .neq 3 (.tmp 6) (.const (.int .i64 0)) 3) 4])
 (.cond (.tmp 7)
 .skip
 (.exit 0)))
 (.blk 1
 (.seq (.rgn [] [LL 8 (.move (.tmp 0)) 3,
 LL 9 (.move (.tmp 1)) 3,
 LL 10 (.binOp .rem 3 (.tmp 8) (.tmp 9) 3) 3,
 LL 5 (.assign (.tmp 10)) 3])
 (.seq (.rgn [] [LL 11 (.move (.tmp 1)) 3,
 LL 0 (.assign (.tmp 11)) 3])
 (.rgn [] [LL 12 (.move (.tmp 5)) 3,
 LL 1 (.assign (.tmp 12)) 3])))))))
 (.seq (.rgn [] [LL 13 (.move (.tmp 0)) 3,
 LL 4 (.assign (.tmp 13)) 3])
 .ret)))
theorem lit263 : Lit Try.prog 263 14 [] [.tmp 4] c263 := ⟨⟨Try.f263, _, Try.func263, rfl, by kernel_rfl, rfl, rfl, by kernel_rfl, by kernel_rfl⟩, by decide, by kernel_rfl⟩
/-- impl.gcd -/
def c264 : LC :=
  (.seq (.rgn [] [LL 4 (.assign (.const (.int .i64 0))) 3])
 (.seq (.blk 0
 (.loop []
 (.seq (.seq (.rgn [] [LL 5 (.move (.tmp 1)) 3,
 LL 6 (.binOp .neq 3 (.tmp 5) (.const (.int .i64 0)) 3) 4])
 (.cond (.tmp 6)
 .skip
 (.exit 0)))
 (.blk 1
 (.drw [] [([1], [7]), ([0], [8]), ([1], [9]), ([8, 9], [10]), ([7], [0, 7]), ([10], [1, 10])] [[], [], [], [1, 2], [0, 0, 1], [3, 4, 0, 1, 2, 3, 4]] [LL 7 (.move (.tmp 1)) 3,
 LL 8 (.move (.tmp 0)) 3,
 LL 9 (.move (.tmp 1)) 3,
 LL 10 (.binOp .rem 3 (.tmp 8) (.tmp 9) 3) 3,
 LL 0 (.assign (.tmp 7)) 3,
 LL 1 (.assign (.tmp 10)) 3])))))
 (.seq (.rgn [] [LL 11 (.move (.tmp 0)) 3,
 LL 4 (.assign (.tmp 11)) 3])
 .ret)))
theorem lit264 : Lit Try.prog 264 12 [] [.tmp 4] c264 := ⟨⟨Try.f264, _, Try.func264, rfl, by kernel_rfl, rfl, rfl, by kernel_rfl, by kernel_rfl⟩, by decide, by kernel_rfl⟩
/-- impl.abs -/
def c265 : LC :=
  (.seq (.rgn [] [LL 2 (.assign (.const (.int .i64 0))) 3])
 (.seq (.rgn [] [LL 3 (.move (.tmp 0)) 3,
 LL 4 (.move (.tmp 0)) 3,
 LL 5 (.unOp .neg 3 (.tmp 4)) 3,
 LL 6 (.call { callee := (.builtin .max), args := #[(.tmp 3), (.tmp 5)], argTypes := #[3, 3] }) 3,
 LL 2 (.assign (.tmp 6)) 3])
 .ret))
theorem lit265 : Lit Try.prog 265 7 [] [.tmp 2] c265 := ⟨⟨Try.f265, _, Try.func265, rfl, by kernel_rfl, rfl, rfl, by kernel_rfl, by kernel_rfl⟩, by decide, by kernel_rfl⟩
end Go.Proofs.Ytkcfahfladikkaa
