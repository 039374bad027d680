/-
  The functions' code as the program holds it, without places and edges; printed by genlit.py. No conditions.
-/
import Derived.Test.YtkcfahfladikkaaTb
namespace Go.Proofs.Ytkcfahfladikkaa
open Go.RowKit
set_option linter.unusedVariables false
set_option maxRecDepth 100000
/-- laws.szDatabase -/
def c13 : LC :=
  (.seq (.rgn [] [LL 2 (.box 24 (.tmp 0)) 0,
 LL 4 (.assign (.const (.int .i64 0))) 3])
 (.seq (.rgn [] [LL 5 (.fieldAddr 24 (.tmp 2) 0) 0,
 LL 6 (.load 22 (.tmp 5)) 22,
 LL 7 (.move (.tmp 1)) 3,
 LL 8 (.call { callee := (.value (.func 71)), args := #[(.tmp 6), (.tmp 7)], argTypes := #[22, 3] }) 3,
 LL 1 (.assign (.tmp 8)) 3])
 (.seq (.seq (.rgn [] [LL 9 (.move (.tmp 1)) 3,
 LL 10 (.binOp .lss 3 (.tmp 9) (.const (.int .i64 0)) 3) 4])
 (.cond (.tmp 10)
 (.seq (.rgn [] [LL 4 (.assign (.const (.int .i64 (-1)))) 3])
 .ret)
 .skip))
 (.seq (.rgn [] [LL 11 (.move (.tmp 1)) 3,
 LL 4 (.assign (.tmp 11)) 3])
 .ret))))
theorem lit13 : Lit Try.prog 13 12 [2] [.tmp 4] c13 := ⟨⟨Try.f13, _, Try.func13, rfl, by kernel_rfl, rfl, rfl, by kernel_rfl, by kernel_rfl⟩, by decide, by kernel_rfl⟩
/-- laws.toDatabase -/
def c16 : LC :=
  (.seq (.rgn [] [LL 1 (.box 24 (.tmp 0)) 0,
 LL 2 (.alloc 33) 0])
 (.seq (.rgn [] [LL 3 (.alloc 33) 0])
 (.seq (.rgn [] [LL 4 (.fieldAddr 24 (.tmp 1) 0) 0,
 LL 5 (.load 22 (.tmp 4)) 22,
 LL 6 (.call { callee := (.value (.func 77)), args := #[(.tmp 5)], argTypes := #[22] }) 31,
 LL 7 (.fieldAddr 33 (.tmp 3) 0) 0,
 ⟨none, (.store 31 (.tmp 7) (.tmp 6)), 0, none⟩])
 (.seq (.rgn [8] [LL 8 (.load 33 (.tmp 3)) 33,
 ⟨none, (.store 33 (.tmp 2) (.tmp 8)), 0, none⟩])
 .ret))))
theorem lit16 : Lit Try.prog 16 9 [1, 2, 3] [.cell 2 33] c16 := ⟨⟨Try.f16, _, Try.func16, rfl, by kernel_rfl, rfl, rfl, by kernel_rfl, by kernel_rfl⟩, by decide, by kernel_rfl⟩
/-- laws.eqIntS -/
def c19 : LC :=
  (.seq (.rgn [] [LL 4 (.assign (.const (.bool false))) 4])
 (.seq (.seq (.rgn [] [LL 6 (.move (.tmp 0)) 25,
 LL 7 (.call { callee := (.builtin .len), args := #[(.tmp 6)], argTypes := #[25] }) 3,
 LL 8 (.move (.tmp 1)) 25,
 LL 9 (.call { callee := (.builtin .len), args := #[(.tmp 8)], argTypes := #[25] }) 3,
 LL 10 (.binOp .neq 3 (.tmp 7) (.tmp 9) 3) 4])
 (.cond (.tmp 10)
 (.seq (.rgn [] [LL 4 (.assign (.const (.bool false))) 4])
 .ret)
 .skip))
 (.seq (.seq (.rgn [] [LL 5 (.assign (.const (.int .i64 0))) 3])
 (.blk 0
 (.loop []
 (.seq (.seq (.rgn [] [LL 11 (.move (.tmp 5)) 3,
 LL 12 (.move (.tmp 0)) 25,
 LL 13 (.call { callee := (.builtin .len), args := #[(.tmp 12)], argTypes := #[25] }) 3,
 LL 14 (.binOp .lss 3 (.tmp 11) (.tmp 13) 3) 4])
 (.cond (.tmp 14)
 .skip
 (.exit 0)))
 (.seq (.blk 1
 (.seq (.drw [] [([0], [17]), ([5], [18]), ([17, 18], [19]), ([19], [20]), ([1], [21]), ([5], [22]), ([21, 22], [23]), ([23], [24]), ([20, 24], [25])] [[], [], [0, 1], [2], [], [], [4, 5], [6], [3, 7]] [LL 17 (.move (.tmp 0)) 25,
 LL 18 (.move (.tmp 5)) 3,
 LL 19 (.indexAddr 25 (.tmp 17) (.tmp 18)) 0,
 LL 20 (.load 3 (.tmp 19)) 3,
 LL 21 (.move (.tmp 1)) 25,
 LL 22 (.move (.tmp 5)) 3,
 LL 23 (.indexAddr 25 (.tmp 21) (.tmp 22)) 0,
 LL 24 (.load 3 (.tmp 23)) 3,
 LL 25 (.binOp .neq 3 (.tmp 20) (.tmp 24) 3) 4])
 (.cond (.tmp 25)
 (.seq (.rgn [] [LL 4 (.assign (.const (.bool false))) 4])
 .ret)
 .skip)))
 (.rgn [] [LL 15 (.move (.tmp 5)) 3,
 LL 16 (.binOp .add 3 (.tmp 15) (.const (.int .i64 1)) 3) 3,
 LL 5 (.assign (.tmp 16)) 3]))))))
 (.seq (.rgn [] [LL 4 (.assign (.const (.bool true))) 4])
 .ret))))
theorem lit19 : Lit Try.prog 19 26 [] [.tmp 4] c19 := ⟨⟨Try.f19, _, Try.func19, rfl, by kernel_rfl, rfl, rfl, by kernel_rfl, by kernel_rfl⟩, by decide, by kernel_rfl⟩
/-- laws.eqDatabase -/
def c20 : LC :=
  (.seq (.rgn [] [LL 2 (.box 33 (.tmp 0)) 0,
 LL 3 (.box 33 (.tmp 1)) 0,
 LL 4 (.assign (.const (.bool false))) 4])
 (.seq (.seq (.rgn [] [LL 5 (.fieldAddr 33 (.tmp 2) 0) 0,
 LL 6 (.load 31 (.tmp 5)) 31,
 LL 7 (.fieldAddr 33 (.tmp 3) 0) 0,
 LL 8 (.load 31 (.tmp 7)) 31,
 LL 9 (.call { callee := (.value (.func 82)), args := #[(.tmp 6), (.tmp 8)], argTypes := #[31, 31] }) 4,
 LL 10 (.unOp .not 4 (.tmp 9)) 4])
 (.cond (.tmp 10)
 (.seq (.rgn [] [LL 4 (.assign (.const (.bool false))) 4])
 .ret)
 .skip))
 (.seq (.rgn [] [LL 4 (.assign (.const (.bool true))) 4])
 .ret)))
theorem lit20 : Lit Try.prog 20 11 [2, 3] [.tmp 4] c20 := ⟨⟨Try.f20, _, Try.func20, rfl, by kernel_rfl, rfl, rfl, by kernel_rfl, by kernel_rfl⟩, by decide, by kernel_rfl⟩
/-- laws.szNotifier -/
def c38 : LC :=
  (.seq (.rgn [] [LL 2 (.box 68 (.tmp 0)) 0,
 LL 4 (.assign (.const (.int .i64 0))) 3])
 (.seq (.rgn [] [LL 5 (.fieldAddr 68 (.tmp 2) 0) 0,
 LL 6 (.load 24 (.tmp 5)) 24,
 LL 7 (.move (.tmp 1)) 3,
 LL 8 (.call { callee := (.value (.func 13)), args := #[(.tmp 6), (.tmp 7)], argTypes := #[24, 3] }) 3,
 LL 1 (.assign (.tmp 8)) 3])
 (.seq (.seq (.rgn [] [LL 9 (.move (.tmp 1)) 3,
 LL 10 (.binOp .lss 3 (.tmp 9) (.const (.int .i64 0)) 3) 4])
 (.cond (.tmp 10)
 (.seq (.rgn [] [LL 4 (.assign (.const (.int .i64 (-1)))) 3])
 .ret)
 .skip))
 (.seq (.rgn [] [LL 11 (.fieldAddr 68 (.tmp 2) 1) 0,
 LL 12 (.load 65 (.tmp 11)) 65,
 LL 13 (.move (.tmp 1)) 3,
 LL 14 (.call { callee := (.value (.func 108)), args := #[(.tmp 12), (.tmp 13)], argTypes := #[65, 3] }) 3,
 LL 1 (.assign (.tmp 14)) 3])
 (.seq (.seq (.rgn [] [LL 15 (.move (.tmp 1)) 3,
 LL 16 (.binOp .lss 3 (.tmp 15) (.const (.int .i64 0)) 3) 4])
 (.cond (.tmp 16)
 (.seq (.rgn [] [LL 4 (.assign (.const (.int .i64 (-1)))) 3])
 .ret)
 .skip))
 (.seq (.rgn [] [LL 17 (.fieldAddr 68 (.tmp 2) 2) 0,
 LL 18 (.load 66 (.tmp 17)) 66,
 LL 19 (.move (.tmp 1)) 3,
 LL 20 (.call { callee := (.value (.func 109)), args := #[(.tmp 18), (.tmp 19)], argTypes := #[66, 3] }) 3,
 LL 1 (.assign (.tmp 20)) 3])
 (.seq (.seq (.rgn [] [LL 21 (.move (.tmp 1)) 3,
 LL 22 (.binOp .lss 3 (.tmp 21) (.const (.int .i64 0)) 3) 4])
 (.cond (.tmp 22)
 (.seq (.rgn [] [LL 4 (.assign (.const (.int .i64 (-1)))) 3])
 .ret)
 .skip))
 (.seq (.rgn [] [LL 23 (.move (.tmp 1)) 3,
 LL 4 (.assign (.tmp 23)) 3])
 .ret))))))))
theorem lit38 : Lit Try.prog 38 24 [2] [.tmp 4] c38 := ⟨⟨Try.f38, _, Try.func38, rfl, by kernel_rfl, rfl, rfl, by kernel_rfl, by kernel_rfl⟩, by decide, by kernel_rfl⟩
/-- spec.EqualNotifiers -/
def c39 : LC :=
  (.seq (.rgn [] [LL 2 (.box 74 (.tmp 0)) 0,
 LL 3 (.box 74 (.tmp 1)) 0,
 LL 4 (.assign (.const (.bool false))) 4])
 (.seq (.seq (.rgn [] [LL 7 (.fieldAddr 74 (.tmp 2) 0) 0,
 LL 8 (.load 33 (.tmp 7)) 33,
 LL 9 (.fieldAddr 74 (.tmp 3) 0) 0,
 LL 10 (.load 33 (.tmp 9)) 33,
 LL 11 (.call { callee := (.value (.func 110)), args := #[(.tmp 8), (.tmp 10)], argTypes := #[33, 33] }) 4,
 LL 12 (.unOp .not 4 (.tmp 11)) 4,
 LL 13 (.move (.tmp 12)) 4,
 ⟨some 14, (.fieldAddr 74 (.tmp 2) 1), 0, some (some 13, false)⟩,
 ⟨some 15, (.load 71 (.tmp 14)), 71, some (some 13, false)⟩,
 ⟨some 16, (.call { callee := (.builtin .len), args := #[(.tmp 15)], argTypes := #[71] }), 3, some (some 13, false)⟩,
 ⟨some 17, (.fieldAddr 74 (.tmp 3) 1), 0, some (some 13, false)⟩,
 ⟨some 18, (.load 71 (.tmp 17)), 71, some (some 13, false)⟩,
 ⟨some 19, (.call { callee := (.builtin .len), args := #[(.tmp 18)], argTypes := #[71] }), 3, some (some 13, false)⟩,
 ⟨some 20, (.binOp .neq 3 (.tmp 16) (.tmp 19) 3), 4, some (some 13, false)⟩,
 LL 21 (.pick (.tmp 13) (.const (.bool true)) (.tmp 20)) 4,
 LL 22 (.move (.tmp 21)) 4,
 ⟨some 23, (.fieldAddr 74 (.tmp 2) 2), 0, some (some 22, false)⟩,
 ⟨some 24, (.load 72 (.tmp 23)), 72, some (some 22, false)⟩,
 ⟨some 25, (.call { callee := (.builtin .len), args := #[(.tmp 24)], argTypes := #[72] }), 3, some (some 22, false)⟩,
 ⟨some 26, (.fieldAddr 74 (.tmp 3) 2), 0, some (some 22, false)⟩,
 ⟨some 27, (.load 72 (.tmp 26)), 72, some (some 22, false)⟩,
 ⟨some 28, (.call { callee := (.builtin .len), args := #[(.tmp 27)], argTypes := #[72] }), 3, some (some 22, false)⟩,
 ⟨some 29, (.binOp .neq 3 (.tmp 25) (.tmp 28) 3), 4, some (some 22, false)⟩,
 LL 30 (.pick (.tmp 22) (.const (.bool true)) (.tmp 29)) 4])
 (.cond (.tmp 30)
 (.seq (.rgn [] [LL 4 (.assign (.const (.bool false))) 4])
 .ret)
 .skip))
 (.seq (.seq (.rgn [] [LL 5 (.assign (.const (.int .i64 0))) 3])
 (.blk 0
 (.loop []
 (.seq (.seq (.rgn [] [LL 31 (.move (.tmp 5)) 3,
 LL 32 (.fieldAddr 74 (.tmp 2) 1) 0,
 LL 33 (.load 71 (.tmp 32)) 71,
 LL 34 (.call { callee := (.builtin .len), args := #[(.tmp 33)], argTypes := #[71] }) 3,
 LL 35 (.binOp .lss 3 (.tmp 31) (.tmp 34) 3) 4])
 (.cond (.tmp 35)
 .skip
 (.exit 0)))
 (.seq (.blk 1
 (.seq (.drw [] [([2], [38]), ([2, 38], [39]), ([5], [40]), ([39, 40], [41]), ([41], [42]), ([42], [43]), ([3], [44]), ([3, 44], [45]), ([5], [46]), ([45, 46], [47]), ([47], [48]), ([48], [49]), ([43, 49], [50]), ([50], [51]), ([51], [52]), ([2, 52], [53]), ([2, 52, 53], [54]), ([5, 52], [55]), ([52, 54, 55], [56]), ([52, 56], [57]), ([52, 57], [58]), ([3, 52], [59]), ([3, 52, 59], [60]), ([5, 52], [61]), ([52, 60, 61], [62]), ([52, 62], [63]), ([52, 63], [64]), ([52, 58, 64], [65]), ([52, 65], [66]), ([52, 66], [67])] [[], [0], [], [1, 2], [3], [4], [], [6], [], [7, 8], [9], [10], [5, 11], [12], [13, 12], [14], [15, 14], [14], [16, 17, 14], [18, 14], [19, 14], [14], [21, 14], [14], [22, 23, 14], [24, 14], [25, 14], [20, 26, 14, 14], [27, 14], [14, 28]] [LL 38 (.fieldAddr 74 (.tmp 2) 1) 0,
 LL 39 (.load 71 (.tmp 38)) 71,
 LL 40 (.move (.tmp 5)) 3,
 LL 41 (.indexAddr 71 (.tmp 39) (.tmp 40)) 0,
 LL 42 (.fieldAddr 161 (.tmp 41) 0) 0,
 LL 43 (.load 92 (.tmp 42)) 92,
 LL 44 (.fieldAddr 74 (.tmp 3) 1) 0,
 LL 45 (.load 71 (.tmp 44)) 71,
 LL 46 (.move (.tmp 5)) 3,
 LL 47 (.indexAddr 71 (.tmp 45) (.tmp 46)) 0,
 LL 48 (.fieldAddr 161 (.tmp 47) 0) 0,
 LL 49 (.load 92 (.tmp 48)) 92,
 LL 50 (.call { callee := (.value (.func 111)), args := #[(.tmp 43), (.tmp 49)], argTypes := #[92, 92] }) 4,
 LL 51 (.unOp .not 4 (.tmp 50)) 4,
 LL 52 (.move (.tmp 51)) 4,
 ⟨some 53, (.fieldAddr 74 (.tmp 2) 1), 0, some (some 52, false)⟩,
 ⟨some 54, (.load 71 (.tmp 53)), 71, some (some 52, false)⟩,
 ⟨some 55, (.move (.tmp 5)), 3, some (some 52, false)⟩,
 ⟨some 56, (.indexAddr 71 (.tmp 54) (.tmp 55)), 0, some (some 52, false)⟩,
 ⟨some 57, (.fieldAddr 161 (.tmp 56) 1), 0, some (some 52, false)⟩,
 ⟨some 58, (.load 159 (.tmp 57)), 159, some (some 52, false)⟩,
 ⟨some 59, (.fieldAddr 74 (.tmp 3) 1), 0, some (some 52, false)⟩,
 ⟨some 60, (.load 71 (.tmp 59)), 71, some (some 52, false)⟩,
 ⟨some 61, (.move (.tmp 5)), 3, some (some 52, false)⟩,
 ⟨some 62, (.indexAddr 71 (.tmp 60) (.tmp 61)), 0, some (some 52, false)⟩,
 ⟨some 63, (.fieldAddr 161 (.tmp 62) 1), 0, some (some 52, false)⟩,
 ⟨some 64, (.load 159 (.tmp 63)), 159, some (some 52, false)⟩,
 ⟨some 65, (.call { callee := (.value (.func 112)), args := #[(.tmp 58), (.tmp 64)], argTypes := #[159, 159] }), 4, some (some 52, false)⟩,
 ⟨some 66, (.unOp .not 4 (.tmp 65)), 4, some (some 52, false)⟩,
 LL 67 (.pick (.tmp 52) (.const (.bool true)) (.tmp 66)) 4])
 (.cond (.tmp 67)
 (.seq (.rgn [] [LL 4 (.assign (.const (.bool false))) 4])
 .ret)
 .skip)))
 (.rgn [] [LL 36 (.move (.tmp 5)) 3,
 LL 37 (.binOp .add 3 (.tmp 36) (.const (.int .i64 1)) 3) 3,
 LL 5 (.assign (.tmp 37)) 3]))))))
 (.seq (.seq (.rgn [] [LL 6 (.assign (.const (.int .i64 0))) 3])
 (.blk 2
 (.loop []
 (.seq (.seq (.rgn [] [LL 68 (.move (.tmp 6)) 3,
 LL 69 (.fieldAddr 74 (.tmp 2) 2) 0,
 LL 70 (.load 72 (.tmp 69)) 72,
 LL 71 (.call { callee := (.builtin .len), args := #[(.tmp 70)], argTypes := #[72] }) 3,
 LL 72 (.binOp .lss 3 (.tmp 68) (.tmp 71) 3) 4])
 (.cond (.tmp 72)
 .skip
 (.exit 2)))
 (.seq (.blk 3
 (.seq (.drw [] [([2], [75]), ([2, 75], [76]), ([6], [77]), ([76, 77], [78]), ([78], [79]), ([3], [80]), ([3, 80], [81]), ([6], [82]), ([81, 82], [83]), ([83], [84]), ([79, 84], [85]), ([85], [86])] [[], [0], [], [1, 2], [3], [], [5], [], [6, 7], [8], [4, 9], [10]] [LL 75 (.fieldAddr 74 (.tmp 2) 2) 0,
 LL 76 (.load 72 (.tmp 75)) 72,
 LL 77 (.move (.tmp 6)) 3,
 LL 78 (.indexAddr 72 (.tmp 76) (.tmp 77)) 0,
 LL 79 (.load 159 (.tmp 78)) 159,
 LL 80 (.fieldAddr 74 (.tmp 3) 2) 0,
 LL 81 (.load 72 (.tmp 80)) 72,
 LL 82 (.move (.tmp 6)) 3,
 LL 83 (.indexAddr 72 (.tmp 81) (.tmp 82)) 0,
 LL 84 (.load 159 (.tmp 83)) 159,
 LL 85 (.call { callee := (.value (.func 112)), args := #[(.tmp 79), (.tmp 84)], argTypes := #[159, 159] }) 4,
 LL 86 (.unOp .not 4 (.tmp 85)) 4])
 (.cond (.tmp 86)
 (.seq (.rgn [] [LL 4 (.assign (.const (.bool false))) 4])
 .ret)
 .skip)))
 (.rgn [] [LL 73 (.move (.tmp 6)) 3,
 LL 74 (.binOp .add 3 (.tmp 73) (.const (.int .i64 1)) 3) 3,
 LL 6 (.assign (.tmp 74)) 3]))))))
 (.seq (.rgn [] [LL 4 (.assign (.const (.bool true))) 4])
 .ret)))))
theorem lit39 : Lit Try.prog 39 87 [2, 3] [.tmp 4] c39 := ⟨⟨Try.f39, _, Try.func39, rfl, by kernel_rfl, rfl, rfl, by kernel_rfl, by kernel_rfl⟩, by decide, by kernel_rfl⟩
/-- laws.toNotifier -/
def c40 : LC :=
  (.seq (.rgn [] [LL 1 (.box 68 (.tmp 0)) 0,
 LL 2 (.alloc 74) 0])
 (.seq (.rgn [] [LL 3 (.alloc 74) 0])
 (.seq (.rgn [] [LL 4 (.fieldAddr 68 (.tmp 1) 0) 0,
 LL 5 (.load 24 (.tmp 4)) 24,
 LL 6 (.call { callee := (.value (.func 16)), args := #[(.tmp 5)], argTypes := #[24] }) 33,
 LL 7 (.fieldAddr 74 (.tmp 3) 0) 0,
 ⟨none, (.store 33 (.tmp 7) (.tmp 6)), 0, none⟩])
 (.seq (.rgn [] [LL 8 (.fieldAddr 68 (.tmp 1) 1) 0,
 LL 9 (.load 65 (.tmp 8)) 65,
 LL 10 (.call { callee := (.value (.func 113)), args := #[(.tmp 9)], argTypes := #[65] }) 71,
 LL 11 (.fieldAddr 74 (.tmp 3) 1) 0,
 ⟨none, (.store 71 (.tmp 11) (.tmp 10)), 0, none⟩])
 (.seq (.rgn [] [LL 12 (.fieldAddr 68 (.tmp 1) 2) 0,
 LL 13 (.load 66 (.tmp 12)) 66,
 LL 14 (.call { callee := (.value (.func 114)), args := #[(.tmp 13)], argTypes := #[66] }) 72,
 LL 15 (.fieldAddr 74 (.tmp 3) 2) 0,
 ⟨none, (.store 72 (.tmp 15) (.tmp 14)), 0, none⟩])
 (.seq (.rgn [16] [LL 16 (.load 74 (.tmp 3)) 74,
 ⟨none, (.store 74 (.tmp 2) (.tmp 16)), 0, none⟩])
 .ret))))))
theorem lit40 : Lit Try.prog 40 17 [1, 2, 3] [.cell 2 74] c40 := ⟨⟨Try.f40, _, Try.func40, rfl, by kernel_rfl, rfl, rfl, by kernel_rfl, by kernel_rfl⟩, by decide, by kernel_rfl⟩
/-- impl.EqualNotifiers -/
def c41 : LC :=
  (.seq (.rgn [] [LL 2 (.box 74 (.tmp 0)) 0,
 LL 3 (.box 74 (.tmp 1)) 0,
 LL 4 (.assign (.const (.bool false))) 4])
 (.seq (.seq (.rgn [] [LL 7 (.fieldAddr 74 (.tmp 2) 0) 0,
 LL 8 (.load 33 (.tmp 7)) 33,
 LL 9 (.fieldAddr 74 (.tmp 3) 0) 0,
 LL 10 (.load 33 (.tmp 9)) 33,
 LL 11 (.call { callee := (.value (.func 115)), args := #[(.tmp 8), (.tmp 10)], argTypes := #[33, 33] }) 4,
 LL 12 (.unOp .not 4 (.tmp 11)) 4,
 LL 13 (.move (.tmp 12)) 4,
 ⟨some 14, (.fieldAddr 74 (.tmp 2) 1), 0, some (some 13, false)⟩,
 ⟨some 15, (.load 71 (.tmp 14)), 71, some (some 13, false)⟩,
 ⟨some 16, (.call { callee := (.builtin .len), args := #[(.tmp 15)], argTypes := #[71] }), 3, some (some 13, false)⟩,
 ⟨some 17, (.fieldAddr 74 (.tmp 3) 1), 0, some (some 13, false)⟩,
 ⟨some 18, (.load 71 (.tmp 17)), 71, some (some 13, false)⟩,
 ⟨some 19, (.call { callee := (.builtin .len), args := #[(.tmp 18)], argTypes := #[71] }), 3, some (some 13, false)⟩,
 ⟨some 20, (.binOp .neq 3 (.tmp 16) (.tmp 19) 3), 4, some (some 13, false)⟩,
 LL 21 (.pick (.tmp 13) (.const (.bool true)) (.tmp 20)) 4,
 LL 22 (.move (.tmp 21)) 4,
 ⟨some 23, (.fieldAddr 74 (.tmp 2) 2), 0, some (some 22, false)⟩,
 ⟨some 24, (.load 72 (.tmp 23)), 72, some (some 22, false)⟩,
 ⟨some 25, (.call { callee := (.builtin .len), args := #[(.tmp 24)], argTypes := #[72] }), 3, some (some 22, false)⟩,
 ⟨some 26, (.fieldAddr 74 (.tmp 3) 2), 0, some (some 22, false)⟩,
 ⟨some 27, (.load 72 (.tmp 26)), 72, some (some 22, false)⟩,
 ⟨some 28, (.call { callee := (.builtin .len), args := #[(.tmp 27)], argTypes := #[72] }), 3, some (some 22, false)⟩,
 ⟨some 29, (.binOp .neq 3 (.tmp 25) (.tmp 28) 3), 4, some (some 22, false)⟩,
 LL 30 (.pick (.tmp 22) (.const (.bool true)) (.tmp 29)) 4])
 (.cond (.tmp 30)
 (.seq (.rgn [] [LL 4 (.assign (.const (.bool false))) 4])
 .ret)
 .skip))
 (.seq (.seq (.rgn [] [LL 31 (.fieldAddr 74 (.tmp 2) 1) 0,
 LL 32 (.load 71 (.tmp 31)) 71,
 LL 33 (.call { callee := (.builtin .len), args := #[(.tmp 32)], argTypes := #[71] }) 3,
 LL 34 (.move (.const (.int .i64 0))) 3])
 (.blk 0
 (.loop []
 (.seq (.rgn [] [LL 35 (.binOp .lss 3 (.tmp 34) (.tmp 33) 3) 0])
 (.seq (.cond (.tmp 35)
 .skip
 (.exit 0))
 (.seq (.blk 1
 (.seq (.rgn [] [LL 36 (.move (.tmp 34)) 3,
 LL 5 (.assign (.tmp 36)) 3])
 (.seq (.drw [] [([2], [37]), ([2, 37], [38]), ([5], [39]), ([38, 39], [40]), ([40], [41]), ([41], [42]), ([3], [43]), ([3, 43], [44]), ([5], [45]), ([44, 45], [46]), ([46], [47]), ([47], [48]), ([42, 48], [49]), ([49], [50]), ([50], [51]), ([2, 51], [52]), ([2, 51, 52], [53]), ([5, 51], [54]), ([51, 53, 54], [55]), ([51, 55], [56]), ([51, 56], [57]), ([3, 51], [58]), ([3, 51, 58], [59]), ([5, 51], [60]), ([51, 59, 60], [61]), ([51, 61], [62]), ([51, 62], [63]), ([51, 57, 63], [64]), ([51, 64], [65]), ([51, 65], [66])] [[], [0], [], [1, 2], [3], [4], [], [6], [], [7, 8], [9], [10], [5, 11], [12], [13, 12], [14], [15, 14], [14], [16, 17, 14], [18, 14], [19, 14], [14], [21, 14], [14], [22, 23, 14], [24, 14], [25, 14], [20, 26, 14, 14], [27, 14], [14, 28]] [LL 37 (.fieldAddr 74 (.tmp 2) 1) 0,
 LL 38 (.load 71 (.tmp 37)) 71,
 LL 39 (.move (.tmp 5)) 3,
 LL 40 (.indexAddr 71 (.tmp 38) (.tmp 39)) 0,
 LL 41 (.fieldAddr 161 (.tmp 40) 0) 0,
 LL 42 (.load 92 (.tmp 41)) 92,
 LL 43 (.fieldAddr 74 (.tmp 3) 1) 0,
 LL 44 (.load 71 (.tmp 43)) 71,
 LL 45 (.move (.tmp 5)) 3,
 LL 46 (.indexAddr 71 (.tmp 44) (.tmp 45)) 0,
 LL 47 (.fieldAddr 161 (.tmp 46) 0) 0,
 LL 48 (.load 92 (.tmp 47)) 92,
 LL 49 (.call { callee := (.value (.func 116)), args := #[(.tmp 42), (.tmp 48)], argTypes := #[92, 92] }) 4,
 LL 50 (.unOp .not 4 (.tmp 49)) 4,
 LL 51 (.move (.tmp 50)) 4,
 ⟨some 52, (.fieldAddr 74 (.tmp 2) 1), 0, some (some 51, false)⟩,
 ⟨some 53, (.load 71 (.tmp 52)), 71, some (some 51, false)⟩,
 ⟨some 54, (.move (.tmp 5)), 3, some (some 51, false)⟩,
 ⟨some 55, (.indexAddr 71 (.tmp 53) (.tmp 54)), 0, some (some 51, false)⟩,
 ⟨some 56, (.fieldAddr 161 (.tmp 55) 1), 0, some (some 51, false)⟩,
 ⟨some 57, (.load 159 (.tmp 56)), 159, some (some 51, false)⟩,
 ⟨some 58, (.fieldAddr 74 (.tmp 3) 1), 0, some (some 51, false)⟩,
 ⟨some 59, (.load 71 (.tmp 58)), 71, some (some 51, false)⟩,
 ⟨some 60, (.move (.tmp 5)), 3, some (some 51, false)⟩,
 ⟨some 61, (.indexAddr 71 (.tmp 59) (.tmp 60)), 0, some (some 51, false)⟩,
 ⟨some 62, (.fieldAddr 161 (.tmp 61) 1), 0, some (some 51, false)⟩,
 ⟨some 63, (.load 159 (.tmp 62)), 159, some (some 51, false)⟩,
 ⟨some 64, (.call { callee := (.value (.func 117)), args := #[(.tmp 57), (.tmp 63)], argTypes := #[159, 159] }), 4, some (some 51, false)⟩,
 ⟨some 65, (.unOp .not 4 (.tmp 64)), 4, some (some 51, false)⟩,
 LL 66 (.pick (.tmp 51) (.const (.bool true)) (.tmp 65)) 4])
 (.cond (.tmp 66)
 (.seq (.rgn [] [LL 4 (.assign (.const (.bool false))) 4])
 .ret)
 .skip))))
 (.rgn [] [LL 67 (.binOp .add 3 (.tmp 34) (.const (.int .i64 1)) 3) 3,
 LL 34 (.move (.tmp 67)) 3])))))))
 (.seq (.seq (.rgn [] [LL 68 (.fieldAddr 74 (.tmp 2) 2) 0,
 LL 69 (.load 72 (.tmp 68)) 72,
 LL 70 (.call { callee := (.builtin .len), args := #[(.tmp 69)], argTypes := #[72] }) 3,
 LL 71 (.move (.const (.int .i64 0))) 3])
 (.blk 2
 (.loop []
 (.seq (.rgn [] [LL 72 (.binOp .lss 3 (.tmp 71) (.tmp 70) 3) 0])
 (.seq (.cond (.tmp 72)
 .skip
 (.exit 2))
 (.seq (.blk 3
 (.seq (.rgn [] [LL 73 (.move (.tmp 71)) 3,
 LL 6 (.assign (.tmp 73)) 3])
 (.seq (.drw [] [([2], [74]), ([2, 74], [75]), ([6], [76]), ([75, 76], [77]), ([77], [78]), ([3], [79]), ([3, 79], [80]), ([6], [81]), ([80, 81], [82]), ([82], [83]), ([78, 83], [84]), ([84], [85])] [[], [0], [], [1, 2], [3], [], [5], [], [6, 7], [8], [4, 9], [10]] [LL 74 (.fieldAddr 74 (.tmp 2) 2) 0,
 LL 75 (.load 72 (.tmp 74)) 72,
 LL 76 (.move (.tmp 6)) 3,
 LL 77 (.indexAddr 72 (.tmp 75) (.tmp 76)) 0,
 LL 78 (.load 159 (.tmp 77)) 159,
 LL 79 (.fieldAddr 74 (.tmp 3) 2) 0,
 LL 80 (.load 72 (.tmp 79)) 72,
 LL 81 (.move (.tmp 6)) 3,
 LL 82 (.indexAddr 72 (.tmp 80) (.tmp 81)) 0,
 LL 83 (.load 159 (.tmp 82)) 159,
 LL 84 (.call { callee := (.value (.func 117)), args := #[(.tmp 78), (.tmp 83)], argTypes := #[159, 159] }) 4,
 LL 85 (.unOp .not 4 (.tmp 84)) 4])
 (.cond (.tmp 85)
 (.seq (.rgn [] [LL 4 (.assign (.const (.bool false))) 4])
 .ret)
 .skip))))
 (.rgn [] [LL 86 (.binOp .add 3 (.tmp 71) (.const (.int .i64 1)) 3) 3,
 LL 71 (.move (.tmp 86)) 3])))))))
 (.seq (.rgn [] [LL 4 (.assign (.const (.bool true))) 4])
 .ret)))))
theorem lit41 : Lit Try.prog 41 87 [2, 3] [.tmp 4] c41 := ⟨⟨Try.f41, _, Try.func41, rfl, by kernel_rfl, rfl, rfl, by kernel_rfl, by kernel_rfl⟩, by decide, by kernel_rfl⟩
/-- laws.eqNotifier -/
def c42 : LC :=
  (.seq (.rgn [] [LL 2 (.box 74 (.tmp 0)) 0,
 LL 3 (.box 74 (.tmp 1)) 0,
 LL 4 (.assign (.const (.bool false))) 4])
 (.seq (.seq (.rgn [] [LL 5 (.fieldAddr 74 (.tmp 2) 0) 0,
 LL 6 (.load 33 (.tmp 5)) 33,
 LL 7 (.fieldAddr 74 (.tmp 3) 0) 0,
 LL 8 (.load 33 (.tmp 7)) 33,
 LL 9 (.call { callee := (.value (.func 20)), args := #[(.tmp 6), (.tmp 8)], argTypes := #[33, 33] }) 4,
 LL 10 (.unOp .not 4 (.tmp 9)) 4])
 (.cond (.tmp 10)
 (.seq (.rgn [] [LL 4 (.assign (.const (.bool false))) 4])
 .ret)
 .skip))
 (.seq (.seq (.rgn [] [LL 11 (.fieldAddr 74 (.tmp 2) 1) 0,
 LL 12 (.load 71 (.tmp 11)) 71,
 LL 13 (.fieldAddr 74 (.tmp 3) 1) 0,
 LL 14 (.load 71 (.tmp 13)) 71,
 LL 15 (.call { callee := (.value (.func 118)), args := #[(.tmp 12), (.tmp 14)], argTypes := #[71, 71] }) 4,
 LL 16 (.unOp .not 4 (.tmp 15)) 4])
 (.cond (.tmp 16)
 (.seq (.rgn [] [LL 4 (.assign (.const (.bool false))) 4])
 .ret)
 .skip))
 (.seq (.seq (.rgn [] [LL 17 (.fieldAddr 74 (.tmp 2) 2) 0,
 LL 18 (.load 72 (.tmp 17)) 72,
 LL 19 (.fieldAddr 74 (.tmp 3) 2) 0,
 LL 20 (.load 72 (.tmp 19)) 72,
 LL 21 (.call { callee := (.value (.func 119)), args := #[(.tmp 18), (.tmp 20)], argTypes := #[72, 72] }) 4,
 LL 22 (.unOp .not 4 (.tmp 21)) 4])
 (.cond (.tmp 22)
 (.seq (.rgn [] [LL 4 (.assign (.const (.bool false))) 4])
 .ret)
 .skip))
 (.seq (.rgn [] [LL 4 (.assign (.const (.bool true))) 4])
 .ret)))))
theorem lit42 : Lit Try.prog 42 23 [2, 3] [.tmp 4] c42 := ⟨⟨Try.f42, _, Try.func42, rfl, by kernel_rfl, rfl, rfl, by kernel_rfl, by kernel_rfl⟩, by decide, by kernel_rfl⟩
/-- laws.szQuery -/
def c43 : LC :=
  (.seq (.rgn [] [LL 2 (.box 79 (.tmp 0)) 0,
 LL 4 (.assign (.const (.int .i64 0))) 3])
 (.seq (.rgn [] [LL 5 (.fieldAddr 79 (.tmp 2) 1) 0,
 LL 6 (.load 77 (.tmp 5)) 77,
 LL 7 (.move (.tmp 1)) 3,
 LL 8 (.call { callee := (.value (.func 120)), args := #[(.tmp 6), (.tmp 7)], argTypes := #[77, 3] }) 3,
 LL 1 (.assign (.tmp 8)) 3])
 (.seq (.seq (.rgn [] [LL 9 (.move (.tmp 1)) 3,
 LL 10 (.binOp .lss 3 (.tmp 9) (.const (.int .i64 0)) 3) 4])
 (.cond (.tmp 10)
 (.seq (.rgn [] [LL 4 (.assign (.const (.int .i64 (-1)))) 3])
 .ret)
 .skip))
 (.seq (.rgn [] [LL 11 (.fieldAddr 79 (.tmp 2) 2) 0,
 LL 12 (.load 25 (.tmp 11)) 25,
 LL 13 (.move (.tmp 1)) 3,
 LL 14 (.call { callee := (.value (.func 72)), args := #[(.tmp 12), (.tmp 13)], argTypes := #[25, 3] }) 3,
 LL 1 (.assign (.tmp 14)) 3])
 (.seq (.seq (.rgn [] [LL 15 (.move (.tmp 1)) 3,
 LL 16 (.binOp .lss 3 (.tmp 15) (.const (.int .i64 0)) 3) 4])
 (.cond (.tmp 16)
 (.seq (.rgn [] [LL 4 (.assign (.const (.int .i64 (-1)))) 3])
 .ret)
 .skip))
 (.seq (.rgn [] [LL 17 (.move (.tmp 1)) 3,
 LL 4 (.assign (.tmp 17)) 3])
 .ret))))))
theorem lit43 : Lit Try.prog 43 18 [2] [.tmp 4] c43 := ⟨⟨Try.f43, _, Try.func43, rfl, by kernel_rfl, rfl, rfl, by kernel_rfl, by kernel_rfl⟩, by decide, by kernel_rfl⟩
/-- laws.toQuery -/
def c46 : LC :=
  (.seq (.rgn [] [LL 1 (.box 79 (.tmp 0)) 0,
 LL 2 (.alloc 92) 0])
 (.seq (.rgn [] [LL 3 (.alloc 92) 0])
 (.seq (.rgn [] [LL 4 (.fieldAddr 79 (.tmp 1) 0) 0,
 LL 5 (.load 3 (.tmp 4)) 3,
 LL 6 (.fieldAddr 92 (.tmp 3) 0) 0,
 ⟨none, (.store 3 (.tmp 6) (.tmp 5)), 0, none⟩])
 (.seq (.rgn [] [LL 7 (.fieldAddr 79 (.tmp 1) 1) 0,
 LL 8 (.load 77 (.tmp 7)) 77,
 LL 9 (.call { callee := (.value (.func 126)), args := #[(.tmp 8)], argTypes := #[77] }) 90,
 LL 10 (.fieldAddr 92 (.tmp 3) 1) 0,
 ⟨none, (.store 90 (.tmp 10) (.tmp 9)), 0, none⟩])
 (.seq (.rgn [] [LL 11 (.fieldAddr 79 (.tmp 1) 2) 0,
 LL 12 (.load 25 (.tmp 11)) 25,
 LL 13 (.call { callee := (.value (.func 58)), args := #[(.tmp 12)], argTypes := #[25] }) 25,
 LL 14 (.fieldAddr 92 (.tmp 3) 2) 0,
 ⟨none, (.store 25 (.tmp 14) (.tmp 13)), 0, none⟩])
 (.seq (.rgn [15] [LL 15 (.load 92 (.tmp 3)) 92,
 ⟨none, (.store 92 (.tmp 2) (.tmp 15)), 0, none⟩])
 .ret))))))
theorem lit46 : Lit Try.prog 46 16 [1, 2, 3] [.cell 2 92] c46 := ⟨⟨Try.f46, _, Try.func46, rfl, by kernel_rfl, rfl, rfl, by kernel_rfl, by kernel_rfl⟩, by decide, by kernel_rfl⟩
/-- laws.eqQuery -/
def c49 : LC :=
  (.seq (.rgn [] [LL 2 (.box 92 (.tmp 0)) 0,
 LL 3 (.box 92 (.tmp 1)) 0,
 LL 4 (.assign (.const (.bool false))) 4])
 (.seq (.seq (.rgn [] [LL 5 (.fieldAddr 92 (.tmp 2) 0) 0,
 LL 6 (.load 3 (.tmp 5)) 3,
 LL 7 (.fieldAddr 92 (.tmp 3) 0) 0,
 LL 8 (.load 3 (.tmp 7)) 3,
 LL 9 (.binOp .neq 3 (.tmp 6) (.tmp 8) 3) 4])
 (.cond (.tmp 9)
 (.seq (.rgn [] [LL 4 (.assign (.const (.bool false))) 4])
 .ret)
 .skip))
 (.seq (.seq (.rgn [] [LL 10 (.fieldAddr 92 (.tmp 2) 1) 0,
 LL 11 (.load 90 (.tmp 10)) 90,
 LL 12 (.fieldAddr 92 (.tmp 3) 1) 0,
 LL 13 (.load 90 (.tmp 12)) 90,
 LL 14 (.call { callee := (.value (.func 132)), args := #[(.tmp 11), (.tmp 13)], argTypes := #[90, 90] }) 4,
 LL 15 (.unOp .not 4 (.tmp 14)) 4])
 (.cond (.tmp 15)
 (.seq (.rgn [] [LL 4 (.assign (.const (.bool false))) 4])
 .ret)
 .skip))
 (.seq (.seq (.rgn [] [LL 16 (.fieldAddr 92 (.tmp 2) 2) 0,
 LL 17 (.load 25 (.tmp 16)) 25,
 LL 18 (.fieldAddr 92 (.tmp 3) 2) 0,
 LL 19 (.load 25 (.tmp 18)) 25,
 LL 20 (.call { callee := (.value (.func 19)), args := #[(.tmp 17), (.tmp 19)], argTypes := #[25, 25] }) 4,
 LL 21 (.unOp .not 4 (.tmp 20)) 4])
 (.cond (.tmp 21)
 (.seq (.rgn [] [LL 4 (.assign (.const (.bool false))) 4])
 .ret)
 .skip))
 (.seq (.rgn [] [LL 4 (.assign (.const (.bool true))) 4])
 .ret)))))
theorem lit49 : Lit Try.prog 49 22 [2, 3] [.tmp 4] c49 := ⟨⟨Try.f49, _, Try.func49, rfl, by kernel_rfl, rfl, rfl, by kernel_rfl, by kernel_rfl⟩, by decide, by kernel_rfl⟩
/-- laws.toIntS -/
def c58 : LC :=
  (.seq (.rgn [] [LL 2 (.assign (.const (.slice none 0 0))) 25])
 (.seq (.rgn [3, 7] [LL 5 (.move (.tmp 0)) 25,
 LL 6 (.call { callee := (.builtin .len), args := #[(.tmp 5)], argTypes := #[25] }) 3,
 LL 7 (.makeSlice 25 (.tmp 6) (.tmp 6)) 25,
 LL 3 (.assign (.tmp 7)) 25])
 (.seq (.seq (.rgn [] [LL 4 (.assign (.const (.int .i64 0))) 3])
 (.blk 0
 (.loop []
 (.seq (.seq (.rgn [] [LL 8 (.move (.tmp 4)) 3,
 LL 9 (.move (.tmp 0)) 25,
 LL 10 (.call { callee := (.builtin .len), args := #[(.tmp 9)], argTypes := #[25] }) 3,
 LL 11 (.binOp .lss 3 (.tmp 8) (.tmp 10) 3) 4])
 (.cond (.tmp 11)
 .skip
 (.exit 0)))
 (.seq (.blk 1
 (.rgn [] [LL 14 (.move (.tmp 3)) 25,
 LL 15 (.move (.tmp 4)) 3,
 LL 16 (.move (.tmp 0)) 25,
 LL 17 (.move (.tmp 4)) 3,
 LL 18 (.indexAddr 25 (.tmp 16) (.tmp 17)) 0,
 LL 19 (.load 3 (.tmp 18)) 3,
 LL 20 (.indexAddr 25 (.tmp 14) (.tmp 15)) 0,
 ⟨none, (.store 3 (.tmp 20) (.tmp 19)), 0, none⟩]))
 (.rgn [] [LL 12 (.move (.tmp 4)) 3,
 LL 13 (.binOp .add 3 (.tmp 12) (.const (.int .i64 1)) 3) 3,
 LL 4 (.assign (.tmp 13)) 3]))))))
 (.seq (.rgn [21] [LL 21 (.move (.tmp 3)) 25,
 LL 2 (.assign (.tmp 21)) 25])
 .ret))))
theorem lit58 : Lit Try.prog 58 22 [3, 7] [.tmp 2] c58 := ⟨⟨Try.f58, _, Try.func58, rfl, by kernel_rfl, rfl, rfl, by kernel_rfl, by kernel_rfl⟩, by decide, by kernel_rfl⟩
/-- laws.szTableS -/
def c71 : LC :=
  (.seq (.rgn [] [LL 4 (.assign (.const (.int .i64 0))) 3])
 (.seq (.rgn [] [LL 6 (.move (.tmp 1)) 3,
 LL 7 (.move (.tmp 0)) 22,
 LL 8 (.call { callee := (.builtin .len), args := #[(.tmp 7)], argTypes := #[22] }) 3,
 LL 9 (.binOp .sub 3 (.tmp 6) (.tmp 8) 3) 3,
 LL 1 (.assign (.tmp 9)) 3])
 (.seq (.seq (.rgn [] [LL 10 (.move (.tmp 1)) 3,
 LL 11 (.binOp .lss 3 (.tmp 10) (.const (.int .i64 0)) 3) 4])
 (.cond (.tmp 11)
 (.seq (.rgn [] [LL 4 (.assign (.const (.int .i64 (-1)))) 3])
 .ret)
 .skip))
 (.seq (.seq (.rgn [] [LL 5 (.assign (.const (.int .i64 0))) 3])
 (.blk 0
 (.loop []
 (.seq (.seq (.rgn [] [LL 12 (.move (.tmp 5)) 3,
 LL 13 (.move (.tmp 0)) 22,
 LL 14 (.call { callee := (.builtin .len), args := #[(.tmp 13)], argTypes := #[22] }) 3,
 LL 15 (.binOp .lss 3 (.tmp 12) (.tmp 14) 3) 4])
 (.cond (.tmp 15)
 .skip
 (.exit 0)))
 (.seq (.blk 1
 (.seq (.rgn [] [LL 18 (.move (.tmp 0)) 22,
 LL 19 (.move (.tmp 5)) 3,
 LL 20 (.indexAddr 22 (.tmp 18) (.tmp 19)) 0,
 LL 21 (.load 206 (.tmp 20)) 206,
 LL 22 (.move (.tmp 1)) 3,
 LL 23 (.call { callee := (.value (.func 171)), args := #[(.tmp 21), (.tmp 22)], argTypes := #[206, 3] }) 3,
 LL 1 (.assign (.tmp 23)) 3])
 (.seq (.rgn [] [LL 24 (.move (.tmp 1)) 3,
 LL 25 (.binOp .lss 3 (.tmp 24) (.const (.int .i64 0)) 3) 4])
 (.cond (.tmp 25)
 (.seq (.rgn [] [LL 4 (.assign (.const (.int .i64 (-1)))) 3])
 .ret)
 .skip))))
 (.rgn [] [LL 16 (.move (.tmp 5)) 3,
 LL 17 (.binOp .add 3 (.tmp 16) (.const (.int .i64 1)) 3) 3,
 LL 5 (.assign (.tmp 17)) 3]))))))
 (.seq (.rgn [] [LL 26 (.move (.tmp 1)) 3,
 LL 4 (.assign (.tmp 26)) 3])
 .ret)))))
theorem lit71 : Lit Try.prog 71 27 [] [.tmp 4] c71 := ⟨⟨Try.f71, _, Try.func71, rfl, by kernel_rfl, rfl, rfl, by kernel_rfl, by kernel_rfl⟩, by decide, by kernel_rfl⟩
/-- laws.szIntS -/
def c72 : LC :=
  (.seq (.rgn [] [LL 4 (.assign (.const (.int .i64 0))) 3])
 (.seq (.rgn [] [LL 5 (.move (.tmp 1)) 3,
 LL 6 (.move (.tmp 0)) 25,
 LL 7 (.call { callee := (.builtin .len), args := #[(.tmp 6)], argTypes := #[25] }) 3,
 LL 8 (.binOp .sub 3 (.tmp 5) (.tmp 7) 3) 3,
 LL 1 (.assign (.tmp 8)) 3])
 (.seq (.seq (.rgn [] [LL 9 (.move (.tmp 1)) 3,
 LL 10 (.binOp .lss 3 (.tmp 9) (.const (.int .i64 0)) 3) 4])
 (.cond (.tmp 10)
 (.seq (.rgn [] [LL 4 (.assign (.const (.int .i64 (-1)))) 3])
 .ret)
 .skip))
 (.seq (.rgn [] [LL 11 (.move (.tmp 1)) 3,
 LL 4 (.assign (.tmp 11)) 3])
 .ret))))
theorem lit72 : Lit Try.prog 72 12 [] [.tmp 4] c72 := ⟨⟨Try.f72, _, Try.func72, rfl, by kernel_rfl, rfl, rfl, by kernel_rfl, by kernel_rfl⟩, by decide, by kernel_rfl⟩
/-- spec.CompareRows -/
def c75 : LC :=
  (.seq (.rgn [] [LL 4 (.assign (.const (.int .i64 0))) 3])
 (.seq (.seq (.rgn [] [LL 5 (.assign (.const (.int .i64 0))) 3])
 (.blk 0
 (.loop []
 (.seq (.seq (.rgn [] [LL 6 (.move (.tmp 5)) 3,
 LL 7 (.move (.tmp 0)) 25,
 LL 8 (.call { callee := (.builtin .len), args := #[(.tmp 7)], argTypes := #[25] }) 3,
 LL 9 (.binOp .lss 3 (.tmp 6) (.tmp 8) 3) 4,
 LL 10 (.move (.tmp 9)) 4,
 ⟨some 11, (.move (.tmp 5)), 3, some (some 10, true)⟩,
 ⟨some 12, (.move (.tmp 1)), 25, some (some 10, true)⟩,
 ⟨some 13, (.call { callee := (.builtin .len), args := #[(.tmp 12)], argTypes := #[25] }), 3, some (some 10, true)⟩,
 ⟨some 14, (.binOp .lss 3 (.tmp 11) (.tmp 13) 3), 4, some (some 10, true)⟩,
 LL 15 (.pick (.tmp 10) (.tmp 14) (.const (.bool false))) 4])
 (.cond (.tmp 15)
 .skip
 (.exit 0)))
 (.seq (.blk 1
 (.seq (.seq (.drw [] [([0], [18]), ([5], [19]), ([18, 19], [20]), ([20], [21]), ([1], [22]), ([5], [23]), ([22, 23], [24]), ([24], [25]), ([21, 25], [26])] [[], [], [0, 1], [2], [], [], [4, 5], [6], [3, 7]] [LL 18 (.move (.tmp 0)) 25,
 LL 19 (.move (.tmp 5)) 3,
 LL 20 (.indexAddr 25 (.tmp 18) (.tmp 19)) 0,
 LL 21 (.load 3 (.tmp 20)) 3,
 LL 22 (.move (.tmp 1)) 25,
 LL 23 (.move (.tmp 5)) 3,
 LL 24 (.indexAddr 25 (.tmp 22) (.tmp 23)) 0,
 LL 25 (.load 3 (.tmp 24)) 3,
 LL 26 (.binOp .lss 3 (.tmp 21) (.tmp 25) 3) 4])
 (.cond (.tmp 26)
 (.seq (.rgn [] [LL 4 (.assign (.const (.int .i64 (-1)))) 3])
 .ret)
 .skip))
 (.seq (.drw [] [([0], [27]), ([5], [28]), ([27, 28], [29]), ([29], [30]), ([1], [31]), ([5], [32]), ([31, 32], [33]), ([33], [34]), ([30, 34], [35])] [[], [], [0, 1], [2], [], [], [4, 5], [6], [3, 7]] [LL 27 (.move (.tmp 0)) 25,
 LL 28 (.move (.tmp 5)) 3,
 LL 29 (.indexAddr 25 (.tmp 27) (.tmp 28)) 0,
 LL 30 (.load 3 (.tmp 29)) 3,
 LL 31 (.move (.tmp 1)) 25,
 LL 32 (.move (.tmp 5)) 3,
 LL 33 (.indexAddr 25 (.tmp 31) (.tmp 32)) 0,
 LL 34 (.load 3 (.tmp 33)) 3,
 LL 35 (.binOp .gtr 3 (.tmp 30) (.tmp 34) 3) 4])
 (.cond (.tmp 35)
 (.seq (.rgn [] [LL 4 (.assign (.const (.int .i64 1))) 3])
 .ret)
 .skip))))
 (.rgn [] [LL 16 (.move (.tmp 5)) 3,
 LL 17 (.binOp .add 3 (.tmp 16) (.const (.int .i64 1)) 3) 3,
 LL 5 (.assign (.tmp 17)) 3]))))))
 (.seq (.seq (.rgn [] [LL 36 (.move (.tmp 0)) 25,
 LL 37 (.call { callee := (.builtin .len), args := #[(.tmp 36)], argTypes := #[25] }) 3,
 LL 38 (.move (.tmp 1)) 25,
 LL 39 (.call { callee := (.builtin .len), args := #[(.tmp 38)], argTypes := #[25] }) 3,
 LL 40 (.binOp .lss 3 (.tmp 37) (.tmp 39) 3) 4])
 (.cond (.tmp 40)
 (.seq (.rgn [] [LL 4 (.assign (.const (.int .i64 (-1)))) 3])
 .ret)
 .skip))
 (.seq (.seq (.rgn [] [LL 41 (.move (.tmp 0)) 25,
 LL 42 (.call { callee := (.builtin .len), args := #[(.tmp 41)], argTypes := #[25] }) 3,
 LL 43 (.move (.tmp 1)) 25,
 LL 44 (.call { callee := (.builtin .len), args := #[(.tmp 43)], argTypes := #[25] }) 3,
 LL 45 (.binOp .gtr 3 (.tmp 42) (.tmp 44) 3) 4])
 (.cond (.tmp 45)
 (.seq (.rgn [] [LL 4 (.assign (.const (.int .i64 1))) 3])
 .ret)
 .skip))
 (.seq (.rgn [] [LL 4 (.assign (.const (.int .i64 0))) 3])
 .ret)))))
theorem lit75 : Lit Try.prog 75 46 [] [.tmp 4] c75 := ⟨⟨Try.f75, _, Try.func75, rfl, by kernel_rfl, rfl, rfl, by kernel_rfl, by kernel_rfl⟩, by decide, by kernel_rfl⟩
/-- laws.toTableS -/
def c77 : LC :=
  (.seq (.rgn [] [LL 2 (.assign (.const (.slice none 0 0))) 31])
 (.seq (.rgn [3, 7] [LL 5 (.move (.tmp 0)) 22,
 LL 6 (.call { callee := (.builtin .len), args := #[(.tmp 5)], argTypes := #[22] }) 3,
 LL 7 (.makeSlice 31 (.tmp 6) (.tmp 6)) 31,
 LL 3 (.assign (.tmp 7)) 31])
 (.seq (.seq (.rgn [] [LL 4 (.assign (.const (.int .i64 0))) 3])
 (.blk 0
 (.loop []
 (.seq (.seq (.rgn [] [LL 8 (.move (.tmp 4)) 3,
 LL 9 (.move (.tmp 0)) 22,
 LL 10 (.call { callee := (.builtin .len), args := #[(.tmp 9)], argTypes := #[22] }) 3,
 LL 11 (.binOp .lss 3 (.tmp 8) (.tmp 10) 3) 4])
 (.cond (.tmp 11)
 .skip
 (.exit 0)))
 (.seq (.blk 1
 (.rgn [] [LL 14 (.move (.tmp 3)) 31,
 LL 15 (.move (.tmp 4)) 3,
 LL 16 (.move (.tmp 0)) 22,
 LL 17 (.move (.tmp 4)) 3,
 LL 18 (.indexAddr 22 (.tmp 16) (.tmp 17)) 0,
 LL 19 (.load 206 (.tmp 18)) 206,
 LL 20 (.call { callee := (.value (.func 173)), args := #[(.tmp 19)], argTypes := #[206] }) 208,
 LL 21 (.indexAddr 31 (.tmp 14) (.tmp 15)) 0,
 ⟨none, (.store 208 (.tmp 21) (.tmp 20)), 0, none⟩]))
 (.rgn [] [LL 12 (.move (.tmp 4)) 3,
 LL 13 (.binOp .add 3 (.tmp 12) (.const (.int .i64 1)) 3) 3,
 LL 4 (.assign (.tmp 13)) 3]))))))
 (.seq (.rgn [22] [LL 22 (.move (.tmp 3)) 31,
 LL 2 (.assign (.tmp 22)) 31])
 .ret))))
theorem lit77 : Lit Try.prog 77 23 [3, 7] [.tmp 2] c77 := ⟨⟨Try.f77, _, Try.func77, rfl, by kernel_rfl, rfl, rfl, by kernel_rfl, by kernel_rfl⟩, by decide, by kernel_rfl⟩
/-- impl.sameInts -/
def c80 : LC :=
  (.seq (.rgn [] [LL 4 (.assign (.const (.bool false))) 4])
 (.seq (.seq (.rgn [] [LL 6 (.move (.tmp 0)) 25,
 LL 7 (.call { callee := (.builtin .len), args := #[(.tmp 6)], argTypes := #[25] }) 3,
 LL 8 (.move (.tmp 1)) 25,
 LL 9 (.call { callee := (.builtin .len), args := #[(.tmp 8)], argTypes := #[25] }) 3,
 LL 10 (.binOp .neq 3 (.tmp 7) (.tmp 9) 3) 4])
 (.cond (.tmp 10)
 (.seq (.rgn [] [LL 4 (.assign (.const (.bool false))) 4])
 .ret)
 .skip))
 (.seq (.seq (.rgn [] [LL 11 (.move (.tmp 0)) 25,
 LL 12 (.call { callee := (.builtin .len), args := #[(.tmp 11)], argTypes := #[25] }) 3,
 LL 13 (.move (.const (.int .i64 0))) 3])
 (.blk 0
 (.loop []
 (.seq (.rgn [] [LL 14 (.binOp .lss 3 (.tmp 13) (.tmp 12) 3) 0])
 (.seq (.cond (.tmp 14)
 .skip
 (.exit 0))
 (.seq (.blk 1
 (.seq (.rgn [] [LL 15 (.move (.tmp 13)) 3,
 LL 5 (.assign (.tmp 15)) 3])
 (.seq (.drw [] [([0], [16]), ([5], [17]), ([16, 17], [18]), ([18], [19]), ([1], [20]), ([5], [21]), ([20, 21], [22]), ([22], [23]), ([19, 23], [24])] [[], [], [0, 1], [2], [], [], [4, 5], [6], [3, 7]] [LL 16 (.move (.tmp 0)) 25,
 LL 17 (.move (.tmp 5)) 3,
 LL 18 (.indexAddr 25 (.tmp 16) (.tmp 17)) 0,
 LL 19 (.load 3 (.tmp 18)) 3,
 LL 20 (.move (.tmp 1)) 25,
 LL 21 (.move (.tmp 5)) 3,
 LL 22 (.indexAddr 25 (.tmp 20) (.tmp 21)) 0,
 LL 23 (.load 3 (.tmp 22)) 3,
 LL 24 (.binOp .neq 3 (.tmp 19) (.tmp 23) 3) 4])
 (.cond (.tmp 24)
 (.seq (.rgn [] [LL 4 (.assign (.const (.bool false))) 4])
 .ret)
 .skip))))
 (.rgn [] [LL 25 (.binOp .add 3 (.tmp 13) (.const (.int .i64 1)) 3) 3,
 LL 13 (.move (.tmp 25)) 3])))))))
 (.seq (.rgn [] [LL 4 (.assign (.const (.bool true))) 4])
 .ret))))
theorem lit80 : Lit Try.prog 80 26 [] [.tmp 4] c80 := ⟨⟨Try.f80, _, Try.func80, rfl, by kernel_rfl, rfl, rfl, by kernel_rfl, by kernel_rfl⟩, by decide, by kernel_rfl⟩
/-- laws.eqTableS -/
def c82 : LC :=
  (.seq (.rgn [] [LL 4 (.assign (.const (.bool false))) 4])
 (.seq (.seq (.rgn [] [LL 6 (.move (.tmp 0)) 31,
 LL 7 (.call { callee := (.builtin .len), args := #[(.tmp 6)], argTypes := #[31] }) 3,
 LL 8 (.move (.tmp 1)) 31,
 LL 9 (.call { callee := (.builtin .len), args := #[(.tmp 8)], argTypes := #[31] }) 3,
 LL 10 (.binOp .neq 3 (.tmp 7) (.tmp 9) 3) 4])
 (.cond (.tmp 10)
 (.seq (.rgn [] [LL 4 (.assign (.const (.bool false))) 4])
 .ret)
 .skip))
 (.seq (.seq (.rgn [] [LL 5 (.assign (.const (.int .i64 0))) 3])
 (.blk 0
 (.loop []
 (.seq (.seq (.rgn [] [LL 11 (.move (.tmp 5)) 3,
 LL 12 (.move (.tmp 0)) 31,
 LL 13 (.call { callee := (.builtin .len), args := #[(.tmp 12)], argTypes := #[31] }) 3,
 LL 14 (.binOp .lss 3 (.tmp 11) (.tmp 13) 3) 4])
 (.cond (.tmp 14)
 .skip
 (.exit 0)))
 (.seq (.blk 1
 (.seq (.drw [] [([0], [17]), ([5], [18]), ([17, 18], [19]), ([19], [20]), ([1], [21]), ([5], [22]), ([21, 22], [23]), ([23], [24]), ([20, 24], [25]), ([25], [26])] [[], [], [0, 1], [2], [], [], [4, 5], [6], [3, 7], [8]] [LL 17 (.move (.tmp 0)) 31,
 LL 18 (.move (.tmp 5)) 3,
 LL 19 (.indexAddr 31 (.tmp 17) (.tmp 18)) 0,
 LL 20 (.load 208 (.tmp 19)) 208,
 LL 21 (.move (.tmp 1)) 31,
 LL 22 (.move (.tmp 5)) 3,
 LL 23 (.indexAddr 31 (.tmp 21) (.tmp 22)) 0,
 LL 24 (.load 208 (.tmp 23)) 208,
 LL 25 (.call { callee := (.value (.func 176)), args := #[(.tmp 20), (.tmp 24)], argTypes := #[208, 208] }) 4,
 LL 26 (.unOp .not 4 (.tmp 25)) 4])
 (.cond (.tmp 26)
 (.seq (.rgn [] [LL 4 (.assign (.const (.bool false))) 4])
 .ret)
 .skip)))
 (.rgn [] [LL 15 (.move (.tmp 5)) 3,
 LL 16 (.binOp .add 3 (.tmp 15) (.const (.int .i64 1)) 3) 3,
 LL 5 (.assign (.tmp 16)) 3]))))))
 (.seq (.rgn [] [LL 4 (.assign (.const (.bool true))) 4])
 .ret))))
theorem lit82 : Lit Try.prog 82 27 [] [.tmp 4] c82 := ⟨⟨Try.f82, _, Try.func82, rfl, by kernel_rfl, rfl, rfl, by kernel_rfl, by kernel_rfl⟩, by decide, by kernel_rfl⟩
/-- laws.szViewS -/
def c108 : LC :=
  (.seq (.rgn [] [LL 4 (.assign (.const (.int .i64 0))) 3])
 (.seq (.rgn [] [LL 6 (.move (.tmp 1)) 3,
 LL 7 (.move (.tmp 0)) 65,
 LL 8 (.call { callee := (.builtin .len), args := #[(.tmp 7)], argTypes := #[65] }) 3,
 LL 9 (.binOp .sub 3 (.tmp 6) (.tmp 8) 3) 3,
 LL 1 (.assign (.tmp 9)) 3])
 (.seq (.seq (.rgn [] [LL 10 (.move (.tmp 1)) 3,
 LL 11 (.binOp .lss 3 (.tmp 10) (.const (.int .i64 0)) 3) 4])
 (.cond (.tmp 11)
 (.seq (.rgn [] [LL 4 (.assign (.const (.int .i64 (-1)))) 3])
 .ret)
 .skip))
 (.seq (.seq (.rgn [] [LL 5 (.assign (.const (.int .i64 0))) 3])
 (.blk 0
 (.loop []
 (.seq (.seq (.rgn [] [LL 12 (.move (.tmp 5)) 3,
 LL 13 (.move (.tmp 0)) 65,
 LL 14 (.call { callee := (.builtin .len), args := #[(.tmp 13)], argTypes := #[65] }) 3,
 LL 15 (.binOp .lss 3 (.tmp 12) (.tmp 14) 3) 4])
 (.cond (.tmp 15)
 .skip
 (.exit 0)))
 (.seq (.blk 1
 (.seq (.rgn [] [LL 18 (.move (.tmp 0)) 65,
 LL 19 (.move (.tmp 5)) 3,
 LL 20 (.indexAddr 65 (.tmp 18) (.tmp 19)) 0,
 LL 21 (.load 223 (.tmp 20)) 223,
 LL 22 (.move (.tmp 1)) 3,
 LL 23 (.call { callee := (.value (.func 189)), args := #[(.tmp 21), (.tmp 22)], argTypes := #[223, 3] }) 3,
 LL 1 (.assign (.tmp 23)) 3])
 (.seq (.rgn [] [LL 24 (.move (.tmp 1)) 3,
 LL 25 (.binOp .lss 3 (.tmp 24) (.const (.int .i64 0)) 3) 4])
 (.cond (.tmp 25)
 (.seq (.rgn [] [LL 4 (.assign (.const (.int .i64 (-1)))) 3])
 .ret)
 .skip))))
 (.rgn [] [LL 16 (.move (.tmp 5)) 3,
 LL 17 (.binOp .add 3 (.tmp 16) (.const (.int .i64 1)) 3) 3,
 LL 5 (.assign (.tmp 17)) 3]))))))
 (.seq (.rgn [] [LL 26 (.move (.tmp 1)) 3,
 LL 4 (.assign (.tmp 26)) 3])
 .ret)))))
theorem lit108 : Lit Try.prog 108 27 [] [.tmp 4] c108 := ⟨⟨Try.f108, _, Try.func108, rfl, by kernel_rfl, rfl, rfl, by kernel_rfl, by kernel_rfl⟩, by decide, by kernel_rfl⟩
/-- laws.szCountedRelationS -/
def c109 : LC :=
  (.seq (.rgn [] [LL 4 (.assign (.const (.int .i64 0))) 3])
 (.seq (.rgn [] [LL 6 (.move (.tmp 1)) 3,
 LL 7 (.move (.tmp 0)) 66,
 LL 8 (.call { callee := (.builtin .len), args := #[(.tmp 7)], argTypes := #[66] }) 3,
 LL 9 (.binOp .sub 3 (.tmp 6) (.tmp 8) 3) 3,
 LL 1 (.assign (.tmp 9)) 3])
 (.seq (.seq (.rgn [] [LL 10 (.move (.tmp 1)) 3,
 LL 11 (.binOp .lss 3 (.tmp 10) (.const (.int .i64 0)) 3) 4])
 (.cond (.tmp 11)
 (.seq (.rgn [] [LL 4 (.assign (.const (.int .i64 (-1)))) 3])
 .ret)
 .skip))
 (.seq (.seq (.rgn [] [LL 5 (.assign (.const (.int .i64 0))) 3])
 (.blk 0
 (.loop []
 (.seq (.seq (.rgn [] [LL 12 (.move (.tmp 5)) 3,
 LL 13 (.move (.tmp 0)) 66,
 LL 14 (.call { callee := (.builtin .len), args := #[(.tmp 13)], argTypes := #[66] }) 3,
 LL 15 (.binOp .lss 3 (.tmp 12) (.tmp 14) 3) 4])
 (.cond (.tmp 15)
 .skip
 (.exit 0)))
 (.seq (.blk 1
 (.seq (.rgn [] [LL 18 (.move (.tmp 0)) 66,
 LL 19 (.move (.tmp 5)) 3,
 LL 20 (.indexAddr 66 (.tmp 18) (.tmp 19)) 0,
 LL 21 (.load 221 (.tmp 20)) 221,
 LL 22 (.move (.tmp 1)) 3,
 LL 23 (.call { callee := (.value (.func 190)), args := #[(.tmp 21), (.tmp 22)], argTypes := #[221, 3] }) 3,
 LL 1 (.assign (.tmp 23)) 3])
 (.seq (.rgn [] [LL 24 (.move (.tmp 1)) 3,
 LL 25 (.binOp .lss 3 (.tmp 24) (.const (.int .i64 0)) 3) 4])
 (.cond (.tmp 25)
 (.seq (.rgn [] [LL 4 (.assign (.const (.int .i64 (-1)))) 3])
 .ret)
 .skip))))
 (.rgn [] [LL 16 (.move (.tmp 5)) 3,
 LL 17 (.binOp .add 3 (.tmp 16) (.const (.int .i64 1)) 3) 3,
 LL 5 (.assign (.tmp 17)) 3]))))))
 (.seq (.rgn [] [LL 26 (.move (.tmp 1)) 3,
 LL 4 (.assign (.tmp 26)) 3])
 .ret)))))
theorem lit109 : Lit Try.prog 109 27 [] [.tmp 4] c109 := ⟨⟨Try.f109, _, Try.func109, rfl, by kernel_rfl, rfl, rfl, by kernel_rfl, by kernel_rfl⟩, by decide, by kernel_rfl⟩
/-- spec.EqualDatabases -/
def c110 : LC :=
  (.seq (.rgn [] [LL 2 (.box 33 (.tmp 0)) 0,
 LL 3 (.box 33 (.tmp 1)) 0,
 LL 4 (.assign (.const (.bool false))) 4])
 (.seq (.seq (.rgn [] [LL 6 (.fieldAddr 33 (.tmp 2) 0) 0,
 LL 7 (.load 31 (.tmp 6)) 31,
 LL 8 (.call { callee := (.builtin .len), args := #[(.tmp 7)], argTypes := #[31] }) 3,
 LL 9 (.fieldAddr 33 (.tmp 3) 0) 0,
 LL 10 (.load 31 (.tmp 9)) 31,
 LL 11 (.call { callee := (.builtin .len), args := #[(.tmp 10)], argTypes := #[31] }) 3,
 LL 12 (.binOp .neq 3 (.tmp 8) (.tmp 11) 3) 4])
 (.cond (.tmp 12)
 (.seq (.rgn [] [LL 4 (.assign (.const (.bool false))) 4])
 .ret)
 .skip))
 (.seq (.seq (.rgn [] [LL 5 (.assign (.const (.int .i64 0))) 3])
 (.blk 0
 (.loop []
 (.seq (.seq (.rgn [] [LL 13 (.move (.tmp 5)) 3,
 LL 14 (.fieldAddr 33 (.tmp 2) 0) 0,
 LL 15 (.load 31 (.tmp 14)) 31,
 LL 16 (.call { callee := (.builtin .len), args := #[(.tmp 15)], argTypes := #[31] }) 3,
 LL 17 (.binOp .lss 3 (.tmp 13) (.tmp 16) 3) 4])
 (.cond (.tmp 17)
 .skip
 (.exit 0)))
 (.seq (.blk 1
 (.seq (.drw [] [([2], [20]), ([2, 20], [21]), ([5], [22]), ([21, 22], [23]), ([23], [24]), ([24], [25]), ([3], [26]), ([3, 26], [27]), ([5], [28]), ([27, 28], [29]), ([29], [30]), ([30], [31]), ([25, 31], [32]), ([32], [33]), ([2, 33], [34]), ([2, 33, 34], [35]), ([5, 33], [36]), ([33, 35, 36], [37]), ([33, 37], [38]), ([33, 38], [39]), ([3, 33], [40]), ([3, 33, 40], [41]), ([5, 33], [42]), ([33, 41, 42], [43]), ([33, 43], [44]), ([33, 44], [45]), ([33, 39, 45], [46]), ([33, 46], [47]), ([33, 47], [48])] [[], [0], [], [1, 2], [3], [4], [], [6], [], [7, 8], [9], [10], [5, 11], [12], [13], [14, 13], [13], [15, 16, 13], [17, 13], [18, 13], [13], [20, 13], [13], [21, 22, 13], [23, 13], [24, 13], [19, 25, 13, 13], [26, 13], [13, 27]] [LL 20 (.fieldAddr 33 (.tmp 2) 0) 0,
 LL 21 (.load 31 (.tmp 20)) 31,
 LL 22 (.move (.tmp 5)) 3,
 LL 23 (.indexAddr 31 (.tmp 21) (.tmp 22)) 0,
 LL 24 (.fieldAddr 208 (.tmp 23) 0) 0,
 LL 25 (.load 9 (.tmp 24)) 9,
 LL 26 (.fieldAddr 33 (.tmp 3) 0) 0,
 LL 27 (.load 31 (.tmp 26)) 31,
 LL 28 (.move (.tmp 5)) 3,
 LL 29 (.indexAddr 31 (.tmp 27) (.tmp 28)) 0,
 LL 30 (.fieldAddr 208 (.tmp 29) 0) 0,
 LL 31 (.load 9 (.tmp 30)) 9,
 LL 32 (.binOp .neq 9 (.tmp 25) (.tmp 31) 9) 4,
 LL 33 (.move (.tmp 32)) 4,
 ⟨some 34, (.fieldAddr 33 (.tmp 2) 0), 0, some (some 33, false)⟩,
 ⟨some 35, (.load 31 (.tmp 34)), 31, some (some 33, false)⟩,
 ⟨some 36, (.move (.tmp 5)), 3, some (some 33, false)⟩,
 ⟨some 37, (.indexAddr 31 (.tmp 35) (.tmp 36)), 0, some (some 33, false)⟩,
 ⟨some 38, (.fieldAddr 208 (.tmp 37) 1), 0, some (some 33, false)⟩,
 ⟨some 39, (.load 128 (.tmp 38)), 128, some (some 33, false)⟩,
 ⟨some 40, (.fieldAddr 33 (.tmp 3) 0), 0, some (some 33, false)⟩,
 ⟨some 41, (.load 31 (.tmp 40)), 31, some (some 33, false)⟩,
 ⟨some 42, (.move (.tmp 5)), 3, some (some 33, false)⟩,
 ⟨some 43, (.indexAddr 31 (.tmp 41) (.tmp 42)), 0, some (some 33, false)⟩,
 ⟨some 44, (.fieldAddr 208 (.tmp 43) 1), 0, some (some 33, false)⟩,
 ⟨some 45, (.load 128 (.tmp 44)), 128, some (some 33, false)⟩,
 ⟨some 46, (.call { callee := (.value (.func 191)), args := #[(.tmp 39), (.tmp 45)], argTypes := #[128, 128] }), 4, some (some 33, false)⟩,
 ⟨some 47, (.unOp .not 4 (.tmp 46)), 4, some (some 33, false)⟩,
 LL 48 (.pick (.tmp 33) (.const (.bool true)) (.tmp 47)) 4])
 (.cond (.tmp 48)
 (.seq (.rgn [] [LL 4 (.assign (.const (.bool false))) 4])
 .ret)
 .skip)))
 (.rgn [] [LL 18 (.move (.tmp 5)) 3,
 LL 19 (.binOp .add 3 (.tmp 18) (.const (.int .i64 1)) 3) 3,
 LL 5 (.assign (.tmp 19)) 3]))))))
 (.seq (.rgn [] [LL 4 (.assign (.const (.bool true))) 4])
 .ret))))
theorem lit110 : Lit Try.prog 110 49 [2, 3] [.tmp 4] c110 := ⟨⟨Try.f110, _, Try.func110, rfl, by kernel_rfl, rfl, rfl, by kernel_rfl, by kernel_rfl⟩, by decide, by kernel_rfl⟩
/-- spec.EqualQueries -/
def c111 : LC :=
  (.seq (.rgn [] [LL 2 (.box 92 (.tmp 0)) 0,
 LL 3 (.box 92 (.tmp 1)) 0,
 LL 4 (.assign (.const (.bool false))) 4])
 (.seq (.seq (.rgn [] [LL 6 (.fieldAddr 92 (.tmp 2) 0) 0,
 LL 7 (.load 3 (.tmp 6)) 3,
 LL 8 (.fieldAddr 92 (.tmp 3) 0) 0,
 LL 9 (.load 3 (.tmp 8)) 3,
 LL 10 (.binOp .neq 3 (.tmp 7) (.tmp 9) 3) 4,
 LL 11 (.move (.tmp 10)) 4,
 ⟨some 12, (.fieldAddr 92 (.tmp 2) 2), 0, some (some 11, false)⟩,
 ⟨some 13, (.load 25 (.tmp 12)), 25, some (some 11, false)⟩,
 ⟨some 14, (.fieldAddr 92 (.tmp 3) 2), 0, some (some 11, false)⟩,
 ⟨some 15, (.load 25 (.tmp 14)), 25, some (some 11, false)⟩,
 ⟨some 16, (.call { callee := (.value (.func 75)), args := #[(.tmp 13), (.tmp 15)], argTypes := #[25, 25] }), 3, some (some 11, false)⟩,
 ⟨some 17, (.binOp .neq 3 (.tmp 16) (.const (.int .i64 0)) 3), 4, some (some 11, false)⟩,
 LL 18 (.pick (.tmp 11) (.const (.bool true)) (.tmp 17)) 4,
 LL 19 (.move (.tmp 18)) 4,
 ⟨some 20, (.fieldAddr 92 (.tmp 2) 1), 0, some (some 19, false)⟩,
 ⟨some 21, (.load 90 (.tmp 20)), 90, some (some 19, false)⟩,
 ⟨some 22, (.call { callee := (.builtin .len), args := #[(.tmp 21)], argTypes := #[90] }), 3, some (some 19, false)⟩,
 ⟨some 23, (.fieldAddr 92 (.tmp 3) 1), 0, some (some 19, false)⟩,
 ⟨some 24, (.load 90 (.tmp 23)), 90, some (some 19, false)⟩,
 ⟨some 25, (.call { callee := (.builtin .len), args := #[(.tmp 24)], argTypes := #[90] }), 3, some (some 19, false)⟩,
 ⟨some 26, (.binOp .neq 3 (.tmp 22) (.tmp 25) 3), 4, some (some 19, false)⟩,
 LL 27 (.pick (.tmp 19) (.const (.bool true)) (.tmp 26)) 4])
 (.cond (.tmp 27)
 (.seq (.rgn [] [LL 4 (.assign (.const (.bool false))) 4])
 .ret)
 .skip))
 (.seq (.seq (.rgn [] [LL 5 (.assign (.const (.int .i64 0))) 3])
 (.blk 0
 (.loop []
 (.seq (.seq (.rgn [] [LL 28 (.move (.tmp 5)) 3,
 LL 29 (.fieldAddr 92 (.tmp 2) 1) 0,
 LL 30 (.load 90 (.tmp 29)) 90,
 LL 31 (.call { callee := (.builtin .len), args := #[(.tmp 30)], argTypes := #[90] }) 3,
 LL 32 (.binOp .lss 3 (.tmp 28) (.tmp 31) 3) 4])
 (.cond (.tmp 32)
 .skip
 (.exit 0)))
 (.seq (.blk 1
 (.seq (.drw [] [([2], [35]), ([2, 35], [36]), ([5], [37]), ([36, 37], [38]), ([38], [39]), ([39], [40]), ([3], [41]), ([3, 41], [42]), ([5], [43]), ([42, 43], [44]), ([44], [45]), ([45], [46]), ([40, 46], [47]), ([47], [48]), ([2, 48], [49]), ([2, 48, 49], [50]), ([5, 48], [51]), ([48, 50, 51], [52]), ([48, 52], [53]), ([48, 53], [54]), ([3, 48], [55]), ([3, 48, 55], [56]), ([5, 48], [57]), ([48, 56, 57], [58]), ([48, 58], [59]), ([48, 59], [60]), ([48, 54, 60], [61]), ([48, 61], [62]), ([48, 62], [63])] [[], [0], [], [1, 2], [3], [4], [], [6], [], [7, 8], [9], [10], [5, 11], [12], [13], [14, 13], [13], [15, 16, 13], [17, 13], [18, 13], [13], [20, 13], [13], [21, 22, 13], [23, 13], [24, 13], [19, 25, 13, 13], [26, 13], [13, 27]] [LL 35 (.fieldAddr 92 (.tmp 2) 1) 0,
 LL 36 (.load 90 (.tmp 35)) 90,
 LL 37 (.move (.tmp 5)) 3,
 LL 38 (.indexAddr 90 (.tmp 36) (.tmp 37)) 0,
 LL 39 (.fieldAddr 195 (.tmp 38) 0) 0,
 LL 40 (.load 9 (.tmp 39)) 9,
 LL 41 (.fieldAddr 92 (.tmp 3) 1) 0,
 LL 42 (.load 90 (.tmp 41)) 90,
 LL 43 (.move (.tmp 5)) 3,
 LL 44 (.indexAddr 90 (.tmp 42) (.tmp 43)) 0,
 LL 45 (.fieldAddr 195 (.tmp 44) 0) 0,
 LL 46 (.load 9 (.tmp 45)) 9,
 LL 47 (.binOp .neq 9 (.tmp 40) (.tmp 46) 9) 4,
 LL 48 (.move (.tmp 47)) 4,
 ⟨some 49, (.fieldAddr 92 (.tmp 2) 1), 0, some (some 48, false)⟩,
 ⟨some 50, (.load 90 (.tmp 49)), 90, some (some 48, false)⟩,
 ⟨some 51, (.move (.tmp 5)), 3, some (some 48, false)⟩,
 ⟨some 52, (.indexAddr 90 (.tmp 50) (.tmp 51)), 0, some (some 48, false)⟩,
 ⟨some 53, (.fieldAddr 195 (.tmp 52) 1), 0, some (some 48, false)⟩,
 ⟨some 54, (.load 25 (.tmp 53)), 25, some (some 48, false)⟩,
 ⟨some 55, (.fieldAddr 92 (.tmp 3) 1), 0, some (some 48, false)⟩,
 ⟨some 56, (.load 90 (.tmp 55)), 90, some (some 48, false)⟩,
 ⟨some 57, (.move (.tmp 5)), 3, some (some 48, false)⟩,
 ⟨some 58, (.indexAddr 90 (.tmp 56) (.tmp 57)), 0, some (some 48, false)⟩,
 ⟨some 59, (.fieldAddr 195 (.tmp 58) 1), 0, some (some 48, false)⟩,
 ⟨some 60, (.load 25 (.tmp 59)), 25, some (some 48, false)⟩,
 ⟨some 61, (.call { callee := (.value (.func 75)), args := #[(.tmp 54), (.tmp 60)], argTypes := #[25, 25] }), 3, some (some 48, false)⟩,
 ⟨some 62, (.binOp .neq 3 (.tmp 61) (.const (.int .i64 0)) 3), 4, some (some 48, false)⟩,
 LL 63 (.pick (.tmp 48) (.const (.bool true)) (.tmp 62)) 4])
 (.cond (.tmp 63)
 (.seq (.rgn [] [LL 4 (.assign (.const (.bool false))) 4])
 .ret)
 .skip)))
 (.rgn [] [LL 33 (.move (.tmp 5)) 3,
 LL 34 (.binOp .add 3 (.tmp 33) (.const (.int .i64 1)) 3) 3,
 LL 5 (.assign (.tmp 34)) 3]))))))
 (.seq (.rgn [] [LL 4 (.assign (.const (.bool true))) 4])
 .ret))))
theorem lit111 : Lit Try.prog 111 64 [2, 3] [.tmp 4] c111 := ⟨⟨Try.f111, _, Try.func111, rfl, by kernel_rfl, rfl, rfl, by kernel_rfl, by kernel_rfl⟩, by decide, by kernel_rfl⟩
/-- spec.EqualCounted -/
def c112 : LC :=
  (.seq (.rgn [] [LL 2 (.box 159 (.tmp 0)) 0,
 LL 3 (.box 159 (.tmp 1)) 0,
 LL 4 (.assign (.const (.bool false))) 4])
 (.seq (.rgn [] [LL 5 (.fieldAddr 159 (.tmp 2) 0) 0,
 LL 6 (.load 3 (.tmp 5)) 3,
 LL 7 (.fieldAddr 159 (.tmp 3) 0) 0,
 LL 8 (.load 3 (.tmp 7)) 3,
 LL 9 (.binOp .eql 3 (.tmp 6) (.tmp 8) 3) 4,
 LL 10 (.move (.tmp 9)) 4,
 ⟨some 11, (.fieldAddr 159 (.tmp 2) 1), 0, some (some 10, true)⟩,
 ⟨some 12, (.load 82 (.tmp 11)), 82, some (some 10, true)⟩,
 ⟨some 13, (.build 128 #[(1, (.tmp 12))]), 128, some (some 10, true)⟩,
 ⟨some 14, (.fieldAddr 159 (.tmp 3) 1), 0, some (some 10, true)⟩,
 ⟨some 15, (.load 82 (.tmp 14)), 82, some (some 10, true)⟩,
 ⟨some 16, (.build 128 #[(1, (.tmp 15))]), 128, some (some 10, true)⟩,
 ⟨some 17, (.call { callee := (.value (.func 191)), args := #[(.tmp 13), (.tmp 16)], argTypes := #[128, 128] }), 4, some (some 10, true)⟩,
 LL 18 (.pick (.tmp 10) (.tmp 17) (.const (.bool false))) 4,
 LL 19 (.move (.tmp 18)) 4,
 ⟨some 20, (.fieldAddr 159 (.tmp 2) 2), 0, some (some 19, true)⟩,
 ⟨some 21, (.load 25 (.tmp 20)), 25, some (some 19, true)⟩,
 ⟨some 22, (.fieldAddr 159 (.tmp 3) 2), 0, some (some 19, true)⟩,
 ⟨some 23, (.load 25 (.tmp 22)), 25, some (some 19, true)⟩,
 ⟨some 24, (.call { callee := (.value (.func 75)), args := #[(.tmp 21), (.tmp 23)], argTypes := #[25, 25] }), 3, some (some 19, true)⟩,
 ⟨some 25, (.binOp .eql 3 (.tmp 24) (.const (.int .i64 0)) 3), 4, some (some 19, true)⟩,
 LL 26 (.pick (.tmp 19) (.tmp 25) (.const (.bool false))) 4,
 LL 4 (.assign (.tmp 26)) 4])
 .ret))
theorem lit112 : Lit Try.prog 112 27 [2, 3] [.tmp 4] c112 := ⟨⟨Try.f112, _, Try.func112, rfl, by kernel_rfl, rfl, rfl, by kernel_rfl, by kernel_rfl⟩, by decide, by kernel_rfl⟩
/-- laws.toViewS -/
def c113 : LC :=
  (.seq (.rgn [] [LL 2 (.assign (.const (.slice none 0 0))) 71])
 (.seq (.rgn [3, 7] [LL 5 (.move (.tmp 0)) 65,
 LL 6 (.call { callee := (.builtin .len), args := #[(.tmp 5)], argTypes := #[65] }) 3,
 LL 7 (.makeSlice 71 (.tmp 6) (.tmp 6)) 71,
 LL 3 (.assign (.tmp 7)) 71])
 (.seq (.seq (.rgn [] [LL 4 (.assign (.const (.int .i64 0))) 3])
 (.blk 0
 (.loop []
 (.seq (.seq (.rgn [] [LL 8 (.move (.tmp 4)) 3,
 LL 9 (.move (.tmp 0)) 65,
 LL 10 (.call { callee := (.builtin .len), args := #[(.tmp 9)], argTypes := #[65] }) 3,
 LL 11 (.binOp .lss 3 (.tmp 8) (.tmp 10) 3) 4])
 (.cond (.tmp 11)
 .skip
 (.exit 0)))
 (.seq (.blk 1
 (.rgn [] [LL 14 (.move (.tmp 3)) 71,
 LL 15 (.move (.tmp 4)) 3,
 LL 16 (.move (.tmp 0)) 65,
 LL 17 (.move (.tmp 4)) 3,
 LL 18 (.indexAddr 65 (.tmp 16) (.tmp 17)) 0,
 LL 19 (.load 223 (.tmp 18)) 223,
 LL 20 (.call { callee := (.value (.func 192)), args := #[(.tmp 19)], argTypes := #[223] }) 161,
 LL 21 (.indexAddr 71 (.tmp 14) (.tmp 15)) 0,
 ⟨none, (.store 161 (.tmp 21) (.tmp 20)), 0, none⟩]))
 (.rgn [] [LL 12 (.move (.tmp 4)) 3,
 LL 13 (.binOp .add 3 (.tmp 12) (.const (.int .i64 1)) 3) 3,
 LL 4 (.assign (.tmp 13)) 3]))))))
 (.seq (.rgn [22] [LL 22 (.move (.tmp 3)) 71,
 LL 2 (.assign (.tmp 22)) 71])
 .ret))))
theorem lit113 : Lit Try.prog 113 23 [3, 7] [.tmp 2] c113 := ⟨⟨Try.f113, _, Try.func113, rfl, by kernel_rfl, rfl, rfl, by kernel_rfl, by kernel_rfl⟩, by decide, by kernel_rfl⟩
/-- laws.toCountedRelationS -/
def c114 : LC :=
  (.seq (.rgn [] [LL 2 (.assign (.const (.slice none 0 0))) 72])
 (.seq (.rgn [3, 7] [LL 5 (.move (.tmp 0)) 66,
 LL 6 (.call { callee := (.builtin .len), args := #[(.tmp 5)], argTypes := #[66] }) 3,
 LL 7 (.makeSlice 72 (.tmp 6) (.tmp 6)) 72,
 LL 3 (.assign (.tmp 7)) 72])
 (.seq (.seq (.rgn [] [LL 4 (.assign (.const (.int .i64 0))) 3])
 (.blk 0
 (.loop []
 (.seq (.seq (.rgn [] [LL 8 (.move (.tmp 4)) 3,
 LL 9 (.move (.tmp 0)) 66,
 LL 10 (.call { callee := (.builtin .len), args := #[(.tmp 9)], argTypes := #[66] }) 3,
 LL 11 (.binOp .lss 3 (.tmp 8) (.tmp 10) 3) 4])
 (.cond (.tmp 11)
 .skip
 (.exit 0)))
 (.seq (.blk 1
 (.rgn [] [LL 14 (.move (.tmp 3)) 72,
 LL 15 (.move (.tmp 4)) 3,
 LL 16 (.move (.tmp 0)) 66,
 LL 17 (.move (.tmp 4)) 3,
 LL 18 (.indexAddr 66 (.tmp 16) (.tmp 17)) 0,
 LL 19 (.load 221 (.tmp 18)) 221,
 LL 20 (.call { callee := (.value (.func 193)), args := #[(.tmp 19)], argTypes := #[221] }) 159,
 LL 21 (.indexAddr 72 (.tmp 14) (.tmp 15)) 0,
 ⟨none, (.store 159 (.tmp 21) (.tmp 20)), 0, none⟩]))
 (.rgn [] [LL 12 (.move (.tmp 4)) 3,
 LL 13 (.binOp .add 3 (.tmp 12) (.const (.int .i64 1)) 3) 3,
 LL 4 (.assign (.tmp 13)) 3]))))))
 (.seq (.rgn [22] [LL 22 (.move (.tmp 3)) 72,
 LL 2 (.assign (.tmp 22)) 72])
 .ret))))
theorem lit114 : Lit Try.prog 114 23 [3, 7] [.tmp 2] c114 := ⟨⟨Try.f114, _, Try.func114, rfl, by kernel_rfl, rfl, rfl, by kernel_rfl, by kernel_rfl⟩, by decide, by kernel_rfl⟩
/-- impl.EqualDatabases -/
def c115 : LC :=
  (.seq (.rgn [] [LL 2 (.box 33 (.tmp 0)) 0,
 LL 3 (.box 33 (.tmp 1)) 0,
 LL 4 (.assign (.const (.bool false))) 4])
 (.seq (.seq (.rgn [] [LL 6 (.fieldAddr 33 (.tmp 2) 0) 0,
 LL 7 (.load 31 (.tmp 6)) 31,
 LL 8 (.call { callee := (.builtin .len), args := #[(.tmp 7)], argTypes := #[31] }) 3,
 LL 9 (.fieldAddr 33 (.tmp 3) 0) 0,
 LL 10 (.load 31 (.tmp 9)) 31,
 LL 11 (.call { callee := (.builtin .len), args := #[(.tmp 10)], argTypes := #[31] }) 3,
 LL 12 (.binOp .neq 3 (.tmp 8) (.tmp 11) 3) 4])
 (.cond (.tmp 12)
 (.seq (.rgn [] [LL 4 (.assign (.const (.bool false))) 4])
 .ret)
 .skip))
 (.seq (.seq (.rgn [] [LL 13 (.fieldAddr 33 (.tmp 2) 0) 0,
 LL 14 (.load 31 (.tmp 13)) 31,
 LL 15 (.call { callee := (.builtin .len), args := #[(.tmp 14)], argTypes := #[31] }) 3,
 LL 16 (.move (.const (.int .i64 0))) 3])
 (.blk 0
 (.loop []
 (.seq (.rgn [] [LL 17 (.binOp .lss 3 (.tmp 16) (.tmp 15) 3) 0])
 (.seq (.cond (.tmp 17)
 .skip
 (.exit 0))
 (.seq (.blk 1
 (.seq (.rgn [] [LL 18 (.move (.tmp 16)) 3,
 LL 5 (.assign (.tmp 18)) 3])
 (.seq (.drw [] [([2], [19]), ([2, 19], [20]), ([5], [21]), ([20, 21], [22]), ([22], [23]), ([23], [24]), ([3], [25]), ([3, 25], [26]), ([5], [27]), ([26, 27], [28]), ([28], [29]), ([29], [30]), ([24, 30], [31]), ([31], [32]), ([2, 32], [33]), ([2, 32, 33], [34]), ([5, 32], [35]), ([32, 34, 35], [36]), ([32, 36], [37]), ([32, 37], [38]), ([3, 32], [39]), ([3, 32, 39], [40]), ([5, 32], [41]), ([32, 40, 41], [42]), ([32, 42], [43]), ([32, 43], [44]), ([32, 38, 44], [45]), ([32, 45], [46]), ([32, 46], [47])] [[], [0], [], [1, 2], [3], [4], [], [6], [], [7, 8], [9], [10], [5, 11], [12], [13], [14, 13], [13], [15, 16, 13], [17, 13], [18, 13], [13], [20, 13], [13], [21, 22, 13], [23, 13], [24, 13], [19, 25, 13, 13], [26, 13], [13, 27]] [LL 19 (.fieldAddr 33 (.tmp 2) 0) 0,
 LL 20 (.load 31 (.tmp 19)) 31,
 LL 21 (.move (.tmp 5)) 3,
 LL 22 (.indexAddr 31 (.tmp 20) (.tmp 21)) 0,
 LL 23 (.fieldAddr 208 (.tmp 22) 0) 0,
 LL 24 (.load 9 (.tmp 23)) 9,
 LL 25 (.fieldAddr 33 (.tmp 3) 0) 0,
 LL 26 (.load 31 (.tmp 25)) 31,
 LL 27 (.move (.tmp 5)) 3,
 LL 28 (.indexAddr 31 (.tmp 26) (.tmp 27)) 0,
 LL 29 (.fieldAddr 208 (.tmp 28) 0) 0,
 LL 30 (.load 9 (.tmp 29)) 9,
 LL 31 (.binOp .neq 9 (.tmp 24) (.tmp 30) 9) 4,
 LL 32 (.move (.tmp 31)) 4,
 ⟨some 33, (.fieldAddr 33 (.tmp 2) 0), 0, some (some 32, false)⟩,
 ⟨some 34, (.load 31 (.tmp 33)), 31, some (some 32, false)⟩,
 ⟨some 35, (.move (.tmp 5)), 3, some (some 32, false)⟩,
 ⟨some 36, (.indexAddr 31 (.tmp 34) (.tmp 35)), 0, some (some 32, false)⟩,
 ⟨some 37, (.fieldAddr 208 (.tmp 36) 1), 0, some (some 32, false)⟩,
 ⟨some 38, (.load 128 (.tmp 37)), 128, some (some 32, false)⟩,
 ⟨some 39, (.fieldAddr 33 (.tmp 3) 0), 0, some (some 32, false)⟩,
 ⟨some 40, (.load 31 (.tmp 39)), 31, some (some 32, false)⟩,
 ⟨some 41, (.move (.tmp 5)), 3, some (some 32, false)⟩,
 ⟨some 42, (.indexAddr 31 (.tmp 40) (.tmp 41)), 0, some (some 32, false)⟩,
 ⟨some 43, (.fieldAddr 208 (.tmp 42) 1), 0, some (some 32, false)⟩,
 ⟨some 44, (.load 128 (.tmp 43)), 128, some (some 32, false)⟩,
 ⟨some 45, (.call { callee := (.value (.func 194)), args := #[(.tmp 38), (.tmp 44)], argTypes := #[128, 128] }), 4, some (some 32, false)⟩,
 ⟨some 46, (.unOp .not 4 (.tmp 45)), 4, some (some 32, false)⟩,
 LL 47 (.pick (.tmp 32) (.const (.bool true)) (.tmp 46)) 4])
 (.cond (.tmp 47)
 (.seq (.rgn [] [LL 4 (.assign (.const (.bool false))) 4])
 .ret)
 .skip))))
 (.rgn [] [LL 48 (.binOp .add 3 (.tmp 16) (.const (.int .i64 1)) 3) 3,
 LL 16 (.move (.tmp 48)) 3])))))))
 (.seq (.rgn [] [LL 4 (.assign (.const (.bool true))) 4])
 .ret))))
theorem lit115 : Lit Try.prog 115 49 [2, 3] [.tmp 4] c115 := ⟨⟨Try.f115, _, Try.func115, rfl, by kernel_rfl, rfl, rfl, by kernel_rfl, by kernel_rfl⟩, by decide, by kernel_rfl⟩
/-- impl.EqualQueries -/
def c116 : LC :=
  (.seq (.rgn [] [LL 2 (.box 92 (.tmp 0)) 0,
 LL 3 (.box 92 (.tmp 1)) 0,
 LL 4 (.assign (.const (.bool false))) 4])
 (.seq (.seq (.rgn [] [LL 6 (.fieldAddr 92 (.tmp 2) 0) 0,
 LL 7 (.load 3 (.tmp 6)) 3,
 LL 8 (.fieldAddr 92 (.tmp 3) 0) 0,
 LL 9 (.load 3 (.tmp 8)) 3,
 LL 10 (.binOp .neq 3 (.tmp 7) (.tmp 9) 3) 4,
 LL 11 (.move (.tmp 10)) 4,
 ⟨some 12, (.fieldAddr 92 (.tmp 2) 1), 0, some (some 11, false)⟩,
 ⟨some 13, (.load 90 (.tmp 12)), 90, some (some 11, false)⟩,
 ⟨some 14, (.call { callee := (.builtin .len), args := #[(.tmp 13)], argTypes := #[90] }), 3, some (some 11, false)⟩,
 ⟨some 15, (.fieldAddr 92 (.tmp 3) 1), 0, some (some 11, false)⟩,
 ⟨some 16, (.load 90 (.tmp 15)), 90, some (some 11, false)⟩,
 ⟨some 17, (.call { callee := (.builtin .len), args := #[(.tmp 16)], argTypes := #[90] }), 3, some (some 11, false)⟩,
 ⟨some 18, (.binOp .neq 3 (.tmp 14) (.tmp 17) 3), 4, some (some 11, false)⟩,
 LL 19 (.pick (.tmp 11) (.const (.bool true)) (.tmp 18)) 4,
 LL 20 (.move (.tmp 19)) 4,
 ⟨some 21, (.fieldAddr 92 (.tmp 2) 2), 0, some (some 20, false)⟩,
 ⟨some 22, (.load 25 (.tmp 21)), 25, some (some 20, false)⟩,
 ⟨some 23, (.fieldAddr 92 (.tmp 3) 2), 0, some (some 20, false)⟩,
 ⟨some 24, (.load 25 (.tmp 23)), 25, some (some 20, false)⟩,
 ⟨some 25, (.call { callee := (.value (.func 80)), args := #[(.tmp 22), (.tmp 24)], argTypes := #[25, 25] }), 4, some (some 20, false)⟩,
 ⟨some 26, (.unOp .not 4 (.tmp 25)), 4, some (some 20, false)⟩,
 LL 27 (.pick (.tmp 20) (.const (.bool true)) (.tmp 26)) 4])
 (.cond (.tmp 27)
 (.seq (.rgn [] [LL 4 (.assign (.const (.bool false))) 4])
 .ret)
 .skip))
 (.seq (.seq (.rgn [] [LL 28 (.fieldAddr 92 (.tmp 2) 1) 0,
 LL 29 (.load 90 (.tmp 28)) 90,
 LL 30 (.call { callee := (.builtin .len), args := #[(.tmp 29)], argTypes := #[90] }) 3,
 LL 31 (.move (.const (.int .i64 0))) 3])
 (.blk 0
 (.loop []
 (.seq (.rgn [] [LL 32 (.binOp .lss 3 (.tmp 31) (.tmp 30) 3) 0])
 (.seq (.cond (.tmp 32)
 .skip
 (.exit 0))
 (.seq (.blk 1
 (.seq (.rgn [] [LL 33 (.move (.tmp 31)) 3,
 LL 5 (.assign (.tmp 33)) 3])
 (.seq (.drw [] [([2], [34]), ([2, 34], [35]), ([5], [36]), ([35, 36], [37]), ([37], [38]), ([38], [39]), ([3], [40]), ([3, 40], [41]), ([5], [42]), ([41, 42], [43]), ([43], [44]), ([44], [45]), ([39, 45], [46]), ([46], [47]), ([2, 47], [48]), ([2, 47, 48], [49]), ([5, 47], [50]), ([47, 49, 50], [51]), ([47, 51], [52]), ([47, 52], [53]), ([3, 47], [54]), ([3, 47, 54], [55]), ([5, 47], [56]), ([47, 55, 56], [57]), ([47, 57], [58]), ([47, 58], [59]), ([47, 53, 59], [60]), ([47, 60], [61]), ([47, 61], [62])] [[], [0], [], [1, 2], [3], [4], [], [6], [], [7, 8], [9], [10], [5, 11], [12], [13], [14, 13], [13], [15, 16, 13], [17, 13], [18, 13], [13], [20, 13], [13], [21, 22, 13], [23, 13], [24, 13], [19, 25, 13, 13], [26, 13], [13, 27]] [LL 34 (.fieldAddr 92 (.tmp 2) 1) 0,
 LL 35 (.load 90 (.tmp 34)) 90,
 LL 36 (.move (.tmp 5)) 3,
 LL 37 (.indexAddr 90 (.tmp 35) (.tmp 36)) 0,
 LL 38 (.fieldAddr 195 (.tmp 37) 0) 0,
 LL 39 (.load 9 (.tmp 38)) 9,
 LL 40 (.fieldAddr 92 (.tmp 3) 1) 0,
 LL 41 (.load 90 (.tmp 40)) 90,
 LL 42 (.move (.tmp 5)) 3,
 LL 43 (.indexAddr 90 (.tmp 41) (.tmp 42)) 0,
 LL 44 (.fieldAddr 195 (.tmp 43) 0) 0,
 LL 45 (.load 9 (.tmp 44)) 9,
 LL 46 (.binOp .neq 9 (.tmp 39) (.tmp 45) 9) 4,
 LL 47 (.move (.tmp 46)) 4,
 ⟨some 48, (.fieldAddr 92 (.tmp 2) 1), 0, some (some 47, false)⟩,
 ⟨some 49, (.load 90 (.tmp 48)), 90, some (some 47, false)⟩,
 ⟨some 50, (.move (.tmp 5)), 3, some (some 47, false)⟩,
 ⟨some 51, (.indexAddr 90 (.tmp 49) (.tmp 50)), 0, some (some 47, false)⟩,
 ⟨some 52, (.fieldAddr 195 (.tmp 51) 1), 0, some (some 47, false)⟩,
 ⟨some 53, (.load 25 (.tmp 52)), 25, some (some 47, false)⟩,
 ⟨some 54, (.fieldAddr 92 (.tmp 3) 1), 0, some (some 47, false)⟩,
 ⟨some 55, (.load 90 (.tmp 54)), 90, some (some 47, false)⟩,
 ⟨some 56, (.move (.tmp 5)), 3, some (some 47, false)⟩,
 ⟨some 57, (.indexAddr 90 (.tmp 55) (.tmp 56)), 0, some (some 47, false)⟩,
 ⟨some 58, (.fieldAddr 195 (.tmp 57) 1), 0, some (some 47, false)⟩,
 ⟨some 59, (.load 25 (.tmp 58)), 25, some (some 47, false)⟩,
 ⟨some 60, (.call { callee := (.value (.func 80)), args := #[(.tmp 53), (.tmp 59)], argTypes := #[25, 25] }), 4, some (some 47, false)⟩,
 ⟨some 61, (.unOp .not 4 (.tmp 60)), 4, some (some 47, false)⟩,
 LL 62 (.pick (.tmp 47) (.const (.bool true)) (.tmp 61)) 4])
 (.cond (.tmp 62)
 (.seq (.rgn [] [LL 4 (.assign (.const (.bool false))) 4])
 .ret)
 .skip))))
 (.rgn [] [LL 63 (.binOp .add 3 (.tmp 31) (.const (.int .i64 1)) 3) 3,
 LL 31 (.move (.tmp 63)) 3])))))))
 (.seq (.rgn [] [LL 4 (.assign (.const (.bool true))) 4])
 .ret))))
theorem lit116 : Lit Try.prog 116 64 [2, 3] [.tmp 4] c116 := ⟨⟨Try.f116, _, Try.func116, rfl, by kernel_rfl, rfl, rfl, by kernel_rfl, by kernel_rfl⟩, by decide, by kernel_rfl⟩
/-- impl.EqualCounted -/
def c117 : LC :=
  (.seq (.rgn [] [LL 2 (.box 159 (.tmp 0)) 0,
 LL 3 (.box 159 (.tmp 1)) 0,
 LL 4 (.assign (.const (.bool false))) 4])
 (.seq (.rgn [] [LL 5 (.fieldAddr 159 (.tmp 2) 0) 0,
 LL 6 (.load 3 (.tmp 5)) 3,
 LL 7 (.fieldAddr 159 (.tmp 3) 0) 0,
 LL 8 (.load 3 (.tmp 7)) 3,
 LL 9 (.binOp .eql 3 (.tmp 6) (.tmp 8) 3) 4,
 LL 10 (.move (.tmp 9)) 4,
 ⟨some 11, (.fieldAddr 159 (.tmp 2) 1), 0, some (some 10, true)⟩,
 ⟨some 12, (.load 82 (.tmp 11)), 82, some (some 10, true)⟩,
 ⟨some 13, (.fieldAddr 159 (.tmp 3) 1), 0, some (some 10, true)⟩,
 ⟨some 14, (.load 82 (.tmp 13)), 82, some (some 10, true)⟩,
 ⟨some 15, (.call { callee := (.value (.func 195)), args := #[(.tmp 12), (.tmp 14)], argTypes := #[82, 82] }), 4, some (some 10, true)⟩,
 LL 16 (.pick (.tmp 10) (.tmp 15) (.const (.bool false))) 4,
 LL 17 (.move (.tmp 16)) 4,
 ⟨some 18, (.fieldAddr 159 (.tmp 2) 2), 0, some (some 17, true)⟩,
 ⟨some 19, (.load 25 (.tmp 18)), 25, some (some 17, true)⟩,
 ⟨some 20, (.fieldAddr 159 (.tmp 3) 2), 0, some (some 17, true)⟩,
 ⟨some 21, (.load 25 (.tmp 20)), 25, some (some 17, true)⟩,
 ⟨some 22, (.call { callee := (.value (.func 80)), args := #[(.tmp 19), (.tmp 21)], argTypes := #[25, 25] }), 4, some (some 17, true)⟩,
 LL 23 (.pick (.tmp 17) (.tmp 22) (.const (.bool false))) 4,
 LL 4 (.assign (.tmp 23)) 4])
 .ret))
theorem lit117 : Lit Try.prog 117 24 [2, 3] [.tmp 4] c117 := ⟨⟨Try.f117, _, Try.func117, rfl, by kernel_rfl, rfl, rfl, by kernel_rfl, by kernel_rfl⟩, by decide, by kernel_rfl⟩
/-- laws.eqViewS -/
def c118 : LC :=
  (.seq (.rgn [] [LL 4 (.assign (.const (.bool false))) 4])
 (.seq (.seq (.rgn [] [LL 6 (.move (.tmp 0)) 71,
 LL 7 (.call { callee := (.builtin .len), args := #[(.tmp 6)], argTypes := #[71] }) 3,
 LL 8 (.move (.tmp 1)) 71,
 LL 9 (.call { callee := (.builtin .len), args := #[(.tmp 8)], argTypes := #[71] }) 3,
 LL 10 (.binOp .neq 3 (.tmp 7) (.tmp 9) 3) 4])
 (.cond (.tmp 10)
 (.seq (.rgn [] [LL 4 (.assign (.const (.bool false))) 4])
 .ret)
 .skip))
 (.seq (.seq (.rgn [] [LL 5 (.assign (.const (.int .i64 0))) 3])
 (.blk 0
 (.loop []
 (.seq (.seq (.rgn [] [LL 11 (.move (.tmp 5)) 3,
 LL 12 (.move (.tmp 0)) 71,
 LL 13 (.call { callee := (.builtin .len), args := #[(.tmp 12)], argTypes := #[71] }) 3,
 LL 14 (.binOp .lss 3 (.tmp 11) (.tmp 13) 3) 4])
 (.cond (.tmp 14)
 .skip
 (.exit 0)))
 (.seq (.blk 1
 (.seq (.drw [] [([0], [17]), ([5], [18]), ([17, 18], [19]), ([19], [20]), ([1], [21]), ([5], [22]), ([21, 22], [23]), ([23], [24]), ([20, 24], [25]), ([25], [26])] [[], [], [0, 1], [2], [], [], [4, 5], [6], [3, 7], [8]] [LL 17 (.move (.tmp 0)) 71,
 LL 18 (.move (.tmp 5)) 3,
 LL 19 (.indexAddr 71 (.tmp 17) (.tmp 18)) 0,
 LL 20 (.load 161 (.tmp 19)) 161,
 LL 21 (.move (.tmp 1)) 71,
 LL 22 (.move (.tmp 5)) 3,
 LL 23 (.indexAddr 71 (.tmp 21) (.tmp 22)) 0,
 LL 24 (.load 161 (.tmp 23)) 161,
 LL 25 (.call { callee := (.value (.func 196)), args := #[(.tmp 20), (.tmp 24)], argTypes := #[161, 161] }) 4,
 LL 26 (.unOp .not 4 (.tmp 25)) 4])
 (.cond (.tmp 26)
 (.seq (.rgn [] [LL 4 (.assign (.const (.bool false))) 4])
 .ret)
 .skip)))
 (.rgn [] [LL 15 (.move (.tmp 5)) 3,
 LL 16 (.binOp .add 3 (.tmp 15) (.const (.int .i64 1)) 3) 3,
 LL 5 (.assign (.tmp 16)) 3]))))))
 (.seq (.rgn [] [LL 4 (.assign (.const (.bool true))) 4])
 .ret))))
theorem lit118 : Lit Try.prog 118 27 [] [.tmp 4] c118 := ⟨⟨Try.f118, _, Try.func118, rfl, by kernel_rfl, rfl, rfl, by kernel_rfl, by kernel_rfl⟩, by decide, by kernel_rfl⟩
/-- laws.eqCountedRelationS -/
def c119 : LC :=
  (.seq (.rgn [] [LL 4 (.assign (.const (.bool false))) 4])
 (.seq (.seq (.rgn [] [LL 6 (.move (.tmp 0)) 72,
 LL 7 (.call { callee := (.builtin .len), args := #[(.tmp 6)], argTypes := #[72] }) 3,
 LL 8 (.move (.tmp 1)) 72,
 LL 9 (.call { callee := (.builtin .len), args := #[(.tmp 8)], argTypes := #[72] }) 3,
 LL 10 (.binOp .neq 3 (.tmp 7) (.tmp 9) 3) 4])
 (.cond (.tmp 10)
 (.seq (.rgn [] [LL 4 (.assign (.const (.bool false))) 4])
 .ret)
 .skip))
 (.seq (.seq (.rgn [] [LL 5 (.assign (.const (.int .i64 0))) 3])
 (.blk 0
 (.loop []
 (.seq (.seq (.rgn [] [LL 11 (.move (.tmp 5)) 3,
 LL 12 (.move (.tmp 0)) 72,
 LL 13 (.call { callee := (.builtin .len), args := #[(.tmp 12)], argTypes := #[72] }) 3,
 LL 14 (.binOp .lss 3 (.tmp 11) (.tmp 13) 3) 4])
 (.cond (.tmp 14)
 .skip
 (.exit 0)))
 (.seq (.blk 1
 (.seq (.drw [] [([0], [17]), ([5], [18]), ([17, 18], [19]), ([19], [20]), ([1], [21]), ([5], [22]), ([21, 22], [23]), ([23], [24]), ([20, 24], [25]), ([25], [26])] [[], [], [0, 1], [2], [], [], [4, 5], [6], [3, 7], [8]] [LL 17 (.move (.tmp 0)) 72,
 LL 18 (.move (.tmp 5)) 3,
 LL 19 (.indexAddr 72 (.tmp 17) (.tmp 18)) 0,
 LL 20 (.load 159 (.tmp 19)) 159,
 LL 21 (.move (.tmp 1)) 72,
 LL 22 (.move (.tmp 5)) 3,
 LL 23 (.indexAddr 72 (.tmp 21) (.tmp 22)) 0,
 LL 24 (.load 159 (.tmp 23)) 159,
 LL 25 (.call { callee := (.value (.func 197)), args := #[(.tmp 20), (.tmp 24)], argTypes := #[159, 159] }) 4,
 LL 26 (.unOp .not 4 (.tmp 25)) 4])
 (.cond (.tmp 26)
 (.seq (.rgn [] [LL 4 (.assign (.const (.bool false))) 4])
 .ret)
 .skip)))
 (.rgn [] [LL 15 (.move (.tmp 5)) 3,
 LL 16 (.binOp .add 3 (.tmp 15) (.const (.int .i64 1)) 3) 3,
 LL 5 (.assign (.tmp 16)) 3]))))))
 (.seq (.rgn [] [LL 4 (.assign (.const (.bool true))) 4])
 .ret))))
theorem lit119 : Lit Try.prog 119 27 [] [.tmp 4] c119 := ⟨⟨Try.f119, _, Try.func119, rfl, by kernel_rfl, rfl, rfl, by kernel_rfl, by kernel_rfl⟩, by decide, by kernel_rfl⟩
/-- laws.szAtomS -/
def c120 : LC :=
  (.seq (.rgn [] [LL 4 (.assign (.const (.int .i64 0))) 3])
 (.seq (.rgn [] [LL 6 (.move (.tmp 1)) 3,
 LL 7 (.move (.tmp 0)) 77,
 LL 8 (.call { callee := (.builtin .len), args := #[(.tmp 7)], argTypes := #[77] }) 3,
 LL 9 (.binOp .sub 3 (.tmp 6) (.tmp 8) 3) 3,
 LL 1 (.assign (.tmp 9)) 3])
 (.seq (.seq (.rgn [] [LL 10 (.move (.tmp 1)) 3,
 LL 11 (.binOp .lss 3 (.tmp 10) (.const (.int .i64 0)) 3) 4])
 (.cond (.tmp 11)
 (.seq (.rgn [] [LL 4 (.assign (.const (.int .i64 (-1)))) 3])
 .ret)
 .skip))
 (.seq (.seq (.rgn [] [LL 5 (.assign (.const (.int .i64 0))) 3])
 (.blk 0
 (.loop []
 (.seq (.seq (.rgn [] [LL 12 (.move (.tmp 5)) 3,
 LL 13 (.move (.tmp 0)) 77,
 LL 14 (.call { callee := (.builtin .len), args := #[(.tmp 13)], argTypes := #[77] }) 3,
 LL 15 (.binOp .lss 3 (.tmp 12) (.tmp 14) 3) 4])
 (.cond (.tmp 15)
 .skip
 (.exit 0)))
 (.seq (.blk 1
 (.seq (.rgn [] [LL 18 (.move (.tmp 0)) 77,
 LL 19 (.move (.tmp 5)) 3,
 LL 20 (.indexAddr 77 (.tmp 18) (.tmp 19)) 0,
 LL 21 (.load 231 (.tmp 20)) 231,
 LL 22 (.move (.tmp 1)) 3,
 LL 23 (.call { callee := (.value (.func 198)), args := #[(.tmp 21), (.tmp 22)], argTypes := #[231, 3] }) 3,
 LL 1 (.assign (.tmp 23)) 3])
 (.seq (.rgn [] [LL 24 (.move (.tmp 1)) 3,
 LL 25 (.binOp .lss 3 (.tmp 24) (.const (.int .i64 0)) 3) 4])
 (.cond (.tmp 25)
 (.seq (.rgn [] [LL 4 (.assign (.const (.int .i64 (-1)))) 3])
 .ret)
 .skip))))
 (.rgn [] [LL 16 (.move (.tmp 5)) 3,
 LL 17 (.binOp .add 3 (.tmp 16) (.const (.int .i64 1)) 3) 3,
 LL 5 (.assign (.tmp 17)) 3]))))))
 (.seq (.rgn [] [LL 26 (.move (.tmp 1)) 3,
 LL 4 (.assign (.tmp 26)) 3])
 .ret)))))
theorem lit120 : Lit Try.prog 120 27 [] [.tmp 4] c120 := ⟨⟨Try.f120, _, Try.func120, rfl, by kernel_rfl, rfl, rfl, by kernel_rfl, by kernel_rfl⟩, by decide, by kernel_rfl⟩
/-- laws.toAtomS -/
def c126 : LC :=
  (.seq (.rgn [] [LL 2 (.assign (.const (.slice none 0 0))) 90])
 (.seq (.rgn [3, 7] [LL 5 (.move (.tmp 0)) 77,
 LL 6 (.call { callee := (.builtin .len), args := #[(.tmp 5)], argTypes := #[77] }) 3,
 LL 7 (.makeSlice 90 (.tmp 6) (.tmp 6)) 90,
 LL 3 (.assign (.tmp 7)) 90])
 (.seq (.seq (.rgn [] [LL 4 (.assign (.const (.int .i64 0))) 3])
 (.blk 0
 (.loop []
 (.seq (.seq (.rgn [] [LL 8 (.move (.tmp 4)) 3,
 LL 9 (.move (.tmp 0)) 77,
 LL 10 (.call { callee := (.builtin .len), args := #[(.tmp 9)], argTypes := #[77] }) 3,
 LL 11 (.binOp .lss 3 (.tmp 8) (.tmp 10) 3) 4])
 (.cond (.tmp 11)
 .skip
 (.exit 0)))
 (.seq (.blk 1
 (.rgn [] [LL 14 (.move (.tmp 3)) 90,
 LL 15 (.move (.tmp 4)) 3,
 LL 16 (.move (.tmp 0)) 77,
 LL 17 (.move (.tmp 4)) 3,
 LL 18 (.indexAddr 77 (.tmp 16) (.tmp 17)) 0,
 LL 19 (.load 231 (.tmp 18)) 231,
 LL 20 (.call { callee := (.value (.func 207)), args := #[(.tmp 19)], argTypes := #[231] }) 195,
 LL 21 (.indexAddr 90 (.tmp 14) (.tmp 15)) 0,
 ⟨none, (.store 195 (.tmp 21) (.tmp 20)), 0, none⟩]))
 (.rgn [] [LL 12 (.move (.tmp 4)) 3,
 LL 13 (.binOp .add 3 (.tmp 12) (.const (.int .i64 1)) 3) 3,
 LL 4 (.assign (.tmp 13)) 3]))))))
 (.seq (.rgn [22] [LL 22 (.move (.tmp 3)) 90,
 LL 2 (.assign (.tmp 22)) 90])
 .ret))))
theorem lit126 : Lit Try.prog 126 23 [3, 7] [.tmp 2] c126 := ⟨⟨Try.f126, _, Try.func126, rfl, by kernel_rfl, rfl, rfl, by kernel_rfl, by kernel_rfl⟩, by decide, by kernel_rfl⟩
/-- laws.eqAtomS -/
def c132 : LC :=
  (.seq (.rgn [] [LL 4 (.assign (.const (.bool false))) 4])
 (.seq (.seq (.rgn [] [LL 6 (.move (.tmp 0)) 90,
 LL 7 (.call { callee := (.builtin .len), args := #[(.tmp 6)], argTypes := #[90] }) 3,
 LL 8 (.move (.tmp 1)) 90,
 LL 9 (.call { callee := (.builtin .len), args := #[(.tmp 8)], argTypes := #[90] }) 3,
 LL 10 (.binOp .neq 3 (.tmp 7) (.tmp 9) 3) 4])
 (.cond (.tmp 10)
 (.seq (.rgn [] [LL 4 (.assign (.const (.bool false))) 4])
 .ret)
 .skip))
 (.seq (.seq (.rgn [] [LL 5 (.assign (.const (.int .i64 0))) 3])
 (.blk 0
 (.loop []
 (.seq (.seq (.rgn [] [LL 11 (.move (.tmp 5)) 3,
 LL 12 (.move (.tmp 0)) 90,
 LL 13 (.call { callee := (.builtin .len), args := #[(.tmp 12)], argTypes := #[90] }) 3,
 LL 14 (.binOp .lss 3 (.tmp 11) (.tmp 13) 3) 4])
 (.cond (.tmp 14)
 .skip
 (.exit 0)))
 (.seq (.blk 1
 (.seq (.drw [] [([0], [17]), ([5], [18]), ([17, 18], [19]), ([19], [20]), ([1], [21]), ([5], [22]), ([21, 22], [23]), ([23], [24]), ([20, 24], [25]), ([25], [26])] [[], [], [0, 1], [2], [], [], [4, 5], [6], [3, 7], [8]] [LL 17 (.move (.tmp 0)) 90,
 LL 18 (.move (.tmp 5)) 3,
 LL 19 (.indexAddr 90 (.tmp 17) (.tmp 18)) 0,
 LL 20 (.load 195 (.tmp 19)) 195,
 LL 21 (.move (.tmp 1)) 90,
 LL 22 (.move (.tmp 5)) 3,
 LL 23 (.indexAddr 90 (.tmp 21) (.tmp 22)) 0,
 LL 24 (.load 195 (.tmp 23)) 195,
 LL 25 (.call { callee := (.value (.func 214)), args := #[(.tmp 20), (.tmp 24)], argTypes := #[195, 195] }) 4,
 LL 26 (.unOp .not 4 (.tmp 25)) 4])
 (.cond (.tmp 26)
 (.seq (.rgn [] [LL 4 (.assign (.const (.bool false))) 4])
 .ret)
 .skip)))
 (.rgn [] [LL 15 (.move (.tmp 5)) 3,
 LL 16 (.binOp .add 3 (.tmp 15) (.const (.int .i64 1)) 3) 3,
 LL 5 (.assign (.tmp 16)) 3]))))))
 (.seq (.rgn [] [LL 4 (.assign (.const (.bool true))) 4])
 .ret))))
theorem lit132 : Lit Try.prog 132 27 [] [.tmp 4] c132 := ⟨⟨Try.f132, _, Try.func132, rfl, by kernel_rfl, rfl, rfl, by kernel_rfl, by kernel_rfl⟩, by decide, by kernel_rfl⟩
/-- laws.szTable -/
def c171 : LC :=
  (.seq (.rgn [] [LL 2 (.box 206 (.tmp 0)) 0,
 LL 4 (.assign (.const (.int .i64 0))) 3])
 (.seq (.rgn [] [LL 5 (.move (.tmp 1)) 3,
 LL 6 (.fieldAddr 206 (.tmp 2) 0) 0,
 LL 7 (.load 9 (.tmp 6)) 9,
 LL 8 (.call { callee := (.builtin .len), args := #[(.tmp 7)], argTypes := #[9] }) 3,
 LL 9 (.binOp .sub 3 (.tmp 5) (.tmp 8) 3) 3,
 LL 1 (.assign (.tmp 9)) 3])
 (.seq (.seq (.rgn [] [LL 10 (.move (.tmp 1)) 3,
 LL 11 (.binOp .lss 3 (.tmp 10) (.const (.int .i64 0)) 3) 4])
 (.cond (.tmp 11)
 (.seq (.rgn [] [LL 4 (.assign (.const (.int .i64 (-1)))) 3])
 .ret)
 .skip))
 (.seq (.rgn [] [LL 12 (.fieldAddr 206 (.tmp 2) 1) 0,
 LL 13 (.load 204 (.tmp 12)) 204,
 LL 14 (.move (.tmp 1)) 3,
 LL 15 (.call { callee := (.value (.func 235)), args := #[(.tmp 13), (.tmp 14)], argTypes := #[204, 3] }) 3,
 LL 1 (.assign (.tmp 15)) 3])
 (.seq (.seq (.rgn [] [LL 16 (.move (.tmp 1)) 3,
 LL 17 (.binOp .lss 3 (.tmp 16) (.const (.int .i64 0)) 3) 4])
 (.cond (.tmp 17)
 (.seq (.rgn [] [LL 4 (.assign (.const (.int .i64 (-1)))) 3])
 .ret)
 .skip))
 (.seq (.rgn [] [LL 18 (.move (.tmp 1)) 3,
 LL 4 (.assign (.tmp 18)) 3])
 .ret))))))
theorem lit171 : Lit Try.prog 171 19 [2] [.tmp 4] c171 := ⟨⟨Try.f171, _, Try.func171, rfl, by kernel_rfl, rfl, rfl, by kernel_rfl, by kernel_rfl⟩, by decide, by kernel_rfl⟩
/-- laws.toTable -/
def c173 : LC :=
  (.seq (.rgn [] [LL 1 (.box 206 (.tmp 0)) 0,
 LL 2 (.alloc 208) 0])
 (.seq (.rgn [] [LL 3 (.alloc 208) 0])
 (.seq (.rgn [] [LL 4 (.fieldAddr 206 (.tmp 1) 0) 0,
 LL 5 (.load 9 (.tmp 4)) 9,
 LL 6 (.fieldAddr 208 (.tmp 3) 0) 0,
 ⟨none, (.store 9 (.tmp 6) (.tmp 5)), 0, none⟩])
 (.seq (.rgn [] [LL 7 (.fieldAddr 206 (.tmp 1) 1) 0,
 LL 8 (.load 204 (.tmp 7)) 204,
 LL 9 (.call { callee := (.value (.func 236)), args := #[(.tmp 8)], argTypes := #[204] }) 128,
 LL 10 (.fieldAddr 208 (.tmp 3) 1) 0,
 ⟨none, (.store 128 (.tmp 10) (.tmp 9)), 0, none⟩])
 (.seq (.rgn [11] [LL 11 (.load 208 (.tmp 3)) 208,
 ⟨none, (.store 208 (.tmp 2) (.tmp 11)), 0, none⟩])
 .ret)))))
theorem lit173 : Lit Try.prog 173 12 [1, 2, 3] [.cell 2 208] c173 := ⟨⟨Try.f173, _, Try.func173, rfl, by kernel_rfl, rfl, rfl, by kernel_rfl, by kernel_rfl⟩, by decide, by kernel_rfl⟩
/-- laws.eqTable -/
def c176 : LC :=
  (.seq (.rgn [] [LL 2 (.box 208 (.tmp 0)) 0,
 LL 3 (.box 208 (.tmp 1)) 0,
 LL 4 (.assign (.const (.bool false))) 4])
 (.seq (.seq (.rgn [] [LL 5 (.fieldAddr 208 (.tmp 2) 0) 0,
 LL 6 (.load 9 (.tmp 5)) 9,
 LL 7 (.fieldAddr 208 (.tmp 3) 0) 0,
 LL 8 (.load 9 (.tmp 7)) 9,
 LL 9 (.binOp .neq 9 (.tmp 6) (.tmp 8) 9) 4])
 (.cond (.tmp 9)
 (.seq (.rgn [] [LL 4 (.assign (.const (.bool false))) 4])
 .ret)
 .skip))
 (.seq (.seq (.rgn [] [LL 10 (.fieldAddr 208 (.tmp 2) 1) 0,
 LL 11 (.load 128 (.tmp 10)) 128,
 LL 12 (.fieldAddr 208 (.tmp 3) 1) 0,
 LL 13 (.load 128 (.tmp 12)) 128,
 LL 14 (.call { callee := (.value (.func 238)), args := #[(.tmp 11), (.tmp 13)], argTypes := #[128, 128] }) 4,
 LL 15 (.unOp .not 4 (.tmp 14)) 4])
 (.cond (.tmp 15)
 (.seq (.rgn [] [LL 4 (.assign (.const (.bool false))) 4])
 .ret)
 .skip))
 (.seq (.rgn [] [LL 4 (.assign (.const (.bool true))) 4])
 .ret))))
theorem lit176 : Lit Try.prog 176 16 [2, 3] [.tmp 4] c176 := ⟨⟨Try.f176, _, Try.func176, rfl, by kernel_rfl, rfl, rfl, by kernel_rfl, by kernel_rfl⟩, by decide, by kernel_rfl⟩
/-- laws.szView -/
def c189 : LC :=
  (.seq (.rgn [] [LL 2 (.box 223 (.tmp 0)) 0,
 LL 4 (.assign (.const (.int .i64 0))) 3])
 (.seq (.rgn [] [LL 5 (.fieldAddr 223 (.tmp 2) 0) 0,
 LL 6 (.load 79 (.tmp 5)) 79,
 LL 7 (.move (.tmp 1)) 3,
 LL 8 (.call { callee := (.value (.func 43)), args := #[(.tmp 6), (.tmp 7)], argTypes := #[79, 3] }) 3,
 LL 1 (.assign (.tmp 8)) 3])
 (.seq (.seq (.rgn [] [LL 9 (.move (.tmp 1)) 3,
 LL 10 (.binOp .lss 3 (.tmp 9) (.const (.int .i64 0)) 3) 4])
 (.cond (.tmp 10)
 (.seq (.rgn [] [LL 4 (.assign (.const (.int .i64 (-1)))) 3])
 .ret)
 .skip))
 (.seq (.rgn [] [LL 11 (.fieldAddr 223 (.tmp 2) 1) 0,
 LL 12 (.load 221 (.tmp 11)) 221,
 LL 13 (.move (.tmp 1)) 3,
 LL 14 (.call { callee := (.value (.func 190)), args := #[(.tmp 12), (.tmp 13)], argTypes := #[221, 3] }) 3,
 LL 1 (.assign (.tmp 14)) 3])
 (.seq (.seq (.rgn [] [LL 15 (.move (.tmp 1)) 3,
 LL 16 (.binOp .lss 3 (.tmp 15) (.const (.int .i64 0)) 3) 4])
 (.cond (.tmp 16)
 (.seq (.rgn [] [LL 4 (.assign (.const (.int .i64 (-1)))) 3])
 .ret)
 .skip))
 (.seq (.rgn [] [LL 17 (.move (.tmp 1)) 3,
 LL 4 (.assign (.tmp 17)) 3])
 .ret))))))
theorem lit189 : Lit Try.prog 189 18 [2] [.tmp 4] c189 := ⟨⟨Try.f189, _, Try.func189, rfl, by kernel_rfl, rfl, rfl, by kernel_rfl, by kernel_rfl⟩, by decide, by kernel_rfl⟩
/-- laws.szCountedRelation -/
def c190 : LC :=
  (.seq (.rgn [] [LL 2 (.box 221 (.tmp 0)) 0,
 LL 4 (.assign (.const (.int .i64 0))) 3])
 (.seq (.rgn [] [LL 5 (.fieldAddr 221 (.tmp 2) 1) 0,
 LL 6 (.load 82 (.tmp 5)) 82,
 LL 7 (.move (.tmp 1)) 3,
 LL 8 (.call { callee := (.value (.func 199)), args := #[(.tmp 6), (.tmp 7)], argTypes := #[82, 3] }) 3,
 LL 1 (.assign (.tmp 8)) 3])
 (.seq (.seq (.rgn [] [LL 9 (.move (.tmp 1)) 3,
 LL 10 (.binOp .lss 3 (.tmp 9) (.const (.int .i64 0)) 3) 4])
 (.cond (.tmp 10)
 (.seq (.rgn [] [LL 4 (.assign (.const (.int .i64 (-1)))) 3])
 .ret)
 .skip))
 (.seq (.rgn [] [LL 11 (.fieldAddr 221 (.tmp 2) 2) 0,
 LL 12 (.load 25 (.tmp 11)) 25,
 LL 13 (.move (.tmp 1)) 3,
 LL 14 (.call { callee := (.value (.func 72)), args := #[(.tmp 12), (.tmp 13)], argTypes := #[25, 3] }) 3,
 LL 1 (.assign (.tmp 14)) 3])
 (.seq (.seq (.rgn [] [LL 15 (.move (.tmp 1)) 3,
 LL 16 (.binOp .lss 3 (.tmp 15) (.const (.int .i64 0)) 3) 4])
 (.cond (.tmp 16)
 (.seq (.rgn [] [LL 4 (.assign (.const (.int .i64 (-1)))) 3])
 .ret)
 .skip))
 (.seq (.rgn [] [LL 17 (.move (.tmp 1)) 3,
 LL 4 (.assign (.tmp 17)) 3])
 .ret))))))
theorem lit190 : Lit Try.prog 190 18 [2] [.tmp 4] c190 := ⟨⟨Try.f190, _, Try.func190, rfl, by kernel_rfl, rfl, rfl, by kernel_rfl, by kernel_rfl⟩, by decide, by kernel_rfl⟩
/-- spec.EqualRelations -/
def c191 : LC :=
  (.seq (.rgn [] [LL 2 (.box 128 (.tmp 0)) 0,
 LL 3 (.box 128 (.tmp 1)) 0,
 LL 4 (.assign (.const (.bool false))) 4])
 (.seq (.seq (.rgn [] [LL 6 (.fieldAddr 128 (.tmp 2) 0) 0,
 LL 7 (.load 3 (.tmp 6)) 3,
 LL 8 (.fieldAddr 128 (.tmp 3) 0) 0,
 LL 9 (.load 3 (.tmp 8)) 3,
 LL 10 (.binOp .neq 3 (.tmp 7) (.tmp 9) 3) 4,
 LL 11 (.move (.tmp 10)) 4,
 ⟨some 12, (.fieldAddr 128 (.tmp 2) 1), 0, some (some 11, false)⟩,
 ⟨some 13, (.load 82 (.tmp 12)), 82, some (some 11, false)⟩,
 ⟨some 14, (.call { callee := (.builtin .len), args := #[(.tmp 13)], argTypes := #[82] }), 3, some (some 11, false)⟩,
 ⟨some 15, (.fieldAddr 128 (.tmp 3) 1), 0, some (some 11, false)⟩,
 ⟨some 16, (.load 82 (.tmp 15)), 82, some (some 11, false)⟩,
 ⟨some 17, (.call { callee := (.builtin .len), args := #[(.tmp 16)], argTypes := #[82] }), 3, some (some 11, false)⟩,
 ⟨some 18, (.binOp .neq 3 (.tmp 14) (.tmp 17) 3), 4, some (some 11, false)⟩,
 LL 19 (.pick (.tmp 11) (.const (.bool true)) (.tmp 18)) 4])
 (.cond (.tmp 19)
 (.seq (.rgn [] [LL 4 (.assign (.const (.bool false))) 4])
 .ret)
 .skip))
 (.seq (.seq (.rgn [] [LL 5 (.assign (.const (.int .i64 0))) 3])
 (.blk 0
 (.loop []
 (.seq (.seq (.rgn [] [LL 20 (.move (.tmp 5)) 3,
 LL 21 (.fieldAddr 128 (.tmp 2) 1) 0,
 LL 22 (.load 82 (.tmp 21)) 82,
 LL 23 (.call { callee := (.builtin .len), args := #[(.tmp 22)], argTypes := #[82] }) 3,
 LL 24 (.binOp .lss 3 (.tmp 20) (.tmp 23) 3) 4])
 (.cond (.tmp 24)
 .skip
 (.exit 0)))
 (.seq (.blk 1
 (.seq (.drw [] [([2], [27]), ([2, 27], [28]), ([5], [29]), ([28, 29], [30]), ([30], [31]), ([3], [32]), ([3, 32], [33]), ([5], [34]), ([33, 34], [35]), ([35], [36]), ([31, 36], [37]), ([37], [38])] [[], [0], [], [1, 2], [3], [], [5], [], [6, 7], [8], [4, 9], [10]] [LL 27 (.fieldAddr 128 (.tmp 2) 1) 0,
 LL 28 (.load 82 (.tmp 27)) 82,
 LL 29 (.move (.tmp 5)) 3,
 LL 30 (.indexAddr 82 (.tmp 28) (.tmp 29)) 0,
 LL 31 (.load 25 (.tmp 30)) 25,
 LL 32 (.fieldAddr 128 (.tmp 3) 1) 0,
 LL 33 (.load 82 (.tmp 32)) 82,
 LL 34 (.move (.tmp 5)) 3,
 LL 35 (.indexAddr 82 (.tmp 33) (.tmp 34)) 0,
 LL 36 (.load 25 (.tmp 35)) 25,
 LL 37 (.call { callee := (.value (.func 75)), args := #[(.tmp 31), (.tmp 36)], argTypes := #[25, 25] }) 3,
 LL 38 (.binOp .neq 3 (.tmp 37) (.const (.int .i64 0)) 3) 4])
 (.cond (.tmp 38)
 (.seq (.rgn [] [LL 4 (.assign (.const (.bool false))) 4])
 .ret)
 .skip)))
 (.rgn [] [LL 25 (.move (.tmp 5)) 3,
 LL 26 (.binOp .add 3 (.tmp 25) (.const (.int .i64 1)) 3) 3,
 LL 5 (.assign (.tmp 26)) 3]))))))
 (.seq (.rgn [] [LL 4 (.assign (.const (.bool true))) 4])
 .ret))))
theorem lit191 : Lit Try.prog 191 39 [2, 3] [.tmp 4] c191 := ⟨⟨Try.f191, _, Try.func191, rfl, by kernel_rfl, rfl, rfl, by kernel_rfl, by kernel_rfl⟩, by decide, by kernel_rfl⟩
/-- laws.toView -/
def c192 : LC :=
  (.seq (.rgn [] [LL 1 (.box 223 (.tmp 0)) 0,
 LL 2 (.alloc 161) 0])
 (.seq (.rgn [] [LL 3 (.alloc 161) 0])
 (.seq (.rgn [] [LL 4 (.fieldAddr 223 (.tmp 1) 0) 0,
 LL 5 (.load 79 (.tmp 4)) 79,
 LL 6 (.call { callee := (.value (.func 46)), args := #[(.tmp 5)], argTypes := #[79] }) 92,
 LL 7 (.fieldAddr 161 (.tmp 3) 0) 0,
 ⟨none, (.store 92 (.tmp 7) (.tmp 6)), 0, none⟩])
 (.seq (.rgn [] [LL 8 (.fieldAddr 223 (.tmp 1) 1) 0,
 LL 9 (.load 221 (.tmp 8)) 221,
 LL 10 (.call { callee := (.value (.func 193)), args := #[(.tmp 9)], argTypes := #[221] }) 159,
 LL 11 (.fieldAddr 161 (.tmp 3) 1) 0,
 ⟨none, (.store 159 (.tmp 11) (.tmp 10)), 0, none⟩])
 (.seq (.rgn [12] [LL 12 (.load 161 (.tmp 3)) 161,
 ⟨none, (.store 161 (.tmp 2) (.tmp 12)), 0, none⟩])
 .ret)))))
theorem lit192 : Lit Try.prog 192 13 [1, 2, 3] [.cell 2 161] c192 := ⟨⟨Try.f192, _, Try.func192, rfl, by kernel_rfl, rfl, rfl, by kernel_rfl, by kernel_rfl⟩, by decide, by kernel_rfl⟩
/-- laws.toCountedRelation -/
def c193 : LC :=
  (.seq (.rgn [] [LL 1 (.box 221 (.tmp 0)) 0,
 LL 2 (.alloc 159) 0])
 (.seq (.rgn [] [LL 3 (.alloc 159) 0])
 (.seq (.rgn [] [LL 4 (.fieldAddr 221 (.tmp 1) 0) 0,
 LL 5 (.load 3 (.tmp 4)) 3,
 LL 6 (.fieldAddr 159 (.tmp 3) 0) 0,
 ⟨none, (.store 3 (.tmp 6) (.tmp 5)), 0, none⟩])
 (.seq (.rgn [] [LL 7 (.fieldAddr 221 (.tmp 1) 1) 0,
 LL 8 (.load 82 (.tmp 7)) 82,
 LL 9 (.call { callee := (.value (.func 208)), args := #[(.tmp 8)], argTypes := #[82] }) 82,
 LL 10 (.fieldAddr 159 (.tmp 3) 1) 0,
 ⟨none, (.store 82 (.tmp 10) (.tmp 9)), 0, none⟩])
 (.seq (.rgn [] [LL 11 (.fieldAddr 221 (.tmp 1) 2) 0,
 LL 12 (.load 25 (.tmp 11)) 25,
 LL 13 (.call { callee := (.value (.func 58)), args := #[(.tmp 12)], argTypes := #[25] }) 25,
 LL 14 (.fieldAddr 159 (.tmp 3) 2) 0,
 ⟨none, (.store 25 (.tmp 14) (.tmp 13)), 0, none⟩])
 (.seq (.rgn [15] [LL 15 (.load 159 (.tmp 3)) 159,
 ⟨none, (.store 159 (.tmp 2) (.tmp 15)), 0, none⟩])
 .ret))))))
theorem lit193 : Lit Try.prog 193 16 [1, 2, 3] [.cell 2 159] c193 := ⟨⟨Try.f193, _, Try.func193, rfl, by kernel_rfl, rfl, rfl, by kernel_rfl, by kernel_rfl⟩, by decide, by kernel_rfl⟩
/-- impl.EqualRelations -/
def c194 : LC :=
  (.seq (.rgn [] [LL 2 (.box 128 (.tmp 0)) 0,
 LL 3 (.box 128 (.tmp 1)) 0,
 LL 4 (.assign (.const (.bool false))) 4])
 (.seq (.rgn [] [LL 5 (.fieldAddr 128 (.tmp 2) 0) 0,
 LL 6 (.load 3 (.tmp 5)) 3,
 LL 7 (.fieldAddr 128 (.tmp 3) 0) 0,
 LL 8 (.load 3 (.tmp 7)) 3,
 LL 9 (.binOp .eql 3 (.tmp 6) (.tmp 8) 3) 4,
 LL 10 (.move (.tmp 9)) 4,
 ⟨some 11, (.fieldAddr 128 (.tmp 2) 1), 0, some (some 10, true)⟩,
 ⟨some 12, (.load 82 (.tmp 11)), 82, some (some 10, true)⟩,
 ⟨some 13, (.fieldAddr 128 (.tmp 3) 1), 0, some (some 10, true)⟩,
 ⟨some 14, (.load 82 (.tmp 13)), 82, some (some 10, true)⟩,
 ⟨some 15, (.call { callee := (.value (.func 195)), args := #[(.tmp 12), (.tmp 14)], argTypes := #[82, 82] }), 4, some (some 10, true)⟩,
 LL 16 (.pick (.tmp 10) (.tmp 15) (.const (.bool false))) 4,
 LL 4 (.assign (.tmp 16)) 4])
 .ret))
theorem lit194 : Lit Try.prog 194 17 [2, 3] [.tmp 4] c194 := ⟨⟨Try.f194, _, Try.func194, rfl, by kernel_rfl, rfl, rfl, by kernel_rfl, by kernel_rfl⟩, by decide, by kernel_rfl⟩
/-- impl.sameRows -/
def c195 : LC :=
  (.seq (.rgn [] [LL 4 (.assign (.const (.bool false))) 4])
 (.seq (.seq (.rgn [] [LL 6 (.move (.tmp 0)) 82,
 LL 7 (.call { callee := (.builtin .len), args := #[(.tmp 6)], argTypes := #[82] }) 3,
 LL 8 (.move (.tmp 1)) 82,
 LL 9 (.call { callee := (.builtin .len), args := #[(.tmp 8)], argTypes := #[82] }) 3,
 LL 10 (.binOp .neq 3 (.tmp 7) (.tmp 9) 3) 4])
 (.cond (.tmp 10)
 (.seq (.rgn [] [LL 4 (.assign (.const (.bool false))) 4])
 .ret)
 .skip))
 (.seq (.seq (.rgn [] [LL 11 (.move (.tmp 0)) 82,
 LL 12 (.call { callee := (.builtin .len), args := #[(.tmp 11)], argTypes := #[82] }) 3,
 LL 13 (.move (.const (.int .i64 0))) 3])
 (.blk 0
 (.loop []
 (.seq (.rgn [] [LL 14 (.binOp .lss 3 (.tmp 13) (.tmp 12) 3) 0])
 (.seq (.cond (.tmp 14)
 .skip
 (.exit 0))
 (.seq (.blk 1
 (.seq (.rgn [] [LL 15 (.move (.tmp 13)) 3,
 LL 5 (.assign (.tmp 15)) 3])
 (.seq (.drw [] [([0], [16]), ([5], [17]), ([16, 17], [18]), ([18], [19]), ([1], [20]), ([5], [21]), ([20, 21], [22]), ([22], [23]), ([19, 23], [24]), ([24], [25])] [[], [], [0, 1], [2], [], [], [4, 5], [6], [3, 7], [8]] [LL 16 (.move (.tmp 0)) 82,
 LL 17 (.move (.tmp 5)) 3,
 LL 18 (.indexAddr 82 (.tmp 16) (.tmp 17)) 0,
 LL 19 (.load 25 (.tmp 18)) 25,
 LL 20 (.move (.tmp 1)) 82,
 LL 21 (.move (.tmp 5)) 3,
 LL 22 (.indexAddr 82 (.tmp 20) (.tmp 21)) 0,
 LL 23 (.load 25 (.tmp 22)) 25,
 LL 24 (.call { callee := (.value (.func 80)), args := #[(.tmp 19), (.tmp 23)], argTypes := #[25, 25] }) 4,
 LL 25 (.unOp .not 4 (.tmp 24)) 4])
 (.cond (.tmp 25)
 (.seq (.rgn [] [LL 4 (.assign (.const (.bool false))) 4])
 .ret)
 .skip))))
 (.rgn [] [LL 26 (.binOp .add 3 (.tmp 13) (.const (.int .i64 1)) 3) 3,
 LL 13 (.move (.tmp 26)) 3])))))))
 (.seq (.rgn [] [LL 4 (.assign (.const (.bool true))) 4])
 .ret))))
theorem lit195 : Lit Try.prog 195 27 [] [.tmp 4] c195 := ⟨⟨Try.f195, _, Try.func195, rfl, by kernel_rfl, rfl, rfl, by kernel_rfl, by kernel_rfl⟩, by decide, by kernel_rfl⟩
/-- laws.eqView -/
def c196 : LC :=
  (.seq (.rgn [] [LL 2 (.box 161 (.tmp 0)) 0,
 LL 3 (.box 161 (.tmp 1)) 0,
 LL 4 (.assign (.const (.bool false))) 4])
 (.seq (.seq (.rgn [] [LL 5 (.fieldAddr 161 (.tmp 2) 0) 0,
 LL 6 (.load 92 (.tmp 5)) 92,
 LL 7 (.fieldAddr 161 (.tmp 3) 0) 0,
 LL 8 (.load 92 (.tmp 7)) 92,
 LL 9 (.call { callee := (.value (.func 49)), args := #[(.tmp 6), (.tmp 8)], argTypes := #[92, 92] }) 4,
 LL 10 (.unOp .not 4 (.tmp 9)) 4])
 (.cond (.tmp 10)
 (.seq (.rgn [] [LL 4 (.assign (.const (.bool false))) 4])
 .ret)
 .skip))
 (.seq (.seq (.rgn [] [LL 11 (.fieldAddr 161 (.tmp 2) 1) 0,
 LL 12 (.load 159 (.tmp 11)) 159,
 LL 13 (.fieldAddr 161 (.tmp 3) 1) 0,
 LL 14 (.load 159 (.tmp 13)) 159,
 LL 15 (.call { callee := (.value (.func 197)), args := #[(.tmp 12), (.tmp 14)], argTypes := #[159, 159] }) 4,
 LL 16 (.unOp .not 4 (.tmp 15)) 4])
 (.cond (.tmp 16)
 (.seq (.rgn [] [LL 4 (.assign (.const (.bool false))) 4])
 .ret)
 .skip))
 (.seq (.rgn [] [LL 4 (.assign (.const (.bool true))) 4])
 .ret))))
theorem lit196 : Lit Try.prog 196 17 [2, 3] [.tmp 4] c196 := ⟨⟨Try.f196, _, Try.func196, rfl, by kernel_rfl, rfl, rfl, by kernel_rfl, by kernel_rfl⟩, by decide, by kernel_rfl⟩
/-- laws.eqCountedRelation -/
def c197 : LC :=
  (.seq (.rgn [] [LL 2 (.box 159 (.tmp 0)) 0,
 LL 3 (.box 159 (.tmp 1)) 0,
 LL 4 (.assign (.const (.bool false))) 4])
 (.seq (.seq (.rgn [] [LL 5 (.fieldAddr 159 (.tmp 2) 0) 0,
 LL 6 (.load 3 (.tmp 5)) 3,
 LL 7 (.fieldAddr 159 (.tmp 3) 0) 0,
 LL 8 (.load 3 (.tmp 7)) 3,
 LL 9 (.binOp .neq 3 (.tmp 6) (.tmp 8) 3) 4])
 (.cond (.tmp 9)
 (.seq (.rgn [] [LL 4 (.assign (.const (.bool false))) 4])
 .ret)
 .skip))
 (.seq (.seq (.rgn [] [LL 10 (.fieldAddr 159 (.tmp 2) 1) 0,
 LL 11 (.load 82 (.tmp 10)) 82,
 LL 12 (.fieldAddr 159 (.tmp 3) 1) 0,
 LL 13 (.load 82 (.tmp 12)) 82,
 LL 14 (.call { callee := (.value (.func 215)), args := #[(.tmp 11), (.tmp 13)], argTypes := #[82, 82] }) 4,
 LL 15 (.unOp .not 4 (.tmp 14)) 4])
 (.cond (.tmp 15)
 (.seq (.rgn [] [LL 4 (.assign (.const (.bool false))) 4])
 .ret)
 .skip))
 (.seq (.seq (.rgn [] [LL 16 (.fieldAddr 159 (.tmp 2) 2) 0,
 LL 17 (.load 25 (.tmp 16)) 25,
 LL 18 (.fieldAddr 159 (.tmp 3) 2) 0,
 LL 19 (.load 25 (.tmp 18)) 25,
 LL 20 (.call { callee := (.value (.func 19)), args := #[(.tmp 17), (.tmp 19)], argTypes := #[25, 25] }) 4,
 LL 21 (.unOp .not 4 (.tmp 20)) 4])
 (.cond (.tmp 21)
 (.seq (.rgn [] [LL 4 (.assign (.const (.bool false))) 4])
 .ret)
 .skip))
 (.seq (.rgn [] [LL 4 (.assign (.const (.bool true))) 4])
 .ret)))))
theorem lit197 : Lit Try.prog 197 22 [2, 3] [.tmp 4] c197 := ⟨⟨Try.f197, _, Try.func197, rfl, by kernel_rfl, rfl, rfl, by kernel_rfl, by kernel_rfl⟩, by decide, by kernel_rfl⟩
/-- laws.szAtom -/
def c198 : LC :=
  (.seq (.rgn [] [LL 2 (.box 231 (.tmp 0)) 0,
 LL 4 (.assign (.const (.int .i64 0))) 3])
 (.seq (.rgn [] [LL 5 (.move (.tmp 1)) 3,
 LL 6 (.fieldAddr 231 (.tmp 2) 0) 0,
 LL 7 (.load 9 (.tmp 6)) 9,
 LL 8 (.call { callee := (.builtin .len), args := #[(.tmp 7)], argTypes := #[9] }) 3,
 LL 9 (.binOp .sub 3 (.tmp 5) (.tmp 8) 3) 3,
 LL 1 (.assign (.tmp 9)) 3])
 (.seq (.seq (.rgn [] [LL 10 (.move (.tmp 1)) 3,
 LL 11 (.binOp .lss 3 (.tmp 10) (.const (.int .i64 0)) 3) 4])
 (.cond (.tmp 11)
 (.seq (.rgn [] [LL 4 (.assign (.const (.int .i64 (-1)))) 3])
 .ret)
 .skip))
 (.seq (.rgn [] [LL 12 (.fieldAddr 231 (.tmp 2) 1) 0,
 LL 13 (.load 25 (.tmp 12)) 25,
 LL 14 (.move (.tmp 1)) 3,
 LL 15 (.call { callee := (.value (.func 72)), args := #[(.tmp 13), (.tmp 14)], argTypes := #[25, 3] }) 3,
 LL 1 (.assign (.tmp 15)) 3])
 (.seq (.seq (.rgn [] [LL 16 (.move (.tmp 1)) 3,
 LL 17 (.binOp .lss 3 (.tmp 16) (.const (.int .i64 0)) 3) 4])
 (.cond (.tmp 17)
 (.seq (.rgn [] [LL 4 (.assign (.const (.int .i64 (-1)))) 3])
 .ret)
 .skip))
 (.seq (.rgn [] [LL 18 (.move (.tmp 1)) 3,
 LL 4 (.assign (.tmp 18)) 3])
 .ret))))))
theorem lit198 : Lit Try.prog 198 19 [2] [.tmp 4] c198 := ⟨⟨Try.f198, _, Try.func198, rfl, by kernel_rfl, rfl, rfl, by kernel_rfl, by kernel_rfl⟩, by decide, by kernel_rfl⟩
/-- laws.szIntSS -/
def c199 : LC :=
  (.seq (.rgn [] [LL 4 (.assign (.const (.int .i64 0))) 3])
 (.seq (.rgn [] [LL 6 (.move (.tmp 1)) 3,
 LL 7 (.move (.tmp 0)) 82,
 LL 8 (.call { callee := (.builtin .len), args := #[(.tmp 7)], argTypes := #[82] }) 3,
 LL 9 (.binOp .sub 3 (.tmp 6) (.tmp 8) 3) 3,
 LL 1 (.assign (.tmp 9)) 3])
 (.seq (.seq (.rgn [] [LL 10 (.move (.tmp 1)) 3,
 LL 11 (.binOp .lss 3 (.tmp 10) (.const (.int .i64 0)) 3) 4])
 (.cond (.tmp 11)
 (.seq (.rgn [] [LL 4 (.assign (.const (.int .i64 (-1)))) 3])
 .ret)
 .skip))
 (.seq (.seq (.rgn [] [LL 5 (.assign (.const (.int .i64 0))) 3])
 (.blk 0
 (.loop []
 (.seq (.seq (.rgn [] [LL 12 (.move (.tmp 5)) 3,
 LL 13 (.move (.tmp 0)) 82,
 LL 14 (.call { callee := (.builtin .len), args := #[(.tmp 13)], argTypes := #[82] }) 3,
 LL 15 (.binOp .lss 3 (.tmp 12) (.tmp 14) 3) 4])
 (.cond (.tmp 15)
 .skip
 (.exit 0)))
 (.seq (.blk 1
 (.seq (.rgn [] [LL 18 (.move (.tmp 0)) 82,
 LL 19 (.move (.tmp 5)) 3,
 LL 20 (.indexAddr 82 (.tmp 18) (.tmp 19)) 0,
 LL 21 (.load 25 (.tmp 20)) 25,
 LL 22 (.move (.tmp 1)) 3,
 LL 23 (.call { callee := (.value (.func 72)), args := #[(.tmp 21), (.tmp 22)], argTypes := #[25, 3] }) 3,
 LL 1 (.assign (.tmp 23)) 3])
 (.seq (.rgn [] [LL 24 (.move (.tmp 1)) 3,
 LL 25 (.binOp .lss 3 (.tmp 24) (.const (.int .i64 0)) 3) 4])
 (.cond (.tmp 25)
 (.seq (.rgn [] [LL 4 (.assign (.const (.int .i64 (-1)))) 3])
 .ret)
 .skip))))
 (.rgn [] [LL 16 (.move (.tmp 5)) 3,
 LL 17 (.binOp .add 3 (.tmp 16) (.const (.int .i64 1)) 3) 3,
 LL 5 (.assign (.tmp 17)) 3]))))))
 (.seq (.rgn [] [LL 26 (.move (.tmp 1)) 3,
 LL 4 (.assign (.tmp 26)) 3])
 .ret)))))
theorem lit199 : Lit Try.prog 199 27 [] [.tmp 4] c199 := ⟨⟨Try.f199, _, Try.func199, rfl, by kernel_rfl, rfl, rfl, by kernel_rfl, by kernel_rfl⟩, by decide, by kernel_rfl⟩
/-- laws.toAtom -/
def c207 : LC :=
  (.seq (.rgn [] [LL 1 (.box 231 (.tmp 0)) 0,
 LL 2 (.alloc 195) 0])
 (.seq (.rgn [] [LL 3 (.alloc 195) 0])
 (.seq (.rgn [] [LL 4 (.fieldAddr 231 (.tmp 1) 0) 0,
 LL 5 (.load 9 (.tmp 4)) 9,
 LL 6 (.fieldAddr 195 (.tmp 3) 0) 0,
 ⟨none, (.store 9 (.tmp 6) (.tmp 5)), 0, none⟩])
 (.seq (.rgn [] [LL 7 (.fieldAddr 231 (.tmp 1) 1) 0,
 LL 8 (.load 25 (.tmp 7)) 25,
 LL 9 (.call { callee := (.value (.func 58)), args := #[(.tmp 8)], argTypes := #[25] }) 25,
 LL 10 (.fieldAddr 195 (.tmp 3) 1) 0,
 ⟨none, (.store 25 (.tmp 10) (.tmp 9)), 0, none⟩])
 (.seq (.rgn [11] [LL 11 (.load 195 (.tmp 3)) 195,
 ⟨none, (.store 195 (.tmp 2) (.tmp 11)), 0, none⟩])
 .ret)))))
theorem lit207 : Lit Try.prog 207 12 [1, 2, 3] [.cell 2 195] c207 := ⟨⟨Try.f207, _, Try.func207, rfl, by kernel_rfl, rfl, rfl, by kernel_rfl, by kernel_rfl⟩, by decide, by kernel_rfl⟩
/-- laws.toIntSS -/
def c208 : LC :=
  (.seq (.rgn [] [LL 2 (.assign (.const (.slice none 0 0))) 82])
 (.seq (.rgn [3, 7] [LL 5 (.move (.tmp 0)) 82,
 LL 6 (.call { callee := (.builtin .len), args := #[(.tmp 5)], argTypes := #[82] }) 3,
 LL 7 (.makeSlice 82 (.tmp 6) (.tmp 6)) 82,
 LL 3 (.assign (.tmp 7)) 82])
 (.seq (.seq (.rgn [] [LL 4 (.assign (.const (.int .i64 0))) 3])
 (.blk 0
 (.loop []
 (.seq (.seq (.rgn [] [LL 8 (.move (.tmp 4)) 3,
 LL 9 (.move (.tmp 0)) 82,
 LL 10 (.call { callee := (.builtin .len), args := #[(.tmp 9)], argTypes := #[82] }) 3,
 LL 11 (.binOp .lss 3 (.tmp 8) (.tmp 10) 3) 4])
 (.cond (.tmp 11)
 .skip
 (.exit 0)))
 (.seq (.blk 1
 (.rgn [] [LL 14 (.move (.tmp 3)) 82,
 LL 15 (.move (.tmp 4)) 3,
 LL 16 (.move (.tmp 0)) 82,
 LL 17 (.move (.tmp 4)) 3,
 LL 18 (.indexAddr 82 (.tmp 16) (.tmp 17)) 0,
 LL 19 (.load 25 (.tmp 18)) 25,
 LL 20 (.call { callee := (.value (.func 58)), args := #[(.tmp 19)], argTypes := #[25] }) 25,
 LL 21 (.indexAddr 82 (.tmp 14) (.tmp 15)) 0,
 ⟨none, (.store 25 (.tmp 21) (.tmp 20)), 0, none⟩]))
 (.rgn [] [LL 12 (.move (.tmp 4)) 3,
 LL 13 (.binOp .add 3 (.tmp 12) (.const (.int .i64 1)) 3) 3,
 LL 4 (.assign (.tmp 13)) 3]))))))
 (.seq (.rgn [22] [LL 22 (.move (.tmp 3)) 82,
 LL 2 (.assign (.tmp 22)) 82])
 .ret))))
theorem lit208 : Lit Try.prog 208 23 [3, 7] [.tmp 2] c208 := ⟨⟨Try.f208, _, Try.func208, rfl, by kernel_rfl, rfl, rfl, by kernel_rfl, by kernel_rfl⟩, by decide, by kernel_rfl⟩
/-- laws.eqAtom -/
def c214 : LC :=
  (.seq (.rgn [] [LL 2 (.box 195 (.tmp 0)) 0,
 LL 3 (.box 195 (.tmp 1)) 0,
 LL 4 (.assign (.const (.bool false))) 4])
 (.seq (.seq (.rgn [] [LL 5 (.fieldAddr 195 (.tmp 2) 0) 0,
 LL 6 (.load 9 (.tmp 5)) 9,
 LL 7 (.fieldAddr 195 (.tmp 3) 0) 0,
 LL 8 (.load 9 (.tmp 7)) 9,
 LL 9 (.binOp .neq 9 (.tmp 6) (.tmp 8) 9) 4])
 (.cond (.tmp 9)
 (.seq (.rgn [] [LL 4 (.assign (.const (.bool false))) 4])
 .ret)
 .skip))
 (.seq (.seq (.rgn [] [LL 10 (.fieldAddr 195 (.tmp 2) 1) 0,
 LL 11 (.load 25 (.tmp 10)) 25,
 LL 12 (.fieldAddr 195 (.tmp 3) 1) 0,
 LL 13 (.load 25 (.tmp 12)) 25,
 LL 14 (.call { callee := (.value (.func 19)), args := #[(.tmp 11), (.tmp 13)], argTypes := #[25, 25] }) 4,
 LL 15 (.unOp .not 4 (.tmp 14)) 4])
 (.cond (.tmp 15)
 (.seq (.rgn [] [LL 4 (.assign (.const (.bool false))) 4])
 .ret)
 .skip))
 (.seq (.rgn [] [LL 4 (.assign (.const (.bool true))) 4])
 .ret))))
theorem lit214 : Lit Try.prog 214 16 [2, 3] [.tmp 4] c214 := ⟨⟨Try.f214, _, Try.func214, rfl, by kernel_rfl, rfl, rfl, by kernel_rfl, by kernel_rfl⟩, by decide, by kernel_rfl⟩
/-- laws.eqIntSS -/
def c215 : LC :=
  (.seq (.rgn [] [LL 4 (.assign (.const (.bool false))) 4])
 (.seq (.seq (.rgn [] [LL 6 (.move (.tmp 0)) 82,
 LL 7 (.call { callee := (.builtin .len), args := #[(.tmp 6)], argTypes := #[82] }) 3,
 LL 8 (.move (.tmp 1)) 82,
 LL 9 (.call { callee := (.builtin .len), args := #[(.tmp 8)], argTypes := #[82] }) 3,
 LL 10 (.binOp .neq 3 (.tmp 7) (.tmp 9) 3) 4])
 (.cond (.tmp 10)
 (.seq (.rgn [] [LL 4 (.assign (.const (.bool false))) 4])
 .ret)
 .skip))
 (.seq (.seq (.rgn [] [LL 5 (.assign (.const (.int .i64 0))) 3])
 (.blk 0
 (.loop []
 (.seq (.seq (.rgn [] [LL 11 (.move (.tmp 5)) 3,
 LL 12 (.move (.tmp 0)) 82,
 LL 13 (.call { callee := (.builtin .len), args := #[(.tmp 12)], argTypes := #[82] }) 3,
 LL 14 (.binOp .lss 3 (.tmp 11) (.tmp 13) 3) 4])
 (.cond (.tmp 14)
 .skip
 (.exit 0)))
 (.seq (.blk 1
 (.seq (.drw [] [([0], [17]), ([5], [18]), ([17, 18], [19]), ([19], [20]), ([1], [21]), ([5], [22]), ([21, 22], [23]), ([23], [24]), ([20, 24], [25]), ([25], [26])] [[], [], [0, 1], [2], [], [], [4, 5], [6], [3, 7], [8]] [LL 17 (.move (.tmp 0)) 82,
 LL 18 (.move (.tmp 5)) 3,
 LL 19 (.indexAddr 82 (.tmp 17) (.tmp 18)) 0,
 LL 20 (.load 25 (.tmp 19)) 25,
 LL 21 (.move (.tmp 1)) 82,
 LL 22 (.move (.tmp 5)) 3,
 LL 23 (.indexAddr 82 (.tmp 21) (.tmp 22)) 0,
 LL 24 (.load 25 (.tmp 23)) 25,
 LL 25 (.call { callee := (.value (.func 19)), args := #[(.tmp 20), (.tmp 24)], argTypes := #[25, 25] }) 4,
 LL 26 (.unOp .not 4 (.tmp 25)) 4])
 (.cond (.tmp 26)
 (.seq (.rgn [] [LL 4 (.assign (.const (.bool false))) 4])
 .ret)
 .skip)))
 (.rgn [] [LL 15 (.move (.tmp 5)) 3,
 LL 16 (.binOp .add 3 (.tmp 15) (.const (.int .i64 1)) 3) 3,
 LL 5 (.assign (.tmp 16)) 3]))))))
 (.seq (.rgn [] [LL 4 (.assign (.const (.bool true))) 4])
 .ret))))
theorem lit215 : Lit Try.prog 215 27 [] [.tmp 4] c215 := ⟨⟨Try.f215, _, Try.func215, rfl, by kernel_rfl, rfl, rfl, by kernel_rfl, by kernel_rfl⟩, by decide, by kernel_rfl⟩
/-- laws.szRelation -/
def c235 : LC :=
  (.seq (.rgn [] [LL 2 (.box 204 (.tmp 0)) 0,
 LL 4 (.assign (.const (.int .i64 0))) 3])
 (.seq (.rgn [] [LL 5 (.fieldAddr 204 (.tmp 2) 1) 0,
 LL 6 (.load 82 (.tmp 5)) 82,
 LL 7 (.move (.tmp 1)) 3,
 LL 8 (.call { callee := (.value (.func 199)), args := #[(.tmp 6), (.tmp 7)], argTypes := #[82, 3] }) 3,
 LL 1 (.assign (.tmp 8)) 3])
 (.seq (.seq (.rgn [] [LL 9 (.move (.tmp 1)) 3,
 LL 10 (.binOp .lss 3 (.tmp 9) (.const (.int .i64 0)) 3) 4])
 (.cond (.tmp 10)
 (.seq (.rgn [] [LL 4 (.assign (.const (.int .i64 (-1)))) 3])
 .ret)
 .skip))
 (.seq (.rgn [] [LL 11 (.move (.tmp 1)) 3,
 LL 4 (.assign (.tmp 11)) 3])
 .ret))))
theorem lit235 : Lit Try.prog 235 12 [2] [.tmp 4] c235 := ⟨⟨Try.f235, _, Try.func235, rfl, by kernel_rfl, rfl, rfl, by kernel_rfl, by kernel_rfl⟩, by decide, by kernel_rfl⟩
/-- laws.toRelation -/
def c236 : LC :=
  (.seq (.rgn [] [LL 1 (.box 204 (.tmp 0)) 0,
 LL 2 (.alloc 128) 0])
 (.seq (.rgn [] [LL 3 (.alloc 128) 0])
 (.seq (.rgn [] [LL 4 (.fieldAddr 204 (.tmp 1) 0) 0,
 LL 5 (.load 3 (.tmp 4)) 3,
 LL 6 (.fieldAddr 128 (.tmp 3) 0) 0,
 ⟨none, (.store 3 (.tmp 6) (.tmp 5)), 0, none⟩])
 (.seq (.rgn [] [LL 7 (.fieldAddr 204 (.tmp 1) 1) 0,
 LL 8 (.load 82 (.tmp 7)) 82,
 LL 9 (.call { callee := (.value (.func 208)), args := #[(.tmp 8)], argTypes := #[82] }) 82,
 LL 10 (.fieldAddr 128 (.tmp 3) 1) 0,
 ⟨none, (.store 82 (.tmp 10) (.tmp 9)), 0, none⟩])
 (.seq (.rgn [11] [LL 11 (.load 128 (.tmp 3)) 128,
 ⟨none, (.store 128 (.tmp 2) (.tmp 11)), 0, none⟩])
 .ret)))))
theorem lit236 : Lit Try.prog 236 12 [1, 2, 3] [.cell 2 128] c236 := ⟨⟨Try.f236, _, Try.func236, rfl, by kernel_rfl, rfl, rfl, by kernel_rfl, by kernel_rfl⟩, by decide, by kernel_rfl⟩
/-- laws.eqRelation -/
def c238 : LC :=
  (.seq (.rgn [] [LL 2 (.box 128 (.tmp 0)) 0,
 LL 3 (.box 128 (.tmp 1)) 0,
 LL 4 (.assign (.const (.bool false))) 4])
 (.seq (.seq (.rgn [] [LL 5 (.fieldAddr 128 (.tmp 2) 0) 0,
 LL 6 (.load 3 (.tmp 5)) 3,
 LL 7 (.fieldAddr 128 (.tmp 3) 0) 0,
 LL 8 (.load 3 (.tmp 7)) 3,
 LL 9 (.binOp .neq 3 (.tmp 6) (.tmp 8) 3) 4])
 (.cond (.tmp 9)
 (.seq (.rgn [] [LL 4 (.assign (.const (.bool false))) 4])
 .ret)
 .skip))
 (.seq (.seq (.rgn [] [LL 10 (.fieldAddr 128 (.tmp 2) 1) 0,
 LL 11 (.load 82 (.tmp 10)) 82,
 LL 12 (.fieldAddr 128 (.tmp 3) 1) 0,
 LL 13 (.load 82 (.tmp 12)) 82,
 LL 14 (.call { callee := (.value (.func 215)), args := #[(.tmp 11), (.tmp 13)], argTypes := #[82, 82] }) 4,
 LL 15 (.unOp .not 4 (.tmp 14)) 4])
 (.cond (.tmp 15)
 (.seq (.rgn [] [LL 4 (.assign (.const (.bool false))) 4])
 .ret)
 .skip))
 (.seq (.rgn [] [LL 4 (.assign (.const (.bool true))) 4])
 .ret))))
theorem lit238 : Lit Try.prog 238 16 [2, 3] [.tmp 4] c238 := ⟨⟨Try.f238, _, Try.func238, rfl, by kernel_rfl, rfl, rfl, by kernel_rfl, by kernel_rfl⟩, by decide, by kernel_rfl⟩
end Go.Proofs.Ytkcfahfladikkaa
