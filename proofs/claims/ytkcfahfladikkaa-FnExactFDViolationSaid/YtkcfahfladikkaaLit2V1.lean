/-
  The functions' code as the program holds it, without places and edges; printed by genlit.py. No conditions.
-/
import Derived.Test.YtkcfahfladikkaaLitV1
namespace Go.Proofs.Ytkcfahfladikkaa
open Go.RowKit
set_option linter.unusedVariables false
set_option maxRecDepth 100000
/-- laws.FnExactFDViolation -/
def c3 : LC :=
  (.seq (.rgn [] [⟨some 2, (.box 24 (.tmp 0)), 0, none⟩,
    ⟨some 3, (.box 27 (.tmp 1)), 0, none⟩,
    ⟨some 4, (.assign (.const (.bool false))), 4, none⟩])
  (.seq (.rgn [] [⟨some 5, (.assign (.const (.int .i64 1048576))), 3, none⟩])
  (.seq (.rgn [] [⟨some 14, (.load 24 (.tmp 2)), 24, none⟩,
    ⟨some 15, (.move (.tmp 5)), 3, none⟩,
    ⟨some 16, (.call { callee := (.value (.func 13)), args := #[(.tmp 14), (.tmp 15)], argTypes := #[24, 3] }), 3, none⟩,
    ⟨some 5, (.assign (.tmp 16)), 3, none⟩])
  (.seq (.seq (.rgn [] [⟨some 17, (.move (.tmp 5)), 3, none⟩,
    ⟨some 18, (.binOp .lss 3 (.tmp 17) (.const (.int .i64 0)) 3), 4, none⟩])
  (.cond (.tmp 18)
    (.seq (.rgn [] [⟨some 4, (.assign (.const (.bool true))), 4, none⟩])
    .ret)
    .skip))
  (.seq (.rgn [] [⟨some 19, (.load 27 (.tmp 3)), 27, none⟩,
    ⟨some 20, (.move (.tmp 5)), 3, none⟩,
    ⟨some 21, (.call { callee := (.value (.func 14)), args := #[(.tmp 19), (.tmp 20)], argTypes := #[27, 3] }), 3, none⟩,
    ⟨some 5, (.assign (.tmp 21)), 3, none⟩])
  (.seq (.seq (.rgn [] [⟨some 22, (.move (.tmp 5)), 3, none⟩,
    ⟨some 23, (.binOp .lss 3 (.tmp 22) (.const (.int .i64 0)) 3), 4, none⟩])
  (.cond (.tmp 23)
    (.seq (.rgn [] [⟨some 4, (.assign (.const (.bool true))), 4, none⟩])
    .ret)
    .skip))
  (.seq (.drw [] [([2], [24]), ([24], [25]), ([3], [26]), ([26], [27]), ([25, 27], [28]), ([28], [6, 28])] [[], [0], [], [2, 1], [1, 3, 3], [4, 4, 0, 1, 2, 3, 4]] [⟨some 24, (.load 24 (.tmp 2)), 24, none⟩,
    ⟨some 25, (.call { callee := (.value (.func 16)), args := #[(.tmp 24)], argTypes := #[24] }), 33, none⟩,
    ⟨some 26, (.load 27 (.tmp 3)), 27, none⟩,
    ⟨some 27, (.call { callee := (.value (.func 17)), args := #[(.tmp 26)], argTypes := #[27] }), 35, none⟩,
    ⟨some 28, (.call { callee := (.value (.func 15)), args := #[(.tmp 25), (.tmp 27)], argTypes := #[33, 35] }), 25, none⟩,
    ⟨some 6, (.assign (.tmp 28)), 25, none⟩])
  (.seq (.rgn [] [⟨some 29, (.load 24 (.tmp 2)), 24, none⟩,
    ⟨some 30, (.call { callee := (.value (.func 16)), args := #[(.tmp 29)], argTypes := #[24] }), 33, none⟩,
    ⟨some 7, (.alloc 33), 0, none⟩,
    ⟨none, (.store 33 (.tmp 7) (.tmp 30)), 0, none⟩])
  (.seq (.rgn [] [⟨some 31, (.load 27 (.tmp 3)), 27, none⟩,
    ⟨some 32, (.call { callee := (.value (.func 17)), args := #[(.tmp 31)], argTypes := #[27] }), 35, none⟩,
    ⟨some 8, (.alloc 35), 0, none⟩,
    ⟨none, (.store 35 (.tmp 8) (.tmp 32)), 0, none⟩])
  (.seq (.rgn [] [⟨some 33, (.load 33 (.tmp 7)), 33, none⟩,
    ⟨some 34, (.load 35 (.tmp 8)), 35, none⟩,
    ⟨some 35, (.call { callee := (.value (.func 18)), args := #[(.tmp 33), (.tmp 34)], argTypes := #[33, 35] }), 25, none⟩,
    ⟨some 9, (.assign (.tmp 35)), 25, none⟩])
  (.seq (.seq (.rgn [] [⟨some 36, (.move (.tmp 9)), 25, none⟩,
    ⟨some 37, (.move (.tmp 6)), 25, none⟩,
    ⟨some 38, (.call { callee := (.value (.func 19)), args := #[(.tmp 36), (.tmp 37)], argTypes := #[25, 25] }), 4, none⟩,
    ⟨some 39, (.unOp .not 4 (.tmp 38)), 4, none⟩])
  (.cond (.tmp 39)
    (.seq (.rgn [] [⟨some 4, (.assign (.const (.bool false))), 4, none⟩])
    .ret)
    .skip))
  (.seq (.seq (.drw [] [([7], [40]), ([2], [41]), ([41], [42]), ([40, 42], [43]), ([43], [44])] [[], [], [1], [0, 2, 2], [3]] [⟨some 40, (.load 33 (.tmp 7)), 33, none⟩,
    ⟨some 41, (.load 24 (.tmp 2)), 24, none⟩,
    ⟨some 42, (.call { callee := (.value (.func 16)), args := #[(.tmp 41)], argTypes := #[24] }), 33, none⟩,
    ⟨some 43, (.call { callee := (.value (.func 20)), args := #[(.tmp 40), (.tmp 42)], argTypes := #[33, 33] }), 4, none⟩,
    ⟨some 44, (.unOp .not 4 (.tmp 43)), 4, none⟩])
  (.cond (.tmp 44)
    (.seq (.rgn [] [⟨some 4, (.assign (.const (.bool false))), 4, none⟩])
    .ret)
    .skip))
  (.seq (.seq (.drw [] [([8], [45]), ([3], [46]), ([46], [47]), ([45, 47], [48]), ([48], [49])] [[], [], [1], [0, 2, 2], [3]] [⟨some 45, (.load 35 (.tmp 8)), 35, none⟩,
    ⟨some 46, (.load 27 (.tmp 3)), 27, none⟩,
    ⟨some 47, (.call { callee := (.value (.func 17)), args := #[(.tmp 46)], argTypes := #[27] }), 35, none⟩,
    ⟨some 48, (.call { callee := (.value (.func 21)), args := #[(.tmp 45), (.tmp 47)], argTypes := #[35, 35] }), 4, none⟩,
    ⟨some 49, (.unOp .not 4 (.tmp 48)), 4, none⟩])
  (.cond (.tmp 49)
    (.seq (.rgn [] [⟨some 4, (.assign (.const (.bool false))), 4, none⟩])
    .ret)
    .skip))
  (.seq (.rgn [] [⟨some 10, (.assign (.const (.int .i64 1))), 3, none⟩])
  (.seq (.rgn [] [⟨some 50, (.load 33 (.tmp 7)), 33, none⟩,
    ⟨some 51, (.move (.tmp 10)), 3, none⟩,
    ⟨some 52, (.call { callee := (.value (.func 22)), args := #[(.tmp 50), (.tmp 51)], argTypes := #[33, 3] }), 3, none⟩,
    ⟨some 10, (.assign (.tmp 52)), 3, none⟩])
  (.seq (.rgn [] [⟨some 53, (.load 35 (.tmp 8)), 35, none⟩,
    ⟨some 54, (.move (.tmp 10)), 3, none⟩,
    ⟨some 55, (.call { callee := (.value (.func 23)), args := #[(.tmp 53), (.tmp 54)], argTypes := #[35, 3] }), 3, none⟩,
    ⟨some 10, (.assign (.tmp 55)), 3, none⟩])
  (.seq (.seq (.rgn [] [⟨some 56, (.move (.tmp 10)), 3, none⟩,
    ⟨some 57, (.binOp .lss 3 (.tmp 56) (.const (.int .i64 0)) 3), 4, none⟩,
    ⟨some 58, (.move (.tmp 57)), 4, none⟩,
    ⟨some 59, (.move (.tmp 9)), 25, some (some 58, false)⟩,
    ⟨some 60, (.move (.tmp 6)), 25, some (some 58, false)⟩,
    ⟨some 61, (.call { callee := (.value (.func 19)), args := #[(.tmp 59), (.tmp 60)], argTypes := #[25, 25] }), 4, some (some 58, false)⟩,
    ⟨some 62, (.unOp .not 4 (.tmp 61)), 4, some (some 58, false)⟩,
    ⟨some 63, (.pick (.tmp 58) (.const (.bool true)) (.tmp 62)), 4, none⟩])
  (.cond (.tmp 63)
    (.seq (.rgn [] [⟨some 4, (.assign (.const (.bool false))), 4, none⟩])
    .ret)
    .skip))
  (.seq (.rgn [] [⟨some 11, (.assign (.const (.int .i64 1))), 3, none⟩])
  (.seq (.rgn [] [⟨some 64, (.move (.tmp 9)), 25, none⟩,
    ⟨some 65, (.move (.tmp 11)), 3, none⟩,
    ⟨some 66, (.call { callee := (.value (.func 24)), args := #[(.tmp 64), (.tmp 65)], argTypes := #[25, 3] }), 3, none⟩,
    ⟨some 11, (.assign (.tmp 66)), 3, none⟩])
  (.seq (.rgn [] [⟨some 12, (.assign (.const (.int .i64 1))), 3, none⟩])
  (.seq (.rgn [] [⟨some 67, (.move (.tmp 9)), 25, none⟩,
    ⟨some 68, (.move (.tmp 12)), 3, none⟩,
    ⟨some 69, (.call { callee := (.value (.func 25)), args := #[(.tmp 67), (.tmp 68)], argTypes := #[25, 3] }), 3, none⟩,
    ⟨some 12, (.assign (.tmp 69)), 3, none⟩])
  (.seq (.seq (.rgn [] [⟨some 70, (.move (.tmp 12)), 3, none⟩,
    ⟨some 71, (.binOp .lss 3 (.tmp 70) (.const (.int .i64 0)) 3), 4, none⟩])
  (.cond (.tmp 71)
    (.seq (.rgn [] [⟨some 4, (.assign (.const (.bool false))), 4, none⟩])
    .ret)
    .skip))
  (.seq (.seq (.rgn [] [⟨some 72, (.move (.tmp 12)), 3, none⟩,
    ⟨some 73, (.move (.tmp 11)), 3, none⟩,
    ⟨some 74, (.binOp .neq 3 (.tmp 72) (.tmp 73) 3), 4, none⟩])
  (.cond (.tmp 74)
    (.seq (.rgn [] [⟨some 4, (.assign (.const (.bool false))), 4, none⟩])
    .ret)
    .skip))
  (.seq (.drw [] [([2], [75]), ([75], [76]), ([3], [77]), ([77], [78]), ([76, 78], [79]), ([79], [13, 79])] [[], [0], [], [2, 1], [1, 3, 3], [4, 4, 0, 1, 2, 3, 4]] [⟨some 75, (.load 24 (.tmp 2)), 24, none⟩,
    ⟨some 76, (.call { callee := (.value (.func 16)), args := #[(.tmp 75)], argTypes := #[24] }), 33, none⟩,
    ⟨some 77, (.load 27 (.tmp 3)), 27, none⟩,
    ⟨some 78, (.call { callee := (.value (.func 17)), args := #[(.tmp 77)], argTypes := #[27] }), 35, none⟩,
    ⟨some 79, (.call { callee := (.value (.func 18)), args := #[(.tmp 76), (.tmp 78)], argTypes := #[33, 35] }), 25, none⟩,
    ⟨some 13, (.assign (.tmp 79)), 25, none⟩])
  (.seq (.seq (.rgn [] [⟨some 80, (.move (.tmp 13)), 25, none⟩,
    ⟨some 81, (.move (.tmp 6)), 25, none⟩,
    ⟨some 82, (.call { callee := (.value (.func 19)), args := #[(.tmp 80), (.tmp 81)], argTypes := #[25, 25] }), 4, none⟩,
    ⟨some 83, (.unOp .not 4 (.tmp 82)), 4, none⟩])
  (.cond (.tmp 83)
    (.seq (.rgn [] [⟨some 4, (.assign (.const (.bool false))), 4, none⟩])
    .ret)
    .skip))
  (.seq (.rgn [] [⟨some 12, (.assign (.const (.int .i64 1))), 3, none⟩])
  (.seq (.rgn [] [⟨some 84, (.move (.tmp 9)), 25, none⟩,
    ⟨some 85, (.move (.tmp 12)), 3, none⟩,
    ⟨some 86, (.call { callee := (.value (.func 25)), args := #[(.tmp 84), (.tmp 85)], argTypes := #[25, 3] }), 3, none⟩,
    ⟨some 12, (.assign (.tmp 86)), 3, none⟩])
  (.seq (.seq (.rgn [] [⟨some 87, (.move (.tmp 12)), 3, none⟩,
    ⟨some 88, (.binOp .lss 3 (.tmp 87) (.const (.int .i64 0)) 3), 4, none⟩])
  (.cond (.tmp 88)
    (.seq (.rgn [] [⟨some 4, (.assign (.const (.bool false))), 4, none⟩])
    .ret)
    .skip))
  (.seq (.seq (.rgn [] [⟨some 89, (.move (.tmp 12)), 3, none⟩,
    ⟨some 90, (.move (.tmp 11)), 3, none⟩,
    ⟨some 91, (.binOp .neq 3 (.tmp 89) (.tmp 90) 3), 4, none⟩])
  (.cond (.tmp 91)
    (.seq (.rgn [] [⟨some 4, (.assign (.const (.bool false))), 4, none⟩])
    .ret)
    .skip))
  (.seq (.rgn [] [⟨some 4, (.assign (.const (.bool true))), 4, none⟩])
  .ret))))))))))))))))))))))))))))))
theorem lit3 : Lit Try.prog 3 92 [2, 3, 7, 8] [.tmp 4] c3 := ⟨⟨Try.f3, _, Try.func3, rfl, by kernel_rfl, rfl, rfl, by kernel_rfl, by kernel_rfl⟩, by decide, by kernel_rfl⟩
end Go.Proofs.Ytkcfahfladikkaa
