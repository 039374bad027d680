/-
  The functions' code as the program holds it, without places and edges; printed by genlit.py. No conditions.
-/
import Derived.Test.YtkmkbpphdalgoaaLitc
namespace Go.Proofs.Ytkmkbpphdalgoaa
open Go.RowKit
set_option linter.unusedVariables false
set_option maxRecDepth 100000
/-- laws.FnExactFDClosure -/
def c14 : LC :=
  (.seq (.rgn [] [⟨some 3, (.box 50 (.tmp 0)), 0, none⟩,
    ⟨some 6, (.assign (.const (.bool false))), 4, none⟩])
  (.seq (.seq (.rgn [] [⟨some 17, (.move (.tmp 2)), 30, none⟩,
    ⟨some 18, (.call { callee := (.builtin .len), args := #[(.tmp 17)], argTypes := #[30] }), 3, none⟩,
    ⟨some 19, (.binOp .gtr 3 (.tmp 18) (.const (.int .i64 1048576)) 3), 4, none⟩])
  (.cond (.tmp 19)
    (.seq (.rgn [] [⟨some 6, (.assign (.const (.bool true))), 4, none⟩])
    .ret)
    .skip))
  (.seq (.rgn [] [⟨some 7, (.assign (.const (.int .i64 1048576))), 3, none⟩])
  (.seq (.rgn [] [⟨some 20, (.load 50 (.tmp 3)), 50, none⟩,
    ⟨some 21, (.move (.tmp 7)), 3, none⟩,
    ⟨some 22, (.call { callee := (.value (.func 29)), args := #[(.tmp 20), (.tmp 21)], argTypes := #[50, 3] }), 3, none⟩,
    ⟨some 7, (.assign (.tmp 22)), 3, none⟩])
  (.seq (.seq (.rgn [] [⟨some 23, (.move (.tmp 7)), 3, none⟩,
    ⟨some 24, (.binOp .lss 3 (.tmp 23) (.const (.int .i64 0)) 3), 4, none⟩])
  (.cond (.tmp 24)
    (.seq (.rgn [] [⟨some 6, (.assign (.const (.bool true))), 4, none⟩])
    .ret)
    .skip))
  (.seq (.rgn [] [⟨some 25, (.move (.tmp 1)), 111, none⟩,
    ⟨some 26, (.move (.tmp 7)), 3, none⟩,
    ⟨some 27, (.call { callee := (.value (.func 74)), args := #[(.tmp 25), (.tmp 26)], argTypes := #[111, 3] }), 3, none⟩,
    ⟨some 7, (.assign (.tmp 27)), 3, none⟩])
  (.seq (.seq (.rgn [] [⟨some 28, (.move (.tmp 7)), 3, none⟩,
    ⟨some 29, (.binOp .lss 3 (.tmp 28) (.const (.int .i64 0)) 3), 4, none⟩])
  (.cond (.tmp 29)
    (.seq (.rgn [] [⟨some 6, (.assign (.const (.bool true))), 4, none⟩])
    .ret)
    .skip))
  (.seq (.rgn [] [⟨some 30, (.load 50 (.tmp 3)), 50, none⟩,
    ⟨some 31, (.call { callee := (.value (.func 31)), args := #[(.tmp 30)], argTypes := #[50] }), 56, none⟩,
    ⟨some 32, (.move (.tmp 1)), 111, none⟩,
    ⟨some 33, (.call { callee := (.value (.func 76)), args := #[(.tmp 32)], argTypes := #[111] }), 114, none⟩,
    ⟨some 34, (.move (.tmp 2)), 30, none⟩,
    ⟨some 35, (.call { callee := (.value (.func 32)), args := #[(.tmp 34)], argTypes := #[30] }), 30, none⟩,
    ⟨some 36, (.call { callee := (.value (.func 75)), args := #[(.tmp 31), (.tmp 33), (.tmp 35)], argTypes := #[56, 114, 30] }), 30, none⟩,
    ⟨some 8, (.assign (.tmp 36)), 30, none⟩])
  (.seq (.rgn [] [⟨some 37, (.load 50 (.tmp 3)), 50, none⟩,
    ⟨some 38, (.call { callee := (.value (.func 31)), args := #[(.tmp 37)], argTypes := #[50] }), 56, none⟩,
    ⟨some 9, (.alloc 56), 0, none⟩,
    ⟨none, (.store 56 (.tmp 9) (.tmp 38)), 0, none⟩])
  (.seq (.rgn [] [⟨some 39, (.move (.tmp 1)), 111, none⟩,
    ⟨some 40, (.call { callee := (.value (.func 76)), args := #[(.tmp 39)], argTypes := #[111] }), 114, none⟩,
    ⟨some 10, (.assign (.tmp 40)), 114, none⟩])
  (.seq (.rgn [] [⟨some 41, (.move (.tmp 2)), 30, none⟩,
    ⟨some 42, (.call { callee := (.value (.func 32)), args := #[(.tmp 41)], argTypes := #[30] }), 30, none⟩,
    ⟨some 11, (.assign (.tmp 42)), 30, none⟩])
  (.seq (.rgn [] [⟨some 43, (.load 56 (.tmp 9)), 56, none⟩,
    ⟨some 44, (.move (.tmp 10)), 114, none⟩,
    ⟨some 45, (.move (.tmp 11)), 30, none⟩,
    ⟨some 46, (.call { callee := (.value (.func 77)), args := #[(.tmp 43), (.tmp 44), (.tmp 45)], argTypes := #[56, 114, 30] }), 30, none⟩,
    ⟨some 12, (.assign (.tmp 46)), 30, none⟩])
  (.seq (.seq (.rgn [] [⟨some 47, (.move (.tmp 12)), 30, none⟩,
    ⟨some 48, (.move (.tmp 8)), 30, none⟩,
    ⟨some 49, (.call { callee := (.value (.func 35)), args := #[(.tmp 47), (.tmp 48)], argTypes := #[30, 30] }), 4, none⟩,
    ⟨some 50, (.unOp .not 4 (.tmp 49)), 4, none⟩])
  (.cond (.tmp 50)
    (.seq (.rgn [] [⟨some 6, (.assign (.const (.bool false))), 4, none⟩])
    .ret)
    .skip))
  (.seq (.seq (.drw [] [([9], [51]), ([3], [52]), ([52], [53]), ([51, 53], [54]), ([54], [55])] [[], [], [1], [0, 2, 2], [3]] [⟨some 51, (.load 56 (.tmp 9)), 56, none⟩,
    ⟨some 52, (.load 50 (.tmp 3)), 50, none⟩,
    ⟨some 53, (.call { callee := (.value (.func 31)), args := #[(.tmp 52)], argTypes := #[50] }), 56, none⟩,
    ⟨some 54, (.call { callee := (.value (.func 34)), args := #[(.tmp 51), (.tmp 53)], argTypes := #[56, 56] }), 4, none⟩,
    ⟨some 55, (.unOp .not 4 (.tmp 54)), 4, none⟩])
  (.cond (.tmp 55)
    (.seq (.rgn [] [⟨some 6, (.assign (.const (.bool false))), 4, none⟩])
    .ret)
    .skip))
  (.seq (.seq (.rgn [] [⟨some 56, (.move (.tmp 10)), 114, none⟩,
    ⟨some 57, (.move (.tmp 1)), 111, none⟩,
    ⟨some 58, (.call { callee := (.value (.func 76)), args := #[(.tmp 57)], argTypes := #[111] }), 114, none⟩,
    ⟨some 59, (.call { callee := (.value (.func 78)), args := #[(.tmp 56), (.tmp 58)], argTypes := #[114, 114] }), 4, none⟩,
    ⟨some 60, (.unOp .not 4 (.tmp 59)), 4, none⟩])
  (.cond (.tmp 60)
    (.seq (.rgn [] [⟨some 6, (.assign (.const (.bool false))), 4, none⟩])
    .ret)
    .skip))
  (.seq (.seq (.rgn [] [⟨some 61, (.move (.tmp 11)), 30, none⟩,
    ⟨some 62, (.move (.tmp 2)), 30, none⟩,
    ⟨some 63, (.call { callee := (.value (.func 32)), args := #[(.tmp 62)], argTypes := #[30] }), 30, none⟩,
    ⟨some 64, (.call { callee := (.value (.func 35)), args := #[(.tmp 61), (.tmp 63)], argTypes := #[30, 30] }), 4, none⟩,
    ⟨some 65, (.unOp .not 4 (.tmp 64)), 4, none⟩])
  (.cond (.tmp 65)
    (.seq (.rgn [] [⟨some 6, (.assign (.const (.bool false))), 4, none⟩])
    .ret)
    .skip))
  (.seq (.rgn [] [⟨some 13, (.assign (.const (.int .i64 1))), 3, none⟩])
  (.seq (.rgn [] [⟨some 66, (.load 56 (.tmp 9)), 56, none⟩,
    ⟨some 67, (.move (.tmp 13)), 3, none⟩,
    ⟨some 68, (.call { callee := (.value (.func 55)), args := #[(.tmp 66), (.tmp 67)], argTypes := #[56, 3] }), 3, none⟩,
    ⟨some 13, (.assign (.tmp 68)), 3, none⟩])
  (.seq (.rgn [] [⟨some 69, (.move (.tmp 10)), 114, none⟩,
    ⟨some 70, (.move (.tmp 13)), 3, none⟩,
    ⟨some 71, (.call { callee := (.value (.func 79)), args := #[(.tmp 69), (.tmp 70)], argTypes := #[114, 3] }), 3, none⟩,
    ⟨some 13, (.assign (.tmp 71)), 3, none⟩])
  (.seq (.rgn [] [⟨some 72, (.move (.tmp 11)), 30, none⟩,
    ⟨some 73, (.move (.tmp 13)), 3, none⟩,
    ⟨some 74, (.call { callee := (.value (.func 57)), args := #[(.tmp 72), (.tmp 73)], argTypes := #[30, 3] }), 3, none⟩,
    ⟨some 13, (.assign (.tmp 74)), 3, none⟩])
  (.seq (.seq (.rgn [] [⟨some 75, (.move (.tmp 13)), 3, none⟩,
    ⟨some 76, (.binOp .lss 3 (.tmp 75) (.const (.int .i64 0)) 3), 4, none⟩,
    ⟨some 77, (.move (.tmp 76)), 4, none⟩,
    ⟨some 78, (.move (.tmp 12)), 30, some (some 77, false)⟩,
    ⟨some 79, (.move (.tmp 8)), 30, some (some 77, false)⟩,
    ⟨some 80, (.call { callee := (.value (.func 35)), args := #[(.tmp 78), (.tmp 79)], argTypes := #[30, 30] }), 4, some (some 77, false)⟩,
    ⟨some 81, (.unOp .not 4 (.tmp 80)), 4, some (some 77, false)⟩,
    ⟨some 82, (.pick (.tmp 77) (.const (.bool true)) (.tmp 81)), 4, none⟩])
  (.cond (.tmp 82)
    (.seq (.rgn [] [⟨some 6, (.assign (.const (.bool false))), 4, none⟩])
    .ret)
    .skip))
  (.seq (.rgn [] [⟨some 14, (.assign (.const (.int .i64 1))), 3, none⟩])
  (.seq (.rgn [] [⟨some 83, (.move (.tmp 12)), 30, none⟩,
    ⟨some 84, (.move (.tmp 14)), 3, none⟩,
    ⟨some 85, (.call { callee := (.value (.func 57)), args := #[(.tmp 83), (.tmp 84)], argTypes := #[30, 3] }), 3, none⟩,
    ⟨some 14, (.assign (.tmp 85)), 3, none⟩])
  (.seq (.rgn [] [⟨some 15, (.assign (.const (.int .i64 1))), 3, none⟩])
  (.seq (.rgn [] [⟨some 86, (.move (.tmp 12)), 30, none⟩,
    ⟨some 87, (.move (.tmp 15)), 3, none⟩,
    ⟨some 88, (.call { callee := (.value (.func 58)), args := #[(.tmp 86), (.tmp 87)], argTypes := #[30, 3] }), 3, none⟩,
    ⟨some 15, (.assign (.tmp 88)), 3, none⟩])
  (.seq (.seq (.rgn [] [⟨some 89, (.move (.tmp 15)), 3, none⟩,
    ⟨some 90, (.binOp .lss 3 (.tmp 89) (.const (.int .i64 0)) 3), 4, none⟩])
  (.cond (.tmp 90)
    (.seq (.rgn [] [⟨some 6, (.assign (.const (.bool false))), 4, none⟩])
    .ret)
    .skip))
  (.seq (.seq (.rgn [] [⟨some 91, (.move (.tmp 15)), 3, none⟩,
    ⟨some 92, (.move (.tmp 14)), 3, none⟩,
    ⟨some 93, (.binOp .neq 3 (.tmp 91) (.tmp 92) 3), 4, none⟩])
  (.cond (.tmp 93)
    (.seq (.rgn [] [⟨some 6, (.assign (.const (.bool false))), 4, none⟩])
    .ret)
    .skip))
  (.seq (.rgn [] [⟨some 94, (.load 50 (.tmp 3)), 50, none⟩,
    ⟨some 95, (.call { callee := (.value (.func 31)), args := #[(.tmp 94)], argTypes := #[50] }), 56, none⟩,
    ⟨some 96, (.move (.tmp 1)), 111, none⟩,
    ⟨some 97, (.call { callee := (.value (.func 76)), args := #[(.tmp 96)], argTypes := #[111] }), 114, none⟩,
    ⟨some 98, (.move (.tmp 2)), 30, none⟩,
    ⟨some 99, (.call { callee := (.value (.func 32)), args := #[(.tmp 98)], argTypes := #[30] }), 30, none⟩,
    ⟨some 100, (.call { callee := (.value (.func 77)), args := #[(.tmp 95), (.tmp 97), (.tmp 99)], argTypes := #[56, 114, 30] }), 30, none⟩,
    ⟨some 16, (.assign (.tmp 100)), 30, none⟩])
  (.seq (.seq (.rgn [] [⟨some 101, (.move (.tmp 16)), 30, none⟩,
    ⟨some 102, (.move (.tmp 8)), 30, none⟩,
    ⟨some 103, (.call { callee := (.value (.func 35)), args := #[(.tmp 101), (.tmp 102)], argTypes := #[30, 30] }), 4, none⟩,
    ⟨some 104, (.unOp .not 4 (.tmp 103)), 4, none⟩])
  (.cond (.tmp 104)
    (.seq (.rgn [] [⟨some 6, (.assign (.const (.bool false))), 4, none⟩])
    .ret)
    .skip))
  (.seq (.rgn [] [⟨some 15, (.assign (.const (.int .i64 1))), 3, none⟩])
  (.seq (.rgn [] [⟨some 105, (.move (.tmp 12)), 30, none⟩,
    ⟨some 106, (.move (.tmp 15)), 3, none⟩,
    ⟨some 107, (.call { callee := (.value (.func 58)), args := #[(.tmp 105), (.tmp 106)], argTypes := #[30, 3] }), 3, none⟩,
    ⟨some 15, (.assign (.tmp 107)), 3, none⟩])
  (.seq (.seq (.rgn [] [⟨some 108, (.move (.tmp 15)), 3, none⟩,
    ⟨some 109, (.binOp .lss 3 (.tmp 108) (.const (.int .i64 0)) 3), 4, none⟩])
  (.cond (.tmp 109)
    (.seq (.rgn [] [⟨some 6, (.assign (.const (.bool false))), 4, none⟩])
    .ret)
    .skip))
  (.seq (.seq (.rgn [] [⟨some 110, (.move (.tmp 15)), 3, none⟩,
    ⟨some 111, (.move (.tmp 14)), 3, none⟩,
    ⟨some 112, (.binOp .neq 3 (.tmp 110) (.tmp 111) 3), 4, none⟩])
  (.cond (.tmp 112)
    (.seq (.rgn [] [⟨some 6, (.assign (.const (.bool false))), 4, none⟩])
    .ret)
    .skip))
  (.seq (.rgn [] [⟨some 6, (.assign (.const (.bool true))), 4, none⟩])
  .ret))))))))))))))))))))))))))))))))))
theorem lit14 : Lit Try.prog 14 113 [3, 9] [.tmp 6] c14 := ⟨⟨Try.f14, _, Try.func14, rfl, by kernel_rfl, rfl, rfl, by kernel_rfl, by kernel_rfl⟩, by decide, by kernel_rfl⟩
end Go.Proofs.Ytkmkbpphdalgoaa
