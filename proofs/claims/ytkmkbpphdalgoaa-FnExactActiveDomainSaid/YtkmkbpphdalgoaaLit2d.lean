/-
  The functions' code as the program holds it, without places and edges; printed by genlit.py. No conditions.
-/
import Derived.Test.YtkmkbpphdalgoaaLitd
namespace Go.Proofs.Ytkmkbpphdalgoaa
open Go.RowKit
set_option linter.unusedVariables false
set_option maxRecDepth 100000
/-- laws.FnExactActiveDomain -/
def c11 : LC :=
  (.seq (.rgn [] [⟨some 1, (.box 95 (.tmp 0)), 0, none⟩,
    ⟨some 2, (.assign (.const (.bool false))), 4, none⟩])
  (.seq (.rgn [] [⟨some 3, (.assign (.const (.int .i64 1048576))), 3, none⟩])
  (.seq (.rgn [] [⟨some 11, (.load 95 (.tmp 1)), 95, none⟩,
    ⟨some 12, (.move (.tmp 3)), 3, none⟩,
    ⟨some 13, (.call { callee := (.value (.func 59)), args := #[(.tmp 11), (.tmp 12)], argTypes := #[95, 3] }), 3, none⟩,
    ⟨some 3, (.assign (.tmp 13)), 3, none⟩])
  (.seq (.seq (.rgn [] [⟨some 14, (.move (.tmp 3)), 3, none⟩,
    ⟨some 15, (.binOp .lss 3 (.tmp 14) (.const (.int .i64 0)) 3), 4, none⟩])
  (.cond (.tmp 15)
    (.seq (.rgn [] [⟨some 2, (.assign (.const (.bool true))), 4, none⟩])
    .ret)
    .skip))
  (.seq (.rgn [] [⟨some 16, (.load 95 (.tmp 1)), 95, none⟩,
    ⟨some 17, (.call { callee := (.value (.func 61)), args := #[(.tmp 16)], argTypes := #[95] }), 100, none⟩,
    ⟨some 18, (.call { callee := (.value (.func 64)), args := #[(.tmp 17)], argTypes := #[100] }), 30, none⟩,
    ⟨some 4, (.assign (.tmp 18)), 30, none⟩])
  (.seq (.rgn [] [⟨some 19, (.load 95 (.tmp 1)), 95, none⟩,
    ⟨some 20, (.call { callee := (.value (.func 61)), args := #[(.tmp 19)], argTypes := #[95] }), 100, none⟩,
    ⟨some 5, (.alloc 100), 0, none⟩,
    ⟨none, (.store 100 (.tmp 5) (.tmp 20)), 0, none⟩])
  (.seq (.rgn [] [⟨some 21, (.load 100 (.tmp 5)), 100, none⟩,
    ⟨some 22, (.call { callee := (.value (.func 65)), args := #[(.tmp 21)], argTypes := #[100] }), 30, none⟩,
    ⟨some 6, (.assign (.tmp 22)), 30, none⟩])
  (.seq (.seq (.rgn [] [⟨some 23, (.move (.tmp 6)), 30, none⟩,
    ⟨some 24, (.move (.tmp 4)), 30, none⟩,
    ⟨some 25, (.call { callee := (.value (.func 35)), args := #[(.tmp 23), (.tmp 24)], argTypes := #[30, 30] }), 4, none⟩,
    ⟨some 26, (.unOp .not 4 (.tmp 25)), 4, none⟩])
  (.cond (.tmp 26)
    (.seq (.rgn [] [⟨some 2, (.assign (.const (.bool false))), 4, none⟩])
    .ret)
    .skip))
  (.seq (.seq (.drw [] [([5], [27]), ([1], [28]), ([28], [29]), ([27, 29], [30]), ([30], [31])] [[], [], [1], [0, 2, 2], [3]] [⟨some 27, (.load 100 (.tmp 5)), 100, none⟩,
    ⟨some 28, (.load 95 (.tmp 1)), 95, none⟩,
    ⟨some 29, (.call { callee := (.value (.func 61)), args := #[(.tmp 28)], argTypes := #[95] }), 100, none⟩,
    ⟨some 30, (.call { callee := (.value (.func 63)), args := #[(.tmp 27), (.tmp 29)], argTypes := #[100, 100] }), 4, none⟩,
    ⟨some 31, (.unOp .not 4 (.tmp 30)), 4, none⟩])
  (.cond (.tmp 31)
    (.seq (.rgn [] [⟨some 2, (.assign (.const (.bool false))), 4, none⟩])
    .ret)
    .skip))
  (.seq (.rgn [] [⟨some 7, (.assign (.const (.int .i64 1))), 3, none⟩])
  (.seq (.rgn [] [⟨some 32, (.load 100 (.tmp 5)), 100, none⟩,
    ⟨some 33, (.move (.tmp 7)), 3, none⟩,
    ⟨some 34, (.call { callee := (.value (.func 66)), args := #[(.tmp 32), (.tmp 33)], argTypes := #[100, 3] }), 3, none⟩,
    ⟨some 7, (.assign (.tmp 34)), 3, none⟩])
  (.seq (.seq (.rgn [] [⟨some 35, (.move (.tmp 7)), 3, none⟩,
    ⟨some 36, (.binOp .lss 3 (.tmp 35) (.const (.int .i64 0)) 3), 4, none⟩,
    ⟨some 37, (.move (.tmp 36)), 4, none⟩,
    ⟨some 38, (.move (.tmp 6)), 30, some (some 37, false)⟩,
    ⟨some 39, (.move (.tmp 4)), 30, some (some 37, false)⟩,
    ⟨some 40, (.call { callee := (.value (.func 35)), args := #[(.tmp 38), (.tmp 39)], argTypes := #[30, 30] }), 4, some (some 37, false)⟩,
    ⟨some 41, (.unOp .not 4 (.tmp 40)), 4, some (some 37, false)⟩,
    ⟨some 42, (.pick (.tmp 37) (.const (.bool true)) (.tmp 41)), 4, none⟩])
  (.cond (.tmp 42)
    (.seq (.rgn [] [⟨some 2, (.assign (.const (.bool false))), 4, none⟩])
    .ret)
    .skip))
  (.seq (.rgn [] [⟨some 8, (.assign (.const (.int .i64 1))), 3, none⟩])
  (.seq (.rgn [] [⟨some 43, (.move (.tmp 6)), 30, none⟩,
    ⟨some 44, (.move (.tmp 8)), 3, none⟩,
    ⟨some 45, (.call { callee := (.value (.func 57)), args := #[(.tmp 43), (.tmp 44)], argTypes := #[30, 3] }), 3, none⟩,
    ⟨some 8, (.assign (.tmp 45)), 3, none⟩])
  (.seq (.rgn [] [⟨some 9, (.assign (.const (.int .i64 1))), 3, none⟩])
  (.seq (.rgn [] [⟨some 46, (.move (.tmp 6)), 30, none⟩,
    ⟨some 47, (.move (.tmp 9)), 3, none⟩,
    ⟨some 48, (.call { callee := (.value (.func 58)), args := #[(.tmp 46), (.tmp 47)], argTypes := #[30, 3] }), 3, none⟩,
    ⟨some 9, (.assign (.tmp 48)), 3, none⟩])
  (.seq (.seq (.rgn [] [⟨some 49, (.move (.tmp 9)), 3, none⟩,
    ⟨some 50, (.binOp .lss 3 (.tmp 49) (.const (.int .i64 0)) 3), 4, none⟩])
  (.cond (.tmp 50)
    (.seq (.rgn [] [⟨some 2, (.assign (.const (.bool false))), 4, none⟩])
    .ret)
    .skip))
  (.seq (.seq (.rgn [] [⟨some 51, (.move (.tmp 9)), 3, none⟩,
    ⟨some 52, (.move (.tmp 8)), 3, none⟩,
    ⟨some 53, (.binOp .neq 3 (.tmp 51) (.tmp 52) 3), 4, none⟩])
  (.cond (.tmp 53)
    (.seq (.rgn [] [⟨some 2, (.assign (.const (.bool false))), 4, none⟩])
    .ret)
    .skip))
  (.seq (.rgn [] [⟨some 54, (.load 95 (.tmp 1)), 95, none⟩,
    ⟨some 55, (.call { callee := (.value (.func 61)), args := #[(.tmp 54)], argTypes := #[95] }), 100, none⟩,
    ⟨some 56, (.call { callee := (.value (.func 65)), args := #[(.tmp 55)], argTypes := #[100] }), 30, none⟩,
    ⟨some 10, (.assign (.tmp 56)), 30, none⟩])
  (.seq (.seq (.rgn [] [⟨some 57, (.move (.tmp 10)), 30, none⟩,
    ⟨some 58, (.move (.tmp 4)), 30, none⟩,
    ⟨some 59, (.call { callee := (.value (.func 35)), args := #[(.tmp 57), (.tmp 58)], argTypes := #[30, 30] }), 4, none⟩,
    ⟨some 60, (.unOp .not 4 (.tmp 59)), 4, none⟩])
  (.cond (.tmp 60)
    (.seq (.rgn [] [⟨some 2, (.assign (.const (.bool false))), 4, none⟩])
    .ret)
    .skip))
  (.seq (.rgn [] [⟨some 9, (.assign (.const (.int .i64 1))), 3, none⟩])
  (.seq (.rgn [] [⟨some 61, (.move (.tmp 6)), 30, none⟩,
    ⟨some 62, (.move (.tmp 9)), 3, none⟩,
    ⟨some 63, (.call { callee := (.value (.func 58)), args := #[(.tmp 61), (.tmp 62)], argTypes := #[30, 3] }), 3, none⟩,
    ⟨some 9, (.assign (.tmp 63)), 3, none⟩])
  (.seq (.seq (.rgn [] [⟨some 64, (.move (.tmp 9)), 3, none⟩,
    ⟨some 65, (.binOp .lss 3 (.tmp 64) (.const (.int .i64 0)) 3), 4, none⟩])
  (.cond (.tmp 65)
    (.seq (.rgn [] [⟨some 2, (.assign (.const (.bool false))), 4, none⟩])
    .ret)
    .skip))
  (.seq (.seq (.rgn [] [⟨some 66, (.move (.tmp 9)), 3, none⟩,
    ⟨some 67, (.move (.tmp 8)), 3, none⟩,
    ⟨some 68, (.binOp .neq 3 (.tmp 66) (.tmp 67) 3), 4, none⟩])
  (.cond (.tmp 68)
    (.seq (.rgn [] [⟨some 2, (.assign (.const (.bool false))), 4, none⟩])
    .ret)
    .skip))
  (.seq (.rgn [] [⟨some 2, (.assign (.const (.bool true))), 4, none⟩])
  .ret)))))))))))))))))))))))))
theorem lit11 : Lit Try.prog 11 69 [1, 5] [.tmp 2] c11 := ⟨⟨Try.f11, _, Try.func11, rfl, by kernel_rfl, rfl, rfl, by kernel_rfl, by kernel_rfl⟩, by decide, by kernel_rfl⟩
end Go.Proofs.Ytkmkbpphdalgoaa
