/-
  The functions' code as the program holds it, without places and edges; printed by genlit.py. No conditions.
-/
import Derived.Test.YtkmkbpphdalgoaaLitK3
namespace Go.Proofs.Ytkmkbpphdalgoaa
open Go.RowKit
set_option linter.unusedVariables false
set_option maxRecDepth 100000
/-- laws.FnExactSplitHeavy -/
def c5 : LC :=
  (.seq (.rgn [] [⟨some 3, (.box 42 (.tmp 0)), 0, none⟩,
    ⟨some 6, (.assign (.const (.bool false))), 4, none⟩])
  (.seq (.rgn [] [⟨some 7, (.assign (.const (.int .i64 1048576))), 3, none⟩])
  (.seq (.rgn [] [⟨some 21, (.load 42 (.tmp 3)), 42, none⟩,
    ⟨some 22, (.move (.tmp 7)), 3, none⟩,
    ⟨some 23, (.call { callee := (.value (.func 25)), args := #[(.tmp 21), (.tmp 22)], argTypes := #[42, 3] }), 3, none⟩,
    ⟨some 7, (.assign (.tmp 23)), 3, none⟩])
  (.seq (.seq (.rgn [] [⟨some 24, (.move (.tmp 7)), 3, none⟩,
    ⟨some 25, (.binOp .lss 3 (.tmp 24) (.const (.int .i64 0)) 3), 4, none⟩])
  (.cond (.tmp 25)
    (.seq (.rgn [] [⟨some 6, (.assign (.const (.bool true))), 4, none⟩])
    .ret)
    .skip))
  (.seq (.rgn [26] [⟨some 27, (.load 42 (.tmp 3)), 42, none⟩,
    ⟨some 28, (.call { callee := (.value (.func 27)), args := #[(.tmp 27)], argTypes := #[42] }), 24, none⟩,
    ⟨some 29, (.move (.tmp 1)), 3, none⟩,
    ⟨some 30, (.move (.tmp 2)), 3, none⟩,
    ⟨some 31, (.call { callee := (.value (.func 26)), args := #[(.tmp 28), (.tmp 29), (.tmp 30)], argTypes := #[24, 3, 3] }), 44, none⟩,
    ⟨some 26, (.move (.tmp 31)), 44, none⟩,
    ⟨some 32, (.extract (.tmp 26) 0), 24, none⟩,
    ⟨some 33, (.extract (.tmp 26) 1), 24, none⟩,
    ⟨some 34, (.extract (.tmp 26) 2), 4, none⟩,
    ⟨some 8, (.alloc 24), 0, none⟩,
    ⟨some 9, (.alloc 24), 0, none⟩,
    ⟨none, (.store 24 (.tmp 8) (.tmp 32)), 0, none⟩,
    ⟨none, (.store 24 (.tmp 9) (.tmp 33)), 0, none⟩,
    ⟨some 10, (.assign (.tmp 34)), 4, none⟩])
  (.seq (.rgn [] [⟨some 35, (.load 42 (.tmp 3)), 42, none⟩,
    ⟨some 36, (.call { callee := (.value (.func 27)), args := #[(.tmp 35)], argTypes := #[42] }), 24, none⟩,
    ⟨some 11, (.alloc 24), 0, none⟩,
    ⟨none, (.store 24 (.tmp 11) (.tmp 36)), 0, none⟩])
  (.seq (.rgn [37] [⟨some 38, (.load 24 (.tmp 11)), 24, none⟩,
    ⟨some 39, (.move (.tmp 1)), 3, none⟩,
    ⟨some 40, (.move (.tmp 2)), 3, none⟩,
    ⟨some 41, (.call { callee := (.value (.func 28)), args := #[(.tmp 38), (.tmp 39), (.tmp 40)], argTypes := #[24, 3, 3] }), 44, none⟩,
    ⟨some 37, (.move (.tmp 41)), 44, none⟩,
    ⟨some 42, (.extract (.tmp 37) 0), 24, none⟩,
    ⟨some 43, (.extract (.tmp 37) 1), 24, none⟩,
    ⟨some 44, (.extract (.tmp 37) 2), 4, none⟩,
    ⟨some 12, (.alloc 24), 0, none⟩,
    ⟨some 13, (.alloc 24), 0, none⟩,
    ⟨none, (.store 24 (.tmp 12) (.tmp 42)), 0, none⟩,
    ⟨none, (.store 24 (.tmp 13) (.tmp 43)), 0, none⟩,
    ⟨some 14, (.assign (.tmp 44)), 4, none⟩])
  (.seq (.seq (.rgn [] [⟨some 45, (.load 24 (.tmp 12)), 24, none⟩,
    ⟨some 46, (.load 24 (.tmp 8)), 24, none⟩,
    ⟨some 47, (.call { callee := (.value (.func 17)), args := #[(.tmp 45), (.tmp 46)], argTypes := #[24, 24] }), 4, none⟩,
    ⟨some 48, (.unOp .not 4 (.tmp 47)), 4, none⟩,
    ⟨some 49, (.move (.tmp 48)), 4, none⟩,
    ⟨some 50, (.load 24 (.tmp 13)), 24, some (some 49, false)⟩,
    ⟨some 51, (.load 24 (.tmp 9)), 24, some (some 49, false)⟩,
    ⟨some 52, (.call { callee := (.value (.func 17)), args := #[(.tmp 50), (.tmp 51)], argTypes := #[24, 24] }), 4, some (some 49, false)⟩,
    ⟨some 53, (.unOp .not 4 (.tmp 52)), 4, some (some 49, false)⟩,
    ⟨some 54, (.pick (.tmp 49) (.const (.bool true)) (.tmp 53)), 4, none⟩,
    ⟨some 55, (.move (.tmp 54)), 4, none⟩,
    ⟨some 56, (.move (.tmp 14)), 4, some (some 55, false)⟩,
    ⟨some 57, (.move (.tmp 10)), 4, some (some 55, false)⟩,
    ⟨some 58, (.binOp .neq 4 (.tmp 56) (.tmp 57) 4), 4, some (some 55, false)⟩,
    ⟨some 59, (.pick (.tmp 55) (.const (.bool true)) (.tmp 58)), 4, none⟩])
  (.cond (.tmp 59)
    (.seq (.rgn [] [⟨some 6, (.assign (.const (.bool false))), 4, none⟩])
    .ret)
    .skip))
  (.seq (.seq (.drw [] [([11], [60]), ([3], [61]), ([61], [62]), ([60, 62], [63]), ([63], [64])] [[], [], [1], [0, 2, 2], [3]] [⟨some 60, (.load 24 (.tmp 11)), 24, none⟩,
    ⟨some 61, (.load 42 (.tmp 3)), 42, none⟩,
    ⟨some 62, (.call { callee := (.value (.func 27)), args := #[(.tmp 61)], argTypes := #[42] }), 24, none⟩,
    ⟨some 63, (.call { callee := (.value (.func 17)), args := #[(.tmp 60), (.tmp 62)], argTypes := #[24, 24] }), 4, none⟩,
    ⟨some 64, (.unOp .not 4 (.tmp 63)), 4, none⟩])
  (.cond (.tmp 64)
    (.seq (.rgn [] [⟨some 6, (.assign (.const (.bool false))), 4, none⟩])
    .ret)
    .skip))
  (.seq (.rgn [] [⟨some 15, (.assign (.const (.int .i64 1))), 3, none⟩])
  (.seq (.rgn [] [⟨some 65, (.load 24 (.tmp 11)), 24, none⟩,
    ⟨some 66, (.move (.tmp 15)), 3, none⟩,
    ⟨some 67, (.call { callee := (.value (.func 18)), args := #[(.tmp 65), (.tmp 66)], argTypes := #[24, 3] }), 3, none⟩,
    ⟨some 15, (.assign (.tmp 67)), 3, none⟩])
  (.seq (.seq (.rgn [] [⟨some 68, (.move (.tmp 15)), 3, none⟩,
    ⟨some 69, (.binOp .lss 3 (.tmp 68) (.const (.int .i64 0)) 3), 4, none⟩,
    ⟨some 70, (.move (.tmp 69)), 4, none⟩,
    ⟨some 71, (.load 24 (.tmp 12)), 24, some (some 70, false)⟩,
    ⟨some 72, (.load 24 (.tmp 8)), 24, some (some 70, false)⟩,
    ⟨some 73, (.call { callee := (.value (.func 17)), args := #[(.tmp 71), (.tmp 72)], argTypes := #[24, 24] }), 4, some (some 70, false)⟩,
    ⟨some 74, (.unOp .not 4 (.tmp 73)), 4, some (some 70, false)⟩,
    ⟨some 75, (.pick (.tmp 70) (.const (.bool true)) (.tmp 74)), 4, none⟩,
    ⟨some 76, (.move (.tmp 75)), 4, none⟩,
    ⟨some 77, (.load 24 (.tmp 13)), 24, some (some 76, false)⟩,
    ⟨some 78, (.load 24 (.tmp 9)), 24, some (some 76, false)⟩,
    ⟨some 79, (.call { callee := (.value (.func 17)), args := #[(.tmp 77), (.tmp 78)], argTypes := #[24, 24] }), 4, some (some 76, false)⟩,
    ⟨some 80, (.unOp .not 4 (.tmp 79)), 4, some (some 76, false)⟩,
    ⟨some 81, (.pick (.tmp 76) (.const (.bool true)) (.tmp 80)), 4, none⟩,
    ⟨some 82, (.move (.tmp 81)), 4, none⟩,
    ⟨some 83, (.move (.tmp 14)), 4, some (some 82, false)⟩,
    ⟨some 84, (.move (.tmp 10)), 4, some (some 82, false)⟩,
    ⟨some 85, (.binOp .neq 4 (.tmp 83) (.tmp 84) 4), 4, some (some 82, false)⟩,
    ⟨some 86, (.pick (.tmp 82) (.const (.bool true)) (.tmp 85)), 4, none⟩])
  (.cond (.tmp 86)
    (.seq (.rgn [] [⟨some 6, (.assign (.const (.bool false))), 4, none⟩])
    .ret)
    .skip))
  (.seq (.rgn [] [⟨some 16, (.assign (.const (.int .i64 1))), 3, none⟩])
  (.seq (.rgn [] [⟨some 87, (.load 24 (.tmp 12)), 24, none⟩,
    ⟨some 88, (.move (.tmp 16)), 3, none⟩,
    ⟨some 89, (.call { callee := (.value (.func 18)), args := #[(.tmp 87), (.tmp 88)], argTypes := #[24, 3] }), 3, none⟩,
    ⟨some 16, (.assign (.tmp 89)), 3, none⟩])
  (.seq (.rgn [] [⟨some 90, (.load 24 (.tmp 13)), 24, none⟩,
    ⟨some 91, (.move (.tmp 16)), 3, none⟩,
    ⟨some 92, (.call { callee := (.value (.func 18)), args := #[(.tmp 90), (.tmp 91)], argTypes := #[24, 3] }), 3, none⟩,
    ⟨some 16, (.assign (.tmp 92)), 3, none⟩])
  (.seq (.rgn [] [⟨some 17, (.assign (.const (.int .i64 1))), 3, none⟩])
  (.seq (.rgn [] [⟨some 93, (.load 24 (.tmp 12)), 24, none⟩,
    ⟨some 94, (.move (.tmp 17)), 3, none⟩,
    ⟨some 95, (.call { callee := (.value (.func 19)), args := #[(.tmp 93), (.tmp 94)], argTypes := #[24, 3] }), 3, none⟩,
    ⟨some 17, (.assign (.tmp 95)), 3, none⟩])
  (.seq (.seq (.rgn [] [⟨some 96, (.move (.tmp 17)), 3, none⟩,
    ⟨some 97, (.binOp .lss 3 (.tmp 96) (.const (.int .i64 0)) 3), 4, none⟩])
  (.cond (.tmp 97)
    (.seq (.rgn [] [⟨some 6, (.assign (.const (.bool false))), 4, none⟩])
    .ret)
    .skip))
  (.seq (.rgn [] [⟨some 98, (.load 24 (.tmp 13)), 24, none⟩,
    ⟨some 99, (.move (.tmp 17)), 3, none⟩,
    ⟨some 100, (.call { callee := (.value (.func 19)), args := #[(.tmp 98), (.tmp 99)], argTypes := #[24, 3] }), 3, none⟩,
    ⟨some 17, (.assign (.tmp 100)), 3, none⟩])
  (.seq (.seq (.rgn [] [⟨some 101, (.move (.tmp 17)), 3, none⟩,
    ⟨some 102, (.binOp .lss 3 (.tmp 101) (.const (.int .i64 0)) 3), 4, none⟩])
  (.cond (.tmp 102)
    (.seq (.rgn [] [⟨some 6, (.assign (.const (.bool false))), 4, none⟩])
    .ret)
    .skip))
  (.seq (.seq (.rgn [] [⟨some 103, (.move (.tmp 17)), 3, none⟩,
    ⟨some 104, (.move (.tmp 16)), 3, none⟩,
    ⟨some 105, (.binOp .neq 3 (.tmp 103) (.tmp 104) 3), 4, none⟩])
  (.cond (.tmp 105)
    (.seq (.rgn [] [⟨some 6, (.assign (.const (.bool false))), 4, none⟩])
    .ret)
    .skip))
  (.seq (.rgn [106] [⟨some 107, (.load 42 (.tmp 3)), 42, none⟩,
    ⟨some 108, (.call { callee := (.value (.func 27)), args := #[(.tmp 107)], argTypes := #[42] }), 24, none⟩,
    ⟨some 109, (.move (.tmp 1)), 3, none⟩,
    ⟨some 110, (.move (.tmp 2)), 3, none⟩,
    ⟨some 111, (.call { callee := (.value (.func 28)), args := #[(.tmp 108), (.tmp 109), (.tmp 110)], argTypes := #[24, 3, 3] }), 44, none⟩,
    ⟨some 106, (.move (.tmp 111)), 44, none⟩,
    ⟨some 112, (.extract (.tmp 106) 0), 24, none⟩,
    ⟨some 113, (.extract (.tmp 106) 1), 24, none⟩,
    ⟨some 114, (.extract (.tmp 106) 2), 4, none⟩,
    ⟨some 18, (.alloc 24), 0, none⟩,
    ⟨some 19, (.alloc 24), 0, none⟩,
    ⟨none, (.store 24 (.tmp 18) (.tmp 112)), 0, none⟩,
    ⟨none, (.store 24 (.tmp 19) (.tmp 113)), 0, none⟩,
    ⟨some 20, (.assign (.tmp 114)), 4, none⟩])
  (.seq (.seq (.rgn [] [⟨some 115, (.load 24 (.tmp 18)), 24, none⟩,
    ⟨some 116, (.load 24 (.tmp 8)), 24, none⟩,
    ⟨some 117, (.call { callee := (.value (.func 17)), args := #[(.tmp 115), (.tmp 116)], argTypes := #[24, 24] }), 4, none⟩,
    ⟨some 118, (.unOp .not 4 (.tmp 117)), 4, none⟩,
    ⟨some 119, (.move (.tmp 118)), 4, none⟩,
    ⟨some 120, (.load 24 (.tmp 19)), 24, some (some 119, false)⟩,
    ⟨some 121, (.load 24 (.tmp 9)), 24, some (some 119, false)⟩,
    ⟨some 122, (.call { callee := (.value (.func 17)), args := #[(.tmp 120), (.tmp 121)], argTypes := #[24, 24] }), 4, some (some 119, false)⟩,
    ⟨some 123, (.unOp .not 4 (.tmp 122)), 4, some (some 119, false)⟩,
    ⟨some 124, (.pick (.tmp 119) (.const (.bool true)) (.tmp 123)), 4, none⟩,
    ⟨some 125, (.move (.tmp 124)), 4, none⟩,
    ⟨some 126, (.move (.tmp 20)), 4, some (some 125, false)⟩,
    ⟨some 127, (.move (.tmp 10)), 4, some (some 125, false)⟩,
    ⟨some 128, (.binOp .neq 4 (.tmp 126) (.tmp 127) 4), 4, some (some 125, false)⟩,
    ⟨some 129, (.pick (.tmp 125) (.const (.bool true)) (.tmp 128)), 4, none⟩])
  (.cond (.tmp 129)
    (.seq (.rgn [] [⟨some 6, (.assign (.const (.bool false))), 4, none⟩])
    .ret)
    .skip))
  (.seq (.rgn [] [⟨some 17, (.assign (.const (.int .i64 1))), 3, none⟩])
  (.seq (.rgn [] [⟨some 130, (.load 24 (.tmp 12)), 24, none⟩,
    ⟨some 131, (.move (.tmp 17)), 3, none⟩,
    ⟨some 132, (.call { callee := (.value (.func 19)), args := #[(.tmp 130), (.tmp 131)], argTypes := #[24, 3] }), 3, none⟩,
    ⟨some 17, (.assign (.tmp 132)), 3, none⟩])
  (.seq (.seq (.rgn [] [⟨some 133, (.move (.tmp 17)), 3, none⟩,
    ⟨some 134, (.binOp .lss 3 (.tmp 133) (.const (.int .i64 0)) 3), 4, none⟩])
  (.cond (.tmp 134)
    (.seq (.rgn [] [⟨some 6, (.assign (.const (.bool false))), 4, none⟩])
    .ret)
    .skip))
  (.seq (.rgn [] [⟨some 135, (.load 24 (.tmp 13)), 24, none⟩,
    ⟨some 136, (.move (.tmp 17)), 3, none⟩,
    ⟨some 137, (.call { callee := (.value (.func 19)), args := #[(.tmp 135), (.tmp 136)], argTypes := #[24, 3] }), 3, none⟩,
    ⟨some 17, (.assign (.tmp 137)), 3, none⟩])
  (.seq (.seq (.rgn [] [⟨some 138, (.move (.tmp 17)), 3, none⟩,
    ⟨some 139, (.binOp .lss 3 (.tmp 138) (.const (.int .i64 0)) 3), 4, none⟩])
  (.cond (.tmp 139)
    (.seq (.rgn [] [⟨some 6, (.assign (.const (.bool false))), 4, none⟩])
    .ret)
    .skip))
  (.seq (.seq (.rgn [] [⟨some 140, (.move (.tmp 17)), 3, none⟩,
    ⟨some 141, (.move (.tmp 16)), 3, none⟩,
    ⟨some 142, (.binOp .neq 3 (.tmp 140) (.tmp 141) 3), 4, none⟩])
  (.cond (.tmp 142)
    (.seq (.rgn [] [⟨some 6, (.assign (.const (.bool false))), 4, none⟩])
    .ret)
    .skip))
  (.seq (.rgn [] [⟨some 6, (.assign (.const (.bool true))), 4, none⟩])
  .ret))))))))))))))))))))))))))))))
theorem lit5 : Lit Try.prog 5 143 [3, 8, 9, 11, 12, 13, 18, 19] [.tmp 6] c5 := ⟨⟨Try.f5, _, Try.func5, rfl, by kernel_rfl, rfl, rfl, by kernel_rfl, by kernel_rfl⟩, by decide, by kernel_rfl⟩
end Go.Proofs.Ytkmkbpphdalgoaa
