/-
  The functions' code as the program holds it, without places and edges; printed by genlit.py. No conditions.
-/
import Derived.Test.YtkmkbpphdalgoaaLitv
namespace Go.Proofs.Ytkmkbpphdalgoaa
open Go.RowKit
set_option linter.unusedVariables false
set_option maxRecDepth 100000
/-- laws.FnExactFDVariables -/
def c9 : LC :=
  (.seq (.rgn [] [⟨some 2, (.box 50 (.tmp 0)), 0, none⟩,
    ⟨some 3, (.box 83 (.tmp 1)), 0, none⟩,
    ⟨some 4, (.assign (.const (.bool false))), 4, none⟩])
  (.seq (.rgn [] [⟨some 5, (.assign (.const (.int .i64 1048576))), 3, none⟩])
  (.seq (.rgn [] [⟨some 17, (.load 50 (.tmp 2)), 50, none⟩,
    ⟨some 18, (.move (.tmp 5)), 3, none⟩,
    ⟨some 19, (.call { callee := (.value (.func 29)), args := #[(.tmp 17), (.tmp 18)], argTypes := #[50, 3] }), 3, none⟩,
    ⟨some 5, (.assign (.tmp 19)), 3, none⟩])
  (.seq (.seq (.rgn [] [⟨some 20, (.move (.tmp 5)), 3, none⟩,
    ⟨some 21, (.binOp .lss 3 (.tmp 20) (.const (.int .i64 0)) 3), 4, none⟩])
  (.cond (.tmp 21)
    (.seq (.rgn [] [⟨some 4, (.assign (.const (.bool true))), 4, none⟩])
    .ret)
    .skip))
  (.seq (.rgn [] [⟨some 22, (.load 83 (.tmp 3)), 83, none⟩,
    ⟨some 23, (.move (.tmp 5)), 3, none⟩,
    ⟨some 24, (.call { callee := (.value (.func 50)), args := #[(.tmp 22), (.tmp 23)], argTypes := #[83, 3] }), 3, none⟩,
    ⟨some 5, (.assign (.tmp 24)), 3, none⟩])
  (.seq (.seq (.rgn [] [⟨some 25, (.move (.tmp 5)), 3, none⟩,
    ⟨some 26, (.binOp .lss 3 (.tmp 25) (.const (.int .i64 0)) 3), 4, none⟩])
  (.cond (.tmp 26)
    (.seq (.rgn [] [⟨some 4, (.assign (.const (.bool true))), 4, none⟩])
    .ret)
    .skip))
  (.seq (.drw [27] [([2], [28]), ([28], [29]), ([3], [30]), ([30], [31]), ([29, 31], [32]), ([32], [27, 32]), ([27], [27, 33]), ([27], [27, 34]), ([33], [6, 33]), ([34], [7, 34])] [[], [0], [], [2, 1], [1, 3, 3], [4], [5], [5], [6, 4, 0, 1, 2, 3, 4, 5, 6], [7, 8, 0, 1, 2, 3, 4, 5, 6, 7, 8]] [⟨some 28, (.load 50 (.tmp 2)), 50, none⟩,
    ⟨some 29, (.call { callee := (.value (.func 31)), args := #[(.tmp 28)], argTypes := #[50] }), 56, none⟩,
    ⟨some 30, (.load 83 (.tmp 3)), 83, none⟩,
    ⟨some 31, (.call { callee := (.value (.func 52)), args := #[(.tmp 30)], argTypes := #[83] }), 86, none⟩,
    ⟨some 32, (.call { callee := (.value (.func 51)), args := #[(.tmp 29), (.tmp 31)], argTypes := #[56, 86] }), 66, none⟩,
    ⟨some 27, (.move (.tmp 32)), 66, none⟩,
    ⟨some 33, (.extract (.tmp 27) 0), 30, none⟩,
    ⟨some 34, (.extract (.tmp 27) 1), 30, none⟩,
    ⟨some 6, (.assign (.tmp 33)), 30, none⟩,
    ⟨some 7, (.assign (.tmp 34)), 30, none⟩])
  (.seq (.rgn [] [⟨some 35, (.load 50 (.tmp 2)), 50, none⟩,
    ⟨some 36, (.call { callee := (.value (.func 31)), args := #[(.tmp 35)], argTypes := #[50] }), 56, none⟩,
    ⟨some 8, (.alloc 56), 0, none⟩,
    ⟨none, (.store 56 (.tmp 8) (.tmp 36)), 0, none⟩])
  (.seq (.rgn [] [⟨some 37, (.load 83 (.tmp 3)), 83, none⟩,
    ⟨some 38, (.call { callee := (.value (.func 52)), args := #[(.tmp 37)], argTypes := #[83] }), 86, none⟩,
    ⟨some 9, (.alloc 86), 0, none⟩,
    ⟨none, (.store 86 (.tmp 9) (.tmp 38)), 0, none⟩])
  (.seq (.rgn [39] [⟨some 40, (.load 56 (.tmp 8)), 56, none⟩,
    ⟨some 41, (.load 86 (.tmp 9)), 86, none⟩,
    ⟨some 42, (.call { callee := (.value (.func 53)), args := #[(.tmp 40), (.tmp 41)], argTypes := #[56, 86] }), 66, none⟩,
    ⟨some 39, (.move (.tmp 42)), 66, none⟩,
    ⟨some 43, (.extract (.tmp 39) 0), 30, none⟩,
    ⟨some 44, (.extract (.tmp 39) 1), 30, none⟩,
    ⟨some 10, (.assign (.tmp 43)), 30, none⟩,
    ⟨some 11, (.assign (.tmp 44)), 30, none⟩])
  (.seq (.seq (.rgn [] [⟨some 45, (.move (.tmp 10)), 30, none⟩,
    ⟨some 46, (.move (.tmp 6)), 30, none⟩,
    ⟨some 47, (.call { callee := (.value (.func 35)), args := #[(.tmp 45), (.tmp 46)], argTypes := #[30, 30] }), 4, none⟩,
    ⟨some 48, (.unOp .not 4 (.tmp 47)), 4, none⟩,
    ⟨some 49, (.move (.tmp 48)), 4, none⟩,
    ⟨some 50, (.move (.tmp 11)), 30, some (some 49, false)⟩,
    ⟨some 51, (.move (.tmp 7)), 30, some (some 49, false)⟩,
    ⟨some 52, (.call { callee := (.value (.func 35)), args := #[(.tmp 50), (.tmp 51)], argTypes := #[30, 30] }), 4, some (some 49, false)⟩,
    ⟨some 53, (.unOp .not 4 (.tmp 52)), 4, some (some 49, false)⟩,
    ⟨some 54, (.pick (.tmp 49) (.const (.bool true)) (.tmp 53)), 4, none⟩])
  (.cond (.tmp 54)
    (.seq (.rgn [] [⟨some 4, (.assign (.const (.bool false))), 4, none⟩])
    .ret)
    .skip))
  (.seq (.seq (.drw [] [([8], [55]), ([2], [56]), ([56], [57]), ([55, 57], [58]), ([58], [59])] [[], [], [1], [0, 2, 2], [3]] [⟨some 55, (.load 56 (.tmp 8)), 56, none⟩,
    ⟨some 56, (.load 50 (.tmp 2)), 50, none⟩,
    ⟨some 57, (.call { callee := (.value (.func 31)), args := #[(.tmp 56)], argTypes := #[50] }), 56, none⟩,
    ⟨some 58, (.call { callee := (.value (.func 34)), args := #[(.tmp 55), (.tmp 57)], argTypes := #[56, 56] }), 4, none⟩,
    ⟨some 59, (.unOp .not 4 (.tmp 58)), 4, none⟩])
  (.cond (.tmp 59)
    (.seq (.rgn [] [⟨some 4, (.assign (.const (.bool false))), 4, none⟩])
    .ret)
    .skip))
  (.seq (.seq (.drw [] [([9], [60]), ([3], [61]), ([61], [62]), ([60, 62], [63]), ([63], [64])] [[], [], [1], [0, 2, 2], [3]] [⟨some 60, (.load 86 (.tmp 9)), 86, none⟩,
    ⟨some 61, (.load 83 (.tmp 3)), 83, none⟩,
    ⟨some 62, (.call { callee := (.value (.func 52)), args := #[(.tmp 61)], argTypes := #[83] }), 86, none⟩,
    ⟨some 63, (.call { callee := (.value (.func 54)), args := #[(.tmp 60), (.tmp 62)], argTypes := #[86, 86] }), 4, none⟩,
    ⟨some 64, (.unOp .not 4 (.tmp 63)), 4, none⟩])
  (.cond (.tmp 64)
    (.seq (.rgn [] [⟨some 4, (.assign (.const (.bool false))), 4, none⟩])
    .ret)
    .skip))
  (.seq (.rgn [] [⟨some 12, (.assign (.const (.int .i64 1))), 3, none⟩])
  (.seq (.rgn [] [⟨some 65, (.load 56 (.tmp 8)), 56, none⟩,
    ⟨some 66, (.move (.tmp 12)), 3, none⟩,
    ⟨some 67, (.call { callee := (.value (.func 55)), args := #[(.tmp 65), (.tmp 66)], argTypes := #[56, 3] }), 3, none⟩,
    ⟨some 12, (.assign (.tmp 67)), 3, none⟩])
  (.seq (.rgn [] [⟨some 68, (.load 86 (.tmp 9)), 86, none⟩,
    ⟨some 69, (.move (.tmp 12)), 3, none⟩,
    ⟨some 70, (.call { callee := (.value (.func 56)), args := #[(.tmp 68), (.tmp 69)], argTypes := #[86, 3] }), 3, none⟩,
    ⟨some 12, (.assign (.tmp 70)), 3, none⟩])
  (.seq (.seq (.rgn [] [⟨some 71, (.move (.tmp 12)), 3, none⟩,
    ⟨some 72, (.binOp .lss 3 (.tmp 71) (.const (.int .i64 0)) 3), 4, none⟩,
    ⟨some 73, (.move (.tmp 72)), 4, none⟩,
    ⟨some 74, (.move (.tmp 10)), 30, some (some 73, false)⟩,
    ⟨some 75, (.move (.tmp 6)), 30, some (some 73, false)⟩,
    ⟨some 76, (.call { callee := (.value (.func 35)), args := #[(.tmp 74), (.tmp 75)], argTypes := #[30, 30] }), 4, some (some 73, false)⟩,
    ⟨some 77, (.unOp .not 4 (.tmp 76)), 4, some (some 73, false)⟩,
    ⟨some 78, (.pick (.tmp 73) (.const (.bool true)) (.tmp 77)), 4, none⟩,
    ⟨some 79, (.move (.tmp 78)), 4, none⟩,
    ⟨some 80, (.move (.tmp 11)), 30, some (some 79, false)⟩,
    ⟨some 81, (.move (.tmp 7)), 30, some (some 79, false)⟩,
    ⟨some 82, (.call { callee := (.value (.func 35)), args := #[(.tmp 80), (.tmp 81)], argTypes := #[30, 30] }), 4, some (some 79, false)⟩,
    ⟨some 83, (.unOp .not 4 (.tmp 82)), 4, some (some 79, false)⟩,
    ⟨some 84, (.pick (.tmp 79) (.const (.bool true)) (.tmp 83)), 4, none⟩])
  (.cond (.tmp 84)
    (.seq (.rgn [] [⟨some 4, (.assign (.const (.bool false))), 4, none⟩])
    .ret)
    .skip))
  (.seq (.rgn [] [⟨some 13, (.assign (.const (.int .i64 1))), 3, none⟩])
  (.seq (.rgn [] [⟨some 85, (.move (.tmp 10)), 30, none⟩,
    ⟨some 86, (.move (.tmp 13)), 3, none⟩,
    ⟨some 87, (.call { callee := (.value (.func 57)), args := #[(.tmp 85), (.tmp 86)], argTypes := #[30, 3] }), 3, none⟩,
    ⟨some 13, (.assign (.tmp 87)), 3, none⟩])
  (.seq (.rgn [] [⟨some 88, (.move (.tmp 11)), 30, none⟩,
    ⟨some 89, (.move (.tmp 13)), 3, none⟩,
    ⟨some 90, (.call { callee := (.value (.func 57)), args := #[(.tmp 88), (.tmp 89)], argTypes := #[30, 3] }), 3, none⟩,
    ⟨some 13, (.assign (.tmp 90)), 3, none⟩])
  (.seq (.rgn [] [⟨some 14, (.assign (.const (.int .i64 1))), 3, none⟩])
  (.seq (.rgn [] [⟨some 91, (.move (.tmp 10)), 30, none⟩,
    ⟨some 92, (.move (.tmp 14)), 3, none⟩,
    ⟨some 93, (.call { callee := (.value (.func 58)), args := #[(.tmp 91), (.tmp 92)], argTypes := #[30, 3] }), 3, none⟩,
    ⟨some 14, (.assign (.tmp 93)), 3, none⟩])
  (.seq (.seq (.rgn [] [⟨some 94, (.move (.tmp 14)), 3, none⟩,
    ⟨some 95, (.binOp .lss 3 (.tmp 94) (.const (.int .i64 0)) 3), 4, none⟩])
  (.cond (.tmp 95)
    (.seq (.rgn [] [⟨some 4, (.assign (.const (.bool false))), 4, none⟩])
    .ret)
    .skip))
  (.seq (.rgn [] [⟨some 96, (.move (.tmp 11)), 30, none⟩,
    ⟨some 97, (.move (.tmp 14)), 3, none⟩,
    ⟨some 98, (.call { callee := (.value (.func 58)), args := #[(.tmp 96), (.tmp 97)], argTypes := #[30, 3] }), 3, none⟩,
    ⟨some 14, (.assign (.tmp 98)), 3, none⟩])
  (.seq (.seq (.rgn [] [⟨some 99, (.move (.tmp 14)), 3, none⟩,
    ⟨some 100, (.binOp .lss 3 (.tmp 99) (.const (.int .i64 0)) 3), 4, none⟩])
  (.cond (.tmp 100)
    (.seq (.rgn [] [⟨some 4, (.assign (.const (.bool false))), 4, none⟩])
    .ret)
    .skip))
  (.seq (.seq (.rgn [] [⟨some 101, (.move (.tmp 14)), 3, none⟩,
    ⟨some 102, (.move (.tmp 13)), 3, none⟩,
    ⟨some 103, (.binOp .neq 3 (.tmp 101) (.tmp 102) 3), 4, none⟩])
  (.cond (.tmp 103)
    (.seq (.rgn [] [⟨some 4, (.assign (.const (.bool false))), 4, none⟩])
    .ret)
    .skip))
  (.seq (.drw [104] [([2], [105]), ([105], [106]), ([3], [107]), ([107], [108]), ([106, 108], [109]), ([109], [104, 109]), ([104], [104, 110]), ([104], [104, 111]), ([110], [15, 110]), ([111], [16, 111])] [[], [0], [], [2, 1], [1, 3, 3], [4], [5], [5], [6, 4, 0, 1, 2, 3, 4, 5, 6], [7, 8, 0, 1, 2, 3, 4, 5, 6, 7, 8]] [⟨some 105, (.load 50 (.tmp 2)), 50, none⟩,
    ⟨some 106, (.call { callee := (.value (.func 31)), args := #[(.tmp 105)], argTypes := #[50] }), 56, none⟩,
    ⟨some 107, (.load 83 (.tmp 3)), 83, none⟩,
    ⟨some 108, (.call { callee := (.value (.func 52)), args := #[(.tmp 107)], argTypes := #[83] }), 86, none⟩,
    ⟨some 109, (.call { callee := (.value (.func 53)), args := #[(.tmp 106), (.tmp 108)], argTypes := #[56, 86] }), 66, none⟩,
    ⟨some 104, (.move (.tmp 109)), 66, none⟩,
    ⟨some 110, (.extract (.tmp 104) 0), 30, none⟩,
    ⟨some 111, (.extract (.tmp 104) 1), 30, none⟩,
    ⟨some 15, (.assign (.tmp 110)), 30, none⟩,
    ⟨some 16, (.assign (.tmp 111)), 30, none⟩])
  (.seq (.seq (.rgn [] [⟨some 112, (.move (.tmp 15)), 30, none⟩,
    ⟨some 113, (.move (.tmp 6)), 30, none⟩,
    ⟨some 114, (.call { callee := (.value (.func 35)), args := #[(.tmp 112), (.tmp 113)], argTypes := #[30, 30] }), 4, none⟩,
    ⟨some 115, (.unOp .not 4 (.tmp 114)), 4, none⟩,
    ⟨some 116, (.move (.tmp 115)), 4, none⟩,
    ⟨some 117, (.move (.tmp 16)), 30, some (some 116, false)⟩,
    ⟨some 118, (.move (.tmp 7)), 30, some (some 116, false)⟩,
    ⟨some 119, (.call { callee := (.value (.func 35)), args := #[(.tmp 117), (.tmp 118)], argTypes := #[30, 30] }), 4, some (some 116, false)⟩,
    ⟨some 120, (.unOp .not 4 (.tmp 119)), 4, some (some 116, false)⟩,
    ⟨some 121, (.pick (.tmp 116) (.const (.bool true)) (.tmp 120)), 4, none⟩])
  (.cond (.tmp 121)
    (.seq (.rgn [] [⟨some 4, (.assign (.const (.bool false))), 4, none⟩])
    .ret)
    .skip))
  (.seq (.rgn [] [⟨some 14, (.assign (.const (.int .i64 1))), 3, none⟩])
  (.seq (.rgn [] [⟨some 122, (.move (.tmp 10)), 30, none⟩,
    ⟨some 123, (.move (.tmp 14)), 3, none⟩,
    ⟨some 124, (.call { callee := (.value (.func 58)), args := #[(.tmp 122), (.tmp 123)], argTypes := #[30, 3] }), 3, none⟩,
    ⟨some 14, (.assign (.tmp 124)), 3, none⟩])
  (.seq (.seq (.rgn [] [⟨some 125, (.move (.tmp 14)), 3, none⟩,
    ⟨some 126, (.binOp .lss 3 (.tmp 125) (.const (.int .i64 0)) 3), 4, none⟩])
  (.cond (.tmp 126)
    (.seq (.rgn [] [⟨some 4, (.assign (.const (.bool false))), 4, none⟩])
    .ret)
    .skip))
  (.seq (.rgn [] [⟨some 127, (.move (.tmp 11)), 30, none⟩,
    ⟨some 128, (.move (.tmp 14)), 3, none⟩,
    ⟨some 129, (.call { callee := (.value (.func 58)), args := #[(.tmp 127), (.tmp 128)], argTypes := #[30, 3] }), 3, none⟩,
    ⟨some 14, (.assign (.tmp 129)), 3, none⟩])
  (.seq (.seq (.rgn [] [⟨some 130, (.move (.tmp 14)), 3, none⟩,
    ⟨some 131, (.binOp .lss 3 (.tmp 130) (.const (.int .i64 0)) 3), 4, none⟩])
  (.cond (.tmp 131)
    (.seq (.rgn [] [⟨some 4, (.assign (.const (.bool false))), 4, none⟩])
    .ret)
    .skip))
  (.seq (.seq (.rgn [] [⟨some 132, (.move (.tmp 14)), 3, none⟩,
    ⟨some 133, (.move (.tmp 13)), 3, none⟩,
    ⟨some 134, (.binOp .neq 3 (.tmp 132) (.tmp 133) 3), 4, none⟩])
  (.cond (.tmp 134)
    (.seq (.rgn [] [⟨some 4, (.assign (.const (.bool false))), 4, none⟩])
    .ret)
    .skip))
  (.seq (.rgn [] [⟨some 4, (.assign (.const (.bool true))), 4, none⟩])
  .ret)))))))))))))))))))))))))))))))))))
theorem lit9 : Lit Try.prog 9 135 [2, 3, 8, 9] [.tmp 4] c9 := ⟨⟨Try.f9, _, Try.func9, rfl, by kernel_rfl, rfl, rfl, by kernel_rfl, by kernel_rfl⟩, by decide, by kernel_rfl⟩
end Go.Proofs.Ytkmkbpphdalgoaa
