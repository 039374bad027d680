/-
  The functions' code as the program holds it, without places and edges; printed by genlit.py. No conditions.
-/
import Derived.Test.YtkcfahfladikkaaLitS1
namespace Go.Proofs.Ytkcfahfladikkaa
open Go.RowKit
set_option linter.unusedVariables false
set_option maxRecDepth 100000
/-- laws.FnExactSnapshotAt -/
def c4 : LC :=
  (.seq (.rgn [] [⟨some 2, (.box 46 (.tmp 0)), 0, none⟩,
    ⟨some 4, (.assign (.const (.bool false))), 4, none⟩])
  (.seq (.rgn [] [⟨some 5, (.assign (.const (.int .i64 1048576))), 3, none⟩])
  (.seq (.rgn [] [⟨some 16, (.load 46 (.tmp 2)), 46, none⟩,
    ⟨some 17, (.move (.tmp 5)), 3, none⟩,
    ⟨some 18, (.call { callee := (.value (.func 26)), args := #[(.tmp 16), (.tmp 17)], argTypes := #[46, 3] }), 3, none⟩,
    ⟨some 5, (.assign (.tmp 18)), 3, none⟩])
  (.seq (.seq (.rgn [] [⟨some 19, (.move (.tmp 5)), 3, none⟩,
    ⟨some 20, (.binOp .lss 3 (.tmp 19) (.const (.int .i64 0)) 3), 4, none⟩])
  (.cond (.tmp 20)
    (.seq (.rgn [] [⟨some 4, (.assign (.const (.bool true))), 4, none⟩])
    .ret)
    .skip))
  (.seq (.rgn [21] [⟨some 22, (.load 46 (.tmp 2)), 46, none⟩,
    ⟨some 23, (.call { callee := (.value (.func 28)), args := #[(.tmp 22)], argTypes := #[46] }), 52, none⟩,
    ⟨some 24, (.move (.tmp 1)), 3, none⟩,
    ⟨some 25, (.call { callee := (.value (.func 27)), args := #[(.tmp 23), (.tmp 24)], argTypes := #[52, 3] }), 48, none⟩,
    ⟨some 21, (.move (.tmp 25)), 48, none⟩,
    ⟨some 26, (.extract (.tmp 21) 0), 33, none⟩,
    ⟨some 27, (.extract (.tmp 21) 1), 4, none⟩,
    ⟨some 6, (.alloc 33), 0, none⟩,
    ⟨none, (.store 33 (.tmp 6) (.tmp 26)), 0, none⟩,
    ⟨some 7, (.assign (.tmp 27)), 4, none⟩])
  (.seq (.rgn [] [⟨some 28, (.load 46 (.tmp 2)), 46, none⟩,
    ⟨some 29, (.call { callee := (.value (.func 28)), args := #[(.tmp 28)], argTypes := #[46] }), 52, none⟩,
    ⟨some 8, (.alloc 52), 0, none⟩,
    ⟨none, (.store 52 (.tmp 8) (.tmp 29)), 0, none⟩])
  (.seq (.rgn [30] [⟨some 31, (.load 52 (.tmp 8)), 52, none⟩,
    ⟨some 32, (.move (.tmp 1)), 3, none⟩,
    ⟨some 33, (.call { callee := (.value (.func 29)), args := #[(.tmp 31), (.tmp 32)], argTypes := #[52, 3] }), 48, none⟩,
    ⟨some 30, (.move (.tmp 33)), 48, none⟩,
    ⟨some 34, (.extract (.tmp 30) 0), 33, none⟩,
    ⟨some 35, (.extract (.tmp 30) 1), 4, none⟩,
    ⟨some 9, (.alloc 33), 0, none⟩,
    ⟨none, (.store 33 (.tmp 9) (.tmp 34)), 0, none⟩,
    ⟨some 10, (.assign (.tmp 35)), 4, none⟩])
  (.seq (.seq (.rgn [] [⟨some 36, (.load 33 (.tmp 9)), 33, none⟩,
    ⟨some 37, (.load 33 (.tmp 6)), 33, none⟩,
    ⟨some 38, (.call { callee := (.value (.func 20)), args := #[(.tmp 36), (.tmp 37)], argTypes := #[33, 33] }), 4, none⟩,
    ⟨some 39, (.unOp .not 4 (.tmp 38)), 4, none⟩,
    ⟨some 40, (.move (.tmp 39)), 4, none⟩,
    ⟨some 41, (.move (.tmp 10)), 4, some (some 40, false)⟩,
    ⟨some 42, (.move (.tmp 7)), 4, some (some 40, false)⟩,
    ⟨some 43, (.binOp .neq 4 (.tmp 41) (.tmp 42) 4), 4, some (some 40, false)⟩,
    ⟨some 44, (.pick (.tmp 40) (.const (.bool true)) (.tmp 43)), 4, none⟩])
  (.cond (.tmp 44)
    (.seq (.rgn [] [⟨some 4, (.assign (.const (.bool false))), 4, none⟩])
    .ret)
    .skip))
  (.seq (.seq (.drw [] [([8], [45]), ([2], [46]), ([46], [47]), ([45, 47], [48]), ([48], [49])] [[], [], [1], [0, 2, 2], [3]] [⟨some 45, (.load 52 (.tmp 8)), 52, none⟩,
    ⟨some 46, (.load 46 (.tmp 2)), 46, none⟩,
    ⟨some 47, (.call { callee := (.value (.func 28)), args := #[(.tmp 46)], argTypes := #[46] }), 52, none⟩,
    ⟨some 48, (.call { callee := (.value (.func 30)), args := #[(.tmp 45), (.tmp 47)], argTypes := #[52, 52] }), 4, none⟩,
    ⟨some 49, (.unOp .not 4 (.tmp 48)), 4, none⟩])
  (.cond (.tmp 49)
    (.seq (.rgn [] [⟨some 4, (.assign (.const (.bool false))), 4, none⟩])
    .ret)
    .skip))
  (.seq (.rgn [] [⟨some 11, (.assign (.const (.int .i64 1))), 3, none⟩])
  (.seq (.rgn [] [⟨some 50, (.load 52 (.tmp 8)), 52, none⟩,
    ⟨some 51, (.move (.tmp 11)), 3, none⟩,
    ⟨some 52, (.call { callee := (.value (.func 31)), args := #[(.tmp 50), (.tmp 51)], argTypes := #[52, 3] }), 3, none⟩,
    ⟨some 11, (.assign (.tmp 52)), 3, none⟩])
  (.seq (.seq (.rgn [] [⟨some 53, (.move (.tmp 11)), 3, none⟩,
    ⟨some 54, (.binOp .lss 3 (.tmp 53) (.const (.int .i64 0)) 3), 4, none⟩,
    ⟨some 55, (.move (.tmp 54)), 4, none⟩,
    ⟨some 56, (.load 33 (.tmp 9)), 33, some (some 55, false)⟩,
    ⟨some 57, (.load 33 (.tmp 6)), 33, some (some 55, false)⟩,
    ⟨some 58, (.call { callee := (.value (.func 20)), args := #[(.tmp 56), (.tmp 57)], argTypes := #[33, 33] }), 4, some (some 55, false)⟩,
    ⟨some 59, (.unOp .not 4 (.tmp 58)), 4, some (some 55, false)⟩,
    ⟨some 60, (.pick (.tmp 55) (.const (.bool true)) (.tmp 59)), 4, none⟩,
    ⟨some 61, (.move (.tmp 60)), 4, none⟩,
    ⟨some 62, (.move (.tmp 10)), 4, some (some 61, false)⟩,
    ⟨some 63, (.move (.tmp 7)), 4, some (some 61, false)⟩,
    ⟨some 64, (.binOp .neq 4 (.tmp 62) (.tmp 63) 4), 4, some (some 61, false)⟩,
    ⟨some 65, (.pick (.tmp 61) (.const (.bool true)) (.tmp 64)), 4, none⟩])
  (.cond (.tmp 65)
    (.seq (.rgn [] [⟨some 4, (.assign (.const (.bool false))), 4, none⟩])
    .ret)
    .skip))
  (.seq (.rgn [] [⟨some 12, (.assign (.const (.int .i64 1))), 3, none⟩])
  (.seq (.rgn [] [⟨some 66, (.load 33 (.tmp 9)), 33, none⟩,
    ⟨some 67, (.move (.tmp 12)), 3, none⟩,
    ⟨some 68, (.call { callee := (.value (.func 22)), args := #[(.tmp 66), (.tmp 67)], argTypes := #[33, 3] }), 3, none⟩,
    ⟨some 12, (.assign (.tmp 68)), 3, none⟩])
  (.seq (.rgn [] [⟨some 13, (.assign (.const (.int .i64 1))), 3, none⟩])
  (.seq (.rgn [] [⟨some 69, (.load 33 (.tmp 9)), 33, none⟩,
    ⟨some 70, (.move (.tmp 13)), 3, none⟩,
    ⟨some 71, (.call { callee := (.value (.func 32)), args := #[(.tmp 69), (.tmp 70)], argTypes := #[33, 3] }), 3, none⟩,
    ⟨some 13, (.assign (.tmp 71)), 3, none⟩])
  (.seq (.seq (.rgn [] [⟨some 72, (.move (.tmp 13)), 3, none⟩,
    ⟨some 73, (.binOp .lss 3 (.tmp 72) (.const (.int .i64 0)) 3), 4, none⟩])
  (.cond (.tmp 73)
    (.seq (.rgn [] [⟨some 4, (.assign (.const (.bool false))), 4, none⟩])
    .ret)
    .skip))
  (.seq (.seq (.rgn [] [⟨some 74, (.move (.tmp 13)), 3, none⟩,
    ⟨some 75, (.move (.tmp 12)), 3, none⟩,
    ⟨some 76, (.binOp .neq 3 (.tmp 74) (.tmp 75) 3), 4, none⟩])
  (.cond (.tmp 76)
    (.seq (.rgn [] [⟨some 4, (.assign (.const (.bool false))), 4, none⟩])
    .ret)
    .skip))
  (.seq (.rgn [77] [⟨some 78, (.load 46 (.tmp 2)), 46, none⟩,
    ⟨some 79, (.call { callee := (.value (.func 28)), args := #[(.tmp 78)], argTypes := #[46] }), 52, none⟩,
    ⟨some 80, (.move (.tmp 1)), 3, none⟩,
    ⟨some 81, (.call { callee := (.value (.func 29)), args := #[(.tmp 79), (.tmp 80)], argTypes := #[52, 3] }), 48, none⟩,
    ⟨some 77, (.move (.tmp 81)), 48, none⟩,
    ⟨some 82, (.extract (.tmp 77) 0), 33, none⟩,
    ⟨some 83, (.extract (.tmp 77) 1), 4, none⟩,
    ⟨some 14, (.alloc 33), 0, none⟩,
    ⟨none, (.store 33 (.tmp 14) (.tmp 82)), 0, none⟩,
    ⟨some 15, (.assign (.tmp 83)), 4, none⟩])
  (.seq (.seq (.rgn [] [⟨some 84, (.load 33 (.tmp 14)), 33, none⟩,
    ⟨some 85, (.load 33 (.tmp 6)), 33, none⟩,
    ⟨some 86, (.call { callee := (.value (.func 20)), args := #[(.tmp 84), (.tmp 85)], argTypes := #[33, 33] }), 4, none⟩,
    ⟨some 87, (.unOp .not 4 (.tmp 86)), 4, none⟩,
    ⟨some 88, (.move (.tmp 87)), 4, none⟩,
    ⟨some 89, (.move (.tmp 15)), 4, some (some 88, false)⟩,
    ⟨some 90, (.move (.tmp 7)), 4, some (some 88, false)⟩,
    ⟨some 91, (.binOp .neq 4 (.tmp 89) (.tmp 90) 4), 4, some (some 88, false)⟩,
    ⟨some 92, (.pick (.tmp 88) (.const (.bool true)) (.tmp 91)), 4, none⟩])
  (.cond (.tmp 92)
    (.seq (.rgn [] [⟨some 4, (.assign (.const (.bool false))), 4, none⟩])
    .ret)
    .skip))
  (.seq (.rgn [] [⟨some 13, (.assign (.const (.int .i64 1))), 3, none⟩])
  (.seq (.rgn [] [⟨some 93, (.load 33 (.tmp 9)), 33, none⟩,
    ⟨some 94, (.move (.tmp 13)), 3, none⟩,
    ⟨some 95, (.call { callee := (.value (.func 32)), args := #[(.tmp 93), (.tmp 94)], argTypes := #[33, 3] }), 3, none⟩,
    ⟨some 13, (.assign (.tmp 95)), 3, none⟩])
  (.seq (.seq (.rgn [] [⟨some 96, (.move (.tmp 13)), 3, none⟩,
    ⟨some 97, (.binOp .lss 3 (.tmp 96) (.const (.int .i64 0)) 3), 4, none⟩])
  (.cond (.tmp 97)
    (.seq (.rgn [] [⟨some 4, (.assign (.const (.bool false))), 4, none⟩])
    .ret)
    .skip))
  (.seq (.seq (.rgn [] [⟨some 98, (.move (.tmp 13)), 3, none⟩,
    ⟨some 99, (.move (.tmp 12)), 3, none⟩,
    ⟨some 100, (.binOp .neq 3 (.tmp 98) (.tmp 99) 3), 4, none⟩])
  (.cond (.tmp 100)
    (.seq (.rgn [] [⟨some 4, (.assign (.const (.bool false))), 4, none⟩])
    .ret)
    .skip))
  (.seq (.rgn [] [⟨some 4, (.assign (.const (.bool true))), 4, none⟩])
  .ret)))))))))))))))))))))))))
theorem lit4 : Lit Try.prog 4 101 [2, 6, 8, 9, 14] [.tmp 4] c4 := ⟨⟨Try.f4, _, Try.func4, rfl, by kernel_rfl, rfl, rfl, by kernel_rfl, by kernel_rfl⟩, by decide, by kernel_rfl⟩
end Go.Proofs.Ytkcfahfladikkaa
