/-
  The functions' code as the program holds it, without places and edges; printed by genlit.py. No conditions.
-/
import Derived.Test.YtkcfahfladikkaaLitN1
namespace Go.Proofs.Ytkcfahfladikkaa
open Go.RowKit
set_option linter.unusedVariables false
set_option maxRecDepth 100000
/-- laws.FnExactNewNotifier -/
def c8 : LC :=
  (.seq (.rgn [] [⟨some 1, (.box 24 (.tmp 0)), 0, none⟩,
    ⟨some 2, (.assign (.const (.bool false))), 4, none⟩])
  (.seq (.rgn [] [⟨some 3, (.assign (.const (.int .i64 1048576))), 3, none⟩])
  (.seq (.rgn [] [⟨some 14, (.load 24 (.tmp 1)), 24, none⟩,
    ⟨some 15, (.move (.tmp 3)), 3, none⟩,
    ⟨some 16, (.call { callee := (.value (.func 13)), args := #[(.tmp 14), (.tmp 15)], argTypes := #[24, 3] }), 3, none⟩,
    ⟨some 3, (.assign (.tmp 16)), 3, none⟩])
  (.seq (.seq (.rgn [] [⟨some 17, (.move (.tmp 3)), 3, none⟩,
    ⟨some 18, (.binOp .lss 3 (.tmp 17) (.const (.int .i64 0)) 3), 4, none⟩])
  (.cond (.tmp 18)
    (.seq (.rgn [] [⟨some 2, (.assign (.const (.bool true))), 4, none⟩])
    .ret)
    .skip))
  (.seq (.rgn [19] [⟨some 20, (.load 24 (.tmp 1)), 24, none⟩,
    ⟨some 21, (.call { callee := (.value (.func 16)), args := #[(.tmp 20)], argTypes := #[24] }), 33, none⟩,
    ⟨some 22, (.call { callee := (.value (.func 51)), args := #[(.tmp 21)], argTypes := #[33] }), 102, none⟩,
    ⟨some 19, (.move (.tmp 22)), 102, none⟩,
    ⟨some 23, (.extract (.tmp 19) 0), 74, none⟩,
    ⟨some 24, (.extract (.tmp 19) 1), 4, none⟩,
    ⟨some 4, (.alloc 74), 0, none⟩,
    ⟨none, (.store 74 (.tmp 4) (.tmp 23)), 0, none⟩,
    ⟨some 5, (.assign (.tmp 24)), 4, none⟩])
  (.seq (.rgn [] [⟨some 25, (.load 24 (.tmp 1)), 24, none⟩,
    ⟨some 26, (.call { callee := (.value (.func 16)), args := #[(.tmp 25)], argTypes := #[24] }), 33, none⟩,
    ⟨some 6, (.alloc 33), 0, none⟩,
    ⟨none, (.store 33 (.tmp 6) (.tmp 26)), 0, none⟩])
  (.seq (.rgn [27] [⟨some 28, (.load 33 (.tmp 6)), 33, none⟩,
    ⟨some 29, (.call { callee := (.value (.func 52)), args := #[(.tmp 28)], argTypes := #[33] }), 102, none⟩,
    ⟨some 27, (.move (.tmp 29)), 102, none⟩,
    ⟨some 30, (.extract (.tmp 27) 0), 74, none⟩,
    ⟨some 31, (.extract (.tmp 27) 1), 4, none⟩,
    ⟨some 7, (.alloc 74), 0, none⟩,
    ⟨none, (.store 74 (.tmp 7) (.tmp 30)), 0, none⟩,
    ⟨some 8, (.assign (.tmp 31)), 4, none⟩])
  (.seq (.seq (.rgn [] [⟨some 32, (.load 74 (.tmp 7)), 74, none⟩,
    ⟨some 33, (.load 74 (.tmp 4)), 74, none⟩,
    ⟨some 34, (.call { callee := (.value (.func 42)), args := #[(.tmp 32), (.tmp 33)], argTypes := #[74, 74] }), 4, none⟩,
    ⟨some 35, (.unOp .not 4 (.tmp 34)), 4, none⟩,
    ⟨some 36, (.move (.tmp 35)), 4, none⟩,
    ⟨some 37, (.move (.tmp 8)), 4, some (some 36, false)⟩,
    ⟨some 38, (.move (.tmp 5)), 4, some (some 36, false)⟩,
    ⟨some 39, (.binOp .neq 4 (.tmp 37) (.tmp 38) 4), 4, some (some 36, false)⟩,
    ⟨some 40, (.pick (.tmp 36) (.const (.bool true)) (.tmp 39)), 4, none⟩])
  (.cond (.tmp 40)
    (.seq (.rgn [] [⟨some 2, (.assign (.const (.bool false))), 4, none⟩])
    .ret)
    .skip))
  (.seq (.seq (.drw [] [([6], [41]), ([1], [42]), ([42], [43]), ([41, 43], [44]), ([44], [45])] [[], [], [1], [0, 2, 2], [3]] [⟨some 41, (.load 33 (.tmp 6)), 33, none⟩,
    ⟨some 42, (.load 24 (.tmp 1)), 24, none⟩,
    ⟨some 43, (.call { callee := (.value (.func 16)), args := #[(.tmp 42)], argTypes := #[24] }), 33, none⟩,
    ⟨some 44, (.call { callee := (.value (.func 20)), args := #[(.tmp 41), (.tmp 43)], argTypes := #[33, 33] }), 4, none⟩,
    ⟨some 45, (.unOp .not 4 (.tmp 44)), 4, none⟩])
  (.cond (.tmp 45)
    (.seq (.rgn [] [⟨some 2, (.assign (.const (.bool false))), 4, none⟩])
    .ret)
    .skip))
  (.seq (.rgn [] [⟨some 9, (.assign (.const (.int .i64 1))), 3, none⟩])
  (.seq (.rgn [] [⟨some 46, (.load 33 (.tmp 6)), 33, none⟩,
    ⟨some 47, (.move (.tmp 9)), 3, none⟩,
    ⟨some 48, (.call { callee := (.value (.func 22)), args := #[(.tmp 46), (.tmp 47)], argTypes := #[33, 3] }), 3, none⟩,
    ⟨some 9, (.assign (.tmp 48)), 3, none⟩])
  (.seq (.seq (.rgn [] [⟨some 49, (.move (.tmp 9)), 3, none⟩,
    ⟨some 50, (.binOp .lss 3 (.tmp 49) (.const (.int .i64 0)) 3), 4, none⟩,
    ⟨some 51, (.move (.tmp 50)), 4, none⟩,
    ⟨some 52, (.load 74 (.tmp 7)), 74, some (some 51, false)⟩,
    ⟨some 53, (.load 74 (.tmp 4)), 74, some (some 51, false)⟩,
    ⟨some 54, (.call { callee := (.value (.func 42)), args := #[(.tmp 52), (.tmp 53)], argTypes := #[74, 74] }), 4, some (some 51, false)⟩,
    ⟨some 55, (.unOp .not 4 (.tmp 54)), 4, some (some 51, false)⟩,
    ⟨some 56, (.pick (.tmp 51) (.const (.bool true)) (.tmp 55)), 4, none⟩,
    ⟨some 57, (.move (.tmp 56)), 4, none⟩,
    ⟨some 58, (.move (.tmp 8)), 4, some (some 57, false)⟩,
    ⟨some 59, (.move (.tmp 5)), 4, some (some 57, false)⟩,
    ⟨some 60, (.binOp .neq 4 (.tmp 58) (.tmp 59) 4), 4, some (some 57, false)⟩,
    ⟨some 61, (.pick (.tmp 57) (.const (.bool true)) (.tmp 60)), 4, none⟩])
  (.cond (.tmp 61)
    (.seq (.rgn [] [⟨some 2, (.assign (.const (.bool false))), 4, none⟩])
    .ret)
    .skip))
  (.seq (.rgn [] [⟨some 10, (.assign (.const (.int .i64 1))), 3, none⟩])
  (.seq (.rgn [] [⟨some 62, (.load 74 (.tmp 7)), 74, none⟩,
    ⟨some 63, (.move (.tmp 10)), 3, none⟩,
    ⟨some 64, (.call { callee := (.value (.func 53)), args := #[(.tmp 62), (.tmp 63)], argTypes := #[74, 3] }), 3, none⟩,
    ⟨some 10, (.assign (.tmp 64)), 3, none⟩])
  (.seq (.rgn [] [⟨some 11, (.assign (.const (.int .i64 1))), 3, none⟩])
  (.seq (.rgn [] [⟨some 65, (.load 74 (.tmp 7)), 74, none⟩,
    ⟨some 66, (.move (.tmp 11)), 3, none⟩,
    ⟨some 67, (.call { callee := (.value (.func 54)), args := #[(.tmp 65), (.tmp 66)], argTypes := #[74, 3] }), 3, none⟩,
    ⟨some 11, (.assign (.tmp 67)), 3, none⟩])
  (.seq (.seq (.rgn [] [⟨some 68, (.move (.tmp 11)), 3, none⟩,
    ⟨some 69, (.binOp .lss 3 (.tmp 68) (.const (.int .i64 0)) 3), 4, none⟩])
  (.cond (.tmp 69)
    (.seq (.rgn [] [⟨some 2, (.assign (.const (.bool false))), 4, none⟩])
    .ret)
    .skip))
  (.seq (.seq (.rgn [] [⟨some 70, (.move (.tmp 11)), 3, none⟩,
    ⟨some 71, (.move (.tmp 10)), 3, none⟩,
    ⟨some 72, (.binOp .neq 3 (.tmp 70) (.tmp 71) 3), 4, none⟩])
  (.cond (.tmp 72)
    (.seq (.rgn [] [⟨some 2, (.assign (.const (.bool false))), 4, none⟩])
    .ret)
    .skip))
  (.seq (.rgn [73] [⟨some 74, (.load 24 (.tmp 1)), 24, none⟩,
    ⟨some 75, (.call { callee := (.value (.func 16)), args := #[(.tmp 74)], argTypes := #[24] }), 33, none⟩,
    ⟨some 76, (.call { callee := (.value (.func 52)), args := #[(.tmp 75)], argTypes := #[33] }), 102, none⟩,
    ⟨some 73, (.move (.tmp 76)), 102, none⟩,
    ⟨some 77, (.extract (.tmp 73) 0), 74, none⟩,
    ⟨some 78, (.extract (.tmp 73) 1), 4, none⟩,
    ⟨some 12, (.alloc 74), 0, none⟩,
    ⟨none, (.store 74 (.tmp 12) (.tmp 77)), 0, none⟩,
    ⟨some 13, (.assign (.tmp 78)), 4, none⟩])
  (.seq (.seq (.rgn [] [⟨some 79, (.load 74 (.tmp 12)), 74, none⟩,
    ⟨some 80, (.load 74 (.tmp 4)), 74, none⟩,
    ⟨some 81, (.call { callee := (.value (.func 42)), args := #[(.tmp 79), (.tmp 80)], argTypes := #[74, 74] }), 4, none⟩,
    ⟨some 82, (.unOp .not 4 (.tmp 81)), 4, none⟩,
    ⟨some 83, (.move (.tmp 82)), 4, none⟩,
    ⟨some 84, (.move (.tmp 13)), 4, some (some 83, false)⟩,
    ⟨some 85, (.move (.tmp 5)), 4, some (some 83, false)⟩,
    ⟨some 86, (.binOp .neq 4 (.tmp 84) (.tmp 85) 4), 4, some (some 83, false)⟩,
    ⟨some 87, (.pick (.tmp 83) (.const (.bool true)) (.tmp 86)), 4, none⟩])
  (.cond (.tmp 87)
    (.seq (.rgn [] [⟨some 2, (.assign (.const (.bool false))), 4, none⟩])
    .ret)
    .skip))
  (.seq (.rgn [] [⟨some 11, (.assign (.const (.int .i64 1))), 3, none⟩])
  (.seq (.rgn [] [⟨some 88, (.load 74 (.tmp 7)), 74, none⟩,
    ⟨some 89, (.move (.tmp 11)), 3, none⟩,
    ⟨some 90, (.call { callee := (.value (.func 54)), args := #[(.tmp 88), (.tmp 89)], argTypes := #[74, 3] }), 3, none⟩,
    ⟨some 11, (.assign (.tmp 90)), 3, none⟩])
  (.seq (.seq (.rgn [] [⟨some 91, (.move (.tmp 11)), 3, none⟩,
    ⟨some 92, (.binOp .lss 3 (.tmp 91) (.const (.int .i64 0)) 3), 4, none⟩])
  (.cond (.tmp 92)
    (.seq (.rgn [] [⟨some 2, (.assign (.const (.bool false))), 4, none⟩])
    .ret)
    .skip))
  (.seq (.seq (.rgn [] [⟨some 93, (.move (.tmp 11)), 3, none⟩,
    ⟨some 94, (.move (.tmp 10)), 3, none⟩,
    ⟨some 95, (.binOp .neq 3 (.tmp 93) (.tmp 94) 3), 4, none⟩])
  (.cond (.tmp 95)
    (.seq (.rgn [] [⟨some 2, (.assign (.const (.bool false))), 4, none⟩])
    .ret)
    .skip))
  (.seq (.rgn [] [⟨some 2, (.assign (.const (.bool true))), 4, none⟩])
  .ret)))))))))))))))))))))))))
theorem lit8 : Lit Try.prog 8 96 [1, 4, 6, 7, 12] [.tmp 2] c8 := ⟨⟨Try.f8, _, Try.func8, rfl, by kernel_rfl, rfl, rfl, by kernel_rfl, by kernel_rfl⟩, by decide, by kernel_rfl⟩
end Go.Proofs.Ytkcfahfladikkaa
