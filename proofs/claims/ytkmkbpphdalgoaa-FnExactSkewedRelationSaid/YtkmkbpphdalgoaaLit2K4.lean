/-
  The functions' code as the program holds it, without places and edges; printed by genlit.py. No conditions.
-/
import Derived.Test.YtkmkbpphdalgoaaLitK4
namespace Go.Proofs.Ytkmkbpphdalgoaa
open Go.RowKit
set_option linter.unusedVariables false
set_option maxRecDepth 100000
/-- laws.FnExactSkewedRelation -/
def c3 : LC :=
  (.seq (.rgn [] [⟨some 2, (.assign (.const (.bool false))), 4, none⟩])
  (.seq (.rgn [11] [⟨some 12, (.move (.tmp 0)), 3, none⟩,
    ⟨some 13, (.call { callee := (.value (.func 15)), args := #[(.tmp 12)], argTypes := #[3] }), 25, none⟩,
    ⟨some 11, (.move (.tmp 13)), 25, none⟩,
    ⟨some 14, (.extract (.tmp 11) 0), 24, none⟩,
    ⟨some 15, (.extract (.tmp 11) 1), 4, none⟩,
    ⟨some 3, (.alloc 24), 0, none⟩,
    ⟨none, (.store 24 (.tmp 3) (.tmp 14)), 0, none⟩,
    ⟨some 4, (.assign (.tmp 15)), 4, none⟩])
  (.seq (.rgn [16] [⟨some 17, (.move (.tmp 0)), 3, none⟩,
    ⟨some 18, (.call { callee := (.value (.func 16)), args := #[(.tmp 17)], argTypes := #[3] }), 25, none⟩,
    ⟨some 16, (.move (.tmp 18)), 25, none⟩,
    ⟨some 19, (.extract (.tmp 16) 0), 24, none⟩,
    ⟨some 20, (.extract (.tmp 16) 1), 4, none⟩,
    ⟨some 5, (.alloc 24), 0, none⟩,
    ⟨none, (.store 24 (.tmp 5) (.tmp 19)), 0, none⟩,
    ⟨some 6, (.assign (.tmp 20)), 4, none⟩])
  (.seq (.seq (.rgn [] [⟨some 21, (.load 24 (.tmp 5)), 24, none⟩,
    ⟨some 22, (.load 24 (.tmp 3)), 24, none⟩,
    ⟨some 23, (.call { callee := (.value (.func 17)), args := #[(.tmp 21), (.tmp 22)], argTypes := #[24, 24] }), 4, none⟩,
    ⟨some 24, (.unOp .not 4 (.tmp 23)), 4, none⟩,
    ⟨some 25, (.move (.tmp 24)), 4, none⟩,
    ⟨some 26, (.move (.tmp 6)), 4, some (some 25, false)⟩,
    ⟨some 27, (.move (.tmp 4)), 4, some (some 25, false)⟩,
    ⟨some 28, (.binOp .neq 4 (.tmp 26) (.tmp 27) 4), 4, some (some 25, false)⟩,
    ⟨some 29, (.pick (.tmp 25) (.const (.bool true)) (.tmp 28)), 4, none⟩])
  (.cond (.tmp 29)
    (.seq (.rgn [] [⟨some 2, (.assign (.const (.bool false))), 4, none⟩])
    .ret)
    .skip))
  (.seq (.rgn [] [⟨some 7, (.assign (.const (.int .i64 1))), 3, none⟩])
  (.seq (.rgn [] [⟨some 30, (.load 24 (.tmp 5)), 24, none⟩,
    ⟨some 31, (.move (.tmp 7)), 3, none⟩,
    ⟨some 32, (.call { callee := (.value (.func 18)), args := #[(.tmp 30), (.tmp 31)], argTypes := #[24, 3] }), 3, none⟩,
    ⟨some 7, (.assign (.tmp 32)), 3, none⟩])
  (.seq (.rgn [] [⟨some 8, (.assign (.const (.int .i64 1))), 3, none⟩])
  (.seq (.rgn [] [⟨some 33, (.load 24 (.tmp 5)), 24, none⟩,
    ⟨some 34, (.move (.tmp 8)), 3, none⟩,
    ⟨some 35, (.call { callee := (.value (.func 19)), args := #[(.tmp 33), (.tmp 34)], argTypes := #[24, 3] }), 3, none⟩,
    ⟨some 8, (.assign (.tmp 35)), 3, none⟩])
  (.seq (.seq (.rgn [] [⟨some 36, (.move (.tmp 8)), 3, none⟩,
    ⟨some 37, (.binOp .lss 3 (.tmp 36) (.const (.int .i64 0)) 3), 4, none⟩])
  (.cond (.tmp 37)
    (.seq (.rgn [] [⟨some 2, (.assign (.const (.bool false))), 4, none⟩])
    .ret)
    .skip))
  (.seq (.seq (.rgn [] [⟨some 38, (.move (.tmp 8)), 3, none⟩,
    ⟨some 39, (.move (.tmp 7)), 3, none⟩,
    ⟨some 40, (.binOp .neq 3 (.tmp 38) (.tmp 39) 3), 4, none⟩])
  (.cond (.tmp 40)
    (.seq (.rgn [] [⟨some 2, (.assign (.const (.bool false))), 4, none⟩])
    .ret)
    .skip))
  (.seq (.rgn [41] [⟨some 42, (.move (.tmp 0)), 3, none⟩,
    ⟨some 43, (.call { callee := (.value (.func 16)), args := #[(.tmp 42)], argTypes := #[3] }), 25, none⟩,
    ⟨some 41, (.move (.tmp 43)), 25, none⟩,
    ⟨some 44, (.extract (.tmp 41) 0), 24, none⟩,
    ⟨some 45, (.extract (.tmp 41) 1), 4, none⟩,
    ⟨some 9, (.alloc 24), 0, none⟩,
    ⟨none, (.store 24 (.tmp 9) (.tmp 44)), 0, none⟩,
    ⟨some 10, (.assign (.tmp 45)), 4, none⟩])
  (.seq (.seq (.rgn [] [⟨some 46, (.load 24 (.tmp 9)), 24, none⟩,
    ⟨some 47, (.load 24 (.tmp 3)), 24, none⟩,
    ⟨some 48, (.call { callee := (.value (.func 17)), args := #[(.tmp 46), (.tmp 47)], argTypes := #[24, 24] }), 4, none⟩,
    ⟨some 49, (.unOp .not 4 (.tmp 48)), 4, none⟩,
    ⟨some 50, (.move (.tmp 49)), 4, none⟩,
    ⟨some 51, (.move (.tmp 10)), 4, some (some 50, false)⟩,
    ⟨some 52, (.move (.tmp 4)), 4, some (some 50, false)⟩,
    ⟨some 53, (.binOp .neq 4 (.tmp 51) (.tmp 52) 4), 4, some (some 50, false)⟩,
    ⟨some 54, (.pick (.tmp 50) (.const (.bool true)) (.tmp 53)), 4, none⟩])
  (.cond (.tmp 54)
    (.seq (.rgn [] [⟨some 2, (.assign (.const (.bool false))), 4, none⟩])
    .ret)
    .skip))
  (.seq (.rgn [] [⟨some 8, (.assign (.const (.int .i64 1))), 3, none⟩])
  (.seq (.rgn [] [⟨some 55, (.load 24 (.tmp 5)), 24, none⟩,
    ⟨some 56, (.move (.tmp 8)), 3, none⟩,
    ⟨some 57, (.call { callee := (.value (.func 19)), args := #[(.tmp 55), (.tmp 56)], argTypes := #[24, 3] }), 3, none⟩,
    ⟨some 8, (.assign (.tmp 57)), 3, none⟩])
  (.seq (.seq (.rgn [] [⟨some 58, (.move (.tmp 8)), 3, none⟩,
    ⟨some 59, (.binOp .lss 3 (.tmp 58) (.const (.int .i64 0)) 3), 4, none⟩])
  (.cond (.tmp 59)
    (.seq (.rgn [] [⟨some 2, (.assign (.const (.bool false))), 4, none⟩])
    .ret)
    .skip))
  (.seq (.seq (.rgn [] [⟨some 60, (.move (.tmp 8)), 3, none⟩,
    ⟨some 61, (.move (.tmp 7)), 3, none⟩,
    ⟨some 62, (.binOp .neq 3 (.tmp 60) (.tmp 61) 3), 4, none⟩])
  (.cond (.tmp 62)
    (.seq (.rgn [] [⟨some 2, (.assign (.const (.bool false))), 4, none⟩])
    .ret)
    .skip))
  (.seq (.rgn [] [⟨some 2, (.assign (.const (.bool true))), 4, none⟩])
  .ret)))))))))))))))))
theorem lit3 : Lit Try.prog 3 63 [3, 5, 9] [.tmp 2] c3 := ⟨⟨Try.f3, _, Try.func3, rfl, by kernel_rfl, rfl, rfl, by kernel_rfl, by kernel_rfl⟩, by decide, by kernel_rfl⟩
end Go.Proofs.Ytkmkbpphdalgoaa
