/-
  The functions' code as the program holds it, without places and edges; printed by genlit.py. No conditions.
-/
import Derived.Test.YtkmkbpphdalgoaaTb
namespace Go.Proofs.Ytkmkbpphdalgoaa
open Go.RowKit
set_option linter.unusedVariables false
set_option maxRecDepth 100000
/-- laws.eqRelation -/
def c17 : LC :=
  (.seq (.rgn [] [⟨some 2, (.box 24 (.tmp 0)), 0, none⟩,
    ⟨some 3, (.box 24 (.tmp 1)), 0, none⟩,
    ⟨some 4, (.assign (.const (.bool false))), 4, none⟩])
  (.seq (.seq (.rgn [] [⟨some 5, (.fieldAddr 24 (.tmp 2) 0), 0, none⟩,
    ⟨some 6, (.load 3 (.tmp 5)), 3, none⟩,
    ⟨some 7, (.fieldAddr 24 (.tmp 3) 0), 0, none⟩,
    ⟨some 8, (.load 3 (.tmp 7)), 3, none⟩,
    ⟨some 9, (.binOp .neq 3 (.tmp 6) (.tmp 8) 3), 4, none⟩])
  (.cond (.tmp 9)
    (.seq (.rgn [] [⟨some 4, (.assign (.const (.bool false))), 4, none⟩])
    .ret)
    .skip))
  (.seq (.seq (.rgn [] [⟨some 10, (.fieldAddr 24 (.tmp 2) 1), 0, none⟩,
    ⟨some 11, (.load 22 (.tmp 10)), 22, none⟩,
    ⟨some 12, (.fieldAddr 24 (.tmp 3) 1), 0, none⟩,
    ⟨some 13, (.load 22 (.tmp 12)), 22, none⟩,
    ⟨some 14, (.call { callee := (.value (.func 84)), args := #[(.tmp 11), (.tmp 13)], argTypes := #[22, 22] }), 4, none⟩,
    ⟨some 15, (.unOp .not 4 (.tmp 14)), 4, none⟩])
  (.cond (.tmp 15)
    (.seq (.rgn [] [⟨some 4, (.assign (.const (.bool false))), 4, none⟩])
    .ret)
    .skip))
  (.seq (.rgn [] [⟨some 4, (.assign (.const (.bool true))), 4, none⟩])
  .ret))))
theorem lit17 : Lit Try.prog 17 16 [2, 3] [.tmp 4] c17 := ⟨⟨Try.f17, _, Try.func17, rfl, by kernel_rfl, rfl, rfl, by kernel_rfl, by kernel_rfl⟩, by decide, by kernel_rfl⟩
/-- laws.markRelation -/
def c18 : LC :=
  (.seq (.rgn [] [⟨some 2, (.box 24 (.tmp 0)), 0, none⟩,
    ⟨some 4, (.assign (.const (.int .i64 0))), 3, none⟩])
  (.seq (.rgn [] [⟨some 5, (.fieldAddr 24 (.tmp 2) 1), 0, none⟩,
    ⟨some 6, (.load 22 (.tmp 5)), 22, none⟩,
    ⟨some 7, (.move (.tmp 1)), 3, none⟩,
    ⟨some 8, (.call { callee := (.value (.func 85)), args := #[(.tmp 6), (.tmp 7)], argTypes := #[22, 3] }), 3, none⟩,
    ⟨some 1, (.assign (.tmp 8)), 3, none⟩])
  (.seq (.rgn [] [⟨some 9, (.move (.tmp 1)), 3, none⟩,
    ⟨some 4, (.assign (.tmp 9)), 3, none⟩])
  .ret)))
theorem lit18 : Lit Try.prog 18 10 [2] [.tmp 4] c18 := ⟨⟨Try.f18, _, Try.func18, rfl, by kernel_rfl, rfl, rfl, by kernel_rfl, by kernel_rfl⟩, by decide, by kernel_rfl⟩
/-- laws.heldRelation -/
def c19 : LC :=
  (.seq (.rgn [] [⟨some 2, (.box 24 (.tmp 0)), 0, none⟩,
    ⟨some 4, (.assign (.const (.int .i64 0))), 3, none⟩])
  (.seq (.rgn [] [⟨some 5, (.fieldAddr 24 (.tmp 2) 1), 0, none⟩,
    ⟨some 6, (.load 22 (.tmp 5)), 22, none⟩,
    ⟨some 7, (.move (.tmp 1)), 3, none⟩,
    ⟨some 8, (.call { callee := (.value (.func 86)), args := #[(.tmp 6), (.tmp 7)], argTypes := #[22, 3] }), 3, none⟩,
    ⟨some 1, (.assign (.tmp 8)), 3, none⟩])
  (.seq (.seq (.rgn [] [⟨some 9, (.move (.tmp 1)), 3, none⟩,
    ⟨some 10, (.binOp .lss 3 (.tmp 9) (.const (.int .i64 0)) 3), 4, none⟩])
  (.cond (.tmp 10)
    (.seq (.rgn [] [⟨some 4, (.assign (.const (.int .i64 (-1)))), 3, none⟩])
    .ret)
    .skip))
  (.seq (.rgn [] [⟨some 11, (.move (.tmp 1)), 3, none⟩,
    ⟨some 4, (.assign (.tmp 11)), 3, none⟩])
  .ret))))
theorem lit19 : Lit Try.prog 19 12 [2] [.tmp 4] c19 := ⟨⟨Try.f19, _, Try.func19, rfl, by kernel_rfl, rfl, rfl, by kernel_rfl, by kernel_rfl⟩, by decide, by kernel_rfl⟩
/-- laws.szRelation -/
def c25 : LC :=
  (.seq (.rgn [] [⟨some 2, (.box 42 (.tmp 0)), 0, none⟩,
    ⟨some 4, (.assign (.const (.int .i64 0))), 3, none⟩])
  (.seq (.rgn [] [⟨some 5, (.fieldAddr 42 (.tmp 2) 1), 0, none⟩,
    ⟨some 6, (.load 22 (.tmp 5)), 22, none⟩,
    ⟨some 7, (.move (.tmp 1)), 3, none⟩,
    ⟨some 8, (.call { callee := (.value (.func 99)), args := #[(.tmp 6), (.tmp 7)], argTypes := #[22, 3] }), 3, none⟩,
    ⟨some 1, (.assign (.tmp 8)), 3, none⟩])
  (.seq (.seq (.rgn [] [⟨some 9, (.move (.tmp 1)), 3, none⟩,
    ⟨some 10, (.binOp .lss 3 (.tmp 9) (.const (.int .i64 0)) 3), 4, none⟩])
  (.cond (.tmp 10)
    (.seq (.rgn [] [⟨some 4, (.assign (.const (.int .i64 (-1)))), 3, none⟩])
    .ret)
    .skip))
  (.seq (.rgn [] [⟨some 11, (.move (.tmp 1)), 3, none⟩,
    ⟨some 4, (.assign (.tmp 11)), 3, none⟩])
  .ret))))
theorem lit25 : Lit Try.prog 25 12 [2] [.tmp 4] c25 := ⟨⟨Try.f25, _, Try.func25, rfl, by kernel_rfl, rfl, rfl, by kernel_rfl, by kernel_rfl⟩, by decide, by kernel_rfl⟩
/-- spec.SplitHeavy -/
def c26 : LC :=
  (.seq (.rgn [] [⟨some 3, (.box 24 (.tmp 0)), 0, none⟩,
    ⟨some 6, (.alloc 24), 0, none⟩,
    ⟨some 7, (.alloc 24), 0, none⟩,
    ⟨some 8, (.assign (.const (.bool false))), 4, none⟩])
  (.seq (.seq (.rgn [] [⟨some 15, (.load 24 (.tmp 3)), 24, none⟩,
    ⟨some 16, (.call { callee := (.value (.func 39)), args := #[(.tmp 15)], argTypes := #[24] }), 4, none⟩,
    ⟨some 17, (.unOp .not 4 (.tmp 16)), 4, none⟩,
    ⟨some 18, (.move (.tmp 17)), 4, none⟩,
    ⟨some 19, (.move (.tmp 1)), 3, some (some 18, false)⟩,
    ⟨some 20, (.fieldAddr 24 (.tmp 3) 0), 0, some (some 18, false)⟩,
    ⟨some 21, (.load 3 (.tmp 20)), 3, some (some 18, false)⟩,
    ⟨some 22, (.binOp .sub 3 (.tmp 21) (.const (.int .i64 1)) 3), 3, some (some 18, false)⟩,
    ⟨some 23, (.call { callee := (.value (.func 80)), args := #[(.tmp 19), (.const (.int .i64 0)), (.tmp 22)], argTypes := #[3, 3, 3] }), 4, some (some 18, false)⟩,
    ⟨some 24, (.unOp .not 4 (.tmp 23)), 4, some (some 18, false)⟩,
    ⟨some 25, (.pick (.tmp 18) (.const (.bool true)) (.tmp 24)), 4, none⟩])
  (.cond (.tmp 25)
    (.seq (.rgn [] [⟨some 26, (.build 24 #[]), 24, none⟩,
      ⟨some 27, (.build 24 #[]), 24, none⟩,
      ⟨none, (.store 24 (.tmp 6) (.tmp 26)), 0, none⟩,
      ⟨none, (.store 24 (.tmp 7) (.tmp 27)), 0, none⟩,
      ⟨some 8, (.assign (.const (.bool false))), 4, none⟩])
    .ret)
    .skip))
  (.seq (.rgn [] [⟨some 28, (.fieldAddr 24 (.tmp 3) 0), 0, none⟩,
    ⟨some 29, (.load 3 (.tmp 28)), 3, none⟩,
    ⟨some 30, (.build 24 #[(0, (.tmp 29))]), 24, none⟩,
    ⟨some 9, (.alloc 24), 0, none⟩,
    ⟨none, (.store 24 (.tmp 9) (.tmp 30)), 0, none⟩])
  (.seq (.rgn [] [⟨some 31, (.fieldAddr 24 (.tmp 3) 0), 0, none⟩,
    ⟨some 32, (.load 3 (.tmp 31)), 3, none⟩,
    ⟨some 33, (.build 24 #[(0, (.tmp 32))]), 24, none⟩,
    ⟨some 10, (.alloc 24), 0, none⟩,
    ⟨none, (.store 24 (.tmp 10) (.tmp 33)), 0, none⟩])
  (.seq (.rgn [34] [⟨some 35, (.load 24 (.tmp 3)), 24, none⟩,
    ⟨some 36, (.move (.tmp 1)), 3, none⟩,
    ⟨some 37, (.call { callee := (.value (.func 100)), args := #[(.tmp 35), (.tmp 36)], argTypes := #[24, 3] }), 66, none⟩,
    ⟨some 34, (.move (.tmp 37)), 66, none⟩,
    ⟨some 38, (.extract (.tmp 34) 0), 30, none⟩,
    ⟨some 39, (.extract (.tmp 34) 1), 30, none⟩,
    ⟨some 11, (.assign (.tmp 38)), 30, none⟩,
    ⟨some 12, (.assign (.tmp 39)), 30, none⟩])
  (.seq (.seq (.rgn [] [⟨some 13, (.assign (.const (.int .i64 0))), 3, none⟩])
  (.blk 0
    (.loop []
      (.seq (.seq (.rgn [] [⟨some 40, (.move (.tmp 13)), 3, none⟩,
        ⟨some 41, (.fieldAddr 24 (.tmp 3) 1), 0, none⟩,
        ⟨some 42, (.load 22 (.tmp 41)), 22, none⟩,
        ⟨some 43, (.call { callee := (.builtin .len), args := #[(.tmp 42)], argTypes := #[22] }), 3, none⟩,
        ⟨some 44, (.binOp .lss 3 (.tmp 40) (.tmp 43) 3), 4, none⟩])
      (.cond (.tmp 44)
        .skip
        (.exit 0)))
      (.seq (.blk 1
        (.seq (.rgn [52] [⟨some 47, (.buildSlice 30 0 #[]), 30, none⟩,
          ⟨some 48, (.fieldAddr 24 (.tmp 3) 1), 0, none⟩,
          ⟨some 49, (.load 22 (.tmp 48)), 22, none⟩,
          ⟨some 50, (.move (.tmp 13)), 3, none⟩,
          ⟨some 51, (.indexAddr 22 (.tmp 49) (.tmp 50)), 0, none⟩,
          ⟨some 52, (.load 30 (.tmp 51)), 30, none⟩,
          ⟨some 53, (.call { callee := (.builtin .append), args := #[(.tmp 47), (.tmp 52)], argTypes := #[30, 30] }), 30, none⟩,
          ⟨some 14, (.assign (.tmp 53)), 30, none⟩])
        (.seq (.rgn [] [⟨some 54, (.move (.tmp 12)), 30, none⟩,
          ⟨some 55, (.move (.tmp 11)), 30, none⟩,
          ⟨some 56, (.move (.tmp 14)), 30, none⟩,
          ⟨some 57, (.move (.tmp 1)), 3, none⟩,
          ⟨some 58, (.indexAddr 30 (.tmp 56) (.tmp 57)), 0, none⟩,
          ⟨some 59, (.load 3 (.tmp 58)), 3, none⟩,
          ⟨some 60, (.call { callee := (.value (.func 101)), args := #[(.tmp 55), (.tmp 59)], argTypes := #[30, 3] }), 3, none⟩,
          ⟨some 61, (.indexAddr 30 (.tmp 54) (.tmp 60)), 0, none⟩,
          ⟨some 62, (.load 3 (.tmp 61)), 3, none⟩,
          ⟨some 63, (.move (.tmp 2)), 3, none⟩,
          ⟨some 64, (.binOp .geq 3 (.tmp 62) (.tmp 63) 3), 4, none⟩])
        (.cond (.tmp 64)
          (.rgn [66, 67] [⟨some 65, (.fieldAddr 24 (.tmp 9) 1), 0, none⟩,
            ⟨some 66, (.load 22 (.tmp 65)), 22, none⟩,
            ⟨some 67, (.move (.tmp 14)), 30, none⟩,
            ⟨some 68, (.buildSlice 22 1 #[(0, (.tmp 67))]), 22, none⟩,
            ⟨some 69, (.call { callee := (.builtin .append), args := #[(.tmp 66), (.tmp 68)], argTypes := #[22, 22] }), 22, none⟩,
            ⟨some 70, (.fieldAddr 24 (.tmp 9) 1), 0, none⟩,
            ⟨none, (.store 22 (.tmp 70) (.tmp 69)), 0, none⟩])
          (.rgn [72, 73] [⟨some 71, (.fieldAddr 24 (.tmp 10) 1), 0, none⟩,
            ⟨some 72, (.load 22 (.tmp 71)), 22, none⟩,
            ⟨some 73, (.move (.tmp 14)), 30, none⟩,
            ⟨some 74, (.buildSlice 22 1 #[(0, (.tmp 73))]), 22, none⟩,
            ⟨some 75, (.call { callee := (.builtin .append), args := #[(.tmp 72), (.tmp 74)], argTypes := #[22, 22] }), 22, none⟩,
            ⟨some 76, (.fieldAddr 24 (.tmp 10) 1), 0, none⟩,
            ⟨none, (.store 22 (.tmp 76) (.tmp 75)), 0, none⟩])))))
      (.rgn [] [⟨some 45, (.move (.tmp 13)), 3, none⟩,
        ⟨some 46, (.binOp .add 3 (.tmp 45) (.const (.int .i64 1)) 3), 3, none⟩,
        ⟨some 13, (.assign (.tmp 46)), 3, none⟩]))))))
  (.seq (.drw [77, 78] [([9], [9, 77]), ([10], [10, 78]), ([6, 77], [6, 77]), ([7, 78], [7, 78]), ([], [8])] [[], [], [0, 0], [1, 2, 0, 1, 2], [3, 0, 1, 2, 3]] [⟨some 77, (.load 24 (.tmp 9)), 24, none⟩,
    ⟨some 78, (.load 24 (.tmp 10)), 24, none⟩,
    ⟨none, (.store 24 (.tmp 6) (.tmp 77)), 0, none⟩,
    ⟨none, (.store 24 (.tmp 7) (.tmp 78)), 0, none⟩,
    ⟨some 8, (.assign (.const (.bool true))), 4, none⟩])
  .ret)))))))
theorem lit26 : Lit Try.prog 26 79 [3, 6, 7, 9, 10] [.cell 6 24, .cell 7 24, .tmp 8] c26 := ⟨⟨Try.f26, _, Try.func26, rfl, by kernel_rfl, rfl, rfl, by kernel_rfl, by kernel_rfl⟩, by decide, by kernel_rfl⟩
/-- laws.toRelation -/
def c27 : LC :=
  (.seq (.rgn [] [⟨some 1, (.box 42 (.tmp 0)), 0, none⟩,
    ⟨some 2, (.alloc 24), 0, none⟩])
  (.seq (.rgn [] [⟨some 3, (.alloc 24), 0, none⟩])
  (.seq (.rgn [] [⟨some 4, (.fieldAddr 42 (.tmp 1) 0), 0, none⟩,
    ⟨some 5, (.load 3 (.tmp 4)), 3, none⟩,
    ⟨some 6, (.fieldAddr 24 (.tmp 3) 0), 0, none⟩,
    ⟨none, (.store 3 (.tmp 6) (.tmp 5)), 0, none⟩])
  (.seq (.rgn [] [⟨some 7, (.fieldAddr 42 (.tmp 1) 1), 0, none⟩,
    ⟨some 8, (.load 22 (.tmp 7)), 22, none⟩,
    ⟨some 9, (.call { callee := (.value (.func 102)), args := #[(.tmp 8)], argTypes := #[22] }), 22, none⟩,
    ⟨some 10, (.fieldAddr 24 (.tmp 3) 1), 0, none⟩,
    ⟨none, (.store 22 (.tmp 10) (.tmp 9)), 0, none⟩])
  (.seq (.rgn [11] [⟨some 11, (.load 24 (.tmp 3)), 24, none⟩,
    ⟨none, (.store 24 (.tmp 2) (.tmp 11)), 0, none⟩])
  .ret)))))
theorem lit27 : Lit Try.prog 27 12 [1, 2, 3] [.cell 2 24] c27 := ⟨⟨Try.f27, _, Try.func27, rfl, by kernel_rfl, rfl, rfl, by kernel_rfl, by kernel_rfl⟩, by decide, by kernel_rfl⟩
/-- impl.SplitHeavy -/
def c28 : LC :=
  (.seq (.rgn [] [⟨some 3, (.box 24 (.tmp 0)), 0, none⟩,
    ⟨some 6, (.alloc 24), 0, none⟩,
    ⟨some 7, (.alloc 24), 0, none⟩,
    ⟨some 8, (.assign (.const (.bool false))), 4, none⟩])
  (.seq (.seq (.rgn [] [⟨some 15, (.load 24 (.tmp 3)), 24, none⟩,
    ⟨some 16, (.call { callee := (.value (.func 103)), args := #[(.tmp 15)], argTypes := #[24] }), 4, none⟩,
    ⟨some 17, (.unOp .not 4 (.tmp 16)), 4, none⟩,
    ⟨some 18, (.move (.tmp 17)), 4, none⟩,
    ⟨some 19, (.move (.tmp 1)), 3, some (some 18, false)⟩,
    ⟨some 20, (.fieldAddr 24 (.tmp 3) 0), 0, some (some 18, false)⟩,
    ⟨some 21, (.load 3 (.tmp 20)), 3, some (some 18, false)⟩,
    ⟨some 22, (.binOp .sub 3 (.tmp 21) (.const (.int .i64 1)) 3), 3, some (some 18, false)⟩,
    ⟨some 23, (.call { callee := (.value (.func 82)), args := #[(.tmp 19), (.const (.int .i64 0)), (.tmp 22)], argTypes := #[3, 3, 3] }), 4, some (some 18, false)⟩,
    ⟨some 24, (.unOp .not 4 (.tmp 23)), 4, some (some 18, false)⟩,
    ⟨some 25, (.pick (.tmp 18) (.const (.bool true)) (.tmp 24)), 4, none⟩])
  (.cond (.tmp 25)
    (.seq (.rgn [] [⟨some 26, (.build 24 #[]), 24, none⟩,
      ⟨some 27, (.build 24 #[]), 24, none⟩,
      ⟨none, (.store 24 (.tmp 6) (.tmp 26)), 0, none⟩,
      ⟨none, (.store 24 (.tmp 7) (.tmp 27)), 0, none⟩,
      ⟨some 8, (.assign (.const (.bool false))), 4, none⟩])
    .ret)
    .skip))
  (.seq (.rgn [28] [⟨some 29, (.load 24 (.tmp 3)), 24, none⟩,
    ⟨some 30, (.move (.tmp 1)), 3, none⟩,
    ⟨some 31, (.call { callee := (.value (.func 38)), args := #[(.tmp 29), (.tmp 30)], argTypes := #[24, 3] }), 66, none⟩,
    ⟨some 28, (.move (.tmp 31)), 66, none⟩,
    ⟨some 32, (.extract (.tmp 28) 0), 30, none⟩,
    ⟨some 33, (.extract (.tmp 28) 1), 30, none⟩,
    ⟨some 9, (.assign (.tmp 32)), 30, none⟩,
    ⟨some 10, (.assign (.tmp 33)), 30, none⟩])
  (.seq (.rgn [] [⟨some 34, (.fieldAddr 24 (.tmp 3) 0), 0, none⟩,
    ⟨some 35, (.load 3 (.tmp 34)), 3, none⟩,
    ⟨some 36, (.build 24 #[(0, (.tmp 35))]), 24, none⟩,
    ⟨some 11, (.alloc 24), 0, none⟩,
    ⟨none, (.store 24 (.tmp 11) (.tmp 36)), 0, none⟩])
  (.seq (.rgn [] [⟨some 37, (.fieldAddr 24 (.tmp 3) 0), 0, none⟩,
    ⟨some 38, (.load 3 (.tmp 37)), 3, none⟩,
    ⟨some 39, (.build 24 #[(0, (.tmp 38))]), 24, none⟩,
    ⟨some 12, (.alloc 24), 0, none⟩,
    ⟨none, (.store 24 (.tmp 12) (.tmp 39)), 0, none⟩])
  (.seq (.seq (.rgn [] [⟨some 40, (.fieldAddr 24 (.tmp 3) 1), 0, none⟩,
    ⟨some 41, (.load 22 (.tmp 40)), 22, none⟩,
    ⟨some 42, (.call { callee := (.builtin .len), args := #[(.tmp 41)], argTypes := #[22] }), 3, none⟩,
    ⟨some 43, (.move (.const (.int .i64 0))), 3, none⟩])
  (.blk 0
    (.loop []
      (.seq (.rgn [] [⟨some 44, (.binOp .lss 3 (.tmp 43) (.tmp 42) 3), 0, none⟩])
      (.seq (.cond (.tmp 44)
        .skip
        (.exit 0))
      (.seq (.blk 1
        (.seq (.rgn [46] [⟨some 45, (.indexAddr 22 (.tmp 41) (.tmp 43)), 0, none⟩,
          ⟨some 46, (.load 30 (.tmp 45)), 30, none⟩,
          ⟨some 14, (.assign (.tmp 46)), 30, none⟩])
        (.seq (.rgn [] [⟨some 47, (.move (.tmp 10)), 30, none⟩,
          ⟨some 48, (.move (.tmp 9)), 30, none⟩,
          ⟨some 49, (.move (.tmp 14)), 30, none⟩,
          ⟨some 50, (.move (.tmp 1)), 3, none⟩,
          ⟨some 51, (.indexAddr 30 (.tmp 49) (.tmp 50)), 0, none⟩,
          ⟨some 52, (.load 3 (.tmp 51)), 3, none⟩,
          ⟨some 53, (.call { callee := (.value (.func 104)), args := #[(.tmp 48), (.tmp 52)], argTypes := #[30, 3] }), 3, none⟩,
          ⟨some 54, (.indexAddr 30 (.tmp 47) (.tmp 53)), 0, none⟩,
          ⟨some 55, (.load 3 (.tmp 54)), 3, none⟩,
          ⟨some 56, (.move (.tmp 2)), 3, none⟩,
          ⟨some 57, (.binOp .geq 3 (.tmp 55) (.tmp 56) 3), 4, none⟩])
        (.cond (.tmp 57)
          (.drw [59] [([11], [58]), ([11, 58], [11, 58, 59]), ([14], [60]), ([60], [61]), ([61], [61, 62]), ([59, 62], [59, 62, 63]), ([11], [64]), ([11, 63, 64], [11, 63, 64])] [[], [0], [], [2], [3], [1, 4, 3], [0, 1, 2, 3, 4, 5], [6, 5, 5, 0, 1, 2, 3, 4, 5]] [⟨some 58, (.fieldAddr 24 (.tmp 11) 1), 0, none⟩,
            ⟨some 59, (.load 22 (.tmp 58)), 22, none⟩,
            ⟨some 60, (.move (.tmp 14)), 30, none⟩,
            ⟨some 61, (.call { callee := (.value (.func 105)), args := #[(.tmp 60)], argTypes := #[30] }), 30, none⟩,
            ⟨some 62, (.buildSlice 22 1 #[(0, (.tmp 61))]), 22, none⟩,
            ⟨some 63, (.call { callee := (.builtin .append), args := #[(.tmp 59), (.tmp 62)], argTypes := #[22, 22] }), 22, none⟩,
            ⟨some 64, (.fieldAddr 24 (.tmp 11) 1), 0, none⟩,
            ⟨none, (.store 22 (.tmp 64) (.tmp 63)), 0, none⟩])
          (.drw [66] [([12], [65]), ([12, 65], [12, 65, 66]), ([14], [67]), ([67], [68]), ([68], [68, 69]), ([66, 69], [66, 69, 70]), ([12], [71]), ([12, 70, 71], [12, 70, 71])] [[], [0], [], [2], [3], [1, 4, 3], [0, 1, 2, 3, 4, 5], [6, 5, 5, 0, 1, 2, 3, 4, 5]] [⟨some 65, (.fieldAddr 24 (.tmp 12) 1), 0, none⟩,
            ⟨some 66, (.load 22 (.tmp 65)), 22, none⟩,
            ⟨some 67, (.move (.tmp 14)), 30, none⟩,
            ⟨some 68, (.call { callee := (.value (.func 105)), args := #[(.tmp 67)], argTypes := #[30] }), 30, none⟩,
            ⟨some 69, (.buildSlice 22 1 #[(0, (.tmp 68))]), 22, none⟩,
            ⟨some 70, (.call { callee := (.builtin .append), args := #[(.tmp 66), (.tmp 69)], argTypes := #[22, 22] }), 22, none⟩,
            ⟨some 71, (.fieldAddr 24 (.tmp 12) 1), 0, none⟩,
            ⟨none, (.store 22 (.tmp 71) (.tmp 70)), 0, none⟩])))))
      (.rgn [] [⟨some 72, (.binOp .add 3 (.tmp 43) (.const (.int .i64 1)) 3), 3, none⟩,
        ⟨some 43, (.move (.tmp 72)), 3, none⟩])))))))
  (.seq (.drw [73, 74] [([11], [11, 73]), ([12], [12, 74]), ([6, 73], [6, 73]), ([7, 74], [7, 74]), ([], [8])] [[], [], [0, 0], [1, 2, 0, 1, 2], [3, 0, 1, 2, 3]] [⟨some 73, (.load 24 (.tmp 11)), 24, none⟩,
    ⟨some 74, (.load 24 (.tmp 12)), 24, none⟩,
    ⟨none, (.store 24 (.tmp 6) (.tmp 73)), 0, none⟩,
    ⟨none, (.store 24 (.tmp 7) (.tmp 74)), 0, none⟩,
    ⟨some 8, (.assign (.const (.bool true))), 4, none⟩])
  .ret)))))))
theorem lit28 : Lit Try.prog 28 75 [3, 6, 7, 11, 12] [.cell 6 24, .cell 7 24, .tmp 8] c28 := ⟨⟨Try.f28, _, Try.func28, rfl, by kernel_rfl, rfl, rfl, by kernel_rfl, by kernel_rfl⟩, by decide, by kernel_rfl⟩
/-- laws.toIntS -/
def c32 : LC :=
  (.seq (.rgn [] [⟨some 2, (.assign (.const (.slice none 0 0))), 30, none⟩])
  (.seq (.rgn [3, 7] [⟨some 5, (.move (.tmp 0)), 30, none⟩,
    ⟨some 6, (.call { callee := (.builtin .len), args := #[(.tmp 5)], argTypes := #[30] }), 3, none⟩,
    ⟨some 7, (.makeSlice 30 (.tmp 6) (.tmp 6)), 30, none⟩,
    ⟨some 3, (.assign (.tmp 7)), 30, none⟩])
  (.seq (.seq (.rgn [] [⟨some 4, (.assign (.const (.int .i64 0))), 3, none⟩])
  (.blk 0
    (.loop []
      (.seq (.seq (.rgn [] [⟨some 8, (.move (.tmp 4)), 3, none⟩,
        ⟨some 9, (.move (.tmp 0)), 30, none⟩,
        ⟨some 10, (.call { callee := (.builtin .len), args := #[(.tmp 9)], argTypes := #[30] }), 3, none⟩,
        ⟨some 11, (.binOp .lss 3 (.tmp 8) (.tmp 10) 3), 4, none⟩])
      (.cond (.tmp 11)
        .skip
        (.exit 0)))
      (.seq (.blk 1
        (.rgn [] [⟨some 14, (.move (.tmp 3)), 30, none⟩,
          ⟨some 15, (.move (.tmp 4)), 3, none⟩,
          ⟨some 16, (.move (.tmp 0)), 30, none⟩,
          ⟨some 17, (.move (.tmp 4)), 3, none⟩,
          ⟨some 18, (.indexAddr 30 (.tmp 16) (.tmp 17)), 0, none⟩,
          ⟨some 19, (.load 3 (.tmp 18)), 3, none⟩,
          ⟨some 20, (.indexAddr 30 (.tmp 14) (.tmp 15)), 0, none⟩,
          ⟨none, (.store 3 (.tmp 20) (.tmp 19)), 0, none⟩]))
      (.rgn [] [⟨some 12, (.move (.tmp 4)), 3, none⟩,
        ⟨some 13, (.binOp .add 3 (.tmp 12) (.const (.int .i64 1)) 3), 3, none⟩,
        ⟨some 4, (.assign (.tmp 13)), 3, none⟩]))))))
  (.seq (.rgn [21] [⟨some 21, (.move (.tmp 3)), 30, none⟩,
    ⟨some 2, (.assign (.tmp 21)), 30, none⟩])
  .ret))))
theorem lit32 : Lit Try.prog 32 22 [3, 7] [.tmp 2] c32 := ⟨⟨Try.f32, _, Try.func32, rfl, by kernel_rfl, rfl, rfl, by kernel_rfl, by kernel_rfl⟩, by decide, by kernel_rfl⟩
/-- laws.eqIntS -/
def c35 : LC :=
  (.seq (.rgn [] [⟨some 4, (.assign (.const (.bool false))), 4, none⟩])
  (.seq (.seq (.rgn [] [⟨some 6, (.move (.tmp 0)), 30, none⟩,
    ⟨some 7, (.call { callee := (.builtin .len), args := #[(.tmp 6)], argTypes := #[30] }), 3, none⟩,
    ⟨some 8, (.move (.tmp 1)), 30, none⟩,
    ⟨some 9, (.call { callee := (.builtin .len), args := #[(.tmp 8)], argTypes := #[30] }), 3, none⟩,
    ⟨some 10, (.binOp .neq 3 (.tmp 7) (.tmp 9) 3), 4, none⟩])
  (.cond (.tmp 10)
    (.seq (.rgn [] [⟨some 4, (.assign (.const (.bool false))), 4, none⟩])
    .ret)
    .skip))
  (.seq (.seq (.rgn [] [⟨some 5, (.assign (.const (.int .i64 0))), 3, none⟩])
  (.blk 0
    (.loop []
      (.seq (.seq (.rgn [] [⟨some 11, (.move (.tmp 5)), 3, none⟩,
        ⟨some 12, (.move (.tmp 0)), 30, none⟩,
        ⟨some 13, (.call { callee := (.builtin .len), args := #[(.tmp 12)], argTypes := #[30] }), 3, none⟩,
        ⟨some 14, (.binOp .lss 3 (.tmp 11) (.tmp 13) 3), 4, none⟩])
      (.cond (.tmp 14)
        .skip
        (.exit 0)))
      (.seq (.blk 1
        (.seq (.drw [] [([0], [17]), ([5], [18]), ([17, 18], [19]), ([19], [20]), ([1], [21]), ([5], [22]), ([21, 22], [23]), ([23], [24]), ([20, 24], [25])] [[], [], [0, 1], [2], [], [], [4, 5], [6], [3, 7]] [⟨some 17, (.move (.tmp 0)), 30, none⟩,
          ⟨some 18, (.move (.tmp 5)), 3, none⟩,
          ⟨some 19, (.indexAddr 30 (.tmp 17) (.tmp 18)), 0, none⟩,
          ⟨some 20, (.load 3 (.tmp 19)), 3, none⟩,
          ⟨some 21, (.move (.tmp 1)), 30, none⟩,
          ⟨some 22, (.move (.tmp 5)), 3, none⟩,
          ⟨some 23, (.indexAddr 30 (.tmp 21) (.tmp 22)), 0, none⟩,
          ⟨some 24, (.load 3 (.tmp 23)), 3, none⟩,
          ⟨some 25, (.binOp .neq 3 (.tmp 20) (.tmp 24) 3), 4, none⟩])
        (.cond (.tmp 25)
          (.seq (.rgn [] [⟨some 4, (.assign (.const (.bool false))), 4, none⟩])
          .ret)
          .skip)))
      (.rgn [] [⟨some 15, (.move (.tmp 5)), 3, none⟩,
        ⟨some 16, (.binOp .add 3 (.tmp 15) (.const (.int .i64 1)) 3), 3, none⟩,
        ⟨some 5, (.assign (.tmp 16)), 3, none⟩]))))))
  (.seq (.rgn [] [⟨some 4, (.assign (.const (.bool true))), 4, none⟩])
  .ret))))
theorem lit35 : Lit Try.prog 35 26 [] [.tmp 4] c35 := ⟨⟨Try.f35, _, Try.func35, rfl, by kernel_rfl, rfl, rfl, by kernel_rfl, by kernel_rfl⟩, by decide, by kernel_rfl⟩
/-- impl.ColumnDegrees -/
def c38 : LC :=
  (.seq (.rgn [] [⟨some 2, (.box 24 (.tmp 0)), 0, none⟩,
    ⟨some 4, (.assign (.const (.slice none 0 0))), 30, none⟩,
    ⟨some 5, (.assign (.const (.slice none 0 0))), 30, none⟩])
  (.seq (.seq (.rgn [] [⟨some 13, (.load 24 (.tmp 2)), 24, none⟩,
    ⟨some 14, (.call { callee := (.value (.func 103)), args := #[(.tmp 13)], argTypes := #[24] }), 4, none⟩,
    ⟨some 15, (.unOp .not 4 (.tmp 14)), 4, none⟩,
    ⟨some 16, (.move (.tmp 15)), 4, none⟩,
    ⟨some 17, (.move (.tmp 1)), 3, some (some 16, false)⟩,
    ⟨some 18, (.fieldAddr 24 (.tmp 2) 0), 0, some (some 16, false)⟩,
    ⟨some 19, (.load 3 (.tmp 18)), 3, some (some 16, false)⟩,
    ⟨some 20, (.binOp .sub 3 (.tmp 19) (.const (.int .i64 1)) 3), 3, some (some 16, false)⟩,
    ⟨some 21, (.call { callee := (.value (.func 82)), args := #[(.tmp 17), (.const (.int .i64 0)), (.tmp 20)], argTypes := #[3, 3, 3] }), 4, some (some 16, false)⟩,
    ⟨some 22, (.unOp .not 4 (.tmp 21)), 4, some (some 16, false)⟩,
    ⟨some 23, (.pick (.tmp 16) (.const (.bool true)) (.tmp 22)), 4, none⟩])
  (.cond (.tmp 23)
    (.seq (.rgn [] [⟨some 4, (.assign (.const (.slice none 0 0))), 30, none⟩,
      ⟨some 5, (.assign (.const (.slice none 0 0))), 30, none⟩])
    .ret)
    .skip))
  (.seq (.rgn [6, 24] [⟨some 24, (.makeSlice 30 (.const (.int .i64 100)) (.const (.int .i64 100))), 30, none⟩,
    ⟨some 6, (.assign (.tmp 24)), 30, none⟩])
  (.seq (.seq (.rgn [] [⟨some 25, (.fieldAddr 24 (.tmp 2) 1), 0, none⟩,
    ⟨some 26, (.load 22 (.tmp 25)), 22, none⟩,
    ⟨some 27, (.call { callee := (.builtin .len), args := #[(.tmp 26)], argTypes := #[22] }), 3, none⟩,
    ⟨some 28, (.move (.const (.int .i64 0))), 3, none⟩])
  (.blk 0
    (.loop []
      (.seq (.rgn [] [⟨some 29, (.binOp .lss 3 (.tmp 28) (.tmp 27) 3), 0, none⟩])
      (.seq (.cond (.tmp 29)
        .skip
        (.exit 0))
      (.seq (.blk 1
        (.seq (.rgn [31] [⟨some 30, (.indexAddr 22 (.tmp 26) (.tmp 28)), 0, none⟩,
          ⟨some 31, (.load 30 (.tmp 30)), 30, none⟩,
          ⟨some 8, (.assign (.tmp 31)), 30, none⟩])
        (.rgn [] [⟨some 32, (.move (.tmp 6)), 30, none⟩,
          ⟨some 33, (.move (.tmp 8)), 30, none⟩,
          ⟨some 34, (.move (.tmp 1)), 3, none⟩,
          ⟨some 35, (.indexAddr 30 (.tmp 33) (.tmp 34)), 0, none⟩,
          ⟨some 36, (.load 3 (.tmp 35)), 3, none⟩,
          ⟨some 37, (.indexAddr 30 (.tmp 32) (.tmp 36)), 0, none⟩,
          ⟨some 38, (.load 3 (.tmp 37)), 3, none⟩,
          ⟨some 39, (.binOp .add 3 (.tmp 38) (.const (.int .i64 1)) 3), 3, none⟩,
          ⟨some 40, (.indexAddr 30 (.tmp 32) (.tmp 36)), 0, none⟩,
          ⟨none, (.store 3 (.tmp 40) (.tmp 39)), 0, none⟩])))
      (.rgn [] [⟨some 41, (.binOp .add 3 (.tmp 28) (.const (.int .i64 1)) 3), 3, none⟩,
        ⟨some 28, (.move (.tmp 41)), 3, none⟩])))))))
  (.seq (.rgn [] [⟨some 9, (.assign (.const (.slice none 0 0))), 30, none⟩,
    ⟨some 10, (.assign (.const (.slice none 0 0))), 30, none⟩])
  (.seq (.seq (.rgn [] [⟨some 42, (.move (.tmp 6)), 30, none⟩,
    ⟨some 43, (.call { callee := (.builtin .len), args := #[(.tmp 42)], argTypes := #[30] }), 3, none⟩,
    ⟨some 44, (.move (.const (.int .i64 0))), 3, none⟩])
  (.blk 2
    (.loop []
      (.seq (.rgn [] [⟨some 45, (.binOp .lss 3 (.tmp 44) (.tmp 43) 3), 0, none⟩])
      (.seq (.cond (.tmp 45)
        .skip
        (.exit 2))
      (.seq (.blk 3
        (.seq (.rgn [] [⟨some 46, (.move (.tmp 44)), 3, none⟩,
          ⟨some 47, (.indexAddr 30 (.tmp 42) (.tmp 44)), 0, none⟩,
          ⟨some 48, (.load 3 (.tmp 47)), 3, none⟩,
          ⟨some 11, (.assign (.tmp 46)), 3, none⟩,
          ⟨some 12, (.assign (.tmp 48)), 3, none⟩])
        (.seq (.rgn [] [⟨some 49, (.move (.tmp 12)), 3, none⟩,
          ⟨some 50, (.binOp .gtr 3 (.tmp 49) (.const (.int .i64 0)) 3), 4, none⟩])
        (.cond (.tmp 50)
          (.seq (.rgn [51] [⟨some 51, (.move (.tmp 9)), 30, none⟩,
            ⟨some 52, (.move (.tmp 11)), 3, none⟩,
            ⟨some 53, (.buildSlice 30 1 #[(0, (.tmp 52))]), 30, none⟩,
            ⟨some 54, (.call { callee := (.builtin .append), args := #[(.tmp 51), (.tmp 53)], argTypes := #[30, 30] }), 30, none⟩,
            ⟨some 9, (.assign (.tmp 54)), 30, none⟩])
          (.rgn [55] [⟨some 55, (.move (.tmp 10)), 30, none⟩,
            ⟨some 56, (.move (.tmp 12)), 3, none⟩,
            ⟨some 57, (.buildSlice 30 1 #[(0, (.tmp 56))]), 30, none⟩,
            ⟨some 58, (.call { callee := (.builtin .append), args := #[(.tmp 55), (.tmp 57)], argTypes := #[30, 30] }), 30, none⟩,
            ⟨some 10, (.assign (.tmp 58)), 30, none⟩]))
          .skip))))
      (.rgn [] [⟨some 59, (.binOp .add 3 (.tmp 44) (.const (.int .i64 1)) 3), 3, none⟩,
        ⟨some 44, (.move (.tmp 59)), 3, none⟩])))))))
  (.seq (.rgn [60, 61] [⟨some 60, (.move (.tmp 9)), 30, none⟩,
    ⟨some 61, (.move (.tmp 10)), 30, none⟩,
    ⟨some 4, (.assign (.tmp 60)), 30, none⟩,
    ⟨some 5, (.assign (.tmp 61)), 30, none⟩])
  .ret)))))))
theorem lit38 : Lit Try.prog 38 62 [2, 6, 24] [.tmp 4, .tmp 5] c38 := ⟨⟨Try.f38, _, Try.func38, rfl, by kernel_rfl, rfl, rfl, by kernel_rfl, by kernel_rfl⟩, by decide, by kernel_rfl⟩
/-- spec.IsValidRelation -/
def c39 : LC :=
  (.seq (.rgn [] [⟨some 1, (.box 24 (.tmp 0)), 0, none⟩,
    ⟨some 2, (.assign (.const (.bool false))), 4, none⟩])
  (.seq (.seq (.rgn [] [⟨some 4, (.fieldAddr 24 (.tmp 1) 0), 0, none⟩,
    ⟨some 5, (.load 3 (.tmp 4)), 3, none⟩,
    ⟨some 6, (.call { callee := (.value (.func 80)), args := #[(.tmp 5), (.const (.int .i64 0)), (.const (.int .i64 5))], argTypes := #[3, 3, 3] }), 4, none⟩,
    ⟨some 7, (.unOp .not 4 (.tmp 6)), 4, none⟩,
    ⟨some 8, (.move (.tmp 7)), 4, none⟩,
    ⟨some 9, (.fieldAddr 24 (.tmp 1) 1), 0, some (some 8, false)⟩,
    ⟨some 10, (.load 22 (.tmp 9)), 22, some (some 8, false)⟩,
    ⟨some 11, (.call { callee := (.builtin .len), args := #[(.tmp 10)], argTypes := #[22] }), 3, some (some 8, false)⟩,
    ⟨some 12, (.binOp .gtr 3 (.tmp 11) (.const (.int .i64 4000)) 3), 4, some (some 8, false)⟩,
    ⟨some 13, (.pick (.tmp 8) (.const (.bool true)) (.tmp 12)), 4, none⟩])
  (.cond (.tmp 13)
    (.seq (.rgn [] [⟨some 2, (.assign (.const (.bool false))), 4, none⟩])
    .ret)
    .skip))
  (.seq (.seq (.rgn [] [⟨some 3, (.assign (.const (.int .i64 0))), 3, none⟩])
  (.blk 0
    (.loop []
      (.seq (.seq (.rgn [] [⟨some 14, (.move (.tmp 3)), 3, none⟩,
        ⟨some 15, (.fieldAddr 24 (.tmp 1) 1), 0, none⟩,
        ⟨some 16, (.load 22 (.tmp 15)), 22, none⟩,
        ⟨some 17, (.call { callee := (.builtin .len), args := #[(.tmp 16)], argTypes := #[22] }), 3, none⟩,
        ⟨some 18, (.binOp .lss 3 (.tmp 14) (.tmp 17) 3), 4, none⟩])
      (.cond (.tmp 18)
        .skip
        (.exit 0)))
      (.seq (.blk 1
        (.seq (.drw [] [([1], [21]), ([1, 21], [22]), ([3], [23]), ([22, 23], [24]), ([24], [25]), ([25], [26]), ([1], [27]), ([1, 27], [28]), ([26, 28], [29]), ([29], [30]), ([1, 30], [31]), ([1, 30, 31], [32]), ([3, 30], [33]), ([30, 32, 33], [34]), ([30, 34], [35]), ([30, 35], [36]), ([30, 36], [37]), ([30, 37], [38]), ([38], [39]), ([3, 39], [40]), ([39, 40], [41]), ([39, 41], [42]), ([1, 42], [43]), ([1, 42, 43], [44]), ([3, 42], [45]), ([42, 45], [46]), ([42, 44, 46], [47]), ([42, 47], [48]), ([1, 42], [49]), ([1, 42, 49], [50]), ([3, 42], [51]), ([42, 50, 51], [52]), ([42, 52], [53]), ([42, 48, 53], [54]), ([42, 54], [55]), ([39, 42, 55], [56]), ([39, 56], [57])] [[], [0], [], [1, 2], [3], [4], [], [6], [5, 7], [8], [9], [10, 9], [9], [11, 12, 9], [13, 9], [14, 9, 9], [15, 9], [9, 16], [17, 15], [18], [19, 18], [20, 18, 18], [21], [22, 21], [21], [24, 21], [23, 25, 21], [26, 21], [21], [28, 21], [21], [29, 30, 21], [31, 21], [27, 32, 21, 21], [33, 21], [21, 34, 18], [18, 35]] [⟨some 21, (.fieldAddr 24 (.tmp 1) 1), 0, none⟩,
          ⟨some 22, (.load 22 (.tmp 21)), 22, none⟩,
          ⟨some 23, (.move (.tmp 3)), 3, none⟩,
          ⟨some 24, (.indexAddr 22 (.tmp 22) (.tmp 23)), 0, none⟩,
          ⟨some 25, (.load 30 (.tmp 24)), 30, none⟩,
          ⟨some 26, (.call { callee := (.builtin .len), args := #[(.tmp 25)], argTypes := #[30] }), 3, none⟩,
          ⟨some 27, (.fieldAddr 24 (.tmp 1) 0), 0, none⟩,
          ⟨some 28, (.load 3 (.tmp 27)), 3, none⟩,
          ⟨some 29, (.binOp .neq 3 (.tmp 26) (.tmp 28) 3), 4, none⟩,
          ⟨some 30, (.move (.tmp 29)), 4, none⟩,
          ⟨some 31, (.fieldAddr 24 (.tmp 1) 1), 0, some (some 30, false)⟩,
          ⟨some 32, (.load 22 (.tmp 31)), 22, some (some 30, false)⟩,
          ⟨some 33, (.move (.tmp 3)), 3, some (some 30, false)⟩,
          ⟨some 34, (.indexAddr 22 (.tmp 32) (.tmp 33)), 0, some (some 30, false)⟩,
          ⟨some 35, (.load 30 (.tmp 34)), 30, some (some 30, false)⟩,
          ⟨some 36, (.call { callee := (.value (.func 116)), args := #[(.tmp 35)], argTypes := #[30] }), 4, some (some 30, false)⟩,
          ⟨some 37, (.unOp .not 4 (.tmp 36)), 4, some (some 30, false)⟩,
          ⟨some 38, (.pick (.tmp 30) (.const (.bool true)) (.tmp 37)), 4, none⟩,
          ⟨some 39, (.move (.tmp 38)), 4, none⟩,
          ⟨some 40, (.move (.tmp 3)), 3, some (some 39, false)⟩,
          ⟨some 41, (.binOp .gtr 3 (.tmp 40) (.const (.int .i64 0)) 3), 4, some (some 39, false)⟩,
          ⟨some 42, (.move (.tmp 41)), 4, some (some 39, false)⟩,
          ⟨some 43, (.fieldAddr 24 (.tmp 1) 1), 0, some (some 42, true)⟩,
          ⟨some 44, (.load 22 (.tmp 43)), 22, some (some 42, true)⟩,
          ⟨some 45, (.move (.tmp 3)), 3, some (some 42, true)⟩,
          ⟨some 46, (.binOp .sub 3 (.tmp 45) (.const (.int .i64 1)) 3), 3, some (some 42, true)⟩,
          ⟨some 47, (.indexAddr 22 (.tmp 44) (.tmp 46)), 0, some (some 42, true)⟩,
          ⟨some 48, (.load 30 (.tmp 47)), 30, some (some 42, true)⟩,
          ⟨some 49, (.fieldAddr 24 (.tmp 1) 1), 0, some (some 42, true)⟩,
          ⟨some 50, (.load 22 (.tmp 49)), 22, some (some 42, true)⟩,
          ⟨some 51, (.move (.tmp 3)), 3, some (some 42, true)⟩,
          ⟨some 52, (.indexAddr 22 (.tmp 50) (.tmp 51)), 0, some (some 42, true)⟩,
          ⟨some 53, (.load 30 (.tmp 52)), 30, some (some 42, true)⟩,
          ⟨some 54, (.call { callee := (.value (.func 117)), args := #[(.tmp 48), (.tmp 53)], argTypes := #[30, 30] }), 3, some (some 42, true)⟩,
          ⟨some 55, (.binOp .geq 3 (.tmp 54) (.const (.int .i64 0)) 3), 4, some (some 42, true)⟩,
          ⟨some 56, (.pick (.tmp 42) (.tmp 55) (.const (.bool false))), 4, some (some 39, false)⟩,
          ⟨some 57, (.pick (.tmp 39) (.const (.bool true)) (.tmp 56)), 4, none⟩])
        (.cond (.tmp 57)
          (.seq (.rgn [] [⟨some 2, (.assign (.const (.bool false))), 4, none⟩])
          .ret)
          .skip)))
      (.rgn [] [⟨some 19, (.move (.tmp 3)), 3, none⟩,
        ⟨some 20, (.binOp .add 3 (.tmp 19) (.const (.int .i64 1)) 3), 3, none⟩,
        ⟨some 3, (.assign (.tmp 20)), 3, none⟩]))))))
  (.seq (.rgn [] [⟨some 2, (.assign (.const (.bool true))), 4, none⟩])
  .ret))))
theorem lit39 : Lit Try.prog 39 58 [1] [.tmp 2] c39 := ⟨⟨Try.f39, _, Try.func39, rfl, by kernel_rfl, rfl, rfl, by kernel_rfl, by kernel_rfl⟩, by decide, by kernel_rfl⟩
/-- laws.markIntS -/
def c57 : LC :=
  (.seq (.rgn [] [⟨some 4, (.assign (.const (.int .i64 0))), 3, none⟩])
  (.seq (.seq (.rgn [] [⟨some 5, (.assign (.const (.int .i64 0))), 3, none⟩])
  (.blk 0
    (.loop []
      (.seq (.seq (.rgn [] [⟨some 6, (.move (.tmp 5)), 3, none⟩,
        ⟨some 7, (.move (.tmp 0)), 30, none⟩,
        ⟨some 8, (.call { callee := (.builtin .len), args := #[(.tmp 7)], argTypes := #[30] }), 3, none⟩,
        ⟨some 9, (.binOp .lss 3 (.tmp 6) (.tmp 8) 3), 4, none⟩])
      (.cond (.tmp 9)
        .skip
        (.exit 0)))
      (.seq (.blk 1
        (.seq (.rgn [] [⟨some 12, (.move (.tmp 0)), 30, none⟩,
          ⟨some 13, (.move (.tmp 5)), 3, none⟩,
          ⟨some 14, (.move (.tmp 1)), 3, none⟩,
          ⟨some 15, (.indexAddr 30 (.tmp 12) (.tmp 13)), 0, none⟩,
          ⟨none, (.store 3 (.tmp 15) (.tmp 14)), 0, none⟩])
        (.rgn [] [⟨some 16, (.move (.tmp 1)), 3, none⟩,
          ⟨some 17, (.binOp .add 3 (.tmp 16) (.const (.int .i64 1)) 3), 3, none⟩,
          ⟨some 1, (.assign (.tmp 17)), 3, none⟩])))
      (.rgn [] [⟨some 10, (.move (.tmp 5)), 3, none⟩,
        ⟨some 11, (.binOp .add 3 (.tmp 10) (.const (.int .i64 1)) 3), 3, none⟩,
        ⟨some 5, (.assign (.tmp 11)), 3, none⟩]))))))
  (.seq (.rgn [] [⟨some 18, (.move (.tmp 1)), 3, none⟩,
    ⟨some 4, (.assign (.tmp 18)), 3, none⟩])
  .ret)))
theorem lit57 : Lit Try.prog 57 19 [] [.tmp 4] c57 := ⟨⟨Try.f57, _, Try.func57, rfl, by kernel_rfl, rfl, rfl, by kernel_rfl, by kernel_rfl⟩, by decide, by kernel_rfl⟩
/-- laws.heldIntS -/
def c58 : LC :=
  (.seq (.rgn [] [⟨some 4, (.assign (.const (.int .i64 0))), 3, none⟩])
  (.seq (.seq (.rgn [] [⟨some 5, (.assign (.const (.int .i64 0))), 3, none⟩])
  (.blk 0
    (.loop []
      (.seq (.seq (.rgn [] [⟨some 6, (.move (.tmp 5)), 3, none⟩,
        ⟨some 7, (.move (.tmp 0)), 30, none⟩,
        ⟨some 8, (.call { callee := (.builtin .len), args := #[(.tmp 7)], argTypes := #[30] }), 3, none⟩,
        ⟨some 9, (.binOp .lss 3 (.tmp 6) (.tmp 8) 3), 4, none⟩])
      (.cond (.tmp 9)
        .skip
        (.exit 0)))
      (.seq (.blk 1
        (.seq (.seq (.rgn [] [⟨some 12, (.move (.tmp 0)), 30, none⟩,
          ⟨some 13, (.move (.tmp 5)), 3, none⟩,
          ⟨some 14, (.indexAddr 30 (.tmp 12) (.tmp 13)), 0, none⟩,
          ⟨some 15, (.load 3 (.tmp 14)), 3, none⟩,
          ⟨some 16, (.move (.tmp 1)), 3, none⟩,
          ⟨some 17, (.binOp .neq 3 (.tmp 15) (.tmp 16) 3), 4, none⟩])
        (.cond (.tmp 17)
          (.seq (.rgn [] [⟨some 4, (.assign (.const (.int .i64 (-1)))), 3, none⟩])
          .ret)
          .skip))
        (.rgn [] [⟨some 18, (.move (.tmp 1)), 3, none⟩,
          ⟨some 19, (.binOp .add 3 (.tmp 18) (.const (.int .i64 1)) 3), 3, none⟩,
          ⟨some 1, (.assign (.tmp 19)), 3, none⟩])))
      (.rgn [] [⟨some 10, (.move (.tmp 5)), 3, none⟩,
        ⟨some 11, (.binOp .add 3 (.tmp 10) (.const (.int .i64 1)) 3), 3, none⟩,
        ⟨some 5, (.assign (.tmp 11)), 3, none⟩]))))))
  (.seq (.rgn [] [⟨some 20, (.move (.tmp 1)), 3, none⟩,
    ⟨some 4, (.assign (.tmp 20)), 3, none⟩])
  .ret)))
theorem lit58 : Lit Try.prog 58 21 [] [.tmp 4] c58 := ⟨⟨Try.f58, _, Try.func58, rfl, by kernel_rfl, rfl, rfl, by kernel_rfl, by kernel_rfl⟩, by decide, by kernel_rfl⟩
/-- spec.l1In -/
def c80 : LC :=
  (.seq (.rgn [] [⟨some 6, (.assign (.const (.bool false))), 4, none⟩])
  (.seq (.rgn [] [⟨some 7, (.move (.tmp 0)), 3, none⟩,
    ⟨some 8, (.move (.tmp 1)), 3, none⟩,
    ⟨some 9, (.binOp .geq 3 (.tmp 7) (.tmp 8) 3), 4, none⟩,
    ⟨some 10, (.move (.tmp 9)), 4, none⟩,
    ⟨some 11, (.move (.tmp 0)), 3, some (some 10, true)⟩,
    ⟨some 12, (.move (.tmp 2)), 3, some (some 10, true)⟩,
    ⟨some 13, (.binOp .leq 3 (.tmp 11) (.tmp 12) 3), 4, some (some 10, true)⟩,
    ⟨some 14, (.pick (.tmp 10) (.tmp 13) (.const (.bool false))), 4, none⟩,
    ⟨some 6, (.assign (.tmp 14)), 4, none⟩])
  .ret))
theorem lit80 : Lit Try.prog 80 15 [] [.tmp 6] c80 := ⟨⟨Try.f80, _, Try.func80, rfl, by kernel_rfl, rfl, rfl, by kernel_rfl, by kernel_rfl⟩, by decide, by kernel_rfl⟩
/-- impl.within -/
def c82 : LC :=
  (.seq (.rgn [] [⟨some 6, (.assign (.const (.bool false))), 4, none⟩])
  (.seq (.rgn [] [⟨some 7, (.move (.tmp 0)), 3, none⟩,
    ⟨some 8, (.move (.tmp 1)), 3, none⟩,
    ⟨some 9, (.binOp .geq 3 (.tmp 7) (.tmp 8) 3), 4, none⟩,
    ⟨some 10, (.move (.tmp 9)), 4, none⟩,
    ⟨some 11, (.move (.tmp 0)), 3, some (some 10, true)⟩,
    ⟨some 12, (.move (.tmp 2)), 3, some (some 10, true)⟩,
    ⟨some 13, (.binOp .leq 3 (.tmp 11) (.tmp 12) 3), 4, some (some 10, true)⟩,
    ⟨some 14, (.pick (.tmp 10) (.tmp 13) (.const (.bool false))), 4, none⟩,
    ⟨some 6, (.assign (.tmp 14)), 4, none⟩])
  .ret))
theorem lit82 : Lit Try.prog 82 15 [] [.tmp 6] c82 := ⟨⟨Try.f82, _, Try.func82, rfl, by kernel_rfl, rfl, rfl, by kernel_rfl, by kernel_rfl⟩, by decide, by kernel_rfl⟩
/-- laws.eqIntSS -/
def c84 : LC :=
  (.seq (.rgn [] [⟨some 4, (.assign (.const (.bool false))), 4, none⟩])
  (.seq (.seq (.rgn [] [⟨some 6, (.move (.tmp 0)), 22, none⟩,
    ⟨some 7, (.call { callee := (.builtin .len), args := #[(.tmp 6)], argTypes := #[22] }), 3, none⟩,
    ⟨some 8, (.move (.tmp 1)), 22, none⟩,
    ⟨some 9, (.call { callee := (.builtin .len), args := #[(.tmp 8)], argTypes := #[22] }), 3, none⟩,
    ⟨some 10, (.binOp .neq 3 (.tmp 7) (.tmp 9) 3), 4, none⟩])
  (.cond (.tmp 10)
    (.seq (.rgn [] [⟨some 4, (.assign (.const (.bool false))), 4, none⟩])
    .ret)
    .skip))
  (.seq (.seq (.rgn [] [⟨some 5, (.assign (.const (.int .i64 0))), 3, none⟩])
  (.blk 0
    (.loop []
      (.seq (.seq (.rgn [] [⟨some 11, (.move (.tmp 5)), 3, none⟩,
        ⟨some 12, (.move (.tmp 0)), 22, none⟩,
        ⟨some 13, (.call { callee := (.builtin .len), args := #[(.tmp 12)], argTypes := #[22] }), 3, none⟩,
        ⟨some 14, (.binOp .lss 3 (.tmp 11) (.tmp 13) 3), 4, none⟩])
      (.cond (.tmp 14)
        .skip
        (.exit 0)))
      (.seq (.blk 1
        (.seq (.drw [] [([0], [17]), ([5], [18]), ([17, 18], [19]), ([19], [20]), ([1], [21]), ([5], [22]), ([21, 22], [23]), ([23], [24]), ([20, 24], [25]), ([25], [26])] [[], [], [0, 1], [2], [], [], [4, 5], [6], [3, 7], [8]] [⟨some 17, (.move (.tmp 0)), 22, none⟩,
          ⟨some 18, (.move (.tmp 5)), 3, none⟩,
          ⟨some 19, (.indexAddr 22 (.tmp 17) (.tmp 18)), 0, none⟩,
          ⟨some 20, (.load 30 (.tmp 19)), 30, none⟩,
          ⟨some 21, (.move (.tmp 1)), 22, none⟩,
          ⟨some 22, (.move (.tmp 5)), 3, none⟩,
          ⟨some 23, (.indexAddr 22 (.tmp 21) (.tmp 22)), 0, none⟩,
          ⟨some 24, (.load 30 (.tmp 23)), 30, none⟩,
          ⟨some 25, (.call { callee := (.value (.func 35)), args := #[(.tmp 20), (.tmp 24)], argTypes := #[30, 30] }), 4, none⟩,
          ⟨some 26, (.unOp .not 4 (.tmp 25)), 4, none⟩])
        (.cond (.tmp 26)
          (.seq (.rgn [] [⟨some 4, (.assign (.const (.bool false))), 4, none⟩])
          .ret)
          .skip)))
      (.rgn [] [⟨some 15, (.move (.tmp 5)), 3, none⟩,
        ⟨some 16, (.binOp .add 3 (.tmp 15) (.const (.int .i64 1)) 3), 3, none⟩,
        ⟨some 5, (.assign (.tmp 16)), 3, none⟩]))))))
  (.seq (.rgn [] [⟨some 4, (.assign (.const (.bool true))), 4, none⟩])
  .ret))))
theorem lit84 : Lit Try.prog 84 27 [] [.tmp 4] c84 := ⟨⟨Try.f84, _, Try.func84, rfl, by kernel_rfl, rfl, rfl, by kernel_rfl, by kernel_rfl⟩, by decide, by kernel_rfl⟩
/-- laws.markIntSS -/
def c85 : LC :=
  (.seq (.rgn [] [⟨some 4, (.assign (.const (.int .i64 0))), 3, none⟩])
  (.seq (.seq (.rgn [] [⟨some 5, (.assign (.const (.int .i64 0))), 3, none⟩])
  (.blk 0
    (.loop []
      (.seq (.seq (.rgn [] [⟨some 6, (.move (.tmp 5)), 3, none⟩,
        ⟨some 7, (.move (.tmp 0)), 22, none⟩,
        ⟨some 8, (.call { callee := (.builtin .len), args := #[(.tmp 7)], argTypes := #[22] }), 3, none⟩,
        ⟨some 9, (.binOp .lss 3 (.tmp 6) (.tmp 8) 3), 4, none⟩])
      (.cond (.tmp 9)
        .skip
        (.exit 0)))
      (.seq (.blk 1
        (.rgn [] [⟨some 12, (.move (.tmp 0)), 22, none⟩,
          ⟨some 13, (.move (.tmp 5)), 3, none⟩,
          ⟨some 14, (.indexAddr 22 (.tmp 12) (.tmp 13)), 0, none⟩,
          ⟨some 15, (.load 30 (.tmp 14)), 30, none⟩,
          ⟨some 16, (.move (.tmp 1)), 3, none⟩,
          ⟨some 17, (.call { callee := (.value (.func 57)), args := #[(.tmp 15), (.tmp 16)], argTypes := #[30, 3] }), 3, none⟩,
          ⟨some 1, (.assign (.tmp 17)), 3, none⟩]))
      (.rgn [] [⟨some 10, (.move (.tmp 5)), 3, none⟩,
        ⟨some 11, (.binOp .add 3 (.tmp 10) (.const (.int .i64 1)) 3), 3, none⟩,
        ⟨some 5, (.assign (.tmp 11)), 3, none⟩]))))))
  (.seq (.rgn [] [⟨some 18, (.move (.tmp 1)), 3, none⟩,
    ⟨some 4, (.assign (.tmp 18)), 3, none⟩])
  .ret)))
theorem lit85 : Lit Try.prog 85 19 [] [.tmp 4] c85 := ⟨⟨Try.f85, _, Try.func85, rfl, by kernel_rfl, rfl, rfl, by kernel_rfl, by kernel_rfl⟩, by decide, by kernel_rfl⟩
/-- laws.heldIntSS -/
def c86 : LC :=
  (.seq (.rgn [] [⟨some 4, (.assign (.const (.int .i64 0))), 3, none⟩])
  (.seq (.seq (.rgn [] [⟨some 5, (.assign (.const (.int .i64 0))), 3, none⟩])
  (.blk 0
    (.loop []
      (.seq (.seq (.rgn [] [⟨some 6, (.move (.tmp 5)), 3, none⟩,
        ⟨some 7, (.move (.tmp 0)), 22, none⟩,
        ⟨some 8, (.call { callee := (.builtin .len), args := #[(.tmp 7)], argTypes := #[22] }), 3, none⟩,
        ⟨some 9, (.binOp .lss 3 (.tmp 6) (.tmp 8) 3), 4, none⟩])
      (.cond (.tmp 9)
        .skip
        (.exit 0)))
      (.seq (.blk 1
        (.seq (.rgn [] [⟨some 12, (.move (.tmp 0)), 22, none⟩,
          ⟨some 13, (.move (.tmp 5)), 3, none⟩,
          ⟨some 14, (.indexAddr 22 (.tmp 12) (.tmp 13)), 0, none⟩,
          ⟨some 15, (.load 30 (.tmp 14)), 30, none⟩,
          ⟨some 16, (.move (.tmp 1)), 3, none⟩,
          ⟨some 17, (.call { callee := (.value (.func 58)), args := #[(.tmp 15), (.tmp 16)], argTypes := #[30, 3] }), 3, none⟩,
          ⟨some 1, (.assign (.tmp 17)), 3, none⟩])
        (.seq (.rgn [] [⟨some 18, (.move (.tmp 1)), 3, none⟩,
          ⟨some 19, (.binOp .lss 3 (.tmp 18) (.const (.int .i64 0)) 3), 4, none⟩])
        (.cond (.tmp 19)
          (.seq (.rgn [] [⟨some 4, (.assign (.const (.int .i64 (-1)))), 3, none⟩])
          .ret)
          .skip))))
      (.rgn [] [⟨some 10, (.move (.tmp 5)), 3, none⟩,
        ⟨some 11, (.binOp .add 3 (.tmp 10) (.const (.int .i64 1)) 3), 3, none⟩,
        ⟨some 5, (.assign (.tmp 11)), 3, none⟩]))))))
  (.seq (.rgn [] [⟨some 20, (.move (.tmp 1)), 3, none⟩,
    ⟨some 4, (.assign (.tmp 20)), 3, none⟩])
  .ret)))
theorem lit86 : Lit Try.prog 86 21 [] [.tmp 4] c86 := ⟨⟨Try.f86, _, Try.func86, rfl, by kernel_rfl, rfl, rfl, by kernel_rfl, by kernel_rfl⟩, by decide, by kernel_rfl⟩
/-- laws.szIntS -/
def c87 : LC :=
  (.seq (.rgn [] [⟨some 4, (.assign (.const (.int .i64 0))), 3, none⟩])
  (.seq (.rgn [] [⟨some 5, (.move (.tmp 1)), 3, none⟩,
    ⟨some 6, (.move (.tmp 0)), 30, none⟩,
    ⟨some 7, (.call { callee := (.builtin .len), args := #[(.tmp 6)], argTypes := #[30] }), 3, none⟩,
    ⟨some 8, (.binOp .sub 3 (.tmp 5) (.tmp 7) 3), 3, none⟩,
    ⟨some 1, (.assign (.tmp 8)), 3, none⟩])
  (.seq (.seq (.rgn [] [⟨some 9, (.move (.tmp 1)), 3, none⟩,
    ⟨some 10, (.binOp .lss 3 (.tmp 9) (.const (.int .i64 0)) 3), 4, none⟩])
  (.cond (.tmp 10)
    (.seq (.rgn [] [⟨some 4, (.assign (.const (.int .i64 (-1)))), 3, none⟩])
    .ret)
    .skip))
  (.seq (.rgn [] [⟨some 11, (.move (.tmp 1)), 3, none⟩,
    ⟨some 4, (.assign (.tmp 11)), 3, none⟩])
  .ret))))
theorem lit87 : Lit Try.prog 87 12 [] [.tmp 4] c87 := ⟨⟨Try.f87, _, Try.func87, rfl, by kernel_rfl, rfl, rfl, by kernel_rfl, by kernel_rfl⟩, by decide, by kernel_rfl⟩
/-- laws.szIntSS -/
def c99 : LC :=
  (.seq (.rgn [] [⟨some 4, (.assign (.const (.int .i64 0))), 3, none⟩])
  (.seq (.rgn [] [⟨some 6, (.move (.tmp 1)), 3, none⟩,
    ⟨some 7, (.move (.tmp 0)), 22, none⟩,
    ⟨some 8, (.call { callee := (.builtin .len), args := #[(.tmp 7)], argTypes := #[22] }), 3, none⟩,
    ⟨some 9, (.binOp .sub 3 (.tmp 6) (.tmp 8) 3), 3, none⟩,
    ⟨some 1, (.assign (.tmp 9)), 3, none⟩])
  (.seq (.seq (.rgn [] [⟨some 10, (.move (.tmp 1)), 3, none⟩,
    ⟨some 11, (.binOp .lss 3 (.tmp 10) (.const (.int .i64 0)) 3), 4, none⟩])
  (.cond (.tmp 11)
    (.seq (.rgn [] [⟨some 4, (.assign (.const (.int .i64 (-1)))), 3, none⟩])
    .ret)
    .skip))
  (.seq (.seq (.rgn [] [⟨some 5, (.assign (.const (.int .i64 0))), 3, none⟩])
  (.blk 0
    (.loop []
      (.seq (.seq (.rgn [] [⟨some 12, (.move (.tmp 5)), 3, none⟩,
        ⟨some 13, (.move (.tmp 0)), 22, none⟩,
        ⟨some 14, (.call { callee := (.builtin .len), args := #[(.tmp 13)], argTypes := #[22] }), 3, none⟩,
        ⟨some 15, (.binOp .lss 3 (.tmp 12) (.tmp 14) 3), 4, none⟩])
      (.cond (.tmp 15)
        .skip
        (.exit 0)))
      (.seq (.blk 1
        (.seq (.rgn [] [⟨some 18, (.move (.tmp 0)), 22, none⟩,
          ⟨some 19, (.move (.tmp 5)), 3, none⟩,
          ⟨some 20, (.indexAddr 22 (.tmp 18) (.tmp 19)), 0, none⟩,
          ⟨some 21, (.load 30 (.tmp 20)), 30, none⟩,
          ⟨some 22, (.move (.tmp 1)), 3, none⟩,
          ⟨some 23, (.call { callee := (.value (.func 87)), args := #[(.tmp 21), (.tmp 22)], argTypes := #[30, 3] }), 3, none⟩,
          ⟨some 1, (.assign (.tmp 23)), 3, none⟩])
        (.seq (.rgn [] [⟨some 24, (.move (.tmp 1)), 3, none⟩,
          ⟨some 25, (.binOp .lss 3 (.tmp 24) (.const (.int .i64 0)) 3), 4, none⟩])
        (.cond (.tmp 25)
          (.seq (.rgn [] [⟨some 4, (.assign (.const (.int .i64 (-1)))), 3, none⟩])
          .ret)
          .skip))))
      (.rgn [] [⟨some 16, (.move (.tmp 5)), 3, none⟩,
        ⟨some 17, (.binOp .add 3 (.tmp 16) (.const (.int .i64 1)) 3), 3, none⟩,
        ⟨some 5, (.assign (.tmp 17)), 3, none⟩]))))))
  (.seq (.rgn [] [⟨some 26, (.move (.tmp 1)), 3, none⟩,
    ⟨some 4, (.assign (.tmp 26)), 3, none⟩])
  .ret)))))
theorem lit99 : Lit Try.prog 99 27 [] [.tmp 4] c99 := ⟨⟨Try.f99, _, Try.func99, rfl, by kernel_rfl, rfl, rfl, by kernel_rfl, by kernel_rfl⟩, by decide, by kernel_rfl⟩
/-- spec.ColumnDegrees -/
def c100 : LC :=
  (.seq (.rgn [] [⟨some 2, (.box 24 (.tmp 0)), 0, none⟩,
    ⟨some 4, (.assign (.const (.slice none 0 0))), 30, none⟩,
    ⟨some 5, (.assign (.const (.slice none 0 0))), 30, none⟩])
  (.seq (.rgn [] [⟨some 11, (.buildSlice 30 0 #[]), 30, none⟩,
    ⟨some 6, (.assign (.tmp 11)), 30, none⟩])
  (.seq (.rgn [] [⟨some 12, (.buildSlice 30 0 #[]), 30, none⟩,
    ⟨some 7, (.assign (.tmp 12)), 30, none⟩])
  (.seq (.seq (.rgn [] [⟨some 13, (.load 24 (.tmp 2)), 24, none⟩,
    ⟨some 14, (.call { callee := (.value (.func 39)), args := #[(.tmp 13)], argTypes := #[24] }), 4, none⟩,
    ⟨some 15, (.unOp .not 4 (.tmp 14)), 4, none⟩,
    ⟨some 16, (.move (.tmp 15)), 4, none⟩,
    ⟨some 17, (.move (.tmp 1)), 3, some (some 16, false)⟩,
    ⟨some 18, (.fieldAddr 24 (.tmp 2) 0), 0, some (some 16, false)⟩,
    ⟨some 19, (.load 3 (.tmp 18)), 3, some (some 16, false)⟩,
    ⟨some 20, (.binOp .sub 3 (.tmp 19) (.const (.int .i64 1)) 3), 3, some (some 16, false)⟩,
    ⟨some 21, (.call { callee := (.value (.func 80)), args := #[(.tmp 17), (.const (.int .i64 0)), (.tmp 20)], argTypes := #[3, 3, 3] }), 4, some (some 16, false)⟩,
    ⟨some 22, (.unOp .not 4 (.tmp 21)), 4, some (some 16, false)⟩,
    ⟨some 23, (.pick (.tmp 16) (.const (.bool true)) (.tmp 22)), 4, none⟩])
  (.cond (.tmp 23)
    (.seq (.rgn [24, 25] [⟨some 24, (.move (.tmp 6)), 30, none⟩,
      ⟨some 25, (.move (.tmp 7)), 30, none⟩,
      ⟨some 4, (.assign (.tmp 24)), 30, none⟩,
      ⟨some 5, (.assign (.tmp 25)), 30, none⟩])
    .ret)
    .skip))
  (.seq (.seq (.rgn [] [⟨some 8, (.assign (.const (.int .i64 0))), 3, none⟩])
  (.blk 0
    (.loop []
      (.seq (.seq (.rgn [] [⟨some 26, (.move (.tmp 8)), 3, none⟩,
        ⟨some 27, (.binOp .leq 3 (.tmp 26) (.const (.int .i64 99)) 3), 4, none⟩])
      (.cond (.tmp 27)
        .skip
        (.exit 0)))
      (.seq (.blk 1
        (.seq (.rgn [] [⟨some 9, (.assign (.const (.int .i64 0))), 3, none⟩])
        (.seq (.seq (.rgn [] [⟨some 10, (.assign (.const (.int .i64 0))), 3, none⟩])
        (.blk 2
          (.loop []
            (.seq (.seq (.rgn [] [⟨some 30, (.move (.tmp 10)), 3, none⟩,
              ⟨some 31, (.fieldAddr 24 (.tmp 2) 1), 0, none⟩,
              ⟨some 32, (.load 22 (.tmp 31)), 22, none⟩,
              ⟨some 33, (.call { callee := (.builtin .len), args := #[(.tmp 32)], argTypes := #[22] }), 3, none⟩,
              ⟨some 34, (.binOp .lss 3 (.tmp 30) (.tmp 33) 3), 4, none⟩])
            (.cond (.tmp 34)
              .skip
              (.exit 2)))
            (.seq (.blk 3
              (.seq (.rgn [] [⟨some 37, (.fieldAddr 24 (.tmp 2) 1), 0, none⟩,
                ⟨some 38, (.load 22 (.tmp 37)), 22, none⟩,
                ⟨some 39, (.move (.tmp 10)), 3, none⟩,
                ⟨some 40, (.indexAddr 22 (.tmp 38) (.tmp 39)), 0, none⟩,
                ⟨some 41, (.load 30 (.tmp 40)), 30, none⟩,
                ⟨some 42, (.move (.tmp 1)), 3, none⟩,
                ⟨some 43, (.indexAddr 30 (.tmp 41) (.tmp 42)), 0, none⟩,
                ⟨some 44, (.load 3 (.tmp 43)), 3, none⟩,
                ⟨some 45, (.move (.tmp 8)), 3, none⟩,
                ⟨some 46, (.binOp .eql 3 (.tmp 44) (.tmp 45) 3), 4, none⟩])
              (.cond (.tmp 46)
                (.rgn [] [⟨some 47, (.move (.tmp 9)), 3, none⟩,
                  ⟨some 48, (.binOp .add 3 (.tmp 47) (.const (.int .i64 1)) 3), 3, none⟩,
                  ⟨some 9, (.assign (.tmp 48)), 3, none⟩])
                .skip)))
            (.rgn [] [⟨some 35, (.move (.tmp 10)), 3, none⟩,
              ⟨some 36, (.binOp .add 3 (.tmp 35) (.const (.int .i64 1)) 3), 3, none⟩,
              ⟨some 10, (.assign (.tmp 36)), 3, none⟩]))))))
        (.seq (.rgn [] [⟨some 49, (.move (.tmp 9)), 3, none⟩,
          ⟨some 50, (.binOp .gtr 3 (.tmp 49) (.const (.int .i64 0)) 3), 4, none⟩])
        (.cond (.tmp 50)
          (.seq (.rgn [51] [⟨some 51, (.move (.tmp 6)), 30, none⟩,
            ⟨some 52, (.move (.tmp 8)), 3, none⟩,
            ⟨some 53, (.buildSlice 30 1 #[(0, (.tmp 52))]), 30, none⟩,
            ⟨some 54, (.call { callee := (.builtin .append), args := #[(.tmp 51), (.tmp 53)], argTypes := #[30, 30] }), 30, none⟩,
            ⟨some 6, (.assign (.tmp 54)), 30, none⟩])
          (.rgn [55] [⟨some 55, (.move (.tmp 7)), 30, none⟩,
            ⟨some 56, (.move (.tmp 9)), 3, none⟩,
            ⟨some 57, (.buildSlice 30 1 #[(0, (.tmp 56))]), 30, none⟩,
            ⟨some 58, (.call { callee := (.builtin .append), args := #[(.tmp 55), (.tmp 57)], argTypes := #[30, 30] }), 30, none⟩,
            ⟨some 7, (.assign (.tmp 58)), 30, none⟩]))
          .skip)))))
      (.rgn [] [⟨some 28, (.move (.tmp 8)), 3, none⟩,
        ⟨some 29, (.binOp .add 3 (.tmp 28) (.const (.int .i64 1)) 3), 3, none⟩,
        ⟨some 8, (.assign (.tmp 29)), 3, none⟩]))))))
  (.seq (.rgn [59, 60] [⟨some 59, (.move (.tmp 6)), 30, none⟩,
    ⟨some 60, (.move (.tmp 7)), 30, none⟩,
    ⟨some 4, (.assign (.tmp 59)), 30, none⟩,
    ⟨some 5, (.assign (.tmp 60)), 30, none⟩])
  .ret))))))
theorem lit100 : Lit Try.prog 100 61 [2] [.tmp 4, .tmp 5] c100 := ⟨⟨Try.f100, _, Try.func100, rfl, by kernel_rfl, rfl, rfl, by kernel_rfl, by kernel_rfl⟩, by decide, by kernel_rfl⟩
/-- spec.l7Find -/
def c101 : LC :=
  (.seq (.rgn [] [⟨some 4, (.assign (.const (.int .i64 0))), 3, none⟩])
  (.seq (.seq (.rgn [] [⟨some 5, (.assign (.const (.int .i64 0))), 3, none⟩])
  (.blk 0
    (.loop []
      (.seq (.seq (.rgn [] [⟨some 6, (.move (.tmp 5)), 3, none⟩,
        ⟨some 7, (.move (.tmp 0)), 30, none⟩,
        ⟨some 8, (.call { callee := (.builtin .len), args := #[(.tmp 7)], argTypes := #[30] }), 3, none⟩,
        ⟨some 9, (.binOp .lss 3 (.tmp 6) (.tmp 8) 3), 4, none⟩])
      (.cond (.tmp 9)
        .skip
        (.exit 0)))
      (.seq (.blk 1
        (.seq (.rgn [] [⟨some 12, (.move (.tmp 0)), 30, none⟩,
          ⟨some 13, (.move (.tmp 5)), 3, none⟩,
          ⟨some 14, (.indexAddr 30 (.tmp 12) (.tmp 13)), 0, none⟩,
          ⟨some 15, (.load 3 (.tmp 14)), 3, none⟩,
          ⟨some 16, (.move (.tmp 1)), 3, none⟩,
          ⟨some 17, (.binOp .eql 3 (.tmp 15) (.tmp 16) 3), 4, none⟩])
        (.cond (.tmp 17)
          (.seq (.rgn [] [⟨some 18, (.move (.tmp 5)), 3, none⟩,
            ⟨some 4, (.assign (.tmp 18)), 3, none⟩])
          .ret)
          .skip)))
      (.rgn [] [⟨some 10, (.move (.tmp 5)), 3, none⟩,
        ⟨some 11, (.binOp .add 3 (.tmp 10) (.const (.int .i64 1)) 3), 3, none⟩,
        ⟨some 5, (.assign (.tmp 11)), 3, none⟩]))))))
  (.seq (.rgn [] [⟨some 4, (.assign (.const (.int .i64 (-1)))), 3, none⟩])
  .ret)))
theorem lit101 : Lit Try.prog 101 19 [] [.tmp 4] c101 := ⟨⟨Try.f101, _, Try.func101, rfl, by kernel_rfl, rfl, rfl, by kernel_rfl, by kernel_rfl⟩, by decide, by kernel_rfl⟩
/-- laws.toIntSS -/
def c102 : LC :=
  (.seq (.rgn [] [⟨some 2, (.assign (.const (.slice none 0 0))), 22, none⟩])
  (.seq (.rgn [3, 7] [⟨some 5, (.move (.tmp 0)), 22, none⟩,
    ⟨some 6, (.call { callee := (.builtin .len), args := #[(.tmp 5)], argTypes := #[22] }), 3, none⟩,
    ⟨some 7, (.makeSlice 22 (.tmp 6) (.tmp 6)), 22, none⟩,
    ⟨some 3, (.assign (.tmp 7)), 22, none⟩])
  (.seq (.seq (.rgn [] [⟨some 4, (.assign (.const (.int .i64 0))), 3, none⟩])
  (.blk 0
    (.loop []
      (.seq (.seq (.rgn [] [⟨some 8, (.move (.tmp 4)), 3, none⟩,
        ⟨some 9, (.move (.tmp 0)), 22, none⟩,
        ⟨some 10, (.call { callee := (.builtin .len), args := #[(.tmp 9)], argTypes := #[22] }), 3, none⟩,
        ⟨some 11, (.binOp .lss 3 (.tmp 8) (.tmp 10) 3), 4, none⟩])
      (.cond (.tmp 11)
        .skip
        (.exit 0)))
      (.seq (.blk 1
        (.rgn [] [⟨some 14, (.move (.tmp 3)), 22, none⟩,
          ⟨some 15, (.move (.tmp 4)), 3, none⟩,
          ⟨some 16, (.move (.tmp 0)), 22, none⟩,
          ⟨some 17, (.move (.tmp 4)), 3, none⟩,
          ⟨some 18, (.indexAddr 22 (.tmp 16) (.tmp 17)), 0, none⟩,
          ⟨some 19, (.load 30 (.tmp 18)), 30, none⟩,
          ⟨some 20, (.call { callee := (.value (.func 32)), args := #[(.tmp 19)], argTypes := #[30] }), 30, none⟩,
          ⟨some 21, (.indexAddr 22 (.tmp 14) (.tmp 15)), 0, none⟩,
          ⟨none, (.store 30 (.tmp 21) (.tmp 20)), 0, none⟩]))
      (.rgn [] [⟨some 12, (.move (.tmp 4)), 3, none⟩,
        ⟨some 13, (.binOp .add 3 (.tmp 12) (.const (.int .i64 1)) 3), 3, none⟩,
        ⟨some 4, (.assign (.tmp 13)), 3, none⟩]))))))
  (.seq (.rgn [22] [⟨some 22, (.move (.tmp 3)), 22, none⟩,
    ⟨some 2, (.assign (.tmp 22)), 22, none⟩])
  .ret))))
theorem lit102 : Lit Try.prog 102 23 [3, 7] [.tmp 2] c102 := ⟨⟨Try.f102, _, Try.func102, rfl, by kernel_rfl, rfl, rfl, by kernel_rfl, by kernel_rfl⟩, by decide, by kernel_rfl⟩
/-- impl.IsValidRelation -/
def c103 : LC :=
  (.seq (.rgn [] [⟨some 1, (.box 24 (.tmp 0)), 0, none⟩,
    ⟨some 2, (.assign (.const (.bool false))), 4, none⟩])
  (.seq (.rgn [] [⟨some 3, (.fieldAddr 24 (.tmp 1) 0), 0, none⟩,
    ⟨some 4, (.load 3 (.tmp 3)), 3, none⟩,
    ⟨some 5, (.fieldAddr 24 (.tmp 1) 1), 0, none⟩,
    ⟨some 6, (.load 22 (.tmp 5)), 22, none⟩,
    ⟨some 7, (.call { callee := (.value (.func 149)), args := #[(.tmp 4), (.tmp 6)], argTypes := #[3, 22] }), 4, none⟩,
    ⟨some 2, (.assign (.tmp 7)), 4, none⟩])
  .ret))
theorem lit103 : Lit Try.prog 103 8 [1] [.tmp 2] c103 := ⟨⟨Try.f103, _, Try.func103, rfl, by kernel_rfl, rfl, rfl, by kernel_rfl, by kernel_rfl⟩, by decide, by kernel_rfl⟩
/-- impl.indexOf -/
def c104 : LC :=
  (.seq (.rgn [] [⟨some 4, (.assign (.const (.int .i64 0))), 3, none⟩])
  (.seq (.seq (.rgn [] [⟨some 7, (.move (.tmp 0)), 30, none⟩,
    ⟨some 8, (.call { callee := (.builtin .len), args := #[(.tmp 7)], argTypes := #[30] }), 3, none⟩,
    ⟨some 9, (.move (.const (.int .i64 0))), 3, none⟩])
  (.blk 0
    (.loop []
      (.seq (.rgn [] [⟨some 10, (.binOp .lss 3 (.tmp 9) (.tmp 8) 3), 0, none⟩])
      (.seq (.cond (.tmp 10)
        .skip
        (.exit 0))
      (.seq (.blk 1
        (.seq (.rgn [] [⟨some 11, (.move (.tmp 9)), 3, none⟩,
          ⟨some 12, (.indexAddr 30 (.tmp 7) (.tmp 9)), 0, none⟩,
          ⟨some 13, (.load 3 (.tmp 12)), 3, none⟩,
          ⟨some 5, (.assign (.tmp 11)), 3, none⟩,
          ⟨some 6, (.assign (.tmp 13)), 3, none⟩])
        (.seq (.rgn [] [⟨some 14, (.move (.tmp 6)), 3, none⟩,
          ⟨some 15, (.move (.tmp 1)), 3, none⟩,
          ⟨some 16, (.binOp .eql 3 (.tmp 14) (.tmp 15) 3), 4, none⟩])
        (.cond (.tmp 16)
          (.seq (.rgn [] [⟨some 17, (.move (.tmp 5)), 3, none⟩,
            ⟨some 4, (.assign (.tmp 17)), 3, none⟩])
          .ret)
          .skip))))
      (.rgn [] [⟨some 18, (.binOp .add 3 (.tmp 9) (.const (.int .i64 1)) 3), 3, none⟩,
        ⟨some 9, (.move (.tmp 18)), 3, none⟩])))))))
  (.seq (.rgn [] [⟨some 4, (.assign (.const (.int .i64 (-1)))), 3, none⟩])
  .ret)))
theorem lit104 : Lit Try.prog 104 19 [] [.tmp 4] c104 := ⟨⟨Try.f104, _, Try.func104, rfl, by kernel_rfl, rfl, rfl, by kernel_rfl, by kernel_rfl⟩, by decide, by kernel_rfl⟩
/-- impl.copyInts -/
def c105 : LC :=
  (.seq (.rgn [] [⟨some 2, (.assign (.const (.slice none 0 0))), 30, none⟩])
  (.seq (.rgn [4] [⟨some 3, (.buildSlice 30 0 #[]), 30, none⟩,
    ⟨some 4, (.move (.tmp 0)), 30, none⟩,
    ⟨some 5, (.call { callee := (.builtin .append), args := #[(.tmp 3), (.tmp 4)], argTypes := #[30, 30] }), 30, none⟩,
    ⟨some 2, (.assign (.tmp 5)), 30, none⟩])
  .ret))
theorem lit105 : Lit Try.prog 105 6 [] [.tmp 2] c105 := ⟨⟨Try.f105, _, Try.func105, rfl, by kernel_rfl, rfl, rfl, by kernel_rfl, by kernel_rfl⟩, by decide, by kernel_rfl⟩
/-- spec.AreValidValues -/
def c116 : LC :=
  (.seq (.rgn [] [⟨some 2, (.assign (.const (.bool false))), 4, none⟩])
  (.seq (.seq (.rgn [] [⟨some 3, (.assign (.const (.int .i64 0))), 3, none⟩])
  (.blk 0
    (.loop []
      (.seq (.seq (.rgn [] [⟨some 4, (.move (.tmp 3)), 3, none⟩,
        ⟨some 5, (.move (.tmp 0)), 30, none⟩,
        ⟨some 6, (.call { callee := (.builtin .len), args := #[(.tmp 5)], argTypes := #[30] }), 3, none⟩,
        ⟨some 7, (.binOp .lss 3 (.tmp 4) (.tmp 6) 3), 4, none⟩])
      (.cond (.tmp 7)
        .skip
        (.exit 0)))
      (.seq (.blk 1
        (.seq (.rgn [] [⟨some 10, (.move (.tmp 0)), 30, none⟩,
          ⟨some 11, (.move (.tmp 3)), 3, none⟩,
          ⟨some 12, (.indexAddr 30 (.tmp 10) (.tmp 11)), 0, none⟩,
          ⟨some 13, (.load 3 (.tmp 12)), 3, none⟩,
          ⟨some 14, (.call { callee := (.value (.func 80)), args := #[(.tmp 13), (.const (.int .i64 0)), (.const (.int .i64 99))], argTypes := #[3, 3, 3] }), 4, none⟩,
          ⟨some 15, (.unOp .not 4 (.tmp 14)), 4, none⟩])
        (.cond (.tmp 15)
          (.seq (.rgn [] [⟨some 2, (.assign (.const (.bool false))), 4, none⟩])
          .ret)
          .skip)))
      (.rgn [] [⟨some 8, (.move (.tmp 3)), 3, none⟩,
        ⟨some 9, (.binOp .add 3 (.tmp 8) (.const (.int .i64 1)) 3), 3, none⟩,
        ⟨some 3, (.assign (.tmp 9)), 3, none⟩]))))))
  (.seq (.rgn [] [⟨some 2, (.assign (.const (.bool true))), 4, none⟩])
  .ret)))
theorem lit116 : Lit Try.prog 116 16 [] [.tmp 2] c116 := ⟨⟨Try.f116, _, Try.func116, rfl, by kernel_rfl, rfl, rfl, by kernel_rfl, by kernel_rfl⟩, by decide, by kernel_rfl⟩
/-- spec.CompareRows -/
def c117 : LC :=
  (.seq (.rgn [] [⟨some 4, (.assign (.const (.int .i64 0))), 3, none⟩])
  (.seq (.seq (.rgn [] [⟨some 5, (.assign (.const (.int .i64 0))), 3, none⟩])
  (.blk 0
    (.loop []
      (.seq (.seq (.rgn [] [⟨some 6, (.move (.tmp 5)), 3, none⟩,
        ⟨some 7, (.move (.tmp 0)), 30, none⟩,
        ⟨some 8, (.call { callee := (.builtin .len), args := #[(.tmp 7)], argTypes := #[30] }), 3, none⟩,
        ⟨some 9, (.binOp .lss 3 (.tmp 6) (.tmp 8) 3), 4, none⟩,
        ⟨some 10, (.move (.tmp 9)), 4, none⟩,
        ⟨some 11, (.move (.tmp 5)), 3, some (some 10, true)⟩,
        ⟨some 12, (.move (.tmp 1)), 30, some (some 10, true)⟩,
        ⟨some 13, (.call { callee := (.builtin .len), args := #[(.tmp 12)], argTypes := #[30] }), 3, some (some 10, true)⟩,
        ⟨some 14, (.binOp .lss 3 (.tmp 11) (.tmp 13) 3), 4, some (some 10, true)⟩,
        ⟨some 15, (.pick (.tmp 10) (.tmp 14) (.const (.bool false))), 4, none⟩])
      (.cond (.tmp 15)
        .skip
        (.exit 0)))
      (.seq (.blk 1
        (.seq (.seq (.drw [] [([0], [18]), ([5], [19]), ([18, 19], [20]), ([20], [21]), ([1], [22]), ([5], [23]), ([22, 23], [24]), ([24], [25]), ([21, 25], [26])] [[], [], [0, 1], [2], [], [], [4, 5], [6], [3, 7]] [⟨some 18, (.move (.tmp 0)), 30, none⟩,
          ⟨some 19, (.move (.tmp 5)), 3, none⟩,
          ⟨some 20, (.indexAddr 30 (.tmp 18) (.tmp 19)), 0, none⟩,
          ⟨some 21, (.load 3 (.tmp 20)), 3, none⟩,
          ⟨some 22, (.move (.tmp 1)), 30, none⟩,
          ⟨some 23, (.move (.tmp 5)), 3, none⟩,
          ⟨some 24, (.indexAddr 30 (.tmp 22) (.tmp 23)), 0, none⟩,
          ⟨some 25, (.load 3 (.tmp 24)), 3, none⟩,
          ⟨some 26, (.binOp .lss 3 (.tmp 21) (.tmp 25) 3), 4, none⟩])
        (.cond (.tmp 26)
          (.seq (.rgn [] [⟨some 4, (.assign (.const (.int .i64 (-1)))), 3, none⟩])
          .ret)
          .skip))
        (.seq (.drw [] [([0], [27]), ([5], [28]), ([27, 28], [29]), ([29], [30]), ([1], [31]), ([5], [32]), ([31, 32], [33]), ([33], [34]), ([30, 34], [35])] [[], [], [0, 1], [2], [], [], [4, 5], [6], [3, 7]] [⟨some 27, (.move (.tmp 0)), 30, none⟩,
          ⟨some 28, (.move (.tmp 5)), 3, none⟩,
          ⟨some 29, (.indexAddr 30 (.tmp 27) (.tmp 28)), 0, none⟩,
          ⟨some 30, (.load 3 (.tmp 29)), 3, none⟩,
          ⟨some 31, (.move (.tmp 1)), 30, none⟩,
          ⟨some 32, (.move (.tmp 5)), 3, none⟩,
          ⟨some 33, (.indexAddr 30 (.tmp 31) (.tmp 32)), 0, none⟩,
          ⟨some 34, (.load 3 (.tmp 33)), 3, none⟩,
          ⟨some 35, (.binOp .gtr 3 (.tmp 30) (.tmp 34) 3), 4, none⟩])
        (.cond (.tmp 35)
          (.seq (.rgn [] [⟨some 4, (.assign (.const (.int .i64 1))), 3, none⟩])
          .ret)
          .skip))))
      (.rgn [] [⟨some 16, (.move (.tmp 5)), 3, none⟩,
        ⟨some 17, (.binOp .add 3 (.tmp 16) (.const (.int .i64 1)) 3), 3, none⟩,
        ⟨some 5, (.assign (.tmp 17)), 3, none⟩]))))))
  (.seq (.seq (.rgn [] [⟨some 36, (.move (.tmp 0)), 30, none⟩,
    ⟨some 37, (.call { callee := (.builtin .len), args := #[(.tmp 36)], argTypes := #[30] }), 3, none⟩,
    ⟨some 38, (.move (.tmp 1)), 30, none⟩,
    ⟨some 39, (.call { callee := (.builtin .len), args := #[(.tmp 38)], argTypes := #[30] }), 3, none⟩,
    ⟨some 40, (.binOp .lss 3 (.tmp 37) (.tmp 39) 3), 4, none⟩])
  (.cond (.tmp 40)
    (.seq (.rgn [] [⟨some 4, (.assign (.const (.int .i64 (-1)))), 3, none⟩])
    .ret)
    .skip))
  (.seq (.seq (.rgn [] [⟨some 41, (.move (.tmp 0)), 30, none⟩,
    ⟨some 42, (.call { callee := (.builtin .len), args := #[(.tmp 41)], argTypes := #[30] }), 3, none⟩,
    ⟨some 43, (.move (.tmp 1)), 30, none⟩,
    ⟨some 44, (.call { callee := (.builtin .len), args := #[(.tmp 43)], argTypes := #[30] }), 3, none⟩,
    ⟨some 45, (.binOp .gtr 3 (.tmp 42) (.tmp 44) 3), 4, none⟩])
  (.cond (.tmp 45)
    (.seq (.rgn [] [⟨some 4, (.assign (.const (.int .i64 1))), 3, none⟩])
    .ret)
    .skip))
  (.seq (.rgn [] [⟨some 4, (.assign (.const (.int .i64 0))), 3, none⟩])
  .ret)))))
theorem lit117 : Lit Try.prog 117 46 [] [.tmp 4] c117 := ⟨⟨Try.f117, _, Try.func117, rfl, by kernel_rfl, rfl, rfl, by kernel_rfl, by kernel_rfl⟩, by decide, by kernel_rfl⟩
/-- impl.AreValidValues -/
def c140 : LC :=
  (.seq (.rgn [] [⟨some 2, (.assign (.const (.bool false))), 4, none⟩])
  (.seq (.seq (.rgn [] [⟨some 5, (.move (.tmp 0)), 30, none⟩,
    ⟨some 6, (.call { callee := (.builtin .len), args := #[(.tmp 5)], argTypes := #[30] }), 3, none⟩,
    ⟨some 7, (.move (.const (.int .i64 0))), 3, none⟩])
  (.blk 0
    (.loop []
      (.seq (.rgn [] [⟨some 8, (.binOp .lss 3 (.tmp 7) (.tmp 6) 3), 0, none⟩])
      (.seq (.cond (.tmp 8)
        .skip
        (.exit 0))
      (.seq (.blk 1
        (.seq (.rgn [] [⟨some 9, (.indexAddr 30 (.tmp 5) (.tmp 7)), 0, none⟩,
          ⟨some 10, (.load 3 (.tmp 9)), 3, none⟩,
          ⟨some 4, (.assign (.tmp 10)), 3, none⟩])
        (.seq (.rgn [] [⟨some 11, (.move (.tmp 4)), 3, none⟩,
          ⟨some 12, (.call { callee := (.value (.func 82)), args := #[(.tmp 11), (.const (.int .i64 0)), (.const (.int .i64 99))], argTypes := #[3, 3, 3] }), 4, none⟩,
          ⟨some 13, (.unOp .not 4 (.tmp 12)), 4, none⟩])
        (.cond (.tmp 13)
          (.seq (.rgn [] [⟨some 2, (.assign (.const (.bool false))), 4, none⟩])
          .ret)
          .skip))))
      (.rgn [] [⟨some 14, (.binOp .add 3 (.tmp 7) (.const (.int .i64 1)) 3), 3, none⟩,
        ⟨some 7, (.move (.tmp 14)), 3, none⟩])))))))
  (.seq (.rgn [] [⟨some 2, (.assign (.const (.bool true))), 4, none⟩])
  .ret)))
theorem lit140 : Lit Try.prog 140 15 [] [.tmp 2] c140 := ⟨⟨Try.f140, _, Try.func140, rfl, by kernel_rfl, rfl, rfl, by kernel_rfl, by kernel_rfl⟩, by decide, by kernel_rfl⟩
/-- impl.rowsValid -/
def c149 : LC :=
  (.seq (.rgn [] [⟨some 4, (.assign (.const (.bool false))), 4, none⟩])
  (.seq (.seq (.rgn [] [⟨some 7, (.move (.tmp 0)), 3, none⟩,
    ⟨some 8, (.call { callee := (.value (.func 82)), args := #[(.tmp 7), (.const (.int .i64 0)), (.const (.int .i64 5))], argTypes := #[3, 3, 3] }), 4, none⟩,
    ⟨some 9, (.unOp .not 4 (.tmp 8)), 4, none⟩,
    ⟨some 10, (.move (.tmp 9)), 4, none⟩,
    ⟨some 11, (.move (.tmp 1)), 22, some (some 10, false)⟩,
    ⟨some 12, (.call { callee := (.builtin .len), args := #[(.tmp 11)], argTypes := #[22] }), 3, some (some 10, false)⟩,
    ⟨some 13, (.binOp .gtr 3 (.tmp 12) (.const (.int .i64 4000)) 3), 4, some (some 10, false)⟩,
    ⟨some 14, (.pick (.tmp 10) (.const (.bool true)) (.tmp 13)), 4, none⟩])
  (.cond (.tmp 14)
    (.seq (.rgn [] [⟨some 4, (.assign (.const (.bool false))), 4, none⟩])
    .ret)
    .skip))
  (.seq (.seq (.rgn [] [⟨some 15, (.move (.tmp 1)), 22, none⟩,
    ⟨some 16, (.call { callee := (.builtin .len), args := #[(.tmp 15)], argTypes := #[22] }), 3, none⟩,
    ⟨some 17, (.move (.const (.int .i64 0))), 3, none⟩])
  (.blk 0
    (.loop []
      (.seq (.rgn [] [⟨some 18, (.binOp .lss 3 (.tmp 17) (.tmp 16) 3), 0, none⟩])
      (.seq (.cond (.tmp 18)
        .skip
        (.exit 0))
      (.seq (.blk 1
        (.seq (.rgn [21] [⟨some 19, (.move (.tmp 17)), 3, none⟩,
          ⟨some 20, (.indexAddr 22 (.tmp 15) (.tmp 17)), 0, none⟩,
          ⟨some 21, (.load 30 (.tmp 20)), 30, none⟩,
          ⟨some 5, (.assign (.tmp 19)), 3, none⟩,
          ⟨some 6, (.assign (.tmp 21)), 30, none⟩])
        (.seq (.rgn [] [⟨some 22, (.move (.tmp 6)), 30, none⟩,
          ⟨some 23, (.call { callee := (.builtin .len), args := #[(.tmp 22)], argTypes := #[30] }), 3, none⟩,
          ⟨some 24, (.move (.tmp 0)), 3, none⟩,
          ⟨some 25, (.binOp .neq 3 (.tmp 23) (.tmp 24) 3), 4, none⟩,
          ⟨some 26, (.move (.tmp 25)), 4, none⟩,
          ⟨some 27, (.move (.tmp 6)), 30, some (some 26, false)⟩,
          ⟨some 28, (.call { callee := (.value (.func 140)), args := #[(.tmp 27)], argTypes := #[30] }), 4, some (some 26, false)⟩,
          ⟨some 29, (.unOp .not 4 (.tmp 28)), 4, some (some 26, false)⟩,
          ⟨some 30, (.pick (.tmp 26) (.const (.bool true)) (.tmp 29)), 4, none⟩,
          ⟨some 31, (.move (.tmp 30)), 4, none⟩,
          ⟨some 32, (.move (.tmp 5)), 3, some (some 31, false)⟩,
          ⟨some 33, (.binOp .gtr 3 (.tmp 32) (.const (.int .i64 0)) 3), 4, some (some 31, false)⟩,
          ⟨some 34, (.move (.tmp 33)), 4, some (some 31, false)⟩,
          ⟨some 35, (.move (.tmp 1)), 22, some (some 34, true)⟩,
          ⟨some 36, (.move (.tmp 5)), 3, some (some 34, true)⟩,
          ⟨some 37, (.binOp .sub 3 (.tmp 36) (.const (.int .i64 1)) 3), 3, some (some 34, true)⟩,
          ⟨some 38, (.indexAddr 22 (.tmp 35) (.tmp 37)), 0, some (some 34, true)⟩,
          ⟨some 39, (.load 30 (.tmp 38)), 30, some (some 34, true)⟩,
          ⟨some 40, (.move (.tmp 6)), 30, some (some 34, true)⟩,
          ⟨some 41, (.call { callee := (.value (.func 168)), args := #[(.tmp 39), (.tmp 40)], argTypes := #[30, 30] }), 3, some (some 34, true)⟩,
          ⟨some 42, (.binOp .geq 3 (.tmp 41) (.const (.int .i64 0)) 3), 4, some (some 34, true)⟩,
          ⟨some 43, (.pick (.tmp 34) (.tmp 42) (.const (.bool false))), 4, some (some 31, false)⟩,
          ⟨some 44, (.pick (.tmp 31) (.const (.bool true)) (.tmp 43)), 4, none⟩])
        (.cond (.tmp 44)
          (.seq (.rgn [] [⟨some 4, (.assign (.const (.bool false))), 4, none⟩])
          .ret)
          .skip))))
      (.rgn [] [⟨some 45, (.binOp .add 3 (.tmp 17) (.const (.int .i64 1)) 3), 3, none⟩,
        ⟨some 17, (.move (.tmp 45)), 3, none⟩])))))))
  (.seq (.rgn [] [⟨some 4, (.assign (.const (.bool true))), 4, none⟩])
  .ret))))
theorem lit149 : Lit Try.prog 149 46 [] [.tmp 4] c149 := ⟨⟨Try.f149, _, Try.func149, rfl, by kernel_rfl, rfl, rfl, by kernel_rfl, by kernel_rfl⟩, by decide, by kernel_rfl⟩
/-- impl.CompareRows -/
def c168 : LC :=
  (.seq (.rgn [] [⟨some 4, (.assign (.const (.int .i64 0))), 3, none⟩])
  (.seq (.seq (.rgn [] [⟨some 5, (.assign (.const (.int .i64 0))), 3, none⟩])
  (.blk 0
    (.loop []
      (.seq (.seq (.rgn [] [⟨some 6, (.move (.tmp 5)), 3, none⟩,
        ⟨some 7, (.move (.tmp 0)), 30, none⟩,
        ⟨some 8, (.call { callee := (.builtin .len), args := #[(.tmp 7)], argTypes := #[30] }), 3, none⟩,
        ⟨some 9, (.binOp .lss 3 (.tmp 6) (.tmp 8) 3), 4, none⟩,
        ⟨some 10, (.move (.tmp 9)), 4, none⟩,
        ⟨some 11, (.move (.tmp 5)), 3, some (some 10, true)⟩,
        ⟨some 12, (.move (.tmp 1)), 30, some (some 10, true)⟩,
        ⟨some 13, (.call { callee := (.builtin .len), args := #[(.tmp 12)], argTypes := #[30] }), 3, some (some 10, true)⟩,
        ⟨some 14, (.binOp .lss 3 (.tmp 11) (.tmp 13) 3), 4, some (some 10, true)⟩,
        ⟨some 15, (.pick (.tmp 10) (.tmp 14) (.const (.bool false))), 4, none⟩])
      (.cond (.tmp 15)
        .skip
        (.exit 0)))
      (.seq (.blk 1
        (.seq (.drw [] [([0], [18]), ([5], [19]), ([18, 19], [20]), ([20], [21]), ([1], [22]), ([5], [23]), ([22, 23], [24]), ([24], [25]), ([21, 25], [26])] [[], [], [0, 1], [2], [], [], [4, 5], [6], [3, 7]] [⟨some 18, (.move (.tmp 0)), 30, none⟩,
          ⟨some 19, (.move (.tmp 5)), 3, none⟩,
          ⟨some 20, (.indexAddr 30 (.tmp 18) (.tmp 19)), 0, none⟩,
          ⟨some 21, (.load 3 (.tmp 20)), 3, none⟩,
          ⟨some 22, (.move (.tmp 1)), 30, none⟩,
          ⟨some 23, (.move (.tmp 5)), 3, none⟩,
          ⟨some 24, (.indexAddr 30 (.tmp 22) (.tmp 23)), 0, none⟩,
          ⟨some 25, (.load 3 (.tmp 24)), 3, none⟩,
          ⟨some 26, (.binOp .neq 3 (.tmp 21) (.tmp 25) 3), 4, none⟩])
        (.cond (.tmp 26)
          (.seq (.drw [] [([0], [27]), ([5], [28]), ([27, 28], [29]), ([29], [30]), ([1], [31]), ([5], [32]), ([31, 32], [33]), ([33], [34]), ([30, 34], [35]), ([35], [4, 35])] [[], [], [0, 1], [2], [], [], [4, 5], [6], [3, 7], [8, 8, 0, 1, 2, 3, 4, 5, 6, 7, 8]] [⟨some 27, (.move (.tmp 0)), 30, none⟩,
            ⟨some 28, (.move (.tmp 5)), 3, none⟩,
            ⟨some 29, (.indexAddr 30 (.tmp 27) (.tmp 28)), 0, none⟩,
            ⟨some 30, (.load 3 (.tmp 29)), 3, none⟩,
            ⟨some 31, (.move (.tmp 1)), 30, none⟩,
            ⟨some 32, (.move (.tmp 5)), 3, none⟩,
            ⟨some 33, (.indexAddr 30 (.tmp 31) (.tmp 32)), 0, none⟩,
            ⟨some 34, (.load 3 (.tmp 33)), 3, none⟩,
            ⟨some 35, (.call { callee := (.value (.func 175)), args := #[(.tmp 30), (.tmp 34)], argTypes := #[3, 3] }), 3, none⟩,
            ⟨some 4, (.assign (.tmp 35)), 3, none⟩])
          .ret)
          .skip)))
      (.rgn [] [⟨some 16, (.move (.tmp 5)), 3, none⟩,
        ⟨some 17, (.binOp .add 3 (.tmp 16) (.const (.int .i64 1)) 3), 3, none⟩,
        ⟨some 5, (.assign (.tmp 17)), 3, none⟩]))))))
  (.seq (.rgn [] [⟨some 36, (.move (.tmp 0)), 30, none⟩,
    ⟨some 37, (.call { callee := (.builtin .len), args := #[(.tmp 36)], argTypes := #[30] }), 3, none⟩,
    ⟨some 38, (.move (.tmp 1)), 30, none⟩,
    ⟨some 39, (.call { callee := (.builtin .len), args := #[(.tmp 38)], argTypes := #[30] }), 3, none⟩,
    ⟨some 40, (.call { callee := (.value (.func 175)), args := #[(.tmp 37), (.tmp 39)], argTypes := #[3, 3] }), 3, none⟩,
    ⟨some 4, (.assign (.tmp 40)), 3, none⟩])
  .ret)))
theorem lit168 : Lit Try.prog 168 41 [] [.tmp 4] c168 := ⟨⟨Try.f168, _, Try.func168, rfl, by kernel_rfl, rfl, rfl, by kernel_rfl, by kernel_rfl⟩, by decide, by kernel_rfl⟩
/-- impl.compareInts -/
def c175 : LC :=
  (.seq (.rgn [] [⟨some 4, (.assign (.const (.int .i64 0))), 3, none⟩])
  (.seq (.blk 0
    (.seq (.rgn [] [⟨some 6, (.move (.tmp 0)), 3, none⟩,
      ⟨some 7, (.move (.tmp 1)), 3, none⟩,
      ⟨some 8, (.binOp .lss 3 (.tmp 6) (.tmp 7) 3), 4, none⟩,
      ⟨some 5, (.assign (.tmp 8)), 4, none⟩])
    (.cond (.tmp 5)
      (.seq (.rgn [] [⟨some 4, (.assign (.const (.int .i64 (-1)))), 3, none⟩])
      .ret)
      (.seq (.rgn [] [⟨some 10, (.move (.tmp 0)), 3, none⟩,
        ⟨some 11, (.move (.tmp 1)), 3, none⟩,
        ⟨some 12, (.binOp .gtr 3 (.tmp 10) (.tmp 11) 3), 4, none⟩,
        ⟨some 9, (.assign (.tmp 12)), 4, none⟩])
      (.cond (.tmp 9)
        (.seq (.rgn [] [⟨some 4, (.assign (.const (.int .i64 1))), 3, none⟩])
        .ret)
        .skip)))))
  (.seq (.rgn [] [⟨some 4, (.assign (.const (.int .i64 0))), 3, none⟩])
  .ret)))
theorem lit175 : Lit Try.prog 175 13 [] [.tmp 4] c175 := ⟨⟨Try.f175, _, Try.func175, rfl, by kernel_rfl, rfl, rfl, by kernel_rfl, by kernel_rfl⟩, by decide, by kernel_rfl⟩
end Go.Proofs.Ytkmkbpphdalgoaa
