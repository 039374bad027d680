/-
  The functions' code as the program holds it, without places and edges; printed by genlit.py. No conditions.
-/
import Derived.Test.YtkmkbpphdalgoaaTb
namespace Go.Proofs.Ytkmkbpphdalgoaa
open Go.RowKit
set_option linter.unusedVariables false
set_option maxRecDepth 100000
/-- laws.szQuery -/
def c29 : LC :=
  (.seq (.rgn [] [⟨some 2, (.box 50 (.tmp 0)), 0, none⟩,
    ⟨some 4, (.assign (.const (.int .i64 0))), 3, none⟩])
  (.seq (.rgn [] [⟨some 5, (.fieldAddr 50 (.tmp 2) 1), 0, none⟩,
    ⟨some 6, (.load 48 (.tmp 5)), 48, none⟩,
    ⟨some 7, (.move (.tmp 1)), 3, none⟩,
    ⟨some 8, (.call { callee := (.value (.func 106)), args := #[(.tmp 6), (.tmp 7)], argTypes := #[48, 3] }), 3, none⟩,
    ⟨some 1, (.assign (.tmp 8)), 3, none⟩])
  (.seq (.seq (.rgn [] [⟨some 9, (.move (.tmp 1)), 3, none⟩,
    ⟨some 10, (.binOp .lss 3 (.tmp 9) (.const (.int .i64 0)) 3), 4, none⟩])
  (.cond (.tmp 10)
    (.seq (.rgn [] [⟨some 4, (.assign (.const (.int .i64 (-1)))), 3, none⟩])
    .ret)
    .skip))
  (.seq (.rgn [] [⟨some 11, (.fieldAddr 50 (.tmp 2) 2), 0, none⟩,
    ⟨some 12, (.load 30 (.tmp 11)), 30, none⟩,
    ⟨some 13, (.move (.tmp 1)), 3, none⟩,
    ⟨some 14, (.call { callee := (.value (.func 87)), args := #[(.tmp 12), (.tmp 13)], argTypes := #[30, 3] }), 3, none⟩,
    ⟨some 1, (.assign (.tmp 14)), 3, none⟩])
  (.seq (.seq (.rgn [] [⟨some 15, (.move (.tmp 1)), 3, none⟩,
    ⟨some 16, (.binOp .lss 3 (.tmp 15) (.const (.int .i64 0)) 3), 4, none⟩])
  (.cond (.tmp 16)
    (.seq (.rgn [] [⟨some 4, (.assign (.const (.int .i64 (-1)))), 3, none⟩])
    .ret)
    .skip))
  (.seq (.rgn [] [⟨some 17, (.move (.tmp 1)), 3, none⟩,
    ⟨some 4, (.assign (.tmp 17)), 3, none⟩])
  .ret))))))
theorem lit29 : Lit Try.prog 29 18 [2] [.tmp 4] c29 := ⟨⟨Try.f29, _, Try.func29, rfl, by kernel_rfl, rfl, rfl, by kernel_rfl, by kernel_rfl⟩, by decide, by kernel_rfl⟩
/-- laws.toQuery -/
def c31 : LC :=
  (.seq (.rgn [] [⟨some 1, (.box 50 (.tmp 0)), 0, none⟩,
    ⟨some 2, (.alloc 56), 0, none⟩])
  (.seq (.rgn [] [⟨some 3, (.alloc 56), 0, none⟩])
  (.seq (.rgn [] [⟨some 4, (.fieldAddr 50 (.tmp 1) 0), 0, none⟩,
    ⟨some 5, (.load 3 (.tmp 4)), 3, none⟩,
    ⟨some 6, (.fieldAddr 56 (.tmp 3) 0), 0, none⟩,
    ⟨none, (.store 3 (.tmp 6) (.tmp 5)), 0, none⟩])
  (.seq (.rgn [] [⟨some 7, (.fieldAddr 50 (.tmp 1) 1), 0, none⟩,
    ⟨some 8, (.load 48 (.tmp 7)), 48, none⟩,
    ⟨some 9, (.call { callee := (.value (.func 109)), args := #[(.tmp 8)], argTypes := #[48] }), 54, none⟩,
    ⟨some 10, (.fieldAddr 56 (.tmp 3) 1), 0, none⟩,
    ⟨none, (.store 54 (.tmp 10) (.tmp 9)), 0, none⟩])
  (.seq (.rgn [] [⟨some 11, (.fieldAddr 50 (.tmp 1) 2), 0, none⟩,
    ⟨some 12, (.load 30 (.tmp 11)), 30, none⟩,
    ⟨some 13, (.call { callee := (.value (.func 32)), args := #[(.tmp 12)], argTypes := #[30] }), 30, none⟩,
    ⟨some 14, (.fieldAddr 56 (.tmp 3) 2), 0, none⟩,
    ⟨none, (.store 30 (.tmp 14) (.tmp 13)), 0, none⟩])
  (.seq (.rgn [15] [⟨some 15, (.load 56 (.tmp 3)), 56, none⟩,
    ⟨none, (.store 56 (.tmp 2) (.tmp 15)), 0, none⟩])
  .ret))))))
theorem lit31 : Lit Try.prog 31 16 [1, 2, 3] [.cell 2 56] c31 := ⟨⟨Try.f31, _, Try.func31, rfl, by kernel_rfl, rfl, rfl, by kernel_rfl, by kernel_rfl⟩, by decide, by kernel_rfl⟩
/-- laws.toIntS -/
def c32 : LC :=
  (.seq (.rgn [] [⟨some 2, (.assign (.const (.slice none 0 0))), 30, none⟩])
  (.seq (.rgn [3, 7] [⟨some 5, (.move (.tmp 0)), 30, none⟩,
    ⟨some 6, (.call { callee := (.builtin .len), args := #[(.tmp 5)], argTypes := #[30] }), 3, none⟩,
    ⟨some 7, (.makeSlice 30 (.tmp 6) (.tmp 6)), 30, none⟩,
    ⟨some 3, (.assign (.tmp 7)), 30, none⟩])
  (.seq (.seq (.rgn [] [⟨some 4, (.assign (.const (.int .i64 0))), 3, none⟩])
  (.blk 0
    (.loop []
      (.seq (.seq (.rgn [] [⟨some 8, (.move (.tmp 4)), 3, none⟩,
        ⟨some 9, (.move (.tmp 0)), 30, none⟩,
        ⟨some 10, (.call { callee := (.builtin .len), args := #[(.tmp 9)], argTypes := #[30] }), 3, none⟩,
        ⟨some 11, (.binOp .lss 3 (.tmp 8) (.tmp 10) 3), 4, none⟩])
      (.cond (.tmp 11)
        .skip
        (.exit 0)))
      (.seq (.blk 1
        (.rgn [] [⟨some 14, (.move (.tmp 3)), 30, none⟩,
          ⟨some 15, (.move (.tmp 4)), 3, none⟩,
          ⟨some 16, (.move (.tmp 0)), 30, none⟩,
          ⟨some 17, (.move (.tmp 4)), 3, none⟩,
          ⟨some 18, (.indexAddr 30 (.tmp 16) (.tmp 17)), 0, none⟩,
          ⟨some 19, (.load 3 (.tmp 18)), 3, none⟩,
          ⟨some 20, (.indexAddr 30 (.tmp 14) (.tmp 15)), 0, none⟩,
          ⟨none, (.store 3 (.tmp 20) (.tmp 19)), 0, none⟩]))
      (.rgn [] [⟨some 12, (.move (.tmp 4)), 3, none⟩,
        ⟨some 13, (.binOp .add 3 (.tmp 12) (.const (.int .i64 1)) 3), 3, none⟩,
        ⟨some 4, (.assign (.tmp 13)), 3, none⟩]))))))
  (.seq (.rgn [21] [⟨some 21, (.move (.tmp 3)), 30, none⟩,
    ⟨some 2, (.assign (.tmp 21)), 30, none⟩])
  .ret))))
theorem lit32 : Lit Try.prog 32 22 [3, 7] [.tmp 2] c32 := ⟨⟨Try.f32, _, Try.func32, rfl, by kernel_rfl, rfl, rfl, by kernel_rfl, by kernel_rfl⟩, by decide, by kernel_rfl⟩
/-- laws.eqQuery -/
def c34 : LC :=
  (.seq (.rgn [] [⟨some 2, (.box 56 (.tmp 0)), 0, none⟩,
    ⟨some 3, (.box 56 (.tmp 1)), 0, none⟩,
    ⟨some 4, (.assign (.const (.bool false))), 4, none⟩])
  (.seq (.seq (.rgn [] [⟨some 5, (.fieldAddr 56 (.tmp 2) 0), 0, none⟩,
    ⟨some 6, (.load 3 (.tmp 5)), 3, none⟩,
    ⟨some 7, (.fieldAddr 56 (.tmp 3) 0), 0, none⟩,
    ⟨some 8, (.load 3 (.tmp 7)), 3, none⟩,
    ⟨some 9, (.binOp .neq 3 (.tmp 6) (.tmp 8) 3), 4, none⟩])
  (.cond (.tmp 9)
    (.seq (.rgn [] [⟨some 4, (.assign (.const (.bool false))), 4, none⟩])
    .ret)
    .skip))
  (.seq (.seq (.rgn [] [⟨some 10, (.fieldAddr 56 (.tmp 2) 1), 0, none⟩,
    ⟨some 11, (.load 54 (.tmp 10)), 54, none⟩,
    ⟨some 12, (.fieldAddr 56 (.tmp 3) 1), 0, none⟩,
    ⟨some 13, (.load 54 (.tmp 12)), 54, none⟩,
    ⟨some 14, (.call { callee := (.value (.func 111)), args := #[(.tmp 11), (.tmp 13)], argTypes := #[54, 54] }), 4, none⟩,
    ⟨some 15, (.unOp .not 4 (.tmp 14)), 4, none⟩])
  (.cond (.tmp 15)
    (.seq (.rgn [] [⟨some 4, (.assign (.const (.bool false))), 4, none⟩])
    .ret)
    .skip))
  (.seq (.seq (.rgn [] [⟨some 16, (.fieldAddr 56 (.tmp 2) 2), 0, none⟩,
    ⟨some 17, (.load 30 (.tmp 16)), 30, none⟩,
    ⟨some 18, (.fieldAddr 56 (.tmp 3) 2), 0, none⟩,
    ⟨some 19, (.load 30 (.tmp 18)), 30, none⟩,
    ⟨some 20, (.call { callee := (.value (.func 35)), args := #[(.tmp 17), (.tmp 19)], argTypes := #[30, 30] }), 4, none⟩,
    ⟨some 21, (.unOp .not 4 (.tmp 20)), 4, none⟩])
  (.cond (.tmp 21)
    (.seq (.rgn [] [⟨some 4, (.assign (.const (.bool false))), 4, none⟩])
    .ret)
    .skip))
  (.seq (.rgn [] [⟨some 4, (.assign (.const (.bool true))), 4, none⟩])
  .ret)))))
theorem lit34 : Lit Try.prog 34 22 [2, 3] [.tmp 4] c34 := ⟨⟨Try.f34, _, Try.func34, rfl, by kernel_rfl, rfl, rfl, by kernel_rfl, by kernel_rfl⟩, by decide, by kernel_rfl⟩
/-- laws.eqIntS -/
def c35 : LC :=
  (.seq (.rgn [] [⟨some 4, (.assign (.const (.bool false))), 4, none⟩])
  (.seq (.seq (.rgn [] [⟨some 6, (.move (.tmp 0)), 30, none⟩,
    ⟨some 7, (.call { callee := (.builtin .len), args := #[(.tmp 6)], argTypes := #[30] }), 3, none⟩,
    ⟨some 8, (.move (.tmp 1)), 30, none⟩,
    ⟨some 9, (.call { callee := (.builtin .len), args := #[(.tmp 8)], argTypes := #[30] }), 3, none⟩,
    ⟨some 10, (.binOp .neq 3 (.tmp 7) (.tmp 9) 3), 4, none⟩])
  (.cond (.tmp 10)
    (.seq (.rgn [] [⟨some 4, (.assign (.const (.bool false))), 4, none⟩])
    .ret)
    .skip))
  (.seq (.seq (.rgn [] [⟨some 5, (.assign (.const (.int .i64 0))), 3, none⟩])
  (.blk 0
    (.loop []
      (.seq (.seq (.rgn [] [⟨some 11, (.move (.tmp 5)), 3, none⟩,
        ⟨some 12, (.move (.tmp 0)), 30, none⟩,
        ⟨some 13, (.call { callee := (.builtin .len), args := #[(.tmp 12)], argTypes := #[30] }), 3, none⟩,
        ⟨some 14, (.binOp .lss 3 (.tmp 11) (.tmp 13) 3), 4, none⟩])
      (.cond (.tmp 14)
        .skip
        (.exit 0)))
      (.seq (.blk 1
        (.seq (.drw [] [([0], [17]), ([5], [18]), ([17, 18], [19]), ([19], [20]), ([1], [21]), ([5], [22]), ([21, 22], [23]), ([23], [24]), ([20, 24], [25])] [[], [], [0, 1], [2], [], [], [4, 5], [6], [3, 7]] [⟨some 17, (.move (.tmp 0)), 30, none⟩,
          ⟨some 18, (.move (.tmp 5)), 3, none⟩,
          ⟨some 19, (.indexAddr 30 (.tmp 17) (.tmp 18)), 0, none⟩,
          ⟨some 20, (.load 3 (.tmp 19)), 3, none⟩,
          ⟨some 21, (.move (.tmp 1)), 30, none⟩,
          ⟨some 22, (.move (.tmp 5)), 3, none⟩,
          ⟨some 23, (.indexAddr 30 (.tmp 21) (.tmp 22)), 0, none⟩,
          ⟨some 24, (.load 3 (.tmp 23)), 3, none⟩,
          ⟨some 25, (.binOp .neq 3 (.tmp 20) (.tmp 24) 3), 4, none⟩])
        (.cond (.tmp 25)
          (.seq (.rgn [] [⟨some 4, (.assign (.const (.bool false))), 4, none⟩])
          .ret)
          .skip)))
      (.rgn [] [⟨some 15, (.move (.tmp 5)), 3, none⟩,
        ⟨some 16, (.binOp .add 3 (.tmp 15) (.const (.int .i64 1)) 3), 3, none⟩,
        ⟨some 5, (.assign (.tmp 16)), 3, none⟩]))))))
  (.seq (.rgn [] [⟨some 4, (.assign (.const (.bool true))), 4, none⟩])
  .ret))))
theorem lit35 : Lit Try.prog 35 26 [] [.tmp 4] c35 := ⟨⟨Try.f35, _, Try.func35, rfl, by kernel_rfl, rfl, rfl, by kernel_rfl, by kernel_rfl⟩, by decide, by kernel_rfl⟩
/-- laws.szFunctionalDependency -/
def c50 : LC :=
  (.seq (.rgn [] [⟨some 2, (.box 83 (.tmp 0)), 0, none⟩,
    ⟨some 4, (.assign (.const (.int .i64 0))), 3, none⟩])
  (.seq (.rgn [] [⟨some 5, (.move (.tmp 1)), 3, none⟩,
    ⟨some 6, (.fieldAddr 83 (.tmp 2) 0), 0, none⟩,
    ⟨some 7, (.load 9 (.tmp 6)), 9, none⟩,
    ⟨some 8, (.call { callee := (.builtin .len), args := #[(.tmp 7)], argTypes := #[9] }), 3, none⟩,
    ⟨some 9, (.binOp .sub 3 (.tmp 5) (.tmp 8) 3), 3, none⟩,
    ⟨some 1, (.assign (.tmp 9)), 3, none⟩])
  (.seq (.seq (.rgn [] [⟨some 10, (.move (.tmp 1)), 3, none⟩,
    ⟨some 11, (.binOp .lss 3 (.tmp 10) (.const (.int .i64 0)) 3), 4, none⟩])
  (.cond (.tmp 11)
    (.seq (.rgn [] [⟨some 4, (.assign (.const (.int .i64 (-1)))), 3, none⟩])
    .ret)
    .skip))
  (.seq (.rgn [] [⟨some 12, (.fieldAddr 83 (.tmp 2) 1), 0, none⟩,
    ⟨some 13, (.load 30 (.tmp 12)), 30, none⟩,
    ⟨some 14, (.move (.tmp 1)), 3, none⟩,
    ⟨some 15, (.call { callee := (.value (.func 87)), args := #[(.tmp 13), (.tmp 14)], argTypes := #[30, 3] }), 3, none⟩,
    ⟨some 1, (.assign (.tmp 15)), 3, none⟩])
  (.seq (.seq (.rgn [] [⟨some 16, (.move (.tmp 1)), 3, none⟩,
    ⟨some 17, (.binOp .lss 3 (.tmp 16) (.const (.int .i64 0)) 3), 4, none⟩])
  (.cond (.tmp 17)
    (.seq (.rgn [] [⟨some 4, (.assign (.const (.int .i64 (-1)))), 3, none⟩])
    .ret)
    .skip))
  (.seq (.rgn [] [⟨some 18, (.move (.tmp 1)), 3, none⟩,
    ⟨some 4, (.assign (.tmp 18)), 3, none⟩])
  .ret))))))
theorem lit50 : Lit Try.prog 50 19 [2] [.tmp 4] c50 := ⟨⟨Try.f50, _, Try.func50, rfl, by kernel_rfl, rfl, rfl, by kernel_rfl, by kernel_rfl⟩, by decide, by kernel_rfl⟩
/-- spec.FDVariables -/
def c51 : LC :=
  (.seq (.rgn [] [⟨some 2, (.box 56 (.tmp 0)), 0, none⟩,
    ⟨some 3, (.box 86 (.tmp 1)), 0, none⟩,
    ⟨some 4, (.assign (.const (.slice none 0 0))), 30, none⟩,
    ⟨some 5, (.assign (.const (.slice none 0 0))), 30, none⟩])
  (.seq (.rgn [] [⟨some 13, (.buildSlice 30 0 #[]), 30, none⟩,
    ⟨some 6, (.assign (.tmp 13)), 30, none⟩])
  (.seq (.rgn [] [⟨some 14, (.buildSlice 30 0 #[]), 30, none⟩,
    ⟨some 7, (.assign (.tmp 14)), 30, none⟩])
  (.seq (.seq (.rgn [] [⟨some 8, (.assign (.const (.int .i64 0))), 3, none⟩])
  (.blk 0
    (.loop [9]
      (.seq (.seq (.rgn [] [⟨some 15, (.move (.tmp 8)), 3, none⟩,
        ⟨some 16, (.fieldAddr 56 (.tmp 2) 1), 0, none⟩,
        ⟨some 17, (.load 54 (.tmp 16)), 54, none⟩,
        ⟨some 18, (.call { callee := (.builtin .len), args := #[(.tmp 17)], argTypes := #[54] }), 3, none⟩,
        ⟨some 19, (.binOp .lss 3 (.tmp 15) (.tmp 18) 3), 4, none⟩,
        ⟨some 20, (.move (.tmp 19)), 4, none⟩,
        ⟨some 21, (.load 56 (.tmp 2)), 56, some (some 20, true)⟩,
        ⟨some 22, (.call { callee := (.value (.func 124)), args := #[(.tmp 21)], argTypes := #[56] }), 4, some (some 20, true)⟩,
        ⟨some 23, (.pick (.tmp 20) (.tmp 22) (.const (.bool false))), 4, none⟩])
      (.cond (.tmp 23)
        .skip
        (.exit 0)))
      (.seq (.blk 1
        (.seq (.rgn [30] [⟨some 26, (.fieldAddr 56 (.tmp 2) 1), 0, none⟩,
          ⟨some 27, (.load 54 (.tmp 26)), 54, none⟩,
          ⟨some 28, (.move (.tmp 8)), 3, none⟩,
          ⟨some 29, (.indexAddr 54 (.tmp 27) (.tmp 28)), 0, none⟩,
          ⟨some 30, (.load 150 (.tmp 29)), 150, none⟩,
          ⟨some 9, (.alloc 150), 0, none⟩,
          ⟨none, (.store 150 (.tmp 9) (.tmp 30)), 0, none⟩])
        (.seq (.rgn [] [⟨some 31, (.fieldAddr 150 (.tmp 9) 0), 0, none⟩,
          ⟨some 32, (.load 9 (.tmp 31)), 9, none⟩,
          ⟨some 33, (.fieldAddr 86 (.tmp 3) 0), 0, none⟩,
          ⟨some 34, (.load 9 (.tmp 33)), 9, none⟩,
          ⟨some 35, (.binOp .eql 9 (.tmp 32) (.tmp 34) 9), 4, none⟩,
          ⟨some 36, (.move (.tmp 35)), 4, none⟩,
          ⟨some 37, (.fieldAddr 86 (.tmp 3) 2), 0, some (some 36, true)⟩,
          ⟨some 38, (.load 3 (.tmp 37)), 3, some (some 36, true)⟩,
          ⟨some 39, (.fieldAddr 150 (.tmp 9) 1), 0, some (some 36, true)⟩,
          ⟨some 40, (.load 30 (.tmp 39)), 30, some (some 36, true)⟩,
          ⟨some 41, (.call { callee := (.builtin .len), args := #[(.tmp 40)], argTypes := #[30] }), 3, some (some 36, true)⟩,
          ⟨some 42, (.binOp .sub 3 (.tmp 41) (.const (.int .i64 1)) 3), 3, some (some 36, true)⟩,
          ⟨some 43, (.call { callee := (.value (.func 80)), args := #[(.tmp 38), (.const (.int .i64 0)), (.tmp 42)], argTypes := #[3, 3, 3] }), 4, some (some 36, true)⟩,
          ⟨some 44, (.pick (.tmp 36) (.tmp 43) (.const (.bool false))), 4, none⟩,
          ⟨some 10, (.assign (.tmp 44)), 4, none⟩])
        (.seq (.rgn [] [⟨some 11, (.assign (.const (.int .i64 0))), 3, none⟩])
        (.seq (.seq (.rgn [] [⟨some 12, (.assign (.const (.int .i64 0))), 3, none⟩])
        (.blk 2
          (.loop []
            (.seq (.seq (.rgn [] [⟨some 45, (.move (.tmp 12)), 3, none⟩,
              ⟨some 46, (.fieldAddr 86 (.tmp 3) 1), 0, none⟩,
              ⟨some 47, (.load 30 (.tmp 46)), 30, none⟩,
              ⟨some 48, (.call { callee := (.builtin .len), args := #[(.tmp 47)], argTypes := #[30] }), 3, none⟩,
              ⟨some 49, (.binOp .lss 3 (.tmp 45) (.tmp 48) 3), 4, none⟩])
            (.cond (.tmp 49)
              .skip
              (.exit 2)))
            (.seq (.blk 3
              (.seq (.drw [] [([10], [52]), ([52], [53]), ([3, 53], [54]), ([3, 53, 54], [55]), ([12, 53], [56]), ([53, 55, 56], [57]), ([53, 57], [58]), ([9, 53], [59]), ([9, 53, 59], [60]), ([53, 60], [61]), ([53, 61], [62]), ([53, 58, 62], [63]), ([53, 63], [64]), ([64], [10, 64])] [[], [0], [1], [2, 1], [1], [3, 4, 1], [5, 1], [1], [7, 1], [8, 1], [9, 1], [6, 10, 1, 1], [1, 11], [12, 11, 0, 1, 2, 3, 4, 5, 6, 7, 8, 9, 10, 11, 12]] [⟨some 52, (.move (.tmp 10)), 4, none⟩,
                ⟨some 53, (.move (.tmp 52)), 4, none⟩,
                ⟨some 54, (.fieldAddr 86 (.tmp 3) 1), 0, some (some 53, true)⟩,
                ⟨some 55, (.load 30 (.tmp 54)), 30, some (some 53, true)⟩,
                ⟨some 56, (.move (.tmp 12)), 3, some (some 53, true)⟩,
                ⟨some 57, (.indexAddr 30 (.tmp 55) (.tmp 56)), 0, some (some 53, true)⟩,
                ⟨some 58, (.load 3 (.tmp 57)), 3, some (some 53, true)⟩,
                ⟨some 59, (.fieldAddr 150 (.tmp 9) 1), 0, some (some 53, true)⟩,
                ⟨some 60, (.load 30 (.tmp 59)), 30, some (some 53, true)⟩,
                ⟨some 61, (.call { callee := (.builtin .len), args := #[(.tmp 60)], argTypes := #[30] }), 3, some (some 53, true)⟩,
                ⟨some 62, (.binOp .sub 3 (.tmp 61) (.const (.int .i64 1)) 3), 3, some (some 53, true)⟩,
                ⟨some 63, (.call { callee := (.value (.func 80)), args := #[(.tmp 58), (.const (.int .i64 0)), (.tmp 62)], argTypes := #[3, 3, 3] }), 4, some (some 53, true)⟩,
                ⟨some 64, (.pick (.tmp 53) (.tmp 63) (.const (.bool false))), 4, none⟩,
                ⟨some 10, (.assign (.tmp 64)), 4, none⟩])
              (.seq (.rgn [] [⟨some 65, (.move (.tmp 10)), 4, none⟩])
              (.cond (.tmp 65)
                (.drw [] [([11], [66]), ([9], [67]), ([9, 67], [68]), ([3], [69]), ([3, 69], [70]), ([12], [71]), ([70, 71], [72]), ([72], [73]), ([68, 73], [74]), ([74], [75]), ([75], [76]), ([66, 76], [77]), ([77], [11, 77])] [[], [], [1], [], [3], [], [4, 5], [6], [2, 7], [8], [9], [0, 10], [11, 0, 1, 2, 3, 4, 5, 6, 7, 8, 9, 10, 11]] [⟨some 66, (.move (.tmp 11)), 3, none⟩,
                  ⟨some 67, (.fieldAddr 150 (.tmp 9) 1), 0, none⟩,
                  ⟨some 68, (.load 30 (.tmp 67)), 30, none⟩,
                  ⟨some 69, (.fieldAddr 86 (.tmp 3) 1), 0, none⟩,
                  ⟨some 70, (.load 30 (.tmp 69)), 30, none⟩,
                  ⟨some 71, (.move (.tmp 12)), 3, none⟩,
                  ⟨some 72, (.indexAddr 30 (.tmp 70) (.tmp 71)), 0, none⟩,
                  ⟨some 73, (.load 3 (.tmp 72)), 3, none⟩,
                  ⟨some 74, (.indexAddr 30 (.tmp 68) (.tmp 73)), 0, none⟩,
                  ⟨some 75, (.load 3 (.tmp 74)), 3, none⟩,
                  ⟨some 76, (.binOp .shl 3 (.const (.int .i64 1)) (.tmp 75) 3), 3, none⟩,
                  ⟨some 77, (.binOp .or 3 (.tmp 66) (.tmp 76) 3), 3, none⟩,
                  ⟨some 11, (.assign (.tmp 77)), 3, none⟩])
                .skip))))
            (.rgn [] [⟨some 50, (.move (.tmp 12)), 3, none⟩,
              ⟨some 51, (.binOp .add 3 (.tmp 50) (.const (.int .i64 1)) 3), 3, none⟩,
              ⟨some 12, (.assign (.tmp 51)), 3, none⟩]))))))
        (.seq (.rgn [] [⟨some 78, (.move (.tmp 10)), 4, none⟩])
        (.cond (.tmp 78)
          (.seq (.rgn [79] [⟨some 79, (.move (.tmp 6)), 30, none⟩,
            ⟨some 80, (.move (.tmp 11)), 3, none⟩,
            ⟨some 81, (.buildSlice 30 1 #[(0, (.tmp 80))]), 30, none⟩,
            ⟨some 82, (.call { callee := (.builtin .append), args := #[(.tmp 79), (.tmp 81)], argTypes := #[30, 30] }), 30, none⟩,
            ⟨some 6, (.assign (.tmp 82)), 30, none⟩])
          (.rgn [83] [⟨some 83, (.move (.tmp 7)), 30, none⟩,
            ⟨some 84, (.fieldAddr 150 (.tmp 9) 1), 0, none⟩,
            ⟨some 85, (.load 30 (.tmp 84)), 30, none⟩,
            ⟨some 86, (.fieldAddr 86 (.tmp 3) 2), 0, none⟩,
            ⟨some 87, (.load 3 (.tmp 86)), 3, none⟩,
            ⟨some 88, (.indexAddr 30 (.tmp 85) (.tmp 87)), 0, none⟩,
            ⟨some 89, (.load 3 (.tmp 88)), 3, none⟩,
            ⟨some 90, (.buildSlice 30 1 #[(0, (.tmp 89))]), 30, none⟩,
            ⟨some 91, (.call { callee := (.builtin .append), args := #[(.tmp 83), (.tmp 90)], argTypes := #[30, 30] }), 30, none⟩,
            ⟨some 7, (.assign (.tmp 91)), 30, none⟩]))
          (.seq (.rgn [92] [⟨some 92, (.move (.tmp 6)), 30, none⟩,
            ⟨some 93, (.buildSlice 30 1 #[(0, (.const (.int .i64 0)))]), 30, none⟩,
            ⟨some 94, (.call { callee := (.builtin .append), args := #[(.tmp 92), (.tmp 93)], argTypes := #[30, 30] }), 30, none⟩,
            ⟨some 6, (.assign (.tmp 94)), 30, none⟩])
          (.rgn [95] [⟨some 95, (.move (.tmp 7)), 30, none⟩,
            ⟨some 96, (.buildSlice 30 1 #[(0, (.const (.int .i64 (-1))))]), 30, none⟩,
            ⟨some 97, (.call { callee := (.builtin .append), args := #[(.tmp 95), (.tmp 96)], argTypes := #[30, 30] }), 30, none⟩,
            ⟨some 7, (.assign (.tmp 97)), 30, none⟩])))))))))
      (.rgn [] [⟨some 24, (.move (.tmp 8)), 3, none⟩,
        ⟨some 25, (.binOp .add 3 (.tmp 24) (.const (.int .i64 1)) 3), 3, none⟩,
        ⟨some 8, (.assign (.tmp 25)), 3, none⟩]))))))
  (.seq (.rgn [98, 99] [⟨some 98, (.move (.tmp 6)), 30, none⟩,
    ⟨some 99, (.move (.tmp 7)), 30, none⟩,
    ⟨some 4, (.assign (.tmp 98)), 30, none⟩,
    ⟨some 5, (.assign (.tmp 99)), 30, none⟩])
  .ret)))))
theorem lit51 : Lit Try.prog 51 100 [2, 3, 9] [.tmp 4, .tmp 5] c51 := ⟨⟨Try.f51, _, Try.func51, rfl, by kernel_rfl, rfl, rfl, by kernel_rfl, by kernel_rfl⟩, by decide, by kernel_rfl⟩
/-- laws.toFunctionalDependency -/
def c52 : LC :=
  (.seq (.rgn [] [⟨some 1, (.box 83 (.tmp 0)), 0, none⟩,
    ⟨some 2, (.alloc 86), 0, none⟩])
  (.seq (.rgn [] [⟨some 3, (.alloc 86), 0, none⟩])
  (.seq (.rgn [] [⟨some 4, (.fieldAddr 83 (.tmp 1) 0), 0, none⟩,
    ⟨some 5, (.load 9 (.tmp 4)), 9, none⟩,
    ⟨some 6, (.fieldAddr 86 (.tmp 3) 0), 0, none⟩,
    ⟨none, (.store 9 (.tmp 6) (.tmp 5)), 0, none⟩])
  (.seq (.rgn [] [⟨some 7, (.fieldAddr 83 (.tmp 1) 1), 0, none⟩,
    ⟨some 8, (.load 30 (.tmp 7)), 30, none⟩,
    ⟨some 9, (.call { callee := (.value (.func 32)), args := #[(.tmp 8)], argTypes := #[30] }), 30, none⟩,
    ⟨some 10, (.fieldAddr 86 (.tmp 3) 1), 0, none⟩,
    ⟨none, (.store 30 (.tmp 10) (.tmp 9)), 0, none⟩])
  (.seq (.rgn [] [⟨some 11, (.fieldAddr 83 (.tmp 1) 2), 0, none⟩,
    ⟨some 12, (.load 3 (.tmp 11)), 3, none⟩,
    ⟨some 13, (.fieldAddr 86 (.tmp 3) 2), 0, none⟩,
    ⟨none, (.store 3 (.tmp 13) (.tmp 12)), 0, none⟩])
  (.seq (.rgn [14] [⟨some 14, (.load 86 (.tmp 3)), 86, none⟩,
    ⟨none, (.store 86 (.tmp 2) (.tmp 14)), 0, none⟩])
  .ret))))))
theorem lit52 : Lit Try.prog 52 15 [1, 2, 3] [.cell 2 86] c52 := ⟨⟨Try.f52, _, Try.func52, rfl, by kernel_rfl, rfl, rfl, by kernel_rfl, by kernel_rfl⟩, by decide, by kernel_rfl⟩
/-- impl.FDVariables -/
def c53 : LC :=
  (.seq (.rgn [] [⟨some 2, (.box 56 (.tmp 0)), 0, none⟩,
    ⟨some 3, (.box 86 (.tmp 1)), 0, none⟩,
    ⟨some 4, (.assign (.const (.slice none 0 0))), 30, none⟩,
    ⟨some 5, (.assign (.const (.slice none 0 0))), 30, none⟩])
  (.seq (.seq (.rgn [] [⟨some 14, (.load 56 (.tmp 2)), 56, none⟩,
    ⟨some 15, (.call { callee := (.value (.func 125)), args := #[(.tmp 14)], argTypes := #[56] }), 4, none⟩,
    ⟨some 16, (.unOp .not 4 (.tmp 15)), 4, none⟩])
  (.cond (.tmp 16)
    (.seq (.rgn [] [⟨some 4, (.assign (.const (.slice none 0 0))), 30, none⟩,
      ⟨some 5, (.assign (.const (.slice none 0 0))), 30, none⟩])
    .ret)
    .skip))
  (.seq (.rgn [] [⟨some 6, (.assign (.const (.slice none 0 0))), 30, none⟩,
    ⟨some 7, (.assign (.const (.slice none 0 0))), 30, none⟩])
  (.seq (.seq (.rgn [] [⟨some 17, (.fieldAddr 56 (.tmp 2) 1), 0, none⟩,
    ⟨some 18, (.load 54 (.tmp 17)), 54, none⟩,
    ⟨some 19, (.call { callee := (.builtin .len), args := #[(.tmp 18)], argTypes := #[54] }), 3, none⟩,
    ⟨some 20, (.move (.const (.int .i64 0))), 3, none⟩])
  (.blk 0
    (.loop [9]
      (.seq (.rgn [] [⟨some 21, (.binOp .lss 3 (.tmp 20) (.tmp 19) 3), 0, none⟩])
      (.seq (.cond (.tmp 21)
        .skip
        (.exit 0))
      (.seq (.blk 1
        (.seq (.rgn [23] [⟨some 22, (.indexAddr 54 (.tmp 18) (.tmp 20)), 0, none⟩,
          ⟨some 23, (.load 150 (.tmp 22)), 150, none⟩,
          ⟨some 9, (.alloc 150), 0, none⟩,
          ⟨none, (.store 150 (.tmp 9) (.tmp 23)), 0, none⟩])
        (.seq (.rgn [] [⟨some 24, (.fieldAddr 150 (.tmp 9) 0), 0, none⟩,
          ⟨some 25, (.load 9 (.tmp 24)), 9, none⟩,
          ⟨some 26, (.fieldAddr 86 (.tmp 3) 0), 0, none⟩,
          ⟨some 27, (.load 9 (.tmp 26)), 9, none⟩,
          ⟨some 28, (.binOp .eql 9 (.tmp 25) (.tmp 27) 9), 4, none⟩,
          ⟨some 29, (.move (.tmp 28)), 4, none⟩,
          ⟨some 30, (.fieldAddr 86 (.tmp 3) 2), 0, some (some 29, true)⟩,
          ⟨some 31, (.load 3 (.tmp 30)), 3, some (some 29, true)⟩,
          ⟨some 32, (.fieldAddr 150 (.tmp 9) 1), 0, some (some 29, true)⟩,
          ⟨some 33, (.load 30 (.tmp 32)), 30, some (some 29, true)⟩,
          ⟨some 34, (.call { callee := (.builtin .len), args := #[(.tmp 33)], argTypes := #[30] }), 3, some (some 29, true)⟩,
          ⟨some 35, (.binOp .sub 3 (.tmp 34) (.const (.int .i64 1)) 3), 3, some (some 29, true)⟩,
          ⟨some 36, (.call { callee := (.value (.func 82)), args := #[(.tmp 31), (.const (.int .i64 0)), (.tmp 35)], argTypes := #[3, 3, 3] }), 4, some (some 29, true)⟩,
          ⟨some 37, (.pick (.tmp 29) (.tmp 36) (.const (.bool false))), 4, none⟩,
          ⟨some 10, (.assign (.tmp 37)), 4, none⟩])
        (.seq (.rgn [] [⟨some 11, (.assign (.const (.int .i64 0))), 3, none⟩])
        (.seq (.seq (.rgn [] [⟨some 38, (.fieldAddr 86 (.tmp 3) 1), 0, none⟩,
          ⟨some 39, (.load 30 (.tmp 38)), 30, none⟩,
          ⟨some 40, (.call { callee := (.builtin .len), args := #[(.tmp 39)], argTypes := #[30] }), 3, none⟩,
          ⟨some 41, (.move (.const (.int .i64 0))), 3, none⟩])
        (.blk 2
          (.loop []
            (.seq (.rgn [] [⟨some 42, (.binOp .lss 3 (.tmp 41) (.tmp 40) 3), 0, none⟩])
            (.seq (.cond (.tmp 42)
              .skip
              (.exit 2))
            (.seq (.blk 3
              (.seq (.rgn [] [⟨some 43, (.indexAddr 30 (.tmp 39) (.tmp 41)), 0, none⟩,
                ⟨some 44, (.load 3 (.tmp 43)), 3, none⟩,
                ⟨some 13, (.assign (.tmp 44)), 3, none⟩])
              (.seq (.rgn [] [⟨some 45, (.move (.tmp 13)), 3, none⟩,
                ⟨some 46, (.fieldAddr 150 (.tmp 9) 1), 0, none⟩,
                ⟨some 47, (.load 30 (.tmp 46)), 30, none⟩,
                ⟨some 48, (.call { callee := (.builtin .len), args := #[(.tmp 47)], argTypes := #[30] }), 3, none⟩,
                ⟨some 49, (.binOp .sub 3 (.tmp 48) (.const (.int .i64 1)) 3), 3, none⟩,
                ⟨some 50, (.call { callee := (.value (.func 82)), args := #[(.tmp 45), (.const (.int .i64 0)), (.tmp 49)], argTypes := #[3, 3, 3] }), 4, none⟩,
                ⟨some 51, (.unOp .not 4 (.tmp 50)), 4, none⟩])
              (.cond (.tmp 51)
                (.rgn [] [⟨some 10, (.assign (.const (.bool false))), 4, none⟩])
                (.rgn [] [⟨some 52, (.move (.tmp 11)), 3, none⟩,
                  ⟨some 53, (.fieldAddr 150 (.tmp 9) 1), 0, none⟩,
                  ⟨some 54, (.load 30 (.tmp 53)), 30, none⟩,
                  ⟨some 55, (.move (.tmp 13)), 3, none⟩,
                  ⟨some 56, (.indexAddr 30 (.tmp 54) (.tmp 55)), 0, none⟩,
                  ⟨some 57, (.load 3 (.tmp 56)), 3, none⟩,
                  ⟨some 58, (.convert 3 151 (.tmp 57)), 151, none⟩,
                  ⟨some 59, (.binOp .shl 3 (.const (.int .i64 1)) (.tmp 58) 151), 3, none⟩,
                  ⟨some 60, (.binOp .or 3 (.tmp 52) (.tmp 59) 3), 3, none⟩,
                  ⟨some 11, (.assign (.tmp 60)), 3, none⟩])))))
            (.rgn [] [⟨some 61, (.binOp .add 3 (.tmp 41) (.const (.int .i64 1)) 3), 3, none⟩,
              ⟨some 41, (.move (.tmp 61)), 3, none⟩])))))))
        (.seq (.rgn [] [⟨some 62, (.move (.tmp 10)), 4, none⟩])
        (.cond (.tmp 62)
          (.seq (.rgn [63] [⟨some 63, (.move (.tmp 6)), 30, none⟩,
            ⟨some 64, (.move (.tmp 11)), 3, none⟩,
            ⟨some 65, (.buildSlice 30 1 #[(0, (.tmp 64))]), 30, none⟩,
            ⟨some 66, (.call { callee := (.builtin .append), args := #[(.tmp 63), (.tmp 65)], argTypes := #[30, 30] }), 30, none⟩,
            ⟨some 6, (.assign (.tmp 66)), 30, none⟩])
          (.rgn [67] [⟨some 67, (.move (.tmp 7)), 30, none⟩,
            ⟨some 68, (.fieldAddr 150 (.tmp 9) 1), 0, none⟩,
            ⟨some 69, (.load 30 (.tmp 68)), 30, none⟩,
            ⟨some 70, (.fieldAddr 86 (.tmp 3) 2), 0, none⟩,
            ⟨some 71, (.load 3 (.tmp 70)), 3, none⟩,
            ⟨some 72, (.indexAddr 30 (.tmp 69) (.tmp 71)), 0, none⟩,
            ⟨some 73, (.load 3 (.tmp 72)), 3, none⟩,
            ⟨some 74, (.buildSlice 30 1 #[(0, (.tmp 73))]), 30, none⟩,
            ⟨some 75, (.call { callee := (.builtin .append), args := #[(.tmp 67), (.tmp 74)], argTypes := #[30, 30] }), 30, none⟩,
            ⟨some 7, (.assign (.tmp 75)), 30, none⟩]))
          (.seq (.rgn [76] [⟨some 76, (.move (.tmp 6)), 30, none⟩,
            ⟨some 77, (.buildSlice 30 1 #[(0, (.const (.int .i64 0)))]), 30, none⟩,
            ⟨some 78, (.call { callee := (.builtin .append), args := #[(.tmp 76), (.tmp 77)], argTypes := #[30, 30] }), 30, none⟩,
            ⟨some 6, (.assign (.tmp 78)), 30, none⟩])
          (.rgn [79] [⟨some 79, (.move (.tmp 7)), 30, none⟩,
            ⟨some 80, (.buildSlice 30 1 #[(0, (.const (.int .i64 (-1))))]), 30, none⟩,
            ⟨some 81, (.call { callee := (.builtin .append), args := #[(.tmp 79), (.tmp 80)], argTypes := #[30, 30] }), 30, none⟩,
            ⟨some 7, (.assign (.tmp 81)), 30, none⟩])))))))))
      (.rgn [] [⟨some 82, (.binOp .add 3 (.tmp 20) (.const (.int .i64 1)) 3), 3, none⟩,
        ⟨some 20, (.move (.tmp 82)), 3, none⟩])))))))
  (.seq (.rgn [83, 84] [⟨some 83, (.move (.tmp 6)), 30, none⟩,
    ⟨some 84, (.move (.tmp 7)), 30, none⟩,
    ⟨some 4, (.assign (.tmp 83)), 30, none⟩,
    ⟨some 5, (.assign (.tmp 84)), 30, none⟩])
  .ret)))))
theorem lit53 : Lit Try.prog 53 85 [2, 3, 9] [.tmp 4, .tmp 5] c53 := ⟨⟨Try.f53, _, Try.func53, rfl, by kernel_rfl, rfl, rfl, by kernel_rfl, by kernel_rfl⟩, by decide, by kernel_rfl⟩
/-- laws.eqFunctionalDependency -/
def c54 : LC :=
  (.seq (.rgn [] [⟨some 2, (.box 86 (.tmp 0)), 0, none⟩,
    ⟨some 3, (.box 86 (.tmp 1)), 0, none⟩,
    ⟨some 4, (.assign (.const (.bool false))), 4, none⟩])
  (.seq (.seq (.rgn [] [⟨some 5, (.fieldAddr 86 (.tmp 2) 0), 0, none⟩,
    ⟨some 6, (.load 9 (.tmp 5)), 9, none⟩,
    ⟨some 7, (.fieldAddr 86 (.tmp 3) 0), 0, none⟩,
    ⟨some 8, (.load 9 (.tmp 7)), 9, none⟩,
    ⟨some 9, (.binOp .neq 9 (.tmp 6) (.tmp 8) 9), 4, none⟩])
  (.cond (.tmp 9)
    (.seq (.rgn [] [⟨some 4, (.assign (.const (.bool false))), 4, none⟩])
    .ret)
    .skip))
  (.seq (.seq (.rgn [] [⟨some 10, (.fieldAddr 86 (.tmp 2) 1), 0, none⟩,
    ⟨some 11, (.load 30 (.tmp 10)), 30, none⟩,
    ⟨some 12, (.fieldAddr 86 (.tmp 3) 1), 0, none⟩,
    ⟨some 13, (.load 30 (.tmp 12)), 30, none⟩,
    ⟨some 14, (.call { callee := (.value (.func 35)), args := #[(.tmp 11), (.tmp 13)], argTypes := #[30, 30] }), 4, none⟩,
    ⟨some 15, (.unOp .not 4 (.tmp 14)), 4, none⟩])
  (.cond (.tmp 15)
    (.seq (.rgn [] [⟨some 4, (.assign (.const (.bool false))), 4, none⟩])
    .ret)
    .skip))
  (.seq (.seq (.rgn [] [⟨some 16, (.fieldAddr 86 (.tmp 2) 2), 0, none⟩,
    ⟨some 17, (.load 3 (.tmp 16)), 3, none⟩,
    ⟨some 18, (.fieldAddr 86 (.tmp 3) 2), 0, none⟩,
    ⟨some 19, (.load 3 (.tmp 18)), 3, none⟩,
    ⟨some 20, (.binOp .neq 3 (.tmp 17) (.tmp 19) 3), 4, none⟩])
  (.cond (.tmp 20)
    (.seq (.rgn [] [⟨some 4, (.assign (.const (.bool false))), 4, none⟩])
    .ret)
    .skip))
  (.seq (.rgn [] [⟨some 4, (.assign (.const (.bool true))), 4, none⟩])
  .ret)))))
theorem lit54 : Lit Try.prog 54 21 [2, 3] [.tmp 4] c54 := ⟨⟨Try.f54, _, Try.func54, rfl, by kernel_rfl, rfl, rfl, by kernel_rfl, by kernel_rfl⟩, by decide, by kernel_rfl⟩
/-- laws.markQuery -/
def c55 : LC :=
  (.seq (.rgn [] [⟨some 2, (.box 56 (.tmp 0)), 0, none⟩,
    ⟨some 4, (.assign (.const (.int .i64 0))), 3, none⟩])
  (.seq (.rgn [] [⟨some 5, (.fieldAddr 56 (.tmp 2) 1), 0, none⟩,
    ⟨some 6, (.load 54 (.tmp 5)), 54, none⟩,
    ⟨some 7, (.move (.tmp 1)), 3, none⟩,
    ⟨some 8, (.call { callee := (.value (.func 126)), args := #[(.tmp 6), (.tmp 7)], argTypes := #[54, 3] }), 3, none⟩,
    ⟨some 1, (.assign (.tmp 8)), 3, none⟩])
  (.seq (.rgn [] [⟨some 9, (.fieldAddr 56 (.tmp 2) 2), 0, none⟩,
    ⟨some 10, (.load 30 (.tmp 9)), 30, none⟩,
    ⟨some 11, (.move (.tmp 1)), 3, none⟩,
    ⟨some 12, (.call { callee := (.value (.func 57)), args := #[(.tmp 10), (.tmp 11)], argTypes := #[30, 3] }), 3, none⟩,
    ⟨some 1, (.assign (.tmp 12)), 3, none⟩])
  (.seq (.rgn [] [⟨some 13, (.move (.tmp 1)), 3, none⟩,
    ⟨some 4, (.assign (.tmp 13)), 3, none⟩])
  .ret))))
theorem lit55 : Lit Try.prog 55 14 [2] [.tmp 4] c55 := ⟨⟨Try.f55, _, Try.func55, rfl, by kernel_rfl, rfl, rfl, by kernel_rfl, by kernel_rfl⟩, by decide, by kernel_rfl⟩
/-- laws.markIntS -/
def c57 : LC :=
  (.seq (.rgn [] [⟨some 4, (.assign (.const (.int .i64 0))), 3, none⟩])
  (.seq (.seq (.rgn [] [⟨some 5, (.assign (.const (.int .i64 0))), 3, none⟩])
  (.blk 0
    (.loop []
      (.seq (.seq (.rgn [] [⟨some 6, (.move (.tmp 5)), 3, none⟩,
        ⟨some 7, (.move (.tmp 0)), 30, none⟩,
        ⟨some 8, (.call { callee := (.builtin .len), args := #[(.tmp 7)], argTypes := #[30] }), 3, none⟩,
        ⟨some 9, (.binOp .lss 3 (.tmp 6) (.tmp 8) 3), 4, none⟩])
      (.cond (.tmp 9)
        .skip
        (.exit 0)))
      (.seq (.blk 1
        (.seq (.rgn [] [⟨some 12, (.move (.tmp 0)), 30, none⟩,
          ⟨some 13, (.move (.tmp 5)), 3, none⟩,
          ⟨some 14, (.move (.tmp 1)), 3, none⟩,
          ⟨some 15, (.indexAddr 30 (.tmp 12) (.tmp 13)), 0, none⟩,
          ⟨none, (.store 3 (.tmp 15) (.tmp 14)), 0, none⟩])
        (.rgn [] [⟨some 16, (.move (.tmp 1)), 3, none⟩,
          ⟨some 17, (.binOp .add 3 (.tmp 16) (.const (.int .i64 1)) 3), 3, none⟩,
          ⟨some 1, (.assign (.tmp 17)), 3, none⟩])))
      (.rgn [] [⟨some 10, (.move (.tmp 5)), 3, none⟩,
        ⟨some 11, (.binOp .add 3 (.tmp 10) (.const (.int .i64 1)) 3), 3, none⟩,
        ⟨some 5, (.assign (.tmp 11)), 3, none⟩]))))))
  (.seq (.rgn [] [⟨some 18, (.move (.tmp 1)), 3, none⟩,
    ⟨some 4, (.assign (.tmp 18)), 3, none⟩])
  .ret)))
theorem lit57 : Lit Try.prog 57 19 [] [.tmp 4] c57 := ⟨⟨Try.f57, _, Try.func57, rfl, by kernel_rfl, rfl, rfl, by kernel_rfl, by kernel_rfl⟩, by decide, by kernel_rfl⟩
/-- laws.heldIntS -/
def c58 : LC :=
  (.seq (.rgn [] [⟨some 4, (.assign (.const (.int .i64 0))), 3, none⟩])
  (.seq (.seq (.rgn [] [⟨some 5, (.assign (.const (.int .i64 0))), 3, none⟩])
  (.blk 0
    (.loop []
      (.seq (.seq (.rgn [] [⟨some 6, (.move (.tmp 5)), 3, none⟩,
        ⟨some 7, (.move (.tmp 0)), 30, none⟩,
        ⟨some 8, (.call { callee := (.builtin .len), args := #[(.tmp 7)], argTypes := #[30] }), 3, none⟩,
        ⟨some 9, (.binOp .lss 3 (.tmp 6) (.tmp 8) 3), 4, none⟩])
      (.cond (.tmp 9)
        .skip
        (.exit 0)))
      (.seq (.blk 1
        (.seq (.seq (.rgn [] [⟨some 12, (.move (.tmp 0)), 30, none⟩,
          ⟨some 13, (.move (.tmp 5)), 3, none⟩,
          ⟨some 14, (.indexAddr 30 (.tmp 12) (.tmp 13)), 0, none⟩,
          ⟨some 15, (.load 3 (.tmp 14)), 3, none⟩,
          ⟨some 16, (.move (.tmp 1)), 3, none⟩,
          ⟨some 17, (.binOp .neq 3 (.tmp 15) (.tmp 16) 3), 4, none⟩])
        (.cond (.tmp 17)
          (.seq (.rgn [] [⟨some 4, (.assign (.const (.int .i64 (-1)))), 3, none⟩])
          .ret)
          .skip))
        (.rgn [] [⟨some 18, (.move (.tmp 1)), 3, none⟩,
          ⟨some 19, (.binOp .add 3 (.tmp 18) (.const (.int .i64 1)) 3), 3, none⟩,
          ⟨some 1, (.assign (.tmp 19)), 3, none⟩])))
      (.rgn [] [⟨some 10, (.move (.tmp 5)), 3, none⟩,
        ⟨some 11, (.binOp .add 3 (.tmp 10) (.const (.int .i64 1)) 3), 3, none⟩,
        ⟨some 5, (.assign (.tmp 11)), 3, none⟩]))))))
  (.seq (.rgn [] [⟨some 20, (.move (.tmp 1)), 3, none⟩,
    ⟨some 4, (.assign (.tmp 20)), 3, none⟩])
  .ret)))
theorem lit58 : Lit Try.prog 58 21 [] [.tmp 4] c58 := ⟨⟨Try.f58, _, Try.func58, rfl, by kernel_rfl, rfl, rfl, by kernel_rfl, by kernel_rfl⟩, by decide, by kernel_rfl⟩
/-- laws.szFunctionalDependencyS -/
def c74 : LC :=
  (.seq (.rgn [] [⟨some 4, (.assign (.const (.int .i64 0))), 3, none⟩])
  (.seq (.rgn [] [⟨some 6, (.move (.tmp 1)), 3, none⟩,
    ⟨some 7, (.move (.tmp 0)), 111, none⟩,
    ⟨some 8, (.call { callee := (.builtin .len), args := #[(.tmp 7)], argTypes := #[111] }), 3, none⟩,
    ⟨some 9, (.binOp .sub 3 (.tmp 6) (.tmp 8) 3), 3, none⟩,
    ⟨some 1, (.assign (.tmp 9)), 3, none⟩])
  (.seq (.seq (.rgn [] [⟨some 10, (.move (.tmp 1)), 3, none⟩,
    ⟨some 11, (.binOp .lss 3 (.tmp 10) (.const (.int .i64 0)) 3), 4, none⟩])
  (.cond (.tmp 11)
    (.seq (.rgn [] [⟨some 4, (.assign (.const (.int .i64 (-1)))), 3, none⟩])
    .ret)
    .skip))
  (.seq (.seq (.rgn [] [⟨some 5, (.assign (.const (.int .i64 0))), 3, none⟩])
  (.blk 0
    (.loop []
      (.seq (.seq (.rgn [] [⟨some 12, (.move (.tmp 5)), 3, none⟩,
        ⟨some 13, (.move (.tmp 0)), 111, none⟩,
        ⟨some 14, (.call { callee := (.builtin .len), args := #[(.tmp 13)], argTypes := #[111] }), 3, none⟩,
        ⟨some 15, (.binOp .lss 3 (.tmp 12) (.tmp 14) 3), 4, none⟩])
      (.cond (.tmp 15)
        .skip
        (.exit 0)))
      (.seq (.blk 1
        (.seq (.rgn [] [⟨some 18, (.move (.tmp 0)), 111, none⟩,
          ⟨some 19, (.move (.tmp 5)), 3, none⟩,
          ⟨some 20, (.indexAddr 111 (.tmp 18) (.tmp 19)), 0, none⟩,
          ⟨some 21, (.load 83 (.tmp 20)), 83, none⟩,
          ⟨some 22, (.move (.tmp 1)), 3, none⟩,
          ⟨some 23, (.call { callee := (.value (.func 50)), args := #[(.tmp 21), (.tmp 22)], argTypes := #[83, 3] }), 3, none⟩,
          ⟨some 1, (.assign (.tmp 23)), 3, none⟩])
        (.seq (.rgn [] [⟨some 24, (.move (.tmp 1)), 3, none⟩,
          ⟨some 25, (.binOp .lss 3 (.tmp 24) (.const (.int .i64 0)) 3), 4, none⟩])
        (.cond (.tmp 25)
          (.seq (.rgn [] [⟨some 4, (.assign (.const (.int .i64 (-1)))), 3, none⟩])
          .ret)
          .skip))))
      (.rgn [] [⟨some 16, (.move (.tmp 5)), 3, none⟩,
        ⟨some 17, (.binOp .add 3 (.tmp 16) (.const (.int .i64 1)) 3), 3, none⟩,
        ⟨some 5, (.assign (.tmp 17)), 3, none⟩]))))))
  (.seq (.rgn [] [⟨some 26, (.move (.tmp 1)), 3, none⟩,
    ⟨some 4, (.assign (.tmp 26)), 3, none⟩])
  .ret)))))
theorem lit74 : Lit Try.prog 74 27 [] [.tmp 4] c74 := ⟨⟨Try.f74, _, Try.func74, rfl, by kernel_rfl, rfl, rfl, by kernel_rfl, by kernel_rfl⟩, by decide, by kernel_rfl⟩
/-- spec.FDClosure -/
def c75 : LC :=
  (.seq (.rgn [] [⟨some 3, (.box 56 (.tmp 0)), 0, none⟩,
    ⟨some 6, (.assign (.const (.slice none 0 0))), 30, none⟩])
  (.seq (.rgn [] [⟨some 16, (.buildSlice 30 0 #[]), 30, none⟩,
    ⟨some 7, (.assign (.tmp 16)), 30, none⟩])
  (.seq (.seq (.rgn [] [⟨some 17, (.load 56 (.tmp 3)), 56, none⟩,
    ⟨some 18, (.call { callee := (.value (.func 124)), args := #[(.tmp 17)], argTypes := #[56] }), 4, none⟩,
    ⟨some 19, (.unOp .not 4 (.tmp 18)), 4, none⟩])
  (.cond (.tmp 19)
    (.seq (.rgn [20] [⟨some 20, (.move (.tmp 7)), 30, none⟩,
      ⟨some 6, (.assign (.tmp 20)), 30, none⟩])
    .ret)
    .skip))
  (.seq (.rgn [] [⟨some 8, (.assign (.const (.int .i64 0))), 3, none⟩])
  (.seq (.seq (.rgn [] [⟨some 9, (.assign (.const (.int .i64 0))), 3, none⟩])
  (.blk 0
    (.loop []
      (.seq (.seq (.rgn [] [⟨some 21, (.move (.tmp 9)), 3, none⟩,
        ⟨some 22, (.move (.tmp 2)), 30, none⟩,
        ⟨some 23, (.call { callee := (.builtin .len), args := #[(.tmp 22)], argTypes := #[30] }), 3, none⟩,
        ⟨some 24, (.binOp .lss 3 (.tmp 21) (.tmp 23) 3), 4, none⟩])
      (.cond (.tmp 24)
        .skip
        (.exit 0)))
      (.seq (.blk 1
        (.seq (.drw [] [([2], [27]), ([9], [28]), ([27, 28], [29]), ([29], [30]), ([3], [31]), ([3, 31], [32]), ([32], [33]), ([30, 33], [34])] [[], [], [0, 1], [2], [], [4], [5], [3, 6]] [⟨some 27, (.move (.tmp 2)), 30, none⟩,
          ⟨some 28, (.move (.tmp 9)), 3, none⟩,
          ⟨some 29, (.indexAddr 30 (.tmp 27) (.tmp 28)), 0, none⟩,
          ⟨some 30, (.load 3 (.tmp 29)), 3, none⟩,
          ⟨some 31, (.fieldAddr 56 (.tmp 3) 0), 0, none⟩,
          ⟨some 32, (.load 3 (.tmp 31)), 3, none⟩,
          ⟨some 33, (.binOp .sub 3 (.tmp 32) (.const (.int .i64 1)) 3), 3, none⟩,
          ⟨some 34, (.call { callee := (.value (.func 80)), args := #[(.tmp 30), (.const (.int .i64 0)), (.tmp 33)], argTypes := #[3, 3, 3] }), 4, none⟩])
        (.cond (.tmp 34)
          (.rgn [] [⟨some 35, (.move (.tmp 8)), 3, none⟩,
            ⟨some 36, (.move (.tmp 2)), 30, none⟩,
            ⟨some 37, (.move (.tmp 9)), 3, none⟩,
            ⟨some 38, (.indexAddr 30 (.tmp 36) (.tmp 37)), 0, none⟩,
            ⟨some 39, (.load 3 (.tmp 38)), 3, none⟩,
            ⟨some 40, (.binOp .shl 3 (.const (.int .i64 1)) (.tmp 39) 3), 3, none⟩,
            ⟨some 41, (.binOp .or 3 (.tmp 35) (.tmp 40) 3), 3, none⟩,
            ⟨some 8, (.assign (.tmp 41)), 3, none⟩])
          .skip)))
      (.rgn [] [⟨some 25, (.move (.tmp 9)), 3, none⟩,
        ⟨some 26, (.binOp .add 3 (.tmp 25) (.const (.int .i64 1)) 3), 3, none⟩,
        ⟨some 9, (.assign (.tmp 26)), 3, none⟩]))))))
  (.seq (.seq (.rgn [] [⟨some 10, (.assign (.const (.int .i64 0))), 3, none⟩])
  (.blk 2
    (.loop []
      (.seq (.seq (.rgn [] [⟨some 42, (.move (.tmp 10)), 3, none⟩,
        ⟨some 43, (.fieldAddr 56 (.tmp 3) 0), 0, none⟩,
        ⟨some 44, (.load 3 (.tmp 43)), 3, none⟩,
        ⟨some 45, (.binOp .lss 3 (.tmp 42) (.tmp 44) 3), 4, none⟩])
      (.cond (.tmp 45)
        .skip
        (.exit 2)))
      (.seq (.blk 3
        (.seq (.rgn [] [⟨some 11, (.assign (.const (.int .i64 0))), 3, none⟩])
        (.blk 4
          (.loop []
            (.seq (.seq (.rgn [] [⟨some 48, (.move (.tmp 11)), 3, none⟩,
              ⟨some 49, (.move (.tmp 1)), 114, none⟩,
              ⟨some 50, (.call { callee := (.builtin .len), args := #[(.tmp 49)], argTypes := #[114] }), 3, none⟩,
              ⟨some 51, (.binOp .lss 3 (.tmp 48) (.tmp 50) 3), 4, none⟩])
            (.cond (.tmp 51)
              .skip
              (.exit 4)))
            (.seq (.blk 5
              (.seq (.drw [54] [([3], [55]), ([1], [56]), ([11], [57]), ([56, 57], [58]), ([58], [59]), ([55, 59], [60]), ([60], [54, 60]), ([54], [54, 61]), ([54], [54, 62]), ([61], [12, 61]), ([62], [13, 62])] [[], [], [], [1, 2], [3], [0, 4], [5], [6], [6], [7, 5, 0, 1, 2, 3, 4, 5, 6, 7], [8, 9, 0, 1, 2, 3, 4, 5, 6, 7, 8, 9]] [⟨some 55, (.load 56 (.tmp 3)), 56, none⟩,
                ⟨some 56, (.move (.tmp 1)), 114, none⟩,
                ⟨some 57, (.move (.tmp 11)), 3, none⟩,
                ⟨some 58, (.indexAddr 114 (.tmp 56) (.tmp 57)), 0, none⟩,
                ⟨some 59, (.load 86 (.tmp 58)), 86, none⟩,
                ⟨some 60, (.call { callee := (.value (.func 51)), args := #[(.tmp 55), (.tmp 59)], argTypes := #[56, 86] }), 66, none⟩,
                ⟨some 54, (.move (.tmp 60)), 66, none⟩,
                ⟨some 61, (.extract (.tmp 54) 0), 30, none⟩,
                ⟨some 62, (.extract (.tmp 54) 1), 30, none⟩,
                ⟨some 12, (.assign (.tmp 61)), 30, none⟩,
                ⟨some 13, (.assign (.tmp 62)), 30, none⟩])
              (.seq (.rgn [] [⟨some 14, (.assign (.const (.int .i64 0))), 3, none⟩])
              (.blk 6
                (.loop []
                  (.seq (.seq (.rgn [] [⟨some 63, (.move (.tmp 14)), 3, none⟩,
                    ⟨some 64, (.move (.tmp 12)), 30, none⟩,
                    ⟨some 65, (.call { callee := (.builtin .len), args := #[(.tmp 64)], argTypes := #[30] }), 3, none⟩,
                    ⟨some 66, (.binOp .lss 3 (.tmp 63) (.tmp 65) 3), 4, none⟩])
                  (.cond (.tmp 66)
                    .skip
                    (.exit 6)))
                  (.seq (.blk 7
                    (.seq (.rgn [] [⟨some 69, (.move (.tmp 13)), 30, none⟩,
                      ⟨some 70, (.move (.tmp 14)), 3, none⟩,
                      ⟨some 71, (.indexAddr 30 (.tmp 69) (.tmp 70)), 0, none⟩,
                      ⟨some 72, (.load 3 (.tmp 71)), 3, none⟩,
                      ⟨some 73, (.binOp .geq 3 (.tmp 72) (.const (.int .i64 0)) 3), 4, none⟩,
                      ⟨some 74, (.move (.tmp 73)), 4, none⟩,
                      ⟨some 75, (.move (.tmp 12)), 30, some (some 74, true)⟩,
                      ⟨some 76, (.move (.tmp 14)), 3, some (some 74, true)⟩,
                      ⟨some 77, (.indexAddr 30 (.tmp 75) (.tmp 76)), 0, some (some 74, true)⟩,
                      ⟨some 78, (.load 3 (.tmp 77)), 3, some (some 74, true)⟩,
                      ⟨some 79, (.move (.tmp 8)), 3, some (some 74, true)⟩,
                      ⟨some 80, (.binOp .andNot 3 (.tmp 78) (.tmp 79) 3), 3, some (some 74, true)⟩,
                      ⟨some 81, (.binOp .eql 3 (.tmp 80) (.const (.int .i64 0)) 3), 4, some (some 74, true)⟩,
                      ⟨some 82, (.pick (.tmp 74) (.tmp 81) (.const (.bool false))), 4, none⟩])
                    (.cond (.tmp 82)
                      (.rgn [] [⟨some 83, (.move (.tmp 8)), 3, none⟩,
                        ⟨some 84, (.move (.tmp 13)), 30, none⟩,
                        ⟨some 85, (.move (.tmp 14)), 3, none⟩,
                        ⟨some 86, (.indexAddr 30 (.tmp 84) (.tmp 85)), 0, none⟩,
                        ⟨some 87, (.load 3 (.tmp 86)), 3, none⟩,
                        ⟨some 88, (.binOp .shl 3 (.const (.int .i64 1)) (.tmp 87) 3), 3, none⟩,
                        ⟨some 89, (.binOp .or 3 (.tmp 83) (.tmp 88) 3), 3, none⟩,
                        ⟨some 8, (.assign (.tmp 89)), 3, none⟩])
                      .skip)))
                  (.rgn [] [⟨some 67, (.move (.tmp 14)), 3, none⟩,
                    ⟨some 68, (.binOp .add 3 (.tmp 67) (.const (.int .i64 1)) 3), 3, none⟩,
                    ⟨some 14, (.assign (.tmp 68)), 3, none⟩]))))))))
            (.rgn [] [⟨some 52, (.move (.tmp 11)), 3, none⟩,
              ⟨some 53, (.binOp .add 3 (.tmp 52) (.const (.int .i64 1)) 3), 3, none⟩,
              ⟨some 11, (.assign (.tmp 53)), 3, none⟩])))))))
      (.rgn [] [⟨some 46, (.move (.tmp 10)), 3, none⟩,
        ⟨some 47, (.binOp .add 3 (.tmp 46) (.const (.int .i64 1)) 3), 3, none⟩,
        ⟨some 10, (.assign (.tmp 47)), 3, none⟩]))))))
  (.seq (.seq (.rgn [] [⟨some 15, (.assign (.const (.int .i64 0))), 3, none⟩])
  (.blk 8
    (.loop []
      (.seq (.seq (.rgn [] [⟨some 90, (.move (.tmp 15)), 3, none⟩,
        ⟨some 91, (.fieldAddr 56 (.tmp 3) 0), 0, none⟩,
        ⟨some 92, (.load 3 (.tmp 91)), 3, none⟩,
        ⟨some 93, (.binOp .lss 3 (.tmp 90) (.tmp 92) 3), 4, none⟩])
      (.cond (.tmp 93)
        .skip
        (.exit 8)))
      (.seq (.blk 9
        (.seq (.rgn [] [⟨some 96, (.move (.tmp 8)), 3, none⟩,
          ⟨some 97, (.move (.tmp 15)), 3, none⟩,
          ⟨some 98, (.binOp .shr 3 (.tmp 96) (.tmp 97) 3), 3, none⟩,
          ⟨some 99, (.binOp .and 3 (.tmp 98) (.const (.int .i64 1)) 3), 3, none⟩,
          ⟨some 100, (.binOp .eql 3 (.tmp 99) (.const (.int .i64 1)) 3), 4, none⟩])
        (.cond (.tmp 100)
          (.rgn [101] [⟨some 101, (.move (.tmp 7)), 30, none⟩,
            ⟨some 102, (.move (.tmp 15)), 3, none⟩,
            ⟨some 103, (.buildSlice 30 1 #[(0, (.tmp 102))]), 30, none⟩,
            ⟨some 104, (.call { callee := (.builtin .append), args := #[(.tmp 101), (.tmp 103)], argTypes := #[30, 30] }), 30, none⟩,
            ⟨some 7, (.assign (.tmp 104)), 30, none⟩])
          .skip)))
      (.rgn [] [⟨some 94, (.move (.tmp 15)), 3, none⟩,
        ⟨some 95, (.binOp .add 3 (.tmp 94) (.const (.int .i64 1)) 3), 3, none⟩,
        ⟨some 15, (.assign (.tmp 95)), 3, none⟩]))))))
  (.seq (.rgn [105] [⟨some 105, (.move (.tmp 7)), 30, none⟩,
    ⟨some 6, (.assign (.tmp 105)), 30, none⟩])
  .ret))))))))
theorem lit75 : Lit Try.prog 75 106 [3] [.tmp 6] c75 := ⟨⟨Try.f75, _, Try.func75, rfl, by kernel_rfl, rfl, rfl, by kernel_rfl, by kernel_rfl⟩, by decide, by kernel_rfl⟩
/-- laws.toFunctionalDependencyS -/
def c76 : LC :=
  (.seq (.rgn [] [⟨some 2, (.assign (.const (.slice none 0 0))), 114, none⟩])
  (.seq (.rgn [3, 7] [⟨some 5, (.move (.tmp 0)), 111, none⟩,
    ⟨some 6, (.call { callee := (.builtin .len), args := #[(.tmp 5)], argTypes := #[111] }), 3, none⟩,
    ⟨some 7, (.makeSlice 114 (.tmp 6) (.tmp 6)), 114, none⟩,
    ⟨some 3, (.assign (.tmp 7)), 114, none⟩])
  (.seq (.seq (.rgn [] [⟨some 4, (.assign (.const (.int .i64 0))), 3, none⟩])
  (.blk 0
    (.loop []
      (.seq (.seq (.rgn [] [⟨some 8, (.move (.tmp 4)), 3, none⟩,
        ⟨some 9, (.move (.tmp 0)), 111, none⟩,
        ⟨some 10, (.call { callee := (.builtin .len), args := #[(.tmp 9)], argTypes := #[111] }), 3, none⟩,
        ⟨some 11, (.binOp .lss 3 (.tmp 8) (.tmp 10) 3), 4, none⟩])
      (.cond (.tmp 11)
        .skip
        (.exit 0)))
      (.seq (.blk 1
        (.rgn [] [⟨some 14, (.move (.tmp 3)), 114, none⟩,
          ⟨some 15, (.move (.tmp 4)), 3, none⟩,
          ⟨some 16, (.move (.tmp 0)), 111, none⟩,
          ⟨some 17, (.move (.tmp 4)), 3, none⟩,
          ⟨some 18, (.indexAddr 111 (.tmp 16) (.tmp 17)), 0, none⟩,
          ⟨some 19, (.load 83 (.tmp 18)), 83, none⟩,
          ⟨some 20, (.call { callee := (.value (.func 52)), args := #[(.tmp 19)], argTypes := #[83] }), 86, none⟩,
          ⟨some 21, (.indexAddr 114 (.tmp 14) (.tmp 15)), 0, none⟩,
          ⟨none, (.store 86 (.tmp 21) (.tmp 20)), 0, none⟩]))
      (.rgn [] [⟨some 12, (.move (.tmp 4)), 3, none⟩,
        ⟨some 13, (.binOp .add 3 (.tmp 12) (.const (.int .i64 1)) 3), 3, none⟩,
        ⟨some 4, (.assign (.tmp 13)), 3, none⟩]))))))
  (.seq (.rgn [22] [⟨some 22, (.move (.tmp 3)), 114, none⟩,
    ⟨some 2, (.assign (.tmp 22)), 114, none⟩])
  .ret))))
theorem lit76 : Lit Try.prog 76 23 [3, 7] [.tmp 2] c76 := ⟨⟨Try.f76, _, Try.func76, rfl, by kernel_rfl, rfl, rfl, by kernel_rfl, by kernel_rfl⟩, by decide, by kernel_rfl⟩
/-- impl.FDClosure -/
def c77 : LC :=
  (.seq (.rgn [] [⟨some 3, (.box 56 (.tmp 0)), 0, none⟩,
    ⟨some 6, (.assign (.const (.slice none 0 0))), 30, none⟩])
  (.seq (.seq (.rgn [] [⟨some 19, (.load 56 (.tmp 3)), 56, none⟩,
    ⟨some 20, (.call { callee := (.value (.func 125)), args := #[(.tmp 19)], argTypes := #[56] }), 4, none⟩,
    ⟨some 21, (.unOp .not 4 (.tmp 20)), 4, none⟩])
  (.cond (.tmp 21)
    (.seq (.rgn [] [⟨some 6, (.assign (.const (.slice none 0 0))), 30, none⟩])
    .ret)
    .skip))
  (.seq (.rgn [] [⟨some 7, (.assign (.const (.int .i64 0))), 3, none⟩])
  (.seq (.seq (.rgn [] [⟨some 22, (.move (.tmp 2)), 30, none⟩,
    ⟨some 23, (.call { callee := (.builtin .len), args := #[(.tmp 22)], argTypes := #[30] }), 3, none⟩,
    ⟨some 24, (.move (.const (.int .i64 0))), 3, none⟩])
  (.blk 0
    (.loop []
      (.seq (.rgn [] [⟨some 25, (.binOp .lss 3 (.tmp 24) (.tmp 23) 3), 0, none⟩])
      (.seq (.cond (.tmp 25)
        .skip
        (.exit 0))
      (.seq (.blk 1
        (.seq (.rgn [] [⟨some 26, (.indexAddr 30 (.tmp 22) (.tmp 24)), 0, none⟩,
          ⟨some 27, (.load 3 (.tmp 26)), 3, none⟩,
          ⟨some 9, (.assign (.tmp 27)), 3, none⟩])
        (.seq (.rgn [] [⟨some 28, (.move (.tmp 9)), 3, none⟩,
          ⟨some 29, (.fieldAddr 56 (.tmp 3) 0), 0, none⟩,
          ⟨some 30, (.load 3 (.tmp 29)), 3, none⟩,
          ⟨some 31, (.binOp .sub 3 (.tmp 30) (.const (.int .i64 1)) 3), 3, none⟩,
          ⟨some 32, (.call { callee := (.value (.func 82)), args := #[(.tmp 28), (.const (.int .i64 0)), (.tmp 31)], argTypes := #[3, 3, 3] }), 4, none⟩])
        (.cond (.tmp 32)
          (.rgn [] [⟨some 33, (.move (.tmp 7)), 3, none⟩,
            ⟨some 34, (.move (.tmp 9)), 3, none⟩,
            ⟨some 35, (.convert 3 151 (.tmp 34)), 151, none⟩,
            ⟨some 36, (.binOp .shl 3 (.const (.int .i64 1)) (.tmp 35) 151), 3, none⟩,
            ⟨some 37, (.binOp .or 3 (.tmp 33) (.tmp 36) 3), 3, none⟩,
            ⟨some 7, (.assign (.tmp 37)), 3, none⟩])
          .skip))))
      (.rgn [] [⟨some 38, (.binOp .add 3 (.tmp 24) (.const (.int .i64 1)) 3), 3, none⟩,
        ⟨some 24, (.move (.tmp 38)), 3, none⟩])))))))
  (.seq (.seq (.rgn [] [⟨some 10, (.assign (.const (.int .i64 0))), 3, none⟩])
  (.blk 2
    (.loop [12]
      (.seq (.seq (.rgn [] [⟨some 39, (.move (.tmp 10)), 3, none⟩,
        ⟨some 40, (.fieldAddr 56 (.tmp 3) 0), 0, none⟩,
        ⟨some 41, (.load 3 (.tmp 40)), 3, none⟩,
        ⟨some 42, (.binOp .lss 3 (.tmp 39) (.tmp 41) 3), 4, none⟩])
      (.cond (.tmp 42)
        .skip
        (.exit 2)))
      (.seq (.blk 3
        (.seq (.rgn [] [⟨some 45, (.move (.tmp 1)), 114, none⟩,
          ⟨some 46, (.call { callee := (.builtin .len), args := #[(.tmp 45)], argTypes := #[114] }), 3, none⟩,
          ⟨some 47, (.move (.const (.int .i64 0))), 3, none⟩])
        (.blk 4
          (.loop [12]
            (.seq (.rgn [] [⟨some 48, (.binOp .lss 3 (.tmp 47) (.tmp 46) 3), 0, none⟩])
            (.seq (.cond (.tmp 48)
              .skip
              (.exit 4))
            (.seq (.blk 5
              (.seq (.rgn [50] [⟨some 49, (.indexAddr 114 (.tmp 45) (.tmp 47)), 0, none⟩,
                ⟨some 50, (.load 86 (.tmp 49)), 86, none⟩,
                ⟨some 12, (.alloc 86), 0, none⟩,
                ⟨none, (.store 86 (.tmp 12) (.tmp 50)), 0, none⟩])
              (.seq (.rgn [51] [⟨some 52, (.load 56 (.tmp 3)), 56, none⟩,
                ⟨some 53, (.load 86 (.tmp 12)), 86, none⟩,
                ⟨some 54, (.call { callee := (.value (.func 53)), args := #[(.tmp 52), (.tmp 53)], argTypes := #[56, 86] }), 66, none⟩,
                ⟨some 51, (.move (.tmp 54)), 66, none⟩,
                ⟨some 55, (.extract (.tmp 51) 0), 30, none⟩,
                ⟨some 56, (.extract (.tmp 51) 1), 30, none⟩,
                ⟨some 13, (.assign (.tmp 55)), 30, none⟩,
                ⟨some 14, (.assign (.tmp 56)), 30, none⟩])
              (.seq (.rgn [] [⟨some 57, (.move (.tmp 13)), 30, none⟩,
                ⟨some 58, (.call { callee := (.builtin .len), args := #[(.tmp 57)], argTypes := #[30] }), 3, none⟩,
                ⟨some 59, (.move (.const (.int .i64 0))), 3, none⟩])
              (.blk 6
                (.loop []
                  (.seq (.rgn [] [⟨some 60, (.binOp .lss 3 (.tmp 59) (.tmp 58) 3), 0, none⟩])
                  (.seq (.cond (.tmp 60)
                    .skip
                    (.exit 6))
                  (.seq (.blk 7
                    (.seq (.rgn [] [⟨some 61, (.move (.tmp 59)), 3, none⟩,
                      ⟨some 62, (.indexAddr 30 (.tmp 57) (.tmp 59)), 0, none⟩,
                      ⟨some 63, (.load 3 (.tmp 62)), 3, none⟩,
                      ⟨some 15, (.assign (.tmp 61)), 3, none⟩,
                      ⟨some 16, (.assign (.tmp 63)), 3, none⟩])
                    (.seq (.rgn [] [⟨some 64, (.move (.tmp 14)), 30, none⟩,
                      ⟨some 65, (.move (.tmp 15)), 3, none⟩,
                      ⟨some 66, (.indexAddr 30 (.tmp 64) (.tmp 65)), 0, none⟩,
                      ⟨some 67, (.load 3 (.tmp 66)), 3, none⟩,
                      ⟨some 68, (.binOp .geq 3 (.tmp 67) (.const (.int .i64 0)) 3), 4, none⟩,
                      ⟨some 69, (.move (.tmp 68)), 4, none⟩,
                      ⟨some 70, (.move (.tmp 16)), 3, some (some 69, true)⟩,
                      ⟨some 71, (.move (.tmp 7)), 3, some (some 69, true)⟩,
                      ⟨some 72, (.binOp .andNot 3 (.tmp 70) (.tmp 71) 3), 3, some (some 69, true)⟩,
                      ⟨some 73, (.binOp .eql 3 (.tmp 72) (.const (.int .i64 0)) 3), 4, some (some 69, true)⟩,
                      ⟨some 74, (.pick (.tmp 69) (.tmp 73) (.const (.bool false))), 4, none⟩])
                    (.cond (.tmp 74)
                      (.rgn [] [⟨some 75, (.move (.tmp 7)), 3, none⟩,
                        ⟨some 76, (.move (.tmp 14)), 30, none⟩,
                        ⟨some 77, (.move (.tmp 15)), 3, none⟩,
                        ⟨some 78, (.indexAddr 30 (.tmp 76) (.tmp 77)), 0, none⟩,
                        ⟨some 79, (.load 3 (.tmp 78)), 3, none⟩,
                        ⟨some 80, (.convert 3 151 (.tmp 79)), 151, none⟩,
                        ⟨some 81, (.binOp .shl 3 (.const (.int .i64 1)) (.tmp 80) 151), 3, none⟩,
                        ⟨some 82, (.binOp .or 3 (.tmp 75) (.tmp 81) 3), 3, none⟩,
                        ⟨some 7, (.assign (.tmp 82)), 3, none⟩])
                      .skip))))
                  (.rgn [] [⟨some 83, (.binOp .add 3 (.tmp 59) (.const (.int .i64 1)) 3), 3, none⟩,
                    ⟨some 59, (.move (.tmp 83)), 3, none⟩]))))))))))
            (.rgn [] [⟨some 84, (.binOp .add 3 (.tmp 47) (.const (.int .i64 1)) 3), 3, none⟩,
              ⟨some 47, (.move (.tmp 84)), 3, none⟩]))))))))
      (.rgn [] [⟨some 43, (.move (.tmp 10)), 3, none⟩,
        ⟨some 44, (.binOp .add 3 (.tmp 43) (.const (.int .i64 1)) 3), 3, none⟩,
        ⟨some 10, (.assign (.tmp 44)), 3, none⟩]))))))
  (.seq (.rgn [] [⟨some 17, (.assign (.const (.slice none 0 0))), 30, none⟩])
  (.seq (.seq (.rgn [] [⟨some 18, (.assign (.const (.int .i64 0))), 3, none⟩])
  (.blk 8
    (.loop []
      (.seq (.seq (.rgn [] [⟨some 85, (.move (.tmp 18)), 3, none⟩,
        ⟨some 86, (.fieldAddr 56 (.tmp 3) 0), 0, none⟩,
        ⟨some 87, (.load 3 (.tmp 86)), 3, none⟩,
        ⟨some 88, (.binOp .lss 3 (.tmp 85) (.tmp 87) 3), 4, none⟩])
      (.cond (.tmp 88)
        .skip
        (.exit 8)))
      (.seq (.blk 9
        (.seq (.rgn [] [⟨some 91, (.move (.tmp 7)), 3, none⟩,
          ⟨some 92, (.move (.tmp 18)), 3, none⟩,
          ⟨some 93, (.convert 3 151 (.tmp 92)), 151, none⟩,
          ⟨some 94, (.binOp .shr 3 (.tmp 91) (.tmp 93) 151), 3, none⟩,
          ⟨some 95, (.binOp .and 3 (.tmp 94) (.const (.int .i64 1)) 3), 3, none⟩,
          ⟨some 96, (.binOp .eql 3 (.tmp 95) (.const (.int .i64 1)) 3), 4, none⟩])
        (.cond (.tmp 96)
          (.rgn [97] [⟨some 97, (.move (.tmp 17)), 30, none⟩,
            ⟨some 98, (.move (.tmp 18)), 3, none⟩,
            ⟨some 99, (.buildSlice 30 1 #[(0, (.tmp 98))]), 30, none⟩,
            ⟨some 100, (.call { callee := (.builtin .append), args := #[(.tmp 97), (.tmp 99)], argTypes := #[30, 30] }), 30, none⟩,
            ⟨some 17, (.assign (.tmp 100)), 30, none⟩])
          .skip)))
      (.rgn [] [⟨some 89, (.move (.tmp 18)), 3, none⟩,
        ⟨some 90, (.binOp .add 3 (.tmp 89) (.const (.int .i64 1)) 3), 3, none⟩,
        ⟨some 18, (.assign (.tmp 90)), 3, none⟩]))))))
  (.seq (.rgn [101] [⟨some 101, (.move (.tmp 17)), 30, none⟩,
    ⟨some 6, (.assign (.tmp 101)), 30, none⟩])
  .ret))))))))
theorem lit77 : Lit Try.prog 77 102 [3, 12] [.tmp 6] c77 := ⟨⟨Try.f77, _, Try.func77, rfl, by kernel_rfl, rfl, rfl, by kernel_rfl, by kernel_rfl⟩, by decide, by kernel_rfl⟩
/-- laws.eqFunctionalDependencyS -/
def c78 : LC :=
  (.seq (.rgn [] [⟨some 4, (.assign (.const (.bool false))), 4, none⟩])
  (.seq (.seq (.rgn [] [⟨some 6, (.move (.tmp 0)), 114, none⟩,
    ⟨some 7, (.call { callee := (.builtin .len), args := #[(.tmp 6)], argTypes := #[114] }), 3, none⟩,
    ⟨some 8, (.move (.tmp 1)), 114, none⟩,
    ⟨some 9, (.call { callee := (.builtin .len), args := #[(.tmp 8)], argTypes := #[114] }), 3, none⟩,
    ⟨some 10, (.binOp .neq 3 (.tmp 7) (.tmp 9) 3), 4, none⟩])
  (.cond (.tmp 10)
    (.seq (.rgn [] [⟨some 4, (.assign (.const (.bool false))), 4, none⟩])
    .ret)
    .skip))
  (.seq (.seq (.rgn [] [⟨some 5, (.assign (.const (.int .i64 0))), 3, none⟩])
  (.blk 0
    (.loop []
      (.seq (.seq (.rgn [] [⟨some 11, (.move (.tmp 5)), 3, none⟩,
        ⟨some 12, (.move (.tmp 0)), 114, none⟩,
        ⟨some 13, (.call { callee := (.builtin .len), args := #[(.tmp 12)], argTypes := #[114] }), 3, none⟩,
        ⟨some 14, (.binOp .lss 3 (.tmp 11) (.tmp 13) 3), 4, none⟩])
      (.cond (.tmp 14)
        .skip
        (.exit 0)))
      (.seq (.blk 1
        (.seq (.drw [] [([0], [17]), ([5], [18]), ([17, 18], [19]), ([19], [20]), ([1], [21]), ([5], [22]), ([21, 22], [23]), ([23], [24]), ([20, 24], [25]), ([25], [26])] [[], [], [0, 1], [2], [], [], [4, 5], [6], [3, 7], [8]] [⟨some 17, (.move (.tmp 0)), 114, none⟩,
          ⟨some 18, (.move (.tmp 5)), 3, none⟩,
          ⟨some 19, (.indexAddr 114 (.tmp 17) (.tmp 18)), 0, none⟩,
          ⟨some 20, (.load 86 (.tmp 19)), 86, none⟩,
          ⟨some 21, (.move (.tmp 1)), 114, none⟩,
          ⟨some 22, (.move (.tmp 5)), 3, none⟩,
          ⟨some 23, (.indexAddr 114 (.tmp 21) (.tmp 22)), 0, none⟩,
          ⟨some 24, (.load 86 (.tmp 23)), 86, none⟩,
          ⟨some 25, (.call { callee := (.value (.func 54)), args := #[(.tmp 20), (.tmp 24)], argTypes := #[86, 86] }), 4, none⟩,
          ⟨some 26, (.unOp .not 4 (.tmp 25)), 4, none⟩])
        (.cond (.tmp 26)
          (.seq (.rgn [] [⟨some 4, (.assign (.const (.bool false))), 4, none⟩])
          .ret)
          .skip)))
      (.rgn [] [⟨some 15, (.move (.tmp 5)), 3, none⟩,
        ⟨some 16, (.binOp .add 3 (.tmp 15) (.const (.int .i64 1)) 3), 3, none⟩,
        ⟨some 5, (.assign (.tmp 16)), 3, none⟩]))))))
  (.seq (.rgn [] [⟨some 4, (.assign (.const (.bool true))), 4, none⟩])
  .ret))))
theorem lit78 : Lit Try.prog 78 27 [] [.tmp 4] c78 := ⟨⟨Try.f78, _, Try.func78, rfl, by kernel_rfl, rfl, rfl, by kernel_rfl, by kernel_rfl⟩, by decide, by kernel_rfl⟩
/-- laws.markFunctionalDependencyS -/
def c79 : LC :=
  (.seq (.rgn [] [⟨some 4, (.assign (.const (.int .i64 0))), 3, none⟩])
  (.seq (.seq (.rgn [] [⟨some 5, (.assign (.const (.int .i64 0))), 3, none⟩])
  (.blk 0
    (.loop []
      (.seq (.seq (.rgn [] [⟨some 6, (.move (.tmp 5)), 3, none⟩,
        ⟨some 7, (.move (.tmp 0)), 114, none⟩,
        ⟨some 8, (.call { callee := (.builtin .len), args := #[(.tmp 7)], argTypes := #[114] }), 3, none⟩,
        ⟨some 9, (.binOp .lss 3 (.tmp 6) (.tmp 8) 3), 4, none⟩])
      (.cond (.tmp 9)
        .skip
        (.exit 0)))
      (.seq (.blk 1
        (.seq (.rgn [] [⟨some 12, (.move (.tmp 0)), 114, none⟩,
          ⟨some 13, (.move (.tmp 5)), 3, none⟩,
          ⟨some 14, (.move (.tmp 1)), 3, none⟩,
          ⟨some 15, (.call { callee := (.value (.func 138)), args := #[(.tmp 14)], argTypes := #[3] }), 9, none⟩,
          ⟨some 16, (.indexAddr 114 (.tmp 12) (.tmp 13)), 0, none⟩,
          ⟨some 17, (.fieldAddr 86 (.tmp 16) 0), 0, none⟩,
          ⟨none, (.store 9 (.tmp 17) (.tmp 15)), 0, none⟩])
        (.seq (.rgn [] [⟨some 18, (.move (.tmp 1)), 3, none⟩,
          ⟨some 19, (.binOp .add 3 (.tmp 18) (.const (.int .i64 1)) 3), 3, none⟩,
          ⟨some 1, (.assign (.tmp 19)), 3, none⟩])
        (.seq (.rgn [] [⟨some 20, (.move (.tmp 0)), 114, none⟩,
          ⟨some 21, (.move (.tmp 5)), 3, none⟩,
          ⟨some 22, (.indexAddr 114 (.tmp 20) (.tmp 21)), 0, none⟩,
          ⟨some 23, (.fieldAddr 86 (.tmp 22) 1), 0, none⟩,
          ⟨some 24, (.load 30 (.tmp 23)), 30, none⟩,
          ⟨some 25, (.move (.tmp 1)), 3, none⟩,
          ⟨some 26, (.call { callee := (.value (.func 57)), args := #[(.tmp 24), (.tmp 25)], argTypes := #[30, 3] }), 3, none⟩,
          ⟨some 1, (.assign (.tmp 26)), 3, none⟩])
        (.seq (.rgn [] [⟨some 27, (.move (.tmp 0)), 114, none⟩,
          ⟨some 28, (.move (.tmp 5)), 3, none⟩,
          ⟨some 29, (.move (.tmp 1)), 3, none⟩,
          ⟨some 30, (.indexAddr 114 (.tmp 27) (.tmp 28)), 0, none⟩,
          ⟨some 31, (.fieldAddr 86 (.tmp 30) 2), 0, none⟩,
          ⟨none, (.store 3 (.tmp 31) (.tmp 29)), 0, none⟩])
        (.rgn [] [⟨some 32, (.move (.tmp 1)), 3, none⟩,
          ⟨some 33, (.binOp .add 3 (.tmp 32) (.const (.int .i64 1)) 3), 3, none⟩,
          ⟨some 1, (.assign (.tmp 33)), 3, none⟩]))))))
      (.rgn [] [⟨some 10, (.move (.tmp 5)), 3, none⟩,
        ⟨some 11, (.binOp .add 3 (.tmp 10) (.const (.int .i64 1)) 3), 3, none⟩,
        ⟨some 5, (.assign (.tmp 11)), 3, none⟩]))))))
  (.seq (.rgn [] [⟨some 34, (.move (.tmp 1)), 3, none⟩,
    ⟨some 4, (.assign (.tmp 34)), 3, none⟩])
  .ret)))
theorem lit79 : Lit Try.prog 79 35 [] [.tmp 4] c79 := ⟨⟨Try.f79, _, Try.func79, rfl, by kernel_rfl, rfl, rfl, by kernel_rfl, by kernel_rfl⟩, by decide, by kernel_rfl⟩
/-- spec.l1In -/
def c80 : LC :=
  (.seq (.rgn [] [⟨some 6, (.assign (.const (.bool false))), 4, none⟩])
  (.seq (.rgn [] [⟨some 7, (.move (.tmp 0)), 3, none⟩,
    ⟨some 8, (.move (.tmp 1)), 3, none⟩,
    ⟨some 9, (.binOp .geq 3 (.tmp 7) (.tmp 8) 3), 4, none⟩,
    ⟨some 10, (.move (.tmp 9)), 4, none⟩,
    ⟨some 11, (.move (.tmp 0)), 3, some (some 10, true)⟩,
    ⟨some 12, (.move (.tmp 2)), 3, some (some 10, true)⟩,
    ⟨some 13, (.binOp .leq 3 (.tmp 11) (.tmp 12) 3), 4, some (some 10, true)⟩,
    ⟨some 14, (.pick (.tmp 10) (.tmp 13) (.const (.bool false))), 4, none⟩,
    ⟨some 6, (.assign (.tmp 14)), 4, none⟩])
  .ret))
theorem lit80 : Lit Try.prog 80 15 [] [.tmp 6] c80 := ⟨⟨Try.f80, _, Try.func80, rfl, by kernel_rfl, rfl, rfl, by kernel_rfl, by kernel_rfl⟩, by decide, by kernel_rfl⟩
/-- impl.within -/
def c82 : LC :=
  (.seq (.rgn [] [⟨some 6, (.assign (.const (.bool false))), 4, none⟩])
  (.seq (.rgn [] [⟨some 7, (.move (.tmp 0)), 3, none⟩,
    ⟨some 8, (.move (.tmp 1)), 3, none⟩,
    ⟨some 9, (.binOp .geq 3 (.tmp 7) (.tmp 8) 3), 4, none⟩,
    ⟨some 10, (.move (.tmp 9)), 4, none⟩,
    ⟨some 11, (.move (.tmp 0)), 3, some (some 10, true)⟩,
    ⟨some 12, (.move (.tmp 2)), 3, some (some 10, true)⟩,
    ⟨some 13, (.binOp .leq 3 (.tmp 11) (.tmp 12) 3), 4, some (some 10, true)⟩,
    ⟨some 14, (.pick (.tmp 10) (.tmp 13) (.const (.bool false))), 4, none⟩,
    ⟨some 6, (.assign (.tmp 14)), 4, none⟩])
  .ret))
theorem lit82 : Lit Try.prog 82 15 [] [.tmp 6] c82 := ⟨⟨Try.f82, _, Try.func82, rfl, by kernel_rfl, rfl, rfl, by kernel_rfl, by kernel_rfl⟩, by decide, by kernel_rfl⟩
/-- laws.szIntS -/
def c87 : LC :=
  (.seq (.rgn [] [⟨some 4, (.assign (.const (.int .i64 0))), 3, none⟩])
  (.seq (.rgn [] [⟨some 5, (.move (.tmp 1)), 3, none⟩,
    ⟨some 6, (.move (.tmp 0)), 30, none⟩,
    ⟨some 7, (.call { callee := (.builtin .len), args := #[(.tmp 6)], argTypes := #[30] }), 3, none⟩,
    ⟨some 8, (.binOp .sub 3 (.tmp 5) (.tmp 7) 3), 3, none⟩,
    ⟨some 1, (.assign (.tmp 8)), 3, none⟩])
  (.seq (.seq (.rgn [] [⟨some 9, (.move (.tmp 1)), 3, none⟩,
    ⟨some 10, (.binOp .lss 3 (.tmp 9) (.const (.int .i64 0)) 3), 4, none⟩])
  (.cond (.tmp 10)
    (.seq (.rgn [] [⟨some 4, (.assign (.const (.int .i64 (-1)))), 3, none⟩])
    .ret)
    .skip))
  (.seq (.rgn [] [⟨some 11, (.move (.tmp 1)), 3, none⟩,
    ⟨some 4, (.assign (.tmp 11)), 3, none⟩])
  .ret))))
theorem lit87 : Lit Try.prog 87 12 [] [.tmp 4] c87 := ⟨⟨Try.f87, _, Try.func87, rfl, by kernel_rfl, rfl, rfl, by kernel_rfl, by kernel_rfl⟩, by decide, by kernel_rfl⟩
/-- spec.l7Find -/
def c101 : LC :=
  (.seq (.rgn [] [⟨some 4, (.assign (.const (.int .i64 0))), 3, none⟩])
  (.seq (.seq (.rgn [] [⟨some 5, (.assign (.const (.int .i64 0))), 3, none⟩])
  (.blk 0
    (.loop []
      (.seq (.seq (.rgn [] [⟨some 6, (.move (.tmp 5)), 3, none⟩,
        ⟨some 7, (.move (.tmp 0)), 30, none⟩,
        ⟨some 8, (.call { callee := (.builtin .len), args := #[(.tmp 7)], argTypes := #[30] }), 3, none⟩,
        ⟨some 9, (.binOp .lss 3 (.tmp 6) (.tmp 8) 3), 4, none⟩])
      (.cond (.tmp 9)
        .skip
        (.exit 0)))
      (.seq (.blk 1
        (.seq (.rgn [] [⟨some 12, (.move (.tmp 0)), 30, none⟩,
          ⟨some 13, (.move (.tmp 5)), 3, none⟩,
          ⟨some 14, (.indexAddr 30 (.tmp 12) (.tmp 13)), 0, none⟩,
          ⟨some 15, (.load 3 (.tmp 14)), 3, none⟩,
          ⟨some 16, (.move (.tmp 1)), 3, none⟩,
          ⟨some 17, (.binOp .eql 3 (.tmp 15) (.tmp 16) 3), 4, none⟩])
        (.cond (.tmp 17)
          (.seq (.rgn [] [⟨some 18, (.move (.tmp 5)), 3, none⟩,
            ⟨some 4, (.assign (.tmp 18)), 3, none⟩])
          .ret)
          .skip)))
      (.rgn [] [⟨some 10, (.move (.tmp 5)), 3, none⟩,
        ⟨some 11, (.binOp .add 3 (.tmp 10) (.const (.int .i64 1)) 3), 3, none⟩,
        ⟨some 5, (.assign (.tmp 11)), 3, none⟩]))))))
  (.seq (.rgn [] [⟨some 4, (.assign (.const (.int .i64 (-1)))), 3, none⟩])
  .ret)))
theorem lit101 : Lit Try.prog 101 19 [] [.tmp 4] c101 := ⟨⟨Try.f101, _, Try.func101, rfl, by kernel_rfl, rfl, rfl, by kernel_rfl, by kernel_rfl⟩, by decide, by kernel_rfl⟩
/-- impl.indexOf -/
def c104 : LC :=
  (.seq (.rgn [] [⟨some 4, (.assign (.const (.int .i64 0))), 3, none⟩])
  (.seq (.seq (.rgn [] [⟨some 7, (.move (.tmp 0)), 30, none⟩,
    ⟨some 8, (.call { callee := (.builtin .len), args := #[(.tmp 7)], argTypes := #[30] }), 3, none⟩,
    ⟨some 9, (.move (.const (.int .i64 0))), 3, none⟩])
  (.blk 0
    (.loop []
      (.seq (.rgn [] [⟨some 10, (.binOp .lss 3 (.tmp 9) (.tmp 8) 3), 0, none⟩])
      (.seq (.cond (.tmp 10)
        .skip
        (.exit 0))
      (.seq (.blk 1
        (.seq (.rgn [] [⟨some 11, (.move (.tmp 9)), 3, none⟩,
          ⟨some 12, (.indexAddr 30 (.tmp 7) (.tmp 9)), 0, none⟩,
          ⟨some 13, (.load 3 (.tmp 12)), 3, none⟩,
          ⟨some 5, (.assign (.tmp 11)), 3, none⟩,
          ⟨some 6, (.assign (.tmp 13)), 3, none⟩])
        (.seq (.rgn [] [⟨some 14, (.move (.tmp 6)), 3, none⟩,
          ⟨some 15, (.move (.tmp 1)), 3, none⟩,
          ⟨some 16, (.binOp .eql 3 (.tmp 14) (.tmp 15) 3), 4, none⟩])
        (.cond (.tmp 16)
          (.seq (.rgn [] [⟨some 17, (.move (.tmp 5)), 3, none⟩,
            ⟨some 4, (.assign (.tmp 17)), 3, none⟩])
          .ret)
          .skip))))
      (.rgn [] [⟨some 18, (.binOp .add 3 (.tmp 9) (.const (.int .i64 1)) 3), 3, none⟩,
        ⟨some 9, (.move (.tmp 18)), 3, none⟩])))))))
  (.seq (.rgn [] [⟨some 4, (.assign (.const (.int .i64 (-1)))), 3, none⟩])
  .ret)))
theorem lit104 : Lit Try.prog 104 19 [] [.tmp 4] c104 := ⟨⟨Try.f104, _, Try.func104, rfl, by kernel_rfl, rfl, rfl, by kernel_rfl, by kernel_rfl⟩, by decide, by kernel_rfl⟩
/-- laws.szAtomS -/
def c106 : LC :=
  (.seq (.rgn [] [⟨some 4, (.assign (.const (.int .i64 0))), 3, none⟩])
  (.seq (.rgn [] [⟨some 6, (.move (.tmp 1)), 3, none⟩,
    ⟨some 7, (.move (.tmp 0)), 48, none⟩,
    ⟨some 8, (.call { callee := (.builtin .len), args := #[(.tmp 7)], argTypes := #[48] }), 3, none⟩,
    ⟨some 9, (.binOp .sub 3 (.tmp 6) (.tmp 8) 3), 3, none⟩,
    ⟨some 1, (.assign (.tmp 9)), 3, none⟩])
  (.seq (.seq (.rgn [] [⟨some 10, (.move (.tmp 1)), 3, none⟩,
    ⟨some 11, (.binOp .lss 3 (.tmp 10) (.const (.int .i64 0)) 3), 4, none⟩])
  (.cond (.tmp 11)
    (.seq (.rgn [] [⟨some 4, (.assign (.const (.int .i64 (-1)))), 3, none⟩])
    .ret)
    .skip))
  (.seq (.seq (.rgn [] [⟨some 5, (.assign (.const (.int .i64 0))), 3, none⟩])
  (.blk 0
    (.loop []
      (.seq (.seq (.rgn [] [⟨some 12, (.move (.tmp 5)), 3, none⟩,
        ⟨some 13, (.move (.tmp 0)), 48, none⟩,
        ⟨some 14, (.call { callee := (.builtin .len), args := #[(.tmp 13)], argTypes := #[48] }), 3, none⟩,
        ⟨some 15, (.binOp .lss 3 (.tmp 12) (.tmp 14) 3), 4, none⟩])
      (.cond (.tmp 15)
        .skip
        (.exit 0)))
      (.seq (.blk 1
        (.seq (.rgn [] [⟨some 18, (.move (.tmp 0)), 48, none⟩,
          ⟨some 19, (.move (.tmp 5)), 3, none⟩,
          ⟨some 20, (.indexAddr 48 (.tmp 18) (.tmp 19)), 0, none⟩,
          ⟨some 21, (.load 171 (.tmp 20)), 171, none⟩,
          ⟨some 22, (.move (.tmp 1)), 3, none⟩,
          ⟨some 23, (.call { callee := (.value (.func 150)), args := #[(.tmp 21), (.tmp 22)], argTypes := #[171, 3] }), 3, none⟩,
          ⟨some 1, (.assign (.tmp 23)), 3, none⟩])
        (.seq (.rgn [] [⟨some 24, (.move (.tmp 1)), 3, none⟩,
          ⟨some 25, (.binOp .lss 3 (.tmp 24) (.const (.int .i64 0)) 3), 4, none⟩])
        (.cond (.tmp 25)
          (.seq (.rgn [] [⟨some 4, (.assign (.const (.int .i64 (-1)))), 3, none⟩])
          .ret)
          .skip))))
      (.rgn [] [⟨some 16, (.move (.tmp 5)), 3, none⟩,
        ⟨some 17, (.binOp .add 3 (.tmp 16) (.const (.int .i64 1)) 3), 3, none⟩,
        ⟨some 5, (.assign (.tmp 17)), 3, none⟩]))))))
  (.seq (.rgn [] [⟨some 26, (.move (.tmp 1)), 3, none⟩,
    ⟨some 4, (.assign (.tmp 26)), 3, none⟩])
  .ret)))))
theorem lit106 : Lit Try.prog 106 27 [] [.tmp 4] c106 := ⟨⟨Try.f106, _, Try.func106, rfl, by kernel_rfl, rfl, rfl, by kernel_rfl, by kernel_rfl⟩, by decide, by kernel_rfl⟩
/-- laws.toAtomS -/
def c109 : LC :=
  (.seq (.rgn [] [⟨some 2, (.assign (.const (.slice none 0 0))), 54, none⟩])
  (.seq (.rgn [3, 7] [⟨some 5, (.move (.tmp 0)), 48, none⟩,
    ⟨some 6, (.call { callee := (.builtin .len), args := #[(.tmp 5)], argTypes := #[48] }), 3, none⟩,
    ⟨some 7, (.makeSlice 54 (.tmp 6) (.tmp 6)), 54, none⟩,
    ⟨some 3, (.assign (.tmp 7)), 54, none⟩])
  (.seq (.seq (.rgn [] [⟨some 4, (.assign (.const (.int .i64 0))), 3, none⟩])
  (.blk 0
    (.loop []
      (.seq (.seq (.rgn [] [⟨some 8, (.move (.tmp 4)), 3, none⟩,
        ⟨some 9, (.move (.tmp 0)), 48, none⟩,
        ⟨some 10, (.call { callee := (.builtin .len), args := #[(.tmp 9)], argTypes := #[48] }), 3, none⟩,
        ⟨some 11, (.binOp .lss 3 (.tmp 8) (.tmp 10) 3), 4, none⟩])
      (.cond (.tmp 11)
        .skip
        (.exit 0)))
      (.seq (.blk 1
        (.rgn [] [⟨some 14, (.move (.tmp 3)), 54, none⟩,
          ⟨some 15, (.move (.tmp 4)), 3, none⟩,
          ⟨some 16, (.move (.tmp 0)), 48, none⟩,
          ⟨some 17, (.move (.tmp 4)), 3, none⟩,
          ⟨some 18, (.indexAddr 48 (.tmp 16) (.tmp 17)), 0, none⟩,
          ⟨some 19, (.load 171 (.tmp 18)), 171, none⟩,
          ⟨some 20, (.call { callee := (.value (.func 151)), args := #[(.tmp 19)], argTypes := #[171] }), 150, none⟩,
          ⟨some 21, (.indexAddr 54 (.tmp 14) (.tmp 15)), 0, none⟩,
          ⟨none, (.store 150 (.tmp 21) (.tmp 20)), 0, none⟩]))
      (.rgn [] [⟨some 12, (.move (.tmp 4)), 3, none⟩,
        ⟨some 13, (.binOp .add 3 (.tmp 12) (.const (.int .i64 1)) 3), 3, none⟩,
        ⟨some 4, (.assign (.tmp 13)), 3, none⟩]))))))
  (.seq (.rgn [22] [⟨some 22, (.move (.tmp 3)), 54, none⟩,
    ⟨some 2, (.assign (.tmp 22)), 54, none⟩])
  .ret))))
theorem lit109 : Lit Try.prog 109 23 [3, 7] [.tmp 2] c109 := ⟨⟨Try.f109, _, Try.func109, rfl, by kernel_rfl, rfl, rfl, by kernel_rfl, by kernel_rfl⟩, by decide, by kernel_rfl⟩
/-- laws.eqAtomS -/
def c111 : LC :=
  (.seq (.rgn [] [⟨some 4, (.assign (.const (.bool false))), 4, none⟩])
  (.seq (.seq (.rgn [] [⟨some 6, (.move (.tmp 0)), 54, none⟩,
    ⟨some 7, (.call { callee := (.builtin .len), args := #[(.tmp 6)], argTypes := #[54] }), 3, none⟩,
    ⟨some 8, (.move (.tmp 1)), 54, none⟩,
    ⟨some 9, (.call { callee := (.builtin .len), args := #[(.tmp 8)], argTypes := #[54] }), 3, none⟩,
    ⟨some 10, (.binOp .neq 3 (.tmp 7) (.tmp 9) 3), 4, none⟩])
  (.cond (.tmp 10)
    (.seq (.rgn [] [⟨some 4, (.assign (.const (.bool false))), 4, none⟩])
    .ret)
    .skip))
  (.seq (.seq (.rgn [] [⟨some 5, (.assign (.const (.int .i64 0))), 3, none⟩])
  (.blk 0
    (.loop []
      (.seq (.seq (.rgn [] [⟨some 11, (.move (.tmp 5)), 3, none⟩,
        ⟨some 12, (.move (.tmp 0)), 54, none⟩,
        ⟨some 13, (.call { callee := (.builtin .len), args := #[(.tmp 12)], argTypes := #[54] }), 3, none⟩,
        ⟨some 14, (.binOp .lss 3 (.tmp 11) (.tmp 13) 3), 4, none⟩])
      (.cond (.tmp 14)
        .skip
        (.exit 0)))
      (.seq (.blk 1
        (.seq (.drw [] [([0], [17]), ([5], [18]), ([17, 18], [19]), ([19], [20]), ([1], [21]), ([5], [22]), ([21, 22], [23]), ([23], [24]), ([20, 24], [25]), ([25], [26])] [[], [], [0, 1], [2], [], [], [4, 5], [6], [3, 7], [8]] [⟨some 17, (.move (.tmp 0)), 54, none⟩,
          ⟨some 18, (.move (.tmp 5)), 3, none⟩,
          ⟨some 19, (.indexAddr 54 (.tmp 17) (.tmp 18)), 0, none⟩,
          ⟨some 20, (.load 150 (.tmp 19)), 150, none⟩,
          ⟨some 21, (.move (.tmp 1)), 54, none⟩,
          ⟨some 22, (.move (.tmp 5)), 3, none⟩,
          ⟨some 23, (.indexAddr 54 (.tmp 21) (.tmp 22)), 0, none⟩,
          ⟨some 24, (.load 150 (.tmp 23)), 150, none⟩,
          ⟨some 25, (.call { callee := (.value (.func 152)), args := #[(.tmp 20), (.tmp 24)], argTypes := #[150, 150] }), 4, none⟩,
          ⟨some 26, (.unOp .not 4 (.tmp 25)), 4, none⟩])
        (.cond (.tmp 26)
          (.seq (.rgn [] [⟨some 4, (.assign (.const (.bool false))), 4, none⟩])
          .ret)
          .skip)))
      (.rgn [] [⟨some 15, (.move (.tmp 5)), 3, none⟩,
        ⟨some 16, (.binOp .add 3 (.tmp 15) (.const (.int .i64 1)) 3), 3, none⟩,
        ⟨some 5, (.assign (.tmp 16)), 3, none⟩]))))))
  (.seq (.rgn [] [⟨some 4, (.assign (.const (.bool true))), 4, none⟩])
  .ret))))
theorem lit111 : Lit Try.prog 111 27 [] [.tmp 4] c111 := ⟨⟨Try.f111, _, Try.func111, rfl, by kernel_rfl, rfl, rfl, by kernel_rfl, by kernel_rfl⟩, by decide, by kernel_rfl⟩
/-- spec.IsValidQuery -/
def c124 : LC :=
  (.seq (.rgn [] [⟨some 1, (.box 56 (.tmp 0)), 0, none⟩,
    ⟨some 2, (.assign (.const (.bool false))), 4, none⟩])
  (.seq (.seq (.rgn [] [⟨some 9, (.fieldAddr 56 (.tmp 1) 0), 0, none⟩,
    ⟨some 10, (.load 3 (.tmp 9)), 3, none⟩,
    ⟨some 11, (.call { callee := (.value (.func 80)), args := #[(.tmp 10), (.const (.int .i64 1)), (.const (.int .i64 5))], argTypes := #[3, 3, 3] }), 4, none⟩,
    ⟨some 12, (.unOp .not 4 (.tmp 11)), 4, none⟩,
    ⟨some 13, (.move (.tmp 12)), 4, none⟩,
    ⟨some 14, (.fieldAddr 56 (.tmp 1) 1), 0, some (some 13, false)⟩,
    ⟨some 15, (.load 54 (.tmp 14)), 54, some (some 13, false)⟩,
    ⟨some 16, (.call { callee := (.builtin .len), args := #[(.tmp 15)], argTypes := #[54] }), 3, some (some 13, false)⟩,
    ⟨some 17, (.call { callee := (.value (.func 80)), args := #[(.tmp 16), (.const (.int .i64 1)), (.const (.int .i64 4))], argTypes := #[3, 3, 3] }), 4, some (some 13, false)⟩,
    ⟨some 18, (.unOp .not 4 (.tmp 17)), 4, some (some 13, false)⟩,
    ⟨some 19, (.pick (.tmp 13) (.const (.bool true)) (.tmp 18)), 4, none⟩,
    ⟨some 20, (.move (.tmp 19)), 4, none⟩,
    ⟨some 21, (.fieldAddr 56 (.tmp 1) 2), 0, some (some 20, false)⟩,
    ⟨some 22, (.load 30 (.tmp 21)), 30, some (some 20, false)⟩,
    ⟨some 23, (.call { callee := (.builtin .len), args := #[(.tmp 22)], argTypes := #[30] }), 3, some (some 20, false)⟩,
    ⟨some 24, (.fieldAddr 56 (.tmp 1) 0), 0, some (some 20, false)⟩,
    ⟨some 25, (.load 3 (.tmp 24)), 3, some (some 20, false)⟩,
    ⟨some 26, (.binOp .gtr 3 (.tmp 23) (.tmp 25) 3), 4, some (some 20, false)⟩,
    ⟨some 27, (.pick (.tmp 20) (.const (.bool true)) (.tmp 26)), 4, none⟩])
  (.cond (.tmp 27)
    (.seq (.rgn [] [⟨some 2, (.assign (.const (.bool false))), 4, none⟩])
    .ret)
    .skip))
  (.seq (.seq (.rgn [] [⟨some 3, (.assign (.const (.int .i64 0))), 3, none⟩])
  (.blk 0
    (.loop []
      (.seq (.seq (.rgn [] [⟨some 28, (.move (.tmp 3)), 3, none⟩,
        ⟨some 29, (.fieldAddr 56 (.tmp 1) 1), 0, none⟩,
        ⟨some 30, (.load 54 (.tmp 29)), 54, none⟩,
        ⟨some 31, (.call { callee := (.builtin .len), args := #[(.tmp 30)], argTypes := #[54] }), 3, none⟩,
        ⟨some 32, (.binOp .lss 3 (.tmp 28) (.tmp 31) 3), 4, none⟩])
      (.cond (.tmp 32)
        .skip
        (.exit 0)))
      (.seq (.blk 1
        (.seq (.seq (.rgn [] [⟨some 35, (.fieldAddr 56 (.tmp 1) 1), 0, none⟩,
          ⟨some 36, (.load 54 (.tmp 35)), 54, none⟩,
          ⟨some 37, (.move (.tmp 3)), 3, none⟩,
          ⟨some 38, (.indexAddr 54 (.tmp 36) (.tmp 37)), 0, none⟩,
          ⟨some 39, (.fieldAddr 150 (.tmp 38) 0), 0, none⟩,
          ⟨some 40, (.load 9 (.tmp 39)), 9, none⟩,
          ⟨some 41, (.call { callee := (.value (.func 158)), args := #[(.tmp 40)], argTypes := #[9] }), 4, none⟩,
          ⟨some 42, (.unOp .not 4 (.tmp 41)), 4, none⟩,
          ⟨some 43, (.move (.tmp 42)), 4, none⟩,
          ⟨some 44, (.fieldAddr 56 (.tmp 1) 1), 0, some (some 43, false)⟩,
          ⟨some 45, (.load 54 (.tmp 44)), 54, some (some 43, false)⟩,
          ⟨some 46, (.move (.tmp 3)), 3, some (some 43, false)⟩,
          ⟨some 47, (.indexAddr 54 (.tmp 45) (.tmp 46)), 0, some (some 43, false)⟩,
          ⟨some 48, (.fieldAddr 150 (.tmp 47) 1), 0, some (some 43, false)⟩,
          ⟨some 49, (.load 30 (.tmp 48)), 30, some (some 43, false)⟩,
          ⟨some 50, (.call { callee := (.builtin .len), args := #[(.tmp 49)], argTypes := #[30] }), 3, some (some 43, false)⟩,
          ⟨some 51, (.call { callee := (.value (.func 80)), args := #[(.tmp 50), (.const (.int .i64 1)), (.const (.int .i64 5))], argTypes := #[3, 3, 3] }), 4, some (some 43, false)⟩,
          ⟨some 52, (.unOp .not 4 (.tmp 51)), 4, some (some 43, false)⟩,
          ⟨some 53, (.pick (.tmp 43) (.const (.bool true)) (.tmp 52)), 4, none⟩])
        (.cond (.tmp 53)
          (.seq (.rgn [] [⟨some 2, (.assign (.const (.bool false))), 4, none⟩])
          .ret)
          .skip))
        (.seq (.rgn [] [⟨some 4, (.assign (.const (.int .i64 0))), 3, none⟩])
        (.blk 2
          (.loop []
            (.seq (.seq (.rgn [] [⟨some 54, (.move (.tmp 4)), 3, none⟩,
              ⟨some 55, (.fieldAddr 56 (.tmp 1) 1), 0, none⟩,
              ⟨some 56, (.load 54 (.tmp 55)), 54, none⟩,
              ⟨some 57, (.move (.tmp 3)), 3, none⟩,
              ⟨some 58, (.indexAddr 54 (.tmp 56) (.tmp 57)), 0, none⟩,
              ⟨some 59, (.fieldAddr 150 (.tmp 58) 1), 0, none⟩,
              ⟨some 60, (.load 30 (.tmp 59)), 30, none⟩,
              ⟨some 61, (.call { callee := (.builtin .len), args := #[(.tmp 60)], argTypes := #[30] }), 3, none⟩,
              ⟨some 62, (.binOp .lss 3 (.tmp 54) (.tmp 61) 3), 4, none⟩])
            (.cond (.tmp 62)
              .skip
              (.exit 2)))
            (.seq (.blk 3
              (.seq (.drw [] [([1], [65]), ([1, 65], [66]), ([3], [67]), ([66, 67], [68]), ([68], [69]), ([69], [70]), ([4], [71]), ([70, 71], [72]), ([72], [73]), ([1], [74]), ([1, 74], [75]), ([75], [76]), ([73, 76], [77]), ([77], [78])] [[], [0], [], [1, 2], [3], [4], [], [5, 6], [7], [], [9], [10], [8, 11], [12]] [⟨some 65, (.fieldAddr 56 (.tmp 1) 1), 0, none⟩,
                ⟨some 66, (.load 54 (.tmp 65)), 54, none⟩,
                ⟨some 67, (.move (.tmp 3)), 3, none⟩,
                ⟨some 68, (.indexAddr 54 (.tmp 66) (.tmp 67)), 0, none⟩,
                ⟨some 69, (.fieldAddr 150 (.tmp 68) 1), 0, none⟩,
                ⟨some 70, (.load 30 (.tmp 69)), 30, none⟩,
                ⟨some 71, (.move (.tmp 4)), 3, none⟩,
                ⟨some 72, (.indexAddr 30 (.tmp 70) (.tmp 71)), 0, none⟩,
                ⟨some 73, (.load 3 (.tmp 72)), 3, none⟩,
                ⟨some 74, (.fieldAddr 56 (.tmp 1) 0), 0, none⟩,
                ⟨some 75, (.load 3 (.tmp 74)), 3, none⟩,
                ⟨some 76, (.binOp .sub 3 (.tmp 75) (.const (.int .i64 1)) 3), 3, none⟩,
                ⟨some 77, (.call { callee := (.value (.func 80)), args := #[(.tmp 73), (.const (.int .i64 0)), (.tmp 76)], argTypes := #[3, 3, 3] }), 4, none⟩,
                ⟨some 78, (.unOp .not 4 (.tmp 77)), 4, none⟩])
              (.cond (.tmp 78)
                (.seq (.rgn [] [⟨some 2, (.assign (.const (.bool false))), 4, none⟩])
                .ret)
                .skip)))
            (.rgn [] [⟨some 63, (.move (.tmp 4)), 3, none⟩,
              ⟨some 64, (.binOp .add 3 (.tmp 63) (.const (.int .i64 1)) 3), 3, none⟩,
              ⟨some 4, (.assign (.tmp 64)), 3, none⟩]))))))))
      (.rgn [] [⟨some 33, (.move (.tmp 3)), 3, none⟩,
        ⟨some 34, (.binOp .add 3 (.tmp 33) (.const (.int .i64 1)) 3), 3, none⟩,
        ⟨some 3, (.assign (.tmp 34)), 3, none⟩]))))))
  (.seq (.seq (.rgn [] [⟨some 5, (.assign (.const (.int .i64 0))), 3, none⟩])
  (.blk 4
    (.loop []
      (.seq (.seq (.rgn [] [⟨some 79, (.move (.tmp 5)), 3, none⟩,
        ⟨some 80, (.fieldAddr 56 (.tmp 1) 0), 0, none⟩,
        ⟨some 81, (.load 3 (.tmp 80)), 3, none⟩,
        ⟨some 82, (.binOp .lss 3 (.tmp 79) (.tmp 81) 3), 4, none⟩])
      (.cond (.tmp 82)
        .skip
        (.exit 4)))
      (.seq (.blk 5
        (.seq (.rgn [] [⟨some 6, (.assign (.const (.bool false))), 4, none⟩])
        (.seq (.seq (.rgn [] [⟨some 7, (.assign (.const (.int .i64 0))), 3, none⟩])
        (.blk 6
          (.loop []
            (.seq (.seq (.rgn [] [⟨some 85, (.move (.tmp 7)), 3, none⟩,
              ⟨some 86, (.fieldAddr 56 (.tmp 1) 1), 0, none⟩,
              ⟨some 87, (.load 54 (.tmp 86)), 54, none⟩,
              ⟨some 88, (.call { callee := (.builtin .len), args := #[(.tmp 87)], argTypes := #[54] }), 3, none⟩,
              ⟨some 89, (.binOp .lss 3 (.tmp 85) (.tmp 88) 3), 4, none⟩])
            (.cond (.tmp 89)
              .skip
              (.exit 6)))
            (.seq (.blk 7
              (.rgn [] [⟨some 92, (.move (.tmp 6)), 4, none⟩,
                ⟨some 93, (.move (.tmp 92)), 4, none⟩,
                ⟨some 94, (.fieldAddr 56 (.tmp 1) 1), 0, some (some 93, false)⟩,
                ⟨some 95, (.load 54 (.tmp 94)), 54, some (some 93, false)⟩,
                ⟨some 96, (.move (.tmp 7)), 3, some (some 93, false)⟩,
                ⟨some 97, (.indexAddr 54 (.tmp 95) (.tmp 96)), 0, some (some 93, false)⟩,
                ⟨some 98, (.load 150 (.tmp 97)), 150, some (some 93, false)⟩,
                ⟨some 99, (.move (.tmp 5)), 3, some (some 93, false)⟩,
                ⟨some 100, (.call { callee := (.value (.func 160)), args := #[(.tmp 98), (.tmp 99)], argTypes := #[150, 3] }), 4, some (some 93, false)⟩,
                ⟨some 101, (.pick (.tmp 93) (.const (.bool true)) (.tmp 100)), 4, none⟩,
                ⟨some 6, (.assign (.tmp 101)), 4, none⟩]))
            (.rgn [] [⟨some 90, (.move (.tmp 7)), 3, none⟩,
              ⟨some 91, (.binOp .add 3 (.tmp 90) (.const (.int .i64 1)) 3), 3, none⟩,
              ⟨some 7, (.assign (.tmp 91)), 3, none⟩]))))))
        (.seq (.rgn [] [⟨some 102, (.move (.tmp 6)), 4, none⟩,
          ⟨some 103, (.unOp .not 4 (.tmp 102)), 4, none⟩])
        (.cond (.tmp 103)
          (.seq (.rgn [] [⟨some 2, (.assign (.const (.bool false))), 4, none⟩])
          .ret)
          .skip)))))
      (.rgn [] [⟨some 83, (.move (.tmp 5)), 3, none⟩,
        ⟨some 84, (.binOp .add 3 (.tmp 83) (.const (.int .i64 1)) 3), 3, none⟩,
        ⟨some 5, (.assign (.tmp 84)), 3, none⟩]))))))
  (.seq (.seq (.rgn [] [⟨some 8, (.assign (.const (.int .i64 0))), 3, none⟩])
  (.blk 8
    (.loop []
      (.seq (.seq (.rgn [] [⟨some 104, (.move (.tmp 8)), 3, none⟩,
        ⟨some 105, (.fieldAddr 56 (.tmp 1) 2), 0, none⟩,
        ⟨some 106, (.load 30 (.tmp 105)), 30, none⟩,
        ⟨some 107, (.call { callee := (.builtin .len), args := #[(.tmp 106)], argTypes := #[30] }), 3, none⟩,
        ⟨some 108, (.binOp .lss 3 (.tmp 104) (.tmp 107) 3), 4, none⟩])
      (.cond (.tmp 108)
        .skip
        (.exit 8)))
      (.seq (.blk 9
        (.seq (.drw [] [([1], [111]), ([1, 111], [112]), ([8], [113]), ([112, 113], [114]), ([114], [115]), ([1], [116]), ([1, 116], [117]), ([117], [118]), ([115, 118], [119]), ([119], [120]), ([120], [121]), ([1, 121], [122]), ([1, 121, 122], [123]), ([8, 121], [124]), ([121, 123, 124], [125]), ([1, 121], [126]), ([1, 121, 126], [127]), ([8, 121], [128]), ([121, 127, 128], [129]), ([121, 129], [130]), ([121, 125, 130], [131]), ([121, 131], [132]), ([121, 132], [133])] [[], [0], [], [1, 2], [3], [], [5], [6], [4, 7], [8], [9, 8], [10], [11, 10], [10], [12, 13, 10], [10], [15, 10], [10], [16, 17, 10], [18, 10], [14, 19, 10, 10], [20, 10], [10, 21]] [⟨some 111, (.fieldAddr 56 (.tmp 1) 2), 0, none⟩,
          ⟨some 112, (.load 30 (.tmp 111)), 30, none⟩,
          ⟨some 113, (.move (.tmp 8)), 3, none⟩,
          ⟨some 114, (.indexAddr 30 (.tmp 112) (.tmp 113)), 0, none⟩,
          ⟨some 115, (.load 3 (.tmp 114)), 3, none⟩,
          ⟨some 116, (.fieldAddr 56 (.tmp 1) 0), 0, none⟩,
          ⟨some 117, (.load 3 (.tmp 116)), 3, none⟩,
          ⟨some 118, (.binOp .sub 3 (.tmp 117) (.const (.int .i64 1)) 3), 3, none⟩,
          ⟨some 119, (.call { callee := (.value (.func 80)), args := #[(.tmp 115), (.const (.int .i64 0)), (.tmp 118)], argTypes := #[3, 3, 3] }), 4, none⟩,
          ⟨some 120, (.unOp .not 4 (.tmp 119)), 4, none⟩,
          ⟨some 121, (.move (.tmp 120)), 4, none⟩,
          ⟨some 122, (.fieldAddr 56 (.tmp 1) 2), 0, some (some 121, false)⟩,
          ⟨some 123, (.load 30 (.tmp 122)), 30, some (some 121, false)⟩,
          ⟨some 124, (.move (.tmp 8)), 3, some (some 121, false)⟩,
          ⟨some 125, (.slice 30 (.tmp 123) none (some (.tmp 124)) none), 30, some (some 121, false)⟩,
          ⟨some 126, (.fieldAddr 56 (.tmp 1) 2), 0, some (some 121, false)⟩,
          ⟨some 127, (.load 30 (.tmp 126)), 30, some (some 121, false)⟩,
          ⟨some 128, (.move (.tmp 8)), 3, some (some 121, false)⟩,
          ⟨some 129, (.indexAddr 30 (.tmp 127) (.tmp 128)), 0, some (some 121, false)⟩,
          ⟨some 130, (.load 3 (.tmp 129)), 3, some (some 121, false)⟩,
          ⟨some 131, (.call { callee := (.value (.func 101)), args := #[(.tmp 125), (.tmp 130)], argTypes := #[30, 3] }), 3, some (some 121, false)⟩,
          ⟨some 132, (.binOp .geq 3 (.tmp 131) (.const (.int .i64 0)) 3), 4, some (some 121, false)⟩,
          ⟨some 133, (.pick (.tmp 121) (.const (.bool true)) (.tmp 132)), 4, none⟩])
        (.cond (.tmp 133)
          (.seq (.rgn [] [⟨some 2, (.assign (.const (.bool false))), 4, none⟩])
          .ret)
          .skip)))
      (.rgn [] [⟨some 109, (.move (.tmp 8)), 3, none⟩,
        ⟨some 110, (.binOp .add 3 (.tmp 109) (.const (.int .i64 1)) 3), 3, none⟩,
        ⟨some 8, (.assign (.tmp 110)), 3, none⟩]))))))
  (.seq (.rgn [] [⟨some 2, (.assign (.const (.bool true))), 4, none⟩])
  .ret))))))
theorem lit124 : Lit Try.prog 124 134 [1] [.tmp 2] c124 := ⟨⟨Try.f124, _, Try.func124, rfl, by kernel_rfl, rfl, rfl, by kernel_rfl, by kernel_rfl⟩, by decide, by kernel_rfl⟩
/-- impl.IsValidQuery -/
def c125 : LC :=
  (.seq (.rgn [] [⟨some 1, (.box 56 (.tmp 0)), 0, none⟩,
    ⟨some 2, (.assign (.const (.bool false))), 4, none⟩])
  (.seq (.rgn [] [⟨some 11, (.fieldAddr 56 (.tmp 1) 0), 0, none⟩,
    ⟨some 12, (.load 3 (.tmp 11)), 3, none⟩,
    ⟨some 3, (.assign (.tmp 12)), 3, none⟩])
  (.seq (.seq (.rgn [] [⟨some 13, (.move (.tmp 3)), 3, none⟩,
    ⟨some 14, (.call { callee := (.value (.func 82)), args := #[(.tmp 13), (.const (.int .i64 1)), (.const (.int .i64 5))], argTypes := #[3, 3, 3] }), 4, none⟩,
    ⟨some 15, (.unOp .not 4 (.tmp 14)), 4, none⟩,
    ⟨some 16, (.move (.tmp 15)), 4, none⟩,
    ⟨some 17, (.fieldAddr 56 (.tmp 1) 1), 0, some (some 16, false)⟩,
    ⟨some 18, (.load 54 (.tmp 17)), 54, some (some 16, false)⟩,
    ⟨some 19, (.call { callee := (.builtin .len), args := #[(.tmp 18)], argTypes := #[54] }), 3, some (some 16, false)⟩,
    ⟨some 20, (.call { callee := (.value (.func 82)), args := #[(.tmp 19), (.const (.int .i64 1)), (.const (.int .i64 4))], argTypes := #[3, 3, 3] }), 4, some (some 16, false)⟩,
    ⟨some 21, (.unOp .not 4 (.tmp 20)), 4, some (some 16, false)⟩,
    ⟨some 22, (.pick (.tmp 16) (.const (.bool true)) (.tmp 21)), 4, none⟩,
    ⟨some 23, (.move (.tmp 22)), 4, none⟩,
    ⟨some 24, (.fieldAddr 56 (.tmp 1) 2), 0, some (some 23, false)⟩,
    ⟨some 25, (.load 30 (.tmp 24)), 30, some (some 23, false)⟩,
    ⟨some 26, (.move (.tmp 3)), 3, some (some 23, false)⟩,
    ⟨some 27, (.call { callee := (.value (.func 161)), args := #[(.tmp 25), (.tmp 26)], argTypes := #[30, 3] }), 4, some (some 23, false)⟩,
    ⟨some 28, (.unOp .not 4 (.tmp 27)), 4, some (some 23, false)⟩,
    ⟨some 29, (.pick (.tmp 23) (.const (.bool true)) (.tmp 28)), 4, none⟩])
  (.cond (.tmp 29)
    (.seq (.rgn [] [⟨some 2, (.assign (.const (.bool false))), 4, none⟩])
    .ret)
    .skip))
  (.seq (.rgn [4, 31] [⟨some 30, (.move (.tmp 3)), 3, none⟩,
    ⟨some 31, (.makeSlice 184 (.tmp 30) (.tmp 30)), 184, none⟩,
    ⟨some 4, (.assign (.tmp 31)), 184, none⟩])
  (.seq (.seq (.rgn [] [⟨some 32, (.fieldAddr 56 (.tmp 1) 1), 0, none⟩,
    ⟨some 33, (.load 54 (.tmp 32)), 54, none⟩,
    ⟨some 34, (.call { callee := (.builtin .len), args := #[(.tmp 33)], argTypes := #[54] }), 3, none⟩,
    ⟨some 35, (.move (.const (.int .i64 0))), 3, none⟩])
  (.blk 0
    (.loop [6]
      (.seq (.rgn [] [⟨some 36, (.binOp .lss 3 (.tmp 35) (.tmp 34) 3), 0, none⟩])
      (.seq (.cond (.tmp 36)
        .skip
        (.exit 0))
      (.seq (.blk 1
        (.seq (.rgn [38] [⟨some 37, (.indexAddr 54 (.tmp 33) (.tmp 35)), 0, none⟩,
          ⟨some 38, (.load 150 (.tmp 37)), 150, none⟩,
          ⟨some 6, (.alloc 150), 0, none⟩,
          ⟨none, (.store 150 (.tmp 6) (.tmp 38)), 0, none⟩])
        (.seq (.seq (.rgn [] [⟨some 39, (.fieldAddr 150 (.tmp 6) 0), 0, none⟩,
          ⟨some 40, (.load 9 (.tmp 39)), 9, none⟩,
          ⟨some 41, (.call { callee := (.value (.func 159)), args := #[(.tmp 40)], argTypes := #[9] }), 4, none⟩,
          ⟨some 42, (.unOp .not 4 (.tmp 41)), 4, none⟩,
          ⟨some 43, (.move (.tmp 42)), 4, none⟩,
          ⟨some 44, (.fieldAddr 150 (.tmp 6) 1), 0, some (some 43, false)⟩,
          ⟨some 45, (.load 30 (.tmp 44)), 30, some (some 43, false)⟩,
          ⟨some 46, (.call { callee := (.builtin .len), args := #[(.tmp 45)], argTypes := #[30] }), 3, some (some 43, false)⟩,
          ⟨some 47, (.call { callee := (.value (.func 82)), args := #[(.tmp 46), (.const (.int .i64 1)), (.const (.int .i64 5))], argTypes := #[3, 3, 3] }), 4, some (some 43, false)⟩,
          ⟨some 48, (.unOp .not 4 (.tmp 47)), 4, some (some 43, false)⟩,
          ⟨some 49, (.pick (.tmp 43) (.const (.bool true)) (.tmp 48)), 4, none⟩])
        (.cond (.tmp 49)
          (.seq (.rgn [] [⟨some 2, (.assign (.const (.bool false))), 4, none⟩])
          .ret)
          .skip))
        (.seq (.rgn [] [⟨some 50, (.fieldAddr 150 (.tmp 6) 1), 0, none⟩,
          ⟨some 51, (.load 30 (.tmp 50)), 30, none⟩,
          ⟨some 52, (.call { callee := (.builtin .len), args := #[(.tmp 51)], argTypes := #[30] }), 3, none⟩,
          ⟨some 53, (.move (.const (.int .i64 0))), 3, none⟩])
        (.blk 2
          (.loop []
            (.seq (.rgn [] [⟨some 54, (.binOp .lss 3 (.tmp 53) (.tmp 52) 3), 0, none⟩])
            (.seq (.cond (.tmp 54)
              .skip
              (.exit 2))
            (.seq (.blk 3
              (.seq (.rgn [] [⟨some 55, (.indexAddr 30 (.tmp 51) (.tmp 53)), 0, none⟩,
                ⟨some 56, (.load 3 (.tmp 55)), 3, none⟩,
                ⟨some 8, (.assign (.tmp 56)), 3, none⟩])
              (.seq (.seq (.rgn [] [⟨some 57, (.move (.tmp 8)), 3, none⟩,
                ⟨some 58, (.move (.tmp 3)), 3, none⟩,
                ⟨some 59, (.binOp .sub 3 (.tmp 58) (.const (.int .i64 1)) 3), 3, none⟩,
                ⟨some 60, (.call { callee := (.value (.func 82)), args := #[(.tmp 57), (.const (.int .i64 0)), (.tmp 59)], argTypes := #[3, 3, 3] }), 4, none⟩,
                ⟨some 61, (.unOp .not 4 (.tmp 60)), 4, none⟩])
              (.cond (.tmp 61)
                (.seq (.rgn [] [⟨some 2, (.assign (.const (.bool false))), 4, none⟩])
                .ret)
                .skip))
              (.rgn [] [⟨some 62, (.move (.tmp 4)), 184, none⟩,
                ⟨some 63, (.move (.tmp 8)), 3, none⟩,
                ⟨some 64, (.indexAddr 184 (.tmp 62) (.tmp 63)), 0, none⟩,
                ⟨none, (.store 4 (.tmp 64) (.const (.bool true))), 0, none⟩]))))
            (.rgn [] [⟨some 65, (.binOp .add 3 (.tmp 53) (.const (.int .i64 1)) 3), 3, none⟩,
              ⟨some 53, (.move (.tmp 65)), 3, none⟩]))))))))))
      (.rgn [] [⟨some 66, (.binOp .add 3 (.tmp 35) (.const (.int .i64 1)) 3), 3, none⟩,
        ⟨some 35, (.move (.tmp 66)), 3, none⟩])))))))
  (.seq (.seq (.rgn [] [⟨some 67, (.move (.tmp 4)), 184, none⟩,
    ⟨some 68, (.call { callee := (.builtin .len), args := #[(.tmp 67)], argTypes := #[184] }), 3, none⟩,
    ⟨some 69, (.move (.const (.int .i64 0))), 3, none⟩])
  (.blk 4
    (.loop []
      (.seq (.rgn [] [⟨some 70, (.binOp .lss 3 (.tmp 69) (.tmp 68) 3), 0, none⟩])
      (.seq (.cond (.tmp 70)
        .skip
        (.exit 4))
      (.seq (.blk 5
        (.seq (.rgn [] [⟨some 71, (.indexAddr 184 (.tmp 67) (.tmp 69)), 0, none⟩,
          ⟨some 72, (.load 4 (.tmp 71)), 4, none⟩,
          ⟨some 10, (.assign (.tmp 72)), 4, none⟩])
        (.seq (.rgn [] [⟨some 73, (.move (.tmp 10)), 4, none⟩,
          ⟨some 74, (.unOp .not 4 (.tmp 73)), 4, none⟩])
        (.cond (.tmp 74)
          (.seq (.rgn [] [⟨some 2, (.assign (.const (.bool false))), 4, none⟩])
          .ret)
          .skip))))
      (.rgn [] [⟨some 75, (.binOp .add 3 (.tmp 69) (.const (.int .i64 1)) 3), 3, none⟩,
        ⟨some 69, (.move (.tmp 75)), 3, none⟩])))))))
  (.seq (.rgn [] [⟨some 2, (.assign (.const (.bool true))), 4, none⟩])
  .ret)))))))
theorem lit125 : Lit Try.prog 125 76 [1, 4, 6, 31] [.tmp 2] c125 := ⟨⟨Try.f125, _, Try.func125, rfl, by kernel_rfl, rfl, rfl, by kernel_rfl, by kernel_rfl⟩, by decide, by kernel_rfl⟩
/-- laws.markAtomS -/
def c126 : LC :=
  (.seq (.rgn [] [⟨some 4, (.assign (.const (.int .i64 0))), 3, none⟩])
  (.seq (.seq (.rgn [] [⟨some 5, (.assign (.const (.int .i64 0))), 3, none⟩])
  (.blk 0
    (.loop []
      (.seq (.seq (.rgn [] [⟨some 6, (.move (.tmp 5)), 3, none⟩,
        ⟨some 7, (.move (.tmp 0)), 54, none⟩,
        ⟨some 8, (.call { callee := (.builtin .len), args := #[(.tmp 7)], argTypes := #[54] }), 3, none⟩,
        ⟨some 9, (.binOp .lss 3 (.tmp 6) (.tmp 8) 3), 4, none⟩])
      (.cond (.tmp 9)
        .skip
        (.exit 0)))
      (.seq (.blk 1
        (.seq (.rgn [] [⟨some 12, (.move (.tmp 0)), 54, none⟩,
          ⟨some 13, (.move (.tmp 5)), 3, none⟩,
          ⟨some 14, (.move (.tmp 1)), 3, none⟩,
          ⟨some 15, (.call { callee := (.value (.func 138)), args := #[(.tmp 14)], argTypes := #[3] }), 9, none⟩,
          ⟨some 16, (.indexAddr 54 (.tmp 12) (.tmp 13)), 0, none⟩,
          ⟨some 17, (.fieldAddr 150 (.tmp 16) 0), 0, none⟩,
          ⟨none, (.store 9 (.tmp 17) (.tmp 15)), 0, none⟩])
        (.seq (.rgn [] [⟨some 18, (.move (.tmp 1)), 3, none⟩,
          ⟨some 19, (.binOp .add 3 (.tmp 18) (.const (.int .i64 1)) 3), 3, none⟩,
          ⟨some 1, (.assign (.tmp 19)), 3, none⟩])
        (.rgn [] [⟨some 20, (.move (.tmp 0)), 54, none⟩,
          ⟨some 21, (.move (.tmp 5)), 3, none⟩,
          ⟨some 22, (.indexAddr 54 (.tmp 20) (.tmp 21)), 0, none⟩,
          ⟨some 23, (.fieldAddr 150 (.tmp 22) 1), 0, none⟩,
          ⟨some 24, (.load 30 (.tmp 23)), 30, none⟩,
          ⟨some 25, (.move (.tmp 1)), 3, none⟩,
          ⟨some 26, (.call { callee := (.value (.func 57)), args := #[(.tmp 24), (.tmp 25)], argTypes := #[30, 3] }), 3, none⟩,
          ⟨some 1, (.assign (.tmp 26)), 3, none⟩]))))
      (.rgn [] [⟨some 10, (.move (.tmp 5)), 3, none⟩,
        ⟨some 11, (.binOp .add 3 (.tmp 10) (.const (.int .i64 1)) 3), 3, none⟩,
        ⟨some 5, (.assign (.tmp 11)), 3, none⟩]))))))
  (.seq (.rgn [] [⟨some 27, (.move (.tmp 1)), 3, none⟩,
    ⟨some 4, (.assign (.tmp 27)), 3, none⟩])
  .ret)))
theorem lit126 : Lit Try.prog 126 28 [] [.tmp 4] c126 := ⟨⟨Try.f126, _, Try.func126, rfl, by kernel_rfl, rfl, rfl, by kernel_rfl, by kernel_rfl⟩, by decide, by kernel_rfl⟩
/-- laws.markText -/
def c138 : LC :=
  (.seq (.rgn [] [⟨some 2, (.assign (.const (.string { data := #[] }))), 9, none⟩])
  (.seq (.seq (.rgn [] [⟨some 4, (.move (.tmp 0)), 3, none⟩,
    ⟨some 5, (.binOp .leq 3 (.tmp 4) (.const (.int .i64 0)) 3), 4, none⟩])
  (.cond (.tmp 5)
    (.seq (.rgn [] [⟨some 2, (.assign (.const (.string { data := #[109, 48] }))), 9, none⟩])
    .ret)
    .skip))
  (.seq (.rgn [] [⟨some 3, (.assign (.const (.string { data := #[] }))), 9, none⟩])
  (.seq (.blk 0
    (.loop []
      (.seq (.seq (.rgn [] [⟨some 6, (.move (.tmp 0)), 3, none⟩,
        ⟨some 7, (.binOp .gtr 3 (.tmp 6) (.const (.int .i64 0)) 3), 4, none⟩])
      (.cond (.tmp 7)
        .skip
        (.exit 0)))
      (.blk 1
        (.seq (.rgn [] [⟨some 8, (.move (.tmp 0)), 3, none⟩,
          ⟨some 9, (.binOp .rem 3 (.tmp 8) (.const (.int .i64 10)) 3), 3, none⟩,
          ⟨some 10, (.binOp .add 3 (.const (.int .i64 48)) (.tmp 9) 3), 3, none⟩,
          ⟨some 11, (.convert 3 5 (.tmp 10)), 5, none⟩,
          ⟨some 12, (.buildSlice 62 1 #[(0, (.tmp 11))]), 62, none⟩,
          ⟨some 13, (.convert 62 9 (.tmp 12)), 9, none⟩,
          ⟨some 14, (.move (.tmp 3)), 9, none⟩,
          ⟨some 15, (.binOp .add 9 (.tmp 13) (.tmp 14) 9), 9, none⟩,
          ⟨some 3, (.assign (.tmp 15)), 9, none⟩])
        (.rgn [] [⟨some 16, (.move (.tmp 0)), 3, none⟩,
          ⟨some 17, (.binOp .quo 3 (.tmp 16) (.const (.int .i64 10)) 3), 3, none⟩,
          ⟨some 0, (.assign (.tmp 17)), 3, none⟩]))))))
  (.seq (.rgn [] [⟨some 18, (.move (.tmp 3)), 9, none⟩,
    ⟨some 19, (.binOp .add 9 (.const (.string { data := #[109] })) (.tmp 18) 9), 9, none⟩,
    ⟨some 2, (.assign (.tmp 19)), 9, none⟩])
  .ret)))))
theorem lit138 : Lit Try.prog 138 20 [] [.tmp 2] c138 := ⟨⟨Try.f138, _, Try.func138, rfl, by kernel_rfl, rfl, rfl, by kernel_rfl, by kernel_rfl⟩, by decide, by kernel_rfl⟩
/-- laws.szAtom -/
def c150 : LC :=
  (.seq (.rgn [] [⟨some 2, (.box 171 (.tmp 0)), 0, none⟩,
    ⟨some 4, (.assign (.const (.int .i64 0))), 3, none⟩])
  (.seq (.rgn [] [⟨some 5, (.move (.tmp 1)), 3, none⟩,
    ⟨some 6, (.fieldAddr 171 (.tmp 2) 0), 0, none⟩,
    ⟨some 7, (.load 9 (.tmp 6)), 9, none⟩,
    ⟨some 8, (.call { callee := (.builtin .len), args := #[(.tmp 7)], argTypes := #[9] }), 3, none⟩,
    ⟨some 9, (.binOp .sub 3 (.tmp 5) (.tmp 8) 3), 3, none⟩,
    ⟨some 1, (.assign (.tmp 9)), 3, none⟩])
  (.seq (.seq (.rgn [] [⟨some 10, (.move (.tmp 1)), 3, none⟩,
    ⟨some 11, (.binOp .lss 3 (.tmp 10) (.const (.int .i64 0)) 3), 4, none⟩])
  (.cond (.tmp 11)
    (.seq (.rgn [] [⟨some 4, (.assign (.const (.int .i64 (-1)))), 3, none⟩])
    .ret)
    .skip))
  (.seq (.rgn [] [⟨some 12, (.fieldAddr 171 (.tmp 2) 1), 0, none⟩,
    ⟨some 13, (.load 30 (.tmp 12)), 30, none⟩,
    ⟨some 14, (.move (.tmp 1)), 3, none⟩,
    ⟨some 15, (.call { callee := (.value (.func 87)), args := #[(.tmp 13), (.tmp 14)], argTypes := #[30, 3] }), 3, none⟩,
    ⟨some 1, (.assign (.tmp 15)), 3, none⟩])
  (.seq (.seq (.rgn [] [⟨some 16, (.move (.tmp 1)), 3, none⟩,
    ⟨some 17, (.binOp .lss 3 (.tmp 16) (.const (.int .i64 0)) 3), 4, none⟩])
  (.cond (.tmp 17)
    (.seq (.rgn [] [⟨some 4, (.assign (.const (.int .i64 (-1)))), 3, none⟩])
    .ret)
    .skip))
  (.seq (.rgn [] [⟨some 18, (.move (.tmp 1)), 3, none⟩,
    ⟨some 4, (.assign (.tmp 18)), 3, none⟩])
  .ret))))))
theorem lit150 : Lit Try.prog 150 19 [2] [.tmp 4] c150 := ⟨⟨Try.f150, _, Try.func150, rfl, by kernel_rfl, rfl, rfl, by kernel_rfl, by kernel_rfl⟩, by decide, by kernel_rfl⟩
/-- laws.toAtom -/
def c151 : LC :=
  (.seq (.rgn [] [⟨some 1, (.box 171 (.tmp 0)), 0, none⟩,
    ⟨some 2, (.alloc 150), 0, none⟩])
  (.seq (.rgn [] [⟨some 3, (.alloc 150), 0, none⟩])
  (.seq (.rgn [] [⟨some 4, (.fieldAddr 171 (.tmp 1) 0), 0, none⟩,
    ⟨some 5, (.load 9 (.tmp 4)), 9, none⟩,
    ⟨some 6, (.fieldAddr 150 (.tmp 3) 0), 0, none⟩,
    ⟨none, (.store 9 (.tmp 6) (.tmp 5)), 0, none⟩])
  (.seq (.rgn [] [⟨some 7, (.fieldAddr 171 (.tmp 1) 1), 0, none⟩,
    ⟨some 8, (.load 30 (.tmp 7)), 30, none⟩,
    ⟨some 9, (.call { callee := (.value (.func 32)), args := #[(.tmp 8)], argTypes := #[30] }), 30, none⟩,
    ⟨some 10, (.fieldAddr 150 (.tmp 3) 1), 0, none⟩,
    ⟨none, (.store 30 (.tmp 10) (.tmp 9)), 0, none⟩])
  (.seq (.rgn [11] [⟨some 11, (.load 150 (.tmp 3)), 150, none⟩,
    ⟨none, (.store 150 (.tmp 2) (.tmp 11)), 0, none⟩])
  .ret)))))
theorem lit151 : Lit Try.prog 151 12 [1, 2, 3] [.cell 2 150] c151 := ⟨⟨Try.f151, _, Try.func151, rfl, by kernel_rfl, rfl, rfl, by kernel_rfl, by kernel_rfl⟩, by decide, by kernel_rfl⟩
/-- laws.eqAtom -/
def c152 : LC :=
  (.seq (.rgn [] [⟨some 2, (.box 150 (.tmp 0)), 0, none⟩,
    ⟨some 3, (.box 150 (.tmp 1)), 0, none⟩,
    ⟨some 4, (.assign (.const (.bool false))), 4, none⟩])
  (.seq (.seq (.rgn [] [⟨some 5, (.fieldAddr 150 (.tmp 2) 0), 0, none⟩,
    ⟨some 6, (.load 9 (.tmp 5)), 9, none⟩,
    ⟨some 7, (.fieldAddr 150 (.tmp 3) 0), 0, none⟩,
    ⟨some 8, (.load 9 (.tmp 7)), 9, none⟩,
    ⟨some 9, (.binOp .neq 9 (.tmp 6) (.tmp 8) 9), 4, none⟩])
  (.cond (.tmp 9)
    (.seq (.rgn [] [⟨some 4, (.assign (.const (.bool false))), 4, none⟩])
    .ret)
    .skip))
  (.seq (.seq (.rgn [] [⟨some 10, (.fieldAddr 150 (.tmp 2) 1), 0, none⟩,
    ⟨some 11, (.load 30 (.tmp 10)), 30, none⟩,
    ⟨some 12, (.fieldAddr 150 (.tmp 3) 1), 0, none⟩,
    ⟨some 13, (.load 30 (.tmp 12)), 30, none⟩,
    ⟨some 14, (.call { callee := (.value (.func 35)), args := #[(.tmp 11), (.tmp 13)], argTypes := #[30, 30] }), 4, none⟩,
    ⟨some 15, (.unOp .not 4 (.tmp 14)), 4, none⟩])
  (.cond (.tmp 15)
    (.seq (.rgn [] [⟨some 4, (.assign (.const (.bool false))), 4, none⟩])
    .ret)
    .skip))
  (.seq (.rgn [] [⟨some 4, (.assign (.const (.bool true))), 4, none⟩])
  .ret))))
theorem lit152 : Lit Try.prog 152 16 [2, 3] [.tmp 4] c152 := ⟨⟨Try.f152, _, Try.func152, rfl, by kernel_rfl, rfl, rfl, by kernel_rfl, by kernel_rfl⟩, by decide, by kernel_rfl⟩
/-- spec.IsValidName -/
def c158 : LC :=
  (.seq (.rgn [] [⟨some 2, (.assign (.const (.bool false))), 4, none⟩])
  (.seq (.seq (.rgn [] [⟨some 3, (.assign (.const (.int .i64 0))), 3, none⟩])
  (.blk 0
    (.loop []
      (.seq (.seq (.rgn [] [⟨some 4, (.move (.tmp 3)), 3, none⟩,
        ⟨some 5, (.move (.tmp 0)), 9, none⟩,
        ⟨some 6, (.call { callee := (.builtin .len), args := #[(.tmp 5)], argTypes := #[9] }), 3, none⟩,
        ⟨some 7, (.binOp .lss 3 (.tmp 4) (.tmp 6) 3), 4, none⟩])
      (.cond (.tmp 7)
        .skip
        (.exit 0)))
      (.seq (.blk 1
        (.seq (.rgn [] [⟨some 10, (.move (.tmp 0)), 9, none⟩,
          ⟨some 11, (.move (.tmp 3)), 3, none⟩,
          ⟨some 12, (.index 9 (.tmp 10) (.tmp 11)), 5, none⟩,
          ⟨some 13, (.binOp .lss 5 (.tmp 12) (.const (.int .u8 97)) 5), 4, none⟩,
          ⟨some 14, (.move (.tmp 13)), 4, none⟩,
          ⟨some 15, (.move (.tmp 0)), 9, some (some 14, false)⟩,
          ⟨some 16, (.move (.tmp 3)), 3, some (some 14, false)⟩,
          ⟨some 17, (.index 9 (.tmp 15) (.tmp 16)), 5, some (some 14, false)⟩,
          ⟨some 18, (.binOp .gtr 5 (.tmp 17) (.const (.int .u8 122)) 5), 4, some (some 14, false)⟩,
          ⟨some 19, (.pick (.tmp 14) (.const (.bool true)) (.tmp 18)), 4, none⟩])
        (.cond (.tmp 19)
          (.seq (.rgn [] [⟨some 2, (.assign (.const (.bool false))), 4, none⟩])
          .ret)
          .skip)))
      (.rgn [] [⟨some 8, (.move (.tmp 3)), 3, none⟩,
        ⟨some 9, (.binOp .add 3 (.tmp 8) (.const (.int .i64 1)) 3), 3, none⟩,
        ⟨some 3, (.assign (.tmp 9)), 3, none⟩]))))))
  (.seq (.rgn [] [⟨some 20, (.move (.tmp 0)), 9, none⟩,
    ⟨some 21, (.call { callee := (.builtin .len), args := #[(.tmp 20)], argTypes := #[9] }), 3, none⟩,
    ⟨some 22, (.call { callee := (.value (.func 80)), args := #[(.tmp 21), (.const (.int .i64 1)), (.const (.int .i64 4))], argTypes := #[3, 3, 3] }), 4, none⟩,
    ⟨some 2, (.assign (.tmp 22)), 4, none⟩])
  .ret)))
theorem lit158 : Lit Try.prog 158 23 [] [.tmp 2] c158 := ⟨⟨Try.f158, _, Try.func158, rfl, by kernel_rfl, rfl, rfl, by kernel_rfl, by kernel_rfl⟩, by decide, by kernel_rfl⟩
/-- impl.IsValidName -/
def c159 : LC :=
  (.seq (.rgn [] [⟨some 2, (.assign (.const (.bool false))), 4, none⟩])
  (.seq (.rgn [] [⟨some 3, (.move (.tmp 0)), 9, none⟩,
    ⟨some 4, (.call { callee := (.value (.func 171)), args := #[(.tmp 3), (.const (.int .i64 4))], argTypes := #[9, 3] }), 4, none⟩,
    ⟨some 2, (.assign (.tmp 4)), 4, none⟩])
  .ret))
theorem lit159 : Lit Try.prog 159 5 [] [.tmp 2] c159 := ⟨⟨Try.f159, _, Try.func159, rfl, by kernel_rfl, rfl, rfl, by kernel_rfl, by kernel_rfl⟩, by decide, by kernel_rfl⟩
/-- spec.ContainsVariable -/
def c160 : LC :=
  (.seq (.rgn [] [⟨some 2, (.box 150 (.tmp 0)), 0, none⟩,
    ⟨some 4, (.assign (.const (.bool false))), 4, none⟩])
  (.seq (.seq (.rgn [] [⟨some 5, (.assign (.const (.int .i64 0))), 3, none⟩])
  (.blk 0
    (.loop []
      (.seq (.seq (.rgn [] [⟨some 6, (.move (.tmp 5)), 3, none⟩,
        ⟨some 7, (.fieldAddr 150 (.tmp 2) 1), 0, none⟩,
        ⟨some 8, (.load 30 (.tmp 7)), 30, none⟩,
        ⟨some 9, (.call { callee := (.builtin .len), args := #[(.tmp 8)], argTypes := #[30] }), 3, none⟩,
        ⟨some 10, (.binOp .lss 3 (.tmp 6) (.tmp 9) 3), 4, none⟩])
      (.cond (.tmp 10)
        .skip
        (.exit 0)))
      (.seq (.blk 1
        (.seq (.rgn [] [⟨some 13, (.fieldAddr 150 (.tmp 2) 1), 0, none⟩,
          ⟨some 14, (.load 30 (.tmp 13)), 30, none⟩,
          ⟨some 15, (.move (.tmp 5)), 3, none⟩,
          ⟨some 16, (.indexAddr 30 (.tmp 14) (.tmp 15)), 0, none⟩,
          ⟨some 17, (.load 3 (.tmp 16)), 3, none⟩,
          ⟨some 18, (.move (.tmp 1)), 3, none⟩,
          ⟨some 19, (.binOp .eql 3 (.tmp 17) (.tmp 18) 3), 4, none⟩])
        (.cond (.tmp 19)
          (.seq (.rgn [] [⟨some 4, (.assign (.const (.bool true))), 4, none⟩])
          .ret)
          .skip)))
      (.rgn [] [⟨some 11, (.move (.tmp 5)), 3, none⟩,
        ⟨some 12, (.binOp .add 3 (.tmp 11) (.const (.int .i64 1)) 3), 3, none⟩,
        ⟨some 5, (.assign (.tmp 12)), 3, none⟩]))))))
  (.seq (.rgn [] [⟨some 4, (.assign (.const (.bool false))), 4, none⟩])
  .ret)))
theorem lit160 : Lit Try.prog 160 20 [2] [.tmp 4] c160 := ⟨⟨Try.f160, _, Try.func160, rfl, by kernel_rfl, rfl, rfl, by kernel_rfl, by kernel_rfl⟩, by decide, by kernel_rfl⟩
/-- impl.isSetOf -/
def c161 : LC :=
  (.seq (.rgn [] [⟨some 4, (.assign (.const (.bool false))), 4, none⟩])
  (.seq (.seq (.rgn [] [⟨some 7, (.move (.tmp 0)), 30, none⟩,
    ⟨some 8, (.call { callee := (.builtin .len), args := #[(.tmp 7)], argTypes := #[30] }), 3, none⟩,
    ⟨some 9, (.move (.const (.int .i64 0))), 3, none⟩])
  (.blk 0
    (.loop []
      (.seq (.rgn [] [⟨some 10, (.binOp .lss 3 (.tmp 9) (.tmp 8) 3), 0, none⟩])
      (.seq (.cond (.tmp 10)
        .skip
        (.exit 0))
      (.seq (.blk 1
        (.seq (.rgn [] [⟨some 11, (.move (.tmp 9)), 3, none⟩,
          ⟨some 12, (.indexAddr 30 (.tmp 7) (.tmp 9)), 0, none⟩,
          ⟨some 13, (.load 3 (.tmp 12)), 3, none⟩,
          ⟨some 5, (.assign (.tmp 11)), 3, none⟩,
          ⟨some 6, (.assign (.tmp 13)), 3, none⟩])
        (.seq (.rgn [] [⟨some 14, (.move (.tmp 6)), 3, none⟩,
          ⟨some 15, (.move (.tmp 1)), 3, none⟩,
          ⟨some 16, (.binOp .sub 3 (.tmp 15) (.const (.int .i64 1)) 3), 3, none⟩,
          ⟨some 17, (.call { callee := (.value (.func 82)), args := #[(.tmp 14), (.const (.int .i64 0)), (.tmp 16)], argTypes := #[3, 3, 3] }), 4, none⟩,
          ⟨some 18, (.unOp .not 4 (.tmp 17)), 4, none⟩,
          ⟨some 19, (.move (.tmp 18)), 4, none⟩,
          ⟨some 20, (.move (.tmp 0)), 30, some (some 19, false)⟩,
          ⟨some 21, (.move (.tmp 5)), 3, some (some 19, false)⟩,
          ⟨some 22, (.slice 30 (.tmp 20) none (some (.tmp 21)) none), 30, some (some 19, false)⟩,
          ⟨some 23, (.move (.tmp 6)), 3, some (some 19, false)⟩,
          ⟨some 24, (.call { callee := (.value (.func 172)), args := #[(.tmp 22), (.tmp 23)], argTypes := #[30, 3] }), 4, some (some 19, false)⟩,
          ⟨some 25, (.pick (.tmp 19) (.const (.bool true)) (.tmp 24)), 4, none⟩])
        (.cond (.tmp 25)
          (.seq (.rgn [] [⟨some 4, (.assign (.const (.bool false))), 4, none⟩])
          .ret)
          .skip))))
      (.rgn [] [⟨some 26, (.binOp .add 3 (.tmp 9) (.const (.int .i64 1)) 3), 3, none⟩,
        ⟨some 9, (.move (.tmp 26)), 3, none⟩])))))))
  (.seq (.rgn [] [⟨some 4, (.assign (.const (.bool true))), 4, none⟩])
  .ret)))
theorem lit161 : Lit Try.prog 161 27 [] [.tmp 4] c161 := ⟨⟨Try.f161, _, Try.func161, rfl, by kernel_rfl, rfl, rfl, by kernel_rfl, by kernel_rfl⟩, by decide, by kernel_rfl⟩
/-- impl.isLetters -/
def c171 : LC :=
  (.seq (.rgn [] [⟨some 4, (.assign (.const (.bool false))), 4, none⟩])
  (.seq (.seq (.rgn [] [⟨some 6, (.move (.tmp 0)), 9, none⟩,
    ⟨some 7, (.call { callee := (.builtin .len), args := #[(.tmp 6)], argTypes := #[9] }), 3, none⟩,
    ⟨some 8, (.binOp .lss 3 (.tmp 7) (.const (.int .i64 1)) 3), 4, none⟩,
    ⟨some 9, (.move (.tmp 8)), 4, none⟩,
    ⟨some 10, (.move (.tmp 0)), 9, some (some 9, false)⟩,
    ⟨some 11, (.call { callee := (.builtin .len), args := #[(.tmp 10)], argTypes := #[9] }), 3, some (some 9, false)⟩,
    ⟨some 12, (.move (.tmp 1)), 3, some (some 9, false)⟩,
    ⟨some 13, (.binOp .gtr 3 (.tmp 11) (.tmp 12) 3), 4, some (some 9, false)⟩,
    ⟨some 14, (.pick (.tmp 9) (.const (.bool true)) (.tmp 13)), 4, none⟩])
  (.cond (.tmp 14)
    (.seq (.rgn [] [⟨some 4, (.assign (.const (.bool false))), 4, none⟩])
    .ret)
    .skip))
  (.seq (.seq (.rgn [] [⟨some 5, (.assign (.const (.int .i64 0))), 3, none⟩])
  (.blk 0
    (.loop []
      (.seq (.seq (.rgn [] [⟨some 15, (.move (.tmp 5)), 3, none⟩,
        ⟨some 16, (.move (.tmp 0)), 9, none⟩,
        ⟨some 17, (.call { callee := (.builtin .len), args := #[(.tmp 16)], argTypes := #[9] }), 3, none⟩,
        ⟨some 18, (.binOp .lss 3 (.tmp 15) (.tmp 17) 3), 4, none⟩])
      (.cond (.tmp 18)
        .skip
        (.exit 0)))
      (.seq (.blk 1
        (.seq (.rgn [] [⟨some 21, (.move (.tmp 0)), 9, none⟩,
          ⟨some 22, (.move (.tmp 5)), 3, none⟩,
          ⟨some 23, (.index 9 (.tmp 21) (.tmp 22)), 5, none⟩,
          ⟨some 24, (.binOp .lss 5 (.tmp 23) (.const (.int .u8 97)) 5), 4, none⟩,
          ⟨some 25, (.move (.tmp 24)), 4, none⟩,
          ⟨some 26, (.move (.tmp 0)), 9, some (some 25, false)⟩,
          ⟨some 27, (.move (.tmp 5)), 3, some (some 25, false)⟩,
          ⟨some 28, (.index 9 (.tmp 26) (.tmp 27)), 5, some (some 25, false)⟩,
          ⟨some 29, (.binOp .gtr 5 (.tmp 28) (.const (.int .u8 122)) 5), 4, some (some 25, false)⟩,
          ⟨some 30, (.pick (.tmp 25) (.const (.bool true)) (.tmp 29)), 4, none⟩])
        (.cond (.tmp 30)
          (.seq (.rgn [] [⟨some 4, (.assign (.const (.bool false))), 4, none⟩])
          .ret)
          .skip)))
      (.rgn [] [⟨some 19, (.move (.tmp 5)), 3, none⟩,
        ⟨some 20, (.binOp .add 3 (.tmp 19) (.const (.int .i64 1)) 3), 3, none⟩,
        ⟨some 5, (.assign (.tmp 20)), 3, none⟩]))))))
  (.seq (.rgn [] [⟨some 4, (.assign (.const (.bool true))), 4, none⟩])
  .ret))))
theorem lit171 : Lit Try.prog 171 31 [] [.tmp 4] c171 := ⟨⟨Try.f171, _, Try.func171, rfl, by kernel_rfl, rfl, rfl, by kernel_rfl, by kernel_rfl⟩, by decide, by kernel_rfl⟩
/-- impl.hasInt -/
def c172 : LC :=
  (.seq (.rgn [] [⟨some 4, (.assign (.const (.bool false))), 4, none⟩])
  (.seq (.rgn [] [⟨some 5, (.move (.tmp 0)), 30, none⟩,
    ⟨some 6, (.move (.tmp 1)), 3, none⟩,
    ⟨some 7, (.call { callee := (.value (.func 104)), args := #[(.tmp 5), (.tmp 6)], argTypes := #[30, 3] }), 3, none⟩,
    ⟨some 8, (.binOp .geq 3 (.tmp 7) (.const (.int .i64 0)) 3), 4, none⟩,
    ⟨some 4, (.assign (.tmp 8)), 4, none⟩])
  .ret))
theorem lit172 : Lit Try.prog 172 9 [] [.tmp 4] c172 := ⟨⟨Try.f172, _, Try.func172, rfl, by kernel_rfl, rfl, rfl, by kernel_rfl, by kernel_rfl⟩, by decide, by kernel_rfl⟩
end Go.Proofs.Ytkmkbpphdalgoaa
