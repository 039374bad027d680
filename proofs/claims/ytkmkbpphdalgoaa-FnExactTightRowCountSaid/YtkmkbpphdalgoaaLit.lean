/-
  The functions' code as the program holds it, without places and edges; printed by genlit.py. No conditions.
-/
import Derived.Test.YtkmkbpphdalgoaaTb
namespace Go.Proofs.Ytkmkbpphdalgoaa
open Go.RowKit
set_option linter.unusedVariables false
set_option maxRecDepth 100000
/-- laws.FnExactTightRowCount -/
def c6 : LC :=
  (.seq (.rgn [] [⟨some 3, (.box 50 (.tmp 0)), 0, none⟩,
    ⟨some 6, (.assign (.const (.bool false))), 4, none⟩])
  (.seq (.seq (.rgn [] [⟨some 14, (.move (.tmp 1)), 30, none⟩,
    ⟨some 15, (.call { callee := (.builtin .len), args := #[(.tmp 14)], argTypes := #[30] }), 3, none⟩,
    ⟨some 16, (.binOp .gtr 3 (.tmp 15) (.const (.int .i64 1048576)) 3), 4, none⟩])
  (.cond (.tmp 16)
    (.seq (.rgn [] [⟨some 6, (.assign (.const (.bool true))), 4, none⟩])
    .ret)
    .skip))
  (.seq (.rgn [] [⟨some 7, (.assign (.const (.int .i64 1048576))), 3, none⟩])
  (.seq (.rgn [] [⟨some 17, (.load 50 (.tmp 3)), 50, none⟩,
    ⟨some 18, (.move (.tmp 7)), 3, none⟩,
    ⟨some 19, (.call { callee := (.value (.func 29)), args := #[(.tmp 17), (.tmp 18)], argTypes := #[50, 3] }), 3, none⟩,
    ⟨some 7, (.assign (.tmp 19)), 3, none⟩])
  (.seq (.seq (.rgn [] [⟨some 20, (.move (.tmp 7)), 3, none⟩,
    ⟨some 21, (.binOp .lss 3 (.tmp 20) (.const (.int .i64 0)) 3), 4, none⟩])
  (.cond (.tmp 21)
    (.seq (.rgn [] [⟨some 6, (.assign (.const (.bool true))), 4, none⟩])
    .ret)
    .skip))
  (.seq (.rgn [] [⟨some 23, (.load 50 (.tmp 3)), 50, none⟩,
    ⟨some 24, (.call { callee := (.value (.func 31)), args := #[(.tmp 23)], argTypes := #[50] }), 56, none⟩,
    ⟨some 25, (.move (.tmp 1)), 30, none⟩,
    ⟨some 26, (.call { callee := (.value (.func 32)), args := #[(.tmp 25)], argTypes := #[30] }), 30, none⟩,
    ⟨some 27, (.move (.tmp 2)), 3, none⟩,
    ⟨some 28, (.call { callee := (.value (.func 30)), args := #[(.tmp 24), (.tmp 26), (.tmp 27)], argTypes := #[56, 30, 3] }), 52, none⟩,
    ⟨some 22, (.move (.tmp 28)), 52, none⟩,
    ⟨some 29, (.extract (.tmp 22) 0), 3, none⟩,
    ⟨some 30, (.extract (.tmp 22) 1), 4, none⟩,
    ⟨some 8, (.assign (.tmp 29)), 3, none⟩,
    ⟨some 9, (.assign (.tmp 30)), 4, none⟩])
  (.seq (.rgn [] [⟨some 31, (.load 50 (.tmp 3)), 50, none⟩,
    ⟨some 32, (.call { callee := (.value (.func 31)), args := #[(.tmp 31)], argTypes := #[50] }), 56, none⟩,
    ⟨some 10, (.alloc 56), 0, none⟩,
    ⟨none, (.store 56 (.tmp 10) (.tmp 32)), 0, none⟩])
  (.seq (.rgn [] [⟨some 33, (.move (.tmp 1)), 30, none⟩,
    ⟨some 34, (.call { callee := (.value (.func 32)), args := #[(.tmp 33)], argTypes := #[30] }), 30, none⟩,
    ⟨some 11, (.assign (.tmp 34)), 30, none⟩])
  (.seq (.rgn [] [⟨some 36, (.load 56 (.tmp 10)), 56, none⟩,
    ⟨some 37, (.move (.tmp 11)), 30, none⟩,
    ⟨some 38, (.move (.tmp 2)), 3, none⟩,
    ⟨some 39, (.call { callee := (.value (.func 33)), args := #[(.tmp 36), (.tmp 37), (.tmp 38)], argTypes := #[56, 30, 3] }), 52, none⟩,
    ⟨some 35, (.move (.tmp 39)), 52, none⟩,
    ⟨some 40, (.extract (.tmp 35) 0), 3, none⟩,
    ⟨some 41, (.extract (.tmp 35) 1), 4, none⟩,
    ⟨some 12, (.assign (.tmp 40)), 3, none⟩,
    ⟨some 13, (.assign (.tmp 41)), 4, none⟩])
  (.seq (.seq (.rgn [] [⟨some 42, (.move (.tmp 12)), 3, none⟩,
    ⟨some 43, (.move (.tmp 8)), 3, none⟩,
    ⟨some 44, (.binOp .neq 3 (.tmp 42) (.tmp 43) 3), 4, none⟩,
    ⟨some 45, (.move (.tmp 44)), 4, none⟩,
    ⟨some 46, (.move (.tmp 13)), 4, some (some 45, false)⟩,
    ⟨some 47, (.move (.tmp 9)), 4, some (some 45, false)⟩,
    ⟨some 48, (.binOp .neq 4 (.tmp 46) (.tmp 47) 4), 4, some (some 45, false)⟩,
    ⟨some 49, (.pick (.tmp 45) (.const (.bool true)) (.tmp 48)), 4, none⟩])
  (.cond (.tmp 49)
    (.seq (.rgn [] [⟨some 6, (.assign (.const (.bool false))), 4, none⟩])
    .ret)
    .skip))
  (.seq (.seq (.drw [] [([10], [50]), ([3], [51]), ([51], [52]), ([50, 52], [53]), ([53], [54])] [[], [], [1], [0, 2, 2], [3]] [⟨some 50, (.load 56 (.tmp 10)), 56, none⟩,
    ⟨some 51, (.load 50 (.tmp 3)), 50, none⟩,
    ⟨some 52, (.call { callee := (.value (.func 31)), args := #[(.tmp 51)], argTypes := #[50] }), 56, none⟩,
    ⟨some 53, (.call { callee := (.value (.func 34)), args := #[(.tmp 50), (.tmp 52)], argTypes := #[56, 56] }), 4, none⟩,
    ⟨some 54, (.unOp .not 4 (.tmp 53)), 4, none⟩])
  (.cond (.tmp 54)
    (.seq (.rgn [] [⟨some 6, (.assign (.const (.bool false))), 4, none⟩])
    .ret)
    .skip))
  (.seq (.seq (.rgn [] [⟨some 55, (.move (.tmp 11)), 30, none⟩,
    ⟨some 56, (.move (.tmp 1)), 30, none⟩,
    ⟨some 57, (.call { callee := (.value (.func 32)), args := #[(.tmp 56)], argTypes := #[30] }), 30, none⟩,
    ⟨some 58, (.call { callee := (.value (.func 35)), args := #[(.tmp 55), (.tmp 57)], argTypes := #[30, 30] }), 4, none⟩,
    ⟨some 59, (.unOp .not 4 (.tmp 58)), 4, none⟩])
  (.cond (.tmp 59)
    (.seq (.rgn [] [⟨some 6, (.assign (.const (.bool false))), 4, none⟩])
    .ret)
    .skip))
  (.seq (.rgn [] [⟨some 6, (.assign (.const (.bool true))), 4, none⟩])
  .ret)))))))))))))
theorem lit6 : Lit Try.prog 6 60 [3, 10] [.tmp 6] c6 := ⟨⟨Try.f6, _, Try.func6, rfl, by kernel_rfl, rfl, rfl, by kernel_rfl, by kernel_rfl⟩, by decide, by kernel_rfl⟩
/-- laws.FnExactIsValidHistory -/
def c8 : LC :=
  (.seq (.rgn [] [⟨some 1, (.box 73 (.tmp 0)), 0, none⟩,
    ⟨some 2, (.assign (.const (.bool false))), 4, none⟩])
  (.seq (.rgn [] [⟨some 3, (.assign (.const (.int .i64 1048576))), 3, none⟩])
  (.seq (.rgn [] [⟨some 7, (.load 73 (.tmp 1)), 73, none⟩,
    ⟨some 8, (.move (.tmp 3)), 3, none⟩,
    ⟨some 9, (.call { callee := (.value (.func 45)), args := #[(.tmp 7), (.tmp 8)], argTypes := #[73, 3] }), 3, none⟩,
    ⟨some 3, (.assign (.tmp 9)), 3, none⟩])
  (.seq (.seq (.rgn [] [⟨some 10, (.move (.tmp 3)), 3, none⟩,
    ⟨some 11, (.binOp .lss 3 (.tmp 10) (.const (.int .i64 0)) 3), 4, none⟩])
  (.cond (.tmp 11)
    (.seq (.rgn [] [⟨some 2, (.assign (.const (.bool true))), 4, none⟩])
    .ret)
    .skip))
  (.seq (.rgn [] [⟨some 12, (.load 73 (.tmp 1)), 73, none⟩,
    ⟨some 13, (.call { callee := (.value (.func 47)), args := #[(.tmp 12)], argTypes := #[73] }), 78, none⟩,
    ⟨some 14, (.call { callee := (.value (.func 46)), args := #[(.tmp 13)], argTypes := #[78] }), 4, none⟩,
    ⟨some 4, (.assign (.tmp 14)), 4, none⟩])
  (.seq (.rgn [] [⟨some 15, (.load 73 (.tmp 1)), 73, none⟩,
    ⟨some 16, (.call { callee := (.value (.func 47)), args := #[(.tmp 15)], argTypes := #[73] }), 78, none⟩,
    ⟨some 5, (.alloc 78), 0, none⟩,
    ⟨none, (.store 78 (.tmp 5) (.tmp 16)), 0, none⟩])
  (.seq (.rgn [] [⟨some 17, (.load 78 (.tmp 5)), 78, none⟩,
    ⟨some 18, (.call { callee := (.value (.func 48)), args := #[(.tmp 17)], argTypes := #[78] }), 4, none⟩,
    ⟨some 6, (.assign (.tmp 18)), 4, none⟩])
  (.seq (.seq (.rgn [] [⟨some 19, (.move (.tmp 6)), 4, none⟩,
    ⟨some 20, (.move (.tmp 4)), 4, none⟩,
    ⟨some 21, (.binOp .neq 4 (.tmp 19) (.tmp 20) 4), 4, none⟩])
  (.cond (.tmp 21)
    (.seq (.rgn [] [⟨some 2, (.assign (.const (.bool false))), 4, none⟩])
    .ret)
    .skip))
  (.seq (.seq (.drw [] [([5], [22]), ([1], [23]), ([23], [24]), ([22, 24], [25]), ([25], [26])] [[], [], [1], [0, 2, 2], [3]] [⟨some 22, (.load 78 (.tmp 5)), 78, none⟩,
    ⟨some 23, (.load 73 (.tmp 1)), 73, none⟩,
    ⟨some 24, (.call { callee := (.value (.func 47)), args := #[(.tmp 23)], argTypes := #[73] }), 78, none⟩,
    ⟨some 25, (.call { callee := (.value (.func 49)), args := #[(.tmp 22), (.tmp 24)], argTypes := #[78, 78] }), 4, none⟩,
    ⟨some 26, (.unOp .not 4 (.tmp 25)), 4, none⟩])
  (.cond (.tmp 26)
    (.seq (.rgn [] [⟨some 2, (.assign (.const (.bool false))), 4, none⟩])
    .ret)
    .skip))
  (.seq (.rgn [] [⟨some 2, (.assign (.const (.bool true))), 4, none⟩])
  .ret))))))))))
theorem lit8 : Lit Try.prog 8 27 [1, 5] [.tmp 2] c8 := ⟨⟨Try.f8, _, Try.func8, rfl, by kernel_rfl, rfl, rfl, by kernel_rfl, by kernel_rfl⟩, by decide, by kernel_rfl⟩
/-- laws.FnExactIsValidFD -/
def c10 : LC :=
  (.seq (.rgn [] [⟨some 2, (.box 95 (.tmp 0)), 0, none⟩,
    ⟨some 3, (.box 83 (.tmp 1)), 0, none⟩,
    ⟨some 4, (.assign (.const (.bool false))), 4, none⟩])
  (.seq (.rgn [] [⟨some 5, (.assign (.const (.int .i64 1048576))), 3, none⟩])
  (.seq (.rgn [] [⟨some 10, (.load 95 (.tmp 2)), 95, none⟩,
    ⟨some 11, (.move (.tmp 5)), 3, none⟩,
    ⟨some 12, (.call { callee := (.value (.func 59)), args := #[(.tmp 10), (.tmp 11)], argTypes := #[95, 3] }), 3, none⟩,
    ⟨some 5, (.assign (.tmp 12)), 3, none⟩])
  (.seq (.seq (.rgn [] [⟨some 13, (.move (.tmp 5)), 3, none⟩,
    ⟨some 14, (.binOp .lss 3 (.tmp 13) (.const (.int .i64 0)) 3), 4, none⟩])
  (.cond (.tmp 14)
    (.seq (.rgn [] [⟨some 4, (.assign (.const (.bool true))), 4, none⟩])
    .ret)
    .skip))
  (.seq (.rgn [] [⟨some 15, (.load 83 (.tmp 3)), 83, none⟩,
    ⟨some 16, (.move (.tmp 5)), 3, none⟩,
    ⟨some 17, (.call { callee := (.value (.func 50)), args := #[(.tmp 15), (.tmp 16)], argTypes := #[83, 3] }), 3, none⟩,
    ⟨some 5, (.assign (.tmp 17)), 3, none⟩])
  (.seq (.seq (.rgn [] [⟨some 18, (.move (.tmp 5)), 3, none⟩,
    ⟨some 19, (.binOp .lss 3 (.tmp 18) (.const (.int .i64 0)) 3), 4, none⟩])
  (.cond (.tmp 19)
    (.seq (.rgn [] [⟨some 4, (.assign (.const (.bool true))), 4, none⟩])
    .ret)
    .skip))
  (.seq (.drw [] [([2], [20]), ([20], [21]), ([3], [22]), ([22], [23]), ([21, 23], [24]), ([24], [6, 24])] [[], [0], [], [2, 1], [1, 3, 3], [4, 4, 0, 1, 2, 3, 4]] [⟨some 20, (.load 95 (.tmp 2)), 95, none⟩,
    ⟨some 21, (.call { callee := (.value (.func 61)), args := #[(.tmp 20)], argTypes := #[95] }), 100, none⟩,
    ⟨some 22, (.load 83 (.tmp 3)), 83, none⟩,
    ⟨some 23, (.call { callee := (.value (.func 52)), args := #[(.tmp 22)], argTypes := #[83] }), 86, none⟩,
    ⟨some 24, (.call { callee := (.value (.func 60)), args := #[(.tmp 21), (.tmp 23)], argTypes := #[100, 86] }), 4, none⟩,
    ⟨some 6, (.assign (.tmp 24)), 4, none⟩])
  (.seq (.rgn [] [⟨some 25, (.load 95 (.tmp 2)), 95, none⟩,
    ⟨some 26, (.call { callee := (.value (.func 61)), args := #[(.tmp 25)], argTypes := #[95] }), 100, none⟩,
    ⟨some 7, (.alloc 100), 0, none⟩,
    ⟨none, (.store 100 (.tmp 7) (.tmp 26)), 0, none⟩])
  (.seq (.rgn [] [⟨some 27, (.load 83 (.tmp 3)), 83, none⟩,
    ⟨some 28, (.call { callee := (.value (.func 52)), args := #[(.tmp 27)], argTypes := #[83] }), 86, none⟩,
    ⟨some 8, (.alloc 86), 0, none⟩,
    ⟨none, (.store 86 (.tmp 8) (.tmp 28)), 0, none⟩])
  (.seq (.rgn [] [⟨some 29, (.load 100 (.tmp 7)), 100, none⟩,
    ⟨some 30, (.load 86 (.tmp 8)), 86, none⟩,
    ⟨some 31, (.call { callee := (.value (.func 62)), args := #[(.tmp 29), (.tmp 30)], argTypes := #[100, 86] }), 4, none⟩,
    ⟨some 9, (.assign (.tmp 31)), 4, none⟩])
  (.seq (.seq (.rgn [] [⟨some 32, (.move (.tmp 9)), 4, none⟩,
    ⟨some 33, (.move (.tmp 6)), 4, none⟩,
    ⟨some 34, (.binOp .neq 4 (.tmp 32) (.tmp 33) 4), 4, none⟩])
  (.cond (.tmp 34)
    (.seq (.rgn [] [⟨some 4, (.assign (.const (.bool false))), 4, none⟩])
    .ret)
    .skip))
  (.seq (.seq (.drw [] [([7], [35]), ([2], [36]), ([36], [37]), ([35, 37], [38]), ([38], [39])] [[], [], [1], [0, 2, 2], [3]] [⟨some 35, (.load 100 (.tmp 7)), 100, none⟩,
    ⟨some 36, (.load 95 (.tmp 2)), 95, none⟩,
    ⟨some 37, (.call { callee := (.value (.func 61)), args := #[(.tmp 36)], argTypes := #[95] }), 100, none⟩,
    ⟨some 38, (.call { callee := (.value (.func 63)), args := #[(.tmp 35), (.tmp 37)], argTypes := #[100, 100] }), 4, none⟩,
    ⟨some 39, (.unOp .not 4 (.tmp 38)), 4, none⟩])
  (.cond (.tmp 39)
    (.seq (.rgn [] [⟨some 4, (.assign (.const (.bool false))), 4, none⟩])
    .ret)
    .skip))
  (.seq (.seq (.drw [] [([8], [40]), ([3], [41]), ([41], [42]), ([40, 42], [43]), ([43], [44])] [[], [], [1], [0, 2, 2], [3]] [⟨some 40, (.load 86 (.tmp 8)), 86, none⟩,
    ⟨some 41, (.load 83 (.tmp 3)), 83, none⟩,
    ⟨some 42, (.call { callee := (.value (.func 52)), args := #[(.tmp 41)], argTypes := #[83] }), 86, none⟩,
    ⟨some 43, (.call { callee := (.value (.func 54)), args := #[(.tmp 40), (.tmp 42)], argTypes := #[86, 86] }), 4, none⟩,
    ⟨some 44, (.unOp .not 4 (.tmp 43)), 4, none⟩])
  (.cond (.tmp 44)
    (.seq (.rgn [] [⟨some 4, (.assign (.const (.bool false))), 4, none⟩])
    .ret)
    .skip))
  (.seq (.rgn [] [⟨some 4, (.assign (.const (.bool true))), 4, none⟩])
  .ret))))))))))))))
theorem lit10 : Lit Try.prog 10 45 [2, 3, 7, 8] [.tmp 4] c10 := ⟨⟨Try.f10, _, Try.func10, rfl, by kernel_rfl, rfl, rfl, by kernel_rfl, by kernel_rfl⟩, by decide, by kernel_rfl⟩
/-- laws.FnExactFDHolds -/
def c13 : LC :=
  (.seq (.rgn [] [⟨some 2, (.box 95 (.tmp 0)), 0, none⟩,
    ⟨some 3, (.box 83 (.tmp 1)), 0, none⟩,
    ⟨some 4, (.assign (.const (.bool false))), 4, none⟩])
  (.seq (.rgn [] [⟨some 5, (.assign (.const (.int .i64 1048576))), 3, none⟩])
  (.seq (.rgn [] [⟨some 10, (.load 95 (.tmp 2)), 95, none⟩,
    ⟨some 11, (.move (.tmp 5)), 3, none⟩,
    ⟨some 12, (.call { callee := (.value (.func 59)), args := #[(.tmp 10), (.tmp 11)], argTypes := #[95, 3] }), 3, none⟩,
    ⟨some 5, (.assign (.tmp 12)), 3, none⟩])
  (.seq (.seq (.rgn [] [⟨some 13, (.move (.tmp 5)), 3, none⟩,
    ⟨some 14, (.binOp .lss 3 (.tmp 13) (.const (.int .i64 0)) 3), 4, none⟩])
  (.cond (.tmp 14)
    (.seq (.rgn [] [⟨some 4, (.assign (.const (.bool true))), 4, none⟩])
    .ret)
    .skip))
  (.seq (.rgn [] [⟨some 15, (.load 83 (.tmp 3)), 83, none⟩,
    ⟨some 16, (.move (.tmp 5)), 3, none⟩,
    ⟨some 17, (.call { callee := (.value (.func 50)), args := #[(.tmp 15), (.tmp 16)], argTypes := #[83, 3] }), 3, none⟩,
    ⟨some 5, (.assign (.tmp 17)), 3, none⟩])
  (.seq (.seq (.rgn [] [⟨some 18, (.move (.tmp 5)), 3, none⟩,
    ⟨some 19, (.binOp .lss 3 (.tmp 18) (.const (.int .i64 0)) 3), 4, none⟩])
  (.cond (.tmp 19)
    (.seq (.rgn [] [⟨some 4, (.assign (.const (.bool true))), 4, none⟩])
    .ret)
    .skip))
  (.seq (.drw [] [([2], [20]), ([20], [21]), ([3], [22]), ([22], [23]), ([21, 23], [24]), ([24], [6, 24])] [[], [0], [], [2, 1], [1, 3, 3], [4, 4, 0, 1, 2, 3, 4]] [⟨some 20, (.load 95 (.tmp 2)), 95, none⟩,
    ⟨some 21, (.call { callee := (.value (.func 61)), args := #[(.tmp 20)], argTypes := #[95] }), 100, none⟩,
    ⟨some 22, (.load 83 (.tmp 3)), 83, none⟩,
    ⟨some 23, (.call { callee := (.value (.func 52)), args := #[(.tmp 22)], argTypes := #[83] }), 86, none⟩,
    ⟨some 24, (.call { callee := (.value (.func 70)), args := #[(.tmp 21), (.tmp 23)], argTypes := #[100, 86] }), 4, none⟩,
    ⟨some 6, (.assign (.tmp 24)), 4, none⟩])
  (.seq (.rgn [] [⟨some 25, (.load 95 (.tmp 2)), 95, none⟩,
    ⟨some 26, (.call { callee := (.value (.func 61)), args := #[(.tmp 25)], argTypes := #[95] }), 100, none⟩,
    ⟨some 7, (.alloc 100), 0, none⟩,
    ⟨none, (.store 100 (.tmp 7) (.tmp 26)), 0, none⟩])
  (.seq (.rgn [] [⟨some 27, (.load 83 (.tmp 3)), 83, none⟩,
    ⟨some 28, (.call { callee := (.value (.func 52)), args := #[(.tmp 27)], argTypes := #[83] }), 86, none⟩,
    ⟨some 8, (.alloc 86), 0, none⟩,
    ⟨none, (.store 86 (.tmp 8) (.tmp 28)), 0, none⟩])
  (.seq (.rgn [] [⟨some 29, (.load 100 (.tmp 7)), 100, none⟩,
    ⟨some 30, (.load 86 (.tmp 8)), 86, none⟩,
    ⟨some 31, (.call { callee := (.value (.func 69)), args := #[(.tmp 29), (.tmp 30)], argTypes := #[100, 86] }), 4, none⟩,
    ⟨some 9, (.assign (.tmp 31)), 4, none⟩])
  (.seq (.seq (.rgn [] [⟨some 32, (.move (.tmp 9)), 4, none⟩,
    ⟨some 33, (.move (.tmp 6)), 4, none⟩,
    ⟨some 34, (.binOp .neq 4 (.tmp 32) (.tmp 33) 4), 4, none⟩])
  (.cond (.tmp 34)
    (.seq (.rgn [] [⟨some 4, (.assign (.const (.bool false))), 4, none⟩])
    .ret)
    .skip))
  (.seq (.seq (.drw [] [([7], [35]), ([2], [36]), ([36], [37]), ([35, 37], [38]), ([38], [39])] [[], [], [1], [0, 2, 2], [3]] [⟨some 35, (.load 100 (.tmp 7)), 100, none⟩,
    ⟨some 36, (.load 95 (.tmp 2)), 95, none⟩,
    ⟨some 37, (.call { callee := (.value (.func 61)), args := #[(.tmp 36)], argTypes := #[95] }), 100, none⟩,
    ⟨some 38, (.call { callee := (.value (.func 63)), args := #[(.tmp 35), (.tmp 37)], argTypes := #[100, 100] }), 4, none⟩,
    ⟨some 39, (.unOp .not 4 (.tmp 38)), 4, none⟩])
  (.cond (.tmp 39)
    (.seq (.rgn [] [⟨some 4, (.assign (.const (.bool false))), 4, none⟩])
    .ret)
    .skip))
  (.seq (.seq (.drw [] [([8], [40]), ([3], [41]), ([41], [42]), ([40, 42], [43]), ([43], [44])] [[], [], [1], [0, 2, 2], [3]] [⟨some 40, (.load 86 (.tmp 8)), 86, none⟩,
    ⟨some 41, (.load 83 (.tmp 3)), 83, none⟩,
    ⟨some 42, (.call { callee := (.value (.func 52)), args := #[(.tmp 41)], argTypes := #[83] }), 86, none⟩,
    ⟨some 43, (.call { callee := (.value (.func 54)), args := #[(.tmp 40), (.tmp 42)], argTypes := #[86, 86] }), 4, none⟩,
    ⟨some 44, (.unOp .not 4 (.tmp 43)), 4, none⟩])
  (.cond (.tmp 44)
    (.seq (.rgn [] [⟨some 4, (.assign (.const (.bool false))), 4, none⟩])
    .ret)
    .skip))
  (.seq (.rgn [] [⟨some 4, (.assign (.const (.bool true))), 4, none⟩])
  .ret))))))))))))))
theorem lit13 : Lit Try.prog 13 45 [2, 3, 7, 8] [.tmp 4] c13 := ⟨⟨Try.f13, _, Try.func13, rfl, by kernel_rfl, rfl, rfl, by kernel_rfl, by kernel_rfl⟩, by decide, by kernel_rfl⟩
/-- laws.eqRelation -/
def c17 : LC :=
  (.seq (.rgn [] [⟨some 2, (.box 24 (.tmp 0)), 0, none⟩,
    ⟨some 3, (.box 24 (.tmp 1)), 0, none⟩,
    ⟨some 4, (.assign (.const (.bool false))), 4, none⟩])
  (.seq (.seq (.rgn [] [⟨some 5, (.fieldAddr 24 (.tmp 2) 0), 0, none⟩,
    ⟨some 6, (.load 3 (.tmp 5)), 3, none⟩,
    ⟨some 7, (.fieldAddr 24 (.tmp 3) 0), 0, none⟩,
    ⟨some 8, (.load 3 (.tmp 7)), 3, none⟩,
    ⟨some 9, (.binOp .neq 3 (.tmp 6) (.tmp 8) 3), 4, none⟩])
  (.cond (.tmp 9)
    (.seq (.rgn [] [⟨some 4, (.assign (.const (.bool false))), 4, none⟩])
    .ret)
    .skip))
  (.seq (.seq (.rgn [] [⟨some 10, (.fieldAddr 24 (.tmp 2) 1), 0, none⟩,
    ⟨some 11, (.load 22 (.tmp 10)), 22, none⟩,
    ⟨some 12, (.fieldAddr 24 (.tmp 3) 1), 0, none⟩,
    ⟨some 13, (.load 22 (.tmp 12)), 22, none⟩,
    ⟨some 14, (.call { callee := (.value (.func 84)), args := #[(.tmp 11), (.tmp 13)], argTypes := #[22, 22] }), 4, none⟩,
    ⟨some 15, (.unOp .not 4 (.tmp 14)), 4, none⟩])
  (.cond (.tmp 15)
    (.seq (.rgn [] [⟨some 4, (.assign (.const (.bool false))), 4, none⟩])
    .ret)
    .skip))
  (.seq (.rgn [] [⟨some 4, (.assign (.const (.bool true))), 4, none⟩])
  .ret))))
theorem lit17 : Lit Try.prog 17 16 [2, 3] [.tmp 4] c17 := ⟨⟨Try.f17, _, Try.func17, rfl, by kernel_rfl, rfl, rfl, by kernel_rfl, by kernel_rfl⟩, by decide, by kernel_rfl⟩
/-- laws.szRelation -/
def c25 : LC :=
  (.seq (.rgn [] [⟨some 2, (.box 42 (.tmp 0)), 0, none⟩,
    ⟨some 4, (.assign (.const (.int .i64 0))), 3, none⟩])
  (.seq (.rgn [] [⟨some 5, (.fieldAddr 42 (.tmp 2) 1), 0, none⟩,
    ⟨some 6, (.load 22 (.tmp 5)), 22, none⟩,
    ⟨some 7, (.move (.tmp 1)), 3, none⟩,
    ⟨some 8, (.call { callee := (.value (.func 99)), args := #[(.tmp 6), (.tmp 7)], argTypes := #[22, 3] }), 3, none⟩,
    ⟨some 1, (.assign (.tmp 8)), 3, none⟩])
  (.seq (.seq (.rgn [] [⟨some 9, (.move (.tmp 1)), 3, none⟩,
    ⟨some 10, (.binOp .lss 3 (.tmp 9) (.const (.int .i64 0)) 3), 4, none⟩])
  (.cond (.tmp 10)
    (.seq (.rgn [] [⟨some 4, (.assign (.const (.int .i64 (-1)))), 3, none⟩])
    .ret)
    .skip))
  (.seq (.rgn [] [⟨some 11, (.move (.tmp 1)), 3, none⟩,
    ⟨some 4, (.assign (.tmp 11)), 3, none⟩])
  .ret))))
theorem lit25 : Lit Try.prog 25 12 [2] [.tmp 4] c25 := ⟨⟨Try.f25, _, Try.func25, rfl, by kernel_rfl, rfl, rfl, by kernel_rfl, by kernel_rfl⟩, by decide, by kernel_rfl⟩
/-- laws.toRelation -/
def c27 : LC :=
  (.seq (.rgn [] [⟨some 1, (.box 42 (.tmp 0)), 0, none⟩,
    ⟨some 2, (.alloc 24), 0, none⟩])
  (.seq (.rgn [] [⟨some 3, (.alloc 24), 0, none⟩])
  (.seq (.rgn [] [⟨some 4, (.fieldAddr 42 (.tmp 1) 0), 0, none⟩,
    ⟨some 5, (.load 3 (.tmp 4)), 3, none⟩,
    ⟨some 6, (.fieldAddr 24 (.tmp 3) 0), 0, none⟩,
    ⟨none, (.store 3 (.tmp 6) (.tmp 5)), 0, none⟩])
  (.seq (.rgn [] [⟨some 7, (.fieldAddr 42 (.tmp 1) 1), 0, none⟩,
    ⟨some 8, (.load 22 (.tmp 7)), 22, none⟩,
    ⟨some 9, (.call { callee := (.value (.func 102)), args := #[(.tmp 8)], argTypes := #[22] }), 22, none⟩,
    ⟨some 10, (.fieldAddr 24 (.tmp 3) 1), 0, none⟩,
    ⟨none, (.store 22 (.tmp 10) (.tmp 9)), 0, none⟩])
  (.seq (.rgn [11] [⟨some 11, (.load 24 (.tmp 3)), 24, none⟩,
    ⟨none, (.store 24 (.tmp 2) (.tmp 11)), 0, none⟩])
  .ret)))))
theorem lit27 : Lit Try.prog 27 12 [1, 2, 3] [.cell 2 24] c27 := ⟨⟨Try.f27, _, Try.func27, rfl, by kernel_rfl, rfl, rfl, by kernel_rfl, by kernel_rfl⟩, by decide, by kernel_rfl⟩
/-- laws.szQuery -/
def c29 : LC :=
  (.seq (.rgn [] [⟨some 2, (.box 50 (.tmp 0)), 0, none⟩,
    ⟨some 4, (.assign (.const (.int .i64 0))), 3, none⟩])
  (.seq (.rgn [] [⟨some 5, (.fieldAddr 50 (.tmp 2) 1), 0, none⟩,
    ⟨some 6, (.load 48 (.tmp 5)), 48, none⟩,
    ⟨some 7, (.move (.tmp 1)), 3, none⟩,
    ⟨some 8, (.call { callee := (.value (.func 106)), args := #[(.tmp 6), (.tmp 7)], argTypes := #[48, 3] }), 3, none⟩,
    ⟨some 1, (.assign (.tmp 8)), 3, none⟩])
  (.seq (.seq (.rgn [] [⟨some 9, (.move (.tmp 1)), 3, none⟩,
    ⟨some 10, (.binOp .lss 3 (.tmp 9) (.const (.int .i64 0)) 3), 4, none⟩])
  (.cond (.tmp 10)
    (.seq (.rgn [] [⟨some 4, (.assign (.const (.int .i64 (-1)))), 3, none⟩])
    .ret)
    .skip))
  (.seq (.rgn [] [⟨some 11, (.fieldAddr 50 (.tmp 2) 2), 0, none⟩,
    ⟨some 12, (.load 30 (.tmp 11)), 30, none⟩,
    ⟨some 13, (.move (.tmp 1)), 3, none⟩,
    ⟨some 14, (.call { callee := (.value (.func 87)), args := #[(.tmp 12), (.tmp 13)], argTypes := #[30, 3] }), 3, none⟩,
    ⟨some 1, (.assign (.tmp 14)), 3, none⟩])
  (.seq (.seq (.rgn [] [⟨some 15, (.move (.tmp 1)), 3, none⟩,
    ⟨some 16, (.binOp .lss 3 (.tmp 15) (.const (.int .i64 0)) 3), 4, none⟩])
  (.cond (.tmp 16)
    (.seq (.rgn [] [⟨some 4, (.assign (.const (.int .i64 (-1)))), 3, none⟩])
    .ret)
    .skip))
  (.seq (.rgn [] [⟨some 17, (.move (.tmp 1)), 3, none⟩,
    ⟨some 4, (.assign (.tmp 17)), 3, none⟩])
  .ret))))))
theorem lit29 : Lit Try.prog 29 18 [2] [.tmp 4] c29 := ⟨⟨Try.f29, _, Try.func29, rfl, by kernel_rfl, rfl, rfl, by kernel_rfl, by kernel_rfl⟩, by decide, by kernel_rfl⟩
/-- spec.TightRowCount -/
def c30 : LC :=
  (.seq (.rgn [] [⟨some 3, (.box 56 (.tmp 0)), 0, none⟩,
    ⟨some 6, (.assign (.const (.int .i64 0))), 3, none⟩,
    ⟨some 7, (.assign (.const (.bool false))), 4, none⟩])
  (.seq (.seq (.rgn [] [⟨some 11, (.load 56 (.tmp 3)), 56, none⟩,
    ⟨some 12, (.move (.tmp 1)), 30, none⟩,
    ⟨some 13, (.move (.tmp 2)), 3, none⟩,
    ⟨some 14, (.call { callee := (.value (.func 107)), args := #[(.tmp 11), (.tmp 12), (.tmp 13)], argTypes := #[56, 30, 3] }), 4, none⟩,
    ⟨some 15, (.unOp .not 4 (.tmp 14)), 4, none⟩])
  (.cond (.tmp 15)
    (.seq (.rgn [] [⟨some 6, (.assign (.const (.int .i64 0))), 3, none⟩,
      ⟨some 7, (.assign (.const (.bool false))), 4, none⟩])
    .ret)
    .skip))
  (.seq (.rgn [] [⟨some 8, (.assign (.const (.int .i64 1))), 3, none⟩])
  (.seq (.seq (.rgn [] [⟨some 9, (.assign (.const (.int .i64 0))), 3, none⟩])
  (.blk 0
    (.loop []
      (.seq (.seq (.rgn [] [⟨some 16, (.move (.tmp 9)), 3, none⟩,
        ⟨some 17, (.move (.tmp 1)), 30, none⟩,
        ⟨some 18, (.call { callee := (.builtin .len), args := #[(.tmp 17)], argTypes := #[30] }), 3, none⟩,
        ⟨some 19, (.binOp .lss 3 (.tmp 16) (.tmp 18) 3), 4, none⟩])
      (.cond (.tmp 19)
        .skip
        (.exit 0)))
      (.seq (.blk 1
        (.seq (.rgn [] [⟨some 22, (.move (.tmp 2)), 3, none⟩,
          ⟨some 23, (.move (.tmp 1)), 30, none⟩,
          ⟨some 24, (.move (.tmp 9)), 3, none⟩,
          ⟨some 25, (.indexAddr 30 (.tmp 23) (.tmp 24)), 0, none⟩,
          ⟨some 26, (.load 3 (.tmp 25)), 3, none⟩,
          ⟨some 27, (.call { callee := (.value (.func 108)), args := #[(.tmp 22), (.tmp 26)], argTypes := #[3, 3] }), 3, none⟩,
          ⟨some 10, (.assign (.tmp 27)), 3, none⟩])
        (.seq (.seq (.rgn [] [⟨some 28, (.move (.tmp 10)), 3, none⟩,
          ⟨some 29, (.binOp .lss 3 (.tmp 28) (.const (.int .i64 0)) 3), 4, none⟩,
          ⟨some 30, (.move (.tmp 29)), 4, none⟩,
          ⟨some 31, (.move (.tmp 8)), 3, some (some 30, false)⟩,
          ⟨some 32, (.move (.tmp 10)), 3, some (some 30, false)⟩,
          ⟨some 33, (.binOp .mul 3 (.tmp 31) (.tmp 32) 3), 3, some (some 30, false)⟩,
          ⟨some 34, (.binOp .gtr 3 (.tmp 33) (.const (.int .i64 4000)) 3), 4, some (some 30, false)⟩,
          ⟨some 35, (.pick (.tmp 30) (.const (.bool true)) (.tmp 34)), 4, none⟩])
        (.cond (.tmp 35)
          (.seq (.rgn [] [⟨some 6, (.assign (.const (.int .i64 0))), 3, none⟩,
            ⟨some 7, (.assign (.const (.bool false))), 4, none⟩])
          .ret)
          .skip))
        (.rgn [] [⟨some 36, (.move (.tmp 8)), 3, none⟩,
          ⟨some 37, (.move (.tmp 10)), 3, none⟩,
          ⟨some 38, (.binOp .mul 3 (.tmp 36) (.tmp 37) 3), 3, none⟩,
          ⟨some 8, (.assign (.tmp 38)), 3, none⟩]))))
      (.rgn [] [⟨some 20, (.move (.tmp 9)), 3, none⟩,
        ⟨some 21, (.binOp .add 3 (.tmp 20) (.const (.int .i64 1)) 3), 3, none⟩,
        ⟨some 9, (.assign (.tmp 21)), 3, none⟩]))))))
  (.seq (.rgn [] [⟨some 39, (.move (.tmp 8)), 3, none⟩,
    ⟨some 6, (.assign (.tmp 39)), 3, none⟩,
    ⟨some 7, (.assign (.const (.bool true))), 4, none⟩])
  .ret)))))
theorem lit30 : Lit Try.prog 30 40 [3] [.tmp 6, .tmp 7] c30 := ⟨⟨Try.f30, _, Try.func30, rfl, by kernel_rfl, rfl, rfl, by kernel_rfl, by kernel_rfl⟩, by decide, by kernel_rfl⟩
/-- laws.toQuery -/
def c31 : LC :=
  (.seq (.rgn [] [⟨some 1, (.box 50 (.tmp 0)), 0, none⟩,
    ⟨some 2, (.alloc 56), 0, none⟩])
  (.seq (.rgn [] [⟨some 3, (.alloc 56), 0, none⟩])
  (.seq (.rgn [] [⟨some 4, (.fieldAddr 50 (.tmp 1) 0), 0, none⟩,
    ⟨some 5, (.load 3 (.tmp 4)), 3, none⟩,
    ⟨some 6, (.fieldAddr 56 (.tmp 3) 0), 0, none⟩,
    ⟨none, (.store 3 (.tmp 6) (.tmp 5)), 0, none⟩])
  (.seq (.rgn [] [⟨some 7, (.fieldAddr 50 (.tmp 1) 1), 0, none⟩,
    ⟨some 8, (.load 48 (.tmp 7)), 48, none⟩,
    ⟨some 9, (.call { callee := (.value (.func 109)), args := #[(.tmp 8)], argTypes := #[48] }), 54, none⟩,
    ⟨some 10, (.fieldAddr 56 (.tmp 3) 1), 0, none⟩,
    ⟨none, (.store 54 (.tmp 10) (.tmp 9)), 0, none⟩])
  (.seq (.rgn [] [⟨some 11, (.fieldAddr 50 (.tmp 1) 2), 0, none⟩,
    ⟨some 12, (.load 30 (.tmp 11)), 30, none⟩,
    ⟨some 13, (.call { callee := (.value (.func 32)), args := #[(.tmp 12)], argTypes := #[30] }), 30, none⟩,
    ⟨some 14, (.fieldAddr 56 (.tmp 3) 2), 0, none⟩,
    ⟨none, (.store 30 (.tmp 14) (.tmp 13)), 0, none⟩])
  (.seq (.rgn [15] [⟨some 15, (.load 56 (.tmp 3)), 56, none⟩,
    ⟨none, (.store 56 (.tmp 2) (.tmp 15)), 0, none⟩])
  .ret))))))
theorem lit31 : Lit Try.prog 31 16 [1, 2, 3] [.cell 2 56] c31 := ⟨⟨Try.f31, _, Try.func31, rfl, by kernel_rfl, rfl, rfl, by kernel_rfl, by kernel_rfl⟩, by decide, by kernel_rfl⟩
/-- laws.toIntS -/
def c32 : LC :=
  (.seq (.rgn [] [⟨some 2, (.assign (.const (.slice none 0 0))), 30, none⟩])
  (.seq (.rgn [3, 7] [⟨some 5, (.move (.tmp 0)), 30, none⟩,
    ⟨some 6, (.call { callee := (.builtin .len), args := #[(.tmp 5)], argTypes := #[30] }), 3, none⟩,
    ⟨some 7, (.makeSlice 30 (.tmp 6) (.tmp 6)), 30, none⟩,
    ⟨some 3, (.assign (.tmp 7)), 30, none⟩])
  (.seq (.seq (.rgn [] [⟨some 4, (.assign (.const (.int .i64 0))), 3, none⟩])
  (.blk 0
    (.loop []
      (.seq (.seq (.rgn [] [⟨some 8, (.move (.tmp 4)), 3, none⟩,
        ⟨some 9, (.move (.tmp 0)), 30, none⟩,
        ⟨some 10, (.call { callee := (.builtin .len), args := #[(.tmp 9)], argTypes := #[30] }), 3, none⟩,
        ⟨some 11, (.binOp .lss 3 (.tmp 8) (.tmp 10) 3), 4, none⟩])
      (.cond (.tmp 11)
        .skip
        (.exit 0)))
      (.seq (.blk 1
        (.rgn [] [⟨some 14, (.move (.tmp 3)), 30, none⟩,
          ⟨some 15, (.move (.tmp 4)), 3, none⟩,
          ⟨some 16, (.move (.tmp 0)), 30, none⟩,
          ⟨some 17, (.move (.tmp 4)), 3, none⟩,
          ⟨some 18, (.indexAddr 30 (.tmp 16) (.tmp 17)), 0, none⟩,
          ⟨some 19, (.load 3 (.tmp 18)), 3, none⟩,
          ⟨some 20, (.indexAddr 30 (.tmp 14) (.tmp 15)), 0, none⟩,
          ⟨none, (.store 3 (.tmp 20) (.tmp 19)), 0, none⟩]))
      (.rgn [] [⟨some 12, (.move (.tmp 4)), 3, none⟩,
        ⟨some 13, (.binOp .add 3 (.tmp 12) (.const (.int .i64 1)) 3), 3, none⟩,
        ⟨some 4, (.assign (.tmp 13)), 3, none⟩]))))))
  (.seq (.rgn [21] [⟨some 21, (.move (.tmp 3)), 30, none⟩,
    ⟨some 2, (.assign (.tmp 21)), 30, none⟩])
  .ret))))
theorem lit32 : Lit Try.prog 32 22 [3, 7] [.tmp 2] c32 := ⟨⟨Try.f32, _, Try.func32, rfl, by kernel_rfl, rfl, rfl, by kernel_rfl, by kernel_rfl⟩, by decide, by kernel_rfl⟩
/-- impl.TightRowCount -/
def c33 : LC :=
  (.seq (.rgn [] [⟨some 3, (.box 56 (.tmp 0)), 0, none⟩,
    ⟨some 6, (.assign (.const (.int .i64 0))), 3, none⟩,
    ⟨some 7, (.assign (.const (.bool false))), 4, none⟩])
  (.seq (.rgn [13] [⟨some 14, (.load 56 (.tmp 3)), 56, none⟩,
    ⟨some 15, (.move (.tmp 1)), 30, none⟩,
    ⟨some 16, (.move (.tmp 2)), 3, none⟩,
    ⟨some 17, (.call { callee := (.value (.func 110)), args := #[(.tmp 14), (.tmp 15), (.tmp 16)], argTypes := #[56, 30, 3] }), 135, none⟩,
    ⟨some 13, (.move (.tmp 17)), 135, none⟩,
    ⟨some 18, (.extract (.tmp 13) 0), 30, none⟩,
    ⟨some 19, (.extract (.tmp 13) 1), 4, none⟩,
    ⟨some 8, (.assign (.tmp 18)), 30, none⟩,
    ⟨some 9, (.assign (.tmp 19)), 4, none⟩])
  (.seq (.rgn [] [⟨some 10, (.assign (.const (.int .i64 1))), 3, none⟩])
  (.seq (.seq (.rgn [] [⟨some 20, (.move (.tmp 8)), 30, none⟩,
    ⟨some 21, (.call { callee := (.builtin .len), args := #[(.tmp 20)], argTypes := #[30] }), 3, none⟩,
    ⟨some 22, (.move (.const (.int .i64 0))), 3, none⟩])
  (.blk 0
    (.loop []
      (.seq (.rgn [] [⟨some 23, (.binOp .lss 3 (.tmp 22) (.tmp 21) 3), 0, none⟩])
      (.seq (.cond (.tmp 23)
        .skip
        (.exit 0))
      (.seq (.blk 1
        (.seq (.rgn [] [⟨some 24, (.indexAddr 30 (.tmp 20) (.tmp 22)), 0, none⟩,
          ⟨some 25, (.load 3 (.tmp 24)), 3, none⟩,
          ⟨some 12, (.assign (.tmp 25)), 3, none⟩])
        (.seq (.rgn [] [⟨some 26, (.move (.tmp 10)), 3, none⟩,
          ⟨some 27, (.move (.tmp 12)), 3, none⟩,
          ⟨some 28, (.binOp .mul 3 (.tmp 26) (.tmp 27) 3), 3, none⟩,
          ⟨some 10, (.assign (.tmp 28)), 3, none⟩])
        (.seq (.rgn [] [⟨some 29, (.move (.tmp 10)), 3, none⟩,
          ⟨some 30, (.binOp .gtr 3 (.tmp 29) (.const (.int .i64 4000)) 3), 4, none⟩])
        (.cond (.tmp 30)
          (.seq (.rgn [] [⟨some 6, (.assign (.const (.int .i64 0))), 3, none⟩,
            ⟨some 7, (.assign (.const (.bool false))), 4, none⟩])
          .ret)
          .skip)))))
      (.rgn [] [⟨some 31, (.binOp .add 3 (.tmp 22) (.const (.int .i64 1)) 3), 3, none⟩,
        ⟨some 22, (.move (.tmp 31)), 3, none⟩])))))))
  (.seq (.seq (.rgn [] [⟨some 32, (.move (.tmp 9)), 4, none⟩,
    ⟨some 33, (.unOp .not 4 (.tmp 32)), 4, none⟩])
  (.cond (.tmp 33)
    (.seq (.rgn [] [⟨some 6, (.assign (.const (.int .i64 0))), 3, none⟩,
      ⟨some 7, (.assign (.const (.bool false))), 4, none⟩])
    .ret)
    .skip))
  (.seq (.rgn [] [⟨some 34, (.move (.tmp 10)), 3, none⟩,
    ⟨some 6, (.assign (.tmp 34)), 3, none⟩,
    ⟨some 7, (.assign (.const (.bool true))), 4, none⟩])
  .ret))))))
theorem lit33 : Lit Try.prog 33 35 [3] [.tmp 6, .tmp 7] c33 := ⟨⟨Try.f33, _, Try.func33, rfl, by kernel_rfl, rfl, rfl, by kernel_rfl, by kernel_rfl⟩, by decide, by kernel_rfl⟩
/-- laws.eqQuery -/
def c34 : LC :=
  (.seq (.rgn [] [⟨some 2, (.box 56 (.tmp 0)), 0, none⟩,
    ⟨some 3, (.box 56 (.tmp 1)), 0, none⟩,
    ⟨some 4, (.assign (.const (.bool false))), 4, none⟩])
  (.seq (.seq (.rgn [] [⟨some 5, (.fieldAddr 56 (.tmp 2) 0), 0, none⟩,
    ⟨some 6, (.load 3 (.tmp 5)), 3, none⟩,
    ⟨some 7, (.fieldAddr 56 (.tmp 3) 0), 0, none⟩,
    ⟨some 8, (.load 3 (.tmp 7)), 3, none⟩,
    ⟨some 9, (.binOp .neq 3 (.tmp 6) (.tmp 8) 3), 4, none⟩])
  (.cond (.tmp 9)
    (.seq (.rgn [] [⟨some 4, (.assign (.const (.bool false))), 4, none⟩])
    .ret)
    .skip))
  (.seq (.seq (.rgn [] [⟨some 10, (.fieldAddr 56 (.tmp 2) 1), 0, none⟩,
    ⟨some 11, (.load 54 (.tmp 10)), 54, none⟩,
    ⟨some 12, (.fieldAddr 56 (.tmp 3) 1), 0, none⟩,
    ⟨some 13, (.load 54 (.tmp 12)), 54, none⟩,
    ⟨some 14, (.call { callee := (.value (.func 111)), args := #[(.tmp 11), (.tmp 13)], argTypes := #[54, 54] }), 4, none⟩,
    ⟨some 15, (.unOp .not 4 (.tmp 14)), 4, none⟩])
  (.cond (.tmp 15)
    (.seq (.rgn [] [⟨some 4, (.assign (.const (.bool false))), 4, none⟩])
    .ret)
    .skip))
  (.seq (.seq (.rgn [] [⟨some 16, (.fieldAddr 56 (.tmp 2) 2), 0, none⟩,
    ⟨some 17, (.load 30 (.tmp 16)), 30, none⟩,
    ⟨some 18, (.fieldAddr 56 (.tmp 3) 2), 0, none⟩,
    ⟨some 19, (.load 30 (.tmp 18)), 30, none⟩,
    ⟨some 20, (.call { callee := (.value (.func 35)), args := #[(.tmp 17), (.tmp 19)], argTypes := #[30, 30] }), 4, none⟩,
    ⟨some 21, (.unOp .not 4 (.tmp 20)), 4, none⟩])
  (.cond (.tmp 21)
    (.seq (.rgn [] [⟨some 4, (.assign (.const (.bool false))), 4, none⟩])
    .ret)
    .skip))
  (.seq (.rgn [] [⟨some 4, (.assign (.const (.bool true))), 4, none⟩])
  .ret)))))
theorem lit34 : Lit Try.prog 34 22 [2, 3] [.tmp 4] c34 := ⟨⟨Try.f34, _, Try.func34, rfl, by kernel_rfl, rfl, rfl, by kernel_rfl, by kernel_rfl⟩, by decide, by kernel_rfl⟩
/-- laws.eqIntS -/
def c35 : LC :=
  (.seq (.rgn [] [⟨some 4, (.assign (.const (.bool false))), 4, none⟩])
  (.seq (.seq (.rgn [] [⟨some 6, (.move (.tmp 0)), 30, none⟩,
    ⟨some 7, (.call { callee := (.builtin .len), args := #[(.tmp 6)], argTypes := #[30] }), 3, none⟩,
    ⟨some 8, (.move (.tmp 1)), 30, none⟩,
    ⟨some 9, (.call { callee := (.builtin .len), args := #[(.tmp 8)], argTypes := #[30] }), 3, none⟩,
    ⟨some 10, (.binOp .neq 3 (.tmp 7) (.tmp 9) 3), 4, none⟩])
  (.cond (.tmp 10)
    (.seq (.rgn [] [⟨some 4, (.assign (.const (.bool false))), 4, none⟩])
    .ret)
    .skip))
  (.seq (.seq (.rgn [] [⟨some 5, (.assign (.const (.int .i64 0))), 3, none⟩])
  (.blk 0
    (.loop []
      (.seq (.seq (.rgn [] [⟨some 11, (.move (.tmp 5)), 3, none⟩,
        ⟨some 12, (.move (.tmp 0)), 30, none⟩,
        ⟨some 13, (.call { callee := (.builtin .len), args := #[(.tmp 12)], argTypes := #[30] }), 3, none⟩,
        ⟨some 14, (.binOp .lss 3 (.tmp 11) (.tmp 13) 3), 4, none⟩])
      (.cond (.tmp 14)
        .skip
        (.exit 0)))
      (.seq (.blk 1
        (.seq (.drw [] [([0], [17]), ([5], [18]), ([17, 18], [19]), ([19], [20]), ([1], [21]), ([5], [22]), ([21, 22], [23]), ([23], [24]), ([20, 24], [25])] [[], [], [0, 1], [2], [], [], [4, 5], [6], [3, 7]] [⟨some 17, (.move (.tmp 0)), 30, none⟩,
          ⟨some 18, (.move (.tmp 5)), 3, none⟩,
          ⟨some 19, (.indexAddr 30 (.tmp 17) (.tmp 18)), 0, none⟩,
          ⟨some 20, (.load 3 (.tmp 19)), 3, none⟩,
          ⟨some 21, (.move (.tmp 1)), 30, none⟩,
          ⟨some 22, (.move (.tmp 5)), 3, none⟩,
          ⟨some 23, (.indexAddr 30 (.tmp 21) (.tmp 22)), 0, none⟩,
          ⟨some 24, (.load 3 (.tmp 23)), 3, none⟩,
          ⟨some 25, (.binOp .neq 3 (.tmp 20) (.tmp 24) 3), 4, none⟩])
        (.cond (.tmp 25)
          (.seq (.rgn [] [⟨some 4, (.assign (.const (.bool false))), 4, none⟩])
          .ret)
          .skip)))
      (.rgn [] [⟨some 15, (.move (.tmp 5)), 3, none⟩,
        ⟨some 16, (.binOp .add 3 (.tmp 15) (.const (.int .i64 1)) 3), 3, none⟩,
        ⟨some 5, (.assign (.tmp 16)), 3, none⟩]))))))
  (.seq (.rgn [] [⟨some 4, (.assign (.const (.bool true))), 4, none⟩])
  .ret))))
theorem lit35 : Lit Try.prog 35 26 [] [.tmp 4] c35 := ⟨⟨Try.f35, _, Try.func35, rfl, by kernel_rfl, rfl, rfl, by kernel_rfl, by kernel_rfl⟩, by decide, by kernel_rfl⟩
/-- spec.IsValidRelation -/
def c39 : LC :=
  (.seq (.rgn [] [⟨some 1, (.box 24 (.tmp 0)), 0, none⟩,
    ⟨some 2, (.assign (.const (.bool false))), 4, none⟩])
  (.seq (.seq (.rgn [] [⟨some 4, (.fieldAddr 24 (.tmp 1) 0), 0, none⟩,
    ⟨some 5, (.load 3 (.tmp 4)), 3, none⟩,
    ⟨some 6, (.call { callee := (.value (.func 80)), args := #[(.tmp 5), (.const (.int .i64 0)), (.const (.int .i64 5))], argTypes := #[3, 3, 3] }), 4, none⟩,
    ⟨some 7, (.unOp .not 4 (.tmp 6)), 4, none⟩,
    ⟨some 8, (.move (.tmp 7)), 4, none⟩,
    ⟨some 9, (.fieldAddr 24 (.tmp 1) 1), 0, some (some 8, false)⟩,
    ⟨some 10, (.load 22 (.tmp 9)), 22, some (some 8, false)⟩,
    ⟨some 11, (.call { callee := (.builtin .len), args := #[(.tmp 10)], argTypes := #[22] }), 3, some (some 8, false)⟩,
    ⟨some 12, (.binOp .gtr 3 (.tmp 11) (.const (.int .i64 4000)) 3), 4, some (some 8, false)⟩,
    ⟨some 13, (.pick (.tmp 8) (.const (.bool true)) (.tmp 12)), 4, none⟩])
  (.cond (.tmp 13)
    (.seq (.rgn [] [⟨some 2, (.assign (.const (.bool false))), 4, none⟩])
    .ret)
    .skip))
  (.seq (.seq (.rgn [] [⟨some 3, (.assign (.const (.int .i64 0))), 3, none⟩])
  (.blk 0
    (.loop []
      (.seq (.seq (.rgn [] [⟨some 14, (.move (.tmp 3)), 3, none⟩,
        ⟨some 15, (.fieldAddr 24 (.tmp 1) 1), 0, none⟩,
        ⟨some 16, (.load 22 (.tmp 15)), 22, none⟩,
        ⟨some 17, (.call { callee := (.builtin .len), args := #[(.tmp 16)], argTypes := #[22] }), 3, none⟩,
        ⟨some 18, (.binOp .lss 3 (.tmp 14) (.tmp 17) 3), 4, none⟩])
      (.cond (.tmp 18)
        .skip
        (.exit 0)))
      (.seq (.blk 1
        (.seq (.drw [] [([1], [21]), ([1, 21], [22]), ([3], [23]), ([22, 23], [24]), ([24], [25]), ([25], [26]), ([1], [27]), ([1, 27], [28]), ([26, 28], [29]), ([29], [30]), ([1, 30], [31]), ([1, 30, 31], [32]), ([3, 30], [33]), ([30, 32, 33], [34]), ([30, 34], [35]), ([30, 35], [36]), ([30, 36], [37]), ([30, 37], [38]), ([38], [39]), ([3, 39], [40]), ([39, 40], [41]), ([39, 41], [42]), ([1, 42], [43]), ([1, 42, 43], [44]), ([3, 42], [45]), ([42, 45], [46]), ([42, 44, 46], [47]), ([42, 47], [48]), ([1, 42], [49]), ([1, 42, 49], [50]), ([3, 42], [51]), ([42, 50, 51], [52]), ([42, 52], [53]), ([42, 48, 53], [54]), ([42, 54], [55]), ([39, 42, 55], [56]), ([39, 56], [57])] [[], [0], [], [1, 2], [3], [4], [], [6], [5, 7], [8], [9], [10, 9], [9], [11, 12, 9], [13, 9], [14, 9, 9], [15, 9], [9, 16], [17, 15], [18], [19, 18], [20, 18, 18], [21], [22, 21], [21], [24, 21], [23, 25, 21], [26, 21], [21], [28, 21], [21], [29, 30, 21], [31, 21], [27, 32, 21, 21], [33, 21], [21, 34, 18], [18, 35]] [⟨some 21, (.fieldAddr 24 (.tmp 1) 1), 0, none⟩,
          ⟨some 22, (.load 22 (.tmp 21)), 22, none⟩,
          ⟨some 23, (.move (.tmp 3)), 3, none⟩,
          ⟨some 24, (.indexAddr 22 (.tmp 22) (.tmp 23)), 0, none⟩,
          ⟨some 25, (.load 30 (.tmp 24)), 30, none⟩,
          ⟨some 26, (.call { callee := (.builtin .len), args := #[(.tmp 25)], argTypes := #[30] }), 3, none⟩,
          ⟨some 27, (.fieldAddr 24 (.tmp 1) 0), 0, none⟩,
          ⟨some 28, (.load 3 (.tmp 27)), 3, none⟩,
          ⟨some 29, (.binOp .neq 3 (.tmp 26) (.tmp 28) 3), 4, none⟩,
          ⟨some 30, (.move (.tmp 29)), 4, none⟩,
          ⟨some 31, (.fieldAddr 24 (.tmp 1) 1), 0, some (some 30, false)⟩,
          ⟨some 32, (.load 22 (.tmp 31)), 22, some (some 30, false)⟩,
          ⟨some 33, (.move (.tmp 3)), 3, some (some 30, false)⟩,
          ⟨some 34, (.indexAddr 22 (.tmp 32) (.tmp 33)), 0, some (some 30, false)⟩,
          ⟨some 35, (.load 30 (.tmp 34)), 30, some (some 30, false)⟩,
          ⟨some 36, (.call { callee := (.value (.func 116)), args := #[(.tmp 35)], argTypes := #[30] }), 4, some (some 30, false)⟩,
          ⟨some 37, (.unOp .not 4 (.tmp 36)), 4, some (some 30, false)⟩,
          ⟨some 38, (.pick (.tmp 30) (.const (.bool true)) (.tmp 37)), 4, none⟩,
          ⟨some 39, (.move (.tmp 38)), 4, none⟩,
          ⟨some 40, (.move (.tmp 3)), 3, some (some 39, false)⟩,
          ⟨some 41, (.binOp .gtr 3 (.tmp 40) (.const (.int .i64 0)) 3), 4, some (some 39, false)⟩,
          ⟨some 42, (.move (.tmp 41)), 4, some (some 39, false)⟩,
          ⟨some 43, (.fieldAddr 24 (.tmp 1) 1), 0, some (some 42, true)⟩,
          ⟨some 44, (.load 22 (.tmp 43)), 22, some (some 42, true)⟩,
          ⟨some 45, (.move (.tmp 3)), 3, some (some 42, true)⟩,
          ⟨some 46, (.binOp .sub 3 (.tmp 45) (.const (.int .i64 1)) 3), 3, some (some 42, true)⟩,
          ⟨some 47, (.indexAddr 22 (.tmp 44) (.tmp 46)), 0, some (some 42, true)⟩,
          ⟨some 48, (.load 30 (.tmp 47)), 30, some (some 42, true)⟩,
          ⟨some 49, (.fieldAddr 24 (.tmp 1) 1), 0, some (some 42, true)⟩,
          ⟨some 50, (.load 22 (.tmp 49)), 22, some (some 42, true)⟩,
          ⟨some 51, (.move (.tmp 3)), 3, some (some 42, true)⟩,
          ⟨some 52, (.indexAddr 22 (.tmp 50) (.tmp 51)), 0, some (some 42, true)⟩,
          ⟨some 53, (.load 30 (.tmp 52)), 30, some (some 42, true)⟩,
          ⟨some 54, (.call { callee := (.value (.func 117)), args := #[(.tmp 48), (.tmp 53)], argTypes := #[30, 30] }), 3, some (some 42, true)⟩,
          ⟨some 55, (.binOp .geq 3 (.tmp 54) (.const (.int .i64 0)) 3), 4, some (some 42, true)⟩,
          ⟨some 56, (.pick (.tmp 42) (.tmp 55) (.const (.bool false))), 4, some (some 39, false)⟩,
          ⟨some 57, (.pick (.tmp 39) (.const (.bool true)) (.tmp 56)), 4, none⟩])
        (.cond (.tmp 57)
          (.seq (.rgn [] [⟨some 2, (.assign (.const (.bool false))), 4, none⟩])
          .ret)
          .skip)))
      (.rgn [] [⟨some 19, (.move (.tmp 3)), 3, none⟩,
        ⟨some 20, (.binOp .add 3 (.tmp 19) (.const (.int .i64 1)) 3), 3, none⟩,
        ⟨some 3, (.assign (.tmp 20)), 3, none⟩]))))))
  (.seq (.rgn [] [⟨some 2, (.assign (.const (.bool true))), 4, none⟩])
  .ret))))
theorem lit39 : Lit Try.prog 39 58 [1] [.tmp 2] c39 := ⟨⟨Try.f39, _, Try.func39, rfl, by kernel_rfl, rfl, rfl, by kernel_rfl, by kernel_rfl⟩, by decide, by kernel_rfl⟩
/-- impl.IsStrictlyAscending -/
def c40 : LC :=
  (.seq (.rgn [] [⟨some 2, (.assign (.const (.bool false))), 4, none⟩])
  (.seq (.seq (.rgn [] [⟨some 3, (.assign (.const (.int .i64 1))), 3, none⟩])
  (.blk 0
    (.loop []
      (.seq (.seq (.rgn [] [⟨some 4, (.move (.tmp 3)), 3, none⟩,
        ⟨some 5, (.move (.tmp 0)), 30, none⟩,
        ⟨some 6, (.call { callee := (.builtin .len), args := #[(.tmp 5)], argTypes := #[30] }), 3, none⟩,
        ⟨some 7, (.binOp .lss 3 (.tmp 4) (.tmp 6) 3), 4, none⟩])
      (.cond (.tmp 7)
        .skip
        (.exit 0)))
      (.seq (.blk 1
        (.seq (.drw [] [([0], [10]), ([3], [11]), ([11], [12]), ([10, 12], [13]), ([13], [14]), ([0], [15]), ([3], [16]), ([15, 16], [17]), ([17], [18]), ([14, 18], [19])] [[], [], [1], [0, 2], [3], [], [], [5, 6], [7], [4, 8]] [⟨some 10, (.move (.tmp 0)), 30, none⟩,
          ⟨some 11, (.move (.tmp 3)), 3, none⟩,
          ⟨some 12, (.binOp .sub 3 (.tmp 11) (.const (.int .i64 1)) 3), 3, none⟩,
          ⟨some 13, (.indexAddr 30 (.tmp 10) (.tmp 12)), 0, none⟩,
          ⟨some 14, (.load 3 (.tmp 13)), 3, none⟩,
          ⟨some 15, (.move (.tmp 0)), 30, none⟩,
          ⟨some 16, (.move (.tmp 3)), 3, none⟩,
          ⟨some 17, (.indexAddr 30 (.tmp 15) (.tmp 16)), 0, none⟩,
          ⟨some 18, (.load 3 (.tmp 17)), 3, none⟩,
          ⟨some 19, (.binOp .geq 3 (.tmp 14) (.tmp 18) 3), 4, none⟩])
        (.cond (.tmp 19)
          (.seq (.rgn [] [⟨some 2, (.assign (.const (.bool false))), 4, none⟩])
          .ret)
          .skip)))
      (.rgn [] [⟨some 8, (.move (.tmp 3)), 3, none⟩,
        ⟨some 9, (.binOp .add 3 (.tmp 8) (.const (.int .i64 1)) 3), 3, none⟩,
        ⟨some 3, (.assign (.tmp 9)), 3, none⟩]))))))
  (.seq (.rgn [] [⟨some 2, (.assign (.const (.bool true))), 4, none⟩])
  .ret)))
theorem lit40 : Lit Try.prog 40 20 [] [.tmp 2] c40 := ⟨⟨Try.f40, _, Try.func40, rfl, by kernel_rfl, rfl, rfl, by kernel_rfl, by kernel_rfl⟩, by decide, by kernel_rfl⟩
/-- laws.szHistory -/
def c45 : LC :=
  (.seq (.rgn [] [⟨some 2, (.box 73 (.tmp 0)), 0, none⟩,
    ⟨some 4, (.assign (.const (.int .i64 0))), 3, none⟩])
  (.seq (.rgn [] [⟨some 5, (.fieldAddr 73 (.tmp 2) 1), 0, none⟩,
    ⟨some 6, (.load 71 (.tmp 5)), 71, none⟩,
    ⟨some 7, (.move (.tmp 1)), 3, none⟩,
    ⟨some 8, (.call { callee := (.value (.func 119)), args := #[(.tmp 6), (.tmp 7)], argTypes := #[71, 3] }), 3, none⟩,
    ⟨some 1, (.assign (.tmp 8)), 3, none⟩])
  (.seq (.seq (.rgn [] [⟨some 9, (.move (.tmp 1)), 3, none⟩,
    ⟨some 10, (.binOp .lss 3 (.tmp 9) (.const (.int .i64 0)) 3), 4, none⟩])
  (.cond (.tmp 10)
    (.seq (.rgn [] [⟨some 4, (.assign (.const (.int .i64 (-1)))), 3, none⟩])
    .ret)
    .skip))
  (.seq (.rgn [] [⟨some 11, (.move (.tmp 1)), 3, none⟩,
    ⟨some 4, (.assign (.tmp 11)), 3, none⟩])
  .ret))))
theorem lit45 : Lit Try.prog 45 12 [2] [.tmp 4] c45 := ⟨⟨Try.f45, _, Try.func45, rfl, by kernel_rfl, rfl, rfl, by kernel_rfl, by kernel_rfl⟩, by decide, by kernel_rfl⟩
/-- spec.IsValidHistory -/
def c46 : LC :=
  (.seq (.rgn [] [⟨some 1, (.box 78 (.tmp 0)), 0, none⟩,
    ⟨some 2, (.assign (.const (.bool false))), 4, none⟩])
  (.seq (.seq (.rgn [] [⟨some 3, (.assign (.const (.int .i64 0))), 3, none⟩])
  (.blk 0
    (.loop []
      (.seq (.seq (.rgn [] [⟨some 4, (.move (.tmp 3)), 3, none⟩,
        ⟨some 5, (.fieldAddr 78 (.tmp 1) 1), 0, none⟩,
        ⟨some 6, (.load 76 (.tmp 5)), 76, none⟩,
        ⟨some 7, (.call { callee := (.builtin .len), args := #[(.tmp 6)], argTypes := #[76] }), 3, none⟩,
        ⟨some 8, (.binOp .lss 3 (.tmp 4) (.tmp 7) 3), 4, none⟩])
      (.cond (.tmp 8)
        .skip
        (.exit 0)))
      (.seq (.blk 1
        (.seq (.rgn [] [⟨some 11, (.fieldAddr 78 (.tmp 1) 1), 0, none⟩,
          ⟨some 12, (.load 76 (.tmp 11)), 76, none⟩,
          ⟨some 13, (.move (.tmp 3)), 3, none⟩,
          ⟨some 14, (.indexAddr 76 (.tmp 12) (.tmp 13)), 0, none⟩,
          ⟨some 15, (.load 100 (.tmp 14)), 100, none⟩,
          ⟨some 16, (.call { callee := (.value (.func 120)), args := #[(.tmp 15)], argTypes := #[100] }), 4, none⟩,
          ⟨some 17, (.unOp .not 4 (.tmp 16)), 4, none⟩])
        (.cond (.tmp 17)
          (.seq (.rgn [] [⟨some 2, (.assign (.const (.bool false))), 4, none⟩])
          .ret)
          .skip)))
      (.rgn [] [⟨some 9, (.move (.tmp 3)), 3, none⟩,
        ⟨some 10, (.binOp .add 3 (.tmp 9) (.const (.int .i64 1)) 3), 3, none⟩,
        ⟨some 3, (.assign (.tmp 10)), 3, none⟩]))))))
  (.seq (.rgn [] [⟨some 18, (.fieldAddr 78 (.tmp 1) 1), 0, none⟩,
    ⟨some 19, (.load 76 (.tmp 18)), 76, none⟩,
    ⟨some 20, (.call { callee := (.builtin .len), args := #[(.tmp 19)], argTypes := #[76] }), 3, none⟩,
    ⟨some 21, (.call { callee := (.value (.func 80)), args := #[(.tmp 20), (.const (.int .i64 1)), (.const (.int .i64 6))], argTypes := #[3, 3, 3] }), 4, none⟩,
    ⟨some 22, (.move (.tmp 21)), 4, none⟩,
    ⟨some 23, (.fieldAddr 78 (.tmp 1) 0), 0, some (some 22, true)⟩,
    ⟨some 24, (.load 3 (.tmp 23)), 3, some (some 22, true)⟩,
    ⟨some 25, (.fieldAddr 78 (.tmp 1) 1), 0, some (some 22, true)⟩,
    ⟨some 26, (.load 76 (.tmp 25)), 76, some (some 22, true)⟩,
    ⟨some 27, (.call { callee := (.builtin .len), args := #[(.tmp 26)], argTypes := #[76] }), 3, some (some 22, true)⟩,
    ⟨some 28, (.binOp .sub 3 (.const (.int .i64 99)) (.tmp 27) 3), 3, some (some 22, true)⟩,
    ⟨some 29, (.binOp .add 3 (.tmp 28) (.const (.int .i64 1)) 3), 3, some (some 22, true)⟩,
    ⟨some 30, (.call { callee := (.value (.func 80)), args := #[(.tmp 24), (.const (.int .i64 1)), (.tmp 29)], argTypes := #[3, 3, 3] }), 4, some (some 22, true)⟩,
    ⟨some 31, (.pick (.tmp 22) (.tmp 30) (.const (.bool false))), 4, none⟩,
    ⟨some 2, (.assign (.tmp 31)), 4, none⟩])
  .ret)))
theorem lit46 : Lit Try.prog 46 32 [1] [.tmp 2] c46 := ⟨⟨Try.f46, _, Try.func46, rfl, by kernel_rfl, rfl, rfl, by kernel_rfl, by kernel_rfl⟩, by decide, by kernel_rfl⟩
/-- laws.toHistory -/
def c47 : LC :=
  (.seq (.rgn [] [⟨some 1, (.box 73 (.tmp 0)), 0, none⟩,
    ⟨some 2, (.alloc 78), 0, none⟩])
  (.seq (.rgn [] [⟨some 3, (.alloc 78), 0, none⟩])
  (.seq (.rgn [] [⟨some 4, (.fieldAddr 73 (.tmp 1) 0), 0, none⟩,
    ⟨some 5, (.load 3 (.tmp 4)), 3, none⟩,
    ⟨some 6, (.fieldAddr 78 (.tmp 3) 0), 0, none⟩,
    ⟨none, (.store 3 (.tmp 6) (.tmp 5)), 0, none⟩])
  (.seq (.rgn [] [⟨some 7, (.fieldAddr 73 (.tmp 1) 1), 0, none⟩,
    ⟨some 8, (.load 71 (.tmp 7)), 71, none⟩,
    ⟨some 9, (.call { callee := (.value (.func 121)), args := #[(.tmp 8)], argTypes := #[71] }), 76, none⟩,
    ⟨some 10, (.fieldAddr 78 (.tmp 3) 1), 0, none⟩,
    ⟨none, (.store 76 (.tmp 10) (.tmp 9)), 0, none⟩])
  (.seq (.rgn [11] [⟨some 11, (.load 78 (.tmp 3)), 78, none⟩,
    ⟨none, (.store 78 (.tmp 2) (.tmp 11)), 0, none⟩])
  .ret)))))
theorem lit47 : Lit Try.prog 47 12 [1, 2, 3] [.cell 2 78] c47 := ⟨⟨Try.f47, _, Try.func47, rfl, by kernel_rfl, rfl, rfl, by kernel_rfl, by kernel_rfl⟩, by decide, by kernel_rfl⟩
/-- impl.IsValidHistory -/
def c48 : LC :=
  (.seq (.rgn [] [⟨some 1, (.box 78 (.tmp 0)), 0, none⟩,
    ⟨some 2, (.assign (.const (.bool false))), 4, none⟩])
  (.seq (.rgn [] [⟨some 6, (.fieldAddr 78 (.tmp 1) 1), 0, none⟩,
    ⟨some 7, (.load 76 (.tmp 6)), 76, none⟩,
    ⟨some 8, (.call { callee := (.builtin .len), args := #[(.tmp 7)], argTypes := #[76] }), 3, none⟩,
    ⟨some 3, (.assign (.tmp 8)), 3, none⟩])
  (.seq (.seq (.rgn [] [⟨some 9, (.move (.tmp 3)), 3, none⟩,
    ⟨some 10, (.call { callee := (.value (.func 82)), args := #[(.tmp 9), (.const (.int .i64 1)), (.const (.int .i64 6))], argTypes := #[3, 3, 3] }), 4, none⟩,
    ⟨some 11, (.unOp .not 4 (.tmp 10)), 4, none⟩,
    ⟨some 12, (.move (.tmp 11)), 4, none⟩,
    ⟨some 13, (.fieldAddr 78 (.tmp 1) 0), 0, some (some 12, false)⟩,
    ⟨some 14, (.load 3 (.tmp 13)), 3, some (some 12, false)⟩,
    ⟨some 15, (.move (.tmp 3)), 3, some (some 12, false)⟩,
    ⟨some 16, (.binOp .sub 3 (.const (.int .i64 99)) (.tmp 15) 3), 3, some (some 12, false)⟩,
    ⟨some 17, (.binOp .add 3 (.tmp 16) (.const (.int .i64 1)) 3), 3, some (some 12, false)⟩,
    ⟨some 18, (.call { callee := (.value (.func 82)), args := #[(.tmp 14), (.const (.int .i64 1)), (.tmp 17)], argTypes := #[3, 3, 3] }), 4, some (some 12, false)⟩,
    ⟨some 19, (.unOp .not 4 (.tmp 18)), 4, some (some 12, false)⟩,
    ⟨some 20, (.pick (.tmp 12) (.const (.bool true)) (.tmp 19)), 4, none⟩])
  (.cond (.tmp 20)
    (.seq (.rgn [] [⟨some 2, (.assign (.const (.bool false))), 4, none⟩])
    .ret)
    .skip))
  (.seq (.seq (.rgn [] [⟨some 21, (.fieldAddr 78 (.tmp 1) 1), 0, none⟩,
    ⟨some 22, (.load 76 (.tmp 21)), 76, none⟩,
    ⟨some 23, (.call { callee := (.builtin .len), args := #[(.tmp 22)], argTypes := #[76] }), 3, none⟩,
    ⟨some 24, (.move (.const (.int .i64 0))), 3, none⟩])
  (.blk 0
    (.loop [5]
      (.seq (.rgn [] [⟨some 25, (.binOp .lss 3 (.tmp 24) (.tmp 23) 3), 0, none⟩])
      (.seq (.cond (.tmp 25)
        .skip
        (.exit 0))
      (.seq (.blk 1
        (.seq (.rgn [27] [⟨some 26, (.indexAddr 76 (.tmp 22) (.tmp 24)), 0, none⟩,
          ⟨some 27, (.load 100 (.tmp 26)), 100, none⟩,
          ⟨some 5, (.alloc 100), 0, none⟩,
          ⟨none, (.store 100 (.tmp 5) (.tmp 27)), 0, none⟩])
        (.seq (.rgn [] [⟨some 28, (.load 100 (.tmp 5)), 100, none⟩,
          ⟨some 29, (.call { callee := (.value (.func 122)), args := #[(.tmp 28)], argTypes := #[100] }), 4, none⟩,
          ⟨some 30, (.unOp .not 4 (.tmp 29)), 4, none⟩])
        (.cond (.tmp 30)
          (.seq (.rgn [] [⟨some 2, (.assign (.const (.bool false))), 4, none⟩])
          .ret)
          .skip))))
      (.rgn [] [⟨some 31, (.binOp .add 3 (.tmp 24) (.const (.int .i64 1)) 3), 3, none⟩,
        ⟨some 24, (.move (.tmp 31)), 3, none⟩])))))))
  (.seq (.rgn [] [⟨some 2, (.assign (.const (.bool true))), 4, none⟩])
  .ret)))))
theorem lit48 : Lit Try.prog 48 32 [1, 5] [.tmp 2] c48 := ⟨⟨Try.f48, _, Try.func48, rfl, by kernel_rfl, rfl, rfl, by kernel_rfl, by kernel_rfl⟩, by decide, by kernel_rfl⟩
/-- laws.eqHistory -/
def c49 : LC :=
  (.seq (.rgn [] [⟨some 2, (.box 78 (.tmp 0)), 0, none⟩,
    ⟨some 3, (.box 78 (.tmp 1)), 0, none⟩,
    ⟨some 4, (.assign (.const (.bool false))), 4, none⟩])
  (.seq (.seq (.rgn [] [⟨some 5, (.fieldAddr 78 (.tmp 2) 0), 0, none⟩,
    ⟨some 6, (.load 3 (.tmp 5)), 3, none⟩,
    ⟨some 7, (.fieldAddr 78 (.tmp 3) 0), 0, none⟩,
    ⟨some 8, (.load 3 (.tmp 7)), 3, none⟩,
    ⟨some 9, (.binOp .neq 3 (.tmp 6) (.tmp 8) 3), 4, none⟩])
  (.cond (.tmp 9)
    (.seq (.rgn [] [⟨some 4, (.assign (.const (.bool false))), 4, none⟩])
    .ret)
    .skip))
  (.seq (.seq (.rgn [] [⟨some 10, (.fieldAddr 78 (.tmp 2) 1), 0, none⟩,
    ⟨some 11, (.load 76 (.tmp 10)), 76, none⟩,
    ⟨some 12, (.fieldAddr 78 (.tmp 3) 1), 0, none⟩,
    ⟨some 13, (.load 76 (.tmp 12)), 76, none⟩,
    ⟨some 14, (.call { callee := (.value (.func 123)), args := #[(.tmp 11), (.tmp 13)], argTypes := #[76, 76] }), 4, none⟩,
    ⟨some 15, (.unOp .not 4 (.tmp 14)), 4, none⟩])
  (.cond (.tmp 15)
    (.seq (.rgn [] [⟨some 4, (.assign (.const (.bool false))), 4, none⟩])
    .ret)
    .skip))
  (.seq (.rgn [] [⟨some 4, (.assign (.const (.bool true))), 4, none⟩])
  .ret))))
theorem lit49 : Lit Try.prog 49 16 [2, 3] [.tmp 4] c49 := ⟨⟨Try.f49, _, Try.func49, rfl, by kernel_rfl, rfl, rfl, by kernel_rfl, by kernel_rfl⟩, by decide, by kernel_rfl⟩
/-- laws.szFunctionalDependency -/
def c50 : LC :=
  (.seq (.rgn [] [⟨some 2, (.box 83 (.tmp 0)), 0, none⟩,
    ⟨some 4, (.assign (.const (.int .i64 0))), 3, none⟩])
  (.seq (.rgn [] [⟨some 5, (.move (.tmp 1)), 3, none⟩,
    ⟨some 6, (.fieldAddr 83 (.tmp 2) 0), 0, none⟩,
    ⟨some 7, (.load 9 (.tmp 6)), 9, none⟩,
    ⟨some 8, (.call { callee := (.builtin .len), args := #[(.tmp 7)], argTypes := #[9] }), 3, none⟩,
    ⟨some 9, (.binOp .sub 3 (.tmp 5) (.tmp 8) 3), 3, none⟩,
    ⟨some 1, (.assign (.tmp 9)), 3, none⟩])
  (.seq (.seq (.rgn [] [⟨some 10, (.move (.tmp 1)), 3, none⟩,
    ⟨some 11, (.binOp .lss 3 (.tmp 10) (.const (.int .i64 0)) 3), 4, none⟩])
  (.cond (.tmp 11)
    (.seq (.rgn [] [⟨some 4, (.assign (.const (.int .i64 (-1)))), 3, none⟩])
    .ret)
    .skip))
  (.seq (.rgn [] [⟨some 12, (.fieldAddr 83 (.tmp 2) 1), 0, none⟩,
    ⟨some 13, (.load 30 (.tmp 12)), 30, none⟩,
    ⟨some 14, (.move (.tmp 1)), 3, none⟩,
    ⟨some 15, (.call { callee := (.value (.func 87)), args := #[(.tmp 13), (.tmp 14)], argTypes := #[30, 3] }), 3, none⟩,
    ⟨some 1, (.assign (.tmp 15)), 3, none⟩])
  (.seq (.seq (.rgn [] [⟨some 16, (.move (.tmp 1)), 3, none⟩,
    ⟨some 17, (.binOp .lss 3 (.tmp 16) (.const (.int .i64 0)) 3), 4, none⟩])
  (.cond (.tmp 17)
    (.seq (.rgn [] [⟨some 4, (.assign (.const (.int .i64 (-1)))), 3, none⟩])
    .ret)
    .skip))
  (.seq (.rgn [] [⟨some 18, (.move (.tmp 1)), 3, none⟩,
    ⟨some 4, (.assign (.tmp 18)), 3, none⟩])
  .ret))))))
theorem lit50 : Lit Try.prog 50 19 [2] [.tmp 4] c50 := ⟨⟨Try.f50, _, Try.func50, rfl, by kernel_rfl, rfl, rfl, by kernel_rfl, by kernel_rfl⟩, by decide, by kernel_rfl⟩
/-- laws.toFunctionalDependency -/
def c52 : LC :=
  (.seq (.rgn [] [⟨some 1, (.box 83 (.tmp 0)), 0, none⟩,
    ⟨some 2, (.alloc 86), 0, none⟩])
  (.seq (.rgn [] [⟨some 3, (.alloc 86), 0, none⟩])
  (.seq (.rgn [] [⟨some 4, (.fieldAddr 83 (.tmp 1) 0), 0, none⟩,
    ⟨some 5, (.load 9 (.tmp 4)), 9, none⟩,
    ⟨some 6, (.fieldAddr 86 (.tmp 3) 0), 0, none⟩,
    ⟨none, (.store 9 (.tmp 6) (.tmp 5)), 0, none⟩])
  (.seq (.rgn [] [⟨some 7, (.fieldAddr 83 (.tmp 1) 1), 0, none⟩,
    ⟨some 8, (.load 30 (.tmp 7)), 30, none⟩,
    ⟨some 9, (.call { callee := (.value (.func 32)), args := #[(.tmp 8)], argTypes := #[30] }), 30, none⟩,
    ⟨some 10, (.fieldAddr 86 (.tmp 3) 1), 0, none⟩,
    ⟨none, (.store 30 (.tmp 10) (.tmp 9)), 0, none⟩])
  (.seq (.rgn [] [⟨some 11, (.fieldAddr 83 (.tmp 1) 2), 0, none⟩,
    ⟨some 12, (.load 3 (.tmp 11)), 3, none⟩,
    ⟨some 13, (.fieldAddr 86 (.tmp 3) 2), 0, none⟩,
    ⟨none, (.store 3 (.tmp 13) (.tmp 12)), 0, none⟩])
  (.seq (.rgn [14] [⟨some 14, (.load 86 (.tmp 3)), 86, none⟩,
    ⟨none, (.store 86 (.tmp 2) (.tmp 14)), 0, none⟩])
  .ret))))))
theorem lit52 : Lit Try.prog 52 15 [1, 2, 3] [.cell 2 86] c52 := ⟨⟨Try.f52, _, Try.func52, rfl, by kernel_rfl, rfl, rfl, by kernel_rfl, by kernel_rfl⟩, by decide, by kernel_rfl⟩
/-- laws.eqFunctionalDependency -/
def c54 : LC :=
  (.seq (.rgn [] [⟨some 2, (.box 86 (.tmp 0)), 0, none⟩,
    ⟨some 3, (.box 86 (.tmp 1)), 0, none⟩,
    ⟨some 4, (.assign (.const (.bool false))), 4, none⟩])
  (.seq (.seq (.rgn [] [⟨some 5, (.fieldAddr 86 (.tmp 2) 0), 0, none⟩,
    ⟨some 6, (.load 9 (.tmp 5)), 9, none⟩,
    ⟨some 7, (.fieldAddr 86 (.tmp 3) 0), 0, none⟩,
    ⟨some 8, (.load 9 (.tmp 7)), 9, none⟩,
    ⟨some 9, (.binOp .neq 9 (.tmp 6) (.tmp 8) 9), 4, none⟩])
  (.cond (.tmp 9)
    (.seq (.rgn [] [⟨some 4, (.assign (.const (.bool false))), 4, none⟩])
    .ret)
    .skip))
  (.seq (.seq (.rgn [] [⟨some 10, (.fieldAddr 86 (.tmp 2) 1), 0, none⟩,
    ⟨some 11, (.load 30 (.tmp 10)), 30, none⟩,
    ⟨some 12, (.fieldAddr 86 (.tmp 3) 1), 0, none⟩,
    ⟨some 13, (.load 30 (.tmp 12)), 30, none⟩,
    ⟨some 14, (.call { callee := (.value (.func 35)), args := #[(.tmp 11), (.tmp 13)], argTypes := #[30, 30] }), 4, none⟩,
    ⟨some 15, (.unOp .not 4 (.tmp 14)), 4, none⟩])
  (.cond (.tmp 15)
    (.seq (.rgn [] [⟨some 4, (.assign (.const (.bool false))), 4, none⟩])
    .ret)
    .skip))
  (.seq (.seq (.rgn [] [⟨some 16, (.fieldAddr 86 (.tmp 2) 2), 0, none⟩,
    ⟨some 17, (.load 3 (.tmp 16)), 3, none⟩,
    ⟨some 18, (.fieldAddr 86 (.tmp 3) 2), 0, none⟩,
    ⟨some 19, (.load 3 (.tmp 18)), 3, none⟩,
    ⟨some 20, (.binOp .neq 3 (.tmp 17) (.tmp 19) 3), 4, none⟩])
  (.cond (.tmp 20)
    (.seq (.rgn [] [⟨some 4, (.assign (.const (.bool false))), 4, none⟩])
    .ret)
    .skip))
  (.seq (.rgn [] [⟨some 4, (.assign (.const (.bool true))), 4, none⟩])
  .ret)))))
theorem lit54 : Lit Try.prog 54 21 [2, 3] [.tmp 4] c54 := ⟨⟨Try.f54, _, Try.func54, rfl, by kernel_rfl, rfl, rfl, by kernel_rfl, by kernel_rfl⟩, by decide, by kernel_rfl⟩
/-- laws.szDatabase -/
def c59 : LC :=
  (.seq (.rgn [] [⟨some 2, (.box 95 (.tmp 0)), 0, none⟩,
    ⟨some 4, (.assign (.const (.int .i64 0))), 3, none⟩])
  (.seq (.rgn [] [⟨some 5, (.fieldAddr 95 (.tmp 2) 0), 0, none⟩,
    ⟨some 6, (.load 93 (.tmp 5)), 93, none⟩,
    ⟨some 7, (.move (.tmp 1)), 3, none⟩,
    ⟨some 8, (.call { callee := (.value (.func 127)), args := #[(.tmp 6), (.tmp 7)], argTypes := #[93, 3] }), 3, none⟩,
    ⟨some 1, (.assign (.tmp 8)), 3, none⟩])
  (.seq (.seq (.rgn [] [⟨some 9, (.move (.tmp 1)), 3, none⟩,
    ⟨some 10, (.binOp .lss 3 (.tmp 9) (.const (.int .i64 0)) 3), 4, none⟩])
  (.cond (.tmp 10)
    (.seq (.rgn [] [⟨some 4, (.assign (.const (.int .i64 (-1)))), 3, none⟩])
    .ret)
    .skip))
  (.seq (.rgn [] [⟨some 11, (.move (.tmp 1)), 3, none⟩,
    ⟨some 4, (.assign (.tmp 11)), 3, none⟩])
  .ret))))
theorem lit59 : Lit Try.prog 59 12 [2] [.tmp 4] c59 := ⟨⟨Try.f59, _, Try.func59, rfl, by kernel_rfl, rfl, rfl, by kernel_rfl, by kernel_rfl⟩, by decide, by kernel_rfl⟩
/-- spec.IsValidFD -/
def c60 : LC :=
  (.seq (.rgn [] [⟨some 2, (.box 100 (.tmp 0)), 0, none⟩,
    ⟨some 3, (.box 86 (.tmp 1)), 0, none⟩,
    ⟨some 4, (.assign (.const (.bool false))), 4, none⟩])
  (.seq (.rgn [8] [⟨some 9, (.load 100 (.tmp 2)), 100, none⟩,
    ⟨some 10, (.fieldAddr 86 (.tmp 3) 0), 0, none⟩,
    ⟨some 11, (.load 9 (.tmp 10)), 9, none⟩,
    ⟨some 12, (.call { callee := (.value (.func 73)), args := #[(.tmp 9), (.tmp 11)], argTypes := #[100, 9] }), 25, none⟩,
    ⟨some 8, (.move (.tmp 12)), 25, none⟩,
    ⟨some 13, (.extract (.tmp 8) 0), 24, none⟩,
    ⟨some 14, (.extract (.tmp 8) 1), 4, none⟩,
    ⟨some 5, (.alloc 24), 0, none⟩,
    ⟨none, (.store 24 (.tmp 5) (.tmp 13)), 0, none⟩,
    ⟨some 6, (.assign (.tmp 14)), 4, none⟩])
  (.seq (.seq (.rgn [] [⟨some 7, (.assign (.const (.int .i64 0))), 3, none⟩])
  (.blk 0
    (.loop []
      (.seq (.seq (.rgn [] [⟨some 15, (.move (.tmp 7)), 3, none⟩,
        ⟨some 16, (.fieldAddr 86 (.tmp 3) 1), 0, none⟩,
        ⟨some 17, (.load 30 (.tmp 16)), 30, none⟩,
        ⟨some 18, (.call { callee := (.builtin .len), args := #[(.tmp 17)], argTypes := #[30] }), 3, none⟩,
        ⟨some 19, (.binOp .lss 3 (.tmp 15) (.tmp 18) 3), 4, none⟩])
      (.cond (.tmp 19)
        .skip
        (.exit 0)))
      (.seq (.blk 1
        (.seq (.drw [] [([3], [22]), ([3, 22], [23]), ([7], [24]), ([23, 24], [25]), ([25], [26]), ([5], [27]), ([5, 27], [28]), ([28], [29]), ([26, 29], [30]), ([30], [31]), ([31], [32]), ([7, 32], [33]), ([32, 33], [34]), ([32, 34], [35]), ([3, 35], [36]), ([3, 35, 36], [37]), ([7, 35], [38]), ([35, 37, 38], [39]), ([35, 39], [40]), ([3, 35], [41]), ([3, 35, 41], [42]), ([7, 35], [43]), ([35, 43], [44]), ([35, 42, 44], [45]), ([35, 45], [46]), ([35, 40, 46], [47]), ([32, 35, 47], [48]), ([32, 48], [49])] [[], [0], [], [1, 2], [3], [], [5], [6], [4, 7], [8], [9, 8], [10], [11, 10], [12, 10, 10], [13], [14, 13], [13], [15, 16, 13], [17, 13], [13], [19, 13], [13], [21, 13], [20, 22, 13], [23, 13], [18, 24, 13], [13, 25, 10], [10, 26]] [⟨some 22, (.fieldAddr 86 (.tmp 3) 1), 0, none⟩,
          ⟨some 23, (.load 30 (.tmp 22)), 30, none⟩,
          ⟨some 24, (.move (.tmp 7)), 3, none⟩,
          ⟨some 25, (.indexAddr 30 (.tmp 23) (.tmp 24)), 0, none⟩,
          ⟨some 26, (.load 3 (.tmp 25)), 3, none⟩,
          ⟨some 27, (.fieldAddr 24 (.tmp 5) 0), 0, none⟩,
          ⟨some 28, (.load 3 (.tmp 27)), 3, none⟩,
          ⟨some 29, (.binOp .sub 3 (.tmp 28) (.const (.int .i64 1)) 3), 3, none⟩,
          ⟨some 30, (.call { callee := (.value (.func 80)), args := #[(.tmp 26), (.const (.int .i64 0)), (.tmp 29)], argTypes := #[3, 3, 3] }), 4, none⟩,
          ⟨some 31, (.unOp .not 4 (.tmp 30)), 4, none⟩,
          ⟨some 32, (.move (.tmp 31)), 4, none⟩,
          ⟨some 33, (.move (.tmp 7)), 3, some (some 32, false)⟩,
          ⟨some 34, (.binOp .gtr 3 (.tmp 33) (.const (.int .i64 0)) 3), 4, some (some 32, false)⟩,
          ⟨some 35, (.move (.tmp 34)), 4, some (some 32, false)⟩,
          ⟨some 36, (.fieldAddr 86 (.tmp 3) 1), 0, some (some 35, true)⟩,
          ⟨some 37, (.load 30 (.tmp 36)), 30, some (some 35, true)⟩,
          ⟨some 38, (.move (.tmp 7)), 3, some (some 35, true)⟩,
          ⟨some 39, (.indexAddr 30 (.tmp 37) (.tmp 38)), 0, some (some 35, true)⟩,
          ⟨some 40, (.load 3 (.tmp 39)), 3, some (some 35, true)⟩,
          ⟨some 41, (.fieldAddr 86 (.tmp 3) 1), 0, some (some 35, true)⟩,
          ⟨some 42, (.load 30 (.tmp 41)), 30, some (some 35, true)⟩,
          ⟨some 43, (.move (.tmp 7)), 3, some (some 35, true)⟩,
          ⟨some 44, (.binOp .sub 3 (.tmp 43) (.const (.int .i64 1)) 3), 3, some (some 35, true)⟩,
          ⟨some 45, (.indexAddr 30 (.tmp 42) (.tmp 44)), 0, some (some 35, true)⟩,
          ⟨some 46, (.load 3 (.tmp 45)), 3, some (some 35, true)⟩,
          ⟨some 47, (.binOp .leq 3 (.tmp 40) (.tmp 46) 3), 4, some (some 35, true)⟩,
          ⟨some 48, (.pick (.tmp 35) (.tmp 47) (.const (.bool false))), 4, some (some 32, false)⟩,
          ⟨some 49, (.pick (.tmp 32) (.const (.bool true)) (.tmp 48)), 4, none⟩])
        (.cond (.tmp 49)
          (.seq (.rgn [] [⟨some 4, (.assign (.const (.bool false))), 4, none⟩])
          .ret)
          .skip)))
      (.rgn [] [⟨some 20, (.move (.tmp 7)), 3, none⟩,
        ⟨some 21, (.binOp .add 3 (.tmp 20) (.const (.int .i64 1)) 3), 3, none⟩,
        ⟨some 7, (.assign (.tmp 21)), 3, none⟩]))))))
  (.seq (.rgn [] [⟨some 50, (.move (.tmp 6)), 4, none⟩,
    ⟨some 51, (.move (.tmp 50)), 4, none⟩,
    ⟨some 52, (.fieldAddr 86 (.tmp 3) 2), 0, some (some 51, true)⟩,
    ⟨some 53, (.load 3 (.tmp 52)), 3, some (some 51, true)⟩,
    ⟨some 54, (.fieldAddr 24 (.tmp 5) 0), 0, some (some 51, true)⟩,
    ⟨some 55, (.load 3 (.tmp 54)), 3, some (some 51, true)⟩,
    ⟨some 56, (.binOp .sub 3 (.tmp 55) (.const (.int .i64 1)) 3), 3, some (some 51, true)⟩,
    ⟨some 57, (.call { callee := (.value (.func 80)), args := #[(.tmp 53), (.const (.int .i64 0)), (.tmp 56)], argTypes := #[3, 3, 3] }), 4, some (some 51, true)⟩,
    ⟨some 58, (.pick (.tmp 51) (.tmp 57) (.const (.bool false))), 4, none⟩,
    ⟨some 4, (.assign (.tmp 58)), 4, none⟩])
  .ret))))
theorem lit60 : Lit Try.prog 60 59 [2, 3, 5] [.tmp 4] c60 := ⟨⟨Try.f60, _, Try.func60, rfl, by kernel_rfl, rfl, rfl, by kernel_rfl, by kernel_rfl⟩, by decide, by kernel_rfl⟩
/-- laws.toDatabase -/
def c61 : LC :=
  (.seq (.rgn [] [⟨some 1, (.box 95 (.tmp 0)), 0, none⟩,
    ⟨some 2, (.alloc 100), 0, none⟩])
  (.seq (.rgn [] [⟨some 3, (.alloc 100), 0, none⟩])
  (.seq (.rgn [] [⟨some 4, (.fieldAddr 95 (.tmp 1) 0), 0, none⟩,
    ⟨some 5, (.load 93 (.tmp 4)), 93, none⟩,
    ⟨some 6, (.call { callee := (.value (.func 128)), args := #[(.tmp 5)], argTypes := #[93] }), 98, none⟩,
    ⟨some 7, (.fieldAddr 100 (.tmp 3) 0), 0, none⟩,
    ⟨none, (.store 98 (.tmp 7) (.tmp 6)), 0, none⟩])
  (.seq (.rgn [8] [⟨some 8, (.load 100 (.tmp 3)), 100, none⟩,
    ⟨none, (.store 100 (.tmp 2) (.tmp 8)), 0, none⟩])
  .ret))))
theorem lit61 : Lit Try.prog 61 9 [1, 2, 3] [.cell 2 100] c61 := ⟨⟨Try.f61, _, Try.func61, rfl, by kernel_rfl, rfl, rfl, by kernel_rfl, by kernel_rfl⟩, by decide, by kernel_rfl⟩
/-- impl.IsValidFD -/
def c62 : LC :=
  (.seq (.rgn [] [⟨some 2, (.box 100 (.tmp 0)), 0, none⟩,
    ⟨some 3, (.box 86 (.tmp 1)), 0, none⟩,
    ⟨some 4, (.assign (.const (.bool false))), 4, none⟩])
  (.seq (.rgn [9] [⟨some 10, (.load 100 (.tmp 2)), 100, none⟩,
    ⟨some 11, (.fieldAddr 86 (.tmp 3) 0), 0, none⟩,
    ⟨some 12, (.load 9 (.tmp 11)), 9, none⟩,
    ⟨some 13, (.call { callee := (.value (.func 129)), args := #[(.tmp 10), (.tmp 12)], argTypes := #[100, 9] }), 25, none⟩,
    ⟨some 9, (.move (.tmp 13)), 25, none⟩,
    ⟨some 14, (.extract (.tmp 9) 0), 24, none⟩,
    ⟨some 15, (.extract (.tmp 9) 1), 4, none⟩,
    ⟨some 5, (.alloc 24), 0, none⟩,
    ⟨none, (.store 24 (.tmp 5) (.tmp 14)), 0, none⟩,
    ⟨some 6, (.assign (.tmp 15)), 4, none⟩])
  (.seq (.seq (.rgn [] [⟨some 16, (.move (.tmp 6)), 4, none⟩,
    ⟨some 17, (.unOp .not 4 (.tmp 16)), 4, none⟩,
    ⟨some 18, (.move (.tmp 17)), 4, none⟩,
    ⟨some 19, (.fieldAddr 86 (.tmp 3) 1), 0, some (some 18, false)⟩,
    ⟨some 20, (.load 30 (.tmp 19)), 30, some (some 18, false)⟩,
    ⟨some 21, (.call { callee := (.value (.func 40)), args := #[(.tmp 20)], argTypes := #[30] }), 4, some (some 18, false)⟩,
    ⟨some 22, (.unOp .not 4 (.tmp 21)), 4, some (some 18, false)⟩,
    ⟨some 23, (.pick (.tmp 18) (.const (.bool true)) (.tmp 22)), 4, none⟩,
    ⟨some 24, (.move (.tmp 23)), 4, none⟩,
    ⟨some 25, (.fieldAddr 86 (.tmp 3) 2), 0, some (some 24, false)⟩,
    ⟨some 26, (.load 3 (.tmp 25)), 3, some (some 24, false)⟩,
    ⟨some 27, (.fieldAddr 24 (.tmp 5) 0), 0, some (some 24, false)⟩,
    ⟨some 28, (.load 3 (.tmp 27)), 3, some (some 24, false)⟩,
    ⟨some 29, (.binOp .sub 3 (.tmp 28) (.const (.int .i64 1)) 3), 3, some (some 24, false)⟩,
    ⟨some 30, (.call { callee := (.value (.func 82)), args := #[(.tmp 26), (.const (.int .i64 0)), (.tmp 29)], argTypes := #[3, 3, 3] }), 4, some (some 24, false)⟩,
    ⟨some 31, (.unOp .not 4 (.tmp 30)), 4, some (some 24, false)⟩,
    ⟨some 32, (.pick (.tmp 24) (.const (.bool true)) (.tmp 31)), 4, none⟩])
  (.cond (.tmp 32)
    (.seq (.rgn [] [⟨some 4, (.assign (.const (.bool false))), 4, none⟩])
    .ret)
    .skip))
  (.seq (.seq (.rgn [] [⟨some 33, (.fieldAddr 86 (.tmp 3) 1), 0, none⟩,
    ⟨some 34, (.load 30 (.tmp 33)), 30, none⟩,
    ⟨some 35, (.call { callee := (.builtin .len), args := #[(.tmp 34)], argTypes := #[30] }), 3, none⟩,
    ⟨some 36, (.move (.const (.int .i64 0))), 3, none⟩])
  (.blk 0
    (.loop []
      (.seq (.rgn [] [⟨some 37, (.binOp .lss 3 (.tmp 36) (.tmp 35) 3), 0, none⟩])
      (.seq (.cond (.tmp 37)
        .skip
        (.exit 0))
      (.seq (.blk 1
        (.seq (.rgn [] [⟨some 38, (.indexAddr 30 (.tmp 34) (.tmp 36)), 0, none⟩,
          ⟨some 39, (.load 3 (.tmp 38)), 3, none⟩,
          ⟨some 8, (.assign (.tmp 39)), 3, none⟩])
        (.seq (.rgn [] [⟨some 40, (.move (.tmp 8)), 3, none⟩,
          ⟨some 41, (.fieldAddr 24 (.tmp 5) 0), 0, none⟩,
          ⟨some 42, (.load 3 (.tmp 41)), 3, none⟩,
          ⟨some 43, (.binOp .sub 3 (.tmp 42) (.const (.int .i64 1)) 3), 3, none⟩,
          ⟨some 44, (.call { callee := (.value (.func 82)), args := #[(.tmp 40), (.const (.int .i64 0)), (.tmp 43)], argTypes := #[3, 3, 3] }), 4, none⟩,
          ⟨some 45, (.unOp .not 4 (.tmp 44)), 4, none⟩])
        (.cond (.tmp 45)
          (.seq (.rgn [] [⟨some 4, (.assign (.const (.bool false))), 4, none⟩])
          .ret)
          .skip))))
      (.rgn [] [⟨some 46, (.binOp .add 3 (.tmp 36) (.const (.int .i64 1)) 3), 3, none⟩,
        ⟨some 36, (.move (.tmp 46)), 3, none⟩])))))))
  (.seq (.rgn [] [⟨some 4, (.assign (.const (.bool true))), 4, none⟩])
  .ret)))))
theorem lit62 : Lit Try.prog 62 47 [2, 3, 5] [.tmp 4] c62 := ⟨⟨Try.f62, _, Try.func62, rfl, by kernel_rfl, rfl, rfl, by kernel_rfl, by kernel_rfl⟩, by decide, by kernel_rfl⟩
/-- laws.eqDatabase -/
def c63 : LC :=
  (.seq (.rgn [] [⟨some 2, (.box 100 (.tmp 0)), 0, none⟩,
    ⟨some 3, (.box 100 (.tmp 1)), 0, none⟩,
    ⟨some 4, (.assign (.const (.bool false))), 4, none⟩])
  (.seq (.seq (.rgn [] [⟨some 5, (.fieldAddr 100 (.tmp 2) 0), 0, none⟩,
    ⟨some 6, (.load 98 (.tmp 5)), 98, none⟩,
    ⟨some 7, (.fieldAddr 100 (.tmp 3) 0), 0, none⟩,
    ⟨some 8, (.load 98 (.tmp 7)), 98, none⟩,
    ⟨some 9, (.call { callee := (.value (.func 130)), args := #[(.tmp 6), (.tmp 8)], argTypes := #[98, 98] }), 4, none⟩,
    ⟨some 10, (.unOp .not 4 (.tmp 9)), 4, none⟩])
  (.cond (.tmp 10)
    (.seq (.rgn [] [⟨some 4, (.assign (.const (.bool false))), 4, none⟩])
    .ret)
    .skip))
  (.seq (.rgn [] [⟨some 4, (.assign (.const (.bool true))), 4, none⟩])
  .ret)))
theorem lit63 : Lit Try.prog 63 11 [2, 3] [.tmp 4] c63 := ⟨⟨Try.f63, _, Try.func63, rfl, by kernel_rfl, rfl, rfl, by kernel_rfl, by kernel_rfl⟩, by decide, by kernel_rfl⟩
/-- impl.FDViolation -/
def c68 : LC :=
  (.seq (.rgn [] [⟨some 2, (.box 100 (.tmp 0)), 0, none⟩,
    ⟨some 3, (.box 86 (.tmp 1)), 0, none⟩,
    ⟨some 4, (.assign (.const (.slice none 0 0))), 30, none⟩])
  (.seq (.seq (.rgn [] [⟨some 11, (.load 100 (.tmp 2)), 100, none⟩,
    ⟨some 12, (.load 86 (.tmp 3)), 86, none⟩,
    ⟨some 13, (.call { callee := (.value (.func 62)), args := #[(.tmp 11), (.tmp 12)], argTypes := #[100, 86] }), 4, none⟩,
    ⟨some 14, (.unOp .not 4 (.tmp 13)), 4, none⟩])
  (.cond (.tmp 14)
    (.seq (.rgn [] [⟨some 4, (.assign (.const (.slice none 0 0))), 30, none⟩])
    .ret)
    .skip))
  (.seq (.rgn [15] [⟨some 16, (.load 100 (.tmp 2)), 100, none⟩,
    ⟨some 17, (.fieldAddr 86 (.tmp 3) 0), 0, none⟩,
    ⟨some 18, (.load 9 (.tmp 17)), 9, none⟩,
    ⟨some 19, (.call { callee := (.value (.func 129)), args := #[(.tmp 16), (.tmp 18)], argTypes := #[100, 9] }), 25, none⟩,
    ⟨some 15, (.move (.tmp 19)), 25, none⟩,
    ⟨some 20, (.extract (.tmp 15) 0), 24, none⟩,
    ⟨some 21, (.extract (.tmp 15) 1), 4, none⟩,
    ⟨some 5, (.alloc 24), 0, none⟩,
    ⟨none, (.store 24 (.tmp 5) (.tmp 20)), 0, none⟩,
    ⟨some 6, (.assign (.tmp 21)), 4, none⟩])
  (.seq (.seq (.rgn [] [⟨some 22, (.fieldAddr 24 (.tmp 5) 1), 0, none⟩,
    ⟨some 23, (.load 22 (.tmp 22)), 22, none⟩,
    ⟨some 24, (.call { callee := (.builtin .len), args := #[(.tmp 23)], argTypes := #[22] }), 3, none⟩,
    ⟨some 25, (.move (.const (.int .i64 0))), 3, none⟩])
  (.blk 0
    (.loop []
      (.seq (.rgn [] [⟨some 26, (.binOp .lss 3 (.tmp 25) (.tmp 24) 3), 0, none⟩])
      (.seq (.cond (.tmp 26)
        .skip
        (.exit 0))
      (.seq (.blk 1
        (.seq (.rgn [29] [⟨some 27, (.move (.tmp 25)), 3, none⟩,
          ⟨some 28, (.indexAddr 22 (.tmp 23) (.tmp 25)), 0, none⟩,
          ⟨some 29, (.load 30 (.tmp 28)), 30, none⟩,
          ⟨some 7, (.assign (.tmp 27)), 3, none⟩,
          ⟨some 8, (.assign (.tmp 29)), 30, none⟩])
        (.seq (.rgn [] [⟨some 30, (.fieldAddr 24 (.tmp 5) 1), 0, none⟩,
          ⟨some 31, (.load 22 (.tmp 30)), 22, none⟩,
          ⟨some 32, (.move (.tmp 7)), 3, none⟩,
          ⟨some 33, (.slice 22 (.tmp 31) none (some (.tmp 32)) none), 22, none⟩,
          ⟨some 34, (.call { callee := (.builtin .len), args := #[(.tmp 33)], argTypes := #[22] }), 3, none⟩,
          ⟨some 35, (.move (.const (.int .i64 0))), 3, none⟩])
        (.blk 2
          (.loop []
            (.seq (.rgn [] [⟨some 36, (.binOp .lss 3 (.tmp 35) (.tmp 34) 3), 0, none⟩])
            (.seq (.cond (.tmp 36)
              .skip
              (.exit 2))
            (.seq (.blk 3
              (.seq (.rgn [39] [⟨some 37, (.move (.tmp 35)), 3, none⟩,
                ⟨some 38, (.indexAddr 22 (.tmp 33) (.tmp 35)), 0, none⟩,
                ⟨some 39, (.load 30 (.tmp 38)), 30, none⟩,
                ⟨some 9, (.assign (.tmp 37)), 3, none⟩,
                ⟨some 10, (.assign (.tmp 39)), 30, none⟩])
              (.seq (.drw [] [([10], [40]), ([3], [41]), ([3, 41], [42]), ([40, 42], [43]), ([43], [44]), ([8], [45]), ([3], [46]), ([3, 46], [47]), ([45, 47], [48]), ([48], [49]), ([44, 49], [50]), ([50], [51]), ([10, 51], [52]), ([3, 51], [53]), ([3, 51, 53], [54]), ([51, 52, 54], [55]), ([8, 51], [56]), ([3, 51], [57]), ([3, 51, 57], [58]), ([51, 56, 58], [59]), ([51, 55, 59], [60]), ([51, 60], [61])] [[], [], [1], [0, 2], [3], [], [], [6], [5, 7], [8], [4, 9], [10], [11], [11], [13, 11], [12, 14, 11, 11], [11], [11], [17, 11], [16, 18, 15, 11], [15, 19, 19, 11], [11, 20]] [⟨some 40, (.move (.tmp 10)), 30, none⟩,
                ⟨some 41, (.fieldAddr 86 (.tmp 3) 2), 0, none⟩,
                ⟨some 42, (.load 3 (.tmp 41)), 3, none⟩,
                ⟨some 43, (.indexAddr 30 (.tmp 40) (.tmp 42)), 0, none⟩,
                ⟨some 44, (.load 3 (.tmp 43)), 3, none⟩,
                ⟨some 45, (.move (.tmp 8)), 30, none⟩,
                ⟨some 46, (.fieldAddr 86 (.tmp 3) 2), 0, none⟩,
                ⟨some 47, (.load 3 (.tmp 46)), 3, none⟩,
                ⟨some 48, (.indexAddr 30 (.tmp 45) (.tmp 47)), 0, none⟩,
                ⟨some 49, (.load 3 (.tmp 48)), 3, none⟩,
                ⟨some 50, (.binOp .neq 3 (.tmp 44) (.tmp 49) 3), 4, none⟩,
                ⟨some 51, (.move (.tmp 50)), 4, none⟩,
                ⟨some 52, (.move (.tmp 10)), 30, some (some 51, true)⟩,
                ⟨some 53, (.fieldAddr 86 (.tmp 3) 1), 0, some (some 51, true)⟩,
                ⟨some 54, (.load 30 (.tmp 53)), 30, some (some 51, true)⟩,
                ⟨some 55, (.call { callee := (.value (.func 135)), args := #[(.tmp 52), (.tmp 54)], argTypes := #[30, 30] }), 30, some (some 51, true)⟩,
                ⟨some 56, (.move (.tmp 8)), 30, some (some 51, true)⟩,
                ⟨some 57, (.fieldAddr 86 (.tmp 3) 1), 0, some (some 51, true)⟩,
                ⟨some 58, (.load 30 (.tmp 57)), 30, some (some 51, true)⟩,
                ⟨some 59, (.call { callee := (.value (.func 135)), args := #[(.tmp 56), (.tmp 58)], argTypes := #[30, 30] }), 30, some (some 51, true)⟩,
                ⟨some 60, (.call { callee := (.value (.func 134)), args := #[(.tmp 55), (.tmp 59)], argTypes := #[30, 30] }), 4, some (some 51, true)⟩,
                ⟨some 61, (.pick (.tmp 51) (.tmp 60) (.const (.bool false))), 4, none⟩])
              (.cond (.tmp 61)
                (.seq (.rgn [] [⟨some 62, (.move (.tmp 9)), 3, none⟩,
                  ⟨some 63, (.move (.tmp 7)), 3, none⟩,
                  ⟨some 64, (.buildSlice 30 2 #[(0, (.tmp 62)), (1, (.tmp 63))]), 30, none⟩,
                  ⟨some 4, (.assign (.tmp 64)), 30, none⟩])
                .ret)
                .skip))))
            (.rgn [] [⟨some 65, (.binOp .add 3 (.tmp 35) (.const (.int .i64 1)) 3), 3, none⟩,
              ⟨some 35, (.move (.tmp 65)), 3, none⟩])))))))))
      (.rgn [] [⟨some 66, (.binOp .add 3 (.tmp 25) (.const (.int .i64 1)) 3), 3, none⟩,
        ⟨some 25, (.move (.tmp 66)), 3, none⟩])))))))
  (.seq (.rgn [] [⟨some 4, (.assign (.const (.slice none 0 0))), 30, none⟩])
  .ret)))))
theorem lit68 : Lit Try.prog 68 67 [2, 3, 5] [.tmp 4] c68 := ⟨⟨Try.f68, _, Try.func68, rfl, by kernel_rfl, rfl, rfl, by kernel_rfl, by kernel_rfl⟩, by decide, by kernel_rfl⟩
/-- impl.FDHolds -/
def c69 : LC :=
  (.seq (.rgn [] [⟨some 2, (.box 100 (.tmp 0)), 0, none⟩,
    ⟨some 3, (.box 86 (.tmp 1)), 0, none⟩,
    ⟨some 4, (.assign (.const (.bool false))), 4, none⟩])
  (.seq (.rgn [] [⟨some 5, (.load 100 (.tmp 2)), 100, none⟩,
    ⟨some 6, (.load 86 (.tmp 3)), 86, none⟩,
    ⟨some 7, (.call { callee := (.value (.func 62)), args := #[(.tmp 5), (.tmp 6)], argTypes := #[100, 86] }), 4, none⟩,
    ⟨some 8, (.move (.tmp 7)), 4, none⟩,
    ⟨some 9, (.load 100 (.tmp 2)), 100, some (some 8, true)⟩,
    ⟨some 10, (.load 86 (.tmp 3)), 86, some (some 8, true)⟩,
    ⟨some 11, (.call { callee := (.value (.func 68)), args := #[(.tmp 9), (.tmp 10)], argTypes := #[100, 86] }), 30, some (some 8, true)⟩,
    ⟨some 12, (.call { callee := (.builtin .len), args := #[(.tmp 11)], argTypes := #[30] }), 3, some (some 8, true)⟩,
    ⟨some 13, (.binOp .eql 3 (.tmp 12) (.const (.int .i64 0)) 3), 4, some (some 8, true)⟩,
    ⟨some 14, (.pick (.tmp 8) (.tmp 13) (.const (.bool false))), 4, none⟩,
    ⟨some 4, (.assign (.tmp 14)), 4, none⟩])
  .ret))
theorem lit69 : Lit Try.prog 69 15 [2, 3] [.tmp 4] c69 := ⟨⟨Try.f69, _, Try.func69, rfl, by kernel_rfl, rfl, rfl, by kernel_rfl, by kernel_rfl⟩, by decide, by kernel_rfl⟩
/-- spec.FDHolds -/
def c70 : LC :=
  (.seq (.rgn [] [⟨some 2, (.box 100 (.tmp 0)), 0, none⟩,
    ⟨some 3, (.box 86 (.tmp 1)), 0, none⟩,
    ⟨some 4, (.assign (.const (.bool false))), 4, none⟩])
  (.seq (.rgn [] [⟨some 5, (.load 100 (.tmp 2)), 100, none⟩,
    ⟨some 6, (.load 86 (.tmp 3)), 86, none⟩,
    ⟨some 7, (.call { callee := (.value (.func 60)), args := #[(.tmp 5), (.tmp 6)], argTypes := #[100, 86] }), 4, none⟩,
    ⟨some 8, (.move (.tmp 7)), 4, none⟩,
    ⟨some 9, (.load 100 (.tmp 2)), 100, some (some 8, true)⟩,
    ⟨some 10, (.load 86 (.tmp 3)), 86, some (some 8, true)⟩,
    ⟨some 11, (.call { callee := (.value (.func 72)), args := #[(.tmp 9), (.tmp 10)], argTypes := #[100, 86] }), 30, some (some 8, true)⟩,
    ⟨some 12, (.call { callee := (.builtin .len), args := #[(.tmp 11)], argTypes := #[30] }), 3, some (some 8, true)⟩,
    ⟨some 13, (.binOp .eql 3 (.tmp 12) (.const (.int .i64 0)) 3), 4, some (some 8, true)⟩,
    ⟨some 14, (.pick (.tmp 8) (.tmp 13) (.const (.bool false))), 4, none⟩,
    ⟨some 4, (.assign (.tmp 14)), 4, none⟩])
  .ret))
theorem lit70 : Lit Try.prog 70 15 [2, 3] [.tmp 4] c70 := ⟨⟨Try.f70, _, Try.func70, rfl, by kernel_rfl, rfl, rfl, by kernel_rfl, by kernel_rfl⟩, by decide, by kernel_rfl⟩
/-- spec.FDViolation -/
def c72 : LC :=
  (.seq (.rgn [] [⟨some 2, (.box 100 (.tmp 0)), 0, none⟩,
    ⟨some 3, (.box 86 (.tmp 1)), 0, none⟩,
    ⟨some 4, (.assign (.const (.slice none 0 0))), 30, none⟩])
  (.seq (.rgn [9] [⟨some 10, (.load 100 (.tmp 2)), 100, none⟩,
    ⟨some 11, (.fieldAddr 86 (.tmp 3) 0), 0, none⟩,
    ⟨some 12, (.load 9 (.tmp 11)), 9, none⟩,
    ⟨some 13, (.call { callee := (.value (.func 73)), args := #[(.tmp 10), (.tmp 12)], argTypes := #[100, 9] }), 25, none⟩,
    ⟨some 9, (.move (.tmp 13)), 25, none⟩,
    ⟨some 14, (.extract (.tmp 9) 0), 24, none⟩,
    ⟨some 15, (.extract (.tmp 9) 1), 4, none⟩,
    ⟨some 5, (.alloc 24), 0, none⟩,
    ⟨none, (.store 24 (.tmp 5) (.tmp 14)), 0, none⟩,
    ⟨some 6, (.assign (.tmp 15)), 4, none⟩])
  (.seq (.seq (.rgn [] [⟨some 7, (.assign (.const (.int .i64 0))), 3, none⟩])
  (.blk 0
    (.loop []
      (.seq (.seq (.rgn [] [⟨some 16, (.move (.tmp 7)), 3, none⟩,
        ⟨some 17, (.fieldAddr 24 (.tmp 5) 1), 0, none⟩,
        ⟨some 18, (.load 22 (.tmp 17)), 22, none⟩,
        ⟨some 19, (.call { callee := (.builtin .len), args := #[(.tmp 18)], argTypes := #[22] }), 3, none⟩,
        ⟨some 20, (.binOp .lss 3 (.tmp 16) (.tmp 19) 3), 4, none⟩,
        ⟨some 21, (.move (.tmp 20)), 4, none⟩,
        ⟨some 22, (.load 100 (.tmp 2)), 100, some (some 21, true)⟩,
        ⟨some 23, (.load 86 (.tmp 3)), 86, some (some 21, true)⟩,
        ⟨some 24, (.call { callee := (.value (.func 60)), args := #[(.tmp 22), (.tmp 23)], argTypes := #[100, 86] }), 4, some (some 21, true)⟩,
        ⟨some 25, (.pick (.tmp 21) (.tmp 24) (.const (.bool false))), 4, none⟩])
      (.cond (.tmp 25)
        .skip
        (.exit 0)))
      (.seq (.blk 1
        (.seq (.rgn [] [⟨some 8, (.assign (.const (.int .i64 0))), 3, none⟩])
        (.blk 2
          (.loop []
            (.seq (.seq (.rgn [] [⟨some 28, (.move (.tmp 8)), 3, none⟩,
              ⟨some 29, (.move (.tmp 7)), 3, none⟩,
              ⟨some 30, (.binOp .lss 3 (.tmp 28) (.tmp 29) 3), 4, none⟩])
            (.cond (.tmp 30)
              .skip
              (.exit 2)))
            (.seq (.blk 3
              (.seq (.drw [] [([5], [33]), ([5, 33], [34]), ([8], [35]), ([34, 35], [36]), ([36], [37]), ([3], [38]), ([3, 38], [39]), ([37, 39], [40]), ([5], [41]), ([5, 41], [42]), ([7], [43]), ([42, 43], [44]), ([44], [45]), ([3], [46]), ([3, 46], [47]), ([45, 47], [48]), ([40, 48], [49]), ([49], [50]), ([50], [51]), ([5, 51], [52]), ([5, 51, 52], [53]), ([8, 51], [54]), ([51, 53, 54], [55]), ([51, 55], [56]), ([3, 51], [57]), ([3, 51, 57], [58]), ([51, 56, 58], [59]), ([51, 59], [60]), ([5, 51], [61]), ([5, 51, 61], [62]), ([7, 51], [63]), ([51, 62, 63], [64]), ([51, 64], [65]), ([3, 51], [66]), ([3, 51, 66], [67]), ([51, 65, 67], [68]), ([51, 68], [69]), ([51, 60, 69], [70]), ([51, 70], [71])] [[], [0], [], [1, 2], [3], [], [5], [4, 6], [], [8], [], [9, 10], [11], [], [13], [12, 14, 7], [7, 15, 15], [16], [17, 16], [18], [19, 18], [18], [20, 21, 18], [22, 18], [18], [24, 18], [23, 25, 18], [26, 18], [18], [28, 18], [18], [29, 30, 18], [31, 18], [18], [33, 18], [32, 34, 18], [35, 18], [27, 36, 18], [18, 37]] [⟨some 33, (.fieldAddr 24 (.tmp 5) 1), 0, none⟩,
                ⟨some 34, (.load 22 (.tmp 33)), 22, none⟩,
                ⟨some 35, (.move (.tmp 8)), 3, none⟩,
                ⟨some 36, (.indexAddr 22 (.tmp 34) (.tmp 35)), 0, none⟩,
                ⟨some 37, (.load 30 (.tmp 36)), 30, none⟩,
                ⟨some 38, (.fieldAddr 86 (.tmp 3) 1), 0, none⟩,
                ⟨some 39, (.load 30 (.tmp 38)), 30, none⟩,
                ⟨some 40, (.call { callee := (.value (.func 136)), args := #[(.tmp 37), (.tmp 39)], argTypes := #[30, 30] }), 30, none⟩,
                ⟨some 41, (.fieldAddr 24 (.tmp 5) 1), 0, none⟩,
                ⟨some 42, (.load 22 (.tmp 41)), 22, none⟩,
                ⟨some 43, (.move (.tmp 7)), 3, none⟩,
                ⟨some 44, (.indexAddr 22 (.tmp 42) (.tmp 43)), 0, none⟩,
                ⟨some 45, (.load 30 (.tmp 44)), 30, none⟩,
                ⟨some 46, (.fieldAddr 86 (.tmp 3) 1), 0, none⟩,
                ⟨some 47, (.load 30 (.tmp 46)), 30, none⟩,
                ⟨some 48, (.call { callee := (.value (.func 136)), args := #[(.tmp 45), (.tmp 47)], argTypes := #[30, 30] }), 30, none⟩,
                ⟨some 49, (.call { callee := (.value (.func 117)), args := #[(.tmp 40), (.tmp 48)], argTypes := #[30, 30] }), 3, none⟩,
                ⟨some 50, (.binOp .eql 3 (.tmp 49) (.const (.int .i64 0)) 3), 4, none⟩,
                ⟨some 51, (.move (.tmp 50)), 4, none⟩,
                ⟨some 52, (.fieldAddr 24 (.tmp 5) 1), 0, some (some 51, true)⟩,
                ⟨some 53, (.load 22 (.tmp 52)), 22, some (some 51, true)⟩,
                ⟨some 54, (.move (.tmp 8)), 3, some (some 51, true)⟩,
                ⟨some 55, (.indexAddr 22 (.tmp 53) (.tmp 54)), 0, some (some 51, true)⟩,
                ⟨some 56, (.load 30 (.tmp 55)), 30, some (some 51, true)⟩,
                ⟨some 57, (.fieldAddr 86 (.tmp 3) 2), 0, some (some 51, true)⟩,
                ⟨some 58, (.load 3 (.tmp 57)), 3, some (some 51, true)⟩,
                ⟨some 59, (.indexAddr 30 (.tmp 56) (.tmp 58)), 0, some (some 51, true)⟩,
                ⟨some 60, (.load 3 (.tmp 59)), 3, some (some 51, true)⟩,
                ⟨some 61, (.fieldAddr 24 (.tmp 5) 1), 0, some (some 51, true)⟩,
                ⟨some 62, (.load 22 (.tmp 61)), 22, some (some 51, true)⟩,
                ⟨some 63, (.move (.tmp 7)), 3, some (some 51, true)⟩,
                ⟨some 64, (.indexAddr 22 (.tmp 62) (.tmp 63)), 0, some (some 51, true)⟩,
                ⟨some 65, (.load 30 (.tmp 64)), 30, some (some 51, true)⟩,
                ⟨some 66, (.fieldAddr 86 (.tmp 3) 2), 0, some (some 51, true)⟩,
                ⟨some 67, (.load 3 (.tmp 66)), 3, some (some 51, true)⟩,
                ⟨some 68, (.indexAddr 30 (.tmp 65) (.tmp 67)), 0, some (some 51, true)⟩,
                ⟨some 69, (.load 3 (.tmp 68)), 3, some (some 51, true)⟩,
                ⟨some 70, (.binOp .neq 3 (.tmp 60) (.tmp 69) 3), 4, some (some 51, true)⟩,
                ⟨some 71, (.pick (.tmp 51) (.tmp 70) (.const (.bool false))), 4, none⟩])
              (.cond (.tmp 71)
                (.seq (.rgn [] [⟨some 72, (.move (.tmp 8)), 3, none⟩,
                  ⟨some 73, (.move (.tmp 7)), 3, none⟩,
                  ⟨some 74, (.buildSlice 30 2 #[(0, (.tmp 72)), (1, (.tmp 73))]), 30, none⟩,
                  ⟨some 4, (.assign (.tmp 74)), 30, none⟩])
                .ret)
                .skip)))
            (.rgn [] [⟨some 31, (.move (.tmp 8)), 3, none⟩,
              ⟨some 32, (.binOp .add 3 (.tmp 31) (.const (.int .i64 1)) 3), 3, none⟩,
              ⟨some 8, (.assign (.tmp 32)), 3, none⟩])))))))
      (.rgn [] [⟨some 26, (.move (.tmp 7)), 3, none⟩,
        ⟨some 27, (.binOp .add 3 (.tmp 26) (.const (.int .i64 1)) 3), 3, none⟩,
        ⟨some 7, (.assign (.tmp 27)), 3, none⟩]))))))
  (.seq (.rgn [] [⟨some 75, (.buildSlice 30 0 #[]), 30, none⟩,
    ⟨some 4, (.assign (.tmp 75)), 30, none⟩])
  .ret))))
theorem lit72 : Lit Try.prog 72 76 [2, 3, 5] [.tmp 4] c72 := ⟨⟨Try.f72, _, Try.func72, rfl, by kernel_rfl, rfl, rfl, by kernel_rfl, by kernel_rfl⟩, by decide, by kernel_rfl⟩
/-- spec.LookupRelation -/
def c73 : LC :=
  (.seq (.rgn [] [⟨some 2, (.box 100 (.tmp 0)), 0, none⟩,
    ⟨some 4, (.alloc 24), 0, none⟩,
    ⟨some 5, (.assign (.const (.bool false))), 4, none⟩])
  (.seq (.seq (.rgn [] [⟨some 6, (.assign (.const (.int .i64 0))), 3, none⟩])
  (.blk 0
    (.loop []
      (.seq (.seq (.rgn [] [⟨some 7, (.move (.tmp 6)), 3, none⟩,
        ⟨some 8, (.fieldAddr 100 (.tmp 2) 0), 0, none⟩,
        ⟨some 9, (.load 98 (.tmp 8)), 98, none⟩,
        ⟨some 10, (.call { callee := (.builtin .len), args := #[(.tmp 9)], argTypes := #[98] }), 3, none⟩,
        ⟨some 11, (.binOp .lss 3 (.tmp 7) (.tmp 10) 3), 4, none⟩,
        ⟨some 12, (.move (.tmp 11)), 4, none⟩,
        ⟨some 13, (.load 100 (.tmp 2)), 100, some (some 12, true)⟩,
        ⟨some 14, (.call { callee := (.value (.func 120)), args := #[(.tmp 13)], argTypes := #[100] }), 4, some (some 12, true)⟩,
        ⟨some 15, (.pick (.tmp 12) (.tmp 14) (.const (.bool false))), 4, none⟩])
      (.cond (.tmp 15)
        .skip
        (.exit 0)))
      (.seq (.blk 1
        (.seq (.rgn [] [⟨some 18, (.fieldAddr 100 (.tmp 2) 0), 0, none⟩,
          ⟨some 19, (.load 98 (.tmp 18)), 98, none⟩,
          ⟨some 20, (.move (.tmp 6)), 3, none⟩,
          ⟨some 21, (.indexAddr 98 (.tmp 19) (.tmp 20)), 0, none⟩,
          ⟨some 22, (.fieldAddr 157 (.tmp 21) 0), 0, none⟩,
          ⟨some 23, (.load 9 (.tmp 22)), 9, none⟩,
          ⟨some 24, (.move (.tmp 1)), 9, none⟩,
          ⟨some 25, (.binOp .eql 9 (.tmp 23) (.tmp 24) 9), 4, none⟩])
        (.cond (.tmp 25)
          (.seq (.rgn [] [⟨some 26, (.fieldAddr 100 (.tmp 2) 0), 0, none⟩,
            ⟨some 27, (.load 98 (.tmp 26)), 98, none⟩,
            ⟨some 28, (.move (.tmp 6)), 3, none⟩,
            ⟨some 29, (.indexAddr 98 (.tmp 27) (.tmp 28)), 0, none⟩,
            ⟨some 30, (.fieldAddr 157 (.tmp 29) 1), 0, none⟩,
            ⟨some 31, (.load 24 (.tmp 30)), 24, none⟩,
            ⟨some 32, (.call { callee := (.value (.func 137)), args := #[(.tmp 31)], argTypes := #[24] }), 24, none⟩,
            ⟨none, (.store 24 (.tmp 4) (.tmp 32)), 0, none⟩,
            ⟨some 5, (.assign (.const (.bool true))), 4, none⟩])
          .ret)
          .skip)))
      (.rgn [] [⟨some 16, (.move (.tmp 6)), 3, none⟩,
        ⟨some 17, (.binOp .add 3 (.tmp 16) (.const (.int .i64 1)) 3), 3, none⟩,
        ⟨some 6, (.assign (.tmp 17)), 3, none⟩]))))))
  (.seq (.rgn [] [⟨some 33, (.build 24 #[]), 24, none⟩,
    ⟨none, (.store 24 (.tmp 4) (.tmp 33)), 0, none⟩,
    ⟨some 5, (.assign (.const (.bool false))), 4, none⟩])
  .ret)))
theorem lit73 : Lit Try.prog 73 34 [2, 4] [.cell 4 24, .tmp 5] c73 := ⟨⟨Try.f73, _, Try.func73, rfl, by kernel_rfl, rfl, rfl, by kernel_rfl, by kernel_rfl⟩, by decide, by kernel_rfl⟩
/-- spec.l1In -/
def c80 : LC :=
  (.seq (.rgn [] [⟨some 6, (.assign (.const (.bool false))), 4, none⟩])
  (.seq (.rgn [] [⟨some 7, (.move (.tmp 0)), 3, none⟩,
    ⟨some 8, (.move (.tmp 1)), 3, none⟩,
    ⟨some 9, (.binOp .geq 3 (.tmp 7) (.tmp 8) 3), 4, none⟩,
    ⟨some 10, (.move (.tmp 9)), 4, none⟩,
    ⟨some 11, (.move (.tmp 0)), 3, some (some 10, true)⟩,
    ⟨some 12, (.move (.tmp 2)), 3, some (some 10, true)⟩,
    ⟨some 13, (.binOp .leq 3 (.tmp 11) (.tmp 12) 3), 4, some (some 10, true)⟩,
    ⟨some 14, (.pick (.tmp 10) (.tmp 13) (.const (.bool false))), 4, none⟩,
    ⟨some 6, (.assign (.tmp 14)), 4, none⟩])
  .ret))
theorem lit80 : Lit Try.prog 80 15 [] [.tmp 6] c80 := ⟨⟨Try.f80, _, Try.func80, rfl, by kernel_rfl, rfl, rfl, by kernel_rfl, by kernel_rfl⟩, by decide, by kernel_rfl⟩
/-- impl.within -/
def c82 : LC :=
  (.seq (.rgn [] [⟨some 6, (.assign (.const (.bool false))), 4, none⟩])
  (.seq (.rgn [] [⟨some 7, (.move (.tmp 0)), 3, none⟩,
    ⟨some 8, (.move (.tmp 1)), 3, none⟩,
    ⟨some 9, (.binOp .geq 3 (.tmp 7) (.tmp 8) 3), 4, none⟩,
    ⟨some 10, (.move (.tmp 9)), 4, none⟩,
    ⟨some 11, (.move (.tmp 0)), 3, some (some 10, true)⟩,
    ⟨some 12, (.move (.tmp 2)), 3, some (some 10, true)⟩,
    ⟨some 13, (.binOp .leq 3 (.tmp 11) (.tmp 12) 3), 4, some (some 10, true)⟩,
    ⟨some 14, (.pick (.tmp 10) (.tmp 13) (.const (.bool false))), 4, none⟩,
    ⟨some 6, (.assign (.tmp 14)), 4, none⟩])
  .ret))
theorem lit82 : Lit Try.prog 82 15 [] [.tmp 6] c82 := ⟨⟨Try.f82, _, Try.func82, rfl, by kernel_rfl, rfl, rfl, by kernel_rfl, by kernel_rfl⟩, by decide, by kernel_rfl⟩
/-- laws.eqIntSS -/
def c84 : LC :=
  (.seq (.rgn [] [⟨some 4, (.assign (.const (.bool false))), 4, none⟩])
  (.seq (.seq (.rgn [] [⟨some 6, (.move (.tmp 0)), 22, none⟩,
    ⟨some 7, (.call { callee := (.builtin .len), args := #[(.tmp 6)], argTypes := #[22] }), 3, none⟩,
    ⟨some 8, (.move (.tmp 1)), 22, none⟩,
    ⟨some 9, (.call { callee := (.builtin .len), args := #[(.tmp 8)], argTypes := #[22] }), 3, none⟩,
    ⟨some 10, (.binOp .neq 3 (.tmp 7) (.tmp 9) 3), 4, none⟩])
  (.cond (.tmp 10)
    (.seq (.rgn [] [⟨some 4, (.assign (.const (.bool false))), 4, none⟩])
    .ret)
    .skip))
  (.seq (.seq (.rgn [] [⟨some 5, (.assign (.const (.int .i64 0))), 3, none⟩])
  (.blk 0
    (.loop []
      (.seq (.seq (.rgn [] [⟨some 11, (.move (.tmp 5)), 3, none⟩,
        ⟨some 12, (.move (.tmp 0)), 22, none⟩,
        ⟨some 13, (.call { callee := (.builtin .len), args := #[(.tmp 12)], argTypes := #[22] }), 3, none⟩,
        ⟨some 14, (.binOp .lss 3 (.tmp 11) (.tmp 13) 3), 4, none⟩])
      (.cond (.tmp 14)
        .skip
        (.exit 0)))
      (.seq (.blk 1
        (.seq (.drw [] [([0], [17]), ([5], [18]), ([17, 18], [19]), ([19], [20]), ([1], [21]), ([5], [22]), ([21, 22], [23]), ([23], [24]), ([20, 24], [25]), ([25], [26])] [[], [], [0, 1], [2], [], [], [4, 5], [6], [3, 7], [8]] [⟨some 17, (.move (.tmp 0)), 22, none⟩,
          ⟨some 18, (.move (.tmp 5)), 3, none⟩,
          ⟨some 19, (.indexAddr 22 (.tmp 17) (.tmp 18)), 0, none⟩,
          ⟨some 20, (.load 30 (.tmp 19)), 30, none⟩,
          ⟨some 21, (.move (.tmp 1)), 22, none⟩,
          ⟨some 22, (.move (.tmp 5)), 3, none⟩,
          ⟨some 23, (.indexAddr 22 (.tmp 21) (.tmp 22)), 0, none⟩,
          ⟨some 24, (.load 30 (.tmp 23)), 30, none⟩,
          ⟨some 25, (.call { callee := (.value (.func 35)), args := #[(.tmp 20), (.tmp 24)], argTypes := #[30, 30] }), 4, none⟩,
          ⟨some 26, (.unOp .not 4 (.tmp 25)), 4, none⟩])
        (.cond (.tmp 26)
          (.seq (.rgn [] [⟨some 4, (.assign (.const (.bool false))), 4, none⟩])
          .ret)
          .skip)))
      (.rgn [] [⟨some 15, (.move (.tmp 5)), 3, none⟩,
        ⟨some 16, (.binOp .add 3 (.tmp 15) (.const (.int .i64 1)) 3), 3, none⟩,
        ⟨some 5, (.assign (.tmp 16)), 3, none⟩]))))))
  (.seq (.rgn [] [⟨some 4, (.assign (.const (.bool true))), 4, none⟩])
  .ret))))
theorem lit84 : Lit Try.prog 84 27 [] [.tmp 4] c84 := ⟨⟨Try.f84, _, Try.func84, rfl, by kernel_rfl, rfl, rfl, by kernel_rfl, by kernel_rfl⟩, by decide, by kernel_rfl⟩
/-- laws.szIntS -/
def c87 : LC :=
  (.seq (.rgn [] [⟨some 4, (.assign (.const (.int .i64 0))), 3, none⟩])
  (.seq (.rgn [] [⟨some 5, (.move (.tmp 1)), 3, none⟩,
    ⟨some 6, (.move (.tmp 0)), 30, none⟩,
    ⟨some 7, (.call { callee := (.builtin .len), args := #[(.tmp 6)], argTypes := #[30] }), 3, none⟩,
    ⟨some 8, (.binOp .sub 3 (.tmp 5) (.tmp 7) 3), 3, none⟩,
    ⟨some 1, (.assign (.tmp 8)), 3, none⟩])
  (.seq (.seq (.rgn [] [⟨some 9, (.move (.tmp 1)), 3, none⟩,
    ⟨some 10, (.binOp .lss 3 (.tmp 9) (.const (.int .i64 0)) 3), 4, none⟩])
  (.cond (.tmp 10)
    (.seq (.rgn [] [⟨some 4, (.assign (.const (.int .i64 (-1)))), 3, none⟩])
    .ret)
    .skip))
  (.seq (.rgn [] [⟨some 11, (.move (.tmp 1)), 3, none⟩,
    ⟨some 4, (.assign (.tmp 11)), 3, none⟩])
  .ret))))
theorem lit87 : Lit Try.prog 87 12 [] [.tmp 4] c87 := ⟨⟨Try.f87, _, Try.func87, rfl, by kernel_rfl, rfl, rfl, by kernel_rfl, by kernel_rfl⟩, by decide, by kernel_rfl⟩
/-- laws.szIntSS -/
def c99 : LC :=
  (.seq (.rgn [] [⟨some 4, (.assign (.const (.int .i64 0))), 3, none⟩])
  (.seq (.rgn [] [⟨some 6, (.move (.tmp 1)), 3, none⟩,
    ⟨some 7, (.move (.tmp 0)), 22, none⟩,
    ⟨some 8, (.call { callee := (.builtin .len), args := #[(.tmp 7)], argTypes := #[22] }), 3, none⟩,
    ⟨some 9, (.binOp .sub 3 (.tmp 6) (.tmp 8) 3), 3, none⟩,
    ⟨some 1, (.assign (.tmp 9)), 3, none⟩])
  (.seq (.seq (.rgn [] [⟨some 10, (.move (.tmp 1)), 3, none⟩,
    ⟨some 11, (.binOp .lss 3 (.tmp 10) (.const (.int .i64 0)) 3), 4, none⟩])
  (.cond (.tmp 11)
    (.seq (.rgn [] [⟨some 4, (.assign (.const (.int .i64 (-1)))), 3, none⟩])
    .ret)
    .skip))
  (.seq (.seq (.rgn [] [⟨some 5, (.assign (.const (.int .i64 0))), 3, none⟩])
  (.blk 0
    (.loop []
      (.seq (.seq (.rgn [] [⟨some 12, (.move (.tmp 5)), 3, none⟩,
        ⟨some 13, (.move (.tmp 0)), 22, none⟩,
        ⟨some 14, (.call { callee := (.builtin .len), args := #[(.tmp 13)], argTypes := #[22] }), 3, none⟩,
        ⟨some 15, (.binOp .lss 3 (.tmp 12) (.tmp 14) 3), 4, none⟩])
      (.cond (.tmp 15)
        .skip
        (.exit 0)))
      (.seq (.blk 1
        (.seq (.rgn [] [⟨some 18, (.move (.tmp 0)), 22, none⟩,
          ⟨some 19, (.move (.tmp 5)), 3, none⟩,
          ⟨some 20, (.indexAddr 22 (.tmp 18) (.tmp 19)), 0, none⟩,
          ⟨some 21, (.load 30 (.tmp 20)), 30, none⟩,
          ⟨some 22, (.move (.tmp 1)), 3, none⟩,
          ⟨some 23, (.call { callee := (.value (.func 87)), args := #[(.tmp 21), (.tmp 22)], argTypes := #[30, 3] }), 3, none⟩,
          ⟨some 1, (.assign (.tmp 23)), 3, none⟩])
        (.seq (.rgn [] [⟨some 24, (.move (.tmp 1)), 3, none⟩,
          ⟨some 25, (.binOp .lss 3 (.tmp 24) (.const (.int .i64 0)) 3), 4, none⟩])
        (.cond (.tmp 25)
          (.seq (.rgn [] [⟨some 4, (.assign (.const (.int .i64 (-1)))), 3, none⟩])
          .ret)
          .skip))))
      (.rgn [] [⟨some 16, (.move (.tmp 5)), 3, none⟩,
        ⟨some 17, (.binOp .add 3 (.tmp 16) (.const (.int .i64 1)) 3), 3, none⟩,
        ⟨some 5, (.assign (.tmp 17)), 3, none⟩]))))))
  (.seq (.rgn [] [⟨some 26, (.move (.tmp 1)), 3, none⟩,
    ⟨some 4, (.assign (.tmp 26)), 3, none⟩])
  .ret)))))
theorem lit99 : Lit Try.prog 99 27 [] [.tmp 4] c99 := ⟨⟨Try.f99, _, Try.func99, rfl, by kernel_rfl, rfl, rfl, by kernel_rfl, by kernel_rfl⟩, by decide, by kernel_rfl⟩
/-- spec.l7Find -/
def c101 : LC :=
  (.seq (.rgn [] [⟨some 4, (.assign (.const (.int .i64 0))), 3, none⟩])
  (.seq (.seq (.rgn [] [⟨some 5, (.assign (.const (.int .i64 0))), 3, none⟩])
  (.blk 0
    (.loop []
      (.seq (.seq (.rgn [] [⟨some 6, (.move (.tmp 5)), 3, none⟩,
        ⟨some 7, (.move (.tmp 0)), 30, none⟩,
        ⟨some 8, (.call { callee := (.builtin .len), args := #[(.tmp 7)], argTypes := #[30] }), 3, none⟩,
        ⟨some 9, (.binOp .lss 3 (.tmp 6) (.tmp 8) 3), 4, none⟩])
      (.cond (.tmp 9)
        .skip
        (.exit 0)))
      (.seq (.blk 1
        (.seq (.rgn [] [⟨some 12, (.move (.tmp 0)), 30, none⟩,
          ⟨some 13, (.move (.tmp 5)), 3, none⟩,
          ⟨some 14, (.indexAddr 30 (.tmp 12) (.tmp 13)), 0, none⟩,
          ⟨some 15, (.load 3 (.tmp 14)), 3, none⟩,
          ⟨some 16, (.move (.tmp 1)), 3, none⟩,
          ⟨some 17, (.binOp .eql 3 (.tmp 15) (.tmp 16) 3), 4, none⟩])
        (.cond (.tmp 17)
          (.seq (.rgn [] [⟨some 18, (.move (.tmp 5)), 3, none⟩,
            ⟨some 4, (.assign (.tmp 18)), 3, none⟩])
          .ret)
          .skip)))
      (.rgn [] [⟨some 10, (.move (.tmp 5)), 3, none⟩,
        ⟨some 11, (.binOp .add 3 (.tmp 10) (.const (.int .i64 1)) 3), 3, none⟩,
        ⟨some 5, (.assign (.tmp 11)), 3, none⟩]))))))
  (.seq (.rgn [] [⟨some 4, (.assign (.const (.int .i64 (-1)))), 3, none⟩])
  .ret)))
theorem lit101 : Lit Try.prog 101 19 [] [.tmp 4] c101 := ⟨⟨Try.f101, _, Try.func101, rfl, by kernel_rfl, rfl, rfl, by kernel_rfl, by kernel_rfl⟩, by decide, by kernel_rfl⟩
/-- laws.toIntSS -/
def c102 : LC :=
  (.seq (.rgn [] [⟨some 2, (.assign (.const (.slice none 0 0))), 22, none⟩])
  (.seq (.rgn [3, 7] [⟨some 5, (.move (.tmp 0)), 22, none⟩,
    ⟨some 6, (.call { callee := (.builtin .len), args := #[(.tmp 5)], argTypes := #[22] }), 3, none⟩,
    ⟨some 7, (.makeSlice 22 (.tmp 6) (.tmp 6)), 22, none⟩,
    ⟨some 3, (.assign (.tmp 7)), 22, none⟩])
  (.seq (.seq (.rgn [] [⟨some 4, (.assign (.const (.int .i64 0))), 3, none⟩])
  (.blk 0
    (.loop []
      (.seq (.seq (.rgn [] [⟨some 8, (.move (.tmp 4)), 3, none⟩,
        ⟨some 9, (.move (.tmp 0)), 22, none⟩,
        ⟨some 10, (.call { callee := (.builtin .len), args := #[(.tmp 9)], argTypes := #[22] }), 3, none⟩,
        ⟨some 11, (.binOp .lss 3 (.tmp 8) (.tmp 10) 3), 4, none⟩])
      (.cond (.tmp 11)
        .skip
        (.exit 0)))
      (.seq (.blk 1
        (.rgn [] [⟨some 14, (.move (.tmp 3)), 22, none⟩,
          ⟨some 15, (.move (.tmp 4)), 3, none⟩,
          ⟨some 16, (.move (.tmp 0)), 22, none⟩,
          ⟨some 17, (.move (.tmp 4)), 3, none⟩,
          ⟨some 18, (.indexAddr 22 (.tmp 16) (.tmp 17)), 0, none⟩,
          ⟨some 19, (.load 30 (.tmp 18)), 30, none⟩,
          ⟨some 20, (.call { callee := (.value (.func 32)), args := #[(.tmp 19)], argTypes := #[30] }), 30, none⟩,
          ⟨some 21, (.indexAddr 22 (.tmp 14) (.tmp 15)), 0, none⟩,
          ⟨none, (.store 30 (.tmp 21) (.tmp 20)), 0, none⟩]))
      (.rgn [] [⟨some 12, (.move (.tmp 4)), 3, none⟩,
        ⟨some 13, (.binOp .add 3 (.tmp 12) (.const (.int .i64 1)) 3), 3, none⟩,
        ⟨some 4, (.assign (.tmp 13)), 3, none⟩]))))))
  (.seq (.rgn [22] [⟨some 22, (.move (.tmp 3)), 22, none⟩,
    ⟨some 2, (.assign (.tmp 22)), 22, none⟩])
  .ret))))
theorem lit102 : Lit Try.prog 102 23 [3, 7] [.tmp 2] c102 := ⟨⟨Try.f102, _, Try.func102, rfl, by kernel_rfl, rfl, rfl, by kernel_rfl, by kernel_rfl⟩, by decide, by kernel_rfl⟩
/-- impl.IsValidRelation -/
def c103 : LC :=
  (.seq (.rgn [] [⟨some 1, (.box 24 (.tmp 0)), 0, none⟩,
    ⟨some 2, (.assign (.const (.bool false))), 4, none⟩])
  (.seq (.rgn [] [⟨some 3, (.fieldAddr 24 (.tmp 1) 0), 0, none⟩,
    ⟨some 4, (.load 3 (.tmp 3)), 3, none⟩,
    ⟨some 5, (.fieldAddr 24 (.tmp 1) 1), 0, none⟩,
    ⟨some 6, (.load 22 (.tmp 5)), 22, none⟩,
    ⟨some 7, (.call { callee := (.value (.func 149)), args := #[(.tmp 4), (.tmp 6)], argTypes := #[3, 22] }), 4, none⟩,
    ⟨some 2, (.assign (.tmp 7)), 4, none⟩])
  .ret))
theorem lit103 : Lit Try.prog 103 8 [1] [.tmp 2] c103 := ⟨⟨Try.f103, _, Try.func103, rfl, by kernel_rfl, rfl, rfl, by kernel_rfl, by kernel_rfl⟩, by decide, by kernel_rfl⟩
/-- impl.indexOf -/
def c104 : LC :=
  (.seq (.rgn [] [⟨some 4, (.assign (.const (.int .i64 0))), 3, none⟩])
  (.seq (.seq (.rgn [] [⟨some 7, (.move (.tmp 0)), 30, none⟩,
    ⟨some 8, (.call { callee := (.builtin .len), args := #[(.tmp 7)], argTypes := #[30] }), 3, none⟩,
    ⟨some 9, (.move (.const (.int .i64 0))), 3, none⟩])
  (.blk 0
    (.loop []
      (.seq (.rgn [] [⟨some 10, (.binOp .lss 3 (.tmp 9) (.tmp 8) 3), 0, none⟩])
      (.seq (.cond (.tmp 10)
        .skip
        (.exit 0))
      (.seq (.blk 1
        (.seq (.rgn [] [⟨some 11, (.move (.tmp 9)), 3, none⟩,
          ⟨some 12, (.indexAddr 30 (.tmp 7) (.tmp 9)), 0, none⟩,
          ⟨some 13, (.load 3 (.tmp 12)), 3, none⟩,
          ⟨some 5, (.assign (.tmp 11)), 3, none⟩,
          ⟨some 6, (.assign (.tmp 13)), 3, none⟩])
        (.seq (.rgn [] [⟨some 14, (.move (.tmp 6)), 3, none⟩,
          ⟨some 15, (.move (.tmp 1)), 3, none⟩,
          ⟨some 16, (.binOp .eql 3 (.tmp 14) (.tmp 15) 3), 4, none⟩])
        (.cond (.tmp 16)
          (.seq (.rgn [] [⟨some 17, (.move (.tmp 5)), 3, none⟩,
            ⟨some 4, (.assign (.tmp 17)), 3, none⟩])
          .ret)
          .skip))))
      (.rgn [] [⟨some 18, (.binOp .add 3 (.tmp 9) (.const (.int .i64 1)) 3), 3, none⟩,
        ⟨some 9, (.move (.tmp 18)), 3, none⟩])))))))
  (.seq (.rgn [] [⟨some 4, (.assign (.const (.int .i64 (-1)))), 3, none⟩])
  .ret)))
theorem lit104 : Lit Try.prog 104 19 [] [.tmp 4] c104 := ⟨⟨Try.f104, _, Try.func104, rfl, by kernel_rfl, rfl, rfl, by kernel_rfl, by kernel_rfl⟩, by decide, by kernel_rfl⟩
/-- impl.copyInts -/
def c105 : LC :=
  (.seq (.rgn [] [⟨some 2, (.assign (.const (.slice none 0 0))), 30, none⟩])
  (.seq (.rgn [4] [⟨some 3, (.buildSlice 30 0 #[]), 30, none⟩,
    ⟨some 4, (.move (.tmp 0)), 30, none⟩,
    ⟨some 5, (.call { callee := (.builtin .append), args := #[(.tmp 3), (.tmp 4)], argTypes := #[30, 30] }), 30, none⟩,
    ⟨some 2, (.assign (.tmp 5)), 30, none⟩])
  .ret))
theorem lit105 : Lit Try.prog 105 6 [] [.tmp 2] c105 := ⟨⟨Try.f105, _, Try.func105, rfl, by kernel_rfl, rfl, rfl, by kernel_rfl, by kernel_rfl⟩, by decide, by kernel_rfl⟩
/-- laws.szAtomS -/
def c106 : LC :=
  (.seq (.rgn [] [⟨some 4, (.assign (.const (.int .i64 0))), 3, none⟩])
  (.seq (.rgn [] [⟨some 6, (.move (.tmp 1)), 3, none⟩,
    ⟨some 7, (.move (.tmp 0)), 48, none⟩,
    ⟨some 8, (.call { callee := (.builtin .len), args := #[(.tmp 7)], argTypes := #[48] }), 3, none⟩,
    ⟨some 9, (.binOp .sub 3 (.tmp 6) (.tmp 8) 3), 3, none⟩,
    ⟨some 1, (.assign (.tmp 9)), 3, none⟩])
  (.seq (.seq (.rgn [] [⟨some 10, (.move (.tmp 1)), 3, none⟩,
    ⟨some 11, (.binOp .lss 3 (.tmp 10) (.const (.int .i64 0)) 3), 4, none⟩])
  (.cond (.tmp 11)
    (.seq (.rgn [] [⟨some 4, (.assign (.const (.int .i64 (-1)))), 3, none⟩])
    .ret)
    .skip))
  (.seq (.seq (.rgn [] [⟨some 5, (.assign (.const (.int .i64 0))), 3, none⟩])
  (.blk 0
    (.loop []
      (.seq (.seq (.rgn [] [⟨some 12, (.move (.tmp 5)), 3, none⟩,
        ⟨some 13, (.move (.tmp 0)), 48, none⟩,
        ⟨some 14, (.call { callee := (.builtin .len), args := #[(.tmp 13)], argTypes := #[48] }), 3, none⟩,
        ⟨some 15, (.binOp .lss 3 (.tmp 12) (.tmp 14) 3), 4, none⟩])
      (.cond (.tmp 15)
        .skip
        (.exit 0)))
      (.seq (.blk 1
        (.seq (.rgn [] [⟨some 18, (.move (.tmp 0)), 48, none⟩,
          ⟨some 19, (.move (.tmp 5)), 3, none⟩,
          ⟨some 20, (.indexAddr 48 (.tmp 18) (.tmp 19)), 0, none⟩,
          ⟨some 21, (.load 171 (.tmp 20)), 171, none⟩,
          ⟨some 22, (.move (.tmp 1)), 3, none⟩,
          ⟨some 23, (.call { callee := (.value (.func 150)), args := #[(.tmp 21), (.tmp 22)], argTypes := #[171, 3] }), 3, none⟩,
          ⟨some 1, (.assign (.tmp 23)), 3, none⟩])
        (.seq (.rgn [] [⟨some 24, (.move (.tmp 1)), 3, none⟩,
          ⟨some 25, (.binOp .lss 3 (.tmp 24) (.const (.int .i64 0)) 3), 4, none⟩])
        (.cond (.tmp 25)
          (.seq (.rgn [] [⟨some 4, (.assign (.const (.int .i64 (-1)))), 3, none⟩])
          .ret)
          .skip))))
      (.rgn [] [⟨some 16, (.move (.tmp 5)), 3, none⟩,
        ⟨some 17, (.binOp .add 3 (.tmp 16) (.const (.int .i64 1)) 3), 3, none⟩,
        ⟨some 5, (.assign (.tmp 17)), 3, none⟩]))))))
  (.seq (.rgn [] [⟨some 26, (.move (.tmp 1)), 3, none⟩,
    ⟨some 4, (.assign (.tmp 26)), 3, none⟩])
  .ret)))))
theorem lit106 : Lit Try.prog 106 27 [] [.tmp 4] c106 := ⟨⟨Try.f106, _, Try.func106, rfl, by kernel_rfl, rfl, rfl, by kernel_rfl, by kernel_rfl⟩, by decide, by kernel_rfl⟩
/-- spec.l38Ok -/
def c107 : LC :=
  (.seq (.rgn [] [⟨some 3, (.box 56 (.tmp 0)), 0, none⟩,
    ⟨some 6, (.assign (.const (.bool false))), 4, none⟩])
  (.seq (.seq (.rgn [] [⟨some 7, (.assign (.const (.int .i64 0))), 3, none⟩])
  (.blk 0
    (.loop []
      (.seq (.seq (.rgn [] [⟨some 8, (.move (.tmp 7)), 3, none⟩,
        ⟨some 9, (.move (.tmp 1)), 30, none⟩,
        ⟨some 10, (.call { callee := (.builtin .len), args := #[(.tmp 9)], argTypes := #[30] }), 3, none⟩,
        ⟨some 11, (.binOp .lss 3 (.tmp 8) (.tmp 10) 3), 4, none⟩])
      (.cond (.tmp 11)
        .skip
        (.exit 0)))
      (.seq (.blk 1
        (.seq (.rgn [] [⟨some 14, (.move (.tmp 1)), 30, none⟩,
          ⟨some 15, (.move (.tmp 7)), 3, none⟩,
          ⟨some 16, (.indexAddr 30 (.tmp 14) (.tmp 15)), 0, none⟩,
          ⟨some 17, (.load 3 (.tmp 16)), 3, none⟩,
          ⟨some 18, (.call { callee := (.value (.func 80)), args := #[(.tmp 17), (.const (.int .i64 0)), (.const (.int .i64 6))], argTypes := #[3, 3, 3] }), 4, none⟩,
          ⟨some 19, (.unOp .not 4 (.tmp 18)), 4, none⟩])
        (.cond (.tmp 19)
          (.seq (.rgn [] [⟨some 6, (.assign (.const (.bool false))), 4, none⟩])
          .ret)
          .skip)))
      (.rgn [] [⟨some 12, (.move (.tmp 7)), 3, none⟩,
        ⟨some 13, (.binOp .add 3 (.tmp 12) (.const (.int .i64 1)) 3), 3, none⟩,
        ⟨some 7, (.assign (.tmp 13)), 3, none⟩]))))))
  (.seq (.rgn [] [⟨some 20, (.load 56 (.tmp 3)), 56, none⟩,
    ⟨some 21, (.call { callee := (.value (.func 124)), args := #[(.tmp 20)], argTypes := #[56] }), 4, none⟩,
    ⟨some 22, (.move (.tmp 21)), 4, none⟩,
    ⟨some 23, (.move (.tmp 1)), 30, some (some 22, true)⟩,
    ⟨some 24, (.call { callee := (.builtin .len), args := #[(.tmp 23)], argTypes := #[30] }), 3, some (some 22, true)⟩,
    ⟨some 25, (.fieldAddr 56 (.tmp 3) 0), 0, some (some 22, true)⟩,
    ⟨some 26, (.load 3 (.tmp 25)), 3, some (some 22, true)⟩,
    ⟨some 27, (.binOp .eql 3 (.tmp 24) (.tmp 26) 3), 4, some (some 22, true)⟩,
    ⟨some 28, (.pick (.tmp 22) (.tmp 27) (.const (.bool false))), 4, none⟩,
    ⟨some 29, (.move (.tmp 28)), 4, none⟩,
    ⟨some 30, (.move (.tmp 2)), 3, some (some 29, true)⟩,
    ⟨some 31, (.call { callee := (.value (.func 80)), args := #[(.tmp 30), (.const (.int .i64 1)), (.const (.int .i64 10))], argTypes := #[3, 3, 3] }), 4, some (some 29, true)⟩,
    ⟨some 32, (.pick (.tmp 29) (.tmp 31) (.const (.bool false))), 4, none⟩,
    ⟨some 6, (.assign (.tmp 32)), 4, none⟩])
  .ret)))
theorem lit107 : Lit Try.prog 107 33 [3] [.tmp 6] c107 := ⟨⟨Try.f107, _, Try.func107, rfl, by kernel_rfl, rfl, rfl, by kernel_rfl, by kernel_rfl⟩, by decide, by kernel_rfl⟩
/-- spec.l38Pow -/
def c108 : LC :=
  (.seq (.rgn [] [⟨some 4, (.assign (.const (.int .i64 0))), 3, none⟩])
  (.seq (.rgn [] [⟨some 5, (.assign (.const (.int .i64 1))), 3, none⟩])
  (.seq (.seq (.rgn [] [⟨some 6, (.assign (.const (.int .i64 0))), 3, none⟩])
  (.blk 0
    (.loop []
      (.seq (.seq (.rgn [] [⟨some 7, (.move (.tmp 6)), 3, none⟩,
        ⟨some 8, (.move (.tmp 1)), 3, none⟩,
        ⟨some 9, (.binOp .lss 3 (.tmp 7) (.tmp 8) 3), 4, none⟩])
      (.cond (.tmp 9)
        .skip
        (.exit 0)))
      (.seq (.blk 1
        (.seq (.rgn [] [⟨some 12, (.move (.tmp 5)), 3, none⟩,
          ⟨some 13, (.move (.tmp 0)), 3, none⟩,
          ⟨some 14, (.binOp .mul 3 (.tmp 12) (.tmp 13) 3), 3, none⟩,
          ⟨some 5, (.assign (.tmp 14)), 3, none⟩])
        (.seq (.rgn [] [⟨some 15, (.move (.tmp 5)), 3, none⟩,
          ⟨some 16, (.binOp .gtr 3 (.tmp 15) (.const (.int .i64 100)) 3), 4, none⟩])
        (.cond (.tmp 16)
          (.seq (.rgn [] [⟨some 4, (.assign (.const (.int .i64 (-1)))), 3, none⟩])
          .ret)
          .skip))))
      (.rgn [] [⟨some 10, (.move (.tmp 6)), 3, none⟩,
        ⟨some 11, (.binOp .add 3 (.tmp 10) (.const (.int .i64 1)) 3), 3, none⟩,
        ⟨some 6, (.assign (.tmp 11)), 3, none⟩]))))))
  (.seq (.rgn [] [⟨some 17, (.move (.tmp 5)), 3, none⟩,
    ⟨some 4, (.assign (.tmp 17)), 3, none⟩])
  .ret))))
theorem lit108 : Lit Try.prog 108 18 [] [.tmp 4] c108 := ⟨⟨Try.f108, _, Try.func108, rfl, by kernel_rfl, rfl, rfl, by kernel_rfl, by kernel_rfl⟩, by decide, by kernel_rfl⟩
/-- laws.toAtomS -/
def c109 : LC :=
  (.seq (.rgn [] [⟨some 2, (.assign (.const (.slice none 0 0))), 54, none⟩])
  (.seq (.rgn [3, 7] [⟨some 5, (.move (.tmp 0)), 48, none⟩,
    ⟨some 6, (.call { callee := (.builtin .len), args := #[(.tmp 5)], argTypes := #[48] }), 3, none⟩,
    ⟨some 7, (.makeSlice 54 (.tmp 6) (.tmp 6)), 54, none⟩,
    ⟨some 3, (.assign (.tmp 7)), 54, none⟩])
  (.seq (.seq (.rgn [] [⟨some 4, (.assign (.const (.int .i64 0))), 3, none⟩])
  (.blk 0
    (.loop []
      (.seq (.seq (.rgn [] [⟨some 8, (.move (.tmp 4)), 3, none⟩,
        ⟨some 9, (.move (.tmp 0)), 48, none⟩,
        ⟨some 10, (.call { callee := (.builtin .len), args := #[(.tmp 9)], argTypes := #[48] }), 3, none⟩,
        ⟨some 11, (.binOp .lss 3 (.tmp 8) (.tmp 10) 3), 4, none⟩])
      (.cond (.tmp 11)
        .skip
        (.exit 0)))
      (.seq (.blk 1
        (.rgn [] [⟨some 14, (.move (.tmp 3)), 54, none⟩,
          ⟨some 15, (.move (.tmp 4)), 3, none⟩,
          ⟨some 16, (.move (.tmp 0)), 48, none⟩,
          ⟨some 17, (.move (.tmp 4)), 3, none⟩,
          ⟨some 18, (.indexAddr 48 (.tmp 16) (.tmp 17)), 0, none⟩,
          ⟨some 19, (.load 171 (.tmp 18)), 171, none⟩,
          ⟨some 20, (.call { callee := (.value (.func 151)), args := #[(.tmp 19)], argTypes := #[171] }), 150, none⟩,
          ⟨some 21, (.indexAddr 54 (.tmp 14) (.tmp 15)), 0, none⟩,
          ⟨none, (.store 150 (.tmp 21) (.tmp 20)), 0, none⟩]))
      (.rgn [] [⟨some 12, (.move (.tmp 4)), 3, none⟩,
        ⟨some 13, (.binOp .add 3 (.tmp 12) (.const (.int .i64 1)) 3), 3, none⟩,
        ⟨some 4, (.assign (.tmp 13)), 3, none⟩]))))))
  (.seq (.rgn [22] [⟨some 22, (.move (.tmp 3)), 54, none⟩,
    ⟨some 2, (.assign (.tmp 22)), 54, none⟩])
  .ret))))
theorem lit109 : Lit Try.prog 109 23 [3, 7] [.tmp 2] c109 := ⟨⟨Try.f109, _, Try.func109, rfl, by kernel_rfl, rfl, rfl, by kernel_rfl, by kernel_rfl⟩, by decide, by kernel_rfl⟩
/-- impl.powers -/
def c110 : LC :=
  (.seq (.rgn [] [⟨some 3, (.box 56 (.tmp 0)), 0, none⟩,
    ⟨some 6, (.assign (.const (.slice none 0 0))), 30, none⟩,
    ⟨some 7, (.assign (.const (.bool false))), 4, none⟩])
  (.seq (.seq (.rgn [] [⟨some 13, (.load 56 (.tmp 3)), 56, none⟩,
    ⟨some 14, (.call { callee := (.value (.func 125)), args := #[(.tmp 13)], argTypes := #[56] }), 4, none⟩,
    ⟨some 15, (.unOp .not 4 (.tmp 14)), 4, none⟩,
    ⟨some 16, (.move (.tmp 15)), 4, none⟩,
    ⟨some 17, (.move (.tmp 1)), 30, some (some 16, false)⟩,
    ⟨some 18, (.call { callee := (.builtin .len), args := #[(.tmp 17)], argTypes := #[30] }), 3, some (some 16, false)⟩,
    ⟨some 19, (.fieldAddr 56 (.tmp 3) 0), 0, some (some 16, false)⟩,
    ⟨some 20, (.load 3 (.tmp 19)), 3, some (some 16, false)⟩,
    ⟨some 21, (.binOp .neq 3 (.tmp 18) (.tmp 20) 3), 4, some (some 16, false)⟩,
    ⟨some 22, (.pick (.tmp 16) (.const (.bool true)) (.tmp 21)), 4, none⟩,
    ⟨some 23, (.move (.tmp 22)), 4, none⟩,
    ⟨some 24, (.move (.tmp 2)), 3, some (some 23, false)⟩,
    ⟨some 25, (.call { callee := (.value (.func 82)), args := #[(.tmp 24), (.const (.int .i64 1)), (.const (.int .i64 10))], argTypes := #[3, 3, 3] }), 4, some (some 23, false)⟩,
    ⟨some 26, (.unOp .not 4 (.tmp 25)), 4, some (some 23, false)⟩,
    ⟨some 27, (.pick (.tmp 23) (.const (.bool true)) (.tmp 26)), 4, none⟩])
  (.cond (.tmp 27)
    (.seq (.rgn [] [⟨some 6, (.assign (.const (.slice none 0 0))), 30, none⟩,
      ⟨some 7, (.assign (.const (.bool false))), 4, none⟩])
    .ret)
    .skip))
  (.seq (.rgn [] [⟨some 8, (.assign (.const (.slice none 0 0))), 30, none⟩])
  (.seq (.seq (.rgn [] [⟨some 28, (.move (.tmp 1)), 30, none⟩,
    ⟨some 29, (.call { callee := (.builtin .len), args := #[(.tmp 28)], argTypes := #[30] }), 3, none⟩,
    ⟨some 30, (.move (.const (.int .i64 0))), 3, none⟩])
  (.blk 0
    (.loop []
      (.seq (.rgn [] [⟨some 31, (.binOp .lss 3 (.tmp 30) (.tmp 29) 3), 0, none⟩])
      (.seq (.cond (.tmp 31)
        .skip
        (.exit 0))
      (.seq (.blk 1
        (.seq (.rgn [] [⟨some 32, (.indexAddr 30 (.tmp 28) (.tmp 30)), 0, none⟩,
          ⟨some 33, (.load 3 (.tmp 32)), 3, none⟩,
          ⟨some 10, (.assign (.tmp 33)), 3, none⟩])
        (.seq (.seq (.rgn [] [⟨some 34, (.move (.tmp 10)), 3, none⟩,
          ⟨some 35, (.call { callee := (.value (.func 82)), args := #[(.tmp 34), (.const (.int .i64 0)), (.const (.int .i64 6))], argTypes := #[3, 3, 3] }), 4, none⟩,
          ⟨some 36, (.unOp .not 4 (.tmp 35)), 4, none⟩])
        (.cond (.tmp 36)
          (.seq (.rgn [] [⟨some 6, (.assign (.const (.slice none 0 0))), 30, none⟩,
            ⟨some 7, (.assign (.const (.bool false))), 4, none⟩])
          .ret)
          .skip))
        (.seq (.rgn [] [⟨some 11, (.assign (.const (.int .i64 1))), 3, none⟩])
        (.seq (.seq (.rgn [] [⟨some 12, (.assign (.const (.int .i64 0))), 3, none⟩])
        (.blk 2
          (.loop []
            (.seq (.seq (.rgn [] [⟨some 37, (.move (.tmp 12)), 3, none⟩,
              ⟨some 38, (.move (.tmp 10)), 3, none⟩,
              ⟨some 39, (.binOp .lss 3 (.tmp 37) (.tmp 38) 3), 4, none⟩])
            (.cond (.tmp 39)
              .skip
              (.exit 2)))
            (.seq (.blk 3
              (.rgn [] [⟨some 42, (.move (.tmp 11)), 3, none⟩,
                ⟨some 43, (.move (.tmp 2)), 3, none⟩,
                ⟨some 44, (.binOp .mul 3 (.tmp 42) (.tmp 43) 3), 3, none⟩,
                ⟨some 11, (.assign (.tmp 44)), 3, none⟩]))
            (.rgn [] [⟨some 40, (.move (.tmp 12)), 3, none⟩,
              ⟨some 41, (.binOp .add 3 (.tmp 40) (.const (.int .i64 1)) 3), 3, none⟩,
              ⟨some 12, (.assign (.tmp 41)), 3, none⟩]))))))
        (.seq (.seq (.rgn [] [⟨some 45, (.move (.tmp 11)), 3, none⟩,
          ⟨some 46, (.binOp .gtr 3 (.tmp 45) (.const (.int .i64 100)) 3), 4, none⟩])
        (.cond (.tmp 46)
          (.seq (.rgn [] [⟨some 6, (.assign (.const (.slice none 0 0))), 30, none⟩,
            ⟨some 7, (.assign (.const (.bool false))), 4, none⟩])
          .ret)
          .skip))
        (.rgn [47] [⟨some 47, (.move (.tmp 8)), 30, none⟩,
          ⟨some 48, (.move (.tmp 11)), 3, none⟩,
          ⟨some 49, (.buildSlice 30 1 #[(0, (.tmp 48))]), 30, none⟩,
          ⟨some 50, (.call { callee := (.builtin .append), args := #[(.tmp 47), (.tmp 49)], argTypes := #[30, 30] }), 30, none⟩,
          ⟨some 8, (.assign (.tmp 50)), 30, none⟩])))))))
      (.rgn [] [⟨some 51, (.binOp .add 3 (.tmp 30) (.const (.int .i64 1)) 3), 3, none⟩,
        ⟨some 30, (.move (.tmp 51)), 3, none⟩])))))))
  (.seq (.rgn [52] [⟨some 52, (.move (.tmp 8)), 30, none⟩,
    ⟨some 6, (.assign (.tmp 52)), 30, none⟩,
    ⟨some 7, (.assign (.const (.bool true))), 4, none⟩])
  .ret)))))
theorem lit110 : Lit Try.prog 110 53 [3] [.tmp 6, .tmp 7] c110 := ⟨⟨Try.f110, _, Try.func110, rfl, by kernel_rfl, rfl, rfl, by kernel_rfl, by kernel_rfl⟩, by decide, by kernel_rfl⟩
/-- laws.eqAtomS -/
def c111 : LC :=
  (.seq (.rgn [] [⟨some 4, (.assign (.const (.bool false))), 4, none⟩])
  (.seq (.seq (.rgn [] [⟨some 6, (.move (.tmp 0)), 54, none⟩,
    ⟨some 7, (.call { callee := (.builtin .len), args := #[(.tmp 6)], argTypes := #[54] }), 3, none⟩,
    ⟨some 8, (.move (.tmp 1)), 54, none⟩,
    ⟨some 9, (.call { callee := (.builtin .len), args := #[(.tmp 8)], argTypes := #[54] }), 3, none⟩,
    ⟨some 10, (.binOp .neq 3 (.tmp 7) (.tmp 9) 3), 4, none⟩])
  (.cond (.tmp 10)
    (.seq (.rgn [] [⟨some 4, (.assign (.const (.bool false))), 4, none⟩])
    .ret)
    .skip))
  (.seq (.seq (.rgn [] [⟨some 5, (.assign (.const (.int .i64 0))), 3, none⟩])
  (.blk 0
    (.loop []
      (.seq (.seq (.rgn [] [⟨some 11, (.move (.tmp 5)), 3, none⟩,
        ⟨some 12, (.move (.tmp 0)), 54, none⟩,
        ⟨some 13, (.call { callee := (.builtin .len), args := #[(.tmp 12)], argTypes := #[54] }), 3, none⟩,
        ⟨some 14, (.binOp .lss 3 (.tmp 11) (.tmp 13) 3), 4, none⟩])
      (.cond (.tmp 14)
        .skip
        (.exit 0)))
      (.seq (.blk 1
        (.seq (.drw [] [([0], [17]), ([5], [18]), ([17, 18], [19]), ([19], [20]), ([1], [21]), ([5], [22]), ([21, 22], [23]), ([23], [24]), ([20, 24], [25]), ([25], [26])] [[], [], [0, 1], [2], [], [], [4, 5], [6], [3, 7], [8]] [⟨some 17, (.move (.tmp 0)), 54, none⟩,
          ⟨some 18, (.move (.tmp 5)), 3, none⟩,
          ⟨some 19, (.indexAddr 54 (.tmp 17) (.tmp 18)), 0, none⟩,
          ⟨some 20, (.load 150 (.tmp 19)), 150, none⟩,
          ⟨some 21, (.move (.tmp 1)), 54, none⟩,
          ⟨some 22, (.move (.tmp 5)), 3, none⟩,
          ⟨some 23, (.indexAddr 54 (.tmp 21) (.tmp 22)), 0, none⟩,
          ⟨some 24, (.load 150 (.tmp 23)), 150, none⟩,
          ⟨some 25, (.call { callee := (.value (.func 152)), args := #[(.tmp 20), (.tmp 24)], argTypes := #[150, 150] }), 4, none⟩,
          ⟨some 26, (.unOp .not 4 (.tmp 25)), 4, none⟩])
        (.cond (.tmp 26)
          (.seq (.rgn [] [⟨some 4, (.assign (.const (.bool false))), 4, none⟩])
          .ret)
          .skip)))
      (.rgn [] [⟨some 15, (.move (.tmp 5)), 3, none⟩,
        ⟨some 16, (.binOp .add 3 (.tmp 15) (.const (.int .i64 1)) 3), 3, none⟩,
        ⟨some 5, (.assign (.tmp 16)), 3, none⟩]))))))
  (.seq (.rgn [] [⟨some 4, (.assign (.const (.bool true))), 4, none⟩])
  .ret))))
theorem lit111 : Lit Try.prog 111 27 [] [.tmp 4] c111 := ⟨⟨Try.f111, _, Try.func111, rfl, by kernel_rfl, rfl, rfl, by kernel_rfl, by kernel_rfl⟩, by decide, by kernel_rfl⟩
/-- spec.AreValidValues -/
def c116 : LC :=
  (.seq (.rgn [] [⟨some 2, (.assign (.const (.bool false))), 4, none⟩])
  (.seq (.seq (.rgn [] [⟨some 3, (.assign (.const (.int .i64 0))), 3, none⟩])
  (.blk 0
    (.loop []
      (.seq (.seq (.rgn [] [⟨some 4, (.move (.tmp 3)), 3, none⟩,
        ⟨some 5, (.move (.tmp 0)), 30, none⟩,
        ⟨some 6, (.call { callee := (.builtin .len), args := #[(.tmp 5)], argTypes := #[30] }), 3, none⟩,
        ⟨some 7, (.binOp .lss 3 (.tmp 4) (.tmp 6) 3), 4, none⟩])
      (.cond (.tmp 7)
        .skip
        (.exit 0)))
      (.seq (.blk 1
        (.seq (.rgn [] [⟨some 10, (.move (.tmp 0)), 30, none⟩,
          ⟨some 11, (.move (.tmp 3)), 3, none⟩,
          ⟨some 12, (.indexAddr 30 (.tmp 10) (.tmp 11)), 0, none⟩,
          ⟨some 13, (.load 3 (.tmp 12)), 3, none⟩,
          ⟨some 14, (.call { callee := (.value (.func 80)), args := #[(.tmp 13), (.const (.int .i64 0)), (.const (.int .i64 99))], argTypes := #[3, 3, 3] }), 4, none⟩,
          ⟨some 15, (.unOp .not 4 (.tmp 14)), 4, none⟩])
        (.cond (.tmp 15)
          (.seq (.rgn [] [⟨some 2, (.assign (.const (.bool false))), 4, none⟩])
          .ret)
          .skip)))
      (.rgn [] [⟨some 8, (.move (.tmp 3)), 3, none⟩,
        ⟨some 9, (.binOp .add 3 (.tmp 8) (.const (.int .i64 1)) 3), 3, none⟩,
        ⟨some 3, (.assign (.tmp 9)), 3, none⟩]))))))
  (.seq (.rgn [] [⟨some 2, (.assign (.const (.bool true))), 4, none⟩])
  .ret)))
theorem lit116 : Lit Try.prog 116 16 [] [.tmp 2] c116 := ⟨⟨Try.f116, _, Try.func116, rfl, by kernel_rfl, rfl, rfl, by kernel_rfl, by kernel_rfl⟩, by decide, by kernel_rfl⟩
/-- spec.CompareRows -/
def c117 : LC :=
  (.seq (.rgn [] [⟨some 4, (.assign (.const (.int .i64 0))), 3, none⟩])
  (.seq (.seq (.rgn [] [⟨some 5, (.assign (.const (.int .i64 0))), 3, none⟩])
  (.blk 0
    (.loop []
      (.seq (.seq (.rgn [] [⟨some 6, (.move (.tmp 5)), 3, none⟩,
        ⟨some 7, (.move (.tmp 0)), 30, none⟩,
        ⟨some 8, (.call { callee := (.builtin .len), args := #[(.tmp 7)], argTypes := #[30] }), 3, none⟩,
        ⟨some 9, (.binOp .lss 3 (.tmp 6) (.tmp 8) 3), 4, none⟩,
        ⟨some 10, (.move (.tmp 9)), 4, none⟩,
        ⟨some 11, (.move (.tmp 5)), 3, some (some 10, true)⟩,
        ⟨some 12, (.move (.tmp 1)), 30, some (some 10, true)⟩,
        ⟨some 13, (.call { callee := (.builtin .len), args := #[(.tmp 12)], argTypes := #[30] }), 3, some (some 10, true)⟩,
        ⟨some 14, (.binOp .lss 3 (.tmp 11) (.tmp 13) 3), 4, some (some 10, true)⟩,
        ⟨some 15, (.pick (.tmp 10) (.tmp 14) (.const (.bool false))), 4, none⟩])
      (.cond (.tmp 15)
        .skip
        (.exit 0)))
      (.seq (.blk 1
        (.seq (.seq (.drw [] [([0], [18]), ([5], [19]), ([18, 19], [20]), ([20], [21]), ([1], [22]), ([5], [23]), ([22, 23], [24]), ([24], [25]), ([21, 25], [26])] [[], [], [0, 1], [2], [], [], [4, 5], [6], [3, 7]] [⟨some 18, (.move (.tmp 0)), 30, none⟩,
          ⟨some 19, (.move (.tmp 5)), 3, none⟩,
          ⟨some 20, (.indexAddr 30 (.tmp 18) (.tmp 19)), 0, none⟩,
          ⟨some 21, (.load 3 (.tmp 20)), 3, none⟩,
          ⟨some 22, (.move (.tmp 1)), 30, none⟩,
          ⟨some 23, (.move (.tmp 5)), 3, none⟩,
          ⟨some 24, (.indexAddr 30 (.tmp 22) (.tmp 23)), 0, none⟩,
          ⟨some 25, (.load 3 (.tmp 24)), 3, none⟩,
          ⟨some 26, (.binOp .lss 3 (.tmp 21) (.tmp 25) 3), 4, none⟩])
        (.cond (.tmp 26)
          (.seq (.rgn [] [⟨some 4, (.assign (.const (.int .i64 (-1)))), 3, none⟩])
          .ret)
          .skip))
        (.seq (.drw [] [([0], [27]), ([5], [28]), ([27, 28], [29]), ([29], [30]), ([1], [31]), ([5], [32]), ([31, 32], [33]), ([33], [34]), ([30, 34], [35])] [[], [], [0, 1], [2], [], [], [4, 5], [6], [3, 7]] [⟨some 27, (.move (.tmp 0)), 30, none⟩,
          ⟨some 28, (.move (.tmp 5)), 3, none⟩,
          ⟨some 29, (.indexAddr 30 (.tmp 27) (.tmp 28)), 0, none⟩,
          ⟨some 30, (.load 3 (.tmp 29)), 3, none⟩,
          ⟨some 31, (.move (.tmp 1)), 30, none⟩,
          ⟨some 32, (.move (.tmp 5)), 3, none⟩,
          ⟨some 33, (.indexAddr 30 (.tmp 31) (.tmp 32)), 0, none⟩,
          ⟨some 34, (.load 3 (.tmp 33)), 3, none⟩,
          ⟨some 35, (.binOp .gtr 3 (.tmp 30) (.tmp 34) 3), 4, none⟩])
        (.cond (.tmp 35)
          (.seq (.rgn [] [⟨some 4, (.assign (.const (.int .i64 1))), 3, none⟩])
          .ret)
          .skip))))
      (.rgn [] [⟨some 16, (.move (.tmp 5)), 3, none⟩,
        ⟨some 17, (.binOp .add 3 (.tmp 16) (.const (.int .i64 1)) 3), 3, none⟩,
        ⟨some 5, (.assign (.tmp 17)), 3, none⟩]))))))
  (.seq (.seq (.rgn [] [⟨some 36, (.move (.tmp 0)), 30, none⟩,
    ⟨some 37, (.call { callee := (.builtin .len), args := #[(.tmp 36)], argTypes := #[30] }), 3, none⟩,
    ⟨some 38, (.move (.tmp 1)), 30, none⟩,
    ⟨some 39, (.call { callee := (.builtin .len), args := #[(.tmp 38)], argTypes := #[30] }), 3, none⟩,
    ⟨some 40, (.binOp .lss 3 (.tmp 37) (.tmp 39) 3), 4, none⟩])
  (.cond (.tmp 40)
    (.seq (.rgn [] [⟨some 4, (.assign (.const (.int .i64 (-1)))), 3, none⟩])
    .ret)
    .skip))
  (.seq (.seq (.rgn [] [⟨some 41, (.move (.tmp 0)), 30, none⟩,
    ⟨some 42, (.call { callee := (.builtin .len), args := #[(.tmp 41)], argTypes := #[30] }), 3, none⟩,
    ⟨some 43, (.move (.tmp 1)), 30, none⟩,
    ⟨some 44, (.call { callee := (.builtin .len), args := #[(.tmp 43)], argTypes := #[30] }), 3, none⟩,
    ⟨some 45, (.binOp .gtr 3 (.tmp 42) (.tmp 44) 3), 4, none⟩])
  (.cond (.tmp 45)
    (.seq (.rgn [] [⟨some 4, (.assign (.const (.int .i64 1))), 3, none⟩])
    .ret)
    .skip))
  (.seq (.rgn [] [⟨some 4, (.assign (.const (.int .i64 0))), 3, none⟩])
  .ret)))))
theorem lit117 : Lit Try.prog 117 46 [] [.tmp 4] c117 := ⟨⟨Try.f117, _, Try.func117, rfl, by kernel_rfl, rfl, rfl, by kernel_rfl, by kernel_rfl⟩, by decide, by kernel_rfl⟩
/-- impl.copyRows -/
def c118 : LC :=
  (.seq (.rgn [] [⟨some 2, (.assign (.const (.slice none 0 0))), 22, none⟩])
  (.seq (.rgn [] [⟨some 3, (.assign (.const (.slice none 0 0))), 22, none⟩])
  (.seq (.seq (.rgn [] [⟨some 6, (.move (.tmp 0)), 22, none⟩,
    ⟨some 7, (.call { callee := (.builtin .len), args := #[(.tmp 6)], argTypes := #[22] }), 3, none⟩,
    ⟨some 8, (.move (.const (.int .i64 0))), 3, none⟩])
  (.blk 0
    (.loop []
      (.seq (.rgn [] [⟨some 9, (.binOp .lss 3 (.tmp 8) (.tmp 7) 3), 0, none⟩])
      (.seq (.cond (.tmp 9)
        .skip
        (.exit 0))
      (.seq (.blk 1
        (.seq (.rgn [11] [⟨some 10, (.indexAddr 22 (.tmp 6) (.tmp 8)), 0, none⟩,
          ⟨some 11, (.load 30 (.tmp 10)), 30, none⟩,
          ⟨some 5, (.assign (.tmp 11)), 30, none⟩])
        (.rgn [12] [⟨some 12, (.move (.tmp 3)), 22, none⟩,
          ⟨some 13, (.move (.tmp 5)), 30, none⟩,
          ⟨some 14, (.call { callee := (.value (.func 105)), args := #[(.tmp 13)], argTypes := #[30] }), 30, none⟩,
          ⟨some 15, (.buildSlice 22 1 #[(0, (.tmp 14))]), 22, none⟩,
          ⟨some 16, (.call { callee := (.builtin .append), args := #[(.tmp 12), (.tmp 15)], argTypes := #[22, 22] }), 22, none⟩,
          ⟨some 3, (.assign (.tmp 16)), 22, none⟩])))
      (.rgn [] [⟨some 17, (.binOp .add 3 (.tmp 8) (.const (.int .i64 1)) 3), 3, none⟩,
        ⟨some 8, (.move (.tmp 17)), 3, none⟩])))))))
  (.seq (.rgn [18] [⟨some 18, (.move (.tmp 3)), 22, none⟩,
    ⟨some 2, (.assign (.tmp 18)), 22, none⟩])
  .ret))))
theorem lit118 : Lit Try.prog 118 19 [] [.tmp 2] c118 := ⟨⟨Try.f118, _, Try.func118, rfl, by kernel_rfl, rfl, rfl, by kernel_rfl, by kernel_rfl⟩, by decide, by kernel_rfl⟩
/-- laws.szDatabaseS -/
def c119 : LC :=
  (.seq (.rgn [] [⟨some 4, (.assign (.const (.int .i64 0))), 3, none⟩])
  (.seq (.rgn [] [⟨some 6, (.move (.tmp 1)), 3, none⟩,
    ⟨some 7, (.move (.tmp 0)), 71, none⟩,
    ⟨some 8, (.call { callee := (.builtin .len), args := #[(.tmp 7)], argTypes := #[71] }), 3, none⟩,
    ⟨some 9, (.binOp .sub 3 (.tmp 6) (.tmp 8) 3), 3, none⟩,
    ⟨some 1, (.assign (.tmp 9)), 3, none⟩])
  (.seq (.seq (.rgn [] [⟨some 10, (.move (.tmp 1)), 3, none⟩,
    ⟨some 11, (.binOp .lss 3 (.tmp 10) (.const (.int .i64 0)) 3), 4, none⟩])
  (.cond (.tmp 11)
    (.seq (.rgn [] [⟨some 4, (.assign (.const (.int .i64 (-1)))), 3, none⟩])
    .ret)
    .skip))
  (.seq (.seq (.rgn [] [⟨some 5, (.assign (.const (.int .i64 0))), 3, none⟩])
  (.blk 0
    (.loop []
      (.seq (.seq (.rgn [] [⟨some 12, (.move (.tmp 5)), 3, none⟩,
        ⟨some 13, (.move (.tmp 0)), 71, none⟩,
        ⟨some 14, (.call { callee := (.builtin .len), args := #[(.tmp 13)], argTypes := #[71] }), 3, none⟩,
        ⟨some 15, (.binOp .lss 3 (.tmp 12) (.tmp 14) 3), 4, none⟩])
      (.cond (.tmp 15)
        .skip
        (.exit 0)))
      (.seq (.blk 1
        (.seq (.rgn [] [⟨some 18, (.move (.tmp 0)), 71, none⟩,
          ⟨some 19, (.move (.tmp 5)), 3, none⟩,
          ⟨some 20, (.indexAddr 71 (.tmp 18) (.tmp 19)), 0, none⟩,
          ⟨some 21, (.load 95 (.tmp 20)), 95, none⟩,
          ⟨some 22, (.move (.tmp 1)), 3, none⟩,
          ⟨some 23, (.call { callee := (.value (.func 59)), args := #[(.tmp 21), (.tmp 22)], argTypes := #[95, 3] }), 3, none⟩,
          ⟨some 1, (.assign (.tmp 23)), 3, none⟩])
        (.seq (.rgn [] [⟨some 24, (.move (.tmp 1)), 3, none⟩,
          ⟨some 25, (.binOp .lss 3 (.tmp 24) (.const (.int .i64 0)) 3), 4, none⟩])
        (.cond (.tmp 25)
          (.seq (.rgn [] [⟨some 4, (.assign (.const (.int .i64 (-1)))), 3, none⟩])
          .ret)
          .skip))))
      (.rgn [] [⟨some 16, (.move (.tmp 5)), 3, none⟩,
        ⟨some 17, (.binOp .add 3 (.tmp 16) (.const (.int .i64 1)) 3), 3, none⟩,
        ⟨some 5, (.assign (.tmp 17)), 3, none⟩]))))))
  (.seq (.rgn [] [⟨some 26, (.move (.tmp 1)), 3, none⟩,
    ⟨some 4, (.assign (.tmp 26)), 3, none⟩])
  .ret)))))
theorem lit119 : Lit Try.prog 119 27 [] [.tmp 4] c119 := ⟨⟨Try.f119, _, Try.func119, rfl, by kernel_rfl, rfl, rfl, by kernel_rfl, by kernel_rfl⟩, by decide, by kernel_rfl⟩
/-- spec.IsValidDatabase -/
def c120 : LC :=
  (.seq (.rgn [] [⟨some 1, (.box 100 (.tmp 0)), 0, none⟩,
    ⟨some 2, (.assign (.const (.bool false))), 4, none⟩])
  (.seq (.seq (.rgn [] [⟨some 3, (.assign (.const (.int .i64 0))), 3, none⟩])
  (.blk 0
    (.loop [4]
      (.seq (.seq (.rgn [] [⟨some 5, (.move (.tmp 3)), 3, none⟩,
        ⟨some 6, (.fieldAddr 100 (.tmp 1) 0), 0, none⟩,
        ⟨some 7, (.load 98 (.tmp 6)), 98, none⟩,
        ⟨some 8, (.call { callee := (.builtin .len), args := #[(.tmp 7)], argTypes := #[98] }), 3, none⟩,
        ⟨some 9, (.binOp .lss 3 (.tmp 5) (.tmp 8) 3), 4, none⟩])
      (.cond (.tmp 9)
        .skip
        (.exit 0)))
      (.seq (.blk 1
        (.seq (.rgn [16] [⟨some 12, (.fieldAddr 100 (.tmp 1) 0), 0, none⟩,
          ⟨some 13, (.load 98 (.tmp 12)), 98, none⟩,
          ⟨some 14, (.move (.tmp 3)), 3, none⟩,
          ⟨some 15, (.indexAddr 98 (.tmp 13) (.tmp 14)), 0, none⟩,
          ⟨some 16, (.load 157 (.tmp 15)), 157, none⟩,
          ⟨some 4, (.alloc 157), 0, none⟩,
          ⟨none, (.store 157 (.tmp 4) (.tmp 16)), 0, none⟩])
        (.seq (.drw [] [([4], [17]), ([4, 17], [18]), ([18], [19]), ([19], [20]), ([20], [21]), ([3, 21], [22]), ([21, 22], [23]), ([21, 23], [24]), ([1, 24], [25]), ([1, 24, 25], [26]), ([3, 24], [27]), ([24, 27], [28]), ([24, 26, 28], [29]), ([24, 29], [30]), ([24, 30], [31]), ([4, 24], [32]), ([4, 24, 32], [33]), ([24, 31, 33], [34]), ([21, 24, 34], [35]), ([21, 35], [36]), ([36], [37]), ([4, 37], [38]), ([4, 37, 38], [39]), ([37, 39], [40]), ([37, 40], [41]), ([37, 41], [42]), ([42], [43]), ([4, 43], [44]), ([4, 43, 44], [45]), ([4, 43, 45], [46]), ([43, 46], [47]), ([43, 47], [48]), ([43, 48], [49]), ([49], [50]), ([4, 50], [51]), ([4, 50, 51], [52]), ([4, 50, 52], [53]), ([50, 53], [54]), ([50, 54], [55])] [[], [0], [1], [2], [3, 2], [4], [5, 4], [6, 4, 4], [7], [8, 7], [7], [10, 7], [9, 11, 7], [12, 7], [13, 7], [7], [15, 7], [14, 16, 7], [7, 17, 4], [4, 18], [19, 7], [20], [21, 20], [22, 20, 20], [23, 20], [20, 24], [25, 23], [26], [27, 26], [28, 26], [29, 26], [30, 26], [26, 31], [32, 26], [33], [34, 33], [35, 33], [36, 33], [33, 37]] [⟨some 17, (.fieldAddr 157 (.tmp 4) 0), 0, none⟩,
          ⟨some 18, (.load 9 (.tmp 17)), 9, none⟩,
          ⟨some 19, (.call { callee := (.value (.func 158)), args := #[(.tmp 18)], argTypes := #[9] }), 4, none⟩,
          ⟨some 20, (.unOp .not 4 (.tmp 19)), 4, none⟩,
          ⟨some 21, (.move (.tmp 20)), 4, none⟩,
          ⟨some 22, (.move (.tmp 3)), 3, some (some 21, false)⟩,
          ⟨some 23, (.binOp .gtr 3 (.tmp 22) (.const (.int .i64 0)) 3), 4, some (some 21, false)⟩,
          ⟨some 24, (.move (.tmp 23)), 4, some (some 21, false)⟩,
          ⟨some 25, (.fieldAddr 100 (.tmp 1) 0), 0, some (some 24, true)⟩,
          ⟨some 26, (.load 98 (.tmp 25)), 98, some (some 24, true)⟩,
          ⟨some 27, (.move (.tmp 3)), 3, some (some 24, true)⟩,
          ⟨some 28, (.binOp .sub 3 (.tmp 27) (.const (.int .i64 1)) 3), 3, some (some 24, true)⟩,
          ⟨some 29, (.indexAddr 98 (.tmp 26) (.tmp 28)), 0, some (some 24, true)⟩,
          ⟨some 30, (.fieldAddr 157 (.tmp 29) 0), 0, some (some 24, true)⟩,
          ⟨some 31, (.load 9 (.tmp 30)), 9, some (some 24, true)⟩,
          ⟨some 32, (.fieldAddr 157 (.tmp 4) 0), 0, some (some 24, true)⟩,
          ⟨some 33, (.load 9 (.tmp 32)), 9, some (some 24, true)⟩,
          ⟨some 34, (.binOp .geq 9 (.tmp 31) (.tmp 33) 9), 4, some (some 24, true)⟩,
          ⟨some 35, (.pick (.tmp 24) (.tmp 34) (.const (.bool false))), 4, some (some 21, false)⟩,
          ⟨some 36, (.pick (.tmp 21) (.const (.bool true)) (.tmp 35)), 4, none⟩,
          ⟨some 37, (.move (.tmp 36)), 4, none⟩,
          ⟨some 38, (.fieldAddr 157 (.tmp 4) 1), 0, some (some 37, false)⟩,
          ⟨some 39, (.load 24 (.tmp 38)), 24, some (some 37, false)⟩,
          ⟨some 40, (.call { callee := (.value (.func 39)), args := #[(.tmp 39)], argTypes := #[24] }), 4, some (some 37, false)⟩,
          ⟨some 41, (.unOp .not 4 (.tmp 40)), 4, some (some 37, false)⟩,
          ⟨some 42, (.pick (.tmp 37) (.const (.bool true)) (.tmp 41)), 4, none⟩,
          ⟨some 43, (.move (.tmp 42)), 4, none⟩,
          ⟨some 44, (.fieldAddr 157 (.tmp 4) 1), 0, some (some 43, false)⟩,
          ⟨some 45, (.fieldAddr 24 (.tmp 44) 1), 0, some (some 43, false)⟩,
          ⟨some 46, (.load 22 (.tmp 45)), 22, some (some 43, false)⟩,
          ⟨some 47, (.call { callee := (.builtin .len), args := #[(.tmp 46)], argTypes := #[22] }), 3, some (some 43, false)⟩,
          ⟨some 48, (.binOp .gtr 3 (.tmp 47) (.const (.int .i64 16)) 3), 4, some (some 43, false)⟩,
          ⟨some 49, (.pick (.tmp 43) (.const (.bool true)) (.tmp 48)), 4, none⟩,
          ⟨some 50, (.move (.tmp 49)), 4, none⟩,
          ⟨some 51, (.fieldAddr 157 (.tmp 4) 1), 0, some (some 50, false)⟩,
          ⟨some 52, (.fieldAddr 24 (.tmp 51) 0), 0, some (some 50, false)⟩,
          ⟨some 53, (.load 3 (.tmp 52)), 3, some (some 50, false)⟩,
          ⟨some 54, (.binOp .lss 3 (.tmp 53) (.const (.int .i64 1)) 3), 4, some (some 50, false)⟩,
          ⟨some 55, (.pick (.tmp 50) (.const (.bool true)) (.tmp 54)), 4, none⟩])
        (.cond (.tmp 55)
          (.seq (.rgn [] [⟨some 2, (.assign (.const (.bool false))), 4, none⟩])
          .ret)
          .skip))))
      (.rgn [] [⟨some 10, (.move (.tmp 3)), 3, none⟩,
        ⟨some 11, (.binOp .add 3 (.tmp 10) (.const (.int .i64 1)) 3), 3, none⟩,
        ⟨some 3, (.assign (.tmp 11)), 3, none⟩]))))))
  (.seq (.rgn [] [⟨some 56, (.fieldAddr 100 (.tmp 1) 0), 0, none⟩,
    ⟨some 57, (.load 98 (.tmp 56)), 98, none⟩,
    ⟨some 58, (.call { callee := (.builtin .len), args := #[(.tmp 57)], argTypes := #[98] }), 3, none⟩,
    ⟨some 59, (.binOp .leq 3 (.tmp 58) (.const (.int .i64 6)) 3), 4, none⟩,
    ⟨some 2, (.assign (.tmp 59)), 4, none⟩])
  .ret)))
theorem lit120 : Lit Try.prog 120 60 [1, 4] [.tmp 2] c120 := ⟨⟨Try.f120, _, Try.func120, rfl, by kernel_rfl, rfl, rfl, by kernel_rfl, by kernel_rfl⟩, by decide, by kernel_rfl⟩
/-- laws.toDatabaseS -/
def c121 : LC :=
  (.seq (.rgn [] [⟨some 2, (.assign (.const (.slice none 0 0))), 76, none⟩])
  (.seq (.rgn [3, 7] [⟨some 5, (.move (.tmp 0)), 71, none⟩,
    ⟨some 6, (.call { callee := (.builtin .len), args := #[(.tmp 5)], argTypes := #[71] }), 3, none⟩,
    ⟨some 7, (.makeSlice 76 (.tmp 6) (.tmp 6)), 76, none⟩,
    ⟨some 3, (.assign (.tmp 7)), 76, none⟩])
  (.seq (.seq (.rgn [] [⟨some 4, (.assign (.const (.int .i64 0))), 3, none⟩])
  (.blk 0
    (.loop []
      (.seq (.seq (.rgn [] [⟨some 8, (.move (.tmp 4)), 3, none⟩,
        ⟨some 9, (.move (.tmp 0)), 71, none⟩,
        ⟨some 10, (.call { callee := (.builtin .len), args := #[(.tmp 9)], argTypes := #[71] }), 3, none⟩,
        ⟨some 11, (.binOp .lss 3 (.tmp 8) (.tmp 10) 3), 4, none⟩])
      (.cond (.tmp 11)
        .skip
        (.exit 0)))
      (.seq (.blk 1
        (.rgn [] [⟨some 14, (.move (.tmp 3)), 76, none⟩,
          ⟨some 15, (.move (.tmp 4)), 3, none⟩,
          ⟨some 16, (.move (.tmp 0)), 71, none⟩,
          ⟨some 17, (.move (.tmp 4)), 3, none⟩,
          ⟨some 18, (.indexAddr 71 (.tmp 16) (.tmp 17)), 0, none⟩,
          ⟨some 19, (.load 95 (.tmp 18)), 95, none⟩,
          ⟨some 20, (.call { callee := (.value (.func 61)), args := #[(.tmp 19)], argTypes := #[95] }), 100, none⟩,
          ⟨some 21, (.indexAddr 76 (.tmp 14) (.tmp 15)), 0, none⟩,
          ⟨none, (.store 100 (.tmp 21) (.tmp 20)), 0, none⟩]))
      (.rgn [] [⟨some 12, (.move (.tmp 4)), 3, none⟩,
        ⟨some 13, (.binOp .add 3 (.tmp 12) (.const (.int .i64 1)) 3), 3, none⟩,
        ⟨some 4, (.assign (.tmp 13)), 3, none⟩]))))))
  (.seq (.rgn [22] [⟨some 22, (.move (.tmp 3)), 76, none⟩,
    ⟨some 2, (.assign (.tmp 22)), 76, none⟩])
  .ret))))
theorem lit121 : Lit Try.prog 121 23 [3, 7] [.tmp 2] c121 := ⟨⟨Try.f121, _, Try.func121, rfl, by kernel_rfl, rfl, rfl, by kernel_rfl, by kernel_rfl⟩, by decide, by kernel_rfl⟩
/-- impl.IsValidDatabase -/
def c122 : LC :=
  (.seq (.rgn [] [⟨some 1, (.box 100 (.tmp 0)), 0, none⟩,
    ⟨some 2, (.assign (.const (.bool false))), 4, none⟩])
  (.seq (.seq (.rgn [] [⟨some 5, (.fieldAddr 100 (.tmp 1) 0), 0, none⟩,
    ⟨some 6, (.load 98 (.tmp 5)), 98, none⟩,
    ⟨some 7, (.call { callee := (.builtin .len), args := #[(.tmp 6)], argTypes := #[98] }), 3, none⟩,
    ⟨some 8, (.binOp .gtr 3 (.tmp 7) (.const (.int .i64 6)) 3), 4, none⟩])
  (.cond (.tmp 8)
    (.seq (.rgn [] [⟨some 2, (.assign (.const (.bool false))), 4, none⟩])
    .ret)
    .skip))
  (.seq (.seq (.rgn [] [⟨some 9, (.fieldAddr 100 (.tmp 1) 0), 0, none⟩,
    ⟨some 10, (.load 98 (.tmp 9)), 98, none⟩,
    ⟨some 11, (.call { callee := (.builtin .len), args := #[(.tmp 10)], argTypes := #[98] }), 3, none⟩,
    ⟨some 12, (.move (.const (.int .i64 0))), 3, none⟩])
  (.blk 0
    (.loop [4]
      (.seq (.rgn [] [⟨some 13, (.binOp .lss 3 (.tmp 12) (.tmp 11) 3), 0, none⟩])
      (.seq (.cond (.tmp 13)
        .skip
        (.exit 0))
      (.seq (.blk 1
        (.seq (.rgn [16] [⟨some 14, (.move (.tmp 12)), 3, none⟩,
          ⟨some 15, (.indexAddr 98 (.tmp 10) (.tmp 12)), 0, none⟩,
          ⟨some 16, (.load 157 (.tmp 15)), 157, none⟩,
          ⟨some 4, (.alloc 157), 0, none⟩,
          ⟨some 3, (.assign (.tmp 14)), 3, none⟩,
          ⟨none, (.store 157 (.tmp 4) (.tmp 16)), 0, none⟩])
        (.seq (.drw [] [([4], [17]), ([4, 17], [18]), ([18], [19]), ([19], [20]), ([20], [21]), ([3, 21], [22]), ([21, 22], [23]), ([21, 23], [24]), ([1, 24], [25]), ([1, 24, 25], [26]), ([3, 24], [27]), ([24, 27], [28]), ([24, 26, 28], [29]), ([24, 29], [30]), ([24, 30], [31]), ([4, 24], [32]), ([4, 24, 32], [33]), ([24, 31, 33], [34]), ([21, 24, 34], [35]), ([21, 35], [36]), ([36], [37]), ([4, 37], [38]), ([4, 37, 38], [39]), ([37, 39], [40]), ([37, 40], [41]), ([37, 41], [42]), ([42], [43]), ([4, 43], [44]), ([4, 43, 44], [45]), ([4, 43, 45], [46]), ([43, 46], [47]), ([43, 47], [48]), ([48], [49]), ([4, 49], [50]), ([4, 49, 50], [51]), ([4, 49, 51], [52]), ([49, 52], [53]), ([49, 53], [54]), ([49, 54], [55])] [[], [0], [1], [2], [3, 2], [4], [5, 4], [6, 4, 4], [7], [8, 7], [7], [10, 7], [9, 11, 7], [12, 7], [13, 7], [7], [15, 7], [14, 16, 7], [7, 17, 4], [4, 18], [19, 7], [20], [21, 20], [22, 20, 20], [23, 20], [20, 24], [25, 23], [26], [27, 26], [28, 26], [29, 26], [26, 30], [31, 26], [32], [33, 32], [34, 32], [35, 32], [36, 32], [32, 37]] [⟨some 17, (.fieldAddr 157 (.tmp 4) 0), 0, none⟩,
          ⟨some 18, (.load 9 (.tmp 17)), 9, none⟩,
          ⟨some 19, (.call { callee := (.value (.func 159)), args := #[(.tmp 18)], argTypes := #[9] }), 4, none⟩,
          ⟨some 20, (.unOp .not 4 (.tmp 19)), 4, none⟩,
          ⟨some 21, (.move (.tmp 20)), 4, none⟩,
          ⟨some 22, (.move (.tmp 3)), 3, some (some 21, false)⟩,
          ⟨some 23, (.binOp .gtr 3 (.tmp 22) (.const (.int .i64 0)) 3), 4, some (some 21, false)⟩,
          ⟨some 24, (.move (.tmp 23)), 4, some (some 21, false)⟩,
          ⟨some 25, (.fieldAddr 100 (.tmp 1) 0), 0, some (some 24, true)⟩,
          ⟨some 26, (.load 98 (.tmp 25)), 98, some (some 24, true)⟩,
          ⟨some 27, (.move (.tmp 3)), 3, some (some 24, true)⟩,
          ⟨some 28, (.binOp .sub 3 (.tmp 27) (.const (.int .i64 1)) 3), 3, some (some 24, true)⟩,
          ⟨some 29, (.indexAddr 98 (.tmp 26) (.tmp 28)), 0, some (some 24, true)⟩,
          ⟨some 30, (.fieldAddr 157 (.tmp 29) 0), 0, some (some 24, true)⟩,
          ⟨some 31, (.load 9 (.tmp 30)), 9, some (some 24, true)⟩,
          ⟨some 32, (.fieldAddr 157 (.tmp 4) 0), 0, some (some 24, true)⟩,
          ⟨some 33, (.load 9 (.tmp 32)), 9, some (some 24, true)⟩,
          ⟨some 34, (.binOp .geq 9 (.tmp 31) (.tmp 33) 9), 4, some (some 24, true)⟩,
          ⟨some 35, (.pick (.tmp 24) (.tmp 34) (.const (.bool false))), 4, some (some 21, false)⟩,
          ⟨some 36, (.pick (.tmp 21) (.const (.bool true)) (.tmp 35)), 4, none⟩,
          ⟨some 37, (.move (.tmp 36)), 4, none⟩,
          ⟨some 38, (.fieldAddr 157 (.tmp 4) 1), 0, some (some 37, false)⟩,
          ⟨some 39, (.load 24 (.tmp 38)), 24, some (some 37, false)⟩,
          ⟨some 40, (.call { callee := (.value (.func 103)), args := #[(.tmp 39)], argTypes := #[24] }), 4, some (some 37, false)⟩,
          ⟨some 41, (.unOp .not 4 (.tmp 40)), 4, some (some 37, false)⟩,
          ⟨some 42, (.pick (.tmp 37) (.const (.bool true)) (.tmp 41)), 4, none⟩,
          ⟨some 43, (.move (.tmp 42)), 4, none⟩,
          ⟨some 44, (.fieldAddr 157 (.tmp 4) 1), 0, some (some 43, false)⟩,
          ⟨some 45, (.fieldAddr 24 (.tmp 44) 0), 0, some (some 43, false)⟩,
          ⟨some 46, (.load 3 (.tmp 45)), 3, some (some 43, false)⟩,
          ⟨some 47, (.binOp .lss 3 (.tmp 46) (.const (.int .i64 1)) 3), 4, some (some 43, false)⟩,
          ⟨some 48, (.pick (.tmp 43) (.const (.bool true)) (.tmp 47)), 4, none⟩,
          ⟨some 49, (.move (.tmp 48)), 4, none⟩,
          ⟨some 50, (.fieldAddr 157 (.tmp 4) 1), 0, some (some 49, false)⟩,
          ⟨some 51, (.fieldAddr 24 (.tmp 50) 1), 0, some (some 49, false)⟩,
          ⟨some 52, (.load 22 (.tmp 51)), 22, some (some 49, false)⟩,
          ⟨some 53, (.call { callee := (.builtin .len), args := #[(.tmp 52)], argTypes := #[22] }), 3, some (some 49, false)⟩,
          ⟨some 54, (.binOp .gtr 3 (.tmp 53) (.const (.int .i64 16)) 3), 4, some (some 49, false)⟩,
          ⟨some 55, (.pick (.tmp 49) (.const (.bool true)) (.tmp 54)), 4, none⟩])
        (.cond (.tmp 55)
          (.seq (.rgn [] [⟨some 2, (.assign (.const (.bool false))), 4, none⟩])
          .ret)
          .skip))))
      (.rgn [] [⟨some 56, (.binOp .add 3 (.tmp 12) (.const (.int .i64 1)) 3), 3, none⟩,
        ⟨some 12, (.move (.tmp 56)), 3, none⟩])))))))
  (.seq (.rgn [] [⟨some 2, (.assign (.const (.bool true))), 4, none⟩])
  .ret))))
theorem lit122 : Lit Try.prog 122 57 [1, 4] [.tmp 2] c122 := ⟨⟨Try.f122, _, Try.func122, rfl, by kernel_rfl, rfl, rfl, by kernel_rfl, by kernel_rfl⟩, by decide, by kernel_rfl⟩
/-- laws.eqDatabaseS -/
def c123 : LC :=
  (.seq (.rgn [] [⟨some 4, (.assign (.const (.bool false))), 4, none⟩])
  (.seq (.seq (.rgn [] [⟨some 6, (.move (.tmp 0)), 76, none⟩,
    ⟨some 7, (.call { callee := (.builtin .len), args := #[(.tmp 6)], argTypes := #[76] }), 3, none⟩,
    ⟨some 8, (.move (.tmp 1)), 76, none⟩,
    ⟨some 9, (.call { callee := (.builtin .len), args := #[(.tmp 8)], argTypes := #[76] }), 3, none⟩,
    ⟨some 10, (.binOp .neq 3 (.tmp 7) (.tmp 9) 3), 4, none⟩])
  (.cond (.tmp 10)
    (.seq (.rgn [] [⟨some 4, (.assign (.const (.bool false))), 4, none⟩])
    .ret)
    .skip))
  (.seq (.seq (.rgn [] [⟨some 5, (.assign (.const (.int .i64 0))), 3, none⟩])
  (.blk 0
    (.loop []
      (.seq (.seq (.rgn [] [⟨some 11, (.move (.tmp 5)), 3, none⟩,
        ⟨some 12, (.move (.tmp 0)), 76, none⟩,
        ⟨some 13, (.call { callee := (.builtin .len), args := #[(.tmp 12)], argTypes := #[76] }), 3, none⟩,
        ⟨some 14, (.binOp .lss 3 (.tmp 11) (.tmp 13) 3), 4, none⟩])
      (.cond (.tmp 14)
        .skip
        (.exit 0)))
      (.seq (.blk 1
        (.seq (.drw [] [([0], [17]), ([5], [18]), ([17, 18], [19]), ([19], [20]), ([1], [21]), ([5], [22]), ([21, 22], [23]), ([23], [24]), ([20, 24], [25]), ([25], [26])] [[], [], [0, 1], [2], [], [], [4, 5], [6], [3, 7], [8]] [⟨some 17, (.move (.tmp 0)), 76, none⟩,
          ⟨some 18, (.move (.tmp 5)), 3, none⟩,
          ⟨some 19, (.indexAddr 76 (.tmp 17) (.tmp 18)), 0, none⟩,
          ⟨some 20, (.load 100 (.tmp 19)), 100, none⟩,
          ⟨some 21, (.move (.tmp 1)), 76, none⟩,
          ⟨some 22, (.move (.tmp 5)), 3, none⟩,
          ⟨some 23, (.indexAddr 76 (.tmp 21) (.tmp 22)), 0, none⟩,
          ⟨some 24, (.load 100 (.tmp 23)), 100, none⟩,
          ⟨some 25, (.call { callee := (.value (.func 63)), args := #[(.tmp 20), (.tmp 24)], argTypes := #[100, 100] }), 4, none⟩,
          ⟨some 26, (.unOp .not 4 (.tmp 25)), 4, none⟩])
        (.cond (.tmp 26)
          (.seq (.rgn [] [⟨some 4, (.assign (.const (.bool false))), 4, none⟩])
          .ret)
          .skip)))
      (.rgn [] [⟨some 15, (.move (.tmp 5)), 3, none⟩,
        ⟨some 16, (.binOp .add 3 (.tmp 15) (.const (.int .i64 1)) 3), 3, none⟩,
        ⟨some 5, (.assign (.tmp 16)), 3, none⟩]))))))
  (.seq (.rgn [] [⟨some 4, (.assign (.const (.bool true))), 4, none⟩])
  .ret))))
theorem lit123 : Lit Try.prog 123 27 [] [.tmp 4] c123 := ⟨⟨Try.f123, _, Try.func123, rfl, by kernel_rfl, rfl, rfl, by kernel_rfl, by kernel_rfl⟩, by decide, by kernel_rfl⟩
/-- spec.IsValidQuery -/
def c124 : LC :=
  (.seq (.rgn [] [⟨some 1, (.box 56 (.tmp 0)), 0, none⟩,
    ⟨some 2, (.assign (.const (.bool false))), 4, none⟩])
  (.seq (.seq (.rgn [] [⟨some 9, (.fieldAddr 56 (.tmp 1) 0), 0, none⟩,
    ⟨some 10, (.load 3 (.tmp 9)), 3, none⟩,
    ⟨some 11, (.call { callee := (.value (.func 80)), args := #[(.tmp 10), (.const (.int .i64 1)), (.const (.int .i64 5))], argTypes := #[3, 3, 3] }), 4, none⟩,
    ⟨some 12, (.unOp .not 4 (.tmp 11)), 4, none⟩,
    ⟨some 13, (.move (.tmp 12)), 4, none⟩,
    ⟨some 14, (.fieldAddr 56 (.tmp 1) 1), 0, some (some 13, false)⟩,
    ⟨some 15, (.load 54 (.tmp 14)), 54, some (some 13, false)⟩,
    ⟨some 16, (.call { callee := (.builtin .len), args := #[(.tmp 15)], argTypes := #[54] }), 3, some (some 13, false)⟩,
    ⟨some 17, (.call { callee := (.value (.func 80)), args := #[(.tmp 16), (.const (.int .i64 1)), (.const (.int .i64 4))], argTypes := #[3, 3, 3] }), 4, some (some 13, false)⟩,
    ⟨some 18, (.unOp .not 4 (.tmp 17)), 4, some (some 13, false)⟩,
    ⟨some 19, (.pick (.tmp 13) (.const (.bool true)) (.tmp 18)), 4, none⟩,
    ⟨some 20, (.move (.tmp 19)), 4, none⟩,
    ⟨some 21, (.fieldAddr 56 (.tmp 1) 2), 0, some (some 20, false)⟩,
    ⟨some 22, (.load 30 (.tmp 21)), 30, some (some 20, false)⟩,
    ⟨some 23, (.call { callee := (.builtin .len), args := #[(.tmp 22)], argTypes := #[30] }), 3, some (some 20, false)⟩,
    ⟨some 24, (.fieldAddr 56 (.tmp 1) 0), 0, some (some 20, false)⟩,
    ⟨some 25, (.load 3 (.tmp 24)), 3, some (some 20, false)⟩,
    ⟨some 26, (.binOp .gtr 3 (.tmp 23) (.tmp 25) 3), 4, some (some 20, false)⟩,
    ⟨some 27, (.pick (.tmp 20) (.const (.bool true)) (.tmp 26)), 4, none⟩])
  (.cond (.tmp 27)
    (.seq (.rgn [] [⟨some 2, (.assign (.const (.bool false))), 4, none⟩])
    .ret)
    .skip))
  (.seq (.seq (.rgn [] [⟨some 3, (.assign (.const (.int .i64 0))), 3, none⟩])
  (.blk 0
    (.loop []
      (.seq (.seq (.rgn [] [⟨some 28, (.move (.tmp 3)), 3, none⟩,
        ⟨some 29, (.fieldAddr 56 (.tmp 1) 1), 0, none⟩,
        ⟨some 30, (.load 54 (.tmp 29)), 54, none⟩,
        ⟨some 31, (.call { callee := (.builtin .len), args := #[(.tmp 30)], argTypes := #[54] }), 3, none⟩,
        ⟨some 32, (.binOp .lss 3 (.tmp 28) (.tmp 31) 3), 4, none⟩])
      (.cond (.tmp 32)
        .skip
        (.exit 0)))
      (.seq (.blk 1
        (.seq (.seq (.rgn [] [⟨some 35, (.fieldAddr 56 (.tmp 1) 1), 0, none⟩,
          ⟨some 36, (.load 54 (.tmp 35)), 54, none⟩,
          ⟨some 37, (.move (.tmp 3)), 3, none⟩,
          ⟨some 38, (.indexAddr 54 (.tmp 36) (.tmp 37)), 0, none⟩,
          ⟨some 39, (.fieldAddr 150 (.tmp 38) 0), 0, none⟩,
          ⟨some 40, (.load 9 (.tmp 39)), 9, none⟩,
          ⟨some 41, (.call { callee := (.value (.func 158)), args := #[(.tmp 40)], argTypes := #[9] }), 4, none⟩,
          ⟨some 42, (.unOp .not 4 (.tmp 41)), 4, none⟩,
          ⟨some 43, (.move (.tmp 42)), 4, none⟩,
          ⟨some 44, (.fieldAddr 56 (.tmp 1) 1), 0, some (some 43, false)⟩,
          ⟨some 45, (.load 54 (.tmp 44)), 54, some (some 43, false)⟩,
          ⟨some 46, (.move (.tmp 3)), 3, some (some 43, false)⟩,
          ⟨some 47, (.indexAddr 54 (.tmp 45) (.tmp 46)), 0, some (some 43, false)⟩,
          ⟨some 48, (.fieldAddr 150 (.tmp 47) 1), 0, some (some 43, false)⟩,
          ⟨some 49, (.load 30 (.tmp 48)), 30, some (some 43, false)⟩,
          ⟨some 50, (.call { callee := (.builtin .len), args := #[(.tmp 49)], argTypes := #[30] }), 3, some (some 43, false)⟩,
          ⟨some 51, (.call { callee := (.value (.func 80)), args := #[(.tmp 50), (.const (.int .i64 1)), (.const (.int .i64 5))], argTypes := #[3, 3, 3] }), 4, some (some 43, false)⟩,
          ⟨some 52, (.unOp .not 4 (.tmp 51)), 4, some (some 43, false)⟩,
          ⟨some 53, (.pick (.tmp 43) (.const (.bool true)) (.tmp 52)), 4, none⟩])
        (.cond (.tmp 53)
          (.seq (.rgn [] [⟨some 2, (.assign (.const (.bool false))), 4, none⟩])
          .ret)
          .skip))
        (.seq (.rgn [] [⟨some 4, (.assign (.const (.int .i64 0))), 3, none⟩])
        (.blk 2
          (.loop []
            (.seq (.seq (.rgn [] [⟨some 54, (.move (.tmp 4)), 3, none⟩,
              ⟨some 55, (.fieldAddr 56 (.tmp 1) 1), 0, none⟩,
              ⟨some 56, (.load 54 (.tmp 55)), 54, none⟩,
              ⟨some 57, (.move (.tmp 3)), 3, none⟩,
              ⟨some 58, (.indexAddr 54 (.tmp 56) (.tmp 57)), 0, none⟩,
              ⟨some 59, (.fieldAddr 150 (.tmp 58) 1), 0, none⟩,
              ⟨some 60, (.load 30 (.tmp 59)), 30, none⟩,
              ⟨some 61, (.call { callee := (.builtin .len), args := #[(.tmp 60)], argTypes := #[30] }), 3, none⟩,
              ⟨some 62, (.binOp .lss 3 (.tmp 54) (.tmp 61) 3), 4, none⟩])
            (.cond (.tmp 62)
              .skip
              (.exit 2)))
            (.seq (.blk 3
              (.seq (.drw [] [([1], [65]), ([1, 65], [66]), ([3], [67]), ([66, 67], [68]), ([68], [69]), ([69], [70]), ([4], [71]), ([70, 71], [72]), ([72], [73]), ([1], [74]), ([1, 74], [75]), ([75], [76]), ([73, 76], [77]), ([77], [78])] [[], [0], [], [1, 2], [3], [4], [], [5, 6], [7], [], [9], [10], [8, 11], [12]] [⟨some 65, (.fieldAddr 56 (.tmp 1) 1), 0, none⟩,
                ⟨some 66, (.load 54 (.tmp 65)), 54, none⟩,
                ⟨some 67, (.move (.tmp 3)), 3, none⟩,
                ⟨some 68, (.indexAddr 54 (.tmp 66) (.tmp 67)), 0, none⟩,
                ⟨some 69, (.fieldAddr 150 (.tmp 68) 1), 0, none⟩,
                ⟨some 70, (.load 30 (.tmp 69)), 30, none⟩,
                ⟨some 71, (.move (.tmp 4)), 3, none⟩,
                ⟨some 72, (.indexAddr 30 (.tmp 70) (.tmp 71)), 0, none⟩,
                ⟨some 73, (.load 3 (.tmp 72)), 3, none⟩,
                ⟨some 74, (.fieldAddr 56 (.tmp 1) 0), 0, none⟩,
                ⟨some 75, (.load 3 (.tmp 74)), 3, none⟩,
                ⟨some 76, (.binOp .sub 3 (.tmp 75) (.const (.int .i64 1)) 3), 3, none⟩,
                ⟨some 77, (.call { callee := (.value (.func 80)), args := #[(.tmp 73), (.const (.int .i64 0)), (.tmp 76)], argTypes := #[3, 3, 3] }), 4, none⟩,
                ⟨some 78, (.unOp .not 4 (.tmp 77)), 4, none⟩])
              (.cond (.tmp 78)
                (.seq (.rgn [] [⟨some 2, (.assign (.const (.bool false))), 4, none⟩])
                .ret)
                .skip)))
            (.rgn [] [⟨some 63, (.move (.tmp 4)), 3, none⟩,
              ⟨some 64, (.binOp .add 3 (.tmp 63) (.const (.int .i64 1)) 3), 3, none⟩,
              ⟨some 4, (.assign (.tmp 64)), 3, none⟩]))))))))
      (.rgn [] [⟨some 33, (.move (.tmp 3)), 3, none⟩,
        ⟨some 34, (.binOp .add 3 (.tmp 33) (.const (.int .i64 1)) 3), 3, none⟩,
        ⟨some 3, (.assign (.tmp 34)), 3, none⟩]))))))
  (.seq (.seq (.rgn [] [⟨some 5, (.assign (.const (.int .i64 0))), 3, none⟩])
  (.blk 4
    (.loop []
      (.seq (.seq (.rgn [] [⟨some 79, (.move (.tmp 5)), 3, none⟩,
        ⟨some 80, (.fieldAddr 56 (.tmp 1) 0), 0, none⟩,
        ⟨some 81, (.load 3 (.tmp 80)), 3, none⟩,
        ⟨some 82, (.binOp .lss 3 (.tmp 79) (.tmp 81) 3), 4, none⟩])
      (.cond (.tmp 82)
        .skip
        (.exit 4)))
      (.seq (.blk 5
        (.seq (.rgn [] [⟨some 6, (.assign (.const (.bool false))), 4, none⟩])
        (.seq (.seq (.rgn [] [⟨some 7, (.assign (.const (.int .i64 0))), 3, none⟩])
        (.blk 6
          (.loop []
            (.seq (.seq (.rgn [] [⟨some 85, (.move (.tmp 7)), 3, none⟩,
              ⟨some 86, (.fieldAddr 56 (.tmp 1) 1), 0, none⟩,
              ⟨some 87, (.load 54 (.tmp 86)), 54, none⟩,
              ⟨some 88, (.call { callee := (.builtin .len), args := #[(.tmp 87)], argTypes := #[54] }), 3, none⟩,
              ⟨some 89, (.binOp .lss 3 (.tmp 85) (.tmp 88) 3), 4, none⟩])
            (.cond (.tmp 89)
              .skip
              (.exit 6)))
            (.seq (.blk 7
              (.rgn [] [⟨some 92, (.move (.tmp 6)), 4, none⟩,
                ⟨some 93, (.move (.tmp 92)), 4, none⟩,
                ⟨some 94, (.fieldAddr 56 (.tmp 1) 1), 0, some (some 93, false)⟩,
                ⟨some 95, (.load 54 (.tmp 94)), 54, some (some 93, false)⟩,
                ⟨some 96, (.move (.tmp 7)), 3, some (some 93, false)⟩,
                ⟨some 97, (.indexAddr 54 (.tmp 95) (.tmp 96)), 0, some (some 93, false)⟩,
                ⟨some 98, (.load 150 (.tmp 97)), 150, some (some 93, false)⟩,
                ⟨some 99, (.move (.tmp 5)), 3, some (some 93, false)⟩,
                ⟨some 100, (.call { callee := (.value (.func 160)), args := #[(.tmp 98), (.tmp 99)], argTypes := #[150, 3] }), 4, some (some 93, false)⟩,
                ⟨some 101, (.pick (.tmp 93) (.const (.bool true)) (.tmp 100)), 4, none⟩,
                ⟨some 6, (.assign (.tmp 101)), 4, none⟩]))
            (.rgn [] [⟨some 90, (.move (.tmp 7)), 3, none⟩,
              ⟨some 91, (.binOp .add 3 (.tmp 90) (.const (.int .i64 1)) 3), 3, none⟩,
              ⟨some 7, (.assign (.tmp 91)), 3, none⟩]))))))
        (.seq (.rgn [] [⟨some 102, (.move (.tmp 6)), 4, none⟩,
          ⟨some 103, (.unOp .not 4 (.tmp 102)), 4, none⟩])
        (.cond (.tmp 103)
          (.seq (.rgn [] [⟨some 2, (.assign (.const (.bool false))), 4, none⟩])
          .ret)
          .skip)))))
      (.rgn [] [⟨some 83, (.move (.tmp 5)), 3, none⟩,
        ⟨some 84, (.binOp .add 3 (.tmp 83) (.const (.int .i64 1)) 3), 3, none⟩,
        ⟨some 5, (.assign (.tmp 84)), 3, none⟩]))))))
  (.seq (.seq (.rgn [] [⟨some 8, (.assign (.const (.int .i64 0))), 3, none⟩])
  (.blk 8
    (.loop []
      (.seq (.seq (.rgn [] [⟨some 104, (.move (.tmp 8)), 3, none⟩,
        ⟨some 105, (.fieldAddr 56 (.tmp 1) 2), 0, none⟩,
        ⟨some 106, (.load 30 (.tmp 105)), 30, none⟩,
        ⟨some 107, (.call { callee := (.builtin .len), args := #[(.tmp 106)], argTypes := #[30] }), 3, none⟩,
        ⟨some 108, (.binOp .lss 3 (.tmp 104) (.tmp 107) 3), 4, none⟩])
      (.cond (.tmp 108)
        .skip
        (.exit 8)))
      (.seq (.blk 9
        (.seq (.drw [] [([1], [111]), ([1, 111], [112]), ([8], [113]), ([112, 113], [114]), ([114], [115]), ([1], [116]), ([1, 116], [117]), ([117], [118]), ([115, 118], [119]), ([119], [120]), ([120], [121]), ([1, 121], [122]), ([1, 121, 122], [123]), ([8, 121], [124]), ([121, 123, 124], [125]), ([1, 121], [126]), ([1, 121, 126], [127]), ([8, 121], [128]), ([121, 127, 128], [129]), ([121, 129], [130]), ([121, 125, 130], [131]), ([121, 131], [132]), ([121, 132], [133])] [[], [0], [], [1, 2], [3], [], [5], [6], [4, 7], [8], [9, 8], [10], [11, 10], [10], [12, 13, 10], [10], [15, 10], [10], [16, 17, 10], [18, 10], [14, 19, 10, 10], [20, 10], [10, 21]] [⟨some 111, (.fieldAddr 56 (.tmp 1) 2), 0, none⟩,
          ⟨some 112, (.load 30 (.tmp 111)), 30, none⟩,
          ⟨some 113, (.move (.tmp 8)), 3, none⟩,
          ⟨some 114, (.indexAddr 30 (.tmp 112) (.tmp 113)), 0, none⟩,
          ⟨some 115, (.load 3 (.tmp 114)), 3, none⟩,
          ⟨some 116, (.fieldAddr 56 (.tmp 1) 0), 0, none⟩,
          ⟨some 117, (.load 3 (.tmp 116)), 3, none⟩,
          ⟨some 118, (.binOp .sub 3 (.tmp 117) (.const (.int .i64 1)) 3), 3, none⟩,
          ⟨some 119, (.call { callee := (.value (.func 80)), args := #[(.tmp 115), (.const (.int .i64 0)), (.tmp 118)], argTypes := #[3, 3, 3] }), 4, none⟩,
          ⟨some 120, (.unOp .not 4 (.tmp 119)), 4, none⟩,
          ⟨some 121, (.move (.tmp 120)), 4, none⟩,
          ⟨some 122, (.fieldAddr 56 (.tmp 1) 2), 0, some (some 121, false)⟩,
          ⟨some 123, (.load 30 (.tmp 122)), 30, some (some 121, false)⟩,
          ⟨some 124, (.move (.tmp 8)), 3, some (some 121, false)⟩,
          ⟨some 125, (.slice 30 (.tmp 123) none (some (.tmp 124)) none), 30, some (some 121, false)⟩,
          ⟨some 126, (.fieldAddr 56 (.tmp 1) 2), 0, some (some 121, false)⟩,
          ⟨some 127, (.load 30 (.tmp 126)), 30, some (some 121, false)⟩,
          ⟨some 128, (.move (.tmp 8)), 3, some (some 121, false)⟩,
          ⟨some 129, (.indexAddr 30 (.tmp 127) (.tmp 128)), 0, some (some 121, false)⟩,
          ⟨some 130, (.load 3 (.tmp 129)), 3, some (some 121, false)⟩,
          ⟨some 131, (.call { callee := (.value (.func 101)), args := #[(.tmp 125), (.tmp 130)], argTypes := #[30, 3] }), 3, some (some 121, false)⟩,
          ⟨some 132, (.binOp .geq 3 (.tmp 131) (.const (.int .i64 0)) 3), 4, some (some 121, false)⟩,
          ⟨some 133, (.pick (.tmp 121) (.const (.bool true)) (.tmp 132)), 4, none⟩])
        (.cond (.tmp 133)
          (.seq (.rgn [] [⟨some 2, (.assign (.const (.bool false))), 4, none⟩])
          .ret)
          .skip)))
      (.rgn [] [⟨some 109, (.move (.tmp 8)), 3, none⟩,
        ⟨some 110, (.binOp .add 3 (.tmp 109) (.const (.int .i64 1)) 3), 3, none⟩,
        ⟨some 8, (.assign (.tmp 110)), 3, none⟩]))))))
  (.seq (.rgn [] [⟨some 2, (.assign (.const (.bool true))), 4, none⟩])
  .ret))))))
theorem lit124 : Lit Try.prog 124 134 [1] [.tmp 2] c124 := ⟨⟨Try.f124, _, Try.func124, rfl, by kernel_rfl, rfl, rfl, by kernel_rfl, by kernel_rfl⟩, by decide, by kernel_rfl⟩
/-- impl.IsValidQuery -/
def c125 : LC :=
  (.seq (.rgn [] [⟨some 1, (.box 56 (.tmp 0)), 0, none⟩,
    ⟨some 2, (.assign (.const (.bool false))), 4, none⟩])
  (.seq (.rgn [] [⟨some 11, (.fieldAddr 56 (.tmp 1) 0), 0, none⟩,
    ⟨some 12, (.load 3 (.tmp 11)), 3, none⟩,
    ⟨some 3, (.assign (.tmp 12)), 3, none⟩])
  (.seq (.seq (.rgn [] [⟨some 13, (.move (.tmp 3)), 3, none⟩,
    ⟨some 14, (.call { callee := (.value (.func 82)), args := #[(.tmp 13), (.const (.int .i64 1)), (.const (.int .i64 5))], argTypes := #[3, 3, 3] }), 4, none⟩,
    ⟨some 15, (.unOp .not 4 (.tmp 14)), 4, none⟩,
    ⟨some 16, (.move (.tmp 15)), 4, none⟩,
    ⟨some 17, (.fieldAddr 56 (.tmp 1) 1), 0, some (some 16, false)⟩,
    ⟨some 18, (.load 54 (.tmp 17)), 54, some (some 16, false)⟩,
    ⟨some 19, (.call { callee := (.builtin .len), args := #[(.tmp 18)], argTypes := #[54] }), 3, some (some 16, false)⟩,
    ⟨some 20, (.call { callee := (.value (.func 82)), args := #[(.tmp 19), (.const (.int .i64 1)), (.const (.int .i64 4))], argTypes := #[3, 3, 3] }), 4, some (some 16, false)⟩,
    ⟨some 21, (.unOp .not 4 (.tmp 20)), 4, some (some 16, false)⟩,
    ⟨some 22, (.pick (.tmp 16) (.const (.bool true)) (.tmp 21)), 4, none⟩,
    ⟨some 23, (.move (.tmp 22)), 4, none⟩,
    ⟨some 24, (.fieldAddr 56 (.tmp 1) 2), 0, some (some 23, false)⟩,
    ⟨some 25, (.load 30 (.tmp 24)), 30, some (some 23, false)⟩,
    ⟨some 26, (.move (.tmp 3)), 3, some (some 23, false)⟩,
    ⟨some 27, (.call { callee := (.value (.func 161)), args := #[(.tmp 25), (.tmp 26)], argTypes := #[30, 3] }), 4, some (some 23, false)⟩,
    ⟨some 28, (.unOp .not 4 (.tmp 27)), 4, some (some 23, false)⟩,
    ⟨some 29, (.pick (.tmp 23) (.const (.bool true)) (.tmp 28)), 4, none⟩])
  (.cond (.tmp 29)
    (.seq (.rgn [] [⟨some 2, (.assign (.const (.bool false))), 4, none⟩])
    .ret)
    .skip))
  (.seq (.rgn [4, 31] [⟨some 30, (.move (.tmp 3)), 3, none⟩,
    ⟨some 31, (.makeSlice 184 (.tmp 30) (.tmp 30)), 184, none⟩,
    ⟨some 4, (.assign (.tmp 31)), 184, none⟩])
  (.seq (.seq (.rgn [] [⟨some 32, (.fieldAddr 56 (.tmp 1) 1), 0, none⟩,
    ⟨some 33, (.load 54 (.tmp 32)), 54, none⟩,
    ⟨some 34, (.call { callee := (.builtin .len), args := #[(.tmp 33)], argTypes := #[54] }), 3, none⟩,
    ⟨some 35, (.move (.const (.int .i64 0))), 3, none⟩])
  (.blk 0
    (.loop [6]
      (.seq (.rgn [] [⟨some 36, (.binOp .lss 3 (.tmp 35) (.tmp 34) 3), 0, none⟩])
      (.seq (.cond (.tmp 36)
        .skip
        (.exit 0))
      (.seq (.blk 1
        (.seq (.rgn [38] [⟨some 37, (.indexAddr 54 (.tmp 33) (.tmp 35)), 0, none⟩,
          ⟨some 38, (.load 150 (.tmp 37)), 150, none⟩,
          ⟨some 6, (.alloc 150), 0, none⟩,
          ⟨none, (.store 150 (.tmp 6) (.tmp 38)), 0, none⟩])
        (.seq (.seq (.rgn [] [⟨some 39, (.fieldAddr 150 (.tmp 6) 0), 0, none⟩,
          ⟨some 40, (.load 9 (.tmp 39)), 9, none⟩,
          ⟨some 41, (.call { callee := (.value (.func 159)), args := #[(.tmp 40)], argTypes := #[9] }), 4, none⟩,
          ⟨some 42, (.unOp .not 4 (.tmp 41)), 4, none⟩,
          ⟨some 43, (.move (.tmp 42)), 4, none⟩,
          ⟨some 44, (.fieldAddr 150 (.tmp 6) 1), 0, some (some 43, false)⟩,
          ⟨some 45, (.load 30 (.tmp 44)), 30, some (some 43, false)⟩,
          ⟨some 46, (.call { callee := (.builtin .len), args := #[(.tmp 45)], argTypes := #[30] }), 3, some (some 43, false)⟩,
          ⟨some 47, (.call { callee := (.value (.func 82)), args := #[(.tmp 46), (.const (.int .i64 1)), (.const (.int .i64 5))], argTypes := #[3, 3, 3] }), 4, some (some 43, false)⟩,
          ⟨some 48, (.unOp .not 4 (.tmp 47)), 4, some (some 43, false)⟩,
          ⟨some 49, (.pick (.tmp 43) (.const (.bool true)) (.tmp 48)), 4, none⟩])
        (.cond (.tmp 49)
          (.seq (.rgn [] [⟨some 2, (.assign (.const (.bool false))), 4, none⟩])
          .ret)
          .skip))
        (.seq (.rgn [] [⟨some 50, (.fieldAddr 150 (.tmp 6) 1), 0, none⟩,
          ⟨some 51, (.load 30 (.tmp 50)), 30, none⟩,
          ⟨some 52, (.call { callee := (.builtin .len), args := #[(.tmp 51)], argTypes := #[30] }), 3, none⟩,
          ⟨some 53, (.move (.const (.int .i64 0))), 3, none⟩])
        (.blk 2
          (.loop []
            (.seq (.rgn [] [⟨some 54, (.binOp .lss 3 (.tmp 53) (.tmp 52) 3), 0, none⟩])
            (.seq (.cond (.tmp 54)
              .skip
              (.exit 2))
            (.seq (.blk 3
              (.seq (.rgn [] [⟨some 55, (.indexAddr 30 (.tmp 51) (.tmp 53)), 0, none⟩,
                ⟨some 56, (.load 3 (.tmp 55)), 3, none⟩,
                ⟨some 8, (.assign (.tmp 56)), 3, none⟩])
              (.seq (.seq (.rgn [] [⟨some 57, (.move (.tmp 8)), 3, none⟩,
                ⟨some 58, (.move (.tmp 3)), 3, none⟩,
                ⟨some 59, (.binOp .sub 3 (.tmp 58) (.const (.int .i64 1)) 3), 3, none⟩,
                ⟨some 60, (.call { callee := (.value (.func 82)), args := #[(.tmp 57), (.const (.int .i64 0)), (.tmp 59)], argTypes := #[3, 3, 3] }), 4, none⟩,
                ⟨some 61, (.unOp .not 4 (.tmp 60)), 4, none⟩])
              (.cond (.tmp 61)
                (.seq (.rgn [] [⟨some 2, (.assign (.const (.bool false))), 4, none⟩])
                .ret)
                .skip))
              (.rgn [] [⟨some 62, (.move (.tmp 4)), 184, none⟩,
                ⟨some 63, (.move (.tmp 8)), 3, none⟩,
                ⟨some 64, (.indexAddr 184 (.tmp 62) (.tmp 63)), 0, none⟩,
                ⟨none, (.store 4 (.tmp 64) (.const (.bool true))), 0, none⟩]))))
            (.rgn [] [⟨some 65, (.binOp .add 3 (.tmp 53) (.const (.int .i64 1)) 3), 3, none⟩,
              ⟨some 53, (.move (.tmp 65)), 3, none⟩]))))))))))
      (.rgn [] [⟨some 66, (.binOp .add 3 (.tmp 35) (.const (.int .i64 1)) 3), 3, none⟩,
        ⟨some 35, (.move (.tmp 66)), 3, none⟩])))))))
  (.seq (.seq (.rgn [] [⟨some 67, (.move (.tmp 4)), 184, none⟩,
    ⟨some 68, (.call { callee := (.builtin .len), args := #[(.tmp 67)], argTypes := #[184] }), 3, none⟩,
    ⟨some 69, (.move (.const (.int .i64 0))), 3, none⟩])
  (.blk 4
    (.loop []
      (.seq (.rgn [] [⟨some 70, (.binOp .lss 3 (.tmp 69) (.tmp 68) 3), 0, none⟩])
      (.seq (.cond (.tmp 70)
        .skip
        (.exit 4))
      (.seq (.blk 5
        (.seq (.rgn [] [⟨some 71, (.indexAddr 184 (.tmp 67) (.tmp 69)), 0, none⟩,
          ⟨some 72, (.load 4 (.tmp 71)), 4, none⟩,
          ⟨some 10, (.assign (.tmp 72)), 4, none⟩])
        (.seq (.rgn [] [⟨some 73, (.move (.tmp 10)), 4, none⟩,
          ⟨some 74, (.unOp .not 4 (.tmp 73)), 4, none⟩])
        (.cond (.tmp 74)
          (.seq (.rgn [] [⟨some 2, (.assign (.const (.bool false))), 4, none⟩])
          .ret)
          .skip))))
      (.rgn [] [⟨some 75, (.binOp .add 3 (.tmp 69) (.const (.int .i64 1)) 3), 3, none⟩,
        ⟨some 69, (.move (.tmp 75)), 3, none⟩])))))))
  (.seq (.rgn [] [⟨some 2, (.assign (.const (.bool true))), 4, none⟩])
  .ret)))))))
theorem lit125 : Lit Try.prog 125 76 [1, 4, 6, 31] [.tmp 2] c125 := ⟨⟨Try.f125, _, Try.func125, rfl, by kernel_rfl, rfl, rfl, by kernel_rfl, by kernel_rfl⟩, by decide, by kernel_rfl⟩
/-- laws.szTableS -/
def c127 : LC :=
  (.seq (.rgn [] [⟨some 4, (.assign (.const (.int .i64 0))), 3, none⟩])
  (.seq (.rgn [] [⟨some 6, (.move (.tmp 1)), 3, none⟩,
    ⟨some 7, (.move (.tmp 0)), 93, none⟩,
    ⟨some 8, (.call { callee := (.builtin .len), args := #[(.tmp 7)], argTypes := #[93] }), 3, none⟩,
    ⟨some 9, (.binOp .sub 3 (.tmp 6) (.tmp 8) 3), 3, none⟩,
    ⟨some 1, (.assign (.tmp 9)), 3, none⟩])
  (.seq (.seq (.rgn [] [⟨some 10, (.move (.tmp 1)), 3, none⟩,
    ⟨some 11, (.binOp .lss 3 (.tmp 10) (.const (.int .i64 0)) 3), 4, none⟩])
  (.cond (.tmp 11)
    (.seq (.rgn [] [⟨some 4, (.assign (.const (.int .i64 (-1)))), 3, none⟩])
    .ret)
    .skip))
  (.seq (.seq (.rgn [] [⟨some 5, (.assign (.const (.int .i64 0))), 3, none⟩])
  (.blk 0
    (.loop []
      (.seq (.seq (.rgn [] [⟨some 12, (.move (.tmp 5)), 3, none⟩,
        ⟨some 13, (.move (.tmp 0)), 93, none⟩,
        ⟨some 14, (.call { callee := (.builtin .len), args := #[(.tmp 13)], argTypes := #[93] }), 3, none⟩,
        ⟨some 15, (.binOp .lss 3 (.tmp 12) (.tmp 14) 3), 4, none⟩])
      (.cond (.tmp 15)
        .skip
        (.exit 0)))
      (.seq (.blk 1
        (.seq (.rgn [] [⟨some 18, (.move (.tmp 0)), 93, none⟩,
          ⟨some 19, (.move (.tmp 5)), 3, none⟩,
          ⟨some 20, (.indexAddr 93 (.tmp 18) (.tmp 19)), 0, none⟩,
          ⟨some 21, (.load 187 (.tmp 20)), 187, none⟩,
          ⟨some 22, (.move (.tmp 1)), 3, none⟩,
          ⟨some 23, (.call { callee := (.value (.func 162)), args := #[(.tmp 21), (.tmp 22)], argTypes := #[187, 3] }), 3, none⟩,
          ⟨some 1, (.assign (.tmp 23)), 3, none⟩])
        (.seq (.rgn [] [⟨some 24, (.move (.tmp 1)), 3, none⟩,
          ⟨some 25, (.binOp .lss 3 (.tmp 24) (.const (.int .i64 0)) 3), 4, none⟩])
        (.cond (.tmp 25)
          (.seq (.rgn [] [⟨some 4, (.assign (.const (.int .i64 (-1)))), 3, none⟩])
          .ret)
          .skip))))
      (.rgn [] [⟨some 16, (.move (.tmp 5)), 3, none⟩,
        ⟨some 17, (.binOp .add 3 (.tmp 16) (.const (.int .i64 1)) 3), 3, none⟩,
        ⟨some 5, (.assign (.tmp 17)), 3, none⟩]))))))
  (.seq (.rgn [] [⟨some 26, (.move (.tmp 1)), 3, none⟩,
    ⟨some 4, (.assign (.tmp 26)), 3, none⟩])
  .ret)))))
theorem lit127 : Lit Try.prog 127 27 [] [.tmp 4] c127 := ⟨⟨Try.f127, _, Try.func127, rfl, by kernel_rfl, rfl, rfl, by kernel_rfl, by kernel_rfl⟩, by decide, by kernel_rfl⟩
/-- laws.toTableS -/
def c128 : LC :=
  (.seq (.rgn [] [⟨some 2, (.assign (.const (.slice none 0 0))), 98, none⟩])
  (.seq (.rgn [3, 7] [⟨some 5, (.move (.tmp 0)), 93, none⟩,
    ⟨some 6, (.call { callee := (.builtin .len), args := #[(.tmp 5)], argTypes := #[93] }), 3, none⟩,
    ⟨some 7, (.makeSlice 98 (.tmp 6) (.tmp 6)), 98, none⟩,
    ⟨some 3, (.assign (.tmp 7)), 98, none⟩])
  (.seq (.seq (.rgn [] [⟨some 4, (.assign (.const (.int .i64 0))), 3, none⟩])
  (.blk 0
    (.loop []
      (.seq (.seq (.rgn [] [⟨some 8, (.move (.tmp 4)), 3, none⟩,
        ⟨some 9, (.move (.tmp 0)), 93, none⟩,
        ⟨some 10, (.call { callee := (.builtin .len), args := #[(.tmp 9)], argTypes := #[93] }), 3, none⟩,
        ⟨some 11, (.binOp .lss 3 (.tmp 8) (.tmp 10) 3), 4, none⟩])
      (.cond (.tmp 11)
        .skip
        (.exit 0)))
      (.seq (.blk 1
        (.rgn [] [⟨some 14, (.move (.tmp 3)), 98, none⟩,
          ⟨some 15, (.move (.tmp 4)), 3, none⟩,
          ⟨some 16, (.move (.tmp 0)), 93, none⟩,
          ⟨some 17, (.move (.tmp 4)), 3, none⟩,
          ⟨some 18, (.indexAddr 93 (.tmp 16) (.tmp 17)), 0, none⟩,
          ⟨some 19, (.load 187 (.tmp 18)), 187, none⟩,
          ⟨some 20, (.call { callee := (.value (.func 163)), args := #[(.tmp 19)], argTypes := #[187] }), 157, none⟩,
          ⟨some 21, (.indexAddr 98 (.tmp 14) (.tmp 15)), 0, none⟩,
          ⟨none, (.store 157 (.tmp 21) (.tmp 20)), 0, none⟩]))
      (.rgn [] [⟨some 12, (.move (.tmp 4)), 3, none⟩,
        ⟨some 13, (.binOp .add 3 (.tmp 12) (.const (.int .i64 1)) 3), 3, none⟩,
        ⟨some 4, (.assign (.tmp 13)), 3, none⟩]))))))
  (.seq (.rgn [22] [⟨some 22, (.move (.tmp 3)), 98, none⟩,
    ⟨some 2, (.assign (.tmp 22)), 98, none⟩])
  .ret))))
theorem lit128 : Lit Try.prog 128 23 [3, 7] [.tmp 2] c128 := ⟨⟨Try.f128, _, Try.func128, rfl, by kernel_rfl, rfl, rfl, by kernel_rfl, by kernel_rfl⟩, by decide, by kernel_rfl⟩
/-- impl.LookupRelation -/
def c129 : LC :=
  (.seq (.rgn [] [⟨some 2, (.box 100 (.tmp 0)), 0, none⟩,
    ⟨some 4, (.alloc 24), 0, none⟩,
    ⟨some 5, (.assign (.const (.bool false))), 4, none⟩])
  (.seq (.seq (.rgn [] [⟨some 8, (.load 100 (.tmp 2)), 100, none⟩,
    ⟨some 9, (.call { callee := (.value (.func 122)), args := #[(.tmp 8)], argTypes := #[100] }), 4, none⟩])
  (.cond (.tmp 9)
    (.seq (.rgn [] [⟨some 10, (.fieldAddr 100 (.tmp 2) 0), 0, none⟩,
      ⟨some 11, (.load 98 (.tmp 10)), 98, none⟩,
      ⟨some 12, (.call { callee := (.builtin .len), args := #[(.tmp 11)], argTypes := #[98] }), 3, none⟩,
      ⟨some 13, (.move (.const (.int .i64 0))), 3, none⟩])
    (.blk 0
      (.loop [7]
        (.seq (.rgn [] [⟨some 14, (.binOp .lss 3 (.tmp 13) (.tmp 12) 3), 0, none⟩])
        (.seq (.cond (.tmp 14)
          .skip
          (.exit 0))
        (.seq (.blk 1
          (.seq (.rgn [16] [⟨some 15, (.indexAddr 98 (.tmp 11) (.tmp 13)), 0, none⟩,
            ⟨some 16, (.load 157 (.tmp 15)), 157, none⟩,
            ⟨some 7, (.alloc 157), 0, none⟩,
            ⟨none, (.store 157 (.tmp 7) (.tmp 16)), 0, none⟩])
          (.seq (.rgn [] [⟨some 17, (.fieldAddr 157 (.tmp 7) 0), 0, none⟩,
            ⟨some 18, (.load 9 (.tmp 17)), 9, none⟩,
            ⟨some 19, (.move (.tmp 1)), 9, none⟩,
            ⟨some 20, (.binOp .eql 9 (.tmp 18) (.tmp 19) 9), 4, none⟩])
          (.cond (.tmp 20)
            (.seq (.rgn [] [⟨some 21, (.fieldAddr 157 (.tmp 7) 1), 0, none⟩,
              ⟨some 22, (.load 24 (.tmp 21)), 24, none⟩,
              ⟨some 23, (.call { callee := (.value (.func 164)), args := #[(.tmp 22)], argTypes := #[24] }), 24, none⟩,
              ⟨none, (.store 24 (.tmp 4) (.tmp 23)), 0, none⟩,
              ⟨some 5, (.assign (.const (.bool true))), 4, none⟩])
            .ret)
            .skip))))
        (.rgn [] [⟨some 24, (.binOp .add 3 (.tmp 13) (.const (.int .i64 1)) 3), 3, none⟩,
          ⟨some 13, (.move (.tmp 24)), 3, none⟩])))))))
    .skip))
  (.seq (.rgn [] [⟨some 25, (.build 24 #[]), 24, none⟩,
    ⟨none, (.store 24 (.tmp 4) (.tmp 25)), 0, none⟩,
    ⟨some 5, (.assign (.const (.bool false))), 4, none⟩])
  .ret)))
theorem lit129 : Lit Try.prog 129 26 [2, 4, 7] [.cell 4 24, .tmp 5] c129 := ⟨⟨Try.f129, _, Try.func129, rfl, by kernel_rfl, rfl, rfl, by kernel_rfl, by kernel_rfl⟩, by decide, by kernel_rfl⟩
/-- laws.eqTableS -/
def c130 : LC :=
  (.seq (.rgn [] [⟨some 4, (.assign (.const (.bool false))), 4, none⟩])
  (.seq (.seq (.rgn [] [⟨some 6, (.move (.tmp 0)), 98, none⟩,
    ⟨some 7, (.call { callee := (.builtin .len), args := #[(.tmp 6)], argTypes := #[98] }), 3, none⟩,
    ⟨some 8, (.move (.tmp 1)), 98, none⟩,
    ⟨some 9, (.call { callee := (.builtin .len), args := #[(.tmp 8)], argTypes := #[98] }), 3, none⟩,
    ⟨some 10, (.binOp .neq 3 (.tmp 7) (.tmp 9) 3), 4, none⟩])
  (.cond (.tmp 10)
    (.seq (.rgn [] [⟨some 4, (.assign (.const (.bool false))), 4, none⟩])
    .ret)
    .skip))
  (.seq (.seq (.rgn [] [⟨some 5, (.assign (.const (.int .i64 0))), 3, none⟩])
  (.blk 0
    (.loop []
      (.seq (.seq (.rgn [] [⟨some 11, (.move (.tmp 5)), 3, none⟩,
        ⟨some 12, (.move (.tmp 0)), 98, none⟩,
        ⟨some 13, (.call { callee := (.builtin .len), args := #[(.tmp 12)], argTypes := #[98] }), 3, none⟩,
        ⟨some 14, (.binOp .lss 3 (.tmp 11) (.tmp 13) 3), 4, none⟩])
      (.cond (.tmp 14)
        .skip
        (.exit 0)))
      (.seq (.blk 1
        (.seq (.drw [] [([0], [17]), ([5], [18]), ([17, 18], [19]), ([19], [20]), ([1], [21]), ([5], [22]), ([21, 22], [23]), ([23], [24]), ([20, 24], [25]), ([25], [26])] [[], [], [0, 1], [2], [], [], [4, 5], [6], [3, 7], [8]] [⟨some 17, (.move (.tmp 0)), 98, none⟩,
          ⟨some 18, (.move (.tmp 5)), 3, none⟩,
          ⟨some 19, (.indexAddr 98 (.tmp 17) (.tmp 18)), 0, none⟩,
          ⟨some 20, (.load 157 (.tmp 19)), 157, none⟩,
          ⟨some 21, (.move (.tmp 1)), 98, none⟩,
          ⟨some 22, (.move (.tmp 5)), 3, none⟩,
          ⟨some 23, (.indexAddr 98 (.tmp 21) (.tmp 22)), 0, none⟩,
          ⟨some 24, (.load 157 (.tmp 23)), 157, none⟩,
          ⟨some 25, (.call { callee := (.value (.func 165)), args := #[(.tmp 20), (.tmp 24)], argTypes := #[157, 157] }), 4, none⟩,
          ⟨some 26, (.unOp .not 4 (.tmp 25)), 4, none⟩])
        (.cond (.tmp 26)
          (.seq (.rgn [] [⟨some 4, (.assign (.const (.bool false))), 4, none⟩])
          .ret)
          .skip)))
      (.rgn [] [⟨some 15, (.move (.tmp 5)), 3, none⟩,
        ⟨some 16, (.binOp .add 3 (.tmp 15) (.const (.int .i64 1)) 3), 3, none⟩,
        ⟨some 5, (.assign (.tmp 16)), 3, none⟩]))))))
  (.seq (.rgn [] [⟨some 4, (.assign (.const (.bool true))), 4, none⟩])
  .ret))))
theorem lit130 : Lit Try.prog 130 27 [] [.tmp 4] c130 := ⟨⟨Try.f130, _, Try.func130, rfl, by kernel_rfl, rfl, rfl, by kernel_rfl, by kernel_rfl⟩, by decide, by kernel_rfl⟩
/-- impl.sameInts -/
def c134 : LC :=
  (.seq (.rgn [] [⟨some 4, (.assign (.const (.bool false))), 4, none⟩])
  (.seq (.seq (.rgn [] [⟨some 6, (.move (.tmp 0)), 30, none⟩,
    ⟨some 7, (.call { callee := (.builtin .len), args := #[(.tmp 6)], argTypes := #[30] }), 3, none⟩,
    ⟨some 8, (.move (.tmp 1)), 30, none⟩,
    ⟨some 9, (.call { callee := (.builtin .len), args := #[(.tmp 8)], argTypes := #[30] }), 3, none⟩,
    ⟨some 10, (.binOp .neq 3 (.tmp 7) (.tmp 9) 3), 4, none⟩])
  (.cond (.tmp 10)
    (.seq (.rgn [] [⟨some 4, (.assign (.const (.bool false))), 4, none⟩])
    .ret)
    .skip))
  (.seq (.seq (.rgn [] [⟨some 11, (.move (.tmp 0)), 30, none⟩,
    ⟨some 12, (.call { callee := (.builtin .len), args := #[(.tmp 11)], argTypes := #[30] }), 3, none⟩,
    ⟨some 13, (.move (.const (.int .i64 0))), 3, none⟩])
  (.blk 0
    (.loop []
      (.seq (.rgn [] [⟨some 14, (.binOp .lss 3 (.tmp 13) (.tmp 12) 3), 0, none⟩])
      (.seq (.cond (.tmp 14)
        .skip
        (.exit 0))
      (.seq (.blk 1
        (.seq (.rgn [] [⟨some 15, (.move (.tmp 13)), 3, none⟩,
          ⟨some 5, (.assign (.tmp 15)), 3, none⟩])
        (.seq (.drw [] [([0], [16]), ([5], [17]), ([16, 17], [18]), ([18], [19]), ([1], [20]), ([5], [21]), ([20, 21], [22]), ([22], [23]), ([19, 23], [24])] [[], [], [0, 1], [2], [], [], [4, 5], [6], [3, 7]] [⟨some 16, (.move (.tmp 0)), 30, none⟩,
          ⟨some 17, (.move (.tmp 5)), 3, none⟩,
          ⟨some 18, (.indexAddr 30 (.tmp 16) (.tmp 17)), 0, none⟩,
          ⟨some 19, (.load 3 (.tmp 18)), 3, none⟩,
          ⟨some 20, (.move (.tmp 1)), 30, none⟩,
          ⟨some 21, (.move (.tmp 5)), 3, none⟩,
          ⟨some 22, (.indexAddr 30 (.tmp 20) (.tmp 21)), 0, none⟩,
          ⟨some 23, (.load 3 (.tmp 22)), 3, none⟩,
          ⟨some 24, (.binOp .neq 3 (.tmp 19) (.tmp 23) 3), 4, none⟩])
        (.cond (.tmp 24)
          (.seq (.rgn [] [⟨some 4, (.assign (.const (.bool false))), 4, none⟩])
          .ret)
          .skip))))
      (.rgn [] [⟨some 25, (.binOp .add 3 (.tmp 13) (.const (.int .i64 1)) 3), 3, none⟩,
        ⟨some 13, (.move (.tmp 25)), 3, none⟩])))))))
  (.seq (.rgn [] [⟨some 4, (.assign (.const (.bool true))), 4, none⟩])
  .ret))))
theorem lit134 : Lit Try.prog 134 26 [] [.tmp 4] c134 := ⟨⟨Try.f134, _, Try.func134, rfl, by kernel_rfl, rfl, rfl, by kernel_rfl, by kernel_rfl⟩, by decide, by kernel_rfl⟩
/-- impl.pick -/
def c135 : LC :=
  (.seq (.rgn [] [⟨some 4, (.assign (.const (.slice none 0 0))), 30, none⟩])
  (.seq (.rgn [] [⟨some 8, (.buildSlice 30 0 #[]), 30, none⟩,
    ⟨some 5, (.assign (.tmp 8)), 30, none⟩])
  (.seq (.seq (.rgn [] [⟨some 9, (.move (.tmp 1)), 30, none⟩,
    ⟨some 10, (.call { callee := (.builtin .len), args := #[(.tmp 9)], argTypes := #[30] }), 3, none⟩,
    ⟨some 11, (.move (.const (.int .i64 0))), 3, none⟩])
  (.blk 0
    (.loop []
      (.seq (.rgn [] [⟨some 12, (.binOp .lss 3 (.tmp 11) (.tmp 10) 3), 0, none⟩])
      (.seq (.cond (.tmp 12)
        .skip
        (.exit 0))
      (.seq (.blk 1
        (.seq (.rgn [] [⟨some 13, (.indexAddr 30 (.tmp 9) (.tmp 11)), 0, none⟩,
          ⟨some 14, (.load 3 (.tmp 13)), 3, none⟩,
          ⟨some 7, (.assign (.tmp 14)), 3, none⟩])
        (.rgn [15] [⟨some 15, (.move (.tmp 5)), 30, none⟩,
          ⟨some 16, (.move (.tmp 0)), 30, none⟩,
          ⟨some 17, (.move (.tmp 7)), 3, none⟩,
          ⟨some 18, (.indexAddr 30 (.tmp 16) (.tmp 17)), 0, none⟩,
          ⟨some 19, (.load 3 (.tmp 18)), 3, none⟩,
          ⟨some 20, (.buildSlice 30 1 #[(0, (.tmp 19))]), 30, none⟩,
          ⟨some 21, (.call { callee := (.builtin .append), args := #[(.tmp 15), (.tmp 20)], argTypes := #[30, 30] }), 30, none⟩,
          ⟨some 5, (.assign (.tmp 21)), 30, none⟩])))
      (.rgn [] [⟨some 22, (.binOp .add 3 (.tmp 11) (.const (.int .i64 1)) 3), 3, none⟩,
        ⟨some 11, (.move (.tmp 22)), 3, none⟩])))))))
  (.seq (.rgn [23] [⟨some 23, (.move (.tmp 5)), 30, none⟩,
    ⟨some 4, (.assign (.tmp 23)), 30, none⟩])
  .ret))))
theorem lit135 : Lit Try.prog 135 24 [] [.tmp 4] c135 := ⟨⟨Try.f135, _, Try.func135, rfl, by kernel_rfl, rfl, rfl, by kernel_rfl, by kernel_rfl⟩, by decide, by kernel_rfl⟩
/-- spec.l5Cols -/
def c136 : LC :=
  (.seq (.rgn [] [⟨some 4, (.assign (.const (.slice none 0 0))), 30, none⟩])
  (.seq (.rgn [] [⟨some 7, (.buildSlice 30 0 #[]), 30, none⟩,
    ⟨some 5, (.assign (.tmp 7)), 30, none⟩])
  (.seq (.seq (.rgn [] [⟨some 6, (.assign (.const (.int .i64 0))), 3, none⟩])
  (.blk 0
    (.loop []
      (.seq (.seq (.rgn [] [⟨some 8, (.move (.tmp 6)), 3, none⟩,
        ⟨some 9, (.move (.tmp 1)), 30, none⟩,
        ⟨some 10, (.call { callee := (.builtin .len), args := #[(.tmp 9)], argTypes := #[30] }), 3, none⟩,
        ⟨some 11, (.binOp .lss 3 (.tmp 8) (.tmp 10) 3), 4, none⟩])
      (.cond (.tmp 11)
        .skip
        (.exit 0)))
      (.seq (.blk 1
        (.rgn [14] [⟨some 14, (.move (.tmp 5)), 30, none⟩,
          ⟨some 15, (.move (.tmp 0)), 30, none⟩,
          ⟨some 16, (.move (.tmp 1)), 30, none⟩,
          ⟨some 17, (.move (.tmp 6)), 3, none⟩,
          ⟨some 18, (.indexAddr 30 (.tmp 16) (.tmp 17)), 0, none⟩,
          ⟨some 19, (.load 3 (.tmp 18)), 3, none⟩,
          ⟨some 20, (.indexAddr 30 (.tmp 15) (.tmp 19)), 0, none⟩,
          ⟨some 21, (.load 3 (.tmp 20)), 3, none⟩,
          ⟨some 22, (.buildSlice 30 1 #[(0, (.tmp 21))]), 30, none⟩,
          ⟨some 23, (.call { callee := (.builtin .append), args := #[(.tmp 14), (.tmp 22)], argTypes := #[30, 30] }), 30, none⟩,
          ⟨some 5, (.assign (.tmp 23)), 30, none⟩]))
      (.rgn [] [⟨some 12, (.move (.tmp 6)), 3, none⟩,
        ⟨some 13, (.binOp .add 3 (.tmp 12) (.const (.int .i64 1)) 3), 3, none⟩,
        ⟨some 6, (.assign (.tmp 13)), 3, none⟩]))))))
  (.seq (.rgn [24] [⟨some 24, (.move (.tmp 5)), 30, none⟩,
    ⟨some 4, (.assign (.tmp 24)), 30, none⟩])
  .ret))))
theorem lit136 : Lit Try.prog 136 25 [] [.tmp 4] c136 := ⟨⟨Try.f136, _, Try.func136, rfl, by kernel_rfl, rfl, rfl, by kernel_rfl, by kernel_rfl⟩, by decide, by kernel_rfl⟩
/-- spec.l5Copy -/
def c137 : LC :=
  (.seq (.rgn [] [⟨some 1, (.box 24 (.tmp 0)), 0, none⟩,
    ⟨some 2, (.alloc 24), 0, none⟩])
  (.seq (.rgn [] [⟨some 5, (.fieldAddr 24 (.tmp 1) 0), 0, none⟩,
    ⟨some 6, (.load 3 (.tmp 5)), 3, none⟩,
    ⟨some 7, (.build 24 #[(0, (.tmp 6))]), 24, none⟩,
    ⟨some 3, (.alloc 24), 0, none⟩,
    ⟨none, (.store 24 (.tmp 3) (.tmp 7)), 0, none⟩])
  (.seq (.seq (.rgn [] [⟨some 4, (.assign (.const (.int .i64 0))), 3, none⟩])
  (.blk 0
    (.loop []
      (.seq (.seq (.rgn [] [⟨some 8, (.move (.tmp 4)), 3, none⟩,
        ⟨some 9, (.fieldAddr 24 (.tmp 1) 1), 0, none⟩,
        ⟨some 10, (.load 22 (.tmp 9)), 22, none⟩,
        ⟨some 11, (.call { callee := (.builtin .len), args := #[(.tmp 10)], argTypes := #[22] }), 3, none⟩,
        ⟨some 12, (.binOp .lss 3 (.tmp 8) (.tmp 11) 3), 4, none⟩])
      (.cond (.tmp 12)
        .skip
        (.exit 0)))
      (.seq (.blk 1
        (.drw [16, 22] [([3], [15]), ([3, 15], [3, 15, 16]), ([], [17]), ([1], [18]), ([1, 18], [19]), ([4], [20]), ([19, 20], [21]), ([21], [21, 22]), ([17, 22], [17, 22, 23]), ([23], [23, 24]), ([16, 24], [16, 24, 25]), ([3], [26]), ([3, 25, 26], [3, 25, 26])] [[], [0], [], [], [3], [], [4, 5], [6], [2, 7], [8], [1, 9, 8], [0, 1, 2, 3, 4, 5, 6, 7, 8, 9, 10], [11, 10, 10, 0, 1, 2, 3, 4, 5, 6, 7, 8, 9, 10]] [⟨some 15, (.fieldAddr 24 (.tmp 3) 1), 0, none⟩,
          ⟨some 16, (.load 22 (.tmp 15)), 22, none⟩,
          ⟨some 17, (.buildSlice 30 0 #[]), 30, none⟩,
          ⟨some 18, (.fieldAddr 24 (.tmp 1) 1), 0, none⟩,
          ⟨some 19, (.load 22 (.tmp 18)), 22, none⟩,
          ⟨some 20, (.move (.tmp 4)), 3, none⟩,
          ⟨some 21, (.indexAddr 22 (.tmp 19) (.tmp 20)), 0, none⟩,
          ⟨some 22, (.load 30 (.tmp 21)), 30, none⟩,
          ⟨some 23, (.call { callee := (.builtin .append), args := #[(.tmp 17), (.tmp 22)], argTypes := #[30, 30] }), 30, none⟩,
          ⟨some 24, (.buildSlice 22 1 #[(0, (.tmp 23))]), 22, none⟩,
          ⟨some 25, (.call { callee := (.builtin .append), args := #[(.tmp 16), (.tmp 24)], argTypes := #[22, 22] }), 22, none⟩,
          ⟨some 26, (.fieldAddr 24 (.tmp 3) 1), 0, none⟩,
          ⟨none, (.store 22 (.tmp 26) (.tmp 25)), 0, none⟩]))
      (.rgn [] [⟨some 13, (.move (.tmp 4)), 3, none⟩,
        ⟨some 14, (.binOp .add 3 (.tmp 13) (.const (.int .i64 1)) 3), 3, none⟩,
        ⟨some 4, (.assign (.tmp 14)), 3, none⟩]))))))
  (.seq (.rgn [27] [⟨some 27, (.load 24 (.tmp 3)), 24, none⟩,
    ⟨none, (.store 24 (.tmp 2) (.tmp 27)), 0, none⟩])
  .ret))))
theorem lit137 : Lit Try.prog 137 28 [1, 2, 3] [.cell 2 24] c137 := ⟨⟨Try.f137, _, Try.func137, rfl, by kernel_rfl, rfl, rfl, by kernel_rfl, by kernel_rfl⟩, by decide, by kernel_rfl⟩
/-- impl.AreValidValues -/
def c140 : LC :=
  (.seq (.rgn [] [⟨some 2, (.assign (.const (.bool false))), 4, none⟩])
  (.seq (.seq (.rgn [] [⟨some 5, (.move (.tmp 0)), 30, none⟩,
    ⟨some 6, (.call { callee := (.builtin .len), args := #[(.tmp 5)], argTypes := #[30] }), 3, none⟩,
    ⟨some 7, (.move (.const (.int .i64 0))), 3, none⟩])
  (.blk 0
    (.loop []
      (.seq (.rgn [] [⟨some 8, (.binOp .lss 3 (.tmp 7) (.tmp 6) 3), 0, none⟩])
      (.seq (.cond (.tmp 8)
        .skip
        (.exit 0))
      (.seq (.blk 1
        (.seq (.rgn [] [⟨some 9, (.indexAddr 30 (.tmp 5) (.tmp 7)), 0, none⟩,
          ⟨some 10, (.load 3 (.tmp 9)), 3, none⟩,
          ⟨some 4, (.assign (.tmp 10)), 3, none⟩])
        (.seq (.rgn [] [⟨some 11, (.move (.tmp 4)), 3, none⟩,
          ⟨some 12, (.call { callee := (.value (.func 82)), args := #[(.tmp 11), (.const (.int .i64 0)), (.const (.int .i64 99))], argTypes := #[3, 3, 3] }), 4, none⟩,
          ⟨some 13, (.unOp .not 4 (.tmp 12)), 4, none⟩])
        (.cond (.tmp 13)
          (.seq (.rgn [] [⟨some 2, (.assign (.const (.bool false))), 4, none⟩])
          .ret)
          .skip))))
      (.rgn [] [⟨some 14, (.binOp .add 3 (.tmp 7) (.const (.int .i64 1)) 3), 3, none⟩,
        ⟨some 7, (.move (.tmp 14)), 3, none⟩])))))))
  (.seq (.rgn [] [⟨some 2, (.assign (.const (.bool true))), 4, none⟩])
  .ret)))
theorem lit140 : Lit Try.prog 140 15 [] [.tmp 2] c140 := ⟨⟨Try.f140, _, Try.func140, rfl, by kernel_rfl, rfl, rfl, by kernel_rfl, by kernel_rfl⟩, by decide, by kernel_rfl⟩
/-- impl.rowsValid -/
def c149 : LC :=
  (.seq (.rgn [] [⟨some 4, (.assign (.const (.bool false))), 4, none⟩])
  (.seq (.seq (.rgn [] [⟨some 7, (.move (.tmp 0)), 3, none⟩,
    ⟨some 8, (.call { callee := (.value (.func 82)), args := #[(.tmp 7), (.const (.int .i64 0)), (.const (.int .i64 5))], argTypes := #[3, 3, 3] }), 4, none⟩,
    ⟨some 9, (.unOp .not 4 (.tmp 8)), 4, none⟩,
    ⟨some 10, (.move (.tmp 9)), 4, none⟩,
    ⟨some 11, (.move (.tmp 1)), 22, some (some 10, false)⟩,
    ⟨some 12, (.call { callee := (.builtin .len), args := #[(.tmp 11)], argTypes := #[22] }), 3, some (some 10, false)⟩,
    ⟨some 13, (.binOp .gtr 3 (.tmp 12) (.const (.int .i64 4000)) 3), 4, some (some 10, false)⟩,
    ⟨some 14, (.pick (.tmp 10) (.const (.bool true)) (.tmp 13)), 4, none⟩])
  (.cond (.tmp 14)
    (.seq (.rgn [] [⟨some 4, (.assign (.const (.bool false))), 4, none⟩])
    .ret)
    .skip))
  (.seq (.seq (.rgn [] [⟨some 15, (.move (.tmp 1)), 22, none⟩,
    ⟨some 16, (.call { callee := (.builtin .len), args := #[(.tmp 15)], argTypes := #[22] }), 3, none⟩,
    ⟨some 17, (.move (.const (.int .i64 0))), 3, none⟩])
  (.blk 0
    (.loop []
      (.seq (.rgn [] [⟨some 18, (.binOp .lss 3 (.tmp 17) (.tmp 16) 3), 0, none⟩])
      (.seq (.cond (.tmp 18)
        .skip
        (.exit 0))
      (.seq (.blk 1
        (.seq (.rgn [21] [⟨some 19, (.move (.tmp 17)), 3, none⟩,
          ⟨some 20, (.indexAddr 22 (.tmp 15) (.tmp 17)), 0, none⟩,
          ⟨some 21, (.load 30 (.tmp 20)), 30, none⟩,
          ⟨some 5, (.assign (.tmp 19)), 3, none⟩,
          ⟨some 6, (.assign (.tmp 21)), 30, none⟩])
        (.seq (.rgn [] [⟨some 22, (.move (.tmp 6)), 30, none⟩,
          ⟨some 23, (.call { callee := (.builtin .len), args := #[(.tmp 22)], argTypes := #[30] }), 3, none⟩,
          ⟨some 24, (.move (.tmp 0)), 3, none⟩,
          ⟨some 25, (.binOp .neq 3 (.tmp 23) (.tmp 24) 3), 4, none⟩,
          ⟨some 26, (.move (.tmp 25)), 4, none⟩,
          ⟨some 27, (.move (.tmp 6)), 30, some (some 26, false)⟩,
          ⟨some 28, (.call { callee := (.value (.func 140)), args := #[(.tmp 27)], argTypes := #[30] }), 4, some (some 26, false)⟩,
          ⟨some 29, (.unOp .not 4 (.tmp 28)), 4, some (some 26, false)⟩,
          ⟨some 30, (.pick (.tmp 26) (.const (.bool true)) (.tmp 29)), 4, none⟩,
          ⟨some 31, (.move (.tmp 30)), 4, none⟩,
          ⟨some 32, (.move (.tmp 5)), 3, some (some 31, false)⟩,
          ⟨some 33, (.binOp .gtr 3 (.tmp 32) (.const (.int .i64 0)) 3), 4, some (some 31, false)⟩,
          ⟨some 34, (.move (.tmp 33)), 4, some (some 31, false)⟩,
          ⟨some 35, (.move (.tmp 1)), 22, some (some 34, true)⟩,
          ⟨some 36, (.move (.tmp 5)), 3, some (some 34, true)⟩,
          ⟨some 37, (.binOp .sub 3 (.tmp 36) (.const (.int .i64 1)) 3), 3, some (some 34, true)⟩,
          ⟨some 38, (.indexAddr 22 (.tmp 35) (.tmp 37)), 0, some (some 34, true)⟩,
          ⟨some 39, (.load 30 (.tmp 38)), 30, some (some 34, true)⟩,
          ⟨some 40, (.move (.tmp 6)), 30, some (some 34, true)⟩,
          ⟨some 41, (.call { callee := (.value (.func 168)), args := #[(.tmp 39), (.tmp 40)], argTypes := #[30, 30] }), 3, some (some 34, true)⟩,
          ⟨some 42, (.binOp .geq 3 (.tmp 41) (.const (.int .i64 0)) 3), 4, some (some 34, true)⟩,
          ⟨some 43, (.pick (.tmp 34) (.tmp 42) (.const (.bool false))), 4, some (some 31, false)⟩,
          ⟨some 44, (.pick (.tmp 31) (.const (.bool true)) (.tmp 43)), 4, none⟩])
        (.cond (.tmp 44)
          (.seq (.rgn [] [⟨some 4, (.assign (.const (.bool false))), 4, none⟩])
          .ret)
          .skip))))
      (.rgn [] [⟨some 45, (.binOp .add 3 (.tmp 17) (.const (.int .i64 1)) 3), 3, none⟩,
        ⟨some 17, (.move (.tmp 45)), 3, none⟩])))))))
  (.seq (.rgn [] [⟨some 4, (.assign (.const (.bool true))), 4, none⟩])
  .ret))))
theorem lit149 : Lit Try.prog 149 46 [] [.tmp 4] c149 := ⟨⟨Try.f149, _, Try.func149, rfl, by kernel_rfl, rfl, rfl, by kernel_rfl, by kernel_rfl⟩, by decide, by kernel_rfl⟩
/-- laws.szAtom -/
def c150 : LC :=
  (.seq (.rgn [] [⟨some 2, (.box 171 (.tmp 0)), 0, none⟩,
    ⟨some 4, (.assign (.const (.int .i64 0))), 3, none⟩])
  (.seq (.rgn [] [⟨some 5, (.move (.tmp 1)), 3, none⟩,
    ⟨some 6, (.fieldAddr 171 (.tmp 2) 0), 0, none⟩,
    ⟨some 7, (.load 9 (.tmp 6)), 9, none⟩,
    ⟨some 8, (.call { callee := (.builtin .len), args := #[(.tmp 7)], argTypes := #[9] }), 3, none⟩,
    ⟨some 9, (.binOp .sub 3 (.tmp 5) (.tmp 8) 3), 3, none⟩,
    ⟨some 1, (.assign (.tmp 9)), 3, none⟩])
  (.seq (.seq (.rgn [] [⟨some 10, (.move (.tmp 1)), 3, none⟩,
    ⟨some 11, (.binOp .lss 3 (.tmp 10) (.const (.int .i64 0)) 3), 4, none⟩])
  (.cond (.tmp 11)
    (.seq (.rgn [] [⟨some 4, (.assign (.const (.int .i64 (-1)))), 3, none⟩])
    .ret)
    .skip))
  (.seq (.rgn [] [⟨some 12, (.fieldAddr 171 (.tmp 2) 1), 0, none⟩,
    ⟨some 13, (.load 30 (.tmp 12)), 30, none⟩,
    ⟨some 14, (.move (.tmp 1)), 3, none⟩,
    ⟨some 15, (.call { callee := (.value (.func 87)), args := #[(.tmp 13), (.tmp 14)], argTypes := #[30, 3] }), 3, none⟩,
    ⟨some 1, (.assign (.tmp 15)), 3, none⟩])
  (.seq (.seq (.rgn [] [⟨some 16, (.move (.tmp 1)), 3, none⟩,
    ⟨some 17, (.binOp .lss 3 (.tmp 16) (.const (.int .i64 0)) 3), 4, none⟩])
  (.cond (.tmp 17)
    (.seq (.rgn [] [⟨some 4, (.assign (.const (.int .i64 (-1)))), 3, none⟩])
    .ret)
    .skip))
  (.seq (.rgn [] [⟨some 18, (.move (.tmp 1)), 3, none⟩,
    ⟨some 4, (.assign (.tmp 18)), 3, none⟩])
  .ret))))))
theorem lit150 : Lit Try.prog 150 19 [2] [.tmp 4] c150 := ⟨⟨Try.f150, _, Try.func150, rfl, by kernel_rfl, rfl, rfl, by kernel_rfl, by kernel_rfl⟩, by decide, by kernel_rfl⟩
/-- laws.toAtom -/
def c151 : LC :=
  (.seq (.rgn [] [⟨some 1, (.box 171 (.tmp 0)), 0, none⟩,
    ⟨some 2, (.alloc 150), 0, none⟩])
  (.seq (.rgn [] [⟨some 3, (.alloc 150), 0, none⟩])
  (.seq (.rgn [] [⟨some 4, (.fieldAddr 171 (.tmp 1) 0), 0, none⟩,
    ⟨some 5, (.load 9 (.tmp 4)), 9, none⟩,
    ⟨some 6, (.fieldAddr 150 (.tmp 3) 0), 0, none⟩,
    ⟨none, (.store 9 (.tmp 6) (.tmp 5)), 0, none⟩])
  (.seq (.rgn [] [⟨some 7, (.fieldAddr 171 (.tmp 1) 1), 0, none⟩,
    ⟨some 8, (.load 30 (.tmp 7)), 30, none⟩,
    ⟨some 9, (.call { callee := (.value (.func 32)), args := #[(.tmp 8)], argTypes := #[30] }), 30, none⟩,
    ⟨some 10, (.fieldAddr 150 (.tmp 3) 1), 0, none⟩,
    ⟨none, (.store 30 (.tmp 10) (.tmp 9)), 0, none⟩])
  (.seq (.rgn [11] [⟨some 11, (.load 150 (.tmp 3)), 150, none⟩,
    ⟨none, (.store 150 (.tmp 2) (.tmp 11)), 0, none⟩])
  .ret)))))
theorem lit151 : Lit Try.prog 151 12 [1, 2, 3] [.cell 2 150] c151 := ⟨⟨Try.f151, _, Try.func151, rfl, by kernel_rfl, rfl, rfl, by kernel_rfl, by kernel_rfl⟩, by decide, by kernel_rfl⟩
/-- laws.eqAtom -/
def c152 : LC :=
  (.seq (.rgn [] [⟨some 2, (.box 150 (.tmp 0)), 0, none⟩,
    ⟨some 3, (.box 150 (.tmp 1)), 0, none⟩,
    ⟨some 4, (.assign (.const (.bool false))), 4, none⟩])
  (.seq (.seq (.rgn [] [⟨some 5, (.fieldAddr 150 (.tmp 2) 0), 0, none⟩,
    ⟨some 6, (.load 9 (.tmp 5)), 9, none⟩,
    ⟨some 7, (.fieldAddr 150 (.tmp 3) 0), 0, none⟩,
    ⟨some 8, (.load 9 (.tmp 7)), 9, none⟩,
    ⟨some 9, (.binOp .neq 9 (.tmp 6) (.tmp 8) 9), 4, none⟩])
  (.cond (.tmp 9)
    (.seq (.rgn [] [⟨some 4, (.assign (.const (.bool false))), 4, none⟩])
    .ret)
    .skip))
  (.seq (.seq (.rgn [] [⟨some 10, (.fieldAddr 150 (.tmp 2) 1), 0, none⟩,
    ⟨some 11, (.load 30 (.tmp 10)), 30, none⟩,
    ⟨some 12, (.fieldAddr 150 (.tmp 3) 1), 0, none⟩,
    ⟨some 13, (.load 30 (.tmp 12)), 30, none⟩,
    ⟨some 14, (.call { callee := (.value (.func 35)), args := #[(.tmp 11), (.tmp 13)], argTypes := #[30, 30] }), 4, none⟩,
    ⟨some 15, (.unOp .not 4 (.tmp 14)), 4, none⟩])
  (.cond (.tmp 15)
    (.seq (.rgn [] [⟨some 4, (.assign (.const (.bool false))), 4, none⟩])
    .ret)
    .skip))
  (.seq (.rgn [] [⟨some 4, (.assign (.const (.bool true))), 4, none⟩])
  .ret))))
theorem lit152 : Lit Try.prog 152 16 [2, 3] [.tmp 4] c152 := ⟨⟨Try.f152, _, Try.func152, rfl, by kernel_rfl, rfl, rfl, by kernel_rfl, by kernel_rfl⟩, by decide, by kernel_rfl⟩
/-- spec.IsValidName -/
def c158 : LC :=
  (.seq (.rgn [] [⟨some 2, (.assign (.const (.bool false))), 4, none⟩])
  (.seq (.seq (.rgn [] [⟨some 3, (.assign (.const (.int .i64 0))), 3, none⟩])
  (.blk 0
    (.loop []
      (.seq (.seq (.rgn [] [⟨some 4, (.move (.tmp 3)), 3, none⟩,
        ⟨some 5, (.move (.tmp 0)), 9, none⟩,
        ⟨some 6, (.call { callee := (.builtin .len), args := #[(.tmp 5)], argTypes := #[9] }), 3, none⟩,
        ⟨some 7, (.binOp .lss 3 (.tmp 4) (.tmp 6) 3), 4, none⟩])
      (.cond (.tmp 7)
        .skip
        (.exit 0)))
      (.seq (.blk 1
        (.seq (.rgn [] [⟨some 10, (.move (.tmp 0)), 9, none⟩,
          ⟨some 11, (.move (.tmp 3)), 3, none⟩,
          ⟨some 12, (.index 9 (.tmp 10) (.tmp 11)), 5, none⟩,
          ⟨some 13, (.binOp .lss 5 (.tmp 12) (.const (.int .u8 97)) 5), 4, none⟩,
          ⟨some 14, (.move (.tmp 13)), 4, none⟩,
          ⟨some 15, (.move (.tmp 0)), 9, some (some 14, false)⟩,
          ⟨some 16, (.move (.tmp 3)), 3, some (some 14, false)⟩,
          ⟨some 17, (.index 9 (.tmp 15) (.tmp 16)), 5, some (some 14, false)⟩,
          ⟨some 18, (.binOp .gtr 5 (.tmp 17) (.const (.int .u8 122)) 5), 4, some (some 14, false)⟩,
          ⟨some 19, (.pick (.tmp 14) (.const (.bool true)) (.tmp 18)), 4, none⟩])
        (.cond (.tmp 19)
          (.seq (.rgn [] [⟨some 2, (.assign (.const (.bool false))), 4, none⟩])
          .ret)
          .skip)))
      (.rgn [] [⟨some 8, (.move (.tmp 3)), 3, none⟩,
        ⟨some 9, (.binOp .add 3 (.tmp 8) (.const (.int .i64 1)) 3), 3, none⟩,
        ⟨some 3, (.assign (.tmp 9)), 3, none⟩]))))))
  (.seq (.rgn [] [⟨some 20, (.move (.tmp 0)), 9, none⟩,
    ⟨some 21, (.call { callee := (.builtin .len), args := #[(.tmp 20)], argTypes := #[9] }), 3, none⟩,
    ⟨some 22, (.call { callee := (.value (.func 80)), args := #[(.tmp 21), (.const (.int .i64 1)), (.const (.int .i64 4))], argTypes := #[3, 3, 3] }), 4, none⟩,
    ⟨some 2, (.assign (.tmp 22)), 4, none⟩])
  .ret)))
theorem lit158 : Lit Try.prog 158 23 [] [.tmp 2] c158 := ⟨⟨Try.f158, _, Try.func158, rfl, by kernel_rfl, rfl, rfl, by kernel_rfl, by kernel_rfl⟩, by decide, by kernel_rfl⟩
/-- impl.IsValidName -/
def c159 : LC :=
  (.seq (.rgn [] [⟨some 2, (.assign (.const (.bool false))), 4, none⟩])
  (.seq (.rgn [] [⟨some 3, (.move (.tmp 0)), 9, none⟩,
    ⟨some 4, (.call { callee := (.value (.func 171)), args := #[(.tmp 3), (.const (.int .i64 4))], argTypes := #[9, 3] }), 4, none⟩,
    ⟨some 2, (.assign (.tmp 4)), 4, none⟩])
  .ret))
theorem lit159 : Lit Try.prog 159 5 [] [.tmp 2] c159 := ⟨⟨Try.f159, _, Try.func159, rfl, by kernel_rfl, rfl, rfl, by kernel_rfl, by kernel_rfl⟩, by decide, by kernel_rfl⟩
/-- spec.ContainsVariable -/
def c160 : LC :=
  (.seq (.rgn [] [⟨some 2, (.box 150 (.tmp 0)), 0, none⟩,
    ⟨some 4, (.assign (.const (.bool false))), 4, none⟩])
  (.seq (.seq (.rgn [] [⟨some 5, (.assign (.const (.int .i64 0))), 3, none⟩])
  (.blk 0
    (.loop []
      (.seq (.seq (.rgn [] [⟨some 6, (.move (.tmp 5)), 3, none⟩,
        ⟨some 7, (.fieldAddr 150 (.tmp 2) 1), 0, none⟩,
        ⟨some 8, (.load 30 (.tmp 7)), 30, none⟩,
        ⟨some 9, (.call { callee := (.builtin .len), args := #[(.tmp 8)], argTypes := #[30] }), 3, none⟩,
        ⟨some 10, (.binOp .lss 3 (.tmp 6) (.tmp 9) 3), 4, none⟩])
      (.cond (.tmp 10)
        .skip
        (.exit 0)))
      (.seq (.blk 1
        (.seq (.rgn [] [⟨some 13, (.fieldAddr 150 (.tmp 2) 1), 0, none⟩,
          ⟨some 14, (.load 30 (.tmp 13)), 30, none⟩,
          ⟨some 15, (.move (.tmp 5)), 3, none⟩,
          ⟨some 16, (.indexAddr 30 (.tmp 14) (.tmp 15)), 0, none⟩,
          ⟨some 17, (.load 3 (.tmp 16)), 3, none⟩,
          ⟨some 18, (.move (.tmp 1)), 3, none⟩,
          ⟨some 19, (.binOp .eql 3 (.tmp 17) (.tmp 18) 3), 4, none⟩])
        (.cond (.tmp 19)
          (.seq (.rgn [] [⟨some 4, (.assign (.const (.bool true))), 4, none⟩])
          .ret)
          .skip)))
      (.rgn [] [⟨some 11, (.move (.tmp 5)), 3, none⟩,
        ⟨some 12, (.binOp .add 3 (.tmp 11) (.const (.int .i64 1)) 3), 3, none⟩,
        ⟨some 5, (.assign (.tmp 12)), 3, none⟩]))))))
  (.seq (.rgn [] [⟨some 4, (.assign (.const (.bool false))), 4, none⟩])
  .ret)))
theorem lit160 : Lit Try.prog 160 20 [2] [.tmp 4] c160 := ⟨⟨Try.f160, _, Try.func160, rfl, by kernel_rfl, rfl, rfl, by kernel_rfl, by kernel_rfl⟩, by decide, by kernel_rfl⟩
/-- impl.isSetOf -/
def c161 : LC :=
  (.seq (.rgn [] [⟨some 4, (.assign (.const (.bool false))), 4, none⟩])
  (.seq (.seq (.rgn [] [⟨some 7, (.move (.tmp 0)), 30, none⟩,
    ⟨some 8, (.call { callee := (.builtin .len), args := #[(.tmp 7)], argTypes := #[30] }), 3, none⟩,
    ⟨some 9, (.move (.const (.int .i64 0))), 3, none⟩])
  (.blk 0
    (.loop []
      (.seq (.rgn [] [⟨some 10, (.binOp .lss 3 (.tmp 9) (.tmp 8) 3), 0, none⟩])
      (.seq (.cond (.tmp 10)
        .skip
        (.exit 0))
      (.seq (.blk 1
        (.seq (.rgn [] [⟨some 11, (.move (.tmp 9)), 3, none⟩,
          ⟨some 12, (.indexAddr 30 (.tmp 7) (.tmp 9)), 0, none⟩,
          ⟨some 13, (.load 3 (.tmp 12)), 3, none⟩,
          ⟨some 5, (.assign (.tmp 11)), 3, none⟩,
          ⟨some 6, (.assign (.tmp 13)), 3, none⟩])
        (.seq (.rgn [] [⟨some 14, (.move (.tmp 6)), 3, none⟩,
          ⟨some 15, (.move (.tmp 1)), 3, none⟩,
          ⟨some 16, (.binOp .sub 3 (.tmp 15) (.const (.int .i64 1)) 3), 3, none⟩,
          ⟨some 17, (.call { callee := (.value (.func 82)), args := #[(.tmp 14), (.const (.int .i64 0)), (.tmp 16)], argTypes := #[3, 3, 3] }), 4, none⟩,
          ⟨some 18, (.unOp .not 4 (.tmp 17)), 4, none⟩,
          ⟨some 19, (.move (.tmp 18)), 4, none⟩,
          ⟨some 20, (.move (.tmp 0)), 30, some (some 19, false)⟩,
          ⟨some 21, (.move (.tmp 5)), 3, some (some 19, false)⟩,
          ⟨some 22, (.slice 30 (.tmp 20) none (some (.tmp 21)) none), 30, some (some 19, false)⟩,
          ⟨some 23, (.move (.tmp 6)), 3, some (some 19, false)⟩,
          ⟨some 24, (.call { callee := (.value (.func 172)), args := #[(.tmp 22), (.tmp 23)], argTypes := #[30, 3] }), 4, some (some 19, false)⟩,
          ⟨some 25, (.pick (.tmp 19) (.const (.bool true)) (.tmp 24)), 4, none⟩])
        (.cond (.tmp 25)
          (.seq (.rgn [] [⟨some 4, (.assign (.const (.bool false))), 4, none⟩])
          .ret)
          .skip))))
      (.rgn [] [⟨some 26, (.binOp .add 3 (.tmp 9) (.const (.int .i64 1)) 3), 3, none⟩,
        ⟨some 9, (.move (.tmp 26)), 3, none⟩])))))))
  (.seq (.rgn [] [⟨some 4, (.assign (.const (.bool true))), 4, none⟩])
  .ret)))
theorem lit161 : Lit Try.prog 161 27 [] [.tmp 4] c161 := ⟨⟨Try.f161, _, Try.func161, rfl, by kernel_rfl, rfl, rfl, by kernel_rfl, by kernel_rfl⟩, by decide, by kernel_rfl⟩
/-- laws.szTable -/
def c162 : LC :=
  (.seq (.rgn [] [⟨some 2, (.box 187 (.tmp 0)), 0, none⟩,
    ⟨some 4, (.assign (.const (.int .i64 0))), 3, none⟩])
  (.seq (.rgn [] [⟨some 5, (.move (.tmp 1)), 3, none⟩,
    ⟨some 6, (.fieldAddr 187 (.tmp 2) 0), 0, none⟩,
    ⟨some 7, (.load 9 (.tmp 6)), 9, none⟩,
    ⟨some 8, (.call { callee := (.builtin .len), args := #[(.tmp 7)], argTypes := #[9] }), 3, none⟩,
    ⟨some 9, (.binOp .sub 3 (.tmp 5) (.tmp 8) 3), 3, none⟩,
    ⟨some 1, (.assign (.tmp 9)), 3, none⟩])
  (.seq (.seq (.rgn [] [⟨some 10, (.move (.tmp 1)), 3, none⟩,
    ⟨some 11, (.binOp .lss 3 (.tmp 10) (.const (.int .i64 0)) 3), 4, none⟩])
  (.cond (.tmp 11)
    (.seq (.rgn [] [⟨some 4, (.assign (.const (.int .i64 (-1)))), 3, none⟩])
    .ret)
    .skip))
  (.seq (.rgn [] [⟨some 12, (.fieldAddr 187 (.tmp 2) 1), 0, none⟩,
    ⟨some 13, (.load 42 (.tmp 12)), 42, none⟩,
    ⟨some 14, (.move (.tmp 1)), 3, none⟩,
    ⟨some 15, (.call { callee := (.value (.func 25)), args := #[(.tmp 13), (.tmp 14)], argTypes := #[42, 3] }), 3, none⟩,
    ⟨some 1, (.assign (.tmp 15)), 3, none⟩])
  (.seq (.seq (.rgn [] [⟨some 16, (.move (.tmp 1)), 3, none⟩,
    ⟨some 17, (.binOp .lss 3 (.tmp 16) (.const (.int .i64 0)) 3), 4, none⟩])
  (.cond (.tmp 17)
    (.seq (.rgn [] [⟨some 4, (.assign (.const (.int .i64 (-1)))), 3, none⟩])
    .ret)
    .skip))
  (.seq (.rgn [] [⟨some 18, (.move (.tmp 1)), 3, none⟩,
    ⟨some 4, (.assign (.tmp 18)), 3, none⟩])
  .ret))))))
theorem lit162 : Lit Try.prog 162 19 [2] [.tmp 4] c162 := ⟨⟨Try.f162, _, Try.func162, rfl, by kernel_rfl, rfl, rfl, by kernel_rfl, by kernel_rfl⟩, by decide, by kernel_rfl⟩
/-- laws.toTable -/
def c163 : LC :=
  (.seq (.rgn [] [⟨some 1, (.box 187 (.tmp 0)), 0, none⟩,
    ⟨some 2, (.alloc 157), 0, none⟩])
  (.seq (.rgn [] [⟨some 3, (.alloc 157), 0, none⟩])
  (.seq (.rgn [] [⟨some 4, (.fieldAddr 187 (.tmp 1) 0), 0, none⟩,
    ⟨some 5, (.load 9 (.tmp 4)), 9, none⟩,
    ⟨some 6, (.fieldAddr 157 (.tmp 3) 0), 0, none⟩,
    ⟨none, (.store 9 (.tmp 6) (.tmp 5)), 0, none⟩])
  (.seq (.rgn [] [⟨some 7, (.fieldAddr 187 (.tmp 1) 1), 0, none⟩,
    ⟨some 8, (.load 42 (.tmp 7)), 42, none⟩,
    ⟨some 9, (.call { callee := (.value (.func 27)), args := #[(.tmp 8)], argTypes := #[42] }), 24, none⟩,
    ⟨some 10, (.fieldAddr 157 (.tmp 3) 1), 0, none⟩,
    ⟨none, (.store 24 (.tmp 10) (.tmp 9)), 0, none⟩])
  (.seq (.rgn [11] [⟨some 11, (.load 157 (.tmp 3)), 157, none⟩,
    ⟨none, (.store 157 (.tmp 2) (.tmp 11)), 0, none⟩])
  .ret)))))
theorem lit163 : Lit Try.prog 163 12 [1, 2, 3] [.cell 2 157] c163 := ⟨⟨Try.f163, _, Try.func163, rfl, by kernel_rfl, rfl, rfl, by kernel_rfl, by kernel_rfl⟩, by decide, by kernel_rfl⟩
/-- impl.copyRelation -/
def c164 : LC :=
  (.seq (.rgn [] [⟨some 1, (.box 24 (.tmp 0)), 0, none⟩,
    ⟨some 2, (.alloc 24), 0, none⟩])
  (.seq (.drw [] [([1], [3]), ([1, 3], [4]), ([1], [5]), ([1, 5], [6]), ([6], [7]), ([4, 7], [4, 7, 8]), ([2, 8], [2, 8])] [[], [0], [], [2], [3], [1, 4], [5, 4, 0, 1, 2, 3, 4, 5]] [⟨some 3, (.fieldAddr 24 (.tmp 1) 0), 0, none⟩,
    ⟨some 4, (.load 3 (.tmp 3)), 3, none⟩,
    ⟨some 5, (.fieldAddr 24 (.tmp 1) 1), 0, none⟩,
    ⟨some 6, (.load 22 (.tmp 5)), 22, none⟩,
    ⟨some 7, (.call { callee := (.value (.func 118)), args := #[(.tmp 6)], argTypes := #[22] }), 22, none⟩,
    ⟨some 8, (.build 24 #[(0, (.tmp 4)), (1, (.tmp 7))]), 24, none⟩,
    ⟨none, (.store 24 (.tmp 2) (.tmp 8)), 0, none⟩])
  .ret))
theorem lit164 : Lit Try.prog 164 9 [1, 2] [.cell 2 24] c164 := ⟨⟨Try.f164, _, Try.func164, rfl, by kernel_rfl, rfl, rfl, by kernel_rfl, by kernel_rfl⟩, by decide, by kernel_rfl⟩
/-- laws.eqTable -/
def c165 : LC :=
  (.seq (.rgn [] [⟨some 2, (.box 157 (.tmp 0)), 0, none⟩,
    ⟨some 3, (.box 157 (.tmp 1)), 0, none⟩,
    ⟨some 4, (.assign (.const (.bool false))), 4, none⟩])
  (.seq (.seq (.rgn [] [⟨some 5, (.fieldAddr 157 (.tmp 2) 0), 0, none⟩,
    ⟨some 6, (.load 9 (.tmp 5)), 9, none⟩,
    ⟨some 7, (.fieldAddr 157 (.tmp 3) 0), 0, none⟩,
    ⟨some 8, (.load 9 (.tmp 7)), 9, none⟩,
    ⟨some 9, (.binOp .neq 9 (.tmp 6) (.tmp 8) 9), 4, none⟩])
  (.cond (.tmp 9)
    (.seq (.rgn [] [⟨some 4, (.assign (.const (.bool false))), 4, none⟩])
    .ret)
    .skip))
  (.seq (.seq (.rgn [] [⟨some 10, (.fieldAddr 157 (.tmp 2) 1), 0, none⟩,
    ⟨some 11, (.load 24 (.tmp 10)), 24, none⟩,
    ⟨some 12, (.fieldAddr 157 (.tmp 3) 1), 0, none⟩,
    ⟨some 13, (.load 24 (.tmp 12)), 24, none⟩,
    ⟨some 14, (.call { callee := (.value (.func 17)), args := #[(.tmp 11), (.tmp 13)], argTypes := #[24, 24] }), 4, none⟩,
    ⟨some 15, (.unOp .not 4 (.tmp 14)), 4, none⟩])
  (.cond (.tmp 15)
    (.seq (.rgn [] [⟨some 4, (.assign (.const (.bool false))), 4, none⟩])
    .ret)
    .skip))
  (.seq (.rgn [] [⟨some 4, (.assign (.const (.bool true))), 4, none⟩])
  .ret))))
theorem lit165 : Lit Try.prog 165 16 [2, 3] [.tmp 4] c165 := ⟨⟨Try.f165, _, Try.func165, rfl, by kernel_rfl, rfl, rfl, by kernel_rfl, by kernel_rfl⟩, by decide, by kernel_rfl⟩
/-- impl.CompareRows -/
def c168 : LC :=
  (.seq (.rgn [] [⟨some 4, (.assign (.const (.int .i64 0))), 3, none⟩])
  (.seq (.seq (.rgn [] [⟨some 5, (.assign (.const (.int .i64 0))), 3, none⟩])
  (.blk 0
    (.loop []
      (.seq (.seq (.rgn [] [⟨some 6, (.move (.tmp 5)), 3, none⟩,
        ⟨some 7, (.move (.tmp 0)), 30, none⟩,
        ⟨some 8, (.call { callee := (.builtin .len), args := #[(.tmp 7)], argTypes := #[30] }), 3, none⟩,
        ⟨some 9, (.binOp .lss 3 (.tmp 6) (.tmp 8) 3), 4, none⟩,
        ⟨some 10, (.move (.tmp 9)), 4, none⟩,
        ⟨some 11, (.move (.tmp 5)), 3, some (some 10, true)⟩,
        ⟨some 12, (.move (.tmp 1)), 30, some (some 10, true)⟩,
        ⟨some 13, (.call { callee := (.builtin .len), args := #[(.tmp 12)], argTypes := #[30] }), 3, some (some 10, true)⟩,
        ⟨some 14, (.binOp .lss 3 (.tmp 11) (.tmp 13) 3), 4, some (some 10, true)⟩,
        ⟨some 15, (.pick (.tmp 10) (.tmp 14) (.const (.bool false))), 4, none⟩])
      (.cond (.tmp 15)
        .skip
        (.exit 0)))
      (.seq (.blk 1
        (.seq (.drw [] [([0], [18]), ([5], [19]), ([18, 19], [20]), ([20], [21]), ([1], [22]), ([5], [23]), ([22, 23], [24]), ([24], [25]), ([21, 25], [26])] [[], [], [0, 1], [2], [], [], [4, 5], [6], [3, 7]] [⟨some 18, (.move (.tmp 0)), 30, none⟩,
          ⟨some 19, (.move (.tmp 5)), 3, none⟩,
          ⟨some 20, (.indexAddr 30 (.tmp 18) (.tmp 19)), 0, none⟩,
          ⟨some 21, (.load 3 (.tmp 20)), 3, none⟩,
          ⟨some 22, (.move (.tmp 1)), 30, none⟩,
          ⟨some 23, (.move (.tmp 5)), 3, none⟩,
          ⟨some 24, (.indexAddr 30 (.tmp 22) (.tmp 23)), 0, none⟩,
          ⟨some 25, (.load 3 (.tmp 24)), 3, none⟩,
          ⟨some 26, (.binOp .neq 3 (.tmp 21) (.tmp 25) 3), 4, none⟩])
        (.cond (.tmp 26)
          (.seq (.drw [] [([0], [27]), ([5], [28]), ([27, 28], [29]), ([29], [30]), ([1], [31]), ([5], [32]), ([31, 32], [33]), ([33], [34]), ([30, 34], [35]), ([35], [4, 35])] [[], [], [0, 1], [2], [], [], [4, 5], [6], [3, 7], [8, 8, 0, 1, 2, 3, 4, 5, 6, 7, 8]] [⟨some 27, (.move (.tmp 0)), 30, none⟩,
            ⟨some 28, (.move (.tmp 5)), 3, none⟩,
            ⟨some 29, (.indexAddr 30 (.tmp 27) (.tmp 28)), 0, none⟩,
            ⟨some 30, (.load 3 (.tmp 29)), 3, none⟩,
            ⟨some 31, (.move (.tmp 1)), 30, none⟩,
            ⟨some 32, (.move (.tmp 5)), 3, none⟩,
            ⟨some 33, (.indexAddr 30 (.tmp 31) (.tmp 32)), 0, none⟩,
            ⟨some 34, (.load 3 (.tmp 33)), 3, none⟩,
            ⟨some 35, (.call { callee := (.value (.func 175)), args := #[(.tmp 30), (.tmp 34)], argTypes := #[3, 3] }), 3, none⟩,
            ⟨some 4, (.assign (.tmp 35)), 3, none⟩])
          .ret)
          .skip)))
      (.rgn [] [⟨some 16, (.move (.tmp 5)), 3, none⟩,
        ⟨some 17, (.binOp .add 3 (.tmp 16) (.const (.int .i64 1)) 3), 3, none⟩,
        ⟨some 5, (.assign (.tmp 17)), 3, none⟩]))))))
  (.seq (.rgn [] [⟨some 36, (.move (.tmp 0)), 30, none⟩,
    ⟨some 37, (.call { callee := (.builtin .len), args := #[(.tmp 36)], argTypes := #[30] }), 3, none⟩,
    ⟨some 38, (.move (.tmp 1)), 30, none⟩,
    ⟨some 39, (.call { callee := (.builtin .len), args := #[(.tmp 38)], argTypes := #[30] }), 3, none⟩,
    ⟨some 40, (.call { callee := (.value (.func 175)), args := #[(.tmp 37), (.tmp 39)], argTypes := #[3, 3] }), 3, none⟩,
    ⟨some 4, (.assign (.tmp 40)), 3, none⟩])
  .ret)))
theorem lit168 : Lit Try.prog 168 41 [] [.tmp 4] c168 := ⟨⟨Try.f168, _, Try.func168, rfl, by kernel_rfl, rfl, rfl, by kernel_rfl, by kernel_rfl⟩, by decide, by kernel_rfl⟩
/-- impl.isLetters -/
def c171 : LC :=
  (.seq (.rgn [] [⟨some 4, (.assign (.const (.bool false))), 4, none⟩])
  (.seq (.seq (.rgn [] [⟨some 6, (.move (.tmp 0)), 9, none⟩,
    ⟨some 7, (.call { callee := (.builtin .len), args := #[(.tmp 6)], argTypes := #[9] }), 3, none⟩,
    ⟨some 8, (.binOp .lss 3 (.tmp 7) (.const (.int .i64 1)) 3), 4, none⟩,
    ⟨some 9, (.move (.tmp 8)), 4, none⟩,
    ⟨some 10, (.move (.tmp 0)), 9, some (some 9, false)⟩,
    ⟨some 11, (.call { callee := (.builtin .len), args := #[(.tmp 10)], argTypes := #[9] }), 3, some (some 9, false)⟩,
    ⟨some 12, (.move (.tmp 1)), 3, some (some 9, false)⟩,
    ⟨some 13, (.binOp .gtr 3 (.tmp 11) (.tmp 12) 3), 4, some (some 9, false)⟩,
    ⟨some 14, (.pick (.tmp 9) (.const (.bool true)) (.tmp 13)), 4, none⟩])
  (.cond (.tmp 14)
    (.seq (.rgn [] [⟨some 4, (.assign (.const (.bool false))), 4, none⟩])
    .ret)
    .skip))
  (.seq (.seq (.rgn [] [⟨some 5, (.assign (.const (.int .i64 0))), 3, none⟩])
  (.blk 0
    (.loop []
      (.seq (.seq (.rgn [] [⟨some 15, (.move (.tmp 5)), 3, none⟩,
        ⟨some 16, (.move (.tmp 0)), 9, none⟩,
        ⟨some 17, (.call { callee := (.builtin .len), args := #[(.tmp 16)], argTypes := #[9] }), 3, none⟩,
        ⟨some 18, (.binOp .lss 3 (.tmp 15) (.tmp 17) 3), 4, none⟩])
      (.cond (.tmp 18)
        .skip
        (.exit 0)))
      (.seq (.blk 1
        (.seq (.rgn [] [⟨some 21, (.move (.tmp 0)), 9, none⟩,
          ⟨some 22, (.move (.tmp 5)), 3, none⟩,
          ⟨some 23, (.index 9 (.tmp 21) (.tmp 22)), 5, none⟩,
          ⟨some 24, (.binOp .lss 5 (.tmp 23) (.const (.int .u8 97)) 5), 4, none⟩,
          ⟨some 25, (.move (.tmp 24)), 4, none⟩,
          ⟨some 26, (.move (.tmp 0)), 9, some (some 25, false)⟩,
          ⟨some 27, (.move (.tmp 5)), 3, some (some 25, false)⟩,
          ⟨some 28, (.index 9 (.tmp 26) (.tmp 27)), 5, some (some 25, false)⟩,
          ⟨some 29, (.binOp .gtr 5 (.tmp 28) (.const (.int .u8 122)) 5), 4, some (some 25, false)⟩,
          ⟨some 30, (.pick (.tmp 25) (.const (.bool true)) (.tmp 29)), 4, none⟩])
        (.cond (.tmp 30)
          (.seq (.rgn [] [⟨some 4, (.assign (.const (.bool false))), 4, none⟩])
          .ret)
          .skip)))
      (.rgn [] [⟨some 19, (.move (.tmp 5)), 3, none⟩,
        ⟨some 20, (.binOp .add 3 (.tmp 19) (.const (.int .i64 1)) 3), 3, none⟩,
        ⟨some 5, (.assign (.tmp 20)), 3, none⟩]))))))
  (.seq (.rgn [] [⟨some 4, (.assign (.const (.bool true))), 4, none⟩])
  .ret))))
theorem lit171 : Lit Try.prog 171 31 [] [.tmp 4] c171 := ⟨⟨Try.f171, _, Try.func171, rfl, by kernel_rfl, rfl, rfl, by kernel_rfl, by kernel_rfl⟩, by decide, by kernel_rfl⟩
/-- impl.hasInt -/
def c172 : LC :=
  (.seq (.rgn [] [⟨some 4, (.assign (.const (.bool false))), 4, none⟩])
  (.seq (.rgn [] [⟨some 5, (.move (.tmp 0)), 30, none⟩,
    ⟨some 6, (.move (.tmp 1)), 3, none⟩,
    ⟨some 7, (.call { callee := (.value (.func 104)), args := #[(.tmp 5), (.tmp 6)], argTypes := #[30, 3] }), 3, none⟩,
    ⟨some 8, (.binOp .geq 3 (.tmp 7) (.const (.int .i64 0)) 3), 4, none⟩,
    ⟨some 4, (.assign (.tmp 8)), 4, none⟩])
  .ret))
theorem lit172 : Lit Try.prog 172 9 [] [.tmp 4] c172 := ⟨⟨Try.f172, _, Try.func172, rfl, by kernel_rfl, rfl, rfl, by kernel_rfl, by kernel_rfl⟩, by decide, by kernel_rfl⟩
/-- impl.compareInts -/
def c175 : LC :=
  (.seq (.rgn [] [⟨some 4, (.assign (.const (.int .i64 0))), 3, none⟩])
  (.seq (.blk 0
    (.seq (.rgn [] [⟨some 6, (.move (.tmp 0)), 3, none⟩,
      ⟨some 7, (.move (.tmp 1)), 3, none⟩,
      ⟨some 8, (.binOp .lss 3 (.tmp 6) (.tmp 7) 3), 4, none⟩,
      ⟨some 5, (.assign (.tmp 8)), 4, none⟩])
    (.cond (.tmp 5)
      (.seq (.rgn [] [⟨some 4, (.assign (.const (.int .i64 (-1)))), 3, none⟩])
      .ret)
      (.seq (.rgn [] [⟨some 10, (.move (.tmp 0)), 3, none⟩,
        ⟨some 11, (.move (.tmp 1)), 3, none⟩,
        ⟨some 12, (.binOp .gtr 3 (.tmp 10) (.tmp 11) 3), 4, none⟩,
        ⟨some 9, (.assign (.tmp 12)), 4, none⟩])
      (.cond (.tmp 9)
        (.seq (.rgn [] [⟨some 4, (.assign (.const (.int .i64 1))), 3, none⟩])
        .ret)
        .skip)))))
  (.seq (.rgn [] [⟨some 4, (.assign (.const (.int .i64 0))), 3, none⟩])
  .ret)))
theorem lit175 : Lit Try.prog 175 13 [] [.tmp 4] c175 := ⟨⟨Try.f175, _, Try.func175, rfl, by kernel_rfl, rfl, rfl, by kernel_rfl, by kernel_rfl⟩, by decide, by kernel_rfl⟩
end Go.Proofs.Ytkmkbpphdalgoaa
