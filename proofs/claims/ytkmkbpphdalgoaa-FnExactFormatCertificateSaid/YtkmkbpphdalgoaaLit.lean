/-
  The functions' code as the program holds it, without places and edges; printed by genlit.py. No conditions.
-/
import Derived.Test.YtkmkbpphdalgoaaTb
namespace Go.Proofs.Ytkmkbpphdalgoaa
open Go.RowKit
set_option linter.unusedVariables false
set_option maxRecDepth 100000
/-- laws.FnExactFormatCertificate -/
def c4 : LC :=
  (.seq (.rgn [] [⟨some 1, (.box 33 (.tmp 0)), 0, none⟩,
    ⟨some 2, (.assign (.const (.bool false))), 4, none⟩])
  (.seq (.rgn [] [⟨some 3, (.assign (.const (.int .i64 1048576))), 3, none⟩])
  (.seq (.rgn [] [⟨some 7, (.load 33 (.tmp 1)), 33, none⟩,
    ⟨some 8, (.move (.tmp 3)), 3, none⟩,
    ⟨some 9, (.call { callee := (.value (.func 20)), args := #[(.tmp 7), (.tmp 8)], argTypes := #[33, 3] }), 3, none⟩,
    ⟨some 3, (.assign (.tmp 9)), 3, none⟩])
  (.seq (.seq (.rgn [] [⟨some 10, (.move (.tmp 3)), 3, none⟩,
    ⟨some 11, (.binOp .lss 3 (.tmp 10) (.const (.int .i64 0)) 3), 4, none⟩])
  (.cond (.tmp 11)
    (.seq (.rgn [] [⟨some 2, (.assign (.const (.bool true))), 4, none⟩])
    .ret)
    .skip))
  (.seq (.rgn [] [⟨some 12, (.load 33 (.tmp 1)), 33, none⟩,
    ⟨some 13, (.call { callee := (.value (.func 22)), args := #[(.tmp 12)], argTypes := #[33] }), 38, none⟩,
    ⟨some 14, (.call { callee := (.value (.func 21)), args := #[(.tmp 13)], argTypes := #[38] }), 9, none⟩,
    ⟨some 4, (.assign (.tmp 14)), 9, none⟩])
  (.seq (.rgn [] [⟨some 15, (.load 33 (.tmp 1)), 33, none⟩,
    ⟨some 16, (.call { callee := (.value (.func 22)), args := #[(.tmp 15)], argTypes := #[33] }), 38, none⟩,
    ⟨some 5, (.alloc 38), 0, none⟩,
    ⟨none, (.store 38 (.tmp 5) (.tmp 16)), 0, none⟩])
  (.seq (.rgn [] [⟨some 17, (.load 38 (.tmp 5)), 38, none⟩,
    ⟨some 18, (.call { callee := (.value (.func 23)), args := #[(.tmp 17)], argTypes := #[38] }), 9, none⟩,
    ⟨some 6, (.assign (.tmp 18)), 9, none⟩])
  (.seq (.seq (.rgn [] [⟨some 19, (.move (.tmp 6)), 9, none⟩,
    ⟨some 20, (.move (.tmp 4)), 9, none⟩,
    ⟨some 21, (.binOp .neq 9 (.tmp 19) (.tmp 20) 9), 4, none⟩])
  (.cond (.tmp 21)
    (.seq (.rgn [] [⟨some 2, (.assign (.const (.bool false))), 4, none⟩])
    .ret)
    .skip))
  (.seq (.seq (.drw [] [([5], [22]), ([1], [23]), ([23], [24]), ([22, 24], [25]), ([25], [26])] [[], [], [1], [0, 2, 2], [3]] [⟨some 22, (.load 38 (.tmp 5)), 38, none⟩,
    ⟨some 23, (.load 33 (.tmp 1)), 33, none⟩,
    ⟨some 24, (.call { callee := (.value (.func 22)), args := #[(.tmp 23)], argTypes := #[33] }), 38, none⟩,
    ⟨some 25, (.call { callee := (.value (.func 24)), args := #[(.tmp 22), (.tmp 24)], argTypes := #[38, 38] }), 4, none⟩,
    ⟨some 26, (.unOp .not 4 (.tmp 25)), 4, none⟩])
  (.cond (.tmp 26)
    (.seq (.rgn [] [⟨some 2, (.assign (.const (.bool false))), 4, none⟩])
    .ret)
    .skip))
  (.seq (.rgn [] [⟨some 2, (.assign (.const (.bool true))), 4, none⟩])
  .ret))))))))))
theorem lit4 : Lit Try.prog 4 27 [1, 5] [.tmp 2] c4 := ⟨⟨Try.f4, _, Try.func4, rfl, by kernel_rfl, rfl, rfl, by kernel_rfl, by kernel_rfl⟩, by decide, by kernel_rfl⟩
/-- laws.szCertificate -/
def c20 : LC :=
  (.seq (.rgn [] [⟨some 2, (.box 33 (.tmp 0)), 0, none⟩,
    ⟨some 4, (.assign (.const (.int .i64 0))), 3, none⟩])
  (.seq (.rgn [] [⟨some 5, (.fieldAddr 33 (.tmp 2) 0), 0, none⟩,
    ⟨some 6, (.load 30 (.tmp 5)), 30, none⟩,
    ⟨some 7, (.move (.tmp 1)), 3, none⟩,
    ⟨some 8, (.call { callee := (.value (.func 87)), args := #[(.tmp 6), (.tmp 7)], argTypes := #[30, 3] }), 3, none⟩,
    ⟨some 1, (.assign (.tmp 8)), 3, none⟩])
  (.seq (.seq (.rgn [] [⟨some 9, (.move (.tmp 1)), 3, none⟩,
    ⟨some 10, (.binOp .lss 3 (.tmp 9) (.const (.int .i64 0)) 3), 4, none⟩])
  (.cond (.tmp 10)
    (.seq (.rgn [] [⟨some 4, (.assign (.const (.int .i64 (-1)))), 3, none⟩])
    .ret)
    .skip))
  (.seq (.rgn [] [⟨some 11, (.fieldAddr 33 (.tmp 2) 1), 0, none⟩,
    ⟨some 12, (.load 31 (.tmp 11)), 31, none⟩,
    ⟨some 13, (.move (.tmp 1)), 3, none⟩,
    ⟨some 14, (.call { callee := (.value (.func 88)), args := #[(.tmp 12), (.tmp 13)], argTypes := #[31, 3] }), 3, none⟩,
    ⟨some 1, (.assign (.tmp 14)), 3, none⟩])
  (.seq (.seq (.rgn [] [⟨some 15, (.move (.tmp 1)), 3, none⟩,
    ⟨some 16, (.binOp .lss 3 (.tmp 15) (.const (.int .i64 0)) 3), 4, none⟩])
  (.cond (.tmp 16)
    (.seq (.rgn [] [⟨some 4, (.assign (.const (.int .i64 (-1)))), 3, none⟩])
    .ret)
    .skip))
  (.seq (.rgn [] [⟨some 17, (.fieldAddr 33 (.tmp 2) 2), 0, none⟩,
    ⟨some 18, (.load 30 (.tmp 17)), 30, none⟩,
    ⟨some 19, (.move (.tmp 1)), 3, none⟩,
    ⟨some 20, (.call { callee := (.value (.func 87)), args := #[(.tmp 18), (.tmp 19)], argTypes := #[30, 3] }), 3, none⟩,
    ⟨some 1, (.assign (.tmp 20)), 3, none⟩])
  (.seq (.seq (.rgn [] [⟨some 21, (.move (.tmp 1)), 3, none⟩,
    ⟨some 22, (.binOp .lss 3 (.tmp 21) (.const (.int .i64 0)) 3), 4, none⟩])
  (.cond (.tmp 22)
    (.seq (.rgn [] [⟨some 4, (.assign (.const (.int .i64 (-1)))), 3, none⟩])
    .ret)
    .skip))
  (.seq (.rgn [] [⟨some 23, (.move (.tmp 1)), 3, none⟩,
    ⟨some 4, (.assign (.tmp 23)), 3, none⟩])
  .ret))))))))
theorem lit20 : Lit Try.prog 20 24 [2] [.tmp 4] c20 := ⟨⟨Try.f20, _, Try.func20, rfl, by kernel_rfl, rfl, rfl, by kernel_rfl, by kernel_rfl⟩, by decide, by kernel_rfl⟩
/-- spec.FormatCertificate -/
def c21 : LC :=
  (.seq (.rgn [] [⟨some 1, (.box 38 (.tmp 0)), 0, none⟩,
    ⟨some 2, (.assign (.const (.string { data := #[] }))), 9, none⟩])
  (.seq (.seq (.rgn [] [⟨some 4, (.fieldAddr 38 (.tmp 1) 0), 0, none⟩,
    ⟨some 5, (.load 30 (.tmp 4)), 30, none⟩,
    ⟨some 6, (.call { callee := (.builtin .len), args := #[(.tmp 5)], argTypes := #[30] }), 3, none⟩,
    ⟨some 7, (.binOp .gtr 3 (.tmp 6) (.const (.int .i64 5)) 3), 4, none⟩,
    ⟨some 8, (.move (.tmp 7)), 4, none⟩,
    ⟨some 9, (.fieldAddr 38 (.tmp 1) 1), 0, some (some 8, false)⟩,
    ⟨some 10, (.load 36 (.tmp 9)), 36, some (some 8, false)⟩,
    ⟨some 11, (.call { callee := (.builtin .len), args := #[(.tmp 10)], argTypes := #[36] }), 3, some (some 8, false)⟩,
    ⟨some 12, (.binOp .gtr 3 (.tmp 11) (.const (.int .i64 4)) 3), 4, some (some 8, false)⟩,
    ⟨some 13, (.pick (.tmp 8) (.const (.bool true)) (.tmp 12)), 4, none⟩,
    ⟨some 14, (.move (.tmp 13)), 4, none⟩,
    ⟨some 15, (.fieldAddr 38 (.tmp 1) 2), 0, some (some 14, false)⟩,
    ⟨some 16, (.load 30 (.tmp 15)), 30, some (some 14, false)⟩,
    ⟨some 17, (.call { callee := (.builtin .len), args := #[(.tmp 16)], argTypes := #[30] }), 3, some (some 14, false)⟩,
    ⟨some 18, (.binOp .gtr 3 (.tmp 17) (.const (.int .i64 4)) 3), 4, some (some 14, false)⟩,
    ⟨some 19, (.pick (.tmp 14) (.const (.bool true)) (.tmp 18)), 4, none⟩])
  (.cond (.tmp 19)
    (.seq (.rgn [] [⟨some 2, (.assign (.const (.string { data := #[] }))), 9, none⟩])
    .ret)
    .skip))
  (.seq (.rgn [] [⟨some 20, (.fieldAddr 38 (.tmp 1) 1), 0, none⟩,
    ⟨some 21, (.load 36 (.tmp 20)), 36, none⟩,
    ⟨some 22, (.call { callee := (.value (.func 89)), args := #[(.tmp 21)], argTypes := #[36] }), 9, none⟩,
    ⟨some 3, (.assign (.tmp 22)), 9, none⟩])
  (.seq (.seq (.rgn [] [⟨some 23, (.move (.tmp 3)), 9, none⟩,
    ⟨some 24, (.binOp .eql 9 (.tmp 23) (.const (.string { data := #[] })) 9), 4, none⟩,
    ⟨some 25, (.move (.tmp 24)), 4, none⟩,
    ⟨some 26, (.fieldAddr 38 (.tmp 1) 1), 0, some (some 25, true)⟩,
    ⟨some 27, (.load 36 (.tmp 26)), 36, some (some 25, true)⟩,
    ⟨some 28, (.call { callee := (.builtin .len), args := #[(.tmp 27)], argTypes := #[36] }), 3, some (some 25, true)⟩,
    ⟨some 29, (.binOp .gtr 3 (.tmp 28) (.const (.int .i64 0)) 3), 4, some (some 25, true)⟩,
    ⟨some 30, (.pick (.tmp 25) (.tmp 29) (.const (.bool false))), 4, none⟩])
  (.cond (.tmp 30)
    (.seq (.rgn [] [⟨some 2, (.assign (.const (.string { data := #[] }))), 9, none⟩])
    .ret)
    .skip))
  (.seq (.drw [] [([1], [31]), ([1, 31], [32]), ([32], [33]), ([33], [34]), ([3], [35]), ([34, 35], [36]), ([36], [37]), ([1], [38]), ([1, 38], [39]), ([39], [40]), ([37, 40], [41]), ([41], [42]), ([1], [43]), ([1, 43], [44]), ([44], [45]), ([42, 45], [46]), ([46], [47]), ([1], [48]), ([1, 48], [49]), ([49], [50]), ([47, 50], [51]), ([51], [2, 51])] [[], [0], [1], [2], [], [3, 4], [5], [], [7], [8, 2], [6, 9], [10], [], [12], [13, 9], [11, 14], [15], [], [17], [18, 14], [16, 19], [20, 19, 0, 1, 2, 3, 4, 5, 6, 7, 8, 9, 10, 11, 12, 13, 14, 15, 16, 17, 18, 19, 20]] [⟨some 31, (.fieldAddr 38 (.tmp 1) 0), 0, none⟩,
    ⟨some 32, (.load 30 (.tmp 31)), 30, none⟩,
    ⟨some 33, (.call { callee := (.value (.func 90)), args := #[(.tmp 32)], argTypes := #[30] }), 9, none⟩,
    ⟨some 34, (.binOp .add 9 (.tmp 33) (.const (.string { data := #[59] })) 9), 9, none⟩,
    ⟨some 35, (.move (.tmp 3)), 9, none⟩,
    ⟨some 36, (.binOp .add 9 (.tmp 34) (.tmp 35) 9), 9, none⟩,
    ⟨some 37, (.binOp .add 9 (.tmp 36) (.const (.string { data := #[59] })) 9), 9, none⟩,
    ⟨some 38, (.fieldAddr 38 (.tmp 1) 2), 0, none⟩,
    ⟨some 39, (.load 30 (.tmp 38)), 30, none⟩,
    ⟨some 40, (.call { callee := (.value (.func 91)), args := #[(.tmp 39)], argTypes := #[30] }), 9, none⟩,
    ⟨some 41, (.binOp .add 9 (.tmp 37) (.tmp 40) 9), 9, none⟩,
    ⟨some 42, (.binOp .add 9 (.tmp 41) (.const (.string { data := #[59] })) 9), 9, none⟩,
    ⟨some 43, (.fieldAddr 38 (.tmp 1) 3), 0, none⟩,
    ⟨some 44, (.load 3 (.tmp 43)), 3, none⟩,
    ⟨some 45, (.call { callee := (.value (.func 92)), args := #[(.tmp 44)], argTypes := #[3] }), 9, none⟩,
    ⟨some 46, (.binOp .add 9 (.tmp 42) (.tmp 45) 9), 9, none⟩,
    ⟨some 47, (.binOp .add 9 (.tmp 46) (.const (.string { data := #[59] })) 9), 9, none⟩,
    ⟨some 48, (.fieldAddr 38 (.tmp 1) 4), 0, none⟩,
    ⟨some 49, (.load 3 (.tmp 48)), 3, none⟩,
    ⟨some 50, (.call { callee := (.value (.func 92)), args := #[(.tmp 49)], argTypes := #[3] }), 9, none⟩,
    ⟨some 51, (.binOp .add 9 (.tmp 47) (.tmp 50) 9), 9, none⟩,
    ⟨some 2, (.assign (.tmp 51)), 9, none⟩])
  .ret)))))
theorem lit21 : Lit Try.prog 21 52 [1] [.tmp 2] c21 := ⟨⟨Try.f21, _, Try.func21, rfl, by kernel_rfl, rfl, rfl, by kernel_rfl, by kernel_rfl⟩, by decide, by kernel_rfl⟩
/-- laws.toCertificate -/
def c22 : LC :=
  (.seq (.rgn [] [⟨some 1, (.box 33 (.tmp 0)), 0, none⟩,
    ⟨some 2, (.alloc 38), 0, none⟩])
  (.seq (.rgn [] [⟨some 3, (.alloc 38), 0, none⟩])
  (.seq (.rgn [] [⟨some 4, (.fieldAddr 33 (.tmp 1) 0), 0, none⟩,
    ⟨some 5, (.load 30 (.tmp 4)), 30, none⟩,
    ⟨some 6, (.call { callee := (.value (.func 32)), args := #[(.tmp 5)], argTypes := #[30] }), 30, none⟩,
    ⟨some 7, (.fieldAddr 38 (.tmp 3) 0), 0, none⟩,
    ⟨none, (.store 30 (.tmp 7) (.tmp 6)), 0, none⟩])
  (.seq (.rgn [] [⟨some 8, (.fieldAddr 33 (.tmp 1) 1), 0, none⟩,
    ⟨some 9, (.load 31 (.tmp 8)), 31, none⟩,
    ⟨some 10, (.call { callee := (.value (.func 93)), args := #[(.tmp 9)], argTypes := #[31] }), 36, none⟩,
    ⟨some 11, (.fieldAddr 38 (.tmp 3) 1), 0, none⟩,
    ⟨none, (.store 36 (.tmp 11) (.tmp 10)), 0, none⟩])
  (.seq (.rgn [] [⟨some 12, (.fieldAddr 33 (.tmp 1) 2), 0, none⟩,
    ⟨some 13, (.load 30 (.tmp 12)), 30, none⟩,
    ⟨some 14, (.call { callee := (.value (.func 32)), args := #[(.tmp 13)], argTypes := #[30] }), 30, none⟩,
    ⟨some 15, (.fieldAddr 38 (.tmp 3) 2), 0, none⟩,
    ⟨none, (.store 30 (.tmp 15) (.tmp 14)), 0, none⟩])
  (.seq (.rgn [] [⟨some 16, (.fieldAddr 33 (.tmp 1) 3), 0, none⟩,
    ⟨some 17, (.load 3 (.tmp 16)), 3, none⟩,
    ⟨some 18, (.fieldAddr 38 (.tmp 3) 3), 0, none⟩,
    ⟨none, (.store 3 (.tmp 18) (.tmp 17)), 0, none⟩])
  (.seq (.rgn [] [⟨some 19, (.fieldAddr 33 (.tmp 1) 4), 0, none⟩,
    ⟨some 20, (.load 3 (.tmp 19)), 3, none⟩,
    ⟨some 21, (.fieldAddr 38 (.tmp 3) 4), 0, none⟩,
    ⟨none, (.store 3 (.tmp 21) (.tmp 20)), 0, none⟩])
  (.seq (.rgn [22] [⟨some 22, (.load 38 (.tmp 3)), 38, none⟩,
    ⟨none, (.store 38 (.tmp 2) (.tmp 22)), 0, none⟩])
  .ret))))))))
theorem lit22 : Lit Try.prog 22 23 [1, 2, 3] [.cell 2 38] c22 := ⟨⟨Try.f22, _, Try.func22, rfl, by kernel_rfl, rfl, rfl, by kernel_rfl, by kernel_rfl⟩, by decide, by kernel_rfl⟩
/-- impl.FormatCertificate -/
def c23 : LC :=
  (.seq (.rgn [] [⟨some 1, (.box 38 (.tmp 0)), 0, none⟩,
    ⟨some 2, (.assign (.const (.string { data := #[] }))), 9, none⟩])
  (.seq (.rgn [5] [⟨some 5, (.load 38 (.tmp 1)), 38, none⟩,
    ⟨some 3, (.alloc 38), 0, none⟩,
    ⟨none, (.store 38 (.tmp 3) (.tmp 5)), 0, none⟩])
  (.seq (.rgn [] [⟨some 6, (.fieldAddr 38 (.tmp 3) 1), 0, none⟩,
    ⟨some 7, (.load 36 (.tmp 6)), 36, none⟩,
    ⟨some 8, (.call { callee := (.value (.func 94)), args := #[(.tmp 7)], argTypes := #[36] }), 9, none⟩,
    ⟨some 4, (.assign (.tmp 8)), 9, none⟩])
  (.seq (.seq (.rgn [] [⟨some 9, (.fieldAddr 38 (.tmp 3) 0), 0, none⟩,
    ⟨some 10, (.load 30 (.tmp 9)), 30, none⟩,
    ⟨some 11, (.call { callee := (.builtin .len), args := #[(.tmp 10)], argTypes := #[30] }), 3, none⟩,
    ⟨some 12, (.binOp .gtr 3 (.tmp 11) (.const (.int .i64 5)) 3), 4, none⟩,
    ⟨some 13, (.move (.tmp 12)), 4, none⟩,
    ⟨some 14, (.fieldAddr 38 (.tmp 3) 1), 0, some (some 13, false)⟩,
    ⟨some 15, (.load 36 (.tmp 14)), 36, some (some 13, false)⟩,
    ⟨some 16, (.call { callee := (.builtin .len), args := #[(.tmp 15)], argTypes := #[36] }), 3, some (some 13, false)⟩,
    ⟨some 17, (.binOp .gtr 3 (.tmp 16) (.const (.int .i64 4)) 3), 4, some (some 13, false)⟩,
    ⟨some 18, (.pick (.tmp 13) (.const (.bool true)) (.tmp 17)), 4, none⟩,
    ⟨some 19, (.move (.tmp 18)), 4, none⟩,
    ⟨some 20, (.fieldAddr 38 (.tmp 3) 2), 0, some (some 19, false)⟩,
    ⟨some 21, (.load 30 (.tmp 20)), 30, some (some 19, false)⟩,
    ⟨some 22, (.call { callee := (.builtin .len), args := #[(.tmp 21)], argTypes := #[30] }), 3, some (some 19, false)⟩,
    ⟨some 23, (.binOp .gtr 3 (.tmp 22) (.const (.int .i64 4)) 3), 4, some (some 19, false)⟩,
    ⟨some 24, (.pick (.tmp 19) (.const (.bool true)) (.tmp 23)), 4, none⟩,
    ⟨some 25, (.move (.tmp 24)), 4, none⟩,
    ⟨some 26, (.move (.tmp 4)), 9, some (some 25, false)⟩,
    ⟨some 27, (.binOp .eql 9 (.tmp 26) (.const (.string { data := #[] })) 9), 4, some (some 25, false)⟩,
    ⟨some 28, (.move (.tmp 27)), 4, some (some 25, false)⟩,
    ⟨some 29, (.fieldAddr 38 (.tmp 3) 1), 0, some (some 28, true)⟩,
    ⟨some 30, (.load 36 (.tmp 29)), 36, some (some 28, true)⟩,
    ⟨some 31, (.call { callee := (.builtin .len), args := #[(.tmp 30)], argTypes := #[36] }), 3, some (some 28, true)⟩,
    ⟨some 32, (.binOp .gtr 3 (.tmp 31) (.const (.int .i64 0)) 3), 4, some (some 28, true)⟩,
    ⟨some 33, (.pick (.tmp 28) (.tmp 32) (.const (.bool false))), 4, some (some 25, false)⟩,
    ⟨some 34, (.pick (.tmp 25) (.const (.bool true)) (.tmp 33)), 4, none⟩])
  (.cond (.tmp 34)
    (.seq (.rgn [] [⟨some 2, (.assign (.const (.string { data := #[] }))), 9, none⟩])
    .ret)
    .skip))
  (.seq (.drw [] [([3], [35]), ([3, 35], [36]), ([36], [37]), ([37], [38]), ([38], [39]), ([4], [40]), ([39, 40], [41]), ([41], [42]), ([3], [43]), ([3, 43], [44]), ([44], [45]), ([42, 45], [46]), ([46], [47]), ([3], [48]), ([3, 48], [49]), ([49], [50]), ([47, 50], [51]), ([51], [52]), ([3], [53]), ([3, 53], [54]), ([54], [55]), ([52, 55], [56]), ([56], [2, 56])] [[], [0], [1], [2], [3], [], [4, 5], [6], [], [8], [9, 2], [7, 10], [11], [], [13], [14, 10], [12, 15], [16], [], [18], [19, 15], [17, 20], [21, 20, 0, 1, 2, 3, 4, 5, 6, 7, 8, 9, 10, 11, 12, 13, 14, 15, 16, 17, 18, 19, 20, 21]] [⟨some 35, (.fieldAddr 38 (.tmp 3) 0), 0, none⟩,
    ⟨some 36, (.load 30 (.tmp 35)), 30, none⟩,
    ⟨some 37, (.call { callee := (.value (.func 95)), args := #[(.tmp 36)], argTypes := #[30] }), 9, none⟩,
    ⟨some 38, (.binOp .add 9 (.const (.string { data := #[40] })) (.tmp 37) 9), 9, none⟩,
    ⟨some 39, (.binOp .add 9 (.tmp 38) (.const (.string { data := #[41, 59] })) 9), 9, none⟩,
    ⟨some 40, (.move (.tmp 4)), 9, none⟩,
    ⟨some 41, (.binOp .add 9 (.tmp 39) (.tmp 40) 9), 9, none⟩,
    ⟨some 42, (.binOp .add 9 (.tmp 41) (.const (.string { data := #[59] })) 9), 9, none⟩,
    ⟨some 43, (.fieldAddr 38 (.tmp 3) 2), 0, none⟩,
    ⟨some 44, (.load 30 (.tmp 43)), 30, none⟩,
    ⟨some 45, (.call { callee := (.value (.func 96)), args := #[(.tmp 44), (.const (.string { data := #[32] }))], argTypes := #[30, 9] }), 9, none⟩,
    ⟨some 46, (.binOp .add 9 (.tmp 42) (.tmp 45) 9), 9, none⟩,
    ⟨some 47, (.binOp .add 9 (.tmp 46) (.const (.string { data := #[59] })) 9), 9, none⟩,
    ⟨some 48, (.fieldAddr 38 (.tmp 3) 3), 0, none⟩,
    ⟨some 49, (.load 3 (.tmp 48)), 3, none⟩,
    ⟨some 50, (.call { callee := (.value (.func 97)), args := #[(.tmp 49)], argTypes := #[3] }), 9, none⟩,
    ⟨some 51, (.binOp .add 9 (.tmp 47) (.tmp 50) 9), 9, none⟩,
    ⟨some 52, (.binOp .add 9 (.tmp 51) (.const (.string { data := #[59] })) 9), 9, none⟩,
    ⟨some 53, (.fieldAddr 38 (.tmp 3) 4), 0, none⟩,
    ⟨some 54, (.load 3 (.tmp 53)), 3, none⟩,
    ⟨some 55, (.call { callee := (.value (.func 97)), args := #[(.tmp 54)], argTypes := #[3] }), 9, none⟩,
    ⟨some 56, (.binOp .add 9 (.tmp 52) (.tmp 55) 9), 9, none⟩,
    ⟨some 2, (.assign (.tmp 56)), 9, none⟩])
  .ret)))))
theorem lit23 : Lit Try.prog 23 57 [1, 3] [.tmp 2] c23 := ⟨⟨Try.f23, _, Try.func23, rfl, by kernel_rfl, rfl, rfl, by kernel_rfl, by kernel_rfl⟩, by decide, by kernel_rfl⟩
/-- laws.eqCertificate -/
def c24 : LC :=
  (.seq (.rgn [] [⟨some 2, (.box 38 (.tmp 0)), 0, none⟩,
    ⟨some 3, (.box 38 (.tmp 1)), 0, none⟩,
    ⟨some 4, (.assign (.const (.bool false))), 4, none⟩])
  (.seq (.seq (.rgn [] [⟨some 5, (.fieldAddr 38 (.tmp 2) 0), 0, none⟩,
    ⟨some 6, (.load 30 (.tmp 5)), 30, none⟩,
    ⟨some 7, (.fieldAddr 38 (.tmp 3) 0), 0, none⟩,
    ⟨some 8, (.load 30 (.tmp 7)), 30, none⟩,
    ⟨some 9, (.call { callee := (.value (.func 35)), args := #[(.tmp 6), (.tmp 8)], argTypes := #[30, 30] }), 4, none⟩,
    ⟨some 10, (.unOp .not 4 (.tmp 9)), 4, none⟩])
  (.cond (.tmp 10)
    (.seq (.rgn [] [⟨some 4, (.assign (.const (.bool false))), 4, none⟩])
    .ret)
    .skip))
  (.seq (.seq (.rgn [] [⟨some 11, (.fieldAddr 38 (.tmp 2) 1), 0, none⟩,
    ⟨some 12, (.load 36 (.tmp 11)), 36, none⟩,
    ⟨some 13, (.fieldAddr 38 (.tmp 3) 1), 0, none⟩,
    ⟨some 14, (.load 36 (.tmp 13)), 36, none⟩,
    ⟨some 15, (.call { callee := (.value (.func 98)), args := #[(.tmp 12), (.tmp 14)], argTypes := #[36, 36] }), 4, none⟩,
    ⟨some 16, (.unOp .not 4 (.tmp 15)), 4, none⟩])
  (.cond (.tmp 16)
    (.seq (.rgn [] [⟨some 4, (.assign (.const (.bool false))), 4, none⟩])
    .ret)
    .skip))
  (.seq (.seq (.rgn [] [⟨some 17, (.fieldAddr 38 (.tmp 2) 2), 0, none⟩,
    ⟨some 18, (.load 30 (.tmp 17)), 30, none⟩,
    ⟨some 19, (.fieldAddr 38 (.tmp 3) 2), 0, none⟩,
    ⟨some 20, (.load 30 (.tmp 19)), 30, none⟩,
    ⟨some 21, (.call { callee := (.value (.func 35)), args := #[(.tmp 18), (.tmp 20)], argTypes := #[30, 30] }), 4, none⟩,
    ⟨some 22, (.unOp .not 4 (.tmp 21)), 4, none⟩])
  (.cond (.tmp 22)
    (.seq (.rgn [] [⟨some 4, (.assign (.const (.bool false))), 4, none⟩])
    .ret)
    .skip))
  (.seq (.seq (.rgn [] [⟨some 23, (.fieldAddr 38 (.tmp 2) 3), 0, none⟩,
    ⟨some 24, (.load 3 (.tmp 23)), 3, none⟩,
    ⟨some 25, (.fieldAddr 38 (.tmp 3) 3), 0, none⟩,
    ⟨some 26, (.load 3 (.tmp 25)), 3, none⟩,
    ⟨some 27, (.binOp .neq 3 (.tmp 24) (.tmp 26) 3), 4, none⟩])
  (.cond (.tmp 27)
    (.seq (.rgn [] [⟨some 4, (.assign (.const (.bool false))), 4, none⟩])
    .ret)
    .skip))
  (.seq (.seq (.rgn [] [⟨some 28, (.fieldAddr 38 (.tmp 2) 4), 0, none⟩,
    ⟨some 29, (.load 3 (.tmp 28)), 3, none⟩,
    ⟨some 30, (.fieldAddr 38 (.tmp 3) 4), 0, none⟩,
    ⟨some 31, (.load 3 (.tmp 30)), 3, none⟩,
    ⟨some 32, (.binOp .neq 3 (.tmp 29) (.tmp 31) 3), 4, none⟩])
  (.cond (.tmp 32)
    (.seq (.rgn [] [⟨some 4, (.assign (.const (.bool false))), 4, none⟩])
    .ret)
    .skip))
  (.seq (.rgn [] [⟨some 4, (.assign (.const (.bool true))), 4, none⟩])
  .ret)))))))
theorem lit24 : Lit Try.prog 24 33 [2, 3] [.tmp 4] c24 := ⟨⟨Try.f24, _, Try.func24, rfl, by kernel_rfl, rfl, rfl, by kernel_rfl, by kernel_rfl⟩, by decide, by kernel_rfl⟩
/-- laws.toIntS -/
def c32 : LC :=
  (.seq (.rgn [] [⟨some 2, (.assign (.const (.slice none 0 0))), 30, none⟩])
  (.seq (.rgn [3, 7] [⟨some 5, (.move (.tmp 0)), 30, none⟩,
    ⟨some 6, (.call { callee := (.builtin .len), args := #[(.tmp 5)], argTypes := #[30] }), 3, none⟩,
    ⟨some 7, (.makeSlice 30 (.tmp 6) (.tmp 6)), 30, none⟩,
    ⟨some 3, (.assign (.tmp 7)), 30, none⟩])
  (.seq (.seq (.rgn [] [⟨some 4, (.assign (.const (.int .i64 0))), 3, none⟩])
  (.blk 0
    (.loop []
      (.seq (.seq (.rgn [] [⟨some 8, (.move (.tmp 4)), 3, none⟩,
        ⟨some 9, (.move (.tmp 0)), 30, none⟩,
        ⟨some 10, (.call { callee := (.builtin .len), args := #[(.tmp 9)], argTypes := #[30] }), 3, none⟩,
        ⟨some 11, (.binOp .lss 3 (.tmp 8) (.tmp 10) 3), 4, none⟩])
      (.cond (.tmp 11)
        .skip
        (.exit 0)))
      (.seq (.blk 1
        (.rgn [] [⟨some 14, (.move (.tmp 3)), 30, none⟩,
          ⟨some 15, (.move (.tmp 4)), 3, none⟩,
          ⟨some 16, (.move (.tmp 0)), 30, none⟩,
          ⟨some 17, (.move (.tmp 4)), 3, none⟩,
          ⟨some 18, (.indexAddr 30 (.tmp 16) (.tmp 17)), 0, none⟩,
          ⟨some 19, (.load 3 (.tmp 18)), 3, none⟩,
          ⟨some 20, (.indexAddr 30 (.tmp 14) (.tmp 15)), 0, none⟩,
          ⟨none, (.store 3 (.tmp 20) (.tmp 19)), 0, none⟩]))
      (.rgn [] [⟨some 12, (.move (.tmp 4)), 3, none⟩,
        ⟨some 13, (.binOp .add 3 (.tmp 12) (.const (.int .i64 1)) 3), 3, none⟩,
        ⟨some 4, (.assign (.tmp 13)), 3, none⟩]))))))
  (.seq (.rgn [21] [⟨some 21, (.move (.tmp 3)), 30, none⟩,
    ⟨some 2, (.assign (.tmp 21)), 30, none⟩])
  .ret))))
theorem lit32 : Lit Try.prog 32 22 [3, 7] [.tmp 2] c32 := ⟨⟨Try.f32, _, Try.func32, rfl, by kernel_rfl, rfl, rfl, by kernel_rfl, by kernel_rfl⟩, by decide, by kernel_rfl⟩
/-- laws.eqIntS -/
def c35 : LC :=
  (.seq (.rgn [] [⟨some 4, (.assign (.const (.bool false))), 4, none⟩])
  (.seq (.seq (.rgn [] [⟨some 6, (.move (.tmp 0)), 30, none⟩,
    ⟨some 7, (.call { callee := (.builtin .len), args := #[(.tmp 6)], argTypes := #[30] }), 3, none⟩,
    ⟨some 8, (.move (.tmp 1)), 30, none⟩,
    ⟨some 9, (.call { callee := (.builtin .len), args := #[(.tmp 8)], argTypes := #[30] }), 3, none⟩,
    ⟨some 10, (.binOp .neq 3 (.tmp 7) (.tmp 9) 3), 4, none⟩])
  (.cond (.tmp 10)
    (.seq (.rgn [] [⟨some 4, (.assign (.const (.bool false))), 4, none⟩])
    .ret)
    .skip))
  (.seq (.seq (.rgn [] [⟨some 5, (.assign (.const (.int .i64 0))), 3, none⟩])
  (.blk 0
    (.loop []
      (.seq (.seq (.rgn [] [⟨some 11, (.move (.tmp 5)), 3, none⟩,
        ⟨some 12, (.move (.tmp 0)), 30, none⟩,
        ⟨some 13, (.call { callee := (.builtin .len), args := #[(.tmp 12)], argTypes := #[30] }), 3, none⟩,
        ⟨some 14, (.binOp .lss 3 (.tmp 11) (.tmp 13) 3), 4, none⟩])
      (.cond (.tmp 14)
        .skip
        (.exit 0)))
      (.seq (.blk 1
        (.seq (.drw [] [([0], [17]), ([5], [18]), ([17, 18], [19]), ([19], [20]), ([1], [21]), ([5], [22]), ([21, 22], [23]), ([23], [24]), ([20, 24], [25])] [[], [], [0, 1], [2], [], [], [4, 5], [6], [3, 7]] [⟨some 17, (.move (.tmp 0)), 30, none⟩,
          ⟨some 18, (.move (.tmp 5)), 3, none⟩,
          ⟨some 19, (.indexAddr 30 (.tmp 17) (.tmp 18)), 0, none⟩,
          ⟨some 20, (.load 3 (.tmp 19)), 3, none⟩,
          ⟨some 21, (.move (.tmp 1)), 30, none⟩,
          ⟨some 22, (.move (.tmp 5)), 3, none⟩,
          ⟨some 23, (.indexAddr 30 (.tmp 21) (.tmp 22)), 0, none⟩,
          ⟨some 24, (.load 3 (.tmp 23)), 3, none⟩,
          ⟨some 25, (.binOp .neq 3 (.tmp 20) (.tmp 24) 3), 4, none⟩])
        (.cond (.tmp 25)
          (.seq (.rgn [] [⟨some 4, (.assign (.const (.bool false))), 4, none⟩])
          .ret)
          .skip)))
      (.rgn [] [⟨some 15, (.move (.tmp 5)), 3, none⟩,
        ⟨some 16, (.binOp .add 3 (.tmp 15) (.const (.int .i64 1)) 3), 3, none⟩,
        ⟨some 5, (.assign (.tmp 16)), 3, none⟩]))))))
  (.seq (.rgn [] [⟨some 4, (.assign (.const (.bool true))), 4, none⟩])
  .ret))))
theorem lit35 : Lit Try.prog 35 26 [] [.tmp 4] c35 := ⟨⟨Try.f35, _, Try.func35, rfl, by kernel_rfl, rfl, rfl, by kernel_rfl, by kernel_rfl⟩, by decide, by kernel_rfl⟩
/-- spec.l1In -/
def c80 : LC :=
  (.seq (.rgn [] [⟨some 6, (.assign (.const (.bool false))), 4, none⟩])
  (.seq (.rgn [] [⟨some 7, (.move (.tmp 0)), 3, none⟩,
    ⟨some 8, (.move (.tmp 1)), 3, none⟩,
    ⟨some 9, (.binOp .geq 3 (.tmp 7) (.tmp 8) 3), 4, none⟩,
    ⟨some 10, (.move (.tmp 9)), 4, none⟩,
    ⟨some 11, (.move (.tmp 0)), 3, some (some 10, true)⟩,
    ⟨some 12, (.move (.tmp 2)), 3, some (some 10, true)⟩,
    ⟨some 13, (.binOp .leq 3 (.tmp 11) (.tmp 12) 3), 4, some (some 10, true)⟩,
    ⟨some 14, (.pick (.tmp 10) (.tmp 13) (.const (.bool false))), 4, none⟩,
    ⟨some 6, (.assign (.tmp 14)), 4, none⟩])
  .ret))
theorem lit80 : Lit Try.prog 80 15 [] [.tmp 6] c80 := ⟨⟨Try.f80, _, Try.func80, rfl, by kernel_rfl, rfl, rfl, by kernel_rfl, by kernel_rfl⟩, by decide, by kernel_rfl⟩
/-- impl.within -/
def c82 : LC :=
  (.seq (.rgn [] [⟨some 6, (.assign (.const (.bool false))), 4, none⟩])
  (.seq (.rgn [] [⟨some 7, (.move (.tmp 0)), 3, none⟩,
    ⟨some 8, (.move (.tmp 1)), 3, none⟩,
    ⟨some 9, (.binOp .geq 3 (.tmp 7) (.tmp 8) 3), 4, none⟩,
    ⟨some 10, (.move (.tmp 9)), 4, none⟩,
    ⟨some 11, (.move (.tmp 0)), 3, some (some 10, true)⟩,
    ⟨some 12, (.move (.tmp 2)), 3, some (some 10, true)⟩,
    ⟨some 13, (.binOp .leq 3 (.tmp 11) (.tmp 12) 3), 4, some (some 10, true)⟩,
    ⟨some 14, (.pick (.tmp 10) (.tmp 13) (.const (.bool false))), 4, none⟩,
    ⟨some 6, (.assign (.tmp 14)), 4, none⟩])
  .ret))
theorem lit82 : Lit Try.prog 82 15 [] [.tmp 6] c82 := ⟨⟨Try.f82, _, Try.func82, rfl, by kernel_rfl, rfl, rfl, by kernel_rfl, by kernel_rfl⟩, by decide, by kernel_rfl⟩
/-- laws.szIntS -/
def c87 : LC :=
  (.seq (.rgn [] [⟨some 4, (.assign (.const (.int .i64 0))), 3, none⟩])
  (.seq (.rgn [] [⟨some 5, (.move (.tmp 1)), 3, none⟩,
    ⟨some 6, (.move (.tmp 0)), 30, none⟩,
    ⟨some 7, (.call { callee := (.builtin .len), args := #[(.tmp 6)], argTypes := #[30] }), 3, none⟩,
    ⟨some 8, (.binOp .sub 3 (.tmp 5) (.tmp 7) 3), 3, none⟩,
    ⟨some 1, (.assign (.tmp 8)), 3, none⟩])
  (.seq (.seq (.rgn [] [⟨some 9, (.move (.tmp 1)), 3, none⟩,
    ⟨some 10, (.binOp .lss 3 (.tmp 9) (.const (.int .i64 0)) 3), 4, none⟩])
  (.cond (.tmp 10)
    (.seq (.rgn [] [⟨some 4, (.assign (.const (.int .i64 (-1)))), 3, none⟩])
    .ret)
    .skip))
  (.seq (.rgn [] [⟨some 11, (.move (.tmp 1)), 3, none⟩,
    ⟨some 4, (.assign (.tmp 11)), 3, none⟩])
  .ret))))
theorem lit87 : Lit Try.prog 87 12 [] [.tmp 4] c87 := ⟨⟨Try.f87, _, Try.func87, rfl, by kernel_rfl, rfl, rfl, by kernel_rfl, by kernel_rfl⟩, by decide, by kernel_rfl⟩
/-- laws.szRationalS -/
def c88 : LC :=
  (.seq (.rgn [] [⟨some 4, (.assign (.const (.int .i64 0))), 3, none⟩])
  (.seq (.rgn [] [⟨some 5, (.move (.tmp 1)), 3, none⟩,
    ⟨some 6, (.move (.tmp 0)), 31, none⟩,
    ⟨some 7, (.call { callee := (.builtin .len), args := #[(.tmp 6)], argTypes := #[31] }), 3, none⟩,
    ⟨some 8, (.binOp .sub 3 (.tmp 5) (.tmp 7) 3), 3, none⟩,
    ⟨some 1, (.assign (.tmp 8)), 3, none⟩])
  (.seq (.seq (.rgn [] [⟨some 9, (.move (.tmp 1)), 3, none⟩,
    ⟨some 10, (.binOp .lss 3 (.tmp 9) (.const (.int .i64 0)) 3), 4, none⟩])
  (.cond (.tmp 10)
    (.seq (.rgn [] [⟨some 4, (.assign (.const (.int .i64 (-1)))), 3, none⟩])
    .ret)
    .skip))
  (.seq (.rgn [] [⟨some 11, (.move (.tmp 1)), 3, none⟩,
    ⟨some 4, (.assign (.tmp 11)), 3, none⟩])
  .ret))))
theorem lit88 : Lit Try.prog 88 12 [] [.tmp 4] c88 := ⟨⟨Try.f88, _, Try.func88, rfl, by kernel_rfl, rfl, rfl, by kernel_rfl, by kernel_rfl⟩, by decide, by kernel_rfl⟩
/-- spec.FormatRationals -/
def c89 : LC :=
  (.seq (.rgn [] [⟨some 2, (.assign (.const (.string { data := #[] }))), 9, none⟩])
  (.seq (.rgn [] [⟨some 3, (.assign (.const (.string { data := #[] }))), 9, none⟩])
  (.seq (.seq (.rgn [] [⟨some 4, (.assign (.const (.int .i64 0))), 3, none⟩])
  (.blk 0
    (.loop []
      (.seq (.seq (.rgn [] [⟨some 6, (.move (.tmp 4)), 3, none⟩,
        ⟨some 7, (.move (.tmp 0)), 36, none⟩,
        ⟨some 8, (.call { callee := (.builtin .len), args := #[(.tmp 7)], argTypes := #[36] }), 3, none⟩,
        ⟨some 9, (.binOp .lss 3 (.tmp 6) (.tmp 8) 3), 4, none⟩])
      (.cond (.tmp 9)
        .skip
        (.exit 0)))
      (.seq (.blk 1
        (.seq (.rgn [] [⟨some 12, (.move (.tmp 0)), 36, none⟩,
          ⟨some 13, (.move (.tmp 4)), 3, none⟩,
          ⟨some 14, (.indexAddr 36 (.tmp 12) (.tmp 13)), 0, none⟩,
          ⟨some 15, (.load 163 (.tmp 14)), 163, none⟩,
          ⟨some 16, (.call { callee := (.value (.func 142)), args := #[(.tmp 15)], argTypes := #[163] }), 9, none⟩,
          ⟨some 5, (.assign (.tmp 16)), 9, none⟩])
        (.seq (.seq (.rgn [] [⟨some 17, (.move (.tmp 5)), 9, none⟩,
          ⟨some 18, (.binOp .eql 9 (.tmp 17) (.const (.string { data := #[] })) 9), 4, none⟩])
        (.cond (.tmp 18)
          (.seq (.rgn [] [⟨some 2, (.assign (.const (.string { data := #[] }))), 9, none⟩])
          .ret)
          .skip))
        (.seq (.seq (.rgn [] [⟨some 19, (.move (.tmp 4)), 3, none⟩,
          ⟨some 20, (.binOp .gtr 3 (.tmp 19) (.const (.int .i64 0)) 3), 4, none⟩])
        (.cond (.tmp 20)
          (.rgn [] [⟨some 21, (.move (.tmp 3)), 9, none⟩,
            ⟨some 22, (.binOp .add 9 (.tmp 21) (.const (.string { data := #[32] })) 9), 9, none⟩,
            ⟨some 3, (.assign (.tmp 22)), 9, none⟩])
          .skip))
        (.rgn [] [⟨some 23, (.move (.tmp 3)), 9, none⟩,
          ⟨some 24, (.move (.tmp 5)), 9, none⟩,
          ⟨some 25, (.binOp .add 9 (.tmp 23) (.tmp 24) 9), 9, none⟩,
          ⟨some 3, (.assign (.tmp 25)), 9, none⟩])))))
      (.rgn [] [⟨some 10, (.move (.tmp 4)), 3, none⟩,
        ⟨some 11, (.binOp .add 3 (.tmp 10) (.const (.int .i64 1)) 3), 3, none⟩,
        ⟨some 4, (.assign (.tmp 11)), 3, none⟩]))))))
  (.seq (.rgn [] [⟨some 26, (.move (.tmp 3)), 9, none⟩,
    ⟨some 2, (.assign (.tmp 26)), 9, none⟩])
  .ret))))
theorem lit89 : Lit Try.prog 89 27 [] [.tmp 2] c89 := ⟨⟨Try.f89, _, Try.func89, rfl, by kernel_rfl, rfl, rfl, by kernel_rfl, by kernel_rfl⟩, by decide, by kernel_rfl⟩
/-- spec.l7Vars -/
def c90 : LC :=
  (.seq (.rgn [] [⟨some 2, (.assign (.const (.string { data := #[] }))), 9, none⟩])
  (.seq (.rgn [] [⟨some 3, (.assign (.const (.string { data := #[40] }))), 9, none⟩])
  (.seq (.seq (.rgn [] [⟨some 4, (.assign (.const (.int .i64 0))), 3, none⟩])
  (.blk 0
    (.loop []
      (.seq (.seq (.rgn [] [⟨some 5, (.move (.tmp 4)), 3, none⟩,
        ⟨some 6, (.move (.tmp 0)), 30, none⟩,
        ⟨some 7, (.call { callee := (.builtin .len), args := #[(.tmp 6)], argTypes := #[30] }), 3, none⟩,
        ⟨some 8, (.binOp .lss 3 (.tmp 5) (.tmp 7) 3), 4, none⟩])
      (.cond (.tmp 8)
        .skip
        (.exit 0)))
      (.seq (.blk 1
        (.rgn [] [⟨some 11, (.move (.tmp 3)), 9, none⟩,
          ⟨some 12, (.move (.tmp 0)), 30, none⟩,
          ⟨some 13, (.move (.tmp 4)), 3, none⟩,
          ⟨some 14, (.indexAddr 30 (.tmp 12) (.tmp 13)), 0, none⟩,
          ⟨some 15, (.load 3 (.tmp 14)), 3, none⟩,
          ⟨some 16, (.call { callee := (.value (.func 143)), args := #[(.tmp 15)], argTypes := #[3] }), 9, none⟩,
          ⟨some 17, (.binOp .add 9 (.tmp 11) (.tmp 16) 9), 9, none⟩,
          ⟨some 3, (.assign (.tmp 17)), 9, none⟩]))
      (.rgn [] [⟨some 9, (.move (.tmp 4)), 3, none⟩,
        ⟨some 10, (.binOp .add 3 (.tmp 9) (.const (.int .i64 1)) 3), 3, none⟩,
        ⟨some 4, (.assign (.tmp 10)), 3, none⟩]))))))
  (.seq (.rgn [] [⟨some 18, (.move (.tmp 3)), 9, none⟩,
    ⟨some 19, (.binOp .add 9 (.tmp 18) (.const (.string { data := #[41] })) 9), 9, none⟩,
    ⟨some 2, (.assign (.tmp 19)), 9, none⟩])
  .ret))))
theorem lit90 : Lit Try.prog 90 20 [] [.tmp 2] c90 := ⟨⟨Try.f90, _, Try.func90, rfl, by kernel_rfl, rfl, rfl, by kernel_rfl, by kernel_rfl⟩, by decide, by kernel_rfl⟩
/-- spec.l34Ints -/
def c91 : LC :=
  (.seq (.rgn [] [⟨some 2, (.assign (.const (.string { data := #[] }))), 9, none⟩])
  (.seq (.rgn [] [⟨some 3, (.assign (.const (.string { data := #[] }))), 9, none⟩])
  (.seq (.seq (.rgn [] [⟨some 4, (.assign (.const (.int .i64 0))), 3, none⟩])
  (.blk 0
    (.loop []
      (.seq (.seq (.rgn [] [⟨some 5, (.move (.tmp 4)), 3, none⟩,
        ⟨some 6, (.move (.tmp 0)), 30, none⟩,
        ⟨some 7, (.call { callee := (.builtin .len), args := #[(.tmp 6)], argTypes := #[30] }), 3, none⟩,
        ⟨some 8, (.binOp .lss 3 (.tmp 5) (.tmp 7) 3), 4, none⟩])
      (.cond (.tmp 8)
        .skip
        (.exit 0)))
      (.seq (.blk 1
        (.seq (.seq (.rgn [] [⟨some 11, (.move (.tmp 4)), 3, none⟩,
          ⟨some 12, (.binOp .gtr 3 (.tmp 11) (.const (.int .i64 0)) 3), 4, none⟩])
        (.cond (.tmp 12)
          (.rgn [] [⟨some 13, (.move (.tmp 3)), 9, none⟩,
            ⟨some 14, (.binOp .add 9 (.tmp 13) (.const (.string { data := #[32] })) 9), 9, none⟩,
            ⟨some 3, (.assign (.tmp 14)), 9, none⟩])
          .skip))
        (.rgn [] [⟨some 15, (.move (.tmp 3)), 9, none⟩,
          ⟨some 16, (.move (.tmp 0)), 30, none⟩,
          ⟨some 17, (.move (.tmp 4)), 3, none⟩,
          ⟨some 18, (.indexAddr 30 (.tmp 16) (.tmp 17)), 0, none⟩,
          ⟨some 19, (.load 3 (.tmp 18)), 3, none⟩,
          ⟨some 20, (.call { callee := (.value (.func 92)), args := #[(.tmp 19)], argTypes := #[3] }), 9, none⟩,
          ⟨some 21, (.binOp .add 9 (.tmp 15) (.tmp 20) 9), 9, none⟩,
          ⟨some 3, (.assign (.tmp 21)), 9, none⟩])))
      (.rgn [] [⟨some 9, (.move (.tmp 4)), 3, none⟩,
        ⟨some 10, (.binOp .add 3 (.tmp 9) (.const (.int .i64 1)) 3), 3, none⟩,
        ⟨some 4, (.assign (.tmp 10)), 3, none⟩]))))))
  (.seq (.rgn [] [⟨some 22, (.move (.tmp 3)), 9, none⟩,
    ⟨some 2, (.assign (.tmp 22)), 9, none⟩])
  .ret))))
theorem lit91 : Lit Try.prog 91 23 [] [.tmp 2] c91 := ⟨⟨Try.f91, _, Try.func91, rfl, by kernel_rfl, rfl, rfl, by kernel_rfl, by kernel_rfl⟩, by decide, by kernel_rfl⟩
/-- spec.l2Dec -/
def c92 : LC :=
  (.seq (.rgn [] [⟨some 2, (.assign (.const (.string { data := #[] }))), 9, none⟩])
  (.seq (.seq (.rgn [] [⟨some 3, (.move (.tmp 0)), 3, none⟩,
    ⟨some 4, (.binOp .leq 3 (.tmp 3) (.const (.int .i64 (-10))) 3), 4, none⟩])
  (.cond (.tmp 4)
    (.seq (.rgn [] [⟨some 5, (.move (.tmp 0)), 3, none⟩,
      ⟨some 6, (.binOp .quo 3 (.tmp 5) (.const (.int .i64 10)) 3), 3, none⟩,
      ⟨some 7, (.unOp .neg 3 (.tmp 6)), 3, none⟩,
      ⟨some 8, (.call { callee := (.value (.func 92)), args := #[(.tmp 7)], argTypes := #[3] }), 9, none⟩,
      ⟨some 9, (.binOp .add 9 (.const (.string { data := #[45] })) (.tmp 8) 9), 9, none⟩,
      ⟨some 10, (.move (.tmp 0)), 3, none⟩,
      ⟨some 11, (.binOp .rem 3 (.tmp 10) (.const (.int .i64 10)) 3), 3, none⟩,
      ⟨some 12, (.unOp .neg 3 (.tmp 11)), 3, none⟩,
      ⟨some 13, (.call { callee := (.value (.func 92)), args := #[(.tmp 12)], argTypes := #[3] }), 9, none⟩,
      ⟨some 14, (.binOp .add 9 (.tmp 9) (.tmp 13) 9), 9, none⟩,
      ⟨some 2, (.assign (.tmp 14)), 9, none⟩])
    .ret)
    .skip))
  (.seq (.seq (.rgn [] [⟨some 15, (.move (.tmp 0)), 3, none⟩,
    ⟨some 16, (.binOp .lss 3 (.tmp 15) (.const (.int .i64 0)) 3), 4, none⟩])
  (.cond (.tmp 16)
    (.seq (.rgn [] [⟨some 17, (.move (.tmp 0)), 3, none⟩,
      ⟨some 18, (.unOp .neg 3 (.tmp 17)), 3, none⟩,
      ⟨some 19, (.call { callee := (.value (.func 92)), args := #[(.tmp 18)], argTypes := #[3] }), 9, none⟩,
      ⟨some 20, (.binOp .add 9 (.const (.string { data := #[45] })) (.tmp 19) 9), 9, none⟩,
      ⟨some 2, (.assign (.tmp 20)), 9, none⟩])
    .ret)
    .skip))
  (.seq (.seq (.rgn [] [⟨some 21, (.move (.tmp 0)), 3, none⟩,
    ⟨some 22, (.binOp .lss 3 (.tmp 21) (.const (.int .i64 10)) 3), 4, none⟩])
  (.cond (.tmp 22)
    (.seq (.rgn [] [⟨some 23, (.move (.tmp 0)), 3, none⟩,
      ⟨some 24, (.binOp .add 3 (.const (.int .i64 48)) (.tmp 23) 3), 3, none⟩,
      ⟨some 25, (.convert 3 5 (.tmp 24)), 5, none⟩,
      ⟨some 26, (.buildSlice 62 1 #[(0, (.tmp 25))]), 62, none⟩,
      ⟨some 27, (.convert 62 9 (.tmp 26)), 9, none⟩,
      ⟨some 2, (.assign (.tmp 27)), 9, none⟩])
    .ret)
    .skip))
  (.seq (.drw [] [([0], [28]), ([28], [29]), ([29], [30]), ([0], [31]), ([31], [32]), ([32], [33]), ([33], [34]), ([34], [34, 35]), ([35], [36]), ([30, 36], [37]), ([37], [2, 37])] [[], [0], [1], [], [3], [4], [5], [6], [7], [2, 8], [9, 2, 0, 1, 2, 3, 4, 5, 6, 7, 8, 9]] [⟨some 28, (.move (.tmp 0)), 3, none⟩,
    ⟨some 29, (.binOp .quo 3 (.tmp 28) (.const (.int .i64 10)) 3), 3, none⟩,
    ⟨some 30, (.call { callee := (.value (.func 92)), args := #[(.tmp 29)], argTypes := #[3] }), 9, none⟩,
    ⟨some 31, (.move (.tmp 0)), 3, none⟩,
    ⟨some 32, (.binOp .rem 3 (.tmp 31) (.const (.int .i64 10)) 3), 3, none⟩,
    ⟨some 33, (.binOp .add 3 (.const (.int .i64 48)) (.tmp 32) 3), 3, none⟩,
    ⟨some 34, (.convert 3 5 (.tmp 33)), 5, none⟩,
    ⟨some 35, (.buildSlice 62 1 #[(0, (.tmp 34))]), 62, none⟩,
    ⟨some 36, (.convert 62 9 (.tmp 35)), 9, none⟩,
    ⟨some 37, (.binOp .add 9 (.tmp 30) (.tmp 36) 9), 9, none⟩,
    ⟨some 2, (.assign (.tmp 37)), 9, none⟩])
  .ret)))))
theorem lit92 : Lit Try.prog 92 38 [] [.tmp 2] c92 := ⟨⟨Try.f92, _, Try.func92, rfl, by kernel_rfl, rfl, rfl, by kernel_rfl, by kernel_rfl⟩, by decide, by kernel_rfl⟩
/-- laws.toRationalS -/
def c93 : LC :=
  (.seq (.rgn [] [⟨some 2, (.assign (.const (.slice none 0 0))), 36, none⟩])
  (.seq (.rgn [3, 7] [⟨some 5, (.move (.tmp 0)), 31, none⟩,
    ⟨some 6, (.call { callee := (.builtin .len), args := #[(.tmp 5)], argTypes := #[31] }), 3, none⟩,
    ⟨some 7, (.makeSlice 36 (.tmp 6) (.tmp 6)), 36, none⟩,
    ⟨some 3, (.assign (.tmp 7)), 36, none⟩])
  (.seq (.seq (.rgn [] [⟨some 4, (.assign (.const (.int .i64 0))), 3, none⟩])
  (.blk 0
    (.loop []
      (.seq (.seq (.rgn [] [⟨some 8, (.move (.tmp 4)), 3, none⟩,
        ⟨some 9, (.move (.tmp 0)), 31, none⟩,
        ⟨some 10, (.call { callee := (.builtin .len), args := #[(.tmp 9)], argTypes := #[31] }), 3, none⟩,
        ⟨some 11, (.binOp .lss 3 (.tmp 8) (.tmp 10) 3), 4, none⟩])
      (.cond (.tmp 11)
        .skip
        (.exit 0)))
      (.seq (.blk 1
        (.rgn [] [⟨some 14, (.move (.tmp 3)), 36, none⟩,
          ⟨some 15, (.move (.tmp 4)), 3, none⟩,
          ⟨some 16, (.move (.tmp 0)), 31, none⟩,
          ⟨some 17, (.move (.tmp 4)), 3, none⟩,
          ⟨some 18, (.indexAddr 31 (.tmp 16) (.tmp 17)), 0, none⟩,
          ⟨some 19, (.load 165 (.tmp 18)), 165, none⟩,
          ⟨some 20, (.call { callee := (.value (.func 144)), args := #[(.tmp 19)], argTypes := #[165] }), 163, none⟩,
          ⟨some 21, (.indexAddr 36 (.tmp 14) (.tmp 15)), 0, none⟩,
          ⟨none, (.store 163 (.tmp 21) (.tmp 20)), 0, none⟩]))
      (.rgn [] [⟨some 12, (.move (.tmp 4)), 3, none⟩,
        ⟨some 13, (.binOp .add 3 (.tmp 12) (.const (.int .i64 1)) 3), 3, none⟩,
        ⟨some 4, (.assign (.tmp 13)), 3, none⟩]))))))
  (.seq (.rgn [22] [⟨some 22, (.move (.tmp 3)), 36, none⟩,
    ⟨some 2, (.assign (.tmp 22)), 36, none⟩])
  .ret))))
theorem lit93 : Lit Try.prog 93 23 [3, 7] [.tmp 2] c93 := ⟨⟨Try.f93, _, Try.func93, rfl, by kernel_rfl, rfl, rfl, by kernel_rfl, by kernel_rfl⟩, by decide, by kernel_rfl⟩
/-- impl.FormatRationals -/
def c94 : LC :=
  (.seq (.rgn [] [⟨some 2, (.assign (.const (.string { data := #[] }))), 9, none⟩])
  (.seq (.rgn [] [⟨some 3, (.assign (.const (.slice none 0 0))), 166, none⟩])
  (.seq (.seq (.rgn [] [⟨some 7, (.move (.tmp 0)), 36, none⟩,
    ⟨some 8, (.call { callee := (.builtin .len), args := #[(.tmp 7)], argTypes := #[36] }), 3, none⟩,
    ⟨some 9, (.move (.const (.int .i64 0))), 3, none⟩])
  (.blk 0
    (.loop [5]
      (.seq (.rgn [] [⟨some 10, (.binOp .lss 3 (.tmp 9) (.tmp 8) 3), 0, none⟩])
      (.seq (.cond (.tmp 10)
        .skip
        (.exit 0))
      (.seq (.blk 1
        (.seq (.rgn [] [⟨some 11, (.indexAddr 36 (.tmp 7) (.tmp 9)), 0, none⟩,
          ⟨some 12, (.load 163 (.tmp 11)), 163, none⟩,
          ⟨some 5, (.alloc 163), 0, none⟩,
          ⟨none, (.store 163 (.tmp 5) (.tmp 12)), 0, none⟩])
        (.seq (.rgn [] [⟨some 13, (.load 163 (.tmp 5)), 163, none⟩,
          ⟨some 14, (.call { callee := (.value (.func 145)), args := #[(.tmp 13)], argTypes := #[163] }), 9, none⟩,
          ⟨some 6, (.assign (.tmp 14)), 9, none⟩])
        (.seq (.seq (.rgn [] [⟨some 15, (.move (.tmp 6)), 9, none⟩,
          ⟨some 16, (.binOp .eql 9 (.tmp 15) (.const (.string { data := #[] })) 9), 4, none⟩])
        (.cond (.tmp 16)
          (.seq (.rgn [] [⟨some 2, (.assign (.const (.string { data := #[] }))), 9, none⟩])
          .ret)
          .skip))
        (.rgn [17] [⟨some 17, (.move (.tmp 3)), 166, none⟩,
          ⟨some 18, (.move (.tmp 6)), 9, none⟩,
          ⟨some 19, (.buildSlice 166 1 #[(0, (.tmp 18))]), 166, none⟩,
          ⟨some 20, (.call { callee := (.builtin .append), args := #[(.tmp 17), (.tmp 19)], argTypes := #[166, 166] }), 166, none⟩,
          ⟨some 3, (.assign (.tmp 20)), 166, none⟩])))))
      (.rgn [] [⟨some 21, (.binOp .add 3 (.tmp 9) (.const (.int .i64 1)) 3), 3, none⟩,
        ⟨some 9, (.move (.tmp 21)), 3, none⟩])))))))
  (.seq (.rgn [] [⟨some 22, (.move (.tmp 3)), 166, none⟩,
    ⟨some 23, (.call { callee := (.value (.func 146)), args := #[(.tmp 22), (.const (.string { data := #[32] }))], argTypes := #[166, 9] }), 9, none⟩,
    ⟨some 2, (.assign (.tmp 23)), 9, none⟩])
  .ret))))
theorem lit94 : Lit Try.prog 94 24 [5] [.tmp 2] c94 := ⟨⟨Try.f94, _, Try.func94, rfl, by kernel_rfl, rfl, rfl, by kernel_rfl, by kernel_rfl⟩, by decide, by kernel_rfl⟩
/-- impl.namesOf -/
def c95 : LC :=
  (.seq (.rgn [] [⟨some 2, (.assign (.const (.string { data := #[] }))), 9, none⟩])
  (.seq (.rgn [] [⟨some 3, (.assign (.const (.string { data := #[] }))), 9, none⟩])
  (.seq (.seq (.rgn [] [⟨some 6, (.move (.tmp 0)), 30, none⟩,
    ⟨some 7, (.call { callee := (.builtin .len), args := #[(.tmp 6)], argTypes := #[30] }), 3, none⟩,
    ⟨some 8, (.move (.const (.int .i64 0))), 3, none⟩])
  (.blk 0
    (.loop []
      (.seq (.rgn [] [⟨some 9, (.binOp .lss 3 (.tmp 8) (.tmp 7) 3), 0, none⟩])
      (.seq (.cond (.tmp 9)
        .skip
        (.exit 0))
      (.seq (.blk 1
        (.seq (.rgn [] [⟨some 10, (.indexAddr 30 (.tmp 6) (.tmp 8)), 0, none⟩,
          ⟨some 11, (.load 3 (.tmp 10)), 3, none⟩,
          ⟨some 5, (.assign (.tmp 11)), 3, none⟩])
        (.rgn [] [⟨some 12, (.move (.tmp 3)), 9, none⟩,
          ⟨some 13, (.move (.tmp 5)), 3, none⟩,
          ⟨some 14, (.call { callee := (.value (.func 147)), args := #[(.tmp 13)], argTypes := #[3] }), 9, none⟩,
          ⟨some 15, (.binOp .add 9 (.tmp 12) (.tmp 14) 9), 9, none⟩,
          ⟨some 3, (.assign (.tmp 15)), 9, none⟩])))
      (.rgn [] [⟨some 16, (.binOp .add 3 (.tmp 8) (.const (.int .i64 1)) 3), 3, none⟩,
        ⟨some 8, (.move (.tmp 16)), 3, none⟩])))))))
  (.seq (.rgn [] [⟨some 17, (.move (.tmp 3)), 9, none⟩,
    ⟨some 2, (.assign (.tmp 17)), 9, none⟩])
  .ret))))
theorem lit95 : Lit Try.prog 95 18 [] [.tmp 2] c95 := ⟨⟨Try.f95, _, Try.func95, rfl, by kernel_rfl, rfl, rfl, by kernel_rfl, by kernel_rfl⟩, by decide, by kernel_rfl⟩
/-- impl.formatList -/
def c96 : LC :=
  (.seq (.rgn [] [⟨some 4, (.assign (.const (.string { data := #[] }))), 9, none⟩])
  (.seq (.rgn [] [⟨some 5, (.assign (.const (.slice none 0 0))), 166, none⟩])
  (.seq (.seq (.rgn [] [⟨some 8, (.move (.tmp 0)), 30, none⟩,
    ⟨some 9, (.call { callee := (.builtin .len), args := #[(.tmp 8)], argTypes := #[30] }), 3, none⟩,
    ⟨some 10, (.move (.const (.int .i64 0))), 3, none⟩])
  (.blk 0
    (.loop []
      (.seq (.rgn [] [⟨some 11, (.binOp .lss 3 (.tmp 10) (.tmp 9) 3), 0, none⟩])
      (.seq (.cond (.tmp 11)
        .skip
        (.exit 0))
      (.seq (.blk 1
        (.seq (.rgn [] [⟨some 12, (.indexAddr 30 (.tmp 8) (.tmp 10)), 0, none⟩,
          ⟨some 13, (.load 3 (.tmp 12)), 3, none⟩,
          ⟨some 7, (.assign (.tmp 13)), 3, none⟩])
        (.rgn [14] [⟨some 14, (.move (.tmp 5)), 166, none⟩,
          ⟨some 15, (.move (.tmp 7)), 3, none⟩,
          ⟨some 16, (.call { callee := (.value (.func 97)), args := #[(.tmp 15)], argTypes := #[3] }), 9, none⟩,
          ⟨some 17, (.buildSlice 166 1 #[(0, (.tmp 16))]), 166, none⟩,
          ⟨some 18, (.call { callee := (.builtin .append), args := #[(.tmp 14), (.tmp 17)], argTypes := #[166, 166] }), 166, none⟩,
          ⟨some 5, (.assign (.tmp 18)), 166, none⟩])))
      (.rgn [] [⟨some 19, (.binOp .add 3 (.tmp 10) (.const (.int .i64 1)) 3), 3, none⟩,
        ⟨some 10, (.move (.tmp 19)), 3, none⟩])))))))
  (.seq (.rgn [] [⟨some 20, (.move (.tmp 5)), 166, none⟩,
    ⟨some 21, (.move (.tmp 1)), 9, none⟩,
    ⟨some 22, (.call { callee := (.value (.func 146)), args := #[(.tmp 20), (.tmp 21)], argTypes := #[166, 9] }), 9, none⟩,
    ⟨some 4, (.assign (.tmp 22)), 9, none⟩])
  .ret))))
theorem lit96 : Lit Try.prog 96 23 [] [.tmp 4] c96 := ⟨⟨Try.f96, _, Try.func96, rfl, by kernel_rfl, rfl, rfl, by kernel_rfl, by kernel_rfl⟩, by decide, by kernel_rfl⟩
/-- impl.FormatInt -/
def c97 : LC :=
  (.seq (.rgn [] [⟨some 2, (.assign (.const (.string { data := #[] }))), 9, none⟩])
  (.seq (.rgn [] [⟨some 3, (.assign (.const (.slice none 0 0))), 62, none⟩])
  (.seq (.rgn [] [⟨some 6, (.move (.tmp 0)), 3, none⟩,
    ⟨some 7, (.binOp .lss 3 (.tmp 6) (.const (.int .i64 0)) 3), 4, none⟩,
    ⟨some 4, (.assign (.tmp 7)), 4, none⟩])
  (.seq (.blk 0
    (.loop []
      (.blk 1
        (.seq (.rgn [] [⟨some 8, (.move (.tmp 0)), 3, none⟩,
          ⟨some 9, (.binOp .rem 3 (.tmp 8) (.const (.int .i64 10)) 3), 3, none⟩,
          ⟨some 5, (.assign (.tmp 9)), 3, none⟩])
        (.seq (.seq (.rgn [] [⟨some 10, (.move (.tmp 5)), 3, none⟩,
          ⟨some 11, (.binOp .lss 3 (.tmp 10) (.const (.int .i64 0)) 3), 4, none⟩])
        (.cond (.tmp 11)
          (.rgn [] [⟨some 12, (.move (.tmp 5)), 3, none⟩,
            ⟨some 13, (.unOp .neg 3 (.tmp 12)), 3, none⟩,
            ⟨some 5, (.assign (.tmp 13)), 3, none⟩])
          .skip))
        (.seq (.rgn [18] [⟨some 14, (.move (.tmp 5)), 3, none⟩,
          ⟨some 15, (.binOp .add 3 (.const (.int .i64 48)) (.tmp 14) 3), 3, none⟩,
          ⟨some 16, (.convert 3 5 (.tmp 15)), 5, none⟩,
          ⟨some 17, (.buildSlice 62 1 #[(0, (.tmp 16))]), 62, none⟩,
          ⟨some 18, (.move (.tmp 3)), 62, none⟩,
          ⟨some 19, (.call { callee := (.builtin .append), args := #[(.tmp 17), (.tmp 18)], argTypes := #[62, 62] }), 62, none⟩,
          ⟨some 3, (.assign (.tmp 19)), 62, none⟩])
        (.seq (.rgn [] [⟨some 20, (.move (.tmp 0)), 3, none⟩,
          ⟨some 21, (.binOp .quo 3 (.tmp 20) (.const (.int .i64 10)) 3), 3, none⟩,
          ⟨some 0, (.assign (.tmp 21)), 3, none⟩])
        (.seq (.rgn [] [⟨some 22, (.move (.tmp 0)), 3, none⟩,
          ⟨some 23, (.binOp .eql 3 (.tmp 22) (.const (.int .i64 0)) 3), 4, none⟩])
        (.cond (.tmp 23)
          (.exit 0)
          .skip)))))))))
  (.seq (.seq (.rgn [] [⟨some 24, (.move (.tmp 4)), 4, none⟩])
  (.cond (.tmp 24)
    (.seq (.rgn [] [⟨some 25, (.move (.tmp 3)), 62, none⟩,
      ⟨some 26, (.convert 62 9 (.tmp 25)), 9, none⟩,
      ⟨some 27, (.binOp .add 9 (.const (.string { data := #[45] })) (.tmp 26) 9), 9, none⟩,
      ⟨some 2, (.assign (.tmp 27)), 9, none⟩])
    .ret)
    .skip))
  (.seq (.rgn [] [⟨some 28, (.move (.tmp 3)), 62, none⟩,
    ⟨some 29, (.convert 62 9 (.tmp 28)), 9, none⟩,
    ⟨some 2, (.assign (.tmp 29)), 9, none⟩])
  .ret))))))
theorem lit97 : Lit Try.prog 97 30 [] [.tmp 2] c97 := ⟨⟨Try.f97, _, Try.func97, rfl, by kernel_rfl, rfl, rfl, by kernel_rfl, by kernel_rfl⟩, by decide, by kernel_rfl⟩
/-- laws.eqRationalS -/
def c98 : LC :=
  (.seq (.rgn [] [⟨some 4, (.assign (.const (.bool false))), 4, none⟩])
  (.seq (.seq (.rgn [] [⟨some 6, (.move (.tmp 0)), 36, none⟩,
    ⟨some 7, (.call { callee := (.builtin .len), args := #[(.tmp 6)], argTypes := #[36] }), 3, none⟩,
    ⟨some 8, (.move (.tmp 1)), 36, none⟩,
    ⟨some 9, (.call { callee := (.builtin .len), args := #[(.tmp 8)], argTypes := #[36] }), 3, none⟩,
    ⟨some 10, (.binOp .neq 3 (.tmp 7) (.tmp 9) 3), 4, none⟩])
  (.cond (.tmp 10)
    (.seq (.rgn [] [⟨some 4, (.assign (.const (.bool false))), 4, none⟩])
    .ret)
    .skip))
  (.seq (.seq (.rgn [] [⟨some 5, (.assign (.const (.int .i64 0))), 3, none⟩])
  (.blk 0
    (.loop []
      (.seq (.seq (.rgn [] [⟨some 11, (.move (.tmp 5)), 3, none⟩,
        ⟨some 12, (.move (.tmp 0)), 36, none⟩,
        ⟨some 13, (.call { callee := (.builtin .len), args := #[(.tmp 12)], argTypes := #[36] }), 3, none⟩,
        ⟨some 14, (.binOp .lss 3 (.tmp 11) (.tmp 13) 3), 4, none⟩])
      (.cond (.tmp 14)
        .skip
        (.exit 0)))
      (.seq (.blk 1
        (.seq (.drw [] [([0], [17]), ([5], [18]), ([17, 18], [19]), ([19], [20]), ([1], [21]), ([5], [22]), ([21, 22], [23]), ([23], [24]), ([20, 24], [25]), ([25], [26])] [[], [], [0, 1], [2], [], [], [4, 5], [6], [3, 7], [8]] [⟨some 17, (.move (.tmp 0)), 36, none⟩,
          ⟨some 18, (.move (.tmp 5)), 3, none⟩,
          ⟨some 19, (.indexAddr 36 (.tmp 17) (.tmp 18)), 0, none⟩,
          ⟨some 20, (.load 163 (.tmp 19)), 163, none⟩,
          ⟨some 21, (.move (.tmp 1)), 36, none⟩,
          ⟨some 22, (.move (.tmp 5)), 3, none⟩,
          ⟨some 23, (.indexAddr 36 (.tmp 21) (.tmp 22)), 0, none⟩,
          ⟨some 24, (.load 163 (.tmp 23)), 163, none⟩,
          ⟨some 25, (.call { callee := (.value (.func 148)), args := #[(.tmp 20), (.tmp 24)], argTypes := #[163, 163] }), 4, none⟩,
          ⟨some 26, (.unOp .not 4 (.tmp 25)), 4, none⟩])
        (.cond (.tmp 26)
          (.seq (.rgn [] [⟨some 4, (.assign (.const (.bool false))), 4, none⟩])
          .ret)
          .skip)))
      (.rgn [] [⟨some 15, (.move (.tmp 5)), 3, none⟩,
        ⟨some 16, (.binOp .add 3 (.tmp 15) (.const (.int .i64 1)) 3), 3, none⟩,
        ⟨some 5, (.assign (.tmp 16)), 3, none⟩]))))))
  (.seq (.rgn [] [⟨some 4, (.assign (.const (.bool true))), 4, none⟩])
  .ret))))
theorem lit98 : Lit Try.prog 98 27 [] [.tmp 4] c98 := ⟨⟨Try.f98, _, Try.func98, rfl, by kernel_rfl, rfl, rfl, by kernel_rfl, by kernel_rfl⟩, by decide, by kernel_rfl⟩
/-- spec.FormatRational -/
def c142 : LC :=
  (.seq (.rgn [] [⟨some 1, (.box 163 (.tmp 0)), 0, none⟩,
    ⟨some 2, (.assign (.const (.string { data := #[] }))), 9, none⟩])
  (.seq (.seq (.rgn [] [⟨some 3, (.load 163 (.tmp 1)), 163, none⟩,
    ⟨some 4, (.call { callee := (.value (.func 169)), args := #[(.tmp 3)], argTypes := #[163] }), 4, none⟩,
    ⟨some 5, (.unOp .not 4 (.tmp 4)), 4, none⟩])
  (.cond (.tmp 5)
    (.seq (.rgn [] [⟨some 2, (.assign (.const (.string { data := #[] }))), 9, none⟩])
    .ret)
    .skip))
  (.seq (.seq (.rgn [] [⟨some 6, (.fieldAddr 163 (.tmp 1) 1), 0, none⟩,
    ⟨some 7, (.load 3 (.tmp 6)), 3, none⟩,
    ⟨some 8, (.binOp .eql 3 (.tmp 7) (.const (.int .i64 1)) 3), 4, none⟩])
  (.cond (.tmp 8)
    (.seq (.rgn [] [⟨some 9, (.fieldAddr 163 (.tmp 1) 0), 0, none⟩,
      ⟨some 10, (.load 3 (.tmp 9)), 3, none⟩,
      ⟨some 11, (.call { callee := (.value (.func 92)), args := #[(.tmp 10)], argTypes := #[3] }), 9, none⟩,
      ⟨some 2, (.assign (.tmp 11)), 9, none⟩])
    .ret)
    .skip))
  (.seq (.drw [] [([1], [12]), ([1, 12], [13]), ([13], [14]), ([14], [15]), ([1], [16]), ([1, 16], [17]), ([17], [18]), ([15, 18], [19]), ([19], [2, 19])] [[], [0], [1], [2], [], [4], [5, 2], [3, 6], [7, 6, 0, 1, 2, 3, 4, 5, 6, 7]] [⟨some 12, (.fieldAddr 163 (.tmp 1) 0), 0, none⟩,
    ⟨some 13, (.load 3 (.tmp 12)), 3, none⟩,
    ⟨some 14, (.call { callee := (.value (.func 92)), args := #[(.tmp 13)], argTypes := #[3] }), 9, none⟩,
    ⟨some 15, (.binOp .add 9 (.tmp 14) (.const (.string { data := #[47] })) 9), 9, none⟩,
    ⟨some 16, (.fieldAddr 163 (.tmp 1) 1), 0, none⟩,
    ⟨some 17, (.load 3 (.tmp 16)), 3, none⟩,
    ⟨some 18, (.call { callee := (.value (.func 92)), args := #[(.tmp 17)], argTypes := #[3] }), 9, none⟩,
    ⟨some 19, (.binOp .add 9 (.tmp 15) (.tmp 18) 9), 9, none⟩,
    ⟨some 2, (.assign (.tmp 19)), 9, none⟩])
  .ret))))
theorem lit142 : Lit Try.prog 142 20 [1] [.tmp 2] c142 := ⟨⟨Try.f142, _, Try.func142, rfl, by kernel_rfl, rfl, rfl, by kernel_rfl, by kernel_rfl⟩, by decide, by kernel_rfl⟩
/-- spec.VariableName -/
def c143 : LC :=
  (.seq (.rgn [] [⟨some 2, (.assign (.const (.string { data := #[] }))), 9, none⟩])
  (.seq (.seq (.rgn [] [⟨some 3, (.move (.tmp 0)), 3, none⟩,
    ⟨some 4, (.call { callee := (.value (.func 80)), args := #[(.tmp 3), (.const (.int .i64 0)), (.const (.int .i64 4))], argTypes := #[3, 3, 3] }), 4, none⟩,
    ⟨some 5, (.unOp .not 4 (.tmp 4)), 4, none⟩])
  (.cond (.tmp 5)
    (.seq (.rgn [] [⟨some 2, (.assign (.const (.string { data := #[] }))), 9, none⟩])
    .ret)
    .skip))
  (.seq (.rgn [] [⟨some 6, (.move (.tmp 0)), 3, none⟩,
    ⟨some 7, (.move (.tmp 0)), 3, none⟩,
    ⟨some 8, (.binOp .add 3 (.tmp 7) (.const (.int .i64 1)) 3), 3, none⟩,
    ⟨some 9, (.slice 9 (.const (.string { data := #[88, 89, 90, 85, 86] })) (some (.tmp 6)) (some (.tmp 8)) none), 9, none⟩,
    ⟨some 2, (.assign (.tmp 9)), 9, none⟩])
  .ret)))
theorem lit143 : Lit Try.prog 143 10 [] [.tmp 2] c143 := ⟨⟨Try.f143, _, Try.func143, rfl, by kernel_rfl, rfl, rfl, by kernel_rfl, by kernel_rfl⟩, by decide, by kernel_rfl⟩
/-- laws.toRational -/
def c144 : LC :=
  (.seq (.rgn [] [⟨some 1, (.box 165 (.tmp 0)), 0, none⟩,
    ⟨some 2, (.alloc 163), 0, none⟩])
  (.seq (.rgn [] [⟨some 3, (.alloc 163), 0, none⟩])
  (.seq (.rgn [] [⟨some 4, (.fieldAddr 165 (.tmp 1) 0), 0, none⟩,
    ⟨some 5, (.load 3 (.tmp 4)), 3, none⟩,
    ⟨some 6, (.fieldAddr 163 (.tmp 3) 0), 0, none⟩,
    ⟨none, (.store 3 (.tmp 6) (.tmp 5)), 0, none⟩])
  (.seq (.rgn [] [⟨some 7, (.fieldAddr 165 (.tmp 1) 1), 0, none⟩,
    ⟨some 8, (.load 3 (.tmp 7)), 3, none⟩,
    ⟨some 9, (.fieldAddr 163 (.tmp 3) 1), 0, none⟩,
    ⟨none, (.store 3 (.tmp 9) (.tmp 8)), 0, none⟩])
  (.seq (.rgn [] [⟨some 10, (.load 163 (.tmp 3)), 163, none⟩,
    ⟨none, (.store 163 (.tmp 2) (.tmp 10)), 0, none⟩])
  .ret)))))
theorem lit144 : Lit Try.prog 144 11 [1, 2, 3] [.cell 2 163] c144 := ⟨⟨Try.f144, _, Try.func144, rfl, by kernel_rfl, rfl, rfl, by kernel_rfl, by kernel_rfl⟩, by decide, by kernel_rfl⟩
/-- impl.FormatRational -/
def c145 : LC :=
  (.seq (.rgn [] [⟨some 1, (.box 163 (.tmp 0)), 0, none⟩,
    ⟨some 2, (.assign (.const (.string { data := #[] }))), 9, none⟩])
  (.seq (.blk 0
    (.seq (.rgn [] [⟨some 4, (.load 163 (.tmp 1)), 163, none⟩,
      ⟨some 5, (.call { callee := (.value (.func 170)), args := #[(.tmp 4)], argTypes := #[163] }), 4, none⟩,
      ⟨some 6, (.unOp .not 4 (.tmp 5)), 4, none⟩,
      ⟨some 3, (.assign (.tmp 6)), 4, none⟩])
    (.cond (.tmp 3)
      (.seq (.rgn [] [⟨some 2, (.assign (.const (.string { data := #[] }))), 9, none⟩])
      .ret)
      (.seq (.rgn [] [⟨some 8, (.fieldAddr 163 (.tmp 1) 1), 0, none⟩,
        ⟨some 9, (.load 3 (.tmp 8)), 3, none⟩,
        ⟨some 10, (.binOp .eql 3 (.tmp 9) (.const (.int .i64 1)) 3), 4, none⟩,
        ⟨some 7, (.assign (.tmp 10)), 4, none⟩])
      (.cond (.tmp 7)
        (.seq (.rgn [] [⟨some 11, (.fieldAddr 163 (.tmp 1) 0), 0, none⟩,
          ⟨some 12, (.load 3 (.tmp 11)), 3, none⟩,
          ⟨some 13, (.call { callee := (.value (.func 97)), args := #[(.tmp 12)], argTypes := #[3] }), 9, none⟩,
          ⟨some 2, (.assign (.tmp 13)), 9, none⟩])
        .ret)
        .skip)))))
  (.seq (.drw [] [([1], [14]), ([1, 14], [15]), ([15], [16]), ([16], [17]), ([1], [18]), ([1, 18], [19]), ([19], [20]), ([17, 20], [21]), ([21], [2, 21])] [[], [0], [1], [2], [], [4], [5, 2], [3, 6], [7, 6, 0, 1, 2, 3, 4, 5, 6, 7]] [⟨some 14, (.fieldAddr 163 (.tmp 1) 0), 0, none⟩,
    ⟨some 15, (.load 3 (.tmp 14)), 3, none⟩,
    ⟨some 16, (.call { callee := (.value (.func 97)), args := #[(.tmp 15)], argTypes := #[3] }), 9, none⟩,
    ⟨some 17, (.binOp .add 9 (.tmp 16) (.const (.string { data := #[47] })) 9), 9, none⟩,
    ⟨some 18, (.fieldAddr 163 (.tmp 1) 1), 0, none⟩,
    ⟨some 19, (.load 3 (.tmp 18)), 3, none⟩,
    ⟨some 20, (.call { callee := (.value (.func 97)), args := #[(.tmp 19)], argTypes := #[3] }), 9, none⟩,
    ⟨some 21, (.binOp .add 9 (.tmp 17) (.tmp 20) 9), 9, none⟩,
    ⟨some 2, (.assign (.tmp 21)), 9, none⟩])
  .ret)))
theorem lit145 : Lit Try.prog 145 22 [1] [.tmp 2] c145 := ⟨⟨Try.f145, _, Try.func145, rfl, by kernel_rfl, rfl, rfl, by kernel_rfl, by kernel_rfl⟩, by decide, by kernel_rfl⟩
/-- impl.join -/
def c146 : LC :=
  (.seq (.rgn [] [⟨some 4, (.assign (.const (.string { data := #[] }))), 9, none⟩])
  (.seq (.rgn [] [⟨some 5, (.assign (.const (.string { data := #[] }))), 9, none⟩])
  (.seq (.seq (.rgn [] [⟨some 8, (.move (.tmp 0)), 166, none⟩,
    ⟨some 9, (.call { callee := (.builtin .len), args := #[(.tmp 8)], argTypes := #[166] }), 3, none⟩,
    ⟨some 10, (.move (.const (.int .i64 0))), 3, none⟩])
  (.blk 0
    (.loop []
      (.seq (.rgn [] [⟨some 11, (.binOp .lss 3 (.tmp 10) (.tmp 9) 3), 0, none⟩])
      (.seq (.cond (.tmp 11)
        .skip
        (.exit 0))
      (.seq (.blk 1
        (.seq (.rgn [] [⟨some 12, (.move (.tmp 10)), 3, none⟩,
          ⟨some 13, (.indexAddr 166 (.tmp 8) (.tmp 10)), 0, none⟩,
          ⟨some 14, (.load 9 (.tmp 13)), 9, none⟩,
          ⟨some 6, (.assign (.tmp 12)), 3, none⟩,
          ⟨some 7, (.assign (.tmp 14)), 9, none⟩])
        (.seq (.seq (.rgn [] [⟨some 15, (.move (.tmp 6)), 3, none⟩,
          ⟨some 16, (.binOp .gtr 3 (.tmp 15) (.const (.int .i64 0)) 3), 4, none⟩])
        (.cond (.tmp 16)
          (.rgn [] [⟨some 17, (.move (.tmp 5)), 9, none⟩,
            ⟨some 18, (.move (.tmp 1)), 9, none⟩,
            ⟨some 19, (.binOp .add 9 (.tmp 17) (.tmp 18) 9), 9, none⟩,
            ⟨some 5, (.assign (.tmp 19)), 9, none⟩])
          .skip))
        (.rgn [] [⟨some 20, (.move (.tmp 5)), 9, none⟩,
          ⟨some 21, (.move (.tmp 7)), 9, none⟩,
          ⟨some 22, (.binOp .add 9 (.tmp 20) (.tmp 21) 9), 9, none⟩,
          ⟨some 5, (.assign (.tmp 22)), 9, none⟩]))))
      (.rgn [] [⟨some 23, (.binOp .add 3 (.tmp 10) (.const (.int .i64 1)) 3), 3, none⟩,
        ⟨some 10, (.move (.tmp 23)), 3, none⟩])))))))
  (.seq (.rgn [] [⟨some 24, (.move (.tmp 5)), 9, none⟩,
    ⟨some 4, (.assign (.tmp 24)), 9, none⟩])
  .ret))))
theorem lit146 : Lit Try.prog 146 25 [] [.tmp 4] c146 := ⟨⟨Try.f146, _, Try.func146, rfl, by kernel_rfl, rfl, rfl, by kernel_rfl, by kernel_rfl⟩, by decide, by kernel_rfl⟩
/-- impl.VariableName -/
def c147 : LC :=
  (.seq (.rgn [] [⟨some 2, (.assign (.const (.string { data := #[] }))), 9, none⟩])
  (.seq (.seq (.rgn [] [⟨some 3, (.move (.tmp 0)), 3, none⟩,
    ⟨some 4, (.call { callee := (.value (.func 82)), args := #[(.tmp 3), (.const (.int .i64 0)), (.const (.int .i64 4))], argTypes := #[3, 3, 3] }), 4, none⟩,
    ⟨some 5, (.unOp .not 4 (.tmp 4)), 4, none⟩])
  (.cond (.tmp 5)
    (.seq (.rgn [] [⟨some 2, (.assign (.const (.string { data := #[] }))), 9, none⟩])
    .ret)
    .skip))
  (.seq (.rgn [] [⟨some 6, (.move (.tmp 0)), 3, none⟩,
    ⟨some 7, (.move (.tmp 0)), 3, none⟩,
    ⟨some 8, (.binOp .add 3 (.tmp 7) (.const (.int .i64 1)) 3), 3, none⟩,
    ⟨some 9, (.slice 9 (.const (.string { data := #[88, 89, 90, 85, 86] })) (some (.tmp 6)) (some (.tmp 8)) none), 9, none⟩,
    ⟨some 2, (.assign (.tmp 9)), 9, none⟩])
  .ret)))
theorem lit147 : Lit Try.prog 147 10 [] [.tmp 2] c147 := ⟨⟨Try.f147, _, Try.func147, rfl, by kernel_rfl, rfl, rfl, by kernel_rfl, by kernel_rfl⟩, by decide, by kernel_rfl⟩
/-- laws.eqRational -/
def c148 : LC :=
  (.seq (.rgn [] [⟨some 2, (.box 163 (.tmp 0)), 0, none⟩,
    ⟨some 3, (.box 163 (.tmp 1)), 0, none⟩,
    ⟨some 4, (.assign (.const (.bool false))), 4, none⟩])
  (.seq (.seq (.rgn [] [⟨some 5, (.fieldAddr 163 (.tmp 2) 0), 0, none⟩,
    ⟨some 6, (.load 3 (.tmp 5)), 3, none⟩,
    ⟨some 7, (.fieldAddr 163 (.tmp 3) 0), 0, none⟩,
    ⟨some 8, (.load 3 (.tmp 7)), 3, none⟩,
    ⟨some 9, (.binOp .neq 3 (.tmp 6) (.tmp 8) 3), 4, none⟩])
  (.cond (.tmp 9)
    (.seq (.rgn [] [⟨some 4, (.assign (.const (.bool false))), 4, none⟩])
    .ret)
    .skip))
  (.seq (.seq (.rgn [] [⟨some 10, (.fieldAddr 163 (.tmp 2) 1), 0, none⟩,
    ⟨some 11, (.load 3 (.tmp 10)), 3, none⟩,
    ⟨some 12, (.fieldAddr 163 (.tmp 3) 1), 0, none⟩,
    ⟨some 13, (.load 3 (.tmp 12)), 3, none⟩,
    ⟨some 14, (.binOp .neq 3 (.tmp 11) (.tmp 13) 3), 4, none⟩])
  (.cond (.tmp 14)
    (.seq (.rgn [] [⟨some 4, (.assign (.const (.bool false))), 4, none⟩])
    .ret)
    .skip))
  (.seq (.rgn [] [⟨some 4, (.assign (.const (.bool true))), 4, none⟩])
  .ret))))
theorem lit148 : Lit Try.prog 148 15 [2, 3] [.tmp 4] c148 := ⟨⟨Try.f148, _, Try.func148, rfl, by kernel_rfl, rfl, rfl, by kernel_rfl, by kernel_rfl⟩, by decide, by kernel_rfl⟩
/-- spec.IsValidRational -/
def c169 : LC :=
  (.seq (.rgn [] [⟨some 1, (.box 163 (.tmp 0)), 0, none⟩,
    ⟨some 2, (.assign (.const (.bool false))), 4, none⟩])
  (.seq (.rgn [] [⟨some 3, (.fieldAddr 163 (.tmp 1) 1), 0, none⟩,
    ⟨some 4, (.load 3 (.tmp 3)), 3, none⟩,
    ⟨some 5, (.call { callee := (.value (.func 80)), args := #[(.tmp 4), (.const (.int .i64 1)), (.const (.int .i64 1000000000))], argTypes := #[3, 3, 3] }), 4, none⟩,
    ⟨some 6, (.move (.tmp 5)), 4, none⟩,
    ⟨some 7, (.fieldAddr 163 (.tmp 1) 0), 0, some (some 6, true)⟩,
    ⟨some 8, (.load 3 (.tmp 7)), 3, some (some 6, true)⟩,
    ⟨some 9, (.call { callee := (.value (.func 80)), args := #[(.tmp 8), (.const (.int .i64 (-1000000000))), (.const (.int .i64 1000000000))], argTypes := #[3, 3, 3] }), 4, some (some 6, true)⟩,
    ⟨some 10, (.pick (.tmp 6) (.tmp 9) (.const (.bool false))), 4, none⟩,
    ⟨some 11, (.move (.tmp 10)), 4, none⟩,
    ⟨some 12, (.fieldAddr 163 (.tmp 1) 0), 0, some (some 11, true)⟩,
    ⟨some 13, (.load 3 (.tmp 12)), 3, some (some 11, true)⟩,
    ⟨some 14, (.fieldAddr 163 (.tmp 1) 0), 0, some (some 11, true)⟩,
    ⟨some 15, (.load 3 (.tmp 14)), 3, some (some 11, true)⟩,
    ⟨some 16, (.unOp .neg 3 (.tmp 15)), 3, some (some 11, true)⟩,
    ⟨some 17, (.call { callee := (.builtin .max), args := #[(.tmp 13), (.tmp 16)], argTypes := #[3, 3] }), 3, some (some 11, true)⟩,
    ⟨some 18, (.fieldAddr 163 (.tmp 1) 1), 0, some (some 11, true)⟩,
    ⟨some 19, (.load 3 (.tmp 18)), 3, some (some 11, true)⟩,
    ⟨some 20, (.call { callee := (.value (.func 176)), args := #[(.tmp 17), (.tmp 19)], argTypes := #[3, 3] }), 3, some (some 11, true)⟩,
    ⟨some 21, (.binOp .eql 3 (.tmp 20) (.const (.int .i64 1)) 3), 4, some (some 11, true)⟩,
    ⟨some 22, (.pick (.tmp 11) (.tmp 21) (.const (.bool false))), 4, none⟩,
    ⟨some 2, (.assign (.tmp 22)), 4, none⟩])
  .ret))
theorem lit169 : Lit Try.prog 169 23 [1] [.tmp 2] c169 := ⟨⟨Try.f169, _, Try.func169, rfl, by kernel_rfl, rfl, rfl, by kernel_rfl, by kernel_rfl⟩, by decide, by kernel_rfl⟩
/-- impl.IsValidRational -/
def c170 : LC :=
  (.seq (.rgn [] [⟨some 1, (.box 163 (.tmp 0)), 0, none⟩,
    ⟨some 2, (.assign (.const (.bool false))), 4, none⟩])
  (.seq (.drw [] [([1], [3]), ([1, 3], [4]), ([4], [5]), ([5], [6]), ([1, 6], [7]), ([1, 6, 7], [8]), ([6, 8], [9]), ([6, 9], [10]), ([10], [11]), ([1, 11], [12]), ([1, 11, 12], [13]), ([11, 13], [14]), ([1, 11], [15]), ([1, 11, 15], [16]), ([11, 14, 16], [17]), ([11, 17], [18]), ([11, 18], [19]), ([19], [2, 19])] [[], [0], [1], [2, 2], [3], [4, 3], [5, 3, 3], [3, 6], [7, 6], [8], [9, 8], [10, 8, 8], [8], [12, 8], [11, 13, 11, 8], [14, 8], [8, 15], [16, 14, 0, 1, 2, 3, 4, 5, 6, 7, 8, 9, 10, 11, 12, 13, 14, 15, 16]] [⟨some 3, (.fieldAddr 163 (.tmp 1) 1), 0, none⟩,
    ⟨some 4, (.load 3 (.tmp 3)), 3, none⟩,
    ⟨some 5, (.call { callee := (.value (.func 82)), args := #[(.tmp 4), (.const (.int .i64 1)), (.const (.int .i64 1000000000))], argTypes := #[3, 3, 3] }), 4, none⟩,
    ⟨some 6, (.move (.tmp 5)), 4, none⟩,
    ⟨some 7, (.fieldAddr 163 (.tmp 1) 0), 0, some (some 6, true)⟩,
    ⟨some 8, (.load 3 (.tmp 7)), 3, some (some 6, true)⟩,
    ⟨some 9, (.call { callee := (.value (.func 82)), args := #[(.tmp 8), (.const (.int .i64 (-1000000000))), (.const (.int .i64 1000000000))], argTypes := #[3, 3, 3] }), 4, some (some 6, true)⟩,
    ⟨some 10, (.pick (.tmp 6) (.tmp 9) (.const (.bool false))), 4, none⟩,
    ⟨some 11, (.move (.tmp 10)), 4, none⟩,
    ⟨some 12, (.fieldAddr 163 (.tmp 1) 0), 0, some (some 11, true)⟩,
    ⟨some 13, (.load 3 (.tmp 12)), 3, some (some 11, true)⟩,
    ⟨some 14, (.call { callee := (.value (.func 178)), args := #[(.tmp 13)], argTypes := #[3] }), 3, some (some 11, true)⟩,
    ⟨some 15, (.fieldAddr 163 (.tmp 1) 1), 0, some (some 11, true)⟩,
    ⟨some 16, (.load 3 (.tmp 15)), 3, some (some 11, true)⟩,
    ⟨some 17, (.call { callee := (.value (.func 177)), args := #[(.tmp 14), (.tmp 16)], argTypes := #[3, 3] }), 3, some (some 11, true)⟩,
    ⟨some 18, (.binOp .eql 3 (.tmp 17) (.const (.int .i64 1)) 3), 4, some (some 11, true)⟩,
    ⟨some 19, (.pick (.tmp 11) (.tmp 18) (.const (.bool false))), 4, none⟩,
    ⟨some 2, (.assign (.tmp 19)), 4, none⟩])
  .ret))
theorem lit170 : Lit Try.prog 170 20 [1] [.tmp 2] c170 := ⟨⟨Try.f170, _, Try.func170, rfl, by kernel_rfl, rfl, rfl, by kernel_rfl, by kernel_rfl⟩, by decide, by kernel_rfl⟩
/-- spec.l2Gcd -/
def c176 : LC :=
  (.seq (.rgn [] [⟨some 4, (.assign (.const (.int .i64 0))), 3, none⟩])
  (.seq (.blk 0
    (.loop []
      (.seq (.seq (.rgn [] [⟨some 6, (.move (.tmp 1)), 3, none⟩,
        ⟨some 7, (.binOp .neq 3 (.tmp 6) (.const (.int .i64 0)) 3), 4, none⟩])
      (.cond (.tmp 7)
        .skip
        (.exit 0)))
      (.blk 1
        (.seq (.rgn [] [⟨some 8, (.move (.tmp 0)), 3, none⟩,
          ⟨some 9, (.move (.tmp 1)), 3, none⟩,
          ⟨some 10, (.binOp .rem 3 (.tmp 8) (.tmp 9) 3), 3, none⟩,
          ⟨some 5, (.assign (.tmp 10)), 3, none⟩])
        (.seq (.rgn [] [⟨some 11, (.move (.tmp 1)), 3, none⟩,
          ⟨some 0, (.assign (.tmp 11)), 3, none⟩])
        (.rgn [] [⟨some 12, (.move (.tmp 5)), 3, none⟩,
          ⟨some 1, (.assign (.tmp 12)), 3, none⟩])))))))
  (.seq (.rgn [] [⟨some 13, (.move (.tmp 0)), 3, none⟩,
    ⟨some 4, (.assign (.tmp 13)), 3, none⟩])
  .ret)))
theorem lit176 : Lit Try.prog 176 14 [] [.tmp 4] c176 := ⟨⟨Try.f176, _, Try.func176, rfl, by kernel_rfl, rfl, rfl, by kernel_rfl, by kernel_rfl⟩, by decide, by kernel_rfl⟩
/-- impl.gcd -/
def c177 : LC :=
  (.seq (.rgn [] [⟨some 4, (.assign (.const (.int .i64 0))), 3, none⟩])
  (.seq (.blk 0
    (.loop []
      (.seq (.seq (.rgn [] [⟨some 5, (.move (.tmp 1)), 3, none⟩,
        ⟨some 6, (.binOp .neq 3 (.tmp 5) (.const (.int .i64 0)) 3), 4, none⟩])
      (.cond (.tmp 6)
        .skip
        (.exit 0)))
      (.blk 1
        (.drw [] [([1], [7]), ([0], [8]), ([1], [9]), ([8, 9], [10]), ([7], [0, 7]), ([10], [1, 10])] [[], [], [], [1, 2], [0, 0, 1], [3, 4, 0, 1, 2, 3, 4]] [⟨some 7, (.move (.tmp 1)), 3, none⟩,
          ⟨some 8, (.move (.tmp 0)), 3, none⟩,
          ⟨some 9, (.move (.tmp 1)), 3, none⟩,
          ⟨some 10, (.binOp .rem 3 (.tmp 8) (.tmp 9) 3), 3, none⟩,
          ⟨some 0, (.assign (.tmp 7)), 3, none⟩,
          ⟨some 1, (.assign (.tmp 10)), 3, none⟩])))))
  (.seq (.rgn [] [⟨some 11, (.move (.tmp 0)), 3, none⟩,
    ⟨some 4, (.assign (.tmp 11)), 3, none⟩])
  .ret)))
theorem lit177 : Lit Try.prog 177 12 [] [.tmp 4] c177 := ⟨⟨Try.f177, _, Try.func177, rfl, by kernel_rfl, rfl, rfl, by kernel_rfl, by kernel_rfl⟩, by decide, by kernel_rfl⟩
/-- impl.abs -/
def c178 : LC :=
  (.seq (.rgn [] [⟨some 2, (.assign (.const (.int .i64 0))), 3, none⟩])
  (.seq (.rgn [] [⟨some 3, (.move (.tmp 0)), 3, none⟩,
    ⟨some 4, (.move (.tmp 0)), 3, none⟩,
    ⟨some 5, (.unOp .neg 3 (.tmp 4)), 3, none⟩,
    ⟨some 6, (.call { callee := (.builtin .max), args := #[(.tmp 3), (.tmp 5)], argTypes := #[3, 3] }), 3, none⟩,
    ⟨some 2, (.assign (.tmp 6)), 3, none⟩])
  .ret))
theorem lit178 : Lit Try.prog 178 7 [] [.tmp 2] c178 := ⟨⟨Try.f178, _, Try.func178, rfl, by kernel_rfl, rfl, rfl, by kernel_rfl, by kernel_rfl⟩, by decide, by kernel_rfl⟩
end Go.Proofs.Ytkmkbpphdalgoaa
