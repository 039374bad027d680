/-
  The functions' code as the program holds it, without places and edges; printed by genlit.py. No conditions.
-/
import Derived.Test.YtkmkbpphdalgoaaTb
namespace Go.Proofs.Ytkmkbpphdalgoaa
open Go.RowKit
set_option linter.unusedVariables false
set_option maxRecDepth 100000
/-- spec.SkewedRelation -/
def c15 : LC :=
  (.seq (.rgn [] [⟨some 2, (.alloc 24), 0, none⟩,
    ⟨some 3, (.assign (.const (.bool false))), 4, none⟩])
  (.seq (.seq (.rgn [] [⟨some 8, (.move (.tmp 0)), 3, none⟩,
    ⟨some 9, (.call { callee := (.value (.func 80)), args := #[(.tmp 8), (.const (.int .i64 0)), (.const (.int .i64 99))], argTypes := #[3, 3, 3] }), 4, none⟩,
    ⟨some 10, (.unOp .not 4 (.tmp 9)), 4, none⟩])
  (.cond (.tmp 10)
    (.seq (.rgn [] [⟨some 11, (.build 24 #[]), 24, none⟩,
      ⟨none, (.store 24 (.tmp 2) (.tmp 11)), 0, none⟩,
      ⟨some 3, (.assign (.const (.bool false))), 4, none⟩])
    .ret)
    .skip))
  (.seq (.rgn [] [⟨some 12, (.buildSlice 22 0 #[]), 22, none⟩,
    ⟨some 4, (.assign (.tmp 12)), 22, none⟩])
  (.seq (.seq (.rgn [] [⟨some 5, (.assign (.const (.int .i64 0))), 3, none⟩])
  (.blk 0
    (.loop []
      (.seq (.seq (.rgn [] [⟨some 13, (.move (.tmp 5)), 3, none⟩,
        ⟨some 14, (.move (.tmp 0)), 3, none⟩,
        ⟨some 15, (.binOp .leq 3 (.tmp 13) (.tmp 14) 3), 4, none⟩])
      (.cond (.tmp 15)
        .skip
        (.exit 0)))
      (.seq (.blk 1
        (.rgn [18] [⟨some 18, (.move (.tmp 4)), 22, none⟩,
          ⟨some 19, (.move (.tmp 5)), 3, none⟩,
          ⟨some 20, (.buildSlice 30 2 #[(0, (.const (.int .i64 0))), (1, (.tmp 19))]), 30, none⟩,
          ⟨some 21, (.move (.tmp 5)), 3, none⟩,
          ⟨some 22, (.buildSlice 30 2 #[(0, (.tmp 21)), (1, (.const (.int .i64 0)))]), 30, none⟩,
          ⟨some 23, (.buildSlice 22 2 #[(0, (.tmp 20)), (1, (.tmp 22))]), 22, none⟩,
          ⟨some 24, (.call { callee := (.builtin .append), args := #[(.tmp 18), (.tmp 23)], argTypes := #[22, 22] }), 22, none⟩,
          ⟨some 4, (.assign (.tmp 24)), 22, none⟩]))
      (.rgn [] [⟨some 16, (.move (.tmp 5)), 3, none⟩,
        ⟨some 17, (.binOp .add 3 (.tmp 16) (.const (.int .i64 1)) 3), 3, none⟩,
        ⟨some 5, (.assign (.tmp 17)), 3, none⟩]))))))
  (.seq (.rgn [25] [⟨some 26, (.move (.tmp 4)), 22, none⟩,
    ⟨some 27, (.call { callee := (.value (.func 81)), args := #[(.const (.int .i64 2)), (.tmp 26)], argTypes := #[3, 22] }), 25, none⟩,
    ⟨some 25, (.move (.tmp 27)), 25, none⟩,
    ⟨some 28, (.extract (.tmp 25) 0), 24, none⟩,
    ⟨some 29, (.extract (.tmp 25) 1), 4, none⟩,
    ⟨some 6, (.alloc 24), 0, none⟩,
    ⟨none, (.store 24 (.tmp 6) (.tmp 28)), 0, none⟩,
    ⟨some 7, (.assign (.tmp 29)), 4, none⟩])
  (.seq (.rgn [30] [⟨some 30, (.load 24 (.tmp 6)), 24, none⟩,
    ⟨some 31, (.move (.tmp 7)), 4, none⟩,
    ⟨none, (.store 24 (.tmp 2) (.tmp 30)), 0, none⟩,
    ⟨some 3, (.assign (.tmp 31)), 4, none⟩])
  .ret))))))
theorem lit15 : Lit Try.prog 15 32 [2, 6] [.cell 2 24, .tmp 3] c15 := ⟨⟨Try.f15, _, Try.func15, rfl, by kernel_rfl, rfl, rfl, by kernel_rfl, by kernel_rfl⟩, by decide, by kernel_rfl⟩
/-- impl.SkewedRelation -/
def c16 : LC :=
  (.seq (.rgn [] [⟨some 2, (.alloc 24), 0, none⟩,
    ⟨some 3, (.assign (.const (.bool false))), 4, none⟩])
  (.seq (.seq (.rgn [] [⟨some 6, (.move (.tmp 0)), 3, none⟩,
    ⟨some 7, (.call { callee := (.value (.func 82)), args := #[(.tmp 6), (.const (.int .i64 0)), (.const (.int .i64 99))], argTypes := #[3, 3, 3] }), 4, none⟩,
    ⟨some 8, (.unOp .not 4 (.tmp 7)), 4, none⟩])
  (.cond (.tmp 8)
    (.seq (.rgn [] [⟨some 9, (.build 24 #[]), 24, none⟩,
      ⟨none, (.store 24 (.tmp 2) (.tmp 9)), 0, none⟩,
      ⟨some 3, (.assign (.const (.bool false))), 4, none⟩])
    .ret)
    .skip))
  (.seq (.rgn [] [⟨some 4, (.assign (.const (.slice none 0 0))), 22, none⟩])
  (.seq (.seq (.rgn [] [⟨some 5, (.assign (.const (.int .i64 0))), 3, none⟩])
  (.blk 0
    (.loop []
      (.seq (.seq (.rgn [] [⟨some 10, (.move (.tmp 5)), 3, none⟩,
        ⟨some 11, (.move (.tmp 0)), 3, none⟩,
        ⟨some 12, (.binOp .leq 3 (.tmp 10) (.tmp 11) 3), 4, none⟩])
      (.cond (.tmp 12)
        .skip
        (.exit 0)))
      (.seq (.blk 1
        (.rgn [15] [⟨some 15, (.move (.tmp 4)), 22, none⟩,
          ⟨some 16, (.move (.tmp 5)), 3, none⟩,
          ⟨some 17, (.buildSlice 30 2 #[(0, (.const (.int .i64 0))), (1, (.tmp 16))]), 30, none⟩,
          ⟨some 18, (.move (.tmp 5)), 3, none⟩,
          ⟨some 19, (.buildSlice 30 2 #[(0, (.tmp 18)), (1, (.const (.int .i64 0)))]), 30, none⟩,
          ⟨some 20, (.buildSlice 22 2 #[(0, (.tmp 17)), (1, (.tmp 19))]), 22, none⟩,
          ⟨some 21, (.call { callee := (.builtin .append), args := #[(.tmp 15), (.tmp 20)], argTypes := #[22, 22] }), 22, none⟩,
          ⟨some 4, (.assign (.tmp 21)), 22, none⟩]))
      (.rgn [] [⟨some 13, (.move (.tmp 5)), 3, none⟩,
        ⟨some 14, (.binOp .add 3 (.tmp 13) (.const (.int .i64 1)) 3), 3, none⟩,
        ⟨some 5, (.assign (.tmp 14)), 3, none⟩]))))))
  (.seq (.rgn [] [⟨some 22, (.move (.tmp 4)), 22, none⟩,
    ⟨some 23, (.call { callee := (.value (.func 83)), args := #[(.const (.int .i64 2)), (.tmp 22)], argTypes := #[3, 22] }), 25, none⟩,
    ⟨some 24, (.extract (.tmp 23) 0), 24, none⟩,
    ⟨some 25, (.extract (.tmp 23) 1), 4, none⟩,
    ⟨none, (.store 24 (.tmp 2) (.tmp 24)), 0, none⟩,
    ⟨some 3, (.assign (.tmp 25)), 4, none⟩])
  .ret)))))
theorem lit16 : Lit Try.prog 16 26 [2] [.cell 2 24, .tmp 3] c16 := ⟨⟨Try.f16, _, Try.func16, rfl, by kernel_rfl, rfl, rfl, by kernel_rfl, by kernel_rfl⟩, by decide, by kernel_rfl⟩
/-- laws.eqRelation -/
def c17 : LC :=
  (.seq (.rgn [] [⟨some 2, (.box 24 (.tmp 0)), 0, none⟩,
    ⟨some 3, (.box 24 (.tmp 1)), 0, none⟩,
    ⟨some 4, (.assign (.const (.bool false))), 4, none⟩])
  (.seq (.seq (.rgn [] [⟨some 5, (.fieldAddr 24 (.tmp 2) 0), 0, none⟩,
    ⟨some 6, (.load 3 (.tmp 5)), 3, none⟩,
    ⟨some 7, (.fieldAddr 24 (.tmp 3) 0), 0, none⟩,
    ⟨some 8, (.load 3 (.tmp 7)), 3, none⟩,
    ⟨some 9, (.binOp .neq 3 (.tmp 6) (.tmp 8) 3), 4, none⟩])
  (.cond (.tmp 9)
    (.seq (.rgn [] [⟨some 4, (.assign (.const (.bool false))), 4, none⟩])
    .ret)
    .skip))
  (.seq (.seq (.rgn [] [⟨some 10, (.fieldAddr 24 (.tmp 2) 1), 0, none⟩,
    ⟨some 11, (.load 22 (.tmp 10)), 22, none⟩,
    ⟨some 12, (.fieldAddr 24 (.tmp 3) 1), 0, none⟩,
    ⟨some 13, (.load 22 (.tmp 12)), 22, none⟩,
    ⟨some 14, (.call { callee := (.value (.func 84)), args := #[(.tmp 11), (.tmp 13)], argTypes := #[22, 22] }), 4, none⟩,
    ⟨some 15, (.unOp .not 4 (.tmp 14)), 4, none⟩])
  (.cond (.tmp 15)
    (.seq (.rgn [] [⟨some 4, (.assign (.const (.bool false))), 4, none⟩])
    .ret)
    .skip))
  (.seq (.rgn [] [⟨some 4, (.assign (.const (.bool true))), 4, none⟩])
  .ret))))
theorem lit17 : Lit Try.prog 17 16 [2, 3] [.tmp 4] c17 := ⟨⟨Try.f17, _, Try.func17, rfl, by kernel_rfl, rfl, rfl, by kernel_rfl, by kernel_rfl⟩, by decide, by kernel_rfl⟩
/-- laws.markRelation -/
def c18 : LC :=
  (.seq (.rgn [] [⟨some 2, (.box 24 (.tmp 0)), 0, none⟩,
    ⟨some 4, (.assign (.const (.int .i64 0))), 3, none⟩])
  (.seq (.rgn [] [⟨some 5, (.fieldAddr 24 (.tmp 2) 1), 0, none⟩,
    ⟨some 6, (.load 22 (.tmp 5)), 22, none⟩,
    ⟨some 7, (.move (.tmp 1)), 3, none⟩,
    ⟨some 8, (.call { callee := (.value (.func 85)), args := #[(.tmp 6), (.tmp 7)], argTypes := #[22, 3] }), 3, none⟩,
    ⟨some 1, (.assign (.tmp 8)), 3, none⟩])
  (.seq (.rgn [] [⟨some 9, (.move (.tmp 1)), 3, none⟩,
    ⟨some 4, (.assign (.tmp 9)), 3, none⟩])
  .ret)))
theorem lit18 : Lit Try.prog 18 10 [2] [.tmp 4] c18 := ⟨⟨Try.f18, _, Try.func18, rfl, by kernel_rfl, rfl, rfl, by kernel_rfl, by kernel_rfl⟩, by decide, by kernel_rfl⟩
/-- laws.heldRelation -/
def c19 : LC :=
  (.seq (.rgn [] [⟨some 2, (.box 24 (.tmp 0)), 0, none⟩,
    ⟨some 4, (.assign (.const (.int .i64 0))), 3, none⟩])
  (.seq (.rgn [] [⟨some 5, (.fieldAddr 24 (.tmp 2) 1), 0, none⟩,
    ⟨some 6, (.load 22 (.tmp 5)), 22, none⟩,
    ⟨some 7, (.move (.tmp 1)), 3, none⟩,
    ⟨some 8, (.call { callee := (.value (.func 86)), args := #[(.tmp 6), (.tmp 7)], argTypes := #[22, 3] }), 3, none⟩,
    ⟨some 1, (.assign (.tmp 8)), 3, none⟩])
  (.seq (.seq (.rgn [] [⟨some 9, (.move (.tmp 1)), 3, none⟩,
    ⟨some 10, (.binOp .lss 3 (.tmp 9) (.const (.int .i64 0)) 3), 4, none⟩])
  (.cond (.tmp 10)
    (.seq (.rgn [] [⟨some 4, (.assign (.const (.int .i64 (-1)))), 3, none⟩])
    .ret)
    .skip))
  (.seq (.rgn [] [⟨some 11, (.move (.tmp 1)), 3, none⟩,
    ⟨some 4, (.assign (.tmp 11)), 3, none⟩])
  .ret))))
theorem lit19 : Lit Try.prog 19 12 [2] [.tmp 4] c19 := ⟨⟨Try.f19, _, Try.func19, rfl, by kernel_rfl, rfl, rfl, by kernel_rfl, by kernel_rfl⟩, by decide, by kernel_rfl⟩
/-- laws.eqIntS -/
def c35 : LC :=
  (.seq (.rgn [] [⟨some 4, (.assign (.const (.bool false))), 4, none⟩])
  (.seq (.seq (.rgn [] [⟨some 6, (.move (.tmp 0)), 30, none⟩,
    ⟨some 7, (.call { callee := (.builtin .len), args := #[(.tmp 6)], argTypes := #[30] }), 3, none⟩,
    ⟨some 8, (.move (.tmp 1)), 30, none⟩,
    ⟨some 9, (.call { callee := (.builtin .len), args := #[(.tmp 8)], argTypes := #[30] }), 3, none⟩,
    ⟨some 10, (.binOp .neq 3 (.tmp 7) (.tmp 9) 3), 4, none⟩])
  (.cond (.tmp 10)
    (.seq (.rgn [] [⟨some 4, (.assign (.const (.bool false))), 4, none⟩])
    .ret)
    .skip))
  (.seq (.seq (.rgn [] [⟨some 5, (.assign (.const (.int .i64 0))), 3, none⟩])
  (.blk 0
    (.loop []
      (.seq (.seq (.rgn [] [⟨some 11, (.move (.tmp 5)), 3, none⟩,
        ⟨some 12, (.move (.tmp 0)), 30, none⟩,
        ⟨some 13, (.call { callee := (.builtin .len), args := #[(.tmp 12)], argTypes := #[30] }), 3, none⟩,
        ⟨some 14, (.binOp .lss 3 (.tmp 11) (.tmp 13) 3), 4, none⟩])
      (.cond (.tmp 14)
        .skip
        (.exit 0)))
      (.seq (.blk 1
        (.seq (.drw [] [([0], [17]), ([5], [18]), ([17, 18], [19]), ([19], [20]), ([1], [21]), ([5], [22]), ([21, 22], [23]), ([23], [24]), ([20, 24], [25])] [[], [], [0, 1], [2], [], [], [4, 5], [6], [3, 7]] [⟨some 17, (.move (.tmp 0)), 30, none⟩,
          ⟨some 18, (.move (.tmp 5)), 3, none⟩,
          ⟨some 19, (.indexAddr 30 (.tmp 17) (.tmp 18)), 0, none⟩,
          ⟨some 20, (.load 3 (.tmp 19)), 3, none⟩,
          ⟨some 21, (.move (.tmp 1)), 30, none⟩,
          ⟨some 22, (.move (.tmp 5)), 3, none⟩,
          ⟨some 23, (.indexAddr 30 (.tmp 21) (.tmp 22)), 0, none⟩,
          ⟨some 24, (.load 3 (.tmp 23)), 3, none⟩,
          ⟨some 25, (.binOp .neq 3 (.tmp 20) (.tmp 24) 3), 4, none⟩])
        (.cond (.tmp 25)
          (.seq (.rgn [] [⟨some 4, (.assign (.const (.bool false))), 4, none⟩])
          .ret)
          .skip)))
      (.rgn [] [⟨some 15, (.move (.tmp 5)), 3, none⟩,
        ⟨some 16, (.binOp .add 3 (.tmp 15) (.const (.int .i64 1)) 3), 3, none⟩,
        ⟨some 5, (.assign (.tmp 16)), 3, none⟩]))))))
  (.seq (.rgn [] [⟨some 4, (.assign (.const (.bool true))), 4, none⟩])
  .ret))))
theorem lit35 : Lit Try.prog 35 26 [] [.tmp 4] c35 := ⟨⟨Try.f35, _, Try.func35, rfl, by kernel_rfl, rfl, rfl, by kernel_rfl, by kernel_rfl⟩, by decide, by kernel_rfl⟩
/-- spec.IsValidRelation -/
def c39 : LC :=
  (.seq (.rgn [] [⟨some 1, (.box 24 (.tmp 0)), 0, none⟩,
    ⟨some 2, (.assign (.const (.bool false))), 4, none⟩])
  (.seq (.seq (.rgn [] [⟨some 4, (.fieldAddr 24 (.tmp 1) 0), 0, none⟩,
    ⟨some 5, (.load 3 (.tmp 4)), 3, none⟩,
    ⟨some 6, (.call { callee := (.value (.func 80)), args := #[(.tmp 5), (.const (.int .i64 0)), (.const (.int .i64 5))], argTypes := #[3, 3, 3] }), 4, none⟩,
    ⟨some 7, (.unOp .not 4 (.tmp 6)), 4, none⟩,
    ⟨some 8, (.move (.tmp 7)), 4, none⟩,
    ⟨some 9, (.fieldAddr 24 (.tmp 1) 1), 0, some (some 8, false)⟩,
    ⟨some 10, (.load 22 (.tmp 9)), 22, some (some 8, false)⟩,
    ⟨some 11, (.call { callee := (.builtin .len), args := #[(.tmp 10)], argTypes := #[22] }), 3, some (some 8, false)⟩,
    ⟨some 12, (.binOp .gtr 3 (.tmp 11) (.const (.int .i64 4000)) 3), 4, some (some 8, false)⟩,
    ⟨some 13, (.pick (.tmp 8) (.const (.bool true)) (.tmp 12)), 4, none⟩])
  (.cond (.tmp 13)
    (.seq (.rgn [] [⟨some 2, (.assign (.const (.bool false))), 4, none⟩])
    .ret)
    .skip))
  (.seq (.seq (.rgn [] [⟨some 3, (.assign (.const (.int .i64 0))), 3, none⟩])
  (.blk 0
    (.loop []
      (.seq (.seq (.rgn [] [⟨some 14, (.move (.tmp 3)), 3, none⟩,
        ⟨some 15, (.fieldAddr 24 (.tmp 1) 1), 0, none⟩,
        ⟨some 16, (.load 22 (.tmp 15)), 22, none⟩,
        ⟨some 17, (.call { callee := (.builtin .len), args := #[(.tmp 16)], argTypes := #[22] }), 3, none⟩,
        ⟨some 18, (.binOp .lss 3 (.tmp 14) (.tmp 17) 3), 4, none⟩])
      (.cond (.tmp 18)
        .skip
        (.exit 0)))
      (.seq (.blk 1
        (.seq (.drw [] [([1], [21]), ([1, 21], [22]), ([3], [23]), ([22, 23], [24]), ([24], [25]), ([25], [26]), ([1], [27]), ([1, 27], [28]), ([26, 28], [29]), ([29], [30]), ([1, 30], [31]), ([1, 30, 31], [32]), ([3, 30], [33]), ([30, 32, 33], [34]), ([30, 34], [35]), ([30, 35], [36]), ([30, 36], [37]), ([30, 37], [38]), ([38], [39]), ([3, 39], [40]), ([39, 40], [41]), ([39, 41], [42]), ([1, 42], [43]), ([1, 42, 43], [44]), ([3, 42], [45]), ([42, 45], [46]), ([42, 44, 46], [47]), ([42, 47], [48]), ([1, 42], [49]), ([1, 42, 49], [50]), ([3, 42], [51]), ([42, 50, 51], [52]), ([42, 52], [53]), ([42, 48, 53], [54]), ([42, 54], [55]), ([39, 42, 55], [56]), ([39, 56], [57])] [[], [0], [], [1, 2], [3], [4], [], [6], [5, 7], [8], [9], [10, 9], [9], [11, 12, 9], [13, 9], [14, 9, 9], [15, 9], [9, 16], [17, 15], [18], [19, 18], [20, 18, 18], [21], [22, 21], [21], [24, 21], [23, 25, 21], [26, 21], [21], [28, 21], [21], [29, 30, 21], [31, 21], [27, 32, 21, 21], [33, 21], [21, 34, 18], [18, 35]] [⟨some 21, (.fieldAddr 24 (.tmp 1) 1), 0, none⟩,
          ⟨some 22, (.load 22 (.tmp 21)), 22, none⟩,
          ⟨some 23, (.move (.tmp 3)), 3, none⟩,
          ⟨some 24, (.indexAddr 22 (.tmp 22) (.tmp 23)), 0, none⟩,
          ⟨some 25, (.load 30 (.tmp 24)), 30, none⟩,
          ⟨some 26, (.call { callee := (.builtin .len), args := #[(.tmp 25)], argTypes := #[30] }), 3, none⟩,
          ⟨some 27, (.fieldAddr 24 (.tmp 1) 0), 0, none⟩,
          ⟨some 28, (.load 3 (.tmp 27)), 3, none⟩,
          ⟨some 29, (.binOp .neq 3 (.tmp 26) (.tmp 28) 3), 4, none⟩,
          ⟨some 30, (.move (.tmp 29)), 4, none⟩,
          ⟨some 31, (.fieldAddr 24 (.tmp 1) 1), 0, some (some 30, false)⟩,
          ⟨some 32, (.load 22 (.tmp 31)), 22, some (some 30, false)⟩,
          ⟨some 33, (.move (.tmp 3)), 3, some (some 30, false)⟩,
          ⟨some 34, (.indexAddr 22 (.tmp 32) (.tmp 33)), 0, some (some 30, false)⟩,
          ⟨some 35, (.load 30 (.tmp 34)), 30, some (some 30, false)⟩,
          ⟨some 36, (.call { callee := (.value (.func 116)), args := #[(.tmp 35)], argTypes := #[30] }), 4, some (some 30, false)⟩,
          ⟨some 37, (.unOp .not 4 (.tmp 36)), 4, some (some 30, false)⟩,
          ⟨some 38, (.pick (.tmp 30) (.const (.bool true)) (.tmp 37)), 4, none⟩,
          ⟨some 39, (.move (.tmp 38)), 4, none⟩,
          ⟨some 40, (.move (.tmp 3)), 3, some (some 39, false)⟩,
          ⟨some 41, (.binOp .gtr 3 (.tmp 40) (.const (.int .i64 0)) 3), 4, some (some 39, false)⟩,
          ⟨some 42, (.move (.tmp 41)), 4, some (some 39, false)⟩,
          ⟨some 43, (.fieldAddr 24 (.tmp 1) 1), 0, some (some 42, true)⟩,
          ⟨some 44, (.load 22 (.tmp 43)), 22, some (some 42, true)⟩,
          ⟨some 45, (.move (.tmp 3)), 3, some (some 42, true)⟩,
          ⟨some 46, (.binOp .sub 3 (.tmp 45) (.const (.int .i64 1)) 3), 3, some (some 42, true)⟩,
          ⟨some 47, (.indexAddr 22 (.tmp 44) (.tmp 46)), 0, some (some 42, true)⟩,
          ⟨some 48, (.load 30 (.tmp 47)), 30, some (some 42, true)⟩,
          ⟨some 49, (.fieldAddr 24 (.tmp 1) 1), 0, some (some 42, true)⟩,
          ⟨some 50, (.load 22 (.tmp 49)), 22, some (some 42, true)⟩,
          ⟨some 51, (.move (.tmp 3)), 3, some (some 42, true)⟩,
          ⟨some 52, (.indexAddr 22 (.tmp 50) (.tmp 51)), 0, some (some 42, true)⟩,
          ⟨some 53, (.load 30 (.tmp 52)), 30, some (some 42, true)⟩,
          ⟨some 54, (.call { callee := (.value (.func 117)), args := #[(.tmp 48), (.tmp 53)], argTypes := #[30, 30] }), 3, some (some 42, true)⟩,
          ⟨some 55, (.binOp .geq 3 (.tmp 54) (.const (.int .i64 0)) 3), 4, some (some 42, true)⟩,
          ⟨some 56, (.pick (.tmp 42) (.tmp 55) (.const (.bool false))), 4, some (some 39, false)⟩,
          ⟨some 57, (.pick (.tmp 39) (.const (.bool true)) (.tmp 56)), 4, none⟩])
        (.cond (.tmp 57)
          (.seq (.rgn [] [⟨some 2, (.assign (.const (.bool false))), 4, none⟩])
          .ret)
          .skip)))
      (.rgn [] [⟨some 19, (.move (.tmp 3)), 3, none⟩,
        ⟨some 20, (.binOp .add 3 (.tmp 19) (.const (.int .i64 1)) 3), 3, none⟩,
        ⟨some 3, (.assign (.tmp 20)), 3, none⟩]))))))
  (.seq (.rgn [] [⟨some 2, (.assign (.const (.bool true))), 4, none⟩])
  .ret))))
theorem lit39 : Lit Try.prog 39 58 [1] [.tmp 2] c39 := ⟨⟨Try.f39, _, Try.func39, rfl, by kernel_rfl, rfl, rfl, by kernel_rfl, by kernel_rfl⟩, by decide, by kernel_rfl⟩
/-- laws.markIntS -/
def c57 : LC :=
  (.seq (.rgn [] [⟨some 4, (.assign (.const (.int .i64 0))), 3, none⟩])
  (.seq (.seq (.rgn [] [⟨some 5, (.assign (.const (.int .i64 0))), 3, none⟩])
  (.blk 0
    (.loop []
      (.seq (.seq (.rgn [] [⟨some 6, (.move (.tmp 5)), 3, none⟩,
        ⟨some 7, (.move (.tmp 0)), 30, none⟩,
        ⟨some 8, (.call { callee := (.builtin .len), args := #[(.tmp 7)], argTypes := #[30] }), 3, none⟩,
        ⟨some 9, (.binOp .lss 3 (.tmp 6) (.tmp 8) 3), 4, none⟩])
      (.cond (.tmp 9)
        .skip
        (.exit 0)))
      (.seq (.blk 1
        (.seq (.rgn [] [⟨some 12, (.move (.tmp 0)), 30, none⟩,
          ⟨some 13, (.move (.tmp 5)), 3, none⟩,
          ⟨some 14, (.move (.tmp 1)), 3, none⟩,
          ⟨some 15, (.indexAddr 30 (.tmp 12) (.tmp 13)), 0, none⟩,
          ⟨none, (.store 3 (.tmp 15) (.tmp 14)), 0, none⟩])
        (.rgn [] [⟨some 16, (.move (.tmp 1)), 3, none⟩,
          ⟨some 17, (.binOp .add 3 (.tmp 16) (.const (.int .i64 1)) 3), 3, none⟩,
          ⟨some 1, (.assign (.tmp 17)), 3, none⟩])))
      (.rgn [] [⟨some 10, (.move (.tmp 5)), 3, none⟩,
        ⟨some 11, (.binOp .add 3 (.tmp 10) (.const (.int .i64 1)) 3), 3, none⟩,
        ⟨some 5, (.assign (.tmp 11)), 3, none⟩]))))))
  (.seq (.rgn [] [⟨some 18, (.move (.tmp 1)), 3, none⟩,
    ⟨some 4, (.assign (.tmp 18)), 3, none⟩])
  .ret)))
theorem lit57 : Lit Try.prog 57 19 [] [.tmp 4] c57 := ⟨⟨Try.f57, _, Try.func57, rfl, by kernel_rfl, rfl, rfl, by kernel_rfl, by kernel_rfl⟩, by decide, by kernel_rfl⟩
/-- laws.heldIntS -/
def c58 : LC :=
  (.seq (.rgn [] [⟨some 4, (.assign (.const (.int .i64 0))), 3, none⟩])
  (.seq (.seq (.rgn [] [⟨some 5, (.assign (.const (.int .i64 0))), 3, none⟩])
  (.blk 0
    (.loop []
      (.seq (.seq (.rgn [] [⟨some 6, (.move (.tmp 5)), 3, none⟩,
        ⟨some 7, (.move (.tmp 0)), 30, none⟩,
        ⟨some 8, (.call { callee := (.builtin .len), args := #[(.tmp 7)], argTypes := #[30] }), 3, none⟩,
        ⟨some 9, (.binOp .lss 3 (.tmp 6) (.tmp 8) 3), 4, none⟩])
      (.cond (.tmp 9)
        .skip
        (.exit 0)))
      (.seq (.blk 1
        (.seq (.seq (.rgn [] [⟨some 12, (.move (.tmp 0)), 30, none⟩,
          ⟨some 13, (.move (.tmp 5)), 3, none⟩,
          ⟨some 14, (.indexAddr 30 (.tmp 12) (.tmp 13)), 0, none⟩,
          ⟨some 15, (.load 3 (.tmp 14)), 3, none⟩,
          ⟨some 16, (.move (.tmp 1)), 3, none⟩,
          ⟨some 17, (.binOp .neq 3 (.tmp 15) (.tmp 16) 3), 4, none⟩])
        (.cond (.tmp 17)
          (.seq (.rgn [] [⟨some 4, (.assign (.const (.int .i64 (-1)))), 3, none⟩])
          .ret)
          .skip))
        (.rgn [] [⟨some 18, (.move (.tmp 1)), 3, none⟩,
          ⟨some 19, (.binOp .add 3 (.tmp 18) (.const (.int .i64 1)) 3), 3, none⟩,
          ⟨some 1, (.assign (.tmp 19)), 3, none⟩])))
      (.rgn [] [⟨some 10, (.move (.tmp 5)), 3, none⟩,
        ⟨some 11, (.binOp .add 3 (.tmp 10) (.const (.int .i64 1)) 3), 3, none⟩,
        ⟨some 5, (.assign (.tmp 11)), 3, none⟩]))))))
  (.seq (.rgn [] [⟨some 20, (.move (.tmp 1)), 3, none⟩,
    ⟨some 4, (.assign (.tmp 20)), 3, none⟩])
  .ret)))
theorem lit58 : Lit Try.prog 58 21 [] [.tmp 4] c58 := ⟨⟨Try.f58, _, Try.func58, rfl, by kernel_rfl, rfl, rfl, by kernel_rfl, by kernel_rfl⟩, by decide, by kernel_rfl⟩
/-- spec.l1In -/
def c80 : LC :=
  (.seq (.rgn [] [⟨some 6, (.assign (.const (.bool false))), 4, none⟩])
  (.seq (.rgn [] [⟨some 7, (.move (.tmp 0)), 3, none⟩,
    ⟨some 8, (.move (.tmp 1)), 3, none⟩,
    ⟨some 9, (.binOp .geq 3 (.tmp 7) (.tmp 8) 3), 4, none⟩,
    ⟨some 10, (.move (.tmp 9)), 4, none⟩,
    ⟨some 11, (.move (.tmp 0)), 3, some (some 10, true)⟩,
    ⟨some 12, (.move (.tmp 2)), 3, some (some 10, true)⟩,
    ⟨some 13, (.binOp .leq 3 (.tmp 11) (.tmp 12) 3), 4, some (some 10, true)⟩,
    ⟨some 14, (.pick (.tmp 10) (.tmp 13) (.const (.bool false))), 4, none⟩,
    ⟨some 6, (.assign (.tmp 14)), 4, none⟩])
  .ret))
theorem lit80 : Lit Try.prog 80 15 [] [.tmp 6] c80 := ⟨⟨Try.f80, _, Try.func80, rfl, by kernel_rfl, rfl, rfl, by kernel_rfl, by kernel_rfl⟩, by decide, by kernel_rfl⟩
/-- spec.NewRelation -/
def c81 : LC :=
  (.seq (.rgn [] [⟨some 4, (.alloc 24), 0, none⟩,
    ⟨some 5, (.assign (.const (.bool false))), 4, none⟩])
  (.seq (.seq (.rgn [] [⟨some 6, (.assign (.const (.int .i64 0))), 3, none⟩])
  (.blk 0
    (.loop []
      (.seq (.seq (.rgn [] [⟨some 8, (.move (.tmp 6)), 3, none⟩,
        ⟨some 9, (.move (.tmp 1)), 22, none⟩,
        ⟨some 10, (.call { callee := (.builtin .len), args := #[(.tmp 9)], argTypes := #[22] }), 3, none⟩,
        ⟨some 11, (.binOp .lss 3 (.tmp 8) (.tmp 10) 3), 4, none⟩])
      (.cond (.tmp 11)
        .skip
        (.exit 0)))
      (.seq (.blk 1
        (.seq (.rgn [] [⟨some 14, (.move (.tmp 1)), 22, none⟩,
          ⟨some 15, (.move (.tmp 6)), 3, none⟩,
          ⟨some 16, (.indexAddr 22 (.tmp 14) (.tmp 15)), 0, none⟩,
          ⟨some 17, (.load 30 (.tmp 16)), 30, none⟩,
          ⟨some 18, (.call { callee := (.builtin .len), args := #[(.tmp 17)], argTypes := #[30] }), 3, none⟩,
          ⟨some 19, (.move (.tmp 0)), 3, none⟩,
          ⟨some 20, (.binOp .neq 3 (.tmp 18) (.tmp 19) 3), 4, none⟩,
          ⟨some 21, (.move (.tmp 20)), 4, none⟩,
          ⟨some 22, (.move (.tmp 1)), 22, some (some 21, false)⟩,
          ⟨some 23, (.move (.tmp 6)), 3, some (some 21, false)⟩,
          ⟨some 24, (.indexAddr 22 (.tmp 22) (.tmp 23)), 0, some (some 21, false)⟩,
          ⟨some 25, (.load 30 (.tmp 24)), 30, some (some 21, false)⟩,
          ⟨some 26, (.call { callee := (.value (.func 116)), args := #[(.tmp 25)], argTypes := #[30] }), 4, some (some 21, false)⟩,
          ⟨some 27, (.unOp .not 4 (.tmp 26)), 4, some (some 21, false)⟩,
          ⟨some 28, (.pick (.tmp 21) (.const (.bool true)) (.tmp 27)), 4, none⟩])
        (.cond (.tmp 28)
          (.seq (.rgn [] [⟨some 29, (.build 24 #[]), 24, none⟩,
            ⟨none, (.store 24 (.tmp 4) (.tmp 29)), 0, none⟩,
            ⟨some 5, (.assign (.const (.bool false))), 4, none⟩])
          .ret)
          .skip)))
      (.rgn [] [⟨some 12, (.move (.tmp 6)), 3, none⟩,
        ⟨some 13, (.binOp .add 3 (.tmp 12) (.const (.int .i64 1)) 3), 3, none⟩,
        ⟨some 6, (.assign (.tmp 13)), 3, none⟩]))))))
  (.seq (.rgn [] [⟨some 30, (.move (.tmp 0)), 3, none⟩,
    ⟨some 31, (.move (.tmp 1)), 22, none⟩,
    ⟨some 32, (.call { callee := (.value (.func 139)), args := #[(.tmp 31)], argTypes := #[22] }), 22, none⟩,
    ⟨some 33, (.build 24 #[(0, (.tmp 30)), (1, (.tmp 32))]), 24, none⟩,
    ⟨some 34, (.call { callee := (.value (.func 137)), args := #[(.tmp 33)], argTypes := #[24] }), 24, none⟩,
    ⟨some 7, (.alloc 24), 0, none⟩,
    ⟨none, (.store 24 (.tmp 7) (.tmp 34)), 0, none⟩])
  (.seq (.seq (.rgn [] [⟨some 35, (.load 24 (.tmp 7)), 24, none⟩,
    ⟨some 36, (.call { callee := (.value (.func 39)), args := #[(.tmp 35)], argTypes := #[24] }), 4, none⟩,
    ⟨some 37, (.unOp .not 4 (.tmp 36)), 4, none⟩])
  (.cond (.tmp 37)
    (.seq (.rgn [] [⟨some 38, (.build 24 #[]), 24, none⟩,
      ⟨none, (.store 24 (.tmp 4) (.tmp 38)), 0, none⟩,
      ⟨some 5, (.assign (.const (.bool false))), 4, none⟩])
    .ret)
    .skip))
  (.seq (.rgn [39] [⟨some 39, (.load 24 (.tmp 7)), 24, none⟩,
    ⟨none, (.store 24 (.tmp 4) (.tmp 39)), 0, none⟩,
    ⟨some 5, (.assign (.const (.bool true))), 4, none⟩])
  .ret)))))
theorem lit81 : Lit Try.prog 81 40 [4, 7] [.cell 4 24, .tmp 5] c81 := ⟨⟨Try.f81, _, Try.func81, rfl, by kernel_rfl, rfl, rfl, by kernel_rfl, by kernel_rfl⟩, by decide, by kernel_rfl⟩
/-- impl.within -/
def c82 : LC :=
  (.seq (.rgn [] [⟨some 6, (.assign (.const (.bool false))), 4, none⟩])
  (.seq (.rgn [] [⟨some 7, (.move (.tmp 0)), 3, none⟩,
    ⟨some 8, (.move (.tmp 1)), 3, none⟩,
    ⟨some 9, (.binOp .geq 3 (.tmp 7) (.tmp 8) 3), 4, none⟩,
    ⟨some 10, (.move (.tmp 9)), 4, none⟩,
    ⟨some 11, (.move (.tmp 0)), 3, some (some 10, true)⟩,
    ⟨some 12, (.move (.tmp 2)), 3, some (some 10, true)⟩,
    ⟨some 13, (.binOp .leq 3 (.tmp 11) (.tmp 12) 3), 4, some (some 10, true)⟩,
    ⟨some 14, (.pick (.tmp 10) (.tmp 13) (.const (.bool false))), 4, none⟩,
    ⟨some 6, (.assign (.tmp 14)), 4, none⟩])
  .ret))
theorem lit82 : Lit Try.prog 82 15 [] [.tmp 6] c82 := ⟨⟨Try.f82, _, Try.func82, rfl, by kernel_rfl, rfl, rfl, by kernel_rfl, by kernel_rfl⟩, by decide, by kernel_rfl⟩
/-- impl.NewRelation -/
def c83 : LC :=
  (.seq (.rgn [] [⟨some 4, (.alloc 24), 0, none⟩,
    ⟨some 5, (.assign (.const (.bool false))), 4, none⟩])
  (.seq (.seq (.rgn [] [⟨some 9, (.move (.tmp 1)), 22, none⟩,
    ⟨some 10, (.call { callee := (.builtin .len), args := #[(.tmp 9)], argTypes := #[22] }), 3, none⟩,
    ⟨some 11, (.move (.const (.int .i64 0))), 3, none⟩])
  (.blk 0
    (.loop []
      (.seq (.rgn [] [⟨some 12, (.binOp .lss 3 (.tmp 11) (.tmp 10) 3), 0, none⟩])
      (.seq (.cond (.tmp 12)
        .skip
        (.exit 0))
      (.seq (.blk 1
        (.seq (.rgn [14] [⟨some 13, (.indexAddr 22 (.tmp 9) (.tmp 11)), 0, none⟩,
          ⟨some 14, (.load 30 (.tmp 13)), 30, none⟩,
          ⟨some 7, (.assign (.tmp 14)), 30, none⟩])
        (.seq (.rgn [] [⟨some 15, (.move (.tmp 7)), 30, none⟩,
          ⟨some 16, (.call { callee := (.builtin .len), args := #[(.tmp 15)], argTypes := #[30] }), 3, none⟩,
          ⟨some 17, (.move (.tmp 0)), 3, none⟩,
          ⟨some 18, (.binOp .neq 3 (.tmp 16) (.tmp 17) 3), 4, none⟩,
          ⟨some 19, (.move (.tmp 18)), 4, none⟩,
          ⟨some 20, (.move (.tmp 7)), 30, some (some 19, false)⟩,
          ⟨some 21, (.call { callee := (.value (.func 140)), args := #[(.tmp 20)], argTypes := #[30] }), 4, some (some 19, false)⟩,
          ⟨some 22, (.unOp .not 4 (.tmp 21)), 4, some (some 19, false)⟩,
          ⟨some 23, (.pick (.tmp 19) (.const (.bool true)) (.tmp 22)), 4, none⟩])
        (.cond (.tmp 23)
          (.seq (.rgn [] [⟨some 24, (.build 24 #[]), 24, none⟩,
            ⟨none, (.store 24 (.tmp 4) (.tmp 24)), 0, none⟩,
            ⟨some 5, (.assign (.const (.bool false))), 4, none⟩])
          .ret)
          .skip))))
      (.rgn [] [⟨some 25, (.binOp .add 3 (.tmp 11) (.const (.int .i64 1)) 3), 3, none⟩,
        ⟨some 11, (.move (.tmp 25)), 3, none⟩])))))))
  (.seq (.rgn [] [⟨some 26, (.move (.tmp 0)), 3, none⟩,
    ⟨some 27, (.move (.tmp 1)), 22, none⟩,
    ⟨some 28, (.call { callee := (.value (.func 141)), args := #[(.tmp 27)], argTypes := #[22] }), 22, none⟩,
    ⟨some 29, (.build 24 #[(0, (.tmp 26)), (1, (.tmp 28))]), 24, none⟩,
    ⟨some 8, (.alloc 24), 0, none⟩,
    ⟨none, (.store 24 (.tmp 8) (.tmp 29)), 0, none⟩])
  (.seq (.seq (.rgn [] [⟨some 30, (.load 24 (.tmp 8)), 24, none⟩,
    ⟨some 31, (.call { callee := (.value (.func 103)), args := #[(.tmp 30)], argTypes := #[24] }), 4, none⟩,
    ⟨some 32, (.unOp .not 4 (.tmp 31)), 4, none⟩])
  (.cond (.tmp 32)
    (.seq (.rgn [] [⟨some 33, (.build 24 #[]), 24, none⟩,
      ⟨none, (.store 24 (.tmp 4) (.tmp 33)), 0, none⟩,
      ⟨some 5, (.assign (.const (.bool false))), 4, none⟩])
    .ret)
    .skip))
  (.seq (.rgn [34] [⟨some 34, (.load 24 (.tmp 8)), 24, none⟩,
    ⟨none, (.store 24 (.tmp 4) (.tmp 34)), 0, none⟩,
    ⟨some 5, (.assign (.const (.bool true))), 4, none⟩])
  .ret)))))
theorem lit83 : Lit Try.prog 83 35 [4, 8] [.cell 4 24, .tmp 5] c83 := ⟨⟨Try.f83, _, Try.func83, rfl, by kernel_rfl, rfl, rfl, by kernel_rfl, by kernel_rfl⟩, by decide, by kernel_rfl⟩
/-- laws.eqIntSS -/
def c84 : LC :=
  (.seq (.rgn [] [⟨some 4, (.assign (.const (.bool false))), 4, none⟩])
  (.seq (.seq (.rgn [] [⟨some 6, (.move (.tmp 0)), 22, none⟩,
    ⟨some 7, (.call { callee := (.builtin .len), args := #[(.tmp 6)], argTypes := #[22] }), 3, none⟩,
    ⟨some 8, (.move (.tmp 1)), 22, none⟩,
    ⟨some 9, (.call { callee := (.builtin .len), args := #[(.tmp 8)], argTypes := #[22] }), 3, none⟩,
    ⟨some 10, (.binOp .neq 3 (.tmp 7) (.tmp 9) 3), 4, none⟩])
  (.cond (.tmp 10)
    (.seq (.rgn [] [⟨some 4, (.assign (.const (.bool false))), 4, none⟩])
    .ret)
    .skip))
  (.seq (.seq (.rgn [] [⟨some 5, (.assign (.const (.int .i64 0))), 3, none⟩])
  (.blk 0
    (.loop []
      (.seq (.seq (.rgn [] [⟨some 11, (.move (.tmp 5)), 3, none⟩,
        ⟨some 12, (.move (.tmp 0)), 22, none⟩,
        ⟨some 13, (.call { callee := (.builtin .len), args := #[(.tmp 12)], argTypes := #[22] }), 3, none⟩,
        ⟨some 14, (.binOp .lss 3 (.tmp 11) (.tmp 13) 3), 4, none⟩])
      (.cond (.tmp 14)
        .skip
        (.exit 0)))
      (.seq (.blk 1
        (.seq (.drw [] [([0], [17]), ([5], [18]), ([17, 18], [19]), ([19], [20]), ([1], [21]), ([5], [22]), ([21, 22], [23]), ([23], [24]), ([20, 24], [25]), ([25], [26])] [[], [], [0, 1], [2], [], [], [4, 5], [6], [3, 7], [8]] [⟨some 17, (.move (.tmp 0)), 22, none⟩,
          ⟨some 18, (.move (.tmp 5)), 3, none⟩,
          ⟨some 19, (.indexAddr 22 (.tmp 17) (.tmp 18)), 0, none⟩,
          ⟨some 20, (.load 30 (.tmp 19)), 30, none⟩,
          ⟨some 21, (.move (.tmp 1)), 22, none⟩,
          ⟨some 22, (.move (.tmp 5)), 3, none⟩,
          ⟨some 23, (.indexAddr 22 (.tmp 21) (.tmp 22)), 0, none⟩,
          ⟨some 24, (.load 30 (.tmp 23)), 30, none⟩,
          ⟨some 25, (.call { callee := (.value (.func 35)), args := #[(.tmp 20), (.tmp 24)], argTypes := #[30, 30] }), 4, none⟩,
          ⟨some 26, (.unOp .not 4 (.tmp 25)), 4, none⟩])
        (.cond (.tmp 26)
          (.seq (.rgn [] [⟨some 4, (.assign (.const (.bool false))), 4, none⟩])
          .ret)
          .skip)))
      (.rgn [] [⟨some 15, (.move (.tmp 5)), 3, none⟩,
        ⟨some 16, (.binOp .add 3 (.tmp 15) (.const (.int .i64 1)) 3), 3, none⟩,
        ⟨some 5, (.assign (.tmp 16)), 3, none⟩]))))))
  (.seq (.rgn [] [⟨some 4, (.assign (.const (.bool true))), 4, none⟩])
  .ret))))
theorem lit84 : Lit Try.prog 84 27 [] [.tmp 4] c84 := ⟨⟨Try.f84, _, Try.func84, rfl, by kernel_rfl, rfl, rfl, by kernel_rfl, by kernel_rfl⟩, by decide, by kernel_rfl⟩
/-- laws.markIntSS -/
def c85 : LC :=
  (.seq (.rgn [] [⟨some 4, (.assign (.const (.int .i64 0))), 3, none⟩])
  (.seq (.seq (.rgn [] [⟨some 5, (.assign (.const (.int .i64 0))), 3, none⟩])
  (.blk 0
    (.loop []
      (.seq (.seq (.rgn [] [⟨some 6, (.move (.tmp 5)), 3, none⟩,
        ⟨some 7, (.move (.tmp 0)), 22, none⟩,
        ⟨some 8, (.call { callee := (.builtin .len), args := #[(.tmp 7)], argTypes := #[22] }), 3, none⟩,
        ⟨some 9, (.binOp .lss 3 (.tmp 6) (.tmp 8) 3), 4, none⟩])
      (.cond (.tmp 9)
        .skip
        (.exit 0)))
      (.seq (.blk 1
        (.rgn [] [⟨some 12, (.move (.tmp 0)), 22, none⟩,
          ⟨some 13, (.move (.tmp 5)), 3, none⟩,
          ⟨some 14, (.indexAddr 22 (.tmp 12) (.tmp 13)), 0, none⟩,
          ⟨some 15, (.load 30 (.tmp 14)), 30, none⟩,
          ⟨some 16, (.move (.tmp 1)), 3, none⟩,
          ⟨some 17, (.call { callee := (.value (.func 57)), args := #[(.tmp 15), (.tmp 16)], argTypes := #[30, 3] }), 3, none⟩,
          ⟨some 1, (.assign (.tmp 17)), 3, none⟩]))
      (.rgn [] [⟨some 10, (.move (.tmp 5)), 3, none⟩,
        ⟨some 11, (.binOp .add 3 (.tmp 10) (.const (.int .i64 1)) 3), 3, none⟩,
        ⟨some 5, (.assign (.tmp 11)), 3, none⟩]))))))
  (.seq (.rgn [] [⟨some 18, (.move (.tmp 1)), 3, none⟩,
    ⟨some 4, (.assign (.tmp 18)), 3, none⟩])
  .ret)))
theorem lit85 : Lit Try.prog 85 19 [] [.tmp 4] c85 := ⟨⟨Try.f85, _, Try.func85, rfl, by kernel_rfl, rfl, rfl, by kernel_rfl, by kernel_rfl⟩, by decide, by kernel_rfl⟩
/-- laws.heldIntSS -/
def c86 : LC :=
  (.seq (.rgn [] [⟨some 4, (.assign (.const (.int .i64 0))), 3, none⟩])
  (.seq (.seq (.rgn [] [⟨some 5, (.assign (.const (.int .i64 0))), 3, none⟩])
  (.blk 0
    (.loop []
      (.seq (.seq (.rgn [] [⟨some 6, (.move (.tmp 5)), 3, none⟩,
        ⟨some 7, (.move (.tmp 0)), 22, none⟩,
        ⟨some 8, (.call { callee := (.builtin .len), args := #[(.tmp 7)], argTypes := #[22] }), 3, none⟩,
        ⟨some 9, (.binOp .lss 3 (.tmp 6) (.tmp 8) 3), 4, none⟩])
      (.cond (.tmp 9)
        .skip
        (.exit 0)))
      (.seq (.blk 1
        (.seq (.rgn [] [⟨some 12, (.move (.tmp 0)), 22, none⟩,
          ⟨some 13, (.move (.tmp 5)), 3, none⟩,
          ⟨some 14, (.indexAddr 22 (.tmp 12) (.tmp 13)), 0, none⟩,
          ⟨some 15, (.load 30 (.tmp 14)), 30, none⟩,
          ⟨some 16, (.move (.tmp 1)), 3, none⟩,
          ⟨some 17, (.call { callee := (.value (.func 58)), args := #[(.tmp 15), (.tmp 16)], argTypes := #[30, 3] }), 3, none⟩,
          ⟨some 1, (.assign (.tmp 17)), 3, none⟩])
        (.seq (.rgn [] [⟨some 18, (.move (.tmp 1)), 3, none⟩,
          ⟨some 19, (.binOp .lss 3 (.tmp 18) (.const (.int .i64 0)) 3), 4, none⟩])
        (.cond (.tmp 19)
          (.seq (.rgn [] [⟨some 4, (.assign (.const (.int .i64 (-1)))), 3, none⟩])
          .ret)
          .skip))))
      (.rgn [] [⟨some 10, (.move (.tmp 5)), 3, none⟩,
        ⟨some 11, (.binOp .add 3 (.tmp 10) (.const (.int .i64 1)) 3), 3, none⟩,
        ⟨some 5, (.assign (.tmp 11)), 3, none⟩]))))))
  (.seq (.rgn [] [⟨some 20, (.move (.tmp 1)), 3, none⟩,
    ⟨some 4, (.assign (.tmp 20)), 3, none⟩])
  .ret)))
theorem lit86 : Lit Try.prog 86 21 [] [.tmp 4] c86 := ⟨⟨Try.f86, _, Try.func86, rfl, by kernel_rfl, rfl, rfl, by kernel_rfl, by kernel_rfl⟩, by decide, by kernel_rfl⟩
/-- impl.IsValidRelation -/
def c103 : LC :=
  (.seq (.rgn [] [⟨some 1, (.box 24 (.tmp 0)), 0, none⟩,
    ⟨some 2, (.assign (.const (.bool false))), 4, none⟩])
  (.seq (.rgn [] [⟨some 3, (.fieldAddr 24 (.tmp 1) 0), 0, none⟩,
    ⟨some 4, (.load 3 (.tmp 3)), 3, none⟩,
    ⟨some 5, (.fieldAddr 24 (.tmp 1) 1), 0, none⟩,
    ⟨some 6, (.load 22 (.tmp 5)), 22, none⟩,
    ⟨some 7, (.call { callee := (.value (.func 149)), args := #[(.tmp 4), (.tmp 6)], argTypes := #[3, 22] }), 4, none⟩,
    ⟨some 2, (.assign (.tmp 7)), 4, none⟩])
  .ret))
theorem lit103 : Lit Try.prog 103 8 [1] [.tmp 2] c103 := ⟨⟨Try.f103, _, Try.func103, rfl, by kernel_rfl, rfl, rfl, by kernel_rfl, by kernel_rfl⟩, by decide, by kernel_rfl⟩
/-- impl.copyInts -/
def c105 : LC :=
  (.seq (.rgn [] [⟨some 2, (.assign (.const (.slice none 0 0))), 30, none⟩])
  (.seq (.rgn [4] [⟨some 3, (.buildSlice 30 0 #[]), 30, none⟩,
    ⟨some 4, (.move (.tmp 0)), 30, none⟩,
    ⟨some 5, (.call { callee := (.builtin .append), args := #[(.tmp 3), (.tmp 4)], argTypes := #[30, 30] }), 30, none⟩,
    ⟨some 2, (.assign (.tmp 5)), 30, none⟩])
  .ret))
theorem lit105 : Lit Try.prog 105 6 [] [.tmp 2] c105 := ⟨⟨Try.f105, _, Try.func105, rfl, by kernel_rfl, rfl, rfl, by kernel_rfl, by kernel_rfl⟩, by decide, by kernel_rfl⟩
/-- spec.AreValidValues -/
def c116 : LC :=
  (.seq (.rgn [] [⟨some 2, (.assign (.const (.bool false))), 4, none⟩])
  (.seq (.seq (.rgn [] [⟨some 3, (.assign (.const (.int .i64 0))), 3, none⟩])
  (.blk 0
    (.loop []
      (.seq (.seq (.rgn [] [⟨some 4, (.move (.tmp 3)), 3, none⟩,
        ⟨some 5, (.move (.tmp 0)), 30, none⟩,
        ⟨some 6, (.call { callee := (.builtin .len), args := #[(.tmp 5)], argTypes := #[30] }), 3, none⟩,
        ⟨some 7, (.binOp .lss 3 (.tmp 4) (.tmp 6) 3), 4, none⟩])
      (.cond (.tmp 7)
        .skip
        (.exit 0)))
      (.seq (.blk 1
        (.seq (.rgn [] [⟨some 10, (.move (.tmp 0)), 30, none⟩,
          ⟨some 11, (.move (.tmp 3)), 3, none⟩,
          ⟨some 12, (.indexAddr 30 (.tmp 10) (.tmp 11)), 0, none⟩,
          ⟨some 13, (.load 3 (.tmp 12)), 3, none⟩,
          ⟨some 14, (.call { callee := (.value (.func 80)), args := #[(.tmp 13), (.const (.int .i64 0)), (.const (.int .i64 99))], argTypes := #[3, 3, 3] }), 4, none⟩,
          ⟨some 15, (.unOp .not 4 (.tmp 14)), 4, none⟩])
        (.cond (.tmp 15)
          (.seq (.rgn [] [⟨some 2, (.assign (.const (.bool false))), 4, none⟩])
          .ret)
          .skip)))
      (.rgn [] [⟨some 8, (.move (.tmp 3)), 3, none⟩,
        ⟨some 9, (.binOp .add 3 (.tmp 8) (.const (.int .i64 1)) 3), 3, none⟩,
        ⟨some 3, (.assign (.tmp 9)), 3, none⟩]))))))
  (.seq (.rgn [] [⟨some 2, (.assign (.const (.bool true))), 4, none⟩])
  .ret)))
theorem lit116 : Lit Try.prog 116 16 [] [.tmp 2] c116 := ⟨⟨Try.f116, _, Try.func116, rfl, by kernel_rfl, rfl, rfl, by kernel_rfl, by kernel_rfl⟩, by decide, by kernel_rfl⟩
/-- spec.CompareRows -/
def c117 : LC :=
  (.seq (.rgn [] [⟨some 4, (.assign (.const (.int .i64 0))), 3, none⟩])
  (.seq (.seq (.rgn [] [⟨some 5, (.assign (.const (.int .i64 0))), 3, none⟩])
  (.blk 0
    (.loop []
      (.seq (.seq (.rgn [] [⟨some 6, (.move (.tmp 5)), 3, none⟩,
        ⟨some 7, (.move (.tmp 0)), 30, none⟩,
        ⟨some 8, (.call { callee := (.builtin .len), args := #[(.tmp 7)], argTypes := #[30] }), 3, none⟩,
        ⟨some 9, (.binOp .lss 3 (.tmp 6) (.tmp 8) 3), 4, none⟩,
        ⟨some 10, (.move (.tmp 9)), 4, none⟩,
        ⟨some 11, (.move (.tmp 5)), 3, some (some 10, true)⟩,
        ⟨some 12, (.move (.tmp 1)), 30, some (some 10, true)⟩,
        ⟨some 13, (.call { callee := (.builtin .len), args := #[(.tmp 12)], argTypes := #[30] }), 3, some (some 10, true)⟩,
        ⟨some 14, (.binOp .lss 3 (.tmp 11) (.tmp 13) 3), 4, some (some 10, true)⟩,
        ⟨some 15, (.pick (.tmp 10) (.tmp 14) (.const (.bool false))), 4, none⟩])
      (.cond (.tmp 15)
        .skip
        (.exit 0)))
      (.seq (.blk 1
        (.seq (.seq (.drw [] [([0], [18]), ([5], [19]), ([18, 19], [20]), ([20], [21]), ([1], [22]), ([5], [23]), ([22, 23], [24]), ([24], [25]), ([21, 25], [26])] [[], [], [0, 1], [2], [], [], [4, 5], [6], [3, 7]] [⟨some 18, (.move (.tmp 0)), 30, none⟩,
          ⟨some 19, (.move (.tmp 5)), 3, none⟩,
          ⟨some 20, (.indexAddr 30 (.tmp 18) (.tmp 19)), 0, none⟩,
          ⟨some 21, (.load 3 (.tmp 20)), 3, none⟩,
          ⟨some 22, (.move (.tmp 1)), 30, none⟩,
          ⟨some 23, (.move (.tmp 5)), 3, none⟩,
          ⟨some 24, (.indexAddr 30 (.tmp 22) (.tmp 23)), 0, none⟩,
          ⟨some 25, (.load 3 (.tmp 24)), 3, none⟩,
          ⟨some 26, (.binOp .lss 3 (.tmp 21) (.tmp 25) 3), 4, none⟩])
        (.cond (.tmp 26)
          (.seq (.rgn [] [⟨some 4, (.assign (.const (.int .i64 (-1)))), 3, none⟩])
          .ret)
          .skip))
        (.seq (.drw [] [([0], [27]), ([5], [28]), ([27, 28], [29]), ([29], [30]), ([1], [31]), ([5], [32]), ([31, 32], [33]), ([33], [34]), ([30, 34], [35])] [[], [], [0, 1], [2], [], [], [4, 5], [6], [3, 7]] [⟨some 27, (.move (.tmp 0)), 30, none⟩,
          ⟨some 28, (.move (.tmp 5)), 3, none⟩,
          ⟨some 29, (.indexAddr 30 (.tmp 27) (.tmp 28)), 0, none⟩,
          ⟨some 30, (.load 3 (.tmp 29)), 3, none⟩,
          ⟨some 31, (.move (.tmp 1)), 30, none⟩,
          ⟨some 32, (.move (.tmp 5)), 3, none⟩,
          ⟨some 33, (.indexAddr 30 (.tmp 31) (.tmp 32)), 0, none⟩,
          ⟨some 34, (.load 3 (.tmp 33)), 3, none⟩,
          ⟨some 35, (.binOp .gtr 3 (.tmp 30) (.tmp 34) 3), 4, none⟩])
        (.cond (.tmp 35)
          (.seq (.rgn [] [⟨some 4, (.assign (.const (.int .i64 1))), 3, none⟩])
          .ret)
          .skip))))
      (.rgn [] [⟨some 16, (.move (.tmp 5)), 3, none⟩,
        ⟨some 17, (.binOp .add 3 (.tmp 16) (.const (.int .i64 1)) 3), 3, none⟩,
        ⟨some 5, (.assign (.tmp 17)), 3, none⟩]))))))
  (.seq (.seq (.rgn [] [⟨some 36, (.move (.tmp 0)), 30, none⟩,
    ⟨some 37, (.call { callee := (.builtin .len), args := #[(.tmp 36)], argTypes := #[30] }), 3, none⟩,
    ⟨some 38, (.move (.tmp 1)), 30, none⟩,
    ⟨some 39, (.call { callee := (.builtin .len), args := #[(.tmp 38)], argTypes := #[30] }), 3, none⟩,
    ⟨some 40, (.binOp .lss 3 (.tmp 37) (.tmp 39) 3), 4, none⟩])
  (.cond (.tmp 40)
    (.seq (.rgn [] [⟨some 4, (.assign (.const (.int .i64 (-1)))), 3, none⟩])
    .ret)
    .skip))
  (.seq (.seq (.rgn [] [⟨some 41, (.move (.tmp 0)), 30, none⟩,
    ⟨some 42, (.call { callee := (.builtin .len), args := #[(.tmp 41)], argTypes := #[30] }), 3, none⟩,
    ⟨some 43, (.move (.tmp 1)), 30, none⟩,
    ⟨some 44, (.call { callee := (.builtin .len), args := #[(.tmp 43)], argTypes := #[30] }), 3, none⟩,
    ⟨some 45, (.binOp .gtr 3 (.tmp 42) (.tmp 44) 3), 4, none⟩])
  (.cond (.tmp 45)
    (.seq (.rgn [] [⟨some 4, (.assign (.const (.int .i64 1))), 3, none⟩])
    .ret)
    .skip))
  (.seq (.rgn [] [⟨some 4, (.assign (.const (.int .i64 0))), 3, none⟩])
  .ret)))))
theorem lit117 : Lit Try.prog 117 46 [] [.tmp 4] c117 := ⟨⟨Try.f117, _, Try.func117, rfl, by kernel_rfl, rfl, rfl, by kernel_rfl, by kernel_rfl⟩, by decide, by kernel_rfl⟩
/-- impl.copyRows -/
def c118 : LC :=
  (.seq (.rgn [] [⟨some 2, (.assign (.const (.slice none 0 0))), 22, none⟩])
  (.seq (.rgn [] [⟨some 3, (.assign (.const (.slice none 0 0))), 22, none⟩])
  (.seq (.seq (.rgn [] [⟨some 6, (.move (.tmp 0)), 22, none⟩,
    ⟨some 7, (.call { callee := (.builtin .len), args := #[(.tmp 6)], argTypes := #[22] }), 3, none⟩,
    ⟨some 8, (.move (.const (.int .i64 0))), 3, none⟩])
  (.blk 0
    (.loop []
      (.seq (.rgn [] [⟨some 9, (.binOp .lss 3 (.tmp 8) (.tmp 7) 3), 0, none⟩])
      (.seq (.cond (.tmp 9)
        .skip
        (.exit 0))
      (.seq (.blk 1
        (.seq (.rgn [11] [⟨some 10, (.indexAddr 22 (.tmp 6) (.tmp 8)), 0, none⟩,
          ⟨some 11, (.load 30 (.tmp 10)), 30, none⟩,
          ⟨some 5, (.assign (.tmp 11)), 30, none⟩])
        (.rgn [12] [⟨some 12, (.move (.tmp 3)), 22, none⟩,
          ⟨some 13, (.move (.tmp 5)), 30, none⟩,
          ⟨some 14, (.call { callee := (.value (.func 105)), args := #[(.tmp 13)], argTypes := #[30] }), 30, none⟩,
          ⟨some 15, (.buildSlice 22 1 #[(0, (.tmp 14))]), 22, none⟩,
          ⟨some 16, (.call { callee := (.builtin .append), args := #[(.tmp 12), (.tmp 15)], argTypes := #[22, 22] }), 22, none⟩,
          ⟨some 3, (.assign (.tmp 16)), 22, none⟩])))
      (.rgn [] [⟨some 17, (.binOp .add 3 (.tmp 8) (.const (.int .i64 1)) 3), 3, none⟩,
        ⟨some 8, (.move (.tmp 17)), 3, none⟩])))))))
  (.seq (.rgn [18] [⟨some 18, (.move (.tmp 3)), 22, none⟩,
    ⟨some 2, (.assign (.tmp 18)), 22, none⟩])
  .ret))))
theorem lit118 : Lit Try.prog 118 19 [] [.tmp 2] c118 := ⟨⟨Try.f118, _, Try.func118, rfl, by kernel_rfl, rfl, rfl, by kernel_rfl, by kernel_rfl⟩, by decide, by kernel_rfl⟩
/-- spec.l5Copy -/
def c137 : LC :=
  (.seq (.rgn [] [⟨some 1, (.box 24 (.tmp 0)), 0, none⟩,
    ⟨some 2, (.alloc 24), 0, none⟩])
  (.seq (.rgn [] [⟨some 5, (.fieldAddr 24 (.tmp 1) 0), 0, none⟩,
    ⟨some 6, (.load 3 (.tmp 5)), 3, none⟩,
    ⟨some 7, (.build 24 #[(0, (.tmp 6))]), 24, none⟩,
    ⟨some 3, (.alloc 24), 0, none⟩,
    ⟨none, (.store 24 (.tmp 3) (.tmp 7)), 0, none⟩])
  (.seq (.seq (.rgn [] [⟨some 4, (.assign (.const (.int .i64 0))), 3, none⟩])
  (.blk 0
    (.loop []
      (.seq (.seq (.rgn [] [⟨some 8, (.move (.tmp 4)), 3, none⟩,
        ⟨some 9, (.fieldAddr 24 (.tmp 1) 1), 0, none⟩,
        ⟨some 10, (.load 22 (.tmp 9)), 22, none⟩,
        ⟨some 11, (.call { callee := (.builtin .len), args := #[(.tmp 10)], argTypes := #[22] }), 3, none⟩,
        ⟨some 12, (.binOp .lss 3 (.tmp 8) (.tmp 11) 3), 4, none⟩])
      (.cond (.tmp 12)
        .skip
        (.exit 0)))
      (.seq (.blk 1
        (.drw [16, 22] [([3], [15]), ([3, 15], [3, 15, 16]), ([], [17]), ([1], [18]), ([1, 18], [19]), ([4], [20]), ([19, 20], [21]), ([21], [21, 22]), ([17, 22], [17, 22, 23]), ([23], [23, 24]), ([16, 24], [16, 24, 25]), ([3], [26]), ([3, 25, 26], [3, 25, 26])] [[], [0], [], [], [3], [], [4, 5], [6], [2, 7], [8], [1, 9, 8], [0, 1, 2, 3, 4, 5, 6, 7, 8, 9, 10], [11, 10, 10, 0, 1, 2, 3, 4, 5, 6, 7, 8, 9, 10]] [⟨some 15, (.fieldAddr 24 (.tmp 3) 1), 0, none⟩,
          ⟨some 16, (.load 22 (.tmp 15)), 22, none⟩,
          ⟨some 17, (.buildSlice 30 0 #[]), 30, none⟩,
          ⟨some 18, (.fieldAddr 24 (.tmp 1) 1), 0, none⟩,
          ⟨some 19, (.load 22 (.tmp 18)), 22, none⟩,
          ⟨some 20, (.move (.tmp 4)), 3, none⟩,
          ⟨some 21, (.indexAddr 22 (.tmp 19) (.tmp 20)), 0, none⟩,
          ⟨some 22, (.load 30 (.tmp 21)), 30, none⟩,
          ⟨some 23, (.call { callee := (.builtin .append), args := #[(.tmp 17), (.tmp 22)], argTypes := #[30, 30] }), 30, none⟩,
          ⟨some 24, (.buildSlice 22 1 #[(0, (.tmp 23))]), 22, none⟩,
          ⟨some 25, (.call { callee := (.builtin .append), args := #[(.tmp 16), (.tmp 24)], argTypes := #[22, 22] }), 22, none⟩,
          ⟨some 26, (.fieldAddr 24 (.tmp 3) 1), 0, none⟩,
          ⟨none, (.store 22 (.tmp 26) (.tmp 25)), 0, none⟩]))
      (.rgn [] [⟨some 13, (.move (.tmp 4)), 3, none⟩,
        ⟨some 14, (.binOp .add 3 (.tmp 13) (.const (.int .i64 1)) 3), 3, none⟩,
        ⟨some 4, (.assign (.tmp 14)), 3, none⟩]))))))
  (.seq (.rgn [27] [⟨some 27, (.load 24 (.tmp 3)), 24, none⟩,
    ⟨none, (.store 24 (.tmp 2) (.tmp 27)), 0, none⟩])
  .ret))))
theorem lit137 : Lit Try.prog 137 28 [1, 2, 3] [.cell 2 24] c137 := ⟨⟨Try.f137, _, Try.func137, rfl, by kernel_rfl, rfl, rfl, by kernel_rfl, by kernel_rfl⟩, by decide, by kernel_rfl⟩
/-- spec.l5Sort -/
def c139 : LC :=
  (.seq (.rgn [] [⟨some 2, (.assign (.const (.slice none 0 0))), 22, none⟩])
  (.seq (.seq (.rgn [] [⟨some 9, (.move (.tmp 0)), 22, none⟩,
    ⟨some 10, (.call { callee := (.builtin .len), args := #[(.tmp 9)], argTypes := #[22] }), 3, none⟩,
    ⟨some 11, (.binOp .lss 3 (.tmp 10) (.const (.int .i64 2)) 3), 4, none⟩])
  (.cond (.tmp 11)
    (.seq (.rgn [12] [⟨some 12, (.move (.tmp 0)), 22, none⟩,
      ⟨some 2, (.assign (.tmp 12)), 22, none⟩])
    .ret)
    .skip))
  (.seq (.rgn [] [⟨some 13, (.move (.tmp 0)), 22, none⟩,
    ⟨some 14, (.call { callee := (.builtin .len), args := #[(.tmp 13)], argTypes := #[22] }), 3, none⟩,
    ⟨some 15, (.binOp .quo 3 (.tmp 14) (.const (.int .i64 2)) 3), 3, none⟩,
    ⟨some 3, (.assign (.tmp 15)), 3, none⟩])
  (.seq (.rgn [] [⟨some 16, (.move (.tmp 0)), 22, none⟩,
    ⟨some 17, (.move (.tmp 3)), 3, none⟩,
    ⟨some 18, (.slice 22 (.tmp 16) none (some (.tmp 17)) none), 22, none⟩,
    ⟨some 19, (.call { callee := (.value (.func 139)), args := #[(.tmp 18)], argTypes := #[22] }), 22, none⟩,
    ⟨some 4, (.assign (.tmp 19)), 22, none⟩])
  (.seq (.rgn [] [⟨some 20, (.move (.tmp 0)), 22, none⟩,
    ⟨some 21, (.move (.tmp 3)), 3, none⟩,
    ⟨some 22, (.slice 22 (.tmp 20) (some (.tmp 21)) none none), 22, none⟩,
    ⟨some 23, (.call { callee := (.value (.func 139)), args := #[(.tmp 22)], argTypes := #[22] }), 22, none⟩,
    ⟨some 5, (.assign (.tmp 23)), 22, none⟩])
  (.seq (.rgn [] [⟨some 24, (.buildSlice 22 0 #[]), 22, none⟩,
    ⟨some 6, (.assign (.tmp 24)), 22, none⟩])
  (.seq (.blk 0
    (.loop []
      (.seq (.seq (.rgn [] [⟨some 25, (.move (.tmp 4)), 22, none⟩,
        ⟨some 26, (.call { callee := (.builtin .len), args := #[(.tmp 25)], argTypes := #[22] }), 3, none⟩,
        ⟨some 27, (.binOp .gtr 3 (.tmp 26) (.const (.int .i64 0)) 3), 4, none⟩,
        ⟨some 28, (.move (.tmp 27)), 4, none⟩,
        ⟨some 29, (.move (.tmp 5)), 22, some (some 28, false)⟩,
        ⟨some 30, (.call { callee := (.builtin .len), args := #[(.tmp 29)], argTypes := #[22] }), 3, some (some 28, false)⟩,
        ⟨some 31, (.binOp .gtr 3 (.tmp 30) (.const (.int .i64 0)) 3), 4, some (some 28, false)⟩,
        ⟨some 32, (.pick (.tmp 28) (.const (.bool true)) (.tmp 31)), 4, none⟩])
      (.cond (.tmp 32)
        .skip
        (.exit 0)))
      (.blk 1
        (.seq (.rgn [] [⟨some 7, (.assign (.const (.int .i64 0))), 3, none⟩])
        (.seq (.blk 2
          (.seq (.rgn [] [⟨some 34, (.move (.tmp 4)), 22, none⟩,
            ⟨some 35, (.call { callee := (.builtin .len), args := #[(.tmp 34)], argTypes := #[22] }), 3, none⟩,
            ⟨some 36, (.binOp .eql 3 (.tmp 35) (.const (.int .i64 0)) 3), 4, none⟩,
            ⟨some 33, (.assign (.tmp 36)), 4, none⟩])
          (.cond (.tmp 33)
            (.rgn [] [⟨some 7, (.assign (.const (.int .i64 1))), 3, none⟩])
            (.seq (.rgn [] [⟨some 38, (.move (.tmp 5)), 22, none⟩,
              ⟨some 39, (.call { callee := (.builtin .len), args := #[(.tmp 38)], argTypes := #[22] }), 3, none⟩,
              ⟨some 40, (.binOp .gtr 3 (.tmp 39) (.const (.int .i64 0)) 3), 4, none⟩,
              ⟨some 37, (.assign (.tmp 40)), 4, none⟩])
            (.cond (.tmp 37)
              (.drw [] [([4], [41]), ([41], [42]), ([42], [43]), ([5], [44]), ([44], [45]), ([45], [46]), ([43, 46], [47]), ([47], [7, 47])] [[], [0], [1], [], [3], [4], [2, 5], [6, 6, 0, 1, 2, 3, 4, 5, 6]] [⟨some 41, (.move (.tmp 4)), 22, none⟩,
                ⟨some 42, (.indexAddr 22 (.tmp 41) (.const (.int .i64 0))), 0, none⟩,
                ⟨some 43, (.load 30 (.tmp 42)), 30, none⟩,
                ⟨some 44, (.move (.tmp 5)), 22, none⟩,
                ⟨some 45, (.indexAddr 22 (.tmp 44) (.const (.int .i64 0))), 0, none⟩,
                ⟨some 46, (.load 30 (.tmp 45)), 30, none⟩,
                ⟨some 47, (.call { callee := (.value (.func 117)), args := #[(.tmp 43), (.tmp 46)], argTypes := #[30, 30] }), 3, none⟩,
                ⟨some 7, (.assign (.tmp 47)), 3, none⟩])
              (.rgn [] [⟨some 7, (.assign (.const (.int .i64 (-1)))), 3, none⟩]))))))
        (.seq (.rgn [] [⟨some 48, (.buildSlice 30 0 #[]), 30, none⟩,
          ⟨some 8, (.assign (.tmp 48)), 30, none⟩])
        (.seq (.seq (.rgn [] [⟨some 49, (.move (.tmp 7)), 3, none⟩,
          ⟨some 50, (.binOp .gtr 3 (.tmp 49) (.const (.int .i64 0)) 3), 4, none⟩])
        (.cond (.tmp 50)
          (.seq (.rgn [53] [⟨some 51, (.move (.tmp 5)), 22, none⟩,
            ⟨some 52, (.indexAddr 22 (.tmp 51) (.const (.int .i64 0))), 0, none⟩,
            ⟨some 53, (.load 30 (.tmp 52)), 30, none⟩,
            ⟨some 8, (.assign (.tmp 53)), 30, none⟩])
          (.rgn [] [⟨some 54, (.move (.tmp 5)), 22, none⟩,
            ⟨some 55, (.slice 22 (.tmp 54) (some (.const (.int .i64 1))) none none), 22, none⟩,
            ⟨some 5, (.assign (.tmp 55)), 22, none⟩]))
          (.seq (.rgn [58] [⟨some 56, (.move (.tmp 4)), 22, none⟩,
            ⟨some 57, (.indexAddr 22 (.tmp 56) (.const (.int .i64 0))), 0, none⟩,
            ⟨some 58, (.load 30 (.tmp 57)), 30, none⟩,
            ⟨some 8, (.assign (.tmp 58)), 30, none⟩])
          (.rgn [] [⟨some 59, (.move (.tmp 4)), 22, none⟩,
            ⟨some 60, (.slice 22 (.tmp 59) (some (.const (.int .i64 1))) none none), 22, none⟩,
            ⟨some 4, (.assign (.tmp 60)), 22, none⟩]))))
        (.seq (.rgn [] [⟨some 61, (.move (.tmp 6)), 22, none⟩,
          ⟨some 62, (.call { callee := (.builtin .len), args := #[(.tmp 61)], argTypes := #[22] }), 3, none⟩,
          ⟨some 63, (.binOp .eql 3 (.tmp 62) (.const (.int .i64 0)) 3), 4, none⟩,
          ⟨some 64, (.move (.tmp 63)), 4, none⟩,
          ⟨some 65, (.move (.tmp 6)), 22, some (some 64, false)⟩,
          ⟨some 66, (.move (.tmp 6)), 22, some (some 64, false)⟩,
          ⟨some 67, (.call { callee := (.builtin .len), args := #[(.tmp 66)], argTypes := #[22] }), 3, some (some 64, false)⟩,
          ⟨some 68, (.binOp .sub 3 (.tmp 67) (.const (.int .i64 1)) 3), 3, some (some 64, false)⟩,
          ⟨some 69, (.indexAddr 22 (.tmp 65) (.tmp 68)), 0, some (some 64, false)⟩,
          ⟨some 70, (.load 30 (.tmp 69)), 30, some (some 64, false)⟩,
          ⟨some 71, (.move (.tmp 8)), 30, some (some 64, false)⟩,
          ⟨some 72, (.call { callee := (.value (.func 117)), args := #[(.tmp 70), (.tmp 71)], argTypes := #[30, 30] }), 3, some (some 64, false)⟩,
          ⟨some 73, (.binOp .neq 3 (.tmp 72) (.const (.int .i64 0)) 3), 4, some (some 64, false)⟩,
          ⟨some 74, (.pick (.tmp 64) (.const (.bool true)) (.tmp 73)), 4, none⟩])
        (.cond (.tmp 74)
          (.rgn [75, 76] [⟨some 75, (.move (.tmp 6)), 22, none⟩,
            ⟨some 76, (.move (.tmp 8)), 30, none⟩,
            ⟨some 77, (.buildSlice 22 1 #[(0, (.tmp 76))]), 22, none⟩,
            ⟨some 78, (.call { callee := (.builtin .append), args := #[(.tmp 75), (.tmp 77)], argTypes := #[22, 22] }), 22, none⟩,
            ⟨some 6, (.assign (.tmp 78)), 22, none⟩])
          .skip))))))))))
  (.seq (.rgn [79] [⟨some 79, (.move (.tmp 6)), 22, none⟩,
    ⟨some 2, (.assign (.tmp 79)), 22, none⟩])
  .ret))))))))
theorem lit139 : Lit Try.prog 139 80 [] [.tmp 2] c139 := ⟨⟨Try.f139, _, Try.func139, rfl, by kernel_rfl, rfl, rfl, by kernel_rfl, by kernel_rfl⟩, by decide, by kernel_rfl⟩
/-- impl.AreValidValues -/
def c140 : LC :=
  (.seq (.rgn [] [⟨some 2, (.assign (.const (.bool false))), 4, none⟩])
  (.seq (.seq (.rgn [] [⟨some 5, (.move (.tmp 0)), 30, none⟩,
    ⟨some 6, (.call { callee := (.builtin .len), args := #[(.tmp 5)], argTypes := #[30] }), 3, none⟩,
    ⟨some 7, (.move (.const (.int .i64 0))), 3, none⟩])
  (.blk 0
    (.loop []
      (.seq (.rgn [] [⟨some 8, (.binOp .lss 3 (.tmp 7) (.tmp 6) 3), 0, none⟩])
      (.seq (.cond (.tmp 8)
        .skip
        (.exit 0))
      (.seq (.blk 1
        (.seq (.rgn [] [⟨some 9, (.indexAddr 30 (.tmp 5) (.tmp 7)), 0, none⟩,
          ⟨some 10, (.load 3 (.tmp 9)), 3, none⟩,
          ⟨some 4, (.assign (.tmp 10)), 3, none⟩])
        (.seq (.rgn [] [⟨some 11, (.move (.tmp 4)), 3, none⟩,
          ⟨some 12, (.call { callee := (.value (.func 82)), args := #[(.tmp 11), (.const (.int .i64 0)), (.const (.int .i64 99))], argTypes := #[3, 3, 3] }), 4, none⟩,
          ⟨some 13, (.unOp .not 4 (.tmp 12)), 4, none⟩])
        (.cond (.tmp 13)
          (.seq (.rgn [] [⟨some 2, (.assign (.const (.bool false))), 4, none⟩])
          .ret)
          .skip))))
      (.rgn [] [⟨some 14, (.binOp .add 3 (.tmp 7) (.const (.int .i64 1)) 3), 3, none⟩,
        ⟨some 7, (.move (.tmp 14)), 3, none⟩])))))))
  (.seq (.rgn [] [⟨some 2, (.assign (.const (.bool true))), 4, none⟩])
  .ret)))
theorem lit140 : Lit Try.prog 140 15 [] [.tmp 2] c140 := ⟨⟨Try.f140, _, Try.func140, rfl, by kernel_rfl, rfl, rfl, by kernel_rfl, by kernel_rfl⟩, by decide, by kernel_rfl⟩
/-- impl.sorted -/
def c141 : LC :=
  (.seq (.rgn [] [⟨some 2, (.assign (.const (.slice none 0 0))), 22, none⟩])
  (.seq (.seq (.rgn [] [⟨some 8, (.move (.tmp 0)), 22, none⟩,
    ⟨some 9, (.call { callee := (.builtin .len), args := #[(.tmp 8)], argTypes := #[22] }), 3, none⟩,
    ⟨some 10, (.binOp .lss 3 (.tmp 9) (.const (.int .i64 2)) 3), 4, none⟩])
  (.cond (.tmp 10)
    (.seq (.rgn [] [⟨some 11, (.move (.tmp 0)), 22, none⟩,
      ⟨some 12, (.call { callee := (.value (.func 118)), args := #[(.tmp 11)], argTypes := #[22] }), 22, none⟩,
      ⟨some 2, (.assign (.tmp 12)), 22, none⟩])
    .ret)
    .skip))
  (.seq (.rgn [] [⟨some 13, (.move (.tmp 0)), 22, none⟩,
    ⟨some 14, (.call { callee := (.builtin .len), args := #[(.tmp 13)], argTypes := #[22] }), 3, none⟩,
    ⟨some 15, (.binOp .quo 3 (.tmp 14) (.const (.int .i64 2)) 3), 3, none⟩,
    ⟨some 3, (.assign (.tmp 15)), 3, none⟩])
  (.seq (.drw [] [([0], [16]), ([3], [17]), ([16, 17], [18]), ([18], [19]), ([0], [20]), ([3], [21]), ([20, 21], [22]), ([22], [23]), ([19], [4, 19]), ([23], [5, 23])] [[], [], [0, 1], [2], [], [], [4, 5], [6, 3], [3, 7, 0, 1, 2, 3], [7, 8, 0, 1, 2, 3, 4, 5, 6, 7, 8]] [⟨some 16, (.move (.tmp 0)), 22, none⟩,
    ⟨some 17, (.move (.tmp 3)), 3, none⟩,
    ⟨some 18, (.slice 22 (.tmp 16) none (some (.tmp 17)) none), 22, none⟩,
    ⟨some 19, (.call { callee := (.value (.func 141)), args := #[(.tmp 18)], argTypes := #[22] }), 22, none⟩,
    ⟨some 20, (.move (.tmp 0)), 22, none⟩,
    ⟨some 21, (.move (.tmp 3)), 3, none⟩,
    ⟨some 22, (.slice 22 (.tmp 20) (some (.tmp 21)) none none), 22, none⟩,
    ⟨some 23, (.call { callee := (.value (.func 141)), args := #[(.tmp 22)], argTypes := #[22] }), 22, none⟩,
    ⟨some 4, (.assign (.tmp 19)), 22, none⟩,
    ⟨some 5, (.assign (.tmp 23)), 22, none⟩])
  (.seq (.rgn [] [⟨some 6, (.assign (.const (.slice none 0 0))), 22, none⟩])
  (.seq (.blk 0
    (.loop []
      (.seq (.seq (.rgn [] [⟨some 24, (.move (.tmp 4)), 22, none⟩,
        ⟨some 25, (.call { callee := (.builtin .len), args := #[(.tmp 24)], argTypes := #[22] }), 3, none⟩,
        ⟨some 26, (.binOp .gtr 3 (.tmp 25) (.const (.int .i64 0)) 3), 4, none⟩,
        ⟨some 27, (.move (.tmp 26)), 4, none⟩,
        ⟨some 28, (.move (.tmp 5)), 22, some (some 27, false)⟩,
        ⟨some 29, (.call { callee := (.builtin .len), args := #[(.tmp 28)], argTypes := #[22] }), 3, some (some 27, false)⟩,
        ⟨some 30, (.binOp .gtr 3 (.tmp 29) (.const (.int .i64 0)) 3), 4, some (some 27, false)⟩,
        ⟨some 31, (.pick (.tmp 27) (.const (.bool true)) (.tmp 30)), 4, none⟩])
      (.cond (.tmp 31)
        .skip
        (.exit 0)))
      (.blk 1
        (.seq (.rgn [] [⟨some 7, (.assign (.const (.int .i64 (-1)))), 3, none⟩])
        (.seq (.seq (.rgn [] [⟨some 32, (.move (.tmp 4)), 22, none⟩,
          ⟨some 33, (.call { callee := (.builtin .len), args := #[(.tmp 32)], argTypes := #[22] }), 3, none⟩,
          ⟨some 34, (.binOp .eql 3 (.tmp 33) (.const (.int .i64 0)) 3), 4, none⟩])
        (.cond (.tmp 34)
          (.rgn [] [⟨some 7, (.assign (.const (.int .i64 1))), 3, none⟩])
          (.seq (.rgn [] [⟨some 35, (.move (.tmp 5)), 22, none⟩,
            ⟨some 36, (.call { callee := (.builtin .len), args := #[(.tmp 35)], argTypes := #[22] }), 3, none⟩,
            ⟨some 37, (.binOp .gtr 3 (.tmp 36) (.const (.int .i64 0)) 3), 4, none⟩])
          (.cond (.tmp 37)
            (.drw [] [([4], [38]), ([38], [39]), ([39], [40]), ([5], [41]), ([41], [42]), ([42], [43]), ([40, 43], [44]), ([44], [7, 44])] [[], [0], [1], [], [3], [4], [2, 5], [6, 6, 0, 1, 2, 3, 4, 5, 6]] [⟨some 38, (.move (.tmp 4)), 22, none⟩,
              ⟨some 39, (.indexAddr 22 (.tmp 38) (.const (.int .i64 0))), 0, none⟩,
              ⟨some 40, (.load 30 (.tmp 39)), 30, none⟩,
              ⟨some 41, (.move (.tmp 5)), 22, none⟩,
              ⟨some 42, (.indexAddr 22 (.tmp 41) (.const (.int .i64 0))), 0, none⟩,
              ⟨some 43, (.load 30 (.tmp 42)), 30, none⟩,
              ⟨some 44, (.call { callee := (.value (.func 168)), args := #[(.tmp 40), (.tmp 43)], argTypes := #[30, 30] }), 3, none⟩,
              ⟨some 7, (.assign (.tmp 44)), 3, none⟩])
            .skip))))
        (.seq (.seq (.rgn [] [⟨some 45, (.move (.tmp 7)), 3, none⟩,
          ⟨some 46, (.binOp .leq 3 (.tmp 45) (.const (.int .i64 0)) 3), 4, none⟩])
        (.cond (.tmp 46)
          (.seq (.rgn [47, 50] [⟨some 47, (.move (.tmp 6)), 22, none⟩,
            ⟨some 48, (.move (.tmp 4)), 22, none⟩,
            ⟨some 49, (.indexAddr 22 (.tmp 48) (.const (.int .i64 0))), 0, none⟩,
            ⟨some 50, (.load 30 (.tmp 49)), 30, none⟩,
            ⟨some 51, (.buildSlice 22 1 #[(0, (.tmp 50))]), 22, none⟩,
            ⟨some 52, (.call { callee := (.builtin .append), args := #[(.tmp 47), (.tmp 51)], argTypes := #[22, 22] }), 22, none⟩,
            ⟨some 6, (.assign (.tmp 52)), 22, none⟩])
          (.rgn [] [⟨some 53, (.move (.tmp 4)), 22, none⟩,
            ⟨some 54, (.slice 22 (.tmp 53) (some (.const (.int .i64 1))) none none), 22, none⟩,
            ⟨some 4, (.assign (.tmp 54)), 22, none⟩]))
          .skip))
        (.seq (.rgn [] [⟨some 55, (.move (.tmp 7)), 3, none⟩,
          ⟨some 56, (.binOp .geq 3 (.tmp 55) (.const (.int .i64 0)) 3), 4, none⟩])
        (.cond (.tmp 56)
          (.seq (.seq (.rgn [] [⟨some 57, (.move (.tmp 7)), 3, none⟩,
            ⟨some 58, (.binOp .gtr 3 (.tmp 57) (.const (.int .i64 0)) 3), 4, none⟩])
          (.cond (.tmp 58)
            (.rgn [59, 62] [⟨some 59, (.move (.tmp 6)), 22, none⟩,
              ⟨some 60, (.move (.tmp 5)), 22, none⟩,
              ⟨some 61, (.indexAddr 22 (.tmp 60) (.const (.int .i64 0))), 0, none⟩,
              ⟨some 62, (.load 30 (.tmp 61)), 30, none⟩,
              ⟨some 63, (.buildSlice 22 1 #[(0, (.tmp 62))]), 22, none⟩,
              ⟨some 64, (.call { callee := (.builtin .append), args := #[(.tmp 59), (.tmp 63)], argTypes := #[22, 22] }), 22, none⟩,
              ⟨some 6, (.assign (.tmp 64)), 22, none⟩])
            .skip))
          (.rgn [] [⟨some 65, (.move (.tmp 5)), 22, none⟩,
            ⟨some 66, (.slice 22 (.tmp 65) (some (.const (.int .i64 1))) none none), 22, none⟩,
            ⟨some 5, (.assign (.tmp 66)), 22, none⟩]))
          .skip)))))))))
  (.seq (.rgn [67] [⟨some 67, (.move (.tmp 6)), 22, none⟩,
    ⟨some 2, (.assign (.tmp 67)), 22, none⟩])
  .ret)))))))
theorem lit141 : Lit Try.prog 141 68 [] [.tmp 2] c141 := ⟨⟨Try.f141, _, Try.func141, rfl, by kernel_rfl, rfl, rfl, by kernel_rfl, by kernel_rfl⟩, by decide, by kernel_rfl⟩
/-- impl.rowsValid -/
def c149 : LC :=
  (.seq (.rgn [] [⟨some 4, (.assign (.const (.bool false))), 4, none⟩])
  (.seq (.seq (.rgn [] [⟨some 7, (.move (.tmp 0)), 3, none⟩,
    ⟨some 8, (.call { callee := (.value (.func 82)), args := #[(.tmp 7), (.const (.int .i64 0)), (.const (.int .i64 5))], argTypes := #[3, 3, 3] }), 4, none⟩,
    ⟨some 9, (.unOp .not 4 (.tmp 8)), 4, none⟩,
    ⟨some 10, (.move (.tmp 9)), 4, none⟩,
    ⟨some 11, (.move (.tmp 1)), 22, some (some 10, false)⟩,
    ⟨some 12, (.call { callee := (.builtin .len), args := #[(.tmp 11)], argTypes := #[22] }), 3, some (some 10, false)⟩,
    ⟨some 13, (.binOp .gtr 3 (.tmp 12) (.const (.int .i64 4000)) 3), 4, some (some 10, false)⟩,
    ⟨some 14, (.pick (.tmp 10) (.const (.bool true)) (.tmp 13)), 4, none⟩])
  (.cond (.tmp 14)
    (.seq (.rgn [] [⟨some 4, (.assign (.const (.bool false))), 4, none⟩])
    .ret)
    .skip))
  (.seq (.seq (.rgn [] [⟨some 15, (.move (.tmp 1)), 22, none⟩,
    ⟨some 16, (.call { callee := (.builtin .len), args := #[(.tmp 15)], argTypes := #[22] }), 3, none⟩,
    ⟨some 17, (.move (.const (.int .i64 0))), 3, none⟩])
  (.blk 0
    (.loop []
      (.seq (.rgn [] [⟨some 18, (.binOp .lss 3 (.tmp 17) (.tmp 16) 3), 0, none⟩])
      (.seq (.cond (.tmp 18)
        .skip
        (.exit 0))
      (.seq (.blk 1
        (.seq (.rgn [21] [⟨some 19, (.move (.tmp 17)), 3, none⟩,
          ⟨some 20, (.indexAddr 22 (.tmp 15) (.tmp 17)), 0, none⟩,
          ⟨some 21, (.load 30 (.tmp 20)), 30, none⟩,
          ⟨some 5, (.assign (.tmp 19)), 3, none⟩,
          ⟨some 6, (.assign (.tmp 21)), 30, none⟩])
        (.seq (.rgn [] [⟨some 22, (.move (.tmp 6)), 30, none⟩,
          ⟨some 23, (.call { callee := (.builtin .len), args := #[(.tmp 22)], argTypes := #[30] }), 3, none⟩,
          ⟨some 24, (.move (.tmp 0)), 3, none⟩,
          ⟨some 25, (.binOp .neq 3 (.tmp 23) (.tmp 24) 3), 4, none⟩,
          ⟨some 26, (.move (.tmp 25)), 4, none⟩,
          ⟨some 27, (.move (.tmp 6)), 30, some (some 26, false)⟩,
          ⟨some 28, (.call { callee := (.value (.func 140)), args := #[(.tmp 27)], argTypes := #[30] }), 4, some (some 26, false)⟩,
          ⟨some 29, (.unOp .not 4 (.tmp 28)), 4, some (some 26, false)⟩,
          ⟨some 30, (.pick (.tmp 26) (.const (.bool true)) (.tmp 29)), 4, none⟩,
          ⟨some 31, (.move (.tmp 30)), 4, none⟩,
          ⟨some 32, (.move (.tmp 5)), 3, some (some 31, false)⟩,
          ⟨some 33, (.binOp .gtr 3 (.tmp 32) (.const (.int .i64 0)) 3), 4, some (some 31, false)⟩,
          ⟨some 34, (.move (.tmp 33)), 4, some (some 31, false)⟩,
          ⟨some 35, (.move (.tmp 1)), 22, some (some 34, true)⟩,
          ⟨some 36, (.move (.tmp 5)), 3, some (some 34, true)⟩,
          ⟨some 37, (.binOp .sub 3 (.tmp 36) (.const (.int .i64 1)) 3), 3, some (some 34, true)⟩,
          ⟨some 38, (.indexAddr 22 (.tmp 35) (.tmp 37)), 0, some (some 34, true)⟩,
          ⟨some 39, (.load 30 (.tmp 38)), 30, some (some 34, true)⟩,
          ⟨some 40, (.move (.tmp 6)), 30, some (some 34, true)⟩,
          ⟨some 41, (.call { callee := (.value (.func 168)), args := #[(.tmp 39), (.tmp 40)], argTypes := #[30, 30] }), 3, some (some 34, true)⟩,
          ⟨some 42, (.binOp .geq 3 (.tmp 41) (.const (.int .i64 0)) 3), 4, some (some 34, true)⟩,
          ⟨some 43, (.pick (.tmp 34) (.tmp 42) (.const (.bool false))), 4, some (some 31, false)⟩,
          ⟨some 44, (.pick (.tmp 31) (.const (.bool true)) (.tmp 43)), 4, none⟩])
        (.cond (.tmp 44)
          (.seq (.rgn [] [⟨some 4, (.assign (.const (.bool false))), 4, none⟩])
          .ret)
          .skip))))
      (.rgn [] [⟨some 45, (.binOp .add 3 (.tmp 17) (.const (.int .i64 1)) 3), 3, none⟩,
        ⟨some 17, (.move (.tmp 45)), 3, none⟩])))))))
  (.seq (.rgn [] [⟨some 4, (.assign (.const (.bool true))), 4, none⟩])
  .ret))))
theorem lit149 : Lit Try.prog 149 46 [] [.tmp 4] c149 := ⟨⟨Try.f149, _, Try.func149, rfl, by kernel_rfl, rfl, rfl, by kernel_rfl, by kernel_rfl⟩, by decide, by kernel_rfl⟩
/-- impl.CompareRows -/
def c168 : LC :=
  (.seq (.rgn [] [⟨some 4, (.assign (.const (.int .i64 0))), 3, none⟩])
  (.seq (.seq (.rgn [] [⟨some 5, (.assign (.const (.int .i64 0))), 3, none⟩])
  (.blk 0
    (.loop []
      (.seq (.seq (.rgn [] [⟨some 6, (.move (.tmp 5)), 3, none⟩,
        ⟨some 7, (.move (.tmp 0)), 30, none⟩,
        ⟨some 8, (.call { callee := (.builtin .len), args := #[(.tmp 7)], argTypes := #[30] }), 3, none⟩,
        ⟨some 9, (.binOp .lss 3 (.tmp 6) (.tmp 8) 3), 4, none⟩,
        ⟨some 10, (.move (.tmp 9)), 4, none⟩,
        ⟨some 11, (.move (.tmp 5)), 3, some (some 10, true)⟩,
        ⟨some 12, (.move (.tmp 1)), 30, some (some 10, true)⟩,
        ⟨some 13, (.call { callee := (.builtin .len), args := #[(.tmp 12)], argTypes := #[30] }), 3, some (some 10, true)⟩,
        ⟨some 14, (.binOp .lss 3 (.tmp 11) (.tmp 13) 3), 4, some (some 10, true)⟩,
        ⟨some 15, (.pick (.tmp 10) (.tmp 14) (.const (.bool false))), 4, none⟩])
      (.cond (.tmp 15)
        .skip
        (.exit 0)))
      (.seq (.blk 1
        (.seq (.drw [] [([0], [18]), ([5], [19]), ([18, 19], [20]), ([20], [21]), ([1], [22]), ([5], [23]), ([22, 23], [24]), ([24], [25]), ([21, 25], [26])] [[], [], [0, 1], [2], [], [], [4, 5], [6], [3, 7]] [⟨some 18, (.move (.tmp 0)), 30, none⟩,
          ⟨some 19, (.move (.tmp 5)), 3, none⟩,
          ⟨some 20, (.indexAddr 30 (.tmp 18) (.tmp 19)), 0, none⟩,
          ⟨some 21, (.load 3 (.tmp 20)), 3, none⟩,
          ⟨some 22, (.move (.tmp 1)), 30, none⟩,
          ⟨some 23, (.move (.tmp 5)), 3, none⟩,
          ⟨some 24, (.indexAddr 30 (.tmp 22) (.tmp 23)), 0, none⟩,
          ⟨some 25, (.load 3 (.tmp 24)), 3, none⟩,
          ⟨some 26, (.binOp .neq 3 (.tmp 21) (.tmp 25) 3), 4, none⟩])
        (.cond (.tmp 26)
          (.seq (.drw [] [([0], [27]), ([5], [28]), ([27, 28], [29]), ([29], [30]), ([1], [31]), ([5], [32]), ([31, 32], [33]), ([33], [34]), ([30, 34], [35]), ([35], [4, 35])] [[], [], [0, 1], [2], [], [], [4, 5], [6], [3, 7], [8, 8, 0, 1, 2, 3, 4, 5, 6, 7, 8]] [⟨some 27, (.move (.tmp 0)), 30, none⟩,
            ⟨some 28, (.move (.tmp 5)), 3, none⟩,
            ⟨some 29, (.indexAddr 30 (.tmp 27) (.tmp 28)), 0, none⟩,
            ⟨some 30, (.load 3 (.tmp 29)), 3, none⟩,
            ⟨some 31, (.move (.tmp 1)), 30, none⟩,
            ⟨some 32, (.move (.tmp 5)), 3, none⟩,
            ⟨some 33, (.indexAddr 30 (.tmp 31) (.tmp 32)), 0, none⟩,
            ⟨some 34, (.load 3 (.tmp 33)), 3, none⟩,
            ⟨some 35, (.call { callee := (.value (.func 175)), args := #[(.tmp 30), (.tmp 34)], argTypes := #[3, 3] }), 3, none⟩,
            ⟨some 4, (.assign (.tmp 35)), 3, none⟩])
          .ret)
          .skip)))
      (.rgn [] [⟨some 16, (.move (.tmp 5)), 3, none⟩,
        ⟨some 17, (.binOp .add 3 (.tmp 16) (.const (.int .i64 1)) 3), 3, none⟩,
        ⟨some 5, (.assign (.tmp 17)), 3, none⟩]))))))
  (.seq (.rgn [] [⟨some 36, (.move (.tmp 0)), 30, none⟩,
    ⟨some 37, (.call { callee := (.builtin .len), args := #[(.tmp 36)], argTypes := #[30] }), 3, none⟩,
    ⟨some 38, (.move (.tmp 1)), 30, none⟩,
    ⟨some 39, (.call { callee := (.builtin .len), args := #[(.tmp 38)], argTypes := #[30] }), 3, none⟩,
    ⟨some 40, (.call { callee := (.value (.func 175)), args := #[(.tmp 37), (.tmp 39)], argTypes := #[3, 3] }), 3, none⟩,
    ⟨some 4, (.assign (.tmp 40)), 3, none⟩])
  .ret)))
theorem lit168 : Lit Try.prog 168 41 [] [.tmp 4] c168 := ⟨⟨Try.f168, _, Try.func168, rfl, by kernel_rfl, rfl, rfl, by kernel_rfl, by kernel_rfl⟩, by decide, by kernel_rfl⟩
/-- impl.compareInts -/
def c175 : LC :=
  (.seq (.rgn [] [⟨some 4, (.assign (.const (.int .i64 0))), 3, none⟩])
  (.seq (.blk 0
    (.seq (.rgn [] [⟨some 6, (.move (.tmp 0)), 3, none⟩,
      ⟨some 7, (.move (.tmp 1)), 3, none⟩,
      ⟨some 8, (.binOp .lss 3 (.tmp 6) (.tmp 7) 3), 4, none⟩,
      ⟨some 5, (.assign (.tmp 8)), 4, none⟩])
    (.cond (.tmp 5)
      (.seq (.rgn [] [⟨some 4, (.assign (.const (.int .i64 (-1)))), 3, none⟩])
      .ret)
      (.seq (.rgn [] [⟨some 10, (.move (.tmp 0)), 3, none⟩,
        ⟨some 11, (.move (.tmp 1)), 3, none⟩,
        ⟨some 12, (.binOp .gtr 3 (.tmp 10) (.tmp 11) 3), 4, none⟩,
        ⟨some 9, (.assign (.tmp 12)), 4, none⟩])
      (.cond (.tmp 9)
        (.seq (.rgn [] [⟨some 4, (.assign (.const (.int .i64 1))), 3, none⟩])
        .ret)
        .skip)))))
  (.seq (.rgn [] [⟨some 4, (.assign (.const (.int .i64 0))), 3, none⟩])
  .ret)))
theorem lit175 : Lit Try.prog 175 13 [] [.tmp 4] c175 := ⟨⟨Try.f175, _, Try.func175, rfl, by kernel_rfl, rfl, rfl, by kernel_rfl, by kernel_rfl⟩, by decide, by kernel_rfl⟩
end Go.Proofs.Ytkmkbpphdalgoaa
