/-
  The functions' code as the program holds it, without places and edges; printed by genlit.py. No conditions.
-/
import Derived.Test.YtkmkbpphdalgoaaTb
namespace Go.Proofs.Ytkmkbpphdalgoaa
open Go.RowKit
set_option linter.unusedVariables false
set_option maxRecDepth 100000
/-- laws.eqRelation -/
def c17 : LC :=
  (.seq (.rgn [] [⟨some 2, (.box 24 (.tmp 0)), 0, none⟩,
    ⟨some 3, (.box 24 (.tmp 1)), 0, none⟩,
    ⟨some 4, (.assign (.const (.bool false))), 4, none⟩])
  (.seq (.seq (.rgn [] [⟨some 5, (.fieldAddr 24 (.tmp 2) 0), 0, none⟩,
    ⟨some 6, (.load 3 (.tmp 5)), 3, none⟩,
    ⟨some 7, (.fieldAddr 24 (.tmp 3) 0), 0, none⟩,
    ⟨some 8, (.load 3 (.tmp 7)), 3, none⟩,
    ⟨some 9, (.binOp .neq 3 (.tmp 6) (.tmp 8) 3), 4, none⟩])
  (.cond (.tmp 9)
    (.seq (.rgn [] [⟨some 4, (.assign (.const (.bool false))), 4, none⟩])
    .ret)
    .skip))
  (.seq (.seq (.rgn [] [⟨some 10, (.fieldAddr 24 (.tmp 2) 1), 0, none⟩,
    ⟨some 11, (.load 22 (.tmp 10)), 22, none⟩,
    ⟨some 12, (.fieldAddr 24 (.tmp 3) 1), 0, none⟩,
    ⟨some 13, (.load 22 (.tmp 12)), 22, none⟩,
    ⟨some 14, (.call { callee := (.value (.func 84)), args := #[(.tmp 11), (.tmp 13)], argTypes := #[22, 22] }), 4, none⟩,
    ⟨some 15, (.unOp .not 4 (.tmp 14)), 4, none⟩])
  (.cond (.tmp 15)
    (.seq (.rgn [] [⟨some 4, (.assign (.const (.bool false))), 4, none⟩])
    .ret)
    .skip))
  (.seq (.rgn [] [⟨some 4, (.assign (.const (.bool true))), 4, none⟩])
  .ret))))
theorem lit17 : Lit Try.prog 17 16 [2, 3] [.tmp 4] c17 := ⟨⟨Try.f17, _, Try.func17, rfl, by kernel_rfl, rfl, rfl, by kernel_rfl, by kernel_rfl⟩, by decide, by kernel_rfl⟩
/-- laws.szRelation -/
def c25 : LC :=
  (.seq (.rgn [] [⟨some 2, (.box 42 (.tmp 0)), 0, none⟩,
    ⟨some 4, (.assign (.const (.int .i64 0))), 3, none⟩])
  (.seq (.rgn [] [⟨some 5, (.fieldAddr 42 (.tmp 2) 1), 0, none⟩,
    ⟨some 6, (.load 22 (.tmp 5)), 22, none⟩,
    ⟨some 7, (.move (.tmp 1)), 3, none⟩,
    ⟨some 8, (.call { callee := (.value (.func 99)), args := #[(.tmp 6), (.tmp 7)], argTypes := #[22, 3] }), 3, none⟩,
    ⟨some 1, (.assign (.tmp 8)), 3, none⟩])
  (.seq (.seq (.rgn [] [⟨some 9, (.move (.tmp 1)), 3, none⟩,
    ⟨some 10, (.binOp .lss 3 (.tmp 9) (.const (.int .i64 0)) 3), 4, none⟩])
  (.cond (.tmp 10)
    (.seq (.rgn [] [⟨some 4, (.assign (.const (.int .i64 (-1)))), 3, none⟩])
    .ret)
    .skip))
  (.seq (.rgn [] [⟨some 11, (.move (.tmp 1)), 3, none⟩,
    ⟨some 4, (.assign (.tmp 11)), 3, none⟩])
  .ret))))
theorem lit25 : Lit Try.prog 25 12 [2] [.tmp 4] c25 := ⟨⟨Try.f25, _, Try.func25, rfl, by kernel_rfl, rfl, rfl, by kernel_rfl, by kernel_rfl⟩, by decide, by kernel_rfl⟩
/-- laws.toRelation -/
def c27 : LC :=
  (.seq (.rgn [] [⟨some 1, (.box 42 (.tmp 0)), 0, none⟩,
    ⟨some 2, (.alloc 24), 0, none⟩])
  (.seq (.rgn [] [⟨some 3, (.alloc 24), 0, none⟩])
  (.seq (.rgn [] [⟨some 4, (.fieldAddr 42 (.tmp 1) 0), 0, none⟩,
    ⟨some 5, (.load 3 (.tmp 4)), 3, none⟩,
    ⟨some 6, (.fieldAddr 24 (.tmp 3) 0), 0, none⟩,
    ⟨none, (.store 3 (.tmp 6) (.tmp 5)), 0, none⟩])
  (.seq (.rgn [] [⟨some 7, (.fieldAddr 42 (.tmp 1) 1), 0, none⟩,
    ⟨some 8, (.load 22 (.tmp 7)), 22, none⟩,
    ⟨some 9, (.call { callee := (.value (.func 102)), args := #[(.tmp 8)], argTypes := #[22] }), 22, none⟩,
    ⟨some 10, (.fieldAddr 24 (.tmp 3) 1), 0, none⟩,
    ⟨none, (.store 22 (.tmp 10) (.tmp 9)), 0, none⟩])
  (.seq (.rgn [11] [⟨some 11, (.load 24 (.tmp 3)), 24, none⟩,
    ⟨none, (.store 24 (.tmp 2) (.tmp 11)), 0, none⟩])
  .ret)))))
theorem lit27 : Lit Try.prog 27 12 [1, 2, 3] [.cell 2 24] c27 := ⟨⟨Try.f27, _, Try.func27, rfl, by kernel_rfl, rfl, rfl, by kernel_rfl, by kernel_rfl⟩, by decide, by kernel_rfl⟩
/-- laws.toIntS -/
def c32 : LC :=
  (.seq (.rgn [] [⟨some 2, (.assign (.const (.slice none 0 0))), 30, none⟩])
  (.seq (.rgn [3, 7] [⟨some 5, (.move (.tmp 0)), 30, none⟩,
    ⟨some 6, (.call { callee := (.builtin .len), args := #[(.tmp 5)], argTypes := #[30] }), 3, none⟩,
    ⟨some 7, (.makeSlice 30 (.tmp 6) (.tmp 6)), 30, none⟩,
    ⟨some 3, (.assign (.tmp 7)), 30, none⟩])
  (.seq (.seq (.rgn [] [⟨some 4, (.assign (.const (.int .i64 0))), 3, none⟩])
  (.blk 0
    (.loop []
      (.seq (.seq (.rgn [] [⟨some 8, (.move (.tmp 4)), 3, none⟩,
        ⟨some 9, (.move (.tmp 0)), 30, none⟩,
        ⟨some 10, (.call { callee := (.builtin .len), args := #[(.tmp 9)], argTypes := #[30] }), 3, none⟩,
        ⟨some 11, (.binOp .lss 3 (.tmp 8) (.tmp 10) 3), 4, none⟩])
      (.cond (.tmp 11)
        .skip
        (.exit 0)))
      (.seq (.blk 1
        (.rgn [] [⟨some 14, (.move (.tmp 3)), 30, none⟩,
          ⟨some 15, (.move (.tmp 4)), 3, none⟩,
          ⟨some 16, (.move (.tmp 0)), 30, none⟩,
          ⟨some 17, (.move (.tmp 4)), 3, none⟩,
          ⟨some 18, (.indexAddr 30 (.tmp 16) (.tmp 17)), 0, none⟩,
          ⟨some 19, (.load 3 (.tmp 18)), 3, none⟩,
          ⟨some 20, (.indexAddr 30 (.tmp 14) (.tmp 15)), 0, none⟩,
          ⟨none, (.store 3 (.tmp 20) (.tmp 19)), 0, none⟩]))
      (.rgn [] [⟨some 12, (.move (.tmp 4)), 3, none⟩,
        ⟨some 13, (.binOp .add 3 (.tmp 12) (.const (.int .i64 1)) 3), 3, none⟩,
        ⟨some 4, (.assign (.tmp 13)), 3, none⟩]))))))
  (.seq (.rgn [21] [⟨some 21, (.move (.tmp 3)), 30, none⟩,
    ⟨some 2, (.assign (.tmp 21)), 30, none⟩])
  .ret))))
theorem lit32 : Lit Try.prog 32 22 [3, 7] [.tmp 2] c32 := ⟨⟨Try.f32, _, Try.func32, rfl, by kernel_rfl, rfl, rfl, by kernel_rfl, by kernel_rfl⟩, by decide, by kernel_rfl⟩
/-- laws.eqIntS -/
def c35 : LC :=
  (.seq (.rgn [] [⟨some 4, (.assign (.const (.bool false))), 4, none⟩])
  (.seq (.seq (.rgn [] [⟨some 6, (.move (.tmp 0)), 30, none⟩,
    ⟨some 7, (.call { callee := (.builtin .len), args := #[(.tmp 6)], argTypes := #[30] }), 3, none⟩,
    ⟨some 8, (.move (.tmp 1)), 30, none⟩,
    ⟨some 9, (.call { callee := (.builtin .len), args := #[(.tmp 8)], argTypes := #[30] }), 3, none⟩,
    ⟨some 10, (.binOp .neq 3 (.tmp 7) (.tmp 9) 3), 4, none⟩])
  (.cond (.tmp 10)
    (.seq (.rgn [] [⟨some 4, (.assign (.const (.bool false))), 4, none⟩])
    .ret)
    .skip))
  (.seq (.seq (.rgn [] [⟨some 5, (.assign (.const (.int .i64 0))), 3, none⟩])
  (.blk 0
    (.loop []
      (.seq (.seq (.rgn [] [⟨some 11, (.move (.tmp 5)), 3, none⟩,
        ⟨some 12, (.move (.tmp 0)), 30, none⟩,
        ⟨some 13, (.call { callee := (.builtin .len), args := #[(.tmp 12)], argTypes := #[30] }), 3, none⟩,
        ⟨some 14, (.binOp .lss 3 (.tmp 11) (.tmp 13) 3), 4, none⟩])
      (.cond (.tmp 14)
        .skip
        (.exit 0)))
      (.seq (.blk 1
        (.seq (.drw [] [([0], [17]), ([5], [18]), ([17, 18], [19]), ([19], [20]), ([1], [21]), ([5], [22]), ([21, 22], [23]), ([23], [24]), ([20, 24], [25])] [[], [], [0, 1], [2], [], [], [4, 5], [6], [3, 7]] [⟨some 17, (.move (.tmp 0)), 30, none⟩,
          ⟨some 18, (.move (.tmp 5)), 3, none⟩,
          ⟨some 19, (.indexAddr 30 (.tmp 17) (.tmp 18)), 0, none⟩,
          ⟨some 20, (.load 3 (.tmp 19)), 3, none⟩,
          ⟨some 21, (.move (.tmp 1)), 30, none⟩,
          ⟨some 22, (.move (.tmp 5)), 3, none⟩,
          ⟨some 23, (.indexAddr 30 (.tmp 21) (.tmp 22)), 0, none⟩,
          ⟨some 24, (.load 3 (.tmp 23)), 3, none⟩,
          ⟨some 25, (.binOp .neq 3 (.tmp 20) (.tmp 24) 3), 4, none⟩])
        (.cond (.tmp 25)
          (.seq (.rgn [] [⟨some 4, (.assign (.const (.bool false))), 4, none⟩])
          .ret)
          .skip)))
      (.rgn [] [⟨some 15, (.move (.tmp 5)), 3, none⟩,
        ⟨some 16, (.binOp .add 3 (.tmp 15) (.const (.int .i64 1)) 3), 3, none⟩,
        ⟨some 5, (.assign (.tmp 16)), 3, none⟩]))))))
  (.seq (.rgn [] [⟨some 4, (.assign (.const (.bool true))), 4, none⟩])
  .ret))))
theorem lit35 : Lit Try.prog 35 26 [] [.tmp 4] c35 := ⟨⟨Try.f35, _, Try.func35, rfl, by kernel_rfl, rfl, rfl, by kernel_rfl, by kernel_rfl⟩, by decide, by kernel_rfl⟩
/-- spec.IsValidRelation -/
def c39 : LC :=
  (.seq (.rgn [] [⟨some 1, (.box 24 (.tmp 0)), 0, none⟩,
    ⟨some 2, (.assign (.const (.bool false))), 4, none⟩])
  (.seq (.seq (.rgn [] [⟨some 4, (.fieldAddr 24 (.tmp 1) 0), 0, none⟩,
    ⟨some 5, (.load 3 (.tmp 4)), 3, none⟩,
    ⟨some 6, (.call { callee := (.value (.func 80)), args := #[(.tmp 5), (.const (.int .i64 0)), (.const (.int .i64 5))], argTypes := #[3, 3, 3] }), 4, none⟩,
    ⟨some 7, (.unOp .not 4 (.tmp 6)), 4, none⟩,
    ⟨some 8, (.move (.tmp 7)), 4, none⟩,
    ⟨some 9, (.fieldAddr 24 (.tmp 1) 1), 0, some (some 8, false)⟩,
    ⟨some 10, (.load 22 (.tmp 9)), 22, some (some 8, false)⟩,
    ⟨some 11, (.call { callee := (.builtin .len), args := #[(.tmp 10)], argTypes := #[22] }), 3, some (some 8, false)⟩,
    ⟨some 12, (.binOp .gtr 3 (.tmp 11) (.const (.int .i64 4000)) 3), 4, some (some 8, false)⟩,
    ⟨some 13, (.pick (.tmp 8) (.const (.bool true)) (.tmp 12)), 4, none⟩])
  (.cond (.tmp 13)
    (.seq (.rgn [] [⟨some 2, (.assign (.const (.bool false))), 4, none⟩])
    .ret)
    .skip))
  (.seq (.seq (.rgn [] [⟨some 3, (.assign (.const (.int .i64 0))), 3, none⟩])
  (.blk 0
    (.loop []
      (.seq (.seq (.rgn [] [⟨some 14, (.move (.tmp 3)), 3, none⟩,
        ⟨some 15, (.fieldAddr 24 (.tmp 1) 1), 0, none⟩,
        ⟨some 16, (.load 22 (.tmp 15)), 22, none⟩,
        ⟨some 17, (.call { callee := (.builtin .len), args := #[(.tmp 16)], argTypes := #[22] }), 3, none⟩,
        ⟨some 18, (.binOp .lss 3 (.tmp 14) (.tmp 17) 3), 4, none⟩])
      (.cond (.tmp 18)
        .skip
        (.exit 0)))
      (.seq (.blk 1
        (.seq (.drw [] [([1], [21]), ([1, 21], [22]), ([3], [23]), ([22, 23], [24]), ([24], [25]), ([25], [26]), ([1], [27]), ([1, 27], [28]), ([26, 28], [29]), ([29], [30]), ([1, 30], [31]), ([1, 30, 31], [32]), ([3, 30], [33]), ([30, 32, 33], [34]), ([30, 34], [35]), ([30, 35], [36]), ([30, 36], [37]), ([30, 37], [38]), ([38], [39]), ([3, 39], [40]), ([39, 40], [41]), ([39, 41], [42]), ([1, 42], [43]), ([1, 42, 43], [44]), ([3, 42], [45]), ([42, 45], [46]), ([42, 44, 46], [47]), ([42, 47], [48]), ([1, 42], [49]), ([1, 42, 49], [50]), ([3, 42], [51]), ([42, 50, 51], [52]), ([42, 52], [53]), ([42, 48, 53], [54]), ([42, 54], [55]), ([39, 42, 55], [56]), ([39, 56], [57])] [[], [0], [], [1, 2], [3], [4], [], [6], [5, 7], [8], [9], [10, 9], [9], [11, 12, 9], [13, 9], [14, 9, 9], [15, 9], [9, 16], [17, 15], [18], [19, 18], [20, 18, 18], [21], [22, 21], [21], [24, 21], [23, 25, 21], [26, 21], [21], [28, 21], [21], [29, 30, 21], [31, 21], [27, 32, 21, 21], [33, 21], [21, 34, 18], [18, 35]] [⟨some 21, (.fieldAddr 24 (.tmp 1) 1), 0, none⟩,
          ⟨some 22, (.load 22 (.tmp 21)), 22, none⟩,
          ⟨some 23, (.move (.tmp 3)), 3, none⟩,
          ⟨some 24, (.indexAddr 22 (.tmp 22) (.tmp 23)), 0, none⟩,
          ⟨some 25, (.load 30 (.tmp 24)), 30, none⟩,
          ⟨some 26, (.call { callee := (.builtin .len), args := #[(.tmp 25)], argTypes := #[30] }), 3, none⟩,
          ⟨some 27, (.fieldAddr 24 (.tmp 1) 0), 0, none⟩,
          ⟨some 28, (.load 3 (.tmp 27)), 3, none⟩,
          ⟨some 29, (.binOp .neq 3 (.tmp 26) (.tmp 28) 3), 4, none⟩,
          ⟨some 30, (.move (.tmp 29)), 4, none⟩,
          ⟨some 31, (.fieldAddr 24 (.tmp 1) 1), 0, some (some 30, false)⟩,
          ⟨some 32, (.load 22 (.tmp 31)), 22, some (some 30, false)⟩,
          ⟨some 33, (.move (.tmp 3)), 3, some (some 30, false)⟩,
          ⟨some 34, (.indexAddr 22 (.tmp 32) (.tmp 33)), 0, some (some 30, false)⟩,
          ⟨some 35, (.load 30 (.tmp 34)), 30, some (some 30, false)⟩,
          ⟨some 36, (.call { callee := (.value (.func 116)), args := #[(.tmp 35)], argTypes := #[30] }), 4, some (some 30, false)⟩,
          ⟨some 37, (.unOp .not 4 (.tmp 36)), 4, some (some 30, false)⟩,
          ⟨some 38, (.pick (.tmp 30) (.const (.bool true)) (.tmp 37)), 4, none⟩,
          ⟨some 39, (.move (.tmp 38)), 4, none⟩,
          ⟨some 40, (.move (.tmp 3)), 3, some (some 39, false)⟩,
          ⟨some 41, (.binOp .gtr 3 (.tmp 40) (.const (.int .i64 0)) 3), 4, some (some 39, false)⟩,
          ⟨some 42, (.move (.tmp 41)), 4, some (some 39, false)⟩,
          ⟨some 43, (.fieldAddr 24 (.tmp 1) 1), 0, some (some 42, true)⟩,
          ⟨some 44, (.load 22 (.tmp 43)), 22, some (some 42, true)⟩,
          ⟨some 45, (.move (.tmp 3)), 3, some (some 42, true)⟩,
          ⟨some 46, (.binOp .sub 3 (.tmp 45) (.const (.int .i64 1)) 3), 3, some (some 42, true)⟩,
          ⟨some 47, (.indexAddr 22 (.tmp 44) (.tmp 46)), 0, some (some 42, true)⟩,
          ⟨some 48, (.load 30 (.tmp 47)), 30, some (some 42, true)⟩,
          ⟨some 49, (.fieldAddr 24 (.tmp 1) 1), 0, some (some 42, true)⟩,
          ⟨some 50, (.load 22 (.tmp 49)), 22, some (some 42, true)⟩,
          ⟨some 51, (.move (.tmp 3)), 3, some (some 42, true)⟩,
          ⟨some 52, (.indexAddr 22 (.tmp 50) (.tmp 51)), 0, some (some 42, true)⟩,
          ⟨some 53, (.load 30 (.tmp 52)), 30, some (some 42, true)⟩,
          ⟨some 54, (.call { callee := (.value (.func 117)), args := #[(.tmp 48), (.tmp 53)], argTypes := #[30, 30] }), 3, some (some 42, true)⟩,
          ⟨some 55, (.binOp .geq 3 (.tmp 54) (.const (.int .i64 0)) 3), 4, some (some 42, true)⟩,
          ⟨some 56, (.pick (.tmp 42) (.tmp 55) (.const (.bool false))), 4, some (some 39, false)⟩,
          ⟨some 57, (.pick (.tmp 39) (.const (.bool true)) (.tmp 56)), 4, none⟩])
        (.cond (.tmp 57)
          (.seq (.rgn [] [⟨some 2, (.assign (.const (.bool false))), 4, none⟩])
          .ret)
          .skip)))
      (.rgn [] [⟨some 19, (.move (.tmp 3)), 3, none⟩,
        ⟨some 20, (.binOp .add 3 (.tmp 19) (.const (.int .i64 1)) 3), 3, none⟩,
        ⟨some 3, (.assign (.tmp 20)), 3, none⟩]))))))
  (.seq (.rgn [] [⟨some 2, (.assign (.const (.bool true))), 4, none⟩])
  .ret))))
theorem lit39 : Lit Try.prog 39 58 [1] [.tmp 2] c39 := ⟨⟨Try.f39, _, Try.func39, rfl, by kernel_rfl, rfl, rfl, by kernel_rfl, by kernel_rfl⟩, by decide, by kernel_rfl⟩
/-- laws.markIntS -/
def c57 : LC :=
  (.seq (.rgn [] [⟨some 4, (.assign (.const (.int .i64 0))), 3, none⟩])
  (.seq (.seq (.rgn [] [⟨some 5, (.assign (.const (.int .i64 0))), 3, none⟩])
  (.blk 0
    (.loop []
      (.seq (.seq (.rgn [] [⟨some 6, (.move (.tmp 5)), 3, none⟩,
        ⟨some 7, (.move (.tmp 0)), 30, none⟩,
        ⟨some 8, (.call { callee := (.builtin .len), args := #[(.tmp 7)], argTypes := #[30] }), 3, none⟩,
        ⟨some 9, (.binOp .lss 3 (.tmp 6) (.tmp 8) 3), 4, none⟩])
      (.cond (.tmp 9)
        .skip
        (.exit 0)))
      (.seq (.blk 1
        (.seq (.rgn [] [⟨some 12, (.move (.tmp 0)), 30, none⟩,
          ⟨some 13, (.move (.tmp 5)), 3, none⟩,
          ⟨some 14, (.move (.tmp 1)), 3, none⟩,
          ⟨some 15, (.indexAddr 30 (.tmp 12) (.tmp 13)), 0, none⟩,
          ⟨none, (.store 3 (.tmp 15) (.tmp 14)), 0, none⟩])
        (.rgn [] [⟨some 16, (.move (.tmp 1)), 3, none⟩,
          ⟨some 17, (.binOp .add 3 (.tmp 16) (.const (.int .i64 1)) 3), 3, none⟩,
          ⟨some 1, (.assign (.tmp 17)), 3, none⟩])))
      (.rgn [] [⟨some 10, (.move (.tmp 5)), 3, none⟩,
        ⟨some 11, (.binOp .add 3 (.tmp 10) (.const (.int .i64 1)) 3), 3, none⟩,
        ⟨some 5, (.assign (.tmp 11)), 3, none⟩]))))))
  (.seq (.rgn [] [⟨some 18, (.move (.tmp 1)), 3, none⟩,
    ⟨some 4, (.assign (.tmp 18)), 3, none⟩])
  .ret)))
theorem lit57 : Lit Try.prog 57 19 [] [.tmp 4] c57 := ⟨⟨Try.f57, _, Try.func57, rfl, by kernel_rfl, rfl, rfl, by kernel_rfl, by kernel_rfl⟩, by decide, by kernel_rfl⟩
/-- laws.heldIntS -/
def c58 : LC :=
  (.seq (.rgn [] [⟨some 4, (.assign (.const (.int .i64 0))), 3, none⟩])
  (.seq (.seq (.rgn [] [⟨some 5, (.assign (.const (.int .i64 0))), 3, none⟩])
  (.blk 0
    (.loop []
      (.seq (.seq (.rgn [] [⟨some 6, (.move (.tmp 5)), 3, none⟩,
        ⟨some 7, (.move (.tmp 0)), 30, none⟩,
        ⟨some 8, (.call { callee := (.builtin .len), args := #[(.tmp 7)], argTypes := #[30] }), 3, none⟩,
        ⟨some 9, (.binOp .lss 3 (.tmp 6) (.tmp 8) 3), 4, none⟩])
      (.cond (.tmp 9)
        .skip
        (.exit 0)))
      (.seq (.blk 1
        (.seq (.seq (.rgn [] [⟨some 12, (.move (.tmp 0)), 30, none⟩,
          ⟨some 13, (.move (.tmp 5)), 3, none⟩,
          ⟨some 14, (.indexAddr 30 (.tmp 12) (.tmp 13)), 0, none⟩,
          ⟨some 15, (.load 3 (.tmp 14)), 3, none⟩,
          ⟨some 16, (.move (.tmp 1)), 3, none⟩,
          ⟨some 17, (.binOp .neq 3 (.tmp 15) (.tmp 16) 3), 4, none⟩])
        (.cond (.tmp 17)
          (.seq (.rgn [] [⟨some 4, (.assign (.const (.int .i64 (-1)))), 3, none⟩])
          .ret)
          .skip))
        (.rgn [] [⟨some 18, (.move (.tmp 1)), 3, none⟩,
          ⟨some 19, (.binOp .add 3 (.tmp 18) (.const (.int .i64 1)) 3), 3, none⟩,
          ⟨some 1, (.assign (.tmp 19)), 3, none⟩])))
      (.rgn [] [⟨some 10, (.move (.tmp 5)), 3, none⟩,
        ⟨some 11, (.binOp .add 3 (.tmp 10) (.const (.int .i64 1)) 3), 3, none⟩,
        ⟨some 5, (.assign (.tmp 11)), 3, none⟩]))))))
  (.seq (.rgn [] [⟨some 20, (.move (.tmp 1)), 3, none⟩,
    ⟨some 4, (.assign (.tmp 20)), 3, none⟩])
  .ret)))
theorem lit58 : Lit Try.prog 58 21 [] [.tmp 4] c58 := ⟨⟨Try.f58, _, Try.func58, rfl, by kernel_rfl, rfl, rfl, by kernel_rfl, by kernel_rfl⟩, by decide, by kernel_rfl⟩
/-- laws.szDatabase -/
def c59 : LC :=
  (.seq (.rgn [] [⟨some 2, (.box 95 (.tmp 0)), 0, none⟩,
    ⟨some 4, (.assign (.const (.int .i64 0))), 3, none⟩])
  (.seq (.rgn [] [⟨some 5, (.fieldAddr 95 (.tmp 2) 0), 0, none⟩,
    ⟨some 6, (.load 93 (.tmp 5)), 93, none⟩,
    ⟨some 7, (.move (.tmp 1)), 3, none⟩,
    ⟨some 8, (.call { callee := (.value (.func 127)), args := #[(.tmp 6), (.tmp 7)], argTypes := #[93, 3] }), 3, none⟩,
    ⟨some 1, (.assign (.tmp 8)), 3, none⟩])
  (.seq (.seq (.rgn [] [⟨some 9, (.move (.tmp 1)), 3, none⟩,
    ⟨some 10, (.binOp .lss 3 (.tmp 9) (.const (.int .i64 0)) 3), 4, none⟩])
  (.cond (.tmp 10)
    (.seq (.rgn [] [⟨some 4, (.assign (.const (.int .i64 (-1)))), 3, none⟩])
    .ret)
    .skip))
  (.seq (.rgn [] [⟨some 11, (.move (.tmp 1)), 3, none⟩,
    ⟨some 4, (.assign (.tmp 11)), 3, none⟩])
  .ret))))
theorem lit59 : Lit Try.prog 59 12 [2] [.tmp 4] c59 := ⟨⟨Try.f59, _, Try.func59, rfl, by kernel_rfl, rfl, rfl, by kernel_rfl, by kernel_rfl⟩, by decide, by kernel_rfl⟩
/-- laws.toDatabase -/
def c61 : LC :=
  (.seq (.rgn [] [⟨some 1, (.box 95 (.tmp 0)), 0, none⟩,
    ⟨some 2, (.alloc 100), 0, none⟩])
  (.seq (.rgn [] [⟨some 3, (.alloc 100), 0, none⟩])
  (.seq (.rgn [] [⟨some 4, (.fieldAddr 95 (.tmp 1) 0), 0, none⟩,
    ⟨some 5, (.load 93 (.tmp 4)), 93, none⟩,
    ⟨some 6, (.call { callee := (.value (.func 128)), args := #[(.tmp 5)], argTypes := #[93] }), 98, none⟩,
    ⟨some 7, (.fieldAddr 100 (.tmp 3) 0), 0, none⟩,
    ⟨none, (.store 98 (.tmp 7) (.tmp 6)), 0, none⟩])
  (.seq (.rgn [8] [⟨some 8, (.load 100 (.tmp 3)), 100, none⟩,
    ⟨none, (.store 100 (.tmp 2) (.tmp 8)), 0, none⟩])
  .ret))))
theorem lit61 : Lit Try.prog 61 9 [1, 2, 3] [.cell 2 100] c61 := ⟨⟨Try.f61, _, Try.func61, rfl, by kernel_rfl, rfl, rfl, by kernel_rfl, by kernel_rfl⟩, by decide, by kernel_rfl⟩
/-- laws.eqDatabase -/
def c63 : LC :=
  (.seq (.rgn [] [⟨some 2, (.box 100 (.tmp 0)), 0, none⟩,
    ⟨some 3, (.box 100 (.tmp 1)), 0, none⟩,
    ⟨some 4, (.assign (.const (.bool false))), 4, none⟩])
  (.seq (.seq (.rgn [] [⟨some 5, (.fieldAddr 100 (.tmp 2) 0), 0, none⟩,
    ⟨some 6, (.load 98 (.tmp 5)), 98, none⟩,
    ⟨some 7, (.fieldAddr 100 (.tmp 3) 0), 0, none⟩,
    ⟨some 8, (.load 98 (.tmp 7)), 98, none⟩,
    ⟨some 9, (.call { callee := (.value (.func 130)), args := #[(.tmp 6), (.tmp 8)], argTypes := #[98, 98] }), 4, none⟩,
    ⟨some 10, (.unOp .not 4 (.tmp 9)), 4, none⟩])
  (.cond (.tmp 10)
    (.seq (.rgn [] [⟨some 4, (.assign (.const (.bool false))), 4, none⟩])
    .ret)
    .skip))
  (.seq (.rgn [] [⟨some 4, (.assign (.const (.bool true))), 4, none⟩])
  .ret)))
theorem lit63 : Lit Try.prog 63 11 [2, 3] [.tmp 4] c63 := ⟨⟨Try.f63, _, Try.func63, rfl, by kernel_rfl, rfl, rfl, by kernel_rfl, by kernel_rfl⟩, by decide, by kernel_rfl⟩
/-- spec.ActiveDomain -/
def c64 : LC :=
  (.seq (.rgn [] [⟨some 1, (.box 100 (.tmp 0)), 0, none⟩,
    ⟨some 2, (.assign (.const (.slice none 0 0))), 30, none⟩])
  (.seq (.rgn [] [⟨some 8, (.buildSlice 30 0 #[]), 30, none⟩,
    ⟨some 3, (.assign (.tmp 8)), 30, none⟩])
  (.seq (.seq (.rgn [] [⟨some 4, (.assign (.const (.int .i64 0))), 3, none⟩])
  (.blk 0
    (.loop []
      (.seq (.seq (.rgn [] [⟨some 9, (.move (.tmp 4)), 3, none⟩,
        ⟨some 10, (.binOp .leq 3 (.tmp 9) (.const (.int .i64 99)) 3), 4, none⟩,
        ⟨some 11, (.move (.tmp 10)), 4, none⟩,
        ⟨some 12, (.load 100 (.tmp 1)), 100, some (some 11, true)⟩,
        ⟨some 13, (.call { callee := (.value (.func 120)), args := #[(.tmp 12)], argTypes := #[100] }), 4, some (some 11, true)⟩,
        ⟨some 14, (.pick (.tmp 11) (.tmp 13) (.const (.bool false))), 4, none⟩])
      (.cond (.tmp 14)
        .skip
        (.exit 0)))
      (.seq (.blk 1
        (.seq (.rgn [] [⟨some 5, (.assign (.const (.bool false))), 4, none⟩])
        (.seq (.seq (.rgn [] [⟨some 6, (.assign (.const (.int .i64 0))), 3, none⟩])
        (.blk 2
          (.loop []
            (.seq (.seq (.rgn [] [⟨some 17, (.move (.tmp 6)), 3, none⟩,
              ⟨some 18, (.fieldAddr 100 (.tmp 1) 0), 0, none⟩,
              ⟨some 19, (.load 98 (.tmp 18)), 98, none⟩,
              ⟨some 20, (.call { callee := (.builtin .len), args := #[(.tmp 19)], argTypes := #[98] }), 3, none⟩,
              ⟨some 21, (.binOp .lss 3 (.tmp 17) (.tmp 20) 3), 4, none⟩])
            (.cond (.tmp 21)
              .skip
              (.exit 2)))
            (.seq (.blk 3
              (.seq (.rgn [] [⟨some 7, (.assign (.const (.int .i64 0))), 3, none⟩])
              (.blk 4
                (.loop []
                  (.seq (.seq (.rgn [] [⟨some 24, (.move (.tmp 7)), 3, none⟩,
                    ⟨some 25, (.fieldAddr 100 (.tmp 1) 0), 0, none⟩,
                    ⟨some 26, (.load 98 (.tmp 25)), 98, none⟩,
                    ⟨some 27, (.move (.tmp 6)), 3, none⟩,
                    ⟨some 28, (.indexAddr 98 (.tmp 26) (.tmp 27)), 0, none⟩,
                    ⟨some 29, (.fieldAddr 157 (.tmp 28) 1), 0, none⟩,
                    ⟨some 30, (.fieldAddr 24 (.tmp 29) 1), 0, none⟩,
                    ⟨some 31, (.load 22 (.tmp 30)), 22, none⟩,
                    ⟨some 32, (.call { callee := (.builtin .len), args := #[(.tmp 31)], argTypes := #[22] }), 3, none⟩,
                    ⟨some 33, (.binOp .lss 3 (.tmp 24) (.tmp 32) 3), 4, none⟩])
                  (.cond (.tmp 33)
                    .skip
                    (.exit 4)))
                  (.seq (.blk 5
                    (.rgn [] [⟨some 36, (.move (.tmp 5)), 4, none⟩,
                      ⟨some 37, (.move (.tmp 36)), 4, none⟩,
                      ⟨some 38, (.fieldAddr 100 (.tmp 1) 0), 0, some (some 37, false)⟩,
                      ⟨some 39, (.load 98 (.tmp 38)), 98, some (some 37, false)⟩,
                      ⟨some 40, (.move (.tmp 6)), 3, some (some 37, false)⟩,
                      ⟨some 41, (.indexAddr 98 (.tmp 39) (.tmp 40)), 0, some (some 37, false)⟩,
                      ⟨some 42, (.fieldAddr 157 (.tmp 41) 1), 0, some (some 37, false)⟩,
                      ⟨some 43, (.fieldAddr 24 (.tmp 42) 1), 0, some (some 37, false)⟩,
                      ⟨some 44, (.load 22 (.tmp 43)), 22, some (some 37, false)⟩,
                      ⟨some 45, (.move (.tmp 7)), 3, some (some 37, false)⟩,
                      ⟨some 46, (.indexAddr 22 (.tmp 44) (.tmp 45)), 0, some (some 37, false)⟩,
                      ⟨some 47, (.load 30 (.tmp 46)), 30, some (some 37, false)⟩,
                      ⟨some 48, (.move (.tmp 4)), 3, some (some 37, false)⟩,
                      ⟨some 49, (.call { callee := (.value (.func 101)), args := #[(.tmp 47), (.tmp 48)], argTypes := #[30, 3] }), 3, some (some 37, false)⟩,
                      ⟨some 50, (.binOp .geq 3 (.tmp 49) (.const (.int .i64 0)) 3), 4, some (some 37, false)⟩,
                      ⟨some 51, (.pick (.tmp 37) (.const (.bool true)) (.tmp 50)), 4, none⟩,
                      ⟨some 5, (.assign (.tmp 51)), 4, none⟩]))
                  (.rgn [] [⟨some 34, (.move (.tmp 7)), 3, none⟩,
                    ⟨some 35, (.binOp .add 3 (.tmp 34) (.const (.int .i64 1)) 3), 3, none⟩,
                    ⟨some 7, (.assign (.tmp 35)), 3, none⟩])))))))
            (.rgn [] [⟨some 22, (.move (.tmp 6)), 3, none⟩,
              ⟨some 23, (.binOp .add 3 (.tmp 22) (.const (.int .i64 1)) 3), 3, none⟩,
              ⟨some 6, (.assign (.tmp 23)), 3, none⟩]))))))
        (.seq (.rgn [] [⟨some 52, (.move (.tmp 5)), 4, none⟩])
        (.cond (.tmp 52)
          (.rgn [53] [⟨some 53, (.move (.tmp 3)), 30, none⟩,
            ⟨some 54, (.move (.tmp 4)), 3, none⟩,
            ⟨some 55, (.buildSlice 30 1 #[(0, (.tmp 54))]), 30, none⟩,
            ⟨some 56, (.call { callee := (.builtin .append), args := #[(.tmp 53), (.tmp 55)], argTypes := #[30, 30] }), 30, none⟩,
            ⟨some 3, (.assign (.tmp 56)), 30, none⟩])
          .skip)))))
      (.rgn [] [⟨some 15, (.move (.tmp 4)), 3, none⟩,
        ⟨some 16, (.binOp .add 3 (.tmp 15) (.const (.int .i64 1)) 3), 3, none⟩,
        ⟨some 4, (.assign (.tmp 16)), 3, none⟩]))))))
  (.seq (.rgn [57] [⟨some 57, (.move (.tmp 3)), 30, none⟩,
    ⟨some 2, (.assign (.tmp 57)), 30, none⟩])
  .ret))))
theorem lit64 : Lit Try.prog 64 58 [1] [.tmp 2] c64 := ⟨⟨Try.f64, _, Try.func64, rfl, by kernel_rfl, rfl, rfl, by kernel_rfl, by kernel_rfl⟩, by decide, by kernel_rfl⟩
/-- impl.ActiveDomain -/
def c65 : LC :=
  (.seq (.rgn [] [⟨some 1, (.box 100 (.tmp 0)), 0, none⟩,
    ⟨some 2, (.assign (.const (.slice none 0 0))), 30, none⟩])
  (.seq (.seq (.rgn [] [⟨some 8, (.load 100 (.tmp 1)), 100, none⟩,
    ⟨some 9, (.call { callee := (.value (.func 122)), args := #[(.tmp 8)], argTypes := #[100] }), 4, none⟩,
    ⟨some 10, (.unOp .not 4 (.tmp 9)), 4, none⟩])
  (.cond (.tmp 10)
    (.seq (.rgn [] [⟨some 2, (.assign (.const (.slice none 0 0))), 30, none⟩])
    .ret)
    .skip))
  (.seq (.rgn [] [⟨some 3, (.assign (.const (.slice none 0 0))), 30, none⟩])
  (.seq (.seq (.rgn [] [⟨some 11, (.fieldAddr 100 (.tmp 1) 0), 0, none⟩,
    ⟨some 12, (.load 98 (.tmp 11)), 98, none⟩,
    ⟨some 13, (.call { callee := (.builtin .len), args := #[(.tmp 12)], argTypes := #[98] }), 3, none⟩,
    ⟨some 14, (.move (.const (.int .i64 0))), 3, none⟩])
  (.blk 0
    (.loop [5]
      (.seq (.rgn [] [⟨some 15, (.binOp .lss 3 (.tmp 14) (.tmp 13) 3), 0, none⟩])
      (.seq (.cond (.tmp 15)
        .skip
        (.exit 0))
      (.seq (.blk 1
        (.seq (.rgn [17] [⟨some 16, (.indexAddr 98 (.tmp 12) (.tmp 14)), 0, none⟩,
          ⟨some 17, (.load 157 (.tmp 16)), 157, none⟩,
          ⟨some 5, (.alloc 157), 0, none⟩,
          ⟨none, (.store 157 (.tmp 5) (.tmp 17)), 0, none⟩])
        (.seq (.rgn [] [⟨some 18, (.fieldAddr 157 (.tmp 5) 1), 0, none⟩,
          ⟨some 19, (.fieldAddr 24 (.tmp 18) 1), 0, none⟩,
          ⟨some 20, (.load 22 (.tmp 19)), 22, none⟩,
          ⟨some 21, (.call { callee := (.builtin .len), args := #[(.tmp 20)], argTypes := #[22] }), 3, none⟩,
          ⟨some 22, (.move (.const (.int .i64 0))), 3, none⟩])
        (.blk 2
          (.loop []
            (.seq (.rgn [] [⟨some 23, (.binOp .lss 3 (.tmp 22) (.tmp 21) 3), 0, none⟩])
            (.seq (.cond (.tmp 23)
              .skip
              (.exit 2))
            (.seq (.blk 3
              (.seq (.rgn [25] [⟨some 24, (.indexAddr 22 (.tmp 20) (.tmp 22)), 0, none⟩,
                ⟨some 25, (.load 30 (.tmp 24)), 30, none⟩,
                ⟨some 7, (.assign (.tmp 25)), 30, none⟩])
              (.rgn [] [⟨some 26, (.move (.tmp 3)), 30, none⟩,
                ⟨some 27, (.move (.tmp 7)), 30, none⟩,
                ⟨some 28, (.call { callee := (.value (.func 131)), args := #[(.tmp 26), (.tmp 27)], argTypes := #[30, 30] }), 30, none⟩,
                ⟨some 3, (.assign (.tmp 28)), 30, none⟩])))
            (.rgn [] [⟨some 29, (.binOp .add 3 (.tmp 22) (.const (.int .i64 1)) 3), 3, none⟩,
              ⟨some 22, (.move (.tmp 29)), 3, none⟩])))))))))
      (.rgn [] [⟨some 30, (.binOp .add 3 (.tmp 14) (.const (.int .i64 1)) 3), 3, none⟩,
        ⟨some 14, (.move (.tmp 30)), 3, none⟩])))))))
  (.seq (.rgn [31] [⟨some 31, (.move (.tmp 3)), 30, none⟩,
    ⟨some 2, (.assign (.tmp 31)), 30, none⟩])
  .ret)))))
theorem lit65 : Lit Try.prog 65 32 [1, 5] [.tmp 2] c65 := ⟨⟨Try.f65, _, Try.func65, rfl, by kernel_rfl, rfl, rfl, by kernel_rfl, by kernel_rfl⟩, by decide, by kernel_rfl⟩
/-- laws.markDatabase -/
def c66 : LC :=
  (.seq (.rgn [] [⟨some 2, (.box 100 (.tmp 0)), 0, none⟩,
    ⟨some 4, (.assign (.const (.int .i64 0))), 3, none⟩])
  (.seq (.rgn [] [⟨some 5, (.fieldAddr 100 (.tmp 2) 0), 0, none⟩,
    ⟨some 6, (.load 98 (.tmp 5)), 98, none⟩,
    ⟨some 7, (.move (.tmp 1)), 3, none⟩,
    ⟨some 8, (.call { callee := (.value (.func 132)), args := #[(.tmp 6), (.tmp 7)], argTypes := #[98, 3] }), 3, none⟩,
    ⟨some 1, (.assign (.tmp 8)), 3, none⟩])
  (.seq (.rgn [] [⟨some 9, (.move (.tmp 1)), 3, none⟩,
    ⟨some 4, (.assign (.tmp 9)), 3, none⟩])
  .ret)))
theorem lit66 : Lit Try.prog 66 10 [2] [.tmp 4] c66 := ⟨⟨Try.f66, _, Try.func66, rfl, by kernel_rfl, rfl, rfl, by kernel_rfl, by kernel_rfl⟩, by decide, by kernel_rfl⟩
/-- spec.l1In -/
def c80 : LC :=
  (.seq (.rgn [] [⟨some 6, (.assign (.const (.bool false))), 4, none⟩])
  (.seq (.rgn [] [⟨some 7, (.move (.tmp 0)), 3, none⟩,
    ⟨some 8, (.move (.tmp 1)), 3, none⟩,
    ⟨some 9, (.binOp .geq 3 (.tmp 7) (.tmp 8) 3), 4, none⟩,
    ⟨some 10, (.move (.tmp 9)), 4, none⟩,
    ⟨some 11, (.move (.tmp 0)), 3, some (some 10, true)⟩,
    ⟨some 12, (.move (.tmp 2)), 3, some (some 10, true)⟩,
    ⟨some 13, (.binOp .leq 3 (.tmp 11) (.tmp 12) 3), 4, some (some 10, true)⟩,
    ⟨some 14, (.pick (.tmp 10) (.tmp 13) (.const (.bool false))), 4, none⟩,
    ⟨some 6, (.assign (.tmp 14)), 4, none⟩])
  .ret))
theorem lit80 : Lit Try.prog 80 15 [] [.tmp 6] c80 := ⟨⟨Try.f80, _, Try.func80, rfl, by kernel_rfl, rfl, rfl, by kernel_rfl, by kernel_rfl⟩, by decide, by kernel_rfl⟩
/-- impl.within -/
def c82 : LC :=
  (.seq (.rgn [] [⟨some 6, (.assign (.const (.bool false))), 4, none⟩])
  (.seq (.rgn [] [⟨some 7, (.move (.tmp 0)), 3, none⟩,
    ⟨some 8, (.move (.tmp 1)), 3, none⟩,
    ⟨some 9, (.binOp .geq 3 (.tmp 7) (.tmp 8) 3), 4, none⟩,
    ⟨some 10, (.move (.tmp 9)), 4, none⟩,
    ⟨some 11, (.move (.tmp 0)), 3, some (some 10, true)⟩,
    ⟨some 12, (.move (.tmp 2)), 3, some (some 10, true)⟩,
    ⟨some 13, (.binOp .leq 3 (.tmp 11) (.tmp 12) 3), 4, some (some 10, true)⟩,
    ⟨some 14, (.pick (.tmp 10) (.tmp 13) (.const (.bool false))), 4, none⟩,
    ⟨some 6, (.assign (.tmp 14)), 4, none⟩])
  .ret))
theorem lit82 : Lit Try.prog 82 15 [] [.tmp 6] c82 := ⟨⟨Try.f82, _, Try.func82, rfl, by kernel_rfl, rfl, rfl, by kernel_rfl, by kernel_rfl⟩, by decide, by kernel_rfl⟩
/-- laws.eqIntSS -/
def c84 : LC :=
  (.seq (.rgn [] [⟨some 4, (.assign (.const (.bool false))), 4, none⟩])
  (.seq (.seq (.rgn [] [⟨some 6, (.move (.tmp 0)), 22, none⟩,
    ⟨some 7, (.call { callee := (.builtin .len), args := #[(.tmp 6)], argTypes := #[22] }), 3, none⟩,
    ⟨some 8, (.move (.tmp 1)), 22, none⟩,
    ⟨some 9, (.call { callee := (.builtin .len), args := #[(.tmp 8)], argTypes := #[22] }), 3, none⟩,
    ⟨some 10, (.binOp .neq 3 (.tmp 7) (.tmp 9) 3), 4, none⟩])
  (.cond (.tmp 10)
    (.seq (.rgn [] [⟨some 4, (.assign (.const (.bool false))), 4, none⟩])
    .ret)
    .skip))
  (.seq (.seq (.rgn [] [⟨some 5, (.assign (.const (.int .i64 0))), 3, none⟩])
  (.blk 0
    (.loop []
      (.seq (.seq (.rgn [] [⟨some 11, (.move (.tmp 5)), 3, none⟩,
        ⟨some 12, (.move (.tmp 0)), 22, none⟩,
        ⟨some 13, (.call { callee := (.builtin .len), args := #[(.tmp 12)], argTypes := #[22] }), 3, none⟩,
        ⟨some 14, (.binOp .lss 3 (.tmp 11) (.tmp 13) 3), 4, none⟩])
      (.cond (.tmp 14)
        .skip
        (.exit 0)))
      (.seq (.blk 1
        (.seq (.drw [] [([0], [17]), ([5], [18]), ([17, 18], [19]), ([19], [20]), ([1], [21]), ([5], [22]), ([21, 22], [23]), ([23], [24]), ([20, 24], [25]), ([25], [26])] [[], [], [0, 1], [2], [], [], [4, 5], [6], [3, 7], [8]] [⟨some 17, (.move (.tmp 0)), 22, none⟩,
          ⟨some 18, (.move (.tmp 5)), 3, none⟩,
          ⟨some 19, (.indexAddr 22 (.tmp 17) (.tmp 18)), 0, none⟩,
          ⟨some 20, (.load 30 (.tmp 19)), 30, none⟩,
          ⟨some 21, (.move (.tmp 1)), 22, none⟩,
          ⟨some 22, (.move (.tmp 5)), 3, none⟩,
          ⟨some 23, (.indexAddr 22 (.tmp 21) (.tmp 22)), 0, none⟩,
          ⟨some 24, (.load 30 (.tmp 23)), 30, none⟩,
          ⟨some 25, (.call { callee := (.value (.func 35)), args := #[(.tmp 20), (.tmp 24)], argTypes := #[30, 30] }), 4, none⟩,
          ⟨some 26, (.unOp .not 4 (.tmp 25)), 4, none⟩])
        (.cond (.tmp 26)
          (.seq (.rgn [] [⟨some 4, (.assign (.const (.bool false))), 4, none⟩])
          .ret)
          .skip)))
      (.rgn [] [⟨some 15, (.move (.tmp 5)), 3, none⟩,
        ⟨some 16, (.binOp .add 3 (.tmp 15) (.const (.int .i64 1)) 3), 3, none⟩,
        ⟨some 5, (.assign (.tmp 16)), 3, none⟩]))))))
  (.seq (.rgn [] [⟨some 4, (.assign (.const (.bool true))), 4, none⟩])
  .ret))))
theorem lit84 : Lit Try.prog 84 27 [] [.tmp 4] c84 := ⟨⟨Try.f84, _, Try.func84, rfl, by kernel_rfl, rfl, rfl, by kernel_rfl, by kernel_rfl⟩, by decide, by kernel_rfl⟩
/-- laws.markIntSS -/
def c85 : LC :=
  (.seq (.rgn [] [⟨some 4, (.assign (.const (.int .i64 0))), 3, none⟩])
  (.seq (.seq (.rgn [] [⟨some 5, (.assign (.const (.int .i64 0))), 3, none⟩])
  (.blk 0
    (.loop []
      (.seq (.seq (.rgn [] [⟨some 6, (.move (.tmp 5)), 3, none⟩,
        ⟨some 7, (.move (.tmp 0)), 22, none⟩,
        ⟨some 8, (.call { callee := (.builtin .len), args := #[(.tmp 7)], argTypes := #[22] }), 3, none⟩,
        ⟨some 9, (.binOp .lss 3 (.tmp 6) (.tmp 8) 3), 4, none⟩])
      (.cond (.tmp 9)
        .skip
        (.exit 0)))
      (.seq (.blk 1
        (.rgn [] [⟨some 12, (.move (.tmp 0)), 22, none⟩,
          ⟨some 13, (.move (.tmp 5)), 3, none⟩,
          ⟨some 14, (.indexAddr 22 (.tmp 12) (.tmp 13)), 0, none⟩,
          ⟨some 15, (.load 30 (.tmp 14)), 30, none⟩,
          ⟨some 16, (.move (.tmp 1)), 3, none⟩,
          ⟨some 17, (.call { callee := (.value (.func 57)), args := #[(.tmp 15), (.tmp 16)], argTypes := #[30, 3] }), 3, none⟩,
          ⟨some 1, (.assign (.tmp 17)), 3, none⟩]))
      (.rgn [] [⟨some 10, (.move (.tmp 5)), 3, none⟩,
        ⟨some 11, (.binOp .add 3 (.tmp 10) (.const (.int .i64 1)) 3), 3, none⟩,
        ⟨some 5, (.assign (.tmp 11)), 3, none⟩]))))))
  (.seq (.rgn [] [⟨some 18, (.move (.tmp 1)), 3, none⟩,
    ⟨some 4, (.assign (.tmp 18)), 3, none⟩])
  .ret)))
theorem lit85 : Lit Try.prog 85 19 [] [.tmp 4] c85 := ⟨⟨Try.f85, _, Try.func85, rfl, by kernel_rfl, rfl, rfl, by kernel_rfl, by kernel_rfl⟩, by decide, by kernel_rfl⟩
/-- laws.szIntS -/
def c87 : LC :=
  (.seq (.rgn [] [⟨some 4, (.assign (.const (.int .i64 0))), 3, none⟩])
  (.seq (.rgn [] [⟨some 5, (.move (.tmp 1)), 3, none⟩,
    ⟨some 6, (.move (.tmp 0)), 30, none⟩,
    ⟨some 7, (.call { callee := (.builtin .len), args := #[(.tmp 6)], argTypes := #[30] }), 3, none⟩,
    ⟨some 8, (.binOp .sub 3 (.tmp 5) (.tmp 7) 3), 3, none⟩,
    ⟨some 1, (.assign (.tmp 8)), 3, none⟩])
  (.seq (.seq (.rgn [] [⟨some 9, (.move (.tmp 1)), 3, none⟩,
    ⟨some 10, (.binOp .lss 3 (.tmp 9) (.const (.int .i64 0)) 3), 4, none⟩])
  (.cond (.tmp 10)
    (.seq (.rgn [] [⟨some 4, (.assign (.const (.int .i64 (-1)))), 3, none⟩])
    .ret)
    .skip))
  (.seq (.rgn [] [⟨some 11, (.move (.tmp 1)), 3, none⟩,
    ⟨some 4, (.assign (.tmp 11)), 3, none⟩])
  .ret))))
theorem lit87 : Lit Try.prog 87 12 [] [.tmp 4] c87 := ⟨⟨Try.f87, _, Try.func87, rfl, by kernel_rfl, rfl, rfl, by kernel_rfl, by kernel_rfl⟩, by decide, by kernel_rfl⟩
/-- laws.szIntSS -/
def c99 : LC :=
  (.seq (.rgn [] [⟨some 4, (.assign (.const (.int .i64 0))), 3, none⟩])
  (.seq (.rgn [] [⟨some 6, (.move (.tmp 1)), 3, none⟩,
    ⟨some 7, (.move (.tmp 0)), 22, none⟩,
    ⟨some 8, (.call { callee := (.builtin .len), args := #[(.tmp 7)], argTypes := #[22] }), 3, none⟩,
    ⟨some 9, (.binOp .sub 3 (.tmp 6) (.tmp 8) 3), 3, none⟩,
    ⟨some 1, (.assign (.tmp 9)), 3, none⟩])
  (.seq (.seq (.rgn [] [⟨some 10, (.move (.tmp 1)), 3, none⟩,
    ⟨some 11, (.binOp .lss 3 (.tmp 10) (.const (.int .i64 0)) 3), 4, none⟩])
  (.cond (.tmp 11)
    (.seq (.rgn [] [⟨some 4, (.assign (.const (.int .i64 (-1)))), 3, none⟩])
    .ret)
    .skip))
  (.seq (.seq (.rgn [] [⟨some 5, (.assign (.const (.int .i64 0))), 3, none⟩])
  (.blk 0
    (.loop []
      (.seq (.seq (.rgn [] [⟨some 12, (.move (.tmp 5)), 3, none⟩,
        ⟨some 13, (.move (.tmp 0)), 22, none⟩,
        ⟨some 14, (.call { callee := (.builtin .len), args := #[(.tmp 13)], argTypes := #[22] }), 3, none⟩,
        ⟨some 15, (.binOp .lss 3 (.tmp 12) (.tmp 14) 3), 4, none⟩])
      (.cond (.tmp 15)
        .skip
        (.exit 0)))
      (.seq (.blk 1
        (.seq (.rgn [] [⟨some 18, (.move (.tmp 0)), 22, none⟩,
          ⟨some 19, (.move (.tmp 5)), 3, none⟩,
          ⟨some 20, (.indexAddr 22 (.tmp 18) (.tmp 19)), 0, none⟩,
          ⟨some 21, (.load 30 (.tmp 20)), 30, none⟩,
          ⟨some 22, (.move (.tmp 1)), 3, none⟩,
          ⟨some 23, (.call { callee := (.value (.func 87)), args := #[(.tmp 21), (.tmp 22)], argTypes := #[30, 3] }), 3, none⟩,
          ⟨some 1, (.assign (.tmp 23)), 3, none⟩])
        (.seq (.rgn [] [⟨some 24, (.move (.tmp 1)), 3, none⟩,
          ⟨some 25, (.binOp .lss 3 (.tmp 24) (.const (.int .i64 0)) 3), 4, none⟩])
        (.cond (.tmp 25)
          (.seq (.rgn [] [⟨some 4, (.assign (.const (.int .i64 (-1)))), 3, none⟩])
          .ret)
          .skip))))
      (.rgn [] [⟨some 16, (.move (.tmp 5)), 3, none⟩,
        ⟨some 17, (.binOp .add 3 (.tmp 16) (.const (.int .i64 1)) 3), 3, none⟩,
        ⟨some 5, (.assign (.tmp 17)), 3, none⟩]))))))
  (.seq (.rgn [] [⟨some 26, (.move (.tmp 1)), 3, none⟩,
    ⟨some 4, (.assign (.tmp 26)), 3, none⟩])
  .ret)))))
theorem lit99 : Lit Try.prog 99 27 [] [.tmp 4] c99 := ⟨⟨Try.f99, _, Try.func99, rfl, by kernel_rfl, rfl, rfl, by kernel_rfl, by kernel_rfl⟩, by decide, by kernel_rfl⟩
/-- spec.l7Find -/
def c101 : LC :=
  (.seq (.rgn [] [⟨some 4, (.assign (.const (.int .i64 0))), 3, none⟩])
  (.seq (.seq (.rgn [] [⟨some 5, (.assign (.const (.int .i64 0))), 3, none⟩])
  (.blk 0
    (.loop []
      (.seq (.seq (.rgn [] [⟨some 6, (.move (.tmp 5)), 3, none⟩,
        ⟨some 7, (.move (.tmp 0)), 30, none⟩,
        ⟨some 8, (.call { callee := (.builtin .len), args := #[(.tmp 7)], argTypes := #[30] }), 3, none⟩,
        ⟨some 9, (.binOp .lss 3 (.tmp 6) (.tmp 8) 3), 4, none⟩])
      (.cond (.tmp 9)
        .skip
        (.exit 0)))
      (.seq (.blk 1
        (.seq (.rgn [] [⟨some 12, (.move (.tmp 0)), 30, none⟩,
          ⟨some 13, (.move (.tmp 5)), 3, none⟩,
          ⟨some 14, (.indexAddr 30 (.tmp 12) (.tmp 13)), 0, none⟩,
          ⟨some 15, (.load 3 (.tmp 14)), 3, none⟩,
          ⟨some 16, (.move (.tmp 1)), 3, none⟩,
          ⟨some 17, (.binOp .eql 3 (.tmp 15) (.tmp 16) 3), 4, none⟩])
        (.cond (.tmp 17)
          (.seq (.rgn [] [⟨some 18, (.move (.tmp 5)), 3, none⟩,
            ⟨some 4, (.assign (.tmp 18)), 3, none⟩])
          .ret)
          .skip)))
      (.rgn [] [⟨some 10, (.move (.tmp 5)), 3, none⟩,
        ⟨some 11, (.binOp .add 3 (.tmp 10) (.const (.int .i64 1)) 3), 3, none⟩,
        ⟨some 5, (.assign (.tmp 11)), 3, none⟩]))))))
  (.seq (.rgn [] [⟨some 4, (.assign (.const (.int .i64 (-1)))), 3, none⟩])
  .ret)))
theorem lit101 : Lit Try.prog 101 19 [] [.tmp 4] c101 := ⟨⟨Try.f101, _, Try.func101, rfl, by kernel_rfl, rfl, rfl, by kernel_rfl, by kernel_rfl⟩, by decide, by kernel_rfl⟩
/-- laws.toIntSS -/
def c102 : LC :=
  (.seq (.rgn [] [⟨some 2, (.assign (.const (.slice none 0 0))), 22, none⟩])
  (.seq (.rgn [3, 7] [⟨some 5, (.move (.tmp 0)), 22, none⟩,
    ⟨some 6, (.call { callee := (.builtin .len), args := #[(.tmp 5)], argTypes := #[22] }), 3, none⟩,
    ⟨some 7, (.makeSlice 22 (.tmp 6) (.tmp 6)), 22, none⟩,
    ⟨some 3, (.assign (.tmp 7)), 22, none⟩])
  (.seq (.seq (.rgn [] [⟨some 4, (.assign (.const (.int .i64 0))), 3, none⟩])
  (.blk 0
    (.loop []
      (.seq (.seq (.rgn [] [⟨some 8, (.move (.tmp 4)), 3, none⟩,
        ⟨some 9, (.move (.tmp 0)), 22, none⟩,
        ⟨some 10, (.call { callee := (.builtin .len), args := #[(.tmp 9)], argTypes := #[22] }), 3, none⟩,
        ⟨some 11, (.binOp .lss 3 (.tmp 8) (.tmp 10) 3), 4, none⟩])
      (.cond (.tmp 11)
        .skip
        (.exit 0)))
      (.seq (.blk 1
        (.rgn [] [⟨some 14, (.move (.tmp 3)), 22, none⟩,
          ⟨some 15, (.move (.tmp 4)), 3, none⟩,
          ⟨some 16, (.move (.tmp 0)), 22, none⟩,
          ⟨some 17, (.move (.tmp 4)), 3, none⟩,
          ⟨some 18, (.indexAddr 22 (.tmp 16) (.tmp 17)), 0, none⟩,
          ⟨some 19, (.load 30 (.tmp 18)), 30, none⟩,
          ⟨some 20, (.call { callee := (.value (.func 32)), args := #[(.tmp 19)], argTypes := #[30] }), 30, none⟩,
          ⟨some 21, (.indexAddr 22 (.tmp 14) (.tmp 15)), 0, none⟩,
          ⟨none, (.store 30 (.tmp 21) (.tmp 20)), 0, none⟩]))
      (.rgn [] [⟨some 12, (.move (.tmp 4)), 3, none⟩,
        ⟨some 13, (.binOp .add 3 (.tmp 12) (.const (.int .i64 1)) 3), 3, none⟩,
        ⟨some 4, (.assign (.tmp 13)), 3, none⟩]))))))
  (.seq (.rgn [22] [⟨some 22, (.move (.tmp 3)), 22, none⟩,
    ⟨some 2, (.assign (.tmp 22)), 22, none⟩])
  .ret))))
theorem lit102 : Lit Try.prog 102 23 [3, 7] [.tmp 2] c102 := ⟨⟨Try.f102, _, Try.func102, rfl, by kernel_rfl, rfl, rfl, by kernel_rfl, by kernel_rfl⟩, by decide, by kernel_rfl⟩
/-- impl.IsValidRelation -/
def c103 : LC :=
  (.seq (.rgn [] [⟨some 1, (.box 24 (.tmp 0)), 0, none⟩,
    ⟨some 2, (.assign (.const (.bool false))), 4, none⟩])
  (.seq (.rgn [] [⟨some 3, (.fieldAddr 24 (.tmp 1) 0), 0, none⟩,
    ⟨some 4, (.load 3 (.tmp 3)), 3, none⟩,
    ⟨some 5, (.fieldAddr 24 (.tmp 1) 1), 0, none⟩,
    ⟨some 6, (.load 22 (.tmp 5)), 22, none⟩,
    ⟨some 7, (.call { callee := (.value (.func 149)), args := #[(.tmp 4), (.tmp 6)], argTypes := #[3, 22] }), 4, none⟩,
    ⟨some 2, (.assign (.tmp 7)), 4, none⟩])
  .ret))
theorem lit103 : Lit Try.prog 103 8 [1] [.tmp 2] c103 := ⟨⟨Try.f103, _, Try.func103, rfl, by kernel_rfl, rfl, rfl, by kernel_rfl, by kernel_rfl⟩, by decide, by kernel_rfl⟩
/-- impl.copyInts -/
def c105 : LC :=
  (.seq (.rgn [] [⟨some 2, (.assign (.const (.slice none 0 0))), 30, none⟩])
  (.seq (.rgn [4] [⟨some 3, (.buildSlice 30 0 #[]), 30, none⟩,
    ⟨some 4, (.move (.tmp 0)), 30, none⟩,
    ⟨some 5, (.call { callee := (.builtin .append), args := #[(.tmp 3), (.tmp 4)], argTypes := #[30, 30] }), 30, none⟩,
    ⟨some 2, (.assign (.tmp 5)), 30, none⟩])
  .ret))
theorem lit105 : Lit Try.prog 105 6 [] [.tmp 2] c105 := ⟨⟨Try.f105, _, Try.func105, rfl, by kernel_rfl, rfl, rfl, by kernel_rfl, by kernel_rfl⟩, by decide, by kernel_rfl⟩
/-- spec.AreValidValues -/
def c116 : LC :=
  (.seq (.rgn [] [⟨some 2, (.assign (.const (.bool false))), 4, none⟩])
  (.seq (.seq (.rgn [] [⟨some 3, (.assign (.const (.int .i64 0))), 3, none⟩])
  (.blk 0
    (.loop []
      (.seq (.seq (.rgn [] [⟨some 4, (.move (.tmp 3)), 3, none⟩,
        ⟨some 5, (.move (.tmp 0)), 30, none⟩,
        ⟨some 6, (.call { callee := (.builtin .len), args := #[(.tmp 5)], argTypes := #[30] }), 3, none⟩,
        ⟨some 7, (.binOp .lss 3 (.tmp 4) (.tmp 6) 3), 4, none⟩])
      (.cond (.tmp 7)
        .skip
        (.exit 0)))
      (.seq (.blk 1
        (.seq (.rgn [] [⟨some 10, (.move (.tmp 0)), 30, none⟩,
          ⟨some 11, (.move (.tmp 3)), 3, none⟩,
          ⟨some 12, (.indexAddr 30 (.tmp 10) (.tmp 11)), 0, none⟩,
          ⟨some 13, (.load 3 (.tmp 12)), 3, none⟩,
          ⟨some 14, (.call { callee := (.value (.func 80)), args := #[(.tmp 13), (.const (.int .i64 0)), (.const (.int .i64 99))], argTypes := #[3, 3, 3] }), 4, none⟩,
          ⟨some 15, (.unOp .not 4 (.tmp 14)), 4, none⟩])
        (.cond (.tmp 15)
          (.seq (.rgn [] [⟨some 2, (.assign (.const (.bool false))), 4, none⟩])
          .ret)
          .skip)))
      (.rgn [] [⟨some 8, (.move (.tmp 3)), 3, none⟩,
        ⟨some 9, (.binOp .add 3 (.tmp 8) (.const (.int .i64 1)) 3), 3, none⟩,
        ⟨some 3, (.assign (.tmp 9)), 3, none⟩]))))))
  (.seq (.rgn [] [⟨some 2, (.assign (.const (.bool true))), 4, none⟩])
  .ret)))
theorem lit116 : Lit Try.prog 116 16 [] [.tmp 2] c116 := ⟨⟨Try.f116, _, Try.func116, rfl, by kernel_rfl, rfl, rfl, by kernel_rfl, by kernel_rfl⟩, by decide, by kernel_rfl⟩
/-- spec.CompareRows -/
def c117 : LC :=
  (.seq (.rgn [] [⟨some 4, (.assign (.const (.int .i64 0))), 3, none⟩])
  (.seq (.seq (.rgn [] [⟨some 5, (.assign (.const (.int .i64 0))), 3, none⟩])
  (.blk 0
    (.loop []
      (.seq (.seq (.rgn [] [⟨some 6, (.move (.tmp 5)), 3, none⟩,
        ⟨some 7, (.move (.tmp 0)), 30, none⟩,
        ⟨some 8, (.call { callee := (.builtin .len), args := #[(.tmp 7)], argTypes := #[30] }), 3, none⟩,
        ⟨some 9, (.binOp .lss 3 (.tmp 6) (.tmp 8) 3), 4, none⟩,
        ⟨some 10, (.move (.tmp 9)), 4, none⟩,
        ⟨some 11, (.move (.tmp 5)), 3, some (some 10, true)⟩,
        ⟨some 12, (.move (.tmp 1)), 30, some (some 10, true)⟩,
        ⟨some 13, (.call { callee := (.builtin .len), args := #[(.tmp 12)], argTypes := #[30] }), 3, some (some 10, true)⟩,
        ⟨some 14, (.binOp .lss 3 (.tmp 11) (.tmp 13) 3), 4, some (some 10, true)⟩,
        ⟨some 15, (.pick (.tmp 10) (.tmp 14) (.const (.bool false))), 4, none⟩])
      (.cond (.tmp 15)
        .skip
        (.exit 0)))
      (.seq (.blk 1
        (.seq (.seq (.drw [] [([0], [18]), ([5], [19]), ([18, 19], [20]), ([20], [21]), ([1], [22]), ([5], [23]), ([22, 23], [24]), ([24], [25]), ([21, 25], [26])] [[], [], [0, 1], [2], [], [], [4, 5], [6], [3, 7]] [⟨some 18, (.move (.tmp 0)), 30, none⟩,
          ⟨some 19, (.move (.tmp 5)), 3, none⟩,
          ⟨some 20, (.indexAddr 30 (.tmp 18) (.tmp 19)), 0, none⟩,
          ⟨some 21, (.load 3 (.tmp 20)), 3, none⟩,
          ⟨some 22, (.move (.tmp 1)), 30, none⟩,
          ⟨some 23, (.move (.tmp 5)), 3, none⟩,
          ⟨some 24, (.indexAddr 30 (.tmp 22) (.tmp 23)), 0, none⟩,
          ⟨some 25, (.load 3 (.tmp 24)), 3, none⟩,
          ⟨some 26, (.binOp .lss 3 (.tmp 21) (.tmp 25) 3), 4, none⟩])
        (.cond (.tmp 26)
          (.seq (.rgn [] [⟨some 4, (.assign (.const (.int .i64 (-1)))), 3, none⟩])
          .ret)
          .skip))
        (.seq (.drw [] [([0], [27]), ([5], [28]), ([27, 28], [29]), ([29], [30]), ([1], [31]), ([5], [32]), ([31, 32], [33]), ([33], [34]), ([30, 34], [35])] [[], [], [0, 1], [2], [], [], [4, 5], [6], [3, 7]] [⟨some 27, (.move (.tmp 0)), 30, none⟩,
          ⟨some 28, (.move (.tmp 5)), 3, none⟩,
          ⟨some 29, (.indexAddr 30 (.tmp 27) (.tmp 28)), 0, none⟩,
          ⟨some 30, (.load 3 (.tmp 29)), 3, none⟩,
          ⟨some 31, (.move (.tmp 1)), 30, none⟩,
          ⟨some 32, (.move (.tmp 5)), 3, none⟩,
          ⟨some 33, (.indexAddr 30 (.tmp 31) (.tmp 32)), 0, none⟩,
          ⟨some 34, (.load 3 (.tmp 33)), 3, none⟩,
          ⟨some 35, (.binOp .gtr 3 (.tmp 30) (.tmp 34) 3), 4, none⟩])
        (.cond (.tmp 35)
          (.seq (.rgn [] [⟨some 4, (.assign (.const (.int .i64 1))), 3, none⟩])
          .ret)
          .skip))))
      (.rgn [] [⟨some 16, (.move (.tmp 5)), 3, none⟩,
        ⟨some 17, (.binOp .add 3 (.tmp 16) (.const (.int .i64 1)) 3), 3, none⟩,
        ⟨some 5, (.assign (.tmp 17)), 3, none⟩]))))))
  (.seq (.seq (.rgn [] [⟨some 36, (.move (.tmp 0)), 30, none⟩,
    ⟨some 37, (.call { callee := (.builtin .len), args := #[(.tmp 36)], argTypes := #[30] }), 3, none⟩,
    ⟨some 38, (.move (.tmp 1)), 30, none⟩,
    ⟨some 39, (.call { callee := (.builtin .len), args := #[(.tmp 38)], argTypes := #[30] }), 3, none⟩,
    ⟨some 40, (.binOp .lss 3 (.tmp 37) (.tmp 39) 3), 4, none⟩])
  (.cond (.tmp 40)
    (.seq (.rgn [] [⟨some 4, (.assign (.const (.int .i64 (-1)))), 3, none⟩])
    .ret)
    .skip))
  (.seq (.seq (.rgn [] [⟨some 41, (.move (.tmp 0)), 30, none⟩,
    ⟨some 42, (.call { callee := (.builtin .len), args := #[(.tmp 41)], argTypes := #[30] }), 3, none⟩,
    ⟨some 43, (.move (.tmp 1)), 30, none⟩,
    ⟨some 44, (.call { callee := (.builtin .len), args := #[(.tmp 43)], argTypes := #[30] }), 3, none⟩,
    ⟨some 45, (.binOp .gtr 3 (.tmp 42) (.tmp 44) 3), 4, none⟩])
  (.cond (.tmp 45)
    (.seq (.rgn [] [⟨some 4, (.assign (.const (.int .i64 1))), 3, none⟩])
    .ret)
    .skip))
  (.seq (.rgn [] [⟨some 4, (.assign (.const (.int .i64 0))), 3, none⟩])
  .ret)))))
theorem lit117 : Lit Try.prog 117 46 [] [.tmp 4] c117 := ⟨⟨Try.f117, _, Try.func117, rfl, by kernel_rfl, rfl, rfl, by kernel_rfl, by kernel_rfl⟩, by decide, by kernel_rfl⟩
/-- spec.IsValidDatabase -/
def c120 : LC :=
  (.seq (.rgn [] [⟨some 1, (.box 100 (.tmp 0)), 0, none⟩,
    ⟨some 2, (.assign (.const (.bool false))), 4, none⟩])
  (.seq (.seq (.rgn [] [⟨some 3, (.assign (.const (.int .i64 0))), 3, none⟩])
  (.blk 0
    (.loop [4]
      (.seq (.seq (.rgn [] [⟨some 5, (.move (.tmp 3)), 3, none⟩,
        ⟨some 6, (.fieldAddr 100 (.tmp 1) 0), 0, none⟩,
        ⟨some 7, (.load 98 (.tmp 6)), 98, none⟩,
        ⟨some 8, (.call { callee := (.builtin .len), args := #[(.tmp 7)], argTypes := #[98] }), 3, none⟩,
        ⟨some 9, (.binOp .lss 3 (.tmp 5) (.tmp 8) 3), 4, none⟩])
      (.cond (.tmp 9)
        .skip
        (.exit 0)))
      (.seq (.blk 1
        (.seq (.rgn [16] [⟨some 12, (.fieldAddr 100 (.tmp 1) 0), 0, none⟩,
          ⟨some 13, (.load 98 (.tmp 12)), 98, none⟩,
          ⟨some 14, (.move (.tmp 3)), 3, none⟩,
          ⟨some 15, (.indexAddr 98 (.tmp 13) (.tmp 14)), 0, none⟩,
          ⟨some 16, (.load 157 (.tmp 15)), 157, none⟩,
          ⟨some 4, (.alloc 157), 0, none⟩,
          ⟨none, (.store 157 (.tmp 4) (.tmp 16)), 0, none⟩])
        (.seq (.drw [] [([4], [17]), ([4, 17], [18]), ([18], [19]), ([19], [20]), ([20], [21]), ([3, 21], [22]), ([21, 22], [23]), ([21, 23], [24]), ([1, 24], [25]), ([1, 24, 25], [26]), ([3, 24], [27]), ([24, 27], [28]), ([24, 26, 28], [29]), ([24, 29], [30]), ([24, 30], [31]), ([4, 24], [32]), ([4, 24, 32], [33]), ([24, 31, 33], [34]), ([21, 24, 34], [35]), ([21, 35], [36]), ([36], [37]), ([4, 37], [38]), ([4, 37, 38], [39]), ([37, 39], [40]), ([37, 40], [41]), ([37, 41], [42]), ([42], [43]), ([4, 43], [44]), ([4, 43, 44], [45]), ([4, 43, 45], [46]), ([43, 46], [47]), ([43, 47], [48]), ([43, 48], [49]), ([49], [50]), ([4, 50], [51]), ([4, 50, 51], [52]), ([4, 50, 52], [53]), ([50, 53], [54]), ([50, 54], [55])] [[], [0], [1], [2], [3, 2], [4], [5, 4], [6, 4, 4], [7], [8, 7], [7], [10, 7], [9, 11, 7], [12, 7], [13, 7], [7], [15, 7], [14, 16, 7], [7, 17, 4], [4, 18], [19, 7], [20], [21, 20], [22, 20, 20], [23, 20], [20, 24], [25, 23], [26], [27, 26], [28, 26], [29, 26], [30, 26], [26, 31], [32, 26], [33], [34, 33], [35, 33], [36, 33], [33, 37]] [⟨some 17, (.fieldAddr 157 (.tmp 4) 0), 0, none⟩,
          ⟨some 18, (.load 9 (.tmp 17)), 9, none⟩,
          ⟨some 19, (.call { callee := (.value (.func 158)), args := #[(.tmp 18)], argTypes := #[9] }), 4, none⟩,
          ⟨some 20, (.unOp .not 4 (.tmp 19)), 4, none⟩,
          ⟨some 21, (.move (.tmp 20)), 4, none⟩,
          ⟨some 22, (.move (.tmp 3)), 3, some (some 21, false)⟩,
          ⟨some 23, (.binOp .gtr 3 (.tmp 22) (.const (.int .i64 0)) 3), 4, some (some 21, false)⟩,
          ⟨some 24, (.move (.tmp 23)), 4, some (some 21, false)⟩,
          ⟨some 25, (.fieldAddr 100 (.tmp 1) 0), 0, some (some 24, true)⟩,
          ⟨some 26, (.load 98 (.tmp 25)), 98, some (some 24, true)⟩,
          ⟨some 27, (.move (.tmp 3)), 3, some (some 24, true)⟩,
          ⟨some 28, (.binOp .sub 3 (.tmp 27) (.const (.int .i64 1)) 3), 3, some (some 24, true)⟩,
          ⟨some 29, (.indexAddr 98 (.tmp 26) (.tmp 28)), 0, some (some 24, true)⟩,
          ⟨some 30, (.fieldAddr 157 (.tmp 29) 0), 0, some (some 24, true)⟩,
          ⟨some 31, (.load 9 (.tmp 30)), 9, some (some 24, true)⟩,
          ⟨some 32, (.fieldAddr 157 (.tmp 4) 0), 0, some (some 24, true)⟩,
          ⟨some 33, (.load 9 (.tmp 32)), 9, some (some 24, true)⟩,
          ⟨some 34, (.binOp .geq 9 (.tmp 31) (.tmp 33) 9), 4, some (some 24, true)⟩,
          ⟨some 35, (.pick (.tmp 24) (.tmp 34) (.const (.bool false))), 4, some (some 21, false)⟩,
          ⟨some 36, (.pick (.tmp 21) (.const (.bool true)) (.tmp 35)), 4, none⟩,
          ⟨some 37, (.move (.tmp 36)), 4, none⟩,
          ⟨some 38, (.fieldAddr 157 (.tmp 4) 1), 0, some (some 37, false)⟩,
          ⟨some 39, (.load 24 (.tmp 38)), 24, some (some 37, false)⟩,
          ⟨some 40, (.call { callee := (.value (.func 39)), args := #[(.tmp 39)], argTypes := #[24] }), 4, some (some 37, false)⟩,
          ⟨some 41, (.unOp .not 4 (.tmp 40)), 4, some (some 37, false)⟩,
          ⟨some 42, (.pick (.tmp 37) (.const (.bool true)) (.tmp 41)), 4, none⟩,
          ⟨some 43, (.move (.tmp 42)), 4, none⟩,
          ⟨some 44, (.fieldAddr 157 (.tmp 4) 1), 0, some (some 43, false)⟩,
          ⟨some 45, (.fieldAddr 24 (.tmp 44) 1), 0, some (some 43, false)⟩,
          ⟨some 46, (.load 22 (.tmp 45)), 22, some (some 43, false)⟩,
          ⟨some 47, (.call { callee := (.builtin .len), args := #[(.tmp 46)], argTypes := #[22] }), 3, some (some 43, false)⟩,
          ⟨some 48, (.binOp .gtr 3 (.tmp 47) (.const (.int .i64 16)) 3), 4, some (some 43, false)⟩,
          ⟨some 49, (.pick (.tmp 43) (.const (.bool true)) (.tmp 48)), 4, none⟩,
          ⟨some 50, (.move (.tmp 49)), 4, none⟩,
          ⟨some 51, (.fieldAddr 157 (.tmp 4) 1), 0, some (some 50, false)⟩,
          ⟨some 52, (.fieldAddr 24 (.tmp 51) 0), 0, some (some 50, false)⟩,
          ⟨some 53, (.load 3 (.tmp 52)), 3, some (some 50, false)⟩,
          ⟨some 54, (.binOp .lss 3 (.tmp 53) (.const (.int .i64 1)) 3), 4, some (some 50, false)⟩,
          ⟨some 55, (.pick (.tmp 50) (.const (.bool true)) (.tmp 54)), 4, none⟩])
        (.cond (.tmp 55)
          (.seq (.rgn [] [⟨some 2, (.assign (.const (.bool false))), 4, none⟩])
          .ret)
          .skip))))
      (.rgn [] [⟨some 10, (.move (.tmp 3)), 3, none⟩,
        ⟨some 11, (.binOp .add 3 (.tmp 10) (.const (.int .i64 1)) 3), 3, none⟩,
        ⟨some 3, (.assign (.tmp 11)), 3, none⟩]))))))
  (.seq (.rgn [] [⟨some 56, (.fieldAddr 100 (.tmp 1) 0), 0, none⟩,
    ⟨some 57, (.load 98 (.tmp 56)), 98, none⟩,
    ⟨some 58, (.call { callee := (.builtin .len), args := #[(.tmp 57)], argTypes := #[98] }), 3, none⟩,
    ⟨some 59, (.binOp .leq 3 (.tmp 58) (.const (.int .i64 6)) 3), 4, none⟩,
    ⟨some 2, (.assign (.tmp 59)), 4, none⟩])
  .ret)))
theorem lit120 : Lit Try.prog 120 60 [1, 4] [.tmp 2] c120 := ⟨⟨Try.f120, _, Try.func120, rfl, by kernel_rfl, rfl, rfl, by kernel_rfl, by kernel_rfl⟩, by decide, by kernel_rfl⟩
/-- impl.IsValidDatabase -/
def c122 : LC :=
  (.seq (.rgn [] [⟨some 1, (.box 100 (.tmp 0)), 0, none⟩,
    ⟨some 2, (.assign (.const (.bool false))), 4, none⟩])
  (.seq (.seq (.rgn [] [⟨some 5, (.fieldAddr 100 (.tmp 1) 0), 0, none⟩,
    ⟨some 6, (.load 98 (.tmp 5)), 98, none⟩,
    ⟨some 7, (.call { callee := (.builtin .len), args := #[(.tmp 6)], argTypes := #[98] }), 3, none⟩,
    ⟨some 8, (.binOp .gtr 3 (.tmp 7) (.const (.int .i64 6)) 3), 4, none⟩])
  (.cond (.tmp 8)
    (.seq (.rgn [] [⟨some 2, (.assign (.const (.bool false))), 4, none⟩])
    .ret)
    .skip))
  (.seq (.seq (.rgn [] [⟨some 9, (.fieldAddr 100 (.tmp 1) 0), 0, none⟩,
    ⟨some 10, (.load 98 (.tmp 9)), 98, none⟩,
    ⟨some 11, (.call { callee := (.builtin .len), args := #[(.tmp 10)], argTypes := #[98] }), 3, none⟩,
    ⟨some 12, (.move (.const (.int .i64 0))), 3, none⟩])
  (.blk 0
    (.loop [4]
      (.seq (.rgn [] [⟨some 13, (.binOp .lss 3 (.tmp 12) (.tmp 11) 3), 0, none⟩])
      (.seq (.cond (.tmp 13)
        .skip
        (.exit 0))
      (.seq (.blk 1
        (.seq (.rgn [16] [⟨some 14, (.move (.tmp 12)), 3, none⟩,
          ⟨some 15, (.indexAddr 98 (.tmp 10) (.tmp 12)), 0, none⟩,
          ⟨some 16, (.load 157 (.tmp 15)), 157, none⟩,
          ⟨some 4, (.alloc 157), 0, none⟩,
          ⟨some 3, (.assign (.tmp 14)), 3, none⟩,
          ⟨none, (.store 157 (.tmp 4) (.tmp 16)), 0, none⟩])
        (.seq (.drw [] [([4], [17]), ([4, 17], [18]), ([18], [19]), ([19], [20]), ([20], [21]), ([3, 21], [22]), ([21, 22], [23]), ([21, 23], [24]), ([1, 24], [25]), ([1, 24, 25], [26]), ([3, 24], [27]), ([24, 27], [28]), ([24, 26, 28], [29]), ([24, 29], [30]), ([24, 30], [31]), ([4, 24], [32]), ([4, 24, 32], [33]), ([24, 31, 33], [34]), ([21, 24, 34], [35]), ([21, 35], [36]), ([36], [37]), ([4, 37], [38]), ([4, 37, 38], [39]), ([37, 39], [40]), ([37, 40], [41]), ([37, 41], [42]), ([42], [43]), ([4, 43], [44]), ([4, 43, 44], [45]), ([4, 43, 45], [46]), ([43, 46], [47]), ([43, 47], [48]), ([48], [49]), ([4, 49], [50]), ([4, 49, 50], [51]), ([4, 49, 51], [52]), ([49, 52], [53]), ([49, 53], [54]), ([49, 54], [55])] [[], [0], [1], [2], [3, 2], [4], [5, 4], [6, 4, 4], [7], [8, 7], [7], [10, 7], [9, 11, 7], [12, 7], [13, 7], [7], [15, 7], [14, 16, 7], [7, 17, 4], [4, 18], [19, 7], [20], [21, 20], [22, 20, 20], [23, 20], [20, 24], [25, 23], [26], [27, 26], [28, 26], [29, 26], [26, 30], [31, 26], [32], [33, 32], [34, 32], [35, 32], [36, 32], [32, 37]] [⟨some 17, (.fieldAddr 157 (.tmp 4) 0), 0, none⟩,
          ⟨some 18, (.load 9 (.tmp 17)), 9, none⟩,
          ⟨some 19, (.call { callee := (.value (.func 159)), args := #[(.tmp 18)], argTypes := #[9] }), 4, none⟩,
          ⟨some 20, (.unOp .not 4 (.tmp 19)), 4, none⟩,
          ⟨some 21, (.move (.tmp 20)), 4, none⟩,
          ⟨some 22, (.move (.tmp 3)), 3, some (some 21, false)⟩,
          ⟨some 23, (.binOp .gtr 3 (.tmp 22) (.const (.int .i64 0)) 3), 4, some (some 21, false)⟩,
          ⟨some 24, (.move (.tmp 23)), 4, some (some 21, false)⟩,
          ⟨some 25, (.fieldAddr 100 (.tmp 1) 0), 0, some (some 24, true)⟩,
          ⟨some 26, (.load 98 (.tmp 25)), 98, some (some 24, true)⟩,
          ⟨some 27, (.move (.tmp 3)), 3, some (some 24, true)⟩,
          ⟨some 28, (.binOp .sub 3 (.tmp 27) (.const (.int .i64 1)) 3), 3, some (some 24, true)⟩,
          ⟨some 29, (.indexAddr 98 (.tmp 26) (.tmp 28)), 0, some (some 24, true)⟩,
          ⟨some 30, (.fieldAddr 157 (.tmp 29) 0), 0, some (some 24, true)⟩,
          ⟨some 31, (.load 9 (.tmp 30)), 9, some (some 24, true)⟩,
          ⟨some 32, (.fieldAddr 157 (.tmp 4) 0), 0, some (some 24, true)⟩,
          ⟨some 33, (.load 9 (.tmp 32)), 9, some (some 24, true)⟩,
          ⟨some 34, (.binOp .geq 9 (.tmp 31) (.tmp 33) 9), 4, some (some 24, true)⟩,
          ⟨some 35, (.pick (.tmp 24) (.tmp 34) (.const (.bool false))), 4, some (some 21, false)⟩,
          ⟨some 36, (.pick (.tmp 21) (.const (.bool true)) (.tmp 35)), 4, none⟩,
          ⟨some 37, (.move (.tmp 36)), 4, none⟩,
          ⟨some 38, (.fieldAddr 157 (.tmp 4) 1), 0, some (some 37, false)⟩,
          ⟨some 39, (.load 24 (.tmp 38)), 24, some (some 37, false)⟩,
          ⟨some 40, (.call { callee := (.value (.func 103)), args := #[(.tmp 39)], argTypes := #[24] }), 4, some (some 37, false)⟩,
          ⟨some 41, (.unOp .not 4 (.tmp 40)), 4, some (some 37, false)⟩,
          ⟨some 42, (.pick (.tmp 37) (.const (.bool true)) (.tmp 41)), 4, none⟩,
          ⟨some 43, (.move (.tmp 42)), 4, none⟩,
          ⟨some 44, (.fieldAddr 157 (.tmp 4) 1), 0, some (some 43, false)⟩,
          ⟨some 45, (.fieldAddr 24 (.tmp 44) 0), 0, some (some 43, false)⟩,
          ⟨some 46, (.load 3 (.tmp 45)), 3, some (some 43, false)⟩,
          ⟨some 47, (.binOp .lss 3 (.tmp 46) (.const (.int .i64 1)) 3), 4, some (some 43, false)⟩,
          ⟨some 48, (.pick (.tmp 43) (.const (.bool true)) (.tmp 47)), 4, none⟩,
          ⟨some 49, (.move (.tmp 48)), 4, none⟩,
          ⟨some 50, (.fieldAddr 157 (.tmp 4) 1), 0, some (some 49, false)⟩,
          ⟨some 51, (.fieldAddr 24 (.tmp 50) 1), 0, some (some 49, false)⟩,
          ⟨some 52, (.load 22 (.tmp 51)), 22, some (some 49, false)⟩,
          ⟨some 53, (.call { callee := (.builtin .len), args := #[(.tmp 52)], argTypes := #[22] }), 3, some (some 49, false)⟩,
          ⟨some 54, (.binOp .gtr 3 (.tmp 53) (.const (.int .i64 16)) 3), 4, some (some 49, false)⟩,
          ⟨some 55, (.pick (.tmp 49) (.const (.bool true)) (.tmp 54)), 4, none⟩])
        (.cond (.tmp 55)
          (.seq (.rgn [] [⟨some 2, (.assign (.const (.bool false))), 4, none⟩])
          .ret)
          .skip))))
      (.rgn [] [⟨some 56, (.binOp .add 3 (.tmp 12) (.const (.int .i64 1)) 3), 3, none⟩,
        ⟨some 12, (.move (.tmp 56)), 3, none⟩])))))))
  (.seq (.rgn [] [⟨some 2, (.assign (.const (.bool true))), 4, none⟩])
  .ret))))
theorem lit122 : Lit Try.prog 122 57 [1, 4] [.tmp 2] c122 := ⟨⟨Try.f122, _, Try.func122, rfl, by kernel_rfl, rfl, rfl, by kernel_rfl, by kernel_rfl⟩, by decide, by kernel_rfl⟩
/-- laws.szTableS -/
def c127 : LC :=
  (.seq (.rgn [] [⟨some 4, (.assign (.const (.int .i64 0))), 3, none⟩])
  (.seq (.rgn [] [⟨some 6, (.move (.tmp 1)), 3, none⟩,
    ⟨some 7, (.move (.tmp 0)), 93, none⟩,
    ⟨some 8, (.call { callee := (.builtin .len), args := #[(.tmp 7)], argTypes := #[93] }), 3, none⟩,
    ⟨some 9, (.binOp .sub 3 (.tmp 6) (.tmp 8) 3), 3, none⟩,
    ⟨some 1, (.assign (.tmp 9)), 3, none⟩])
  (.seq (.seq (.rgn [] [⟨some 10, (.move (.tmp 1)), 3, none⟩,
    ⟨some 11, (.binOp .lss 3 (.tmp 10) (.const (.int .i64 0)) 3), 4, none⟩])
  (.cond (.tmp 11)
    (.seq (.rgn [] [⟨some 4, (.assign (.const (.int .i64 (-1)))), 3, none⟩])
    .ret)
    .skip))
  (.seq (.seq (.rgn [] [⟨some 5, (.assign (.const (.int .i64 0))), 3, none⟩])
  (.blk 0
    (.loop []
      (.seq (.seq (.rgn [] [⟨some 12, (.move (.tmp 5)), 3, none⟩,
        ⟨some 13, (.move (.tmp 0)), 93, none⟩,
        ⟨some 14, (.call { callee := (.builtin .len), args := #[(.tmp 13)], argTypes := #[93] }), 3, none⟩,
        ⟨some 15, (.binOp .lss 3 (.tmp 12) (.tmp 14) 3), 4, none⟩])
      (.cond (.tmp 15)
        .skip
        (.exit 0)))
      (.seq (.blk 1
        (.seq (.rgn [] [⟨some 18, (.move (.tmp 0)), 93, none⟩,
          ⟨some 19, (.move (.tmp 5)), 3, none⟩,
          ⟨some 20, (.indexAddr 93 (.tmp 18) (.tmp 19)), 0, none⟩,
          ⟨some 21, (.load 187 (.tmp 20)), 187, none⟩,
          ⟨some 22, (.move (.tmp 1)), 3, none⟩,
          ⟨some 23, (.call { callee := (.value (.func 162)), args := #[(.tmp 21), (.tmp 22)], argTypes := #[187, 3] }), 3, none⟩,
          ⟨some 1, (.assign (.tmp 23)), 3, none⟩])
        (.seq (.rgn [] [⟨some 24, (.move (.tmp 1)), 3, none⟩,
          ⟨some 25, (.binOp .lss 3 (.tmp 24) (.const (.int .i64 0)) 3), 4, none⟩])
        (.cond (.tmp 25)
          (.seq (.rgn [] [⟨some 4, (.assign (.const (.int .i64 (-1)))), 3, none⟩])
          .ret)
          .skip))))
      (.rgn [] [⟨some 16, (.move (.tmp 5)), 3, none⟩,
        ⟨some 17, (.binOp .add 3 (.tmp 16) (.const (.int .i64 1)) 3), 3, none⟩,
        ⟨some 5, (.assign (.tmp 17)), 3, none⟩]))))))
  (.seq (.rgn [] [⟨some 26, (.move (.tmp 1)), 3, none⟩,
    ⟨some 4, (.assign (.tmp 26)), 3, none⟩])
  .ret)))))
theorem lit127 : Lit Try.prog 127 27 [] [.tmp 4] c127 := ⟨⟨Try.f127, _, Try.func127, rfl, by kernel_rfl, rfl, rfl, by kernel_rfl, by kernel_rfl⟩, by decide, by kernel_rfl⟩
/-- laws.toTableS -/
def c128 : LC :=
  (.seq (.rgn [] [⟨some 2, (.assign (.const (.slice none 0 0))), 98, none⟩])
  (.seq (.rgn [3, 7] [⟨some 5, (.move (.tmp 0)), 93, none⟩,
    ⟨some 6, (.call { callee := (.builtin .len), args := #[(.tmp 5)], argTypes := #[93] }), 3, none⟩,
    ⟨some 7, (.makeSlice 98 (.tmp 6) (.tmp 6)), 98, none⟩,
    ⟨some 3, (.assign (.tmp 7)), 98, none⟩])
  (.seq (.seq (.rgn [] [⟨some 4, (.assign (.const (.int .i64 0))), 3, none⟩])
  (.blk 0
    (.loop []
      (.seq (.seq (.rgn [] [⟨some 8, (.move (.tmp 4)), 3, none⟩,
        ⟨some 9, (.move (.tmp 0)), 93, none⟩,
        ⟨some 10, (.call { callee := (.builtin .len), args := #[(.tmp 9)], argTypes := #[93] }), 3, none⟩,
        ⟨some 11, (.binOp .lss 3 (.tmp 8) (.tmp 10) 3), 4, none⟩])
      (.cond (.tmp 11)
        .skip
        (.exit 0)))
      (.seq (.blk 1
        (.rgn [] [⟨some 14, (.move (.tmp 3)), 98, none⟩,
          ⟨some 15, (.move (.tmp 4)), 3, none⟩,
          ⟨some 16, (.move (.tmp 0)), 93, none⟩,
          ⟨some 17, (.move (.tmp 4)), 3, none⟩,
          ⟨some 18, (.indexAddr 93 (.tmp 16) (.tmp 17)), 0, none⟩,
          ⟨some 19, (.load 187 (.tmp 18)), 187, none⟩,
          ⟨some 20, (.call { callee := (.value (.func 163)), args := #[(.tmp 19)], argTypes := #[187] }), 157, none⟩,
          ⟨some 21, (.indexAddr 98 (.tmp 14) (.tmp 15)), 0, none⟩,
          ⟨none, (.store 157 (.tmp 21) (.tmp 20)), 0, none⟩]))
      (.rgn [] [⟨some 12, (.move (.tmp 4)), 3, none⟩,
        ⟨some 13, (.binOp .add 3 (.tmp 12) (.const (.int .i64 1)) 3), 3, none⟩,
        ⟨some 4, (.assign (.tmp 13)), 3, none⟩]))))))
  (.seq (.rgn [22] [⟨some 22, (.move (.tmp 3)), 98, none⟩,
    ⟨some 2, (.assign (.tmp 22)), 98, none⟩])
  .ret))))
theorem lit128 : Lit Try.prog 128 23 [3, 7] [.tmp 2] c128 := ⟨⟨Try.f128, _, Try.func128, rfl, by kernel_rfl, rfl, rfl, by kernel_rfl, by kernel_rfl⟩, by decide, by kernel_rfl⟩
/-- laws.eqTableS -/
def c130 : LC :=
  (.seq (.rgn [] [⟨some 4, (.assign (.const (.bool false))), 4, none⟩])
  (.seq (.seq (.rgn [] [⟨some 6, (.move (.tmp 0)), 98, none⟩,
    ⟨some 7, (.call { callee := (.builtin .len), args := #[(.tmp 6)], argTypes := #[98] }), 3, none⟩,
    ⟨some 8, (.move (.tmp 1)), 98, none⟩,
    ⟨some 9, (.call { callee := (.builtin .len), args := #[(.tmp 8)], argTypes := #[98] }), 3, none⟩,
    ⟨some 10, (.binOp .neq 3 (.tmp 7) (.tmp 9) 3), 4, none⟩])
  (.cond (.tmp 10)
    (.seq (.rgn [] [⟨some 4, (.assign (.const (.bool false))), 4, none⟩])
    .ret)
    .skip))
  (.seq (.seq (.rgn [] [⟨some 5, (.assign (.const (.int .i64 0))), 3, none⟩])
  (.blk 0
    (.loop []
      (.seq (.seq (.rgn [] [⟨some 11, (.move (.tmp 5)), 3, none⟩,
        ⟨some 12, (.move (.tmp 0)), 98, none⟩,
        ⟨some 13, (.call { callee := (.builtin .len), args := #[(.tmp 12)], argTypes := #[98] }), 3, none⟩,
        ⟨some 14, (.binOp .lss 3 (.tmp 11) (.tmp 13) 3), 4, none⟩])
      (.cond (.tmp 14)
        .skip
        (.exit 0)))
      (.seq (.blk 1
        (.seq (.drw [] [([0], [17]), ([5], [18]), ([17, 18], [19]), ([19], [20]), ([1], [21]), ([5], [22]), ([21, 22], [23]), ([23], [24]), ([20, 24], [25]), ([25], [26])] [[], [], [0, 1], [2], [], [], [4, 5], [6], [3, 7], [8]] [⟨some 17, (.move (.tmp 0)), 98, none⟩,
          ⟨some 18, (.move (.tmp 5)), 3, none⟩,
          ⟨some 19, (.indexAddr 98 (.tmp 17) (.tmp 18)), 0, none⟩,
          ⟨some 20, (.load 157 (.tmp 19)), 157, none⟩,
          ⟨some 21, (.move (.tmp 1)), 98, none⟩,
          ⟨some 22, (.move (.tmp 5)), 3, none⟩,
          ⟨some 23, (.indexAddr 98 (.tmp 21) (.tmp 22)), 0, none⟩,
          ⟨some 24, (.load 157 (.tmp 23)), 157, none⟩,
          ⟨some 25, (.call { callee := (.value (.func 165)), args := #[(.tmp 20), (.tmp 24)], argTypes := #[157, 157] }), 4, none⟩,
          ⟨some 26, (.unOp .not 4 (.tmp 25)), 4, none⟩])
        (.cond (.tmp 26)
          (.seq (.rgn [] [⟨some 4, (.assign (.const (.bool false))), 4, none⟩])
          .ret)
          .skip)))
      (.rgn [] [⟨some 15, (.move (.tmp 5)), 3, none⟩,
        ⟨some 16, (.binOp .add 3 (.tmp 15) (.const (.int .i64 1)) 3), 3, none⟩,
        ⟨some 5, (.assign (.tmp 16)), 3, none⟩]))))))
  (.seq (.rgn [] [⟨some 4, (.assign (.const (.bool true))), 4, none⟩])
  .ret))))
theorem lit130 : Lit Try.prog 130 27 [] [.tmp 4] c130 := ⟨⟨Try.f130, _, Try.func130, rfl, by kernel_rfl, rfl, rfl, by kernel_rfl, by kernel_rfl⟩, by decide, by kernel_rfl⟩
/-- impl.unite -/
def c131 : LC :=
  (.seq (.rgn [] [⟨some 4, (.assign (.const (.slice none 0 0))), 30, none⟩])
  (.seq (.rgn [] [⟨some 9, (.move (.tmp 0)), 30, none⟩,
    ⟨some 10, (.call { callee := (.value (.func 105)), args := #[(.tmp 9)], argTypes := #[30] }), 30, none⟩,
    ⟨some 5, (.assign (.tmp 10)), 30, none⟩])
  (.seq (.seq (.rgn [] [⟨some 11, (.move (.tmp 1)), 30, none⟩,
    ⟨some 12, (.call { callee := (.builtin .len), args := #[(.tmp 11)], argTypes := #[30] }), 3, none⟩,
    ⟨some 13, (.move (.const (.int .i64 0))), 3, none⟩])
  (.blk 0
    (.loop []
      (.seq (.rgn [] [⟨some 14, (.binOp .lss 3 (.tmp 13) (.tmp 12) 3), 0, none⟩])
      (.seq (.cond (.tmp 14)
        .skip
        (.exit 0))
      (.seq (.blk 1
        (.seq (.rgn [] [⟨some 15, (.indexAddr 30 (.tmp 11) (.tmp 13)), 0, none⟩,
          ⟨some 16, (.load 3 (.tmp 15)), 3, none⟩,
          ⟨some 7, (.assign (.tmp 16)), 3, none⟩])
        (.seq (.rgn [] [⟨some 8, (.assign (.const (.int .i64 0))), 3, none⟩])
        (.seq (.blk 2
          (.loop []
            (.seq (.seq (.rgn [] [⟨some 17, (.move (.tmp 8)), 3, none⟩,
              ⟨some 18, (.move (.tmp 5)), 30, none⟩,
              ⟨some 19, (.call { callee := (.builtin .len), args := #[(.tmp 18)], argTypes := #[30] }), 3, none⟩,
              ⟨some 20, (.binOp .lss 3 (.tmp 17) (.tmp 19) 3), 4, none⟩,
              ⟨some 21, (.move (.tmp 20)), 4, none⟩,
              ⟨some 22, (.move (.tmp 5)), 30, some (some 21, true)⟩,
              ⟨some 23, (.move (.tmp 8)), 3, some (some 21, true)⟩,
              ⟨some 24, (.indexAddr 30 (.tmp 22) (.tmp 23)), 0, some (some 21, true)⟩,
              ⟨some 25, (.load 3 (.tmp 24)), 3, some (some 21, true)⟩,
              ⟨some 26, (.move (.tmp 7)), 3, some (some 21, true)⟩,
              ⟨some 27, (.binOp .lss 3 (.tmp 25) (.tmp 26) 3), 4, some (some 21, true)⟩,
              ⟨some 28, (.pick (.tmp 21) (.tmp 27) (.const (.bool false))), 4, none⟩])
            (.cond (.tmp 28)
              .skip
              (.exit 2)))
            (.blk 3
              (.rgn [] [⟨some 29, (.move (.tmp 8)), 3, none⟩,
                ⟨some 30, (.binOp .add 3 (.tmp 29) (.const (.int .i64 1)) 3), 3, none⟩,
                ⟨some 8, (.assign (.tmp 30)), 3, none⟩])))))
        (.seq (.rgn [] [⟨some 31, (.move (.tmp 8)), 3, none⟩,
          ⟨some 32, (.move (.tmp 5)), 30, none⟩,
          ⟨some 33, (.call { callee := (.builtin .len), args := #[(.tmp 32)], argTypes := #[30] }), 3, none⟩,
          ⟨some 34, (.binOp .eql 3 (.tmp 31) (.tmp 33) 3), 4, none⟩,
          ⟨some 35, (.move (.tmp 34)), 4, none⟩,
          ⟨some 36, (.move (.tmp 5)), 30, some (some 35, false)⟩,
          ⟨some 37, (.move (.tmp 8)), 3, some (some 35, false)⟩,
          ⟨some 38, (.indexAddr 30 (.tmp 36) (.tmp 37)), 0, some (some 35, false)⟩,
          ⟨some 39, (.load 3 (.tmp 38)), 3, some (some 35, false)⟩,
          ⟨some 40, (.move (.tmp 7)), 3, some (some 35, false)⟩,
          ⟨some 41, (.binOp .neq 3 (.tmp 39) (.tmp 40) 3), 4, some (some 35, false)⟩,
          ⟨some 42, (.pick (.tmp 35) (.const (.bool true)) (.tmp 41)), 4, none⟩])
        (.cond (.tmp 42)
          (.drw [] [([5], [43]), ([8], [44]), ([43, 44], [45]), ([45], [46]), ([7], [47]), ([47], [47, 48]), ([46, 48], [46, 48, 49]), ([5], [50]), ([8], [51]), ([50, 51], [52]), ([49, 52], [49, 52, 53]), ([53], [5, 53])] [[], [], [0, 1], [2], [], [4], [3, 5, 3], [], [], [7, 8], [6, 9, 6], [10, 10, 0, 1, 2, 3, 4, 5, 6, 7, 8, 9, 10]] [⟨some 43, (.move (.tmp 5)), 30, none⟩,
            ⟨some 44, (.move (.tmp 8)), 3, none⟩,
            ⟨some 45, (.slice 30 (.tmp 43) none (some (.tmp 44)) none), 30, none⟩,
            ⟨some 46, (.call { callee := (.value (.func 105)), args := #[(.tmp 45)], argTypes := #[30] }), 30, none⟩,
            ⟨some 47, (.move (.tmp 7)), 3, none⟩,
            ⟨some 48, (.buildSlice 30 1 #[(0, (.tmp 47))]), 30, none⟩,
            ⟨some 49, (.call { callee := (.builtin .append), args := #[(.tmp 46), (.tmp 48)], argTypes := #[30, 30] }), 30, none⟩,
            ⟨some 50, (.move (.tmp 5)), 30, none⟩,
            ⟨some 51, (.move (.tmp 8)), 3, none⟩,
            ⟨some 52, (.slice 30 (.tmp 50) (some (.tmp 51)) none none), 30, none⟩,
            ⟨some 53, (.call { callee := (.builtin .append), args := #[(.tmp 49), (.tmp 52)], argTypes := #[30, 30] }), 30, none⟩,
            ⟨some 5, (.assign (.tmp 53)), 30, none⟩])
          .skip))))))
      (.rgn [] [⟨some 54, (.binOp .add 3 (.tmp 13) (.const (.int .i64 1)) 3), 3, none⟩,
        ⟨some 13, (.move (.tmp 54)), 3, none⟩])))))))
  (.seq (.rgn [55] [⟨some 55, (.move (.tmp 5)), 30, none⟩,
    ⟨some 4, (.assign (.tmp 55)), 30, none⟩])
  .ret))))
theorem lit131 : Lit Try.prog 131 56 [] [.tmp 4] c131 := ⟨⟨Try.f131, _, Try.func131, rfl, by kernel_rfl, rfl, rfl, by kernel_rfl, by kernel_rfl⟩, by decide, by kernel_rfl⟩
/-- laws.markTableS -/
def c132 : LC :=
  (.seq (.rgn [] [⟨some 4, (.assign (.const (.int .i64 0))), 3, none⟩])
  (.seq (.seq (.rgn [] [⟨some 5, (.assign (.const (.int .i64 0))), 3, none⟩])
  (.blk 0
    (.loop []
      (.seq (.seq (.rgn [] [⟨some 6, (.move (.tmp 5)), 3, none⟩,
        ⟨some 7, (.move (.tmp 0)), 98, none⟩,
        ⟨some 8, (.call { callee := (.builtin .len), args := #[(.tmp 7)], argTypes := #[98] }), 3, none⟩,
        ⟨some 9, (.binOp .lss 3 (.tmp 6) (.tmp 8) 3), 4, none⟩])
      (.cond (.tmp 9)
        .skip
        (.exit 0)))
      (.seq (.blk 1
        (.seq (.rgn [] [⟨some 12, (.move (.tmp 0)), 98, none⟩,
          ⟨some 13, (.move (.tmp 5)), 3, none⟩,
          ⟨some 14, (.move (.tmp 1)), 3, none⟩,
          ⟨some 15, (.call { callee := (.value (.func 138)), args := #[(.tmp 14)], argTypes := #[3] }), 9, none⟩,
          ⟨some 16, (.indexAddr 98 (.tmp 12) (.tmp 13)), 0, none⟩,
          ⟨some 17, (.fieldAddr 157 (.tmp 16) 0), 0, none⟩,
          ⟨none, (.store 9 (.tmp 17) (.tmp 15)), 0, none⟩])
        (.seq (.rgn [] [⟨some 18, (.move (.tmp 1)), 3, none⟩,
          ⟨some 19, (.binOp .add 3 (.tmp 18) (.const (.int .i64 1)) 3), 3, none⟩,
          ⟨some 1, (.assign (.tmp 19)), 3, none⟩])
        (.seq (.rgn [] [⟨some 20, (.move (.tmp 0)), 98, none⟩,
          ⟨some 21, (.move (.tmp 5)), 3, none⟩,
          ⟨some 22, (.move (.tmp 1)), 3, none⟩,
          ⟨some 23, (.indexAddr 98 (.tmp 20) (.tmp 21)), 0, none⟩,
          ⟨some 24, (.fieldAddr 157 (.tmp 23) 1), 0, none⟩,
          ⟨some 25, (.fieldAddr 24 (.tmp 24) 0), 0, none⟩,
          ⟨none, (.store 3 (.tmp 25) (.tmp 22)), 0, none⟩])
        (.seq (.rgn [] [⟨some 26, (.move (.tmp 1)), 3, none⟩,
          ⟨some 27, (.binOp .add 3 (.tmp 26) (.const (.int .i64 1)) 3), 3, none⟩,
          ⟨some 1, (.assign (.tmp 27)), 3, none⟩])
        (.rgn [] [⟨some 28, (.move (.tmp 0)), 98, none⟩,
          ⟨some 29, (.move (.tmp 5)), 3, none⟩,
          ⟨some 30, (.indexAddr 98 (.tmp 28) (.tmp 29)), 0, none⟩,
          ⟨some 31, (.fieldAddr 157 (.tmp 30) 1), 0, none⟩,
          ⟨some 32, (.fieldAddr 24 (.tmp 31) 1), 0, none⟩,
          ⟨some 33, (.load 22 (.tmp 32)), 22, none⟩,
          ⟨some 34, (.move (.tmp 1)), 3, none⟩,
          ⟨some 35, (.call { callee := (.value (.func 85)), args := #[(.tmp 33), (.tmp 34)], argTypes := #[22, 3] }), 3, none⟩,
          ⟨some 1, (.assign (.tmp 35)), 3, none⟩]))))))
      (.rgn [] [⟨some 10, (.move (.tmp 5)), 3, none⟩,
        ⟨some 11, (.binOp .add 3 (.tmp 10) (.const (.int .i64 1)) 3), 3, none⟩,
        ⟨some 5, (.assign (.tmp 11)), 3, none⟩]))))))
  (.seq (.rgn [] [⟨some 36, (.move (.tmp 1)), 3, none⟩,
    ⟨some 4, (.assign (.tmp 36)), 3, none⟩])
  .ret)))
theorem lit132 : Lit Try.prog 132 37 [] [.tmp 4] c132 := ⟨⟨Try.f132, _, Try.func132, rfl, by kernel_rfl, rfl, rfl, by kernel_rfl, by kernel_rfl⟩, by decide, by kernel_rfl⟩
/-- laws.markText -/
def c138 : LC :=
  (.seq (.rgn [] [⟨some 2, (.assign (.const (.string { data := #[] }))), 9, none⟩])
  (.seq (.seq (.rgn [] [⟨some 4, (.move (.tmp 0)), 3, none⟩,
    ⟨some 5, (.binOp .leq 3 (.tmp 4) (.const (.int .i64 0)) 3), 4, none⟩])
  (.cond (.tmp 5)
    (.seq (.rgn [] [⟨some 2, (.assign (.const (.string { data := #[109, 48] }))), 9, none⟩])
    .ret)
    .skip))
  (.seq (.rgn [] [⟨some 3, (.assign (.const (.string { data := #[] }))), 9, none⟩])
  (.seq (.blk 0
    (.loop []
      (.seq (.seq (.rgn [] [⟨some 6, (.move (.tmp 0)), 3, none⟩,
        ⟨some 7, (.binOp .gtr 3 (.tmp 6) (.const (.int .i64 0)) 3), 4, none⟩])
      (.cond (.tmp 7)
        .skip
        (.exit 0)))
      (.blk 1
        (.seq (.rgn [] [⟨some 8, (.move (.tmp 0)), 3, none⟩,
          ⟨some 9, (.binOp .rem 3 (.tmp 8) (.const (.int .i64 10)) 3), 3, none⟩,
          ⟨some 10, (.binOp .add 3 (.const (.int .i64 48)) (.tmp 9) 3), 3, none⟩,
          ⟨some 11, (.convert 3 5 (.tmp 10)), 5, none⟩,
          ⟨some 12, (.buildSlice 62 1 #[(0, (.tmp 11))]), 62, none⟩,
          ⟨some 13, (.convert 62 9 (.tmp 12)), 9, none⟩,
          ⟨some 14, (.move (.tmp 3)), 9, none⟩,
          ⟨some 15, (.binOp .add 9 (.tmp 13) (.tmp 14) 9), 9, none⟩,
          ⟨some 3, (.assign (.tmp 15)), 9, none⟩])
        (.rgn [] [⟨some 16, (.move (.tmp 0)), 3, none⟩,
          ⟨some 17, (.binOp .quo 3 (.tmp 16) (.const (.int .i64 10)) 3), 3, none⟩,
          ⟨some 0, (.assign (.tmp 17)), 3, none⟩]))))))
  (.seq (.rgn [] [⟨some 18, (.move (.tmp 3)), 9, none⟩,
    ⟨some 19, (.binOp .add 9 (.const (.string { data := #[109] })) (.tmp 18) 9), 9, none⟩,
    ⟨some 2, (.assign (.tmp 19)), 9, none⟩])
  .ret)))))
theorem lit138 : Lit Try.prog 138 20 [] [.tmp 2] c138 := ⟨⟨Try.f138, _, Try.func138, rfl, by kernel_rfl, rfl, rfl, by kernel_rfl, by kernel_rfl⟩, by decide, by kernel_rfl⟩
/-- impl.AreValidValues -/
def c140 : LC :=
  (.seq (.rgn [] [⟨some 2, (.assign (.const (.bool false))), 4, none⟩])
  (.seq (.seq (.rgn [] [⟨some 5, (.move (.tmp 0)), 30, none⟩,
    ⟨some 6, (.call { callee := (.builtin .len), args := #[(.tmp 5)], argTypes := #[30] }), 3, none⟩,
    ⟨some 7, (.move (.const (.int .i64 0))), 3, none⟩])
  (.blk 0
    (.loop []
      (.seq (.rgn [] [⟨some 8, (.binOp .lss 3 (.tmp 7) (.tmp 6) 3), 0, none⟩])
      (.seq (.cond (.tmp 8)
        .skip
        (.exit 0))
      (.seq (.blk 1
        (.seq (.rgn [] [⟨some 9, (.indexAddr 30 (.tmp 5) (.tmp 7)), 0, none⟩,
          ⟨some 10, (.load 3 (.tmp 9)), 3, none⟩,
          ⟨some 4, (.assign (.tmp 10)), 3, none⟩])
        (.seq (.rgn [] [⟨some 11, (.move (.tmp 4)), 3, none⟩,
          ⟨some 12, (.call { callee := (.value (.func 82)), args := #[(.tmp 11), (.const (.int .i64 0)), (.const (.int .i64 99))], argTypes := #[3, 3, 3] }), 4, none⟩,
          ⟨some 13, (.unOp .not 4 (.tmp 12)), 4, none⟩])
        (.cond (.tmp 13)
          (.seq (.rgn [] [⟨some 2, (.assign (.const (.bool false))), 4, none⟩])
          .ret)
          .skip))))
      (.rgn [] [⟨some 14, (.binOp .add 3 (.tmp 7) (.const (.int .i64 1)) 3), 3, none⟩,
        ⟨some 7, (.move (.tmp 14)), 3, none⟩])))))))
  (.seq (.rgn [] [⟨some 2, (.assign (.const (.bool true))), 4, none⟩])
  .ret)))
theorem lit140 : Lit Try.prog 140 15 [] [.tmp 2] c140 := ⟨⟨Try.f140, _, Try.func140, rfl, by kernel_rfl, rfl, rfl, by kernel_rfl, by kernel_rfl⟩, by decide, by kernel_rfl⟩
/-- impl.rowsValid -/
def c149 : LC :=
  (.seq (.rgn [] [⟨some 4, (.assign (.const (.bool false))), 4, none⟩])
  (.seq (.seq (.rgn [] [⟨some 7, (.move (.tmp 0)), 3, none⟩,
    ⟨some 8, (.call { callee := (.value (.func 82)), args := #[(.tmp 7), (.const (.int .i64 0)), (.const (.int .i64 5))], argTypes := #[3, 3, 3] }), 4, none⟩,
    ⟨some 9, (.unOp .not 4 (.tmp 8)), 4, none⟩,
    ⟨some 10, (.move (.tmp 9)), 4, none⟩,
    ⟨some 11, (.move (.tmp 1)), 22, some (some 10, false)⟩,
    ⟨some 12, (.call { callee := (.builtin .len), args := #[(.tmp 11)], argTypes := #[22] }), 3, some (some 10, false)⟩,
    ⟨some 13, (.binOp .gtr 3 (.tmp 12) (.const (.int .i64 4000)) 3), 4, some (some 10, false)⟩,
    ⟨some 14, (.pick (.tmp 10) (.const (.bool true)) (.tmp 13)), 4, none⟩])
  (.cond (.tmp 14)
    (.seq (.rgn [] [⟨some 4, (.assign (.const (.bool false))), 4, none⟩])
    .ret)
    .skip))
  (.seq (.seq (.rgn [] [⟨some 15, (.move (.tmp 1)), 22, none⟩,
    ⟨some 16, (.call { callee := (.builtin .len), args := #[(.tmp 15)], argTypes := #[22] }), 3, none⟩,
    ⟨some 17, (.move (.const (.int .i64 0))), 3, none⟩])
  (.blk 0
    (.loop []
      (.seq (.rgn [] [⟨some 18, (.binOp .lss 3 (.tmp 17) (.tmp 16) 3), 0, none⟩])
      (.seq (.cond (.tmp 18)
        .skip
        (.exit 0))
      (.seq (.blk 1
        (.seq (.rgn [21] [⟨some 19, (.move (.tmp 17)), 3, none⟩,
          ⟨some 20, (.indexAddr 22 (.tmp 15) (.tmp 17)), 0, none⟩,
          ⟨some 21, (.load 30 (.tmp 20)), 30, none⟩,
          ⟨some 5, (.assign (.tmp 19)), 3, none⟩,
          ⟨some 6, (.assign (.tmp 21)), 30, none⟩])
        (.seq (.rgn [] [⟨some 22, (.move (.tmp 6)), 30, none⟩,
          ⟨some 23, (.call { callee := (.builtin .len), args := #[(.tmp 22)], argTypes := #[30] }), 3, none⟩,
          ⟨some 24, (.move (.tmp 0)), 3, none⟩,
          ⟨some 25, (.binOp .neq 3 (.tmp 23) (.tmp 24) 3), 4, none⟩,
          ⟨some 26, (.move (.tmp 25)), 4, none⟩,
          ⟨some 27, (.move (.tmp 6)), 30, some (some 26, false)⟩,
          ⟨some 28, (.call { callee := (.value (.func 140)), args := #[(.tmp 27)], argTypes := #[30] }), 4, some (some 26, false)⟩,
          ⟨some 29, (.unOp .not 4 (.tmp 28)), 4, some (some 26, false)⟩,
          ⟨some 30, (.pick (.tmp 26) (.const (.bool true)) (.tmp 29)), 4, none⟩,
          ⟨some 31, (.move (.tmp 30)), 4, none⟩,
          ⟨some 32, (.move (.tmp 5)), 3, some (some 31, false)⟩,
          ⟨some 33, (.binOp .gtr 3 (.tmp 32) (.const (.int .i64 0)) 3), 4, some (some 31, false)⟩,
          ⟨some 34, (.move (.tmp 33)), 4, some (some 31, false)⟩,
          ⟨some 35, (.move (.tmp 1)), 22, some (some 34, true)⟩,
          ⟨some 36, (.move (.tmp 5)), 3, some (some 34, true)⟩,
          ⟨some 37, (.binOp .sub 3 (.tmp 36) (.const (.int .i64 1)) 3), 3, some (some 34, true)⟩,
          ⟨some 38, (.indexAddr 22 (.tmp 35) (.tmp 37)), 0, some (some 34, true)⟩,
          ⟨some 39, (.load 30 (.tmp 38)), 30, some (some 34, true)⟩,
          ⟨some 40, (.move (.tmp 6)), 30, some (some 34, true)⟩,
          ⟨some 41, (.call { callee := (.value (.func 168)), args := #[(.tmp 39), (.tmp 40)], argTypes := #[30, 30] }), 3, some (some 34, true)⟩,
          ⟨some 42, (.binOp .geq 3 (.tmp 41) (.const (.int .i64 0)) 3), 4, some (some 34, true)⟩,
          ⟨some 43, (.pick (.tmp 34) (.tmp 42) (.const (.bool false))), 4, some (some 31, false)⟩,
          ⟨some 44, (.pick (.tmp 31) (.const (.bool true)) (.tmp 43)), 4, none⟩])
        (.cond (.tmp 44)
          (.seq (.rgn [] [⟨some 4, (.assign (.const (.bool false))), 4, none⟩])
          .ret)
          .skip))))
      (.rgn [] [⟨some 45, (.binOp .add 3 (.tmp 17) (.const (.int .i64 1)) 3), 3, none⟩,
        ⟨some 17, (.move (.tmp 45)), 3, none⟩])))))))
  (.seq (.rgn [] [⟨some 4, (.assign (.const (.bool true))), 4, none⟩])
  .ret))))
theorem lit149 : Lit Try.prog 149 46 [] [.tmp 4] c149 := ⟨⟨Try.f149, _, Try.func149, rfl, by kernel_rfl, rfl, rfl, by kernel_rfl, by kernel_rfl⟩, by decide, by kernel_rfl⟩
/-- spec.IsValidName -/
def c158 : LC :=
  (.seq (.rgn [] [⟨some 2, (.assign (.const (.bool false))), 4, none⟩])
  (.seq (.seq (.rgn [] [⟨some 3, (.assign (.const (.int .i64 0))), 3, none⟩])
  (.blk 0
    (.loop []
      (.seq (.seq (.rgn [] [⟨some 4, (.move (.tmp 3)), 3, none⟩,
        ⟨some 5, (.move (.tmp 0)), 9, none⟩,
        ⟨some 6, (.call { callee := (.builtin .len), args := #[(.tmp 5)], argTypes := #[9] }), 3, none⟩,
        ⟨some 7, (.binOp .lss 3 (.tmp 4) (.tmp 6) 3), 4, none⟩])
      (.cond (.tmp 7)
        .skip
        (.exit 0)))
      (.seq (.blk 1
        (.seq (.rgn [] [⟨some 10, (.move (.tmp 0)), 9, none⟩,
          ⟨some 11, (.move (.tmp 3)), 3, none⟩,
          ⟨some 12, (.index 9 (.tmp 10) (.tmp 11)), 5, none⟩,
          ⟨some 13, (.binOp .lss 5 (.tmp 12) (.const (.int .u8 97)) 5), 4, none⟩,
          ⟨some 14, (.move (.tmp 13)), 4, none⟩,
          ⟨some 15, (.move (.tmp 0)), 9, some (some 14, false)⟩,
          ⟨some 16, (.move (.tmp 3)), 3, some (some 14, false)⟩,
          ⟨some 17, (.index 9 (.tmp 15) (.tmp 16)), 5, some (some 14, false)⟩,
          ⟨some 18, (.binOp .gtr 5 (.tmp 17) (.const (.int .u8 122)) 5), 4, some (some 14, false)⟩,
          ⟨some 19, (.pick (.tmp 14) (.const (.bool true)) (.tmp 18)), 4, none⟩])
        (.cond (.tmp 19)
          (.seq (.rgn [] [⟨some 2, (.assign (.const (.bool false))), 4, none⟩])
          .ret)
          .skip)))
      (.rgn [] [⟨some 8, (.move (.tmp 3)), 3, none⟩,
        ⟨some 9, (.binOp .add 3 (.tmp 8) (.const (.int .i64 1)) 3), 3, none⟩,
        ⟨some 3, (.assign (.tmp 9)), 3, none⟩]))))))
  (.seq (.rgn [] [⟨some 20, (.move (.tmp 0)), 9, none⟩,
    ⟨some 21, (.call { callee := (.builtin .len), args := #[(.tmp 20)], argTypes := #[9] }), 3, none⟩,
    ⟨some 22, (.call { callee := (.value (.func 80)), args := #[(.tmp 21), (.const (.int .i64 1)), (.const (.int .i64 4))], argTypes := #[3, 3, 3] }), 4, none⟩,
    ⟨some 2, (.assign (.tmp 22)), 4, none⟩])
  .ret)))
theorem lit158 : Lit Try.prog 158 23 [] [.tmp 2] c158 := ⟨⟨Try.f158, _, Try.func158, rfl, by kernel_rfl, rfl, rfl, by kernel_rfl, by kernel_rfl⟩, by decide, by kernel_rfl⟩
/-- impl.IsValidName -/
def c159 : LC :=
  (.seq (.rgn [] [⟨some 2, (.assign (.const (.bool false))), 4, none⟩])
  (.seq (.rgn [] [⟨some 3, (.move (.tmp 0)), 9, none⟩,
    ⟨some 4, (.call { callee := (.value (.func 171)), args := #[(.tmp 3), (.const (.int .i64 4))], argTypes := #[9, 3] }), 4, none⟩,
    ⟨some 2, (.assign (.tmp 4)), 4, none⟩])
  .ret))
theorem lit159 : Lit Try.prog 159 5 [] [.tmp 2] c159 := ⟨⟨Try.f159, _, Try.func159, rfl, by kernel_rfl, rfl, rfl, by kernel_rfl, by kernel_rfl⟩, by decide, by kernel_rfl⟩
/-- laws.szTable -/
def c162 : LC :=
  (.seq (.rgn [] [⟨some 2, (.box 187 (.tmp 0)), 0, none⟩,
    ⟨some 4, (.assign (.const (.int .i64 0))), 3, none⟩])
  (.seq (.rgn [] [⟨some 5, (.move (.tmp 1)), 3, none⟩,
    ⟨some 6, (.fieldAddr 187 (.tmp 2) 0), 0, none⟩,
    ⟨some 7, (.load 9 (.tmp 6)), 9, none⟩,
    ⟨some 8, (.call { callee := (.builtin .len), args := #[(.tmp 7)], argTypes := #[9] }), 3, none⟩,
    ⟨some 9, (.binOp .sub 3 (.tmp 5) (.tmp 8) 3), 3, none⟩,
    ⟨some 1, (.assign (.tmp 9)), 3, none⟩])
  (.seq (.seq (.rgn [] [⟨some 10, (.move (.tmp 1)), 3, none⟩,
    ⟨some 11, (.binOp .lss 3 (.tmp 10) (.const (.int .i64 0)) 3), 4, none⟩])
  (.cond (.tmp 11)
    (.seq (.rgn [] [⟨some 4, (.assign (.const (.int .i64 (-1)))), 3, none⟩])
    .ret)
    .skip))
  (.seq (.rgn [] [⟨some 12, (.fieldAddr 187 (.tmp 2) 1), 0, none⟩,
    ⟨some 13, (.load 42 (.tmp 12)), 42, none⟩,
    ⟨some 14, (.move (.tmp 1)), 3, none⟩,
    ⟨some 15, (.call { callee := (.value (.func 25)), args := #[(.tmp 13), (.tmp 14)], argTypes := #[42, 3] }), 3, none⟩,
    ⟨some 1, (.assign (.tmp 15)), 3, none⟩])
  (.seq (.seq (.rgn [] [⟨some 16, (.move (.tmp 1)), 3, none⟩,
    ⟨some 17, (.binOp .lss 3 (.tmp 16) (.const (.int .i64 0)) 3), 4, none⟩])
  (.cond (.tmp 17)
    (.seq (.rgn [] [⟨some 4, (.assign (.const (.int .i64 (-1)))), 3, none⟩])
    .ret)
    .skip))
  (.seq (.rgn [] [⟨some 18, (.move (.tmp 1)), 3, none⟩,
    ⟨some 4, (.assign (.tmp 18)), 3, none⟩])
  .ret))))))
theorem lit162 : Lit Try.prog 162 19 [2] [.tmp 4] c162 := ⟨⟨Try.f162, _, Try.func162, rfl, by kernel_rfl, rfl, rfl, by kernel_rfl, by kernel_rfl⟩, by decide, by kernel_rfl⟩
/-- laws.toTable -/
def c163 : LC :=
  (.seq (.rgn [] [⟨some 1, (.box 187 (.tmp 0)), 0, none⟩,
    ⟨some 2, (.alloc 157), 0, none⟩])
  (.seq (.rgn [] [⟨some 3, (.alloc 157), 0, none⟩])
  (.seq (.rgn [] [⟨some 4, (.fieldAddr 187 (.tmp 1) 0), 0, none⟩,
    ⟨some 5, (.load 9 (.tmp 4)), 9, none⟩,
    ⟨some 6, (.fieldAddr 157 (.tmp 3) 0), 0, none⟩,
    ⟨none, (.store 9 (.tmp 6) (.tmp 5)), 0, none⟩])
  (.seq (.rgn [] [⟨some 7, (.fieldAddr 187 (.tmp 1) 1), 0, none⟩,
    ⟨some 8, (.load 42 (.tmp 7)), 42, none⟩,
    ⟨some 9, (.call { callee := (.value (.func 27)), args := #[(.tmp 8)], argTypes := #[42] }), 24, none⟩,
    ⟨some 10, (.fieldAddr 157 (.tmp 3) 1), 0, none⟩,
    ⟨none, (.store 24 (.tmp 10) (.tmp 9)), 0, none⟩])
  (.seq (.rgn [11] [⟨some 11, (.load 157 (.tmp 3)), 157, none⟩,
    ⟨none, (.store 157 (.tmp 2) (.tmp 11)), 0, none⟩])
  .ret)))))
theorem lit163 : Lit Try.prog 163 12 [1, 2, 3] [.cell 2 157] c163 := ⟨⟨Try.f163, _, Try.func163, rfl, by kernel_rfl, rfl, rfl, by kernel_rfl, by kernel_rfl⟩, by decide, by kernel_rfl⟩
/-- laws.eqTable -/
def c165 : LC :=
  (.seq (.rgn [] [⟨some 2, (.box 157 (.tmp 0)), 0, none⟩,
    ⟨some 3, (.box 157 (.tmp 1)), 0, none⟩,
    ⟨some 4, (.assign (.const (.bool false))), 4, none⟩])
  (.seq (.seq (.rgn [] [⟨some 5, (.fieldAddr 157 (.tmp 2) 0), 0, none⟩,
    ⟨some 6, (.load 9 (.tmp 5)), 9, none⟩,
    ⟨some 7, (.fieldAddr 157 (.tmp 3) 0), 0, none⟩,
    ⟨some 8, (.load 9 (.tmp 7)), 9, none⟩,
    ⟨some 9, (.binOp .neq 9 (.tmp 6) (.tmp 8) 9), 4, none⟩])
  (.cond (.tmp 9)
    (.seq (.rgn [] [⟨some 4, (.assign (.const (.bool false))), 4, none⟩])
    .ret)
    .skip))
  (.seq (.seq (.rgn [] [⟨some 10, (.fieldAddr 157 (.tmp 2) 1), 0, none⟩,
    ⟨some 11, (.load 24 (.tmp 10)), 24, none⟩,
    ⟨some 12, (.fieldAddr 157 (.tmp 3) 1), 0, none⟩,
    ⟨some 13, (.load 24 (.tmp 12)), 24, none⟩,
    ⟨some 14, (.call { callee := (.value (.func 17)), args := #[(.tmp 11), (.tmp 13)], argTypes := #[24, 24] }), 4, none⟩,
    ⟨some 15, (.unOp .not 4 (.tmp 14)), 4, none⟩])
  (.cond (.tmp 15)
    (.seq (.rgn [] [⟨some 4, (.assign (.const (.bool false))), 4, none⟩])
    .ret)
    .skip))
  (.seq (.rgn [] [⟨some 4, (.assign (.const (.bool true))), 4, none⟩])
  .ret))))
theorem lit165 : Lit Try.prog 165 16 [2, 3] [.tmp 4] c165 := ⟨⟨Try.f165, _, Try.func165, rfl, by kernel_rfl, rfl, rfl, by kernel_rfl, by kernel_rfl⟩, by decide, by kernel_rfl⟩
/-- impl.CompareRows -/
def c168 : LC :=
  (.seq (.rgn [] [⟨some 4, (.assign (.const (.int .i64 0))), 3, none⟩])
  (.seq (.seq (.rgn [] [⟨some 5, (.assign (.const (.int .i64 0))), 3, none⟩])
  (.blk 0
    (.loop []
      (.seq (.seq (.rgn [] [⟨some 6, (.move (.tmp 5)), 3, none⟩,
        ⟨some 7, (.move (.tmp 0)), 30, none⟩,
        ⟨some 8, (.call { callee := (.builtin .len), args := #[(.tmp 7)], argTypes := #[30] }), 3, none⟩,
        ⟨some 9, (.binOp .lss 3 (.tmp 6) (.tmp 8) 3), 4, none⟩,
        ⟨some 10, (.move (.tmp 9)), 4, none⟩,
        ⟨some 11, (.move (.tmp 5)), 3, some (some 10, true)⟩,
        ⟨some 12, (.move (.tmp 1)), 30, some (some 10, true)⟩,
        ⟨some 13, (.call { callee := (.builtin .len), args := #[(.tmp 12)], argTypes := #[30] }), 3, some (some 10, true)⟩,
        ⟨some 14, (.binOp .lss 3 (.tmp 11) (.tmp 13) 3), 4, some (some 10, true)⟩,
        ⟨some 15, (.pick (.tmp 10) (.tmp 14) (.const (.bool false))), 4, none⟩])
      (.cond (.tmp 15)
        .skip
        (.exit 0)))
      (.seq (.blk 1
        (.seq (.drw [] [([0], [18]), ([5], [19]), ([18, 19], [20]), ([20], [21]), ([1], [22]), ([5], [23]), ([22, 23], [24]), ([24], [25]), ([21, 25], [26])] [[], [], [0, 1], [2], [], [], [4, 5], [6], [3, 7]] [⟨some 18, (.move (.tmp 0)), 30, none⟩,
          ⟨some 19, (.move (.tmp 5)), 3, none⟩,
          ⟨some 20, (.indexAddr 30 (.tmp 18) (.tmp 19)), 0, none⟩,
          ⟨some 21, (.load 3 (.tmp 20)), 3, none⟩,
          ⟨some 22, (.move (.tmp 1)), 30, none⟩,
          ⟨some 23, (.move (.tmp 5)), 3, none⟩,
          ⟨some 24, (.indexAddr 30 (.tmp 22) (.tmp 23)), 0, none⟩,
          ⟨some 25, (.load 3 (.tmp 24)), 3, none⟩,
          ⟨some 26, (.binOp .neq 3 (.tmp 21) (.tmp 25) 3), 4, none⟩])
        (.cond (.tmp 26)
          (.seq (.drw [] [([0], [27]), ([5], [28]), ([27, 28], [29]), ([29], [30]), ([1], [31]), ([5], [32]), ([31, 32], [33]), ([33], [34]), ([30, 34], [35]), ([35], [4, 35])] [[], [], [0, 1], [2], [], [], [4, 5], [6], [3, 7], [8, 8, 0, 1, 2, 3, 4, 5, 6, 7, 8]] [⟨some 27, (.move (.tmp 0)), 30, none⟩,
            ⟨some 28, (.move (.tmp 5)), 3, none⟩,
            ⟨some 29, (.indexAddr 30 (.tmp 27) (.tmp 28)), 0, none⟩,
            ⟨some 30, (.load 3 (.tmp 29)), 3, none⟩,
            ⟨some 31, (.move (.tmp 1)), 30, none⟩,
            ⟨some 32, (.move (.tmp 5)), 3, none⟩,
            ⟨some 33, (.indexAddr 30 (.tmp 31) (.tmp 32)), 0, none⟩,
            ⟨some 34, (.load 3 (.tmp 33)), 3, none⟩,
            ⟨some 35, (.call { callee := (.value (.func 175)), args := #[(.tmp 30), (.tmp 34)], argTypes := #[3, 3] }), 3, none⟩,
            ⟨some 4, (.assign (.tmp 35)), 3, none⟩])
          .ret)
          .skip)))
      (.rgn [] [⟨some 16, (.move (.tmp 5)), 3, none⟩,
        ⟨some 17, (.binOp .add 3 (.tmp 16) (.const (.int .i64 1)) 3), 3, none⟩,
        ⟨some 5, (.assign (.tmp 17)), 3, none⟩]))))))
  (.seq (.rgn [] [⟨some 36, (.move (.tmp 0)), 30, none⟩,
    ⟨some 37, (.call { callee := (.builtin .len), args := #[(.tmp 36)], argTypes := #[30] }), 3, none⟩,
    ⟨some 38, (.move (.tmp 1)), 30, none⟩,
    ⟨some 39, (.call { callee := (.builtin .len), args := #[(.tmp 38)], argTypes := #[30] }), 3, none⟩,
    ⟨some 40, (.call { callee := (.value (.func 175)), args := #[(.tmp 37), (.tmp 39)], argTypes := #[3, 3] }), 3, none⟩,
    ⟨some 4, (.assign (.tmp 40)), 3, none⟩])
  .ret)))
theorem lit168 : Lit Try.prog 168 41 [] [.tmp 4] c168 := ⟨⟨Try.f168, _, Try.func168, rfl, by kernel_rfl, rfl, rfl, by kernel_rfl, by kernel_rfl⟩, by decide, by kernel_rfl⟩
/-- impl.isLetters -/
def c171 : LC :=
  (.seq (.rgn [] [⟨some 4, (.assign (.const (.bool false))), 4, none⟩])
  (.seq (.seq (.rgn [] [⟨some 6, (.move (.tmp 0)), 9, none⟩,
    ⟨some 7, (.call { callee := (.builtin .len), args := #[(.tmp 6)], argTypes := #[9] }), 3, none⟩,
    ⟨some 8, (.binOp .lss 3 (.tmp 7) (.const (.int .i64 1)) 3), 4, none⟩,
    ⟨some 9, (.move (.tmp 8)), 4, none⟩,
    ⟨some 10, (.move (.tmp 0)), 9, some (some 9, false)⟩,
    ⟨some 11, (.call { callee := (.builtin .len), args := #[(.tmp 10)], argTypes := #[9] }), 3, some (some 9, false)⟩,
    ⟨some 12, (.move (.tmp 1)), 3, some (some 9, false)⟩,
    ⟨some 13, (.binOp .gtr 3 (.tmp 11) (.tmp 12) 3), 4, some (some 9, false)⟩,
    ⟨some 14, (.pick (.tmp 9) (.const (.bool true)) (.tmp 13)), 4, none⟩])
  (.cond (.tmp 14)
    (.seq (.rgn [] [⟨some 4, (.assign (.const (.bool false))), 4, none⟩])
    .ret)
    .skip))
  (.seq (.seq (.rgn [] [⟨some 5, (.assign (.const (.int .i64 0))), 3, none⟩])
  (.blk 0
    (.loop []
      (.seq (.seq (.rgn [] [⟨some 15, (.move (.tmp 5)), 3, none⟩,
        ⟨some 16, (.move (.tmp 0)), 9, none⟩,
        ⟨some 17, (.call { callee := (.builtin .len), args := #[(.tmp 16)], argTypes := #[9] }), 3, none⟩,
        ⟨some 18, (.binOp .lss 3 (.tmp 15) (.tmp 17) 3), 4, none⟩])
      (.cond (.tmp 18)
        .skip
        (.exit 0)))
      (.seq (.blk 1
        (.seq (.rgn [] [⟨some 21, (.move (.tmp 0)), 9, none⟩,
          ⟨some 22, (.move (.tmp 5)), 3, none⟩,
          ⟨some 23, (.index 9 (.tmp 21) (.tmp 22)), 5, none⟩,
          ⟨some 24, (.binOp .lss 5 (.tmp 23) (.const (.int .u8 97)) 5), 4, none⟩,
          ⟨some 25, (.move (.tmp 24)), 4, none⟩,
          ⟨some 26, (.move (.tmp 0)), 9, some (some 25, false)⟩,
          ⟨some 27, (.move (.tmp 5)), 3, some (some 25, false)⟩,
          ⟨some 28, (.index 9 (.tmp 26) (.tmp 27)), 5, some (some 25, false)⟩,
          ⟨some 29, (.binOp .gtr 5 (.tmp 28) (.const (.int .u8 122)) 5), 4, some (some 25, false)⟩,
          ⟨some 30, (.pick (.tmp 25) (.const (.bool true)) (.tmp 29)), 4, none⟩])
        (.cond (.tmp 30)
          (.seq (.rgn [] [⟨some 4, (.assign (.const (.bool false))), 4, none⟩])
          .ret)
          .skip)))
      (.rgn [] [⟨some 19, (.move (.tmp 5)), 3, none⟩,
        ⟨some 20, (.binOp .add 3 (.tmp 19) (.const (.int .i64 1)) 3), 3, none⟩,
        ⟨some 5, (.assign (.tmp 20)), 3, none⟩]))))))
  (.seq (.rgn [] [⟨some 4, (.assign (.const (.bool true))), 4, none⟩])
  .ret))))
theorem lit171 : Lit Try.prog 171 31 [] [.tmp 4] c171 := ⟨⟨Try.f171, _, Try.func171, rfl, by kernel_rfl, rfl, rfl, by kernel_rfl, by kernel_rfl⟩, by decide, by kernel_rfl⟩
/-- impl.compareInts -/
def c175 : LC :=
  (.seq (.rgn [] [⟨some 4, (.assign (.const (.int .i64 0))), 3, none⟩])
  (.seq (.blk 0
    (.seq (.rgn [] [⟨some 6, (.move (.tmp 0)), 3, none⟩,
      ⟨some 7, (.move (.tmp 1)), 3, none⟩,
      ⟨some 8, (.binOp .lss 3 (.tmp 6) (.tmp 7) 3), 4, none⟩,
      ⟨some 5, (.assign (.tmp 8)), 4, none⟩])
    (.cond (.tmp 5)
      (.seq (.rgn [] [⟨some 4, (.assign (.const (.int .i64 (-1)))), 3, none⟩])
      .ret)
      (.seq (.rgn [] [⟨some 10, (.move (.tmp 0)), 3, none⟩,
        ⟨some 11, (.move (.tmp 1)), 3, none⟩,
        ⟨some 12, (.binOp .gtr 3 (.tmp 10) (.tmp 11) 3), 4, none⟩,
        ⟨some 9, (.assign (.tmp 12)), 4, none⟩])
      (.cond (.tmp 9)
        (.seq (.rgn [] [⟨some 4, (.assign (.const (.int .i64 1))), 3, none⟩])
        .ret)
        .skip)))))
  (.seq (.rgn [] [⟨some 4, (.assign (.const (.int .i64 0))), 3, none⟩])
  .ret)))
theorem lit175 : Lit Try.prog 175 13 [] [.tmp 4] c175 := ⟨⟨Try.f175, _, Try.func175, rfl, by kernel_rfl, rfl, rfl, by kernel_rfl, by kernel_rfl⟩, by decide, by kernel_rfl⟩
end Go.Proofs.Ytkmkbpphdalgoaa
