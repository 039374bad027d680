/-
  The functions' code as the program holds it, without places and edges; printed by genlit.py. No conditions.
-/
import Derived.Test.YtkcfahfladikkaaTb
namespace Go.Proofs.Ytkcfahfladikkaa
open Go.RowKit
set_option linter.unusedVariables false
set_option maxRecDepth 100000
/-- laws.szDatabase -/
def c13 : LC :=
  (.seq (.rgn [] [⟨some 2, (.box 24 (.tmp 0)), 0, none⟩,
    ⟨some 4, (.assign (.const (.int .i64 0))), 3, none⟩])
  (.seq (.rgn [] [⟨some 5, (.fieldAddr 24 (.tmp 2) 0), 0, none⟩,
    ⟨some 6, (.load 22 (.tmp 5)), 22, none⟩,
    ⟨some 7, (.move (.tmp 1)), 3, none⟩,
    ⟨some 8, (.call { callee := (.value (.func 71)), args := #[(.tmp 6), (.tmp 7)], argTypes := #[22, 3] }), 3, none⟩,
    ⟨some 1, (.assign (.tmp 8)), 3, none⟩])
  (.seq (.seq (.rgn [] [⟨some 9, (.move (.tmp 1)), 3, none⟩,
    ⟨some 10, (.binOp .lss 3 (.tmp 9) (.const (.int .i64 0)) 3), 4, none⟩])
  (.cond (.tmp 10)
    (.seq (.rgn [] [⟨some 4, (.assign (.const (.int .i64 (-1)))), 3, none⟩])
    .ret)
    .skip))
  (.seq (.rgn [] [⟨some 11, (.move (.tmp 1)), 3, none⟩,
    ⟨some 4, (.assign (.tmp 11)), 3, none⟩])
  .ret))))
theorem lit13 : Lit Try.prog 13 12 [2] [.tmp 4] c13 := ⟨⟨Try.f13, _, Try.func13, rfl, by kernel_rfl, rfl, rfl, by kernel_rfl, by kernel_rfl⟩, by decide, by kernel_rfl⟩
/-- laws.toDatabase -/
def c16 : LC :=
  (.seq (.rgn [] [⟨some 1, (.box 24 (.tmp 0)), 0, none⟩,
    ⟨some 2, (.alloc 33), 0, none⟩])
  (.seq (.rgn [] [⟨some 3, (.alloc 33), 0, none⟩])
  (.seq (.rgn [] [⟨some 4, (.fieldAddr 24 (.tmp 1) 0), 0, none⟩,
    ⟨some 5, (.load 22 (.tmp 4)), 22, none⟩,
    ⟨some 6, (.call { callee := (.value (.func 77)), args := #[(.tmp 5)], argTypes := #[22] }), 31, none⟩,
    ⟨some 7, (.fieldAddr 33 (.tmp 3) 0), 0, none⟩,
    ⟨none, (.store 31 (.tmp 7) (.tmp 6)), 0, none⟩])
  (.seq (.rgn [8] [⟨some 8, (.load 33 (.tmp 3)), 33, none⟩,
    ⟨none, (.store 33 (.tmp 2) (.tmp 8)), 0, none⟩])
  .ret))))
theorem lit16 : Lit Try.prog 16 9 [1, 2, 3] [.cell 2 33] c16 := ⟨⟨Try.f16, _, Try.func16, rfl, by kernel_rfl, rfl, rfl, by kernel_rfl, by kernel_rfl⟩, by decide, by kernel_rfl⟩
/-- laws.eqIntS -/
def c19 : LC :=
  (.seq (.rgn [] [⟨some 4, (.assign (.const (.bool false))), 4, none⟩])
  (.seq (.seq (.rgn [] [⟨some 6, (.move (.tmp 0)), 25, none⟩,
    ⟨some 7, (.call { callee := (.builtin .len), args := #[(.tmp 6)], argTypes := #[25] }), 3, none⟩,
    ⟨some 8, (.move (.tmp 1)), 25, none⟩,
    ⟨some 9, (.call { callee := (.builtin .len), args := #[(.tmp 8)], argTypes := #[25] }), 3, none⟩,
    ⟨some 10, (.binOp .neq 3 (.tmp 7) (.tmp 9) 3), 4, none⟩])
  (.cond (.tmp 10)
    (.seq (.rgn [] [⟨some 4, (.assign (.const (.bool false))), 4, none⟩])
    .ret)
    .skip))
  (.seq (.seq (.rgn [] [⟨some 5, (.assign (.const (.int .i64 0))), 3, none⟩])
  (.blk 0
    (.loop []
      (.seq (.seq (.rgn [] [⟨some 11, (.move (.tmp 5)), 3, none⟩,
        ⟨some 12, (.move (.tmp 0)), 25, none⟩,
        ⟨some 13, (.call { callee := (.builtin .len), args := #[(.tmp 12)], argTypes := #[25] }), 3, none⟩,
        ⟨some 14, (.binOp .lss 3 (.tmp 11) (.tmp 13) 3), 4, none⟩])
      (.cond (.tmp 14)
        .skip
        (.exit 0)))
      (.seq (.blk 1
        (.seq (.drw [] [([0], [17]), ([5], [18]), ([17, 18], [19]), ([19], [20]), ([1], [21]), ([5], [22]), ([21, 22], [23]), ([23], [24]), ([20, 24], [25])] [[], [], [0, 1], [2], [], [], [4, 5], [6], [3, 7]] [⟨some 17, (.move (.tmp 0)), 25, none⟩,
          ⟨some 18, (.move (.tmp 5)), 3, none⟩,
          ⟨some 19, (.indexAddr 25 (.tmp 17) (.tmp 18)), 0, none⟩,
          ⟨some 20, (.load 3 (.tmp 19)), 3, none⟩,
          ⟨some 21, (.move (.tmp 1)), 25, none⟩,
          ⟨some 22, (.move (.tmp 5)), 3, none⟩,
          ⟨some 23, (.indexAddr 25 (.tmp 21) (.tmp 22)), 0, none⟩,
          ⟨some 24, (.load 3 (.tmp 23)), 3, none⟩,
          ⟨some 25, (.binOp .neq 3 (.tmp 20) (.tmp 24) 3), 4, none⟩])
        (.cond (.tmp 25)
          (.seq (.rgn [] [⟨some 4, (.assign (.const (.bool false))), 4, none⟩])
          .ret)
          .skip)))
      (.rgn [] [⟨some 15, (.move (.tmp 5)), 3, none⟩,
        ⟨some 16, (.binOp .add 3 (.tmp 15) (.const (.int .i64 1)) 3), 3, none⟩,
        ⟨some 5, (.assign (.tmp 16)), 3, none⟩]))))))
  (.seq (.rgn [] [⟨some 4, (.assign (.const (.bool true))), 4, none⟩])
  .ret))))
theorem lit19 : Lit Try.prog 19 26 [] [.tmp 4] c19 := ⟨⟨Try.f19, _, Try.func19, rfl, by kernel_rfl, rfl, rfl, by kernel_rfl, by kernel_rfl⟩, by decide, by kernel_rfl⟩
/-- laws.eqDatabase -/
def c20 : LC :=
  (.seq (.rgn [] [⟨some 2, (.box 33 (.tmp 0)), 0, none⟩,
    ⟨some 3, (.box 33 (.tmp 1)), 0, none⟩,
    ⟨some 4, (.assign (.const (.bool false))), 4, none⟩])
  (.seq (.seq (.rgn [] [⟨some 5, (.fieldAddr 33 (.tmp 2) 0), 0, none⟩,
    ⟨some 6, (.load 31 (.tmp 5)), 31, none⟩,
    ⟨some 7, (.fieldAddr 33 (.tmp 3) 0), 0, none⟩,
    ⟨some 8, (.load 31 (.tmp 7)), 31, none⟩,
    ⟨some 9, (.call { callee := (.value (.func 82)), args := #[(.tmp 6), (.tmp 8)], argTypes := #[31, 31] }), 4, none⟩,
    ⟨some 10, (.unOp .not 4 (.tmp 9)), 4, none⟩])
  (.cond (.tmp 10)
    (.seq (.rgn [] [⟨some 4, (.assign (.const (.bool false))), 4, none⟩])
    .ret)
    .skip))
  (.seq (.rgn [] [⟨some 4, (.assign (.const (.bool true))), 4, none⟩])
  .ret)))
theorem lit20 : Lit Try.prog 20 11 [2, 3] [.tmp 4] c20 := ⟨⟨Try.f20, _, Try.func20, rfl, by kernel_rfl, rfl, rfl, by kernel_rfl, by kernel_rfl⟩, by decide, by kernel_rfl⟩
/-- laws.markDatabase -/
def c22 : LC :=
  (.seq (.rgn [] [⟨some 2, (.box 33 (.tmp 0)), 0, none⟩,
    ⟨some 4, (.assign (.const (.int .i64 0))), 3, none⟩])
  (.seq (.rgn [] [⟨some 5, (.fieldAddr 33 (.tmp 2) 0), 0, none⟩,
    ⟨some 6, (.load 31 (.tmp 5)), 31, none⟩,
    ⟨some 7, (.move (.tmp 1)), 3, none⟩,
    ⟨some 8, (.call { callee := (.value (.func 83)), args := #[(.tmp 6), (.tmp 7)], argTypes := #[31, 3] }), 3, none⟩,
    ⟨some 1, (.assign (.tmp 8)), 3, none⟩])
  (.seq (.rgn [] [⟨some 9, (.move (.tmp 1)), 3, none⟩,
    ⟨some 4, (.assign (.tmp 9)), 3, none⟩])
  .ret)))
theorem lit22 : Lit Try.prog 22 10 [2] [.tmp 4] c22 := ⟨⟨Try.f22, _, Try.func22, rfl, by kernel_rfl, rfl, rfl, by kernel_rfl, by kernel_rfl⟩, by decide, by kernel_rfl⟩
/-- laws.markIntS -/
def c24 : LC :=
  (.seq (.rgn [] [⟨some 4, (.assign (.const (.int .i64 0))), 3, none⟩])
  (.seq (.seq (.rgn [] [⟨some 5, (.assign (.const (.int .i64 0))), 3, none⟩])
  (.blk 0
    (.loop []
      (.seq (.seq (.rgn [] [⟨some 6, (.move (.tmp 5)), 3, none⟩,
        ⟨some 7, (.move (.tmp 0)), 25, none⟩,
        ⟨some 8, (.call { callee := (.builtin .len), args := #[(.tmp 7)], argTypes := #[25] }), 3, none⟩,
        ⟨some 9, (.binOp .lss 3 (.tmp 6) (.tmp 8) 3), 4, none⟩])
      (.cond (.tmp 9)
        .skip
        (.exit 0)))
      (.seq (.blk 1
        (.seq (.rgn [] [⟨some 12, (.move (.tmp 0)), 25, none⟩,
          ⟨some 13, (.move (.tmp 5)), 3, none⟩,
          ⟨some 14, (.move (.tmp 1)), 3, none⟩,
          ⟨some 15, (.indexAddr 25 (.tmp 12) (.tmp 13)), 0, none⟩,
          ⟨none, (.store 3 (.tmp 15) (.tmp 14)), 0, none⟩])
        (.rgn [] [⟨some 16, (.move (.tmp 1)), 3, none⟩,
          ⟨some 17, (.binOp .add 3 (.tmp 16) (.const (.int .i64 1)) 3), 3, none⟩,
          ⟨some 1, (.assign (.tmp 17)), 3, none⟩])))
      (.rgn [] [⟨some 10, (.move (.tmp 5)), 3, none⟩,
        ⟨some 11, (.binOp .add 3 (.tmp 10) (.const (.int .i64 1)) 3), 3, none⟩,
        ⟨some 5, (.assign (.tmp 11)), 3, none⟩]))))))
  (.seq (.rgn [] [⟨some 18, (.move (.tmp 1)), 3, none⟩,
    ⟨some 4, (.assign (.tmp 18)), 3, none⟩])
  .ret)))
theorem lit24 : Lit Try.prog 24 19 [] [.tmp 4] c24 := ⟨⟨Try.f24, _, Try.func24, rfl, by kernel_rfl, rfl, rfl, by kernel_rfl, by kernel_rfl⟩, by decide, by kernel_rfl⟩
/-- laws.heldIntS -/
def c25 : LC :=
  (.seq (.rgn [] [⟨some 4, (.assign (.const (.int .i64 0))), 3, none⟩])
  (.seq (.seq (.rgn [] [⟨some 5, (.assign (.const (.int .i64 0))), 3, none⟩])
  (.blk 0
    (.loop []
      (.seq (.seq (.rgn [] [⟨some 6, (.move (.tmp 5)), 3, none⟩,
        ⟨some 7, (.move (.tmp 0)), 25, none⟩,
        ⟨some 8, (.call { callee := (.builtin .len), args := #[(.tmp 7)], argTypes := #[25] }), 3, none⟩,
        ⟨some 9, (.binOp .lss 3 (.tmp 6) (.tmp 8) 3), 4, none⟩])
      (.cond (.tmp 9)
        .skip
        (.exit 0)))
      (.seq (.blk 1
        (.seq (.seq (.rgn [] [⟨some 12, (.move (.tmp 0)), 25, none⟩,
          ⟨some 13, (.move (.tmp 5)), 3, none⟩,
          ⟨some 14, (.indexAddr 25 (.tmp 12) (.tmp 13)), 0, none⟩,
          ⟨some 15, (.load 3 (.tmp 14)), 3, none⟩,
          ⟨some 16, (.move (.tmp 1)), 3, none⟩,
          ⟨some 17, (.binOp .neq 3 (.tmp 15) (.tmp 16) 3), 4, none⟩])
        (.cond (.tmp 17)
          (.seq (.rgn [] [⟨some 4, (.assign (.const (.int .i64 (-1)))), 3, none⟩])
          .ret)
          .skip))
        (.rgn [] [⟨some 18, (.move (.tmp 1)), 3, none⟩,
          ⟨some 19, (.binOp .add 3 (.tmp 18) (.const (.int .i64 1)) 3), 3, none⟩,
          ⟨some 1, (.assign (.tmp 19)), 3, none⟩])))
      (.rgn [] [⟨some 10, (.move (.tmp 5)), 3, none⟩,
        ⟨some 11, (.binOp .add 3 (.tmp 10) (.const (.int .i64 1)) 3), 3, none⟩,
        ⟨some 5, (.assign (.tmp 11)), 3, none⟩]))))))
  (.seq (.rgn [] [⟨some 20, (.move (.tmp 1)), 3, none⟩,
    ⟨some 4, (.assign (.tmp 20)), 3, none⟩])
  .ret)))
theorem lit25 : Lit Try.prog 25 21 [] [.tmp 4] c25 := ⟨⟨Try.f25, _, Try.func25, rfl, by kernel_rfl, rfl, rfl, by kernel_rfl, by kernel_rfl⟩, by decide, by kernel_rfl⟩
/-- laws.heldDatabase -/
def c32 : LC :=
  (.seq (.rgn [] [⟨some 2, (.box 33 (.tmp 0)), 0, none⟩,
    ⟨some 4, (.assign (.const (.int .i64 0))), 3, none⟩])
  (.seq (.rgn [] [⟨some 5, (.fieldAddr 33 (.tmp 2) 0), 0, none⟩,
    ⟨some 6, (.load 31 (.tmp 5)), 31, none⟩,
    ⟨some 7, (.move (.tmp 1)), 3, none⟩,
    ⟨some 8, (.call { callee := (.value (.func 94)), args := #[(.tmp 6), (.tmp 7)], argTypes := #[31, 3] }), 3, none⟩,
    ⟨some 1, (.assign (.tmp 8)), 3, none⟩])
  (.seq (.seq (.rgn [] [⟨some 9, (.move (.tmp 1)), 3, none⟩,
    ⟨some 10, (.binOp .lss 3 (.tmp 9) (.const (.int .i64 0)) 3), 4, none⟩])
  (.cond (.tmp 10)
    (.seq (.rgn [] [⟨some 4, (.assign (.const (.int .i64 (-1)))), 3, none⟩])
    .ret)
    .skip))
  (.seq (.rgn [] [⟨some 11, (.move (.tmp 1)), 3, none⟩,
    ⟨some 4, (.assign (.tmp 11)), 3, none⟩])
  .ret))))
theorem lit32 : Lit Try.prog 32 12 [2] [.tmp 4] c32 := ⟨⟨Try.f32, _, Try.func32, rfl, by kernel_rfl, rfl, rfl, by kernel_rfl, by kernel_rfl⟩, by decide, by kernel_rfl⟩
/-- laws.eqNotifier -/
def c42 : LC :=
  (.seq (.rgn [] [⟨some 2, (.box 74 (.tmp 0)), 0, none⟩,
    ⟨some 3, (.box 74 (.tmp 1)), 0, none⟩,
    ⟨some 4, (.assign (.const (.bool false))), 4, none⟩])
  (.seq (.seq (.rgn [] [⟨some 5, (.fieldAddr 74 (.tmp 2) 0), 0, none⟩,
    ⟨some 6, (.load 33 (.tmp 5)), 33, none⟩,
    ⟨some 7, (.fieldAddr 74 (.tmp 3) 0), 0, none⟩,
    ⟨some 8, (.load 33 (.tmp 7)), 33, none⟩,
    ⟨some 9, (.call { callee := (.value (.func 20)), args := #[(.tmp 6), (.tmp 8)], argTypes := #[33, 33] }), 4, none⟩,
    ⟨some 10, (.unOp .not 4 (.tmp 9)), 4, none⟩])
  (.cond (.tmp 10)
    (.seq (.rgn [] [⟨some 4, (.assign (.const (.bool false))), 4, none⟩])
    .ret)
    .skip))
  (.seq (.seq (.rgn [] [⟨some 11, (.fieldAddr 74 (.tmp 2) 1), 0, none⟩,
    ⟨some 12, (.load 71 (.tmp 11)), 71, none⟩,
    ⟨some 13, (.fieldAddr 74 (.tmp 3) 1), 0, none⟩,
    ⟨some 14, (.load 71 (.tmp 13)), 71, none⟩,
    ⟨some 15, (.call { callee := (.value (.func 118)), args := #[(.tmp 12), (.tmp 14)], argTypes := #[71, 71] }), 4, none⟩,
    ⟨some 16, (.unOp .not 4 (.tmp 15)), 4, none⟩])
  (.cond (.tmp 16)
    (.seq (.rgn [] [⟨some 4, (.assign (.const (.bool false))), 4, none⟩])
    .ret)
    .skip))
  (.seq (.seq (.rgn [] [⟨some 17, (.fieldAddr 74 (.tmp 2) 2), 0, none⟩,
    ⟨some 18, (.load 72 (.tmp 17)), 72, none⟩,
    ⟨some 19, (.fieldAddr 74 (.tmp 3) 2), 0, none⟩,
    ⟨some 20, (.load 72 (.tmp 19)), 72, none⟩,
    ⟨some 21, (.call { callee := (.value (.func 119)), args := #[(.tmp 18), (.tmp 20)], argTypes := #[72, 72] }), 4, none⟩,
    ⟨some 22, (.unOp .not 4 (.tmp 21)), 4, none⟩])
  (.cond (.tmp 22)
    (.seq (.rgn [] [⟨some 4, (.assign (.const (.bool false))), 4, none⟩])
    .ret)
    .skip))
  (.seq (.rgn [] [⟨some 4, (.assign (.const (.bool true))), 4, none⟩])
  .ret)))))
theorem lit42 : Lit Try.prog 42 23 [2, 3] [.tmp 4] c42 := ⟨⟨Try.f42, _, Try.func42, rfl, by kernel_rfl, rfl, rfl, by kernel_rfl, by kernel_rfl⟩, by decide, by kernel_rfl⟩
/-- laws.eqQuery -/
def c49 : LC :=
  (.seq (.rgn [] [⟨some 2, (.box 92 (.tmp 0)), 0, none⟩,
    ⟨some 3, (.box 92 (.tmp 1)), 0, none⟩,
    ⟨some 4, (.assign (.const (.bool false))), 4, none⟩])
  (.seq (.seq (.rgn [] [⟨some 5, (.fieldAddr 92 (.tmp 2) 0), 0, none⟩,
    ⟨some 6, (.load 3 (.tmp 5)), 3, none⟩,
    ⟨some 7, (.fieldAddr 92 (.tmp 3) 0), 0, none⟩,
    ⟨some 8, (.load 3 (.tmp 7)), 3, none⟩,
    ⟨some 9, (.binOp .neq 3 (.tmp 6) (.tmp 8) 3), 4, none⟩])
  (.cond (.tmp 9)
    (.seq (.rgn [] [⟨some 4, (.assign (.const (.bool false))), 4, none⟩])
    .ret)
    .skip))
  (.seq (.seq (.rgn [] [⟨some 10, (.fieldAddr 92 (.tmp 2) 1), 0, none⟩,
    ⟨some 11, (.load 90 (.tmp 10)), 90, none⟩,
    ⟨some 12, (.fieldAddr 92 (.tmp 3) 1), 0, none⟩,
    ⟨some 13, (.load 90 (.tmp 12)), 90, none⟩,
    ⟨some 14, (.call { callee := (.value (.func 132)), args := #[(.tmp 11), (.tmp 13)], argTypes := #[90, 90] }), 4, none⟩,
    ⟨some 15, (.unOp .not 4 (.tmp 14)), 4, none⟩])
  (.cond (.tmp 15)
    (.seq (.rgn [] [⟨some 4, (.assign (.const (.bool false))), 4, none⟩])
    .ret)
    .skip))
  (.seq (.seq (.rgn [] [⟨some 16, (.fieldAddr 92 (.tmp 2) 2), 0, none⟩,
    ⟨some 17, (.load 25 (.tmp 16)), 25, none⟩,
    ⟨some 18, (.fieldAddr 92 (.tmp 3) 2), 0, none⟩,
    ⟨some 19, (.load 25 (.tmp 18)), 25, none⟩,
    ⟨some 20, (.call { callee := (.value (.func 19)), args := #[(.tmp 17), (.tmp 19)], argTypes := #[25, 25] }), 4, none⟩,
    ⟨some 21, (.unOp .not 4 (.tmp 20)), 4, none⟩])
  (.cond (.tmp 21)
    (.seq (.rgn [] [⟨some 4, (.assign (.const (.bool false))), 4, none⟩])
    .ret)
    .skip))
  (.seq (.rgn [] [⟨some 4, (.assign (.const (.bool true))), 4, none⟩])
  .ret)))))
theorem lit49 : Lit Try.prog 49 22 [2, 3] [.tmp 4] c49 := ⟨⟨Try.f49, _, Try.func49, rfl, by kernel_rfl, rfl, rfl, by kernel_rfl, by kernel_rfl⟩, by decide, by kernel_rfl⟩
/-- spec.NewNotifier -/
def c51 : LC :=
  (.seq (.rgn [] [⟨some 1, (.box 33 (.tmp 0)), 0, none⟩,
    ⟨some 2, (.alloc 74), 0, none⟩,
    ⟨some 3, (.assign (.const (.bool false))), 4, none⟩])
  (.seq (.seq (.rgn [] [⟨some 5, (.load 33 (.tmp 1)), 33, none⟩,
    ⟨some 6, (.call { callee := (.value (.func 135)), args := #[(.tmp 5)], argTypes := #[33] }), 4, none⟩,
    ⟨some 7, (.unOp .not 4 (.tmp 6)), 4, none⟩])
  (.cond (.tmp 7)
    (.seq (.rgn [] [⟨some 8, (.build 74 #[]), 74, none⟩,
      ⟨none, (.store 74 (.tmp 2) (.tmp 8)), 0, none⟩,
      ⟨some 3, (.assign (.const (.bool false))), 4, none⟩])
    .ret)
    .skip))
  (.seq (.rgn [] [⟨some 9, (.load 33 (.tmp 1)), 33, none⟩,
    ⟨some 10, (.call { callee := (.value (.func 87)), args := #[(.tmp 9)], argTypes := #[33] }), 33, none⟩,
    ⟨some 4, (.alloc 33), 0, none⟩,
    ⟨none, (.store 33 (.tmp 4) (.tmp 10)), 0, none⟩])
  (.seq (.rgn [11] [⟨some 11, (.load 33 (.tmp 4)), 33, none⟩,
    ⟨some 12, (.build 74 #[(0, (.tmp 11))]), 74, none⟩,
    ⟨none, (.store 74 (.tmp 2) (.tmp 12)), 0, none⟩,
    ⟨some 3, (.assign (.const (.bool true))), 4, none⟩])
  .ret))))
theorem lit51 : Lit Try.prog 51 13 [1, 2, 4] [.cell 2 74, .tmp 3] c51 := ⟨⟨Try.f51, _, Try.func51, rfl, by kernel_rfl, rfl, rfl, by kernel_rfl, by kernel_rfl⟩, by decide, by kernel_rfl⟩
/-- impl.NewNotifier -/
def c52 : LC :=
  (.seq (.rgn [] [⟨some 1, (.box 33 (.tmp 0)), 0, none⟩,
    ⟨some 2, (.alloc 74), 0, none⟩,
    ⟨some 3, (.assign (.const (.bool false))), 4, none⟩])
  (.seq (.seq (.rgn [] [⟨some 4, (.load 33 (.tmp 1)), 33, none⟩,
    ⟨some 5, (.call { callee := (.value (.func 136)), args := #[(.tmp 4)], argTypes := #[33] }), 4, none⟩,
    ⟨some 6, (.unOp .not 4 (.tmp 5)), 4, none⟩])
  (.cond (.tmp 6)
    (.seq (.rgn [] [⟨some 7, (.build 74 #[]), 74, none⟩,
      ⟨none, (.store 74 (.tmp 2) (.tmp 7)), 0, none⟩,
      ⟨some 3, (.assign (.const (.bool false))), 4, none⟩])
    .ret)
    .skip))
  (.seq (.rgn [] [⟨some 8, (.load 33 (.tmp 1)), 33, none⟩,
    ⟨some 9, (.call { callee := (.value (.func 91)), args := #[(.tmp 8)], argTypes := #[33] }), 33, none⟩,
    ⟨some 10, (.build 74 #[(0, (.tmp 9))]), 74, none⟩,
    ⟨none, (.store 74 (.tmp 2) (.tmp 10)), 0, none⟩,
    ⟨some 3, (.assign (.const (.bool true))), 4, none⟩])
  .ret)))
theorem lit52 : Lit Try.prog 52 11 [1, 2] [.cell 2 74, .tmp 3] c52 := ⟨⟨Try.f52, _, Try.func52, rfl, by kernel_rfl, rfl, rfl, by kernel_rfl, by kernel_rfl⟩, by decide, by kernel_rfl⟩
/-- laws.markNotifier -/
def c53 : LC :=
  (.seq (.rgn [] [⟨some 2, (.box 74 (.tmp 0)), 0, none⟩,
    ⟨some 4, (.assign (.const (.int .i64 0))), 3, none⟩])
  (.seq (.rgn [] [⟨some 5, (.fieldAddr 74 (.tmp 2) 0), 0, none⟩,
    ⟨some 6, (.load 33 (.tmp 5)), 33, none⟩,
    ⟨some 7, (.move (.tmp 1)), 3, none⟩,
    ⟨some 8, (.call { callee := (.value (.func 22)), args := #[(.tmp 6), (.tmp 7)], argTypes := #[33, 3] }), 3, none⟩,
    ⟨some 1, (.assign (.tmp 8)), 3, none⟩])
  (.seq (.rgn [] [⟨some 9, (.fieldAddr 74 (.tmp 2) 1), 0, none⟩,
    ⟨some 10, (.load 71 (.tmp 9)), 71, none⟩,
    ⟨some 11, (.move (.tmp 1)), 3, none⟩,
    ⟨some 12, (.call { callee := (.value (.func 137)), args := #[(.tmp 10), (.tmp 11)], argTypes := #[71, 3] }), 3, none⟩,
    ⟨some 1, (.assign (.tmp 12)), 3, none⟩])
  (.seq (.rgn [] [⟨some 13, (.fieldAddr 74 (.tmp 2) 2), 0, none⟩,
    ⟨some 14, (.load 72 (.tmp 13)), 72, none⟩,
    ⟨some 15, (.move (.tmp 1)), 3, none⟩,
    ⟨some 16, (.call { callee := (.value (.func 138)), args := #[(.tmp 14), (.tmp 15)], argTypes := #[72, 3] }), 3, none⟩,
    ⟨some 1, (.assign (.tmp 16)), 3, none⟩])
  (.seq (.rgn [] [⟨some 17, (.move (.tmp 1)), 3, none⟩,
    ⟨some 4, (.assign (.tmp 17)), 3, none⟩])
  .ret)))))
theorem lit53 : Lit Try.prog 53 18 [2] [.tmp 4] c53 := ⟨⟨Try.f53, _, Try.func53, rfl, by kernel_rfl, rfl, rfl, by kernel_rfl, by kernel_rfl⟩, by decide, by kernel_rfl⟩
/-- laws.heldNotifier -/
def c54 : LC :=
  (.seq (.rgn [] [⟨some 2, (.box 74 (.tmp 0)), 0, none⟩,
    ⟨some 4, (.assign (.const (.int .i64 0))), 3, none⟩])
  (.seq (.rgn [] [⟨some 5, (.fieldAddr 74 (.tmp 2) 0), 0, none⟩,
    ⟨some 6, (.load 33 (.tmp 5)), 33, none⟩,
    ⟨some 7, (.move (.tmp 1)), 3, none⟩,
    ⟨some 8, (.call { callee := (.value (.func 32)), args := #[(.tmp 6), (.tmp 7)], argTypes := #[33, 3] }), 3, none⟩,
    ⟨some 1, (.assign (.tmp 8)), 3, none⟩])
  (.seq (.seq (.rgn [] [⟨some 9, (.move (.tmp 1)), 3, none⟩,
    ⟨some 10, (.binOp .lss 3 (.tmp 9) (.const (.int .i64 0)) 3), 4, none⟩])
  (.cond (.tmp 10)
    (.seq (.rgn [] [⟨some 4, (.assign (.const (.int .i64 (-1)))), 3, none⟩])
    .ret)
    .skip))
  (.seq (.rgn [] [⟨some 11, (.fieldAddr 74 (.tmp 2) 1), 0, none⟩,
    ⟨some 12, (.load 71 (.tmp 11)), 71, none⟩,
    ⟨some 13, (.move (.tmp 1)), 3, none⟩,
    ⟨some 14, (.call { callee := (.value (.func 139)), args := #[(.tmp 12), (.tmp 13)], argTypes := #[71, 3] }), 3, none⟩,
    ⟨some 1, (.assign (.tmp 14)), 3, none⟩])
  (.seq (.seq (.rgn [] [⟨some 15, (.move (.tmp 1)), 3, none⟩,
    ⟨some 16, (.binOp .lss 3 (.tmp 15) (.const (.int .i64 0)) 3), 4, none⟩])
  (.cond (.tmp 16)
    (.seq (.rgn [] [⟨some 4, (.assign (.const (.int .i64 (-1)))), 3, none⟩])
    .ret)
    .skip))
  (.seq (.rgn [] [⟨some 17, (.fieldAddr 74 (.tmp 2) 2), 0, none⟩,
    ⟨some 18, (.load 72 (.tmp 17)), 72, none⟩,
    ⟨some 19, (.move (.tmp 1)), 3, none⟩,
    ⟨some 20, (.call { callee := (.value (.func 140)), args := #[(.tmp 18), (.tmp 19)], argTypes := #[72, 3] }), 3, none⟩,
    ⟨some 1, (.assign (.tmp 20)), 3, none⟩])
  (.seq (.seq (.rgn [] [⟨some 21, (.move (.tmp 1)), 3, none⟩,
    ⟨some 22, (.binOp .lss 3 (.tmp 21) (.const (.int .i64 0)) 3), 4, none⟩])
  (.cond (.tmp 22)
    (.seq (.rgn [] [⟨some 4, (.assign (.const (.int .i64 (-1)))), 3, none⟩])
    .ret)
    .skip))
  (.seq (.rgn [] [⟨some 23, (.move (.tmp 1)), 3, none⟩,
    ⟨some 4, (.assign (.tmp 23)), 3, none⟩])
  .ret))))))))
theorem lit54 : Lit Try.prog 54 24 [2] [.tmp 4] c54 := ⟨⟨Try.f54, _, Try.func54, rfl, by kernel_rfl, rfl, rfl, by kernel_rfl, by kernel_rfl⟩, by decide, by kernel_rfl⟩
/-- laws.toIntS -/
def c58 : LC :=
  (.seq (.rgn [] [⟨some 2, (.assign (.const (.slice none 0 0))), 25, none⟩])
  (.seq (.rgn [3, 7] [⟨some 5, (.move (.tmp 0)), 25, none⟩,
    ⟨some 6, (.call { callee := (.builtin .len), args := #[(.tmp 5)], argTypes := #[25] }), 3, none⟩,
    ⟨some 7, (.makeSlice 25 (.tmp 6) (.tmp 6)), 25, none⟩,
    ⟨some 3, (.assign (.tmp 7)), 25, none⟩])
  (.seq (.seq (.rgn [] [⟨some 4, (.assign (.const (.int .i64 0))), 3, none⟩])
  (.blk 0
    (.loop []
      (.seq (.seq (.rgn [] [⟨some 8, (.move (.tmp 4)), 3, none⟩,
        ⟨some 9, (.move (.tmp 0)), 25, none⟩,
        ⟨some 10, (.call { callee := (.builtin .len), args := #[(.tmp 9)], argTypes := #[25] }), 3, none⟩,
        ⟨some 11, (.binOp .lss 3 (.tmp 8) (.tmp 10) 3), 4, none⟩])
      (.cond (.tmp 11)
        .skip
        (.exit 0)))
      (.seq (.blk 1
        (.rgn [] [⟨some 14, (.move (.tmp 3)), 25, none⟩,
          ⟨some 15, (.move (.tmp 4)), 3, none⟩,
          ⟨some 16, (.move (.tmp 0)), 25, none⟩,
          ⟨some 17, (.move (.tmp 4)), 3, none⟩,
          ⟨some 18, (.indexAddr 25 (.tmp 16) (.tmp 17)), 0, none⟩,
          ⟨some 19, (.load 3 (.tmp 18)), 3, none⟩,
          ⟨some 20, (.indexAddr 25 (.tmp 14) (.tmp 15)), 0, none⟩,
          ⟨none, (.store 3 (.tmp 20) (.tmp 19)), 0, none⟩]))
      (.rgn [] [⟨some 12, (.move (.tmp 4)), 3, none⟩,
        ⟨some 13, (.binOp .add 3 (.tmp 12) (.const (.int .i64 1)) 3), 3, none⟩,
        ⟨some 4, (.assign (.tmp 13)), 3, none⟩]))))))
  (.seq (.rgn [21] [⟨some 21, (.move (.tmp 3)), 25, none⟩,
    ⟨some 2, (.assign (.tmp 21)), 25, none⟩])
  .ret))))
theorem lit58 : Lit Try.prog 58 22 [3, 7] [.tmp 2] c58 := ⟨⟨Try.f58, _, Try.func58, rfl, by kernel_rfl, rfl, rfl, by kernel_rfl, by kernel_rfl⟩, by decide, by kernel_rfl⟩
/-- laws.szTableS -/
def c71 : LC :=
  (.seq (.rgn [] [⟨some 4, (.assign (.const (.int .i64 0))), 3, none⟩])
  (.seq (.rgn [] [⟨some 6, (.move (.tmp 1)), 3, none⟩,
    ⟨some 7, (.move (.tmp 0)), 22, none⟩,
    ⟨some 8, (.call { callee := (.builtin .len), args := #[(.tmp 7)], argTypes := #[22] }), 3, none⟩,
    ⟨some 9, (.binOp .sub 3 (.tmp 6) (.tmp 8) 3), 3, none⟩,
    ⟨some 1, (.assign (.tmp 9)), 3, none⟩])
  (.seq (.seq (.rgn [] [⟨some 10, (.move (.tmp 1)), 3, none⟩,
    ⟨some 11, (.binOp .lss 3 (.tmp 10) (.const (.int .i64 0)) 3), 4, none⟩])
  (.cond (.tmp 11)
    (.seq (.rgn [] [⟨some 4, (.assign (.const (.int .i64 (-1)))), 3, none⟩])
    .ret)
    .skip))
  (.seq (.seq (.rgn [] [⟨some 5, (.assign (.const (.int .i64 0))), 3, none⟩])
  (.blk 0
    (.loop []
      (.seq (.seq (.rgn [] [⟨some 12, (.move (.tmp 5)), 3, none⟩,
        ⟨some 13, (.move (.tmp 0)), 22, none⟩,
        ⟨some 14, (.call { callee := (.builtin .len), args := #[(.tmp 13)], argTypes := #[22] }), 3, none⟩,
        ⟨some 15, (.binOp .lss 3 (.tmp 12) (.tmp 14) 3), 4, none⟩])
      (.cond (.tmp 15)
        .skip
        (.exit 0)))
      (.seq (.blk 1
        (.seq (.rgn [] [⟨some 18, (.move (.tmp 0)), 22, none⟩,
          ⟨some 19, (.move (.tmp 5)), 3, none⟩,
          ⟨some 20, (.indexAddr 22 (.tmp 18) (.tmp 19)), 0, none⟩,
          ⟨some 21, (.load 206 (.tmp 20)), 206, none⟩,
          ⟨some 22, (.move (.tmp 1)), 3, none⟩,
          ⟨some 23, (.call { callee := (.value (.func 171)), args := #[(.tmp 21), (.tmp 22)], argTypes := #[206, 3] }), 3, none⟩,
          ⟨some 1, (.assign (.tmp 23)), 3, none⟩])
        (.seq (.rgn [] [⟨some 24, (.move (.tmp 1)), 3, none⟩,
          ⟨some 25, (.binOp .lss 3 (.tmp 24) (.const (.int .i64 0)) 3), 4, none⟩])
        (.cond (.tmp 25)
          (.seq (.rgn [] [⟨some 4, (.assign (.const (.int .i64 (-1)))), 3, none⟩])
          .ret)
          .skip))))
      (.rgn [] [⟨some 16, (.move (.tmp 5)), 3, none⟩,
        ⟨some 17, (.binOp .add 3 (.tmp 16) (.const (.int .i64 1)) 3), 3, none⟩,
        ⟨some 5, (.assign (.tmp 17)), 3, none⟩]))))))
  (.seq (.rgn [] [⟨some 26, (.move (.tmp 1)), 3, none⟩,
    ⟨some 4, (.assign (.tmp 26)), 3, none⟩])
  .ret)))))
theorem lit71 : Lit Try.prog 71 27 [] [.tmp 4] c71 := ⟨⟨Try.f71, _, Try.func71, rfl, by kernel_rfl, rfl, rfl, by kernel_rfl, by kernel_rfl⟩, by decide, by kernel_rfl⟩
/-- laws.szIntS -/
def c72 : LC :=
  (.seq (.rgn [] [⟨some 4, (.assign (.const (.int .i64 0))), 3, none⟩])
  (.seq (.rgn [] [⟨some 5, (.move (.tmp 1)), 3, none⟩,
    ⟨some 6, (.move (.tmp 0)), 25, none⟩,
    ⟨some 7, (.call { callee := (.builtin .len), args := #[(.tmp 6)], argTypes := #[25] }), 3, none⟩,
    ⟨some 8, (.binOp .sub 3 (.tmp 5) (.tmp 7) 3), 3, none⟩,
    ⟨some 1, (.assign (.tmp 8)), 3, none⟩])
  (.seq (.seq (.rgn [] [⟨some 9, (.move (.tmp 1)), 3, none⟩,
    ⟨some 10, (.binOp .lss 3 (.tmp 9) (.const (.int .i64 0)) 3), 4, none⟩])
  (.cond (.tmp 10)
    (.seq (.rgn [] [⟨some 4, (.assign (.const (.int .i64 (-1)))), 3, none⟩])
    .ret)
    .skip))
  (.seq (.rgn [] [⟨some 11, (.move (.tmp 1)), 3, none⟩,
    ⟨some 4, (.assign (.tmp 11)), 3, none⟩])
  .ret))))
theorem lit72 : Lit Try.prog 72 12 [] [.tmp 4] c72 := ⟨⟨Try.f72, _, Try.func72, rfl, by kernel_rfl, rfl, rfl, by kernel_rfl, by kernel_rfl⟩, by decide, by kernel_rfl⟩
/-- spec.CompareRows -/
def c75 : LC :=
  (.seq (.rgn [] [⟨some 4, (.assign (.const (.int .i64 0))), 3, none⟩])
  (.seq (.seq (.rgn [] [⟨some 5, (.assign (.const (.int .i64 0))), 3, none⟩])
  (.blk 0
    (.loop []
      (.seq (.seq (.rgn [] [⟨some 6, (.move (.tmp 5)), 3, none⟩,
        ⟨some 7, (.move (.tmp 0)), 25, none⟩,
        ⟨some 8, (.call { callee := (.builtin .len), args := #[(.tmp 7)], argTypes := #[25] }), 3, none⟩,
        ⟨some 9, (.binOp .lss 3 (.tmp 6) (.tmp 8) 3), 4, none⟩,
        ⟨some 10, (.move (.tmp 9)), 4, none⟩,
        ⟨some 11, (.move (.tmp 5)), 3, some (some 10, true)⟩,
        ⟨some 12, (.move (.tmp 1)), 25, some (some 10, true)⟩,
        ⟨some 13, (.call { callee := (.builtin .len), args := #[(.tmp 12)], argTypes := #[25] }), 3, some (some 10, true)⟩,
        ⟨some 14, (.binOp .lss 3 (.tmp 11) (.tmp 13) 3), 4, some (some 10, true)⟩,
        ⟨some 15, (.pick (.tmp 10) (.tmp 14) (.const (.bool false))), 4, none⟩])
      (.cond (.tmp 15)
        .skip
        (.exit 0)))
      (.seq (.blk 1
        (.seq (.seq (.drw [] [([0], [18]), ([5], [19]), ([18, 19], [20]), ([20], [21]), ([1], [22]), ([5], [23]), ([22, 23], [24]), ([24], [25]), ([21, 25], [26])] [[], [], [0, 1], [2], [], [], [4, 5], [6], [3, 7]] [⟨some 18, (.move (.tmp 0)), 25, none⟩,
          ⟨some 19, (.move (.tmp 5)), 3, none⟩,
          ⟨some 20, (.indexAddr 25 (.tmp 18) (.tmp 19)), 0, none⟩,
          ⟨some 21, (.load 3 (.tmp 20)), 3, none⟩,
          ⟨some 22, (.move (.tmp 1)), 25, none⟩,
          ⟨some 23, (.move (.tmp 5)), 3, none⟩,
          ⟨some 24, (.indexAddr 25 (.tmp 22) (.tmp 23)), 0, none⟩,
          ⟨some 25, (.load 3 (.tmp 24)), 3, none⟩,
          ⟨some 26, (.binOp .lss 3 (.tmp 21) (.tmp 25) 3), 4, none⟩])
        (.cond (.tmp 26)
          (.seq (.rgn [] [⟨some 4, (.assign (.const (.int .i64 (-1)))), 3, none⟩])
          .ret)
          .skip))
        (.seq (.drw [] [([0], [27]), ([5], [28]), ([27, 28], [29]), ([29], [30]), ([1], [31]), ([5], [32]), ([31, 32], [33]), ([33], [34]), ([30, 34], [35])] [[], [], [0, 1], [2], [], [], [4, 5], [6], [3, 7]] [⟨some 27, (.move (.tmp 0)), 25, none⟩,
          ⟨some 28, (.move (.tmp 5)), 3, none⟩,
          ⟨some 29, (.indexAddr 25 (.tmp 27) (.tmp 28)), 0, none⟩,
          ⟨some 30, (.load 3 (.tmp 29)), 3, none⟩,
          ⟨some 31, (.move (.tmp 1)), 25, none⟩,
          ⟨some 32, (.move (.tmp 5)), 3, none⟩,
          ⟨some 33, (.indexAddr 25 (.tmp 31) (.tmp 32)), 0, none⟩,
          ⟨some 34, (.load 3 (.tmp 33)), 3, none⟩,
          ⟨some 35, (.binOp .gtr 3 (.tmp 30) (.tmp 34) 3), 4, none⟩])
        (.cond (.tmp 35)
          (.seq (.rgn [] [⟨some 4, (.assign (.const (.int .i64 1))), 3, none⟩])
          .ret)
          .skip))))
      (.rgn [] [⟨some 16, (.move (.tmp 5)), 3, none⟩,
        ⟨some 17, (.binOp .add 3 (.tmp 16) (.const (.int .i64 1)) 3), 3, none⟩,
        ⟨some 5, (.assign (.tmp 17)), 3, none⟩]))))))
  (.seq (.seq (.rgn [] [⟨some 36, (.move (.tmp 0)), 25, none⟩,
    ⟨some 37, (.call { callee := (.builtin .len), args := #[(.tmp 36)], argTypes := #[25] }), 3, none⟩,
    ⟨some 38, (.move (.tmp 1)), 25, none⟩,
    ⟨some 39, (.call { callee := (.builtin .len), args := #[(.tmp 38)], argTypes := #[25] }), 3, none⟩,
    ⟨some 40, (.binOp .lss 3 (.tmp 37) (.tmp 39) 3), 4, none⟩])
  (.cond (.tmp 40)
    (.seq (.rgn [] [⟨some 4, (.assign (.const (.int .i64 (-1)))), 3, none⟩])
    .ret)
    .skip))
  (.seq (.seq (.rgn [] [⟨some 41, (.move (.tmp 0)), 25, none⟩,
    ⟨some 42, (.call { callee := (.builtin .len), args := #[(.tmp 41)], argTypes := #[25] }), 3, none⟩,
    ⟨some 43, (.move (.tmp 1)), 25, none⟩,
    ⟨some 44, (.call { callee := (.builtin .len), args := #[(.tmp 43)], argTypes := #[25] }), 3, none⟩,
    ⟨some 45, (.binOp .gtr 3 (.tmp 42) (.tmp 44) 3), 4, none⟩])
  (.cond (.tmp 45)
    (.seq (.rgn [] [⟨some 4, (.assign (.const (.int .i64 1))), 3, none⟩])
    .ret)
    .skip))
  (.seq (.rgn [] [⟨some 4, (.assign (.const (.int .i64 0))), 3, none⟩])
  .ret)))))
theorem lit75 : Lit Try.prog 75 46 [] [.tmp 4] c75 := ⟨⟨Try.f75, _, Try.func75, rfl, by kernel_rfl, rfl, rfl, by kernel_rfl, by kernel_rfl⟩, by decide, by kernel_rfl⟩
/-- laws.toTableS -/
def c77 : LC :=
  (.seq (.rgn [] [⟨some 2, (.assign (.const (.slice none 0 0))), 31, none⟩])
  (.seq (.rgn [3, 7] [⟨some 5, (.move (.tmp 0)), 22, none⟩,
    ⟨some 6, (.call { callee := (.builtin .len), args := #[(.tmp 5)], argTypes := #[22] }), 3, none⟩,
    ⟨some 7, (.makeSlice 31 (.tmp 6) (.tmp 6)), 31, none⟩,
    ⟨some 3, (.assign (.tmp 7)), 31, none⟩])
  (.seq (.seq (.rgn [] [⟨some 4, (.assign (.const (.int .i64 0))), 3, none⟩])
  (.blk 0
    (.loop []
      (.seq (.seq (.rgn [] [⟨some 8, (.move (.tmp 4)), 3, none⟩,
        ⟨some 9, (.move (.tmp 0)), 22, none⟩,
        ⟨some 10, (.call { callee := (.builtin .len), args := #[(.tmp 9)], argTypes := #[22] }), 3, none⟩,
        ⟨some 11, (.binOp .lss 3 (.tmp 8) (.tmp 10) 3), 4, none⟩])
      (.cond (.tmp 11)
        .skip
        (.exit 0)))
      (.seq (.blk 1
        (.rgn [] [⟨some 14, (.move (.tmp 3)), 31, none⟩,
          ⟨some 15, (.move (.tmp 4)), 3, none⟩,
          ⟨some 16, (.move (.tmp 0)), 22, none⟩,
          ⟨some 17, (.move (.tmp 4)), 3, none⟩,
          ⟨some 18, (.indexAddr 22 (.tmp 16) (.tmp 17)), 0, none⟩,
          ⟨some 19, (.load 206 (.tmp 18)), 206, none⟩,
          ⟨some 20, (.call { callee := (.value (.func 173)), args := #[(.tmp 19)], argTypes := #[206] }), 208, none⟩,
          ⟨some 21, (.indexAddr 31 (.tmp 14) (.tmp 15)), 0, none⟩,
          ⟨none, (.store 208 (.tmp 21) (.tmp 20)), 0, none⟩]))
      (.rgn [] [⟨some 12, (.move (.tmp 4)), 3, none⟩,
        ⟨some 13, (.binOp .add 3 (.tmp 12) (.const (.int .i64 1)) 3), 3, none⟩,
        ⟨some 4, (.assign (.tmp 13)), 3, none⟩]))))))
  (.seq (.rgn [22] [⟨some 22, (.move (.tmp 3)), 31, none⟩,
    ⟨some 2, (.assign (.tmp 22)), 31, none⟩])
  .ret))))
theorem lit77 : Lit Try.prog 77 23 [3, 7] [.tmp 2] c77 := ⟨⟨Try.f77, _, Try.func77, rfl, by kernel_rfl, rfl, rfl, by kernel_rfl, by kernel_rfl⟩, by decide, by kernel_rfl⟩
/-- laws.eqTableS -/
def c82 : LC :=
  (.seq (.rgn [] [⟨some 4, (.assign (.const (.bool false))), 4, none⟩])
  (.seq (.seq (.rgn [] [⟨some 6, (.move (.tmp 0)), 31, none⟩,
    ⟨some 7, (.call { callee := (.builtin .len), args := #[(.tmp 6)], argTypes := #[31] }), 3, none⟩,
    ⟨some 8, (.move (.tmp 1)), 31, none⟩,
    ⟨some 9, (.call { callee := (.builtin .len), args := #[(.tmp 8)], argTypes := #[31] }), 3, none⟩,
    ⟨some 10, (.binOp .neq 3 (.tmp 7) (.tmp 9) 3), 4, none⟩])
  (.cond (.tmp 10)
    (.seq (.rgn [] [⟨some 4, (.assign (.const (.bool false))), 4, none⟩])
    .ret)
    .skip))
  (.seq (.seq (.rgn [] [⟨some 5, (.assign (.const (.int .i64 0))), 3, none⟩])
  (.blk 0
    (.loop []
      (.seq (.seq (.rgn [] [⟨some 11, (.move (.tmp 5)), 3, none⟩,
        ⟨some 12, (.move (.tmp 0)), 31, none⟩,
        ⟨some 13, (.call { callee := (.builtin .len), args := #[(.tmp 12)], argTypes := #[31] }), 3, none⟩,
        ⟨some 14, (.binOp .lss 3 (.tmp 11) (.tmp 13) 3), 4, none⟩])
      (.cond (.tmp 14)
        .skip
        (.exit 0)))
      (.seq (.blk 1
        (.seq (.drw [] [([0], [17]), ([5], [18]), ([17, 18], [19]), ([19], [20]), ([1], [21]), ([5], [22]), ([21, 22], [23]), ([23], [24]), ([20, 24], [25]), ([25], [26])] [[], [], [0, 1], [2], [], [], [4, 5], [6], [3, 7], [8]] [⟨some 17, (.move (.tmp 0)), 31, none⟩,
          ⟨some 18, (.move (.tmp 5)), 3, none⟩,
          ⟨some 19, (.indexAddr 31 (.tmp 17) (.tmp 18)), 0, none⟩,
          ⟨some 20, (.load 208 (.tmp 19)), 208, none⟩,
          ⟨some 21, (.move (.tmp 1)), 31, none⟩,
          ⟨some 22, (.move (.tmp 5)), 3, none⟩,
          ⟨some 23, (.indexAddr 31 (.tmp 21) (.tmp 22)), 0, none⟩,
          ⟨some 24, (.load 208 (.tmp 23)), 208, none⟩,
          ⟨some 25, (.call { callee := (.value (.func 176)), args := #[(.tmp 20), (.tmp 24)], argTypes := #[208, 208] }), 4, none⟩,
          ⟨some 26, (.unOp .not 4 (.tmp 25)), 4, none⟩])
        (.cond (.tmp 26)
          (.seq (.rgn [] [⟨some 4, (.assign (.const (.bool false))), 4, none⟩])
          .ret)
          .skip)))
      (.rgn [] [⟨some 15, (.move (.tmp 5)), 3, none⟩,
        ⟨some 16, (.binOp .add 3 (.tmp 15) (.const (.int .i64 1)) 3), 3, none⟩,
        ⟨some 5, (.assign (.tmp 16)), 3, none⟩]))))))
  (.seq (.rgn [] [⟨some 4, (.assign (.const (.bool true))), 4, none⟩])
  .ret))))
theorem lit82 : Lit Try.prog 82 27 [] [.tmp 4] c82 := ⟨⟨Try.f82, _, Try.func82, rfl, by kernel_rfl, rfl, rfl, by kernel_rfl, by kernel_rfl⟩, by decide, by kernel_rfl⟩
/-- laws.markTableS -/
def c83 : LC :=
  (.seq (.rgn [] [⟨some 4, (.assign (.const (.int .i64 0))), 3, none⟩])
  (.seq (.seq (.rgn [] [⟨some 5, (.assign (.const (.int .i64 0))), 3, none⟩])
  (.blk 0
    (.loop []
      (.seq (.seq (.rgn [] [⟨some 6, (.move (.tmp 5)), 3, none⟩,
        ⟨some 7, (.move (.tmp 0)), 31, none⟩,
        ⟨some 8, (.call { callee := (.builtin .len), args := #[(.tmp 7)], argTypes := #[31] }), 3, none⟩,
        ⟨some 9, (.binOp .lss 3 (.tmp 6) (.tmp 8) 3), 4, none⟩])
      (.cond (.tmp 9)
        .skip
        (.exit 0)))
      (.seq (.blk 1
        (.seq (.rgn [] [⟨some 12, (.move (.tmp 0)), 31, none⟩,
          ⟨some 13, (.move (.tmp 5)), 3, none⟩,
          ⟨some 14, (.move (.tmp 1)), 3, none⟩,
          ⟨some 15, (.call { callee := (.value (.func 177)), args := #[(.tmp 14)], argTypes := #[3] }), 9, none⟩,
          ⟨some 16, (.indexAddr 31 (.tmp 12) (.tmp 13)), 0, none⟩,
          ⟨some 17, (.fieldAddr 208 (.tmp 16) 0), 0, none⟩,
          ⟨none, (.store 9 (.tmp 17) (.tmp 15)), 0, none⟩])
        (.seq (.rgn [] [⟨some 18, (.move (.tmp 1)), 3, none⟩,
          ⟨some 19, (.binOp .add 3 (.tmp 18) (.const (.int .i64 1)) 3), 3, none⟩,
          ⟨some 1, (.assign (.tmp 19)), 3, none⟩])
        (.seq (.rgn [] [⟨some 20, (.move (.tmp 0)), 31, none⟩,
          ⟨some 21, (.move (.tmp 5)), 3, none⟩,
          ⟨some 22, (.move (.tmp 1)), 3, none⟩,
          ⟨some 23, (.indexAddr 31 (.tmp 20) (.tmp 21)), 0, none⟩,
          ⟨some 24, (.fieldAddr 208 (.tmp 23) 1), 0, none⟩,
          ⟨some 25, (.fieldAddr 128 (.tmp 24) 0), 0, none⟩,
          ⟨none, (.store 3 (.tmp 25) (.tmp 22)), 0, none⟩])
        (.seq (.rgn [] [⟨some 26, (.move (.tmp 1)), 3, none⟩,
          ⟨some 27, (.binOp .add 3 (.tmp 26) (.const (.int .i64 1)) 3), 3, none⟩,
          ⟨some 1, (.assign (.tmp 27)), 3, none⟩])
        (.rgn [] [⟨some 28, (.move (.tmp 0)), 31, none⟩,
          ⟨some 29, (.move (.tmp 5)), 3, none⟩,
          ⟨some 30, (.indexAddr 31 (.tmp 28) (.tmp 29)), 0, none⟩,
          ⟨some 31, (.fieldAddr 208 (.tmp 30) 1), 0, none⟩,
          ⟨some 32, (.fieldAddr 128 (.tmp 31) 1), 0, none⟩,
          ⟨some 33, (.load 82 (.tmp 32)), 82, none⟩,
          ⟨some 34, (.move (.tmp 1)), 3, none⟩,
          ⟨some 35, (.call { callee := (.value (.func 178)), args := #[(.tmp 33), (.tmp 34)], argTypes := #[82, 3] }), 3, none⟩,
          ⟨some 1, (.assign (.tmp 35)), 3, none⟩]))))))
      (.rgn [] [⟨some 10, (.move (.tmp 5)), 3, none⟩,
        ⟨some 11, (.binOp .add 3 (.tmp 10) (.const (.int .i64 1)) 3), 3, none⟩,
        ⟨some 5, (.assign (.tmp 11)), 3, none⟩]))))))
  (.seq (.rgn [] [⟨some 36, (.move (.tmp 1)), 3, none⟩,
    ⟨some 4, (.assign (.tmp 36)), 3, none⟩])
  .ret)))
theorem lit83 : Lit Try.prog 83 37 [] [.tmp 4] c83 := ⟨⟨Try.f83, _, Try.func83, rfl, by kernel_rfl, rfl, rfl, by kernel_rfl, by kernel_rfl⟩, by decide, by kernel_rfl⟩
/-- spec.l1In -/
def c86 : LC :=
  (.seq (.rgn [] [⟨some 6, (.assign (.const (.bool false))), 4, none⟩])
  (.seq (.rgn [] [⟨some 7, (.move (.tmp 0)), 3, none⟩,
    ⟨some 8, (.move (.tmp 1)), 3, none⟩,
    ⟨some 9, (.binOp .geq 3 (.tmp 7) (.tmp 8) 3), 4, none⟩,
    ⟨some 10, (.move (.tmp 9)), 4, none⟩,
    ⟨some 11, (.move (.tmp 0)), 3, some (some 10, true)⟩,
    ⟨some 12, (.move (.tmp 2)), 3, some (some 10, true)⟩,
    ⟨some 13, (.binOp .leq 3 (.tmp 11) (.tmp 12) 3), 4, some (some 10, true)⟩,
    ⟨some 14, (.pick (.tmp 10) (.tmp 13) (.const (.bool false))), 4, none⟩,
    ⟨some 6, (.assign (.tmp 14)), 4, none⟩])
  .ret))
theorem lit86 : Lit Try.prog 86 15 [] [.tmp 6] c86 := ⟨⟨Try.f86, _, Try.func86, rfl, by kernel_rfl, rfl, rfl, by kernel_rfl, by kernel_rfl⟩, by decide, by kernel_rfl⟩
/-- spec.l6Copy -/
def c87 : LC :=
  (.seq (.rgn [] [⟨some 1, (.box 33 (.tmp 0)), 0, none⟩,
    ⟨some 2, (.alloc 33), 0, none⟩])
  (.seq (.rgn [] [⟨some 6, (.build 33 #[]), 33, none⟩,
    ⟨some 3, (.alloc 33), 0, none⟩,
    ⟨none, (.store 33 (.tmp 3) (.tmp 6)), 0, none⟩])
  (.seq (.seq (.rgn [] [⟨some 4, (.assign (.const (.int .i64 0))), 3, none⟩])
  (.blk 0
    (.loop [5]
      (.seq (.seq (.rgn [] [⟨some 7, (.move (.tmp 4)), 3, none⟩,
        ⟨some 8, (.fieldAddr 33 (.tmp 1) 0), 0, none⟩,
        ⟨some 9, (.load 31 (.tmp 8)), 31, none⟩,
        ⟨some 10, (.call { callee := (.builtin .len), args := #[(.tmp 9)], argTypes := #[31] }), 3, none⟩,
        ⟨some 11, (.binOp .lss 3 (.tmp 7) (.tmp 10) 3), 4, none⟩])
      (.cond (.tmp 11)
        .skip
        (.exit 0)))
      (.seq (.blk 1
        (.seq (.rgn [] [⟨some 14, (.fieldAddr 33 (.tmp 1) 0), 0, none⟩,
          ⟨some 15, (.load 31 (.tmp 14)), 31, none⟩,
          ⟨some 16, (.move (.tmp 4)), 3, none⟩,
          ⟨some 17, (.indexAddr 31 (.tmp 15) (.tmp 16)), 0, none⟩,
          ⟨some 18, (.fieldAddr 208 (.tmp 17) 1), 0, none⟩,
          ⟨some 19, (.load 128 (.tmp 18)), 128, none⟩,
          ⟨some 20, (.call { callee := (.value (.func 172)), args := #[(.tmp 19)], argTypes := #[128] }), 128, none⟩,
          ⟨some 5, (.alloc 128), 0, none⟩,
          ⟨none, (.store 128 (.tmp 5) (.tmp 20)), 0, none⟩])
        (.drw [22, 29] [([3], [21]), ([3, 21], [3, 21, 22]), ([1], [23]), ([1, 23], [24]), ([4], [25]), ([24, 25], [26]), ([26], [27]), ([27], [28]), ([5], [5, 29]), ([28, 29], [28, 29, 30]), ([30], [30, 31]), ([22, 31], [22, 31, 32]), ([3], [33]), ([3, 32, 33], [3, 32, 33])] [[], [0], [], [2], [], [3, 4], [5], [6], [], [7, 8], [9], [1, 10], [0, 1, 2, 3, 4, 5, 6, 7, 8, 9, 10, 11], [12, 11, 11, 0, 1, 2, 3, 4, 5, 6, 7, 8, 9, 10, 11]] [⟨some 21, (.fieldAddr 33 (.tmp 3) 0), 0, none⟩,
          ⟨some 22, (.load 31 (.tmp 21)), 31, none⟩,
          ⟨some 23, (.fieldAddr 33 (.tmp 1) 0), 0, none⟩,
          ⟨some 24, (.load 31 (.tmp 23)), 31, none⟩,
          ⟨some 25, (.move (.tmp 4)), 3, none⟩,
          ⟨some 26, (.indexAddr 31 (.tmp 24) (.tmp 25)), 0, none⟩,
          ⟨some 27, (.fieldAddr 208 (.tmp 26) 0), 0, none⟩,
          ⟨some 28, (.load 9 (.tmp 27)), 9, none⟩,
          ⟨some 29, (.load 128 (.tmp 5)), 128, none⟩,
          ⟨some 30, (.build 208 #[(0, (.tmp 28)), (1, (.tmp 29))]), 208, none⟩,
          ⟨some 31, (.buildSlice 31 1 #[(0, (.tmp 30))]), 31, none⟩,
          ⟨some 32, (.call { callee := (.builtin .append), args := #[(.tmp 22), (.tmp 31)], argTypes := #[31, 31] }), 31, none⟩,
          ⟨some 33, (.fieldAddr 33 (.tmp 3) 0), 0, none⟩,
          ⟨none, (.store 31 (.tmp 33) (.tmp 32)), 0, none⟩])))
      (.rgn [] [⟨some 12, (.move (.tmp 4)), 3, none⟩,
        ⟨some 13, (.binOp .add 3 (.tmp 12) (.const (.int .i64 1)) 3), 3, none⟩,
        ⟨some 4, (.assign (.tmp 13)), 3, none⟩]))))))
  (.seq (.rgn [34] [⟨some 34, (.load 33 (.tmp 3)), 33, none⟩,
    ⟨none, (.store 33 (.tmp 2) (.tmp 34)), 0, none⟩])
  .ret))))
theorem lit87 : Lit Try.prog 87 35 [1, 2, 3, 5] [.cell 2 33] c87 := ⟨⟨Try.f87, _, Try.func87, rfl, by kernel_rfl, rfl, rfl, by kernel_rfl, by kernel_rfl⟩, by decide, by kernel_rfl⟩
/-- impl.within -/
def c90 : LC :=
  (.seq (.rgn [] [⟨some 6, (.assign (.const (.bool false))), 4, none⟩])
  (.seq (.rgn [] [⟨some 7, (.move (.tmp 0)), 3, none⟩,
    ⟨some 8, (.move (.tmp 1)), 3, none⟩,
    ⟨some 9, (.binOp .geq 3 (.tmp 7) (.tmp 8) 3), 4, none⟩,
    ⟨some 10, (.move (.tmp 9)), 4, none⟩,
    ⟨some 11, (.move (.tmp 0)), 3, some (some 10, true)⟩,
    ⟨some 12, (.move (.tmp 2)), 3, some (some 10, true)⟩,
    ⟨some 13, (.binOp .leq 3 (.tmp 11) (.tmp 12) 3), 4, some (some 10, true)⟩,
    ⟨some 14, (.pick (.tmp 10) (.tmp 13) (.const (.bool false))), 4, none⟩,
    ⟨some 6, (.assign (.tmp 14)), 4, none⟩])
  .ret))
theorem lit90 : Lit Try.prog 90 15 [] [.tmp 6] c90 := ⟨⟨Try.f90, _, Try.func90, rfl, by kernel_rfl, rfl, rfl, by kernel_rfl, by kernel_rfl⟩, by decide, by kernel_rfl⟩
/-- impl.copyDatabase -/
def c91 : LC :=
  (.seq (.rgn [] [⟨some 1, (.box 33 (.tmp 0)), 0, none⟩,
    ⟨some 2, (.alloc 33), 0, none⟩])
  (.seq (.rgn [] [⟨some 3, (.alloc 33), 0, none⟩])
  (.seq (.seq (.rgn [] [⟨some 6, (.fieldAddr 33 (.tmp 1) 0), 0, none⟩,
    ⟨some 7, (.load 31 (.tmp 6)), 31, none⟩,
    ⟨some 8, (.call { callee := (.builtin .len), args := #[(.tmp 7)], argTypes := #[31] }), 3, none⟩,
    ⟨some 9, (.move (.const (.int .i64 0))), 3, none⟩])
  (.blk 0
    (.loop [5]
      (.seq (.rgn [] [⟨some 10, (.binOp .lss 3 (.tmp 9) (.tmp 8) 3), 0, none⟩])
      (.seq (.cond (.tmp 10)
        .skip
        (.exit 0))
      (.seq (.blk 1
        (.seq (.rgn [12] [⟨some 11, (.indexAddr 31 (.tmp 7) (.tmp 9)), 0, none⟩,
          ⟨some 12, (.load 208 (.tmp 11)), 208, none⟩,
          ⟨some 5, (.alloc 208), 0, none⟩,
          ⟨none, (.store 208 (.tmp 5) (.tmp 12)), 0, none⟩])
        (.drw [14] [([3], [13]), ([3, 13], [3, 13, 14]), ([5], [15]), ([5, 15], [16]), ([5], [17]), ([5, 17], [18]), ([18], [19]), ([16, 19], [16, 19, 20]), ([20], [20, 21]), ([14, 21], [14, 21, 22]), ([3], [23]), ([3, 22, 23], [3, 22, 23])] [[], [0], [], [2], [], [4], [5], [3, 6], [7], [1, 8, 6], [0, 1, 2, 3, 4, 5, 6, 7, 8, 9], [10, 9, 9, 0, 1, 2, 3, 4, 5, 6, 7, 8, 9]] [⟨some 13, (.fieldAddr 33 (.tmp 3) 0), 0, none⟩,
          ⟨some 14, (.load 31 (.tmp 13)), 31, none⟩,
          ⟨some 15, (.fieldAddr 208 (.tmp 5) 0), 0, none⟩,
          ⟨some 16, (.load 9 (.tmp 15)), 9, none⟩,
          ⟨some 17, (.fieldAddr 208 (.tmp 5) 1), 0, none⟩,
          ⟨some 18, (.load 128 (.tmp 17)), 128, none⟩,
          ⟨some 19, (.call { callee := (.value (.func 175)), args := #[(.tmp 18)], argTypes := #[128] }), 128, none⟩,
          ⟨some 20, (.build 208 #[(0, (.tmp 16)), (1, (.tmp 19))]), 208, none⟩,
          ⟨some 21, (.buildSlice 31 1 #[(0, (.tmp 20))]), 31, none⟩,
          ⟨some 22, (.call { callee := (.builtin .append), args := #[(.tmp 14), (.tmp 21)], argTypes := #[31, 31] }), 31, none⟩,
          ⟨some 23, (.fieldAddr 33 (.tmp 3) 0), 0, none⟩,
          ⟨none, (.store 31 (.tmp 23) (.tmp 22)), 0, none⟩])))
      (.rgn [] [⟨some 24, (.binOp .add 3 (.tmp 9) (.const (.int .i64 1)) 3), 3, none⟩,
        ⟨some 9, (.move (.tmp 24)), 3, none⟩])))))))
  (.seq (.rgn [25] [⟨some 25, (.load 33 (.tmp 3)), 33, none⟩,
    ⟨none, (.store 33 (.tmp 2) (.tmp 25)), 0, none⟩])
  .ret))))
theorem lit91 : Lit Try.prog 91 26 [1, 2, 3, 5] [.cell 2 33] c91 := ⟨⟨Try.f91, _, Try.func91, rfl, by kernel_rfl, rfl, rfl, by kernel_rfl, by kernel_rfl⟩, by decide, by kernel_rfl⟩
/-- laws.heldTableS -/
def c94 : LC :=
  (.seq (.rgn [] [⟨some 4, (.assign (.const (.int .i64 0))), 3, none⟩])
  (.seq (.seq (.rgn [] [⟨some 5, (.assign (.const (.int .i64 0))), 3, none⟩])
  (.blk 0
    (.loop []
      (.seq (.seq (.rgn [] [⟨some 6, (.move (.tmp 5)), 3, none⟩,
        ⟨some 7, (.move (.tmp 0)), 31, none⟩,
        ⟨some 8, (.call { callee := (.builtin .len), args := #[(.tmp 7)], argTypes := #[31] }), 3, none⟩,
        ⟨some 9, (.binOp .lss 3 (.tmp 6) (.tmp 8) 3), 4, none⟩])
      (.cond (.tmp 9)
        .skip
        (.exit 0)))
      (.seq (.blk 1
        (.seq (.seq (.drw [] [([0], [12]), ([5], [13]), ([12, 13], [14]), ([14], [15]), ([15], [16]), ([1], [17]), ([17], [18]), ([16, 18], [19])] [[], [], [0, 1], [2], [3], [], [5], [4, 6]] [⟨some 12, (.move (.tmp 0)), 31, none⟩,
          ⟨some 13, (.move (.tmp 5)), 3, none⟩,
          ⟨some 14, (.indexAddr 31 (.tmp 12) (.tmp 13)), 0, none⟩,
          ⟨some 15, (.fieldAddr 208 (.tmp 14) 0), 0, none⟩,
          ⟨some 16, (.load 9 (.tmp 15)), 9, none⟩,
          ⟨some 17, (.move (.tmp 1)), 3, none⟩,
          ⟨some 18, (.call { callee := (.value (.func 177)), args := #[(.tmp 17)], argTypes := #[3] }), 9, none⟩,
          ⟨some 19, (.binOp .neq 9 (.tmp 16) (.tmp 18) 9), 4, none⟩])
        (.cond (.tmp 19)
          (.seq (.rgn [] [⟨some 4, (.assign (.const (.int .i64 (-1)))), 3, none⟩])
          .ret)
          .skip))
        (.seq (.rgn [] [⟨some 20, (.move (.tmp 1)), 3, none⟩,
          ⟨some 21, (.binOp .add 3 (.tmp 20) (.const (.int .i64 1)) 3), 3, none⟩,
          ⟨some 1, (.assign (.tmp 21)), 3, none⟩])
        (.seq (.seq (.rgn [] [⟨some 22, (.move (.tmp 0)), 31, none⟩,
          ⟨some 23, (.move (.tmp 5)), 3, none⟩,
          ⟨some 24, (.indexAddr 31 (.tmp 22) (.tmp 23)), 0, none⟩,
          ⟨some 25, (.fieldAddr 208 (.tmp 24) 1), 0, none⟩,
          ⟨some 26, (.fieldAddr 128 (.tmp 25) 0), 0, none⟩,
          ⟨some 27, (.load 3 (.tmp 26)), 3, none⟩,
          ⟨some 28, (.move (.tmp 1)), 3, none⟩,
          ⟨some 29, (.binOp .neq 3 (.tmp 27) (.tmp 28) 3), 4, none⟩])
        (.cond (.tmp 29)
          (.seq (.rgn [] [⟨some 4, (.assign (.const (.int .i64 (-1)))), 3, none⟩])
          .ret)
          .skip))
        (.seq (.rgn [] [⟨some 30, (.move (.tmp 1)), 3, none⟩,
          ⟨some 31, (.binOp .add 3 (.tmp 30) (.const (.int .i64 1)) 3), 3, none⟩,
          ⟨some 1, (.assign (.tmp 31)), 3, none⟩])
        (.seq (.rgn [] [⟨some 32, (.move (.tmp 0)), 31, none⟩,
          ⟨some 33, (.move (.tmp 5)), 3, none⟩,
          ⟨some 34, (.indexAddr 31 (.tmp 32) (.tmp 33)), 0, none⟩,
          ⟨some 35, (.fieldAddr 208 (.tmp 34) 1), 0, none⟩,
          ⟨some 36, (.fieldAddr 128 (.tmp 35) 1), 0, none⟩,
          ⟨some 37, (.load 82 (.tmp 36)), 82, none⟩,
          ⟨some 38, (.move (.tmp 1)), 3, none⟩,
          ⟨some 39, (.call { callee := (.value (.func 179)), args := #[(.tmp 37), (.tmp 38)], argTypes := #[82, 3] }), 3, none⟩,
          ⟨some 1, (.assign (.tmp 39)), 3, none⟩])
        (.seq (.rgn [] [⟨some 40, (.move (.tmp 1)), 3, none⟩,
          ⟨some 41, (.binOp .lss 3 (.tmp 40) (.const (.int .i64 0)) 3), 4, none⟩])
        (.cond (.tmp 41)
          (.seq (.rgn [] [⟨some 4, (.assign (.const (.int .i64 (-1)))), 3, none⟩])
          .ret)
          .skip))))))))
      (.rgn [] [⟨some 10, (.move (.tmp 5)), 3, none⟩,
        ⟨some 11, (.binOp .add 3 (.tmp 10) (.const (.int .i64 1)) 3), 3, none⟩,
        ⟨some 5, (.assign (.tmp 11)), 3, none⟩]))))))
  (.seq (.rgn [] [⟨some 42, (.move (.tmp 1)), 3, none⟩,
    ⟨some 4, (.assign (.tmp 42)), 3, none⟩])
  .ret)))
theorem lit94 : Lit Try.prog 94 43 [] [.tmp 4] c94 := ⟨⟨Try.f94, _, Try.func94, rfl, by kernel_rfl, rfl, rfl, by kernel_rfl, by kernel_rfl⟩, by decide, by kernel_rfl⟩
/-- laws.eqViewS -/
def c118 : LC :=
  (.seq (.rgn [] [⟨some 4, (.assign (.const (.bool false))), 4, none⟩])
  (.seq (.seq (.rgn [] [⟨some 6, (.move (.tmp 0)), 71, none⟩,
    ⟨some 7, (.call { callee := (.builtin .len), args := #[(.tmp 6)], argTypes := #[71] }), 3, none⟩,
    ⟨some 8, (.move (.tmp 1)), 71, none⟩,
    ⟨some 9, (.call { callee := (.builtin .len), args := #[(.tmp 8)], argTypes := #[71] }), 3, none⟩,
    ⟨some 10, (.binOp .neq 3 (.tmp 7) (.tmp 9) 3), 4, none⟩])
  (.cond (.tmp 10)
    (.seq (.rgn [] [⟨some 4, (.assign (.const (.bool false))), 4, none⟩])
    .ret)
    .skip))
  (.seq (.seq (.rgn [] [⟨some 5, (.assign (.const (.int .i64 0))), 3, none⟩])
  (.blk 0
    (.loop []
      (.seq (.seq (.rgn [] [⟨some 11, (.move (.tmp 5)), 3, none⟩,
        ⟨some 12, (.move (.tmp 0)), 71, none⟩,
        ⟨some 13, (.call { callee := (.builtin .len), args := #[(.tmp 12)], argTypes := #[71] }), 3, none⟩,
        ⟨some 14, (.binOp .lss 3 (.tmp 11) (.tmp 13) 3), 4, none⟩])
      (.cond (.tmp 14)
        .skip
        (.exit 0)))
      (.seq (.blk 1
        (.seq (.drw [] [([0], [17]), ([5], [18]), ([17, 18], [19]), ([19], [20]), ([1], [21]), ([5], [22]), ([21, 22], [23]), ([23], [24]), ([20, 24], [25]), ([25], [26])] [[], [], [0, 1], [2], [], [], [4, 5], [6], [3, 7], [8]] [⟨some 17, (.move (.tmp 0)), 71, none⟩,
          ⟨some 18, (.move (.tmp 5)), 3, none⟩,
          ⟨some 19, (.indexAddr 71 (.tmp 17) (.tmp 18)), 0, none⟩,
          ⟨some 20, (.load 161 (.tmp 19)), 161, none⟩,
          ⟨some 21, (.move (.tmp 1)), 71, none⟩,
          ⟨some 22, (.move (.tmp 5)), 3, none⟩,
          ⟨some 23, (.indexAddr 71 (.tmp 21) (.tmp 22)), 0, none⟩,
          ⟨some 24, (.load 161 (.tmp 23)), 161, none⟩,
          ⟨some 25, (.call { callee := (.value (.func 196)), args := #[(.tmp 20), (.tmp 24)], argTypes := #[161, 161] }), 4, none⟩,
          ⟨some 26, (.unOp .not 4 (.tmp 25)), 4, none⟩])
        (.cond (.tmp 26)
          (.seq (.rgn [] [⟨some 4, (.assign (.const (.bool false))), 4, none⟩])
          .ret)
          .skip)))
      (.rgn [] [⟨some 15, (.move (.tmp 5)), 3, none⟩,
        ⟨some 16, (.binOp .add 3 (.tmp 15) (.const (.int .i64 1)) 3), 3, none⟩,
        ⟨some 5, (.assign (.tmp 16)), 3, none⟩]))))))
  (.seq (.rgn [] [⟨some 4, (.assign (.const (.bool true))), 4, none⟩])
  .ret))))
theorem lit118 : Lit Try.prog 118 27 [] [.tmp 4] c118 := ⟨⟨Try.f118, _, Try.func118, rfl, by kernel_rfl, rfl, rfl, by kernel_rfl, by kernel_rfl⟩, by decide, by kernel_rfl⟩
/-- laws.eqCountedRelationS -/
def c119 : LC :=
  (.seq (.rgn [] [⟨some 4, (.assign (.const (.bool false))), 4, none⟩])
  (.seq (.seq (.rgn [] [⟨some 6, (.move (.tmp 0)), 72, none⟩,
    ⟨some 7, (.call { callee := (.builtin .len), args := #[(.tmp 6)], argTypes := #[72] }), 3, none⟩,
    ⟨some 8, (.move (.tmp 1)), 72, none⟩,
    ⟨some 9, (.call { callee := (.builtin .len), args := #[(.tmp 8)], argTypes := #[72] }), 3, none⟩,
    ⟨some 10, (.binOp .neq 3 (.tmp 7) (.tmp 9) 3), 4, none⟩])
  (.cond (.tmp 10)
    (.seq (.rgn [] [⟨some 4, (.assign (.const (.bool false))), 4, none⟩])
    .ret)
    .skip))
  (.seq (.seq (.rgn [] [⟨some 5, (.assign (.const (.int .i64 0))), 3, none⟩])
  (.blk 0
    (.loop []
      (.seq (.seq (.rgn [] [⟨some 11, (.move (.tmp 5)), 3, none⟩,
        ⟨some 12, (.move (.tmp 0)), 72, none⟩,
        ⟨some 13, (.call { callee := (.builtin .len), args := #[(.tmp 12)], argTypes := #[72] }), 3, none⟩,
        ⟨some 14, (.binOp .lss 3 (.tmp 11) (.tmp 13) 3), 4, none⟩])
      (.cond (.tmp 14)
        .skip
        (.exit 0)))
      (.seq (.blk 1
        (.seq (.drw [] [([0], [17]), ([5], [18]), ([17, 18], [19]), ([19], [20]), ([1], [21]), ([5], [22]), ([21, 22], [23]), ([23], [24]), ([20, 24], [25]), ([25], [26])] [[], [], [0, 1], [2], [], [], [4, 5], [6], [3, 7], [8]] [⟨some 17, (.move (.tmp 0)), 72, none⟩,
          ⟨some 18, (.move (.tmp 5)), 3, none⟩,
          ⟨some 19, (.indexAddr 72 (.tmp 17) (.tmp 18)), 0, none⟩,
          ⟨some 20, (.load 159 (.tmp 19)), 159, none⟩,
          ⟨some 21, (.move (.tmp 1)), 72, none⟩,
          ⟨some 22, (.move (.tmp 5)), 3, none⟩,
          ⟨some 23, (.indexAddr 72 (.tmp 21) (.tmp 22)), 0, none⟩,
          ⟨some 24, (.load 159 (.tmp 23)), 159, none⟩,
          ⟨some 25, (.call { callee := (.value (.func 197)), args := #[(.tmp 20), (.tmp 24)], argTypes := #[159, 159] }), 4, none⟩,
          ⟨some 26, (.unOp .not 4 (.tmp 25)), 4, none⟩])
        (.cond (.tmp 26)
          (.seq (.rgn [] [⟨some 4, (.assign (.const (.bool false))), 4, none⟩])
          .ret)
          .skip)))
      (.rgn [] [⟨some 15, (.move (.tmp 5)), 3, none⟩,
        ⟨some 16, (.binOp .add 3 (.tmp 15) (.const (.int .i64 1)) 3), 3, none⟩,
        ⟨some 5, (.assign (.tmp 16)), 3, none⟩]))))))
  (.seq (.rgn [] [⟨some 4, (.assign (.const (.bool true))), 4, none⟩])
  .ret))))
theorem lit119 : Lit Try.prog 119 27 [] [.tmp 4] c119 := ⟨⟨Try.f119, _, Try.func119, rfl, by kernel_rfl, rfl, rfl, by kernel_rfl, by kernel_rfl⟩, by decide, by kernel_rfl⟩
/-- laws.eqAtomS -/
def c132 : LC :=
  (.seq (.rgn [] [⟨some 4, (.assign (.const (.bool false))), 4, none⟩])
  (.seq (.seq (.rgn [] [⟨some 6, (.move (.tmp 0)), 90, none⟩,
    ⟨some 7, (.call { callee := (.builtin .len), args := #[(.tmp 6)], argTypes := #[90] }), 3, none⟩,
    ⟨some 8, (.move (.tmp 1)), 90, none⟩,
    ⟨some 9, (.call { callee := (.builtin .len), args := #[(.tmp 8)], argTypes := #[90] }), 3, none⟩,
    ⟨some 10, (.binOp .neq 3 (.tmp 7) (.tmp 9) 3), 4, none⟩])
  (.cond (.tmp 10)
    (.seq (.rgn [] [⟨some 4, (.assign (.const (.bool false))), 4, none⟩])
    .ret)
    .skip))
  (.seq (.seq (.rgn [] [⟨some 5, (.assign (.const (.int .i64 0))), 3, none⟩])
  (.blk 0
    (.loop []
      (.seq (.seq (.rgn [] [⟨some 11, (.move (.tmp 5)), 3, none⟩,
        ⟨some 12, (.move (.tmp 0)), 90, none⟩,
        ⟨some 13, (.call { callee := (.builtin .len), args := #[(.tmp 12)], argTypes := #[90] }), 3, none⟩,
        ⟨some 14, (.binOp .lss 3 (.tmp 11) (.tmp 13) 3), 4, none⟩])
      (.cond (.tmp 14)
        .skip
        (.exit 0)))
      (.seq (.blk 1
        (.seq (.drw [] [([0], [17]), ([5], [18]), ([17, 18], [19]), ([19], [20]), ([1], [21]), ([5], [22]), ([21, 22], [23]), ([23], [24]), ([20, 24], [25]), ([25], [26])] [[], [], [0, 1], [2], [], [], [4, 5], [6], [3, 7], [8]] [⟨some 17, (.move (.tmp 0)), 90, none⟩,
          ⟨some 18, (.move (.tmp 5)), 3, none⟩,
          ⟨some 19, (.indexAddr 90 (.tmp 17) (.tmp 18)), 0, none⟩,
          ⟨some 20, (.load 195 (.tmp 19)), 195, none⟩,
          ⟨some 21, (.move (.tmp 1)), 90, none⟩,
          ⟨some 22, (.move (.tmp 5)), 3, none⟩,
          ⟨some 23, (.indexAddr 90 (.tmp 21) (.tmp 22)), 0, none⟩,
          ⟨some 24, (.load 195 (.tmp 23)), 195, none⟩,
          ⟨some 25, (.call { callee := (.value (.func 214)), args := #[(.tmp 20), (.tmp 24)], argTypes := #[195, 195] }), 4, none⟩,
          ⟨some 26, (.unOp .not 4 (.tmp 25)), 4, none⟩])
        (.cond (.tmp 26)
          (.seq (.rgn [] [⟨some 4, (.assign (.const (.bool false))), 4, none⟩])
          .ret)
          .skip)))
      (.rgn [] [⟨some 15, (.move (.tmp 5)), 3, none⟩,
        ⟨some 16, (.binOp .add 3 (.tmp 15) (.const (.int .i64 1)) 3), 3, none⟩,
        ⟨some 5, (.assign (.tmp 16)), 3, none⟩]))))))
  (.seq (.rgn [] [⟨some 4, (.assign (.const (.bool true))), 4, none⟩])
  .ret))))
theorem lit132 : Lit Try.prog 132 27 [] [.tmp 4] c132 := ⟨⟨Try.f132, _, Try.func132, rfl, by kernel_rfl, rfl, rfl, by kernel_rfl, by kernel_rfl⟩, by decide, by kernel_rfl⟩
/-- spec.IsValidDatabase -/
def c135 : LC :=
  (.seq (.rgn [] [⟨some 1, (.box 33 (.tmp 0)), 0, none⟩,
    ⟨some 2, (.assign (.const (.bool false))), 4, none⟩])
  (.seq (.seq (.rgn [] [⟨some 3, (.assign (.const (.int .i64 0))), 3, none⟩])
  (.blk 0
    (.loop [4]
      (.seq (.seq (.rgn [] [⟨some 5, (.move (.tmp 3)), 3, none⟩,
        ⟨some 6, (.fieldAddr 33 (.tmp 1) 0), 0, none⟩,
        ⟨some 7, (.load 31 (.tmp 6)), 31, none⟩,
        ⟨some 8, (.call { callee := (.builtin .len), args := #[(.tmp 7)], argTypes := #[31] }), 3, none⟩,
        ⟨some 9, (.binOp .lss 3 (.tmp 5) (.tmp 8) 3), 4, none⟩])
      (.cond (.tmp 9)
        .skip
        (.exit 0)))
      (.seq (.blk 1
        (.seq (.rgn [16] [⟨some 12, (.fieldAddr 33 (.tmp 1) 0), 0, none⟩,
          ⟨some 13, (.load 31 (.tmp 12)), 31, none⟩,
          ⟨some 14, (.move (.tmp 3)), 3, none⟩,
          ⟨some 15, (.indexAddr 31 (.tmp 13) (.tmp 14)), 0, none⟩,
          ⟨some 16, (.load 208 (.tmp 15)), 208, none⟩,
          ⟨some 4, (.alloc 208), 0, none⟩,
          ⟨none, (.store 208 (.tmp 4) (.tmp 16)), 0, none⟩])
        (.seq (.drw [] [([4], [17]), ([4, 17], [18]), ([18], [19]), ([19], [20]), ([20], [21]), ([3, 21], [22]), ([21, 22], [23]), ([21, 23], [24]), ([1, 24], [25]), ([1, 24, 25], [26]), ([3, 24], [27]), ([24, 27], [28]), ([24, 26, 28], [29]), ([24, 29], [30]), ([24, 30], [31]), ([4, 24], [32]), ([4, 24, 32], [33]), ([24, 31, 33], [34]), ([21, 24, 34], [35]), ([21, 35], [36]), ([36], [37]), ([4, 37], [38]), ([4, 37, 38], [39]), ([37, 39], [40]), ([37, 40], [41]), ([37, 41], [42]), ([42], [43]), ([4, 43], [44]), ([4, 43, 44], [45]), ([4, 43, 45], [46]), ([43, 46], [47]), ([43, 47], [48]), ([43, 48], [49]), ([49], [50]), ([4, 50], [51]), ([4, 50, 51], [52]), ([4, 50, 52], [53]), ([50, 53], [54]), ([50, 54], [55])] [[], [0], [1], [2], [3, 2], [4], [5, 4], [6, 4, 4], [7], [8, 7], [7], [10, 7], [9, 11, 7], [12, 7], [13, 7], [7], [15, 7], [14, 16, 7], [7, 17, 4], [4, 18], [19, 7], [20], [21, 20], [22, 20, 20], [23, 20], [20, 24], [25, 23], [26], [27, 26], [28, 26], [29, 26], [30, 26], [26, 31], [32, 26], [33], [34, 33], [35, 33], [36, 33], [33, 37]] [⟨some 17, (.fieldAddr 208 (.tmp 4) 0), 0, none⟩,
          ⟨some 18, (.load 9 (.tmp 17)), 9, none⟩,
          ⟨some 19, (.call { callee := (.value (.func 216)), args := #[(.tmp 18)], argTypes := #[9] }), 4, none⟩,
          ⟨some 20, (.unOp .not 4 (.tmp 19)), 4, none⟩,
          ⟨some 21, (.move (.tmp 20)), 4, none⟩,
          ⟨some 22, (.move (.tmp 3)), 3, some (some 21, false)⟩,
          ⟨some 23, (.binOp .gtr 3 (.tmp 22) (.const (.int .i64 0)) 3), 4, some (some 21, false)⟩,
          ⟨some 24, (.move (.tmp 23)), 4, some (some 21, false)⟩,
          ⟨some 25, (.fieldAddr 33 (.tmp 1) 0), 0, some (some 24, true)⟩,
          ⟨some 26, (.load 31 (.tmp 25)), 31, some (some 24, true)⟩,
          ⟨some 27, (.move (.tmp 3)), 3, some (some 24, true)⟩,
          ⟨some 28, (.binOp .sub 3 (.tmp 27) (.const (.int .i64 1)) 3), 3, some (some 24, true)⟩,
          ⟨some 29, (.indexAddr 31 (.tmp 26) (.tmp 28)), 0, some (some 24, true)⟩,
          ⟨some 30, (.fieldAddr 208 (.tmp 29) 0), 0, some (some 24, true)⟩,
          ⟨some 31, (.load 9 (.tmp 30)), 9, some (some 24, true)⟩,
          ⟨some 32, (.fieldAddr 208 (.tmp 4) 0), 0, some (some 24, true)⟩,
          ⟨some 33, (.load 9 (.tmp 32)), 9, some (some 24, true)⟩,
          ⟨some 34, (.binOp .geq 9 (.tmp 31) (.tmp 33) 9), 4, some (some 24, true)⟩,
          ⟨some 35, (.pick (.tmp 24) (.tmp 34) (.const (.bool false))), 4, some (some 21, false)⟩,
          ⟨some 36, (.pick (.tmp 21) (.const (.bool true)) (.tmp 35)), 4, none⟩,
          ⟨some 37, (.move (.tmp 36)), 4, none⟩,
          ⟨some 38, (.fieldAddr 208 (.tmp 4) 1), 0, some (some 37, false)⟩,
          ⟨some 39, (.load 128 (.tmp 38)), 128, some (some 37, false)⟩,
          ⟨some 40, (.call { callee := (.value (.func 217)), args := #[(.tmp 39)], argTypes := #[128] }), 4, some (some 37, false)⟩,
          ⟨some 41, (.unOp .not 4 (.tmp 40)), 4, some (some 37, false)⟩,
          ⟨some 42, (.pick (.tmp 37) (.const (.bool true)) (.tmp 41)), 4, none⟩,
          ⟨some 43, (.move (.tmp 42)), 4, none⟩,
          ⟨some 44, (.fieldAddr 208 (.tmp 4) 1), 0, some (some 43, false)⟩,
          ⟨some 45, (.fieldAddr 128 (.tmp 44) 1), 0, some (some 43, false)⟩,
          ⟨some 46, (.load 82 (.tmp 45)), 82, some (some 43, false)⟩,
          ⟨some 47, (.call { callee := (.builtin .len), args := #[(.tmp 46)], argTypes := #[82] }), 3, some (some 43, false)⟩,
          ⟨some 48, (.binOp .gtr 3 (.tmp 47) (.const (.int .i64 16)) 3), 4, some (some 43, false)⟩,
          ⟨some 49, (.pick (.tmp 43) (.const (.bool true)) (.tmp 48)), 4, none⟩,
          ⟨some 50, (.move (.tmp 49)), 4, none⟩,
          ⟨some 51, (.fieldAddr 208 (.tmp 4) 1), 0, some (some 50, false)⟩,
          ⟨some 52, (.fieldAddr 128 (.tmp 51) 0), 0, some (some 50, false)⟩,
          ⟨some 53, (.load 3 (.tmp 52)), 3, some (some 50, false)⟩,
          ⟨some 54, (.binOp .lss 3 (.tmp 53) (.const (.int .i64 1)) 3), 4, some (some 50, false)⟩,
          ⟨some 55, (.pick (.tmp 50) (.const (.bool true)) (.tmp 54)), 4, none⟩])
        (.cond (.tmp 55)
          (.seq (.rgn [] [⟨some 2, (.assign (.const (.bool false))), 4, none⟩])
          .ret)
          .skip))))
      (.rgn [] [⟨some 10, (.move (.tmp 3)), 3, none⟩,
        ⟨some 11, (.binOp .add 3 (.tmp 10) (.const (.int .i64 1)) 3), 3, none⟩,
        ⟨some 3, (.assign (.tmp 11)), 3, none⟩]))))))
  (.seq (.rgn [] [⟨some 56, (.fieldAddr 33 (.tmp 1) 0), 0, none⟩,
    ⟨some 57, (.load 31 (.tmp 56)), 31, none⟩,
    ⟨some 58, (.call { callee := (.builtin .len), args := #[(.tmp 57)], argTypes := #[31] }), 3, none⟩,
    ⟨some 59, (.binOp .leq 3 (.tmp 58) (.const (.int .i64 6)) 3), 4, none⟩,
    ⟨some 2, (.assign (.tmp 59)), 4, none⟩])
  .ret)))
theorem lit135 : Lit Try.prog 135 60 [1, 4] [.tmp 2] c135 := ⟨⟨Try.f135, _, Try.func135, rfl, by kernel_rfl, rfl, rfl, by kernel_rfl, by kernel_rfl⟩, by decide, by kernel_rfl⟩
/-- impl.IsValidDatabase -/
def c136 : LC :=
  (.seq (.rgn [] [⟨some 1, (.box 33 (.tmp 0)), 0, none⟩,
    ⟨some 2, (.assign (.const (.bool false))), 4, none⟩])
  (.seq (.seq (.rgn [] [⟨some 5, (.fieldAddr 33 (.tmp 1) 0), 0, none⟩,
    ⟨some 6, (.load 31 (.tmp 5)), 31, none⟩,
    ⟨some 7, (.call { callee := (.builtin .len), args := #[(.tmp 6)], argTypes := #[31] }), 3, none⟩,
    ⟨some 8, (.binOp .gtr 3 (.tmp 7) (.const (.int .i64 6)) 3), 4, none⟩])
  (.cond (.tmp 8)
    (.seq (.rgn [] [⟨some 2, (.assign (.const (.bool false))), 4, none⟩])
    .ret)
    .skip))
  (.seq (.seq (.rgn [] [⟨some 9, (.fieldAddr 33 (.tmp 1) 0), 0, none⟩,
    ⟨some 10, (.load 31 (.tmp 9)), 31, none⟩,
    ⟨some 11, (.call { callee := (.builtin .len), args := #[(.tmp 10)], argTypes := #[31] }), 3, none⟩,
    ⟨some 12, (.move (.const (.int .i64 0))), 3, none⟩])
  (.blk 0
    (.loop [4]
      (.seq (.rgn [] [⟨some 13, (.binOp .lss 3 (.tmp 12) (.tmp 11) 3), 0, none⟩])
      (.seq (.cond (.tmp 13)
        .skip
        (.exit 0))
      (.seq (.blk 1
        (.seq (.rgn [16] [⟨some 14, (.move (.tmp 12)), 3, none⟩,
          ⟨some 15, (.indexAddr 31 (.tmp 10) (.tmp 12)), 0, none⟩,
          ⟨some 16, (.load 208 (.tmp 15)), 208, none⟩,
          ⟨some 4, (.alloc 208), 0, none⟩,
          ⟨some 3, (.assign (.tmp 14)), 3, none⟩,
          ⟨none, (.store 208 (.tmp 4) (.tmp 16)), 0, none⟩])
        (.seq (.drw [] [([4], [17]), ([4, 17], [18]), ([18], [19]), ([19], [20]), ([20], [21]), ([3, 21], [22]), ([21, 22], [23]), ([21, 23], [24]), ([1, 24], [25]), ([1, 24, 25], [26]), ([3, 24], [27]), ([24, 27], [28]), ([24, 26, 28], [29]), ([24, 29], [30]), ([24, 30], [31]), ([4, 24], [32]), ([4, 24, 32], [33]), ([24, 31, 33], [34]), ([21, 24, 34], [35]), ([21, 35], [36]), ([36], [37]), ([4, 37], [38]), ([4, 37, 38], [39]), ([37, 39], [40]), ([37, 40], [41]), ([37, 41], [42]), ([42], [43]), ([4, 43], [44]), ([4, 43, 44], [45]), ([4, 43, 45], [46]), ([43, 46], [47]), ([43, 47], [48]), ([48], [49]), ([4, 49], [50]), ([4, 49, 50], [51]), ([4, 49, 51], [52]), ([49, 52], [53]), ([49, 53], [54]), ([49, 54], [55])] [[], [0], [1], [2], [3, 2], [4], [5, 4], [6, 4, 4], [7], [8, 7], [7], [10, 7], [9, 11, 7], [12, 7], [13, 7], [7], [15, 7], [14, 16, 7], [7, 17, 4], [4, 18], [19, 7], [20], [21, 20], [22, 20, 20], [23, 20], [20, 24], [25, 23], [26], [27, 26], [28, 26], [29, 26], [26, 30], [31, 26], [32], [33, 32], [34, 32], [35, 32], [36, 32], [32, 37]] [⟨some 17, (.fieldAddr 208 (.tmp 4) 0), 0, none⟩,
          ⟨some 18, (.load 9 (.tmp 17)), 9, none⟩,
          ⟨some 19, (.call { callee := (.value (.func 218)), args := #[(.tmp 18)], argTypes := #[9] }), 4, none⟩,
          ⟨some 20, (.unOp .not 4 (.tmp 19)), 4, none⟩,
          ⟨some 21, (.move (.tmp 20)), 4, none⟩,
          ⟨some 22, (.move (.tmp 3)), 3, some (some 21, false)⟩,
          ⟨some 23, (.binOp .gtr 3 (.tmp 22) (.const (.int .i64 0)) 3), 4, some (some 21, false)⟩,
          ⟨some 24, (.move (.tmp 23)), 4, some (some 21, false)⟩,
          ⟨some 25, (.fieldAddr 33 (.tmp 1) 0), 0, some (some 24, true)⟩,
          ⟨some 26, (.load 31 (.tmp 25)), 31, some (some 24, true)⟩,
          ⟨some 27, (.move (.tmp 3)), 3, some (some 24, true)⟩,
          ⟨some 28, (.binOp .sub 3 (.tmp 27) (.const (.int .i64 1)) 3), 3, some (some 24, true)⟩,
          ⟨some 29, (.indexAddr 31 (.tmp 26) (.tmp 28)), 0, some (some 24, true)⟩,
          ⟨some 30, (.fieldAddr 208 (.tmp 29) 0), 0, some (some 24, true)⟩,
          ⟨some 31, (.load 9 (.tmp 30)), 9, some (some 24, true)⟩,
          ⟨some 32, (.fieldAddr 208 (.tmp 4) 0), 0, some (some 24, true)⟩,
          ⟨some 33, (.load 9 (.tmp 32)), 9, some (some 24, true)⟩,
          ⟨some 34, (.binOp .geq 9 (.tmp 31) (.tmp 33) 9), 4, some (some 24, true)⟩,
          ⟨some 35, (.pick (.tmp 24) (.tmp 34) (.const (.bool false))), 4, some (some 21, false)⟩,
          ⟨some 36, (.pick (.tmp 21) (.const (.bool true)) (.tmp 35)), 4, none⟩,
          ⟨some 37, (.move (.tmp 36)), 4, none⟩,
          ⟨some 38, (.fieldAddr 208 (.tmp 4) 1), 0, some (some 37, false)⟩,
          ⟨some 39, (.load 128 (.tmp 38)), 128, some (some 37, false)⟩,
          ⟨some 40, (.call { callee := (.value (.func 219)), args := #[(.tmp 39)], argTypes := #[128] }), 4, some (some 37, false)⟩,
          ⟨some 41, (.unOp .not 4 (.tmp 40)), 4, some (some 37, false)⟩,
          ⟨some 42, (.pick (.tmp 37) (.const (.bool true)) (.tmp 41)), 4, none⟩,
          ⟨some 43, (.move (.tmp 42)), 4, none⟩,
          ⟨some 44, (.fieldAddr 208 (.tmp 4) 1), 0, some (some 43, false)⟩,
          ⟨some 45, (.fieldAddr 128 (.tmp 44) 0), 0, some (some 43, false)⟩,
          ⟨some 46, (.load 3 (.tmp 45)), 3, some (some 43, false)⟩,
          ⟨some 47, (.binOp .lss 3 (.tmp 46) (.const (.int .i64 1)) 3), 4, some (some 43, false)⟩,
          ⟨some 48, (.pick (.tmp 43) (.const (.bool true)) (.tmp 47)), 4, none⟩,
          ⟨some 49, (.move (.tmp 48)), 4, none⟩,
          ⟨some 50, (.fieldAddr 208 (.tmp 4) 1), 0, some (some 49, false)⟩,
          ⟨some 51, (.fieldAddr 128 (.tmp 50) 1), 0, some (some 49, false)⟩,
          ⟨some 52, (.load 82 (.tmp 51)), 82, some (some 49, false)⟩,
          ⟨some 53, (.call { callee := (.builtin .len), args := #[(.tmp 52)], argTypes := #[82] }), 3, some (some 49, false)⟩,
          ⟨some 54, (.binOp .gtr 3 (.tmp 53) (.const (.int .i64 16)) 3), 4, some (some 49, false)⟩,
          ⟨some 55, (.pick (.tmp 49) (.const (.bool true)) (.tmp 54)), 4, none⟩])
        (.cond (.tmp 55)
          (.seq (.rgn [] [⟨some 2, (.assign (.const (.bool false))), 4, none⟩])
          .ret)
          .skip))))
      (.rgn [] [⟨some 56, (.binOp .add 3 (.tmp 12) (.const (.int .i64 1)) 3), 3, none⟩,
        ⟨some 12, (.move (.tmp 56)), 3, none⟩])))))))
  (.seq (.rgn [] [⟨some 2, (.assign (.const (.bool true))), 4, none⟩])
  .ret))))
theorem lit136 : Lit Try.prog 136 57 [1, 4] [.tmp 2] c136 := ⟨⟨Try.f136, _, Try.func136, rfl, by kernel_rfl, rfl, rfl, by kernel_rfl, by kernel_rfl⟩, by decide, by kernel_rfl⟩
/-- laws.markViewS -/
def c137 : LC :=
  (.seq (.rgn [] [⟨some 4, (.assign (.const (.int .i64 0))), 3, none⟩])
  (.seq (.seq (.rgn [] [⟨some 5, (.assign (.const (.int .i64 0))), 3, none⟩])
  (.blk 0
    (.loop []
      (.seq (.seq (.rgn [] [⟨some 6, (.move (.tmp 5)), 3, none⟩,
        ⟨some 7, (.move (.tmp 0)), 71, none⟩,
        ⟨some 8, (.call { callee := (.builtin .len), args := #[(.tmp 7)], argTypes := #[71] }), 3, none⟩,
        ⟨some 9, (.binOp .lss 3 (.tmp 6) (.tmp 8) 3), 4, none⟩])
      (.cond (.tmp 9)
        .skip
        (.exit 0)))
      (.seq (.blk 1
        (.seq (.rgn [] [⟨some 12, (.move (.tmp 0)), 71, none⟩,
          ⟨some 13, (.move (.tmp 5)), 3, none⟩,
          ⟨some 14, (.move (.tmp 1)), 3, none⟩,
          ⟨some 15, (.indexAddr 71 (.tmp 12) (.tmp 13)), 0, none⟩,
          ⟨some 16, (.fieldAddr 161 (.tmp 15) 0), 0, none⟩,
          ⟨some 17, (.fieldAddr 92 (.tmp 16) 0), 0, none⟩,
          ⟨none, (.store 3 (.tmp 17) (.tmp 14)), 0, none⟩])
        (.seq (.rgn [] [⟨some 18, (.move (.tmp 1)), 3, none⟩,
          ⟨some 19, (.binOp .add 3 (.tmp 18) (.const (.int .i64 1)) 3), 3, none⟩,
          ⟨some 1, (.assign (.tmp 19)), 3, none⟩])
        (.seq (.rgn [] [⟨some 20, (.move (.tmp 0)), 71, none⟩,
          ⟨some 21, (.move (.tmp 5)), 3, none⟩,
          ⟨some 22, (.indexAddr 71 (.tmp 20) (.tmp 21)), 0, none⟩,
          ⟨some 23, (.fieldAddr 161 (.tmp 22) 0), 0, none⟩,
          ⟨some 24, (.fieldAddr 92 (.tmp 23) 1), 0, none⟩,
          ⟨some 25, (.load 90 (.tmp 24)), 90, none⟩,
          ⟨some 26, (.move (.tmp 1)), 3, none⟩,
          ⟨some 27, (.call { callee := (.value (.func 153)), args := #[(.tmp 25), (.tmp 26)], argTypes := #[90, 3] }), 3, none⟩,
          ⟨some 1, (.assign (.tmp 27)), 3, none⟩])
        (.seq (.rgn [] [⟨some 28, (.move (.tmp 0)), 71, none⟩,
          ⟨some 29, (.move (.tmp 5)), 3, none⟩,
          ⟨some 30, (.indexAddr 71 (.tmp 28) (.tmp 29)), 0, none⟩,
          ⟨some 31, (.fieldAddr 161 (.tmp 30) 0), 0, none⟩,
          ⟨some 32, (.fieldAddr 92 (.tmp 31) 2), 0, none⟩,
          ⟨some 33, (.load 25 (.tmp 32)), 25, none⟩,
          ⟨some 34, (.move (.tmp 1)), 3, none⟩,
          ⟨some 35, (.call { callee := (.value (.func 24)), args := #[(.tmp 33), (.tmp 34)], argTypes := #[25, 3] }), 3, none⟩,
          ⟨some 1, (.assign (.tmp 35)), 3, none⟩])
        (.seq (.rgn [] [⟨some 36, (.move (.tmp 0)), 71, none⟩,
          ⟨some 37, (.move (.tmp 5)), 3, none⟩,
          ⟨some 38, (.move (.tmp 1)), 3, none⟩,
          ⟨some 39, (.indexAddr 71 (.tmp 36) (.tmp 37)), 0, none⟩,
          ⟨some 40, (.fieldAddr 161 (.tmp 39) 1), 0, none⟩,
          ⟨some 41, (.fieldAddr 159 (.tmp 40) 0), 0, none⟩,
          ⟨none, (.store 3 (.tmp 41) (.tmp 38)), 0, none⟩])
        (.seq (.rgn [] [⟨some 42, (.move (.tmp 1)), 3, none⟩,
          ⟨some 43, (.binOp .add 3 (.tmp 42) (.const (.int .i64 1)) 3), 3, none⟩,
          ⟨some 1, (.assign (.tmp 43)), 3, none⟩])
        (.seq (.rgn [] [⟨some 44, (.move (.tmp 0)), 71, none⟩,
          ⟨some 45, (.move (.tmp 5)), 3, none⟩,
          ⟨some 46, (.indexAddr 71 (.tmp 44) (.tmp 45)), 0, none⟩,
          ⟨some 47, (.fieldAddr 161 (.tmp 46) 1), 0, none⟩,
          ⟨some 48, (.fieldAddr 159 (.tmp 47) 1), 0, none⟩,
          ⟨some 49, (.load 82 (.tmp 48)), 82, none⟩,
          ⟨some 50, (.move (.tmp 1)), 3, none⟩,
          ⟨some 51, (.call { callee := (.value (.func 178)), args := #[(.tmp 49), (.tmp 50)], argTypes := #[82, 3] }), 3, none⟩,
          ⟨some 1, (.assign (.tmp 51)), 3, none⟩])
        (.rgn [] [⟨some 52, (.move (.tmp 0)), 71, none⟩,
          ⟨some 53, (.move (.tmp 5)), 3, none⟩,
          ⟨some 54, (.indexAddr 71 (.tmp 52) (.tmp 53)), 0, none⟩,
          ⟨some 55, (.fieldAddr 161 (.tmp 54) 1), 0, none⟩,
          ⟨some 56, (.fieldAddr 159 (.tmp 55) 2), 0, none⟩,
          ⟨some 57, (.load 25 (.tmp 56)), 25, none⟩,
          ⟨some 58, (.move (.tmp 1)), 3, none⟩,
          ⟨some 59, (.call { callee := (.value (.func 24)), args := #[(.tmp 57), (.tmp 58)], argTypes := #[25, 3] }), 3, none⟩,
          ⟨some 1, (.assign (.tmp 59)), 3, none⟩])))))))))
      (.rgn [] [⟨some 10, (.move (.tmp 5)), 3, none⟩,
        ⟨some 11, (.binOp .add 3 (.tmp 10) (.const (.int .i64 1)) 3), 3, none⟩,
        ⟨some 5, (.assign (.tmp 11)), 3, none⟩]))))))
  (.seq (.rgn [] [⟨some 60, (.move (.tmp 1)), 3, none⟩,
    ⟨some 4, (.assign (.tmp 60)), 3, none⟩])
  .ret)))
theorem lit137 : Lit Try.prog 137 61 [] [.tmp 4] c137 := ⟨⟨Try.f137, _, Try.func137, rfl, by kernel_rfl, rfl, rfl, by kernel_rfl, by kernel_rfl⟩, by decide, by kernel_rfl⟩
/-- laws.markCountedRelationS -/
def c138 : LC :=
  (.seq (.rgn [] [⟨some 4, (.assign (.const (.int .i64 0))), 3, none⟩])
  (.seq (.seq (.rgn [] [⟨some 5, (.assign (.const (.int .i64 0))), 3, none⟩])
  (.blk 0
    (.loop []
      (.seq (.seq (.rgn [] [⟨some 6, (.move (.tmp 5)), 3, none⟩,
        ⟨some 7, (.move (.tmp 0)), 72, none⟩,
        ⟨some 8, (.call { callee := (.builtin .len), args := #[(.tmp 7)], argTypes := #[72] }), 3, none⟩,
        ⟨some 9, (.binOp .lss 3 (.tmp 6) (.tmp 8) 3), 4, none⟩])
      (.cond (.tmp 9)
        .skip
        (.exit 0)))
      (.seq (.blk 1
        (.seq (.rgn [] [⟨some 12, (.move (.tmp 0)), 72, none⟩,
          ⟨some 13, (.move (.tmp 5)), 3, none⟩,
          ⟨some 14, (.move (.tmp 1)), 3, none⟩,
          ⟨some 15, (.indexAddr 72 (.tmp 12) (.tmp 13)), 0, none⟩,
          ⟨some 16, (.fieldAddr 159 (.tmp 15) 0), 0, none⟩,
          ⟨none, (.store 3 (.tmp 16) (.tmp 14)), 0, none⟩])
        (.seq (.rgn [] [⟨some 17, (.move (.tmp 1)), 3, none⟩,
          ⟨some 18, (.binOp .add 3 (.tmp 17) (.const (.int .i64 1)) 3), 3, none⟩,
          ⟨some 1, (.assign (.tmp 18)), 3, none⟩])
        (.seq (.rgn [] [⟨some 19, (.move (.tmp 0)), 72, none⟩,
          ⟨some 20, (.move (.tmp 5)), 3, none⟩,
          ⟨some 21, (.indexAddr 72 (.tmp 19) (.tmp 20)), 0, none⟩,
          ⟨some 22, (.fieldAddr 159 (.tmp 21) 1), 0, none⟩,
          ⟨some 23, (.load 82 (.tmp 22)), 82, none⟩,
          ⟨some 24, (.move (.tmp 1)), 3, none⟩,
          ⟨some 25, (.call { callee := (.value (.func 178)), args := #[(.tmp 23), (.tmp 24)], argTypes := #[82, 3] }), 3, none⟩,
          ⟨some 1, (.assign (.tmp 25)), 3, none⟩])
        (.rgn [] [⟨some 26, (.move (.tmp 0)), 72, none⟩,
          ⟨some 27, (.move (.tmp 5)), 3, none⟩,
          ⟨some 28, (.indexAddr 72 (.tmp 26) (.tmp 27)), 0, none⟩,
          ⟨some 29, (.fieldAddr 159 (.tmp 28) 2), 0, none⟩,
          ⟨some 30, (.load 25 (.tmp 29)), 25, none⟩,
          ⟨some 31, (.move (.tmp 1)), 3, none⟩,
          ⟨some 32, (.call { callee := (.value (.func 24)), args := #[(.tmp 30), (.tmp 31)], argTypes := #[25, 3] }), 3, none⟩,
          ⟨some 1, (.assign (.tmp 32)), 3, none⟩])))))
      (.rgn [] [⟨some 10, (.move (.tmp 5)), 3, none⟩,
        ⟨some 11, (.binOp .add 3 (.tmp 10) (.const (.int .i64 1)) 3), 3, none⟩,
        ⟨some 5, (.assign (.tmp 11)), 3, none⟩]))))))
  (.seq (.rgn [] [⟨some 33, (.move (.tmp 1)), 3, none⟩,
    ⟨some 4, (.assign (.tmp 33)), 3, none⟩])
  .ret)))
theorem lit138 : Lit Try.prog 138 34 [] [.tmp 4] c138 := ⟨⟨Try.f138, _, Try.func138, rfl, by kernel_rfl, rfl, rfl, by kernel_rfl, by kernel_rfl⟩, by decide, by kernel_rfl⟩
/-- laws.heldViewS -/
def c139 : LC :=
  (.seq (.rgn [] [⟨some 4, (.assign (.const (.int .i64 0))), 3, none⟩])
  (.seq (.seq (.rgn [] [⟨some 5, (.assign (.const (.int .i64 0))), 3, none⟩])
  (.blk 0
    (.loop []
      (.seq (.seq (.rgn [] [⟨some 6, (.move (.tmp 5)), 3, none⟩,
        ⟨some 7, (.move (.tmp 0)), 71, none⟩,
        ⟨some 8, (.call { callee := (.builtin .len), args := #[(.tmp 7)], argTypes := #[71] }), 3, none⟩,
        ⟨some 9, (.binOp .lss 3 (.tmp 6) (.tmp 8) 3), 4, none⟩])
      (.cond (.tmp 9)
        .skip
        (.exit 0)))
      (.seq (.blk 1
        (.seq (.seq (.rgn [] [⟨some 12, (.move (.tmp 0)), 71, none⟩,
          ⟨some 13, (.move (.tmp 5)), 3, none⟩,
          ⟨some 14, (.indexAddr 71 (.tmp 12) (.tmp 13)), 0, none⟩,
          ⟨some 15, (.fieldAddr 161 (.tmp 14) 0), 0, none⟩,
          ⟨some 16, (.fieldAddr 92 (.tmp 15) 0), 0, none⟩,
          ⟨some 17, (.load 3 (.tmp 16)), 3, none⟩,
          ⟨some 18, (.move (.tmp 1)), 3, none⟩,
          ⟨some 19, (.binOp .neq 3 (.tmp 17) (.tmp 18) 3), 4, none⟩])
        (.cond (.tmp 19)
          (.seq (.rgn [] [⟨some 4, (.assign (.const (.int .i64 (-1)))), 3, none⟩])
          .ret)
          .skip))
        (.seq (.rgn [] [⟨some 20, (.move (.tmp 1)), 3, none⟩,
          ⟨some 21, (.binOp .add 3 (.tmp 20) (.const (.int .i64 1)) 3), 3, none⟩,
          ⟨some 1, (.assign (.tmp 21)), 3, none⟩])
        (.seq (.rgn [] [⟨some 22, (.move (.tmp 0)), 71, none⟩,
          ⟨some 23, (.move (.tmp 5)), 3, none⟩,
          ⟨some 24, (.indexAddr 71 (.tmp 22) (.tmp 23)), 0, none⟩,
          ⟨some 25, (.fieldAddr 161 (.tmp 24) 0), 0, none⟩,
          ⟨some 26, (.fieldAddr 92 (.tmp 25) 1), 0, none⟩,
          ⟨some 27, (.load 90 (.tmp 26)), 90, none⟩,
          ⟨some 28, (.move (.tmp 1)), 3, none⟩,
          ⟨some 29, (.call { callee := (.value (.func 220)), args := #[(.tmp 27), (.tmp 28)], argTypes := #[90, 3] }), 3, none⟩,
          ⟨some 1, (.assign (.tmp 29)), 3, none⟩])
        (.seq (.seq (.rgn [] [⟨some 30, (.move (.tmp 1)), 3, none⟩,
          ⟨some 31, (.binOp .lss 3 (.tmp 30) (.const (.int .i64 0)) 3), 4, none⟩])
        (.cond (.tmp 31)
          (.seq (.rgn [] [⟨some 4, (.assign (.const (.int .i64 (-1)))), 3, none⟩])
          .ret)
          .skip))
        (.seq (.rgn [] [⟨some 32, (.move (.tmp 0)), 71, none⟩,
          ⟨some 33, (.move (.tmp 5)), 3, none⟩,
          ⟨some 34, (.indexAddr 71 (.tmp 32) (.tmp 33)), 0, none⟩,
          ⟨some 35, (.fieldAddr 161 (.tmp 34) 0), 0, none⟩,
          ⟨some 36, (.fieldAddr 92 (.tmp 35) 2), 0, none⟩,
          ⟨some 37, (.load 25 (.tmp 36)), 25, none⟩,
          ⟨some 38, (.move (.tmp 1)), 3, none⟩,
          ⟨some 39, (.call { callee := (.value (.func 25)), args := #[(.tmp 37), (.tmp 38)], argTypes := #[25, 3] }), 3, none⟩,
          ⟨some 1, (.assign (.tmp 39)), 3, none⟩])
        (.seq (.seq (.rgn [] [⟨some 40, (.move (.tmp 1)), 3, none⟩,
          ⟨some 41, (.binOp .lss 3 (.tmp 40) (.const (.int .i64 0)) 3), 4, none⟩])
        (.cond (.tmp 41)
          (.seq (.rgn [] [⟨some 4, (.assign (.const (.int .i64 (-1)))), 3, none⟩])
          .ret)
          .skip))
        (.seq (.seq (.rgn [] [⟨some 42, (.move (.tmp 0)), 71, none⟩,
          ⟨some 43, (.move (.tmp 5)), 3, none⟩,
          ⟨some 44, (.indexAddr 71 (.tmp 42) (.tmp 43)), 0, none⟩,
          ⟨some 45, (.fieldAddr 161 (.tmp 44) 1), 0, none⟩,
          ⟨some 46, (.fieldAddr 159 (.tmp 45) 0), 0, none⟩,
          ⟨some 47, (.load 3 (.tmp 46)), 3, none⟩,
          ⟨some 48, (.move (.tmp 1)), 3, none⟩,
          ⟨some 49, (.binOp .neq 3 (.tmp 47) (.tmp 48) 3), 4, none⟩])
        (.cond (.tmp 49)
          (.seq (.rgn [] [⟨some 4, (.assign (.const (.int .i64 (-1)))), 3, none⟩])
          .ret)
          .skip))
        (.seq (.rgn [] [⟨some 50, (.move (.tmp 1)), 3, none⟩,
          ⟨some 51, (.binOp .add 3 (.tmp 50) (.const (.int .i64 1)) 3), 3, none⟩,
          ⟨some 1, (.assign (.tmp 51)), 3, none⟩])
        (.seq (.rgn [] [⟨some 52, (.move (.tmp 0)), 71, none⟩,
          ⟨some 53, (.move (.tmp 5)), 3, none⟩,
          ⟨some 54, (.indexAddr 71 (.tmp 52) (.tmp 53)), 0, none⟩,
          ⟨some 55, (.fieldAddr 161 (.tmp 54) 1), 0, none⟩,
          ⟨some 56, (.fieldAddr 159 (.tmp 55) 1), 0, none⟩,
          ⟨some 57, (.load 82 (.tmp 56)), 82, none⟩,
          ⟨some 58, (.move (.tmp 1)), 3, none⟩,
          ⟨some 59, (.call { callee := (.value (.func 179)), args := #[(.tmp 57), (.tmp 58)], argTypes := #[82, 3] }), 3, none⟩,
          ⟨some 1, (.assign (.tmp 59)), 3, none⟩])
        (.seq (.seq (.rgn [] [⟨some 60, (.move (.tmp 1)), 3, none⟩,
          ⟨some 61, (.binOp .lss 3 (.tmp 60) (.const (.int .i64 0)) 3), 4, none⟩])
        (.cond (.tmp 61)
          (.seq (.rgn [] [⟨some 4, (.assign (.const (.int .i64 (-1)))), 3, none⟩])
          .ret)
          .skip))
        (.seq (.rgn [] [⟨some 62, (.move (.tmp 0)), 71, none⟩,
          ⟨some 63, (.move (.tmp 5)), 3, none⟩,
          ⟨some 64, (.indexAddr 71 (.tmp 62) (.tmp 63)), 0, none⟩,
          ⟨some 65, (.fieldAddr 161 (.tmp 64) 1), 0, none⟩,
          ⟨some 66, (.fieldAddr 159 (.tmp 65) 2), 0, none⟩,
          ⟨some 67, (.load 25 (.tmp 66)), 25, none⟩,
          ⟨some 68, (.move (.tmp 1)), 3, none⟩,
          ⟨some 69, (.call { callee := (.value (.func 25)), args := #[(.tmp 67), (.tmp 68)], argTypes := #[25, 3] }), 3, none⟩,
          ⟨some 1, (.assign (.tmp 69)), 3, none⟩])
        (.seq (.rgn [] [⟨some 70, (.move (.tmp 1)), 3, none⟩,
          ⟨some 71, (.binOp .lss 3 (.tmp 70) (.const (.int .i64 0)) 3), 4, none⟩])
        (.cond (.tmp 71)
          (.seq (.rgn [] [⟨some 4, (.assign (.const (.int .i64 (-1)))), 3, none⟩])
          .ret)
          .skip))))))))))))))
      (.rgn [] [⟨some 10, (.move (.tmp 5)), 3, none⟩,
        ⟨some 11, (.binOp .add 3 (.tmp 10) (.const (.int .i64 1)) 3), 3, none⟩,
        ⟨some 5, (.assign (.tmp 11)), 3, none⟩]))))))
  (.seq (.rgn [] [⟨some 72, (.move (.tmp 1)), 3, none⟩,
    ⟨some 4, (.assign (.tmp 72)), 3, none⟩])
  .ret)))
theorem lit139 : Lit Try.prog 139 73 [] [.tmp 4] c139 := ⟨⟨Try.f139, _, Try.func139, rfl, by kernel_rfl, rfl, rfl, by kernel_rfl, by kernel_rfl⟩, by decide, by kernel_rfl⟩
/-- laws.heldCountedRelationS -/
def c140 : LC :=
  (.seq (.rgn [] [⟨some 4, (.assign (.const (.int .i64 0))), 3, none⟩])
  (.seq (.seq (.rgn [] [⟨some 5, (.assign (.const (.int .i64 0))), 3, none⟩])
  (.blk 0
    (.loop []
      (.seq (.seq (.rgn [] [⟨some 6, (.move (.tmp 5)), 3, none⟩,
        ⟨some 7, (.move (.tmp 0)), 72, none⟩,
        ⟨some 8, (.call { callee := (.builtin .len), args := #[(.tmp 7)], argTypes := #[72] }), 3, none⟩,
        ⟨some 9, (.binOp .lss 3 (.tmp 6) (.tmp 8) 3), 4, none⟩])
      (.cond (.tmp 9)
        .skip
        (.exit 0)))
      (.seq (.blk 1
        (.seq (.seq (.rgn [] [⟨some 12, (.move (.tmp 0)), 72, none⟩,
          ⟨some 13, (.move (.tmp 5)), 3, none⟩,
          ⟨some 14, (.indexAddr 72 (.tmp 12) (.tmp 13)), 0, none⟩,
          ⟨some 15, (.fieldAddr 159 (.tmp 14) 0), 0, none⟩,
          ⟨some 16, (.load 3 (.tmp 15)), 3, none⟩,
          ⟨some 17, (.move (.tmp 1)), 3, none⟩,
          ⟨some 18, (.binOp .neq 3 (.tmp 16) (.tmp 17) 3), 4, none⟩])
        (.cond (.tmp 18)
          (.seq (.rgn [] [⟨some 4, (.assign (.const (.int .i64 (-1)))), 3, none⟩])
          .ret)
          .skip))
        (.seq (.rgn [] [⟨some 19, (.move (.tmp 1)), 3, none⟩,
          ⟨some 20, (.binOp .add 3 (.tmp 19) (.const (.int .i64 1)) 3), 3, none⟩,
          ⟨some 1, (.assign (.tmp 20)), 3, none⟩])
        (.seq (.rgn [] [⟨some 21, (.move (.tmp 0)), 72, none⟩,
          ⟨some 22, (.move (.tmp 5)), 3, none⟩,
          ⟨some 23, (.indexAddr 72 (.tmp 21) (.tmp 22)), 0, none⟩,
          ⟨some 24, (.fieldAddr 159 (.tmp 23) 1), 0, none⟩,
          ⟨some 25, (.load 82 (.tmp 24)), 82, none⟩,
          ⟨some 26, (.move (.tmp 1)), 3, none⟩,
          ⟨some 27, (.call { callee := (.value (.func 179)), args := #[(.tmp 25), (.tmp 26)], argTypes := #[82, 3] }), 3, none⟩,
          ⟨some 1, (.assign (.tmp 27)), 3, none⟩])
        (.seq (.seq (.rgn [] [⟨some 28, (.move (.tmp 1)), 3, none⟩,
          ⟨some 29, (.binOp .lss 3 (.tmp 28) (.const (.int .i64 0)) 3), 4, none⟩])
        (.cond (.tmp 29)
          (.seq (.rgn [] [⟨some 4, (.assign (.const (.int .i64 (-1)))), 3, none⟩])
          .ret)
          .skip))
        (.seq (.rgn [] [⟨some 30, (.move (.tmp 0)), 72, none⟩,
          ⟨some 31, (.move (.tmp 5)), 3, none⟩,
          ⟨some 32, (.indexAddr 72 (.tmp 30) (.tmp 31)), 0, none⟩,
          ⟨some 33, (.fieldAddr 159 (.tmp 32) 2), 0, none⟩,
          ⟨some 34, (.load 25 (.tmp 33)), 25, none⟩,
          ⟨some 35, (.move (.tmp 1)), 3, none⟩,
          ⟨some 36, (.call { callee := (.value (.func 25)), args := #[(.tmp 34), (.tmp 35)], argTypes := #[25, 3] }), 3, none⟩,
          ⟨some 1, (.assign (.tmp 36)), 3, none⟩])
        (.seq (.rgn [] [⟨some 37, (.move (.tmp 1)), 3, none⟩,
          ⟨some 38, (.binOp .lss 3 (.tmp 37) (.const (.int .i64 0)) 3), 4, none⟩])
        (.cond (.tmp 38)
          (.seq (.rgn [] [⟨some 4, (.assign (.const (.int .i64 (-1)))), 3, none⟩])
          .ret)
          .skip))))))))
      (.rgn [] [⟨some 10, (.move (.tmp 5)), 3, none⟩,
        ⟨some 11, (.binOp .add 3 (.tmp 10) (.const (.int .i64 1)) 3), 3, none⟩,
        ⟨some 5, (.assign (.tmp 11)), 3, none⟩]))))))
  (.seq (.rgn [] [⟨some 39, (.move (.tmp 1)), 3, none⟩,
    ⟨some 4, (.assign (.tmp 39)), 3, none⟩])
  .ret)))
theorem lit140 : Lit Try.prog 140 40 [] [.tmp 4] c140 := ⟨⟨Try.f140, _, Try.func140, rfl, by kernel_rfl, rfl, rfl, by kernel_rfl, by kernel_rfl⟩, by decide, by kernel_rfl⟩
/-- impl.copyInts -/
def c151 : LC :=
  (.seq (.rgn [] [⟨some 2, (.assign (.const (.slice none 0 0))), 25, none⟩])
  (.seq (.rgn [4] [⟨some 3, (.buildSlice 25 0 #[]), 25, none⟩,
    ⟨some 4, (.move (.tmp 0)), 25, none⟩,
    ⟨some 5, (.call { callee := (.builtin .append), args := #[(.tmp 3), (.tmp 4)], argTypes := #[25, 25] }), 25, none⟩,
    ⟨some 2, (.assign (.tmp 5)), 25, none⟩])
  .ret))
theorem lit151 : Lit Try.prog 151 6 [] [.tmp 2] c151 := ⟨⟨Try.f151, _, Try.func151, rfl, by kernel_rfl, rfl, rfl, by kernel_rfl, by kernel_rfl⟩, by decide, by kernel_rfl⟩
/-- laws.markAtomS -/
def c153 : LC :=
  (.seq (.rgn [] [⟨some 4, (.assign (.const (.int .i64 0))), 3, none⟩])
  (.seq (.seq (.rgn [] [⟨some 5, (.assign (.const (.int .i64 0))), 3, none⟩])
  (.blk 0
    (.loop []
      (.seq (.seq (.rgn [] [⟨some 6, (.move (.tmp 5)), 3, none⟩,
        ⟨some 7, (.move (.tmp 0)), 90, none⟩,
        ⟨some 8, (.call { callee := (.builtin .len), args := #[(.tmp 7)], argTypes := #[90] }), 3, none⟩,
        ⟨some 9, (.binOp .lss 3 (.tmp 6) (.tmp 8) 3), 4, none⟩])
      (.cond (.tmp 9)
        .skip
        (.exit 0)))
      (.seq (.blk 1
        (.seq (.rgn [] [⟨some 12, (.move (.tmp 0)), 90, none⟩,
          ⟨some 13, (.move (.tmp 5)), 3, none⟩,
          ⟨some 14, (.move (.tmp 1)), 3, none⟩,
          ⟨some 15, (.call { callee := (.value (.func 177)), args := #[(.tmp 14)], argTypes := #[3] }), 9, none⟩,
          ⟨some 16, (.indexAddr 90 (.tmp 12) (.tmp 13)), 0, none⟩,
          ⟨some 17, (.fieldAddr 195 (.tmp 16) 0), 0, none⟩,
          ⟨none, (.store 9 (.tmp 17) (.tmp 15)), 0, none⟩])
        (.seq (.rgn [] [⟨some 18, (.move (.tmp 1)), 3, none⟩,
          ⟨some 19, (.binOp .add 3 (.tmp 18) (.const (.int .i64 1)) 3), 3, none⟩,
          ⟨some 1, (.assign (.tmp 19)), 3, none⟩])
        (.rgn [] [⟨some 20, (.move (.tmp 0)), 90, none⟩,
          ⟨some 21, (.move (.tmp 5)), 3, none⟩,
          ⟨some 22, (.indexAddr 90 (.tmp 20) (.tmp 21)), 0, none⟩,
          ⟨some 23, (.fieldAddr 195 (.tmp 22) 1), 0, none⟩,
          ⟨some 24, (.load 25 (.tmp 23)), 25, none⟩,
          ⟨some 25, (.move (.tmp 1)), 3, none⟩,
          ⟨some 26, (.call { callee := (.value (.func 24)), args := #[(.tmp 24), (.tmp 25)], argTypes := #[25, 3] }), 3, none⟩,
          ⟨some 1, (.assign (.tmp 26)), 3, none⟩]))))
      (.rgn [] [⟨some 10, (.move (.tmp 5)), 3, none⟩,
        ⟨some 11, (.binOp .add 3 (.tmp 10) (.const (.int .i64 1)) 3), 3, none⟩,
        ⟨some 5, (.assign (.tmp 11)), 3, none⟩]))))))
  (.seq (.rgn [] [⟨some 27, (.move (.tmp 1)), 3, none⟩,
    ⟨some 4, (.assign (.tmp 27)), 3, none⟩])
  .ret)))
theorem lit153 : Lit Try.prog 153 28 [] [.tmp 4] c153 := ⟨⟨Try.f153, _, Try.func153, rfl, by kernel_rfl, rfl, rfl, by kernel_rfl, by kernel_rfl⟩, by decide, by kernel_rfl⟩
/-- laws.szTable -/
def c171 : LC :=
  (.seq (.rgn [] [⟨some 2, (.box 206 (.tmp 0)), 0, none⟩,
    ⟨some 4, (.assign (.const (.int .i64 0))), 3, none⟩])
  (.seq (.rgn [] [⟨some 5, (.move (.tmp 1)), 3, none⟩,
    ⟨some 6, (.fieldAddr 206 (.tmp 2) 0), 0, none⟩,
    ⟨some 7, (.load 9 (.tmp 6)), 9, none⟩,
    ⟨some 8, (.call { callee := (.builtin .len), args := #[(.tmp 7)], argTypes := #[9] }), 3, none⟩,
    ⟨some 9, (.binOp .sub 3 (.tmp 5) (.tmp 8) 3), 3, none⟩,
    ⟨some 1, (.assign (.tmp 9)), 3, none⟩])
  (.seq (.seq (.rgn [] [⟨some 10, (.move (.tmp 1)), 3, none⟩,
    ⟨some 11, (.binOp .lss 3 (.tmp 10) (.const (.int .i64 0)) 3), 4, none⟩])
  (.cond (.tmp 11)
    (.seq (.rgn [] [⟨some 4, (.assign (.const (.int .i64 (-1)))), 3, none⟩])
    .ret)
    .skip))
  (.seq (.rgn [] [⟨some 12, (.fieldAddr 206 (.tmp 2) 1), 0, none⟩,
    ⟨some 13, (.load 204 (.tmp 12)), 204, none⟩,
    ⟨some 14, (.move (.tmp 1)), 3, none⟩,
    ⟨some 15, (.call { callee := (.value (.func 235)), args := #[(.tmp 13), (.tmp 14)], argTypes := #[204, 3] }), 3, none⟩,
    ⟨some 1, (.assign (.tmp 15)), 3, none⟩])
  (.seq (.seq (.rgn [] [⟨some 16, (.move (.tmp 1)), 3, none⟩,
    ⟨some 17, (.binOp .lss 3 (.tmp 16) (.const (.int .i64 0)) 3), 4, none⟩])
  (.cond (.tmp 17)
    (.seq (.rgn [] [⟨some 4, (.assign (.const (.int .i64 (-1)))), 3, none⟩])
    .ret)
    .skip))
  (.seq (.rgn [] [⟨some 18, (.move (.tmp 1)), 3, none⟩,
    ⟨some 4, (.assign (.tmp 18)), 3, none⟩])
  .ret))))))
theorem lit171 : Lit Try.prog 171 19 [2] [.tmp 4] c171 := ⟨⟨Try.f171, _, Try.func171, rfl, by kernel_rfl, rfl, rfl, by kernel_rfl, by kernel_rfl⟩, by decide, by kernel_rfl⟩
/-- spec.l5Copy -/
def c172 : LC :=
  (.seq (.rgn [] [⟨some 1, (.box 128 (.tmp 0)), 0, none⟩,
    ⟨some 2, (.alloc 128), 0, none⟩])
  (.seq (.rgn [] [⟨some 5, (.fieldAddr 128 (.tmp 1) 0), 0, none⟩,
    ⟨some 6, (.load 3 (.tmp 5)), 3, none⟩,
    ⟨some 7, (.build 128 #[(0, (.tmp 6))]), 128, none⟩,
    ⟨some 3, (.alloc 128), 0, none⟩,
    ⟨none, (.store 128 (.tmp 3) (.tmp 7)), 0, none⟩])
  (.seq (.seq (.rgn [] [⟨some 4, (.assign (.const (.int .i64 0))), 3, none⟩])
  (.blk 0
    (.loop []
      (.seq (.seq (.rgn [] [⟨some 8, (.move (.tmp 4)), 3, none⟩,
        ⟨some 9, (.fieldAddr 128 (.tmp 1) 1), 0, none⟩,
        ⟨some 10, (.load 82 (.tmp 9)), 82, none⟩,
        ⟨some 11, (.call { callee := (.builtin .len), args := #[(.tmp 10)], argTypes := #[82] }), 3, none⟩,
        ⟨some 12, (.binOp .lss 3 (.tmp 8) (.tmp 11) 3), 4, none⟩])
      (.cond (.tmp 12)
        .skip
        (.exit 0)))
      (.seq (.blk 1
        (.drw [16, 22] [([3], [15]), ([3, 15], [3, 15, 16]), ([], [17]), ([1], [18]), ([1, 18], [19]), ([4], [20]), ([19, 20], [21]), ([21], [21, 22]), ([17, 22], [17, 22, 23]), ([23], [23, 24]), ([16, 24], [16, 24, 25]), ([3], [26]), ([3, 25, 26], [3, 25, 26])] [[], [0], [], [], [3], [], [4, 5], [6], [2, 7], [8], [1, 9, 8], [0, 1, 2, 3, 4, 5, 6, 7, 8, 9, 10], [11, 10, 10, 0, 1, 2, 3, 4, 5, 6, 7, 8, 9, 10]] [⟨some 15, (.fieldAddr 128 (.tmp 3) 1), 0, none⟩,
          ⟨some 16, (.load 82 (.tmp 15)), 82, none⟩,
          ⟨some 17, (.buildSlice 25 0 #[]), 25, none⟩,
          ⟨some 18, (.fieldAddr 128 (.tmp 1) 1), 0, none⟩,
          ⟨some 19, (.load 82 (.tmp 18)), 82, none⟩,
          ⟨some 20, (.move (.tmp 4)), 3, none⟩,
          ⟨some 21, (.indexAddr 82 (.tmp 19) (.tmp 20)), 0, none⟩,
          ⟨some 22, (.load 25 (.tmp 21)), 25, none⟩,
          ⟨some 23, (.call { callee := (.builtin .append), args := #[(.tmp 17), (.tmp 22)], argTypes := #[25, 25] }), 25, none⟩,
          ⟨some 24, (.buildSlice 82 1 #[(0, (.tmp 23))]), 82, none⟩,
          ⟨some 25, (.call { callee := (.builtin .append), args := #[(.tmp 16), (.tmp 24)], argTypes := #[82, 82] }), 82, none⟩,
          ⟨some 26, (.fieldAddr 128 (.tmp 3) 1), 0, none⟩,
          ⟨none, (.store 82 (.tmp 26) (.tmp 25)), 0, none⟩]))
      (.rgn [] [⟨some 13, (.move (.tmp 4)), 3, none⟩,
        ⟨some 14, (.binOp .add 3 (.tmp 13) (.const (.int .i64 1)) 3), 3, none⟩,
        ⟨some 4, (.assign (.tmp 14)), 3, none⟩]))))))
  (.seq (.rgn [27] [⟨some 27, (.load 128 (.tmp 3)), 128, none⟩,
    ⟨none, (.store 128 (.tmp 2) (.tmp 27)), 0, none⟩])
  .ret))))
theorem lit172 : Lit Try.prog 172 28 [1, 2, 3] [.cell 2 128] c172 := ⟨⟨Try.f172, _, Try.func172, rfl, by kernel_rfl, rfl, rfl, by kernel_rfl, by kernel_rfl⟩, by decide, by kernel_rfl⟩
/-- laws.toTable -/
def c173 : LC :=
  (.seq (.rgn [] [⟨some 1, (.box 206 (.tmp 0)), 0, none⟩,
    ⟨some 2, (.alloc 208), 0, none⟩])
  (.seq (.rgn [] [⟨some 3, (.alloc 208), 0, none⟩])
  (.seq (.rgn [] [⟨some 4, (.fieldAddr 206 (.tmp 1) 0), 0, none⟩,
    ⟨some 5, (.load 9 (.tmp 4)), 9, none⟩,
    ⟨some 6, (.fieldAddr 208 (.tmp 3) 0), 0, none⟩,
    ⟨none, (.store 9 (.tmp 6) (.tmp 5)), 0, none⟩])
  (.seq (.rgn [] [⟨some 7, (.fieldAddr 206 (.tmp 1) 1), 0, none⟩,
    ⟨some 8, (.load 204 (.tmp 7)), 204, none⟩,
    ⟨some 9, (.call { callee := (.value (.func 236)), args := #[(.tmp 8)], argTypes := #[204] }), 128, none⟩,
    ⟨some 10, (.fieldAddr 208 (.tmp 3) 1), 0, none⟩,
    ⟨none, (.store 128 (.tmp 10) (.tmp 9)), 0, none⟩])
  (.seq (.rgn [11] [⟨some 11, (.load 208 (.tmp 3)), 208, none⟩,
    ⟨none, (.store 208 (.tmp 2) (.tmp 11)), 0, none⟩])
  .ret)))))
theorem lit173 : Lit Try.prog 173 12 [1, 2, 3] [.cell 2 208] c173 := ⟨⟨Try.f173, _, Try.func173, rfl, by kernel_rfl, rfl, rfl, by kernel_rfl, by kernel_rfl⟩, by decide, by kernel_rfl⟩
/-- impl.copyRelation -/
def c175 : LC :=
  (.seq (.rgn [] [⟨some 1, (.box 128 (.tmp 0)), 0, none⟩,
    ⟨some 2, (.alloc 128), 0, none⟩])
  (.seq (.drw [] [([1], [3]), ([1, 3], [4]), ([1], [5]), ([1, 5], [6]), ([6], [7]), ([4, 7], [4, 7, 8]), ([2, 8], [2, 8])] [[], [0], [], [2], [3], [1, 4], [5, 4, 0, 1, 2, 3, 4, 5]] [⟨some 3, (.fieldAddr 128 (.tmp 1) 0), 0, none⟩,
    ⟨some 4, (.load 3 (.tmp 3)), 3, none⟩,
    ⟨some 5, (.fieldAddr 128 (.tmp 1) 1), 0, none⟩,
    ⟨some 6, (.load 82 (.tmp 5)), 82, none⟩,
    ⟨some 7, (.call { callee := (.value (.func 237)), args := #[(.tmp 6)], argTypes := #[82] }), 82, none⟩,
    ⟨some 8, (.build 128 #[(0, (.tmp 4)), (1, (.tmp 7))]), 128, none⟩,
    ⟨none, (.store 128 (.tmp 2) (.tmp 8)), 0, none⟩])
  .ret))
theorem lit175 : Lit Try.prog 175 9 [1, 2] [.cell 2 128] c175 := ⟨⟨Try.f175, _, Try.func175, rfl, by kernel_rfl, rfl, rfl, by kernel_rfl, by kernel_rfl⟩, by decide, by kernel_rfl⟩
/-- laws.eqTable -/
def c176 : LC :=
  (.seq (.rgn [] [⟨some 2, (.box 208 (.tmp 0)), 0, none⟩,
    ⟨some 3, (.box 208 (.tmp 1)), 0, none⟩,
    ⟨some 4, (.assign (.const (.bool false))), 4, none⟩])
  (.seq (.seq (.rgn [] [⟨some 5, (.fieldAddr 208 (.tmp 2) 0), 0, none⟩,
    ⟨some 6, (.load 9 (.tmp 5)), 9, none⟩,
    ⟨some 7, (.fieldAddr 208 (.tmp 3) 0), 0, none⟩,
    ⟨some 8, (.load 9 (.tmp 7)), 9, none⟩,
    ⟨some 9, (.binOp .neq 9 (.tmp 6) (.tmp 8) 9), 4, none⟩])
  (.cond (.tmp 9)
    (.seq (.rgn [] [⟨some 4, (.assign (.const (.bool false))), 4, none⟩])
    .ret)
    .skip))
  (.seq (.seq (.rgn [] [⟨some 10, (.fieldAddr 208 (.tmp 2) 1), 0, none⟩,
    ⟨some 11, (.load 128 (.tmp 10)), 128, none⟩,
    ⟨some 12, (.fieldAddr 208 (.tmp 3) 1), 0, none⟩,
    ⟨some 13, (.load 128 (.tmp 12)), 128, none⟩,
    ⟨some 14, (.call { callee := (.value (.func 238)), args := #[(.tmp 11), (.tmp 13)], argTypes := #[128, 128] }), 4, none⟩,
    ⟨some 15, (.unOp .not 4 (.tmp 14)), 4, none⟩])
  (.cond (.tmp 15)
    (.seq (.rgn [] [⟨some 4, (.assign (.const (.bool false))), 4, none⟩])
    .ret)
    .skip))
  (.seq (.rgn [] [⟨some 4, (.assign (.const (.bool true))), 4, none⟩])
  .ret))))
theorem lit176 : Lit Try.prog 176 16 [2, 3] [.tmp 4] c176 := ⟨⟨Try.f176, _, Try.func176, rfl, by kernel_rfl, rfl, rfl, by kernel_rfl, by kernel_rfl⟩, by decide, by kernel_rfl⟩
/-- laws.markText -/
def c177 : LC :=
  (.seq (.rgn [] [⟨some 2, (.assign (.const (.string { data := #[] }))), 9, none⟩])
  (.seq (.seq (.rgn [] [⟨some 4, (.move (.tmp 0)), 3, none⟩,
    ⟨some 5, (.binOp .leq 3 (.tmp 4) (.const (.int .i64 0)) 3), 4, none⟩])
  (.cond (.tmp 5)
    (.seq (.rgn [] [⟨some 2, (.assign (.const (.string { data := #[109, 48] }))), 9, none⟩])
    .ret)
    .skip))
  (.seq (.rgn [] [⟨some 3, (.assign (.const (.string { data := #[] }))), 9, none⟩])
  (.seq (.blk 0
    (.loop []
      (.seq (.seq (.rgn [] [⟨some 6, (.move (.tmp 0)), 3, none⟩,
        ⟨some 7, (.binOp .gtr 3 (.tmp 6) (.const (.int .i64 0)) 3), 4, none⟩])
      (.cond (.tmp 7)
        .skip
        (.exit 0)))
      (.blk 1
        (.seq (.rgn [] [⟨some 8, (.move (.tmp 0)), 3, none⟩,
          ⟨some 9, (.binOp .rem 3 (.tmp 8) (.const (.int .i64 10)) 3), 3, none⟩,
          ⟨some 10, (.binOp .add 3 (.const (.int .i64 48)) (.tmp 9) 3), 3, none⟩,
          ⟨some 11, (.convert 3 5 (.tmp 10)), 5, none⟩,
          ⟨some 12, (.buildSlice 254 1 #[(0, (.tmp 11))]), 254, none⟩,
          ⟨some 13, (.convert 254 9 (.tmp 12)), 9, none⟩,
          ⟨some 14, (.move (.tmp 3)), 9, none⟩,
          ⟨some 15, (.binOp .add 9 (.tmp 13) (.tmp 14) 9), 9, none⟩,
          ⟨some 3, (.assign (.tmp 15)), 9, none⟩])
        (.rgn [] [⟨some 16, (.move (.tmp 0)), 3, none⟩,
          ⟨some 17, (.binOp .quo 3 (.tmp 16) (.const (.int .i64 10)) 3), 3, none⟩,
          ⟨some 0, (.assign (.tmp 17)), 3, none⟩]))))))
  (.seq (.rgn [] [⟨some 18, (.move (.tmp 3)), 9, none⟩,
    ⟨some 19, (.binOp .add 9 (.const (.string { data := #[109] })) (.tmp 18) 9), 9, none⟩,
    ⟨some 2, (.assign (.tmp 19)), 9, none⟩])
  .ret)))))
theorem lit177 : Lit Try.prog 177 20 [] [.tmp 2] c177 := ⟨⟨Try.f177, _, Try.func177, rfl, by kernel_rfl, rfl, rfl, by kernel_rfl, by kernel_rfl⟩, by decide, by kernel_rfl⟩
/-- laws.markIntSS -/
def c178 : LC :=
  (.seq (.rgn [] [⟨some 4, (.assign (.const (.int .i64 0))), 3, none⟩])
  (.seq (.seq (.rgn [] [⟨some 5, (.assign (.const (.int .i64 0))), 3, none⟩])
  (.blk 0
    (.loop []
      (.seq (.seq (.rgn [] [⟨some 6, (.move (.tmp 5)), 3, none⟩,
        ⟨some 7, (.move (.tmp 0)), 82, none⟩,
        ⟨some 8, (.call { callee := (.builtin .len), args := #[(.tmp 7)], argTypes := #[82] }), 3, none⟩,
        ⟨some 9, (.binOp .lss 3 (.tmp 6) (.tmp 8) 3), 4, none⟩])
      (.cond (.tmp 9)
        .skip
        (.exit 0)))
      (.seq (.blk 1
        (.rgn [] [⟨some 12, (.move (.tmp 0)), 82, none⟩,
          ⟨some 13, (.move (.tmp 5)), 3, none⟩,
          ⟨some 14, (.indexAddr 82 (.tmp 12) (.tmp 13)), 0, none⟩,
          ⟨some 15, (.load 25 (.tmp 14)), 25, none⟩,
          ⟨some 16, (.move (.tmp 1)), 3, none⟩,
          ⟨some 17, (.call { callee := (.value (.func 24)), args := #[(.tmp 15), (.tmp 16)], argTypes := #[25, 3] }), 3, none⟩,
          ⟨some 1, (.assign (.tmp 17)), 3, none⟩]))
      (.rgn [] [⟨some 10, (.move (.tmp 5)), 3, none⟩,
        ⟨some 11, (.binOp .add 3 (.tmp 10) (.const (.int .i64 1)) 3), 3, none⟩,
        ⟨some 5, (.assign (.tmp 11)), 3, none⟩]))))))
  (.seq (.rgn [] [⟨some 18, (.move (.tmp 1)), 3, none⟩,
    ⟨some 4, (.assign (.tmp 18)), 3, none⟩])
  .ret)))
theorem lit178 : Lit Try.prog 178 19 [] [.tmp 4] c178 := ⟨⟨Try.f178, _, Try.func178, rfl, by kernel_rfl, rfl, rfl, by kernel_rfl, by kernel_rfl⟩, by decide, by kernel_rfl⟩
/-- laws.heldIntSS -/
def c179 : LC :=
  (.seq (.rgn [] [⟨some 4, (.assign (.const (.int .i64 0))), 3, none⟩])
  (.seq (.seq (.rgn [] [⟨some 5, (.assign (.const (.int .i64 0))), 3, none⟩])
  (.blk 0
    (.loop []
      (.seq (.seq (.rgn [] [⟨some 6, (.move (.tmp 5)), 3, none⟩,
        ⟨some 7, (.move (.tmp 0)), 82, none⟩,
        ⟨some 8, (.call { callee := (.builtin .len), args := #[(.tmp 7)], argTypes := #[82] }), 3, none⟩,
        ⟨some 9, (.binOp .lss 3 (.tmp 6) (.tmp 8) 3), 4, none⟩])
      (.cond (.tmp 9)
        .skip
        (.exit 0)))
      (.seq (.blk 1
        (.seq (.rgn [] [⟨some 12, (.move (.tmp 0)), 82, none⟩,
          ⟨some 13, (.move (.tmp 5)), 3, none⟩,
          ⟨some 14, (.indexAddr 82 (.tmp 12) (.tmp 13)), 0, none⟩,
          ⟨some 15, (.load 25 (.tmp 14)), 25, none⟩,
          ⟨some 16, (.move (.tmp 1)), 3, none⟩,
          ⟨some 17, (.call { callee := (.value (.func 25)), args := #[(.tmp 15), (.tmp 16)], argTypes := #[25, 3] }), 3, none⟩,
          ⟨some 1, (.assign (.tmp 17)), 3, none⟩])
        (.seq (.rgn [] [⟨some 18, (.move (.tmp 1)), 3, none⟩,
          ⟨some 19, (.binOp .lss 3 (.tmp 18) (.const (.int .i64 0)) 3), 4, none⟩])
        (.cond (.tmp 19)
          (.seq (.rgn [] [⟨some 4, (.assign (.const (.int .i64 (-1)))), 3, none⟩])
          .ret)
          .skip))))
      (.rgn [] [⟨some 10, (.move (.tmp 5)), 3, none⟩,
        ⟨some 11, (.binOp .add 3 (.tmp 10) (.const (.int .i64 1)) 3), 3, none⟩,
        ⟨some 5, (.assign (.tmp 11)), 3, none⟩]))))))
  (.seq (.rgn [] [⟨some 20, (.move (.tmp 1)), 3, none⟩,
    ⟨some 4, (.assign (.tmp 20)), 3, none⟩])
  .ret)))
theorem lit179 : Lit Try.prog 179 21 [] [.tmp 4] c179 := ⟨⟨Try.f179, _, Try.func179, rfl, by kernel_rfl, rfl, rfl, by kernel_rfl, by kernel_rfl⟩, by decide, by kernel_rfl⟩
/-- laws.eqView -/
def c196 : LC :=
  (.seq (.rgn [] [⟨some 2, (.box 161 (.tmp 0)), 0, none⟩,
    ⟨some 3, (.box 161 (.tmp 1)), 0, none⟩,
    ⟨some 4, (.assign (.const (.bool false))), 4, none⟩])
  (.seq (.seq (.rgn [] [⟨some 5, (.fieldAddr 161 (.tmp 2) 0), 0, none⟩,
    ⟨some 6, (.load 92 (.tmp 5)), 92, none⟩,
    ⟨some 7, (.fieldAddr 161 (.tmp 3) 0), 0, none⟩,
    ⟨some 8, (.load 92 (.tmp 7)), 92, none⟩,
    ⟨some 9, (.call { callee := (.value (.func 49)), args := #[(.tmp 6), (.tmp 8)], argTypes := #[92, 92] }), 4, none⟩,
    ⟨some 10, (.unOp .not 4 (.tmp 9)), 4, none⟩])
  (.cond (.tmp 10)
    (.seq (.rgn [] [⟨some 4, (.assign (.const (.bool false))), 4, none⟩])
    .ret)
    .skip))
  (.seq (.seq (.rgn [] [⟨some 11, (.fieldAddr 161 (.tmp 2) 1), 0, none⟩,
    ⟨some 12, (.load 159 (.tmp 11)), 159, none⟩,
    ⟨some 13, (.fieldAddr 161 (.tmp 3) 1), 0, none⟩,
    ⟨some 14, (.load 159 (.tmp 13)), 159, none⟩,
    ⟨some 15, (.call { callee := (.value (.func 197)), args := #[(.tmp 12), (.tmp 14)], argTypes := #[159, 159] }), 4, none⟩,
    ⟨some 16, (.unOp .not 4 (.tmp 15)), 4, none⟩])
  (.cond (.tmp 16)
    (.seq (.rgn [] [⟨some 4, (.assign (.const (.bool false))), 4, none⟩])
    .ret)
    .skip))
  (.seq (.rgn [] [⟨some 4, (.assign (.const (.bool true))), 4, none⟩])
  .ret))))
theorem lit196 : Lit Try.prog 196 17 [2, 3] [.tmp 4] c196 := ⟨⟨Try.f196, _, Try.func196, rfl, by kernel_rfl, rfl, rfl, by kernel_rfl, by kernel_rfl⟩, by decide, by kernel_rfl⟩
/-- laws.eqCountedRelation -/
def c197 : LC :=
  (.seq (.rgn [] [⟨some 2, (.box 159 (.tmp 0)), 0, none⟩,
    ⟨some 3, (.box 159 (.tmp 1)), 0, none⟩,
    ⟨some 4, (.assign (.const (.bool false))), 4, none⟩])
  (.seq (.seq (.rgn [] [⟨some 5, (.fieldAddr 159 (.tmp 2) 0), 0, none⟩,
    ⟨some 6, (.load 3 (.tmp 5)), 3, none⟩,
    ⟨some 7, (.fieldAddr 159 (.tmp 3) 0), 0, none⟩,
    ⟨some 8, (.load 3 (.tmp 7)), 3, none⟩,
    ⟨some 9, (.binOp .neq 3 (.tmp 6) (.tmp 8) 3), 4, none⟩])
  (.cond (.tmp 9)
    (.seq (.rgn [] [⟨some 4, (.assign (.const (.bool false))), 4, none⟩])
    .ret)
    .skip))
  (.seq (.seq (.rgn [] [⟨some 10, (.fieldAddr 159 (.tmp 2) 1), 0, none⟩,
    ⟨some 11, (.load 82 (.tmp 10)), 82, none⟩,
    ⟨some 12, (.fieldAddr 159 (.tmp 3) 1), 0, none⟩,
    ⟨some 13, (.load 82 (.tmp 12)), 82, none⟩,
    ⟨some 14, (.call { callee := (.value (.func 215)), args := #[(.tmp 11), (.tmp 13)], argTypes := #[82, 82] }), 4, none⟩,
    ⟨some 15, (.unOp .not 4 (.tmp 14)), 4, none⟩])
  (.cond (.tmp 15)
    (.seq (.rgn [] [⟨some 4, (.assign (.const (.bool false))), 4, none⟩])
    .ret)
    .skip))
  (.seq (.seq (.rgn [] [⟨some 16, (.fieldAddr 159 (.tmp 2) 2), 0, none⟩,
    ⟨some 17, (.load 25 (.tmp 16)), 25, none⟩,
    ⟨some 18, (.fieldAddr 159 (.tmp 3) 2), 0, none⟩,
    ⟨some 19, (.load 25 (.tmp 18)), 25, none⟩,
    ⟨some 20, (.call { callee := (.value (.func 19)), args := #[(.tmp 17), (.tmp 19)], argTypes := #[25, 25] }), 4, none⟩,
    ⟨some 21, (.unOp .not 4 (.tmp 20)), 4, none⟩])
  (.cond (.tmp 21)
    (.seq (.rgn [] [⟨some 4, (.assign (.const (.bool false))), 4, none⟩])
    .ret)
    .skip))
  (.seq (.rgn [] [⟨some 4, (.assign (.const (.bool true))), 4, none⟩])
  .ret)))))
theorem lit197 : Lit Try.prog 197 22 [2, 3] [.tmp 4] c197 := ⟨⟨Try.f197, _, Try.func197, rfl, by kernel_rfl, rfl, rfl, by kernel_rfl, by kernel_rfl⟩, by decide, by kernel_rfl⟩
/-- laws.szIntSS -/
def c199 : LC :=
  (.seq (.rgn [] [⟨some 4, (.assign (.const (.int .i64 0))), 3, none⟩])
  (.seq (.rgn [] [⟨some 6, (.move (.tmp 1)), 3, none⟩,
    ⟨some 7, (.move (.tmp 0)), 82, none⟩,
    ⟨some 8, (.call { callee := (.builtin .len), args := #[(.tmp 7)], argTypes := #[82] }), 3, none⟩,
    ⟨some 9, (.binOp .sub 3 (.tmp 6) (.tmp 8) 3), 3, none⟩,
    ⟨some 1, (.assign (.tmp 9)), 3, none⟩])
  (.seq (.seq (.rgn [] [⟨some 10, (.move (.tmp 1)), 3, none⟩,
    ⟨some 11, (.binOp .lss 3 (.tmp 10) (.const (.int .i64 0)) 3), 4, none⟩])
  (.cond (.tmp 11)
    (.seq (.rgn [] [⟨some 4, (.assign (.const (.int .i64 (-1)))), 3, none⟩])
    .ret)
    .skip))
  (.seq (.seq (.rgn [] [⟨some 5, (.assign (.const (.int .i64 0))), 3, none⟩])
  (.blk 0
    (.loop []
      (.seq (.seq (.rgn [] [⟨some 12, (.move (.tmp 5)), 3, none⟩,
        ⟨some 13, (.move (.tmp 0)), 82, none⟩,
        ⟨some 14, (.call { callee := (.builtin .len), args := #[(.tmp 13)], argTypes := #[82] }), 3, none⟩,
        ⟨some 15, (.binOp .lss 3 (.tmp 12) (.tmp 14) 3), 4, none⟩])
      (.cond (.tmp 15)
        .skip
        (.exit 0)))
      (.seq (.blk 1
        (.seq (.rgn [] [⟨some 18, (.move (.tmp 0)), 82, none⟩,
          ⟨some 19, (.move (.tmp 5)), 3, none⟩,
          ⟨some 20, (.indexAddr 82 (.tmp 18) (.tmp 19)), 0, none⟩,
          ⟨some 21, (.load 25 (.tmp 20)), 25, none⟩,
          ⟨some 22, (.move (.tmp 1)), 3, none⟩,
          ⟨some 23, (.call { callee := (.value (.func 72)), args := #[(.tmp 21), (.tmp 22)], argTypes := #[25, 3] }), 3, none⟩,
          ⟨some 1, (.assign (.tmp 23)), 3, none⟩])
        (.seq (.rgn [] [⟨some 24, (.move (.tmp 1)), 3, none⟩,
          ⟨some 25, (.binOp .lss 3 (.tmp 24) (.const (.int .i64 0)) 3), 4, none⟩])
        (.cond (.tmp 25)
          (.seq (.rgn [] [⟨some 4, (.assign (.const (.int .i64 (-1)))), 3, none⟩])
          .ret)
          .skip))))
      (.rgn [] [⟨some 16, (.move (.tmp 5)), 3, none⟩,
        ⟨some 17, (.binOp .add 3 (.tmp 16) (.const (.int .i64 1)) 3), 3, none⟩,
        ⟨some 5, (.assign (.tmp 17)), 3, none⟩]))))))
  (.seq (.rgn [] [⟨some 26, (.move (.tmp 1)), 3, none⟩,
    ⟨some 4, (.assign (.tmp 26)), 3, none⟩])
  .ret)))))
theorem lit199 : Lit Try.prog 199 27 [] [.tmp 4] c199 := ⟨⟨Try.f199, _, Try.func199, rfl, by kernel_rfl, rfl, rfl, by kernel_rfl, by kernel_rfl⟩, by decide, by kernel_rfl⟩
/-- laws.toIntSS -/
def c208 : LC :=
  (.seq (.rgn [] [⟨some 2, (.assign (.const (.slice none 0 0))), 82, none⟩])
  (.seq (.rgn [3, 7] [⟨some 5, (.move (.tmp 0)), 82, none⟩,
    ⟨some 6, (.call { callee := (.builtin .len), args := #[(.tmp 5)], argTypes := #[82] }), 3, none⟩,
    ⟨some 7, (.makeSlice 82 (.tmp 6) (.tmp 6)), 82, none⟩,
    ⟨some 3, (.assign (.tmp 7)), 82, none⟩])
  (.seq (.seq (.rgn [] [⟨some 4, (.assign (.const (.int .i64 0))), 3, none⟩])
  (.blk 0
    (.loop []
      (.seq (.seq (.rgn [] [⟨some 8, (.move (.tmp 4)), 3, none⟩,
        ⟨some 9, (.move (.tmp 0)), 82, none⟩,
        ⟨some 10, (.call { callee := (.builtin .len), args := #[(.tmp 9)], argTypes := #[82] }), 3, none⟩,
        ⟨some 11, (.binOp .lss 3 (.tmp 8) (.tmp 10) 3), 4, none⟩])
      (.cond (.tmp 11)
        .skip
        (.exit 0)))
      (.seq (.blk 1
        (.rgn [] [⟨some 14, (.move (.tmp 3)), 82, none⟩,
          ⟨some 15, (.move (.tmp 4)), 3, none⟩,
          ⟨some 16, (.move (.tmp 0)), 82, none⟩,
          ⟨some 17, (.move (.tmp 4)), 3, none⟩,
          ⟨some 18, (.indexAddr 82 (.tmp 16) (.tmp 17)), 0, none⟩,
          ⟨some 19, (.load 25 (.tmp 18)), 25, none⟩,
          ⟨some 20, (.call { callee := (.value (.func 58)), args := #[(.tmp 19)], argTypes := #[25] }), 25, none⟩,
          ⟨some 21, (.indexAddr 82 (.tmp 14) (.tmp 15)), 0, none⟩,
          ⟨none, (.store 25 (.tmp 21) (.tmp 20)), 0, none⟩]))
      (.rgn [] [⟨some 12, (.move (.tmp 4)), 3, none⟩,
        ⟨some 13, (.binOp .add 3 (.tmp 12) (.const (.int .i64 1)) 3), 3, none⟩,
        ⟨some 4, (.assign (.tmp 13)), 3, none⟩]))))))
  (.seq (.rgn [22] [⟨some 22, (.move (.tmp 3)), 82, none⟩,
    ⟨some 2, (.assign (.tmp 22)), 82, none⟩])
  .ret))))
theorem lit208 : Lit Try.prog 208 23 [3, 7] [.tmp 2] c208 := ⟨⟨Try.f208, _, Try.func208, rfl, by kernel_rfl, rfl, rfl, by kernel_rfl, by kernel_rfl⟩, by decide, by kernel_rfl⟩
/-- laws.eqAtom -/
def c214 : LC :=
  (.seq (.rgn [] [⟨some 2, (.box 195 (.tmp 0)), 0, none⟩,
    ⟨some 3, (.box 195 (.tmp 1)), 0, none⟩,
    ⟨some 4, (.assign (.const (.bool false))), 4, none⟩])
  (.seq (.seq (.rgn [] [⟨some 5, (.fieldAddr 195 (.tmp 2) 0), 0, none⟩,
    ⟨some 6, (.load 9 (.tmp 5)), 9, none⟩,
    ⟨some 7, (.fieldAddr 195 (.tmp 3) 0), 0, none⟩,
    ⟨some 8, (.load 9 (.tmp 7)), 9, none⟩,
    ⟨some 9, (.binOp .neq 9 (.tmp 6) (.tmp 8) 9), 4, none⟩])
  (.cond (.tmp 9)
    (.seq (.rgn [] [⟨some 4, (.assign (.const (.bool false))), 4, none⟩])
    .ret)
    .skip))
  (.seq (.seq (.rgn [] [⟨some 10, (.fieldAddr 195 (.tmp 2) 1), 0, none⟩,
    ⟨some 11, (.load 25 (.tmp 10)), 25, none⟩,
    ⟨some 12, (.fieldAddr 195 (.tmp 3) 1), 0, none⟩,
    ⟨some 13, (.load 25 (.tmp 12)), 25, none⟩,
    ⟨some 14, (.call { callee := (.value (.func 19)), args := #[(.tmp 11), (.tmp 13)], argTypes := #[25, 25] }), 4, none⟩,
    ⟨some 15, (.unOp .not 4 (.tmp 14)), 4, none⟩])
  (.cond (.tmp 15)
    (.seq (.rgn [] [⟨some 4, (.assign (.const (.bool false))), 4, none⟩])
    .ret)
    .skip))
  (.seq (.rgn [] [⟨some 4, (.assign (.const (.bool true))), 4, none⟩])
  .ret))))
theorem lit214 : Lit Try.prog 214 16 [2, 3] [.tmp 4] c214 := ⟨⟨Try.f214, _, Try.func214, rfl, by kernel_rfl, rfl, rfl, by kernel_rfl, by kernel_rfl⟩, by decide, by kernel_rfl⟩
/-- laws.eqIntSS -/
def c215 : LC :=
  (.seq (.rgn [] [⟨some 4, (.assign (.const (.bool false))), 4, none⟩])
  (.seq (.seq (.rgn [] [⟨some 6, (.move (.tmp 0)), 82, none⟩,
    ⟨some 7, (.call { callee := (.builtin .len), args := #[(.tmp 6)], argTypes := #[82] }), 3, none⟩,
    ⟨some 8, (.move (.tmp 1)), 82, none⟩,
    ⟨some 9, (.call { callee := (.builtin .len), args := #[(.tmp 8)], argTypes := #[82] }), 3, none⟩,
    ⟨some 10, (.binOp .neq 3 (.tmp 7) (.tmp 9) 3), 4, none⟩])
  (.cond (.tmp 10)
    (.seq (.rgn [] [⟨some 4, (.assign (.const (.bool false))), 4, none⟩])
    .ret)
    .skip))
  (.seq (.seq (.rgn [] [⟨some 5, (.assign (.const (.int .i64 0))), 3, none⟩])
  (.blk 0
    (.loop []
      (.seq (.seq (.rgn [] [⟨some 11, (.move (.tmp 5)), 3, none⟩,
        ⟨some 12, (.move (.tmp 0)), 82, none⟩,
        ⟨some 13, (.call { callee := (.builtin .len), args := #[(.tmp 12)], argTypes := #[82] }), 3, none⟩,
        ⟨some 14, (.binOp .lss 3 (.tmp 11) (.tmp 13) 3), 4, none⟩])
      (.cond (.tmp 14)
        .skip
        (.exit 0)))
      (.seq (.blk 1
        (.seq (.drw [] [([0], [17]), ([5], [18]), ([17, 18], [19]), ([19], [20]), ([1], [21]), ([5], [22]), ([21, 22], [23]), ([23], [24]), ([20, 24], [25]), ([25], [26])] [[], [], [0, 1], [2], [], [], [4, 5], [6], [3, 7], [8]] [⟨some 17, (.move (.tmp 0)), 82, none⟩,
          ⟨some 18, (.move (.tmp 5)), 3, none⟩,
          ⟨some 19, (.indexAddr 82 (.tmp 17) (.tmp 18)), 0, none⟩,
          ⟨some 20, (.load 25 (.tmp 19)), 25, none⟩,
          ⟨some 21, (.move (.tmp 1)), 82, none⟩,
          ⟨some 22, (.move (.tmp 5)), 3, none⟩,
          ⟨some 23, (.indexAddr 82 (.tmp 21) (.tmp 22)), 0, none⟩,
          ⟨some 24, (.load 25 (.tmp 23)), 25, none⟩,
          ⟨some 25, (.call { callee := (.value (.func 19)), args := #[(.tmp 20), (.tmp 24)], argTypes := #[25, 25] }), 4, none⟩,
          ⟨some 26, (.unOp .not 4 (.tmp 25)), 4, none⟩])
        (.cond (.tmp 26)
          (.seq (.rgn [] [⟨some 4, (.assign (.const (.bool false))), 4, none⟩])
          .ret)
          .skip)))
      (.rgn [] [⟨some 15, (.move (.tmp 5)), 3, none⟩,
        ⟨some 16, (.binOp .add 3 (.tmp 15) (.const (.int .i64 1)) 3), 3, none⟩,
        ⟨some 5, (.assign (.tmp 16)), 3, none⟩]))))))
  (.seq (.rgn [] [⟨some 4, (.assign (.const (.bool true))), 4, none⟩])
  .ret))))
theorem lit215 : Lit Try.prog 215 27 [] [.tmp 4] c215 := ⟨⟨Try.f215, _, Try.func215, rfl, by kernel_rfl, rfl, rfl, by kernel_rfl, by kernel_rfl⟩, by decide, by kernel_rfl⟩
/-- spec.IsValidName -/
def c216 : LC :=
  (.seq (.rgn [] [⟨some 2, (.assign (.const (.bool false))), 4, none⟩])
  (.seq (.seq (.rgn [] [⟨some 3, (.assign (.const (.int .i64 0))), 3, none⟩])
  (.blk 0
    (.loop []
      (.seq (.seq (.rgn [] [⟨some 4, (.move (.tmp 3)), 3, none⟩,
        ⟨some 5, (.move (.tmp 0)), 9, none⟩,
        ⟨some 6, (.call { callee := (.builtin .len), args := #[(.tmp 5)], argTypes := #[9] }), 3, none⟩,
        ⟨some 7, (.binOp .lss 3 (.tmp 4) (.tmp 6) 3), 4, none⟩])
      (.cond (.tmp 7)
        .skip
        (.exit 0)))
      (.seq (.blk 1
        (.seq (.rgn [] [⟨some 10, (.move (.tmp 0)), 9, none⟩,
          ⟨some 11, (.move (.tmp 3)), 3, none⟩,
          ⟨some 12, (.index 9 (.tmp 10) (.tmp 11)), 5, none⟩,
          ⟨some 13, (.binOp .lss 5 (.tmp 12) (.const (.int .u8 97)) 5), 4, none⟩,
          ⟨some 14, (.move (.tmp 13)), 4, none⟩,
          ⟨some 15, (.move (.tmp 0)), 9, some (some 14, false)⟩,
          ⟨some 16, (.move (.tmp 3)), 3, some (some 14, false)⟩,
          ⟨some 17, (.index 9 (.tmp 15) (.tmp 16)), 5, some (some 14, false)⟩,
          ⟨some 18, (.binOp .gtr 5 (.tmp 17) (.const (.int .u8 122)) 5), 4, some (some 14, false)⟩,
          ⟨some 19, (.pick (.tmp 14) (.const (.bool true)) (.tmp 18)), 4, none⟩])
        (.cond (.tmp 19)
          (.seq (.rgn [] [⟨some 2, (.assign (.const (.bool false))), 4, none⟩])
          .ret)
          .skip)))
      (.rgn [] [⟨some 8, (.move (.tmp 3)), 3, none⟩,
        ⟨some 9, (.binOp .add 3 (.tmp 8) (.const (.int .i64 1)) 3), 3, none⟩,
        ⟨some 3, (.assign (.tmp 9)), 3, none⟩]))))))
  (.seq (.rgn [] [⟨some 20, (.move (.tmp 0)), 9, none⟩,
    ⟨some 21, (.call { callee := (.builtin .len), args := #[(.tmp 20)], argTypes := #[9] }), 3, none⟩,
    ⟨some 22, (.call { callee := (.value (.func 86)), args := #[(.tmp 21), (.const (.int .i64 1)), (.const (.int .i64 4))], argTypes := #[3, 3, 3] }), 4, none⟩,
    ⟨some 2, (.assign (.tmp 22)), 4, none⟩])
  .ret)))
theorem lit216 : Lit Try.prog 216 23 [] [.tmp 2] c216 := ⟨⟨Try.f216, _, Try.func216, rfl, by kernel_rfl, rfl, rfl, by kernel_rfl, by kernel_rfl⟩, by decide, by kernel_rfl⟩
/-- spec.IsValidRelation -/
def c217 : LC :=
  (.seq (.rgn [] [⟨some 1, (.box 128 (.tmp 0)), 0, none⟩,
    ⟨some 2, (.assign (.const (.bool false))), 4, none⟩])
  (.seq (.seq (.rgn [] [⟨some 4, (.fieldAddr 128 (.tmp 1) 0), 0, none⟩,
    ⟨some 5, (.load 3 (.tmp 4)), 3, none⟩,
    ⟨some 6, (.call { callee := (.value (.func 86)), args := #[(.tmp 5), (.const (.int .i64 0)), (.const (.int .i64 5))], argTypes := #[3, 3, 3] }), 4, none⟩,
    ⟨some 7, (.unOp .not 4 (.tmp 6)), 4, none⟩,
    ⟨some 8, (.move (.tmp 7)), 4, none⟩,
    ⟨some 9, (.fieldAddr 128 (.tmp 1) 1), 0, some (some 8, false)⟩,
    ⟨some 10, (.load 82 (.tmp 9)), 82, some (some 8, false)⟩,
    ⟨some 11, (.call { callee := (.builtin .len), args := #[(.tmp 10)], argTypes := #[82] }), 3, some (some 8, false)⟩,
    ⟨some 12, (.binOp .gtr 3 (.tmp 11) (.const (.int .i64 4000)) 3), 4, some (some 8, false)⟩,
    ⟨some 13, (.pick (.tmp 8) (.const (.bool true)) (.tmp 12)), 4, none⟩])
  (.cond (.tmp 13)
    (.seq (.rgn [] [⟨some 2, (.assign (.const (.bool false))), 4, none⟩])
    .ret)
    .skip))
  (.seq (.seq (.rgn [] [⟨some 3, (.assign (.const (.int .i64 0))), 3, none⟩])
  (.blk 0
    (.loop []
      (.seq (.seq (.rgn [] [⟨some 14, (.move (.tmp 3)), 3, none⟩,
        ⟨some 15, (.fieldAddr 128 (.tmp 1) 1), 0, none⟩,
        ⟨some 16, (.load 82 (.tmp 15)), 82, none⟩,
        ⟨some 17, (.call { callee := (.builtin .len), args := #[(.tmp 16)], argTypes := #[82] }), 3, none⟩,
        ⟨some 18, (.binOp .lss 3 (.tmp 14) (.tmp 17) 3), 4, none⟩])
      (.cond (.tmp 18)
        .skip
        (.exit 0)))
      (.seq (.blk 1
        (.seq (.drw [] [([1], [21]), ([1, 21], [22]), ([3], [23]), ([22, 23], [24]), ([24], [25]), ([25], [26]), ([1], [27]), ([1, 27], [28]), ([26, 28], [29]), ([29], [30]), ([1, 30], [31]), ([1, 30, 31], [32]), ([3, 30], [33]), ([30, 32, 33], [34]), ([30, 34], [35]), ([30, 35], [36]), ([30, 36], [37]), ([30, 37], [38]), ([38], [39]), ([3, 39], [40]), ([39, 40], [41]), ([39, 41], [42]), ([1, 42], [43]), ([1, 42, 43], [44]), ([3, 42], [45]), ([42, 45], [46]), ([42, 44, 46], [47]), ([42, 47], [48]), ([1, 42], [49]), ([1, 42, 49], [50]), ([3, 42], [51]), ([42, 50, 51], [52]), ([42, 52], [53]), ([42, 48, 53], [54]), ([42, 54], [55]), ([39, 42, 55], [56]), ([39, 56], [57])] [[], [0], [], [1, 2], [3], [4], [], [6], [5, 7], [8], [9], [10, 9], [9], [11, 12, 9], [13, 9], [14, 9, 9], [15, 9], [9, 16], [17, 15], [18], [19, 18], [20, 18, 18], [21], [22, 21], [21], [24, 21], [23, 25, 21], [26, 21], [21], [28, 21], [21], [29, 30, 21], [31, 21], [27, 32, 21, 21], [33, 21], [21, 34, 18], [18, 35]] [⟨some 21, (.fieldAddr 128 (.tmp 1) 1), 0, none⟩,
          ⟨some 22, (.load 82 (.tmp 21)), 82, none⟩,
          ⟨some 23, (.move (.tmp 3)), 3, none⟩,
          ⟨some 24, (.indexAddr 82 (.tmp 22) (.tmp 23)), 0, none⟩,
          ⟨some 25, (.load 25 (.tmp 24)), 25, none⟩,
          ⟨some 26, (.call { callee := (.builtin .len), args := #[(.tmp 25)], argTypes := #[25] }), 3, none⟩,
          ⟨some 27, (.fieldAddr 128 (.tmp 1) 0), 0, none⟩,
          ⟨some 28, (.load 3 (.tmp 27)), 3, none⟩,
          ⟨some 29, (.binOp .neq 3 (.tmp 26) (.tmp 28) 3), 4, none⟩,
          ⟨some 30, (.move (.tmp 29)), 4, none⟩,
          ⟨some 31, (.fieldAddr 128 (.tmp 1) 1), 0, some (some 30, false)⟩,
          ⟨some 32, (.load 82 (.tmp 31)), 82, some (some 30, false)⟩,
          ⟨some 33, (.move (.tmp 3)), 3, some (some 30, false)⟩,
          ⟨some 34, (.indexAddr 82 (.tmp 32) (.tmp 33)), 0, some (some 30, false)⟩,
          ⟨some 35, (.load 25 (.tmp 34)), 25, some (some 30, false)⟩,
          ⟨some 36, (.call { callee := (.value (.func 242)), args := #[(.tmp 35)], argTypes := #[25] }), 4, some (some 30, false)⟩,
          ⟨some 37, (.unOp .not 4 (.tmp 36)), 4, some (some 30, false)⟩,
          ⟨some 38, (.pick (.tmp 30) (.const (.bool true)) (.tmp 37)), 4, none⟩,
          ⟨some 39, (.move (.tmp 38)), 4, none⟩,
          ⟨some 40, (.move (.tmp 3)), 3, some (some 39, false)⟩,
          ⟨some 41, (.binOp .gtr 3 (.tmp 40) (.const (.int .i64 0)) 3), 4, some (some 39, false)⟩,
          ⟨some 42, (.move (.tmp 41)), 4, some (some 39, false)⟩,
          ⟨some 43, (.fieldAddr 128 (.tmp 1) 1), 0, some (some 42, true)⟩,
          ⟨some 44, (.load 82 (.tmp 43)), 82, some (some 42, true)⟩,
          ⟨some 45, (.move (.tmp 3)), 3, some (some 42, true)⟩,
          ⟨some 46, (.binOp .sub 3 (.tmp 45) (.const (.int .i64 1)) 3), 3, some (some 42, true)⟩,
          ⟨some 47, (.indexAddr 82 (.tmp 44) (.tmp 46)), 0, some (some 42, true)⟩,
          ⟨some 48, (.load 25 (.tmp 47)), 25, some (some 42, true)⟩,
          ⟨some 49, (.fieldAddr 128 (.tmp 1) 1), 0, some (some 42, true)⟩,
          ⟨some 50, (.load 82 (.tmp 49)), 82, some (some 42, true)⟩,
          ⟨some 51, (.move (.tmp 3)), 3, some (some 42, true)⟩,
          ⟨some 52, (.indexAddr 82 (.tmp 50) (.tmp 51)), 0, some (some 42, true)⟩,
          ⟨some 53, (.load 25 (.tmp 52)), 25, some (some 42, true)⟩,
          ⟨some 54, (.call { callee := (.value (.func 75)), args := #[(.tmp 48), (.tmp 53)], argTypes := #[25, 25] }), 3, some (some 42, true)⟩,
          ⟨some 55, (.binOp .geq 3 (.tmp 54) (.const (.int .i64 0)) 3), 4, some (some 42, true)⟩,
          ⟨some 56, (.pick (.tmp 42) (.tmp 55) (.const (.bool false))), 4, some (some 39, false)⟩,
          ⟨some 57, (.pick (.tmp 39) (.const (.bool true)) (.tmp 56)), 4, none⟩])
        (.cond (.tmp 57)
          (.seq (.rgn [] [⟨some 2, (.assign (.const (.bool false))), 4, none⟩])
          .ret)
          .skip)))
      (.rgn [] [⟨some 19, (.move (.tmp 3)), 3, none⟩,
        ⟨some 20, (.binOp .add 3 (.tmp 19) (.const (.int .i64 1)) 3), 3, none⟩,
        ⟨some 3, (.assign (.tmp 20)), 3, none⟩]))))))
  (.seq (.rgn [] [⟨some 2, (.assign (.const (.bool true))), 4, none⟩])
  .ret))))
theorem lit217 : Lit Try.prog 217 58 [1] [.tmp 2] c217 := ⟨⟨Try.f217, _, Try.func217, rfl, by kernel_rfl, rfl, rfl, by kernel_rfl, by kernel_rfl⟩, by decide, by kernel_rfl⟩
/-- impl.IsValidName -/
def c218 : LC :=
  (.seq (.rgn [] [⟨some 2, (.assign (.const (.bool false))), 4, none⟩])
  (.seq (.rgn [] [⟨some 3, (.move (.tmp 0)), 9, none⟩,
    ⟨some 4, (.call { callee := (.value (.func 243)), args := #[(.tmp 3), (.const (.int .i64 4))], argTypes := #[9, 3] }), 4, none⟩,
    ⟨some 2, (.assign (.tmp 4)), 4, none⟩])
  .ret))
theorem lit218 : Lit Try.prog 218 5 [] [.tmp 2] c218 := ⟨⟨Try.f218, _, Try.func218, rfl, by kernel_rfl, rfl, rfl, by kernel_rfl, by kernel_rfl⟩, by decide, by kernel_rfl⟩
/-- impl.IsValidRelation -/
def c219 : LC :=
  (.seq (.rgn [] [⟨some 1, (.box 128 (.tmp 0)), 0, none⟩,
    ⟨some 2, (.assign (.const (.bool false))), 4, none⟩])
  (.seq (.rgn [] [⟨some 3, (.fieldAddr 128 (.tmp 1) 0), 0, none⟩,
    ⟨some 4, (.load 3 (.tmp 3)), 3, none⟩,
    ⟨some 5, (.fieldAddr 128 (.tmp 1) 1), 0, none⟩,
    ⟨some 6, (.load 82 (.tmp 5)), 82, none⟩,
    ⟨some 7, (.call { callee := (.value (.func 244)), args := #[(.tmp 4), (.tmp 6)], argTypes := #[3, 82] }), 4, none⟩,
    ⟨some 2, (.assign (.tmp 7)), 4, none⟩])
  .ret))
theorem lit219 : Lit Try.prog 219 8 [1] [.tmp 2] c219 := ⟨⟨Try.f219, _, Try.func219, rfl, by kernel_rfl, rfl, rfl, by kernel_rfl, by kernel_rfl⟩, by decide, by kernel_rfl⟩
/-- laws.heldAtomS -/
def c220 : LC :=
  (.seq (.rgn [] [⟨some 4, (.assign (.const (.int .i64 0))), 3, none⟩])
  (.seq (.seq (.rgn [] [⟨some 5, (.assign (.const (.int .i64 0))), 3, none⟩])
  (.blk 0
    (.loop []
      (.seq (.seq (.rgn [] [⟨some 6, (.move (.tmp 5)), 3, none⟩,
        ⟨some 7, (.move (.tmp 0)), 90, none⟩,
        ⟨some 8, (.call { callee := (.builtin .len), args := #[(.tmp 7)], argTypes := #[90] }), 3, none⟩,
        ⟨some 9, (.binOp .lss 3 (.tmp 6) (.tmp 8) 3), 4, none⟩])
      (.cond (.tmp 9)
        .skip
        (.exit 0)))
      (.seq (.blk 1
        (.seq (.seq (.drw [] [([0], [12]), ([5], [13]), ([12, 13], [14]), ([14], [15]), ([15], [16]), ([1], [17]), ([17], [18]), ([16, 18], [19])] [[], [], [0, 1], [2], [3], [], [5], [4, 6]] [⟨some 12, (.move (.tmp 0)), 90, none⟩,
          ⟨some 13, (.move (.tmp 5)), 3, none⟩,
          ⟨some 14, (.indexAddr 90 (.tmp 12) (.tmp 13)), 0, none⟩,
          ⟨some 15, (.fieldAddr 195 (.tmp 14) 0), 0, none⟩,
          ⟨some 16, (.load 9 (.tmp 15)), 9, none⟩,
          ⟨some 17, (.move (.tmp 1)), 3, none⟩,
          ⟨some 18, (.call { callee := (.value (.func 177)), args := #[(.tmp 17)], argTypes := #[3] }), 9, none⟩,
          ⟨some 19, (.binOp .neq 9 (.tmp 16) (.tmp 18) 9), 4, none⟩])
        (.cond (.tmp 19)
          (.seq (.rgn [] [⟨some 4, (.assign (.const (.int .i64 (-1)))), 3, none⟩])
          .ret)
          .skip))
        (.seq (.rgn [] [⟨some 20, (.move (.tmp 1)), 3, none⟩,
          ⟨some 21, (.binOp .add 3 (.tmp 20) (.const (.int .i64 1)) 3), 3, none⟩,
          ⟨some 1, (.assign (.tmp 21)), 3, none⟩])
        (.seq (.rgn [] [⟨some 22, (.move (.tmp 0)), 90, none⟩,
          ⟨some 23, (.move (.tmp 5)), 3, none⟩,
          ⟨some 24, (.indexAddr 90 (.tmp 22) (.tmp 23)), 0, none⟩,
          ⟨some 25, (.fieldAddr 195 (.tmp 24) 1), 0, none⟩,
          ⟨some 26, (.load 25 (.tmp 25)), 25, none⟩,
          ⟨some 27, (.move (.tmp 1)), 3, none⟩,
          ⟨some 28, (.call { callee := (.value (.func 25)), args := #[(.tmp 26), (.tmp 27)], argTypes := #[25, 3] }), 3, none⟩,
          ⟨some 1, (.assign (.tmp 28)), 3, none⟩])
        (.seq (.rgn [] [⟨some 29, (.move (.tmp 1)), 3, none⟩,
          ⟨some 30, (.binOp .lss 3 (.tmp 29) (.const (.int .i64 0)) 3), 4, none⟩])
        (.cond (.tmp 30)
          (.seq (.rgn [] [⟨some 4, (.assign (.const (.int .i64 (-1)))), 3, none⟩])
          .ret)
          .skip))))))
      (.rgn [] [⟨some 10, (.move (.tmp 5)), 3, none⟩,
        ⟨some 11, (.binOp .add 3 (.tmp 10) (.const (.int .i64 1)) 3), 3, none⟩,
        ⟨some 5, (.assign (.tmp 11)), 3, none⟩]))))))
  (.seq (.rgn [] [⟨some 31, (.move (.tmp 1)), 3, none⟩,
    ⟨some 4, (.assign (.tmp 31)), 3, none⟩])
  .ret)))
theorem lit220 : Lit Try.prog 220 32 [] [.tmp 4] c220 := ⟨⟨Try.f220, _, Try.func220, rfl, by kernel_rfl, rfl, rfl, by kernel_rfl, by kernel_rfl⟩, by decide, by kernel_rfl⟩
/-- laws.szRelation -/
def c235 : LC :=
  (.seq (.rgn [] [⟨some 2, (.box 204 (.tmp 0)), 0, none⟩,
    ⟨some 4, (.assign (.const (.int .i64 0))), 3, none⟩])
  (.seq (.rgn [] [⟨some 5, (.fieldAddr 204 (.tmp 2) 1), 0, none⟩,
    ⟨some 6, (.load 82 (.tmp 5)), 82, none⟩,
    ⟨some 7, (.move (.tmp 1)), 3, none⟩,
    ⟨some 8, (.call { callee := (.value (.func 199)), args := #[(.tmp 6), (.tmp 7)], argTypes := #[82, 3] }), 3, none⟩,
    ⟨some 1, (.assign (.tmp 8)), 3, none⟩])
  (.seq (.seq (.rgn [] [⟨some 9, (.move (.tmp 1)), 3, none⟩,
    ⟨some 10, (.binOp .lss 3 (.tmp 9) (.const (.int .i64 0)) 3), 4, none⟩])
  (.cond (.tmp 10)
    (.seq (.rgn [] [⟨some 4, (.assign (.const (.int .i64 (-1)))), 3, none⟩])
    .ret)
    .skip))
  (.seq (.rgn [] [⟨some 11, (.move (.tmp 1)), 3, none⟩,
    ⟨some 4, (.assign (.tmp 11)), 3, none⟩])
  .ret))))
theorem lit235 : Lit Try.prog 235 12 [2] [.tmp 4] c235 := ⟨⟨Try.f235, _, Try.func235, rfl, by kernel_rfl, rfl, rfl, by kernel_rfl, by kernel_rfl⟩, by decide, by kernel_rfl⟩
/-- laws.toRelation -/
def c236 : LC :=
  (.seq (.rgn [] [⟨some 1, (.box 204 (.tmp 0)), 0, none⟩,
    ⟨some 2, (.alloc 128), 0, none⟩])
  (.seq (.rgn [] [⟨some 3, (.alloc 128), 0, none⟩])
  (.seq (.rgn [] [⟨some 4, (.fieldAddr 204 (.tmp 1) 0), 0, none⟩,
    ⟨some 5, (.load 3 (.tmp 4)), 3, none⟩,
    ⟨some 6, (.fieldAddr 128 (.tmp 3) 0), 0, none⟩,
    ⟨none, (.store 3 (.tmp 6) (.tmp 5)), 0, none⟩])
  (.seq (.rgn [] [⟨some 7, (.fieldAddr 204 (.tmp 1) 1), 0, none⟩,
    ⟨some 8, (.load 82 (.tmp 7)), 82, none⟩,
    ⟨some 9, (.call { callee := (.value (.func 208)), args := #[(.tmp 8)], argTypes := #[82] }), 82, none⟩,
    ⟨some 10, (.fieldAddr 128 (.tmp 3) 1), 0, none⟩,
    ⟨none, (.store 82 (.tmp 10) (.tmp 9)), 0, none⟩])
  (.seq (.rgn [11] [⟨some 11, (.load 128 (.tmp 3)), 128, none⟩,
    ⟨none, (.store 128 (.tmp 2) (.tmp 11)), 0, none⟩])
  .ret)))))
theorem lit236 : Lit Try.prog 236 12 [1, 2, 3] [.cell 2 128] c236 := ⟨⟨Try.f236, _, Try.func236, rfl, by kernel_rfl, rfl, rfl, by kernel_rfl, by kernel_rfl⟩, by decide, by kernel_rfl⟩
/-- impl.copyRows -/
def c237 : LC :=
  (.seq (.rgn [] [⟨some 2, (.assign (.const (.slice none 0 0))), 82, none⟩])
  (.seq (.rgn [] [⟨some 3, (.assign (.const (.slice none 0 0))), 82, none⟩])
  (.seq (.seq (.rgn [] [⟨some 6, (.move (.tmp 0)), 82, none⟩,
    ⟨some 7, (.call { callee := (.builtin .len), args := #[(.tmp 6)], argTypes := #[82] }), 3, none⟩,
    ⟨some 8, (.move (.const (.int .i64 0))), 3, none⟩])
  (.blk 0
    (.loop []
      (.seq (.rgn [] [⟨some 9, (.binOp .lss 3 (.tmp 8) (.tmp 7) 3), 0, none⟩])
      (.seq (.cond (.tmp 9)
        .skip
        (.exit 0))
      (.seq (.blk 1
        (.seq (.rgn [11] [⟨some 10, (.indexAddr 82 (.tmp 6) (.tmp 8)), 0, none⟩,
          ⟨some 11, (.load 25 (.tmp 10)), 25, none⟩,
          ⟨some 5, (.assign (.tmp 11)), 25, none⟩])
        (.rgn [12] [⟨some 12, (.move (.tmp 3)), 82, none⟩,
          ⟨some 13, (.move (.tmp 5)), 25, none⟩,
          ⟨some 14, (.call { callee := (.value (.func 151)), args := #[(.tmp 13)], argTypes := #[25] }), 25, none⟩,
          ⟨some 15, (.buildSlice 82 1 #[(0, (.tmp 14))]), 82, none⟩,
          ⟨some 16, (.call { callee := (.builtin .append), args := #[(.tmp 12), (.tmp 15)], argTypes := #[82, 82] }), 82, none⟩,
          ⟨some 3, (.assign (.tmp 16)), 82, none⟩])))
      (.rgn [] [⟨some 17, (.binOp .add 3 (.tmp 8) (.const (.int .i64 1)) 3), 3, none⟩,
        ⟨some 8, (.move (.tmp 17)), 3, none⟩])))))))
  (.seq (.rgn [18] [⟨some 18, (.move (.tmp 3)), 82, none⟩,
    ⟨some 2, (.assign (.tmp 18)), 82, none⟩])
  .ret))))
theorem lit237 : Lit Try.prog 237 19 [] [.tmp 2] c237 := ⟨⟨Try.f237, _, Try.func237, rfl, by kernel_rfl, rfl, rfl, by kernel_rfl, by kernel_rfl⟩, by decide, by kernel_rfl⟩
/-- laws.eqRelation -/
def c238 : LC :=
  (.seq (.rgn [] [⟨some 2, (.box 128 (.tmp 0)), 0, none⟩,
    ⟨some 3, (.box 128 (.tmp 1)), 0, none⟩,
    ⟨some 4, (.assign (.const (.bool false))), 4, none⟩])
  (.seq (.seq (.rgn [] [⟨some 5, (.fieldAddr 128 (.tmp 2) 0), 0, none⟩,
    ⟨some 6, (.load 3 (.tmp 5)), 3, none⟩,
    ⟨some 7, (.fieldAddr 128 (.tmp 3) 0), 0, none⟩,
    ⟨some 8, (.load 3 (.tmp 7)), 3, none⟩,
    ⟨some 9, (.binOp .neq 3 (.tmp 6) (.tmp 8) 3), 4, none⟩])
  (.cond (.tmp 9)
    (.seq (.rgn [] [⟨some 4, (.assign (.const (.bool false))), 4, none⟩])
    .ret)
    .skip))
  (.seq (.seq (.rgn [] [⟨some 10, (.fieldAddr 128 (.tmp 2) 1), 0, none⟩,
    ⟨some 11, (.load 82 (.tmp 10)), 82, none⟩,
    ⟨some 12, (.fieldAddr 128 (.tmp 3) 1), 0, none⟩,
    ⟨some 13, (.load 82 (.tmp 12)), 82, none⟩,
    ⟨some 14, (.call { callee := (.value (.func 215)), args := #[(.tmp 11), (.tmp 13)], argTypes := #[82, 82] }), 4, none⟩,
    ⟨some 15, (.unOp .not 4 (.tmp 14)), 4, none⟩])
  (.cond (.tmp 15)
    (.seq (.rgn [] [⟨some 4, (.assign (.const (.bool false))), 4, none⟩])
    .ret)
    .skip))
  (.seq (.rgn [] [⟨some 4, (.assign (.const (.bool true))), 4, none⟩])
  .ret))))
theorem lit238 : Lit Try.prog 238 16 [2, 3] [.tmp 4] c238 := ⟨⟨Try.f238, _, Try.func238, rfl, by kernel_rfl, rfl, rfl, by kernel_rfl, by kernel_rfl⟩, by decide, by kernel_rfl⟩
/-- spec.AreValidValues -/
def c242 : LC :=
  (.seq (.rgn [] [⟨some 2, (.assign (.const (.bool false))), 4, none⟩])
  (.seq (.seq (.rgn [] [⟨some 3, (.assign (.const (.int .i64 0))), 3, none⟩])
  (.blk 0
    (.loop []
      (.seq (.seq (.rgn [] [⟨some 4, (.move (.tmp 3)), 3, none⟩,
        ⟨some 5, (.move (.tmp 0)), 25, none⟩,
        ⟨some 6, (.call { callee := (.builtin .len), args := #[(.tmp 5)], argTypes := #[25] }), 3, none⟩,
        ⟨some 7, (.binOp .lss 3 (.tmp 4) (.tmp 6) 3), 4, none⟩])
      (.cond (.tmp 7)
        .skip
        (.exit 0)))
      (.seq (.blk 1
        (.seq (.rgn [] [⟨some 10, (.move (.tmp 0)), 25, none⟩,
          ⟨some 11, (.move (.tmp 3)), 3, none⟩,
          ⟨some 12, (.indexAddr 25 (.tmp 10) (.tmp 11)), 0, none⟩,
          ⟨some 13, (.load 3 (.tmp 12)), 3, none⟩,
          ⟨some 14, (.call { callee := (.value (.func 86)), args := #[(.tmp 13), (.const (.int .i64 0)), (.const (.int .i64 99))], argTypes := #[3, 3, 3] }), 4, none⟩,
          ⟨some 15, (.unOp .not 4 (.tmp 14)), 4, none⟩])
        (.cond (.tmp 15)
          (.seq (.rgn [] [⟨some 2, (.assign (.const (.bool false))), 4, none⟩])
          .ret)
          .skip)))
      (.rgn [] [⟨some 8, (.move (.tmp 3)), 3, none⟩,
        ⟨some 9, (.binOp .add 3 (.tmp 8) (.const (.int .i64 1)) 3), 3, none⟩,
        ⟨some 3, (.assign (.tmp 9)), 3, none⟩]))))))
  (.seq (.rgn [] [⟨some 2, (.assign (.const (.bool true))), 4, none⟩])
  .ret)))
theorem lit242 : Lit Try.prog 242 16 [] [.tmp 2] c242 := ⟨⟨Try.f242, _, Try.func242, rfl, by kernel_rfl, rfl, rfl, by kernel_rfl, by kernel_rfl⟩, by decide, by kernel_rfl⟩
/-- impl.isLetters -/
def c243 : LC :=
  (.seq (.rgn [] [⟨some 4, (.assign (.const (.bool false))), 4, none⟩])
  (.seq (.seq (.rgn [] [⟨some 6, (.move (.tmp 0)), 9, none⟩,
    ⟨some 7, (.call { callee := (.builtin .len), args := #[(.tmp 6)], argTypes := #[9] }), 3, none⟩,
    ⟨some 8, (.binOp .lss 3 (.tmp 7) (.const (.int .i64 1)) 3), 4, none⟩,
    ⟨some 9, (.move (.tmp 8)), 4, none⟩,
    ⟨some 10, (.move (.tmp 0)), 9, some (some 9, false)⟩,
    ⟨some 11, (.call { callee := (.builtin .len), args := #[(.tmp 10)], argTypes := #[9] }), 3, some (some 9, false)⟩,
    ⟨some 12, (.move (.tmp 1)), 3, some (some 9, false)⟩,
    ⟨some 13, (.binOp .gtr 3 (.tmp 11) (.tmp 12) 3), 4, some (some 9, false)⟩,
    ⟨some 14, (.pick (.tmp 9) (.const (.bool true)) (.tmp 13)), 4, none⟩])
  (.cond (.tmp 14)
    (.seq (.rgn [] [⟨some 4, (.assign (.const (.bool false))), 4, none⟩])
    .ret)
    .skip))
  (.seq (.seq (.rgn [] [⟨some 5, (.assign (.const (.int .i64 0))), 3, none⟩])
  (.blk 0
    (.loop []
      (.seq (.seq (.rgn [] [⟨some 15, (.move (.tmp 5)), 3, none⟩,
        ⟨some 16, (.move (.tmp 0)), 9, none⟩,
        ⟨some 17, (.call { callee := (.builtin .len), args := #[(.tmp 16)], argTypes := #[9] }), 3, none⟩,
        ⟨some 18, (.binOp .lss 3 (.tmp 15) (.tmp 17) 3), 4, none⟩])
      (.cond (.tmp 18)
        .skip
        (.exit 0)))
      (.seq (.blk 1
        (.seq (.rgn [] [⟨some 21, (.move (.tmp 0)), 9, none⟩,
          ⟨some 22, (.move (.tmp 5)), 3, none⟩,
          ⟨some 23, (.index 9 (.tmp 21) (.tmp 22)), 5, none⟩,
          ⟨some 24, (.binOp .lss 5 (.tmp 23) (.const (.int .u8 97)) 5), 4, none⟩,
          ⟨some 25, (.move (.tmp 24)), 4, none⟩,
          ⟨some 26, (.move (.tmp 0)), 9, some (some 25, false)⟩,
          ⟨some 27, (.move (.tmp 5)), 3, some (some 25, false)⟩,
          ⟨some 28, (.index 9 (.tmp 26) (.tmp 27)), 5, some (some 25, false)⟩,
          ⟨some 29, (.binOp .gtr 5 (.tmp 28) (.const (.int .u8 122)) 5), 4, some (some 25, false)⟩,
          ⟨some 30, (.pick (.tmp 25) (.const (.bool true)) (.tmp 29)), 4, none⟩])
        (.cond (.tmp 30)
          (.seq (.rgn [] [⟨some 4, (.assign (.const (.bool false))), 4, none⟩])
          .ret)
          .skip)))
      (.rgn [] [⟨some 19, (.move (.tmp 5)), 3, none⟩,
        ⟨some 20, (.binOp .add 3 (.tmp 19) (.const (.int .i64 1)) 3), 3, none⟩,
        ⟨some 5, (.assign (.tmp 20)), 3, none⟩]))))))
  (.seq (.rgn [] [⟨some 4, (.assign (.const (.bool true))), 4, none⟩])
  .ret))))
theorem lit243 : Lit Try.prog 243 31 [] [.tmp 4] c243 := ⟨⟨Try.f243, _, Try.func243, rfl, by kernel_rfl, rfl, rfl, by kernel_rfl, by kernel_rfl⟩, by decide, by kernel_rfl⟩
/-- impl.rowsValid -/
def c244 : LC :=
  (.seq (.rgn [] [⟨some 4, (.assign (.const (.bool false))), 4, none⟩])
  (.seq (.seq (.rgn [] [⟨some 7, (.move (.tmp 0)), 3, none⟩,
    ⟨some 8, (.call { callee := (.value (.func 90)), args := #[(.tmp 7), (.const (.int .i64 0)), (.const (.int .i64 5))], argTypes := #[3, 3, 3] }), 4, none⟩,
    ⟨some 9, (.unOp .not 4 (.tmp 8)), 4, none⟩,
    ⟨some 10, (.move (.tmp 9)), 4, none⟩,
    ⟨some 11, (.move (.tmp 1)), 82, some (some 10, false)⟩,
    ⟨some 12, (.call { callee := (.builtin .len), args := #[(.tmp 11)], argTypes := #[82] }), 3, some (some 10, false)⟩,
    ⟨some 13, (.binOp .gtr 3 (.tmp 12) (.const (.int .i64 4000)) 3), 4, some (some 10, false)⟩,
    ⟨some 14, (.pick (.tmp 10) (.const (.bool true)) (.tmp 13)), 4, none⟩])
  (.cond (.tmp 14)
    (.seq (.rgn [] [⟨some 4, (.assign (.const (.bool false))), 4, none⟩])
    .ret)
    .skip))
  (.seq (.seq (.rgn [] [⟨some 15, (.move (.tmp 1)), 82, none⟩,
    ⟨some 16, (.call { callee := (.builtin .len), args := #[(.tmp 15)], argTypes := #[82] }), 3, none⟩,
    ⟨some 17, (.move (.const (.int .i64 0))), 3, none⟩])
  (.blk 0
    (.loop []
      (.seq (.rgn [] [⟨some 18, (.binOp .lss 3 (.tmp 17) (.tmp 16) 3), 0, none⟩])
      (.seq (.cond (.tmp 18)
        .skip
        (.exit 0))
      (.seq (.blk 1
        (.seq (.rgn [21] [⟨some 19, (.move (.tmp 17)), 3, none⟩,
          ⟨some 20, (.indexAddr 82 (.tmp 15) (.tmp 17)), 0, none⟩,
          ⟨some 21, (.load 25 (.tmp 20)), 25, none⟩,
          ⟨some 5, (.assign (.tmp 19)), 3, none⟩,
          ⟨some 6, (.assign (.tmp 21)), 25, none⟩])
        (.seq (.rgn [] [⟨some 22, (.move (.tmp 6)), 25, none⟩,
          ⟨some 23, (.call { callee := (.builtin .len), args := #[(.tmp 22)], argTypes := #[25] }), 3, none⟩,
          ⟨some 24, (.move (.tmp 0)), 3, none⟩,
          ⟨some 25, (.binOp .neq 3 (.tmp 23) (.tmp 24) 3), 4, none⟩,
          ⟨some 26, (.move (.tmp 25)), 4, none⟩,
          ⟨some 27, (.move (.tmp 6)), 25, some (some 26, false)⟩,
          ⟨some 28, (.call { callee := (.value (.func 258)), args := #[(.tmp 27)], argTypes := #[25] }), 4, some (some 26, false)⟩,
          ⟨some 29, (.unOp .not 4 (.tmp 28)), 4, some (some 26, false)⟩,
          ⟨some 30, (.pick (.tmp 26) (.const (.bool true)) (.tmp 29)), 4, none⟩,
          ⟨some 31, (.move (.tmp 30)), 4, none⟩,
          ⟨some 32, (.move (.tmp 5)), 3, some (some 31, false)⟩,
          ⟨some 33, (.binOp .gtr 3 (.tmp 32) (.const (.int .i64 0)) 3), 4, some (some 31, false)⟩,
          ⟨some 34, (.move (.tmp 33)), 4, some (some 31, false)⟩,
          ⟨some 35, (.move (.tmp 1)), 82, some (some 34, true)⟩,
          ⟨some 36, (.move (.tmp 5)), 3, some (some 34, true)⟩,
          ⟨some 37, (.binOp .sub 3 (.tmp 36) (.const (.int .i64 1)) 3), 3, some (some 34, true)⟩,
          ⟨some 38, (.indexAddr 82 (.tmp 35) (.tmp 37)), 0, some (some 34, true)⟩,
          ⟨some 39, (.load 25 (.tmp 38)), 25, some (some 34, true)⟩,
          ⟨some 40, (.move (.tmp 6)), 25, some (some 34, true)⟩,
          ⟨some 41, (.call { callee := (.value (.func 255)), args := #[(.tmp 39), (.tmp 40)], argTypes := #[25, 25] }), 3, some (some 34, true)⟩,
          ⟨some 42, (.binOp .geq 3 (.tmp 41) (.const (.int .i64 0)) 3), 4, some (some 34, true)⟩,
          ⟨some 43, (.pick (.tmp 34) (.tmp 42) (.const (.bool false))), 4, some (some 31, false)⟩,
          ⟨some 44, (.pick (.tmp 31) (.const (.bool true)) (.tmp 43)), 4, none⟩])
        (.cond (.tmp 44)
          (.seq (.rgn [] [⟨some 4, (.assign (.const (.bool false))), 4, none⟩])
          .ret)
          .skip))))
      (.rgn [] [⟨some 45, (.binOp .add 3 (.tmp 17) (.const (.int .i64 1)) 3), 3, none⟩,
        ⟨some 17, (.move (.tmp 45)), 3, none⟩])))))))
  (.seq (.rgn [] [⟨some 4, (.assign (.const (.bool true))), 4, none⟩])
  .ret))))
theorem lit244 : Lit Try.prog 244 46 [] [.tmp 4] c244 := ⟨⟨Try.f244, _, Try.func244, rfl, by kernel_rfl, rfl, rfl, by kernel_rfl, by kernel_rfl⟩, by decide, by kernel_rfl⟩
/-- impl.CompareRows -/
def c255 : LC :=
  (.seq (.rgn [] [⟨some 4, (.assign (.const (.int .i64 0))), 3, none⟩])
  (.seq (.seq (.rgn [] [⟨some 5, (.assign (.const (.int .i64 0))), 3, none⟩])
  (.blk 0
    (.loop []
      (.seq (.seq (.rgn [] [⟨some 6, (.move (.tmp 5)), 3, none⟩,
        ⟨some 7, (.move (.tmp 0)), 25, none⟩,
        ⟨some 8, (.call { callee := (.builtin .len), args := #[(.tmp 7)], argTypes := #[25] }), 3, none⟩,
        ⟨some 9, (.binOp .lss 3 (.tmp 6) (.tmp 8) 3), 4, none⟩,
        ⟨some 10, (.move (.tmp 9)), 4, none⟩,
        ⟨some 11, (.move (.tmp 5)), 3, some (some 10, true)⟩,
        ⟨some 12, (.move (.tmp 1)), 25, some (some 10, true)⟩,
        ⟨some 13, (.call { callee := (.builtin .len), args := #[(.tmp 12)], argTypes := #[25] }), 3, some (some 10, true)⟩,
        ⟨some 14, (.binOp .lss 3 (.tmp 11) (.tmp 13) 3), 4, some (some 10, true)⟩,
        ⟨some 15, (.pick (.tmp 10) (.tmp 14) (.const (.bool false))), 4, none⟩])
      (.cond (.tmp 15)
        .skip
        (.exit 0)))
      (.seq (.blk 1
        (.seq (.drw [] [([0], [18]), ([5], [19]), ([18, 19], [20]), ([20], [21]), ([1], [22]), ([5], [23]), ([22, 23], [24]), ([24], [25]), ([21, 25], [26])] [[], [], [0, 1], [2], [], [], [4, 5], [6], [3, 7]] [⟨some 18, (.move (.tmp 0)), 25, none⟩,
          ⟨some 19, (.move (.tmp 5)), 3, none⟩,
          ⟨some 20, (.indexAddr 25 (.tmp 18) (.tmp 19)), 0, none⟩,
          ⟨some 21, (.load 3 (.tmp 20)), 3, none⟩,
          ⟨some 22, (.move (.tmp 1)), 25, none⟩,
          ⟨some 23, (.move (.tmp 5)), 3, none⟩,
          ⟨some 24, (.indexAddr 25 (.tmp 22) (.tmp 23)), 0, none⟩,
          ⟨some 25, (.load 3 (.tmp 24)), 3, none⟩,
          ⟨some 26, (.binOp .neq 3 (.tmp 21) (.tmp 25) 3), 4, none⟩])
        (.cond (.tmp 26)
          (.seq (.drw [] [([0], [27]), ([5], [28]), ([27, 28], [29]), ([29], [30]), ([1], [31]), ([5], [32]), ([31, 32], [33]), ([33], [34]), ([30, 34], [35]), ([35], [4, 35])] [[], [], [0, 1], [2], [], [], [4, 5], [6], [3, 7], [8, 8, 0, 1, 2, 3, 4, 5, 6, 7, 8]] [⟨some 27, (.move (.tmp 0)), 25, none⟩,
            ⟨some 28, (.move (.tmp 5)), 3, none⟩,
            ⟨some 29, (.indexAddr 25 (.tmp 27) (.tmp 28)), 0, none⟩,
            ⟨some 30, (.load 3 (.tmp 29)), 3, none⟩,
            ⟨some 31, (.move (.tmp 1)), 25, none⟩,
            ⟨some 32, (.move (.tmp 5)), 3, none⟩,
            ⟨some 33, (.indexAddr 25 (.tmp 31) (.tmp 32)), 0, none⟩,
            ⟨some 34, (.load 3 (.tmp 33)), 3, none⟩,
            ⟨some 35, (.call { callee := (.value (.func 262)), args := #[(.tmp 30), (.tmp 34)], argTypes := #[3, 3] }), 3, none⟩,
            ⟨some 4, (.assign (.tmp 35)), 3, none⟩])
          .ret)
          .skip)))
      (.rgn [] [⟨some 16, (.move (.tmp 5)), 3, none⟩,
        ⟨some 17, (.binOp .add 3 (.tmp 16) (.const (.int .i64 1)) 3), 3, none⟩,
        ⟨some 5, (.assign (.tmp 17)), 3, none⟩]))))))
  (.seq (.rgn [] [⟨some 36, (.move (.tmp 0)), 25, none⟩,
    ⟨some 37, (.call { callee := (.builtin .len), args := #[(.tmp 36)], argTypes := #[25] }), 3, none⟩,
    ⟨some 38, (.move (.tmp 1)), 25, none⟩,
    ⟨some 39, (.call { callee := (.builtin .len), args := #[(.tmp 38)], argTypes := #[25] }), 3, none⟩,
    ⟨some 40, (.call { callee := (.value (.func 262)), args := #[(.tmp 37), (.tmp 39)], argTypes := #[3, 3] }), 3, none⟩,
    ⟨some 4, (.assign (.tmp 40)), 3, none⟩])
  .ret)))
theorem lit255 : Lit Try.prog 255 41 [] [.tmp 4] c255 := ⟨⟨Try.f255, _, Try.func255, rfl, by kernel_rfl, rfl, rfl, by kernel_rfl, by kernel_rfl⟩, by decide, by kernel_rfl⟩
/-- impl.AreValidValues -/
def c258 : LC :=
  (.seq (.rgn [] [⟨some 2, (.assign (.const (.bool false))), 4, none⟩])
  (.seq (.seq (.rgn [] [⟨some 5, (.move (.tmp 0)), 25, none⟩,
    ⟨some 6, (.call { callee := (.builtin .len), args := #[(.tmp 5)], argTypes := #[25] }), 3, none⟩,
    ⟨some 7, (.move (.const (.int .i64 0))), 3, none⟩])
  (.blk 0
    (.loop []
      (.seq (.rgn [] [⟨some 8, (.binOp .lss 3 (.tmp 7) (.tmp 6) 3), 0, none⟩])
      (.seq (.cond (.tmp 8)
        .skip
        (.exit 0))
      (.seq (.blk 1
        (.seq (.rgn [] [⟨some 9, (.indexAddr 25 (.tmp 5) (.tmp 7)), 0, none⟩,
          ⟨some 10, (.load 3 (.tmp 9)), 3, none⟩,
          ⟨some 4, (.assign (.tmp 10)), 3, none⟩])
        (.seq (.rgn [] [⟨some 11, (.move (.tmp 4)), 3, none⟩,
          ⟨some 12, (.call { callee := (.value (.func 90)), args := #[(.tmp 11), (.const (.int .i64 0)), (.const (.int .i64 99))], argTypes := #[3, 3, 3] }), 4, none⟩,
          ⟨some 13, (.unOp .not 4 (.tmp 12)), 4, none⟩])
        (.cond (.tmp 13)
          (.seq (.rgn [] [⟨some 2, (.assign (.const (.bool false))), 4, none⟩])
          .ret)
          .skip))))
      (.rgn [] [⟨some 14, (.binOp .add 3 (.tmp 7) (.const (.int .i64 1)) 3), 3, none⟩,
        ⟨some 7, (.move (.tmp 14)), 3, none⟩])))))))
  (.seq (.rgn [] [⟨some 2, (.assign (.const (.bool true))), 4, none⟩])
  .ret)))
theorem lit258 : Lit Try.prog 258 15 [] [.tmp 2] c258 := ⟨⟨Try.f258, _, Try.func258, rfl, by kernel_rfl, rfl, rfl, by kernel_rfl, by kernel_rfl⟩, by decide, by kernel_rfl⟩
/-- impl.compareInts -/
def c262 : LC :=
  (.seq (.rgn [] [⟨some 4, (.assign (.const (.int .i64 0))), 3, none⟩])
  (.seq (.blk 0
    (.seq (.rgn [] [⟨some 6, (.move (.tmp 0)), 3, none⟩,
      ⟨some 7, (.move (.tmp 1)), 3, none⟩,
      ⟨some 8, (.binOp .lss 3 (.tmp 6) (.tmp 7) 3), 4, none⟩,
      ⟨some 5, (.assign (.tmp 8)), 4, none⟩])
    (.cond (.tmp 5)
      (.seq (.rgn [] [⟨some 4, (.assign (.const (.int .i64 (-1)))), 3, none⟩])
      .ret)
      (.seq (.rgn [] [⟨some 10, (.move (.tmp 0)), 3, none⟩,
        ⟨some 11, (.move (.tmp 1)), 3, none⟩,
        ⟨some 12, (.binOp .gtr 3 (.tmp 10) (.tmp 11) 3), 4, none⟩,
        ⟨some 9, (.assign (.tmp 12)), 4, none⟩])
      (.cond (.tmp 9)
        (.seq (.rgn [] [⟨some 4, (.assign (.const (.int .i64 1))), 3, none⟩])
        .ret)
        .skip)))))
  (.seq (.rgn [] [⟨some 4, (.assign (.const (.int .i64 0))), 3, none⟩])
  .ret)))
theorem lit262 : Lit Try.prog 262 13 [] [.tmp 4] c262 := ⟨⟨Try.f262, _, Try.func262, rfl, by kernel_rfl, rfl, rfl, by kernel_rfl, by kernel_rfl⟩, by decide, by kernel_rfl⟩
end Go.Proofs.Ytkcfahfladikkaa
