/-
  The functions' code as the program holds it, without places and edges; printed by genlit.py. No conditions.
-/
import Derived.Test.YtkcfahfladikkaaTb
namespace Go.Proofs.Ytkcfahfladikkaa
open Go.RowKit
set_option linter.unusedVariables false
set_option maxRecDepth 100000
/-- laws.eqIntS -/
def c19 : LC :=
  (.seq (.rgn [] [LL 4 (.assign (.const (.bool false))) 4])
 (.seq (.seq (.rgn [] [LL 6 (.move (.tmp 0)) 25,
 LL 7 (.call { callee := (.builtin .len), args := #[(.tmp 6)], argTypes := #[25] }) 3,
 LL 8 (.move (.tmp 1)) 25,
 LL 9 (.call { callee := (.builtin .len), args := #[(.tmp 8)], argTypes := #[25] }) 3,
 LL 10 (.binOp .neq 3 (.tmp 7) (.tmp 9) 3) 4])
 (.cond (.tmp 10)
 (.seq (.rgn [] [LL 4 (.assign (.const (.bool false))) 4])
 .ret)
 .skip))
 (.seq (.seq (.rgn [] [LL 5 (.assign (.const (.int .i64 0))) 3])
 (.blk 0
 (.loop []
 (.seq (.seq (.rgn [] [LL 11 (.move (.tmp 5)) 3,
 LL 12 (.move (.tmp 0)) 25,
 LL 13 (.call { callee := (.builtin .len), args := #[(.tmp 12)], argTypes := #[25] }) 3,
 LL 14 (.binOp .lss 3 (.tmp 11) (.tmp 13) 3) 4])
 (.cond (.tmp 14)
 .skip
 (.exit 0)))
 (.seq (.blk 1
 (.seq (.drw [] [([0], [17]), ([5], [18]), ([17, 18], [19]), ([19], [20]), ([1], [21]), ([5], [22]), ([21, 22], [23]), ([23], [24]), ([20, 24], [25])] [[], [], [0, 1], [2], [], [], [4, 5], [6], [3, 7]] [LL 17 (.move (.tmp 0)) 25,
 LL 18 (.move (.tmp 5)) 3,
 LL 19 (.indexAddr 25 (.tmp 17) (.tmp 18)) 0,
 LL 20 (.load 3 (.tmp 19)) 3,
 LL 21 (.move (.tmp 1)) 25,
 LL 22 (.move (.tmp 5)) 3,
 LL 23 (.indexAddr 25 (.tmp 21) (.tmp 22)) 0,
 LL 24 (.load 3 (.tmp 23)) 3,
 LL 25 (.binOp .neq 3 (.tmp 20) (.tmp 24) 3) 4])
 (.cond (.tmp 25)
 (.seq (.rgn [] [LL 4 (.assign (.const (.bool false))) 4])
 .ret)
 .skip)))
 (.rgn [] [LL 15 (.move (.tmp 5)) 3,
 LL 16 (.binOp .add 3 (.tmp 15) (.const (.int .i64 1)) 3) 3,
 LL 5 (.assign (.tmp 16)) 3]))))))
 (.seq (.rgn [] [LL 4 (.assign (.const (.bool true))) 4])
 .ret))))
theorem lit19 : Lit Try.prog 19 26 [] [.tmp 4] c19 := ⟨⟨Try.f19, _, Try.func19, rfl, by kernel_rfl, rfl, rfl, by kernel_rfl, by kernel_rfl⟩, by decide, by kernel_rfl⟩
/-- laws.szQuery -/
def c43 : LC :=
  (.seq (.rgn [] [LL 2 (.box 79 (.tmp 0)) 0,
 LL 4 (.assign (.const (.int .i64 0))) 3])
 (.seq (.rgn [] [LL 5 (.fieldAddr 79 (.tmp 2) 1) 0,
 LL 6 (.load 77 (.tmp 5)) 77,
 LL 7 (.move (.tmp 1)) 3,
 LL 8 (.call { callee := (.value (.func 120)), args := #[(.tmp 6), (.tmp 7)], argTypes := #[77, 3] }) 3,
 LL 1 (.assign (.tmp 8)) 3])
 (.seq (.seq (.rgn [] [LL 9 (.move (.tmp 1)) 3,
 LL 10 (.binOp .lss 3 (.tmp 9) (.const (.int .i64 0)) 3) 4])
 (.cond (.tmp 10)
 (.seq (.rgn [] [LL 4 (.assign (.const (.int .i64 (-1)))) 3])
 .ret)
 .skip))
 (.seq (.rgn [] [LL 11 (.fieldAddr 79 (.tmp 2) 2) 0,
 LL 12 (.load 25 (.tmp 11)) 25,
 LL 13 (.move (.tmp 1)) 3,
 LL 14 (.call { callee := (.value (.func 72)), args := #[(.tmp 12), (.tmp 13)], argTypes := #[25, 3] }) 3,
 LL 1 (.assign (.tmp 14)) 3])
 (.seq (.seq (.rgn [] [LL 15 (.move (.tmp 1)) 3,
 LL 16 (.binOp .lss 3 (.tmp 15) (.const (.int .i64 0)) 3) 4])
 (.cond (.tmp 16)
 (.seq (.rgn [] [LL 4 (.assign (.const (.int .i64 (-1)))) 3])
 .ret)
 .skip))
 (.seq (.rgn [] [LL 17 (.move (.tmp 1)) 3,
 LL 4 (.assign (.tmp 17)) 3])
 .ret))))))
theorem lit43 : Lit Try.prog 43 18 [2] [.tmp 4] c43 := ⟨⟨Try.f43, _, Try.func43, rfl, by kernel_rfl, rfl, rfl, by kernel_rfl, by kernel_rfl⟩, by decide, by kernel_rfl⟩
/-- laws.szPlan -/
def c44 : LC :=
  (.seq (.rgn [] [LL 2 (.box 86 (.tmp 0)) 0,
 LL 4 (.assign (.const (.int .i64 0))) 3])
 (.seq (.rgn [] [LL 5 (.fieldAddr 86 (.tmp 2) 1) 0,
 LL 6 (.load 25 (.tmp 5)) 25,
 LL 7 (.move (.tmp 1)) 3,
 LL 8 (.call { callee := (.value (.func 72)), args := #[(.tmp 6), (.tmp 7)], argTypes := #[25, 3] }) 3,
 LL 1 (.assign (.tmp 8)) 3])
 (.seq (.seq (.rgn [] [LL 9 (.move (.tmp 1)) 3,
 LL 10 (.binOp .lss 3 (.tmp 9) (.const (.int .i64 0)) 3) 4])
 (.cond (.tmp 10)
 (.seq (.rgn [] [LL 4 (.assign (.const (.int .i64 (-1)))) 3])
 .ret)
 .skip))
 (.seq (.rgn [] [LL 11 (.fieldAddr 86 (.tmp 2) 2) 0,
 LL 12 (.load 81 (.tmp 11)) 81,
 LL 13 (.move (.tmp 1)) 3,
 LL 14 (.call { callee := (.value (.func 121)), args := #[(.tmp 12), (.tmp 13)], argTypes := #[81, 3] }) 3,
 LL 1 (.assign (.tmp 14)) 3])
 (.seq (.seq (.rgn [] [LL 15 (.move (.tmp 1)) 3,
 LL 16 (.binOp .lss 3 (.tmp 15) (.const (.int .i64 0)) 3) 4])
 (.cond (.tmp 16)
 (.seq (.rgn [] [LL 4 (.assign (.const (.int .i64 (-1)))) 3])
 .ret)
 .skip))
 (.seq (.rgn [] [LL 17 (.fieldAddr 86 (.tmp 2) 3) 0,
 LL 18 (.load 84 (.tmp 17)) 84,
 LL 19 (.move (.tmp 1)) 3,
 LL 20 (.call { callee := (.value (.func 122)), args := #[(.tmp 18), (.tmp 19)], argTypes := #[84, 3] }) 3,
 LL 1 (.assign (.tmp 20)) 3])
 (.seq (.seq (.rgn [] [LL 21 (.move (.tmp 1)) 3,
 LL 22 (.binOp .lss 3 (.tmp 21) (.const (.int .i64 0)) 3) 4])
 (.cond (.tmp 22)
 (.seq (.rgn [] [LL 4 (.assign (.const (.int .i64 (-1)))) 3])
 .ret)
 .skip))
 (.seq (.rgn [] [LL 23 (.move (.tmp 1)) 3,
 LL 4 (.assign (.tmp 23)) 3])
 .ret))))))))
theorem lit44 : Lit Try.prog 44 24 [2] [.tmp 4] c44 := ⟨⟨Try.f44, _, Try.func44, rfl, by kernel_rfl, rfl, rfl, by kernel_rfl, by kernel_rfl⟩, by decide, by kernel_rfl⟩
/-- spec.IsValidPlan -/
def c45 : LC :=
  (.seq (.rgn [] [LL 2 (.box 92 (.tmp 0)) 0,
 LL 3 (.box 97 (.tmp 1)) 0,
 LL 4 (.assign (.const (.bool false))) 4])
 (.seq (.seq (.rgn [] [LL 5 (.fieldAddr 97 (.tmp 3) 0) 0,
 LL 6 (.load 3 (.tmp 5)) 3])
 (.blk 0
 (.seq (.rgn [] [LL 8 (.binOp .eql 3 (.tmp 6) (.const (.int .i64 1)) 3) 4,
 LL 7 (.assign (.tmp 8)) 4])
 (.cond (.tmp 7)
 (.seq (.rgn [] [LL 9 (.load 92 (.tmp 2)) 92,
 LL 10 (.fieldAddr 97 (.tmp 3) 2) 0,
 LL 11 (.load 94 (.tmp 10)) 94,
 LL 12 (.call { callee := (.value (.func 123)), args := #[(.tmp 9), (.tmp 11)], argTypes := #[92, 94] }) 4,
 LL 4 (.assign (.tmp 12)) 4])
 .ret)
 (.seq (.rgn [] [LL 14 (.binOp .eql 3 (.tmp 6) (.const (.int .i64 2)) 3) 4,
 LL 13 (.assign (.tmp 14)) 4])
 (.cond (.tmp 13)
 (.seq (.rgn [] [LL 15 (.load 92 (.tmp 2)) 92,
 LL 16 (.fieldAddr 97 (.tmp 3) 3) 0,
 LL 17 (.load 95 (.tmp 16)) 95,
 LL 18 (.call { callee := (.value (.func 124)), args := #[(.tmp 15), (.tmp 17)], argTypes := #[92, 95] }) 4,
 LL 4 (.assign (.tmp 18)) 4])
 .ret)
 (.seq (.rgn [] [LL 20 (.binOp .eql 3 (.tmp 6) (.const (.int .i64 3)) 3) 4,
 LL 19 (.assign (.tmp 20)) 4])
 (.cond (.tmp 19)
 (.seq (.rgn [] [LL 21 (.load 92 (.tmp 2)) 92,
 LL 22 (.fieldAddr 97 (.tmp 3) 1) 0,
 LL 23 (.load 25 (.tmp 22)) 25,
 LL 24 (.call { callee := (.value (.func 125)), args := #[(.tmp 21), (.tmp 23)], argTypes := #[92, 25] }) 4,
 LL 4 (.assign (.tmp 24)) 4])
 .ret)
 .skip))))))))
 (.seq (.rgn [] [LL 4 (.assign (.const (.bool false))) 4])
 .ret)))
theorem lit45 : Lit Try.prog 45 25 [2, 3] [.tmp 4] c45 := ⟨⟨Try.f45, _, Try.func45, rfl, by kernel_rfl, rfl, rfl, by kernel_rfl, by kernel_rfl⟩, by decide, by kernel_rfl⟩
/-- laws.toQuery -/
def c46 : LC :=
  (.seq (.rgn [] [LL 1 (.box 79 (.tmp 0)) 0,
 LL 2 (.alloc 92) 0])
 (.seq (.rgn [] [LL 3 (.alloc 92) 0])
 (.seq (.rgn [] [LL 4 (.fieldAddr 79 (.tmp 1) 0) 0,
 LL 5 (.load 3 (.tmp 4)) 3,
 LL 6 (.fieldAddr 92 (.tmp 3) 0) 0,
 ⟨none, (.store 3 (.tmp 6) (.tmp 5)), 0, none⟩])
 (.seq (.rgn [] [LL 7 (.fieldAddr 79 (.tmp 1) 1) 0,
 LL 8 (.load 77 (.tmp 7)) 77,
 LL 9 (.call { callee := (.value (.func 126)), args := #[(.tmp 8)], argTypes := #[77] }) 90,
 LL 10 (.fieldAddr 92 (.tmp 3) 1) 0,
 ⟨none, (.store 90 (.tmp 10) (.tmp 9)), 0, none⟩])
 (.seq (.rgn [] [LL 11 (.fieldAddr 79 (.tmp 1) 2) 0,
 LL 12 (.load 25 (.tmp 11)) 25,
 LL 13 (.call { callee := (.value (.func 58)), args := #[(.tmp 12)], argTypes := #[25] }) 25,
 LL 14 (.fieldAddr 92 (.tmp 3) 2) 0,
 ⟨none, (.store 25 (.tmp 14) (.tmp 13)), 0, none⟩])
 (.seq (.rgn [15] [LL 15 (.load 92 (.tmp 3)) 92,
 ⟨none, (.store 92 (.tmp 2) (.tmp 15)), 0, none⟩])
 .ret))))))
theorem lit46 : Lit Try.prog 46 16 [1, 2, 3] [.cell 2 92] c46 := ⟨⟨Try.f46, _, Try.func46, rfl, by kernel_rfl, rfl, rfl, by kernel_rfl, by kernel_rfl⟩, by decide, by kernel_rfl⟩
/-- laws.toPlan -/
def c47 : LC :=
  (.seq (.rgn [] [LL 1 (.box 86 (.tmp 0)) 0,
 LL 2 (.alloc 97) 0])
 (.seq (.rgn [] [LL 3 (.alloc 97) 0])
 (.seq (.rgn [] [LL 4 (.fieldAddr 86 (.tmp 1) 0) 0,
 LL 5 (.load 3 (.tmp 4)) 3,
 LL 6 (.fieldAddr 97 (.tmp 3) 0) 0,
 ⟨none, (.store 3 (.tmp 6) (.tmp 5)), 0, none⟩])
 (.seq (.rgn [] [LL 7 (.fieldAddr 86 (.tmp 1) 1) 0,
 LL 8 (.load 25 (.tmp 7)) 25,
 LL 9 (.call { callee := (.value (.func 58)), args := #[(.tmp 8)], argTypes := #[25] }) 25,
 LL 10 (.fieldAddr 97 (.tmp 3) 1) 0,
 ⟨none, (.store 25 (.tmp 10) (.tmp 9)), 0, none⟩])
 (.seq (.rgn [] [LL 11 (.fieldAddr 86 (.tmp 1) 2) 0,
 LL 12 (.load 81 (.tmp 11)) 81,
 LL 13 (.call { callee := (.value (.func 127)), args := #[(.tmp 12)], argTypes := #[81] }) 94,
 LL 14 (.fieldAddr 97 (.tmp 3) 2) 0,
 ⟨none, (.store 94 (.tmp 14) (.tmp 13)), 0, none⟩])
 (.seq (.rgn [] [LL 15 (.fieldAddr 86 (.tmp 1) 3) 0,
 LL 16 (.load 84 (.tmp 15)) 84,
 LL 17 (.call { callee := (.value (.func 128)), args := #[(.tmp 16)], argTypes := #[84] }) 95,
 LL 18 (.fieldAddr 97 (.tmp 3) 3) 0,
 ⟨none, (.store 95 (.tmp 18) (.tmp 17)), 0, none⟩])
 (.seq (.rgn [19] [LL 19 (.load 97 (.tmp 3)) 97,
 ⟨none, (.store 97 (.tmp 2) (.tmp 19)), 0, none⟩])
 .ret)))))))
theorem lit47 : Lit Try.prog 47 20 [1, 2, 3] [.cell 2 97] c47 := ⟨⟨Try.f47, _, Try.func47, rfl, by kernel_rfl, rfl, rfl, by kernel_rfl, by kernel_rfl⟩, by decide, by kernel_rfl⟩
/-- impl.IsValidPlan -/
def c48 : LC :=
  (.seq (.rgn [] [LL 2 (.box 92 (.tmp 0)) 0,
 LL 3 (.box 97 (.tmp 1)) 0,
 LL 4 (.assign (.const (.bool false))) 4])
 (.seq (.seq (.rgn [] [LL 5 (.fieldAddr 97 (.tmp 3) 0) 0,
 LL 6 (.load 3 (.tmp 5)) 3])
 (.blk 0
 (.seq (.rgn [] [LL 8 (.binOp .eql 3 (.tmp 6) (.const (.int .i64 1)) 3) 4,
 LL 7 (.assign (.tmp 8)) 4])
 (.cond (.tmp 7)
 (.seq (.rgn [] [LL 9 (.load 92 (.tmp 2)) 92,
 LL 10 (.fieldAddr 97 (.tmp 3) 2) 0,
 LL 11 (.load 94 (.tmp 10)) 94,
 LL 12 (.call { callee := (.value (.func 129)), args := #[(.tmp 9), (.tmp 11)], argTypes := #[92, 94] }) 4,
 LL 4 (.assign (.tmp 12)) 4])
 .ret)
 (.seq (.rgn [] [LL 14 (.binOp .eql 3 (.tmp 6) (.const (.int .i64 2)) 3) 4,
 LL 13 (.assign (.tmp 14)) 4])
 (.cond (.tmp 13)
 (.seq (.rgn [] [LL 15 (.load 92 (.tmp 2)) 92,
 LL 16 (.fieldAddr 97 (.tmp 3) 3) 0,
 LL 17 (.load 95 (.tmp 16)) 95,
 LL 18 (.call { callee := (.value (.func 130)), args := #[(.tmp 15), (.tmp 17)], argTypes := #[92, 95] }) 4,
 LL 4 (.assign (.tmp 18)) 4])
 .ret)
 (.seq (.rgn [] [LL 20 (.binOp .eql 3 (.tmp 6) (.const (.int .i64 3)) 3) 4,
 LL 19 (.assign (.tmp 20)) 4])
 (.cond (.tmp 19)
 (.seq (.rgn [] [LL 21 (.load 92 (.tmp 2)) 92,
 LL 22 (.fieldAddr 97 (.tmp 3) 1) 0,
 LL 23 (.load 25 (.tmp 22)) 25,
 LL 24 (.call { callee := (.value (.func 131)), args := #[(.tmp 21), (.tmp 23)], argTypes := #[92, 25] }) 4,
 LL 4 (.assign (.tmp 24)) 4])
 .ret)
 .skip))))))))
 (.seq (.rgn [] [LL 4 (.assign (.const (.bool false))) 4])
 .ret)))
theorem lit48 : Lit Try.prog 48 25 [2, 3] [.tmp 4] c48 := ⟨⟨Try.f48, _, Try.func48, rfl, by kernel_rfl, rfl, rfl, by kernel_rfl, by kernel_rfl⟩, by decide, by kernel_rfl⟩
/-- laws.eqQuery -/
def c49 : LC :=
  (.seq (.rgn [] [LL 2 (.box 92 (.tmp 0)) 0,
 LL 3 (.box 92 (.tmp 1)) 0,
 LL 4 (.assign (.const (.bool false))) 4])
 (.seq (.seq (.rgn [] [LL 5 (.fieldAddr 92 (.tmp 2) 0) 0,
 LL 6 (.load 3 (.tmp 5)) 3,
 LL 7 (.fieldAddr 92 (.tmp 3) 0) 0,
 LL 8 (.load 3 (.tmp 7)) 3,
 LL 9 (.binOp .neq 3 (.tmp 6) (.tmp 8) 3) 4])
 (.cond (.tmp 9)
 (.seq (.rgn [] [LL 4 (.assign (.const (.bool false))) 4])
 .ret)
 .skip))
 (.seq (.seq (.rgn [] [LL 10 (.fieldAddr 92 (.tmp 2) 1) 0,
 LL 11 (.load 90 (.tmp 10)) 90,
 LL 12 (.fieldAddr 92 (.tmp 3) 1) 0,
 LL 13 (.load 90 (.tmp 12)) 90,
 LL 14 (.call { callee := (.value (.func 132)), args := #[(.tmp 11), (.tmp 13)], argTypes := #[90, 90] }) 4,
 LL 15 (.unOp .not 4 (.tmp 14)) 4])
 (.cond (.tmp 15)
 (.seq (.rgn [] [LL 4 (.assign (.const (.bool false))) 4])
 .ret)
 .skip))
 (.seq (.seq (.rgn [] [LL 16 (.fieldAddr 92 (.tmp 2) 2) 0,
 LL 17 (.load 25 (.tmp 16)) 25,
 LL 18 (.fieldAddr 92 (.tmp 3) 2) 0,
 LL 19 (.load 25 (.tmp 18)) 25,
 LL 20 (.call { callee := (.value (.func 19)), args := #[(.tmp 17), (.tmp 19)], argTypes := #[25, 25] }) 4,
 LL 21 (.unOp .not 4 (.tmp 20)) 4])
 (.cond (.tmp 21)
 (.seq (.rgn [] [LL 4 (.assign (.const (.bool false))) 4])
 .ret)
 .skip))
 (.seq (.rgn [] [LL 4 (.assign (.const (.bool true))) 4])
 .ret)))))
theorem lit49 : Lit Try.prog 49 22 [2, 3] [.tmp 4] c49 := ⟨⟨Try.f49, _, Try.func49, rfl, by kernel_rfl, rfl, rfl, by kernel_rfl, by kernel_rfl⟩, by decide, by kernel_rfl⟩
/-- laws.eqPlan -/
def c50 : LC :=
  (.seq (.rgn [] [LL 2 (.box 97 (.tmp 0)) 0,
 LL 3 (.box 97 (.tmp 1)) 0,
 LL 4 (.assign (.const (.bool false))) 4])
 (.seq (.seq (.rgn [] [LL 5 (.fieldAddr 97 (.tmp 2) 0) 0,
 LL 6 (.load 3 (.tmp 5)) 3,
 LL 7 (.fieldAddr 97 (.tmp 3) 0) 0,
 LL 8 (.load 3 (.tmp 7)) 3,
 LL 9 (.binOp .neq 3 (.tmp 6) (.tmp 8) 3) 4])
 (.cond (.tmp 9)
 (.seq (.rgn [] [LL 4 (.assign (.const (.bool false))) 4])
 .ret)
 .skip))
 (.seq (.seq (.rgn [] [LL 10 (.fieldAddr 97 (.tmp 2) 1) 0,
 LL 11 (.load 25 (.tmp 10)) 25,
 LL 12 (.fieldAddr 97 (.tmp 3) 1) 0,
 LL 13 (.load 25 (.tmp 12)) 25,
 LL 14 (.call { callee := (.value (.func 19)), args := #[(.tmp 11), (.tmp 13)], argTypes := #[25, 25] }) 4,
 LL 15 (.unOp .not 4 (.tmp 14)) 4])
 (.cond (.tmp 15)
 (.seq (.rgn [] [LL 4 (.assign (.const (.bool false))) 4])
 .ret)
 .skip))
 (.seq (.seq (.rgn [] [LL 16 (.fieldAddr 97 (.tmp 2) 2) 0,
 LL 17 (.load 94 (.tmp 16)) 94,
 LL 18 (.fieldAddr 97 (.tmp 3) 2) 0,
 LL 19 (.load 94 (.tmp 18)) 94,
 LL 20 (.call { callee := (.value (.func 133)), args := #[(.tmp 17), (.tmp 19)], argTypes := #[94, 94] }) 4,
 LL 21 (.unOp .not 4 (.tmp 20)) 4])
 (.cond (.tmp 21)
 (.seq (.rgn [] [LL 4 (.assign (.const (.bool false))) 4])
 .ret)
 .skip))
 (.seq (.seq (.rgn [] [LL 22 (.fieldAddr 97 (.tmp 2) 3) 0,
 LL 23 (.load 95 (.tmp 22)) 95,
 LL 24 (.fieldAddr 97 (.tmp 3) 3) 0,
 LL 25 (.load 95 (.tmp 24)) 95,
 LL 26 (.call { callee := (.value (.func 134)), args := #[(.tmp 23), (.tmp 25)], argTypes := #[95, 95] }) 4,
 LL 27 (.unOp .not 4 (.tmp 26)) 4])
 (.cond (.tmp 27)
 (.seq (.rgn [] [LL 4 (.assign (.const (.bool false))) 4])
 .ret)
 .skip))
 (.seq (.rgn [] [LL 4 (.assign (.const (.bool true))) 4])
 .ret))))))
theorem lit50 : Lit Try.prog 50 28 [2, 3] [.tmp 4] c50 := ⟨⟨Try.f50, _, Try.func50, rfl, by kernel_rfl, rfl, rfl, by kernel_rfl, by kernel_rfl⟩, by decide, by kernel_rfl⟩
/-- spec.ExplainPlan -/
def c55 : LC :=
  (.seq (.rgn [] [LL 2 (.box 92 (.tmp 0)) 0,
 LL 3 (.box 97 (.tmp 1)) 0,
 LL 4 (.assign (.const (.string { data := #[] }))) 9])
 (.seq (.seq (.rgn [] [LL 5 (.load 92 (.tmp 2)) 92,
 LL 6 (.load 97 (.tmp 3)) 97,
 LL 7 (.call { callee := (.value (.func 45)), args := #[(.tmp 5), (.tmp 6)], argTypes := #[92, 97] }) 4,
 LL 8 (.unOp .not 4 (.tmp 7)) 4])
 (.cond (.tmp 8)
 (.seq (.rgn [] [LL 4 (.assign (.const (.string { data := #[] }))) 9])
 .ret)
 .skip))
 (.seq (.seq (.rgn [] [LL 9 (.fieldAddr 97 (.tmp 3) 0) 0,
 LL 10 (.load 3 (.tmp 9)) 3])
 (.blk 0
 (.seq (.rgn [] [LL 12 (.binOp .eql 3 (.tmp 10) (.const (.int .i64 1)) 3) 4,
 LL 11 (.assign (.tmp 12)) 4])
 (.cond (.tmp 11)
 (.seq (.rgn [] [LL 13 (.fieldAddr 97 (.tmp 3) 2) 0,
 LL 14 (.fieldAddr 94 (.tmp 13) 0) 0,
 LL 15 (.load 25 (.tmp 14)) 25,
 LL 16 (.call { callee := (.value (.func 141)), args := #[(.tmp 15)], argTypes := #[25] }) 9,
 LL 17 (.binOp .add 9 (.const (.string { data := #[116, 114, 101, 101, 32] })) (.tmp 16) 9) 9,
 LL 4 (.assign (.tmp 17)) 9])
 .ret)
 (.seq (.rgn [] [LL 19 (.binOp .eql 3 (.tmp 10) (.const (.int .i64 2)) 3) 4,
 LL 18 (.assign (.tmp 19)) 4])
 (.cond (.tmp 18)
 (.seq (.rgn [] [LL 20 (.fieldAddr 97 (.tmp 3) 3) 0,
 LL 21 (.load 95 (.tmp 20)) 95,
 LL 22 (.call { callee := (.value (.func 142)), args := #[(.tmp 21)], argTypes := #[95] }) 9,
 LL 23 (.binOp .add 9 (.const (.string { data := #[98, 97, 103, 115, 32] })) (.tmp 22) 9) 9,
 LL 4 (.assign (.tmp 23)) 9])
 .ret)
 .skip))))))
 (.seq (.rgn [] [LL 24 (.fieldAddr 97 (.tmp 3) 1) 0,
 LL 25 (.load 25 (.tmp 24)) 25,
 LL 26 (.call { callee := (.value (.func 143)), args := #[(.tmp 25)], argTypes := #[25] }) 9,
 LL 27 (.binOp .add 9 (.const (.string { data := #[108, 101, 97, 112, 32] })) (.tmp 26) 9) 9,
 LL 4 (.assign (.tmp 27)) 9])
 .ret))))
theorem lit55 : Lit Try.prog 55 28 [2, 3] [.tmp 4] c55 := ⟨⟨Try.f55, _, Try.func55, rfl, by kernel_rfl, rfl, rfl, by kernel_rfl, by kernel_rfl⟩, by decide, by kernel_rfl⟩
/-- impl.ExplainPlan -/
def c56 : LC :=
  (.seq (.rgn [] [LL 2 (.box 92 (.tmp 0)) 0,
 LL 3 (.box 97 (.tmp 1)) 0,
 LL 4 (.assign (.const (.string { data := #[] }))) 9])
 (.seq (.seq (.rgn [] [LL 6 (.load 92 (.tmp 2)) 92,
 LL 7 (.load 97 (.tmp 3)) 97,
 LL 8 (.call { callee := (.value (.func 48)), args := #[(.tmp 6), (.tmp 7)], argTypes := #[92, 97] }) 4,
 LL 9 (.unOp .not 4 (.tmp 8)) 4])
 (.cond (.tmp 9)
 (.seq (.rgn [] [LL 4 (.assign (.const (.string { data := #[] }))) 9])
 .ret)
 .skip))
 (.seq (.rgn [] [LL 10 (.fieldAddr 97 (.tmp 3) 0) 0,
 LL 11 (.load 3 (.tmp 10)) 3,
 LL 12 (.call { callee := (.value (.func 144)), args := #[(.tmp 11)], argTypes := #[3] }) 9,
 LL 13 (.binOp .add 9 (.tmp 12) (.const (.string { data := #[32] })) 9) 9,
 LL 5 (.assign (.tmp 13)) 9])
 (.seq (.seq (.rgn [] [LL 14 (.fieldAddr 97 (.tmp 3) 0) 0,
 LL 15 (.load 3 (.tmp 14)) 3])
 (.blk 0
 (.seq (.rgn [] [LL 17 (.binOp .eql 3 (.tmp 15) (.const (.int .i64 1)) 3) 4,
 LL 16 (.assign (.tmp 17)) 4])
 (.cond (.tmp 16)
 (.seq (.rgn [] [LL 18 (.move (.tmp 5)) 9,
 LL 19 (.fieldAddr 97 (.tmp 3) 2) 0,
 LL 20 (.fieldAddr 94 (.tmp 19) 0) 0,
 LL 21 (.load 25 (.tmp 20)) 25,
 LL 22 (.call { callee := (.value (.func 145)), args := #[(.tmp 21), (.const (.string { data := #[32] }))], argTypes := #[25, 9] }) 9,
 LL 23 (.binOp .add 9 (.tmp 18) (.tmp 22) 9) 9,
 LL 4 (.assign (.tmp 23)) 9])
 .ret)
 (.seq (.rgn [] [LL 25 (.binOp .eql 3 (.tmp 15) (.const (.int .i64 2)) 3) 4,
 LL 24 (.assign (.tmp 25)) 4])
 (.cond (.tmp 24)
 (.seq (.rgn [] [LL 26 (.move (.tmp 5)) 9,
 LL 27 (.fieldAddr 97 (.tmp 3) 3) 0,
 LL 28 (.load 95 (.tmp 27)) 95,
 LL 29 (.call { callee := (.value (.func 146)), args := #[(.tmp 28)], argTypes := #[95] }) 9,
 LL 30 (.binOp .add 9 (.tmp 26) (.tmp 29) 9) 9,
 LL 4 (.assign (.tmp 30)) 9])
 .ret)
 .skip))))))
 (.seq (.rgn [] [LL 31 (.move (.tmp 5)) 9,
 LL 32 (.binOp .add 9 (.tmp 31) (.const (.string { data := #[40] })) 9) 9,
 LL 33 (.fieldAddr 97 (.tmp 3) 1) 0,
 LL 34 (.load 25 (.tmp 33)) 25,
 LL 35 (.call { callee := (.value (.func 147)), args := #[(.tmp 34)], argTypes := #[25] }) 9,
 LL 36 (.binOp .add 9 (.tmp 32) (.tmp 35) 9) 9,
 LL 37 (.binOp .add 9 (.tmp 36) (.const (.string { data := #[41] })) 9) 9,
 LL 4 (.assign (.tmp 37)) 9])
 .ret)))))
theorem lit56 : Lit Try.prog 56 38 [2, 3] [.tmp 4] c56 := ⟨⟨Try.f56, _, Try.func56, rfl, by kernel_rfl, rfl, rfl, by kernel_rfl, by kernel_rfl⟩, by decide, by kernel_rfl⟩
/-- laws.toIntS -/
def c58 : LC :=
  (.seq (.rgn [] [LL 2 (.assign (.const (.slice none 0 0))) 25])
 (.seq (.rgn [3, 7] [LL 5 (.move (.tmp 0)) 25,
 LL 6 (.call { callee := (.builtin .len), args := #[(.tmp 5)], argTypes := #[25] }) 3,
 LL 7 (.makeSlice 25 (.tmp 6) (.tmp 6)) 25,
 LL 3 (.assign (.tmp 7)) 25])
 (.seq (.seq (.rgn [] [LL 4 (.assign (.const (.int .i64 0))) 3])
 (.blk 0
 (.loop []
 (.seq (.seq (.rgn [] [LL 8 (.move (.tmp 4)) 3,
 LL 9 (.move (.tmp 0)) 25,
 LL 10 (.call { callee := (.builtin .len), args := #[(.tmp 9)], argTypes := #[25] }) 3,
 LL 11 (.binOp .lss 3 (.tmp 8) (.tmp 10) 3) 4])
 (.cond (.tmp 11)
 .skip
 (.exit 0)))
 (.seq (.blk 1
 (.rgn [] [LL 14 (.move (.tmp 3)) 25,
 LL 15 (.move (.tmp 4)) 3,
 LL 16 (.move (.tmp 0)) 25,
 LL 17 (.move (.tmp 4)) 3,
 LL 18 (.indexAddr 25 (.tmp 16) (.tmp 17)) 0,
 LL 19 (.load 3 (.tmp 18)) 3,
 LL 20 (.indexAddr 25 (.tmp 14) (.tmp 15)) 0,
 ⟨none, (.store 3 (.tmp 20) (.tmp 19)), 0, none⟩]))
 (.rgn [] [LL 12 (.move (.tmp 4)) 3,
 LL 13 (.binOp .add 3 (.tmp 12) (.const (.int .i64 1)) 3) 3,
 LL 4 (.assign (.tmp 13)) 3]))))))
 (.seq (.rgn [21] [LL 21 (.move (.tmp 3)) 25,
 LL 2 (.assign (.tmp 21)) 25])
 .ret))))
theorem lit58 : Lit Try.prog 58 22 [3, 7] [.tmp 2] c58 := ⟨⟨Try.f58, _, Try.func58, rfl, by kernel_rfl, rfl, rfl, by kernel_rfl, by kernel_rfl⟩, by decide, by kernel_rfl⟩
/-- laws.szIntS -/
def c72 : LC :=
  (.seq (.rgn [] [LL 4 (.assign (.const (.int .i64 0))) 3])
 (.seq (.rgn [] [LL 5 (.move (.tmp 1)) 3,
 LL 6 (.move (.tmp 0)) 25,
 LL 7 (.call { callee := (.builtin .len), args := #[(.tmp 6)], argTypes := #[25] }) 3,
 LL 8 (.binOp .sub 3 (.tmp 5) (.tmp 7) 3) 3,
 LL 1 (.assign (.tmp 8)) 3])
 (.seq (.seq (.rgn [] [LL 9 (.move (.tmp 1)) 3,
 LL 10 (.binOp .lss 3 (.tmp 9) (.const (.int .i64 0)) 3) 4])
 (.cond (.tmp 10)
 (.seq (.rgn [] [LL 4 (.assign (.const (.int .i64 (-1)))) 3])
 .ret)
 .skip))
 (.seq (.rgn [] [LL 11 (.move (.tmp 1)) 3,
 LL 4 (.assign (.tmp 11)) 3])
 .ret))))
theorem lit72 : Lit Try.prog 72 12 [] [.tmp 4] c72 := ⟨⟨Try.f72, _, Try.func72, rfl, by kernel_rfl, rfl, rfl, by kernel_rfl, by kernel_rfl⟩, by decide, by kernel_rfl⟩
/-- spec.l1In -/
def c86 : LC :=
  (.seq (.rgn [] [LL 6 (.assign (.const (.bool false))) 4])
 (.seq (.rgn [] [LL 7 (.move (.tmp 0)) 3,
 LL 8 (.move (.tmp 1)) 3,
 LL 9 (.binOp .geq 3 (.tmp 7) (.tmp 8) 3) 4,
 LL 10 (.move (.tmp 9)) 4,
 ⟨some 11, (.move (.tmp 0)), 3, some (some 10, true)⟩,
 ⟨some 12, (.move (.tmp 2)), 3, some (some 10, true)⟩,
 ⟨some 13, (.binOp .leq 3 (.tmp 11) (.tmp 12) 3), 4, some (some 10, true)⟩,
 LL 14 (.pick (.tmp 10) (.tmp 13) (.const (.bool false))) 4,
 LL 6 (.assign (.tmp 14)) 4])
 .ret))
theorem lit86 : Lit Try.prog 86 15 [] [.tmp 6] c86 := ⟨⟨Try.f86, _, Try.func86, rfl, by kernel_rfl, rfl, rfl, by kernel_rfl, by kernel_rfl⟩, by decide, by kernel_rfl⟩
/-- impl.within -/
def c90 : LC :=
  (.seq (.rgn [] [LL 6 (.assign (.const (.bool false))) 4])
 (.seq (.rgn [] [LL 7 (.move (.tmp 0)) 3,
 LL 8 (.move (.tmp 1)) 3,
 LL 9 (.binOp .geq 3 (.tmp 7) (.tmp 8) 3) 4,
 LL 10 (.move (.tmp 9)) 4,
 ⟨some 11, (.move (.tmp 0)), 3, some (some 10, true)⟩,
 ⟨some 12, (.move (.tmp 2)), 3, some (some 10, true)⟩,
 ⟨some 13, (.binOp .leq 3 (.tmp 11) (.tmp 12) 3), 4, some (some 10, true)⟩,
 LL 14 (.pick (.tmp 10) (.tmp 13) (.const (.bool false))) 4,
 LL 6 (.assign (.tmp 14)) 4])
 .ret))
theorem lit90 : Lit Try.prog 90 15 [] [.tmp 6] c90 := ⟨⟨Try.f90, _, Try.func90, rfl, by kernel_rfl, rfl, rfl, by kernel_rfl, by kernel_rfl⟩, by decide, by kernel_rfl⟩
/-- laws.szAtomS -/
def c120 : LC :=
  (.seq (.rgn [] [LL 4 (.assign (.const (.int .i64 0))) 3])
 (.seq (.rgn [] [LL 6 (.move (.tmp 1)) 3,
 LL 7 (.move (.tmp 0)) 77,
 LL 8 (.call { callee := (.builtin .len), args := #[(.tmp 7)], argTypes := #[77] }) 3,
 LL 9 (.binOp .sub 3 (.tmp 6) (.tmp 8) 3) 3,
 LL 1 (.assign (.tmp 9)) 3])
 (.seq (.seq (.rgn [] [LL 10 (.move (.tmp 1)) 3,
 LL 11 (.binOp .lss 3 (.tmp 10) (.const (.int .i64 0)) 3) 4])
 (.cond (.tmp 11)
 (.seq (.rgn [] [LL 4 (.assign (.const (.int .i64 (-1)))) 3])
 .ret)
 .skip))
 (.seq (.seq (.rgn [] [LL 5 (.assign (.const (.int .i64 0))) 3])
 (.blk 0
 (.loop []
 (.seq (.seq (.rgn [] [LL 12 (.move (.tmp 5)) 3,
 LL 13 (.move (.tmp 0)) 77,
 LL 14 (.call { callee := (.builtin .len), args := #[(.tmp 13)], argTypes := #[77] }) 3,
 LL 15 (.binOp .lss 3 (.tmp 12) (.tmp 14) 3) 4])
 (.cond (.tmp 15)
 .skip
 (.exit 0)))
 (.seq (.blk 1
 (.seq (.rgn [] [LL 18 (.move (.tmp 0)) 77,
 LL 19 (.move (.tmp 5)) 3,
 LL 20 (.indexAddr 77 (.tmp 18) (.tmp 19)) 0,
 LL 21 (.load 231 (.tmp 20)) 231,
 LL 22 (.move (.tmp 1)) 3,
 LL 23 (.call { callee := (.value (.func 198)), args := #[(.tmp 21), (.tmp 22)], argTypes := #[231, 3] }) 3,
 LL 1 (.assign (.tmp 23)) 3])
 (.seq (.rgn [] [LL 24 (.move (.tmp 1)) 3,
 LL 25 (.binOp .lss 3 (.tmp 24) (.const (.int .i64 0)) 3) 4])
 (.cond (.tmp 25)
 (.seq (.rgn [] [LL 4 (.assign (.const (.int .i64 (-1)))) 3])
 .ret)
 .skip))))
 (.rgn [] [LL 16 (.move (.tmp 5)) 3,
 LL 17 (.binOp .add 3 (.tmp 16) (.const (.int .i64 1)) 3) 3,
 LL 5 (.assign (.tmp 17)) 3]))))))
 (.seq (.rgn [] [LL 26 (.move (.tmp 1)) 3,
 LL 4 (.assign (.tmp 26)) 3])
 .ret)))))
theorem lit120 : Lit Try.prog 120 27 [] [.tmp 4] c120 := ⟨⟨Try.f120, _, Try.func120, rfl, by kernel_rfl, rfl, rfl, by kernel_rfl, by kernel_rfl⟩, by decide, by kernel_rfl⟩
/-- laws.szJoinForest -/
def c121 : LC :=
  (.seq (.rgn [] [LL 2 (.box 81 (.tmp 0)) 0,
 LL 4 (.assign (.const (.int .i64 0))) 3])
 (.seq (.rgn [] [LL 5 (.fieldAddr 81 (.tmp 2) 0) 0,
 LL 6 (.load 25 (.tmp 5)) 25,
 LL 7 (.move (.tmp 1)) 3,
 LL 8 (.call { callee := (.value (.func 72)), args := #[(.tmp 6), (.tmp 7)], argTypes := #[25, 3] }) 3,
 LL 1 (.assign (.tmp 8)) 3])
 (.seq (.seq (.rgn [] [LL 9 (.move (.tmp 1)) 3,
 LL 10 (.binOp .lss 3 (.tmp 9) (.const (.int .i64 0)) 3) 4])
 (.cond (.tmp 10)
 (.seq (.rgn [] [LL 4 (.assign (.const (.int .i64 (-1)))) 3])
 .ret)
 .skip))
 (.seq (.rgn [] [LL 11 (.move (.tmp 1)) 3,
 LL 4 (.assign (.tmp 11)) 3])
 .ret))))
theorem lit121 : Lit Try.prog 121 12 [2] [.tmp 4] c121 := ⟨⟨Try.f121, _, Try.func121, rfl, by kernel_rfl, rfl, rfl, by kernel_rfl, by kernel_rfl⟩, by decide, by kernel_rfl⟩
/-- laws.szDecomposition -/
def c122 : LC :=
  (.seq (.rgn [] [LL 2 (.box 84 (.tmp 0)) 0,
 LL 4 (.assign (.const (.int .i64 0))) 3])
 (.seq (.rgn [] [LL 5 (.fieldAddr 84 (.tmp 2) 0) 0,
 LL 6 (.load 82 (.tmp 5)) 82,
 LL 7 (.move (.tmp 1)) 3,
 LL 8 (.call { callee := (.value (.func 199)), args := #[(.tmp 6), (.tmp 7)], argTypes := #[82, 3] }) 3,
 LL 1 (.assign (.tmp 8)) 3])
 (.seq (.seq (.rgn [] [LL 9 (.move (.tmp 1)) 3,
 LL 10 (.binOp .lss 3 (.tmp 9) (.const (.int .i64 0)) 3) 4])
 (.cond (.tmp 10)
 (.seq (.rgn [] [LL 4 (.assign (.const (.int .i64 (-1)))) 3])
 .ret)
 .skip))
 (.seq (.rgn [] [LL 11 (.fieldAddr 84 (.tmp 2) 1) 0,
 LL 12 (.load 25 (.tmp 11)) 25,
 LL 13 (.move (.tmp 1)) 3,
 LL 14 (.call { callee := (.value (.func 72)), args := #[(.tmp 12), (.tmp 13)], argTypes := #[25, 3] }) 3,
 LL 1 (.assign (.tmp 14)) 3])
 (.seq (.seq (.rgn [] [LL 15 (.move (.tmp 1)) 3,
 LL 16 (.binOp .lss 3 (.tmp 15) (.const (.int .i64 0)) 3) 4])
 (.cond (.tmp 16)
 (.seq (.rgn [] [LL 4 (.assign (.const (.int .i64 (-1)))) 3])
 .ret)
 .skip))
 (.seq (.rgn [] [LL 17 (.move (.tmp 1)) 3,
 LL 4 (.assign (.tmp 17)) 3])
 .ret))))))
theorem lit122 : Lit Try.prog 122 18 [2] [.tmp 4] c122 := ⟨⟨Try.f122, _, Try.func122, rfl, by kernel_rfl, rfl, rfl, by kernel_rfl, by kernel_rfl⟩, by decide, by kernel_rfl⟩
/-- spec.IsValidJoinTree -/
def c123 : LC :=
  (.seq (.rgn [] [LL 2 (.box 92 (.tmp 0)) 0,
 LL 3 (.box 94 (.tmp 1)) 0,
 LL 4 (.assign (.const (.bool false))) 4])
 (.seq (.seq (.rgn [] [LL 10 (.load 92 (.tmp 2)) 92,
 LL 11 (.call { callee := (.value (.func 200)), args := #[(.tmp 10)], argTypes := #[92] }) 4,
 LL 12 (.unOp .not 4 (.tmp 11)) 4,
 LL 13 (.move (.tmp 12)) 4,
 ⟨some 14, (.fieldAddr 94 (.tmp 3) 0), 0, some (some 13, false)⟩,
 ⟨some 15, (.load 25 (.tmp 14)), 25, some (some 13, false)⟩,
 ⟨some 16, (.call { callee := (.builtin .len), args := #[(.tmp 15)], argTypes := #[25] }), 3, some (some 13, false)⟩,
 ⟨some 17, (.fieldAddr 92 (.tmp 2) 1), 0, some (some 13, false)⟩,
 ⟨some 18, (.load 90 (.tmp 17)), 90, some (some 13, false)⟩,
 ⟨some 19, (.call { callee := (.builtin .len), args := #[(.tmp 18)], argTypes := #[90] }), 3, some (some 13, false)⟩,
 ⟨some 20, (.binOp .neq 3 (.tmp 16) (.tmp 19) 3), 4, some (some 13, false)⟩,
 LL 21 (.pick (.tmp 13) (.const (.bool true)) (.tmp 20)) 4,
 LL 22 (.move (.tmp 21)) 4,
 ⟨some 23, (.load 94 (.tmp 3)), 94, some (some 22, false)⟩,
 ⟨some 24, (.call { callee := (.value (.func 201)), args := #[(.tmp 23)], argTypes := #[94] }), 3, some (some 22, false)⟩,
 ⟨some 25, (.binOp .lss 3 (.tmp 24) (.const (.int .i64 0)) 3), 4, some (some 22, false)⟩,
 LL 26 (.pick (.tmp 22) (.const (.bool true)) (.tmp 25)) 4])
 (.cond (.tmp 26)
 (.seq (.rgn [] [LL 4 (.assign (.const (.bool false))) 4])
 .ret)
 .skip))
 (.seq (.seq (.rgn [] [LL 5 (.assign (.const (.int .i64 0))) 3])
 (.blk 0
 (.loop []
 (.seq (.seq (.rgn [] [LL 27 (.move (.tmp 5)) 3,
 LL 28 (.fieldAddr 94 (.tmp 3) 0) 0,
 LL 29 (.load 25 (.tmp 28)) 25,
 LL 30 (.call { callee := (.builtin .len), args := #[(.tmp 29)], argTypes := #[25] }) 3,
 LL 31 (.binOp .lss 3 (.tmp 27) (.tmp 30) 3) 4])
 (.cond (.tmp 31)
 .skip
 (.exit 0)))
 (.seq (.blk 1
 (.seq (.rgn [] [LL 34 (.load 94 (.tmp 3)) 94,
 LL 35 (.move (.tmp 5)) 3,
 LL 36 (.call { callee := (.value (.func 202)), args := #[(.tmp 34), (.tmp 35)], argTypes := #[94, 3] }) 25,
 LL 6 (.assign (.tmp 36)) 25])
 (.seq (.drw [] [([6], [37]), ([37], [38]), ([3], [39]), ([3, 39], [40]), ([40], [41]), ([38, 41], [42]), ([42], [43]), ([6, 43], [44]), ([6, 43], [45]), ([43, 45], [46]), ([43, 46], [47]), ([43, 44, 47], [48]), ([43, 48], [49]), ([3, 43], [50]), ([43, 50], [51]), ([43, 49, 51], [52]), ([43, 52], [53])] [[], [0], [], [2], [3], [1, 4], [5], [6], [6], [8, 6], [9, 6], [7, 10, 6], [11, 6], [6], [13, 6, 6], [12, 14, 6], [6, 15]] [LL 37 (.move (.tmp 6)) 25,
 LL 38 (.call { callee := (.builtin .len), args := #[(.tmp 37)], argTypes := #[25] }) 3,
 LL 39 (.fieldAddr 94 (.tmp 3) 0) 0,
 LL 40 (.load 25 (.tmp 39)) 25,
 LL 41 (.call { callee := (.builtin .len), args := #[(.tmp 40)], argTypes := #[25] }) 3,
 LL 42 (.binOp .gtr 3 (.tmp 38) (.tmp 41) 3) 4,
 LL 43 (.move (.tmp 42)) 4,
 ⟨some 44, (.move (.tmp 6)), 25, some (some 43, false)⟩,
 ⟨some 45, (.move (.tmp 6)), 25, some (some 43, false)⟩,
 ⟨some 46, (.call { callee := (.builtin .len), args := #[(.tmp 45)], argTypes := #[25] }), 3, some (some 43, false)⟩,
 ⟨some 47, (.binOp .sub 3 (.tmp 46) (.const (.int .i64 1)) 3), 3, some (some 43, false)⟩,
 ⟨some 48, (.indexAddr 25 (.tmp 44) (.tmp 47)), 0, some (some 43, false)⟩,
 ⟨some 49, (.load 3 (.tmp 48)), 3, some (some 43, false)⟩,
 ⟨some 50, (.load 94 (.tmp 3)), 94, some (some 43, false)⟩,
 ⟨some 51, (.call { callee := (.value (.func 201)), args := #[(.tmp 50)], argTypes := #[94] }), 3, some (some 43, false)⟩,
 ⟨some 52, (.binOp .neq 3 (.tmp 49) (.tmp 51) 3), 4, some (some 43, false)⟩,
 LL 53 (.pick (.tmp 43) (.const (.bool true)) (.tmp 52)) 4])
 (.cond (.tmp 53)
 (.seq (.rgn [] [LL 4 (.assign (.const (.bool false))) 4])
 .ret)
 .skip))))
 (.rgn [] [LL 32 (.move (.tmp 5)) 3,
 LL 33 (.binOp .add 3 (.tmp 32) (.const (.int .i64 1)) 3) 3,
 LL 5 (.assign (.tmp 33)) 3]))))))
 (.seq (.seq (.rgn [] [LL 7 (.assign (.const (.int .i64 0))) 3])
 (.blk 2
 (.loop []
 (.seq (.seq (.rgn [] [LL 54 (.move (.tmp 7)) 3,
 LL 55 (.fieldAddr 92 (.tmp 2) 0) 0,
 LL 56 (.load 3 (.tmp 55)) 3,
 LL 57 (.binOp .lss 3 (.tmp 54) (.tmp 56) 3) 4])
 (.cond (.tmp 57)
 .skip
 (.exit 2)))
 (.seq (.blk 3
 (.seq (.rgn [] [LL 8 (.assign (.const (.int .i64 0))) 3])
 (.seq (.seq (.rgn [] [LL 9 (.assign (.const (.int .i64 0))) 3])
 (.blk 4
 (.loop []
 (.seq (.seq (.rgn [] [LL 60 (.move (.tmp 9)) 3,
 LL 61 (.fieldAddr 94 (.tmp 3) 0) 0,
 LL 62 (.load 25 (.tmp 61)) 25,
 LL 63 (.call { callee := (.builtin .len), args := #[(.tmp 62)], argTypes := #[25] }) 3,
 LL 64 (.binOp .lss 3 (.tmp 60) (.tmp 63) 3) 4])
 (.cond (.tmp 64)
 .skip
 (.exit 4)))
 (.seq (.blk 5
 (.seq (.drw [] [([2], [67]), ([2, 67], [68]), ([9], [69]), ([68, 69], [70]), ([70], [71]), ([7], [72]), ([71, 72], [73]), ([73], [74]), ([3, 74], [75]), ([3, 74, 75], [76]), ([9, 74], [77]), ([74, 76, 77], [78]), ([74, 78], [79]), ([74, 79], [80]), ([74, 80], [81]), ([2, 81], [82]), ([2, 81, 82], [83]), ([3, 81], [84]), ([3, 81, 84], [85]), ([9, 81], [86]), ([81, 85, 86], [87]), ([81, 87], [88]), ([81, 83, 88], [89]), ([81, 89], [90]), ([7, 81], [91]), ([81, 90, 91], [92]), ([81, 92], [93]), ([74, 81, 93], [94]), ([74, 94], [95])] [[], [0], [], [1, 2], [3], [], [4, 5], [6, 6], [7], [8, 7], [7], [9, 10, 7], [11, 7], [12, 7], [13, 7, 7], [14], [15, 14], [14], [17, 14], [14], [18, 19, 14], [20, 14], [16, 21, 14], [22, 14], [14], [23, 24, 14, 14], [25, 14], [14, 26, 7], [7, 27]] [LL 67 (.fieldAddr 92 (.tmp 2) 1) 0,
 LL 68 (.load 90 (.tmp 67)) 90,
 LL 69 (.move (.tmp 9)) 3,
 LL 70 (.indexAddr 90 (.tmp 68) (.tmp 69)) 0,
 LL 71 (.load 195 (.tmp 70)) 195,
 LL 72 (.move (.tmp 7)) 3,
 LL 73 (.call { callee := (.value (.func 157)), args := #[(.tmp 71), (.tmp 72)], argTypes := #[195, 3] }) 4,
 LL 74 (.move (.tmp 73)) 4,
 ⟨some 75, (.fieldAddr 94 (.tmp 3) 0), 0, some (some 74, true)⟩,
 ⟨some 76, (.load 25 (.tmp 75)), 25, some (some 74, true)⟩,
 ⟨some 77, (.move (.tmp 9)), 3, some (some 74, true)⟩,
 ⟨some 78, (.indexAddr 25 (.tmp 76) (.tmp 77)), 0, some (some 74, true)⟩,
 ⟨some 79, (.load 3 (.tmp 78)), 3, some (some 74, true)⟩,
 ⟨some 80, (.binOp .eql 3 (.tmp 79) (.const (.int .i64 (-1))) 3), 4, some (some 74, true)⟩,
 ⟨some 81, (.move (.tmp 80)), 4, some (some 74, true)⟩,
 ⟨some 82, (.fieldAddr 92 (.tmp 2) 1), 0, some (some 81, false)⟩,
 ⟨some 83, (.load 90 (.tmp 82)), 90, some (some 81, false)⟩,
 ⟨some 84, (.fieldAddr 94 (.tmp 3) 0), 0, some (some 81, false)⟩,
 ⟨some 85, (.load 25 (.tmp 84)), 25, some (some 81, false)⟩,
 ⟨some 86, (.move (.tmp 9)), 3, some (some 81, false)⟩,
 ⟨some 87, (.indexAddr 25 (.tmp 85) (.tmp 86)), 0, some (some 81, false)⟩,
 ⟨some 88, (.load 3 (.tmp 87)), 3, some (some 81, false)⟩,
 ⟨some 89, (.indexAddr 90 (.tmp 83) (.tmp 88)), 0, some (some 81, false)⟩,
 ⟨some 90, (.load 195 (.tmp 89)), 195, some (some 81, false)⟩,
 ⟨some 91, (.move (.tmp 7)), 3, some (some 81, false)⟩,
 ⟨some 92, (.call { callee := (.value (.func 157)), args := #[(.tmp 90), (.tmp 91)], argTypes := #[195, 3] }), 4, some (some 81, false)⟩,
 ⟨some 93, (.unOp .not 4 (.tmp 92)), 4, some (some 81, false)⟩,
 ⟨some 94, (.pick (.tmp 81) (.const (.bool true)) (.tmp 93)), 4, some (some 74, true)⟩,
 LL 95 (.pick (.tmp 74) (.tmp 94) (.const (.bool false))) 4])
 (.cond (.tmp 95)
 (.rgn [] [LL 96 (.move (.tmp 8)) 3,
 LL 97 (.binOp .add 3 (.tmp 96) (.const (.int .i64 1)) 3) 3,
 LL 8 (.assign (.tmp 97)) 3])
 .skip)))
 (.rgn [] [LL 65 (.move (.tmp 9)) 3,
 LL 66 (.binOp .add 3 (.tmp 65) (.const (.int .i64 1)) 3) 3,
 LL 9 (.assign (.tmp 66)) 3]))))))
 (.seq (.rgn [] [LL 98 (.move (.tmp 8)) 3,
 LL 99 (.binOp .neq 3 (.tmp 98) (.const (.int .i64 1)) 3) 4])
 (.cond (.tmp 99)
 (.seq (.rgn [] [LL 4 (.assign (.const (.bool false))) 4])
 .ret)
 .skip)))))
 (.rgn [] [LL 58 (.move (.tmp 7)) 3,
 LL 59 (.binOp .add 3 (.tmp 58) (.const (.int .i64 1)) 3) 3,
 LL 7 (.assign (.tmp 59)) 3]))))))
 (.seq (.rgn [] [LL 4 (.assign (.const (.bool true))) 4])
 .ret)))))
theorem lit123 : Lit Try.prog 123 100 [2, 3] [.tmp 4] c123 := ⟨⟨Try.f123, _, Try.func123, rfl, by kernel_rfl, rfl, rfl, by kernel_rfl, by kernel_rfl⟩, by decide, by kernel_rfl⟩
/-- spec.IsValidDecomposition -/
def c124 : LC :=
  (.seq (.rgn [] [LL 2 (.box 92 (.tmp 0)) 0,
 LL 3 (.box 95 (.tmp 1)) 0,
 LL 4 (.assign (.const (.bool false))) 4])
 (.seq (.rgn [] [LL 14 (.fieldAddr 95 (.tmp 3) 1) 0,
 LL 15 (.load 25 (.tmp 14)) 25,
 LL 16 (.build 94 #[(0, (.tmp 15))]) 94,
 LL 5 (.alloc 94) 0,
 ⟨none, (.store 94 (.tmp 5) (.tmp 16)), 0, none⟩])
 (.seq (.seq (.rgn [] [LL 17 (.load 92 (.tmp 2)) 92,
 LL 18 (.call { callee := (.value (.func 200)), args := #[(.tmp 17)], argTypes := #[92] }) 4,
 LL 19 (.unOp .not 4 (.tmp 18)) 4,
 LL 20 (.move (.tmp 19)) 4,
 ⟨some 21, (.fieldAddr 95 (.tmp 3) 1), 0, some (some 20, false)⟩,
 ⟨some 22, (.load 25 (.tmp 21)), 25, some (some 20, false)⟩,
 ⟨some 23, (.call { callee := (.builtin .len), args := #[(.tmp 22)], argTypes := #[25] }), 3, some (some 20, false)⟩,
 ⟨some 24, (.fieldAddr 95 (.tmp 3) 0), 0, some (some 20, false)⟩,
 ⟨some 25, (.load 82 (.tmp 24)), 82, some (some 20, false)⟩,
 ⟨some 26, (.call { callee := (.builtin .len), args := #[(.tmp 25)], argTypes := #[82] }), 3, some (some 20, false)⟩,
 ⟨some 27, (.binOp .neq 3 (.tmp 23) (.tmp 26) 3), 4, some (some 20, false)⟩,
 LL 28 (.pick (.tmp 20) (.const (.bool true)) (.tmp 27)) 4,
 LL 29 (.move (.tmp 28)) 4,
 ⟨some 30, (.load 94 (.tmp 5)), 94, some (some 29, false)⟩,
 ⟨some 31, (.call { callee := (.value (.func 201)), args := #[(.tmp 30)], argTypes := #[94] }), 3, some (some 29, false)⟩,
 ⟨some 32, (.binOp .lss 3 (.tmp 31) (.const (.int .i64 0)) 3), 4, some (some 29, false)⟩,
 LL 33 (.pick (.tmp 29) (.const (.bool true)) (.tmp 32)) 4])
 (.cond (.tmp 33)
 (.seq (.rgn [] [LL 4 (.assign (.const (.bool false))) 4])
 .ret)
 .skip))
 (.seq (.seq (.rgn [] [LL 6 (.assign (.const (.int .i64 0))) 3])
 (.blk 0
 (.loop []
 (.seq (.seq (.rgn [] [LL 34 (.move (.tmp 6)) 3,
 LL 35 (.fieldAddr 95 (.tmp 3) 0) 0,
 LL 36 (.load 82 (.tmp 35)) 82,
 LL 37 (.call { callee := (.builtin .len), args := #[(.tmp 36)], argTypes := #[82] }) 3,
 LL 38 (.binOp .lss 3 (.tmp 34) (.tmp 37) 3) 4])
 (.cond (.tmp 38)
 .skip
 (.exit 0)))
 (.seq (.blk 1
 (.seq (.rgn [] [LL 41 (.load 94 (.tmp 5)) 94,
 LL 42 (.move (.tmp 6)) 3,
 LL 43 (.call { callee := (.value (.func 202)), args := #[(.tmp 41), (.tmp 42)], argTypes := #[94, 3] }) 25,
 LL 7 (.assign (.tmp 43)) 25])
 (.seq (.drw [] [([2], [44]), ([3], [45]), ([3, 45], [46]), ([6], [47]), ([46, 47], [48]), ([48], [49]), ([44, 49], [50]), ([50], [51]), ([51], [52]), ([7, 52], [53]), ([52, 53], [54]), ([3, 52], [55]), ([3, 52, 55], [56]), ([52, 56], [57]), ([52, 54, 57], [58]), ([52, 58], [59]), ([59], [60]), ([7, 60], [61]), ([7, 60], [62]), ([60, 62], [63]), ([60, 63], [64]), ([60, 61, 64], [65]), ([60, 65], [66]), ([5, 60], [67]), ([60, 67], [68]), ([60, 66, 68], [69]), ([60, 69], [70])] [[], [], [1], [], [2, 3], [4], [0, 5], [6], [7, 6], [8], [9, 8], [8], [11, 8], [12, 8], [10, 13, 8], [8, 14], [15, 8], [16], [16], [18, 16], [19, 16], [17, 20, 16], [21, 16], [16], [23, 16, 16], [22, 24, 16], [16, 25]] [LL 44 (.load 92 (.tmp 2)) 92,
 LL 45 (.fieldAddr 95 (.tmp 3) 0) 0,
 LL 46 (.load 82 (.tmp 45)) 82,
 LL 47 (.move (.tmp 6)) 3,
 LL 48 (.indexAddr 82 (.tmp 46) (.tmp 47)) 0,
 LL 49 (.load 25 (.tmp 48)) 25,
 LL 50 (.call { callee := (.value (.func 203)), args := #[(.tmp 44), (.tmp 49)], argTypes := #[92, 25] }) 4,
 LL 51 (.unOp .not 4 (.tmp 50)) 4,
 LL 52 (.move (.tmp 51)) 4,
 ⟨some 53, (.move (.tmp 7)), 25, some (some 52, false)⟩,
 ⟨some 54, (.call { callee := (.builtin .len), args := #[(.tmp 53)], argTypes := #[25] }), 3, some (some 52, false)⟩,
 ⟨some 55, (.fieldAddr 95 (.tmp 3) 1), 0, some (some 52, false)⟩,
 ⟨some 56, (.load 25 (.tmp 55)), 25, some (some 52, false)⟩,
 ⟨some 57, (.call { callee := (.builtin .len), args := #[(.tmp 56)], argTypes := #[25] }), 3, some (some 52, false)⟩,
 ⟨some 58, (.binOp .gtr 3 (.tmp 54) (.tmp 57) 3), 4, some (some 52, false)⟩,
 LL 59 (.pick (.tmp 52) (.const (.bool true)) (.tmp 58)) 4,
 LL 60 (.move (.tmp 59)) 4,
 ⟨some 61, (.move (.tmp 7)), 25, some (some 60, false)⟩,
 ⟨some 62, (.move (.tmp 7)), 25, some (some 60, false)⟩,
 ⟨some 63, (.call { callee := (.builtin .len), args := #[(.tmp 62)], argTypes := #[25] }), 3, some (some 60, false)⟩,
 ⟨some 64, (.binOp .sub 3 (.tmp 63) (.const (.int .i64 1)) 3), 3, some (some 60, false)⟩,
 ⟨some 65, (.indexAddr 25 (.tmp 61) (.tmp 64)), 0, some (some 60, false)⟩,
 ⟨some 66, (.load 3 (.tmp 65)), 3, some (some 60, false)⟩,
 ⟨some 67, (.load 94 (.tmp 5)), 94, some (some 60, false)⟩,
 ⟨some 68, (.call { callee := (.value (.func 201)), args := #[(.tmp 67)], argTypes := #[94] }), 3, some (some 60, false)⟩,
 ⟨some 69, (.binOp .neq 3 (.tmp 66) (.tmp 68) 3), 4, some (some 60, false)⟩,
 LL 70 (.pick (.tmp 60) (.const (.bool true)) (.tmp 69)) 4])
 (.cond (.tmp 70)
 (.seq (.rgn [] [LL 4 (.assign (.const (.bool false))) 4])
 .ret)
 .skip))))
 (.rgn [] [LL 39 (.move (.tmp 6)) 3,
 LL 40 (.binOp .add 3 (.tmp 39) (.const (.int .i64 1)) 3) 3,
 LL 6 (.assign (.tmp 40)) 3]))))))
 (.seq (.seq (.rgn [] [LL 8 (.assign (.const (.int .i64 0))) 3])
 (.blk 2
 (.loop []
 (.seq (.seq (.rgn [] [LL 71 (.move (.tmp 8)) 3,
 LL 72 (.fieldAddr 92 (.tmp 2) 1) 0,
 LL 73 (.load 90 (.tmp 72)) 90,
 LL 74 (.call { callee := (.builtin .len), args := #[(.tmp 73)], argTypes := #[90] }) 3,
 LL 75 (.binOp .lss 3 (.tmp 71) (.tmp 74) 3) 4])
 (.cond (.tmp 75)
 .skip
 (.exit 2)))
 (.seq (.blk 3
 (.seq (.rgn [] [LL 9 (.assign (.const (.bool false))) 4])
 (.seq (.seq (.rgn [] [LL 10 (.assign (.const (.int .i64 0))) 3])
 (.blk 4
 (.loop []
 (.seq (.seq (.rgn [] [LL 78 (.move (.tmp 10)) 3,
 LL 79 (.fieldAddr 95 (.tmp 3) 0) 0,
 LL 80 (.load 82 (.tmp 79)) 82,
 LL 81 (.call { callee := (.builtin .len), args := #[(.tmp 80)], argTypes := #[82] }) 3,
 LL 82 (.binOp .lss 3 (.tmp 78) (.tmp 81) 3) 4])
 (.cond (.tmp 82)
 .skip
 (.exit 4)))
 (.seq (.blk 5
 (.drw [] [([9], [85]), ([85], [86]), ([2, 86], [87]), ([2, 86, 87], [88]), ([8, 86], [89]), ([86, 88, 89], [90]), ([86, 90], [91]), ([3, 86], [92]), ([3, 86, 92], [93]), ([10, 86], [94]), ([86, 93, 94], [95]), ([86, 95], [96]), ([86, 91, 96], [97]), ([86, 97], [98]), ([98], [9, 98])] [[], [0], [1], [2, 1], [1], [3, 4, 1], [5, 1], [1], [7, 1], [1], [8, 9, 1], [10, 1], [6, 11, 1, 1], [1, 12], [13, 12, 0, 1, 2, 3, 4, 5, 6, 7, 8, 9, 10, 11, 12, 13]] [LL 85 (.move (.tmp 9)) 4,
 LL 86 (.move (.tmp 85)) 4,
 ⟨some 87, (.fieldAddr 92 (.tmp 2) 1), 0, some (some 86, false)⟩,
 ⟨some 88, (.load 90 (.tmp 87)), 90, some (some 86, false)⟩,
 ⟨some 89, (.move (.tmp 8)), 3, some (some 86, false)⟩,
 ⟨some 90, (.indexAddr 90 (.tmp 88) (.tmp 89)), 0, some (some 86, false)⟩,
 ⟨some 91, (.load 195 (.tmp 90)), 195, some (some 86, false)⟩,
 ⟨some 92, (.fieldAddr 95 (.tmp 3) 0), 0, some (some 86, false)⟩,
 ⟨some 93, (.load 82 (.tmp 92)), 82, some (some 86, false)⟩,
 ⟨some 94, (.move (.tmp 10)), 3, some (some 86, false)⟩,
 ⟨some 95, (.indexAddr 82 (.tmp 93) (.tmp 94)), 0, some (some 86, false)⟩,
 ⟨some 96, (.load 25 (.tmp 95)), 25, some (some 86, false)⟩,
 ⟨some 97, (.call { callee := (.value (.func 204)), args := #[(.tmp 91), (.tmp 96)], argTypes := #[195, 25] }), 4, some (some 86, false)⟩,
 LL 98 (.pick (.tmp 86) (.const (.bool true)) (.tmp 97)) 4,
 LL 9 (.assign (.tmp 98)) 4]))
 (.rgn [] [LL 83 (.move (.tmp 10)) 3,
 LL 84 (.binOp .add 3 (.tmp 83) (.const (.int .i64 1)) 3) 3,
 LL 10 (.assign (.tmp 84)) 3]))))))
 (.seq (.rgn [] [LL 99 (.move (.tmp 9)) 4,
 LL 100 (.unOp .not 4 (.tmp 99)) 4])
 (.cond (.tmp 100)
 (.seq (.rgn [] [LL 4 (.assign (.const (.bool false))) 4])
 .ret)
 .skip)))))
 (.rgn [] [LL 76 (.move (.tmp 8)) 3,
 LL 77 (.binOp .add 3 (.tmp 76) (.const (.int .i64 1)) 3) 3,
 LL 8 (.assign (.tmp 77)) 3]))))))
 (.seq (.seq (.rgn [] [LL 11 (.assign (.const (.int .i64 0))) 3])
 (.blk 6
 (.loop []
 (.seq (.seq (.rgn [] [LL 101 (.move (.tmp 11)) 3,
 LL 102 (.fieldAddr 92 (.tmp 2) 0) 0,
 LL 103 (.load 3 (.tmp 102)) 3,
 LL 104 (.binOp .lss 3 (.tmp 101) (.tmp 103) 3) 4])
 (.cond (.tmp 104)
 .skip
 (.exit 6)))
 (.seq (.blk 7
 (.seq (.rgn [] [LL 12 (.assign (.const (.int .i64 0))) 3])
 (.seq (.seq (.rgn [] [LL 13 (.assign (.const (.int .i64 0))) 3])
 (.blk 8
 (.loop []
 (.seq (.seq (.rgn [] [LL 107 (.move (.tmp 13)) 3,
 LL 108 (.fieldAddr 95 (.tmp 3) 0) 0,
 LL 109 (.load 82 (.tmp 108)) 82,
 LL 110 (.call { callee := (.builtin .len), args := #[(.tmp 109)], argTypes := #[82] }) 3,
 LL 111 (.binOp .lss 3 (.tmp 107) (.tmp 110) 3) 4])
 (.cond (.tmp 111)
 .skip
 (.exit 8)))
 (.seq (.blk 9
 (.seq (.drw [] [([3], [114]), ([3, 114], [115]), ([13], [116]), ([115, 116], [117]), ([117], [118]), ([11], [119]), ([118, 119], [120]), ([120], [121]), ([121], [122]), ([3, 122], [123]), ([3, 122, 123], [124]), ([13, 122], [125]), ([122, 124, 125], [126]), ([122, 126], [127]), ([122, 127], [128]), ([122, 128], [129]), ([3, 129], [130]), ([3, 129, 130], [131]), ([3, 129], [132]), ([3, 129, 132], [133]), ([13, 129], [134]), ([129, 133, 134], [135]), ([129, 135], [136]), ([129, 131, 136], [137]), ([129, 137], [138]), ([11, 129], [139]), ([129, 138, 139], [140]), ([129, 140], [141]), ([122, 129, 141], [142]), ([122, 142], [143])] [[], [0], [], [1, 2], [3], [], [4, 5], [6], [7, 6], [8], [9, 8], [8], [10, 11, 8], [12, 8], [13, 8], [14, 8, 8], [15], [16, 15], [15], [18, 15], [15], [19, 20, 15], [21, 15], [17, 22, 15], [23, 15], [15], [24, 25, 15, 15], [26, 15], [15, 27, 8], [8, 28]] [LL 114 (.fieldAddr 95 (.tmp 3) 0) 0,
 LL 115 (.load 82 (.tmp 114)) 82,
 LL 116 (.move (.tmp 13)) 3,
 LL 117 (.indexAddr 82 (.tmp 115) (.tmp 116)) 0,
 LL 118 (.load 25 (.tmp 117)) 25,
 LL 119 (.move (.tmp 11)) 3,
 LL 120 (.call { callee := (.value (.func 205)), args := #[(.tmp 118), (.tmp 119)], argTypes := #[25, 3] }) 3,
 LL 121 (.binOp .geq 3 (.tmp 120) (.const (.int .i64 0)) 3) 4,
 LL 122 (.move (.tmp 121)) 4,
 ⟨some 123, (.fieldAddr 95 (.tmp 3) 1), 0, some (some 122, true)⟩,
 ⟨some 124, (.load 25 (.tmp 123)), 25, some (some 122, true)⟩,
 ⟨some 125, (.move (.tmp 13)), 3, some (some 122, true)⟩,
 ⟨some 126, (.indexAddr 25 (.tmp 124) (.tmp 125)), 0, some (some 122, true)⟩,
 ⟨some 127, (.load 3 (.tmp 126)), 3, some (some 122, true)⟩,
 ⟨some 128, (.binOp .eql 3 (.tmp 127) (.const (.int .i64 (-1))) 3), 4, some (some 122, true)⟩,
 ⟨some 129, (.move (.tmp 128)), 4, some (some 122, true)⟩,
 ⟨some 130, (.fieldAddr 95 (.tmp 3) 0), 0, some (some 129, false)⟩,
 ⟨some 131, (.load 82 (.tmp 130)), 82, some (some 129, false)⟩,
 ⟨some 132, (.fieldAddr 95 (.tmp 3) 1), 0, some (some 129, false)⟩,
 ⟨some 133, (.load 25 (.tmp 132)), 25, some (some 129, false)⟩,
 ⟨some 134, (.move (.tmp 13)), 3, some (some 129, false)⟩,
 ⟨some 135, (.indexAddr 25 (.tmp 133) (.tmp 134)), 0, some (some 129, false)⟩,
 ⟨some 136, (.load 3 (.tmp 135)), 3, some (some 129, false)⟩,
 ⟨some 137, (.indexAddr 82 (.tmp 131) (.tmp 136)), 0, some (some 129, false)⟩,
 ⟨some 138, (.load 25 (.tmp 137)), 25, some (some 129, false)⟩,
 ⟨some 139, (.move (.tmp 11)), 3, some (some 129, false)⟩,
 ⟨some 140, (.call { callee := (.value (.func 205)), args := #[(.tmp 138), (.tmp 139)], argTypes := #[25, 3] }), 3, some (some 129, false)⟩,
 ⟨some 141, (.binOp .lss 3 (.tmp 140) (.const (.int .i64 0)) 3), 4, some (some 129, false)⟩,
 ⟨some 142, (.pick (.tmp 129) (.const (.bool true)) (.tmp 141)), 4, some (some 122, true)⟩,
 LL 143 (.pick (.tmp 122) (.tmp 142) (.const (.bool false))) 4])
 (.cond (.tmp 143)
 (.rgn [] [LL 144 (.move (.tmp 12)) 3,
 LL 145 (.binOp .add 3 (.tmp 144) (.const (.int .i64 1)) 3) 3,
 LL 12 (.assign (.tmp 145)) 3])
 .skip)))
 (.rgn [] [LL 112 (.move (.tmp 13)) 3,
 LL 113 (.binOp .add 3 (.tmp 112) (.const (.int .i64 1)) 3) 3,
 LL 13 (.assign (.tmp 113)) 3]))))))
 (.seq (.rgn [] [LL 146 (.move (.tmp 12)) 3,
 LL 147 (.binOp .neq 3 (.tmp 146) (.const (.int .i64 1)) 3) 4])
 (.cond (.tmp 147)
 (.seq (.rgn [] [LL 4 (.assign (.const (.bool false))) 4])
 .ret)
 .skip)))))
 (.rgn [] [LL 105 (.move (.tmp 11)) 3,
 LL 106 (.binOp .add 3 (.tmp 105) (.const (.int .i64 1)) 3) 3,
 LL 11 (.assign (.tmp 106)) 3]))))))
 (.seq (.rgn [] [LL 4 (.assign (.const (.bool true))) 4])
 .ret)))))))
theorem lit124 : Lit Try.prog 124 148 [2, 3, 5] [.tmp 4] c124 := ⟨⟨Try.f124, _, Try.func124, rfl, by kernel_rfl, rfl, rfl, by kernel_rfl, by kernel_rfl⟩, by decide, by kernel_rfl⟩
/-- spec.IsValidOrder -/
def c125 : LC :=
  (.seq (.rgn [] [LL 2 (.box 92 (.tmp 0)) 0,
 LL 4 (.assign (.const (.bool false))) 4])
 (.seq (.rgn [] [LL 5 (.load 92 (.tmp 2)) 92,
 LL 6 (.call { callee := (.value (.func 200)), args := #[(.tmp 5)], argTypes := #[92] }) 4,
 LL 7 (.move (.tmp 6)) 4,
 ⟨some 8, (.move (.tmp 1)), 25, some (some 7, true)⟩,
 ⟨some 9, (.call { callee := (.builtin .len), args := #[(.tmp 8)], argTypes := #[25] }), 3, some (some 7, true)⟩,
 ⟨some 10, (.fieldAddr 92 (.tmp 2) 0), 0, some (some 7, true)⟩,
 ⟨some 11, (.load 3 (.tmp 10)), 3, some (some 7, true)⟩,
 ⟨some 12, (.binOp .eql 3 (.tmp 9) (.tmp 11) 3), 4, some (some 7, true)⟩,
 LL 13 (.pick (.tmp 7) (.tmp 12) (.const (.bool false))) 4,
 LL 14 (.move (.tmp 13)) 4,
 ⟨some 15, (.move (.tmp 1)), 25, some (some 14, true)⟩,
 ⟨some 16, (.call { callee := (.value (.func 206)), args := #[(.tmp 15)], argTypes := #[25] }), 4, some (some 14, true)⟩,
 LL 17 (.pick (.tmp 14) (.tmp 16) (.const (.bool false))) 4,
 LL 4 (.assign (.tmp 17)) 4])
 .ret))
theorem lit125 : Lit Try.prog 125 18 [2] [.tmp 4] c125 := ⟨⟨Try.f125, _, Try.func125, rfl, by kernel_rfl, rfl, rfl, by kernel_rfl, by kernel_rfl⟩, by decide, by kernel_rfl⟩
/-- laws.toAtomS -/
def c126 : LC :=
  (.seq (.rgn [] [LL 2 (.assign (.const (.slice none 0 0))) 90])
 (.seq (.rgn [3, 7] [LL 5 (.move (.tmp 0)) 77,
 LL 6 (.call { callee := (.builtin .len), args := #[(.tmp 5)], argTypes := #[77] }) 3,
 LL 7 (.makeSlice 90 (.tmp 6) (.tmp 6)) 90,
 LL 3 (.assign (.tmp 7)) 90])
 (.seq (.seq (.rgn [] [LL 4 (.assign (.const (.int .i64 0))) 3])
 (.blk 0
 (.loop []
 (.seq (.seq (.rgn [] [LL 8 (.move (.tmp 4)) 3,
 LL 9 (.move (.tmp 0)) 77,
 LL 10 (.call { callee := (.builtin .len), args := #[(.tmp 9)], argTypes := #[77] }) 3,
 LL 11 (.binOp .lss 3 (.tmp 8) (.tmp 10) 3) 4])
 (.cond (.tmp 11)
 .skip
 (.exit 0)))
 (.seq (.blk 1
 (.rgn [] [LL 14 (.move (.tmp 3)) 90,
 LL 15 (.move (.tmp 4)) 3,
 LL 16 (.move (.tmp 0)) 77,
 LL 17 (.move (.tmp 4)) 3,
 LL 18 (.indexAddr 77 (.tmp 16) (.tmp 17)) 0,
 LL 19 (.load 231 (.tmp 18)) 231,
 LL 20 (.call { callee := (.value (.func 207)), args := #[(.tmp 19)], argTypes := #[231] }) 195,
 LL 21 (.indexAddr 90 (.tmp 14) (.tmp 15)) 0,
 ⟨none, (.store 195 (.tmp 21) (.tmp 20)), 0, none⟩]))
 (.rgn [] [LL 12 (.move (.tmp 4)) 3,
 LL 13 (.binOp .add 3 (.tmp 12) (.const (.int .i64 1)) 3) 3,
 LL 4 (.assign (.tmp 13)) 3]))))))
 (.seq (.rgn [22] [LL 22 (.move (.tmp 3)) 90,
 LL 2 (.assign (.tmp 22)) 90])
 .ret))))
theorem lit126 : Lit Try.prog 126 23 [3, 7] [.tmp 2] c126 := ⟨⟨Try.f126, _, Try.func126, rfl, by kernel_rfl, rfl, rfl, by kernel_rfl, by kernel_rfl⟩, by decide, by kernel_rfl⟩
/-- laws.toJoinForest -/
def c127 : LC :=
  (.seq (.rgn [] [LL 1 (.box 81 (.tmp 0)) 0,
 LL 2 (.alloc 94) 0])
 (.seq (.rgn [] [LL 3 (.alloc 94) 0])
 (.seq (.rgn [] [LL 4 (.fieldAddr 81 (.tmp 1) 0) 0,
 LL 5 (.load 25 (.tmp 4)) 25,
 LL 6 (.call { callee := (.value (.func 58)), args := #[(.tmp 5)], argTypes := #[25] }) 25,
 LL 7 (.fieldAddr 94 (.tmp 3) 0) 0,
 ⟨none, (.store 25 (.tmp 7) (.tmp 6)), 0, none⟩])
 (.seq (.rgn [8] [LL 8 (.load 94 (.tmp 3)) 94,
 ⟨none, (.store 94 (.tmp 2) (.tmp 8)), 0, none⟩])
 .ret))))
theorem lit127 : Lit Try.prog 127 9 [1, 2, 3] [.cell 2 94] c127 := ⟨⟨Try.f127, _, Try.func127, rfl, by kernel_rfl, rfl, rfl, by kernel_rfl, by kernel_rfl⟩, by decide, by kernel_rfl⟩
/-- laws.toDecomposition -/
def c128 : LC :=
  (.seq (.rgn [] [LL 1 (.box 84 (.tmp 0)) 0,
 LL 2 (.alloc 95) 0])
 (.seq (.rgn [] [LL 3 (.alloc 95) 0])
 (.seq (.rgn [] [LL 4 (.fieldAddr 84 (.tmp 1) 0) 0,
 LL 5 (.load 82 (.tmp 4)) 82,
 LL 6 (.call { callee := (.value (.func 208)), args := #[(.tmp 5)], argTypes := #[82] }) 82,
 LL 7 (.fieldAddr 95 (.tmp 3) 0) 0,
 ⟨none, (.store 82 (.tmp 7) (.tmp 6)), 0, none⟩])
 (.seq (.rgn [] [LL 8 (.fieldAddr 84 (.tmp 1) 1) 0,
 LL 9 (.load 25 (.tmp 8)) 25,
 LL 10 (.call { callee := (.value (.func 58)), args := #[(.tmp 9)], argTypes := #[25] }) 25,
 LL 11 (.fieldAddr 95 (.tmp 3) 1) 0,
 ⟨none, (.store 25 (.tmp 11) (.tmp 10)), 0, none⟩])
 (.seq (.rgn [12] [LL 12 (.load 95 (.tmp 3)) 95,
 ⟨none, (.store 95 (.tmp 2) (.tmp 12)), 0, none⟩])
 .ret)))))
theorem lit128 : Lit Try.prog 128 13 [1, 2, 3] [.cell 2 95] c128 := ⟨⟨Try.f128, _, Try.func128, rfl, by kernel_rfl, rfl, rfl, by kernel_rfl, by kernel_rfl⟩, by decide, by kernel_rfl⟩
/-- impl.IsValidJoinTree -/
def c129 : LC :=
  (.seq (.rgn [] [LL 2 (.box 92 (.tmp 0)) 0,
 LL 3 (.box 94 (.tmp 1)) 0,
 LL 4 (.assign (.const (.bool false))) 4])
 (.seq (.seq (.rgn [] [LL 9 (.load 92 (.tmp 2)) 92,
 LL 10 (.call { callee := (.value (.func 209)), args := #[(.tmp 9)], argTypes := #[92] }) 4,
 LL 11 (.unOp .not 4 (.tmp 10)) 4,
 LL 12 (.move (.tmp 11)) 4,
 ⟨some 13, (.fieldAddr 94 (.tmp 3) 0), 0, some (some 12, false)⟩,
 ⟨some 14, (.load 25 (.tmp 13)), 25, some (some 12, false)⟩,
 ⟨some 15, (.call { callee := (.builtin .len), args := #[(.tmp 14)], argTypes := #[25] }), 3, some (some 12, false)⟩,
 ⟨some 16, (.fieldAddr 92 (.tmp 2) 1), 0, some (some 12, false)⟩,
 ⟨some 17, (.load 90 (.tmp 16)), 90, some (some 12, false)⟩,
 ⟨some 18, (.call { callee := (.builtin .len), args := #[(.tmp 17)], argTypes := #[90] }), 3, some (some 12, false)⟩,
 ⟨some 19, (.binOp .neq 3 (.tmp 15) (.tmp 18) 3), 4, some (some 12, false)⟩,
 LL 20 (.pick (.tmp 12) (.const (.bool true)) (.tmp 19)) 4,
 LL 21 (.move (.tmp 20)) 4,
 ⟨some 22, (.fieldAddr 94 (.tmp 3) 0), 0, some (some 21, false)⟩,
 ⟨some 23, (.load 25 (.tmp 22)), 25, some (some 21, false)⟩,
 ⟨some 24, (.call { callee := (.value (.func 210)), args := #[(.tmp 23)], argTypes := #[25] }), 4, some (some 21, false)⟩,
 ⟨some 25, (.unOp .not 4 (.tmp 24)), 4, some (some 21, false)⟩,
 LL 26 (.pick (.tmp 21) (.const (.bool true)) (.tmp 25)) 4])
 (.cond (.tmp 26)
 (.seq (.rgn [] [LL 4 (.assign (.const (.bool false))) 4])
 .ret)
 .skip))
 (.seq (.rgn [] [LL 5 (.assign (.const (.slice none 0 0))) 82])
 (.seq (.seq (.rgn [] [LL 27 (.fieldAddr 92 (.tmp 2) 1) 0,
 LL 28 (.load 90 (.tmp 27)) 90,
 LL 29 (.call { callee := (.builtin .len), args := #[(.tmp 28)], argTypes := #[90] }) 3,
 LL 30 (.move (.const (.int .i64 0))) 3])
 (.blk 0
 (.loop [7]
 (.seq (.rgn [] [LL 31 (.binOp .lss 3 (.tmp 30) (.tmp 29) 3) 0])
 (.seq (.cond (.tmp 31)
 .skip
 (.exit 0))
 (.seq (.blk 1
 (.seq (.rgn [33] [LL 32 (.indexAddr 90 (.tmp 28) (.tmp 30)) 0,
 LL 33 (.load 195 (.tmp 32)) 195,
 LL 7 (.alloc 195) 0,
 ⟨none, (.store 195 (.tmp 7) (.tmp 33)), 0, none⟩])
 (.rgn [34, 36] [LL 34 (.move (.tmp 5)) 82,
 LL 35 (.fieldAddr 195 (.tmp 7) 1) 0,
 LL 36 (.load 25 (.tmp 35)) 25,
 LL 37 (.buildSlice 82 1 #[(0, (.tmp 36))]) 82,
 LL 38 (.call { callee := (.builtin .append), args := #[(.tmp 34), (.tmp 37)], argTypes := #[82, 82] }) 82,
 LL 5 (.assign (.tmp 38)) 82])))
 (.rgn [] [LL 39 (.binOp .add 3 (.tmp 30) (.const (.int .i64 1)) 3) 3,
 LL 30 (.move (.tmp 39)) 3])))))))
 (.seq (.seq (.rgn [] [LL 8 (.assign (.const (.int .i64 0))) 3])
 (.blk 2
 (.loop []
 (.seq (.seq (.rgn [] [LL 40 (.move (.tmp 8)) 3,
 LL 41 (.fieldAddr 92 (.tmp 2) 0) 0,
 LL 42 (.load 3 (.tmp 41)) 3,
 LL 43 (.binOp .lss 3 (.tmp 40) (.tmp 42) 3) 4])
 (.cond (.tmp 43)
 .skip
 (.exit 2)))
 (.seq (.blk 3
 (.seq (.rgn [] [LL 46 (.move (.tmp 5)) 82,
 LL 47 (.fieldAddr 94 (.tmp 3) 0) 0,
 LL 48 (.load 25 (.tmp 47)) 25,
 LL 49 (.move (.tmp 8)) 3,
 LL 50 (.call { callee := (.value (.func 211)), args := #[(.tmp 46), (.tmp 48), (.tmp 49)], argTypes := #[82, 25, 3] }) 3,
 LL 51 (.binOp .neq 3 (.tmp 50) (.const (.int .i64 1)) 3) 4])
 (.cond (.tmp 51)
 (.seq (.rgn [] [LL 4 (.assign (.const (.bool false))) 4])
 .ret)
 .skip)))
 (.rgn [] [LL 44 (.move (.tmp 8)) 3,
 LL 45 (.binOp .add 3 (.tmp 44) (.const (.int .i64 1)) 3) 3,
 LL 8 (.assign (.tmp 45)) 3]))))))
 (.seq (.rgn [] [LL 4 (.assign (.const (.bool true))) 4])
 .ret))))))
theorem lit129 : Lit Try.prog 129 52 [2, 3, 7] [.tmp 4] c129 := ⟨⟨Try.f129, _, Try.func129, rfl, by kernel_rfl, rfl, rfl, by kernel_rfl, by kernel_rfl⟩, by decide, by kernel_rfl⟩
/-- impl.IsValidDecomposition -/
def c130 : LC :=
  (.seq (.rgn [] [LL 2 (.box 92 (.tmp 0)) 0,
 LL 3 (.box 95 (.tmp 1)) 0,
 LL 4 (.assign (.const (.bool false))) 4])
 (.seq (.rgn [] [LL 14 (.load 95 (.tmp 3)) 95,
 LL 5 (.alloc 95) 0,
 ⟨none, (.store 95 (.tmp 5) (.tmp 14)), 0, none⟩])
 (.seq (.seq (.rgn [] [LL 15 (.load 92 (.tmp 2)) 92,
 LL 16 (.call { callee := (.value (.func 209)), args := #[(.tmp 15)], argTypes := #[92] }) 4,
 LL 17 (.unOp .not 4 (.tmp 16)) 4,
 LL 18 (.move (.tmp 17)) 4,
 ⟨some 19, (.fieldAddr 95 (.tmp 5) 0), 0, some (some 18, false)⟩,
 ⟨some 20, (.load 82 (.tmp 19)), 82, some (some 18, false)⟩,
 ⟨some 21, (.call { callee := (.builtin .len), args := #[(.tmp 20)], argTypes := #[82] }), 3, some (some 18, false)⟩,
 ⟨some 22, (.fieldAddr 95 (.tmp 5) 1), 0, some (some 18, false)⟩,
 ⟨some 23, (.load 25 (.tmp 22)), 25, some (some 18, false)⟩,
 ⟨some 24, (.call { callee := (.builtin .len), args := #[(.tmp 23)], argTypes := #[25] }), 3, some (some 18, false)⟩,
 ⟨some 25, (.binOp .neq 3 (.tmp 21) (.tmp 24) 3), 4, some (some 18, false)⟩,
 LL 26 (.pick (.tmp 18) (.const (.bool true)) (.tmp 25)) 4,
 LL 27 (.move (.tmp 26)) 4,
 ⟨some 28, (.fieldAddr 95 (.tmp 5) 1), 0, some (some 27, false)⟩,
 ⟨some 29, (.load 25 (.tmp 28)), 25, some (some 27, false)⟩,
 ⟨some 30, (.call { callee := (.value (.func 210)), args := #[(.tmp 29)], argTypes := #[25] }), 4, some (some 27, false)⟩,
 ⟨some 31, (.unOp .not 4 (.tmp 30)), 4, some (some 27, false)⟩,
 LL 32 (.pick (.tmp 27) (.const (.bool true)) (.tmp 31)) 4])
 (.cond (.tmp 32)
 (.seq (.rgn [] [LL 4 (.assign (.const (.bool false))) 4])
 .ret)
 .skip))
 (.seq (.seq (.rgn [] [LL 33 (.fieldAddr 95 (.tmp 5) 0) 0,
 LL 34 (.load 82 (.tmp 33)) 82,
 LL 35 (.call { callee := (.builtin .len), args := #[(.tmp 34)], argTypes := #[82] }) 3,
 LL 36 (.move (.const (.int .i64 0))) 3])
 (.blk 0
 (.loop []
 (.seq (.rgn [] [LL 37 (.binOp .lss 3 (.tmp 36) (.tmp 35) 3) 0])
 (.seq (.cond (.tmp 37)
 .skip
 (.exit 0))
 (.seq (.blk 1
 (.seq (.rgn [39] [LL 38 (.indexAddr 82 (.tmp 34) (.tmp 36)) 0,
 LL 39 (.load 25 (.tmp 38)) 25,
 LL 7 (.assign (.tmp 39)) 25])
 (.seq (.rgn [] [LL 40 (.load 92 (.tmp 2)) 92,
 LL 41 (.move (.tmp 7)) 25,
 LL 42 (.call { callee := (.value (.func 212)), args := #[(.tmp 40), (.tmp 41)], argTypes := #[92, 25] }) 4,
 LL 43 (.unOp .not 4 (.tmp 42)) 4])
 (.cond (.tmp 43)
 (.seq (.rgn [] [LL 4 (.assign (.const (.bool false))) 4])
 .ret)
 .skip))))
 (.rgn [] [LL 44 (.binOp .add 3 (.tmp 36) (.const (.int .i64 1)) 3) 3,
 LL 36 (.move (.tmp 44)) 3])))))))
 (.seq (.seq (.rgn [] [LL 45 (.fieldAddr 92 (.tmp 2) 1) 0,
 LL 46 (.load 90 (.tmp 45)) 90,
 LL 47 (.call { callee := (.builtin .len), args := #[(.tmp 46)], argTypes := #[90] }) 3,
 LL 48 (.move (.const (.int .i64 0))) 3])
 (.blk 2
 (.loop [9]
 (.seq (.rgn [] [LL 49 (.binOp .lss 3 (.tmp 48) (.tmp 47) 3) 0])
 (.seq (.cond (.tmp 49)
 .skip
 (.exit 2))
 (.seq (.blk 3
 (.seq (.rgn [51] [LL 50 (.indexAddr 90 (.tmp 46) (.tmp 48)) 0,
 LL 51 (.load 195 (.tmp 50)) 195,
 LL 9 (.alloc 195) 0,
 ⟨none, (.store 195 (.tmp 9) (.tmp 51)), 0, none⟩])
 (.seq (.rgn [] [LL 10 (.assign (.const (.bool false))) 4])
 (.seq (.seq (.rgn [] [LL 52 (.fieldAddr 95 (.tmp 5) 0) 0,
 LL 53 (.load 82 (.tmp 52)) 82,
 LL 54 (.call { callee := (.builtin .len), args := #[(.tmp 53)], argTypes := #[82] }) 3,
 LL 55 (.move (.const (.int .i64 0))) 3])
 (.blk 4
 (.loop []
 (.seq (.rgn [] [LL 56 (.binOp .lss 3 (.tmp 55) (.tmp 54) 3) 0])
 (.seq (.cond (.tmp 56)
 .skip
 (.exit 4))
 (.seq (.blk 5
 (.seq (.rgn [58] [LL 57 (.indexAddr 82 (.tmp 53) (.tmp 55)) 0,
 LL 58 (.load 25 (.tmp 57)) 25,
 LL 12 (.assign (.tmp 58)) 25])
 (.drw [] [([10], [59]), ([59], [60]), ([9, 60], [61]), ([60, 61], [62]), ([12, 60], [63]), ([60, 62, 63], [64]), ([60, 64], [65]), ([9, 60], [66]), ([60, 66], [67]), ([60, 67], [68]), ([60, 65, 68], [69]), ([60, 69], [70]), ([70], [10, 70])] [[], [0], [1], [2, 1, 1], [1], [3, 4, 3, 1], [5, 1], [1], [7, 5, 1], [8, 1], [6, 9, 1], [1, 10], [11, 8, 0, 1, 2, 3, 4, 5, 6, 7, 8, 9, 10, 11]] [LL 59 (.move (.tmp 10)) 4,
 LL 60 (.move (.tmp 59)) 4,
 ⟨some 61, (.load 195 (.tmp 9)), 195, some (some 60, false)⟩,
 ⟨some 62, (.call { callee := (.value (.func 162)), args := #[(.tmp 61)], argTypes := #[195] }), 25, some (some 60, false)⟩,
 ⟨some 63, (.move (.tmp 12)), 25, some (some 60, false)⟩,
 ⟨some 64, (.call { callee := (.value (.func 161)), args := #[(.tmp 62), (.tmp 63)], argTypes := #[25, 25] }), 25, some (some 60, false)⟩,
 ⟨some 65, (.call { callee := (.builtin .len), args := #[(.tmp 64)], argTypes := #[25] }), 3, some (some 60, false)⟩,
 ⟨some 66, (.load 195 (.tmp 9)), 195, some (some 60, false)⟩,
 ⟨some 67, (.call { callee := (.value (.func 162)), args := #[(.tmp 66)], argTypes := #[195] }), 25, some (some 60, false)⟩,
 ⟨some 68, (.call { callee := (.builtin .len), args := #[(.tmp 67)], argTypes := #[25] }), 3, some (some 60, false)⟩,
 ⟨some 69, (.binOp .eql 3 (.tmp 65) (.tmp 68) 3), 4, some (some 60, false)⟩,
 LL 70 (.pick (.tmp 60) (.const (.bool true)) (.tmp 69)) 4,
 LL 10 (.assign (.tmp 70)) 4])))
 (.rgn [] [LL 71 (.binOp .add 3 (.tmp 55) (.const (.int .i64 1)) 3) 3,
 LL 55 (.move (.tmp 71)) 3])))))))
 (.seq (.rgn [] [LL 72 (.move (.tmp 10)) 4,
 LL 73 (.unOp .not 4 (.tmp 72)) 4])
 (.cond (.tmp 73)
 (.seq (.rgn [] [LL 4 (.assign (.const (.bool false))) 4])
 .ret)
 .skip))))))
 (.rgn [] [LL 74 (.binOp .add 3 (.tmp 48) (.const (.int .i64 1)) 3) 3,
 LL 48 (.move (.tmp 74)) 3])))))))
 (.seq (.seq (.rgn [] [LL 13 (.assign (.const (.int .i64 0))) 3])
 (.blk 6
 (.loop []
 (.seq (.seq (.rgn [] [LL 75 (.move (.tmp 13)) 3,
 LL 76 (.fieldAddr 92 (.tmp 2) 0) 0,
 LL 77 (.load 3 (.tmp 76)) 3,
 LL 78 (.binOp .lss 3 (.tmp 75) (.tmp 77) 3) 4])
 (.cond (.tmp 78)
 .skip
 (.exit 6)))
 (.seq (.blk 7
 (.seq (.rgn [] [LL 81 (.fieldAddr 95 (.tmp 5) 0) 0,
 LL 82 (.load 82 (.tmp 81)) 82,
 LL 83 (.fieldAddr 95 (.tmp 5) 1) 0,
 LL 84 (.load 25 (.tmp 83)) 25,
 LL 85 (.move (.tmp 13)) 3,
 LL 86 (.call { callee := (.value (.func 211)), args := #[(.tmp 82), (.tmp 84), (.tmp 85)], argTypes := #[82, 25, 3] }) 3,
 LL 87 (.binOp .neq 3 (.tmp 86) (.const (.int .i64 1)) 3) 4])
 (.cond (.tmp 87)
 (.seq (.rgn [] [LL 4 (.assign (.const (.bool false))) 4])
 .ret)
 .skip)))
 (.rgn [] [LL 79 (.move (.tmp 13)) 3,
 LL 80 (.binOp .add 3 (.tmp 79) (.const (.int .i64 1)) 3) 3,
 LL 13 (.assign (.tmp 80)) 3]))))))
 (.seq (.rgn [] [LL 4 (.assign (.const (.bool true))) 4])
 .ret)))))))
theorem lit130 : Lit Try.prog 130 88 [2, 3, 5, 9] [.tmp 4] c130 := ⟨⟨Try.f130, _, Try.func130, rfl, by kernel_rfl, rfl, rfl, by kernel_rfl, by kernel_rfl⟩, by decide, by kernel_rfl⟩
/-- impl.IsValidOrder -/
def c131 : LC :=
  (.seq (.rgn [] [LL 2 (.box 92 (.tmp 0)) 0,
 LL 4 (.assign (.const (.bool false))) 4])
 (.seq (.rgn [] [LL 5 (.load 92 (.tmp 2)) 92,
 LL 6 (.call { callee := (.value (.func 209)), args := #[(.tmp 5)], argTypes := #[92] }) 4,
 LL 7 (.move (.tmp 6)) 4,
 ⟨some 8, (.move (.tmp 1)), 25, some (some 7, true)⟩,
 ⟨some 9, (.call { callee := (.builtin .len), args := #[(.tmp 8)], argTypes := #[25] }), 3, some (some 7, true)⟩,
 ⟨some 10, (.fieldAddr 92 (.tmp 2) 0), 0, some (some 7, true)⟩,
 ⟨some 11, (.load 3 (.tmp 10)), 3, some (some 7, true)⟩,
 ⟨some 12, (.binOp .eql 3 (.tmp 9) (.tmp 11) 3), 4, some (some 7, true)⟩,
 LL 13 (.pick (.tmp 7) (.tmp 12) (.const (.bool false))) 4,
 LL 14 (.move (.tmp 13)) 4,
 ⟨some 15, (.move (.tmp 1)), 25, some (some 14, true)⟩,
 ⟨some 16, (.fieldAddr 92 (.tmp 2) 0), 0, some (some 14, true)⟩,
 ⟨some 17, (.load 3 (.tmp 16)), 3, some (some 14, true)⟩,
 ⟨some 18, (.call { callee := (.value (.func 213)), args := #[(.tmp 15), (.tmp 17)], argTypes := #[25, 3] }), 4, some (some 14, true)⟩,
 LL 19 (.pick (.tmp 14) (.tmp 18) (.const (.bool false))) 4,
 LL 4 (.assign (.tmp 19)) 4])
 .ret))
theorem lit131 : Lit Try.prog 131 20 [2] [.tmp 4] c131 := ⟨⟨Try.f131, _, Try.func131, rfl, by kernel_rfl, rfl, rfl, by kernel_rfl, by kernel_rfl⟩, by decide, by kernel_rfl⟩
/-- laws.eqAtomS -/
def c132 : LC :=
  (.seq (.rgn [] [LL 4 (.assign (.const (.bool false))) 4])
 (.seq (.seq (.rgn [] [LL 6 (.move (.tmp 0)) 90,
 LL 7 (.call { callee := (.builtin .len), args := #[(.tmp 6)], argTypes := #[90] }) 3,
 LL 8 (.move (.tmp 1)) 90,
 LL 9 (.call { callee := (.builtin .len), args := #[(.tmp 8)], argTypes := #[90] }) 3,
 LL 10 (.binOp .neq 3 (.tmp 7) (.tmp 9) 3) 4])
 (.cond (.tmp 10)
 (.seq (.rgn [] [LL 4 (.assign (.const (.bool false))) 4])
 .ret)
 .skip))
 (.seq (.seq (.rgn [] [LL 5 (.assign (.const (.int .i64 0))) 3])
 (.blk 0
 (.loop []
 (.seq (.seq (.rgn [] [LL 11 (.move (.tmp 5)) 3,
 LL 12 (.move (.tmp 0)) 90,
 LL 13 (.call { callee := (.builtin .len), args := #[(.tmp 12)], argTypes := #[90] }) 3,
 LL 14 (.binOp .lss 3 (.tmp 11) (.tmp 13) 3) 4])
 (.cond (.tmp 14)
 .skip
 (.exit 0)))
 (.seq (.blk 1
 (.seq (.drw [] [([0], [17]), ([5], [18]), ([17, 18], [19]), ([19], [20]), ([1], [21]), ([5], [22]), ([21, 22], [23]), ([23], [24]), ([20, 24], [25]), ([25], [26])] [[], [], [0, 1], [2], [], [], [4, 5], [6], [3, 7], [8]] [LL 17 (.move (.tmp 0)) 90,
 LL 18 (.move (.tmp 5)) 3,
 LL 19 (.indexAddr 90 (.tmp 17) (.tmp 18)) 0,
 LL 20 (.load 195 (.tmp 19)) 195,
 LL 21 (.move (.tmp 1)) 90,
 LL 22 (.move (.tmp 5)) 3,
 LL 23 (.indexAddr 90 (.tmp 21) (.tmp 22)) 0,
 LL 24 (.load 195 (.tmp 23)) 195,
 LL 25 (.call { callee := (.value (.func 214)), args := #[(.tmp 20), (.tmp 24)], argTypes := #[195, 195] }) 4,
 LL 26 (.unOp .not 4 (.tmp 25)) 4])
 (.cond (.tmp 26)
 (.seq (.rgn [] [LL 4 (.assign (.const (.bool false))) 4])
 .ret)
 .skip)))
 (.rgn [] [LL 15 (.move (.tmp 5)) 3,
 LL 16 (.binOp .add 3 (.tmp 15) (.const (.int .i64 1)) 3) 3,
 LL 5 (.assign (.tmp 16)) 3]))))))
 (.seq (.rgn [] [LL 4 (.assign (.const (.bool true))) 4])
 .ret))))
theorem lit132 : Lit Try.prog 132 27 [] [.tmp 4] c132 := ⟨⟨Try.f132, _, Try.func132, rfl, by kernel_rfl, rfl, rfl, by kernel_rfl, by kernel_rfl⟩, by decide, by kernel_rfl⟩
/-- laws.eqJoinForest -/
def c133 : LC :=
  (.seq (.rgn [] [LL 2 (.box 94 (.tmp 0)) 0,
 LL 3 (.box 94 (.tmp 1)) 0,
 LL 4 (.assign (.const (.bool false))) 4])
 (.seq (.seq (.rgn [] [LL 5 (.fieldAddr 94 (.tmp 2) 0) 0,
 LL 6 (.load 25 (.tmp 5)) 25,
 LL 7 (.fieldAddr 94 (.tmp 3) 0) 0,
 LL 8 (.load 25 (.tmp 7)) 25,
 LL 9 (.call { callee := (.value (.func 19)), args := #[(.tmp 6), (.tmp 8)], argTypes := #[25, 25] }) 4,
 LL 10 (.unOp .not 4 (.tmp 9)) 4])
 (.cond (.tmp 10)
 (.seq (.rgn [] [LL 4 (.assign (.const (.bool false))) 4])
 .ret)
 .skip))
 (.seq (.rgn [] [LL 4 (.assign (.const (.bool true))) 4])
 .ret)))
theorem lit133 : Lit Try.prog 133 11 [2, 3] [.tmp 4] c133 := ⟨⟨Try.f133, _, Try.func133, rfl, by kernel_rfl, rfl, rfl, by kernel_rfl, by kernel_rfl⟩, by decide, by kernel_rfl⟩
/-- laws.eqDecomposition -/
def c134 : LC :=
  (.seq (.rgn [] [LL 2 (.box 95 (.tmp 0)) 0,
 LL 3 (.box 95 (.tmp 1)) 0,
 LL 4 (.assign (.const (.bool false))) 4])
 (.seq (.seq (.rgn [] [LL 5 (.fieldAddr 95 (.tmp 2) 0) 0,
 LL 6 (.load 82 (.tmp 5)) 82,
 LL 7 (.fieldAddr 95 (.tmp 3) 0) 0,
 LL 8 (.load 82 (.tmp 7)) 82,
 LL 9 (.call { callee := (.value (.func 215)), args := #[(.tmp 6), (.tmp 8)], argTypes := #[82, 82] }) 4,
 LL 10 (.unOp .not 4 (.tmp 9)) 4])
 (.cond (.tmp 10)
 (.seq (.rgn [] [LL 4 (.assign (.const (.bool false))) 4])
 .ret)
 .skip))
 (.seq (.seq (.rgn [] [LL 11 (.fieldAddr 95 (.tmp 2) 1) 0,
 LL 12 (.load 25 (.tmp 11)) 25,
 LL 13 (.fieldAddr 95 (.tmp 3) 1) 0,
 LL 14 (.load 25 (.tmp 13)) 25,
 LL 15 (.call { callee := (.value (.func 19)), args := #[(.tmp 12), (.tmp 14)], argTypes := #[25, 25] }) 4,
 LL 16 (.unOp .not 4 (.tmp 15)) 4])
 (.cond (.tmp 16)
 (.seq (.rgn [] [LL 4 (.assign (.const (.bool false))) 4])
 .ret)
 .skip))
 (.seq (.rgn [] [LL 4 (.assign (.const (.bool true))) 4])
 .ret))))
theorem lit134 : Lit Try.prog 134 17 [2, 3] [.tmp 4] c134 := ⟨⟨Try.f134, _, Try.func134, rfl, by kernel_rfl, rfl, rfl, by kernel_rfl, by kernel_rfl⟩, by decide, by kernel_rfl⟩
/-- spec.l34Ints -/
def c141 : LC :=
  (.seq (.rgn [] [LL 2 (.assign (.const (.string { data := #[] }))) 9])
 (.seq (.rgn [] [LL 3 (.assign (.const (.string { data := #[] }))) 9])
 (.seq (.seq (.rgn [] [LL 4 (.assign (.const (.int .i64 0))) 3])
 (.blk 0
 (.loop []
 (.seq (.seq (.rgn [] [LL 5 (.move (.tmp 4)) 3,
 LL 6 (.move (.tmp 0)) 25,
 LL 7 (.call { callee := (.builtin .len), args := #[(.tmp 6)], argTypes := #[25] }) 3,
 LL 8 (.binOp .lss 3 (.tmp 5) (.tmp 7) 3) 4])
 (.cond (.tmp 8)
 .skip
 (.exit 0)))
 (.seq (.blk 1
 (.seq (.seq (.rgn [] [LL 11 (.move (.tmp 4)) 3,
 LL 12 (.binOp .gtr 3 (.tmp 11) (.const (.int .i64 0)) 3) 4])
 (.cond (.tmp 12)
 (.rgn [] [LL 13 (.move (.tmp 3)) 9,
 LL 14 (.binOp .add 9 (.tmp 13) (.const (.string { data := #[32] })) 9) 9,
 LL 3 (.assign (.tmp 14)) 9])
 .skip))
 (.rgn [] [LL 15 (.move (.tmp 3)) 9,
 LL 16 (.move (.tmp 0)) 25,
 LL 17 (.move (.tmp 4)) 3,
 LL 18 (.indexAddr 25 (.tmp 16) (.tmp 17)) 0,
 LL 19 (.load 3 (.tmp 18)) 3,
 LL 20 (.call { callee := (.value (.func 183)), args := #[(.tmp 19)], argTypes := #[3] }) 9,
 LL 21 (.binOp .add 9 (.tmp 15) (.tmp 20) 9) 9,
 LL 3 (.assign (.tmp 21)) 9])))
 (.rgn [] [LL 9 (.move (.tmp 4)) 3,
 LL 10 (.binOp .add 3 (.tmp 9) (.const (.int .i64 1)) 3) 3,
 LL 4 (.assign (.tmp 10)) 3]))))))
 (.seq (.rgn [] [LL 22 (.move (.tmp 3)) 9,
 LL 2 (.assign (.tmp 22)) 9])
 .ret))))
theorem lit141 : Lit Try.prog 141 23 [] [.tmp 2] c141 := ⟨⟨Try.f141, _, Try.func141, rfl, by kernel_rfl, rfl, rfl, by kernel_rfl, by kernel_rfl⟩, by decide, by kernel_rfl⟩
/-- spec.FormatDecomposition -/
def c142 : LC :=
  (.seq (.rgn [] [LL 1 (.box 95 (.tmp 0)) 0,
 LL 2 (.assign (.const (.string { data := #[] }))) 9])
 (.seq (.rgn [] [LL 3 (.assign (.const (.string { data := #[] }))) 9])
 (.seq (.seq (.rgn [] [LL 4 (.assign (.const (.int .i64 0))) 3])
 (.blk 0
 (.loop []
 (.seq (.seq (.rgn [] [LL 5 (.move (.tmp 4)) 3,
 LL 6 (.fieldAddr 95 (.tmp 1) 0) 0,
 LL 7 (.load 82 (.tmp 6)) 82,
 LL 8 (.call { callee := (.builtin .len), args := #[(.tmp 7)], argTypes := #[82] }) 3,
 LL 9 (.binOp .lss 3 (.tmp 5) (.tmp 8) 3) 4,
 LL 10 (.move (.tmp 9)) 4,
 ⟨some 11, (.fieldAddr 95 (.tmp 1) 0), 0, some (some 10, true)⟩,
 ⟨some 12, (.load 82 (.tmp 11)), 82, some (some 10, true)⟩,
 ⟨some 13, (.call { callee := (.builtin .len), args := #[(.tmp 12)], argTypes := #[82] }), 3, some (some 10, true)⟩,
 ⟨some 14, (.fieldAddr 95 (.tmp 1) 1), 0, some (some 10, true)⟩,
 ⟨some 15, (.load 25 (.tmp 14)), 25, some (some 10, true)⟩,
 ⟨some 16, (.call { callee := (.builtin .len), args := #[(.tmp 15)], argTypes := #[25] }), 3, some (some 10, true)⟩,
 ⟨some 17, (.binOp .eql 3 (.tmp 13) (.tmp 16) 3), 4, some (some 10, true)⟩,
 LL 18 (.pick (.tmp 10) (.tmp 17) (.const (.bool false))) 4])
 (.cond (.tmp 18)
 .skip
 (.exit 0)))
 (.seq (.blk 1
 (.seq (.seq (.rgn [] [LL 21 (.move (.tmp 4)) 3,
 LL 22 (.binOp .gtr 3 (.tmp 21) (.const (.int .i64 0)) 3) 4])
 (.cond (.tmp 22)
 (.rgn [] [LL 23 (.move (.tmp 3)) 9,
 LL 24 (.binOp .add 9 (.tmp 23) (.const (.string { data := #[32] })) 9) 9,
 LL 3 (.assign (.tmp 24)) 9])
 .skip))
 (.seq (.rgn [] [LL 25 (.move (.tmp 3)) 9,
 LL 26 (.fieldAddr 95 (.tmp 1) 0) 0,
 LL 27 (.load 82 (.tmp 26)) 82,
 LL 28 (.move (.tmp 4)) 3,
 LL 29 (.indexAddr 82 (.tmp 27) (.tmp 28)) 0,
 LL 30 (.load 25 (.tmp 29)) 25,
 LL 31 (.call { callee := (.value (.func 143)), args := #[(.tmp 30)], argTypes := #[25] }) 9,
 LL 32 (.binOp .add 9 (.tmp 25) (.tmp 31) 9) 9,
 LL 3 (.assign (.tmp 32)) 9])
 (.seq (.rgn [] [LL 33 (.fieldAddr 95 (.tmp 1) 1) 0,
 LL 34 (.load 25 (.tmp 33)) 25,
 LL 35 (.move (.tmp 4)) 3,
 LL 36 (.indexAddr 25 (.tmp 34) (.tmp 35)) 0,
 LL 37 (.load 3 (.tmp 36)) 3,
 LL 38 (.binOp .geq 3 (.tmp 37) (.const (.int .i64 0)) 3) 4])
 (.cond (.tmp 38)
 (.rgn [] [LL 39 (.move (.tmp 3)) 9,
 LL 40 (.fieldAddr 95 (.tmp 1) 1) 0,
 LL 41 (.load 25 (.tmp 40)) 25,
 LL 42 (.move (.tmp 4)) 3,
 LL 43 (.indexAddr 25 (.tmp 41) (.tmp 42)) 0,
 LL 44 (.load 3 (.tmp 43)) 3,
 LL 45 (.call { callee := (.value (.func 183)), args := #[(.tmp 44)], argTypes := #[3] }) 9,
 LL 46 (.binOp .add 9 (.tmp 39) (.tmp 45) 9) 9,
 LL 3 (.assign (.tmp 46)) 9])
 .skip)))))
 (.rgn [] [LL 19 (.move (.tmp 4)) 3,
 LL 20 (.binOp .add 3 (.tmp 19) (.const (.int .i64 1)) 3) 3,
 LL 4 (.assign (.tmp 20)) 3]))))))
 (.seq (.rgn [] [LL 47 (.move (.tmp 3)) 9,
 LL 2 (.assign (.tmp 47)) 9])
 .ret))))
theorem lit142 : Lit Try.prog 142 48 [1] [.tmp 2] c142 := ⟨⟨Try.f142, _, Try.func142, rfl, by kernel_rfl, rfl, rfl, by kernel_rfl, by kernel_rfl⟩, by decide, by kernel_rfl⟩
/-- spec.l7Vars -/
def c143 : LC :=
  (.seq (.rgn [] [LL 2 (.assign (.const (.string { data := #[] }))) 9])
 (.seq (.rgn [] [LL 3 (.assign (.const (.string { data := #[40] }))) 9])
 (.seq (.seq (.rgn [] [LL 4 (.assign (.const (.int .i64 0))) 3])
 (.blk 0
 (.loop []
 (.seq (.seq (.rgn [] [LL 5 (.move (.tmp 4)) 3,
 LL 6 (.move (.tmp 0)) 25,
 LL 7 (.call { callee := (.builtin .len), args := #[(.tmp 6)], argTypes := #[25] }) 3,
 LL 8 (.binOp .lss 3 (.tmp 5) (.tmp 7) 3) 4])
 (.cond (.tmp 8)
 .skip
 (.exit 0)))
 (.seq (.blk 1
 (.rgn [] [LL 11 (.move (.tmp 3)) 9,
 LL 12 (.move (.tmp 0)) 25,
 LL 13 (.move (.tmp 4)) 3,
 LL 14 (.indexAddr 25 (.tmp 12) (.tmp 13)) 0,
 LL 15 (.load 3 (.tmp 14)) 3,
 LL 16 (.call { callee := (.value (.func 180)), args := #[(.tmp 15)], argTypes := #[3] }) 9,
 LL 17 (.binOp .add 9 (.tmp 11) (.tmp 16) 9) 9,
 LL 3 (.assign (.tmp 17)) 9]))
 (.rgn [] [LL 9 (.move (.tmp 4)) 3,
 LL 10 (.binOp .add 3 (.tmp 9) (.const (.int .i64 1)) 3) 3,
 LL 4 (.assign (.tmp 10)) 3]))))))
 (.seq (.rgn [] [LL 18 (.move (.tmp 3)) 9,
 LL 19 (.binOp .add 9 (.tmp 18) (.const (.string { data := #[41] })) 9) 9,
 LL 2 (.assign (.tmp 19)) 9])
 .ret))))
theorem lit143 : Lit Try.prog 143 20 [] [.tmp 2] c143 := ⟨⟨Try.f143, _, Try.func143, rfl, by kernel_rfl, rfl, rfl, by kernel_rfl, by kernel_rfl⟩, by decide, by kernel_rfl⟩
/-- impl.FormatPlanKind -/
def c144 : LC :=
  (.seq (.rgn [] [LL 2 (.assign (.const (.string { data := #[] }))) 9])
 (.seq (.seq (.rgn [] [LL 3 (.move (.tmp 0)) 3])
 (.blk 0
 (.seq (.rgn [] [LL 5 (.binOp .eql 3 (.tmp 3) (.const (.int .i64 1)) 3) 4,
 LL 4 (.assign (.tmp 5)) 4])
 (.cond (.tmp 4)
 (.seq (.rgn [] [LL 2 (.assign (.const (.string { data := #[116, 114, 101, 101] }))) 9])
 .ret)
 (.seq (.rgn [] [LL 7 (.binOp .eql 3 (.tmp 3) (.const (.int .i64 2)) 3) 4,
 LL 6 (.assign (.tmp 7)) 4])
 (.cond (.tmp 6)
 (.seq (.rgn [] [LL 2 (.assign (.const (.string { data := #[98, 97, 103, 115] }))) 9])
 .ret)
 (.seq (.rgn [] [LL 9 (.binOp .eql 3 (.tmp 3) (.const (.int .i64 3)) 3) 4,
 LL 8 (.assign (.tmp 9)) 4])
 (.cond (.tmp 8)
 (.seq (.rgn [] [LL 2 (.assign (.const (.string { data := #[108, 101, 97, 112] }))) 9])
 .ret)
 .skip))))))))
 (.seq (.rgn [] [LL 2 (.assign (.const (.string { data := #[] }))) 9])
 .ret)))
theorem lit144 : Lit Try.prog 144 10 [] [.tmp 2] c144 := ⟨⟨Try.f144, _, Try.func144, rfl, by kernel_rfl, rfl, rfl, by kernel_rfl, by kernel_rfl⟩, by decide, by kernel_rfl⟩
/-- impl.formatList -/
def c145 : LC :=
  (.seq (.rgn [] [LL 4 (.assign (.const (.string { data := #[] }))) 9])
 (.seq (.rgn [] [LL 5 (.assign (.const (.slice none 0 0))) 144])
 (.seq (.seq (.rgn [] [LL 8 (.move (.tmp 0)) 25,
 LL 9 (.call { callee := (.builtin .len), args := #[(.tmp 8)], argTypes := #[25] }) 3,
 LL 10 (.move (.const (.int .i64 0))) 3])
 (.blk 0
 (.loop []
 (.seq (.rgn [] [LL 11 (.binOp .lss 3 (.tmp 10) (.tmp 9) 3) 0])
 (.seq (.cond (.tmp 11)
 .skip
 (.exit 0))
 (.seq (.blk 1
 (.seq (.rgn [] [LL 12 (.indexAddr 25 (.tmp 8) (.tmp 10)) 0,
 LL 13 (.load 3 (.tmp 12)) 3,
 LL 7 (.assign (.tmp 13)) 3])
 (.rgn [14] [LL 14 (.move (.tmp 5)) 144,
 LL 15 (.move (.tmp 7)) 3,
 LL 16 (.call { callee := (.value (.func 187)), args := #[(.tmp 15)], argTypes := #[3] }) 9,
 LL 17 (.buildSlice 144 1 #[(0, (.tmp 16))]) 144,
 LL 18 (.call { callee := (.builtin .append), args := #[(.tmp 14), (.tmp 17)], argTypes := #[144, 144] }) 144,
 LL 5 (.assign (.tmp 18)) 144])))
 (.rgn [] [LL 19 (.binOp .add 3 (.tmp 10) (.const (.int .i64 1)) 3) 3,
 LL 10 (.move (.tmp 19)) 3])))))))
 (.seq (.rgn [] [LL 20 (.move (.tmp 5)) 144,
 LL 21 (.move (.tmp 1)) 9,
 LL 22 (.call { callee := (.value (.func 221)), args := #[(.tmp 20), (.tmp 21)], argTypes := #[144, 9] }) 9,
 LL 4 (.assign (.tmp 22)) 9])
 .ret))))
theorem lit145 : Lit Try.prog 145 23 [] [.tmp 4] c145 := ⟨⟨Try.f145, _, Try.func145, rfl, by kernel_rfl, rfl, rfl, by kernel_rfl, by kernel_rfl⟩, by decide, by kernel_rfl⟩
/-- impl.FormatDecomposition -/
def c146 : LC :=
  (.seq (.rgn [] [LL 1 (.box 95 (.tmp 0)) 0,
 LL 2 (.assign (.const (.string { data := #[] }))) 9])
 (.seq (.rgn [] [LL 8 (.load 95 (.tmp 1)) 95,
 LL 3 (.alloc 95) 0,
 ⟨none, (.store 95 (.tmp 3) (.tmp 8)), 0, none⟩])
 (.seq (.seq (.rgn [] [LL 9 (.fieldAddr 95 (.tmp 3) 0) 0,
 LL 10 (.load 82 (.tmp 9)) 82,
 LL 11 (.call { callee := (.builtin .len), args := #[(.tmp 10)], argTypes := #[82] }) 3,
 LL 12 (.fieldAddr 95 (.tmp 3) 1) 0,
 LL 13 (.load 25 (.tmp 12)) 25,
 LL 14 (.call { callee := (.builtin .len), args := #[(.tmp 13)], argTypes := #[25] }) 3,
 LL 15 (.binOp .neq 3 (.tmp 11) (.tmp 14) 3) 4])
 (.cond (.tmp 15)
 (.seq (.rgn [] [LL 2 (.assign (.const (.string { data := #[] }))) 9])
 .ret)
 .skip))
 (.seq (.rgn [] [LL 4 (.assign (.const (.slice none 0 0))) 144])
 (.seq (.seq (.rgn [] [LL 16 (.fieldAddr 95 (.tmp 3) 0) 0,
 LL 17 (.load 82 (.tmp 16)) 82,
 LL 18 (.call { callee := (.builtin .len), args := #[(.tmp 17)], argTypes := #[82] }) 3,
 LL 19 (.move (.const (.int .i64 0))) 3])
 (.blk 0
 (.loop []
 (.seq (.rgn [] [LL 20 (.binOp .lss 3 (.tmp 19) (.tmp 18) 3) 0])
 (.seq (.cond (.tmp 20)
 .skip
 (.exit 0))
 (.seq (.blk 1
 (.seq (.rgn [23] [LL 21 (.move (.tmp 19)) 3,
 LL 22 (.indexAddr 82 (.tmp 17) (.tmp 19)) 0,
 LL 23 (.load 25 (.tmp 22)) 25,
 LL 5 (.assign (.tmp 21)) 3,
 LL 6 (.assign (.tmp 23)) 25])
 (.seq (.rgn [] [LL 24 (.move (.tmp 6)) 25,
 LL 25 (.call { callee := (.value (.func 147)), args := #[(.tmp 24)], argTypes := #[25] }) 9,
 LL 26 (.binOp .add 9 (.const (.string { data := #[40] })) (.tmp 25) 9) 9,
 LL 27 (.binOp .add 9 (.tmp 26) (.const (.string { data := #[41] })) 9) 9,
 LL 7 (.assign (.tmp 27)) 9])
 (.seq (.seq (.rgn [] [LL 28 (.fieldAddr 95 (.tmp 3) 1) 0,
 LL 29 (.load 25 (.tmp 28)) 25,
 LL 30 (.move (.tmp 5)) 3,
 LL 31 (.indexAddr 25 (.tmp 29) (.tmp 30)) 0,
 LL 32 (.load 3 (.tmp 31)) 3,
 LL 33 (.binOp .geq 3 (.tmp 32) (.const (.int .i64 0)) 3) 4])
 (.cond (.tmp 33)
 (.rgn [] [LL 34 (.move (.tmp 7)) 9,
 LL 35 (.fieldAddr 95 (.tmp 3) 1) 0,
 LL 36 (.load 25 (.tmp 35)) 25,
 LL 37 (.move (.tmp 5)) 3,
 LL 38 (.indexAddr 25 (.tmp 36) (.tmp 37)) 0,
 LL 39 (.load 3 (.tmp 38)) 3,
 LL 40 (.call { callee := (.value (.func 187)), args := #[(.tmp 39)], argTypes := #[3] }) 9,
 LL 41 (.binOp .add 9 (.tmp 34) (.tmp 40) 9) 9,
 LL 7 (.assign (.tmp 41)) 9])
 .skip))
 (.rgn [42] [LL 42 (.move (.tmp 4)) 144,
 LL 43 (.move (.tmp 7)) 9,
 LL 44 (.buildSlice 144 1 #[(0, (.tmp 43))]) 144,
 LL 45 (.call { callee := (.builtin .append), args := #[(.tmp 42), (.tmp 44)], argTypes := #[144, 144] }) 144,
 LL 4 (.assign (.tmp 45)) 144])))))
 (.rgn [] [LL 46 (.binOp .add 3 (.tmp 19) (.const (.int .i64 1)) 3) 3,
 LL 19 (.move (.tmp 46)) 3])))))))
 (.seq (.rgn [] [LL 47 (.move (.tmp 4)) 144,
 LL 48 (.call { callee := (.value (.func 221)), args := #[(.tmp 47), (.const (.string { data := #[32] }))], argTypes := #[144, 9] }) 9,
 LL 2 (.assign (.tmp 48)) 9])
 .ret))))))
theorem lit146 : Lit Try.prog 146 49 [1, 3] [.tmp 2] c146 := ⟨⟨Try.f146, _, Try.func146, rfl, by kernel_rfl, rfl, rfl, by kernel_rfl, by kernel_rfl⟩, by decide, by kernel_rfl⟩
/-- impl.namesOf -/
def c147 : LC :=
  (.seq (.rgn [] [LL 2 (.assign (.const (.string { data := #[] }))) 9])
 (.seq (.rgn [] [LL 3 (.assign (.const (.string { data := #[] }))) 9])
 (.seq (.seq (.rgn [] [LL 6 (.move (.tmp 0)) 25,
 LL 7 (.call { callee := (.builtin .len), args := #[(.tmp 6)], argTypes := #[25] }) 3,
 LL 8 (.move (.const (.int .i64 0))) 3])
 (.blk 0
 (.loop []
 (.seq (.rgn [] [LL 9 (.binOp .lss 3 (.tmp 8) (.tmp 7) 3) 0])
 (.seq (.cond (.tmp 9)
 .skip
 (.exit 0))
 (.seq (.blk 1
 (.seq (.rgn [] [LL 10 (.indexAddr 25 (.tmp 6) (.tmp 8)) 0,
 LL 11 (.load 3 (.tmp 10)) 3,
 LL 5 (.assign (.tmp 11)) 3])
 (.rgn [] [LL 12 (.move (.tmp 3)) 9,
 LL 13 (.move (.tmp 5)) 3,
 LL 14 (.call { callee := (.value (.func 184)), args := #[(.tmp 13)], argTypes := #[3] }) 9,
 LL 15 (.binOp .add 9 (.tmp 12) (.tmp 14) 9) 9,
 LL 3 (.assign (.tmp 15)) 9])))
 (.rgn [] [LL 16 (.binOp .add 3 (.tmp 8) (.const (.int .i64 1)) 3) 3,
 LL 8 (.move (.tmp 16)) 3])))))))
 (.seq (.rgn [] [LL 17 (.move (.tmp 3)) 9,
 LL 2 (.assign (.tmp 17)) 9])
 .ret))))
theorem lit147 : Lit Try.prog 147 18 [] [.tmp 2] c147 := ⟨⟨Try.f147, _, Try.func147, rfl, by kernel_rfl, rfl, rfl, by kernel_rfl, by kernel_rfl⟩, by decide, by kernel_rfl⟩
/-- spec.ContainsVariable -/
def c157 : LC :=
  (.seq (.rgn [] [LL 2 (.box 195 (.tmp 0)) 0,
 LL 4 (.assign (.const (.bool false))) 4])
 (.seq (.seq (.rgn [] [LL 5 (.assign (.const (.int .i64 0))) 3])
 (.blk 0
 (.loop []
 (.seq (.seq (.rgn [] [LL 6 (.move (.tmp 5)) 3,
 LL 7 (.fieldAddr 195 (.tmp 2) 1) 0,
 LL 8 (.load 25 (.tmp 7)) 25,
 LL 9 (.call { callee := (.builtin .len), args := #[(.tmp 8)], argTypes := #[25] }) 3,
 LL 10 (.binOp .lss 3 (.tmp 6) (.tmp 9) 3) 4])
 (.cond (.tmp 10)
 .skip
 (.exit 0)))
 (.seq (.blk 1
 (.seq (.rgn [] [LL 13 (.fieldAddr 195 (.tmp 2) 1) 0,
 LL 14 (.load 25 (.tmp 13)) 25,
 LL 15 (.move (.tmp 5)) 3,
 LL 16 (.indexAddr 25 (.tmp 14) (.tmp 15)) 0,
 LL 17 (.load 3 (.tmp 16)) 3,
 LL 18 (.move (.tmp 1)) 3,
 LL 19 (.binOp .eql 3 (.tmp 17) (.tmp 18) 3) 4])
 (.cond (.tmp 19)
 (.seq (.rgn [] [LL 4 (.assign (.const (.bool true))) 4])
 .ret)
 .skip)))
 (.rgn [] [LL 11 (.move (.tmp 5)) 3,
 LL 12 (.binOp .add 3 (.tmp 11) (.const (.int .i64 1)) 3) 3,
 LL 5 (.assign (.tmp 12)) 3]))))))
 (.seq (.rgn [] [LL 4 (.assign (.const (.bool false))) 4])
 .ret)))
theorem lit157 : Lit Try.prog 157 20 [2] [.tmp 4] c157 := ⟨⟨Try.f157, _, Try.func157, rfl, by kernel_rfl, rfl, rfl, by kernel_rfl, by kernel_rfl⟩, by decide, by kernel_rfl⟩
/-- impl.common -/
def c161 : LC :=
  (.seq (.rgn [] [LL 4 (.assign (.const (.slice none 0 0))) 25])
 (.seq (.rgn [] [LL 5 (.assign (.const (.slice none 0 0))) 25])
 (.seq (.seq (.rgn [] [LL 8 (.move (.tmp 0)) 25,
 LL 9 (.call { callee := (.builtin .len), args := #[(.tmp 8)], argTypes := #[25] }) 3,
 LL 10 (.move (.const (.int .i64 0))) 3])
 (.blk 0
 (.loop []
 (.seq (.rgn [] [LL 11 (.binOp .lss 3 (.tmp 10) (.tmp 9) 3) 0])
 (.seq (.cond (.tmp 11)
 .skip
 (.exit 0))
 (.seq (.blk 1
 (.seq (.rgn [] [LL 12 (.indexAddr 25 (.tmp 8) (.tmp 10)) 0,
 LL 13 (.load 3 (.tmp 12)) 3,
 LL 7 (.assign (.tmp 13)) 3])
 (.seq (.rgn [] [LL 14 (.move (.tmp 1)) 25,
 LL 15 (.move (.tmp 7)) 3,
 LL 16 (.call { callee := (.value (.func 230)), args := #[(.tmp 14), (.tmp 15)], argTypes := #[25, 3] }) 4])
 (.cond (.tmp 16)
 (.rgn [17] [LL 17 (.move (.tmp 5)) 25,
 LL 18 (.move (.tmp 7)) 3,
 LL 19 (.buildSlice 25 1 #[(0, (.tmp 18))]) 25,
 LL 20 (.call { callee := (.builtin .append), args := #[(.tmp 17), (.tmp 19)], argTypes := #[25, 25] }) 25,
 LL 5 (.assign (.tmp 20)) 25])
 .skip))))
 (.rgn [] [LL 21 (.binOp .add 3 (.tmp 10) (.const (.int .i64 1)) 3) 3,
 LL 10 (.move (.tmp 21)) 3])))))))
 (.seq (.rgn [22] [LL 22 (.move (.tmp 5)) 25,
 LL 4 (.assign (.tmp 22)) 25])
 .ret))))
theorem lit161 : Lit Try.prog 161 23 [] [.tmp 4] c161 := ⟨⟨Try.f161, _, Try.func161, rfl, by kernel_rfl, rfl, rfl, by kernel_rfl, by kernel_rfl⟩, by decide, by kernel_rfl⟩
/-- impl.AtomVariables -/
def c162 : LC :=
  (.seq (.rgn [] [LL 1 (.box 195 (.tmp 0)) 0,
 LL 2 (.assign (.const (.slice none 0 0))) 25])
 (.seq (.rgn [] [LL 3 (.assign (.const (.slice none 0 0))) 25])
 (.seq (.seq (.rgn [] [LL 4 (.assign (.const (.int .i64 0))) 3])
 (.blk 0
 (.loop []
 (.seq (.seq (.rgn [] [LL 5 (.move (.tmp 4)) 3,
 LL 6 (.binOp .lss 3 (.tmp 5) (.const (.int .i64 5)) 3) 4])
 (.cond (.tmp 6)
 .skip
 (.exit 0)))
 (.seq (.blk 1
 (.seq (.rgn [] [LL 9 (.load 195 (.tmp 1)) 195,
 LL 10 (.move (.tmp 4)) 3,
 LL 11 (.call { callee := (.value (.func 229)), args := #[(.tmp 9), (.tmp 10)], argTypes := #[195, 3] }) 4])
 (.cond (.tmp 11)
 (.rgn [12] [LL 12 (.move (.tmp 3)) 25,
 LL 13 (.move (.tmp 4)) 3,
 LL 14 (.buildSlice 25 1 #[(0, (.tmp 13))]) 25,
 LL 15 (.call { callee := (.builtin .append), args := #[(.tmp 12), (.tmp 14)], argTypes := #[25, 25] }) 25,
 LL 3 (.assign (.tmp 15)) 25])
 .skip)))
 (.rgn [] [LL 7 (.move (.tmp 4)) 3,
 LL 8 (.binOp .add 3 (.tmp 7) (.const (.int .i64 1)) 3) 3,
 LL 4 (.assign (.tmp 8)) 3]))))))
 (.seq (.rgn [16] [LL 16 (.move (.tmp 3)) 25,
 LL 2 (.assign (.tmp 16)) 25])
 .ret))))
theorem lit162 : Lit Try.prog 162 17 [1] [.tmp 2] c162 := ⟨⟨Try.f162, _, Try.func162, rfl, by kernel_rfl, rfl, rfl, by kernel_rfl, by kernel_rfl⟩, by decide, by kernel_rfl⟩
/-- impl.IsStrictlyAscending -/
def c174 : LC :=
  (.seq (.rgn [] [LL 2 (.assign (.const (.bool false))) 4])
 (.seq (.seq (.rgn [] [LL 3 (.assign (.const (.int .i64 1))) 3])
 (.blk 0
 (.loop []
 (.seq (.seq (.rgn [] [LL 4 (.move (.tmp 3)) 3,
 LL 5 (.move (.tmp 0)) 25,
 LL 6 (.call { callee := (.builtin .len), args := #[(.tmp 5)], argTypes := #[25] }) 3,
 LL 7 (.binOp .lss 3 (.tmp 4) (.tmp 6) 3) 4])
 (.cond (.tmp 7)
 .skip
 (.exit 0)))
 (.seq (.blk 1
 (.seq (.drw [] [([0], [10]), ([3], [11]), ([11], [12]), ([10, 12], [13]), ([13], [14]), ([0], [15]), ([3], [16]), ([15, 16], [17]), ([17], [18]), ([14, 18], [19])] [[], [], [1], [0, 2], [3], [], [], [5, 6], [7], [4, 8]] [LL 10 (.move (.tmp 0)) 25,
 LL 11 (.move (.tmp 3)) 3,
 LL 12 (.binOp .sub 3 (.tmp 11) (.const (.int .i64 1)) 3) 3,
 LL 13 (.indexAddr 25 (.tmp 10) (.tmp 12)) 0,
 LL 14 (.load 3 (.tmp 13)) 3,
 LL 15 (.move (.tmp 0)) 25,
 LL 16 (.move (.tmp 3)) 3,
 LL 17 (.indexAddr 25 (.tmp 15) (.tmp 16)) 0,
 LL 18 (.load 3 (.tmp 17)) 3,
 LL 19 (.binOp .geq 3 (.tmp 14) (.tmp 18) 3) 4])
 (.cond (.tmp 19)
 (.seq (.rgn [] [LL 2 (.assign (.const (.bool false))) 4])
 .ret)
 .skip)))
 (.rgn [] [LL 8 (.move (.tmp 3)) 3,
 LL 9 (.binOp .add 3 (.tmp 8) (.const (.int .i64 1)) 3) 3,
 LL 3 (.assign (.tmp 9)) 3]))))))
 (.seq (.rgn [] [LL 2 (.assign (.const (.bool true))) 4])
 .ret)))
theorem lit174 : Lit Try.prog 174 20 [] [.tmp 2] c174 := ⟨⟨Try.f174, _, Try.func174, rfl, by kernel_rfl, rfl, rfl, by kernel_rfl, by kernel_rfl⟩, by decide, by kernel_rfl⟩
/-- spec.VariableName -/
def c180 : LC :=
  (.seq (.rgn [] [LL 2 (.assign (.const (.string { data := #[] }))) 9])
 (.seq (.seq (.rgn [] [LL 3 (.move (.tmp 0)) 3,
 LL 4 (.call { callee := (.value (.func 86)), args := #[(.tmp 3), (.const (.int .i64 0)), (.const (.int .i64 4))], argTypes := #[3, 3, 3] }) 4,
 LL 5 (.unOp .not 4 (.tmp 4)) 4])
 (.cond (.tmp 5)
 (.seq (.rgn [] [LL 2 (.assign (.const (.string { data := #[] }))) 9])
 .ret)
 .skip))
 (.seq (.rgn [] [LL 6 (.move (.tmp 0)) 3,
 LL 7 (.move (.tmp 0)) 3,
 LL 8 (.binOp .add 3 (.tmp 7) (.const (.int .i64 1)) 3) 3,
 LL 9 (.slice 9 (.const (.string { data := #[88, 89, 90, 85, 86] })) (some (.tmp 6)) (some (.tmp 8)) none) 9,
 LL 2 (.assign (.tmp 9)) 9])
 .ret)))
theorem lit180 : Lit Try.prog 180 10 [] [.tmp 2] c180 := ⟨⟨Try.f180, _, Try.func180, rfl, by kernel_rfl, rfl, rfl, by kernel_rfl, by kernel_rfl⟩, by decide, by kernel_rfl⟩
/-- spec.l2Dec -/
def c183 : LC :=
  (.seq (.rgn [] [LL 2 (.assign (.const (.string { data := #[] }))) 9])
 (.seq (.seq (.rgn [] [LL 3 (.move (.tmp 0)) 3,
 LL 4 (.binOp .leq 3 (.tmp 3) (.const (.int .i64 (-10))) 3) 4])
 (.cond (.tmp 4)
 (.seq (.rgn [] [LL 5 (.move (.tmp 0)) 3,
 LL 6 (.binOp .quo 3 (.tmp 5) (.const (.int .i64 10)) 3) 3,
 LL 7 (.unOp .neg 3 (.tmp 6)) 3,
 LL 8 (.call { callee := (.value (.func 183)), args := #[(.tmp 7)], argTypes := #[3] }) 9,
 LL 9 (.binOp .add 9 (.const (.string { data := #[45] })) (.tmp 8) 9) 9,
 LL 10 (.move (.tmp 0)) 3,
 LL 11 (.binOp .rem 3 (.tmp 10) (.const (.int .i64 10)) 3) 3,
 LL 12 (.unOp .neg 3 (.tmp 11)) 3,
 LL 13 (.call { callee := (.value (.func 183)), args := #[(.tmp 12)], argTypes := #[3] }) 9,
 LL 14 (.binOp .add 9 (.tmp 9) (.tmp 13) 9) 9,
 LL 2 (.assign (.tmp 14)) 9])
 .ret)
 .skip))
 (.seq (.seq (.rgn [] [LL 15 (.move (.tmp 0)) 3,
 LL 16 (.binOp .lss 3 (.tmp 15) (.const (.int .i64 0)) 3) 4])
 (.cond (.tmp 16)
 (.seq (.rgn [] [LL 17 (.move (.tmp 0)) 3,
 LL 18 (.unOp .neg 3 (.tmp 17)) 3,
 LL 19 (.call { callee := (.value (.func 183)), args := #[(.tmp 18)], argTypes := #[3] }) 9,
 LL 20 (.binOp .add 9 (.const (.string { data := #[45] })) (.tmp 19) 9) 9,
 LL 2 (.assign (.tmp 20)) 9])
 .ret)
 .skip))
 (.seq (.seq (.rgn [] [LL 21 (.move (.tmp 0)) 3,
 LL 22 (.binOp .lss 3 (.tmp 21) (.const (.int .i64 10)) 3) 4])
 (.cond (.tmp 22)
 (.seq (.rgn [] [LL 23 (.move (.tmp 0)) 3,
 LL 24 (.binOp .add 3 (.const (.int .i64 48)) (.tmp 23) 3) 3,
 LL 25 (.convert 3 5 (.tmp 24)) 5,
 LL 26 (.buildSlice 254 1 #[(0, (.tmp 25))]) 254,
 LL 27 (.convert 254 9 (.tmp 26)) 9,
 LL 2 (.assign (.tmp 27)) 9])
 .ret)
 .skip))
 (.seq (.drw [] [([0], [28]), ([28], [29]), ([29], [30]), ([0], [31]), ([31], [32]), ([32], [33]), ([33], [34]), ([34], [34, 35]), ([35], [36]), ([30, 36], [37]), ([37], [2, 37])] [[], [0], [1], [], [3], [4], [5], [6], [7], [2, 8], [9, 2, 0, 1, 2, 3, 4, 5, 6, 7, 8, 9]] [LL 28 (.move (.tmp 0)) 3,
 LL 29 (.binOp .quo 3 (.tmp 28) (.const (.int .i64 10)) 3) 3,
 LL 30 (.call { callee := (.value (.func 183)), args := #[(.tmp 29)], argTypes := #[3] }) 9,
 LL 31 (.move (.tmp 0)) 3,
 LL 32 (.binOp .rem 3 (.tmp 31) (.const (.int .i64 10)) 3) 3,
 LL 33 (.binOp .add 3 (.const (.int .i64 48)) (.tmp 32) 3) 3,
 LL 34 (.convert 3 5 (.tmp 33)) 5,
 LL 35 (.buildSlice 254 1 #[(0, (.tmp 34))]) 254,
 LL 36 (.convert 254 9 (.tmp 35)) 9,
 LL 37 (.binOp .add 9 (.tmp 30) (.tmp 36) 9) 9,
 LL 2 (.assign (.tmp 37)) 9])
 .ret)))))
theorem lit183 : Lit Try.prog 183 38 [] [.tmp 2] c183 := ⟨⟨Try.f183, _, Try.func183, rfl, by kernel_rfl, rfl, rfl, by kernel_rfl, by kernel_rfl⟩, by decide, by kernel_rfl⟩
/-- impl.VariableName -/
def c184 : LC :=
  (.seq (.rgn [] [LL 2 (.assign (.const (.string { data := #[] }))) 9])
 (.seq (.seq (.rgn [] [LL 3 (.move (.tmp 0)) 3,
 LL 4 (.call { callee := (.value (.func 90)), args := #[(.tmp 3), (.const (.int .i64 0)), (.const (.int .i64 4))], argTypes := #[3, 3, 3] }) 4,
 LL 5 (.unOp .not 4 (.tmp 4)) 4])
 (.cond (.tmp 5)
 (.seq (.rgn [] [LL 2 (.assign (.const (.string { data := #[] }))) 9])
 .ret)
 .skip))
 (.seq (.rgn [] [LL 6 (.move (.tmp 0)) 3,
 LL 7 (.move (.tmp 0)) 3,
 LL 8 (.binOp .add 3 (.tmp 7) (.const (.int .i64 1)) 3) 3,
 LL 9 (.slice 9 (.const (.string { data := #[88, 89, 90, 85, 86] })) (some (.tmp 6)) (some (.tmp 8)) none) 9,
 LL 2 (.assign (.tmp 9)) 9])
 .ret)))
theorem lit184 : Lit Try.prog 184 10 [] [.tmp 2] c184 := ⟨⟨Try.f184, _, Try.func184, rfl, by kernel_rfl, rfl, rfl, by kernel_rfl, by kernel_rfl⟩, by decide, by kernel_rfl⟩
/-- impl.FormatInt -/
def c187 : LC :=
  (.seq (.rgn [] [LL 2 (.assign (.const (.string { data := #[] }))) 9])
 (.seq (.rgn [] [LL 3 (.assign (.const (.slice none 0 0))) 254])
 (.seq (.rgn [] [LL 6 (.move (.tmp 0)) 3,
 LL 7 (.binOp .lss 3 (.tmp 6) (.const (.int .i64 0)) 3) 4,
 LL 4 (.assign (.tmp 7)) 4])
 (.seq (.blk 0
 (.loop []
 (.blk 1
 (.seq (.rgn [] [LL 8 (.move (.tmp 0)) 3,
 LL 9 (.binOp .rem 3 (.tmp 8) (.const (.int .i64 10)) 3) 3,
 LL 5 (.assign (.tmp 9)) 3])
 (.seq (.seq (.rgn [] [LL 10 (.move (.tmp 5)) 3,
 LL 11 (.binOp .lss 3 (.tmp 10) (.const (.int .i64 0)) 3) 4])
 (.cond (.tmp 11)
 (.rgn [] [LL 12 (.move (.tmp 5)) 3,
 LL 13 (.unOp .neg 3 (.tmp 12)) 3,
 LL 5 (.assign (.tmp 13)) 3])
 .skip))
 (.seq (.rgn [18] [LL 14 (.move (.tmp 5)) 3,
 LL 15 (.binOp .add 3 (.const (.int .i64 48)) (.tmp 14) 3) 3,
 LL 16 (.convert 3 5 (.tmp 15)) 5,
 LL 17 (.buildSlice 254 1 #[(0, (.tmp 16))]) 254,
 LL 18 (.move (.tmp 3)) 254,
 LL 19 (.call { callee := (.builtin .append), args := #[(.tmp 17), (.tmp 18)], argTypes := #[254, 254] }) 254,
 LL 3 (.assign (.tmp 19)) 254])
 (.seq (.rgn [] [LL 20 (.move (.tmp 0)) 3,
 LL 21 (.binOp .quo 3 (.tmp 20) (.const (.int .i64 10)) 3) 3,
 LL 0 (.assign (.tmp 21)) 3])
 (.seq (.rgn [] [LL 22 (.move (.tmp 0)) 3,
 LL 23 (.binOp .eql 3 (.tmp 22) (.const (.int .i64 0)) 3) 4])
 (.cond (.tmp 23)
 (.exit 0)
 .skip)))))))))
 (.seq (.seq (.rgn [] [LL 24 (.move (.tmp 4)) 4])
 (.cond (.tmp 24)
 (.seq (.rgn [] [LL 25 (.move (.tmp 3)) 254,
 LL 26 (.convert 254 9 (.tmp 25)) 9,
 LL 27 (.binOp .add 9 (.const (.string { data := #[45] })) (.tmp 26) 9) 9,
 LL 2 (.assign (.tmp 27)) 9])
 .ret)
 .skip))
 (.seq (.rgn [] [LL 28 (.move (.tmp 3)) 254,
 LL 29 (.convert 254 9 (.tmp 28)) 9,
 LL 2 (.assign (.tmp 29)) 9])
 .ret))))))
theorem lit187 : Lit Try.prog 187 30 [] [.tmp 2] c187 := ⟨⟨Try.f187, _, Try.func187, rfl, by kernel_rfl, rfl, rfl, by kernel_rfl, by kernel_rfl⟩, by decide, by kernel_rfl⟩
/-- laws.szAtom -/
def c198 : LC :=
  (.seq (.rgn [] [LL 2 (.box 231 (.tmp 0)) 0,
 LL 4 (.assign (.const (.int .i64 0))) 3])
 (.seq (.rgn [] [LL 5 (.move (.tmp 1)) 3,
 LL 6 (.fieldAddr 231 (.tmp 2) 0) 0,
 LL 7 (.load 9 (.tmp 6)) 9,
 LL 8 (.call { callee := (.builtin .len), args := #[(.tmp 7)], argTypes := #[9] }) 3,
 LL 9 (.binOp .sub 3 (.tmp 5) (.tmp 8) 3) 3,
 LL 1 (.assign (.tmp 9)) 3])
 (.seq (.seq (.rgn [] [LL 10 (.move (.tmp 1)) 3,
 LL 11 (.binOp .lss 3 (.tmp 10) (.const (.int .i64 0)) 3) 4])
 (.cond (.tmp 11)
 (.seq (.rgn [] [LL 4 (.assign (.const (.int .i64 (-1)))) 3])
 .ret)
 .skip))
 (.seq (.rgn [] [LL 12 (.fieldAddr 231 (.tmp 2) 1) 0,
 LL 13 (.load 25 (.tmp 12)) 25,
 LL 14 (.move (.tmp 1)) 3,
 LL 15 (.call { callee := (.value (.func 72)), args := #[(.tmp 13), (.tmp 14)], argTypes := #[25, 3] }) 3,
 LL 1 (.assign (.tmp 15)) 3])
 (.seq (.seq (.rgn [] [LL 16 (.move (.tmp 1)) 3,
 LL 17 (.binOp .lss 3 (.tmp 16) (.const (.int .i64 0)) 3) 4])
 (.cond (.tmp 17)
 (.seq (.rgn [] [LL 4 (.assign (.const (.int .i64 (-1)))) 3])
 .ret)
 .skip))
 (.seq (.rgn [] [LL 18 (.move (.tmp 1)) 3,
 LL 4 (.assign (.tmp 18)) 3])
 .ret))))))
theorem lit198 : Lit Try.prog 198 19 [2] [.tmp 4] c198 := ⟨⟨Try.f198, _, Try.func198, rfl, by kernel_rfl, rfl, rfl, by kernel_rfl, by kernel_rfl⟩, by decide, by kernel_rfl⟩
/-- laws.szIntSS -/
def c199 : LC :=
  (.seq (.rgn [] [LL 4 (.assign (.const (.int .i64 0))) 3])
 (.seq (.rgn [] [LL 6 (.move (.tmp 1)) 3,
 LL 7 (.move (.tmp 0)) 82,
 LL 8 (.call { callee := (.builtin .len), args := #[(.tmp 7)], argTypes := #[82] }) 3,
 LL 9 (.binOp .sub 3 (.tmp 6) (.tmp 8) 3) 3,
 LL 1 (.assign (.tmp 9)) 3])
 (.seq (.seq (.rgn [] [LL 10 (.move (.tmp 1)) 3,
 LL 11 (.binOp .lss 3 (.tmp 10) (.const (.int .i64 0)) 3) 4])
 (.cond (.tmp 11)
 (.seq (.rgn [] [LL 4 (.assign (.const (.int .i64 (-1)))) 3])
 .ret)
 .skip))
 (.seq (.seq (.rgn [] [LL 5 (.assign (.const (.int .i64 0))) 3])
 (.blk 0
 (.loop []
 (.seq (.seq (.rgn [] [LL 12 (.move (.tmp 5)) 3,
 LL 13 (.move (.tmp 0)) 82,
 LL 14 (.call { callee := (.builtin .len), args := #[(.tmp 13)], argTypes := #[82] }) 3,
 LL 15 (.binOp .lss 3 (.tmp 12) (.tmp 14) 3) 4])
 (.cond (.tmp 15)
 .skip
 (.exit 0)))
 (.seq (.blk 1
 (.seq (.rgn [] [LL 18 (.move (.tmp 0)) 82,
 LL 19 (.move (.tmp 5)) 3,
 LL 20 (.indexAddr 82 (.tmp 18) (.tmp 19)) 0,
 LL 21 (.load 25 (.tmp 20)) 25,
 LL 22 (.move (.tmp 1)) 3,
 LL 23 (.call { callee := (.value (.func 72)), args := #[(.tmp 21), (.tmp 22)], argTypes := #[25, 3] }) 3,
 LL 1 (.assign (.tmp 23)) 3])
 (.seq (.rgn [] [LL 24 (.move (.tmp 1)) 3,
 LL 25 (.binOp .lss 3 (.tmp 24) (.const (.int .i64 0)) 3) 4])
 (.cond (.tmp 25)
 (.seq (.rgn [] [LL 4 (.assign (.const (.int .i64 (-1)))) 3])
 .ret)
 .skip))))
 (.rgn [] [LL 16 (.move (.tmp 5)) 3,
 LL 17 (.binOp .add 3 (.tmp 16) (.const (.int .i64 1)) 3) 3,
 LL 5 (.assign (.tmp 17)) 3]))))))
 (.seq (.rgn [] [LL 26 (.move (.tmp 1)) 3,
 LL 4 (.assign (.tmp 26)) 3])
 .ret)))))
theorem lit199 : Lit Try.prog 199 27 [] [.tmp 4] c199 := ⟨⟨Try.f199, _, Try.func199, rfl, by kernel_rfl, rfl, rfl, by kernel_rfl, by kernel_rfl⟩, by decide, by kernel_rfl⟩
/-- spec.IsValidQuery -/
def c200 : LC :=
  (.seq (.rgn [] [LL 1 (.box 92 (.tmp 0)) 0,
 LL 2 (.assign (.const (.bool false))) 4])
 (.seq (.seq (.rgn [] [LL 9 (.fieldAddr 92 (.tmp 1) 0) 0,
 LL 10 (.load 3 (.tmp 9)) 3,
 LL 11 (.call { callee := (.value (.func 86)), args := #[(.tmp 10), (.const (.int .i64 1)), (.const (.int .i64 5))], argTypes := #[3, 3, 3] }) 4,
 LL 12 (.unOp .not 4 (.tmp 11)) 4,
 LL 13 (.move (.tmp 12)) 4,
 ⟨some 14, (.fieldAddr 92 (.tmp 1) 1), 0, some (some 13, false)⟩,
 ⟨some 15, (.load 90 (.tmp 14)), 90, some (some 13, false)⟩,
 ⟨some 16, (.call { callee := (.builtin .len), args := #[(.tmp 15)], argTypes := #[90] }), 3, some (some 13, false)⟩,
 ⟨some 17, (.call { callee := (.value (.func 86)), args := #[(.tmp 16), (.const (.int .i64 1)), (.const (.int .i64 4))], argTypes := #[3, 3, 3] }), 4, some (some 13, false)⟩,
 ⟨some 18, (.unOp .not 4 (.tmp 17)), 4, some (some 13, false)⟩,
 LL 19 (.pick (.tmp 13) (.const (.bool true)) (.tmp 18)) 4,
 LL 20 (.move (.tmp 19)) 4,
 ⟨some 21, (.fieldAddr 92 (.tmp 1) 2), 0, some (some 20, false)⟩,
 ⟨some 22, (.load 25 (.tmp 21)), 25, some (some 20, false)⟩,
 ⟨some 23, (.call { callee := (.builtin .len), args := #[(.tmp 22)], argTypes := #[25] }), 3, some (some 20, false)⟩,
 ⟨some 24, (.fieldAddr 92 (.tmp 1) 0), 0, some (some 20, false)⟩,
 ⟨some 25, (.load 3 (.tmp 24)), 3, some (some 20, false)⟩,
 ⟨some 26, (.binOp .gtr 3 (.tmp 23) (.tmp 25) 3), 4, some (some 20, false)⟩,
 LL 27 (.pick (.tmp 20) (.const (.bool true)) (.tmp 26)) 4])
 (.cond (.tmp 27)
 (.seq (.rgn [] [LL 2 (.assign (.const (.bool false))) 4])
 .ret)
 .skip))
 (.seq (.seq (.rgn [] [LL 3 (.assign (.const (.int .i64 0))) 3])
 (.blk 0
 (.loop []
 (.seq (.seq (.rgn [] [LL 28 (.move (.tmp 3)) 3,
 LL 29 (.fieldAddr 92 (.tmp 1) 1) 0,
 LL 30 (.load 90 (.tmp 29)) 90,
 LL 31 (.call { callee := (.builtin .len), args := #[(.tmp 30)], argTypes := #[90] }) 3,
 LL 32 (.binOp .lss 3 (.tmp 28) (.tmp 31) 3) 4])
 (.cond (.tmp 32)
 .skip
 (.exit 0)))
 (.seq (.blk 1
 (.seq (.seq (.rgn [] [LL 35 (.fieldAddr 92 (.tmp 1) 1) 0,
 LL 36 (.load 90 (.tmp 35)) 90,
 LL 37 (.move (.tmp 3)) 3,
 LL 38 (.indexAddr 90 (.tmp 36) (.tmp 37)) 0,
 LL 39 (.fieldAddr 195 (.tmp 38) 0) 0,
 LL 40 (.load 9 (.tmp 39)) 9,
 LL 41 (.call { callee := (.value (.func 216)), args := #[(.tmp 40)], argTypes := #[9] }) 4,
 LL 42 (.unOp .not 4 (.tmp 41)) 4,
 LL 43 (.move (.tmp 42)) 4,
 ⟨some 44, (.fieldAddr 92 (.tmp 1) 1), 0, some (some 43, false)⟩,
 ⟨some 45, (.load 90 (.tmp 44)), 90, some (some 43, false)⟩,
 ⟨some 46, (.move (.tmp 3)), 3, some (some 43, false)⟩,
 ⟨some 47, (.indexAddr 90 (.tmp 45) (.tmp 46)), 0, some (some 43, false)⟩,
 ⟨some 48, (.fieldAddr 195 (.tmp 47) 1), 0, some (some 43, false)⟩,
 ⟨some 49, (.load 25 (.tmp 48)), 25, some (some 43, false)⟩,
 ⟨some 50, (.call { callee := (.builtin .len), args := #[(.tmp 49)], argTypes := #[25] }), 3, some (some 43, false)⟩,
 ⟨some 51, (.call { callee := (.value (.func 86)), args := #[(.tmp 50), (.const (.int .i64 1)), (.const (.int .i64 5))], argTypes := #[3, 3, 3] }), 4, some (some 43, false)⟩,
 ⟨some 52, (.unOp .not 4 (.tmp 51)), 4, some (some 43, false)⟩,
 LL 53 (.pick (.tmp 43) (.const (.bool true)) (.tmp 52)) 4])
 (.cond (.tmp 53)
 (.seq (.rgn [] [LL 2 (.assign (.const (.bool false))) 4])
 .ret)
 .skip))
 (.seq (.rgn [] [LL 4 (.assign (.const (.int .i64 0))) 3])
 (.blk 2
 (.loop []
 (.seq (.seq (.rgn [] [LL 54 (.move (.tmp 4)) 3,
 LL 55 (.fieldAddr 92 (.tmp 1) 1) 0,
 LL 56 (.load 90 (.tmp 55)) 90,
 LL 57 (.move (.tmp 3)) 3,
 LL 58 (.indexAddr 90 (.tmp 56) (.tmp 57)) 0,
 LL 59 (.fieldAddr 195 (.tmp 58) 1) 0,
 LL 60 (.load 25 (.tmp 59)) 25,
 LL 61 (.call { callee := (.builtin .len), args := #[(.tmp 60)], argTypes := #[25] }) 3,
 LL 62 (.binOp .lss 3 (.tmp 54) (.tmp 61) 3) 4])
 (.cond (.tmp 62)
 .skip
 (.exit 2)))
 (.seq (.blk 3
 (.seq (.drw [] [([1], [65]), ([1, 65], [66]), ([3], [67]), ([66, 67], [68]), ([68], [69]), ([69], [70]), ([4], [71]), ([70, 71], [72]), ([72], [73]), ([1], [74]), ([1, 74], [75]), ([75], [76]), ([73, 76], [77]), ([77], [78])] [[], [0], [], [1, 2], [3], [4], [], [5, 6], [7], [], [9], [10], [8, 11], [12]] [LL 65 (.fieldAddr 92 (.tmp 1) 1) 0,
 LL 66 (.load 90 (.tmp 65)) 90,
 LL 67 (.move (.tmp 3)) 3,
 LL 68 (.indexAddr 90 (.tmp 66) (.tmp 67)) 0,
 LL 69 (.fieldAddr 195 (.tmp 68) 1) 0,
 LL 70 (.load 25 (.tmp 69)) 25,
 LL 71 (.move (.tmp 4)) 3,
 LL 72 (.indexAddr 25 (.tmp 70) (.tmp 71)) 0,
 LL 73 (.load 3 (.tmp 72)) 3,
 LL 74 (.fieldAddr 92 (.tmp 1) 0) 0,
 LL 75 (.load 3 (.tmp 74)) 3,
 LL 76 (.binOp .sub 3 (.tmp 75) (.const (.int .i64 1)) 3) 3,
 LL 77 (.call { callee := (.value (.func 86)), args := #[(.tmp 73), (.const (.int .i64 0)), (.tmp 76)], argTypes := #[3, 3, 3] }) 4,
 LL 78 (.unOp .not 4 (.tmp 77)) 4])
 (.cond (.tmp 78)
 (.seq (.rgn [] [LL 2 (.assign (.const (.bool false))) 4])
 .ret)
 .skip)))
 (.rgn [] [LL 63 (.move (.tmp 4)) 3,
 LL 64 (.binOp .add 3 (.tmp 63) (.const (.int .i64 1)) 3) 3,
 LL 4 (.assign (.tmp 64)) 3]))))))))
 (.rgn [] [LL 33 (.move (.tmp 3)) 3,
 LL 34 (.binOp .add 3 (.tmp 33) (.const (.int .i64 1)) 3) 3,
 LL 3 (.assign (.tmp 34)) 3]))))))
 (.seq (.seq (.rgn [] [LL 5 (.assign (.const (.int .i64 0))) 3])
 (.blk 4
 (.loop []
 (.seq (.seq (.rgn [] [LL 79 (.move (.tmp 5)) 3,
 LL 80 (.fieldAddr 92 (.tmp 1) 0) 0,
 LL 81 (.load 3 (.tmp 80)) 3,
 LL 82 (.binOp .lss 3 (.tmp 79) (.tmp 81) 3) 4])
 (.cond (.tmp 82)
 .skip
 (.exit 4)))
 (.seq (.blk 5
 (.seq (.rgn [] [LL 6 (.assign (.const (.bool false))) 4])
 (.seq (.seq (.rgn [] [LL 7 (.assign (.const (.int .i64 0))) 3])
 (.blk 6
 (.loop []
 (.seq (.seq (.rgn [] [LL 85 (.move (.tmp 7)) 3,
 LL 86 (.fieldAddr 92 (.tmp 1) 1) 0,
 LL 87 (.load 90 (.tmp 86)) 90,
 LL 88 (.call { callee := (.builtin .len), args := #[(.tmp 87)], argTypes := #[90] }) 3,
 LL 89 (.binOp .lss 3 (.tmp 85) (.tmp 88) 3) 4])
 (.cond (.tmp 89)
 .skip
 (.exit 6)))
 (.seq (.blk 7
 (.rgn [] [LL 92 (.move (.tmp 6)) 4,
 LL 93 (.move (.tmp 92)) 4,
 ⟨some 94, (.fieldAddr 92 (.tmp 1) 1), 0, some (some 93, false)⟩,
 ⟨some 95, (.load 90 (.tmp 94)), 90, some (some 93, false)⟩,
 ⟨some 96, (.move (.tmp 7)), 3, some (some 93, false)⟩,
 ⟨some 97, (.indexAddr 90 (.tmp 95) (.tmp 96)), 0, some (some 93, false)⟩,
 ⟨some 98, (.load 195 (.tmp 97)), 195, some (some 93, false)⟩,
 ⟨some 99, (.move (.tmp 5)), 3, some (some 93, false)⟩,
 ⟨some 100, (.call { callee := (.value (.func 157)), args := #[(.tmp 98), (.tmp 99)], argTypes := #[195, 3] }), 4, some (some 93, false)⟩,
 LL 101 (.pick (.tmp 93) (.const (.bool true)) (.tmp 100)) 4,
 LL 6 (.assign (.tmp 101)) 4]))
 (.rgn [] [LL 90 (.move (.tmp 7)) 3,
 LL 91 (.binOp .add 3 (.tmp 90) (.const (.int .i64 1)) 3) 3,
 LL 7 (.assign (.tmp 91)) 3]))))))
 (.seq (.rgn [] [LL 102 (.move (.tmp 6)) 4,
 LL 103 (.unOp .not 4 (.tmp 102)) 4])
 (.cond (.tmp 103)
 (.seq (.rgn [] [LL 2 (.assign (.const (.bool false))) 4])
 .ret)
 .skip)))))
 (.rgn [] [LL 83 (.move (.tmp 5)) 3,
 LL 84 (.binOp .add 3 (.tmp 83) (.const (.int .i64 1)) 3) 3,
 LL 5 (.assign (.tmp 84)) 3]))))))
 (.seq (.seq (.rgn [] [LL 8 (.assign (.const (.int .i64 0))) 3])
 (.blk 8
 (.loop []
 (.seq (.seq (.rgn [] [LL 104 (.move (.tmp 8)) 3,
 LL 105 (.fieldAddr 92 (.tmp 1) 2) 0,
 LL 106 (.load 25 (.tmp 105)) 25,
 LL 107 (.call { callee := (.builtin .len), args := #[(.tmp 106)], argTypes := #[25] }) 3,
 LL 108 (.binOp .lss 3 (.tmp 104) (.tmp 107) 3) 4])
 (.cond (.tmp 108)
 .skip
 (.exit 8)))
 (.seq (.blk 9
 (.seq (.drw [] [([1], [111]), ([1, 111], [112]), ([8], [113]), ([112, 113], [114]), ([114], [115]), ([1], [116]), ([1, 116], [117]), ([117], [118]), ([115, 118], [119]), ([119], [120]), ([120], [121]), ([1, 121], [122]), ([1, 121, 122], [123]), ([8, 121], [124]), ([121, 123, 124], [125]), ([1, 121], [126]), ([1, 121, 126], [127]), ([8, 121], [128]), ([121, 127, 128], [129]), ([121, 129], [130]), ([121, 125, 130], [131]), ([121, 131], [132]), ([121, 132], [133])] [[], [0], [], [1, 2], [3], [], [5], [6], [4, 7], [8], [9, 8], [10], [11, 10], [10], [12, 13, 10], [10], [15, 10], [10], [16, 17, 10], [18, 10], [14, 19, 10, 10], [20, 10], [10, 21]] [LL 111 (.fieldAddr 92 (.tmp 1) 2) 0,
 LL 112 (.load 25 (.tmp 111)) 25,
 LL 113 (.move (.tmp 8)) 3,
 LL 114 (.indexAddr 25 (.tmp 112) (.tmp 113)) 0,
 LL 115 (.load 3 (.tmp 114)) 3,
 LL 116 (.fieldAddr 92 (.tmp 1) 0) 0,
 LL 117 (.load 3 (.tmp 116)) 3,
 LL 118 (.binOp .sub 3 (.tmp 117) (.const (.int .i64 1)) 3) 3,
 LL 119 (.call { callee := (.value (.func 86)), args := #[(.tmp 115), (.const (.int .i64 0)), (.tmp 118)], argTypes := #[3, 3, 3] }) 4,
 LL 120 (.unOp .not 4 (.tmp 119)) 4,
 LL 121 (.move (.tmp 120)) 4,
 ⟨some 122, (.fieldAddr 92 (.tmp 1) 2), 0, some (some 121, false)⟩,
 ⟨some 123, (.load 25 (.tmp 122)), 25, some (some 121, false)⟩,
 ⟨some 124, (.move (.tmp 8)), 3, some (some 121, false)⟩,
 ⟨some 125, (.slice 25 (.tmp 123) none (some (.tmp 124)) none), 25, some (some 121, false)⟩,
 ⟨some 126, (.fieldAddr 92 (.tmp 1) 2), 0, some (some 121, false)⟩,
 ⟨some 127, (.load 25 (.tmp 126)), 25, some (some 121, false)⟩,
 ⟨some 128, (.move (.tmp 8)), 3, some (some 121, false)⟩,
 ⟨some 129, (.indexAddr 25 (.tmp 127) (.tmp 128)), 0, some (some 121, false)⟩,
 ⟨some 130, (.load 3 (.tmp 129)), 3, some (some 121, false)⟩,
 ⟨some 131, (.call { callee := (.value (.func 205)), args := #[(.tmp 125), (.tmp 130)], argTypes := #[25, 3] }), 3, some (some 121, false)⟩,
 ⟨some 132, (.binOp .geq 3 (.tmp 131) (.const (.int .i64 0)) 3), 4, some (some 121, false)⟩,
 LL 133 (.pick (.tmp 121) (.const (.bool true)) (.tmp 132)) 4])
 (.cond (.tmp 133)
 (.seq (.rgn [] [LL 2 (.assign (.const (.bool false))) 4])
 .ret)
 .skip)))
 (.rgn [] [LL 109 (.move (.tmp 8)) 3,
 LL 110 (.binOp .add 3 (.tmp 109) (.const (.int .i64 1)) 3) 3,
 LL 8 (.assign (.tmp 110)) 3]))))))
 (.seq (.rgn [] [LL 2 (.assign (.const (.bool true))) 4])
 .ret))))))
theorem lit200 : Lit Try.prog 200 134 [1] [.tmp 2] c200 := ⟨⟨Try.f200, _, Try.func200, rfl, by kernel_rfl, rfl, rfl, by kernel_rfl, by kernel_rfl⟩, by decide, by kernel_rfl⟩
/-- spec.JoinTreeRoot -/
def c201 : LC :=
  (.seq (.rgn [] [LL 1 (.box 94 (.tmp 0)) 0,
 LL 2 (.assign (.const (.int .i64 0))) 3])
 (.seq (.rgn [] [LL 3 (.assign (.const (.int .i64 (-1)))) 3])
 (.seq (.seq (.rgn [] [LL 4 (.assign (.const (.int .i64 0))) 3])
 (.blk 0
 (.loop []
 (.seq (.seq (.rgn [] [LL 5 (.move (.tmp 4)) 3,
 LL 6 (.fieldAddr 94 (.tmp 1) 0) 0,
 LL 7 (.load 25 (.tmp 6)) 25,
 LL 8 (.call { callee := (.builtin .len), args := #[(.tmp 7)], argTypes := #[25] }) 3,
 LL 9 (.binOp .lss 3 (.tmp 5) (.tmp 8) 3) 4])
 (.cond (.tmp 9)
 .skip
 (.exit 0)))
 (.seq (.blk 1
 (.seq (.rgn [] [LL 12 (.fieldAddr 94 (.tmp 1) 0) 0,
 LL 13 (.load 25 (.tmp 12)) 25,
 LL 14 (.move (.tmp 4)) 3,
 LL 15 (.indexAddr 25 (.tmp 13) (.tmp 14)) 0,
 LL 16 (.load 3 (.tmp 15)) 3,
 LL 17 (.binOp .eql 3 (.tmp 16) (.const (.int .i64 (-1))) 3) 4])
 (.cond (.tmp 17)
 (.seq (.seq (.rgn [] [LL 18 (.move (.tmp 3)) 3,
 LL 19 (.binOp .geq 3 (.tmp 18) (.const (.int .i64 0)) 3) 4])
 (.cond (.tmp 19)
 (.seq (.rgn [] [LL 2 (.assign (.const (.int .i64 (-1)))) 3])
 .ret)
 .skip))
 (.rgn [] [LL 20 (.move (.tmp 4)) 3,
 LL 3 (.assign (.tmp 20)) 3]))
 .skip)))
 (.rgn [] [LL 10 (.move (.tmp 4)) 3,
 LL 11 (.binOp .add 3 (.tmp 10) (.const (.int .i64 1)) 3) 3,
 LL 4 (.assign (.tmp 11)) 3]))))))
 (.seq (.rgn [] [LL 21 (.move (.tmp 3)) 3,
 LL 2 (.assign (.tmp 21)) 3])
 .ret))))
theorem lit201 : Lit Try.prog 201 22 [1] [.tmp 2] c201 := ⟨⟨Try.f201, _, Try.func201, rfl, by kernel_rfl, rfl, rfl, by kernel_rfl, by kernel_rfl⟩, by decide, by kernel_rfl⟩
/-- spec.l10Path -/
def c202 : LC :=
  (.seq (.rgn [] [LL 2 (.box 94 (.tmp 0)) 0,
 LL 4 (.assign (.const (.slice none 0 0))) 25])
 (.seq (.rgn [] [LL 6 (.buildSlice 25 0 #[]) 25,
 LL 5 (.assign (.tmp 6)) 25])
 (.seq (.blk 0
 (.loop []
 (.seq (.seq (.rgn [] [LL 7 (.move (.tmp 1)) 3,
 LL 8 (.fieldAddr 94 (.tmp 2) 0) 0,
 LL 9 (.load 25 (.tmp 8)) 25,
 LL 10 (.call { callee := (.builtin .len), args := #[(.tmp 9)], argTypes := #[25] }) 3,
 LL 11 (.binOp .sub 3 (.tmp 10) (.const (.int .i64 1)) 3) 3,
 LL 12 (.call { callee := (.value (.func 86)), args := #[(.tmp 7), (.const (.int .i64 0)), (.tmp 11)], argTypes := #[3, 3, 3] }) 4,
 LL 13 (.move (.tmp 12)) 4,
 ⟨some 14, (.move (.tmp 5)), 25, some (some 13, true)⟩,
 ⟨some 15, (.call { callee := (.builtin .len), args := #[(.tmp 14)], argTypes := #[25] }), 3, some (some 13, true)⟩,
 ⟨some 16, (.fieldAddr 94 (.tmp 2) 0), 0, some (some 13, true)⟩,
 ⟨some 17, (.load 25 (.tmp 16)), 25, some (some 13, true)⟩,
 ⟨some 18, (.call { callee := (.builtin .len), args := #[(.tmp 17)], argTypes := #[25] }), 3, some (some 13, true)⟩,
 ⟨some 19, (.binOp .leq 3 (.tmp 15) (.tmp 18) 3), 4, some (some 13, true)⟩,
 LL 20 (.pick (.tmp 13) (.tmp 19) (.const (.bool false))) 4])
 (.cond (.tmp 20)
 .skip
 (.exit 0)))
 (.blk 1
 (.seq (.rgn [21] [LL 21 (.move (.tmp 5)) 25,
 LL 22 (.move (.tmp 1)) 3,
 LL 23 (.buildSlice 25 1 #[(0, (.tmp 22))]) 25,
 LL 24 (.call { callee := (.builtin .append), args := #[(.tmp 21), (.tmp 23)], argTypes := #[25, 25] }) 25,
 LL 5 (.assign (.tmp 24)) 25])
 (.rgn [] [LL 25 (.fieldAddr 94 (.tmp 2) 0) 0,
 LL 26 (.load 25 (.tmp 25)) 25,
 LL 27 (.move (.tmp 1)) 3,
 LL 28 (.indexAddr 25 (.tmp 26) (.tmp 27)) 0,
 LL 29 (.load 3 (.tmp 28)) 3,
 LL 1 (.assign (.tmp 29)) 3]))))))
 (.seq (.rgn [30] [LL 30 (.move (.tmp 5)) 25,
 LL 4 (.assign (.tmp 30)) 25])
 .ret))))
theorem lit202 : Lit Try.prog 202 31 [2] [.tmp 4] c202 := ⟨⟨Try.f202, _, Try.func202, rfl, by kernel_rfl, rfl, rfl, by kernel_rfl, by kernel_rfl⟩, by decide, by kernel_rfl⟩
/-- spec.l30Bag -/
def c203 : LC :=
  (.seq (.rgn [] [LL 2 (.box 92 (.tmp 0)) 0,
 LL 4 (.assign (.const (.bool false))) 4])
 (.seq (.seq (.rgn [] [LL 5 (.assign (.const (.int .i64 0))) 3])
 (.blk 0
 (.loop []
 (.seq (.seq (.rgn [] [LL 6 (.move (.tmp 5)) 3,
 LL 7 (.move (.tmp 1)) 25,
 LL 8 (.call { callee := (.builtin .len), args := #[(.tmp 7)], argTypes := #[25] }) 3,
 LL 9 (.binOp .lss 3 (.tmp 6) (.tmp 8) 3) 4])
 (.cond (.tmp 9)
 .skip
 (.exit 0)))
 (.seq (.blk 1
 (.seq (.drw [] [([1], [12]), ([5], [13]), ([12, 13], [14]), ([14], [15]), ([2], [16]), ([2, 16], [17]), ([17], [18]), ([15, 18], [19]), ([19], [20]), ([20], [21]), ([5, 21], [22]), ([21, 22], [23]), ([21, 23], [24]), ([1, 24], [25]), ([5, 24], [26]), ([24, 25, 26], [27]), ([24, 27], [28]), ([1, 24], [29]), ([5, 24], [30]), ([24, 30], [31]), ([24, 29, 31], [32]), ([24, 32], [33]), ([24, 28, 33], [34]), ([21, 24, 34], [35]), ([21, 35], [36])] [[], [], [0, 1], [2], [], [4], [5], [3, 6], [7], [8, 7], [9], [10, 9], [11, 9, 9], [12], [12], [13, 14, 12], [15, 12], [12], [12], [18, 12], [17, 19, 12], [20, 12], [16, 21, 12], [12, 22, 9], [9, 23]] [LL 12 (.move (.tmp 1)) 25,
 LL 13 (.move (.tmp 5)) 3,
 LL 14 (.indexAddr 25 (.tmp 12) (.tmp 13)) 0,
 LL 15 (.load 3 (.tmp 14)) 3,
 LL 16 (.fieldAddr 92 (.tmp 2) 0) 0,
 LL 17 (.load 3 (.tmp 16)) 3,
 LL 18 (.binOp .sub 3 (.tmp 17) (.const (.int .i64 1)) 3) 3,
 LL 19 (.call { callee := (.value (.func 86)), args := #[(.tmp 15), (.const (.int .i64 0)), (.tmp 18)], argTypes := #[3, 3, 3] }) 4,
 LL 20 (.unOp .not 4 (.tmp 19)) 4,
 LL 21 (.move (.tmp 20)) 4,
 ⟨some 22, (.move (.tmp 5)), 3, some (some 21, false)⟩,
 ⟨some 23, (.binOp .gtr 3 (.tmp 22) (.const (.int .i64 0)) 3), 4, some (some 21, false)⟩,
 ⟨some 24, (.move (.tmp 23)), 4, some (some 21, false)⟩,
 ⟨some 25, (.move (.tmp 1)), 25, some (some 24, true)⟩,
 ⟨some 26, (.move (.tmp 5)), 3, some (some 24, true)⟩,
 ⟨some 27, (.indexAddr 25 (.tmp 25) (.tmp 26)), 0, some (some 24, true)⟩,
 ⟨some 28, (.load 3 (.tmp 27)), 3, some (some 24, true)⟩,
 ⟨some 29, (.move (.tmp 1)), 25, some (some 24, true)⟩,
 ⟨some 30, (.move (.tmp 5)), 3, some (some 24, true)⟩,
 ⟨some 31, (.binOp .sub 3 (.tmp 30) (.const (.int .i64 1)) 3), 3, some (some 24, true)⟩,
 ⟨some 32, (.indexAddr 25 (.tmp 29) (.tmp 31)), 0, some (some 24, true)⟩,
 ⟨some 33, (.load 3 (.tmp 32)), 3, some (some 24, true)⟩,
 ⟨some 34, (.binOp .leq 3 (.tmp 28) (.tmp 33) 3), 4, some (some 24, true)⟩,
 ⟨some 35, (.pick (.tmp 24) (.tmp 34) (.const (.bool false))), 4, some (some 21, false)⟩,
 LL 36 (.pick (.tmp 21) (.const (.bool true)) (.tmp 35)) 4])
 (.cond (.tmp 36)
 (.seq (.rgn [] [LL 4 (.assign (.const (.bool false))) 4])
 .ret)
 .skip)))
 (.rgn [] [LL 10 (.move (.tmp 5)) 3,
 LL 11 (.binOp .add 3 (.tmp 10) (.const (.int .i64 1)) 3) 3,
 LL 5 (.assign (.tmp 11)) 3]))))))
 (.seq (.rgn [] [LL 37 (.move (.tmp 1)) 25,
 LL 38 (.call { callee := (.builtin .len), args := #[(.tmp 37)], argTypes := #[25] }) 3,
 LL 39 (.binOp .gtr 3 (.tmp 38) (.const (.int .i64 0)) 3) 4,
 LL 4 (.assign (.tmp 39)) 4])
 .ret)))
theorem lit203 : Lit Try.prog 203 40 [2] [.tmp 4] c203 := ⟨⟨Try.f203, _, Try.func203, rfl, by kernel_rfl, rfl, rfl, by kernel_rfl, by kernel_rfl⟩, by decide, by kernel_rfl⟩
/-- spec.l30Within -/
def c204 : LC :=
  (.seq (.rgn [] [LL 2 (.box 195 (.tmp 0)) 0,
 LL 4 (.assign (.const (.bool false))) 4])
 (.seq (.seq (.rgn [] [LL 5 (.assign (.const (.int .i64 0))) 3])
 (.blk 0
 (.loop []
 (.seq (.seq (.rgn [] [LL 6 (.move (.tmp 5)) 3,
 LL 7 (.fieldAddr 195 (.tmp 2) 1) 0,
 LL 8 (.load 25 (.tmp 7)) 25,
 LL 9 (.call { callee := (.builtin .len), args := #[(.tmp 8)], argTypes := #[25] }) 3,
 LL 10 (.binOp .lss 3 (.tmp 6) (.tmp 9) 3) 4])
 (.cond (.tmp 10)
 .skip
 (.exit 0)))
 (.seq (.blk 1
 (.seq (.rgn [] [LL 13 (.move (.tmp 1)) 25,
 LL 14 (.fieldAddr 195 (.tmp 2) 1) 0,
 LL 15 (.load 25 (.tmp 14)) 25,
 LL 16 (.move (.tmp 5)) 3,
 LL 17 (.indexAddr 25 (.tmp 15) (.tmp 16)) 0,
 LL 18 (.load 3 (.tmp 17)) 3,
 LL 19 (.call { callee := (.value (.func 205)), args := #[(.tmp 13), (.tmp 18)], argTypes := #[25, 3] }) 3,
 LL 20 (.binOp .lss 3 (.tmp 19) (.const (.int .i64 0)) 3) 4])
 (.cond (.tmp 20)
 (.seq (.rgn [] [LL 4 (.assign (.const (.bool false))) 4])
 .ret)
 .skip)))
 (.rgn [] [LL 11 (.move (.tmp 5)) 3,
 LL 12 (.binOp .add 3 (.tmp 11) (.const (.int .i64 1)) 3) 3,
 LL 5 (.assign (.tmp 12)) 3]))))))
 (.seq (.rgn [] [LL 4 (.assign (.const (.bool true))) 4])
 .ret)))
theorem lit204 : Lit Try.prog 204 21 [2] [.tmp 4] c204 := ⟨⟨Try.f204, _, Try.func204, rfl, by kernel_rfl, rfl, rfl, by kernel_rfl, by kernel_rfl⟩, by decide, by kernel_rfl⟩
/-- spec.l7Find -/
def c205 : LC :=
  (.seq (.rgn [] [LL 4 (.assign (.const (.int .i64 0))) 3])
 (.seq (.seq (.rgn [] [LL 5 (.assign (.const (.int .i64 0))) 3])
 (.blk 0
 (.loop []
 (.seq (.seq (.rgn [] [LL 6 (.move (.tmp 5)) 3,
 LL 7 (.move (.tmp 0)) 25,
 LL 8 (.call { callee := (.builtin .len), args := #[(.tmp 7)], argTypes := #[25] }) 3,
 LL 9 (.binOp .lss 3 (.tmp 6) (.tmp 8) 3) 4])
 (.cond (.tmp 9)
 .skip
 (.exit 0)))
 (.seq (.blk 1
 (.seq (.rgn [] [LL 12 (.move (.tmp 0)) 25,
 LL 13 (.move (.tmp 5)) 3,
 LL 14 (.indexAddr 25 (.tmp 12) (.tmp 13)) 0,
 LL 15 (.load 3 (.tmp 14)) 3,
 LL 16 (.move (.tmp 1)) 3,
 LL 17 (.binOp .eql 3 (.tmp 15) (.tmp 16) 3) 4])
 (.cond (.tmp 17)
 (.seq (.rgn [] [LL 18 (.move (.tmp 5)) 3,
 LL 4 (.assign (.tmp 18)) 3])
 .ret)
 .skip)))
 (.rgn [] [LL 10 (.move (.tmp 5)) 3,
 LL 11 (.binOp .add 3 (.tmp 10) (.const (.int .i64 1)) 3) 3,
 LL 5 (.assign (.tmp 11)) 3]))))))
 (.seq (.rgn [] [LL 4 (.assign (.const (.int .i64 (-1)))) 3])
 .ret)))
theorem lit205 : Lit Try.prog 205 19 [] [.tmp 4] c205 := ⟨⟨Try.f205, _, Try.func205, rfl, by kernel_rfl, rfl, rfl, by kernel_rfl, by kernel_rfl⟩, by decide, by kernel_rfl⟩
/-- spec.IsPermutation -/
def c206 : LC :=
  (.seq (.rgn [] [LL 2 (.assign (.const (.bool false))) 4])
 (.seq (.seq (.rgn [] [LL 3 (.assign (.const (.int .i64 0))) 3])
 (.blk 0
 (.loop []
 (.seq (.seq (.rgn [] [LL 4 (.move (.tmp 3)) 3,
 LL 5 (.move (.tmp 0)) 25,
 LL 6 (.call { callee := (.builtin .len), args := #[(.tmp 5)], argTypes := #[25] }) 3,
 LL 7 (.binOp .lss 3 (.tmp 4) (.tmp 6) 3) 4])
 (.cond (.tmp 7)
 .skip
 (.exit 0)))
 (.seq (.blk 1
 (.seq (.drw [] [([0], [10]), ([3], [11]), ([10, 11], [12]), ([12], [13]), ([0], [14]), ([14], [15]), ([15], [16]), ([13, 16], [17]), ([17], [18]), ([18], [19]), ([0, 19], [20]), ([3, 19], [21]), ([19, 20, 21], [22]), ([0, 19], [23]), ([3, 19], [24]), ([19, 23, 24], [25]), ([19, 25], [26]), ([19, 22, 26], [27]), ([19, 27], [28]), ([19, 28], [29])] [[], [], [0, 1], [2], [], [4], [5], [3, 6], [7], [8, 7], [9], [9], [10, 11, 9], [9], [9], [13, 14, 9], [15, 9], [12, 16, 9, 9], [17, 9], [9, 18]] [LL 10 (.move (.tmp 0)) 25,
 LL 11 (.move (.tmp 3)) 3,
 LL 12 (.indexAddr 25 (.tmp 10) (.tmp 11)) 0,
 LL 13 (.load 3 (.tmp 12)) 3,
 LL 14 (.move (.tmp 0)) 25,
 LL 15 (.call { callee := (.builtin .len), args := #[(.tmp 14)], argTypes := #[25] }) 3,
 LL 16 (.binOp .sub 3 (.tmp 15) (.const (.int .i64 1)) 3) 3,
 LL 17 (.call { callee := (.value (.func 86)), args := #[(.tmp 13), (.const (.int .i64 0)), (.tmp 16)], argTypes := #[3, 3, 3] }) 4,
 LL 18 (.unOp .not 4 (.tmp 17)) 4,
 LL 19 (.move (.tmp 18)) 4,
 ⟨some 20, (.move (.tmp 0)), 25, some (some 19, false)⟩,
 ⟨some 21, (.move (.tmp 3)), 3, some (some 19, false)⟩,
 ⟨some 22, (.slice 25 (.tmp 20) none (some (.tmp 21)) none), 25, some (some 19, false)⟩,
 ⟨some 23, (.move (.tmp 0)), 25, some (some 19, false)⟩,
 ⟨some 24, (.move (.tmp 3)), 3, some (some 19, false)⟩,
 ⟨some 25, (.indexAddr 25 (.tmp 23) (.tmp 24)), 0, some (some 19, false)⟩,
 ⟨some 26, (.load 3 (.tmp 25)), 3, some (some 19, false)⟩,
 ⟨some 27, (.call { callee := (.value (.func 205)), args := #[(.tmp 22), (.tmp 26)], argTypes := #[25, 3] }), 3, some (some 19, false)⟩,
 ⟨some 28, (.binOp .geq 3 (.tmp 27) (.const (.int .i64 0)) 3), 4, some (some 19, false)⟩,
 LL 29 (.pick (.tmp 19) (.const (.bool true)) (.tmp 28)) 4])
 (.cond (.tmp 29)
 (.seq (.rgn [] [LL 2 (.assign (.const (.bool false))) 4])
 .ret)
 .skip)))
 (.rgn [] [LL 8 (.move (.tmp 3)) 3,
 LL 9 (.binOp .add 3 (.tmp 8) (.const (.int .i64 1)) 3) 3,
 LL 3 (.assign (.tmp 9)) 3]))))))
 (.seq (.rgn [] [LL 30 (.move (.tmp 0)) 25,
 LL 31 (.call { callee := (.builtin .len), args := #[(.tmp 30)], argTypes := #[25] }) 3,
 LL 32 (.binOp .leq 3 (.tmp 31) (.const (.int .i64 5)) 3) 4,
 LL 2 (.assign (.tmp 32)) 4])
 .ret)))
theorem lit206 : Lit Try.prog 206 33 [] [.tmp 2] c206 := ⟨⟨Try.f206, _, Try.func206, rfl, by kernel_rfl, rfl, rfl, by kernel_rfl, by kernel_rfl⟩, by decide, by kernel_rfl⟩
/-- laws.toAtom -/
def c207 : LC :=
  (.seq (.rgn [] [LL 1 (.box 231 (.tmp 0)) 0,
 LL 2 (.alloc 195) 0])
 (.seq (.rgn [] [LL 3 (.alloc 195) 0])
 (.seq (.rgn [] [LL 4 (.fieldAddr 231 (.tmp 1) 0) 0,
 LL 5 (.load 9 (.tmp 4)) 9,
 LL 6 (.fieldAddr 195 (.tmp 3) 0) 0,
 ⟨none, (.store 9 (.tmp 6) (.tmp 5)), 0, none⟩])
 (.seq (.rgn [] [LL 7 (.fieldAddr 231 (.tmp 1) 1) 0,
 LL 8 (.load 25 (.tmp 7)) 25,
 LL 9 (.call { callee := (.value (.func 58)), args := #[(.tmp 8)], argTypes := #[25] }) 25,
 LL 10 (.fieldAddr 195 (.tmp 3) 1) 0,
 ⟨none, (.store 25 (.tmp 10) (.tmp 9)), 0, none⟩])
 (.seq (.rgn [11] [LL 11 (.load 195 (.tmp 3)) 195,
 ⟨none, (.store 195 (.tmp 2) (.tmp 11)), 0, none⟩])
 .ret)))))
theorem lit207 : Lit Try.prog 207 12 [1, 2, 3] [.cell 2 195] c207 := ⟨⟨Try.f207, _, Try.func207, rfl, by kernel_rfl, rfl, rfl, by kernel_rfl, by kernel_rfl⟩, by decide, by kernel_rfl⟩
/-- laws.toIntSS -/
def c208 : LC :=
  (.seq (.rgn [] [LL 2 (.assign (.const (.slice none 0 0))) 82])
 (.seq (.rgn [3, 7] [LL 5 (.move (.tmp 0)) 82,
 LL 6 (.call { callee := (.builtin .len), args := #[(.tmp 5)], argTypes := #[82] }) 3,
 LL 7 (.makeSlice 82 (.tmp 6) (.tmp 6)) 82,
 LL 3 (.assign (.tmp 7)) 82])
 (.seq (.seq (.rgn [] [LL 4 (.assign (.const (.int .i64 0))) 3])
 (.blk 0
 (.loop []
 (.seq (.seq (.rgn [] [LL 8 (.move (.tmp 4)) 3,
 LL 9 (.move (.tmp 0)) 82,
 LL 10 (.call { callee := (.builtin .len), args := #[(.tmp 9)], argTypes := #[82] }) 3,
 LL 11 (.binOp .lss 3 (.tmp 8) (.tmp 10) 3) 4])
 (.cond (.tmp 11)
 .skip
 (.exit 0)))
 (.seq (.blk 1
 (.rgn [] [LL 14 (.move (.tmp 3)) 82,
 LL 15 (.move (.tmp 4)) 3,
 LL 16 (.move (.tmp 0)) 82,
 LL 17 (.move (.tmp 4)) 3,
 LL 18 (.indexAddr 82 (.tmp 16) (.tmp 17)) 0,
 LL 19 (.load 25 (.tmp 18)) 25,
 LL 20 (.call { callee := (.value (.func 58)), args := #[(.tmp 19)], argTypes := #[25] }) 25,
 LL 21 (.indexAddr 82 (.tmp 14) (.tmp 15)) 0,
 ⟨none, (.store 25 (.tmp 21) (.tmp 20)), 0, none⟩]))
 (.rgn [] [LL 12 (.move (.tmp 4)) 3,
 LL 13 (.binOp .add 3 (.tmp 12) (.const (.int .i64 1)) 3) 3,
 LL 4 (.assign (.tmp 13)) 3]))))))
 (.seq (.rgn [22] [LL 22 (.move (.tmp 3)) 82,
 LL 2 (.assign (.tmp 22)) 82])
 .ret))))
theorem lit208 : Lit Try.prog 208 23 [3, 7] [.tmp 2] c208 := ⟨⟨Try.f208, _, Try.func208, rfl, by kernel_rfl, rfl, rfl, by kernel_rfl, by kernel_rfl⟩, by decide, by kernel_rfl⟩
/-- impl.IsValidQuery -/
def c209 : LC :=
  (.seq (.rgn [] [LL 1 (.box 92 (.tmp 0)) 0,
 LL 2 (.assign (.const (.bool false))) 4])
 (.seq (.rgn [] [LL 11 (.fieldAddr 92 (.tmp 1) 0) 0,
 LL 12 (.load 3 (.tmp 11)) 3,
 LL 3 (.assign (.tmp 12)) 3])
 (.seq (.seq (.rgn [] [LL 13 (.move (.tmp 3)) 3,
 LL 14 (.call { callee := (.value (.func 90)), args := #[(.tmp 13), (.const (.int .i64 1)), (.const (.int .i64 5))], argTypes := #[3, 3, 3] }) 4,
 LL 15 (.unOp .not 4 (.tmp 14)) 4,
 LL 16 (.move (.tmp 15)) 4,
 ⟨some 17, (.fieldAddr 92 (.tmp 1) 1), 0, some (some 16, false)⟩,
 ⟨some 18, (.load 90 (.tmp 17)), 90, some (some 16, false)⟩,
 ⟨some 19, (.call { callee := (.builtin .len), args := #[(.tmp 18)], argTypes := #[90] }), 3, some (some 16, false)⟩,
 ⟨some 20, (.call { callee := (.value (.func 90)), args := #[(.tmp 19), (.const (.int .i64 1)), (.const (.int .i64 4))], argTypes := #[3, 3, 3] }), 4, some (some 16, false)⟩,
 ⟨some 21, (.unOp .not 4 (.tmp 20)), 4, some (some 16, false)⟩,
 LL 22 (.pick (.tmp 16) (.const (.bool true)) (.tmp 21)) 4,
 LL 23 (.move (.tmp 22)) 4,
 ⟨some 24, (.fieldAddr 92 (.tmp 1) 2), 0, some (some 23, false)⟩,
 ⟨some 25, (.load 25 (.tmp 24)), 25, some (some 23, false)⟩,
 ⟨some 26, (.move (.tmp 3)), 3, some (some 23, false)⟩,
 ⟨some 27, (.call { callee := (.value (.func 213)), args := #[(.tmp 25), (.tmp 26)], argTypes := #[25, 3] }), 4, some (some 23, false)⟩,
 ⟨some 28, (.unOp .not 4 (.tmp 27)), 4, some (some 23, false)⟩,
 LL 29 (.pick (.tmp 23) (.const (.bool true)) (.tmp 28)) 4])
 (.cond (.tmp 29)
 (.seq (.rgn [] [LL 2 (.assign (.const (.bool false))) 4])
 .ret)
 .skip))
 (.seq (.rgn [4, 31] [LL 30 (.move (.tmp 3)) 3,
 LL 31 (.makeSlice 256 (.tmp 30) (.tmp 30)) 256,
 LL 4 (.assign (.tmp 31)) 256])
 (.seq (.seq (.rgn [] [LL 32 (.fieldAddr 92 (.tmp 1) 1) 0,
 LL 33 (.load 90 (.tmp 32)) 90,
 LL 34 (.call { callee := (.builtin .len), args := #[(.tmp 33)], argTypes := #[90] }) 3,
 LL 35 (.move (.const (.int .i64 0))) 3])
 (.blk 0
 (.loop [6]
 (.seq (.rgn [] [LL 36 (.binOp .lss 3 (.tmp 35) (.tmp 34) 3) 0])
 (.seq (.cond (.tmp 36)
 .skip
 (.exit 0))
 (.seq (.blk 1
 (.seq (.rgn [38] [LL 37 (.indexAddr 90 (.tmp 33) (.tmp 35)) 0,
 LL 38 (.load 195 (.tmp 37)) 195,
 LL 6 (.alloc 195) 0,
 ⟨none, (.store 195 (.tmp 6) (.tmp 38)), 0, none⟩])
 (.seq (.seq (.rgn [] [LL 39 (.fieldAddr 195 (.tmp 6) 0) 0,
 LL 40 (.load 9 (.tmp 39)) 9,
 LL 41 (.call { callee := (.value (.func 218)), args := #[(.tmp 40)], argTypes := #[9] }) 4,
 LL 42 (.unOp .not 4 (.tmp 41)) 4,
 LL 43 (.move (.tmp 42)) 4,
 ⟨some 44, (.fieldAddr 195 (.tmp 6) 1), 0, some (some 43, false)⟩,
 ⟨some 45, (.load 25 (.tmp 44)), 25, some (some 43, false)⟩,
 ⟨some 46, (.call { callee := (.builtin .len), args := #[(.tmp 45)], argTypes := #[25] }), 3, some (some 43, false)⟩,
 ⟨some 47, (.call { callee := (.value (.func 90)), args := #[(.tmp 46), (.const (.int .i64 1)), (.const (.int .i64 5))], argTypes := #[3, 3, 3] }), 4, some (some 43, false)⟩,
 ⟨some 48, (.unOp .not 4 (.tmp 47)), 4, some (some 43, false)⟩,
 LL 49 (.pick (.tmp 43) (.const (.bool true)) (.tmp 48)) 4])
 (.cond (.tmp 49)
 (.seq (.rgn [] [LL 2 (.assign (.const (.bool false))) 4])
 .ret)
 .skip))
 (.seq (.rgn [] [LL 50 (.fieldAddr 195 (.tmp 6) 1) 0,
 LL 51 (.load 25 (.tmp 50)) 25,
 LL 52 (.call { callee := (.builtin .len), args := #[(.tmp 51)], argTypes := #[25] }) 3,
 LL 53 (.move (.const (.int .i64 0))) 3])
 (.blk 2
 (.loop []
 (.seq (.rgn [] [LL 54 (.binOp .lss 3 (.tmp 53) (.tmp 52) 3) 0])
 (.seq (.cond (.tmp 54)
 .skip
 (.exit 2))
 (.seq (.blk 3
 (.seq (.rgn [] [LL 55 (.indexAddr 25 (.tmp 51) (.tmp 53)) 0,
 LL 56 (.load 3 (.tmp 55)) 3,
 LL 8 (.assign (.tmp 56)) 3])
 (.seq (.seq (.rgn [] [LL 57 (.move (.tmp 8)) 3,
 LL 58 (.move (.tmp 3)) 3,
 LL 59 (.binOp .sub 3 (.tmp 58) (.const (.int .i64 1)) 3) 3,
 LL 60 (.call { callee := (.value (.func 90)), args := #[(.tmp 57), (.const (.int .i64 0)), (.tmp 59)], argTypes := #[3, 3, 3] }) 4,
 LL 61 (.unOp .not 4 (.tmp 60)) 4])
 (.cond (.tmp 61)
 (.seq (.rgn [] [LL 2 (.assign (.const (.bool false))) 4])
 .ret)
 .skip))
 (.rgn [] [LL 62 (.move (.tmp 4)) 256,
 LL 63 (.move (.tmp 8)) 3,
 LL 64 (.indexAddr 256 (.tmp 62) (.tmp 63)) 0,
 ⟨none, (.store 4 (.tmp 64) (.const (.bool true))), 0, none⟩]))))
 (.rgn [] [LL 65 (.binOp .add 3 (.tmp 53) (.const (.int .i64 1)) 3) 3,
 LL 53 (.move (.tmp 65)) 3]))))))))))
 (.rgn [] [LL 66 (.binOp .add 3 (.tmp 35) (.const (.int .i64 1)) 3) 3,
 LL 35 (.move (.tmp 66)) 3])))))))
 (.seq (.seq (.rgn [] [LL 67 (.move (.tmp 4)) 256,
 LL 68 (.call { callee := (.builtin .len), args := #[(.tmp 67)], argTypes := #[256] }) 3,
 LL 69 (.move (.const (.int .i64 0))) 3])
 (.blk 4
 (.loop []
 (.seq (.rgn [] [LL 70 (.binOp .lss 3 (.tmp 69) (.tmp 68) 3) 0])
 (.seq (.cond (.tmp 70)
 .skip
 (.exit 4))
 (.seq (.blk 5
 (.seq (.rgn [] [LL 71 (.indexAddr 256 (.tmp 67) (.tmp 69)) 0,
 LL 72 (.load 4 (.tmp 71)) 4,
 LL 10 (.assign (.tmp 72)) 4])
 (.seq (.rgn [] [LL 73 (.move (.tmp 10)) 4,
 LL 74 (.unOp .not 4 (.tmp 73)) 4])
 (.cond (.tmp 74)
 (.seq (.rgn [] [LL 2 (.assign (.const (.bool false))) 4])
 .ret)
 .skip))))
 (.rgn [] [LL 75 (.binOp .add 3 (.tmp 69) (.const (.int .i64 1)) 3) 3,
 LL 69 (.move (.tmp 75)) 3])))))))
 (.seq (.rgn [] [LL 2 (.assign (.const (.bool true))) 4])
 .ret)))))))
theorem lit209 : Lit Try.prog 209 76 [1, 4, 6, 31] [.tmp 2] c209 := ⟨⟨Try.f209, _, Try.func209, rfl, by kernel_rfl, rfl, rfl, by kernel_rfl, by kernel_rfl⟩, by decide, by kernel_rfl⟩
/-- impl.isTree -/
def c210 : LC :=
  (.seq (.rgn [] [LL 2 (.assign (.const (.bool false))) 4])
 (.seq (.rgn [] [LL 3 (.assign (.const (.int .i64 0))) 3])
 (.seq (.seq (.rgn [] [LL 8 (.move (.tmp 0)) 25,
 LL 9 (.call { callee := (.builtin .len), args := #[(.tmp 8)], argTypes := #[25] }) 3,
 LL 10 (.move (.const (.int .i64 0))) 3])
 (.blk 0
 (.loop []
 (.seq (.rgn [] [LL 11 (.binOp .lss 3 (.tmp 10) (.tmp 9) 3) 0])
 (.seq (.cond (.tmp 11)
 .skip
 (.exit 0))
 (.seq (.blk 1
 (.seq (.rgn [] [LL 12 (.move (.tmp 10)) 3,
 LL 13 (.indexAddr 25 (.tmp 8) (.tmp 10)) 0,
 LL 14 (.load 3 (.tmp 13)) 3,
 LL 4 (.assign (.tmp 12)) 3,
 LL 5 (.assign (.tmp 14)) 3])
 (.seq (.seq (.rgn [] [LL 15 (.move (.tmp 5)) 3,
 LL 16 (.move (.tmp 0)) 25,
 LL 17 (.call { callee := (.builtin .len), args := #[(.tmp 16)], argTypes := #[25] }) 3,
 LL 18 (.binOp .sub 3 (.tmp 17) (.const (.int .i64 1)) 3) 3,
 LL 19 (.call { callee := (.value (.func 90)), args := #[(.tmp 15), (.const (.int .i64 (-1))), (.tmp 18)], argTypes := #[3, 3, 3] }) 4,
 LL 20 (.unOp .not 4 (.tmp 19)) 4])
 (.cond (.tmp 20)
 (.seq (.rgn [] [LL 2 (.assign (.const (.bool false))) 4])
 .ret)
 .skip))
 (.seq (.seq (.rgn [] [LL 21 (.move (.tmp 5)) 3,
 LL 22 (.binOp .lss 3 (.tmp 21) (.const (.int .i64 0)) 3) 4])
 (.cond (.tmp 22)
 (.rgn [] [LL 23 (.move (.tmp 3)) 3,
 LL 24 (.binOp .add 3 (.tmp 23) (.const (.int .i64 1)) 3) 3,
 LL 3 (.assign (.tmp 24)) 3])
 .skip))
 (.seq (.rgn [] [LL 25 (.move (.tmp 4)) 3,
 LL 6 (.assign (.tmp 25)) 3])
 (.seq (.seq (.rgn [] [LL 7 (.assign (.const (.int .i64 0))) 3])
 (.blk 2
 (.loop []
 (.seq (.seq (.rgn [] [LL 26 (.move (.tmp 7)) 3,
 LL 27 (.move (.tmp 0)) 25,
 LL 28 (.call { callee := (.builtin .len), args := #[(.tmp 27)], argTypes := #[25] }) 3,
 LL 29 (.binOp .leq 3 (.tmp 26) (.tmp 28) 3) 4,
 LL 30 (.move (.tmp 29)) 4,
 ⟨some 31, (.move (.tmp 6)), 3, some (some 30, true)⟩,
 ⟨some 32, (.binOp .geq 3 (.tmp 31) (.const (.int .i64 0)) 3), 4, some (some 30, true)⟩,
 LL 33 (.pick (.tmp 30) (.tmp 32) (.const (.bool false))) 4])
 (.cond (.tmp 33)
 .skip
 (.exit 2)))
 (.seq (.blk 3
 (.seq (.rgn [] [LL 36 (.move (.tmp 0)) 25,
 LL 37 (.move (.tmp 6)) 3,
 LL 38 (.indexAddr 25 (.tmp 36) (.tmp 37)) 0,
 LL 39 (.load 3 (.tmp 38)) 3,
 LL 6 (.assign (.tmp 39)) 3])
 (.seq (.rgn [] [LL 40 (.move (.tmp 6)) 3,
 LL 41 (.move (.tmp 0)) 25,
 LL 42 (.call { callee := (.builtin .len), args := #[(.tmp 41)], argTypes := #[25] }) 3,
 LL 43 (.binOp .sub 3 (.tmp 42) (.const (.int .i64 1)) 3) 3,
 LL 44 (.call { callee := (.value (.func 90)), args := #[(.tmp 40), (.const (.int .i64 (-1))), (.tmp 43)], argTypes := #[3, 3, 3] }) 4,
 LL 45 (.unOp .not 4 (.tmp 44)) 4])
 (.cond (.tmp 45)
 (.seq (.rgn [] [LL 2 (.assign (.const (.bool false))) 4])
 .ret)
 .skip))))
 (.rgn [] [LL 34 (.move (.tmp 7)) 3,
 LL 35 (.binOp .add 3 (.tmp 34) (.const (.int .i64 1)) 3) 3,
 LL 7 (.assign (.tmp 35)) 3]))))))
 (.seq (.rgn [] [LL 46 (.move (.tmp 6)) 3,
 LL 47 (.binOp .geq 3 (.tmp 46) (.const (.int .i64 0)) 3) 4])
 (.cond (.tmp 47)
 (.seq (.rgn [] [LL 2 (.assign (.const (.bool false))) 4])
 .ret)
 .skip))))))))
 (.rgn [] [LL 48 (.binOp .add 3 (.tmp 10) (.const (.int .i64 1)) 3) 3,
 LL 10 (.move (.tmp 48)) 3])))))))
 (.seq (.rgn [] [LL 49 (.move (.tmp 3)) 3,
 LL 50 (.binOp .eql 3 (.tmp 49) (.const (.int .i64 1)) 3) 4,
 LL 2 (.assign (.tmp 50)) 4])
 .ret))))
theorem lit210 : Lit Try.prog 210 51 [] [.tmp 2] c210 := ⟨⟨Try.f210, _, Try.func210, rfl, by kernel_rfl, rfl, rfl, by kernel_rfl, by kernel_rfl⟩, by decide, by kernel_rfl⟩
/-- impl.topsOf -/
def c211 : LC :=
  (.seq (.rgn [] [LL 6 (.assign (.const (.int .i64 0))) 3])
 (.seq (.rgn [] [LL 7 (.assign (.const (.int .i64 0))) 3])
 (.seq (.seq (.rgn [] [LL 10 (.move (.tmp 0)) 82,
 LL 11 (.call { callee := (.builtin .len), args := #[(.tmp 10)], argTypes := #[82] }) 3,
 LL 12 (.move (.const (.int .i64 0))) 3])
 (.blk 0
 (.loop []
 (.seq (.rgn [] [LL 13 (.binOp .lss 3 (.tmp 12) (.tmp 11) 3) 0])
 (.seq (.cond (.tmp 13)
 .skip
 (.exit 0))
 (.seq (.blk 1
 (.seq (.rgn [16] [LL 14 (.move (.tmp 12)) 3,
 LL 15 (.indexAddr 82 (.tmp 10) (.tmp 12)) 0,
 LL 16 (.load 25 (.tmp 15)) 25,
 LL 8 (.assign (.tmp 14)) 3,
 LL 9 (.assign (.tmp 16)) 25])
 (.seq (.rgn [] [LL 17 (.move (.tmp 9)) 25,
 LL 18 (.move (.tmp 2)) 3,
 LL 19 (.call { callee := (.value (.func 230)), args := #[(.tmp 17), (.tmp 18)], argTypes := #[25, 3] }) 4,
 LL 20 (.move (.tmp 19)) 4,
 ⟨some 21, (.move (.tmp 1)), 25, some (some 20, true)⟩,
 ⟨some 22, (.move (.tmp 8)), 3, some (some 20, true)⟩,
 ⟨some 23, (.indexAddr 25 (.tmp 21) (.tmp 22)), 0, some (some 20, true)⟩,
 ⟨some 24, (.load 3 (.tmp 23)), 3, some (some 20, true)⟩,
 ⟨some 25, (.binOp .lss 3 (.tmp 24) (.const (.int .i64 0)) 3), 4, some (some 20, true)⟩,
 ⟨some 26, (.move (.tmp 25)), 4, some (some 20, true)⟩,
 ⟨some 27, (.move (.tmp 0)), 82, some (some 26, false)⟩,
 ⟨some 28, (.move (.tmp 1)), 25, some (some 26, false)⟩,
 ⟨some 29, (.move (.tmp 8)), 3, some (some 26, false)⟩,
 ⟨some 30, (.indexAddr 25 (.tmp 28) (.tmp 29)), 0, some (some 26, false)⟩,
 ⟨some 31, (.load 3 (.tmp 30)), 3, some (some 26, false)⟩,
 ⟨some 32, (.indexAddr 82 (.tmp 27) (.tmp 31)), 0, some (some 26, false)⟩,
 ⟨some 33, (.load 25 (.tmp 32)), 25, some (some 26, false)⟩,
 ⟨some 34, (.move (.tmp 2)), 3, some (some 26, false)⟩,
 ⟨some 35, (.call { callee := (.value (.func 230)), args := #[(.tmp 33), (.tmp 34)], argTypes := #[25, 3] }), 4, some (some 26, false)⟩,
 ⟨some 36, (.unOp .not 4 (.tmp 35)), 4, some (some 26, false)⟩,
 ⟨some 37, (.pick (.tmp 26) (.const (.bool true)) (.tmp 36)), 4, some (some 20, true)⟩,
 LL 38 (.pick (.tmp 20) (.tmp 37) (.const (.bool false))) 4])
 (.cond (.tmp 38)
 (.rgn [] [LL 39 (.move (.tmp 7)) 3,
 LL 40 (.binOp .add 3 (.tmp 39) (.const (.int .i64 1)) 3) 3,
 LL 7 (.assign (.tmp 40)) 3])
 .skip))))
 (.rgn [] [LL 41 (.binOp .add 3 (.tmp 12) (.const (.int .i64 1)) 3) 3,
 LL 12 (.move (.tmp 41)) 3])))))))
 (.seq (.rgn [] [LL 42 (.move (.tmp 7)) 3,
 LL 6 (.assign (.tmp 42)) 3])
 .ret))))
theorem lit211 : Lit Try.prog 211 43 [] [.tmp 6] c211 := ⟨⟨Try.f211, _, Try.func211, rfl, by kernel_rfl, rfl, rfl, by kernel_rfl, by kernel_rfl⟩, by decide, by kernel_rfl⟩
/-- impl.isBag -/
def c212 : LC :=
  (.seq (.rgn [] [LL 2 (.box 92 (.tmp 0)) 0,
 LL 4 (.assign (.const (.bool false))) 4])
 (.seq (.rgn [] [LL 5 (.move (.tmp 1)) 25,
 LL 6 (.call { callee := (.builtin .len), args := #[(.tmp 5)], argTypes := #[25] }) 3,
 LL 7 (.binOp .gtr 3 (.tmp 6) (.const (.int .i64 0)) 3) 4,
 LL 8 (.move (.tmp 7)) 4,
 ⟨some 9, (.move (.tmp 1)), 25, some (some 8, true)⟩,
 ⟨some 10, (.call { callee := (.value (.func 174)), args := #[(.tmp 9)], argTypes := #[25] }), 4, some (some 8, true)⟩,
 LL 11 (.pick (.tmp 8) (.tmp 10) (.const (.bool false))) 4,
 LL 12 (.move (.tmp 11)) 4,
 ⟨some 13, (.move (.tmp 1)), 25, some (some 12, true)⟩,
 ⟨some 14, (.fieldAddr 92 (.tmp 2) 0), 0, some (some 12, true)⟩,
 ⟨some 15, (.load 3 (.tmp 14)), 3, some (some 12, true)⟩,
 ⟨some 16, (.call { callee := (.value (.func 213)), args := #[(.tmp 13), (.tmp 15)], argTypes := #[25, 3] }), 4, some (some 12, true)⟩,
 LL 17 (.pick (.tmp 12) (.tmp 16) (.const (.bool false))) 4,
 LL 4 (.assign (.tmp 17)) 4])
 .ret))
theorem lit212 : Lit Try.prog 212 18 [2] [.tmp 4] c212 := ⟨⟨Try.f212, _, Try.func212, rfl, by kernel_rfl, rfl, rfl, by kernel_rfl, by kernel_rfl⟩, by decide, by kernel_rfl⟩
/-- impl.isSetOf -/
def c213 : LC :=
  (.seq (.rgn [] [LL 4 (.assign (.const (.bool false))) 4])
 (.seq (.seq (.rgn [] [LL 7 (.move (.tmp 0)) 25,
 LL 8 (.call { callee := (.builtin .len), args := #[(.tmp 7)], argTypes := #[25] }) 3,
 LL 9 (.move (.const (.int .i64 0))) 3])
 (.blk 0
 (.loop []
 (.seq (.rgn [] [LL 10 (.binOp .lss 3 (.tmp 9) (.tmp 8) 3) 0])
 (.seq (.cond (.tmp 10)
 .skip
 (.exit 0))
 (.seq (.blk 1
 (.seq (.rgn [] [LL 11 (.move (.tmp 9)) 3,
 LL 12 (.indexAddr 25 (.tmp 7) (.tmp 9)) 0,
 LL 13 (.load 3 (.tmp 12)) 3,
 LL 5 (.assign (.tmp 11)) 3,
 LL 6 (.assign (.tmp 13)) 3])
 (.seq (.rgn [] [LL 14 (.move (.tmp 6)) 3,
 LL 15 (.move (.tmp 1)) 3,
 LL 16 (.binOp .sub 3 (.tmp 15) (.const (.int .i64 1)) 3) 3,
 LL 17 (.call { callee := (.value (.func 90)), args := #[(.tmp 14), (.const (.int .i64 0)), (.tmp 16)], argTypes := #[3, 3, 3] }) 4,
 LL 18 (.unOp .not 4 (.tmp 17)) 4,
 LL 19 (.move (.tmp 18)) 4,
 ⟨some 20, (.move (.tmp 0)), 25, some (some 19, false)⟩,
 ⟨some 21, (.move (.tmp 5)), 3, some (some 19, false)⟩,
 ⟨some 22, (.slice 25 (.tmp 20) none (some (.tmp 21)) none), 25, some (some 19, false)⟩,
 ⟨some 23, (.move (.tmp 6)), 3, some (some 19, false)⟩,
 ⟨some 24, (.call { callee := (.value (.func 230)), args := #[(.tmp 22), (.tmp 23)], argTypes := #[25, 3] }), 4, some (some 19, false)⟩,
 LL 25 (.pick (.tmp 19) (.const (.bool true)) (.tmp 24)) 4])
 (.cond (.tmp 25)
 (.seq (.rgn [] [LL 4 (.assign (.const (.bool false))) 4])
 .ret)
 .skip))))
 (.rgn [] [LL 26 (.binOp .add 3 (.tmp 9) (.const (.int .i64 1)) 3) 3,
 LL 9 (.move (.tmp 26)) 3])))))))
 (.seq (.rgn [] [LL 4 (.assign (.const (.bool true))) 4])
 .ret)))
theorem lit213 : Lit Try.prog 213 27 [] [.tmp 4] c213 := ⟨⟨Try.f213, _, Try.func213, rfl, by kernel_rfl, rfl, rfl, by kernel_rfl, by kernel_rfl⟩, by decide, by kernel_rfl⟩
/-- laws.eqAtom -/
def c214 : LC :=
  (.seq (.rgn [] [LL 2 (.box 195 (.tmp 0)) 0,
 LL 3 (.box 195 (.tmp 1)) 0,
 LL 4 (.assign (.const (.bool false))) 4])
 (.seq (.seq (.rgn [] [LL 5 (.fieldAddr 195 (.tmp 2) 0) 0,
 LL 6 (.load 9 (.tmp 5)) 9,
 LL 7 (.fieldAddr 195 (.tmp 3) 0) 0,
 LL 8 (.load 9 (.tmp 7)) 9,
 LL 9 (.binOp .neq 9 (.tmp 6) (.tmp 8) 9) 4])
 (.cond (.tmp 9)
 (.seq (.rgn [] [LL 4 (.assign (.const (.bool false))) 4])
 .ret)
 .skip))
 (.seq (.seq (.rgn [] [LL 10 (.fieldAddr 195 (.tmp 2) 1) 0,
 LL 11 (.load 25 (.tmp 10)) 25,
 LL 12 (.fieldAddr 195 (.tmp 3) 1) 0,
 LL 13 (.load 25 (.tmp 12)) 25,
 LL 14 (.call { callee := (.value (.func 19)), args := #[(.tmp 11), (.tmp 13)], argTypes := #[25, 25] }) 4,
 LL 15 (.unOp .not 4 (.tmp 14)) 4])
 (.cond (.tmp 15)
 (.seq (.rgn [] [LL 4 (.assign (.const (.bool false))) 4])
 .ret)
 .skip))
 (.seq (.rgn [] [LL 4 (.assign (.const (.bool true))) 4])
 .ret))))
theorem lit214 : Lit Try.prog 214 16 [2, 3] [.tmp 4] c214 := ⟨⟨Try.f214, _, Try.func214, rfl, by kernel_rfl, rfl, rfl, by kernel_rfl, by kernel_rfl⟩, by decide, by kernel_rfl⟩
/-- laws.eqIntSS -/
def c215 : LC :=
  (.seq (.rgn [] [LL 4 (.assign (.const (.bool false))) 4])
 (.seq (.seq (.rgn [] [LL 6 (.move (.tmp 0)) 82,
 LL 7 (.call { callee := (.builtin .len), args := #[(.tmp 6)], argTypes := #[82] }) 3,
 LL 8 (.move (.tmp 1)) 82,
 LL 9 (.call { callee := (.builtin .len), args := #[(.tmp 8)], argTypes := #[82] }) 3,
 LL 10 (.binOp .neq 3 (.tmp 7) (.tmp 9) 3) 4])
 (.cond (.tmp 10)
 (.seq (.rgn [] [LL 4 (.assign (.const (.bool false))) 4])
 .ret)
 .skip))
 (.seq (.seq (.rgn [] [LL 5 (.assign (.const (.int .i64 0))) 3])
 (.blk 0
 (.loop []
 (.seq (.seq (.rgn [] [LL 11 (.move (.tmp 5)) 3,
 LL 12 (.move (.tmp 0)) 82,
 LL 13 (.call { callee := (.builtin .len), args := #[(.tmp 12)], argTypes := #[82] }) 3,
 LL 14 (.binOp .lss 3 (.tmp 11) (.tmp 13) 3) 4])
 (.cond (.tmp 14)
 .skip
 (.exit 0)))
 (.seq (.blk 1
 (.seq (.drw [] [([0], [17]), ([5], [18]), ([17, 18], [19]), ([19], [20]), ([1], [21]), ([5], [22]), ([21, 22], [23]), ([23], [24]), ([20, 24], [25]), ([25], [26])] [[], [], [0, 1], [2], [], [], [4, 5], [6], [3, 7], [8]] [LL 17 (.move (.tmp 0)) 82,
 LL 18 (.move (.tmp 5)) 3,
 LL 19 (.indexAddr 82 (.tmp 17) (.tmp 18)) 0,
 LL 20 (.load 25 (.tmp 19)) 25,
 LL 21 (.move (.tmp 1)) 82,
 LL 22 (.move (.tmp 5)) 3,
 LL 23 (.indexAddr 82 (.tmp 21) (.tmp 22)) 0,
 LL 24 (.load 25 (.tmp 23)) 25,
 LL 25 (.call { callee := (.value (.func 19)), args := #[(.tmp 20), (.tmp 24)], argTypes := #[25, 25] }) 4,
 LL 26 (.unOp .not 4 (.tmp 25)) 4])
 (.cond (.tmp 26)
 (.seq (.rgn [] [LL 4 (.assign (.const (.bool false))) 4])
 .ret)
 .skip)))
 (.rgn [] [LL 15 (.move (.tmp 5)) 3,
 LL 16 (.binOp .add 3 (.tmp 15) (.const (.int .i64 1)) 3) 3,
 LL 5 (.assign (.tmp 16)) 3]))))))
 (.seq (.rgn [] [LL 4 (.assign (.const (.bool true))) 4])
 .ret))))
theorem lit215 : Lit Try.prog 215 27 [] [.tmp 4] c215 := ⟨⟨Try.f215, _, Try.func215, rfl, by kernel_rfl, rfl, rfl, by kernel_rfl, by kernel_rfl⟩, by decide, by kernel_rfl⟩
/-- spec.IsValidName -/
def c216 : LC :=
  (.seq (.rgn [] [LL 2 (.assign (.const (.bool false))) 4])
 (.seq (.seq (.rgn [] [LL 3 (.assign (.const (.int .i64 0))) 3])
 (.blk 0
 (.loop []
 (.seq (.seq (.rgn [] [LL 4 (.move (.tmp 3)) 3,
 LL 5 (.move (.tmp 0)) 9,
 LL 6 (.call { callee := (.builtin .len), args := #[(.tmp 5)], argTypes := #[9] }) 3,
 LL 7 (.binOp .lss 3 (.tmp 4) (.tmp 6) 3) 4])
 (.cond (.tmp 7)
 .skip
 (.exit 0)))
 (.seq (.blk 1
 (.seq (.rgn [] [LL 10 (.move (.tmp 0)) 9,
 LL 11 (.move (.tmp 3)) 3,
 LL 12 (.index 9 (.tmp 10) (.tmp 11)) 5,
 LL 13 (.binOp .lss 5 (.tmp 12) (.const (.int .u8 97)) 5) 4,
 LL 14 (.move (.tmp 13)) 4,
 ⟨some 15, (.move (.tmp 0)), 9, some (some 14, false)⟩,
 ⟨some 16, (.move (.tmp 3)), 3, some (some 14, false)⟩,
 ⟨some 17, (.index 9 (.tmp 15) (.tmp 16)), 5, some (some 14, false)⟩,
 ⟨some 18, (.binOp .gtr 5 (.tmp 17) (.const (.int .u8 122)) 5), 4, some (some 14, false)⟩,
 LL 19 (.pick (.tmp 14) (.const (.bool true)) (.tmp 18)) 4])
 (.cond (.tmp 19)
 (.seq (.rgn [] [LL 2 (.assign (.const (.bool false))) 4])
 .ret)
 .skip)))
 (.rgn [] [LL 8 (.move (.tmp 3)) 3,
 LL 9 (.binOp .add 3 (.tmp 8) (.const (.int .i64 1)) 3) 3,
 LL 3 (.assign (.tmp 9)) 3]))))))
 (.seq (.rgn [] [LL 20 (.move (.tmp 0)) 9,
 LL 21 (.call { callee := (.builtin .len), args := #[(.tmp 20)], argTypes := #[9] }) 3,
 LL 22 (.call { callee := (.value (.func 86)), args := #[(.tmp 21), (.const (.int .i64 1)), (.const (.int .i64 4))], argTypes := #[3, 3, 3] }) 4,
 LL 2 (.assign (.tmp 22)) 4])
 .ret)))
theorem lit216 : Lit Try.prog 216 23 [] [.tmp 2] c216 := ⟨⟨Try.f216, _, Try.func216, rfl, by kernel_rfl, rfl, rfl, by kernel_rfl, by kernel_rfl⟩, by decide, by kernel_rfl⟩
/-- impl.IsValidName -/
def c218 : LC :=
  (.seq (.rgn [] [LL 2 (.assign (.const (.bool false))) 4])
 (.seq (.rgn [] [LL 3 (.move (.tmp 0)) 9,
 LL 4 (.call { callee := (.value (.func 243)), args := #[(.tmp 3), (.const (.int .i64 4))], argTypes := #[9, 3] }) 4,
 LL 2 (.assign (.tmp 4)) 4])
 .ret))
theorem lit218 : Lit Try.prog 218 5 [] [.tmp 2] c218 := ⟨⟨Try.f218, _, Try.func218, rfl, by kernel_rfl, rfl, rfl, by kernel_rfl, by kernel_rfl⟩, by decide, by kernel_rfl⟩
/-- impl.join -/
def c221 : LC :=
  (.seq (.rgn [] [LL 4 (.assign (.const (.string { data := #[] }))) 9])
 (.seq (.rgn [] [LL 5 (.assign (.const (.string { data := #[] }))) 9])
 (.seq (.seq (.rgn [] [LL 8 (.move (.tmp 0)) 144,
 LL 9 (.call { callee := (.builtin .len), args := #[(.tmp 8)], argTypes := #[144] }) 3,
 LL 10 (.move (.const (.int .i64 0))) 3])
 (.blk 0
 (.loop []
 (.seq (.rgn [] [LL 11 (.binOp .lss 3 (.tmp 10) (.tmp 9) 3) 0])
 (.seq (.cond (.tmp 11)
 .skip
 (.exit 0))
 (.seq (.blk 1
 (.seq (.rgn [] [LL 12 (.move (.tmp 10)) 3,
 LL 13 (.indexAddr 144 (.tmp 8) (.tmp 10)) 0,
 LL 14 (.load 9 (.tmp 13)) 9,
 LL 6 (.assign (.tmp 12)) 3,
 LL 7 (.assign (.tmp 14)) 9])
 (.seq (.seq (.rgn [] [LL 15 (.move (.tmp 6)) 3,
 LL 16 (.binOp .gtr 3 (.tmp 15) (.const (.int .i64 0)) 3) 4])
 (.cond (.tmp 16)
 (.rgn [] [LL 17 (.move (.tmp 5)) 9,
 LL 18 (.move (.tmp 1)) 9,
 LL 19 (.binOp .add 9 (.tmp 17) (.tmp 18) 9) 9,
 LL 5 (.assign (.tmp 19)) 9])
 .skip))
 (.rgn [] [LL 20 (.move (.tmp 5)) 9,
 LL 21 (.move (.tmp 7)) 9,
 LL 22 (.binOp .add 9 (.tmp 20) (.tmp 21) 9) 9,
 LL 5 (.assign (.tmp 22)) 9]))))
 (.rgn [] [LL 23 (.binOp .add 3 (.tmp 10) (.const (.int .i64 1)) 3) 3,
 LL 10 (.move (.tmp 23)) 3])))))))
 (.seq (.rgn [] [LL 24 (.move (.tmp 5)) 9,
 LL 4 (.assign (.tmp 24)) 9])
 .ret))))
theorem lit221 : Lit Try.prog 221 25 [] [.tmp 4] c221 := ⟨⟨Try.f221, _, Try.func221, rfl, by kernel_rfl, rfl, rfl, by kernel_rfl, by kernel_rfl⟩, by decide, by kernel_rfl⟩
/-- impl.ContainsVariable -/
def c229 : LC :=
  (.seq (.rgn [] [LL 2 (.box 195 (.tmp 0)) 0,
 LL 4 (.assign (.const (.bool false))) 4])
 (.seq (.rgn [] [LL 5 (.fieldAddr 195 (.tmp 2) 1) 0,
 LL 6 (.load 25 (.tmp 5)) 25,
 LL 7 (.move (.tmp 1)) 3,
 LL 8 (.call { callee := (.value (.func 230)), args := #[(.tmp 6), (.tmp 7)], argTypes := #[25, 3] }) 4,
 LL 4 (.assign (.tmp 8)) 4])
 .ret))
theorem lit229 : Lit Try.prog 229 9 [2] [.tmp 4] c229 := ⟨⟨Try.f229, _, Try.func229, rfl, by kernel_rfl, rfl, rfl, by kernel_rfl, by kernel_rfl⟩, by decide, by kernel_rfl⟩
/-- impl.hasInt -/
def c230 : LC :=
  (.seq (.rgn [] [LL 4 (.assign (.const (.bool false))) 4])
 (.seq (.rgn [] [LL 5 (.move (.tmp 0)) 25,
 LL 6 (.move (.tmp 1)) 3,
 LL 7 (.call { callee := (.value (.func 252)), args := #[(.tmp 5), (.tmp 6)], argTypes := #[25, 3] }) 3,
 LL 8 (.binOp .geq 3 (.tmp 7) (.const (.int .i64 0)) 3) 4,
 LL 4 (.assign (.tmp 8)) 4])
 .ret))
theorem lit230 : Lit Try.prog 230 9 [] [.tmp 4] c230 := ⟨⟨Try.f230, _, Try.func230, rfl, by kernel_rfl, rfl, rfl, by kernel_rfl, by kernel_rfl⟩, by decide, by kernel_rfl⟩
/-- impl.isLetters -/
def c243 : LC :=
  (.seq (.rgn [] [LL 4 (.assign (.const (.bool false))) 4])
 (.seq (.seq (.rgn [] [LL 6 (.move (.tmp 0)) 9,
 LL 7 (.call { callee := (.builtin .len), args := #[(.tmp 6)], argTypes := #[9] }) 3,
 LL 8 (.binOp .lss 3 (.tmp 7) (.const (.int .i64 1)) 3) 4,
 LL 9 (.move (.tmp 8)) 4,
 ⟨some 10, (.move (.tmp 0)), 9, some (some 9, false)⟩,
 ⟨some 11, (.call { callee := (.builtin .len), args := #[(.tmp 10)], argTypes := #[9] }), 3, some (some 9, false)⟩,
 ⟨some 12, (.move (.tmp 1)), 3, some (some 9, false)⟩,
 ⟨some 13, (.binOp .gtr 3 (.tmp 11) (.tmp 12) 3), 4, some (some 9, false)⟩,
 LL 14 (.pick (.tmp 9) (.const (.bool true)) (.tmp 13)) 4])
 (.cond (.tmp 14)
 (.seq (.rgn [] [LL 4 (.assign (.const (.bool false))) 4])
 .ret)
 .skip))
 (.seq (.seq (.rgn [] [LL 5 (.assign (.const (.int .i64 0))) 3])
 (.blk 0
 (.loop []
 (.seq (.seq (.rgn [] [LL 15 (.move (.tmp 5)) 3,
 LL 16 (.move (.tmp 0)) 9,
 LL 17 (.call { callee := (.builtin .len), args := #[(.tmp 16)], argTypes := #[9] }) 3,
 LL 18 (.binOp .lss 3 (.tmp 15) (.tmp 17) 3) 4])
 (.cond (.tmp 18)
 .skip
 (.exit 0)))
 (.seq (.blk 1
 (.seq (.rgn [] [LL 21 (.move (.tmp 0)) 9,
 LL 22 (.move (.tmp 5)) 3,
 LL 23 (.index 9 (.tmp 21) (.tmp 22)) 5,
 LL 24 (.binOp .lss 5 (.tmp 23) (.const (.int .u8 97)) 5) 4,
 LL 25 (.move (.tmp 24)) 4,
 ⟨some 26, (.move (.tmp 0)), 9, some (some 25, false)⟩,
 ⟨some 27, (.move (.tmp 5)), 3, some (some 25, false)⟩,
 ⟨some 28, (.index 9 (.tmp 26) (.tmp 27)), 5, some (some 25, false)⟩,
 ⟨some 29, (.binOp .gtr 5 (.tmp 28) (.const (.int .u8 122)) 5), 4, some (some 25, false)⟩,
 LL 30 (.pick (.tmp 25) (.const (.bool true)) (.tmp 29)) 4])
 (.cond (.tmp 30)
 (.seq (.rgn [] [LL 4 (.assign (.const (.bool false))) 4])
 .ret)
 .skip)))
 (.rgn [] [LL 19 (.move (.tmp 5)) 3,
 LL 20 (.binOp .add 3 (.tmp 19) (.const (.int .i64 1)) 3) 3,
 LL 5 (.assign (.tmp 20)) 3]))))))
 (.seq (.rgn [] [LL 4 (.assign (.const (.bool true))) 4])
 .ret))))
theorem lit243 : Lit Try.prog 243 31 [] [.tmp 4] c243 := ⟨⟨Try.f243, _, Try.func243, rfl, by kernel_rfl, rfl, rfl, by kernel_rfl, by kernel_rfl⟩, by decide, by kernel_rfl⟩
/-- impl.indexOf -/
def c252 : LC :=
  (.seq (.rgn [] [LL 4 (.assign (.const (.int .i64 0))) 3])
 (.seq (.seq (.rgn [] [LL 7 (.move (.tmp 0)) 25,
 LL 8 (.call { callee := (.builtin .len), args := #[(.tmp 7)], argTypes := #[25] }) 3,
 LL 9 (.move (.const (.int .i64 0))) 3])
 (.blk 0
 (.loop []
 (.seq (.rgn [] [LL 10 (.binOp .lss 3 (.tmp 9) (.tmp 8) 3) 0])
 (.seq (.cond (.tmp 10)
 .skip
 (.exit 0))
 (.seq (.blk 1
 (.seq (.rgn [] [LL 11 (.move (.tmp 9)) 3,
 LL 12 (.indexAddr 25 (.tmp 7) (.tmp 9)) 0,
 LL 13 (.load 3 (.tmp 12)) 3,
 LL 5 (.assign (.tmp 11)) 3,
 LL 6 (.assign (.tmp 13)) 3])
 (.seq (.rgn [] [LL 14 (.move (.tmp 6)) 3,
 LL 15 (.move (.tmp 1)) 3,
 LL 16 (.binOp .eql 3 (.tmp 14) (.tmp 15) 3) 4])
 (.cond (.tmp 16)
 (.seq (.rgn [] [LL 17 (.move (.tmp 5)) 3,
 LL 4 (.assign (.tmp 17)) 3])
 .ret)
 .skip))))
 (.rgn [] [LL 18 (.binOp .add 3 (.tmp 9) (.const (.int .i64 1)) 3) 3,
 LL 9 (.move (.tmp 18)) 3])))))))
 (.seq (.rgn [] [LL 4 (.assign (.const (.int .i64 (-1)))) 3])
 .ret)))
theorem lit252 : Lit Try.prog 252 19 [] [.tmp 4] c252 := ⟨⟨Try.f252, _, Try.func252, rfl, by kernel_rfl, rfl, rfl, by kernel_rfl, by kernel_rfl⟩, by decide, by kernel_rfl⟩
end Go.Proofs.Ytkcfahfladikkaa
