/-
  The functions' code as the program holds it, without places and edges; printed by genlit.py. No conditions.
-/
import Derived.Test.YtkcfahfladikkaaLitX1
namespace Go.Proofs.Ytkcfahfladikkaa
open Go.RowKit
set_option linter.unusedVariables false
set_option maxRecDepth 100000
/-- laws.FnExactExplainPlan -/
def c9 : LC :=
  (.seq (.rgn [] [LL 2 (.box 79 (.tmp 0)) 0,
 LL 3 (.box 86 (.tmp 1)) 0,
 LL 4 (.assign (.const (.bool false))) 4])
 (.seq (.rgn [] [LL 5 (.assign (.const (.int .i64 1048576))) 3])
 (.seq (.rgn [] [LL 10 (.load 79 (.tmp 2)) 79,
 LL 11 (.move (.tmp 5)) 3,
 LL 12 (.call { callee := (.value (.func 43)), args := #[(.tmp 10), (.tmp 11)], argTypes := #[79, 3] }) 3,
 LL 5 (.assign (.tmp 12)) 3])
 (.seq (.seq (.rgn [] [LL 13 (.move (.tmp 5)) 3,
 LL 14 (.binOp .lss 3 (.tmp 13) (.const (.int .i64 0)) 3) 4])
 (.cond (.tmp 14)
 (.seq (.rgn [] [LL 4 (.assign (.const (.bool true))) 4])
 .ret)
 .skip))
 (.seq (.rgn [] [LL 15 (.load 86 (.tmp 3)) 86,
 LL 16 (.move (.tmp 5)) 3,
 LL 17 (.call { callee := (.value (.func 44)), args := #[(.tmp 15), (.tmp 16)], argTypes := #[86, 3] }) 3,
 LL 5 (.assign (.tmp 17)) 3])
 (.seq (.seq (.rgn [] [LL 18 (.move (.tmp 5)) 3,
 LL 19 (.binOp .lss 3 (.tmp 18) (.const (.int .i64 0)) 3) 4])
 (.cond (.tmp 19)
 (.seq (.rgn [] [LL 4 (.assign (.const (.bool true))) 4])
 .ret)
 .skip))
 (.seq (.drw [] [([2], [20]), ([20], [21]), ([3], [22]), ([22], [23]), ([21, 23], [24]), ([24], [6, 24])] [[], [0], [], [2, 1], [1, 3, 3], [4, 4, 0, 1, 2, 3, 4]] [LL 20 (.load 79 (.tmp 2)) 79,
 LL 21 (.call { callee := (.value (.func 46)), args := #[(.tmp 20)], argTypes := #[79] }) 92,
 LL 22 (.load 86 (.tmp 3)) 86,
 LL 23 (.call { callee := (.value (.func 47)), args := #[(.tmp 22)], argTypes := #[86] }) 97,
 LL 24 (.call { callee := (.value (.func 55)), args := #[(.tmp 21), (.tmp 23)], argTypes := #[92, 97] }) 9,
 LL 6 (.assign (.tmp 24)) 9])
 (.seq (.rgn [] [LL 25 (.load 79 (.tmp 2)) 79,
 LL 26 (.call { callee := (.value (.func 46)), args := #[(.tmp 25)], argTypes := #[79] }) 92,
 LL 7 (.alloc 92) 0,
 ⟨none, (.store 92 (.tmp 7) (.tmp 26)), 0, none⟩])
 (.seq (.rgn [] [LL 27 (.load 86 (.tmp 3)) 86,
 LL 28 (.call { callee := (.value (.func 47)), args := #[(.tmp 27)], argTypes := #[86] }) 97,
 LL 8 (.alloc 97) 0,
 ⟨none, (.store 97 (.tmp 8) (.tmp 28)), 0, none⟩])
 (.seq (.rgn [] [LL 29 (.load 92 (.tmp 7)) 92,
 LL 30 (.load 97 (.tmp 8)) 97,
 LL 31 (.call { callee := (.value (.func 56)), args := #[(.tmp 29), (.tmp 30)], argTypes := #[92, 97] }) 9,
 LL 9 (.assign (.tmp 31)) 9])
 (.seq (.seq (.rgn [] [LL 32 (.move (.tmp 9)) 9,
 LL 33 (.move (.tmp 6)) 9,
 LL 34 (.binOp .neq 9 (.tmp 32) (.tmp 33) 9) 4])
 (.cond (.tmp 34)
 (.seq (.rgn [] [LL 4 (.assign (.const (.bool false))) 4])
 .ret)
 .skip))
 (.seq (.seq (.drw [] [([7], [35]), ([2], [36]), ([36], [37]), ([35, 37], [38]), ([38], [39])] [[], [], [1], [0, 2, 2], [3]] [LL 35 (.load 92 (.tmp 7)) 92,
 LL 36 (.load 79 (.tmp 2)) 79,
 LL 37 (.call { callee := (.value (.func 46)), args := #[(.tmp 36)], argTypes := #[79] }) 92,
 LL 38 (.call { callee := (.value (.func 49)), args := #[(.tmp 35), (.tmp 37)], argTypes := #[92, 92] }) 4,
 LL 39 (.unOp .not 4 (.tmp 38)) 4])
 (.cond (.tmp 39)
 (.seq (.rgn [] [LL 4 (.assign (.const (.bool false))) 4])
 .ret)
 .skip))
 (.seq (.seq (.drw [] [([8], [40]), ([3], [41]), ([41], [42]), ([40, 42], [43]), ([43], [44])] [[], [], [1], [0, 2, 2], [3]] [LL 40 (.load 97 (.tmp 8)) 97,
 LL 41 (.load 86 (.tmp 3)) 86,
 LL 42 (.call { callee := (.value (.func 47)), args := #[(.tmp 41)], argTypes := #[86] }) 97,
 LL 43 (.call { callee := (.value (.func 50)), args := #[(.tmp 40), (.tmp 42)], argTypes := #[97, 97] }) 4,
 LL 44 (.unOp .not 4 (.tmp 43)) 4])
 (.cond (.tmp 44)
 (.seq (.rgn [] [LL 4 (.assign (.const (.bool false))) 4])
 .ret)
 .skip))
 (.seq (.rgn [] [LL 4 (.assign (.const (.bool true))) 4])
 .ret))))))))))))))
theorem lit9 : Lit Try.prog 9 45 [2, 3, 7, 8] [.tmp 4] c9 := ⟨⟨Try.f9, _, Try.func9, rfl, by kernel_rfl, rfl, rfl, by kernel_rfl, by kernel_rfl⟩, by decide, by kernel_rfl⟩
end Go.Proofs.Ytkcfahfladikkaa
