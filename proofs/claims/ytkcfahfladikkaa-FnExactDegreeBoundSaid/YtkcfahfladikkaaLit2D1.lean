/-
  The functions' code as the program holds it, without places and edges; printed by genlit.py. No conditions.
-/
import Derived.Test.YtkcfahfladikkaaLitD1
namespace Go.Proofs.Ytkcfahfladikkaa
open Go.RowKit
set_option linter.unusedVariables false
set_option maxRecDepth 100000
/-- laws.FnExactDegreeBound -/
def c11 : LC :=
  (.seq (.rgn [] [LL 3 (.box 24 (.tmp 0)) 0,
 LL 4 (.box 79 (.tmp 1)) 0,
 LL 6 (.assign (.const (.bool false))) 4])
 (.seq (.seq (.rgn [] [LL 15 (.move (.tmp 2)) 25,
 LL 16 (.call { callee := (.builtin .len), args := #[(.tmp 15)], argTypes := #[25] }) 3,
 LL 17 (.binOp .gtr 3 (.tmp 16) (.const (.int .i64 1048576)) 3) 4])
 (.cond (.tmp 17)
 (.seq (.rgn [] [LL 6 (.assign (.const (.bool true))) 4])
 .ret)
 .skip))
 (.seq (.rgn [] [LL 7 (.assign (.const (.int .i64 1048576))) 3])
 (.seq (.rgn [] [LL 18 (.load 24 (.tmp 3)) 24,
 LL 19 (.move (.tmp 7)) 3,
 LL 20 (.call { callee := (.value (.func 13)), args := #[(.tmp 18), (.tmp 19)], argTypes := #[24, 3] }) 3,
 LL 7 (.assign (.tmp 20)) 3])
 (.seq (.seq (.rgn [] [LL 21 (.move (.tmp 7)) 3,
 LL 22 (.binOp .lss 3 (.tmp 21) (.const (.int .i64 0)) 3) 4])
 (.cond (.tmp 22)
 (.seq (.rgn [] [LL 6 (.assign (.const (.bool true))) 4])
 .ret)
 .skip))
 (.seq (.rgn [] [LL 23 (.load 79 (.tmp 4)) 79,
 LL 24 (.move (.tmp 7)) 3,
 LL 25 (.call { callee := (.value (.func 43)), args := #[(.tmp 23), (.tmp 24)], argTypes := #[79, 3] }) 3,
 LL 7 (.assign (.tmp 25)) 3])
 (.seq (.seq (.rgn [] [LL 26 (.move (.tmp 7)) 3,
 LL 27 (.binOp .lss 3 (.tmp 26) (.const (.int .i64 0)) 3) 4])
 (.cond (.tmp 27)
 (.seq (.rgn [] [LL 6 (.assign (.const (.bool true))) 4])
 .ret)
 .skip))
 (.seq (.drw [] [([3], [29]), ([29], [30]), ([4], [31]), ([31], [32]), ([2], [33]), ([33], [34]), ([30, 32, 34], [35]), ([35], [28]), ([28], [28, 36]), ([28], [28, 37]), ([36], [8, 36]), ([37], [9, 37])] [[], [0], [], [2, 1], [], [4, 3], [1, 3, 5, 5], [6], [7], [7], [8, 6, 0, 1, 2, 3, 4, 5, 6, 7, 8], [9, 10, 0, 1, 2, 3, 4, 5, 6, 7, 8, 9, 10]] [LL 29 (.load 24 (.tmp 3)) 24,
 LL 30 (.call { callee := (.value (.func 16)), args := #[(.tmp 29)], argTypes := #[24] }) 33,
 LL 31 (.load 79 (.tmp 4)) 79,
 LL 32 (.call { callee := (.value (.func 46)), args := #[(.tmp 31)], argTypes := #[79] }) 92,
 LL 33 (.move (.tmp 2)) 25,
 LL 34 (.call { callee := (.value (.func 58)), args := #[(.tmp 33)], argTypes := #[25] }) 25,
 LL 35 (.call { callee := (.value (.func 64)), args := #[(.tmp 30), (.tmp 32), (.tmp 34)], argTypes := #[33, 92, 25] }) 116,
 LL 28 (.move (.tmp 35)) 116,
 LL 36 (.extract (.tmp 28) 0) 3,
 LL 37 (.extract (.tmp 28) 1) 4,
 LL 8 (.assign (.tmp 36)) 3,
 LL 9 (.assign (.tmp 37)) 4])
 (.seq (.rgn [] [LL 38 (.load 24 (.tmp 3)) 24,
 LL 39 (.call { callee := (.value (.func 16)), args := #[(.tmp 38)], argTypes := #[24] }) 33,
 LL 10 (.alloc 33) 0,
 ⟨none, (.store 33 (.tmp 10) (.tmp 39)), 0, none⟩])
 (.seq (.rgn [] [LL 40 (.load 79 (.tmp 4)) 79,
 LL 41 (.call { callee := (.value (.func 46)), args := #[(.tmp 40)], argTypes := #[79] }) 92,
 LL 11 (.alloc 92) 0,
 ⟨none, (.store 92 (.tmp 11) (.tmp 41)), 0, none⟩])
 (.seq (.rgn [] [LL 42 (.move (.tmp 2)) 25,
 LL 43 (.call { callee := (.value (.func 58)), args := #[(.tmp 42)], argTypes := #[25] }) 25,
 LL 12 (.assign (.tmp 43)) 25])
 (.seq (.rgn [] [LL 45 (.load 33 (.tmp 10)) 33,
 LL 46 (.load 92 (.tmp 11)) 92,
 LL 47 (.move (.tmp 12)) 25,
 LL 48 (.call { callee := (.value (.func 65)), args := #[(.tmp 45), (.tmp 46), (.tmp 47)], argTypes := #[33, 92, 25] }) 116,
 LL 44 (.move (.tmp 48)) 116,
 LL 49 (.extract (.tmp 44) 0) 3,
 LL 50 (.extract (.tmp 44) 1) 4,
 LL 13 (.assign (.tmp 49)) 3,
 LL 14 (.assign (.tmp 50)) 4])
 (.seq (.seq (.rgn [] [LL 51 (.move (.tmp 13)) 3,
 LL 52 (.move (.tmp 8)) 3,
 LL 53 (.binOp .neq 3 (.tmp 51) (.tmp 52) 3) 4,
 LL 54 (.move (.tmp 53)) 4,
 ⟨some 55, (.move (.tmp 14)), 4, some (some 54, false)⟩,
 ⟨some 56, (.move (.tmp 9)), 4, some (some 54, false)⟩,
 ⟨some 57, (.binOp .neq 4 (.tmp 55) (.tmp 56) 4), 4, some (some 54, false)⟩,
 LL 58 (.pick (.tmp 54) (.const (.bool true)) (.tmp 57)) 4])
 (.cond (.tmp 58)
 (.seq (.rgn [] [LL 6 (.assign (.const (.bool false))) 4])
 .ret)
 .skip))
 (.seq (.seq (.drw [] [([10], [59]), ([3], [60]), ([60], [61]), ([59, 61], [62]), ([62], [63])] [[], [], [1], [0, 2, 2], [3]] [LL 59 (.load 33 (.tmp 10)) 33,
 LL 60 (.load 24 (.tmp 3)) 24,
 LL 61 (.call { callee := (.value (.func 16)), args := #[(.tmp 60)], argTypes := #[24] }) 33,
 LL 62 (.call { callee := (.value (.func 20)), args := #[(.tmp 59), (.tmp 61)], argTypes := #[33, 33] }) 4,
 LL 63 (.unOp .not 4 (.tmp 62)) 4])
 (.cond (.tmp 63)
 (.seq (.rgn [] [LL 6 (.assign (.const (.bool false))) 4])
 .ret)
 .skip))
 (.seq (.seq (.drw [] [([11], [64]), ([4], [65]), ([65], [66]), ([64, 66], [67]), ([67], [68])] [[], [], [1], [0, 2, 2], [3]] [LL 64 (.load 92 (.tmp 11)) 92,
 LL 65 (.load 79 (.tmp 4)) 79,
 LL 66 (.call { callee := (.value (.func 46)), args := #[(.tmp 65)], argTypes := #[79] }) 92,
 LL 67 (.call { callee := (.value (.func 49)), args := #[(.tmp 64), (.tmp 66)], argTypes := #[92, 92] }) 4,
 LL 68 (.unOp .not 4 (.tmp 67)) 4])
 (.cond (.tmp 68)
 (.seq (.rgn [] [LL 6 (.assign (.const (.bool false))) 4])
 .ret)
 .skip))
 (.seq (.seq (.rgn [] [LL 69 (.move (.tmp 12)) 25,
 LL 70 (.move (.tmp 2)) 25,
 LL 71 (.call { callee := (.value (.func 58)), args := #[(.tmp 70)], argTypes := #[25] }) 25,
 LL 72 (.call { callee := (.value (.func 19)), args := #[(.tmp 69), (.tmp 71)], argTypes := #[25, 25] }) 4,
 LL 73 (.unOp .not 4 (.tmp 72)) 4])
 (.cond (.tmp 73)
 (.seq (.rgn [] [LL 6 (.assign (.const (.bool false))) 4])
 .ret)
 .skip))
 (.seq (.rgn [] [LL 6 (.assign (.const (.bool true))) 4])
 .ret)))))))))))))))))
theorem lit11 : Lit Try.prog 11 74 [3, 4, 10, 11] [.tmp 6] c11 := ⟨⟨Try.f11, _, Try.func11, rfl, by kernel_rfl, rfl, rfl, by kernel_rfl, by kernel_rfl⟩, by decide, by kernel_rfl⟩
end Go.Proofs.Ytkcfahfladikkaa
