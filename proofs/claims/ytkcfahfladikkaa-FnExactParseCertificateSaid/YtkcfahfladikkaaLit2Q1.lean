/-
  The functions' code as the program holds it, without places and edges; printed by genlit.py. No conditions.
-/
import Derived.Test.YtkcfahfladikkaaLitQ1
namespace Go.Proofs.Ytkcfahfladikkaa
open Go.RowKit
set_option linter.unusedVariables false
set_option maxRecDepth 100000
/-- laws.FnExactParseCertificate -/
def c5 : LC :=
  (.seq (.rgn [] [LL 2 (.assign (.const (.bool false))) 4])
 (.seq (.seq (.rgn [] [LL 11 (.move (.tmp 0)) 9,
 LL 12 (.call { callee := (.builtin .len), args := #[(.tmp 11)], argTypes := #[9] }) 3,
 LL 13 (.binOp .gtr 3 (.tmp 12) (.const (.int .i64 1048576)) 3) 4])
 (.cond (.tmp 13)
 (.seq (.rgn [] [LL 2 (.assign (.const (.bool true))) 4])
 .ret)
 .skip))
 (.seq (.rgn [14] [LL 15 (.move (.tmp 0)) 9,
 LL 16 (.call { callee := (.value (.func 33)), args := #[(.tmp 15)], argTypes := #[9] }) 60,
 LL 14 (.move (.tmp 16)) 60,
 LL 17 (.extract (.tmp 14) 0) 59,
 LL 18 (.extract (.tmp 14) 1) 4,
 LL 3 (.alloc 59) 0,
 ⟨none, (.store 59 (.tmp 3) (.tmp 17)), 0, none⟩,
 LL 4 (.assign (.tmp 18)) 4])
 (.seq (.rgn [19] [LL 20 (.move (.tmp 0)) 9,
 LL 21 (.call { callee := (.value (.func 34)), args := #[(.tmp 20)], argTypes := #[9] }) 60,
 LL 19 (.move (.tmp 21)) 60,
 LL 22 (.extract (.tmp 19) 0) 59,
 LL 23 (.extract (.tmp 19) 1) 4,
 LL 5 (.alloc 59) 0,
 ⟨none, (.store 59 (.tmp 5) (.tmp 22)), 0, none⟩,
 LL 6 (.assign (.tmp 23)) 4])
 (.seq (.seq (.rgn [] [LL 24 (.load 59 (.tmp 5)) 59,
 LL 25 (.load 59 (.tmp 3)) 59,
 LL 26 (.call { callee := (.value (.func 35)), args := #[(.tmp 24), (.tmp 25)], argTypes := #[59, 59] }) 4,
 LL 27 (.unOp .not 4 (.tmp 26)) 4,
 LL 28 (.move (.tmp 27)) 4,
 ⟨some 29, (.move (.tmp 6)), 4, some (some 28, false)⟩,
 ⟨some 30, (.move (.tmp 4)), 4, some (some 28, false)⟩,
 ⟨some 31, (.binOp .neq 4 (.tmp 29) (.tmp 30) 4), 4, some (some 28, false)⟩,
 LL 32 (.pick (.tmp 28) (.const (.bool true)) (.tmp 31)) 4])
 (.cond (.tmp 32)
 (.seq (.rgn [] [LL 2 (.assign (.const (.bool false))) 4])
 .ret)
 .skip))
 (.seq (.rgn [] [LL 7 (.assign (.const (.int .i64 1))) 3])
 (.seq (.rgn [] [LL 33 (.load 59 (.tmp 5)) 59,
 LL 34 (.move (.tmp 7)) 3,
 LL 35 (.call { callee := (.value (.func 36)), args := #[(.tmp 33), (.tmp 34)], argTypes := #[59, 3] }) 3,
 LL 7 (.assign (.tmp 35)) 3])
 (.seq (.rgn [] [LL 8 (.assign (.const (.int .i64 1))) 3])
 (.seq (.rgn [] [LL 36 (.load 59 (.tmp 5)) 59,
 LL 37 (.move (.tmp 8)) 3,
 LL 38 (.call { callee := (.value (.func 37)), args := #[(.tmp 36), (.tmp 37)], argTypes := #[59, 3] }) 3,
 LL 8 (.assign (.tmp 38)) 3])
 (.seq (.seq (.rgn [] [LL 39 (.move (.tmp 8)) 3,
 LL 40 (.binOp .lss 3 (.tmp 39) (.const (.int .i64 0)) 3) 4])
 (.cond (.tmp 40)
 (.seq (.rgn [] [LL 2 (.assign (.const (.bool false))) 4])
 .ret)
 .skip))
 (.seq (.seq (.rgn [] [LL 41 (.move (.tmp 8)) 3,
 LL 42 (.move (.tmp 7)) 3,
 LL 43 (.binOp .neq 3 (.tmp 41) (.tmp 42) 3) 4])
 (.cond (.tmp 43)
 (.seq (.rgn [] [LL 2 (.assign (.const (.bool false))) 4])
 .ret)
 .skip))
 (.seq (.rgn [44] [LL 45 (.move (.tmp 0)) 9,
 LL 46 (.call { callee := (.value (.func 34)), args := #[(.tmp 45)], argTypes := #[9] }) 60,
 LL 44 (.move (.tmp 46)) 60,
 LL 47 (.extract (.tmp 44) 0) 59,
 LL 48 (.extract (.tmp 44) 1) 4,
 LL 9 (.alloc 59) 0,
 ⟨none, (.store 59 (.tmp 9) (.tmp 47)), 0, none⟩,
 LL 10 (.assign (.tmp 48)) 4])
 (.seq (.seq (.rgn [] [LL 49 (.load 59 (.tmp 9)) 59,
 LL 50 (.load 59 (.tmp 3)) 59,
 LL 51 (.call { callee := (.value (.func 35)), args := #[(.tmp 49), (.tmp 50)], argTypes := #[59, 59] }) 4,
 LL 52 (.unOp .not 4 (.tmp 51)) 4,
 LL 53 (.move (.tmp 52)) 4,
 ⟨some 54, (.move (.tmp 10)), 4, some (some 53, false)⟩,
 ⟨some 55, (.move (.tmp 4)), 4, some (some 53, false)⟩,
 ⟨some 56, (.binOp .neq 4 (.tmp 54) (.tmp 55) 4), 4, some (some 53, false)⟩,
 LL 57 (.pick (.tmp 53) (.const (.bool true)) (.tmp 56)) 4])
 (.cond (.tmp 57)
 (.seq (.rgn [] [LL 2 (.assign (.const (.bool false))) 4])
 .ret)
 .skip))
 (.seq (.rgn [] [LL 8 (.assign (.const (.int .i64 1))) 3])
 (.seq (.rgn [] [LL 58 (.load 59 (.tmp 5)) 59,
 LL 59 (.move (.tmp 8)) 3,
 LL 60 (.call { callee := (.value (.func 37)), args := #[(.tmp 58), (.tmp 59)], argTypes := #[59, 3] }) 3,
 LL 8 (.assign (.tmp 60)) 3])
 (.seq (.seq (.rgn [] [LL 61 (.move (.tmp 8)) 3,
 LL 62 (.binOp .lss 3 (.tmp 61) (.const (.int .i64 0)) 3) 4])
 (.cond (.tmp 62)
 (.seq (.rgn [] [LL 2 (.assign (.const (.bool false))) 4])
 .ret)
 .skip))
 (.seq (.seq (.rgn [] [LL 63 (.move (.tmp 8)) 3,
 LL 64 (.move (.tmp 7)) 3,
 LL 65 (.binOp .neq 3 (.tmp 63) (.tmp 64) 3) 4])
 (.cond (.tmp 65)
 (.seq (.rgn [] [LL 2 (.assign (.const (.bool false))) 4])
 .ret)
 .skip))
 (.seq (.rgn [] [LL 2 (.assign (.const (.bool true))) 4])
 .ret))))))))))))))))))
theorem lit5 : Lit Try.prog 5 66 [3, 5, 9] [.tmp 2] c5 := ⟨⟨Try.f5, _, Try.func5, rfl, by kernel_rfl, rfl, rfl, by kernel_rfl, by kernel_rfl⟩, by decide, by kernel_rfl⟩
end Go.Proofs.Ytkcfahfladikkaa
