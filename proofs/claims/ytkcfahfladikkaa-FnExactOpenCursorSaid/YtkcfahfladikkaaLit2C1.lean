/-
  The functions' code as the program holds it, without places and edges; printed by genlit.py. No conditions.
-/
import Derived.Test.YtkcfahfladikkaaLitC1
namespace Go.Proofs.Ytkcfahfladikkaa
open Go.RowKit
set_option linter.unusedVariables false
set_option maxRecDepth 100000
/-- laws.FnExactOpenCursor -/
def c10 : LC :=
  (.seq (.rgn [] [LL 3 (.box 46 (.tmp 0)) 0,
 LL 4 (.box 79 (.tmp 1)) 0,
 LL 6 (.assign (.const (.bool false))) 4])
 (.seq (.seq (.rgn [] [LL 20 (.move (.tmp 2)) 25,
 LL 21 (.call { callee := (.builtin .len), args := #[(.tmp 20)], argTypes := #[25] }) 3,
 LL 22 (.binOp .gtr 3 (.tmp 21) (.const (.int .i64 1048576)) 3) 4])
 (.cond (.tmp 22)
 (.seq (.rgn [] [LL 6 (.assign (.const (.bool true))) 4])
 .ret)
 .skip))
 (.seq (.rgn [] [LL 7 (.assign (.const (.int .i64 1048576))) 3])
 (.seq (.rgn [] [LL 23 (.load 46 (.tmp 3)) 46,
 LL 24 (.move (.tmp 7)) 3,
 LL 25 (.call { callee := (.value (.func 26)), args := #[(.tmp 23), (.tmp 24)], argTypes := #[46, 3] }) 3,
 LL 7 (.assign (.tmp 25)) 3])
 (.seq (.seq (.rgn [] [LL 26 (.move (.tmp 7)) 3,
 LL 27 (.binOp .lss 3 (.tmp 26) (.const (.int .i64 0)) 3) 4])
 (.cond (.tmp 27)
 (.seq (.rgn [] [LL 6 (.assign (.const (.bool true))) 4])
 .ret)
 .skip))
 (.seq (.rgn [] [LL 28 (.load 79 (.tmp 4)) 79,
 LL 29 (.move (.tmp 7)) 3,
 LL 30 (.call { callee := (.value (.func 43)), args := #[(.tmp 28), (.tmp 29)], argTypes := #[79, 3] }) 3,
 LL 7 (.assign (.tmp 30)) 3])
 (.seq (.seq (.rgn [] [LL 31 (.move (.tmp 7)) 3,
 LL 32 (.binOp .lss 3 (.tmp 31) (.const (.int .i64 0)) 3) 4])
 (.cond (.tmp 32)
 (.seq (.rgn [] [LL 6 (.assign (.const (.bool true))) 4])
 .ret)
 .skip))
 (.seq (.drw [33] [([3], [34]), ([34], [35]), ([4], [36]), ([36], [37]), ([2], [38]), ([38], [39]), ([35, 37, 39], [40]), ([40], [33, 40]), ([33], [33, 41]), ([33], [33, 42]), ([8], [8]), ([8, 41], [8, 41]), ([42], [9, 42])] [[], [0], [], [2, 1], [], [4, 3], [1, 3, 5, 5], [6], [7], [7], [], [10, 8, 6, 0, 1, 2, 3, 4, 5, 6, 7, 8, 10], [9, 11, 0, 1, 2, 3, 4, 5, 6, 7, 8, 9, 10, 11]] [LL 34 (.load 46 (.tmp 3)) 46,
 LL 35 (.call { callee := (.value (.func 28)), args := #[(.tmp 34)], argTypes := #[46] }) 52,
 LL 36 (.load 79 (.tmp 4)) 79,
 LL 37 (.call { callee := (.value (.func 46)), args := #[(.tmp 36)], argTypes := #[79] }) 92,
 LL 38 (.move (.tmp 2)) 25,
 LL 39 (.call { callee := (.value (.func 58)), args := #[(.tmp 38)], argTypes := #[25] }) 25,
 LL 40 (.call { callee := (.value (.func 57)), args := #[(.tmp 35), (.tmp 37), (.tmp 39)], argTypes := #[52, 92, 25] }) 109,
 LL 33 (.move (.tmp 40)) 109,
 LL 41 (.extract (.tmp 33) 0) 108,
 LL 42 (.extract (.tmp 33) 1) 4,
 LL 8 (.alloc 108) 0,
 ⟨none, (.store 108 (.tmp 8) (.tmp 41)), 0, none⟩,
 LL 9 (.assign (.tmp 42)) 4])
 (.seq (.rgn [] [LL 43 (.load 46 (.tmp 3)) 46,
 LL 44 (.call { callee := (.value (.func 28)), args := #[(.tmp 43)], argTypes := #[46] }) 52,
 LL 10 (.alloc 52) 0,
 ⟨none, (.store 52 (.tmp 10) (.tmp 44)), 0, none⟩])
 (.seq (.rgn [] [LL 45 (.load 79 (.tmp 4)) 79,
 LL 46 (.call { callee := (.value (.func 46)), args := #[(.tmp 45)], argTypes := #[79] }) 92,
 LL 11 (.alloc 92) 0,
 ⟨none, (.store 92 (.tmp 11) (.tmp 46)), 0, none⟩])
 (.seq (.rgn [] [LL 47 (.move (.tmp 2)) 25,
 LL 48 (.call { callee := (.value (.func 58)), args := #[(.tmp 47)], argTypes := #[25] }) 25,
 LL 12 (.assign (.tmp 48)) 25])
 (.seq (.rgn [49] [LL 50 (.load 52 (.tmp 10)) 52,
 LL 51 (.load 92 (.tmp 11)) 92,
 LL 52 (.move (.tmp 12)) 25,
 LL 53 (.call { callee := (.value (.func 59)), args := #[(.tmp 50), (.tmp 51), (.tmp 52)], argTypes := #[52, 92, 25] }) 109,
 LL 49 (.move (.tmp 53)) 109,
 LL 54 (.extract (.tmp 49) 0) 108,
 LL 55 (.extract (.tmp 49) 1) 4,
 LL 13 (.alloc 108) 0,
 ⟨none, (.store 108 (.tmp 13) (.tmp 54)), 0, none⟩,
 LL 14 (.assign (.tmp 55)) 4])
 (.seq (.seq (.rgn [] [LL 56 (.load 108 (.tmp 13)) 108,
 LL 57 (.load 108 (.tmp 8)) 108,
 LL 58 (.call { callee := (.value (.func 60)), args := #[(.tmp 56), (.tmp 57)], argTypes := #[108, 108] }) 4,
 LL 59 (.unOp .not 4 (.tmp 58)) 4,
 LL 60 (.move (.tmp 59)) 4,
 ⟨some 61, (.move (.tmp 14)), 4, some (some 60, false)⟩,
 ⟨some 62, (.move (.tmp 9)), 4, some (some 60, false)⟩,
 ⟨some 63, (.binOp .neq 4 (.tmp 61) (.tmp 62) 4), 4, some (some 60, false)⟩,
 LL 64 (.pick (.tmp 60) (.const (.bool true)) (.tmp 63)) 4])
 (.cond (.tmp 64)
 (.seq (.rgn [] [LL 6 (.assign (.const (.bool false))) 4])
 .ret)
 .skip))
 (.seq (.seq (.drw [] [([10], [65]), ([3], [66]), ([66], [67]), ([65, 67], [68]), ([68], [69])] [[], [], [1], [0, 2, 2], [3]] [LL 65 (.load 52 (.tmp 10)) 52,
 LL 66 (.load 46 (.tmp 3)) 46,
 LL 67 (.call { callee := (.value (.func 28)), args := #[(.tmp 66)], argTypes := #[46] }) 52,
 LL 68 (.call { callee := (.value (.func 30)), args := #[(.tmp 65), (.tmp 67)], argTypes := #[52, 52] }) 4,
 LL 69 (.unOp .not 4 (.tmp 68)) 4])
 (.cond (.tmp 69)
 (.seq (.rgn [] [LL 6 (.assign (.const (.bool false))) 4])
 .ret)
 .skip))
 (.seq (.seq (.drw [] [([11], [70]), ([4], [71]), ([71], [72]), ([70, 72], [73]), ([73], [74])] [[], [], [1], [0, 2, 2], [3]] [LL 70 (.load 92 (.tmp 11)) 92,
 LL 71 (.load 79 (.tmp 4)) 79,
 LL 72 (.call { callee := (.value (.func 46)), args := #[(.tmp 71)], argTypes := #[79] }) 92,
 LL 73 (.call { callee := (.value (.func 49)), args := #[(.tmp 70), (.tmp 72)], argTypes := #[92, 92] }) 4,
 LL 74 (.unOp .not 4 (.tmp 73)) 4])
 (.cond (.tmp 74)
 (.seq (.rgn [] [LL 6 (.assign (.const (.bool false))) 4])
 .ret)
 .skip))
 (.seq (.seq (.rgn [] [LL 75 (.move (.tmp 12)) 25,
 LL 76 (.move (.tmp 2)) 25,
 LL 77 (.call { callee := (.value (.func 58)), args := #[(.tmp 76)], argTypes := #[25] }) 25,
 LL 78 (.call { callee := (.value (.func 19)), args := #[(.tmp 75), (.tmp 77)], argTypes := #[25, 25] }) 4,
 LL 79 (.unOp .not 4 (.tmp 78)) 4])
 (.cond (.tmp 79)
 (.seq (.rgn [] [LL 6 (.assign (.const (.bool false))) 4])
 .ret)
 .skip))
 (.seq (.rgn [] [LL 15 (.assign (.const (.int .i64 1))) 3])
 (.seq (.rgn [] [LL 80 (.load 52 (.tmp 10)) 52,
 LL 81 (.move (.tmp 15)) 3,
 LL 82 (.call { callee := (.value (.func 31)), args := #[(.tmp 80), (.tmp 81)], argTypes := #[52, 3] }) 3,
 LL 15 (.assign (.tmp 82)) 3])
 (.seq (.rgn [] [LL 83 (.load 92 (.tmp 11)) 92,
 LL 84 (.move (.tmp 15)) 3,
 LL 85 (.call { callee := (.value (.func 61)), args := #[(.tmp 83), (.tmp 84)], argTypes := #[92, 3] }) 3,
 LL 15 (.assign (.tmp 85)) 3])
 (.seq (.rgn [] [LL 86 (.move (.tmp 12)) 25,
 LL 87 (.move (.tmp 15)) 3,
 LL 88 (.call { callee := (.value (.func 24)), args := #[(.tmp 86), (.tmp 87)], argTypes := #[25, 3] }) 3,
 LL 15 (.assign (.tmp 88)) 3])
 (.seq (.seq (.rgn [] [LL 89 (.move (.tmp 15)) 3,
 LL 90 (.binOp .lss 3 (.tmp 89) (.const (.int .i64 0)) 3) 4,
 LL 91 (.move (.tmp 90)) 4,
 ⟨some 92, (.load 108 (.tmp 13)), 108, some (some 91, false)⟩,
 ⟨some 93, (.load 108 (.tmp 8)), 108, some (some 91, false)⟩,
 ⟨some 94, (.call { callee := (.value (.func 60)), args := #[(.tmp 92), (.tmp 93)], argTypes := #[108, 108] }), 4, some (some 91, false)⟩,
 ⟨some 95, (.unOp .not 4 (.tmp 94)), 4, some (some 91, false)⟩,
 LL 96 (.pick (.tmp 91) (.const (.bool true)) (.tmp 95)) 4,
 LL 97 (.move (.tmp 96)) 4,
 ⟨some 98, (.move (.tmp 14)), 4, some (some 97, false)⟩,
 ⟨some 99, (.move (.tmp 9)), 4, some (some 97, false)⟩,
 ⟨some 100, (.binOp .neq 4 (.tmp 98) (.tmp 99) 4), 4, some (some 97, false)⟩,
 LL 101 (.pick (.tmp 97) (.const (.bool true)) (.tmp 100)) 4])
 (.cond (.tmp 101)
 (.seq (.rgn [] [LL 6 (.assign (.const (.bool false))) 4])
 .ret)
 .skip))
 (.seq (.rgn [] [LL 16 (.assign (.const (.int .i64 1))) 3])
 (.seq (.rgn [] [LL 102 (.load 108 (.tmp 13)) 108,
 LL 103 (.move (.tmp 16)) 3,
 LL 104 (.call { callee := (.value (.func 62)), args := #[(.tmp 102), (.tmp 103)], argTypes := #[108, 3] }) 3,
 LL 16 (.assign (.tmp 104)) 3])
 (.seq (.rgn [] [LL 17 (.assign (.const (.int .i64 1))) 3])
 (.seq (.rgn [] [LL 105 (.load 108 (.tmp 13)) 108,
 LL 106 (.move (.tmp 17)) 3,
 LL 107 (.call { callee := (.value (.func 63)), args := #[(.tmp 105), (.tmp 106)], argTypes := #[108, 3] }) 3,
 LL 17 (.assign (.tmp 107)) 3])
 (.seq (.seq (.rgn [] [LL 108 (.move (.tmp 17)) 3,
 LL 109 (.binOp .lss 3 (.tmp 108) (.const (.int .i64 0)) 3) 4])
 (.cond (.tmp 109)
 (.seq (.rgn [] [LL 6 (.assign (.const (.bool false))) 4])
 .ret)
 .skip))
 (.seq (.seq (.rgn [] [LL 110 (.move (.tmp 17)) 3,
 LL 111 (.move (.tmp 16)) 3,
 LL 112 (.binOp .neq 3 (.tmp 110) (.tmp 111) 3) 4])
 (.cond (.tmp 112)
 (.seq (.rgn [] [LL 6 (.assign (.const (.bool false))) 4])
 .ret)
 .skip))
 (.seq (.drw [113] [([3], [114]), ([114], [115]), ([4], [116]), ([116], [117]), ([2], [118]), ([118], [119]), ([115, 117, 119], [120]), ([120], [113, 120]), ([113], [113, 121]), ([113], [113, 122]), ([18], [18]), ([18, 121], [18, 121]), ([122], [19, 122])] [[], [0], [], [2, 1], [], [4, 3], [1, 3, 5, 5], [6], [7], [7], [], [10, 8, 6, 0, 1, 2, 3, 4, 5, 6, 7, 8, 10], [9, 11, 0, 1, 2, 3, 4, 5, 6, 7, 8, 9, 10, 11]] [LL 114 (.load 46 (.tmp 3)) 46,
 LL 115 (.call { callee := (.value (.func 28)), args := #[(.tmp 114)], argTypes := #[46] }) 52,
 LL 116 (.load 79 (.tmp 4)) 79,
 LL 117 (.call { callee := (.value (.func 46)), args := #[(.tmp 116)], argTypes := #[79] }) 92,
 LL 118 (.move (.tmp 2)) 25,
 LL 119 (.call { callee := (.value (.func 58)), args := #[(.tmp 118)], argTypes := #[25] }) 25,
 LL 120 (.call { callee := (.value (.func 59)), args := #[(.tmp 115), (.tmp 117), (.tmp 119)], argTypes := #[52, 92, 25] }) 109,
 LL 113 (.move (.tmp 120)) 109,
 LL 121 (.extract (.tmp 113) 0) 108,
 LL 122 (.extract (.tmp 113) 1) 4,
 LL 18 (.alloc 108) 0,
 ⟨none, (.store 108 (.tmp 18) (.tmp 121)), 0, none⟩,
 LL 19 (.assign (.tmp 122)) 4])
 (.seq (.seq (.rgn [] [LL 123 (.load 108 (.tmp 18)) 108,
 LL 124 (.load 108 (.tmp 8)) 108,
 LL 125 (.call { callee := (.value (.func 60)), args := #[(.tmp 123), (.tmp 124)], argTypes := #[108, 108] }) 4,
 LL 126 (.unOp .not 4 (.tmp 125)) 4,
 LL 127 (.move (.tmp 126)) 4,
 ⟨some 128, (.move (.tmp 19)), 4, some (some 127, false)⟩,
 ⟨some 129, (.move (.tmp 9)), 4, some (some 127, false)⟩,
 ⟨some 130, (.binOp .neq 4 (.tmp 128) (.tmp 129) 4), 4, some (some 127, false)⟩,
 LL 131 (.pick (.tmp 127) (.const (.bool true)) (.tmp 130)) 4])
 (.cond (.tmp 131)
 (.seq (.rgn [] [LL 6 (.assign (.const (.bool false))) 4])
 .ret)
 .skip))
 (.seq (.rgn [] [LL 17 (.assign (.const (.int .i64 1))) 3])
 (.seq (.rgn [] [LL 132 (.load 108 (.tmp 13)) 108,
 LL 133 (.move (.tmp 17)) 3,
 LL 134 (.call { callee := (.value (.func 63)), args := #[(.tmp 132), (.tmp 133)], argTypes := #[108, 3] }) 3,
 LL 17 (.assign (.tmp 134)) 3])
 (.seq (.seq (.rgn [] [LL 135 (.move (.tmp 17)) 3,
 LL 136 (.binOp .lss 3 (.tmp 135) (.const (.int .i64 0)) 3) 4])
 (.cond (.tmp 136)
 (.seq (.rgn [] [LL 6 (.assign (.const (.bool false))) 4])
 .ret)
 .skip))
 (.seq (.seq (.rgn [] [LL 137 (.move (.tmp 17)) 3,
 LL 138 (.move (.tmp 16)) 3,
 LL 139 (.binOp .neq 3 (.tmp 137) (.tmp 138) 3) 4])
 (.cond (.tmp 139)
 (.seq (.rgn [] [LL 6 (.assign (.const (.bool false))) 4])
 .ret)
 .skip))
 (.seq (.rgn [] [LL 6 (.assign (.const (.bool true))) 4])
 .ret))))))))))))))))))))))))))))))))))
theorem lit10 : Lit Try.prog 10 140 [3, 4, 8, 10, 11, 13, 18] [.tmp 6] c10 := ⟨⟨Try.f10, _, Try.func10, rfl, by kernel_rfl, rfl, rfl, by kernel_rfl, by kernel_rfl⟩, by decide, by kernel_rfl⟩
end Go.Proofs.Ytkcfahfladikkaa
