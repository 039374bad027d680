/-
  The functions' code as the program holds it, without places and edges; printed by genlit.py. No conditions.
-/
import Derived.Test.YtkcfahfladikkaaTb
namespace Go.Proofs.Ytkcfahfladikkaa
open Go.RowKit
set_option linter.unusedVariables false
set_option maxRecDepth 100000
/-- laws.szDatabase -/
def c13 : LC :=
  (.seq (.rgn [] [LL 2 (.box 24 (.tmp 0)) 0,
 LL 4 (.assign (.const (.int .i64 0))) 3])
 (.seq (.rgn [] [LL 5 (.fieldAddr 24 (.tmp 2) 0) 0,
 LL 6 (.load 22 (.tmp 5)) 22,
 LL 7 (.move (.tmp 1)) 3,
 LL 8 (.call { callee := (.value (.func 71)), args := #[(.tmp 6), (.tmp 7)], argTypes := #[22, 3] }) 3,
 LL 1 (.assign (.tmp 8)) 3])
 (.seq (.seq (.rgn [] [LL 9 (.move (.tmp 1)) 3,
 LL 10 (.binOp .lss 3 (.tmp 9) (.const (.int .i64 0)) 3) 4])
 (.cond (.tmp 10)
 (.seq (.rgn [] [LL 4 (.assign (.const (.int .i64 (-1)))) 3])
 .ret)
 .skip))
 (.seq (.rgn [] [LL 11 (.move (.tmp 1)) 3,
 LL 4 (.assign (.tmp 11)) 3])
 .ret))))
theorem lit13 : Lit Try.prog 13 12 [2] [.tmp 4] c13 := ⟨⟨Try.f13, _, Try.func13, rfl, by kernel_rfl, rfl, rfl, by kernel_rfl, by kernel_rfl⟩, by decide, by kernel_rfl⟩
/-- laws.toDatabase -/
def c16 : LC :=
  (.seq (.rgn [] [LL 1 (.box 24 (.tmp 0)) 0,
 LL 2 (.alloc 33) 0])
 (.seq (.rgn [] [LL 3 (.alloc 33) 0])
 (.seq (.rgn [] [LL 4 (.fieldAddr 24 (.tmp 1) 0) 0,
 LL 5 (.load 22 (.tmp 4)) 22,
 LL 6 (.call { callee := (.value (.func 77)), args := #[(.tmp 5)], argTypes := #[22] }) 31,
 LL 7 (.fieldAddr 33 (.tmp 3) 0) 0,
 ⟨none, (.store 31 (.tmp 7) (.tmp 6)), 0, none⟩])
 (.seq (.rgn [8] [LL 8 (.load 33 (.tmp 3)) 33,
 ⟨none, (.store 33 (.tmp 2) (.tmp 8)), 0, none⟩])
 .ret))))
theorem lit16 : Lit Try.prog 16 9 [1, 2, 3] [.cell 2 33] c16 := ⟨⟨Try.f16, _, Try.func16, rfl, by kernel_rfl, rfl, rfl, by kernel_rfl, by kernel_rfl⟩, by decide, by kernel_rfl⟩
/-- laws.eqIntS -/
def c19 : LC :=
  (.seq (.rgn [] [LL 4 (.assign (.const (.bool false))) 4])
 (.seq (.seq (.rgn [] [LL 6 (.move (.tmp 0)) 25,
 LL 7 (.call { callee := (.builtin .len), args := #[(.tmp 6)], argTypes := #[25] }) 3,
 LL 8 (.move (.tmp 1)) 25,
 LL 9 (.call { callee := (.builtin .len), args := #[(.tmp 8)], argTypes := #[25] }) 3,
 LL 10 (.binOp .neq 3 (.tmp 7) (.tmp 9) 3) 4])
 (.cond (.tmp 10)
 (.seq (.rgn [] [LL 4 (.assign (.const (.bool false))) 4])
 .ret)
 .skip))
 (.seq (.seq (.rgn [] [LL 5 (.assign (.const (.int .i64 0))) 3])
 (.blk 0
 (.loop []
 (.seq (.seq (.rgn [] [LL 11 (.move (.tmp 5)) 3,
 LL 12 (.move (.tmp 0)) 25,
 LL 13 (.call { callee := (.builtin .len), args := #[(.tmp 12)], argTypes := #[25] }) 3,
 LL 14 (.binOp .lss 3 (.tmp 11) (.tmp 13) 3) 4])
 (.cond (.tmp 14)
 .skip
 (.exit 0)))
 (.seq (.blk 1
 (.seq (.drw [] [([0], [17]), ([5], [18]), ([17, 18], [19]), ([19], [20]), ([1], [21]), ([5], [22]), ([21, 22], [23]), ([23], [24]), ([20, 24], [25])] [[], [], [0, 1], [2], [], [], [4, 5], [6], [3, 7]] [LL 17 (.move (.tmp 0)) 25,
 LL 18 (.move (.tmp 5)) 3,
 LL 19 (.indexAddr 25 (.tmp 17) (.tmp 18)) 0,
 LL 20 (.load 3 (.tmp 19)) 3,
 LL 21 (.move (.tmp 1)) 25,
 LL 22 (.move (.tmp 5)) 3,
 LL 23 (.indexAddr 25 (.tmp 21) (.tmp 22)) 0,
 LL 24 (.load 3 (.tmp 23)) 3,
 LL 25 (.binOp .neq 3 (.tmp 20) (.tmp 24) 3) 4])
 (.cond (.tmp 25)
 (.seq (.rgn [] [LL 4 (.assign (.const (.bool false))) 4])
 .ret)
 .skip)))
 (.rgn [] [LL 15 (.move (.tmp 5)) 3,
 LL 16 (.binOp .add 3 (.tmp 15) (.const (.int .i64 1)) 3) 3,
 LL 5 (.assign (.tmp 16)) 3]))))))
 (.seq (.rgn [] [LL 4 (.assign (.const (.bool true))) 4])
 .ret))))
theorem lit19 : Lit Try.prog 19 26 [] [.tmp 4] c19 := ⟨⟨Try.f19, _, Try.func19, rfl, by kernel_rfl, rfl, rfl, by kernel_rfl, by kernel_rfl⟩, by decide, by kernel_rfl⟩
/-- laws.eqDatabase -/
def c20 : LC :=
  (.seq (.rgn [] [LL 2 (.box 33 (.tmp 0)) 0,
 LL 3 (.box 33 (.tmp 1)) 0,
 LL 4 (.assign (.const (.bool false))) 4])
 (.seq (.seq (.rgn [] [LL 5 (.fieldAddr 33 (.tmp 2) 0) 0,
 LL 6 (.load 31 (.tmp 5)) 31,
 LL 7 (.fieldAddr 33 (.tmp 3) 0) 0,
 LL 8 (.load 31 (.tmp 7)) 31,
 LL 9 (.call { callee := (.value (.func 82)), args := #[(.tmp 6), (.tmp 8)], argTypes := #[31, 31] }) 4,
 LL 10 (.unOp .not 4 (.tmp 9)) 4])
 (.cond (.tmp 10)
 (.seq (.rgn [] [LL 4 (.assign (.const (.bool false))) 4])
 .ret)
 .skip))
 (.seq (.rgn [] [LL 4 (.assign (.const (.bool true))) 4])
 .ret)))
theorem lit20 : Lit Try.prog 20 11 [2, 3] [.tmp 4] c20 := ⟨⟨Try.f20, _, Try.func20, rfl, by kernel_rfl, rfl, rfl, by kernel_rfl, by kernel_rfl⟩, by decide, by kernel_rfl⟩
/-- laws.szQuery -/
def c43 : LC :=
  (.seq (.rgn [] [LL 2 (.box 79 (.tmp 0)) 0,
 LL 4 (.assign (.const (.int .i64 0))) 3])
 (.seq (.rgn [] [LL 5 (.fieldAddr 79 (.tmp 2) 1) 0,
 LL 6 (.load 77 (.tmp 5)) 77,
 LL 7 (.move (.tmp 1)) 3,
 LL 8 (.call { callee := (.value (.func 120)), args := #[(.tmp 6), (.tmp 7)], argTypes := #[77, 3] }) 3,
 LL 1 (.assign (.tmp 8)) 3])
 (.seq (.seq (.rgn [] [LL 9 (.move (.tmp 1)) 3,
 LL 10 (.binOp .lss 3 (.tmp 9) (.const (.int .i64 0)) 3) 4])
 (.cond (.tmp 10)
 (.seq (.rgn [] [LL 4 (.assign (.const (.int .i64 (-1)))) 3])
 .ret)
 .skip))
 (.seq (.rgn [] [LL 11 (.fieldAddr 79 (.tmp 2) 2) 0,
 LL 12 (.load 25 (.tmp 11)) 25,
 LL 13 (.move (.tmp 1)) 3,
 LL 14 (.call { callee := (.value (.func 72)), args := #[(.tmp 12), (.tmp 13)], argTypes := #[25, 3] }) 3,
 LL 1 (.assign (.tmp 14)) 3])
 (.seq (.seq (.rgn [] [LL 15 (.move (.tmp 1)) 3,
 LL 16 (.binOp .lss 3 (.tmp 15) (.const (.int .i64 0)) 3) 4])
 (.cond (.tmp 16)
 (.seq (.rgn [] [LL 4 (.assign (.const (.int .i64 (-1)))) 3])
 .ret)
 .skip))
 (.seq (.rgn [] [LL 17 (.move (.tmp 1)) 3,
 LL 4 (.assign (.tmp 17)) 3])
 .ret))))))
theorem lit43 : Lit Try.prog 43 18 [2] [.tmp 4] c43 := ⟨⟨Try.f43, _, Try.func43, rfl, by kernel_rfl, rfl, rfl, by kernel_rfl, by kernel_rfl⟩, by decide, by kernel_rfl⟩
/-- laws.toQuery -/
def c46 : LC :=
  (.seq (.rgn [] [LL 1 (.box 79 (.tmp 0)) 0,
 LL 2 (.alloc 92) 0])
 (.seq (.rgn [] [LL 3 (.alloc 92) 0])
 (.seq (.rgn [] [LL 4 (.fieldAddr 79 (.tmp 1) 0) 0,
 LL 5 (.load 3 (.tmp 4)) 3,
 LL 6 (.fieldAddr 92 (.tmp 3) 0) 0,
 ⟨none, (.store 3 (.tmp 6) (.tmp 5)), 0, none⟩])
 (.seq (.rgn [] [LL 7 (.fieldAddr 79 (.tmp 1) 1) 0,
 LL 8 (.load 77 (.tmp 7)) 77,
 LL 9 (.call { callee := (.value (.func 126)), args := #[(.tmp 8)], argTypes := #[77] }) 90,
 LL 10 (.fieldAddr 92 (.tmp 3) 1) 0,
 ⟨none, (.store 90 (.tmp 10) (.tmp 9)), 0, none⟩])
 (.seq (.rgn [] [LL 11 (.fieldAddr 79 (.tmp 1) 2) 0,
 LL 12 (.load 25 (.tmp 11)) 25,
 LL 13 (.call { callee := (.value (.func 58)), args := #[(.tmp 12)], argTypes := #[25] }) 25,
 LL 14 (.fieldAddr 92 (.tmp 3) 2) 0,
 ⟨none, (.store 25 (.tmp 14) (.tmp 13)), 0, none⟩])
 (.seq (.rgn [15] [LL 15 (.load 92 (.tmp 3)) 92,
 ⟨none, (.store 92 (.tmp 2) (.tmp 15)), 0, none⟩])
 .ret))))))
theorem lit46 : Lit Try.prog 46 16 [1, 2, 3] [.cell 2 92] c46 := ⟨⟨Try.f46, _, Try.func46, rfl, by kernel_rfl, rfl, rfl, by kernel_rfl, by kernel_rfl⟩, by decide, by kernel_rfl⟩
/-- laws.eqQuery -/
def c49 : LC :=
  (.seq (.rgn [] [LL 2 (.box 92 (.tmp 0)) 0,
 LL 3 (.box 92 (.tmp 1)) 0,
 LL 4 (.assign (.const (.bool false))) 4])
 (.seq (.seq (.rgn [] [LL 5 (.fieldAddr 92 (.tmp 2) 0) 0,
 LL 6 (.load 3 (.tmp 5)) 3,
 LL 7 (.fieldAddr 92 (.tmp 3) 0) 0,
 LL 8 (.load 3 (.tmp 7)) 3,
 LL 9 (.binOp .neq 3 (.tmp 6) (.tmp 8) 3) 4])
 (.cond (.tmp 9)
 (.seq (.rgn [] [LL 4 (.assign (.const (.bool false))) 4])
 .ret)
 .skip))
 (.seq (.seq (.rgn [] [LL 10 (.fieldAddr 92 (.tmp 2) 1) 0,
 LL 11 (.load 90 (.tmp 10)) 90,
 LL 12 (.fieldAddr 92 (.tmp 3) 1) 0,
 LL 13 (.load 90 (.tmp 12)) 90,
 LL 14 (.call { callee := (.value (.func 132)), args := #[(.tmp 11), (.tmp 13)], argTypes := #[90, 90] }) 4,
 LL 15 (.unOp .not 4 (.tmp 14)) 4])
 (.cond (.tmp 15)
 (.seq (.rgn [] [LL 4 (.assign (.const (.bool false))) 4])
 .ret)
 .skip))
 (.seq (.seq (.rgn [] [LL 16 (.fieldAddr 92 (.tmp 2) 2) 0,
 LL 17 (.load 25 (.tmp 16)) 25,
 LL 18 (.fieldAddr 92 (.tmp 3) 2) 0,
 LL 19 (.load 25 (.tmp 18)) 25,
 LL 20 (.call { callee := (.value (.func 19)), args := #[(.tmp 17), (.tmp 19)], argTypes := #[25, 25] }) 4,
 LL 21 (.unOp .not 4 (.tmp 20)) 4])
 (.cond (.tmp 21)
 (.seq (.rgn [] [LL 4 (.assign (.const (.bool false))) 4])
 .ret)
 .skip))
 (.seq (.rgn [] [LL 4 (.assign (.const (.bool true))) 4])
 .ret)))))
theorem lit49 : Lit Try.prog 49 22 [2, 3] [.tmp 4] c49 := ⟨⟨Try.f49, _, Try.func49, rfl, by kernel_rfl, rfl, rfl, by kernel_rfl, by kernel_rfl⟩, by decide, by kernel_rfl⟩
/-- laws.toIntS -/
def c58 : LC :=
  (.seq (.rgn [] [LL 2 (.assign (.const (.slice none 0 0))) 25])
 (.seq (.rgn [3, 7] [LL 5 (.move (.tmp 0)) 25,
 LL 6 (.call { callee := (.builtin .len), args := #[(.tmp 5)], argTypes := #[25] }) 3,
 LL 7 (.makeSlice 25 (.tmp 6) (.tmp 6)) 25,
 LL 3 (.assign (.tmp 7)) 25])
 (.seq (.seq (.rgn [] [LL 4 (.assign (.const (.int .i64 0))) 3])
 (.blk 0
 (.loop []
 (.seq (.seq (.rgn [] [LL 8 (.move (.tmp 4)) 3,
 LL 9 (.move (.tmp 0)) 25,
 LL 10 (.call { callee := (.builtin .len), args := #[(.tmp 9)], argTypes := #[25] }) 3,
 LL 11 (.binOp .lss 3 (.tmp 8) (.tmp 10) 3) 4])
 (.cond (.tmp 11)
 .skip
 (.exit 0)))
 (.seq (.blk 1
 (.rgn [] [LL 14 (.move (.tmp 3)) 25,
 LL 15 (.move (.tmp 4)) 3,
 LL 16 (.move (.tmp 0)) 25,
 LL 17 (.move (.tmp 4)) 3,
 LL 18 (.indexAddr 25 (.tmp 16) (.tmp 17)) 0,
 LL 19 (.load 3 (.tmp 18)) 3,
 LL 20 (.indexAddr 25 (.tmp 14) (.tmp 15)) 0,
 ⟨none, (.store 3 (.tmp 20) (.tmp 19)), 0, none⟩]))
 (.rgn [] [LL 12 (.move (.tmp 4)) 3,
 LL 13 (.binOp .add 3 (.tmp 12) (.const (.int .i64 1)) 3) 3,
 LL 4 (.assign (.tmp 13)) 3]))))))
 (.seq (.rgn [21] [LL 21 (.move (.tmp 3)) 25,
 LL 2 (.assign (.tmp 21)) 25])
 .ret))))
theorem lit58 : Lit Try.prog 58 22 [3, 7] [.tmp 2] c58 := ⟨⟨Try.f58, _, Try.func58, rfl, by kernel_rfl, rfl, rfl, by kernel_rfl, by kernel_rfl⟩, by decide, by kernel_rfl⟩
/-- spec.DegreeBound -/
def c64 : LC :=
  (.seq (.rgn [] [LL 3 (.box 33 (.tmp 0)) 0,
 LL 4 (.box 92 (.tmp 1)) 0,
 LL 6 (.assign (.const (.int .i64 0))) 3,
 LL 7 (.assign (.const (.bool false))) 4])
 (.seq (.rgn [18] [LL 19 (.load 33 (.tmp 3)) 33,
 LL 20 (.load 92 (.tmp 4)) 92,
 LL 21 (.move (.tmp 2)) 25,
 LL 22 (.call { callee := (.value (.func 155)), args := #[(.tmp 19), (.tmp 20), (.tmp 21)], argTypes := #[33, 92, 25] }) 190,
 LL 18 (.move (.tmp 22)) 190,
 LL 23 (.extract (.tmp 18) 0) 189,
 LL 24 (.extract (.tmp 18) 1) 4,
 LL 8 (.assign (.tmp 23)) 189,
 LL 9 (.assign (.tmp 24)) 4])
 (.seq (.seq (.rgn [] [LL 25 (.move (.tmp 9)) 4,
 LL 26 (.unOp .not 4 (.tmp 25)) 4])
 (.cond (.tmp 26)
 (.seq (.rgn [] [LL 6 (.assign (.const (.int .i64 0))) 3,
 LL 7 (.assign (.const (.bool false))) 4])
 .ret)
 .skip))
 (.seq (.rgn [] [LL 10 (.assign (.const (.int .i64 1))) 3])
 (.seq (.seq (.rgn [] [LL 11 (.assign (.const (.int .i64 0))) 3])
 (.blk 0
 (.loop []
 (.seq (.seq (.rgn [] [LL 27 (.move (.tmp 11)) 3,
 LL 28 (.move (.tmp 2)) 25,
 LL 29 (.call { callee := (.builtin .len), args := #[(.tmp 28)], argTypes := #[25] }) 3,
 LL 30 (.binOp .lss 3 (.tmp 27) (.tmp 29) 3) 4])
 (.cond (.tmp 30)
 .skip
 (.exit 0)))
 (.seq (.blk 1
 (.seq (.drw [] [([4], [33]), ([2], [34]), ([11], [35]), ([34, 35], [36]), ([36], [37]), ([33, 37], [38]), ([38], [12, 38])] [[], [], [], [1, 2], [3], [0, 4], [5, 5, 0, 1, 2, 3, 4, 5]] [LL 33 (.load 92 (.tmp 4)) 92,
 LL 34 (.move (.tmp 2)) 25,
 LL 35 (.move (.tmp 11)) 3,
 LL 36 (.indexAddr 25 (.tmp 34) (.tmp 35)) 0,
 LL 37 (.load 3 (.tmp 36)) 3,
 LL 38 (.call { callee := (.value (.func 156)), args := #[(.tmp 33), (.tmp 37)], argTypes := #[92, 3] }) 25,
 LL 12 (.assign (.tmp 38)) 25])
 (.seq (.rgn [] [LL 13 (.assign (.const (.int .i64 0))) 3])
 (.seq (.seq (.rgn [] [LL 14 (.assign (.const (.int .i64 0))) 3])
 (.blk 2
 (.loop []
 (.seq (.seq (.rgn [] [LL 39 (.move (.tmp 14)) 3,
 LL 40 (.move (.tmp 12)) 25,
 LL 41 (.call { callee := (.builtin .len), args := #[(.tmp 40)], argTypes := #[25] }) 3,
 LL 42 (.binOp .lss 3 (.tmp 39) (.tmp 41) 3) 4])
 (.cond (.tmp 42)
 .skip
 (.exit 2)))
 (.seq (.blk 3
 (.seq (.rgn [] [LL 15 (.assign (.const (.int .i64 0))) 3])
 (.seq (.seq (.rgn [] [LL 16 (.assign (.const (.int .i64 0))) 3])
 (.blk 4
 (.loop []
 (.seq (.seq (.rgn [] [LL 45 (.move (.tmp 16)) 3,
 LL 46 (.move (.tmp 11)) 3,
 LL 47 (.binOp .lss 3 (.tmp 45) (.tmp 46) 3) 4])
 (.cond (.tmp 47)
 .skip
 (.exit 4)))
 (.seq (.blk 5
 (.seq (.drw [] [([4], [50]), ([4, 50], [51]), ([12], [52]), ([14], [53]), ([52, 53], [54]), ([54], [55]), ([51, 55], [56]), ([56], [57]), ([2], [58]), ([16], [59]), ([58, 59], [60]), ([60], [61]), ([57, 61], [62])] [[], [0], [], [], [2, 3], [4], [1, 5], [6], [], [], [8, 9], [10], [7, 11]] [LL 50 (.fieldAddr 92 (.tmp 4) 1) 0,
 LL 51 (.load 90 (.tmp 50)) 90,
 LL 52 (.move (.tmp 12)) 25,
 LL 53 (.move (.tmp 14)) 3,
 LL 54 (.indexAddr 25 (.tmp 52) (.tmp 53)) 0,
 LL 55 (.load 3 (.tmp 54)) 3,
 LL 56 (.indexAddr 90 (.tmp 51) (.tmp 55)) 0,
 LL 57 (.load 195 (.tmp 56)) 195,
 LL 58 (.move (.tmp 2)) 25,
 LL 59 (.move (.tmp 16)) 3,
 LL 60 (.indexAddr 25 (.tmp 58) (.tmp 59)) 0,
 LL 61 (.load 3 (.tmp 60)) 3,
 LL 62 (.call { callee := (.value (.func 157)), args := #[(.tmp 57), (.tmp 61)], argTypes := #[195, 3] }) 4])
 (.cond (.tmp 62)
 (.rgn [] [LL 63 (.move (.tmp 15)) 3,
 LL 64 (.binOp .add 3 (.tmp 63) (.const (.int .i64 1)) 3) 3,
 LL 15 (.assign (.tmp 64)) 3])
 .skip)))
 (.rgn [] [LL 48 (.move (.tmp 16)) 3,
 LL 49 (.binOp .add 3 (.tmp 48) (.const (.int .i64 1)) 3) 3,
 LL 16 (.assign (.tmp 49)) 3]))))))
 (.seq (.rgn [] [LL 65 (.move (.tmp 8)) 189,
 LL 66 (.move (.tmp 12)) 25,
 LL 67 (.move (.tmp 14)) 3,
 LL 68 (.indexAddr 25 (.tmp 66) (.tmp 67)) 0,
 LL 69 (.load 3 (.tmp 68)) 3,
 LL 70 (.indexAddr 189 (.tmp 65) (.tmp 69)) 0,
 LL 71 (.load 197 (.tmp 70)) 197,
 LL 72 (.move (.tmp 15)) 3,
 LL 73 (.call { callee := (.value (.func 158)), args := #[(.tmp 71), (.tmp 72)], argTypes := #[197, 3] }) 3,
 LL 17 (.assign (.tmp 73)) 3])
 (.seq (.rgn [] [LL 74 (.move (.tmp 14)) 3,
 LL 75 (.binOp .eql 3 (.tmp 74) (.const (.int .i64 0)) 3) 4,
 LL 76 (.move (.tmp 75)) 4,
 ⟨some 77, (.move (.tmp 17)), 3, some (some 76, false)⟩,
 ⟨some 78, (.move (.tmp 13)), 3, some (some 76, false)⟩,
 ⟨some 79, (.binOp .lss 3 (.tmp 77) (.tmp 78) 3), 4, some (some 76, false)⟩,
 LL 80 (.pick (.tmp 76) (.const (.bool true)) (.tmp 79)) 4])
 (.cond (.tmp 80)
 (.rgn [] [LL 81 (.move (.tmp 17)) 3,
 LL 13 (.assign (.tmp 81)) 3])
 .skip))))))
 (.rgn [] [LL 43 (.move (.tmp 14)) 3,
 LL 44 (.binOp .add 3 (.tmp 43) (.const (.int .i64 1)) 3) 3,
 LL 14 (.assign (.tmp 44)) 3]))))))
 (.rgn [] [LL 82 (.move (.tmp 10)) 3,
 LL 83 (.move (.tmp 13)) 3,
 LL 84 (.binOp .mul 3 (.tmp 82) (.tmp 83) 3) 3,
 LL 85 (.call { callee := (.builtin .min), args := #[(.const (.int .i64 1000000000)), (.tmp 84)], argTypes := #[3, 3] }) 3,
 LL 10 (.assign (.tmp 85)) 3])))))
 (.rgn [] [LL 31 (.move (.tmp 11)) 3,
 LL 32 (.binOp .add 3 (.tmp 31) (.const (.int .i64 1)) 3) 3,
 LL 11 (.assign (.tmp 32)) 3]))))))
 (.seq (.rgn [] [LL 86 (.move (.tmp 10)) 3,
 LL 6 (.assign (.tmp 86)) 3,
 LL 7 (.assign (.const (.bool true))) 4])
 .ret))))))
theorem lit64 : Lit Try.prog 64 87 [3, 4] [.tmp 6, .tmp 7] c64 := ⟨⟨Try.f64, _, Try.func64, rfl, by kernel_rfl, rfl, rfl, by kernel_rfl, by kernel_rfl⟩, by decide, by kernel_rfl⟩
/-- impl.DegreeBound -/
def c65 : LC :=
  (.seq (.rgn [] [LL 3 (.box 33 (.tmp 0)) 0,
 LL 4 (.box 92 (.tmp 1)) 0,
 LL 6 (.assign (.const (.int .i64 0))) 3,
 LL 7 (.assign (.const (.bool false))) 4])
 (.seq (.rgn [20] [LL 21 (.load 33 (.tmp 3)) 33,
 LL 22 (.load 92 (.tmp 4)) 92,
 LL 23 (.move (.tmp 2)) 25,
 LL 24 (.call { callee := (.value (.func 159)), args := #[(.tmp 21), (.tmp 22), (.tmp 23)], argTypes := #[33, 92, 25] }) 190,
 LL 20 (.move (.tmp 24)) 190,
 LL 25 (.extract (.tmp 20) 0) 189,
 LL 26 (.extract (.tmp 20) 1) 4,
 LL 8 (.assign (.tmp 25)) 189,
 LL 9 (.assign (.tmp 26)) 4])
 (.seq (.seq (.rgn [] [LL 27 (.move (.tmp 9)) 4,
 LL 28 (.unOp .not 4 (.tmp 27)) 4])
 (.cond (.tmp 28)
 (.seq (.rgn [] [LL 6 (.assign (.const (.int .i64 0))) 3,
 LL 7 (.assign (.const (.bool false))) 4])
 .ret)
 .skip))
 (.seq (.rgn [] [LL 10 (.assign (.const (.int .i64 1))) 3])
 (.seq (.seq (.rgn [] [LL 29 (.move (.tmp 2)) 25,
 LL 30 (.call { callee := (.builtin .len), args := #[(.tmp 29)], argTypes := #[25] }) 3,
 LL 31 (.move (.const (.int .i64 0))) 3])
 (.blk 0
 (.loop []
 (.seq (.rgn [] [LL 32 (.binOp .lss 3 (.tmp 31) (.tmp 30) 3) 0])
 (.seq (.cond (.tmp 32)
 .skip
 (.exit 0))
 (.seq (.blk 1
 (.seq (.rgn [] [LL 33 (.move (.tmp 31)) 3,
 LL 34 (.indexAddr 25 (.tmp 29) (.tmp 31)) 0,
 LL 35 (.load 3 (.tmp 34)) 3,
 LL 11 (.assign (.tmp 33)) 3,
 LL 12 (.assign (.tmp 35)) 3])
 (.seq (.rgn [] [LL 13 (.assign (.const (.int .i64 (-1)))) 3])
 (.seq (.seq (.rgn [] [LL 36 (.load 92 (.tmp 4)) 92,
 LL 37 (.move (.tmp 12)) 3,
 LL 38 (.call { callee := (.value (.func 160)), args := #[(.tmp 36), (.tmp 37)], argTypes := #[92, 3] }) 25,
 LL 39 (.call { callee := (.builtin .len), args := #[(.tmp 38)], argTypes := #[25] }) 3,
 LL 40 (.move (.const (.int .i64 0))) 3])
 (.blk 2
 (.loop []
 (.seq (.rgn [] [LL 41 (.binOp .lss 3 (.tmp 40) (.tmp 39) 3) 0])
 (.seq (.cond (.tmp 41)
 .skip
 (.exit 2))
 (.seq (.blk 3
 (.seq (.rgn [] [LL 42 (.indexAddr 25 (.tmp 38) (.tmp 40)) 0,
 LL 43 (.load 3 (.tmp 42)) 3,
 LL 15 (.assign (.tmp 43)) 3])
 (.seq (.drw [] [([2], [44]), ([11], [45]), ([44, 45], [46]), ([4], [47]), ([4, 47], [48]), ([15], [49]), ([48, 49], [50]), ([50], [51]), ([51], [52]), ([46, 52], [53]), ([53], [54]), ([54], [16, 54])] [[], [], [0, 1], [], [3], [], [4, 5], [6], [7], [2, 8, 8], [9], [10, 9, 0, 1, 2, 3, 4, 5, 6, 7, 8, 9, 10]] [LL 44 (.move (.tmp 2)) 25,
 LL 45 (.move (.tmp 11)) 3,
 LL 46 (.slice 25 (.tmp 44) none (some (.tmp 45)) none) 25,
 LL 47 (.fieldAddr 92 (.tmp 4) 1) 0,
 LL 48 (.load 90 (.tmp 47)) 90,
 LL 49 (.move (.tmp 15)) 3,
 LL 50 (.indexAddr 90 (.tmp 48) (.tmp 49)) 0,
 LL 51 (.load 195 (.tmp 50)) 195,
 LL 52 (.call { callee := (.value (.func 162)), args := #[(.tmp 51)], argTypes := #[195] }) 25,
 LL 53 (.call { callee := (.value (.func 161)), args := #[(.tmp 46), (.tmp 52)], argTypes := #[25, 25] }) 25,
 LL 54 (.call { callee := (.builtin .len), args := #[(.tmp 53)], argTypes := #[25] }) 3,
 LL 16 (.assign (.tmp 54)) 3])
 (.seq (.rgn [] [LL 17 (.assign (.const (.int .i64 0))) 3])
 (.seq (.seq (.rgn [] [LL 55 (.move (.tmp 8)) 189,
 LL 56 (.move (.tmp 15)) 3,
 LL 57 (.indexAddr 189 (.tmp 55) (.tmp 56)) 0,
 LL 58 (.fieldAddr 197 (.tmp 57) 1) 0,
 LL 59 (.load 82 (.tmp 58)) 82,
 LL 60 (.call { callee := (.builtin .len), args := #[(.tmp 59)], argTypes := #[82] }) 3,
 LL 61 (.move (.const (.int .i64 0))) 3])
 (.blk 4
 (.loop []
 (.seq (.rgn [] [LL 62 (.binOp .lss 3 (.tmp 61) (.tmp 60) 3) 0])
 (.seq (.cond (.tmp 62)
 .skip
 (.exit 4))
 (.seq (.blk 5
 (.seq (.rgn [64] [LL 63 (.indexAddr 82 (.tmp 59) (.tmp 61)) 0,
 LL 64 (.load 25 (.tmp 63)) 25,
 LL 19 (.assign (.tmp 64)) 25])
 (.drw [] [([17], [65]), ([8], [66]), ([15], [67]), ([66, 67], [68]), ([68], [69]), ([19], [70]), ([16], [71]), ([70, 71], [72]), ([69, 72], [73]), ([73], [74]), ([65, 74], [75]), ([75], [17, 75])] [[], [], [], [1, 2], [3], [], [], [5, 6], [4, 7], [8], [0, 9], [10, 8, 0, 1, 2, 3, 4, 5, 6, 7, 8, 9, 10]] [LL 65 (.move (.tmp 17)) 3,
 LL 66 (.move (.tmp 8)) 189,
 LL 67 (.move (.tmp 15)) 3,
 LL 68 (.indexAddr 189 (.tmp 66) (.tmp 67)) 0,
 LL 69 (.load 197 (.tmp 68)) 197,
 LL 70 (.move (.tmp 19)) 25,
 LL 71 (.move (.tmp 16)) 3,
 LL 72 (.slice 25 (.tmp 70) none (some (.tmp 71)) none) 25,
 LL 73 (.call { callee := (.value (.func 163)), args := #[(.tmp 69), (.tmp 72)], argTypes := #[197, 25] }) 25,
 LL 74 (.call { callee := (.builtin .len), args := #[(.tmp 73)], argTypes := #[25] }) 3,
 LL 75 (.call { callee := (.builtin .max), args := #[(.tmp 65), (.tmp 74)], argTypes := #[3, 3] }) 3,
 LL 17 (.assign (.tmp 75)) 3])))
 (.rgn [] [LL 76 (.binOp .add 3 (.tmp 61) (.const (.int .i64 1)) 3) 3,
 LL 61 (.move (.tmp 76)) 3])))))))
 (.seq (.rgn [] [LL 77 (.move (.tmp 13)) 3,
 LL 78 (.binOp .lss 3 (.tmp 77) (.const (.int .i64 0)) 3) 4,
 LL 79 (.move (.tmp 78)) 4,
 ⟨some 80, (.move (.tmp 17)), 3, some (some 79, false)⟩,
 ⟨some 81, (.move (.tmp 13)), 3, some (some 79, false)⟩,
 ⟨some 82, (.binOp .lss 3 (.tmp 80) (.tmp 81) 3), 4, some (some 79, false)⟩,
 LL 83 (.pick (.tmp 79) (.const (.bool true)) (.tmp 82)) 4])
 (.cond (.tmp 83)
 (.rgn [] [LL 84 (.move (.tmp 17)) 3,
 LL 13 (.assign (.tmp 84)) 3])
 .skip)))))))
 (.rgn [] [LL 85 (.binOp .add 3 (.tmp 40) (.const (.int .i64 1)) 3) 3,
 LL 40 (.move (.tmp 85)) 3])))))))
 (.rgn [] [LL 86 (.move (.tmp 10)) 3,
 LL 87 (.move (.tmp 13)) 3,
 LL 88 (.binOp .mul 3 (.tmp 86) (.tmp 87) 3) 3,
 LL 89 (.call { callee := (.builtin .min), args := #[(.const (.int .i64 1000000000)), (.tmp 88)], argTypes := #[3, 3] }) 3,
 LL 10 (.assign (.tmp 89)) 3])))))
 (.rgn [] [LL 90 (.binOp .add 3 (.tmp 31) (.const (.int .i64 1)) 3) 3,
 LL 31 (.move (.tmp 90)) 3])))))))
 (.seq (.rgn [] [LL 91 (.move (.tmp 10)) 3,
 LL 6 (.assign (.tmp 91)) 3,
 LL 7 (.assign (.const (.bool true))) 4])
 .ret))))))
theorem lit65 : Lit Try.prog 65 92 [3, 4] [.tmp 6, .tmp 7] c65 := ⟨⟨Try.f65, _, Try.func65, rfl, by kernel_rfl, rfl, rfl, by kernel_rfl, by kernel_rfl⟩, by decide, by kernel_rfl⟩
/-- laws.szTableS -/
def c71 : LC :=
  (.seq (.rgn [] [LL 4 (.assign (.const (.int .i64 0))) 3])
 (.seq (.rgn [] [LL 6 (.move (.tmp 1)) 3,
 LL 7 (.move (.tmp 0)) 22,
 LL 8 (.call { callee := (.builtin .len), args := #[(.tmp 7)], argTypes := #[22] }) 3,
 LL 9 (.binOp .sub 3 (.tmp 6) (.tmp 8) 3) 3,
 LL 1 (.assign (.tmp 9)) 3])
 (.seq (.seq (.rgn [] [LL 10 (.move (.tmp 1)) 3,
 LL 11 (.binOp .lss 3 (.tmp 10) (.const (.int .i64 0)) 3) 4])
 (.cond (.tmp 11)
 (.seq (.rgn [] [LL 4 (.assign (.const (.int .i64 (-1)))) 3])
 .ret)
 .skip))
 (.seq (.seq (.rgn [] [LL 5 (.assign (.const (.int .i64 0))) 3])
 (.blk 0
 (.loop []
 (.seq (.seq (.rgn [] [LL 12 (.move (.tmp 5)) 3,
 LL 13 (.move (.tmp 0)) 22,
 LL 14 (.call { callee := (.builtin .len), args := #[(.tmp 13)], argTypes := #[22] }) 3,
 LL 15 (.binOp .lss 3 (.tmp 12) (.tmp 14) 3) 4])
 (.cond (.tmp 15)
 .skip
 (.exit 0)))
 (.seq (.blk 1
 (.seq (.rgn [] [LL 18 (.move (.tmp 0)) 22,
 LL 19 (.move (.tmp 5)) 3,
 LL 20 (.indexAddr 22 (.tmp 18) (.tmp 19)) 0,
 LL 21 (.load 206 (.tmp 20)) 206,
 LL 22 (.move (.tmp 1)) 3,
 LL 23 (.call { callee := (.value (.func 171)), args := #[(.tmp 21), (.tmp 22)], argTypes := #[206, 3] }) 3,
 LL 1 (.assign (.tmp 23)) 3])
 (.seq (.rgn [] [LL 24 (.move (.tmp 1)) 3,
 LL 25 (.binOp .lss 3 (.tmp 24) (.const (.int .i64 0)) 3) 4])
 (.cond (.tmp 25)
 (.seq (.rgn [] [LL 4 (.assign (.const (.int .i64 (-1)))) 3])
 .ret)
 .skip))))
 (.rgn [] [LL 16 (.move (.tmp 5)) 3,
 LL 17 (.binOp .add 3 (.tmp 16) (.const (.int .i64 1)) 3) 3,
 LL 5 (.assign (.tmp 17)) 3]))))))
 (.seq (.rgn [] [LL 26 (.move (.tmp 1)) 3,
 LL 4 (.assign (.tmp 26)) 3])
 .ret)))))
theorem lit71 : Lit Try.prog 71 27 [] [.tmp 4] c71 := ⟨⟨Try.f71, _, Try.func71, rfl, by kernel_rfl, rfl, rfl, by kernel_rfl, by kernel_rfl⟩, by decide, by kernel_rfl⟩
/-- laws.szIntS -/
def c72 : LC :=
  (.seq (.rgn [] [LL 4 (.assign (.const (.int .i64 0))) 3])
 (.seq (.rgn [] [LL 5 (.move (.tmp 1)) 3,
 LL 6 (.move (.tmp 0)) 25,
 LL 7 (.call { callee := (.builtin .len), args := #[(.tmp 6)], argTypes := #[25] }) 3,
 LL 8 (.binOp .sub 3 (.tmp 5) (.tmp 7) 3) 3,
 LL 1 (.assign (.tmp 8)) 3])
 (.seq (.seq (.rgn [] [LL 9 (.move (.tmp 1)) 3,
 LL 10 (.binOp .lss 3 (.tmp 9) (.const (.int .i64 0)) 3) 4])
 (.cond (.tmp 10)
 (.seq (.rgn [] [LL 4 (.assign (.const (.int .i64 (-1)))) 3])
 .ret)
 .skip))
 (.seq (.rgn [] [LL 11 (.move (.tmp 1)) 3,
 LL 4 (.assign (.tmp 11)) 3])
 .ret))))
theorem lit72 : Lit Try.prog 72 12 [] [.tmp 4] c72 := ⟨⟨Try.f72, _, Try.func72, rfl, by kernel_rfl, rfl, rfl, by kernel_rfl, by kernel_rfl⟩, by decide, by kernel_rfl⟩
/-- spec.LookupRelation -/
def c73 : LC :=
  (.seq (.rgn [] [LL 2 (.box 33 (.tmp 0)) 0,
 LL 4 (.alloc 128) 0,
 LL 5 (.assign (.const (.bool false))) 4])
 (.seq (.seq (.rgn [] [LL 6 (.assign (.const (.int .i64 0))) 3])
 (.blk 0
 (.loop []
 (.seq (.seq (.rgn [] [LL 7 (.move (.tmp 6)) 3,
 LL 8 (.fieldAddr 33 (.tmp 2) 0) 0,
 LL 9 (.load 31 (.tmp 8)) 31,
 LL 10 (.call { callee := (.builtin .len), args := #[(.tmp 9)], argTypes := #[31] }) 3,
 LL 11 (.binOp .lss 3 (.tmp 7) (.tmp 10) 3) 4,
 LL 12 (.move (.tmp 11)) 4,
 ⟨some 13, (.load 33 (.tmp 2)), 33, some (some 12, true)⟩,
 ⟨some 14, (.call { callee := (.value (.func 135)), args := #[(.tmp 13)], argTypes := #[33] }), 4, some (some 12, true)⟩,
 LL 15 (.pick (.tmp 12) (.tmp 14) (.const (.bool false))) 4])
 (.cond (.tmp 15)
 .skip
 (.exit 0)))
 (.seq (.blk 1
 (.seq (.rgn [] [LL 18 (.fieldAddr 33 (.tmp 2) 0) 0,
 LL 19 (.load 31 (.tmp 18)) 31,
 LL 20 (.move (.tmp 6)) 3,
 LL 21 (.indexAddr 31 (.tmp 19) (.tmp 20)) 0,
 LL 22 (.fieldAddr 208 (.tmp 21) 0) 0,
 LL 23 (.load 9 (.tmp 22)) 9,
 LL 24 (.move (.tmp 1)) 9,
 LL 25 (.binOp .eql 9 (.tmp 23) (.tmp 24) 9) 4])
 (.cond (.tmp 25)
 (.seq (.rgn [] [LL 26 (.fieldAddr 33 (.tmp 2) 0) 0,
 LL 27 (.load 31 (.tmp 26)) 31,
 LL 28 (.move (.tmp 6)) 3,
 LL 29 (.indexAddr 31 (.tmp 27) (.tmp 28)) 0,
 LL 30 (.fieldAddr 208 (.tmp 29) 1) 0,
 LL 31 (.load 128 (.tmp 30)) 128,
 LL 32 (.call { callee := (.value (.func 172)), args := #[(.tmp 31)], argTypes := #[128] }) 128,
 ⟨none, (.store 128 (.tmp 4) (.tmp 32)), 0, none⟩,
 LL 5 (.assign (.const (.bool true))) 4])
 .ret)
 .skip)))
 (.rgn [] [LL 16 (.move (.tmp 6)) 3,
 LL 17 (.binOp .add 3 (.tmp 16) (.const (.int .i64 1)) 3) 3,
 LL 6 (.assign (.tmp 17)) 3]))))))
 (.seq (.rgn [] [LL 33 (.build 128 #[]) 128,
 ⟨none, (.store 128 (.tmp 4) (.tmp 33)), 0, none⟩,
 LL 5 (.assign (.const (.bool false))) 4])
 .ret)))
theorem lit73 : Lit Try.prog 73 34 [2, 4] [.cell 4 128, .tmp 5] c73 := ⟨⟨Try.f73, _, Try.func73, rfl, by kernel_rfl, rfl, rfl, by kernel_rfl, by kernel_rfl⟩, by decide, by kernel_rfl⟩
/-- spec.CompareRows -/
def c75 : LC :=
  (.seq (.rgn [] [LL 4 (.assign (.const (.int .i64 0))) 3])
 (.seq (.seq (.rgn [] [LL 5 (.assign (.const (.int .i64 0))) 3])
 (.blk 0
 (.loop []
 (.seq (.seq (.rgn [] [LL 6 (.move (.tmp 5)) 3,
 LL 7 (.move (.tmp 0)) 25,
 LL 8 (.call { callee := (.builtin .len), args := #[(.tmp 7)], argTypes := #[25] }) 3,
 LL 9 (.binOp .lss 3 (.tmp 6) (.tmp 8) 3) 4,
 LL 10 (.move (.tmp 9)) 4,
 ⟨some 11, (.move (.tmp 5)), 3, some (some 10, true)⟩,
 ⟨some 12, (.move (.tmp 1)), 25, some (some 10, true)⟩,
 ⟨some 13, (.call { callee := (.builtin .len), args := #[(.tmp 12)], argTypes := #[25] }), 3, some (some 10, true)⟩,
 ⟨some 14, (.binOp .lss 3 (.tmp 11) (.tmp 13) 3), 4, some (some 10, true)⟩,
 LL 15 (.pick (.tmp 10) (.tmp 14) (.const (.bool false))) 4])
 (.cond (.tmp 15)
 .skip
 (.exit 0)))
 (.seq (.blk 1
 (.seq (.seq (.drw [] [([0], [18]), ([5], [19]), ([18, 19], [20]), ([20], [21]), ([1], [22]), ([5], [23]), ([22, 23], [24]), ([24], [25]), ([21, 25], [26])] [[], [], [0, 1], [2], [], [], [4, 5], [6], [3, 7]] [LL 18 (.move (.tmp 0)) 25,
 LL 19 (.move (.tmp 5)) 3,
 LL 20 (.indexAddr 25 (.tmp 18) (.tmp 19)) 0,
 LL 21 (.load 3 (.tmp 20)) 3,
 LL 22 (.move (.tmp 1)) 25,
 LL 23 (.move (.tmp 5)) 3,
 LL 24 (.indexAddr 25 (.tmp 22) (.tmp 23)) 0,
 LL 25 (.load 3 (.tmp 24)) 3,
 LL 26 (.binOp .lss 3 (.tmp 21) (.tmp 25) 3) 4])
 (.cond (.tmp 26)
 (.seq (.rgn [] [LL 4 (.assign (.const (.int .i64 (-1)))) 3])
 .ret)
 .skip))
 (.seq (.drw [] [([0], [27]), ([5], [28]), ([27, 28], [29]), ([29], [30]), ([1], [31]), ([5], [32]), ([31, 32], [33]), ([33], [34]), ([30, 34], [35])] [[], [], [0, 1], [2], [], [], [4, 5], [6], [3, 7]] [LL 27 (.move (.tmp 0)) 25,
 LL 28 (.move (.tmp 5)) 3,
 LL 29 (.indexAddr 25 (.tmp 27) (.tmp 28)) 0,
 LL 30 (.load 3 (.tmp 29)) 3,
 LL 31 (.move (.tmp 1)) 25,
 LL 32 (.move (.tmp 5)) 3,
 LL 33 (.indexAddr 25 (.tmp 31) (.tmp 32)) 0,
 LL 34 (.load 3 (.tmp 33)) 3,
 LL 35 (.binOp .gtr 3 (.tmp 30) (.tmp 34) 3) 4])
 (.cond (.tmp 35)
 (.seq (.rgn [] [LL 4 (.assign (.const (.int .i64 1))) 3])
 .ret)
 .skip))))
 (.rgn [] [LL 16 (.move (.tmp 5)) 3,
 LL 17 (.binOp .add 3 (.tmp 16) (.const (.int .i64 1)) 3) 3,
 LL 5 (.assign (.tmp 17)) 3]))))))
 (.seq (.seq (.rgn [] [LL 36 (.move (.tmp 0)) 25,
 LL 37 (.call { callee := (.builtin .len), args := #[(.tmp 36)], argTypes := #[25] }) 3,
 LL 38 (.move (.tmp 1)) 25,
 LL 39 (.call { callee := (.builtin .len), args := #[(.tmp 38)], argTypes := #[25] }) 3,
 LL 40 (.binOp .lss 3 (.tmp 37) (.tmp 39) 3) 4])
 (.cond (.tmp 40)
 (.seq (.rgn [] [LL 4 (.assign (.const (.int .i64 (-1)))) 3])
 .ret)
 .skip))
 (.seq (.seq (.rgn [] [LL 41 (.move (.tmp 0)) 25,
 LL 42 (.call { callee := (.builtin .len), args := #[(.tmp 41)], argTypes := #[25] }) 3,
 LL 43 (.move (.tmp 1)) 25,
 LL 44 (.call { callee := (.builtin .len), args := #[(.tmp 43)], argTypes := #[25] }) 3,
 LL 45 (.binOp .gtr 3 (.tmp 42) (.tmp 44) 3) 4])
 (.cond (.tmp 45)
 (.seq (.rgn [] [LL 4 (.assign (.const (.int .i64 1))) 3])
 .ret)
 .skip))
 (.seq (.rgn [] [LL 4 (.assign (.const (.int .i64 0))) 3])
 .ret)))))
theorem lit75 : Lit Try.prog 75 46 [] [.tmp 4] c75 := ⟨⟨Try.f75, _, Try.func75, rfl, by kernel_rfl, rfl, rfl, by kernel_rfl, by kernel_rfl⟩, by decide, by kernel_rfl⟩
/-- spec.l5Cols -/
def c76 : LC :=
  (.seq (.rgn [] [LL 4 (.assign (.const (.slice none 0 0))) 25])
 (.seq (.rgn [] [LL 7 (.buildSlice 25 0 #[]) 25,
 LL 5 (.assign (.tmp 7)) 25])
 (.seq (.seq (.rgn [] [LL 6 (.assign (.const (.int .i64 0))) 3])
 (.blk 0
 (.loop []
 (.seq (.seq (.rgn [] [LL 8 (.move (.tmp 6)) 3,
 LL 9 (.move (.tmp 1)) 25,
 LL 10 (.call { callee := (.builtin .len), args := #[(.tmp 9)], argTypes := #[25] }) 3,
 LL 11 (.binOp .lss 3 (.tmp 8) (.tmp 10) 3) 4])
 (.cond (.tmp 11)
 .skip
 (.exit 0)))
 (.seq (.blk 1
 (.rgn [14] [LL 14 (.move (.tmp 5)) 25,
 LL 15 (.move (.tmp 0)) 25,
 LL 16 (.move (.tmp 1)) 25,
 LL 17 (.move (.tmp 6)) 3,
 LL 18 (.indexAddr 25 (.tmp 16) (.tmp 17)) 0,
 LL 19 (.load 3 (.tmp 18)) 3,
 LL 20 (.indexAddr 25 (.tmp 15) (.tmp 19)) 0,
 LL 21 (.load 3 (.tmp 20)) 3,
 LL 22 (.buildSlice 25 1 #[(0, (.tmp 21))]) 25,
 LL 23 (.call { callee := (.builtin .append), args := #[(.tmp 14), (.tmp 22)], argTypes := #[25, 25] }) 25,
 LL 5 (.assign (.tmp 23)) 25]))
 (.rgn [] [LL 12 (.move (.tmp 6)) 3,
 LL 13 (.binOp .add 3 (.tmp 12) (.const (.int .i64 1)) 3) 3,
 LL 6 (.assign (.tmp 13)) 3]))))))
 (.seq (.rgn [24] [LL 24 (.move (.tmp 5)) 25,
 LL 4 (.assign (.tmp 24)) 25])
 .ret))))
theorem lit76 : Lit Try.prog 76 25 [] [.tmp 4] c76 := ⟨⟨Try.f76, _, Try.func76, rfl, by kernel_rfl, rfl, rfl, by kernel_rfl, by kernel_rfl⟩, by decide, by kernel_rfl⟩
/-- laws.toTableS -/
def c77 : LC :=
  (.seq (.rgn [] [LL 2 (.assign (.const (.slice none 0 0))) 31])
 (.seq (.rgn [3, 7] [LL 5 (.move (.tmp 0)) 22,
 LL 6 (.call { callee := (.builtin .len), args := #[(.tmp 5)], argTypes := #[22] }) 3,
 LL 7 (.makeSlice 31 (.tmp 6) (.tmp 6)) 31,
 LL 3 (.assign (.tmp 7)) 31])
 (.seq (.seq (.rgn [] [LL 4 (.assign (.const (.int .i64 0))) 3])
 (.blk 0
 (.loop []
 (.seq (.seq (.rgn [] [LL 8 (.move (.tmp 4)) 3,
 LL 9 (.move (.tmp 0)) 22,
 LL 10 (.call { callee := (.builtin .len), args := #[(.tmp 9)], argTypes := #[22] }) 3,
 LL 11 (.binOp .lss 3 (.tmp 8) (.tmp 10) 3) 4])
 (.cond (.tmp 11)
 .skip
 (.exit 0)))
 (.seq (.blk 1
 (.rgn [] [LL 14 (.move (.tmp 3)) 31,
 LL 15 (.move (.tmp 4)) 3,
 LL 16 (.move (.tmp 0)) 22,
 LL 17 (.move (.tmp 4)) 3,
 LL 18 (.indexAddr 22 (.tmp 16) (.tmp 17)) 0,
 LL 19 (.load 206 (.tmp 18)) 206,
 LL 20 (.call { callee := (.value (.func 173)), args := #[(.tmp 19)], argTypes := #[206] }) 208,
 LL 21 (.indexAddr 31 (.tmp 14) (.tmp 15)) 0,
 ⟨none, (.store 208 (.tmp 21) (.tmp 20)), 0, none⟩]))
 (.rgn [] [LL 12 (.move (.tmp 4)) 3,
 LL 13 (.binOp .add 3 (.tmp 12) (.const (.int .i64 1)) 3) 3,
 LL 4 (.assign (.tmp 13)) 3]))))))
 (.seq (.rgn [22] [LL 22 (.move (.tmp 3)) 31,
 LL 2 (.assign (.tmp 22)) 31])
 .ret))))
theorem lit77 : Lit Try.prog 77 23 [3, 7] [.tmp 2] c77 := ⟨⟨Try.f77, _, Try.func77, rfl, by kernel_rfl, rfl, rfl, by kernel_rfl, by kernel_rfl⟩, by decide, by kernel_rfl⟩
/-- impl.LookupRelation -/
def c79 : LC :=
  (.seq (.rgn [] [LL 2 (.box 33 (.tmp 0)) 0,
 LL 4 (.alloc 128) 0,
 LL 5 (.assign (.const (.bool false))) 4])
 (.seq (.seq (.rgn [] [LL 8 (.load 33 (.tmp 2)) 33,
 LL 9 (.call { callee := (.value (.func 136)), args := #[(.tmp 8)], argTypes := #[33] }) 4])
 (.cond (.tmp 9)
 (.seq (.rgn [] [LL 10 (.fieldAddr 33 (.tmp 2) 0) 0,
 LL 11 (.load 31 (.tmp 10)) 31,
 LL 12 (.call { callee := (.builtin .len), args := #[(.tmp 11)], argTypes := #[31] }) 3,
 LL 13 (.move (.const (.int .i64 0))) 3])
 (.blk 0
 (.loop [7]
 (.seq (.rgn [] [LL 14 (.binOp .lss 3 (.tmp 13) (.tmp 12) 3) 0])
 (.seq (.cond (.tmp 14)
 .skip
 (.exit 0))
 (.seq (.blk 1
 (.seq (.rgn [16] [LL 15 (.indexAddr 31 (.tmp 11) (.tmp 13)) 0,
 LL 16 (.load 208 (.tmp 15)) 208,
 LL 7 (.alloc 208) 0,
 ⟨none, (.store 208 (.tmp 7) (.tmp 16)), 0, none⟩])
 (.seq (.rgn [] [LL 17 (.fieldAddr 208 (.tmp 7) 0) 0,
 LL 18 (.load 9 (.tmp 17)) 9,
 LL 19 (.move (.tmp 1)) 9,
 LL 20 (.binOp .eql 9 (.tmp 18) (.tmp 19) 9) 4])
 (.cond (.tmp 20)
 (.seq (.rgn [] [LL 21 (.fieldAddr 208 (.tmp 7) 1) 0,
 LL 22 (.load 128 (.tmp 21)) 128,
 LL 23 (.call { callee := (.value (.func 175)), args := #[(.tmp 22)], argTypes := #[128] }) 128,
 ⟨none, (.store 128 (.tmp 4) (.tmp 23)), 0, none⟩,
 LL 5 (.assign (.const (.bool true))) 4])
 .ret)
 .skip))))
 (.rgn [] [LL 24 (.binOp .add 3 (.tmp 13) (.const (.int .i64 1)) 3) 3,
 LL 13 (.move (.tmp 24)) 3])))))))
 .skip))
 (.seq (.rgn [] [LL 25 (.build 128 #[]) 128,
 ⟨none, (.store 128 (.tmp 4) (.tmp 25)), 0, none⟩,
 LL 5 (.assign (.const (.bool false))) 4])
 .ret)))
theorem lit79 : Lit Try.prog 79 26 [2, 4, 7] [.cell 4 128, .tmp 5] c79 := ⟨⟨Try.f79, _, Try.func79, rfl, by kernel_rfl, rfl, rfl, by kernel_rfl, by kernel_rfl⟩, by decide, by kernel_rfl⟩
/-- impl.pick -/
def c81 : LC :=
  (.seq (.rgn [] [LL 4 (.assign (.const (.slice none 0 0))) 25])
 (.seq (.rgn [] [LL 8 (.buildSlice 25 0 #[]) 25,
 LL 5 (.assign (.tmp 8)) 25])
 (.seq (.seq (.rgn [] [LL 9 (.move (.tmp 1)) 25,
 LL 10 (.call { callee := (.builtin .len), args := #[(.tmp 9)], argTypes := #[25] }) 3,
 LL 11 (.move (.const (.int .i64 0))) 3])
 (.blk 0
 (.loop []
 (.seq (.rgn [] [LL 12 (.binOp .lss 3 (.tmp 11) (.tmp 10) 3) 0])
 (.seq (.cond (.tmp 12)
 .skip
 (.exit 0))
 (.seq (.blk 1
 (.seq (.rgn [] [LL 13 (.indexAddr 25 (.tmp 9) (.tmp 11)) 0,
 LL 14 (.load 3 (.tmp 13)) 3,
 LL 7 (.assign (.tmp 14)) 3])
 (.rgn [15] [LL 15 (.move (.tmp 5)) 25,
 LL 16 (.move (.tmp 0)) 25,
 LL 17 (.move (.tmp 7)) 3,
 LL 18 (.indexAddr 25 (.tmp 16) (.tmp 17)) 0,
 LL 19 (.load 3 (.tmp 18)) 3,
 LL 20 (.buildSlice 25 1 #[(0, (.tmp 19))]) 25,
 LL 21 (.call { callee := (.builtin .append), args := #[(.tmp 15), (.tmp 20)], argTypes := #[25, 25] }) 25,
 LL 5 (.assign (.tmp 21)) 25])))
 (.rgn [] [LL 22 (.binOp .add 3 (.tmp 11) (.const (.int .i64 1)) 3) 3,
 LL 11 (.move (.tmp 22)) 3])))))))
 (.seq (.rgn [23] [LL 23 (.move (.tmp 5)) 25,
 LL 4 (.assign (.tmp 23)) 25])
 .ret))))
theorem lit81 : Lit Try.prog 81 24 [] [.tmp 4] c81 := ⟨⟨Try.f81, _, Try.func81, rfl, by kernel_rfl, rfl, rfl, by kernel_rfl, by kernel_rfl⟩, by decide, by kernel_rfl⟩
/-- laws.eqTableS -/
def c82 : LC :=
  (.seq (.rgn [] [LL 4 (.assign (.const (.bool false))) 4])
 (.seq (.seq (.rgn [] [LL 6 (.move (.tmp 0)) 31,
 LL 7 (.call { callee := (.builtin .len), args := #[(.tmp 6)], argTypes := #[31] }) 3,
 LL 8 (.move (.tmp 1)) 31,
 LL 9 (.call { callee := (.builtin .len), args := #[(.tmp 8)], argTypes := #[31] }) 3,
 LL 10 (.binOp .neq 3 (.tmp 7) (.tmp 9) 3) 4])
 (.cond (.tmp 10)
 (.seq (.rgn [] [LL 4 (.assign (.const (.bool false))) 4])
 .ret)
 .skip))
 (.seq (.seq (.rgn [] [LL 5 (.assign (.const (.int .i64 0))) 3])
 (.blk 0
 (.loop []
 (.seq (.seq (.rgn [] [LL 11 (.move (.tmp 5)) 3,
 LL 12 (.move (.tmp 0)) 31,
 LL 13 (.call { callee := (.builtin .len), args := #[(.tmp 12)], argTypes := #[31] }) 3,
 LL 14 (.binOp .lss 3 (.tmp 11) (.tmp 13) 3) 4])
 (.cond (.tmp 14)
 .skip
 (.exit 0)))
 (.seq (.blk 1
 (.seq (.drw [] [([0], [17]), ([5], [18]), ([17, 18], [19]), ([19], [20]), ([1], [21]), ([5], [22]), ([21, 22], [23]), ([23], [24]), ([20, 24], [25]), ([25], [26])] [[], [], [0, 1], [2], [], [], [4, 5], [6], [3, 7], [8]] [LL 17 (.move (.tmp 0)) 31,
 LL 18 (.move (.tmp 5)) 3,
 LL 19 (.indexAddr 31 (.tmp 17) (.tmp 18)) 0,
 LL 20 (.load 208 (.tmp 19)) 208,
 LL 21 (.move (.tmp 1)) 31,
 LL 22 (.move (.tmp 5)) 3,
 LL 23 (.indexAddr 31 (.tmp 21) (.tmp 22)) 0,
 LL 24 (.load 208 (.tmp 23)) 208,
 LL 25 (.call { callee := (.value (.func 176)), args := #[(.tmp 20), (.tmp 24)], argTypes := #[208, 208] }) 4,
 LL 26 (.unOp .not 4 (.tmp 25)) 4])
 (.cond (.tmp 26)
 (.seq (.rgn [] [LL 4 (.assign (.const (.bool false))) 4])
 .ret)
 .skip)))
 (.rgn [] [LL 15 (.move (.tmp 5)) 3,
 LL 16 (.binOp .add 3 (.tmp 15) (.const (.int .i64 1)) 3) 3,
 LL 5 (.assign (.tmp 16)) 3]))))))
 (.seq (.rgn [] [LL 4 (.assign (.const (.bool true))) 4])
 .ret))))
theorem lit82 : Lit Try.prog 82 27 [] [.tmp 4] c82 := ⟨⟨Try.f82, _, Try.func82, rfl, by kernel_rfl, rfl, rfl, by kernel_rfl, by kernel_rfl⟩, by decide, by kernel_rfl⟩
/-- spec.l1In -/
def c86 : LC :=
  (.seq (.rgn [] [LL 6 (.assign (.const (.bool false))) 4])
 (.seq (.rgn [] [LL 7 (.move (.tmp 0)) 3,
 LL 8 (.move (.tmp 1)) 3,
 LL 9 (.binOp .geq 3 (.tmp 7) (.tmp 8) 3) 4,
 LL 10 (.move (.tmp 9)) 4,
 ⟨some 11, (.move (.tmp 0)), 3, some (some 10, true)⟩,
 ⟨some 12, (.move (.tmp 2)), 3, some (some 10, true)⟩,
 ⟨some 13, (.binOp .leq 3 (.tmp 11) (.tmp 12) 3), 4, some (some 10, true)⟩,
 LL 14 (.pick (.tmp 10) (.tmp 13) (.const (.bool false))) 4,
 LL 6 (.assign (.tmp 14)) 4])
 .ret))
theorem lit86 : Lit Try.prog 86 15 [] [.tmp 6] c86 := ⟨⟨Try.f86, _, Try.func86, rfl, by kernel_rfl, rfl, rfl, by kernel_rfl, by kernel_rfl⟩, by decide, by kernel_rfl⟩
/-- impl.within -/
def c90 : LC :=
  (.seq (.rgn [] [LL 6 (.assign (.const (.bool false))) 4])
 (.seq (.rgn [] [LL 7 (.move (.tmp 0)) 3,
 LL 8 (.move (.tmp 1)) 3,
 LL 9 (.binOp .geq 3 (.tmp 7) (.tmp 8) 3) 4,
 LL 10 (.move (.tmp 9)) 4,
 ⟨some 11, (.move (.tmp 0)), 3, some (some 10, true)⟩,
 ⟨some 12, (.move (.tmp 2)), 3, some (some 10, true)⟩,
 ⟨some 13, (.binOp .leq 3 (.tmp 11) (.tmp 12) 3), 4, some (some 10, true)⟩,
 LL 14 (.pick (.tmp 10) (.tmp 13) (.const (.bool false))) 4,
 LL 6 (.assign (.tmp 14)) 4])
 .ret))
theorem lit90 : Lit Try.prog 90 15 [] [.tmp 6] c90 := ⟨⟨Try.f90, _, Try.func90, rfl, by kernel_rfl, rfl, rfl, by kernel_rfl, by kernel_rfl⟩, by decide, by kernel_rfl⟩
/-- laws.szAtomS -/
def c120 : LC :=
  (.seq (.rgn [] [LL 4 (.assign (.const (.int .i64 0))) 3])
 (.seq (.rgn [] [LL 6 (.move (.tmp 1)) 3,
 LL 7 (.move (.tmp 0)) 77,
 LL 8 (.call { callee := (.builtin .len), args := #[(.tmp 7)], argTypes := #[77] }) 3,
 LL 9 (.binOp .sub 3 (.tmp 6) (.tmp 8) 3) 3,
 LL 1 (.assign (.tmp 9)) 3])
 (.seq (.seq (.rgn [] [LL 10 (.move (.tmp 1)) 3,
 LL 11 (.binOp .lss 3 (.tmp 10) (.const (.int .i64 0)) 3) 4])
 (.cond (.tmp 11)
 (.seq (.rgn [] [LL 4 (.assign (.const (.int .i64 (-1)))) 3])
 .ret)
 .skip))
 (.seq (.seq (.rgn [] [LL 5 (.assign (.const (.int .i64 0))) 3])
 (.blk 0
 (.loop []
 (.seq (.seq (.rgn [] [LL 12 (.move (.tmp 5)) 3,
 LL 13 (.move (.tmp 0)) 77,
 LL 14 (.call { callee := (.builtin .len), args := #[(.tmp 13)], argTypes := #[77] }) 3,
 LL 15 (.binOp .lss 3 (.tmp 12) (.tmp 14) 3) 4])
 (.cond (.tmp 15)
 .skip
 (.exit 0)))
 (.seq (.blk 1
 (.seq (.rgn [] [LL 18 (.move (.tmp 0)) 77,
 LL 19 (.move (.tmp 5)) 3,
 LL 20 (.indexAddr 77 (.tmp 18) (.tmp 19)) 0,
 LL 21 (.load 231 (.tmp 20)) 231,
 LL 22 (.move (.tmp 1)) 3,
 LL 23 (.call { callee := (.value (.func 198)), args := #[(.tmp 21), (.tmp 22)], argTypes := #[231, 3] }) 3,
 LL 1 (.assign (.tmp 23)) 3])
 (.seq (.rgn [] [LL 24 (.move (.tmp 1)) 3,
 LL 25 (.binOp .lss 3 (.tmp 24) (.const (.int .i64 0)) 3) 4])
 (.cond (.tmp 25)
 (.seq (.rgn [] [LL 4 (.assign (.const (.int .i64 (-1)))) 3])
 .ret)
 .skip))))
 (.rgn [] [LL 16 (.move (.tmp 5)) 3,
 LL 17 (.binOp .add 3 (.tmp 16) (.const (.int .i64 1)) 3) 3,
 LL 5 (.assign (.tmp 17)) 3]))))))
 (.seq (.rgn [] [LL 26 (.move (.tmp 1)) 3,
 LL 4 (.assign (.tmp 26)) 3])
 .ret)))))
theorem lit120 : Lit Try.prog 120 27 [] [.tmp 4] c120 := ⟨⟨Try.f120, _, Try.func120, rfl, by kernel_rfl, rfl, rfl, by kernel_rfl, by kernel_rfl⟩, by decide, by kernel_rfl⟩
/-- spec.IsValidOrder -/
def c125 : LC :=
  (.seq (.rgn [] [LL 2 (.box 92 (.tmp 0)) 0,
 LL 4 (.assign (.const (.bool false))) 4])
 (.seq (.rgn [] [LL 5 (.load 92 (.tmp 2)) 92,
 LL 6 (.call { callee := (.value (.func 200)), args := #[(.tmp 5)], argTypes := #[92] }) 4,
 LL 7 (.move (.tmp 6)) 4,
 ⟨some 8, (.move (.tmp 1)), 25, some (some 7, true)⟩,
 ⟨some 9, (.call { callee := (.builtin .len), args := #[(.tmp 8)], argTypes := #[25] }), 3, some (some 7, true)⟩,
 ⟨some 10, (.fieldAddr 92 (.tmp 2) 0), 0, some (some 7, true)⟩,
 ⟨some 11, (.load 3 (.tmp 10)), 3, some (some 7, true)⟩,
 ⟨some 12, (.binOp .eql 3 (.tmp 9) (.tmp 11) 3), 4, some (some 7, true)⟩,
 LL 13 (.pick (.tmp 7) (.tmp 12) (.const (.bool false))) 4,
 LL 14 (.move (.tmp 13)) 4,
 ⟨some 15, (.move (.tmp 1)), 25, some (some 14, true)⟩,
 ⟨some 16, (.call { callee := (.value (.func 206)), args := #[(.tmp 15)], argTypes := #[25] }), 4, some (some 14, true)⟩,
 LL 17 (.pick (.tmp 14) (.tmp 16) (.const (.bool false))) 4,
 LL 4 (.assign (.tmp 17)) 4])
 .ret))
theorem lit125 : Lit Try.prog 125 18 [2] [.tmp 4] c125 := ⟨⟨Try.f125, _, Try.func125, rfl, by kernel_rfl, rfl, rfl, by kernel_rfl, by kernel_rfl⟩, by decide, by kernel_rfl⟩
/-- laws.toAtomS -/
def c126 : LC :=
  (.seq (.rgn [] [LL 2 (.assign (.const (.slice none 0 0))) 90])
 (.seq (.rgn [3, 7] [LL 5 (.move (.tmp 0)) 77,
 LL 6 (.call { callee := (.builtin .len), args := #[(.tmp 5)], argTypes := #[77] }) 3,
 LL 7 (.makeSlice 90 (.tmp 6) (.tmp 6)) 90,
 LL 3 (.assign (.tmp 7)) 90])
 (.seq (.seq (.rgn [] [LL 4 (.assign (.const (.int .i64 0))) 3])
 (.blk 0
 (.loop []
 (.seq (.seq (.rgn [] [LL 8 (.move (.tmp 4)) 3,
 LL 9 (.move (.tmp 0)) 77,
 LL 10 (.call { callee := (.builtin .len), args := #[(.tmp 9)], argTypes := #[77] }) 3,
 LL 11 (.binOp .lss 3 (.tmp 8) (.tmp 10) 3) 4])
 (.cond (.tmp 11)
 .skip
 (.exit 0)))
 (.seq (.blk 1
 (.rgn [] [LL 14 (.move (.tmp 3)) 90,
 LL 15 (.move (.tmp 4)) 3,
 LL 16 (.move (.tmp 0)) 77,
 LL 17 (.move (.tmp 4)) 3,
 LL 18 (.indexAddr 77 (.tmp 16) (.tmp 17)) 0,
 LL 19 (.load 231 (.tmp 18)) 231,
 LL 20 (.call { callee := (.value (.func 207)), args := #[(.tmp 19)], argTypes := #[231] }) 195,
 LL 21 (.indexAddr 90 (.tmp 14) (.tmp 15)) 0,
 ⟨none, (.store 195 (.tmp 21) (.tmp 20)), 0, none⟩]))
 (.rgn [] [LL 12 (.move (.tmp 4)) 3,
 LL 13 (.binOp .add 3 (.tmp 12) (.const (.int .i64 1)) 3) 3,
 LL 4 (.assign (.tmp 13)) 3]))))))
 (.seq (.rgn [22] [LL 22 (.move (.tmp 3)) 90,
 LL 2 (.assign (.tmp 22)) 90])
 .ret))))
theorem lit126 : Lit Try.prog 126 23 [3, 7] [.tmp 2] c126 := ⟨⟨Try.f126, _, Try.func126, rfl, by kernel_rfl, rfl, rfl, by kernel_rfl, by kernel_rfl⟩, by decide, by kernel_rfl⟩
/-- impl.IsValidOrder -/
def c131 : LC :=
  (.seq (.rgn [] [LL 2 (.box 92 (.tmp 0)) 0,
 LL 4 (.assign (.const (.bool false))) 4])
 (.seq (.rgn [] [LL 5 (.load 92 (.tmp 2)) 92,
 LL 6 (.call { callee := (.value (.func 209)), args := #[(.tmp 5)], argTypes := #[92] }) 4,
 LL 7 (.move (.tmp 6)) 4,
 ⟨some 8, (.move (.tmp 1)), 25, some (some 7, true)⟩,
 ⟨some 9, (.call { callee := (.builtin .len), args := #[(.tmp 8)], argTypes := #[25] }), 3, some (some 7, true)⟩,
 ⟨some 10, (.fieldAddr 92 (.tmp 2) 0), 0, some (some 7, true)⟩,
 ⟨some 11, (.load 3 (.tmp 10)), 3, some (some 7, true)⟩,
 ⟨some 12, (.binOp .eql 3 (.tmp 9) (.tmp 11) 3), 4, some (some 7, true)⟩,
 LL 13 (.pick (.tmp 7) (.tmp 12) (.const (.bool false))) 4,
 LL 14 (.move (.tmp 13)) 4,
 ⟨some 15, (.move (.tmp 1)), 25, some (some 14, true)⟩,
 ⟨some 16, (.fieldAddr 92 (.tmp 2) 0), 0, some (some 14, true)⟩,
 ⟨some 17, (.load 3 (.tmp 16)), 3, some (some 14, true)⟩,
 ⟨some 18, (.call { callee := (.value (.func 213)), args := #[(.tmp 15), (.tmp 17)], argTypes := #[25, 3] }), 4, some (some 14, true)⟩,
 LL 19 (.pick (.tmp 14) (.tmp 18) (.const (.bool false))) 4,
 LL 4 (.assign (.tmp 19)) 4])
 .ret))
theorem lit131 : Lit Try.prog 131 20 [2] [.tmp 4] c131 := ⟨⟨Try.f131, _, Try.func131, rfl, by kernel_rfl, rfl, rfl, by kernel_rfl, by kernel_rfl⟩, by decide, by kernel_rfl⟩
/-- laws.eqAtomS -/
def c132 : LC :=
  (.seq (.rgn [] [LL 4 (.assign (.const (.bool false))) 4])
 (.seq (.seq (.rgn [] [LL 6 (.move (.tmp 0)) 90,
 LL 7 (.call { callee := (.builtin .len), args := #[(.tmp 6)], argTypes := #[90] }) 3,
 LL 8 (.move (.tmp 1)) 90,
 LL 9 (.call { callee := (.builtin .len), args := #[(.tmp 8)], argTypes := #[90] }) 3,
 LL 10 (.binOp .neq 3 (.tmp 7) (.tmp 9) 3) 4])
 (.cond (.tmp 10)
 (.seq (.rgn [] [LL 4 (.assign (.const (.bool false))) 4])
 .ret)
 .skip))
 (.seq (.seq (.rgn [] [LL 5 (.assign (.const (.int .i64 0))) 3])
 (.blk 0
 (.loop []
 (.seq (.seq (.rgn [] [LL 11 (.move (.tmp 5)) 3,
 LL 12 (.move (.tmp 0)) 90,
 LL 13 (.call { callee := (.builtin .len), args := #[(.tmp 12)], argTypes := #[90] }) 3,
 LL 14 (.binOp .lss 3 (.tmp 11) (.tmp 13) 3) 4])
 (.cond (.tmp 14)
 .skip
 (.exit 0)))
 (.seq (.blk 1
 (.seq (.drw [] [([0], [17]), ([5], [18]), ([17, 18], [19]), ([19], [20]), ([1], [21]), ([5], [22]), ([21, 22], [23]), ([23], [24]), ([20, 24], [25]), ([25], [26])] [[], [], [0, 1], [2], [], [], [4, 5], [6], [3, 7], [8]] [LL 17 (.move (.tmp 0)) 90,
 LL 18 (.move (.tmp 5)) 3,
 LL 19 (.indexAddr 90 (.tmp 17) (.tmp 18)) 0,
 LL 20 (.load 195 (.tmp 19)) 195,
 LL 21 (.move (.tmp 1)) 90,
 LL 22 (.move (.tmp 5)) 3,
 LL 23 (.indexAddr 90 (.tmp 21) (.tmp 22)) 0,
 LL 24 (.load 195 (.tmp 23)) 195,
 LL 25 (.call { callee := (.value (.func 214)), args := #[(.tmp 20), (.tmp 24)], argTypes := #[195, 195] }) 4,
 LL 26 (.unOp .not 4 (.tmp 25)) 4])
 (.cond (.tmp 26)
 (.seq (.rgn [] [LL 4 (.assign (.const (.bool false))) 4])
 .ret)
 .skip)))
 (.rgn [] [LL 15 (.move (.tmp 5)) 3,
 LL 16 (.binOp .add 3 (.tmp 15) (.const (.int .i64 1)) 3) 3,
 LL 5 (.assign (.tmp 16)) 3]))))))
 (.seq (.rgn [] [LL 4 (.assign (.const (.bool true))) 4])
 .ret))))
theorem lit132 : Lit Try.prog 132 27 [] [.tmp 4] c132 := ⟨⟨Try.f132, _, Try.func132, rfl, by kernel_rfl, rfl, rfl, by kernel_rfl, by kernel_rfl⟩, by decide, by kernel_rfl⟩
/-- spec.IsValidDatabase -/
def c135 : LC :=
  (.seq (.rgn [] [LL 1 (.box 33 (.tmp 0)) 0,
 LL 2 (.assign (.const (.bool false))) 4])
 (.seq (.seq (.rgn [] [LL 3 (.assign (.const (.int .i64 0))) 3])
 (.blk 0
 (.loop [4]
 (.seq (.seq (.rgn [] [LL 5 (.move (.tmp 3)) 3,
 LL 6 (.fieldAddr 33 (.tmp 1) 0) 0,
 LL 7 (.load 31 (.tmp 6)) 31,
 LL 8 (.call { callee := (.builtin .len), args := #[(.tmp 7)], argTypes := #[31] }) 3,
 LL 9 (.binOp .lss 3 (.tmp 5) (.tmp 8) 3) 4])
 (.cond (.tmp 9)
 .skip
 (.exit 0)))
 (.seq (.blk 1
 (.seq (.rgn [16] [LL 12 (.fieldAddr 33 (.tmp 1) 0) 0,
 LL 13 (.load 31 (.tmp 12)) 31,
 LL 14 (.move (.tmp 3)) 3,
 LL 15 (.indexAddr 31 (.tmp 13) (.tmp 14)) 0,
 LL 16 (.load 208 (.tmp 15)) 208,
 LL 4 (.alloc 208) 0,
 ⟨none, (.store 208 (.tmp 4) (.tmp 16)), 0, none⟩])
 (.seq (.drw [] [([4], [17]), ([4, 17], [18]), ([18], [19]), ([19], [20]), ([20], [21]), ([3, 21], [22]), ([21, 22], [23]), ([21, 23], [24]), ([1, 24], [25]), ([1, 24, 25], [26]), ([3, 24], [27]), ([24, 27], [28]), ([24, 26, 28], [29]), ([24, 29], [30]), ([24, 30], [31]), ([4, 24], [32]), ([4, 24, 32], [33]), ([24, 31, 33], [34]), ([21, 24, 34], [35]), ([21, 35], [36]), ([36], [37]), ([4, 37], [38]), ([4, 37, 38], [39]), ([37, 39], [40]), ([37, 40], [41]), ([37, 41], [42]), ([42], [43]), ([4, 43], [44]), ([4, 43, 44], [45]), ([4, 43, 45], [46]), ([43, 46], [47]), ([43, 47], [48]), ([43, 48], [49]), ([49], [50]), ([4, 50], [51]), ([4, 50, 51], [52]), ([4, 50, 52], [53]), ([50, 53], [54]), ([50, 54], [55])] [[], [0], [1], [2], [3, 2], [4], [5, 4], [6, 4, 4], [7], [8, 7], [7], [10, 7], [9, 11, 7], [12, 7], [13, 7], [7], [15, 7], [14, 16, 7], [7, 17, 4], [4, 18], [19, 7], [20], [21, 20], [22, 20, 20], [23, 20], [20, 24], [25, 23], [26], [27, 26], [28, 26], [29, 26], [30, 26], [26, 31], [32, 26], [33], [34, 33], [35, 33], [36, 33], [33, 37]] [LL 17 (.fieldAddr 208 (.tmp 4) 0) 0,
 LL 18 (.load 9 (.tmp 17)) 9,
 LL 19 (.call { callee := (.value (.func 216)), args := #[(.tmp 18)], argTypes := #[9] }) 4,
 LL 20 (.unOp .not 4 (.tmp 19)) 4,
 LL 21 (.move (.tmp 20)) 4,
 ⟨some 22, (.move (.tmp 3)), 3, some (some 21, false)⟩,
 ⟨some 23, (.binOp .gtr 3 (.tmp 22) (.const (.int .i64 0)) 3), 4, some (some 21, false)⟩,
 ⟨some 24, (.move (.tmp 23)), 4, some (some 21, false)⟩,
 ⟨some 25, (.fieldAddr 33 (.tmp 1) 0), 0, some (some 24, true)⟩,
 ⟨some 26, (.load 31 (.tmp 25)), 31, some (some 24, true)⟩,
 ⟨some 27, (.move (.tmp 3)), 3, some (some 24, true)⟩,
 ⟨some 28, (.binOp .sub 3 (.tmp 27) (.const (.int .i64 1)) 3), 3, some (some 24, true)⟩,
 ⟨some 29, (.indexAddr 31 (.tmp 26) (.tmp 28)), 0, some (some 24, true)⟩,
 ⟨some 30, (.fieldAddr 208 (.tmp 29) 0), 0, some (some 24, true)⟩,
 ⟨some 31, (.load 9 (.tmp 30)), 9, some (some 24, true)⟩,
 ⟨some 32, (.fieldAddr 208 (.tmp 4) 0), 0, some (some 24, true)⟩,
 ⟨some 33, (.load 9 (.tmp 32)), 9, some (some 24, true)⟩,
 ⟨some 34, (.binOp .geq 9 (.tmp 31) (.tmp 33) 9), 4, some (some 24, true)⟩,
 ⟨some 35, (.pick (.tmp 24) (.tmp 34) (.const (.bool false))), 4, some (some 21, false)⟩,
 LL 36 (.pick (.tmp 21) (.const (.bool true)) (.tmp 35)) 4,
 LL 37 (.move (.tmp 36)) 4,
 ⟨some 38, (.fieldAddr 208 (.tmp 4) 1), 0, some (some 37, false)⟩,
 ⟨some 39, (.load 128 (.tmp 38)), 128, some (some 37, false)⟩,
 ⟨some 40, (.call { callee := (.value (.func 217)), args := #[(.tmp 39)], argTypes := #[128] }), 4, some (some 37, false)⟩,
 ⟨some 41, (.unOp .not 4 (.tmp 40)), 4, some (some 37, false)⟩,
 LL 42 (.pick (.tmp 37) (.const (.bool true)) (.tmp 41)) 4,
 LL 43 (.move (.tmp 42)) 4,
 ⟨some 44, (.fieldAddr 208 (.tmp 4) 1), 0, some (some 43, false)⟩,
 ⟨some 45, (.fieldAddr 128 (.tmp 44) 1), 0, some (some 43, false)⟩,
 ⟨some 46, (.load 82 (.tmp 45)), 82, some (some 43, false)⟩,
 ⟨some 47, (.call { callee := (.builtin .len), args := #[(.tmp 46)], argTypes := #[82] }), 3, some (some 43, false)⟩,
 ⟨some 48, (.binOp .gtr 3 (.tmp 47) (.const (.int .i64 16)) 3), 4, some (some 43, false)⟩,
 LL 49 (.pick (.tmp 43) (.const (.bool true)) (.tmp 48)) 4,
 LL 50 (.move (.tmp 49)) 4,
 ⟨some 51, (.fieldAddr 208 (.tmp 4) 1), 0, some (some 50, false)⟩,
 ⟨some 52, (.fieldAddr 128 (.tmp 51) 0), 0, some (some 50, false)⟩,
 ⟨some 53, (.load 3 (.tmp 52)), 3, some (some 50, false)⟩,
 ⟨some 54, (.binOp .lss 3 (.tmp 53) (.const (.int .i64 1)) 3), 4, some (some 50, false)⟩,
 LL 55 (.pick (.tmp 50) (.const (.bool true)) (.tmp 54)) 4])
 (.cond (.tmp 55)
 (.seq (.rgn [] [LL 2 (.assign (.const (.bool false))) 4])
 .ret)
 .skip))))
 (.rgn [] [LL 10 (.move (.tmp 3)) 3,
 LL 11 (.binOp .add 3 (.tmp 10) (.const (.int .i64 1)) 3) 3,
 LL 3 (.assign (.tmp 11)) 3]))))))
 (.seq (.rgn [] [LL 56 (.fieldAddr 33 (.tmp 1) 0) 0,
 LL 57 (.load 31 (.tmp 56)) 31,
 LL 58 (.call { callee := (.builtin .len), args := #[(.tmp 57)], argTypes := #[31] }) 3,
 LL 59 (.binOp .leq 3 (.tmp 58) (.const (.int .i64 6)) 3) 4,
 LL 2 (.assign (.tmp 59)) 4])
 .ret)))
theorem lit135 : Lit Try.prog 135 60 [1, 4] [.tmp 2] c135 := ⟨⟨Try.f135, _, Try.func135, rfl, by kernel_rfl, rfl, rfl, by kernel_rfl, by kernel_rfl⟩, by decide, by kernel_rfl⟩
/-- impl.IsValidDatabase -/
def c136 : LC :=
  (.seq (.rgn [] [LL 1 (.box 33 (.tmp 0)) 0,
 LL 2 (.assign (.const (.bool false))) 4])
 (.seq (.seq (.rgn [] [LL 5 (.fieldAddr 33 (.tmp 1) 0) 0,
 LL 6 (.load 31 (.tmp 5)) 31,
 LL 7 (.call { callee := (.builtin .len), args := #[(.tmp 6)], argTypes := #[31] }) 3,
 LL 8 (.binOp .gtr 3 (.tmp 7) (.const (.int .i64 6)) 3) 4])
 (.cond (.tmp 8)
 (.seq (.rgn [] [LL 2 (.assign (.const (.bool false))) 4])
 .ret)
 .skip))
 (.seq (.seq (.rgn [] [LL 9 (.fieldAddr 33 (.tmp 1) 0) 0,
 LL 10 (.load 31 (.tmp 9)) 31,
 LL 11 (.call { callee := (.builtin .len), args := #[(.tmp 10)], argTypes := #[31] }) 3,
 LL 12 (.move (.const (.int .i64 0))) 3])
 (.blk 0
 (.loop [4]
 (.seq (.rgn [] [LL 13 (.binOp .lss 3 (.tmp 12) (.tmp 11) 3) 0])
 (.seq (.cond (.tmp 13)
 .skip
 (.exit 0))
 (.seq (.blk 1
 (.seq (.rgn [16] [LL 14 (.move (.tmp 12)) 3,
 LL 15 (.indexAddr 31 (.tmp 10) (.tmp 12)) 0,
 LL 16 (.load 208 (.tmp 15)) 208,
 LL 4 (.alloc 208) 0,
 LL 3 (.assign (.tmp 14)) 3,
 ⟨none, (.store 208 (.tmp 4) (.tmp 16)), 0, none⟩])
 (.seq (.drw [] [([4], [17]), ([4, 17], [18]), ([18], [19]), ([19], [20]), ([20], [21]), ([3, 21], [22]), ([21, 22], [23]), ([21, 23], [24]), ([1, 24], [25]), ([1, 24, 25], [26]), ([3, 24], [27]), ([24, 27], [28]), ([24, 26, 28], [29]), ([24, 29], [30]), ([24, 30], [31]), ([4, 24], [32]), ([4, 24, 32], [33]), ([24, 31, 33], [34]), ([21, 24, 34], [35]), ([21, 35], [36]), ([36], [37]), ([4, 37], [38]), ([4, 37, 38], [39]), ([37, 39], [40]), ([37, 40], [41]), ([37, 41], [42]), ([42], [43]), ([4, 43], [44]), ([4, 43, 44], [45]), ([4, 43, 45], [46]), ([43, 46], [47]), ([43, 47], [48]), ([48], [49]), ([4, 49], [50]), ([4, 49, 50], [51]), ([4, 49, 51], [52]), ([49, 52], [53]), ([49, 53], [54]), ([49, 54], [55])] [[], [0], [1], [2], [3, 2], [4], [5, 4], [6, 4, 4], [7], [8, 7], [7], [10, 7], [9, 11, 7], [12, 7], [13, 7], [7], [15, 7], [14, 16, 7], [7, 17, 4], [4, 18], [19, 7], [20], [21, 20], [22, 20, 20], [23, 20], [20, 24], [25, 23], [26], [27, 26], [28, 26], [29, 26], [26, 30], [31, 26], [32], [33, 32], [34, 32], [35, 32], [36, 32], [32, 37]] [LL 17 (.fieldAddr 208 (.tmp 4) 0) 0,
 LL 18 (.load 9 (.tmp 17)) 9,
 LL 19 (.call { callee := (.value (.func 218)), args := #[(.tmp 18)], argTypes := #[9] }) 4,
 LL 20 (.unOp .not 4 (.tmp 19)) 4,
 LL 21 (.move (.tmp 20)) 4,
 ⟨some 22, (.move (.tmp 3)), 3, some (some 21, false)⟩,
 ⟨some 23, (.binOp .gtr 3 (.tmp 22) (.const (.int .i64 0)) 3), 4, some (some 21, false)⟩,
 ⟨some 24, (.move (.tmp 23)), 4, some (some 21, false)⟩,
 ⟨some 25, (.fieldAddr 33 (.tmp 1) 0), 0, some (some 24, true)⟩,
 ⟨some 26, (.load 31 (.tmp 25)), 31, some (some 24, true)⟩,
 ⟨some 27, (.move (.tmp 3)), 3, some (some 24, true)⟩,
 ⟨some 28, (.binOp .sub 3 (.tmp 27) (.const (.int .i64 1)) 3), 3, some (some 24, true)⟩,
 ⟨some 29, (.indexAddr 31 (.tmp 26) (.tmp 28)), 0, some (some 24, true)⟩,
 ⟨some 30, (.fieldAddr 208 (.tmp 29) 0), 0, some (some 24, true)⟩,
 ⟨some 31, (.load 9 (.tmp 30)), 9, some (some 24, true)⟩,
 ⟨some 32, (.fieldAddr 208 (.tmp 4) 0), 0, some (some 24, true)⟩,
 ⟨some 33, (.load 9 (.tmp 32)), 9, some (some 24, true)⟩,
 ⟨some 34, (.binOp .geq 9 (.tmp 31) (.tmp 33) 9), 4, some (some 24, true)⟩,
 ⟨some 35, (.pick (.tmp 24) (.tmp 34) (.const (.bool false))), 4, some (some 21, false)⟩,
 LL 36 (.pick (.tmp 21) (.const (.bool true)) (.tmp 35)) 4,
 LL 37 (.move (.tmp 36)) 4,
 ⟨some 38, (.fieldAddr 208 (.tmp 4) 1), 0, some (some 37, false)⟩,
 ⟨some 39, (.load 128 (.tmp 38)), 128, some (some 37, false)⟩,
 ⟨some 40, (.call { callee := (.value (.func 219)), args := #[(.tmp 39)], argTypes := #[128] }), 4, some (some 37, false)⟩,
 ⟨some 41, (.unOp .not 4 (.tmp 40)), 4, some (some 37, false)⟩,
 LL 42 (.pick (.tmp 37) (.const (.bool true)) (.tmp 41)) 4,
 LL 43 (.move (.tmp 42)) 4,
 ⟨some 44, (.fieldAddr 208 (.tmp 4) 1), 0, some (some 43, false)⟩,
 ⟨some 45, (.fieldAddr 128 (.tmp 44) 0), 0, some (some 43, false)⟩,
 ⟨some 46, (.load 3 (.tmp 45)), 3, some (some 43, false)⟩,
 ⟨some 47, (.binOp .lss 3 (.tmp 46) (.const (.int .i64 1)) 3), 4, some (some 43, false)⟩,
 LL 48 (.pick (.tmp 43) (.const (.bool true)) (.tmp 47)) 4,
 LL 49 (.move (.tmp 48)) 4,
 ⟨some 50, (.fieldAddr 208 (.tmp 4) 1), 0, some (some 49, false)⟩,
 ⟨some 51, (.fieldAddr 128 (.tmp 50) 1), 0, some (some 49, false)⟩,
 ⟨some 52, (.load 82 (.tmp 51)), 82, some (some 49, false)⟩,
 ⟨some 53, (.call { callee := (.builtin .len), args := #[(.tmp 52)], argTypes := #[82] }), 3, some (some 49, false)⟩,
 ⟨some 54, (.binOp .gtr 3 (.tmp 53) (.const (.int .i64 16)) 3), 4, some (some 49, false)⟩,
 LL 55 (.pick (.tmp 49) (.const (.bool true)) (.tmp 54)) 4])
 (.cond (.tmp 55)
 (.seq (.rgn [] [LL 2 (.assign (.const (.bool false))) 4])
 .ret)
 .skip))))
 (.rgn [] [LL 56 (.binOp .add 3 (.tmp 12) (.const (.int .i64 1)) 3) 3,
 LL 12 (.move (.tmp 56)) 3])))))))
 (.seq (.rgn [] [LL 2 (.assign (.const (.bool true))) 4])
 .ret))))
theorem lit136 : Lit Try.prog 136 57 [1, 4] [.tmp 2] c136 := ⟨⟨Try.f136, _, Try.func136, rfl, by kernel_rfl, rfl, rfl, by kernel_rfl, by kernel_rfl⟩, by decide, by kernel_rfl⟩
/-- spec.IsQueryFor -/
def c148 : LC :=
  (.seq (.rgn [] [LL 2 (.box 33 (.tmp 0)) 0,
 LL 3 (.box 92 (.tmp 1)) 0,
 LL 4 (.assign (.const (.bool false))) 4])
 (.seq (.seq (.rgn [] [LL 5 (.assign (.const (.int .i64 0))) 3])
 (.blk 0
 (.loop [6]
 (.seq (.seq (.rgn [] [LL 8 (.move (.tmp 5)) 3,
 LL 9 (.fieldAddr 92 (.tmp 3) 1) 0,
 LL 10 (.load 90 (.tmp 9)) 90,
 LL 11 (.call { callee := (.builtin .len), args := #[(.tmp 10)], argTypes := #[90] }) 3,
 LL 12 (.binOp .lss 3 (.tmp 8) (.tmp 11) 3) 4])
 (.cond (.tmp 12)
 .skip
 (.exit 0)))
 (.seq (.blk 1
 (.seq (.drw [15] [([2], [16]), ([3], [17]), ([3, 17], [18]), ([5], [19]), ([18, 19], [20]), ([20], [21]), ([21], [22]), ([16, 22], [23]), ([23], [15, 23]), ([15], [15, 24]), ([15], [15, 25]), ([6], [6]), ([6, 24], [6, 24]), ([25], [7, 25])] [[], [], [1], [], [2, 3], [4], [5], [0, 6], [7], [8], [8], [], [11, 9, 7, 0, 1, 2, 3, 4, 5, 6, 7, 8, 9, 11], [10, 12, 0, 1, 2, 3, 4, 5, 6, 7, 8, 9, 10, 11, 12]] [LL 16 (.load 33 (.tmp 2)) 33,
 LL 17 (.fieldAddr 92 (.tmp 3) 1) 0,
 LL 18 (.load 90 (.tmp 17)) 90,
 LL 19 (.move (.tmp 5)) 3,
 LL 20 (.indexAddr 90 (.tmp 18) (.tmp 19)) 0,
 LL 21 (.fieldAddr 195 (.tmp 20) 0) 0,
 LL 22 (.load 9 (.tmp 21)) 9,
 LL 23 (.call { callee := (.value (.func 73)), args := #[(.tmp 16), (.tmp 22)], argTypes := #[33, 9] }) 129,
 LL 15 (.move (.tmp 23)) 129,
 LL 24 (.extract (.tmp 15) 0) 128,
 LL 25 (.extract (.tmp 15) 1) 4,
 LL 6 (.alloc 128) 0,
 ⟨none, (.store 128 (.tmp 6) (.tmp 24)), 0, none⟩,
 LL 7 (.assign (.tmp 25)) 4])
 (.seq (.drw [] [([7], [26]), ([26], [27]), ([27], [28]), ([6, 28], [29]), ([6, 28, 29], [30]), ([3, 28], [31]), ([3, 28, 31], [32]), ([5, 28], [33]), ([28, 32, 33], [34]), ([28, 34], [35]), ([28, 35], [36]), ([28, 36], [37]), ([28, 30, 37], [38]), ([28, 38], [39])] [[], [0], [1], [2], [3, 2], [2], [5, 2], [2], [6, 7, 2], [8, 2], [9, 2], [10, 2], [4, 11, 2], [2, 12]] [LL 26 (.move (.tmp 7)) 4,
 LL 27 (.unOp .not 4 (.tmp 26)) 4,
 LL 28 (.move (.tmp 27)) 4,
 ⟨some 29, (.fieldAddr 128 (.tmp 6) 0), 0, some (some 28, false)⟩,
 ⟨some 30, (.load 3 (.tmp 29)), 3, some (some 28, false)⟩,
 ⟨some 31, (.fieldAddr 92 (.tmp 3) 1), 0, some (some 28, false)⟩,
 ⟨some 32, (.load 90 (.tmp 31)), 90, some (some 28, false)⟩,
 ⟨some 33, (.move (.tmp 5)), 3, some (some 28, false)⟩,
 ⟨some 34, (.indexAddr 90 (.tmp 32) (.tmp 33)), 0, some (some 28, false)⟩,
 ⟨some 35, (.fieldAddr 195 (.tmp 34) 1), 0, some (some 28, false)⟩,
 ⟨some 36, (.load 25 (.tmp 35)), 25, some (some 28, false)⟩,
 ⟨some 37, (.call { callee := (.builtin .len), args := #[(.tmp 36)], argTypes := #[25] }), 3, some (some 28, false)⟩,
 ⟨some 38, (.binOp .neq 3 (.tmp 30) (.tmp 37) 3), 4, some (some 28, false)⟩,
 LL 39 (.pick (.tmp 28) (.const (.bool true)) (.tmp 38)) 4])
 (.cond (.tmp 39)
 (.seq (.rgn [] [LL 4 (.assign (.const (.bool false))) 4])
 .ret)
 .skip))))
 (.rgn [] [LL 13 (.move (.tmp 5)) 3,
 LL 14 (.binOp .add 3 (.tmp 13) (.const (.int .i64 1)) 3) 3,
 LL 5 (.assign (.tmp 14)) 3]))))))
 (.seq (.rgn [] [LL 40 (.load 92 (.tmp 3)) 92,
 LL 41 (.call { callee := (.value (.func 200)), args := #[(.tmp 40)], argTypes := #[92] }) 4,
 LL 42 (.move (.tmp 41)) 4,
 ⟨some 43, (.load 33 (.tmp 2)), 33, some (some 42, true)⟩,
 ⟨some 44, (.call { callee := (.value (.func 135)), args := #[(.tmp 43)], argTypes := #[33] }), 4, some (some 42, true)⟩,
 LL 45 (.pick (.tmp 42) (.tmp 44) (.const (.bool false))) 4,
 LL 4 (.assign (.tmp 45)) 4])
 .ret)))
theorem lit148 : Lit Try.prog 148 46 [2, 3, 6] [.tmp 4] c148 := ⟨⟨Try.f148, _, Try.func148, rfl, by kernel_rfl, rfl, rfl, by kernel_rfl, by kernel_rfl⟩, by decide, by kernel_rfl⟩
/-- impl.IsQueryFor -/
def c150 : LC :=
  (.seq (.rgn [] [LL 2 (.box 33 (.tmp 0)) 0,
 LL 3 (.box 92 (.tmp 1)) 0,
 LL 4 (.assign (.const (.bool false))) 4])
 (.seq (.seq (.rgn [] [LL 9 (.load 92 (.tmp 3)) 92,
 LL 10 (.call { callee := (.value (.func 209)), args := #[(.tmp 9)], argTypes := #[92] }) 4,
 LL 11 (.unOp .not 4 (.tmp 10)) 4,
 LL 12 (.move (.tmp 11)) 4,
 ⟨some 13, (.load 33 (.tmp 2)), 33, some (some 12, false)⟩,
 ⟨some 14, (.call { callee := (.value (.func 136)), args := #[(.tmp 13)], argTypes := #[33] }), 4, some (some 12, false)⟩,
 ⟨some 15, (.unOp .not 4 (.tmp 14)), 4, some (some 12, false)⟩,
 LL 16 (.pick (.tmp 12) (.const (.bool true)) (.tmp 15)) 4])
 (.cond (.tmp 16)
 (.seq (.rgn [] [LL 4 (.assign (.const (.bool false))) 4])
 .ret)
 .skip))
 (.seq (.seq (.rgn [] [LL 17 (.fieldAddr 92 (.tmp 3) 1) 0,
 LL 18 (.load 90 (.tmp 17)) 90,
 LL 19 (.call { callee := (.builtin .len), args := #[(.tmp 18)], argTypes := #[90] }) 3,
 LL 20 (.move (.const (.int .i64 0))) 3])
 (.blk 0
 (.loop [6, 7]
 (.seq (.rgn [] [LL 21 (.binOp .lss 3 (.tmp 20) (.tmp 19) 3) 0])
 (.seq (.cond (.tmp 21)
 .skip
 (.exit 0))
 (.seq (.blk 1
 (.seq (.rgn [23] [LL 22 (.indexAddr 90 (.tmp 18) (.tmp 20)) 0,
 LL 23 (.load 195 (.tmp 22)) 195,
 LL 6 (.alloc 195) 0,
 ⟨none, (.store 195 (.tmp 6) (.tmp 23)), 0, none⟩])
 (.seq (.rgn [24] [LL 25 (.load 33 (.tmp 2)) 33,
 LL 26 (.fieldAddr 195 (.tmp 6) 0) 0,
 LL 27 (.load 9 (.tmp 26)) 9,
 LL 28 (.call { callee := (.value (.func 79)), args := #[(.tmp 25), (.tmp 27)], argTypes := #[33, 9] }) 129,
 LL 24 (.move (.tmp 28)) 129,
 LL 29 (.extract (.tmp 24) 0) 128,
 LL 30 (.extract (.tmp 24) 1) 4,
 LL 7 (.alloc 128) 0,
 ⟨none, (.store 128 (.tmp 7) (.tmp 29)), 0, none⟩,
 LL 8 (.assign (.tmp 30)) 4])
 (.seq (.rgn [] [LL 31 (.move (.tmp 8)) 4,
 LL 32 (.unOp .not 4 (.tmp 31)) 4,
 LL 33 (.move (.tmp 32)) 4,
 ⟨some 34, (.fieldAddr 128 (.tmp 7) 0), 0, some (some 33, false)⟩,
 ⟨some 35, (.load 3 (.tmp 34)), 3, some (some 33, false)⟩,
 ⟨some 36, (.fieldAddr 195 (.tmp 6) 1), 0, some (some 33, false)⟩,
 ⟨some 37, (.load 25 (.tmp 36)), 25, some (some 33, false)⟩,
 ⟨some 38, (.call { callee := (.builtin .len), args := #[(.tmp 37)], argTypes := #[25] }), 3, some (some 33, false)⟩,
 ⟨some 39, (.binOp .neq 3 (.tmp 35) (.tmp 38) 3), 4, some (some 33, false)⟩,
 LL 40 (.pick (.tmp 33) (.const (.bool true)) (.tmp 39)) 4])
 (.cond (.tmp 40)
 (.seq (.rgn [] [LL 4 (.assign (.const (.bool false))) 4])
 .ret)
 .skip)))))
 (.rgn [] [LL 41 (.binOp .add 3 (.tmp 20) (.const (.int .i64 1)) 3) 3,
 LL 20 (.move (.tmp 41)) 3])))))))
 (.seq (.rgn [] [LL 4 (.assign (.const (.bool true))) 4])
 .ret))))
theorem lit150 : Lit Try.prog 150 42 [2, 3, 6, 7] [.tmp 4] c150 := ⟨⟨Try.f150, _, Try.func150, rfl, by kernel_rfl, rfl, rfl, by kernel_rfl, by kernel_rfl⟩, by decide, by kernel_rfl⟩
/-- impl.copyInts -/
def c151 : LC :=
  (.seq (.rgn [] [LL 2 (.assign (.const (.slice none 0 0))) 25])
 (.seq (.rgn [4] [LL 3 (.buildSlice 25 0 #[]) 25,
 LL 4 (.move (.tmp 0)) 25,
 LL 5 (.call { callee := (.builtin .append), args := #[(.tmp 3), (.tmp 4)], argTypes := #[25, 25] }) 25,
 LL 2 (.assign (.tmp 5)) 25])
 .ret))
theorem lit151 : Lit Try.prog 151 6 [] [.tmp 2] c151 := ⟨⟨Try.f151, _, Try.func151, rfl, by kernel_rfl, rfl, rfl, by kernel_rfl, by kernel_rfl⟩, by decide, by kernel_rfl⟩
/-- spec.BuildTries -/
def c155 : LC :=
  (.seq (.rgn [] [LL 3 (.box 33 (.tmp 0)) 0,
 LL 4 (.box 92 (.tmp 1)) 0,
 LL 6 (.assign (.const (.slice none 0 0))) 189,
 LL 7 (.assign (.const (.bool false))) 4])
 (.seq (.rgn [] [LL 12 (.buildSlice 189 0 #[]) 189,
 LL 8 (.assign (.tmp 12)) 189])
 (.seq (.seq (.rgn [] [LL 13 (.load 33 (.tmp 3)) 33,
 LL 14 (.load 92 (.tmp 4)) 92,
 LL 15 (.call { callee := (.value (.func 148)), args := #[(.tmp 13), (.tmp 14)], argTypes := #[33, 92] }) 4,
 LL 16 (.unOp .not 4 (.tmp 15)) 4,
 LL 17 (.move (.tmp 16)) 4,
 ⟨some 18, (.load 92 (.tmp 4)), 92, some (some 17, false)⟩,
 ⟨some 19, (.move (.tmp 2)), 25, some (some 17, false)⟩,
 ⟨some 20, (.call { callee := (.value (.func 125)), args := #[(.tmp 18), (.tmp 19)], argTypes := #[92, 25] }), 4, some (some 17, false)⟩,
 ⟨some 21, (.unOp .not 4 (.tmp 20)), 4, some (some 17, false)⟩,
 LL 22 (.pick (.tmp 17) (.const (.bool true)) (.tmp 21)) 4])
 (.cond (.tmp 22)
 (.seq (.rgn [23] [LL 23 (.move (.tmp 8)) 189,
 LL 6 (.assign (.tmp 23)) 189,
 LL 7 (.assign (.const (.bool false))) 4])
 .ret)
 .skip))
 (.seq (.seq (.rgn [] [LL 9 (.assign (.const (.int .i64 0))) 3])
 (.blk 0
 (.loop [10]
 (.seq (.seq (.rgn [] [LL 24 (.move (.tmp 9)) 3,
 LL 25 (.fieldAddr 92 (.tmp 4) 1) 0,
 LL 26 (.load 90 (.tmp 25)) 90,
 LL 27 (.call { callee := (.builtin .len), args := #[(.tmp 26)], argTypes := #[90] }) 3,
 LL 28 (.binOp .lss 3 (.tmp 24) (.tmp 27) 3) 4])
 (.cond (.tmp 28)
 .skip
 (.exit 0)))
 (.seq (.blk 1
 (.seq (.drw [31] [([3], [32]), ([4], [33]), ([4, 33], [34]), ([9], [35]), ([34, 35], [36]), ([36], [37]), ([32, 37], [38]), ([4], [39]), ([4, 39], [40]), ([9], [41]), ([40, 41], [42]), ([42], [43]), ([2], [44]), ([43, 44], [45]), ([38, 45], [46]), ([46], [31, 46]), ([31], [31, 47]), ([31], [31, 48]), ([10], [10]), ([10, 47], [10, 47]), ([48], [11, 48])] [[], [], [1], [], [2, 3], [4], [0, 5], [], [7], [], [8, 9], [10], [], [11, 12, 6], [6, 13, 13], [14], [15], [15], [], [18, 16, 14, 0, 1, 2, 3, 4, 5, 6, 7, 8, 9, 10, 11, 12, 13, 14, 15, 16, 18], [17, 19, 0, 1, 2, 3, 4, 5, 6, 7, 8, 9, 10, 11, 12, 13, 14, 15, 16, 17, 18, 19]] [LL 32 (.load 33 (.tmp 3)) 33,
 LL 33 (.fieldAddr 92 (.tmp 4) 1) 0,
 LL 34 (.load 90 (.tmp 33)) 90,
 LL 35 (.move (.tmp 9)) 3,
 LL 36 (.indexAddr 90 (.tmp 34) (.tmp 35)) 0,
 LL 37 (.load 195 (.tmp 36)) 195,
 LL 38 (.call { callee := (.value (.func 223)), args := #[(.tmp 32), (.tmp 37)], argTypes := #[33, 195] }) 128,
 LL 39 (.fieldAddr 92 (.tmp 4) 1) 0,
 LL 40 (.load 90 (.tmp 39)) 90,
 LL 41 (.move (.tmp 9)) 3,
 LL 42 (.indexAddr 90 (.tmp 40) (.tmp 41)) 0,
 LL 43 (.load 195 (.tmp 42)) 195,
 LL 44 (.move (.tmp 2)) 25,
 LL 45 (.call { callee := (.value (.func 224)), args := #[(.tmp 43), (.tmp 44)], argTypes := #[195, 25] }) 25,
 LL 46 (.call { callee := (.value (.func 222)), args := #[(.tmp 38), (.tmp 45)], argTypes := #[128, 25] }) 243,
 LL 31 (.move (.tmp 46)) 243,
 LL 47 (.extract (.tmp 31) 0) 197,
 LL 48 (.extract (.tmp 31) 1) 4,
 LL 10 (.alloc 197) 0,
 ⟨none, (.store 197 (.tmp 10) (.tmp 47)), 0, none⟩,
 LL 11 (.assign (.tmp 48)) 4])
 (.seq (.seq (.rgn [] [LL 49 (.move (.tmp 11)) 4,
 LL 50 (.unOp .not 4 (.tmp 49)) 4])
 (.cond (.tmp 50)
 (.seq (.rgn [] [LL 51 (.buildSlice 189 0 #[]) 189,
 LL 6 (.assign (.tmp 51)) 189,
 LL 7 (.assign (.const (.bool false))) 4])
 .ret)
 .skip))
 (.rgn [52, 53] [LL 52 (.move (.tmp 8)) 189,
 LL 53 (.load 197 (.tmp 10)) 197,
 LL 54 (.buildSlice 189 1 #[(0, (.tmp 53))]) 189,
 LL 55 (.call { callee := (.builtin .append), args := #[(.tmp 52), (.tmp 54)], argTypes := #[189, 189] }) 189,
 LL 8 (.assign (.tmp 55)) 189]))))
 (.rgn [] [LL 29 (.move (.tmp 9)) 3,
 LL 30 (.binOp .add 3 (.tmp 29) (.const (.int .i64 1)) 3) 3,
 LL 9 (.assign (.tmp 30)) 3]))))))
 (.seq (.rgn [56] [LL 56 (.move (.tmp 8)) 189,
 LL 6 (.assign (.tmp 56)) 189,
 LL 7 (.assign (.const (.bool true))) 4])
 .ret)))))
theorem lit155 : Lit Try.prog 155 57 [3, 4, 10] [.tmp 6, .tmp 7] c155 := ⟨⟨Try.f155, _, Try.func155, rfl, by kernel_rfl, rfl, rfl, by kernel_rfl, by kernel_rfl⟩, by decide, by kernel_rfl⟩
/-- spec.AtomsWithVariable -/
def c156 : LC :=
  (.seq (.rgn [] [LL 2 (.box 92 (.tmp 0)) 0,
 LL 4 (.assign (.const (.slice none 0 0))) 25])
 (.seq (.rgn [] [LL 7 (.buildSlice 25 0 #[]) 25,
 LL 5 (.assign (.tmp 7)) 25])
 (.seq (.seq (.rgn [] [LL 6 (.assign (.const (.int .i64 0))) 3])
 (.blk 0
 (.loop []
 (.seq (.seq (.rgn [] [LL 8 (.move (.tmp 6)) 3,
 LL 9 (.fieldAddr 92 (.tmp 2) 1) 0,
 LL 10 (.load 90 (.tmp 9)) 90,
 LL 11 (.call { callee := (.builtin .len), args := #[(.tmp 10)], argTypes := #[90] }) 3,
 LL 12 (.binOp .lss 3 (.tmp 8) (.tmp 11) 3) 4,
 LL 13 (.move (.tmp 12)) 4,
 ⟨some 14, (.load 92 (.tmp 2)), 92, some (some 13, true)⟩,
 ⟨some 15, (.call { callee := (.value (.func 200)), args := #[(.tmp 14)], argTypes := #[92] }), 4, some (some 13, true)⟩,
 LL 16 (.pick (.tmp 13) (.tmp 15) (.const (.bool false))) 4])
 (.cond (.tmp 16)
 .skip
 (.exit 0)))
 (.seq (.blk 1
 (.seq (.rgn [] [LL 19 (.fieldAddr 92 (.tmp 2) 1) 0,
 LL 20 (.load 90 (.tmp 19)) 90,
 LL 21 (.move (.tmp 6)) 3,
 LL 22 (.indexAddr 90 (.tmp 20) (.tmp 21)) 0,
 LL 23 (.load 195 (.tmp 22)) 195,
 LL 24 (.move (.tmp 1)) 3,
 LL 25 (.call { callee := (.value (.func 157)), args := #[(.tmp 23), (.tmp 24)], argTypes := #[195, 3] }) 4])
 (.cond (.tmp 25)
 (.rgn [26] [LL 26 (.move (.tmp 5)) 25,
 LL 27 (.move (.tmp 6)) 3,
 LL 28 (.buildSlice 25 1 #[(0, (.tmp 27))]) 25,
 LL 29 (.call { callee := (.builtin .append), args := #[(.tmp 26), (.tmp 28)], argTypes := #[25, 25] }) 25,
 LL 5 (.assign (.tmp 29)) 25])
 .skip)))
 (.rgn [] [LL 17 (.move (.tmp 6)) 3,
 LL 18 (.binOp .add 3 (.tmp 17) (.const (.int .i64 1)) 3) 3,
 LL 6 (.assign (.tmp 18)) 3]))))))
 (.seq (.rgn [30] [LL 30 (.move (.tmp 5)) 25,
 LL 4 (.assign (.tmp 30)) 25])
 .ret))))
theorem lit156 : Lit Try.prog 156 31 [2] [.tmp 4] c156 := ⟨⟨Try.f156, _, Try.func156, rfl, by kernel_rfl, rfl, rfl, by kernel_rfl, by kernel_rfl⟩, by decide, by kernel_rfl⟩
/-- spec.ContainsVariable -/
def c157 : LC :=
  (.seq (.rgn [] [LL 2 (.box 195 (.tmp 0)) 0,
 LL 4 (.assign (.const (.bool false))) 4])
 (.seq (.seq (.rgn [] [LL 5 (.assign (.const (.int .i64 0))) 3])
 (.blk 0
 (.loop []
 (.seq (.seq (.rgn [] [LL 6 (.move (.tmp 5)) 3,
 LL 7 (.fieldAddr 195 (.tmp 2) 1) 0,
 LL 8 (.load 25 (.tmp 7)) 25,
 LL 9 (.call { callee := (.builtin .len), args := #[(.tmp 8)], argTypes := #[25] }) 3,
 LL 10 (.binOp .lss 3 (.tmp 6) (.tmp 9) 3) 4])
 (.cond (.tmp 10)
 .skip
 (.exit 0)))
 (.seq (.blk 1
 (.seq (.rgn [] [LL 13 (.fieldAddr 195 (.tmp 2) 1) 0,
 LL 14 (.load 25 (.tmp 13)) 25,
 LL 15 (.move (.tmp 5)) 3,
 LL 16 (.indexAddr 25 (.tmp 14) (.tmp 15)) 0,
 LL 17 (.load 3 (.tmp 16)) 3,
 LL 18 (.move (.tmp 1)) 3,
 LL 19 (.binOp .eql 3 (.tmp 17) (.tmp 18) 3) 4])
 (.cond (.tmp 19)
 (.seq (.rgn [] [LL 4 (.assign (.const (.bool true))) 4])
 .ret)
 .skip)))
 (.rgn [] [LL 11 (.move (.tmp 5)) 3,
 LL 12 (.binOp .add 3 (.tmp 11) (.const (.int .i64 1)) 3) 3,
 LL 5 (.assign (.tmp 12)) 3]))))))
 (.seq (.rgn [] [LL 4 (.assign (.const (.bool false))) 4])
 .ret)))
theorem lit157 : Lit Try.prog 157 20 [2] [.tmp 4] c157 := ⟨⟨Try.f157, _, Try.func157, rfl, by kernel_rfl, rfl, rfl, by kernel_rfl, by kernel_rfl⟩, by decide, by kernel_rfl⟩
/-- spec.l36Most -/
def c158 : LC :=
  (.seq (.rgn [] [LL 2 (.box 197 (.tmp 0)) 0,
 LL 4 (.assign (.const (.int .i64 0))) 3])
 (.seq (.rgn [] [LL 5 (.assign (.const (.int .i64 0))) 3])
 (.seq (.seq (.rgn [] [LL 6 (.assign (.const (.int .i64 0))) 3])
 (.blk 0
 (.loop []
 (.seq (.seq (.rgn [] [LL 7 (.move (.tmp 6)) 3,
 LL 8 (.fieldAddr 197 (.tmp 2) 1) 0,
 LL 9 (.load 82 (.tmp 8)) 82,
 LL 10 (.call { callee := (.builtin .len), args := #[(.tmp 9)], argTypes := #[82] }) 3,
 LL 11 (.binOp .lss 3 (.tmp 7) (.tmp 10) 3) 4])
 (.cond (.tmp 11)
 .skip
 (.exit 0)))
 (.seq (.blk 1
 (.drw [] [([5], [14]), ([2], [15]), ([2], [16]), ([2, 16], [17]), ([6], [18]), ([17, 18], [19]), ([19], [20]), ([1], [21]), ([20, 21], [22]), ([15, 22], [23]), ([23], [24]), ([14, 24], [25]), ([25], [5, 25])] [[], [], [], [2], [], [3, 4], [5], [], [6, 7], [1, 8], [9], [0, 10], [11, 9, 0, 1, 2, 3, 4, 5, 6, 7, 8, 9, 10, 11]] [LL 14 (.move (.tmp 5)) 3,
 LL 15 (.load 197 (.tmp 2)) 197,
 LL 16 (.fieldAddr 197 (.tmp 2) 1) 0,
 LL 17 (.load 82 (.tmp 16)) 82,
 LL 18 (.move (.tmp 6)) 3,
 LL 19 (.indexAddr 82 (.tmp 17) (.tmp 18)) 0,
 LL 20 (.load 25 (.tmp 19)) 25,
 LL 21 (.move (.tmp 1)) 3,
 LL 22 (.slice 25 (.tmp 20) none (some (.tmp 21)) none) 25,
 LL 23 (.call { callee := (.value (.func 225)), args := #[(.tmp 15), (.tmp 22)], argTypes := #[197, 25] }) 25,
 LL 24 (.call { callee := (.builtin .len), args := #[(.tmp 23)], argTypes := #[25] }) 3,
 LL 25 (.call { callee := (.builtin .max), args := #[(.tmp 14), (.tmp 24)], argTypes := #[3, 3] }) 3,
 LL 5 (.assign (.tmp 25)) 3]))
 (.rgn [] [LL 12 (.move (.tmp 6)) 3,
 LL 13 (.binOp .add 3 (.tmp 12) (.const (.int .i64 1)) 3) 3,
 LL 6 (.assign (.tmp 13)) 3]))))))
 (.seq (.rgn [] [LL 26 (.move (.tmp 5)) 3,
 LL 4 (.assign (.tmp 26)) 3])
 .ret))))
theorem lit158 : Lit Try.prog 158 27 [2] [.tmp 4] c158 := ⟨⟨Try.f158, _, Try.func158, rfl, by kernel_rfl, rfl, rfl, by kernel_rfl, by kernel_rfl⟩, by decide, by kernel_rfl⟩
/-- impl.BuildTries -/
def c159 : LC :=
  (.seq (.rgn [] [LL 3 (.box 33 (.tmp 0)) 0,
 LL 4 (.box 92 (.tmp 1)) 0,
 LL 6 (.assign (.const (.slice none 0 0))) 189,
 LL 7 (.assign (.const (.bool false))) 4])
 (.seq (.seq (.rgn [] [LL 13 (.load 33 (.tmp 3)) 33,
 LL 14 (.load 92 (.tmp 4)) 92,
 LL 15 (.call { callee := (.value (.func 150)), args := #[(.tmp 13), (.tmp 14)], argTypes := #[33, 92] }) 4,
 LL 16 (.unOp .not 4 (.tmp 15)) 4,
 LL 17 (.move (.tmp 16)) 4,
 ⟨some 18, (.load 92 (.tmp 4)), 92, some (some 17, false)⟩,
 ⟨some 19, (.move (.tmp 2)), 25, some (some 17, false)⟩,
 ⟨some 20, (.call { callee := (.value (.func 131)), args := #[(.tmp 18), (.tmp 19)], argTypes := #[92, 25] }), 4, some (some 17, false)⟩,
 ⟨some 21, (.unOp .not 4 (.tmp 20)), 4, some (some 17, false)⟩,
 LL 22 (.pick (.tmp 17) (.const (.bool true)) (.tmp 21)) 4])
 (.cond (.tmp 22)
 (.seq (.rgn [] [LL 6 (.assign (.const (.slice none 0 0))) 189,
 LL 7 (.assign (.const (.bool false))) 4])
 .ret)
 .skip))
 (.seq (.rgn [] [LL 8 (.assign (.const (.slice none 0 0))) 189])
 (.seq (.seq (.rgn [] [LL 23 (.fieldAddr 92 (.tmp 4) 1) 0,
 LL 24 (.load 90 (.tmp 23)) 90,
 LL 25 (.call { callee := (.builtin .len), args := #[(.tmp 24)], argTypes := #[90] }) 3,
 LL 26 (.move (.const (.int .i64 0))) 3])
 (.blk 0
 (.loop [10, 11]
 (.seq (.rgn [] [LL 27 (.binOp .lss 3 (.tmp 26) (.tmp 25) 3) 0])
 (.seq (.cond (.tmp 27)
 .skip
 (.exit 0))
 (.seq (.blk 1
 (.seq (.rgn [29] [LL 28 (.indexAddr 90 (.tmp 24) (.tmp 26)) 0,
 LL 29 (.load 195 (.tmp 28)) 195,
 LL 10 (.alloc 195) 0,
 ⟨none, (.store 195 (.tmp 10) (.tmp 29)), 0, none⟩])
 (.seq (.drw [30] [([3], [31]), ([10], [32]), ([31, 32], [33]), ([10], [34]), ([2], [35]), ([34, 35], [36]), ([33, 36], [37]), ([37], [30, 37]), ([30], [30, 38]), ([30], [30, 39]), ([11], [11]), ([11, 38], [11, 38]), ([39], [12, 39])] [[], [], [0, 1], [], [], [3, 4, 2], [2, 5, 5], [6], [7], [7], [], [10, 8, 6, 0, 1, 2, 3, 4, 5, 6, 7, 8, 10], [9, 11, 0, 1, 2, 3, 4, 5, 6, 7, 8, 9, 10, 11]] [LL 31 (.load 33 (.tmp 3)) 33,
 LL 32 (.load 195 (.tmp 10)) 195,
 LL 33 (.call { callee := (.value (.func 227)), args := #[(.tmp 31), (.tmp 32)], argTypes := #[33, 195] }) 128,
 LL 34 (.load 195 (.tmp 10)) 195,
 LL 35 (.move (.tmp 2)) 25,
 LL 36 (.call { callee := (.value (.func 228)), args := #[(.tmp 34), (.tmp 35)], argTypes := #[195, 25] }) 25,
 LL 37 (.call { callee := (.value (.func 226)), args := #[(.tmp 33), (.tmp 36)], argTypes := #[128, 25] }) 243,
 LL 30 (.move (.tmp 37)) 243,
 LL 38 (.extract (.tmp 30) 0) 197,
 LL 39 (.extract (.tmp 30) 1) 4,
 LL 11 (.alloc 197) 0,
 ⟨none, (.store 197 (.tmp 11) (.tmp 38)), 0, none⟩,
 LL 12 (.assign (.tmp 39)) 4])
 (.rgn [40, 41] [LL 40 (.move (.tmp 8)) 189,
 LL 41 (.load 197 (.tmp 11)) 197,
 LL 42 (.buildSlice 189 1 #[(0, (.tmp 41))]) 189,
 LL 43 (.call { callee := (.builtin .append), args := #[(.tmp 40), (.tmp 42)], argTypes := #[189, 189] }) 189,
 LL 8 (.assign (.tmp 43)) 189]))))
 (.rgn [] [LL 44 (.binOp .add 3 (.tmp 26) (.const (.int .i64 1)) 3) 3,
 LL 26 (.move (.tmp 44)) 3])))))))
 (.seq (.rgn [45] [LL 45 (.move (.tmp 8)) 189,
 LL 6 (.assign (.tmp 45)) 189,
 LL 7 (.assign (.const (.bool true))) 4])
 .ret)))))
theorem lit159 : Lit Try.prog 159 46 [3, 4, 10, 11] [.tmp 6, .tmp 7] c159 := ⟨⟨Try.f159, _, Try.func159, rfl, by kernel_rfl, rfl, rfl, by kernel_rfl, by kernel_rfl⟩, by decide, by kernel_rfl⟩
/-- impl.AtomsWithVariable -/
def c160 : LC :=
  (.seq (.rgn [] [LL 2 (.box 92 (.tmp 0)) 0,
 LL 4 (.assign (.const (.slice none 0 0))) 25])
 (.seq (.seq (.rgn [] [LL 8 (.load 92 (.tmp 2)) 92,
 LL 9 (.call { callee := (.value (.func 209)), args := #[(.tmp 8)], argTypes := #[92] }) 4,
 LL 10 (.unOp .not 4 (.tmp 9)) 4])
 (.cond (.tmp 10)
 (.seq (.rgn [] [LL 4 (.assign (.const (.slice none 0 0))) 25])
 .ret)
 .skip))
 (.seq (.rgn [] [LL 5 (.assign (.const (.slice none 0 0))) 25])
 (.seq (.seq (.rgn [] [LL 11 (.fieldAddr 92 (.tmp 2) 1) 0,
 LL 12 (.load 90 (.tmp 11)) 90,
 LL 13 (.call { callee := (.builtin .len), args := #[(.tmp 12)], argTypes := #[90] }) 3,
 LL 14 (.move (.const (.int .i64 0))) 3])
 (.blk 0
 (.loop [7]
 (.seq (.rgn [] [LL 15 (.binOp .lss 3 (.tmp 14) (.tmp 13) 3) 0])
 (.seq (.cond (.tmp 15)
 .skip
 (.exit 0))
 (.seq (.blk 1
 (.seq (.rgn [18] [LL 16 (.move (.tmp 14)) 3,
 LL 17 (.indexAddr 90 (.tmp 12) (.tmp 14)) 0,
 LL 18 (.load 195 (.tmp 17)) 195,
 LL 7 (.alloc 195) 0,
 LL 6 (.assign (.tmp 16)) 3,
 ⟨none, (.store 195 (.tmp 7) (.tmp 18)), 0, none⟩])
 (.seq (.rgn [] [LL 19 (.load 195 (.tmp 7)) 195,
 LL 20 (.move (.tmp 1)) 3,
 LL 21 (.call { callee := (.value (.func 229)), args := #[(.tmp 19), (.tmp 20)], argTypes := #[195, 3] }) 4])
 (.cond (.tmp 21)
 (.rgn [22] [LL 22 (.move (.tmp 5)) 25,
 LL 23 (.move (.tmp 6)) 3,
 LL 24 (.buildSlice 25 1 #[(0, (.tmp 23))]) 25,
 LL 25 (.call { callee := (.builtin .append), args := #[(.tmp 22), (.tmp 24)], argTypes := #[25, 25] }) 25,
 LL 5 (.assign (.tmp 25)) 25])
 .skip))))
 (.rgn [] [LL 26 (.binOp .add 3 (.tmp 14) (.const (.int .i64 1)) 3) 3,
 LL 14 (.move (.tmp 26)) 3])))))))
 (.seq (.rgn [27] [LL 27 (.move (.tmp 5)) 25,
 LL 4 (.assign (.tmp 27)) 25])
 .ret)))))
theorem lit160 : Lit Try.prog 160 28 [2, 7] [.tmp 4] c160 := ⟨⟨Try.f160, _, Try.func160, rfl, by kernel_rfl, rfl, rfl, by kernel_rfl, by kernel_rfl⟩, by decide, by kernel_rfl⟩
/-- impl.common -/
def c161 : LC :=
  (.seq (.rgn [] [LL 4 (.assign (.const (.slice none 0 0))) 25])
 (.seq (.rgn [] [LL 5 (.assign (.const (.slice none 0 0))) 25])
 (.seq (.seq (.rgn [] [LL 8 (.move (.tmp 0)) 25,
 LL 9 (.call { callee := (.builtin .len), args := #[(.tmp 8)], argTypes := #[25] }) 3,
 LL 10 (.move (.const (.int .i64 0))) 3])
 (.blk 0
 (.loop []
 (.seq (.rgn [] [LL 11 (.binOp .lss 3 (.tmp 10) (.tmp 9) 3) 0])
 (.seq (.cond (.tmp 11)
 .skip
 (.exit 0))
 (.seq (.blk 1
 (.seq (.rgn [] [LL 12 (.indexAddr 25 (.tmp 8) (.tmp 10)) 0,
 LL 13 (.load 3 (.tmp 12)) 3,
 LL 7 (.assign (.tmp 13)) 3])
 (.seq (.rgn [] [LL 14 (.move (.tmp 1)) 25,
 LL 15 (.move (.tmp 7)) 3,
 LL 16 (.call { callee := (.value (.func 230)), args := #[(.tmp 14), (.tmp 15)], argTypes := #[25, 3] }) 4])
 (.cond (.tmp 16)
 (.rgn [17] [LL 17 (.move (.tmp 5)) 25,
 LL 18 (.move (.tmp 7)) 3,
 LL 19 (.buildSlice 25 1 #[(0, (.tmp 18))]) 25,
 LL 20 (.call { callee := (.builtin .append), args := #[(.tmp 17), (.tmp 19)], argTypes := #[25, 25] }) 25,
 LL 5 (.assign (.tmp 20)) 25])
 .skip))))
 (.rgn [] [LL 21 (.binOp .add 3 (.tmp 10) (.const (.int .i64 1)) 3) 3,
 LL 10 (.move (.tmp 21)) 3])))))))
 (.seq (.rgn [22] [LL 22 (.move (.tmp 5)) 25,
 LL 4 (.assign (.tmp 22)) 25])
 .ret))))
theorem lit161 : Lit Try.prog 161 23 [] [.tmp 4] c161 := ⟨⟨Try.f161, _, Try.func161, rfl, by kernel_rfl, rfl, rfl, by kernel_rfl, by kernel_rfl⟩, by decide, by kernel_rfl⟩
/-- impl.AtomVariables -/
def c162 : LC :=
  (.seq (.rgn [] [LL 1 (.box 195 (.tmp 0)) 0,
 LL 2 (.assign (.const (.slice none 0 0))) 25])
 (.seq (.rgn [] [LL 3 (.assign (.const (.slice none 0 0))) 25])
 (.seq (.seq (.rgn [] [LL 4 (.assign (.const (.int .i64 0))) 3])
 (.blk 0
 (.loop []
 (.seq (.seq (.rgn [] [LL 5 (.move (.tmp 4)) 3,
 LL 6 (.binOp .lss 3 (.tmp 5) (.const (.int .i64 5)) 3) 4])
 (.cond (.tmp 6)
 .skip
 (.exit 0)))
 (.seq (.blk 1
 (.seq (.rgn [] [LL 9 (.load 195 (.tmp 1)) 195,
 LL 10 (.move (.tmp 4)) 3,
 LL 11 (.call { callee := (.value (.func 229)), args := #[(.tmp 9), (.tmp 10)], argTypes := #[195, 3] }) 4])
 (.cond (.tmp 11)
 (.rgn [12] [LL 12 (.move (.tmp 3)) 25,
 LL 13 (.move (.tmp 4)) 3,
 LL 14 (.buildSlice 25 1 #[(0, (.tmp 13))]) 25,
 LL 15 (.call { callee := (.builtin .append), args := #[(.tmp 12), (.tmp 14)], argTypes := #[25, 25] }) 25,
 LL 3 (.assign (.tmp 15)) 25])
 .skip)))
 (.rgn [] [LL 7 (.move (.tmp 4)) 3,
 LL 8 (.binOp .add 3 (.tmp 7) (.const (.int .i64 1)) 3) 3,
 LL 4 (.assign (.tmp 8)) 3]))))))
 (.seq (.rgn [16] [LL 16 (.move (.tmp 3)) 25,
 LL 2 (.assign (.tmp 16)) 25])
 .ret))))
theorem lit162 : Lit Try.prog 162 17 [1] [.tmp 2] c162 := ⟨⟨Try.f162, _, Try.func162, rfl, by kernel_rfl, rfl, rfl, by kernel_rfl, by kernel_rfl⟩, by decide, by kernel_rfl⟩
/-- impl.TrieChildren -/
def c163 : LC :=
  (.seq (.rgn [] [LL 2 (.box 197 (.tmp 0)) 0,
 LL 4 (.assign (.const (.slice none 0 0))) 25])
 (.seq (.rgn [] [LL 11 (.move (.tmp 1)) 25,
 LL 12 (.call { callee := (.builtin .len), args := #[(.tmp 11)], argTypes := #[25] }) 3,
 LL 5 (.assign (.tmp 12)) 3])
 (.seq (.seq (.rgn [] [LL 13 (.move (.tmp 5)) 3,
 LL 14 (.fieldAddr 197 (.tmp 2) 0) 0,
 LL 15 (.load 3 (.tmp 14)) 3,
 LL 16 (.binOp .geq 3 (.tmp 13) (.tmp 15) 3) 4,
 LL 17 (.move (.tmp 16)) 4,
 ⟨some 18, (.load 197 (.tmp 2)), 197, some (some 17, false)⟩,
 ⟨some 19, (.call { callee := (.value (.func 231)), args := #[(.tmp 18)], argTypes := #[197] }), 4, some (some 17, false)⟩,
 ⟨some 20, (.unOp .not 4 (.tmp 19)), 4, some (some 17, false)⟩,
 LL 21 (.pick (.tmp 17) (.const (.bool true)) (.tmp 20)) 4])
 (.cond (.tmp 21)
 (.seq (.rgn [] [LL 4 (.assign (.const (.slice none 0 0))) 25])
 .ret)
 .skip))
 (.seq (.rgn [] [LL 6 (.assign (.const (.slice none 0 0))) 25])
 (.seq (.rgn [] [LL 23 (.load 197 (.tmp 2)) 197,
 LL 24 (.move (.tmp 1)) 25,
 LL 25 (.call { callee := (.value (.func 232)), args := #[(.tmp 23), (.tmp 24)], argTypes := #[197, 25] }) 248,
 LL 22 (.move (.tmp 25)) 248,
 LL 26 (.extract (.tmp 22) 0) 3,
 LL 27 (.extract (.tmp 22) 1) 3,
 LL 7 (.assign (.tmp 26)) 3,
 LL 8 (.assign (.tmp 27)) 3])
 (.seq (.seq (.rgn [] [LL 28 (.fieldAddr 197 (.tmp 2) 1) 0,
 LL 29 (.load 82 (.tmp 28)) 82,
 LL 30 (.move (.tmp 7)) 3,
 LL 31 (.move (.tmp 8)) 3,
 LL 32 (.slice 82 (.tmp 29) (some (.tmp 30)) (some (.tmp 31)) none) 82,
 LL 33 (.call { callee := (.builtin .len), args := #[(.tmp 32)], argTypes := #[82] }) 3,
 LL 34 (.move (.const (.int .i64 0))) 3])
 (.blk 0
 (.loop []
 (.seq (.rgn [] [LL 35 (.binOp .lss 3 (.tmp 34) (.tmp 33) 3) 0])
 (.seq (.cond (.tmp 35)
 .skip
 (.exit 0))
 (.seq (.blk 1
 (.seq (.rgn [37] [LL 36 (.indexAddr 82 (.tmp 32) (.tmp 34)) 0,
 LL 37 (.load 25 (.tmp 36)) 25,
 LL 10 (.assign (.tmp 37)) 25])
 (.seq (.drw [] [([6], [38]), ([38], [39]), ([39], [40]), ([40], [41]), ([6, 41], [42]), ([6, 41], [43]), ([41, 43], [44]), ([41, 44], [45]), ([41, 42, 45], [46]), ([41, 46], [47]), ([10, 41], [48]), ([5, 41], [49]), ([41, 48, 49], [50]), ([41, 50], [51]), ([41, 47, 51], [52]), ([41, 52], [53])] [[], [0], [1], [2], [3], [3], [5, 3], [6, 3], [4, 7, 3], [8, 3], [3], [3], [10, 11, 3], [12, 3], [9, 13, 3], [3, 14]] [LL 38 (.move (.tmp 6)) 25,
 LL 39 (.call { callee := (.builtin .len), args := #[(.tmp 38)], argTypes := #[25] }) 3,
 LL 40 (.binOp .eql 3 (.tmp 39) (.const (.int .i64 0)) 3) 4,
 LL 41 (.move (.tmp 40)) 4,
 ⟨some 42, (.move (.tmp 6)), 25, some (some 41, false)⟩,
 ⟨some 43, (.move (.tmp 6)), 25, some (some 41, false)⟩,
 ⟨some 44, (.call { callee := (.builtin .len), args := #[(.tmp 43)], argTypes := #[25] }), 3, some (some 41, false)⟩,
 ⟨some 45, (.binOp .sub 3 (.tmp 44) (.const (.int .i64 1)) 3), 3, some (some 41, false)⟩,
 ⟨some 46, (.indexAddr 25 (.tmp 42) (.tmp 45)), 0, some (some 41, false)⟩,
 ⟨some 47, (.load 3 (.tmp 46)), 3, some (some 41, false)⟩,
 ⟨some 48, (.move (.tmp 10)), 25, some (some 41, false)⟩,
 ⟨some 49, (.move (.tmp 5)), 3, some (some 41, false)⟩,
 ⟨some 50, (.indexAddr 25 (.tmp 48) (.tmp 49)), 0, some (some 41, false)⟩,
 ⟨some 51, (.load 3 (.tmp 50)), 3, some (some 41, false)⟩,
 ⟨some 52, (.binOp .neq 3 (.tmp 47) (.tmp 51) 3), 4, some (some 41, false)⟩,
 LL 53 (.pick (.tmp 41) (.const (.bool true)) (.tmp 52)) 4])
 (.cond (.tmp 53)
 (.rgn [54] [LL 54 (.move (.tmp 6)) 25,
 LL 55 (.move (.tmp 10)) 25,
 LL 56 (.move (.tmp 5)) 3,
 LL 57 (.indexAddr 25 (.tmp 55) (.tmp 56)) 0,
 LL 58 (.load 3 (.tmp 57)) 3,
 LL 59 (.buildSlice 25 1 #[(0, (.tmp 58))]) 25,
 LL 60 (.call { callee := (.builtin .append), args := #[(.tmp 54), (.tmp 59)], argTypes := #[25, 25] }) 25,
 LL 6 (.assign (.tmp 60)) 25])
 .skip))))
 (.rgn [] [LL 61 (.binOp .add 3 (.tmp 34) (.const (.int .i64 1)) 3) 3,
 LL 34 (.move (.tmp 61)) 3])))))))
 (.seq (.rgn [62] [LL 62 (.move (.tmp 6)) 25,
 LL 4 (.assign (.tmp 62)) 25])
 .ret)))))))
theorem lit163 : Lit Try.prog 163 63 [2] [.tmp 4] c163 := ⟨⟨Try.f163, _, Try.func163, rfl, by kernel_rfl, rfl, rfl, by kernel_rfl, by kernel_rfl⟩, by decide, by kernel_rfl⟩
/-- laws.szTable -/
def c171 : LC :=
  (.seq (.rgn [] [LL 2 (.box 206 (.tmp 0)) 0,
 LL 4 (.assign (.const (.int .i64 0))) 3])
 (.seq (.rgn [] [LL 5 (.move (.tmp 1)) 3,
 LL 6 (.fieldAddr 206 (.tmp 2) 0) 0,
 LL 7 (.load 9 (.tmp 6)) 9,
 LL 8 (.call { callee := (.builtin .len), args := #[(.tmp 7)], argTypes := #[9] }) 3,
 LL 9 (.binOp .sub 3 (.tmp 5) (.tmp 8) 3) 3,
 LL 1 (.assign (.tmp 9)) 3])
 (.seq (.seq (.rgn [] [LL 10 (.move (.tmp 1)) 3,
 LL 11 (.binOp .lss 3 (.tmp 10) (.const (.int .i64 0)) 3) 4])
 (.cond (.tmp 11)
 (.seq (.rgn [] [LL 4 (.assign (.const (.int .i64 (-1)))) 3])
 .ret)
 .skip))
 (.seq (.rgn [] [LL 12 (.fieldAddr 206 (.tmp 2) 1) 0,
 LL 13 (.load 204 (.tmp 12)) 204,
 LL 14 (.move (.tmp 1)) 3,
 LL 15 (.call { callee := (.value (.func 235)), args := #[(.tmp 13), (.tmp 14)], argTypes := #[204, 3] }) 3,
 LL 1 (.assign (.tmp 15)) 3])
 (.seq (.seq (.rgn [] [LL 16 (.move (.tmp 1)) 3,
 LL 17 (.binOp .lss 3 (.tmp 16) (.const (.int .i64 0)) 3) 4])
 (.cond (.tmp 17)
 (.seq (.rgn [] [LL 4 (.assign (.const (.int .i64 (-1)))) 3])
 .ret)
 .skip))
 (.seq (.rgn [] [LL 18 (.move (.tmp 1)) 3,
 LL 4 (.assign (.tmp 18)) 3])
 .ret))))))
theorem lit171 : Lit Try.prog 171 19 [2] [.tmp 4] c171 := ⟨⟨Try.f171, _, Try.func171, rfl, by kernel_rfl, rfl, rfl, by kernel_rfl, by kernel_rfl⟩, by decide, by kernel_rfl⟩
/-- spec.l5Copy -/
def c172 : LC :=
  (.seq (.rgn [] [LL 1 (.box 128 (.tmp 0)) 0,
 LL 2 (.alloc 128) 0])
 (.seq (.rgn [] [LL 5 (.fieldAddr 128 (.tmp 1) 0) 0,
 LL 6 (.load 3 (.tmp 5)) 3,
 LL 7 (.build 128 #[(0, (.tmp 6))]) 128,
 LL 3 (.alloc 128) 0,
 ⟨none, (.store 128 (.tmp 3) (.tmp 7)), 0, none⟩])
 (.seq (.seq (.rgn [] [LL 4 (.assign (.const (.int .i64 0))) 3])
 (.blk 0
 (.loop []
 (.seq (.seq (.rgn [] [LL 8 (.move (.tmp 4)) 3,
 LL 9 (.fieldAddr 128 (.tmp 1) 1) 0,
 LL 10 (.load 82 (.tmp 9)) 82,
 LL 11 (.call { callee := (.builtin .len), args := #[(.tmp 10)], argTypes := #[82] }) 3,
 LL 12 (.binOp .lss 3 (.tmp 8) (.tmp 11) 3) 4])
 (.cond (.tmp 12)
 .skip
 (.exit 0)))
 (.seq (.blk 1
 (.drw [16, 22] [([3], [15]), ([3, 15], [3, 15, 16]), ([], [17]), ([1], [18]), ([1, 18], [19]), ([4], [20]), ([19, 20], [21]), ([21], [21, 22]), ([17, 22], [17, 22, 23]), ([23], [23, 24]), ([16, 24], [16, 24, 25]), ([3], [26]), ([3, 25, 26], [3, 25, 26])] [[], [0], [], [], [3], [], [4, 5], [6], [2, 7], [8], [1, 9, 8], [0, 1, 2, 3, 4, 5, 6, 7, 8, 9, 10], [11, 10, 10, 0, 1, 2, 3, 4, 5, 6, 7, 8, 9, 10]] [LL 15 (.fieldAddr 128 (.tmp 3) 1) 0,
 LL 16 (.load 82 (.tmp 15)) 82,
 LL 17 (.buildSlice 25 0 #[]) 25,
 LL 18 (.fieldAddr 128 (.tmp 1) 1) 0,
 LL 19 (.load 82 (.tmp 18)) 82,
 LL 20 (.move (.tmp 4)) 3,
 LL 21 (.indexAddr 82 (.tmp 19) (.tmp 20)) 0,
 LL 22 (.load 25 (.tmp 21)) 25,
 LL 23 (.call { callee := (.builtin .append), args := #[(.tmp 17), (.tmp 22)], argTypes := #[25, 25] }) 25,
 LL 24 (.buildSlice 82 1 #[(0, (.tmp 23))]) 82,
 LL 25 (.call { callee := (.builtin .append), args := #[(.tmp 16), (.tmp 24)], argTypes := #[82, 82] }) 82,
 LL 26 (.fieldAddr 128 (.tmp 3) 1) 0,
 ⟨none, (.store 82 (.tmp 26) (.tmp 25)), 0, none⟩]))
 (.rgn [] [LL 13 (.move (.tmp 4)) 3,
 LL 14 (.binOp .add 3 (.tmp 13) (.const (.int .i64 1)) 3) 3,
 LL 4 (.assign (.tmp 14)) 3]))))))
 (.seq (.rgn [27] [LL 27 (.load 128 (.tmp 3)) 128,
 ⟨none, (.store 128 (.tmp 2) (.tmp 27)), 0, none⟩])
 .ret))))
theorem lit172 : Lit Try.prog 172 28 [1, 2, 3] [.cell 2 128] c172 := ⟨⟨Try.f172, _, Try.func172, rfl, by kernel_rfl, rfl, rfl, by kernel_rfl, by kernel_rfl⟩, by decide, by kernel_rfl⟩
/-- laws.toTable -/
def c173 : LC :=
  (.seq (.rgn [] [LL 1 (.box 206 (.tmp 0)) 0,
 LL 2 (.alloc 208) 0])
 (.seq (.rgn [] [LL 3 (.alloc 208) 0])
 (.seq (.rgn [] [LL 4 (.fieldAddr 206 (.tmp 1) 0) 0,
 LL 5 (.load 9 (.tmp 4)) 9,
 LL 6 (.fieldAddr 208 (.tmp 3) 0) 0,
 ⟨none, (.store 9 (.tmp 6) (.tmp 5)), 0, none⟩])
 (.seq (.rgn [] [LL 7 (.fieldAddr 206 (.tmp 1) 1) 0,
 LL 8 (.load 204 (.tmp 7)) 204,
 LL 9 (.call { callee := (.value (.func 236)), args := #[(.tmp 8)], argTypes := #[204] }) 128,
 LL 10 (.fieldAddr 208 (.tmp 3) 1) 0,
 ⟨none, (.store 128 (.tmp 10) (.tmp 9)), 0, none⟩])
 (.seq (.rgn [11] [LL 11 (.load 208 (.tmp 3)) 208,
 ⟨none, (.store 208 (.tmp 2) (.tmp 11)), 0, none⟩])
 .ret)))))
theorem lit173 : Lit Try.prog 173 12 [1, 2, 3] [.cell 2 208] c173 := ⟨⟨Try.f173, _, Try.func173, rfl, by kernel_rfl, rfl, rfl, by kernel_rfl, by kernel_rfl⟩, by decide, by kernel_rfl⟩
/-- impl.copyRelation -/
def c175 : LC :=
  (.seq (.rgn [] [LL 1 (.box 128 (.tmp 0)) 0,
 LL 2 (.alloc 128) 0])
 (.seq (.drw [] [([1], [3]), ([1, 3], [4]), ([1], [5]), ([1, 5], [6]), ([6], [7]), ([4, 7], [4, 7, 8]), ([2, 8], [2, 8])] [[], [0], [], [2], [3], [1, 4], [5, 4, 0, 1, 2, 3, 4, 5]] [LL 3 (.fieldAddr 128 (.tmp 1) 0) 0,
 LL 4 (.load 3 (.tmp 3)) 3,
 LL 5 (.fieldAddr 128 (.tmp 1) 1) 0,
 LL 6 (.load 82 (.tmp 5)) 82,
 LL 7 (.call { callee := (.value (.func 237)), args := #[(.tmp 6)], argTypes := #[82] }) 82,
 LL 8 (.build 128 #[(0, (.tmp 4)), (1, (.tmp 7))]) 128,
 ⟨none, (.store 128 (.tmp 2) (.tmp 8)), 0, none⟩])
 .ret))
theorem lit175 : Lit Try.prog 175 9 [1, 2] [.cell 2 128] c175 := ⟨⟨Try.f175, _, Try.func175, rfl, by kernel_rfl, rfl, rfl, by kernel_rfl, by kernel_rfl⟩, by decide, by kernel_rfl⟩
/-- laws.eqTable -/
def c176 : LC :=
  (.seq (.rgn [] [LL 2 (.box 208 (.tmp 0)) 0,
 LL 3 (.box 208 (.tmp 1)) 0,
 LL 4 (.assign (.const (.bool false))) 4])
 (.seq (.seq (.rgn [] [LL 5 (.fieldAddr 208 (.tmp 2) 0) 0,
 LL 6 (.load 9 (.tmp 5)) 9,
 LL 7 (.fieldAddr 208 (.tmp 3) 0) 0,
 LL 8 (.load 9 (.tmp 7)) 9,
 LL 9 (.binOp .neq 9 (.tmp 6) (.tmp 8) 9) 4])
 (.cond (.tmp 9)
 (.seq (.rgn [] [LL 4 (.assign (.const (.bool false))) 4])
 .ret)
 .skip))
 (.seq (.seq (.rgn [] [LL 10 (.fieldAddr 208 (.tmp 2) 1) 0,
 LL 11 (.load 128 (.tmp 10)) 128,
 LL 12 (.fieldAddr 208 (.tmp 3) 1) 0,
 LL 13 (.load 128 (.tmp 12)) 128,
 LL 14 (.call { callee := (.value (.func 238)), args := #[(.tmp 11), (.tmp 13)], argTypes := #[128, 128] }) 4,
 LL 15 (.unOp .not 4 (.tmp 14)) 4])
 (.cond (.tmp 15)
 (.seq (.rgn [] [LL 4 (.assign (.const (.bool false))) 4])
 .ret)
 .skip))
 (.seq (.rgn [] [LL 4 (.assign (.const (.bool true))) 4])
 .ret))))
theorem lit176 : Lit Try.prog 176 16 [2, 3] [.tmp 4] c176 := ⟨⟨Try.f176, _, Try.func176, rfl, by kernel_rfl, rfl, rfl, by kernel_rfl, by kernel_rfl⟩, by decide, by kernel_rfl⟩
/-- laws.szAtom -/
def c198 : LC :=
  (.seq (.rgn [] [LL 2 (.box 231 (.tmp 0)) 0,
 LL 4 (.assign (.const (.int .i64 0))) 3])
 (.seq (.rgn [] [LL 5 (.move (.tmp 1)) 3,
 LL 6 (.fieldAddr 231 (.tmp 2) 0) 0,
 LL 7 (.load 9 (.tmp 6)) 9,
 LL 8 (.call { callee := (.builtin .len), args := #[(.tmp 7)], argTypes := #[9] }) 3,
 LL 9 (.binOp .sub 3 (.tmp 5) (.tmp 8) 3) 3,
 LL 1 (.assign (.tmp 9)) 3])
 (.seq (.seq (.rgn [] [LL 10 (.move (.tmp 1)) 3,
 LL 11 (.binOp .lss 3 (.tmp 10) (.const (.int .i64 0)) 3) 4])
 (.cond (.tmp 11)
 (.seq (.rgn [] [LL 4 (.assign (.const (.int .i64 (-1)))) 3])
 .ret)
 .skip))
 (.seq (.rgn [] [LL 12 (.fieldAddr 231 (.tmp 2) 1) 0,
 LL 13 (.load 25 (.tmp 12)) 25,
 LL 14 (.move (.tmp 1)) 3,
 LL 15 (.call { callee := (.value (.func 72)), args := #[(.tmp 13), (.tmp 14)], argTypes := #[25, 3] }) 3,
 LL 1 (.assign (.tmp 15)) 3])
 (.seq (.seq (.rgn [] [LL 16 (.move (.tmp 1)) 3,
 LL 17 (.binOp .lss 3 (.tmp 16) (.const (.int .i64 0)) 3) 4])
 (.cond (.tmp 17)
 (.seq (.rgn [] [LL 4 (.assign (.const (.int .i64 (-1)))) 3])
 .ret)
 .skip))
 (.seq (.rgn [] [LL 18 (.move (.tmp 1)) 3,
 LL 4 (.assign (.tmp 18)) 3])
 .ret))))))
theorem lit198 : Lit Try.prog 198 19 [2] [.tmp 4] c198 := ⟨⟨Try.f198, _, Try.func198, rfl, by kernel_rfl, rfl, rfl, by kernel_rfl, by kernel_rfl⟩, by decide, by kernel_rfl⟩
/-- laws.szIntSS -/
def c199 : LC :=
  (.seq (.rgn [] [LL 4 (.assign (.const (.int .i64 0))) 3])
 (.seq (.rgn [] [LL 6 (.move (.tmp 1)) 3,
 LL 7 (.move (.tmp 0)) 82,
 LL 8 (.call { callee := (.builtin .len), args := #[(.tmp 7)], argTypes := #[82] }) 3,
 LL 9 (.binOp .sub 3 (.tmp 6) (.tmp 8) 3) 3,
 LL 1 (.assign (.tmp 9)) 3])
 (.seq (.seq (.rgn [] [LL 10 (.move (.tmp 1)) 3,
 LL 11 (.binOp .lss 3 (.tmp 10) (.const (.int .i64 0)) 3) 4])
 (.cond (.tmp 11)
 (.seq (.rgn [] [LL 4 (.assign (.const (.int .i64 (-1)))) 3])
 .ret)
 .skip))
 (.seq (.seq (.rgn [] [LL 5 (.assign (.const (.int .i64 0))) 3])
 (.blk 0
 (.loop []
 (.seq (.seq (.rgn [] [LL 12 (.move (.tmp 5)) 3,
 LL 13 (.move (.tmp 0)) 82,
 LL 14 (.call { callee := (.builtin .len), args := #[(.tmp 13)], argTypes := #[82] }) 3,
 LL 15 (.binOp .lss 3 (.tmp 12) (.tmp 14) 3) 4])
 (.cond (.tmp 15)
 .skip
 (.exit 0)))
 (.seq (.blk 1
 (.seq (.rgn [] [LL 18 (.move (.tmp 0)) 82,
 LL 19 (.move (.tmp 5)) 3,
 LL 20 (.indexAddr 82 (.tmp 18) (.tmp 19)) 0,
 LL 21 (.load 25 (.tmp 20)) 25,
 LL 22 (.move (.tmp 1)) 3,
 LL 23 (.call { callee := (.value (.func 72)), args := #[(.tmp 21), (.tmp 22)], argTypes := #[25, 3] }) 3,
 LL 1 (.assign (.tmp 23)) 3])
 (.seq (.rgn [] [LL 24 (.move (.tmp 1)) 3,
 LL 25 (.binOp .lss 3 (.tmp 24) (.const (.int .i64 0)) 3) 4])
 (.cond (.tmp 25)
 (.seq (.rgn [] [LL 4 (.assign (.const (.int .i64 (-1)))) 3])
 .ret)
 .skip))))
 (.rgn [] [LL 16 (.move (.tmp 5)) 3,
 LL 17 (.binOp .add 3 (.tmp 16) (.const (.int .i64 1)) 3) 3,
 LL 5 (.assign (.tmp 17)) 3]))))))
 (.seq (.rgn [] [LL 26 (.move (.tmp 1)) 3,
 LL 4 (.assign (.tmp 26)) 3])
 .ret)))))
theorem lit199 : Lit Try.prog 199 27 [] [.tmp 4] c199 := ⟨⟨Try.f199, _, Try.func199, rfl, by kernel_rfl, rfl, rfl, by kernel_rfl, by kernel_rfl⟩, by decide, by kernel_rfl⟩
/-- spec.IsValidQuery -/
def c200 : LC :=
  (.seq (.rgn [] [LL 1 (.box 92 (.tmp 0)) 0,
 LL 2 (.assign (.const (.bool false))) 4])
 (.seq (.seq (.rgn [] [LL 9 (.fieldAddr 92 (.tmp 1) 0) 0,
 LL 10 (.load 3 (.tmp 9)) 3,
 LL 11 (.call { callee := (.value (.func 86)), args := #[(.tmp 10), (.const (.int .i64 1)), (.const (.int .i64 5))], argTypes := #[3, 3, 3] }) 4,
 LL 12 (.unOp .not 4 (.tmp 11)) 4,
 LL 13 (.move (.tmp 12)) 4,
 ⟨some 14, (.fieldAddr 92 (.tmp 1) 1), 0, some (some 13, false)⟩,
 ⟨some 15, (.load 90 (.tmp 14)), 90, some (some 13, false)⟩,
 ⟨some 16, (.call { callee := (.builtin .len), args := #[(.tmp 15)], argTypes := #[90] }), 3, some (some 13, false)⟩,
 ⟨some 17, (.call { callee := (.value (.func 86)), args := #[(.tmp 16), (.const (.int .i64 1)), (.const (.int .i64 4))], argTypes := #[3, 3, 3] }), 4, some (some 13, false)⟩,
 ⟨some 18, (.unOp .not 4 (.tmp 17)), 4, some (some 13, false)⟩,
 LL 19 (.pick (.tmp 13) (.const (.bool true)) (.tmp 18)) 4,
 LL 20 (.move (.tmp 19)) 4,
 ⟨some 21, (.fieldAddr 92 (.tmp 1) 2), 0, some (some 20, false)⟩,
 ⟨some 22, (.load 25 (.tmp 21)), 25, some (some 20, false)⟩,
 ⟨some 23, (.call { callee := (.builtin .len), args := #[(.tmp 22)], argTypes := #[25] }), 3, some (some 20, false)⟩,
 ⟨some 24, (.fieldAddr 92 (.tmp 1) 0), 0, some (some 20, false)⟩,
 ⟨some 25, (.load 3 (.tmp 24)), 3, some (some 20, false)⟩,
 ⟨some 26, (.binOp .gtr 3 (.tmp 23) (.tmp 25) 3), 4, some (some 20, false)⟩,
 LL 27 (.pick (.tmp 20) (.const (.bool true)) (.tmp 26)) 4])
 (.cond (.tmp 27)
 (.seq (.rgn [] [LL 2 (.assign (.const (.bool false))) 4])
 .ret)
 .skip))
 (.seq (.seq (.rgn [] [LL 3 (.assign (.const (.int .i64 0))) 3])
 (.blk 0
 (.loop []
 (.seq (.seq (.rgn [] [LL 28 (.move (.tmp 3)) 3,
 LL 29 (.fieldAddr 92 (.tmp 1) 1) 0,
 LL 30 (.load 90 (.tmp 29)) 90,
 LL 31 (.call { callee := (.builtin .len), args := #[(.tmp 30)], argTypes := #[90] }) 3,
 LL 32 (.binOp .lss 3 (.tmp 28) (.tmp 31) 3) 4])
 (.cond (.tmp 32)
 .skip
 (.exit 0)))
 (.seq (.blk 1
 (.seq (.seq (.rgn [] [LL 35 (.fieldAddr 92 (.tmp 1) 1) 0,
 LL 36 (.load 90 (.tmp 35)) 90,
 LL 37 (.move (.tmp 3)) 3,
 LL 38 (.indexAddr 90 (.tmp 36) (.tmp 37)) 0,
 LL 39 (.fieldAddr 195 (.tmp 38) 0) 0,
 LL 40 (.load 9 (.tmp 39)) 9,
 LL 41 (.call { callee := (.value (.func 216)), args := #[(.tmp 40)], argTypes := #[9] }) 4,
 LL 42 (.unOp .not 4 (.tmp 41)) 4,
 LL 43 (.move (.tmp 42)) 4,
 ⟨some 44, (.fieldAddr 92 (.tmp 1) 1), 0, some (some 43, false)⟩,
 ⟨some 45, (.load 90 (.tmp 44)), 90, some (some 43, false)⟩,
 ⟨some 46, (.move (.tmp 3)), 3, some (some 43, false)⟩,
 ⟨some 47, (.indexAddr 90 (.tmp 45) (.tmp 46)), 0, some (some 43, false)⟩,
 ⟨some 48, (.fieldAddr 195 (.tmp 47) 1), 0, some (some 43, false)⟩,
 ⟨some 49, (.load 25 (.tmp 48)), 25, some (some 43, false)⟩,
 ⟨some 50, (.call { callee := (.builtin .len), args := #[(.tmp 49)], argTypes := #[25] }), 3, some (some 43, false)⟩,
 ⟨some 51, (.call { callee := (.value (.func 86)), args := #[(.tmp 50), (.const (.int .i64 1)), (.const (.int .i64 5))], argTypes := #[3, 3, 3] }), 4, some (some 43, false)⟩,
 ⟨some 52, (.unOp .not 4 (.tmp 51)), 4, some (some 43, false)⟩,
 LL 53 (.pick (.tmp 43) (.const (.bool true)) (.tmp 52)) 4])
 (.cond (.tmp 53)
 (.seq (.rgn [] [LL 2 (.assign (.const (.bool false))) 4])
 .ret)
 .skip))
 (.seq (.rgn [] [LL 4 (.assign (.const (.int .i64 0))) 3])
 (.blk 2
 (.loop []
 (.seq (.seq (.rgn [] [LL 54 (.move (.tmp 4)) 3,
 LL 55 (.fieldAddr 92 (.tmp 1) 1) 0,
 LL 56 (.load 90 (.tmp 55)) 90,
 LL 57 (.move (.tmp 3)) 3,
 LL 58 (.indexAddr 90 (.tmp 56) (.tmp 57)) 0,
 LL 59 (.fieldAddr 195 (.tmp 58) 1) 0,
 LL 60 (.load 25 (.tmp 59)) 25,
 LL 61 (.call { callee := (.builtin .len), args := #[(.tmp 60)], argTypes := #[25] }) 3,
 LL 62 (.binOp .lss 3 (.tmp 54) (.tmp 61) 3) 4])
 (.cond (.tmp 62)
 .skip
 (.exit 2)))
 (.seq (.blk 3
 (.seq (.drw [] [([1], [65]), ([1, 65], [66]), ([3], [67]), ([66, 67], [68]), ([68], [69]), ([69], [70]), ([4], [71]), ([70, 71], [72]), ([72], [73]), ([1], [74]), ([1, 74], [75]), ([75], [76]), ([73, 76], [77]), ([77], [78])] [[], [0], [], [1, 2], [3], [4], [], [5, 6], [7], [], [9], [10], [8, 11], [12]] [LL 65 (.fieldAddr 92 (.tmp 1) 1) 0,
 LL 66 (.load 90 (.tmp 65)) 90,
 LL 67 (.move (.tmp 3)) 3,
 LL 68 (.indexAddr 90 (.tmp 66) (.tmp 67)) 0,
 LL 69 (.fieldAddr 195 (.tmp 68) 1) 0,
 LL 70 (.load 25 (.tmp 69)) 25,
 LL 71 (.move (.tmp 4)) 3,
 LL 72 (.indexAddr 25 (.tmp 70) (.tmp 71)) 0,
 LL 73 (.load 3 (.tmp 72)) 3,
 LL 74 (.fieldAddr 92 (.tmp 1) 0) 0,
 LL 75 (.load 3 (.tmp 74)) 3,
 LL 76 (.binOp .sub 3 (.tmp 75) (.const (.int .i64 1)) 3) 3,
 LL 77 (.call { callee := (.value (.func 86)), args := #[(.tmp 73), (.const (.int .i64 0)), (.tmp 76)], argTypes := #[3, 3, 3] }) 4,
 LL 78 (.unOp .not 4 (.tmp 77)) 4])
 (.cond (.tmp 78)
 (.seq (.rgn [] [LL 2 (.assign (.const (.bool false))) 4])
 .ret)
 .skip)))
 (.rgn [] [LL 63 (.move (.tmp 4)) 3,
 LL 64 (.binOp .add 3 (.tmp 63) (.const (.int .i64 1)) 3) 3,
 LL 4 (.assign (.tmp 64)) 3]))))))))
 (.rgn [] [LL 33 (.move (.tmp 3)) 3,
 LL 34 (.binOp .add 3 (.tmp 33) (.const (.int .i64 1)) 3) 3,
 LL 3 (.assign (.tmp 34)) 3]))))))
 (.seq (.seq (.rgn [] [LL 5 (.assign (.const (.int .i64 0))) 3])
 (.blk 4
 (.loop []
 (.seq (.seq (.rgn [] [LL 79 (.move (.tmp 5)) 3,
 LL 80 (.fieldAddr 92 (.tmp 1) 0) 0,
 LL 81 (.load 3 (.tmp 80)) 3,
 LL 82 (.binOp .lss 3 (.tmp 79) (.tmp 81) 3) 4])
 (.cond (.tmp 82)
 .skip
 (.exit 4)))
 (.seq (.blk 5
 (.seq (.rgn [] [LL 6 (.assign (.const (.bool false))) 4])
 (.seq (.seq (.rgn [] [LL 7 (.assign (.const (.int .i64 0))) 3])
 (.blk 6
 (.loop []
 (.seq (.seq (.rgn [] [LL 85 (.move (.tmp 7)) 3,
 LL 86 (.fieldAddr 92 (.tmp 1) 1) 0,
 LL 87 (.load 90 (.tmp 86)) 90,
 LL 88 (.call { callee := (.builtin .len), args := #[(.tmp 87)], argTypes := #[90] }) 3,
 LL 89 (.binOp .lss 3 (.tmp 85) (.tmp 88) 3) 4])
 (.cond (.tmp 89)
 .skip
 (.exit 6)))
 (.seq (.blk 7
 (.rgn [] [LL 92 (.move (.tmp 6)) 4,
 LL 93 (.move (.tmp 92)) 4,
 ⟨some 94, (.fieldAddr 92 (.tmp 1) 1), 0, some (some 93, false)⟩,
 ⟨some 95, (.load 90 (.tmp 94)), 90, some (some 93, false)⟩,
 ⟨some 96, (.move (.tmp 7)), 3, some (some 93, false)⟩,
 ⟨some 97, (.indexAddr 90 (.tmp 95) (.tmp 96)), 0, some (some 93, false)⟩,
 ⟨some 98, (.load 195 (.tmp 97)), 195, some (some 93, false)⟩,
 ⟨some 99, (.move (.tmp 5)), 3, some (some 93, false)⟩,
 ⟨some 100, (.call { callee := (.value (.func 157)), args := #[(.tmp 98), (.tmp 99)], argTypes := #[195, 3] }), 4, some (some 93, false)⟩,
 LL 101 (.pick (.tmp 93) (.const (.bool true)) (.tmp 100)) 4,
 LL 6 (.assign (.tmp 101)) 4]))
 (.rgn [] [LL 90 (.move (.tmp 7)) 3,
 LL 91 (.binOp .add 3 (.tmp 90) (.const (.int .i64 1)) 3) 3,
 LL 7 (.assign (.tmp 91)) 3]))))))
 (.seq (.rgn [] [LL 102 (.move (.tmp 6)) 4,
 LL 103 (.unOp .not 4 (.tmp 102)) 4])
 (.cond (.tmp 103)
 (.seq (.rgn [] [LL 2 (.assign (.const (.bool false))) 4])
 .ret)
 .skip)))))
 (.rgn [] [LL 83 (.move (.tmp 5)) 3,
 LL 84 (.binOp .add 3 (.tmp 83) (.const (.int .i64 1)) 3) 3,
 LL 5 (.assign (.tmp 84)) 3]))))))
 (.seq (.seq (.rgn [] [LL 8 (.assign (.const (.int .i64 0))) 3])
 (.blk 8
 (.loop []
 (.seq (.seq (.rgn [] [LL 104 (.move (.tmp 8)) 3,
 LL 105 (.fieldAddr 92 (.tmp 1) 2) 0,
 LL 106 (.load 25 (.tmp 105)) 25,
 LL 107 (.call { callee := (.builtin .len), args := #[(.tmp 106)], argTypes := #[25] }) 3,
 LL 108 (.binOp .lss 3 (.tmp 104) (.tmp 107) 3) 4])
 (.cond (.tmp 108)
 .skip
 (.exit 8)))
 (.seq (.blk 9
 (.seq (.drw [] [([1], [111]), ([1, 111], [112]), ([8], [113]), ([112, 113], [114]), ([114], [115]), ([1], [116]), ([1, 116], [117]), ([117], [118]), ([115, 118], [119]), ([119], [120]), ([120], [121]), ([1, 121], [122]), ([1, 121, 122], [123]), ([8, 121], [124]), ([121, 123, 124], [125]), ([1, 121], [126]), ([1, 121, 126], [127]), ([8, 121], [128]), ([121, 127, 128], [129]), ([121, 129], [130]), ([121, 125, 130], [131]), ([121, 131], [132]), ([121, 132], [133])] [[], [0], [], [1, 2], [3], [], [5], [6], [4, 7], [8], [9, 8], [10], [11, 10], [10], [12, 13, 10], [10], [15, 10], [10], [16, 17, 10], [18, 10], [14, 19, 10, 10], [20, 10], [10, 21]] [LL 111 (.fieldAddr 92 (.tmp 1) 2) 0,
 LL 112 (.load 25 (.tmp 111)) 25,
 LL 113 (.move (.tmp 8)) 3,
 LL 114 (.indexAddr 25 (.tmp 112) (.tmp 113)) 0,
 LL 115 (.load 3 (.tmp 114)) 3,
 LL 116 (.fieldAddr 92 (.tmp 1) 0) 0,
 LL 117 (.load 3 (.tmp 116)) 3,
 LL 118 (.binOp .sub 3 (.tmp 117) (.const (.int .i64 1)) 3) 3,
 LL 119 (.call { callee := (.value (.func 86)), args := #[(.tmp 115), (.const (.int .i64 0)), (.tmp 118)], argTypes := #[3, 3, 3] }) 4,
 LL 120 (.unOp .not 4 (.tmp 119)) 4,
 LL 121 (.move (.tmp 120)) 4,
 ⟨some 122, (.fieldAddr 92 (.tmp 1) 2), 0, some (some 121, false)⟩,
 ⟨some 123, (.load 25 (.tmp 122)), 25, some (some 121, false)⟩,
 ⟨some 124, (.move (.tmp 8)), 3, some (some 121, false)⟩,
 ⟨some 125, (.slice 25 (.tmp 123) none (some (.tmp 124)) none), 25, some (some 121, false)⟩,
 ⟨some 126, (.fieldAddr 92 (.tmp 1) 2), 0, some (some 121, false)⟩,
 ⟨some 127, (.load 25 (.tmp 126)), 25, some (some 121, false)⟩,
 ⟨some 128, (.move (.tmp 8)), 3, some (some 121, false)⟩,
 ⟨some 129, (.indexAddr 25 (.tmp 127) (.tmp 128)), 0, some (some 121, false)⟩,
 ⟨some 130, (.load 3 (.tmp 129)), 3, some (some 121, false)⟩,
 ⟨some 131, (.call { callee := (.value (.func 205)), args := #[(.tmp 125), (.tmp 130)], argTypes := #[25, 3] }), 3, some (some 121, false)⟩,
 ⟨some 132, (.binOp .geq 3 (.tmp 131) (.const (.int .i64 0)) 3), 4, some (some 121, false)⟩,
 LL 133 (.pick (.tmp 121) (.const (.bool true)) (.tmp 132)) 4])
 (.cond (.tmp 133)
 (.seq (.rgn [] [LL 2 (.assign (.const (.bool false))) 4])
 .ret)
 .skip)))
 (.rgn [] [LL 109 (.move (.tmp 8)) 3,
 LL 110 (.binOp .add 3 (.tmp 109) (.const (.int .i64 1)) 3) 3,
 LL 8 (.assign (.tmp 110)) 3]))))))
 (.seq (.rgn [] [LL 2 (.assign (.const (.bool true))) 4])
 .ret))))))
theorem lit200 : Lit Try.prog 200 134 [1] [.tmp 2] c200 := ⟨⟨Try.f200, _, Try.func200, rfl, by kernel_rfl, rfl, rfl, by kernel_rfl, by kernel_rfl⟩, by decide, by kernel_rfl⟩
/-- spec.l7Find -/
def c205 : LC :=
  (.seq (.rgn [] [LL 4 (.assign (.const (.int .i64 0))) 3])
 (.seq (.seq (.rgn [] [LL 5 (.assign (.const (.int .i64 0))) 3])
 (.blk 0
 (.loop []
 (.seq (.seq (.rgn [] [LL 6 (.move (.tmp 5)) 3,
 LL 7 (.move (.tmp 0)) 25,
 LL 8 (.call { callee := (.builtin .len), args := #[(.tmp 7)], argTypes := #[25] }) 3,
 LL 9 (.binOp .lss 3 (.tmp 6) (.tmp 8) 3) 4])
 (.cond (.tmp 9)
 .skip
 (.exit 0)))
 (.seq (.blk 1
 (.seq (.rgn [] [LL 12 (.move (.tmp 0)) 25,
 LL 13 (.move (.tmp 5)) 3,
 LL 14 (.indexAddr 25 (.tmp 12) (.tmp 13)) 0,
 LL 15 (.load 3 (.tmp 14)) 3,
 LL 16 (.move (.tmp 1)) 3,
 LL 17 (.binOp .eql 3 (.tmp 15) (.tmp 16) 3) 4])
 (.cond (.tmp 17)
 (.seq (.rgn [] [LL 18 (.move (.tmp 5)) 3,
 LL 4 (.assign (.tmp 18)) 3])
 .ret)
 .skip)))
 (.rgn [] [LL 10 (.move (.tmp 5)) 3,
 LL 11 (.binOp .add 3 (.tmp 10) (.const (.int .i64 1)) 3) 3,
 LL 5 (.assign (.tmp 11)) 3]))))))
 (.seq (.rgn [] [LL 4 (.assign (.const (.int .i64 (-1)))) 3])
 .ret)))
theorem lit205 : Lit Try.prog 205 19 [] [.tmp 4] c205 := ⟨⟨Try.f205, _, Try.func205, rfl, by kernel_rfl, rfl, rfl, by kernel_rfl, by kernel_rfl⟩, by decide, by kernel_rfl⟩
/-- spec.IsPermutation -/
def c206 : LC :=
  (.seq (.rgn [] [LL 2 (.assign (.const (.bool false))) 4])
 (.seq (.seq (.rgn [] [LL 3 (.assign (.const (.int .i64 0))) 3])
 (.blk 0
 (.loop []
 (.seq (.seq (.rgn [] [LL 4 (.move (.tmp 3)) 3,
 LL 5 (.move (.tmp 0)) 25,
 LL 6 (.call { callee := (.builtin .len), args := #[(.tmp 5)], argTypes := #[25] }) 3,
 LL 7 (.binOp .lss 3 (.tmp 4) (.tmp 6) 3) 4])
 (.cond (.tmp 7)
 .skip
 (.exit 0)))
 (.seq (.blk 1
 (.seq (.drw [] [([0], [10]), ([3], [11]), ([10, 11], [12]), ([12], [13]), ([0], [14]), ([14], [15]), ([15], [16]), ([13, 16], [17]), ([17], [18]), ([18], [19]), ([0, 19], [20]), ([3, 19], [21]), ([19, 20, 21], [22]), ([0, 19], [23]), ([3, 19], [24]), ([19, 23, 24], [25]), ([19, 25], [26]), ([19, 22, 26], [27]), ([19, 27], [28]), ([19, 28], [29])] [[], [], [0, 1], [2], [], [4], [5], [3, 6], [7], [8, 7], [9], [9], [10, 11, 9], [9], [9], [13, 14, 9], [15, 9], [12, 16, 9, 9], [17, 9], [9, 18]] [LL 10 (.move (.tmp 0)) 25,
 LL 11 (.move (.tmp 3)) 3,
 LL 12 (.indexAddr 25 (.tmp 10) (.tmp 11)) 0,
 LL 13 (.load 3 (.tmp 12)) 3,
 LL 14 (.move (.tmp 0)) 25,
 LL 15 (.call { callee := (.builtin .len), args := #[(.tmp 14)], argTypes := #[25] }) 3,
 LL 16 (.binOp .sub 3 (.tmp 15) (.const (.int .i64 1)) 3) 3,
 LL 17 (.call { callee := (.value (.func 86)), args := #[(.tmp 13), (.const (.int .i64 0)), (.tmp 16)], argTypes := #[3, 3, 3] }) 4,
 LL 18 (.unOp .not 4 (.tmp 17)) 4,
 LL 19 (.move (.tmp 18)) 4,
 ⟨some 20, (.move (.tmp 0)), 25, some (some 19, false)⟩,
 ⟨some 21, (.move (.tmp 3)), 3, some (some 19, false)⟩,
 ⟨some 22, (.slice 25 (.tmp 20) none (some (.tmp 21)) none), 25, some (some 19, false)⟩,
 ⟨some 23, (.move (.tmp 0)), 25, some (some 19, false)⟩,
 ⟨some 24, (.move (.tmp 3)), 3, some (some 19, false)⟩,
 ⟨some 25, (.indexAddr 25 (.tmp 23) (.tmp 24)), 0, some (some 19, false)⟩,
 ⟨some 26, (.load 3 (.tmp 25)), 3, some (some 19, false)⟩,
 ⟨some 27, (.call { callee := (.value (.func 205)), args := #[(.tmp 22), (.tmp 26)], argTypes := #[25, 3] }), 3, some (some 19, false)⟩,
 ⟨some 28, (.binOp .geq 3 (.tmp 27) (.const (.int .i64 0)) 3), 4, some (some 19, false)⟩,
 LL 29 (.pick (.tmp 19) (.const (.bool true)) (.tmp 28)) 4])
 (.cond (.tmp 29)
 (.seq (.rgn [] [LL 2 (.assign (.const (.bool false))) 4])
 .ret)
 .skip)))
 (.rgn [] [LL 8 (.move (.tmp 3)) 3,
 LL 9 (.binOp .add 3 (.tmp 8) (.const (.int .i64 1)) 3) 3,
 LL 3 (.assign (.tmp 9)) 3]))))))
 (.seq (.rgn [] [LL 30 (.move (.tmp 0)) 25,
 LL 31 (.call { callee := (.builtin .len), args := #[(.tmp 30)], argTypes := #[25] }) 3,
 LL 32 (.binOp .leq 3 (.tmp 31) (.const (.int .i64 5)) 3) 4,
 LL 2 (.assign (.tmp 32)) 4])
 .ret)))
theorem lit206 : Lit Try.prog 206 33 [] [.tmp 2] c206 := ⟨⟨Try.f206, _, Try.func206, rfl, by kernel_rfl, rfl, rfl, by kernel_rfl, by kernel_rfl⟩, by decide, by kernel_rfl⟩
/-- laws.toAtom -/
def c207 : LC :=
  (.seq (.rgn [] [LL 1 (.box 231 (.tmp 0)) 0,
 LL 2 (.alloc 195) 0])
 (.seq (.rgn [] [LL 3 (.alloc 195) 0])
 (.seq (.rgn [] [LL 4 (.fieldAddr 231 (.tmp 1) 0) 0,
 LL 5 (.load 9 (.tmp 4)) 9,
 LL 6 (.fieldAddr 195 (.tmp 3) 0) 0,
 ⟨none, (.store 9 (.tmp 6) (.tmp 5)), 0, none⟩])
 (.seq (.rgn [] [LL 7 (.fieldAddr 231 (.tmp 1) 1) 0,
 LL 8 (.load 25 (.tmp 7)) 25,
 LL 9 (.call { callee := (.value (.func 58)), args := #[(.tmp 8)], argTypes := #[25] }) 25,
 LL 10 (.fieldAddr 195 (.tmp 3) 1) 0,
 ⟨none, (.store 25 (.tmp 10) (.tmp 9)), 0, none⟩])
 (.seq (.rgn [11] [LL 11 (.load 195 (.tmp 3)) 195,
 ⟨none, (.store 195 (.tmp 2) (.tmp 11)), 0, none⟩])
 .ret)))))
theorem lit207 : Lit Try.prog 207 12 [1, 2, 3] [.cell 2 195] c207 := ⟨⟨Try.f207, _, Try.func207, rfl, by kernel_rfl, rfl, rfl, by kernel_rfl, by kernel_rfl⟩, by decide, by kernel_rfl⟩
/-- laws.toIntSS -/
def c208 : LC :=
  (.seq (.rgn [] [LL 2 (.assign (.const (.slice none 0 0))) 82])
 (.seq (.rgn [3, 7] [LL 5 (.move (.tmp 0)) 82,
 LL 6 (.call { callee := (.builtin .len), args := #[(.tmp 5)], argTypes := #[82] }) 3,
 LL 7 (.makeSlice 82 (.tmp 6) (.tmp 6)) 82,
 LL 3 (.assign (.tmp 7)) 82])
 (.seq (.seq (.rgn [] [LL 4 (.assign (.const (.int .i64 0))) 3])
 (.blk 0
 (.loop []
 (.seq (.seq (.rgn [] [LL 8 (.move (.tmp 4)) 3,
 LL 9 (.move (.tmp 0)) 82,
 LL 10 (.call { callee := (.builtin .len), args := #[(.tmp 9)], argTypes := #[82] }) 3,
 LL 11 (.binOp .lss 3 (.tmp 8) (.tmp 10) 3) 4])
 (.cond (.tmp 11)
 .skip
 (.exit 0)))
 (.seq (.blk 1
 (.rgn [] [LL 14 (.move (.tmp 3)) 82,
 LL 15 (.move (.tmp 4)) 3,
 LL 16 (.move (.tmp 0)) 82,
 LL 17 (.move (.tmp 4)) 3,
 LL 18 (.indexAddr 82 (.tmp 16) (.tmp 17)) 0,
 LL 19 (.load 25 (.tmp 18)) 25,
 LL 20 (.call { callee := (.value (.func 58)), args := #[(.tmp 19)], argTypes := #[25] }) 25,
 LL 21 (.indexAddr 82 (.tmp 14) (.tmp 15)) 0,
 ⟨none, (.store 25 (.tmp 21) (.tmp 20)), 0, none⟩]))
 (.rgn [] [LL 12 (.move (.tmp 4)) 3,
 LL 13 (.binOp .add 3 (.tmp 12) (.const (.int .i64 1)) 3) 3,
 LL 4 (.assign (.tmp 13)) 3]))))))
 (.seq (.rgn [22] [LL 22 (.move (.tmp 3)) 82,
 LL 2 (.assign (.tmp 22)) 82])
 .ret))))
theorem lit208 : Lit Try.prog 208 23 [3, 7] [.tmp 2] c208 := ⟨⟨Try.f208, _, Try.func208, rfl, by kernel_rfl, rfl, rfl, by kernel_rfl, by kernel_rfl⟩, by decide, by kernel_rfl⟩
/-- impl.IsValidQuery -/
def c209 : LC :=
  (.seq (.rgn [] [LL 1 (.box 92 (.tmp 0)) 0,
 LL 2 (.assign (.const (.bool false))) 4])
 (.seq (.rgn [] [LL 11 (.fieldAddr 92 (.tmp 1) 0) 0,
 LL 12 (.load 3 (.tmp 11)) 3,
 LL 3 (.assign (.tmp 12)) 3])
 (.seq (.seq (.rgn [] [LL 13 (.move (.tmp 3)) 3,
 LL 14 (.call { callee := (.value (.func 90)), args := #[(.tmp 13), (.const (.int .i64 1)), (.const (.int .i64 5))], argTypes := #[3, 3, 3] }) 4,
 LL 15 (.unOp .not 4 (.tmp 14)) 4,
 LL 16 (.move (.tmp 15)) 4,
 ⟨some 17, (.fieldAddr 92 (.tmp 1) 1), 0, some (some 16, false)⟩,
 ⟨some 18, (.load 90 (.tmp 17)), 90, some (some 16, false)⟩,
 ⟨some 19, (.call { callee := (.builtin .len), args := #[(.tmp 18)], argTypes := #[90] }), 3, some (some 16, false)⟩,
 ⟨some 20, (.call { callee := (.value (.func 90)), args := #[(.tmp 19), (.const (.int .i64 1)), (.const (.int .i64 4))], argTypes := #[3, 3, 3] }), 4, some (some 16, false)⟩,
 ⟨some 21, (.unOp .not 4 (.tmp 20)), 4, some (some 16, false)⟩,
 LL 22 (.pick (.tmp 16) (.const (.bool true)) (.tmp 21)) 4,
 LL 23 (.move (.tmp 22)) 4,
 ⟨some 24, (.fieldAddr 92 (.tmp 1) 2), 0, some (some 23, false)⟩,
 ⟨some 25, (.load 25 (.tmp 24)), 25, some (some 23, false)⟩,
 ⟨some 26, (.move (.tmp 3)), 3, some (some 23, false)⟩,
 ⟨some 27, (.call { callee := (.value (.func 213)), args := #[(.tmp 25), (.tmp 26)], argTypes := #[25, 3] }), 4, some (some 23, false)⟩,
 ⟨some 28, (.unOp .not 4 (.tmp 27)), 4, some (some 23, false)⟩,
 LL 29 (.pick (.tmp 23) (.const (.bool true)) (.tmp 28)) 4])
 (.cond (.tmp 29)
 (.seq (.rgn [] [LL 2 (.assign (.const (.bool false))) 4])
 .ret)
 .skip))
 (.seq (.rgn [4, 31] [LL 30 (.move (.tmp 3)) 3,
 LL 31 (.makeSlice 256 (.tmp 30) (.tmp 30)) 256,
 LL 4 (.assign (.tmp 31)) 256])
 (.seq (.seq (.rgn [] [LL 32 (.fieldAddr 92 (.tmp 1) 1) 0,
 LL 33 (.load 90 (.tmp 32)) 90,
 LL 34 (.call { callee := (.builtin .len), args := #[(.tmp 33)], argTypes := #[90] }) 3,
 LL 35 (.move (.const (.int .i64 0))) 3])
 (.blk 0
 (.loop [6]
 (.seq (.rgn [] [LL 36 (.binOp .lss 3 (.tmp 35) (.tmp 34) 3) 0])
 (.seq (.cond (.tmp 36)
 .skip
 (.exit 0))
 (.seq (.blk 1
 (.seq (.rgn [38] [LL 37 (.indexAddr 90 (.tmp 33) (.tmp 35)) 0,
 LL 38 (.load 195 (.tmp 37)) 195,
 LL 6 (.alloc 195) 0,
 ⟨none, (.store 195 (.tmp 6) (.tmp 38)), 0, none⟩])
 (.seq (.seq (.rgn [] [LL 39 (.fieldAddr 195 (.tmp 6) 0) 0,
 LL 40 (.load 9 (.tmp 39)) 9,
 LL 41 (.call { callee := (.value (.func 218)), args := #[(.tmp 40)], argTypes := #[9] }) 4,
 LL 42 (.unOp .not 4 (.tmp 41)) 4,
 LL 43 (.move (.tmp 42)) 4,
 ⟨some 44, (.fieldAddr 195 (.tmp 6) 1), 0, some (some 43, false)⟩,
 ⟨some 45, (.load 25 (.tmp 44)), 25, some (some 43, false)⟩,
 ⟨some 46, (.call { callee := (.builtin .len), args := #[(.tmp 45)], argTypes := #[25] }), 3, some (some 43, false)⟩,
 ⟨some 47, (.call { callee := (.value (.func 90)), args := #[(.tmp 46), (.const (.int .i64 1)), (.const (.int .i64 5))], argTypes := #[3, 3, 3] }), 4, some (some 43, false)⟩,
 ⟨some 48, (.unOp .not 4 (.tmp 47)), 4, some (some 43, false)⟩,
 LL 49 (.pick (.tmp 43) (.const (.bool true)) (.tmp 48)) 4])
 (.cond (.tmp 49)
 (.seq (.rgn [] [LL 2 (.assign (.const (.bool false))) 4])
 .ret)
 .skip))
 (.seq (.rgn [] [LL 50 (.fieldAddr 195 (.tmp 6) 1) 0,
 LL 51 (.load 25 (.tmp 50)) 25,
 LL 52 (.call { callee := (.builtin .len), args := #[(.tmp 51)], argTypes := #[25] }) 3,
 LL 53 (.move (.const (.int .i64 0))) 3])
 (.blk 2
 (.loop []
 (.seq (.rgn [] [LL 54 (.binOp .lss 3 (.tmp 53) (.tmp 52) 3) 0])
 (.seq (.cond (.tmp 54)
 .skip
 (.exit 2))
 (.seq (.blk 3
 (.seq (.rgn [] [LL 55 (.indexAddr 25 (.tmp 51) (.tmp 53)) 0,
 LL 56 (.load 3 (.tmp 55)) 3,
 LL 8 (.assign (.tmp 56)) 3])
 (.seq (.seq (.rgn [] [LL 57 (.move (.tmp 8)) 3,
 LL 58 (.move (.tmp 3)) 3,
 LL 59 (.binOp .sub 3 (.tmp 58) (.const (.int .i64 1)) 3) 3,
 LL 60 (.call { callee := (.value (.func 90)), args := #[(.tmp 57), (.const (.int .i64 0)), (.tmp 59)], argTypes := #[3, 3, 3] }) 4,
 LL 61 (.unOp .not 4 (.tmp 60)) 4])
 (.cond (.tmp 61)
 (.seq (.rgn [] [LL 2 (.assign (.const (.bool false))) 4])
 .ret)
 .skip))
 (.rgn [] [LL 62 (.move (.tmp 4)) 256,
 LL 63 (.move (.tmp 8)) 3,
 LL 64 (.indexAddr 256 (.tmp 62) (.tmp 63)) 0,
 ⟨none, (.store 4 (.tmp 64) (.const (.bool true))), 0, none⟩]))))
 (.rgn [] [LL 65 (.binOp .add 3 (.tmp 53) (.const (.int .i64 1)) 3) 3,
 LL 53 (.move (.tmp 65)) 3]))))))))))
 (.rgn [] [LL 66 (.binOp .add 3 (.tmp 35) (.const (.int .i64 1)) 3) 3,
 LL 35 (.move (.tmp 66)) 3])))))))
 (.seq (.seq (.rgn [] [LL 67 (.move (.tmp 4)) 256,
 LL 68 (.call { callee := (.builtin .len), args := #[(.tmp 67)], argTypes := #[256] }) 3,
 LL 69 (.move (.const (.int .i64 0))) 3])
 (.blk 4
 (.loop []
 (.seq (.rgn [] [LL 70 (.binOp .lss 3 (.tmp 69) (.tmp 68) 3) 0])
 (.seq (.cond (.tmp 70)
 .skip
 (.exit 4))
 (.seq (.blk 5
 (.seq (.rgn [] [LL 71 (.indexAddr 256 (.tmp 67) (.tmp 69)) 0,
 LL 72 (.load 4 (.tmp 71)) 4,
 LL 10 (.assign (.tmp 72)) 4])
 (.seq (.rgn [] [LL 73 (.move (.tmp 10)) 4,
 LL 74 (.unOp .not 4 (.tmp 73)) 4])
 (.cond (.tmp 74)
 (.seq (.rgn [] [LL 2 (.assign (.const (.bool false))) 4])
 .ret)
 .skip))))
 (.rgn [] [LL 75 (.binOp .add 3 (.tmp 69) (.const (.int .i64 1)) 3) 3,
 LL 69 (.move (.tmp 75)) 3])))))))
 (.seq (.rgn [] [LL 2 (.assign (.const (.bool true))) 4])
 .ret)))))))
theorem lit209 : Lit Try.prog 209 76 [1, 4, 6, 31] [.tmp 2] c209 := ⟨⟨Try.f209, _, Try.func209, rfl, by kernel_rfl, rfl, rfl, by kernel_rfl, by kernel_rfl⟩, by decide, by kernel_rfl⟩
/-- impl.isSetOf -/
def c213 : LC :=
  (.seq (.rgn [] [LL 4 (.assign (.const (.bool false))) 4])
 (.seq (.seq (.rgn [] [LL 7 (.move (.tmp 0)) 25,
 LL 8 (.call { callee := (.builtin .len), args := #[(.tmp 7)], argTypes := #[25] }) 3,
 LL 9 (.move (.const (.int .i64 0))) 3])
 (.blk 0
 (.loop []
 (.seq (.rgn [] [LL 10 (.binOp .lss 3 (.tmp 9) (.tmp 8) 3) 0])
 (.seq (.cond (.tmp 10)
 .skip
 (.exit 0))
 (.seq (.blk 1
 (.seq (.rgn [] [LL 11 (.move (.tmp 9)) 3,
 LL 12 (.indexAddr 25 (.tmp 7) (.tmp 9)) 0,
 LL 13 (.load 3 (.tmp 12)) 3,
 LL 5 (.assign (.tmp 11)) 3,
 LL 6 (.assign (.tmp 13)) 3])
 (.seq (.rgn [] [LL 14 (.move (.tmp 6)) 3,
 LL 15 (.move (.tmp 1)) 3,
 LL 16 (.binOp .sub 3 (.tmp 15) (.const (.int .i64 1)) 3) 3,
 LL 17 (.call { callee := (.value (.func 90)), args := #[(.tmp 14), (.const (.int .i64 0)), (.tmp 16)], argTypes := #[3, 3, 3] }) 4,
 LL 18 (.unOp .not 4 (.tmp 17)) 4,
 LL 19 (.move (.tmp 18)) 4,
 ⟨some 20, (.move (.tmp 0)), 25, some (some 19, false)⟩,
 ⟨some 21, (.move (.tmp 5)), 3, some (some 19, false)⟩,
 ⟨some 22, (.slice 25 (.tmp 20) none (some (.tmp 21)) none), 25, some (some 19, false)⟩,
 ⟨some 23, (.move (.tmp 6)), 3, some (some 19, false)⟩,
 ⟨some 24, (.call { callee := (.value (.func 230)), args := #[(.tmp 22), (.tmp 23)], argTypes := #[25, 3] }), 4, some (some 19, false)⟩,
 LL 25 (.pick (.tmp 19) (.const (.bool true)) (.tmp 24)) 4])
 (.cond (.tmp 25)
 (.seq (.rgn [] [LL 4 (.assign (.const (.bool false))) 4])
 .ret)
 .skip))))
 (.rgn [] [LL 26 (.binOp .add 3 (.tmp 9) (.const (.int .i64 1)) 3) 3,
 LL 9 (.move (.tmp 26)) 3])))))))
 (.seq (.rgn [] [LL 4 (.assign (.const (.bool true))) 4])
 .ret)))
theorem lit213 : Lit Try.prog 213 27 [] [.tmp 4] c213 := ⟨⟨Try.f213, _, Try.func213, rfl, by kernel_rfl, rfl, rfl, by kernel_rfl, by kernel_rfl⟩, by decide, by kernel_rfl⟩
/-- laws.eqAtom -/
def c214 : LC :=
  (.seq (.rgn [] [LL 2 (.box 195 (.tmp 0)) 0,
 LL 3 (.box 195 (.tmp 1)) 0,
 LL 4 (.assign (.const (.bool false))) 4])
 (.seq (.seq (.rgn [] [LL 5 (.fieldAddr 195 (.tmp 2) 0) 0,
 LL 6 (.load 9 (.tmp 5)) 9,
 LL 7 (.fieldAddr 195 (.tmp 3) 0) 0,
 LL 8 (.load 9 (.tmp 7)) 9,
 LL 9 (.binOp .neq 9 (.tmp 6) (.tmp 8) 9) 4])
 (.cond (.tmp 9)
 (.seq (.rgn [] [LL 4 (.assign (.const (.bool false))) 4])
 .ret)
 .skip))
 (.seq (.seq (.rgn [] [LL 10 (.fieldAddr 195 (.tmp 2) 1) 0,
 LL 11 (.load 25 (.tmp 10)) 25,
 LL 12 (.fieldAddr 195 (.tmp 3) 1) 0,
 LL 13 (.load 25 (.tmp 12)) 25,
 LL 14 (.call { callee := (.value (.func 19)), args := #[(.tmp 11), (.tmp 13)], argTypes := #[25, 25] }) 4,
 LL 15 (.unOp .not 4 (.tmp 14)) 4])
 (.cond (.tmp 15)
 (.seq (.rgn [] [LL 4 (.assign (.const (.bool false))) 4])
 .ret)
 .skip))
 (.seq (.rgn [] [LL 4 (.assign (.const (.bool true))) 4])
 .ret))))
theorem lit214 : Lit Try.prog 214 16 [2, 3] [.tmp 4] c214 := ⟨⟨Try.f214, _, Try.func214, rfl, by kernel_rfl, rfl, rfl, by kernel_rfl, by kernel_rfl⟩, by decide, by kernel_rfl⟩
/-- laws.eqIntSS -/
def c215 : LC :=
  (.seq (.rgn [] [LL 4 (.assign (.const (.bool false))) 4])
 (.seq (.seq (.rgn [] [LL 6 (.move (.tmp 0)) 82,
 LL 7 (.call { callee := (.builtin .len), args := #[(.tmp 6)], argTypes := #[82] }) 3,
 LL 8 (.move (.tmp 1)) 82,
 LL 9 (.call { callee := (.builtin .len), args := #[(.tmp 8)], argTypes := #[82] }) 3,
 LL 10 (.binOp .neq 3 (.tmp 7) (.tmp 9) 3) 4])
 (.cond (.tmp 10)
 (.seq (.rgn [] [LL 4 (.assign (.const (.bool false))) 4])
 .ret)
 .skip))
 (.seq (.seq (.rgn [] [LL 5 (.assign (.const (.int .i64 0))) 3])
 (.blk 0
 (.loop []
 (.seq (.seq (.rgn [] [LL 11 (.move (.tmp 5)) 3,
 LL 12 (.move (.tmp 0)) 82,
 LL 13 (.call { callee := (.builtin .len), args := #[(.tmp 12)], argTypes := #[82] }) 3,
 LL 14 (.binOp .lss 3 (.tmp 11) (.tmp 13) 3) 4])
 (.cond (.tmp 14)
 .skip
 (.exit 0)))
 (.seq (.blk 1
 (.seq (.drw [] [([0], [17]), ([5], [18]), ([17, 18], [19]), ([19], [20]), ([1], [21]), ([5], [22]), ([21, 22], [23]), ([23], [24]), ([20, 24], [25]), ([25], [26])] [[], [], [0, 1], [2], [], [], [4, 5], [6], [3, 7], [8]] [LL 17 (.move (.tmp 0)) 82,
 LL 18 (.move (.tmp 5)) 3,
 LL 19 (.indexAddr 82 (.tmp 17) (.tmp 18)) 0,
 LL 20 (.load 25 (.tmp 19)) 25,
 LL 21 (.move (.tmp 1)) 82,
 LL 22 (.move (.tmp 5)) 3,
 LL 23 (.indexAddr 82 (.tmp 21) (.tmp 22)) 0,
 LL 24 (.load 25 (.tmp 23)) 25,
 LL 25 (.call { callee := (.value (.func 19)), args := #[(.tmp 20), (.tmp 24)], argTypes := #[25, 25] }) 4,
 LL 26 (.unOp .not 4 (.tmp 25)) 4])
 (.cond (.tmp 26)
 (.seq (.rgn [] [LL 4 (.assign (.const (.bool false))) 4])
 .ret)
 .skip)))
 (.rgn [] [LL 15 (.move (.tmp 5)) 3,
 LL 16 (.binOp .add 3 (.tmp 15) (.const (.int .i64 1)) 3) 3,
 LL 5 (.assign (.tmp 16)) 3]))))))
 (.seq (.rgn [] [LL 4 (.assign (.const (.bool true))) 4])
 .ret))))
theorem lit215 : Lit Try.prog 215 27 [] [.tmp 4] c215 := ⟨⟨Try.f215, _, Try.func215, rfl, by kernel_rfl, rfl, rfl, by kernel_rfl, by kernel_rfl⟩, by decide, by kernel_rfl⟩
/-- spec.IsValidName -/
def c216 : LC :=
  (.seq (.rgn [] [LL 2 (.assign (.const (.bool false))) 4])
 (.seq (.seq (.rgn [] [LL 3 (.assign (.const (.int .i64 0))) 3])
 (.blk 0
 (.loop []
 (.seq (.seq (.rgn [] [LL 4 (.move (.tmp 3)) 3,
 LL 5 (.move (.tmp 0)) 9,
 LL 6 (.call { callee := (.builtin .len), args := #[(.tmp 5)], argTypes := #[9] }) 3,
 LL 7 (.binOp .lss 3 (.tmp 4) (.tmp 6) 3) 4])
 (.cond (.tmp 7)
 .skip
 (.exit 0)))
 (.seq (.blk 1
 (.seq (.rgn [] [LL 10 (.move (.tmp 0)) 9,
 LL 11 (.move (.tmp 3)) 3,
 LL 12 (.index 9 (.tmp 10) (.tmp 11)) 5,
 LL 13 (.binOp .lss 5 (.tmp 12) (.const (.int .u8 97)) 5) 4,
 LL 14 (.move (.tmp 13)) 4,
 ⟨some 15, (.move (.tmp 0)), 9, some (some 14, false)⟩,
 ⟨some 16, (.move (.tmp 3)), 3, some (some 14, false)⟩,
 ⟨some 17, (.index 9 (.tmp 15) (.tmp 16)), 5, some (some 14, false)⟩,
 ⟨some 18, (.binOp .gtr 5 (.tmp 17) (.const (.int .u8 122)) 5), 4, some (some 14, false)⟩,
 LL 19 (.pick (.tmp 14) (.const (.bool true)) (.tmp 18)) 4])
 (.cond (.tmp 19)
 (.seq (.rgn [] [LL 2 (.assign (.const (.bool false))) 4])
 .ret)
 .skip)))
 (.rgn [] [LL 8 (.move (.tmp 3)) 3,
 LL 9 (.binOp .add 3 (.tmp 8) (.const (.int .i64 1)) 3) 3,
 LL 3 (.assign (.tmp 9)) 3]))))))
 (.seq (.rgn [] [LL 20 (.move (.tmp 0)) 9,
 LL 21 (.call { callee := (.builtin .len), args := #[(.tmp 20)], argTypes := #[9] }) 3,
 LL 22 (.call { callee := (.value (.func 86)), args := #[(.tmp 21), (.const (.int .i64 1)), (.const (.int .i64 4))], argTypes := #[3, 3, 3] }) 4,
 LL 2 (.assign (.tmp 22)) 4])
 .ret)))
theorem lit216 : Lit Try.prog 216 23 [] [.tmp 2] c216 := ⟨⟨Try.f216, _, Try.func216, rfl, by kernel_rfl, rfl, rfl, by kernel_rfl, by kernel_rfl⟩, by decide, by kernel_rfl⟩
/-- spec.IsValidRelation -/
def c217 : LC :=
  (.seq (.rgn [] [LL 1 (.box 128 (.tmp 0)) 0,
 LL 2 (.assign (.const (.bool false))) 4])
 (.seq (.seq (.rgn [] [LL 4 (.fieldAddr 128 (.tmp 1) 0) 0,
 LL 5 (.load 3 (.tmp 4)) 3,
 LL 6 (.call { callee := (.value (.func 86)), args := #[(.tmp 5), (.const (.int .i64 0)), (.const (.int .i64 5))], argTypes := #[3, 3, 3] }) 4,
 LL 7 (.unOp .not 4 (.tmp 6)) 4,
 LL 8 (.move (.tmp 7)) 4,
 ⟨some 9, (.fieldAddr 128 (.tmp 1) 1), 0, some (some 8, false)⟩,
 ⟨some 10, (.load 82 (.tmp 9)), 82, some (some 8, false)⟩,
 ⟨some 11, (.call { callee := (.builtin .len), args := #[(.tmp 10)], argTypes := #[82] }), 3, some (some 8, false)⟩,
 ⟨some 12, (.binOp .gtr 3 (.tmp 11) (.const (.int .i64 4000)) 3), 4, some (some 8, false)⟩,
 LL 13 (.pick (.tmp 8) (.const (.bool true)) (.tmp 12)) 4])
 (.cond (.tmp 13)
 (.seq (.rgn [] [LL 2 (.assign (.const (.bool false))) 4])
 .ret)
 .skip))
 (.seq (.seq (.rgn [] [LL 3 (.assign (.const (.int .i64 0))) 3])
 (.blk 0
 (.loop []
 (.seq (.seq (.rgn [] [LL 14 (.move (.tmp 3)) 3,
 LL 15 (.fieldAddr 128 (.tmp 1) 1) 0,
 LL 16 (.load 82 (.tmp 15)) 82,
 LL 17 (.call { callee := (.builtin .len), args := #[(.tmp 16)], argTypes := #[82] }) 3,
 LL 18 (.binOp .lss 3 (.tmp 14) (.tmp 17) 3) 4])
 (.cond (.tmp 18)
 .skip
 (.exit 0)))
 (.seq (.blk 1
 (.seq (.drw [] [([1], [21]), ([1, 21], [22]), ([3], [23]), ([22, 23], [24]), ([24], [25]), ([25], [26]), ([1], [27]), ([1, 27], [28]), ([26, 28], [29]), ([29], [30]), ([1, 30], [31]), ([1, 30, 31], [32]), ([3, 30], [33]), ([30, 32, 33], [34]), ([30, 34], [35]), ([30, 35], [36]), ([30, 36], [37]), ([30, 37], [38]), ([38], [39]), ([3, 39], [40]), ([39, 40], [41]), ([39, 41], [42]), ([1, 42], [43]), ([1, 42, 43], [44]), ([3, 42], [45]), ([42, 45], [46]), ([42, 44, 46], [47]), ([42, 47], [48]), ([1, 42], [49]), ([1, 42, 49], [50]), ([3, 42], [51]), ([42, 50, 51], [52]), ([42, 52], [53]), ([42, 48, 53], [54]), ([42, 54], [55]), ([39, 42, 55], [56]), ([39, 56], [57])] [[], [0], [], [1, 2], [3], [4], [], [6], [5, 7], [8], [9], [10, 9], [9], [11, 12, 9], [13, 9], [14, 9, 9], [15, 9], [9, 16], [17, 15], [18], [19, 18], [20, 18, 18], [21], [22, 21], [21], [24, 21], [23, 25, 21], [26, 21], [21], [28, 21], [21], [29, 30, 21], [31, 21], [27, 32, 21, 21], [33, 21], [21, 34, 18], [18, 35]] [LL 21 (.fieldAddr 128 (.tmp 1) 1) 0,
 LL 22 (.load 82 (.tmp 21)) 82,
 LL 23 (.move (.tmp 3)) 3,
 LL 24 (.indexAddr 82 (.tmp 22) (.tmp 23)) 0,
 LL 25 (.load 25 (.tmp 24)) 25,
 LL 26 (.call { callee := (.builtin .len), args := #[(.tmp 25)], argTypes := #[25] }) 3,
 LL 27 (.fieldAddr 128 (.tmp 1) 0) 0,
 LL 28 (.load 3 (.tmp 27)) 3,
 LL 29 (.binOp .neq 3 (.tmp 26) (.tmp 28) 3) 4,
 LL 30 (.move (.tmp 29)) 4,
 ⟨some 31, (.fieldAddr 128 (.tmp 1) 1), 0, some (some 30, false)⟩,
 ⟨some 32, (.load 82 (.tmp 31)), 82, some (some 30, false)⟩,
 ⟨some 33, (.move (.tmp 3)), 3, some (some 30, false)⟩,
 ⟨some 34, (.indexAddr 82 (.tmp 32) (.tmp 33)), 0, some (some 30, false)⟩,
 ⟨some 35, (.load 25 (.tmp 34)), 25, some (some 30, false)⟩,
 ⟨some 36, (.call { callee := (.value (.func 242)), args := #[(.tmp 35)], argTypes := #[25] }), 4, some (some 30, false)⟩,
 ⟨some 37, (.unOp .not 4 (.tmp 36)), 4, some (some 30, false)⟩,
 LL 38 (.pick (.tmp 30) (.const (.bool true)) (.tmp 37)) 4,
 LL 39 (.move (.tmp 38)) 4,
 ⟨some 40, (.move (.tmp 3)), 3, some (some 39, false)⟩,
 ⟨some 41, (.binOp .gtr 3 (.tmp 40) (.const (.int .i64 0)) 3), 4, some (some 39, false)⟩,
 ⟨some 42, (.move (.tmp 41)), 4, some (some 39, false)⟩,
 ⟨some 43, (.fieldAddr 128 (.tmp 1) 1), 0, some (some 42, true)⟩,
 ⟨some 44, (.load 82 (.tmp 43)), 82, some (some 42, true)⟩,
 ⟨some 45, (.move (.tmp 3)), 3, some (some 42, true)⟩,
 ⟨some 46, (.binOp .sub 3 (.tmp 45) (.const (.int .i64 1)) 3), 3, some (some 42, true)⟩,
 ⟨some 47, (.indexAddr 82 (.tmp 44) (.tmp 46)), 0, some (some 42, true)⟩,
 ⟨some 48, (.load 25 (.tmp 47)), 25, some (some 42, true)⟩,
 ⟨some 49, (.fieldAddr 128 (.tmp 1) 1), 0, some (some 42, true)⟩,
 ⟨some 50, (.load 82 (.tmp 49)), 82, some (some 42, true)⟩,
 ⟨some 51, (.move (.tmp 3)), 3, some (some 42, true)⟩,
 ⟨some 52, (.indexAddr 82 (.tmp 50) (.tmp 51)), 0, some (some 42, true)⟩,
 ⟨some 53, (.load 25 (.tmp 52)), 25, some (some 42, true)⟩,
 ⟨some 54, (.call { callee := (.value (.func 75)), args := #[(.tmp 48), (.tmp 53)], argTypes := #[25, 25] }), 3, some (some 42, true)⟩,
 ⟨some 55, (.binOp .geq 3 (.tmp 54) (.const (.int .i64 0)) 3), 4, some (some 42, true)⟩,
 ⟨some 56, (.pick (.tmp 42) (.tmp 55) (.const (.bool false))), 4, some (some 39, false)⟩,
 LL 57 (.pick (.tmp 39) (.const (.bool true)) (.tmp 56)) 4])
 (.cond (.tmp 57)
 (.seq (.rgn [] [LL 2 (.assign (.const (.bool false))) 4])
 .ret)
 .skip)))
 (.rgn [] [LL 19 (.move (.tmp 3)) 3,
 LL 20 (.binOp .add 3 (.tmp 19) (.const (.int .i64 1)) 3) 3,
 LL 3 (.assign (.tmp 20)) 3]))))))
 (.seq (.rgn [] [LL 2 (.assign (.const (.bool true))) 4])
 .ret))))
theorem lit217 : Lit Try.prog 217 58 [1] [.tmp 2] c217 := ⟨⟨Try.f217, _, Try.func217, rfl, by kernel_rfl, rfl, rfl, by kernel_rfl, by kernel_rfl⟩, by decide, by kernel_rfl⟩
/-- impl.IsValidName -/
def c218 : LC :=
  (.seq (.rgn [] [LL 2 (.assign (.const (.bool false))) 4])
 (.seq (.rgn [] [LL 3 (.move (.tmp 0)) 9,
 LL 4 (.call { callee := (.value (.func 243)), args := #[(.tmp 3), (.const (.int .i64 4))], argTypes := #[9, 3] }) 4,
 LL 2 (.assign (.tmp 4)) 4])
 .ret))
theorem lit218 : Lit Try.prog 218 5 [] [.tmp 2] c218 := ⟨⟨Try.f218, _, Try.func218, rfl, by kernel_rfl, rfl, rfl, by kernel_rfl, by kernel_rfl⟩, by decide, by kernel_rfl⟩
/-- impl.IsValidRelation -/
def c219 : LC :=
  (.seq (.rgn [] [LL 1 (.box 128 (.tmp 0)) 0,
 LL 2 (.assign (.const (.bool false))) 4])
 (.seq (.rgn [] [LL 3 (.fieldAddr 128 (.tmp 1) 0) 0,
 LL 4 (.load 3 (.tmp 3)) 3,
 LL 5 (.fieldAddr 128 (.tmp 1) 1) 0,
 LL 6 (.load 82 (.tmp 5)) 82,
 LL 7 (.call { callee := (.value (.func 244)), args := #[(.tmp 4), (.tmp 6)], argTypes := #[3, 82] }) 4,
 LL 2 (.assign (.tmp 7)) 4])
 .ret))
theorem lit219 : Lit Try.prog 219 8 [1] [.tmp 2] c219 := ⟨⟨Try.f219, _, Try.func219, rfl, by kernel_rfl, rfl, rfl, by kernel_rfl, by kernel_rfl⟩, by decide, by kernel_rfl⟩
/-- spec.BuildTrie -/
def c222 : LC :=
  (.seq (.rgn [] [LL 2 (.box 128 (.tmp 0)) 0,
 LL 4 (.alloc 197) 0,
 LL 5 (.assign (.const (.bool false))) 4])
 (.seq (.seq (.rgn [] [LL 8 (.move (.tmp 1)) 25,
 LL 9 (.call { callee := (.value (.func 206)), args := #[(.tmp 8)], argTypes := #[25] }) 4,
 LL 10 (.unOp .not 4 (.tmp 9)) 4,
 LL 11 (.move (.tmp 10)) 4,
 ⟨some 12, (.move (.tmp 1)), 25, some (some 11, false)⟩,
 ⟨some 13, (.call { callee := (.builtin .len), args := #[(.tmp 12)], argTypes := #[25] }), 3, some (some 11, false)⟩,
 ⟨some 14, (.fieldAddr 128 (.tmp 2) 0), 0, some (some 11, false)⟩,
 ⟨some 15, (.load 3 (.tmp 14)), 3, some (some 11, false)⟩,
 ⟨some 16, (.binOp .neq 3 (.tmp 13) (.tmp 15) 3), 4, some (some 11, false)⟩,
 LL 17 (.pick (.tmp 11) (.const (.bool true)) (.tmp 16)) 4])
 (.cond (.tmp 17)
 (.seq (.rgn [] [LL 18 (.build 197 #[]) 197,
 ⟨none, (.store 197 (.tmp 4) (.tmp 18)), 0, none⟩,
 LL 5 (.assign (.const (.bool false))) 4])
 .ret)
 .skip))
 (.seq (.rgn [19] [LL 20 (.load 128 (.tmp 2)) 128,
 LL 21 (.move (.tmp 1)) 25,
 LL 22 (.call { callee := (.value (.func 245)), args := #[(.tmp 20), (.tmp 21)], argTypes := #[128, 25] }) 129,
 LL 19 (.move (.tmp 22)) 129,
 LL 23 (.extract (.tmp 19) 0) 128,
 LL 24 (.extract (.tmp 19) 1) 4,
 LL 6 (.alloc 128) 0,
 ⟨none, (.store 128 (.tmp 6) (.tmp 23)), 0, none⟩,
 LL 7 (.assign (.tmp 24)) 4])
 (.seq (.seq (.rgn [] [LL 25 (.move (.tmp 7)) 4,
 LL 26 (.unOp .not 4 (.tmp 25)) 4])
 (.cond (.tmp 26)
 (.seq (.rgn [] [LL 27 (.build 197 #[]) 197,
 ⟨none, (.store 197 (.tmp 4) (.tmp 27)), 0, none⟩,
 LL 5 (.assign (.const (.bool false))) 4])
 .ret)
 .skip))
 (.seq (.rgn [31] [LL 28 (.fieldAddr 128 (.tmp 6) 0) 0,
 LL 29 (.load 3 (.tmp 28)) 3,
 LL 30 (.fieldAddr 128 (.tmp 6) 1) 0,
 LL 31 (.load 82 (.tmp 30)) 82,
 LL 32 (.build 197 #[(0, (.tmp 29)), (1, (.tmp 31))]) 197,
 ⟨none, (.store 197 (.tmp 4) (.tmp 32)), 0, none⟩,
 LL 5 (.assign (.const (.bool true))) 4])
 .ret)))))
theorem lit222 : Lit Try.prog 222 33 [2, 4, 6] [.cell 4 197, .tmp 5] c222 := ⟨⟨Try.f222, _, Try.func222, rfl, by kernel_rfl, rfl, rfl, by kernel_rfl, by kernel_rfl⟩, by decide, by kernel_rfl⟩
/-- spec.AtomBindings -/
def c223 : LC :=
  (.seq (.rgn [] [LL 2 (.box 33 (.tmp 0)) 0,
 LL 3 (.box 195 (.tmp 1)) 0,
 LL 4 (.alloc 128) 0])
 (.seq (.rgn [] [LL 18 (.load 195 (.tmp 3)) 195,
 LL 19 (.call { callee := (.value (.func 246)), args := #[(.tmp 18)], argTypes := #[195] }) 25,
 LL 5 (.assign (.tmp 19)) 25])
 (.seq (.rgn [20] [LL 21 (.load 33 (.tmp 2)) 33,
 LL 22 (.fieldAddr 195 (.tmp 3) 0) 0,
 LL 23 (.load 9 (.tmp 22)) 9,
 LL 24 (.call { callee := (.value (.func 73)), args := #[(.tmp 21), (.tmp 23)], argTypes := #[33, 9] }) 129,
 LL 20 (.move (.tmp 24)) 129,
 LL 25 (.extract (.tmp 20) 0) 128,
 LL 26 (.extract (.tmp 20) 1) 4,
 LL 6 (.alloc 128) 0,
 ⟨none, (.store 128 (.tmp 6) (.tmp 25)), 0, none⟩,
 LL 7 (.assign (.tmp 26)) 4])
 (.seq (.rgn [] [LL 27 (.move (.tmp 5)) 25,
 LL 28 (.call { callee := (.builtin .len), args := #[(.tmp 27)], argTypes := #[25] }) 3,
 LL 29 (.build 128 #[(0, (.tmp 28))]) 128,
 LL 8 (.alloc 128) 0,
 ⟨none, (.store 128 (.tmp 8) (.tmp 29)), 0, none⟩])
 (.seq (.seq (.rgn [] [LL 30 (.move (.tmp 7)) 4,
 LL 31 (.unOp .not 4 (.tmp 30)) 4,
 LL 32 (.move (.tmp 31)) 4,
 ⟨some 33, (.fieldAddr 128 (.tmp 6) 0), 0, some (some 32, false)⟩,
 ⟨some 34, (.load 3 (.tmp 33)), 3, some (some 32, false)⟩,
 ⟨some 35, (.fieldAddr 195 (.tmp 3) 1), 0, some (some 32, false)⟩,
 ⟨some 36, (.load 25 (.tmp 35)), 25, some (some 32, false)⟩,
 ⟨some 37, (.call { callee := (.builtin .len), args := #[(.tmp 36)], argTypes := #[25] }), 3, some (some 32, false)⟩,
 ⟨some 38, (.binOp .neq 3 (.tmp 34) (.tmp 37) 3), 4, some (some 32, false)⟩,
 LL 39 (.pick (.tmp 32) (.const (.bool true)) (.tmp 38)) 4])
 (.cond (.tmp 39)
 (.seq (.rgn [40] [LL 40 (.load 128 (.tmp 8)) 128,
 ⟨none, (.store 128 (.tmp 4) (.tmp 40)), 0, none⟩])
 .ret)
 .skip))
 (.seq (.rgn [] [LL 41 (.buildSlice 82 0 #[]) 82,
 LL 9 (.assign (.tmp 41)) 82])
 (.seq (.seq (.rgn [] [LL 10 (.assign (.const (.int .i64 0))) 3])
 (.blk 0
 (.loop []
 (.seq (.seq (.rgn [] [LL 42 (.move (.tmp 10)) 3,
 LL 43 (.fieldAddr 128 (.tmp 6) 1) 0,
 LL 44 (.load 82 (.tmp 43)) 82,
 LL 45 (.call { callee := (.builtin .len), args := #[(.tmp 44)], argTypes := #[82] }) 3,
 LL 46 (.binOp .lss 3 (.tmp 42) (.tmp 45) 3) 4])
 (.cond (.tmp 46)
 .skip
 (.exit 0)))
 (.seq (.blk 1
 (.seq (.rgn [] [LL 49 (.buildSlice 25 0 #[]) 25,
 LL 11 (.assign (.tmp 49)) 25])
 (.seq (.seq (.rgn [] [LL 12 (.assign (.const (.int .i64 0))) 3])
 (.blk 2
 (.loop []
 (.seq (.seq (.rgn [] [LL 50 (.move (.tmp 12)) 3,
 LL 51 (.move (.tmp 5)) 25,
 LL 52 (.call { callee := (.builtin .len), args := #[(.tmp 51)], argTypes := #[25] }) 3,
 LL 53 (.binOp .lss 3 (.tmp 50) (.tmp 52) 3) 4])
 (.cond (.tmp 53)
 .skip
 (.exit 2)))
 (.seq (.blk 3
 (.drw [56] [([11], [11, 56]), ([6], [57]), ([6, 57], [58]), ([10], [59]), ([58, 59], [60]), ([60], [61]), ([3], [62]), ([3, 62], [63]), ([5], [64]), ([12], [65]), ([64, 65], [66]), ([66], [67]), ([63, 67], [68]), ([61, 68], [69]), ([69], [70]), ([70], [70, 71]), ([56, 71], [56, 71, 72]), ([72], [11, 72])] [[], [], [1], [], [2, 3], [4], [], [6], [], [], [8, 9], [10], [7, 11], [5, 12], [13], [14], [0, 15, 12], [16, 16, 0, 1, 2, 3, 4, 5, 6, 7, 8, 9, 10, 11, 12, 13, 14, 15, 16]] [LL 56 (.move (.tmp 11)) 25,
 LL 57 (.fieldAddr 128 (.tmp 6) 1) 0,
 LL 58 (.load 82 (.tmp 57)) 82,
 LL 59 (.move (.tmp 10)) 3,
 LL 60 (.indexAddr 82 (.tmp 58) (.tmp 59)) 0,
 LL 61 (.load 25 (.tmp 60)) 25,
 LL 62 (.fieldAddr 195 (.tmp 3) 1) 0,
 LL 63 (.load 25 (.tmp 62)) 25,
 LL 64 (.move (.tmp 5)) 25,
 LL 65 (.move (.tmp 12)) 3,
 LL 66 (.indexAddr 25 (.tmp 64) (.tmp 65)) 0,
 LL 67 (.load 3 (.tmp 66)) 3,
 LL 68 (.call { callee := (.value (.func 205)), args := #[(.tmp 63), (.tmp 67)], argTypes := #[25, 3] }) 3,
 LL 69 (.indexAddr 25 (.tmp 61) (.tmp 68)) 0,
 LL 70 (.load 3 (.tmp 69)) 3,
 LL 71 (.buildSlice 25 1 #[(0, (.tmp 70))]) 25,
 LL 72 (.call { callee := (.builtin .append), args := #[(.tmp 56), (.tmp 71)], argTypes := #[25, 25] }) 25,
 LL 11 (.assign (.tmp 72)) 25]))
 (.rgn [] [LL 54 (.move (.tmp 12)) 3,
 LL 55 (.binOp .add 3 (.tmp 54) (.const (.int .i64 1)) 3) 3,
 LL 12 (.assign (.tmp 55)) 3]))))))
 (.seq (.rgn [] [LL 13 (.assign (.const (.bool true))) 4])
 (.seq (.seq (.rgn [] [LL 14 (.assign (.const (.int .i64 0))) 3])
 (.blk 4
 (.loop []
 (.seq (.seq (.rgn [] [LL 73 (.move (.tmp 14)) 3,
 LL 74 (.fieldAddr 195 (.tmp 3) 1) 0,
 LL 75 (.load 25 (.tmp 74)) 25,
 LL 76 (.call { callee := (.builtin .len), args := #[(.tmp 75)], argTypes := #[25] }) 3,
 LL 77 (.binOp .lss 3 (.tmp 73) (.tmp 76) 3) 4])
 (.cond (.tmp 77)
 .skip
 (.exit 4)))
 (.seq (.blk 5
 (.seq (.rgn [] [LL 80 (.move (.tmp 5)) 25,
 LL 81 (.fieldAddr 195 (.tmp 3) 1) 0,
 LL 82 (.load 25 (.tmp 81)) 25,
 LL 83 (.move (.tmp 14)) 3,
 LL 84 (.indexAddr 25 (.tmp 82) (.tmp 83)) 0,
 LL 85 (.load 3 (.tmp 84)) 3,
 LL 86 (.call { callee := (.value (.func 205)), args := #[(.tmp 80), (.tmp 85)], argTypes := #[25, 3] }) 3,
 LL 15 (.assign (.tmp 86)) 3])
 (.drw [] [([13], [87]), ([87], [88]), ([15, 88], [89]), ([88, 89], [90]), ([88, 90], [91]), ([91], [92]), ([11, 92], [93]), ([15, 92], [94]), ([92, 93, 94], [95]), ([92, 95], [96]), ([6, 92], [97]), ([6, 92, 97], [98]), ([10, 92], [99]), ([92, 98, 99], [100]), ([92, 100], [101]), ([14, 92], [102]), ([92, 101, 102], [103]), ([92, 103], [104]), ([92, 96, 104], [105]), ([92, 105], [106]), ([106], [13, 106])] [[], [0], [1], [2, 1], [1, 3], [4, 1], [5], [5], [6, 7, 5], [8, 5], [5], [10, 5], [5], [11, 12, 5], [13, 5], [5], [14, 15, 5], [16, 5], [9, 17, 5], [5, 18], [19, 5, 0, 1, 2, 3, 4, 5, 6, 7, 8, 9, 10, 11, 12, 13, 14, 15, 16, 17, 18, 19]] [LL 87 (.move (.tmp 13)) 4,
 LL 88 (.move (.tmp 87)) 4,
 ⟨some 89, (.move (.tmp 15)), 3, some (some 88, true)⟩,
 ⟨some 90, (.binOp .geq 3 (.tmp 89) (.const (.int .i64 0)) 3), 4, some (some 88, true)⟩,
 LL 91 (.pick (.tmp 88) (.tmp 90) (.const (.bool false))) 4,
 LL 92 (.move (.tmp 91)) 4,
 ⟨some 93, (.move (.tmp 11)), 25, some (some 92, true)⟩,
 ⟨some 94, (.move (.tmp 15)), 3, some (some 92, true)⟩,
 ⟨some 95, (.indexAddr 25 (.tmp 93) (.tmp 94)), 0, some (some 92, true)⟩,
 ⟨some 96, (.load 3 (.tmp 95)), 3, some (some 92, true)⟩,
 ⟨some 97, (.fieldAddr 128 (.tmp 6) 1), 0, some (some 92, true)⟩,
 ⟨some 98, (.load 82 (.tmp 97)), 82, some (some 92, true)⟩,
 ⟨some 99, (.move (.tmp 10)), 3, some (some 92, true)⟩,
 ⟨some 100, (.indexAddr 82 (.tmp 98) (.tmp 99)), 0, some (some 92, true)⟩,
 ⟨some 101, (.load 25 (.tmp 100)), 25, some (some 92, true)⟩,
 ⟨some 102, (.move (.tmp 14)), 3, some (some 92, true)⟩,
 ⟨some 103, (.indexAddr 25 (.tmp 101) (.tmp 102)), 0, some (some 92, true)⟩,
 ⟨some 104, (.load 3 (.tmp 103)), 3, some (some 92, true)⟩,
 ⟨some 105, (.binOp .eql 3 (.tmp 96) (.tmp 104) 3), 4, some (some 92, true)⟩,
 LL 106 (.pick (.tmp 92) (.tmp 105) (.const (.bool false))) 4,
 LL 13 (.assign (.tmp 106)) 4])))
 (.rgn [] [LL 78 (.move (.tmp 14)) 3,
 LL 79 (.binOp .add 3 (.tmp 78) (.const (.int .i64 1)) 3) 3,
 LL 14 (.assign (.tmp 79)) 3]))))))
 (.seq (.rgn [] [LL 107 (.move (.tmp 13)) 4])
 (.cond (.tmp 107)
 (.rgn [108, 109] [LL 108 (.move (.tmp 9)) 82,
 LL 109 (.move (.tmp 11)) 25,
 LL 110 (.buildSlice 82 1 #[(0, (.tmp 109))]) 82,
 LL 111 (.call { callee := (.builtin .append), args := #[(.tmp 108), (.tmp 110)], argTypes := #[82, 82] }) 82,
 LL 9 (.assign (.tmp 111)) 82])
 .skip)))))))
 (.rgn [] [LL 47 (.move (.tmp 10)) 3,
 LL 48 (.binOp .add 3 (.tmp 47) (.const (.int .i64 1)) 3) 3,
 LL 10 (.assign (.tmp 48)) 3]))))))
 (.seq (.rgn [112] [LL 113 (.move (.tmp 5)) 25,
 LL 114 (.call { callee := (.builtin .len), args := #[(.tmp 113)], argTypes := #[25] }) 3,
 LL 115 (.move (.tmp 9)) 82,
 LL 116 (.call { callee := (.value (.func 247)), args := #[(.tmp 114), (.tmp 115)], argTypes := #[3, 82] }) 129,
 LL 112 (.move (.tmp 116)) 129,
 LL 117 (.extract (.tmp 112) 0) 128,
 LL 118 (.extract (.tmp 112) 1) 4,
 LL 16 (.alloc 128) 0,
 ⟨none, (.store 128 (.tmp 16) (.tmp 117)), 0, none⟩,
 LL 17 (.assign (.tmp 118)) 4])
 (.seq (.seq (.rgn [] [LL 119 (.move (.tmp 17)) 4,
 LL 120 (.unOp .not 4 (.tmp 119)) 4])
 (.cond (.tmp 120)
 (.seq (.rgn [121] [LL 121 (.load 128 (.tmp 8)) 128,
 ⟨none, (.store 128 (.tmp 4) (.tmp 121)), 0, none⟩])
 .ret)
 .skip))
 (.seq (.rgn [122] [LL 122 (.load 128 (.tmp 16)) 128,
 ⟨none, (.store 128 (.tmp 4) (.tmp 122)), 0, none⟩])
 .ret))))))))))
theorem lit223 : Lit Try.prog 223 123 [2, 3, 4, 6, 8, 16] [.cell 4 128] c223 := ⟨⟨Try.f223, _, Try.func223, rfl, by kernel_rfl, rfl, rfl, by kernel_rfl, by kernel_rfl⟩, by decide, by kernel_rfl⟩
/-- spec.ColumnsForOrder -/
def c224 : LC :=
  (.seq (.rgn [] [LL 2 (.box 195 (.tmp 0)) 0,
 LL 4 (.assign (.const (.slice none 0 0))) 25])
 (.seq (.rgn [] [LL 9 (.load 195 (.tmp 2)) 195,
 LL 10 (.call { callee := (.value (.func 246)), args := #[(.tmp 9)], argTypes := #[195] }) 25,
 LL 5 (.assign (.tmp 10)) 25])
 (.seq (.rgn [] [LL 11 (.buildSlice 25 0 #[]) 25,
 LL 6 (.assign (.tmp 11)) 25])
 (.seq (.seq (.rgn [] [LL 7 (.assign (.const (.int .i64 0))) 3])
 (.blk 0
 (.loop []
 (.seq (.seq (.rgn [] [LL 12 (.move (.tmp 7)) 3,
 LL 13 (.move (.tmp 1)) 25,
 LL 14 (.call { callee := (.builtin .len), args := #[(.tmp 13)], argTypes := #[25] }) 3,
 LL 15 (.binOp .lss 3 (.tmp 12) (.tmp 14) 3) 4])
 (.cond (.tmp 15)
 .skip
 (.exit 0)))
 (.seq (.blk 1
 (.seq (.rgn [] [LL 18 (.move (.tmp 5)) 25,
 LL 19 (.move (.tmp 1)) 25,
 LL 20 (.move (.tmp 7)) 3,
 LL 21 (.indexAddr 25 (.tmp 19) (.tmp 20)) 0,
 LL 22 (.load 3 (.tmp 21)) 3,
 LL 23 (.call { callee := (.value (.func 205)), args := #[(.tmp 18), (.tmp 22)], argTypes := #[25, 3] }) 3,
 LL 8 (.assign (.tmp 23)) 3])
 (.seq (.rgn [] [LL 24 (.move (.tmp 8)) 3,
 LL 25 (.binOp .geq 3 (.tmp 24) (.const (.int .i64 0)) 3) 4,
 LL 26 (.move (.tmp 25)) 4,
 ⟨some 27, (.move (.tmp 6)), 25, some (some 26, true)⟩,
 ⟨some 28, (.move (.tmp 8)), 3, some (some 26, true)⟩,
 ⟨some 29, (.call { callee := (.value (.func 205)), args := #[(.tmp 27), (.tmp 28)], argTypes := #[25, 3] }), 3, some (some 26, true)⟩,
 ⟨some 30, (.binOp .lss 3 (.tmp 29) (.const (.int .i64 0)) 3), 4, some (some 26, true)⟩,
 LL 31 (.pick (.tmp 26) (.tmp 30) (.const (.bool false))) 4])
 (.cond (.tmp 31)
 (.rgn [32] [LL 32 (.move (.tmp 6)) 25,
 LL 33 (.move (.tmp 8)) 3,
 LL 34 (.buildSlice 25 1 #[(0, (.tmp 33))]) 25,
 LL 35 (.call { callee := (.builtin .append), args := #[(.tmp 32), (.tmp 34)], argTypes := #[25, 25] }) 25,
 LL 6 (.assign (.tmp 35)) 25])
 .skip))))
 (.rgn [] [LL 16 (.move (.tmp 7)) 3,
 LL 17 (.binOp .add 3 (.tmp 16) (.const (.int .i64 1)) 3) 3,
 LL 7 (.assign (.tmp 17)) 3]))))))
 (.seq (.rgn [36] [LL 36 (.move (.tmp 6)) 25,
 LL 4 (.assign (.tmp 36)) 25])
 .ret)))))
theorem lit224 : Lit Try.prog 224 37 [2] [.tmp 4] c224 := ⟨⟨Try.f224, _, Try.func224, rfl, by kernel_rfl, rfl, rfl, by kernel_rfl, by kernel_rfl⟩, by decide, by kernel_rfl⟩
/-- spec.TrieChildren -/
def c225 : LC :=
  (.seq (.rgn [] [LL 2 (.box 197 (.tmp 0)) 0,
 LL 4 (.assign (.const (.slice none 0 0))) 25])
 (.seq (.rgn [] [LL 10 (.buildSlice 25 0 #[]) 25,
 LL 5 (.assign (.tmp 10)) 25])
 (.seq (.rgn [] [LL 12 (.load 197 (.tmp 2)) 197,
 LL 13 (.move (.tmp 1)) 25,
 LL 14 (.call { callee := (.value (.func 248)), args := #[(.tmp 12), (.tmp 13)], argTypes := #[197, 25] }) 248,
 LL 11 (.move (.tmp 14)) 248,
 LL 15 (.extract (.tmp 11) 0) 3,
 LL 16 (.extract (.tmp 11) 1) 3,
 LL 6 (.assign (.tmp 15)) 3,
 LL 7 (.assign (.tmp 16)) 3])
 (.seq (.seq (.rgn [] [LL 17 (.move (.tmp 6)) 3,
 LL 8 (.assign (.tmp 17)) 3])
 (.blk 0
 (.loop []
 (.seq (.seq (.rgn [] [LL 18 (.move (.tmp 8)) 3,
 LL 19 (.move (.tmp 7)) 3,
 LL 20 (.binOp .lss 3 (.tmp 18) (.tmp 19) 3) 4,
 LL 21 (.move (.tmp 20)) 4,
 ⟨some 22, (.move (.tmp 1)), 25, some (some 21, true)⟩,
 ⟨some 23, (.call { callee := (.builtin .len), args := #[(.tmp 22)], argTypes := #[25] }), 3, some (some 21, true)⟩,
 ⟨some 24, (.fieldAddr 197 (.tmp 2) 0), 0, some (some 21, true)⟩,
 ⟨some 25, (.load 3 (.tmp 24)), 3, some (some 21, true)⟩,
 ⟨some 26, (.binOp .lss 3 (.tmp 23) (.tmp 25) 3), 4, some (some 21, true)⟩,
 LL 27 (.pick (.tmp 21) (.tmp 26) (.const (.bool false))) 4])
 (.cond (.tmp 27)
 .skip
 (.exit 0)))
 (.seq (.blk 1
 (.seq (.rgn [] [LL 30 (.fieldAddr 197 (.tmp 2) 1) 0,
 LL 31 (.load 82 (.tmp 30)) 82,
 LL 32 (.move (.tmp 8)) 3,
 LL 33 (.indexAddr 82 (.tmp 31) (.tmp 32)) 0,
 LL 34 (.load 25 (.tmp 33)) 25,
 LL 35 (.move (.tmp 1)) 25,
 LL 36 (.call { callee := (.builtin .len), args := #[(.tmp 35)], argTypes := #[25] }) 3,
 LL 37 (.indexAddr 25 (.tmp 34) (.tmp 36)) 0,
 LL 38 (.load 3 (.tmp 37)) 3,
 LL 9 (.assign (.tmp 38)) 3])
 (.seq (.rgn [] [LL 39 (.move (.tmp 5)) 25,
 LL 40 (.call { callee := (.builtin .len), args := #[(.tmp 39)], argTypes := #[25] }) 3,
 LL 41 (.binOp .eql 3 (.tmp 40) (.const (.int .i64 0)) 3) 4,
 LL 42 (.move (.tmp 41)) 4,
 ⟨some 43, (.move (.tmp 5)), 25, some (some 42, false)⟩,
 ⟨some 44, (.move (.tmp 5)), 25, some (some 42, false)⟩,
 ⟨some 45, (.call { callee := (.builtin .len), args := #[(.tmp 44)], argTypes := #[25] }), 3, some (some 42, false)⟩,
 ⟨some 46, (.binOp .sub 3 (.tmp 45) (.const (.int .i64 1)) 3), 3, some (some 42, false)⟩,
 ⟨some 47, (.indexAddr 25 (.tmp 43) (.tmp 46)), 0, some (some 42, false)⟩,
 ⟨some 48, (.load 3 (.tmp 47)), 3, some (some 42, false)⟩,
 ⟨some 49, (.move (.tmp 9)), 3, some (some 42, false)⟩,
 ⟨some 50, (.binOp .neq 3 (.tmp 48) (.tmp 49) 3), 4, some (some 42, false)⟩,
 LL 51 (.pick (.tmp 42) (.const (.bool true)) (.tmp 50)) 4])
 (.cond (.tmp 51)
 (.rgn [52] [LL 52 (.move (.tmp 5)) 25,
 LL 53 (.move (.tmp 9)) 3,
 LL 54 (.buildSlice 25 1 #[(0, (.tmp 53))]) 25,
 LL 55 (.call { callee := (.builtin .append), args := #[(.tmp 52), (.tmp 54)], argTypes := #[25, 25] }) 25,
 LL 5 (.assign (.tmp 55)) 25])
 .skip))))
 (.rgn [] [LL 28 (.move (.tmp 8)) 3,
 LL 29 (.binOp .add 3 (.tmp 28) (.const (.int .i64 1)) 3) 3,
 LL 8 (.assign (.tmp 29)) 3]))))))
 (.seq (.rgn [56] [LL 56 (.move (.tmp 5)) 25,
 LL 4 (.assign (.tmp 56)) 25])
 .ret)))))
theorem lit225 : Lit Try.prog 225 57 [2] [.tmp 4] c225 := ⟨⟨Try.f225, _, Try.func225, rfl, by kernel_rfl, rfl, rfl, by kernel_rfl, by kernel_rfl⟩, by decide, by kernel_rfl⟩
/-- impl.BuildTrie -/
def c226 : LC :=
  (.seq (.rgn [] [LL 2 (.box 128 (.tmp 0)) 0,
 LL 4 (.alloc 197) 0,
 LL 5 (.assign (.const (.bool false))) 4])
 (.seq (.seq (.rgn [] [LL 8 (.move (.tmp 1)) 25,
 LL 9 (.call { callee := (.value (.func 249)), args := #[(.tmp 8)], argTypes := #[25] }) 4,
 LL 10 (.unOp .not 4 (.tmp 9)) 4,
 LL 11 (.move (.tmp 10)) 4,
 ⟨some 12, (.move (.tmp 1)), 25, some (some 11, false)⟩,
 ⟨some 13, (.call { callee := (.builtin .len), args := #[(.tmp 12)], argTypes := #[25] }), 3, some (some 11, false)⟩,
 ⟨some 14, (.fieldAddr 128 (.tmp 2) 0), 0, some (some 11, false)⟩,
 ⟨some 15, (.load 3 (.tmp 14)), 3, some (some 11, false)⟩,
 ⟨some 16, (.binOp .neq 3 (.tmp 13) (.tmp 15) 3), 4, some (some 11, false)⟩,
 LL 17 (.pick (.tmp 11) (.const (.bool true)) (.tmp 16)) 4])
 (.cond (.tmp 17)
 (.seq (.rgn [] [LL 18 (.build 197 #[]) 197,
 ⟨none, (.store 197 (.tmp 4) (.tmp 18)), 0, none⟩,
 LL 5 (.assign (.const (.bool false))) 4])
 .ret)
 .skip))
 (.seq (.rgn [19] [LL 20 (.load 128 (.tmp 2)) 128,
 LL 21 (.move (.tmp 1)) 25,
 LL 22 (.call { callee := (.value (.func 250)), args := #[(.tmp 20), (.tmp 21)], argTypes := #[128, 25] }) 129,
 LL 19 (.move (.tmp 22)) 129,
 LL 23 (.extract (.tmp 19) 0) 128,
 LL 24 (.extract (.tmp 19) 1) 4,
 LL 6 (.alloc 128) 0,
 ⟨none, (.store 128 (.tmp 6) (.tmp 23)), 0, none⟩,
 LL 7 (.assign (.tmp 24)) 4])
 (.seq (.seq (.rgn [] [LL 25 (.move (.tmp 7)) 4,
 LL 26 (.unOp .not 4 (.tmp 25)) 4])
 (.cond (.tmp 26)
 (.seq (.rgn [] [LL 27 (.build 197 #[]) 197,
 ⟨none, (.store 197 (.tmp 4) (.tmp 27)), 0, none⟩,
 LL 5 (.assign (.const (.bool false))) 4])
 .ret)
 .skip))
 (.seq (.rgn [31] [LL 28 (.fieldAddr 128 (.tmp 6) 0) 0,
 LL 29 (.load 3 (.tmp 28)) 3,
 LL 30 (.fieldAddr 128 (.tmp 6) 1) 0,
 LL 31 (.load 82 (.tmp 30)) 82,
 LL 32 (.build 197 #[(0, (.tmp 29)), (1, (.tmp 31))]) 197,
 ⟨none, (.store 197 (.tmp 4) (.tmp 32)), 0, none⟩,
 LL 5 (.assign (.const (.bool true))) 4])
 .ret)))))
theorem lit226 : Lit Try.prog 226 33 [2, 4, 6] [.cell 4 197, .tmp 5] c226 := ⟨⟨Try.f226, _, Try.func226, rfl, by kernel_rfl, rfl, rfl, by kernel_rfl, by kernel_rfl⟩, by decide, by kernel_rfl⟩
/-- impl.AtomBindings -/
def c227 : LC :=
  (.seq (.rgn [] [LL 2 (.box 33 (.tmp 0)) 0,
 LL 3 (.box 195 (.tmp 1)) 0,
 LL 4 (.alloc 128) 0])
 (.seq (.rgn [] [LL 17 (.load 195 (.tmp 3)) 195,
 LL 18 (.call { callee := (.value (.func 162)), args := #[(.tmp 17)], argTypes := #[195] }) 25,
 LL 5 (.assign (.tmp 18)) 25])
 (.seq (.rgn [] [LL 19 (.move (.tmp 5)) 25,
 LL 20 (.call { callee := (.builtin .len), args := #[(.tmp 19)], argTypes := #[25] }) 3,
 LL 21 (.build 128 #[(0, (.tmp 20))]) 128,
 LL 6 (.alloc 128) 0,
 ⟨none, (.store 128 (.tmp 6) (.tmp 21)), 0, none⟩])
 (.seq (.rgn [22] [LL 23 (.load 33 (.tmp 2)) 33,
 LL 24 (.fieldAddr 195 (.tmp 3) 0) 0,
 LL 25 (.load 9 (.tmp 24)) 9,
 LL 26 (.call { callee := (.value (.func 79)), args := #[(.tmp 23), (.tmp 25)], argTypes := #[33, 9] }) 129,
 LL 22 (.move (.tmp 26)) 129,
 LL 27 (.extract (.tmp 22) 0) 128,
 LL 28 (.extract (.tmp 22) 1) 4,
 LL 7 (.alloc 128) 0,
 ⟨none, (.store 128 (.tmp 7) (.tmp 27)), 0, none⟩,
 LL 8 (.assign (.tmp 28)) 4])
 (.seq (.seq (.rgn [] [LL 29 (.move (.tmp 8)) 4,
 LL 30 (.unOp .not 4 (.tmp 29)) 4,
 LL 31 (.move (.tmp 30)) 4,
 ⟨some 32, (.fieldAddr 128 (.tmp 7) 0), 0, some (some 31, false)⟩,
 ⟨some 33, (.load 3 (.tmp 32)), 3, some (some 31, false)⟩,
 ⟨some 34, (.fieldAddr 195 (.tmp 3) 1), 0, some (some 31, false)⟩,
 ⟨some 35, (.load 25 (.tmp 34)), 25, some (some 31, false)⟩,
 ⟨some 36, (.call { callee := (.builtin .len), args := #[(.tmp 35)], argTypes := #[25] }), 3, some (some 31, false)⟩,
 ⟨some 37, (.binOp .neq 3 (.tmp 33) (.tmp 36) 3), 4, some (some 31, false)⟩,
 LL 38 (.pick (.tmp 31) (.const (.bool true)) (.tmp 37)) 4,
 LL 39 (.move (.tmp 38)) 4,
 ⟨some 40, (.fieldAddr 195 (.tmp 3) 1), 0, some (some 39, false)⟩,
 ⟨some 41, (.load 25 (.tmp 40)), 25, some (some 39, false)⟩,
 ⟨some 42, (.call { callee := (.value (.func 251)), args := #[(.const (.int .i64 5)), (.tmp 41)], argTypes := #[3, 25] }), 4, some (some 39, false)⟩,
 ⟨some 43, (.unOp .not 4 (.tmp 42)), 4, some (some 39, false)⟩,
 LL 44 (.pick (.tmp 39) (.const (.bool true)) (.tmp 43)) 4])
 (.cond (.tmp 44)
 (.seq (.rgn [45] [LL 45 (.load 128 (.tmp 6)) 128,
 ⟨none, (.store 128 (.tmp 4) (.tmp 45)), 0, none⟩])
 .ret)
 .skip))
 (.seq (.rgn [] [LL 9 (.assign (.const (.slice none 0 0))) 82])
 (.seq (.seq (.rgn [] [LL 46 (.fieldAddr 128 (.tmp 7) 1) 0,
 LL 47 (.load 82 (.tmp 46)) 82,
 LL 48 (.call { callee := (.builtin .len), args := #[(.tmp 47)], argTypes := #[82] }) 3,
 LL 49 (.move (.const (.int .i64 0))) 3])
 (.blk 0
 (.loop [12, 53]
 (.seq (.rgn [] [LL 50 (.binOp .lss 3 (.tmp 49) (.tmp 48) 3) 0])
 (.seq (.cond (.tmp 50)
 .skip
 (.exit 0))
 (.seq (.blk 1
 (.seq (.rgn [52] [LL 51 (.indexAddr 82 (.tmp 47) (.tmp 49)) 0,
 LL 52 (.load 25 (.tmp 51)) 25,
 LL 11 (.assign (.tmp 52)) 25])
 (.seq (.rgn [12, 53] [LL 53 (.makeSlice 25 (.const (.int .i64 5)) (.const (.int .i64 5))) 25,
 LL 12 (.assign (.tmp 53)) 25])
 (.seq (.rgn [] [LL 13 (.assign (.const (.bool true))) 4])
 (.seq (.seq (.rgn [] [LL 54 (.fieldAddr 195 (.tmp 3) 1) 0,
 LL 55 (.load 25 (.tmp 54)) 25,
 LL 56 (.call { callee := (.builtin .len), args := #[(.tmp 55)], argTypes := #[25] }) 3,
 LL 57 (.move (.const (.int .i64 0))) 3])
 (.blk 2
 (.loop []
 (.seq (.rgn [] [LL 58 (.binOp .lss 3 (.tmp 57) (.tmp 56) 3) 0])
 (.seq (.cond (.tmp 58)
 .skip
 (.exit 2))
 (.seq (.blk 3
 (.seq (.rgn [] [LL 59 (.move (.tmp 57)) 3,
 LL 60 (.indexAddr 25 (.tmp 55) (.tmp 57)) 0,
 LL 61 (.load 3 (.tmp 60)) 3,
 LL 14 (.assign (.tmp 59)) 3,
 LL 15 (.assign (.tmp 61)) 3])
 (.seq (.rgn [] [LL 62 (.fieldAddr 195 (.tmp 3) 1) 0,
 LL 63 (.load 25 (.tmp 62)) 25,
 LL 64 (.move (.tmp 15)) 3,
 LL 65 (.call { callee := (.value (.func 252)), args := #[(.tmp 63), (.tmp 64)], argTypes := #[25, 3] }) 3,
 LL 16 (.assign (.tmp 65)) 3])
 (.seq (.drw [] [([13], [66]), ([66], [67]), ([11, 67], [68]), ([16, 67], [69]), ([67, 68, 69], [70]), ([67, 70], [71]), ([11, 67], [72]), ([14, 67], [73]), ([67, 72, 73], [74]), ([67, 74], [75]), ([67, 71, 75], [76]), ([67, 76], [77]), ([77], [13, 77])] [[], [0], [1], [1], [2, 3, 1], [4, 1], [1], [1], [6, 7, 1], [8, 1], [5, 9, 1], [1, 10], [11, 1, 0, 1, 2, 3, 4, 5, 6, 7, 8, 9, 10, 11]] [LL 66 (.move (.tmp 13)) 4,
 LL 67 (.move (.tmp 66)) 4,
 ⟨some 68, (.move (.tmp 11)), 25, some (some 67, true)⟩,
 ⟨some 69, (.move (.tmp 16)), 3, some (some 67, true)⟩,
 ⟨some 70, (.indexAddr 25 (.tmp 68) (.tmp 69)), 0, some (some 67, true)⟩,
 ⟨some 71, (.load 3 (.tmp 70)), 3, some (some 67, true)⟩,
 ⟨some 72, (.move (.tmp 11)), 25, some (some 67, true)⟩,
 ⟨some 73, (.move (.tmp 14)), 3, some (some 67, true)⟩,
 ⟨some 74, (.indexAddr 25 (.tmp 72) (.tmp 73)), 0, some (some 67, true)⟩,
 ⟨some 75, (.load 3 (.tmp 74)), 3, some (some 67, true)⟩,
 ⟨some 76, (.binOp .eql 3 (.tmp 71) (.tmp 75) 3), 4, some (some 67, true)⟩,
 LL 77 (.pick (.tmp 67) (.tmp 76) (.const (.bool false))) 4,
 LL 13 (.assign (.tmp 77)) 4])
 (.rgn [] [LL 78 (.move (.tmp 12)) 25,
 LL 79 (.move (.tmp 15)) 3,
 LL 80 (.move (.tmp 11)) 25,
 LL 81 (.move (.tmp 14)) 3,
 LL 82 (.indexAddr 25 (.tmp 80) (.tmp 81)) 0,
 LL 83 (.load 3 (.tmp 82)) 3,
 LL 84 (.indexAddr 25 (.tmp 78) (.tmp 79)) 0,
 ⟨none, (.store 3 (.tmp 84) (.tmp 83)), 0, none⟩])))))
 (.rgn [] [LL 85 (.binOp .add 3 (.tmp 57) (.const (.int .i64 1)) 3) 3,
 LL 57 (.move (.tmp 85)) 3])))))))
 (.seq (.rgn [] [LL 86 (.move (.tmp 13)) 4])
 (.cond (.tmp 86)
 (.rgn [87, 88] [LL 87 (.move (.tmp 9)) 82,
 LL 88 (.move (.tmp 12)) 25,
 LL 89 (.move (.tmp 5)) 25,
 LL 90 (.call { callee := (.value (.func 81)), args := #[(.tmp 88), (.tmp 89)], argTypes := #[25, 25] }) 25,
 LL 91 (.buildSlice 82 1 #[(0, (.tmp 90))]) 82,
 LL 92 (.call { callee := (.builtin .append), args := #[(.tmp 87), (.tmp 91)], argTypes := #[82, 82] }) 82,
 LL 9 (.assign (.tmp 92)) 82])
 .skip)))))))
 (.rgn [] [LL 93 (.binOp .add 3 (.tmp 49) (.const (.int .i64 1)) 3) 3,
 LL 49 (.move (.tmp 93)) 3])))))))
 (.seq (.rgn [] [LL 94 (.move (.tmp 9)) 82,
 LL 95 (.call { callee := (.value (.func 253)), args := #[(.tmp 94)], argTypes := #[82] }) 82,
 LL 96 (.fieldAddr 128 (.tmp 6) 1) 0,
 ⟨none, (.store 82 (.tmp 96) (.tmp 95)), 0, none⟩])
 (.seq (.rgn [97] [LL 97 (.load 128 (.tmp 6)) 128,
 ⟨none, (.store 128 (.tmp 4) (.tmp 97)), 0, none⟩])
 .ret)))))))))
theorem lit227 : Lit Try.prog 227 98 [2, 3, 4, 6, 7, 12, 53] [.cell 4 128] c227 := ⟨⟨Try.f227, _, Try.func227, rfl, by kernel_rfl, rfl, rfl, by kernel_rfl, by kernel_rfl⟩, by decide, by kernel_rfl⟩
/-- impl.ColumnsForOrder -/
def c228 : LC :=
  (.seq (.rgn [] [LL 2 (.box 195 (.tmp 0)) 0,
 LL 4 (.assign (.const (.slice none 0 0))) 25])
 (.seq (.rgn [] [LL 10 (.load 195 (.tmp 2)) 195,
 LL 11 (.call { callee := (.value (.func 162)), args := #[(.tmp 10)], argTypes := #[195] }) 25,
 LL 5 (.assign (.tmp 11)) 25])
 (.seq (.rgn [] [LL 6 (.assign (.const (.slice none 0 0))) 25])
 (.seq (.seq (.rgn [] [LL 12 (.move (.tmp 1)) 25,
 LL 13 (.call { callee := (.builtin .len), args := #[(.tmp 12)], argTypes := #[25] }) 3,
 LL 14 (.move (.const (.int .i64 0))) 3])
 (.blk 0
 (.loop []
 (.seq (.rgn [] [LL 15 (.binOp .lss 3 (.tmp 14) (.tmp 13) 3) 0])
 (.seq (.cond (.tmp 15)
 .skip
 (.exit 0))
 (.seq (.blk 1
 (.seq (.rgn [] [LL 16 (.indexAddr 25 (.tmp 12) (.tmp 14)) 0,
 LL 17 (.load 3 (.tmp 16)) 3,
 LL 8 (.assign (.tmp 17)) 3])
 (.seq (.rgn [] [LL 18 (.move (.tmp 5)) 25,
 LL 19 (.move (.tmp 8)) 3,
 LL 20 (.call { callee := (.value (.func 252)), args := #[(.tmp 18), (.tmp 19)], argTypes := #[25, 3] }) 3,
 LL 9 (.assign (.tmp 20)) 3])
 (.seq (.rgn [] [LL 21 (.move (.tmp 9)) 3,
 LL 22 (.binOp .geq 3 (.tmp 21) (.const (.int .i64 0)) 3) 4,
 LL 23 (.move (.tmp 22)) 4,
 ⟨some 24, (.move (.tmp 6)), 25, some (some 23, true)⟩,
 ⟨some 25, (.move (.tmp 9)), 3, some (some 23, true)⟩,
 ⟨some 26, (.call { callee := (.value (.func 230)), args := #[(.tmp 24), (.tmp 25)], argTypes := #[25, 3] }), 4, some (some 23, true)⟩,
 ⟨some 27, (.unOp .not 4 (.tmp 26)), 4, some (some 23, true)⟩,
 LL 28 (.pick (.tmp 23) (.tmp 27) (.const (.bool false))) 4])
 (.cond (.tmp 28)
 (.rgn [29] [LL 29 (.move (.tmp 6)) 25,
 LL 30 (.move (.tmp 9)) 3,
 LL 31 (.buildSlice 25 1 #[(0, (.tmp 30))]) 25,
 LL 32 (.call { callee := (.builtin .append), args := #[(.tmp 29), (.tmp 31)], argTypes := #[25, 25] }) 25,
 LL 6 (.assign (.tmp 32)) 25])
 .skip)))))
 (.rgn [] [LL 33 (.binOp .add 3 (.tmp 14) (.const (.int .i64 1)) 3) 3,
 LL 14 (.move (.tmp 33)) 3])))))))
 (.seq (.rgn [34] [LL 34 (.move (.tmp 6)) 25,
 LL 4 (.assign (.tmp 34)) 25])
 .ret)))))
theorem lit228 : Lit Try.prog 228 35 [2] [.tmp 4] c228 := ⟨⟨Try.f228, _, Try.func228, rfl, by kernel_rfl, rfl, rfl, by kernel_rfl, by kernel_rfl⟩, by decide, by kernel_rfl⟩
/-- impl.ContainsVariable -/
def c229 : LC :=
  (.seq (.rgn [] [LL 2 (.box 195 (.tmp 0)) 0,
 LL 4 (.assign (.const (.bool false))) 4])
 (.seq (.rgn [] [LL 5 (.fieldAddr 195 (.tmp 2) 1) 0,
 LL 6 (.load 25 (.tmp 5)) 25,
 LL 7 (.move (.tmp 1)) 3,
 LL 8 (.call { callee := (.value (.func 230)), args := #[(.tmp 6), (.tmp 7)], argTypes := #[25, 3] }) 4,
 LL 4 (.assign (.tmp 8)) 4])
 .ret))
theorem lit229 : Lit Try.prog 229 9 [2] [.tmp 4] c229 := ⟨⟨Try.f229, _, Try.func229, rfl, by kernel_rfl, rfl, rfl, by kernel_rfl, by kernel_rfl⟩, by decide, by kernel_rfl⟩
/-- impl.hasInt -/
def c230 : LC :=
  (.seq (.rgn [] [LL 4 (.assign (.const (.bool false))) 4])
 (.seq (.rgn [] [LL 5 (.move (.tmp 0)) 25,
 LL 6 (.move (.tmp 1)) 3,
 LL 7 (.call { callee := (.value (.func 252)), args := #[(.tmp 5), (.tmp 6)], argTypes := #[25, 3] }) 3,
 LL 8 (.binOp .geq 3 (.tmp 7) (.const (.int .i64 0)) 3) 4,
 LL 4 (.assign (.tmp 8)) 4])
 .ret))
theorem lit230 : Lit Try.prog 230 9 [] [.tmp 4] c230 := ⟨⟨Try.f230, _, Try.func230, rfl, by kernel_rfl, rfl, rfl, by kernel_rfl, by kernel_rfl⟩, by decide, by kernel_rfl⟩
/-- impl.IsValidTrie -/
def c231 : LC :=
  (.seq (.rgn [] [LL 1 (.box 197 (.tmp 0)) 0,
 LL 2 (.assign (.const (.bool false))) 4])
 (.seq (.rgn [] [LL 3 (.load 197 (.tmp 1)) 197,
 LL 4 (.call { callee := (.value (.func 254)), args := #[(.tmp 3)], argTypes := #[197] }) 128,
 LL 5 (.call { callee := (.value (.func 219)), args := #[(.tmp 4)], argTypes := #[128] }) 4,
 LL 2 (.assign (.tmp 5)) 4])
 .ret))
theorem lit231 : Lit Try.prog 231 6 [1] [.tmp 2] c231 := ⟨⟨Try.f231, _, Try.func231, rfl, by kernel_rfl, rfl, rfl, by kernel_rfl, by kernel_rfl⟩, by decide, by kernel_rfl⟩
/-- impl.TriePrefixRange -/
def c232 : LC :=
  (.seq (.rgn [] [LL 2 (.box 197 (.tmp 0)) 0,
 LL 4 (.assign (.const (.int .i64 0))) 3,
 LL 5 (.assign (.const (.int .i64 0))) 3])
 (.seq (.rgn [] [LL 9 (.move (.tmp 1)) 25,
 LL 10 (.call { callee := (.builtin .len), args := #[(.tmp 9)], argTypes := #[25] }) 3,
 LL 6 (.assign (.tmp 10)) 3])
 (.seq (.seq (.rgn [] [LL 11 (.move (.tmp 6)) 3,
 LL 12 (.fieldAddr 197 (.tmp 2) 0) 0,
 LL 13 (.load 3 (.tmp 12)) 3,
 LL 14 (.binOp .gtr 3 (.tmp 11) (.tmp 13) 3) 4,
 LL 15 (.move (.tmp 14)) 4,
 ⟨some 16, (.load 197 (.tmp 2)), 197, some (some 15, false)⟩,
 ⟨some 17, (.call { callee := (.value (.func 231)), args := #[(.tmp 16)], argTypes := #[197] }), 4, some (some 15, false)⟩,
 ⟨some 18, (.unOp .not 4 (.tmp 17)), 4, some (some 15, false)⟩,
 LL 19 (.pick (.tmp 15) (.const (.bool true)) (.tmp 18)) 4])
 (.cond (.tmp 19)
 (.seq (.rgn [] [LL 4 (.assign (.const (.int .i64 0))) 3,
 LL 5 (.assign (.const (.int .i64 0))) 3])
 .ret)
 .skip))
 (.seq (.rgn [] [LL 7 (.assign (.const (.int .i64 0))) 3])
 (.seq (.blk 0
 (.loop []
 (.seq (.seq (.rgn [] [LL 20 (.move (.tmp 7)) 3,
 LL 21 (.fieldAddr 197 (.tmp 2) 1) 0,
 LL 22 (.load 82 (.tmp 21)) 82,
 LL 23 (.call { callee := (.builtin .len), args := #[(.tmp 22)], argTypes := #[82] }) 3,
 LL 24 (.binOp .lss 3 (.tmp 20) (.tmp 23) 3) 4,
 LL 25 (.move (.tmp 24)) 4,
 ⟨some 26, (.fieldAddr 197 (.tmp 2) 1), 0, some (some 25, true)⟩,
 ⟨some 27, (.load 82 (.tmp 26)), 82, some (some 25, true)⟩,
 ⟨some 28, (.move (.tmp 7)), 3, some (some 25, true)⟩,
 ⟨some 29, (.indexAddr 82 (.tmp 27) (.tmp 28)), 0, some (some 25, true)⟩,
 ⟨some 30, (.load 25 (.tmp 29)), 25, some (some 25, true)⟩,
 ⟨some 31, (.move (.tmp 6)), 3, some (some 25, true)⟩,
 ⟨some 32, (.slice 25 (.tmp 30) none (some (.tmp 31)) none), 25, some (some 25, true)⟩,
 ⟨some 33, (.move (.tmp 1)), 25, some (some 25, true)⟩,
 ⟨some 34, (.call { callee := (.value (.func 255)), args := #[(.tmp 32), (.tmp 33)], argTypes := #[25, 25] }), 3, some (some 25, true)⟩,
 ⟨some 35, (.binOp .lss 3 (.tmp 34) (.const (.int .i64 0)) 3), 4, some (some 25, true)⟩,
 LL 36 (.pick (.tmp 25) (.tmp 35) (.const (.bool false))) 4])
 (.cond (.tmp 36)
 .skip
 (.exit 0)))
 (.blk 1
 (.rgn [] [LL 37 (.move (.tmp 7)) 3,
 LL 38 (.binOp .add 3 (.tmp 37) (.const (.int .i64 1)) 3) 3,
 LL 7 (.assign (.tmp 38)) 3])))))
 (.seq (.rgn [] [LL 39 (.move (.tmp 7)) 3,
 LL 8 (.assign (.tmp 39)) 3])
 (.seq (.blk 2
 (.loop []
 (.seq (.seq (.rgn [] [LL 40 (.move (.tmp 8)) 3,
 LL 41 (.fieldAddr 197 (.tmp 2) 1) 0,
 LL 42 (.load 82 (.tmp 41)) 82,
 LL 43 (.call { callee := (.builtin .len), args := #[(.tmp 42)], argTypes := #[82] }) 3,
 LL 44 (.binOp .lss 3 (.tmp 40) (.tmp 43) 3) 4,
 LL 45 (.move (.tmp 44)) 4,
 ⟨some 46, (.fieldAddr 197 (.tmp 2) 1), 0, some (some 45, true)⟩,
 ⟨some 47, (.load 82 (.tmp 46)), 82, some (some 45, true)⟩,
 ⟨some 48, (.move (.tmp 8)), 3, some (some 45, true)⟩,
 ⟨some 49, (.indexAddr 82 (.tmp 47) (.tmp 48)), 0, some (some 45, true)⟩,
 ⟨some 50, (.load 25 (.tmp 49)), 25, some (some 45, true)⟩,
 ⟨some 51, (.move (.tmp 6)), 3, some (some 45, true)⟩,
 ⟨some 52, (.slice 25 (.tmp 50) none (some (.tmp 51)) none), 25, some (some 45, true)⟩,
 ⟨some 53, (.move (.tmp 1)), 25, some (some 45, true)⟩,
 ⟨some 54, (.call { callee := (.value (.func 255)), args := #[(.tmp 52), (.tmp 53)], argTypes := #[25, 25] }), 3, some (some 45, true)⟩,
 ⟨some 55, (.binOp .eql 3 (.tmp 54) (.const (.int .i64 0)) 3), 4, some (some 45, true)⟩,
 LL 56 (.pick (.tmp 45) (.tmp 55) (.const (.bool false))) 4])
 (.cond (.tmp 56)
 .skip
 (.exit 2)))
 (.blk 3
 (.rgn [] [LL 57 (.move (.tmp 8)) 3,
 LL 58 (.binOp .add 3 (.tmp 57) (.const (.int .i64 1)) 3) 3,
 LL 8 (.assign (.tmp 58)) 3])))))
 (.seq (.rgn [] [LL 59 (.move (.tmp 7)) 3,
 LL 60 (.move (.tmp 8)) 3,
 LL 4 (.assign (.tmp 59)) 3,
 LL 5 (.assign (.tmp 60)) 3])
 .ret))))))))
theorem lit232 : Lit Try.prog 232 61 [2] [.tmp 4, .tmp 5] c232 := ⟨⟨Try.f232, _, Try.func232, rfl, by kernel_rfl, rfl, rfl, by kernel_rfl, by kernel_rfl⟩, by decide, by kernel_rfl⟩
/-- laws.szRelation -/
def c235 : LC :=
  (.seq (.rgn [] [LL 2 (.box 204 (.tmp 0)) 0,
 LL 4 (.assign (.const (.int .i64 0))) 3])
 (.seq (.rgn [] [LL 5 (.fieldAddr 204 (.tmp 2) 1) 0,
 LL 6 (.load 82 (.tmp 5)) 82,
 LL 7 (.move (.tmp 1)) 3,
 LL 8 (.call { callee := (.value (.func 199)), args := #[(.tmp 6), (.tmp 7)], argTypes := #[82, 3] }) 3,
 LL 1 (.assign (.tmp 8)) 3])
 (.seq (.seq (.rgn [] [LL 9 (.move (.tmp 1)) 3,
 LL 10 (.binOp .lss 3 (.tmp 9) (.const (.int .i64 0)) 3) 4])
 (.cond (.tmp 10)
 (.seq (.rgn [] [LL 4 (.assign (.const (.int .i64 (-1)))) 3])
 .ret)
 .skip))
 (.seq (.rgn [] [LL 11 (.move (.tmp 1)) 3,
 LL 4 (.assign (.tmp 11)) 3])
 .ret))))
theorem lit235 : Lit Try.prog 235 12 [2] [.tmp 4] c235 := ⟨⟨Try.f235, _, Try.func235, rfl, by kernel_rfl, rfl, rfl, by kernel_rfl, by kernel_rfl⟩, by decide, by kernel_rfl⟩
/-- laws.toRelation -/
def c236 : LC :=
  (.seq (.rgn [] [LL 1 (.box 204 (.tmp 0)) 0,
 LL 2 (.alloc 128) 0])
 (.seq (.rgn [] [LL 3 (.alloc 128) 0])
 (.seq (.rgn [] [LL 4 (.fieldAddr 204 (.tmp 1) 0) 0,
 LL 5 (.load 3 (.tmp 4)) 3,
 LL 6 (.fieldAddr 128 (.tmp 3) 0) 0,
 ⟨none, (.store 3 (.tmp 6) (.tmp 5)), 0, none⟩])
 (.seq (.rgn [] [LL 7 (.fieldAddr 204 (.tmp 1) 1) 0,
 LL 8 (.load 82 (.tmp 7)) 82,
 LL 9 (.call { callee := (.value (.func 208)), args := #[(.tmp 8)], argTypes := #[82] }) 82,
 LL 10 (.fieldAddr 128 (.tmp 3) 1) 0,
 ⟨none, (.store 82 (.tmp 10) (.tmp 9)), 0, none⟩])
 (.seq (.rgn [11] [LL 11 (.load 128 (.tmp 3)) 128,
 ⟨none, (.store 128 (.tmp 2) (.tmp 11)), 0, none⟩])
 .ret)))))
theorem lit236 : Lit Try.prog 236 12 [1, 2, 3] [.cell 2 128] c236 := ⟨⟨Try.f236, _, Try.func236, rfl, by kernel_rfl, rfl, rfl, by kernel_rfl, by kernel_rfl⟩, by decide, by kernel_rfl⟩
/-- impl.copyRows -/
def c237 : LC :=
  (.seq (.rgn [] [LL 2 (.assign (.const (.slice none 0 0))) 82])
 (.seq (.rgn [] [LL 3 (.assign (.const (.slice none 0 0))) 82])
 (.seq (.seq (.rgn [] [LL 6 (.move (.tmp 0)) 82,
 LL 7 (.call { callee := (.builtin .len), args := #[(.tmp 6)], argTypes := #[82] }) 3,
 LL 8 (.move (.const (.int .i64 0))) 3])
 (.blk 0
 (.loop []
 (.seq (.rgn [] [LL 9 (.binOp .lss 3 (.tmp 8) (.tmp 7) 3) 0])
 (.seq (.cond (.tmp 9)
 .skip
 (.exit 0))
 (.seq (.blk 1
 (.seq (.rgn [11] [LL 10 (.indexAddr 82 (.tmp 6) (.tmp 8)) 0,
 LL 11 (.load 25 (.tmp 10)) 25,
 LL 5 (.assign (.tmp 11)) 25])
 (.rgn [12] [LL 12 (.move (.tmp 3)) 82,
 LL 13 (.move (.tmp 5)) 25,
 LL 14 (.call { callee := (.value (.func 151)), args := #[(.tmp 13)], argTypes := #[25] }) 25,
 LL 15 (.buildSlice 82 1 #[(0, (.tmp 14))]) 82,
 LL 16 (.call { callee := (.builtin .append), args := #[(.tmp 12), (.tmp 15)], argTypes := #[82, 82] }) 82,
 LL 3 (.assign (.tmp 16)) 82])))
 (.rgn [] [LL 17 (.binOp .add 3 (.tmp 8) (.const (.int .i64 1)) 3) 3,
 LL 8 (.move (.tmp 17)) 3])))))))
 (.seq (.rgn [18] [LL 18 (.move (.tmp 3)) 82,
 LL 2 (.assign (.tmp 18)) 82])
 .ret))))
theorem lit237 : Lit Try.prog 237 19 [] [.tmp 2] c237 := ⟨⟨Try.f237, _, Try.func237, rfl, by kernel_rfl, rfl, rfl, by kernel_rfl, by kernel_rfl⟩, by decide, by kernel_rfl⟩
/-- laws.eqRelation -/
def c238 : LC :=
  (.seq (.rgn [] [LL 2 (.box 128 (.tmp 0)) 0,
 LL 3 (.box 128 (.tmp 1)) 0,
 LL 4 (.assign (.const (.bool false))) 4])
 (.seq (.seq (.rgn [] [LL 5 (.fieldAddr 128 (.tmp 2) 0) 0,
 LL 6 (.load 3 (.tmp 5)) 3,
 LL 7 (.fieldAddr 128 (.tmp 3) 0) 0,
 LL 8 (.load 3 (.tmp 7)) 3,
 LL 9 (.binOp .neq 3 (.tmp 6) (.tmp 8) 3) 4])
 (.cond (.tmp 9)
 (.seq (.rgn [] [LL 4 (.assign (.const (.bool false))) 4])
 .ret)
 .skip))
 (.seq (.seq (.rgn [] [LL 10 (.fieldAddr 128 (.tmp 2) 1) 0,
 LL 11 (.load 82 (.tmp 10)) 82,
 LL 12 (.fieldAddr 128 (.tmp 3) 1) 0,
 LL 13 (.load 82 (.tmp 12)) 82,
 LL 14 (.call { callee := (.value (.func 215)), args := #[(.tmp 11), (.tmp 13)], argTypes := #[82, 82] }) 4,
 LL 15 (.unOp .not 4 (.tmp 14)) 4])
 (.cond (.tmp 15)
 (.seq (.rgn [] [LL 4 (.assign (.const (.bool false))) 4])
 .ret)
 .skip))
 (.seq (.rgn [] [LL 4 (.assign (.const (.bool true))) 4])
 .ret))))
theorem lit238 : Lit Try.prog 238 16 [2, 3] [.tmp 4] c238 := ⟨⟨Try.f238, _, Try.func238, rfl, by kernel_rfl, rfl, rfl, by kernel_rfl, by kernel_rfl⟩, by decide, by kernel_rfl⟩
/-- spec.AreValidValues -/
def c242 : LC :=
  (.seq (.rgn [] [LL 2 (.assign (.const (.bool false))) 4])
 (.seq (.seq (.rgn [] [LL 3 (.assign (.const (.int .i64 0))) 3])
 (.blk 0
 (.loop []
 (.seq (.seq (.rgn [] [LL 4 (.move (.tmp 3)) 3,
 LL 5 (.move (.tmp 0)) 25,
 LL 6 (.call { callee := (.builtin .len), args := #[(.tmp 5)], argTypes := #[25] }) 3,
 LL 7 (.binOp .lss 3 (.tmp 4) (.tmp 6) 3) 4])
 (.cond (.tmp 7)
 .skip
 (.exit 0)))
 (.seq (.blk 1
 (.seq (.rgn [] [LL 10 (.move (.tmp 0)) 25,
 LL 11 (.move (.tmp 3)) 3,
 LL 12 (.indexAddr 25 (.tmp 10) (.tmp 11)) 0,
 LL 13 (.load 3 (.tmp 12)) 3,
 LL 14 (.call { callee := (.value (.func 86)), args := #[(.tmp 13), (.const (.int .i64 0)), (.const (.int .i64 99))], argTypes := #[3, 3, 3] }) 4,
 LL 15 (.unOp .not 4 (.tmp 14)) 4])
 (.cond (.tmp 15)
 (.seq (.rgn [] [LL 2 (.assign (.const (.bool false))) 4])
 .ret)
 .skip)))
 (.rgn [] [LL 8 (.move (.tmp 3)) 3,
 LL 9 (.binOp .add 3 (.tmp 8) (.const (.int .i64 1)) 3) 3,
 LL 3 (.assign (.tmp 9)) 3]))))))
 (.seq (.rgn [] [LL 2 (.assign (.const (.bool true))) 4])
 .ret)))
theorem lit242 : Lit Try.prog 242 16 [] [.tmp 2] c242 := ⟨⟨Try.f242, _, Try.func242, rfl, by kernel_rfl, rfl, rfl, by kernel_rfl, by kernel_rfl⟩, by decide, by kernel_rfl⟩
/-- impl.isLetters -/
def c243 : LC :=
  (.seq (.rgn [] [LL 4 (.assign (.const (.bool false))) 4])
 (.seq (.seq (.rgn [] [LL 6 (.move (.tmp 0)) 9,
 LL 7 (.call { callee := (.builtin .len), args := #[(.tmp 6)], argTypes := #[9] }) 3,
 LL 8 (.binOp .lss 3 (.tmp 7) (.const (.int .i64 1)) 3) 4,
 LL 9 (.move (.tmp 8)) 4,
 ⟨some 10, (.move (.tmp 0)), 9, some (some 9, false)⟩,
 ⟨some 11, (.call { callee := (.builtin .len), args := #[(.tmp 10)], argTypes := #[9] }), 3, some (some 9, false)⟩,
 ⟨some 12, (.move (.tmp 1)), 3, some (some 9, false)⟩,
 ⟨some 13, (.binOp .gtr 3 (.tmp 11) (.tmp 12) 3), 4, some (some 9, false)⟩,
 LL 14 (.pick (.tmp 9) (.const (.bool true)) (.tmp 13)) 4])
 (.cond (.tmp 14)
 (.seq (.rgn [] [LL 4 (.assign (.const (.bool false))) 4])
 .ret)
 .skip))
 (.seq (.seq (.rgn [] [LL 5 (.assign (.const (.int .i64 0))) 3])
 (.blk 0
 (.loop []
 (.seq (.seq (.rgn [] [LL 15 (.move (.tmp 5)) 3,
 LL 16 (.move (.tmp 0)) 9,
 LL 17 (.call { callee := (.builtin .len), args := #[(.tmp 16)], argTypes := #[9] }) 3,
 LL 18 (.binOp .lss 3 (.tmp 15) (.tmp 17) 3) 4])
 (.cond (.tmp 18)
 .skip
 (.exit 0)))
 (.seq (.blk 1
 (.seq (.rgn [] [LL 21 (.move (.tmp 0)) 9,
 LL 22 (.move (.tmp 5)) 3,
 LL 23 (.index 9 (.tmp 21) (.tmp 22)) 5,
 LL 24 (.binOp .lss 5 (.tmp 23) (.const (.int .u8 97)) 5) 4,
 LL 25 (.move (.tmp 24)) 4,
 ⟨some 26, (.move (.tmp 0)), 9, some (some 25, false)⟩,
 ⟨some 27, (.move (.tmp 5)), 3, some (some 25, false)⟩,
 ⟨some 28, (.index 9 (.tmp 26) (.tmp 27)), 5, some (some 25, false)⟩,
 ⟨some 29, (.binOp .gtr 5 (.tmp 28) (.const (.int .u8 122)) 5), 4, some (some 25, false)⟩,
 LL 30 (.pick (.tmp 25) (.const (.bool true)) (.tmp 29)) 4])
 (.cond (.tmp 30)
 (.seq (.rgn [] [LL 4 (.assign (.const (.bool false))) 4])
 .ret)
 .skip)))
 (.rgn [] [LL 19 (.move (.tmp 5)) 3,
 LL 20 (.binOp .add 3 (.tmp 19) (.const (.int .i64 1)) 3) 3,
 LL 5 (.assign (.tmp 20)) 3]))))))
 (.seq (.rgn [] [LL 4 (.assign (.const (.bool true))) 4])
 .ret))))
theorem lit243 : Lit Try.prog 243 31 [] [.tmp 4] c243 := ⟨⟨Try.f243, _, Try.func243, rfl, by kernel_rfl, rfl, rfl, by kernel_rfl, by kernel_rfl⟩, by decide, by kernel_rfl⟩
/-- impl.rowsValid -/
def c244 : LC :=
  (.seq (.rgn [] [LL 4 (.assign (.const (.bool false))) 4])
 (.seq (.seq (.rgn [] [LL 7 (.move (.tmp 0)) 3,
 LL 8 (.call { callee := (.value (.func 90)), args := #[(.tmp 7), (.const (.int .i64 0)), (.const (.int .i64 5))], argTypes := #[3, 3, 3] }) 4,
 LL 9 (.unOp .not 4 (.tmp 8)) 4,
 LL 10 (.move (.tmp 9)) 4,
 ⟨some 11, (.move (.tmp 1)), 82, some (some 10, false)⟩,
 ⟨some 12, (.call { callee := (.builtin .len), args := #[(.tmp 11)], argTypes := #[82] }), 3, some (some 10, false)⟩,
 ⟨some 13, (.binOp .gtr 3 (.tmp 12) (.const (.int .i64 4000)) 3), 4, some (some 10, false)⟩,
 LL 14 (.pick (.tmp 10) (.const (.bool true)) (.tmp 13)) 4])
 (.cond (.tmp 14)
 (.seq (.rgn [] [LL 4 (.assign (.const (.bool false))) 4])
 .ret)
 .skip))
 (.seq (.seq (.rgn [] [LL 15 (.move (.tmp 1)) 82,
 LL 16 (.call { callee := (.builtin .len), args := #[(.tmp 15)], argTypes := #[82] }) 3,
 LL 17 (.move (.const (.int .i64 0))) 3])
 (.blk 0
 (.loop []
 (.seq (.rgn [] [LL 18 (.binOp .lss 3 (.tmp 17) (.tmp 16) 3) 0])
 (.seq (.cond (.tmp 18)
 .skip
 (.exit 0))
 (.seq (.blk 1
 (.seq (.rgn [21] [LL 19 (.move (.tmp 17)) 3,
 LL 20 (.indexAddr 82 (.tmp 15) (.tmp 17)) 0,
 LL 21 (.load 25 (.tmp 20)) 25,
 LL 5 (.assign (.tmp 19)) 3,
 LL 6 (.assign (.tmp 21)) 25])
 (.seq (.rgn [] [LL 22 (.move (.tmp 6)) 25,
 LL 23 (.call { callee := (.builtin .len), args := #[(.tmp 22)], argTypes := #[25] }) 3,
 LL 24 (.move (.tmp 0)) 3,
 LL 25 (.binOp .neq 3 (.tmp 23) (.tmp 24) 3) 4,
 LL 26 (.move (.tmp 25)) 4,
 ⟨some 27, (.move (.tmp 6)), 25, some (some 26, false)⟩,
 ⟨some 28, (.call { callee := (.value (.func 258)), args := #[(.tmp 27)], argTypes := #[25] }), 4, some (some 26, false)⟩,
 ⟨some 29, (.unOp .not 4 (.tmp 28)), 4, some (some 26, false)⟩,
 LL 30 (.pick (.tmp 26) (.const (.bool true)) (.tmp 29)) 4,
 LL 31 (.move (.tmp 30)) 4,
 ⟨some 32, (.move (.tmp 5)), 3, some (some 31, false)⟩,
 ⟨some 33, (.binOp .gtr 3 (.tmp 32) (.const (.int .i64 0)) 3), 4, some (some 31, false)⟩,
 ⟨some 34, (.move (.tmp 33)), 4, some (some 31, false)⟩,
 ⟨some 35, (.move (.tmp 1)), 82, some (some 34, true)⟩,
 ⟨some 36, (.move (.tmp 5)), 3, some (some 34, true)⟩,
 ⟨some 37, (.binOp .sub 3 (.tmp 36) (.const (.int .i64 1)) 3), 3, some (some 34, true)⟩,
 ⟨some 38, (.indexAddr 82 (.tmp 35) (.tmp 37)), 0, some (some 34, true)⟩,
 ⟨some 39, (.load 25 (.tmp 38)), 25, some (some 34, true)⟩,
 ⟨some 40, (.move (.tmp 6)), 25, some (some 34, true)⟩,
 ⟨some 41, (.call { callee := (.value (.func 255)), args := #[(.tmp 39), (.tmp 40)], argTypes := #[25, 25] }), 3, some (some 34, true)⟩,
 ⟨some 42, (.binOp .geq 3 (.tmp 41) (.const (.int .i64 0)) 3), 4, some (some 34, true)⟩,
 ⟨some 43, (.pick (.tmp 34) (.tmp 42) (.const (.bool false))), 4, some (some 31, false)⟩,
 LL 44 (.pick (.tmp 31) (.const (.bool true)) (.tmp 43)) 4])
 (.cond (.tmp 44)
 (.seq (.rgn [] [LL 4 (.assign (.const (.bool false))) 4])
 .ret)
 .skip))))
 (.rgn [] [LL 45 (.binOp .add 3 (.tmp 17) (.const (.int .i64 1)) 3) 3,
 LL 17 (.move (.tmp 45)) 3])))))))
 (.seq (.rgn [] [LL 4 (.assign (.const (.bool true))) 4])
 .ret))))
theorem lit244 : Lit Try.prog 244 46 [] [.tmp 4] c244 := ⟨⟨Try.f244, _, Try.func244, rfl, by kernel_rfl, rfl, rfl, by kernel_rfl, by kernel_rfl⟩, by decide, by kernel_rfl⟩
/-- spec.Project -/
def c245 : LC :=
  (.seq (.rgn [] [LL 2 (.box 128 (.tmp 0)) 0,
 LL 4 (.alloc 128) 0,
 LL 5 (.assign (.const (.bool false))) 4])
 (.seq (.seq (.rgn [] [LL 6 (.assign (.const (.int .i64 0))) 3])
 (.blk 0
 (.loop []
 (.seq (.seq (.rgn [] [LL 11 (.move (.tmp 6)) 3,
 LL 12 (.move (.tmp 1)) 25,
 LL 13 (.call { callee := (.builtin .len), args := #[(.tmp 12)], argTypes := #[25] }) 3,
 LL 14 (.binOp .lss 3 (.tmp 11) (.tmp 13) 3) 4])
 (.cond (.tmp 14)
 .skip
 (.exit 0)))
 (.seq (.blk 1
 (.seq (.drw [] [([1], [17]), ([6], [18]), ([17, 18], [19]), ([19], [20]), ([2], [21]), ([2, 21], [22]), ([22], [23]), ([20, 23], [24]), ([24], [25])] [[], [], [0, 1], [2], [], [4], [5], [3, 6], [7]] [LL 17 (.move (.tmp 1)) 25,
 LL 18 (.move (.tmp 6)) 3,
 LL 19 (.indexAddr 25 (.tmp 17) (.tmp 18)) 0,
 LL 20 (.load 3 (.tmp 19)) 3,
 LL 21 (.fieldAddr 128 (.tmp 2) 0) 0,
 LL 22 (.load 3 (.tmp 21)) 3,
 LL 23 (.binOp .sub 3 (.tmp 22) (.const (.int .i64 1)) 3) 3,
 LL 24 (.call { callee := (.value (.func 86)), args := #[(.tmp 20), (.const (.int .i64 0)), (.tmp 23)], argTypes := #[3, 3, 3] }) 4,
 LL 25 (.unOp .not 4 (.tmp 24)) 4])
 (.cond (.tmp 25)
 (.seq (.rgn [] [LL 26 (.build 128 #[]) 128,
 ⟨none, (.store 128 (.tmp 4) (.tmp 26)), 0, none⟩,
 LL 5 (.assign (.const (.bool false))) 4])
 .ret)
 .skip)))
 (.rgn [] [LL 15 (.move (.tmp 6)) 3,
 LL 16 (.binOp .add 3 (.tmp 15) (.const (.int .i64 1)) 3) 3,
 LL 6 (.assign (.tmp 16)) 3]))))))
 (.seq (.seq (.rgn [] [LL 27 (.load 128 (.tmp 2)) 128,
 LL 28 (.call { callee := (.value (.func 217)), args := #[(.tmp 27)], argTypes := #[128] }) 4,
 LL 29 (.unOp .not 4 (.tmp 28)) 4,
 LL 30 (.move (.tmp 29)) 4,
 ⟨some 31, (.move (.tmp 1)), 25, some (some 30, false)⟩,
 ⟨some 32, (.call { callee := (.builtin .len), args := #[(.tmp 31)], argTypes := #[25] }), 3, some (some 30, false)⟩,
 ⟨some 33, (.binOp .gtr 3 (.tmp 32) (.const (.int .i64 5)) 3), 4, some (some 30, false)⟩,
 LL 34 (.pick (.tmp 30) (.const (.bool true)) (.tmp 33)) 4])
 (.cond (.tmp 34)
 (.seq (.rgn [] [LL 35 (.build 128 #[]) 128,
 ⟨none, (.store 128 (.tmp 4) (.tmp 35)), 0, none⟩,
 LL 5 (.assign (.const (.bool false))) 4])
 .ret)
 .skip))
 (.seq (.rgn [] [LL 36 (.buildSlice 82 0 #[]) 82,
 LL 7 (.assign (.tmp 36)) 82])
 (.seq (.seq (.rgn [] [LL 8 (.assign (.const (.int .i64 0))) 3])
 (.blk 2
 (.loop []
 (.seq (.seq (.rgn [] [LL 37 (.move (.tmp 8)) 3,
 LL 38 (.fieldAddr 128 (.tmp 2) 1) 0,
 LL 39 (.load 82 (.tmp 38)) 82,
 LL 40 (.call { callee := (.builtin .len), args := #[(.tmp 39)], argTypes := #[82] }) 3,
 LL 41 (.binOp .lss 3 (.tmp 37) (.tmp 40) 3) 4])
 (.cond (.tmp 41)
 .skip
 (.exit 2)))
 (.seq (.blk 3
 (.rgn [44] [LL 44 (.move (.tmp 7)) 82,
 LL 45 (.fieldAddr 128 (.tmp 2) 1) 0,
 LL 46 (.load 82 (.tmp 45)) 82,
 LL 47 (.move (.tmp 8)) 3,
 LL 48 (.indexAddr 82 (.tmp 46) (.tmp 47)) 0,
 LL 49 (.load 25 (.tmp 48)) 25,
 LL 50 (.move (.tmp 1)) 25,
 LL 51 (.call { callee := (.value (.func 76)), args := #[(.tmp 49), (.tmp 50)], argTypes := #[25, 25] }) 25,
 LL 52 (.buildSlice 82 1 #[(0, (.tmp 51))]) 82,
 LL 53 (.call { callee := (.builtin .append), args := #[(.tmp 44), (.tmp 52)], argTypes := #[82, 82] }) 82,
 LL 7 (.assign (.tmp 53)) 82]))
 (.rgn [] [LL 42 (.move (.tmp 8)) 3,
 LL 43 (.binOp .add 3 (.tmp 42) (.const (.int .i64 1)) 3) 3,
 LL 8 (.assign (.tmp 43)) 3]))))))
 (.seq (.rgn [54] [LL 55 (.move (.tmp 1)) 25,
 LL 56 (.call { callee := (.builtin .len), args := #[(.tmp 55)], argTypes := #[25] }) 3,
 LL 57 (.move (.tmp 7)) 82,
 LL 58 (.call { callee := (.value (.func 247)), args := #[(.tmp 56), (.tmp 57)], argTypes := #[3, 82] }) 129,
 LL 54 (.move (.tmp 58)) 129,
 LL 59 (.extract (.tmp 54) 0) 128,
 LL 60 (.extract (.tmp 54) 1) 4,
 LL 9 (.alloc 128) 0,
 ⟨none, (.store 128 (.tmp 9) (.tmp 59)), 0, none⟩,
 LL 10 (.assign (.tmp 60)) 4])
 (.seq (.rgn [61] [LL 61 (.load 128 (.tmp 9)) 128,
 LL 62 (.move (.tmp 10)) 4,
 ⟨none, (.store 128 (.tmp 4) (.tmp 61)), 0, none⟩,
 LL 5 (.assign (.tmp 62)) 4])
 .ret)))))))
theorem lit245 : Lit Try.prog 245 63 [2, 4, 9] [.cell 4 128, .tmp 5] c245 := ⟨⟨Try.f245, _, Try.func245, rfl, by kernel_rfl, rfl, rfl, by kernel_rfl, by kernel_rfl⟩, by decide, by kernel_rfl⟩
/-- spec.AtomVariables -/
def c246 : LC :=
  (.seq (.rgn [] [LL 1 (.box 195 (.tmp 0)) 0,
 LL 2 (.assign (.const (.slice none 0 0))) 25])
 (.seq (.rgn [] [LL 5 (.buildSlice 25 0 #[]) 25,
 LL 3 (.assign (.tmp 5)) 25])
 (.seq (.seq (.rgn [] [LL 4 (.assign (.const (.int .i64 0))) 3])
 (.blk 0
 (.loop []
 (.seq (.seq (.rgn [] [LL 6 (.move (.tmp 4)) 3,
 LL 7 (.binOp .lss 3 (.tmp 6) (.const (.int .i64 5)) 3) 4])
 (.cond (.tmp 7)
 .skip
 (.exit 0)))
 (.seq (.blk 1
 (.seq (.rgn [] [LL 10 (.load 195 (.tmp 1)) 195,
 LL 11 (.move (.tmp 4)) 3,
 LL 12 (.call { callee := (.value (.func 157)), args := #[(.tmp 10), (.tmp 11)], argTypes := #[195, 3] }) 4])
 (.cond (.tmp 12)
 (.rgn [13] [LL 13 (.move (.tmp 3)) 25,
 LL 14 (.move (.tmp 4)) 3,
 LL 15 (.buildSlice 25 1 #[(0, (.tmp 14))]) 25,
 LL 16 (.call { callee := (.builtin .append), args := #[(.tmp 13), (.tmp 15)], argTypes := #[25, 25] }) 25,
 LL 3 (.assign (.tmp 16)) 25])
 .skip)))
 (.rgn [] [LL 8 (.move (.tmp 4)) 3,
 LL 9 (.binOp .add 3 (.tmp 8) (.const (.int .i64 1)) 3) 3,
 LL 4 (.assign (.tmp 9)) 3]))))))
 (.seq (.rgn [17] [LL 17 (.move (.tmp 3)) 25,
 LL 2 (.assign (.tmp 17)) 25])
 .ret))))
theorem lit246 : Lit Try.prog 246 18 [1] [.tmp 2] c246 := ⟨⟨Try.f246, _, Try.func246, rfl, by kernel_rfl, rfl, rfl, by kernel_rfl, by kernel_rfl⟩, by decide, by kernel_rfl⟩
/-- spec.NewRelation -/
def c247 : LC :=
  (.seq (.rgn [] [LL 4 (.alloc 128) 0,
 LL 5 (.assign (.const (.bool false))) 4])
 (.seq (.seq (.rgn [] [LL 6 (.assign (.const (.int .i64 0))) 3])
 (.blk 0
 (.loop []
 (.seq (.seq (.rgn [] [LL 8 (.move (.tmp 6)) 3,
 LL 9 (.move (.tmp 1)) 82,
 LL 10 (.call { callee := (.builtin .len), args := #[(.tmp 9)], argTypes := #[82] }) 3,
 LL 11 (.binOp .lss 3 (.tmp 8) (.tmp 10) 3) 4])
 (.cond (.tmp 11)
 .skip
 (.exit 0)))
 (.seq (.blk 1
 (.seq (.rgn [] [LL 14 (.move (.tmp 1)) 82,
 LL 15 (.move (.tmp 6)) 3,
 LL 16 (.indexAddr 82 (.tmp 14) (.tmp 15)) 0,
 LL 17 (.load 25 (.tmp 16)) 25,
 LL 18 (.call { callee := (.builtin .len), args := #[(.tmp 17)], argTypes := #[25] }) 3,
 LL 19 (.move (.tmp 0)) 3,
 LL 20 (.binOp .neq 3 (.tmp 18) (.tmp 19) 3) 4,
 LL 21 (.move (.tmp 20)) 4,
 ⟨some 22, (.move (.tmp 1)), 82, some (some 21, false)⟩,
 ⟨some 23, (.move (.tmp 6)), 3, some (some 21, false)⟩,
 ⟨some 24, (.indexAddr 82 (.tmp 22) (.tmp 23)), 0, some (some 21, false)⟩,
 ⟨some 25, (.load 25 (.tmp 24)), 25, some (some 21, false)⟩,
 ⟨some 26, (.call { callee := (.value (.func 242)), args := #[(.tmp 25)], argTypes := #[25] }), 4, some (some 21, false)⟩,
 ⟨some 27, (.unOp .not 4 (.tmp 26)), 4, some (some 21, false)⟩,
 LL 28 (.pick (.tmp 21) (.const (.bool true)) (.tmp 27)) 4])
 (.cond (.tmp 28)
 (.seq (.rgn [] [LL 29 (.build 128 #[]) 128,
 ⟨none, (.store 128 (.tmp 4) (.tmp 29)), 0, none⟩,
 LL 5 (.assign (.const (.bool false))) 4])
 .ret)
 .skip)))
 (.rgn [] [LL 12 (.move (.tmp 6)) 3,
 LL 13 (.binOp .add 3 (.tmp 12) (.const (.int .i64 1)) 3) 3,
 LL 6 (.assign (.tmp 13)) 3]))))))
 (.seq (.rgn [] [LL 30 (.move (.tmp 0)) 3,
 LL 31 (.move (.tmp 1)) 82,
 LL 32 (.call { callee := (.value (.func 259)), args := #[(.tmp 31)], argTypes := #[82] }) 82,
 LL 33 (.build 128 #[(0, (.tmp 30)), (1, (.tmp 32))]) 128,
 LL 34 (.call { callee := (.value (.func 172)), args := #[(.tmp 33)], argTypes := #[128] }) 128,
 LL 7 (.alloc 128) 0,
 ⟨none, (.store 128 (.tmp 7) (.tmp 34)), 0, none⟩])
 (.seq (.seq (.rgn [] [LL 35 (.load 128 (.tmp 7)) 128,
 LL 36 (.call { callee := (.value (.func 217)), args := #[(.tmp 35)], argTypes := #[128] }) 4,
 LL 37 (.unOp .not 4 (.tmp 36)) 4])
 (.cond (.tmp 37)
 (.seq (.rgn [] [LL 38 (.build 128 #[]) 128,
 ⟨none, (.store 128 (.tmp 4) (.tmp 38)), 0, none⟩,
 LL 5 (.assign (.const (.bool false))) 4])
 .ret)
 .skip))
 (.seq (.rgn [39] [LL 39 (.load 128 (.tmp 7)) 128,
 ⟨none, (.store 128 (.tmp 4) (.tmp 39)), 0, none⟩,
 LL 5 (.assign (.const (.bool true))) 4])
 .ret)))))
theorem lit247 : Lit Try.prog 247 40 [4, 7] [.cell 4 128, .tmp 5] c247 := ⟨⟨Try.f247, _, Try.func247, rfl, by kernel_rfl, rfl, rfl, by kernel_rfl, by kernel_rfl⟩, by decide, by kernel_rfl⟩
/-- spec.TriePrefixRange -/
def c248 : LC :=
  (.seq (.rgn [] [LL 2 (.box 197 (.tmp 0)) 0,
 LL 4 (.assign (.const (.int .i64 0))) 3,
 LL 5 (.assign (.const (.int .i64 0))) 3])
 (.seq (.seq (.rgn [] [LL 8 (.load 197 (.tmp 2)) 197,
 LL 9 (.call { callee := (.value (.func 260)), args := #[(.tmp 8)], argTypes := #[197] }) 4,
 LL 10 (.unOp .not 4 (.tmp 9)) 4,
 LL 11 (.move (.tmp 10)) 4,
 ⟨some 12, (.move (.tmp 1)), 25, some (some 11, false)⟩,
 ⟨some 13, (.call { callee := (.builtin .len), args := #[(.tmp 12)], argTypes := #[25] }), 3, some (some 11, false)⟩,
 ⟨some 14, (.fieldAddr 197 (.tmp 2) 0), 0, some (some 11, false)⟩,
 ⟨some 15, (.load 3 (.tmp 14)), 3, some (some 11, false)⟩,
 ⟨some 16, (.binOp .gtr 3 (.tmp 13) (.tmp 15) 3), 4, some (some 11, false)⟩,
 LL 17 (.pick (.tmp 11) (.const (.bool true)) (.tmp 16)) 4])
 (.cond (.tmp 17)
 (.seq (.rgn [] [LL 4 (.assign (.const (.int .i64 0))) 3,
 LL 5 (.assign (.const (.int .i64 0))) 3])
 .ret)
 .skip))
 (.seq (.rgn [] [LL 6 (.assign (.const (.int .i64 0))) 3])
 (.seq (.blk 0
 (.loop []
 (.seq (.seq (.rgn [] [LL 18 (.move (.tmp 6)) 3,
 LL 19 (.fieldAddr 197 (.tmp 2) 1) 0,
 LL 20 (.load 82 (.tmp 19)) 82,
 LL 21 (.call { callee := (.builtin .len), args := #[(.tmp 20)], argTypes := #[82] }) 3,
 LL 22 (.binOp .lss 3 (.tmp 18) (.tmp 21) 3) 4,
 LL 23 (.move (.tmp 22)) 4,
 ⟨some 24, (.fieldAddr 197 (.tmp 2) 1), 0, some (some 23, true)⟩,
 ⟨some 25, (.load 82 (.tmp 24)), 82, some (some 23, true)⟩,
 ⟨some 26, (.move (.tmp 6)), 3, some (some 23, true)⟩,
 ⟨some 27, (.indexAddr 82 (.tmp 25) (.tmp 26)), 0, some (some 23, true)⟩,
 ⟨some 28, (.load 25 (.tmp 27)), 25, some (some 23, true)⟩,
 ⟨some 29, (.move (.tmp 1)), 25, some (some 23, true)⟩,
 ⟨some 30, (.call { callee := (.builtin .len), args := #[(.tmp 29)], argTypes := #[25] }), 3, some (some 23, true)⟩,
 ⟨some 31, (.slice 25 (.tmp 28) none (some (.tmp 30)) none), 25, some (some 23, true)⟩,
 ⟨some 32, (.move (.tmp 1)), 25, some (some 23, true)⟩,
 ⟨some 33, (.call { callee := (.value (.func 75)), args := #[(.tmp 31), (.tmp 32)], argTypes := #[25, 25] }), 3, some (some 23, true)⟩,
 ⟨some 34, (.binOp .lss 3 (.tmp 33) (.const (.int .i64 0)) 3), 4, some (some 23, true)⟩,
 LL 35 (.pick (.tmp 23) (.tmp 34) (.const (.bool false))) 4])
 (.cond (.tmp 35)
 .skip
 (.exit 0)))
 (.blk 1
 (.rgn [] [LL 36 (.move (.tmp 6)) 3,
 LL 37 (.binOp .add 3 (.tmp 36) (.const (.int .i64 1)) 3) 3,
 LL 6 (.assign (.tmp 37)) 3])))))
 (.seq (.rgn [] [LL 38 (.move (.tmp 6)) 3,
 LL 7 (.assign (.tmp 38)) 3])
 (.seq (.blk 2
 (.loop []
 (.seq (.seq (.rgn [] [LL 39 (.move (.tmp 7)) 3,
 LL 40 (.fieldAddr 197 (.tmp 2) 1) 0,
 LL 41 (.load 82 (.tmp 40)) 82,
 LL 42 (.call { callee := (.builtin .len), args := #[(.tmp 41)], argTypes := #[82] }) 3,
 LL 43 (.binOp .lss 3 (.tmp 39) (.tmp 42) 3) 4,
 LL 44 (.move (.tmp 43)) 4,
 ⟨some 45, (.fieldAddr 197 (.tmp 2) 1), 0, some (some 44, true)⟩,
 ⟨some 46, (.load 82 (.tmp 45)), 82, some (some 44, true)⟩,
 ⟨some 47, (.move (.tmp 7)), 3, some (some 44, true)⟩,
 ⟨some 48, (.indexAddr 82 (.tmp 46) (.tmp 47)), 0, some (some 44, true)⟩,
 ⟨some 49, (.load 25 (.tmp 48)), 25, some (some 44, true)⟩,
 ⟨some 50, (.move (.tmp 1)), 25, some (some 44, true)⟩,
 ⟨some 51, (.call { callee := (.builtin .len), args := #[(.tmp 50)], argTypes := #[25] }), 3, some (some 44, true)⟩,
 ⟨some 52, (.slice 25 (.tmp 49) none (some (.tmp 51)) none), 25, some (some 44, true)⟩,
 ⟨some 53, (.move (.tmp 1)), 25, some (some 44, true)⟩,
 ⟨some 54, (.call { callee := (.value (.func 75)), args := #[(.tmp 52), (.tmp 53)], argTypes := #[25, 25] }), 3, some (some 44, true)⟩,
 ⟨some 55, (.binOp .eql 3 (.tmp 54) (.const (.int .i64 0)) 3), 4, some (some 44, true)⟩,
 LL 56 (.pick (.tmp 44) (.tmp 55) (.const (.bool false))) 4])
 (.cond (.tmp 56)
 .skip
 (.exit 2)))
 (.blk 3
 (.rgn [] [LL 57 (.move (.tmp 7)) 3,
 LL 58 (.binOp .add 3 (.tmp 57) (.const (.int .i64 1)) 3) 3,
 LL 7 (.assign (.tmp 58)) 3])))))
 (.seq (.rgn [] [LL 59 (.move (.tmp 6)) 3,
 LL 60 (.move (.tmp 7)) 3,
 LL 4 (.assign (.tmp 59)) 3,
 LL 5 (.assign (.tmp 60)) 3])
 .ret)))))))
theorem lit248 : Lit Try.prog 248 61 [2] [.tmp 4, .tmp 5] c248 := ⟨⟨Try.f248, _, Try.func248, rfl, by kernel_rfl, rfl, rfl, by kernel_rfl, by kernel_rfl⟩, by decide, by kernel_rfl⟩
/-- impl.IsPermutation -/
def c249 : LC :=
  (.seq (.rgn [] [LL 2 (.assign (.const (.bool false))) 4])
 (.seq (.rgn [] [LL 3 (.move (.tmp 0)) 25,
 LL 4 (.call { callee := (.builtin .len), args := #[(.tmp 3)], argTypes := #[25] }) 3,
 LL 5 (.binOp .leq 3 (.tmp 4) (.const (.int .i64 5)) 3) 4,
 LL 6 (.move (.tmp 5)) 4,
 ⟨some 7, (.move (.tmp 0)), 25, some (some 6, true)⟩,
 ⟨some 8, (.move (.tmp 0)), 25, some (some 6, true)⟩,
 ⟨some 9, (.call { callee := (.builtin .len), args := #[(.tmp 8)], argTypes := #[25] }), 3, some (some 6, true)⟩,
 ⟨some 10, (.call { callee := (.value (.func 213)), args := #[(.tmp 7), (.tmp 9)], argTypes := #[25, 3] }), 4, some (some 6, true)⟩,
 LL 11 (.pick (.tmp 6) (.tmp 10) (.const (.bool false))) 4,
 LL 2 (.assign (.tmp 11)) 4])
 .ret))
theorem lit249 : Lit Try.prog 249 12 [] [.tmp 2] c249 := ⟨⟨Try.f249, _, Try.func249, rfl, by kernel_rfl, rfl, rfl, by kernel_rfl, by kernel_rfl⟩, by decide, by kernel_rfl⟩
/-- impl.Project -/
def c250 : LC :=
  (.seq (.rgn [] [LL 2 (.box 128 (.tmp 0)) 0,
 LL 4 (.alloc 128) 0,
 LL 5 (.assign (.const (.bool false))) 4])
 (.seq (.seq (.rgn [] [LL 9 (.load 128 (.tmp 2)) 128,
 LL 10 (.call { callee := (.value (.func 219)), args := #[(.tmp 9)], argTypes := #[128] }) 4,
 LL 11 (.unOp .not 4 (.tmp 10)) 4,
 LL 12 (.move (.tmp 11)) 4,
 ⟨some 13, (.fieldAddr 128 (.tmp 2) 0), 0, some (some 12, false)⟩,
 ⟨some 14, (.load 3 (.tmp 13)), 3, some (some 12, false)⟩,
 ⟨some 15, (.move (.tmp 1)), 25, some (some 12, false)⟩,
 ⟨some 16, (.call { callee := (.value (.func 251)), args := #[(.tmp 14), (.tmp 15)], argTypes := #[3, 25] }), 4, some (some 12, false)⟩,
 ⟨some 17, (.unOp .not 4 (.tmp 16)), 4, some (some 12, false)⟩,
 LL 18 (.pick (.tmp 12) (.const (.bool true)) (.tmp 17)) 4])
 (.cond (.tmp 18)
 (.seq (.rgn [] [LL 19 (.build 128 #[]) 128,
 ⟨none, (.store 128 (.tmp 4) (.tmp 19)), 0, none⟩,
 LL 5 (.assign (.const (.bool false))) 4])
 .ret)
 .skip))
 (.seq (.rgn [] [LL 6 (.assign (.const (.slice none 0 0))) 82])
 (.seq (.seq (.rgn [] [LL 20 (.fieldAddr 128 (.tmp 2) 1) 0,
 LL 21 (.load 82 (.tmp 20)) 82,
 LL 22 (.call { callee := (.builtin .len), args := #[(.tmp 21)], argTypes := #[82] }) 3,
 LL 23 (.move (.const (.int .i64 0))) 3])
 (.blk 0
 (.loop []
 (.seq (.rgn [] [LL 24 (.binOp .lss 3 (.tmp 23) (.tmp 22) 3) 0])
 (.seq (.cond (.tmp 24)
 .skip
 (.exit 0))
 (.seq (.blk 1
 (.seq (.rgn [26] [LL 25 (.indexAddr 82 (.tmp 21) (.tmp 23)) 0,
 LL 26 (.load 25 (.tmp 25)) 25,
 LL 8 (.assign (.tmp 26)) 25])
 (.rgn [27] [LL 27 (.move (.tmp 6)) 82,
 LL 28 (.move (.tmp 8)) 25,
 LL 29 (.move (.tmp 1)) 25,
 LL 30 (.call { callee := (.value (.func 81)), args := #[(.tmp 28), (.tmp 29)], argTypes := #[25, 25] }) 25,
 LL 31 (.buildSlice 82 1 #[(0, (.tmp 30))]) 82,
 LL 32 (.call { callee := (.builtin .append), args := #[(.tmp 27), (.tmp 31)], argTypes := #[82, 82] }) 82,
 LL 6 (.assign (.tmp 32)) 82])))
 (.rgn [] [LL 33 (.binOp .add 3 (.tmp 23) (.const (.int .i64 1)) 3) 3,
 LL 23 (.move (.tmp 33)) 3])))))))
 (.seq (.rgn [] [LL 34 (.move (.tmp 1)) 25,
 LL 35 (.call { callee := (.builtin .len), args := #[(.tmp 34)], argTypes := #[25] }) 3,
 LL 36 (.move (.tmp 6)) 82,
 LL 37 (.call { callee := (.value (.func 261)), args := #[(.tmp 35), (.tmp 36)], argTypes := #[3, 82] }) 129,
 LL 38 (.extract (.tmp 37) 0) 128,
 LL 39 (.extract (.tmp 37) 1) 4,
 ⟨none, (.store 128 (.tmp 4) (.tmp 38)), 0, none⟩,
 LL 5 (.assign (.tmp 39)) 4])
 .ret)))))
theorem lit250 : Lit Try.prog 250 40 [2, 4] [.cell 4 128, .tmp 5] c250 := ⟨⟨Try.f250, _, Try.func250, rfl, by kernel_rfl, rfl, rfl, by kernel_rfl, by kernel_rfl⟩, by decide, by kernel_rfl⟩
/-- impl.columnsFit -/
def c251 : LC :=
  (.seq (.rgn [] [LL 4 (.assign (.const (.bool false))) 4])
 (.seq (.seq (.rgn [] [LL 7 (.move (.tmp 1)) 25,
 LL 8 (.call { callee := (.builtin .len), args := #[(.tmp 7)], argTypes := #[25] }) 3,
 LL 9 (.binOp .gtr 3 (.tmp 8) (.const (.int .i64 5)) 3) 4])
 (.cond (.tmp 9)
 (.seq (.rgn [] [LL 4 (.assign (.const (.bool false))) 4])
 .ret)
 .skip))
 (.seq (.seq (.rgn [] [LL 10 (.move (.tmp 1)) 25,
 LL 11 (.call { callee := (.builtin .len), args := #[(.tmp 10)], argTypes := #[25] }) 3,
 LL 12 (.move (.const (.int .i64 0))) 3])
 (.blk 0
 (.loop []
 (.seq (.rgn [] [LL 13 (.binOp .lss 3 (.tmp 12) (.tmp 11) 3) 0])
 (.seq (.cond (.tmp 13)
 .skip
 (.exit 0))
 (.seq (.blk 1
 (.seq (.rgn [] [LL 14 (.indexAddr 25 (.tmp 10) (.tmp 12)) 0,
 LL 15 (.load 3 (.tmp 14)) 3,
 LL 6 (.assign (.tmp 15)) 3])
 (.seq (.rgn [] [LL 16 (.move (.tmp 6)) 3,
 LL 17 (.move (.tmp 0)) 3,
 LL 18 (.binOp .sub 3 (.tmp 17) (.const (.int .i64 1)) 3) 3,
 LL 19 (.call { callee := (.value (.func 90)), args := #[(.tmp 16), (.const (.int .i64 0)), (.tmp 18)], argTypes := #[3, 3, 3] }) 4,
 LL 20 (.unOp .not 4 (.tmp 19)) 4])
 (.cond (.tmp 20)
 (.seq (.rgn [] [LL 4 (.assign (.const (.bool false))) 4])
 .ret)
 .skip))))
 (.rgn [] [LL 21 (.binOp .add 3 (.tmp 12) (.const (.int .i64 1)) 3) 3,
 LL 12 (.move (.tmp 21)) 3])))))))
 (.seq (.rgn [] [LL 4 (.assign (.const (.bool true))) 4])
 .ret))))
theorem lit251 : Lit Try.prog 251 22 [] [.tmp 4] c251 := ⟨⟨Try.f251, _, Try.func251, rfl, by kernel_rfl, rfl, rfl, by kernel_rfl, by kernel_rfl⟩, by decide, by kernel_rfl⟩
/-- impl.indexOf -/
def c252 : LC :=
  (.seq (.rgn [] [LL 4 (.assign (.const (.int .i64 0))) 3])
 (.seq (.seq (.rgn [] [LL 7 (.move (.tmp 0)) 25,
 LL 8 (.call { callee := (.builtin .len), args := #[(.tmp 7)], argTypes := #[25] }) 3,
 LL 9 (.move (.const (.int .i64 0))) 3])
 (.blk 0
 (.loop []
 (.seq (.rgn [] [LL 10 (.binOp .lss 3 (.tmp 9) (.tmp 8) 3) 0])
 (.seq (.cond (.tmp 10)
 .skip
 (.exit 0))
 (.seq (.blk 1
 (.seq (.rgn [] [LL 11 (.move (.tmp 9)) 3,
 LL 12 (.indexAddr 25 (.tmp 7) (.tmp 9)) 0,
 LL 13 (.load 3 (.tmp 12)) 3,
 LL 5 (.assign (.tmp 11)) 3,
 LL 6 (.assign (.tmp 13)) 3])
 (.seq (.rgn [] [LL 14 (.move (.tmp 6)) 3,
 LL 15 (.move (.tmp 1)) 3,
 LL 16 (.binOp .eql 3 (.tmp 14) (.tmp 15) 3) 4])
 (.cond (.tmp 16)
 (.seq (.rgn [] [LL 17 (.move (.tmp 5)) 3,
 LL 4 (.assign (.tmp 17)) 3])
 .ret)
 .skip))))
 (.rgn [] [LL 18 (.binOp .add 3 (.tmp 9) (.const (.int .i64 1)) 3) 3,
 LL 9 (.move (.tmp 18)) 3])))))))
 (.seq (.rgn [] [LL 4 (.assign (.const (.int .i64 (-1)))) 3])
 .ret)))
theorem lit252 : Lit Try.prog 252 19 [] [.tmp 4] c252 := ⟨⟨Try.f252, _, Try.func252, rfl, by kernel_rfl, rfl, rfl, by kernel_rfl, by kernel_rfl⟩, by decide, by kernel_rfl⟩
/-- impl.sorted -/
def c253 : LC :=
  (.seq (.rgn [] [LL 2 (.assign (.const (.slice none 0 0))) 82])
 (.seq (.seq (.rgn [] [LL 8 (.move (.tmp 0)) 82,
 LL 9 (.call { callee := (.builtin .len), args := #[(.tmp 8)], argTypes := #[82] }) 3,
 LL 10 (.binOp .lss 3 (.tmp 9) (.const (.int .i64 2)) 3) 4])
 (.cond (.tmp 10)
 (.seq (.rgn [] [LL 11 (.move (.tmp 0)) 82,
 LL 12 (.call { callee := (.value (.func 237)), args := #[(.tmp 11)], argTypes := #[82] }) 82,
 LL 2 (.assign (.tmp 12)) 82])
 .ret)
 .skip))
 (.seq (.rgn [] [LL 13 (.move (.tmp 0)) 82,
 LL 14 (.call { callee := (.builtin .len), args := #[(.tmp 13)], argTypes := #[82] }) 3,
 LL 15 (.binOp .quo 3 (.tmp 14) (.const (.int .i64 2)) 3) 3,
 LL 3 (.assign (.tmp 15)) 3])
 (.seq (.drw [] [([0], [16]), ([3], [17]), ([16, 17], [18]), ([18], [19]), ([0], [20]), ([3], [21]), ([20, 21], [22]), ([22], [23]), ([19], [4, 19]), ([23], [5, 23])] [[], [], [0, 1], [2], [], [], [4, 5], [6, 3], [3, 7, 0, 1, 2, 3], [7, 8, 0, 1, 2, 3, 4, 5, 6, 7, 8]] [LL 16 (.move (.tmp 0)) 82,
 LL 17 (.move (.tmp 3)) 3,
 LL 18 (.slice 82 (.tmp 16) none (some (.tmp 17)) none) 82,
 LL 19 (.call { callee := (.value (.func 253)), args := #[(.tmp 18)], argTypes := #[82] }) 82,
 LL 20 (.move (.tmp 0)) 82,
 LL 21 (.move (.tmp 3)) 3,
 LL 22 (.slice 82 (.tmp 20) (some (.tmp 21)) none none) 82,
 LL 23 (.call { callee := (.value (.func 253)), args := #[(.tmp 22)], argTypes := #[82] }) 82,
 LL 4 (.assign (.tmp 19)) 82,
 LL 5 (.assign (.tmp 23)) 82])
 (.seq (.rgn [] [LL 6 (.assign (.const (.slice none 0 0))) 82])
 (.seq (.blk 0
 (.loop []
 (.seq (.seq (.rgn [] [LL 24 (.move (.tmp 4)) 82,
 LL 25 (.call { callee := (.builtin .len), args := #[(.tmp 24)], argTypes := #[82] }) 3,
 LL 26 (.binOp .gtr 3 (.tmp 25) (.const (.int .i64 0)) 3) 4,
 LL 27 (.move (.tmp 26)) 4,
 ⟨some 28, (.move (.tmp 5)), 82, some (some 27, false)⟩,
 ⟨some 29, (.call { callee := (.builtin .len), args := #[(.tmp 28)], argTypes := #[82] }), 3, some (some 27, false)⟩,
 ⟨some 30, (.binOp .gtr 3 (.tmp 29) (.const (.int .i64 0)) 3), 4, some (some 27, false)⟩,
 LL 31 (.pick (.tmp 27) (.const (.bool true)) (.tmp 30)) 4])
 (.cond (.tmp 31)
 .skip
 (.exit 0)))
 (.blk 1
 (.seq (.rgn [] [LL 7 (.assign (.const (.int .i64 (-1)))) 3])
 (.seq (.seq (.rgn [] [LL 32 (.move (.tmp 4)) 82,
 LL 33 (.call { callee := (.builtin .len), args := #[(.tmp 32)], argTypes := #[82] }) 3,
 LL 34 (.binOp .eql 3 (.tmp 33) (.const (.int .i64 0)) 3) 4])
 (.cond (.tmp 34)
 (.rgn [] [LL 7 (.assign (.const (.int .i64 1))) 3])
 (.seq (.rgn [] [LL 35 (.move (.tmp 5)) 82,
 LL 36 (.call { callee := (.builtin .len), args := #[(.tmp 35)], argTypes := #[82] }) 3,
 LL 37 (.binOp .gtr 3 (.tmp 36) (.const (.int .i64 0)) 3) 4])
 (.cond (.tmp 37)
 (.drw [] [([4], [38]), ([38], [39]), ([39], [40]), ([5], [41]), ([41], [42]), ([42], [43]), ([40, 43], [44]), ([44], [7, 44])] [[], [0], [1], [], [3], [4], [2, 5], [6, 6, 0, 1, 2, 3, 4, 5, 6]] [LL 38 (.move (.tmp 4)) 82,
 LL 39 (.indexAddr 82 (.tmp 38) (.const (.int .i64 0))) 0,
 LL 40 (.load 25 (.tmp 39)) 25,
 LL 41 (.move (.tmp 5)) 82,
 LL 42 (.indexAddr 82 (.tmp 41) (.const (.int .i64 0))) 0,
 LL 43 (.load 25 (.tmp 42)) 25,
 LL 44 (.call { callee := (.value (.func 255)), args := #[(.tmp 40), (.tmp 43)], argTypes := #[25, 25] }) 3,
 LL 7 (.assign (.tmp 44)) 3])
 .skip))))
 (.seq (.seq (.rgn [] [LL 45 (.move (.tmp 7)) 3,
 LL 46 (.binOp .leq 3 (.tmp 45) (.const (.int .i64 0)) 3) 4])
 (.cond (.tmp 46)
 (.seq (.rgn [47, 50] [LL 47 (.move (.tmp 6)) 82,
 LL 48 (.move (.tmp 4)) 82,
 LL 49 (.indexAddr 82 (.tmp 48) (.const (.int .i64 0))) 0,
 LL 50 (.load 25 (.tmp 49)) 25,
 LL 51 (.buildSlice 82 1 #[(0, (.tmp 50))]) 82,
 LL 52 (.call { callee := (.builtin .append), args := #[(.tmp 47), (.tmp 51)], argTypes := #[82, 82] }) 82,
 LL 6 (.assign (.tmp 52)) 82])
 (.rgn [] [LL 53 (.move (.tmp 4)) 82,
 LL 54 (.slice 82 (.tmp 53) (some (.const (.int .i64 1))) none none) 82,
 LL 4 (.assign (.tmp 54)) 82]))
 .skip))
 (.seq (.rgn [] [LL 55 (.move (.tmp 7)) 3,
 LL 56 (.binOp .geq 3 (.tmp 55) (.const (.int .i64 0)) 3) 4])
 (.cond (.tmp 56)
 (.seq (.seq (.rgn [] [LL 57 (.move (.tmp 7)) 3,
 LL 58 (.binOp .gtr 3 (.tmp 57) (.const (.int .i64 0)) 3) 4])
 (.cond (.tmp 58)
 (.rgn [59, 62] [LL 59 (.move (.tmp 6)) 82,
 LL 60 (.move (.tmp 5)) 82,
 LL 61 (.indexAddr 82 (.tmp 60) (.const (.int .i64 0))) 0,
 LL 62 (.load 25 (.tmp 61)) 25,
 LL 63 (.buildSlice 82 1 #[(0, (.tmp 62))]) 82,
 LL 64 (.call { callee := (.builtin .append), args := #[(.tmp 59), (.tmp 63)], argTypes := #[82, 82] }) 82,
 LL 6 (.assign (.tmp 64)) 82])
 .skip))
 (.rgn [] [LL 65 (.move (.tmp 5)) 82,
 LL 66 (.slice 82 (.tmp 65) (some (.const (.int .i64 1))) none none) 82,
 LL 5 (.assign (.tmp 66)) 82]))
 .skip)))))))))
 (.seq (.rgn [67] [LL 67 (.move (.tmp 6)) 82,
 LL 2 (.assign (.tmp 67)) 82])
 .ret)))))))
theorem lit253 : Lit Try.prog 253 68 [] [.tmp 2] c253 := ⟨⟨Try.f253, _, Try.func253, rfl, by kernel_rfl, rfl, rfl, by kernel_rfl, by kernel_rfl⟩, by decide, by kernel_rfl⟩
/-- impl.asRelation -/
def c254 : LC :=
  (.seq (.rgn [] [LL 1 (.box 197 (.tmp 0)) 0,
 LL 2 (.alloc 128) 0])
 (.seq (.rgn [] [LL 3 (.fieldAddr 197 (.tmp 1) 0) 0,
 LL 4 (.load 3 (.tmp 3)) 3,
 LL 5 (.fieldAddr 197 (.tmp 1) 1) 0,
 LL 6 (.load 82 (.tmp 5)) 82,
 LL 7 (.build 128 #[(0, (.tmp 4)), (1, (.tmp 6))]) 128,
 ⟨none, (.store 128 (.tmp 2) (.tmp 7)), 0, none⟩])
 .ret))
theorem lit254 : Lit Try.prog 254 8 [1, 2] [.cell 2 128] c254 := ⟨⟨Try.f254, _, Try.func254, rfl, by kernel_rfl, rfl, rfl, by kernel_rfl, by kernel_rfl⟩, by decide, by kernel_rfl⟩
/-- impl.CompareRows -/
def c255 : LC :=
  (.seq (.rgn [] [LL 4 (.assign (.const (.int .i64 0))) 3])
 (.seq (.seq (.rgn [] [LL 5 (.assign (.const (.int .i64 0))) 3])
 (.blk 0
 (.loop []
 (.seq (.seq (.rgn [] [LL 6 (.move (.tmp 5)) 3,
 LL 7 (.move (.tmp 0)) 25,
 LL 8 (.call { callee := (.builtin .len), args := #[(.tmp 7)], argTypes := #[25] }) 3,
 LL 9 (.binOp .lss 3 (.tmp 6) (.tmp 8) 3) 4,
 LL 10 (.move (.tmp 9)) 4,
 ⟨some 11, (.move (.tmp 5)), 3, some (some 10, true)⟩,
 ⟨some 12, (.move (.tmp 1)), 25, some (some 10, true)⟩,
 ⟨some 13, (.call { callee := (.builtin .len), args := #[(.tmp 12)], argTypes := #[25] }), 3, some (some 10, true)⟩,
 ⟨some 14, (.binOp .lss 3 (.tmp 11) (.tmp 13) 3), 4, some (some 10, true)⟩,
 LL 15 (.pick (.tmp 10) (.tmp 14) (.const (.bool false))) 4])
 (.cond (.tmp 15)
 .skip
 (.exit 0)))
 (.seq (.blk 1
 (.seq (.drw [] [([0], [18]), ([5], [19]), ([18, 19], [20]), ([20], [21]), ([1], [22]), ([5], [23]), ([22, 23], [24]), ([24], [25]), ([21, 25], [26])] [[], [], [0, 1], [2], [], [], [4, 5], [6], [3, 7]] [LL 18 (.move (.tmp 0)) 25,
 LL 19 (.move (.tmp 5)) 3,
 LL 20 (.indexAddr 25 (.tmp 18) (.tmp 19)) 0,
 LL 21 (.load 3 (.tmp 20)) 3,
 LL 22 (.move (.tmp 1)) 25,
 LL 23 (.move (.tmp 5)) 3,
 LL 24 (.indexAddr 25 (.tmp 22) (.tmp 23)) 0,
 LL 25 (.load 3 (.tmp 24)) 3,
 LL 26 (.binOp .neq 3 (.tmp 21) (.tmp 25) 3) 4])
 (.cond (.tmp 26)
 (.seq (.drw [] [([0], [27]), ([5], [28]), ([27, 28], [29]), ([29], [30]), ([1], [31]), ([5], [32]), ([31, 32], [33]), ([33], [34]), ([30, 34], [35]), ([35], [4, 35])] [[], [], [0, 1], [2], [], [], [4, 5], [6], [3, 7], [8, 8, 0, 1, 2, 3, 4, 5, 6, 7, 8]] [LL 27 (.move (.tmp 0)) 25,
 LL 28 (.move (.tmp 5)) 3,
 LL 29 (.indexAddr 25 (.tmp 27) (.tmp 28)) 0,
 LL 30 (.load 3 (.tmp 29)) 3,
 LL 31 (.move (.tmp 1)) 25,
 LL 32 (.move (.tmp 5)) 3,
 LL 33 (.indexAddr 25 (.tmp 31) (.tmp 32)) 0,
 LL 34 (.load 3 (.tmp 33)) 3,
 LL 35 (.call { callee := (.value (.func 262)), args := #[(.tmp 30), (.tmp 34)], argTypes := #[3, 3] }) 3,
 LL 4 (.assign (.tmp 35)) 3])
 .ret)
 .skip)))
 (.rgn [] [LL 16 (.move (.tmp 5)) 3,
 LL 17 (.binOp .add 3 (.tmp 16) (.const (.int .i64 1)) 3) 3,
 LL 5 (.assign (.tmp 17)) 3]))))))
 (.seq (.rgn [] [LL 36 (.move (.tmp 0)) 25,
 LL 37 (.call { callee := (.builtin .len), args := #[(.tmp 36)], argTypes := #[25] }) 3,
 LL 38 (.move (.tmp 1)) 25,
 LL 39 (.call { callee := (.builtin .len), args := #[(.tmp 38)], argTypes := #[25] }) 3,
 LL 40 (.call { callee := (.value (.func 262)), args := #[(.tmp 37), (.tmp 39)], argTypes := #[3, 3] }) 3,
 LL 4 (.assign (.tmp 40)) 3])
 .ret)))
theorem lit255 : Lit Try.prog 255 41 [] [.tmp 4] c255 := ⟨⟨Try.f255, _, Try.func255, rfl, by kernel_rfl, rfl, rfl, by kernel_rfl, by kernel_rfl⟩, by decide, by kernel_rfl⟩
/-- impl.AreValidValues -/
def c258 : LC :=
  (.seq (.rgn [] [LL 2 (.assign (.const (.bool false))) 4])
 (.seq (.seq (.rgn [] [LL 5 (.move (.tmp 0)) 25,
 LL 6 (.call { callee := (.builtin .len), args := #[(.tmp 5)], argTypes := #[25] }) 3,
 LL 7 (.move (.const (.int .i64 0))) 3])
 (.blk 0
 (.loop []
 (.seq (.rgn [] [LL 8 (.binOp .lss 3 (.tmp 7) (.tmp 6) 3) 0])
 (.seq (.cond (.tmp 8)
 .skip
 (.exit 0))
 (.seq (.blk 1
 (.seq (.rgn [] [LL 9 (.indexAddr 25 (.tmp 5) (.tmp 7)) 0,
 LL 10 (.load 3 (.tmp 9)) 3,
 LL 4 (.assign (.tmp 10)) 3])
 (.seq (.rgn [] [LL 11 (.move (.tmp 4)) 3,
 LL 12 (.call { callee := (.value (.func 90)), args := #[(.tmp 11), (.const (.int .i64 0)), (.const (.int .i64 99))], argTypes := #[3, 3, 3] }) 4,
 LL 13 (.unOp .not 4 (.tmp 12)) 4])
 (.cond (.tmp 13)
 (.seq (.rgn [] [LL 2 (.assign (.const (.bool false))) 4])
 .ret)
 .skip))))
 (.rgn [] [LL 14 (.binOp .add 3 (.tmp 7) (.const (.int .i64 1)) 3) 3,
 LL 7 (.move (.tmp 14)) 3])))))))
 (.seq (.rgn [] [LL 2 (.assign (.const (.bool true))) 4])
 .ret)))
theorem lit258 : Lit Try.prog 258 15 [] [.tmp 2] c258 := ⟨⟨Try.f258, _, Try.func258, rfl, by kernel_rfl, rfl, rfl, by kernel_rfl, by kernel_rfl⟩, by decide, by kernel_rfl⟩
/-- spec.l5Sort -/
def c259 : LC :=
  (.seq (.rgn [] [LL 2 (.assign (.const (.slice none 0 0))) 82])
 (.seq (.seq (.rgn [] [LL 9 (.move (.tmp 0)) 82,
 LL 10 (.call { callee := (.builtin .len), args := #[(.tmp 9)], argTypes := #[82] }) 3,
 LL 11 (.binOp .lss 3 (.tmp 10) (.const (.int .i64 2)) 3) 4])
 (.cond (.tmp 11)
 (.seq (.rgn [12] [LL 12 (.move (.tmp 0)) 82,
 LL 2 (.assign (.tmp 12)) 82])
 .ret)
 .skip))
 (.seq (.rgn [] [LL 13 (.move (.tmp 0)) 82,
 LL 14 (.call { callee := (.builtin .len), args := #[(.tmp 13)], argTypes := #[82] }) 3,
 LL 15 (.binOp .quo 3 (.tmp 14) (.const (.int .i64 2)) 3) 3,
 LL 3 (.assign (.tmp 15)) 3])
 (.seq (.rgn [] [LL 16 (.move (.tmp 0)) 82,
 LL 17 (.move (.tmp 3)) 3,
 LL 18 (.slice 82 (.tmp 16) none (some (.tmp 17)) none) 82,
 LL 19 (.call { callee := (.value (.func 259)), args := #[(.tmp 18)], argTypes := #[82] }) 82,
 LL 4 (.assign (.tmp 19)) 82])
 (.seq (.rgn [] [LL 20 (.move (.tmp 0)) 82,
 LL 21 (.move (.tmp 3)) 3,
 LL 22 (.slice 82 (.tmp 20) (some (.tmp 21)) none none) 82,
 LL 23 (.call { callee := (.value (.func 259)), args := #[(.tmp 22)], argTypes := #[82] }) 82,
 LL 5 (.assign (.tmp 23)) 82])
 (.seq (.rgn [] [LL 24 (.buildSlice 82 0 #[]) 82,
 LL 6 (.assign (.tmp 24)) 82])
 (.seq (.blk 0
 (.loop []
 (.seq (.seq (.rgn [] [LL 25 (.move (.tmp 4)) 82,
 LL 26 (.call { callee := (.builtin .len), args := #[(.tmp 25)], argTypes := #[82] }) 3,
 LL 27 (.binOp .gtr 3 (.tmp 26) (.const (.int .i64 0)) 3) 4,
 LL 28 (.move (.tmp 27)) 4,
 ⟨some 29, (.move (.tmp 5)), 82, some (some 28, false)⟩,
 ⟨some 30, (.call { callee := (.builtin .len), args := #[(.tmp 29)], argTypes := #[82] }), 3, some (some 28, false)⟩,
 ⟨some 31, (.binOp .gtr 3 (.tmp 30) (.const (.int .i64 0)) 3), 4, some (some 28, false)⟩,
 LL 32 (.pick (.tmp 28) (.const (.bool true)) (.tmp 31)) 4])
 (.cond (.tmp 32)
 .skip
 (.exit 0)))
 (.blk 1
 (.seq (.rgn [] [LL 7 (.assign (.const (.int .i64 0))) 3])
 (.seq (.blk 2
 (.seq (.rgn [] [LL 34 (.move (.tmp 4)) 82,
 LL 35 (.call { callee := (.builtin .len), args := #[(.tmp 34)], argTypes := #[82] }) 3,
 LL 36 (.binOp .eql 3 (.tmp 35) (.const (.int .i64 0)) 3) 4,
 LL 33 (.assign (.tmp 36)) 4])
 (.cond (.tmp 33)
 (.rgn [] [LL 7 (.assign (.const (.int .i64 1))) 3])
 (.seq (.rgn [] [LL 38 (.move (.tmp 5)) 82,
 LL 39 (.call { callee := (.builtin .len), args := #[(.tmp 38)], argTypes := #[82] }) 3,
 LL 40 (.binOp .gtr 3 (.tmp 39) (.const (.int .i64 0)) 3) 4,
 LL 37 (.assign (.tmp 40)) 4])
 (.cond (.tmp 37)
 (.drw [] [([4], [41]), ([41], [42]), ([42], [43]), ([5], [44]), ([44], [45]), ([45], [46]), ([43, 46], [47]), ([47], [7, 47])] [[], [0], [1], [], [3], [4], [2, 5], [6, 6, 0, 1, 2, 3, 4, 5, 6]] [LL 41 (.move (.tmp 4)) 82,
 LL 42 (.indexAddr 82 (.tmp 41) (.const (.int .i64 0))) 0,
 LL 43 (.load 25 (.tmp 42)) 25,
 LL 44 (.move (.tmp 5)) 82,
 LL 45 (.indexAddr 82 (.tmp 44) (.const (.int .i64 0))) 0,
 LL 46 (.load 25 (.tmp 45)) 25,
 LL 47 (.call { callee := (.value (.func 75)), args := #[(.tmp 43), (.tmp 46)], argTypes := #[25, 25] }) 3,
 LL 7 (.assign (.tmp 47)) 3])
 (.rgn [] [LL 7 (.assign (.const (.int .i64 (-1)))) 3]))))))
 (.seq (.rgn [] [LL 48 (.buildSlice 25 0 #[]) 25,
 LL 8 (.assign (.tmp 48)) 25])
 (.seq (.seq (.rgn [] [LL 49 (.move (.tmp 7)) 3,
 LL 50 (.binOp .gtr 3 (.tmp 49) (.const (.int .i64 0)) 3) 4])
 (.cond (.tmp 50)
 (.seq (.rgn [53] [LL 51 (.move (.tmp 5)) 82,
 LL 52 (.indexAddr 82 (.tmp 51) (.const (.int .i64 0))) 0,
 LL 53 (.load 25 (.tmp 52)) 25,
 LL 8 (.assign (.tmp 53)) 25])
 (.rgn [] [LL 54 (.move (.tmp 5)) 82,
 LL 55 (.slice 82 (.tmp 54) (some (.const (.int .i64 1))) none none) 82,
 LL 5 (.assign (.tmp 55)) 82]))
 (.seq (.rgn [58] [LL 56 (.move (.tmp 4)) 82,
 LL 57 (.indexAddr 82 (.tmp 56) (.const (.int .i64 0))) 0,
 LL 58 (.load 25 (.tmp 57)) 25,
 LL 8 (.assign (.tmp 58)) 25])
 (.rgn [] [LL 59 (.move (.tmp 4)) 82,
 LL 60 (.slice 82 (.tmp 59) (some (.const (.int .i64 1))) none none) 82,
 LL 4 (.assign (.tmp 60)) 82]))))
 (.seq (.rgn [] [LL 61 (.move (.tmp 6)) 82,
 LL 62 (.call { callee := (.builtin .len), args := #[(.tmp 61)], argTypes := #[82] }) 3,
 LL 63 (.binOp .eql 3 (.tmp 62) (.const (.int .i64 0)) 3) 4,
 LL 64 (.move (.tmp 63)) 4,
 ⟨some 65, (.move (.tmp 6)), 82, some (some 64, false)⟩,
 ⟨some 66, (.move (.tmp 6)), 82, some (some 64, false)⟩,
 ⟨some 67, (.call { callee := (.builtin .len), args := #[(.tmp 66)], argTypes := #[82] }), 3, some (some 64, false)⟩,
 ⟨some 68, (.binOp .sub 3 (.tmp 67) (.const (.int .i64 1)) 3), 3, some (some 64, false)⟩,
 ⟨some 69, (.indexAddr 82 (.tmp 65) (.tmp 68)), 0, some (some 64, false)⟩,
 ⟨some 70, (.load 25 (.tmp 69)), 25, some (some 64, false)⟩,
 ⟨some 71, (.move (.tmp 8)), 25, some (some 64, false)⟩,
 ⟨some 72, (.call { callee := (.value (.func 75)), args := #[(.tmp 70), (.tmp 71)], argTypes := #[25, 25] }), 3, some (some 64, false)⟩,
 ⟨some 73, (.binOp .neq 3 (.tmp 72) (.const (.int .i64 0)) 3), 4, some (some 64, false)⟩,
 LL 74 (.pick (.tmp 64) (.const (.bool true)) (.tmp 73)) 4])
 (.cond (.tmp 74)
 (.rgn [75, 76] [LL 75 (.move (.tmp 6)) 82,
 LL 76 (.move (.tmp 8)) 25,
 LL 77 (.buildSlice 82 1 #[(0, (.tmp 76))]) 82,
 LL 78 (.call { callee := (.builtin .append), args := #[(.tmp 75), (.tmp 77)], argTypes := #[82, 82] }) 82,
 LL 6 (.assign (.tmp 78)) 82])
 .skip))))))))))
 (.seq (.rgn [79] [LL 79 (.move (.tmp 6)) 82,
 LL 2 (.assign (.tmp 79)) 82])
 .ret))))))))
theorem lit259 : Lit Try.prog 259 80 [] [.tmp 2] c259 := ⟨⟨Try.f259, _, Try.func259, rfl, by kernel_rfl, rfl, rfl, by kernel_rfl, by kernel_rfl⟩, by decide, by kernel_rfl⟩
/-- spec.IsValidTrie -/
def c260 : LC :=
  (.seq (.rgn [] [LL 1 (.box 197 (.tmp 0)) 0,
 LL 2 (.assign (.const (.bool false))) 4])
 (.seq (.rgn [] [LL 3 (.load 197 (.tmp 1)) 197,
 LL 4 (.call { callee := (.value (.func 266)), args := #[(.tmp 3)], argTypes := #[197] }) 128,
 LL 5 (.call { callee := (.value (.func 217)), args := #[(.tmp 4)], argTypes := #[128] }) 4,
 LL 2 (.assign (.tmp 5)) 4])
 .ret))
theorem lit260 : Lit Try.prog 260 6 [1] [.tmp 2] c260 := ⟨⟨Try.f260, _, Try.func260, rfl, by kernel_rfl, rfl, rfl, by kernel_rfl, by kernel_rfl⟩, by decide, by kernel_rfl⟩
/-- impl.NewRelation -/
def c261 : LC :=
  (.seq (.rgn [] [LL 4 (.alloc 128) 0,
 LL 5 (.assign (.const (.bool false))) 4])
 (.seq (.seq (.rgn [] [LL 9 (.move (.tmp 1)) 82,
 LL 10 (.call { callee := (.builtin .len), args := #[(.tmp 9)], argTypes := #[82] }) 3,
 LL 11 (.move (.const (.int .i64 0))) 3])
 (.blk 0
 (.loop []
 (.seq (.rgn [] [LL 12 (.binOp .lss 3 (.tmp 11) (.tmp 10) 3) 0])
 (.seq (.cond (.tmp 12)
 .skip
 (.exit 0))
 (.seq (.blk 1
 (.seq (.rgn [14] [LL 13 (.indexAddr 82 (.tmp 9) (.tmp 11)) 0,
 LL 14 (.load 25 (.tmp 13)) 25,
 LL 7 (.assign (.tmp 14)) 25])
 (.seq (.rgn [] [LL 15 (.move (.tmp 7)) 25,
 LL 16 (.call { callee := (.builtin .len), args := #[(.tmp 15)], argTypes := #[25] }) 3,
 LL 17 (.move (.tmp 0)) 3,
 LL 18 (.binOp .neq 3 (.tmp 16) (.tmp 17) 3) 4,
 LL 19 (.move (.tmp 18)) 4,
 ⟨some 20, (.move (.tmp 7)), 25, some (some 19, false)⟩,
 ⟨some 21, (.call { callee := (.value (.func 258)), args := #[(.tmp 20)], argTypes := #[25] }), 4, some (some 19, false)⟩,
 ⟨some 22, (.unOp .not 4 (.tmp 21)), 4, some (some 19, false)⟩,
 LL 23 (.pick (.tmp 19) (.const (.bool true)) (.tmp 22)) 4])
 (.cond (.tmp 23)
 (.seq (.rgn [] [LL 24 (.build 128 #[]) 128,
 ⟨none, (.store 128 (.tmp 4) (.tmp 24)), 0, none⟩,
 LL 5 (.assign (.const (.bool false))) 4])
 .ret)
 .skip))))
 (.rgn [] [LL 25 (.binOp .add 3 (.tmp 11) (.const (.int .i64 1)) 3) 3,
 LL 11 (.move (.tmp 25)) 3])))))))
 (.seq (.rgn [] [LL 26 (.move (.tmp 0)) 3,
 LL 27 (.move (.tmp 1)) 82,
 LL 28 (.call { callee := (.value (.func 253)), args := #[(.tmp 27)], argTypes := #[82] }) 82,
 LL 29 (.build 128 #[(0, (.tmp 26)), (1, (.tmp 28))]) 128,
 LL 8 (.alloc 128) 0,
 ⟨none, (.store 128 (.tmp 8) (.tmp 29)), 0, none⟩])
 (.seq (.seq (.rgn [] [LL 30 (.load 128 (.tmp 8)) 128,
 LL 31 (.call { callee := (.value (.func 219)), args := #[(.tmp 30)], argTypes := #[128] }) 4,
 LL 32 (.unOp .not 4 (.tmp 31)) 4])
 (.cond (.tmp 32)
 (.seq (.rgn [] [LL 33 (.build 128 #[]) 128,
 ⟨none, (.store 128 (.tmp 4) (.tmp 33)), 0, none⟩,
 LL 5 (.assign (.const (.bool false))) 4])
 .ret)
 .skip))
 (.seq (.rgn [34] [LL 34 (.load 128 (.tmp 8)) 128,
 ⟨none, (.store 128 (.tmp 4) (.tmp 34)), 0, none⟩,
 LL 5 (.assign (.const (.bool true))) 4])
 .ret)))))
theorem lit261 : Lit Try.prog 261 35 [4, 8] [.cell 4 128, .tmp 5] c261 := ⟨⟨Try.f261, _, Try.func261, rfl, by kernel_rfl, rfl, rfl, by kernel_rfl, by kernel_rfl⟩, by decide, by kernel_rfl⟩
/-- impl.compareInts -/
def c262 : LC :=
  (.seq (.rgn [] [LL 4 (.assign (.const (.int .i64 0))) 3])
 (.seq (.blk 0
 (.seq (.rgn [] [LL 6 (.move (.tmp 0)) 3,
 LL 7 (.move (.tmp 1)) 3,
 LL 8 (.binOp .lss 3 (.tmp 6) (.tmp 7) 3) 4,
 LL 5 (.assign (.tmp 8)) 4])
 (.cond (.tmp 5)
 (.seq (.rgn [] [LL 4 (.assign (.const (.int .i64 (-1)))) 3])
 .ret)
 (.seq (.rgn [] [LL 10 (.move (.tmp 0)) 3,
 LL 11 (.move (.tmp 1)) 3,
 LL 12 (.binOp .gtr 3 (.tmp 10) (.tmp 11) 3) 4,
 LL 9 (.assign (.tmp 12)) 4])
 (.cond (.tmp 9)
 (.seq (.rgn [] [LL 4 (.assign (.const (.int .i64 1))) 3])
 .ret)
 .skip)))))
 (.seq (.rgn [] [LL 4 (.assign (.const (.int .i64 0))) 3])
 .ret)))
theorem lit262 : Lit Try.prog 262 13 [] [.tmp 4] c262 := ⟨⟨Try.f262, _, Try.func262, rfl, by kernel_rfl, rfl, rfl, by kernel_rfl, by kernel_rfl⟩, by decide, by kernel_rfl⟩
/-- spec.l16Rel -/
def c266 : LC :=
  (.seq (.rgn [] [LL 1 (.box 197 (.tmp 0)) 0,
 LL 2 (.alloc 128) 0])
 (.seq (.rgn [] [LL 3 (.fieldAddr 197 (.tmp 1) 0) 0,
 LL 4 (.load 3 (.tmp 3)) 3,
 LL 5 (.fieldAddr 197 (.tmp 1) 1) 0,
 LL 6 (.load 82 (.tmp 5)) 82,
 LL 7 (.build 128 #[(0, (.tmp 4)), (1, (.tmp 6))]) 128,
 ⟨none, (.store 128 (.tmp 2) (.tmp 7)), 0, none⟩])
 .ret))
theorem lit266 : Lit Try.prog 266 8 [1, 2] [.cell 2 128] c266 := ⟨⟨Try.f266, _, Try.func266, rfl, by kernel_rfl, rfl, rfl, by kernel_rfl, by kernel_rfl⟩, by decide, by kernel_rfl⟩
end Go.Proofs.Ytkcfahfladikkaa
