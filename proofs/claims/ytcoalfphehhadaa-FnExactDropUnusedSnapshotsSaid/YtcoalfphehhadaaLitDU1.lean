/-
  The functions' code as the program holds it, without places and edges; printed by genlit.py. No conditions.
-/
import Derived.Test.YtcoalfphehhadaaTb
namespace Go.Proofs.Ytcoalfphehhadaa
open Go.RowKit
set_option linter.unusedVariables false
set_option maxRecDepth 100000
theorem lit15 : LitF 15 [1] [] [] Try.f15 := litOf Try.func15 (by kernel_rfl)
theorem lit16 : LitF 16 [2] [] [] Try.f16 := litOf Try.func16 (by kernel_rfl)
theorem lit17 : LitF 17 [] [] [] Try.f17 := litOf Try.func17 (by kernel_rfl)
theorem lit18 : LitF 18 [2, 4, 5] [(28, 5)] [(3, [12]), (9, [31]), (12, [40])] Try.f18 := litOf Try.func18 (by kernel_rfl)
theorem lit19 : LitF 19 [1, 2, 3] [] [(4, [11])] Try.f19 := litOf Try.func19 (by kernel_rfl)
theorem lit20 : LitF 20 [3, 7] [] [(1, [3, 7]), (6, [22])] Try.f20 := litOf Try.func20 (by kernel_rfl)
theorem lit21 : LitF 21 [2, 4, 5, 7] [] [(3, [13]), (7, [23]), (9, [29]), (13, [41])] Try.f21 := litOf Try.func21 (by kernel_rfl)
theorem lit22 : LitF 22 [2, 3] [] [] Try.f22 := litOf Try.func22 (by kernel_rfl)
theorem lit23 : LitF 23 [] [] [] Try.f23 := litOf Try.func23 (by kernel_rfl)
/-- laws.markHistory -/
def c24 : LC :=
  (.seq (.rgn [] [LL 2 (.box 26 (.tmp 0)) 0,
 LL 4 (.assign (.const (.int .i64 0))) 3])
 (.seq (.rgn [] [LL 5 (.fieldAddr 26 (.tmp 2) 1) 0,
 LL 6 (.load 24 (.tmp 5)) 24,
 LL 7 (.move (.tmp 1)) 3,
 LL 8 (.call { callee := (.value (.func 61)), args := #[(.tmp 6), (.tmp 7)], argTypes := #[24, 3] }) 3,
 LL 1 (.assign (.tmp 8)) 3])
 (.seq (.rgn [] [LL 9 (.move (.tmp 1)) 3,
 LL 4 (.assign (.tmp 9)) 3])
 .ret)))
theorem lit24 : Lit Try.prog 24 10 [2] [.tmp 4] c24 := ⟨⟨Try.f24, _, Try.func24, rfl, by kernel_rfl, rfl, rfl, by kernel_rfl, by kernel_rfl⟩, by decide, by kernel_rfl⟩
/-- laws.markCursorS -/
def c25 : LC :=
  (.seq (.rgn [] [LL 4 (.assign (.const (.int .i64 0))) 3])
 (.seq (.seq (.rgn [] [LL 5 (.assign (.const (.int .i64 0))) 3])
 (.blk 0
 (.loop []
 (.seq (.seq (.rgn [] [LL 6 (.move (.tmp 5)) 3,
 LL 7 (.move (.tmp 0)) 53,
 LL 8 (.call { callee := (.builtin .len), args := #[(.tmp 7)], argTypes := #[53] }) 3,
 LL 9 (.binOp .lss 3 (.tmp 6) (.tmp 8) 3) 4])
 (.cond (.tmp 9)
 .skip
 (.exit 0)))
 (.seq (.blk 1
 (.seq (.rgn [] [LL 12 (.move (.tmp 0)) 53,
 LL 13 (.move (.tmp 5)) 3,
 LL 14 (.move (.tmp 1)) 3,
 LL 15 (.indexAddr 53 (.tmp 12) (.tmp 13)) 0,
 LL 16 (.fieldAddr 100 (.tmp 15) 0) 0,
 ⟨none, (.store 3 (.tmp 16) (.tmp 14)), 0, none⟩])
 (.seq (.rgn [] [LL 17 (.move (.tmp 1)) 3,
 LL 18 (.binOp .add 3 (.tmp 17) (.const (.int .i64 1)) 3) 3,
 LL 1 (.assign (.tmp 18)) 3])
 (.seq (.rgn [] [LL 19 (.move (.tmp 0)) 53,
 LL 20 (.move (.tmp 5)) 3,
 LL 21 (.indexAddr 53 (.tmp 19) (.tmp 20)) 0,
 LL 22 (.fieldAddr 100 (.tmp 21) 1) 0,
 LL 23 (.load 60 (.tmp 22)) 60,
 LL 24 (.move (.tmp 1)) 3,
 LL 25 (.call { callee := (.value (.func 62)), args := #[(.tmp 23), (.tmp 24)], argTypes := #[60, 3] }) 3,
 LL 1 (.assign (.tmp 25)) 3])
 (.seq (.rgn [] [LL 26 (.move (.tmp 0)) 53,
 LL 27 (.move (.tmp 5)) 3,
 LL 28 (.indexAddr 53 (.tmp 26) (.tmp 27)) 0,
 LL 29 (.fieldAddr 100 (.tmp 28) 2) 0,
 LL 30 (.load 60 (.tmp 29)) 60,
 LL 31 (.move (.tmp 1)) 3,
 LL 32 (.call { callee := (.value (.func 62)), args := #[(.tmp 30), (.tmp 31)], argTypes := #[60, 3] }) 3,
 LL 1 (.assign (.tmp 32)) 3])
 (.seq (.rgn [] [LL 33 (.move (.tmp 0)) 53,
 LL 34 (.move (.tmp 5)) 3,
 LL 35 (.move (.tmp 1)) 3,
 LL 36 (.indexAddr 53 (.tmp 33) (.tmp 34)) 0,
 LL 37 (.fieldAddr 100 (.tmp 36) 3) 0,
 LL 38 (.fieldAddr 62 (.tmp 37) 0) 0,
 ⟨none, (.store 3 (.tmp 38) (.tmp 35)), 0, none⟩])
 (.seq (.rgn [] [LL 39 (.move (.tmp 1)) 3,
 LL 40 (.binOp .add 3 (.tmp 39) (.const (.int .i64 1)) 3) 3,
 LL 1 (.assign (.tmp 40)) 3])
 (.seq (.rgn [] [LL 41 (.move (.tmp 0)) 53,
 LL 42 (.move (.tmp 5)) 3,
 LL 43 (.indexAddr 53 (.tmp 41) (.tmp 42)) 0,
 LL 44 (.fieldAddr 100 (.tmp 43) 3) 0,
 LL 45 (.fieldAddr 62 (.tmp 44) 1) 0,
 LL 46 (.load 59 (.tmp 45)) 59,
 LL 47 (.move (.tmp 1)) 3,
 LL 48 (.call { callee := (.value (.func 63)), args := #[(.tmp 46), (.tmp 47)], argTypes := #[59, 3] }) 3,
 LL 1 (.assign (.tmp 48)) 3])
 (.rgn [] [LL 49 (.move (.tmp 0)) 53,
 LL 50 (.move (.tmp 5)) 3,
 LL 51 (.indexAddr 53 (.tmp 49) (.tmp 50)) 0,
 LL 52 (.fieldAddr 100 (.tmp 51) 3) 0,
 LL 53 (.fieldAddr 62 (.tmp 52) 2) 0,
 LL 54 (.load 60 (.tmp 53)) 60,
 LL 55 (.move (.tmp 1)) 3,
 LL 56 (.call { callee := (.value (.func 62)), args := #[(.tmp 54), (.tmp 55)], argTypes := #[60, 3] }) 3,
 LL 1 (.assign (.tmp 56)) 3])))))))))
 (.rgn [] [LL 10 (.move (.tmp 5)) 3,
 LL 11 (.binOp .add 3 (.tmp 10) (.const (.int .i64 1)) 3) 3,
 LL 5 (.assign (.tmp 11)) 3]))))))
 (.seq (.rgn [] [LL 57 (.move (.tmp 1)) 3,
 LL 4 (.assign (.tmp 57)) 3])
 .ret)))
theorem lit25 : Lit Try.prog 25 58 [] [.tmp 4] c25 := ⟨⟨Try.f25, _, Try.func25, rfl, by kernel_rfl, rfl, rfl, by kernel_rfl, by kernel_rfl⟩, by decide, by kernel_rfl⟩
theorem lit26 : LitF 26 [2] [] [] Try.f26 := litOf Try.func26 (by kernel_rfl)
theorem lit40 : LitF 40 [1, 2, 3, 5] [(16, 3), (22, 3)] [(4, [15]), (5, [17]), (7, [24])] Try.f40 := litOf Try.func40 (by kernel_rfl)
theorem lit41 : LitF 41 [1, 5] [] [(6, [27])] Try.f41 := litOf Try.func41 (by kernel_rfl)
theorem lit43 : LitF 43 [1, 2, 3, 5] [] [(6, [23, 24]), (7, [28])] Try.f43 := litOf Try.func43 (by kernel_rfl)
theorem lit44 : LitF 44 [] [] [] Try.f44 := litOf Try.func44 (by kernel_rfl)
theorem lit45 : LitF 45 [1, 2, 3, 5] [(13, 3), (15, 5), (17, 5), (23, 3)] [(4, [12]), (5, [14]), (7, [25])] Try.f45 := litOf Try.func45 (by kernel_rfl)
theorem lit46 : LitF 46 [] [] [] Try.f46 := litOf Try.func46 (by kernel_rfl)
theorem lit47 : LitF 47 [1, 2, 3, 5] [(21, 3), (23, 1), (33, 3)] [(6, [22, 29]), (7, [34])] Try.f47 := litOf Try.func47 (by kernel_rfl)
theorem lit54 : LitF 54 [1, 4] [(17, 4), (25, 1), (32, 4), (38, 4), (44, 4), (45, 4), (51, 4), (52, 4)] [(4, [16])] Try.f54 := litOf Try.func54 (by kernel_rfl)
theorem lit55 : LitF 55 [] [] [] Try.f55 := litOf Try.func55 (by kernel_rfl)
theorem lit56 : LitF 56 [2] [] [] Try.f56 := litOf Try.func56 (by kernel_rfl)
theorem lit57 : LitF 57 [3, 7] [] [(1, [3, 7]), (6, [22])] Try.f57 := litOf Try.func57 (by kernel_rfl)
theorem lit58 : LitF 58 [1, 2, 3] [] [(6, [19])] Try.f58 := litOf Try.func58 (by kernel_rfl)
theorem lit59 : LitF 59 [] [] [] Try.f59 := litOf Try.func59 (by kernel_rfl)
theorem lit60 : LitF 60 [2, 3] [] [] Try.f60 := litOf Try.func60 (by kernel_rfl)
/-- laws.markDatabaseS -/
def c61 : LC :=
  (.seq (.rgn [] [LL 4 (.assign (.const (.int .i64 0))) 3])
 (.seq (.seq (.rgn [] [LL 5 (.assign (.const (.int .i64 0))) 3])
 (.blk 0
 (.loop []
 (.seq (.seq (.rgn [] [LL 6 (.move (.tmp 5)) 3,
 LL 7 (.move (.tmp 0)) 24,
 LL 8 (.call { callee := (.builtin .len), args := #[(.tmp 7)], argTypes := #[24] }) 3,
 LL 9 (.binOp .lss 3 (.tmp 6) (.tmp 8) 3) 4])
 (.cond (.tmp 9)
 .skip
 (.exit 0)))
 (.seq (.blk 1
 (.rgn [] [LL 12 (.move (.tmp 0)) 24,
 LL 13 (.move (.tmp 5)) 3,
 LL 14 (.indexAddr 24 (.tmp 12) (.tmp 13)) 0,
 LL 15 (.fieldAddr 39 (.tmp 14) 0) 0,
 LL 16 (.load 37 (.tmp 15)) 37,
 LL 17 (.move (.tmp 1)) 3,
 LL 18 (.call { callee := (.value (.func 114)), args := #[(.tmp 16), (.tmp 17)], argTypes := #[37, 3] }) 3,
 LL 1 (.assign (.tmp 18)) 3]))
 (.rgn [] [LL 10 (.move (.tmp 5)) 3,
 LL 11 (.binOp .add 3 (.tmp 10) (.const (.int .i64 1)) 3) 3,
 LL 5 (.assign (.tmp 11)) 3]))))))
 (.seq (.rgn [] [LL 19 (.move (.tmp 1)) 3,
 LL 4 (.assign (.tmp 19)) 3])
 .ret)))
theorem lit61 : Lit Try.prog 61 20 [] [.tmp 4] c61 := ⟨⟨Try.f61, _, Try.func61, rfl, by kernel_rfl, rfl, rfl, by kernel_rfl, by kernel_rfl⟩, by decide, by kernel_rfl⟩
/-- laws.markIntS -/
def c62 : LC :=
  (.seq (.rgn [] [LL 4 (.assign (.const (.int .i64 0))) 3])
 (.seq (.seq (.rgn [] [LL 5 (.assign (.const (.int .i64 0))) 3])
 (.blk 0
 (.loop []
 (.seq (.seq (.rgn [] [LL 6 (.move (.tmp 5)) 3,
 LL 7 (.move (.tmp 0)) 60,
 LL 8 (.call { callee := (.builtin .len), args := #[(.tmp 7)], argTypes := #[60] }) 3,
 LL 9 (.binOp .lss 3 (.tmp 6) (.tmp 8) 3) 4])
 (.cond (.tmp 9)
 .skip
 (.exit 0)))
 (.seq (.blk 1
 (.seq (.rgn [] [LL 12 (.move (.tmp 0)) 60,
 LL 13 (.move (.tmp 5)) 3,
 LL 14 (.move (.tmp 1)) 3,
 LL 15 (.indexAddr 60 (.tmp 12) (.tmp 13)) 0,
 ⟨none, (.store 3 (.tmp 15) (.tmp 14)), 0, none⟩])
 (.rgn [] [LL 16 (.move (.tmp 1)) 3,
 LL 17 (.binOp .add 3 (.tmp 16) (.const (.int .i64 1)) 3) 3,
 LL 1 (.assign (.tmp 17)) 3])))
 (.rgn [] [LL 10 (.move (.tmp 5)) 3,
 LL 11 (.binOp .add 3 (.tmp 10) (.const (.int .i64 1)) 3) 3,
 LL 5 (.assign (.tmp 11)) 3]))))))
 (.seq (.rgn [] [LL 18 (.move (.tmp 1)) 3,
 LL 4 (.assign (.tmp 18)) 3])
 .ret)))
theorem lit62 : Lit Try.prog 62 19 [] [.tmp 4] c62 := ⟨⟨Try.f62, _, Try.func62, rfl, by kernel_rfl, rfl, rfl, by kernel_rfl, by kernel_rfl⟩, by decide, by kernel_rfl⟩
/-- laws.markAtomS -/
def c63 : LC :=
  (.seq (.rgn [] [LL 4 (.assign (.const (.int .i64 0))) 3])
 (.seq (.seq (.rgn [] [LL 5 (.assign (.const (.int .i64 0))) 3])
 (.blk 0
 (.loop []
 (.seq (.seq (.rgn [] [LL 6 (.move (.tmp 5)) 3,
 LL 7 (.move (.tmp 0)) 59,
 LL 8 (.call { callee := (.builtin .len), args := #[(.tmp 7)], argTypes := #[59] }) 3,
 LL 9 (.binOp .lss 3 (.tmp 6) (.tmp 8) 3) 4])
 (.cond (.tmp 9)
 .skip
 (.exit 0)))
 (.seq (.blk 1
 (.seq (.rgn [] [LL 12 (.move (.tmp 0)) 59,
 LL 13 (.move (.tmp 5)) 3,
 LL 14 (.move (.tmp 1)) 3,
 LL 15 (.call { callee := (.value (.func 115)), args := #[(.tmp 14)], argTypes := #[3] }) 9,
 LL 16 (.indexAddr 59 (.tmp 12) (.tmp 13)) 0,
 LL 17 (.fieldAddr 124 (.tmp 16) 0) 0,
 ⟨none, (.store 9 (.tmp 17) (.tmp 15)), 0, none⟩])
 (.seq (.rgn [] [LL 18 (.move (.tmp 1)) 3,
 LL 19 (.binOp .add 3 (.tmp 18) (.const (.int .i64 1)) 3) 3,
 LL 1 (.assign (.tmp 19)) 3])
 (.rgn [] [LL 20 (.move (.tmp 0)) 59,
 LL 21 (.move (.tmp 5)) 3,
 LL 22 (.indexAddr 59 (.tmp 20) (.tmp 21)) 0,
 LL 23 (.fieldAddr 124 (.tmp 22) 1) 0,
 LL 24 (.load 60 (.tmp 23)) 60,
 LL 25 (.move (.tmp 1)) 3,
 LL 26 (.call { callee := (.value (.func 62)), args := #[(.tmp 24), (.tmp 25)], argTypes := #[60, 3] }) 3,
 LL 1 (.assign (.tmp 26)) 3]))))
 (.rgn [] [LL 10 (.move (.tmp 5)) 3,
 LL 11 (.binOp .add 3 (.tmp 10) (.const (.int .i64 1)) 3) 3,
 LL 5 (.assign (.tmp 11)) 3]))))))
 (.seq (.rgn [] [LL 27 (.move (.tmp 1)) 3,
 LL 4 (.assign (.tmp 27)) 3])
 .ret)))
theorem lit63 : Lit Try.prog 63 28 [] [.tmp 4] c63 := ⟨⟨Try.f63, _, Try.func63, rfl, by kernel_rfl, rfl, rfl, by kernel_rfl, by kernel_rfl⟩, by decide, by kernel_rfl⟩
theorem lit64 : LitF 64 [] [] [] Try.f64 := litOf Try.func64 (by kernel_rfl)
theorem lit92 : LitF 92 [1, 4] [(17, 4), (25, 1), (32, 4), (38, 4), (44, 4), (45, 4), (50, 4), (51, 4)] [(5, [16])] Try.f92 := litOf Try.func92 (by kernel_rfl)
theorem lit98 : LitF 98 [1, 2] [(3, 1), (5, 1)] [] Try.f98 := litOf Try.func98 (by kernel_rfl)
theorem lit99 : LitF 99 [1, 2, 3] [(15, 3), (18, 1), (26, 3)] [(5, [16, 22]), (6, [27])] Try.f99 := litOf Try.func99 (by kernel_rfl)
theorem lit100 : LitF 100 [] [] [] Try.f100 := litOf Try.func100 (by kernel_rfl)
theorem lit102 : LitF 102 [1] [(21, 1), (27, 1), (31, 1), (43, 1), (49, 1)] [] Try.f102 := litOf Try.func102 (by kernel_rfl)
theorem lit104 : LitF 104 [] [] [] Try.f104 := litOf Try.func104 (by kernel_rfl)
theorem lit105 : LitF 105 [2] [] [] Try.f105 := litOf Try.func105 (by kernel_rfl)
theorem lit106 : LitF 106 [] [] [] Try.f106 := litOf Try.func106 (by kernel_rfl)
theorem lit107 : LitF 107 [2] [] [] Try.f107 := litOf Try.func107 (by kernel_rfl)
theorem lit108 : LitF 108 [1, 2, 3] [] [(3, [8])] Try.f108 := litOf Try.func108 (by kernel_rfl)
theorem lit109 : LitF 109 [3, 7] [] [(1, [3, 7]), (6, [21])] Try.f109 := litOf Try.func109 (by kernel_rfl)
theorem lit110 : LitF 110 [1, 2, 3] [] [(5, [15])] Try.f110 := litOf Try.func110 (by kernel_rfl)
theorem lit111 : LitF 111 [2, 3] [] [] Try.f111 := litOf Try.func111 (by kernel_rfl)
theorem lit112 : LitF 112 [] [] [] Try.f112 := litOf Try.func112 (by kernel_rfl)
theorem lit113 : LitF 113 [2, 3] [] [] Try.f113 := litOf Try.func113 (by kernel_rfl)
/-- laws.markTableS -/
def c114 : LC :=
  (.seq (.rgn [] [LL 4 (.assign (.const (.int .i64 0))) 3])
 (.seq (.seq (.rgn [] [LL 5 (.assign (.const (.int .i64 0))) 3])
 (.blk 0
 (.loop []
 (.seq (.seq (.rgn [] [LL 6 (.move (.tmp 5)) 3,
 LL 7 (.move (.tmp 0)) 37,
 LL 8 (.call { callee := (.builtin .len), args := #[(.tmp 7)], argTypes := #[37] }) 3,
 LL 9 (.binOp .lss 3 (.tmp 6) (.tmp 8) 3) 4])
 (.cond (.tmp 9)
 .skip
 (.exit 0)))
 (.seq (.blk 1
 (.seq (.rgn [] [LL 12 (.move (.tmp 0)) 37,
 LL 13 (.move (.tmp 5)) 3,
 LL 14 (.move (.tmp 1)) 3,
 LL 15 (.call { callee := (.value (.func 115)), args := #[(.tmp 14)], argTypes := #[3] }) 9,
 LL 16 (.indexAddr 37 (.tmp 12) (.tmp 13)) 0,
 LL 17 (.fieldAddr 83 (.tmp 16) 0) 0,
 ⟨none, (.store 9 (.tmp 17) (.tmp 15)), 0, none⟩])
 (.seq (.rgn [] [LL 18 (.move (.tmp 1)) 3,
 LL 19 (.binOp .add 3 (.tmp 18) (.const (.int .i64 1)) 3) 3,
 LL 1 (.assign (.tmp 19)) 3])
 (.seq (.rgn [] [LL 20 (.move (.tmp 0)) 37,
 LL 21 (.move (.tmp 5)) 3,
 LL 22 (.move (.tmp 1)) 3,
 LL 23 (.indexAddr 37 (.tmp 20) (.tmp 21)) 0,
 LL 24 (.fieldAddr 83 (.tmp 23) 1) 0,
 LL 25 (.fieldAddr 29 (.tmp 24) 0) 0,
 ⟨none, (.store 3 (.tmp 25) (.tmp 22)), 0, none⟩])
 (.seq (.rgn [] [LL 26 (.move (.tmp 1)) 3,
 LL 27 (.binOp .add 3 (.tmp 26) (.const (.int .i64 1)) 3) 3,
 LL 1 (.assign (.tmp 27)) 3])
 (.rgn [] [LL 28 (.move (.tmp 0)) 37,
 LL 29 (.move (.tmp 5)) 3,
 LL 30 (.indexAddr 37 (.tmp 28) (.tmp 29)) 0,
 LL 31 (.fieldAddr 83 (.tmp 30) 1) 0,
 LL 32 (.fieldAddr 29 (.tmp 31) 1) 0,
 LL 33 (.load 27 (.tmp 32)) 27,
 LL 34 (.move (.tmp 1)) 3,
 LL 35 (.call { callee := (.value (.func 146)), args := #[(.tmp 33), (.tmp 34)], argTypes := #[27, 3] }) 3,
 LL 1 (.assign (.tmp 35)) 3]))))))
 (.rgn [] [LL 10 (.move (.tmp 5)) 3,
 LL 11 (.binOp .add 3 (.tmp 10) (.const (.int .i64 1)) 3) 3,
 LL 5 (.assign (.tmp 11)) 3]))))))
 (.seq (.rgn [] [LL 36 (.move (.tmp 1)) 3,
 LL 4 (.assign (.tmp 36)) 3])
 .ret)))
theorem lit114 : Lit Try.prog 114 37 [] [.tmp 4] c114 := ⟨⟨Try.f114, _, Try.func114, rfl, by kernel_rfl, rfl, rfl, by kernel_rfl, by kernel_rfl⟩, by decide, by kernel_rfl⟩
theorem lit115 : LitF 115 [] [] [] Try.f115 := litOf Try.func115 (by kernel_rfl)
theorem lit116 : LitF 116 [] [] [] Try.f116 := litOf Try.func116 (by kernel_rfl)
theorem lit120 : LitF 120 [] [] [] Try.f120 := litOf Try.func120 (by kernel_rfl)
theorem lit130 : LitF 130 [] [] [(1, [4])] Try.f130 := litOf Try.func130 (by kernel_rfl)
theorem lit133 : LitF 133 [] [] [] Try.f133 := litOf Try.func133 (by kernel_rfl)
theorem lit135 : LitF 135 [1] [] [] Try.f135 := litOf Try.func135 (by kernel_rfl)
theorem lit139 : LitF 139 [] [] [(4, [11]), (5, [12]), (7, [18])] Try.f139 := litOf Try.func139 (by kernel_rfl)
theorem lit140 : LitF 140 [] [] [] Try.f140 := litOf Try.func140 (by kernel_rfl)
theorem lit141 : LitF 141 [] [] [] Try.f141 := litOf Try.func141 (by kernel_rfl)
theorem lit142 : LitF 142 [3, 7] [] [(1, [3, 7]), (6, [22])] Try.f142 := litOf Try.func142 (by kernel_rfl)
theorem lit143 : LitF 143 [3, 7] [] [(1, [3, 7]), (6, [22])] Try.f143 := litOf Try.func143 (by kernel_rfl)
theorem lit144 : LitF 144 [] [] [] Try.f144 := litOf Try.func144 (by kernel_rfl)
theorem lit145 : LitF 145 [] [] [] Try.f145 := litOf Try.func145 (by kernel_rfl)
/-- laws.markIntSS -/
def c146 : LC :=
  (.seq (.rgn [] [LL 4 (.assign (.const (.int .i64 0))) 3])
 (.seq (.seq (.rgn [] [LL 5 (.assign (.const (.int .i64 0))) 3])
 (.blk 0
 (.loop []
 (.seq (.seq (.rgn [] [LL 6 (.move (.tmp 5)) 3,
 LL 7 (.move (.tmp 0)) 27,
 LL 8 (.call { callee := (.builtin .len), args := #[(.tmp 7)], argTypes := #[27] }) 3,
 LL 9 (.binOp .lss 3 (.tmp 6) (.tmp 8) 3) 4])
 (.cond (.tmp 9)
 .skip
 (.exit 0)))
 (.seq (.blk 1
 (.rgn [] [LL 12 (.move (.tmp 0)) 27,
 LL 13 (.move (.tmp 5)) 3,
 LL 14 (.indexAddr 27 (.tmp 12) (.tmp 13)) 0,
 LL 15 (.load 60 (.tmp 14)) 60,
 LL 16 (.move (.tmp 1)) 3,
 LL 17 (.call { callee := (.value (.func 62)), args := #[(.tmp 15), (.tmp 16)], argTypes := #[60, 3] }) 3,
 LL 1 (.assign (.tmp 17)) 3]))
 (.rgn [] [LL 10 (.move (.tmp 5)) 3,
 LL 11 (.binOp .add 3 (.tmp 10) (.const (.int .i64 1)) 3) 3,
 LL 5 (.assign (.tmp 11)) 3]))))))
 (.seq (.rgn [] [LL 18 (.move (.tmp 1)) 3,
 LL 4 (.assign (.tmp 18)) 3])
 .ret)))
theorem lit146 : Lit Try.prog 146 19 [] [.tmp 4] c146 := ⟨⟨Try.f146, _, Try.func146, rfl, by kernel_rfl, rfl, rfl, by kernel_rfl, by kernel_rfl⟩, by decide, by kernel_rfl⟩
theorem lit147 : LitF 147 [] [] [] Try.f147 := litOf Try.func147 (by kernel_rfl)
theorem lit149 : LitF 149 [] [] [] Try.f149 := litOf Try.func149 (by kernel_rfl)
theorem lit162 : LitF 162 [] [] [(5, [21])] Try.f162 := litOf Try.func162 (by kernel_rfl)
theorem lit164 : LitF 164 [] [] [] Try.f164 := litOf Try.func164 (by kernel_rfl)
theorem lit165 : LitF 165 [2] [] [] Try.f165 := litOf Try.func165 (by kernel_rfl)
theorem lit166 : LitF 166 [2] [] [] Try.f166 := litOf Try.func166 (by kernel_rfl)
theorem lit167 : LitF 167 [1, 2, 3] [] [(4, [11])] Try.f167 := litOf Try.func167 (by kernel_rfl)
theorem lit168 : LitF 168 [1, 2, 3] [] [(4, [11])] Try.f168 := litOf Try.func168 (by kernel_rfl)
theorem lit169 : LitF 169 [2, 3] [] [] Try.f169 := litOf Try.func169 (by kernel_rfl)
theorem lit170 : LitF 170 [2, 3] [] [] Try.f170 := litOf Try.func170 (by kernel_rfl)
theorem lit171 : LitF 171 [] [] [] Try.f171 := litOf Try.func171 (by kernel_rfl)
theorem lit173 : LitF 173 [] [] [] Try.f173 := litOf Try.func173 (by kernel_rfl)
theorem lit174 : LitF 174 [2] [] [] Try.f174 := litOf Try.func174 (by kernel_rfl)
theorem lit175 : LitF 175 [1, 2, 3] [] [(4, [11])] Try.f175 := litOf Try.func175 (by kernel_rfl)
theorem lit176 : LitF 176 [2, 3] [] [] Try.f176 := litOf Try.func176 (by kernel_rfl)
theorem lit177 : LitF 177 [] [] [] Try.f177 := litOf Try.func177 (by kernel_rfl)
theorem lit178 : LitF 178 [] [] [] Try.f178 := litOf Try.func178 (by kernel_rfl)
theorem lit179 : LitF 179 [3, 7] [] [(1, [3, 7]), (6, [22])] Try.f179 := litOf Try.func179 (by kernel_rfl)
theorem lit180 : LitF 180 [] [] [] Try.f180 := litOf Try.func180 (by kernel_rfl)
end Go.Proofs.Ytcoalfphehhadaa
