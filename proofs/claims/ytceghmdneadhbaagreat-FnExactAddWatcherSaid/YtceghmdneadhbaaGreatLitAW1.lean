/-
  The functions' code as the program holds it, without places and edges; printed by genlit.py. No conditions.
-/
import Derived.Test.YtceghmdneadhbaaGreatTb
namespace Go.Proofs.YtceghmdneadhbaaGreat
open Go.RowKit
set_option linter.unusedVariables false
set_option maxRecDepth 100000
theorem lit7 : LitF 7 [2] [] [] Tryz.f7 := litOf Tryz.func7 (by kernel_rfl)
theorem lit8 : LitF 8 [1] [(30, 1), (32, 1), (40, 1), (46, 1)] [] Tryz.f8 := litOf Tryz.func8 (by kernel_rfl)
theorem lit9 : LitF 9 [1, 2, 3] [] [(5, [16])] Tryz.f9 := litOf Tryz.func9 (by kernel_rfl)
theorem lit10 : LitF 10 [1, 3, 5] [(34, 3), (40, 3), (45, 5)] [(6, [33])] Tryz.f10 := litOf Tryz.func10 (by kernel_rfl)
theorem lit11 : LitF 11 [2, 3] [] [] Tryz.f11 := litOf Tryz.func11 (by kernel_rfl)
theorem lit14 : LitF 14 [2, 3] [] [] Tryz.f14 := litOf Tryz.func14 (by kernel_rfl)
/-- laws.markNotifier -/
def c15 : LC :=
  (.seq (.rgn [] [LL 2 (.box 37 (.tmp 0)) 0,
 LL 4 (.assign (.const (.int .i64 0))) 3])
 (.seq (.rgn [] [LL 5 (.fieldAddr 37 (.tmp 2) 0) 0,
 LL 6 (.load 33 (.tmp 5)) 33,
 LL 7 (.move (.tmp 1)) 3,
 LL 8 (.call { callee := (.value (.func 52)), args := #[(.tmp 6), (.tmp 7)], argTypes := #[33, 3] }) 3,
 LL 1 (.assign (.tmp 8)) 3])
 (.seq (.rgn [] [LL 9 (.fieldAddr 37 (.tmp 2) 1) 0,
 LL 10 (.load 34 (.tmp 9)) 34,
 LL 11 (.move (.tmp 1)) 3,
 LL 12 (.call { callee := (.value (.func 53)), args := #[(.tmp 10), (.tmp 11)], argTypes := #[34, 3] }) 3,
 LL 1 (.assign (.tmp 12)) 3])
 (.seq (.rgn [] [LL 13 (.fieldAddr 37 (.tmp 2) 2) 0,
 LL 14 (.load 35 (.tmp 13)) 35,
 LL 15 (.move (.tmp 1)) 3,
 LL 16 (.call { callee := (.value (.func 54)), args := #[(.tmp 14), (.tmp 15)], argTypes := #[35, 3] }) 3,
 LL 1 (.assign (.tmp 16)) 3])
 (.seq (.rgn [] [LL 17 (.move (.tmp 1)) 3,
 LL 4 (.assign (.tmp 17)) 3])
 .ret)))))
theorem lit15 : Lit Tryz.prog 15 18 [2] [.tmp 4] c15 := ⟨⟨Tryz.f15, _, Tryz.func15, rfl, by kernel_rfl, rfl, rfl, by kernel_rfl, by kernel_rfl⟩, by decide, by kernel_rfl⟩
theorem lit20 : LitF 20 [2, 3, 4, 6, 7] [(38, 6), (40, 7), (45, 6)] [(2, [11]), (4, [31]), (5, [33, 34]), (6, [39]), (7, [46])] Tryz.f20 := litOf Tryz.func20 (by kernel_rfl)
theorem lit21 : LitF 21 [2, 3, 4, 6, 7] [(38, 6), (40, 7), (46, 6)] [(2, [11]), (4, [31]), (5, [33, 34]), (6, [39]), (7, [47])] Tryz.f21 := litOf Tryz.func21 (by kernel_rfl)
theorem lit25 : LitF 25 [2, 3] [(27, 2), (32, 3)] [] Tryz.f25 := litOf Tryz.func25 (by kernel_rfl)
theorem lit27 : LitF 27 [2] [] [] Tryz.f27 := litOf Tryz.func27 (by kernel_rfl)
theorem lit28 : LitF 28 [1, 2, 3] [] [(5, [15])] Tryz.f28 := litOf Tryz.func28 (by kernel_rfl)
theorem lit29 : LitF 29 [2, 3] [] [] Tryz.f29 := litOf Tryz.func29 (by kernel_rfl)
/-- laws.markQuery -/
def c30 : LC :=
  (.seq (.rgn [] [LL 2 (.box 55 (.tmp 0)) 0,
 LL 4 (.assign (.const (.int .i64 0))) 3])
 (.seq (.rgn [] [LL 5 (.fieldAddr 55 (.tmp 2) 1) 0,
 LL 6 (.load 52 (.tmp 5)) 52,
 LL 7 (.move (.tmp 1)) 3,
 LL 8 (.call { callee := (.value (.func 81)), args := #[(.tmp 6), (.tmp 7)], argTypes := #[52, 3] }) 3,
 LL 1 (.assign (.tmp 8)) 3])
 (.seq (.rgn [] [LL 9 (.fieldAddr 55 (.tmp 2) 2) 0,
 LL 10 (.load 53 (.tmp 9)) 53,
 LL 11 (.move (.tmp 1)) 3,
 LL 12 (.call { callee := (.value (.func 82)), args := #[(.tmp 10), (.tmp 11)], argTypes := #[53, 3] }) 3,
 LL 1 (.assign (.tmp 12)) 3])
 (.seq (.rgn [] [LL 13 (.move (.tmp 1)) 3,
 LL 4 (.assign (.tmp 13)) 3])
 .ret))))
theorem lit30 : Lit Tryz.prog 30 14 [2] [.tmp 4] c30 := ⟨⟨Tryz.f30, _, Tryz.func30, rfl, by kernel_rfl, rfl, rfl, by kernel_rfl, by kernel_rfl⟩, by decide, by kernel_rfl⟩
theorem lit31 : LitF 31 [2] [] [] Tryz.f31 := litOf Tryz.func31 (by kernel_rfl)
theorem lit32 : LitF 32 [2] [] [] Tryz.f32 := litOf Tryz.func32 (by kernel_rfl)
theorem lit33 : LitF 33 [] [] [] Tryz.f33 := litOf Tryz.func33 (by kernel_rfl)
theorem lit34 : LitF 34 [] [] [] Tryz.f34 := litOf Tryz.func34 (by kernel_rfl)
theorem lit35 : LitF 35 [1, 4] [(17, 4), (25, 1), (32, 4), (38, 4), (44, 4), (45, 4), (51, 4), (52, 4)] [(4, [16])] Tryz.f35 := litOf Tryz.func35 (by kernel_rfl)
theorem lit36 : LitF 36 [2, 3, 5] [] [(1, [7])] Tryz.f36 := litOf Tryz.func36 (by kernel_rfl)
theorem lit37 : LitF 37 [2, 3] [] [] Tryz.f37 := litOf Tryz.func37 (by kernel_rfl)
theorem lit38 : LitF 38 [1, 2, 3] [] [(3, [8])] Tryz.f38 := litOf Tryz.func38 (by kernel_rfl)
theorem lit39 : LitF 39 [3, 7] [] [(1, [3, 7]), (6, [22])] Tryz.f39 := litOf Tryz.func39 (by kernel_rfl)
theorem lit40 : LitF 40 [3, 7] [] [(1, [3, 7]), (6, [22])] Tryz.f40 := litOf Tryz.func40 (by kernel_rfl)
theorem lit41 : LitF 41 [1, 4] [(17, 4), (25, 1), (32, 4), (38, 4), (44, 4), (45, 4), (50, 4), (51, 4)] [(5, [16])] Tryz.f41 := litOf Tryz.func41 (by kernel_rfl)
theorem lit42 : LitF 42 [2, 3, 5] [] [(1, [7])] Tryz.f42 := litOf Tryz.func42 (by kernel_rfl)
theorem lit43 : LitF 43 [2, 3] [] [] Tryz.f43 := litOf Tryz.func43 (by kernel_rfl)
theorem lit44 : LitF 44 [2, 3] [] [] Tryz.f44 := litOf Tryz.func44 (by kernel_rfl)
theorem lit45 : LitF 45 [] [] [] Tryz.f45 := litOf Tryz.func45 (by kernel_rfl)
theorem lit46 : LitF 46 [] [] [] Tryz.f46 := litOf Tryz.func46 (by kernel_rfl)
theorem lit47 : LitF 47 [] [] [] Tryz.f47 := litOf Tryz.func47 (by kernel_rfl)
theorem lit49 : LitF 49 [] [] [] Tryz.f49 := litOf Tryz.func49 (by kernel_rfl)
theorem lit51 : LitF 51 [] [] [] Tryz.f51 := litOf Tryz.func51 (by kernel_rfl)
/-- laws.markDatabase -/
def c52 : LC :=
  (.seq (.rgn [] [LL 2 (.box 33 (.tmp 0)) 0,
 LL 4 (.assign (.const (.int .i64 0))) 3])
 (.seq (.rgn [] [LL 5 (.fieldAddr 33 (.tmp 2) 0) 0,
 LL 6 (.load 31 (.tmp 5)) 31,
 LL 7 (.move (.tmp 1)) 3,
 LL 8 (.call { callee := (.value (.func 104)), args := #[(.tmp 6), (.tmp 7)], argTypes := #[31, 3] }) 3,
 LL 1 (.assign (.tmp 8)) 3])
 (.seq (.rgn [] [LL 9 (.move (.tmp 1)) 3,
 LL 4 (.assign (.tmp 9)) 3])
 .ret)))
theorem lit52 : Lit Tryz.prog 52 10 [2] [.tmp 4] c52 := ⟨⟨Tryz.f52, _, Tryz.func52, rfl, by kernel_rfl, rfl, rfl, by kernel_rfl, by kernel_rfl⟩, by decide, by kernel_rfl⟩
/-- laws.markViewS -/
def c53 : LC :=
  (.seq (.rgn [] [LL 4 (.assign (.const (.int .i64 0))) 3])
 (.seq (.seq (.rgn [] [LL 5 (.assign (.const (.int .i64 0))) 3])
 (.blk 0
 (.loop []
 (.seq (.seq (.rgn [] [LL 6 (.move (.tmp 5)) 3,
 LL 7 (.move (.tmp 0)) 34,
 LL 8 (.call { callee := (.builtin .len), args := #[(.tmp 7)], argTypes := #[34] }) 3,
 LL 9 (.binOp .lss 3 (.tmp 6) (.tmp 8) 3) 4])
 (.cond (.tmp 9)
 .skip
 (.exit 0)))
 (.seq (.blk 1
 (.seq (.rgn [] [LL 12 (.move (.tmp 0)) 34,
 LL 13 (.move (.tmp 5)) 3,
 LL 14 (.move (.tmp 1)) 3,
 LL 15 (.indexAddr 34 (.tmp 12) (.tmp 13)) 0,
 LL 16 (.fieldAddr 78 (.tmp 15) 0) 0,
 LL 17 (.fieldAddr 55 (.tmp 16) 0) 0,
 ⟨none, (.store 3 (.tmp 17) (.tmp 14)), 0, none⟩])
 (.seq (.rgn [] [LL 18 (.move (.tmp 1)) 3,
 LL 19 (.binOp .add 3 (.tmp 18) (.const (.int .i64 1)) 3) 3,
 LL 1 (.assign (.tmp 19)) 3])
 (.seq (.rgn [] [LL 20 (.move (.tmp 0)) 34,
 LL 21 (.move (.tmp 5)) 3,
 LL 22 (.indexAddr 34 (.tmp 20) (.tmp 21)) 0,
 LL 23 (.fieldAddr 78 (.tmp 22) 0) 0,
 LL 24 (.fieldAddr 55 (.tmp 23) 1) 0,
 LL 25 (.load 52 (.tmp 24)) 52,
 LL 26 (.move (.tmp 1)) 3,
 LL 27 (.call { callee := (.value (.func 81)), args := #[(.tmp 25), (.tmp 26)], argTypes := #[52, 3] }) 3,
 LL 1 (.assign (.tmp 27)) 3])
 (.seq (.rgn [] [LL 28 (.move (.tmp 0)) 34,
 LL 29 (.move (.tmp 5)) 3,
 LL 30 (.indexAddr 34 (.tmp 28) (.tmp 29)) 0,
 LL 31 (.fieldAddr 78 (.tmp 30) 0) 0,
 LL 32 (.fieldAddr 55 (.tmp 31) 2) 0,
 LL 33 (.load 53 (.tmp 32)) 53,
 LL 34 (.move (.tmp 1)) 3,
 LL 35 (.call { callee := (.value (.func 82)), args := #[(.tmp 33), (.tmp 34)], argTypes := #[53, 3] }) 3,
 LL 1 (.assign (.tmp 35)) 3])
 (.seq (.rgn [] [LL 36 (.move (.tmp 0)) 34,
 LL 37 (.move (.tmp 5)) 3,
 LL 38 (.move (.tmp 1)) 3,
 LL 39 (.indexAddr 34 (.tmp 36) (.tmp 37)) 0,
 LL 40 (.fieldAddr 78 (.tmp 39) 1) 0,
 LL 41 (.fieldAddr 76 (.tmp 40) 0) 0,
 ⟨none, (.store 3 (.tmp 41) (.tmp 38)), 0, none⟩])
 (.seq (.rgn [] [LL 42 (.move (.tmp 1)) 3,
 LL 43 (.binOp .add 3 (.tmp 42) (.const (.int .i64 1)) 3) 3,
 LL 1 (.assign (.tmp 43)) 3])
 (.seq (.rgn [] [LL 44 (.move (.tmp 0)) 34,
 LL 45 (.move (.tmp 5)) 3,
 LL 46 (.indexAddr 34 (.tmp 44) (.tmp 45)) 0,
 LL 47 (.fieldAddr 78 (.tmp 46) 1) 0,
 LL 48 (.fieldAddr 76 (.tmp 47) 1) 0,
 LL 49 (.load 41 (.tmp 48)) 41,
 LL 50 (.move (.tmp 1)) 3,
 LL 51 (.call { callee := (.value (.func 55)), args := #[(.tmp 49), (.tmp 50)], argTypes := #[41, 3] }) 3,
 LL 1 (.assign (.tmp 51)) 3])
 (.rgn [] [LL 52 (.move (.tmp 0)) 34,
 LL 53 (.move (.tmp 5)) 3,
 LL 54 (.indexAddr 34 (.tmp 52) (.tmp 53)) 0,
 LL 55 (.fieldAddr 78 (.tmp 54) 1) 0,
 LL 56 (.fieldAddr 76 (.tmp 55) 2) 0,
 LL 57 (.load 53 (.tmp 56)) 53,
 LL 58 (.move (.tmp 1)) 3,
 LL 59 (.call { callee := (.value (.func 82)), args := #[(.tmp 57), (.tmp 58)], argTypes := #[53, 3] }) 3,
 LL 1 (.assign (.tmp 59)) 3])))))))))
 (.rgn [] [LL 10 (.move (.tmp 5)) 3,
 LL 11 (.binOp .add 3 (.tmp 10) (.const (.int .i64 1)) 3) 3,
 LL 5 (.assign (.tmp 11)) 3]))))))
 (.seq (.rgn [] [LL 60 (.move (.tmp 1)) 3,
 LL 4 (.assign (.tmp 60)) 3])
 .ret)))
theorem lit53 : Lit Tryz.prog 53 61 [] [.tmp 4] c53 := ⟨⟨Tryz.f53, _, Tryz.func53, rfl, by kernel_rfl, rfl, rfl, by kernel_rfl, by kernel_rfl⟩, by decide, by kernel_rfl⟩
/-- laws.markCountedRelationS -/
def c54 : LC :=
  (.seq (.rgn [] [LL 4 (.assign (.const (.int .i64 0))) 3])
 (.seq (.seq (.rgn [] [LL 5 (.assign (.const (.int .i64 0))) 3])
 (.blk 0
 (.loop []
 (.seq (.seq (.rgn [] [LL 6 (.move (.tmp 5)) 3,
 LL 7 (.move (.tmp 0)) 35,
 LL 8 (.call { callee := (.builtin .len), args := #[(.tmp 7)], argTypes := #[35] }) 3,
 LL 9 (.binOp .lss 3 (.tmp 6) (.tmp 8) 3) 4])
 (.cond (.tmp 9)
 .skip
 (.exit 0)))
 (.seq (.blk 1
 (.seq (.rgn [] [LL 12 (.move (.tmp 0)) 35,
 LL 13 (.move (.tmp 5)) 3,
 LL 14 (.move (.tmp 1)) 3,
 LL 15 (.indexAddr 35 (.tmp 12) (.tmp 13)) 0,
 LL 16 (.fieldAddr 76 (.tmp 15) 0) 0,
 ⟨none, (.store 3 (.tmp 16) (.tmp 14)), 0, none⟩])
 (.seq (.rgn [] [LL 17 (.move (.tmp 1)) 3,
 LL 18 (.binOp .add 3 (.tmp 17) (.const (.int .i64 1)) 3) 3,
 LL 1 (.assign (.tmp 18)) 3])
 (.seq (.rgn [] [LL 19 (.move (.tmp 0)) 35,
 LL 20 (.move (.tmp 5)) 3,
 LL 21 (.indexAddr 35 (.tmp 19) (.tmp 20)) 0,
 LL 22 (.fieldAddr 76 (.tmp 21) 1) 0,
 LL 23 (.load 41 (.tmp 22)) 41,
 LL 24 (.move (.tmp 1)) 3,
 LL 25 (.call { callee := (.value (.func 55)), args := #[(.tmp 23), (.tmp 24)], argTypes := #[41, 3] }) 3,
 LL 1 (.assign (.tmp 25)) 3])
 (.rgn [] [LL 26 (.move (.tmp 0)) 35,
 LL 27 (.move (.tmp 5)) 3,
 LL 28 (.indexAddr 35 (.tmp 26) (.tmp 27)) 0,
 LL 29 (.fieldAddr 76 (.tmp 28) 2) 0,
 LL 30 (.load 53 (.tmp 29)) 53,
 LL 31 (.move (.tmp 1)) 3,
 LL 32 (.call { callee := (.value (.func 82)), args := #[(.tmp 30), (.tmp 31)], argTypes := #[53, 3] }) 3,
 LL 1 (.assign (.tmp 32)) 3])))))
 (.rgn [] [LL 10 (.move (.tmp 5)) 3,
 LL 11 (.binOp .add 3 (.tmp 10) (.const (.int .i64 1)) 3) 3,
 LL 5 (.assign (.tmp 11)) 3]))))))
 (.seq (.rgn [] [LL 33 (.move (.tmp 1)) 3,
 LL 4 (.assign (.tmp 33)) 3])
 .ret)))
theorem lit54 : Lit Tryz.prog 54 34 [] [.tmp 4] c54 := ⟨⟨Tryz.f54, _, Tryz.func54, rfl, by kernel_rfl, rfl, rfl, by kernel_rfl, by kernel_rfl⟩, by decide, by kernel_rfl⟩
/-- laws.markIntSS -/
def c55 : LC :=
  (.seq (.rgn [] [LL 4 (.assign (.const (.int .i64 0))) 3])
 (.seq (.seq (.rgn [] [LL 5 (.assign (.const (.int .i64 0))) 3])
 (.blk 0
 (.loop []
 (.seq (.seq (.rgn [] [LL 6 (.move (.tmp 5)) 3,
 LL 7 (.move (.tmp 0)) 41,
 LL 8 (.call { callee := (.builtin .len), args := #[(.tmp 7)], argTypes := #[41] }) 3,
 LL 9 (.binOp .lss 3 (.tmp 6) (.tmp 8) 3) 4])
 (.cond (.tmp 9)
 .skip
 (.exit 0)))
 (.seq (.blk 1
 (.rgn [] [LL 12 (.move (.tmp 0)) 41,
 LL 13 (.move (.tmp 5)) 3,
 LL 14 (.indexAddr 41 (.tmp 12) (.tmp 13)) 0,
 LL 15 (.load 53 (.tmp 14)) 53,
 LL 16 (.move (.tmp 1)) 3,
 LL 17 (.call { callee := (.value (.func 82)), args := #[(.tmp 15), (.tmp 16)], argTypes := #[53, 3] }) 3,
 LL 1 (.assign (.tmp 17)) 3]))
 (.rgn [] [LL 10 (.move (.tmp 5)) 3,
 LL 11 (.binOp .add 3 (.tmp 10) (.const (.int .i64 1)) 3) 3,
 LL 5 (.assign (.tmp 11)) 3]))))))
 (.seq (.rgn [] [LL 18 (.move (.tmp 1)) 3,
 LL 4 (.assign (.tmp 18)) 3])
 .ret)))
theorem lit55 : Lit Tryz.prog 55 19 [] [.tmp 4] c55 := ⟨⟨Tryz.f55, _, Tryz.func55, rfl, by kernel_rfl, rfl, rfl, by kernel_rfl, by kernel_rfl⟩, by decide, by kernel_rfl⟩
theorem lit56 : LitF 56 [] [] [] Tryz.f56 := litOf Tryz.func56 (by kernel_rfl)
theorem lit60 : LitF 60 [1, 2, 3, 5, 7] [(19, 3), (25, 3), (34, 3), (40, 3)] [(4, [18]), (5, [20]), (9, [33]), (10, [35]), (12, [42])] Tryz.f60 := litOf Tryz.func60 (by kernel_rfl)
theorem lit61 : LitF 61 [2, 3, 4, 6, 8, 10] [] [(1, [12]), (4, [21]), (5, [26]), (8, [38])] Tryz.f61 := litOf Tryz.func61 (by kernel_rfl)
theorem lit62 : LitF 62 [1, 2] [(3, 1), (5, 1), (8, 1)] [] Tryz.f62 := litOf Tryz.func62 (by kernel_rfl)
theorem lit63 : LitF 63 [1, 2, 3, 4] [(19, 4), (21, 1), (29, 4), (37, 4), (39, 1), (48, 4)] [(2, [10]), (6, [20]), (10, [38]), (11, [49])] Tryz.f63 := litOf Tryz.func63 (by kernel_rfl)
theorem lit64 : LitF 64 [2, 3, 4, 6] [] [(1, [8]), (4, [19])] Tryz.f64 := litOf Tryz.func64 (by kernel_rfl)
theorem lit65 : LitF 65 [1, 2, 3, 4] [(22, 4), (24, 1), (32, 4)] [(2, [13]), (6, [23]), (7, [33])] Tryz.f65 := litOf Tryz.func65 (by kernel_rfl)
theorem lit68 : LitF 68 [2, 3, 4, 6] [(23, 3)] [(5, [19]), (6, [22]), (9, [35])] Tryz.f68 := litOf Tryz.func68 (by kernel_rfl)
theorem lit69 : LitF 69 [2, 3, 6] [(17, 3), (29, 6), (31, 3)] [(4, [15])] Tryz.f69 := litOf Tryz.func69 (by kernel_rfl)
theorem lit71 : LitF 71 [1, 2, 3, 5] [(13, 3), (15, 5), (17, 5), (23, 3)] [(4, [12]), (5, [14]), (7, [25])] Tryz.f71 := litOf Tryz.func71 (by kernel_rfl)
theorem lit72 : LitF 72 [] [] [] Tryz.f72 := litOf Tryz.func72 (by kernel_rfl)
theorem lit75 : LitF 75 [] [] [] Tryz.f75 := litOf Tryz.func75 (by kernel_rfl)
theorem lit76 : LitF 76 [] [] [] Tryz.f76 := litOf Tryz.func76 (by kernel_rfl)
theorem lit77 : LitF 77 [3, 7] [] [(1, [3, 7]), (6, [22])] Tryz.f77 := litOf Tryz.func77 (by kernel_rfl)
theorem lit78 : LitF 78 [3, 7] [] [(1, [3, 7]), (6, [21])] Tryz.f78 := litOf Tryz.func78 (by kernel_rfl)
theorem lit79 : LitF 79 [] [] [] Tryz.f79 := litOf Tryz.func79 (by kernel_rfl)
theorem lit80 : LitF 80 [] [] [] Tryz.f80 := litOf Tryz.func80 (by kernel_rfl)
/-- laws.markAtomS -/
def c81 : LC :=
  (.seq (.rgn [] [LL 4 (.assign (.const (.int .i64 0))) 3])
 (.seq (.seq (.rgn [] [LL 5 (.assign (.const (.int .i64 0))) 3])
 (.blk 0
 (.loop []
 (.seq (.seq (.rgn [] [LL 6 (.move (.tmp 5)) 3,
 LL 7 (.move (.tmp 0)) 52,
 LL 8 (.call { callee := (.builtin .len), args := #[(.tmp 7)], argTypes := #[52] }) 3,
 LL 9 (.binOp .lss 3 (.tmp 6) (.tmp 8) 3) 4])
 (.cond (.tmp 9)
 .skip
 (.exit 0)))
 (.seq (.blk 1
 (.seq (.rgn [] [LL 12 (.move (.tmp 0)) 52,
 LL 13 (.move (.tmp 5)) 3,
 LL 14 (.move (.tmp 1)) 3,
 LL 15 (.call { callee := (.value (.func 137)), args := #[(.tmp 14)], argTypes := #[3] }) 9,
 LL 16 (.indexAddr 52 (.tmp 12) (.tmp 13)) 0,
 LL 17 (.fieldAddr 148 (.tmp 16) 0) 0,
 ⟨none, (.store 9 (.tmp 17) (.tmp 15)), 0, none⟩])
 (.seq (.rgn [] [LL 18 (.move (.tmp 1)) 3,
 LL 19 (.binOp .add 3 (.tmp 18) (.const (.int .i64 1)) 3) 3,
 LL 1 (.assign (.tmp 19)) 3])
 (.rgn [] [LL 20 (.move (.tmp 0)) 52,
 LL 21 (.move (.tmp 5)) 3,
 LL 22 (.indexAddr 52 (.tmp 20) (.tmp 21)) 0,
 LL 23 (.fieldAddr 148 (.tmp 22) 1) 0,
 LL 24 (.load 53 (.tmp 23)) 53,
 LL 25 (.move (.tmp 1)) 3,
 LL 26 (.call { callee := (.value (.func 82)), args := #[(.tmp 24), (.tmp 25)], argTypes := #[53, 3] }) 3,
 LL 1 (.assign (.tmp 26)) 3]))))
 (.rgn [] [LL 10 (.move (.tmp 5)) 3,
 LL 11 (.binOp .add 3 (.tmp 10) (.const (.int .i64 1)) 3) 3,
 LL 5 (.assign (.tmp 11)) 3]))))))
 (.seq (.rgn [] [LL 27 (.move (.tmp 1)) 3,
 LL 4 (.assign (.tmp 27)) 3])
 .ret)))
theorem lit81 : Lit Tryz.prog 81 28 [] [.tmp 4] c81 := ⟨⟨Tryz.f81, _, Tryz.func81, rfl, by kernel_rfl, rfl, rfl, by kernel_rfl, by kernel_rfl⟩, by decide, by kernel_rfl⟩
/-- laws.markIntS -/
def c82 : LC :=
  (.seq (.rgn [] [LL 4 (.assign (.const (.int .i64 0))) 3])
 (.seq (.seq (.rgn [] [LL 5 (.assign (.const (.int .i64 0))) 3])
 (.blk 0
 (.loop []
 (.seq (.seq (.rgn [] [LL 6 (.move (.tmp 5)) 3,
 LL 7 (.move (.tmp 0)) 53,
 LL 8 (.call { callee := (.builtin .len), args := #[(.tmp 7)], argTypes := #[53] }) 3,
 LL 9 (.binOp .lss 3 (.tmp 6) (.tmp 8) 3) 4])
 (.cond (.tmp 9)
 .skip
 (.exit 0)))
 (.seq (.blk 1
 (.seq (.rgn [] [LL 12 (.move (.tmp 0)) 53,
 LL 13 (.move (.tmp 5)) 3,
 LL 14 (.move (.tmp 1)) 3,
 LL 15 (.indexAddr 53 (.tmp 12) (.tmp 13)) 0,
 ⟨none, (.store 3 (.tmp 15) (.tmp 14)), 0, none⟩])
 (.rgn [] [LL 16 (.move (.tmp 1)) 3,
 LL 17 (.binOp .add 3 (.tmp 16) (.const (.int .i64 1)) 3) 3,
 LL 1 (.assign (.tmp 17)) 3])))
 (.rgn [] [LL 10 (.move (.tmp 5)) 3,
 LL 11 (.binOp .add 3 (.tmp 10) (.const (.int .i64 1)) 3) 3,
 LL 5 (.assign (.tmp 11)) 3]))))))
 (.seq (.rgn [] [LL 18 (.move (.tmp 1)) 3,
 LL 4 (.assign (.tmp 18)) 3])
 .ret)))
theorem lit82 : Lit Tryz.prog 82 19 [] [.tmp 4] c82 := ⟨⟨Tryz.f82, _, Tryz.func82, rfl, by kernel_rfl, rfl, rfl, by kernel_rfl, by kernel_rfl⟩, by decide, by kernel_rfl⟩
theorem lit83 : LitF 83 [2] [] [] Tryz.f83 := litOf Tryz.func83 (by kernel_rfl)
theorem lit84 : LitF 84 [] [] [] Tryz.f84 := litOf Tryz.func84 (by kernel_rfl)
theorem lit85 : LitF 85 [] [] [] Tryz.f85 := litOf Tryz.func85 (by kernel_rfl)
theorem lit86 : LitF 86 [] [] [] Tryz.f86 := litOf Tryz.func86 (by kernel_rfl)
theorem lit87 : LitF 87 [2] [] [] Tryz.f87 := litOf Tryz.func87 (by kernel_rfl)
theorem lit88 : LitF 88 [2] [] [] Tryz.f88 := litOf Tryz.func88 (by kernel_rfl)
theorem lit89 : LitF 89 [] [] [] Tryz.f89 := litOf Tryz.func89 (by kernel_rfl)
theorem lit90 : LitF 90 [1] [(21, 1), (27, 1), (31, 1), (43, 1), (49, 1)] [] Tryz.f90 := litOf Tryz.func90 (by kernel_rfl)
theorem lit91 : LitF 91 [2, 3, 4, 6, 7, 9] [] [(4, [26]), (5, [31]), (6, [38])] Tryz.f91 := litOf Tryz.func91 (by kernel_rfl)
theorem lit92 : LitF 92 [3, 7] [] [(1, [3, 7]), (6, [22])] Tryz.f92 := litOf Tryz.func92 (by kernel_rfl)
theorem lit93 : LitF 93 [1, 2, 3] [] [(4, [12])] Tryz.f93 := litOf Tryz.func93 (by kernel_rfl)
theorem lit94 : LitF 94 [1, 2, 3] [] [(5, [15])] Tryz.f94 := litOf Tryz.func94 (by kernel_rfl)
theorem lit95 : LitF 95 [] [] [] Tryz.f95 := litOf Tryz.func95 (by kernel_rfl)
theorem lit96 : LitF 96 [1] [] [] Tryz.f96 := litOf Tryz.func96 (by kernel_rfl)
theorem lit97 : LitF 97 [] [] [] Tryz.f97 := litOf Tryz.func97 (by kernel_rfl)
theorem lit98 : LitF 98 [] [] [] Tryz.f98 := litOf Tryz.func98 (by kernel_rfl)
theorem lit99 : LitF 99 [] [] [] Tryz.f99 := litOf Tryz.func99 (by kernel_rfl)
theorem lit100 : LitF 100 [2, 3] [] [] Tryz.f100 := litOf Tryz.func100 (by kernel_rfl)
theorem lit101 : LitF 101 [2, 3] [] [] Tryz.f101 := litOf Tryz.func101 (by kernel_rfl)
/-- laws.markTableS -/
def c104 : LC :=
  (.seq (.rgn [] [LL 4 (.assign (.const (.int .i64 0))) 3])
 (.seq (.seq (.rgn [] [LL 5 (.assign (.const (.int .i64 0))) 3])
 (.blk 0
 (.loop []
 (.seq (.seq (.rgn [] [LL 6 (.move (.tmp 5)) 3,
 LL 7 (.move (.tmp 0)) 31,
 LL 8 (.call { callee := (.builtin .len), args := #[(.tmp 7)], argTypes := #[31] }) 3,
 LL 9 (.binOp .lss 3 (.tmp 6) (.tmp 8) 3) 4])
 (.cond (.tmp 9)
 .skip
 (.exit 0)))
 (.seq (.blk 1
 (.seq (.rgn [] [LL 12 (.move (.tmp 0)) 31,
 LL 13 (.move (.tmp 5)) 3,
 LL 14 (.move (.tmp 1)) 3,
 LL 15 (.call { callee := (.value (.func 137)), args := #[(.tmp 14)], argTypes := #[3] }) 9,
 LL 16 (.indexAddr 31 (.tmp 12) (.tmp 13)) 0,
 LL 17 (.fieldAddr 120 (.tmp 16) 0) 0,
 ⟨none, (.store 9 (.tmp 17) (.tmp 15)), 0, none⟩])
 (.seq (.rgn [] [LL 18 (.move (.tmp 1)) 3,
 LL 19 (.binOp .add 3 (.tmp 18) (.const (.int .i64 1)) 3) 3,
 LL 1 (.assign (.tmp 19)) 3])
 (.seq (.rgn [] [LL 20 (.move (.tmp 0)) 31,
 LL 21 (.move (.tmp 5)) 3,
 LL 22 (.move (.tmp 1)) 3,
 LL 23 (.indexAddr 31 (.tmp 20) (.tmp 21)) 0,
 LL 24 (.fieldAddr 120 (.tmp 23) 1) 0,
 LL 25 (.fieldAddr 43 (.tmp 24) 0) 0,
 ⟨none, (.store 3 (.tmp 25) (.tmp 22)), 0, none⟩])
 (.seq (.rgn [] [LL 26 (.move (.tmp 1)) 3,
 LL 27 (.binOp .add 3 (.tmp 26) (.const (.int .i64 1)) 3) 3,
 LL 1 (.assign (.tmp 27)) 3])
 (.rgn [] [LL 28 (.move (.tmp 0)) 31,
 LL 29 (.move (.tmp 5)) 3,
 LL 30 (.indexAddr 31 (.tmp 28) (.tmp 29)) 0,
 LL 31 (.fieldAddr 120 (.tmp 30) 1) 0,
 LL 32 (.fieldAddr 43 (.tmp 31) 1) 0,
 LL 33 (.load 41 (.tmp 32)) 41,
 LL 34 (.move (.tmp 1)) 3,
 LL 35 (.call { callee := (.value (.func 55)), args := #[(.tmp 33), (.tmp 34)], argTypes := #[41, 3] }) 3,
 LL 1 (.assign (.tmp 35)) 3]))))))
 (.rgn [] [LL 10 (.move (.tmp 5)) 3,
 LL 11 (.binOp .add 3 (.tmp 10) (.const (.int .i64 1)) 3) 3,
 LL 5 (.assign (.tmp 11)) 3]))))))
 (.seq (.rgn [] [LL 36 (.move (.tmp 1)) 3,
 LL 4 (.assign (.tmp 36)) 3])
 .ret)))
theorem lit104 : Lit Tryz.prog 104 37 [] [.tmp 4] c104 := ⟨⟨Tryz.f104, _, Tryz.func104, rfl, by kernel_rfl, rfl, rfl, by kernel_rfl, by kernel_rfl⟩, by decide, by kernel_rfl⟩
theorem lit105 : LitF 105 [] [] [] Tryz.f105 := litOf Tryz.func105 (by kernel_rfl)
theorem lit116 : LitF 116 [1, 2] [(3, 1), (6, 1)] [] Tryz.f116 := litOf Tryz.func116 (by kernel_rfl)
theorem lit117 : LitF 117 [2, 3, 4, 9, 10, 19] [(76, 3)] [(7, [34]), (13, [47]), (16, [55]), (17, [56]), (19, [67, 68]), (22, [73]), (23, [74]), (28, [85])] Tryz.f117 := litOf Tryz.func117 (by kernel_rfl)
theorem lit118 : LitF 118 [1, 2, 4] [(9, 1), (11, 1)] [(6, [21]), (8, [26])] Tryz.f118 := litOf Tryz.func118 (by kernel_rfl)
theorem lit119 : LitF 119 [2, 4, 6, 9] [(35, 2)] [(6, [31]), (12, [48])] Tryz.f119 := litOf Tryz.func119 (by kernel_rfl)
theorem lit120 : LitF 120 [1, 2, 3, 5] [(6, 1), (8, 1), (19, 3), (21, 5), (23, 5), (29, 3)] [(4, [18]), (5, [20]), (7, [31])] Tryz.f120 := litOf Tryz.func120 (by kernel_rfl)
theorem lit121 : LitF 121 [] [] [(4, [11]), (5, [12]), (7, [18])] Tryz.f121 := litOf Tryz.func121 (by kernel_rfl)
theorem lit122 : LitF 122 [] [] [(1, [4])] Tryz.f122 := litOf Tryz.func122 (by kernel_rfl)
theorem lit123 : LitF 123 [1, 2, 3, 5] [(21, 3), (23, 1), (33, 3)] [(6, [22, 29]), (7, [34])] Tryz.f123 := litOf Tryz.func123 (by kernel_rfl)
theorem lit124 : LitF 124 [1, 2] [(3, 1), (6, 1)] [] Tryz.f124 := litOf Tryz.func124 (by kernel_rfl)
theorem lit125 : LitF 125 [1, 2, 3] [(5, 1), (8, 1), (19, 3), (21, 1), (28, 1), (38, 3)] [(5, [20, 33]), (6, [39])] Tryz.f125 := litOf Tryz.func125 (by kernel_rfl)
theorem lit126 : LitF 126 [1, 2, 3] [(15, 3), (18, 1), (26, 3)] [(5, [16, 22]), (6, [27])] Tryz.f126 := litOf Tryz.func126 (by kernel_rfl)
theorem lit127 : LitF 127 [4, 7] [] [(9, [39])] Tryz.f127 := litOf Tryz.func127 (by kernel_rfl)
theorem lit128 : LitF 128 [4, 5, 10] [(29, 5), (76, 10)] [(2, [23]), (4, [27]), (8, [46]), (17, [98]), (18, [106])] Tryz.f128 := litOf Tryz.func128 (by kernel_rfl)
theorem lit129 : LitF 129 [2, 4] [] [] Tryz.f129 := litOf Tryz.func129 (by kernel_rfl)
theorem lit130 : LitF 130 [1] [(65, 1), (74, 1), (111, 1), (116, 1), (122, 1), (126, 1)] [] Tryz.f130 := litOf Tryz.func130 (by kernel_rfl)
theorem lit131 : LitF 131 [] [] [(5, [14]), (6, [24])] Tryz.f131 := litOf Tryz.func131 (by kernel_rfl)
theorem lit132 : LitF 132 [1, 2] [(3, 1), (5, 1)] [] Tryz.f132 := litOf Tryz.func132 (by kernel_rfl)
theorem lit134 : LitF 134 [2] [] [] Tryz.f134 := litOf Tryz.func134 (by kernel_rfl)
theorem lit135 : LitF 135 [1, 2, 3] [] [(4, [11])] Tryz.f135 := litOf Tryz.func135 (by kernel_rfl)
theorem lit136 : LitF 136 [2, 3] [] [] Tryz.f136 := litOf Tryz.func136 (by kernel_rfl)
theorem lit137 : LitF 137 [] [] [] Tryz.f137 := litOf Tryz.func137 (by kernel_rfl)
theorem lit138 : LitF 138 [] [] [] Tryz.f138 := litOf Tryz.func138 (by kernel_rfl)
theorem lit139 : LitF 139 [] [] [] Tryz.f139 := litOf Tryz.func139 (by kernel_rfl)
theorem lit140 : LitF 140 [2] [] [] Tryz.f140 := litOf Tryz.func140 (by kernel_rfl)
theorem lit141 : LitF 141 [] [] [] Tryz.f141 := litOf Tryz.func141 (by kernel_rfl)
theorem lit142 : LitF 142 [] [] [] Tryz.f142 := litOf Tryz.func142 (by kernel_rfl)
theorem lit143 : LitF 143 [1, 2, 4, 5] [] [(4, [16]), (8, [26]), (9, [30])] Tryz.f143 := litOf Tryz.func143 (by kernel_rfl)
theorem lit144 : LitF 144 [2, 4, 9] [(21, 2)] [(12, [44]), (13, [54]), (14, [63])] Tryz.f144 := litOf Tryz.func144 (by kernel_rfl)
theorem lit145 : LitF 145 [1, 2, 3] [] [(4, [11])] Tryz.f145 := litOf Tryz.func145 (by kernel_rfl)
theorem lit146 : LitF 146 [3, 7] [] [(1, [3, 7]), (6, [22])] Tryz.f146 := litOf Tryz.func146 (by kernel_rfl)
theorem lit147 : LitF 147 [] [] [] Tryz.f147 := litOf Tryz.func147 (by kernel_rfl)
theorem lit148 : LitF 148 [] [] [(5, [21])] Tryz.f148 := litOf Tryz.func148 (by kernel_rfl)
theorem lit149 : LitF 149 [2, 3] [] [] Tryz.f149 := litOf Tryz.func149 (by kernel_rfl)
theorem lit150 : LitF 150 [1] [] [] Tryz.f150 := litOf Tryz.func150 (by kernel_rfl)
theorem lit151 : LitF 151 [1] [] [] Tryz.f151 := litOf Tryz.func151 (by kernel_rfl)
theorem lit164 : LitF 164 [2, 3, 6, 7] [] [(5, [23]), (6, [24])] Tryz.f164 := litOf Tryz.func164 (by kernel_rfl)
theorem lit165 : LitF 165 [2, 3, 4] [] [] Tryz.f165 := litOf Tryz.func165 (by kernel_rfl)
theorem lit166 : LitF 166 [] [] [(11, [55])] Tryz.f166 := litOf Tryz.func166 (by kernel_rfl)
theorem lit167 : LitF 167 [] [] [(10, [58]), (6, [30]), (12, [66])] Tryz.f167 := litOf Tryz.func167 (by kernel_rfl)
theorem lit168 : LitF 168 [] [] [(13, [47, 50]), (17, [59, 62]), (19, [67])] Tryz.f168 := litOf Tryz.func168 (by kernel_rfl)
theorem lit169 : LitF 169 [] [] [] Tryz.f169 := litOf Tryz.func169 (by kernel_rfl)
theorem lit170 : LitF 170 [0, 1000000] [(0, 0), (28, 0), (30, 0), (31, 0), (32, 0), (41, 0), (42, 0), (43, 0), (48, 0), (49, 0), (50, 0), (51, 0), (52, 0), (53, 0), (61, 0), (62, 0), (63, 0), (68, 0), (69, 0)] [(2, [24])] Tryz.f170 := litOf Tryz.func170 (by kernel_rfl)
theorem lit171 : LitF 171 [] [] [(5, [15]), (7, [23])] Tryz.f171 := litOf Tryz.func171 (by kernel_rfl)
theorem lit172 : LitF 172 [1, 2, 3] [(19, 3), (21, 1), (28, 3)] [(6, [20, 25]), (7, [30]), (9, [36])] Tryz.f172 := litOf Tryz.func172 (by kernel_rfl)
theorem lit173 : LitF 173 [] [] [(2, [12]), (16, [53]), (18, [58]), (21, [75, 76]), (22, [79])] Tryz.f173 := litOf Tryz.func173 (by kernel_rfl)
theorem lit174 : LitF 174 [2] [] [] Tryz.f174 := litOf Tryz.func174 (by kernel_rfl)
theorem lit175 : LitF 175 [] [] [] Tryz.f175 := litOf Tryz.func175 (by kernel_rfl)
theorem lit176 : LitF 176 [2] [] [] Tryz.f176 := litOf Tryz.func176 (by kernel_rfl)
theorem lit177 : LitF 177 [6, 8, 10, 14, 28] [(44, 10), (46, 10), (48, 10), (55, 10), (70, 14), (72, 8), (79, 14), (80, 14), (82, 10), (84, 10), (88, 14)] [(1, [16]), (4, [10, 28]), (15, [71, 76]), (16, [81]), (19, [93])] Tryz.f177 := litOf Tryz.func177 (by kernel_rfl)
theorem lit178 : LitF 178 [1, 2, 3] [] [(4, [11])] Tryz.f178 := litOf Tryz.func178 (by kernel_rfl)
theorem lit179 : LitF 179 [] [] [] Tryz.f179 := litOf Tryz.func179 (by kernel_rfl)
theorem lit180 : LitF 180 [] [] [] Tryz.f180 := litOf Tryz.func180 (by kernel_rfl)
theorem lit186 : LitF 186 [2] [] [] Tryz.f186 := litOf Tryz.func186 (by kernel_rfl)
theorem lit188 : LitF 188 [1, 4, 6, 31] [] [(4, [4, 31]), (7, [38])] Tryz.f188 := litOf Tryz.func188 (by kernel_rfl)
theorem lit189 : LitF 189 [2, 4, 7] [] [(4, [16])] Tryz.f189 := litOf Tryz.func189 (by kernel_rfl)
theorem lit190 : LitF 190 [1] [] [(6, [12]), (7, [16])] Tryz.f190 := litOf Tryz.func190 (by kernel_rfl)
theorem lit191 : LitF 191 [2, 3, 4, 6, 7, 12, 53] [] [(3, [22]), (5, [45]), (9, [52]), (10, [12, 53]), (20, [87, 88]), (23, [97])] Tryz.f191 := litOf Tryz.func191 (by kernel_rfl)
theorem lit192 : LitF 192 [] [] [] Tryz.f192 := litOf Tryz.func192 (by kernel_rfl)
theorem lit193 : LitF 193 [] [] [] Tryz.f193 := litOf Tryz.func193 (by kernel_rfl)
theorem lit194 : LitF 194 [] [] [] Tryz.f194 := litOf Tryz.func194 (by kernel_rfl)
theorem lit196 : LitF 196 [] [] [] Tryz.f196 := litOf Tryz.func196 (by kernel_rfl)
theorem lit197 : LitF 197 [2] [] [] Tryz.f197 := litOf Tryz.func197 (by kernel_rfl)
theorem lit198 : LitF 198 [] [] [] Tryz.f198 := litOf Tryz.func198 (by kernel_rfl)
end Go.Proofs.YtceghmdneadhbaaGreat
