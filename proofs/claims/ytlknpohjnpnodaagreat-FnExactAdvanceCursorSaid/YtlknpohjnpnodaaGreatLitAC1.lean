/-
  The functions' code as the program holds it, without places and edges; printed by genlit.py. No conditions.
-/
import Derived.Test.YtlknpohjnpnodaaGreatTb
namespace Go.Proofs.YtlknpohjnpnodaaGreat
open Go.RowKit
set_option linter.unusedVariables false
set_option maxRecDepth 100000
theorem lit7 : LitF 7 [2, 3, 4, 7, 8] [(12, 3), (14, 3), (17, 3), (20, 3)] [(2, [24]), (4, [33]), (5, [34]), (7, [47]), (9, [51, 52])] Tryz.f7 := litOf Tryz.func7 (by kernel_rfl)
theorem lit8 : LitF 8 [2, 3, 4, 7, 8] [] [(2, [14]), (4, [23]), (5, [25]), (7, [38]), (9, [44, 45])] Tryz.f8 := litOf Tryz.func8 (by kernel_rfl)
theorem lit10 : LitF 10 [1, 5] [] [(6, [27])] Tryz.f10 := litOf Tryz.func10 (by kernel_rfl)
theorem lit11 : LitF 11 [1] [] [] Tryz.f11 := litOf Tryz.func11 (by kernel_rfl)
theorem lit16 : LitF 16 [] [] [] Tryz.f16 := litOf Tryz.func16 (by kernel_rfl)
theorem lit17 : LitF 17 [2] [] [] Tryz.f17 := litOf Tryz.func17 (by kernel_rfl)
theorem lit18 : LitF 18 [2] [] [] Tryz.f18 := litOf Tryz.func18 (by kernel_rfl)
theorem lit19 : LitF 19 [1, 2, 3] [] [(4, [11])] Tryz.f19 := litOf Tryz.func19 (by kernel_rfl)
theorem lit20 : LitF 20 [1, 2, 3] [] [(6, [19])] Tryz.f20 := litOf Tryz.func20 (by kernel_rfl)
theorem lit21 : LitF 21 [2, 3] [] [] Tryz.f21 := litOf Tryz.func21 (by kernel_rfl)
theorem lit22 : LitF 22 [] [] [] Tryz.f22 := litOf Tryz.func22 (by kernel_rfl)
theorem lit23 : LitF 23 [2, 3] [] [] Tryz.f23 := litOf Tryz.func23 (by kernel_rfl)
/-- laws.markHistory -/
def c24 : LC :=
  (.seq (.rgn [] [LL 2 (.box 26 (.tmp 0)) 0,
 LL 4 (.assign (.const (.int .i64 0))) 3])
 (.seq (.rgn [] [LL 5 (.fieldAddr 26 (.tmp 2) 1) 0,
 LL 6 (.load 24 (.tmp 5)) 24,
 LL 7 (.move (.tmp 1)) 3,
 LL 8 (.call { callee := (.value (.func 56)), args := #[(.tmp 6), (.tmp 7)], argTypes := #[24, 3] }) 3,
 LL 1 (.assign (.tmp 8)) 3])
 (.seq (.rgn [] [LL 9 (.move (.tmp 1)) 3,
 LL 4 (.assign (.tmp 9)) 3])
 .ret)))
theorem lit24 : Lit Tryz.prog 24 10 [2] [.tmp 4] c24 := ⟨⟨Tryz.f24, _, Tryz.func24, rfl, by kernel_rfl, rfl, rfl, by kernel_rfl, by kernel_rfl⟩, by decide, by kernel_rfl⟩
/-- laws.markCursor -/
def c25 : LC :=
  (.seq (.rgn [] [LL 2 (.box 32 (.tmp 0)) 0,
 LL 4 (.assign (.const (.int .i64 0))) 3])
 (.seq (.rgn [] [LL 5 (.fieldAddr 32 (.tmp 2) 1) 0,
 LL 6 (.load 27 (.tmp 5)) 27,
 LL 7 (.move (.tmp 1)) 3,
 LL 8 (.call { callee := (.value (.func 26)), args := #[(.tmp 6), (.tmp 7)], argTypes := #[27, 3] }) 3,
 LL 1 (.assign (.tmp 8)) 3])
 (.seq (.rgn [] [LL 9 (.fieldAddr 32 (.tmp 2) 2) 0,
 LL 10 (.load 27 (.tmp 9)) 27,
 LL 11 (.move (.tmp 1)) 3,
 LL 12 (.call { callee := (.value (.func 26)), args := #[(.tmp 10), (.tmp 11)], argTypes := #[27, 3] }) 3,
 LL 1 (.assign (.tmp 12)) 3])
 (.seq (.rgn [] [LL 13 (.fieldAddr 32 (.tmp 2) 3) 0,
 LL 14 (.load 30 (.tmp 13)) 30,
 LL 15 (.move (.tmp 1)) 3,
 LL 16 (.call { callee := (.value (.func 57)), args := #[(.tmp 14), (.tmp 15)], argTypes := #[30, 3] }) 3,
 LL 1 (.assign (.tmp 16)) 3])
 (.seq (.rgn [] [LL 17 (.move (.tmp 1)) 3,
 LL 4 (.assign (.tmp 17)) 3])
 .ret)))))
theorem lit25 : Lit Tryz.prog 25 18 [2] [.tmp 4] c25 := ⟨⟨Tryz.f25, _, Tryz.func25, rfl, by kernel_rfl, rfl, rfl, by kernel_rfl, by kernel_rfl⟩, by decide, by kernel_rfl⟩
/-- laws.markIntS -/
def c26 : LC :=
  (.seq (.rgn [] [LL 4 (.assign (.const (.int .i64 0))) 3])
 (.seq (.seq (.rgn [] [LL 5 (.assign (.const (.int .i64 0))) 3])
 (.blk 0
 (.loop []
 (.seq (.seq (.rgn [] [LL 6 (.move (.tmp 5)) 3,
 LL 7 (.move (.tmp 0)) 27,
 LL 8 (.call { callee := (.builtin .len), args := #[(.tmp 7)], argTypes := #[27] }) 3,
 LL 9 (.binOp .lss 3 (.tmp 6) (.tmp 8) 3) 4])
 (.cond (.tmp 9)
 .skip
 (.exit 0)))
 (.seq (.blk 1
 (.seq (.rgn [] [LL 12 (.move (.tmp 0)) 27,
 LL 13 (.move (.tmp 5)) 3,
 LL 14 (.move (.tmp 1)) 3,
 LL 15 (.indexAddr 27 (.tmp 12) (.tmp 13)) 0,
 ⟨none, (.store 3 (.tmp 15) (.tmp 14)), 0, none⟩])
 (.rgn [] [LL 16 (.move (.tmp 1)) 3,
 LL 17 (.binOp .add 3 (.tmp 16) (.const (.int .i64 1)) 3) 3,
 LL 1 (.assign (.tmp 17)) 3])))
 (.rgn [] [LL 10 (.move (.tmp 5)) 3,
 LL 11 (.binOp .add 3 (.tmp 10) (.const (.int .i64 1)) 3) 3,
 LL 5 (.assign (.tmp 11)) 3]))))))
 (.seq (.rgn [] [LL 18 (.move (.tmp 1)) 3,
 LL 4 (.assign (.tmp 18)) 3])
 .ret)))
theorem lit26 : Lit Tryz.prog 26 19 [] [.tmp 4] c26 := ⟨⟨Tryz.f26, _, Tryz.func26, rfl, by kernel_rfl, rfl, rfl, by kernel_rfl, by kernel_rfl⟩, by decide, by kernel_rfl⟩
theorem lit27 : LitF 27 [2] [] [] Tryz.f27 := litOf Tryz.func27 (by kernel_rfl)
theorem lit28 : LitF 28 [] [] [] Tryz.f28 := litOf Tryz.func28 (by kernel_rfl)
theorem lit32 : LitF 32 [] [] [(1, [4])] Tryz.f32 := litOf Tryz.func32 (by kernel_rfl)
theorem lit33 : LitF 33 [1, 2, 3, 5] [(6, 1), (8, 1), (19, 3), (21, 5), (23, 5), (29, 3)] [(4, [18]), (5, [20]), (7, [31])] Tryz.f33 := litOf Tryz.func33 (by kernel_rfl)
theorem lit34 : LitF 34 [2, 4] [] [] Tryz.f34 := litOf Tryz.func34 (by kernel_rfl)
theorem lit35 : LitF 35 [4, 5, 10] [] [(1, [15]), (5, [30]), (7, [40])] Tryz.f35 := litOf Tryz.func35 (by kernel_rfl)
theorem lit36 : LitF 36 [1, 2] [(3, 1), (6, 1), (10, 1), (13, 1)] [] Tryz.f36 := litOf Tryz.func36 (by kernel_rfl)
theorem lit37 : LitF 37 [2, 4] [] [] Tryz.f37 := litOf Tryz.func37 (by kernel_rfl)
theorem lit38 : LitF 38 [4, 5, 10] [] [(1, [14]), (6, [49])] Tryz.f38 := litOf Tryz.func38 (by kernel_rfl)
theorem lit39 : LitF 39 [] [] [] Tryz.f39 := litOf Tryz.func39 (by kernel_rfl)
theorem lit40 : LitF 40 [1, 4] [(17, 4), (25, 1), (32, 4), (38, 4), (44, 4), (45, 4), (50, 4), (51, 4)] [(5, [16])] Tryz.f40 := litOf Tryz.func40 (by kernel_rfl)
theorem lit41 : LitF 41 [1, 4] [(17, 4), (25, 1), (32, 4), (38, 4), (44, 4), (45, 4), (51, 4), (52, 4)] [(4, [16])] Tryz.f41 := litOf Tryz.func41 (by kernel_rfl)
theorem lit42 : LitF 42 [] [] [] Tryz.f42 := litOf Tryz.func42 (by kernel_rfl)
theorem lit47 : LitF 47 [] [] [] Tryz.f47 := litOf Tryz.func47 (by kernel_rfl)
theorem lit48 : LitF 48 [] [] [] Tryz.f48 := litOf Tryz.func48 (by kernel_rfl)
theorem lit49 : LitF 49 [] [] [] Tryz.f49 := litOf Tryz.func49 (by kernel_rfl)
theorem lit50 : LitF 50 [2] [] [] Tryz.f50 := litOf Tryz.func50 (by kernel_rfl)
theorem lit51 : LitF 51 [3, 7] [] [(1, [3, 7]), (6, [22])] Tryz.f51 := litOf Tryz.func51 (by kernel_rfl)
theorem lit52 : LitF 52 [3, 7] [] [(1, [3, 7]), (6, [21])] Tryz.f52 := litOf Tryz.func52 (by kernel_rfl)
theorem lit53 : LitF 53 [1, 2, 3] [] [(5, [15])] Tryz.f53 := litOf Tryz.func53 (by kernel_rfl)
theorem lit54 : LitF 54 [2, 3] [] [] Tryz.f54 := litOf Tryz.func54 (by kernel_rfl)
theorem lit55 : LitF 55 [] [] [] Tryz.f55 := litOf Tryz.func55 (by kernel_rfl)
/-- laws.markDatabaseS -/
def c56 : LC :=
  (.seq (.rgn [] [LL 4 (.assign (.const (.int .i64 0))) 3])
 (.seq (.seq (.rgn [] [LL 5 (.assign (.const (.int .i64 0))) 3])
 (.blk 0
 (.loop []
 (.seq (.seq (.rgn [] [LL 6 (.move (.tmp 5)) 3,
 LL 7 (.move (.tmp 0)) 24,
 LL 8 (.call { callee := (.builtin .len), args := #[(.tmp 7)], argTypes := #[24] }) 3,
 LL 9 (.binOp .lss 3 (.tmp 6) (.tmp 8) 3) 4])
 (.cond (.tmp 9)
 .skip
 (.exit 0)))
 (.seq (.blk 1
 (.rgn [] [LL 12 (.move (.tmp 0)) 24,
 LL 13 (.move (.tmp 5)) 3,
 LL 14 (.indexAddr 24 (.tmp 12) (.tmp 13)) 0,
 LL 15 (.fieldAddr 77 (.tmp 14) 0) 0,
 LL 16 (.load 75 (.tmp 15)) 75,
 LL 17 (.move (.tmp 1)) 3,
 LL 18 (.call { callee := (.value (.func 94)), args := #[(.tmp 16), (.tmp 17)], argTypes := #[75, 3] }) 3,
 LL 1 (.assign (.tmp 18)) 3]))
 (.rgn [] [LL 10 (.move (.tmp 5)) 3,
 LL 11 (.binOp .add 3 (.tmp 10) (.const (.int .i64 1)) 3) 3,
 LL 5 (.assign (.tmp 11)) 3]))))))
 (.seq (.rgn [] [LL 19 (.move (.tmp 1)) 3,
 LL 4 (.assign (.tmp 19)) 3])
 .ret)))
theorem lit56 : Lit Tryz.prog 56 20 [] [.tmp 4] c56 := ⟨⟨Tryz.f56, _, Tryz.func56, rfl, by kernel_rfl, rfl, rfl, by kernel_rfl, by kernel_rfl⟩, by decide, by kernel_rfl⟩
/-- laws.markQuery -/
def c57 : LC :=
  (.seq (.rgn [] [LL 2 (.box 30 (.tmp 0)) 0,
 LL 4 (.assign (.const (.int .i64 0))) 3])
 (.seq (.rgn [] [LL 5 (.fieldAddr 30 (.tmp 2) 1) 0,
 LL 6 (.load 28 (.tmp 5)) 28,
 LL 7 (.move (.tmp 1)) 3,
 LL 8 (.call { callee := (.value (.func 95)), args := #[(.tmp 6), (.tmp 7)], argTypes := #[28, 3] }) 3,
 LL 1 (.assign (.tmp 8)) 3])
 (.seq (.rgn [] [LL 9 (.fieldAddr 30 (.tmp 2) 2) 0,
 LL 10 (.load 27 (.tmp 9)) 27,
 LL 11 (.move (.tmp 1)) 3,
 LL 12 (.call { callee := (.value (.func 26)), args := #[(.tmp 10), (.tmp 11)], argTypes := #[27, 3] }) 3,
 LL 1 (.assign (.tmp 12)) 3])
 (.seq (.rgn [] [LL 13 (.move (.tmp 1)) 3,
 LL 4 (.assign (.tmp 13)) 3])
 .ret))))
theorem lit57 : Lit Tryz.prog 57 14 [2] [.tmp 4] c57 := ⟨⟨Tryz.f57, _, Tryz.func57, rfl, by kernel_rfl, rfl, rfl, by kernel_rfl, by kernel_rfl⟩, by decide, by kernel_rfl⟩
theorem lit58 : LitF 58 [2] [] [] Tryz.f58 := litOf Tryz.func58 (by kernel_rfl)
theorem lit68 : LitF 68 [1, 2, 3, 5] [(13, 3), (15, 5), (17, 5), (23, 3)] [(4, [12]), (5, [14]), (7, [25])] Tryz.f68 := litOf Tryz.func68 (by kernel_rfl)
theorem lit69 : LitF 69 [3, 4, 6] [] [(1, [14]), (6, [29]), (9, [44])] Tryz.f69 := litOf Tryz.func69 (by kernel_rfl)
theorem lit70 : LitF 70 [1, 2, 3] [(5, 1), (8, 1), (19, 3), (21, 1), (28, 1), (38, 3)] [(5, [20, 33]), (6, [39])] Tryz.f70 := litOf Tryz.func70 (by kernel_rfl)
theorem lit71 : LitF 71 [1, 2, 3, 5] [(21, 3), (23, 1), (33, 3)] [(6, [22, 29]), (7, [34])] Tryz.f71 := litOf Tryz.func71 (by kernel_rfl)
theorem lit72 : LitF 72 [3, 4, 6, 13] [] [(1, [15]), (6, [30]), (7, [38]), (10, [48])] Tryz.f72 := litOf Tryz.func72 (by kernel_rfl)
theorem lit73 : LitF 73 [] [] [] Tryz.f73 := litOf Tryz.func73 (by kernel_rfl)
theorem lit74 : LitF 74 [] [] [] Tryz.f74 := litOf Tryz.func74 (by kernel_rfl)
theorem lit75 : LitF 75 [1] [] [] Tryz.f75 := litOf Tryz.func75 (by kernel_rfl)
theorem lit76 : LitF 76 [] [] [] Tryz.f76 := litOf Tryz.func76 (by kernel_rfl)
theorem lit77 : LitF 77 [1] [(21, 1), (27, 1), (31, 1), (43, 1), (49, 1)] [] Tryz.f77 := litOf Tryz.func77 (by kernel_rfl)
theorem lit84 : LitF 84 [2, 4, 7] [] [(4, [16])] Tryz.f84 := litOf Tryz.func84 (by kernel_rfl)
theorem lit88 : LitF 88 [2] [] [] Tryz.f88 := litOf Tryz.func88 (by kernel_rfl)
theorem lit89 : LitF 89 [] [] [] Tryz.f89 := litOf Tryz.func89 (by kernel_rfl)
theorem lit90 : LitF 90 [1, 2, 3] [] [(3, [8])] Tryz.f90 := litOf Tryz.func90 (by kernel_rfl)
theorem lit91 : LitF 91 [3, 7] [] [(1, [3, 7]), (6, [22])] Tryz.f91 := litOf Tryz.func91 (by kernel_rfl)
theorem lit92 : LitF 92 [] [] [] Tryz.f92 := litOf Tryz.func92 (by kernel_rfl)
theorem lit93 : LitF 93 [2, 3] [] [] Tryz.f93 := litOf Tryz.func93 (by kernel_rfl)
/-- laws.markTableS -/
def c94 : LC :=
  (.seq (.rgn [] [LL 4 (.assign (.const (.int .i64 0))) 3])
 (.seq (.seq (.rgn [] [LL 5 (.assign (.const (.int .i64 0))) 3])
 (.blk 0
 (.loop []
 (.seq (.seq (.rgn [] [LL 6 (.move (.tmp 5)) 3,
 LL 7 (.move (.tmp 0)) 75,
 LL 8 (.call { callee := (.builtin .len), args := #[(.tmp 7)], argTypes := #[75] }) 3,
 LL 9 (.binOp .lss 3 (.tmp 6) (.tmp 8) 3) 4])
 (.cond (.tmp 9)
 .skip
 (.exit 0)))
 (.seq (.blk 1
 (.seq (.rgn [] [LL 12 (.move (.tmp 0)) 75,
 LL 13 (.move (.tmp 5)) 3,
 LL 14 (.move (.tmp 1)) 3,
 LL 15 (.call { callee := (.value (.func 129)), args := #[(.tmp 14)], argTypes := #[3] }) 9,
 LL 16 (.indexAddr 75 (.tmp 12) (.tmp 13)) 0,
 LL 17 (.fieldAddr 114 (.tmp 16) 0) 0,
 ⟨none, (.store 9 (.tmp 17) (.tmp 15)), 0, none⟩])
 (.seq (.rgn [] [LL 18 (.move (.tmp 1)) 3,
 LL 19 (.binOp .add 3 (.tmp 18) (.const (.int .i64 1)) 3) 3,
 LL 1 (.assign (.tmp 19)) 3])
 (.seq (.rgn [] [LL 20 (.move (.tmp 0)) 75,
 LL 21 (.move (.tmp 5)) 3,
 LL 22 (.move (.tmp 1)) 3,
 LL 23 (.indexAddr 75 (.tmp 20) (.tmp 21)) 0,
 LL 24 (.fieldAddr 114 (.tmp 23) 1) 0,
 LL 25 (.fieldAddr 41 (.tmp 24) 0) 0,
 ⟨none, (.store 3 (.tmp 25) (.tmp 22)), 0, none⟩])
 (.seq (.rgn [] [LL 26 (.move (.tmp 1)) 3,
 LL 27 (.binOp .add 3 (.tmp 26) (.const (.int .i64 1)) 3) 3,
 LL 1 (.assign (.tmp 27)) 3])
 (.rgn [] [LL 28 (.move (.tmp 0)) 75,
 LL 29 (.move (.tmp 5)) 3,
 LL 30 (.indexAddr 75 (.tmp 28) (.tmp 29)) 0,
 LL 31 (.fieldAddr 114 (.tmp 30) 1) 0,
 LL 32 (.fieldAddr 41 (.tmp 31) 1) 0,
 LL 33 (.load 39 (.tmp 32)) 39,
 LL 34 (.move (.tmp 1)) 3,
 LL 35 (.call { callee := (.value (.func 130)), args := #[(.tmp 33), (.tmp 34)], argTypes := #[39, 3] }) 3,
 LL 1 (.assign (.tmp 35)) 3]))))))
 (.rgn [] [LL 10 (.move (.tmp 5)) 3,
 LL 11 (.binOp .add 3 (.tmp 10) (.const (.int .i64 1)) 3) 3,
 LL 5 (.assign (.tmp 11)) 3]))))))
 (.seq (.rgn [] [LL 36 (.move (.tmp 1)) 3,
 LL 4 (.assign (.tmp 36)) 3])
 .ret)))
theorem lit94 : Lit Tryz.prog 94 37 [] [.tmp 4] c94 := ⟨⟨Tryz.f94, _, Tryz.func94, rfl, by kernel_rfl, rfl, rfl, by kernel_rfl, by kernel_rfl⟩, by decide, by kernel_rfl⟩
/-- laws.markAtomS -/
def c95 : LC :=
  (.seq (.rgn [] [LL 4 (.assign (.const (.int .i64 0))) 3])
 (.seq (.seq (.rgn [] [LL 5 (.assign (.const (.int .i64 0))) 3])
 (.blk 0
 (.loop []
 (.seq (.seq (.rgn [] [LL 6 (.move (.tmp 5)) 3,
 LL 7 (.move (.tmp 0)) 28,
 LL 8 (.call { callee := (.builtin .len), args := #[(.tmp 7)], argTypes := #[28] }) 3,
 LL 9 (.binOp .lss 3 (.tmp 6) (.tmp 8) 3) 4])
 (.cond (.tmp 9)
 .skip
 (.exit 0)))
 (.seq (.blk 1
 (.seq (.rgn [] [LL 12 (.move (.tmp 0)) 28,
 LL 13 (.move (.tmp 5)) 3,
 LL 14 (.move (.tmp 1)) 3,
 LL 15 (.call { callee := (.value (.func 129)), args := #[(.tmp 14)], argTypes := #[3] }) 9,
 LL 16 (.indexAddr 28 (.tmp 12) (.tmp 13)) 0,
 LL 17 (.fieldAddr 109 (.tmp 16) 0) 0,
 ⟨none, (.store 9 (.tmp 17) (.tmp 15)), 0, none⟩])
 (.seq (.rgn [] [LL 18 (.move (.tmp 1)) 3,
 LL 19 (.binOp .add 3 (.tmp 18) (.const (.int .i64 1)) 3) 3,
 LL 1 (.assign (.tmp 19)) 3])
 (.rgn [] [LL 20 (.move (.tmp 0)) 28,
 LL 21 (.move (.tmp 5)) 3,
 LL 22 (.indexAddr 28 (.tmp 20) (.tmp 21)) 0,
 LL 23 (.fieldAddr 109 (.tmp 22) 1) 0,
 LL 24 (.load 27 (.tmp 23)) 27,
 LL 25 (.move (.tmp 1)) 3,
 LL 26 (.call { callee := (.value (.func 26)), args := #[(.tmp 24), (.tmp 25)], argTypes := #[27, 3] }) 3,
 LL 1 (.assign (.tmp 26)) 3]))))
 (.rgn [] [LL 10 (.move (.tmp 5)) 3,
 LL 11 (.binOp .add 3 (.tmp 10) (.const (.int .i64 1)) 3) 3,
 LL 5 (.assign (.tmp 11)) 3]))))))
 (.seq (.rgn [] [LL 27 (.move (.tmp 1)) 3,
 LL 4 (.assign (.tmp 27)) 3])
 .ret)))
theorem lit95 : Lit Tryz.prog 95 28 [] [.tmp 4] c95 := ⟨⟨Tryz.f95, _, Tryz.func95, rfl, by kernel_rfl, rfl, rfl, by kernel_rfl, by kernel_rfl⟩, by decide, by kernel_rfl⟩
theorem lit96 : LitF 96 [] [] [] Tryz.f96 := litOf Tryz.func96 (by kernel_rfl)
theorem lit101 : LitF 101 [1] [(65, 1), (74, 1), (111, 1), (116, 1), (122, 1), (126, 1)] [] Tryz.f101 := litOf Tryz.func101 (by kernel_rfl)
theorem lit102 : LitF 102 [2, 3, 6] [(17, 3), (29, 6), (31, 3)] [(4, [15])] Tryz.f102 := litOf Tryz.func102 (by kernel_rfl)
theorem lit103 : LitF 103 [2] [] [] Tryz.f103 := litOf Tryz.func103 (by kernel_rfl)
theorem lit104 : LitF 104 [1, 2] [(3, 1), (5, 1)] [] Tryz.f104 := litOf Tryz.func104 (by kernel_rfl)
theorem lit105 : LitF 105 [3, 4, 10, 11] [] [(6, [29]), (7, [30]), (8, [40, 41]), (10, [45])] Tryz.f105 := litOf Tryz.func105 (by kernel_rfl)
theorem lit106 : LitF 106 [4] [] [(3, [10])] Tryz.f106 := litOf Tryz.func106 (by kernel_rfl)
theorem lit107 : LitF 107 [5] [] [(9, [35]), (10, [36]), (15, [55]), (18, [65]), (19, [66])] Tryz.f107 := litOf Tryz.func107 (by kernel_rfl)
theorem lit108 : LitF 108 [8, 62] [] [(6, [27]), (10, [52]), (12, [8, 62]), (18, [81]), (20, [91]), (24, [118])] Tryz.f108 := litOf Tryz.func108 (by kernel_rfl)
theorem lit109 : LitF 109 [1, 2, 3] [(15, 3), (18, 1), (26, 3)] [(5, [16, 22]), (6, [27])] Tryz.f109 := litOf Tryz.func109 (by kernel_rfl)
theorem lit110 : LitF 110 [3, 4, 10] [(33, 4), (39, 4)] [(3, [23]), (7, [31]), (10, [52, 53]), (11, [56])] Tryz.f110 := litOf Tryz.func110 (by kernel_rfl)
theorem lit111 : LitF 111 [] [] [] Tryz.f111 := litOf Tryz.func111 (by kernel_rfl)
theorem lit112 : LitF 112 [5] [] [(2, [22]), (4, [26]), (8, [40, 45]), (9, [56, 57]), (11, [62])] Tryz.f112 := litOf Tryz.func112 (by kernel_rfl)
theorem lit113 : LitF 113 [4, 7] [] [(9, [39])] Tryz.f113 := litOf Tryz.func113 (by kernel_rfl)
theorem lit114 : LitF 114 [] [] [] Tryz.f114 := litOf Tryz.func114 (by kernel_rfl)
theorem lit115 : LitF 115 [] [] [(5, [21])] Tryz.f115 := litOf Tryz.func115 (by kernel_rfl)
theorem lit116 : LitF 116 [] [] [] Tryz.f116 := litOf Tryz.func116 (by kernel_rfl)
theorem lit121 : LitF 121 [4, 8] [] [(3, [14]), (10, [34])] Tryz.f121 := litOf Tryz.func121 (by kernel_rfl)
theorem lit122 : LitF 122 [] [] [(4, [11]), (5, [12]), (7, [18])] Tryz.f122 := litOf Tryz.func122 (by kernel_rfl)
theorem lit123 : LitF 123 [] [] [] Tryz.f123 := litOf Tryz.func123 (by kernel_rfl)
theorem lit124 : LitF 124 [2] [] [] Tryz.f124 := litOf Tryz.func124 (by kernel_rfl)
theorem lit125 : LitF 125 [3, 7] [] [(1, [3, 7]), (6, [22])] Tryz.f125 := litOf Tryz.func125 (by kernel_rfl)
theorem lit126 : LitF 126 [1, 2, 3] [] [(4, [11])] Tryz.f126 := litOf Tryz.func126 (by kernel_rfl)
theorem lit127 : LitF 127 [2, 3] [] [] Tryz.f127 := litOf Tryz.func127 (by kernel_rfl)
theorem lit128 : LitF 128 [] [] [] Tryz.f128 := litOf Tryz.func128 (by kernel_rfl)
theorem lit129 : LitF 129 [] [] [] Tryz.f129 := litOf Tryz.func129 (by kernel_rfl)
/-- laws.markIntSS -/
def c130 : LC :=
  (.seq (.rgn [] [LL 4 (.assign (.const (.int .i64 0))) 3])
 (.seq (.seq (.rgn [] [LL 5 (.assign (.const (.int .i64 0))) 3])
 (.blk 0
 (.loop []
 (.seq (.seq (.rgn [] [LL 6 (.move (.tmp 5)) 3,
 LL 7 (.move (.tmp 0)) 39,
 LL 8 (.call { callee := (.builtin .len), args := #[(.tmp 7)], argTypes := #[39] }) 3,
 LL 9 (.binOp .lss 3 (.tmp 6) (.tmp 8) 3) 4])
 (.cond (.tmp 9)
 .skip
 (.exit 0)))
 (.seq (.blk 1
 (.rgn [] [LL 12 (.move (.tmp 0)) 39,
 LL 13 (.move (.tmp 5)) 3,
 LL 14 (.indexAddr 39 (.tmp 12) (.tmp 13)) 0,
 LL 15 (.load 27 (.tmp 14)) 27,
 LL 16 (.move (.tmp 1)) 3,
 LL 17 (.call { callee := (.value (.func 26)), args := #[(.tmp 15), (.tmp 16)], argTypes := #[27, 3] }) 3,
 LL 1 (.assign (.tmp 17)) 3]))
 (.rgn [] [LL 10 (.move (.tmp 5)) 3,
 LL 11 (.binOp .add 3 (.tmp 10) (.const (.int .i64 1)) 3) 3,
 LL 5 (.assign (.tmp 11)) 3]))))))
 (.seq (.rgn [] [LL 18 (.move (.tmp 1)) 3,
 LL 4 (.assign (.tmp 18)) 3])
 .ret)))
theorem lit130 : Lit Tryz.prog 130 19 [] [.tmp 4] c130 := ⟨⟨Tryz.f130, _, Tryz.func130, rfl, by kernel_rfl, rfl, rfl, by kernel_rfl, by kernel_rfl⟩, by decide, by kernel_rfl⟩
theorem lit132 : LitF 132 [2, 4] [] [] Tryz.f132 := litOf Tryz.func132 (by kernel_rfl)
theorem lit140 : LitF 140 [2] [] [] Tryz.f140 := litOf Tryz.func140 (by kernel_rfl)
theorem lit141 : LitF 141 [] [] [] Tryz.f141 := litOf Tryz.func141 (by kernel_rfl)
theorem lit142 : LitF 142 [] [] [] Tryz.f142 := litOf Tryz.func142 (by kernel_rfl)
theorem lit143 : LitF 143 [2, 3, 6, 7] [] [(5, [23]), (6, [24])] Tryz.f143 := litOf Tryz.func143 (by kernel_rfl)
theorem lit144 : LitF 144 [2] [] [] Tryz.f144 := litOf Tryz.func144 (by kernel_rfl)
theorem lit145 : LitF 145 [2, 4, 6] [] [(3, [19]), (6, [31])] Tryz.f145 := litOf Tryz.func145 (by kernel_rfl)
theorem lit146 : LitF 146 [2, 3, 4, 6, 7, 12, 53] [] [(3, [22]), (5, [45]), (9, [52]), (10, [12, 53]), (20, [87, 88]), (23, [97])] Tryz.f146 := litOf Tryz.func146 (by kernel_rfl)
theorem lit147 : LitF 147 [2] [] [(8, [29]), (10, [34])] Tryz.f147 := litOf Tryz.func147 (by kernel_rfl)
theorem lit148 : LitF 148 [4, 11] [] [(4, [22]), (11, [44]), (13, [49]), (15, [59])] Tryz.f148 := litOf Tryz.func148 (by kernel_rfl)
theorem lit149 : LitF 149 [] [] [(3, [10])] Tryz.f149 := litOf Tryz.func149 (by kernel_rfl)
theorem lit150 : LitF 150 [] [] [(4, [12])] Tryz.f150 := litOf Tryz.func150 (by kernel_rfl)
theorem lit151 : LitF 151 [] [] [] Tryz.f151 := litOf Tryz.func151 (by kernel_rfl)
theorem lit152 : LitF 152 [2, 4, 6] [] [(3, [19]), (6, [31])] Tryz.f152 := litOf Tryz.func152 (by kernel_rfl)
theorem lit153 : LitF 153 [2, 3, 4, 6, 8, 16] [(57, 6), (62, 3), (97, 6)] [(2, [20]), (5, [40]), (14, [56]), (22, [108, 109]), (23, [112]), (25, [121]), (26, [122])] Tryz.f153 := litOf Tryz.func153 (by kernel_rfl)
theorem lit154 : LitF 154 [2] [] [(8, [32]), (9, [36])] Tryz.f154 := litOf Tryz.func154 (by kernel_rfl)
theorem lit155 : LitF 155 [5] [(37, 5)] [(6, [29]), (7, [51]), (8, [56])] Tryz.f155 := litOf Tryz.func155 (by kernel_rfl)
theorem lit156 : LitF 156 [] [] [(2, [12]), (16, [53]), (18, [58]), (21, [75, 76]), (22, [79])] Tryz.f156 := litOf Tryz.func156 (by kernel_rfl)
theorem lit157 : LitF 157 [] [] [] Tryz.f157 := litOf Tryz.func157 (by kernel_rfl)
theorem lit159 : LitF 159 [] [] [(13, [47, 50]), (17, [59, 62]), (19, [67])] Tryz.f159 := litOf Tryz.func159 (by kernel_rfl)
theorem lit160 : LitF 160 [2] [] [] Tryz.f160 := litOf Tryz.func160 (by kernel_rfl)
theorem lit161 : LitF 161 [1, 2, 3] [] [(4, [11])] Tryz.f161 := litOf Tryz.func161 (by kernel_rfl)
theorem lit162 : LitF 162 [2, 3] [] [] Tryz.f162 := litOf Tryz.func162 (by kernel_rfl)
theorem lit165 : LitF 165 [1, 4, 6, 31] [] [(4, [4, 31]), (7, [38])] Tryz.f165 := litOf Tryz.func165 (by kernel_rfl)
theorem lit166 : LitF 166 [] [] [] Tryz.f166 := litOf Tryz.func166 (by kernel_rfl)
theorem lit167 : LitF 167 [] [] [] Tryz.f167 := litOf Tryz.func167 (by kernel_rfl)
theorem lit168 : LitF 168 [2, 4] [] [(6, [26]), (7, [27])] Tryz.f168 := litOf Tryz.func168 (by kernel_rfl)
theorem lit169 : LitF 169 [1] [] [(6, [12]), (7, [16])] Tryz.f169 := litOf Tryz.func169 (by kernel_rfl)
theorem lit170 : LitF 170 [] [] [] Tryz.f170 := litOf Tryz.func170 (by kernel_rfl)
theorem lit171 : LitF 171 [] [] [] Tryz.f171 := litOf Tryz.func171 (by kernel_rfl)
theorem lit172 : LitF 172 [] [] [(5, [15]), (7, [23])] Tryz.f172 := litOf Tryz.func172 (by kernel_rfl)
theorem lit173 : LitF 173 [] [] [] Tryz.f173 := litOf Tryz.func173 (by kernel_rfl)
theorem lit174 : LitF 174 [2] [] [] Tryz.f174 := litOf Tryz.func174 (by kernel_rfl)
theorem lit175 : LitF 175 [2] [] [(8, [37]), (10, [54]), (12, [62])] Tryz.f175 := litOf Tryz.func175 (by kernel_rfl)
theorem lit176 : LitF 176 [] [] [] Tryz.f176 := litOf Tryz.func176 (by kernel_rfl)
theorem lit177 : LitF 177 [2, 4, 9] [(21, 2)] [(12, [44]), (13, [54]), (14, [61])] Tryz.f177 := litOf Tryz.func177 (by kernel_rfl)
theorem lit178 : LitF 178 [1] [] [(6, [13]), (7, [17])] Tryz.f178 := litOf Tryz.func178 (by kernel_rfl)
theorem lit179 : LitF 179 [2] [] [(6, [26]), (7, [30])] Tryz.f179 := litOf Tryz.func179 (by kernel_rfl)
theorem lit180 : LitF 180 [2] [] [(8, [52]), (9, [56])] Tryz.f180 := litOf Tryz.func180 (by kernel_rfl)
theorem lit181 : LitF 181 [3] [] [(6, [22]), (7, [29])] Tryz.f181 := litOf Tryz.func181 (by kernel_rfl)
theorem lit182 : LitF 182 [6, 26] [(46, 6), (48, 6), (69, 6), (75, 6), (77, 6), (81, 6), (82, 6), (84, 6), (98, 6), (100, 6)] [(3, [21]), (5, [6, 26]), (13, [57]), (17, [92])] Tryz.f182 := litOf Tryz.func182 (by kernel_rfl)
theorem lit183 : LitF 183 [2] [] [] Tryz.f183 := litOf Tryz.func183 (by kernel_rfl)
theorem lit184 : LitF 184 [1, 2, 3] [] [(4, [11])] Tryz.f184 := litOf Tryz.func184 (by kernel_rfl)
theorem lit185 : LitF 185 [2, 3] [] [] Tryz.f185 := litOf Tryz.func185 (by kernel_rfl)
theorem lit186 : LitF 186 [1] [] [] Tryz.f186 := litOf Tryz.func186 (by kernel_rfl)
theorem lit187 : LitF 187 [2] [] [] Tryz.f187 := litOf Tryz.func187 (by kernel_rfl)
theorem lit188 : LitF 188 [] [] [(5, [14]), (6, [24])] Tryz.f188 := litOf Tryz.func188 (by kernel_rfl)
theorem lit189 : LitF 189 [2] [] [] Tryz.f189 := litOf Tryz.func189 (by kernel_rfl)
theorem lit190 : LitF 190 [] [] [] Tryz.f190 := litOf Tryz.func190 (by kernel_rfl)
theorem lit191 : LitF 191 [] [] [] Tryz.f191 := litOf Tryz.func191 (by kernel_rfl)
theorem lit192 : LitF 192 [] [] [(9, [50])] Tryz.f192 := litOf Tryz.func192 (by kernel_rfl)
theorem lit193 : LitF 193 [] [] [] Tryz.f193 := litOf Tryz.func193 (by kernel_rfl)
theorem lit194 : LitF 194 [] [] [] Tryz.f194 := litOf Tryz.func194 (by kernel_rfl)
theorem lit195 : LitF 195 [3, 7] [] [(1, [3, 7]), (6, [22])] Tryz.f195 := litOf Tryz.func195 (by kernel_rfl)
theorem lit196 : LitF 196 [] [] [] Tryz.f196 := litOf Tryz.func196 (by kernel_rfl)
theorem lit197 : LitF 197 [1, 2] [] [] Tryz.f197 := litOf Tryz.func197 (by kernel_rfl)
theorem lit198 : LitF 198 [1] [] [] Tryz.f198 := litOf Tryz.func198 (by kernel_rfl)
theorem lit199 : LitF 199 [] [] [] Tryz.f199 := litOf Tryz.func199 (by kernel_rfl)
theorem lit200 : LitF 200 [1, 2] [] [] Tryz.f200 := litOf Tryz.func200 (by kernel_rfl)
end Go.Proofs.YtlknpohjnpnodaaGreat
