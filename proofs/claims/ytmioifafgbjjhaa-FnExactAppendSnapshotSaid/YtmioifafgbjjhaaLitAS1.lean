/-
  The functions' code as the program holds it, without places and edges; printed by genlit.py. No conditions.
-/
import Derived.Test.YtmioifafgbjjhaaTb
namespace Go.Proofs.Ytmioifafgbjjhaa
open Go.RowKit
set_option linter.unusedVariables false
set_option maxRecDepth 100000
theorem lit15 : LitF 15 [1] [(21, 1), (27, 1), (31, 1), (43, 1), (49, 1)] [] Try.f15 := litOf Try.func15 (by kernel_rfl)
theorem lit17 : LitF 17 [2, 3, 4] [(22, 2), (24, 2), (27, 3)] [] Try.f17 := litOf Try.func17 (by kernel_rfl)
theorem lit29 : LitF 29 [2, 4] [] [] Try.f29 := litOf Try.func29 (by kernel_rfl)
theorem lit33 : LitF 33 [3, 7] [] [(1, [3, 7]), (6, [21])] Try.f33 := litOf Try.func33 (by kernel_rfl)
theorem lit35 : LitF 35 [2, 3] [] [] Try.f35 := litOf Try.func35 (by kernel_rfl)
theorem lit37 : LitF 37 [] [] [] Try.f37 := litOf Try.func37 (by kernel_rfl)
/-- laws.markIntS -/
def c39 : LC :=
  (.seq (.rgn [] [LL 4 (.assign (.const (.int .i64 0))) 3])
 (.seq (.seq (.rgn [] [LL 5 (.assign (.const (.int .i64 0))) 3])
 (.blk 0
 (.loop []
 (.seq (.seq (.rgn [] [LL 6 (.move (.tmp 5)) 3,
 LL 7 (.move (.tmp 0)) 31,
 LL 8 (.call { callee := (.builtin .len), args := #[(.tmp 7)], argTypes := #[31] }) 3,
 LL 9 (.binOp .lss 3 (.tmp 6) (.tmp 8) 3) 4])
 (.cond (.tmp 9)
 .skip
 (.exit 0)))
 (.seq (.blk 1
 (.seq (.rgn [] [LL 12 (.move (.tmp 0)) 31,
 LL 13 (.move (.tmp 5)) 3,
 LL 14 (.move (.tmp 1)) 3,
 LL 15 (.indexAddr 31 (.tmp 12) (.tmp 13)) 0,
 ⟨none, (.store 3 (.tmp 15) (.tmp 14)), 0, none⟩])
 (.rgn [] [LL 16 (.move (.tmp 1)) 3,
 LL 17 (.binOp .add 3 (.tmp 16) (.const (.int .i64 1)) 3) 3,
 LL 1 (.assign (.tmp 17)) 3])))
 (.rgn [] [LL 10 (.move (.tmp 5)) 3,
 LL 11 (.binOp .add 3 (.tmp 10) (.const (.int .i64 1)) 3) 3,
 LL 5 (.assign (.tmp 11)) 3]))))))
 (.seq (.rgn [] [LL 18 (.move (.tmp 1)) 3,
 LL 4 (.assign (.tmp 18)) 3])
 .ret)))
theorem lit39 : Lit Try.prog 39 19 [] [.tmp 4] c39 := ⟨⟨Try.f39, _, Try.func39, rfl, by kernel_rfl, rfl, rfl, by kernel_rfl, by kernel_rfl⟩, by decide, by kernel_rfl⟩
theorem lit43 : LitF 43 [2, 3, 4, 6, 8] [(31, 2)] [(4, [29]), (5, [30]), (7, [43]), (8, [45, 46]), (9, [50])] Try.f43 := litOf Try.func43 (by kernel_rfl)
theorem lit44 : LitF 44 [2, 3, 4, 6, 7] [(31, 2), (33, 2)] [(3, [29]), (4, [30]), (6, [45]), (7, [47, 48]), (8, [52])] Try.f44 := litOf Try.func44 (by kernel_rfl)
theorem lit49 : LitF 49 [2, 3, 4, 6, 8, 10, 12, 14] [] [(1, [16]), (4, [26]), (5, [33]), (6, [40]), (9, [51]), (10, [59])] Try.f49 := litOf Try.func49 (by kernel_rfl)
theorem lit50 : LitF 50 [1] [] [] Try.f50 := litOf Try.func50 (by kernel_rfl)
theorem lit51 : LitF 51 [2] [] [] Try.f51 := litOf Try.func51 (by kernel_rfl)
theorem lit54 : LitF 54 [1, 2, 3] [] [(4, [11])] Try.f54 := litOf Try.func54 (by kernel_rfl)
theorem lit57 : LitF 57 [2, 3] [] [] Try.f57 := litOf Try.func57 (by kernel_rfl)
/-- laws.markHistory -/
def c59 : LC :=
  (.seq (.rgn [] [LL 2 (.box 70 (.tmp 0)) 0,
 LL 4 (.assign (.const (.int .i64 0))) 3])
 (.seq (.rgn [] [LL 5 (.fieldAddr 70 (.tmp 2) 1) 0,
 LL 6 (.load 68 (.tmp 5)) 68,
 LL 7 (.move (.tmp 1)) 3,
 LL 8 (.call { callee := (.value (.func 132)), args := #[(.tmp 6), (.tmp 7)], argTypes := #[68, 3] }) 3,
 LL 1 (.assign (.tmp 8)) 3])
 (.seq (.rgn [] [LL 9 (.move (.tmp 1)) 3,
 LL 4 (.assign (.tmp 9)) 3])
 .ret)))
theorem lit59 : Lit Try.prog 59 10 [2] [.tmp 4] c59 := ⟨⟨Try.f59, _, Try.func59, rfl, by kernel_rfl, rfl, rfl, by kernel_rfl, by kernel_rfl⟩, by decide, by kernel_rfl⟩
theorem lit61 : LitF 61 [2] [] [] Try.f61 := litOf Try.func61 (by kernel_rfl)
theorem lit62 : LitF 62 [2] [] [] Try.f62 := litOf Try.func62 (by kernel_rfl)
theorem lit63 : LitF 63 [1, 2, 3] [] [(5, [15])] Try.f63 := litOf Try.func63 (by kernel_rfl)
theorem lit64 : LitF 64 [2, 3] [] [] Try.f64 := litOf Try.func64 (by kernel_rfl)
/-- laws.markDelta -/
def c65 : LC :=
  (.seq (.rgn [] [LL 2 (.box 72 (.tmp 0)) 0,
 LL 4 (.assign (.const (.int .i64 0))) 3])
 (.seq (.rgn [] [LL 5 (.fieldAddr 72 (.tmp 2) 1) 0,
 LL 6 (.load 26 (.tmp 5)) 26,
 LL 7 (.move (.tmp 1)) 3,
 LL 8 (.call { callee := (.value (.func 137)), args := #[(.tmp 6), (.tmp 7)], argTypes := #[26, 3] }) 3,
 LL 1 (.assign (.tmp 8)) 3])
 (.seq (.rgn [] [LL 9 (.fieldAddr 72 (.tmp 2) 2) 0,
 LL 10 (.load 26 (.tmp 9)) 26,
 LL 11 (.move (.tmp 1)) 3,
 LL 12 (.call { callee := (.value (.func 137)), args := #[(.tmp 10), (.tmp 11)], argTypes := #[26, 3] }) 3,
 LL 1 (.assign (.tmp 12)) 3])
 (.seq (.rgn [] [LL 13 (.move (.tmp 1)) 3,
 LL 4 (.assign (.tmp 13)) 3])
 .ret))))
theorem lit65 : Lit Try.prog 65 14 [2] [.tmp 4] c65 := ⟨⟨Try.f65, _, Try.func65, rfl, by kernel_rfl, rfl, rfl, by kernel_rfl, by kernel_rfl⟩, by decide, by kernel_rfl⟩
theorem lit85 : LitF 85 [1] [] [] Try.f85 := litOf Try.func85 (by kernel_rfl)
theorem lit86 : LitF 86 [] [] [] Try.f86 := litOf Try.func86 (by kernel_rfl)
theorem lit88 : LitF 88 [] [] [(1, [4])] Try.f88 := litOf Try.func88 (by kernel_rfl)
theorem lit89 : LitF 89 [] [] [] Try.f89 := litOf Try.func89 (by kernel_rfl)
theorem lit90 : LitF 90 [] [] [] Try.f90 := litOf Try.func90 (by kernel_rfl)
theorem lit91 : LitF 91 [] [] [] Try.f91 := litOf Try.func91 (by kernel_rfl)
theorem lit92 : LitF 92 [4, 8] [] [(3, [14]), (10, [34])] Try.f92 := litOf Try.func92 (by kernel_rfl)
theorem lit93 : LitF 93 [] [] [(4, [11]), (5, [12]), (7, [18])] Try.f93 := litOf Try.func93 (by kernel_rfl)
theorem lit95 : LitF 95 [2, 4, 7] [] [(4, [16])] Try.f95 := litOf Try.func95 (by kernel_rfl)
theorem lit99 : LitF 99 [1, 4] [(17, 4), (25, 1), (32, 4), (38, 4), (44, 4), (45, 4), (51, 4), (52, 4)] [(4, [16])] Try.f99 := litOf Try.func99 (by kernel_rfl)
theorem lit100 : LitF 100 [1, 2, 3] [(15, 3), (18, 1), (26, 3)] [(5, [16, 22]), (6, [27])] Try.f100 := litOf Try.func100 (by kernel_rfl)
theorem lit102 : LitF 102 [] [] [] Try.f102 := litOf Try.func102 (by kernel_rfl)
theorem lit106 : LitF 106 [3, 5, 6, 8, 11] [] [(6, [24]), (8, [34]), (11, [46, 47]), (13, [54])] Try.f106 := litOf Try.func106 (by kernel_rfl)
theorem lit109 : LitF 109 [3, 5, 6, 8, 10] [(60, 8), (68, 8), (73, 8)] [(9, [57]), (10, [65]), (13, [79])] Try.f109 := litOf Try.func109 (by kernel_rfl)
theorem lit110 : LitF 110 [] [] [] Try.f110 := litOf Try.func110 (by kernel_rfl)
/-- laws.markTableS -/
def c113 : LC :=
  (.seq (.rgn [] [LL 4 (.assign (.const (.int .i64 0))) 3])
 (.seq (.seq (.rgn [] [LL 5 (.assign (.const (.int .i64 0))) 3])
 (.blk 0
 (.loop []
 (.seq (.seq (.rgn [] [LL 6 (.move (.tmp 5)) 3,
 LL 7 (.move (.tmp 0)) 40,
 LL 8 (.call { callee := (.builtin .len), args := #[(.tmp 7)], argTypes := #[40] }) 3,
 LL 9 (.binOp .lss 3 (.tmp 6) (.tmp 8) 3) 4])
 (.cond (.tmp 9)
 .skip
 (.exit 0)))
 (.seq (.blk 1
 (.seq (.rgn [] [LL 12 (.move (.tmp 0)) 40,
 LL 13 (.move (.tmp 5)) 3,
 LL 14 (.move (.tmp 1)) 3,
 LL 15 (.call { callee := (.value (.func 183)), args := #[(.tmp 14)], argTypes := #[3] }) 9,
 LL 16 (.indexAddr 40 (.tmp 12) (.tmp 13)) 0,
 LL 17 (.fieldAddr 107 (.tmp 16) 0) 0,
 ⟨none, (.store 9 (.tmp 17) (.tmp 15)), 0, none⟩])
 (.seq (.rgn [] [LL 18 (.move (.tmp 1)) 3,
 LL 19 (.binOp .add 3 (.tmp 18) (.const (.int .i64 1)) 3) 3,
 LL 1 (.assign (.tmp 19)) 3])
 (.seq (.rgn [] [LL 20 (.move (.tmp 0)) 40,
 LL 21 (.move (.tmp 5)) 3,
 LL 22 (.move (.tmp 1)) 3,
 LL 23 (.indexAddr 40 (.tmp 20) (.tmp 21)) 0,
 LL 24 (.fieldAddr 107 (.tmp 23) 1) 0,
 LL 25 (.fieldAddr 26 (.tmp 24) 0) 0,
 ⟨none, (.store 3 (.tmp 25) (.tmp 22)), 0, none⟩])
 (.seq (.rgn [] [LL 26 (.move (.tmp 1)) 3,
 LL 27 (.binOp .add 3 (.tmp 26) (.const (.int .i64 1)) 3) 3,
 LL 1 (.assign (.tmp 27)) 3])
 (.rgn [] [LL 28 (.move (.tmp 0)) 40,
 LL 29 (.move (.tmp 5)) 3,
 LL 30 (.indexAddr 40 (.tmp 28) (.tmp 29)) 0,
 LL 31 (.fieldAddr 107 (.tmp 30) 1) 0,
 LL 32 (.fieldAddr 26 (.tmp 31) 1) 0,
 LL 33 (.load 24 (.tmp 32)) 24,
 LL 34 (.move (.tmp 1)) 3,
 LL 35 (.call { callee := (.value (.func 184)), args := #[(.tmp 33), (.tmp 34)], argTypes := #[24, 3] }) 3,
 LL 1 (.assign (.tmp 35)) 3]))))))
 (.rgn [] [LL 10 (.move (.tmp 5)) 3,
 LL 11 (.binOp .add 3 (.tmp 10) (.const (.int .i64 1)) 3) 3,
 LL 5 (.assign (.tmp 11)) 3]))))))
 (.seq (.rgn [] [LL 36 (.move (.tmp 1)) 3,
 LL 4 (.assign (.tmp 36)) 3])
 .ret)))
theorem lit113 : Lit Try.prog 113 37 [] [.tmp 4] c113 := ⟨⟨Try.f113, _, Try.func113, rfl, by kernel_rfl, rfl, rfl, by kernel_rfl, by kernel_rfl⟩, by decide, by kernel_rfl⟩
theorem lit114 : LitF 114 [] [] [] Try.f114 := litOf Try.func114 (by kernel_rfl)
theorem lit117 : LitF 117 [1, 2, 3, 5] [(16, 3), (22, 3)] [(4, [15]), (5, [17]), (7, [24])] Try.f117 := litOf Try.func117 (by kernel_rfl)
theorem lit118 : LitF 118 [1, 5] [] [(6, [27])] Try.f118 := litOf Try.func118 (by kernel_rfl)
theorem lit119 : LitF 119 [2, 3, 4, 6, 8, 10, 12] [] [(1, [14]), (4, [24]), (5, [31]), (6, [38])] Try.f119 := litOf Try.func119 (by kernel_rfl)
theorem lit120 : LitF 120 [1, 2, 3, 5] [] [(6, [23, 24]), (7, [28])] Try.f120 := litOf Try.func120 (by kernel_rfl)
theorem lit121 : LitF 121 [1, 2, 3, 5] [(13, 3), (15, 5), (17, 5), (23, 3)] [(4, [12]), (5, [14]), (7, [25])] Try.f121 := litOf Try.func121 (by kernel_rfl)
theorem lit122 : LitF 122 [1, 2, 3, 5] [(21, 3), (23, 1), (33, 3)] [(6, [22, 29]), (7, [34])] Try.f122 := litOf Try.func122 (by kernel_rfl)
theorem lit123 : LitF 123 [2, 3, 4, 6, 8, 10, 12, 14] [] [(3, [21]), (4, [28]), (5, [35]), (6, [43]), (7, [49]), (8, [57, 58])] Try.f123 := litOf Try.func123 (by kernel_rfl)
theorem lit124 : LitF 124 [2, 3, 4, 6] [(38, 2), (48, 6), (51, 2), (59, 6)] [(9, [49, 55]), (10, [60])] Try.f124 := litOf Try.func124 (by kernel_rfl)
theorem lit125 : LitF 125 [2, 3, 4, 6] [(25, 2), (28, 2), (31, 3)] [(3, [24]), (4, [37])] Try.f125 := litOf Try.func125 (by kernel_rfl)
theorem lit126 : LitF 126 [] [] [] Try.f126 := litOf Try.func126 (by kernel_rfl)
theorem lit128 : LitF 128 [3, 7] [] [(1, [3, 7]), (6, [22])] Try.f128 := litOf Try.func128 (by kernel_rfl)
theorem lit130 : LitF 130 [] [] [] Try.f130 := litOf Try.func130 (by kernel_rfl)
/-- laws.markDatabaseS -/
def c132 : LC :=
  (.seq (.rgn [] [LL 4 (.assign (.const (.int .i64 0))) 3])
 (.seq (.seq (.rgn [] [LL 5 (.assign (.const (.int .i64 0))) 3])
 (.blk 0
 (.loop []
 (.seq (.seq (.rgn [] [LL 6 (.move (.tmp 5)) 3,
 LL 7 (.move (.tmp 0)) 68,
 LL 8 (.call { callee := (.builtin .len), args := #[(.tmp 7)], argTypes := #[68] }) 3,
 LL 9 (.binOp .lss 3 (.tmp 6) (.tmp 8) 3) 4])
 (.cond (.tmp 9)
 .skip
 (.exit 0)))
 (.seq (.blk 1
 (.rgn [] [LL 12 (.move (.tmp 0)) 68,
 LL 13 (.move (.tmp 5)) 3,
 LL 14 (.indexAddr 68 (.tmp 12) (.tmp 13)) 0,
 LL 15 (.fieldAddr 42 (.tmp 14) 0) 0,
 LL 16 (.load 40 (.tmp 15)) 40,
 LL 17 (.move (.tmp 1)) 3,
 LL 18 (.call { callee := (.value (.func 113)), args := #[(.tmp 16), (.tmp 17)], argTypes := #[40, 3] }) 3,
 LL 1 (.assign (.tmp 18)) 3]))
 (.rgn [] [LL 10 (.move (.tmp 5)) 3,
 LL 11 (.binOp .add 3 (.tmp 10) (.const (.int .i64 1)) 3) 3,
 LL 5 (.assign (.tmp 11)) 3]))))))
 (.seq (.rgn [] [LL 19 (.move (.tmp 1)) 3,
 LL 4 (.assign (.tmp 19)) 3])
 .ret)))
theorem lit132 : Lit Try.prog 132 20 [] [.tmp 4] c132 := ⟨⟨Try.f132, _, Try.func132, rfl, by kernel_rfl, rfl, rfl, by kernel_rfl, by kernel_rfl⟩, by decide, by kernel_rfl⟩
theorem lit133 : LitF 133 [] [] [] Try.f133 := litOf Try.func133 (by kernel_rfl)
theorem lit134 : LitF 134 [2] [] [] Try.f134 := litOf Try.func134 (by kernel_rfl)
theorem lit135 : LitF 135 [1, 2, 3] [] [(4, [11])] Try.f135 := litOf Try.func135 (by kernel_rfl)
theorem lit136 : LitF 136 [2, 3] [] [] Try.f136 := litOf Try.func136 (by kernel_rfl)
/-- laws.markRelation -/
def c137 : LC :=
  (.seq (.rgn [] [LL 2 (.box 26 (.tmp 0)) 0,
 LL 4 (.assign (.const (.int .i64 0))) 3])
 (.seq (.rgn [] [LL 5 (.fieldAddr 26 (.tmp 2) 1) 0,
 LL 6 (.load 24 (.tmp 5)) 24,
 LL 7 (.move (.tmp 1)) 3,
 LL 8 (.call { callee := (.value (.func 184)), args := #[(.tmp 6), (.tmp 7)], argTypes := #[24, 3] }) 3,
 LL 1 (.assign (.tmp 8)) 3])
 (.seq (.rgn [] [LL 9 (.move (.tmp 1)) 3,
 LL 4 (.assign (.tmp 9)) 3])
 .ret)))
theorem lit137 : Lit Try.prog 137 10 [2] [.tmp 4] c137 := ⟨⟨Try.f137, _, Try.func137, rfl, by kernel_rfl, rfl, rfl, by kernel_rfl, by kernel_rfl⟩, by decide, by kernel_rfl⟩
theorem lit167 : LitF 167 [4, 7] [] [(9, [39])] Try.f167 := litOf Try.func167 (by kernel_rfl)
theorem lit172 : LitF 172 [] [] [(5, [21])] Try.f172 := litOf Try.func172 (by kernel_rfl)
theorem lit173 : LitF 173 [] [] [] Try.f173 := litOf Try.func173 (by kernel_rfl)
theorem lit174 : LitF 174 [] [] [(13, [47, 50]), (17, [59, 62]), (19, [67])] Try.f174 := litOf Try.func174 (by kernel_rfl)
theorem lit176 : LitF 176 [1, 4] [(17, 4), (25, 1), (32, 4), (38, 4), (44, 4), (45, 4), (50, 4), (51, 4)] [(5, [16])] Try.f176 := litOf Try.func176 (by kernel_rfl)
theorem lit177 : LitF 177 [1, 2] [(3, 1), (5, 1)] [] Try.f177 := litOf Try.func177 (by kernel_rfl)
theorem lit178 : LitF 178 [] [] [] Try.f178 := litOf Try.func178 (by kernel_rfl)
theorem lit181 : LitF 181 [2, 3] [] [] Try.f181 := litOf Try.func181 (by kernel_rfl)
theorem lit183 : LitF 183 [] [] [] Try.f183 := litOf Try.func183 (by kernel_rfl)
/-- laws.markIntSS -/
def c184 : LC :=
  (.seq (.rgn [] [LL 4 (.assign (.const (.int .i64 0))) 3])
 (.seq (.seq (.rgn [] [LL 5 (.assign (.const (.int .i64 0))) 3])
 (.blk 0
 (.loop []
 (.seq (.seq (.rgn [] [LL 6 (.move (.tmp 5)) 3,
 LL 7 (.move (.tmp 0)) 24,
 LL 8 (.call { callee := (.builtin .len), args := #[(.tmp 7)], argTypes := #[24] }) 3,
 LL 9 (.binOp .lss 3 (.tmp 6) (.tmp 8) 3) 4])
 (.cond (.tmp 9)
 .skip
 (.exit 0)))
 (.seq (.blk 1
 (.rgn [] [LL 12 (.move (.tmp 0)) 24,
 LL 13 (.move (.tmp 5)) 3,
 LL 14 (.indexAddr 24 (.tmp 12) (.tmp 13)) 0,
 LL 15 (.load 31 (.tmp 14)) 31,
 LL 16 (.move (.tmp 1)) 3,
 LL 17 (.call { callee := (.value (.func 39)), args := #[(.tmp 15), (.tmp 16)], argTypes := #[31, 3] }) 3,
 LL 1 (.assign (.tmp 17)) 3]))
 (.rgn [] [LL 10 (.move (.tmp 5)) 3,
 LL 11 (.binOp .add 3 (.tmp 10) (.const (.int .i64 1)) 3) 3,
 LL 5 (.assign (.tmp 11)) 3]))))))
 (.seq (.rgn [] [LL 18 (.move (.tmp 1)) 3,
 LL 4 (.assign (.tmp 18)) 3])
 .ret)))
theorem lit184 : Lit Try.prog 184 19 [] [.tmp 4] c184 := ⟨⟨Try.f184, _, Try.func184, rfl, by kernel_rfl, rfl, rfl, by kernel_rfl, by kernel_rfl⟩, by decide, by kernel_rfl⟩
theorem lit185 : LitF 185 [] [] [] Try.f185 := litOf Try.func185 (by kernel_rfl)
theorem lit190 : LitF 190 [2, 3, 4, 6, 8] [(43, 8), (44, 8), (50, 8), (51, 8), (71, 8), (72, 8), (78, 8), (79, 8)] [(1, [13]), (7, [38]), (9, [45]), (13, [60]), (15, [73]), (17, [81])] Try.f190 := litOf Try.func190 (by kernel_rfl)
theorem lit191 : LitF 191 [2, 3, 4, 6] [(39, 6), (45, 6)] [(6, [34]), (8, [40]), (10, [47])] Try.f191 := litOf Try.func191 (by kernel_rfl)
theorem lit192 : LitF 192 [2, 3, 5] [] [(1, [7])] Try.f192 := litOf Try.func192 (by kernel_rfl)
theorem lit193 : LitF 193 [2] [] [] Try.f193 := litOf Try.func193 (by kernel_rfl)
theorem lit194 : LitF 194 [2] [] [] Try.f194 := litOf Try.func194 (by kernel_rfl)
theorem lit195 : LitF 195 [1, 2, 3] [] [(3, [8])] Try.f195 := litOf Try.func195 (by kernel_rfl)
theorem lit196 : LitF 196 [] [] [] Try.f196 := litOf Try.func196 (by kernel_rfl)
theorem lit197 : LitF 197 [3, 7] [] [(1, [3, 7]), (6, [22])] Try.f197 := litOf Try.func197 (by kernel_rfl)
theorem lit198 : LitF 198 [] [] [] Try.f198 := litOf Try.func198 (by kernel_rfl)
theorem lit212 : LitF 212 [] [] [] Try.f212 := litOf Try.func212 (by kernel_rfl)
theorem lit222 : LitF 222 [] [] [(2, [12]), (16, [53]), (18, [58]), (21, [75, 76]), (22, [79])] Try.f222 := litOf Try.func222 (by kernel_rfl)
theorem lit223 : LitF 223 [] [] [] Try.f223 := litOf Try.func223 (by kernel_rfl)
theorem lit224 : LitF 224 [] [] [] Try.f224 := litOf Try.func224 (by kernel_rfl)
theorem lit225 : LitF 225 [2, 3, 4, 6] [(29, 3), (30, 3), (32, 6), (37, 3), (38, 3), (40, 6)] [(1, [8])] Try.f225 := litOf Try.func225 (by kernel_rfl)
theorem lit226 : LitF 226 [2] [] [] Try.f226 := litOf Try.func226 (by kernel_rfl)
theorem lit227 : LitF 227 [] [] [] Try.f227 := litOf Try.func227 (by kernel_rfl)
theorem lit228 : LitF 228 [3, 7] [] [(1, [3, 7]), (6, [22])] Try.f228 := litOf Try.func228 (by kernel_rfl)
theorem lit232 : LitF 232 [] [] [] Try.f232 := litOf Try.func232 (by kernel_rfl)
theorem lit238 : LitF 238 [] [] [] Try.f238 := litOf Try.func238 (by kernel_rfl)
theorem lit240 : LitF 240 [] [] [] Try.f240 := litOf Try.func240 (by kernel_rfl)
theorem lit241 : LitF 241 [2] [] [] Try.f241 := litOf Try.func241 (by kernel_rfl)
theorem lit242 : LitF 242 [1, 2, 3] [] [(4, [11])] Try.f242 := litOf Try.func242 (by kernel_rfl)
end Go.Proofs.Ytmioifafgbjjhaa
