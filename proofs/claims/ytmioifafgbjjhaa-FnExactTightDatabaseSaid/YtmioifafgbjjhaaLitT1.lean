/-
  The functions' code as the program holds it, without places and edges; printed by genlit.py. No conditions.
-/
import Derived.Test.YtmioifafgbjjhaaTb
namespace Go.Proofs.Ytmioifafgbjjhaa
open Go.RowKit
set_option linter.unusedVariables false
set_option maxRecDepth 100000
theorem lit15 : LitF 15 [1] [(21, 1), (27, 1), (31, 1), (43, 1), (49, 1)] [] Try.f15 := litOf Try.func15 (by kernel_rfl)
theorem lit29 : LitF 29 [2, 4] [] [] Try.f29 := litOf Try.func29 (by kernel_rfl)
theorem lit30 : LitF 30 [2] [] [] Try.f30 := litOf Try.func30 (by kernel_rfl)
theorem lit31 : LitF 31 [3, 6, 8, 12, 14, 16] [(68, 3), (79, 3)] [(3, [24]), (11, [44]), (12, [61]), (13, [66]), (14, [77]), (17, [99]), (18, [100])] Try.f31 := litOf Try.func31 (by kernel_rfl)
theorem lit32 : LitF 32 [1, 2, 3] [] [(5, [15])] Try.f32 := litOf Try.func32 (by kernel_rfl)
theorem lit33 : LitF 33 [3, 7] [] [(1, [3, 7]), (6, [21])] Try.f33 := litOf Try.func33 (by kernel_rfl)
theorem lit34 : LitF 34 [3, 6, 10, 12, 14, 15, 17] [] [(1, [19]), (7, [36]), (10, [45]), (14, [53]), (15, [61]), (18, [76]), (20, [78])] Try.f34 := litOf Try.func34 (by kernel_rfl)
theorem lit35 : LitF 35 [2, 3] [] [] Try.f35 := litOf Try.func35 (by kernel_rfl)
theorem lit36 : LitF 36 [2, 3] [] [] Try.f36 := litOf Try.func36 (by kernel_rfl)
theorem lit37 : LitF 37 [] [] [] Try.f37 := litOf Try.func37 (by kernel_rfl)
/-- laws.markQuery -/
def c38 : LC :=
  (.seq (.rgn [] [LL 2 (.box 59 (.tmp 0)) 0,
 LL 4 (.assign (.const (.int .i64 0))) 3])
 (.seq (.rgn [] [LL 5 (.fieldAddr 59 (.tmp 2) 1) 0,
 LL 6 (.load 57 (.tmp 5)) 57,
 LL 7 (.move (.tmp 1)) 3,
 LL 8 (.call { callee := (.value (.func 112)), args := #[(.tmp 6), (.tmp 7)], argTypes := #[57, 3] }) 3,
 LL 1 (.assign (.tmp 8)) 3])
 (.seq (.rgn [] [LL 9 (.fieldAddr 59 (.tmp 2) 2) 0,
 LL 10 (.load 31 (.tmp 9)) 31,
 LL 11 (.move (.tmp 1)) 3,
 LL 12 (.call { callee := (.value (.func 39)), args := #[(.tmp 10), (.tmp 11)], argTypes := #[31, 3] }) 3,
 LL 1 (.assign (.tmp 12)) 3])
 (.seq (.rgn [] [LL 13 (.move (.tmp 1)) 3,
 LL 4 (.assign (.tmp 13)) 3])
 .ret))))
theorem lit38 : Lit Try.prog 38 14 [2] [.tmp 4] c38 := ⟨⟨Try.f38, _, Try.func38, rfl, by kernel_rfl, rfl, rfl, by kernel_rfl, by kernel_rfl⟩, by decide, by kernel_rfl⟩
/-- laws.markIntS -/
def c39 : LC :=
  (.seq (.rgn [] [LL 4 (.assign (.const (.int .i64 0))) 3])
 (.seq (.seq (.rgn [] [LL 5 (.assign (.const (.int .i64 0))) 3])
 (.blk 0
 (.loop []
 (.seq (.seq (.rgn [] [LL 6 (.move (.tmp 5)) 3,
 LL 7 (.move (.tmp 0)) 31,
 LL 8 (.call { callee := (.builtin .len), args := #[(.tmp 7)], argTypes := #[31] }) 3,
 LL 9 (.binOp .lss 3 (.tmp 6) (.tmp 8) 3) 4])
 (.cond (.tmp 9)
 .skip
 (.exit 0)))
 (.seq (.blk 1
 (.seq (.rgn [] [LL 12 (.move (.tmp 0)) 31,
 LL 13 (.move (.tmp 5)) 3,
 LL 14 (.move (.tmp 1)) 3,
 LL 15 (.indexAddr 31 (.tmp 12) (.tmp 13)) 0,
 ⟨none, (.store 3 (.tmp 15) (.tmp 14)), 0, none⟩])
 (.rgn [] [LL 16 (.move (.tmp 1)) 3,
 LL 17 (.binOp .add 3 (.tmp 16) (.const (.int .i64 1)) 3) 3,
 LL 1 (.assign (.tmp 17)) 3])))
 (.rgn [] [LL 10 (.move (.tmp 5)) 3,
 LL 11 (.binOp .add 3 (.tmp 10) (.const (.int .i64 1)) 3) 3,
 LL 5 (.assign (.tmp 11)) 3]))))))
 (.seq (.rgn [] [LL 18 (.move (.tmp 1)) 3,
 LL 4 (.assign (.tmp 18)) 3])
 .ret)))
theorem lit39 : Lit Try.prog 39 19 [] [.tmp 4] c39 := ⟨⟨Try.f39, _, Try.func39, rfl, by kernel_rfl, rfl, rfl, by kernel_rfl, by kernel_rfl⟩, by decide, by kernel_rfl⟩
/-- laws.markDatabase -/
def c40 : LC :=
  (.seq (.rgn [] [LL 2 (.box 42 (.tmp 0)) 0,
 LL 4 (.assign (.const (.int .i64 0))) 3])
 (.seq (.rgn [] [LL 5 (.fieldAddr 42 (.tmp 2) 0) 0,
 LL 6 (.load 40 (.tmp 5)) 40,
 LL 7 (.move (.tmp 1)) 3,
 LL 8 (.call { callee := (.value (.func 113)), args := #[(.tmp 6), (.tmp 7)], argTypes := #[40, 3] }) 3,
 LL 1 (.assign (.tmp 8)) 3])
 (.seq (.rgn [] [LL 9 (.move (.tmp 1)) 3,
 LL 4 (.assign (.tmp 9)) 3])
 .ret)))
theorem lit40 : Lit Try.prog 40 10 [2] [.tmp 4] c40 := ⟨⟨Try.f40, _, Try.func40, rfl, by kernel_rfl, rfl, rfl, by kernel_rfl, by kernel_rfl⟩, by decide, by kernel_rfl⟩
theorem lit41 : LitF 41 [2] [] [] Try.f41 := litOf Try.func41 (by kernel_rfl)
theorem lit68 : LitF 68 [2] [] [(20, [48]), (24, [54]), (26, [63]), (28, [67])] Try.f68 := litOf Try.func68 (by kernel_rfl)
theorem lit85 : LitF 85 [1] [] [] Try.f85 := litOf Try.func85 (by kernel_rfl)
theorem lit86 : LitF 86 [] [] [] Try.f86 := litOf Try.func86 (by kernel_rfl)
theorem lit87 : LitF 87 [] [] [] Try.f87 := litOf Try.func87 (by kernel_rfl)
theorem lit88 : LitF 88 [] [] [(1, [4])] Try.f88 := litOf Try.func88 (by kernel_rfl)
theorem lit89 : LitF 89 [] [] [] Try.f89 := litOf Try.func89 (by kernel_rfl)
theorem lit90 : LitF 90 [] [] [] Try.f90 := litOf Try.func90 (by kernel_rfl)
theorem lit91 : LitF 91 [] [] [] Try.f91 := litOf Try.func91 (by kernel_rfl)
theorem lit93 : LitF 93 [] [] [(4, [11]), (5, [12]), (7, [18])] Try.f93 := litOf Try.func93 (by kernel_rfl)
theorem lit97 : LitF 97 [] [] [(5, [15]), (7, [23])] Try.f97 := litOf Try.func97 (by kernel_rfl)
theorem lit99 : LitF 99 [1, 4] [(17, 4), (25, 1), (32, 4), (38, 4), (44, 4), (45, 4), (51, 4), (52, 4)] [(4, [16])] Try.f99 := litOf Try.func99 (by kernel_rfl)
theorem lit100 : LitF 100 [1, 2, 3] [(15, 3), (18, 1), (26, 3)] [(5, [16, 22]), (6, [27])] Try.f100 := litOf Try.func100 (by kernel_rfl)
theorem lit101 : LitF 101 [] [] [] Try.f101 := litOf Try.func101 (by kernel_rfl)
theorem lit102 : LitF 102 [] [] [] Try.f102 := litOf Try.func102 (by kernel_rfl)
theorem lit103 : LitF 103 [3] [] [] Try.f103 := litOf Try.func103 (by kernel_rfl)
theorem lit104 : LitF 104 [] [] [] Try.f104 := litOf Try.func104 (by kernel_rfl)
theorem lit105 : LitF 105 [2] [] [(14, [54, 59]), (15, [66]), (16, [69])] Try.f105 := litOf Try.func105 (by kernel_rfl)
theorem lit106 : LitF 106 [3, 5, 6, 8, 11] [] [(6, [24]), (8, [34]), (11, [46, 47]), (13, [54])] Try.f106 := litOf Try.func106 (by kernel_rfl)
theorem lit107 : LitF 107 [3, 7] [] [(1, [3, 7]), (6, [22])] Try.f107 := litOf Try.func107 (by kernel_rfl)
theorem lit108 : LitF 108 [3] [] [(16, [47]), (18, [52])] Try.f108 := litOf Try.func108 (by kernel_rfl)
theorem lit109 : LitF 109 [3, 5, 6, 8, 10] [(60, 8), (68, 8), (73, 8)] [(9, [57]), (10, [65]), (13, [79])] Try.f109 := litOf Try.func109 (by kernel_rfl)
theorem lit110 : LitF 110 [] [] [] Try.f110 := litOf Try.func110 (by kernel_rfl)
theorem lit111 : LitF 111 [] [] [] Try.f111 := litOf Try.func111 (by kernel_rfl)
/-- laws.markAtomS -/
def c112 : LC :=
  (.seq (.rgn [] [LL 4 (.assign (.const (.int .i64 0))) 3])
 (.seq (.seq (.rgn [] [LL 5 (.assign (.const (.int .i64 0))) 3])
 (.blk 0
 (.loop []
 (.seq (.seq (.rgn [] [LL 6 (.move (.tmp 5)) 3,
 LL 7 (.move (.tmp 0)) 57,
 LL 8 (.call { callee := (.builtin .len), args := #[(.tmp 7)], argTypes := #[57] }) 3,
 LL 9 (.binOp .lss 3 (.tmp 6) (.tmp 8) 3) 4])
 (.cond (.tmp 9)
 .skip
 (.exit 0)))
 (.seq (.blk 1
 (.seq (.rgn [] [LL 12 (.move (.tmp 0)) 57,
 LL 13 (.move (.tmp 5)) 3,
 LL 14 (.move (.tmp 1)) 3,
 LL 15 (.call { callee := (.value (.func 183)), args := #[(.tmp 14)], argTypes := #[3] }) 9,
 LL 16 (.indexAddr 57 (.tmp 12) (.tmp 13)) 0,
 LL 17 (.fieldAddr 142 (.tmp 16) 0) 0,
 ⟨none, (.store 9 (.tmp 17) (.tmp 15)), 0, none⟩])
 (.seq (.rgn [] [LL 18 (.move (.tmp 1)) 3,
 LL 19 (.binOp .add 3 (.tmp 18) (.const (.int .i64 1)) 3) 3,
 LL 1 (.assign (.tmp 19)) 3])
 (.rgn [] [LL 20 (.move (.tmp 0)) 57,
 LL 21 (.move (.tmp 5)) 3,
 LL 22 (.indexAddr 57 (.tmp 20) (.tmp 21)) 0,
 LL 23 (.fieldAddr 142 (.tmp 22) 1) 0,
 LL 24 (.load 31 (.tmp 23)) 31,
 LL 25 (.move (.tmp 1)) 3,
 LL 26 (.call { callee := (.value (.func 39)), args := #[(.tmp 24), (.tmp 25)], argTypes := #[31, 3] }) 3,
 LL 1 (.assign (.tmp 26)) 3]))))
 (.rgn [] [LL 10 (.move (.tmp 5)) 3,
 LL 11 (.binOp .add 3 (.tmp 10) (.const (.int .i64 1)) 3) 3,
 LL 5 (.assign (.tmp 11)) 3]))))))
 (.seq (.rgn [] [LL 27 (.move (.tmp 1)) 3,
 LL 4 (.assign (.tmp 27)) 3])
 .ret)))
theorem lit112 : Lit Try.prog 112 28 [] [.tmp 4] c112 := ⟨⟨Try.f112, _, Try.func112, rfl, by kernel_rfl, rfl, rfl, by kernel_rfl, by kernel_rfl⟩, by decide, by kernel_rfl⟩
/-- laws.markTableS -/
def c113 : LC :=
  (.seq (.rgn [] [LL 4 (.assign (.const (.int .i64 0))) 3])
 (.seq (.seq (.rgn [] [LL 5 (.assign (.const (.int .i64 0))) 3])
 (.blk 0
 (.loop []
 (.seq (.seq (.rgn [] [LL 6 (.move (.tmp 5)) 3,
 LL 7 (.move (.tmp 0)) 40,
 LL 8 (.call { callee := (.builtin .len), args := #[(.tmp 7)], argTypes := #[40] }) 3,
 LL 9 (.binOp .lss 3 (.tmp 6) (.tmp 8) 3) 4])
 (.cond (.tmp 9)
 .skip
 (.exit 0)))
 (.seq (.blk 1
 (.seq (.rgn [] [LL 12 (.move (.tmp 0)) 40,
 LL 13 (.move (.tmp 5)) 3,
 LL 14 (.move (.tmp 1)) 3,
 LL 15 (.call { callee := (.value (.func 183)), args := #[(.tmp 14)], argTypes := #[3] }) 9,
 LL 16 (.indexAddr 40 (.tmp 12) (.tmp 13)) 0,
 LL 17 (.fieldAddr 107 (.tmp 16) 0) 0,
 ⟨none, (.store 9 (.tmp 17) (.tmp 15)), 0, none⟩])
 (.seq (.rgn [] [LL 18 (.move (.tmp 1)) 3,
 LL 19 (.binOp .add 3 (.tmp 18) (.const (.int .i64 1)) 3) 3,
 LL 1 (.assign (.tmp 19)) 3])
 (.seq (.rgn [] [LL 20 (.move (.tmp 0)) 40,
 LL 21 (.move (.tmp 5)) 3,
 LL 22 (.move (.tmp 1)) 3,
 LL 23 (.indexAddr 40 (.tmp 20) (.tmp 21)) 0,
 LL 24 (.fieldAddr 107 (.tmp 23) 1) 0,
 LL 25 (.fieldAddr 26 (.tmp 24) 0) 0,
 ⟨none, (.store 3 (.tmp 25) (.tmp 22)), 0, none⟩])
 (.seq (.rgn [] [LL 26 (.move (.tmp 1)) 3,
 LL 27 (.binOp .add 3 (.tmp 26) (.const (.int .i64 1)) 3) 3,
 LL 1 (.assign (.tmp 27)) 3])
 (.rgn [] [LL 28 (.move (.tmp 0)) 40,
 LL 29 (.move (.tmp 5)) 3,
 LL 30 (.indexAddr 40 (.tmp 28) (.tmp 29)) 0,
 LL 31 (.fieldAddr 107 (.tmp 30) 1) 0,
 LL 32 (.fieldAddr 26 (.tmp 31) 1) 0,
 LL 33 (.load 24 (.tmp 32)) 24,
 LL 34 (.move (.tmp 1)) 3,
 LL 35 (.call { callee := (.value (.func 184)), args := #[(.tmp 33), (.tmp 34)], argTypes := #[24, 3] }) 3,
 LL 1 (.assign (.tmp 35)) 3]))))))
 (.rgn [] [LL 10 (.move (.tmp 5)) 3,
 LL 11 (.binOp .add 3 (.tmp 10) (.const (.int .i64 1)) 3) 3,
 LL 5 (.assign (.tmp 11)) 3]))))))
 (.seq (.rgn [] [LL 36 (.move (.tmp 1)) 3,
 LL 4 (.assign (.tmp 36)) 3])
 .ret)))
theorem lit113 : Lit Try.prog 113 37 [] [.tmp 4] c113 := ⟨⟨Try.f113, _, Try.func113, rfl, by kernel_rfl, rfl, rfl, by kernel_rfl, by kernel_rfl⟩, by decide, by kernel_rfl⟩
theorem lit114 : LitF 114 [] [] [] Try.f114 := litOf Try.func114 (by kernel_rfl)
theorem lit121 : LitF 121 [1, 2, 3, 5] [(13, 3), (15, 5), (17, 5), (23, 3)] [(4, [12]), (5, [14]), (7, [25])] Try.f121 := litOf Try.func121 (by kernel_rfl)
theorem lit122 : LitF 122 [1, 2, 3, 5] [(21, 3), (23, 1), (33, 3)] [(6, [22, 29]), (7, [34])] Try.f122 := litOf Try.func122 (by kernel_rfl)
theorem lit136 : LitF 136 [2, 3] [] [] Try.f136 := litOf Try.func136 (by kernel_rfl)
theorem lit150 : LitF 150 [1, 4, 6, 31] [] [(4, [4, 31]), (7, [38])] Try.f150 := litOf Try.func150 (by kernel_rfl)
theorem lit157 : LitF 157 [1] [(65, 1), (74, 1), (111, 1), (116, 1), (122, 1), (126, 1)] [] Try.f157 := litOf Try.func157 (by kernel_rfl)
theorem lit172 : LitF 172 [] [] [(5, [21])] Try.f172 := litOf Try.func172 (by kernel_rfl)
theorem lit173 : LitF 173 [] [] [] Try.f173 := litOf Try.func173 (by kernel_rfl)
theorem lit176 : LitF 176 [1, 4] [(17, 4), (25, 1), (32, 4), (38, 4), (44, 4), (45, 4), (50, 4), (51, 4)] [(5, [16])] Try.f176 := litOf Try.func176 (by kernel_rfl)
theorem lit177 : LitF 177 [1, 2] [(3, 1), (5, 1)] [] Try.f177 := litOf Try.func177 (by kernel_rfl)
theorem lit178 : LitF 178 [] [] [] Try.f178 := litOf Try.func178 (by kernel_rfl)
theorem lit179 : LitF 179 [2] [] [] Try.f179 := litOf Try.func179 (by kernel_rfl)
theorem lit180 : LitF 180 [1, 2, 3] [] [(4, [11])] Try.f180 := litOf Try.func180 (by kernel_rfl)
theorem lit181 : LitF 181 [2, 3] [] [] Try.f181 := litOf Try.func181 (by kernel_rfl)
theorem lit182 : LitF 182 [2, 3] [] [] Try.f182 := litOf Try.func182 (by kernel_rfl)
theorem lit183 : LitF 183 [] [] [] Try.f183 := litOf Try.func183 (by kernel_rfl)
/-- laws.markIntSS -/
def c184 : LC :=
  (.seq (.rgn [] [LL 4 (.assign (.const (.int .i64 0))) 3])
 (.seq (.seq (.rgn [] [LL 5 (.assign (.const (.int .i64 0))) 3])
 (.blk 0
 (.loop []
 (.seq (.seq (.rgn [] [LL 6 (.move (.tmp 5)) 3,
 LL 7 (.move (.tmp 0)) 24,
 LL 8 (.call { callee := (.builtin .len), args := #[(.tmp 7)], argTypes := #[24] }) 3,
 LL 9 (.binOp .lss 3 (.tmp 6) (.tmp 8) 3) 4])
 (.cond (.tmp 9)
 .skip
 (.exit 0)))
 (.seq (.blk 1
 (.rgn [] [LL 12 (.move (.tmp 0)) 24,
 LL 13 (.move (.tmp 5)) 3,
 LL 14 (.indexAddr 24 (.tmp 12) (.tmp 13)) 0,
 LL 15 (.load 31 (.tmp 14)) 31,
 LL 16 (.move (.tmp 1)) 3,
 LL 17 (.call { callee := (.value (.func 39)), args := #[(.tmp 15), (.tmp 16)], argTypes := #[31, 3] }) 3,
 LL 1 (.assign (.tmp 17)) 3]))
 (.rgn [] [LL 10 (.move (.tmp 5)) 3,
 LL 11 (.binOp .add 3 (.tmp 10) (.const (.int .i64 1)) 3) 3,
 LL 5 (.assign (.tmp 11)) 3]))))))
 (.seq (.rgn [] [LL 18 (.move (.tmp 1)) 3,
 LL 4 (.assign (.tmp 18)) 3])
 .ret)))
theorem lit184 : Lit Try.prog 184 19 [] [.tmp 4] c184 := ⟨⟨Try.f184, _, Try.func184, rfl, by kernel_rfl, rfl, rfl, by kernel_rfl, by kernel_rfl⟩, by decide, by kernel_rfl⟩
theorem lit185 : LitF 185 [] [] [] Try.f185 := litOf Try.func185 (by kernel_rfl)
theorem lit198 : LitF 198 [] [] [] Try.f198 := litOf Try.func198 (by kernel_rfl)
theorem lit211 : LitF 211 [] [] [] Try.f211 := litOf Try.func211 (by kernel_rfl)
theorem lit212 : LitF 212 [] [] [] Try.f212 := litOf Try.func212 (by kernel_rfl)
theorem lit218 : LitF 218 [2] [] [] Try.f218 := litOf Try.func218 (by kernel_rfl)
theorem lit219 : LitF 219 [] [] [] Try.f219 := litOf Try.func219 (by kernel_rfl)
theorem lit223 : LitF 223 [] [] [] Try.f223 := litOf Try.func223 (by kernel_rfl)
theorem lit224 : LitF 224 [] [] [] Try.f224 := litOf Try.func224 (by kernel_rfl)
theorem lit230 : LitF 230 [] [] [] Try.f230 := litOf Try.func230 (by kernel_rfl)
theorem lit232 : LitF 232 [] [] [] Try.f232 := litOf Try.func232 (by kernel_rfl)
theorem lit238 : LitF 238 [] [] [] Try.f238 := litOf Try.func238 (by kernel_rfl)
end Go.Proofs.Ytmioifafgbjjhaa
