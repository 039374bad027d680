/-
  The functions' code as the program holds it, without places and edges; printed by genlit.py. No conditions.
-/
import Derived.Test.YtckmdkajoiegmaaGreatDoorTb
import Derived.Test.YtckmdkajoiegmaaGreatDoorKb
import Derived.Test.YtckmdkajoiegmaaGreatDoorKd
import Derived.Test.YtckmdkajoiegmaaGreatDoorKc
open Go.RowKit
set_option linter.unusedVariables false
set_option linter.unusedSimpArgs false
namespace Go.Proofs.YtckmdkajoiegmaaGreatDoor
set_option maxRecDepth 100000
theorem y4 : Cm 5 [2] [] [] Tryz.f5 := BG Tryz.func5 (by kernel_rfl)
theorem y5 : Cm 6 [2, 4, 6, 8, 9, 12] [] [(3, [26]), (5, [32]), (6, [34]), (7, [40]), (9, [56])] Tryz.f6 := BG Tryz.func6 (by kernel_rfl)
theorem y6 : Cm 7 [1, 2, 3] [] [(5, [15])] Tryz.f7 := BG Tryz.func7 (by kernel_rfl)
theorem y7 : Cm 8 [3, 7] [] [(1, [3, 7]), (6, [21])] Tryz.f8 := BG Tryz.func8 (by kernel_rfl)
theorem y8 : Cm 9 [2, 4, 6, 8, 9, 12] [] [(3, [26]), (5, [32]), (6, [34]), (7, [40]), (9, [50])] Tryz.f9 := BG Tryz.func9 (by kernel_rfl)
theorem ww : Cm 10 [2, 3] [] [] Tryz.f10 := BG Tryz.func10 (by kernel_rfl)
theorem wx : Cm 11 [2, 3] [] [] Tryz.f11 := BG Tryz.func11 (by kernel_rfl)
theorem wy : Cm 12 [] [] [] Tryz.f12 := BG Tryz.func12 (by kernel_rfl)
def c13 : LC :=
  (.seq (.rgn [] [LL 2 (.box 38 (.tmp 0)) 0,
 LL 4 (.assign (.const (.int .i64 0))) 3])
 (.seq (.rgn [] [LL 5 (.fieldAddr 38 (.tmp 2) 1) 0,
 LL 6 (.load 36 (.tmp 5)) 36,
 LL 7 (.move (.tmp 1)) 3,
 LL 8 (.call { callee := (.value (.func 44)), args := #[(.tmp 6), (.tmp 7)], argTypes := #[36, 3] }) 3,
 LL 1 (.assign (.tmp 8)) 3])
 (.seq (.rgn [] [LL 9 (.fieldAddr 38 (.tmp 2) 2) 0,
 LL 10 (.load 23 (.tmp 9)) 23,
 LL 11 (.move (.tmp 1)) 3,
 LL 12 (.call { callee := (.value (.func 14)), args := #[(.tmp 10), (.tmp 11)], argTypes := #[23, 3] }) 3,
 LL 1 (.assign (.tmp 12)) 3])
 (.seq (.rgn [] [LL 13 (.move (.tmp 1)) 3,
 LL 4 (.assign (.tmp 13)) 3])
 .ret))))
theorem pK : Lit Tryz.prog 13 14 [2] [.tmp 4] c13 := ⟨⟨Tryz.f13, _, Tryz.func13, rfl, by kernel_rfl, rfl, rfl, by kernel_rfl, by kernel_rfl⟩, by decide, by kernel_rfl⟩
def c14 : LC :=
  (.seq (.rgn [] [LL 4 (.assign (.const (.int .i64 0))) 3])
 (.seq (.seq (.rgn [] [LL 5 (.assign (.const (.int .i64 0))) 3])
 (.blk 0
 (.loop []
 (.seq (.seq (.rgn [] [LL 6 (.move (.tmp 5)) 3,
 LL 7 (.move (.tmp 0)) 23,
 LL 8 (.call { callee := (.builtin .len), args := #[(.tmp 7)], argTypes := #[23] }) 3,
 LL 9 (.binOp .lss 3 (.tmp 6) (.tmp 8) 3) 4])
 (.cond (.tmp 9)
 .skip
 (.exit 0)))
 (.seq (.blk 1
 (.seq (.rgn [] [LL 12 (.move (.tmp 0)) 23,
 LL 13 (.move (.tmp 5)) 3,
 LL 14 (.move (.tmp 1)) 3,
 LL 15 (.indexAddr 23 (.tmp 12) (.tmp 13)) 0,
 ⟨none, (.store 3 (.tmp 15) (.tmp 14)), 0, none⟩])
 (.rgn [] [LL 16 (.move (.tmp 1)) 3,
 LL 17 (.binOp .add 3 (.tmp 16) (.const (.int .i64 1)) 3) 3,
 LL 1 (.assign (.tmp 17)) 3])))
 (.rgn [] [LL 10 (.move (.tmp 5)) 3,
 LL 11 (.binOp .add 3 (.tmp 10) (.const (.int .i64 1)) 3) 3,
 LL 5 (.assign (.tmp 11)) 3]))))))
 (.seq (.rgn [] [LL 18 (.move (.tmp 1)) 3,
 LL 4 (.assign (.tmp 18)) 3])
 .ret)))
theorem Xy : Lit Tryz.prog 14 19 [] [.tmp 4] c14 := ⟨⟨Tryz.f14, _, Tryz.func14, rfl, by kernel_rfl, rfl, rfl, by kernel_rfl, by kernel_rfl⟩, by decide, by kernel_rfl⟩
def c15 : LC :=
  (.seq (.rgn [] [LL 2 (.box 33 (.tmp 0)) 0,
 LL 4 (.assign (.const (.int .i64 0))) 3])
 (.seq (.rgn [] [LL 5 (.fieldAddr 33 (.tmp 2) 1) 0,
 LL 6 (.load 23 (.tmp 5)) 23,
 LL 7 (.move (.tmp 1)) 3,
 LL 8 (.call { callee := (.value (.func 14)), args := #[(.tmp 6), (.tmp 7)], argTypes := #[23, 3] }) 3,
 LL 1 (.assign (.tmp 8)) 3])
 (.seq (.rgn [] [LL 9 (.fieldAddr 33 (.tmp 2) 2) 0,
 LL 10 (.load 28 (.tmp 9)) 28,
 LL 11 (.move (.tmp 1)) 3,
 LL 12 (.call { callee := (.value (.func 45)), args := #[(.tmp 10), (.tmp 11)], argTypes := #[28, 3] }) 3,
 LL 1 (.assign (.tmp 12)) 3])
 (.seq (.rgn [] [LL 13 (.fieldAddr 33 (.tmp 2) 3) 0,
 LL 14 (.load 31 (.tmp 13)) 31,
 LL 15 (.move (.tmp 1)) 3,
 LL 16 (.call { callee := (.value (.func 46)), args := #[(.tmp 14), (.tmp 15)], argTypes := #[31, 3] }) 3,
 LL 1 (.assign (.tmp 16)) 3])
 (.seq (.rgn [] [LL 17 (.move (.tmp 1)) 3,
 LL 4 (.assign (.tmp 17)) 3])
 .ret)))))
theorem pL : Lit Tryz.prog 15 18 [2] [.tmp 4] c15 := ⟨⟨Tryz.f15, _, Tryz.func15, rfl, by kernel_rfl, rfl, rfl, by kernel_rfl, by kernel_rfl⟩, by decide, by kernel_rfl⟩
theorem wz : Cm 16 [2] [] [] Tryz.f16 := BG Tryz.func16 (by kernel_rfl)
theorem wA : Cm 26 [] [] [] Tryz.f26 := BG Tryz.func26 (by kernel_rfl)
theorem wC : Cm 27 [] [] [] Tryz.f27 := BG Tryz.func27 (by kernel_rfl)
theorem wD : Cm 28 [1] [(65, 1), (74, 1), (111, 1), (116, 1), (122, 1), (126, 1)] [] Tryz.f28 := BG Tryz.func28 (by kernel_rfl)
theorem wE : Cm 29 [1, 2] [] [(3, [10]), (4, [15])] Tryz.f29 := BG Tryz.func29 (by kernel_rfl)
theorem wF : Cm 30 [1, 2, 3, 6, 7, 9, 11, 13, 19] [] [(5, [9, 19]), (9, [26]), (12, [53]), (15, [55])] Tryz.f30 := BG Tryz.func30 (by kernel_rfl)
theorem wG : Cm 31 [1, 3, 5, 8] [] [(1, [10]), (4, [19]), (5, [25])] Tryz.f31 := BG Tryz.func31 (by kernel_rfl)
theorem wH : Cm 32 [2, 3] [] [] Tryz.f32 := BG Tryz.func32 (by kernel_rfl)
theorem wI : Cm 33 [2] [] [(3, [24]), (20, [82]), (21, [86])] Tryz.f33 := BG Tryz.func33 (by kernel_rfl)
theorem wJ : Cm 34 [3, 7] [] [(1, [3, 7]), (6, [22])] Tryz.f34 := BG Tryz.func34 (by kernel_rfl)
theorem wK : Cm 35 [1, 4, 6, 31] [] [(4, [4, 31]), (7, [38])] Tryz.f35 := BG Tryz.func35 (by kernel_rfl)
theorem wM : Cm 36 [1, 2] [] [(3, [10]), (4, [15])] Tryz.f36 := BG Tryz.func36 (by kernel_rfl)
theorem wN : Cm 37 [1, 2, 3, 5, 6, 10, 12] [] [(6, [20]), (7, [21]), (10, [41]), (12, [44])] Tryz.f37 := BG Tryz.func37 (by kernel_rfl)
theorem wO : Cm 38 [1, 3, 5] [] [(1, [7])] Tryz.f38 := BG Tryz.func38 (by kernel_rfl)
theorem wP : Cm 39 [2, 3] [] [] Tryz.f39 := BG Tryz.func39 (by kernel_rfl)
theorem wQ : Cm 40 [2, 3] [] [(18, [86]), (19, [90])] Tryz.f40 := BG Tryz.func40 (by kernel_rfl)
theorem wR : Cm 41 [2, 3] [] [] Tryz.f41 := BG Tryz.func41 (by kernel_rfl)
theorem wS : Cm 42 [2, 3] [] [] Tryz.f42 := BG Tryz.func42 (by kernel_rfl)
theorem wT : Cm 43 [] [] [] Tryz.f43 := BG Tryz.func43 (by kernel_rfl)
def c44 : LC :=
  (.seq (.rgn [] [LL 4 (.assign (.const (.int .i64 0))) 3])
 (.seq (.seq (.rgn [] [LL 5 (.assign (.const (.int .i64 0))) 3])
 (.blk 0
 (.loop []
 (.seq (.seq (.rgn [] [LL 6 (.move (.tmp 5)) 3,
 LL 7 (.move (.tmp 0)) 36,
 LL 8 (.call { callee := (.builtin .len), args := #[(.tmp 7)], argTypes := #[36] }) 3,
 LL 9 (.binOp .lss 3 (.tmp 6) (.tmp 8) 3) 4])
 (.cond (.tmp 9)
 .skip
 (.exit 0)))
 (.seq (.blk 1
 (.seq (.rgn [] [LL 12 (.move (.tmp 0)) 36,
 LL 13 (.move (.tmp 5)) 3,
 LL 14 (.move (.tmp 1)) 3,
 LL 15 (.call { callee := (.value (.func 102)), args := #[(.tmp 14)], argTypes := #[3] }) 9,
 LL 16 (.indexAddr 36 (.tmp 12) (.tmp 13)) 0,
 LL 17 (.fieldAddr 104 (.tmp 16) 0) 0,
 ⟨none, (.store 9 (.tmp 17) (.tmp 15)), 0, none⟩])
 (.seq (.rgn [] [LL 18 (.move (.tmp 1)) 3,
 LL 19 (.binOp .add 3 (.tmp 18) (.const (.int .i64 1)) 3) 3,
 LL 1 (.assign (.tmp 19)) 3])
 (.rgn [] [LL 20 (.move (.tmp 0)) 36,
 LL 21 (.move (.tmp 5)) 3,
 LL 22 (.indexAddr 36 (.tmp 20) (.tmp 21)) 0,
 LL 23 (.fieldAddr 104 (.tmp 22) 1) 0,
 LL 24 (.load 23 (.tmp 23)) 23,
 LL 25 (.move (.tmp 1)) 3,
 LL 26 (.call { callee := (.value (.func 14)), args := #[(.tmp 24), (.tmp 25)], argTypes := #[23, 3] }) 3,
 LL 1 (.assign (.tmp 26)) 3]))))
 (.rgn [] [LL 10 (.move (.tmp 5)) 3,
 LL 11 (.binOp .add 3 (.tmp 10) (.const (.int .i64 1)) 3) 3,
 LL 5 (.assign (.tmp 11)) 3]))))))
 (.seq (.rgn [] [LL 27 (.move (.tmp 1)) 3,
 LL 4 (.assign (.tmp 27)) 3])
 .ret)))
theorem pM : Lit Tryz.prog 44 28 [] [.tmp 4] c44 := ⟨⟨Tryz.f44, _, Tryz.func44, rfl, by kernel_rfl, rfl, rfl, by kernel_rfl, by kernel_rfl⟩, by decide, by kernel_rfl⟩
def c45 : LC :=
  (.seq (.rgn [] [LL 2 (.box 28 (.tmp 0)) 0,
 LL 4 (.assign (.const (.int .i64 0))) 3])
 (.seq (.rgn [] [LL 5 (.fieldAddr 28 (.tmp 2) 0) 0,
 LL 6 (.load 23 (.tmp 5)) 23,
 LL 7 (.move (.tmp 1)) 3,
 LL 8 (.call { callee := (.value (.func 14)), args := #[(.tmp 6), (.tmp 7)], argTypes := #[23, 3] }) 3,
 LL 1 (.assign (.tmp 8)) 3])
 (.seq (.rgn [] [LL 9 (.move (.tmp 1)) 3,
 LL 4 (.assign (.tmp 9)) 3])
 .ret)))
theorem kf : Lit Tryz.prog 45 10 [2] [.tmp 4] c45 := ⟨⟨Tryz.f45, _, Tryz.func45, rfl, by kernel_rfl, rfl, rfl, by kernel_rfl, by kernel_rfl⟩, by decide, by kernel_rfl⟩
def c46 : LC :=
  (.seq (.rgn [] [LL 2 (.box 31 (.tmp 0)) 0,
 LL 4 (.assign (.const (.int .i64 0))) 3])
 (.seq (.rgn [] [LL 5 (.fieldAddr 31 (.tmp 2) 0) 0,
 LL 6 (.load 29 (.tmp 5)) 29,
 LL 7 (.move (.tmp 1)) 3,
 LL 8 (.call { callee := (.value (.func 103)), args := #[(.tmp 6), (.tmp 7)], argTypes := #[29, 3] }) 3,
 LL 1 (.assign (.tmp 8)) 3])
 (.seq (.rgn [] [LL 9 (.fieldAddr 31 (.tmp 2) 1) 0,
 LL 10 (.load 23 (.tmp 9)) 23,
 LL 11 (.move (.tmp 1)) 3,
 LL 12 (.call { callee := (.value (.func 14)), args := #[(.tmp 10), (.tmp 11)], argTypes := #[23, 3] }) 3,
 LL 1 (.assign (.tmp 12)) 3])
 (.seq (.rgn [] [LL 13 (.move (.tmp 1)) 3,
 LL 4 (.assign (.tmp 13)) 3])
 .ret))))
theorem kg : Lit Tryz.prog 46 14 [2] [.tmp 4] c46 := ⟨⟨Tryz.f46, _, Tryz.func46, rfl, by kernel_rfl, rfl, rfl, by kernel_rfl, by kernel_rfl⟩, by decide, by kernel_rfl⟩
theorem wU : Cm 47 [] [] [] Tryz.f47 := BG Tryz.func47 (by kernel_rfl)
theorem wV : Cm 48 [2] [] [] Tryz.f48 := BG Tryz.func48 (by kernel_rfl)
theorem wW : Cm 49 [2] [] [] Tryz.f49 := BG Tryz.func49 (by kernel_rfl)
theorem wX : Cm 58 [] [] [(1, [4])] Tryz.f58 := BG Tryz.func58 (by kernel_rfl)
theorem wY : Cm 64 [2] [] [] Tryz.f64 := BG Tryz.func64 (by kernel_rfl)
theorem wZ : Cm 65 [] [] [] Tryz.f65 := BG Tryz.func65 (by kernel_rfl)
theorem w4 : Cm 66 [] [] [] Tryz.f66 := BG Tryz.func66 (by kernel_rfl)
theorem w5 : Cm 67 [2] [] [] Tryz.f67 := BG Tryz.func67 (by kernel_rfl)
theorem w6 : Cm 68 [] [] [] Tryz.f68 := BG Tryz.func68 (by kernel_rfl)
theorem w7 : Cm 69 [1] [(9, 1)] [] Tryz.f69 := BG Tryz.func69 (by kernel_rfl)
theorem w8 : Cm 70 [1] [] [(11, [39, 40]), (12, [41])] Tryz.f70 := BG Tryz.func70 (by kernel_rfl)
theorem w9 : Cm 71 [1] [] [] Tryz.f71 := BG Tryz.func71 (by kernel_rfl)
theorem xa : Cm 72 [2, 4, 8] [(105, 900003), (105, 900004), (117, 900003), (117, 900004), (129, 900003), (129, 900004), (136, 900003), (136, 900004)] [(16, [67]), (31, [130]), (32, [138, 139]), (33, [144]), (34, [149])] Tryz.f72 := BG Tryz.func72 (by kernel_rfl)
theorem xb : Cm 73 [2, 3, 4, 6, 8, 12, 1000002] [(51, 4)] [] Tryz.f73 := BG Tryz.func73 (by kernel_rfl)
theorem xc : Cm 74 [1, 2, 4] [] [(14, [36]), (15, [42, 43]), (16, [48]), (20, [61]), (21, [66])] Tryz.f74 := BG Tryz.func74 (by kernel_rfl)
theorem xd : Cm 75 [1, 3, 6] [] [(3, [19]), (4, [25])] Tryz.f75 := BG Tryz.func75 (by kernel_rfl)
theorem xe : Cm 76 [1] [] [] Tryz.f76 := BG Tryz.func76 (by kernel_rfl)
theorem xf : Cm 77 [2] [] [(11, [52]), (12, [56])] Tryz.f77 := BG Tryz.func77 (by kernel_rfl)
theorem xg : Cm 78 [4] [] [] Tryz.f78 := BG Tryz.func78 (by kernel_rfl)
theorem xh : Cm 79 [1, 2, 3] [] [(4, [11])] Tryz.f79 := BG Tryz.func79 (by kernel_rfl)
theorem xi : Cm 80 [] [] [] Tryz.f80 := BG Tryz.func80 (by kernel_rfl)
theorem xj : Cm 81 [] [] [] Tryz.f81 := BG Tryz.func81 (by kernel_rfl)
theorem xk : Cm 82 [] [] [] Tryz.f82 := BG Tryz.func82 (by kernel_rfl)
theorem xl : Cm 83 [1] [(9, 1)] [] Tryz.f83 := BG Tryz.func83 (by kernel_rfl)
theorem xm : Cm 84 [1, 4, 6] [] [(22, [56]), (24, [60, 61])] Tryz.f84 := BG Tryz.func84 (by kernel_rfl)
theorem xn : Cm 85 [1] [] [(10, [25]), (15, [36]), (17, [45]), (18, [46])] Tryz.f85 := BG Tryz.func85 (by kernel_rfl)
theorem xo : Cm 86 [2, 4, 7, 9, 25] [(45, 7), (47, 7), (54, 9), (62, 9)] [(4, [7, 25]), (15, [55]), (29, [102]), (31, [108])] Tryz.f86 := BG Tryz.func86 (by kernel_rfl)
theorem xp : Cm 87 [2, 3, 4, 6, 9] [] [(6, [23])] Tryz.f87 := BG Tryz.func87 (by kernel_rfl)
theorem xq : Cm 88 [1, 2] [] [] Tryz.f88 := BG Tryz.func88 (by kernel_rfl)
theorem xr : Cm 89 [1, 3, 6] [] [] Tryz.f89 := BG Tryz.func89 (by kernel_rfl)
theorem xt : Cm 90 [2, 3] [] [] Tryz.f90 := BG Tryz.func90 (by kernel_rfl)
theorem xu : Cm 91 [] [] [] Tryz.f91 := BG Tryz.func91 (by kernel_rfl)
theorem xv : Cm 92 [2, 1000002] [] [] Tryz.f92 := BG Tryz.func92 (by kernel_rfl)
theorem xw : Cm 93 [] [] [] Tryz.f93 := BG Tryz.func93 (by kernel_rfl)
theorem xx : Cm 94 [] [] [(6, [17]), (8, [22])] Tryz.f94 := BG Tryz.func94 (by kernel_rfl)
theorem xy : Cm 95 [2, 7] [] [(6, [17])] Tryz.f95 := BG Tryz.func95 (by kernel_rfl)
theorem xz : Cm 96 [1, 2, 1000001, 1000002] [] [] Tryz.f96 := BG Tryz.func96 (by kernel_rfl)
theorem xA : Cm 97 [2, 7] [] [(6, [18]), (8, [22]), (10, [27])] Tryz.f97 := BG Tryz.func97 (by kernel_rfl)
theorem xB : Cm 98 [] [] [] Tryz.f98 := BG Tryz.func98 (by kernel_rfl)
theorem xC : Cm 99 [2] [] [] Tryz.f99 := BG Tryz.func99 (by kernel_rfl)
theorem r7 : Cm 100 [] [] [] Tryz.f100 := BG Tryz.func100 (by kernel_rfl)
theorem r8 : Cm 101 [2, 3] [] [] Tryz.f101 := BG Tryz.func101 (by kernel_rfl)
theorem ka : Cm 102 [] [] [] Tryz.f102 := BG Tryz.func102 (by kernel_rfl)
def yL : LC :=
  (.seq (.rgn [] [LL 4 (.assign (.const (.int .i64 0))) 3])
 (.seq (.seq (.rgn [] [LL 5 (.assign (.const (.int .i64 0))) 3])
 (.blk 0
 (.loop []
 (.seq (.seq (.rgn [] [LL 6 (.move (.tmp 5)) 3,
 LL 7 (.move (.tmp 0)) 29,
 LL 8 (.call { callee := (.builtin .len), args := #[(.tmp 7)], argTypes := #[29] }) 3,
 LL 9 (.binOp .lss 3 (.tmp 6) (.tmp 8) 3) 4])
 (.cond (.tmp 9)
 .skip
 (.exit 0)))
 (.seq (.blk 1
 (.rgn [] [LL 12 (.move (.tmp 0)) 29,
 LL 13 (.move (.tmp 5)) 3,
 LL 14 (.indexAddr 29 (.tmp 12) (.tmp 13)) 0,
 LL 15 (.load 23 (.tmp 14)) 23,
 LL 16 (.move (.tmp 1)) 3,
 LL 17 (.call { callee := (.value (.func 14)), args := #[(.tmp 15), (.tmp 16)], argTypes := #[23, 3] }) 3,
 LL 1 (.assign (.tmp 17)) 3]))
 (.rgn [] [LL 10 (.move (.tmp 5)) 3,
 LL 11 (.binOp .add 3 (.tmp 10) (.const (.int .i64 1)) 3) 3,
 LL 5 (.assign (.tmp 11)) 3]))))))
 (.seq (.rgn [] [LL 18 (.move (.tmp 1)) 3,
 LL 4 (.assign (.tmp 18)) 3])
 .ret)))
theorem kc : Lit Tryz.prog 103 19 [] [.tmp 4] yL := ⟨⟨Tryz.f103, _, Tryz.func103, rfl, by kernel_rfl, rfl, rfl, by kernel_rfl, by kernel_rfl⟩, by decide, by kernel_rfl⟩
theorem r9 : Cm 104 [] [] [] Tryz.f104 := BG Tryz.func104 (by kernel_rfl)
theorem sa : Cm 125 [1] [] [(3, [9]), (4, [14])] Tryz.f125 := BG Tryz.func125 (by kernel_rfl)
theorem se : Cm 126 [2] [] [] Tryz.f126 := BG Tryz.func126 (by kernel_rfl)
theorem sf : Cm 127 [2] [] [(2, [13]), (8, [27, 30]), (9, [37])] Tryz.f127 := BG Tryz.func127 (by kernel_rfl)
theorem sh : Cm 128 [2] [] [] Tryz.f128 := BG Tryz.func128 (by kernel_rfl)
theorem si : Cm 129 [1, 4, 13] [] [(2, [4, 13]), (11, [38])] Tryz.f129 := BG Tryz.func129 (by kernel_rfl)
theorem sn : Cm 130 [2, 4, 6, 13] [(40, 2)] [(14, [50]), (15, [56, 57]), (16, [62]), (20, [75]), (21, [80])] Tryz.f130 := BG Tryz.func130 (by kernel_rfl)
theorem sq : Cm 131 [1] [] [] Tryz.f131 := BG Tryz.func131 (by kernel_rfl)
theorem sr : Cm 132 [] [] [] Tryz.f132 := BG Tryz.func132 (by kernel_rfl)
theorem su : Cm 133 [2, 5, 8, 12] [(26, 2)] [(10, [51]), (13, [53])] Tryz.f133 := BG Tryz.func133 (by kernel_rfl)
theorem sv : Cm 134 [] [] [] Tryz.f134 := BG Tryz.func134 (by kernel_rfl)
theorem sx : Cm 135 [2] [] [] Tryz.f135 := BG Tryz.func135 (by kernel_rfl)
theorem sy : Cm 136 [3] [] [] Tryz.f136 := BG Tryz.func136 (by kernel_rfl)
theorem sB : Cm 137 [] [] [] Tryz.f137 := BG Tryz.func137 (by kernel_rfl)
theorem sC : Cm 138 [1] [] [(3, [8]), (4, [13])] Tryz.f138 := BG Tryz.func138 (by kernel_rfl)
theorem sD : Cm 139 [1, 2, 3, 1000001, 1000002, 1000003] [] [] Tryz.f139 := BG Tryz.func139 (by kernel_rfl)
theorem sE : Cm 140 [2] [] [] Tryz.f140 := BG Tryz.func140 (by kernel_rfl)
theorem sF : Cm 141 [2] [] [] Tryz.f141 := BG Tryz.func141 (by kernel_rfl)
theorem sG : Cm 142 [] [] [(11, [55])] Tryz.f142 := BG Tryz.func142 (by kernel_rfl)
theorem sH : Cm 143 [] [] [(6, [17]), (8, [22])] Tryz.f143 := BG Tryz.func143 (by kernel_rfl)
theorem sI : Cm 144 [2, 3, 5, 9] [] [(6, [39]), (12, [51]), (16, [58])] Tryz.f144 := BG Tryz.func144 (by kernel_rfl)
theorem sJ : Cm 145 [2, 4, 7] [] [(3, [19])] Tryz.f145 := BG Tryz.func145 (by kernel_rfl)
theorem sK : Cm 146 [2, 4, 5, 10] [] [(8, [23]), (9, [24]), (11, [34, 35]), (12, [40]), (16, [52]), (18, [58])] Tryz.f146 := BG Tryz.func146 (by kernel_rfl)
theorem sL : Cm 147 [1] [] [(7, [14]), (8, [18])] Tryz.f147 := BG Tryz.func147 (by kernel_rfl)
theorem sM : Cm 148 [1] [] [(6, [46])] Tryz.f148 := BG Tryz.func148 (by kernel_rfl)
theorem sN : Cm 149 [2, 5, 8, 12] [] [(6, [21]), (9, [42]), (11, [45])] Tryz.f149 := BG Tryz.func149 (by kernel_rfl)
theorem sP : Cm 150 [1] [(3, 1), (7, 1), (12, 1), (15, 1)] [] Tryz.f150 := BG Tryz.func150 (by kernel_rfl)
theorem sQ : Cm 151 [1] [] [(6, [12]), (7, [16])] Tryz.f151 := BG Tryz.func151 (by kernel_rfl)
theorem sR : Cm 152 [] [] [] Tryz.f152 := BG Tryz.func152 (by kernel_rfl)
theorem sS : Cm 164 [2] [] [(15, [55, 60]), (16, [63]), (21, [77]), (23, [87, 88]), (24, [91]), (25, [95]), (33, [125, 126]), (34, [129])] Tryz.f164 := BG Tryz.func164 (by kernel_rfl)
theorem sT : Cm 174 [2, 3, 5, 6, 7, 11, 12] [] [(11, [34]), (12, [42, 43]), (13, [46]), (18, [53])] Tryz.f174 := BG Tryz.func174 (by kernel_rfl)
theorem sU : Cm 186 [] [] [] Tryz.f186 := BG Tryz.func186 (by kernel_rfl)
theorem sV : Cm 187 [2] [(16, 2)] [] Tryz.f187 := BG Tryz.func187 (by kernel_rfl)
theorem sW : Cm 188 [] [] [] Tryz.f188 := BG Tryz.func188 (by kernel_rfl)
theorem sX : Cm 189 [4, 6, 8] [] [] Tryz.f189 := BG Tryz.func189 (by kernel_rfl)
theorem sY : Cm 190 [2] [] [(6, [26]), (7, [30])] Tryz.f190 := BG Tryz.func190 (by kernel_rfl)
theorem sZ : Cm 191 [] [] [] Tryz.f191 := BG Tryz.func191 (by kernel_rfl)
theorem s5 : Cm 192 [2] [] [] Tryz.f192 := BG Tryz.func192 (by kernel_rfl)
theorem s6 : Cm 193 [] [] [(4, [16])] Tryz.f193 := BG Tryz.func193 (by kernel_rfl)
theorem s7 : Cm 194 [4] [] [] Tryz.f194 := BG Tryz.func194 (by kernel_rfl)
theorem s8 : Cm 195 [4, 6, 8, 10] [] [] Tryz.f195 := BG Tryz.func195 (by kernel_rfl)
theorem s9 : Cm 196 [] [] [] Tryz.f196 := BG Tryz.func196 (by kernel_rfl)
theorem td : Cm 197 [] [] [] Tryz.f197 := BG Tryz.func197 (by kernel_rfl)
theorem te : Cm 204 [] [] [(11, [36, 42]), (12, [46])] Tryz.f204 := BG Tryz.func204 (by kernel_rfl)
theorem tf : Cm 205 [14] [] [(10, [41, 46]), (19, [85]), (20, [91]), (21, [95]), (31, [129]), (32, [133])] Tryz.f205 := BG Tryz.func205 (by kernel_rfl)
theorem tg : Cm 206 [3] [(59, 3)] [(8, [42])] Tryz.f206 := BG Tryz.func206 (by kernel_rfl)
theorem th : Cm 207 [] [] [] Tryz.f207 := BG Tryz.func207 (by kernel_rfl)
theorem ti : Cm 217 [] [] [(1, [4])] Tryz.f217 := BG Tryz.func217 (by kernel_rfl)
theorem tj : Cm 218 [2, 3, 4, 5, 6, 7, 8, 1000002, 1000003, 1000004, 1000005, 1000006, 1000007, 1000008] [] [(10, [46, 50]), (11, [53]), (13, [61]), (17, [81]), (20, [86, 87])] Tryz.f218 := BG Tryz.func218 (by kernel_rfl)
theorem tn : Cm 219 [15] [(85, 900003), (85, 900004), (87, 900003), (87, 900004), (89, 900003), (89, 900004), (91, 900003), (91, 900004), (93, 900003), (93, 900004), (95, 900003), (95, 900004), (97, 900003), (97, 900004), (98, 900003), (98, 900004)] [(7, [38]), (10, [48]), (20, [92, 96, 1500092, 1500096]), (33, [156]), (34, [160])] Tryz.f219 := BG Tryz.func219 (by kernel_rfl)
theorem tp : Cm 220 [3, 8, 12] [(57, 3)] [(9, [39])] Tryz.f220 := BG Tryz.func220 (by kernel_rfl)
theorem tq : Cm 221 [] [] [] Tryz.f221 := BG Tryz.func221 (by kernel_rfl)
theorem tr : Cm 229 [] [] [] Tryz.f229 := BG Tryz.func229 (by kernel_rfl)
theorem tt : Cm 230 [2, 3, 4, 6] [] [] Tryz.f230 := BG Tryz.func230 (by kernel_rfl)
theorem tu : Cm 231 [2, 3, 4, 6] [] [] Tryz.f231 := BG Tryz.func231 (by kernel_rfl)
theorem tv : Cm 232 [2, 3, 4] [] [] Tryz.f232 := BG Tryz.func232 (by kernel_rfl)
theorem tw : Cm 233 [2, 3, 4] [] [] Tryz.f233 := BG Tryz.func233 (by kernel_rfl)
theorem tx : Cm 240 [0, 6, 9, 11, 1000000] [(92, 900003), (92, 900004), (94, 900003), (94, 900004), (95, 900003), (95, 900004), (98, 900003), (98, 900004)] [(12, [95])] Tryz.f240 := BG Tryz.func240 (by kernel_rfl)
theorem tB : Cm 241 [2, 3, 4, 6] [] [] Tryz.f241 := BG Tryz.func241 (by kernel_rfl)
theorem tC : Cm 242 [8] [] [(8, [29]), (9, [33])] Tryz.f242 := BG Tryz.func242 (by kernel_rfl)
theorem tD : Cm 245 [0, 1, 7, 10, 12, 1000000, 1000001] [] [] Tryz.f245 := BG Tryz.func245 (by kernel_rfl)
theorem tF : Cm 246 [2, 3, 4] [] [] Tryz.f246 := BG Tryz.func246 (by kernel_rfl)
theorem tG : Cm 247 [9] [] [(4, [16]), (8, [25]), (10, [30])] Tryz.f247 := BG Tryz.func247 (by kernel_rfl)
theorem tH : Cm 252 [4, 8] [] [] Tryz.f252 := BG Tryz.func252 (by kernel_rfl)
theorem tI : Cm 253 [4, 7] [] [] Tryz.f253 := BG Tryz.func253 (by kernel_rfl)
theorem tJ : Cm 256 [2, 3, 4, 6] [] [] Tryz.f256 := BG Tryz.func256 (by kernel_rfl)
theorem tL : Cm 258 [2, 3, 4] [] [] Tryz.f258 := BG Tryz.func258 (by kernel_rfl)
set_option maxRecDepth 100000
theorem y3 : Cm 3 [2, 6, 8, 10, 15] [] [(7, [25]), (10, [37]), (30, [92])] Tryz.f3 := BG Tryz.func3 (by kernel_rfl)
set_option maxRecDepth 100000
set_option maxHeartbeats 1000000
def IG(a:(Int×(List UInt8))->Option ((List UInt8)))(b:Int×(List UInt8)):Option ((List UInt8)):=match b with
  |(c,d)=>cond (decide (0 < c)) (chk (List.length (bytesOf [IntKind.u8.wrap (IntKind.i64.wrap (48+(Int.tmod c 10)))])+List.length d<=lim) (a ((IntKind.i64.wrap (Int.tdiv c 10)),((bytesOf [IntKind.u8.wrap (IntKind.i64.wrap (48+(Int.tmod c 10)))])++d)))) (some d)
def Lu(a:Int):Option ((List UInt8)):=cond (decide (a<=0)) (some [109,48]) (Aa (Aq IG fz (a,[])) λb=>chk (List.length [109]+List.length b<=lim) (some ([109]++b)))
theorem V7{a:Int}{b:(List UInt8)}(h:Lu a=some b):AI Tryz.prog 102 [nI a] (.str b):=st ka E (rn 1 E (EZ E λc=>B7 h E (λh=>rn 1 E (sj h ▸ Ag rZ)) λh=>Cf c (rn 1 E (Ap λd e=>EO h λf g i=>have j:∀{k:List UInt8},k=f->Jn d [(3,.str k)]:=@λk h _ m=>have h:=i h;e _ (lh m E (rs (sp 1 E (FQ h λn h=>qB E n E (AW 1 E (sj h ▸ Ag rZ))))));(Bc (λ(o:Int×(List UInt8))=>match o with|(p,q)=>[(0,nI p),(3,.str q)]) _ _ _ _ g (A0 E) (λ_=>E) (λr=>Kg λp q s h t=>EZ E λu=>B7 h E (λh=>Cf u (Ba (rs (sp 4 E (GK cu8 [IntKind.u8.wrap (IntKind.i64.wrap (48+(Int.tmod p 10)))] E E E zx (qCs (l:=[IntKind.u8.wrap (IntKind.i64.wrap (48+(Int.tmod p 10)))]) E E E E (sp 1 E (FQ h λv h=>qB E v E (AW 1 E (rg (AW 3 E (t _ _ h (A0 E))))))))))))) λh=>AE (j (sj h) _ (A0 E))))))))
def Rh(k:Int):List UInt8:=(Lu k).getD []
theorem cb:∀(n:Nat) (k:Int) (u:List UInt8),0<=k->k < 10 ^ n->k<=9223372036854775000->u.length+n<=100->∀m,n < m->∃z,Aq IG m (k,u)=some z∧z.length<=u.length+n
 |n,k,u,h0,hk,hkB,hu,m,hm=>by
  cases m with
  |zero=>omega
  |succ m=>
   show ∃z,IG (Aq IG m) (k,u)=some z∧_
   have hE:∀rec,IG rec (k,u)=cond (decide (0 < k)) (chk (List.length (bytesOf [IntKind.u8.wrap (IntKind.i64.wrap (48+(Int.tmod k 10)))])+List.length u<=lim) (rec ((IntKind.i64.wrap (Int.tdiv k 10)),((bytesOf [IntKind.u8.wrap (IntKind.i64.wrap (48+(Int.tmod k 10)))])++u)))) (some u):=λ_=>rfl
   rw[hE]
   by_cases hp:0 < k
   ·cases n with
    |zero=>simp at hk;omega
    |succ n=>
     have hd:k.tdiv 10=k / 10:=Int.tdiv_eq_ediv_of_nonneg h0
     have hb:k / 10 < 10 ^ n:=by
      rw[Int.pow_succ]at hk
      omega
     have hw:IntKind.i64.wrap (k.tdiv 10)=k / 10:=by
      rw[hd,wrap_in]
      omega
     rw[Ai hp,Ac,AZ (by simp[bytesOf];unfold lim;omega),hw]
     obtain⟨z,e,hz⟩:=cb n (k / 10) (bytesOf [IntKind.u8.wrap (IntKind.i64.wrap (48+k.tmod 10))]++u) (by omega) hb (by omega) (by simp[bytesOf];omega) m (by omega)
     exact⟨z,e,by simp[bytesOf]at hz;omega⟩
   ·rw[Ah hp]
    exact⟨u,rfl,by omega⟩
theorem pS{k:Int}(h0:0<=k)(h1:k<=mB):Lu k=some (Rh k)∧(Rh k).length<=100:=by
 have key:∃z,Lu k=some z∧z.length<=100:=by
  unfold Lu
  by_cases hp:k<=0
  ·rw[Ai hp];exact⟨_,rfl,by simp⟩
  ·rw[Ah hp,Ad]
   unfold mB at h1
   obtain⟨z,e,hz⟩:=cb 20 k [] (by omega) (by omega) (by omega) (by simp) fz (by unfold fz;omega)
   rw[e]
   simp only[Aa]
   simp only[HX,CL]at hz
   rw[AZ (by simp;unfold lim;omega)]
   exact⟨_,rfl,by simp;omega⟩
 obtain⟨z,e,hz⟩:=key
 have:Rh k=z:=by unfold Rh;rw[e];rfl
 rw[this];exact⟨e,hz⟩
theorem nR{k:Int}(h0:0<=k)(h1:k+1<=mB):(Rh k).length<=maxLen:=by
 have:=(pS h0 (by omega)).2
 unfold maxLen;omega
theorem tT:JM Tryz.prog 102:=LT ka
theorem gQ{k:Int}(h0:0<=k)(h1:k+1<=mB){w:World}{bs:List Nat}(hG:SI w bs):Calls Tryz.prog 102 #[.int .i64 k] w (λe w'=>e=.returned (.string ⟨(Rh k).toArray⟩)∧Below w.heap.size w w'):=
 iD (V7 (pS h0 (by omega)).1) hG
def Wa(_:Int):Nat:=1
def VP(_:Int)(k:Int):Int:=k
def zb(_:List UInt8):Nat:=1
theorem hmI(x k:Int):Jb Rh (Am x) k=Am (VP x k):=rfl
theorem hcI(x:Int):D7 (Am x)=Wa x:=rfl
theorem hcS(x:List UInt8):D7 (cst x)=zb x:=rfl
set_option maxRecDepth 100000
def FW(x:List Int):List V:=[dL Am x]
theorem Sa(x:List Int):(FW x).length=1:=rfl
theorem RA(x:List Int):OK (FW x)=FW x:=(A3 (BW AM _) rfl)
def Bj(x:List Int):List V:=[oL 3 Am x]
theorem Gi(x:List Int):(Bj x).length=1:=rfl
theorem PT(x:List Int):OK (Bj x)=FW x:=(A3 (UZ AM _) rfl)
abbrev Dz:=(List UInt8)×(List Int)
def Br(x:Dz):List V:=[.str x.1,dL Am x.2]
theorem F6(x:Dz):(Br x).length=2:=rfl
theorem BX(x:Dz):OK (Br x)=Br x:=(A3 rfl (A3 (BW AM _) rfl))
def En(x:Dz):List V:=[.str x.1,oL 3 Am x.2]
theorem WG(x:Dz):(En x).length=2:=rfl
theorem TV(x:Dz):OK (En x)=Br x:=(A3 rfl (A3 (UZ AM _) rfl))
abbrev Dt:=Int×(List Dz)×(List Int)
def CA(x:Dt):List V:=[nI x.1,dL Br x.2.1,dL Am x.2.2]
def GP(x:Dt):List V:=[nI x.1,oL 104 En x.2.1,oL 3 Am x.2.2]
def QY(x:List Int):List V:=[oL 3 Am x]
abbrev Qa:=(List (List Int))×(List Int)
def Sh(x:Qa):List V:=[dL FW x.1,dL Am x.2]
def Hv(x:Qa):List V:=[oL 23 Bj x.1,oL 3 Am x.2]
abbrev TF:=Int×(List Int)×(List Int)×Qa
def UO(x:TF):List V:=[nI x.1,dL Am x.2.1,dL Am x.2.2.1,dL FW x.2.2.2.1,dL Am x.2.2.2.2]
def D4(x:TF):List V:=[nI x.1,oL 3 Am x.2.1,oL 3 Am x.2.2.1,oL 23 Bj x.2.2.2.1,oL 3 Am x.2.2.2.2]
def HH(x:List Int):Nat:=I0 Wa x
def O4(x:List Int)(k:Int):List Int:=Yk Wa VP x k
theorem yQ(x:List Int)(k:Int):Jb Rh (Bj x) k=Bj (O4 x k):=by
 unfold Bj O4
 exact mkc (kz hmI hcI x k) (Wo hcI x) rfl
theorem vZ(x:List Int):D7 (Bj x)=HH x:=by
 unfold Bj HH
 exact rj (Wo hcI x) rfl
theorem bA(x:List Int):Ca (Bj x)=true:=dpc (dpo (λ_=>rfl) x) rfl
theorem Wd(l:List Int)(k:Int)(h0:0<=k)(h1:k+D7 (l.flatMap Am)<=mB){body:LC}(hb:body=(.seq (.rgn [] [LL 12 (.move (.tmp 0)) 23,
   LL 13 (.move (.tmp 5)) 3,
   LL 14 (.move (.tmp 1)) 3,
   LL 15 (.indexAddr 23 (.tmp 12) (.tmp 13)) 0,
   ⟨none,(.store 3 (.tmp 15) (.tmp 14)),0,none⟩])
  (.rgn [] [LL 16 (.move (.tmp 1)) 3,
   LL 17 (.binOp .add 3 (.tmp 16) (.const (.int .i64 1)) 3) 3,
   LL 1 (.assign (.tmp 17)) 3]))):Round Tryz.prog 19 [] Rh 3 1 body l.length (l.flatMap Am) k:=by
 subst hb
 intro St w0 bs g cap j w T hnd hbs hj hI0 t0 t1 t5
 have hd:Ca (l.flatMap Am)=true:=L8 (λ_=>rfl) l
 have hI0:Inv Tryz.prog St Rh 3 l.length (l.flatMap Am) k (.slice (some ⟨g,0,none⟩) l.length cap) bs w0 (j * 1+0) w:=hI0
 have t1:T 1=some (.int .i64 (k+(GB (l.flatMap Am) (j * 1+0):Int))):=t1
 have q0:(l.flatMap Am)[j * 1+0]? =some (nI (l[j])):=(Wt BT hj (by decide)).trans rfl
 have b0:=ZP q0 h1
 rw[show Ti (nI (l[j]))=1 from rfl]at b0
 have x0:k+(GB (l.flatMap Am) (j * 1+0):Int)+1=k+(GB (l.flatMap Am) (j * 1+1):Int):=je (k:=k) q0 rfl
 have n0:0<=k+(GB (l.flatMap Am) (j * 1+0):Int):=ZQ h0
 obtain⟨u0,c0,f0,hI1⟩:=hI0.int' hd hnd q0
 refine Gc (FT (Ec t0 (Ec t5 (Ec t1 (fq HL rfl rfl rfl hj (b9 HL rfl rfl rfl rfl c0 f0 rfl (FSQ ?_)))))))
 generalize hw1:World.setCell _ _ _=w1 at hI1⊢
 refine FT (Ec t1 (dB rfl (by omega) (by unfold mB at b0;omega) (JK rfl (FSQ ?_))))
 rw[x0]
 exact⟨rfl,t0,rfl,t5,hI1⟩
theorem Gz(l:List Int)(k:Int)(h0:0<=k)(h1:k+D7 (l.flatMap Am)<=mB):Kh Tryz.prog 14 (.own 3 l.length (l.flatMap Am)) k (.own 3 l.length (Jb Rh (l.flatMap Am) k)) (k+D7 (l.flatMap Am)):=
 Tt HL (r:=18) (ty:=23) (it:=3) (bt:=4) Xy (by decide) rfl (Bv BT l) (by decide) (Wd l k h0 h1 rfl)
def P1(x:List Int)(k:Int):Option ((List Int)×Int):=chk (0<=k∧k+(HH x:Int)<=mB) (some (O4 x k,k+HH x))
theorem V3{x:List Int}{k:Int}(h0:0<=k)(h1:k+(HH x:Int)<=mB):P1 x k=some (O4 x k,k+HH x):=AZ ⟨h0,h1⟩
theorem V4{x:List Int}{k:Int}{r:(List Int)×Int}(h:P1 x k=some r):Kh Tryz.prog 14 (oL 3 Am x) k (oL 3 Am r.1) r.2:=by
 obtain⟨⟨h0,h1⟩,h⟩:=Rw h
 have hr:=DZ h
 subst hr
 have hx:=OJ (f:=Am) (cnt:=Wa) hcI x
 have e:=Gz x k h0 (by rw[hx];exact h1)
 rw[Sw (f:=Am) (cnt:=Wa) (mk:=VP) hmI hcI,hx]at e
 show Kh Tryz.prog 14 _ k (.own 3 (Yk Wa VP x k).length ((Yk Wa VP x k).flatMap Am)) (k+(I0 Wa x:Int))
 rw[Nd]
 exact e
def W0(x:Dz):Nat:=(1)+(HH x.2)
def kv(x:Dz)(k:Int):Dz:=(Rh (k),O4 x.2 (k+((1:Nat):Int)))
theorem v3(x:Dz)(k:Int):Jb Rh (En x) k=En (kv x k):=by
 have h:Jb Rh [.str x.1,oL 3 Am x.2] k=_:=(mkc (n:=1) (c':=V.str _) rfl rfl (mkc (kz hmI hcI _ _) (Wo hcI _) (show Jb Rh [] _=[]from rfl)))
 refine h.trans ?_
 simp only[En,kv,W0,HH,O4,Int.add_assoc,<-Fy,E9,Fy]
theorem hc104(x:Dz):D7 (En x)=W0 x:=by
 have h:D7 [.str x.1,oL 3 Am x.2]=_:=(rj (n:=1) rfl (rj (Wo hcI _) (show D7 []=0 from rfl)))
 refine(show D7 (En x)=_ from h).trans ?_
 simp only[W0,HH,O4,E9,CP]
theorem pr(x:Dz):Ca (En x)=true:=(dpc rfl (dpc (dpo (λ_=>rfl) _) rfl))
def jc(x:List Dz):Nat:=I0 W0 x
def tO(x:List Dz)(k:Int):List Dz:=Yk W0 kv x k
theorem Vs(l:List Dz)(k:Int)(h0:0<=k)(h1:k+D7 (l.flatMap En)<=mB){body:LC}(hb:body=(.seq (.rgn [] [LL 12 (.move (.tmp 0)) 36,
   LL 13 (.move (.tmp 5)) 3,
   LL 14 (.move (.tmp 1)) 3,
   LL 15 (.call {callee:=(.value (.func 102)),args:= #[(.tmp 14)],argTypes:= #[3]}) 9,
   LL 16 (.indexAddr 36 (.tmp 12) (.tmp 13)) 0,
   LL 17 (.fieldAddr 104 (.tmp 16) 0) 0,
   ⟨none,(.store 9 (.tmp 17) (.tmp 15)),0,none⟩])
  (.seq (.rgn [] [LL 18 (.move (.tmp 1)) 3,
   LL 19 (.binOp .add 3 (.tmp 18) (.const (.int .i64 1)) 3) 3,
   LL 1 (.assign (.tmp 19)) 3])
  (.rgn [] [LL 20 (.move (.tmp 0)) 36,
   LL 21 (.move (.tmp 5)) 3,
   LL 22 (.indexAddr 36 (.tmp 20) (.tmp 21)) 0,
   LL 23 (.fieldAddr 104 (.tmp 22) 1) 0,
   LL 24 (.load 23 (.tmp 23)) 23,
   LL 25 (.move (.tmp 1)) 3,
   LL 26 (.call {callee:=(.value (.func 14)),args:= #[(.tmp 24),(.tmp 25)],argTypes:= #[23,3]}) 3,
   LL 1 (.assign (.tmp 26)) 3])))):Round Tryz.prog 28 [] Rh 104 2 body l.length (l.flatMap En) k:=by
 subst hb
 intro St w0 bs g cap j w T hnd hbs hj hI0 t0 t1 t5
 have hd:Ca (l.flatMap En)=true:=L8 pr l
 have hI0:Inv Tryz.prog St Rh 104 l.length (l.flatMap En) k (.slice (some ⟨g,0,none⟩) l.length cap) bs w0 (j * 2+0) w:=hI0
 have t1:T 1=some (.int .i64 (k+(GB (l.flatMap En) (j * 2+0):Int))):=t1
 have q0:(l.flatMap En)[j * 2+0]? =some (.str ((l[j]).1)):=(Wt WG hj (by decide)).trans rfl
 have b0:=ZP q0 h1
 rw[show Ti (.str ((l[j]).1))=1 from rfl]at b0
 have x0:k+(GB (l.flatMap En) (j * 2+0):Int)+1=k+(GB (l.flatMap En) (j * 2+1):Int):=je (k:=k) q0 rfl
 have n0:0<=k+(GB (l.flatMap En) (j * 2+0):Int):=ZQ h0
 have q1:(l.flatMap En)[j * 2+1]? =some (oL 3 Am ((l[j]).2)):=(Wt WG hj (by decide)).trans rfl
 have b1:=ZP q1 h1
 have n1:0<=k+(GB (l.flatMap En) (j * 2+1):Int):=ZQ h0
 refine Gc (FT (Ec t0 (Ec t5 (Ec t1 (MI tT (args1 rfl) ((gQ n0 (by omega) hI0.glb).mono ?_))))))
 rintro e0 w1 ⟨rfl,z0⟩
 have hI0:=hI0.grow hd hbs z0
 obtain⟨u0,c0,f0,hI1⟩:=hI0.str' hd hnd q0 (nR n0 (by omega))
 refine⟨_,rfl,fq HL rfl rfl rfl hj (S3 HL rfl rfl rfl (b9 HL rfl rfl rfl rfl c0 f0 rfl (FSQ ?_)))⟩
 generalize hw2:World.setCell _ _ _=w2 at hI1⊢
 refine Gc (FT (Ec t1 (dB rfl (by omega) (by unfold mB at b0;omega) (JK rfl (FSQ ?_)))))
 rw[x0]
 have k1:=Gz ((l[j]).2) (k+(GB (l.flatMap En) (j * 2+1):Int)) n1 b1
 obtain⟨u1,c1,d1⟩:=hI1.own' hd hnd hbs q1 k1
 have d1:Calls Tryz.prog 14 #[u1,.int .i64 (k+(GB (l.flatMap En) (j * 2+1):Int))] w2 (λe' w'=>e'=.returned (.int .i64 (k+(GB (l.flatMap En) (j * 2+2):Int)))∧Inv Tryz.prog St Rh 104 l.length (l.flatMap En) k (.slice (some ⟨g,0,none⟩) l.length cap) bs w0 (j * 2+2) w'):=d1
 refine FT (Ec t0 (Ec t5 (fq HL rfl rfl rfl hj (S3 HL rfl rfl rfl (PE HL rfl rfl rfl c1 (Ec rfl (MI (LT Xy) (args2 rfl rfl) (d1.mono ?_))))))))
 rintro e1 w3 ⟨rfl,hI2⟩
 refine⟨_,rfl,JK rfl (FSQ ?_)⟩
 exact⟨rfl,t0,rfl,t5,hI2⟩
theorem Vp(l:List Dz)(k:Int)(h0:0<=k)(h1:k+D7 (l.flatMap En)<=mB):Kh Tryz.prog 44 (.own 104 l.length (l.flatMap En)) k (.own 104 l.length (Jb Rh (l.flatMap En) k)) (k+D7 (l.flatMap En)):=
 Tt HL (r:=27) (ty:=36) (it:=3) (bt:=4) pM (by decide) rfl (Bv WG l) (by decide) (Vs l k h0 h1 rfl)
theorem vP(x:Dt):Ca (GP x)=true:=(dpc rfl (dpc (dpo pr _) (dpc (dpo (λ_=>rfl) _) rfl)))
def W5(x:Dt):Nat:=jc x.2.1+HH x.2.2
def nL(x:Dt)(k:Int):Dt:=(x.1,tO x.2.1 (k),O4 x.2.2 (k+((jc x.2.1:Nat):Int)))
theorem yS(x:Dt)(k:Int):Rl Rh (GP x) k=GP (nL x k):=by
 have h:Rl Rh [nI x.1,oL 104 En x.2.1,oL 3 Am x.2.2] k=_:=(mka (λ_ _=>rfl) (gN v3 hc104 _ (gN hmI hcI _ (show Rl Rh [] _=[]from rfl))))
 refine h.trans ?_
 simp only[GP,nL,W5,HH,jc,O4,tO,Int.add_assoc,<-Fy,E9,Fy]
theorem v5(x:Dt):EP (GP x)=W5 x:=by
 have h:EP [nI x.1,oL 104 En x.2.1,oL 3 Am x.2.2]=_:=(vN (λ_=>rfl) (YJ hc104 _ (YJ hcI _ (show EP []=0 from rfl))))
 refine(show EP (GP x)=_ from h).trans ?_
 simp only[W5,HH,jc,O4,tO,E9,CP,CL]
theorem Vr(x:Dt)(k:Int)(h0:0<=k)(h1:k+EP (GP x)<=mB):Kh Tryz.prog 13 (.agg (GP x)) k (.agg (Rl Rh (GP x) k)) (k+EP (GP x)):=by
 refine⟨LT pK,λw0 St v bs hO hnd hbs hG=>?_⟩
 obtain⟨us,rfl,hO⟩:=hO
 refine Rv (rs:=[]) (vs:=[.agg us.toArray,.int .i64 k]) pK (Ck rfl) ?_
 have hd:Ca (GP x)=true:=vP x
 have hI0:=Qc.start (mt:=Rh) (k:=k) (t:=38) hO hd hbs hG
 refine Gc (FT (ah rfl (Sy (FSQ ?_))))
 have hI1:=hI0.skip (c:=nI x.1) rfl (λ_=>rfl)
 have q1:(GP x)[1]? =some (oL 104 En x.2.1):=rfl
 obtain⟨u1,c1,d1⟩:=hI1.own hd hnd hbs q1 (Vp x.2.1 (k+(EP ((GP x).take 1):Int)) (by omega) (Sj q1 h1))
 refine Gc (FT (S3 HL rfl rfl rfl (PE HL rfl rfl rfl c1 (Ec (oU (k:=k) (n:=EP ((GP x).take 1)) rfl) (MI (LT pM) (args2 rfl rfl) (d1.mono ?_))))))
 rintro e1 w1 ⟨rfl,hI2⟩
 refine⟨_,rfl,JK rfl (FSQ ?_)⟩
 have q2:(GP x)[2]? =some (oL 3 Am x.2.2):=rfl
 obtain⟨u2,c2,d2⟩:=hI2.own hd hnd hbs q2 (Gz x.2.2 (k+(EP ((GP x).take 2):Int)) (by omega) (Sj q2 h1))
 refine Gc (FT (S3 HL rfl rfl rfl (PE HL rfl rfl rfl c2 (Ec rfl (MI (LT Xy) (args2 rfl rfl) (d2.mono ?_))))))
 rintro e2 w2 ⟨rfl,hI3⟩
 refine⟨_,rfl,JK rfl (FSQ ?_)⟩
 obtain⟨hx,hy⟩:=hI3.done (Ck rfl)
 refine Gc (FT (Ec rfl (JK rfl (FSQ ?_))))
 exact XF ⟨.inl rfl,_,rfl,rfl,⟨us,rfl,hx⟩,hy⟩
def O1(x:Dt)(k:Int):Option (Dt×Int):=chk (0<=k∧k+(W5 x:Int)<=mB) (some (nL x k,k+W5 x))
theorem Vm{x:Dt}{k:Int}(h0:0<=k)(h1:k+(W5 x:Int)<=mB):O1 x k=some (nL x k,k+W5 x):=AZ ⟨h0,h1⟩
theorem Vn{x:Dt}{k:Int}{r:Dt×Int}(h:O1 x k=some r):Kh Tryz.prog 13 (.agg (GP x)) k (.agg (GP r.1)) r.2:=by
 obtain⟨⟨h0,h1⟩,h⟩:=Rw h
 have hr:=DZ h
 subst hr
 have e:=Vr x k h0 (by rw[v5];exact h1)
 rw[yS,v5]at e
 exact e
theorem yM(x:List Int):Ca (QY x)=true:=(dpc (dpo (λ_=>rfl) _) rfl)
def Tj(x:List Int):Nat:=HH x
def kC(x:List Int)(k:Int):List Int:=O4 x (k)
theorem Rf(x:List Int)(k:Int)(h0:0<=k)(h1:k+EP (QY x)<=mB):Kh Tryz.prog 45 (.agg (QY x)) k (.agg (Rl Rh (QY x) k)) (k+EP (QY x)):=by
 refine⟨LT kf,λw0 St v bs hO hnd hbs hG=>?_⟩
 obtain⟨us,rfl,hO⟩:=hO
 refine Rv (rs:=[]) (vs:=[.agg us.toArray,.int .i64 k]) kf (Ck rfl) ?_
 have hd:Ca (QY x)=true:=yM x
 have hI0:=Qc.start (mt:=Rh) (k:=k) (t:=28) hO hd hbs hG
 refine Gc (FT (ah rfl (Sy (FSQ ?_))))
 have q0:(QY x)[0]? =some (oL 3 Am x):=rfl
 obtain⟨u0,c0,d0⟩:=hI0.own hd hnd hbs q0 (Gz x (k+(EP ((QY x).take 0):Int)) (by omega) (Sj q0 h1))
 refine Gc (FT (S3 HL rfl rfl rfl (PE HL rfl rfl rfl c0 (Ec (oU (k:=k) (n:=EP ((QY x).take 0)) rfl) (MI (LT Xy) (args2 rfl rfl) (d0.mono ?_))))))
 rintro e0 w1 ⟨rfl,hI1⟩
 refine⟨_,rfl,JK rfl (FSQ ?_)⟩
 obtain⟨hx,hy⟩:=hI1.done (Ck rfl)
 refine Gc (FT (Ec rfl (JK rfl (FSQ ?_))))
 exact XF ⟨.inl rfl,_,rfl,rfl,⟨us,rfl,hx⟩,hy⟩
def UQ(x:List (List Int)):Nat:=I0 HH x
def kw(x:List (List Int))(k:Int):List (List Int):=Yk HH O4 x k
theorem Vt(l:List (List Int))(k:Int)(h0:0<=k)(h1:k+D7 (l.flatMap Bj)<=mB){body:LC}(hb:body=(.rgn [] [LL 12 (.move (.tmp 0)) 29,
   LL 13 (.move (.tmp 5)) 3,
   LL 14 (.indexAddr 29 (.tmp 12) (.tmp 13)) 0,
   LL 15 (.load 23 (.tmp 14)) 23,
   LL 16 (.move (.tmp 1)) 3,
   LL 17 (.call {callee:=(.value (.func 14)),args:= #[(.tmp 15),(.tmp 16)],argTypes:= #[23,3]}) 3,
   LL 1 (.assign (.tmp 17)) 3])):Round Tryz.prog 19 [] Rh 23 1 body l.length (l.flatMap Bj) k:=by
 subst hb
 intro St w0 bs g cap j w T hnd hbs hj hI0 t0 t1 t5
 have hd:Ca (l.flatMap Bj)=true:=L8 bA l
 have hI0:Inv Tryz.prog St Rh 23 l.length (l.flatMap Bj) k (.slice (some ⟨g,0,none⟩) l.length cap) bs w0 (j * 1+0) w:=hI0
 have t1:T 1=some (.int .i64 (k+(GB (l.flatMap Bj) (j * 1+0):Int))):=t1
 have q0:(l.flatMap Bj)[j * 1+0]? =some (oL 3 Am (l[j])):=(Wt Gi hj (by decide)).trans rfl
 have b0:=ZP q0 h1
 have n0:0<=k+(GB (l.flatMap Bj) (j * 1+0):Int):=ZQ h0
 have k0:=Gz (l[j]) (k+(GB (l.flatMap Bj) (j * 1+0):Int)) n0 b0
 obtain⟨u0,c0,d0⟩:=hI0.own' hd hnd hbs q0 k0
 have d0:Calls Tryz.prog 14 #[u0,.int .i64 (k+(GB (l.flatMap Bj) (j * 1+0):Int))] w (λe' w'=>e'=.returned (.int .i64 (k+(GB (l.flatMap Bj) (j * 1+1):Int)))∧Inv Tryz.prog St Rh 23 l.length (l.flatMap Bj) k (.slice (some ⟨g,0,none⟩) l.length cap) bs w0 (j * 1+1) w'):=d0
 refine FT (Ec t0 (Ec t5 (fq HL rfl rfl rfl hj (PE HL rfl rfl rfl c0 (Ec t1 (MI (LT Xy) (args2 rfl rfl) (d0.mono ?_)))))))
 rintro e0 w1 ⟨rfl,hI1⟩
 refine⟨_,rfl,JK rfl (FSQ ?_)⟩
 exact⟨rfl,t0,rfl,t5,hI1⟩
theorem Vq(l:List (List Int))(k:Int)(h0:0<=k)(h1:k+D7 (l.flatMap Bj)<=mB):Kh Tryz.prog 103 (.own 23 l.length (l.flatMap Bj)) k (.own 23 l.length (Jb Rh (l.flatMap Bj) k)) (k+D7 (l.flatMap Bj)):=
 Tt HL (r:=18) (ty:=29) (it:=3) (bt:=4) kc (by decide) rfl (Bv Gi l) (by decide) (Vt l k h0 h1 rfl)
theorem yN(x:Qa):Ca (Hv x)=true:=(dpc (dpo bA _) (dpc (dpo (λ_=>rfl) _) rfl))
def VV(x:Qa):Nat:=UQ x.1+HH x.2
def kD(x:Qa)(k:Int):Qa:=(kw x.1 (k),O4 x.2 (k+((UQ x.1:Nat):Int)))
theorem P3(x:Qa)(k:Int)(h0:0<=k)(h1:k+EP (Hv x)<=mB):Kh Tryz.prog 46 (.agg (Hv x)) k (.agg (Rl Rh (Hv x) k)) (k+EP (Hv x)):=by
 refine⟨LT kg,λw0 St v bs hO hnd hbs hG=>?_⟩
 obtain⟨us,rfl,hO⟩:=hO
 refine Rv (rs:=[]) (vs:=[.agg us.toArray,.int .i64 k]) kg (Ck rfl) ?_
 have hd:Ca (Hv x)=true:=yN x
 have hI0:=Qc.start (mt:=Rh) (k:=k) (t:=31) hO hd hbs hG
 refine Gc (FT (ah rfl (Sy (FSQ ?_))))
 have q0:(Hv x)[0]? =some (oL 23 Bj x.1):=rfl
 obtain⟨u0,c0,d0⟩:=hI0.own hd hnd hbs q0 (Vq x.1 (k+(EP ((Hv x).take 0):Int)) (by omega) (Sj q0 h1))
 refine Gc (FT (S3 HL rfl rfl rfl (PE HL rfl rfl rfl c0 (Ec (oU (k:=k) (n:=EP ((Hv x).take 0)) rfl) (MI (LT kc) (args2 rfl rfl) (d0.mono ?_))))))
 rintro e0 w1 ⟨rfl,hI1⟩
 refine⟨_,rfl,JK rfl (FSQ ?_)⟩
 have q1:(Hv x)[1]? =some (oL 3 Am x.2):=rfl
 obtain⟨u1,c1,d1⟩:=hI1.own hd hnd hbs q1 (Gz x.2 (k+(EP ((Hv x).take 1):Int)) (by omega) (Sj q1 h1))
 refine Gc (FT (S3 HL rfl rfl rfl (PE HL rfl rfl rfl c1 (Ec rfl (MI (LT Xy) (args2 rfl rfl) (d1.mono ?_))))))
 rintro e1 w2 ⟨rfl,hI2⟩
 refine⟨_,rfl,JK rfl (FSQ ?_)⟩
 obtain⟨hx,hy⟩:=hI2.done (Ck rfl)
 refine Gc (FT (Ec rfl (JK rfl (FSQ ?_))))
 exact XF ⟨.inl rfl,_,rfl,rfl,⟨us,rfl,hx⟩,hy⟩
theorem vO(x:TF):Ca (D4 x)=true:=(dpc rfl (dpc (dpo (λ_=>rfl) _) (dpc (dpo (λ_=>rfl) _) (dpc (dpo bA _) (dpc (dpo (λ_=>rfl) _) rfl)))))
def TQ(x:TF):Nat:=HH x.2.1+Tj x.2.2.1+VV x.2.2.2
def gP(x:TF)(k:Int):TF:=(x.1,O4 x.2.1 (k),kC x.2.2.1 (k+((HH x.2.1:Nat):Int)),kD x.2.2.2 (k+((HH x.2.1:Nat):Int)+((Tj x.2.2.1:Nat):Int)))
theorem yR(x:TF)(k:Int):Rl Rh (D4 x) k=D4 (gP x k):=by
 have h:Rl Rh [nI x.1,oL 3 Am x.2.1,oL 3 Am x.2.2.1,oL 23 Bj x.2.2.2.1,oL 3 Am x.2.2.2.2] k=_:=(mka (λ_ _=>rfl) (gN hmI hcI _ (gN hmI hcI _ (gN yQ vZ _ (gN hmI hcI _ (show Rl Rh [] _=[]from rfl))))))
 refine h.trans ?_
 simp only[D4,gP,TQ,QY,Hv,HH,UQ,Tj,VV,O4,kw,kC,kD,Int.add_assoc,<-Fy,E9,Fy]
theorem v4(x:TF):EP (D4 x)=TQ x:=by
 have h:EP [nI x.1,oL 3 Am x.2.1,oL 3 Am x.2.2.1,oL 23 Bj x.2.2.2.1,oL 3 Am x.2.2.2.2]=_:=(vN (λ_=>rfl) (YJ hcI _ (YJ hcI _ (YJ vZ _ (YJ hcI _ (show EP []=0 from rfl))))))
 refine(show EP (D4 x)=_ from h).trans ?_
 simp only[TQ,QY,Hv,HH,UQ,Tj,VV,O4,kw,kC,kD,E9,CP,CL]
theorem V9(x:TF)(k:Int)(h0:0<=k)(h1:k+EP (D4 x)<=mB):Kh Tryz.prog 15 (.agg (D4 x)) k (.agg (Rl Rh (D4 x) k)) (k+EP (D4 x)):=by
 refine⟨LT pL,λw0 St v bs hO hnd hbs hG=>?_⟩
 obtain⟨us,rfl,hO⟩:=hO
 refine Rv (rs:=[]) (vs:=[.agg us.toArray,.int .i64 k]) pL (Ck rfl) ?_
 have hd:Ca (D4 x)=true:=vO x
 have hI0:=Qc.start (mt:=Rh) (k:=k) (t:=33) hO hd hbs hG
 refine Gc (FT (ah rfl (Sy (FSQ ?_))))
 have hI1:=hI0.skip (c:=nI x.1) rfl (λ_=>rfl)
 have q1:(D4 x)[1]? =some (oL 3 Am x.2.1):=rfl
 obtain⟨u1,c1,d1⟩:=hI1.own hd hnd hbs q1 (Gz x.2.1 (k+(EP ((D4 x).take 1):Int)) (by omega) (Sj q1 h1))
 refine Gc (FT (S3 HL rfl rfl rfl (PE HL rfl rfl rfl c1 (Ec (oU (k:=k) (n:=EP ((D4 x).take 1)) rfl) (MI (LT Xy) (args2 rfl rfl) (d1.mono ?_))))))
 rintro e1 w1 ⟨rfl,hI2⟩
 refine⟨_,rfl,JK rfl (FSQ ?_)⟩
 have q2:((D4 x).drop 2).take 1=QY x.2.2.1:=rfl
 obtain⟨u2,l2,c2,d2⟩:=hI2.agg hd hnd hbs (Ck rfl) q2 (Rf x.2.2.1 (k+(EP ((D4 x).take 2):Int)) (by omega) (bo q2 h1))
 refine Gc (FT (S3 HL rfl rfl rfl (b8 HL rfl l2 rfl c2 (Ec rfl (MI (LT kf) (args2 rfl rfl) (d2.mono ?_))))))
 rintro e2 w2 ⟨rfl,hI3⟩
 refine⟨_,rfl,JK rfl (FSQ ?_)⟩
 have q3:((D4 x).drop 3).take 2=Hv x.2.2.2:=rfl
 obtain⟨u3,l3,c3,d3⟩:=hI3.agg hd hnd hbs (Ck rfl) q3 (P3 x.2.2.2 (k+(EP ((D4 x).take 3):Int)) (by omega) (bo q3 h1))
 refine Gc (FT (S3 HL rfl rfl rfl (b8 HL rfl l3 rfl c3 (Ec rfl (MI (LT kg) (args2 rfl rfl) (d3.mono ?_))))))
 rintro e3 w3 ⟨rfl,hI5⟩
 refine⟨_,rfl,JK rfl (FSQ ?_)⟩
 obtain⟨hx,hy⟩:=hI5.done (Ck rfl)
 refine Gc (FT (Ec rfl (JK rfl (FSQ ?_))))
 exact XF ⟨.inl rfl,_,rfl,rfl,⟨us,rfl,hx⟩,hy⟩
def P2(x:TF)(k:Int):Option (TF×Int):=chk (0<=k∧k+(TQ x:Int)<=mB) (some (gP x k,k+TQ x))
theorem V5{x:TF}{k:Int}(h0:0<=k)(h1:k+(TQ x:Int)<=mB):P2 x k=some (gP x k,k+TQ x):=AZ ⟨h0,h1⟩
theorem V6{x:TF}{k:Int}{r:TF×Int}(h:P2 x k=some r):Kh Tryz.prog 15 (.agg (D4 x)) k (.agg (D4 r.1)) r.2:=by
 obtain⟨⟨h0,h1⟩,h⟩:=Rw h
 have hr:=DZ h
 subst hr
 have e:=V9 x k h0 (by rw[v4];exact h1)
 rw[yR,v4]at e
 exact e
def VI(x:List Int):List V:=[aL Am x]
theorem dV(x:List Int):(VI x).length=1:=rfl
def Mo(x:Dz):List V:=[.str x.1,dL Am x.2]
theorem aW(x:Dz):(Mo x).length=2:=rfl
theorem eL(x:Dz):OK (Mo x)=Mo x:=(A3 rfl (A3 (BW AM _) rfl))
def Th(x:Dz):List V:=[.str x.1,aL Am x.2]
theorem TU(x:Dz):OK (Th x)=Mo x:=(A3 rfl (A3 (N4 AM _) rfl))
def ra(x:List Dz):List V:=[dL Mo x]
abbrev Y24:=Int×(List Dz)×(List Int)
def Wm(x:Y24):List V:=[nI x.1,dL Mo x.2.1,dL Am x.2.2]
def ep(x:Y24):List V:=[nI x.1,aL Th x.2.1,aL Am x.2.2]
theorem iH(x:Dz):FV (Th x)=true:=(adc rfl (adc (ada (λ_=>rfl) _) rfl))
theorem yr(x:Dz):Ups (Mo x) (Th x):=(upc ⟨rfl,rfl⟩ (upc (pe ZN _) upn))
theorem zw(x:Y24):Ups (Wm x) (ep x):=(upc ⟨rfl,rfl⟩ (upc (pe yr _) (upc (pe ZN _) upn)))
end Go.Proofs.YtckmdkajoiegmaaGreatDoor
