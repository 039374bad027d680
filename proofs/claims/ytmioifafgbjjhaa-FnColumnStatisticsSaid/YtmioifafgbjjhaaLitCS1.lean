/-
  The functions' code as the program holds it, without places and edges; printed by genlit.py. No conditions.
-/
import Derived.Test.YtmioifafgbjjhaaTb
namespace Go.Proofs.Ytmioifafgbjjhaa
open Go.RowKit
set_option linter.unusedVariables false
set_option maxRecDepth 100000
theorem lit11 : LitF 11 [] [] [] Try.f11 := litOf Try.func11 (by kernel_rfl)
theorem lit12 : LitF 12 [2, 6, 8] [(5, 8), (12, 8), (15, 8)] [(1, [8])] Try.f12 := litOf Try.func12 (by kernel_rfl)
theorem lit13 : LitF 13 [3, 6, 7, 11, 12] [(58, 11), (64, 11), (65, 12), (71, 12)] [(3, [28]), (8, [46]), (10, [59]), (11, [66]), (13, [73, 74])] Try.f13 := litOf Try.func13 (by kernel_rfl)
theorem lit14 : LitF 14 [2, 6, 24] [] [(3, [6, 24]), (6, [31]), (14, [51]), (15, [55]), (17, [60, 61])] Try.f14 := litOf Try.func14 (by kernel_rfl)
theorem lit15 : LitF 15 [1] [(21, 1), (27, 1), (31, 1), (43, 1), (49, 1)] [] Try.f15 := litOf Try.func15 (by kernel_rfl)
theorem lit16 : LitF 16 [] [] [] Try.f16 := litOf Try.func16 (by kernel_rfl)
theorem lit17 : LitF 17 [2, 3, 4] [(22, 2), (24, 2), (27, 3)] [] Try.f17 := litOf Try.func17 (by kernel_rfl)
theorem lit18 : LitF 18 [2, 3] [(27, 2), (32, 3)] [] Try.f18 := litOf Try.func18 (by kernel_rfl)
theorem lit19 : LitF 19 [2] [] [(1, [10])] Try.f19 := litOf Try.func19 (by kernel_rfl)
theorem lit20 : LitF 20 [2] [] [(1, [7])] Try.f20 := litOf Try.func20 (by kernel_rfl)
theorem lit81 : LitF 81 [31] [] [(6, [28])] Try.f81 := litOf Try.func81 (by kernel_rfl)
theorem lit82 : LitF 82 [0, 2, 3, 1000000] [(0, 0), (21, 3), (23, 0), (24, 3), (30, 3), (42, 3), (46, 0), (22, 900003), (22, 900004), (43, 900003), (43, 900004), (44, 900003), (44, 900004), (45, 900003), (45, 900004), (49, 900003), (49, 900004)] [(9, [45]), (10, [50])] Try.f82 := litOf Try.func82 (by kernel_rfl)
theorem lit83 : LitF 83 [0, 3, 1000000] [] [] Try.f83 := litOf Try.func83 (by kernel_rfl)
theorem lit84 : LitF 84 [0, 1000000] [] [] Try.f84 := litOf Try.func84 (by kernel_rfl)
theorem lit85 : LitF 85 [1] [] [] Try.f85 := litOf Try.func85 (by kernel_rfl)
theorem lit86 : LitF 86 [] [] [] Try.f86 := litOf Try.func86 (by kernel_rfl)
theorem lit87 : LitF 87 [] [] [] Try.f87 := litOf Try.func87 (by kernel_rfl)
theorem lit88 : LitF 88 [] [] [(1, [4])] Try.f88 := litOf Try.func88 (by kernel_rfl)
theorem lit89 : LitF 89 [] [] [] Try.f89 := litOf Try.func89 (by kernel_rfl)
theorem lit90 : LitF 90 [] [] [] Try.f90 := litOf Try.func90 (by kernel_rfl)
theorem lit91 : LitF 91 [] [] [] Try.f91 := litOf Try.func91 (by kernel_rfl)
theorem lit92 : LitF 92 [4, 8] [] [(3, [14]), (10, [34])] Try.f92 := litOf Try.func92 (by kernel_rfl)
theorem lit93 : LitF 93 [] [] [(4, [11]), (5, [12]), (7, [18])] Try.f93 := litOf Try.func93 (by kernel_rfl)
theorem lit100 : LitF 100 [1, 2, 3] [(15, 3), (18, 1), (26, 3)] [(5, [16, 22]), (6, [27])] Try.f100 := litOf Try.func100 (by kernel_rfl)
theorem lit155 : LitF 155 [0, 1000000] [] [(3, [13]), (4, [19])] Try.f155 := litOf Try.func155 (by kernel_rfl)
theorem lit161 : LitF 161 [0, 1000000] [] [] Try.f161 := litOf Try.func161 (by kernel_rfl)
theorem lit167 : LitF 167 [4, 7] [] [(9, [39])] Try.f167 := litOf Try.func167 (by kernel_rfl)
theorem lit169 : LitF 169 [0, 8, 11, 1000000] [] [(5, [22]), (6, [29]), (7, [35])] Try.f169 := litOf Try.func169 (by kernel_rfl)
theorem lit170 : LitF 170 [0, 1000000] [] [] Try.f170 := litOf Try.func170 (by kernel_rfl)
theorem lit171 : LitF 171 [0, 1000000] [(0, 0), (13, 0), (14, 0), (15, 0), (18, 0), (19, 0), (20, 0), (25, 0), (26, 0), (27, 0), (29, 0), (30, 0), (31, 0), (36, 0), (37, 0), (38, 0), (40, 0), (41, 0), (42, 0)] [] Try.f171 := litOf Try.func171 (by kernel_rfl)
theorem lit172 : LitF 172 [] [] [(5, [21])] Try.f172 := litOf Try.func172 (by kernel_rfl)
theorem lit173 : LitF 173 [] [] [] Try.f173 := litOf Try.func173 (by kernel_rfl)
theorem lit174 : LitF 174 [] [] [(13, [47, 50]), (17, [59, 62]), (19, [67])] Try.f174 := litOf Try.func174 (by kernel_rfl)
theorem lit222 : LitF 222 [] [] [(2, [12]), (16, [53]), (18, [58]), (21, [75, 76]), (22, [79])] Try.f222 := litOf Try.func222 (by kernel_rfl)
theorem lit223 : LitF 223 [] [] [] Try.f223 := litOf Try.func223 (by kernel_rfl)
theorem lit238 : LitF 238 [] [] [] Try.f238 := litOf Try.func238 (by kernel_rfl)
end Go.Proofs.Ytmioifafgbjjhaa
