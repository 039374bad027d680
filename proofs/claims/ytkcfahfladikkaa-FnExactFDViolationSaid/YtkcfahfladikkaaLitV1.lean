/-
  The functions' code as the program holds it, without places and edges; printed by genlit.py. No conditions.
-/
import Derived.Test.YtkcfahfladikkaaTb
namespace Go.Proofs.Ytkcfahfladikkaa
open Go.RowKit
set_option linter.unusedVariables false
set_option maxRecDepth 100000
/-- laws.szDatabase -/
def c13 : LC :=
  (.seq (.rgn [] [⟨some 2, (.box 24 (.tmp 0)), 0, none⟩,
    ⟨some 4, (.assign (.const (.int .i64 0))), 3, none⟩])
  (.seq (.rgn [] [⟨some 5, (.fieldAddr 24 (.tmp 2) 0), 0, none⟩,
    ⟨some 6, (.load 22 (.tmp 5)), 22, none⟩,
    ⟨some 7, (.move (.tmp 1)), 3, none⟩,
    ⟨some 8, (.call { callee := (.value (.func 71)), args := #[(.tmp 6), (.tmp 7)], argTypes := #[22, 3] }), 3, none⟩,
    ⟨some 1, (.assign (.tmp 8)), 3, none⟩])
  (.seq (.seq (.rgn [] [⟨some 9, (.move (.tmp 1)), 3, none⟩,
    ⟨some 10, (.binOp .lss 3 (.tmp 9) (.const (.int .i64 0)) 3), 4, none⟩])
  (.cond (.tmp 10)
    (.seq (.rgn [] [⟨some 4, (.assign (.const (.int .i64 (-1)))), 3, none⟩])
    .ret)
    .skip))
  (.seq (.rgn [] [⟨some 11, (.move (.tmp 1)), 3, none⟩,
    ⟨some 4, (.assign (.tmp 11)), 3, none⟩])
  .ret))))
theorem lit13 : Lit Try.prog 13 12 [2] [.tmp 4] c13 := ⟨⟨Try.f13, _, Try.func13, rfl, by kernel_rfl, rfl, rfl, by kernel_rfl, by kernel_rfl⟩, by decide, by kernel_rfl⟩
/-- laws.szFunctionalDependency -/
def c14 : LC :=
  (.seq (.rgn [] [⟨some 2, (.box 27 (.tmp 0)), 0, none⟩,
    ⟨some 4, (.assign (.const (.int .i64 0))), 3, none⟩])
  (.seq (.rgn [] [⟨some 5, (.move (.tmp 1)), 3, none⟩,
    ⟨some 6, (.fieldAddr 27 (.tmp 2) 0), 0, none⟩,
    ⟨some 7, (.load 9 (.tmp 6)), 9, none⟩,
    ⟨some 8, (.call { callee := (.builtin .len), args := #[(.tmp 7)], argTypes := #[9] }), 3, none⟩,
    ⟨some 9, (.binOp .sub 3 (.tmp 5) (.tmp 8) 3), 3, none⟩,
    ⟨some 1, (.assign (.tmp 9)), 3, none⟩])
  (.seq (.seq (.rgn [] [⟨some 10, (.move (.tmp 1)), 3, none⟩,
    ⟨some 11, (.binOp .lss 3 (.tmp 10) (.const (.int .i64 0)) 3), 4, none⟩])
  (.cond (.tmp 11)
    (.seq (.rgn [] [⟨some 4, (.assign (.const (.int .i64 (-1)))), 3, none⟩])
    .ret)
    .skip))
  (.seq (.rgn [] [⟨some 12, (.fieldAddr 27 (.tmp 2) 1), 0, none⟩,
    ⟨some 13, (.load 25 (.tmp 12)), 25, none⟩,
    ⟨some 14, (.move (.tmp 1)), 3, none⟩,
    ⟨some 15, (.call { callee := (.value (.func 72)), args := #[(.tmp 13), (.tmp 14)], argTypes := #[25, 3] }), 3, none⟩,
    ⟨some 1, (.assign (.tmp 15)), 3, none⟩])
  (.seq (.seq (.rgn [] [⟨some 16, (.move (.tmp 1)), 3, none⟩,
    ⟨some 17, (.binOp .lss 3 (.tmp 16) (.const (.int .i64 0)) 3), 4, none⟩])
  (.cond (.tmp 17)
    (.seq (.rgn [] [⟨some 4, (.assign (.const (.int .i64 (-1)))), 3, none⟩])
    .ret)
    .skip))
  (.seq (.rgn [] [⟨some 18, (.move (.tmp 1)), 3, none⟩,
    ⟨some 4, (.assign (.tmp 18)), 3, none⟩])
  .ret))))))
theorem lit14 : Lit Try.prog 14 19 [2] [.tmp 4] c14 := ⟨⟨Try.f14, _, Try.func14, rfl, by kernel_rfl, rfl, rfl, by kernel_rfl, by kernel_rfl⟩, by decide, by kernel_rfl⟩
/-- spec.FDViolation -/
def c15 : LC :=
  (.seq (.rgn [] [⟨some 2, (.box 33 (.tmp 0)), 0, none⟩,
    ⟨some 3, (.box 35 (.tmp 1)), 0, none⟩,
    ⟨some 4, (.assign (.const (.slice none 0 0))), 25, none⟩])
  (.seq (.rgn [9] [⟨some 10, (.load 33 (.tmp 2)), 33, none⟩,
    ⟨some 11, (.fieldAddr 35 (.tmp 3) 0), 0, none⟩,
    ⟨some 12, (.load 9 (.tmp 11)), 9, none⟩,
    ⟨some 13, (.call { callee := (.value (.func 73)), args := #[(.tmp 10), (.tmp 12)], argTypes := #[33, 9] }), 129, none⟩,
    ⟨some 9, (.move (.tmp 13)), 129, none⟩,
    ⟨some 14, (.extract (.tmp 9) 0), 128, none⟩,
    ⟨some 15, (.extract (.tmp 9) 1), 4, none⟩,
    ⟨some 5, (.alloc 128), 0, none⟩,
    ⟨none, (.store 128 (.tmp 5) (.tmp 14)), 0, none⟩,
    ⟨some 6, (.assign (.tmp 15)), 4, none⟩])
  (.seq (.seq (.rgn [] [⟨some 7, (.assign (.const (.int .i64 0))), 3, none⟩])
  (.blk 0
    (.loop []
      (.seq (.seq (.rgn [] [⟨some 16, (.move (.tmp 7)), 3, none⟩,
        ⟨some 17, (.fieldAddr 128 (.tmp 5) 1), 0, none⟩,
        ⟨some 18, (.load 82 (.tmp 17)), 82, none⟩,
        ⟨some 19, (.call { callee := (.builtin .len), args := #[(.tmp 18)], argTypes := #[82] }), 3, none⟩,
        ⟨some 20, (.binOp .lss 3 (.tmp 16) (.tmp 19) 3), 4, none⟩,
        ⟨some 21, (.move (.tmp 20)), 4, none⟩,
        ⟨some 22, (.load 33 (.tmp 2)), 33, some (some 21, true)⟩,
        ⟨some 23, (.load 35 (.tmp 3)), 35, some (some 21, true)⟩,
        ⟨some 24, (.call { callee := (.value (.func 74)), args := #[(.tmp 22), (.tmp 23)], argTypes := #[33, 35] }), 4, some (some 21, true)⟩,
        ⟨some 25, (.pick (.tmp 21) (.tmp 24) (.const (.bool false))), 4, none⟩])
      (.cond (.tmp 25)
        .skip
        (.exit 0)))
      (.seq (.blk 1
        (.seq (.rgn [] [⟨some 8, (.assign (.const (.int .i64 0))), 3, none⟩])
        (.blk 2
          (.loop []
            (.seq (.seq (.rgn [] [⟨some 28, (.move (.tmp 8)), 3, none⟩,
              ⟨some 29, (.move (.tmp 7)), 3, none⟩,
              ⟨some 30, (.binOp .lss 3 (.tmp 28) (.tmp 29) 3), 4, none⟩])
            (.cond (.tmp 30)
              .skip
              (.exit 2)))
            (.seq (.blk 3
              (.seq (.drw [] [([5], [33]), ([5, 33], [34]), ([8], [35]), ([34, 35], [36]), ([36], [37]), ([3], [38]), ([3, 38], [39]), ([37, 39], [40]), ([5], [41]), ([5, 41], [42]), ([7], [43]), ([42, 43], [44]), ([44], [45]), ([3], [46]), ([3, 46], [47]), ([45, 47], [48]), ([40, 48], [49]), ([49], [50]), ([50], [51]), ([5, 51], [52]), ([5, 51, 52], [53]), ([8, 51], [54]), ([51, 53, 54], [55]), ([51, 55], [56]), ([3, 51], [57]), ([3, 51, 57], [58]), ([51, 56, 58], [59]), ([51, 59], [60]), ([5, 51], [61]), ([5, 51, 61], [62]), ([7, 51], [63]), ([51, 62, 63], [64]), ([51, 64], [65]), ([3, 51], [66]), ([3, 51, 66], [67]), ([51, 65, 67], [68]), ([51, 68], [69]), ([51, 60, 69], [70]), ([51, 70], [71])] [[], [0], [], [1, 2], [3], [], [5], [4, 6], [], [8], [], [9, 10], [11], [], [13], [12, 14, 7], [7, 15, 15], [16], [17, 16], [18], [19, 18], [18], [20, 21, 18], [22, 18], [18], [24, 18], [23, 25, 18], [26, 18], [18], [28, 18], [18], [29, 30, 18], [31, 18], [18], [33, 18], [32, 34, 18], [35, 18], [27, 36, 18], [18, 37]] [⟨some 33, (.fieldAddr 128 (.tmp 5) 1), 0, none⟩,
                ⟨some 34, (.load 82 (.tmp 33)), 82, none⟩,
                ⟨some 35, (.move (.tmp 8)), 3, none⟩,
                ⟨some 36, (.indexAddr 82 (.tmp 34) (.tmp 35)), 0, none⟩,
                ⟨some 37, (.load 25 (.tmp 36)), 25, none⟩,
                ⟨some 38, (.fieldAddr 35 (.tmp 3) 1), 0, none⟩,
                ⟨some 39, (.load 25 (.tmp 38)), 25, none⟩,
                ⟨some 40, (.call { callee := (.value (.func 76)), args := #[(.tmp 37), (.tmp 39)], argTypes := #[25, 25] }), 25, none⟩,
                ⟨some 41, (.fieldAddr 128 (.tmp 5) 1), 0, none⟩,
                ⟨some 42, (.load 82 (.tmp 41)), 82, none⟩,
                ⟨some 43, (.move (.tmp 7)), 3, none⟩,
                ⟨some 44, (.indexAddr 82 (.tmp 42) (.tmp 43)), 0, none⟩,
                ⟨some 45, (.load 25 (.tmp 44)), 25, none⟩,
                ⟨some 46, (.fieldAddr 35 (.tmp 3) 1), 0, none⟩,
                ⟨some 47, (.load 25 (.tmp 46)), 25, none⟩,
                ⟨some 48, (.call { callee := (.value (.func 76)), args := #[(.tmp 45), (.tmp 47)], argTypes := #[25, 25] }), 25, none⟩,
                ⟨some 49, (.call { callee := (.value (.func 75)), args := #[(.tmp 40), (.tmp 48)], argTypes := #[25, 25] }), 3, none⟩,
                ⟨some 50, (.binOp .eql 3 (.tmp 49) (.const (.int .i64 0)) 3), 4, none⟩,
                ⟨some 51, (.move (.tmp 50)), 4, none⟩,
                ⟨some 52, (.fieldAddr 128 (.tmp 5) 1), 0, some (some 51, true)⟩,
                ⟨some 53, (.load 82 (.tmp 52)), 82, some (some 51, true)⟩,
                ⟨some 54, (.move (.tmp 8)), 3, some (some 51, true)⟩,
                ⟨some 55, (.indexAddr 82 (.tmp 53) (.tmp 54)), 0, some (some 51, true)⟩,
                ⟨some 56, (.load 25 (.tmp 55)), 25, some (some 51, true)⟩,
                ⟨some 57, (.fieldAddr 35 (.tmp 3) 2), 0, some (some 51, true)⟩,
                ⟨some 58, (.load 3 (.tmp 57)), 3, some (some 51, true)⟩,
                ⟨some 59, (.indexAddr 25 (.tmp 56) (.tmp 58)), 0, some (some 51, true)⟩,
                ⟨some 60, (.load 3 (.tmp 59)), 3, some (some 51, true)⟩,
                ⟨some 61, (.fieldAddr 128 (.tmp 5) 1), 0, some (some 51, true)⟩,
                ⟨some 62, (.load 82 (.tmp 61)), 82, some (some 51, true)⟩,
                ⟨some 63, (.move (.tmp 7)), 3, some (some 51, true)⟩,
                ⟨some 64, (.indexAddr 82 (.tmp 62) (.tmp 63)), 0, some (some 51, true)⟩,
                ⟨some 65, (.load 25 (.tmp 64)), 25, some (some 51, true)⟩,
                ⟨some 66, (.fieldAddr 35 (.tmp 3) 2), 0, some (some 51, true)⟩,
                ⟨some 67, (.load 3 (.tmp 66)), 3, some (some 51, true)⟩,
                ⟨some 68, (.indexAddr 25 (.tmp 65) (.tmp 67)), 0, some (some 51, true)⟩,
                ⟨some 69, (.load 3 (.tmp 68)), 3, some (some 51, true)⟩,
                ⟨some 70, (.binOp .neq 3 (.tmp 60) (.tmp 69) 3), 4, some (some 51, true)⟩,
                ⟨some 71, (.pick (.tmp 51) (.tmp 70) (.const (.bool false))), 4, none⟩])
              (.cond (.tmp 71)
                (.seq (.rgn [] [⟨some 72, (.move (.tmp 8)), 3, none⟩,
                  ⟨some 73, (.move (.tmp 7)), 3, none⟩,
                  ⟨some 74, (.buildSlice 25 2 #[(0, (.tmp 72)), (1, (.tmp 73))]), 25, none⟩,
                  ⟨some 4, (.assign (.tmp 74)), 25, none⟩])
                .ret)
                .skip)))
            (.rgn [] [⟨some 31, (.move (.tmp 8)), 3, none⟩,
              ⟨some 32, (.binOp .add 3 (.tmp 31) (.const (.int .i64 1)) 3), 3, none⟩,
              ⟨some 8, (.assign (.tmp 32)), 3, none⟩])))))))
      (.rgn [] [⟨some 26, (.move (.tmp 7)), 3, none⟩,
        ⟨some 27, (.binOp .add 3 (.tmp 26) (.const (.int .i64 1)) 3), 3, none⟩,
        ⟨some 7, (.assign (.tmp 27)), 3, none⟩]))))))
  (.seq (.rgn [] [⟨some 75, (.buildSlice 25 0 #[]), 25, none⟩,
    ⟨some 4, (.assign (.tmp 75)), 25, none⟩])
  .ret))))
theorem lit15 : Lit Try.prog 15 76 [2, 3, 5] [.tmp 4] c15 := ⟨⟨Try.f15, _, Try.func15, rfl, by kernel_rfl, rfl, rfl, by kernel_rfl, by kernel_rfl⟩, by decide, by kernel_rfl⟩
/-- laws.toDatabase -/
def c16 : LC :=
  (.seq (.rgn [] [⟨some 1, (.box 24 (.tmp 0)), 0, none⟩,
    ⟨some 2, (.alloc 33), 0, none⟩])
  (.seq (.rgn [] [⟨some 3, (.alloc 33), 0, none⟩])
  (.seq (.rgn [] [⟨some 4, (.fieldAddr 24 (.tmp 1) 0), 0, none⟩,
    ⟨some 5, (.load 22 (.tmp 4)), 22, none⟩,
    ⟨some 6, (.call { callee := (.value (.func 77)), args := #[(.tmp 5)], argTypes := #[22] }), 31, none⟩,
    ⟨some 7, (.fieldAddr 33 (.tmp 3) 0), 0, none⟩,
    ⟨none, (.store 31 (.tmp 7) (.tmp 6)), 0, none⟩])
  (.seq (.rgn [8] [⟨some 8, (.load 33 (.tmp 3)), 33, none⟩,
    ⟨none, (.store 33 (.tmp 2) (.tmp 8)), 0, none⟩])
  .ret))))
theorem lit16 : Lit Try.prog 16 9 [1, 2, 3] [.cell 2 33] c16 := ⟨⟨Try.f16, _, Try.func16, rfl, by kernel_rfl, rfl, rfl, by kernel_rfl, by kernel_rfl⟩, by decide, by kernel_rfl⟩
/-- laws.toFunctionalDependency -/
def c17 : LC :=
  (.seq (.rgn [] [⟨some 1, (.box 27 (.tmp 0)), 0, none⟩,
    ⟨some 2, (.alloc 35), 0, none⟩])
  (.seq (.rgn [] [⟨some 3, (.alloc 35), 0, none⟩])
  (.seq (.rgn [] [⟨some 4, (.fieldAddr 27 (.tmp 1) 0), 0, none⟩,
    ⟨some 5, (.load 9 (.tmp 4)), 9, none⟩,
    ⟨some 6, (.fieldAddr 35 (.tmp 3) 0), 0, none⟩,
    ⟨none, (.store 9 (.tmp 6) (.tmp 5)), 0, none⟩])
  (.seq (.rgn [] [⟨some 7, (.fieldAddr 27 (.tmp 1) 1), 0, none⟩,
    ⟨some 8, (.load 25 (.tmp 7)), 25, none⟩,
    ⟨some 9, (.call { callee := (.value (.func 58)), args := #[(.tmp 8)], argTypes := #[25] }), 25, none⟩,
    ⟨some 10, (.fieldAddr 35 (.tmp 3) 1), 0, none⟩,
    ⟨none, (.store 25 (.tmp 10) (.tmp 9)), 0, none⟩])
  (.seq (.rgn [] [⟨some 11, (.fieldAddr 27 (.tmp 1) 2), 0, none⟩,
    ⟨some 12, (.load 3 (.tmp 11)), 3, none⟩,
    ⟨some 13, (.fieldAddr 35 (.tmp 3) 2), 0, none⟩,
    ⟨none, (.store 3 (.tmp 13) (.tmp 12)), 0, none⟩])
  (.seq (.rgn [14] [⟨some 14, (.load 35 (.tmp 3)), 35, none⟩,
    ⟨none, (.store 35 (.tmp 2) (.tmp 14)), 0, none⟩])
  .ret))))))
theorem lit17 : Lit Try.prog 17 15 [1, 2, 3] [.cell 2 35] c17 := ⟨⟨Try.f17, _, Try.func17, rfl, by kernel_rfl, rfl, rfl, by kernel_rfl, by kernel_rfl⟩, by decide, by kernel_rfl⟩
/-- impl.FDViolation -/
def c18 : LC :=
  (.seq (.rgn [] [⟨some 2, (.box 33 (.tmp 0)), 0, none⟩,
    ⟨some 3, (.box 35 (.tmp 1)), 0, none⟩,
    ⟨some 4, (.assign (.const (.slice none 0 0))), 25, none⟩])
  (.seq (.seq (.rgn [] [⟨some 11, (.load 33 (.tmp 2)), 33, none⟩,
    ⟨some 12, (.load 35 (.tmp 3)), 35, none⟩,
    ⟨some 13, (.call { callee := (.value (.func 78)), args := #[(.tmp 11), (.tmp 12)], argTypes := #[33, 35] }), 4, none⟩,
    ⟨some 14, (.unOp .not 4 (.tmp 13)), 4, none⟩])
  (.cond (.tmp 14)
    (.seq (.rgn [] [⟨some 4, (.assign (.const (.slice none 0 0))), 25, none⟩])
    .ret)
    .skip))
  (.seq (.rgn [15] [⟨some 16, (.load 33 (.tmp 2)), 33, none⟩,
    ⟨some 17, (.fieldAddr 35 (.tmp 3) 0), 0, none⟩,
    ⟨some 18, (.load 9 (.tmp 17)), 9, none⟩,
    ⟨some 19, (.call { callee := (.value (.func 79)), args := #[(.tmp 16), (.tmp 18)], argTypes := #[33, 9] }), 129, none⟩,
    ⟨some 15, (.move (.tmp 19)), 129, none⟩,
    ⟨some 20, (.extract (.tmp 15) 0), 128, none⟩,
    ⟨some 21, (.extract (.tmp 15) 1), 4, none⟩,
    ⟨some 5, (.alloc 128), 0, none⟩,
    ⟨none, (.store 128 (.tmp 5) (.tmp 20)), 0, none⟩,
    ⟨some 6, (.assign (.tmp 21)), 4, none⟩])
  (.seq (.seq (.rgn [] [⟨some 22, (.fieldAddr 128 (.tmp 5) 1), 0, none⟩,
    ⟨some 23, (.load 82 (.tmp 22)), 82, none⟩,
    ⟨some 24, (.call { callee := (.builtin .len), args := #[(.tmp 23)], argTypes := #[82] }), 3, none⟩,
    ⟨some 25, (.move (.const (.int .i64 0))), 3, none⟩])
  (.blk 0
    (.loop []
      (.seq (.rgn [] [⟨some 26, (.binOp .lss 3 (.tmp 25) (.tmp 24) 3), 0, none⟩])
      (.seq (.cond (.tmp 26)
        .skip
        (.exit 0))
      (.seq (.blk 1
        (.seq (.rgn [29] [⟨some 27, (.move (.tmp 25)), 3, none⟩,
          ⟨some 28, (.indexAddr 82 (.tmp 23) (.tmp 25)), 0, none⟩,
          ⟨some 29, (.load 25 (.tmp 28)), 25, none⟩,
          ⟨some 7, (.assign (.tmp 27)), 3, none⟩,
          ⟨some 8, (.assign (.tmp 29)), 25, none⟩])
        (.seq (.rgn [] [⟨some 30, (.fieldAddr 128 (.tmp 5) 1), 0, none⟩,
          ⟨some 31, (.load 82 (.tmp 30)), 82, none⟩,
          ⟨some 32, (.move (.tmp 7)), 3, none⟩,
          ⟨some 33, (.slice 82 (.tmp 31) none (some (.tmp 32)) none), 82, none⟩,
          ⟨some 34, (.call { callee := (.builtin .len), args := #[(.tmp 33)], argTypes := #[82] }), 3, none⟩,
          ⟨some 35, (.move (.const (.int .i64 0))), 3, none⟩])
        (.blk 2
          (.loop []
            (.seq (.rgn [] [⟨some 36, (.binOp .lss 3 (.tmp 35) (.tmp 34) 3), 0, none⟩])
            (.seq (.cond (.tmp 36)
              .skip
              (.exit 2))
            (.seq (.blk 3
              (.seq (.rgn [39] [⟨some 37, (.move (.tmp 35)), 3, none⟩,
                ⟨some 38, (.indexAddr 82 (.tmp 33) (.tmp 35)), 0, none⟩,
                ⟨some 39, (.load 25 (.tmp 38)), 25, none⟩,
                ⟨some 9, (.assign (.tmp 37)), 3, none⟩,
                ⟨some 10, (.assign (.tmp 39)), 25, none⟩])
              (.seq (.drw [] [([10], [40]), ([3], [41]), ([3, 41], [42]), ([40, 42], [43]), ([43], [44]), ([8], [45]), ([3], [46]), ([3, 46], [47]), ([45, 47], [48]), ([48], [49]), ([44, 49], [50]), ([50], [51]), ([10, 51], [52]), ([3, 51], [53]), ([3, 51, 53], [54]), ([51, 52, 54], [55]), ([8, 51], [56]), ([3, 51], [57]), ([3, 51, 57], [58]), ([51, 56, 58], [59]), ([51, 55, 59], [60]), ([51, 60], [61])] [[], [], [1], [0, 2], [3], [], [], [6], [5, 7], [8], [4, 9], [10], [11], [11], [13, 11], [12, 14, 11, 11], [11], [11], [17, 11], [16, 18, 15, 11], [15, 19, 19, 11], [11, 20]] [⟨some 40, (.move (.tmp 10)), 25, none⟩,
                ⟨some 41, (.fieldAddr 35 (.tmp 3) 2), 0, none⟩,
                ⟨some 42, (.load 3 (.tmp 41)), 3, none⟩,
                ⟨some 43, (.indexAddr 25 (.tmp 40) (.tmp 42)), 0, none⟩,
                ⟨some 44, (.load 3 (.tmp 43)), 3, none⟩,
                ⟨some 45, (.move (.tmp 8)), 25, none⟩,
                ⟨some 46, (.fieldAddr 35 (.tmp 3) 2), 0, none⟩,
                ⟨some 47, (.load 3 (.tmp 46)), 3, none⟩,
                ⟨some 48, (.indexAddr 25 (.tmp 45) (.tmp 47)), 0, none⟩,
                ⟨some 49, (.load 3 (.tmp 48)), 3, none⟩,
                ⟨some 50, (.binOp .neq 3 (.tmp 44) (.tmp 49) 3), 4, none⟩,
                ⟨some 51, (.move (.tmp 50)), 4, none⟩,
                ⟨some 52, (.move (.tmp 10)), 25, some (some 51, true)⟩,
                ⟨some 53, (.fieldAddr 35 (.tmp 3) 1), 0, some (some 51, true)⟩,
                ⟨some 54, (.load 25 (.tmp 53)), 25, some (some 51, true)⟩,
                ⟨some 55, (.call { callee := (.value (.func 81)), args := #[(.tmp 52), (.tmp 54)], argTypes := #[25, 25] }), 25, some (some 51, true)⟩,
                ⟨some 56, (.move (.tmp 8)), 25, some (some 51, true)⟩,
                ⟨some 57, (.fieldAddr 35 (.tmp 3) 1), 0, some (some 51, true)⟩,
                ⟨some 58, (.load 25 (.tmp 57)), 25, some (some 51, true)⟩,
                ⟨some 59, (.call { callee := (.value (.func 81)), args := #[(.tmp 56), (.tmp 58)], argTypes := #[25, 25] }), 25, some (some 51, true)⟩,
                ⟨some 60, (.call { callee := (.value (.func 80)), args := #[(.tmp 55), (.tmp 59)], argTypes := #[25, 25] }), 4, some (some 51, true)⟩,
                ⟨some 61, (.pick (.tmp 51) (.tmp 60) (.const (.bool false))), 4, none⟩])
              (.cond (.tmp 61)
                (.seq (.rgn [] [⟨some 62, (.move (.tmp 9)), 3, none⟩,
                  ⟨some 63, (.move (.tmp 7)), 3, none⟩,
                  ⟨some 64, (.buildSlice 25 2 #[(0, (.tmp 62)), (1, (.tmp 63))]), 25, none⟩,
                  ⟨some 4, (.assign (.tmp 64)), 25, none⟩])
                .ret)
                .skip))))
            (.rgn [] [⟨some 65, (.binOp .add 3 (.tmp 35) (.const (.int .i64 1)) 3), 3, none⟩,
              ⟨some 35, (.move (.tmp 65)), 3, none⟩])))))))))
      (.rgn [] [⟨some 66, (.binOp .add 3 (.tmp 25) (.const (.int .i64 1)) 3), 3, none⟩,
        ⟨some 25, (.move (.tmp 66)), 3, none⟩])))))))
  (.seq (.rgn [] [⟨some 4, (.assign (.const (.slice none 0 0))), 25, none⟩])
  .ret)))))
theorem lit18 : Lit Try.prog 18 67 [2, 3, 5] [.tmp 4] c18 := ⟨⟨Try.f18, _, Try.func18, rfl, by kernel_rfl, rfl, rfl, by kernel_rfl, by kernel_rfl⟩, by decide, by kernel_rfl⟩
/-- laws.eqIntS -/
def c19 : LC :=
  (.seq (.rgn [] [⟨some 4, (.assign (.const (.bool false))), 4, none⟩])
  (.seq (.seq (.rgn [] [⟨some 6, (.move (.tmp 0)), 25, none⟩,
    ⟨some 7, (.call { callee := (.builtin .len), args := #[(.tmp 6)], argTypes := #[25] }), 3, none⟩,
    ⟨some 8, (.move (.tmp 1)), 25, none⟩,
    ⟨some 9, (.call { callee := (.builtin .len), args := #[(.tmp 8)], argTypes := #[25] }), 3, none⟩,
    ⟨some 10, (.binOp .neq 3 (.tmp 7) (.tmp 9) 3), 4, none⟩])
  (.cond (.tmp 10)
    (.seq (.rgn [] [⟨some 4, (.assign (.const (.bool false))), 4, none⟩])
    .ret)
    .skip))
  (.seq (.seq (.rgn [] [⟨some 5, (.assign (.const (.int .i64 0))), 3, none⟩])
  (.blk 0
    (.loop []
      (.seq (.seq (.rgn [] [⟨some 11, (.move (.tmp 5)), 3, none⟩,
        ⟨some 12, (.move (.tmp 0)), 25, none⟩,
        ⟨some 13, (.call { callee := (.builtin .len), args := #[(.tmp 12)], argTypes := #[25] }), 3, none⟩,
        ⟨some 14, (.binOp .lss 3 (.tmp 11) (.tmp 13) 3), 4, none⟩])
      (.cond (.tmp 14)
        .skip
        (.exit 0)))
      (.seq (.blk 1
        (.seq (.drw [] [([0], [17]), ([5], [18]), ([17, 18], [19]), ([19], [20]), ([1], [21]), ([5], [22]), ([21, 22], [23]), ([23], [24]), ([20, 24], [25])] [[], [], [0, 1], [2], [], [], [4, 5], [6], [3, 7]] [⟨some 17, (.move (.tmp 0)), 25, none⟩,
          ⟨some 18, (.move (.tmp 5)), 3, none⟩,
          ⟨some 19, (.indexAddr 25 (.tmp 17) (.tmp 18)), 0, none⟩,
          ⟨some 20, (.load 3 (.tmp 19)), 3, none⟩,
          ⟨some 21, (.move (.tmp 1)), 25, none⟩,
          ⟨some 22, (.move (.tmp 5)), 3, none⟩,
          ⟨some 23, (.indexAddr 25 (.tmp 21) (.tmp 22)), 0, none⟩,
          ⟨some 24, (.load 3 (.tmp 23)), 3, none⟩,
          ⟨some 25, (.binOp .neq 3 (.tmp 20) (.tmp 24) 3), 4, none⟩])
        (.cond (.tmp 25)
          (.seq (.rgn [] [⟨some 4, (.assign (.const (.bool false))), 4, none⟩])
          .ret)
          .skip)))
      (.rgn [] [⟨some 15, (.move (.tmp 5)), 3, none⟩,
        ⟨some 16, (.binOp .add 3 (.tmp 15) (.const (.int .i64 1)) 3), 3, none⟩,
        ⟨some 5, (.assign (.tmp 16)), 3, none⟩]))))))
  (.seq (.rgn [] [⟨some 4, (.assign (.const (.bool true))), 4, none⟩])
  .ret))))
theorem lit19 : Lit Try.prog 19 26 [] [.tmp 4] c19 := ⟨⟨Try.f19, _, Try.func19, rfl, by kernel_rfl, rfl, rfl, by kernel_rfl, by kernel_rfl⟩, by decide, by kernel_rfl⟩
/-- laws.eqDatabase -/
def c20 : LC :=
  (.seq (.rgn [] [⟨some 2, (.box 33 (.tmp 0)), 0, none⟩,
    ⟨some 3, (.box 33 (.tmp 1)), 0, none⟩,
    ⟨some 4, (.assign (.const (.bool false))), 4, none⟩])
  (.seq (.seq (.rgn [] [⟨some 5, (.fieldAddr 33 (.tmp 2) 0), 0, none⟩,
    ⟨some 6, (.load 31 (.tmp 5)), 31, none⟩,
    ⟨some 7, (.fieldAddr 33 (.tmp 3) 0), 0, none⟩,
    ⟨some 8, (.load 31 (.tmp 7)), 31, none⟩,
    ⟨some 9, (.call { callee := (.value (.func 82)), args := #[(.tmp 6), (.tmp 8)], argTypes := #[31, 31] }), 4, none⟩,
    ⟨some 10, (.unOp .not 4 (.tmp 9)), 4, none⟩])
  (.cond (.tmp 10)
    (.seq (.rgn [] [⟨some 4, (.assign (.const (.bool false))), 4, none⟩])
    .ret)
    .skip))
  (.seq (.rgn [] [⟨some 4, (.assign (.const (.bool true))), 4, none⟩])
  .ret)))
theorem lit20 : Lit Try.prog 20 11 [2, 3] [.tmp 4] c20 := ⟨⟨Try.f20, _, Try.func20, rfl, by kernel_rfl, rfl, rfl, by kernel_rfl, by kernel_rfl⟩, by decide, by kernel_rfl⟩
/-- laws.eqFunctionalDependency -/
def c21 : LC :=
  (.seq (.rgn [] [⟨some 2, (.box 35 (.tmp 0)), 0, none⟩,
    ⟨some 3, (.box 35 (.tmp 1)), 0, none⟩,
    ⟨some 4, (.assign (.const (.bool false))), 4, none⟩])
  (.seq (.seq (.rgn [] [⟨some 5, (.fieldAddr 35 (.tmp 2) 0), 0, none⟩,
    ⟨some 6, (.load 9 (.tmp 5)), 9, none⟩,
    ⟨some 7, (.fieldAddr 35 (.tmp 3) 0), 0, none⟩,
    ⟨some 8, (.load 9 (.tmp 7)), 9, none⟩,
    ⟨some 9, (.binOp .neq 9 (.tmp 6) (.tmp 8) 9), 4, none⟩])
  (.cond (.tmp 9)
    (.seq (.rgn [] [⟨some 4, (.assign (.const (.bool false))), 4, none⟩])
    .ret)
    .skip))
  (.seq (.seq (.rgn [] [⟨some 10, (.fieldAddr 35 (.tmp 2) 1), 0, none⟩,
    ⟨some 11, (.load 25 (.tmp 10)), 25, none⟩,
    ⟨some 12, (.fieldAddr 35 (.tmp 3) 1), 0, none⟩,
    ⟨some 13, (.load 25 (.tmp 12)), 25, none⟩,
    ⟨some 14, (.call { callee := (.value (.func 19)), args := #[(.tmp 11), (.tmp 13)], argTypes := #[25, 25] }), 4, none⟩,
    ⟨some 15, (.unOp .not 4 (.tmp 14)), 4, none⟩])
  (.cond (.tmp 15)
    (.seq (.rgn [] [⟨some 4, (.assign (.const (.bool false))), 4, none⟩])
    .ret)
    .skip))
  (.seq (.seq (.rgn [] [⟨some 16, (.fieldAddr 35 (.tmp 2) 2), 0, none⟩,
    ⟨some 17, (.load 3 (.tmp 16)), 3, none⟩,
    ⟨some 18, (.fieldAddr 35 (.tmp 3) 2), 0, none⟩,
    ⟨some 19, (.load 3 (.tmp 18)), 3, none⟩,
    ⟨some 20, (.binOp .neq 3 (.tmp 17) (.tmp 19) 3), 4, none⟩])
  (.cond (.tmp 20)
    (.seq (.rgn [] [⟨some 4, (.assign (.const (.bool false))), 4, none⟩])
    .ret)
    .skip))
  (.seq (.rgn [] [⟨some 4, (.assign (.const (.bool true))), 4, none⟩])
  .ret)))))
theorem lit21 : Lit Try.prog 21 21 [2, 3] [.tmp 4] c21 := ⟨⟨Try.f21, _, Try.func21, rfl, by kernel_rfl, rfl, rfl, by kernel_rfl, by kernel_rfl⟩, by decide, by kernel_rfl⟩
/-- laws.markDatabase -/
def c22 : LC :=
  (.seq (.rgn [] [⟨some 2, (.box 33 (.tmp 0)), 0, none⟩,
    ⟨some 4, (.assign (.const (.int .i64 0))), 3, none⟩])
  (.seq (.rgn [] [⟨some 5, (.fieldAddr 33 (.tmp 2) 0), 0, none⟩,
    ⟨some 6, (.load 31 (.tmp 5)), 31, none⟩,
    ⟨some 7, (.move (.tmp 1)), 3, none⟩,
    ⟨some 8, (.call { callee := (.value (.func 83)), args := #[(.tmp 6), (.tmp 7)], argTypes := #[31, 3] }), 3, none⟩,
    ⟨some 1, (.assign (.tmp 8)), 3, none⟩])
  (.seq (.rgn [] [⟨some 9, (.move (.tmp 1)), 3, none⟩,
    ⟨some 4, (.assign (.tmp 9)), 3, none⟩])
  .ret)))
theorem lit22 : Lit Try.prog 22 10 [2] [.tmp 4] c22 := ⟨⟨Try.f22, _, Try.func22, rfl, by kernel_rfl, rfl, rfl, by kernel_rfl, by kernel_rfl⟩, by decide, by kernel_rfl⟩
/-- laws.markFunctionalDependency -/
def c23 : LC :=
  (.seq (.rgn [] [⟨some 2, (.box 35 (.tmp 0)), 0, none⟩,
    ⟨some 4, (.assign (.const (.int .i64 0))), 3, none⟩])
  (.seq (.rgn [] [⟨some 5, (.fieldAddr 35 (.tmp 2) 1), 0, none⟩,
    ⟨some 6, (.load 25 (.tmp 5)), 25, none⟩,
    ⟨some 7, (.move (.tmp 1)), 3, none⟩,
    ⟨some 8, (.call { callee := (.value (.func 24)), args := #[(.tmp 6), (.tmp 7)], argTypes := #[25, 3] }), 3, none⟩,
    ⟨some 1, (.assign (.tmp 8)), 3, none⟩])
  (.seq (.rgn [] [⟨some 9, (.move (.tmp 1)), 3, none⟩,
    ⟨some 4, (.assign (.tmp 9)), 3, none⟩])
  .ret)))
theorem lit23 : Lit Try.prog 23 10 [2] [.tmp 4] c23 := ⟨⟨Try.f23, _, Try.func23, rfl, by kernel_rfl, rfl, rfl, by kernel_rfl, by kernel_rfl⟩, by decide, by kernel_rfl⟩
/-- laws.markIntS -/
def c24 : LC :=
  (.seq (.rgn [] [⟨some 4, (.assign (.const (.int .i64 0))), 3, none⟩])
  (.seq (.seq (.rgn [] [⟨some 5, (.assign (.const (.int .i64 0))), 3, none⟩])
  (.blk 0
    (.loop []
      (.seq (.seq (.rgn [] [⟨some 6, (.move (.tmp 5)), 3, none⟩,
        ⟨some 7, (.move (.tmp 0)), 25, none⟩,
        ⟨some 8, (.call { callee := (.builtin .len), args := #[(.tmp 7)], argTypes := #[25] }), 3, none⟩,
        ⟨some 9, (.binOp .lss 3 (.tmp 6) (.tmp 8) 3), 4, none⟩])
      (.cond (.tmp 9)
        .skip
        (.exit 0)))
      (.seq (.blk 1
        (.seq (.rgn [] [⟨some 12, (.move (.tmp 0)), 25, none⟩,
          ⟨some 13, (.move (.tmp 5)), 3, none⟩,
          ⟨some 14, (.move (.tmp 1)), 3, none⟩,
          ⟨some 15, (.indexAddr 25 (.tmp 12) (.tmp 13)), 0, none⟩,
          ⟨none, (.store 3 (.tmp 15) (.tmp 14)), 0, none⟩])
        (.rgn [] [⟨some 16, (.move (.tmp 1)), 3, none⟩,
          ⟨some 17, (.binOp .add 3 (.tmp 16) (.const (.int .i64 1)) 3), 3, none⟩,
          ⟨some 1, (.assign (.tmp 17)), 3, none⟩])))
      (.rgn [] [⟨some 10, (.move (.tmp 5)), 3, none⟩,
        ⟨some 11, (.binOp .add 3 (.tmp 10) (.const (.int .i64 1)) 3), 3, none⟩,
        ⟨some 5, (.assign (.tmp 11)), 3, none⟩]))))))
  (.seq (.rgn [] [⟨some 18, (.move (.tmp 1)), 3, none⟩,
    ⟨some 4, (.assign (.tmp 18)), 3, none⟩])
  .ret)))
theorem lit24 : Lit Try.prog 24 19 [] [.tmp 4] c24 := ⟨⟨Try.f24, _, Try.func24, rfl, by kernel_rfl, rfl, rfl, by kernel_rfl, by kernel_rfl⟩, by decide, by kernel_rfl⟩
/-- laws.heldIntS -/
def c25 : LC :=
  (.seq (.rgn [] [⟨some 4, (.assign (.const (.int .i64 0))), 3, none⟩])
  (.seq (.seq (.rgn [] [⟨some 5, (.assign (.const (.int .i64 0))), 3, none⟩])
  (.blk 0
    (.loop []
      (.seq (.seq (.rgn [] [⟨some 6, (.move (.tmp 5)), 3, none⟩,
        ⟨some 7, (.move (.tmp 0)), 25, none⟩,
        ⟨some 8, (.call { callee := (.builtin .len), args := #[(.tmp 7)], argTypes := #[25] }), 3, none⟩,
        ⟨some 9, (.binOp .lss 3 (.tmp 6) (.tmp 8) 3), 4, none⟩])
      (.cond (.tmp 9)
        .skip
        (.exit 0)))
      (.seq (.blk 1
        (.seq (.seq (.rgn [] [⟨some 12, (.move (.tmp 0)), 25, none⟩,
          ⟨some 13, (.move (.tmp 5)), 3, none⟩,
          ⟨some 14, (.indexAddr 25 (.tmp 12) (.tmp 13)), 0, none⟩,
          ⟨some 15, (.load 3 (.tmp 14)), 3, none⟩,
          ⟨some 16, (.move (.tmp 1)), 3, none⟩,
          ⟨some 17, (.binOp .neq 3 (.tmp 15) (.tmp 16) 3), 4, none⟩])
        (.cond (.tmp 17)
          (.seq (.rgn [] [⟨some 4, (.assign (.const (.int .i64 (-1)))), 3, none⟩])
          .ret)
          .skip))
        (.rgn [] [⟨some 18, (.move (.tmp 1)), 3, none⟩,
          ⟨some 19, (.binOp .add 3 (.tmp 18) (.const (.int .i64 1)) 3), 3, none⟩,
          ⟨some 1, (.assign (.tmp 19)), 3, none⟩])))
      (.rgn [] [⟨some 10, (.move (.tmp 5)), 3, none⟩,
        ⟨some 11, (.binOp .add 3 (.tmp 10) (.const (.int .i64 1)) 3), 3, none⟩,
        ⟨some 5, (.assign (.tmp 11)), 3, none⟩]))))))
  (.seq (.rgn [] [⟨some 20, (.move (.tmp 1)), 3, none⟩,
    ⟨some 4, (.assign (.tmp 20)), 3, none⟩])
  .ret)))
theorem lit25 : Lit Try.prog 25 21 [] [.tmp 4] c25 := ⟨⟨Try.f25, _, Try.func25, rfl, by kernel_rfl, rfl, rfl, by kernel_rfl, by kernel_rfl⟩, by decide, by kernel_rfl⟩
/-- laws.toIntS -/
def c58 : LC :=
  (.seq (.rgn [] [⟨some 2, (.assign (.const (.slice none 0 0))), 25, none⟩])
  (.seq (.rgn [3, 7] [⟨some 5, (.move (.tmp 0)), 25, none⟩,
    ⟨some 6, (.call { callee := (.builtin .len), args := #[(.tmp 5)], argTypes := #[25] }), 3, none⟩,
    ⟨some 7, (.makeSlice 25 (.tmp 6) (.tmp 6)), 25, none⟩,
    ⟨some 3, (.assign (.tmp 7)), 25, none⟩])
  (.seq (.seq (.rgn [] [⟨some 4, (.assign (.const (.int .i64 0))), 3, none⟩])
  (.blk 0
    (.loop []
      (.seq (.seq (.rgn [] [⟨some 8, (.move (.tmp 4)), 3, none⟩,
        ⟨some 9, (.move (.tmp 0)), 25, none⟩,
        ⟨some 10, (.call { callee := (.builtin .len), args := #[(.tmp 9)], argTypes := #[25] }), 3, none⟩,
        ⟨some 11, (.binOp .lss 3 (.tmp 8) (.tmp 10) 3), 4, none⟩])
      (.cond (.tmp 11)
        .skip
        (.exit 0)))
      (.seq (.blk 1
        (.rgn [] [⟨some 14, (.move (.tmp 3)), 25, none⟩,
          ⟨some 15, (.move (.tmp 4)), 3, none⟩,
          ⟨some 16, (.move (.tmp 0)), 25, none⟩,
          ⟨some 17, (.move (.tmp 4)), 3, none⟩,
          ⟨some 18, (.indexAddr 25 (.tmp 16) (.tmp 17)), 0, none⟩,
          ⟨some 19, (.load 3 (.tmp 18)), 3, none⟩,
          ⟨some 20, (.indexAddr 25 (.tmp 14) (.tmp 15)), 0, none⟩,
          ⟨none, (.store 3 (.tmp 20) (.tmp 19)), 0, none⟩]))
      (.rgn [] [⟨some 12, (.move (.tmp 4)), 3, none⟩,
        ⟨some 13, (.binOp .add 3 (.tmp 12) (.const (.int .i64 1)) 3), 3, none⟩,
        ⟨some 4, (.assign (.tmp 13)), 3, none⟩]))))))
  (.seq (.rgn [21] [⟨some 21, (.move (.tmp 3)), 25, none⟩,
    ⟨some 2, (.assign (.tmp 21)), 25, none⟩])
  .ret))))
theorem lit58 : Lit Try.prog 58 22 [3, 7] [.tmp 2] c58 := ⟨⟨Try.f58, _, Try.func58, rfl, by kernel_rfl, rfl, rfl, by kernel_rfl, by kernel_rfl⟩, by decide, by kernel_rfl⟩
/-- laws.szTableS -/
def c71 : LC :=
  (.seq (.rgn [] [⟨some 4, (.assign (.const (.int .i64 0))), 3, none⟩])
  (.seq (.rgn [] [⟨some 6, (.move (.tmp 1)), 3, none⟩,
    ⟨some 7, (.move (.tmp 0)), 22, none⟩,
    ⟨some 8, (.call { callee := (.builtin .len), args := #[(.tmp 7)], argTypes := #[22] }), 3, none⟩,
    ⟨some 9, (.binOp .sub 3 (.tmp 6) (.tmp 8) 3), 3, none⟩,
    ⟨some 1, (.assign (.tmp 9)), 3, none⟩])
  (.seq (.seq (.rgn [] [⟨some 10, (.move (.tmp 1)), 3, none⟩,
    ⟨some 11, (.binOp .lss 3 (.tmp 10) (.const (.int .i64 0)) 3), 4, none⟩])
  (.cond (.tmp 11)
    (.seq (.rgn [] [⟨some 4, (.assign (.const (.int .i64 (-1)))), 3, none⟩])
    .ret)
    .skip))
  (.seq (.seq (.rgn [] [⟨some 5, (.assign (.const (.int .i64 0))), 3, none⟩])
  (.blk 0
    (.loop []
      (.seq (.seq (.rgn [] [⟨some 12, (.move (.tmp 5)), 3, none⟩,
        ⟨some 13, (.move (.tmp 0)), 22, none⟩,
        ⟨some 14, (.call { callee := (.builtin .len), args := #[(.tmp 13)], argTypes := #[22] }), 3, none⟩,
        ⟨some 15, (.binOp .lss 3 (.tmp 12) (.tmp 14) 3), 4, none⟩])
      (.cond (.tmp 15)
        .skip
        (.exit 0)))
      (.seq (.blk 1
        (.seq (.rgn [] [⟨some 18, (.move (.tmp 0)), 22, none⟩,
          ⟨some 19, (.move (.tmp 5)), 3, none⟩,
          ⟨some 20, (.indexAddr 22 (.tmp 18) (.tmp 19)), 0, none⟩,
          ⟨some 21, (.load 206 (.tmp 20)), 206, none⟩,
          ⟨some 22, (.move (.tmp 1)), 3, none⟩,
          ⟨some 23, (.call { callee := (.value (.func 171)), args := #[(.tmp 21), (.tmp 22)], argTypes := #[206, 3] }), 3, none⟩,
          ⟨some 1, (.assign (.tmp 23)), 3, none⟩])
        (.seq (.rgn [] [⟨some 24, (.move (.tmp 1)), 3, none⟩,
          ⟨some 25, (.binOp .lss 3 (.tmp 24) (.const (.int .i64 0)) 3), 4, none⟩])
        (.cond (.tmp 25)
          (.seq (.rgn [] [⟨some 4, (.assign (.const (.int .i64 (-1)))), 3, none⟩])
          .ret)
          .skip))))
      (.rgn [] [⟨some 16, (.move (.tmp 5)), 3, none⟩,
        ⟨some 17, (.binOp .add 3 (.tmp 16) (.const (.int .i64 1)) 3), 3, none⟩,
        ⟨some 5, (.assign (.tmp 17)), 3, none⟩]))))))
  (.seq (.rgn [] [⟨some 26, (.move (.tmp 1)), 3, none⟩,
    ⟨some 4, (.assign (.tmp 26)), 3, none⟩])
  .ret)))))
theorem lit71 : Lit Try.prog 71 27 [] [.tmp 4] c71 := ⟨⟨Try.f71, _, Try.func71, rfl, by kernel_rfl, rfl, rfl, by kernel_rfl, by kernel_rfl⟩, by decide, by kernel_rfl⟩
/-- laws.szIntS -/
def c72 : LC :=
  (.seq (.rgn [] [⟨some 4, (.assign (.const (.int .i64 0))), 3, none⟩])
  (.seq (.rgn [] [⟨some 5, (.move (.tmp 1)), 3, none⟩,
    ⟨some 6, (.move (.tmp 0)), 25, none⟩,
    ⟨some 7, (.call { callee := (.builtin .len), args := #[(.tmp 6)], argTypes := #[25] }), 3, none⟩,
    ⟨some 8, (.binOp .sub 3 (.tmp 5) (.tmp 7) 3), 3, none⟩,
    ⟨some 1, (.assign (.tmp 8)), 3, none⟩])
  (.seq (.seq (.rgn [] [⟨some 9, (.move (.tmp 1)), 3, none⟩,
    ⟨some 10, (.binOp .lss 3 (.tmp 9) (.const (.int .i64 0)) 3), 4, none⟩])
  (.cond (.tmp 10)
    (.seq (.rgn [] [⟨some 4, (.assign (.const (.int .i64 (-1)))), 3, none⟩])
    .ret)
    .skip))
  (.seq (.rgn [] [⟨some 11, (.move (.tmp 1)), 3, none⟩,
    ⟨some 4, (.assign (.tmp 11)), 3, none⟩])
  .ret))))
theorem lit72 : Lit Try.prog 72 12 [] [.tmp 4] c72 := ⟨⟨Try.f72, _, Try.func72, rfl, by kernel_rfl, rfl, rfl, by kernel_rfl, by kernel_rfl⟩, by decide, by kernel_rfl⟩
/-- spec.LookupRelation -/
def c73 : LC :=
  (.seq (.rgn [] [⟨some 2, (.box 33 (.tmp 0)), 0, none⟩,
    ⟨some 4, (.alloc 128), 0, none⟩,
    ⟨some 5, (.assign (.const (.bool false))), 4, none⟩])
  (.seq (.seq (.rgn [] [⟨some 6, (.assign (.const (.int .i64 0))), 3, none⟩])
  (.blk 0
    (.loop []
      (.seq (.seq (.rgn [] [⟨some 7, (.move (.tmp 6)), 3, none⟩,
        ⟨some 8, (.fieldAddr 33 (.tmp 2) 0), 0, none⟩,
        ⟨some 9, (.load 31 (.tmp 8)), 31, none⟩,
        ⟨some 10, (.call { callee := (.builtin .len), args := #[(.tmp 9)], argTypes := #[31] }), 3, none⟩,
        ⟨some 11, (.binOp .lss 3 (.tmp 7) (.tmp 10) 3), 4, none⟩,
        ⟨some 12, (.move (.tmp 11)), 4, none⟩,
        ⟨some 13, (.load 33 (.tmp 2)), 33, some (some 12, true)⟩,
        ⟨some 14, (.call { callee := (.value (.func 135)), args := #[(.tmp 13)], argTypes := #[33] }), 4, some (some 12, true)⟩,
        ⟨some 15, (.pick (.tmp 12) (.tmp 14) (.const (.bool false))), 4, none⟩])
      (.cond (.tmp 15)
        .skip
        (.exit 0)))
      (.seq (.blk 1
        (.seq (.rgn [] [⟨some 18, (.fieldAddr 33 (.tmp 2) 0), 0, none⟩,
          ⟨some 19, (.load 31 (.tmp 18)), 31, none⟩,
          ⟨some 20, (.move (.tmp 6)), 3, none⟩,
          ⟨some 21, (.indexAddr 31 (.tmp 19) (.tmp 20)), 0, none⟩,
          ⟨some 22, (.fieldAddr 208 (.tmp 21) 0), 0, none⟩,
          ⟨some 23, (.load 9 (.tmp 22)), 9, none⟩,
          ⟨some 24, (.move (.tmp 1)), 9, none⟩,
          ⟨some 25, (.binOp .eql 9 (.tmp 23) (.tmp 24) 9), 4, none⟩])
        (.cond (.tmp 25)
          (.seq (.rgn [] [⟨some 26, (.fieldAddr 33 (.tmp 2) 0), 0, none⟩,
            ⟨some 27, (.load 31 (.tmp 26)), 31, none⟩,
            ⟨some 28, (.move (.tmp 6)), 3, none⟩,
            ⟨some 29, (.indexAddr 31 (.tmp 27) (.tmp 28)), 0, none⟩,
            ⟨some 30, (.fieldAddr 208 (.tmp 29) 1), 0, none⟩,
            ⟨some 31, (.load 128 (.tmp 30)), 128, none⟩,
            ⟨some 32, (.call { callee := (.value (.func 172)), args := #[(.tmp 31)], argTypes := #[128] }), 128, none⟩,
            ⟨none, (.store 128 (.tmp 4) (.tmp 32)), 0, none⟩,
            ⟨some 5, (.assign (.const (.bool true))), 4, none⟩])
          .ret)
          .skip)))
      (.rgn [] [⟨some 16, (.move (.tmp 6)), 3, none⟩,
        ⟨some 17, (.binOp .add 3 (.tmp 16) (.const (.int .i64 1)) 3), 3, none⟩,
        ⟨some 6, (.assign (.tmp 17)), 3, none⟩]))))))
  (.seq (.rgn [] [⟨some 33, (.build 128 #[]), 128, none⟩,
    ⟨none, (.store 128 (.tmp 4) (.tmp 33)), 0, none⟩,
    ⟨some 5, (.assign (.const (.bool false))), 4, none⟩])
  .ret)))
theorem lit73 : Lit Try.prog 73 34 [2, 4] [.cell 4 128, .tmp 5] c73 := ⟨⟨Try.f73, _, Try.func73, rfl, by kernel_rfl, rfl, rfl, by kernel_rfl, by kernel_rfl⟩, by decide, by kernel_rfl⟩
/-- spec.IsValidFD -/
def c74 : LC :=
  (.seq (.rgn [] [⟨some 2, (.box 33 (.tmp 0)), 0, none⟩,
    ⟨some 3, (.box 35 (.tmp 1)), 0, none⟩,
    ⟨some 4, (.assign (.const (.bool false))), 4, none⟩])
  (.seq (.rgn [8] [⟨some 9, (.load 33 (.tmp 2)), 33, none⟩,
    ⟨some 10, (.fieldAddr 35 (.tmp 3) 0), 0, none⟩,
    ⟨some 11, (.load 9 (.tmp 10)), 9, none⟩,
    ⟨some 12, (.call { callee := (.value (.func 73)), args := #[(.tmp 9), (.tmp 11)], argTypes := #[33, 9] }), 129, none⟩,
    ⟨some 8, (.move (.tmp 12)), 129, none⟩,
    ⟨some 13, (.extract (.tmp 8) 0), 128, none⟩,
    ⟨some 14, (.extract (.tmp 8) 1), 4, none⟩,
    ⟨some 5, (.alloc 128), 0, none⟩,
    ⟨none, (.store 128 (.tmp 5) (.tmp 13)), 0, none⟩,
    ⟨some 6, (.assign (.tmp 14)), 4, none⟩])
  (.seq (.seq (.rgn [] [⟨some 7, (.assign (.const (.int .i64 0))), 3, none⟩])
  (.blk 0
    (.loop []
      (.seq (.seq (.rgn [] [⟨some 15, (.move (.tmp 7)), 3, none⟩,
        ⟨some 16, (.fieldAddr 35 (.tmp 3) 1), 0, none⟩,
        ⟨some 17, (.load 25 (.tmp 16)), 25, none⟩,
        ⟨some 18, (.call { callee := (.builtin .len), args := #[(.tmp 17)], argTypes := #[25] }), 3, none⟩,
        ⟨some 19, (.binOp .lss 3 (.tmp 15) (.tmp 18) 3), 4, none⟩])
      (.cond (.tmp 19)
        .skip
        (.exit 0)))
      (.seq (.blk 1
        (.seq (.drw [] [([3], [22]), ([3, 22], [23]), ([7], [24]), ([23, 24], [25]), ([25], [26]), ([5], [27]), ([5, 27], [28]), ([28], [29]), ([26, 29], [30]), ([30], [31]), ([31], [32]), ([7, 32], [33]), ([32, 33], [34]), ([32, 34], [35]), ([3, 35], [36]), ([3, 35, 36], [37]), ([7, 35], [38]), ([35, 37, 38], [39]), ([35, 39], [40]), ([3, 35], [41]), ([3, 35, 41], [42]), ([7, 35], [43]), ([35, 43], [44]), ([35, 42, 44], [45]), ([35, 45], [46]), ([35, 40, 46], [47]), ([32, 35, 47], [48]), ([32, 48], [49])] [[], [0], [], [1, 2], [3], [], [5], [6], [4, 7], [8], [9, 8], [10], [11, 10], [12, 10, 10], [13], [14, 13], [13], [15, 16, 13], [17, 13], [13], [19, 13], [13], [21, 13], [20, 22, 13], [23, 13], [18, 24, 13], [13, 25, 10], [10, 26]] [⟨some 22, (.fieldAddr 35 (.tmp 3) 1), 0, none⟩,
          ⟨some 23, (.load 25 (.tmp 22)), 25, none⟩,
          ⟨some 24, (.move (.tmp 7)), 3, none⟩,
          ⟨some 25, (.indexAddr 25 (.tmp 23) (.tmp 24)), 0, none⟩,
          ⟨some 26, (.load 3 (.tmp 25)), 3, none⟩,
          ⟨some 27, (.fieldAddr 128 (.tmp 5) 0), 0, none⟩,
          ⟨some 28, (.load 3 (.tmp 27)), 3, none⟩,
          ⟨some 29, (.binOp .sub 3 (.tmp 28) (.const (.int .i64 1)) 3), 3, none⟩,
          ⟨some 30, (.call { callee := (.value (.func 86)), args := #[(.tmp 26), (.const (.int .i64 0)), (.tmp 29)], argTypes := #[3, 3, 3] }), 4, none⟩,
          ⟨some 31, (.unOp .not 4 (.tmp 30)), 4, none⟩,
          ⟨some 32, (.move (.tmp 31)), 4, none⟩,
          ⟨some 33, (.move (.tmp 7)), 3, some (some 32, false)⟩,
          ⟨some 34, (.binOp .gtr 3 (.tmp 33) (.const (.int .i64 0)) 3), 4, some (some 32, false)⟩,
          ⟨some 35, (.move (.tmp 34)), 4, some (some 32, false)⟩,
          ⟨some 36, (.fieldAddr 35 (.tmp 3) 1), 0, some (some 35, true)⟩,
          ⟨some 37, (.load 25 (.tmp 36)), 25, some (some 35, true)⟩,
          ⟨some 38, (.move (.tmp 7)), 3, some (some 35, true)⟩,
          ⟨some 39, (.indexAddr 25 (.tmp 37) (.tmp 38)), 0, some (some 35, true)⟩,
          ⟨some 40, (.load 3 (.tmp 39)), 3, some (some 35, true)⟩,
          ⟨some 41, (.fieldAddr 35 (.tmp 3) 1), 0, some (some 35, true)⟩,
          ⟨some 42, (.load 25 (.tmp 41)), 25, some (some 35, true)⟩,
          ⟨some 43, (.move (.tmp 7)), 3, some (some 35, true)⟩,
          ⟨some 44, (.binOp .sub 3 (.tmp 43) (.const (.int .i64 1)) 3), 3, some (some 35, true)⟩,
          ⟨some 45, (.indexAddr 25 (.tmp 42) (.tmp 44)), 0, some (some 35, true)⟩,
          ⟨some 46, (.load 3 (.tmp 45)), 3, some (some 35, true)⟩,
          ⟨some 47, (.binOp .leq 3 (.tmp 40) (.tmp 46) 3), 4, some (some 35, true)⟩,
          ⟨some 48, (.pick (.tmp 35) (.tmp 47) (.const (.bool false))), 4, some (some 32, false)⟩,
          ⟨some 49, (.pick (.tmp 32) (.const (.bool true)) (.tmp 48)), 4, none⟩])
        (.cond (.tmp 49)
          (.seq (.rgn [] [⟨some 4, (.assign (.const (.bool false))), 4, none⟩])
          .ret)
          .skip)))
      (.rgn [] [⟨some 20, (.move (.tmp 7)), 3, none⟩,
        ⟨some 21, (.binOp .add 3 (.tmp 20) (.const (.int .i64 1)) 3), 3, none⟩,
        ⟨some 7, (.assign (.tmp 21)), 3, none⟩]))))))
  (.seq (.rgn [] [⟨some 50, (.move (.tmp 6)), 4, none⟩,
    ⟨some 51, (.move (.tmp 50)), 4, none⟩,
    ⟨some 52, (.fieldAddr 35 (.tmp 3) 2), 0, some (some 51, true)⟩,
    ⟨some 53, (.load 3 (.tmp 52)), 3, some (some 51, true)⟩,
    ⟨some 54, (.fieldAddr 128 (.tmp 5) 0), 0, some (some 51, true)⟩,
    ⟨some 55, (.load 3 (.tmp 54)), 3, some (some 51, true)⟩,
    ⟨some 56, (.binOp .sub 3 (.tmp 55) (.const (.int .i64 1)) 3), 3, some (some 51, true)⟩,
    ⟨some 57, (.call { callee := (.value (.func 86)), args := #[(.tmp 53), (.const (.int .i64 0)), (.tmp 56)], argTypes := #[3, 3, 3] }), 4, some (some 51, true)⟩,
    ⟨some 58, (.pick (.tmp 51) (.tmp 57) (.const (.bool false))), 4, none⟩,
    ⟨some 4, (.assign (.tmp 58)), 4, none⟩])
  .ret))))
theorem lit74 : Lit Try.prog 74 59 [2, 3, 5] [.tmp 4] c74 := ⟨⟨Try.f74, _, Try.func74, rfl, by kernel_rfl, rfl, rfl, by kernel_rfl, by kernel_rfl⟩, by decide, by kernel_rfl⟩
/-- spec.CompareRows -/
def c75 : LC :=
  (.seq (.rgn [] [⟨some 4, (.assign (.const (.int .i64 0))), 3, none⟩])
  (.seq (.seq (.rgn [] [⟨some 5, (.assign (.const (.int .i64 0))), 3, none⟩])
  (.blk 0
    (.loop []
      (.seq (.seq (.rgn [] [⟨some 6, (.move (.tmp 5)), 3, none⟩,
        ⟨some 7, (.move (.tmp 0)), 25, none⟩,
        ⟨some 8, (.call { callee := (.builtin .len), args := #[(.tmp 7)], argTypes := #[25] }), 3, none⟩,
        ⟨some 9, (.binOp .lss 3 (.tmp 6) (.tmp 8) 3), 4, none⟩,
        ⟨some 10, (.move (.tmp 9)), 4, none⟩,
        ⟨some 11, (.move (.tmp 5)), 3, some (some 10, true)⟩,
        ⟨some 12, (.move (.tmp 1)), 25, some (some 10, true)⟩,
        ⟨some 13, (.call { callee := (.builtin .len), args := #[(.tmp 12)], argTypes := #[25] }), 3, some (some 10, true)⟩,
        ⟨some 14, (.binOp .lss 3 (.tmp 11) (.tmp 13) 3), 4, some (some 10, true)⟩,
        ⟨some 15, (.pick (.tmp 10) (.tmp 14) (.const (.bool false))), 4, none⟩])
      (.cond (.tmp 15)
        .skip
        (.exit 0)))
      (.seq (.blk 1
        (.seq (.seq (.drw [] [([0], [18]), ([5], [19]), ([18, 19], [20]), ([20], [21]), ([1], [22]), ([5], [23]), ([22, 23], [24]), ([24], [25]), ([21, 25], [26])] [[], [], [0, 1], [2], [], [], [4, 5], [6], [3, 7]] [⟨some 18, (.move (.tmp 0)), 25, none⟩,
          ⟨some 19, (.move (.tmp 5)), 3, none⟩,
          ⟨some 20, (.indexAddr 25 (.tmp 18) (.tmp 19)), 0, none⟩,
          ⟨some 21, (.load 3 (.tmp 20)), 3, none⟩,
          ⟨some 22, (.move (.tmp 1)), 25, none⟩,
          ⟨some 23, (.move (.tmp 5)), 3, none⟩,
          ⟨some 24, (.indexAddr 25 (.tmp 22) (.tmp 23)), 0, none⟩,
          ⟨some 25, (.load 3 (.tmp 24)), 3, none⟩,
          ⟨some 26, (.binOp .lss 3 (.tmp 21) (.tmp 25) 3), 4, none⟩])
        (.cond (.tmp 26)
          (.seq (.rgn [] [⟨some 4, (.assign (.const (.int .i64 (-1)))), 3, none⟩])
          .ret)
          .skip))
        (.seq (.drw [] [([0], [27]), ([5], [28]), ([27, 28], [29]), ([29], [30]), ([1], [31]), ([5], [32]), ([31, 32], [33]), ([33], [34]), ([30, 34], [35])] [[], [], [0, 1], [2], [], [], [4, 5], [6], [3, 7]] [⟨some 27, (.move (.tmp 0)), 25, none⟩,
          ⟨some 28, (.move (.tmp 5)), 3, none⟩,
          ⟨some 29, (.indexAddr 25 (.tmp 27) (.tmp 28)), 0, none⟩,
          ⟨some 30, (.load 3 (.tmp 29)), 3, none⟩,
          ⟨some 31, (.move (.tmp 1)), 25, none⟩,
          ⟨some 32, (.move (.tmp 5)), 3, none⟩,
          ⟨some 33, (.indexAddr 25 (.tmp 31) (.tmp 32)), 0, none⟩,
          ⟨some 34, (.load 3 (.tmp 33)), 3, none⟩,
          ⟨some 35, (.binOp .gtr 3 (.tmp 30) (.tmp 34) 3), 4, none⟩])
        (.cond (.tmp 35)
          (.seq (.rgn [] [⟨some 4, (.assign (.const (.int .i64 1))), 3, none⟩])
          .ret)
          .skip))))
      (.rgn [] [⟨some 16, (.move (.tmp 5)), 3, none⟩,
        ⟨some 17, (.binOp .add 3 (.tmp 16) (.const (.int .i64 1)) 3), 3, none⟩,
        ⟨some 5, (.assign (.tmp 17)), 3, none⟩]))))))
  (.seq (.seq (.rgn [] [⟨some 36, (.move (.tmp 0)), 25, none⟩,
    ⟨some 37, (.call { callee := (.builtin .len), args := #[(.tmp 36)], argTypes := #[25] }), 3, none⟩,
    ⟨some 38, (.move (.tmp 1)), 25, none⟩,
    ⟨some 39, (.call { callee := (.builtin .len), args := #[(.tmp 38)], argTypes := #[25] }), 3, none⟩,
    ⟨some 40, (.binOp .lss 3 (.tmp 37) (.tmp 39) 3), 4, none⟩])
  (.cond (.tmp 40)
    (.seq (.rgn [] [⟨some 4, (.assign (.const (.int .i64 (-1)))), 3, none⟩])
    .ret)
    .skip))
  (.seq (.seq (.rgn [] [⟨some 41, (.move (.tmp 0)), 25, none⟩,
    ⟨some 42, (.call { callee := (.builtin .len), args := #[(.tmp 41)], argTypes := #[25] }), 3, none⟩,
    ⟨some 43, (.move (.tmp 1)), 25, none⟩,
    ⟨some 44, (.call { callee := (.builtin .len), args := #[(.tmp 43)], argTypes := #[25] }), 3, none⟩,
    ⟨some 45, (.binOp .gtr 3 (.tmp 42) (.tmp 44) 3), 4, none⟩])
  (.cond (.tmp 45)
    (.seq (.rgn [] [⟨some 4, (.assign (.const (.int .i64 1))), 3, none⟩])
    .ret)
    .skip))
  (.seq (.rgn [] [⟨some 4, (.assign (.const (.int .i64 0))), 3, none⟩])
  .ret)))))
theorem lit75 : Lit Try.prog 75 46 [] [.tmp 4] c75 := ⟨⟨Try.f75, _, Try.func75, rfl, by kernel_rfl, rfl, rfl, by kernel_rfl, by kernel_rfl⟩, by decide, by kernel_rfl⟩
/-- spec.l5Cols -/
def c76 : LC :=
  (.seq (.rgn [] [⟨some 4, (.assign (.const (.slice none 0 0))), 25, none⟩])
  (.seq (.rgn [] [⟨some 7, (.buildSlice 25 0 #[]), 25, none⟩,
    ⟨some 5, (.assign (.tmp 7)), 25, none⟩])
  (.seq (.seq (.rgn [] [⟨some 6, (.assign (.const (.int .i64 0))), 3, none⟩])
  (.blk 0
    (.loop []
      (.seq (.seq (.rgn [] [⟨some 8, (.move (.tmp 6)), 3, none⟩,
        ⟨some 9, (.move (.tmp 1)), 25, none⟩,
        ⟨some 10, (.call { callee := (.builtin .len), args := #[(.tmp 9)], argTypes := #[25] }), 3, none⟩,
        ⟨some 11, (.binOp .lss 3 (.tmp 8) (.tmp 10) 3), 4, none⟩])
      (.cond (.tmp 11)
        .skip
        (.exit 0)))
      (.seq (.blk 1
        (.rgn [14] [⟨some 14, (.move (.tmp 5)), 25, none⟩,
          ⟨some 15, (.move (.tmp 0)), 25, none⟩,
          ⟨some 16, (.move (.tmp 1)), 25, none⟩,
          ⟨some 17, (.move (.tmp 6)), 3, none⟩,
          ⟨some 18, (.indexAddr 25 (.tmp 16) (.tmp 17)), 0, none⟩,
          ⟨some 19, (.load 3 (.tmp 18)), 3, none⟩,
          ⟨some 20, (.indexAddr 25 (.tmp 15) (.tmp 19)), 0, none⟩,
          ⟨some 21, (.load 3 (.tmp 20)), 3, none⟩,
          ⟨some 22, (.buildSlice 25 1 #[(0, (.tmp 21))]), 25, none⟩,
          ⟨some 23, (.call { callee := (.builtin .append), args := #[(.tmp 14), (.tmp 22)], argTypes := #[25, 25] }), 25, none⟩,
          ⟨some 5, (.assign (.tmp 23)), 25, none⟩]))
      (.rgn [] [⟨some 12, (.move (.tmp 6)), 3, none⟩,
        ⟨some 13, (.binOp .add 3 (.tmp 12) (.const (.int .i64 1)) 3), 3, none⟩,
        ⟨some 6, (.assign (.tmp 13)), 3, none⟩]))))))
  (.seq (.rgn [24] [⟨some 24, (.move (.tmp 5)), 25, none⟩,
    ⟨some 4, (.assign (.tmp 24)), 25, none⟩])
  .ret))))
theorem lit76 : Lit Try.prog 76 25 [] [.tmp 4] c76 := ⟨⟨Try.f76, _, Try.func76, rfl, by kernel_rfl, rfl, rfl, by kernel_rfl, by kernel_rfl⟩, by decide, by kernel_rfl⟩
/-- laws.toTableS -/
def c77 : LC :=
  (.seq (.rgn [] [⟨some 2, (.assign (.const (.slice none 0 0))), 31, none⟩])
  (.seq (.rgn [3, 7] [⟨some 5, (.move (.tmp 0)), 22, none⟩,
    ⟨some 6, (.call { callee := (.builtin .len), args := #[(.tmp 5)], argTypes := #[22] }), 3, none⟩,
    ⟨some 7, (.makeSlice 31 (.tmp 6) (.tmp 6)), 31, none⟩,
    ⟨some 3, (.assign (.tmp 7)), 31, none⟩])
  (.seq (.seq (.rgn [] [⟨some 4, (.assign (.const (.int .i64 0))), 3, none⟩])
  (.blk 0
    (.loop []
      (.seq (.seq (.rgn [] [⟨some 8, (.move (.tmp 4)), 3, none⟩,
        ⟨some 9, (.move (.tmp 0)), 22, none⟩,
        ⟨some 10, (.call { callee := (.builtin .len), args := #[(.tmp 9)], argTypes := #[22] }), 3, none⟩,
        ⟨some 11, (.binOp .lss 3 (.tmp 8) (.tmp 10) 3), 4, none⟩])
      (.cond (.tmp 11)
        .skip
        (.exit 0)))
      (.seq (.blk 1
        (.rgn [] [⟨some 14, (.move (.tmp 3)), 31, none⟩,
          ⟨some 15, (.move (.tmp 4)), 3, none⟩,
          ⟨some 16, (.move (.tmp 0)), 22, none⟩,
          ⟨some 17, (.move (.tmp 4)), 3, none⟩,
          ⟨some 18, (.indexAddr 22 (.tmp 16) (.tmp 17)), 0, none⟩,
          ⟨some 19, (.load 206 (.tmp 18)), 206, none⟩,
          ⟨some 20, (.call { callee := (.value (.func 173)), args := #[(.tmp 19)], argTypes := #[206] }), 208, none⟩,
          ⟨some 21, (.indexAddr 31 (.tmp 14) (.tmp 15)), 0, none⟩,
          ⟨none, (.store 208 (.tmp 21) (.tmp 20)), 0, none⟩]))
      (.rgn [] [⟨some 12, (.move (.tmp 4)), 3, none⟩,
        ⟨some 13, (.binOp .add 3 (.tmp 12) (.const (.int .i64 1)) 3), 3, none⟩,
        ⟨some 4, (.assign (.tmp 13)), 3, none⟩]))))))
  (.seq (.rgn [22] [⟨some 22, (.move (.tmp 3)), 31, none⟩,
    ⟨some 2, (.assign (.tmp 22)), 31, none⟩])
  .ret))))
theorem lit77 : Lit Try.prog 77 23 [3, 7] [.tmp 2] c77 := ⟨⟨Try.f77, _, Try.func77, rfl, by kernel_rfl, rfl, rfl, by kernel_rfl, by kernel_rfl⟩, by decide, by kernel_rfl⟩
/-- impl.IsValidFD -/
def c78 : LC :=
  (.seq (.rgn [] [⟨some 2, (.box 33 (.tmp 0)), 0, none⟩,
    ⟨some 3, (.box 35 (.tmp 1)), 0, none⟩,
    ⟨some 4, (.assign (.const (.bool false))), 4, none⟩])
  (.seq (.rgn [9] [⟨some 10, (.load 33 (.tmp 2)), 33, none⟩,
    ⟨some 11, (.fieldAddr 35 (.tmp 3) 0), 0, none⟩,
    ⟨some 12, (.load 9 (.tmp 11)), 9, none⟩,
    ⟨some 13, (.call { callee := (.value (.func 79)), args := #[(.tmp 10), (.tmp 12)], argTypes := #[33, 9] }), 129, none⟩,
    ⟨some 9, (.move (.tmp 13)), 129, none⟩,
    ⟨some 14, (.extract (.tmp 9) 0), 128, none⟩,
    ⟨some 15, (.extract (.tmp 9) 1), 4, none⟩,
    ⟨some 5, (.alloc 128), 0, none⟩,
    ⟨none, (.store 128 (.tmp 5) (.tmp 14)), 0, none⟩,
    ⟨some 6, (.assign (.tmp 15)), 4, none⟩])
  (.seq (.seq (.rgn [] [⟨some 16, (.move (.tmp 6)), 4, none⟩,
    ⟨some 17, (.unOp .not 4 (.tmp 16)), 4, none⟩,
    ⟨some 18, (.move (.tmp 17)), 4, none⟩,
    ⟨some 19, (.fieldAddr 35 (.tmp 3) 1), 0, some (some 18, false)⟩,
    ⟨some 20, (.load 25 (.tmp 19)), 25, some (some 18, false)⟩,
    ⟨some 21, (.call { callee := (.value (.func 174)), args := #[(.tmp 20)], argTypes := #[25] }), 4, some (some 18, false)⟩,
    ⟨some 22, (.unOp .not 4 (.tmp 21)), 4, some (some 18, false)⟩,
    ⟨some 23, (.pick (.tmp 18) (.const (.bool true)) (.tmp 22)), 4, none⟩,
    ⟨some 24, (.move (.tmp 23)), 4, none⟩,
    ⟨some 25, (.fieldAddr 35 (.tmp 3) 2), 0, some (some 24, false)⟩,
    ⟨some 26, (.load 3 (.tmp 25)), 3, some (some 24, false)⟩,
    ⟨some 27, (.fieldAddr 128 (.tmp 5) 0), 0, some (some 24, false)⟩,
    ⟨some 28, (.load 3 (.tmp 27)), 3, some (some 24, false)⟩,
    ⟨some 29, (.binOp .sub 3 (.tmp 28) (.const (.int .i64 1)) 3), 3, some (some 24, false)⟩,
    ⟨some 30, (.call { callee := (.value (.func 90)), args := #[(.tmp 26), (.const (.int .i64 0)), (.tmp 29)], argTypes := #[3, 3, 3] }), 4, some (some 24, false)⟩,
    ⟨some 31, (.unOp .not 4 (.tmp 30)), 4, some (some 24, false)⟩,
    ⟨some 32, (.pick (.tmp 24) (.const (.bool true)) (.tmp 31)), 4, none⟩])
  (.cond (.tmp 32)
    (.seq (.rgn [] [⟨some 4, (.assign (.const (.bool false))), 4, none⟩])
    .ret)
    .skip))
  (.seq (.seq (.rgn [] [⟨some 33, (.fieldAddr 35 (.tmp 3) 1), 0, none⟩,
    ⟨some 34, (.load 25 (.tmp 33)), 25, none⟩,
    ⟨some 35, (.call { callee := (.builtin .len), args := #[(.tmp 34)], argTypes := #[25] }), 3, none⟩,
    ⟨some 36, (.move (.const (.int .i64 0))), 3, none⟩])
  (.blk 0
    (.loop []
      (.seq (.rgn [] [⟨some 37, (.binOp .lss 3 (.tmp 36) (.tmp 35) 3), 0, none⟩])
      (.seq (.cond (.tmp 37)
        .skip
        (.exit 0))
      (.seq (.blk 1
        (.seq (.rgn [] [⟨some 38, (.indexAddr 25 (.tmp 34) (.tmp 36)), 0, none⟩,
          ⟨some 39, (.load 3 (.tmp 38)), 3, none⟩,
          ⟨some 8, (.assign (.tmp 39)), 3, none⟩])
        (.seq (.rgn [] [⟨some 40, (.move (.tmp 8)), 3, none⟩,
          ⟨some 41, (.fieldAddr 128 (.tmp 5) 0), 0, none⟩,
          ⟨some 42, (.load 3 (.tmp 41)), 3, none⟩,
          ⟨some 43, (.binOp .sub 3 (.tmp 42) (.const (.int .i64 1)) 3), 3, none⟩,
          ⟨some 44, (.call { callee := (.value (.func 90)), args := #[(.tmp 40), (.const (.int .i64 0)), (.tmp 43)], argTypes := #[3, 3, 3] }), 4, none⟩,
          ⟨some 45, (.unOp .not 4 (.tmp 44)), 4, none⟩])
        (.cond (.tmp 45)
          (.seq (.rgn [] [⟨some 4, (.assign (.const (.bool false))), 4, none⟩])
          .ret)
          .skip))))
      (.rgn [] [⟨some 46, (.binOp .add 3 (.tmp 36) (.const (.int .i64 1)) 3), 3, none⟩,
        ⟨some 36, (.move (.tmp 46)), 3, none⟩])))))))
  (.seq (.rgn [] [⟨some 4, (.assign (.const (.bool true))), 4, none⟩])
  .ret)))))
theorem lit78 : Lit Try.prog 78 47 [2, 3, 5] [.tmp 4] c78 := ⟨⟨Try.f78, _, Try.func78, rfl, by kernel_rfl, rfl, rfl, by kernel_rfl, by kernel_rfl⟩, by decide, by kernel_rfl⟩
/-- impl.LookupRelation -/
def c79 : LC :=
  (.seq (.rgn [] [⟨some 2, (.box 33 (.tmp 0)), 0, none⟩,
    ⟨some 4, (.alloc 128), 0, none⟩,
    ⟨some 5, (.assign (.const (.bool false))), 4, none⟩])
  (.seq (.seq (.rgn [] [⟨some 8, (.load 33 (.tmp 2)), 33, none⟩,
    ⟨some 9, (.call { callee := (.value (.func 136)), args := #[(.tmp 8)], argTypes := #[33] }), 4, none⟩])
  (.cond (.tmp 9)
    (.seq (.rgn [] [⟨some 10, (.fieldAddr 33 (.tmp 2) 0), 0, none⟩,
      ⟨some 11, (.load 31 (.tmp 10)), 31, none⟩,
      ⟨some 12, (.call { callee := (.builtin .len), args := #[(.tmp 11)], argTypes := #[31] }), 3, none⟩,
      ⟨some 13, (.move (.const (.int .i64 0))), 3, none⟩])
    (.blk 0
      (.loop [7]
        (.seq (.rgn [] [⟨some 14, (.binOp .lss 3 (.tmp 13) (.tmp 12) 3), 0, none⟩])
        (.seq (.cond (.tmp 14)
          .skip
          (.exit 0))
        (.seq (.blk 1
          (.seq (.rgn [16] [⟨some 15, (.indexAddr 31 (.tmp 11) (.tmp 13)), 0, none⟩,
            ⟨some 16, (.load 208 (.tmp 15)), 208, none⟩,
            ⟨some 7, (.alloc 208), 0, none⟩,
            ⟨none, (.store 208 (.tmp 7) (.tmp 16)), 0, none⟩])
          (.seq (.rgn [] [⟨some 17, (.fieldAddr 208 (.tmp 7) 0), 0, none⟩,
            ⟨some 18, (.load 9 (.tmp 17)), 9, none⟩,
            ⟨some 19, (.move (.tmp 1)), 9, none⟩,
            ⟨some 20, (.binOp .eql 9 (.tmp 18) (.tmp 19) 9), 4, none⟩])
          (.cond (.tmp 20)
            (.seq (.rgn [] [⟨some 21, (.fieldAddr 208 (.tmp 7) 1), 0, none⟩,
              ⟨some 22, (.load 128 (.tmp 21)), 128, none⟩,
              ⟨some 23, (.call { callee := (.value (.func 175)), args := #[(.tmp 22)], argTypes := #[128] }), 128, none⟩,
              ⟨none, (.store 128 (.tmp 4) (.tmp 23)), 0, none⟩,
              ⟨some 5, (.assign (.const (.bool true))), 4, none⟩])
            .ret)
            .skip))))
        (.rgn [] [⟨some 24, (.binOp .add 3 (.tmp 13) (.const (.int .i64 1)) 3), 3, none⟩,
          ⟨some 13, (.move (.tmp 24)), 3, none⟩])))))))
    .skip))
  (.seq (.rgn [] [⟨some 25, (.build 128 #[]), 128, none⟩,
    ⟨none, (.store 128 (.tmp 4) (.tmp 25)), 0, none⟩,
    ⟨some 5, (.assign (.const (.bool false))), 4, none⟩])
  .ret)))
theorem lit79 : Lit Try.prog 79 26 [2, 4, 7] [.cell 4 128, .tmp 5] c79 := ⟨⟨Try.f79, _, Try.func79, rfl, by kernel_rfl, rfl, rfl, by kernel_rfl, by kernel_rfl⟩, by decide, by kernel_rfl⟩
/-- impl.sameInts -/
def c80 : LC :=
  (.seq (.rgn [] [⟨some 4, (.assign (.const (.bool false))), 4, none⟩])
  (.seq (.seq (.rgn [] [⟨some 6, (.move (.tmp 0)), 25, none⟩,
    ⟨some 7, (.call { callee := (.builtin .len), args := #[(.tmp 6)], argTypes := #[25] }), 3, none⟩,
    ⟨some 8, (.move (.tmp 1)), 25, none⟩,
    ⟨some 9, (.call { callee := (.builtin .len), args := #[(.tmp 8)], argTypes := #[25] }), 3, none⟩,
    ⟨some 10, (.binOp .neq 3 (.tmp 7) (.tmp 9) 3), 4, none⟩])
  (.cond (.tmp 10)
    (.seq (.rgn [] [⟨some 4, (.assign (.const (.bool false))), 4, none⟩])
    .ret)
    .skip))
  (.seq (.seq (.rgn [] [⟨some 11, (.move (.tmp 0)), 25, none⟩,
    ⟨some 12, (.call { callee := (.builtin .len), args := #[(.tmp 11)], argTypes := #[25] }), 3, none⟩,
    ⟨some 13, (.move (.const (.int .i64 0))), 3, none⟩])
  (.blk 0
    (.loop []
      (.seq (.rgn [] [⟨some 14, (.binOp .lss 3 (.tmp 13) (.tmp 12) 3), 0, none⟩])
      (.seq (.cond (.tmp 14)
        .skip
        (.exit 0))
      (.seq (.blk 1
        (.seq (.rgn [] [⟨some 15, (.move (.tmp 13)), 3, none⟩,
          ⟨some 5, (.assign (.tmp 15)), 3, none⟩])
        (.seq (.drw [] [([0], [16]), ([5], [17]), ([16, 17], [18]), ([18], [19]), ([1], [20]), ([5], [21]), ([20, 21], [22]), ([22], [23]), ([19, 23], [24])] [[], [], [0, 1], [2], [], [], [4, 5], [6], [3, 7]] [⟨some 16, (.move (.tmp 0)), 25, none⟩,
          ⟨some 17, (.move (.tmp 5)), 3, none⟩,
          ⟨some 18, (.indexAddr 25 (.tmp 16) (.tmp 17)), 0, none⟩,
          ⟨some 19, (.load 3 (.tmp 18)), 3, none⟩,
          ⟨some 20, (.move (.tmp 1)), 25, none⟩,
          ⟨some 21, (.move (.tmp 5)), 3, none⟩,
          ⟨some 22, (.indexAddr 25 (.tmp 20) (.tmp 21)), 0, none⟩,
          ⟨some 23, (.load 3 (.tmp 22)), 3, none⟩,
          ⟨some 24, (.binOp .neq 3 (.tmp 19) (.tmp 23) 3), 4, none⟩])
        (.cond (.tmp 24)
          (.seq (.rgn [] [⟨some 4, (.assign (.const (.bool false))), 4, none⟩])
          .ret)
          .skip))))
      (.rgn [] [⟨some 25, (.binOp .add 3 (.tmp 13) (.const (.int .i64 1)) 3), 3, none⟩,
        ⟨some 13, (.move (.tmp 25)), 3, none⟩])))))))
  (.seq (.rgn [] [⟨some 4, (.assign (.const (.bool true))), 4, none⟩])
  .ret))))
theorem lit80 : Lit Try.prog 80 26 [] [.tmp 4] c80 := ⟨⟨Try.f80, _, Try.func80, rfl, by kernel_rfl, rfl, rfl, by kernel_rfl, by kernel_rfl⟩, by decide, by kernel_rfl⟩
/-- impl.pick -/
def c81 : LC :=
  (.seq (.rgn [] [⟨some 4, (.assign (.const (.slice none 0 0))), 25, none⟩])
  (.seq (.rgn [] [⟨some 8, (.buildSlice 25 0 #[]), 25, none⟩,
    ⟨some 5, (.assign (.tmp 8)), 25, none⟩])
  (.seq (.seq (.rgn [] [⟨some 9, (.move (.tmp 1)), 25, none⟩,
    ⟨some 10, (.call { callee := (.builtin .len), args := #[(.tmp 9)], argTypes := #[25] }), 3, none⟩,
    ⟨some 11, (.move (.const (.int .i64 0))), 3, none⟩])
  (.blk 0
    (.loop []
      (.seq (.rgn [] [⟨some 12, (.binOp .lss 3 (.tmp 11) (.tmp 10) 3), 0, none⟩])
      (.seq (.cond (.tmp 12)
        .skip
        (.exit 0))
      (.seq (.blk 1
        (.seq (.rgn [] [⟨some 13, (.indexAddr 25 (.tmp 9) (.tmp 11)), 0, none⟩,
          ⟨some 14, (.load 3 (.tmp 13)), 3, none⟩,
          ⟨some 7, (.assign (.tmp 14)), 3, none⟩])
        (.rgn [15] [⟨some 15, (.move (.tmp 5)), 25, none⟩,
          ⟨some 16, (.move (.tmp 0)), 25, none⟩,
          ⟨some 17, (.move (.tmp 7)), 3, none⟩,
          ⟨some 18, (.indexAddr 25 (.tmp 16) (.tmp 17)), 0, none⟩,
          ⟨some 19, (.load 3 (.tmp 18)), 3, none⟩,
          ⟨some 20, (.buildSlice 25 1 #[(0, (.tmp 19))]), 25, none⟩,
          ⟨some 21, (.call { callee := (.builtin .append), args := #[(.tmp 15), (.tmp 20)], argTypes := #[25, 25] }), 25, none⟩,
          ⟨some 5, (.assign (.tmp 21)), 25, none⟩])))
      (.rgn [] [⟨some 22, (.binOp .add 3 (.tmp 11) (.const (.int .i64 1)) 3), 3, none⟩,
        ⟨some 11, (.move (.tmp 22)), 3, none⟩])))))))
  (.seq (.rgn [23] [⟨some 23, (.move (.tmp 5)), 25, none⟩,
    ⟨some 4, (.assign (.tmp 23)), 25, none⟩])
  .ret))))
theorem lit81 : Lit Try.prog 81 24 [] [.tmp 4] c81 := ⟨⟨Try.f81, _, Try.func81, rfl, by kernel_rfl, rfl, rfl, by kernel_rfl, by kernel_rfl⟩, by decide, by kernel_rfl⟩
/-- laws.eqTableS -/
def c82 : LC :=
  (.seq (.rgn [] [⟨some 4, (.assign (.const (.bool false))), 4, none⟩])
  (.seq (.seq (.rgn [] [⟨some 6, (.move (.tmp 0)), 31, none⟩,
    ⟨some 7, (.call { callee := (.builtin .len), args := #[(.tmp 6)], argTypes := #[31] }), 3, none⟩,
    ⟨some 8, (.move (.tmp 1)), 31, none⟩,
    ⟨some 9, (.call { callee := (.builtin .len), args := #[(.tmp 8)], argTypes := #[31] }), 3, none⟩,
    ⟨some 10, (.binOp .neq 3 (.tmp 7) (.tmp 9) 3), 4, none⟩])
  (.cond (.tmp 10)
    (.seq (.rgn [] [⟨some 4, (.assign (.const (.bool false))), 4, none⟩])
    .ret)
    .skip))
  (.seq (.seq (.rgn [] [⟨some 5, (.assign (.const (.int .i64 0))), 3, none⟩])
  (.blk 0
    (.loop []
      (.seq (.seq (.rgn [] [⟨some 11, (.move (.tmp 5)), 3, none⟩,
        ⟨some 12, (.move (.tmp 0)), 31, none⟩,
        ⟨some 13, (.call { callee := (.builtin .len), args := #[(.tmp 12)], argTypes := #[31] }), 3, none⟩,
        ⟨some 14, (.binOp .lss 3 (.tmp 11) (.tmp 13) 3), 4, none⟩])
      (.cond (.tmp 14)
        .skip
        (.exit 0)))
      (.seq (.blk 1
        (.seq (.drw [] [([0], [17]), ([5], [18]), ([17, 18], [19]), ([19], [20]), ([1], [21]), ([5], [22]), ([21, 22], [23]), ([23], [24]), ([20, 24], [25]), ([25], [26])] [[], [], [0, 1], [2], [], [], [4, 5], [6], [3, 7], [8]] [⟨some 17, (.move (.tmp 0)), 31, none⟩,
          ⟨some 18, (.move (.tmp 5)), 3, none⟩,
          ⟨some 19, (.indexAddr 31 (.tmp 17) (.tmp 18)), 0, none⟩,
          ⟨some 20, (.load 208 (.tmp 19)), 208, none⟩,
          ⟨some 21, (.move (.tmp 1)), 31, none⟩,
          ⟨some 22, (.move (.tmp 5)), 3, none⟩,
          ⟨some 23, (.indexAddr 31 (.tmp 21) (.tmp 22)), 0, none⟩,
          ⟨some 24, (.load 208 (.tmp 23)), 208, none⟩,
          ⟨some 25, (.call { callee := (.value (.func 176)), args := #[(.tmp 20), (.tmp 24)], argTypes := #[208, 208] }), 4, none⟩,
          ⟨some 26, (.unOp .not 4 (.tmp 25)), 4, none⟩])
        (.cond (.tmp 26)
          (.seq (.rgn [] [⟨some 4, (.assign (.const (.bool false))), 4, none⟩])
          .ret)
          .skip)))
      (.rgn [] [⟨some 15, (.move (.tmp 5)), 3, none⟩,
        ⟨some 16, (.binOp .add 3 (.tmp 15) (.const (.int .i64 1)) 3), 3, none⟩,
        ⟨some 5, (.assign (.tmp 16)), 3, none⟩]))))))
  (.seq (.rgn [] [⟨some 4, (.assign (.const (.bool true))), 4, none⟩])
  .ret))))
theorem lit82 : Lit Try.prog 82 27 [] [.tmp 4] c82 := ⟨⟨Try.f82, _, Try.func82, rfl, by kernel_rfl, rfl, rfl, by kernel_rfl, by kernel_rfl⟩, by decide, by kernel_rfl⟩
/-- laws.markTableS -/
def c83 : LC :=
  (.seq (.rgn [] [⟨some 4, (.assign (.const (.int .i64 0))), 3, none⟩])
  (.seq (.seq (.rgn [] [⟨some 5, (.assign (.const (.int .i64 0))), 3, none⟩])
  (.blk 0
    (.loop []
      (.seq (.seq (.rgn [] [⟨some 6, (.move (.tmp 5)), 3, none⟩,
        ⟨some 7, (.move (.tmp 0)), 31, none⟩,
        ⟨some 8, (.call { callee := (.builtin .len), args := #[(.tmp 7)], argTypes := #[31] }), 3, none⟩,
        ⟨some 9, (.binOp .lss 3 (.tmp 6) (.tmp 8) 3), 4, none⟩])
      (.cond (.tmp 9)
        .skip
        (.exit 0)))
      (.seq (.blk 1
        (.seq (.rgn [] [⟨some 12, (.move (.tmp 0)), 31, none⟩,
          ⟨some 13, (.move (.tmp 5)), 3, none⟩,
          ⟨some 14, (.move (.tmp 1)), 3, none⟩,
          ⟨some 15, (.call { callee := (.value (.func 177)), args := #[(.tmp 14)], argTypes := #[3] }), 9, none⟩,
          ⟨some 16, (.indexAddr 31 (.tmp 12) (.tmp 13)), 0, none⟩,
          ⟨some 17, (.fieldAddr 208 (.tmp 16) 0), 0, none⟩,
          ⟨none, (.store 9 (.tmp 17) (.tmp 15)), 0, none⟩])
        (.seq (.rgn [] [⟨some 18, (.move (.tmp 1)), 3, none⟩,
          ⟨some 19, (.binOp .add 3 (.tmp 18) (.const (.int .i64 1)) 3), 3, none⟩,
          ⟨some 1, (.assign (.tmp 19)), 3, none⟩])
        (.seq (.rgn [] [⟨some 20, (.move (.tmp 0)), 31, none⟩,
          ⟨some 21, (.move (.tmp 5)), 3, none⟩,
          ⟨some 22, (.move (.tmp 1)), 3, none⟩,
          ⟨some 23, (.indexAddr 31 (.tmp 20) (.tmp 21)), 0, none⟩,
          ⟨some 24, (.fieldAddr 208 (.tmp 23) 1), 0, none⟩,
          ⟨some 25, (.fieldAddr 128 (.tmp 24) 0), 0, none⟩,
          ⟨none, (.store 3 (.tmp 25) (.tmp 22)), 0, none⟩])
        (.seq (.rgn [] [⟨some 26, (.move (.tmp 1)), 3, none⟩,
          ⟨some 27, (.binOp .add 3 (.tmp 26) (.const (.int .i64 1)) 3), 3, none⟩,
          ⟨some 1, (.assign (.tmp 27)), 3, none⟩])
        (.rgn [] [⟨some 28, (.move (.tmp 0)), 31, none⟩,
          ⟨some 29, (.move (.tmp 5)), 3, none⟩,
          ⟨some 30, (.indexAddr 31 (.tmp 28) (.tmp 29)), 0, none⟩,
          ⟨some 31, (.fieldAddr 208 (.tmp 30) 1), 0, none⟩,
          ⟨some 32, (.fieldAddr 128 (.tmp 31) 1), 0, none⟩,
          ⟨some 33, (.load 82 (.tmp 32)), 82, none⟩,
          ⟨some 34, (.move (.tmp 1)), 3, none⟩,
          ⟨some 35, (.call { callee := (.value (.func 178)), args := #[(.tmp 33), (.tmp 34)], argTypes := #[82, 3] }), 3, none⟩,
          ⟨some 1, (.assign (.tmp 35)), 3, none⟩]))))))
      (.rgn [] [⟨some 10, (.move (.tmp 5)), 3, none⟩,
        ⟨some 11, (.binOp .add 3 (.tmp 10) (.const (.int .i64 1)) 3), 3, none⟩,
        ⟨some 5, (.assign (.tmp 11)), 3, none⟩]))))))
  (.seq (.rgn [] [⟨some 36, (.move (.tmp 1)), 3, none⟩,
    ⟨some 4, (.assign (.tmp 36)), 3, none⟩])
  .ret)))
theorem lit83 : Lit Try.prog 83 37 [] [.tmp 4] c83 := ⟨⟨Try.f83, _, Try.func83, rfl, by kernel_rfl, rfl, rfl, by kernel_rfl, by kernel_rfl⟩, by decide, by kernel_rfl⟩
/-- spec.l1In -/
def c86 : LC :=
  (.seq (.rgn [] [⟨some 6, (.assign (.const (.bool false))), 4, none⟩])
  (.seq (.rgn [] [⟨some 7, (.move (.tmp 0)), 3, none⟩,
    ⟨some 8, (.move (.tmp 1)), 3, none⟩,
    ⟨some 9, (.binOp .geq 3 (.tmp 7) (.tmp 8) 3), 4, none⟩,
    ⟨some 10, (.move (.tmp 9)), 4, none⟩,
    ⟨some 11, (.move (.tmp 0)), 3, some (some 10, true)⟩,
    ⟨some 12, (.move (.tmp 2)), 3, some (some 10, true)⟩,
    ⟨some 13, (.binOp .leq 3 (.tmp 11) (.tmp 12) 3), 4, some (some 10, true)⟩,
    ⟨some 14, (.pick (.tmp 10) (.tmp 13) (.const (.bool false))), 4, none⟩,
    ⟨some 6, (.assign (.tmp 14)), 4, none⟩])
  .ret))
theorem lit86 : Lit Try.prog 86 15 [] [.tmp 6] c86 := ⟨⟨Try.f86, _, Try.func86, rfl, by kernel_rfl, rfl, rfl, by kernel_rfl, by kernel_rfl⟩, by decide, by kernel_rfl⟩
/-- impl.within -/
def c90 : LC :=
  (.seq (.rgn [] [⟨some 6, (.assign (.const (.bool false))), 4, none⟩])
  (.seq (.rgn [] [⟨some 7, (.move (.tmp 0)), 3, none⟩,
    ⟨some 8, (.move (.tmp 1)), 3, none⟩,
    ⟨some 9, (.binOp .geq 3 (.tmp 7) (.tmp 8) 3), 4, none⟩,
    ⟨some 10, (.move (.tmp 9)), 4, none⟩,
    ⟨some 11, (.move (.tmp 0)), 3, some (some 10, true)⟩,
    ⟨some 12, (.move (.tmp 2)), 3, some (some 10, true)⟩,
    ⟨some 13, (.binOp .leq 3 (.tmp 11) (.tmp 12) 3), 4, some (some 10, true)⟩,
    ⟨some 14, (.pick (.tmp 10) (.tmp 13) (.const (.bool false))), 4, none⟩,
    ⟨some 6, (.assign (.tmp 14)), 4, none⟩])
  .ret))
theorem lit90 : Lit Try.prog 90 15 [] [.tmp 6] c90 := ⟨⟨Try.f90, _, Try.func90, rfl, by kernel_rfl, rfl, rfl, by kernel_rfl, by kernel_rfl⟩, by decide, by kernel_rfl⟩
/-- spec.IsValidDatabase -/
def c135 : LC :=
  (.seq (.rgn [] [⟨some 1, (.box 33 (.tmp 0)), 0, none⟩,
    ⟨some 2, (.assign (.const (.bool false))), 4, none⟩])
  (.seq (.seq (.rgn [] [⟨some 3, (.assign (.const (.int .i64 0))), 3, none⟩])
  (.blk 0
    (.loop [4]
      (.seq (.seq (.rgn [] [⟨some 5, (.move (.tmp 3)), 3, none⟩,
        ⟨some 6, (.fieldAddr 33 (.tmp 1) 0), 0, none⟩,
        ⟨some 7, (.load 31 (.tmp 6)), 31, none⟩,
        ⟨some 8, (.call { callee := (.builtin .len), args := #[(.tmp 7)], argTypes := #[31] }), 3, none⟩,
        ⟨some 9, (.binOp .lss 3 (.tmp 5) (.tmp 8) 3), 4, none⟩])
      (.cond (.tmp 9)
        .skip
        (.exit 0)))
      (.seq (.blk 1
        (.seq (.rgn [16] [⟨some 12, (.fieldAddr 33 (.tmp 1) 0), 0, none⟩,
          ⟨some 13, (.load 31 (.tmp 12)), 31, none⟩,
          ⟨some 14, (.move (.tmp 3)), 3, none⟩,
          ⟨some 15, (.indexAddr 31 (.tmp 13) (.tmp 14)), 0, none⟩,
          ⟨some 16, (.load 208 (.tmp 15)), 208, none⟩,
          ⟨some 4, (.alloc 208), 0, none⟩,
          ⟨none, (.store 208 (.tmp 4) (.tmp 16)), 0, none⟩])
        (.seq (.drw [] [([4], [17]), ([4, 17], [18]), ([18], [19]), ([19], [20]), ([20], [21]), ([3, 21], [22]), ([21, 22], [23]), ([21, 23], [24]), ([1, 24], [25]), ([1, 24, 25], [26]), ([3, 24], [27]), ([24, 27], [28]), ([24, 26, 28], [29]), ([24, 29], [30]), ([24, 30], [31]), ([4, 24], [32]), ([4, 24, 32], [33]), ([24, 31, 33], [34]), ([21, 24, 34], [35]), ([21, 35], [36]), ([36], [37]), ([4, 37], [38]), ([4, 37, 38], [39]), ([37, 39], [40]), ([37, 40], [41]), ([37, 41], [42]), ([42], [43]), ([4, 43], [44]), ([4, 43, 44], [45]), ([4, 43, 45], [46]), ([43, 46], [47]), ([43, 47], [48]), ([43, 48], [49]), ([49], [50]), ([4, 50], [51]), ([4, 50, 51], [52]), ([4, 50, 52], [53]), ([50, 53], [54]), ([50, 54], [55])] [[], [0], [1], [2], [3, 2], [4], [5, 4], [6, 4, 4], [7], [8, 7], [7], [10, 7], [9, 11, 7], [12, 7], [13, 7], [7], [15, 7], [14, 16, 7], [7, 17, 4], [4, 18], [19, 7], [20], [21, 20], [22, 20, 20], [23, 20], [20, 24], [25, 23], [26], [27, 26], [28, 26], [29, 26], [30, 26], [26, 31], [32, 26], [33], [34, 33], [35, 33], [36, 33], [33, 37]] [⟨some 17, (.fieldAddr 208 (.tmp 4) 0), 0, none⟩,
          ⟨some 18, (.load 9 (.tmp 17)), 9, none⟩,
          ⟨some 19, (.call { callee := (.value (.func 216)), args := #[(.tmp 18)], argTypes := #[9] }), 4, none⟩,
          ⟨some 20, (.unOp .not 4 (.tmp 19)), 4, none⟩,
          ⟨some 21, (.move (.tmp 20)), 4, none⟩,
          ⟨some 22, (.move (.tmp 3)), 3, some (some 21, false)⟩,
          ⟨some 23, (.binOp .gtr 3 (.tmp 22) (.const (.int .i64 0)) 3), 4, some (some 21, false)⟩,
          ⟨some 24, (.move (.tmp 23)), 4, some (some 21, false)⟩,
          ⟨some 25, (.fieldAddr 33 (.tmp 1) 0), 0, some (some 24, true)⟩,
          ⟨some 26, (.load 31 (.tmp 25)), 31, some (some 24, true)⟩,
          ⟨some 27, (.move (.tmp 3)), 3, some (some 24, true)⟩,
          ⟨some 28, (.binOp .sub 3 (.tmp 27) (.const (.int .i64 1)) 3), 3, some (some 24, true)⟩,
          ⟨some 29, (.indexAddr 31 (.tmp 26) (.tmp 28)), 0, some (some 24, true)⟩,
          ⟨some 30, (.fieldAddr 208 (.tmp 29) 0), 0, some (some 24, true)⟩,
          ⟨some 31, (.load 9 (.tmp 30)), 9, some (some 24, true)⟩,
          ⟨some 32, (.fieldAddr 208 (.tmp 4) 0), 0, some (some 24, true)⟩,
          ⟨some 33, (.load 9 (.tmp 32)), 9, some (some 24, true)⟩,
          ⟨some 34, (.binOp .geq 9 (.tmp 31) (.tmp 33) 9), 4, some (some 24, true)⟩,
          ⟨some 35, (.pick (.tmp 24) (.tmp 34) (.const (.bool false))), 4, some (some 21, false)⟩,
          ⟨some 36, (.pick (.tmp 21) (.const (.bool true)) (.tmp 35)), 4, none⟩,
          ⟨some 37, (.move (.tmp 36)), 4, none⟩,
          ⟨some 38, (.fieldAddr 208 (.tmp 4) 1), 0, some (some 37, false)⟩,
          ⟨some 39, (.load 128 (.tmp 38)), 128, some (some 37, false)⟩,
          ⟨some 40, (.call { callee := (.value (.func 217)), args := #[(.tmp 39)], argTypes := #[128] }), 4, some (some 37, false)⟩,
          ⟨some 41, (.unOp .not 4 (.tmp 40)), 4, some (some 37, false)⟩,
          ⟨some 42, (.pick (.tmp 37) (.const (.bool true)) (.tmp 41)), 4, none⟩,
          ⟨some 43, (.move (.tmp 42)), 4, none⟩,
          ⟨some 44, (.fieldAddr 208 (.tmp 4) 1), 0, some (some 43, false)⟩,
          ⟨some 45, (.fieldAddr 128 (.tmp 44) 1), 0, some (some 43, false)⟩,
          ⟨some 46, (.load 82 (.tmp 45)), 82, some (some 43, false)⟩,
          ⟨some 47, (.call { callee := (.builtin .len), args := #[(.tmp 46)], argTypes := #[82] }), 3, some (some 43, false)⟩,
          ⟨some 48, (.binOp .gtr 3 (.tmp 47) (.const (.int .i64 16)) 3), 4, some (some 43, false)⟩,
          ⟨some 49, (.pick (.tmp 43) (.const (.bool true)) (.tmp 48)), 4, none⟩,
          ⟨some 50, (.move (.tmp 49)), 4, none⟩,
          ⟨some 51, (.fieldAddr 208 (.tmp 4) 1), 0, some (some 50, false)⟩,
          ⟨some 52, (.fieldAddr 128 (.tmp 51) 0), 0, some (some 50, false)⟩,
          ⟨some 53, (.load 3 (.tmp 52)), 3, some (some 50, false)⟩,
          ⟨some 54, (.binOp .lss 3 (.tmp 53) (.const (.int .i64 1)) 3), 4, some (some 50, false)⟩,
          ⟨some 55, (.pick (.tmp 50) (.const (.bool true)) (.tmp 54)), 4, none⟩])
        (.cond (.tmp 55)
          (.seq (.rgn [] [⟨some 2, (.assign (.const (.bool false))), 4, none⟩])
          .ret)
          .skip))))
      (.rgn [] [⟨some 10, (.move (.tmp 3)), 3, none⟩,
        ⟨some 11, (.binOp .add 3 (.tmp 10) (.const (.int .i64 1)) 3), 3, none⟩,
        ⟨some 3, (.assign (.tmp 11)), 3, none⟩]))))))
  (.seq (.rgn [] [⟨some 56, (.fieldAddr 33 (.tmp 1) 0), 0, none⟩,
    ⟨some 57, (.load 31 (.tmp 56)), 31, none⟩,
    ⟨some 58, (.call { callee := (.builtin .len), args := #[(.tmp 57)], argTypes := #[31] }), 3, none⟩,
    ⟨some 59, (.binOp .leq 3 (.tmp 58) (.const (.int .i64 6)) 3), 4, none⟩,
    ⟨some 2, (.assign (.tmp 59)), 4, none⟩])
  .ret)))
theorem lit135 : Lit Try.prog 135 60 [1, 4] [.tmp 2] c135 := ⟨⟨Try.f135, _, Try.func135, rfl, by kernel_rfl, rfl, rfl, by kernel_rfl, by kernel_rfl⟩, by decide, by kernel_rfl⟩
/-- impl.IsValidDatabase -/
def c136 : LC :=
  (.seq (.rgn [] [⟨some 1, (.box 33 (.tmp 0)), 0, none⟩,
    ⟨some 2, (.assign (.const (.bool false))), 4, none⟩])
  (.seq (.seq (.rgn [] [⟨some 5, (.fieldAddr 33 (.tmp 1) 0), 0, none⟩,
    ⟨some 6, (.load 31 (.tmp 5)), 31, none⟩,
    ⟨some 7, (.call { callee := (.builtin .len), args := #[(.tmp 6)], argTypes := #[31] }), 3, none⟩,
    ⟨some 8, (.binOp .gtr 3 (.tmp 7) (.const (.int .i64 6)) 3), 4, none⟩])
  (.cond (.tmp 8)
    (.seq (.rgn [] [⟨some 2, (.assign (.const (.bool false))), 4, none⟩])
    .ret)
    .skip))
  (.seq (.seq (.rgn [] [⟨some 9, (.fieldAddr 33 (.tmp 1) 0), 0, none⟩,
    ⟨some 10, (.load 31 (.tmp 9)), 31, none⟩,
    ⟨some 11, (.call { callee := (.builtin .len), args := #[(.tmp 10)], argTypes := #[31] }), 3, none⟩,
    ⟨some 12, (.move (.const (.int .i64 0))), 3, none⟩])
  (.blk 0
    (.loop [4]
      (.seq (.rgn [] [⟨some 13, (.binOp .lss 3 (.tmp 12) (.tmp 11) 3), 0, none⟩])
      (.seq (.cond (.tmp 13)
        .skip
        (.exit 0))
      (.seq (.blk 1
        (.seq (.rgn [16] [⟨some 14, (.move (.tmp 12)), 3, none⟩,
          ⟨some 15, (.indexAddr 31 (.tmp 10) (.tmp 12)), 0, none⟩,
          ⟨some 16, (.load 208 (.tmp 15)), 208, none⟩,
          ⟨some 4, (.alloc 208), 0, none⟩,
          ⟨some 3, (.assign (.tmp 14)), 3, none⟩,
          ⟨none, (.store 208 (.tmp 4) (.tmp 16)), 0, none⟩])
        (.seq (.drw [] [([4], [17]), ([4, 17], [18]), ([18], [19]), ([19], [20]), ([20], [21]), ([3, 21], [22]), ([21, 22], [23]), ([21, 23], [24]), ([1, 24], [25]), ([1, 24, 25], [26]), ([3, 24], [27]), ([24, 27], [28]), ([24, 26, 28], [29]), ([24, 29], [30]), ([24, 30], [31]), ([4, 24], [32]), ([4, 24, 32], [33]), ([24, 31, 33], [34]), ([21, 24, 34], [35]), ([21, 35], [36]), ([36], [37]), ([4, 37], [38]), ([4, 37, 38], [39]), ([37, 39], [40]), ([37, 40], [41]), ([37, 41], [42]), ([42], [43]), ([4, 43], [44]), ([4, 43, 44], [45]), ([4, 43, 45], [46]), ([43, 46], [47]), ([43, 47], [48]), ([48], [49]), ([4, 49], [50]), ([4, 49, 50], [51]), ([4, 49, 51], [52]), ([49, 52], [53]), ([49, 53], [54]), ([49, 54], [55])] [[], [0], [1], [2], [3, 2], [4], [5, 4], [6, 4, 4], [7], [8, 7], [7], [10, 7], [9, 11, 7], [12, 7], [13, 7], [7], [15, 7], [14, 16, 7], [7, 17, 4], [4, 18], [19, 7], [20], [21, 20], [22, 20, 20], [23, 20], [20, 24], [25, 23], [26], [27, 26], [28, 26], [29, 26], [26, 30], [31, 26], [32], [33, 32], [34, 32], [35, 32], [36, 32], [32, 37]] [⟨some 17, (.fieldAddr 208 (.tmp 4) 0), 0, none⟩,
          ⟨some 18, (.load 9 (.tmp 17)), 9, none⟩,
          ⟨some 19, (.call { callee := (.value (.func 218)), args := #[(.tmp 18)], argTypes := #[9] }), 4, none⟩,
          ⟨some 20, (.unOp .not 4 (.tmp 19)), 4, none⟩,
          ⟨some 21, (.move (.tmp 20)), 4, none⟩,
          ⟨some 22, (.move (.tmp 3)), 3, some (some 21, false)⟩,
          ⟨some 23, (.binOp .gtr 3 (.tmp 22) (.const (.int .i64 0)) 3), 4, some (some 21, false)⟩,
          ⟨some 24, (.move (.tmp 23)), 4, some (some 21, false)⟩,
          ⟨some 25, (.fieldAddr 33 (.tmp 1) 0), 0, some (some 24, true)⟩,
          ⟨some 26, (.load 31 (.tmp 25)), 31, some (some 24, true)⟩,
          ⟨some 27, (.move (.tmp 3)), 3, some (some 24, true)⟩,
          ⟨some 28, (.binOp .sub 3 (.tmp 27) (.const (.int .i64 1)) 3), 3, some (some 24, true)⟩,
          ⟨some 29, (.indexAddr 31 (.tmp 26) (.tmp 28)), 0, some (some 24, true)⟩,
          ⟨some 30, (.fieldAddr 208 (.tmp 29) 0), 0, some (some 24, true)⟩,
          ⟨some 31, (.load 9 (.tmp 30)), 9, some (some 24, true)⟩,
          ⟨some 32, (.fieldAddr 208 (.tmp 4) 0), 0, some (some 24, true)⟩,
          ⟨some 33, (.load 9 (.tmp 32)), 9, some (some 24, true)⟩,
          ⟨some 34, (.binOp .geq 9 (.tmp 31) (.tmp 33) 9), 4, some (some 24, true)⟩,
          ⟨some 35, (.pick (.tmp 24) (.tmp 34) (.const (.bool false))), 4, some (some 21, false)⟩,
          ⟨some 36, (.pick (.tmp 21) (.const (.bool true)) (.tmp 35)), 4, none⟩,
          ⟨some 37, (.move (.tmp 36)), 4, none⟩,
          ⟨some 38, (.fieldAddr 208 (.tmp 4) 1), 0, some (some 37, false)⟩,
          ⟨some 39, (.load 128 (.tmp 38)), 128, some (some 37, false)⟩,
          ⟨some 40, (.call { callee := (.value (.func 219)), args := #[(.tmp 39)], argTypes := #[128] }), 4, some (some 37, false)⟩,
          ⟨some 41, (.unOp .not 4 (.tmp 40)), 4, some (some 37, false)⟩,
          ⟨some 42, (.pick (.tmp 37) (.const (.bool true)) (.tmp 41)), 4, none⟩,
          ⟨some 43, (.move (.tmp 42)), 4, none⟩,
          ⟨some 44, (.fieldAddr 208 (.tmp 4) 1), 0, some (some 43, false)⟩,
          ⟨some 45, (.fieldAddr 128 (.tmp 44) 0), 0, some (some 43, false)⟩,
          ⟨some 46, (.load 3 (.tmp 45)), 3, some (some 43, false)⟩,
          ⟨some 47, (.binOp .lss 3 (.tmp 46) (.const (.int .i64 1)) 3), 4, some (some 43, false)⟩,
          ⟨some 48, (.pick (.tmp 43) (.const (.bool true)) (.tmp 47)), 4, none⟩,
          ⟨some 49, (.move (.tmp 48)), 4, none⟩,
          ⟨some 50, (.fieldAddr 208 (.tmp 4) 1), 0, some (some 49, false)⟩,
          ⟨some 51, (.fieldAddr 128 (.tmp 50) 1), 0, some (some 49, false)⟩,
          ⟨some 52, (.load 82 (.tmp 51)), 82, some (some 49, false)⟩,
          ⟨some 53, (.call { callee := (.builtin .len), args := #[(.tmp 52)], argTypes := #[82] }), 3, some (some 49, false)⟩,
          ⟨some 54, (.binOp .gtr 3 (.tmp 53) (.const (.int .i64 16)) 3), 4, some (some 49, false)⟩,
          ⟨some 55, (.pick (.tmp 49) (.const (.bool true)) (.tmp 54)), 4, none⟩])
        (.cond (.tmp 55)
          (.seq (.rgn [] [⟨some 2, (.assign (.const (.bool false))), 4, none⟩])
          .ret)
          .skip))))
      (.rgn [] [⟨some 56, (.binOp .add 3 (.tmp 12) (.const (.int .i64 1)) 3), 3, none⟩,
        ⟨some 12, (.move (.tmp 56)), 3, none⟩])))))))
  (.seq (.rgn [] [⟨some 2, (.assign (.const (.bool true))), 4, none⟩])
  .ret))))
theorem lit136 : Lit Try.prog 136 57 [1, 4] [.tmp 2] c136 := ⟨⟨Try.f136, _, Try.func136, rfl, by kernel_rfl, rfl, rfl, by kernel_rfl, by kernel_rfl⟩, by decide, by kernel_rfl⟩
/-- impl.copyInts -/
def c151 : LC :=
  (.seq (.rgn [] [⟨some 2, (.assign (.const (.slice none 0 0))), 25, none⟩])
  (.seq (.rgn [4] [⟨some 3, (.buildSlice 25 0 #[]), 25, none⟩,
    ⟨some 4, (.move (.tmp 0)), 25, none⟩,
    ⟨some 5, (.call { callee := (.builtin .append), args := #[(.tmp 3), (.tmp 4)], argTypes := #[25, 25] }), 25, none⟩,
    ⟨some 2, (.assign (.tmp 5)), 25, none⟩])
  .ret))
theorem lit151 : Lit Try.prog 151 6 [] [.tmp 2] c151 := ⟨⟨Try.f151, _, Try.func151, rfl, by kernel_rfl, rfl, rfl, by kernel_rfl, by kernel_rfl⟩, by decide, by kernel_rfl⟩
/-- laws.szTable -/
def c171 : LC :=
  (.seq (.rgn [] [⟨some 2, (.box 206 (.tmp 0)), 0, none⟩,
    ⟨some 4, (.assign (.const (.int .i64 0))), 3, none⟩])
  (.seq (.rgn [] [⟨some 5, (.move (.tmp 1)), 3, none⟩,
    ⟨some 6, (.fieldAddr 206 (.tmp 2) 0), 0, none⟩,
    ⟨some 7, (.load 9 (.tmp 6)), 9, none⟩,
    ⟨some 8, (.call { callee := (.builtin .len), args := #[(.tmp 7)], argTypes := #[9] }), 3, none⟩,
    ⟨some 9, (.binOp .sub 3 (.tmp 5) (.tmp 8) 3), 3, none⟩,
    ⟨some 1, (.assign (.tmp 9)), 3, none⟩])
  (.seq (.seq (.rgn [] [⟨some 10, (.move (.tmp 1)), 3, none⟩,
    ⟨some 11, (.binOp .lss 3 (.tmp 10) (.const (.int .i64 0)) 3), 4, none⟩])
  (.cond (.tmp 11)
    (.seq (.rgn [] [⟨some 4, (.assign (.const (.int .i64 (-1)))), 3, none⟩])
    .ret)
    .skip))
  (.seq (.rgn [] [⟨some 12, (.fieldAddr 206 (.tmp 2) 1), 0, none⟩,
    ⟨some 13, (.load 204 (.tmp 12)), 204, none⟩,
    ⟨some 14, (.move (.tmp 1)), 3, none⟩,
    ⟨some 15, (.call { callee := (.value (.func 235)), args := #[(.tmp 13), (.tmp 14)], argTypes := #[204, 3] }), 3, none⟩,
    ⟨some 1, (.assign (.tmp 15)), 3, none⟩])
  (.seq (.seq (.rgn [] [⟨some 16, (.move (.tmp 1)), 3, none⟩,
    ⟨some 17, (.binOp .lss 3 (.tmp 16) (.const (.int .i64 0)) 3), 4, none⟩])
  (.cond (.tmp 17)
    (.seq (.rgn [] [⟨some 4, (.assign (.const (.int .i64 (-1)))), 3, none⟩])
    .ret)
    .skip))
  (.seq (.rgn [] [⟨some 18, (.move (.tmp 1)), 3, none⟩,
    ⟨some 4, (.assign (.tmp 18)), 3, none⟩])
  .ret))))))
theorem lit171 : Lit Try.prog 171 19 [2] [.tmp 4] c171 := ⟨⟨Try.f171, _, Try.func171, rfl, by kernel_rfl, rfl, rfl, by kernel_rfl, by kernel_rfl⟩, by decide, by kernel_rfl⟩
/-- spec.l5Copy -/
def c172 : LC :=
  (.seq (.rgn [] [⟨some 1, (.box 128 (.tmp 0)), 0, none⟩,
    ⟨some 2, (.alloc 128), 0, none⟩])
  (.seq (.rgn [] [⟨some 5, (.fieldAddr 128 (.tmp 1) 0), 0, none⟩,
    ⟨some 6, (.load 3 (.tmp 5)), 3, none⟩,
    ⟨some 7, (.build 128 #[(0, (.tmp 6))]), 128, none⟩,
    ⟨some 3, (.alloc 128), 0, none⟩,
    ⟨none, (.store 128 (.tmp 3) (.tmp 7)), 0, none⟩])
  (.seq (.seq (.rgn [] [⟨some 4, (.assign (.const (.int .i64 0))), 3, none⟩])
  (.blk 0
    (.loop []
      (.seq (.seq (.rgn [] [⟨some 8, (.move (.tmp 4)), 3, none⟩,
        ⟨some 9, (.fieldAddr 128 (.tmp 1) 1), 0, none⟩,
        ⟨some 10, (.load 82 (.tmp 9)), 82, none⟩,
        ⟨some 11, (.call { callee := (.builtin .len), args := #[(.tmp 10)], argTypes := #[82] }), 3, none⟩,
        ⟨some 12, (.binOp .lss 3 (.tmp 8) (.tmp 11) 3), 4, none⟩])
      (.cond (.tmp 12)
        .skip
        (.exit 0)))
      (.seq (.blk 1
        (.drw [16, 22] [([3], [15]), ([3, 15], [3, 15, 16]), ([], [17]), ([1], [18]), ([1, 18], [19]), ([4], [20]), ([19, 20], [21]), ([21], [21, 22]), ([17, 22], [17, 22, 23]), ([23], [23, 24]), ([16, 24], [16, 24, 25]), ([3], [26]), ([3, 25, 26], [3, 25, 26])] [[], [0], [], [], [3], [], [4, 5], [6], [2, 7], [8], [1, 9, 8], [0, 1, 2, 3, 4, 5, 6, 7, 8, 9, 10], [11, 10, 10, 0, 1, 2, 3, 4, 5, 6, 7, 8, 9, 10]] [⟨some 15, (.fieldAddr 128 (.tmp 3) 1), 0, none⟩,
          ⟨some 16, (.load 82 (.tmp 15)), 82, none⟩,
          ⟨some 17, (.buildSlice 25 0 #[]), 25, none⟩,
          ⟨some 18, (.fieldAddr 128 (.tmp 1) 1), 0, none⟩,
          ⟨some 19, (.load 82 (.tmp 18)), 82, none⟩,
          ⟨some 20, (.move (.tmp 4)), 3, none⟩,
          ⟨some 21, (.indexAddr 82 (.tmp 19) (.tmp 20)), 0, none⟩,
          ⟨some 22, (.load 25 (.tmp 21)), 25, none⟩,
          ⟨some 23, (.call { callee := (.builtin .append), args := #[(.tmp 17), (.tmp 22)], argTypes := #[25, 25] }), 25, none⟩,
          ⟨some 24, (.buildSlice 82 1 #[(0, (.tmp 23))]), 82, none⟩,
          ⟨some 25, (.call { callee := (.builtin .append), args := #[(.tmp 16), (.tmp 24)], argTypes := #[82, 82] }), 82, none⟩,
          ⟨some 26, (.fieldAddr 128 (.tmp 3) 1), 0, none⟩,
          ⟨none, (.store 82 (.tmp 26) (.tmp 25)), 0, none⟩]))
      (.rgn [] [⟨some 13, (.move (.tmp 4)), 3, none⟩,
        ⟨some 14, (.binOp .add 3 (.tmp 13) (.const (.int .i64 1)) 3), 3, none⟩,
        ⟨some 4, (.assign (.tmp 14)), 3, none⟩]))))))
  (.seq (.rgn [27] [⟨some 27, (.load 128 (.tmp 3)), 128, none⟩,
    ⟨none, (.store 128 (.tmp 2) (.tmp 27)), 0, none⟩])
  .ret))))
theorem lit172 : Lit Try.prog 172 28 [1, 2, 3] [.cell 2 128] c172 := ⟨⟨Try.f172, _, Try.func172, rfl, by kernel_rfl, rfl, rfl, by kernel_rfl, by kernel_rfl⟩, by decide, by kernel_rfl⟩
/-- laws.toTable -/
def c173 : LC :=
  (.seq (.rgn [] [⟨some 1, (.box 206 (.tmp 0)), 0, none⟩,
    ⟨some 2, (.alloc 208), 0, none⟩])
  (.seq (.rgn [] [⟨some 3, (.alloc 208), 0, none⟩])
  (.seq (.rgn [] [⟨some 4, (.fieldAddr 206 (.tmp 1) 0), 0, none⟩,
    ⟨some 5, (.load 9 (.tmp 4)), 9, none⟩,
    ⟨some 6, (.fieldAddr 208 (.tmp 3) 0), 0, none⟩,
    ⟨none, (.store 9 (.tmp 6) (.tmp 5)), 0, none⟩])
  (.seq (.rgn [] [⟨some 7, (.fieldAddr 206 (.tmp 1) 1), 0, none⟩,
    ⟨some 8, (.load 204 (.tmp 7)), 204, none⟩,
    ⟨some 9, (.call { callee := (.value (.func 236)), args := #[(.tmp 8)], argTypes := #[204] }), 128, none⟩,
    ⟨some 10, (.fieldAddr 208 (.tmp 3) 1), 0, none⟩,
    ⟨none, (.store 128 (.tmp 10) (.tmp 9)), 0, none⟩])
  (.seq (.rgn [11] [⟨some 11, (.load 208 (.tmp 3)), 208, none⟩,
    ⟨none, (.store 208 (.tmp 2) (.tmp 11)), 0, none⟩])
  .ret)))))
theorem lit173 : Lit Try.prog 173 12 [1, 2, 3] [.cell 2 208] c173 := ⟨⟨Try.f173, _, Try.func173, rfl, by kernel_rfl, rfl, rfl, by kernel_rfl, by kernel_rfl⟩, by decide, by kernel_rfl⟩
/-- impl.IsStrictlyAscending -/
def c174 : LC :=
  (.seq (.rgn [] [⟨some 2, (.assign (.const (.bool false))), 4, none⟩])
  (.seq (.seq (.rgn [] [⟨some 3, (.assign (.const (.int .i64 1))), 3, none⟩])
  (.blk 0
    (.loop []
      (.seq (.seq (.rgn [] [⟨some 4, (.move (.tmp 3)), 3, none⟩,
        ⟨some 5, (.move (.tmp 0)), 25, none⟩,
        ⟨some 6, (.call { callee := (.builtin .len), args := #[(.tmp 5)], argTypes := #[25] }), 3, none⟩,
        ⟨some 7, (.binOp .lss 3 (.tmp 4) (.tmp 6) 3), 4, none⟩])
      (.cond (.tmp 7)
        .skip
        (.exit 0)))
      (.seq (.blk 1
        (.seq (.drw [] [([0], [10]), ([3], [11]), ([11], [12]), ([10, 12], [13]), ([13], [14]), ([0], [15]), ([3], [16]), ([15, 16], [17]), ([17], [18]), ([14, 18], [19])] [[], [], [1], [0, 2], [3], [], [], [5, 6], [7], [4, 8]] [⟨some 10, (.move (.tmp 0)), 25, none⟩,
          ⟨some 11, (.move (.tmp 3)), 3, none⟩,
          ⟨some 12, (.binOp .sub 3 (.tmp 11) (.const (.int .i64 1)) 3), 3, none⟩,
          ⟨some 13, (.indexAddr 25 (.tmp 10) (.tmp 12)), 0, none⟩,
          ⟨some 14, (.load 3 (.tmp 13)), 3, none⟩,
          ⟨some 15, (.move (.tmp 0)), 25, none⟩,
          ⟨some 16, (.move (.tmp 3)), 3, none⟩,
          ⟨some 17, (.indexAddr 25 (.tmp 15) (.tmp 16)), 0, none⟩,
          ⟨some 18, (.load 3 (.tmp 17)), 3, none⟩,
          ⟨some 19, (.binOp .geq 3 (.tmp 14) (.tmp 18) 3), 4, none⟩])
        (.cond (.tmp 19)
          (.seq (.rgn [] [⟨some 2, (.assign (.const (.bool false))), 4, none⟩])
          .ret)
          .skip)))
      (.rgn [] [⟨some 8, (.move (.tmp 3)), 3, none⟩,
        ⟨some 9, (.binOp .add 3 (.tmp 8) (.const (.int .i64 1)) 3), 3, none⟩,
        ⟨some 3, (.assign (.tmp 9)), 3, none⟩]))))))
  (.seq (.rgn [] [⟨some 2, (.assign (.const (.bool true))), 4, none⟩])
  .ret)))
theorem lit174 : Lit Try.prog 174 20 [] [.tmp 2] c174 := ⟨⟨Try.f174, _, Try.func174, rfl, by kernel_rfl, rfl, rfl, by kernel_rfl, by kernel_rfl⟩, by decide, by kernel_rfl⟩
/-- impl.copyRelation -/
def c175 : LC :=
  (.seq (.rgn [] [⟨some 1, (.box 128 (.tmp 0)), 0, none⟩,
    ⟨some 2, (.alloc 128), 0, none⟩])
  (.seq (.drw [] [([1], [3]), ([1, 3], [4]), ([1], [5]), ([1, 5], [6]), ([6], [7]), ([4, 7], [4, 7, 8]), ([2, 8], [2, 8])] [[], [0], [], [2], [3], [1, 4], [5, 4, 0, 1, 2, 3, 4, 5]] [⟨some 3, (.fieldAddr 128 (.tmp 1) 0), 0, none⟩,
    ⟨some 4, (.load 3 (.tmp 3)), 3, none⟩,
    ⟨some 5, (.fieldAddr 128 (.tmp 1) 1), 0, none⟩,
    ⟨some 6, (.load 82 (.tmp 5)), 82, none⟩,
    ⟨some 7, (.call { callee := (.value (.func 237)), args := #[(.tmp 6)], argTypes := #[82] }), 82, none⟩,
    ⟨some 8, (.build 128 #[(0, (.tmp 4)), (1, (.tmp 7))]), 128, none⟩,
    ⟨none, (.store 128 (.tmp 2) (.tmp 8)), 0, none⟩])
  .ret))
theorem lit175 : Lit Try.prog 175 9 [1, 2] [.cell 2 128] c175 := ⟨⟨Try.f175, _, Try.func175, rfl, by kernel_rfl, rfl, rfl, by kernel_rfl, by kernel_rfl⟩, by decide, by kernel_rfl⟩
/-- laws.eqTable -/
def c176 : LC :=
  (.seq (.rgn [] [⟨some 2, (.box 208 (.tmp 0)), 0, none⟩,
    ⟨some 3, (.box 208 (.tmp 1)), 0, none⟩,
    ⟨some 4, (.assign (.const (.bool false))), 4, none⟩])
  (.seq (.seq (.rgn [] [⟨some 5, (.fieldAddr 208 (.tmp 2) 0), 0, none⟩,
    ⟨some 6, (.load 9 (.tmp 5)), 9, none⟩,
    ⟨some 7, (.fieldAddr 208 (.tmp 3) 0), 0, none⟩,
    ⟨some 8, (.load 9 (.tmp 7)), 9, none⟩,
    ⟨some 9, (.binOp .neq 9 (.tmp 6) (.tmp 8) 9), 4, none⟩])
  (.cond (.tmp 9)
    (.seq (.rgn [] [⟨some 4, (.assign (.const (.bool false))), 4, none⟩])
    .ret)
    .skip))
  (.seq (.seq (.rgn [] [⟨some 10, (.fieldAddr 208 (.tmp 2) 1), 0, none⟩,
    ⟨some 11, (.load 128 (.tmp 10)), 128, none⟩,
    ⟨some 12, (.fieldAddr 208 (.tmp 3) 1), 0, none⟩,
    ⟨some 13, (.load 128 (.tmp 12)), 128, none⟩,
    ⟨some 14, (.call { callee := (.value (.func 238)), args := #[(.tmp 11), (.tmp 13)], argTypes := #[128, 128] }), 4, none⟩,
    ⟨some 15, (.unOp .not 4 (.tmp 14)), 4, none⟩])
  (.cond (.tmp 15)
    (.seq (.rgn [] [⟨some 4, (.assign (.const (.bool false))), 4, none⟩])
    .ret)
    .skip))
  (.seq (.rgn [] [⟨some 4, (.assign (.const (.bool true))), 4, none⟩])
  .ret))))
theorem lit176 : Lit Try.prog 176 16 [2, 3] [.tmp 4] c176 := ⟨⟨Try.f176, _, Try.func176, rfl, by kernel_rfl, rfl, rfl, by kernel_rfl, by kernel_rfl⟩, by decide, by kernel_rfl⟩
/-- laws.markText -/
def c177 : LC :=
  (.seq (.rgn [] [⟨some 2, (.assign (.const (.string { data := #[] }))), 9, none⟩])
  (.seq (.seq (.rgn [] [⟨some 4, (.move (.tmp 0)), 3, none⟩,
    ⟨some 5, (.binOp .leq 3 (.tmp 4) (.const (.int .i64 0)) 3), 4, none⟩])
  (.cond (.tmp 5)
    (.seq (.rgn [] [⟨some 2, (.assign (.const (.string { data := #[109, 48] }))), 9, none⟩])
    .ret)
    .skip))
  (.seq (.rgn [] [⟨some 3, (.assign (.const (.string { data := #[] }))), 9, none⟩])
  (.seq (.blk 0
    (.loop []
      (.seq (.seq (.rgn [] [⟨some 6, (.move (.tmp 0)), 3, none⟩,
        ⟨some 7, (.binOp .gtr 3 (.tmp 6) (.const (.int .i64 0)) 3), 4, none⟩])
      (.cond (.tmp 7)
        .skip
        (.exit 0)))
      (.blk 1
        (.seq (.rgn [] [⟨some 8, (.move (.tmp 0)), 3, none⟩,
          ⟨some 9, (.binOp .rem 3 (.tmp 8) (.const (.int .i64 10)) 3), 3, none⟩,
          ⟨some 10, (.binOp .add 3 (.const (.int .i64 48)) (.tmp 9) 3), 3, none⟩,
          ⟨some 11, (.convert 3 5 (.tmp 10)), 5, none⟩,
          ⟨some 12, (.buildSlice 254 1 #[(0, (.tmp 11))]), 254, none⟩,
          ⟨some 13, (.convert 254 9 (.tmp 12)), 9, none⟩,
          ⟨some 14, (.move (.tmp 3)), 9, none⟩,
          ⟨some 15, (.binOp .add 9 (.tmp 13) (.tmp 14) 9), 9, none⟩,
          ⟨some 3, (.assign (.tmp 15)), 9, none⟩])
        (.rgn [] [⟨some 16, (.move (.tmp 0)), 3, none⟩,
          ⟨some 17, (.binOp .quo 3 (.tmp 16) (.const (.int .i64 10)) 3), 3, none⟩,
          ⟨some 0, (.assign (.tmp 17)), 3, none⟩]))))))
  (.seq (.rgn [] [⟨some 18, (.move (.tmp 3)), 9, none⟩,
    ⟨some 19, (.binOp .add 9 (.const (.string { data := #[109] })) (.tmp 18) 9), 9, none⟩,
    ⟨some 2, (.assign (.tmp 19)), 9, none⟩])
  .ret)))))
theorem lit177 : Lit Try.prog 177 20 [] [.tmp 2] c177 := ⟨⟨Try.f177, _, Try.func177, rfl, by kernel_rfl, rfl, rfl, by kernel_rfl, by kernel_rfl⟩, by decide, by kernel_rfl⟩
/-- laws.markIntSS -/
def c178 : LC :=
  (.seq (.rgn [] [⟨some 4, (.assign (.const (.int .i64 0))), 3, none⟩])
  (.seq (.seq (.rgn [] [⟨some 5, (.assign (.const (.int .i64 0))), 3, none⟩])
  (.blk 0
    (.loop []
      (.seq (.seq (.rgn [] [⟨some 6, (.move (.tmp 5)), 3, none⟩,
        ⟨some 7, (.move (.tmp 0)), 82, none⟩,
        ⟨some 8, (.call { callee := (.builtin .len), args := #[(.tmp 7)], argTypes := #[82] }), 3, none⟩,
        ⟨some 9, (.binOp .lss 3 (.tmp 6) (.tmp 8) 3), 4, none⟩])
      (.cond (.tmp 9)
        .skip
        (.exit 0)))
      (.seq (.blk 1
        (.rgn [] [⟨some 12, (.move (.tmp 0)), 82, none⟩,
          ⟨some 13, (.move (.tmp 5)), 3, none⟩,
          ⟨some 14, (.indexAddr 82 (.tmp 12) (.tmp 13)), 0, none⟩,
          ⟨some 15, (.load 25 (.tmp 14)), 25, none⟩,
          ⟨some 16, (.move (.tmp 1)), 3, none⟩,
          ⟨some 17, (.call { callee := (.value (.func 24)), args := #[(.tmp 15), (.tmp 16)], argTypes := #[25, 3] }), 3, none⟩,
          ⟨some 1, (.assign (.tmp 17)), 3, none⟩]))
      (.rgn [] [⟨some 10, (.move (.tmp 5)), 3, none⟩,
        ⟨some 11, (.binOp .add 3 (.tmp 10) (.const (.int .i64 1)) 3), 3, none⟩,
        ⟨some 5, (.assign (.tmp 11)), 3, none⟩]))))))
  (.seq (.rgn [] [⟨some 18, (.move (.tmp 1)), 3, none⟩,
    ⟨some 4, (.assign (.tmp 18)), 3, none⟩])
  .ret)))
theorem lit178 : Lit Try.prog 178 19 [] [.tmp 4] c178 := ⟨⟨Try.f178, _, Try.func178, rfl, by kernel_rfl, rfl, rfl, by kernel_rfl, by kernel_rfl⟩, by decide, by kernel_rfl⟩
/-- laws.szIntSS -/
def c199 : LC :=
  (.seq (.rgn [] [⟨some 4, (.assign (.const (.int .i64 0))), 3, none⟩])
  (.seq (.rgn [] [⟨some 6, (.move (.tmp 1)), 3, none⟩,
    ⟨some 7, (.move (.tmp 0)), 82, none⟩,
    ⟨some 8, (.call { callee := (.builtin .len), args := #[(.tmp 7)], argTypes := #[82] }), 3, none⟩,
    ⟨some 9, (.binOp .sub 3 (.tmp 6) (.tmp 8) 3), 3, none⟩,
    ⟨some 1, (.assign (.tmp 9)), 3, none⟩])
  (.seq (.seq (.rgn [] [⟨some 10, (.move (.tmp 1)), 3, none⟩,
    ⟨some 11, (.binOp .lss 3 (.tmp 10) (.const (.int .i64 0)) 3), 4, none⟩])
  (.cond (.tmp 11)
    (.seq (.rgn [] [⟨some 4, (.assign (.const (.int .i64 (-1)))), 3, none⟩])
    .ret)
    .skip))
  (.seq (.seq (.rgn [] [⟨some 5, (.assign (.const (.int .i64 0))), 3, none⟩])
  (.blk 0
    (.loop []
      (.seq (.seq (.rgn [] [⟨some 12, (.move (.tmp 5)), 3, none⟩,
        ⟨some 13, (.move (.tmp 0)), 82, none⟩,
        ⟨some 14, (.call { callee := (.builtin .len), args := #[(.tmp 13)], argTypes := #[82] }), 3, none⟩,
        ⟨some 15, (.binOp .lss 3 (.tmp 12) (.tmp 14) 3), 4, none⟩])
      (.cond (.tmp 15)
        .skip
        (.exit 0)))
      (.seq (.blk 1
        (.seq (.rgn [] [⟨some 18, (.move (.tmp 0)), 82, none⟩,
          ⟨some 19, (.move (.tmp 5)), 3, none⟩,
          ⟨some 20, (.indexAddr 82 (.tmp 18) (.tmp 19)), 0, none⟩,
          ⟨some 21, (.load 25 (.tmp 20)), 25, none⟩,
          ⟨some 22, (.move (.tmp 1)), 3, none⟩,
          ⟨some 23, (.call { callee := (.value (.func 72)), args := #[(.tmp 21), (.tmp 22)], argTypes := #[25, 3] }), 3, none⟩,
          ⟨some 1, (.assign (.tmp 23)), 3, none⟩])
        (.seq (.rgn [] [⟨some 24, (.move (.tmp 1)), 3, none⟩,
          ⟨some 25, (.binOp .lss 3 (.tmp 24) (.const (.int .i64 0)) 3), 4, none⟩])
        (.cond (.tmp 25)
          (.seq (.rgn [] [⟨some 4, (.assign (.const (.int .i64 (-1)))), 3, none⟩])
          .ret)
          .skip))))
      (.rgn [] [⟨some 16, (.move (.tmp 5)), 3, none⟩,
        ⟨some 17, (.binOp .add 3 (.tmp 16) (.const (.int .i64 1)) 3), 3, none⟩,
        ⟨some 5, (.assign (.tmp 17)), 3, none⟩]))))))
  (.seq (.rgn [] [⟨some 26, (.move (.tmp 1)), 3, none⟩,
    ⟨some 4, (.assign (.tmp 26)), 3, none⟩])
  .ret)))))
theorem lit199 : Lit Try.prog 199 27 [] [.tmp 4] c199 := ⟨⟨Try.f199, _, Try.func199, rfl, by kernel_rfl, rfl, rfl, by kernel_rfl, by kernel_rfl⟩, by decide, by kernel_rfl⟩
/-- laws.toIntSS -/
def c208 : LC :=
  (.seq (.rgn [] [⟨some 2, (.assign (.const (.slice none 0 0))), 82, none⟩])
  (.seq (.rgn [3, 7] [⟨some 5, (.move (.tmp 0)), 82, none⟩,
    ⟨some 6, (.call { callee := (.builtin .len), args := #[(.tmp 5)], argTypes := #[82] }), 3, none⟩,
    ⟨some 7, (.makeSlice 82 (.tmp 6) (.tmp 6)), 82, none⟩,
    ⟨some 3, (.assign (.tmp 7)), 82, none⟩])
  (.seq (.seq (.rgn [] [⟨some 4, (.assign (.const (.int .i64 0))), 3, none⟩])
  (.blk 0
    (.loop []
      (.seq (.seq (.rgn [] [⟨some 8, (.move (.tmp 4)), 3, none⟩,
        ⟨some 9, (.move (.tmp 0)), 82, none⟩,
        ⟨some 10, (.call { callee := (.builtin .len), args := #[(.tmp 9)], argTypes := #[82] }), 3, none⟩,
        ⟨some 11, (.binOp .lss 3 (.tmp 8) (.tmp 10) 3), 4, none⟩])
      (.cond (.tmp 11)
        .skip
        (.exit 0)))
      (.seq (.blk 1
        (.rgn [] [⟨some 14, (.move (.tmp 3)), 82, none⟩,
          ⟨some 15, (.move (.tmp 4)), 3, none⟩,
          ⟨some 16, (.move (.tmp 0)), 82, none⟩,
          ⟨some 17, (.move (.tmp 4)), 3, none⟩,
          ⟨some 18, (.indexAddr 82 (.tmp 16) (.tmp 17)), 0, none⟩,
          ⟨some 19, (.load 25 (.tmp 18)), 25, none⟩,
          ⟨some 20, (.call { callee := (.value (.func 58)), args := #[(.tmp 19)], argTypes := #[25] }), 25, none⟩,
          ⟨some 21, (.indexAddr 82 (.tmp 14) (.tmp 15)), 0, none⟩,
          ⟨none, (.store 25 (.tmp 21) (.tmp 20)), 0, none⟩]))
      (.rgn [] [⟨some 12, (.move (.tmp 4)), 3, none⟩,
        ⟨some 13, (.binOp .add 3 (.tmp 12) (.const (.int .i64 1)) 3), 3, none⟩,
        ⟨some 4, (.assign (.tmp 13)), 3, none⟩]))))))
  (.seq (.rgn [22] [⟨some 22, (.move (.tmp 3)), 82, none⟩,
    ⟨some 2, (.assign (.tmp 22)), 82, none⟩])
  .ret))))
theorem lit208 : Lit Try.prog 208 23 [3, 7] [.tmp 2] c208 := ⟨⟨Try.f208, _, Try.func208, rfl, by kernel_rfl, rfl, rfl, by kernel_rfl, by kernel_rfl⟩, by decide, by kernel_rfl⟩
/-- laws.eqIntSS -/
def c215 : LC :=
  (.seq (.rgn [] [⟨some 4, (.assign (.const (.bool false))), 4, none⟩])
  (.seq (.seq (.rgn [] [⟨some 6, (.move (.tmp 0)), 82, none⟩,
    ⟨some 7, (.call { callee := (.builtin .len), args := #[(.tmp 6)], argTypes := #[82] }), 3, none⟩,
    ⟨some 8, (.move (.tmp 1)), 82, none⟩,
    ⟨some 9, (.call { callee := (.builtin .len), args := #[(.tmp 8)], argTypes := #[82] }), 3, none⟩,
    ⟨some 10, (.binOp .neq 3 (.tmp 7) (.tmp 9) 3), 4, none⟩])
  (.cond (.tmp 10)
    (.seq (.rgn [] [⟨some 4, (.assign (.const (.bool false))), 4, none⟩])
    .ret)
    .skip))
  (.seq (.seq (.rgn [] [⟨some 5, (.assign (.const (.int .i64 0))), 3, none⟩])
  (.blk 0
    (.loop []
      (.seq (.seq (.rgn [] [⟨some 11, (.move (.tmp 5)), 3, none⟩,
        ⟨some 12, (.move (.tmp 0)), 82, none⟩,
        ⟨some 13, (.call { callee := (.builtin .len), args := #[(.tmp 12)], argTypes := #[82] }), 3, none⟩,
        ⟨some 14, (.binOp .lss 3 (.tmp 11) (.tmp 13) 3), 4, none⟩])
      (.cond (.tmp 14)
        .skip
        (.exit 0)))
      (.seq (.blk 1
        (.seq (.drw [] [([0], [17]), ([5], [18]), ([17, 18], [19]), ([19], [20]), ([1], [21]), ([5], [22]), ([21, 22], [23]), ([23], [24]), ([20, 24], [25]), ([25], [26])] [[], [], [0, 1], [2], [], [], [4, 5], [6], [3, 7], [8]] [⟨some 17, (.move (.tmp 0)), 82, none⟩,
          ⟨some 18, (.move (.tmp 5)), 3, none⟩,
          ⟨some 19, (.indexAddr 82 (.tmp 17) (.tmp 18)), 0, none⟩,
          ⟨some 20, (.load 25 (.tmp 19)), 25, none⟩,
          ⟨some 21, (.move (.tmp 1)), 82, none⟩,
          ⟨some 22, (.move (.tmp 5)), 3, none⟩,
          ⟨some 23, (.indexAddr 82 (.tmp 21) (.tmp 22)), 0, none⟩,
          ⟨some 24, (.load 25 (.tmp 23)), 25, none⟩,
          ⟨some 25, (.call { callee := (.value (.func 19)), args := #[(.tmp 20), (.tmp 24)], argTypes := #[25, 25] }), 4, none⟩,
          ⟨some 26, (.unOp .not 4 (.tmp 25)), 4, none⟩])
        (.cond (.tmp 26)
          (.seq (.rgn [] [⟨some 4, (.assign (.const (.bool false))), 4, none⟩])
          .ret)
          .skip)))
      (.rgn [] [⟨some 15, (.move (.tmp 5)), 3, none⟩,
        ⟨some 16, (.binOp .add 3 (.tmp 15) (.const (.int .i64 1)) 3), 3, none⟩,
        ⟨some 5, (.assign (.tmp 16)), 3, none⟩]))))))
  (.seq (.rgn [] [⟨some 4, (.assign (.const (.bool true))), 4, none⟩])
  .ret))))
theorem lit215 : Lit Try.prog 215 27 [] [.tmp 4] c215 := ⟨⟨Try.f215, _, Try.func215, rfl, by kernel_rfl, rfl, rfl, by kernel_rfl, by kernel_rfl⟩, by decide, by kernel_rfl⟩
/-- spec.IsValidName -/
def c216 : LC :=
  (.seq (.rgn [] [⟨some 2, (.assign (.const (.bool false))), 4, none⟩])
  (.seq (.seq (.rgn [] [⟨some 3, (.assign (.const (.int .i64 0))), 3, none⟩])
  (.blk 0
    (.loop []
      (.seq (.seq (.rgn [] [⟨some 4, (.move (.tmp 3)), 3, none⟩,
        ⟨some 5, (.move (.tmp 0)), 9, none⟩,
        ⟨some 6, (.call { callee := (.builtin .len), args := #[(.tmp 5)], argTypes := #[9] }), 3, none⟩,
        ⟨some 7, (.binOp .lss 3 (.tmp 4) (.tmp 6) 3), 4, none⟩])
      (.cond (.tmp 7)
        .skip
        (.exit 0)))
      (.seq (.blk 1
        (.seq (.rgn [] [⟨some 10, (.move (.tmp 0)), 9, none⟩,
          ⟨some 11, (.move (.tmp 3)), 3, none⟩,
          ⟨some 12, (.index 9 (.tmp 10) (.tmp 11)), 5, none⟩,
          ⟨some 13, (.binOp .lss 5 (.tmp 12) (.const (.int .u8 97)) 5), 4, none⟩,
          ⟨some 14, (.move (.tmp 13)), 4, none⟩,
          ⟨some 15, (.move (.tmp 0)), 9, some (some 14, false)⟩,
          ⟨some 16, (.move (.tmp 3)), 3, some (some 14, false)⟩,
          ⟨some 17, (.index 9 (.tmp 15) (.tmp 16)), 5, some (some 14, false)⟩,
          ⟨some 18, (.binOp .gtr 5 (.tmp 17) (.const (.int .u8 122)) 5), 4, some (some 14, false)⟩,
          ⟨some 19, (.pick (.tmp 14) (.const (.bool true)) (.tmp 18)), 4, none⟩])
        (.cond (.tmp 19)
          (.seq (.rgn [] [⟨some 2, (.assign (.const (.bool false))), 4, none⟩])
          .ret)
          .skip)))
      (.rgn [] [⟨some 8, (.move (.tmp 3)), 3, none⟩,
        ⟨some 9, (.binOp .add 3 (.tmp 8) (.const (.int .i64 1)) 3), 3, none⟩,
        ⟨some 3, (.assign (.tmp 9)), 3, none⟩]))))))
  (.seq (.rgn [] [⟨some 20, (.move (.tmp 0)), 9, none⟩,
    ⟨some 21, (.call { callee := (.builtin .len), args := #[(.tmp 20)], argTypes := #[9] }), 3, none⟩,
    ⟨some 22, (.call { callee := (.value (.func 86)), args := #[(.tmp 21), (.const (.int .i64 1)), (.const (.int .i64 4))], argTypes := #[3, 3, 3] }), 4, none⟩,
    ⟨some 2, (.assign (.tmp 22)), 4, none⟩])
  .ret)))
theorem lit216 : Lit Try.prog 216 23 [] [.tmp 2] c216 := ⟨⟨Try.f216, _, Try.func216, rfl, by kernel_rfl, rfl, rfl, by kernel_rfl, by kernel_rfl⟩, by decide, by kernel_rfl⟩
/-- spec.IsValidRelation -/
def c217 : LC :=
  (.seq (.rgn [] [⟨some 1, (.box 128 (.tmp 0)), 0, none⟩,
    ⟨some 2, (.assign (.const (.bool false))), 4, none⟩])
  (.seq (.seq (.rgn [] [⟨some 4, (.fieldAddr 128 (.tmp 1) 0), 0, none⟩,
    ⟨some 5, (.load 3 (.tmp 4)), 3, none⟩,
    ⟨some 6, (.call { callee := (.value (.func 86)), args := #[(.tmp 5), (.const (.int .i64 0)), (.const (.int .i64 5))], argTypes := #[3, 3, 3] }), 4, none⟩,
    ⟨some 7, (.unOp .not 4 (.tmp 6)), 4, none⟩,
    ⟨some 8, (.move (.tmp 7)), 4, none⟩,
    ⟨some 9, (.fieldAddr 128 (.tmp 1) 1), 0, some (some 8, false)⟩,
    ⟨some 10, (.load 82 (.tmp 9)), 82, some (some 8, false)⟩,
    ⟨some 11, (.call { callee := (.builtin .len), args := #[(.tmp 10)], argTypes := #[82] }), 3, some (some 8, false)⟩,
    ⟨some 12, (.binOp .gtr 3 (.tmp 11) (.const (.int .i64 4000)) 3), 4, some (some 8, false)⟩,
    ⟨some 13, (.pick (.tmp 8) (.const (.bool true)) (.tmp 12)), 4, none⟩])
  (.cond (.tmp 13)
    (.seq (.rgn [] [⟨some 2, (.assign (.const (.bool false))), 4, none⟩])
    .ret)
    .skip))
  (.seq (.seq (.rgn [] [⟨some 3, (.assign (.const (.int .i64 0))), 3, none⟩])
  (.blk 0
    (.loop []
      (.seq (.seq (.rgn [] [⟨some 14, (.move (.tmp 3)), 3, none⟩,
        ⟨some 15, (.fieldAddr 128 (.tmp 1) 1), 0, none⟩,
        ⟨some 16, (.load 82 (.tmp 15)), 82, none⟩,
        ⟨some 17, (.call { callee := (.builtin .len), args := #[(.tmp 16)], argTypes := #[82] }), 3, none⟩,
        ⟨some 18, (.binOp .lss 3 (.tmp 14) (.tmp 17) 3), 4, none⟩])
      (.cond (.tmp 18)
        .skip
        (.exit 0)))
      (.seq (.blk 1
        (.seq (.drw [] [([1], [21]), ([1, 21], [22]), ([3], [23]), ([22, 23], [24]), ([24], [25]), ([25], [26]), ([1], [27]), ([1, 27], [28]), ([26, 28], [29]), ([29], [30]), ([1, 30], [31]), ([1, 30, 31], [32]), ([3, 30], [33]), ([30, 32, 33], [34]), ([30, 34], [35]), ([30, 35], [36]), ([30, 36], [37]), ([30, 37], [38]), ([38], [39]), ([3, 39], [40]), ([39, 40], [41]), ([39, 41], [42]), ([1, 42], [43]), ([1, 42, 43], [44]), ([3, 42], [45]), ([42, 45], [46]), ([42, 44, 46], [47]), ([42, 47], [48]), ([1, 42], [49]), ([1, 42, 49], [50]), ([3, 42], [51]), ([42, 50, 51], [52]), ([42, 52], [53]), ([42, 48, 53], [54]), ([42, 54], [55]), ([39, 42, 55], [56]), ([39, 56], [57])] [[], [0], [], [1, 2], [3], [4], [], [6], [5, 7], [8], [9], [10, 9], [9], [11, 12, 9], [13, 9], [14, 9, 9], [15, 9], [9, 16], [17, 15], [18], [19, 18], [20, 18, 18], [21], [22, 21], [21], [24, 21], [23, 25, 21], [26, 21], [21], [28, 21], [21], [29, 30, 21], [31, 21], [27, 32, 21, 21], [33, 21], [21, 34, 18], [18, 35]] [⟨some 21, (.fieldAddr 128 (.tmp 1) 1), 0, none⟩,
          ⟨some 22, (.load 82 (.tmp 21)), 82, none⟩,
          ⟨some 23, (.move (.tmp 3)), 3, none⟩,
          ⟨some 24, (.indexAddr 82 (.tmp 22) (.tmp 23)), 0, none⟩,
          ⟨some 25, (.load 25 (.tmp 24)), 25, none⟩,
          ⟨some 26, (.call { callee := (.builtin .len), args := #[(.tmp 25)], argTypes := #[25] }), 3, none⟩,
          ⟨some 27, (.fieldAddr 128 (.tmp 1) 0), 0, none⟩,
          ⟨some 28, (.load 3 (.tmp 27)), 3, none⟩,
          ⟨some 29, (.binOp .neq 3 (.tmp 26) (.tmp 28) 3), 4, none⟩,
          ⟨some 30, (.move (.tmp 29)), 4, none⟩,
          ⟨some 31, (.fieldAddr 128 (.tmp 1) 1), 0, some (some 30, false)⟩,
          ⟨some 32, (.load 82 (.tmp 31)), 82, some (some 30, false)⟩,
          ⟨some 33, (.move (.tmp 3)), 3, some (some 30, false)⟩,
          ⟨some 34, (.indexAddr 82 (.tmp 32) (.tmp 33)), 0, some (some 30, false)⟩,
          ⟨some 35, (.load 25 (.tmp 34)), 25, some (some 30, false)⟩,
          ⟨some 36, (.call { callee := (.value (.func 242)), args := #[(.tmp 35)], argTypes := #[25] }), 4, some (some 30, false)⟩,
          ⟨some 37, (.unOp .not 4 (.tmp 36)), 4, some (some 30, false)⟩,
          ⟨some 38, (.pick (.tmp 30) (.const (.bool true)) (.tmp 37)), 4, none⟩,
          ⟨some 39, (.move (.tmp 38)), 4, none⟩,
          ⟨some 40, (.move (.tmp 3)), 3, some (some 39, false)⟩,
          ⟨some 41, (.binOp .gtr 3 (.tmp 40) (.const (.int .i64 0)) 3), 4, some (some 39, false)⟩,
          ⟨some 42, (.move (.tmp 41)), 4, some (some 39, false)⟩,
          ⟨some 43, (.fieldAddr 128 (.tmp 1) 1), 0, some (some 42, true)⟩,
          ⟨some 44, (.load 82 (.tmp 43)), 82, some (some 42, true)⟩,
          ⟨some 45, (.move (.tmp 3)), 3, some (some 42, true)⟩,
          ⟨some 46, (.binOp .sub 3 (.tmp 45) (.const (.int .i64 1)) 3), 3, some (some 42, true)⟩,
          ⟨some 47, (.indexAddr 82 (.tmp 44) (.tmp 46)), 0, some (some 42, true)⟩,
          ⟨some 48, (.load 25 (.tmp 47)), 25, some (some 42, true)⟩,
          ⟨some 49, (.fieldAddr 128 (.tmp 1) 1), 0, some (some 42, true)⟩,
          ⟨some 50, (.load 82 (.tmp 49)), 82, some (some 42, true)⟩,
          ⟨some 51, (.move (.tmp 3)), 3, some (some 42, true)⟩,
          ⟨some 52, (.indexAddr 82 (.tmp 50) (.tmp 51)), 0, some (some 42, true)⟩,
          ⟨some 53, (.load 25 (.tmp 52)), 25, some (some 42, true)⟩,
          ⟨some 54, (.call { callee := (.value (.func 75)), args := #[(.tmp 48), (.tmp 53)], argTypes := #[25, 25] }), 3, some (some 42, true)⟩,
          ⟨some 55, (.binOp .geq 3 (.tmp 54) (.const (.int .i64 0)) 3), 4, some (some 42, true)⟩,
          ⟨some 56, (.pick (.tmp 42) (.tmp 55) (.const (.bool false))), 4, some (some 39, false)⟩,
          ⟨some 57, (.pick (.tmp 39) (.const (.bool true)) (.tmp 56)), 4, none⟩])
        (.cond (.tmp 57)
          (.seq (.rgn [] [⟨some 2, (.assign (.const (.bool false))), 4, none⟩])
          .ret)
          .skip)))
      (.rgn [] [⟨some 19, (.move (.tmp 3)), 3, none⟩,
        ⟨some 20, (.binOp .add 3 (.tmp 19) (.const (.int .i64 1)) 3), 3, none⟩,
        ⟨some 3, (.assign (.tmp 20)), 3, none⟩]))))))
  (.seq (.rgn [] [⟨some 2, (.assign (.const (.bool true))), 4, none⟩])
  .ret))))
theorem lit217 : Lit Try.prog 217 58 [1] [.tmp 2] c217 := ⟨⟨Try.f217, _, Try.func217, rfl, by kernel_rfl, rfl, rfl, by kernel_rfl, by kernel_rfl⟩, by decide, by kernel_rfl⟩
/-- impl.IsValidName -/
def c218 : LC :=
  (.seq (.rgn [] [⟨some 2, (.assign (.const (.bool false))), 4, none⟩])
  (.seq (.rgn [] [⟨some 3, (.move (.tmp 0)), 9, none⟩,
    ⟨some 4, (.call { callee := (.value (.func 243)), args := #[(.tmp 3), (.const (.int .i64 4))], argTypes := #[9, 3] }), 4, none⟩,
    ⟨some 2, (.assign (.tmp 4)), 4, none⟩])
  .ret))
theorem lit218 : Lit Try.prog 218 5 [] [.tmp 2] c218 := ⟨⟨Try.f218, _, Try.func218, rfl, by kernel_rfl, rfl, rfl, by kernel_rfl, by kernel_rfl⟩, by decide, by kernel_rfl⟩
/-- impl.IsValidRelation -/
def c219 : LC :=
  (.seq (.rgn [] [⟨some 1, (.box 128 (.tmp 0)), 0, none⟩,
    ⟨some 2, (.assign (.const (.bool false))), 4, none⟩])
  (.seq (.rgn [] [⟨some 3, (.fieldAddr 128 (.tmp 1) 0), 0, none⟩,
    ⟨some 4, (.load 3 (.tmp 3)), 3, none⟩,
    ⟨some 5, (.fieldAddr 128 (.tmp 1) 1), 0, none⟩,
    ⟨some 6, (.load 82 (.tmp 5)), 82, none⟩,
    ⟨some 7, (.call { callee := (.value (.func 244)), args := #[(.tmp 4), (.tmp 6)], argTypes := #[3, 82] }), 4, none⟩,
    ⟨some 2, (.assign (.tmp 7)), 4, none⟩])
  .ret))
theorem lit219 : Lit Try.prog 219 8 [1] [.tmp 2] c219 := ⟨⟨Try.f219, _, Try.func219, rfl, by kernel_rfl, rfl, rfl, by kernel_rfl, by kernel_rfl⟩, by decide, by kernel_rfl⟩
/-- laws.szRelation -/
def c235 : LC :=
  (.seq (.rgn [] [⟨some 2, (.box 204 (.tmp 0)), 0, none⟩,
    ⟨some 4, (.assign (.const (.int .i64 0))), 3, none⟩])
  (.seq (.rgn [] [⟨some 5, (.fieldAddr 204 (.tmp 2) 1), 0, none⟩,
    ⟨some 6, (.load 82 (.tmp 5)), 82, none⟩,
    ⟨some 7, (.move (.tmp 1)), 3, none⟩,
    ⟨some 8, (.call { callee := (.value (.func 199)), args := #[(.tmp 6), (.tmp 7)], argTypes := #[82, 3] }), 3, none⟩,
    ⟨some 1, (.assign (.tmp 8)), 3, none⟩])
  (.seq (.seq (.rgn [] [⟨some 9, (.move (.tmp 1)), 3, none⟩,
    ⟨some 10, (.binOp .lss 3 (.tmp 9) (.const (.int .i64 0)) 3), 4, none⟩])
  (.cond (.tmp 10)
    (.seq (.rgn [] [⟨some 4, (.assign (.const (.int .i64 (-1)))), 3, none⟩])
    .ret)
    .skip))
  (.seq (.rgn [] [⟨some 11, (.move (.tmp 1)), 3, none⟩,
    ⟨some 4, (.assign (.tmp 11)), 3, none⟩])
  .ret))))
theorem lit235 : Lit Try.prog 235 12 [2] [.tmp 4] c235 := ⟨⟨Try.f235, _, Try.func235, rfl, by kernel_rfl, rfl, rfl, by kernel_rfl, by kernel_rfl⟩, by decide, by kernel_rfl⟩
/-- laws.toRelation -/
def c236 : LC :=
  (.seq (.rgn [] [⟨some 1, (.box 204 (.tmp 0)), 0, none⟩,
    ⟨some 2, (.alloc 128), 0, none⟩])
  (.seq (.rgn [] [⟨some 3, (.alloc 128), 0, none⟩])
  (.seq (.rgn [] [⟨some 4, (.fieldAddr 204 (.tmp 1) 0), 0, none⟩,
    ⟨some 5, (.load 3 (.tmp 4)), 3, none⟩,
    ⟨some 6, (.fieldAddr 128 (.tmp 3) 0), 0, none⟩,
    ⟨none, (.store 3 (.tmp 6) (.tmp 5)), 0, none⟩])
  (.seq (.rgn [] [⟨some 7, (.fieldAddr 204 (.tmp 1) 1), 0, none⟩,
    ⟨some 8, (.load 82 (.tmp 7)), 82, none⟩,
    ⟨some 9, (.call { callee := (.value (.func 208)), args := #[(.tmp 8)], argTypes := #[82] }), 82, none⟩,
    ⟨some 10, (.fieldAddr 128 (.tmp 3) 1), 0, none⟩,
    ⟨none, (.store 82 (.tmp 10) (.tmp 9)), 0, none⟩])
  (.seq (.rgn [11] [⟨some 11, (.load 128 (.tmp 3)), 128, none⟩,
    ⟨none, (.store 128 (.tmp 2) (.tmp 11)), 0, none⟩])
  .ret)))))
theorem lit236 : Lit Try.prog 236 12 [1, 2, 3] [.cell 2 128] c236 := ⟨⟨Try.f236, _, Try.func236, rfl, by kernel_rfl, rfl, rfl, by kernel_rfl, by kernel_rfl⟩, by decide, by kernel_rfl⟩
/-- impl.copyRows -/
def c237 : LC :=
  (.seq (.rgn [] [⟨some 2, (.assign (.const (.slice none 0 0))), 82, none⟩])
  (.seq (.rgn [] [⟨some 3, (.assign (.const (.slice none 0 0))), 82, none⟩])
  (.seq (.seq (.rgn [] [⟨some 6, (.move (.tmp 0)), 82, none⟩,
    ⟨some 7, (.call { callee := (.builtin .len), args := #[(.tmp 6)], argTypes := #[82] }), 3, none⟩,
    ⟨some 8, (.move (.const (.int .i64 0))), 3, none⟩])
  (.blk 0
    (.loop []
      (.seq (.rgn [] [⟨some 9, (.binOp .lss 3 (.tmp 8) (.tmp 7) 3), 0, none⟩])
      (.seq (.cond (.tmp 9)
        .skip
        (.exit 0))
      (.seq (.blk 1
        (.seq (.rgn [11] [⟨some 10, (.indexAddr 82 (.tmp 6) (.tmp 8)), 0, none⟩,
          ⟨some 11, (.load 25 (.tmp 10)), 25, none⟩,
          ⟨some 5, (.assign (.tmp 11)), 25, none⟩])
        (.rgn [12] [⟨some 12, (.move (.tmp 3)), 82, none⟩,
          ⟨some 13, (.move (.tmp 5)), 25, none⟩,
          ⟨some 14, (.call { callee := (.value (.func 151)), args := #[(.tmp 13)], argTypes := #[25] }), 25, none⟩,
          ⟨some 15, (.buildSlice 82 1 #[(0, (.tmp 14))]), 82, none⟩,
          ⟨some 16, (.call { callee := (.builtin .append), args := #[(.tmp 12), (.tmp 15)], argTypes := #[82, 82] }), 82, none⟩,
          ⟨some 3, (.assign (.tmp 16)), 82, none⟩])))
      (.rgn [] [⟨some 17, (.binOp .add 3 (.tmp 8) (.const (.int .i64 1)) 3), 3, none⟩,
        ⟨some 8, (.move (.tmp 17)), 3, none⟩])))))))
  (.seq (.rgn [18] [⟨some 18, (.move (.tmp 3)), 82, none⟩,
    ⟨some 2, (.assign (.tmp 18)), 82, none⟩])
  .ret))))
theorem lit237 : Lit Try.prog 237 19 [] [.tmp 2] c237 := ⟨⟨Try.f237, _, Try.func237, rfl, by kernel_rfl, rfl, rfl, by kernel_rfl, by kernel_rfl⟩, by decide, by kernel_rfl⟩
/-- laws.eqRelation -/
def c238 : LC :=
  (.seq (.rgn [] [⟨some 2, (.box 128 (.tmp 0)), 0, none⟩,
    ⟨some 3, (.box 128 (.tmp 1)), 0, none⟩,
    ⟨some 4, (.assign (.const (.bool false))), 4, none⟩])
  (.seq (.seq (.rgn [] [⟨some 5, (.fieldAddr 128 (.tmp 2) 0), 0, none⟩,
    ⟨some 6, (.load 3 (.tmp 5)), 3, none⟩,
    ⟨some 7, (.fieldAddr 128 (.tmp 3) 0), 0, none⟩,
    ⟨some 8, (.load 3 (.tmp 7)), 3, none⟩,
    ⟨some 9, (.binOp .neq 3 (.tmp 6) (.tmp 8) 3), 4, none⟩])
  (.cond (.tmp 9)
    (.seq (.rgn [] [⟨some 4, (.assign (.const (.bool false))), 4, none⟩])
    .ret)
    .skip))
  (.seq (.seq (.rgn [] [⟨some 10, (.fieldAddr 128 (.tmp 2) 1), 0, none⟩,
    ⟨some 11, (.load 82 (.tmp 10)), 82, none⟩,
    ⟨some 12, (.fieldAddr 128 (.tmp 3) 1), 0, none⟩,
    ⟨some 13, (.load 82 (.tmp 12)), 82, none⟩,
    ⟨some 14, (.call { callee := (.value (.func 215)), args := #[(.tmp 11), (.tmp 13)], argTypes := #[82, 82] }), 4, none⟩,
    ⟨some 15, (.unOp .not 4 (.tmp 14)), 4, none⟩])
  (.cond (.tmp 15)
    (.seq (.rgn [] [⟨some 4, (.assign (.const (.bool false))), 4, none⟩])
    .ret)
    .skip))
  (.seq (.rgn [] [⟨some 4, (.assign (.const (.bool true))), 4, none⟩])
  .ret))))
theorem lit238 : Lit Try.prog 238 16 [2, 3] [.tmp 4] c238 := ⟨⟨Try.f238, _, Try.func238, rfl, by kernel_rfl, rfl, rfl, by kernel_rfl, by kernel_rfl⟩, by decide, by kernel_rfl⟩
/-- spec.AreValidValues -/
def c242 : LC :=
  (.seq (.rgn [] [⟨some 2, (.assign (.const (.bool false))), 4, none⟩])
  (.seq (.seq (.rgn [] [⟨some 3, (.assign (.const (.int .i64 0))), 3, none⟩])
  (.blk 0
    (.loop []
      (.seq (.seq (.rgn [] [⟨some 4, (.move (.tmp 3)), 3, none⟩,
        ⟨some 5, (.move (.tmp 0)), 25, none⟩,
        ⟨some 6, (.call { callee := (.builtin .len), args := #[(.tmp 5)], argTypes := #[25] }), 3, none⟩,
        ⟨some 7, (.binOp .lss 3 (.tmp 4) (.tmp 6) 3), 4, none⟩])
      (.cond (.tmp 7)
        .skip
        (.exit 0)))
      (.seq (.blk 1
        (.seq (.rgn [] [⟨some 10, (.move (.tmp 0)), 25, none⟩,
          ⟨some 11, (.move (.tmp 3)), 3, none⟩,
          ⟨some 12, (.indexAddr 25 (.tmp 10) (.tmp 11)), 0, none⟩,
          ⟨some 13, (.load 3 (.tmp 12)), 3, none⟩,
          ⟨some 14, (.call { callee := (.value (.func 86)), args := #[(.tmp 13), (.const (.int .i64 0)), (.const (.int .i64 99))], argTypes := #[3, 3, 3] }), 4, none⟩,
          ⟨some 15, (.unOp .not 4 (.tmp 14)), 4, none⟩])
        (.cond (.tmp 15)
          (.seq (.rgn [] [⟨some 2, (.assign (.const (.bool false))), 4, none⟩])
          .ret)
          .skip)))
      (.rgn [] [⟨some 8, (.move (.tmp 3)), 3, none⟩,
        ⟨some 9, (.binOp .add 3 (.tmp 8) (.const (.int .i64 1)) 3), 3, none⟩,
        ⟨some 3, (.assign (.tmp 9)), 3, none⟩]))))))
  (.seq (.rgn [] [⟨some 2, (.assign (.const (.bool true))), 4, none⟩])
  .ret)))
theorem lit242 : Lit Try.prog 242 16 [] [.tmp 2] c242 := ⟨⟨Try.f242, _, Try.func242, rfl, by kernel_rfl, rfl, rfl, by kernel_rfl, by kernel_rfl⟩, by decide, by kernel_rfl⟩
/-- impl.isLetters -/
def c243 : LC :=
  (.seq (.rgn [] [⟨some 4, (.assign (.const (.bool false))), 4, none⟩])
  (.seq (.seq (.rgn [] [⟨some 6, (.move (.tmp 0)), 9, none⟩,
    ⟨some 7, (.call { callee := (.builtin .len), args := #[(.tmp 6)], argTypes := #[9] }), 3, none⟩,
    ⟨some 8, (.binOp .lss 3 (.tmp 7) (.const (.int .i64 1)) 3), 4, none⟩,
    ⟨some 9, (.move (.tmp 8)), 4, none⟩,
    ⟨some 10, (.move (.tmp 0)), 9, some (some 9, false)⟩,
    ⟨some 11, (.call { callee := (.builtin .len), args := #[(.tmp 10)], argTypes := #[9] }), 3, some (some 9, false)⟩,
    ⟨some 12, (.move (.tmp 1)), 3, some (some 9, false)⟩,
    ⟨some 13, (.binOp .gtr 3 (.tmp 11) (.tmp 12) 3), 4, some (some 9, false)⟩,
    ⟨some 14, (.pick (.tmp 9) (.const (.bool true)) (.tmp 13)), 4, none⟩])
  (.cond (.tmp 14)
    (.seq (.rgn [] [⟨some 4, (.assign (.const (.bool false))), 4, none⟩])
    .ret)
    .skip))
  (.seq (.seq (.rgn [] [⟨some 5, (.assign (.const (.int .i64 0))), 3, none⟩])
  (.blk 0
    (.loop []
      (.seq (.seq (.rgn [] [⟨some 15, (.move (.tmp 5)), 3, none⟩,
        ⟨some 16, (.move (.tmp 0)), 9, none⟩,
        ⟨some 17, (.call { callee := (.builtin .len), args := #[(.tmp 16)], argTypes := #[9] }), 3, none⟩,
        ⟨some 18, (.binOp .lss 3 (.tmp 15) (.tmp 17) 3), 4, none⟩])
      (.cond (.tmp 18)
        .skip
        (.exit 0)))
      (.seq (.blk 1
        (.seq (.rgn [] [⟨some 21, (.move (.tmp 0)), 9, none⟩,
          ⟨some 22, (.move (.tmp 5)), 3, none⟩,
          ⟨some 23, (.index 9 (.tmp 21) (.tmp 22)), 5, none⟩,
          ⟨some 24, (.binOp .lss 5 (.tmp 23) (.const (.int .u8 97)) 5), 4, none⟩,
          ⟨some 25, (.move (.tmp 24)), 4, none⟩,
          ⟨some 26, (.move (.tmp 0)), 9, some (some 25, false)⟩,
          ⟨some 27, (.move (.tmp 5)), 3, some (some 25, false)⟩,
          ⟨some 28, (.index 9 (.tmp 26) (.tmp 27)), 5, some (some 25, false)⟩,
          ⟨some 29, (.binOp .gtr 5 (.tmp 28) (.const (.int .u8 122)) 5), 4, some (some 25, false)⟩,
          ⟨some 30, (.pick (.tmp 25) (.const (.bool true)) (.tmp 29)), 4, none⟩])
        (.cond (.tmp 30)
          (.seq (.rgn [] [⟨some 4, (.assign (.const (.bool false))), 4, none⟩])
          .ret)
          .skip)))
      (.rgn [] [⟨some 19, (.move (.tmp 5)), 3, none⟩,
        ⟨some 20, (.binOp .add 3 (.tmp 19) (.const (.int .i64 1)) 3), 3, none⟩,
        ⟨some 5, (.assign (.tmp 20)), 3, none⟩]))))))
  (.seq (.rgn [] [⟨some 4, (.assign (.const (.bool true))), 4, none⟩])
  .ret))))
theorem lit243 : Lit Try.prog 243 31 [] [.tmp 4] c243 := ⟨⟨Try.f243, _, Try.func243, rfl, by kernel_rfl, rfl, rfl, by kernel_rfl, by kernel_rfl⟩, by decide, by kernel_rfl⟩
/-- impl.rowsValid -/
def c244 : LC :=
  (.seq (.rgn [] [⟨some 4, (.assign (.const (.bool false))), 4, none⟩])
  (.seq (.seq (.rgn [] [⟨some 7, (.move (.tmp 0)), 3, none⟩,
    ⟨some 8, (.call { callee := (.value (.func 90)), args := #[(.tmp 7), (.const (.int .i64 0)), (.const (.int .i64 5))], argTypes := #[3, 3, 3] }), 4, none⟩,
    ⟨some 9, (.unOp .not 4 (.tmp 8)), 4, none⟩,
    ⟨some 10, (.move (.tmp 9)), 4, none⟩,
    ⟨some 11, (.move (.tmp 1)), 82, some (some 10, false)⟩,
    ⟨some 12, (.call { callee := (.builtin .len), args := #[(.tmp 11)], argTypes := #[82] }), 3, some (some 10, false)⟩,
    ⟨some 13, (.binOp .gtr 3 (.tmp 12) (.const (.int .i64 4000)) 3), 4, some (some 10, false)⟩,
    ⟨some 14, (.pick (.tmp 10) (.const (.bool true)) (.tmp 13)), 4, none⟩])
  (.cond (.tmp 14)
    (.seq (.rgn [] [⟨some 4, (.assign (.const (.bool false))), 4, none⟩])
    .ret)
    .skip))
  (.seq (.seq (.rgn [] [⟨some 15, (.move (.tmp 1)), 82, none⟩,
    ⟨some 16, (.call { callee := (.builtin .len), args := #[(.tmp 15)], argTypes := #[82] }), 3, none⟩,
    ⟨some 17, (.move (.const (.int .i64 0))), 3, none⟩])
  (.blk 0
    (.loop []
      (.seq (.rgn [] [⟨some 18, (.binOp .lss 3 (.tmp 17) (.tmp 16) 3), 0, none⟩])
      (.seq (.cond (.tmp 18)
        .skip
        (.exit 0))
      (.seq (.blk 1
        (.seq (.rgn [21] [⟨some 19, (.move (.tmp 17)), 3, none⟩,
          ⟨some 20, (.indexAddr 82 (.tmp 15) (.tmp 17)), 0, none⟩,
          ⟨some 21, (.load 25 (.tmp 20)), 25, none⟩,
          ⟨some 5, (.assign (.tmp 19)), 3, none⟩,
          ⟨some 6, (.assign (.tmp 21)), 25, none⟩])
        (.seq (.rgn [] [⟨some 22, (.move (.tmp 6)), 25, none⟩,
          ⟨some 23, (.call { callee := (.builtin .len), args := #[(.tmp 22)], argTypes := #[25] }), 3, none⟩,
          ⟨some 24, (.move (.tmp 0)), 3, none⟩,
          ⟨some 25, (.binOp .neq 3 (.tmp 23) (.tmp 24) 3), 4, none⟩,
          ⟨some 26, (.move (.tmp 25)), 4, none⟩,
          ⟨some 27, (.move (.tmp 6)), 25, some (some 26, false)⟩,
          ⟨some 28, (.call { callee := (.value (.func 258)), args := #[(.tmp 27)], argTypes := #[25] }), 4, some (some 26, false)⟩,
          ⟨some 29, (.unOp .not 4 (.tmp 28)), 4, some (some 26, false)⟩,
          ⟨some 30, (.pick (.tmp 26) (.const (.bool true)) (.tmp 29)), 4, none⟩,
          ⟨some 31, (.move (.tmp 30)), 4, none⟩,
          ⟨some 32, (.move (.tmp 5)), 3, some (some 31, false)⟩,
          ⟨some 33, (.binOp .gtr 3 (.tmp 32) (.const (.int .i64 0)) 3), 4, some (some 31, false)⟩,
          ⟨some 34, (.move (.tmp 33)), 4, some (some 31, false)⟩,
          ⟨some 35, (.move (.tmp 1)), 82, some (some 34, true)⟩,
          ⟨some 36, (.move (.tmp 5)), 3, some (some 34, true)⟩,
          ⟨some 37, (.binOp .sub 3 (.tmp 36) (.const (.int .i64 1)) 3), 3, some (some 34, true)⟩,
          ⟨some 38, (.indexAddr 82 (.tmp 35) (.tmp 37)), 0, some (some 34, true)⟩,
          ⟨some 39, (.load 25 (.tmp 38)), 25, some (some 34, true)⟩,
          ⟨some 40, (.move (.tmp 6)), 25, some (some 34, true)⟩,
          ⟨some 41, (.call { callee := (.value (.func 255)), args := #[(.tmp 39), (.tmp 40)], argTypes := #[25, 25] }), 3, some (some 34, true)⟩,
          ⟨some 42, (.binOp .geq 3 (.tmp 41) (.const (.int .i64 0)) 3), 4, some (some 34, true)⟩,
          ⟨some 43, (.pick (.tmp 34) (.tmp 42) (.const (.bool false))), 4, some (some 31, false)⟩,
          ⟨some 44, (.pick (.tmp 31) (.const (.bool true)) (.tmp 43)), 4, none⟩])
        (.cond (.tmp 44)
          (.seq (.rgn [] [⟨some 4, (.assign (.const (.bool false))), 4, none⟩])
          .ret)
          .skip))))
      (.rgn [] [⟨some 45, (.binOp .add 3 (.tmp 17) (.const (.int .i64 1)) 3), 3, none⟩,
        ⟨some 17, (.move (.tmp 45)), 3, none⟩])))))))
  (.seq (.rgn [] [⟨some 4, (.assign (.const (.bool true))), 4, none⟩])
  .ret))))
theorem lit244 : Lit Try.prog 244 46 [] [.tmp 4] c244 := ⟨⟨Try.f244, _, Try.func244, rfl, by kernel_rfl, rfl, rfl, by kernel_rfl, by kernel_rfl⟩, by decide, by kernel_rfl⟩
/-- impl.CompareRows -/
def c255 : LC :=
  (.seq (.rgn [] [⟨some 4, (.assign (.const (.int .i64 0))), 3, none⟩])
  (.seq (.seq (.rgn [] [⟨some 5, (.assign (.const (.int .i64 0))), 3, none⟩])
  (.blk 0
    (.loop []
      (.seq (.seq (.rgn [] [⟨some 6, (.move (.tmp 5)), 3, none⟩,
        ⟨some 7, (.move (.tmp 0)), 25, none⟩,
        ⟨some 8, (.call { callee := (.builtin .len), args := #[(.tmp 7)], argTypes := #[25] }), 3, none⟩,
        ⟨some 9, (.binOp .lss 3 (.tmp 6) (.tmp 8) 3), 4, none⟩,
        ⟨some 10, (.move (.tmp 9)), 4, none⟩,
        ⟨some 11, (.move (.tmp 5)), 3, some (some 10, true)⟩,
        ⟨some 12, (.move (.tmp 1)), 25, some (some 10, true)⟩,
        ⟨some 13, (.call { callee := (.builtin .len), args := #[(.tmp 12)], argTypes := #[25] }), 3, some (some 10, true)⟩,
        ⟨some 14, (.binOp .lss 3 (.tmp 11) (.tmp 13) 3), 4, some (some 10, true)⟩,
        ⟨some 15, (.pick (.tmp 10) (.tmp 14) (.const (.bool false))), 4, none⟩])
      (.cond (.tmp 15)
        .skip
        (.exit 0)))
      (.seq (.blk 1
        (.seq (.drw [] [([0], [18]), ([5], [19]), ([18, 19], [20]), ([20], [21]), ([1], [22]), ([5], [23]), ([22, 23], [24]), ([24], [25]), ([21, 25], [26])] [[], [], [0, 1], [2], [], [], [4, 5], [6], [3, 7]] [⟨some 18, (.move (.tmp 0)), 25, none⟩,
          ⟨some 19, (.move (.tmp 5)), 3, none⟩,
          ⟨some 20, (.indexAddr 25 (.tmp 18) (.tmp 19)), 0, none⟩,
          ⟨some 21, (.load 3 (.tmp 20)), 3, none⟩,
          ⟨some 22, (.move (.tmp 1)), 25, none⟩,
          ⟨some 23, (.move (.tmp 5)), 3, none⟩,
          ⟨some 24, (.indexAddr 25 (.tmp 22) (.tmp 23)), 0, none⟩,
          ⟨some 25, (.load 3 (.tmp 24)), 3, none⟩,
          ⟨some 26, (.binOp .neq 3 (.tmp 21) (.tmp 25) 3), 4, none⟩])
        (.cond (.tmp 26)
          (.seq (.drw [] [([0], [27]), ([5], [28]), ([27, 28], [29]), ([29], [30]), ([1], [31]), ([5], [32]), ([31, 32], [33]), ([33], [34]), ([30, 34], [35]), ([35], [4, 35])] [[], [], [0, 1], [2], [], [], [4, 5], [6], [3, 7], [8, 8, 0, 1, 2, 3, 4, 5, 6, 7, 8]] [⟨some 27, (.move (.tmp 0)), 25, none⟩,
            ⟨some 28, (.move (.tmp 5)), 3, none⟩,
            ⟨some 29, (.indexAddr 25 (.tmp 27) (.tmp 28)), 0, none⟩,
            ⟨some 30, (.load 3 (.tmp 29)), 3, none⟩,
            ⟨some 31, (.move (.tmp 1)), 25, none⟩,
            ⟨some 32, (.move (.tmp 5)), 3, none⟩,
            ⟨some 33, (.indexAddr 25 (.tmp 31) (.tmp 32)), 0, none⟩,
            ⟨some 34, (.load 3 (.tmp 33)), 3, none⟩,
            ⟨some 35, (.call { callee := (.value (.func 262)), args := #[(.tmp 30), (.tmp 34)], argTypes := #[3, 3] }), 3, none⟩,
            ⟨some 4, (.assign (.tmp 35)), 3, none⟩])
          .ret)
          .skip)))
      (.rgn [] [⟨some 16, (.move (.tmp 5)), 3, none⟩,
        ⟨some 17, (.binOp .add 3 (.tmp 16) (.const (.int .i64 1)) 3), 3, none⟩,
        ⟨some 5, (.assign (.tmp 17)), 3, none⟩]))))))
  (.seq (.rgn [] [⟨some 36, (.move (.tmp 0)), 25, none⟩,
    ⟨some 37, (.call { callee := (.builtin .len), args := #[(.tmp 36)], argTypes := #[25] }), 3, none⟩,
    ⟨some 38, (.move (.tmp 1)), 25, none⟩,
    ⟨some 39, (.call { callee := (.builtin .len), args := #[(.tmp 38)], argTypes := #[25] }), 3, none⟩,
    ⟨some 40, (.call { callee := (.value (.func 262)), args := #[(.tmp 37), (.tmp 39)], argTypes := #[3, 3] }), 3, none⟩,
    ⟨some 4, (.assign (.tmp 40)), 3, none⟩])
  .ret)))
theorem lit255 : Lit Try.prog 255 41 [] [.tmp 4] c255 := ⟨⟨Try.f255, _, Try.func255, rfl, by kernel_rfl, rfl, rfl, by kernel_rfl, by kernel_rfl⟩, by decide, by kernel_rfl⟩
/-- impl.AreValidValues -/
def c258 : LC :=
  (.seq (.rgn [] [⟨some 2, (.assign (.const (.bool false))), 4, none⟩])
  (.seq (.seq (.rgn [] [⟨some 5, (.move (.tmp 0)), 25, none⟩,
    ⟨some 6, (.call { callee := (.builtin .len), args := #[(.tmp 5)], argTypes := #[25] }), 3, none⟩,
    ⟨some 7, (.move (.const (.int .i64 0))), 3, none⟩])
  (.blk 0
    (.loop []
      (.seq (.rgn [] [⟨some 8, (.binOp .lss 3 (.tmp 7) (.tmp 6) 3), 0, none⟩])
      (.seq (.cond (.tmp 8)
        .skip
        (.exit 0))
      (.seq (.blk 1
        (.seq (.rgn [] [⟨some 9, (.indexAddr 25 (.tmp 5) (.tmp 7)), 0, none⟩,
          ⟨some 10, (.load 3 (.tmp 9)), 3, none⟩,
          ⟨some 4, (.assign (.tmp 10)), 3, none⟩])
        (.seq (.rgn [] [⟨some 11, (.move (.tmp 4)), 3, none⟩,
          ⟨some 12, (.call { callee := (.value (.func 90)), args := #[(.tmp 11), (.const (.int .i64 0)), (.const (.int .i64 99))], argTypes := #[3, 3, 3] }), 4, none⟩,
          ⟨some 13, (.unOp .not 4 (.tmp 12)), 4, none⟩])
        (.cond (.tmp 13)
          (.seq (.rgn [] [⟨some 2, (.assign (.const (.bool false))), 4, none⟩])
          .ret)
          .skip))))
      (.rgn [] [⟨some 14, (.binOp .add 3 (.tmp 7) (.const (.int .i64 1)) 3), 3, none⟩,
        ⟨some 7, (.move (.tmp 14)), 3, none⟩])))))))
  (.seq (.rgn [] [⟨some 2, (.assign (.const (.bool true))), 4, none⟩])
  .ret)))
theorem lit258 : Lit Try.prog 258 15 [] [.tmp 2] c258 := ⟨⟨Try.f258, _, Try.func258, rfl, by kernel_rfl, rfl, rfl, by kernel_rfl, by kernel_rfl⟩, by decide, by kernel_rfl⟩
/-- impl.compareInts -/
def c262 : LC :=
  (.seq (.rgn [] [⟨some 4, (.assign (.const (.int .i64 0))), 3, none⟩])
  (.seq (.blk 0
    (.seq (.rgn [] [⟨some 6, (.move (.tmp 0)), 3, none⟩,
      ⟨some 7, (.move (.tmp 1)), 3, none⟩,
      ⟨some 8, (.binOp .lss 3 (.tmp 6) (.tmp 7) 3), 4, none⟩,
      ⟨some 5, (.assign (.tmp 8)), 4, none⟩])
    (.cond (.tmp 5)
      (.seq (.rgn [] [⟨some 4, (.assign (.const (.int .i64 (-1)))), 3, none⟩])
      .ret)
      (.seq (.rgn [] [⟨some 10, (.move (.tmp 0)), 3, none⟩,
        ⟨some 11, (.move (.tmp 1)), 3, none⟩,
        ⟨some 12, (.binOp .gtr 3 (.tmp 10) (.tmp 11) 3), 4, none⟩,
        ⟨some 9, (.assign (.tmp 12)), 4, none⟩])
      (.cond (.tmp 9)
        (.seq (.rgn [] [⟨some 4, (.assign (.const (.int .i64 1))), 3, none⟩])
        .ret)
        .skip)))))
  (.seq (.rgn [] [⟨some 4, (.assign (.const (.int .i64 0))), 3, none⟩])
  .ret)))
theorem lit262 : Lit Try.prog 262 13 [] [.tmp 4] c262 := ⟨⟨Try.f262, _, Try.func262, rfl, by kernel_rfl, rfl, rfl, by kernel_rfl, by kernel_rfl⟩, by decide, by kernel_rfl⟩
end Go.Proofs.Ytkcfahfladikkaa
