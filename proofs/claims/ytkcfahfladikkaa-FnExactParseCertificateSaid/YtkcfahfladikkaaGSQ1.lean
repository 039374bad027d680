/-
  Functions of the program as typed functions, printed by gen.py, and that the program's functions do what they say. No conditions.
-/
import Derived.Test.YtkcfahfladikkaaUpQ1
import Derived.Test.YtkcfahfladikkaaLit2Q1
namespace Go.Proofs.Ytkcfahfladikkaa
open Go.RowKit
set_option linter.unusedVariables false
set_option maxRecDepth 100000
set_option maxHeartbeats 1000000
def spec_l5Cut_J2 (rec : ((List (List UInt8)) × Int × Int) → Option ((List (List UInt8)) × Int)) (y3 : Int) (x9 : List (List UInt8)) (x10 : Int) : Option ((List (List UInt8)) × Int) := rec (x9, x10, (IntKind.i64.wrap (y3 + 1)))
def spec_l5Cut_B1 (a0 : List UInt8) (a1 : Int) (rec : ((List (List UInt8)) × Int × Int) → Option ((List (List UInt8)) × Int)) (s : (List (List UInt8)) × Int × Int) : Option ((List (List UInt8)) × Int) := match s with
  | (y1, y2, y3) => cond (decide (y3 < (List.length a0 : Int))) (obind (geti a0 y3) fun b7 => cond ((UInt8.toNat b7 : Int) == a1) (chk ((0 : Int) ≤ y2 ∧ y2 ≤ y3 ∧ y3 ≤ (List.length a0 : Int)) (chk (List.length y1 + List.length [subl a0 y2 y3] ≤ lim) (spec_l5Cut_J2 rec y3 (y1 ++ [subl a0 y2 y3]) (IntKind.i64.wrap (y3 + 1))))) (spec_l5Cut_J2 rec y3 y1 y2)) (some (y1, y2))
def spec_l5Cut (a0 : List UInt8) (a1 : Int) : Option ((List (List UInt8))) := obind (loopF (spec_l5Cut_B1 a0 a1) fz (([] : List (List UInt8)), 0, 0)) fun o1 => (match o1 with
  | (z2, z3) => (chk ((0 : Int) ≤ z3 ∧ z3 ≤ (List.length a0 : Int) ∧ (List.length a0 : Int) ≤ (List.length a0 : Int)) (chk (List.length z2 + List.length [subl a0 z3 (List.length a0 : Int)] ≤ lim) (some (z2 ++ [subl a0 z3 (List.length a0 : Int)])))))
theorem spec_l5Cut_s {a0 : List UInt8} {a1 : Int} {r : (List (List UInt8))} (h : spec_l5Cut a0 a1 = some r) : SoundAt Try.prog 95 [.str a0, .int .u8 a1] (oL 9 cst r) := by
 unfold spec_l5Cut at h
 refine sound_lit tbOk lit95 (nb rfl) rfl ?_
 unfold c95
 refine qi _ rfl (qk [0, 1] rfl (ls_rs tbOk (sp 1 rfl (qe [0, 1] rfl (ls_rs tbOk (qBs cst [] rfl rfl rfl zcst (sp 1 rfl (qe [0, 1, 5] rfl (ls_rs tbOk (sp 1 rfl (qe [0, 1, 5, 6] rfl (ls_seq_k fun K1 hK1 => ls_rs tbOk (sp 1 rfl (qe [0, 1, 5, 6, 7] rfl ?_))))))))))))))
 obtain ⟨o1, hl, hr1⟩ := ob_some h
 clear h
 have kXspec_l5Cut_B1 : ∀ (z2 : List (List UInt8)) (z3 : Int), (z2, z3) = o1 → ∀ σ' : PS, okK σ' [(0, .str a0), (5, oL 9 cst z2), (6, nI z3)] → K1 σ' := by
  intro z2 z3 h σ' hk
  subst h
  replace h := hr1
  try dsimp only at h
  refine hK1 _ (ls_keep _ hk rfl (ls_rs tbOk (sp 3 rfl (?_))))
  obtain ⟨g14, h⟩ := chk_some h
  refine qSs rfl g14 (qBs cst [subl a0 z3 (List.length a0 : Int)] rfl rfl rfl zcst (?_))
  obtain ⟨g15, h⟩ := chk_some h
  refine qA cst z2 [subl a0 z3 (List.length a0 : Int)] rfl rfl (flat_len zcst [subl a0 z3 (List.length a0 : Int)]) rfl g15 (sp 1 rfl (qe [4] rfl (ls_ret ?_)))
  cases h
  exact ⟨.inl rfl, rfl⟩
 refine ls_rec (fun (s : (List (List UInt8)) × Int × Int) => match s with | (y1, y2, y3) => [(0, .str a0), (1, .int .u8 a1), (5, oL 9 cst y1), (6, nI y2), (7, nI y3)]) _ _ _ _ hl (okr rfl) (fun _ => rfl) ?_
 rintro m ⟨y1, y2, y3⟩ N h hN
 unfold spec_l5Cut_B1 at h
 dsimp only at h
 refine ls_seq_k fun K4 hK4 => ls_rs tbOk (sp 4 rfl (qe [0, 1, 5, 6, 7, 12] rfl ?_))
 rcases cond_some h with ⟨g5, h⟩ | ⟨g5, h⟩
 ·refine qT rfl g5 (ls_skip (hK4 _ (qk [0, 1, 5, 6, 7] rfl (ls_seq_k fun K6 hK6 => ls_blk (ls_rs tbOk (sp 2 rfl (?_)))))))
  obtain ⟨b7, g8, h⟩ := ob_some h
  refine qX rfl g8 (sp 2 rfl (qe [0, 1, 5, 6, 7, 19] rfl ?_))
  have kspec_l5Cut_J2 : ∀ (x9 : List (List UInt8)) (x10 : Int), spec_l5Cut_J2 (loopF (spec_l5Cut_B1 a0 a1) m) y3 x9 x10 = some o1 → ∀ σ' : PS, okK σ' [(0, .str a0), (1, .int .u8 a1), (5, oL 9 cst x9), (6, nI x10), (7, nI y3)] → K6 σ' := by
   intro x9 x10 h σ' hk
   unfold spec_l5Cut_J2 at h
   exact hK6 _ (ls_keep _ hk rfl (ls_rgn tbOk (sp 3 rfl (evn (hN _ (x9, x10, (IntKind.i64.wrap (y3 + 1))) h (okr rfl))))))
  rcases cond_some h with ⟨g11, h⟩ | ⟨g11, h⟩
  ·refine qT rfl g11 (ls_rs tbOk (sp 4 rfl (?_)))
   obtain ⟨g12, h⟩ := chk_some h
   refine qSs rfl g12 (qBs cst [subl a0 y2 y3] rfl rfl rfl zcst (?_))
   obtain ⟨g13, h⟩ := chk_some h
   exact qA cst y1 [subl a0 y2 y3] rfl rfl (flat_len zcst [subl a0 y2 y3]) rfl g13 (sp 1 rfl (qe [0, 1, 5, 7] rfl (ls_rgn tbOk (sp 3 rfl (evn (kspec_l5Cut_J2 (y1 ++ [subl a0 y2 y3]) (IntKind.i64.wrap (y3 + 1)) h _ (okr rfl)))))))
  ·exact qF rfl g11 (ls_skip (kspec_l5Cut_J2 y1 y2 h _ (okr rfl)))
 ·exact qF rfl g5 (ls_exit (kXspec_l5Cut_B1 y1 y2 (Option.some.inj h) _ (okr rfl)))
def spec_l1In_J1 (x2 : Bool) : Option (Bool) := some x2
def spec_l1In (a0 : Int) (a1 : Int) (a2 : Int) : Option (Bool) := cond (decide (a1 ≤ a0)) (spec_l1In_J1 (decide (a0 ≤ a2))) (spec_l1In_J1 false)
theorem spec_l1In_s {a0 : Int} {a1 : Int} {a2 : Int} {r : Bool} (h : spec_l1In a0 a1 a2 = some r) : SoundAt Try.prog 86 [nI a0, nI a1, nI a2] (.bool r) := by
 unfold spec_l1In at h
 refine sound_lit tbOk lit86 (nb rfl) rfl ?_
 unfold c86
 refine qi _ rfl (qk [0, 1, 2] rfl (ls_rs tbOk (sp 1 rfl (qe [0, 1, 2] rfl (ls_rs_k tbOk fun K1 hK1 => ?_)))))
 have kspec_l1In_J1 : ∀ (x2 : Bool), spec_l1In_J1 x2 = some r → ∀ σ' : PS, okK σ' [(6, .bool x2)] → K1 σ' := by
  intro x2 h σ' hk
  unfold spec_l1In_J1 at h
  refine hK1 _ (ls_keep _ hk rfl (ls_ret ?_))
  cases h
  exact ⟨.inl rfl, rfl⟩
 refine sp 4 rfl (?_)
 rcases cond_some h with ⟨g3, h⟩ | ⟨g3, h⟩
 ·exact qg 10 g3 rfl (sp 5 rfl (evn (kspec_l1In_J1 (decide (a0 ≤ a2)) h _ (okr rfl))))
 ·exact qg 10 g3 rfl (sp 5 rfl (evn (kspec_l1In_J1 false h _ (okr rfl))))
def spec_VariableName (a0 : Int) : Option ((List UInt8)) := obind (spec_l1In a0 0 4) fun v2 => cond (!v2) (some []) (chk ((0 : Int) ≤ a0 ∧ a0 ≤ IntKind.i64.wrap (a0 + 1) ∧ IntKind.i64.wrap (a0 + 1) ≤ (List.length [88, 89, 90, 85, 86] : Int)) (some (subl [88, 89, 90, 85, 86] a0 (IntKind.i64.wrap (a0 + 1)))))
theorem spec_VariableName_s {a0 : Int} {r : (List UInt8)} (h : spec_VariableName a0 = some r) : SoundAt Try.prog 180 [nI a0] (.str r) := by
 unfold spec_VariableName at h
 refine sound_lit tbOk lit180 (nb rfl) rfl ?_
 unfold c180
 refine qi _ rfl (qk [0] rfl (ls_rs tbOk (sp 1 rfl (qe [0] rfl (ls_seq_k fun K1 hK1 => ls_rs tbOk (sp 1 rfl (?_)))))))
 obtain ⟨v2, g3, h⟩ := ob_some h
 refine qC (qs rfl (qs rfl (qs rfl eran))) (spec_l1In_s g3) (sp 1 rfl (qe [0, 5] rfl ?_))
 rcases cond_some h with ⟨g4, h⟩ | ⟨g4, h⟩
 ·refine qT rfl g4 (ls_rs tbOk (sp 1 rfl (qe [2] rfl (ls_ret ?_))))
  cases h
  exact ⟨.inl rfl, rfl⟩
 ·refine qF rfl g4 (ls_skip (hK1 _ (qk [0] rfl (ls_rs tbOk (sp 3 rfl (?_))))))
  obtain ⟨g5, h⟩ := chk_some h
  refine qSs rfl g5 (sp 1 rfl (qe [2] rfl (ls_ret ?_)))
  cases h
  exact ⟨.inl rfl, rfl⟩
def spec_l7List_J3 (rec : ((List Int) × Int) → Option ((List Int))) (y8 : Int) (x13 : List Int) : Option ((List Int)) := rec (x13, (IntKind.i64.wrap (y8 + 1)))
def spec_l7List_B2 (a0 : List UInt8) (y4 : Int) (rec : ((List Int) × Int) → Option ((List Int))) (s : (List Int) × Int) : Option ((List Int)) := match s with
  | (y7, y8) => cond (decide (y8 < 5)) (obind (spec_VariableName y8) fun v10 => chk ((0 : Int) ≤ y4 ∧ y4 ≤ IntKind.i64.wrap (y4 + 1) ∧ IntKind.i64.wrap (y4 + 1) ≤ (List.length a0 : Int)) (cond (v10 == (subl a0 y4 (IntKind.i64.wrap (y4 + 1)))) (chk (List.length y7 + List.length [y8] ≤ lim) (spec_l7List_J3 rec y8 (y7 ++ [y8]))) (spec_l7List_J3 rec y8 y7))) (some y7)
def spec_l7List_B1 (a0 : List UInt8) (rec : ((List Int) × Int) → Option ((List Int))) (s : (List Int) × Int) : Option ((List Int)) := match s with
  | (y3, y4) => cond (decide (y4 < (List.length a0 : Int))) (obind (loopF (spec_l7List_B2 a0 y4) fz (y3, 0)) fun z6 => rec (z6, (IntKind.i64.wrap (y4 + 1)))) (some y3)
def spec_l7List (a0 : List UInt8) : Option ((List Int)) := obind (loopF (spec_l7List_B1 a0) fz (([] : List Int), 0)) fun z2 => some z2
theorem spec_l7List_s {a0 : List UInt8} {r : (List Int)} (h : spec_l7List a0 = some r) : SoundAt Try.prog 96 [.str a0] (oL 3 ci64 r) := by
 unfold spec_l7List at h
 refine sound_lit tbOk lit96 (nb rfl) rfl ?_
 unfold c96
 refine qi _ rfl (qk [0] rfl (ls_rs tbOk (sp 1 rfl (qe [0] rfl (ls_rs tbOk (qBs ci64 [] rfl rfl rfl zci64 (sp 1 rfl (qe [0, 3] rfl (ls_seq_k fun K1 hK1 => ls_rs tbOk (sp 1 rfl (qe [0, 3, 4] rfl ?_)))))))))))
 obtain ⟨o1, hl, hr1⟩ := ob_some h
 clear h
 have kXspec_l7List_B1 : ∀ (z2 : List Int), z2 = o1 → ∀ σ' : PS, okK σ' [(3, oL 3 ci64 z2)] → K1 σ' := by
  intro z2 h σ' hk
  subst h
  replace h := hr1
  try dsimp only at h
  refine hK1 _ (ls_keep _ hk rfl (ls_rs tbOk (sp 2 rfl (qe [2] rfl (ls_ret ?_)))))
  cases h
  exact ⟨.inl rfl, rfl⟩
 refine ls_rec (fun (s : (List Int) × Int) => match s with | (y3, y4) => [(0, .str a0), (3, oL 3 ci64 y3), (4, nI y4)]) _ _ _ _ hl (okr rfl) (fun _ => rfl) ?_
 rintro m ⟨y3, y4⟩ N h hN
 unfold spec_l7List_B1 at h
 dsimp only at h
 refine ls_seq_k fun K3 hK3 => ls_rs tbOk (sp 4 rfl (qe [0, 3, 4, 10] rfl ?_))
 rcases cond_some h with ⟨g4, h⟩ | ⟨g4, h⟩
 ·refine qT rfl g4 (ls_skip (hK3 _ (qk [0, 3, 4] rfl (ls_seq_k fun K5 hK5 => ls_blk (ls_rs tbOk (sp 1 rfl (qe [0, 3, 4, 5] rfl ?_)))))))
  obtain ⟨o2, hl, hr2⟩ := ob_some h
  clear h
  have kXspec_l7List_B2 : ∀ (z6 : List Int), z6 = o2 → ∀ σ' : PS, okK σ' [(0, .str a0), (3, oL 3 ci64 z6), (4, nI y4)] → K5 σ' := by
   intro z6 h σ' hk
   subst h
   replace h := hr2
   try dsimp only at h
   exact hK5 _ (ls_keep _ hk rfl (ls_rgn tbOk (sp 3 rfl (evn (hN _ (z6, (IntKind.i64.wrap (y4 + 1))) h (okr rfl))))))
  refine ls_rec (fun (s : (List Int) × Int) => match s with | (y7, y8) => [(0, .str a0), (3, oL 3 ci64 y7), (4, nI y4), (5, nI y8)]) _ _ _ _ hl (okr rfl) (fun _ => rfl) ?_
  rintro m ⟨y7, y8⟩ N h hN
  unfold spec_l7List_B2 at h
  dsimp only at h
  refine ls_seq_k fun K7 hK7 => ls_rs tbOk (sp 2 rfl (qe [0, 3, 4, 5, 14] rfl ?_))
  rcases cond_some h with ⟨g8, h⟩ | ⟨g8, h⟩
  ·refine qT rfl g8 (ls_skip (hK7 _ (qk [0, 3, 4, 5] rfl (ls_seq_k fun K9 hK9 => ls_blk (ls_rd tbOk mixed (by kernel_rfl) (sd 1 rfl (?_)))))))
   obtain ⟨v10, g11, h⟩ := ob_some h
   refine ed rfl (qC (qs rfl eran) (spec_VariableName_s g11) (sd 4 rfl (?_)))
   obtain ⟨g12, h⟩ := chk_some h
   refine ed rfl (qSs rfl g12 (sd 1 rfl (evdn (qk [0, 3, 4, 5, 24] rfl ?_))))
   have kspec_l7List_J3 : ∀ (x13 : List Int), spec_l7List_J3 (loopF (spec_l7List_B2 a0 y4) m) y8 x13 = some o2 → ∀ σ' : PS, okK σ' [(0, .str a0), (3, oL 3 ci64 x13), (4, nI y4), (5, nI y8)] → K9 σ' := by
    intro x13 h σ' hk
    unfold spec_l7List_J3 at h
    exact hK9 _ (ls_keep _ hk rfl (ls_rgn tbOk (sp 3 rfl (evn (hN _ (x13, (IntKind.i64.wrap (y8 + 1))) h (okr rfl))))))
   rcases cond_some h with ⟨g14, h⟩ | ⟨g14, h⟩
   ·refine qT rfl g14 (ls_rgn tbOk (sp 2 rfl (qBs ci64 [y8] rfl rfl rfl zci64 (?_))))
    obtain ⟨g15, h⟩ := chk_some h
    exact qA ci64 y7 [y8] rfl rfl (flat_len zci64 [y8]) rfl g15 (sp 1 rfl (evn (kspec_l7List_J3 (y7 ++ [y8]) h _ (okr rfl))))
   ·exact qF rfl g14 (ls_skip (kspec_l7List_J3 y7 h _ (okr rfl)))
  ·exact qF rfl g8 (ls_exit (kXspec_l7List_B2 y7 (Option.some.inj h) _ (okr rfl)))
 ·exact qF rfl g4 (ls_exit (kXspec_l7List_B1 y3 (Option.some.inj h) _ (okr rfl)))
def spec_l2Num_B3 (x4 : List UInt8) (rec : (Int × Int) → Option (Sum (Int) (Int))) (s : Int × Int) : Option (Sum (Int) (Int)) := match s with
  | (y1, y2) => cond (decide (y2 < (List.length x4 : Int))) (cond (decide ((List.length x4 : Int) < 12)) (obind (geti x4 y2) fun b13 => cond (decide ((UInt8.toNat b13 : Int) < 48)) (some (.inr 0)) (obind (geti x4 y2) fun b16 => cond (decide (57 < (UInt8.toNat b16 : Int))) (some (.inr 0)) (obind (geti x4 y2) fun b19 => rec ((IntKind.i64.wrap ((IntKind.i64.wrap ((IntKind.i64.wrap (y1 * 10)) + (IntKind.i64.wrap (UInt8.toNat b19 : Int)))) - 48)), (IntKind.i64.wrap (y2 + 1)))))) (some (.inl y1))) (some (.inl y1))
def spec_l2Num_J2 (x4 : List UInt8) (x5 : Int) : Option (Int) := obind (loopF (spec_l2Num_B3 x4) fz (0, 0)) fun o3 => (match o3 with
  | .inl z7 => (some (IntKind.i64.wrap (x5 * z7)))
  | .inr r => some r)
def spec_l2Num_J1 (a0 : List UInt8) (x3 : Bool) : Option (Int) := cond x3 (chk ((0 : Int) ≤ 1 ∧ 1 ≤ (List.length a0 : Int) ∧ (List.length a0 : Int) ≤ (List.length a0 : Int)) (spec_l2Num_J2 (subl a0 1 (List.length a0 : Int)) (-1))) (spec_l2Num_J2 a0 1)
def spec_l2Num (a0 : List UInt8) : Option (Int) := cond (decide (0 < (List.length a0 : Int))) (obind (geti a0 0) fun b24 => spec_l2Num_J1 a0 ((UInt8.toNat b24 : Int) == 45)) (spec_l2Num_J1 a0 false)
theorem spec_l2Num_s {a0 : List UInt8} {r : Int} (h : spec_l2Num a0 = some r) : SoundAt Try.prog 97 [.str a0] (nI r) := by
 unfold spec_l2Num at h
 refine sound_lit tbOk lit97 (nb rfl) rfl ?_
 unfold c97
 refine qi _ rfl (qk [0] rfl (ls_rs tbOk (sp 1 rfl (qe [0] rfl (ls_rs tbOk (sp 1 rfl (qe [0, 3] rfl (ls_rs tbOk (sp 1 rfl (qe [0, 3, 4] rfl (ls_seq_k fun K1 hK1 => ls_rs_k tbOk fun K2 hK2 => ?_)))))))))))
 have kspec_l2Num_J1 : ∀ (x3 : Bool), spec_l2Num_J1 a0 x3 = some r → ∀ σ' : PS, okK σ' [(0, .str a0), (3, nI 0), (4, nI 1), (13, .bool x3)] → K2 σ' := by
  intro x3 h σ' hk
  unfold spec_l2Num_J1 at h
  refine hK2 _ (ls_keep _ hk rfl ?_)
  have kspec_l2Num_J2 : ∀ (x4 : List UInt8) (x5 : Int), spec_l2Num_J2 x4 x5 = some r → ∀ σ' : PS, okK σ' [(0, .str x4), (3, nI 0), (4, nI x5)] → K1 σ' := by
   intro x4 x5 h σ' hk
   unfold spec_l2Num_J2 at h
   refine hK1 _ (ls_keep _ hk rfl (ls_seq_k fun K6 hK6 => ls_rs tbOk (sp 1 rfl (qe [0, 3, 4, 5] rfl ?_))))
   obtain ⟨o3, hl, hr3⟩ := ob_some h
   clear h
   have kXspec_l2Num_B3 : ∀ (z7 : Int), (.inl z7) = o3 → ∀ σ' : PS, okK σ' [(3, nI z7), (4, nI x5)] → K6 σ' := by
    intro z7 h σ' hk
    subst h
    replace h := hr3
    try dsimp only at h
    refine hK6 _ (ls_keep _ hk rfl (ls_rs tbOk (sp 4 rfl (qe [2] rfl (ls_ret ?_)))))
    cases h
    exact ⟨.inl rfl, rfl⟩
   refine ls_rec (fun (s : Int × Int) => match s with | (y1, y2) => [(0, .str x4), (3, nI y1), (4, nI x5), (5, nI y2)]) _ _ _ _ hl (okr rfl) (fun _ => rfl) ?_
   rintro m ⟨y1, y2⟩ N h hN
   unfold spec_l2Num_B3 at h
   dsimp only at h
   refine ls_seq_k fun K8 hK8 => ls_rs tbOk (sp 5 rfl (?_))
   rcases cond_some h with ⟨g9, h⟩ | ⟨g9, h⟩
   ·refine qg 20 g9 rfl (sp 4 rfl (qe [0, 3, 4, 5, 24] rfl ?_))
    rcases cond_some h with ⟨g10, h⟩ | ⟨g10, h⟩
    ·refine qT rfl g10 (ls_skip (hK8 _ (qk [0, 3, 4, 5] rfl (ls_seq_k fun K11 hK11 => ls_blk (ls_seq_k fun K12 hK12 => ls_rs tbOk (sp 2 rfl (?_)))))))
     obtain ⟨b13, g14, h⟩ := ob_some h
     refine qX rfl g14 (sp 2 rfl (?_))
     rcases cond_some h with ⟨g15, h⟩ | ⟨g15, h⟩
     ·refine qg 31 g15 rfl (sp 5 rfl (qe [0, 3, 4, 5, 36] rfl (qT rfl rfl (ls_rs tbOk (sp 1 rfl (qe [2] rfl (ls_ret ?_)))))))
      cases h
      cases hr3
      exact ⟨.inl rfl, rfl⟩
     ·refine qg 31 g15 rfl (sp 2 rfl (?_))
      obtain ⟨b16, g17, h⟩ := ob_some h
      refine oGR rfl rfl (qX rfl g17 (sp 2 rfl (qe [0, 3, 4, 5, 36] rfl ?_)))
      rcases cond_some h with ⟨g18, h⟩ | ⟨g18, h⟩
      ·refine qT rfl g18 (ls_rs tbOk (sp 1 rfl (qe [2] rfl (ls_ret ?_))))
       cases h
       cases hr3
       exact ⟨.inl rfl, rfl⟩
      ·refine qF rfl g18 (ls_skip (hK12 _ (qk [0, 3, 4, 5] rfl (ls_rgn tbOk (sp 4 rfl (?_))))))
       obtain ⟨b19, g20, h⟩ := ob_some h
       exact qX rfl g20 (sp 4 rfl (evn (hK11 _ (qk [0, 3, 4, 5] rfl (ls_rgn tbOk (sp 3 rfl (evn (hN _ ((IntKind.i64.wrap ((IntKind.i64.wrap ((IntKind.i64.wrap (y1 * 10)) + (IntKind.i64.wrap (UInt8.toNat b19 : Int)))) - 48)), (IntKind.i64.wrap (y2 + 1))) h (okr rfl)))))))))
    ·exact qF rfl g10 (ls_exit (kXspec_l2Num_B3 y1 (Option.some.inj h) _ (okr rfl)))
   ·exact qg 20 g9 rfl (sp 4 rfl (qe [0, 3, 4, 5, 24] rfl (qF rfl rfl (ls_exit (kXspec_l2Num_B3 y1 (Option.some.inj h) _ (okr rfl))))))
  rcases cond_some h with ⟨g21, h⟩ | ⟨g21, h⟩
  ·refine qT rfl g21 (ls_rs tbOk (sp 1 rfl (qe [0, 3, 4] rfl (ls_rgn tbOk (sp 1 rfl (?_))))))
   obtain ⟨g22, h⟩ := chk_some h
   exact qSs rfl g22 (sp 1 rfl (evn (kspec_l2Num_J2 (subl a0 1 (List.length a0 : Int)) (-1) h _ (okr rfl))))
  ·exact qF rfl g21 (ls_skip (kspec_l2Num_J2 a0 1 h _ (okr rfl)))
 refine sp 4 rfl (?_)
 rcases cond_some h with ⟨g23, h⟩ | ⟨g23, h⟩
 ·refine qg 9 g23 rfl (sp 1 rfl (?_))
  obtain ⟨b24, g25, h⟩ := ob_some h
  exact oGR rfl rfl (qX rfl g25 (sp 2 rfl (evn (kspec_l2Num_J1 ((UInt8.toNat b24 : Int) == 45) h _ (okr rfl)))))
 ·exact qg 9 g23 rfl (sp 4 rfl (evn (kspec_l2Num_J1 false h _ (okr rfl))))
def spec_l2Dec_R (rec : (Int) → Option ((List UInt8))) (a0 : Int) : Option ((List UInt8)) := cond (decide (a0 ≤ (-10))) (obind (rec (IntKind.i64.wrap (0 - (IntKind.i64.wrap (Int.tdiv a0 10))))) fun v3 => chk (List.length [45] + List.length v3 ≤ lim) (obind (rec (IntKind.i64.wrap (0 - (Int.tmod a0 10)))) fun v6 => chk (List.length ([45] ++ v3) + List.length v6 ≤ lim) (some (([45] ++ v3) ++ v6)))) (cond (decide (a0 < 0)) (obind (rec (IntKind.i64.wrap (0 - a0))) fun v11 => chk (List.length [45] + List.length v11 ≤ lim) (some ([45] ++ v11))) (cond (decide (a0 < 10)) (some (bytesOf [IntKind.u8.wrap (IntKind.i64.wrap (48 + a0))])) (obind (rec (IntKind.i64.wrap (Int.tdiv a0 10))) fun v16 => chk (List.length v16 + List.length (bytesOf [IntKind.u8.wrap (IntKind.i64.wrap (48 + (Int.tmod a0 10)))]) ≤ lim) (some (v16 ++ (bytesOf [IntKind.u8.wrap (IntKind.i64.wrap (48 + (Int.tmod a0 10)))]))))))
def spec_l2Dec (a0 : Int) : Option ((List UInt8)) := loopF spec_l2Dec_R fz a0
theorem spec_l2Dec_s {a0 : Int} {r : (List UInt8)} (h : spec_l2Dec a0 = some r) : SoundAt Try.prog 183 [nI a0] (.str r) := by
 suffices key : ∀ m (a0 : Int) (r : (List UInt8)), loopF spec_l2Dec_R m a0 = some r → SoundAt Try.prog 183 [nI a0] (.str r) from key fz a0 r h
 intro m
 induction m with
 | zero => intro a0 r h; cases h
 | succ m ih0 =>
  intro a0 r h
  have ih : ∀ {a0 : Int} {r : (List UInt8)}, loopF spec_l2Dec_R m a0 = some r → SoundAt Try.prog 183 [nI a0] (.str r) := fun h => ih0 _ _ h
  change spec_l2Dec_R (loopF spec_l2Dec_R m) a0 = some r at h
  unfold spec_l2Dec_R at h
  try dsimp only at h
  refine sound_lit tbOk lit183 (nb rfl) rfl ?_
  unfold c183
  refine qi _ rfl (qk [0] rfl (ls_rs tbOk (sp 1 rfl (qe [0] rfl (ls_seq_k fun K1 hK1 => ls_rs tbOk (sp 2 rfl (qe [0, 4] rfl ?_)))))))
  rcases cond_some h with ⟨g2, h⟩ | ⟨g2, h⟩
  ·refine qT rfl g2 (ls_rs tbOk (sp 3 rfl (?_)))
   obtain ⟨v3, g4, h⟩ := ob_some h
   refine qC (qs rfl eran) (ih g4) (?_)
   obtain ⟨g5, h⟩ := chk_some h
   refine qB rfl g5 rfl (sp 3 rfl (?_))
   obtain ⟨v6, g7, h⟩ := ob_some h
   refine qC (qs rfl eran) (ih g7) (?_)
   obtain ⟨g8, h⟩ := chk_some h
   refine qB rfl g8 rfl (sp 1 rfl (qe [2] rfl (ls_ret ?_)))
   cases h
   exact ⟨.inl rfl, rfl⟩
  ·refine qF rfl g2 (ls_skip (hK1 _ (qk [0] rfl (ls_seq_k fun K9 hK9 => ls_rs tbOk (sp 2 rfl (qe [0, 16] rfl ?_))))))
   rcases cond_some h with ⟨g10, h⟩ | ⟨g10, h⟩
   ·refine qT rfl g10 (ls_rs tbOk (sp 2 rfl (?_)))
    obtain ⟨v11, g12, h⟩ := ob_some h
    refine qC (qs rfl eran) (ih g12) (?_)
    obtain ⟨g13, h⟩ := chk_some h
    refine qB rfl g13 rfl (sp 1 rfl (qe [2] rfl (ls_ret ?_)))
    cases h
    exact ⟨.inl rfl, rfl⟩
   ·refine qF rfl g10 (ls_skip (hK9 _ (qk [0] rfl (ls_seq_k fun K14 hK14 => ls_rs tbOk (sp 2 rfl (qe [0, 22] rfl ?_))))))
    rcases cond_some h with ⟨g15, h⟩ | ⟨g15, h⟩
    ·refine qT rfl g15 (ls_rs tbOk (sp 3 rfl (qBs cu8 [IntKind.u8.wrap (IntKind.i64.wrap (48 + a0))] rfl rfl rfl zcu8 (qCs (l := [IntKind.u8.wrap (IntKind.i64.wrap (48 + a0))]) rfl rfl rfl rfl (sp 1 rfl (qe [2] rfl (ls_ret ?_)))))))
     cases h
     exact ⟨.inl rfl, rfl⟩
    ·refine qF rfl g15 (ls_skip (hK14 _ (qk [0] rfl (ls_rd tbOk mixed (by kernel_rfl) (sd 2 rfl (?_))))))
     obtain ⟨v16, g17, h⟩ := ob_some h
     refine ed rfl (qC (qs rfl eran) (ih g17) (sd 4 rfl (ed rfl (qBs cu8 [IntKind.u8.wrap (IntKind.i64.wrap (48 + (Int.tmod a0 10)))] rfl rfl rfl zcu8 (ed rfl (qCs (l := [IntKind.u8.wrap (IntKind.i64.wrap (48 + (Int.tmod a0 10)))]) rfl rfl rfl rfl (?_)))))))
     obtain ⟨g18, h⟩ := chk_some h
     refine ed rfl (qB rfl g18 rfl (sd 1 rfl (evdn (qk [2] rfl (ls_ret ?_)))))
     cases h
     exact ⟨.inl rfl, rfl⟩
def spec_l2Gcd_B1  (rec : (Int × Int) → Option (Int)) (s : Int × Int) : Option (Int) := match s with
  | (y1, y2) => cond (y2 != 0) (chk (y2 ≠ 0) (rec (y2, (Int.tmod y1 y2)))) (some y1)
def spec_l2Gcd (a0 : Int) (a1 : Int) : Option (Int) := obind (loopF spec_l2Gcd_B1 fz (a0, a1)) fun z2 => some z2
theorem spec_l2Gcd_s {a0 : Int} {a1 : Int} {r : Int} (h : spec_l2Gcd a0 a1 = some r) : SoundAt Try.prog 263 [nI a0, nI a1] (nI r) := by
 unfold spec_l2Gcd at h
 refine sound_lit tbOk lit263 (nb rfl) rfl ?_
 unfold c263
 refine qi _ rfl (qk [0, 1] rfl (ls_rs tbOk (sp 1 rfl (qe [0, 1] rfl (ls_seq_k fun K1 hK1 => ?_)))))
 obtain ⟨o1, hl, hr1⟩ := ob_some h
 clear h
 have kXspec_l2Gcd_B1 : ∀ (z2 : Int), z2 = o1 → ∀ σ' : PS, okK σ' [(0, nI z2)] → K1 σ' := by
  intro z2 h σ' hk
  subst h
  replace h := hr1
  try dsimp only at h
  refine hK1 _ (ls_keep _ hk rfl (ls_rs tbOk (sp 2 rfl (qe [4] rfl (ls_ret ?_)))))
  cases h
  exact ⟨.inl rfl, rfl⟩
 refine ls_rec (fun (s : Int × Int) => match s with | (y1, y2) => [(0, nI y1), (1, nI y2)]) _ _ _ _ hl (okr rfl) (fun _ => rfl) ?_
 rintro m ⟨y1, y2⟩ N h hN
 unfold spec_l2Gcd_B1 at h
 dsimp only at h
 refine ls_seq_k fun K3 hK3 => ls_rs tbOk (sp 2 rfl (qe [0, 1, 7] rfl ?_))
 rcases cond_some h with ⟨g4, h⟩ | ⟨g4, h⟩
 ·refine qT rfl g4 (ls_skip (hK3 _ (qk [0, 1] rfl (ls_blk (ls_rs tbOk (sp 2 rfl (?_)))))))
  obtain ⟨g5, h⟩ := chk_some h
  exact qB rfl ⟨rfl, g5⟩ rfl (sp 1 rfl (qe [1, 5] rfl (ls_rs tbOk (sp 2 rfl (qe [0, 5] rfl (ls_rgn tbOk (sp 2 rfl (evn (hN _ (y2, (Int.tmod y1 y2)) h (okr rfl))))))))))
 ·exact qF rfl g4 (ls_exit (kXspec_l2Gcd_B1 y1 (Option.some.inj h) _ (okr rfl)))
def spec_IsValidRational_J1 (x2 : Bool) : Option (Bool) := some x2
def spec_IsValidRational (a0 : Y214) : Option (Bool) := obind (spec_l1In a0.2 1 1000000000) fun v3 => cond v3 (obind (spec_l1In a0.1 (-1000000000) 1000000000) fun v6 => cond v6 (obind (spec_l2Gcd (if a0.1 < (IntKind.i64.wrap (0 - a0.1)) then (IntKind.i64.wrap (0 - a0.1)) else a0.1) a0.2) fun v9 => spec_IsValidRational_J1 (v9 == 1)) (spec_IsValidRational_J1 false)) (spec_IsValidRational_J1 false)
theorem spec_IsValidRational_s {a0 : Y214} {r : Bool} (h : spec_IsValidRational a0 = some r) : SoundAt Try.prog 256 [.agg (c215_ a0)] (.bool r) := by
 unfold spec_IsValidRational at h
 refine sound_lit tbOk lit256 (nb rfl) rfl ?_
 unfold c256
 refine qi _ rfl (qk [0] rfl (ls_rs tbOk (sp 2 rfl (qe [1] rfl (ls_rs_k tbOk fun K1 hK1 => ?_)))))
 have kspec_IsValidRational_J1 : ∀ (x2 : Bool), spec_IsValidRational_J1 x2 = some r → ∀ σ' : PS, okK σ' [(2, .bool x2)] → K1 σ' := by
  intro x2 h σ' hk
  unfold spec_IsValidRational_J1 at h
  refine hK1 _ (ls_keep _ hk rfl (ls_ret ?_))
  cases h
  exact ⟨.inl rfl, rfl⟩
 refine sp 2 rfl (?_)
 obtain ⟨v3, g4, h⟩ := ob_some h
 refine qC (qs rfl (qs rfl (qs rfl eran))) (spec_l1In_s g4) (sp 1 rfl (?_))
 rcases cond_some h with ⟨g5, h⟩ | ⟨g5, h⟩
 ·refine qg 6 g5 rfl (sp 2 rfl (?_))
  obtain ⟨v6, g7, h⟩ := ob_some h
  refine oGR rfl rfl (qC (qs rfl (qs rfl (qs rfl eran))) (spec_l1In_s g7) (sp 2 rfl (?_)))
  rcases cond_some h with ⟨g8, h⟩ | ⟨g8, h⟩
  ·refine qg 11 g8 rfl (sp 8 rfl (?_))
   obtain ⟨v9, g10, h⟩ := ob_some h
   exact oGR rfl rfl (qC (qs rfl (qs rfl eran)) (spec_l2Gcd_s g10) (sp 3 rfl (evn (kspec_IsValidRational_J1 (v9 == 1) h _ (okr rfl)))))
  ·exact qg 11 g8 rfl (sp 12 rfl (evn (kspec_IsValidRational_J1 false h _ (okr rfl))))
 ·exact qg 6 g5 rfl (sp 17 rfl (evn (kspec_IsValidRational_J1 false h _ (okr rfl))))
def spec_FormatRational (a0 : Y214) : Option ((List UInt8)) := obind (spec_IsValidRational a0) fun v2 => cond (!v2) (some []) (cond (a0.2 == 1) (obind (spec_l2Dec a0.1) fun v7 => some v7) (obind (spec_l2Dec a0.1) fun v9 => chk (List.length v9 + List.length [47] ≤ lim) (obind (spec_l2Dec a0.2) fun v12 => chk (List.length (v9 ++ [47]) + List.length v12 ≤ lim) (some ((v9 ++ [47]) ++ v12)))))
theorem spec_FormatRational_s {a0 : Y214} {r : (List UInt8)} (h : spec_FormatRational a0 = some r) : SoundAt Try.prog 239 [.agg (c215_ a0)] (.str r) := by
 unfold spec_FormatRational at h
 refine sound_lit tbOk lit239 (nb rfl) rfl ?_
 unfold c239
 refine qi _ rfl (qk [0] rfl (ls_rs tbOk (sp 2 rfl (qe [1] rfl (ls_seq_k fun K1 hK1 => ls_rs tbOk (sp 1 rfl (?_)))))))
 obtain ⟨v2, g3, h⟩ := ob_some h
 refine qC (qa rfl (erg (erc rfl (erc rfl rfl))) eran) (spec_IsValidRational_s g3) (sp 1 rfl (qe [1, 5] rfl ?_))
 rcases cond_some h with ⟨g4, h⟩ | ⟨g4, h⟩
 ·refine qT rfl g4 (ls_rs tbOk (sp 1 rfl (qe [2] rfl (ls_ret ?_))))
  cases h
  exact ⟨.inl rfl, rfl⟩
 ·refine qF rfl g4 (ls_skip (hK1 _ (qk [1] rfl (ls_seq_k fun K5 hK5 => ls_rs tbOk (sp 3 rfl (qe [1, 8] rfl ?_))))))
  rcases cond_some h with ⟨g6, h⟩ | ⟨g6, h⟩
  ·refine qT rfl g6 (ls_rs tbOk (sp 2 rfl (?_)))
   obtain ⟨v7, g8, h⟩ := ob_some h
   refine qC (qs rfl eran) (spec_l2Dec_s g8) (sp 1 rfl (qe [2] rfl (ls_ret ?_)))
   cases h
   exact ⟨.inl rfl, rfl⟩
  ·refine qF rfl g6 (ls_skip (hK5 _ (qk [1] rfl (ls_rd tbOk mixed (by kernel_rfl) (sd 2 rfl (?_))))))
   obtain ⟨v9, g10, h⟩ := ob_some h
   refine ed rfl (qC (qs rfl eran) (spec_l2Dec_s g10) (?_))
   obtain ⟨g11, h⟩ := chk_some h
   refine ed rfl (qB rfl g11 rfl (sd 2 rfl (?_)))
   obtain ⟨v12, g13, h⟩ := ob_some h
   refine ed rfl (qC (qs rfl eran) (spec_l2Dec_s g13) (?_))
   obtain ⟨g14, h⟩ := chk_some h
   refine ed rfl (qB rfl g14 rfl (sd 1 rfl (evdn (qk [2] rfl (ls_ret ?_)))))
   cases h
   exact ⟨.inl rfl, rfl⟩
def spec_ParseRational_B1 (a0 : List UInt8) (rec : Int → Option (Int)) (y1 : Int) : Option (Int) := cond (decide (y1 < (List.length a0 : Int))) (obind (geti a0 y1) fun b5 => cond ((UInt8.toNat b5 : Int) != 47) (rec (IntKind.i64.wrap (y1 + 1))) (some y1)) (some y1)
def spec_ParseRational_J2 (a0 : List UInt8) (v9 : Int) (x12 : Int) : Option (Y214 × Bool) := obind (spec_FormatRational (v9, x12)) fun v14 => cond (!(v14 == a0)) (some ((0, 0), false)) (cond (a0 == []) (some ((0, 0), false)) (some ((v9, x12), true)))
def spec_ParseRational (a0 : List UInt8) : Option (Y214 × Bool) := obind (loopF (spec_ParseRational_B1 a0) fz 0) fun z2 => chk ((0 : Int) ≤ 0 ∧ 0 ≤ z2 ∧ z2 ≤ (List.length a0 : Int)) (obind (spec_l2Num (subl a0 0 z2)) fun v9 => cond (decide (z2 < (List.length a0 : Int))) (chk ((0 : Int) ≤ IntKind.i64.wrap (z2 + 1) ∧ IntKind.i64.wrap (z2 + 1) ≤ (List.length a0 : Int) ∧ (List.length a0 : Int) ≤ (List.length a0 : Int)) (obind (spec_l2Num (subl a0 (IntKind.i64.wrap (z2 + 1)) (List.length a0 : Int))) fun v20 => spec_ParseRational_J2 a0 v9 v20)) (spec_ParseRational_J2 a0 v9 1))
theorem spec_ParseRational_s {a0 : List UInt8} {r : Y214 × Bool} (h : spec_ParseRational a0 = some r) : SoundAt Try.prog 181 [.str a0] (.tup [.agg (c215_ r.1), .bool r.2]) := by
 unfold spec_ParseRational at h
 refine sound_lit tbOk lit181 (nb rfl) rfl ?_
 unfold c181
 refine qi _ rfl (qk [0] rfl (ls_rs tbOk (sp 2 rfl (qe [0, 2] rfl (ls_rs tbOk (sp 1 rfl (qe [0, 2, 4] rfl (ls_seq_k fun K1 hK1 => ?_))))))))
 obtain ⟨o1, hl, hr1⟩ := ob_some h
 clear h
 have kXspec_ParseRational_B1 : ∀ (z2 : Int), z2 = o1 → ∀ σ' : PS, okK σ' [(0, .str a0), (2, .box [nI 0, nI 0]), (4, nI z2)] → K1 σ' := by
  intro z2 h σ' hk
  subst h
  replace h := hr1
  try dsimp only at h
  refine hK1 _ (ls_keep _ hk rfl (ls_rs tbOk (sp 3 rfl (qe [0, 2, 4, 5] rfl (ls_rs tbOk (sp 2 rfl (?_)))))))
  obtain ⟨g8, h⟩ := chk_some h
  refine qSs rfl g8 (?_)
  obtain ⟨v9, g10, h⟩ := ob_some h
  refine qC (qs rfl eran) (spec_l2Num_s g10) (sp 2 rfl (qe [0, 2, 4, 5] rfl (ls_seq_k fun K11 hK11 => ls_rs tbOk (sp 4 rfl (qe [0, 2, 4, 5, 27] rfl ?_)))))
  have kspec_ParseRational_J2 : ∀ (x12 : Int), spec_ParseRational_J2 a0 v9 x12 = some r → ∀ σ' : PS, okK σ' [(0, .str a0), (2, .box [nI 0, nI 0]), (5, .box [nI v9, nI x12])] → K11 σ' := by
   intro x12 h σ' hk
   unfold spec_ParseRational_J2 at h
   refine hK11 _ (ls_keep _ hk rfl (ls_seq_k fun K13 hK13 => ls_rs tbOk (sp 1 rfl (?_))))
   obtain ⟨v14, g15, h⟩ := ob_some h
   refine qC (qa rfl (erg (erc rfl (erc rfl rfl))) eran) (spec_FormatRational_s g15) (sp 3 rfl (?_))
   rcases cond_some h with ⟨g16, h⟩ | ⟨g16, h⟩
   ·refine qg 38 g16 rfl (sp 3 rfl (qe [2, 5, 41] rfl (qT rfl rfl (ls_rs tbOk (sp 3 rfl (qe [2, 3] rfl (ls_ret ?_)))))))
    cases h
    exact ⟨.inl rfl, rfl⟩
   ·refine qg 38 g16 rfl (sp 3 rfl (qe [2, 5, 41] rfl ?_))
    rcases cond_some h with ⟨g17, h⟩ | ⟨g17, h⟩
    ·refine qT rfl g17 (ls_rs tbOk (sp 3 rfl (qe [2, 3] rfl (ls_ret ?_))))
     cases h
     exact ⟨.inl rfl, rfl⟩
    ·refine qF rfl g17 (ls_skip (hK13 _ (qk [2, 5] rfl (ls_rs tbOk (sp 3 rfl (qe [2, 3] rfl (ls_ret ?_)))))))
     cases h
     exact ⟨.inl rfl, rfl⟩
  rcases cond_some h with ⟨g18, h⟩ | ⟨g18, h⟩
  ·refine qT rfl g18 (ls_rgn tbOk (sp 3 rfl (?_)))
   obtain ⟨g19, h⟩ := chk_some h
   refine qSs rfl g19 (?_)
   obtain ⟨v20, g21, h⟩ := ob_some h
   exact qC (qs rfl eran) (spec_l2Num_s g21) (sp 2 rfl (evn (kspec_ParseRational_J2 v20 h _ (okr rfl))))
  ·exact qF rfl g18 (ls_skip (kspec_ParseRational_J2 1 h _ (okr rfl)))
 refine ls_rec (fun (y1 : Int) => [(0, .str a0), (2, .box [nI 0, nI 0]), (4, nI y1)]) _ _ _ _ hl (okr rfl) (fun _ => rfl) ?_
 rintro m y1 N h hN
 unfold spec_ParseRational_B1 at h
 refine ls_seq_k fun K3 hK3 => ls_rs tbOk (sp 5 rfl (?_))
 rcases cond_some h with ⟨g4, h⟩ | ⟨g4, h⟩
 ·refine qg 10 g4 rfl (sp 2 rfl (?_))
  obtain ⟨b5, g6, h⟩ := ob_some h
  refine oGR rfl rfl (qX rfl g6 (sp 2 rfl (qe [0, 2, 4, 15] rfl ?_)))
  rcases cond_some h with ⟨g7, h⟩ | ⟨g7, h⟩
  ·exact qT rfl g7 (ls_skip (hK3 _ (qk [0, 2, 4] rfl (ls_blk (ls_rgn tbOk (sp 3 rfl (evn (hN _ (IntKind.i64.wrap (y1 + 1)) h (okr rfl)))))))))
  ·exact qF rfl g7 (ls_exit (kXspec_ParseRational_B1 y1 (Option.some.inj h) _ (okr rfl)))
 ·exact qg 10 g4 rfl (sp 5 rfl (qe [0, 2, 4, 15] rfl (qF rfl rfl (ls_exit (kXspec_ParseRational_B1 y1 (Option.some.inj h) _ (okr rfl))))))
def spec_ParseRationals_B1 (v3 : (List (List UInt8))) (rec : ((List Y214) × Int) → Option (Sum ((List Y214)) ((List Y214) × Bool))) (s : (List Y214) × Int) : Option (Sum ((List Y214)) ((List Y214) × Bool)) := match s with
  | (y1, y2) => cond (decide (y2 < (List.length v3 : Int))) (obind (geti v3 y2) fun e10 => obind (spec_ParseRational e10) fun v12 => cond (!v12.2) (some (.inr (([] : List Y214), false))) (chk (List.length y1 + List.length [v12.1] ≤ lim) (rec ((y1 ++ [v12.1]), (IntKind.i64.wrap (y2 + 1)))))) (some (.inl y1))
def spec_ParseRationals (a0 : List UInt8) : Option ((List Y214) × Bool) := cond (a0 == []) (some (([] : List Y214), true)) (obind (spec_l5Cut a0 32) fun v3 => obind (loopF (spec_ParseRationals_B1 v3) fz (([] : List Y214), 0)) fun o1 => (match o1 with
  | .inl z6 => (some (z6, true))
  | .inr r => some r))
theorem spec_ParseRationals_s {a0 : List UInt8} {r : (List Y214) × Bool} (h : spec_ParseRationals a0 = some r) : SoundAt Try.prog 98 [.str a0] (.tup [oL 215 c215_ r.1, .bool r.2]) := by
 unfold spec_ParseRationals at h
 refine sound_lit tbOk lit98 (nb rfl) rfl ?_
 unfold c98
 refine qi _ rfl (qk [0] rfl (ls_rs tbOk (sp 2 rfl (qe [0] rfl (ls_rs tbOk (qBs c215_ [] rfl rfl rfl zc215_ (sp 1 rfl (qe [0, 4] rfl (ls_seq_k fun K1 hK1 => ls_rs tbOk (sp 2 rfl (qe [0, 4, 11] rfl ?_)))))))))))
 rcases cond_some h with ⟨g2, h⟩ | ⟨g2, h⟩
 ·refine qT rfl g2 (ls_rs tbOk (sp 3 rfl (qe [2, 3] rfl (ls_ret ?_))))
  cases h
  exact ⟨.inl rfl, rfl⟩
 ·refine qF rfl g2 (ls_skip (hK1 _ (qk [0, 4] rfl (ls_rs tbOk (sp 1 rfl (?_))))))
  obtain ⟨v3, g4, h⟩ := ob_some h
  refine qC (qs rfl (qs rfl eran)) (spec_l5Cut_s g4) (sp 1 rfl (qe [4, 5] rfl (ls_seq_k fun K5 hK5 => ls_rs tbOk (sp 1 rfl (qe [4, 5, 6] rfl ?_)))))
  obtain ⟨o1, hl, hr1⟩ := ob_some h
  clear h
  have kXspec_ParseRationals_B1 : ∀ (z6 : List Y214), (.inl z6) = o1 → ∀ σ' : PS, okK σ' [(4, oL 215 c215_ z6)] → K5 σ' := by
   intro z6 h σ' hk
   subst h
   replace h := hr1
   try dsimp only at h
   refine hK5 _ (ls_keep _ hk rfl (ls_rs tbOk (sp 3 rfl (qe [2, 3] rfl (ls_ret ?_)))))
   cases h
   exact ⟨.inl rfl, rfl⟩
  refine ls_rec (fun (s : (List Y214) × Int) => match s with | (y1, y2) => [(4, oL 215 c215_ y1), (5, oL 9 cst v3), (6, nI y2)]) _ _ _ _ hl (okr rfl) (fun _ => rfl) ?_
  rintro m ⟨y1, y2⟩ N h hN
  unfold spec_ParseRationals_B1 at h
  dsimp only at h
  refine ls_seq_k fun K7 hK7 => ls_rs tbOk (sp 4 rfl (qe [4, 5, 6, 18] rfl ?_))
  rcases cond_some h with ⟨g8, h⟩ | ⟨g8, h⟩
  ·refine qT rfl g8 (ls_skip (hK7 _ (qk [4, 5, 6] rfl (ls_seq_k fun K9 hK9 => ls_blk (ls_rs tbOk (sp 2 rfl (?_)))))))
   obtain ⟨e10, g11, h⟩ := ob_some h
   refine qI rfl zcst g11 (sp 1 rfl (?_))
   obtain ⟨v12, g13, h⟩ := ob_some h
   refine qC (qs rfl eran) (spec_ParseRational_s g13) (sp 6 rfl (qe [4, 5, 6, 7, 8] rfl (ls_seq_k fun K14 hK14 => ls_rs tbOk (sp 2 rfl (qe [4, 5, 6, 7, 30] rfl ?_)))))
   rcases cond_some h with ⟨g15, h⟩ | ⟨g15, h⟩
   ·refine qT rfl g15 (ls_rs tbOk (qBs c215_ [] rfl rfl rfl zc215_ (sp 2 rfl (qe [2, 3] rfl (ls_ret ?_)))))
    cases h
    cases hr1
    exact ⟨.inl rfl, rfl⟩
   ·refine qF rfl g15 (ls_skip (hK14 _ (qk [4, 5, 6, 7] rfl (ls_rgn tbOk (sp 2 rfl (qBs c215_ [v12.1] rfl rfl rfl zc215_ (?_)))))))
    obtain ⟨g16, h⟩ := chk_some h
    exact qA c215_ y1 [v12.1] rfl rfl (flat_len zc215_ [v12.1]) rfl g16 (sp 1 rfl (evn (hK9 _ (qk [4, 5, 6] rfl (ls_rgn tbOk (sp 3 rfl (evn (hN _ ((y1 ++ [v12.1]), (IntKind.i64.wrap (y2 + 1))) h (okr rfl)))))))))
  ·exact qF rfl g8 (ls_exit (kXspec_ParseRationals_B1 y1 (Option.some.inj h) _ (okr rfl)))
def spec_l34Ints_J2 (rec : ((List UInt8) × Int) → Option ((List UInt8))) (a0 : List Int) (y2 : Int) (x7 : List UInt8) : Option ((List UInt8)) := obind (geti a0 y2) fun e8 => obind (spec_l2Dec e8) fun v10 => chk (List.length x7 + List.length v10 ≤ lim) (rec ((x7 ++ v10), (IntKind.i64.wrap (y2 + 1))))
def spec_l34Ints_B1 (a0 : List Int) (rec : ((List UInt8) × Int) → Option ((List UInt8))) (s : (List UInt8) × Int) : Option ((List UInt8)) := match s with
  | (y1, y2) => cond (decide (y2 < (List.length a0 : Int))) (cond (decide (0 < y2)) (chk (List.length y1 + List.length [32] ≤ lim) (spec_l34Ints_J2 rec a0 y2 (y1 ++ [32]))) (spec_l34Ints_J2 rec a0 y2 y1)) (some y1)
def spec_l34Ints (a0 : List Int) : Option ((List UInt8)) := obind (loopF (spec_l34Ints_B1 a0) fz ([], 0)) fun z2 => some z2
theorem spec_l34Ints_s {a0 : List Int} {r : (List UInt8)} (h : spec_l34Ints a0 = some r) : SoundAt Try.prog 141 [dL ci64 a0] (.str r) := by
 unfold spec_l34Ints at h
 refine sound_lit tbOk lit141 (nb rfl) rfl ?_
 unfold c141
 refine qi _ rfl (qk [0] rfl (ls_rs tbOk (sp 1 rfl (qe [0] rfl (ls_rs tbOk (sp 1 rfl (qe [0, 3] rfl (ls_seq_k fun K1 hK1 => ls_rs tbOk (sp 1 rfl (qe [0, 3, 4] rfl ?_))))))))))
 obtain ⟨o1, hl, hr1⟩ := ob_some h
 clear h
 have kXspec_l34Ints_B1 : ∀ (z2 : List UInt8), z2 = o1 → ∀ σ' : PS, okK σ' [(3, .str z2)] → K1 σ' := by
  intro z2 h σ' hk
  subst h
  replace h := hr1
  try dsimp only at h
  refine hK1 _ (ls_keep _ hk rfl (ls_rs tbOk (sp 2 rfl (qe [2] rfl (ls_ret ?_)))))
  cases h
  exact ⟨.inl rfl, rfl⟩
 refine ls_rec (fun (s : (List UInt8) × Int) => match s with | (y1, y2) => [(0, dL ci64 a0), (3, .str y1), (4, nI y2)]) _ _ _ _ hl (okr rfl) (fun _ => rfl) ?_
 rintro m ⟨y1, y2⟩ N h hN
 unfold spec_l34Ints_B1 at h
 dsimp only at h
 refine ls_seq_k fun K3 hK3 => ls_rs tbOk (sp 4 rfl (qe [0, 3, 4, 8] rfl ?_))
 rcases cond_some h with ⟨g4, h⟩ | ⟨g4, h⟩
 ·refine qT rfl g4 (ls_skip (hK3 _ (qk [0, 3, 4] rfl (ls_seq_k fun K5 hK5 => ls_blk (ls_seq_k fun K6 hK6 => ls_rs tbOk (sp 2 rfl (qe [0, 3, 4, 12] rfl ?_)))))))
  have kspec_l34Ints_J2 : ∀ (x7 : List UInt8), spec_l34Ints_J2 (loopF (spec_l34Ints_B1 a0) m) a0 y2 x7 = some o1 → ∀ σ' : PS, okK σ' [(0, dL ci64 a0), (3, .str x7), (4, nI y2)] → K6 σ' := by
   intro x7 h σ' hk
   unfold spec_l34Ints_J2 at h
   refine hK6 _ (ls_keep _ hk rfl (ls_rgn tbOk (sp 3 rfl (?_))))
   obtain ⟨e8, g9, h⟩ := ob_some h
   refine qI rfl zci64 g9 (sp 1 rfl (?_))
   obtain ⟨v10, g11, h⟩ := ob_some h
   refine qC (qs rfl eran) (spec_l2Dec_s g11) (?_)
   obtain ⟨g12, h⟩ := chk_some h
   exact qB rfl g12 rfl (sp 1 rfl (evn (hK5 _ (qk [0, 3, 4] rfl (ls_rgn tbOk (sp 3 rfl (evn (hN _ ((x7 ++ v10), (IntKind.i64.wrap (y2 + 1))) h (okr rfl)))))))))
  rcases cond_some h with ⟨g13, h⟩ | ⟨g13, h⟩
  ·refine qT rfl g13 (ls_rgn tbOk (sp 1 rfl (?_)))
   obtain ⟨g14, h⟩ := chk_some h
   exact qB rfl g14 rfl (sp 1 rfl (evn (kspec_l34Ints_J2 (y1 ++ [32]) h _ (okr rfl))))
  ·exact qF rfl g13 (ls_skip (kspec_l34Ints_J2 y1 h _ (okr rfl)))
 ·exact qF rfl g4 (ls_exit (kXspec_l34Ints_B1 y1 (Option.some.inj h) _ (okr rfl)))
def spec_l7Vars_B1 (a0 : List Int) (rec : ((List UInt8) × Int) → Option ((List UInt8))) (s : (List UInt8) × Int) : Option ((List UInt8)) := match s with
  | (y1, y2) => cond (decide (y2 < (List.length a0 : Int))) (obind (geti a0 y2) fun e6 => obind (spec_VariableName e6) fun v8 => chk (List.length y1 + List.length v8 ≤ lim) (rec ((y1 ++ v8), (IntKind.i64.wrap (y2 + 1))))) (some y1)
def spec_l7Vars (a0 : List Int) : Option ((List UInt8)) := obind (loopF (spec_l7Vars_B1 a0) fz ([40], 0)) fun z2 => chk (List.length z2 + List.length [41] ≤ lim) (some (z2 ++ [41]))
theorem spec_l7Vars_s {a0 : List Int} {r : (List UInt8)} (h : spec_l7Vars a0 = some r) : SoundAt Try.prog 143 [dL ci64 a0] (.str r) := by
 unfold spec_l7Vars at h
 refine sound_lit tbOk lit143 (nb rfl) rfl ?_
 unfold c143
 refine qi _ rfl (qk [0] rfl (ls_rs tbOk (sp 1 rfl (qe [0] rfl (ls_rs tbOk (sp 1 rfl (qe [0, 3] rfl (ls_seq_k fun K1 hK1 => ls_rs tbOk (sp 1 rfl (qe [0, 3, 4] rfl ?_))))))))))
 obtain ⟨o1, hl, hr1⟩ := ob_some h
 clear h
 have kXspec_l7Vars_B1 : ∀ (z2 : List UInt8), z2 = o1 → ∀ σ' : PS, okK σ' [(3, .str z2)] → K1 σ' := by
  intro z2 h σ' hk
  subst h
  replace h := hr1
  try dsimp only at h
  refine hK1 _ (ls_keep _ hk rfl (ls_rs tbOk (sp 1 rfl (?_))))
  obtain ⟨g11, h⟩ := chk_some h
  refine qB rfl g11 rfl (sp 1 rfl (qe [2] rfl (ls_ret ?_)))
  cases h
  exact ⟨.inl rfl, rfl⟩
 refine ls_rec (fun (s : (List UInt8) × Int) => match s with | (y1, y2) => [(0, dL ci64 a0), (3, .str y1), (4, nI y2)]) _ _ _ _ hl (okr rfl) (fun _ => rfl) ?_
 rintro m ⟨y1, y2⟩ N h hN
 unfold spec_l7Vars_B1 at h
 dsimp only at h
 refine ls_seq_k fun K3 hK3 => ls_rs tbOk (sp 4 rfl (qe [0, 3, 4, 8] rfl ?_))
 rcases cond_some h with ⟨g4, h⟩ | ⟨g4, h⟩
 ·refine qT rfl g4 (ls_skip (hK3 _ (qk [0, 3, 4] rfl (ls_seq_k fun K5 hK5 => ls_blk (ls_rgn tbOk (sp 3 rfl (?_)))))))
  obtain ⟨e6, g7, h⟩ := ob_some h
  refine qI rfl zci64 g7 (sp 1 rfl (?_))
  obtain ⟨v8, g9, h⟩ := ob_some h
  refine qC (qs rfl eran) (spec_VariableName_s g9) (?_)
  obtain ⟨g10, h⟩ := chk_some h
  exact qB rfl g10 rfl (sp 1 rfl (evn (hK5 _ (qk [0, 3, 4] rfl (ls_rgn tbOk (sp 3 rfl (evn (hN _ ((y1 ++ v8), (IntKind.i64.wrap (y2 + 1))) h (okr rfl)))))))))
 ·exact qF rfl g4 (ls_exit (kXspec_l7Vars_B1 y1 (Option.some.inj h) _ (okr rfl)))
def spec_FormatRationals_J2 (rec : ((List UInt8) × Int) → Option (Sum ((List UInt8)) ((List UInt8)))) (y2 : Int) (v8 : (List UInt8)) (x13 : List UInt8) : Option (Sum ((List UInt8)) ((List UInt8))) := chk (List.length x13 + List.length v8 ≤ lim) (rec ((x13 ++ v8), (IntKind.i64.wrap (y2 + 1))))
def spec_FormatRationals_B1 (a0 : List Y214) (rec : ((List UInt8) × Int) → Option (Sum ((List UInt8)) ((List UInt8)))) (s : (List UInt8) × Int) : Option (Sum ((List UInt8)) ((List UInt8))) := match s with
  | (y1, y2) => cond (decide (y2 < (List.length a0 : Int))) (obind (geti a0 y2) fun e6 => obind (spec_FormatRational e6) fun v8 => cond (v8 == []) (some (.inr [])) (cond (decide (0 < y2)) (chk (List.length y1 + List.length [32] ≤ lim) (spec_FormatRationals_J2 rec y2 v8 (y1 ++ [32]))) (spec_FormatRationals_J2 rec y2 v8 y1))) (some (.inl y1))
def spec_FormatRationals (a0 : List Y214) : Option ((List UInt8)) := obind (loopF (spec_FormatRationals_B1 a0) fz ([], 0)) fun o1 => (match o1 with
  | .inl z2 => (some z2)
  | .inr r => some r)
theorem spec_FormatRationals_s {a0 : List Y214} {r : (List UInt8)} (h : spec_FormatRationals a0 = some r) : SoundAt Try.prog 182 [dL c215_ a0] (.str r) := by
 unfold spec_FormatRationals at h
 refine sound_lit tbOk lit182 (nb rfl) rfl ?_
 unfold c182
 refine qi _ rfl (qk [0] rfl (ls_rs tbOk (sp 1 rfl (qe [0] rfl (ls_rs tbOk (sp 1 rfl (qe [0, 3] rfl (ls_seq_k fun K1 hK1 => ls_rs tbOk (sp 1 rfl (qe [0, 3, 4] rfl ?_))))))))))
 obtain ⟨o1, hl, hr1⟩ := ob_some h
 clear h
 have kXspec_FormatRationals_B1 : ∀ (z2 : List UInt8), (.inl z2) = o1 → ∀ σ' : PS, okK σ' [(3, .str z2)] → K1 σ' := by
  intro z2 h σ' hk
  subst h
  replace h := hr1
  try dsimp only at h
  refine hK1 _ (ls_keep _ hk rfl (ls_rs tbOk (sp 2 rfl (qe [2] rfl (ls_ret ?_)))))
  cases h
  exact ⟨.inl rfl, rfl⟩
 refine ls_rec (fun (s : (List UInt8) × Int) => match s with | (y1, y2) => [(0, dL c215_ a0), (3, .str y1), (4, nI y2)]) _ _ _ _ hl (okr rfl) (fun _ => rfl) ?_
 rintro m ⟨y1, y2⟩ N h hN
 unfold spec_FormatRationals_B1 at h
 dsimp only at h
 refine ls_seq_k fun K3 hK3 => ls_rs tbOk (sp 4 rfl (qe [0, 3, 4, 9] rfl ?_))
 rcases cond_some h with ⟨g4, h⟩ | ⟨g4, h⟩
 ·refine qT rfl g4 (ls_skip (hK3 _ (qk [0, 3, 4] rfl (ls_seq_k fun K5 hK5 => ls_blk (ls_rs tbOk (sp 2 rfl (?_)))))))
  obtain ⟨e6, g7, h⟩ := ob_some h
  refine qI rfl zc215_ g7 (sp 1 rfl (?_))
  obtain ⟨v8, g9, h⟩ := ob_some h
  refine qC (qa rfl (erg (erc rfl (erc rfl rfl))) eran) (spec_FormatRational_s g9) (sp 1 rfl (qe [0, 3, 4, 5] rfl (ls_seq_k fun K10 hK10 => ls_rs tbOk (sp 2 rfl (qe [0, 3, 4, 5, 18] rfl ?_)))))
  rcases cond_some h with ⟨g11, h⟩ | ⟨g11, h⟩
  ·refine qT rfl g11 (ls_rs tbOk (sp 1 rfl (qe [2] rfl (ls_ret ?_))))
   cases h
   cases hr1
   exact ⟨.inl rfl, rfl⟩
  ·refine qF rfl g11 (ls_skip (hK10 _ (qk [0, 3, 4, 5] rfl (ls_seq_k fun K12 hK12 => ls_rs tbOk (sp 2 rfl (qe [0, 3, 4, 5, 20] rfl ?_))))))
   have kspec_FormatRationals_J2 : ∀ (x13 : List UInt8), spec_FormatRationals_J2 (loopF (spec_FormatRationals_B1 a0) m) y2 v8 x13 = some o1 → ∀ σ' : PS, okK σ' [(0, dL c215_ a0), (3, .str x13), (4, nI y2), (5, .str v8)] → K12 σ' := by
    intro x13 h σ' hk
    unfold spec_FormatRationals_J2 at h
    refine hK12 _ (ls_keep _ hk rfl (ls_rgn tbOk (sp 2 rfl (?_))))
    obtain ⟨g14, h⟩ := chk_some h
    exact qB rfl g14 rfl (sp 1 rfl (evn (hK5 _ (qk [0, 3, 4] rfl (ls_rgn tbOk (sp 3 rfl (evn (hN _ ((x13 ++ v8), (IntKind.i64.wrap (y2 + 1))) h (okr rfl)))))))))
   rcases cond_some h with ⟨g15, h⟩ | ⟨g15, h⟩
   ·refine qT rfl g15 (ls_rgn tbOk (sp 1 rfl (?_)))
    obtain ⟨g16, h⟩ := chk_some h
    exact qB rfl g16 rfl (sp 1 rfl (evn (kspec_FormatRationals_J2 (y1 ++ [32]) h _ (okr rfl))))
   ·exact qF rfl g15 (ls_skip (kspec_FormatRationals_J2 y1 h _ (okr rfl)))
 ·exact qF rfl g4 (ls_exit (kXspec_FormatRationals_B1 y1 (Option.some.inj h) _ (okr rfl)))
def spec_FormatCertificate_J1 (a0 : Y58) (v5 : (List UInt8)) (x9 : Bool) : Option ((List UInt8)) := cond x9 (some []) (obind (spec_l7Vars a0.1) fun v11 => chk (List.length v11 + List.length [59] ≤ lim) (chk (List.length (v11 ++ [59]) + List.length v5 ≤ lim) (chk (List.length ((v11 ++ [59]) ++ v5) + List.length [59] ≤ lim) (obind (spec_l34Ints a0.2.2.1) fun v16 => chk (List.length (((v11 ++ [59]) ++ v5) ++ [59]) + List.length v16 ≤ lim) (chk (List.length ((((v11 ++ [59]) ++ v5) ++ [59]) ++ v16) + List.length [59] ≤ lim) (obind (spec_l2Dec a0.2.2.2.1) fun v20 => chk (List.length (((((v11 ++ [59]) ++ v5) ++ [59]) ++ v16) ++ [59]) + List.length v20 ≤ lim) (chk (List.length ((((((v11 ++ [59]) ++ v5) ++ [59]) ++ v16) ++ [59]) ++ v20) + List.length [59] ≤ lim) (obind (spec_l2Dec a0.2.2.2.2) fun v24 => chk (List.length (((((((v11 ++ [59]) ++ v5) ++ [59]) ++ v16) ++ [59]) ++ v20) ++ [59]) + List.length v24 ≤ lim) (some ((((((((v11 ++ [59]) ++ v5) ++ [59]) ++ v16) ++ [59]) ++ v20) ++ [59]) ++ v24))))))))))
def spec_FormatCertificate (a0 : Y58) : Option ((List UInt8)) := cond (decide (5 < (List.length a0.1 : Int))) (some []) (cond (decide (4 < (List.length a0.2.1 : Int))) (some []) (cond (decide (4 < (List.length a0.2.2.1 : Int))) (some []) (obind (spec_FormatRationals a0.2.1) fun v5 => cond (v5 == []) (spec_FormatCertificate_J1 a0 v5 (decide (0 < (List.length a0.2.1 : Int)))) (spec_FormatCertificate_J1 a0 v5 false))))
theorem spec_FormatCertificate_s {a0 : Y58} {r : (List UInt8)} (h : spec_FormatCertificate a0 = some r) : SoundAt Try.prog 99 [.agg (c59_ddd a0)] (.str r) := by
 unfold spec_FormatCertificate at h
 refine sound_lit tbOk lit99 (nb rfl) rfl ?_
 unfold c99
 refine qi _ rfl (qk [0] rfl (ls_rs tbOk (sp 2 rfl (qe [1] rfl (ls_seq_k fun K1 hK1 => ls_rs tbOk (sp 5 rfl (?_)))))))
 rcases cond_some h with ⟨g2, h⟩ | ⟨g2, h⟩
 ·refine qg 8 g2 rfl (sp 11 rfl (qe [1, 19] rfl (qT rfl rfl (ls_rs tbOk (sp 1 rfl (qe [2] rfl (ls_ret ?_)))))))
  cases h
  exact ⟨.inl rfl, rfl⟩
 ·refine qg 8 g2 rfl (sp 6 rfl (?_))
  rcases cond_some h with ⟨g3, h⟩ | ⟨g3, h⟩
  ·refine qg 14 g3 rfl (sp 5 rfl (qe [1, 19] rfl (qT rfl rfl (ls_rs tbOk (sp 1 rfl (qe [2] rfl (ls_ret ?_)))))))
   cases h
   exact ⟨.inl rfl, rfl⟩
  ·refine qg 14 g3 rfl (sp 5 rfl (qe [1, 19] rfl ?_))
   rcases cond_some h with ⟨g4, h⟩ | ⟨g4, h⟩
   ·refine qT rfl g4 (ls_rs tbOk (sp 1 rfl (qe [2] rfl (ls_ret ?_))))
    cases h
    exact ⟨.inl rfl, rfl⟩
   ·refine qF rfl g4 (ls_skip (hK1 _ (qk [1] rfl (ls_rs tbOk (sp 2 rfl (?_))))))
    obtain ⟨v5, g6, h⟩ := ob_some h
    refine qC (qa rfl (erD ec215_ _) eran) (spec_FormatRationals_s g6) (sp 1 rfl (qe [1, 3] rfl (ls_seq_k fun K7 hK7 => ls_rs_k tbOk fun K8 hK8 => ?_)))
    have kspec_FormatCertificate_J1 : ∀ (x9 : Bool), spec_FormatCertificate_J1 a0 v5 x9 = some r → ∀ σ' : PS, okK σ' [(1, .box [dL ci64 a0.1, dL c215_ a0.2.1, dL ci64 a0.2.2.1, nI a0.2.2.2.1, nI a0.2.2.2.2]), (3, .str v5), (30, .bool x9)] → K8 σ' := by
     intro x9 h σ' hk
     unfold spec_FormatCertificate_J1 at h
     refine hK8 _ (ls_keep _ hk rfl ?_)
     rcases cond_some h with ⟨g10, h⟩ | ⟨g10, h⟩
     ·refine qT rfl g10 (ls_rs tbOk (sp 1 rfl (qe [2] rfl (ls_ret ?_))))
      cases h
      exact ⟨.inl rfl, rfl⟩
     ·refine qF rfl g10 (ls_skip (hK7 _ (qk [1, 3] rfl (ls_rd tbOk mixed (by kernel_rfl) (sd 2 rfl (?_))))))
      obtain ⟨v11, g12, h⟩ := ob_some h
      refine ed rfl (qC (qa rfl (erD eci64 _) eran) (spec_l7Vars_s g12) (?_))
      obtain ⟨g13, h⟩ := chk_some h
      refine ed rfl (qB rfl g13 rfl (sd 1 rfl (?_)))
      obtain ⟨g14, h⟩ := chk_some h
      refine ed rfl (qB rfl g14 rfl (?_))
      obtain ⟨g15, h⟩ := chk_some h
      refine ed rfl (qB rfl g15 rfl (sd 2 rfl (?_)))
      obtain ⟨v16, g17, h⟩ := ob_some h
      refine ed rfl (qC (qa rfl (erD eci64 _) eran) (spec_l34Ints_s g17) (?_))
      obtain ⟨g18, h⟩ := chk_some h
      refine ed rfl (qB rfl g18 rfl (?_))
      obtain ⟨g19, h⟩ := chk_some h
      refine ed rfl (qB rfl g19 rfl (sd 2 rfl (?_)))
      obtain ⟨v20, g21, h⟩ := ob_some h
      refine ed rfl (qC (qs rfl eran) (spec_l2Dec_s g21) (?_))
      obtain ⟨g22, h⟩ := chk_some h
      refine ed rfl (qB rfl g22 rfl (?_))
      obtain ⟨g23, h⟩ := chk_some h
      refine ed rfl (qB rfl g23 rfl (sd 2 rfl (?_)))
      obtain ⟨v24, g25, h⟩ := ob_some h
      refine ed rfl (qC (qs rfl eran) (spec_l2Dec_s g25) (?_))
      obtain ⟨g26, h⟩ := chk_some h
      refine ed rfl (qB rfl g26 rfl (sd 1 rfl (evdn (qk [2] rfl (ls_ret ?_)))))
      cases h
      exact ⟨.inl rfl, rfl⟩
    refine sp 3 rfl (?_)
    rcases cond_some h with ⟨g27, h⟩ | ⟨g27, h⟩
    ·exact qg 25 g27 rfl (sp 5 rfl (evn (kspec_FormatCertificate_J1 (decide (0 < (List.length a0.2.1 : Int))) h _ (okr rfl))))
    ·exact qg 25 g27 rfl (sp 5 rfl (evn (kspec_FormatCertificate_J1 false h _ (okr rfl))))
def spec_ParseCertificate_J1 (a0 : List UInt8) (v7 : (List Int)) (v11 : Int) (v15 : Int) (v19 : (List Y214) × Bool) (x24 : List Int) : Option (Y58 × Bool) := obind (spec_FormatCertificate (v7, v19.1, x24, v11, v15)) fun v26 => cond (!(v26 == a0)) (some (([], [], [], 0, 0), false)) (some ((v7, v19.1, x24, v11, v15), true))
def spec_ParseCertificate_B2 (v32 : (List (List UInt8))) (rec : ((List Int) × Int) → Option ((List Int))) (s : (List Int) × Int) : Option ((List Int)) := match s with
  | (y3, y4) => cond (decide (y4 < (List.length v32 : Int))) (obind (geti v32 y4) fun e38 => obind (spec_l2Num e38) fun v40 => chk (List.length y3 + List.length [v40] ≤ lim) (rec ((y3 ++ [v40]), (IntKind.i64.wrap (y4 + 1))))) (some y3)
def spec_ParseCertificate (a0 : List UInt8) : Option (Y58 × Bool) := obind (spec_l5Cut a0 59) fun v1 => cond ((List.length v1 : Int) != 5) (some (([], [], [], 0, 0), false)) (obind (geti v1 0) fun e5 => obind (spec_l7List e5) fun v7 => obind (geti v1 3) fun e9 => obind (spec_l2Num e9) fun v11 => obind (geti v1 4) fun e13 => obind (spec_l2Num e13) fun v15 => obind (geti v1 1) fun e17 => obind (spec_ParseRationals e17) fun v19 => obind (geti v1 2) fun e22 => cond (!(e22 == [])) (obind (geti v1 2) fun e30 => obind (spec_l5Cut e30 32) fun v32 => obind (loopF (spec_ParseCertificate_B2 v32) fz (([] : List Int), 0)) fun z34 => spec_ParseCertificate_J1 a0 v7 v11 v15 v19 z34) (spec_ParseCertificate_J1 a0 v7 v11 v15 v19 ([] : List Int)))
theorem spec_ParseCertificate_s {a0 : List UInt8} {r : Y58 × Bool} (h : spec_ParseCertificate a0 = some r) : SoundAt Try.prog 33 [.str a0] (.tup [.agg (c59_ooo r.1), .bool r.2]) := by
 unfold spec_ParseCertificate at h
 refine sound_lit tbOk lit33 (nb rfl) rfl ?_
 unfold c33
 refine qi _ rfl (qk [0] rfl (ls_rs tbOk (sp 2 rfl (qe [0, 2] rfl (ls_rs tbOk (sp 1 rfl (?_)))))))
 obtain ⟨v1, g2, h⟩ := ob_some h
 refine qC (qs rfl (qs rfl eran)) (spec_l5Cut_s g2) (sp 1 rfl (qe [0, 2, 4] rfl (ls_seq_k fun K3 hK3 => ls_rs tbOk (sp 3 rfl (qe [0, 2, 4, 12] rfl ?_)))))
 rcases cond_some h with ⟨g4, h⟩ | ⟨g4, h⟩
 ·refine qT rfl g4 (ls_rs tbOk (sp 3 rfl (qe [2, 3] rfl (ls_ret ?_))))
  cases h
  exact ⟨.inl rfl, rfl⟩
 ·refine qF rfl g4 (ls_skip (hK3 _ (qk [0, 2, 4] rfl (ls_rd tbOk mixed (by kernel_rfl) (sd 1 rfl (?_))))))
  obtain ⟨e5, g6, h⟩ := ob_some h
  refine ed rfl (qI rfl zcst g6 (sd 1 rfl (?_)))
  obtain ⟨v7, g8, h⟩ := ob_some h
  refine ed rfl (qC (qs rfl eran) (spec_l7List_s g8) (sd 1 rfl (?_)))
  obtain ⟨e9, g10, h⟩ := ob_some h
  refine ed rfl (qI rfl zcst g10 (sd 1 rfl (?_)))
  obtain ⟨v11, g12, h⟩ := ob_some h
  refine ed rfl (qC (qs rfl eran) (spec_l2Num_s g12) (sd 1 rfl (?_)))
  obtain ⟨e13, g14, h⟩ := ob_some h
  refine ed rfl (qI rfl zcst g14 (sd 1 rfl (?_)))
  obtain ⟨v15, g16, h⟩ := ob_some h
  refine ed rfl (qC (qs rfl eran) (spec_l2Num_s g16) (sd 3 rfl (evdn (qk [0, 2, 4, 5] rfl (ls_rs tbOk (sp 1 rfl (?_)))))))
  obtain ⟨e17, g18, h⟩ := ob_some h
  refine qI rfl zcst g18 (sp 1 rfl (?_))
  obtain ⟨v19, g20, h⟩ := ob_some h
  refine qC (qs rfl eran) (spec_ParseRationals_s g20) (sp 5 rfl (qe [0, 2, 4, 5] rfl (ls_seq_k fun K21 hK21 => ls_rs tbOk (sp 1 rfl (?_)))))
  obtain ⟨e22, g23, h⟩ := ob_some h
  refine qI rfl zcst g23 (sp 2 rfl (qe [0, 2, 4, 5, 38] rfl ?_))
  have kspec_ParseCertificate_J1 : ∀ (x24 : List Int), spec_ParseCertificate_J1 a0 v7 v11 v15 v19 x24 = some r → ∀ σ' : PS, okK σ' [(0, .str a0), (2, .box [oL 3 ci64 [], oL 215 c215_ [], oL 3 ci64 [], nI 0, nI 0]), (5, .box [oL 3 ci64 v7, oL 215 c215_ v19.1, oL 3 ci64 x24, nI v11, nI v15])] → K21 σ' := by
   intro x24 h σ' hk
   unfold spec_ParseCertificate_J1 at h
   refine hK21 _ (ls_keep _ hk rfl (ls_seq_k fun K25 hK25 => ls_rs tbOk (sp 1 rfl (?_))))
   obtain ⟨v26, g27, h⟩ := ob_some h
   refine qC (qa rfl (erg (erc (erD eci64 _) (erc (erD ec215_ _) (erc (erD eci64 _) (erc rfl (erc rfl rfl)))))) eran) (spec_FormatCertificate_s g27) (sp 2 rfl (qe [2, 5, 62] rfl ?_))
   rcases cond_some h with ⟨g28, h⟩ | ⟨g28, h⟩
   ·refine qT rfl g28 (ls_rs tbOk (sp 3 rfl (qe [2, 3] rfl (ls_ret ?_))))
    cases h
    exact ⟨.inl rfl, rfl⟩
   ·refine qF rfl g28 (ls_skip (hK25 _ (qk [2, 5] rfl (ls_rs tbOk (sp 3 rfl (qe [2, 3] rfl (ls_ret ?_)))))))
    cases h
    exact ⟨.inl rfl, rfl⟩
  rcases cond_some h with ⟨g29, h⟩ | ⟨g29, h⟩
  ·refine qT rfl g29 (ls_rs tbOk (sp 1 rfl (?_)))
   obtain ⟨e30, g31, h⟩ := ob_some h
   refine qI rfl zcst g31 (sp 1 rfl (?_))
   obtain ⟨v32, g33, h⟩ := ob_some h
   refine qC (qs rfl (qs rfl eran)) (spec_l5Cut_s g33) (sp 1 rfl (qe [0, 2, 5, 6] rfl (ls_rs tbOk (sp 1 rfl (qe [0, 2, 5, 6, 7] rfl ?_)))))
   obtain ⟨o2, hl, hr2⟩ := ob_some h
   clear h
   have kXspec_ParseCertificate_B2 : ∀ (z34 : List Int), z34 = o2 → ∀ σ' : PS, okK σ' [(0, .str a0), (2, .box [oL 3 ci64 [], oL 215 c215_ [], oL 3 ci64 [], nI 0, nI 0]), (5, .box [oL 3 ci64 v7, oL 215 c215_ v19.1, oL 3 ci64 z34, nI v11, nI v15])] → K21 σ' := by
    intro z34 h σ' hk
    subst h
    replace h := hr2
    try dsimp only at h
    exact kspec_ParseCertificate_J1 z34 h _ ⟨hk.1, hk.2.1, hk.2.2.1, trivial⟩
   refine ls_rec (fun (s : (List Int) × Int) => match s with | (y3, y4) => [(0, .str a0), (2, .box [oL 3 ci64 [], oL 215 c215_ [], oL 3 ci64 [], nI 0, nI 0]), (5, .box [oL 3 ci64 v7, oL 215 c215_ v19.1, oL 3 ci64 y3, nI v11, nI v15]), (6, oL 9 cst v32), (7, nI y4)]) _ _ _ _ hl (okr rfl) (fun _ => rfl) ?_
   rintro m ⟨y3, y4⟩ N h hN
   unfold spec_ParseCertificate_B2 at h
   dsimp only at h
   refine ls_seq_k fun K35 hK35 => ls_rs tbOk (sp 4 rfl (qe [0, 2, 5, 6, 7, 46] rfl ?_))
   rcases cond_some h with ⟨g36, h⟩ | ⟨g36, h⟩
   ·refine qT rfl g36 (ls_skip (hK35 _ (qk [0, 2, 5, 6, 7] rfl (ls_seq_k fun K37 hK37 => ls_blk (ls_drw tbOk mixed (by kernel_rfl) (sd 4 rfl (?_)))))))
    obtain ⟨e38, g39, h⟩ := ob_some h
    refine ed rfl (qI rfl zcst g39 (sd 1 rfl (?_)))
    obtain ⟨v40, g41, h⟩ := ob_some h
    refine ed rfl (qC (qs rfl eran) (spec_l2Num_s g41) (ed rfl (qBs ci64 [v40] rfl rfl rfl zci64 (?_))))
    obtain ⟨g42, h⟩ := chk_some h
    exact ed rfl (qA ci64 y3 [v40] rfl rfl (flat_len zci64 [v40]) rfl g42 (sd 2 rfl (evdn (hK37 _ (qk [0, 2, 5, 6, 7] rfl (ls_rgn tbOk (sp 3 rfl (evn (hN _ ((y3 ++ [v40]), (IntKind.i64.wrap (y4 + 1))) h (okr rfl))))))))))
   ·exact qF rfl g36 (ls_exit (kXspec_ParseCertificate_B2 y3 (Option.some.inj h) _ (okr rfl)))
  ·exact qF rfl g29 (ls_skip (kspec_ParseCertificate_J1 ([] : List Int) h _ (okr rfl)))
def impl_split_J3 (rec : ((List (List UInt8)) × Int × Int) → Option ((List (List UInt8)))) (y3 : Int) (x8 : List (List UInt8)) (x9 : Int) : Option ((List (List UInt8))) := rec (x8, x9, (IntKind.i64.wrap (y3 + 1)))
def impl_split_J2 (rec : ((List (List UInt8)) × Int × Int) → Option ((List (List UInt8)))) (a0 : List UInt8) (y1 : List (List UInt8)) (y2 : Int) (y3 : Int) (x7 : Bool) : Option ((List (List UInt8))) := cond x7 (chk ((0 : Int) ≤ y2 ∧ y2 ≤ y3 ∧ y3 ≤ (List.length a0 : Int)) (chk (List.length y1 + List.length [subl a0 y2 y3] ≤ lim) (impl_split_J3 rec y3 (y1 ++ [subl a0 y2 y3]) (IntKind.i64.wrap (y3 + 1))))) (impl_split_J3 rec y3 y1 y2)
def impl_split_B1 (a0 : List UInt8) (a1 : Int) (rec : ((List (List UInt8)) × Int × Int) → Option ((List (List UInt8)))) (s : (List (List UInt8)) × Int × Int) : Option ((List (List UInt8))) := match s with
  | (y1, y2, y3) => cond (decide (y3 ≤ (List.length a0 : Int))) (cond (y3 == (List.length a0 : Int)) (impl_split_J2 rec a0 y1 y2 y3 true) (obind (geti a0 y3) fun b14 => impl_split_J2 rec a0 y1 y2 y3 ((UInt8.toNat b14 : Int) == a1))) (some y1)
def impl_split (a0 : List UInt8) (a1 : Int) : Option ((List (List UInt8))) := obind (loopF (impl_split_B1 a0 a1) fz (([] : List (List UInt8)), 0, 0)) fun z2 => some z2
theorem impl_split_s {a0 : List UInt8} {a1 : Int} {r : (List (List UInt8))} (h : impl_split a0 a1 = some r) : SoundAt Try.prog 100 [.str a0, .int .u8 a1] (oL 9 cst r) := by
 unfold impl_split at h
 refine sound_lit tbOk lit100 (nb rfl) rfl ?_
 unfold c100
 refine qi _ rfl (qk [0, 1] rfl (ls_rs tbOk (sp 1 rfl (qe [0, 1] rfl (ls_rs tbOk (sp 1 rfl (qe [0, 1, 5] rfl (ls_rs tbOk (sp 1 rfl (qe [0, 1, 5, 6] rfl (ls_seq_k fun K1 hK1 => ls_rs tbOk (sp 1 rfl (qe [0, 1, 5, 6, 7] rfl ?_)))))))))))))
 obtain ⟨o1, hl, hr1⟩ := ob_some h
 clear h
 have kXimpl_split_B1 : ∀ (z2 : List (List UInt8)), z2 = o1 → ∀ σ' : PS, okK σ' [(5, oL 9 cst z2)] → K1 σ' := by
  intro z2 h σ' hk
  subst h
  replace h := hr1
  try dsimp only at h
  refine hK1 _ (ls_keep _ hk rfl (ls_rs tbOk (sp 2 rfl (qe [4] rfl (ls_ret ?_)))))
  cases h
  exact ⟨.inl rfl, rfl⟩
 refine ls_rec (fun (s : (List (List UInt8)) × Int × Int) => match s with | (y1, y2, y3) => [(0, .str a0), (1, .int .u8 a1), (5, oL 9 cst y1), (6, nI y2), (7, nI y3)]) _ _ _ _ hl (okr rfl) (fun _ => rfl) ?_
 rintro m ⟨y1, y2, y3⟩ N h hN
 unfold impl_split_B1 at h
 dsimp only at h
 refine ls_seq_k fun K3 hK3 => ls_rs tbOk (sp 4 rfl (qe [0, 1, 5, 6, 7, 11] rfl ?_))
 rcases cond_some h with ⟨g4, h⟩ | ⟨g4, h⟩
 ·refine qT rfl g4 (ls_skip (hK3 _ (qk [0, 1, 5, 6, 7] rfl (ls_seq_k fun K5 hK5 => ls_blk (ls_rs_k tbOk fun K6 hK6 => ?_)))))
  have kimpl_split_J2 : ∀ (x7 : Bool), impl_split_J2 (loopF (impl_split_B1 a0 a1) m) a0 y1 y2 y3 x7 = some o1 → ∀ σ' : PS, okK σ' [(0, .str a0), (1, .int .u8 a1), (5, oL 9 cst y1), (6, nI y2), (7, nI y3), (24, .bool x7)] → K6 σ' := by
   intro x7 h σ' hk
   unfold impl_split_J2 at h
   refine hK6 _ (ls_keep _ hk rfl ?_)
   have kimpl_split_J3 : ∀ (x8 : List (List UInt8)) (x9 : Int), impl_split_J3 (loopF (impl_split_B1 a0 a1) m) y3 x8 x9 = some o1 → ∀ σ' : PS, okK σ' [(0, .str a0), (1, .int .u8 a1), (5, oL 9 cst x8), (6, nI x9), (7, nI y3)] → K5 σ' := by
    intro x8 x9 h σ' hk
    unfold impl_split_J3 at h
    exact hK5 _ (ls_keep _ hk rfl (ls_rgn tbOk (sp 3 rfl (evn (hN _ (x8, x9, (IntKind.i64.wrap (y3 + 1))) h (okr rfl))))))
   rcases cond_some h with ⟨g10, h⟩ | ⟨g10, h⟩
   ·refine qT rfl g10 (ls_rs tbOk (sp 4 rfl (?_)))
    obtain ⟨g11, h⟩ := chk_some h
    refine qSs rfl g11 (qBs cst [subl a0 y2 y3] rfl rfl rfl zcst (?_))
    obtain ⟨g12, h⟩ := chk_some h
    exact qA cst y1 [subl a0 y2 y3] rfl rfl (flat_len zcst [subl a0 y2 y3]) rfl g12 (sp 1 rfl (qe [0, 1, 5, 7] rfl (ls_rgn tbOk (sp 3 rfl (evn (kimpl_split_J3 (y1 ++ [subl a0 y2 y3]) (IntKind.i64.wrap (y3 + 1)) h _ (okr rfl)))))))
   ·exact qF rfl g10 (ls_skip (kimpl_split_J3 y1 y2 h _ (okr rfl)))
  refine sp 5 rfl (?_)
  rcases cond_some h with ⟨g13, h⟩ | ⟨g13, h⟩
  ·exact qg 18 g13 rfl (sp 6 rfl (evn (kimpl_split_J2 true h _ (okr rfl))))
  ·refine qg 18 g13 rfl (sp 2 rfl (?_))
   obtain ⟨b14, g15, h⟩ := ob_some h
   exact oGR rfl rfl (qX rfl g15 (sp 3 rfl (evn (kimpl_split_J2 ((UInt8.toNat b14 : Int) == a1) h _ (okr rfl)))))
 ·exact qF rfl g4 (ls_exit (kXimpl_split_B1 y1 (Option.some.inj h) _ (okr rfl)))
def impl_within_J1 (x2 : Bool) : Option (Bool) := some x2
def impl_within (a0 : Int) (a1 : Int) (a2 : Int) : Option (Bool) := cond (decide (a1 ≤ a0)) (impl_within_J1 (decide (a0 ≤ a2))) (impl_within_J1 false)
theorem impl_within_s {a0 : Int} {a1 : Int} {a2 : Int} {r : Bool} (h : impl_within a0 a1 a2 = some r) : SoundAt Try.prog 90 [nI a0, nI a1, nI a2] (.bool r) := by
 unfold impl_within at h
 refine sound_lit tbOk lit90 (nb rfl) rfl ?_
 unfold c90
 refine qi _ rfl (qk [0, 1, 2] rfl (ls_rs tbOk (sp 1 rfl (qe [0, 1, 2] rfl (ls_rs_k tbOk fun K1 hK1 => ?_)))))
 have kimpl_within_J1 : ∀ (x2 : Bool), impl_within_J1 x2 = some r → ∀ σ' : PS, okK σ' [(6, .bool x2)] → K1 σ' := by
  intro x2 h σ' hk
  unfold impl_within_J1 at h
  refine hK1 _ (ls_keep _ hk rfl (ls_ret ?_))
  cases h
  exact ⟨.inl rfl, rfl⟩
 refine sp 4 rfl (?_)
 rcases cond_some h with ⟨g3, h⟩ | ⟨g3, h⟩
 ·exact qg 10 g3 rfl (sp 5 rfl (evn (kimpl_within_J1 (decide (a0 ≤ a2)) h _ (okr rfl))))
 ·exact qg 10 g3 rfl (sp 5 rfl (evn (kimpl_within_J1 false h _ (okr rfl))))
def impl_VariableName (a0 : Int) : Option ((List UInt8)) := obind (impl_within a0 0 4) fun v2 => cond (!v2) (some []) (chk ((0 : Int) ≤ a0 ∧ a0 ≤ IntKind.i64.wrap (a0 + 1) ∧ IntKind.i64.wrap (a0 + 1) ≤ (List.length [88, 89, 90, 85, 86] : Int)) (some (subl [88, 89, 90, 85, 86] a0 (IntKind.i64.wrap (a0 + 1)))))
theorem impl_VariableName_s {a0 : Int} {r : (List UInt8)} (h : impl_VariableName a0 = some r) : SoundAt Try.prog 184 [nI a0] (.str r) := by
 unfold impl_VariableName at h
 refine sound_lit tbOk lit184 (nb rfl) rfl ?_
 unfold c184
 refine qi _ rfl (qk [0] rfl (ls_rs tbOk (sp 1 rfl (qe [0] rfl (ls_seq_k fun K1 hK1 => ls_rs tbOk (sp 1 rfl (?_)))))))
 obtain ⟨v2, g3, h⟩ := ob_some h
 refine qC (qs rfl (qs rfl (qs rfl eran))) (impl_within_s g3) (sp 1 rfl (qe [0, 5] rfl ?_))
 rcases cond_some h with ⟨g4, h⟩ | ⟨g4, h⟩
 ·refine qT rfl g4 (ls_rs tbOk (sp 1 rfl (qe [2] rfl (ls_ret ?_))))
  cases h
  exact ⟨.inl rfl, rfl⟩
 ·refine qF rfl g4 (ls_skip (hK1 _ (qk [0] rfl (ls_rs tbOk (sp 3 rfl (?_))))))
  obtain ⟨g5, h⟩ := chk_some h
  refine qSs rfl g5 (sp 1 rfl (qe [2] rfl (ls_ret ?_)))
  cases h
  exact ⟨.inl rfl, rfl⟩
def impl_parseNames_J3 (rec : (Int × Int) → Option (Int)) (y8 : Int) (x22 : Int) : Option (Int) := rec (x22, (IntKind.i64.wrap (y8 + 1)))
def impl_parseNames_B2 (a0 : List UInt8) (y4 : Int) (rec : (Int × Int) → Option (Int)) (s : Int × Int) : Option (Int) := match s with
  | (y7, y8) => cond (decide (y8 < 5)) (obind (impl_VariableName y8) fun v19 => chk ((0 : Int) ≤ y4 ∧ y4 ≤ IntKind.i64.wrap (y4 + 1) ∧ IntKind.i64.wrap (y4 + 1) ≤ (List.length a0 : Int)) (cond (v19 == (subl a0 y4 (IntKind.i64.wrap (y4 + 1)))) (impl_parseNames_J3 rec y8 y8) (impl_parseNames_J3 rec y8 y7))) (some y7)
def impl_parseNames_B1 (a0 : List UInt8) (rec : ((List Int) × Int) → Option (Sum ((List Int)) ((List Int) × Bool))) (s : (List Int) × Int) : Option (Sum ((List Int)) ((List Int) × Bool)) := match s with
  | (y3, y4) => cond (decide (y4 < (IntKind.i64.wrap ((List.length a0 : Int) - 1)))) (obind (loopF (impl_parseNames_B2 a0 y4) fz ((-1), 0)) fun z15 => cond (decide (z15 < 0)) (some (.inr (([] : List Int), false))) (chk (List.length y3 + List.length [z15] ≤ lim) (rec ((y3 ++ [z15]), (IntKind.i64.wrap (y4 + 1)))))) (some (.inl y3))
def impl_parseNames (a0 : List UInt8) : Option ((List Int) × Bool) := cond (decide ((List.length a0 : Int) < 2)) (some (([] : List Int), false)) (obind (geti a0 0) fun b3 => cond ((UInt8.toNat b3 : Int) != 40) (some (([] : List Int), false)) (obind (geti a0 (IntKind.i64.wrap ((List.length a0 : Int) - 1))) fun b6 => cond ((UInt8.toNat b6 : Int) != 41) (some (([] : List Int), false)) (obind (loopF (impl_parseNames_B1 a0) fz (([] : List Int), 1)) fun o1 => (match o1 with
  | .inl z10 => (some (z10, true))
  | .inr r => some r))))
theorem impl_parseNames_s {a0 : List UInt8} {r : (List Int) × Bool} (h : impl_parseNames a0 = some r) : SoundAt Try.prog 101 [.str a0] (.tup [oL 3 ci64 r.1, .bool r.2]) := by
 unfold impl_parseNames at h
 refine sound_lit tbOk lit101 (nb rfl) rfl ?_
 unfold c101
 refine qi _ rfl (qk [0] rfl (ls_rs tbOk (sp 2 rfl (qe [0] rfl (ls_seq_k fun K1 hK1 => ls_rs tbOk (sp 4 rfl (?_)))))))
 rcases cond_some h with ⟨g2, h⟩ | ⟨g2, h⟩
 ·refine qg 11 g2 rfl (sp 12 rfl (qe [0, 23] rfl (qT rfl rfl (ls_rs tbOk (sp 2 rfl (qe [2, 3] rfl (ls_ret ?_)))))))
  cases h
  exact ⟨.inl rfl, rfl⟩
 ·refine qg 11 g2 rfl (sp 1 rfl (?_))
  obtain ⟨b3, g4, h⟩ := ob_some h
  refine oGR rfl rfl (qX rfl g4 (sp 3 rfl (?_)))
  rcases cond_some h with ⟨g5, h⟩ | ⟨g5, h⟩
  ·refine qg 16 g5 rfl (sp 7 rfl (qe [0, 23] rfl (qT rfl rfl (ls_rs tbOk (sp 2 rfl (qe [2, 3] rfl (ls_ret ?_)))))))
   cases h
   exact ⟨.inl rfl, rfl⟩
  ·refine qg 16 g5 rfl (sp 4 rfl (?_))
   obtain ⟨b6, g7, h⟩ := ob_some h
   refine oGR rfl rfl (qX rfl g7 (sp 2 rfl (qe [0, 23] rfl ?_)))
   rcases cond_some h with ⟨g8, h⟩ | ⟨g8, h⟩
   ·refine qT rfl g8 (ls_rs tbOk (sp 2 rfl (qe [2, 3] rfl (ls_ret ?_))))
    cases h
    exact ⟨.inl rfl, rfl⟩
   ·refine qF rfl g8 (ls_skip (hK1 _ (qk [0] rfl (ls_rs tbOk (sp 1 rfl (qe [0, 4] rfl (ls_seq_k fun K9 hK9 => ls_rs tbOk (sp 1 rfl (qe [0, 4, 5] rfl ?_)))))))))
    obtain ⟨o1, hl, hr1⟩ := ob_some h
    clear h
    have kXimpl_parseNames_B1 : ∀ (z10 : List Int), (.inl z10) = o1 → ∀ σ' : PS, okK σ' [(4, oL 3 ci64 z10)] → K9 σ' := by
     intro z10 h σ' hk
     subst h
     replace h := hr1
     try dsimp only at h
     refine hK9 _ (ls_keep _ hk rfl (ls_rs tbOk (sp 3 rfl (qe [2, 3] rfl (ls_ret ?_)))))
     cases h
     exact ⟨.inl rfl, rfl⟩
    refine ls_rec (fun (s : (List Int) × Int) => match s with | (y3, y4) => [(0, .str a0), (4, oL 3 ci64 y3), (5, nI y4)]) _ _ _ _ hl (okr rfl) (fun _ => rfl) ?_
    rintro m ⟨y3, y4⟩ N h hN
    unfold impl_parseNames_B1 at h
    dsimp only at h
    refine ls_seq_k fun K11 hK11 => ls_rs tbOk (sp 5 rfl (qe [0, 4, 5, 28] rfl ?_))
    rcases cond_some h with ⟨g12, h⟩ | ⟨g12, h⟩
    ·refine qT rfl g12 (ls_skip (hK11 _ (qk [0, 4, 5] rfl (ls_seq_k fun K13 hK13 => ls_blk (ls_rs tbOk (sp 1 rfl (qe [0, 4, 5, 6] rfl (ls_seq_k fun K14 hK14 => ls_rs tbOk (sp 1 rfl (qe [0, 4, 5, 6, 7] rfl ?_))))))))))
     obtain ⟨o2, hl, hr2⟩ := ob_some h
     clear h
     have kXimpl_parseNames_B2 : ∀ (z15 : Int), z15 = o2 → ∀ σ' : PS, okK σ' [(0, .str a0), (4, oL 3 ci64 y3), (5, nI y4), (6, nI z15)] → K14 σ' := by
      intro z15 h σ' hk
      subst h
      replace h := hr2
      try dsimp only at h
      refine hK14 _ (ls_keep _ hk rfl (ls_seq_k fun K24 hK24 => ls_rs tbOk (sp 2 rfl (qe [0, 4, 5, 6, 45] rfl ?_))))
      rcases cond_some h with ⟨g25, h⟩ | ⟨g25, h⟩
      ·refine qT rfl g25 (ls_rs tbOk (sp 2 rfl (qe [2, 3] rfl (ls_ret ?_))))
       cases h
       cases hr1
       exact ⟨.inl rfl, rfl⟩
      ·refine qF rfl g25 (ls_skip (hK24 _ (qk [0, 4, 5, 6] rfl (ls_rgn tbOk (sp 2 rfl (qBs ci64 [z15] rfl rfl rfl zci64 (?_)))))))
       obtain ⟨g26, h⟩ := chk_some h
       exact qA ci64 y3 [z15] rfl rfl (flat_len zci64 [z15]) rfl g26 (sp 1 rfl (evn (hK13 _ (qk [0, 4, 5] rfl (ls_rgn tbOk (sp 3 rfl (evn (hN _ ((y3 ++ [z15]), (IntKind.i64.wrap (y4 + 1))) h (okr rfl)))))))))
     refine ls_rec (fun (s : Int × Int) => match s with | (y7, y8) => [(0, .str a0), (4, oL 3 ci64 y3), (5, nI y4), (6, nI y7), (7, nI y8)]) _ _ _ _ hl (okr rfl) (fun _ => rfl) ?_
     rintro m ⟨y7, y8⟩ N h hN
     unfold impl_parseNames_B2 at h
     dsimp only at h
     refine ls_seq_k fun K16 hK16 => ls_rs tbOk (sp 2 rfl (qe [0, 4, 5, 6, 7, 32] rfl ?_))
     rcases cond_some h with ⟨g17, h⟩ | ⟨g17, h⟩
     ·refine qT rfl g17 (ls_skip (hK16 _ (qk [0, 4, 5, 6, 7] rfl (ls_seq_k fun K18 hK18 => ls_blk (ls_rd tbOk mixed (by kernel_rfl) (sd 1 rfl (?_)))))))
      obtain ⟨v19, g20, h⟩ := ob_some h
      refine ed rfl (qC (qs rfl eran) (impl_VariableName_s g20) (sd 4 rfl (?_)))
      obtain ⟨g21, h⟩ := chk_some h
      refine ed rfl (qSs rfl g21 (sd 1 rfl (evdn (qk [0, 4, 5, 6, 7, 42] rfl ?_))))
      have kimpl_parseNames_J3 : ∀ (x22 : Int), impl_parseNames_J3 (loopF (impl_parseNames_B2 a0 y4) m) y8 x22 = some o2 → ∀ σ' : PS, okK σ' [(0, .str a0), (4, oL 3 ci64 y3), (5, nI y4), (6, nI x22), (7, nI y8)] → K18 σ' := by
       intro x22 h σ' hk
       unfold impl_parseNames_J3 at h
       exact hK18 _ (ls_keep _ hk rfl (ls_rgn tbOk (sp 3 rfl (evn (hN _ (x22, (IntKind.i64.wrap (y8 + 1))) h (okr rfl))))))
      rcases cond_some h with ⟨g23, h⟩ | ⟨g23, h⟩
      ·exact qT rfl g23 (ls_rgn tbOk (sp 2 rfl (evn (kimpl_parseNames_J3 y8 h _ (okr rfl)))))
      ·exact qF rfl g23 (ls_skip (kimpl_parseNames_J3 y7 h _ (okr rfl)))
     ·exact qF rfl g17 (ls_exit (kXimpl_parseNames_B2 y7 (Option.some.inj h) _ (okr rfl)))
    ·exact qF rfl g12 (ls_exit (kXimpl_parseNames_B1 y3 (Option.some.inj h) _ (okr rfl)))
def impl_readLong_B3 (x4 : List UInt8) (rec : (Int × Int) → Option (Sum (Int) (Int × Bool))) (s : Int × Int) : Option (Sum (Int) (Int × Bool)) := match s with
  | (y1, y2) => cond (decide (y2 < (List.length x4 : Int))) (obind (geti x4 y2) fun b14 => cond (decide ((UInt8.toNat b14 : Int) < 48)) (some (.inr (0, false))) (obind (geti x4 y2) fun b17 => cond (decide (57 < (UInt8.toNat b17 : Int))) (some (.inr (0, false))) (obind (geti x4 y2) fun b20 => rec ((IntKind.i64.wrap ((IntKind.i64.wrap (10 * y1)) + (IntKind.i64.wrap (IntKind.u8.wrap ((UInt8.toNat b20 : Int) - 48))))), (IntKind.i64.wrap (y2 + 1)))))) (some (.inl y1))
def impl_readLong_J4 (x23 : Int) : Option (Int × Bool) := some (x23, true)
def impl_readLong_J2 (x2 : Bool) (x4 : List UInt8) : Option (Int × Bool) := cond (x4 == []) (some (0, false)) (cond (decide (10 < (List.length x4 : Int))) (some (0, false)) (obind (loopF (impl_readLong_B3 x4) fz (0, 0)) fun o3 => (match o3 with
  | .inl z9 => (cond x2 (impl_readLong_J4 (IntKind.i64.wrap (0 - z9))) (impl_readLong_J4 z9))
  | .inr r => some r)))
def impl_readLong_J1 (a0 : List UInt8) (x2 : Bool) : Option (Int × Bool) := cond x2 (chk ((0 : Int) ≤ 1 ∧ 1 ≤ (List.length a0 : Int) ∧ (List.length a0 : Int) ≤ (List.length a0 : Int)) (impl_readLong_J2 x2 (subl a0 1 (List.length a0 : Int)))) (impl_readLong_J2 x2 a0)
def impl_readLong (a0 : List UInt8) : Option (Int × Bool) := cond (!(a0 == [])) (obind (geti a0 0) fun b28 => impl_readLong_J1 a0 ((UInt8.toNat b28 : Int) == 45)) (impl_readLong_J1 a0 false)
theorem impl_readLong_s {a0 : List UInt8} {r : Int × Bool} (h : impl_readLong a0 = some r) : SoundAt Try.prog 240 [.str a0] (.tup [nI r.1, .bool r.2]) := by
 unfold impl_readLong at h
 refine sound_lit tbOk lit240 (nb rfl) rfl ?_
 unfold c240
 refine qi _ rfl (qk [0] rfl (ls_rs tbOk (sp 2 rfl (qe [0] rfl (ls_rs tbOk (sp 2 rfl (qe [0, 4] rfl (ls_rs_k tbOk fun K1 hK1 => ?_))))))))
 have kimpl_readLong_J1 : ∀ (x2 : Bool), impl_readLong_J1 a0 x2 = some r → ∀ σ' : PS, okK σ' [(0, .str a0), (4, .str a0), (5, .bool x2)] → K1 σ' := by
  intro x2 h σ' hk
  unfold impl_readLong_J1 at h
  refine hK1 _ (ls_keep _ hk rfl (ls_seq_k fun K3 hK3 => ls_rs tbOk (sp 1 rfl (qe [0, 4, 5, 16] rfl ?_))))
  have kimpl_readLong_J2 : ∀ (x4 : List UInt8), impl_readLong_J2 x2 x4 = some r → ∀ σ' : PS, okK σ' [(4, .str x4), (5, .bool x2)] → K3 σ' := by
   intro x4 h σ' hk
   unfold impl_readLong_J2 at h
   refine hK3 _ (ls_keep _ hk rfl (ls_seq_k fun K5 hK5 => ls_rs tbOk (sp 3 rfl (?_))))
   rcases cond_some h with ⟨g6, h⟩ | ⟨g6, h⟩
   ·refine qg 21 g6 rfl (sp 4 rfl (qe [4, 5, 25] rfl (qT rfl rfl (ls_rs tbOk (sp 2 rfl (qe [2, 3] rfl (ls_ret ?_)))))))
    cases h
    exact ⟨.inl rfl, rfl⟩
   ·refine qg 21 g6 rfl (sp 4 rfl (qe [4, 5, 25] rfl ?_))
    rcases cond_some h with ⟨g7, h⟩ | ⟨g7, h⟩
    ·refine qT rfl g7 (ls_rs tbOk (sp 2 rfl (qe [2, 3] rfl (ls_ret ?_))))
     cases h
     exact ⟨.inl rfl, rfl⟩
    ·refine qF rfl g7 (ls_skip (hK5 _ (qk [4, 5] rfl (ls_rs tbOk (sp 1 rfl (qe [4, 5, 6] rfl (ls_seq_k fun K8 hK8 => ls_rs tbOk (sp 1 rfl (qe [4, 5, 6, 7] rfl ?_)))))))))
     obtain ⟨o3, hl, hr3⟩ := ob_some h
     clear h
     have kXimpl_readLong_B3 : ∀ (z9 : Int), (.inl z9) = o3 → ∀ σ' : PS, okK σ' [(5, .bool x2), (6, nI z9)] → K8 σ' := by
      intro z9 h σ' hk
      subst h
      replace h := hr3
      try dsimp only at h
      refine hK8 _ (ls_keep _ hk rfl (ls_seq_k fun K22 hK22 => ls_rs tbOk (sp 1 rfl (qe [6, 50] rfl ?_))))
      have kimpl_readLong_J4 : ∀ (x23 : Int), impl_readLong_J4 x23 = some r → ∀ σ' : PS, okK σ' [(6, nI x23)] → K22 σ' := by
       intro x23 h σ' hk
       unfold impl_readLong_J4 at h
       refine hK22 _ (ls_keep _ hk rfl (ls_rs tbOk (sp 3 rfl (qe [2, 3] rfl (ls_ret ?_)))))
       cases h
       exact ⟨.inl rfl, rfl⟩
      rcases cond_some h with ⟨g24, h⟩ | ⟨g24, h⟩
      ·exact qT rfl g24 (ls_rgn tbOk (sp 3 rfl (evn (kimpl_readLong_J4 (IntKind.i64.wrap (0 - z9)) h _ (okr rfl)))))
      ·exact qF rfl g24 (ls_skip (kimpl_readLong_J4 z9 h _ (okr rfl)))
     refine ls_rec (fun (s : Int × Int) => match s with | (y1, y2) => [(4, .str x4), (5, .bool x2), (6, nI y1), (7, nI y2)]) _ _ _ _ hl (okr rfl) (fun _ => rfl) ?_
     rintro m ⟨y1, y2⟩ N h hN
     unfold impl_readLong_B3 at h
     dsimp only at h
     refine ls_seq_k fun K10 hK10 => ls_rs tbOk (sp 4 rfl (qe [4, 5, 6, 7, 29] rfl ?_))
     rcases cond_some h with ⟨g11, h⟩ | ⟨g11, h⟩
     ·refine qT rfl g11 (ls_skip (hK10 _ (qk [4, 5, 6, 7] rfl (ls_seq_k fun K12 hK12 => ls_blk (ls_seq_k fun K13 hK13 => ls_rs tbOk (sp 2 rfl (?_)))))))
      obtain ⟨b14, g15, h⟩ := ob_some h
      refine qX rfl g15 (sp 2 rfl (?_))
      rcases cond_some h with ⟨g16, h⟩ | ⟨g16, h⟩
      ·refine qg 36 g16 rfl (sp 5 rfl (qe [4, 5, 6, 7, 41] rfl (qT rfl rfl (ls_rs tbOk (sp 2 rfl (qe [2, 3] rfl (ls_ret ?_)))))))
       cases h
       cases hr3
       exact ⟨.inl rfl, rfl⟩
      ·refine qg 36 g16 rfl (sp 2 rfl (?_))
       obtain ⟨b17, g18, h⟩ := ob_some h
       refine oGR rfl rfl (qX rfl g18 (sp 2 rfl (qe [4, 5, 6, 7, 41] rfl ?_)))
       rcases cond_some h with ⟨g19, h⟩ | ⟨g19, h⟩
       ·refine qT rfl g19 (ls_rs tbOk (sp 2 rfl (qe [2, 3] rfl (ls_ret ?_))))
        cases h
        cases hr3
        exact ⟨.inl rfl, rfl⟩
       ·refine qF rfl g19 (ls_skip (hK13 _ (qk [4, 5, 6, 7] rfl (ls_rgn tbOk (sp 4 rfl (?_))))))
        obtain ⟨b20, g21, h⟩ := ob_some h
        exact qX rfl g21 (sp 4 rfl (evn (hK12 _ (qk [4, 5, 6, 7] rfl (ls_rgn tbOk (sp 3 rfl (evn (hN _ ((IntKind.i64.wrap ((IntKind.i64.wrap (10 * y1)) + (IntKind.i64.wrap (IntKind.u8.wrap ((UInt8.toNat b20 : Int) - 48))))), (IntKind.i64.wrap (y2 + 1))) h (okr rfl)))))))))
     ·exact qF rfl g11 (ls_exit (kXimpl_readLong_B3 y1 (Option.some.inj h) _ (okr rfl)))
  rcases cond_some h with ⟨g25, h⟩ | ⟨g25, h⟩
  ·refine qT rfl g25 (ls_rgn tbOk (sp 1 rfl (?_)))
   obtain ⟨g26, h⟩ := chk_some h
   exact qSs rfl g26 (sp 1 rfl (evn (kimpl_readLong_J2 (subl a0 1 (List.length a0 : Int)) h _ (okr rfl))))
  ·exact qF rfl g25 (ls_skip (kimpl_readLong_J2 a0 h _ (okr rfl)))
 refine sp 3 rfl (?_)
 rcases cond_some h with ⟨g27, h⟩ | ⟨g27, h⟩
 ·refine qg 11 g27 rfl (sp 1 rfl (?_))
  obtain ⟨b28, g29, h⟩ := ob_some h
  exact oGR rfl rfl (qX rfl g29 (sp 3 rfl (evn (kimpl_readLong_J1 ((UInt8.toNat b28 : Int) == 45) h _ (okr rfl)))))
 ·exact qg 11 g27 rfl (sp 5 rfl (evn (kimpl_readLong_J1 false h _ (okr rfl))))
def impl_FormatInt_J2 (rec : (Int × (List Int)) → Option ((List Int))) (y1 : Int) (y2 : List Int) (x4 : Int) : Option ((List Int)) := chk (List.length [IntKind.u8.wrap (IntKind.i64.wrap (48 + x4))] + List.length y2 ≤ lim) (cond ((IntKind.i64.wrap (Int.tdiv y1 10)) == 0) (some ([IntKind.u8.wrap (IntKind.i64.wrap (48 + x4))] ++ y2)) (rec ((IntKind.i64.wrap (Int.tdiv y1 10)), ([IntKind.u8.wrap (IntKind.i64.wrap (48 + x4))] ++ y2))))
def impl_FormatInt_B1  (rec : (Int × (List Int)) → Option ((List Int))) (s : Int × (List Int)) : Option ((List Int)) := match s with
  | (y1, y2) => cond (decide ((Int.tmod y1 10) < 0)) (impl_FormatInt_J2 rec y1 y2 (IntKind.i64.wrap (0 - (Int.tmod y1 10)))) (impl_FormatInt_J2 rec y1 y2 (Int.tmod y1 10))
def impl_FormatInt (a0 : Int) : Option ((List UInt8)) := obind (loopF impl_FormatInt_B1 fz (a0, ([] : List Int))) fun z2 => cond (decide (a0 < 0)) (chk (List.length [45] + List.length (bytesOf z2) ≤ lim) (some ([45] ++ (bytesOf z2)))) (some (bytesOf z2))
theorem impl_FormatInt_s {a0 : Int} {r : (List UInt8)} (h : impl_FormatInt a0 = some r) : SoundAt Try.prog 187 [nI a0] (.str r) := by
 unfold impl_FormatInt at h
 refine sound_lit tbOk lit187 (nb rfl) rfl ?_
 unfold c187
 refine qi _ rfl (qk [0] rfl (ls_rs tbOk (sp 1 rfl (qe [0] rfl (ls_rs tbOk (sp 1 rfl (qe [0, 3] rfl (ls_rs tbOk (sp 3 rfl (qe [0, 3, 4] rfl (ls_seq_k fun K1 hK1 => ?_)))))))))))
 obtain ⟨o1, hl, hr1⟩ := ob_some h
 clear h
 have kXimpl_FormatInt_B1 : ∀ (z2 : List Int), z2 = o1 → ∀ σ' : PS, okK σ' [(3, oL 5 cu8 z2), (4, .bool (decide (a0 < 0)))] → K1 σ' := by
  intro z2 h σ' hk
  subst h
  replace h := hr1
  try dsimp only at h
  refine hK1 _ (ls_keep _ hk rfl (ls_seq_k fun K8 hK8 => ls_rs tbOk (sp 1 rfl (qe [3, 24] rfl ?_))))
  rcases cond_some h with ⟨g9, h⟩ | ⟨g9, h⟩
  ·refine qT rfl g9 (ls_rs tbOk (sp 1 rfl (qCs (l := z2) rfl rfl rfl rfl (?_))))
   obtain ⟨g10, h⟩ := chk_some h
   refine qB rfl g10 rfl (sp 1 rfl (qe [2] rfl (ls_ret ?_)))
   cases h
   exact ⟨.inl rfl, rfl⟩
  ·refine qF rfl g9 (ls_skip (hK8 _ (qk [3] rfl (ls_rs tbOk (sp 1 rfl (qCs (l := z2) rfl rfl rfl rfl (sp 1 rfl (qe [2] rfl (ls_ret ?_)))))))))
   cases h
   exact ⟨.inl rfl, rfl⟩
 refine ls_rec (fun (s : Int × (List Int)) => match s with | (y1, y2) => [(0, nI y1), (3, oL 5 cu8 y2), (4, .bool (decide (a0 < 0)))]) _ _ _ _ hl (okr rfl) (fun _ => rfl) ?_
 rintro m ⟨y1, y2⟩ N h hN
 unfold impl_FormatInt_B1 at h
 dsimp only at h
 refine ls_blk (ls_rs tbOk (sp 3 rfl (qe [0, 3, 4, 5] rfl (ls_seq_k fun K3 hK3 => ls_rs tbOk (sp 2 rfl (qe [0, 3, 4, 5, 11] rfl ?_))))))
 have kimpl_FormatInt_J2 : ∀ (x4 : Int), impl_FormatInt_J2 (loopF impl_FormatInt_B1 m) y1 y2 x4 = some o1 → ∀ σ' : PS, okK σ' [(0, nI y1), (3, oL 5 cu8 y2), (4, .bool (decide (a0 < 0))), (5, nI x4)] → K3 σ' := by
  intro x4 h σ' hk
  unfold impl_FormatInt_J2 at h
  refine hK3 _ (ls_keep _ hk rfl (ls_rs tbOk (sp 3 rfl (qBs cu8 [IntKind.u8.wrap (IntKind.i64.wrap (48 + x4))] rfl rfl rfl zcu8 (sp 1 rfl (?_))))))
  obtain ⟨g5, h⟩ := chk_some h
  refine qA cu8 [IntKind.u8.wrap (IntKind.i64.wrap (48 + x4))] y2 rfl rfl (flat_len zcu8 y2) rfl g5 (sp 1 rfl (qe [0, 3, 4] rfl (ls_rs tbOk (sp 3 rfl (qe [0, 3, 4] rfl (ls_rs tbOk (sp 2 rfl (qe [0, 3, 4, 23] rfl ?_))))))))
  rcases cond_some h with ⟨g6, h⟩ | ⟨g6, h⟩
  ·exact qT rfl g6 (ls_exit (kXimpl_FormatInt_B1 ([IntKind.u8.wrap (IntKind.i64.wrap (48 + x4))] ++ y2) (Option.some.inj h) _ (okr rfl)))
  ·exact qF rfl g6 (ls_skip (hN _ ((IntKind.i64.wrap (Int.tdiv y1 10)), ([IntKind.u8.wrap (IntKind.i64.wrap (48 + x4))] ++ y2)) h (okr rfl)))
 rcases cond_some h with ⟨g7, h⟩ | ⟨g7, h⟩
 ·exact qT rfl g7 (ls_rgn tbOk (sp 3 rfl (evn (kimpl_FormatInt_J2 (IntKind.i64.wrap (0 - (Int.tmod y1 10))) h _ (okr rfl)))))
 ·exact qF rfl g7 (ls_skip (kimpl_FormatInt_J2 (Int.tmod y1 10) h _ (okr rfl)))
def impl_gcd_B1  (rec : (Int × Int) → Option (Int)) (s : Int × Int) : Option (Int) := match s with
  | (y1, y2) => cond (y2 != 0) (chk (y2 ≠ 0) (rec (y2, (Int.tmod y1 y2)))) (some y1)
def impl_gcd (a0 : Int) (a1 : Int) : Option (Int) := obind (loopF impl_gcd_B1 fz (a0, a1)) fun z2 => some z2
theorem impl_gcd_s {a0 : Int} {a1 : Int} {r : Int} (h : impl_gcd a0 a1 = some r) : SoundAt Try.prog 264 [nI a0, nI a1] (nI r) := by
 unfold impl_gcd at h
 refine sound_lit tbOk lit264 (nb rfl) rfl ?_
 unfold c264
 refine qi _ rfl (qk [0, 1] rfl (ls_rs tbOk (sp 1 rfl (qe [0, 1] rfl (ls_seq_k fun K1 hK1 => ?_)))))
 obtain ⟨o1, hl, hr1⟩ := ob_some h
 clear h
 have kXimpl_gcd_B1 : ∀ (z2 : Int), z2 = o1 → ∀ σ' : PS, okK σ' [(0, nI z2)] → K1 σ' := by
  intro z2 h σ' hk
  subst h
  replace h := hr1
  try dsimp only at h
  refine hK1 _ (ls_keep _ hk rfl (ls_rs tbOk (sp 2 rfl (qe [4] rfl (ls_ret ?_)))))
  cases h
  exact ⟨.inl rfl, rfl⟩
 refine ls_rec (fun (s : Int × Int) => match s with | (y1, y2) => [(0, nI y1), (1, nI y2)]) _ _ _ _ hl (okr rfl) (fun _ => rfl) ?_
 rintro m ⟨y1, y2⟩ N h hN
 unfold impl_gcd_B1 at h
 dsimp only at h
 refine ls_seq_k fun K3 hK3 => ls_rs tbOk (sp 2 rfl (qe [0, 1, 6] rfl ?_))
 rcases cond_some h with ⟨g4, h⟩ | ⟨g4, h⟩
 ·refine qT rfl g4 (ls_skip (hK3 _ (qk [0, 1] rfl (ls_blk (ls_drw tbOk mixed (by kernel_rfl) (sd 3 rfl (?_)))))))
  obtain ⟨g5, h⟩ := chk_some h
  exact ed rfl (qB rfl ⟨rfl, g5⟩ rfl (sd 2 rfl (evdn (hN _ (y2, (Int.tmod y1 y2)) h (okr rfl)))))
 ·exact qF rfl g4 (ls_exit (kXimpl_gcd_B1 y1 (Option.some.inj h) _ (okr rfl)))
def impl_abs (a0 : Int) : Option (Int) := some (if a0 < (IntKind.i64.wrap (0 - a0)) then (IntKind.i64.wrap (0 - a0)) else a0)
theorem impl_abs_s {a0 : Int} {r : Int} (h : impl_abs a0 = some r) : SoundAt Try.prog 265 [nI a0] (nI r) := by
 unfold impl_abs at h
 refine sound_lit tbOk lit265 (nb rfl) rfl ?_
 unfold c265
 refine qi _ rfl (qk [0] rfl (ls_rs tbOk (sp 1 rfl (qe [0] rfl (ls_rs tbOk (sp 5 rfl (qe [2] rfl (ls_ret ?_))))))))
 cases h
 exact ⟨.inl rfl, rfl⟩
def impl_IsValidRational_J1 (x2 : Bool) : Option (Bool) := some x2
def impl_IsValidRational (a0 : Y214) : Option (Bool) := obind (impl_within a0.2 1 1000000000) fun v3 => cond v3 (obind (impl_within a0.1 (-1000000000) 1000000000) fun v6 => cond v6 (obind (impl_abs a0.1) fun v9 => obind (impl_gcd v9 a0.2) fun v11 => impl_IsValidRational_J1 (v11 == 1)) (impl_IsValidRational_J1 false)) (impl_IsValidRational_J1 false)
theorem impl_IsValidRational_s {a0 : Y214} {r : Bool} (h : impl_IsValidRational a0 = some r) : SoundAt Try.prog 257 [.agg (c215_ a0)] (.bool r) := by
 unfold impl_IsValidRational at h
 refine sound_lit tbOk lit257 (nb rfl) rfl ?_
 unfold c257
 refine qi _ rfl (qk [0] rfl (ls_rs tbOk (sp 2 rfl (qe [1] rfl (ls_rd_k tbOk mixed (by kernel_rfl) fun K1 hK1 => ?_)))))
 have kimpl_IsValidRational_J1 : ∀ (x2 : Bool), impl_IsValidRational_J1 x2 = some r → ∀ σ' : PS, okK σ' [(2, .bool x2)] → K1 σ' := by
  intro x2 h σ' hk
  unfold impl_IsValidRational_J1 at h
  refine hK1 _ (ls_keep _ hk rfl (ls_ret ?_))
  cases h
  exact ⟨.inl rfl, rfl⟩
 refine sd 2 rfl (?_)
 obtain ⟨v3, g4, h⟩ := ob_some h
 refine ed rfl (qC (qs rfl (qs rfl (qs rfl eran))) (impl_within_s g4) (sd 1 rfl (?_)))
 rcases cond_some h with ⟨g5, h⟩ | ⟨g5, h⟩
 ·refine qgd 6 g5 rfl (sd 2 rfl (?_))
  obtain ⟨v6, g7, h⟩ := ob_some h
  refine ed rfl (oGR rfl rfl (qC (qs rfl (qs rfl (qs rfl eran))) (impl_within_s g7) (sd 2 rfl (?_))))
  rcases cond_some h with ⟨g8, h⟩ | ⟨g8, h⟩
  ·refine qgd 11 g8 rfl (sd 2 rfl (?_))
   obtain ⟨v9, g10, h⟩ := ob_some h
   refine ed rfl (oGR rfl rfl (qC (qs rfl eran) (impl_abs_s g10) (sd 2 rfl (?_))))
   obtain ⟨v11, g12, h⟩ := ob_some h
   exact ed rfl (oGR rfl rfl (qC (qs rfl (qs rfl eran)) (impl_gcd_s g12) (sd 3 rfl (evdn (kimpl_IsValidRational_J1 (v11 == 1) h _ (okr rfl))))))
  ·exact qgd 11 g8 rfl (sd 9 rfl (evdn (kimpl_IsValidRational_J1 false h _ (okr rfl))))
 ·exact qgd 6 g5 rfl (sd 14 rfl (evdn (kimpl_IsValidRational_J1 false h _ (okr rfl))))
def impl_FormatRational (a0 : Y214) : Option ((List UInt8)) := obind (impl_IsValidRational a0) fun v2 => cond (!v2) (some []) (cond (a0.2 == 1) (obind (impl_FormatInt a0.1) fun v6 => some v6) (obind (impl_FormatInt a0.1) fun v8 => chk (List.length v8 + List.length [47] ≤ lim) (obind (impl_FormatInt a0.2) fun v11 => chk (List.length (v8 ++ [47]) + List.length v11 ≤ lim) (some ((v8 ++ [47]) ++ v11)))))
theorem impl_FormatRational_s {a0 : Y214} {r : (List UInt8)} (h : impl_FormatRational a0 = some r) : SoundAt Try.prog 241 [.agg (c215_ a0)] (.str r) := by
 unfold impl_FormatRational at h
 refine sound_lit tbOk lit241 (nb rfl) rfl ?_
 unfold c241
 refine qi _ rfl (qk [0] rfl (ls_rs tbOk (sp 2 rfl (qe [1] rfl (ls_seq_k fun K1 hK1 => ls_blk (ls_rs tbOk (sp 1 rfl (?_))))))))
 obtain ⟨v2, g3, h⟩ := ob_some h
 refine qC (qa rfl (erg (erc rfl (erc rfl rfl))) eran) (impl_IsValidRational_s g3) (sp 2 rfl (qe [1, 3] rfl ?_))
 rcases cond_some h with ⟨g4, h⟩ | ⟨g4, h⟩
 ·refine qT rfl g4 (ls_rs tbOk (sp 1 rfl (qe [2] rfl (ls_ret ?_))))
  cases h
  exact ⟨.inl rfl, rfl⟩
 ·refine qF rfl g4 (ls_rs tbOk (sp 4 rfl (qe [1, 7] rfl ?_)))
  rcases cond_some h with ⟨g5, h⟩ | ⟨g5, h⟩
  ·refine qT rfl g5 (ls_rs tbOk (sp 2 rfl (?_)))
   obtain ⟨v6, g7, h⟩ := ob_some h
   refine qC (qs rfl eran) (impl_FormatInt_s g7) (sp 1 rfl (qe [2] rfl (ls_ret ?_)))
   cases h
   exact ⟨.inl rfl, rfl⟩
  ·refine qF rfl g5 (ls_skip (hK1 _ (qk [1] rfl (ls_rd tbOk mixed (by kernel_rfl) (sd 2 rfl (?_))))))
   obtain ⟨v8, g9, h⟩ := ob_some h
   refine ed rfl (qC (qs rfl eran) (impl_FormatInt_s g9) (?_))
   obtain ⟨g10, h⟩ := chk_some h
   refine ed rfl (qB rfl g10 rfl (sd 2 rfl (?_)))
   obtain ⟨v11, g12, h⟩ := ob_some h
   refine ed rfl (qC (qs rfl eran) (impl_FormatInt_s g12) (?_))
   obtain ⟨g13, h⟩ := chk_some h
   refine ed rfl (qB rfl g13 rfl (sd 1 rfl (evdn (qk [2] rfl (ls_ret ?_)))))
   cases h
   exact ⟨.inl rfl, rfl⟩
def impl_ParseRational_J2 (a0 : List UInt8) (v1 : (List (List UInt8))) (v5 : Int × Bool) (x10 : Int) (x11 : Bool) : Option (Y214 × Bool) := cond (!x11) (some ((0, 0), false)) (cond (decide (2 < (List.length v1 : Int))) (some ((0, 0), false)) (cond (a0 == []) (some ((0, 0), false)) (obind (impl_FormatRational (v5.1, x10)) fun v16 => cond (!(v16 == a0)) (some ((0, 0), false)) (some ((v5.1, x10), true)))))
def impl_ParseRational_J1 (a0 : List UInt8) (v1 : (List (List UInt8))) (v5 : Int × Bool) (x9 : Bool) : Option (Y214 × Bool) := cond x9 (obind (geti v1 1) fun e20 => obind (impl_readLong e20) fun v22 => impl_ParseRational_J2 a0 v1 v5 v22.1 v22.2) (impl_ParseRational_J2 a0 v1 v5 1 v5.2)
def impl_ParseRational (a0 : List UInt8) : Option (Y214 × Bool) := obind (impl_split a0 47) fun v1 => obind (geti v1 0) fun e3 => obind (impl_readLong e3) fun v5 => cond v5.2 (impl_ParseRational_J1 a0 v1 v5 ((List.length v1 : Int) == 2)) (impl_ParseRational_J1 a0 v1 v5 false)
theorem impl_ParseRational_s {a0 : List UInt8} {r : Y214 × Bool} (h : impl_ParseRational a0 = some r) : SoundAt Try.prog 185 [.str a0] (.tup [.agg (c215_ r.1), .bool r.2]) := by
 unfold impl_ParseRational at h
 refine sound_lit tbOk lit185 (nb rfl) rfl ?_
 unfold c185
 refine qi _ rfl (qk [0] rfl (ls_rs tbOk (sp 2 rfl (qe [0, 2] rfl (ls_rs tbOk (sp 1 rfl (?_)))))))
 obtain ⟨v1, g2, h⟩ := ob_some h
 refine qC (qs rfl (qs rfl eran)) (impl_split_s g2) (sp 1 rfl (qe [0, 2, 4] rfl (ls_rs tbOk (sp 3 rfl (qe [0, 2, 4, 5] rfl (ls_rs tbOk (sp 1 rfl (?_))))))))
 obtain ⟨e3, g4, h⟩ := ob_some h
 refine qI rfl zcst g4 (sp 1 rfl (?_))
 obtain ⟨v5, g6, h⟩ := ob_some h
 refine qC (qs rfl eran) (impl_readLong_s g6) (sp 5 rfl (qe [0, 2, 4, 5, 6, 7] rfl (ls_rs tbOk (sp 3 rfl (qe [0, 2, 4, 5, 7] rfl (ls_seq_k fun K7 hK7 => ls_rs_k tbOk fun K8 hK8 => ?_))))))
 have kimpl_ParseRational_J1 : ∀ (x9 : Bool), impl_ParseRational_J1 a0 v1 v5 x9 = some r → ∀ σ' : PS, okK σ' [(0, .str a0), (2, .box [nI 0, nI 0]), (4, oL 9 cst v1), (5, .box [nI v5.1, nI 1]), (7, .bool v5.2), (25, .bool x9)] → K8 σ' := by
  intro x9 h σ' hk
  unfold impl_ParseRational_J1 at h
  refine hK8 _ (ls_keep _ hk rfl ?_)
  have kimpl_ParseRational_J2 : ∀ (x10 : Int) (x11 : Bool), impl_ParseRational_J2 a0 v1 v5 x10 x11 = some r → ∀ σ' : PS, okK σ' [(0, .str a0), (2, .box [nI 0, nI 0]), (4, oL 9 cst v1), (5, .box [nI v5.1, nI x10]), (7, .bool x11)] → K7 σ' := by
   intro x10 x11 h σ' hk
   unfold impl_ParseRational_J2 at h
   refine hK7 _ (ls_keep _ hk rfl (ls_seq_k fun K12 hK12 => ls_rs tbOk (sp 3 rfl (?_))))
   rcases cond_some h with ⟨g13, h⟩ | ⟨g13, h⟩
   ·refine qg 36 g13 rfl (sp 14 rfl (qe [2, 5, 50] rfl (qT rfl rfl (ls_rs tbOk (sp 3 rfl (qe [2, 3] rfl (ls_ret ?_)))))))
    cases h
    exact ⟨.inl rfl, rfl⟩
   ·refine qg 36 g13 rfl (sp 5 rfl (?_))
    rcases cond_some h with ⟨g14, h⟩ | ⟨g14, h⟩
    ·refine qg 41 g14 rfl (sp 9 rfl (qe [2, 5, 50] rfl (qT rfl rfl (ls_rs tbOk (sp 3 rfl (qe [2, 3] rfl (ls_ret ?_)))))))
     cases h
     exact ⟨.inl rfl, rfl⟩
    ·refine qg 41 g14 rfl (sp 4 rfl (?_))
     rcases cond_some h with ⟨g15, h⟩ | ⟨g15, h⟩
     ·refine qg 45 g15 rfl (sp 5 rfl (qe [2, 5, 50] rfl (qT rfl rfl (ls_rs tbOk (sp 3 rfl (qe [2, 3] rfl (ls_ret ?_)))))))
      cases h
      exact ⟨.inl rfl, rfl⟩
     ·refine qg 45 g15 rfl (sp 1 rfl (?_))
      obtain ⟨v16, g17, h⟩ := ob_some h
      refine oGR rfl rfl (qC (qa rfl (erg (erc rfl (erc rfl rfl))) eran) (impl_FormatRational_s g17) (sp 3 rfl (qe [2, 5, 50] rfl ?_)))
      rcases cond_some h with ⟨g18, h⟩ | ⟨g18, h⟩
      ·refine qT rfl g18 (ls_rs tbOk (sp 3 rfl (qe [2, 3] rfl (ls_ret ?_))))
       cases h
       exact ⟨.inl rfl, rfl⟩
      ·refine qF rfl g18 (ls_skip (hK12 _ (qk [2, 5] rfl (ls_rs tbOk (sp 3 rfl (qe [2, 3] rfl (ls_ret ?_)))))))
       cases h
       exact ⟨.inl rfl, rfl⟩
  rcases cond_some h with ⟨g19, h⟩ | ⟨g19, h⟩
  ·refine qT rfl g19 (ls_rgn tbOk (sp 1 rfl (?_)))
   obtain ⟨e20, g21, h⟩ := ob_some h
   refine qI rfl zcst g21 (sp 1 rfl (?_))
   obtain ⟨v22, g23, h⟩ := ob_some h
   exact qC (qs rfl eran) (impl_readLong_s g23) (sp 6 rfl (evn (kimpl_ParseRational_J2 v22.1 v22.2 h _ (okr rfl))))
  ·exact qF rfl g19 (ls_skip (kimpl_ParseRational_J2 1 v5.2 h _ (okr rfl)))
 refine sp 2 rfl (?_)
 rcases cond_some h with ⟨g24, h⟩ | ⟨g24, h⟩
 ·exact qg 21 g24 rfl (sp 4 rfl (evn (kimpl_ParseRational_J1 ((List.length v1 : Int) == 2) h _ (okr rfl))))
 ·exact qg 21 g24 rfl (sp 4 rfl (evn (kimpl_ParseRational_J1 false h _ (okr rfl))))
def impl_ParseRationals_B1 (v4 : (List (List UInt8))) (rec : ((List Y214) × Int) → Option (Sum ((List Y214)) ((List Y214) × Bool))) (s : (List Y214) × Int) : Option (Sum ((List Y214)) ((List Y214) × Bool)) := match s with
  | (y1, y2) => cond (decide (y2 < (List.length v4 : Int))) (obind (geti v4 y2) fun e10 => obind (impl_ParseRational e10) fun v12 => cond (!v12.2) (some (.inr (([] : List Y214), false))) (chk (List.length y1 + List.length [v12.1] ≤ lim) (rec ((y1 ++ [v12.1]), (IntKind.i64.wrap (y2 + 1)))))) (some (.inl y1))
def impl_ParseRationals (a0 : List UInt8) : Option ((List Y214) × Bool) := cond (a0 == []) (some (([] : List Y214), true)) (obind (impl_split a0 32) fun v4 => obind (loopF (impl_ParseRationals_B1 v4) fz (([] : List Y214), 0)) fun o1 => (match o1 with
  | .inl z6 => (some (z6, true))
  | .inr r => some r))
theorem impl_ParseRationals_s {a0 : List UInt8} {r : (List Y214) × Bool} (h : impl_ParseRationals a0 = some r) : SoundAt Try.prog 102 [.str a0] (.tup [oL 215 c215_ r.1, .bool r.2]) := by
 unfold impl_ParseRationals at h
 refine sound_lit tbOk lit102 (nb rfl) rfl ?_
 unfold c102
 refine qi _ rfl (qk [0] rfl (ls_rs tbOk (sp 2 rfl (qe [0] rfl (ls_seq_k fun K1 hK1 => ls_rs tbOk (sp 2 rfl (qe [0, 10] rfl ?_)))))))
 rcases cond_some h with ⟨g2, h⟩ | ⟨g2, h⟩
 ·refine qT rfl g2 (ls_rs tbOk (sp 2 rfl (qe [2, 3] rfl (ls_ret ?_))))
  cases h
  exact ⟨.inl rfl, rfl⟩
 ·refine qF rfl g2 (ls_skip (hK1 _ (qk [0] rfl (ls_rs tbOk (sp 1 rfl (qe [0, 4] rfl (ls_seq_k fun K3 hK3 => ls_rs tbOk (sp 1 rfl (?_)))))))))
  obtain ⟨v4, g5, h⟩ := ob_some h
  refine qC (qs rfl (qs rfl eran)) (impl_split_s g5) (sp 2 rfl (qe [4, 12, 13, 14] rfl ?_))
  obtain ⟨o1, hl, hr1⟩ := ob_some h
  clear h
  have kXimpl_ParseRationals_B1 : ∀ (z6 : List Y214), (.inl z6) = o1 → ∀ σ' : PS, okK σ' [(4, oL 215 c215_ z6)] → K3 σ' := by
   intro z6 h σ' hk
   subst h
   replace h := hr1
   try dsimp only at h
   refine hK3 _ (ls_keep _ hk rfl (ls_rs tbOk (sp 3 rfl (qe [2, 3] rfl (ls_ret ?_)))))
   cases h
   exact ⟨.inl rfl, rfl⟩
  refine ls_rec (fun (s : (List Y214) × Int) => match s with | (y1, y2) => [(4, oL 215 c215_ y1), (12, oL 9 cst v4), (13, nI (List.length v4 : Int)), (14, nI y2)]) _ _ _ _ hl (okr rfl) (fun _ => rfl) ?_
  rintro m ⟨y1, y2⟩ N h hN
  unfold impl_ParseRationals_B1 at h
  dsimp only at h
  refine ls_rs tbOk (sp 1 rfl (qe [4, 12, 13, 14, 15] rfl (ls_seq_k fun K7 hK7 => ?_)))
  rcases cond_some h with ⟨g8, h⟩ | ⟨g8, h⟩
  ·refine qT rfl g8 (ls_skip (hK7 _ (qk [4, 12, 13, 14] rfl (ls_seq_k fun K9 hK9 => ls_blk (ls_rs tbOk ?_)))))
   obtain ⟨e10, g11, h⟩ := ob_some h
   refine qI rfl zcst g11 (sp 2 rfl (qe [4, 6, 12, 13, 14] rfl (ls_rs tbOk (sp 1 rfl (?_)))))
   obtain ⟨v12, g13, h⟩ := ob_some h
   refine qC (qs rfl eran) (impl_ParseRational_s g13) (sp 6 rfl (qe [4, 7, 8, 12, 13, 14] rfl (ls_seq_k fun K14 hK14 => ls_rs tbOk (sp 2 rfl (qe [4, 7, 12, 13, 14, 24] rfl ?_)))))
   rcases cond_some h with ⟨g15, h⟩ | ⟨g15, h⟩
   ·refine qT rfl g15 (ls_rs tbOk (sp 2 rfl (qe [2, 3] rfl (ls_ret ?_))))
    cases h
    cases hr1
    exact ⟨.inl rfl, rfl⟩
   ·refine qF rfl g15 (ls_skip (hK14 _ (qk [4, 7, 12, 13, 14] rfl (ls_rgn tbOk (sp 2 rfl (qBs c215_ [v12.1] rfl rfl rfl zc215_ (?_)))))))
    obtain ⟨g16, h⟩ := chk_some h
    exact qA c215_ y1 [v12.1] rfl rfl (flat_len zc215_ [v12.1]) rfl g16 (sp 1 rfl (evn (hK9 _ (qk [4, 12, 13, 14] rfl (ls_rgn tbOk (sp 2 rfl (evn (hN _ ((y1 ++ [v12.1]), (IntKind.i64.wrap (y2 + 1))) h (okr rfl)))))))))
  ·exact qF rfl g8 (ls_exit (kXimpl_ParseRationals_B1 y1 (Option.some.inj h) _ (okr rfl)))
def impl_readWide_B3 (x5 : List UInt8) (rec : (Int × Int) → Option (Sum (Int) (Int × Bool))) (s : Int × Int) : Option (Sum (Int) (Int × Bool)) := match s with
  | (y1, y2) => cond (decide (y2 < (List.length x5 : Int))) (obind (geti x5 y2) fun b15 => cond (decide ((UInt8.toNat b15 : Int) < 48)) (some (.inr (0, false))) (obind (geti x5 y2) fun b18 => cond (decide (57 < (UInt8.toNat b18 : Int))) (some (.inr (0, false))) (obind (geti x5 y2) fun b21 => rec ((IntKind.i64.wrap ((IntKind.i64.wrap (10 * y1)) + (IntKind.i64.wrap (IntKind.u8.wrap ((UInt8.toNat b21 : Int) - 48))))), (IntKind.i64.wrap (y2 + 1)))))) (some (.inl y1))
def impl_readWide_J2 (x4 : Int) (x5 : List UInt8) : Option (Int × Bool) := cond (x5 == []) (some (0, false)) (cond (decide (11 < (List.length x5 : Int))) (some (0, false)) (obind (loopF (impl_readWide_B3 x5) fz (0, 0)) fun o3 => (match o3 with
  | .inl z10 => (some (IntKind.i64.wrap (x4 * z10), true))
  | .inr r => some r)))
def impl_readWide_J1 (a0 : List UInt8) (x3 : Bool) : Option (Int × Bool) := cond x3 (chk ((0 : Int) ≤ 1 ∧ 1 ≤ (List.length a0 : Int) ∧ (List.length a0 : Int) ≤ (List.length a0 : Int)) (impl_readWide_J2 (-1) (subl a0 1 (List.length a0 : Int)))) (impl_readWide_J2 1 a0)
def impl_readWide (a0 : List UInt8) : Option (Int × Bool) := cond (!(a0 == [])) (obind (geti a0 0) fun b26 => impl_readWide_J1 a0 ((UInt8.toNat b26 : Int) == 45)) (impl_readWide_J1 a0 false)
theorem impl_readWide_s {a0 : List UInt8} {r : Int × Bool} (h : impl_readWide a0 = some r) : SoundAt Try.prog 103 [.str a0] (.tup [nI r.1, .bool r.2]) := by
 unfold impl_readWide at h
 refine sound_lit tbOk lit103 (nb rfl) rfl ?_
 unfold c103
 refine qi _ rfl (qk [0] rfl (ls_rs tbOk (sp 2 rfl (qe [0] rfl (ls_rs tbOk (sp 1 rfl (qe [0, 4] rfl (ls_rs tbOk (sp 2 rfl (qe [0, 4, 5] rfl (ls_seq_k fun K1 hK1 => ls_rs_k tbOk fun K2 hK2 => ?_)))))))))))
 have kimpl_readWide_J1 : ∀ (x3 : Bool), impl_readWide_J1 a0 x3 = some r → ∀ σ' : PS, okK σ' [(0, .str a0), (4, nI 1), (5, .str a0), (15, .bool x3)] → K2 σ' := by
  intro x3 h σ' hk
  unfold impl_readWide_J1 at h
  refine hK2 _ (ls_keep _ hk rfl ?_)
  have kimpl_readWide_J2 : ∀ (x4 : Int) (x5 : List UInt8), impl_readWide_J2 x4 x5 = some r → ∀ σ' : PS, okK σ' [(4, nI x4), (5, .str x5)] → K1 σ' := by
   intro x4 x5 h σ' hk
   unfold impl_readWide_J2 at h
   refine hK1 _ (ls_keep _ hk rfl (ls_seq_k fun K6 hK6 => ls_rs tbOk (sp 3 rfl (?_))))
   rcases cond_some h with ⟨g7, h⟩ | ⟨g7, h⟩
   ·refine qg 20 g7 rfl (sp 4 rfl (qe [4, 5, 24] rfl (qT rfl rfl (ls_rs tbOk (sp 2 rfl (qe [2, 3] rfl (ls_ret ?_)))))))
    cases h
    exact ⟨.inl rfl, rfl⟩
   ·refine qg 20 g7 rfl (sp 4 rfl (qe [4, 5, 24] rfl ?_))
    rcases cond_some h with ⟨g8, h⟩ | ⟨g8, h⟩
    ·refine qT rfl g8 (ls_rs tbOk (sp 2 rfl (qe [2, 3] rfl (ls_ret ?_))))
     cases h
     exact ⟨.inl rfl, rfl⟩
    ·refine qF rfl g8 (ls_skip (hK6 _ (qk [4, 5] rfl (ls_rs tbOk (sp 1 rfl (qe [4, 5, 6] rfl (ls_seq_k fun K9 hK9 => ls_rs tbOk (sp 1 rfl (qe [4, 5, 6, 7] rfl ?_)))))))))
     obtain ⟨o3, hl, hr3⟩ := ob_some h
     clear h
     have kXimpl_readWide_B3 : ∀ (z10 : Int), (.inl z10) = o3 → ∀ σ' : PS, okK σ' [(4, nI x4), (6, nI z10)] → K9 σ' := by
      intro z10 h σ' hk
      subst h
      replace h := hr3
      try dsimp only at h
      refine hK9 _ (ls_keep _ hk rfl (ls_rs tbOk (sp 5 rfl (qe [2, 3] rfl (ls_ret ?_)))))
      cases h
      exact ⟨.inl rfl, rfl⟩
     refine ls_rec (fun (s : Int × Int) => match s with | (y1, y2) => [(4, nI x4), (5, .str x5), (6, nI y1), (7, nI y2)]) _ _ _ _ hl (okr rfl) (fun _ => rfl) ?_
     rintro m ⟨y1, y2⟩ N h hN
     unfold impl_readWide_B3 at h
     dsimp only at h
     refine ls_seq_k fun K11 hK11 => ls_rs tbOk (sp 4 rfl (qe [4, 5, 6, 7, 28] rfl ?_))
     rcases cond_some h with ⟨g12, h⟩ | ⟨g12, h⟩
     ·refine qT rfl g12 (ls_skip (hK11 _ (qk [4, 5, 6, 7] rfl (ls_seq_k fun K13 hK13 => ls_blk (ls_seq_k fun K14 hK14 => ls_rs tbOk (sp 2 rfl (?_)))))))
      obtain ⟨b15, g16, h⟩ := ob_some h
      refine qX rfl g16 (sp 2 rfl (?_))
      rcases cond_some h with ⟨g17, h⟩ | ⟨g17, h⟩
      ·refine qg 35 g17 rfl (sp 5 rfl (qe [4, 5, 6, 7, 40] rfl (qT rfl rfl (ls_rs tbOk (sp 2 rfl (qe [2, 3] rfl (ls_ret ?_)))))))
       cases h
       cases hr3
       exact ⟨.inl rfl, rfl⟩
      ·refine qg 35 g17 rfl (sp 2 rfl (?_))
       obtain ⟨b18, g19, h⟩ := ob_some h
       refine oGR rfl rfl (qX rfl g19 (sp 2 rfl (qe [4, 5, 6, 7, 40] rfl ?_)))
       rcases cond_some h with ⟨g20, h⟩ | ⟨g20, h⟩
       ·refine qT rfl g20 (ls_rs tbOk (sp 2 rfl (qe [2, 3] rfl (ls_ret ?_))))
        cases h
        cases hr3
        exact ⟨.inl rfl, rfl⟩
       ·refine qF rfl g20 (ls_skip (hK14 _ (qk [4, 5, 6, 7] rfl (ls_rgn tbOk (sp 4 rfl (?_))))))
        obtain ⟨b21, g22, h⟩ := ob_some h
        exact qX rfl g22 (sp 4 rfl (evn (hK13 _ (qk [4, 5, 6, 7] rfl (ls_rgn tbOk (sp 3 rfl (evn (hN _ ((IntKind.i64.wrap ((IntKind.i64.wrap (10 * y1)) + (IntKind.i64.wrap (IntKind.u8.wrap ((UInt8.toNat b21 : Int) - 48))))), (IntKind.i64.wrap (y2 + 1))) h (okr rfl)))))))))
     ·exact qF rfl g12 (ls_exit (kXimpl_readWide_B3 y1 (Option.some.inj h) _ (okr rfl)))
  rcases cond_some h with ⟨g23, h⟩ | ⟨g23, h⟩
  ·refine qT rfl g23 (ls_rs tbOk (sp 1 rfl (qe [0, 4] rfl (ls_rgn tbOk (sp 1 rfl (?_))))))
   obtain ⟨g24, h⟩ := chk_some h
   exact qSs rfl g24 (sp 1 rfl (evn (kimpl_readWide_J2 (-1) (subl a0 1 (List.length a0 : Int)) h _ (okr rfl))))
  ·exact qF rfl g23 (ls_skip (kimpl_readWide_J2 1 a0 h _ (okr rfl)))
 refine sp 3 rfl (?_)
 rcases cond_some h with ⟨g25, h⟩ | ⟨g25, h⟩
 ·refine qg 11 g25 rfl (sp 1 rfl (?_))
  obtain ⟨b26, g27, h⟩ := ob_some h
  exact oGR rfl rfl (qX rfl g27 (sp 2 rfl (evn (kimpl_readWide_J1 ((UInt8.toNat b26 : Int) == 45) h _ (okr rfl)))))
 ·exact qg 11 g25 rfl (sp 4 rfl (evn (kimpl_readWide_J1 false h _ (okr rfl))))
def impl_join_J2 (rec : ((List UInt8) × Int) → Option ((List UInt8))) (y2 : Int) (e6 : List UInt8) (x9 : List UInt8) : Option ((List UInt8)) := chk (List.length x9 + List.length e6 ≤ lim) (rec ((x9 ++ e6), (IntKind.i64.wrap (y2 + 1))))
def impl_join_B1 (a0 : List (List UInt8)) (a1 : List UInt8) (rec : ((List UInt8) × Int) → Option ((List UInt8))) (s : (List UInt8) × Int) : Option ((List UInt8)) := match s with
  | (y1, y2) => cond (decide (y2 < (List.length a0 : Int))) (obind (geti a0 y2) fun e6 => cond (decide (0 < y2)) (chk (List.length y1 + List.length a1 ≤ lim) (impl_join_J2 rec y2 e6 (y1 ++ a1))) (impl_join_J2 rec y2 e6 y1)) (some y1)
def impl_join (a0 : List (List UInt8)) (a1 : List UInt8) : Option ((List UInt8)) := obind (loopF (impl_join_B1 a0 a1) fz ([], 0)) fun z2 => some z2
theorem impl_join_s {a0 : List (List UInt8)} {a1 : List UInt8} {r : (List UInt8)} (h : impl_join a0 a1 = some r) : SoundAt Try.prog 221 [dL cst a0, .str a1] (.str r) := by
 unfold impl_join at h
 refine sound_lit tbOk lit221 (nb rfl) rfl ?_
 unfold c221
 refine qi _ rfl (qk [0, 1] rfl (ls_rs tbOk (sp 1 rfl (qe [0, 1] rfl (ls_rs tbOk (sp 1 rfl (qe [0, 1, 5] rfl (ls_seq_k fun K1 hK1 => ls_rs tbOk (sp 3 rfl (qe [1, 5, 8, 9, 10] rfl ?_))))))))))
 obtain ⟨o1, hl, hr1⟩ := ob_some h
 clear h
 have kXimpl_join_B1 : ∀ (z2 : List UInt8), z2 = o1 → ∀ σ' : PS, okK σ' [(5, .str z2)] → K1 σ' := by
  intro z2 h σ' hk
  subst h
  replace h := hr1
  try dsimp only at h
  refine hK1 _ (ls_keep _ hk rfl (ls_rs tbOk (sp 2 rfl (qe [4] rfl (ls_ret ?_)))))
  cases h
  exact ⟨.inl rfl, rfl⟩
 refine ls_rec (fun (s : (List UInt8) × Int) => match s with | (y1, y2) => [(1, .str a1), (5, .str y1), (8, dL cst a0), (9, nI (List.length a0 : Int)), (10, nI y2)]) _ _ _ _ hl (okr rfl) (fun _ => rfl) ?_
 rintro m ⟨y1, y2⟩ N h hN
 unfold impl_join_B1 at h
 dsimp only at h
 refine ls_rs tbOk (sp 1 rfl (qe [1, 5, 8, 9, 10, 11] rfl (ls_seq_k fun K3 hK3 => ?_)))
 rcases cond_some h with ⟨g4, h⟩ | ⟨g4, h⟩
 ·refine qT rfl g4 (ls_skip (hK3 _ (qk [1, 5, 8, 9, 10] rfl (ls_seq_k fun K5 hK5 => ls_blk (ls_rs tbOk (sp 1 rfl (?_)))))))
  obtain ⟨e6, g7, h⟩ := ob_some h
  refine qI rfl zcst g7 (sp 3 rfl (qe [1, 5, 6, 7, 8, 9, 10] rfl (ls_seq_k fun K8 hK8 => ls_rs tbOk (sp 2 rfl (qe [1, 5, 7, 8, 9, 10, 16] rfl ?_)))))
  have kimpl_join_J2 : ∀ (x9 : List UInt8), impl_join_J2 (loopF (impl_join_B1 a0 a1) m) y2 e6 x9 = some o1 → ∀ σ' : PS, okK σ' [(1, .str a1), (5, .str x9), (7, .str e6), (8, dL cst a0), (9, nI (List.length a0 : Int)), (10, nI y2)] → K8 σ' := by
   intro x9 h σ' hk
   unfold impl_join_J2 at h
   refine hK8 _ (ls_keep _ hk rfl (ls_rgn tbOk (sp 2 rfl (?_))))
   obtain ⟨g10, h⟩ := chk_some h
   exact qB rfl g10 rfl (sp 1 rfl (evn (hK5 _ (qk [1, 5, 8, 9, 10] rfl (ls_rgn tbOk (sp 2 rfl (evn (hN _ ((x9 ++ e6), (IntKind.i64.wrap (y2 + 1))) h (okr rfl)))))))))
  rcases cond_some h with ⟨g11, h⟩ | ⟨g11, h⟩
  ·refine qT rfl g11 (ls_rgn tbOk (sp 2 rfl (?_)))
   obtain ⟨g12, h⟩ := chk_some h
   exact qB rfl g12 rfl (sp 1 rfl (evn (kimpl_join_J2 (y1 ++ a1) h _ (okr rfl))))
  ·exact qF rfl g11 (ls_skip (kimpl_join_J2 y1 h _ (okr rfl)))
 ·exact qF rfl g4 (ls_exit (kXimpl_join_B1 y1 (Option.some.inj h) _ (okr rfl)))
def impl_formatList_B1 (a0 : List Int) (rec : ((List (List UInt8)) × Int) → Option ((List (List UInt8)))) (s : (List (List UInt8)) × Int) : Option ((List (List UInt8))) := match s with
  | (y1, y2) => cond (decide (y2 < (List.length a0 : Int))) (obind (geti a0 y2) fun e6 => obind (impl_FormatInt e6) fun v8 => chk (List.length y1 + List.length [v8] ≤ lim) (rec ((y1 ++ [v8]), (IntKind.i64.wrap (y2 + 1))))) (some y1)
def impl_formatList (a0 : List Int) (a1 : List UInt8) : Option ((List UInt8)) := obind (loopF (impl_formatList_B1 a0) fz (([] : List (List UInt8)), 0)) fun z2 => obind (impl_join z2 a1) fun v11 => some v11
theorem impl_formatList_s {a0 : List Int} {a1 : List UInt8} {r : (List UInt8)} (h : impl_formatList a0 a1 = some r) : SoundAt Try.prog 145 [dL ci64 a0, .str a1] (.str r) := by
 unfold impl_formatList at h
 refine sound_lit tbOk lit145 (nb rfl) rfl ?_
 unfold c145
 refine qi _ rfl (qk [0, 1] rfl (ls_rs tbOk (sp 1 rfl (qe [0, 1] rfl (ls_rs tbOk (sp 1 rfl (qe [0, 1, 5] rfl (ls_seq_k fun K1 hK1 => ls_rs tbOk (sp 3 rfl (qe [1, 5, 8, 9, 10] rfl ?_))))))))))
 obtain ⟨o1, hl, hr1⟩ := ob_some h
 clear h
 have kXimpl_formatList_B1 : ∀ (z2 : List (List UInt8)), z2 = o1 → ∀ σ' : PS, okK σ' [(1, .str a1), (5, oL 9 cst z2)] → K1 σ' := by
  intro z2 h σ' hk
  subst h
  replace h := hr1
  try dsimp only at h
  refine hK1 _ (ls_keep _ hk rfl (ls_rs tbOk (sp 2 rfl (?_))))
  obtain ⟨v11, g12, h⟩ := ob_some h
  refine qC (qa rfl (erD ecst _) (qs rfl eran)) (impl_join_s g12) (sp 1 rfl (qe [4] rfl (ls_ret ?_)))
  cases h
  exact ⟨.inl rfl, rfl⟩
 refine ls_rec (fun (s : (List (List UInt8)) × Int) => match s with | (y1, y2) => [(1, .str a1), (5, oL 9 cst y1), (8, dL ci64 a0), (9, nI (List.length a0 : Int)), (10, nI y2)]) _ _ _ _ hl (okr rfl) (fun _ => rfl) ?_
 rintro m ⟨y1, y2⟩ N h hN
 unfold impl_formatList_B1 at h
 dsimp only at h
 refine ls_rs tbOk (sp 1 rfl (qe [1, 5, 8, 9, 10, 11] rfl (ls_seq_k fun K3 hK3 => ?_)))
 rcases cond_some h with ⟨g4, h⟩ | ⟨g4, h⟩
 ·refine qT rfl g4 (ls_skip (hK3 _ (qk [1, 5, 8, 9, 10] rfl (ls_seq_k fun K5 hK5 => ls_blk (ls_rs tbOk ?_)))))
  obtain ⟨e6, g7, h⟩ := ob_some h
  refine qI rfl zci64 g7 (sp 2 rfl (qe [1, 5, 7, 8, 9, 10] rfl (ls_rgn tbOk (sp 2 rfl (?_)))))
  obtain ⟨v8, g9, h⟩ := ob_some h
  refine qC (qs rfl eran) (impl_FormatInt_s g9) (qBs cst [v8] rfl rfl rfl zcst (?_))
  obtain ⟨g10, h⟩ := chk_some h
  exact qA cst y1 [v8] rfl rfl (flat_len zcst [v8]) rfl g10 (sp 1 rfl (evn (hK5 _ (qk [1, 5, 8, 9, 10] rfl (ls_rgn tbOk (sp 2 rfl (evn (hN _ ((y1 ++ [v8]), (IntKind.i64.wrap (y2 + 1))) h (okr rfl)))))))))
 ·exact qF rfl g4 (ls_exit (kXimpl_formatList_B1 y1 (Option.some.inj h) _ (okr rfl)))
def impl_namesOf_B1 (a0 : List Int) (rec : ((List UInt8) × Int) → Option ((List UInt8))) (s : (List UInt8) × Int) : Option ((List UInt8)) := match s with
  | (y1, y2) => cond (decide (y2 < (List.length a0 : Int))) (obind (geti a0 y2) fun e6 => obind (impl_VariableName e6) fun v8 => chk (List.length y1 + List.length v8 ≤ lim) (rec ((y1 ++ v8), (IntKind.i64.wrap (y2 + 1))))) (some y1)
def impl_namesOf (a0 : List Int) : Option ((List UInt8)) := obind (loopF (impl_namesOf_B1 a0) fz ([], 0)) fun z2 => some z2
theorem impl_namesOf_s {a0 : List Int} {r : (List UInt8)} (h : impl_namesOf a0 = some r) : SoundAt Try.prog 147 [dL ci64 a0] (.str r) := by
 unfold impl_namesOf at h
 refine sound_lit tbOk lit147 (nb rfl) rfl ?_
 unfold c147
 refine qi _ rfl (qk [0] rfl (ls_rs tbOk (sp 1 rfl (qe [0] rfl (ls_rs tbOk (sp 1 rfl (qe [0, 3] rfl (ls_seq_k fun K1 hK1 => ls_rs tbOk (sp 3 rfl (qe [3, 6, 7, 8] rfl ?_))))))))))
 obtain ⟨o1, hl, hr1⟩ := ob_some h
 clear h
 have kXimpl_namesOf_B1 : ∀ (z2 : List UInt8), z2 = o1 → ∀ σ' : PS, okK σ' [(3, .str z2)] → K1 σ' := by
  intro z2 h σ' hk
  subst h
  replace h := hr1
  try dsimp only at h
  refine hK1 _ (ls_keep _ hk rfl (ls_rs tbOk (sp 2 rfl (qe [2] rfl (ls_ret ?_)))))
  cases h
  exact ⟨.inl rfl, rfl⟩
 refine ls_rec (fun (s : (List UInt8) × Int) => match s with | (y1, y2) => [(3, .str y1), (6, dL ci64 a0), (7, nI (List.length a0 : Int)), (8, nI y2)]) _ _ _ _ hl (okr rfl) (fun _ => rfl) ?_
 rintro m ⟨y1, y2⟩ N h hN
 unfold impl_namesOf_B1 at h
 dsimp only at h
 refine ls_rs tbOk (sp 1 rfl (qe [3, 6, 7, 8, 9] rfl (ls_seq_k fun K3 hK3 => ?_)))
 rcases cond_some h with ⟨g4, h⟩ | ⟨g4, h⟩
 ·refine qT rfl g4 (ls_skip (hK3 _ (qk [3, 6, 7, 8] rfl (ls_seq_k fun K5 hK5 => ls_blk (ls_rs tbOk ?_)))))
  obtain ⟨e6, g7, h⟩ := ob_some h
  refine qI rfl zci64 g7 (sp 2 rfl (qe [3, 5, 6, 7, 8] rfl (ls_rgn tbOk (sp 2 rfl (?_)))))
  obtain ⟨v8, g9, h⟩ := ob_some h
  refine qC (qs rfl eran) (impl_VariableName_s g9) (?_)
  obtain ⟨g10, h⟩ := chk_some h
  exact qB rfl g10 rfl (sp 1 rfl (evn (hK5 _ (qk [3, 6, 7, 8] rfl (ls_rgn tbOk (sp 2 rfl (evn (hN _ ((y1 ++ v8), (IntKind.i64.wrap (y2 + 1))) h (okr rfl)))))))))
 ·exact qF rfl g4 (ls_exit (kXimpl_namesOf_B1 y1 (Option.some.inj h) _ (okr rfl)))
def impl_FormatRationals_B1 (a0 : List Y214) (rec : ((List (List UInt8)) × Int) → Option (Sum ((List (List UInt8))) ((List UInt8)))) (s : (List (List UInt8)) × Int) : Option (Sum ((List (List UInt8))) ((List UInt8))) := match s with
  | (y1, y2) => cond (decide (y2 < (List.length a0 : Int))) (obind (geti a0 y2) fun e6 => obind (impl_FormatRational e6) fun v8 => cond (v8 == []) (some (.inr [])) (chk (List.length y1 + List.length [v8] ≤ lim) (rec ((y1 ++ [v8]), (IntKind.i64.wrap (y2 + 1)))))) (some (.inl y1))
def impl_FormatRationals (a0 : List Y214) : Option ((List UInt8)) := obind (loopF (impl_FormatRationals_B1 a0) fz (([] : List (List UInt8)), 0)) fun o1 => (match o1 with
  | .inl z2 => (obind (impl_join z2 [32]) fun v13 => some v13)
  | .inr r => some r)
theorem impl_FormatRationals_s {a0 : List Y214} {r : (List UInt8)} (h : impl_FormatRationals a0 = some r) : SoundAt Try.prog 186 [dL c215_ a0] (.str r) := by
 unfold impl_FormatRationals at h
 refine sound_lit tbOk lit186 (nb rfl) rfl ?_
 unfold c186
 refine qi _ rfl (qk [0] rfl (ls_rs tbOk (sp 1 rfl (qe [0] rfl (ls_rs tbOk (sp 1 rfl (qe [0, 3] rfl (ls_seq_k fun K1 hK1 => ls_rs tbOk (sp 3 rfl (qe [3, 7, 8, 9] rfl ?_))))))))))
 obtain ⟨o1, hl, hr1⟩ := ob_some h
 clear h
 have kXimpl_FormatRationals_B1 : ∀ (z2 : List (List UInt8)), (.inl z2) = o1 → ∀ σ' : PS, okK σ' [(3, oL 9 cst z2)] → K1 σ' := by
  intro z2 h σ' hk
  subst h
  replace h := hr1
  try dsimp only at h
  refine hK1 _ (ls_keep _ hk rfl (ls_rs tbOk (sp 1 rfl (?_))))
  obtain ⟨v13, g14, h⟩ := ob_some h
  refine qC (qa rfl (erD ecst _) (qs rfl eran)) (impl_join_s g14) (sp 1 rfl (qe [2] rfl (ls_ret ?_)))
  cases h
  exact ⟨.inl rfl, rfl⟩
 refine ls_rec (fun (s : (List (List UInt8)) × Int) => match s with | (y1, y2) => [(3, oL 9 cst y1), (7, dL c215_ a0), (8, nI (List.length a0 : Int)), (9, nI y2)]) _ _ _ _ hl (okr rfl) (fun _ => rfl) ?_
 rintro m ⟨y1, y2⟩ N h hN
 unfold impl_FormatRationals_B1 at h
 dsimp only at h
 refine ls_rs tbOk (sp 1 rfl (qe [3, 7, 8, 9, 10] rfl (ls_seq_k fun K3 hK3 => ?_)))
 rcases cond_some h with ⟨g4, h⟩ | ⟨g4, h⟩
 ·refine qT rfl g4 (ls_skip (hK3 _ (qk [3, 7, 8, 9] rfl (ls_seq_k fun K5 hK5 => ls_blk (ls_rs tbOk ?_)))))
  obtain ⟨e6, g7, h⟩ := ob_some h
  refine qI rfl zc215_ g7 (sp 3 rfl (qe [3, 5, 7, 8, 9] rfl (ls_rs tbOk (sp 1 rfl (?_)))))
  obtain ⟨v8, g9, h⟩ := ob_some h
  refine qC (qa rfl (erg (erc rfl (erc rfl rfl))) eran) (impl_FormatRational_s g9) (sp 1 rfl (qe [3, 6, 7, 8, 9] rfl (ls_seq_k fun K10 hK10 => ls_rs tbOk (sp 2 rfl (qe [3, 6, 7, 8, 9, 16] rfl ?_)))))
  rcases cond_some h with ⟨g11, h⟩ | ⟨g11, h⟩
  ·refine qT rfl g11 (ls_rs tbOk (sp 1 rfl (qe [2] rfl (ls_ret ?_))))
   cases h
   cases hr1
   exact ⟨.inl rfl, rfl⟩
  ·refine qF rfl g11 (ls_skip (hK10 _ (qk [3, 6, 7, 8, 9] rfl (ls_rgn tbOk (sp 2 rfl (qBs cst [v8] rfl rfl rfl zcst (?_)))))))
   obtain ⟨g12, h⟩ := chk_some h
   exact qA cst y1 [v8] rfl rfl (flat_len zcst [v8]) rfl g12 (sp 1 rfl (evn (hK5 _ (qk [3, 7, 8, 9] rfl (ls_rgn tbOk (sp 2 rfl (evn (hN _ ((y1 ++ [v8]), (IntKind.i64.wrap (y2 + 1))) h (okr rfl)))))))))
 ·exact qF rfl g4 (ls_exit (kXimpl_FormatRationals_B1 y1 (Option.some.inj h) _ (okr rfl)))
def impl_FormatCertificate_J1 (a0 : Y58) (v1 : (List UInt8)) (x5 : Bool) : Option ((List UInt8)) := cond x5 (some []) (obind (impl_namesOf a0.1) fun v7 => chk (List.length [40] + List.length v7 ≤ lim) (chk (List.length ([40] ++ v7) + List.length [41, 59] ≤ lim) (chk (List.length (([40] ++ v7) ++ [41, 59]) + List.length v1 ≤ lim) (chk (List.length ((([40] ++ v7) ++ [41, 59]) ++ v1) + List.length [59] ≤ lim) (obind (impl_formatList a0.2.2.1 [32]) fun v13 => chk (List.length (((([40] ++ v7) ++ [41, 59]) ++ v1) ++ [59]) + List.length v13 ≤ lim) (chk (List.length ((((([40] ++ v7) ++ [41, 59]) ++ v1) ++ [59]) ++ v13) + List.length [59] ≤ lim) (obind (impl_FormatInt a0.2.2.2.1) fun v17 => chk (List.length (((((([40] ++ v7) ++ [41, 59]) ++ v1) ++ [59]) ++ v13) ++ [59]) + List.length v17 ≤ lim) (chk (List.length ((((((([40] ++ v7) ++ [41, 59]) ++ v1) ++ [59]) ++ v13) ++ [59]) ++ v17) + List.length [59] ≤ lim) (obind (impl_FormatInt a0.2.2.2.2) fun v21 => chk (List.length (((((((([40] ++ v7) ++ [41, 59]) ++ v1) ++ [59]) ++ v13) ++ [59]) ++ v17) ++ [59]) + List.length v21 ≤ lim) (some ((((((((([40] ++ v7) ++ [41, 59]) ++ v1) ++ [59]) ++ v13) ++ [59]) ++ v17) ++ [59]) ++ v21)))))))))))
def impl_FormatCertificate (a0 : Y58) : Option ((List UInt8)) := obind (impl_FormatRationals a0.2.1) fun v1 => cond (decide (5 < (List.length a0.1 : Int))) (impl_FormatCertificate_J1 a0 v1 true) (cond (decide (4 < (List.length a0.2.1 : Int))) (impl_FormatCertificate_J1 a0 v1 true) (cond (decide (4 < (List.length a0.2.2.1 : Int))) (impl_FormatCertificate_J1 a0 v1 true) (cond (v1 == []) (impl_FormatCertificate_J1 a0 v1 (decide (0 < (List.length a0.2.1 : Int)))) (impl_FormatCertificate_J1 a0 v1 false))))
theorem impl_FormatCertificate_s {a0 : Y58} {r : (List UInt8)} (h : impl_FormatCertificate a0 = some r) : SoundAt Try.prog 104 [.agg (c59_ddd a0)] (.str r) := by
 unfold impl_FormatCertificate at h
 refine sound_lit tbOk lit104 (nb rfl) rfl ?_
 unfold c104
 refine qi _ rfl (qk [0] rfl (ls_rs tbOk (sp 2 rfl (qe [1] rfl (ls_rs tbOk (sp 3 rfl (qe [3] rfl (ls_rs tbOk (sp 2 rfl (?_))))))))))
 obtain ⟨v1, g2, h⟩ := ob_some h
 refine qC (qa rfl (erD ec215_ _) eran) (impl_FormatRationals_s g2) (sp 1 rfl (qe [3, 4] rfl (ls_seq_k fun K3 hK3 => ls_rs_k tbOk fun K4 hK4 => ?_)))
 have kimpl_FormatCertificate_J1 : ∀ (x5 : Bool), impl_FormatCertificate_J1 a0 v1 x5 = some r → ∀ σ' : PS, okK σ' [(3, .box [dL ci64 a0.1, dL c215_ a0.2.1, dL ci64 a0.2.2.1, nI a0.2.2.2.1, nI a0.2.2.2.2]), (4, .str v1), (34, .bool x5)] → K4 σ' := by
  intro x5 h σ' hk
  unfold impl_FormatCertificate_J1 at h
  refine hK4 _ (ls_keep _ hk rfl ?_)
  rcases cond_some h with ⟨g6, h⟩ | ⟨g6, h⟩
  ·refine qT rfl g6 (ls_rs tbOk (sp 1 rfl (qe [2] rfl (ls_ret ?_))))
   cases h
   exact ⟨.inl rfl, rfl⟩
  ·refine qF rfl g6 (ls_skip (hK3 _ (qk [3, 4] rfl (ls_rd tbOk mixed (by kernel_rfl) (sd 2 rfl (?_))))))
   obtain ⟨v7, g8, h⟩ := ob_some h
   refine ed rfl (qC (qa rfl (erD eci64 _) eran) (impl_namesOf_s g8) (?_))
   obtain ⟨g9, h⟩ := chk_some h
   refine ed rfl (qB rfl g9 rfl (?_))
   obtain ⟨g10, h⟩ := chk_some h
   refine ed rfl (qB rfl g10 rfl (sd 1 rfl (?_)))
   obtain ⟨g11, h⟩ := chk_some h
   refine ed rfl (qB rfl g11 rfl (?_))
   obtain ⟨g12, h⟩ := chk_some h
   refine ed rfl (qB rfl g12 rfl (sd 2 rfl (?_)))
   obtain ⟨v13, g14, h⟩ := ob_some h
   refine ed rfl (qC (qa rfl (erD eci64 _) (qs rfl eran)) (impl_formatList_s g14) (?_))
   obtain ⟨g15, h⟩ := chk_some h
   refine ed rfl (qB rfl g15 rfl (?_))
   obtain ⟨g16, h⟩ := chk_some h
   refine ed rfl (qB rfl g16 rfl (sd 2 rfl (?_)))
   obtain ⟨v17, g18, h⟩ := ob_some h
   refine ed rfl (qC (qs rfl eran) (impl_FormatInt_s g18) (?_))
   obtain ⟨g19, h⟩ := chk_some h
   refine ed rfl (qB rfl g19 rfl (?_))
   obtain ⟨g20, h⟩ := chk_some h
   refine ed rfl (qB rfl g20 rfl (sd 2 rfl (?_)))
   obtain ⟨v21, g22, h⟩ := ob_some h
   refine ed rfl (qC (qs rfl eran) (impl_FormatInt_s g22) (?_))
   obtain ⟨g23, h⟩ := chk_some h
   refine ed rfl (qB rfl g23 rfl (sd 1 rfl (evdn (qk [2] rfl (ls_ret ?_)))))
   cases h
   exact ⟨.inl rfl, rfl⟩
 refine sp 5 rfl (?_)
 rcases cond_some h with ⟨g24, h⟩ | ⟨g24, h⟩
 ·exact qg 13 g24 rfl (sp 21 rfl (evn (kimpl_FormatCertificate_J1 true h _ (okr rfl))))
 ·refine qg 13 g24 rfl (sp 6 rfl (?_))
  rcases cond_some h with ⟨g25, h⟩ | ⟨g25, h⟩
  ·exact qg 19 g25 rfl (sp 15 rfl (evn (kimpl_FormatCertificate_J1 true h _ (okr rfl))))
  ·refine qg 19 g25 rfl (sp 6 rfl (?_))
   rcases cond_some h with ⟨g26, h⟩ | ⟨g26, h⟩
   ·exact qg 25 g26 rfl (sp 9 rfl (evn (kimpl_FormatCertificate_J1 true h _ (okr rfl))))
   ·refine qg 25 g26 rfl (sp 3 rfl (?_))
    rcases cond_some h with ⟨g27, h⟩ | ⟨g27, h⟩
    ·exact qg 28 g27 rfl (sp 6 rfl (evn (kimpl_FormatCertificate_J1 (decide (0 < (List.length a0.2.1 : Int))) h _ (okr rfl))))
    ·exact qg 28 g27 rfl (sp 6 rfl (evn (kimpl_FormatCertificate_J1 false h _ (okr rfl))))
def impl_ParseCertificate_J1 (a0 : List UInt8) (v1 : (List (List UInt8))) (v7 : (List Int) × Bool) (v11 : (List Y214) × Bool) (x16 : List Int) : Option (Y58 × Bool) := obind (geti v1 3) fun e17 => obind (impl_readWide e17) fun v19 => obind (geti v1 4) fun e21 => obind (impl_readWide e21) fun v23 => cond (!v7.2) (some (([], [], [], 0, 0), false)) (cond (!v11.2) (some (([], [], [], 0, 0), false)) (cond (!v19.2) (some (([], [], [], 0, 0), false)) (cond (!v23.2) (some (([], [], [], 0, 0), false)) (obind (impl_FormatCertificate (v7.1, v11.1, x16, v19.1, v23.1)) fun v30 => cond (!(v30 == a0)) (some (([], [], [], 0, 0), false)) (some ((v7.1, v11.1, x16, v19.1, v23.1), true))))))
def impl_ParseCertificate_B2 (v36 : (List (List UInt8))) (rec : ((List Int) × Int) → Option (Sum ((List Int)) (Y58 × Bool))) (s : (List Int) × Int) : Option (Sum ((List Int)) (Y58 × Bool)) := match s with
  | (y3, y4) => cond (decide (y4 < (List.length v36 : Int))) (obind (geti v36 y4) fun e42 => obind (impl_readWide e42) fun v44 => cond (!v44.2) (some (.inr (([], [], [], 0, 0), false))) (chk (List.length y3 + List.length [v44.1] ≤ lim) (rec ((y3 ++ [v44.1]), (IntKind.i64.wrap (y4 + 1)))))) (some (.inl y3))
def impl_ParseCertificate (a0 : List UInt8) : Option (Y58 × Bool) := obind (impl_split a0 59) fun v1 => cond ((List.length v1 : Int) != 5) (some (([], [], [], 0, 0), false)) (obind (geti v1 0) fun e5 => obind (impl_parseNames e5) fun v7 => obind (geti v1 1) fun e9 => obind (impl_ParseRationals e9) fun v11 => obind (geti v1 2) fun e14 => cond (!(e14 == [])) (obind (geti v1 2) fun e34 => obind (impl_split e34 32) fun v36 => obind (loopF (impl_ParseCertificate_B2 v36) fz (([] : List Int), 0)) fun o2 => (match o2 with
  | .inl z38 => (impl_ParseCertificate_J1 a0 v1 v7 v11 z38)
  | .inr r => some r)) (impl_ParseCertificate_J1 a0 v1 v7 v11 ([] : List Int)))
theorem impl_ParseCertificate_s {a0 : List UInt8} {r : Y58 × Bool} (h : impl_ParseCertificate a0 = some r) : SoundAt Try.prog 34 [.str a0] (.tup [.agg (c59_ooo r.1), .bool r.2]) := by
 unfold impl_ParseCertificate at h
 refine sound_lit tbOk lit34 (nb rfl) rfl ?_
 unfold c34
 refine qi _ rfl (qk [0] rfl (ls_rs tbOk (sp 2 rfl (qe [0, 2] rfl (ls_rs tbOk (sp 1 rfl (?_)))))))
 obtain ⟨v1, g2, h⟩ := ob_some h
 refine qC (qs rfl (qs rfl eran)) (impl_split_s g2) (sp 1 rfl (qe [0, 2, 4] rfl (ls_seq_k fun K3 hK3 => ls_rs tbOk (sp 3 rfl (qe [0, 2, 4, 22] rfl ?_)))))
 rcases cond_some h with ⟨g4, h⟩ | ⟨g4, h⟩
 ·refine qT rfl g4 (ls_rs tbOk (sp 3 rfl (qe [2, 3] rfl (ls_ret ?_))))
  cases h
  exact ⟨.inl rfl, rfl⟩
 ·refine qF rfl g4 (ls_skip (hK3 _ (qk [0, 2, 4] rfl (ls_rs tbOk (sp 1 rfl (qe [0, 2, 4, 5] rfl (ls_rs tbOk (sp 1 rfl (?_)))))))))
  obtain ⟨e5, g6, h⟩ := ob_some h
  refine qI rfl zcst g6 (sp 1 rfl (?_))
  obtain ⟨v7, g8, h⟩ := ob_some h
  refine qC (qs rfl eran) (impl_parseNames_s g8) (sp 5 rfl (qe [0, 2, 4, 5, 6, 7] rfl (ls_rs tbOk (sp 1 rfl (?_)))))
  obtain ⟨e9, g10, h⟩ := ob_some h
  refine qI rfl zcst g10 (sp 1 rfl (?_))
  obtain ⟨v11, g12, h⟩ := ob_some h
  refine qC (qs rfl eran) (impl_ParseRationals_s g12) (sp 5 rfl (qe [0, 2, 4, 5, 6, 7, 8, 9] rfl (ls_seq_k fun K13 hK13 => ls_rs tbOk (sp 1 rfl (?_)))))
  obtain ⟨e14, g15, h⟩ := ob_some h
  refine qI rfl zcst g15 (sp 2 rfl (qe [0, 2, 4, 5, 6, 7, 8, 9, 41] rfl ?_))
  have kimpl_ParseCertificate_J1 : ∀ (x16 : List Int), impl_ParseCertificate_J1 a0 v1 v7 v11 x16 = some r → ∀ σ' : PS, okK σ' [(0, .str a0), (2, .box [oL 3 ci64 [], oL 215 c215_ [], oL 3 ci64 [], nI 0, nI 0]), (4, oL 9 cst v1), (5, .box [oL 3 ci64 [], oL 215 c215_ [], oL 3 ci64 x16, nI 0, nI 0]), (6, oL 3 ci64 v7.1), (7, .bool v7.2), (8, oL 215 c215_ v11.1), (9, .bool v11.2)] → K13 σ' := by
   intro x16 h σ' hk
   unfold impl_ParseCertificate_J1 at h
   refine hK13 _ (ls_keep _ hk rfl (ls_rs tbOk (sp 1 rfl (?_))))
   obtain ⟨e17, g18, h⟩ := ob_some h
   refine qI rfl zcst g18 (sp 1 rfl (?_))
   obtain ⟨v19, g20, h⟩ := ob_some h
   refine qC (qs rfl eran) (impl_readWide_s g20) (sp 5 rfl (qe [0, 2, 4, 5, 6, 7, 8, 9, 14, 15] rfl (ls_rs tbOk (sp 1 rfl (?_)))))
   obtain ⟨e21, g22, h⟩ := ob_some h
   refine qI rfl zcst g22 (sp 1 rfl (?_))
   obtain ⟨v23, g24, h⟩ := ob_some h
   refine qC (qs rfl eran) (impl_readWide_s g24) (sp 5 rfl (qe [0, 2, 5, 6, 7, 8, 9, 14, 15, 16, 17] rfl (ls_rs tbOk (sp 12 rfl (qe [0, 2, 5, 7, 9, 15, 17] rfl (ls_seq_k fun K25 hK25 => ls_rs tbOk (sp 3 rfl (?_))))))))
   rcases cond_some h with ⟨g26, h⟩ | ⟨g26, h⟩
   ·refine qg 90 g26 rfl (sp 17 rfl (qe [2, 5, 107] rfl (qT rfl rfl (ls_rs tbOk (sp 3 rfl (qe [2, 3] rfl (ls_ret ?_)))))))
    cases h
    exact ⟨.inl rfl, rfl⟩
   ·refine qg 90 g26 rfl (sp 4 rfl (?_))
    rcases cond_some h with ⟨g27, h⟩ | ⟨g27, h⟩
    ·refine qg 94 g27 rfl (sp 13 rfl (qe [2, 5, 107] rfl (qT rfl rfl (ls_rs tbOk (sp 3 rfl (qe [2, 3] rfl (ls_ret ?_)))))))
     cases h
     exact ⟨.inl rfl, rfl⟩
    ·refine qg 94 g27 rfl (sp 4 rfl (?_))
     rcases cond_some h with ⟨g28, h⟩ | ⟨g28, h⟩
     ·refine qg 98 g28 rfl (sp 9 rfl (qe [2, 5, 107] rfl (qT rfl rfl (ls_rs tbOk (sp 3 rfl (qe [2, 3] rfl (ls_ret ?_)))))))
      cases h
      exact ⟨.inl rfl, rfl⟩
     ·refine qg 98 g28 rfl (sp 4 rfl (?_))
      rcases cond_some h with ⟨g29, h⟩ | ⟨g29, h⟩
      ·refine qg 102 g29 rfl (sp 5 rfl (qe [2, 5, 107] rfl (qT rfl rfl (ls_rs tbOk (sp 3 rfl (qe [2, 3] rfl (ls_ret ?_)))))))
       cases h
       exact ⟨.inl rfl, rfl⟩
      ·refine qg 102 g29 rfl (sp 1 rfl (?_))
       obtain ⟨v30, g31, h⟩ := ob_some h
       refine oGR rfl rfl (qC (qa rfl (erg (erc (erD eci64 _) (erc (erD ec215_ _) (erc (erD eci64 _) (erc rfl (erc rfl rfl)))))) eran) (impl_FormatCertificate_s g31) (sp 3 rfl (qe [2, 5, 107] rfl ?_)))
       rcases cond_some h with ⟨g32, h⟩ | ⟨g32, h⟩
       ·refine qT rfl g32 (ls_rs tbOk (sp 3 rfl (qe [2, 3] rfl (ls_ret ?_))))
        cases h
        exact ⟨.inl rfl, rfl⟩
       ·refine qF rfl g32 (ls_skip (hK25 _ (qk [2, 5] rfl (ls_rs tbOk (sp 3 rfl (qe [2, 3] rfl (ls_ret ?_)))))))
        cases h
        exact ⟨.inl rfl, rfl⟩
  rcases cond_some h with ⟨g33, h⟩ | ⟨g33, h⟩
  ·refine qT rfl g33 (ls_rs tbOk (sp 1 rfl (?_)))
   obtain ⟨e34, g35, h⟩ := ob_some h
   refine qI rfl zcst g35 (sp 1 rfl (?_))
   obtain ⟨v36, g37, h⟩ := ob_some h
   refine qC (qs rfl (qs rfl eran)) (impl_split_s g37) (sp 2 rfl (qe [0, 2, 4, 5, 6, 7, 8, 9, 45, 46, 47] rfl ?_))
   obtain ⟨o2, hl, hr2⟩ := ob_some h
   clear h
   have kXimpl_ParseCertificate_B2 : ∀ (z38 : List Int), (.inl z38) = o2 → ∀ σ' : PS, okK σ' [(0, .str a0), (2, .box [oL 3 ci64 [], oL 215 c215_ [], oL 3 ci64 [], nI 0, nI 0]), (4, oL 9 cst v1), (5, .box [oL 3 ci64 [], oL 215 c215_ [], oL 3 ci64 z38, nI 0, nI 0]), (6, oL 3 ci64 v7.1), (7, .bool v7.2), (8, oL 215 c215_ v11.1), (9, .bool v11.2)] → K13 σ' := by
    intro z38 h σ' hk
    subst h
    replace h := hr2
    try dsimp only at h
    exact kimpl_ParseCertificate_J1 z38 h _ ⟨hk.1, hk.2.1, hk.2.2.1, hk.2.2.2.1, hk.2.2.2.2.1, hk.2.2.2.2.2.1, hk.2.2.2.2.2.2.1, hk.2.2.2.2.2.2.2.1, trivial⟩
   refine ls_rec (fun (s : (List Int) × Int) => match s with | (y3, y4) => [(0, .str a0), (2, .box [oL 3 ci64 [], oL 215 c215_ [], oL 3 ci64 [], nI 0, nI 0]), (4, oL 9 cst v1), (5, .box [oL 3 ci64 [], oL 215 c215_ [], oL 3 ci64 y3, nI 0, nI 0]), (6, oL 3 ci64 v7.1), (7, .bool v7.2), (8, oL 215 c215_ v11.1), (9, .bool v11.2), (45, oL 9 cst v36), (46, nI (List.length v36 : Int)), (47, nI y4)]) _ _ _ _ hl (okr rfl) (fun _ => rfl) ?_
   rintro m ⟨y3, y4⟩ N h hN
   unfold impl_ParseCertificate_B2 at h
   dsimp only at h
   refine ls_rs tbOk (sp 1 rfl (qe [0, 2, 4, 5, 6, 7, 8, 9, 45, 46, 47, 48] rfl (ls_seq_k fun K39 hK39 => ?_)))
   rcases cond_some h with ⟨g40, h⟩ | ⟨g40, h⟩
   ·refine qT rfl g40 (ls_skip (hK39 _ (qk [0, 2, 4, 5, 6, 7, 8, 9, 45, 46, 47] rfl (ls_seq_k fun K41 hK41 => ls_blk (ls_rs tbOk ?_)))))
    obtain ⟨e42, g43, h⟩ := ob_some h
    refine qI rfl zcst g43 (sp 2 rfl (qe [0, 2, 4, 5, 6, 7, 8, 9, 11, 45, 46, 47] rfl (ls_rs tbOk (sp 1 rfl (?_)))))
    obtain ⟨v44, g45, h⟩ := ob_some h
    refine qC (qs rfl eran) (impl_readWide_s g45) (sp 5 rfl (qe [0, 2, 4, 5, 6, 7, 8, 9, 12, 13, 45, 46, 47] rfl (ls_seq_k fun K46 hK46 => ls_rs tbOk (sp 2 rfl (qe [0, 2, 4, 5, 6, 7, 8, 9, 12, 45, 46, 47, 57] rfl ?_)))))
    rcases cond_some h with ⟨g47, h⟩ | ⟨g47, h⟩
    ·refine qT rfl g47 (ls_rs tbOk (sp 3 rfl (qe [2, 3] rfl (ls_ret ?_))))
     cases h
     cases hr2
     exact ⟨.inl rfl, rfl⟩
    ·refine qF rfl g47 (ls_skip (hK46 _ (qk [0, 2, 4, 5, 6, 7, 8, 9, 12, 45, 46, 47] rfl (ls_rgn tbOk (sp 3 rfl (qBs ci64 [v44.1] rfl rfl rfl zci64 (?_)))))))
     obtain ⟨g48, h⟩ := chk_some h
     exact qA ci64 y3 [v44.1] rfl rfl (flat_len zci64 [v44.1]) rfl g48 (sp 2 rfl (evn (hK41 _ (qk [0, 2, 4, 5, 6, 7, 8, 9, 45, 46, 47] rfl (ls_rgn tbOk (sp 2 rfl (evn (hN _ ((y3 ++ [v44.1]), (IntKind.i64.wrap (y4 + 1))) h (okr rfl)))))))))
   ·exact qF rfl g40 (ls_exit (kXimpl_ParseCertificate_B2 y3 (Option.some.inj h) _ (okr rfl)))
  ·exact qF rfl g33 (ls_skip (kimpl_ParseCertificate_J1 ([] : List Int) h _ (okr rfl)))
def laws_eqIntS_B1 (a0 : List Int) (a1 : List Int) (rec : Int → Option (Sum (Unit) (Bool))) (y1 : Int) : Option (Sum (Unit) (Bool)) := cond (decide (y1 < (List.length a0 : Int))) (obind (geti a0 y1) fun e7 => obind (geti a1 y1) fun e9 => cond (e7 != e9) (some (.inr false)) (rec (IntKind.i64.wrap (y1 + 1)))) (some (.inl ()))
def laws_eqIntS (a0 : List Int) (a1 : List Int) : Option (Bool) := cond ((List.length a0 : Int) != (List.length a1 : Int)) (some false) (obind (loopF (laws_eqIntS_B1 a0 a1) fz 0) fun o1 => (match o1 with
  | .inl _ => (some true)
  | .inr r => some r))
theorem laws_eqIntS_s {a0 : List Int} {a1 : List Int} {r : Bool} (h : laws_eqIntS a0 a1 = some r) : SoundAt Try.prog 19 [dL ci64 a0, dL ci64 a1] (.bool r) := by
 unfold laws_eqIntS at h
 refine sound_lit tbOk lit19 (nb rfl) rfl ?_
 unfold c19
 refine qi _ rfl (qk [0, 1] rfl (ls_rs tbOk (sp 1 rfl (qe [0, 1] rfl (ls_seq_k fun K1 hK1 => ls_rs tbOk (sp 5 rfl (qe [0, 1, 10] rfl ?_)))))))
 rcases cond_some h with ⟨g2, h⟩ | ⟨g2, h⟩
 ·refine qT rfl g2 (ls_rs tbOk (sp 1 rfl (qe [4] rfl (ls_ret ?_))))
  cases h
  exact ⟨.inl rfl, rfl⟩
 ·refine qF rfl g2 (ls_skip (hK1 _ (qk [0, 1] rfl (ls_seq_k fun K3 hK3 => ls_rs tbOk (sp 1 rfl (qe [0, 1, 5] rfl ?_))))))
  obtain ⟨o1, hl, hr1⟩ := ob_some h
  clear h
  have kXlaws_eqIntS_B1 : ∀ (_ : Unit), (.inl ()) = o1 → ∀ σ' : PS, okK σ' [] → K3 σ' := by
   intro _ h σ' hk
   subst h
   replace h := hr1
   try dsimp only at h
   refine hK3 _ (ls_keep _ hk rfl (ls_rs tbOk (sp 1 rfl (qe [4] rfl (ls_ret ?_)))))
   cases h
   exact ⟨.inl rfl, rfl⟩
  refine ls_rec (fun (y1 : Int) => [(0, dL ci64 a0), (1, dL ci64 a1), (5, nI y1)]) _ _ _ _ hl (okr rfl) (fun _ => rfl) ?_
  rintro m y1 N h hN
  unfold laws_eqIntS_B1 at h
  refine ls_seq_k fun K4 hK4 => ls_rs tbOk (sp 4 rfl (qe [0, 1, 5, 14] rfl ?_))
  rcases cond_some h with ⟨g5, h⟩ | ⟨g5, h⟩
  ·refine qT rfl g5 (ls_skip (hK4 _ (qk [0, 1, 5] rfl (ls_seq_k fun K6 hK6 => ls_blk (ls_rd tbOk mixed (by kernel_rfl) (sd 2 rfl (?_)))))))
   obtain ⟨e7, g8, h⟩ := ob_some h
   refine ed rfl (qI rfl zci64 g8 (sd 3 rfl (?_)))
   obtain ⟨e9, g10, h⟩ := ob_some h
   refine ed rfl (qI rfl zci64 g10 (sd 2 rfl (evdn (qk [0, 1, 5, 25] rfl ?_))))
   rcases cond_some h with ⟨g11, h⟩ | ⟨g11, h⟩
   ·refine qT rfl g11 (ls_rs tbOk (sp 1 rfl (qe [4] rfl (ls_ret ?_))))
    cases h
    cases hr1
    exact ⟨.inl rfl, rfl⟩
   ·exact qF rfl g11 (ls_skip (hK6 _ (qk [0, 1, 5] rfl (ls_rgn tbOk (sp 3 rfl (evn (hN _ (IntKind.i64.wrap (y1 + 1)) h (okr rfl))))))))
  ·exact qF rfl g5 (ls_exit (kXlaws_eqIntS_B1 () (Option.some.inj h) _ trivial))
def laws_eqRational (a0 : Y214) (a1 : Y214) : Option (Bool) := cond (a0.1 != a1.1) (some false) (cond (a0.2 != a1.2) (some false) (some true))
theorem laws_eqRational_s {a0 : Y214} {a1 : Y214} {r : Bool} (h : laws_eqRational a0 a1 = some r) : SoundAt Try.prog 188 [.agg (c215_ a0), .agg (c215_ a1)] (.bool r) := by
 unfold laws_eqRational at h
 refine sound_lit tbOk lit188 (nb rfl) rfl ?_
 unfold c188
 refine qi _ rfl (qk [0, 1] rfl (ls_rs tbOk (sp 3 rfl (qe [2, 3] rfl (ls_seq_k fun K1 hK1 => ls_rs tbOk (sp 5 rfl (qe [2, 3, 9] rfl ?_)))))))
 rcases cond_some h with ⟨g2, h⟩ | ⟨g2, h⟩
 ·refine qT rfl g2 (ls_rs tbOk (sp 1 rfl (qe [4] rfl (ls_ret ?_))))
  cases h
  exact ⟨.inl rfl, rfl⟩
 ·refine qF rfl g2 (ls_skip (hK1 _ (qk [2, 3] rfl (ls_seq_k fun K3 hK3 => ls_rs tbOk (sp 5 rfl (qe [14] rfl ?_))))))
  rcases cond_some h with ⟨g4, h⟩ | ⟨g4, h⟩
  ·refine qT rfl g4 (ls_rs tbOk (sp 1 rfl (qe [4] rfl (ls_ret ?_))))
   cases h
   exact ⟨.inl rfl, rfl⟩
  ·refine qF rfl g4 (ls_skip (hK3 _ (qk [] rfl (ls_rs tbOk (sp 1 rfl (qe [4] rfl (ls_ret ?_)))))))
   cases h
   exact ⟨.inl rfl, rfl⟩
def laws_eqRationalS_B1 (a0 : List Y214) (a1 : List Y214) (rec : Int → Option (Sum (Unit) (Bool))) (y1 : Int) : Option (Sum (Unit) (Bool)) := cond (decide (y1 < (List.length a0 : Int))) (obind (geti a0 y1) fun e7 => obind (geti a1 y1) fun e9 => obind (laws_eqRational e7 e9) fun v11 => cond (!v11) (some (.inr false)) (rec (IntKind.i64.wrap (y1 + 1)))) (some (.inl ()))
def laws_eqRationalS (a0 : List Y214) (a1 : List Y214) : Option (Bool) := cond ((List.length a0 : Int) != (List.length a1 : Int)) (some false) (obind (loopF (laws_eqRationalS_B1 a0 a1) fz 0) fun o1 => (match o1 with
  | .inl _ => (some true)
  | .inr r => some r))
theorem laws_eqRationalS_s {a0 : List Y214} {a1 : List Y214} {r : Bool} (h : laws_eqRationalS a0 a1 = some r) : SoundAt Try.prog 105 [dL c215_ a0, dL c215_ a1] (.bool r) := by
 unfold laws_eqRationalS at h
 refine sound_lit tbOk lit105 (nb rfl) rfl ?_
 unfold c105
 refine qi _ rfl (qk [0, 1] rfl (ls_rs tbOk (sp 1 rfl (qe [0, 1] rfl (ls_seq_k fun K1 hK1 => ls_rs tbOk (sp 5 rfl (qe [0, 1, 10] rfl ?_)))))))
 rcases cond_some h with ⟨g2, h⟩ | ⟨g2, h⟩
 ·refine qT rfl g2 (ls_rs tbOk (sp 1 rfl (qe [4] rfl (ls_ret ?_))))
  cases h
  exact ⟨.inl rfl, rfl⟩
 ·refine qF rfl g2 (ls_skip (hK1 _ (qk [0, 1] rfl (ls_seq_k fun K3 hK3 => ls_rs tbOk (sp 1 rfl (qe [0, 1, 5] rfl ?_))))))
  obtain ⟨o1, hl, hr1⟩ := ob_some h
  clear h
  have kXlaws_eqRationalS_B1 : ∀ (_ : Unit), (.inl ()) = o1 → ∀ σ' : PS, okK σ' [] → K3 σ' := by
   intro _ h σ' hk
   subst h
   replace h := hr1
   try dsimp only at h
   refine hK3 _ (ls_keep _ hk rfl (ls_rs tbOk (sp 1 rfl (qe [4] rfl (ls_ret ?_)))))
   cases h
   exact ⟨.inl rfl, rfl⟩
  refine ls_rec (fun (y1 : Int) => [(0, dL c215_ a0), (1, dL c215_ a1), (5, nI y1)]) _ _ _ _ hl (okr rfl) (fun _ => rfl) ?_
  rintro m y1 N h hN
  unfold laws_eqRationalS_B1 at h
  refine ls_seq_k fun K4 hK4 => ls_rs tbOk (sp 4 rfl (qe [0, 1, 5, 14] rfl ?_))
  rcases cond_some h with ⟨g5, h⟩ | ⟨g5, h⟩
  ·refine qT rfl g5 (ls_skip (hK4 _ (qk [0, 1, 5] rfl (ls_seq_k fun K6 hK6 => ls_blk (ls_rd tbOk mixed (by kernel_rfl) (sd 2 rfl (?_)))))))
   obtain ⟨e7, g8, h⟩ := ob_some h
   refine ed rfl (qI rfl zc215_ g8 (sd 3 rfl (?_)))
   obtain ⟨e9, g10, h⟩ := ob_some h
   refine ed rfl (qI rfl zc215_ g10 (sd 1 rfl (?_)))
   obtain ⟨v11, g12, h⟩ := ob_some h
   refine ed rfl (qC (qa rfl (erg (erc rfl (erc rfl rfl))) (qa rfl (erg (erc rfl (erc rfl rfl))) eran)) (laws_eqRational_s g12) (sd 1 rfl (evdn (qk [0, 1, 5, 26] rfl ?_))))
   rcases cond_some h with ⟨g13, h⟩ | ⟨g13, h⟩
   ·refine qT rfl g13 (ls_rs tbOk (sp 1 rfl (qe [4] rfl (ls_ret ?_))))
    cases h
    cases hr1
    exact ⟨.inl rfl, rfl⟩
   ·exact qF rfl g13 (ls_skip (hK6 _ (qk [0, 1, 5] rfl (ls_rgn tbOk (sp 3 rfl (evn (hN _ (IntKind.i64.wrap (y1 + 1)) h (okr rfl))))))))
  ·exact qF rfl g5 (ls_exit (kXlaws_eqRationalS_B1 () (Option.some.inj h) _ trivial))
def laws_eqCertificate (a0 : Y58) (a1 : Y58) : Option (Bool) := obind (laws_eqIntS a0.1 a1.1) fun v2 => cond (!v2) (some false) (obind (laws_eqRationalS a0.2.1 a1.2.1) fun v6 => cond (!v6) (some false) (obind (laws_eqIntS a0.2.2.1 a1.2.2.1) fun v10 => cond (!v10) (some false) (cond (a0.2.2.2.1 != a1.2.2.2.1) (some false) (cond (a0.2.2.2.2 != a1.2.2.2.2) (some false) (some true)))))
theorem laws_eqCertificate_s {a0 : Y58} {a1 : Y58} {r : Bool} (h : laws_eqCertificate a0 a1 = some r) : SoundAt Try.prog 35 [.agg (c59_ddd a0), .agg (c59_ddd a1)] (.bool r) := by
 unfold laws_eqCertificate at h
 refine sound_lit tbOk lit35 (nb rfl) rfl ?_
 unfold c35
 refine qi _ rfl (qk [0, 1] rfl (ls_rs tbOk (sp 3 rfl (qe [2, 3] rfl (ls_seq_k fun K1 hK1 => ls_rs tbOk (sp 4 rfl (?_)))))))
 obtain ⟨v2, g3, h⟩ := ob_some h
 refine qC (qa rfl (erD eci64 _) (qa rfl (erD eci64 _) eran)) (laws_eqIntS_s g3) (sp 1 rfl (qe [2, 3, 10] rfl ?_))
 rcases cond_some h with ⟨g4, h⟩ | ⟨g4, h⟩
 ·refine qT rfl g4 (ls_rs tbOk (sp 1 rfl (qe [4] rfl (ls_ret ?_))))
  cases h
  exact ⟨.inl rfl, rfl⟩
 ·refine qF rfl g4 (ls_skip (hK1 _ (qk [2, 3] rfl (ls_seq_k fun K5 hK5 => ls_rs tbOk (sp 4 rfl (?_))))))
  obtain ⟨v6, g7, h⟩ := ob_some h
  refine qC (qa rfl (erD ec215_ _) (qa rfl (erD ec215_ _) eran)) (laws_eqRationalS_s g7) (sp 1 rfl (qe [2, 3, 16] rfl ?_))
  rcases cond_some h with ⟨g8, h⟩ | ⟨g8, h⟩
  ·refine qT rfl g8 (ls_rs tbOk (sp 1 rfl (qe [4] rfl (ls_ret ?_))))
   cases h
   exact ⟨.inl rfl, rfl⟩
  ·refine qF rfl g8 (ls_skip (hK5 _ (qk [2, 3] rfl (ls_seq_k fun K9 hK9 => ls_rs tbOk (sp 4 rfl (?_))))))
   obtain ⟨v10, g11, h⟩ := ob_some h
   refine qC (qa rfl (erD eci64 _) (qa rfl (erD eci64 _) eran)) (laws_eqIntS_s g11) (sp 1 rfl (qe [2, 3, 22] rfl ?_))
   rcases cond_some h with ⟨g12, h⟩ | ⟨g12, h⟩
   ·refine qT rfl g12 (ls_rs tbOk (sp 1 rfl (qe [4] rfl (ls_ret ?_))))
    cases h
    exact ⟨.inl rfl, rfl⟩
   ·refine qF rfl g12 (ls_skip (hK9 _ (qk [2, 3] rfl (ls_seq_k fun K13 hK13 => ls_rs tbOk (sp 5 rfl (qe [2, 3, 27] rfl ?_))))))
    rcases cond_some h with ⟨g14, h⟩ | ⟨g14, h⟩
    ·refine qT rfl g14 (ls_rs tbOk (sp 1 rfl (qe [4] rfl (ls_ret ?_))))
     cases h
     exact ⟨.inl rfl, rfl⟩
    ·refine qF rfl g14 (ls_skip (hK13 _ (qk [2, 3] rfl (ls_seq_k fun K15 hK15 => ls_rs tbOk (sp 5 rfl (qe [32] rfl ?_))))))
     rcases cond_some h with ⟨g16, h⟩ | ⟨g16, h⟩
     ·refine qT rfl g16 (ls_rs tbOk (sp 1 rfl (qe [4] rfl (ls_ret ?_))))
      cases h
      exact ⟨.inl rfl, rfl⟩
     ·refine qF rfl g16 (ls_skip (hK15 _ (qk [] rfl (ls_rs tbOk (sp 1 rfl (qe [4] rfl (ls_ret ?_)))))))
      cases h
      exact ⟨.inl rfl, rfl⟩
def laws_heldIntS_B1 (a0 : List Int) (rec : (Int × Int) → Option (Sum (Int) (Int))) (s : Int × Int) : Option (Sum (Int) (Int)) := match s with
  | (y1, y2) => cond (decide (y2 < (List.length a0 : Int))) (obind (geti a0 y2) fun e7 => cond (e7 != y1) (some (.inr (-1))) (rec ((IntKind.i64.wrap (y1 + 1)), (IntKind.i64.wrap (y2 + 1))))) (some (.inl y1))
def laws_heldIntS (a0 : List Int) (a1 : Int) : Option (Int) := obind (loopF (laws_heldIntS_B1 a0) fz (a1, 0)) fun o1 => (match o1 with
  | .inl z2 => (some z2)
  | .inr r => some r)
theorem laws_heldIntS_s {a0 : List Int} {a1 : Int} {r : Int} (h : laws_heldIntS a0 a1 = some r) : SoundAt Try.prog 25 [dL ci64 a0, nI a1] (nI r) := by
 unfold laws_heldIntS at h
 refine sound_lit tbOk lit25 (nb rfl) rfl ?_
 unfold c25
 refine qi _ rfl (qk [0, 1] rfl (ls_rs tbOk (sp 1 rfl (qe [0, 1] rfl (ls_seq_k fun K1 hK1 => ls_rs tbOk (sp 1 rfl (qe [0, 1, 5] rfl ?_)))))))
 obtain ⟨o1, hl, hr1⟩ := ob_some h
 clear h
 have kXlaws_heldIntS_B1 : ∀ (z2 : Int), (.inl z2) = o1 → ∀ σ' : PS, okK σ' [(1, nI z2)] → K1 σ' := by
  intro z2 h σ' hk
  subst h
  replace h := hr1
  try dsimp only at h
  refine hK1 _ (ls_keep _ hk rfl (ls_rs tbOk (sp 2 rfl (qe [4] rfl (ls_ret ?_)))))
  cases h
  exact ⟨.inl rfl, rfl⟩
 refine ls_rec (fun (s : Int × Int) => match s with | (y1, y2) => [(0, dL ci64 a0), (1, nI y1), (5, nI y2)]) _ _ _ _ hl (okr rfl) (fun _ => rfl) ?_
 rintro m ⟨y1, y2⟩ N h hN
 unfold laws_heldIntS_B1 at h
 dsimp only at h
 refine ls_seq_k fun K3 hK3 => ls_rs tbOk (sp 4 rfl (qe [0, 1, 5, 9] rfl ?_))
 rcases cond_some h with ⟨g4, h⟩ | ⟨g4, h⟩
 ·refine qT rfl g4 (ls_skip (hK3 _ (qk [0, 1, 5] rfl (ls_seq_k fun K5 hK5 => ls_blk (ls_seq_k fun K6 hK6 => ls_rs tbOk (sp 2 rfl (?_)))))))
  obtain ⟨e7, g8, h⟩ := ob_some h
  refine qI rfl zci64 g8 (sp 3 rfl (qe [0, 1, 5, 17] rfl ?_))
  rcases cond_some h with ⟨g9, h⟩ | ⟨g9, h⟩
  ·refine qT rfl g9 (ls_rs tbOk (sp 1 rfl (qe [4] rfl (ls_ret ?_))))
   cases h
   cases hr1
   exact ⟨.inl rfl, rfl⟩
  ·exact qF rfl g9 (ls_skip (hK6 _ (qk [0, 1, 5] rfl (ls_rgn tbOk (sp 3 rfl (evn (hK5 _ (qk [0, 1, 5] rfl (ls_rgn tbOk (sp 3 rfl (evn (hN _ ((IntKind.i64.wrap (y1 + 1)), (IntKind.i64.wrap (y2 + 1))) h (okr rfl)))))))))))))
 ·exact qF rfl g4 (ls_exit (kXlaws_heldIntS_B1 y1 (Option.some.inj h) _ (okr rfl)))
def laws_heldRationalS_B1 (a0 : List Y214) (rec : (Int × Int) → Option (Sum (Int) (Int))) (s : Int × Int) : Option (Sum (Int) (Int)) := match s with
  | (y1, y2) => cond (decide (y2 < (List.length a0 : Int))) (obind (geti a0 y2) fun e7 => cond (e7.1 != y1) (some (.inr (-1))) (obind (geti a0 y2) fun e11 => cond (e11.2 != (IntKind.i64.wrap (y1 + 1))) (some (.inr (-1))) (rec ((IntKind.i64.wrap ((IntKind.i64.wrap (y1 + 1)) + 1)), (IntKind.i64.wrap (y2 + 1)))))) (some (.inl y1))
def laws_heldRationalS (a0 : List Y214) (a1 : Int) : Option (Int) := obind (loopF (laws_heldRationalS_B1 a0) fz (a1, 0)) fun o1 => (match o1 with
  | .inl z2 => (some z2)
  | .inr r => some r)
theorem laws_heldRationalS_s {a0 : List Y214} {a1 : Int} {r : Int} (h : laws_heldRationalS a0 a1 = some r) : SoundAt Try.prog 107 [dL c215_ a0, nI a1] (nI r) := by
 unfold laws_heldRationalS at h
 refine sound_lit tbOk lit107 (nb rfl) rfl ?_
 unfold c107
 refine qi _ rfl (qk [0, 1] rfl (ls_rs tbOk (sp 1 rfl (qe [0, 1] rfl (ls_seq_k fun K1 hK1 => ls_rs tbOk (sp 1 rfl (qe [0, 1, 5] rfl ?_)))))))
 obtain ⟨o1, hl, hr1⟩ := ob_some h
 clear h
 have kXlaws_heldRationalS_B1 : ∀ (z2 : Int), (.inl z2) = o1 → ∀ σ' : PS, okK σ' [(1, nI z2)] → K1 σ' := by
  intro z2 h σ' hk
  subst h
  replace h := hr1
  try dsimp only at h
  refine hK1 _ (ls_keep _ hk rfl (ls_rs tbOk (sp 2 rfl (qe [4] rfl (ls_ret ?_)))))
  cases h
  exact ⟨.inl rfl, rfl⟩
 refine ls_rec (fun (s : Int × Int) => match s with | (y1, y2) => [(0, dL c215_ a0), (1, nI y1), (5, nI y2)]) _ _ _ _ hl (okr rfl) (fun _ => rfl) ?_
 rintro m ⟨y1, y2⟩ N h hN
 unfold laws_heldRationalS_B1 at h
 dsimp only at h
 refine ls_seq_k fun K3 hK3 => ls_rs tbOk (sp 4 rfl (qe [0, 1, 5, 9] rfl ?_))
 rcases cond_some h with ⟨g4, h⟩ | ⟨g4, h⟩
 ·refine qT rfl g4 (ls_skip (hK3 _ (qk [0, 1, 5] rfl (ls_seq_k fun K5 hK5 => ls_blk (ls_seq_k fun K6 hK6 => ls_rs tbOk (sp 2 rfl (?_)))))))
  obtain ⟨e7, g8, h⟩ := ob_some h
  refine qI rfl zc215_ g8 (sp 4 rfl (qe [0, 1, 5, 18] rfl ?_))
  rcases cond_some h with ⟨g9, h⟩ | ⟨g9, h⟩
  ·refine qT rfl g9 (ls_rs tbOk (sp 1 rfl (qe [4] rfl (ls_ret ?_))))
   cases h
   cases hr1
   exact ⟨.inl rfl, rfl⟩
  ·refine qF rfl g9 (ls_skip (hK6 _ (qk [0, 1, 5] rfl (ls_rs tbOk (sp 3 rfl (qe [0, 1, 5] rfl (ls_seq_k fun K10 hK10 => ls_rs tbOk (sp 2 rfl (?_)))))))))
   obtain ⟨e11, g12, h⟩ := ob_some h
   refine qI rfl zc215_ g12 (sp 4 rfl (qe [0, 1, 5, 27] rfl ?_))
   rcases cond_some h with ⟨g13, h⟩ | ⟨g13, h⟩
   ·refine qT rfl g13 (ls_rs tbOk (sp 1 rfl (qe [4] rfl (ls_ret ?_))))
    cases h
    cases hr1
    exact ⟨.inl rfl, rfl⟩
   ·exact qF rfl g13 (ls_skip (hK10 _ (qk [0, 1, 5] rfl (ls_rgn tbOk (sp 3 rfl (evn (hK5 _ (qk [0, 1, 5] rfl (ls_rgn tbOk (sp 3 rfl (evn (hN _ ((IntKind.i64.wrap ((IntKind.i64.wrap (y1 + 1)) + 1)), (IntKind.i64.wrap (y2 + 1))) h (okr rfl)))))))))))))
 ·exact qF rfl g4 (ls_exit (kXlaws_heldRationalS_B1 y1 (Option.some.inj h) _ (okr rfl)))
def laws_heldCertificate (a0 : Y58) (a1 : Int) : Option (Int) := obind (laws_heldIntS a0.1 a1) fun v1 => cond (decide (v1 < 0)) (some (-1)) (obind (laws_heldRationalS a0.2.1 v1) fun v5 => cond (decide (v5 < 0)) (some (-1)) (obind (laws_heldIntS a0.2.2.1 v5) fun v9 => cond (decide (v9 < 0)) (some (-1)) (some v9)))
theorem laws_heldCertificate_s {a0 : Y58} {a1 : Int} {r : Int} (h : laws_heldCertificate a0 a1 = some r) : SoundAt Try.prog 37 [.agg (c59_ddd a0), nI a1] (nI r) := by
 unfold laws_heldCertificate at h
 refine sound_lit tbOk lit37 (nb rfl) rfl ?_
 unfold c37
 refine qi _ rfl (qk [0, 1] rfl (ls_rs tbOk (sp 2 rfl (qe [1, 2] rfl (ls_rs tbOk (sp 3 rfl (?_)))))))
 obtain ⟨v1, g2, h⟩ := ob_some h
 refine qC (qa rfl (erD eci64 _) (qs rfl eran)) (laws_heldIntS_s g2) (sp 1 rfl (qe [1, 2] rfl (ls_seq_k fun K3 hK3 => ls_rs tbOk (sp 2 rfl (qe [1, 2, 10] rfl ?_)))))
 rcases cond_some h with ⟨g4, h⟩ | ⟨g4, h⟩
 ·refine qT rfl g4 (ls_rs tbOk (sp 1 rfl (qe [4] rfl (ls_ret ?_))))
  cases h
  exact ⟨.inl rfl, rfl⟩
 ·refine qF rfl g4 (ls_skip (hK3 _ (qk [1, 2] rfl (ls_rs tbOk (sp 3 rfl (?_))))))
  obtain ⟨v5, g6, h⟩ := ob_some h
  refine qC (qa rfl (erD ec215_ _) (qs rfl eran)) (laws_heldRationalS_s g6) (sp 1 rfl (qe [1, 2] rfl (ls_seq_k fun K7 hK7 => ls_rs tbOk (sp 2 rfl (qe [1, 2, 16] rfl ?_)))))
  rcases cond_some h with ⟨g8, h⟩ | ⟨g8, h⟩
  ·refine qT rfl g8 (ls_rs tbOk (sp 1 rfl (qe [4] rfl (ls_ret ?_))))
   cases h
   exact ⟨.inl rfl, rfl⟩
  ·refine qF rfl g8 (ls_skip (hK7 _ (qk [1, 2] rfl (ls_rs tbOk (sp 3 rfl (?_))))))
   obtain ⟨v9, g10, h⟩ := ob_some h
   refine qC (qa rfl (erD eci64 _) (qs rfl eran)) (laws_heldIntS_s g10) (sp 1 rfl (qe [1] rfl (ls_seq_k fun K11 hK11 => ls_rs tbOk (sp 2 rfl (qe [1, 22] rfl ?_)))))
   rcases cond_some h with ⟨g12, h⟩ | ⟨g12, h⟩
   ·refine qT rfl g12 (ls_rs tbOk (sp 1 rfl (qe [4] rfl (ls_ret ?_))))
    cases h
    exact ⟨.inl rfl, rfl⟩
   ·refine qF rfl g12 (ls_skip (hK11 _ (qk [1] rfl (ls_rs tbOk (sp 2 rfl (qe [4] rfl (ls_ret ?_)))))))
    cases h
    exact ⟨.inl rfl, rfl⟩
def laws_FnExactParseCertificate (a0 : List UInt8) : Option (Bool) := cond (decide (1048576 < (List.length a0 : Int))) (some true) (obind (spec_ParseCertificate a0) fun v3 => obind (impl_ParseCertificate a0) fun v5 => obind (laws_eqCertificate v5.1 v3.1) fun v8 => cond (!v8) (some false) (cond (!(v5.2 == v3.2)) (some false) (obind (laws_markCertificate v5.1 1) fun v12 => obind (laws_heldCertificate v12.1 1) fun v14 => cond (decide (v14 < 0)) (some false) (cond (v14 != v12.2) (some false) (obind (impl_ParseCertificate a0) fun v20 => obind (laws_eqCertificate v20.1 v3.1) fun v23 => cond (!v23) (some false) (cond (!(v20.2 == v3.2)) (some false) (obind (laws_heldCertificate v12.1 1) fun v27 => cond (decide (v27 < 0)) (some false) (cond (v27 != v12.2) (some false) (some true)))))))))
theorem laws_FnExactParseCertificate_s {a0 : List UInt8} {r : Bool} (h : laws_FnExactParseCertificate a0 = some r) : SoundAt Try.prog 5 [.str a0] (.bool r) := by
 unfold laws_FnExactParseCertificate at h
 refine sound_lit tbOk lit5 (nb rfl) rfl ?_
 unfold c5
 refine qi _ rfl (qk [0] rfl (ls_rs tbOk (sp 1 rfl (qe [0] rfl (ls_seq_k fun K1 hK1 => ls_rs tbOk (sp 3 rfl (qe [0, 13] rfl ?_)))))))
 rcases cond_some h with ⟨g2, h⟩ | ⟨g2, h⟩
 ·refine qT rfl g2 (ls_rs tbOk (sp 1 rfl (qe [2] rfl (ls_ret ?_))))
  cases h
  exact ⟨.inl rfl, rfl⟩
 ·refine qF rfl g2 (ls_skip (hK1 _ (qk [0] rfl (ls_rs tbOk (sp 1 rfl (?_))))))
  obtain ⟨v3, g4, h⟩ := ob_some h
  refine qC (qs rfl eran) (spec_ParseCertificate_s g4) (sp 6 rfl (qe [0, 3, 4] rfl (ls_rs tbOk (sp 1 rfl (?_)))))
  obtain ⟨v5, g6, h⟩ := ob_some h
  refine qC (qs rfl eran) (impl_ParseCertificate_s g6) (sp 6 rfl (qe [0, 3, 4, 5, 6] rfl (ls_seq_k fun K7 hK7 => ls_rs tbOk (sp 2 rfl (?_)))))
  obtain ⟨v8, g9, h⟩ := ob_some h
  refine qC (qa rfl (erg (erc (erD eci64 _) (erc (erD ec215_ _) (erc (erD eci64 _) (erc rfl (erc rfl rfl)))))) (qa rfl (erg (erc (erD eci64 _) (erc (erD ec215_ _) (erc (erD eci64 _) (erc rfl (erc rfl rfl)))))) eran)) (laws_eqCertificate_s g9) (sp 2 rfl (?_))
  rcases cond_some h with ⟨g10, h⟩ | ⟨g10, h⟩
  ·refine qg 28 g10 rfl (sp 4 rfl (qe [0, 3, 4, 5, 32] rfl (qT rfl rfl (ls_rs tbOk (sp 1 rfl (qe [2] rfl (ls_ret ?_)))))))
   cases h
   exact ⟨.inl rfl, rfl⟩
  ·refine qg 28 g10 rfl (sp 4 rfl (qe [0, 3, 4, 5, 32] rfl ?_))
   rcases cond_some h with ⟨g11, h⟩ | ⟨g11, h⟩
   ·refine qT rfl g11 (ls_rs tbOk (sp 1 rfl (qe [2] rfl (ls_ret ?_))))
    cases h
    exact ⟨.inl rfl, rfl⟩
   ·refine qF rfl g11 (ls_skip (hK7 _ (qk [0, 3, 4, 5] rfl (ls_rs tbOk (sp 1 rfl (qe [0, 3, 4, 5, 7] rfl (qk [0, 3, 4, 5, 7] rfl ?_)))))))
    obtain ⟨v12, g13, h⟩ := ob_some h
    refine ls_mark (src_box tbOk rfl rfl rfl) rfl rfl (laws_markCertificate_m g13) (dp59 _) (sf_of (sfc rfl (sfc (scc (sco (fun _ => rfl) _) (scc (sco dp215 _) (scc (sco (fun _ => rfl) _) (scc rfl (scc rfl scn))))) (sfc rfl (sfs (sfc rfl sfn)))))) rfl rfl ⟨by decide, by decide⟩ rfl (kp [(0, .str a0), (3, .box [oL 3 ci64 v3.1.1, oL 215 c215_ v3.1.2.1, oL 3 ci64 v3.1.2.2.1, nI v3.1.2.2.2.1, nI v3.1.2.2.2.2]), (4, .bool v3.2), (5, .box [oL 3 ci64 v12.1.1, oL 215 c215_ v12.1.2.1, oL 3 ci64 v12.1.2.2.1, nI v12.1.2.2.2.1, nI v12.1.2.2.2.2]), (7, nI v12.2)] rfl rfl (ls_rs tbOk (sp 1 rfl (qe [0, 3, 4, 5, 7, 8] rfl (ls_rs tbOk (sp 2 rfl (?_)))))))
    obtain ⟨v14, g15, h⟩ := ob_some h
    refine qC (qa rfl (erg (erc (erD eci64 _) (erc (erD ec215_ _) (erc (erD eci64 _) (erc rfl (erc rfl rfl)))))) (qs rfl eran)) (laws_heldCertificate_s g15) (sp 1 rfl (qe [0, 3, 4, 5, 7, 8] rfl (ls_seq_k fun K16 hK16 => ls_rs tbOk (sp 2 rfl (qe [0, 3, 4, 5, 7, 8, 40] rfl ?_)))))
    rcases cond_some h with ⟨g17, h⟩ | ⟨g17, h⟩
    ·refine qT rfl g17 (ls_rs tbOk (sp 1 rfl (qe [2] rfl (ls_ret ?_))))
     cases h
     exact ⟨.inl rfl, rfl⟩
    ·refine qF rfl g17 (ls_skip (hK16 _ (qk [0, 3, 4, 5, 7, 8] rfl (ls_seq_k fun K18 hK18 => ls_rs tbOk (sp 3 rfl (qe [0, 3, 4, 5, 7, 43] rfl ?_))))))
     rcases cond_some h with ⟨g19, h⟩ | ⟨g19, h⟩
     ·refine qT rfl g19 (ls_rs tbOk (sp 1 rfl (qe [2] rfl (ls_ret ?_))))
      cases h
      exact ⟨.inl rfl, rfl⟩
     ·refine qF rfl g19 (ls_skip (hK18 _ (qk [0, 3, 4, 5, 7] rfl (ls_rs tbOk (sp 1 rfl (?_))))))
      obtain ⟨v20, g21, h⟩ := ob_some h
      refine qC (qs rfl eran) (impl_ParseCertificate_s g21) (sp 6 rfl (qe [3, 4, 5, 7, 9, 10] rfl (ls_seq_k fun K22 hK22 => ls_rs tbOk (sp 2 rfl (?_)))))
      obtain ⟨v23, g24, h⟩ := ob_some h
      refine qC (qa rfl (erg (erc (erD eci64 _) (erc (erD ec215_ _) (erc (erD eci64 _) (erc rfl (erc rfl rfl)))))) (qa rfl (erg (erc (erD eci64 _) (erc (erD ec215_ _) (erc (erD eci64 _) (erc rfl (erc rfl rfl)))))) eran)) (laws_eqCertificate_s g24) (sp 2 rfl (?_))
      rcases cond_some h with ⟨g25, h⟩ | ⟨g25, h⟩
      ·refine qg 53 g25 rfl (sp 4 rfl (qe [5, 7, 57] rfl (qT rfl rfl (ls_rs tbOk (sp 1 rfl (qe [2] rfl (ls_ret ?_)))))))
       cases h
       exact ⟨.inl rfl, rfl⟩
      ·refine qg 53 g25 rfl (sp 4 rfl (qe [5, 7, 57] rfl ?_))
       rcases cond_some h with ⟨g26, h⟩ | ⟨g26, h⟩
       ·refine qT rfl g26 (ls_rs tbOk (sp 1 rfl (qe [2] rfl (ls_ret ?_))))
        cases h
        exact ⟨.inl rfl, rfl⟩
       ·refine qF rfl g26 (ls_skip (hK22 _ (qk [5, 7] rfl (ls_rs tbOk (sp 1 rfl (qe [5, 7, 8] rfl (ls_rs tbOk (sp 2 rfl (?_)))))))))
        obtain ⟨v27, g28, h⟩ := ob_some h
        refine qC (qa rfl (erg (erc (erD eci64 _) (erc (erD ec215_ _) (erc (erD eci64 _) (erc rfl (erc rfl rfl)))))) (qs rfl eran)) (laws_heldCertificate_s g28) (sp 1 rfl (qe [7, 8] rfl (ls_seq_k fun K29 hK29 => ls_rs tbOk (sp 2 rfl (qe [7, 8, 62] rfl ?_)))))
        rcases cond_some h with ⟨g30, h⟩ | ⟨g30, h⟩
        ·refine qT rfl g30 (ls_rs tbOk (sp 1 rfl (qe [2] rfl (ls_ret ?_))))
         cases h
         exact ⟨.inl rfl, rfl⟩
        ·refine qF rfl g30 (ls_skip (hK29 _ (qk [7, 8] rfl (ls_seq_k fun K31 hK31 => ls_rs tbOk (sp 3 rfl (qe [65] rfl ?_))))))
         rcases cond_some h with ⟨g32, h⟩ | ⟨g32, h⟩
         ·refine qT rfl g32 (ls_rs tbOk (sp 1 rfl (qe [2] rfl (ls_ret ?_))))
          cases h
          exact ⟨.inl rfl, rfl⟩
         ·refine qF rfl g32 (ls_skip (hK31 _ (qk [] rfl (ls_rs tbOk (sp 1 rfl (qe [2] rfl (ls_ret ?_)))))))
          cases h
          exact ⟨.inl rfl, rfl⟩
end Go.Proofs.Ytkcfahfladikkaa
