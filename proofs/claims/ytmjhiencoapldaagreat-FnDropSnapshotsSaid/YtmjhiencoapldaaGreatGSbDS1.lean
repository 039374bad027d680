/-
  Functions of the program as typed functions, printed by gen.py, and that the program's functions do what they say. No conditions.
-/
import Derived.Test.YtmjhiencoapldaaGreatGSDS1
namespace Go.Proofs.YtmjhiencoapldaaGreat
open Go.RowKit
set_option linter.unusedVariables false
set_option maxRecDepth 100000
set_option maxHeartbeats 1000000
def spec_VariableName (a0 : Int) : Option ((List UInt8)) := obind (spec_l1In a0 0 4) fun v2 => cond (!v2) (some []) (chk ((0 : Int) ≤ a0 ∧ a0 ≤ IntKind.i64.wrap (a0 + 1) ∧ IntKind.i64.wrap (a0 + 1) ≤ (List.length [88, 89, 90, 85, 86] : Int)) (some (subl [88, 89, 90, 85, 86] a0 (IntKind.i64.wrap (a0 + 1)))))
theorem spec_VariableName_s {a0 : Int} {r : (List UInt8)} (h : spec_VariableName a0 = some r) : SoundAt Tryz.prog 244 [nI a0] (.str r) := by
 unfold spec_VariableName at h
 refine st lit244 rfl (rn 1 rfl (ls_seq_k fun K1 hK1 => rs (sp 1 rfl (?_))))
 obtain ⟨v2, g3, h⟩ := ob_some h
 refine qC (qs rfl (qs rfl (qs rfl eran))) (spec_l1In_s g3) (sp 1 rfl (evn ?_))
 rcases cond_some h with ⟨g4, h⟩ | ⟨g4, h⟩
 ·exact qT rfl g4 (rn 1 rfl (ls_ret ((by cases h; exact ⟨.inl rfl, rfl⟩))))
 ·refine qF rfl g4 (ls_skip (hK1 _ (rs (sp 3 rfl (?_)))))
  obtain ⟨g5, h⟩ := chk_some h
  exact qSs rfl g5 (sp 1 rfl (evn (ls_ret ((by cases h; exact ⟨.inl rfl, rfl⟩)))))
def spec_l7List_J3 (rec : ((List Int) × Int) → Option ((List Int))) (y8 : Int) (x13 : List Int) : Option ((List Int)) := rec (x13, (IntKind.i64.wrap (y8 + 1)))
def spec_l7List_B2 (a0 : List UInt8) (y4 : Int) (rec : ((List Int) × Int) → Option ((List Int))) (s : (List Int) × Int) : Option ((List Int)) := match s with
  | (y7, y8) => cond (decide (y8 < 5)) (obind (spec_VariableName y8) fun v10 => chk ((0 : Int) ≤ y4 ∧ y4 ≤ IntKind.i64.wrap (y4 + 1) ∧ IntKind.i64.wrap (y4 + 1) ≤ (List.length a0 : Int)) (cond (v10 == (subl a0 y4 (IntKind.i64.wrap (y4 + 1)))) (chk (List.length y7 + List.length [y8] ≤ lim) (spec_l7List_J3 rec y8 (y7 ++ [y8]))) (spec_l7List_J3 rec y8 y7))) (some y7)
def spec_l7List_B1 (a0 : List UInt8) (rec : ((List Int) × Int) → Option ((List Int))) (s : (List Int) × Int) : Option ((List Int)) := match s with
  | (y3, y4) => cond (decide (y4 < (List.length a0 : Int))) (obind (loopF (spec_l7List_B2 a0 y4) fz (y3, 0)) fun z6 => rec (z6, (IntKind.i64.wrap (y4 + 1)))) (some y3)
def spec_l7List (a0 : List UInt8) : Option ((List Int)) := obind (loopF (spec_l7List_B1 a0) fz (([] : List Int), 0)) fun z2 => some z2
theorem spec_l7List_s {a0 : List UInt8} {r : (List Int)} (h : spec_l7List a0 = some r) : SoundAt Tryz.prog 243 [.str a0] (oL 3 ci64 r) := by
 unfold spec_l7List at h
 refine st lit243 rfl (rn 1 rfl (rs (qBs ci64 [] rfl rfl rfl zci64 (sp 1 rfl (evn (ls_seq_k fun K1 hK1 => rn 1 rfl ?_))))))
 obtain ⟨o1, hl, hr1⟩ := ob_some h
 have kXB1 : ∀ {z2 : List Int}, z2 = o1 → Jn K1 [(3, oL 3 ci64 z2)] := by
  intro z2 h σ' hk
  subst h
  replace h := hr1
  try dsimp only at h
  exact hK1 _ (lh hk rfl (rn 1 rfl (ls_ret ((by cases h; exact ⟨.inl rfl, rfl⟩)))))
 refine ls_rec (fun (s : (List Int) × Int) => match s with | (y3, y4) => [(0, .str a0), (3, oL 3 ci64 y3), (4, nI y4)]) _ _ _ _ hl (okr rfl) (fun _ => rfl) ?_
 rintro m ⟨y3, y4⟩ N h hN
 unfold spec_l7List_B1 at h
 dsimp only at h
 refine ls_seq_k fun K3 hK3 => rn 1 rfl ?_
 rcases cond_some h with ⟨g4, h⟩ | ⟨g4, h⟩
 ·refine qT rfl g4 (ls_skip (hK3 _ (ls_seq_k fun K5 hK5 => ls_blk (rn 1 rfl ?_))))
  obtain ⟨o2, hl, hr2⟩ := ob_some h
  have kXB2 : ∀ {z6 : List Int}, z6 = o2 → Jn K5 [(0, .str a0), (3, oL 3 ci64 z6), (4, nI y4)] := by
   intro z6 h σ' hk
   subst h
   replace h := hr2
   try dsimp only at h
   exact hK5 _ (lh hk rfl (rg (sp 3 rfl (evn (hN _ _ h (okr rfl))))))
  refine ls_rec (fun (s : (List Int) × Int) => match s with | (y7, y8) => [(0, .str a0), (3, oL 3 ci64 y7), (4, nI y4), (5, nI y8)]) _ _ _ _ hl (okr rfl) (fun _ => rfl) ?_
  rintro m ⟨y7, y8⟩ N h hN
  unfold spec_l7List_B2 at h
  dsimp only at h
  refine ls_seq_k fun K7 hK7 => rn 1 rfl ?_
  rcases cond_some h with ⟨g8, h⟩ | ⟨g8, h⟩
  ·refine qT rfl g8 (ls_skip (hK7 _ (ls_seq_k fun K9 hK9 => ls_blk (rd (by kernel_rfl) (sd 1 rfl (?_))))))
   obtain ⟨v10, g11, h⟩ := ob_some h
   refine ed rfl (qC (qs rfl eran) (spec_VariableName_s g11) (sd 4 rfl (?_)))
   obtain ⟨g12, h⟩ := chk_some h
   refine ed rfl (qSs rfl g12 (sd 1 rfl (evdn ?_)))
   have kJ3 : ∀ {x13 : List Int}, spec_l7List_J3 (loopF (spec_l7List_B2 a0 y4) m) y8 x13 = some o2 → Jn K9 [(0, .str a0), (3, oL 3 ci64 x13), (4, nI y4), (5, nI y8)] := by
    intro x13 h σ' hk
    unfold spec_l7List_J3 at h
    exact hK9 _ (lh hk rfl (rg (sp 3 rfl (evn (hN _ _ h (okr rfl))))))
   rcases cond_some h with ⟨g14, h⟩ | ⟨g14, h⟩
   ·refine qT rfl g14 (rg (sp 2 rfl (qBs ci64 [y8] rfl rfl rfl zci64 (?_))))
    obtain ⟨g15, h⟩ := chk_some h
    exact qA ci64 y7 [y8] rfl rfl (flat_len zci64 [y8]) rfl g15 (sp 1 rfl (evn (kJ3 h _ (okr rfl))))
   ·exact qF rfl g14 (ls_skip (kJ3 h _ (okr rfl)))
  ·exact qF rfl g8 (ls_exit (kXB2 (Option.some.inj h) _ (okr rfl)))
 ·exact qF rfl g4 (ls_exit (kXB1 (Option.some.inj h) _ (okr rfl)))
def spec_l7Vars_B1 (a0 : List Int) (rec : ((List UInt8) × Int) → Option ((List UInt8))) (s : (List UInt8) × Int) : Option ((List UInt8)) := match s with
  | (y1, y2) => cond (decide (y2 < (List.length a0 : Int))) (obind (geti a0 y2) fun e6 => obind (spec_VariableName e6) fun v8 => chk (List.length y1 + List.length v8 ≤ lim) (rec ((y1 ++ v8), (IntKind.i64.wrap (y2 + 1))))) (some y1)
def spec_l7Vars (a0 : List Int) : Option ((List UInt8)) := obind (loopF (spec_l7Vars_B1 a0) fz ([40], 0)) fun z2 => chk (List.length z2 + List.length [41] ≤ lim) (some (z2 ++ [41]))
theorem spec_l7Vars_s {a0 : List Int} {r : (List UInt8)} (h : spec_l7Vars a0 = some r) : SoundAt Tryz.prog 253 [dL ci64 a0] (.str r) := by
 unfold spec_l7Vars at h
 refine st lit253 rfl (rn 2 rfl (ls_seq_k fun K1 hK1 => rn 1 rfl ?_))
 obtain ⟨o1, hl, hr1⟩ := ob_some h
 have kXB1 : ∀ {z2 : List UInt8}, z2 = o1 → Jn K1 [(3, .str z2)] := by
  intro z2 h σ' hk
  subst h
  replace h := hr1
  try dsimp only at h
  refine hK1 _ (lh hk rfl (rs (sp 1 rfl (?_))))
  obtain ⟨g11, h⟩ := chk_some h
  exact qB rfl g11 rfl (sp 1 rfl (evn (ls_ret ((by cases h; exact ⟨.inl rfl, rfl⟩)))))
 refine ls_rec (fun (s : (List UInt8) × Int) => match s with | (y1, y2) => [(0, dL ci64 a0), (3, .str y1), (4, nI y2)]) _ _ _ _ hl (okr rfl) (fun _ => rfl) ?_
 rintro m ⟨y1, y2⟩ N h hN
 unfold spec_l7Vars_B1 at h
 dsimp only at h
 refine ls_seq_k fun K3 hK3 => rn 1 rfl ?_
 rcases cond_some h with ⟨g4, h⟩ | ⟨g4, h⟩
 ·refine qT rfl g4 (ls_skip (hK3 _ (ls_seq_k fun K5 hK5 => ls_blk (rg (sp 3 rfl (?_))))))
  obtain ⟨e6, g7, h⟩ := ob_some h
  refine qI rfl zci64 g7 (sp 1 rfl (?_))
  obtain ⟨v8, g9, h⟩ := ob_some h
  refine qC (qs rfl eran) (spec_VariableName_s g9) (?_)
  obtain ⟨g10, h⟩ := chk_some h
  exact qB rfl g10 rfl (sp 1 rfl (evn (hK5 _ (rg (sp 3 rfl (evn (hN _ _ h (okr rfl))))))))
 ·exact qF rfl g4 (ls_exit (kXB1 (Option.some.inj h) _ (okr rfl)))
def spec_FormatQuery_J2 (rec : ((List UInt8) × Int) → Option ((List UInt8))) (a0 : Y29) (y2 : Int) (x14 : List UInt8) : Option ((List UInt8)) := obind (geti a0.2.1 y2) fun e15 => chk (List.length x14 + List.length e15.1 ≤ lim) (obind (geti a0.2.1 y2) fun e18 => obind (spec_l7Vars e18.2) fun v20 => chk (List.length (x14 ++ e15.1) + List.length v20 ≤ lim) (rec (((x14 ++ e15.1) ++ v20), (IntKind.i64.wrap (y2 + 1)))))
def spec_FormatQuery_B1 (a0 : Y29) (rec : ((List UInt8) × Int) → Option ((List UInt8))) (s : (List UInt8) × Int) : Option ((List UInt8)) := match s with
  | (y1, y2) => cond (decide (y2 < (List.length a0.2.1 : Int))) (cond (decide (0 < y2)) (chk (List.length y1 + List.length [44] ≤ lim) (spec_FormatQuery_J2 rec a0 y2 (y1 ++ [44]))) (spec_FormatQuery_J2 rec a0 y2 y1)) (some y1)
def spec_FormatQuery (a0 : Y29) : Option ((List UInt8)) := obind (spec_IsValidQuery a0) fun v2 => cond (!v2) (some []) (obind (spec_l7Vars a0.2.2) fun v5 => chk (List.length v5 + List.length [61] ≤ lim) (obind (loopF (spec_FormatQuery_B1 a0) fz ((v5 ++ [61]), 0)) fun z9 => some z9))
theorem spec_FormatQuery_s {a0 : Y29} {r : (List UInt8)} (h : spec_FormatQuery a0 = some r) : SoundAt Tryz.prog 245 [.agg (c30_ddd a0)] (.str r) := by
 unfold spec_FormatQuery at h
 refine st lit245 rfl (rn 1 rfl (ls_seq_k fun K1 hK1 => rs (sp 1 rfl (?_))))
 obtain ⟨v2, g3, h⟩ := ob_some h
 refine qC (qa rfl (erg (erc rfl (erc (erD ec96_d _) (erc (erD eci64 _) rfl)))) eran) (spec_IsValidQuery_s g3) (sp 1 rfl (evn ?_))
 rcases cond_some h with ⟨g4, h⟩ | ⟨g4, h⟩
 ·exact qT rfl g4 (rn 1 rfl (ls_ret ((by cases h; exact ⟨.inl rfl, rfl⟩))))
 ·refine qF rfl g4 (ls_skip (hK1 _ (rs (sp 2 rfl (?_)))))
  obtain ⟨v5, g6, h⟩ := ob_some h
  refine qC (qa rfl (erD eci64 _) eran) (spec_l7Vars_s g6) (?_)
  obtain ⟨g7, h⟩ := chk_some h
  refine qB rfl g7 rfl (sp 1 rfl (evn (ls_seq_k fun K8 hK8 => rn 1 rfl ?_)))
  obtain ⟨o1, hl, hr1⟩ := ob_some h
  have kXB1 : ∀ {z9 : List UInt8}, z9 = o1 → Jn K8 [(3, .str z9)] := by
   intro z9 h σ' hk
   subst h
   replace h := hr1
   try dsimp only at h
   exact hK8 _ (lh hk rfl (rn 1 rfl (ls_ret ((by cases h; exact ⟨.inl rfl, rfl⟩)))))
  refine ls_rec (fun (s : (List UInt8) × Int) => match s with | (y1, y2) => [(1, .box [nI a0.1, dL c96_d a0.2.1, dL ci64 a0.2.2]), (3, .str y1), (4, nI y2)]) _ _ _ _ hl (okr rfl) (fun _ => rfl) ?_
  rintro m ⟨y1, y2⟩ N h hN
  unfold spec_FormatQuery_B1 at h
  dsimp only at h
  refine ls_seq_k fun K10 hK10 => rn 1 rfl ?_
  rcases cond_some h with ⟨g11, h⟩ | ⟨g11, h⟩
  ·refine qT rfl g11 (ls_skip (hK10 _ (ls_seq_k fun K12 hK12 => ls_blk (ls_seq_k fun K13 hK13 => rn 1 rfl ?_))))
   have kJ2 : ∀ {x14 : List UInt8}, spec_FormatQuery_J2 (loopF (spec_FormatQuery_B1 a0) m) a0 y2 x14 = some o1 → Jn K13 [(1, .box [nI a0.1, dL c96_d a0.2.1, dL ci64 a0.2.2]), (3, .str x14), (4, nI y2)] := by
    intro x14 h σ' hk
    unfold spec_FormatQuery_J2 at h
    refine hK13 _ (lh hk rfl (rgd (by kernel_rfl) (sd 4 rfl (?_))))
    obtain ⟨e15, g16, h⟩ := ob_some h
    refine ed rfl (qI rfl zc96_d g16 (sd 2 rfl (?_)))
    obtain ⟨g17, h⟩ := chk_some h
    refine ed rfl (qB rfl g17 rfl (sd 3 rfl (?_)))
    obtain ⟨e18, g19, h⟩ := ob_some h
    refine ed rfl (qI rfl zc96_d g19 (sd 2 rfl (?_)))
    obtain ⟨v20, g21, h⟩ := ob_some h
    refine ed rfl (qC (qa rfl (erD eci64 _) eran) (spec_l7Vars_s g21) (?_))
    obtain ⟨g22, h⟩ := chk_some h
    exact ed rfl (qB rfl g22 rfl (sd 1 rfl (evdn (hK12 _ (rg (sp 3 rfl (evn (hN _ _ h (okr rfl)))))))))
   rcases cond_some h with ⟨g23, h⟩ | ⟨g23, h⟩
   ·refine qT rfl g23 (rg (sp 1 rfl (?_)))
    obtain ⟨g24, h⟩ := chk_some h
    exact qB rfl g24 rfl (sp 1 rfl (evn (kJ2 h _ (okr rfl))))
   ·exact qF rfl g23 (ls_skip (kJ2 h _ (okr rfl)))
  ·exact qF rfl g11 (ls_exit (kXB1 (Option.some.inj h) _ (okr rfl)))
def c96_o (x : Y95) : List V := [.str x.1, oL 3 ci64 x.2]
theorem zc96_o (x : Y95) : (c96_o x).length = 2 := rfl
theorem ec96_o (x : Y95) : erL (c96_o x) = c96_d x := (erc rfl (erc (erO eci64 _) rfl))
def c30_ooo (x : Y29) : List V := [nI x.1, oL 96 c96_o x.2.1, oL 3 ci64 x.2.2]
theorem zc30_ooo (x : Y29) : (c30_ooo x).length = 3 := rfl
theorem ec30_ooo (x : Y29) : erL (c30_ooo x) = c30_ddd x := (erc rfl (erc (erO ec96_o _) (erc (erO eci64 _) rfl)))
def spec_ParseQuery_J4 (rec : (Int × Int) → Option (Int)) (y27 : Int) (x45 : Int) : Option (Int) := rec (x45, (IntKind.i64.wrap (y27 + 1)))
def spec_ParseQuery_B3 (v11 : (List (List UInt8))) (y11 : Int) (y23 : Int) (rec : (Int × Int) → Option (Int)) (s : Int × Int) : Option (Int) := match s with
  | (y26, y27) => cond (decide (y27 < 5)) (obind (spec_VariableName y27) fun v40 => obind (geti v11 y11) fun e42 => chk ((0 : Int) ≤ y23 ∧ y23 ≤ IntKind.i64.wrap (y23 + 1) ∧ IntKind.i64.wrap (y23 + 1) ≤ (List.length e42 : Int)) (cond (v40 == (subl e42 y23 (IntKind.i64.wrap (y23 + 1)))) (spec_ParseQuery_J4 rec y27 (IntKind.i64.wrap (y27 + 1))) (spec_ParseQuery_J4 rec y27 y26))) (some y26)
def spec_ParseQuery_B2 (v11 : (List (List UInt8))) (y11 : Int) (rec : (Int × Int) → Option (Int)) (s : Int × Int) : Option (Int) := match s with
  | (y22, y23) => obind (geti v11 y11) fun e32 => cond (decide (y23 < (List.length e32 : Int))) (obind (loopF (spec_ParseQuery_B3 v11 y11 y23) fz (y22, y22)) fun z36 => rec (z36, (IntKind.i64.wrap (y23 + 1)))) (some y22)
def spec_ParseQuery_B1 (v11 : (List (List UInt8))) (rec : (Int × (List Y95) × Int) → Option (Int × (List Y95))) (s : Int × (List Y95) × Int) : Option (Int × (List Y95)) := match s with
  | (y9, y10, y11) => cond (decide (y11 < (List.length v11 : Int))) (obind (geti v11 y11) fun e19 => obind (spec_l5Cut e19 40) fun v21 => obind (geti v21 0) fun e23 => obind (geti v11 y11) fun e25 => obind (spec_l7List e25) fun v27 => chk (List.length y10 + List.length [(e23, v27)] ≤ lim) (obind (loopF (spec_ParseQuery_B2 v11 y11) fz (y9, 0)) fun z30 => rec (z30, (y10 ++ [(e23, v27)]), (IntKind.i64.wrap (y11 + 1))))) (some (y9, y10))
def spec_ParseQuery (a0 : List UInt8) : Option (Y29 × Bool) := obind (spec_l5Cut a0 61) fun v1 => cond ((List.length v1 : Int) != 2) (some ((0, [], []), false)) (obind (geti v1 0) fun e5 => obind (spec_l7List e5) fun v7 => obind (geti v1 1) fun e9 => obind (spec_l5Cut e9 44) fun v11 => obind (loopF (spec_ParseQuery_B1 v11) fz (0, ([] : List Y95), 0)) fun o1 => (match o1 with
  | (z14, z15) => (obind (spec_FormatQuery (z14, z15, v7)) fun v48 => cond (!(v48 == a0)) (some ((0, [], []), false)) (cond (a0 == []) (some ((0, [], []), false)) (some ((z14, z15, v7), true))))))
theorem spec_ParseQuery_s {a0 : List UInt8} {r : Y29 × Bool} (h : spec_ParseQuery a0 = some r) : SoundAt Tryz.prog 214 [.str a0] (.tup [.agg (c30_ooo r.1), .bool r.2]) := by
 unfold spec_ParseQuery at h
 refine st lit214 rfl (rn 1 rfl (rs (sp 1 rfl (?_))))
 obtain ⟨v1, g2, h⟩ := ob_some h
 refine qC (qs rfl (qs rfl eran)) (spec_l5Cut_s g2) (sp 1 rfl (evn (ls_seq_k fun K3 hK3 => rn 1 rfl ?_)))
 rcases cond_some h with ⟨g4, h⟩ | ⟨g4, h⟩
 ·exact qT rfl g4 (rn 1 rfl (ls_ret ((by cases h; exact ⟨.inl rfl, rfl⟩))))
 ·refine qF rfl g4 (ls_skip (hK3 _ (rs (sp 1 rfl (?_)))))
  obtain ⟨e5, g6, h⟩ := ob_some h
  refine qI rfl zcst g6 (sp 1 rfl (?_))
  obtain ⟨v7, g8, h⟩ := ob_some h
  refine qC (qs rfl eran) (spec_l7List_s g8) (sp 3 rfl (evn (rs (sp 1 rfl (?_)))))
  obtain ⟨e9, g10, h⟩ := ob_some h
  refine qI rfl zcst g10 (sp 1 rfl (?_))
  obtain ⟨v11, g12, h⟩ := ob_some h
  refine qC (qs rfl (qs rfl eran)) (spec_l5Cut_s g12) (sp 1 rfl (evn (qk [0, 2, 5, 6] rfl (ls_seq_k fun K13 hK13 => rn 1 rfl ?_))))
  obtain ⟨o1, hl, hr1⟩ := ob_some h
  have kXB1 : ∀ {z14 : Int} {z15 : List Y95}, (z14, z15) = o1 → Jn K13 [(0, .str a0), (2, .box [nI 0, oL 96 c96_o [], oL 3 ci64 []]), (5, .box [nI z14, oL 96 c96_o z15, oL 3 ci64 v7])] := by
   intro z14 z15 h σ' hk
   subst h
   replace h := hr1
   try dsimp only at h
   refine hK13 _ (lh hk rfl (ls_seq_k fun K47 hK47 => rs (sp 1 rfl (?_))))
   obtain ⟨v48, g49, h⟩ := ob_some h
   refine qC (qa rfl (erg (erc rfl (erc (erD ec96_o _) (erc (erD eci64 _) rfl)))) eran) (spec_FormatQuery_s g49) (sp 3 rfl (?_))
   rcases cond_some h with ⟨g50, h⟩ | ⟨g50, h⟩
   ·exact qg 84 g50 rfl (sp 3 rfl (evn (qT rfl rfl (rn 1 rfl (ls_ret ((by cases h; exact ⟨.inl rfl, rfl⟩)))))))
   ·refine qg 84 g50 rfl (sp 3 rfl (evn ?_))
    rcases cond_some h with ⟨g51, h⟩ | ⟨g51, h⟩
    ·exact qT rfl g51 (rn 1 rfl (ls_ret ((by cases h; exact ⟨.inl rfl, rfl⟩))))
    ·exact qF rfl g51 (ls_skip (hK47 _ (rn 1 rfl (ls_ret ((by cases h; exact ⟨.inl rfl, rfl⟩))))))
  refine ls_rec (fun (s : Int × (List Y95) × Int) => match s with | (y9, y10, y11) => [(0, .str a0), (2, .box [nI 0, oL 96 c96_o [], oL 3 ci64 []]), (5, .box [nI y9, oL 96 c96_o y10, oL 3 ci64 v7]), (6, oL 9 cst v11), (7, nI y11)]) _ _ _ _ hl (okr rfl) (fun _ => rfl) ?_
  rintro m ⟨y9, y10, y11⟩ N h hN
  unfold spec_ParseQuery_B1 at h
  dsimp only at h
  refine ls_seq_k fun K16 hK16 => rn 1 rfl ?_
  rcases cond_some h with ⟨g17, h⟩ | ⟨g17, h⟩
  ·refine qT rfl g17 (ls_skip (hK16 _ (ls_seq_k fun K18 hK18 => ls_blk (rs (sp 2 rfl (?_))))))
   obtain ⟨e19, g20, h⟩ := ob_some h
   refine qI rfl zcst g20 (sp 1 rfl (?_))
   obtain ⟨v21, g22, h⟩ := ob_some h
   refine qC (qs rfl (qs rfl eran)) (spec_l5Cut_s g22) (sp 1 rfl (evn (rd (by kernel_rfl) (sd 3 rfl (?_)))))
   obtain ⟨e23, g24, h⟩ := ob_some h
   refine ed rfl (qI rfl zcst g24 (sd 3 rfl (?_)))
   obtain ⟨e25, g26, h⟩ := ob_some h
   refine ed rfl (qI rfl zcst g26 (sd 1 rfl (?_)))
   obtain ⟨v27, g28, h⟩ := ob_some h
   refine ed rfl (qC (qs rfl eran) (spec_l7List_s g28) (sd 1 rfl (ed rfl (qBs c96_o [(e23, v27)] rfl rfl rfl zc96_o (?_)))))
   obtain ⟨g29, h⟩ := chk_some h
   refine ed rfl (qA c96_o y10 [(e23, v27)] rfl rfl (flat_len zc96_o [(e23, v27)]) rfl g29 (sd 2 rfl (evdn (rn 1 rfl (qk [0, 2, 5, 6, 7, 9] rfl ?_)))))
   obtain ⟨o2, hl, hr2⟩ := ob_some h
   have kXB2 : ∀ {z30 : Int}, z30 = o2 → Jn K18 [(0, .str a0), (2, .box [nI 0, oL 96 c96_o [], oL 3 ci64 []]), (5, .box [nI z30, oL 96 c96_o (y10 ++ [(e23, v27)]), oL 3 ci64 v7]), (6, oL 9 cst v11), (7, nI y11)] := by
    intro z30 h σ' hk
    subst h
    replace h := hr2
    try dsimp only at h
    exact hK18 _ (lh hk rfl (rg (sp 3 rfl (evn (hN _ _ h (okr rfl))))))
   refine ls_rec (fun (s : Int × Int) => match s with | (y22, y23) => [(0, .str a0), (2, .box [nI 0, oL 96 c96_o [], oL 3 ci64 []]), (5, .box [nI y22, oL 96 c96_o (y10 ++ [(e23, v27)]), oL 3 ci64 v7]), (6, oL 9 cst v11), (7, nI y11), (9, nI y23)]) _ _ _ _ hl (okr rfl) (fun _ => rfl) ?_
   rintro m ⟨y22, y23⟩ N h hN
   unfold spec_ParseQuery_B2 at h
   dsimp only at h
   refine ls_seq_k fun K31 hK31 => rs (sp 3 rfl (?_))
   obtain ⟨e32, g33, h⟩ := ob_some h
   refine qI rfl zcst g33 (sp 3 rfl (evn ?_))
   rcases cond_some h with ⟨g34, h⟩ | ⟨g34, h⟩
   ·refine qT rfl g34 (ls_skip (hK31 _ (ls_seq_k fun K35 hK35 => ls_blk (rn 1 rfl ?_))))
    obtain ⟨o3, hl, hr3⟩ := ob_some h
    have kXB3 : ∀ {z36 : Int}, z36 = o3 → Jn K35 [(0, .str a0), (2, .box [nI 0, oL 96 c96_o [], oL 3 ci64 []]), (5, .box [nI z36, oL 96 c96_o (y10 ++ [(e23, v27)]), oL 3 ci64 v7]), (6, oL 9 cst v11), (7, nI y11), (9, nI y23)] := by
     intro z36 h σ' hk
     subst h
     replace h := hr3
     try dsimp only at h
     exact hK35 _ (lh hk rfl (rg (sp 3 rfl (evn (hN _ _ h (okr rfl))))))
    refine ls_rec (fun (s : Int × Int) => match s with | (y26, y27) => [(0, .str a0), (2, .box [nI 0, oL 96 c96_o [], oL 3 ci64 []]), (5, .box [nI y26, oL 96 c96_o (y10 ++ [(e23, v27)]), oL 3 ci64 v7]), (6, oL 9 cst v11), (7, nI y11), (9, nI y23), (10, nI y27)]) _ _ _ _ hl (okr rfl) (fun _ => rfl) ?_
    rintro m ⟨y26, y27⟩ N h hN
    unfold spec_ParseQuery_B3 at h
    dsimp only at h
    refine ls_seq_k fun K37 hK37 => rn 1 rfl ?_
    rcases cond_some h with ⟨g38, h⟩ | ⟨g38, h⟩
    ·refine qT rfl g38 (ls_skip (hK37 _ (ls_seq_k fun K39 hK39 => ls_blk (rd (by kernel_rfl) (sd 1 rfl (?_))))))
     obtain ⟨v40, g41, h⟩ := ob_some h
     refine ed rfl (qC (qs rfl eran) (spec_VariableName_s g41) (sd 2 rfl (?_)))
     obtain ⟨e42, g43, h⟩ := ob_some h
     refine ed rfl (qI rfl zcst g43 (sd 4 rfl (?_)))
     obtain ⟨g44, h⟩ := chk_some h
     refine ed rfl (qSs rfl g44 (sd 1 rfl (evdn ?_)))
     have kJ4 : ∀ {x45 : Int}, spec_ParseQuery_J4 (loopF (spec_ParseQuery_B3 v11 y11 y23) m) y27 x45 = some o3 → Jn K39 [(0, .str a0), (2, .box [nI 0, oL 96 c96_o [], oL 3 ci64 []]), (5, .box [nI x45, oL 96 c96_o (y10 ++ [(e23, v27)]), oL 3 ci64 v7]), (6, oL 9 cst v11), (7, nI y11), (9, nI y23), (10, nI y27)] := by
      intro x45 h σ' hk
      unfold spec_ParseQuery_J4 at h
      exact hK39 _ (lh hk rfl (rg (sp 3 rfl (evn (hN _ _ h (okr rfl))))))
     rcases cond_some h with ⟨g46, h⟩ | ⟨g46, h⟩
     ·exact qT rfl g46 (rg (sp 4 rfl (evn (kJ4 h _ (okr rfl)))))
     ·exact qF rfl g46 (ls_skip (kJ4 h _ (okr rfl)))
    ·exact qF rfl g38 (ls_exit (kXB3 (Option.some.inj h) _ (okr rfl)))
   ·exact qF rfl g34 (ls_exit (kXB2 (Option.some.inj h) _ (okr rfl)))
  ·exact qF rfl g17 (ls_exit (kXB1 (Option.some.inj h) _ (okr rfl)))
def spec_l7Query_B2 (v9 : Int × Y163) (rec : ((List Int) × Int × Int × (List Int) × Int) → Option ((List Int) × Int × Int × (List Int))) (s : (List Int) × Int × Int × (List Int) × Int) : Option ((List Int) × Int × Int × (List Int)) := match s with
  | (y16, y17, y18, y19, y20) => cond (decide (0 < y20)) (obind (spec_l1Below (y16, y17, y18) (IntKind.i64.wrap (1 + v9.1))) fun v33 => chk (List.length y19 + List.length [v33.1] ≤ lim) (rec (v33.2.1, v33.2.2.1, v33.2.2.2, (y19 ++ [v33.1]), (IntKind.i64.wrap (y20 - 1))))) (some (y16, y17, y18, y19))
def spec_l7Query_B1 (v9 : Int × Y163) (rec : ((List Int) × Int × Int × (List Y95) × Int) → Option ((List Int) × Int × Int × (List Y95))) (s : (List Int) × Int × Int × (List Y95) × Int) : Option ((List Int) × Int × Int × (List Y95)) := match s with
  | (y6, y7, y8, y9, y10) => cond (decide (0 < y10)) (obind (spec_l1Below (y6, y7, y8) 5) fun v21 => obind (geti ([[114], [115], [116], [117], [118]]) v21.1) fun e23 => obind (loopF (spec_l7Query_B2 v9) fz (v21.2.1, v21.2.2.1, v21.2.2.2, ([] : List Int), (IntKind.i64.wrap (2 + (IntKind.i64.wrap (Int.tdiv v21.1 4)))))) fun o2 => (match o2 with
  | (z26, z27, z28, z29) => (chk (List.length y9 + List.length [(e23, z29)] ≤ lim) (rec (z26, z27, z28, (y9 ++ [(e23, z29)]), (IntKind.i64.wrap (y10 - 1))))))) (some (y6, y7, y8, y9))
def spec_l7Query_J4 (rec : ((List Int) × Int × Int × (List Int) × Int) → Option ((List Int) × Int × Int × (List Int))) (y25 : Int) (v45 : Bool × Y163) (x47 : List Int) : Option ((List Int) × Int × Int × (List Int)) := rec (v45.2.1, v45.2.2.1, v45.2.2.2, x47, (IntKind.i64.wrap (y25 + 1)))
def spec_l7Query_B3 (v9 : Int × Y163) (rec : ((List Int) × Int × Int × (List Int) × Int) → Option ((List Int) × Int × Int × (List Int))) (s : (List Int) × Int × Int × (List Int) × Int) : Option ((List Int) × Int × Int × (List Int)) := match s with
  | (y21, y22, y23, y24, y25) => cond (decide (y25 < (IntKind.i64.wrap (1 + v9.1)))) (obind (spec_l1Once (y21, y22, y23) 2) fun v45 => cond v45.1 (chk (List.length [y25] + List.length y24 ≤ lim) (spec_l7Query_J4 rec y25 v45 ([y25] ++ y24))) (spec_l7Query_J4 rec y25 v45 y24)) (some (y21, y22, y23, y24))
def spec_l7Query (a0 : Y163) : Option (Y29 × Y163) := obind (spec_l1Pick a0 ([[40, 88, 89, 90, 41, 61, 114, 40, 88, 89, 41, 44, 115, 40, 89, 90, 41, 44, 116, 40, 90, 88, 41], [40, 88, 89, 90, 85, 41, 61, 114, 40, 88, 89, 41, 44, 115, 40, 89, 90, 41, 44, 116, 40, 90, 85, 41, 44, 117, 40, 85, 88, 41], [40, 88, 89, 90, 41, 61, 114, 40, 88, 89, 41, 44, 115, 40, 89, 90, 41], [40, 88, 41, 61, 114, 40, 88, 89, 41, 44, 115, 40, 89, 90, 41, 44, 116, 40, 90, 85, 41], [40, 88, 89, 90, 41, 61, 118, 40, 88, 89, 90, 41, 44, 114, 40, 88, 89, 41], [40, 88, 89, 41, 61, 114, 40, 88, 89, 41, 44, 114, 40, 89, 88, 41], [40, 88, 89, 90, 85, 41, 61, 118, 40, 88, 89, 90, 41, 44, 115, 40, 90, 85, 41, 44, 116, 40, 85, 88, 41], [40, 88, 41, 61, 114, 40, 88, 88, 41], [40, 88, 89, 41, 61, 114, 40, 88, 90, 41, 44, 115, 40, 90, 89, 41, 44, 114, 40, 88, 85, 41, 44, 115, 40, 85, 89, 41], [40, 41, 61, 114, 40, 88, 89, 41, 44, 115, 40, 89, 88, 41], [40, 88, 89, 90, 85, 86, 41, 61, 114, 40, 88, 89, 41, 44, 115, 40, 89, 90, 41, 44, 116, 40, 90, 85, 41, 44, 117, 40, 85, 86, 41]])) fun v1 => obind (spec_ParseQuery v1.1) fun v3 => obind (spec_l1Once v1.2 3) fun v6 => cond (!v6.1) (some (v3.1, v6.2)) (obind (spec_l1Below v6.2 4) fun v9 => obind (spec_l1Below v9.2 4) fun v12 => obind (loopF (spec_l7Query_B1 v9) fz (v12.2.1, v12.2.2.1, v12.2.2.2, ([] : List Y95), (IntKind.i64.wrap (1 + v12.1)))) fun o1 => (match o1 with
  | (z14, z15, z16, z17) => (obind (loopF (spec_l7Query_B3 v9) fz (z14, z15, z16, ([] : List Int), 0)) fun o3 => (match o3 with
  | (z38, z39, z40, z41) => (obind (spec_IsValidQuery (IntKind.i64.wrap (1 + v9.1), z17, z41)) fun v51 => cond (!v51) (some (v3.1, (z38, z39, z40))) (some ((IntKind.i64.wrap (1 + v9.1), z17, z41), (z38, z39, z40))))))))
theorem spec_l7Query_s {a0 : Y163} {r : Y29 × Y163} (h : spec_l7Query a0 = some r) : PtrAt Tryz.prog 157 [aL cu8 a0.1, nI a0.2.1, nI a0.2.2] [] [aL cu8 r.2.1, nI r.2.2.1, nI r.2.2.2] (.agg (c30_ooo r.1)) := by
 unfold spec_l7Query at h
 generalize hkk0 : ([[40, 88, 89, 90, 41, 61, 114, 40, 88, 89, 41, 44, 115, 40, 89, 90, 41, 44, 116, 40, 90, 88, 41], [40, 88, 89, 90, 85, 41, 61, 114, 40, 88, 89, 41, 44, 115, 40, 89, 90, 41, 44, 116, 40, 90, 85, 41, 44, 117, 40, 85, 88, 41], [40, 88, 89, 90, 41, 61, 114, 40, 88, 89, 41, 44, 115, 40, 89, 90, 41], [40, 88, 41, 61, 114, 40, 88, 89, 41, 44, 115, 40, 89, 90, 41, 44, 116, 40, 90, 85, 41], [40, 88, 89, 90, 41, 61, 118, 40, 88, 89, 90, 41, 44, 114, 40, 88, 89, 41], [40, 88, 89, 41, 61, 114, 40, 88, 89, 41, 44, 114, 40, 89, 88, 41], [40, 88, 89, 90, 85, 41, 61, 118, 40, 88, 89, 90, 41, 44, 115, 40, 90, 85, 41, 44, 116, 40, 85, 88, 41], [40, 88, 41, 61, 114, 40, 88, 88, 41], [40, 88, 89, 41, 61, 114, 40, 88, 90, 41, 44, 115, 40, 90, 89, 41, 44, 114, 40, 88, 85, 41, 44, 115, 40, 85, 89, 41], [40, 41, 61, 114, 40, 88, 89, 41, 44, 115, 40, 89, 88, 41], [40, 88, 89, 90, 85, 86, 41, 61, 114, 40, 88, 89, 41, 44, 115, 40, 89, 90, 41, 44, 116, 40, 90, 85, 41, 44, 117, 40, 85, 86, 41]] : List (List UInt8)) = kk0 at h
 refine stp lit157 rfl (rn 1 rfl ((rsB cst kk0 9 1 (by subst hkk0; kernel_rfl) (by subst hkk0; rfl) zcst (sp 1 rfl (evn (rs (sp 2 rfl (?_))))))))
 obtain ⟨v1, g2, h⟩ := ob_some h
 refine qP rfl rfl rfl rfl (qa rfl (erD ecst _) eran) (spec_l1Pick_s g2) (?_)
 obtain ⟨v3, g4, h⟩ := ob_some h
 refine qC (qs rfl eran) (spec_ParseQuery_s g4) (sp 6 rfl (evn (ls_seq_k fun K5 hK5 => rs (sp 1 rfl (?_)))))
 obtain ⟨v6, g7, h⟩ := ob_some h
 refine qP rfl rfl rfl rfl (qs rfl eran) (spec_l1Once_s g7) (sp 1 rfl (evn ?_))
 rcases cond_some h with ⟨g8, h⟩ | ⟨g8, h⟩
 ·exact qT rfl g8 (rn 1 rfl (ls_ret ((by cases h; exact ⟨.inl rfl, rfl, rfl⟩))))
 ·refine qF rfl g8 (ls_skip (hK5 _ (rs (sp 1 rfl (?_)))))
  obtain ⟨v9, g10, h⟩ := ob_some h
  refine qP rfl rfl rfl rfl (qs rfl eran) (spec_l1Below_s g10) (sp 4 rfl (evn (qk [0, 2, 4, 6] rfl (ls_seq_k fun K11 hK11 => rs (sp 1 rfl (?_))))))
  obtain ⟨v12, g13, h⟩ := ob_some h
  refine qP rfl rfl rfl rfl (qs rfl eran) (spec_l1Below_s g13) (sp 2 rfl (evn ?_))
  obtain ⟨o1, hl, hr1⟩ := ob_some h
  have kXB1 : ∀ {z14 : List Int} {z15 : Int} {z16 : Int} {z17 : List Y95}, (z14, z15, z16, z17) = o1 → Jn K11 [(0, .box [aL cu8 z14, nI z15, nI z16]), (2, .box [nI 0, oL 96 c96_o [], oL 3 ci64 []]), (4, .box [nI v3.1.1, oL 96 c96_o v3.1.2.1, oL 3 ci64 v3.1.2.2]), (6, .box [nI (IntKind.i64.wrap (1 + v9.1)), oL 96 c96_o z17, oL 3 ci64 []])] := by
   intro z14 z15 z16 z17 h σ' hk
   subst h
   replace h := hr1
   try dsimp only at h
   refine hK11 _ (lh hk rfl (ls_seq_k fun K37 hK37 => rn 1 rfl ?_))
   obtain ⟨o3, hl, hr3⟩ := ob_some h
   have kXB3 : ∀ {z38 : List Int} {z39 : Int} {z40 : Int} {z41 : List Int}, (z38, z39, z40, z41) = o3 → Jn K37 [(0, .box [aL cu8 z38, nI z39, nI z40]), (2, .box [nI 0, oL 96 c96_o [], oL 3 ci64 []]), (4, .box [nI v3.1.1, oL 96 c96_o v3.1.2.1, oL 3 ci64 v3.1.2.2]), (6, .box [nI (IntKind.i64.wrap (1 + v9.1)), oL 96 c96_o z17, oL 3 ci64 z41])] := by
    intro z38 z39 z40 z41 h σ' hk
    subst h
    replace h := hr3
    try dsimp only at h
    refine hK37 _ (lh hk rfl (ls_seq_k fun K50 hK50 => rs (sp 1 rfl (?_))))
    obtain ⟨v51, g52, h⟩ := ob_some h
    refine qC (qa rfl (erg (erc rfl (erc (erD ec96_o _) (erc (erD eci64 _) rfl)))) eran) (spec_IsValidQuery_s g52) (sp 1 rfl (evn ?_))
    rcases cond_some h with ⟨g53, h⟩ | ⟨g53, h⟩
    ·exact qT rfl g53 (rn 1 rfl (ls_ret ((by cases h; exact ⟨.inl rfl, rfl, rfl⟩))))
    ·exact qF rfl g53 (ls_skip (hK50 _ (rn 1 rfl (ls_ret ((by cases h; exact ⟨.inl rfl, rfl, rfl⟩))))))
   refine ls_rec (fun (s : (List Int) × Int × Int × (List Int) × Int) => match s with | (y21, y22, y23, y24, y25) => [(0, .box [aL cu8 y21, nI y22, nI y23]), (2, .box [nI 0, oL 96 c96_o [], oL 3 ci64 []]), (4, .box [nI v3.1.1, oL 96 c96_o v3.1.2.1, oL 3 ci64 v3.1.2.2]), (6, .box [nI (IntKind.i64.wrap (1 + v9.1)), oL 96 c96_o z17, oL 3 ci64 y24]), (11, nI y25)]) _ _ _ _ hl (okr rfl) (fun _ => rfl) ?_
   rintro m ⟨y21, y22, y23, y24, y25⟩ N h hN
   unfold spec_l7Query_B3 at h
   dsimp only at h
   refine ls_seq_k fun K42 hK42 => rn 1 rfl ?_
   rcases cond_some h with ⟨g43, h⟩ | ⟨g43, h⟩
   ·refine qT rfl g43 (ls_skip (hK42 _ (ls_seq_k fun K44 hK44 => ls_blk (rs (sp 1 rfl (?_))))))
    obtain ⟨v45, g46, h⟩ := ob_some h
    refine qP rfl rfl rfl rfl (qs rfl eran) (spec_l1Once_s g46) (evn ?_)
    have kJ4 : ∀ {x47 : List Int}, spec_l7Query_J4 (loopF (spec_l7Query_B3 v9) m) y25 v45 x47 = some o3 → Jn K44 [(0, .box (c164_a v45.2)), (2, .box [nI 0, oL 96 c96_o [], oL 3 ci64 []]), (4, .box [nI v3.1.1, oL 96 c96_o v3.1.2.1, oL 3 ci64 v3.1.2.2]), (6, .box [nI (IntKind.i64.wrap (1 + v9.1)), oL 96 c96_o z17, oL 3 ci64 x47]), (11, nI y25)] := by
     intro x47 h σ' hk
     unfold spec_l7Query_J4 at h
     exact hK44 _ (lh hk rfl (rg (sp 3 rfl (evn (hN _ _ h (okr rfl))))))
    rcases cond_some h with ⟨g48, h⟩ | ⟨g48, h⟩
    ·refine qT rfl g48 (rg (sp 1 rfl (qBs ci64 [y25] rfl rfl rfl zci64 (sp 2 rfl (?_)))))
     obtain ⟨g49, h⟩ := chk_some h
     exact qA ci64 [y25] y24 rfl rfl (flat_len zci64 y24) rfl g49 (sp 2 rfl (evn (kJ4 h _ (okr rfl))))
    ·exact qF rfl g48 (ls_skip (kJ4 h _ (okr rfl)))
   ·exact qF rfl g43 (ls_exit (kXB3 (Option.some.inj h) _ (okr rfl)))
  refine ls_rec (fun (s : (List Int) × Int × Int × (List Y95) × Int) => match s with | (y6, y7, y8, y9, y10) => [(0, .box [aL cu8 y6, nI y7, nI y8]), (2, .box [nI 0, oL 96 c96_o [], oL 3 ci64 []]), (4, .box [nI v3.1.1, oL 96 c96_o v3.1.2.1, oL 3 ci64 v3.1.2.2]), (6, .box [nI (IntKind.i64.wrap (1 + v9.1)), oL 96 c96_o y9, oL 3 ci64 []]), (7, nI y10)]) _ _ _ _ hl (okr rfl) (fun _ => rfl) ?_
  rintro m ⟨y6, y7, y8, y9, y10⟩ N h hN
  unfold spec_l7Query_B1 at h
  dsimp only at h
  refine ls_seq_k fun K18 hK18 => rn 1 rfl ?_
  rcases cond_some h with ⟨g19, h⟩ | ⟨g19, h⟩
  ·refine qT rfl g19 (ls_skip (hK18 _ (ls_seq_k fun K20 hK20 => ls_blk (rs (sp 1 rfl (?_))))))
   obtain ⟨v21, g22, h⟩ := ob_some h
   refine qP rfl rfl rfl rfl (qs rfl eran) (spec_l1Below_s g22) (sp 1 rfl (evn (rs (qBk cst [[114], [115], [116], [117], [118]] 9 1 (by kernel_rfl) rfl zcst (sp 1 rfl (?_))))))
   obtain ⟨e23, g24, h⟩ := ob_some h
   refine qI rfl zcst g24 (sp 4 rfl (evn (ls_seq_k fun K25 hK25 => rn 1 rfl ?_)))
   obtain ⟨o2, hl, hr2⟩ := ob_some h
   have kXB2 : ∀ {z26 : List Int} {z27 : Int} {z28 : Int} {z29 : List Int}, (z26, z27, z28, z29) = o2 → Jn K25 [(0, .box [aL cu8 z26, nI z27, nI z28]), (2, .box [nI 0, oL 96 c96_o [], oL 3 ci64 []]), (4, .box [nI v3.1.1, oL 96 c96_o v3.1.2.1, oL 3 ci64 v3.1.2.2]), (6, .box [nI (IntKind.i64.wrap (1 + v9.1)), oL 96 c96_o y9, oL 3 ci64 []]), (7, nI y10), (9, .box [.str e23, oL 3 ci64 z29])] := by
    intro z26 z27 z28 z29 h σ' hk
    subst h
    replace h := hr2
    try dsimp only at h
    refine hK25 _ (lh hk rfl (rg (sp 3 rfl (qBs c96_o [(e23, z29)] rfl rfl rfl zc96_o (?_)))))
    obtain ⟨g36, h⟩ := chk_some h
    exact qA c96_o y9 [(e23, z29)] rfl rfl (flat_len zc96_o [(e23, z29)]) rfl g36 (sp 2 rfl (evn (hK20 _ (rg (sp 3 rfl (evn (hN _ _ h (okr rfl))))))))
   refine ls_rec (fun (s : (List Int) × Int × Int × (List Int) × Int) => match s with | (y16, y17, y18, y19, y20) => [(0, .box [aL cu8 y16, nI y17, nI y18]), (2, .box [nI 0, oL 96 c96_o [], oL 3 ci64 []]), (4, .box [nI v3.1.1, oL 96 c96_o v3.1.2.1, oL 3 ci64 v3.1.2.2]), (6, .box [nI (IntKind.i64.wrap (1 + v9.1)), oL 96 c96_o y9, oL 3 ci64 []]), (7, nI y10), (9, .box [.str e23, oL 3 ci64 y19]), (10, nI y20)]) _ _ _ _ hl (okr rfl) (fun _ => rfl) ?_
   rintro m ⟨y16, y17, y18, y19, y20⟩ N h hN
   unfold spec_l7Query_B2 at h
   dsimp only at h
   refine ls_seq_k fun K30 hK30 => rn 1 rfl ?_
   rcases cond_some h with ⟨g31, h⟩ | ⟨g31, h⟩
   ·refine qT rfl g31 (ls_skip (hK30 _ (ls_seq_k fun K32 hK32 => ls_blk (rgd (by kernel_rfl) (sd 5 rfl (?_))))))
    obtain ⟨v33, g34, h⟩ := ob_some h
    refine ed rfl (qP rfl rfl rfl rfl (qs rfl eran) (spec_l1Below_s g34) (ed rfl (qBs ci64 [v33.1] rfl rfl rfl zci64 (?_))))
    obtain ⟨g35, h⟩ := chk_some h
    exact ed rfl (qA ci64 y19 [v33.1] rfl rfl (flat_len zci64 [v33.1]) rfl g35 (sd 2 rfl (evdn (hK32 _ (rg (sp 3 rfl (evn (hN _ _ h (okr rfl)))))))))
   ·exact qF rfl g31 (ls_exit (kXB2 (Option.some.inj h) _ (okr rfl)))
  ·exact qF rfl g19 (ls_exit (kXB1 (Option.some.inj h) _ (okr rfl)))
def spec_IsQueryFor_B1 (a0 : List Y108) (a1 : Y29) (rec : Int → Option (Sum (Unit) (Bool))) (y1 : Int) : Option (Sum (Unit) (Bool)) := cond (decide (y1 < (List.length a1.2.1 : Int))) (obind (geti a1.2.1 y1) fun e5 => obind (spec_LookupRelation a0 e5.1) fun v7 => cond (!v7.2) (some (.inr false)) (obind (geti a1.2.1 y1) fun e10 => cond (v7.1.1 != (List.length e10.2 : Int)) (some (.inr false)) (rec (IntKind.i64.wrap (y1 + 1))))) (some (.inl ()))
def spec_IsQueryFor_J2 (x14 : Bool) : Option (Bool) := some x14
def spec_IsQueryFor (a0 : List Y108) (a1 : Y29) : Option (Bool) := obind (loopF (spec_IsQueryFor_B1 a0 a1) fz 0) fun o1 => (match o1 with
  | .inl _ => (obind (spec_IsValidQuery a1) fun v15 => cond v15 (obind (spec_IsValidDatabase a0) fun v18 => spec_IsQueryFor_J2 v18) (spec_IsQueryFor_J2 false))
  | .inr r => some r)
theorem spec_IsQueryFor_s {a0 : List Y108} {a1 : Y29} {r : Bool} (h : spec_IsQueryFor a0 a1 = some r) : SoundAt Tryz.prog 59 [.agg [dL c109_dd a0], .agg (c30_ddd a1)] (.bool r) := by
 unfold spec_IsQueryFor at h
 refine st lit59 rfl (rn 1 rfl (ls_seq_k fun K1 hK1 => rn 1 rfl ?_))
 obtain ⟨o1, hl, hr1⟩ := ob_some h
 have kXB1 : (.inl ()) = o1 → Jn K1 [(2, .box [dL c109_dd a0]), (3, .box [nI a1.1, dL c96_d a1.2.1, dL ci64 a1.2.2])] := by
  intro h σ' hk
  subst h
  replace h := hr1
  try dsimp only at h
  refine hK1 _ (lh hk rfl (rk fun K13 hK13 => ?_))
  have kJ2 : ∀ {x14 : Bool}, spec_IsQueryFor_J2 x14 = some r → Jn K13 [(4, .bool x14)] := by
   intro x14 h σ' hk
   unfold spec_IsQueryFor_J2 at h
   exact hK13 _ (lh hk rfl (ls_ret ((by cases h; exact ⟨.inl rfl, rfl⟩))))
  refine sp 1 rfl (?_)
  obtain ⟨v15, g16, h⟩ := ob_some h
  refine qC (qa rfl (erg (erc rfl (erc (erD ec96_d _) (erc (erD eci64 _) rfl)))) eran) (spec_IsValidQuery_s g16) (sp 1 rfl (?_))
  rcases cond_some h with ⟨g17, h⟩ | ⟨g17, h⟩
  ·refine qg 42 g17 rfl (sp 1 rfl (?_))
   obtain ⟨v18, g19, h⟩ := ob_some h
   exact oGR rfl rfl (qC (qa rfl (erg (erc (erD ec109_dd _) rfl)) eran) (spec_IsValidDatabase_s g19) (sp 2 rfl (evn (kJ2 h _ (okr rfl)))))
  ·exact qg 42 g17 rfl (sp 4 rfl (evn (kJ2 h _ (okr rfl))))
 refine ls_rec (fun (y1 : Int) => [(2, .box [dL c109_dd a0]), (3, .box [nI a1.1, dL c96_d a1.2.1, dL ci64 a1.2.2]), (5, nI y1)]) _ _ _ _ hl (okr rfl) (fun _ => rfl) ?_
 rintro m y1 N h hN
 unfold spec_IsQueryFor_B1 at h
 refine ls_seq_k fun K2 hK2 => rn 1 rfl ?_
 rcases cond_some h with ⟨g3, h⟩ | ⟨g3, h⟩
 ·refine qT rfl g3 (ls_skip (hK2 _ (ls_seq_k fun K4 hK4 => ls_blk (rd (by kernel_rfl) (sd 4 rfl (?_))))))
  obtain ⟨e5, g6, h⟩ := ob_some h
  refine ed rfl (qI rfl zc96_d g6 (sd 2 rfl (?_)))
  obtain ⟨v7, g8, h⟩ := ob_some h
  refine ed rfl (qC (qa rfl (erg (erc (erD ec109_dd _) rfl)) (qs rfl eran)) (spec_LookupRelation_s g8) (sd 6 rfl (evdn (rd (by kernel_rfl) (sd 3 rfl (?_))))))
  rcases cond_some h with ⟨g9, h⟩ | ⟨g9, h⟩
  ·exact qgd 28 g9 rfl (sd 11 rfl (evdn (qk [2, 3, 5, 39] rfl (qT rfl rfl (rn 1 rfl (ls_ret ((by cases h; cases hr1; exact ⟨.inl rfl, rfl⟩))))))))
  ·refine qgd 28 g9 rfl (sd 5 rfl (?_))
   obtain ⟨e10, g11, h⟩ := ob_some h
   refine ed rfl (oGR rfl rfl (qI rfl zc96_d g11 (sd 5 rfl (evdn ?_))))
   rcases cond_some h with ⟨g12, h⟩ | ⟨g12, h⟩
   ·exact qT rfl g12 (rn 1 rfl (ls_ret ((by cases h; cases hr1; exact ⟨.inl rfl, rfl⟩))))
   ·exact qF rfl g12 (ls_skip (hK4 _ (rg (sp 3 rfl (evn (hN _ _ h (okr rfl)))))))
 ·exact qF rfl g3 (ls_exit (kXB1 (Option.some.inj h) _ (okr rfl)))
def spec_IsPermutation_B1 (a0 : List Int) (rec : Int → Option (Sum (Unit) (Bool))) (y1 : Int) : Option (Sum (Unit) (Bool)) := cond (decide (y1 < (List.length a0 : Int))) (obind (geti a0 y1) fun e5 => obind (spec_l1In e5 0 (IntKind.i64.wrap ((List.length a0 : Int) - 1))) fun v7 => cond (!v7) (some (.inr false)) (chk ((0 : Int) ≤ 0 ∧ 0 ≤ y1 ∧ y1 ≤ (List.length a0 : Int)) (obind (geti a0 y1) fun e11 => obind (spec_l7Find (subl a0 0 y1) e11) fun v13 => cond (decide (0 ≤ v13)) (some (.inr false)) (rec (IntKind.i64.wrap (y1 + 1)))))) (some (.inl ()))
def spec_IsPermutation (a0 : List Int) : Option (Bool) := obind (loopF (spec_IsPermutation_B1 a0) fz 0) fun o1 => (match o1 with
  | .inl _ => (some (decide ((List.length a0 : Int) ≤ 5)))
  | .inr r => some r)
theorem spec_IsPermutation_s {a0 : List Int} {r : Bool} (h : spec_IsPermutation a0 = some r) : SoundAt Tryz.prog 166 [dL ci64 a0] (.bool r) := by
 unfold spec_IsPermutation at h
 refine st lit166 rfl (rn 1 rfl (ls_seq_k fun K1 hK1 => rn 1 rfl ?_))
 obtain ⟨o1, hl, hr1⟩ := ob_some h
 have kXB1 : (.inl ()) = o1 → Jn K1 [(0, dL ci64 a0)] := by
  intro h σ' hk
  subst h
  replace h := hr1
  try dsimp only at h
  exact hK1 _ (lh hk rfl (rn 1 rfl (ls_ret ((by cases h; exact ⟨.inl rfl, rfl⟩)))))
 refine ls_rec (fun (y1 : Int) => [(0, dL ci64 a0), (3, nI y1)]) _ _ _ _ hl (okr rfl) (fun _ => rfl) ?_
 rintro m y1 N h hN
 unfold spec_IsPermutation_B1 at h
 refine ls_seq_k fun K2 hK2 => rn 1 rfl ?_
 rcases cond_some h with ⟨g3, h⟩ | ⟨g3, h⟩
 ·refine qT rfl g3 (ls_skip (hK2 _ (ls_seq_k fun K4 hK4 => ls_blk (rd (by kernel_rfl) (sd 2 rfl (?_))))))
  obtain ⟨e5, g6, h⟩ := ob_some h
  refine ed rfl (qI rfl zci64 g6 (sd 4 rfl (?_)))
  obtain ⟨v7, g8, h⟩ := ob_some h
  refine ed rfl (qC (qs rfl (qs rfl (qs rfl eran))) (spec_l1In_s g8) (sd 2 rfl (?_)))
  rcases cond_some h with ⟨g9, h⟩ | ⟨g9, h⟩
  ·exact qgd 19 g9 rfl (sd 10 rfl (evdn (qT rfl rfl (rn 1 rfl (ls_ret ((by cases h; cases hr1; exact ⟨.inl rfl, rfl⟩)))))))
  ·refine qgd 19 g9 rfl (sd 2 rfl (?_))
   obtain ⟨g10, h⟩ := chk_some h
   refine ed rfl (oGR rfl rfl (qSl rfl zci64 g10 (sd 2 rfl (?_))))
   obtain ⟨e11, g12, h⟩ := ob_some h
   refine ed rfl (oGR rfl rfl (qI rfl zci64 g12 (sd 1 rfl (?_))))
   obtain ⟨v13, g14, h⟩ := ob_some h
   refine ed rfl (oGR rfl rfl (qC (qa rfl (erD eci64 _) (qs rfl eran)) (spec_l7Find_s g14) (sd 2 rfl (evdn (qk [0, 3, 29] rfl ?_)))))
   rcases cond_some h with ⟨g15, h⟩ | ⟨g15, h⟩
   ·exact qT rfl g15 (rn 1 rfl (ls_ret ((by cases h; cases hr1; exact ⟨.inl rfl, rfl⟩))))
   ·exact qF rfl g15 (ls_skip (hK4 _ (rg (sp 3 rfl (evn (hN _ _ h (okr rfl)))))))
 ·exact qF rfl g3 (ls_exit (kXB1 (Option.some.inj h) _ (okr rfl)))
def spec_IsValidOrder_J1 (x2 : Bool) : Option (Bool) := some x2
def spec_IsValidOrder (a0 : Y29) (a1 : List Int) : Option (Bool) := obind (spec_IsValidQuery a0) fun v3 => cond v3 (cond ((List.length a1 : Int) == a0.1) (obind (spec_IsPermutation a1) fun v7 => spec_IsValidOrder_J1 v7) (spec_IsValidOrder_J1 false)) (spec_IsValidOrder_J1 false)
theorem spec_IsValidOrder_s {a0 : Y29} {a1 : List Int} {r : Bool} (h : spec_IsValidOrder a0 a1 = some r) : SoundAt Tryz.prog 95 [.agg (c30_ddd a0), dL ci64 a1] (.bool r) := by
 unfold spec_IsValidOrder at h
 refine st lit95 rfl (rn 1 rfl (rk fun K1 hK1 => ?_))
 have kJ1 : ∀ {x2 : Bool}, spec_IsValidOrder_J1 x2 = some r → Jn K1 [(4, .bool x2)] := by
  intro x2 h σ' hk
  unfold spec_IsValidOrder_J1 at h
  exact hK1 _ (lh hk rfl (ls_ret ((by cases h; exact ⟨.inl rfl, rfl⟩))))
 refine sp 1 rfl (?_)
 obtain ⟨v3, g4, h⟩ := ob_some h
 refine qC (qa rfl (erg (erc rfl (erc (erD ec96_d _) (erc (erD eci64 _) rfl)))) eran) (spec_IsValidQuery_s g4) (sp 1 rfl (?_))
 rcases cond_some h with ⟨g5, h⟩ | ⟨g5, h⟩
 ·refine qg 7 g5 rfl (sp 7 rfl (?_))
  rcases cond_some h with ⟨g6, h⟩ | ⟨g6, h⟩
  ·refine qg 14 g6 rfl (sp 1 rfl (?_))
   obtain ⟨v7, g8, h⟩ := ob_some h
   exact oGR rfl rfl (qC (qa rfl (erD eci64 _) eran) (spec_IsPermutation_s g8) (sp 2 rfl (evn (kJ1 h _ (okr rfl)))))
  ·exact qg 14 g6 rfl (sp 4 rfl (evn (kJ1 h _ (okr rfl))))
 ·exact qg 7 g5 rfl (sp 11 rfl (evn (kJ1 h _ (okr rfl))))
def spec_l7Copy_B1 (a0 : Y29) (rec : ((List Y95) × Int) → Option ((List Y95))) (s : (List Y95) × Int) : Option ((List Y95)) := match s with
  | (y1, y2) => cond (decide (y2 < (List.length a0.2.1 : Int))) (obind (geti a0.2.1 y2) fun e7 => obind (geti a0.2.1 y2) fun e9 => chk (List.length ([] : List Int) + List.length e9.2 ≤ lim) (chk (List.length y1 + List.length ([(e7.1, ([] : List Int) ++ e9.2)]) ≤ lim) (rec ((y1 ++ ([(e7.1, ([] : List Int) ++ e9.2)])), (IntKind.i64.wrap (y2 + 1)))))) (some y1)
def spec_l7Copy (a0 : Y29) : Option (Y29) := chk (List.length ([] : List Int) + List.length a0.2.2 ≤ lim) (obind (loopF (spec_l7Copy_B1 a0) fz (([] : List Y95), 0)) fun z3 => some (a0.1, z3, ([] : List Int) ++ a0.2.2))
theorem spec_l7Copy_s {a0 : Y29} {r : Y29} (h : spec_l7Copy a0 = some r) : SoundAt Tryz.prog 183 [.agg (c30_ddd a0)] (.agg (c30_ooo r)) := by
 unfold spec_l7Copy at h
 refine st lit183 rfl (rn 1 rfl (rd (by kernel_rfl) (sd 2 rfl (ed rfl (qBs ci64 [] rfl rfl rfl zci64 (sd 2 rfl (?_)))))))
 obtain ⟨g1, h⟩ := chk_some h
 refine ed rfl (qA ci64 ([] : List Int) a0.2.2 rfl rfl (flat_len zci64 a0.2.2) (map_dg (fun _ => rfl) _) g1 (sd 3 rfl (evdn (ls_seq_k fun K2 hK2 => rn 1 rfl ?_))))
 obtain ⟨o1, hl, hr1⟩ := ob_some h
 have kXB1 : ∀ {z3 : List Y95}, z3 = o1 → Jn K2 [(2, .box [nI 0, oL 96 c96_o [], oL 3 ci64 []]), (3, .box [nI a0.1, oL 96 c96_o z3, oL 3 ci64 (([] : List Int) ++ a0.2.2)])] := by
  intro z3 h σ' hk
  subst h
  replace h := hr1
  try dsimp only at h
  exact hK2 _ (lh hk rfl (rn 1 rfl (ls_ret ((by cases h; exact ⟨.inl rfl, rfl⟩)))))
 refine ls_rec (fun (s : (List Y95) × Int) => match s with | (y1, y2) => [(1, .box [nI a0.1, dL c96_d a0.2.1, dL ci64 a0.2.2]), (2, .box [nI 0, oL 96 c96_o [], oL 3 ci64 []]), (3, .box [nI a0.1, oL 96 c96_o y1, oL 3 ci64 (([] : List Int) ++ a0.2.2)]), (4, nI y2)]) _ _ _ _ hl (okr rfl) (fun _ => rfl) ?_
 rintro m ⟨y1, y2⟩ N h hN
 unfold spec_l7Copy_B1 at h
 dsimp only at h
 refine ls_seq_k fun K4 hK4 => rn 1 rfl ?_
 rcases cond_some h with ⟨g5, h⟩ | ⟨g5, h⟩
 ·refine qT rfl g5 (ls_skip (hK4 _ (ls_seq_k fun K6 hK6 => ls_blk (rgd (by kernel_rfl) (sd 5 rfl (?_))))))
  obtain ⟨e7, g8, h⟩ := ob_some h
  refine ed rfl (qI rfl zc96_d g8 (sd 2 rfl (ed rfl (qBs ci64 [] rfl rfl rfl zci64 (sd 3 rfl (?_))))))
  obtain ⟨e9, g10, h⟩ := ob_some h
  refine ed rfl (qI rfl zc96_d g10 (sd 2 rfl (?_)))
  obtain ⟨g11, h⟩ := chk_some h
  refine ed rfl (qA ci64 ([] : List Int) e9.2 rfl rfl (flat_len zci64 e9.2) (map_dg (fun _ => rfl) _) g11 (sd 1 rfl (ed rfl (qBs c96_o [(e7.1, ([] : List Int) ++ e9.2)] rfl rfl rfl zc96_o (?_)))))
  obtain ⟨g12, h⟩ := chk_some h
  exact ed rfl (qA c96_o y1 ([(e7.1, ([] : List Int) ++ e9.2)]) rfl rfl (flat_len zc96_o ([(e7.1, ([] : List Int) ++ e9.2)])) rfl g12 (sd 2 rfl (evdn (hK6 _ (rg (sp 3 rfl (evn (hN _ _ h (okr rfl)))))))))
 ·exact qF rfl g5 (ls_exit (kXB1 (Option.some.inj h) _ (okr rfl)))
abbrev Y69 := Int × (List Int) × (List Int) × Y29
def c70_ddddd (x : Y69) : List V := [nI x.1, dL ci64 x.2.1, dL ci64 x.2.2.1, nI x.2.2.2.1, dL c96_d x.2.2.2.2.1, dL ci64 x.2.2.2.2.2]
theorem zc70_ddddd (x : Y69) : (c70_ddddd x).length = 6 := rfl
theorem ec70_ddddd (x : Y69) : erL (c70_ddddd x) = c70_ddddd x := (erc rfl (erc (erD eci64 _) (erc (erD eci64 _) (erc rfl (erc (erD ec96_d _) (erc (erD eci64 _) rfl))))))
def c70_ooooo (x : Y69) : List V := [nI x.1, oL 3 ci64 x.2.1, oL 3 ci64 x.2.2.1, nI x.2.2.2.1, oL 96 c96_o x.2.2.2.2.1, oL 3 ci64 x.2.2.2.2.2]
theorem zc70_ooooo (x : Y69) : (c70_ooooo x).length = 6 := rfl
theorem ec70_ooooo (x : Y69) : erL (c70_ooooo x) = c70_ddddd x := (erc rfl (erc (erO eci64 _) (erc (erO eci64 _) (erc rfl (erc (erO ec96_o _) (erc (erO eci64 _) rfl))))))
def spec_OpenCursor (a0 : Y59) (a1 : Y29) (a2 : List Int) : Option (Y69 × Bool) := obind (spec_IsValidHistory a0) fun v2 => cond (!v2) (some ((0, [], [], (0, [], [])), false)) (obind (geti a0.2 (IntKind.i64.wrap ((List.length a0.2 : Int) - 1))) fun e5 => obind (spec_IsQueryFor e5 a1) fun v7 => cond (!v7) (some ((0, [], [], (0, [], [])), false)) (obind (spec_IsValidOrder a1 a2) fun v10 => cond (!v10) (some ((0, [], [], (0, [], [])), false)) (chk (List.length ([] : List Int) + List.length a2 ≤ lim) (obind (spec_l7Copy a1) fun v14 => some ((IntKind.i64.wrap ((IntKind.i64.wrap (a0.1 + (List.length a0.2 : Int))) - 1), ([] : List Int) ++ a2, [], v14), true)))))
theorem spec_OpenCursor_s {a0 : Y59} {a1 : Y29} {a2 : List Int} {r : Y69 × Bool} (h : spec_OpenCursor a0 a1 a2 = some r) : SoundAt Tryz.prog 158 [.agg (c60_dddd a0), .agg (c30_ddd a1), dL ci64 a2] (.tup [.agg (c70_ooooo r.1), .bool r.2]) := by
 unfold spec_OpenCursor at h
 refine st lit158 rfl (rn 1 rfl (ls_seq_k fun K1 hK1 => rd (by kernel_rfl) (sd 1 rfl (?_))))
 obtain ⟨v2, g3, h⟩ := ob_some h
 refine ed rfl (qC (qa rfl (erg (erc rfl (erc (erD ec26_ddd _) rfl))) eran) (spec_IsValidHistory_s g3) (sd 2 rfl (?_)))
 rcases cond_some h with ⟨g4, h⟩ | ⟨g4, h⟩
 ·exact qgd 11 g4 rfl (sd 18 rfl (evdn (qT rfl rfl (rn 1 rfl (ls_ret ((by cases h; exact ⟨.inl rfl, rfl⟩)))))))
 ·refine qgd 11 g4 rfl (sd 6 rfl (?_))
  obtain ⟨e5, g6, h⟩ := ob_some h
  refine ed rfl (oGR rfl rfl (qI rfl zc26_ddd g6 (sd 2 rfl (?_))))
  obtain ⟨v7, g8, h⟩ := ob_some h
  refine ed rfl (oGR rfl rfl (qC (qa rfl (erg (erc (erD ec109_dd _) rfl)) (qa rfl (erg (erc rfl (erc (erD ec96_d _) (erc (erD eci64 _) rfl)))) eran)) (spec_IsQueryFor_s g8) (sd 3 rfl (?_))))
  rcases cond_some h with ⟨g9, h⟩ | ⟨g9, h⟩
  ·exact qgd 24 g9 rfl (sd 5 rfl (evdn (qk [2, 3, 4, 6, 29] rfl (qT rfl rfl (rn 1 rfl (ls_ret ((by cases h; exact ⟨.inl rfl, rfl⟩))))))))
  ·refine qgd 24 g9 rfl (sd 2 rfl (?_))
   obtain ⟨v10, g11, h⟩ := ob_some h
   refine ed rfl (oGR rfl rfl (qC (qa rfl (erg (erc rfl (erc (erD ec96_d _) (erc (erD eci64 _) rfl)))) (qa rfl (erD eci64 _) eran)) (spec_IsValidOrder_s g11) (sd 2 rfl (evdn ?_))))
   rcases cond_some h with ⟨g12, h⟩ | ⟨g12, h⟩
   ·exact qT rfl g12 (rn 1 rfl (ls_ret ((by cases h; exact ⟨.inl rfl, rfl⟩))))
   ·refine qF rfl g12 (ls_skip (hK1 _ (rd (by kernel_rfl) (sd 7 rfl (ed rfl (qBs ci64 [] rfl rfl rfl zci64 (sd 1 rfl (?_))))))))
    obtain ⟨g13, h⟩ := chk_some h
    refine ed rfl (qA ci64 ([] : List Int) a2 rfl rfl (flat_len zci64 a2) (map_dg (fun _ => rfl) _) g13 (sd 1 rfl (?_)))
    obtain ⟨v14, g15, h⟩ := ob_some h
    exact ed rfl (qC (qa rfl (erg (erc rfl (erc (erD ec96_d _) (erc (erD eci64 _) rfl)))) eran) (spec_l7Copy_s g15) (sd 3 rfl (evdn (ls_ret ((by cases h; exact ⟨.inl rfl, rfl⟩))))))
def spec_DefaultOrder_B1 (a0 : Y29) (rec : ((List Int) × Int) → Option ((List Int))) (s : (List Int) × Int) : Option ((List Int)) := match s with
  | (y1, y2) => cond (decide (y2 < a0.1)) (obind (spec_IsValidQuery a0) fun v5 => cond v5 (chk (List.length y1 + List.length [y2] ≤ lim) (rec ((y1 ++ [y2]), (IntKind.i64.wrap (y2 + 1))))) (some y1)) (some y1)
def spec_DefaultOrder (a0 : Y29) : Option ((List Int)) := obind (loopF (spec_DefaultOrder_B1 a0) fz (([] : List Int), 0)) fun z2 => some z2
theorem spec_DefaultOrder_s {a0 : Y29} {r : (List Int)} (h : spec_DefaultOrder a0 = some r) : SoundAt Tryz.prog 159 [.agg (c30_ddd a0)] (oL 3 ci64 r) := by
 unfold spec_DefaultOrder at h
 refine st lit159 rfl (rn 1 rfl (rs (qBs ci64 [] rfl rfl rfl zci64 (sp 1 rfl (evn (ls_seq_k fun K1 hK1 => rn 1 rfl ?_))))))
 obtain ⟨o1, hl, hr1⟩ := ob_some h
 have kXB1 : ∀ {z2 : List Int}, z2 = o1 → Jn K1 [(3, oL 3 ci64 z2)] := by
  intro z2 h σ' hk
  subst h
  replace h := hr1
  try dsimp only at h
  exact hK1 _ (lh hk rfl (rn 1 rfl (ls_ret ((by cases h; exact ⟨.inl rfl, rfl⟩)))))
 refine ls_rec (fun (s : (List Int) × Int) => match s with | (y1, y2) => [(1, .box [nI a0.1, dL c96_d a0.2.1, dL ci64 a0.2.2]), (3, oL 3 ci64 y1), (4, nI y2)]) _ _ _ _ hl (okr rfl) (fun _ => rfl) ?_
 rintro m ⟨y1, y2⟩ N h hN
 unfold spec_DefaultOrder_B1 at h
 dsimp only at h
 refine ls_seq_k fun K3 hK3 => rs (sp 5 rfl (?_))
 rcases cond_some h with ⟨g4, h⟩ | ⟨g4, h⟩
 ·refine qg 10 g4 rfl (sp 1 rfl (?_))
  obtain ⟨v5, g6, h⟩ := ob_some h
  refine oGR rfl rfl (qC (qa rfl (erg (erc rfl (erc (erD ec96_d _) (erc (erD eci64 _) rfl)))) eran) (spec_IsValidQuery_s g6) (sp 1 rfl (evn ?_)))
  rcases cond_some h with ⟨g7, h⟩ | ⟨g7, h⟩
  ·refine qT rfl g7 (ls_skip (hK3 _ (ls_seq_k fun K8 hK8 => ls_blk (rg (sp 2 rfl (qBs ci64 [y2] rfl rfl rfl zci64 (?_)))))))
   obtain ⟨g9, h⟩ := chk_some h
   exact qA ci64 y1 [y2] rfl rfl (flat_len zci64 [y2]) rfl g9 (sp 1 rfl (evn (hK8 _ (rg (sp 3 rfl (evn (hN _ _ h (okr rfl))))))))
  ·exact qF rfl g7 (ls_exit (kXB1 (Option.some.inj h) _ (okr rfl)))
 ·exact qg 10 g4 rfl (sp 3 rfl (evn (qF rfl rfl (ls_exit (kXB1 (Option.some.inj h) _ (okr rfl))))))
def spec_SnapshotAt (a0 : Y59) (a1 : Int) : Option ((List Y108) × Bool) := obind (spec_IsValidHistory a0) fun v2 => cond (!v2) (some ([], false)) (obind (spec_l1In a1 a0.1 (IntKind.i64.wrap ((IntKind.i64.wrap (a0.1 + (List.length a0.2 : Int))) - 1))) fun v5 => cond (!v5) (some ([], false)) (obind (geti a0.2 (IntKind.i64.wrap (a1 - a0.1))) fun e8 => obind (spec_l6Copy e8) fun v10 => some (v10, true)))
theorem spec_SnapshotAt_s {a0 : Y59} {a1 : Int} {r : (List Y108) × Bool} (h : spec_SnapshotAt a0 a1 = some r) : SoundAt Tryz.prog 26 [.agg (c60_dddd a0), nI a1] (.tup [.agg [oL 109 c109_oo r.1], .bool r.2]) := by
 unfold spec_SnapshotAt at h
 refine st lit26 rfl (rn 1 rfl (ls_seq_k fun K1 hK1 => rs (sp 1 rfl (?_))))
 obtain ⟨v2, g3, h⟩ := ob_some h
 refine qC (qa rfl (erg (erc rfl (erc (erD ec26_ddd _) rfl))) eran) (spec_IsValidHistory_s g3) (sp 2 rfl (?_))
 rcases cond_some h with ⟨g4, h⟩ | ⟨g4, h⟩
 ·exact qg 9 g4 rfl (sp 13 rfl (evn (qT rfl rfl (rn 1 rfl (ls_ret ((by cases h; exact ⟨.inl rfl, rfl⟩)))))))
 ·refine qg 9 g4 rfl (sp 10 rfl (?_))
  obtain ⟨v5, g6, h⟩ := ob_some h
  refine oGR rfl rfl (qC (qs rfl (qs rfl (qs rfl eran))) (spec_l1In_s g6) (sp 2 rfl (evn (qk [1, 2, 4, 22] rfl ?_))))
  rcases cond_some h with ⟨g7, h⟩ | ⟨g7, h⟩
  ·exact qT rfl g7 (rn 1 rfl (ls_ret ((by cases h; exact ⟨.inl rfl, rfl⟩))))
  ·refine qF rfl g7 (ls_skip (hK1 _ (rs (sp 6 rfl (?_)))))
   obtain ⟨e8, g9, h⟩ := ob_some h
   refine qI rfl zc26_ddd g9 (sp 1 rfl (?_))
   obtain ⟨v10, g11, h⟩ := ob_some h
   exact qC (qa rfl (erg (erc (erD ec109_dd _) rfl)) eran) (spec_l6Copy_s g11) (sp 2 rfl (evn (ls_ret ((by cases h; exact ⟨.inl rfl, rfl⟩)))))
def spec_l33Cursor (a0 : Y69) : Option (Y69) := chk (List.length ([] : List Int) + List.length a0.2.1 ≤ lim) (chk (List.length ([] : List Int) + List.length a0.2.2.1 ≤ lim) (obind (spec_l7Copy a0.2.2.2) fun v3 => some (a0.1, ([] : List Int) ++ a0.2.1, ([] : List Int) ++ a0.2.2.1, v3)))
theorem spec_l33Cursor_s {a0 : Y69} {r : Y69} (h : spec_l33Cursor a0 = some r) : SoundAt Tryz.prog 215 [.agg (c70_ddddd a0)] (.agg (c70_ooooo r)) := by
 unfold spec_l33Cursor at h
 refine st lit215 rfl (rn 1 rfl (rd (by kernel_rfl) (sd 2 rfl (ed rfl (qBs ci64 [] rfl rfl rfl zci64 (sd 2 rfl (?_)))))))
 obtain ⟨g1, h⟩ := chk_some h
 refine ed rfl (qA ci64 ([] : List Int) a0.2.1 rfl rfl (flat_len zci64 a0.2.1) (map_dg (fun _ => rfl) _) g1 (ed rfl (qBs ci64 [] rfl rfl rfl zci64 (sd 2 rfl (?_)))))
 obtain ⟨g2, h⟩ := chk_some h
 refine ed rfl (qA ci64 ([] : List Int) a0.2.2.1 rfl rfl (flat_len zci64 a0.2.2.1) (map_dg (fun _ => rfl) _) g2 (sd 2 rfl (?_)))
 obtain ⟨v3, g4, h⟩ := ob_some h
 exact ed rfl (qC (qa rfl (erg (erc rfl (erc (erD ec96_d _) (erc (erD eci64 _) rfl)))) eran) (spec_l7Copy_s g4) (sd 2 rfl (evdn (ls_ret ((by cases h; exact ⟨.inl rfl, rfl⟩))))))
def spec_l5Cols_B1 (a0 : List Int) (a1 : List Int) (rec : ((List Int) × Int) → Option ((List Int))) (s : (List Int) × Int) : Option ((List Int)) := match s with
  | (y1, y2) => cond (decide (y2 < (List.length a1 : Int))) (obind (geti a1 y2) fun e6 => obind (geti a0 e6) fun e8 => chk (List.length y1 + List.length [e8] ≤ lim) (rec ((y1 ++ [e8]), (IntKind.i64.wrap (y2 + 1))))) (some y1)
def spec_l5Cols (a0 : List Int) (a1 : List Int) : Option ((List Int)) := obind (loopF (spec_l5Cols_B1 a0 a1) fz (([] : List Int), 0)) fun z2 => some z2
theorem spec_l5Cols_s {a0 : List Int} {a1 : List Int} {r : (List Int)} (h : spec_l5Cols a0 a1 = some r) : SoundAt Tryz.prog 184 [dL ci64 a0, dL ci64 a1] (oL 3 ci64 r) := by
 unfold spec_l5Cols at h
 refine st lit184 rfl (rn 1 rfl (rs (qBs ci64 [] rfl rfl rfl zci64 (sp 1 rfl (evn (ls_seq_k fun K1 hK1 => rn 1 rfl ?_))))))
 obtain ⟨o1, hl, hr1⟩ := ob_some h
 have kXB1 : ∀ {z2 : List Int}, z2 = o1 → Jn K1 [(5, oL 3 ci64 z2)] := by
  intro z2 h σ' hk
  subst h
  replace h := hr1
  try dsimp only at h
  exact hK1 _ (lh hk rfl (rn 1 rfl (ls_ret ((by cases h; exact ⟨.inl rfl, rfl⟩)))))
 refine ls_rec (fun (s : (List Int) × Int) => match s with | (y1, y2) => [(0, dL ci64 a0), (1, dL ci64 a1), (5, oL 3 ci64 y1), (6, nI y2)]) _ _ _ _ hl (okr rfl) (fun _ => rfl) ?_
 rintro m ⟨y1, y2⟩ N h hN
 unfold spec_l5Cols_B1 at h
 dsimp only at h
 refine ls_seq_k fun K3 hK3 => rn 1 rfl ?_
 rcases cond_some h with ⟨g4, h⟩ | ⟨g4, h⟩
 ·refine qT rfl g4 (ls_skip (hK3 _ (ls_seq_k fun K5 hK5 => ls_blk (rg (sp 4 rfl (?_))))))
  obtain ⟨e6, g7, h⟩ := ob_some h
  refine qI rfl zci64 g7 (sp 1 rfl (?_))
  obtain ⟨e8, g9, h⟩ := ob_some h
  refine qI rfl zci64 g9 (sp 1 rfl (qBs ci64 [e8] rfl rfl rfl zci64 (?_)))
  obtain ⟨g10, h⟩ := chk_some h
  exact qA ci64 y1 [e8] rfl rfl (flat_len zci64 [e8]) rfl g10 (sp 1 rfl (evn (hK5 _ (rg (sp 3 rfl (evn (hN _ _ h (okr rfl))))))))
 ·exact qF rfl g4 (ls_exit (kXB1 (Option.some.inj h) _ (okr rfl)))
def spec_Project_B1 (a0 : Y37) (a1 : List Int) (rec : Int → Option (Sum (Unit) (Y37 × Bool))) (y1 : Int) : Option (Sum (Unit) (Y37 × Bool)) := cond (decide (y1 < (List.length a1 : Int))) (obind (geti a1 y1) fun e5 => obind (spec_l1In e5 0 (IntKind.i64.wrap (a0.1 - 1))) fun v7 => cond (!v7) (some (.inr ((0, []), false))) (rec (IntKind.i64.wrap (y1 + 1)))) (some (.inl ()))
def spec_Project_B2 (a0 : Y37) (a1 : List Int) (rec : ((List (List Int)) × Int) → Option ((List (List Int)))) (s : (List (List Int)) × Int) : Option ((List (List Int))) := match s with
  | (y2, y3) => cond (decide (y3 < (List.length a0.2 : Int))) (obind (geti a0.2 y3) fun e20 => obind (spec_l5Cols e20 a1) fun v22 => chk (List.length y2 + List.length [v22] ≤ lim) (rec ((y2 ++ [v22]), (IntKind.i64.wrap (y3 + 1))))) (some y2)
def spec_Project (a0 : Y37) (a1 : List Int) : Option (Y37 × Bool) := obind (loopF (spec_Project_B1 a0 a1) fz 0) fun o1 => (match o1 with
  | .inl _ => (obind (spec_IsValidRelation a0) fun v11 => cond (!v11) (some ((0, []), false)) (cond (decide (5 < (List.length a1 : Int))) (some ((0, []), false)) (obind (loopF (spec_Project_B2 a0 a1) fz (([] : List (List Int)), 0)) fun z16 => obind (spec_NewRelation (List.length a1 : Int) z16) fun v25 => some (v25.1, v25.2))))
  | .inr r => some r)
theorem spec_Project_s {a0 : Y37} {a1 : List Int} {r : Y37 × Bool} (h : spec_Project a0 a1 = some r) : SoundAt Tryz.prog 112 [.agg (c38_dd a0), dL ci64 a1] (.tup [.agg (c38_oo r.1), .bool r.2]) := by
 unfold spec_Project at h
 refine st lit112 rfl (rn 1 rfl (ls_seq_k fun K1 hK1 => rn 1 rfl ?_))
 obtain ⟨o1, hl, hr1⟩ := ob_some h
 have kXB1 : (.inl ()) = o1 → Jn K1 [(1, dL ci64 a1), (2, .box [nI a0.1, dL c28_d a0.2]), (4, .box [nI 0, oL 28 c28_o []])] := by
  intro h σ' hk
  subst h
  replace h := hr1
  try dsimp only at h
  refine hK1 _ (lh hk rfl (ls_seq_k fun K10 hK10 => rs (sp 1 rfl (?_))))
  obtain ⟨v11, g12, h⟩ := ob_some h
  refine qC (qa rfl (erg (erc rfl (erc (erD ec28_d _) rfl))) eran) (spec_IsValidRelation_s g12) (sp 2 rfl (?_))
  rcases cond_some h with ⟨g13, h⟩ | ⟨g13, h⟩
  ·exact qg 30 g13 rfl (sp 4 rfl (evn (qT rfl rfl (rn 1 rfl (ls_ret ((by cases h; exact ⟨.inl rfl, rfl⟩)))))))
  ·refine qg 30 g13 rfl (sp 4 rfl (evn ?_))
   rcases cond_some h with ⟨g14, h⟩ | ⟨g14, h⟩
   ·exact qT rfl g14 (rn 1 rfl (ls_ret ((by cases h; exact ⟨.inl rfl, rfl⟩))))
   ·refine qF rfl g14 (ls_skip (hK10 _ (rs (qBs c28_o [] rfl rfl rfl zc28_o (sp 1 rfl (evn (ls_seq_k fun K15 hK15 => rn 1 rfl (qk [1, 2, 4, 7, 8] rfl ?_))))))))
    obtain ⟨o2, hl, hr2⟩ := ob_some h
    have kXB2 : ∀ {z16 : List (List Int)}, z16 = o2 → Jn K15 [(1, dL ci64 a1), (4, .box [nI 0, oL 28 c28_o []]), (7, oL 28 c28_o z16)] := by
     intro z16 h σ' hk
     subst h
     replace h := hr2
     try dsimp only at h
     refine hK15 _ (lh hk rfl (rs (sp 3 rfl (?_))))
     obtain ⟨v25, g26, h⟩ := ob_some h
     exact qC (qs rfl (qa rfl (erD ec28_o _) eran)) (spec_NewRelation_s g26) (sp 6 rfl (evn (rn 1 rfl (ls_ret ((by cases h; exact ⟨.inl rfl, rfl⟩))))))
    refine ls_rec (fun (s : (List (List Int)) × Int) => match s with | (y2, y3) => [(1, dL ci64 a1), (2, .box [nI a0.1, dL c28_d a0.2]), (4, .box [nI 0, oL 28 c28_o []]), (7, oL 28 c28_o y2), (8, nI y3)]) _ _ _ _ hl (okr rfl) (fun _ => rfl) ?_
    rintro m ⟨y2, y3⟩ N h hN
    unfold spec_Project_B2 at h
    dsimp only at h
    refine ls_seq_k fun K17 hK17 => rn 1 rfl ?_
    rcases cond_some h with ⟨g18, h⟩ | ⟨g18, h⟩
    ·refine qT rfl g18 (ls_skip (hK17 _ (ls_seq_k fun K19 hK19 => ls_blk (rg (sp 4 rfl (?_))))))
     obtain ⟨e20, g21, h⟩ := ob_some h
     refine qI rfl zc28_d g21 (sp 2 rfl (?_))
     obtain ⟨v22, g23, h⟩ := ob_some h
     refine qC (qa rfl (erD eci64 _) (qa rfl (erD eci64 _) eran)) (spec_l5Cols_s g23) (qBs c28_o [v22] rfl rfl rfl zc28_o (?_))
     obtain ⟨g24, h⟩ := chk_some h
     exact qA c28_o y2 [v22] rfl rfl (flat_len zc28_o [v22]) rfl g24 (sp 1 rfl (evn (hK19 _ (rg (sp 3 rfl (evn (hN _ _ h (okr rfl))))))))
    ·exact qF rfl g18 (ls_exit (kXB2 (Option.some.inj h) _ (okr rfl)))
 refine ls_rec (fun (y1 : Int) => [(1, dL ci64 a1), (2, .box [nI a0.1, dL c28_d a0.2]), (4, .box [nI 0, oL 28 c28_o []]), (6, nI y1)]) _ _ _ _ hl (okr rfl) (fun _ => rfl) ?_
 rintro m y1 N h hN
 unfold spec_Project_B1 at h
 refine ls_seq_k fun K2 hK2 => rn 1 rfl ?_
 rcases cond_some h with ⟨g3, h⟩ | ⟨g3, h⟩
 ·refine qT rfl g3 (ls_skip (hK2 _ (ls_seq_k fun K4 hK4 => ls_blk (rd (by kernel_rfl) (sd 2 rfl (?_))))))
  obtain ⟨e5, g6, h⟩ := ob_some h
  refine ed rfl (qI rfl zci64 g6 (sd 4 rfl (?_)))
  obtain ⟨v7, g8, h⟩ := ob_some h
  refine ed rfl (qC (qs rfl (qs rfl (qs rfl eran))) (spec_l1In_s g8) (sd 1 rfl (evdn ?_)))
  rcases cond_some h with ⟨g9, h⟩ | ⟨g9, h⟩
  ·exact qT rfl g9 (rn 1 rfl (ls_ret ((by cases h; cases hr1; exact ⟨.inl rfl, rfl⟩))))
  ·exact qF rfl g9 (ls_skip (hK4 _ (rg (sp 3 rfl (evn (hN _ _ h (okr rfl)))))))
 ·exact qF rfl g3 (ls_exit (kXB1 (Option.some.inj h) _ (okr rfl)))
def c97_dd (x : Y37) : List V := [nI x.1, dL c28_d x.2]
theorem zc97_dd (x : Y37) : (c97_dd x).length = 2 := rfl
theorem ec97_dd (x : Y37) : erL (c97_dd x) = c97_dd x := (erc rfl (erc (erD ec28_d _) rfl))
def c97_oo (x : Y37) : List V := [nI x.1, oL 28 c28_o x.2]
theorem zc97_oo (x : Y37) : (c97_oo x).length = 2 := rfl
theorem ec97_oo (x : Y37) : erL (c97_oo x) = c97_dd x := (erc rfl (erc (erO ec28_o _) rfl))
def spec_BuildTrie (a0 : Y37) (a1 : List Int) : Option (Y37 × Bool) := obind (spec_IsPermutation a1) fun v2 => cond (!v2) (some ((0, []), false)) (cond ((List.length a1 : Int) != a0.1) (some ((0, []), false)) (obind (spec_Project a0 a1) fun v6 => cond (!v6.2) (some ((0, []), false)) (some (v6.1, true))))
theorem spec_BuildTrie_s {a0 : Y37} {a1 : List Int} {r : Y37 × Bool} (h : spec_BuildTrie a0 a1 = some r) : SoundAt Tryz.prog 125 [.agg (c38_dd a0), dL ci64 a1] (.tup [.agg (c97_oo r.1), .bool r.2]) := by
 unfold spec_BuildTrie at h
 refine st lit125 rfl (rn 1 rfl (ls_seq_k fun K1 hK1 => rs (sp 1 rfl (?_))))
 obtain ⟨v2, g3, h⟩ := ob_some h
 refine qC (qa rfl (erD eci64 _) eran) (spec_IsPermutation_s g3) (sp 2 rfl (?_))
 rcases cond_some h with ⟨g4, h⟩ | ⟨g4, h⟩
 ·exact qg 11 g4 rfl (sp 6 rfl (evn (qT rfl rfl (rn 1 rfl (ls_ret ((by cases h; exact ⟨.inl rfl, rfl⟩)))))))
 ·refine qg 11 g4 rfl (sp 6 rfl (evn ?_))
  rcases cond_some h with ⟨g5, h⟩ | ⟨g5, h⟩
  ·exact qT rfl g5 (rn 1 rfl (ls_ret ((by cases h; exact ⟨.inl rfl, rfl⟩))))
  ·refine qF rfl g5 (ls_skip (hK1 _ (qk [1, 2, 4] rfl (rs (sp 2 rfl (?_))))))
   obtain ⟨v6, g7, h⟩ := ob_some h
   refine qC (qa rfl (erg (erc rfl (erc (erD ec28_d _) rfl))) (qa rfl (erD eci64 _) eran)) (spec_Project_s g7) (sp 6 rfl (evn (ls_seq_k fun K8 hK8 => rn 1 rfl ?_)))
   rcases cond_some h with ⟨g9, h⟩ | ⟨g9, h⟩
   ·exact qT rfl g9 (rn 1 rfl (ls_ret ((by cases h; exact ⟨.inl rfl, rfl⟩))))
   ·exact qF rfl g9 (ls_skip (hK8 _ (rn 1 rfl (ls_ret ((by cases h; exact ⟨.inl rfl, rfl⟩))))))
def spec_AtomVariables_J2 (rec : ((List Int) × Int) → Option ((List Int))) (y2 : Int) (x8 : List Int) : Option ((List Int)) := rec (x8, (IntKind.i64.wrap (y2 + 1)))
def spec_AtomVariables_B1 (a0 : Y95) (rec : ((List Int) × Int) → Option ((List Int))) (s : (List Int) × Int) : Option ((List Int)) := match s with
  | (y1, y2) => cond (decide (y2 < 5)) (obind (spec_ContainsVariable a0 y2) fun v6 => cond v6 (chk (List.length y1 + List.length [y2] ≤ lim) (spec_AtomVariables_J2 rec y2 (y1 ++ [y2]))) (spec_AtomVariables_J2 rec y2 y1)) (some y1)
def spec_AtomVariables (a0 : Y95) : Option ((List Int)) := obind (loopF (spec_AtomVariables_B1 a0) fz (([] : List Int), 0)) fun z2 => some z2
theorem spec_AtomVariables_s {a0 : Y95} {r : (List Int)} (h : spec_AtomVariables a0 = some r) : SoundAt Tryz.prog 195 [.agg (c96_d a0)] (oL 3 ci64 r) := by
 unfold spec_AtomVariables at h
 refine st lit195 rfl (rn 1 rfl (rs (qBs ci64 [] rfl rfl rfl zci64 (sp 1 rfl (evn (ls_seq_k fun K1 hK1 => rn 1 rfl ?_))))))
 obtain ⟨o1, hl, hr1⟩ := ob_some h
 have kXB1 : ∀ {z2 : List Int}, z2 = o1 → Jn K1 [(3, oL 3 ci64 z2)] := by
  intro z2 h σ' hk
  subst h
  replace h := hr1
  try dsimp only at h
  exact hK1 _ (lh hk rfl (rn 1 rfl (ls_ret ((by cases h; exact ⟨.inl rfl, rfl⟩)))))
 refine ls_rec (fun (s : (List Int) × Int) => match s with | (y1, y2) => [(1, .box [.str a0.1, dL ci64 a0.2]), (3, oL 3 ci64 y1), (4, nI y2)]) _ _ _ _ hl (okr rfl) (fun _ => rfl) ?_
 rintro m ⟨y1, y2⟩ N h hN
 unfold spec_AtomVariables_B1 at h
 dsimp only at h
 refine ls_seq_k fun K3 hK3 => rn 1 rfl ?_
 rcases cond_some h with ⟨g4, h⟩ | ⟨g4, h⟩
 ·refine qT rfl g4 (ls_skip (hK3 _ (ls_seq_k fun K5 hK5 => ls_blk (rs (sp 2 rfl (?_))))))
  obtain ⟨v6, g7, h⟩ := ob_some h
  refine qC (qa rfl (erg (erc rfl (erc (erD eci64 _) rfl))) (qs rfl eran)) (spec_ContainsVariable_s g7) (evn ?_)
  have kJ2 : ∀ {x8 : List Int}, spec_AtomVariables_J2 (loopF (spec_AtomVariables_B1 a0) m) y2 x8 = some o1 → Jn K5 [(1, .box [.str a0.1, dL ci64 a0.2]), (3, oL 3 ci64 x8), (4, nI y2)] := by
   intro x8 h σ' hk
   unfold spec_AtomVariables_J2 at h
   exact hK5 _ (lh hk rfl (rg (sp 3 rfl (evn (hN _ _ h (okr rfl))))))
  rcases cond_some h with ⟨g9, h⟩ | ⟨g9, h⟩
  ·refine qT rfl g9 (rg (sp 2 rfl (qBs ci64 [y2] rfl rfl rfl zci64 (?_))))
   obtain ⟨g10, h⟩ := chk_some h
   exact qA ci64 y1 [y2] rfl rfl (flat_len zci64 [y2]) rfl g10 (sp 1 rfl (evn (kJ2 h _ (okr rfl))))
  ·exact qF rfl g9 (ls_skip (kJ2 h _ (okr rfl)))
 ·exact qF rfl g4 (ls_exit (kXB1 (Option.some.inj h) _ (okr rfl)))
def spec_AtomBindings_B2 (a1 : Y95) (v1 : (List Int)) (v3 : Y37 × Bool) (y6 : Int) (rec : ((List Int) × Int) → Option ((List Int))) (s : (List Int) × Int) : Option ((List Int)) := match s with
  | (y11, y12) => cond (decide (y12 < (List.length v1 : Int))) (obind (geti v3.1.2 y6) fun e18 => obind (geti v1 y12) fun e20 => obind (spec_l7Find a1.2 e20) fun v22 => obind (geti e18 v22) fun e24 => chk (List.length y11 + List.length [e24] ≤ lim) (rec ((y11 ++ [e24]), (IntKind.i64.wrap (y12 + 1))))) (some y11)
def spec_AtomBindings_J4 (rec : (Bool × Int) → Option (Bool)) (y14 : Int) (x36 : Bool) : Option (Bool) := rec (x36, (IntKind.i64.wrap (y14 + 1)))
def spec_AtomBindings_B3 (a1 : Y95) (v1 : (List Int)) (v3 : Y37 × Bool) (y6 : Int) (z14 : List Int) (rec : (Bool × Int) → Option (Bool)) (s : Bool × Int) : Option (Bool) := match s with
  | (y13, y14) => cond (decide (y14 < (List.length a1.2 : Int))) (obind (geti a1.2 y14) fun e32 => obind (spec_l7Find v1 e32) fun v34 => cond y13 (cond (decide (0 ≤ v34)) (obind (geti z14 v34) fun e39 => obind (geti v3.1.2 y6) fun e41 => obind (geti e41 y14) fun e43 => spec_AtomBindings_J4 rec y14 (e39 == e43)) (spec_AtomBindings_J4 rec y14 false)) (spec_AtomBindings_J4 rec y14 false)) (some y13)
def spec_AtomBindings_J5 (rec : ((List (List Int)) × Int) → Option ((List (List Int)))) (y6 : Int) (x45 : List (List Int)) : Option ((List (List Int))) := rec (x45, (IntKind.i64.wrap (y6 + 1)))
def spec_AtomBindings_B1 (a1 : Y95) (v1 : (List Int)) (v3 : Y37 × Bool) (rec : ((List (List Int)) × Int) → Option ((List (List Int)))) (s : (List (List Int)) × Int) : Option ((List (List Int))) := match s with
  | (y5, y6) => cond (decide (y6 < (List.length v3.1.2 : Int))) (obind (loopF (spec_AtomBindings_B2 a1 v1 v3 y6) fz (([] : List Int), 0)) fun z14 => obind (loopF (spec_AtomBindings_B3 a1 v1 v3 y6 z14) fz (true, 0)) fun z28 => cond z28 (chk (List.length y5 + List.length [z14] ≤ lim) (spec_AtomBindings_J5 rec y6 (y5 ++ [z14]))) (spec_AtomBindings_J5 rec y6 y5)) (some y5)
def spec_AtomBindings (a0 : List Y108) (a1 : Y95) : Option (Y37) := obind (spec_AtomVariables a1) fun v1 => obind (spec_LookupRelation a0 a1.1) fun v3 => cond (!v3.2) (some ((List.length v1 : Int), [])) (cond (v3.1.1 != (List.length a1.2 : Int)) (some ((List.length v1 : Int), [])) (obind (loopF (spec_AtomBindings_B1 a1 v1 v3) fz (([] : List (List Int)), 0)) fun z9 => obind (spec_NewRelation (List.length v1 : Int) z9) fun v48 => cond (!v48.2) (some ((List.length v1 : Int), [])) (some v48.1)))
theorem spec_AtomBindings_s {a0 : List Y108} {a1 : Y95} {r : Y37} (h : spec_AtomBindings a0 a1 = some r) : SoundAt Tryz.prog 126 [.agg [dL c109_dd a0], .agg (c96_d a1)] (.agg (c38_oo r)) := by
 unfold spec_AtomBindings at h
 refine st lit126 rfl (rn 1 rfl (rs (sp 1 rfl (?_))))
 obtain ⟨v1, g2, h⟩ := ob_some h
 refine qC (qa rfl (erg (erc rfl (erc (erD eci64 _) rfl))) eran) (spec_AtomVariables_s g2) (sp 1 rfl (evn (rs (sp 3 rfl (?_)))))
 obtain ⟨v3, g4, h⟩ := ob_some h
 refine qC (qa rfl (erg (erc (erD ec109_dd _) rfl)) (qs rfl eran)) (spec_LookupRelation_s g4) (sp 6 rfl (evn (rn 1 rfl (ls_seq_k fun K5 hK5 => rs (sp 3 rfl (?_))))))
 rcases cond_some h with ⟨g6, h⟩ | ⟨g6, h⟩
 ·exact qg 32 g6 rfl (sp 7 rfl (evn (qT rfl rfl (rn 1 rfl (qk [4] rfl (ls_ret ((by cases h; exact ⟨.inl rfl, rfl⟩))))))))
 ·refine qg 32 g6 rfl (sp 7 rfl (evn ?_))
  rcases cond_some h with ⟨g7, h⟩ | ⟨g7, h⟩
  ·exact qT rfl g7 (rn 1 rfl (ls_ret ((by cases h; exact ⟨.inl rfl, rfl⟩))))
  ·refine qF rfl g7 (ls_skip (hK5 _ (rs (qBs c28_o [] rfl rfl rfl zc28_o (sp 1 rfl (evn (ls_seq_k fun K8 hK8 => rn 1 rfl ?_)))))))
   obtain ⟨o1, hl, hr1⟩ := ob_some h
   have kXB1 : ∀ {z9 : List (List Int)}, z9 = o1 → Jn K8 [(4, .box [nI 0, oL 28 c28_o []]), (5, oL 3 ci64 v1), (8, .box [nI (List.length v1 : Int), oL 28 c28_o []]), (9, oL 28 c28_o z9)] := by
    intro z9 h σ' hk
    subst h
    replace h := hr1
    try dsimp only at h
    refine hK8 _ (lh hk rfl (rs (sp 3 rfl (?_))))
    obtain ⟨v48, g49, h⟩ := ob_some h
    refine qC (qs rfl (qa rfl (erD ec28_o _) eran)) (spec_NewRelation_s g49) (sp 6 rfl (evn (ls_seq_k fun K50 hK50 => rn 1 rfl ?_)))
    rcases cond_some h with ⟨g51, h⟩ | ⟨g51, h⟩
    ·exact qT rfl g51 (rn 1 rfl (ls_ret ((by cases h; exact ⟨.inl rfl, rfl⟩))))
    ·exact qF rfl g51 (ls_skip (hK50 _ (rn 1 rfl (ls_ret ((by cases h; exact ⟨.inl rfl, rfl⟩))))))
   refine ls_rec (fun (s : (List (List Int)) × Int) => match s with | (y5, y6) => [(3, .box [.str a1.1, dL ci64 a1.2]), (4, .box [nI 0, oL 28 c28_o []]), (5, oL 3 ci64 v1), (6, .box [nI v3.1.1, oL 28 c28_o v3.1.2]), (8, .box [nI (List.length v1 : Int), oL 28 c28_o []]), (9, oL 28 c28_o y5), (10, nI y6)]) _ _ _ _ hl (okr rfl) (fun _ => rfl) ?_
   rintro m ⟨y5, y6⟩ N h hN
   unfold spec_AtomBindings_B1 at h
   dsimp only at h
   refine ls_seq_k fun K10 hK10 => rn 1 rfl ?_
   rcases cond_some h with ⟨g11, h⟩ | ⟨g11, h⟩
   ·refine qT rfl g11 (ls_skip (hK10 _ (ls_seq_k fun K12 hK12 => ls_blk (rs (qBs ci64 [] rfl rfl rfl zci64 (sp 1 rfl (evn (ls_seq_k fun K13 hK13 => rn 1 rfl ?_))))))))
    obtain ⟨o2, hl, hr2⟩ := ob_some h
    have kXB2 : ∀ {z14 : List Int}, z14 = o2 → Jn K13 [(3, .box [.str a1.1, dL ci64 a1.2]), (4, .box [nI 0, oL 28 c28_o []]), (5, oL 3 ci64 v1), (6, .box [nI v3.1.1, oL 28 c28_o v3.1.2]), (8, .box [nI (List.length v1 : Int), oL 28 c28_o []]), (9, oL 28 c28_o y5), (10, nI y6), (11, oL 3 ci64 z14)] := by
     intro z14 h σ' hk
     subst h
     replace h := hr2
     try dsimp only at h
     refine hK13 _ (lh hk rfl (rn 1 rfl (ls_seq_k fun K27 hK27 => rn 1 rfl ?_)))
     obtain ⟨o3, hl, hr3⟩ := ob_some h
     have kXB3 : ∀ {z28 : Bool}, z28 = o3 → Jn K27 [(3, .box [.str a1.1, dL ci64 a1.2]), (4, .box [nI 0, oL 28 c28_o []]), (5, oL 3 ci64 v1), (6, .box [nI v3.1.1, oL 28 c28_o v3.1.2]), (8, .box [nI (List.length v1 : Int), oL 28 c28_o []]), (9, oL 28 c28_o y5), (10, nI y6), (11, oL 3 ci64 z14), (13, .bool z28)] := by
      intro z28 h σ' hk
      subst h
      replace h := hr3
      try dsimp only at h
      refine hK27 _ (lh hk rfl (rn 1 rfl ?_))
      have kJ5 : ∀ {x45 : List (List Int)}, spec_AtomBindings_J5 (loopF (spec_AtomBindings_B1 a1 v1 v3) m) y6 x45 = some o1 → Jn K12 [(3, .box [.str a1.1, dL ci64 a1.2]), (4, .box [nI 0, oL 28 c28_o []]), (5, oL 3 ci64 v1), (6, .box [nI v3.1.1, oL 28 c28_o v3.1.2]), (8, .box [nI (List.length v1 : Int), oL 28 c28_o []]), (9, oL 28 c28_o x45), (10, nI y6)] := by
       intro x45 h σ' hk
       unfold spec_AtomBindings_J5 at h
       exact hK12 _ (lh hk rfl (rg (sp 3 rfl (evn (hN _ _ h (okr rfl))))))
      rcases cond_some h with ⟨g46, h⟩ | ⟨g46, h⟩
      ·refine qT rfl g46 (rg (sp 2 rfl (qBs c28_o [z14] rfl rfl rfl zc28_o (?_))))
       obtain ⟨g47, h⟩ := chk_some h
       exact qA c28_o y5 [z14] rfl rfl (flat_len zc28_o [z14]) rfl g47 (sp 1 rfl (evn (kJ5 h _ (okr rfl))))
      ·exact qF rfl g46 (ls_skip (kJ5 h _ (okr rfl)))
     refine ls_rec (fun (s : Bool × Int) => match s with | (y13, y14) => [(3, .box [.str a1.1, dL ci64 a1.2]), (4, .box [nI 0, oL 28 c28_o []]), (5, oL 3 ci64 v1), (6, .box [nI v3.1.1, oL 28 c28_o v3.1.2]), (8, .box [nI (List.length v1 : Int), oL 28 c28_o []]), (9, oL 28 c28_o y5), (10, nI y6), (11, oL 3 ci64 z14), (13, .bool y13), (14, nI y14)]) _ _ _ _ hl (okr rfl) (fun _ => rfl) ?_
     rintro m ⟨y13, y14⟩ N h hN
     unfold spec_AtomBindings_B3 at h
     dsimp only at h
     refine ls_seq_k fun K29 hK29 => rn 1 rfl ?_
     rcases cond_some h with ⟨g30, h⟩ | ⟨g30, h⟩
     ·refine qT rfl g30 (ls_skip (hK29 _ (ls_seq_k fun K31 hK31 => ls_blk (rs (sp 4 rfl (?_))))))
      obtain ⟨e32, g33, h⟩ := ob_some h
      refine qI rfl zci64 g33 (sp 1 rfl (?_))
      obtain ⟨v34, g35, h⟩ := ob_some h
      refine qC (qa rfl (erD eci64 _) (qs rfl eran)) (spec_l7Find_s g35) (sp 1 rfl (evn ?_))
      have kJ4 : ∀ {x36 : Bool}, spec_AtomBindings_J4 (loopF (spec_AtomBindings_B3 a1 v1 v3 y6 z14) m) y14 x36 = some o3 → Jn K31 [(3, .box [.str a1.1, dL ci64 a1.2]), (4, .box [nI 0, oL 28 c28_o []]), (5, oL 3 ci64 v1), (6, .box [nI v3.1.1, oL 28 c28_o v3.1.2]), (8, .box [nI (List.length v1 : Int), oL 28 c28_o []]), (9, oL 28 c28_o y5), (10, nI y6), (11, oL 3 ci64 z14), (13, .bool x36), (14, nI y14)] := by
       intro x36 h σ' hk
       unfold spec_AtomBindings_J4 at h
       exact hK31 _ (lh hk rfl (rg (sp 3 rfl (evn (hN _ _ h (okr rfl))))))
      refine rgd (by kernel_rfl) (sd 2 rfl (?_))
      rcases cond_some h with ⟨g37, h⟩ | ⟨g37, h⟩
      ·refine qgd 88 g37 rfl (sd 4 rfl (?_))
       rcases cond_some h with ⟨g38, h⟩ | ⟨g38, h⟩
       ·refine qgd 92 g38 rfl (sd 2 rfl (?_))
        obtain ⟨e39, g40, h⟩ := ob_some h
        refine ed rfl (oGR rfl rfl (qI rfl zci64 g40 (sd 4 rfl (?_))))
        obtain ⟨e41, g42, h⟩ := ob_some h
        refine ed rfl (oGR rfl rfl (qI rfl zc28_o g42 (sd 2 rfl (?_))))
        obtain ⟨e43, g44, h⟩ := ob_some h
        exact ed rfl (oGR rfl rfl (qI rfl zci64 g44 (sd 4 rfl (evdn (kJ4 h _ (okr rfl))))))
       ·exact qgd 92 g38 rfl (sd 15 rfl (evdn (kJ4 h _ (okr rfl))))
      ·exact qgd 88 g37 rfl (sd 19 rfl (evdn (kJ4 h _ (okr rfl))))
     ·exact qF rfl g30 (ls_exit (kXB3 (Option.some.inj h) _ (okr rfl)))
    refine ls_rec (fun (s : (List Int) × Int) => match s with | (y11, y12) => [(3, .box [.str a1.1, dL ci64 a1.2]), (4, .box [nI 0, oL 28 c28_o []]), (5, oL 3 ci64 v1), (6, .box [nI v3.1.1, oL 28 c28_o v3.1.2]), (8, .box [nI (List.length v1 : Int), oL 28 c28_o []]), (9, oL 28 c28_o y5), (10, nI y6), (11, oL 3 ci64 y11), (12, nI y12)]) _ _ _ _ hl (okr rfl) (fun _ => rfl) ?_
    rintro m ⟨y11, y12⟩ N h hN
    unfold spec_AtomBindings_B2 at h
    dsimp only at h
    refine ls_seq_k fun K15 hK15 => rn 1 rfl ?_
    rcases cond_some h with ⟨g16, h⟩ | ⟨g16, h⟩
    ·refine qT rfl g16 (ls_skip (hK15 _ (ls_seq_k fun K17 hK17 => ls_blk (rgd (by kernel_rfl) (sd 4 rfl (?_))))))
     obtain ⟨e18, g19, h⟩ := ob_some h
     refine ed rfl (qI rfl zc28_o g19 (sd 5 rfl (?_)))
     obtain ⟨e20, g21, h⟩ := ob_some h
     refine ed rfl (qI rfl zci64 g21 (sd 1 rfl (?_)))
     obtain ⟨v22, g23, h⟩ := ob_some h
     refine ed rfl (qC (qa rfl (erD eci64 _) (qs rfl eran)) (spec_l7Find_s g23) (?_))
     obtain ⟨e24, g25, h⟩ := ob_some h
     refine ed rfl (qI rfl zci64 g25 (sd 1 rfl (ed rfl (qBs ci64 [e24] rfl rfl rfl zci64 (?_)))))
     obtain ⟨g26, h⟩ := chk_some h
     exact ed rfl (qA ci64 y11 [e24] rfl rfl (flat_len zci64 [e24]) rfl g26 (sd 1 rfl (evdn (hK17 _ (rg (sp 3 rfl (evn (hN _ _ h (okr rfl)))))))))
    ·exact qF rfl g16 (ls_exit (kXB2 (Option.some.inj h) _ (okr rfl)))
   ·exact qF rfl g11 (ls_exit (kXB1 (Option.some.inj h) _ (okr rfl)))
def spec_ColumnsForOrder_J3 (rec : ((List Int) × Int) → Option ((List Int))) (y2 : Int) (x14 : List Int) : Option ((List Int)) := rec (x14, (IntKind.i64.wrap (y2 + 1)))
def spec_ColumnsForOrder_J2 (rec : ((List Int) × Int) → Option ((List Int))) (y1 : List Int) (y2 : Int) (v10 : Int) (x13 : Bool) : Option ((List Int)) := cond x13 (chk (List.length y1 + List.length [v10] ≤ lim) (spec_ColumnsForOrder_J3 rec y2 (y1 ++ [v10]))) (spec_ColumnsForOrder_J3 rec y2 y1)
def spec_ColumnsForOrder_B1 (a1 : List Int) (v1 : (List Int)) (rec : ((List Int) × Int) → Option ((List Int))) (s : (List Int) × Int) : Option ((List Int)) := match s with
  | (y1, y2) => cond (decide (y2 < (List.length a1 : Int))) (obind (geti a1 y2) fun e8 => obind (spec_l7Find v1 e8) fun v10 => cond (decide (0 ≤ v10)) (obind (spec_l7Find y1 v10) fun v18 => spec_ColumnsForOrder_J2 rec y1 y2 v10 (decide (v18 < 0))) (spec_ColumnsForOrder_J2 rec y1 y2 v10 false)) (some y1)
def spec_ColumnsForOrder (a0 : Y95) (a1 : List Int) : Option ((List Int)) := obind (spec_AtomVariables a0) fun v1 => obind (loopF (spec_ColumnsForOrder_B1 a1 v1) fz (([] : List Int), 0)) fun z4 => some z4
theorem spec_ColumnsForOrder_s {a0 : Y95} {a1 : List Int} {r : (List Int)} (h : spec_ColumnsForOrder a0 a1 = some r) : SoundAt Tryz.prog 127 [.agg (c96_d a0), dL ci64 a1] (oL 3 ci64 r) := by
 unfold spec_ColumnsForOrder at h
 refine st lit127 rfl (rn 1 rfl (rs (sp 1 rfl (?_))))
 obtain ⟨v1, g2, h⟩ := ob_some h
 refine qC (qa rfl (erg (erc rfl (erc (erD eci64 _) rfl))) eran) (spec_AtomVariables_s g2) (sp 1 rfl (evn (rs (qBs ci64 [] rfl rfl rfl zci64 (sp 1 rfl (evn (ls_seq_k fun K3 hK3 => rn 1 rfl ?_)))))))
 obtain ⟨o1, hl, hr1⟩ := ob_some h
 have kXB1 : ∀ {z4 : List Int}, z4 = o1 → Jn K3 [(6, oL 3 ci64 z4)] := by
  intro z4 h σ' hk
  subst h
  replace h := hr1
  try dsimp only at h
  exact hK3 _ (lh hk rfl (rn 1 rfl (ls_ret ((by cases h; exact ⟨.inl rfl, rfl⟩)))))
 refine ls_rec (fun (s : (List Int) × Int) => match s with | (y1, y2) => [(1, dL ci64 a1), (5, oL 3 ci64 v1), (6, oL 3 ci64 y1), (7, nI y2)]) _ _ _ _ hl (okr rfl) (fun _ => rfl) ?_
 rintro m ⟨y1, y2⟩ N h hN
 unfold spec_ColumnsForOrder_B1 at h
 dsimp only at h
 refine ls_seq_k fun K5 hK5 => rn 1 rfl ?_
 rcases cond_some h with ⟨g6, h⟩ | ⟨g6, h⟩
 ·refine qT rfl g6 (ls_skip (hK5 _ (ls_seq_k fun K7 hK7 => ls_blk (rs (sp 3 rfl (?_))))))
  obtain ⟨e8, g9, h⟩ := ob_some h
  refine qI rfl zci64 g9 (sp 1 rfl (?_))
  obtain ⟨v10, g11, h⟩ := ob_some h
  refine qC (qa rfl (erD eci64 _) (qs rfl eran)) (spec_l7Find_s g11) (sp 1 rfl (evn (rk fun K12 hK12 => ?_)))
  have kJ2 : ∀ {x13 : Bool}, spec_ColumnsForOrder_J2 (loopF (spec_ColumnsForOrder_B1 a1 v1) m) y1 y2 v10 x13 = some o1 → Jn K12 [(1, dL ci64 a1), (5, oL 3 ci64 v1), (6, oL 3 ci64 y1), (7, nI y2), (8, nI v10), (31, .bool x13)] := by
   intro x13 h σ' hk
   unfold spec_ColumnsForOrder_J2 at h
   refine hK12 _ (lh hk rfl ?_)
   have kJ3 : ∀ {x14 : List Int}, spec_ColumnsForOrder_J3 (loopF (spec_ColumnsForOrder_B1 a1 v1) m) y2 x14 = some o1 → Jn K7 [(1, dL ci64 a1), (5, oL 3 ci64 v1), (6, oL 3 ci64 x14), (7, nI y2)] := by
    intro x14 h σ' hk
    unfold spec_ColumnsForOrder_J3 at h
    exact hK7 _ (lh hk rfl (rg (sp 3 rfl (evn (hN _ _ h (okr rfl))))))
   rcases cond_some h with ⟨g15, h⟩ | ⟨g15, h⟩
   ·refine qT rfl g15 (rg (sp 2 rfl (qBs ci64 [v10] rfl rfl rfl zci64 (?_))))
    obtain ⟨g16, h⟩ := chk_some h
    exact qA ci64 y1 [v10] rfl rfl (flat_len zci64 [v10]) rfl g16 (sp 1 rfl (evn (kJ3 h _ (okr rfl))))
   ·exact qF rfl g15 (ls_skip (kJ3 h _ (okr rfl)))
  refine sp 3 rfl (?_)
  rcases cond_some h with ⟨g17, h⟩ | ⟨g17, h⟩
  ·refine qg 26 g17 rfl (sp 2 rfl (?_))
   obtain ⟨v18, g19, h⟩ := ob_some h
   exact oGR rfl rfl (qC (qa rfl (erD eci64 _) (qs rfl eran)) (spec_l7Find_s g19) (sp 2 rfl (evn (kJ2 h _ (okr rfl)))))
  ·exact qg 26 g17 rfl (sp 5 rfl (evn (kJ2 h _ (okr rfl))))
 ·exact qF rfl g6 (ls_exit (kXB1 (Option.some.inj h) _ (okr rfl)))
def spec_BuildTries_B1 (a0 : List Y108) (a1 : Y29) (a2 : List Int) (rec : ((List Y37) × Int) → Option (Sum ((List Y37)) ((List Y37) × Bool))) (s : (List Y37) × Int) : Option (Sum ((List Y37)) ((List Y37) × Bool)) := match s with
  | (y1, y2) => cond (decide (y2 < (List.length a1.2.1 : Int))) (obind (geti a1.2.1 y2) fun e13 => obind (spec_AtomBindings a0 e13) fun v15 => obind (geti a1.2.1 y2) fun e17 => obind (spec_ColumnsForOrder e17 a2) fun v19 => obind (spec_BuildTrie v15 v19) fun v21 => cond (!v21.2) (some (.inr (([] : List Y37), false))) (chk (List.length y1 + List.length [v21.1] ≤ lim) (rec ((y1 ++ [v21.1]), (IntKind.i64.wrap (y2 + 1)))))) (some (.inl y1))
def spec_BuildTries (a0 : List Y108) (a1 : Y29) (a2 : List Int) : Option ((List Y37) × Bool) := obind (spec_IsQueryFor a0 a1) fun v2 => cond (!v2) (some (([] : List Y37), false)) (obind (spec_IsValidOrder a1 a2) fun v5 => cond (!v5) (some (([] : List Y37), false)) (obind (loopF (spec_BuildTries_B1 a0 a1 a2) fz (([] : List Y37), 0)) fun o1 => (match o1 with
  | .inl z9 => (some (z9, true))
  | .inr r => some r)))
theorem spec_BuildTries_s {a0 : List Y108} {a1 : Y29} {a2 : List Int} {r : (List Y37) × Bool} (h : spec_BuildTries a0 a1 a2 = some r) : SoundAt Tryz.prog 53 [.agg [dL c109_dd a0], .agg (c30_ddd a1), dL ci64 a2] (.tup [oL 97 c97_oo r.1, .bool r.2]) := by
 unfold spec_BuildTries at h
 refine st lit53 rfl (rn 1 rfl (rs (qBs c97_oo [] rfl rfl rfl zc97_oo (sp 1 rfl (evn (ls_seq_k fun K1 hK1 => rs (sp 2 rfl (?_))))))))
 obtain ⟨v2, g3, h⟩ := ob_some h
 refine qC (qa rfl (erg (erc (erD ec109_dd _) rfl)) (qa rfl (erg (erc rfl (erc (erD ec96_d _) (erc (erD eci64 _) rfl)))) eran)) (spec_IsQueryFor_s g3) (sp 2 rfl (?_))
 rcases cond_some h with ⟨g4, h⟩ | ⟨g4, h⟩
 ·exact qg 17 g4 rfl (sp 5 rfl (evn (qT rfl rfl (rn 1 rfl (ls_ret ((by cases h; exact ⟨.inl rfl, rfl⟩)))))))
 ·refine qg 17 g4 rfl (sp 2 rfl (?_))
  obtain ⟨v5, g6, h⟩ := ob_some h
  refine oGR rfl rfl (qC (qa rfl (erg (erc rfl (erc (erD ec96_d _) (erc (erD eci64 _) rfl)))) (qa rfl (erD eci64 _) eran)) (spec_IsValidOrder_s g6) (sp 2 rfl (evn ?_)))
  rcases cond_some h with ⟨g7, h⟩ | ⟨g7, h⟩
  ·exact qT rfl g7 (rn 1 rfl (ls_ret ((by cases h; exact ⟨.inl rfl, rfl⟩))))
  ·refine qF rfl g7 (ls_skip (hK1 _ (qk [2, 3, 4, 8] rfl (ls_seq_k fun K8 hK8 => rn 1 rfl ?_))))
   obtain ⟨o1, hl, hr1⟩ := ob_some h
   have kXB1 : ∀ {z9 : List Y37}, (.inl z9) = o1 → Jn K8 [(8, oL 97 c97_oo z9)] := by
    intro z9 h σ' hk
    subst h
    replace h := hr1
    try dsimp only at h
    exact hK8 _ (lh hk rfl (rn 1 rfl (ls_ret ((by cases h; exact ⟨.inl rfl, rfl⟩)))))
   refine ls_rec (fun (s : (List Y37) × Int) => match s with | (y1, y2) => [(2, dL ci64 a2), (3, .box [dL c109_dd a0]), (4, .box [nI a1.1, dL c96_d a1.2.1, dL ci64 a1.2.2]), (8, oL 97 c97_oo y1), (9, nI y2)]) _ _ _ _ hl (okr rfl) (fun _ => rfl) ?_
   rintro m ⟨y1, y2⟩ N h hN
   unfold spec_BuildTries_B1 at h
   dsimp only at h
   refine ls_seq_k fun K10 hK10 => rn 1 rfl ?_
   rcases cond_some h with ⟨g11, h⟩ | ⟨g11, h⟩
   ·refine qT rfl g11 (ls_skip (hK10 _ (ls_seq_k fun K12 hK12 => ls_blk (rd (by kernel_rfl) (sd 4 rfl (?_))))))
    obtain ⟨e13, g14, h⟩ := ob_some h
    refine ed rfl (qI rfl zc96_d g14 (sd 1 rfl (?_)))
    obtain ⟨v15, g16, h⟩ := ob_some h
    refine ed rfl (qC (qa rfl (erg (erc (erD ec109_dd _) rfl)) (qa rfl (erg (erc rfl (erc (erD eci64 _) rfl))) eran)) (spec_AtomBindings_s g16) (sd 3 rfl (?_)))
    obtain ⟨e17, g18, h⟩ := ob_some h
    refine ed rfl (qI rfl zc96_d g18 (sd 2 rfl (?_)))
    obtain ⟨v19, g20, h⟩ := ob_some h
    refine ed rfl (qC (qa rfl (erg (erc rfl (erc (erD eci64 _) rfl))) (qa rfl (erD eci64 _) eran)) (spec_ColumnsForOrder_s g20) (?_))
    obtain ⟨v21, g22, h⟩ := ob_some h
    refine ed rfl (qC (qa rfl (erg (erc rfl (erc (erO ec28_o _) rfl))) (qa rfl (erO eci64 _) eran)) (spec_BuildTrie_s g22) (sd 6 rfl (evdn (ls_seq_k fun K23 hK23 => rn 1 rfl (qk [2, 3, 4, 8, 9, 10, 50] rfl ?_)))))
    rcases cond_some h with ⟨g24, h⟩ | ⟨g24, h⟩
    ·exact qT rfl g24 (rs (qBs c97_oo [] rfl rfl rfl zc97_oo (sp 2 rfl (evn (ls_ret ((by cases h; cases hr1; exact ⟨.inl rfl, rfl⟩)))))))
    ·refine qF rfl g24 (ls_skip (hK23 _ (rg (sp 2 rfl (qBs c97_oo [v21.1] rfl rfl rfl zc97_oo (?_))))))
     obtain ⟨g25, h⟩ := chk_some h
     exact qA c97_oo y1 [v21.1] rfl rfl (flat_len zc97_oo [v21.1]) rfl g25 (sp 1 rfl (evn (hK12 _ (rg (sp 3 rfl (evn (hN _ _ h (okr rfl))))))))
   ·exact qF rfl g11 (ls_exit (kXB1 (Option.some.inj h) _ (okr rfl)))
def spec_l20Empty_B1 (a0 : List Y37) (rec : Int → Option (Sum (Unit) (Bool))) (y1 : Int) : Option (Sum (Unit) (Bool)) := cond (decide (y1 < (List.length a0 : Int))) (obind (geti a0 y1) fun e5 => cond ((List.length e5.2 : Int) == 0) (some (.inr true)) (rec (IntKind.i64.wrap (y1 + 1)))) (some (.inl ()))
def spec_l20Empty (a0 : List Y37) : Option (Bool) := obind (loopF (spec_l20Empty_B1 a0) fz 0) fun o1 => (match o1 with
  | .inl _ => (some false)
  | .inr r => some r)
theorem spec_l20Empty_s {a0 : List Y37} {r : Bool} (h : spec_l20Empty a0 = some r) : SoundAt Tryz.prog 254 [dL c97_dd a0] (.bool r) := by
 unfold spec_l20Empty at h
 refine st lit254 rfl (rn 1 rfl (ls_seq_k fun K1 hK1 => rn 1 rfl ?_))
 obtain ⟨o1, hl, hr1⟩ := ob_some h
 have kXB1 : (.inl ()) = o1 → Jn K1 [] := by
  intro h σ' hk
  subst h
  replace h := hr1
  try dsimp only at h
  exact hK1 _ (lh hk rfl (rn 1 rfl (ls_ret ((by cases h; exact ⟨.inl rfl, rfl⟩)))))
 refine ls_rec (fun (y1 : Int) => [(0, dL c97_dd a0), (3, nI y1)]) _ _ _ _ hl (okr rfl) (fun _ => rfl) ?_
 rintro m y1 N h hN
 unfold spec_l20Empty_B1 at h
 refine ls_seq_k fun K2 hK2 => rn 1 rfl ?_
 rcases cond_some h with ⟨g3, h⟩ | ⟨g3, h⟩
 ·refine qT rfl g3 (ls_skip (hK2 _ (ls_seq_k fun K4 hK4 => ls_blk (rs (sp 2 rfl (?_))))))
  obtain ⟨e5, g6, h⟩ := ob_some h
  refine qI rfl zc97_dd g6 (sp 4 rfl (evn ?_))
  rcases cond_some h with ⟨g7, h⟩ | ⟨g7, h⟩
  ·exact qT rfl g7 (rn 1 rfl (ls_ret ((by cases h; cases hr1; exact ⟨.inl rfl, rfl⟩))))
  ·exact qF rfl g7 (ls_skip (hK4 _ (rg (sp 3 rfl (evn (hN _ _ h (okr rfl)))))))
 ·exact qF rfl g3 (ls_exit (kXB1 (Option.some.inj h) _ trivial))
def spec_AtomsWithVariable_J2 (rec : ((List Int) × Int) → Option ((List Int))) (y2 : Int) (x13 : List Int) : Option ((List Int)) := rec (x13, (IntKind.i64.wrap (y2 + 1)))
def spec_AtomsWithVariable_B1 (a0 : Y29) (a1 : Int) (rec : ((List Int) × Int) → Option ((List Int))) (s : (List Int) × Int) : Option ((List Int)) := match s with
  | (y1, y2) => cond (decide (y2 < (List.length a0.2.1 : Int))) (obind (spec_IsValidQuery a0) fun v5 => cond v5 (obind (geti a0.2.1 y2) fun e9 => obind (spec_ContainsVariable e9 a1) fun v11 => cond v11 (chk (List.length y1 + List.length [y2] ≤ lim) (spec_AtomsWithVariable_J2 rec y2 (y1 ++ [y2]))) (spec_AtomsWithVariable_J2 rec y2 y1)) (some y1)) (some y1)
def spec_AtomsWithVariable (a0 : Y29) (a1 : Int) : Option ((List Int)) := obind (loopF (spec_AtomsWithVariable_B1 a0 a1) fz (([] : List Int), 0)) fun z2 => some z2
theorem spec_AtomsWithVariable_s {a0 : Y29} {a1 : Int} {r : (List Int)} (h : spec_AtomsWithVariable a0 a1 = some r) : SoundAt Tryz.prog 54 [.agg (c30_ddd a0), nI a1] (oL 3 ci64 r) := by
 unfold spec_AtomsWithVariable at h
 refine st lit54 rfl (rn 1 rfl (rs (qBs ci64 [] rfl rfl rfl zci64 (sp 1 rfl (evn (ls_seq_k fun K1 hK1 => rn 1 rfl ?_))))))
 obtain ⟨o1, hl, hr1⟩ := ob_some h
 have kXB1 : ∀ {z2 : List Int}, z2 = o1 → Jn K1 [(5, oL 3 ci64 z2)] := by
  intro z2 h σ' hk
  subst h
  replace h := hr1
  try dsimp only at h
  exact hK1 _ (lh hk rfl (rn 1 rfl (ls_ret ((by cases h; exact ⟨.inl rfl, rfl⟩)))))
 refine ls_rec (fun (s : (List Int) × Int) => match s with | (y1, y2) => [(1, nI a1), (2, .box [nI a0.1, dL c96_d a0.2.1, dL ci64 a0.2.2]), (5, oL 3 ci64 y1), (6, nI y2)]) _ _ _ _ hl (okr rfl) (fun _ => rfl) ?_
 rintro m ⟨y1, y2⟩ N h hN
 unfold spec_AtomsWithVariable_B1 at h
 dsimp only at h
 refine ls_seq_k fun K3 hK3 => rs (sp 6 rfl (?_))
 rcases cond_some h with ⟨g4, h⟩ | ⟨g4, h⟩
 ·refine qg 13 g4 rfl (sp 1 rfl (?_))
  obtain ⟨v5, g6, h⟩ := ob_some h
  refine oGR rfl rfl (qC (qa rfl (erg (erc rfl (erc (erD ec96_d _) (erc (erD eci64 _) rfl)))) eran) (spec_IsValidQuery_s g6) (sp 1 rfl (evn ?_)))
  rcases cond_some h with ⟨g7, h⟩ | ⟨g7, h⟩
  ·refine qT rfl g7 (ls_skip (hK3 _ (ls_seq_k fun K8 hK8 => ls_blk (rs (sp 3 rfl (?_))))))
   obtain ⟨e9, g10, h⟩ := ob_some h
   refine qI rfl zc96_d g10 (sp 2 rfl (?_))
   obtain ⟨v11, g12, h⟩ := ob_some h
   refine qC (qa rfl (erg (erc rfl (erc (erD eci64 _) rfl))) (qs rfl eran)) (spec_ContainsVariable_s g12) (evn ?_)
   have kJ2 : ∀ {x13 : List Int}, spec_AtomsWithVariable_J2 (loopF (spec_AtomsWithVariable_B1 a0 a1) m) y2 x13 = some o1 → Jn K8 [(1, nI a1), (2, .box [nI a0.1, dL c96_d a0.2.1, dL ci64 a0.2.2]), (5, oL 3 ci64 x13), (6, nI y2)] := by
    intro x13 h σ' hk
    unfold spec_AtomsWithVariable_J2 at h
    exact hK8 _ (lh hk rfl (rg (sp 3 rfl (evn (hN _ _ h (okr rfl))))))
   rcases cond_some h with ⟨g14, h⟩ | ⟨g14, h⟩
   ·refine qT rfl g14 (rg (sp 2 rfl (qBs ci64 [y2] rfl rfl rfl zci64 (?_))))
    obtain ⟨g15, h⟩ := chk_some h
    exact qA ci64 y1 [y2] rfl rfl (flat_len zci64 [y2]) rfl g15 (sp 1 rfl (evn (kJ2 h _ (okr rfl))))
   ·exact qF rfl g14 (ls_skip (kJ2 h _ (okr rfl)))
  ·exact qF rfl g7 (ls_exit (kXB1 (Option.some.inj h) _ (okr rfl)))
 ·exact qg 13 g4 rfl (sp 3 rfl (evn (qF rfl rfl (ls_exit (kXB1 (Option.some.inj h) _ (okr rfl))))))
def spec_l16Rel (a0 : Y37) : Option (Y37) := some a0
theorem spec_l16Rel_s {a0 : Y37} {r : Y37} (h : spec_l16Rel a0 = some r) : SoundAt Tryz.prog 249 [.agg (c97_dd a0)] (.agg (c38_dd r)) := by
 unfold spec_l16Rel at h
 exact st lit249 rfl (rn 2 rfl (ls_ret ((by cases h; exact ⟨.inl rfl, rfl⟩))))
def spec_IsValidTrie (a0 : Y37) : Option (Bool) := obind (spec_l16Rel a0) fun v1 => obind (spec_IsValidRelation v1) fun v3 => some v3
theorem spec_IsValidTrie_s {a0 : Y37} {r : Bool} (h : spec_IsValidTrie a0 = some r) : SoundAt Tryz.prog 233 [.agg (c97_dd a0)] (.bool r) := by
 unfold spec_IsValidTrie at h
 refine st lit233 rfl (rn 1 rfl (rs (sp 1 rfl (?_))))
 obtain ⟨v1, g2, h⟩ := ob_some h
 refine qC (qa rfl (erg (erc rfl (erc (erD ec28_d _) rfl))) eran) (spec_l16Rel_s g2) (?_)
 obtain ⟨v3, g4, h⟩ := ob_some h
 exact qC (qa rfl (erg (erc rfl (erc (erD ec28_d _) rfl))) eran) (spec_IsValidRelation_s g4) (sp 1 rfl (evn (ls_ret ((by cases h; exact ⟨.inl rfl, rfl⟩)))))
def spec_TriePrefixRange_B1 (a0 : Y37) (a1 : List Int) (rec : Int → Option (Int)) (y1 : Int) : Option (Int) := cond (decide (y1 < (List.length a0.2 : Int))) (obind (geti a0.2 y1) fun e10 => chk ((0 : Int) ≤ 0 ∧ 0 ≤ (List.length a1 : Int) ∧ (List.length a1 : Int) ≤ (List.length e10 : Int)) (obind (spec_CompareRows (subl e10 0 (List.length a1 : Int)) a1) fun v13 => cond (decide (v13 < 0)) (rec (IntKind.i64.wrap (y1 + 1))) (some y1))) (some y1)
def spec_TriePrefixRange_B2 (a0 : Y37) (a1 : List Int) (rec : Int → Option (Int)) (y2 : Int) : Option (Int) := cond (decide (y2 < (List.length a0.2 : Int))) (obind (geti a0.2 y2) fun e20 => chk ((0 : Int) ≤ 0 ∧ 0 ≤ (List.length a1 : Int) ∧ (List.length a1 : Int) ≤ (List.length e20 : Int)) (obind (spec_CompareRows (subl e20 0 (List.length a1 : Int)) a1) fun v23 => cond (v23 == 0) (rec (IntKind.i64.wrap (y2 + 1))) (some y2))) (some y2)
def spec_TriePrefixRange (a0 : Y37) (a1 : List Int) : Option (Int × Int) := obind (spec_IsValidTrie a0) fun v2 => cond (!v2) (some (0, 0)) (cond (decide (a0.1 < (List.length a1 : Int))) (some (0, 0)) (obind (loopF (spec_TriePrefixRange_B1 a0 a1) fz 0) fun z7 => obind (loopF (spec_TriePrefixRange_B2 a0 a1) fz z7) fun z17 => some (z7, z17)))
theorem spec_TriePrefixRange_s {a0 : Y37} {a1 : List Int} {r : Int × Int} (h : spec_TriePrefixRange a0 a1 = some r) : SoundAt Tryz.prog 196 [.agg (c97_dd a0), dL ci64 a1] (.tup [nI r.1, nI r.2]) := by
 unfold spec_TriePrefixRange at h
 refine st lit196 rfl (rn 1 rfl (ls_seq_k fun K1 hK1 => rs (sp 1 rfl (?_))))
 obtain ⟨v2, g3, h⟩ := ob_some h
 refine qC (qa rfl (erg (erc rfl (erc (erD ec28_d _) rfl))) eran) (spec_IsValidTrie_s g3) (sp 2 rfl (?_))
 rcases cond_some h with ⟨g4, h⟩ | ⟨g4, h⟩
 ·exact qg 11 g4 rfl (sp 6 rfl (evn (qT rfl rfl (rn 1 rfl (ls_ret ((by cases h; exact ⟨.inl rfl, rfl⟩)))))))
 ·refine qg 11 g4 rfl (sp 6 rfl (evn ?_))
  rcases cond_some h with ⟨g5, h⟩ | ⟨g5, h⟩
  ·exact qT rfl g5 (rn 1 rfl (ls_ret ((by cases h; exact ⟨.inl rfl, rfl⟩))))
  ·refine qF rfl g5 (ls_skip (hK1 _ (qk [1, 2] rfl (rn 1 rfl (ls_seq_k fun K6 hK6 => ?_)))))
   obtain ⟨o1, hl, hr1⟩ := ob_some h
   have kXB1 : ∀ {z7 : Int}, z7 = o1 → Jn K6 [(1, dL ci64 a1), (2, .box [nI a0.1, dL c28_d a0.2]), (6, nI z7)] := by
    intro z7 h σ' hk
    subst h
    replace h := hr1
    try dsimp only at h
    refine hK6 _ (lh hk rfl (rn 1 rfl (ls_seq_k fun K16 hK16 => ?_)))
    obtain ⟨o2, hl, hr2⟩ := ob_some h
    have kXB2 : ∀ {z17 : Int}, z17 = o2 → Jn K16 [(6, nI z7), (7, nI z17)] := by
     intro z17 h σ' hk
     subst h
     replace h := hr2
     try dsimp only at h
     exact hK16 _ (lh hk rfl (rn 1 rfl (ls_ret ((by cases h; exact ⟨.inl rfl, rfl⟩)))))
    refine ls_rec (fun (y2 : Int) => [(1, dL ci64 a1), (2, .box [nI a0.1, dL c28_d a0.2]), (6, nI z7), (7, nI y2)]) _ _ _ _ hl (okr rfl) (fun _ => rfl) ?_
    rintro m y2 N h hN
    unfold spec_TriePrefixRange_B2 at h
    refine ls_seq_k fun K18 hK18 => rs (sp 6 rfl (?_))
    rcases cond_some h with ⟨g19, h⟩ | ⟨g19, h⟩
    ·refine qg 44 g19 rfl (sp 3 rfl (?_))
     obtain ⟨e20, g21, h⟩ := ob_some h
     refine oGR rfl rfl (qI rfl zc28_d g21 (sp 3 rfl (?_)))
     obtain ⟨g22, h⟩ := chk_some h
     refine oGR rfl rfl (qSl rfl zci64 g22 (sp 1 rfl (?_)))
     obtain ⟨v23, g24, h⟩ := ob_some h
     refine oGR rfl rfl (qC (qa rfl (erD eci64 _) (qa rfl (erD eci64 _) eran)) (spec_CompareRows_s g24) (sp 2 rfl (evn ?_)))
     rcases cond_some h with ⟨g25, h⟩ | ⟨g25, h⟩
     ·exact qT rfl g25 (ls_skip (hK18 _ (ls_blk (rg (sp 3 rfl (evn (hN _ _ h (okr rfl))))))))
     ·exact qF rfl g25 (ls_exit (kXB2 (Option.some.inj h) _ (okr rfl)))
    ·exact qg 44 g19 rfl (sp 12 rfl (evn (qk [1, 2, 6, 7, 56] rfl (qF rfl rfl (ls_exit (kXB2 (Option.some.inj h) _ (okr rfl)))))))
   refine ls_rec (fun (y1 : Int) => [(1, dL ci64 a1), (2, .box [nI a0.1, dL c28_d a0.2]), (6, nI y1)]) _ _ _ _ hl (okr rfl) (fun _ => rfl) ?_
   rintro m y1 N h hN
   unfold spec_TriePrefixRange_B1 at h
   refine ls_seq_k fun K8 hK8 => rs (sp 6 rfl (?_))
   rcases cond_some h with ⟨g9, h⟩ | ⟨g9, h⟩
   ·refine qg 23 g9 rfl (sp 3 rfl (?_))
    obtain ⟨e10, g11, h⟩ := ob_some h
    refine oGR rfl rfl (qI rfl zc28_d g11 (sp 3 rfl (?_)))
    obtain ⟨g12, h⟩ := chk_some h
    refine oGR rfl rfl (qSl rfl zci64 g12 (sp 1 rfl (?_)))
    obtain ⟨v13, g14, h⟩ := ob_some h
    refine oGR rfl rfl (qC (qa rfl (erD eci64 _) (qa rfl (erD eci64 _) eran)) (spec_CompareRows_s g14) (sp 2 rfl (evn ?_)))
    rcases cond_some h with ⟨g15, h⟩ | ⟨g15, h⟩
    ·exact qT rfl g15 (ls_skip (hK8 _ (ls_blk (rg (sp 3 rfl (evn (hN _ _ h (okr rfl))))))))
    ·exact qF rfl g15 (ls_exit (kXB1 (Option.some.inj h) _ (okr rfl)))
   ·exact qg 23 g9 rfl (sp 12 rfl (evn (qk [1, 2, 6, 35] rfl (qF rfl rfl (ls_exit (kXB1 (Option.some.inj h) _ (okr rfl)))))))
def spec_TrieChildren_J3 (rec : ((List Int) × Int) → Option ((List Int))) (y2 : Int) (x15 : List Int) : Option ((List Int)) := rec (x15, (IntKind.i64.wrap (y2 + 1)))
def spec_TrieChildren_J2 (rec : ((List Int) × Int) → Option ((List Int))) (y1 : List Int) (y2 : Int) (e11 : Int) (x14 : Bool) : Option ((List Int)) := cond x14 (chk (List.length y1 + List.length [e11] ≤ lim) (spec_TrieChildren_J3 rec y2 (y1 ++ [e11]))) (spec_TrieChildren_J3 rec y2 y1)
def spec_TrieChildren_B1 (a0 : Y37) (a1 : List Int) (v1 : Int × Int) (rec : ((List Int) × Int) → Option ((List Int))) (s : (List Int) × Int) : Option ((List Int)) := match s with
  | (y1, y2) => cond (decide (y2 < v1.2)) (cond (decide ((List.length a1 : Int) < a0.1)) (obind (geti a0.2 y2) fun e9 => obind (geti e9 (List.length a1 : Int)) fun e11 => cond ((List.length y1 : Int) == 0) (spec_TrieChildren_J2 rec y1 y2 e11 true) (obind (geti y1 (IntKind.i64.wrap ((List.length y1 : Int) - 1))) fun e19 => spec_TrieChildren_J2 rec y1 y2 e11 (e19 != e11))) (some y1)) (some y1)
def spec_TrieChildren (a0 : Y37) (a1 : List Int) : Option ((List Int)) := obind (spec_TriePrefixRange a0 a1) fun v1 => obind (loopF (spec_TrieChildren_B1 a0 a1 v1) fz (([] : List Int), v1.1)) fun z4 => some z4
theorem spec_TrieChildren_s {a0 : Y37} {a1 : List Int} {r : (List Int)} (h : spec_TrieChildren a0 a1 = some r) : SoundAt Tryz.prog 129 [.agg (c97_dd a0), dL ci64 a1] (oL 3 ci64 r) := by
 unfold spec_TrieChildren at h
 refine st lit129 rfl (rn 1 rfl (rs (qBs ci64 [] rfl rfl rfl zci64 (sp 1 rfl (evn (rs (sp 2 rfl (?_))))))))
 obtain ⟨v1, g2, h⟩ := ob_some h
 refine qC (qa rfl (erg (erc rfl (erc (erD ec28_d _) rfl))) (qa rfl (erD eci64 _) eran)) (spec_TriePrefixRange_s g2) (sp 5 rfl (evn (ls_seq_k fun K3 hK3 => rn 1 rfl ?_)))
 obtain ⟨o1, hl, hr1⟩ := ob_some h
 have kXB1 : ∀ {z4 : List Int}, z4 = o1 → Jn K3 [(5, oL 3 ci64 z4)] := by
  intro z4 h σ' hk
  subst h
  replace h := hr1
  try dsimp only at h
  exact hK3 _ (lh hk rfl (rn 1 rfl (ls_ret ((by cases h; exact ⟨.inl rfl, rfl⟩)))))
 refine ls_rec (fun (s : (List Int) × Int) => match s with | (y1, y2) => [(1, dL ci64 a1), (2, .box [nI a0.1, dL c28_d a0.2]), (5, oL 3 ci64 y1), (7, nI v1.2), (8, nI y2)]) _ _ _ _ hl (okr rfl) (fun _ => rfl) ?_
 rintro m ⟨y1, y2⟩ N h hN
 unfold spec_TrieChildren_B1 at h
 dsimp only at h
 refine ls_seq_k fun K5 hK5 => rs (sp 4 rfl (?_))
 rcases cond_some h with ⟨g6, h⟩ | ⟨g6, h⟩
 ·refine qg 21 g6 rfl (sp 6 rfl (evn ?_))
  rcases cond_some h with ⟨g7, h⟩ | ⟨g7, h⟩
  ·refine qT rfl g7 (ls_skip (hK5 _ (ls_seq_k fun K8 hK8 => ls_blk (rs (sp 3 rfl (?_))))))
   obtain ⟨e9, g10, h⟩ := ob_some h
   refine qI rfl zc28_d g10 (sp 3 rfl (?_))
   obtain ⟨e11, g12, h⟩ := ob_some h
   refine qI rfl zci64 g12 (sp 2 rfl (evn (rk fun K13 hK13 => ?_)))
   have kJ2 : ∀ {x14 : Bool}, spec_TrieChildren_J2 (loopF (spec_TrieChildren_B1 a0 a1 v1) m) y1 y2 e11 x14 = some o1 → Jn K13 [(1, dL ci64 a1), (2, .box [nI a0.1, dL c28_d a0.2]), (5, oL 3 ci64 y1), (7, nI v1.2), (8, nI y2), (9, nI e11), (51, .bool x14)] := by
    intro x14 h σ' hk
    unfold spec_TrieChildren_J2 at h
    refine hK13 _ (lh hk rfl ?_)
    have kJ3 : ∀ {x15 : List Int}, spec_TrieChildren_J3 (loopF (spec_TrieChildren_B1 a0 a1 v1) m) y2 x15 = some o1 → Jn K8 [(1, dL ci64 a1), (2, .box [nI a0.1, dL c28_d a0.2]), (5, oL 3 ci64 x15), (7, nI v1.2), (8, nI y2)] := by
     intro x15 h σ' hk
     unfold spec_TrieChildren_J3 at h
     exact hK8 _ (lh hk rfl (rg (sp 3 rfl (evn (hN _ _ h (okr rfl))))))
    rcases cond_some h with ⟨g16, h⟩ | ⟨g16, h⟩
    ·refine qT rfl g16 (rg (sp 2 rfl (qBs ci64 [e11] rfl rfl rfl zci64 (?_))))
     obtain ⟨g17, h⟩ := chk_some h
     exact qA ci64 y1 [e11] rfl rfl (flat_len zci64 [e11]) rfl g17 (sp 1 rfl (evn (kJ3 h _ (okr rfl))))
    ·exact qF rfl g16 (ls_skip (kJ3 h _ (okr rfl)))
   refine sp 4 rfl (?_)
   rcases cond_some h with ⟨g18, h⟩ | ⟨g18, h⟩
   ·exact qg 42 g18 rfl (sp 9 rfl (evn (kJ2 h _ (okr rfl))))
   ·refine qg 42 g18 rfl (sp 4 rfl (?_))
    obtain ⟨e19, g20, h⟩ := ob_some h
    exact oGR rfl rfl (qI rfl zci64 g20 (sp 4 rfl (evn (kJ2 h _ (okr rfl)))))
  ·exact qF rfl g7 (ls_exit (kXB1 (Option.some.inj h) _ (okr rfl)))
 ·exact qg 21 g6 rfl (sp 6 rfl (evn (qk [1, 2, 5, 7, 8, 27] rfl (qF rfl rfl (ls_exit (kXB1 (Option.some.inj h) _ (okr rfl)))))))
def spec_l20Prefix_J2 (rec : ((List Int) × Int) → Option ((List Int))) (y2 : Int) (x10 : List Int) : Option ((List Int)) := rec (x10, (IntKind.i64.wrap (y2 + 1)))
def spec_l20Prefix_B1 (a0 : Y95) (a1 : List Int) (a2 : List Int) (rec : ((List Int) × Int) → Option ((List Int))) (s : (List Int) × Int) : Option ((List Int)) := match s with
  | (y1, y2) => cond (decide (y2 < (List.length a2 : Int))) (obind (geti a1 y2) fun e6 => obind (spec_ContainsVariable a0 e6) fun v8 => cond v8 (obind (geti a2 y2) fun e12 => chk (List.length y1 + List.length [e12] ≤ lim) (spec_l20Prefix_J2 rec y2 (y1 ++ [e12]))) (spec_l20Prefix_J2 rec y2 y1)) (some y1)
def spec_l20Prefix (a0 : Y95) (a1 : List Int) (a2 : List Int) : Option ((List Int)) := obind (loopF (spec_l20Prefix_B1 a0 a1 a2) fz (([] : List Int), 0)) fun z2 => some z2
theorem spec_l20Prefix_s {a0 : Y95} {a1 : List Int} {a2 : List Int} {r : (List Int)} (h : spec_l20Prefix a0 a1 a2 = some r) : SoundAt Tryz.prog 257 [.agg (c96_d a0), dL ci64 a1, dL ci64 a2] (oL 3 ci64 r) := by
 unfold spec_l20Prefix at h
 refine st lit257 rfl (rn 1 rfl (rs (qBs ci64 [] rfl rfl rfl zci64 (sp 1 rfl (evn (ls_seq_k fun K1 hK1 => rn 1 rfl ?_))))))
 obtain ⟨o1, hl, hr1⟩ := ob_some h
 have kXB1 : ∀ {z2 : List Int}, z2 = o1 → Jn K1 [(7, oL 3 ci64 z2)] := by
  intro z2 h σ' hk
  subst h
  replace h := hr1
  try dsimp only at h
  exact hK1 _ (lh hk rfl (rn 1 rfl (ls_ret ((by cases h; exact ⟨.inl rfl, rfl⟩)))))
 refine ls_rec (fun (s : (List Int) × Int) => match s with | (y1, y2) => [(1, dL ci64 a1), (2, dL ci64 a2), (3, .box [.str a0.1, dL ci64 a0.2]), (7, oL 3 ci64 y1), (8, nI y2)]) _ _ _ _ hl (okr rfl) (fun _ => rfl) ?_
 rintro m ⟨y1, y2⟩ N h hN
 unfold spec_l20Prefix_B1 at h
 dsimp only at h
 refine ls_seq_k fun K3 hK3 => rn 1 rfl ?_
 rcases cond_some h with ⟨g4, h⟩ | ⟨g4, h⟩
 ·refine qT rfl g4 (ls_skip (hK3 _ (ls_seq_k fun K5 hK5 => ls_blk (rd (by kernel_rfl) (sd 3 rfl (?_))))))
  obtain ⟨e6, g7, h⟩ := ob_some h
  refine ed rfl (qI rfl zci64 g7 (sd 1 rfl (?_)))
  obtain ⟨v8, g9, h⟩ := ob_some h
  refine ed rfl (qC (qa rfl (erg (erc rfl (erc (erD eci64 _) rfl))) (qs rfl eran)) (spec_ContainsVariable_s g9) (evdn ?_))
  have kJ2 : ∀ {x10 : List Int}, spec_l20Prefix_J2 (loopF (spec_l20Prefix_B1 a0 a1 a2) m) y2 x10 = some o1 → Jn K5 [(1, dL ci64 a1), (2, dL ci64 a2), (3, .box [.str a0.1, dL ci64 a0.2]), (7, oL 3 ci64 x10), (8, nI y2)] := by
   intro x10 h σ' hk
   unfold spec_l20Prefix_J2 at h
   exact hK5 _ (lh hk rfl (rg (sp 3 rfl (evn (hN _ _ h (okr rfl))))))
  rcases cond_some h with ⟨g11, h⟩ | ⟨g11, h⟩
  ·refine qT rfl g11 (rg (sp 3 rfl (?_)))
   obtain ⟨e12, g13, h⟩ := ob_some h
   refine qI rfl zci64 g13 (sp 1 rfl (qBs ci64 [e12] rfl rfl rfl zci64 (?_)))
   obtain ⟨g14, h⟩ := chk_some h
   exact qA ci64 y1 [e12] rfl rfl (flat_len zci64 [e12]) rfl g14 (sp 1 rfl (evn (kJ2 h _ (okr rfl))))
  ·exact qF rfl g11 (ls_skip (kJ2 h _ (okr rfl)))
 ·exact qF rfl g4 (ls_exit (kXB1 (Option.some.inj h) _ (okr rfl)))
def spec_IsStrictlyAscending_B1 (a0 : List Int) (rec : Int → Option (Sum (Unit) (Bool))) (y1 : Int) : Option (Sum (Unit) (Bool)) := cond (decide (y1 < (List.length a0 : Int))) (obind (geti a0 y1) fun e5 => obind (geti a0 (IntKind.i64.wrap (y1 - 1))) fun e7 => cond (decide (e5 ≤ e7)) (some (.inr false)) (rec (IntKind.i64.wrap (y1 + 1)))) (some (.inl ()))
def spec_IsStrictlyAscending (a0 : List Int) : Option (Bool) := obind (loopF (spec_IsStrictlyAscending_B1 a0) fz 1) fun o1 => (match o1 with
  | .inl _ => (some true)
  | .inr r => some r)
theorem spec_IsStrictlyAscending_s {a0 : List Int} {r : Bool} (h : spec_IsStrictlyAscending a0 = some r) : SoundAt Tryz.prog 263 [dL ci64 a0] (.bool r) := by
 unfold spec_IsStrictlyAscending at h
 refine st lit263 rfl (rn 1 rfl (ls_seq_k fun K1 hK1 => rn 1 rfl ?_))
 obtain ⟨o1, hl, hr1⟩ := ob_some h
 have kXB1 : (.inl ()) = o1 → Jn K1 [] := by
  intro h σ' hk
  subst h
  replace h := hr1
  try dsimp only at h
  exact hK1 _ (lh hk rfl (rn 1 rfl (ls_ret ((by cases h; exact ⟨.inl rfl, rfl⟩)))))
 refine ls_rec (fun (y1 : Int) => [(0, dL ci64 a0), (3, nI y1)]) _ _ _ _ hl (okr rfl) (fun _ => rfl) ?_
 rintro m y1 N h hN
 unfold spec_IsStrictlyAscending_B1 at h
 refine ls_seq_k fun K2 hK2 => rn 1 rfl ?_
 rcases cond_some h with ⟨g3, h⟩ | ⟨g3, h⟩
 ·refine qT rfl g3 (ls_skip (hK2 _ (ls_seq_k fun K4 hK4 => ls_blk (rd (by kernel_rfl) (sd 2 rfl (?_))))))
  obtain ⟨e5, g6, h⟩ := ob_some h
  refine ed rfl (qI rfl zci64 g6 (sd 4 rfl (?_)))
  obtain ⟨e7, g8, h⟩ := ob_some h
  refine ed rfl (qI rfl zci64 g8 (sd 2 rfl (evdn ?_)))
  rcases cond_some h with ⟨g9, h⟩ | ⟨g9, h⟩
  ·exact qT rfl g9 (rn 1 rfl (ls_ret ((by cases h; cases hr1; exact ⟨.inl rfl, rfl⟩))))
  ·exact qF rfl g9 (ls_skip (hK4 _ (rg (sp 3 rfl (evn (hN _ _ h (okr rfl)))))))
 ·exact qF rfl g3 (ls_exit (kXB1 (Option.some.inj h) _ trivial))
def spec_l18All_B1 (a0 : List (List Int)) (rec : Int → Option (Sum (Unit) (Bool))) (y1 : Int) : Option (Sum (Unit) (Bool)) := cond (decide (y1 < (List.length a0 : Int))) (obind (geti a0 y1) fun e5 => obind (spec_IsStrictlyAscending e5) fun v7 => cond (!v7) (some (.inr false)) (rec (IntKind.i64.wrap (y1 + 1)))) (some (.inl ()))
def spec_l18All (a0 : List (List Int)) : Option (Bool) := obind (loopF (spec_l18All_B1 a0) fz 0) fun o1 => (match o1 with
  | .inl _ => (some (decide (0 < (List.length a0 : Int))))
  | .inr r => some r)
theorem spec_l18All_s {a0 : List (List Int)} {r : Bool} (h : spec_l18All a0 = some r) : SoundAt Tryz.prog 259 [dL c28_d a0] (.bool r) := by
 unfold spec_l18All at h
 refine st lit259 rfl (rn 1 rfl (ls_seq_k fun K1 hK1 => rn 1 rfl ?_))
 obtain ⟨o1, hl, hr1⟩ := ob_some h
 have kXB1 : (.inl ()) = o1 → Jn K1 [(0, dL c28_d a0)] := by
  intro h σ' hk
  subst h
  replace h := hr1
  try dsimp only at h
  exact hK1 _ (lh hk rfl (rn 1 rfl (ls_ret ((by cases h; exact ⟨.inl rfl, rfl⟩)))))
 refine ls_rec (fun (y1 : Int) => [(0, dL c28_d a0), (3, nI y1)]) _ _ _ _ hl (okr rfl) (fun _ => rfl) ?_
 rintro m y1 N h hN
 unfold spec_l18All_B1 at h
 refine ls_seq_k fun K2 hK2 => rn 1 rfl ?_
 rcases cond_some h with ⟨g3, h⟩ | ⟨g3, h⟩
 ·refine qT rfl g3 (ls_skip (hK2 _ (ls_seq_k fun K4 hK4 => ls_blk (rs (sp 2 rfl (?_))))))
  obtain ⟨e5, g6, h⟩ := ob_some h
  refine qI rfl zc28_d g6 (sp 1 rfl (?_))
  obtain ⟨v7, g8, h⟩ := ob_some h
  refine qC (qa rfl (erD eci64 _) eran) (spec_IsStrictlyAscending_s g8) (sp 1 rfl (evn ?_))
  rcases cond_some h with ⟨g9, h⟩ | ⟨g9, h⟩
  ·exact qT rfl g9 (rn 1 rfl (ls_ret ((by cases h; cases hr1; exact ⟨.inl rfl, rfl⟩))))
  ·exact qF rfl g9 (ls_skip (hK4 _ (rg (sp 3 rfl (evn (hN _ _ h (okr rfl)))))))
 ·exact qF rfl g3 (ls_exit (kXB1 (Option.some.inj h) _ (okr rfl)))
def spec_ShortestLength_J3 (rec : (Int × Int) → Option (Int)) (y2 : Int) (x8 : Int) : Option (Int) := rec (x8, (IntKind.i64.wrap (y2 + 1)))
def spec_ShortestLength_J2 (rec : (Int × Int) → Option (Int)) (a0 : List (List Int)) (y1 : Int) (y2 : Int) (x7 : Bool) : Option (Int) := cond x7 (obind (geti a0 y2) fun e10 => spec_ShortestLength_J3 rec y2 (List.length e10 : Int)) (spec_ShortestLength_J3 rec y2 y1)
def spec_ShortestLength_B1 (a0 : List (List Int)) (rec : (Int × Int) → Option (Int)) (s : Int × Int) : Option (Int) := match s with
  | (y1, y2) => cond (decide (y2 < (List.length a0 : Int))) (cond (y2 == 0) (spec_ShortestLength_J2 rec a0 y1 y2 true) (obind (geti a0 y2) fun e13 => spec_ShortestLength_J2 rec a0 y1 y2 (decide ((List.length e13 : Int) < y1)))) (some y1)
def spec_ShortestLength (a0 : List (List Int)) : Option (Int) := obind (loopF (spec_ShortestLength_B1 a0) fz (0, 0)) fun z2 => some z2
theorem spec_ShortestLength_s {a0 : List (List Int)} {r : Int} (h : spec_ShortestLength a0 = some r) : SoundAt Tryz.prog 260 [dL c28_d a0] (nI r) := by
 unfold spec_ShortestLength at h
 refine st lit260 rfl (rn 2 rfl (ls_seq_k fun K1 hK1 => rn 1 rfl ?_))
 obtain ⟨o1, hl, hr1⟩ := ob_some h
 have kXB1 : ∀ {z2 : Int}, z2 = o1 → Jn K1 [(3, nI z2)] := by
  intro z2 h σ' hk
  subst h
  replace h := hr1
  try dsimp only at h
  exact hK1 _ (lh hk rfl (rn 1 rfl (ls_ret ((by cases h; exact ⟨.inl rfl, rfl⟩)))))
 refine ls_rec (fun (s : Int × Int) => match s with | (y1, y2) => [(0, dL c28_d a0), (3, nI y1), (4, nI y2)]) _ _ _ _ hl (okr rfl) (fun _ => rfl) ?_
 rintro m ⟨y1, y2⟩ N h hN
 unfold spec_ShortestLength_B1 at h
 dsimp only at h
 refine ls_seq_k fun K3 hK3 => rn 1 rfl ?_
 rcases cond_some h with ⟨g4, h⟩ | ⟨g4, h⟩
 ·refine qT rfl g4 (ls_skip (hK3 _ (ls_seq_k fun K5 hK5 => ls_blk (rk fun K6 hK6 => ?_))))
  have kJ2 : ∀ {x7 : Bool}, spec_ShortestLength_J2 (loopF (spec_ShortestLength_B1 a0) m) a0 y1 y2 x7 = some o1 → Jn K6 [(0, dL c28_d a0), (3, nI y1), (4, nI y2), (21, .bool x7)] := by
   intro x7 h σ' hk
   unfold spec_ShortestLength_J2 at h
   refine hK6 _ (lh hk rfl ?_)
   have kJ3 : ∀ {x8 : Int}, spec_ShortestLength_J3 (loopF (spec_ShortestLength_B1 a0) m) y2 x8 = some o1 → Jn K5 [(0, dL c28_d a0), (3, nI x8), (4, nI y2)] := by
    intro x8 h σ' hk
    unfold spec_ShortestLength_J3 at h
    exact hK5 _ (lh hk rfl (rg (sp 3 rfl (evn (hN _ _ h (okr rfl))))))
   rcases cond_some h with ⟨g9, h⟩ | ⟨g9, h⟩
   ·refine qT rfl g9 (rg (sp 2 rfl (?_)))
    obtain ⟨e10, g11, h⟩ := ob_some h
    exact qI rfl zc28_d g11 (sp 3 rfl (evn (kJ3 h _ (okr rfl))))
   ·exact qF rfl g9 (ls_skip (kJ3 h _ (okr rfl)))
  refine sp 3 rfl (?_)
  rcases cond_some h with ⟨g12, h⟩ | ⟨g12, h⟩
  ·exact qg 13 g12 rfl (sp 8 rfl (evn (kJ2 h _ (okr rfl))))
  ·refine qg 13 g12 rfl (sp 2 rfl (?_))
   obtain ⟨e13, g14, h⟩ := ob_some h
   exact oGR rfl rfl (qI rfl zc28_d g14 (sp 5 rfl (evn (kJ2 h _ (okr rfl)))))
 ·exact qF rfl g4 (ls_exit (kXB1 (Option.some.inj h) _ (okr rfl)))
def spec_l18Order_B2 (a0 : List (List Int)) (y2 : List Int) (y3 : Int) (rec : Int → Option (Int)) (y5 : Int) : Option (Int) := cond (decide (0 < y5)) (obind (geti y2 (IntKind.i64.wrap (y5 - 1))) fun e10 => obind (geti a0 e10) fun e12 => obind (geti e12 0) fun e14 => obind (geti a0 y3) fun e16 => obind (geti e16 0) fun e18 => cond (decide (e18 < e14)) (rec (IntKind.i64.wrap (y5 - 1))) (some y5)) (some y5)
def spec_l18Order_B1 (a0 : List (List Int)) (rec : ((List Int) × Int) → Option ((List Int))) (s : (List Int) × Int) : Option ((List Int)) := match s with
  | (y2, y3) => cond (decide (y3 < (List.length a0 : Int))) (obind (loopF (spec_l18Order_B2 a0 y2 y3) fz (List.length y2 : Int)) fun z7 => chk ((0 : Int) ≤ 0 ∧ 0 ≤ z7 ∧ z7 ≤ (List.length y2 : Int)) (chk (List.length ([] : List Int) + List.length (subl y2 0 z7) ≤ lim) (chk (List.length (([] : List Int) ++ (subl y2 0 z7)) + List.length [y3] ≤ lim) (chk ((0 : Int) ≤ z7 ∧ z7 ≤ (List.length y2 : Int) ∧ (List.length y2 : Int) ≤ (List.length y2 : Int)) (chk (List.length ((([] : List Int) ++ (subl y2 0 z7)) ++ [y3]) + List.length (subl y2 z7 (List.length y2 : Int)) ≤ lim) (rec ((((([] : List Int) ++ (subl y2 0 z7)) ++ [y3]) ++ (subl y2 z7 (List.length y2 : Int))), (IntKind.i64.wrap (y3 + 1))))))))) (some y2)
def spec_l18Order (a0 : List (List Int)) : Option ((List Int)) := obind (loopF (spec_l18Order_B1 a0) fz (([] : List Int), 0)) fun z2 => some z2
theorem spec_l18Order_s {a0 : List (List Int)} {r : (List Int)} (h : spec_l18Order a0 = some r) : SoundAt Tryz.prog 261 [dL c28_d a0] (oL 3 ci64 r) := by
 unfold spec_l18Order at h
 refine st lit261 rfl (rn 1 rfl (rs (qBs ci64 [] rfl rfl rfl zci64 (sp 1 rfl (evn (ls_seq_k fun K1 hK1 => rn 1 rfl ?_))))))
 obtain ⟨o1, hl, hr1⟩ := ob_some h
 have kXB1 : ∀ {z2 : List Int}, z2 = o1 → Jn K1 [(3, oL 3 ci64 z2)] := by
  intro z2 h σ' hk
  subst h
  replace h := hr1
  try dsimp only at h
  exact hK1 _ (lh hk rfl (rn 1 rfl (ls_ret ((by cases h; exact ⟨.inl rfl, rfl⟩)))))
 refine ls_rec (fun (s : (List Int) × Int) => match s with | (y2, y3) => [(0, dL c28_d a0), (3, oL 3 ci64 y2), (4, nI y3)]) _ _ _ _ hl (okr rfl) (fun _ => rfl) ?_
 rintro m ⟨y2, y3⟩ N h hN
 unfold spec_l18Order_B1 at h
 dsimp only at h
 refine ls_seq_k fun K3 hK3 => rn 1 rfl ?_
 rcases cond_some h with ⟨g4, h⟩ | ⟨g4, h⟩
 ·refine qT rfl g4 (ls_skip (hK3 _ (ls_seq_k fun K5 hK5 => ls_blk (rn 1 rfl (ls_seq_k fun K6 hK6 => ?_)))))
  obtain ⟨o2, hl, hr2⟩ := ob_some h
  have kXB2 : ∀ {z7 : Int}, z7 = o2 → Jn K6 [(0, dL c28_d a0), (3, oL 3 ci64 y2), (4, nI y3), (5, nI z7)] := by
   intro z7 h σ' hk
   subst h
   replace h := hr2
   try dsimp only at h
   refine hK6 _ (lh hk rfl (rgd (by kernel_rfl) (ed rfl (qBs ci64 [] rfl rfl rfl zci64 (sd 2 rfl (?_))))))
   obtain ⟨g21, h⟩ := chk_some h
   refine ed rfl (qSl rfl zci64 g21 (?_))
   obtain ⟨g22, h⟩ := chk_some h
   refine ed rfl (qA ci64 ([] : List Int) (subl y2 0 z7) rfl rfl (flat_len zci64 (subl y2 0 z7)) (map_dg (fun _ => rfl) _) g22 (sd 1 rfl (ed rfl (qBs ci64 [y3] rfl rfl rfl zci64 (?_)))))
   obtain ⟨g23, h⟩ := chk_some h
   refine ed rfl (qA ci64 (([] : List Int) ++ (subl y2 0 z7)) [y3] rfl rfl (flat_len zci64 [y3]) rfl g23 (sd 2 rfl (?_)))
   obtain ⟨g24, h⟩ := chk_some h
   refine ed rfl (qSl rfl zci64 g24 (?_))
   obtain ⟨g25, h⟩ := chk_some h
   exact ed rfl (qA ci64 ((([] : List Int) ++ (subl y2 0 z7)) ++ [y3]) (subl y2 z7 (List.length y2 : Int)) rfl rfl (flat_len zci64 (subl y2 z7 (List.length y2 : Int))) (map_dg (fun _ => rfl) _) g25 (sd 1 rfl (evdn (hK5 _ (rg (sp 3 rfl (evn (hN _ _ h (okr rfl)))))))))
  refine ls_rec (fun (y5 : Int) => [(0, dL c28_d a0), (3, oL 3 ci64 y2), (4, nI y3), (5, nI y5)]) _ _ _ _ hl (okr rfl) (fun _ => rfl) ?_
  rintro m y5 N h hN
  unfold spec_l18Order_B2 at h
  refine ls_seq_k fun K8 hK8 => rd (by kernel_rfl) (sd 3 rfl (?_))
  rcases cond_some h with ⟨g9, h⟩ | ⟨g9, h⟩
  ·refine qgd 17 g9 rfl (sd 4 rfl (?_))
   obtain ⟨e10, g11, h⟩ := ob_some h
   refine ed rfl (oGR rfl rfl (qI rfl zci64 g11 (sd 1 rfl (?_))))
   obtain ⟨e12, g13, h⟩ := ob_some h
   refine ed rfl (oGR rfl rfl (qI rfl zc28_d g13 (sd 1 rfl (?_))))
   obtain ⟨e14, g15, h⟩ := ob_some h
   refine ed rfl (oGR rfl rfl (qI rfl zci64 g15 (sd 3 rfl (?_))))
   obtain ⟨e16, g17, h⟩ := ob_some h
   refine ed rfl (oGR rfl rfl (qI rfl zc28_d g17 (sd 1 rfl (?_))))
   obtain ⟨e18, g19, h⟩ := ob_some h
   refine ed rfl (oGR rfl rfl (qI rfl zci64 g19 (sd 3 rfl (evdn ?_))))
   rcases cond_some h with ⟨g20, h⟩ | ⟨g20, h⟩
   ·exact qT rfl g20 (ls_skip (hK8 _ (ls_blk (rg (sp 3 rfl (evn (hN _ _ h (okr rfl))))))))
   ·exact qF rfl g20 (ls_exit (kXB2 (Option.some.inj h) _ (okr rfl)))
  ·exact qgd 17 g9 rfl (sd 18 rfl (evdn (qk [0, 3, 4, 5, 35] rfl (qF rfl rfl (ls_exit (kXB2 (Option.some.inj h) _ (okr rfl)))))))
 ·exact qF rfl g4 (ls_exit (kXB1 (Option.some.inj h) _ (okr rfl)))
def spec_SeekIndex_B1 (a0 : List Int) (a2 : Int) (rec : Int → Option (Int)) (y1 : Int) : Option (Int) := cond (decide (y1 < (List.length a0 : Int))) (obind (geti a0 y1) fun e5 => cond (decide (e5 < a2)) (rec (IntKind.i64.wrap (y1 + 1))) (some y1)) (some y1)
def spec_SeekIndex (a0 : List Int) (a1 : Int) (a2 : Int) : Option (Int) := obind (loopF (spec_SeekIndex_B1 a0 a2) fz (if 0 < a1 then a1 else 0)) fun z2 => some (if (if (List.length a0 : Int) < 0 then 0 else (List.length a0 : Int)) < z2 then (if (List.length a0 : Int) < 0 then 0 else (List.length a0 : Int)) else z2)
theorem spec_SeekIndex_s {a0 : List Int} {a1 : Int} {a2 : Int} {r : Int} (h : spec_SeekIndex a0 a1 a2 = some r) : SoundAt Tryz.prog 262 [dL ci64 a0, nI a1, nI a2] (nI r) := by
 unfold spec_SeekIndex at h
 refine st lit262 rfl (rn 2 rfl (ls_seq_k fun K1 hK1 => ?_))
 obtain ⟨o1, hl, hr1⟩ := ob_some h
 have kXB1 : ∀ {z2 : Int}, z2 = o1 → Jn K1 [(0, dL ci64 a0), (7, nI z2)] := by
  intro z2 h σ' hk
  subst h
  replace h := hr1
  try dsimp only at h
  exact hK1 _ (lh hk rfl (rn 1 rfl (ls_ret ((by cases h; exact ⟨.inl rfl, rfl⟩)))))
 refine ls_rec (fun (y1 : Int) => [(0, dL ci64 a0), (2, nI a2), (7, nI y1)]) _ _ _ _ hl (okr rfl) (fun _ => rfl) ?_
 rintro m y1 N h hN
 unfold spec_SeekIndex_B1 at h
 refine ls_seq_k fun K3 hK3 => rs (sp 5 rfl (?_))
 rcases cond_some h with ⟨g4, h⟩ | ⟨g4, h⟩
 ·refine qg 14 g4 rfl (sp 2 rfl (?_))
  obtain ⟨e5, g6, h⟩ := ob_some h
  refine oGR rfl rfl (qI rfl zci64 g6 (sp 4 rfl (evn ?_)))
  rcases cond_some h with ⟨g7, h⟩ | ⟨g7, h⟩
  ·exact qT rfl g7 (ls_skip (hK3 _ (ls_blk (rg (sp 3 rfl (evn (hN _ _ h (okr rfl))))))))
  ·exact qF rfl g7 (ls_exit (kXB1 (Option.some.inj h) _ (okr rfl)))
 ·exact qg 14 g4 rfl (sp 7 rfl (evn (qF rfl rfl (ls_exit (kXB1 (Option.some.inj h) _ (okr rfl))))))
def spec_LeapfrogIntersect_J2 (rec : ((List Int) × (List Int) × Int × Int × Int) → Option (Sum (Unit) ((List Int) × Int))) (a0 : List (List Int)) (v8 : (List Int)) (y3 : Int) (y5 : Int) (e17 : Int) (x26 : List Int) (x27 : List Int) : Option (Sum (Unit) ((List Int) × Int)) := obind (geti x27 e17) fun e29 => obind (geti a0 e17) fun e31 => cond (e29 == (List.length e31 : Int)) (some (.inr (x26, IntKind.i64.wrap (y5 + 1)))) (obind (geti a0 e17) fun e34 => obind (geti x27 e17) fun e36 => obind (geti e34 e36) fun e38 => chk ((List.length v8 : Int) ≠ 0) (rec (x26, x27, (Int.tmod (IntKind.i64.wrap (y3 + 1)) (List.length v8 : Int)), e38, (IntKind.i64.wrap (y5 + 1)))))
def spec_LeapfrogIntersect_B1 (a0 : List (List Int)) (v8 : (List Int)) (rec : ((List Int) × (List Int) × Int × Int × Int) → Option (Sum (Unit) ((List Int) × Int))) (s : (List Int) × (List Int) × Int × Int × Int) : Option (Sum (Unit) ((List Int) × Int)) := match s with
  | (y1, y2, y3, y4, y5) => obind (geti v8 y3) fun e17 => obind (geti a0 e17) fun e19 => obind (geti y2 e17) fun e21 => obind (geti e19 e21) fun e23 => cond (e23 == y4) (chk (List.length y1 + List.length [e23] ≤ lim) (obind (geti y2 e17) fun e43 => obind (geti y2 e17) fun e45 => spec_LeapfrogIntersect_J2 rec a0 v8 y3 y5 e17 (y1 ++ [e23]) (seti y2 e17 (IntKind.i64.wrap (e43 + 1))))) (obind (geti a0 e17) fun e47 => obind (geti y2 e17) fun e49 => obind (spec_SeekIndex e47 e49 y4) fun v51 => obind (geti y2 e17) fun e53 => spec_LeapfrogIntersect_J2 rec a0 v8 y3 y5 e17 y1 (seti y2 e17 v51))
def spec_LeapfrogIntersect (a0 : List (List Int)) : Option ((List Int) × Int) := obind (spec_l18All a0) fun v2 => cond (!v2) (some (([] : List Int), 0)) (obind (spec_ShortestLength a0) fun v5 => cond (v5 == 0) (some (([] : List Int), 0)) (obind (spec_l18Order a0) fun v8 => chk ((0 : Int) ≤ (List.length a0 : Int) ∧ Int.toNat (List.length a0 : Int) ≤ lim) (obind (geti v8 (IntKind.i64.wrap ((List.length v8 : Int) - 1))) fun e11 => obind (geti a0 e11) fun e13 => obind (geti e13 0) fun e15 => obind (loopF (spec_LeapfrogIntersect_B1 a0 v8) fz (([] : List Int), (List.replicate (Int.toNat (List.length a0 : Int)) (0 : Int)), 0, e15, 0)) fun o1 => (match o1 with
  | .inl _ => (none)
  | .inr r => some r))))
theorem spec_LeapfrogIntersect_s {a0 : List (List Int)} {r : (List Int) × Int} (h : spec_LeapfrogIntersect a0 = some r) : SoundAt Tryz.prog 258 [dL c28_d a0] (.tup [oL 3 ci64 r.1, nI r.2]) := by
 unfold spec_LeapfrogIntersect at h
 refine st lit258 rfl (rn 1 rfl (rs (qBs ci64 [] rfl rfl rfl zci64 (sp 1 rfl (evn (ls_seq_k fun K1 hK1 => rs (sp 1 rfl (?_))))))))
 obtain ⟨v2, g3, h⟩ := ob_some h
 refine qC (qa rfl (erD ec28_d _) eran) (spec_l18All_s g3) (sp 2 rfl (?_))
 rcases cond_some h with ⟨g4, h⟩ | ⟨g4, h⟩
 ·exact qg 16 g4 rfl (sp 4 rfl (evn (qT rfl rfl (rn 1 rfl (ls_ret ((by cases h; exact ⟨.inl rfl, rfl⟩)))))))
 ·refine qg 16 g4 rfl (sp 1 rfl (?_))
  obtain ⟨v5, g6, h⟩ := ob_some h
  refine oGR rfl rfl (qC (qa rfl (erD ec28_d _) eran) (spec_ShortestLength_s g6) (sp 2 rfl (evn ?_)))
  rcases cond_some h with ⟨g7, h⟩ | ⟨g7, h⟩
  ·exact qT rfl g7 (rn 1 rfl (ls_ret ((by cases h; exact ⟨.inl rfl, rfl⟩))))
  ·refine qF rfl g7 (ls_skip (hK1 _ (qk [0, 4] rfl (rs (sp 1 rfl (?_))))))
   obtain ⟨v8, g9, h⟩ := ob_some h
   refine qC (qa rfl (erD ec28_d _) eran) (spec_l18Order_s g9) (sp 1 rfl (evn (rs (sp 2 rfl (?_)))))
   obtain ⟨g10, h⟩ := chk_some h
   refine qMu ci64 (0 : Int) rfl rfl rfl rfl g10 rfl (qAu rfl rfl rfl rfl (evn (rn 1 rfl (rs (sp 5 rfl (?_))))))
   obtain ⟨e11, g12, h⟩ := ob_some h
   refine qI rfl zci64 g12 (sp 1 rfl (?_))
   obtain ⟨e13, g14, h⟩ := ob_some h
   refine qI rfl zc28_d g14 (sp 1 rfl (?_))
   obtain ⟨e15, g16, h⟩ := ob_some h
   refine qI rfl zci64 g16 (sp 2 rfl (evn (rn 1 rfl ?_)))
   obtain ⟨o1, hl, hr1⟩ := ob_some h
   refine ls_rec (fun (s : (List Int) × (List Int) × Int × Int × Int) => match s with | (y1, y2, y3, y4, y5) => [(0, dL c28_d a0), (4, oL 3 ci64 y1), (5, oL 3 ci64 v8), (6, wL 3 ci64 y2), (7, nI y3), (8, nI y4), (9, nI y5)]) _ _ _ _ hl (okr rfl) (fun _ => rfl) ?_
   rintro m ⟨y1, y2, y3, y4, y5⟩ N h hN
   unfold spec_LeapfrogIntersect_B1 at h
   dsimp only at h
   refine ls_blk (rs (sp 2 rfl (?_)))
   obtain ⟨e17, g18, h⟩ := ob_some h
   refine qI rfl zci64 g18 (sp 2 rfl (evn (rd (by kernel_rfl) (sd 2 rfl (?_)))))
   obtain ⟨e19, g20, h⟩ := ob_some h
   refine ed rfl (qI rfl zc28_d g20 (sd 3 rfl (?_)))
   obtain ⟨e21, g22, h⟩ := ob_some h
   refine ed rfl (qIu rfl ⟨(geti_some g22).1, (geti_some g22).2.1⟩ (ed rfl (qLu 0 rfl rfl rfl zci64 g22 rfl rfl rfl (?_))))
   obtain ⟨e23, g24, h⟩ := ob_some h
   refine ed rfl (qI rfl zci64 g24 (sd 2 rfl (evdn (rn 1 rfl (ls_seq_k fun K25 hK25 => rn 1 rfl ?_)))))
   have kJ2 : ∀ {x26 : List Int} {x27 : List Int}, spec_LeapfrogIntersect_J2 (loopF (spec_LeapfrogIntersect_B1 a0 v8) m) a0 v8 y3 y5 e17 x26 x27 = some o1 → Jn K25 [(0, dL c28_d a0), (4, oL 3 ci64 x26), (5, oL 3 ci64 v8), (6, wL 3 ci64 x27), (7, nI y3), (9, nI (IntKind.i64.wrap (y5 + 1))), (10, nI e17)] := by
    intro x26 x27 h σ' hk
    unfold spec_LeapfrogIntersect_J2 at h
    refine hK25 _ (lh hk rfl (ls_seq_k fun K28 hK28 => rd (by kernel_rfl) (sd 2 rfl (?_))))
    obtain ⟨e29, g30, h⟩ := ob_some h
    refine ed rfl (qIu rfl ⟨(geti_some g30).1, (geti_some g30).2.1⟩ (ed rfl (qLu 0 rfl rfl rfl zci64 g30 rfl rfl rfl (sd 2 rfl (?_)))))
    obtain ⟨e31, g32, h⟩ := ob_some h
    refine ed rfl (qI rfl zc28_d g32 (sd 3 rfl (evdn ?_)))
    rcases cond_some h with ⟨g33, h⟩ | ⟨g33, h⟩
    ·exact qT rfl g33 (rn 1 rfl (ls_ret ((by cases h; cases hr1; exact ⟨.inl rfl, rfl⟩))))
    ·refine qF rfl g33 (ls_skip (hK28 _ (rd (by kernel_rfl) (sd 2 rfl (?_)))))
     obtain ⟨e34, g35, h⟩ := ob_some h
     refine ed rfl (qI rfl zc28_d g35 (sd 3 rfl (?_)))
     obtain ⟨e36, g37, h⟩ := ob_some h
     refine ed rfl (qIu rfl ⟨(geti_some g37).1, (geti_some g37).2.1⟩ (ed rfl (qLu 0 rfl rfl rfl zci64 g37 rfl rfl rfl (?_))))
     obtain ⟨e38, g39, h⟩ := ob_some h
     refine ed rfl (qI rfl zci64 g39 (sd 2 rfl (evdn (rg (sp 4 rfl (?_))))))
     obtain ⟨g40, h⟩ := chk_some h
     exact qB rfl ⟨rfl, g40⟩ rfl (sp 1 rfl (evn (hN _ _ h (okr rfl))))
   rcases cond_some h with ⟨g41, h⟩ | ⟨g41, h⟩
   ·refine qT rfl g41 (rs (sp 2 rfl (qBs ci64 [e23] rfl rfl rfl zci64 (?_))))
    obtain ⟨g42, h⟩ := chk_some h
    refine qA ci64 y1 [e23] rfl rfl (flat_len zci64 [e23]) rfl g42 (sp 1 rfl (evn (qk [0, 4, 5, 6, 7, 9, 10] rfl (rg (sp 4 rfl (?_))))))
    obtain ⟨e43, g44, h⟩ := ob_some h
    refine qIu rfl ⟨(geti_some g44).1, (geti_some g44).2.1⟩ (qLu 0 rfl rfl rfl zci64 g44 rfl rfl rfl (sp 1 rfl (?_)))
    obtain ⟨e45, g46, h⟩ := ob_some h
    exact qIu rfl ⟨(geti_some g46).1, (geti_some g46).2.1⟩ (qSu (IntKind.i64.wrap (e43 + 1)) rfl rfl zci64 ⟨(geti_some g46).1, (geti_some g46).2.1⟩ rfl rfl rfl rfl rfl rfl (evn (kJ2 h _ (okr rfl))))
   ·refine qF rfl g41 (rgd (by kernel_rfl) (sd 4 rfl (?_)))
    obtain ⟨e47, g48, h⟩ := ob_some h
    refine ed rfl (qI rfl zc28_d g48 (sd 3 rfl (?_)))
    obtain ⟨e49, g50, h⟩ := ob_some h
    refine ed rfl (qIu rfl ⟨(geti_some g50).1, (geti_some g50).2.1⟩ (ed rfl (qLu 0 rfl rfl rfl zci64 g50 rfl rfl rfl (sd 1 rfl (?_)))))
    obtain ⟨v51, g52, h⟩ := ob_some h
    refine ed rfl (qC (qa rfl (erD eci64 _) (qs rfl (qs rfl eran))) (spec_SeekIndex_s g52) (?_))
    obtain ⟨e53, g54, h⟩ := ob_some h
    exact ed rfl (qIu rfl ⟨(geti_some g54).1, (geti_some g54).2.1⟩ (ed rfl (qSu v51 rfl rfl zci64 ⟨(geti_some g54).1, (geti_some g54).2.1⟩ rfl rfl rfl rfl rfl rfl (evdn (kJ2 h _ (okr rfl))))))
def spec_l20Keys_B1 (a0 : List Y37) (a1 : Y29) (a2 : List Int) (a3 : List Int) (v3 : (List Int)) (rec : ((List (List Int)) × Int) → Option ((List (List Int)))) (s : (List (List Int)) × Int) : Option ((List (List Int))) := match s with
  | (y1, y2) => cond (decide (y2 < (List.length v3 : Int))) (obind (geti v3 y2) fun e10 => obind (geti a0 e10) fun e12 => obind (geti v3 y2) fun e14 => obind (geti a1.2.1 e14) fun e16 => obind (spec_l20Prefix e16 a2 a3) fun v18 => obind (spec_TrieChildren e12 v18) fun v20 => chk (List.length y1 + List.length [v20] ≤ lim) (rec ((y1 ++ [v20]), (IntKind.i64.wrap (y2 + 1))))) (some y1)
def spec_l20Keys (a0 : List Y37) (a1 : Y29) (a2 : List Int) (a3 : List Int) : Option ((List Int) × Int) := obind (geti a2 (List.length a3 : Int)) fun e1 => obind (spec_AtomsWithVariable a1 e1) fun v3 => obind (loopF (spec_l20Keys_B1 a0 a1 a2 a3 v3) fz (([] : List (List Int)), 0)) fun z6 => obind (spec_LeapfrogIntersect z6) fun v23 => some (v23.1, v23.2)
theorem spec_l20Keys_s {a0 : List Y37} {a1 : Y29} {a2 : List Int} {a3 : List Int} {r : (List Int) × Int} (h : spec_l20Keys a0 a1 a2 a3 = some r) : SoundAt Tryz.prog 256 [dL c97_dd a0, .agg (c30_ddd a1), dL ci64 a2, dL ci64 a3] (.tup [oL 3 ci64 r.1, nI r.2]) := by
 unfold spec_l20Keys at h
 refine st lit256 rfl (rn 1 rfl (rd (by kernel_rfl) (sd 4 rfl (?_))))
 obtain ⟨e1, g2, h⟩ := ob_some h
 refine ed rfl (qI rfl zci64 g2 (sd 1 rfl (?_)))
 obtain ⟨v3, g4, h⟩ := ob_some h
 refine ed rfl (qC (qa rfl (erg (erc rfl (erc (erD ec96_d _) (erc (erD eci64 _) rfl)))) (qs rfl eran)) (spec_AtomsWithVariable_s g4) (sd 1 rfl (evdn (rs (qBs c28_o [] rfl rfl rfl zc28_o (sp 1 rfl (evn (ls_seq_k fun K5 hK5 => rn 1 rfl ?_))))))))
 obtain ⟨o1, hl, hr1⟩ := ob_some h
 have kXB1 : ∀ {z6 : List (List Int)}, z6 = o1 → Jn K5 [(11, oL 28 c28_o z6)] := by
  intro z6 h σ' hk
  subst h
  replace h := hr1
  try dsimp only at h
  refine hK5 _ (lh hk rfl (rs (sp 1 rfl (?_))))
  obtain ⟨v23, g24, h⟩ := ob_some h
  exact qC (qa rfl (erD ec28_o _) eran) (spec_LeapfrogIntersect_s g24) (sp 5 rfl (evn (rn 1 rfl (ls_ret ((by cases h; exact ⟨.inl rfl, rfl⟩))))))
 refine ls_rec (fun (s : (List (List Int)) × Int) => match s with | (y1, y2) => [(0, dL c97_dd a0), (2, dL ci64 a2), (3, dL ci64 a3), (5, .box [nI a1.1, dL c96_d a1.2.1, dL ci64 a1.2.2]), (10, oL 3 ci64 v3), (11, oL 28 c28_o y1), (12, nI y2)]) _ _ _ _ hl (okr rfl) (fun _ => rfl) ?_
 rintro m ⟨y1, y2⟩ N h hN
 unfold spec_l20Keys_B1 at h
 dsimp only at h
 refine ls_seq_k fun K7 hK7 => rn 1 rfl ?_
 rcases cond_some h with ⟨g8, h⟩ | ⟨g8, h⟩
 ·refine qT rfl g8 (ls_skip (hK7 _ (ls_seq_k fun K9 hK9 => ls_blk (rgd (by kernel_rfl) (sd 4 rfl (?_))))))
  obtain ⟨e10, g11, h⟩ := ob_some h
  refine ed rfl (qI rfl zci64 g11 (sd 1 rfl (?_)))
  obtain ⟨e12, g13, h⟩ := ob_some h
  refine ed rfl (qI rfl zc97_dd g13 (sd 5 rfl (?_)))
  obtain ⟨e14, g15, h⟩ := ob_some h
  refine ed rfl (qI rfl zci64 g15 (sd 1 rfl (?_)))
  obtain ⟨e16, g17, h⟩ := ob_some h
  refine ed rfl (qI rfl zc96_d g17 (sd 3 rfl (?_)))
  obtain ⟨v18, g19, h⟩ := ob_some h
  refine ed rfl (qC (qa rfl (erg (erc rfl (erc (erD eci64 _) rfl))) (qa rfl (erD eci64 _) (qa rfl (erD eci64 _) eran))) (spec_l20Prefix_s g19) (?_))
  obtain ⟨v20, g21, h⟩ := ob_some h
  refine ed rfl (qC (qa rfl (erg (erc rfl (erc (erD ec28_d _) rfl))) (qa rfl (erO eci64 _) eran)) (spec_TrieChildren_s g21) (ed rfl (qBs c28_o [v20] rfl rfl rfl zc28_o (?_))))
  obtain ⟨g22, h⟩ := chk_some h
  exact ed rfl (qA c28_o y1 [v20] rfl rfl (flat_len zc28_o [v20]) rfl g22 (sd 1 rfl (evdn (hK9 _ (rg (sp 3 rfl (evn (hN _ _ h (okr rfl)))))))))
 ·exact qF rfl g8 (ls_exit (kXB1 (Option.some.inj h) _ (okr rfl)))
def spec_l20Walk_B1 (a0 : List Y37) (a1 : Y29) (a2 : List Int) (a3 : List Int) (v4 : (List Int) × Int) (frec : ((List Y37) × Y29 × (List Int) × (List Int)) → Option ((List (List Int)) × Int)) (rec : ((List (List Int)) × Int × Int) → Option ((List (List Int)) × Int)) (s : (List (List Int)) × Int × Int) : Option ((List (List Int)) × Int) := match s with
  | (y1, y2, y3) => cond (decide (y3 < (List.length v4.1 : Int))) (chk (List.length ([] : List Int) + List.length a3 ≤ lim) (obind (geti v4.1 y3) fun e13 => chk (List.length (([] : List Int) ++ a3) + List.length [e13] ≤ lim) (obind (frec (a0, a1, a2, ((([] : List Int) ++ a3) ++ [e13]))) fun v16 => chk (List.length y1 + List.length v16.1 ≤ lim) (rec ((y1 ++ v16.1), (IntKind.i64.wrap (y2 + v16.2)), (IntKind.i64.wrap (y3 + 1))))))) (some (y1, y2))
def spec_l20Walk_R (rec : ((List Y37) × Y29 × (List Int) × (List Int)) → Option ((List (List Int)) × Int)) (s : (List Y37) × Y29 × (List Int) × (List Int)) : Option ((List (List Int)) × Int) := match s with
  | (a0, a1, a2, a3) => cond ((List.length a3 : Int) == (List.length a2 : Int)) (chk (List.length ([] : List Int) + List.length a3 ≤ lim) (some ([([] : List Int) ++ a3], 0))) (obind (spec_l20Keys a0 a1 a2 a3) fun v4 => obind (loopF (spec_l20Walk_B1 a0 a1 a2 a3 v4 rec) fz (([] : List (List Int)), v4.2, 0)) fun o1 => (match o1 with
  | (z7, z8) => (some (z7, z8))))
def spec_l20Walk (a0 : List Y37) (a1 : Y29) (a2 : List Int) (a3 : List Int) : Option ((List (List Int)) × Int) := loopF spec_l20Walk_R fz (a0, a1, a2, a3)
theorem spec_l20Walk_s {a0 : List Y37} {a1 : Y29} {a2 : List Int} {a3 : List Int} {r : (List (List Int)) × Int} (h : spec_l20Walk a0 a1 a2 a3 = some r) : SoundAt Tryz.prog 255 [dL c97_dd a0, .agg (c30_ddd a1), dL ci64 a2, dL ci64 a3] (.tup [oL 28 c28_o r.1, nI r.2]) := by
 suffices key : ∀ mF (a0 : List Y37) (a1 : Y29) (a2 : List Int) (a3 : List Int) (r : (List (List Int)) × Int), loopF spec_l20Walk_R mF (a0, a1, a2, a3) = some r → SoundAt Tryz.prog 255 [dL c97_dd a0, .agg (c30_ddd a1), dL ci64 a2, dL ci64 a3] (.tup [oL 28 c28_o r.1, nI r.2]) from key fz a0 a1 a2 a3 r h
 intro mF
 induction mF with
 | zero => intro a0 a1 a2 a3 r h; cases h
 | succ mF ih0 =>
  intro a0 a1 a2 a3 r h
  have ih : ∀ {a0 : List Y37} {a1 : Y29} {a2 : List Int} {a3 : List Int} {r : (List (List Int)) × Int}, loopF spec_l20Walk_R mF (a0, a1, a2, a3) = some r → SoundAt Tryz.prog 255 [dL c97_dd a0, .agg (c30_ddd a1), dL ci64 a2, dL ci64 a3] (.tup [oL 28 c28_o r.1, nI r.2]) := fun h => ih0 _ _ _ _ _ h
  change spec_l20Walk_R (loopF spec_l20Walk_R mF) (a0, a1, a2, a3) = some r at h
  unfold spec_l20Walk_R at h
  try dsimp only at h
  refine st lit255 rfl (rn 1 rfl (ls_seq_k fun K1 hK1 => rn 1 rfl ?_))
  rcases cond_some h with ⟨g2, h⟩ | ⟨g2, h⟩
  ·refine qT rfl g2 (rs (qBs ci64 [] rfl rfl rfl zci64 (sp 1 rfl (?_))))
   obtain ⟨g3, h⟩ := chk_some h
   exact qA ci64 ([] : List Int) a3 rfl rfl (flat_len zci64 a3) (map_dg (fun _ => rfl) _) g3 (qBs c28_o [([] : List Int) ++ a3] rfl rfl rfl zc28_o (sp 2 rfl (evn (ls_ret ((by cases h; exact ⟨.inl rfl, rfl⟩))))))
  ·refine qF rfl g2 (ls_skip (hK1 _ (rs (qBs c28_o [] rfl rfl rfl zc28_o (sp 1 rfl (evn (rs (sp 4 rfl (?_)))))))))
   obtain ⟨v4, g5, h⟩ := ob_some h
   refine qC (qa rfl (erD ec97_dd _) (qa rfl (erg (erc rfl (erc (erD ec96_d _) (erc (erD eci64 _) rfl)))) (qa rfl (erD eci64 _) (qa rfl (erD eci64 _) eran)))) (spec_l20Keys_s g5) (sp 5 rfl (evn (ls_seq_k fun K6 hK6 => rn 1 rfl (qk [0, 2, 3, 5, 10, 11, 12, 13] rfl ?_))))
   obtain ⟨o1, hl, hr1⟩ := ob_some h
   have kXB1 : ∀ {z7 : List (List Int)} {z8 : Int}, (z7, z8) = o1 → Jn K6 [(10, oL 28 c28_o z7), (12, nI z8)] := by
    intro z7 z8 h σ' hk
    subst h
    replace h := hr1
    try dsimp only at h
    exact hK6 _ (lh hk rfl (rn 1 rfl (ls_ret ((by cases h; exact ⟨.inl rfl, rfl⟩)))))
   refine ls_rec (fun (s : (List (List Int)) × Int × Int) => match s with | (y1, y2, y3) => [(0, dL c97_dd a0), (2, dL ci64 a2), (3, dL ci64 a3), (5, .box [nI a1.1, dL c96_d a1.2.1, dL ci64 a1.2.2]), (10, oL 28 c28_o y1), (11, oL 3 ci64 v4.1), (12, nI y2), (13, nI y3)]) _ _ _ _ hl (okr rfl) (fun _ => rfl) ?_
   rintro m ⟨y1, y2, y3⟩ N h hN
   unfold spec_l20Walk_B1 at h
   dsimp only at h
   refine ls_seq_k fun K9 hK9 => rn 1 rfl ?_
   rcases cond_some h with ⟨g10, h⟩ | ⟨g10, h⟩
   ·refine qT rfl g10 (ls_skip (hK9 _ (ls_seq_k fun K11 hK11 => ls_blk (rd (by kernel_rfl) (sd 3 rfl (ed rfl (qBs ci64 [] rfl rfl rfl zci64 (sd 1 rfl (?_)))))))))
    obtain ⟨g12, h⟩ := chk_some h
    refine ed rfl (qA ci64 ([] : List Int) a3 rfl rfl (flat_len zci64 a3) (map_dg (fun _ => rfl) _) g12 (sd 2 rfl (?_)))
    obtain ⟨e13, g14, h⟩ := ob_some h
    refine ed rfl (qI rfl zci64 g14 (sd 1 rfl (ed rfl (qBs ci64 [e13] rfl rfl rfl zci64 (?_)))))
    obtain ⟨g15, h⟩ := chk_some h
    refine ed rfl (qA ci64 (([] : List Int) ++ a3) [e13] rfl rfl (flat_len zci64 [e13]) rfl g15 (?_))
    obtain ⟨v16, g17, h⟩ := ob_some h
    refine ed rfl (qC (qa rfl (erD ec97_dd _) (qa rfl (erg (erc rfl (erc (erD ec96_d _) (erc (erD eci64 _) rfl)))) (qa rfl (erD eci64 _) (qa rfl (erO eci64 _) eran)))) (ih g17) (sd 5 rfl (evdn (rs (sp 2 rfl (?_))))))
    obtain ⟨g18, h⟩ := chk_some h
    exact qA c28_o y1 v16.1 rfl rfl (flat_len zc28_o v16.1) rfl g18 (sp 1 rfl (evn (rg (sp 4 rfl (evn (hK11 _ (qk [0, 2, 3, 5, 10, 11, 12, 13] rfl (rg (sp 3 rfl (evn (hN _ _ h (okr rfl))))))))))))
   ·exact qF rfl g10 (ls_exit (kXB1 (Option.some.inj h) _ (okr rfl)))
def spec_LeapfrogJoin (a0 : List Y108) (a1 : Y29) (a2 : List Int) : Option (Y37 × Int × Bool) := obind (spec_BuildTries a0 a1 a2) fun v1 => cond (!v1.2) (some ((0, []), 0, false)) (obind (spec_l20Empty v1.1) fun v6 => cond v6 (some (((List.length a2 : Int), []), 0, true)) (obind (spec_l20Walk v1.1 a1 a2 ([] : List Int)) fun v9 => obind (spec_NewRelation (List.length a2 : Int) v9.1) fun v11 => cond (!v11.2) (some ((0, []), 0, false)) (some (v11.1, v9.2, true))))
theorem spec_LeapfrogJoin_s {a0 : List Y108} {a1 : Y29} {a2 : List Int} {r : Y37 × Int × Bool} (h : spec_LeapfrogJoin a0 a1 a2 = some r) : SoundAt Tryz.prog 246 [.agg [dL c109_dd a0], .agg (c30_ddd a1), dL ci64 a2] (.tup [.agg (c38_oo r.1), nI r.2.1, .bool r.2.2]) := by
 unfold spec_LeapfrogJoin at h
 refine st lit246 rfl (rn 1 rfl (rs (sp 3 rfl (?_))))
 obtain ⟨v1, g2, h⟩ := ob_some h
 refine qC (qa rfl (erg (erc (erD ec109_dd _) rfl)) (qa rfl (erg (erc rfl (erc (erD ec96_d _) (erc (erD eci64 _) rfl)))) (qa rfl (erD eci64 _) eran))) (spec_BuildTries_s g2) (sp 5 rfl (evn (ls_seq_k fun K3 hK3 => rn 1 rfl ?_)))
 rcases cond_some h with ⟨g4, h⟩ | ⟨g4, h⟩
 ·exact qT rfl g4 (rn 1 rfl (ls_ret ((by cases h; exact ⟨.inl rfl, rfl⟩))))
 ·refine qF rfl g4 (ls_skip (hK3 _ (ls_seq_k fun K5 hK5 => rs (sp 1 rfl (?_)))))
  obtain ⟨v6, g7, h⟩ := ob_some h
  refine qC (qa rfl (erD ec97_oo _) eran) (spec_l20Empty_s g7) (evn ?_)
  rcases cond_some h with ⟨g8, h⟩ | ⟨g8, h⟩
  ·exact qT rfl g8 (rn 1 rfl (qk [6, 7, 8] rfl (ls_ret ((by cases h; exact ⟨.inl rfl, rfl⟩)))))
  ·refine qF rfl g8 (ls_skip (hK5 _ (rs (sp 3 rfl (qBs ci64 [] rfl rfl rfl zci64 (?_))))))
   obtain ⟨v9, g10, h⟩ := ob_some h
   refine qC (qa rfl (erD ec97_oo _) (qa rfl (erg (erc rfl (erc (erD ec96_d _) (erc (erD eci64 _) rfl)))) (qa rfl (erD eci64 _) (qa rfl rfl eran)))) (spec_l20Walk_s g10) (sp 5 rfl (evn (rs (sp 3 rfl (?_)))))
   obtain ⟨v11, g12, h⟩ := ob_some h
   refine qC (qs rfl (qa rfl (erD ec28_o _) eran)) (spec_NewRelation_s g12) (sp 6 rfl (evn (ls_seq_k fun K13 hK13 => rn 1 rfl ?_)))
   rcases cond_some h with ⟨g14, h⟩ | ⟨g14, h⟩
   ·exact qT rfl g14 (rn 1 rfl (ls_ret ((by cases h; exact ⟨.inl rfl, rfl⟩))))
   ·exact qF rfl g14 (ls_skip (hK13 _ (rn 1 rfl (qk [6, 7, 8] rfl (ls_ret ((by cases h; exact ⟨.inl rfl, rfl⟩)))))))
def spec_NextJoinRow_B1 (a3 : List Int) (v1 : Y37 × Int × Bool) (rec : Int → Option (Sum (Unit) ((List Int) × Bool))) (y1 : Int) : Option (Sum (Unit) ((List Int) × Bool)) := cond (decide (y1 < (List.length v1.1.2 : Int))) (cond v1.2.2 (cond ((List.length a3 : Int) == 0) (obind (geti v1.1.2 y1) fun e9 => some (.inr (e9, true))) (obind (geti v1.1.2 y1) fun e11 => obind (spec_CompareRows e11 a3) fun v13 => cond (decide (0 < v13)) (obind (geti v1.1.2 y1) fun e16 => some (.inr (e16, true))) (rec (IntKind.i64.wrap (y1 + 1))))) (some (.inl ()))) (some (.inl ()))
def spec_NextJoinRow (a0 : List Y108) (a1 : Y29) (a2 : List Int) (a3 : List Int) : Option ((List Int) × Bool) := obind (spec_LeapfrogJoin a0 a1 a2) fun v1 => obind (loopF (spec_NextJoinRow_B1 a3 v1) fz 0) fun o1 => (match o1 with
  | .inl _ => (some (([] : List Int), false))
  | .inr r => some r)
theorem spec_NextJoinRow_s {a0 : List Y108} {a1 : Y29} {a2 : List Int} {a3 : List Int} {r : (List Int) × Bool} (h : spec_NextJoinRow a0 a1 a2 a3 = some r) : SoundAt Tryz.prog 216 [.agg [dL c109_dd a0], .agg (c30_ddd a1), dL ci64 a2, dL ci64 a3] (.tup [dL ci64 r.1, .bool r.2]) := by
 unfold spec_NextJoinRow at h
 refine st lit216 rfl (rn 1 rfl (rs (sp 3 rfl (?_))))
 obtain ⟨v1, g2, h⟩ := ob_some h
 refine qC (qa rfl (erg (erc (erD ec109_dd _) rfl)) (qa rfl (erg (erc rfl (erc (erD ec96_d _) (erc (erD eci64 _) rfl)))) (qa rfl (erD eci64 _) eran))) (spec_LeapfrogJoin_s g2) (sp 8 rfl (evn (ls_seq_k fun K3 hK3 => rn 1 rfl ?_)))
 obtain ⟨o1, hl, hr1⟩ := ob_some h
 have kXB1 : (.inl ()) = o1 → Jn K3 [] := by
  intro h σ' hk
  subst h
  replace h := hr1
  try dsimp only at h
  exact hK3 _ (lh hk rfl (rs (qBs ci64 [] rfl rfl rfl zci64 (sp 2 rfl (evn (ls_keep [(8, dL ci64 []), (9, .bool false)] ⟨(ke rfl (erO eci64 _)), kr, trivial⟩ rfl (ls_ret ((by cases h; exact ⟨.inl rfl, rfl⟩)))))))))
 refine ls_rec (fun (y1 : Int) => [(3, dL ci64 a3), (10, .box [nI v1.1.1, oL 28 c28_o v1.1.2]), (12, .bool v1.2.2), (13, nI y1)]) _ _ _ _ hl (okr rfl) (fun _ => rfl) ?_
 rintro m y1 N h hN
 unfold spec_NextJoinRow_B1 at h
 refine ls_seq_k fun K4 hK4 => rs (sp 6 rfl (?_))
 rcases cond_some h with ⟨g5, h⟩ | ⟨g5, h⟩
 ·refine qg 27 g5 rfl (sp 2 rfl (evn ?_))
  rcases cond_some h with ⟨g6, h⟩ | ⟨g6, h⟩
  ·refine qT rfl g6 (ls_skip (hK4 _ (ls_seq_k fun K7 hK7 => ls_blk (rs (sp 4 rfl (?_))))))
   rcases cond_some h with ⟨g8, h⟩ | ⟨g8, h⟩
   ·refine qg 35 g8 rfl (sp 9 rfl (evn (qT rfl rfl (rs (sp 3 rfl (?_))))))
    obtain ⟨e9, g10, h⟩ := ob_some h
    exact qI rfl zc28_o g10 (sp 3 rfl (evn (ls_ret ((by cases h; cases hr1; exact ⟨.inl rfl, rfl⟩)))))
   ·refine qg 35 g8 rfl (sp 3 rfl (?_))
    obtain ⟨e11, g12, h⟩ := ob_some h
    refine oGR rfl rfl (qI rfl zc28_o g12 (sp 2 rfl (?_)))
    obtain ⟨v13, g14, h⟩ := ob_some h
    refine oGR rfl rfl (qC (qa rfl (erD eci64 _) (qa rfl (erD eci64 _) eran)) (spec_CompareRows_s g14) (sp 2 rfl (evn (qk [3, 10, 12, 13, 44] rfl ?_))))
    rcases cond_some h with ⟨g15, h⟩ | ⟨g15, h⟩
    ·refine qT rfl g15 (rs (sp 3 rfl (?_)))
     obtain ⟨e16, g17, h⟩ := ob_some h
     exact qI rfl zc28_o g17 (sp 3 rfl (evn (ls_ret ((by cases h; cases hr1; exact ⟨.inl rfl, rfl⟩)))))
    ·exact qF rfl g15 (ls_skip (hK7 _ (rg (sp 3 rfl (evn (hN _ _ h (okr rfl)))))))
  ·exact qF rfl g6 (ls_exit (kXB1 (Option.some.inj h) _ trivial))
 ·exact qg 27 g5 rfl (sp 2 rfl (evn (qF rfl rfl (ls_exit (kXB1 (Option.some.inj h) _ trivial)))))
def spec_AdvanceCursor (a0 : Y59) (a1 : Y69) : Option (Y69 × (List Int) × Bool) := obind (spec_l33Cursor a1) fun v1 => obind (spec_SnapshotAt a0 a1.1) fun v3 => cond (!v3.2) (some (v1, ([] : List Int), false)) (obind (spec_NextJoinRow v3.1 a1.2.2.2 a1.2.1 a1.2.2.1) fun v7 => cond (!v7.2) (some (v1, ([] : List Int), false)) (chk (List.length ([] : List Int) + List.length v7.1 ≤ lim) (some ((v1.1, v1.2.1, ([] : List Int) ++ v7.1, v1.2.2.2), v7.1, true))))
theorem spec_AdvanceCursor_s {a0 : Y59} {a1 : Y69} {r : Y69 × (List Int) × Bool} (h : spec_AdvanceCursor a0 a1 = some r) : SoundAt Tryz.prog 160 [.agg (c60_dddd a0), .agg (c70_ddddd a1)] (.tup [.agg (c70_ooooo r.1), dL ci64 r.2.1, .bool r.2.2]) := by
 unfold spec_AdvanceCursor at h
 refine st lit160 rfl (rn 1 rfl (rs (sp 1 rfl (?_))))
 obtain ⟨v1, g2, h⟩ := ob_some h
 refine qC (qa rfl (erg (erc rfl (erc (erD eci64 _) (erc (erD eci64 _) (erc rfl (erc (erD ec96_d _) (erc (erD eci64 _) rfl))))))) eran) (spec_l33Cursor_s g2) (sp 2 rfl (evn (rs (sp 3 rfl (?_)))))
 obtain ⟨v3, g4, h⟩ := ob_some h
 refine qC (qa rfl (erg (erc rfl (erc (erD ec26_ddd _) rfl))) (qs rfl eran)) (spec_SnapshotAt_s g4) (sp 6 rfl (evn (ls_seq_k fun K5 hK5 => rn 1 rfl ?_)))
 rcases cond_some h with ⟨g6, h⟩ | ⟨g6, h⟩
 ·exact qT rfl g6 (rs (sp 1 rfl (qBs ci64 [] rfl rfl rfl zci64 (sp 3 rfl (evn (ls_keep [(4, .box [nI v1.1, oL 3 ci64 v1.2.1, oL 3 ci64 v1.2.2.1, nI v1.2.2.2.1, oL 96 c96_o v1.2.2.2.2.1, oL 3 ci64 v1.2.2.2.2.2]), (5, dL ci64 []), (6, .bool false)] ⟨kr, (ke rfl (erO eci64 _)), kr, trivial⟩ rfl (ls_ret ((by cases h; exact ⟨.inl rfl, rfl⟩)))))))))
 ·refine qF rfl g6 (ls_skip (hK5 _ (rs (sp 7 rfl (?_)))))
  obtain ⟨v7, g8, h⟩ := ob_some h
  refine qC (qa rfl (erg (erc (erD ec109_oo _) rfl)) (qa rfl (erg (erc rfl (erc (erD ec96_d _) (erc (erD eci64 _) rfl)))) (qa rfl (erD eci64 _) (qa rfl (erD eci64 _) eran)))) (spec_NextJoinRow_s g8) (sp 5 rfl (evn (ls_seq_k fun K9 hK9 => rn 1 rfl ?_)))
  rcases cond_some h with ⟨g10, h⟩ | ⟨g10, h⟩
  ·exact qT rfl g10 (rs (sp 1 rfl (qBs ci64 [] rfl rfl rfl zci64 (sp 3 rfl (evn (ls_keep [(4, .box [nI v1.1, oL 3 ci64 v1.2.1, oL 3 ci64 v1.2.2.1, nI v1.2.2.2.1, oL 96 c96_o v1.2.2.2.2.1, oL 3 ci64 v1.2.2.2.2.2]), (5, dL ci64 []), (6, .bool false)] ⟨kr, (ke rfl (erO eci64 _)), kr, trivial⟩ rfl (ls_ret ((by cases h; exact ⟨.inl rfl, rfl⟩)))))))))
  ·refine qF rfl g10 (ls_skip (hK9 _ (rs (qBs ci64 [] rfl rfl rfl zci64 (sp 1 rfl (?_))))))
   obtain ⟨g11, h⟩ := chk_some h
   exact qA ci64 ([] : List Int) v7.1 rfl rfl (flat_len zci64 v7.1) (map_dg (fun _ => rfl) _) g11 (sp 2 rfl (evn (rn 1 rfl (ls_ret ((by cases h; exact ⟨.inl rfl, rfl⟩))))))
def spec_l33Open_B1 (a1 : Y59) (rec : (Int × (List Int) × (List Int) × Int × (List Y95) × (List Int) × Int) → Option (Int × (List Int) × (List Int) × Int × (List Y95) × (List Int))) (s : Int × (List Int) × (List Int) × Int × (List Y95) × (List Int) × Int) : Option (Int × (List Int) × (List Int) × Int × (List Y95) × (List Int)) := match s with
  | (y1, y2, y3, y4, y5, y6, y7) => cond (decide (0 < y7)) (obind (spec_AdvanceCursor a1 (y1, y2, y3, (y4, y5, y6))) fun v19 => rec (v19.1.1, v19.1.2.1, v19.1.2.2.1, v19.1.2.2.2.1, v19.1.2.2.2.2.1, v19.1.2.2.2.2.2, (IntKind.i64.wrap (y7 - 1)))) (some (y1, y2, y3, y4, y5, y6))
def spec_l33Open_J2 (z11 : List Int) (z12 : List Int) (z13 : Int) (z14 : List Y95) (z15 : List Int) (x24 : List Int) (x25 : Int) (x26 : Int) (x27 : Int) : Option (Y69 × Y163) := some ((x27, z11, z12, (z13, z14, z15)), (x24, x25, x26))
def spec_l33Open (a0 : Y163) (a1 : Y59) : Option (Y69 × Y163) := obind (spec_l7Query a0) fun v1 => obind (spec_DefaultOrder v1.1) fun v3 => obind (spec_OpenCursor a1 v1.1 v3) fun v5 => obind (spec_l1Below v1.2 3) fun v8 => obind (loopF (spec_l33Open_B1 a1) fz (v5.1.1, v5.1.2.1, v5.1.2.2.1, v5.1.2.2.2.1, v5.1.2.2.2.2.1, v5.1.2.2.2.2.2, v8.1)) fun o1 => (match o1 with
  | (z10, z11, z12, z13, z14, z15) => (obind (spec_l1Once v8.2 4) fun v22 => cond v22.1 (obind (spec_l1Below v22.2 3) fun v29 => spec_l33Open_J2 z11 z12 z13 z14 z15 v29.2.1 v29.2.2.1 v29.2.2.2 (if 0 < (IntKind.i64.wrap (z10 - v29.1)) then (IntKind.i64.wrap (z10 - v29.1)) else 0)) (spec_l33Open_J2 z11 z12 z13 z14 z15 v22.2.1 v22.2.2.1 v22.2.2.2 z10)))
theorem spec_l33Open_s {a0 : Y163} {a1 : Y59} {r : Y69 × Y163} (h : spec_l33Open a0 a1 = some r) : PtrAt Tryz.prog 81 [aL cu8 a0.1, nI a0.2.1, nI a0.2.2] [.agg (c60_dddd a1)] [aL cu8 r.2.1, nI r.2.2.1, nI r.2.2.2] (.agg (c70_ooooo r.1)) := by
 unfold spec_l33Open at h
 refine stp lit81 rfl (rn 1 rfl (rs (sp 1 rfl (?_))))
 obtain ⟨v1, g2, h⟩ := ob_some h
 refine qP rfl rfl rfl rfl eran (spec_l7Query_s g2) (sp 2 rfl (evn (rd (by kernel_rfl) (sd 3 rfl (?_)))))
 obtain ⟨v3, g4, h⟩ := ob_some h
 refine ed rfl (qC (qa rfl (erg (erc rfl (erc (erD ec96_o _) (erc (erD eci64 _) rfl)))) eran) (spec_DefaultOrder_s g4) (?_))
 obtain ⟨v5, g6, h⟩ := ob_some h
 refine ed rfl (qC (qa rfl (erg (erc rfl (erc (erD ec26_ddd _) rfl))) (qa rfl (erg (erc rfl (erc (erD ec96_o _) (erc (erD eci64 _) rfl)))) (qa rfl (erO eci64 _) eran))) (spec_OpenCursor_s g6) (sd 6 rfl (evdn (ls_seq_k fun K7 hK7 => rs (sp 1 rfl (?_))))))
 obtain ⟨v8, g9, h⟩ := ob_some h
 refine qP rfl rfl rfl rfl (qs rfl eran) (spec_l1Below_s g9) (sp 1 rfl (evn ?_))
 obtain ⟨o1, hl, hr1⟩ := ob_some h
 have kXB1 : ∀ {z10 : Int} {z11 : List Int} {z12 : List Int} {z13 : Int} {z14 : List Y95} {z15 : List Int}, (z10, z11, z12, z13, z14, z15) = o1 → Jn K7 [(0, .box (c164_a v8.2)), (4, .box [nI 0, oL 3 ci64 [], oL 3 ci64 [], nI 0, oL 96 c96_o [], oL 3 ci64 []]), (6, .box [nI z10, oL 3 ci64 z11, oL 3 ci64 z12, nI z13, oL 96 c96_o z14, oL 3 ci64 z15])] := by
  intro z10 z11 z12 z13 z14 z15 h σ' hk
  subst h
  replace h := hr1
  try dsimp only at h
  refine hK7 _ (lh hk rfl (ls_seq_k fun K21 hK21 => rs (sp 1 rfl (?_))))
  obtain ⟨v22, g23, h⟩ := ob_some h
  refine qP rfl rfl rfl rfl (qs rfl eran) (spec_l1Once_s g23) (evn ?_)
  have kJ2 : ∀ {x24 : List Int} {x25 : Int} {x26 : Int} {x27 : Int}, spec_l33Open_J2 z11 z12 z13 z14 z15 x24 x25 x26 x27 = some r → Jn K21 [(0, .box [aL cu8 x24, nI x25, nI x26]), (4, .box [nI 0, oL 3 ci64 [], oL 3 ci64 [], nI 0, oL 96 c96_o [], oL 3 ci64 []]), (6, .box [nI x27, oL 3 ci64 z11, oL 3 ci64 z12, nI z13, oL 96 c96_o z14, oL 3 ci64 z15])] := by
   intro x24 x25 x26 x27 h σ' hk
   unfold spec_l33Open_J2 at h
   exact hK21 _ (lh hk rfl (rn 1 rfl (ls_ret ((by cases h; exact ⟨.inl rfl, rfl, rfl⟩)))))
  rcases cond_some h with ⟨g28, h⟩ | ⟨g28, h⟩
  ·refine qT rfl g28 (rgd (by kernel_rfl) (sd 3 rfl (?_)))
   obtain ⟨v29, g30, h⟩ := ob_some h
   exact ed rfl (qP rfl rfl rfl rfl (qs rfl eran) (spec_l1Below_s g30) (sd 4 rfl (evdn (kJ2 h _ (okr rfl)))))
  ·exact qF rfl g28 (ls_skip (kJ2 h _ (okr rfl)))
 refine ls_rec (fun (s : Int × (List Int) × (List Int) × Int × (List Y95) × (List Int) × Int) => match s with | (y1, y2, y3, y4, y5, y6, y7) => [(0, .box (c164_a v8.2)), (3, .box [nI a1.1, dL c26_ddd a1.2]), (4, .box [nI 0, oL 3 ci64 [], oL 3 ci64 [], nI 0, oL 96 c96_o [], oL 3 ci64 []]), (6, .box [nI y1, oL 3 ci64 y2, oL 3 ci64 y3, nI y4, oL 96 c96_o y5, oL 3 ci64 y6]), (8, nI y7)]) _ _ _ _ hl (okr rfl) (fun _ => rfl) ?_
 rintro m ⟨y1, y2, y3, y4, y5, y6, y7⟩ N h hN
 unfold spec_l33Open_B1 at h
 dsimp only at h
 refine ls_seq_k fun K16 hK16 => rn 1 rfl ?_
 rcases cond_some h with ⟨g17, h⟩ | ⟨g17, h⟩
 ·refine qT rfl g17 (ls_skip (hK16 _ (ls_seq_k fun K18 hK18 => ls_blk (rg (sp 2 rfl (?_))))))
  obtain ⟨v19, g20, h⟩ := ob_some h
  exact qC (qa rfl (erg (erc rfl (erc (erD ec26_ddd _) rfl))) (qa rfl (erg (erc rfl (erc (erD eci64 _) (erc (erD eci64 _) (erc rfl (erc (erD ec96_o _) (erc (erD eci64 _) rfl))))))) eran)) (spec_AdvanceCursor_s g20) (sp 5 rfl (evn (hK18 _ (rg (sp 3 rfl (evn (hN _ _ h (okr rfl))))))))
 ·exact qF rfl g17 (ls_exit (kXB1 (Option.some.inj h) _ (okr rfl)))
def spec_DrawDropUnusedSnapshots_B1 (v3 : Y59 × Y163) (rec : ((List Y69) × Int × (List Int) × Int × Int) → Option ((List Y69))) (s : (List Y69) × Int × (List Int) × Int × Int) : Option ((List Y69)) := match s with
  | (y1, y2, y3, y4, y5) => cond (decide (0 < y2)) (obind (spec_l33Open (y3, y4, y5) v3.1) fun v12 => chk (List.length y1 + List.length [v12.1] ≤ lim) (rec ((y1 ++ [v12.1]), (IntKind.i64.wrap (y2 - 1)), v12.2.1, v12.2.2.1, v12.2.2.2))) (some y1)
def spec_DrawDropUnusedSnapshots (a0 : List Int) : Option (Y59 × (List Y69)) := obind (spec_l1New a0) fun v1 => obind (spec_l33Hist v1) fun v3 => obind (spec_l1Below v3.2 3) fun v6 => obind (loopF (spec_DrawDropUnusedSnapshots_B1 v3) fz (([] : List Y69), v6.1, v6.2.1, v6.2.2.1, v6.2.2.2)) fun z8 => some (v3.1, z8)
theorem spec_DrawDropUnusedSnapshots_s {a0 : List Int} {r : Y59 × (List Y69)} (h : spec_DrawDropUnusedSnapshots a0 = some r) : SoundAt Tryz.prog 22 [aL cu8 a0] (.tup [.agg (c60_oaaa r.1), oL 70 c70_ooooo r.2]) := by
 unfold spec_DrawDropUnusedSnapshots at h
 refine st lit22 rfl (rn 1 rfl (rs (sp 1 rfl (?_))))
 obtain ⟨v1, g2, h⟩ := ob_some h
 refine qN rfl rfl rfl rfl (spec_l1New_s g2) (sp 1 rfl (evn (rs (sp 1 rfl (?_)))))
 obtain ⟨v3, g4, h⟩ := ob_some h
 refine qP rfl rfl rfl rfl eran (spec_l33Hist_s g4) (sp 2 rfl (evn (rs (qBs c70_ooooo [] rfl rfl rfl zc70_ooooo (sp 1 rfl (evn (ls_seq_k fun K5 hK5 => rs (sp 1 rfl (?_)))))))))
 obtain ⟨v6, g7, h⟩ := ob_some h
 refine qP rfl rfl rfl rfl (qs rfl eran) (spec_l1Below_s g7) (sp 1 rfl (evn ?_))
 obtain ⟨o1, hl, hr1⟩ := ob_some h
 have kXB1 : ∀ {z8 : List Y69}, z8 = o1 → Jn K5 [(2, .box [nI 0, oL 26 c26_ooo []]), (5, .box [nI v3.1.1, oL 26 c26_aaa v3.1.2]), (6, oL 70 c70_ooooo z8)] := by
  intro z8 h σ' hk
  subst h
  replace h := hr1
  try dsimp only at h
  exact hK5 _ (lh hk rfl (rn 1 rfl (ls_ret ((by cases h; exact ⟨.inl rfl, rfl⟩)))))
 refine ls_rec (fun (s : (List Y69) × Int × (List Int) × Int × Int) => match s with | (y1, y2, y3, y4, y5) => [(2, .box [nI 0, oL 26 c26_ooo []]), (4, .cref 9 0), (5, .box [nI v3.1.1, oL 26 c26_aaa v3.1.2]), (6, oL 70 c70_ooooo y1), (7, nI y2), (9, .box [aL cu8 y3, nI y4, nI y5])]) _ _ _ _ hl (okr rfl) (fun _ => rfl) ?_
 rintro m ⟨y1, y2, y3, y4, y5⟩ N h hN
 unfold spec_DrawDropUnusedSnapshots_B1 at h
 dsimp only at h
 refine ls_seq_k fun K9 hK9 => rn 1 rfl ?_
 rcases cond_some h with ⟨g10, h⟩ | ⟨g10, h⟩
 ·refine qT rfl g10 (ls_skip (hK9 _ (ls_seq_k fun K11 hK11 => ls_blk (rg (sp 3 rfl (?_))))))
  obtain ⟨v12, g13, h⟩ := ob_some h
  refine qP rfl rfl rfl rfl (qa rfl (erg (erc rfl (erc (erD ec26_aaa _) rfl))) eran) (spec_l33Open_s g13) (qBs c70_ooooo [v12.1] rfl rfl rfl zc70_ooooo (?_))
  obtain ⟨g14, h⟩ := chk_some h
  exact qA c70_ooooo y1 [v12.1] rfl rfl (flat_len zc70_ooooo [v12.1]) rfl g14 (sp 1 rfl (evn (hK11 _ (rg (sp 3 rfl (evn (hN _ _ h (okr rfl))))))))
 ·exact qF rfl g10 (ls_exit (kXB1 (Option.some.inj h) _ (okr rfl)))
end Go.Proofs.YtmjhiencoapldaaGreat
