/-
  Functions of the program as typed functions, printed by gen.py, and that the program's functions do what they say. No conditions.
-/
import Derived.Test.YtceghmdneadhbaaGreatGSbWA1
namespace Go.Proofs.YtceghmdneadhbaaGreat
open Go.RowKit
set_option linter.unusedVariables false
set_option maxRecDepth 100000
set_option maxHeartbeats 1000000
def spec_l7List_J3 (rec : ((List Int) × Int) -> Option ((List Int))) (y8 : Int) (x13 : List Int) : Option ((List Int)) := rec (x13, (IntKind.i64.wrap (y8 + 1)))
def spec_l7List_B2 (a0 : List UInt8) (y4 : Int) (rec : ((List Int) × Int) -> Option ((List Int))) (s : (List Int) × Int) : Option ((List Int)) := match s with
  | (y7, y8) => cond (decide (y8 < 5)) (obind (spec_VariableName y8) fun v10 => chk ((0 : Int) <= y4 ∧ y4 <= IntKind.i64.wrap (y4 + 1) ∧ IntKind.i64.wrap (y4 + 1) <= (List.length a0 : Int)) (cond (v10 == (subl a0 y4 (IntKind.i64.wrap (y4 + 1)))) (chk (List.length y7 + List.length [y8] <= lim) (spec_l7List_J3 rec y8 (y7 ++ [y8]))) (spec_l7List_J3 rec y8 y7))) (some y7)
def spec_l7List_B1 (a0 : List UInt8) (rec : ((List Int) × Int) -> Option ((List Int))) (s : (List Int) × Int) : Option ((List Int)) := match s with
  | (y3, y4) => cond (decide (y4 < (List.length a0 : Int))) (obind (loopF (spec_l7List_B2 a0 y4) fz (y3, 0)) fun z6 => rec (z6, (IntKind.i64.wrap (y4 + 1)))) (some y3)
def spec_l7List (a0 : List UInt8) : Option ((List Int)) := obind (loopF (spec_l7List_B1 a0) fz (([] : List Int), 0)) fun z2 => some z2
theorem spec_l7List_s {a0 : List UInt8} {r : (List Int)} (h : spec_l7List a0 = some r) : SoundAt Tryz.prog 183 [.str a0] (oL 3 ci64 r) := by
 unfold spec_l7List at h
 refine st lit183 rfl (rn 1 rfl (rs (qBs ci64 [] rfl rfl rfl zci64 (sp 1 rfl (evn (ls_seq_k fun K1 hK1 => rn 1 rfl ?_))))))
 obtain ⟨o1, hl, hr1⟩ := ob_some h
 have kXB1 : ∀ {z2 : List Int}, z2 = o1 -> Jn K1 [(3, oL 3 ci64 z2)] := by
  intro z2 h σ' hk
  subst h
  replace h := hr1
  try dsimp only at h
  exact hK1 _ (lh hk rfl (rn 1 rfl (ls_ret ((by cases h; exact ⟨.inl rfl, rfl⟩)))))
 refine ls_rec (fun (s : (List Int) × Int) => match s with | (y3, y4) => [(0, .str a0), (3, oL 3 ci64 y3), (4, nI y4)]) _ _ _ _ hl (okr rfl) (fun _ => rfl) ?_
 rintro m ⟨y3, y4⟩ N h hN
 unfold spec_l7List_B1 at h
 dsimp only at h
 refine ls_seq_k fun K3 hK3 => rn 1 rfl ?_
 rcases cond_some h with ⟨g4, h⟩ | ⟨g4, h⟩
 ·refine qT rfl g4 (ls_skip (hK3 _ (ls_seq_k fun K5 hK5 => ls_blk (rn 1 rfl ?_))))
  obtain ⟨o2, hl, hr2⟩ := ob_some h
  have kXB2 : ∀ {z6 : List Int}, z6 = o2 -> Jn K5 [(0, .str a0), (3, oL 3 ci64 z6), (4, nI y4)] := by
   intro z6 h σ' hk
   subst h
   replace h := hr2
   try dsimp only at h
   exact hK5 _ (lh hk rfl (rg (sp 3 rfl (evn (hN _ _ h (okr rfl))))))
  refine ls_rec (fun (s : (List Int) × Int) => match s with | (y7, y8) => [(0, .str a0), (3, oL 3 ci64 y7), (4, nI y4), (5, nI y8)]) _ _ _ _ hl (okr rfl) (fun _ => rfl) ?_
  rintro m ⟨y7, y8⟩ N h hN
  unfold spec_l7List_B2 at h
  dsimp only at h
  refine ls_seq_k fun K7 hK7 => rn 1 rfl ?_
  rcases cond_some h with ⟨g8, h⟩ | ⟨g8, h⟩
  ·refine qT rfl g8 (ls_skip (hK7 _ (ls_seq_k fun K9 hK9 => ls_blk (rd (by kernel_rfl) (sd 1 rfl (?_))))))
   obtain ⟨v10, g11, h⟩ := ob_some h
   refine ed rfl (qC (qs rfl eran) (spec_VariableName_s g11) (sd 4 rfl (?_)))
   obtain ⟨g12, h⟩ := chk_some h
   refine ed rfl (qSs rfl g12 (sd 1 rfl (evdn ?_)))
   have kJ3 : ∀ {x13 : List Int}, spec_l7List_J3 (loopF (spec_l7List_B2 a0 y4) m) y8 x13 = some o2 -> Jn K9 [(0, .str a0), (3, oL 3 ci64 x13), (4, nI y4), (5, nI y8)] := by
    intro x13 h σ' hk
    unfold spec_l7List_J3 at h
    exact hK9 _ (lh hk rfl (rg (sp 3 rfl (evn (hN _ _ h (okr rfl))))))
   rcases cond_some h with ⟨g14, h⟩ | ⟨g14, h⟩
   ·refine qT rfl g14 (rg (sp 2 rfl (qBs ci64 [y8] rfl rfl rfl zci64 (?_))))
    obtain ⟨g15, h⟩ := chk_some h
    exact qA ci64 y7 [y8] rfl rfl (flat_len zci64 [y8]) rfl g15 (sp 1 rfl (evn (kJ3 h _ (okr rfl))))
   ·exact qF rfl g14 (ls_skip (kJ3 h _ (okr rfl)))
  ·exact qF rfl g8 (ls_exit (kXB2 (Option.some.inj h) _ (okr rfl)))
 ·exact qF rfl g4 (ls_exit (kXB1 (Option.some.inj h) _ (okr rfl)))
def spec_l7Vars_B1 (a0 : List Int) (rec : ((List UInt8) × Int) -> Option ((List UInt8))) (s : (List UInt8) × Int) : Option ((List UInt8)) := match s with
  | (y1, y2) => cond (decide (y2 < (List.length a0 : Int))) (obind (geti a0 y2) fun e6 => obind (spec_VariableName e6) fun v8 => chk (List.length y1 + List.length v8 <= lim) (rec ((y1 ++ v8), (IntKind.i64.wrap (y2 + 1))))) (some y1)
def spec_l7Vars (a0 : List Int) : Option ((List UInt8)) := obind (loopF (spec_l7Vars_B1 a0) fz ([40], 0)) fun z2 => chk (List.length z2 + List.length [41] <= lim) (some (z2 ++ [41]))
theorem spec_l7Vars_s {a0 : List Int} {r : (List UInt8)} (h : spec_l7Vars a0 = some r) : SoundAt Tryz.prog 195 [dL ci64 a0] (.str r) := by
 unfold spec_l7Vars at h
 refine st lit195 rfl (rn 2 rfl (ls_seq_k fun K1 hK1 => rn 1 rfl ?_))
 obtain ⟨o1, hl, hr1⟩ := ob_some h
 have kXB1 : ∀ {z2 : List UInt8}, z2 = o1 -> Jn K1 [(3, .str z2)] := by
  intro z2 h σ' hk
  subst h
  replace h := hr1
  try dsimp only at h
  refine hK1 _ (lh hk rfl (rs (sp 1 rfl (?_))))
  obtain ⟨g11, h⟩ := chk_some h
  exact qB rfl g11 rfl (sp 1 rfl (evn (ls_ret ((by cases h; exact ⟨.inl rfl, rfl⟩)))))
 refine ls_rec (fun (s : (List UInt8) × Int) => match s with | (y1, y2) => [(0, dL ci64 a0), (3, .str y1), (4, nI y2)]) _ _ _ _ hl (okr rfl) (fun _ => rfl) ?_
 rintro m ⟨y1, y2⟩ N h hN
 unfold spec_l7Vars_B1 at h
 dsimp only at h
 refine ls_seq_k fun K3 hK3 => rn 1 rfl ?_
 rcases cond_some h with ⟨g4, h⟩ | ⟨g4, h⟩
 ·refine qT rfl g4 (ls_skip (hK3 _ (ls_seq_k fun K5 hK5 => ls_blk (rg (sp 3 rfl (?_))))))
  obtain ⟨e6, g7, h⟩ := ob_some h
  refine qI rfl zci64 g7 (sp 1 rfl (?_))
  obtain ⟨v8, g9, h⟩ := ob_some h
  refine qC (qs rfl eran) (spec_VariableName_s g9) (?_)
  obtain ⟨g10, h⟩ := chk_some h
  exact qB rfl g10 rfl (sp 1 rfl (evn (hK5 _ (rg (sp 3 rfl (evn (hN _ _ h (okr rfl))))))))
 ·exact qF rfl g4 (ls_exit (kXB1 (Option.some.inj h) _ (okr rfl)))
def spec_FormatQuery_J2 (rec : ((List UInt8) × Int) -> Option ((List UInt8))) (a0 : Y54) (y2 : Int) (x14 : List UInt8) : Option ((List UInt8)) := obind (geti a0.2.1 y2) fun e15 => chk (List.length x14 + List.length e15.1 <= lim) (obind (geti a0.2.1 y2) fun e18 => obind (spec_l7Vars e18.2) fun v20 => chk (List.length (x14 ++ e15.1) + List.length v20 <= lim) (rec (((x14 ++ e15.1) ++ v20), (IntKind.i64.wrap (y2 + 1)))))
def spec_FormatQuery_B1 (a0 : Y54) (rec : ((List UInt8) × Int) -> Option ((List UInt8))) (s : (List UInt8) × Int) : Option ((List UInt8)) := match s with
  | (y1, y2) => cond (decide (y2 < (List.length a0.2.1 : Int))) (cond (decide (0 < y2)) (chk (List.length y1 + List.length [44] <= lim) (spec_FormatQuery_J2 rec a0 y2 (y1 ++ [44]))) (spec_FormatQuery_J2 rec a0 y2 y1)) (some y1)
def spec_FormatQuery (a0 : Y54) : Option ((List UInt8)) := obind (spec_IsValidQuery a0) fun v2 => cond (!v2) (some []) (obind (spec_l7Vars a0.2.2) fun v5 => chk (List.length v5 + List.length [61] <= lim) (obind (loopF (spec_FormatQuery_B1 a0) fz ((v5 ++ [61]), 0)) fun z9 => some z9))
theorem spec_FormatQuery_s {a0 : Y54} {r : (List UInt8)} (h : spec_FormatQuery a0 = some r) : SoundAt Tryz.prog 185 [.agg (c55_ddd a0)] (.str r) := by
 unfold spec_FormatQuery at h
 refine st lit185 rfl (rn 1 rfl (ls_seq_k fun K1 hK1 => rs (sp 1 rfl (?_))))
 obtain ⟨v2, g3, h⟩ := ob_some h
 refine qC (qa rfl (erg (erc rfl (erc (erD ec148_d _) (erc (erD eci64 _) rfl)))) eran) (spec_IsValidQuery_s g3) (sp 1 rfl (evn ?_))
 rcases cond_some h with ⟨g4, h⟩ | ⟨g4, h⟩
 ·exact qT rfl g4 (rn 1 rfl (ls_ret ((by cases h; exact ⟨.inl rfl, rfl⟩))))
 ·refine qF rfl g4 (ls_skip (hK1 _ (rs (sp 2 rfl (?_)))))
  obtain ⟨v5, g6, h⟩ := ob_some h
  refine qC (qa rfl (erD eci64 _) eran) (spec_l7Vars_s g6) (?_)
  obtain ⟨g7, h⟩ := chk_some h
  refine qB rfl g7 rfl (sp 1 rfl (evn (ls_seq_k fun K8 hK8 => rn 1 rfl ?_)))
  obtain ⟨o1, hl, hr1⟩ := ob_some h
  have kXB1 : ∀ {z9 : List UInt8}, z9 = o1 -> Jn K8 [(3, .str z9)] := by
   intro z9 h σ' hk
   subst h
   replace h := hr1
   try dsimp only at h
   exact hK8 _ (lh hk rfl (rn 1 rfl (ls_ret ((by cases h; exact ⟨.inl rfl, rfl⟩)))))
  refine ls_rec (fun (s : (List UInt8) × Int) => match s with | (y1, y2) => [(1, .box [nI a0.1, dL c148_d a0.2.1, dL ci64 a0.2.2]), (3, .str y1), (4, nI y2)]) _ _ _ _ hl (okr rfl) (fun _ => rfl) ?_
  rintro m ⟨y1, y2⟩ N h hN
  unfold spec_FormatQuery_B1 at h
  dsimp only at h
  refine ls_seq_k fun K10 hK10 => rn 1 rfl ?_
  rcases cond_some h with ⟨g11, h⟩ | ⟨g11, h⟩
  ·refine qT rfl g11 (ls_skip (hK10 _ (ls_seq_k fun K12 hK12 => ls_blk (ls_seq_k fun K13 hK13 => rn 1 rfl ?_))))
   have kJ2 : ∀ {x14 : List UInt8}, spec_FormatQuery_J2 (loopF (spec_FormatQuery_B1 a0) m) a0 y2 x14 = some o1 -> Jn K13 [(1, .box [nI a0.1, dL c148_d a0.2.1, dL ci64 a0.2.2]), (3, .str x14), (4, nI y2)] := by
    intro x14 h σ' hk
    unfold spec_FormatQuery_J2 at h
    refine hK13 _ (lh hk rfl (rgd (by kernel_rfl) (sd 4 rfl (?_))))
    obtain ⟨e15, g16, h⟩ := ob_some h
    refine ed rfl (qI rfl zc148_d g16 (sd 2 rfl (?_)))
    obtain ⟨g17, h⟩ := chk_some h
    refine ed rfl (qB rfl g17 rfl (sd 3 rfl (?_)))
    obtain ⟨e18, g19, h⟩ := ob_some h
    refine ed rfl (qI rfl zc148_d g19 (sd 2 rfl (?_)))
    obtain ⟨v20, g21, h⟩ := ob_some h
    refine ed rfl (qC (qa rfl (erD eci64 _) eran) (spec_l7Vars_s g21) (?_))
    obtain ⟨g22, h⟩ := chk_some h
    exact ed rfl (qB rfl g22 rfl (sd 1 rfl (evdn (hK12 _ (rg (sp 3 rfl (evn (hN _ _ h (okr rfl)))))))))
   rcases cond_some h with ⟨g23, h⟩ | ⟨g23, h⟩
   ·refine qT rfl g23 (rg (sp 1 rfl (?_)))
    obtain ⟨g24, h⟩ := chk_some h
    exact qB rfl g24 rfl (sp 1 rfl (evn (kJ2 h _ (okr rfl))))
   ·exact qF rfl g23 (ls_skip (kJ2 h _ (okr rfl)))
  ·exact qF rfl g11 (ls_exit (kXB1 (Option.some.inj h) _ (okr rfl)))
def spec_ParseQuery_J4 (rec : (Int × Int) -> Option (Int)) (y27 : Int) (x45 : Int) : Option (Int) := rec (x45, (IntKind.i64.wrap (y27 + 1)))
def spec_ParseQuery_B3 (v11 : (List (List UInt8))) (y11 : Int) (y23 : Int) (rec : (Int × Int) -> Option (Int)) (s : Int × Int) : Option (Int) := match s with
  | (y26, y27) => cond (decide (y27 < 5)) (obind (spec_VariableName y27) fun v40 => obind (geti v11 y11) fun e42 => chk ((0 : Int) <= y23 ∧ y23 <= IntKind.i64.wrap (y23 + 1) ∧ IntKind.i64.wrap (y23 + 1) <= (List.length e42 : Int)) (cond (v40 == (subl e42 y23 (IntKind.i64.wrap (y23 + 1)))) (spec_ParseQuery_J4 rec y27 (IntKind.i64.wrap (y27 + 1))) (spec_ParseQuery_J4 rec y27 y26))) (some y26)
def spec_ParseQuery_B2 (v11 : (List (List UInt8))) (y11 : Int) (rec : (Int × Int) -> Option (Int)) (s : Int × Int) : Option (Int) := match s with
  | (y22, y23) => obind (geti v11 y11) fun e32 => cond (decide (y23 < (List.length e32 : Int))) (obind (loopF (spec_ParseQuery_B3 v11 y11 y23) fz (y22, y22)) fun z36 => rec (z36, (IntKind.i64.wrap (y23 + 1)))) (some y22)
def spec_ParseQuery_B1 (v11 : (List (List UInt8))) (rec : (Int × (List Y147) × Int) -> Option (Int × (List Y147))) (s : Int × (List Y147) × Int) : Option (Int × (List Y147)) := match s with
  | (y9, y10, y11) => cond (decide (y11 < (List.length v11 : Int))) (obind (geti v11 y11) fun e19 => obind (spec_l5Cut e19 40) fun v21 => obind (geti v21 0) fun e23 => obind (geti v11 y11) fun e25 => obind (spec_l7List e25) fun v27 => chk (List.length y10 + List.length [(e23, v27)] <= lim) (obind (loopF (spec_ParseQuery_B2 v11 y11) fz (y9, 0)) fun z30 => rec (z30, (y10 ++ [(e23, v27)]), (IntKind.i64.wrap (y11 + 1))))) (some (y9, y10))
def spec_ParseQuery (a0 : List UInt8) : Option (Y54 × Bool) := obind (spec_l5Cut a0 61) fun v1 => cond ((List.length v1 : Int) != 2) (some ((0, [], []), false)) (obind (geti v1 0) fun e5 => obind (spec_l7List e5) fun v7 => obind (geti v1 1) fun e9 => obind (spec_l5Cut e9 44) fun v11 => obind (loopF (spec_ParseQuery_B1 v11) fz (0, ([] : List Y147), 0)) fun o1 => (match o1 with
  | (z14, z15) => (obind (spec_FormatQuery (z14, z15, v7)) fun v48 => cond (!(v48 == a0)) (some ((0, [], []), false)) (cond (a0 == []) (some ((0, [], []), false)) (some ((z14, z15, v7), true))))))
theorem spec_ParseQuery_s {a0 : List UInt8} {r : Y54 × Bool} (h : spec_ParseQuery a0 = some r) : SoundAt Tryz.prog 154 [.str a0] (.tup [.agg (c55_ooo r.1), .bool r.2]) := by
 unfold spec_ParseQuery at h
 refine st lit154 rfl (rn 1 rfl (rs (sp 1 rfl (?_))))
 obtain ⟨v1, g2, h⟩ := ob_some h
 refine qC (qs rfl (qs rfl eran)) (spec_l5Cut_s g2) (sp 1 rfl (evn (ls_seq_k fun K3 hK3 => rn 1 rfl ?_)))
 rcases cond_some h with ⟨g4, h⟩ | ⟨g4, h⟩
 ·exact qT rfl g4 (rn 1 rfl (ls_ret ((by cases h; exact ⟨.inl rfl, rfl⟩))))
 ·refine qF rfl g4 (ls_skip (hK3 _ (rs (sp 1 rfl (?_)))))
  obtain ⟨e5, g6, h⟩ := ob_some h
  refine qI rfl zcst g6 (sp 1 rfl (?_))
  obtain ⟨v7, g8, h⟩ := ob_some h
  refine qC (qs rfl eran) (spec_l7List_s g8) (sp 3 rfl (evn (rs (sp 1 rfl (?_)))))
  obtain ⟨e9, g10, h⟩ := ob_some h
  refine qI rfl zcst g10 (sp 1 rfl (?_))
  obtain ⟨v11, g12, h⟩ := ob_some h
  refine qC (qs rfl (qs rfl eran)) (spec_l5Cut_s g12) (sp 1 rfl (evn (qk [0, 2, 5, 6] rfl (ls_seq_k fun K13 hK13 => rn 1 rfl ?_))))
  obtain ⟨o1, hl, hr1⟩ := ob_some h
  have kXB1 : ∀ {z14 : Int} {z15 : List Y147}, (z14, z15) = o1 -> Jn K13 [(0, .str a0), (2, .box [nI 0, oL 148 c148_o [], oL 3 ci64 []]), (5, .box [nI z14, oL 148 c148_o z15, oL 3 ci64 v7])] := by
   intro z14 z15 h σ' hk
   subst h
   replace h := hr1
   try dsimp only at h
   refine hK13 _ (lh hk rfl (ls_seq_k fun K47 hK47 => rs (sp 1 rfl (?_))))
   obtain ⟨v48, g49, h⟩ := ob_some h
   refine qC (qa rfl (erg (erc rfl (erc (erD ec148_o _) (erc (erD eci64 _) rfl)))) eran) (spec_FormatQuery_s g49) (sp 3 rfl (?_))
   rcases cond_some h with ⟨g50, h⟩ | ⟨g50, h⟩
   ·exact qg 84 g50 rfl (sp 3 rfl (evn (qT rfl rfl (rn 1 rfl (ls_ret ((by cases h; exact ⟨.inl rfl, rfl⟩)))))))
   ·refine qg 84 g50 rfl (sp 3 rfl (evn ?_))
    rcases cond_some h with ⟨g51, h⟩ | ⟨g51, h⟩
    ·exact qT rfl g51 (rn 1 rfl (ls_ret ((by cases h; exact ⟨.inl rfl, rfl⟩))))
    ·exact qF rfl g51 (ls_skip (hK47 _ (rn 1 rfl (ls_ret ((by cases h; exact ⟨.inl rfl, rfl⟩))))))
  refine ls_rec (fun (s : Int × (List Y147) × Int) => match s with | (y9, y10, y11) => [(0, .str a0), (2, .box [nI 0, oL 148 c148_o [], oL 3 ci64 []]), (5, .box [nI y9, oL 148 c148_o y10, oL 3 ci64 v7]), (6, oL 9 cst v11), (7, nI y11)]) _ _ _ _ hl (okr rfl) (fun _ => rfl) ?_
  rintro m ⟨y9, y10, y11⟩ N h hN
  unfold spec_ParseQuery_B1 at h
  dsimp only at h
  refine ls_seq_k fun K16 hK16 => rn 1 rfl ?_
  rcases cond_some h with ⟨g17, h⟩ | ⟨g17, h⟩
  ·refine qT rfl g17 (ls_skip (hK16 _ (ls_seq_k fun K18 hK18 => ls_blk (rs (sp 2 rfl (?_))))))
   obtain ⟨e19, g20, h⟩ := ob_some h
   refine qI rfl zcst g20 (sp 1 rfl (?_))
   obtain ⟨v21, g22, h⟩ := ob_some h
   refine qC (qs rfl (qs rfl eran)) (spec_l5Cut_s g22) (sp 1 rfl (evn (rd (by kernel_rfl) (sd 3 rfl (?_)))))
   obtain ⟨e23, g24, h⟩ := ob_some h
   refine ed rfl (qI rfl zcst g24 (sd 3 rfl (?_)))
   obtain ⟨e25, g26, h⟩ := ob_some h
   refine ed rfl (qI rfl zcst g26 (sd 1 rfl (?_)))
   obtain ⟨v27, g28, h⟩ := ob_some h
   refine ed rfl (qC (qs rfl eran) (spec_l7List_s g28) (sd 1 rfl (ed rfl (qBs c148_o [(e23, v27)] rfl rfl rfl zc148_o (?_)))))
   obtain ⟨g29, h⟩ := chk_some h
   refine ed rfl (qA c148_o y10 [(e23, v27)] rfl rfl (flat_len zc148_o [(e23, v27)]) rfl g29 (sd 2 rfl (evdn (rn 1 rfl (qk [0, 2, 5, 6, 7, 9] rfl ?_)))))
   obtain ⟨o2, hl, hr2⟩ := ob_some h
   have kXB2 : ∀ {z30 : Int}, z30 = o2 -> Jn K18 [(0, .str a0), (2, .box [nI 0, oL 148 c148_o [], oL 3 ci64 []]), (5, .box [nI z30, oL 148 c148_o (y10 ++ [(e23, v27)]), oL 3 ci64 v7]), (6, oL 9 cst v11), (7, nI y11)] := by
    intro z30 h σ' hk
    subst h
    replace h := hr2
    try dsimp only at h
    exact hK18 _ (lh hk rfl (rg (sp 3 rfl (evn (hN _ _ h (okr rfl))))))
   refine ls_rec (fun (s : Int × Int) => match s with | (y22, y23) => [(0, .str a0), (2, .box [nI 0, oL 148 c148_o [], oL 3 ci64 []]), (5, .box [nI y22, oL 148 c148_o (y10 ++ [(e23, v27)]), oL 3 ci64 v7]), (6, oL 9 cst v11), (7, nI y11), (9, nI y23)]) _ _ _ _ hl (okr rfl) (fun _ => rfl) ?_
   rintro m ⟨y22, y23⟩ N h hN
   unfold spec_ParseQuery_B2 at h
   dsimp only at h
   refine ls_seq_k fun K31 hK31 => rs (sp 3 rfl (?_))
   obtain ⟨e32, g33, h⟩ := ob_some h
   refine qI rfl zcst g33 (sp 3 rfl (evn ?_))
   rcases cond_some h with ⟨g34, h⟩ | ⟨g34, h⟩
   ·refine qT rfl g34 (ls_skip (hK31 _ (ls_seq_k fun K35 hK35 => ls_blk (rn 1 rfl ?_))))
    obtain ⟨o3, hl, hr3⟩ := ob_some h
    have kXB3 : ∀ {z36 : Int}, z36 = o3 -> Jn K35 [(0, .str a0), (2, .box [nI 0, oL 148 c148_o [], oL 3 ci64 []]), (5, .box [nI z36, oL 148 c148_o (y10 ++ [(e23, v27)]), oL 3 ci64 v7]), (6, oL 9 cst v11), (7, nI y11), (9, nI y23)] := by
     intro z36 h σ' hk
     subst h
     replace h := hr3
     try dsimp only at h
     exact hK35 _ (lh hk rfl (rg (sp 3 rfl (evn (hN _ _ h (okr rfl))))))
    refine ls_rec (fun (s : Int × Int) => match s with | (y26, y27) => [(0, .str a0), (2, .box [nI 0, oL 148 c148_o [], oL 3 ci64 []]), (5, .box [nI y26, oL 148 c148_o (y10 ++ [(e23, v27)]), oL 3 ci64 v7]), (6, oL 9 cst v11), (7, nI y11), (9, nI y23), (10, nI y27)]) _ _ _ _ hl (okr rfl) (fun _ => rfl) ?_
    rintro m ⟨y26, y27⟩ N h hN
    unfold spec_ParseQuery_B3 at h
    dsimp only at h
    refine ls_seq_k fun K37 hK37 => rn 1 rfl ?_
    rcases cond_some h with ⟨g38, h⟩ | ⟨g38, h⟩
    ·refine qT rfl g38 (ls_skip (hK37 _ (ls_seq_k fun K39 hK39 => ls_blk (rd (by kernel_rfl) (sd 1 rfl (?_))))))
     obtain ⟨v40, g41, h⟩ := ob_some h
     refine ed rfl (qC (qs rfl eran) (spec_VariableName_s g41) (sd 2 rfl (?_)))
     obtain ⟨e42, g43, h⟩ := ob_some h
     refine ed rfl (qI rfl zcst g43 (sd 4 rfl (?_)))
     obtain ⟨g44, h⟩ := chk_some h
     refine ed rfl (qSs rfl g44 (sd 1 rfl (evdn ?_)))
     have kJ4 : ∀ {x45 : Int}, spec_ParseQuery_J4 (loopF (spec_ParseQuery_B3 v11 y11 y23) m) y27 x45 = some o3 -> Jn K39 [(0, .str a0), (2, .box [nI 0, oL 148 c148_o [], oL 3 ci64 []]), (5, .box [nI x45, oL 148 c148_o (y10 ++ [(e23, v27)]), oL 3 ci64 v7]), (6, oL 9 cst v11), (7, nI y11), (9, nI y23), (10, nI y27)] := by
      intro x45 h σ' hk
      unfold spec_ParseQuery_J4 at h
      exact hK39 _ (lh hk rfl (rg (sp 3 rfl (evn (hN _ _ h (okr rfl))))))
     rcases cond_some h with ⟨g46, h⟩ | ⟨g46, h⟩
     ·exact qT rfl g46 (rg (sp 4 rfl (evn (kJ4 h _ (okr rfl)))))
     ·exact qF rfl g46 (ls_skip (kJ4 h _ (okr rfl)))
    ·exact qF rfl g38 (ls_exit (kXB3 (Option.some.inj h) _ (okr rfl)))
   ·exact qF rfl g34 (ls_exit (kXB2 (Option.some.inj h) _ (okr rfl)))
  ·exact qF rfl g17 (ls_exit (kXB1 (Option.some.inj h) _ (okr rfl)))
def spec_l7Query_B2 (v9 : Int × Y132) (rec : ((List Int) × Int × Int × (List Int) × Int) -> Option ((List Int) × Int × Int × (List Int))) (s : (List Int) × Int × Int × (List Int) × Int) : Option ((List Int) × Int × Int × (List Int)) := match s with
  | (y16, y17, y18, y19, y20) => cond (decide (0 < y20)) (obind (spec_l1Below (y16, y17, y18) (IntKind.i64.wrap (1 + v9.1))) fun v33 => chk (List.length y19 + List.length [v33.1] <= lim) (rec (v33.2.1, v33.2.2.1, v33.2.2.2, (y19 ++ [v33.1]), (IntKind.i64.wrap (y20 - 1))))) (some (y16, y17, y18, y19))
def spec_l7Query_B1 (v9 : Int × Y132) (rec : ((List Int) × Int × Int × (List Y147) × Int) -> Option ((List Int) × Int × Int × (List Y147))) (s : (List Int) × Int × Int × (List Y147) × Int) : Option ((List Int) × Int × Int × (List Y147)) := match s with
  | (y6, y7, y8, y9, y10) => cond (decide (0 < y10)) (obind (spec_l1Below (y6, y7, y8) 5) fun v21 => obind (geti ([[114], [115], [116], [117], [118]]) v21.1) fun e23 => obind (loopF (spec_l7Query_B2 v9) fz (v21.2.1, v21.2.2.1, v21.2.2.2, ([] : List Int), (IntKind.i64.wrap (2 + (IntKind.i64.wrap (Int.tdiv v21.1 4)))))) fun o2 => (match o2 with
  | (z26, z27, z28, z29) => (chk (List.length y9 + List.length [(e23, z29)] <= lim) (rec (z26, z27, z28, (y9 ++ [(e23, z29)]), (IntKind.i64.wrap (y10 - 1))))))) (some (y6, y7, y8, y9))
def spec_l7Query_J4 (rec : ((List Int) × Int × Int × (List Int) × Int) -> Option ((List Int) × Int × Int × (List Int))) (y25 : Int) (v45 : Bool × Y132) (x47 : List Int) : Option ((List Int) × Int × Int × (List Int)) := rec (v45.2.1, v45.2.2.1, v45.2.2.2, x47, (IntKind.i64.wrap (y25 + 1)))
def spec_l7Query_B3 (v9 : Int × Y132) (rec : ((List Int) × Int × Int × (List Int) × Int) -> Option ((List Int) × Int × Int × (List Int))) (s : (List Int) × Int × Int × (List Int) × Int) : Option ((List Int) × Int × Int × (List Int)) := match s with
  | (y21, y22, y23, y24, y25) => cond (decide (y25 < (IntKind.i64.wrap (1 + v9.1)))) (obind (spec_l1Once (y21, y22, y23) 2) fun v45 => cond v45.1 (chk (List.length [y25] + List.length y24 <= lim) (spec_l7Query_J4 rec y25 v45 ([y25] ++ y24))) (spec_l7Query_J4 rec y25 v45 y24)) (some (y21, y22, y23, y24))
def spec_l7Query (a0 : Y132) : Option (Y54 × Y132) := obind (spec_l1Pick a0 ([[40, 88, 89, 90, 41, 61, 114, 40, 88, 89, 41, 44, 115, 40, 89, 90, 41, 44, 116, 40, 90, 88, 41], [40, 88, 89, 90, 85, 41, 61, 114, 40, 88, 89, 41, 44, 115, 40, 89, 90, 41, 44, 116, 40, 90, 85, 41, 44, 117, 40, 85, 88, 41], [40, 88, 89, 90, 41, 61, 114, 40, 88, 89, 41, 44, 115, 40, 89, 90, 41], [40, 88, 41, 61, 114, 40, 88, 89, 41, 44, 115, 40, 89, 90, 41, 44, 116, 40, 90, 85, 41], [40, 88, 89, 90, 41, 61, 118, 40, 88, 89, 90, 41, 44, 114, 40, 88, 89, 41], [40, 88, 89, 41, 61, 114, 40, 88, 89, 41, 44, 114, 40, 89, 88, 41], [40, 88, 89, 90, 85, 41, 61, 118, 40, 88, 89, 90, 41, 44, 115, 40, 90, 85, 41, 44, 116, 40, 85, 88, 41], [40, 88, 41, 61, 114, 40, 88, 88, 41], [40, 88, 89, 41, 61, 114, 40, 88, 90, 41, 44, 115, 40, 90, 89, 41, 44, 114, 40, 88, 85, 41, 44, 115, 40, 85, 89, 41], [40, 41, 61, 114, 40, 88, 89, 41, 44, 115, 40, 89, 88, 41], [40, 88, 89, 90, 85, 86, 41, 61, 114, 40, 88, 89, 41, 44, 115, 40, 89, 90, 41, 44, 116, 40, 90, 85, 41, 44, 117, 40, 85, 86, 41]])) fun v1 => obind (spec_ParseQuery v1.1) fun v3 => obind (spec_l1Once v1.2 3) fun v6 => cond (!v6.1) (some (v3.1, v6.2)) (obind (spec_l1Below v6.2 4) fun v9 => obind (spec_l1Below v9.2 4) fun v12 => obind (loopF (spec_l7Query_B1 v9) fz (v12.2.1, v12.2.2.1, v12.2.2.2, ([] : List Y147), (IntKind.i64.wrap (1 + v12.1)))) fun o1 => (match o1 with
  | (z14, z15, z16, z17) => (obind (loopF (spec_l7Query_B3 v9) fz (z14, z15, z16, ([] : List Int), 0)) fun o3 => (match o3 with
  | (z38, z39, z40, z41) => (obind (spec_IsValidQuery (IntKind.i64.wrap (1 + v9.1), z17, z41)) fun v51 => cond (!v51) (some (v3.1, (z38, z39, z40))) (some ((IntKind.i64.wrap (1 + v9.1), z17, z41), (z38, z39, z40))))))))
theorem spec_l7Query_s {a0 : Y132} {r : Y54 × Y132} (h : spec_l7Query a0 = some r) : PtrAt Tryz.prog 109 [aL cu8 a0.1, nI a0.2.1, nI a0.2.2] [] [aL cu8 r.2.1, nI r.2.2.1, nI r.2.2.2] (.agg (c55_ooo r.1)) := by
 unfold spec_l7Query at h
 generalize hkk0 : ([[40, 88, 89, 90, 41, 61, 114, 40, 88, 89, 41, 44, 115, 40, 89, 90, 41, 44, 116, 40, 90, 88, 41], [40, 88, 89, 90, 85, 41, 61, 114, 40, 88, 89, 41, 44, 115, 40, 89, 90, 41, 44, 116, 40, 90, 85, 41, 44, 117, 40, 85, 88, 41], [40, 88, 89, 90, 41, 61, 114, 40, 88, 89, 41, 44, 115, 40, 89, 90, 41], [40, 88, 41, 61, 114, 40, 88, 89, 41, 44, 115, 40, 89, 90, 41, 44, 116, 40, 90, 85, 41], [40, 88, 89, 90, 41, 61, 118, 40, 88, 89, 90, 41, 44, 114, 40, 88, 89, 41], [40, 88, 89, 41, 61, 114, 40, 88, 89, 41, 44, 114, 40, 89, 88, 41], [40, 88, 89, 90, 85, 41, 61, 118, 40, 88, 89, 90, 41, 44, 115, 40, 90, 85, 41, 44, 116, 40, 85, 88, 41], [40, 88, 41, 61, 114, 40, 88, 88, 41], [40, 88, 89, 41, 61, 114, 40, 88, 90, 41, 44, 115, 40, 90, 89, 41, 44, 114, 40, 88, 85, 41, 44, 115, 40, 85, 89, 41], [40, 41, 61, 114, 40, 88, 89, 41, 44, 115, 40, 89, 88, 41], [40, 88, 89, 90, 85, 86, 41, 61, 114, 40, 88, 89, 41, 44, 115, 40, 89, 90, 41, 44, 116, 40, 90, 85, 41, 44, 117, 40, 85, 86, 41]] : List (List UInt8)) = kk0 at h
 refine stp lit109 rfl (rn 1 rfl ((rsB cst kk0 9 1 (by subst hkk0; kernel_rfl) (by subst hkk0; rfl) zcst (sp 1 rfl (evn (rs (sp 2 rfl (?_))))))))
 obtain ⟨v1, g2, h⟩ := ob_some h
 refine qP rfl rfl rfl rfl (qa rfl (erD ecst _) eran) (spec_l1Pick_s g2) (?_)
 obtain ⟨v3, g4, h⟩ := ob_some h
 refine qC (qs rfl eran) (spec_ParseQuery_s g4) (sp 6 rfl (evn (ls_seq_k fun K5 hK5 => rs (sp 1 rfl (?_)))))
 obtain ⟨v6, g7, h⟩ := ob_some h
 refine qP rfl rfl rfl rfl (qs rfl eran) (spec_l1Once_s g7) (sp 1 rfl (evn ?_))
 rcases cond_some h with ⟨g8, h⟩ | ⟨g8, h⟩
 ·exact qT rfl g8 (rn 1 rfl (ls_ret ((by cases h; exact ⟨.inl rfl, rfl, rfl⟩))))
 ·refine qF rfl g8 (ls_skip (hK5 _ (rs (sp 1 rfl (?_)))))
  obtain ⟨v9, g10, h⟩ := ob_some h
  refine qP rfl rfl rfl rfl (qs rfl eran) (spec_l1Below_s g10) (sp 4 rfl (evn (qk [0, 2, 4, 6] rfl (ls_seq_k fun K11 hK11 => rs (sp 1 rfl (?_))))))
  obtain ⟨v12, g13, h⟩ := ob_some h
  refine qP rfl rfl rfl rfl (qs rfl eran) (spec_l1Below_s g13) (sp 2 rfl (evn ?_))
  obtain ⟨o1, hl, hr1⟩ := ob_some h
  have kXB1 : ∀ {z14 : List Int} {z15 : Int} {z16 : Int} {z17 : List Y147}, (z14, z15, z16, z17) = o1 -> Jn K11 [(0, .box [aL cu8 z14, nI z15, nI z16]), (2, .box [nI 0, oL 148 c148_o [], oL 3 ci64 []]), (4, .box [nI v3.1.1, oL 148 c148_o v3.1.2.1, oL 3 ci64 v3.1.2.2]), (6, .box [nI (IntKind.i64.wrap (1 + v9.1)), oL 148 c148_o z17, oL 3 ci64 []])] := by
   intro z14 z15 z16 z17 h σ' hk
   subst h
   replace h := hr1
   try dsimp only at h
   refine hK11 _ (lh hk rfl (ls_seq_k fun K37 hK37 => rn 1 rfl ?_))
   obtain ⟨o3, hl, hr3⟩ := ob_some h
   have kXB3 : ∀ {z38 : List Int} {z39 : Int} {z40 : Int} {z41 : List Int}, (z38, z39, z40, z41) = o3 -> Jn K37 [(0, .box [aL cu8 z38, nI z39, nI z40]), (2, .box [nI 0, oL 148 c148_o [], oL 3 ci64 []]), (4, .box [nI v3.1.1, oL 148 c148_o v3.1.2.1, oL 3 ci64 v3.1.2.2]), (6, .box [nI (IntKind.i64.wrap (1 + v9.1)), oL 148 c148_o z17, oL 3 ci64 z41])] := by
    intro z38 z39 z40 z41 h σ' hk
    subst h
    replace h := hr3
    try dsimp only at h
    refine hK37 _ (lh hk rfl (ls_seq_k fun K50 hK50 => rs (sp 1 rfl (?_))))
    obtain ⟨v51, g52, h⟩ := ob_some h
    refine qC (qa rfl (erg (erc rfl (erc (erD ec148_o _) (erc (erD eci64 _) rfl)))) eran) (spec_IsValidQuery_s g52) (sp 1 rfl (evn ?_))
    rcases cond_some h with ⟨g53, h⟩ | ⟨g53, h⟩
    ·exact qT rfl g53 (rn 1 rfl (ls_ret ((by cases h; exact ⟨.inl rfl, rfl, rfl⟩))))
    ·exact qF rfl g53 (ls_skip (hK50 _ (rn 1 rfl (ls_ret ((by cases h; exact ⟨.inl rfl, rfl, rfl⟩))))))
   refine ls_rec (fun (s : (List Int) × Int × Int × (List Int) × Int) => match s with | (y21, y22, y23, y24, y25) => [(0, .box [aL cu8 y21, nI y22, nI y23]), (2, .box [nI 0, oL 148 c148_o [], oL 3 ci64 []]), (4, .box [nI v3.1.1, oL 148 c148_o v3.1.2.1, oL 3 ci64 v3.1.2.2]), (6, .box [nI (IntKind.i64.wrap (1 + v9.1)), oL 148 c148_o z17, oL 3 ci64 y24]), (11, nI y25)]) _ _ _ _ hl (okr rfl) (fun _ => rfl) ?_
   rintro m ⟨y21, y22, y23, y24, y25⟩ N h hN
   unfold spec_l7Query_B3 at h
   dsimp only at h
   refine ls_seq_k fun K42 hK42 => rn 1 rfl ?_
   rcases cond_some h with ⟨g43, h⟩ | ⟨g43, h⟩
   ·refine qT rfl g43 (ls_skip (hK42 _ (ls_seq_k fun K44 hK44 => ls_blk (rs (sp 1 rfl (?_))))))
    obtain ⟨v45, g46, h⟩ := ob_some h
    refine qP rfl rfl rfl rfl (qs rfl eran) (spec_l1Once_s g46) (evn ?_)
    have kJ4 : ∀ {x47 : List Int}, spec_l7Query_J4 (loopF (spec_l7Query_B3 v9) m) y25 v45 x47 = some o3 -> Jn K44 [(0, .box (c133_a v45.2)), (2, .box [nI 0, oL 148 c148_o [], oL 3 ci64 []]), (4, .box [nI v3.1.1, oL 148 c148_o v3.1.2.1, oL 3 ci64 v3.1.2.2]), (6, .box [nI (IntKind.i64.wrap (1 + v9.1)), oL 148 c148_o z17, oL 3 ci64 x47]), (11, nI y25)] := by
     intro x47 h σ' hk
     unfold spec_l7Query_J4 at h
     exact hK44 _ (lh hk rfl (rg (sp 3 rfl (evn (hN _ _ h (okr rfl))))))
    rcases cond_some h with ⟨g48, h⟩ | ⟨g48, h⟩
    ·refine qT rfl g48 (rg (sp 1 rfl (qBs ci64 [y25] rfl rfl rfl zci64 (sp 2 rfl (?_)))))
     obtain ⟨g49, h⟩ := chk_some h
     exact qA ci64 [y25] y24 rfl rfl (flat_len zci64 y24) rfl g49 (sp 2 rfl (evn (kJ4 h _ (okr rfl))))
    ·exact qF rfl g48 (ls_skip (kJ4 h _ (okr rfl)))
   ·exact qF rfl g43 (ls_exit (kXB3 (Option.some.inj h) _ (okr rfl)))
  refine ls_rec (fun (s : (List Int) × Int × Int × (List Y147) × Int) => match s with | (y6, y7, y8, y9, y10) => [(0, .box [aL cu8 y6, nI y7, nI y8]), (2, .box [nI 0, oL 148 c148_o [], oL 3 ci64 []]), (4, .box [nI v3.1.1, oL 148 c148_o v3.1.2.1, oL 3 ci64 v3.1.2.2]), (6, .box [nI (IntKind.i64.wrap (1 + v9.1)), oL 148 c148_o y9, oL 3 ci64 []]), (7, nI y10)]) _ _ _ _ hl (okr rfl) (fun _ => rfl) ?_
  rintro m ⟨y6, y7, y8, y9, y10⟩ N h hN
  unfold spec_l7Query_B1 at h
  dsimp only at h
  refine ls_seq_k fun K18 hK18 => rn 1 rfl ?_
  rcases cond_some h with ⟨g19, h⟩ | ⟨g19, h⟩
  ·refine qT rfl g19 (ls_skip (hK18 _ (ls_seq_k fun K20 hK20 => ls_blk (rs (sp 1 rfl (?_))))))
   obtain ⟨v21, g22, h⟩ := ob_some h
   refine qP rfl rfl rfl rfl (qs rfl eran) (spec_l1Below_s g22) (sp 1 rfl (evn (rs (qBk cst [[114], [115], [116], [117], [118]] 9 1 (by kernel_rfl) rfl zcst (sp 1 rfl (?_))))))
   obtain ⟨e23, g24, h⟩ := ob_some h
   refine qI rfl zcst g24 (sp 4 rfl (evn (ls_seq_k fun K25 hK25 => rn 1 rfl ?_)))
   obtain ⟨o2, hl, hr2⟩ := ob_some h
   have kXB2 : ∀ {z26 : List Int} {z27 : Int} {z28 : Int} {z29 : List Int}, (z26, z27, z28, z29) = o2 -> Jn K25 [(0, .box [aL cu8 z26, nI z27, nI z28]), (2, .box [nI 0, oL 148 c148_o [], oL 3 ci64 []]), (4, .box [nI v3.1.1, oL 148 c148_o v3.1.2.1, oL 3 ci64 v3.1.2.2]), (6, .box [nI (IntKind.i64.wrap (1 + v9.1)), oL 148 c148_o y9, oL 3 ci64 []]), (7, nI y10), (9, .box [.str e23, oL 3 ci64 z29])] := by
    intro z26 z27 z28 z29 h σ' hk
    subst h
    replace h := hr2
    try dsimp only at h
    refine hK25 _ (lh hk rfl (rg (sp 3 rfl (qBs c148_o [(e23, z29)] rfl rfl rfl zc148_o (?_)))))
    obtain ⟨g36, h⟩ := chk_some h
    exact qA c148_o y9 [(e23, z29)] rfl rfl (flat_len zc148_o [(e23, z29)]) rfl g36 (sp 2 rfl (evn (hK20 _ (rg (sp 3 rfl (evn (hN _ _ h (okr rfl))))))))
   refine ls_rec (fun (s : (List Int) × Int × Int × (List Int) × Int) => match s with | (y16, y17, y18, y19, y20) => [(0, .box [aL cu8 y16, nI y17, nI y18]), (2, .box [nI 0, oL 148 c148_o [], oL 3 ci64 []]), (4, .box [nI v3.1.1, oL 148 c148_o v3.1.2.1, oL 3 ci64 v3.1.2.2]), (6, .box [nI (IntKind.i64.wrap (1 + v9.1)), oL 148 c148_o y9, oL 3 ci64 []]), (7, nI y10), (9, .box [.str e23, oL 3 ci64 y19]), (10, nI y20)]) _ _ _ _ hl (okr rfl) (fun _ => rfl) ?_
   rintro m ⟨y16, y17, y18, y19, y20⟩ N h hN
   unfold spec_l7Query_B2 at h
   dsimp only at h
   refine ls_seq_k fun K30 hK30 => rn 1 rfl ?_
   rcases cond_some h with ⟨g31, h⟩ | ⟨g31, h⟩
   ·refine qT rfl g31 (ls_skip (hK30 _ (ls_seq_k fun K32 hK32 => ls_blk (rgd (by kernel_rfl) (sd 5 rfl (?_))))))
    obtain ⟨v33, g34, h⟩ := ob_some h
    refine ed rfl (qP rfl rfl rfl rfl (qs rfl eran) (spec_l1Below_s g34) (ed rfl (qBs ci64 [v33.1] rfl rfl rfl zci64 (?_))))
    obtain ⟨g35, h⟩ := chk_some h
    exact ed rfl (qA ci64 y19 [v33.1] rfl rfl (flat_len zci64 [v33.1]) rfl g35 (sd 2 rfl (evdn (hK32 _ (rg (sp 3 rfl (evn (hN _ _ h (okr rfl)))))))))
   ·exact qF rfl g31 (ls_exit (kXB2 (Option.some.inj h) _ (okr rfl)))
  ·exact qF rfl g19 (ls_exit (kXB1 (Option.some.inj h) _ (okr rfl)))
def spec_Difference_J2 (rec : ((List (List Int)) × Int) -> Option ((List (List Int)))) (y2 : Int) (x18 : List (List Int)) : Option ((List (List Int))) := rec (x18, (IntKind.i64.wrap (y2 + 1)))
def spec_Difference_B1 (a0 : Y42) (a1 : Y42) (rec : ((List (List Int)) × Int) -> Option ((List (List Int)))) (s : (List (List Int)) × Int) : Option ((List (List Int))) := match s with
  | (y1, y2) => cond (decide (y2 < (List.length a0.2 : Int))) (obind (geti a0.2 y2) fun e14 => obind (spec_l5Place a1 e14) fun v16 => cond (!v16.2) (obind (geti a0.2 y2) fun e20 => chk (List.length ([] : List Int) + List.length e20 <= lim) (chk (List.length y1 + List.length ([([] : List Int) ++ e20]) <= lim) (spec_Difference_J2 rec y2 (y1 ++ ([([] : List Int) ++ e20]))))) (spec_Difference_J2 rec y2 y1)) (some y1)
def spec_Difference (a0 : Y42) (a1 : Y42) : Option (Y42 × Bool) := obind (spec_IsValidRelation a0) fun v2 => cond (!v2) (some ((0, []), false)) (obind (spec_IsValidRelation a1) fun v5 => cond (!v5) (some ((0, []), false)) (cond (a0.1 != a1.1) (some ((0, []), false)) (obind (loopF (spec_Difference_B1 a0 a1) fz (([] : List (List Int)), 0)) fun z10 => some ((a0.1, z10), true))))
theorem spec_Difference_s {a0 : Y42} {a1 : Y42} {r : Y42 × Bool} (h : spec_Difference a0 a1 = some r) : SoundAt Tryz.prog 161 [.agg (c43_dd a0), .agg (c43_dd a1)] (.tup [.agg (c43_oo r.1), .bool r.2]) := by
 unfold spec_Difference at h
 refine st lit161 rfl (rn 1 rfl (ls_seq_k fun K1 hK1 => rs (sp 1 rfl (?_))))
 obtain ⟨v2, g3, h⟩ := ob_some h
 refine qC (qa rfl (erg (erc rfl (erc (erD ec53_d _) rfl))) eran) (spec_IsValidRelation_s g3) (sp 2 rfl (?_))
 rcases cond_some h with ⟨g4, h⟩ | ⟨g4, h⟩
 ·exact qg 13 g4 rfl (sp 11 rfl (evn (qT rfl rfl (rn 1 rfl (ls_ret ((by cases h; exact ⟨.inl rfl, rfl⟩)))))))
 ·refine qg 13 g4 rfl (sp 1 rfl (?_))
  obtain ⟨v5, g6, h⟩ := ob_some h
  refine oGR rfl rfl (qC (qa rfl (erg (erc rfl (erc (erD ec53_d _) rfl))) eran) (spec_IsValidRelation_s g6) (sp 3 rfl (?_)))
  rcases cond_some h with ⟨g7, h⟩ | ⟨g7, h⟩
  ·exact qg 18 g7 rfl (sp 6 rfl (evn (qk [2, 3, 4, 24] rfl (qT rfl rfl (rn 1 rfl (ls_ret ((by cases h; exact ⟨.inl rfl, rfl⟩))))))))
  ·refine qg 18 g7 rfl (sp 6 rfl (evn ?_))
   rcases cond_some h with ⟨g8, h⟩ | ⟨g8, h⟩
   ·exact qT rfl g8 (rn 1 rfl (ls_ret ((by cases h; exact ⟨.inl rfl, rfl⟩))))
   ·refine qF rfl g8 (ls_skip (hK1 _ (rn 1 rfl (ls_seq_k fun K9 hK9 => rn 1 rfl ?_))))
    obtain ⟨o1, hl, hr1⟩ := ob_some h
    have kXB1 : ∀ {z10 : List (List Int)}, z10 = o1 -> Jn K9 [(4, .box [nI 0, oL 53 c53_o []]), (6, .box [nI a0.1, oL 53 c53_o z10])] := by
     intro z10 h σ' hk
     subst h
     replace h := hr1
     try dsimp only at h
     exact hK9 _ (lh hk rfl (rn 1 rfl (ls_ret ((by cases h; exact ⟨.inl rfl, rfl⟩)))))
    refine ls_rec (fun (s : (List (List Int)) × Int) => match s with | (y1, y2) => [(2, .box [nI a0.1, dL c53_d a0.2]), (3, .box [nI a1.1, dL c53_d a1.2]), (4, .box [nI 0, oL 53 c53_o []]), (6, .box [nI a0.1, oL 53 c53_o y1]), (7, nI y2)]) _ _ _ _ hl (okr rfl) (fun _ => rfl) ?_
    rintro m ⟨y1, y2⟩ N h hN
    unfold spec_Difference_B1 at h
    dsimp only at h
    refine ls_seq_k fun K11 hK11 => rn 1 rfl ?_
    rcases cond_some h with ⟨g12, h⟩ | ⟨g12, h⟩
    ·refine qT rfl g12 (ls_skip (hK11 _ (ls_seq_k fun K13 hK13 => ls_blk (rd (by kernel_rfl) (sd 4 rfl (?_))))))
     obtain ⟨e14, g15, h⟩ := ob_some h
     refine ed rfl (qI rfl zc53_d g15 (sd 1 rfl (?_)))
     obtain ⟨v16, g17, h⟩ := ob_some h
     refine ed rfl (qC (qa rfl (erg (erc rfl (erc (erD ec53_d _) rfl))) (qa rfl (erD eci64 _) eran)) (spec_l5Place_s g17) (sd 5 rfl (evdn (rn 1 rfl ?_))))
     have kJ2 : ∀ {x18 : List (List Int)}, spec_Difference_J2 (loopF (spec_Difference_B1 a0 a1) m) y2 x18 = some o1 -> Jn K13 [(2, .box [nI a0.1, dL c53_d a0.2]), (3, .box [nI a1.1, dL c53_d a1.2]), (4, .box [nI 0, oL 53 c53_o []]), (6, .box [nI a0.1, oL 53 c53_o x18]), (7, nI y2)] := by
      intro x18 h σ' hk
      unfold spec_Difference_J2 at h
      exact hK13 _ (lh hk rfl (rg (sp 3 rfl (evn (hN _ _ h (okr rfl))))))
     rcases cond_some h with ⟨g19, h⟩ | ⟨g19, h⟩
     ·refine qT rfl g19 (rgd (by kernel_rfl) (sd 2 rfl (ed rfl (qBs ci64 [] rfl rfl rfl zci64 (sd 3 rfl (?_))))))
      obtain ⟨e20, g21, h⟩ := ob_some h
      refine ed rfl (qI rfl zc53_d g21 (sd 1 rfl (?_)))
      obtain ⟨g22, h⟩ := chk_some h
      refine ed rfl (qA ci64 ([] : List Int) e20 rfl rfl (flat_len zci64 e20) (map_dg (fun _ => rfl) _) g22 (ed rfl (qBs c53_o [([] : List Int) ++ e20] rfl rfl rfl zc53_o (?_))))
      obtain ⟨g23, h⟩ := chk_some h
      exact ed rfl (qA c53_o y1 ([([] : List Int) ++ e20]) rfl rfl (flat_len zc53_o ([([] : List Int) ++ e20])) rfl g23 (sd 2 rfl (evdn (kJ2 h _ (okr rfl)))))
     ·exact qF rfl g19 (ls_skip (kJ2 h _ (okr rfl)))
    ·exact qF rfl g12 (ls_exit (kXB1 (Option.some.inj h) _ (okr rfl)))
abbrev Y139 := (List UInt8) × Y42 × Y42
def c140_dddd (x : Y139) : List V := [.str x.1, nI x.2.1.1, dL c53_d x.2.1.2, nI x.2.2.1, dL c53_d x.2.2.2]
theorem zc140_dddd (x : Y139) : (c140_dddd x).length = 5 := rfl
theorem ec140_dddd (x : Y139) : erL (c140_dddd x) = c140_dddd x := (erc rfl (erc rfl (erc (erD ec53_d _) (erc rfl (erc (erD ec53_d _) rfl)))))
def spec_l26Fits_J1 (x4 : Bool) : Option (Bool) := some x4
def spec_l26Fits (a0 : List Y119) (a1 : Y139) : Option (Bool) := obind (spec_LookupRelation a0 a1.1) fun v1 => cond v1.2 (obind (spec_IsValidRelation a1.2.1) fun v6 => cond v6 (obind (spec_IsValidRelation a1.2.2) fun v9 => cond v9 (cond (a1.2.1.1 == v1.1.1) (spec_l26Fits_J1 (a1.2.2.1 == v1.1.1)) (spec_l26Fits_J1 false)) (spec_l26Fits_J1 false)) (spec_l26Fits_J1 false)) (spec_l26Fits_J1 false)
theorem spec_l26Fits_s {a0 : List Y119} {a1 : Y139} {r : Bool} (h : spec_l26Fits a0 a1 = some r) : SoundAt Tryz.prog 187 [.agg [dL c120_dd a0], .agg (c140_dddd a1)] (.bool r) := by
 unfold spec_l26Fits at h
 refine st lit187 rfl (rn 1 rfl (rs (sp 3 rfl (?_))))
 obtain ⟨v1, g2, h⟩ := ob_some h
 refine qC (qa rfl (erg (erc (erD ec120_dd _) rfl)) (qs rfl eran)) (spec_LookupRelation_s g2) (sp 6 rfl (evn (rk fun K3 hK3 => ?_)))
 have kJ1 : ∀ {x4 : Bool}, spec_l26Fits_J1 x4 = some r -> Jn K3 [(4, .bool x4)] := by
  intro x4 h σ' hk
  unfold spec_l26Fits_J1 at h
  exact hK3 _ (lh hk rfl (ls_ret ((by cases h; exact ⟨.inl rfl, rfl⟩))))
 refine sp 2 rfl (?_)
 rcases cond_some h with ⟨g5, h⟩ | ⟨g5, h⟩
 ·refine qg 15 g5 rfl (sp 2 rfl (?_))
  obtain ⟨v6, g7, h⟩ := ob_some h
  refine oGR rfl rfl (qC (qa rfl (erg (erc rfl (erc (erD ec53_d _) rfl))) eran) (spec_IsValidRelation_s g7) (sp 2 rfl (?_)))
  rcases cond_some h with ⟨g8, h⟩ | ⟨g8, h⟩
  ·refine qg 20 g8 rfl (sp 2 rfl (?_))
   obtain ⟨v9, g10, h⟩ := ob_some h
   refine oGR rfl rfl (qC (qa rfl (erg (erc rfl (erc (erD ec53_d _) rfl))) eran) (spec_IsValidRelation_s g10) (sp 2 rfl (?_)))
   rcases cond_some h with ⟨g11, h⟩ | ⟨g11, h⟩
   ·refine qg 25 g11 rfl (sp 8 rfl (?_))
    rcases cond_some h with ⟨g12, h⟩ | ⟨g12, h⟩
    ·exact qg 33 g12 rfl (sp 8 rfl (evn (kJ1 h _ (okr rfl))))
    ·exact qg 33 g12 rfl (sp 8 rfl (evn (kJ1 h _ (okr rfl))))
   ·exact qg 25 g11 rfl (sp 16 rfl (evn (kJ1 h _ (okr rfl))))
  ·exact qg 20 g8 rfl (sp 21 rfl (evn (kJ1 h _ (okr rfl))))
 ·exact qg 15 g5 rfl (sp 26 rfl (evn (kJ1 h _ (okr rfl))))
def c140_oooo (x : Y139) : List V := [.str x.1, nI x.2.1.1, oL 53 c53_o x.2.1.2, nI x.2.2.1, oL 53 c53_o x.2.2.2]
theorem zc140_oooo (x : Y139) : (c140_oooo x).length = 5 := rfl
theorem ec140_oooo (x : Y139) : erL (c140_oooo x) = c140_dddd x := (erc rfl (erc rfl (erc (erO ec53_o _) (erc rfl (erc (erO ec53_o _) rfl)))))
def spec_NormalizeDelta (a0 : List Y119) (a1 : Y139) : Option (Y139 × Bool) := obind (spec_l26Fits a0 a1) fun v2 => cond (!v2) (some (([], (0, []), (0, [])), false)) (obind (spec_LookupRelation a0 a1.1) fun v5 => obind (spec_Difference a1.2.1 v5.1) fun v7 => obind (spec_Difference a1.2.2 a1.2.1) fun v9 => obind (spec_Difference v9.1 v5.1) fun v11 => obind (spec_Difference v9.1 v11.1) fun v13 => some ((a1.1, v7.1, v13.1), true))
theorem spec_NormalizeDelta_s {a0 : List Y119} {a1 : Y139} {r : Y139 × Bool} (h : spec_NormalizeDelta a0 a1 = some r) : SoundAt Tryz.prog 160 [.agg [dL c120_dd a0], .agg (c140_dddd a1)] (.tup [.agg (c140_oooo r.1), .bool r.2]) := by
 unfold spec_NormalizeDelta at h
 refine st lit160 rfl (rn 1 rfl (ls_seq_k fun K1 hK1 => rs (sp 2 rfl (?_))))
 obtain ⟨v2, g3, h⟩ := ob_some h
 refine qC (qa rfl (erg (erc (erD ec120_dd _) rfl)) (qa rfl (erg (erc rfl (erc rfl (erc (erD ec53_d _) (erc rfl (erc (erD ec53_d _) rfl)))))) eran)) (spec_l26Fits_s g3) (sp 1 rfl (evn ?_))
 rcases cond_some h with ⟨g4, h⟩ | ⟨g4, h⟩
 ·exact qT rfl g4 (rn 1 rfl (ls_ret ((by cases h; exact ⟨.inl rfl, rfl⟩))))
 ·refine qF rfl g4 (ls_skip (hK1 _ (rs (sp 3 rfl (?_)))))
  obtain ⟨v5, g6, h⟩ := ob_some h
  refine qC (qa rfl (erg (erc (erD ec120_dd _) rfl)) (qs rfl eran)) (spec_LookupRelation_s g6) (sp 6 rfl (evn (rs (sp 3 rfl (?_)))))
  obtain ⟨v7, g8, h⟩ := ob_some h
  refine qC (qa rfl (erg (erc rfl (erc (erD ec53_d _) rfl))) (qa rfl (erg (erc rfl (erc (erD ec53_o _) rfl))) eran)) (spec_Difference_s g8) (sp 6 rfl (evn (qk [3, 4, 6, 8] rfl (rs (sp 4 rfl (?_))))))
  obtain ⟨v9, g10, h⟩ := ob_some h
  refine qC (qa rfl (erg (erc rfl (erc (erD ec53_d _) rfl))) (qa rfl (erg (erc rfl (erc (erD ec53_d _) rfl))) eran)) (spec_Difference_s g10) (sp 6 rfl (evn (rs (sp 2 rfl (?_)))))
  obtain ⟨v11, g12, h⟩ := ob_some h
  refine qC (qa rfl (erg (erc rfl (erc (erD ec53_o _) rfl))) (qa rfl (erg (erc rfl (erc (erD ec53_o _) rfl))) eran)) (spec_Difference_s g12) (sp 6 rfl (evn (rs (sp 2 rfl (?_)))))
  obtain ⟨v13, g14, h⟩ := ob_some h
  exact qC (qa rfl (erg (erc rfl (erc (erD ec53_o _) rfl))) (qa rfl (erg (erc rfl (erc (erD ec53_o _) rfl))) eran)) (spec_Difference_s g14) (sp 6 rfl (evn (rn 1 rfl (ls_ret ((by cases h; exact ⟨.inl rfl, rfl⟩))))))
def spec_Union (a0 : Y42) (a1 : Y42) : Option (Y42 × Bool) := obind (spec_IsValidRelation a0) fun v2 => cond (!v2) (some ((0, []), false)) (obind (spec_IsValidRelation a1) fun v5 => cond (!v5) (some ((0, []), false)) (cond (a0.1 != a1.1) (some ((0, []), false)) (chk (List.length ([] : List (List Int)) + List.length a0.2 <= lim) (chk (List.length (([] : List (List Int)) ++ a0.2) + List.length a1.2 <= lim) (obind (spec_NewRelation a0.1 ((([] : List (List Int)) ++ a0.2) ++ a1.2)) fun v11 => some (v11.1, v11.2))))))
theorem spec_Union_s {a0 : Y42} {a1 : Y42} {r : Y42 × Bool} (h : spec_Union a0 a1 = some r) : SoundAt Tryz.prog 162 [.agg (c43_dd a0), .agg (c43_dd a1)] (.tup [.agg (c43_oo r.1), .bool r.2]) := by
 unfold spec_Union at h
 refine st lit162 rfl (rn 1 rfl (ls_seq_k fun K1 hK1 => rs (sp 1 rfl (?_))))
 obtain ⟨v2, g3, h⟩ := ob_some h
 refine qC (qa rfl (erg (erc rfl (erc (erD ec53_d _) rfl))) eran) (spec_IsValidRelation_s g3) (sp 2 rfl (?_))
 rcases cond_some h with ⟨g4, h⟩ | ⟨g4, h⟩
 ·exact qg 11 g4 rfl (sp 11 rfl (evn (qT rfl rfl (rn 1 rfl (ls_ret ((by cases h; exact ⟨.inl rfl, rfl⟩)))))))
 ·refine qg 11 g4 rfl (sp 1 rfl (?_))
  obtain ⟨v5, g6, h⟩ := ob_some h
  refine oGR rfl rfl (qC (qa rfl (erg (erc rfl (erc (erD ec53_d _) rfl))) eran) (spec_IsValidRelation_s g6) (sp 3 rfl (?_)))
  rcases cond_some h with ⟨g7, h⟩ | ⟨g7, h⟩
  ·exact qg 16 g7 rfl (sp 6 rfl (evn (qk [2, 3, 4, 22] rfl (qT rfl rfl (rn 1 rfl (ls_ret ((by cases h; exact ⟨.inl rfl, rfl⟩))))))))
  ·refine qg 16 g7 rfl (sp 6 rfl (evn ?_))
   rcases cond_some h with ⟨g8, h⟩ | ⟨g8, h⟩
   ·exact qT rfl g8 (rn 1 rfl (ls_ret ((by cases h; exact ⟨.inl rfl, rfl⟩))))
   ·refine qF rfl g8 (ls_skip (hK1 _ (rd (by kernel_rfl) (sd 2 rfl (ed rfl (qBs c53_o [] rfl rfl rfl zc53_o (sd 2 rfl (?_))))))))
    obtain ⟨g9, h⟩ := chk_some h
    refine ed rfl (qA c53_d ([] : List (List Int)) a0.2 rfl rfl (flat_len zc53_d a0.2) (map_dg (fun _ => rfl) _) g9 (sd 2 rfl (?_)))
    obtain ⟨g10, h⟩ := chk_some h
    refine ed rfl (qA c53_d (([] : List (List Int)) ++ a0.2) a1.2 rfl rfl (flat_len zc53_d a1.2) (map_dg (fun _ => rfl) _) g10 (?_))
    obtain ⟨v11, g12, h⟩ := ob_some h
    exact ed rfl (qC (qs rfl (qa rfl (erO ec53_d _) eran)) (spec_NewRelation_s g12) (sd 6 rfl (evdn (rn 1 rfl (qk [4, 5] rfl (ls_ret ((by cases h; exact ⟨.inl rfl, rfl⟩))))))))
def spec_SetRelation_J4 (rec : ((List Y119) × Bool × Int) -> Option ((List Y119) × Bool)) (y3 : Int) (x13 : Bool) (x14 : List Y119) : Option ((List Y119) × Bool) := rec (x14, x13, (IntKind.i64.wrap (y3 + 1)))
def spec_SetRelation_J3 (rec : ((List Y119) × Bool × Int) -> Option ((List Y119) × Bool)) (a1 : List UInt8) (y3 : Int) (e7 : Y119) (x12 : List Y119) (x13 : Bool) : Option ((List Y119) × Bool) := cond (!(e7.1 == a1)) (chk (List.length x12 + List.length [e7] <= lim) (spec_SetRelation_J4 rec y3 x13 (x12 ++ [e7]))) (spec_SetRelation_J4 rec y3 x13 x12)
def spec_SetRelation_J2 (rec : ((List Y119) × Bool × Int) -> Option ((List Y119) × Bool)) (a1 : List UInt8) (a2 : Y42) (y1 : List Y119) (y2 : Bool) (y3 : Int) (e7 : Y119) (x11 : Bool) : Option ((List Y119) × Bool) := cond x11 (chk (List.length y1 + List.length [(a1, a2)] <= lim) (spec_SetRelation_J3 rec a1 y3 e7 (y1 ++ [(a1, a2)]) true)) (spec_SetRelation_J3 rec a1 y3 e7 y1 y2)
def spec_SetRelation_B1 (a0 : List Y119) (a1 : List UInt8) (a2 : Y42) (rec : ((List Y119) × Bool × Int) -> Option ((List Y119) × Bool)) (s : (List Y119) × Bool × Int) : Option ((List Y119) × Bool) := match s with
  | (y1, y2, y3) => cond (decide (y3 < (List.length a0 : Int))) (obind (geti a0 y3) fun e7 => cond (!y2) (spec_SetRelation_J2 rec a1 a2 y1 y2 y3 e7 (!Op.bytesLess e7.1 a1)) (spec_SetRelation_J2 rec a1 a2 y1 y2 y3 e7 false)) (some (y1, y2))
def spec_SetRelation_J6 (a0 : List Y119) (x21 : List Y119) (x24 : Bool) : Option ((List Y119) × Bool) := cond x24 (obind (spec_l6Copy a0) fun v26 => some (v26, false)) (obind (spec_l6Copy x21) fun v28 => some (v28, true))
def spec_SetRelation_J5 (a0 : List Y119) (x21 : List Y119) : Option ((List Y119) × Bool) := obind (spec_IsValidDatabase a0) fun v30 => cond (!v30) (spec_SetRelation_J6 a0 x21 true) (obind (spec_IsValidDatabase x21) fun v33 => spec_SetRelation_J6 a0 x21 (!v33))
def spec_SetRelation (a0 : List Y119) (a1 : List UInt8) (a2 : Y42) : Option ((List Y119) × Bool) := obind (loopF (spec_SetRelation_B1 a0 a1 a2) fz (([] : List Y119), false, 0)) fun o1 => (match o1 with
  | (z2, z3) => (cond (!z3) (chk (List.length z2 + List.length [(a1, a2)] <= lim) (spec_SetRelation_J5 a0 (z2 ++ [(a1, a2)]))) (spec_SetRelation_J5 a0 z2)))
theorem spec_SetRelation_s {a0 : List Y119} {a1 : List UInt8} {a2 : Y42} {r : (List Y119) × Bool} (h : spec_SetRelation a0 a1 a2 = some r) : SoundAt Tryz.prog 163 [.agg [dL c120_dd a0], .str a1, .agg (c43_dd a2)] (.tup [.agg [oL 120 c120_oo r.1], .bool r.2]) := by
 unfold spec_SetRelation at h
 refine st lit163 rfl (rn 3 rfl (ls_seq_k fun K1 hK1 => rn 1 rfl ?_))
 obtain ⟨o1, hl, hr1⟩ := ob_some h
 have kXB1 : ∀ {z2 : List Y119} {z3 : Bool}, (z2, z3) = o1 -> Jn K1 [(1, .str a1), (3, .box [dL c120_dd a0]), (5, .box [nI a2.1, dL c53_d a2.2]), (6, .box [oL 120 c120_oo []]), (8, .box [oL 120 c120_dd z2]), (9, .bool z3)] := by
  intro z2 z3 h σ' hk
  subst h
  replace h := hr1
  try dsimp only at h
  refine hK1 _ (lh hk rfl (ls_seq_k fun K20 hK20 => rn 1 rfl ?_))
  have kJ5 : ∀ {x21 : List Y119}, spec_SetRelation_J5 a0 x21 = some r -> Jn K20 [(3, .box [dL c120_dd a0]), (6, .box [oL 120 c120_oo []]), (8, .box [oL 120 c120_dd x21])] := by
   intro x21 h σ' hk
   unfold spec_SetRelation_J5 at h
   refine hK20 _ (lh hk rfl (ls_seq_k fun K22 hK22 => rk fun K23 hK23 => ?_))
   have kJ6 : ∀ {x24 : Bool}, spec_SetRelation_J6 a0 x21 x24 = some r -> Jn K23 [(3, .box [dL c120_dd a0]), (6, .box [oL 120 c120_oo []]), (8, .box [oL 120 c120_dd x21]), (68, .bool x24)] := by
    intro x24 h σ' hk
    unfold spec_SetRelation_J6 at h
    refine hK23 _ (lh hk rfl ?_)
    rcases cond_some h with ⟨g25, h⟩ | ⟨g25, h⟩
    ·refine qT rfl g25 (rs (sp 1 rfl (?_)))
     obtain ⟨v26, g27, h⟩ := ob_some h
     exact qC (qa rfl (erg (erc (erD ec120_dd _) rfl)) eran) (spec_l6Copy_s g27) (sp 2 rfl (evn (ls_ret ((by cases h; exact ⟨.inl rfl, rfl⟩)))))
    ·refine qF rfl g25 (ls_skip (hK22 _ (rs (sp 1 rfl (?_)))))
     obtain ⟨v28, g29, h⟩ := ob_some h
     exact qC (qa rfl (erg (erc (erD ec120_dd _) rfl)) eran) (spec_l6Copy_s g29) (sp 2 rfl (evn (ls_ret ((by cases h; exact ⟨.inl rfl, rfl⟩)))))
   refine sp 1 rfl (?_)
   obtain ⟨v30, g31, h⟩ := ob_some h
   refine qC (qa rfl (erg (erc (erD ec120_dd _) rfl)) eran) (spec_IsValidDatabase_s g31) (sp 2 rfl (?_))
   rcases cond_some h with ⟨g32, h⟩ | ⟨g32, h⟩
   ·exact qg 64 g32 rfl (sp 4 rfl (evn (kJ6 h _ (okr rfl))))
   ·refine qg 64 g32 rfl (sp 1 rfl (?_))
    obtain ⟨v33, g34, h⟩ := ob_some h
    exact oGR rfl rfl (qC (qa rfl (erg (erc (erD ec120_dd _) rfl)) eran) (spec_IsValidDatabase_s g34) (sp 2 rfl (evn (kJ6 h _ (okr rfl)))))
  rcases cond_some h with ⟨g35, h⟩ | ⟨g35, h⟩
  ·refine qT rfl g35 (rg (sp 5 rfl (qBs c120_dd [(a1, a2)] rfl rfl rfl zc120_dd (?_))))
   obtain ⟨g36, h⟩ := chk_some h
   exact qA c120_dd z2 [(a1, a2)] rfl rfl (flat_len zc120_dd [(a1, a2)]) rfl g36 (sp 2 rfl (evn (kJ5 h _ (okr rfl))))
  ·exact qF rfl g35 (ls_skip (kJ5 h _ (okr rfl)))
 refine ls_rec (fun (s : (List Y119) × Bool × Int) => match s with | (y1, y2, y3) => [(1, .str a1), (3, .box [dL c120_dd a0]), (5, .box [nI a2.1, dL c53_d a2.2]), (6, .box [oL 120 c120_oo []]), (8, .box [oL 120 c120_dd y1]), (9, .bool y2), (10, nI y3)]) _ _ _ _ hl (okr rfl) (fun _ => rfl) ?_
 rintro m ⟨y1, y2, y3⟩ N h hN
 unfold spec_SetRelation_B1 at h
 dsimp only at h
 refine ls_seq_k fun K4 hK4 => rn 1 rfl ?_
 rcases cond_some h with ⟨g5, h⟩ | ⟨g5, h⟩
 ·refine qT rfl g5 (ls_skip (hK4 _ (ls_seq_k fun K6 hK6 => ls_blk (rs (sp 3 rfl (?_))))))
  obtain ⟨e7, g8, h⟩ := ob_some h
  refine qI rfl zc120_dd g8 (sp 3 rfl (evn (ls_seq_k fun K9 hK9 => rk fun K10 hK10 => ?_)))
  have kJ2 : ∀ {x11 : Bool}, spec_SetRelation_J2 (loopF (spec_SetRelation_B1 a0 a1 a2) m) a1 a2 y1 y2 y3 e7 x11 = some o1 -> Jn K10 [(1, .str a1), (3, .box [dL c120_dd a0]), (5, .box [nI a2.1, dL c53_d a2.2]), (6, .box [oL 120 c120_oo []]), (8, .box [oL 120 c120_dd y1]), (9, .bool y2), (10, nI y3), (11, .box [.str e7.1, nI e7.2.1, dL c53_d e7.2.2]), (32, .bool x11)] := by
   intro x11 h σ' hk
   unfold spec_SetRelation_J2 at h
   refine hK10 _ (lh hk rfl ?_)
   have kJ3 : ∀ {x12 : List Y119} {x13 : Bool}, spec_SetRelation_J3 (loopF (spec_SetRelation_B1 a0 a1 a2) m) a1 y3 e7 x12 x13 = some o1 -> Jn K9 [(1, .str a1), (3, .box [dL c120_dd a0]), (5, .box [nI a2.1, dL c53_d a2.2]), (6, .box [oL 120 c120_oo []]), (8, .box [oL 120 c120_dd x12]), (9, .bool x13), (10, nI y3), (11, .box [.str e7.1, nI e7.2.1, dL c53_d e7.2.2])] := by
    intro x12 x13 h σ' hk
    unfold spec_SetRelation_J3 at h
    refine hK9 _ (lh hk rfl (rn 1 rfl ?_))
    have kJ4 : ∀ {x14 : List Y119}, spec_SetRelation_J4 (loopF (spec_SetRelation_B1 a0 a1 a2) m) y3 x13 x14 = some o1 -> Jn K6 [(1, .str a1), (3, .box [dL c120_dd a0]), (5, .box [nI a2.1, dL c53_d a2.2]), (6, .box [oL 120 c120_oo []]), (8, .box [oL 120 c120_dd x14]), (9, .bool x13), (10, nI y3)] := by
     intro x14 h σ' hk
     unfold spec_SetRelation_J4 at h
     exact hK6 _ (lh hk rfl (rg (sp 3 rfl (evn (hN _ _ h (okr rfl))))))
    rcases cond_some h with ⟨g15, h⟩ | ⟨g15, h⟩
    ·refine qT rfl g15 (rg (sp 3 rfl (qBs c120_dd [e7] rfl rfl rfl zc120_dd (?_))))
     obtain ⟨g16, h⟩ := chk_some h
     exact qA c120_dd x12 [e7] rfl rfl (flat_len zc120_dd [e7]) rfl g16 (sp 2 rfl (evn (kJ4 h _ (okr rfl))))
    ·exact qF rfl g15 (ls_skip (kJ4 h _ (okr rfl)))
   rcases cond_some h with ⟨g17, h⟩ | ⟨g17, h⟩
   ·refine qT rfl g17 (rs (sp 5 rfl (qBs c120_dd [(a1, a2)] rfl rfl rfl zc120_dd (?_))))
    obtain ⟨g18, h⟩ := chk_some h
    exact qA c120_dd y1 [(a1, a2)] rfl rfl (flat_len zc120_dd [(a1, a2)]) rfl g18 (sp 2 rfl (evn (rg (sp 1 rfl (evn (kJ3 h _ (okr rfl)))))))
   ·exact qF rfl g17 (ls_skip (kJ3 h _ (okr rfl)))
  refine sp 3 rfl (?_)
  rcases cond_some h with ⟨g19, h⟩ | ⟨g19, h⟩
  ·exact qg 27 g19 rfl (sp 5 rfl (evn (kJ2 h _ (okr rfl))))
  ·exact qg 27 g19 rfl (sp 5 rfl (evn (kJ2 h _ (okr rfl))))
 ·exact qF rfl g5 (ls_exit (kXB1 (Option.some.inj h) _ (okr rfl)))
def spec_ApplyDelta (a0 : List Y119) (a1 : Y139) : Option ((List Y119) × Bool) := obind (spec_NormalizeDelta a0 a1) fun v1 => cond (!v1.2) (obind (spec_l6Copy a0) fun v5 => some (v5, false)) (obind (spec_LookupRelation a0 a1.1) fun v7 => obind (spec_Difference v7.1 v1.1.2.2) fun v9 => obind (spec_Union v9.1 v1.1.2.1) fun v11 => cond (!v11.2) (obind (spec_l6Copy a0) fun v15 => some (v15, false)) (obind (spec_SetRelation a0 a1.1 v11.1) fun v17 => some (v17.1, v17.2)))
theorem spec_ApplyDelta_s {a0 : List Y119} {a1 : Y139} {r : (List Y119) × Bool} (h : spec_ApplyDelta a0 a1 = some r) : SoundAt Tryz.prog 113 [.agg [dL c120_dd a0], .agg (c140_dddd a1)] (.tup [.agg [oL 120 c120_oo r.1], .bool r.2]) := by
 unfold spec_ApplyDelta at h
 refine st lit113 rfl (rn 1 rfl (rs (sp 2 rfl (?_))))
 obtain ⟨v1, g2, h⟩ := ob_some h
 refine qC (qa rfl (erg (erc (erD ec120_dd _) rfl)) (qa rfl (erg (erc rfl (erc rfl (erc (erD ec53_d _) (erc rfl (erc (erD ec53_d _) rfl)))))) eran)) (spec_NormalizeDelta_s g2) (sp 6 rfl (evn (ls_seq_k fun K3 hK3 => rn 1 rfl ?_)))
 rcases cond_some h with ⟨g4, h⟩ | ⟨g4, h⟩
 ·refine qT rfl g4 (rs (sp 1 rfl (?_)))
  obtain ⟨v5, g6, h⟩ := ob_some h
  exact qC (qa rfl (erg (erc (erD ec120_dd _) rfl)) eran) (spec_l6Copy_s g6) (sp 2 rfl (evn (ls_ret ((by cases h; exact ⟨.inl rfl, rfl⟩)))))
 ·refine qF rfl g4 (ls_skip (hK3 _ (rs (sp 3 rfl (?_)))))
  obtain ⟨v7, g8, h⟩ := ob_some h
  refine qC (qa rfl (erg (erc (erD ec120_dd _) rfl)) (qs rfl eran)) (spec_LookupRelation_s g8) (sp 6 rfl (evn (qk [2, 3, 4, 6, 8] rfl (rs (sp 3 rfl (?_))))))
  obtain ⟨v9, g10, h⟩ := ob_some h
  refine qC (qa rfl (erg (erc rfl (erc (erD ec53_o _) rfl))) (qa rfl (erg (erc rfl (erc (erD ec53_o _) rfl))) eran)) (spec_Difference_s g10) (sp 6 rfl (evn (rs (sp 3 rfl (?_)))))
  obtain ⟨v11, g12, h⟩ := ob_some h
  refine qC (qa rfl (erg (erc rfl (erc (erD ec53_o _) rfl))) (qa rfl (erg (erc rfl (erc (erD ec53_o _) rfl))) eran)) (spec_Union_s g12) (sp 6 rfl (evn (ls_seq_k fun K13 hK13 => rn 1 rfl ?_)))
  rcases cond_some h with ⟨g14, h⟩ | ⟨g14, h⟩
  ·refine qT rfl g14 (rs (sp 1 rfl (?_)))
   obtain ⟨v15, g16, h⟩ := ob_some h
   exact qC (qa rfl (erg (erc (erD ec120_dd _) rfl)) eran) (spec_l6Copy_s g16) (sp 2 rfl (evn (ls_ret ((by cases h; exact ⟨.inl rfl, rfl⟩)))))
  ·refine qF rfl g14 (ls_skip (hK13 _ (rs (sp 4 rfl (?_)))))
   obtain ⟨v17, g18, h⟩ := ob_some h
   exact qC (qa rfl (erg (erc (erD ec120_dd _) rfl)) (qs rfl (qa rfl (erg (erc rfl (erc (erD ec53_o _) rfl))) eran))) (spec_SetRelation_s g18) (sp 6 rfl (evn (qk [4, 14, 15] rfl (rn 1 rfl (ls_ret ((by cases h; exact ⟨.inl rfl, rfl⟩)))))))
def spec_AddCounted (a0 : Y75) (a1 : Y75) : Option (Y75 × Bool) := obind (spec_IsValidCounted a0) fun v2 => cond (!v2) (some ((0, [], []), false)) (obind (spec_IsValidCounted a1) fun v5 => cond (!v5) (some ((0, [], []), false)) (cond (a0.1 != a1.1) (some ((0, [], []), false)) (chk (List.length ([] : List (List Int)) + List.length a0.2.1 <= lim) (chk (List.length (([] : List (List Int)) ++ a0.2.1) + List.length a1.2.1 <= lim) (chk (List.length ([] : List Int) + List.length a0.2.2 <= lim) (chk (List.length (([] : List Int) ++ a0.2.2) + List.length a1.2.2 <= lim) (obind (spec_l27Sum a0.1 ((([] : List (List Int)) ++ a0.2.1) ++ a1.2.1) ((([] : List Int) ++ a0.2.2) ++ a1.2.2)) fun v13 => some (v13.1, v13.2))))))))
theorem spec_AddCounted_s {a0 : Y75} {a1 : Y75} {r : Y75 × Bool} (h : spec_AddCounted a0 a1 = some r) : SoundAt Tryz.prog 157 [.agg (c76_ddd a0), .agg (c76_ddd a1)] (.tup [.agg (c76_ooo r.1), .bool r.2]) := by
 unfold spec_AddCounted at h
 refine st lit157 rfl (rn 1 rfl (ls_seq_k fun K1 hK1 => rs (sp 1 rfl (?_))))
 obtain ⟨v2, g3, h⟩ := ob_some h
 refine qC (qa rfl (erg (erc rfl (erc (erD ec53_d _) (erc (erD eci64 _) rfl)))) eran) (spec_IsValidCounted_s g3) (sp 2 rfl (?_))
 rcases cond_some h with ⟨g4, h⟩ | ⟨g4, h⟩
 ·exact qg 11 g4 rfl (sp 11 rfl (evn (qT rfl rfl (rn 1 rfl (ls_ret ((by cases h; exact ⟨.inl rfl, rfl⟩)))))))
 ·refine qg 11 g4 rfl (sp 1 rfl (?_))
  obtain ⟨v5, g6, h⟩ := ob_some h
  refine oGR rfl rfl (qC (qa rfl (erg (erc rfl (erc (erD ec53_d _) (erc (erD eci64 _) rfl)))) eran) (spec_IsValidCounted_s g6) (sp 3 rfl (?_)))
  rcases cond_some h with ⟨g7, h⟩ | ⟨g7, h⟩
  ·exact qg 16 g7 rfl (sp 6 rfl (evn (qk [2, 3, 4, 22] rfl (qT rfl rfl (rn 1 rfl (ls_ret ((by cases h; exact ⟨.inl rfl, rfl⟩))))))))
  ·refine qg 16 g7 rfl (sp 6 rfl (evn ?_))
   rcases cond_some h with ⟨g8, h⟩ | ⟨g8, h⟩
   ·exact qT rfl g8 (rn 1 rfl (ls_ret ((by cases h; exact ⟨.inl rfl, rfl⟩))))
   ·refine qF rfl g8 (ls_skip (hK1 _ (rd (by kernel_rfl) (sd 2 rfl (ed rfl (qBs c53_o [] rfl rfl rfl zc53_o (sd 2 rfl (?_))))))))
    obtain ⟨g9, h⟩ := chk_some h
    refine ed rfl (qA c53_d ([] : List (List Int)) a0.2.1 rfl rfl (flat_len zc53_d a0.2.1) (map_dg (fun _ => rfl) _) g9 (sd 2 rfl (?_)))
    obtain ⟨g10, h⟩ := chk_some h
    refine ed rfl (qA c53_d (([] : List (List Int)) ++ a0.2.1) a1.2.1 rfl rfl (flat_len zc53_d a1.2.1) (map_dg (fun _ => rfl) _) g10 (ed rfl (qBs ci64 [] rfl rfl rfl zci64 (sd 2 rfl (?_)))))
    obtain ⟨g11, h⟩ := chk_some h
    refine ed rfl (qA ci64 ([] : List Int) a0.2.2 rfl rfl (flat_len zci64 a0.2.2) (map_dg (fun _ => rfl) _) g11 (sd 2 rfl (?_)))
    obtain ⟨g12, h⟩ := chk_some h
    refine ed rfl (qA ci64 (([] : List Int) ++ a0.2.2) a1.2.2 rfl rfl (flat_len zci64 a1.2.2) (map_dg (fun _ => rfl) _) g12 (?_))
    obtain ⟨v13, g14, h⟩ := ob_some h
    exact ed rfl (qC (qs rfl (qa rfl (erO ec53_d _) (qa rfl (erO eci64 _) eran))) (spec_l27Sum_s g14) (sd 6 rfl (evdn (qk [4, 6, 7] rfl (rn 1 rfl (ls_ret ((by cases h; exact ⟨.inl rfl, rfl⟩))))))))
def spec_ViewDelta (a0 : List Y119) (a1 : Y54) (a2 : Y139) : Option (Y75 × Bool) := obind (spec_ApplyDelta a0 a2) fun v1 => obind (spec_l28Z a0 a1) fun v3 => obind (spec_l28Z v1.1 a1) fun v5 => cond (!v1.2) (some ((0, [], []), false)) (cond (!v3.2) (some ((0, [], []), false)) (cond (!v5.2) (some ((0, [], []), false)) (obind (spec_NegateCounted v3.1) fun v11 => obind (spec_AddCounted v5.1 v11) fun v13 => some (v13.1, v13.2))))
theorem spec_ViewDelta_s {a0 : List Y119} {a1 : Y54} {a2 : Y139} {r : Y75 × Bool} (h : spec_ViewDelta a0 a1 a2 = some r) : SoundAt Tryz.prog 155 [.agg [dL c120_dd a0], .agg (c55_ddd a1), .agg (c140_dddd a2)] (.tup [.agg (c76_ooo r.1), .bool r.2]) := by
 unfold spec_ViewDelta at h
 refine st lit155 rfl (rn 1 rfl (rs (sp 2 rfl (?_))))
 obtain ⟨v1, g2, h⟩ := ob_some h
 refine qC (qa rfl (erg (erc (erD ec120_dd _) rfl)) (qa rfl (erg (erc rfl (erc rfl (erc (erD ec53_d _) (erc rfl (erc (erD ec53_d _) rfl)))))) eran)) (spec_ApplyDelta_s g2) (sp 6 rfl (evn (rs (sp 2 rfl (?_)))))
 obtain ⟨v3, g4, h⟩ := ob_some h
 refine qC (qa rfl (erg (erc (erD ec120_dd _) rfl)) (qa rfl (erg (erc rfl (erc (erD ec148_d _) (erc (erD eci64 _) rfl)))) eran)) (spec_l28Z_s g4) (sp 6 rfl (evn (rs (sp 2 rfl (?_)))))
 obtain ⟨v5, g6, h⟩ := ob_some h
 refine qC (qa rfl (erg (erc (erD ec120_oo _) rfl)) (qa rfl (erg (erc rfl (erc (erD ec148_d _) (erc (erD eci64 _) rfl)))) eran)) (spec_l28Z_s g6) (sp 6 rfl (evn (ls_seq_k fun K7 hK7 => rs (sp 3 rfl (?_)))))
 rcases cond_some h with ⟨g8, h⟩ | ⟨g8, h⟩
 ·exact qg 36 g8 rfl (sp 7 rfl (evn (qk [6, 10, 12, 43] rfl (qT rfl rfl (rn 1 rfl (ls_ret ((by cases h; exact ⟨.inl rfl, rfl⟩))))))))
 ·refine qg 36 g8 rfl (sp 4 rfl (?_))
  rcases cond_some h with ⟨g9, h⟩ | ⟨g9, h⟩
  ·exact qg 40 g9 rfl (sp 3 rfl (evn (qT rfl rfl (rn 1 rfl (ls_ret ((by cases h; exact ⟨.inl rfl, rfl⟩)))))))
  ·refine qg 40 g9 rfl (sp 3 rfl (evn ?_))
   rcases cond_some h with ⟨g10, h⟩ | ⟨g10, h⟩
   ·exact qT rfl g10 (rn 1 rfl (ls_ret ((by cases h; exact ⟨.inl rfl, rfl⟩))))
   ·refine qF rfl g10 (ls_skip (hK7 _ (rd (by kernel_rfl) (sd 2 rfl (?_)))))
    obtain ⟨v11, g12, h⟩ := ob_some h
    refine ed rfl (qC (qa rfl (erg (erc rfl (erc (erD ec53_o _) (erc (erD eci64 _) rfl)))) eran) (spec_NegateCounted_s g12) (?_))
    obtain ⟨v13, g14, h⟩ := ob_some h
    exact ed rfl (qC (qa rfl (erg (erc rfl (erc (erD ec53_o _) (erc (erD eci64 _) rfl)))) (qa rfl (erg (erc rfl (erc (erO ec53_o _) (erc (erO eci64 _) rfl)))) eran)) (spec_AddCounted_s g14) (sd 6 rfl (evdn (qk [6, 14, 15] rfl (rn 1 rfl (ls_ret ((by cases h; exact ⟨.inl rfl, rfl⟩))))))))
def spec_ApplyToView (a0 : Y77) (a1 : List Y119) (a2 : Y139) : Option (Y77 × Bool) := obind (spec_ViewDelta a1 a0.1 a2) fun v1 => cond (!v1.2) (some (((0, [], []), (0, [], [])), false)) (obind (spec_IsValidView a1 a0) fun v5 => cond (!v5) (some (((0, [], []), (0, [], [])), false)) (obind (spec_AddCounted a0.2 v1.1) fun v8 => cond (!v8.2) (some (((0, [], []), (0, [], [])), false)) (obind (spec_l7Copy a0.1) fun v12 => some ((v12, v8.1), true))))
theorem spec_ApplyToView_s {a0 : Y77} {a1 : List Y119} {a2 : Y139} {r : Y77 × Bool} (h : spec_ApplyToView a0 a1 a2 = some r) : SoundAt Tryz.prog 156 [.agg (c78_dddddd a0), .agg [dL c120_dd a1], .agg (c140_dddd a2)] (.tup [.agg (c78_oooooo r.1), .bool r.2]) := by
 unfold spec_ApplyToView at h
 refine st lit156 rfl (rn 1 rfl (rs (sp 4 rfl (?_))))
 obtain ⟨v1, g2, h⟩ := ob_some h
 refine qC (qa rfl (erg (erc (erD ec120_dd _) rfl)) (qa rfl (erg (erc rfl (erc (erD ec148_d _) (erc (erD eci64 _) rfl)))) (qa rfl (erg (erc rfl (erc rfl (erc (erD ec53_d _) (erc rfl (erc (erD ec53_d _) rfl)))))) eran))) (spec_ViewDelta_s g2) (sp 6 rfl (evn (ls_seq_k fun K3 hK3 => rs (sp 3 rfl (?_)))))
 rcases cond_some h with ⟨g4, h⟩ | ⟨g4, h⟩
 ·exact qg 22 g4 rfl (sp 5 rfl (evn (qT rfl rfl (rn 1 rfl (ls_ret ((by cases h; exact ⟨.inl rfl, rfl⟩)))))))
 ·refine qg 22 g4 rfl (sp 2 rfl (?_))
  obtain ⟨v5, g6, h⟩ := ob_some h
  refine oGR rfl rfl (qC (qa rfl (erg (erc (erD ec120_dd _) rfl)) (qa rfl (erg (erc rfl (erc (erD ec148_d _) (erc (erD eci64 _) (erc rfl (erc (erD ec53_d _) (erc (erD eci64 _) rfl))))))) eran)) (spec_IsValidView_s g6) (sp 2 rfl (evn ?_)))
  rcases cond_some h with ⟨g7, h⟩ | ⟨g7, h⟩
  ·exact qT rfl g7 (rn 1 rfl (qk [6, 7] rfl (ls_ret ((by cases h; exact ⟨.inl rfl, rfl⟩)))))
  ·refine qF rfl g7 (ls_skip (hK3 _ (rs (sp 3 rfl (?_)))))
   obtain ⟨v8, g9, h⟩ := ob_some h
   refine qC (qa rfl (erg (erc rfl (erc (erD ec53_d _) (erc (erD eci64 _) rfl)))) (qa rfl (erg (erc rfl (erc (erD ec53_o _) (erc (erD eci64 _) rfl)))) eran)) (spec_AddCounted_s g9) (sp 6 rfl (evn (ls_seq_k fun K10 hK10 => rn 1 rfl ?_)))
   rcases cond_some h with ⟨g11, h⟩ | ⟨g11, h⟩
   ·exact qT rfl g11 (rn 1 rfl (ls_ret ((by cases h; exact ⟨.inl rfl, rfl⟩))))
   ·refine qF rfl g11 (ls_skip (hK10 _ (rd (by kernel_rfl) (sd 2 rfl (?_)))))
    obtain ⟨v12, g13, h⟩ := ob_some h
    exact ed rfl (qC (qa rfl (erg (erc rfl (erc (erD ec148_d _) (erc (erD eci64 _) rfl)))) eran) (spec_l7Copy_s g13) (sd 4 rfl (evdn (ls_ret ((by cases h; exact ⟨.inl rfl, rfl⟩))))))
def c76_aaa (x : Y75) : List V := [nI x.1, aL c53_a x.2.1, aL ci64 x.2.2]
theorem zc76_aaa (x : Y75) : (c76_aaa x).length = 3 := rfl
theorem ec76_aaa (x : Y75) : erL (c76_aaa x) = c76_ddd x := (erc rfl (erc (erG ec53_a _) (erc (erG eci64 _) rfl)))
def c78_aaaaaa (x : Y77) : List V := [nI x.1.1, aL c148_a x.1.2.1, aL ci64 x.1.2.2, nI x.2.1, aL c53_a x.2.2.1, aL ci64 x.2.2.2]
theorem zc78_aaaaaa (x : Y77) : (c78_aaaaaa x).length = 6 := rfl
theorem ec78_aaaaaa (x : Y77) : erL (c78_aaaaaa x) = c78_dddddd x := (erc rfl (erc (erG ec148_a _) (erc (erG eci64 _) (erc rfl (erc (erG ec53_a _) (erc (erG eci64 _) rfl))))))
theorem dkc148_o (x : Y147) : deepL (c148_o x) = true := (dcc rfl (dcc (dco (fun _ => rfl) 3 _) dcn))
theorem dkc78_oooooo (x : Y77) : deepL (c78_oooooo x) = true := (dcc rfl (dcc (dco dkc148_o 148 _) (dcc (dco (fun _ => rfl) 3 _) (dcc rfl (dcc (dco dkc53_o 53 _) (dcc (dco (fun _ => rfl) 3 _) dcn))))))
theorem dkc76_ooo (x : Y75) : deepL (c76_ooo x) = true := (dcc rfl (dcc (dco dkc53_o 53 _) (dcc (dco (fun _ => rfl) 3 _) dcn)))
theorem gkc76_aaa (x : Y75) : argdL (c76_aaa x) = true := (acc rfl (acc (aca gkc53_a _) (acc (aca (fun _ => rfl) _) rfl)))
theorem gkc78_aaaaaa (x : Y77) : argdL (c78_aaaaaa x) = true := (acc rfl (acc (aca gkc148_a _) (acc (aca (fun _ => rfl) _) (acc rfl (acc (aca gkc53_a _) (acc (aca (fun _ => rfl) _) rfl))))))
theorem bkc76_ddd (x : Y75) : argAbleL (c76_ddd x) = true := (bcc rfl (bcc (ableD bkc53_d _) (bcc (ableD (fun _ => rfl) _) rfl)))
theorem bkc78_dddddd (x : Y77) : argAbleL (c78_dddddd x) = true := (bcc rfl (bcc (ableD bkc148_d _) (bcc (ableD (fun _ => rfl) _) (bcc rfl (bcc (ableD bkc53_d _) (bcc (ableD (fun _ => rfl) _) rfl))))))
theorem vkc76_ddd (x : Y75) : argVL (c76_ddd x) = c76_aaa x := (vcc rfl (vcc (argD vkc53_d _) (vcc (argD (fun _ => rfl) _) rfl)))
theorem vkc78_dddddd (x : Y77) : argVL (c78_dddddd x) = c78_aaaaaa x := (vcc rfl (vcc (argD vkc148_d _) (vcc (argD (fun _ => rfl) _) (vcc rfl (vcc (argD vkc53_d _) (vcc (argD (fun _ => rfl) _) rfl))))))
def spec_NotifyChange_J2 (rec : ((List Y75) × (List Y77) × (List Y75) × Int) -> Option (Sum ((List Y75) × (List Y77) × (List Y75)) (Y36 × (List Y75) × Bool))) (a0 : Y36) (y1 : List Y75) (y2 : List Y77) (y3 : List Y75) (y4 : Int) (v19 : Y75 × Bool) (v23 : Y77 × Bool) (v27 : Y75 × Bool) (x31 : Bool) : Option (Sum ((List Y75) × (List Y77) × (List Y75)) (Y36 × (List Y75) × Bool)) := cond x31 (obind (spec_l39Copy a0) fun v33 => some (.inr (v33, ([] : List Y75), false))) (chk (0 < List.length y2) (obind (geti y2 y4) fun e37 => chk (0 < List.length y3) (obind (geti y3 y4) fun e41 => chk (List.length y1 + List.length [v19.1] <= lim) (rec ((y1 ++ [v19.1]), (seti y2 y4 v23.1), (seti y3 y4 v27.1), (IntKind.i64.wrap (y4 + 1)))))))
def spec_NotifyChange_B1 (a0 : Y36) (a1 : Y139) (rec : ((List Y75) × (List Y77) × (List Y75) × Int) -> Option (Sum ((List Y75) × (List Y77) × (List Y75)) (Y36 × (List Y75) × Bool))) (s : (List Y75) × (List Y77) × (List Y75) × Int) : Option (Sum ((List Y75) × (List Y77) × (List Y75)) (Y36 × (List Y75) × Bool)) := match s with
  | (y1, y2, y3, y4) => cond (decide (y4 < (List.length a0.2.1 : Int))) (obind (geti a0.2.1 y4) fun e17 => obind (spec_ViewDelta a0.1 e17.1 a1) fun v19 => obind (geti a0.2.1 y4) fun e21 => obind (spec_ApplyToView e21 a0.1 a1) fun v23 => obind (geti a0.2.2 y4) fun e25 => obind (spec_AddCounted e25 v19.1) fun v27 => cond (!v19.2) (spec_NotifyChange_J2 rec a0 y1 y2 y3 y4 v19 v23 v27 true) (cond (!v23.2) (spec_NotifyChange_J2 rec a0 y1 y2 y3 y4 v19 v23 v27 true) (spec_NotifyChange_J2 rec a0 y1 y2 y3 y4 v19 v23 v27 (!v27.2)))) (some (.inl (y1, y2, y3)))
def spec_NotifyChange (a0 : Y36) (a1 : Y139) : Option (Y36 × (List Y75) × Bool) := obind (spec_l39Copy a0) fun v1 => obind (spec_ApplyDelta a0.1 a1) fun v3 => obind (spec_IsValidNotifier a0) fun v6 => cond (!v6) (some (v1, ([] : List Y75), false)) (cond (!v3.2) (some (v1, ([] : List Y75), false)) (obind (loopF (spec_NotifyChange_B1 a0 a1) fz (([] : List Y75), v1.2.1, v1.2.2, 0)) fun o1 => (match o1 with
  | .inl (z11, z12, z13) => (some ((v3.1, z12, z13), z11, true))
  | .inr r => some r)))
theorem spec_NotifyChange_s {a0 : Y36} {a1 : Y139} {r : Y36 × (List Y75) × Bool} (h : spec_NotifyChange a0 a1 = some r) : SoundAt Tryz.prog 111 [.agg (c37_dddddddddddddd a0), .agg (c140_dddd a1)] (.tup [.agg (c37_oooooooooooooo r.1), oL 76 c76_ooo r.2.1, .bool r.2.2]) := by
 unfold spec_NotifyChange at h
 refine sta lit111 rfl (aall (bcc (ableD bkc120_dd _) (bcc (ableD bkc78_dddddd _) (bcc (ableD bkc76_ddd _) rfl))) (aall (bcc rfl (bcc rfl (bcc (ableD bkc53_d _) (bcc rfl (bcc (ableD bkc53_d _) rfl))))) rfl)) (mvv (vag (vcc (argD vkc120_dd _) (vcc (argD vkc78_dddddd _) (vcc (argD vkc76_ddd _) rfl)))) (mvv (vag (vcc rfl (vcc rfl (vcc (argD vkc53_d _) (vcc rfl (vcc (argD vkc53_d _) rfl)))))) rfl)) (dcc (dag (dcc (dco dkc120_oo 120 _) (dcc (dco dkc78_oooooo 78 _) (dcc (dco dkc76_ooo 76 _) dcn)))) (dcc (dco dkc76_ooo 76 _) (dcc rfl dcn))) (rn 1 rfl (rs (qBs c76_ooo [] rfl rfl rfl zc76_ooo (sp 1 rfl (evn (rs (sp 1 rfl (?_))))))))
 obtain ⟨v1, g2, h⟩ := ob_some h
 refine qC (qa rfl (erg (erc (erG ec120_aa _) (erc (erG ec78_aaaaaa _) (erc (erG ec76_aaa _) rfl)))) eran) (spec_l39Copy_s g2) (sp 2 rfl (evn (rs (sp 3 rfl (?_)))))
 obtain ⟨v3, g4, h⟩ := ob_some h
 refine qC (qa rfl (erg (erc (erG ec120_aa _) rfl)) (qa rfl (erg (erc rfl (erc rfl (erc (erG ec53_a _) (erc rfl (erc (erG ec53_a _) rfl)))))) eran)) (spec_ApplyDelta_s g4) (sp 6 rfl (evn (ls_seq_k fun K5 hK5 => rs (sp 1 rfl (?_)))))
 obtain ⟨v6, g7, h⟩ := ob_some h
 refine qC (qa rfl (erg (erc (erG ec120_aa _) (erc (erG ec78_aaaaaa _) (erc (erG ec76_aaa _) rfl)))) eran) (spec_IsValidNotifier_s g7) (sp 2 rfl (?_))
 rcases cond_some h with ⟨g8, h⟩ | ⟨g8, h⟩
 ·exact qg 31 g8 rfl (sp 3 rfl (evn (qT rfl rfl (rn 1 rfl (ls_ret ((by cases h; exact ⟨.inl rfl, rfl⟩)))))))
 ·refine qg 31 g8 rfl (sp 3 rfl (evn (qk [2, 3, 4, 7, 8, 9, 34] rfl ?_)))
  rcases cond_some h with ⟨g9, h⟩ | ⟨g9, h⟩
  ·exact qT rfl g9 (rn 1 rfl (ls_ret ((by cases h; exact ⟨.inl rfl, rfl⟩))))
  ·refine qF rfl g9 (ls_skip (hK5 _ (ls_seq_k fun K10 hK10 => rn 1 rfl ?_)))
   obtain ⟨o1, hl, hr1⟩ := ob_some h
   have kXB1 : ∀ {z11 : List Y75} {z12 : List Y77} {z13 : List Y75}, (.inl (z11, z12, z13)) = o1 -> Jn K10 [(4, .box [oL 120 c120_oo [], oL 78 c78_oooooo [], oL 76 c76_ooo []]), (7, oL 76 c76_ooo z11), (8, .box [oL 120 c120_oo v1.1, oL 78 c78_oooooo z12, oL 76 c76_ooo z13]), (9, .box [oL 120 c120_oo v3.1])] := by
    intro z11 z12 z13 h σ' hk
    subst h
    replace h := hr1
    try dsimp only at h
    exact hK10 _ (lh hk rfl (rn 2 rfl (ls_ret ((by cases h; exact ⟨.inl rfl, rfl⟩)))))
   refine ls_rec (fun (s : (List Y75) × (List Y77) × (List Y75) × Int) => match s with | (y1, y2, y3, y4) => [(2, .box [aL c120_aa a0.1, aL c78_aaaaaa a0.2.1, aL c76_aaa a0.2.2]), (3, .box [.str a1.1, nI a1.2.1.1, aL c53_a a1.2.1.2, nI a1.2.2.1, aL c53_a a1.2.2.2]), (4, .box [oL 120 c120_oo [], oL 78 c78_oooooo [], oL 76 c76_ooo []]), (7, oL 76 c76_ooo y1), (8, .box [oL 120 c120_oo v1.1, oL 78 c78_oooooo y2, oL 76 c76_ooo y3]), (9, .box [oL 120 c120_oo v3.1]), (11, nI y4)]) _ _ _ _ hl (okr rfl) (fun _ => rfl) ?_
   rintro m ⟨y1, y2, y3, y4⟩ N h hN
   unfold spec_NotifyChange_B1 at h
   dsimp only at h
   refine ls_seq_k fun K14 hK14 => rn 1 rfl ?_
   rcases cond_some h with ⟨g15, h⟩ | ⟨g15, h⟩
   ·refine qT rfl g15 (ls_skip (hK14 _ (ls_seq_k fun K16 hK16 => ls_blk (rd (by kernel_rfl) (sd 5 rfl (?_))))))
    obtain ⟨e17, g18, h⟩ := ob_some h
    refine ed rfl (qI rfl zc78_aaaaaa g18 (sd 3 rfl (?_)))
    obtain ⟨v19, g20, h⟩ := ob_some h
    refine ed rfl (qC (qa rfl (erg (erc (erG ec120_aa _) rfl)) (qa rfl (erg (erc rfl (erc (erG ec148_a _) (erc (erG eci64 _) rfl)))) (qa rfl (erg (erc rfl (erc rfl (erc (erG ec53_a _) (erc rfl (erc (erG ec53_a _) rfl)))))) eran))) (spec_ViewDelta_s g20) (sd 6 rfl (evdn (rd (by kernel_rfl) (sd 3 rfl (?_))))))
    obtain ⟨e21, g22, h⟩ := ob_some h
    refine ed rfl (qI rfl zc78_aaaaaa g22 (sd 4 rfl (?_)))
    obtain ⟨v23, g24, h⟩ := ob_some h
    refine ed rfl (qC (qa rfl (erg (erc rfl (erc (erG ec148_a _) (erc (erG eci64 _) (erc rfl (erc (erG ec53_a _) (erc (erG eci64 _) rfl))))))) (qa rfl (erg (erc (erG ec120_aa _) rfl)) (qa rfl (erg (erc rfl (erc rfl (erc (erG ec53_a _) (erc rfl (erc (erG ec53_a _) rfl)))))) eran))) (spec_ApplyToView_s g24) (sd 6 rfl (evdn (qk [2, 3, 4, 7, 8, 9, 11, 12, 13, 14, 15] rfl (rd (by kernel_rfl) (sd 3 rfl (?_)))))))
    obtain ⟨e25, g26, h⟩ := ob_some h
    refine ed rfl (qI rfl zc76_aaa g26 (sd 2 rfl (?_)))
    obtain ⟨v27, g28, h⟩ := ob_some h
    refine ed rfl (qC (qa rfl (erg (erc rfl (erc (erG ec53_a _) (erc (erG eci64 _) rfl)))) (qa rfl (erg (erc rfl (erc (erD ec53_o _) (erc (erD eci64 _) rfl)))) eran)) (spec_AddCounted_s g28) (sd 6 rfl (evdn (ls_seq_k fun K29 hK29 => rk fun K30 hK30 => ?_))))
    have kJ2 : ∀ {x31 : Bool}, spec_NotifyChange_J2 (loopF (spec_NotifyChange_B1 a0 a1) m) a0 y1 y2 y3 y4 v19 v23 v27 x31 = some o1 -> Jn K30 [(2, .box [aL c120_aa a0.1, aL c78_aaaaaa a0.2.1, aL c76_aaa a0.2.2]), (3, .box [.str a1.1, nI a1.2.1.1, aL c53_a a1.2.1.2, nI a1.2.2.1, aL c53_a a1.2.2.2]), (4, .box [oL 120 c120_oo [], oL 78 c78_oooooo [], oL 76 c76_ooo []]), (7, oL 76 c76_ooo y1), (8, .box [oL 120 c120_oo v1.1, oL 78 c78_oooooo y2, oL 76 c76_ooo y3]), (9, .box [oL 120 c120_oo v3.1]), (11, nI y4), (12, .box [nI v19.1.1, oL 53 c53_o v19.1.2.1, oL 3 ci64 v19.1.2.2]), (14, .box [nI v23.1.1.1, oL 148 c148_o v23.1.1.2.1, oL 3 ci64 v23.1.1.2.2, nI v23.1.2.1, oL 53 c53_o v23.1.2.2.1, oL 3 ci64 v23.1.2.2.2]), (16, .box [nI v27.1.1, oL 53 c53_o v27.1.2.1, oL 3 ci64 v27.1.2.2]), (88, .bool x31)] := by
     intro x31 h σ' hk
     unfold spec_NotifyChange_J2 at h
     refine hK30 _ (lh hk rfl ?_)
     rcases cond_some h with ⟨g32, h⟩ | ⟨g32, h⟩
     ·refine qT rfl g32 (rs (sp 1 rfl (?_)))
      obtain ⟨v33, g34, h⟩ := ob_some h
      exact qC (qa rfl (erg (erc (erG ec120_aa _) (erc (erG ec78_aaaaaa _) (erc (erG ec76_aaa _) rfl)))) eran) (spec_l39Copy_s g34) (qBs c76_ooo [] rfl rfl rfl zc76_ooo (sp 3 rfl (evn (ls_ret ((by cases h; cases hr1; exact ⟨.inl rfl, rfl⟩))))))
     ·refine qF rfl g32 (ls_skip (hK29 _ (qk [2, 3, 4, 7, 8, 9, 11, 12, 14, 16] rfl ?_)))
      obtain ⟨g35, h⟩ := chk_some h
      refine ls_hg (gLb (q := 900003) (b := 8) [oL 120 c120_oo v1.1] [oL 76 c76_ooo y3] rfl rfl rfl g35 ?_)
      intro gg36 mm36
      refine qk [2, 3, 4, 7, 8, 9, 11, 12, 14, 16, 900003] rfl (rs (sp 4 rfl (?_)))
      obtain ⟨e37, g38, h⟩ := ob_some h
      refine qIt rfl rfl rfl rfl g38 (?_)
      refine qSt (y0 := e37) (i := y4) (es := 6) 0 v23.1 [2, 3, 4, 7, 8, 9, 11, 12, 16] rfl rfl rfl rfl rfl rfl rfl rfl rfl rfl zc78_oooooo g38 (fun x => sdL (dkc78_oooooo x)) (sdL (dcc rfl (dcc (dco dkc148_o 148 _) (dcc (dco (fun _ => rfl) 3 _) (dcc rfl (dcc (dco dkc53_o 53 _) (dcc (dco (fun _ => rfl) 3 _) dcn))))))) (yc (snc (sA (aca gkc120_aa _)) (snc (sA (aca gkc78_aaaaaa _)) (snc (sA (aca gkc76_aaa _)) rfl))) (yc (snc rfl (snc rfl (snc (sA (aca gkc53_a _)) (snc rfl (snc (sA (aca gkc53_a _)) rfl))))) (yc (snc rfl (snc rfl (snc rfl rfl))) (yc (sdL (dcf dkc76_ooo _)) (yc (snc (sO (dco dkc120_oo 120 _)) (snc rfl (snc (sO (dco dkc76_ooo 76 _)) rfl))) (yc (snc (sO (dco dkc120_oo 120 _)) rfl) (yc rfl (yc (snc rfl (snc (sO (dco dkc53_o 53 _)) (snc (sO (dco (fun _ => rfl) 3 _)) rfl))) (yc (snc rfl (snc (sO (dco dkc53_o 53 _)) (snc (sO (dco (fun _ => rfl) 3 _)) rfl))) yn))))))))) (?_)
      refine evn (ls_hg (gDb (q := 900003) (b := 8) [oL 120 c120_oo v1.1] [oL 76 c76_ooo y3] rfl rfl rfl (sl rfl) (qk [2, 3, 4, 7, 8, 9, 11, 12, 16] rfl (qk [2, 3, 4, 7, 8, 9, 11, 12, 16] rfl ?_))))
      obtain ⟨g39, h⟩ := chk_some h
      refine ls_hg (gLb (q := 900003) (b := 8) [oL 120 c120_oo v1.1, oL 78 c78_oooooo (seti y2 y4 v23.1)] [] rfl rfl rfl g39 ?_)
      intro gg40 mm40
      refine qk [2, 3, 4, 7, 8, 9, 11, 12, 16, 900003] rfl (rs (sp 4 rfl (?_)))
      obtain ⟨e41, g42, h⟩ := ob_some h
      refine qIt rfl rfl rfl rfl g42 (?_)
      refine qSt (y0 := e41) (i := y4) (es := 3) 0 v27.1 [2, 3, 4, 7, 8, 9, 11, 12] rfl rfl rfl rfl rfl rfl rfl rfl rfl rfl zc76_ooo g42 (fun x => sdL (dkc76_ooo x)) (sdL (dcc rfl (dcc (dco dkc53_o 53 _) (dcc (dco (fun _ => rfl) 3 _) dcn)))) (yc (snc (sA (aca gkc120_aa _)) (snc (sA (aca gkc78_aaaaaa _)) (snc (sA (aca gkc76_aaa _)) rfl))) (yc (snc rfl (snc rfl (snc (sA (aca gkc53_a _)) (snc rfl (snc (sA (aca gkc53_a _)) rfl))))) (yc (snc rfl (snc rfl (snc rfl rfl))) (yc (sdL (dcf dkc76_ooo _)) (yc (snc (sO (dco dkc120_oo 120 _)) (snc (sO (dco dkc78_oooooo 78 _)) (snc rfl rfl))) (yc (snc (sO (dco dkc120_oo 120 _)) rfl) (yc rfl (yc (snc rfl (snc (sO (dco dkc53_o 53 _)) (snc (sO (dco (fun _ => rfl) 3 _)) rfl))) yn)))))))) (?_)
      refine evn (ls_hg (gDb (q := 900003) (b := 8) [oL 120 c120_oo v1.1, oL 78 c78_oooooo (seti y2 y4 v23.1)] [] rfl rfl rfl (sl rfl) (qk [2, 3, 4, 7, 8, 9, 11, 12] rfl (rg (sp 2 rfl (qBs c76_ooo [v19.1] rfl rfl rfl zc76_ooo (?_)))))))
      obtain ⟨g43, h⟩ := chk_some h
      exact qA c76_ooo y1 [v19.1] rfl rfl (flat_len zc76_ooo [v19.1]) rfl g43 (sp 1 rfl (evn (hK16 _ (rg (sp 3 rfl (evn (hN _ _ h (okr rfl))))))))
    refine sp 3 rfl (?_)
    rcases cond_some h with ⟨g44, h⟩ | ⟨g44, h⟩
    ·exact qg 81 g44 rfl (sp 7 rfl (evn (kJ2 h _ (okr rfl))))
    ·refine qg 81 g44 rfl (sp 4 rfl (?_))
     rcases cond_some h with ⟨g45, h⟩ | ⟨g45, h⟩
     ·exact qg 85 g45 rfl (sp 3 rfl (evn (kJ2 h _ (okr rfl))))
     ·exact qg 85 g45 rfl (sp 3 rfl (evn (kJ2 h _ (okr rfl))))
   ·exact qF rfl g15 (ls_exit (kXB1 (Option.some.inj h) _ (okr rfl)))
def spec_InsertRow (a0 : Y42) (a1 : List Int) : Option (Y42 × Bool) := obind (spec_l5Copy a0) fun v1 => obind (spec_IsValidRelation a0) fun v4 => cond (!v4) (some (v1, false)) (cond ((List.length a1 : Int) != a0.1) (some (v1, false)) (obind (spec_AreValidValues a1) fun v8 => cond (!v8) (some (v1, false)) (obind (spec_l5Place a0 a1) fun v11 => cond v11.2 (some (v1, false)) (cond ((List.length a0.2 : Int) == 4000) (some (v1, false)) (chk (List.length ([] : List Int) + List.length a1 <= lim) (chk ((0 : Int) <= v11.1 ∧ v11.1 <= (List.length v1.2 : Int) ∧ (List.length v1.2 : Int) <= (List.length v1.2 : Int)) (chk (List.length ([([] : List Int) ++ a1]) + List.length (subl v1.2 v11.1 (List.length v1.2 : Int)) <= lim) (chk ((0 : Int) <= 0 ∧ 0 <= v11.1 ∧ v11.1 <= (List.length v1.2 : Int)) (chk (List.length ([] : List (List Int)) + List.length (subl v1.2 0 v11.1) <= lim) (chk (List.length (([] : List (List Int)) ++ (subl v1.2 0 v11.1)) + List.length (([([] : List Int) ++ a1]) ++ (subl v1.2 v11.1 (List.length v1.2 : Int))) <= lim) (some ((v1.1, (([] : List (List Int)) ++ (subl v1.2 0 v11.1)) ++ (([([] : List Int) ++ a1]) ++ (subl v1.2 v11.1 (List.length v1.2 : Int)))), true))))))))))))
theorem spec_InsertRow_s {a0 : Y42} {a1 : List Int} {r : Y42 × Bool} (h : spec_InsertRow a0 a1 = some r) : SoundAt Tryz.prog 158 [.agg (c43_dd a0), dL ci64 a1] (.tup [.agg (c43_dd r.1), .bool r.2]) := by
 unfold spec_InsertRow at h
 refine st lit158 rfl (rn 1 rfl (rs (sp 1 rfl (?_))))
 obtain ⟨v1, g2, h⟩ := ob_some h
 refine qC (qa rfl (erg (erc rfl (erc (erD ec53_d _) rfl))) eran) (spec_l5Copy_s g2) (sp 2 rfl (evn (ls_seq_k fun K3 hK3 => rs (sp 1 rfl (?_)))))
 obtain ⟨v4, g5, h⟩ := ob_some h
 refine qC (qa rfl (erg (erc rfl (erc (erD ec53_d _) rfl))) eran) (spec_IsValidRelation_s g5) (sp 2 rfl (?_))
 rcases cond_some h with ⟨g6, h⟩ | ⟨g6, h⟩
 ·exact qg 15 g6 rfl (sp 11 rfl (evn (qT rfl rfl (rn 1 rfl (ls_keep [(4, .box [nI v1.1, dL c53_d v1.2]), (5, .bool false)] ⟨(kb (cwr (cwe rfl (erO ec53_o _) cwn))), kr, trivial⟩ rfl (ls_ret ((by cases h; exact ⟨.inl rfl, rfl⟩))))))))
 ·refine qg 15 g6 rfl (sp 7 rfl (?_))
  rcases cond_some h with ⟨g7, h⟩ | ⟨g7, h⟩
  ·exact qg 22 g7 rfl (sp 4 rfl (evn (qT rfl rfl (rn 1 rfl (ls_keep [(4, .box [nI v1.1, dL c53_d v1.2]), (5, .bool false)] ⟨(kb (cwr (cwe rfl (erO ec53_o _) cwn))), kr, trivial⟩ rfl (ls_ret ((by cases h; exact ⟨.inl rfl, rfl⟩))))))))
  ·refine qg 22 g7 rfl (sp 1 rfl (?_))
   obtain ⟨v8, g9, h⟩ := ob_some h
   refine oGR rfl rfl (qC (qa rfl (erD eci64 _) eran) (spec_AreValidValues_s g9) (sp 2 rfl (evn ?_)))
   rcases cond_some h with ⟨g10, h⟩ | ⟨g10, h⟩
   ·exact qT rfl g10 (rn 1 rfl (ls_keep [(4, .box [nI v1.1, dL c53_d v1.2]), (5, .bool false)] ⟨(kb (cwr (cwe rfl (erO ec53_o _) cwn))), kr, trivial⟩ rfl (ls_ret ((by cases h; exact ⟨.inl rfl, rfl⟩)))))
   ·refine qF rfl g10 (ls_skip (hK3 _ (rs (sp 2 rfl (?_)))))
    obtain ⟨v11, g12, h⟩ := ob_some h
    refine qC (qa rfl (erg (erc rfl (erc (erD ec53_d _) rfl))) (qa rfl (erD eci64 _) eran)) (spec_l5Place_s g12) (sp 5 rfl (evn (ls_seq_k fun K13 hK13 => rs (sp 2 rfl (?_)))))
    rcases cond_some h with ⟨g14, h⟩ | ⟨g14, h⟩
    ·exact qg 35 g14 rfl (sp 5 rfl (evn (qT rfl rfl (rn 1 rfl (ls_keep [(4, .box [nI v1.1, dL c53_d v1.2]), (5, .bool false)] ⟨(kb (cwr (cwe rfl (erO ec53_o _) cwn))), kr, trivial⟩ rfl (ls_ret ((by cases h; exact ⟨.inl rfl, rfl⟩))))))))
    ·refine qg 35 g14 rfl (sp 5 rfl (evn ?_))
     rcases cond_some h with ⟨g15, h⟩ | ⟨g15, h⟩
     ·exact qT rfl g15 (rn 1 rfl (ls_keep [(4, .box [nI v1.1, dL c53_d v1.2]), (5, .bool false)] ⟨(kb (cwr (cwe rfl (erO ec53_o _) cwn))), kr, trivial⟩ rfl (ls_ret ((by cases h; exact ⟨.inl rfl, rfl⟩)))))
     ·refine qF rfl g15 (ls_skip (hK13 _ (rd (by kernel_rfl) (ed rfl (qBs ci64 [] rfl rfl rfl zci64 (sd 1 rfl (?_)))))))
      obtain ⟨g16, h⟩ := chk_some h
      refine ed rfl (qA ci64 ([] : List Int) a1 rfl rfl (flat_len zci64 a1) (map_dg (fun _ => rfl) _) g16 (ed rfl (qBs c53_o [([] : List Int) ++ a1] rfl rfl rfl zc53_o (sd 3 rfl (?_)))))
      obtain ⟨g17, h⟩ := chk_some h
      refine ed rfl (qSl rfl zc53_o g17 (?_))
      obtain ⟨g18, h⟩ := chk_some h
      refine ed rfl (qAd c53_o c53_d c53_d ([([] : List Int) ++ a1]) (subl v1.2 v11.1 (List.length v1.2 : Int)) rfl rfl (flat_len zc53_o (subl v1.2 v11.1 (List.length v1.2 : Int))) (map_dg (fun _ => rfl) _) g18 (fun _ => rfl) (fun _ => rfl) (fun _ => rfl) (fun _ => rfl) (sd 1 rfl (evdn (rs (qBs c53_o [] rfl rfl rfl zc53_o (sp 3 rfl (?_)))))))
      obtain ⟨g19, h⟩ := chk_some h
      refine qSl rfl zc53_o g19 (?_)
      obtain ⟨g20, h⟩ := chk_some h
      refine qA c53_d ([] : List (List Int)) (subl v1.2 0 v11.1) rfl rfl (flat_len zc53_o (subl v1.2 0 v11.1)) (map_dg (fun _ => rfl) _) g20 (sp 1 rfl (?_))
      obtain ⟨g21, h⟩ := chk_some h
      exact qA c53_d (([] : List (List Int)) ++ (subl v1.2 0 v11.1)) (([([] : List Int) ++ a1]) ++ (subl v1.2 v11.1 (List.length v1.2 : Int))) rfl rfl (flat_len zc53_d (([([] : List Int) ++ a1]) ++ (subl v1.2 v11.1 (List.length v1.2 : Int)))) rfl g21 (sp 2 rfl (evn (rn 1 rfl (ls_keep [(4, .box [nI v1.1, dL c53_d ((([] : List (List Int)) ++ (subl v1.2 0 v11.1)) ++ (([([] : List Int) ++ a1]) ++ (subl v1.2 v11.1 (List.length v1.2 : Int))))]), (5, .bool true)] ⟨(kb (cwr (cwe rfl (erO ec53_d _) cwn))), kr, trivial⟩ rfl (ls_ret ((by cases h; exact ⟨.inl rfl, rfl⟩)))))))
def spec_l5Any_J1 (x8 : List Int) (x9 : Int) (x10 : Int) (x11 : Int) (x12 : List (List Int)) : Option (Y42 × Y132) := some ((x11, x12), (x8, x9, x10))
def spec_l5Any_J2 (v3 : Y42 × Y132) (v6 : Int × Y132) (x23 : Bool) : Option (Y42 × Y132) := cond x23 (chk (0 < List.length v3.1.2) (obind (geti v3.1.2 0) fun e27 => chk (0 < List.length e27) (obind (geti v3.1.2 0) fun e31 => obind (spec_l1PickInt v6.2 [-1, 100, 99]) fun v33 => obind (geti e27 0) fun e35 => spec_l5Any_J1 v33.2.1 v33.2.2.1 v33.2.2.2 v3.1.1 (seti v3.1.2 0 (seti e27 0 v33.1))))) (spec_l5Any_J1 v6.2.1 v6.2.2.1 v6.2.2.2 v3.1.1 v3.1.2)
def spec_l5Any (a0 : Y132) : Option (Y42 × Y132) := obind (spec_l1Below a0 4) fun v1 => obind (spec_l5Rel v1.2 v1.1 6 4) fun v3 => obind (spec_l1Below v3.2 14) fun v6 => cond (v6.1 == 0) (obind (spec_l1PickInt v6.2 [-1, 6, IntKind.i64.wrap (v3.1.1 + 1)]) fun v14 => spec_l5Any_J1 v14.2.1 v14.2.2.1 v14.2.2.2 v14.1 v3.1.2) (cond (v6.1 == 1) (obind (spec_l4Row v6.2 (if 0 < v3.1.1 then v3.1.1 else 0) 4) fun v18 => chk (List.length v3.1.2 + List.length [v18.1] <= lim) (spec_l5Any_J1 v18.2.1 v18.2.2.1 v18.2.2.2 v3.1.1 (v3.1.2 ++ [v18.1]))) (cond (v6.1 == 2) (cond (decide (0 < (List.length v3.1.2 : Int))) (spec_l5Any_J2 v3 v6 (decide (0 < v3.1.1))) (spec_l5Any_J2 v3 v6 false)) (spec_l5Any_J1 v6.2.1 v6.2.2.1 v6.2.2.2 v3.1.1 v3.1.2)))
theorem spec_l5Any_s {a0 : Y132} {r : Y42 × Y132} (h : spec_l5Any a0 = some r) : PtrAt Tryz.prog 159 [aL cu8 a0.1, nI a0.2.1, nI a0.2.2] [] [aL cu8 r.2.1, nI r.2.2.1, nI r.2.2.2] (.agg (c43_oo r.1)) := by
 unfold spec_l5Any at h
 refine stp lit159 rfl (rn 1 rfl (rs (sp 2 rfl (?_))))
 obtain ⟨v1, g2, h⟩ := ob_some h
 refine qP rfl rfl rfl rfl (qs rfl eran) (spec_l1Below_s g2) (?_)
 obtain ⟨v3, g4, h⟩ := ob_some h
 refine qP rfl rfl rfl rfl (qs rfl (qs rfl (qs rfl eran))) (spec_l5Rel_s g4) (sp 2 rfl (evn (ls_seq_k fun K5 hK5 => rs (sp 1 rfl (?_)))))
 obtain ⟨v6, g7, h⟩ := ob_some h
 refine qP rfl rfl rfl rfl (qs rfl eran) (spec_l1Below_s g7) (evn (ls_blk (rn 1 rfl ?_)))
 have kJ1 : ∀ {x8 : List Int} {x9 : Int} {x10 : Int} {x11 : Int} {x12 : List (List Int)}, spec_l5Any_J1 x8 x9 x10 x11 x12 = some r -> Jn K5 [(0, .box [aL cu8 x8, nI x9, nI x10]), (2, .box [nI 0, oL 53 c53_o []]), (3, .box [nI x11, oL 53 c53_o x12])] := by
  intro x8 x9 x10 x11 x12 h σ' hk
  unfold spec_l5Any_J1 at h
  exact hK5 _ (lh hk rfl (rn 1 rfl (ls_ret ((by cases h; exact ⟨.inl rfl, rfl, rfl⟩)))))
 rcases cond_some h with ⟨g13, h⟩ | ⟨g13, h⟩
 ·refine qT rfl g13 (rg (sp 4 rfl (qBs ci64 [-1, 6, IntKind.i64.wrap (v3.1.1 + 1)] rfl rfl rfl zci64 (?_))))
  obtain ⟨v14, g15, h⟩ := ob_some h
  exact qP rfl rfl rfl rfl (qa rfl (erO eci64 _) eran) (spec_l1PickInt_s g15) (sp 2 rfl (evn (kJ1 h _ (okr rfl))))
 ·refine qF rfl g13 (rn 1 rfl ?_)
  rcases cond_some h with ⟨g16, h⟩ | ⟨g16, h⟩
  ·refine qT rfl g16 (qk [0, 2, 3] rfl (ls_hg (gLb0 (q := 900003) (b := 3) [nI v3.1.1] [] rfl rfl rfl ?_)))
   intro gg17
   refine qk [0, 2, 3, 900003] rfl (rgt 8 (by kernel_rfl) (sd 6 rfl (?_)))
   obtain ⟨v18, g19, h⟩ := ob_some h
   refine ed rfl (qP rfl rfl rfl rfl (qs rfl (qs rfl eran)) (spec_l4Row_s g19) (ed rfl (qBs c53_o [v18.1] rfl rfl rfl zc53_o (evdn (gDs (q := 900003) (b := 22) rfl rfl rfl rfl ?_)))))
   obtain ⟨g20, h⟩ := chk_some h
   exact qA c53_o v3.1.2 [v18.1] rfl rfl (flat_len zc53_o [v18.1]) rfl g20 (sp 2 rfl (evn (kJ1 h _ (okr rfl))))
  ·refine qF rfl g16 (rn 1 rfl ?_)
   rcases cond_some h with ⟨g21, h⟩ | ⟨g21, h⟩
   ·refine qT rfl g21 (rk fun K22 hK22 => ?_)
    have kJ2 : ∀ {x23 : Bool}, spec_l5Any_J2 v3 v6 x23 = some r -> Jn K22 [(0, .box (c133_a v6.2)), (2, .box [nI 0, oL 53 c53_o []]), (3, .box [nI v3.1.1, oL 53 c53_o v3.1.2]), (41, .bool x23)] := by
     intro x23 h σ' hk
     unfold spec_l5Any_J2 at h
     refine hK22 _ (lh hk rfl ?_)
     rcases cond_some h with ⟨g24, h⟩ | ⟨g24, h⟩
     ·refine qT rfl g24 (qk [0, 2, 3] rfl ?_)
      obtain ⟨g25, h⟩ := chk_some h
      refine ls_hg (gLb (q := 900004) (b := 3) [nI v3.1.1] [] rfl rfl rfl g25 ?_)
      intro gg26 mm26
      refine qk [0, 2, 3, 900004] rfl ?_
      obtain ⟨e27, g28, h⟩ := ob_some h
      obtain ⟨g29, h⟩ := chk_some h
      refine ls_hg (gLg (i := 0) (es := 1) 0 rfl rfl zc53_o g28 rfl rfl g29 ?_)
      intro gg30 mm30
      refine qk [0, 2, 3, 900003, 900004] rfl (ls_gh (ls_gh (rgt 7 (by kernel_rfl) (sd 2 rfl (?_)))))
      obtain ⟨e31, g32, h⟩ := ob_some h
      refine ed rfl (qIt rfl rfl rfl rfl g32 (?_))
      refine ed rfl (qLh rfl rfl rfl rfl rfl rfl (gk zc53_o g32 rfl) (?_))
      refine sd 1 rfl (ed rfl (qBs ci64 [-1, 100, 99] rfl rfl rfl zci64 (?_)))
      obtain ⟨v33, g34, h⟩ := ob_some h
      refine ed rfl (qP rfl rfl rfl rfl (qa rfl (erO eci64 _) eran) (spec_l1PickInt_s g34) (evdn (gh_k ?_)))
      obtain ⟨e35, g36, h⟩ := ob_some h
      refine qIt rfl rfl rfl rfl g36 (?_)
      refine qSt (y0 := e35) (i := 0) (es := 1) 0 v33.1 [0, 2, 3, 900004] rfl rfl rfl rfl rfl rfl rfl rfl rfl rfl zci64 g36 (fun _ => rfl) (sdL (dcc rfl dcn)) (yc (snc (sA (aca (fun _ => rfl) _)) (snc rfl (snc rfl rfl))) (yc (snc rfl (snc rfl rfl)) (yc (snc rfl (snc rfl rfl)) (yc (sgh (sdL (dcf dkc53_o _))) yn)))) (?_)
      exact evn (gDg (i := 0) (es := 1) 0 (seti e27 0 v33.1) rfl rfl zc53_o g28 rfl (sl rfl) rfl (gDb (q := 900004) (b := 3) [nI v3.1.1] [] rfl rfl rfl (sl rfl) (kJ1 h _ (okr rfl))))
     ·exact qF rfl g24 (ls_skip (kJ1 h _ (okr rfl)))
    refine sp 5 rfl (?_)
    rcases cond_some h with ⟨g37, h⟩ | ⟨g37, h⟩
    ·exact qg 37 g37 rfl (sp 4 rfl (evn (kJ2 h _ (okr rfl))))
    ·exact qg 37 g37 rfl (sp 4 rfl (evn (kJ2 h _ (okr rfl))))
   ·exact qF rfl g21 (ls_skip (kJ1 h _ (okr rfl)))
def c140_oodd (x : Y139) : List V := [.str x.1, nI x.2.1.1, oL 53 c53_o x.2.1.2, nI x.2.2.1, dL c53_d x.2.2.2]
theorem zc140_oodd (x : Y139) : (c140_oodd x).length = 5 := rfl
theorem ec140_oodd (x : Y139) : erL (c140_oodd x) = c140_dddd x := (erc rfl (erc rfl (erc (erO ec53_o _) (erc rfl (erc (erD ec53_d _) rfl)))))
def spec_l26Delta_J3 (rec : ((List Int) × Int × Int × Int × (List (List Int)) × Int) -> Option ((List Int) × Int × Int × Int × (List (List Int)))) (y6 : Int) (x21 : List Int) (x22 : Int) (x23 : Int) (x25 : Int) (x26 : List (List Int)) : Option ((List Int) × Int × Int × Int × (List (List Int))) := rec (x21, x22, x23, x25, x26, (IntKind.i64.wrap (y6 + 1)))
def spec_l26Delta_J2 (rec : ((List Int) × Int × Int × Int × (List (List Int)) × Int) -> Option ((List Int) × Int × Int × Int × (List (List Int)))) (e5 : Y119) (y4 : Int) (y5 : List (List Int)) (y6 : Int) (x21 : List Int) (x22 : Int) (x23 : Int) (x24 : Bool) : Option ((List Int) × Int × Int × Int × (List (List Int))) := cond x24 (obind (geti e5.2.2 y6) fun e28 => obind (spec_InsertRow (y4, y5) e28) fun v30 => spec_l26Delta_J3 rec y6 x21 x22 x23 v30.1.1 v30.1.2) (spec_l26Delta_J3 rec y6 x21 x22 x23 y4 y5)
def spec_l26Delta_B1 (e5 : Y119) (rec : ((List Int) × Int × Int × Int × (List (List Int)) × Int) -> Option ((List Int) × Int × Int × Int × (List (List Int)))) (s : (List Int) × Int × Int × Int × (List (List Int)) × Int) : Option ((List Int) × Int × Int × Int × (List (List Int))) := match s with
  | (y1, y2, y3, y4, y5, y6) => cond (decide (y6 < (List.length e5.2.2 : Int))) (obind (spec_l1Once (y1, y2, y3) 3) fun v32 => cond v32.1 (obind (geti e5.2.2 y6) fun e35 => spec_l26Delta_J2 rec e5 y4 y5 y6 v32.2.1 v32.2.2.1 v32.2.2.2 ((List.length e35 : Int) == (if 0 < (if e5.2.1 < 5 then e5.2.1 else 5) then (if e5.2.1 < 5 then e5.2.1 else 5) else 0))) (spec_l26Delta_J2 rec e5 y4 y5 y6 v32.2.1 v32.2.2.1 v32.2.2.2 false)) (some (y1, y2, y3, y4, y5))
def spec_l26Delta_J4 (z15 : Int) (z16 : List (List Int)) (x40 : List Int) (x41 : Int) (x42 : Int) (x43 : List UInt8) (x44 : Int) (x45 : List (List Int)) : Option (Y139 × Y132) := some ((x43, (x44, x45), (z15, z16)), (x40, x41, x42))
def spec_l26Delta (a0 : Y132) (a1 : List Y119) : Option (Y139 × Y132) := cond ((List.length a1 : Int) == 0) (some (([114], (0, []), (0, [])), a0)) (obind (spec_l1Below a0 (List.length a1 : Int)) fun v3 => obind (geti a1 v3.1) fun e5 => obind (spec_l5Rel v3.2 (if 0 < (if e5.2.1 < 5 then e5.2.1 else 5) then (if e5.2.1 < 5 then e5.2.1 else 5) else 0) 3 4) fun v7 => obind (spec_l5Rel v7.2 (if 0 < (if e5.2.1 < 5 then e5.2.1 else 5) then (if e5.2.1 < 5 then e5.2.1 else 5) else 0) 2 4) fun v9 => obind (loopF (spec_l26Delta_B1 e5) fz (v9.2.1, v9.2.2.1, v9.2.2.2, v9.1.1, v9.1.2, 0)) fun o1 => (match o1 with
  | (z12, z13, z14, z15, z16) => (obind (spec_l1Below (z12, z13, z14) 14) fun v38 => cond (v38.1 == 0) (obind (spec_l1Pick v38.2 ([[], [119], [115]])) fun v47 => spec_l26Delta_J4 z15 z16 v47.2.1 v47.2.2.1 v47.2.2.2 v47.1 v7.1.1 v7.1.2) (cond (v38.1 == 1) (obind (spec_l5Any v38.2) fun v50 => spec_l26Delta_J4 z15 z16 v50.2.1 v50.2.2.1 v50.2.2.2 e5.1 v50.1.1 v50.1.2) (spec_l26Delta_J4 z15 z16 v38.2.1 v38.2.2.1 v38.2.2.2 e5.1 v7.1.1 v7.1.2)))))
theorem spec_l26Delta_s {a0 : Y132} {a1 : List Y119} {r : Y139 × Y132} (h : spec_l26Delta a0 a1 = some r) : PtrAt Tryz.prog 112 [aL cu8 a0.1, nI a0.2.1, nI a0.2.2] [.agg [dL c120_dd a1]] [aL cu8 r.2.1, nI r.2.2.1, nI r.2.2.2] (.agg (c140_oodd r.1)) := by
 unfold spec_l26Delta at h
 refine stp lit112 rfl (rn 1 rfl (ls_seq_k fun K1 hK1 => rn 1 rfl ?_))
 rcases cond_some h with ⟨g2, h⟩ | ⟨g2, h⟩
 ·exact qT rfl g2 (rn 1 rfl (ls_keep [(0, .box (c133_a a0)), (4, .box [.str [114], nI 0, oL 53 c53_o [], nI 0, dL c53_d []])] ⟨kr, (kb (cwr (cwr (cwr (cwr (cwe rfl rfl cwn)))))), trivial⟩ rfl (ls_ret ((by cases h; exact ⟨.inl rfl, rfl, rfl⟩)))))
 ·refine qF rfl g2 (ls_skip (hK1 _ (rd (by kernel_rfl) (sd 6 rfl (?_)))))
  obtain ⟨v3, g4, h⟩ := ob_some h
  refine ed rfl (qP rfl rfl rfl rfl (qs rfl eran) (spec_l1Below_s g4) (?_))
  obtain ⟨e5, g6, h⟩ := ob_some h
  refine ed rfl (qI rfl zc120_dd g6 (sd 3 rfl (evdn (rn 1 rfl (rd (by kernel_rfl) (sd 4 rfl (?_)))))))
  obtain ⟨v7, g8, h⟩ := ob_some h
  refine ed rfl (qP rfl rfl rfl rfl (qs rfl (qs rfl (qs rfl eran))) (spec_l5Rel_s g8) (sd 2 rfl (?_)))
  obtain ⟨v9, g10, h⟩ := ob_some h
  refine ed rfl (qP rfl rfl rfl rfl (qs rfl (qs rfl (qs rfl eran))) (spec_l5Rel_s g10) (sd 3 rfl (evdn (ls_seq_k fun K11 hK11 => rn 1 rfl ?_))))
  obtain ⟨o1, hl, hr1⟩ := ob_some h
  have kXB1 : ∀ {z12 : List Int} {z13 : Int} {z14 : Int} {z15 : Int} {z16 : List (List Int)}, (z12, z13, z14, z15, z16) = o1 -> Jn K11 [(0, .box [aL cu8 z12, nI z13, nI z14]), (4, .box [.str [], nI 0, oL 53 c53_o [], nI 0, oL 53 c53_o []]), (7, .box [.str e5.1, nI v7.1.1, oL 53 c53_o v7.1.2, nI z15, dL c53_d z16])] := by
   intro z12 z13 z14 z15 z16 h σ' hk
   subst h
   replace h := hr1
   try dsimp only at h
   refine hK11 _ (lh hk rfl (ls_seq_k fun K37 hK37 => rs (sp 1 rfl (?_))))
   obtain ⟨v38, g39, h⟩ := ob_some h
   refine qP rfl rfl rfl rfl (qs rfl eran) (spec_l1Below_s g39) (evn (ls_blk (rn 1 rfl ?_)))
   have kJ4 : ∀ {x40 : List Int} {x41 : Int} {x42 : Int} {x43 : List UInt8} {x44 : Int} {x45 : List (List Int)}, spec_l26Delta_J4 z15 z16 x40 x41 x42 x43 x44 x45 = some r -> Jn K37 [(0, .box [aL cu8 x40, nI x41, nI x42]), (4, .box [.str [], nI 0, oL 53 c53_o [], nI 0, oL 53 c53_o []]), (7, .box [.str x43, nI x44, oL 53 c53_o x45, nI z15, dL c53_d z16])] := by
    intro x40 x41 x42 x43 x44 x45 h σ' hk
    unfold spec_l26Delta_J4 at h
    exact hK37 _ (lh hk rfl (rn 1 rfl (ls_ret ((by cases h; exact ⟨.inl rfl, rfl, rfl⟩)))))
   rcases cond_some h with ⟨g46, h⟩ | ⟨g46, h⟩
   ·refine qT rfl g46 (rg (sp 1 rfl (qBs cst [[], [119], [115]] rfl rfl rfl zcst (?_))))
    obtain ⟨v47, g48, h⟩ := ob_some h
    exact qP rfl rfl rfl rfl (qa rfl (erO ecst _) eran) (spec_l1Pick_s g48) (sp 2 rfl (evn (kJ4 h _ (okr rfl))))
   ·refine qF rfl g46 (rn 1 rfl ?_)
    rcases cond_some h with ⟨g49, h⟩ | ⟨g49, h⟩
    ·refine qT rfl g49 (rg (sp 1 rfl (?_)))
     obtain ⟨v50, g51, h⟩ := ob_some h
     exact qP rfl rfl rfl rfl eran (spec_l5Any_s g51) (sp 2 rfl (evn (kJ4 h _ (okr rfl))))
    ·exact qF rfl g49 (ls_skip (kJ4 h _ (okr rfl)))
  refine ls_rec (fun (s : (List Int) × Int × Int × Int × (List (List Int)) × Int) => match s with | (y1, y2, y3, y4, y5, y6) => [(0, .box [aL cu8 y1, nI y2, nI y3]), (4, .box [.str [], nI 0, oL 53 c53_o [], nI 0, oL 53 c53_o []]), (5, .box [.str e5.1, nI e5.2.1, dL c53_d e5.2.2]), (6, nI (if 0 < (if e5.2.1 < 5 then e5.2.1 else 5) then (if e5.2.1 < 5 then e5.2.1 else 5) else 0)), (7, .box [.str e5.1, nI v7.1.1, oL 53 c53_o v7.1.2, nI y4, dL c53_d y5]), (8, nI y6)]) _ _ _ _ hl ⟨kr, kr, kr, kr, (kb (cwr (cwr (cwr (cwr (cwe rfl (erO ec53_o _) cwn)))))), kr, trivial⟩ (fun _ => rfl) ?_
  rintro m ⟨y1, y2, y3, y4, y5, y6⟩ N h hN
  unfold spec_l26Delta_B1 at h
  dsimp only at h
  refine ls_seq_k fun K17 hK17 => rn 1 rfl ?_
  rcases cond_some h with ⟨g18, h⟩ | ⟨g18, h⟩
  ·refine qT rfl g18 (ls_skip (hK17 _ (ls_seq_k fun K19 hK19 => ls_blk (rk fun K20 hK20 => ?_))))
   have kJ2 : ∀ {x21 : List Int} {x22 : Int} {x23 : Int} {x24 : Bool}, spec_l26Delta_J2 (loopF (spec_l26Delta_B1 e5) m) e5 y4 y5 y6 x21 x22 x23 x24 = some o1 -> Jn K20 [(0, .box [aL cu8 x21, nI x22, nI x23]), (4, .box [.str [], nI 0, oL 53 c53_o [], nI 0, oL 53 c53_o []]), (5, .box [.str e5.1, nI e5.2.1, dL c53_d e5.2.2]), (6, nI (if 0 < (if e5.2.1 < 5 then e5.2.1 else 5) then (if e5.2.1 < 5 then e5.2.1 else 5) else 0)), (7, .box [.str e5.1, nI v7.1.1, oL 53 c53_o v7.1.2, nI y4, dL c53_d y5]), (8, nI y6), (57, .bool x24)] := by
    intro x21 x22 x23 x24 h σ' hk
    unfold spec_l26Delta_J2 at h
    refine hK20 _ (lh hk rfl ?_)
    have kJ3 : ∀ {x25 : Int} {x26 : List (List Int)}, spec_l26Delta_J3 (loopF (spec_l26Delta_B1 e5) m) y6 x21 x22 x23 x25 x26 = some o1 -> Jn K19 [(0, .box [aL cu8 x21, nI x22, nI x23]), (4, .box [.str [], nI 0, oL 53 c53_o [], nI 0, oL 53 c53_o []]), (5, .box [.str e5.1, nI e5.2.1, dL c53_d e5.2.2]), (6, nI (if 0 < (if e5.2.1 < 5 then e5.2.1 else 5) then (if e5.2.1 < 5 then e5.2.1 else 5) else 0)), (7, .box [.str e5.1, nI v7.1.1, oL 53 c53_o v7.1.2, nI x25, dL c53_d x26]), (8, nI y6)] := by
     intro x25 x26 h σ' hk
     unfold spec_l26Delta_J3 at h
     exact hK19 _ (lh hk rfl (rg (sp 3 rfl (evn (hN _ _ h (okr rfl))))))
    rcases cond_some h with ⟨g27, h⟩ | ⟨g27, h⟩
    ·refine qT rfl g27 (rgd (by kernel_rfl) (sd 6 rfl (?_)))
     obtain ⟨e28, g29, h⟩ := ob_some h
     refine ed rfl (qI rfl zc53_d g29 (sd 1 rfl (?_)))
     obtain ⟨v30, g31, h⟩ := ob_some h
     exact ed rfl (qC (qa rfl (erg (erc rfl (erc (erD ec53_d _) rfl))) (qa rfl (erD eci64 _) eran)) (spec_InsertRow_s g31) (sd 5 rfl (evdn (kJ3 h _ (okr rfl)))))
    ·exact qF rfl g27 (ls_skip (kJ3 h _ (okr rfl)))
   refine sp 1 rfl (?_)
   obtain ⟨v32, g33, h⟩ := ob_some h
   refine qP rfl rfl rfl rfl (qs rfl eran) (spec_l1Once_s g33) (sp 1 rfl (?_))
   rcases cond_some h with ⟨g34, h⟩ | ⟨g34, h⟩
   ·refine qg 47 g34 rfl (sp 4 rfl (?_))
    obtain ⟨e35, g36, h⟩ := ob_some h
    exact oGR rfl rfl (qI rfl zc53_d g36 (sp 5 rfl (evn (kJ2 h _ (okr rfl)))))
   ·exact qg 47 g34 rfl (sp 10 rfl (evn (kJ2 h _ (okr rfl))))
  ·exact qF rfl g18 (ls_exit (kXB1 (Option.some.inj h) _ (okr rfl)))
def c37_oooooooooodddd (x : Y36) : List V := [oL 120 c120_oo x.1, oL 78 c78_oooooo x.2.1, dL c76_ddd x.2.2]
theorem zc37_oooooooooodddd (x : Y36) : (c37_oooooooooodddd x).length = 3 := rfl
theorem ec37_oooooooooodddd (x : Y36) : erL (c37_oooooooooodddd x) = c37_dddddddddddddd x := (erc (erO ec120_oo _) (erc (erO ec78_oooooo _) (erc (erD ec76_ddd _) rfl)))
def spec_l39Watch_B1  (rec : ((List Int) × Int × Int × (List Y119) × (List Y77) × (List Y75) × Int) -> Option ((List Int) × Int × Int × (List Y119) × (List Y77) × (List Y75))) (s : (List Int) × Int × Int × (List Y119) × (List Y77) × (List Y75) × Int) : Option ((List Int) × Int × Int × (List Y119) × (List Y77) × (List Y75)) := match s with
  | (y1, y2, y3, y4, y5, y6, y7) => cond (decide (0 < y7)) (obind (spec_l7Query (y1, y2, y3)) fun v17 => obind (spec_AddWatcher (y4, y5, y6) v17.1) fun v19 => rec (v17.2.1, v17.2.2.1, v17.2.2.2, v19.1.1, v19.1.2.1, v19.1.2.2, (IntKind.i64.wrap (y7 - 1)))) (some (y1, y2, y3, y4, y5, y6))
def spec_l39Watch_J3 (x28 : List Y77) (x33 : List Int) (x34 : Int) (x35 : Int) (x36 : List Y119) (x37 : List Y75) : Option (Y36 × Y132) := some ((x36, x28, x37), (x33, x34, x35))
def spec_l39Watch_J2 (x24 : List Int) (x25 : Int) (x26 : Int) (x27 : List Y119) (x28 : List Y77) (x29 : List Y75) : Option (Y36 × Y132) := obind (spec_l1Below (x24, x25, x26) 16) fun v31 => cond (v31.1 == 0) (obind (spec_l26Delta v31.2 x27) fun v39 => obind (spec_ApplyDelta x27 v39.1) fun v41 => spec_l39Watch_J3 x28 v39.2.1 v39.2.2.1 v39.2.2.2 v41.1 x29) (cond (v31.1 == 1) (cond (decide (0 < (List.length x29 : Int))) (chk ((0 : Int) <= 1 ∧ 1 <= (List.length x29 : Int) ∧ (List.length x29 : Int) <= (List.length x29 : Int)) (spec_l39Watch_J3 x28 v31.2.1 v31.2.2.1 v31.2.2.2 x27 (subl x29 1 (List.length x29 : Int)))) (spec_l39Watch_J3 x28 v31.2.1 v31.2.2.1 v31.2.2.2 x27 x29)) (spec_l39Watch_J3 x28 v31.2.1 v31.2.2.1 v31.2.2.2 x27 x29))
def spec_l39Watch (a0 : Y132) : Option (Y36 × Y132) := obind (spec_l6Db a0) fun v1 => obind (spec_NewNotifier v1.1) fun v3 => obind (spec_l1Below v1.2 3) fun v6 => obind (loopF spec_l39Watch_B1 fz (v6.2.1, v6.2.2.1, v6.2.2.2, v3.1.1, v3.1.2.1, v3.1.2.2, v6.1)) fun o1 => (match o1 with
  | (z8, z9, z10, z11, z12, z13) => (obind (spec_l1Once (z8, z9, z10) 2) fun v22 => cond v22.1 (obind (spec_l26Delta v22.2 z11) fun v47 => obind (spec_NotifyChange (z11, z12, z13) v47.1) fun v49 => spec_l39Watch_J2 v47.2.1 v47.2.2.1 v47.2.2.2 v49.1.1 v49.1.2.1 v49.1.2.2) (spec_l39Watch_J2 v22.2.1 v22.2.2.1 v22.2.2.2 z11 z12 z13)))
theorem spec_l39Watch_s {a0 : Y132} {r : Y36 × Y132} (h : spec_l39Watch a0 = some r) : PtrAt Tryz.prog 58 [aL cu8 a0.1, nI a0.2.1, nI a0.2.2] [] [aL cu8 r.2.1, nI r.2.2.1, nI r.2.2.2] (.agg (c37_oooooooooodddd r.1)) := by
 unfold spec_l39Watch at h
 refine stp lit58 rfl (rn 1 rfl (rs (sp 1 rfl (?_))))
 obtain ⟨v1, g2, h⟩ := ob_some h
 refine qP rfl rfl rfl rfl eran (spec_l6Db_s g2) (?_)
 obtain ⟨v3, g4, h⟩ := ob_some h
 refine qC (qa rfl (erg (erc (erO ec120_oo _) rfl)) eran) (spec_NewNotifier_s g4) (sp 6 rfl (evn (ls_seq_k fun K5 hK5 => rs (sp 1 rfl (?_)))))
 obtain ⟨v6, g7, h⟩ := ob_some h
 refine qP rfl rfl rfl rfl (qs rfl eran) (spec_l1Below_s g7) (sp 1 rfl (evn ?_))
 obtain ⟨o1, hl, hr1⟩ := ob_some h
 have kXB1 : ∀ {z8 : List Int} {z9 : Int} {z10 : Int} {z11 : List Y119} {z12 : List Y77} {z13 : List Y75}, (z8, z9, z10, z11, z12, z13) = o1 -> Jn K5 [(0, .box [aL cu8 z8, nI z9, nI z10]), (2, .box [oL 120 c120_oo [], oL 78 c78_oooooo [], oL 76 c76_ooo []]), (3, .box [oL 120 c120_oo z11, oL 78 c78_oooooo z12, oL 76 c76_ooo z13])] := by
  intro z8 z9 z10 z11 z12 z13 h σ' hk
  subst h
  replace h := hr1
  try dsimp only at h
  refine hK5 _ (lh hk rfl (ls_seq_k fun K21 hK21 => rs (sp 1 rfl (?_))))
  obtain ⟨v22, g23, h⟩ := ob_some h
  refine qP rfl rfl rfl rfl (qs rfl eran) (spec_l1Once_s g23) (evn ?_)
  have kJ2 : ∀ {x24 : List Int} {x25 : Int} {x26 : Int} {x27 : List Y119} {x28 : List Y77} {x29 : List Y75}, spec_l39Watch_J2 x24 x25 x26 x27 x28 x29 = some r -> Jn K21 [(0, .box [aL cu8 x24, nI x25, nI x26]), (2, .box [oL 120 c120_oo [], oL 78 c78_oooooo [], oL 76 c76_ooo []]), (3, .box [oL 120 c120_oo x27, oL 78 c78_oooooo x28, oL 76 c76_ooo x29])] := by
   intro x24 x25 x26 x27 x28 x29 h σ' hk
   unfold spec_l39Watch_J2 at h
   refine hK21 _ (lh hk rfl (ls_seq_k fun K30 hK30 => rs (sp 1 rfl (?_))))
   obtain ⟨v31, g32, h⟩ := ob_some h
   refine qP rfl rfl rfl rfl (qs rfl eran) (spec_l1Below_s g32) (evn (ls_blk (rn 1 rfl ?_)))
   have kJ3 : ∀ {x33 : List Int} {x34 : Int} {x35 : Int} {x36 : List Y119} {x37 : List Y75}, spec_l39Watch_J3 x28 x33 x34 x35 x36 x37 = some r -> Jn K30 [(0, .box [aL cu8 x33, nI x34, nI x35]), (2, .box [oL 120 c120_oo [], oL 78 c78_oooooo [], oL 76 c76_ooo []]), (3, .box [oL 120 c120_oo x36, oL 78 c78_oooooo x28, dL c76_ddd x37])] := by
    intro x33 x34 x35 x36 x37 h σ' hk
    unfold spec_l39Watch_J3 at h
    exact hK30 _ (lh hk rfl (rn 1 rfl (ls_ret ((by cases h; exact ⟨.inl rfl, rfl, rfl⟩)))))
   rcases cond_some h with ⟨g38, h⟩ | ⟨g38, h⟩
   ·refine qT rfl g38 (rgd (by kernel_rfl) (sd 5 rfl (?_)))
    obtain ⟨v39, g40, h⟩ := ob_some h
    refine ed rfl (qP rfl rfl rfl rfl (qa rfl (erg (erc (erD ec120_oo _) rfl)) eran) (spec_l26Delta_s g40) (?_))
    obtain ⟨v41, g42, h⟩ := ob_some h
    exact ed rfl (qC (qa rfl (erg (erc (erD ec120_oo _) rfl)) (qa rfl (erg (erc rfl (erc rfl (erc (erO ec53_o _) (erc rfl (erc (erD ec53_d _) rfl)))))) eran)) (spec_ApplyDelta_s g42) (sd 5 rfl (evdn (kJ3 h _ ⟨kr, kr, (kb (cwr (cwr (cwe rfl (erO ec76_ooo _) cwn)))), trivial⟩))))
   ·refine qF rfl g38 (rn 1 rfl ?_)
    rcases cond_some h with ⟨g43, h⟩ | ⟨g43, h⟩
    ·refine qT rfl g43 (rn 1 rfl ?_)
     rcases cond_some h with ⟨g44, h⟩ | ⟨g44, h⟩
     ·refine qT rfl g44 (rg (sp 2 rfl (?_)))
      obtain ⟨g45, h⟩ := chk_some h
      exact qSl rfl zc76_ooo g45 (sp 2 rfl (evn (kJ3 h _ ⟨kr, kr, (kb (cwr (cwr (cwe rfl (erD ec76_ooo _) cwn)))), trivial⟩)))
     ·exact qF rfl g44 (ls_skip (kJ3 h _ ⟨kr, kr, (kb (cwr (cwr (cwe rfl (erO ec76_ooo _) cwn)))), trivial⟩))
    ·exact qF rfl g43 (ls_skip (kJ3 h _ ⟨kr, kr, (kb (cwr (cwr (cwe rfl (erO ec76_ooo _) cwn)))), trivial⟩))
  rcases cond_some h with ⟨g46, h⟩ | ⟨g46, h⟩
  ·refine qT rfl g46 (rgd (by kernel_rfl) (sd 4 rfl (?_)))
   obtain ⟨v47, g48, h⟩ := ob_some h
   refine ed rfl (qP rfl rfl rfl rfl (qa rfl (erg (erc (erD ec120_oo _) rfl)) eran) (spec_l26Delta_s g48) (?_))
   obtain ⟨v49, g50, h⟩ := ob_some h
   exact ed rfl (qC (qa rfl (erg (erc (erD ec120_oo _) (erc (erD ec78_oooooo _) (erc (erD ec76_ooo _) rfl)))) (qa rfl (erg (erc rfl (erc rfl (erc (erO ec53_o _) (erc rfl (erc (erD ec53_d _) rfl)))))) eran)) (spec_NotifyChange_s g50) (sd 5 rfl (evdn (kJ2 h _ (okr rfl)))))
  ·exact qF rfl g46 (ls_skip (kJ2 h _ (okr rfl)))
 refine ls_rec (fun (s : (List Int) × Int × Int × (List Y119) × (List Y77) × (List Y75) × Int) => match s with | (y1, y2, y3, y4, y5, y6, y7) => [(0, .box [aL cu8 y1, nI y2, nI y3]), (2, .box [oL 120 c120_oo [], oL 78 c78_oooooo [], oL 76 c76_ooo []]), (3, .box [oL 120 c120_oo y4, oL 78 c78_oooooo y5, oL 76 c76_ooo y6]), (5, nI y7)]) _ _ _ _ hl (okr rfl) (fun _ => rfl) ?_
 rintro m ⟨y1, y2, y3, y4, y5, y6, y7⟩ N h hN
 unfold spec_l39Watch_B1 at h
 dsimp only at h
 refine ls_seq_k fun K14 hK14 => rn 1 rfl ?_
 rcases cond_some h with ⟨g15, h⟩ | ⟨g15, h⟩
 ·refine qT rfl g15 (ls_skip (hK14 _ (ls_seq_k fun K16 hK16 => ls_blk (rgd (by kernel_rfl) (sd 2 rfl (?_))))))
  obtain ⟨v17, g18, h⟩ := ob_some h
  refine ed rfl (qP rfl rfl rfl rfl eran (spec_l7Query_s g18) (?_))
  obtain ⟨v19, g20, h⟩ := ob_some h
  exact ed rfl (qC (qa rfl (erg (erc (erD ec120_oo _) (erc (erD ec78_oooooo _) (erc (erD ec76_ooo _) rfl)))) (qa rfl (erg (erc rfl (erc (erO ec148_o _) (erc (erO eci64 _) rfl)))) eran)) (spec_AddWatcher_s g20) (sd 4 rfl (evdn (hK16 _ (rg (sp 3 rfl (evn (hN _ _ h (okr rfl)))))))))
 ·exact qF rfl g15 (ls_exit (kXB1 (Option.some.inj h) _ (okr rfl)))
def spec_l7Any_J1 (x6 : List Int) (x7 : Int) (x8 : Int) (x9 : Int) (x10 : List Y147) (x11 : List Int) : Option (Y54 × Y132) := some ((x9, x10, x11), (x6, x7, x8))
def spec_l7Any (a0 : Y132) : Option (Y54 × Y132) := obind (spec_l7Query a0) fun v1 => obind (spec_l1Below v1.2 14) fun v4 => cond (v4.1 == 0) (obind (spec_l1PickInt v4.2 [0, 6, IntKind.i64.wrap (v1.1.1 + 1)]) fun v13 => spec_l7Any_J1 v13.2.1 v13.2.2.1 v13.2.2.2 v13.1 v1.1.2.1 v1.1.2.2) (cond (v4.1 == 1) (obind (spec_l1Pick v4.2 ([[], [119], [114]])) fun v16 => chk (List.length v1.1.2.1 + List.length ([(v16.1, [0])]) <= lim) (spec_l7Any_J1 v16.2.1 v16.2.2.1 v16.2.2.2 v1.1.1 (v1.1.2.1 ++ ([(v16.1, [0])])) v1.1.2.2)) (cond (v4.1 == 2) (obind (spec_l1Below v4.2 6) fun v20 => chk (List.length v1.1.2.2 + List.length [IntKind.i64.wrap (v20.1 - 1)] <= lim) (spec_l7Any_J1 v20.2.1 v20.2.2.1 v20.2.2.2 v1.1.1 v1.1.2.1 (v1.1.2.2 ++ [IntKind.i64.wrap (v20.1 - 1)]))) (cond (v4.1 == 3) (chk (0 < List.length v1.1.2.1) (obind (geti v1.1.2.1 0) fun e26 => spec_l7Any_J1 v4.2.1 v4.2.2.1 v4.2.2.2 v1.1.1 (seti v1.1.2.1 0 (e26.1, [])) v1.1.2.2)) (cond (v4.1 == 4) (chk (0 < List.length v1.1.2.1) (obind (geti v1.1.2.1 0) fun e31 => chk (0 < List.length e31.2) (obind (geti v1.1.2.1 0) fun e35 => obind (spec_l1PickInt v4.2 [-1, 5]) fun v37 => obind (geti e31.2 0) fun e39 => spec_l7Any_J1 v37.2.1 v37.2.2.1 v37.2.2.2 v1.1.1 (seti v1.1.2.1 0 (e31.1, seti e31.2 0 v37.1)) v1.1.2.2))) (spec_l7Any_J1 v4.2.1 v4.2.2.1 v4.2.2.2 v1.1.1 v1.1.2.1 v1.1.2.2)))))
theorem spec_l7Any_s {a0 : Y132} {r : Y54 × Y132} (h : spec_l7Any a0 = some r) : PtrAt Tryz.prog 59 [aL cu8 a0.1, nI a0.2.1, nI a0.2.2] [] [aL cu8 r.2.1, nI r.2.2.1, nI r.2.2.2] (.agg (c55_ooo r.1)) := by
 unfold spec_l7Any at h
 refine stp lit59 rfl (rn 1 rfl (rs (sp 1 rfl (?_))))
 obtain ⟨v1, g2, h⟩ := ob_some h
 refine qP rfl rfl rfl rfl eran (spec_l7Query_s g2) (sp 2 rfl (evn (ls_seq_k fun K3 hK3 => rs (sp 1 rfl (?_)))))
 obtain ⟨v4, g5, h⟩ := ob_some h
 refine qP rfl rfl rfl rfl (qs rfl eran) (spec_l1Below_s g5) (evn (ls_blk (rn 1 rfl ?_)))
 have kJ1 : ∀ {x6 : List Int} {x7 : Int} {x8 : Int} {x9 : Int} {x10 : List Y147} {x11 : List Int}, spec_l7Any_J1 x6 x7 x8 x9 x10 x11 = some r -> Jn K3 [(0, .box [aL cu8 x6, nI x7, nI x8]), (2, .box [nI 0, oL 148 c148_o [], oL 3 ci64 []]), (3, .box [nI x9, oL 148 c148_o x10, oL 3 ci64 x11])] := by
  intro x6 x7 x8 x9 x10 x11 h σ' hk
  unfold spec_l7Any_J1 at h
  exact hK3 _ (lh hk rfl (rn 1 rfl (ls_ret ((by cases h; exact ⟨.inl rfl, rfl, rfl⟩)))))
 rcases cond_some h with ⟨g12, h⟩ | ⟨g12, h⟩
 ·refine qT rfl g12 (rg (sp 4 rfl (qBs ci64 [0, 6, IntKind.i64.wrap (v1.1.1 + 1)] rfl rfl rfl zci64 (?_))))
  obtain ⟨v13, g14, h⟩ := ob_some h
  exact qP rfl rfl rfl rfl (qa rfl (erO eci64 _) eran) (spec_l1PickInt_s g14) (sp 2 rfl (evn (kJ1 h _ (okr rfl))))
 ·refine qF rfl g12 (rn 1 rfl ?_)
  rcases cond_some h with ⟨g15, h⟩ | ⟨g15, h⟩
  ·refine qT rfl g15 (rgd (by kernel_rfl) (sd 3 rfl (ed rfl (qBs cst [[], [119], [114]] rfl rfl rfl zcst (?_)))))
   obtain ⟨v16, g17, h⟩ := ob_some h
   refine ed rfl (qP rfl rfl rfl rfl (qa rfl (erO ecst _) eran) (spec_l1Pick_s g17) (ed rfl (qBs ci64 [0] rfl rfl rfl zci64 (sd 1 rfl (ed rfl (qBs c148_o [(v16.1, [0])] rfl rfl rfl zc148_o (?_)))))))
   obtain ⟨g18, h⟩ := chk_some h
   exact ed rfl (qA c148_o v1.1.2.1 ([(v16.1, [0])]) rfl rfl (flat_len zc148_o ([(v16.1, [0])])) rfl g18 (sd 2 rfl (evdn (kJ1 h _ (okr rfl)))))
  ·refine qF rfl g15 (rn 1 rfl ?_)
   rcases cond_some h with ⟨g19, h⟩ | ⟨g19, h⟩
   ·refine qT rfl g19 (rgd (by kernel_rfl) (sd 3 rfl (?_)))
    obtain ⟨v20, g21, h⟩ := ob_some h
    refine ed rfl (qP rfl rfl rfl rfl (qs rfl eran) (spec_l1Below_s g21) (sd 1 rfl (ed rfl (qBs ci64 [IntKind.i64.wrap (v20.1 - 1)] rfl rfl rfl zci64 (?_)))))
    obtain ⟨g22, h⟩ := chk_some h
    exact ed rfl (qA ci64 v1.1.2.2 [IntKind.i64.wrap (v20.1 - 1)] rfl rfl (flat_len zci64 [IntKind.i64.wrap (v20.1 - 1)]) rfl g22 (sd 2 rfl (evdn (kJ1 h _ (okr rfl)))))
   ·refine qF rfl g19 (rn 1 rfl (qk [0, 2, 3, 7, 39] rfl ?_))
    rcases cond_some h with ⟨g23, h⟩ | ⟨g23, h⟩
    ·refine qT rfl g23 (qk [0, 2, 3] rfl ?_)
     obtain ⟨g24, h⟩ := chk_some h
     refine ls_hg (gLb (q := 900003) (b := 3) [nI v1.1.1] [oL 3 ci64 v1.1.2.2] rfl rfl rfl g24 ?_)
     intro gg25 mm25
     refine qk [0, 2, 3, 900003] rfl (ls_gh (rg (sp 2 rfl (?_))))
     obtain ⟨e26, g27, h⟩ := ob_some h
     refine qIt rfl rfl rfl rfl g27 (sp 1 rfl (?_))
     refine qSt0 (y0 := e26) (i := 0) (es := 2) (e2 := 3) 1 (e26.1, []) [0, 2, 3] rfl rfl rfl rfl rfl rfl rfl rfl zc148_o g27 (fun x => sdL (dkc148_o x)) (yc (snc (sA (aca (fun _ => rfl) _)) (snc rfl (snc rfl rfl))) (yc (snc rfl (snc rfl (snc rfl rfl))) (yc (snc rfl (snc rfl (snc (sO (dco (fun _ => rfl) 3 _)) rfl))) yn))) (?_)
     exact evn (gDb (q := 900003) (b := 3) [nI v1.1.1] [oL 3 ci64 v1.1.2.2] rfl rfl rfl (sl rfl) (kJ1 h _ (okr rfl)))
    ·refine qF rfl g23 (rn 1 rfl ?_)
     rcases cond_some h with ⟨g28, h⟩ | ⟨g28, h⟩
     ·refine qT rfl g28 (qk [0, 2, 3] rfl ?_)
      obtain ⟨g29, h⟩ := chk_some h
      refine ls_hg (gLb (q := 900004) (b := 3) [nI v1.1.1] [oL 3 ci64 v1.1.2.2] rfl rfl rfl g29 ?_)
      intro gg30 mm30
      refine qk [0, 2, 3, 900004] rfl ?_
      obtain ⟨e31, g32, h⟩ := ob_some h
      obtain ⟨g33, h⟩ := chk_some h
      refine ls_hg (gLg (i := 0) (es := 2) 1 rfl rfl zc148_o g32 rfl rfl g33 ?_)
      intro gg34 mm34
      refine qk [0, 2, 3, 900003, 900004] rfl (ls_gh (ls_gh (rgt 8 (by kernel_rfl) (sd 2 rfl (?_)))))
      obtain ⟨e35, g36, h⟩ := ob_some h
      refine ed rfl (qIt rfl rfl rfl rfl g36 (sd 1 rfl (?_)))
      refine ed rfl (qLh rfl rfl rfl rfl rfl rfl (gk zc148_o g36 rfl) (?_))
      refine sd 1 rfl (ed rfl (qBs ci64 [-1, 5] rfl rfl rfl zci64 (?_)))
      obtain ⟨v37, g38, h⟩ := ob_some h
      refine ed rfl (qP rfl rfl rfl rfl (qa rfl (erO eci64 _) eran) (spec_l1PickInt_s g38) (evdn (gh_k ?_)))
      obtain ⟨e39, g40, h⟩ := ob_some h
      refine qIt rfl rfl rfl rfl g40 (?_)
      refine qSt (y0 := e39) (i := 0) (es := 1) 0 v37.1 [0, 2, 3, 900004] rfl rfl rfl rfl rfl rfl rfl rfl rfl rfl zci64 g40 (fun _ => rfl) (sdL (dcc rfl dcn)) (yc (snc (sA (aca (fun _ => rfl) _)) (snc rfl (snc rfl rfl))) (yc (snc rfl (snc rfl (snc rfl rfl))) (yc (snc rfl (snc rfl (snc (sO (dco (fun _ => rfl) 3 _)) rfl))) (yc (sgh (sdL (dcf dkc148_o _))) yn)))) (?_)
      exact evn (gDg (i := 0) (es := 2) 1 (e31.1, seti e31.2 0 v37.1) rfl rfl zc148_o g32 rfl (sl rfl) rfl (gDb (q := 900004) (b := 3) [nI v1.1.1] [oL 3 ci64 v1.1.2.2] rfl rfl rfl (sl rfl) (kJ1 h _ (okr rfl))))
     ·exact qF rfl g28 (ls_skip (kJ1 h _ (okr rfl)))
def spec_DrawAddWatcher (a0 : List Int) : Option (Y36 × Y54) := obind (spec_l1New a0) fun v1 => obind (spec_l39Watch v1) fun v3 => obind (spec_l7Any v3.2) fun v5 => some (v3.1, v5.1)
theorem spec_DrawAddWatcher_s {a0 : List Int} {r : Y36 × Y54} (h : spec_DrawAddWatcher a0 = some r) : SoundAt Tryz.prog 19 [aL cu8 a0] (.tup [.agg (c37_oooooooooodddd r.1), .agg (c55_ooo r.2)]) := by
 unfold spec_DrawAddWatcher at h
 refine st lit19 rfl (rn 1 rfl (rs (sp 1 rfl (?_))))
 obtain ⟨v1, g2, h⟩ := ob_some h
 refine qN rfl rfl rfl rfl (spec_l1New_s g2) (sp 1 rfl (evn (rs (sp 1 rfl (?_)))))
 obtain ⟨v3, g4, h⟩ := ob_some h
 refine qP rfl rfl rfl rfl eran (spec_l39Watch_s g4) (sp 1 rfl (?_))
 obtain ⟨v5, g6, h⟩ := ob_some h
 exact qP rfl rfl rfl rfl eran (spec_l7Any_s g6) (sp 2 rfl (evn (ls_ret ((by cases h; exact ⟨.inl rfl, rfl⟩)))))
def impl_copyCounted (a0 : Y75) : Option (Y75) := obind (impl_copyRows a0.2.1) fun v1 => obind (impl_copyInts a0.2.2) fun v3 => some (a0.1, v1, v3)
theorem impl_copyCounted_s {a0 : Y75} {r : Y75} (h : impl_copyCounted a0 = some r) : SoundAt Tryz.prog 62 [.agg (c76_ddd a0)] (.agg (c76_ooo r)) := by
 unfold impl_copyCounted at h
 refine st lit62 rfl (rn 1 rfl (rd (by kernel_rfl) (sd 4 rfl (?_))))
 obtain ⟨v1, g2, h⟩ := ob_some h
 refine ed rfl (qC (qa rfl (erD ec53_d _) eran) (impl_copyRows_s g2) (sd 2 rfl (?_)))
 obtain ⟨v3, g4, h⟩ := ob_some h
 exact ed rfl (qC (qa rfl (erD eci64 _) eran) (impl_copyInts_s g4) (sd 2 rfl (evdn (ls_ret ((by cases h; exact ⟨.inl rfl, rfl⟩))))))
def impl_copyDatabase_B1 (a0 : List Y119) (rec : ((List Y119) × Int) -> Option ((List Y119))) (s : (List Y119) × Int) : Option ((List Y119)) := match s with
  | (y1, y2) => cond (decide (y2 < (List.length a0 : Int))) (obind (geti a0 y2) fun e6 => obind (impl_copyRelation e6.2) fun v8 => chk (List.length y1 + List.length [(e6.1, v8)] <= lim) (rec ((y1 ++ [(e6.1, v8)]), (IntKind.i64.wrap (y2 + 1))))) (some y1)
def impl_copyDatabase (a0 : List Y119) : Option ((List Y119)) := obind (loopF (impl_copyDatabase_B1 a0) fz (([] : List Y119), 0)) fun z2 => some z2
theorem impl_copyDatabase_s {a0 : List Y119} {r : (List Y119)} (h : impl_copyDatabase a0 = some r) : SoundAt Tryz.prog 71 [.agg [dL c120_dd a0]] (.agg [oL 120 c120_oo r]) := by
 unfold impl_copyDatabase at h
 refine st lit71 rfl (rn 2 rfl (ls_seq_k fun K1 hK1 => rn 1 rfl ?_))
 obtain ⟨o1, hl, hr1⟩ := ob_some h
 have kXB1 : ∀ {z2 : List Y119}, z2 = o1 -> Jn K1 [(2, .box [oL 120 c120_oo []]), (3, .box [oL 120 c120_oo z2])] := by
  intro z2 h σ' hk
  subst h
  replace h := hr1
  try dsimp only at h
  exact hK1 _ (lh hk rfl (rn 1 rfl (ls_ret ((by cases h; exact ⟨.inl rfl, rfl⟩)))))
 refine ls_rec (fun (s : (List Y119) × Int) => match s with | (y1, y2) => [(2, .box [oL 120 c120_oo []]), (3, .box [oL 120 c120_oo y1]), (7, dL c120_dd a0), (8, nI (List.length a0 : Int)), (9, nI y2)]) _ _ _ _ hl (okr rfl) (fun _ => rfl) ?_
 rintro m ⟨y1, y2⟩ N h hN
 unfold impl_copyDatabase_B1 at h
 dsimp only at h
 refine rn 1 rfl (ls_seq_k fun K3 hK3 => ?_)
 rcases cond_some h with ⟨g4, h⟩ | ⟨g4, h⟩
 ·refine qT rfl g4 (ls_skip (hK3 _ (ls_seq_k fun K5 hK5 => ls_blk (rs ?_))))
  obtain ⟨e6, g7, h⟩ := ob_some h
  refine qI rfl zc120_dd g7 (sp 3 rfl (evn (rgd (by kernel_rfl) (sd 6 rfl (?_)))))
  obtain ⟨v8, g9, h⟩ := ob_some h
  refine ed rfl (qC (qa rfl (erg (erc rfl (erc (erD ec53_d _) rfl))) eran) (impl_copyRelation_s g9) (sd 1 rfl (ed rfl (qBs c120_oo [(e6.1, v8)] rfl rfl rfl zc120_oo (?_)))))
  obtain ⟨g10, h⟩ := chk_some h
  exact ed rfl (qA c120_oo y1 [(e6.1, v8)] rfl rfl (flat_len zc120_oo [(e6.1, v8)]) rfl g10 (sd 2 rfl (evdn (hK5 _ (rg (sp 2 rfl (evn (hN _ _ h (okr rfl)))))))))
 ·exact qF rfl g4 (ls_exit (kXB1 (Option.some.inj h) _ (okr rfl)))
def impl_copyView (a0 : Y77) : Option (Y77) := obind (impl_copyQuery a0.1) fun v1 => obind (impl_copyCounted a0.2) fun v3 => some (v1, v3)
theorem impl_copyView_s {a0 : Y77} {r : Y77} (h : impl_copyView a0 = some r) : SoundAt Tryz.prog 116 [.agg (c78_dddddd a0)] (.agg (c78_oooooo r)) := by
 unfold impl_copyView at h
 refine st lit116 rfl (rn 1 rfl (rd (by kernel_rfl) (sd 2 rfl (?_))))
 obtain ⟨v1, g2, h⟩ := ob_some h
 refine ed rfl (qC (qa rfl (erg (erc rfl (erc (erD ec148_d _) (erc (erD eci64 _) rfl)))) eran) (impl_copyQuery_s g2) (sd 2 rfl (?_)))
 obtain ⟨v3, g4, h⟩ := ob_some h
 exact ed rfl (qC (qa rfl (erg (erc rfl (erc (erD ec53_d _) (erc (erD eci64 _) rfl)))) eran) (impl_copyCounted_s g4) (sd 2 rfl (evdn (ls_ret ((by cases h; exact ⟨.inl rfl, rfl⟩))))))
def impl_copyNotifier_B1 (a0 : Y36) (rec : ((List Y77) × Int) -> Option ((List Y77))) (s : (List Y77) × Int) : Option ((List Y77)) := match s with
  | (y1, y2) => cond (decide (y2 < (List.length a0.2.1 : Int))) (obind (geti a0.2.1 y2) fun e8 => obind (impl_copyView e8) fun v10 => chk (List.length y1 + List.length [v10] <= lim) (rec ((y1 ++ [v10]), (IntKind.i64.wrap (y2 + 1))))) (some y1)
def impl_copyNotifier_B2 (a0 : Y36) (rec : ((List Y75) × Int) -> Option ((List Y75))) (s : (List Y75) × Int) : Option ((List Y75)) := match s with
  | (y3, y4) => cond (decide (y4 < (List.length a0.2.2 : Int))) (obind (geti a0.2.2 y4) fun e18 => obind (impl_copyCounted e18) fun v20 => chk (List.length y3 + List.length [v20] <= lim) (rec ((y3 ++ [v20]), (IntKind.i64.wrap (y4 + 1))))) (some y3)
def impl_copyNotifier (a0 : Y36) : Option (Y36) := obind (impl_copyDatabase a0.1) fun v1 => obind (loopF (impl_copyNotifier_B1 a0) fz (([] : List Y77), 0)) fun z4 => obind (loopF (impl_copyNotifier_B2 a0) fz (([] : List Y75), 0)) fun z14 => some (v1, z4, z14)
theorem impl_copyNotifier_s {a0 : Y36} {r : Y36} (h : impl_copyNotifier a0 = some r) : SoundAt Tryz.prog 60 [.agg (c37_dddddddddddddd a0)] (.agg (c37_oooooooooooooo r)) := by
 unfold impl_copyNotifier at h
 refine st lit60 rfl (rn 1 rfl (rs (sp 2 rfl (?_))))
 obtain ⟨v1, g2, h⟩ := ob_some h
 refine qC (qa rfl (erg (erc (erD ec120_dd _) rfl)) eran) (impl_copyDatabase_s g2) (sp 3 rfl (evn (ls_seq_k fun K3 hK3 => rn 1 rfl ?_)))
 obtain ⟨o1, hl, hr1⟩ := ob_some h
 have kXB1 : ∀ {z4 : List Y77}, z4 = o1 -> Jn K3 [(1, .box [dL c120_dd a0.1, dL c78_dddddd a0.2.1, dL c76_ddd a0.2.2]), (2, .box [oL 120 c120_oo [], oL 78 c78_oooooo [], oL 76 c76_ooo []]), (3, .box [oL 120 c120_oo v1, oL 78 c78_oooooo z4, oL 76 c76_ooo []])] := by
  intro z4 h σ' hk
  subst h
  replace h := hr1
  try dsimp only at h
  refine hK3 _ (lh hk rfl (ls_seq_k fun K13 hK13 => rn 1 rfl ?_))
  obtain ⟨o2, hl, hr2⟩ := ob_some h
  have kXB2 : ∀ {z14 : List Y75}, z14 = o2 -> Jn K13 [(2, .box [oL 120 c120_oo [], oL 78 c78_oooooo [], oL 76 c76_ooo []]), (3, .box [oL 120 c120_oo v1, oL 78 c78_oooooo z4, oL 76 c76_ooo z14])] := by
   intro z14 h σ' hk
   subst h
   replace h := hr2
   try dsimp only at h
   exact hK13 _ (lh hk rfl (rn 1 rfl (ls_ret ((by cases h; exact ⟨.inl rfl, rfl⟩)))))
  refine ls_rec (fun (s : (List Y75) × Int) => match s with | (y3, y4) => [(2, .box [oL 120 c120_oo [], oL 78 c78_oooooo [], oL 76 c76_ooo []]), (3, .box [oL 120 c120_oo v1, oL 78 c78_oooooo z4, oL 76 c76_ooo y3]), (28, dL c76_ddd a0.2.2), (29, nI (List.length a0.2.2 : Int)), (30, nI y4)]) _ _ _ _ hl (okr rfl) (fun _ => rfl) ?_
  rintro m ⟨y3, y4⟩ N h hN
  unfold impl_copyNotifier_B2 at h
  dsimp only at h
  refine rn 1 rfl (ls_seq_k fun K15 hK15 => ?_)
  rcases cond_some h with ⟨g16, h⟩ | ⟨g16, h⟩
  ·refine qT rfl g16 (ls_skip (hK15 _ (ls_seq_k fun K17 hK17 => ls_blk (rs ?_))))
   obtain ⟨e18, g19, h⟩ := ob_some h
   refine qI rfl zc76_ddd g19 (sp 3 rfl (evn (rgd (by kernel_rfl) (sd 3 rfl (?_)))))
   obtain ⟨v20, g21, h⟩ := ob_some h
   refine ed rfl (qC (qa rfl (erg (erc rfl (erc (erD ec53_d _) (erc (erD eci64 _) rfl)))) eran) (impl_copyCounted_s g21) (ed rfl (qBs c76_ooo [v20] rfl rfl rfl zc76_ooo (?_))))
   obtain ⟨g22, h⟩ := chk_some h
   exact ed rfl (qA c76_ooo y3 [v20] rfl rfl (flat_len zc76_ooo [v20]) rfl g22 (sd 2 rfl (evdn (hK17 _ (rg (sp 2 rfl (evn (hN _ _ h (okr rfl)))))))))
  ·exact qF rfl g16 (ls_exit (kXB2 (Option.some.inj h) _ (okr rfl)))
 refine ls_rec (fun (s : (List Y77) × Int) => match s with | (y1, y2) => [(1, .box [dL c120_dd a0.1, dL c78_dddddd a0.2.1, dL c76_ddd a0.2.2]), (2, .box [oL 120 c120_oo [], oL 78 c78_oooooo [], oL 76 c76_ooo []]), (3, .box [oL 120 c120_oo v1, oL 78 c78_oooooo y1, oL 76 c76_ooo []]), (13, dL c78_dddddd a0.2.1), (14, nI (List.length a0.2.1 : Int)), (15, nI y2)]) _ _ _ _ hl (okr rfl) (fun _ => rfl) ?_
 rintro m ⟨y1, y2⟩ N h hN
 unfold impl_copyNotifier_B1 at h
 dsimp only at h
 refine rn 1 rfl (ls_seq_k fun K5 hK5 => ?_)
 rcases cond_some h with ⟨g6, h⟩ | ⟨g6, h⟩
 ·refine qT rfl g6 (ls_skip (hK5 _ (ls_seq_k fun K7 hK7 => ls_blk (rs ?_))))
  obtain ⟨e8, g9, h⟩ := ob_some h
  refine qI rfl zc78_dddddd g9 (sp 3 rfl (evn (rgd (by kernel_rfl) (sd 3 rfl (?_)))))
  obtain ⟨v10, g11, h⟩ := ob_some h
  refine ed rfl (qC (qa rfl (erg (erc rfl (erc (erD ec148_d _) (erc (erD eci64 _) (erc rfl (erc (erD ec53_d _) (erc (erD eci64 _) rfl))))))) eran) (impl_copyView_s g11) (ed rfl (qBs c78_oooooo [v10] rfl rfl rfl zc78_oooooo (?_))))
  obtain ⟨g12, h⟩ := chk_some h
  exact ed rfl (qA c78_oooooo y1 [v10] rfl rfl (flat_len zc78_oooooo [v10]) rfl g12 (sd 2 rfl (evdn (hK7 _ (rg (sp 2 rfl (evn (hN _ _ h (okr rfl)))))))))
 ·exact qF rfl g6 (ls_exit (kXB1 (Option.some.inj h) _ (okr rfl)))
def impl_AddWatcher (a0 : Y36) (a1 : Y54) : Option (Y36 × Bool) := obind (impl_copyNotifier a0) fun v1 => obind (impl_NewView a0.1 a1) fun v3 => obind (impl_IsValidNotifier a0) fun v6 => cond (!v6) (some (v1, false)) (cond (!v3.2) (some (v1, false)) (cond (decide (4 <= (List.length a0.2.1 : Int))) (some (v1, false)) (chk (List.length v1.2.1 + List.length [v3.1] <= lim) (obind (impl_copyCounted v3.1.2) fun v12 => chk (List.length v1.2.2 + List.length [v12] <= lim) (some ((v1.1, v1.2.1 ++ [v3.1], v1.2.2 ++ [v12]), true))))))
theorem impl_AddWatcher_s {a0 : Y36} {a1 : Y54} {r : Y36 × Bool} (h : impl_AddWatcher a0 a1 = some r) : SoundAt Tryz.prog 20 [.agg (c37_dddddddddddddd a0), .agg (c55_ddd a1)] (.tup [.agg (c37_oooooooooooooo r.1), .bool r.2]) := by
 unfold impl_AddWatcher at h
 refine st lit20 rfl (rn 1 rfl (rs (sp 1 rfl (?_))))
 obtain ⟨v1, g2, h⟩ := ob_some h
 refine qC (qa rfl (erg (erc (erD ec120_dd _) (erc (erD ec78_dddddd _) (erc (erD ec76_ddd _) rfl)))) eran) (impl_copyNotifier_s g2) (sp 2 rfl (evn (rs (sp 3 rfl (?_)))))
 obtain ⟨v3, g4, h⟩ := ob_some h
 refine qC (qa rfl (erg (erc (erD ec120_dd _) rfl)) (qa rfl (erg (erc rfl (erc (erD ec148_d _) (erc (erD eci64 _) rfl)))) eran)) (impl_NewView_s g4) (sp 6 rfl (evn (ls_seq_k fun K5 hK5 => rs (sp 1 rfl (?_)))))
 obtain ⟨v6, g7, h⟩ := ob_some h
 refine qC (qa rfl (erg (erc (erD ec120_dd _) (erc (erD ec78_dddddd _) (erc (erD ec76_ddd _) rfl)))) eran) (impl_IsValidNotifier_s g7) (sp 2 rfl (?_))
 rcases cond_some h with ⟨g8, h⟩ | ⟨g8, h⟩
 ·exact qg 21 g8 rfl (sp 9 rfl (evn (qT rfl rfl (rn 1 rfl (qk [4, 5] rfl (ls_ret ((by cases h; exact ⟨.inl rfl, rfl⟩))))))))
 ·refine qg 21 g8 rfl (sp 4 rfl (?_))
  rcases cond_some h with ⟨g9, h⟩ | ⟨g9, h⟩
  ·exact qg 25 g9 rfl (sp 5 rfl (evn (qT rfl rfl (rn 1 rfl (ls_ret ((by cases h; exact ⟨.inl rfl, rfl⟩)))))))
  ·refine qg 25 g9 rfl (sp 5 rfl (evn ?_))
   rcases cond_some h with ⟨g10, h⟩ | ⟨g10, h⟩
   ·exact qT rfl g10 (rn 1 rfl (ls_ret ((by cases h; exact ⟨.inl rfl, rfl⟩))))
   ·refine qF rfl g10 (ls_skip (hK5 _ (rs (sp 3 rfl (qBs c78_oooooo [v3.1] rfl rfl rfl zc78_oooooo (?_))))))
    obtain ⟨g11, h⟩ := chk_some h
    refine qA c78_oooooo v1.2.1 [v3.1] rfl rfl (flat_len zc78_oooooo [v3.1]) rfl g11 (sp 2 rfl (evn (qk [4, 6, 7] rfl (rd (by kernel_rfl) (sd 4 rfl (?_))))))
    obtain ⟨v12, g13, h⟩ := ob_some h
    refine ed rfl (qC (qa rfl (erg (erc rfl (erc (erD ec53_o _) (erc (erD eci64 _) rfl)))) eran) (impl_copyCounted_s g13) (ed rfl (qBs c76_ooo [v12] rfl rfl rfl zc76_ooo (?_))))
    obtain ⟨g14, h⟩ := chk_some h
    exact ed rfl (qA c76_ooo v1.2.2 [v12] rfl rfl (flat_len zc76_ooo [v12]) rfl g14 (sd 2 rfl (evdn (rn 1 rfl (ls_ret ((by cases h; exact ⟨.inl rfl, rfl⟩)))))))
def spec_EqualDatabases_B1 (a0 : List Y119) (a1 : List Y119) (rec : Int -> Option (Sum (Unit) (Bool))) (y1 : Int) : Option (Sum (Unit) (Bool)) := cond (decide (y1 < (List.length a0 : Int))) (obind (geti a0 y1) fun e7 => obind (geti a1 y1) fun e9 => cond (!(e7.1 == e9.1)) (some (.inr false)) (obind (geti a0 y1) fun e12 => obind (geti a1 y1) fun e14 => obind (spec_EqualRelations e12.2 e14.2) fun v16 => cond (!v16) (some (.inr false)) (rec (IntKind.i64.wrap (y1 + 1))))) (some (.inl ()))
def spec_EqualDatabases (a0 : List Y119) (a1 : List Y119) : Option (Bool) := cond ((List.length a0 : Int) != (List.length a1 : Int)) (some false) (obind (loopF (spec_EqualDatabases_B1 a0 a1) fz 0) fun o1 => (match o1 with
  | .inl _ => (some true)
  | .inr r => some r))
theorem spec_EqualDatabases_s {a0 : List Y119} {a1 : List Y119} {r : Bool} (h : spec_EqualDatabases a0 a1 = some r) : SoundAt Tryz.prog 66 [.agg [dL c120_dd a0], .agg [dL c120_dd a1]] (.bool r) := by
 unfold spec_EqualDatabases at h
 refine st lit66 rfl (rn 1 rfl (ls_seq_k fun K1 hK1 => rn 1 rfl ?_))
 rcases cond_some h with ⟨g2, h⟩ | ⟨g2, h⟩
 ·exact qT rfl g2 (rn 1 rfl (ls_ret ((by cases h; exact ⟨.inl rfl, rfl⟩))))
 ·refine qF rfl g2 (ls_skip (hK1 _ (ls_seq_k fun K3 hK3 => rn 1 rfl ?_)))
  obtain ⟨o1, hl, hr1⟩ := ob_some h
  have kXB1 : (.inl ()) = o1 -> Jn K3 [] := by
   intro h σ' hk
   subst h
   replace h := hr1
   try dsimp only at h
   exact hK3 _ (lh hk rfl (rn 1 rfl (ls_ret ((by cases h; exact ⟨.inl rfl, rfl⟩)))))
  refine ls_rec (fun (y1 : Int) => [(2, .box [dL c120_dd a0]), (3, .box [dL c120_dd a1]), (5, nI y1)]) _ _ _ _ hl (okr rfl) (fun _ => rfl) ?_
  rintro m y1 N h hN
  unfold spec_EqualDatabases_B1 at h
  refine ls_seq_k fun K4 hK4 => rn 1 rfl ?_
  rcases cond_some h with ⟨g5, h⟩ | ⟨g5, h⟩
  ·refine qT rfl g5 (ls_skip (hK4 _ (ls_seq_k fun K6 hK6 => ls_blk (rd (by kernel_rfl) (sd 3 rfl (?_))))))
   obtain ⟨e7, g8, h⟩ := ob_some h
   refine ed rfl (qI rfl zc120_dd g8 (sd 5 rfl (?_)))
   obtain ⟨e9, g10, h⟩ := ob_some h
   refine ed rfl (qI rfl zc120_dd g10 (sd 4 rfl (?_)))
   rcases cond_some h with ⟨g11, h⟩ | ⟨g11, h⟩
   ·exact qgd 33 g11 rfl (sd 15 rfl (evdn (qT rfl rfl (rn 1 rfl (qk [4] rfl (ls_ret ((by cases h; cases hr1; exact ⟨.inl rfl, rfl⟩))))))))
   ·refine qgd 33 g11 rfl (sd 3 rfl (?_))
    obtain ⟨e12, g13, h⟩ := ob_some h
    refine ed rfl (oGR rfl rfl (qI rfl zc120_dd g13 (sd 5 rfl (?_))))
    obtain ⟨e14, g15, h⟩ := ob_some h
    refine ed rfl (oGR rfl rfl (qI rfl zc120_dd g15 (sd 2 rfl (?_))))
    obtain ⟨v16, g17, h⟩ := ob_some h
    refine ed rfl (oGR rfl rfl (qC (qa rfl (erg (erc rfl (erc (erD ec53_d _) rfl))) (qa rfl (erg (erc rfl (erc (erD ec53_d _) rfl))) eran)) (spec_EqualRelations_s g17) (sd 2 rfl (evdn ?_))))
    rcases cond_some h with ⟨g18, h⟩ | ⟨g18, h⟩
    ·exact qT rfl g18 (rn 1 rfl (ls_ret ((by cases h; cases hr1; exact ⟨.inl rfl, rfl⟩))))
    ·exact qF rfl g18 (ls_skip (hK6 _ (rg (sp 3 rfl (evn (hN _ _ h (okr rfl)))))))
  ·exact qF rfl g5 (ls_exit (kXB1 (Option.some.inj h) _ trivial))
def spec_EqualQueries_B1 (a0 : Y54) (a1 : Y54) (rec : Int -> Option (Sum (Unit) (Bool))) (y1 : Int) : Option (Sum (Unit) (Bool)) := cond (decide (y1 < (List.length a0.2.1 : Int))) (obind (geti a0.2.1 y1) fun e11 => obind (geti a1.2.1 y1) fun e13 => cond (!(e11.1 == e13.1)) (some (.inr false)) (obind (geti a0.2.1 y1) fun e16 => obind (geti a1.2.1 y1) fun e18 => obind (spec_CompareRows e16.2 e18.2) fun v20 => cond (v20 != 0) (some (.inr false)) (rec (IntKind.i64.wrap (y1 + 1))))) (some (.inl ()))
def spec_EqualQueries (a0 : Y54) (a1 : Y54) : Option (Bool) := cond (a0.1 != a1.1) (some false) (obind (spec_CompareRows a0.2.2 a1.2.2) fun v3 => cond (v3 != 0) (some false) (cond ((List.length a0.2.1 : Int) != (List.length a1.2.1 : Int)) (some false) (obind (loopF (spec_EqualQueries_B1 a0 a1) fz 0) fun o1 => (match o1 with
  | .inl _ => (some true)
  | .inr r => some r))))
theorem spec_EqualQueries_s {a0 : Y54} {a1 : Y54} {r : Bool} (h : spec_EqualQueries a0 a1 = some r) : SoundAt Tryz.prog 67 [.agg (c55_ddd a0), .agg (c55_ddd a1)] (.bool r) := by
 unfold spec_EqualQueries at h
 refine st lit67 rfl (rn 1 rfl (ls_seq_k fun K1 hK1 => rs (sp 6 rfl (?_))))
 rcases cond_some h with ⟨g2, h⟩ | ⟨g2, h⟩
 ·exact qg 11 g2 rfl (sp 16 rfl (evn (qT rfl rfl (rn 1 rfl (ls_ret ((by cases h; exact ⟨.inl rfl, rfl⟩)))))))
 ·refine qg 11 g2 rfl (sp 4 rfl (?_))
  obtain ⟨v3, g4, h⟩ := ob_some h
  refine oGR rfl rfl (qC (qa rfl (erD eci64 _) (qa rfl (erD eci64 _) eran)) (spec_CompareRows_s g4) (sp 3 rfl (?_)))
  rcases cond_some h with ⟨g5, h⟩ | ⟨g5, h⟩
  ·exact qg 19 g5 rfl (sp 8 rfl (evn (qk [2, 3, 27] rfl (qT rfl rfl (rn 1 rfl (ls_ret ((by cases h; exact ⟨.inl rfl, rfl⟩))))))))
  ·refine qg 19 g5 rfl (sp 8 rfl (evn ?_))
   rcases cond_some h with ⟨g6, h⟩ | ⟨g6, h⟩
   ·exact qT rfl g6 (rn 1 rfl (ls_ret ((by cases h; exact ⟨.inl rfl, rfl⟩))))
   ·refine qF rfl g6 (ls_skip (hK1 _ (ls_seq_k fun K7 hK7 => rn 1 rfl ?_)))
    obtain ⟨o1, hl, hr1⟩ := ob_some h
    have kXB1 : (.inl ()) = o1 -> Jn K7 [] := by
     intro h σ' hk
     subst h
     replace h := hr1
     try dsimp only at h
     exact hK7 _ (lh hk rfl (rn 1 rfl (ls_ret ((by cases h; exact ⟨.inl rfl, rfl⟩)))))
    refine ls_rec (fun (y1 : Int) => [(2, .box [nI a0.1, dL c148_d a0.2.1, dL ci64 a0.2.2]), (3, .box [nI a1.1, dL c148_d a1.2.1, dL ci64 a1.2.2]), (5, nI y1)]) _ _ _ _ hl (okr rfl) (fun _ => rfl) ?_
    rintro m y1 N h hN
    unfold spec_EqualQueries_B1 at h
    refine ls_seq_k fun K8 hK8 => rn 1 rfl ?_
    rcases cond_some h with ⟨g9, h⟩ | ⟨g9, h⟩
    ·refine qT rfl g9 (ls_skip (hK8 _ (ls_seq_k fun K10 hK10 => ls_blk (rd (by kernel_rfl) (sd 3 rfl (?_))))))
     obtain ⟨e11, g12, h⟩ := ob_some h
     refine ed rfl (qI rfl zc148_d g12 (sd 5 rfl (?_)))
     obtain ⟨e13, g14, h⟩ := ob_some h
     refine ed rfl (qI rfl zc148_d g14 (sd 4 rfl (?_)))
     rcases cond_some h with ⟨g15, h⟩ | ⟨g15, h⟩
     ·exact qgd 48 g15 rfl (sd 15 rfl (evdn (qT rfl rfl (rn 1 rfl (qk [4] rfl (ls_ret ((by cases h; cases hr1; exact ⟨.inl rfl, rfl⟩))))))))
     ·refine qgd 48 g15 rfl (sd 3 rfl (?_))
      obtain ⟨e16, g17, h⟩ := ob_some h
      refine ed rfl (oGR rfl rfl (qI rfl zc148_d g17 (sd 5 rfl (?_))))
      obtain ⟨e18, g19, h⟩ := ob_some h
      refine ed rfl (oGR rfl rfl (qI rfl zc148_d g19 (sd 2 rfl (?_))))
      obtain ⟨v20, g21, h⟩ := ob_some h
      refine ed rfl (oGR rfl rfl (qC (qa rfl (erD eci64 _) (qa rfl (erD eci64 _) eran)) (spec_CompareRows_s g21) (sd 2 rfl (evdn ?_))))
      rcases cond_some h with ⟨g22, h⟩ | ⟨g22, h⟩
      ·exact qT rfl g22 (rn 1 rfl (ls_ret ((by cases h; cases hr1; exact ⟨.inl rfl, rfl⟩))))
      ·exact qF rfl g22 (ls_skip (hK10 _ (rg (sp 3 rfl (evn (hN _ _ h (okr rfl)))))))
    ·exact qF rfl g9 (ls_exit (kXB1 (Option.some.inj h) _ trivial))
def spec_EqualNotifiers_B1 (a0 : Y36) (a1 : Y36) (rec : Int -> Option (Sum (Unit) (Bool))) (y1 : Int) : Option (Sum (Unit) (Bool)) := cond (decide (y1 < (List.length a0.2.1 : Int))) (obind (geti a0.2.1 y1) fun e11 => obind (geti a1.2.1 y1) fun e13 => obind (spec_EqualQueries e11.1 e13.1) fun v15 => cond (!v15) (some (.inr false)) (obind (geti a0.2.1 y1) fun e18 => obind (geti a1.2.1 y1) fun e20 => obind (spec_EqualCounted e18.2 e20.2) fun v22 => cond (!v22) (some (.inr false)) (rec (IntKind.i64.wrap (y1 + 1))))) (some (.inl ()))
def spec_EqualNotifiers_B2 (a0 : Y36) (a1 : Y36) (rec : Int -> Option (Sum (Unit) (Bool))) (y2 : Int) : Option (Sum (Unit) (Bool)) := cond (decide (y2 < (List.length a0.2.2 : Int))) (obind (geti a0.2.2 y2) fun e29 => obind (geti a1.2.2 y2) fun e31 => obind (spec_EqualCounted e29 e31) fun v33 => cond (!v33) (some (.inr false)) (rec (IntKind.i64.wrap (y2 + 1)))) (some (.inl ()))
def spec_EqualNotifiers (a0 : Y36) (a1 : Y36) : Option (Bool) := obind (spec_EqualDatabases a0.1 a1.1) fun v2 => cond (!v2) (some false) (cond ((List.length a0.2.1 : Int) != (List.length a1.2.1 : Int)) (some false) (cond ((List.length a0.2.2 : Int) != (List.length a1.2.2 : Int)) (some false) (obind (loopF (spec_EqualNotifiers_B1 a0 a1) fz 0) fun o1 => (match o1 with
  | .inl _ => (obind (loopF (spec_EqualNotifiers_B2 a0 a1) fz 0) fun o2 => (match o2 with
  | .inl _ => (some true)
  | .inr r => some r))
  | .inr r => some r))))
theorem spec_EqualNotifiers_s {a0 : Y36} {a1 : Y36} {r : Bool} (h : spec_EqualNotifiers a0 a1 = some r) : SoundAt Tryz.prog 22 [.agg (c37_dddddddddddddd a0), .agg (c37_dddddddddddddd a1)] (.bool r) := by
 unfold spec_EqualNotifiers at h
 refine st lit22 rfl (rn 1 rfl (ls_seq_k fun K1 hK1 => rs (sp 4 rfl (?_))))
 obtain ⟨v2, g3, h⟩ := ob_some h
 refine qC (qa rfl (erg (erc (erD ec120_dd _) rfl)) (qa rfl (erg (erc (erD ec120_dd _) rfl)) eran)) (spec_EqualDatabases_s g3) (sp 2 rfl (?_))
 rcases cond_some h with ⟨g4, h⟩ | ⟨g4, h⟩
 ·exact qg 13 g4 rfl (sp 17 rfl (evn (qT rfl rfl (rn 1 rfl (ls_ret ((by cases h; exact ⟨.inl rfl, rfl⟩)))))))
 ·refine qg 13 g4 rfl (sp 9 rfl (?_))
  rcases cond_some h with ⟨g5, h⟩ | ⟨g5, h⟩
  ·exact qg 22 g5 rfl (sp 8 rfl (evn (qk [2, 3, 30] rfl (qT rfl rfl (rn 1 rfl (ls_ret ((by cases h; exact ⟨.inl rfl, rfl⟩))))))))
  ·refine qg 22 g5 rfl (sp 8 rfl (evn ?_))
   rcases cond_some h with ⟨g6, h⟩ | ⟨g6, h⟩
   ·exact qT rfl g6 (rn 1 rfl (ls_ret ((by cases h; exact ⟨.inl rfl, rfl⟩))))
   ·refine qF rfl g6 (ls_skip (hK1 _ (ls_seq_k fun K7 hK7 => rn 1 rfl ?_)))
    obtain ⟨o1, hl, hr1⟩ := ob_some h
    have kXB1 : (.inl ()) = o1 -> Jn K7 [(2, .box [dL c120_dd a0.1, dL c78_dddddd a0.2.1, dL c76_ddd a0.2.2]), (3, .box [dL c120_dd a1.1, dL c78_dddddd a1.2.1, dL c76_ddd a1.2.2])] := by
     intro h σ' hk
     subst h
     replace h := hr1
     try dsimp only at h
     refine hK7 _ (lh hk rfl (ls_seq_k fun K25 hK25 => rn 1 rfl ?_))
     obtain ⟨o2, hl, hr2⟩ := ob_some h
     have kXB2 : (.inl ()) = o2 -> Jn K25 [] := by
      intro h σ' hk
      subst h
      replace h := hr2
      try dsimp only at h
      exact hK25 _ (lh hk rfl (rn 1 rfl (ls_ret ((by cases h; exact ⟨.inl rfl, rfl⟩)))))
     refine ls_rec (fun (y2 : Int) => [(2, .box [dL c120_dd a0.1, dL c78_dddddd a0.2.1, dL c76_ddd a0.2.2]), (3, .box [dL c120_dd a1.1, dL c78_dddddd a1.2.1, dL c76_ddd a1.2.2]), (6, nI y2)]) _ _ _ _ hl (okr rfl) (fun _ => rfl) ?_
     rintro m y2 N h hN
     unfold spec_EqualNotifiers_B2 at h
     refine ls_seq_k fun K26 hK26 => rn 1 rfl ?_
     rcases cond_some h with ⟨g27, h⟩ | ⟨g27, h⟩
     ·refine qT rfl g27 (ls_skip (hK26 _ (ls_seq_k fun K28 hK28 => ls_blk (rd (by kernel_rfl) (sd 3 rfl (?_))))))
      obtain ⟨e29, g30, h⟩ := ob_some h
      refine ed rfl (qI rfl zc76_ddd g30 (sd 4 rfl (?_)))
      obtain ⟨e31, g32, h⟩ := ob_some h
      refine ed rfl (qI rfl zc76_ddd g32 (sd 1 rfl (?_)))
      obtain ⟨v33, g34, h⟩ := ob_some h
      refine ed rfl (qC (qa rfl (erg (erc rfl (erc (erD ec53_d _) (erc (erD eci64 _) rfl)))) (qa rfl (erg (erc rfl (erc (erD ec53_d _) (erc (erD eci64 _) rfl)))) eran)) (spec_EqualCounted_s g34) (sd 1 rfl (evdn ?_)))
      rcases cond_some h with ⟨g35, h⟩ | ⟨g35, h⟩
      ·exact qT rfl g35 (rn 1 rfl (ls_ret ((by cases h; cases hr2; exact ⟨.inl rfl, rfl⟩))))
      ·exact qF rfl g35 (ls_skip (hK28 _ (rg (sp 3 rfl (evn (hN _ _ h (okr rfl)))))))
     ·exact qF rfl g27 (ls_exit (kXB2 (Option.some.inj h) _ trivial))
    refine ls_rec (fun (y1 : Int) => [(2, .box [dL c120_dd a0.1, dL c78_dddddd a0.2.1, dL c76_ddd a0.2.2]), (3, .box [dL c120_dd a1.1, dL c78_dddddd a1.2.1, dL c76_ddd a1.2.2]), (5, nI y1)]) _ _ _ _ hl (okr rfl) (fun _ => rfl) ?_
    rintro m y1 N h hN
    unfold spec_EqualNotifiers_B1 at h
    refine ls_seq_k fun K8 hK8 => rn 1 rfl ?_
    rcases cond_some h with ⟨g9, h⟩ | ⟨g9, h⟩
    ·refine qT rfl g9 (ls_skip (hK8 _ (ls_seq_k fun K10 hK10 => ls_blk (rd (by kernel_rfl) (sd 3 rfl (?_))))))
     obtain ⟨e11, g12, h⟩ := ob_some h
     refine ed rfl (qI rfl zc78_dddddd g12 (sd 5 rfl (?_)))
     obtain ⟨e13, g14, h⟩ := ob_some h
     refine ed rfl (qI rfl zc78_dddddd g14 (sd 2 rfl (?_)))
     obtain ⟨v15, g16, h⟩ := ob_some h
     refine ed rfl (qC (qa rfl (erg (erc rfl (erc (erD ec148_d _) (erc (erD eci64 _) rfl)))) (qa rfl (erg (erc rfl (erc (erD ec148_d _) (erc (erD eci64 _) rfl)))) eran)) (spec_EqualQueries_s g16) (sd 2 rfl (?_)))
     rcases cond_some h with ⟨g17, h⟩ | ⟨g17, h⟩
     ·exact qgd 52 g17 rfl (sd 15 rfl (evdn (qk [2, 3, 5, 67] rfl (qT rfl rfl (rn 1 rfl (ls_ret ((by cases h; cases hr1; exact ⟨.inl rfl, rfl⟩))))))))
     ·refine qgd 52 g17 rfl (sd 3 rfl (?_))
      obtain ⟨e18, g19, h⟩ := ob_some h
      refine ed rfl (oGR rfl rfl (qI rfl zc78_dddddd g19 (sd 5 rfl (?_))))
      obtain ⟨e20, g21, h⟩ := ob_some h
      refine ed rfl (oGR rfl rfl (qI rfl zc78_dddddd g21 (sd 2 rfl (?_))))
      obtain ⟨v22, g23, h⟩ := ob_some h
      refine ed rfl (oGR rfl rfl (qC (qa rfl (erg (erc rfl (erc (erD ec53_d _) (erc (erD eci64 _) rfl)))) (qa rfl (erg (erc rfl (erc (erD ec53_d _) (erc (erD eci64 _) rfl)))) eran)) (spec_EqualCounted_s g23) (sd 2 rfl (evdn ?_))))
      rcases cond_some h with ⟨g24, h⟩ | ⟨g24, h⟩
      ·exact qT rfl g24 (rn 1 rfl (ls_ret ((by cases h; cases hr1; exact ⟨.inl rfl, rfl⟩))))
      ·exact qF rfl g24 (ls_skip (hK10 _ (rg (sp 3 rfl (evn (hN _ _ h (okr rfl)))))))
    ·exact qF rfl g9 (ls_exit (kXB1 (Option.some.inj h) _ (okr rfl)))
def spec_Project_B1 (a0 : Y42) (a1 : List Int) (rec : Int -> Option (Sum (Unit) (Y42 × Bool))) (y1 : Int) : Option (Sum (Unit) (Y42 × Bool)) := cond (decide (y1 < (List.length a1 : Int))) (obind (geti a1 y1) fun e5 => obind (spec_l1In e5 0 (IntKind.i64.wrap (a0.1 - 1))) fun v7 => cond (!v7) (some (.inr ((0, []), false))) (rec (IntKind.i64.wrap (y1 + 1)))) (some (.inl ()))
def spec_Project_B2 (a0 : Y42) (a1 : List Int) (rec : ((List (List Int)) × Int) -> Option ((List (List Int)))) (s : (List (List Int)) × Int) : Option ((List (List Int))) := match s with
  | (y2, y3) => cond (decide (y3 < (List.length a0.2 : Int))) (obind (geti a0.2 y3) fun e20 => obind (spec_l5Cols e20 a1) fun v22 => chk (List.length y2 + List.length [v22] <= lim) (rec ((y2 ++ [v22]), (IntKind.i64.wrap (y3 + 1))))) (some y2)
def spec_Project (a0 : Y42) (a1 : List Int) : Option (Y42 × Bool) := obind (loopF (spec_Project_B1 a0 a1) fz 0) fun o1 => (match o1 with
  | .inl _ => (obind (spec_IsValidRelation a0) fun v11 => cond (!v11) (some ((0, []), false)) (cond (decide (5 < (List.length a1 : Int))) (some ((0, []), false)) (obind (loopF (spec_Project_B2 a0 a1) fz (([] : List (List Int)), 0)) fun z16 => obind (spec_NewRelation (List.length a1 : Int) z16) fun v25 => some (v25.1, v25.2))))
  | .inr r => some r)
theorem spec_Project_s {a0 : Y42} {a1 : List Int} {r : Y42 × Bool} (h : spec_Project a0 a1 = some r) : SoundAt Tryz.prog 70 [.agg (c43_dd a0), dL ci64 a1] (.tup [.agg (c43_oo r.1), .bool r.2]) := by
 unfold spec_Project at h
 refine st lit70 rfl (rn 1 rfl (ls_seq_k fun K1 hK1 => rn 1 rfl ?_))
 obtain ⟨o1, hl, hr1⟩ := ob_some h
 have kXB1 : (.inl ()) = o1 -> Jn K1 [(1, dL ci64 a1), (2, .box [nI a0.1, dL c53_d a0.2]), (4, .box [nI 0, oL 53 c53_o []])] := by
  intro h σ' hk
  subst h
  replace h := hr1
  try dsimp only at h
  refine hK1 _ (lh hk rfl (ls_seq_k fun K10 hK10 => rs (sp 1 rfl (?_))))
  obtain ⟨v11, g12, h⟩ := ob_some h
  refine qC (qa rfl (erg (erc rfl (erc (erD ec53_d _) rfl))) eran) (spec_IsValidRelation_s g12) (sp 2 rfl (?_))
  rcases cond_some h with ⟨g13, h⟩ | ⟨g13, h⟩
  ·exact qg 30 g13 rfl (sp 4 rfl (evn (qT rfl rfl (rn 1 rfl (ls_ret ((by cases h; exact ⟨.inl rfl, rfl⟩)))))))
  ·refine qg 30 g13 rfl (sp 4 rfl (evn ?_))
   rcases cond_some h with ⟨g14, h⟩ | ⟨g14, h⟩
   ·exact qT rfl g14 (rn 1 rfl (ls_ret ((by cases h; exact ⟨.inl rfl, rfl⟩))))
   ·refine qF rfl g14 (ls_skip (hK10 _ (rs (qBs c53_o [] rfl rfl rfl zc53_o (sp 1 rfl (evn (ls_seq_k fun K15 hK15 => rn 1 rfl (qk [1, 2, 4, 7, 8] rfl ?_))))))))
    obtain ⟨o2, hl, hr2⟩ := ob_some h
    have kXB2 : ∀ {z16 : List (List Int)}, z16 = o2 -> Jn K15 [(1, dL ci64 a1), (4, .box [nI 0, oL 53 c53_o []]), (7, oL 53 c53_o z16)] := by
     intro z16 h σ' hk
     subst h
     replace h := hr2
     try dsimp only at h
     refine hK15 _ (lh hk rfl (rs (sp 3 rfl (?_))))
     obtain ⟨v25, g26, h⟩ := ob_some h
     exact qC (qs rfl (qa rfl (erD ec53_o _) eran)) (spec_NewRelation_s g26) (sp 6 rfl (evn (rn 1 rfl (ls_ret ((by cases h; exact ⟨.inl rfl, rfl⟩))))))
    refine ls_rec (fun (s : (List (List Int)) × Int) => match s with | (y2, y3) => [(1, dL ci64 a1), (2, .box [nI a0.1, dL c53_d a0.2]), (4, .box [nI 0, oL 53 c53_o []]), (7, oL 53 c53_o y2), (8, nI y3)]) _ _ _ _ hl (okr rfl) (fun _ => rfl) ?_
    rintro m ⟨y2, y3⟩ N h hN
    unfold spec_Project_B2 at h
    dsimp only at h
    refine ls_seq_k fun K17 hK17 => rn 1 rfl ?_
    rcases cond_some h with ⟨g18, h⟩ | ⟨g18, h⟩
    ·refine qT rfl g18 (ls_skip (hK17 _ (ls_seq_k fun K19 hK19 => ls_blk (rg (sp 4 rfl (?_))))))
     obtain ⟨e20, g21, h⟩ := ob_some h
     refine qI rfl zc53_d g21 (sp 2 rfl (?_))
     obtain ⟨v22, g23, h⟩ := ob_some h
     refine qC (qa rfl (erD eci64 _) (qa rfl (erD eci64 _) eran)) (spec_l5Cols_s g23) (qBs c53_o [v22] rfl rfl rfl zc53_o (?_))
     obtain ⟨g24, h⟩ := chk_some h
     exact qA c53_o y2 [v22] rfl rfl (flat_len zc53_o [v22]) rfl g24 (sp 1 rfl (evn (hK19 _ (rg (sp 3 rfl (evn (hN _ _ h (okr rfl))))))))
    ·exact qF rfl g18 (ls_exit (kXB2 (Option.some.inj h) _ (okr rfl)))
 refine ls_rec (fun (y1 : Int) => [(1, dL ci64 a1), (2, .box [nI a0.1, dL c53_d a0.2]), (4, .box [nI 0, oL 53 c53_o []]), (6, nI y1)]) _ _ _ _ hl (okr rfl) (fun _ => rfl) ?_
 rintro m y1 N h hN
 unfold spec_Project_B1 at h
 refine ls_seq_k fun K2 hK2 => rn 1 rfl ?_
 rcases cond_some h with ⟨g3, h⟩ | ⟨g3, h⟩
 ·refine qT rfl g3 (ls_skip (hK2 _ (ls_seq_k fun K4 hK4 => ls_blk (rd (by kernel_rfl) (sd 2 rfl (?_))))))
  obtain ⟨e5, g6, h⟩ := ob_some h
  refine ed rfl (qI rfl zci64 g6 (sd 4 rfl (?_)))
  obtain ⟨v7, g8, h⟩ := ob_some h
  refine ed rfl (qC (qs rfl (qs rfl (qs rfl eran))) (spec_l1In_s g8) (sd 1 rfl (evdn ?_)))
  rcases cond_some h with ⟨g9, h⟩ | ⟨g9, h⟩
  ·exact qT rfl g9 (rn 1 rfl (ls_ret ((by cases h; cases hr1; exact ⟨.inl rfl, rfl⟩))))
  ·exact qF rfl g9 (ls_skip (hK4 _ (rg (sp 3 rfl (evn (hN _ _ h (okr rfl)))))))
 ·exact qF rfl g3 (ls_exit (kXB1 (Option.some.inj h) _ (okr rfl)))
def spec_EvaluateQuery (a0 : List Y119) (a1 : Y54) : Option (Y42 × Bool) := obind (spec_AllBindings a0 a1) fun v1 => obind (spec_IsQueryFor a0 a1) fun v4 => cond (!v4) (some ((0, []), false)) (cond (v1.1 != a1.1) (some ((0, []), false)) (obind (spec_Project v1 a1.2.2) fun v8 => some (v8.1, v8.2)))
theorem spec_EvaluateQuery_s {a0 : List Y119} {a1 : Y54} {r : Y42 × Bool} (h : spec_EvaluateQuery a0 a1 = some r) : SoundAt Tryz.prog 23 [.agg [dL c120_dd a0], .agg (c55_ddd a1)] (.tup [.agg (c43_oo r.1), .bool r.2]) := by
 unfold spec_EvaluateQuery at h
 refine st lit23 rfl (rn 1 rfl (rs (sp 2 rfl (?_))))
 obtain ⟨v1, g2, h⟩ := ob_some h
 refine qC (qa rfl (erg (erc (erD ec120_dd _) rfl)) (qa rfl (erg (erc rfl (erc (erD ec148_d _) (erc (erD eci64 _) rfl)))) eran)) (spec_AllBindings_s g2) (sp 2 rfl (evn (ls_seq_k fun K3 hK3 => rs (sp 2 rfl (?_)))))
 obtain ⟨v4, g5, h⟩ := ob_some h
 refine qC (qa rfl (erg (erc (erD ec120_dd _) rfl)) (qa rfl (erg (erc rfl (erc (erD ec148_d _) (erc (erD eci64 _) rfl)))) eran)) (spec_IsQueryFor_s g5) (sp 2 rfl (?_))
 rcases cond_some h with ⟨g6, h⟩ | ⟨g6, h⟩
 ·exact qg 16 g6 rfl (sp 6 rfl (evn (qT rfl rfl (rn 1 rfl (ls_ret ((by cases h; exact ⟨.inl rfl, rfl⟩)))))))
 ·refine qg 16 g6 rfl (sp 6 rfl (evn ?_))
  rcases cond_some h with ⟨g7, h⟩ | ⟨g7, h⟩
  ·exact qT rfl g7 (rn 1 rfl (qk [4, 5] rfl (ls_ret ((by cases h; exact ⟨.inl rfl, rfl⟩)))))
  ·refine qF rfl g7 (ls_skip (hK3 _ (rs (sp 3 rfl (?_)))))
   obtain ⟨v8, g9, h⟩ := ob_some h
   exact qC (qa rfl (erg (erc rfl (erc (erD ec53_o _) rfl))) (qa rfl (erD eci64 _) eran)) (spec_Project_s g9) (sp 6 rfl (evn (rn 1 rfl (ls_ret ((by cases h; exact ⟨.inl rfl, rfl⟩))))))
def impl_NewNotifier (a0 : List Y119) : Option (Y36 × Bool) := obind (impl_IsValidDatabase a0) fun v2 => cond (!v2) (some (([], [], []), false)) (obind (impl_copyDatabase a0) fun v5 => some ((v5, [], []), true))
theorem impl_NewNotifier_s {a0 : List Y119} {r : Y36 × Bool} (h : impl_NewNotifier a0 = some r) : SoundAt Tryz.prog 24 [.agg [dL c120_dd a0]] (.tup [.agg (c37_oooooooooooooo r.1), .bool r.2]) := by
 unfold impl_NewNotifier at h
 refine st lit24 rfl (rn 1 rfl (ls_seq_k fun K1 hK1 => rs (sp 1 rfl (?_))))
 obtain ⟨v2, g3, h⟩ := ob_some h
 refine qC (qa rfl (erg (erc (erD ec120_dd _) rfl)) eran) (impl_IsValidDatabase_s g3) (sp 1 rfl (evn ?_))
 rcases cond_some h with ⟨g4, h⟩ | ⟨g4, h⟩
 ·exact qT rfl g4 (rn 1 rfl (ls_ret ((by cases h; exact ⟨.inl rfl, rfl⟩))))
 ·refine qF rfl g4 (ls_skip (hK1 _ (rs (sp 1 rfl (?_)))))
  obtain ⟨v5, g6, h⟩ := ob_some h
  exact qC (qa rfl (erg (erc (erD ec120_dd _) rfl)) eran) (impl_copyDatabase_s g6) (sp 3 rfl (evn (ls_ret ((by cases h; exact ⟨.inl rfl, rfl⟩)))))
def impl_EqualRelations_J1 (x2 : Bool) : Option (Bool) := some x2
def impl_EqualRelations (a0 : Y42) (a1 : Y42) : Option (Bool) := cond (a0.1 == a1.1) (obind (impl_sameRows a0.2 a1.2) fun v4 => impl_EqualRelations_J1 v4) (impl_EqualRelations_J1 false)
theorem impl_EqualRelations_s {a0 : Y42} {a1 : Y42} {r : Bool} (h : impl_EqualRelations a0 a1 = some r) : SoundAt Tryz.prog 133 [.agg (c43_dd a0), .agg (c43_dd a1)] (.bool r) := by
 unfold impl_EqualRelations at h
 refine st lit133 rfl (rn 1 rfl (rk fun K1 hK1 => ?_))
 have kJ1 : ∀ {x2 : Bool}, impl_EqualRelations_J1 x2 = some r -> Jn K1 [(4, .bool x2)] := by
  intro x2 h σ' hk
  unfold impl_EqualRelations_J1 at h
  exact hK1 _ (lh hk rfl (ls_ret ((by cases h; exact ⟨.inl rfl, rfl⟩))))
 refine sp 6 rfl (?_)
 rcases cond_some h with ⟨g3, h⟩ | ⟨g3, h⟩
 ·refine qg 10 g3 rfl (sp 4 rfl (?_))
  obtain ⟨v4, g5, h⟩ := ob_some h
  exact oGR rfl rfl (qC (qa rfl (erD ec53_d _) (qa rfl (erD ec53_d _) eran)) (impl_sameRows_s g5) (sp 2 rfl (evn (kJ1 h _ (okr rfl)))))
 ·exact qg 10 g3 rfl (sp 7 rfl (evn (kJ1 h _ (okr rfl))))
end Go.Proofs.YtceghmdneadhbaaGreat
