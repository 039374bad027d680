/-
  Functions of the program as typed functions, printed by gen.py, and that the program's functions do what they say. No conditions.
-/
import Derived.Test.YtmioifafgbjjhaaGSAS1
namespace Go.Proofs.Ytmioifafgbjjhaa
open Go.RowKit
set_option linter.unusedVariables false
set_option maxRecDepth 100000
set_option maxHeartbeats 1000000
def spec_ApplyDelta (a0 : List Y106) (a1 : Y71) : Option ((List Y106) × Bool) := obind (spec_NormalizeDelta a0 a1) fun v1 => cond (!v1.2) (obind (spec_l6Copy a0) fun v5 => some (v5, false)) (obind (spec_LookupRelation a0 a1.1) fun v7 => obind (spec_Difference v7.1 v1.1.2.2) fun v9 => obind (spec_Union v9.1 v1.1.2.1) fun v11 => cond (!v11.2) (obind (spec_l6Copy a0) fun v15 => some (v15, false)) (obind (spec_SetRelation a0 a1.1 v11.1) fun v17 => some (v17.1, v17.2)))
theorem spec_ApplyDelta_s {a0 : List Y106} {a1 : Y71} {r : (List Y106) × Bool} (h : spec_ApplyDelta a0 a1 = some r) : SoundAt Try.prog 49 [.agg [dL c107_dd a0], .agg (c72_dddd a1)] (.tup [.agg [oL 107 c107_oo r.1], .bool r.2]) := by
 unfold spec_ApplyDelta at h
 refine st lit49 rfl (rn 1 rfl (rs (sp 2 rfl (?_))))
 obtain ⟨v1, g2, h⟩ := ob_some h
 refine qC (qa rfl (erg (erc (erD ec107_dd _) rfl)) (qa rfl (erg (erc rfl (erc rfl (erc (erD ec31_d _) (erc rfl (erc (erD ec31_d _) rfl)))))) eran)) (spec_NormalizeDelta_s g2) (sp 6 rfl (evn (ls_seq_k fun K3 hK3 => rn 1 rfl ?_)))
 rcases cond_some h with ⟨g4, h⟩ | ⟨g4, h⟩
 ·refine qT rfl g4 (rs (sp 1 rfl (?_)))
  obtain ⟨v5, g6, h⟩ := ob_some h
  exact qC (qa rfl (erg (erc (erD ec107_dd _) rfl)) eran) (spec_l6Copy_s g6) (sp 2 rfl (evn (ls_ret ((by cases h; exact ⟨.inl rfl, rfl⟩)))))
 ·refine qF rfl g4 (ls_skip (hK3 _ (rs (sp 3 rfl (?_)))))
  obtain ⟨v7, g8, h⟩ := ob_some h
  refine qC (qa rfl (erg (erc (erD ec107_dd _) rfl)) (qs rfl eran)) (spec_LookupRelation_s g8) (sp 6 rfl (evn (qk [2, 3, 4, 6, 8] rfl (rs (sp 3 rfl (?_))))))
  obtain ⟨v9, g10, h⟩ := ob_some h
  refine qC (qa rfl (erg (erc rfl (erc (erD ec31_o _) rfl))) (qa rfl (erg (erc rfl (erc (erD ec31_o _) rfl))) eran)) (spec_Difference_s g10) (sp 6 rfl (evn (rs (sp 3 rfl (?_)))))
  obtain ⟨v11, g12, h⟩ := ob_some h
  refine qC (qa rfl (erg (erc rfl (erc (erD ec31_o _) rfl))) (qa rfl (erg (erc rfl (erc (erD ec31_o _) rfl))) eran)) (spec_Union_s g12) (sp 6 rfl (evn (ls_seq_k fun K13 hK13 => rn 1 rfl ?_)))
  rcases cond_some h with ⟨g14, h⟩ | ⟨g14, h⟩
  ·refine qT rfl g14 (rs (sp 1 rfl (?_)))
   obtain ⟨v15, g16, h⟩ := ob_some h
   exact qC (qa rfl (erg (erc (erD ec107_dd _) rfl)) eran) (spec_l6Copy_s g16) (sp 2 rfl (evn (ls_ret ((by cases h; exact ⟨.inl rfl, rfl⟩)))))
  ·refine qF rfl g14 (ls_skip (hK13 _ (rs (sp 4 rfl (?_)))))
   obtain ⟨v17, g18, h⟩ := ob_some h
   exact qC (qa rfl (erg (erc (erD ec107_dd _) rfl)) (qs rfl (qa rfl (erg (erc rfl (erc (erD ec31_o _) rfl))) eran))) (spec_SetRelation_s g18) (sp 6 rfl (evn (qk [4, 14, 15] rfl (rn 1 rfl (ls_ret ((by cases h; exact ⟨.inl rfl, rfl⟩)))))))
def spec_IsValidHistory_B1 (a0 : Y69) (rec : Int → Option (Sum (Unit) (Bool))) (y1 : Int) : Option (Sum (Unit) (Bool)) := cond (decide (y1 < (List.length a0.2 : Int))) (obind (geti a0.2 y1) fun e5 => obind (spec_IsValidDatabase e5) fun v7 => cond (!v7) (some (.inr false)) (rec (IntKind.i64.wrap (y1 + 1)))) (some (.inl ()))
def spec_IsValidHistory_J2 (x11 : Bool) : Option (Bool) := some x11
def spec_IsValidHistory (a0 : Y69) : Option (Bool) := obind (loopF (spec_IsValidHistory_B1 a0) fz 0) fun o1 => (match o1 with
  | .inl _ => (obind (spec_l1In (List.length a0.2 : Int) 1 6) fun v12 => cond v12 (obind (spec_l1In a0.1 1 (IntKind.i64.wrap ((IntKind.i64.wrap (99 - (List.length a0.2 : Int))) + 1))) fun v15 => spec_IsValidHistory_J2 v15) (spec_IsValidHistory_J2 false))
  | .inr r => some r)
theorem spec_IsValidHistory_s {a0 : Y69} {r : Bool} (h : spec_IsValidHistory a0 = some r) : SoundAt Try.prog 50 [.agg (c70_dddd a0)] (.bool r) := by
 unfold spec_IsValidHistory at h
 refine st lit50 rfl (rn 1 rfl (ls_seq_k fun K1 hK1 => rn 1 rfl ?_))
 obtain ⟨o1, hl, hr1⟩ := ob_some h
 have kXB1 : (.inl ()) = o1 → Jn K1 [(1, .box [nI a0.1, dL c42_ddd a0.2])] := by
  intro h σ' hk
  subst h
  replace h := hr1
  try dsimp only at h
  refine hK1 _ (lh hk rfl (rk fun K10 hK10 => ?_))
  have kJ2 : ∀ {x11 : Bool}, spec_IsValidHistory_J2 x11 = some r → Jn K10 [(2, .bool x11)] := by
   intro x11 h σ' hk
   unfold spec_IsValidHistory_J2 at h
   exact hK10 _ (lh hk rfl (ls_ret ((by cases h; exact ⟨.inl rfl, rfl⟩))))
  refine sp 3 rfl (?_)
  obtain ⟨v12, g13, h⟩ := ob_some h
  refine qC (qs rfl (qs rfl (qs rfl eran))) (spec_l1In_s g13) (sp 1 rfl (?_))
  rcases cond_some h with ⟨g14, h⟩ | ⟨g14, h⟩
  ·refine qg 22 g14 rfl (sp 7 rfl (?_))
   obtain ⟨v15, g16, h⟩ := ob_some h
   exact oGR rfl rfl (qC (qs rfl (qs rfl (qs rfl eran))) (spec_l1In_s g16) (sp 2 rfl (evn (kJ2 h _ (okr rfl)))))
  ·exact qg 22 g14 rfl (sp 10 rfl (evn (kJ2 h _ (okr rfl))))
 refine ls_rec (fun (y1 : Int) => [(1, .box [nI a0.1, dL c42_ddd a0.2]), (3, nI y1)]) _ _ _ _ hl (okr rfl) (fun _ => rfl) ?_
 rintro m y1 N h hN
 unfold spec_IsValidHistory_B1 at h
 refine ls_seq_k fun K2 hK2 => rn 1 rfl ?_
 rcases cond_some h with ⟨g3, h⟩ | ⟨g3, h⟩
 ·refine qT rfl g3 (ls_skip (hK2 _ (ls_seq_k fun K4 hK4 => ls_blk (rs (sp 3 rfl (?_))))))
  obtain ⟨e5, g6, h⟩ := ob_some h
  refine qI rfl zc42_ddd g6 (sp 1 rfl (?_))
  obtain ⟨v7, g8, h⟩ := ob_some h
  refine qC (qa rfl (erg (erc (erD ec107_dd _) rfl)) eran) (spec_IsValidDatabase_s g8) (sp 1 rfl (evn ?_))
  rcases cond_some h with ⟨g9, h⟩ | ⟨g9, h⟩
  ·exact qT rfl g9 (rn 1 rfl (ls_ret ((by cases h; cases hr1; exact ⟨.inl rfl, rfl⟩))))
  ·exact qF rfl g9 (ls_skip (hK4 _ (rg (sp 3 rfl (evn (hN _ _ h (okr rfl)))))))
 ·exact qF rfl g3 (ls_exit (kXB1 (Option.some.inj h) _ (okr rfl)))
def spec_l33Copy_B1 (a0 : Y69) (rec : ((List (List Y106)) × Int) → Option ((List (List Y106)))) (s : (List (List Y106)) × Int) : Option ((List (List Y106))) := match s with
  | (y1, y2) => cond (decide (y2 < (List.length a0.2 : Int))) (obind (geti a0.2 y2) fun e6 => obind (spec_l6Copy e6) fun v8 => chk (List.length y1 + List.length [v8] ≤ lim) (rec ((y1 ++ [v8]), (IntKind.i64.wrap (y2 + 1))))) (some y1)
def spec_l33Copy (a0 : Y69) : Option (Y69) := obind (loopF (spec_l33Copy_B1 a0) fz (([] : List (List Y106)), 0)) fun z2 => some (a0.1, z2)
theorem spec_l33Copy_s {a0 : Y69} {r : Y69} (h : spec_l33Copy a0 = some r) : SoundAt Try.prog 120 [.agg (c70_dddd a0)] (.agg (c70_oooo r)) := by
 unfold spec_l33Copy at h
 refine st lit120 rfl (rn 2 rfl (ls_seq_k fun K1 hK1 => rn 1 rfl ?_))
 obtain ⟨o1, hl, hr1⟩ := ob_some h
 have kXB1 : ∀ {z2 : List (List Y106)}, z2 = o1 → Jn K1 [(2, .box [nI 0, oL 42 c42_ooo []]), (3, .box [nI a0.1, oL 42 c42_ooo z2])] := by
  intro z2 h σ' hk
  subst h
  replace h := hr1
  try dsimp only at h
  exact hK1 _ (lh hk rfl (rn 1 rfl (ls_ret ((by cases h; exact ⟨.inl rfl, rfl⟩)))))
 refine ls_rec (fun (s : (List (List Y106)) × Int) => match s with | (y1, y2) => [(1, .box [nI a0.1, dL c42_ddd a0.2]), (2, .box [nI 0, oL 42 c42_ooo []]), (3, .box [nI a0.1, oL 42 c42_ooo y1]), (4, nI y2)]) _ _ _ _ hl (okr rfl) (fun _ => rfl) ?_
 rintro m ⟨y1, y2⟩ N h hN
 unfold spec_l33Copy_B1 at h
 dsimp only at h
 refine ls_seq_k fun K3 hK3 => rn 1 rfl ?_
 rcases cond_some h with ⟨g4, h⟩ | ⟨g4, h⟩
 ·refine qT rfl g4 (ls_skip (hK3 _ (ls_seq_k fun K5 hK5 => ls_blk (rs (sp 3 rfl (?_))))))
  obtain ⟨e6, g7, h⟩ := ob_some h
  refine qI rfl zc42_ddd g7 (sp 1 rfl (?_))
  obtain ⟨v8, g9, h⟩ := ob_some h
  refine qC (qa rfl (erg (erc (erD ec107_dd _) rfl)) eran) (spec_l6Copy_s g9) (sp 2 rfl (evn (rg (sp 3 rfl (qBs c42_ooo [v8] rfl rfl rfl zc42_ooo (?_))))))
  obtain ⟨g10, h⟩ := chk_some h
  exact qA c42_ooo y1 [v8] rfl rfl (flat_len zc42_ooo [v8]) rfl g10 (sp 2 rfl (evn (hK5 _ (rg (sp 3 rfl (evn (hN _ _ h (okr rfl))))))))
 ·exact qF rfl g4 (ls_exit (kXB1 (Option.some.inj h) _ (okr rfl)))
def spec_AppendSnapshot (a0 : Y69) (a1 : Y71) : Option (Y69 × Bool) := obind (spec_l33Copy a0) fun v1 => obind (spec_IsValidHistory a0) fun v4 => cond (!v4) (some (v1, false)) (cond ((List.length a0.2 : Int) == 6) (some (v1, false)) (cond (decide (99 < (IntKind.i64.wrap (a0.1 + (List.length a0.2 : Int))))) (some (v1, false)) (obind (geti a0.2 (IntKind.i64.wrap ((List.length a0.2 : Int) - 1))) fun e9 => obind (spec_ApplyDelta e9 a1) fun v11 => cond (!v11.2) (some (v1, false)) (chk (List.length v1.2 + List.length [v11.1] ≤ lim) (some ((v1.1, v1.2 ++ [v11.1]), true))))))
theorem spec_AppendSnapshot_s {a0 : Y69} {a1 : Y71} {r : Y69 × Bool} (h : spec_AppendSnapshot a0 a1 = some r) : SoundAt Try.prog 44 [.agg (c70_dddd a0), .agg (c72_dddd a1)] (.tup [.agg (c70_oooo r.1), .bool r.2]) := by
 unfold spec_AppendSnapshot at h
 refine st lit44 rfl (rn 1 rfl (rs (sp 1 rfl (?_))))
 obtain ⟨v1, g2, h⟩ := ob_some h
 refine qC (qa rfl (erg (erc rfl (erc (erD ec42_ddd _) rfl))) eran) (spec_l33Copy_s g2) (sp 2 rfl (evn (ls_seq_k fun K3 hK3 => rs (sp 1 rfl (?_)))))
 obtain ⟨v4, g5, h⟩ := ob_some h
 refine qC (qa rfl (erg (erc rfl (erc (erD ec42_ddd _) rfl))) eran) (spec_IsValidHistory_s g5) (sp 2 rfl (?_))
 rcases cond_some h with ⟨g6, h⟩ | ⟨g6, h⟩
 ·exact qg 14 g6 rfl (sp 14 rfl (evn (qT rfl rfl (rn 1 rfl (ls_ret ((by cases h; exact ⟨.inl rfl, rfl⟩)))))))
 ·refine qg 14 g6 rfl (sp 6 rfl (?_))
  rcases cond_some h with ⟨g7, h⟩ | ⟨g7, h⟩
  ·exact qg 20 g7 rfl (sp 8 rfl (evn (qk [2, 3, 4, 6, 28] rfl (qT rfl rfl (rn 1 rfl (ls_ret ((by cases h; exact ⟨.inl rfl, rfl⟩))))))))
  ·refine qg 20 g7 rfl (sp 8 rfl (evn ?_))
   rcases cond_some h with ⟨g8, h⟩ | ⟨g8, h⟩
   ·exact qT rfl g8 (rn 1 rfl (ls_ret ((by cases h; exact ⟨.inl rfl, rfl⟩))))
   ·refine qF rfl g8 (ls_skip (hK3 _ (rd (by kernel_rfl) (sd 6 rfl (?_)))))
    obtain ⟨e9, g10, h⟩ := ob_some h
    refine ed rfl (qI rfl zc42_ddd g10 (sd 2 rfl (?_)))
    obtain ⟨v11, g12, h⟩ := ob_some h
    refine ed rfl (qC (qa rfl (erg (erc (erD ec107_dd _) rfl)) (qa rfl (erg (erc rfl (erc rfl (erc (erD ec31_d _) (erc rfl (erc (erD ec31_d _) rfl)))))) eran)) (spec_ApplyDelta_s g12) (sd 6 rfl (evdn (qk [4, 6, 7, 8] rfl (ls_seq_k fun K13 hK13 => rn 1 rfl ?_)))))
    rcases cond_some h with ⟨g14, h⟩ | ⟨g14, h⟩
    ·exact qT rfl g14 (rn 1 rfl (ls_ret ((by cases h; exact ⟨.inl rfl, rfl⟩))))
    ·refine qF rfl g14 (ls_skip (hK13 _ (rs (sp 3 rfl (qBs c42_ooo [v11.1] rfl rfl rfl zc42_ooo (?_))))))
     obtain ⟨g15, h⟩ := chk_some h
     exact qA c42_ooo v1.2 [v11.1] rfl rfl (flat_len zc42_ooo [v11.1]) rfl g15 (sp 2 rfl (evn (rn 1 rfl (ls_ret ((by cases h; exact ⟨.inl rfl, rfl⟩))))))
def laws_szIntS (a0 : List Int) (a1 : Int) : Option (Int) := cond (decide ((IntKind.i64.wrap (a1 - (List.length a0 : Int))) < 0)) (some (-1)) (some (IntKind.i64.wrap (a1 - (List.length a0 : Int))))
theorem laws_szIntS_s {a0 : List Int} {a1 : Int} {r : Int} (h : laws_szIntS a0 a1 = some r) : SoundAt Try.prog 102 [dL ci64 a0, nI a1] (nI r) := by
 unfold laws_szIntS at h
 refine st lit102 rfl (rn 2 rfl (ls_seq_k fun K1 hK1 => rn 1 rfl ?_))
 rcases cond_some h with ⟨g2, h⟩ | ⟨g2, h⟩
 ·exact qT rfl g2 (rn 1 rfl (ls_ret ((by cases h; exact ⟨.inl rfl, rfl⟩))))
 ·exact qF rfl g2 (ls_skip (hK1 _ (rn 1 rfl (ls_ret ((by cases h; exact ⟨.inl rfl, rfl⟩))))))
def laws_szIntSS_B1 (a0 : List (List Int)) (rec : (Int × Int) → Option (Sum (Int) (Int))) (s : Int × Int) : Option (Sum (Int) (Int)) := match s with
  | (y1, y2) => cond (decide (y2 < (List.length a0 : Int))) (obind (geti a0 y2) fun e8 => obind (laws_szIntS e8 y1) fun v10 => cond (decide (v10 < 0)) (some (.inr (-1))) (rec (v10, (IntKind.i64.wrap (y2 + 1))))) (some (.inl y1))
def laws_szIntSS (a0 : List (List Int)) (a1 : Int) : Option (Int) := cond (decide ((IntKind.i64.wrap (a1 - (List.length a0 : Int))) < 0)) (some (-1)) (obind (loopF (laws_szIntSS_B1 a0) fz ((IntKind.i64.wrap (a1 - (List.length a0 : Int))), 0)) fun o1 => (match o1 with
  | .inl z4 => (some z4)
  | .inr r => some r))
theorem laws_szIntSS_s {a0 : List (List Int)} {a1 : Int} {r : Int} (h : laws_szIntSS a0 a1 = some r) : SoundAt Try.prog 196 [dL c31_d a0, nI a1] (nI r) := by
 unfold laws_szIntSS at h
 refine st lit196 rfl (rn 2 rfl (ls_seq_k fun K1 hK1 => rn 1 rfl ?_))
 rcases cond_some h with ⟨g2, h⟩ | ⟨g2, h⟩
 ·exact qT rfl g2 (rn 1 rfl (ls_ret ((by cases h; exact ⟨.inl rfl, rfl⟩))))
 ·refine qF rfl g2 (ls_skip (hK1 _ (ls_seq_k fun K3 hK3 => rn 1 rfl ?_)))
  obtain ⟨o1, hl, hr1⟩ := ob_some h
  have kXB1 : ∀ {z4 : Int}, (.inl z4) = o1 → Jn K3 [(1, nI z4)] := by
   intro z4 h σ' hk
   subst h
   replace h := hr1
   try dsimp only at h
   exact hK3 _ (lh hk rfl (rn 1 rfl (ls_ret ((by cases h; exact ⟨.inl rfl, rfl⟩)))))
  refine ls_rec (fun (s : Int × Int) => match s with | (y1, y2) => [(0, dL c31_d a0), (1, nI y1), (5, nI y2)]) _ _ _ _ hl (okr rfl) (fun _ => rfl) ?_
  rintro m ⟨y1, y2⟩ N h hN
  unfold laws_szIntSS_B1 at h
  dsimp only at h
  refine ls_seq_k fun K5 hK5 => rn 1 rfl ?_
  rcases cond_some h with ⟨g6, h⟩ | ⟨g6, h⟩
  ·refine qT rfl g6 (ls_skip (hK5 _ (ls_seq_k fun K7 hK7 => ls_blk (rs (sp 2 rfl (?_))))))
   obtain ⟨e8, g9, h⟩ := ob_some h
   refine qI rfl zc31_d g9 (sp 2 rfl (?_))
   obtain ⟨v10, g11, h⟩ := ob_some h
   refine qC (qa rfl (erD eci64 _) (qs rfl eran)) (laws_szIntS_s g11) (sp 1 rfl (evn (rn 1 rfl ?_)))
   rcases cond_some h with ⟨g12, h⟩ | ⟨g12, h⟩
   ·exact qT rfl g12 (rn 1 rfl (ls_ret ((by cases h; cases hr1; exact ⟨.inl rfl, rfl⟩))))
   ·exact qF rfl g12 (ls_skip (hK7 _ (rg (sp 3 rfl (evn (hN _ _ h (okr rfl)))))))
  ·exact qF rfl g6 (ls_exit (kXB1 (Option.some.inj h) _ (okr rfl)))
def laws_szRelation (a0 : Y25) (a1 : Int) : Option (Int) := obind (laws_szIntSS a0.2 a1) fun v1 => cond (decide (v1 < 0)) (some (-1)) (some v1)
theorem laws_szRelation_s {a0 : Y25} {a1 : Int} {r : Int} (h : laws_szRelation a0 a1 = some r) : SoundAt Try.prog 134 [.agg (c95_dd a0), nI a1] (nI r) := by
 unfold laws_szRelation at h
 refine st lit134 rfl (rn 1 rfl (rs (sp 3 rfl (?_))))
 obtain ⟨v1, g2, h⟩ := ob_some h
 refine qC (qa rfl (erD ec31_d _) (qs rfl eran)) (laws_szIntSS_s g2) (sp 1 rfl (evn (ls_seq_k fun K3 hK3 => rn 1 rfl ?_)))
 rcases cond_some h with ⟨g4, h⟩ | ⟨g4, h⟩
 ·exact qT rfl g4 (rn 1 rfl (ls_ret ((by cases h; exact ⟨.inl rfl, rfl⟩))))
 ·exact qF rfl g4 (ls_skip (hK3 _ (rn 1 rfl (ls_ret ((by cases h; exact ⟨.inl rfl, rfl⟩))))))
def laws_szTable (a0 : Y262) (a1 : Int) : Option (Int) := cond (decide ((IntKind.i64.wrap (a1 - (List.length a0.1 : Int))) < 0)) (some (-1)) (obind (laws_szRelation a0.2 (IntKind.i64.wrap (a1 - (List.length a0.1 : Int)))) fun v3 => cond (decide (v3 < 0)) (some (-1)) (some v3))
theorem laws_szTable_s {a0 : Y262} {a1 : Int} {r : Int} (h : laws_szTable a0 a1 = some r) : SoundAt Try.prog 241 [.agg (c263_dd a0), nI a1] (nI r) := by
 unfold laws_szTable at h
 refine st lit241 rfl (rn 2 rfl (ls_seq_k fun K1 hK1 => rn 1 rfl ?_))
 rcases cond_some h with ⟨g2, h⟩ | ⟨g2, h⟩
 ·exact qT rfl g2 (rn 1 rfl (ls_ret ((by cases h; exact ⟨.inl rfl, rfl⟩))))
 ·refine qF rfl g2 (ls_skip (hK1 _ (rs (sp 3 rfl (?_)))))
  obtain ⟨v3, g4, h⟩ := ob_some h
  refine qC (qa rfl (erg (erc rfl (erc (erD ec31_d _) rfl))) (qs rfl eran)) (laws_szRelation_s g4) (sp 1 rfl (evn (ls_seq_k fun K5 hK5 => rn 1 rfl ?_)))
  rcases cond_some h with ⟨g6, h⟩ | ⟨g6, h⟩
  ·exact qT rfl g6 (rn 1 rfl (qk [4] rfl (ls_ret ((by cases h; exact ⟨.inl rfl, rfl⟩)))))
  ·exact qF rfl g6 (ls_skip (hK5 _ (rn 1 rfl (ls_ret ((by cases h; exact ⟨.inl rfl, rfl⟩))))))
def laws_szTableS_B1 (a0 : List Y262) (rec : (Int × Int) → Option (Sum (Int) (Int))) (s : Int × Int) : Option (Sum (Int) (Int)) := match s with
  | (y1, y2) => cond (decide (y2 < (List.length a0 : Int))) (obind (geti a0 y2) fun e8 => obind (laws_szTable e8 y1) fun v10 => cond (decide (v10 < 0)) (some (.inr (-1))) (rec (v10, (IntKind.i64.wrap (y2 + 1))))) (some (.inl y1))
def laws_szTableS (a0 : List Y262) (a1 : Int) : Option (Int) := cond (decide ((IntKind.i64.wrap (a1 - (List.length a0 : Int))) < 0)) (some (-1)) (obind (loopF (laws_szTableS_B1 a0) fz ((IntKind.i64.wrap (a1 - (List.length a0 : Int))), 0)) fun o1 => (match o1 with
  | .inl z4 => (some z4)
  | .inr r => some r))
theorem laws_szTableS_s {a0 : List Y262} {a1 : Int} {r : Int} (h : laws_szTableS a0 a1 = some r) : SoundAt Try.prog 227 [dL c263_dd a0, nI a1] (nI r) := by
 unfold laws_szTableS at h
 refine st lit227 rfl (rn 2 rfl (ls_seq_k fun K1 hK1 => rn 1 rfl ?_))
 rcases cond_some h with ⟨g2, h⟩ | ⟨g2, h⟩
 ·exact qT rfl g2 (rn 1 rfl (ls_ret ((by cases h; exact ⟨.inl rfl, rfl⟩))))
 ·refine qF rfl g2 (ls_skip (hK1 _ (ls_seq_k fun K3 hK3 => rn 1 rfl ?_)))
  obtain ⟨o1, hl, hr1⟩ := ob_some h
  have kXB1 : ∀ {z4 : Int}, (.inl z4) = o1 → Jn K3 [(1, nI z4)] := by
   intro z4 h σ' hk
   subst h
   replace h := hr1
   try dsimp only at h
   exact hK3 _ (lh hk rfl (rn 1 rfl (ls_ret ((by cases h; exact ⟨.inl rfl, rfl⟩)))))
  refine ls_rec (fun (s : Int × Int) => match s with | (y1, y2) => [(0, dL c263_dd a0), (1, nI y1), (5, nI y2)]) _ _ _ _ hl (okr rfl) (fun _ => rfl) ?_
  rintro m ⟨y1, y2⟩ N h hN
  unfold laws_szTableS_B1 at h
  dsimp only at h
  refine ls_seq_k fun K5 hK5 => rn 1 rfl ?_
  rcases cond_some h with ⟨g6, h⟩ | ⟨g6, h⟩
  ·refine qT rfl g6 (ls_skip (hK5 _ (ls_seq_k fun K7 hK7 => ls_blk (rs (sp 2 rfl (?_))))))
   obtain ⟨e8, g9, h⟩ := ob_some h
   refine qI rfl zc263_dd g9 (sp 2 rfl (?_))
   obtain ⟨v10, g11, h⟩ := ob_some h
   refine qC (qa rfl (erg (erc rfl (erc rfl (erc (erD ec31_d _) rfl)))) (qs rfl eran)) (laws_szTable_s g11) (sp 1 rfl (evn (rn 1 rfl ?_)))
   rcases cond_some h with ⟨g12, h⟩ | ⟨g12, h⟩
   ·exact qT rfl g12 (rn 1 rfl (ls_ret ((by cases h; cases hr1; exact ⟨.inl rfl, rfl⟩))))
   ·exact qF rfl g12 (ls_skip (hK7 _ (rg (sp 3 rfl (evn (hN _ _ h (okr rfl)))))))
  ·exact qF rfl g6 (ls_exit (kXB1 (Option.some.inj h) _ (okr rfl)))
def laws_szDatabase (a0 : List Y262) (a1 : Int) : Option (Int) := obind (laws_szTableS a0 a1) fun v1 => cond (decide (v1 < 0)) (some (-1)) (some v1)
theorem laws_szDatabase_s {a0 : List Y262} {a1 : Int} {r : Int} (h : laws_szDatabase a0 a1 = some r) : SoundAt Try.prog 194 [.agg [dL c263_dd a0], nI a1] (nI r) := by
 unfold laws_szDatabase at h
 refine st lit194 rfl (rn 1 rfl (rs (sp 3 rfl (?_))))
 obtain ⟨v1, g2, h⟩ := ob_some h
 refine qC (qa rfl (erD ec263_dd _) (qs rfl eran)) (laws_szTableS_s g2) (sp 1 rfl (evn (ls_seq_k fun K3 hK3 => rn 1 rfl ?_)))
 rcases cond_some h with ⟨g4, h⟩ | ⟨g4, h⟩
 ·exact qT rfl g4 (rn 1 rfl (ls_ret ((by cases h; exact ⟨.inl rfl, rfl⟩))))
 ·exact qF rfl g4 (ls_skip (hK3 _ (rn 1 rfl (ls_ret ((by cases h; exact ⟨.inl rfl, rfl⟩))))))
def laws_szDatabaseS_B1 (a0 : List (List Y262)) (rec : (Int × Int) → Option (Sum (Int) (Int))) (s : Int × Int) : Option (Sum (Int) (Int)) := match s with
  | (y1, y2) => cond (decide (y2 < (List.length a0 : Int))) (obind (geti a0 y2) fun e8 => obind (laws_szDatabase e8 y1) fun v10 => cond (decide (v10 < 0)) (some (.inr (-1))) (rec (v10, (IntKind.i64.wrap (y2 + 1))))) (some (.inl y1))
def laws_szDatabaseS (a0 : List (List Y262)) (a1 : Int) : Option (Int) := cond (decide ((IntKind.i64.wrap (a1 - (List.length a0 : Int))) < 0)) (some (-1)) (obind (loopF (laws_szDatabaseS_B1 a0) fz ((IntKind.i64.wrap (a1 - (List.length a0 : Int))), 0)) fun o1 => (match o1 with
  | .inl z4 => (some z4)
  | .inr r => some r))
theorem laws_szDatabaseS_s {a0 : List (List Y262)} {a1 : Int} {r : Int} (h : laws_szDatabaseS a0 a1 = some r) : SoundAt Try.prog 126 [dL c222_ddd a0, nI a1] (nI r) := by
 unfold laws_szDatabaseS at h
 refine st lit126 rfl (rn 2 rfl (ls_seq_k fun K1 hK1 => rn 1 rfl ?_))
 rcases cond_some h with ⟨g2, h⟩ | ⟨g2, h⟩
 ·exact qT rfl g2 (rn 1 rfl (ls_ret ((by cases h; exact ⟨.inl rfl, rfl⟩))))
 ·refine qF rfl g2 (ls_skip (hK1 _ (ls_seq_k fun K3 hK3 => rn 1 rfl ?_)))
  obtain ⟨o1, hl, hr1⟩ := ob_some h
  have kXB1 : ∀ {z4 : Int}, (.inl z4) = o1 → Jn K3 [(1, nI z4)] := by
   intro z4 h σ' hk
   subst h
   replace h := hr1
   try dsimp only at h
   exact hK3 _ (lh hk rfl (rn 1 rfl (ls_ret ((by cases h; exact ⟨.inl rfl, rfl⟩)))))
  refine ls_rec (fun (s : Int × Int) => match s with | (y1, y2) => [(0, dL c222_ddd a0), (1, nI y1), (5, nI y2)]) _ _ _ _ hl (okr rfl) (fun _ => rfl) ?_
  rintro m ⟨y1, y2⟩ N h hN
  unfold laws_szDatabaseS_B1 at h
  dsimp only at h
  refine ls_seq_k fun K5 hK5 => rn 1 rfl ?_
  rcases cond_some h with ⟨g6, h⟩ | ⟨g6, h⟩
  ·refine qT rfl g6 (ls_skip (hK5 _ (ls_seq_k fun K7 hK7 => ls_blk (rs (sp 2 rfl (?_))))))
   obtain ⟨e8, g9, h⟩ := ob_some h
   refine qI rfl zc222_ddd g9 (sp 2 rfl (?_))
   obtain ⟨v10, g11, h⟩ := ob_some h
   refine qC (qa rfl (erg (erc (erD ec263_dd _) rfl)) (qs rfl eran)) (laws_szDatabase_s g11) (sp 1 rfl (evn (rn 1 rfl ?_)))
   rcases cond_some h with ⟨g12, h⟩ | ⟨g12, h⟩
   ·exact qT rfl g12 (rn 1 rfl (ls_ret ((by cases h; cases hr1; exact ⟨.inl rfl, rfl⟩))))
   ·exact qF rfl g12 (ls_skip (hK7 _ (rg (sp 3 rfl (evn (hN _ _ h (okr rfl)))))))
  ·exact qF rfl g6 (ls_exit (kXB1 (Option.some.inj h) _ (okr rfl)))
def laws_szHistory (a0 : Y82) (a1 : Int) : Option (Int) := obind (laws_szDatabaseS a0.2 a1) fun v1 => cond (decide (v1 < 0)) (some (-1)) (some v1)
theorem laws_szHistory_s {a0 : Y82} {a1 : Int} {r : Int} (h : laws_szHistory a0 a1 = some r) : SoundAt Try.prog 51 [.agg (c83_dddd a0), nI a1] (nI r) := by
 unfold laws_szHistory at h
 refine st lit51 rfl (rn 1 rfl (rs (sp 3 rfl (?_))))
 obtain ⟨v1, g2, h⟩ := ob_some h
 refine qC (qa rfl (erD ec222_ddd _) (qs rfl eran)) (laws_szDatabaseS_s g2) (sp 1 rfl (evn (ls_seq_k fun K3 hK3 => rn 1 rfl ?_)))
 rcases cond_some h with ⟨g4, h⟩ | ⟨g4, h⟩
 ·exact qT rfl g4 (rn 1 rfl (ls_ret ((by cases h; exact ⟨.inl rfl, rfl⟩))))
 ·exact qF rfl g4 (ls_skip (hK3 _ (rn 1 rfl (ls_ret ((by cases h; exact ⟨.inl rfl, rfl⟩))))))
def laws_toIntS_B1 (a0 : List Int) (rec : ((List Int) × Int) → Option ((List Int))) (s : (List Int) × Int) : Option ((List Int)) := match s with
  | (y1, y2) => cond (decide (y2 < (List.length a0 : Int))) (obind (geti a0 y2) fun e7 => obind (geti y1 y2) fun e9 => rec ((seti y1 y2 e7), (IntKind.i64.wrap (y2 + 1)))) (some y1)
def laws_toIntS (a0 : List Int) : Option ((List Int)) := chk ((0 : Int) ≤ (List.length a0 : Int) ∧ Int.toNat (List.length a0 : Int) ≤ lim) (obind (loopF (laws_toIntS_B1 a0) fz ((List.replicate (Int.toNat (List.length a0 : Int)) (0 : Int)), 0)) fun z3 => some z3)
theorem laws_toIntS_s {a0 : List Int} {r : (List Int)} (h : laws_toIntS a0 = some r) : SoundAt Try.prog 33 [dL ci64 a0] (oL 3 ci64 r) := by
 unfold laws_toIntS at h
 refine st lit33 rfl (rn 1 rfl (rs (sp 2 rfl (?_))))
 obtain ⟨g1, h⟩ := chk_some h
 refine qMu ci64 (0 : Int) rfl rfl rfl rfl g1 rfl (qAu rfl rfl rfl rfl (evn (ls_seq_k fun K2 hK2 => rn 1 rfl ?_)))
 obtain ⟨o1, hl, hr1⟩ := ob_some h
 have kXB1 : ∀ {z3 : List Int}, z3 = o1 → Jn K2 [(3, wL 3 ci64 z3)] := by
  intro z3 h σ' hk
  subst h
  replace h := hr1
  try dsimp only at h
  exact hK2 _ (lh hk rfl (rs (qTu rfl rfl rfl (sp 1 rfl (evn (ls_ret ((by cases h; exact ⟨.inl rfl, rfl⟩))))))))
 refine ls_rec (fun (s : (List Int) × Int) => match s with | (y1, y2) => [(0, dL ci64 a0), (3, wL 3 ci64 y1), (4, nI y2)]) _ _ _ _ hl (okr rfl) (fun _ => rfl) ?_
 rintro m ⟨y1, y2⟩ N h hN
 unfold laws_toIntS_B1 at h
 dsimp only at h
 refine ls_seq_k fun K4 hK4 => rn 1 rfl ?_
 rcases cond_some h with ⟨g5, h⟩ | ⟨g5, h⟩
 ·refine qT rfl g5 (ls_skip (hK4 _ (ls_seq_k fun K6 hK6 => ls_blk (rg (sp 4 rfl (?_))))))
  obtain ⟨e7, g8, h⟩ := ob_some h
  refine qI rfl zci64 g8 (sp 1 rfl (?_))
  obtain ⟨e9, g10, h⟩ := ob_some h
  exact qIu rfl ⟨(geti_some g10).1, (geti_some g10).2.1⟩ (qSu e7 rfl rfl zci64 ⟨(geti_some g10).1, (geti_some g10).2.1⟩ rfl rfl rfl rfl rfl rfl (evn (hK6 _ (rg (sp 3 rfl (evn (hN _ _ h (okr rfl))))))))
 ·exact qF rfl g5 (ls_exit (kXB1 (Option.some.inj h) _ (okr rfl)))
def laws_toIntSS_B1 (a0 : List (List Int)) (rec : ((List (List Int)) × Int) → Option ((List (List Int)))) (s : (List (List Int)) × Int) : Option ((List (List Int))) := match s with
  | (y1, y2) => cond (decide (y2 < (List.length a0 : Int))) (obind (geti a0 y2) fun e7 => obind (laws_toIntS e7) fun v9 => obind (geti y1 y2) fun e11 => rec ((seti y1 y2 v9), (IntKind.i64.wrap (y2 + 1)))) (some y1)
def laws_toIntSS (a0 : List (List Int)) : Option ((List (List Int))) := chk ((0 : Int) ≤ (List.length a0 : Int) ∧ Int.toNat (List.length a0 : Int) ≤ lim) (obind (loopF (laws_toIntSS_B1 a0) fz ((List.replicate (Int.toNat (List.length a0 : Int)) ([] : List Int)), 0)) fun z3 => some z3)
theorem laws_toIntSS_s {a0 : List (List Int)} {r : (List (List Int))} (h : laws_toIntSS a0 = some r) : SoundAt Try.prog 197 [dL c31_d a0] (oL 31 c31_o r) := by
 unfold laws_toIntSS at h
 refine st lit197 rfl (rn 1 rfl (rs (sp 2 rfl (?_))))
 obtain ⟨g1, h⟩ := chk_some h
 refine qMu c31_o ([] : List Int) rfl rfl rfl rfl g1 rfl (qAu rfl rfl rfl rfl (evn (ls_seq_k fun K2 hK2 => rn 1 rfl ?_)))
 obtain ⟨o1, hl, hr1⟩ := ob_some h
 have kXB1 : ∀ {z3 : List (List Int)}, z3 = o1 → Jn K2 [(3, wL 31 c31_o z3)] := by
  intro z3 h σ' hk
  subst h
  replace h := hr1
  try dsimp only at h
  exact hK2 _ (lh hk rfl (rs (qTu rfl rfl rfl (sp 1 rfl (evn (ls_ret ((by cases h; exact ⟨.inl rfl, rfl⟩))))))))
 refine ls_rec (fun (s : (List (List Int)) × Int) => match s with | (y1, y2) => [(0, dL c31_d a0), (3, wL 31 c31_o y1), (4, nI y2)]) _ _ _ _ hl (okr rfl) (fun _ => rfl) ?_
 rintro m ⟨y1, y2⟩ N h hN
 unfold laws_toIntSS_B1 at h
 dsimp only at h
 refine ls_seq_k fun K4 hK4 => rn 1 rfl ?_
 rcases cond_some h with ⟨g5, h⟩ | ⟨g5, h⟩
 ·refine qT rfl g5 (ls_skip (hK4 _ (ls_seq_k fun K6 hK6 => ls_blk (rg (sp 4 rfl (?_))))))
  obtain ⟨e7, g8, h⟩ := ob_some h
  refine qI rfl zc31_d g8 (sp 1 rfl (?_))
  obtain ⟨v9, g10, h⟩ := ob_some h
  refine qC (qa rfl (erD eci64 _) eran) (laws_toIntS_s g10) (?_)
  obtain ⟨e11, g12, h⟩ := ob_some h
  exact qIu rfl ⟨(geti_some g12).1, (geti_some g12).2.1⟩ (qSu v9 rfl rfl zc31_o ⟨(geti_some g12).1, (geti_some g12).2.1⟩ rfl rfl rfl rfl rfl rfl (evn (hK6 _ (rg (sp 3 rfl (evn (hN _ _ h (okr rfl))))))))
 ·exact qF rfl g5 (ls_exit (kXB1 (Option.some.inj h) _ (okr rfl)))
def laws_toRelation (a0 : Y25) : Option (Y25) := obind (laws_toIntSS a0.2) fun v1 => some (a0.1, v1)
theorem laws_toRelation_s {a0 : Y25} {r : Y25} (h : laws_toRelation a0 = some r) : SoundAt Try.prog 135 [.agg (c95_dd a0)] (.agg (c26_oo r)) := by
 unfold laws_toRelation at h
 refine st lit135 rfl (rn 3 rfl (rs (sp 2 rfl (?_))))
 obtain ⟨v1, g2, h⟩ := ob_some h
 exact qC (qa rfl (erD ec31_d _) eran) (laws_toIntSS_s g2) (sp 2 rfl (evn (rn 1 rfl (ls_ret ((by cases h; exact ⟨.inl rfl, rfl⟩))))))
def laws_toTable (a0 : Y262) : Option (Y106) := obind (laws_toRelation a0.2) fun v1 => some (a0.1, v1)
theorem laws_toTable_s {a0 : Y262} {r : Y106} (h : laws_toTable a0 = some r) : SoundAt Try.prog 242 [.agg (c263_dd a0)] (.agg (c107_oo r)) := by
 unfold laws_toTable at h
 refine st lit242 rfl (rn 3 rfl (rs (sp 2 rfl (?_))))
 obtain ⟨v1, g2, h⟩ := ob_some h
 exact qC (qa rfl (erg (erc rfl (erc (erD ec31_d _) rfl))) eran) (laws_toRelation_s g2) (sp 2 rfl (evn (rn 1 rfl (ls_ret ((by cases h; exact ⟨.inl rfl, rfl⟩))))))
def laws_toTableS_B1 (a0 : List Y262) (rec : ((List Y106) × Int) → Option ((List Y106))) (s : (List Y106) × Int) : Option ((List Y106)) := match s with
  | (y1, y2) => cond (decide (y2 < (List.length a0 : Int))) (obind (geti a0 y2) fun e7 => obind (laws_toTable e7) fun v9 => obind (geti y1 y2) fun e11 => rec ((seti y1 y2 v9), (IntKind.i64.wrap (y2 + 1)))) (some y1)
def laws_toTableS (a0 : List Y262) : Option ((List Y106)) := chk ((0 : Int) ≤ (List.length a0 : Int) ∧ Int.toNat (List.length a0 : Int) ≤ lim) (obind (loopF (laws_toTableS_B1 a0) fz ((List.replicate (Int.toNat (List.length a0 : Int)) (([], (0, [])) : Y106)), 0)) fun z3 => some z3)
theorem laws_toTableS_s {a0 : List Y262} {r : (List Y106)} (h : laws_toTableS a0 = some r) : SoundAt Try.prog 228 [dL c263_dd a0] (oL 107 c107_oo r) := by
 unfold laws_toTableS at h
 refine st lit228 rfl (rn 1 rfl (rs (sp 2 rfl (?_))))
 obtain ⟨g1, h⟩ := chk_some h
 refine qMu c107_oo (([], (0, [])) : Y106) rfl rfl rfl rfl g1 rfl (qAu rfl rfl rfl rfl (evn (ls_seq_k fun K2 hK2 => rn 1 rfl ?_)))
 obtain ⟨o1, hl, hr1⟩ := ob_some h
 have kXB1 : ∀ {z3 : List Y106}, z3 = o1 → Jn K2 [(3, wL 107 c107_oo z3)] := by
  intro z3 h σ' hk
  subst h
  replace h := hr1
  try dsimp only at h
  exact hK2 _ (lh hk rfl (rs (qTu rfl rfl rfl (sp 1 rfl (evn (ls_ret ((by cases h; exact ⟨.inl rfl, rfl⟩))))))))
 refine ls_rec (fun (s : (List Y106) × Int) => match s with | (y1, y2) => [(0, dL c263_dd a0), (3, wL 107 c107_oo y1), (4, nI y2)]) _ _ _ _ hl (okr rfl) (fun _ => rfl) ?_
 rintro m ⟨y1, y2⟩ N h hN
 unfold laws_toTableS_B1 at h
 dsimp only at h
 refine ls_seq_k fun K4 hK4 => rn 1 rfl ?_
 rcases cond_some h with ⟨g5, h⟩ | ⟨g5, h⟩
 ·refine qT rfl g5 (ls_skip (hK4 _ (ls_seq_k fun K6 hK6 => ls_blk (rg (sp 4 rfl (?_))))))
  obtain ⟨e7, g8, h⟩ := ob_some h
  refine qI rfl zc263_dd g8 (sp 1 rfl (?_))
  obtain ⟨v9, g10, h⟩ := ob_some h
  refine qC (qa rfl (erg (erc rfl (erc rfl (erc (erD ec31_d _) rfl)))) eran) (laws_toTable_s g10) (?_)
  obtain ⟨e11, g12, h⟩ := ob_some h
  exact qIu rfl ⟨(geti_some g12).1, (geti_some g12).2.1⟩ (qSu v9 rfl rfl zc107_oo ⟨(geti_some g12).1, (geti_some g12).2.1⟩ rfl rfl rfl rfl rfl rfl (evn (hK6 _ (rg (sp 3 rfl (evn (hN _ _ h (okr rfl))))))))
 ·exact qF rfl g5 (ls_exit (kXB1 (Option.some.inj h) _ (okr rfl)))
def laws_toDatabase (a0 : List Y262) : Option ((List Y106)) := obind (laws_toTableS a0) fun v1 => some v1
theorem laws_toDatabase_s {a0 : List Y262} {r : (List Y106)} (h : laws_toDatabase a0 = some r) : SoundAt Try.prog 195 [.agg [dL c263_dd a0]] (.agg [oL 107 c107_oo r]) := by
 unfold laws_toDatabase at h
 refine st lit195 rfl (rn 2 rfl (rs (sp 2 rfl (?_))))
 obtain ⟨v1, g2, h⟩ := ob_some h
 exact qC (qa rfl (erD ec263_dd _) eran) (laws_toTableS_s g2) (sp 2 rfl (evn (rn 1 rfl (ls_ret ((by cases h; exact ⟨.inl rfl, rfl⟩))))))
def laws_toDatabaseS_B1 (a0 : List (List Y262)) (rec : ((List (List Y106)) × Int) → Option ((List (List Y106)))) (s : (List (List Y106)) × Int) : Option ((List (List Y106))) := match s with
  | (y1, y2) => cond (decide (y2 < (List.length a0 : Int))) (obind (geti a0 y2) fun e7 => obind (laws_toDatabase e7) fun v9 => obind (geti y1 y2) fun e11 => rec ((seti y1 y2 v9), (IntKind.i64.wrap (y2 + 1)))) (some y1)
def laws_toDatabaseS (a0 : List (List Y262)) : Option ((List (List Y106))) := chk ((0 : Int) ≤ (List.length a0 : Int) ∧ Int.toNat (List.length a0 : Int) ≤ lim) (obind (loopF (laws_toDatabaseS_B1 a0) fz ((List.replicate (Int.toNat (List.length a0 : Int)) ([] : List Y106)), 0)) fun z3 => some z3)
theorem laws_toDatabaseS_s {a0 : List (List Y262)} {r : (List (List Y106))} (h : laws_toDatabaseS a0 = some r) : SoundAt Try.prog 128 [dL c222_ddd a0] (oL 42 c42_ooo r) := by
 unfold laws_toDatabaseS at h
 refine st lit128 rfl (rn 1 rfl (rs (sp 2 rfl (?_))))
 obtain ⟨g1, h⟩ := chk_some h
 refine qMu c42_ooo ([] : List Y106) rfl rfl rfl rfl g1 rfl (qAu rfl rfl rfl rfl (evn (ls_seq_k fun K2 hK2 => rn 1 rfl ?_)))
 obtain ⟨o1, hl, hr1⟩ := ob_some h
 have kXB1 : ∀ {z3 : List (List Y106)}, z3 = o1 → Jn K2 [(3, wL 42 c42_ooo z3)] := by
  intro z3 h σ' hk
  subst h
  replace h := hr1
  try dsimp only at h
  exact hK2 _ (lh hk rfl (rs (qTu rfl rfl rfl (sp 1 rfl (evn (ls_ret ((by cases h; exact ⟨.inl rfl, rfl⟩))))))))
 refine ls_rec (fun (s : (List (List Y106)) × Int) => match s with | (y1, y2) => [(0, dL c222_ddd a0), (3, wL 42 c42_ooo y1), (4, nI y2)]) _ _ _ _ hl (okr rfl) (fun _ => rfl) ?_
 rintro m ⟨y1, y2⟩ N h hN
 unfold laws_toDatabaseS_B1 at h
 dsimp only at h
 refine ls_seq_k fun K4 hK4 => rn 1 rfl ?_
 rcases cond_some h with ⟨g5, h⟩ | ⟨g5, h⟩
 ·refine qT rfl g5 (ls_skip (hK4 _ (ls_seq_k fun K6 hK6 => ls_blk (rg (sp 4 rfl (?_))))))
  obtain ⟨e7, g8, h⟩ := ob_some h
  refine qI rfl zc222_ddd g8 (sp 1 rfl (?_))
  obtain ⟨v9, g10, h⟩ := ob_some h
  refine qC (qa rfl (erg (erc (erD ec263_dd _) rfl)) eran) (laws_toDatabase_s g10) (?_)
  obtain ⟨e11, g12, h⟩ := ob_some h
  exact qIu rfl ⟨(geti_some g12).1, (geti_some g12).2.1⟩ (qSu v9 rfl rfl zc42_ooo ⟨(geti_some g12).1, (geti_some g12).2.1⟩ rfl rfl rfl rfl rfl rfl (evn (hK6 _ (rg (sp 3 rfl (evn (hN _ _ h (okr rfl))))))))
 ·exact qF rfl g5 (ls_exit (kXB1 (Option.some.inj h) _ (okr rfl)))
def laws_toHistory (a0 : Y82) : Option (Y69) := obind (laws_toDatabaseS a0.2) fun v1 => some (a0.1, v1)
theorem laws_toHistory_s {a0 : Y82} {r : Y69} (h : laws_toHistory a0 = some r) : SoundAt Try.prog 54 [.agg (c83_dddd a0)] (.agg (c70_oooo r)) := by
 unfold laws_toHistory at h
 refine st lit54 rfl (rn 3 rfl (rs (sp 2 rfl (?_))))
 obtain ⟨v1, g2, h⟩ := ob_some h
 exact qC (qa rfl (erD ec222_ddd _) eran) (laws_toDatabaseS_s g2) (sp 2 rfl (evn (rn 1 rfl (ls_ret ((by cases h; exact ⟨.inl rfl, rfl⟩))))))
def laws_eqIntS_B1 (a0 : List Int) (a1 : List Int) (rec : Int → Option (Sum (Unit) (Bool))) (y1 : Int) : Option (Sum (Unit) (Bool)) := cond (decide (y1 < (List.length a0 : Int))) (obind (geti a0 y1) fun e7 => obind (geti a1 y1) fun e9 => cond (e7 != e9) (some (.inr false)) (rec (IntKind.i64.wrap (y1 + 1)))) (some (.inl ()))
def laws_eqIntS (a0 : List Int) (a1 : List Int) : Option (Bool) := cond ((List.length a0 : Int) != (List.length a1 : Int)) (some false) (obind (loopF (laws_eqIntS_B1 a0 a1) fz 0) fun o1 => (match o1 with
  | .inl _ => (some true)
  | .inr r => some r))
theorem laws_eqIntS_s {a0 : List Int} {a1 : List Int} {r : Bool} (h : laws_eqIntS a0 a1 = some r) : SoundAt Try.prog 37 [dL ci64 a0, dL ci64 a1] (.bool r) := by
 unfold laws_eqIntS at h
 refine st lit37 rfl (rn 1 rfl (ls_seq_k fun K1 hK1 => rn 1 rfl ?_))
 rcases cond_some h with ⟨g2, h⟩ | ⟨g2, h⟩
 ·exact qT rfl g2 (rn 1 rfl (ls_ret ((by cases h; exact ⟨.inl rfl, rfl⟩))))
 ·refine qF rfl g2 (ls_skip (hK1 _ (ls_seq_k fun K3 hK3 => rn 1 rfl ?_)))
  obtain ⟨o1, hl, hr1⟩ := ob_some h
  have kXB1 : (.inl ()) = o1 → Jn K3 [] := by
   intro h σ' hk
   subst h
   replace h := hr1
   try dsimp only at h
   exact hK3 _ (lh hk rfl (rn 1 rfl (ls_ret ((by cases h; exact ⟨.inl rfl, rfl⟩)))))
  refine ls_rec (fun (y1 : Int) => [(0, dL ci64 a0), (1, dL ci64 a1), (5, nI y1)]) _ _ _ _ hl (okr rfl) (fun _ => rfl) ?_
  rintro m y1 N h hN
  unfold laws_eqIntS_B1 at h
  refine ls_seq_k fun K4 hK4 => rn 1 rfl ?_
  rcases cond_some h with ⟨g5, h⟩ | ⟨g5, h⟩
  ·refine qT rfl g5 (ls_skip (hK4 _ (ls_seq_k fun K6 hK6 => ls_blk (rd (by kernel_rfl) (sd 2 rfl (?_))))))
   obtain ⟨e7, g8, h⟩ := ob_some h
   refine ed rfl (qI rfl zci64 g8 (sd 3 rfl (?_)))
   obtain ⟨e9, g10, h⟩ := ob_some h
   refine ed rfl (qI rfl zci64 g10 (sd 2 rfl (evdn ?_)))
   rcases cond_some h with ⟨g11, h⟩ | ⟨g11, h⟩
   ·exact qT rfl g11 (rn 1 rfl (ls_ret ((by cases h; cases hr1; exact ⟨.inl rfl, rfl⟩))))
   ·exact qF rfl g11 (ls_skip (hK6 _ (rg (sp 3 rfl (evn (hN _ _ h (okr rfl)))))))
  ·exact qF rfl g5 (ls_exit (kXB1 (Option.some.inj h) _ trivial))
def laws_eqIntSS_B1 (a0 : List (List Int)) (a1 : List (List Int)) (rec : Int → Option (Sum (Unit) (Bool))) (y1 : Int) : Option (Sum (Unit) (Bool)) := cond (decide (y1 < (List.length a0 : Int))) (obind (geti a0 y1) fun e7 => obind (geti a1 y1) fun e9 => obind (laws_eqIntS e7 e9) fun v11 => cond (!v11) (some (.inr false)) (rec (IntKind.i64.wrap (y1 + 1)))) (some (.inl ()))
def laws_eqIntSS (a0 : List (List Int)) (a1 : List (List Int)) : Option (Bool) := cond ((List.length a0 : Int) != (List.length a1 : Int)) (some false) (obind (loopF (laws_eqIntSS_B1 a0 a1) fz 0) fun o1 => (match o1 with
  | .inl _ => (some true)
  | .inr r => some r))
theorem laws_eqIntSS_s {a0 : List (List Int)} {a1 : List (List Int)} {r : Bool} (h : laws_eqIntSS a0 a1 = some r) : SoundAt Try.prog 198 [dL c31_d a0, dL c31_d a1] (.bool r) := by
 unfold laws_eqIntSS at h
 refine st lit198 rfl (rn 1 rfl (ls_seq_k fun K1 hK1 => rn 1 rfl ?_))
 rcases cond_some h with ⟨g2, h⟩ | ⟨g2, h⟩
 ·exact qT rfl g2 (rn 1 rfl (ls_ret ((by cases h; exact ⟨.inl rfl, rfl⟩))))
 ·refine qF rfl g2 (ls_skip (hK1 _ (ls_seq_k fun K3 hK3 => rn 1 rfl ?_)))
  obtain ⟨o1, hl, hr1⟩ := ob_some h
  have kXB1 : (.inl ()) = o1 → Jn K3 [] := by
   intro h σ' hk
   subst h
   replace h := hr1
   try dsimp only at h
   exact hK3 _ (lh hk rfl (rn 1 rfl (ls_ret ((by cases h; exact ⟨.inl rfl, rfl⟩)))))
  refine ls_rec (fun (y1 : Int) => [(0, dL c31_d a0), (1, dL c31_d a1), (5, nI y1)]) _ _ _ _ hl (okr rfl) (fun _ => rfl) ?_
  rintro m y1 N h hN
  unfold laws_eqIntSS_B1 at h
  refine ls_seq_k fun K4 hK4 => rn 1 rfl ?_
  rcases cond_some h with ⟨g5, h⟩ | ⟨g5, h⟩
  ·refine qT rfl g5 (ls_skip (hK4 _ (ls_seq_k fun K6 hK6 => ls_blk (rd (by kernel_rfl) (sd 2 rfl (?_))))))
   obtain ⟨e7, g8, h⟩ := ob_some h
   refine ed rfl (qI rfl zc31_d g8 (sd 3 rfl (?_)))
   obtain ⟨e9, g10, h⟩ := ob_some h
   refine ed rfl (qI rfl zc31_d g10 (sd 1 rfl (?_)))
   obtain ⟨v11, g12, h⟩ := ob_some h
   refine ed rfl (qC (qa rfl (erD eci64 _) (qa rfl (erD eci64 _) eran)) (laws_eqIntS_s g12) (sd 1 rfl (evdn ?_)))
   rcases cond_some h with ⟨g13, h⟩ | ⟨g13, h⟩
   ·exact qT rfl g13 (rn 1 rfl (ls_ret ((by cases h; cases hr1; exact ⟨.inl rfl, rfl⟩))))
   ·exact qF rfl g13 (ls_skip (hK6 _ (rg (sp 3 rfl (evn (hN _ _ h (okr rfl)))))))
  ·exact qF rfl g5 (ls_exit (kXB1 (Option.some.inj h) _ trivial))
def laws_eqRelation (a0 : Y25) (a1 : Y25) : Option (Bool) := cond (a0.1 != a1.1) (some false) (obind (laws_eqIntSS a0.2 a1.2) fun v4 => cond (!v4) (some false) (some true))
theorem laws_eqRelation_s {a0 : Y25} {a1 : Y25} {r : Bool} (h : laws_eqRelation a0 a1 = some r) : SoundAt Try.prog 136 [.agg (c26_dd a0), .agg (c26_dd a1)] (.bool r) := by
 unfold laws_eqRelation at h
 refine st lit136 rfl (rn 1 rfl (ls_seq_k fun K1 hK1 => rn 1 rfl ?_))
 rcases cond_some h with ⟨g2, h⟩ | ⟨g2, h⟩
 ·exact qT rfl g2 (rn 1 rfl (ls_ret ((by cases h; exact ⟨.inl rfl, rfl⟩))))
 ·refine qF rfl g2 (ls_skip (hK1 _ (ls_seq_k fun K3 hK3 => rs (sp 4 rfl (?_)))))
  obtain ⟨v4, g5, h⟩ := ob_some h
  refine qC (qa rfl (erD ec31_d _) (qa rfl (erD ec31_d _) eran)) (laws_eqIntSS_s g5) (sp 1 rfl (evn ?_))
  rcases cond_some h with ⟨g6, h⟩ | ⟨g6, h⟩
  ·exact qT rfl g6 (rn 1 rfl (ls_ret ((by cases h; exact ⟨.inl rfl, rfl⟩))))
  ·exact qF rfl g6 (ls_skip (hK3 _ (rn 1 rfl (qk [4] rfl (ls_ret ((by cases h; exact ⟨.inl rfl, rfl⟩)))))))
def laws_eqTable (a0 : Y106) (a1 : Y106) : Option (Bool) := cond (!(a0.1 == a1.1)) (some false) (obind (laws_eqRelation a0.2 a1.2) fun v4 => cond (!v4) (some false) (some true))
theorem laws_eqTable_s {a0 : Y106} {a1 : Y106} {r : Bool} (h : laws_eqTable a0 a1 = some r) : SoundAt Try.prog 181 [.agg (c107_dd a0), .agg (c107_dd a1)] (.bool r) := by
 unfold laws_eqTable at h
 refine st lit181 rfl (rn 1 rfl (ls_seq_k fun K1 hK1 => rn 1 rfl ?_))
 rcases cond_some h with ⟨g2, h⟩ | ⟨g2, h⟩
 ·exact qT rfl g2 (rn 1 rfl (ls_ret ((by cases h; exact ⟨.inl rfl, rfl⟩))))
 ·refine qF rfl g2 (ls_skip (hK1 _ (ls_seq_k fun K3 hK3 => rs (sp 4 rfl (?_)))))
  obtain ⟨v4, g5, h⟩ := ob_some h
  refine qC (qa rfl (erg (erc rfl (erc (erD ec31_d _) rfl))) (qa rfl (erg (erc rfl (erc (erD ec31_d _) rfl))) eran)) (laws_eqRelation_s g5) (sp 1 rfl (evn ?_))
  rcases cond_some h with ⟨g6, h⟩ | ⟨g6, h⟩
  ·exact qT rfl g6 (rn 1 rfl (ls_ret ((by cases h; exact ⟨.inl rfl, rfl⟩))))
  ·exact qF rfl g6 (ls_skip (hK3 _ (rn 1 rfl (qk [4] rfl (ls_ret ((by cases h; exact ⟨.inl rfl, rfl⟩)))))))
def laws_eqTableS_B1 (a0 : List Y106) (a1 : List Y106) (rec : Int → Option (Sum (Unit) (Bool))) (y1 : Int) : Option (Sum (Unit) (Bool)) := cond (decide (y1 < (List.length a0 : Int))) (obind (geti a0 y1) fun e7 => obind (geti a1 y1) fun e9 => obind (laws_eqTable e7 e9) fun v11 => cond (!v11) (some (.inr false)) (rec (IntKind.i64.wrap (y1 + 1)))) (some (.inl ()))
def laws_eqTableS (a0 : List Y106) (a1 : List Y106) : Option (Bool) := cond ((List.length a0 : Int) != (List.length a1 : Int)) (some false) (obind (loopF (laws_eqTableS_B1 a0 a1) fz 0) fun o1 => (match o1 with
  | .inl _ => (some true)
  | .inr r => some r))
theorem laws_eqTableS_s {a0 : List Y106} {a1 : List Y106} {r : Bool} (h : laws_eqTableS a0 a1 = some r) : SoundAt Try.prog 110 [dL c107_dd a0, dL c107_dd a1] (.bool r) := by
 unfold laws_eqTableS at h
 refine st lit110 rfl (rn 1 rfl (ls_seq_k fun K1 hK1 => rn 1 rfl ?_))
 rcases cond_some h with ⟨g2, h⟩ | ⟨g2, h⟩
 ·exact qT rfl g2 (rn 1 rfl (ls_ret ((by cases h; exact ⟨.inl rfl, rfl⟩))))
 ·refine qF rfl g2 (ls_skip (hK1 _ (ls_seq_k fun K3 hK3 => rn 1 rfl ?_)))
  obtain ⟨o1, hl, hr1⟩ := ob_some h
  have kXB1 : (.inl ()) = o1 → Jn K3 [] := by
   intro h σ' hk
   subst h
   replace h := hr1
   try dsimp only at h
   exact hK3 _ (lh hk rfl (rn 1 rfl (ls_ret ((by cases h; exact ⟨.inl rfl, rfl⟩)))))
  refine ls_rec (fun (y1 : Int) => [(0, dL c107_dd a0), (1, dL c107_dd a1), (5, nI y1)]) _ _ _ _ hl (okr rfl) (fun _ => rfl) ?_
  rintro m y1 N h hN
  unfold laws_eqTableS_B1 at h
  refine ls_seq_k fun K4 hK4 => rn 1 rfl ?_
  rcases cond_some h with ⟨g5, h⟩ | ⟨g5, h⟩
  ·refine qT rfl g5 (ls_skip (hK4 _ (ls_seq_k fun K6 hK6 => ls_blk (rd (by kernel_rfl) (sd 2 rfl (?_))))))
   obtain ⟨e7, g8, h⟩ := ob_some h
   refine ed rfl (qI rfl zc107_dd g8 (sd 3 rfl (?_)))
   obtain ⟨e9, g10, h⟩ := ob_some h
   refine ed rfl (qI rfl zc107_dd g10 (sd 1 rfl (?_)))
   obtain ⟨v11, g12, h⟩ := ob_some h
   refine ed rfl (qC (qa rfl (erg (erc rfl (erc rfl (erc (erD ec31_d _) rfl)))) (qa rfl (erg (erc rfl (erc rfl (erc (erD ec31_d _) rfl)))) eran)) (laws_eqTable_s g12) (sd 1 rfl (evdn ?_)))
   rcases cond_some h with ⟨g13, h⟩ | ⟨g13, h⟩
   ·exact qT rfl g13 (rn 1 rfl (ls_ret ((by cases h; cases hr1; exact ⟨.inl rfl, rfl⟩))))
   ·exact qF rfl g13 (ls_skip (hK6 _ (rg (sp 3 rfl (evn (hN _ _ h (okr rfl)))))))
  ·exact qF rfl g5 (ls_exit (kXB1 (Option.some.inj h) _ trivial))
def laws_eqDatabase (a0 : List Y106) (a1 : List Y106) : Option (Bool) := obind (laws_eqTableS a0 a1) fun v2 => cond (!v2) (some false) (some true)
theorem laws_eqDatabase_s {a0 : List Y106} {a1 : List Y106} {r : Bool} (h : laws_eqDatabase a0 a1 = some r) : SoundAt Try.prog 35 [.agg [dL c107_dd a0], .agg [dL c107_dd a1]] (.bool r) := by
 unfold laws_eqDatabase at h
 refine st lit35 rfl (rn 1 rfl (ls_seq_k fun K1 hK1 => rs (sp 4 rfl (?_))))
 obtain ⟨v2, g3, h⟩ := ob_some h
 refine qC (qa rfl (erD ec107_dd _) (qa rfl (erD ec107_dd _) eran)) (laws_eqTableS_s g3) (sp 1 rfl (evn ?_))
 rcases cond_some h with ⟨g4, h⟩ | ⟨g4, h⟩
 ·exact qT rfl g4 (rn 1 rfl (ls_ret ((by cases h; exact ⟨.inl rfl, rfl⟩))))
 ·exact qF rfl g4 (ls_skip (hK1 _ (rn 1 rfl (ls_ret ((by cases h; exact ⟨.inl rfl, rfl⟩))))))
def laws_eqDatabaseS_B1 (a0 : List (List Y106)) (a1 : List (List Y106)) (rec : Int → Option (Sum (Unit) (Bool))) (y1 : Int) : Option (Sum (Unit) (Bool)) := cond (decide (y1 < (List.length a0 : Int))) (obind (geti a0 y1) fun e7 => obind (geti a1 y1) fun e9 => obind (laws_eqDatabase e7 e9) fun v11 => cond (!v11) (some (.inr false)) (rec (IntKind.i64.wrap (y1 + 1)))) (some (.inl ()))
def laws_eqDatabaseS (a0 : List (List Y106)) (a1 : List (List Y106)) : Option (Bool) := cond ((List.length a0 : Int) != (List.length a1 : Int)) (some false) (obind (loopF (laws_eqDatabaseS_B1 a0 a1) fz 0) fun o1 => (match o1 with
  | .inl _ => (some true)
  | .inr r => some r))
theorem laws_eqDatabaseS_s {a0 : List (List Y106)} {a1 : List (List Y106)} {r : Bool} (h : laws_eqDatabaseS a0 a1 = some r) : SoundAt Try.prog 130 [dL c42_ddd a0, dL c42_ddd a1] (.bool r) := by
 unfold laws_eqDatabaseS at h
 refine st lit130 rfl (rn 1 rfl (ls_seq_k fun K1 hK1 => rn 1 rfl ?_))
 rcases cond_some h with ⟨g2, h⟩ | ⟨g2, h⟩
 ·exact qT rfl g2 (rn 1 rfl (ls_ret ((by cases h; exact ⟨.inl rfl, rfl⟩))))
 ·refine qF rfl g2 (ls_skip (hK1 _ (ls_seq_k fun K3 hK3 => rn 1 rfl ?_)))
  obtain ⟨o1, hl, hr1⟩ := ob_some h
  have kXB1 : (.inl ()) = o1 → Jn K3 [] := by
   intro h σ' hk
   subst h
   replace h := hr1
   try dsimp only at h
   exact hK3 _ (lh hk rfl (rn 1 rfl (ls_ret ((by cases h; exact ⟨.inl rfl, rfl⟩)))))
  refine ls_rec (fun (y1 : Int) => [(0, dL c42_ddd a0), (1, dL c42_ddd a1), (5, nI y1)]) _ _ _ _ hl (okr rfl) (fun _ => rfl) ?_
  rintro m y1 N h hN
  unfold laws_eqDatabaseS_B1 at h
  refine ls_seq_k fun K4 hK4 => rn 1 rfl ?_
  rcases cond_some h with ⟨g5, h⟩ | ⟨g5, h⟩
  ·refine qT rfl g5 (ls_skip (hK4 _ (ls_seq_k fun K6 hK6 => ls_blk (rd (by kernel_rfl) (sd 2 rfl (?_))))))
   obtain ⟨e7, g8, h⟩ := ob_some h
   refine ed rfl (qI rfl zc42_ddd g8 (sd 3 rfl (?_)))
   obtain ⟨e9, g10, h⟩ := ob_some h
   refine ed rfl (qI rfl zc42_ddd g10 (sd 1 rfl (?_)))
   obtain ⟨v11, g12, h⟩ := ob_some h
   refine ed rfl (qC (qa rfl (erg (erc (erD ec107_dd _) rfl)) (qa rfl (erg (erc (erD ec107_dd _) rfl)) eran)) (laws_eqDatabase_s g12) (sd 1 rfl (evdn ?_)))
   rcases cond_some h with ⟨g13, h⟩ | ⟨g13, h⟩
   ·exact qT rfl g13 (rn 1 rfl (ls_ret ((by cases h; cases hr1; exact ⟨.inl rfl, rfl⟩))))
   ·exact qF rfl g13 (ls_skip (hK6 _ (rg (sp 3 rfl (evn (hN _ _ h (okr rfl)))))))
  ·exact qF rfl g5 (ls_exit (kXB1 (Option.some.inj h) _ trivial))
def laws_eqHistory (a0 : Y69) (a1 : Y69) : Option (Bool) := cond (a0.1 != a1.1) (some false) (obind (laws_eqDatabaseS a0.2 a1.2) fun v4 => cond (!v4) (some false) (some true))
theorem laws_eqHistory_s {a0 : Y69} {a1 : Y69} {r : Bool} (h : laws_eqHistory a0 a1 = some r) : SoundAt Try.prog 57 [.agg (c70_dddd a0), .agg (c70_dddd a1)] (.bool r) := by
 unfold laws_eqHistory at h
 refine st lit57 rfl (rn 1 rfl (ls_seq_k fun K1 hK1 => rn 1 rfl ?_))
 rcases cond_some h with ⟨g2, h⟩ | ⟨g2, h⟩
 ·exact qT rfl g2 (rn 1 rfl (ls_ret ((by cases h; exact ⟨.inl rfl, rfl⟩))))
 ·refine qF rfl g2 (ls_skip (hK1 _ (ls_seq_k fun K3 hK3 => rs (sp 4 rfl (?_)))))
  obtain ⟨v4, g5, h⟩ := ob_some h
  refine qC (qa rfl (erD ec42_ddd _) (qa rfl (erD ec42_ddd _) eran)) (laws_eqDatabaseS_s g5) (sp 1 rfl (evn ?_))
  rcases cond_some h with ⟨g6, h⟩ | ⟨g6, h⟩
  ·exact qT rfl g6 (rn 1 rfl (ls_ret ((by cases h; exact ⟨.inl rfl, rfl⟩))))
  ·exact qF rfl g6 (ls_skip (hK3 _ (rn 1 rfl (qk [4] rfl (ls_ret ((by cases h; exact ⟨.inl rfl, rfl⟩)))))))
def laws_heldIntS_B1 (a0 : List Int) (rec : (Int × Int) → Option (Sum (Int) (Int))) (s : Int × Int) : Option (Sum (Int) (Int)) := match s with
  | (y1, y2) => cond (decide (y2 < (List.length a0 : Int))) (obind (geti a0 y2) fun e7 => cond (e7 != y1) (some (.inr (-1))) (rec ((IntKind.i64.wrap (y1 + 1)), (IntKind.i64.wrap (y2 + 1))))) (some (.inl y1))
def laws_heldIntS (a0 : List Int) (a1 : Int) : Option (Int) := obind (loopF (laws_heldIntS_B1 a0) fz (a1, 0)) fun o1 => (match o1 with
  | .inl z2 => (some z2)
  | .inr r => some r)
theorem laws_heldIntS_s {a0 : List Int} {a1 : Int} {r : Int} (h : laws_heldIntS a0 a1 = some r) : SoundAt Try.prog 224 [dL ci64 a0, nI a1] (nI r) := by
 unfold laws_heldIntS at h
 refine st lit224 rfl (rn 1 rfl (ls_seq_k fun K1 hK1 => rn 1 rfl ?_))
 obtain ⟨o1, hl, hr1⟩ := ob_some h
 have kXB1 : ∀ {z2 : Int}, (.inl z2) = o1 → Jn K1 [(1, nI z2)] := by
  intro z2 h σ' hk
  subst h
  replace h := hr1
  try dsimp only at h
  exact hK1 _ (lh hk rfl (rn 1 rfl (ls_ret ((by cases h; exact ⟨.inl rfl, rfl⟩)))))
 refine ls_rec (fun (s : Int × Int) => match s with | (y1, y2) => [(0, dL ci64 a0), (1, nI y1), (5, nI y2)]) _ _ _ _ hl (okr rfl) (fun _ => rfl) ?_
 rintro m ⟨y1, y2⟩ N h hN
 unfold laws_heldIntS_B1 at h
 dsimp only at h
 refine ls_seq_k fun K3 hK3 => rn 1 rfl ?_
 rcases cond_some h with ⟨g4, h⟩ | ⟨g4, h⟩
 ·refine qT rfl g4 (ls_skip (hK3 _ (ls_seq_k fun K5 hK5 => ls_blk (ls_seq_k fun K6 hK6 => rs (sp 2 rfl (?_))))))
  obtain ⟨e7, g8, h⟩ := ob_some h
  refine qI rfl zci64 g8 (sp 3 rfl (evn ?_))
  rcases cond_some h with ⟨g9, h⟩ | ⟨g9, h⟩
  ·exact qT rfl g9 (rn 1 rfl (ls_ret ((by cases h; cases hr1; exact ⟨.inl rfl, rfl⟩))))
  ·exact qF rfl g9 (ls_skip (hK6 _ (rg (sp 3 rfl (evn (hK5 _ (rg (sp 3 rfl (evn (hN _ _ h (okr rfl)))))))))))
 ·exact qF rfl g4 (ls_exit (kXB1 (Option.some.inj h) _ (okr rfl)))
def laws_heldIntSS_B1 (a0 : List (List Int)) (rec : (Int × Int) → Option (Sum (Int) (Int))) (s : Int × Int) : Option (Sum (Int) (Int)) := match s with
  | (y1, y2) => cond (decide (y2 < (List.length a0 : Int))) (obind (geti a0 y2) fun e6 => obind (laws_heldIntS e6 y1) fun v8 => cond (decide (v8 < 0)) (some (.inr (-1))) (rec (v8, (IntKind.i64.wrap (y2 + 1))))) (some (.inl y1))
def laws_heldIntSS (a0 : List (List Int)) (a1 : Int) : Option (Int) := obind (loopF (laws_heldIntSS_B1 a0) fz (a1, 0)) fun o1 => (match o1 with
  | .inl z2 => (some z2)
  | .inr r => some r)
theorem laws_heldIntSS_s {a0 : List (List Int)} {a1 : Int} {r : Int} (h : laws_heldIntSS a0 a1 = some r) : SoundAt Try.prog 185 [dL c31_d a0, nI a1] (nI r) := by
 unfold laws_heldIntSS at h
 refine st lit185 rfl (rn 1 rfl (ls_seq_k fun K1 hK1 => rn 1 rfl ?_))
 obtain ⟨o1, hl, hr1⟩ := ob_some h
 have kXB1 : ∀ {z2 : Int}, (.inl z2) = o1 → Jn K1 [(1, nI z2)] := by
  intro z2 h σ' hk
  subst h
  replace h := hr1
  try dsimp only at h
  exact hK1 _ (lh hk rfl (rn 1 rfl (ls_ret ((by cases h; exact ⟨.inl rfl, rfl⟩)))))
 refine ls_rec (fun (s : Int × Int) => match s with | (y1, y2) => [(0, dL c31_d a0), (1, nI y1), (5, nI y2)]) _ _ _ _ hl (okr rfl) (fun _ => rfl) ?_
 rintro m ⟨y1, y2⟩ N h hN
 unfold laws_heldIntSS_B1 at h
 dsimp only at h
 refine ls_seq_k fun K3 hK3 => rn 1 rfl ?_
 rcases cond_some h with ⟨g4, h⟩ | ⟨g4, h⟩
 ·refine qT rfl g4 (ls_skip (hK3 _ (ls_seq_k fun K5 hK5 => ls_blk (rs (sp 2 rfl (?_))))))
  obtain ⟨e6, g7, h⟩ := ob_some h
  refine qI rfl zc31_d g7 (sp 2 rfl (?_))
  obtain ⟨v8, g9, h⟩ := ob_some h
  refine qC (qa rfl (erD eci64 _) (qs rfl eran)) (laws_heldIntS_s g9) (sp 1 rfl (evn (rn 1 rfl ?_)))
  rcases cond_some h with ⟨g10, h⟩ | ⟨g10, h⟩
  ·exact qT rfl g10 (rn 1 rfl (ls_ret ((by cases h; cases hr1; exact ⟨.inl rfl, rfl⟩))))
  ·exact qF rfl g10 (ls_skip (hK5 _ (rg (sp 3 rfl (evn (hN _ _ h (okr rfl)))))))
 ·exact qF rfl g4 (ls_exit (kXB1 (Option.some.inj h) _ (okr rfl)))
def laws_heldTableS_B1 (a0 : List Y106) (rec : (Int × Int) → Option (Sum (Int) (Int))) (s : Int × Int) : Option (Sum (Int) (Int)) := match s with
  | (y1, y2) => cond (decide (y2 < (List.length a0 : Int))) (obind (geti a0 y2) fun e7 => obind (laws_markText y1) fun v9 => cond (!(e7.1 == v9)) (some (.inr (-1))) (obind (geti a0 y2) fun e13 => cond (e13.2.1 != (IntKind.i64.wrap (y1 + 1))) (some (.inr (-1))) (obind (geti a0 y2) fun e16 => obind (laws_heldIntSS e16.2.2 (IntKind.i64.wrap ((IntKind.i64.wrap (y1 + 1)) + 1))) fun v18 => cond (decide (v18 < 0)) (some (.inr (-1))) (rec (v18, (IntKind.i64.wrap (y2 + 1))))))) (some (.inl y1))
def laws_heldTableS (a0 : List Y106) (a1 : Int) : Option (Int) := obind (loopF (laws_heldTableS_B1 a0) fz (a1, 0)) fun o1 => (match o1 with
  | .inl z2 => (some z2)
  | .inr r => some r)
theorem laws_heldTableS_s {a0 : List Y106} {a1 : Int} {r : Int} (h : laws_heldTableS a0 a1 = some r) : SoundAt Try.prog 114 [dL c107_dd a0, nI a1] (nI r) := by
 unfold laws_heldTableS at h
 refine st lit114 rfl (rn 1 rfl (ls_seq_k fun K1 hK1 => rn 1 rfl ?_))
 obtain ⟨o1, hl, hr1⟩ := ob_some h
 have kXB1 : ∀ {z2 : Int}, (.inl z2) = o1 → Jn K1 [(1, nI z2)] := by
  intro z2 h σ' hk
  subst h
  replace h := hr1
  try dsimp only at h
  exact hK1 _ (lh hk rfl (rn 1 rfl (ls_ret ((by cases h; exact ⟨.inl rfl, rfl⟩)))))
 refine ls_rec (fun (s : Int × Int) => match s with | (y1, y2) => [(0, dL c107_dd a0), (1, nI y1), (5, nI y2)]) _ _ _ _ hl (okr rfl) (fun _ => rfl) ?_
 rintro m ⟨y1, y2⟩ N h hN
 unfold laws_heldTableS_B1 at h
 dsimp only at h
 refine ls_seq_k fun K3 hK3 => rn 1 rfl ?_
 rcases cond_some h with ⟨g4, h⟩ | ⟨g4, h⟩
 ·refine qT rfl g4 (ls_skip (hK3 _ (ls_seq_k fun K5 hK5 => ls_blk (ls_seq_k fun K6 hK6 => rd (by kernel_rfl) (sd 2 rfl (?_))))))
  obtain ⟨e7, g8, h⟩ := ob_some h
  refine ed rfl (qI rfl zc107_dd g8 (sd 3 rfl (?_)))
  obtain ⟨v9, g10, h⟩ := ob_some h
  refine ed rfl (qC (qs rfl eran) (laws_markText_s g10) (sd 1 rfl (evdn ?_)))
  rcases cond_some h with ⟨g11, h⟩ | ⟨g11, h⟩
  ·exact qT rfl g11 (rn 1 rfl (ls_ret ((by cases h; cases hr1; exact ⟨.inl rfl, rfl⟩))))
  ·refine qF rfl g11 (ls_skip (hK6 _ (rn 1 rfl (ls_seq_k fun K12 hK12 => rs (sp 2 rfl (?_))))))
   obtain ⟨e13, g14, h⟩ := ob_some h
   refine qI rfl zc107_dd g14 (sp 5 rfl (evn (qk [0, 1, 5, 29] rfl ?_)))
   rcases cond_some h with ⟨g15, h⟩ | ⟨g15, h⟩
   ·exact qT rfl g15 (rn 1 rfl (ls_ret ((by cases h; cases hr1; exact ⟨.inl rfl, rfl⟩))))
   ·refine qF rfl g15 (ls_skip (hK12 _ (rn 1 rfl (rs (sp 2 rfl (?_))))))
    obtain ⟨e16, g17, h⟩ := ob_some h
    refine qI rfl zc107_dd g17 (sp 4 rfl (?_))
    obtain ⟨v18, g19, h⟩ := ob_some h
    refine qC (qa rfl (erD ec31_d _) (qs rfl eran)) (laws_heldIntSS_s g19) (sp 1 rfl (evn (rn 1 rfl ?_)))
    rcases cond_some h with ⟨g20, h⟩ | ⟨g20, h⟩
    ·exact qT rfl g20 (rn 1 rfl (ls_ret ((by cases h; cases hr1; exact ⟨.inl rfl, rfl⟩))))
    ·exact qF rfl g20 (ls_skip (hK5 _ (qk [0, 1, 5] rfl (rg (sp 3 rfl (evn (hN _ _ h (okr rfl))))))))
 ·exact qF rfl g4 (ls_exit (kXB1 (Option.some.inj h) _ (okr rfl)))
def laws_heldDatabaseS_B1 (a0 : List (List Y106)) (rec : (Int × Int) → Option (Sum (Int) (Int))) (s : Int × Int) : Option (Sum (Int) (Int)) := match s with
  | (y1, y2) => cond (decide (y2 < (List.length a0 : Int))) (obind (geti a0 y2) fun e6 => obind (laws_heldTableS e6 y1) fun v8 => cond (decide (v8 < 0)) (some (.inr (-1))) (rec (v8, (IntKind.i64.wrap (y2 + 1))))) (some (.inl y1))
def laws_heldDatabaseS (a0 : List (List Y106)) (a1 : Int) : Option (Int) := obind (loopF (laws_heldDatabaseS_B1 a0) fz (a1, 0)) fun o1 => (match o1 with
  | .inl z2 => (some z2)
  | .inr r => some r)
theorem laws_heldDatabaseS_s {a0 : List (List Y106)} {a1 : Int} {r : Int} (h : laws_heldDatabaseS a0 a1 = some r) : SoundAt Try.prog 133 [dL c42_ddd a0, nI a1] (nI r) := by
 unfold laws_heldDatabaseS at h
 refine st lit133 rfl (rn 1 rfl (ls_seq_k fun K1 hK1 => rn 1 rfl ?_))
 obtain ⟨o1, hl, hr1⟩ := ob_some h
 have kXB1 : ∀ {z2 : Int}, (.inl z2) = o1 → Jn K1 [(1, nI z2)] := by
  intro z2 h σ' hk
  subst h
  replace h := hr1
  try dsimp only at h
  exact hK1 _ (lh hk rfl (rn 1 rfl (ls_ret ((by cases h; exact ⟨.inl rfl, rfl⟩)))))
 refine ls_rec (fun (s : Int × Int) => match s with | (y1, y2) => [(0, dL c42_ddd a0), (1, nI y1), (5, nI y2)]) _ _ _ _ hl (okr rfl) (fun _ => rfl) ?_
 rintro m ⟨y1, y2⟩ N h hN
 unfold laws_heldDatabaseS_B1 at h
 dsimp only at h
 refine ls_seq_k fun K3 hK3 => rn 1 rfl ?_
 rcases cond_some h with ⟨g4, h⟩ | ⟨g4, h⟩
 ·refine qT rfl g4 (ls_skip (hK3 _ (ls_seq_k fun K5 hK5 => ls_blk (rs (sp 2 rfl (?_))))))
  obtain ⟨e6, g7, h⟩ := ob_some h
  refine qI rfl zc42_ddd g7 (sp 3 rfl (?_))
  obtain ⟨v8, g9, h⟩ := ob_some h
  refine qC (qa rfl (erD ec107_dd _) (qs rfl eran)) (laws_heldTableS_s g9) (sp 1 rfl (evn (rn 1 rfl ?_)))
  rcases cond_some h with ⟨g10, h⟩ | ⟨g10, h⟩
  ·exact qT rfl g10 (rn 1 rfl (ls_ret ((by cases h; cases hr1; exact ⟨.inl rfl, rfl⟩))))
  ·exact qF rfl g10 (ls_skip (hK5 _ (rg (sp 3 rfl (evn (hN _ _ h (okr rfl)))))))
 ·exact qF rfl g4 (ls_exit (kXB1 (Option.some.inj h) _ (okr rfl)))
def laws_heldHistory (a0 : Y69) (a1 : Int) : Option (Int) := obind (laws_heldDatabaseS a0.2 a1) fun v1 => cond (decide (v1 < 0)) (some (-1)) (some v1)
theorem laws_heldHistory_s {a0 : Y69} {a1 : Int} {r : Int} (h : laws_heldHistory a0 a1 = some r) : SoundAt Try.prog 61 [.agg (c70_dddd a0), nI a1] (nI r) := by
 unfold laws_heldHistory at h
 refine st lit61 rfl (rn 1 rfl (rs (sp 3 rfl (?_))))
 obtain ⟨v1, g2, h⟩ := ob_some h
 refine qC (qa rfl (erD ec42_ddd _) (qs rfl eran)) (laws_heldDatabaseS_s g2) (sp 1 rfl (evn (ls_seq_k fun K3 hK3 => rn 1 rfl ?_)))
 rcases cond_some h with ⟨g4, h⟩ | ⟨g4, h⟩
 ·exact qT rfl g4 (rn 1 rfl (ls_ret ((by cases h; exact ⟨.inl rfl, rfl⟩))))
 ·exact qF rfl g4 (ls_skip (hK3 _ (rn 1 rfl (ls_ret ((by cases h; exact ⟨.inl rfl, rfl⟩))))))
def laws_szDelta (a0 : Y96) (a1 : Int) : Option (Int) := cond (decide ((IntKind.i64.wrap (a1 - (List.length a0.1 : Int))) < 0)) (some (-1)) (obind (laws_szRelation a0.2.1 (IntKind.i64.wrap (a1 - (List.length a0.1 : Int)))) fun v3 => cond (decide (v3 < 0)) (some (-1)) (obind (laws_szRelation a0.2.2 v3) fun v7 => cond (decide (v7 < 0)) (some (-1)) (some v7)))
theorem laws_szDelta_s {a0 : Y96} {a1 : Int} {r : Int} (h : laws_szDelta a0 a1 = some r) : SoundAt Try.prog 62 [.agg (c97_dddd a0), nI a1] (nI r) := by
 unfold laws_szDelta at h
 refine st lit62 rfl (rn 2 rfl (ls_seq_k fun K1 hK1 => rn 1 rfl ?_))
 rcases cond_some h with ⟨g2, h⟩ | ⟨g2, h⟩
 ·exact qT rfl g2 (rn 1 rfl (ls_ret ((by cases h; exact ⟨.inl rfl, rfl⟩))))
 ·refine qF rfl g2 (ls_skip (hK1 _ (rs (sp 3 rfl (?_)))))
  obtain ⟨v3, g4, h⟩ := ob_some h
  refine qC (qa rfl (erg (erc rfl (erc (erD ec31_d _) rfl))) (qs rfl eran)) (laws_szRelation_s g4) (sp 1 rfl (evn (ls_seq_k fun K5 hK5 => rn 1 rfl ?_)))
  rcases cond_some h with ⟨g6, h⟩ | ⟨g6, h⟩
  ·exact qT rfl g6 (rn 1 rfl (qk [4] rfl (ls_ret ((by cases h; exact ⟨.inl rfl, rfl⟩)))))
  ·refine qF rfl g6 (ls_skip (hK5 _ (rs (sp 3 rfl (?_)))))
   obtain ⟨v7, g8, h⟩ := ob_some h
   refine qC (qa rfl (erg (erc rfl (erc (erD ec31_d _) rfl))) (qs rfl eran)) (laws_szRelation_s g8) (sp 1 rfl (evn (ls_seq_k fun K9 hK9 => rn 1 rfl ?_)))
   rcases cond_some h with ⟨g10, h⟩ | ⟨g10, h⟩
   ·exact qT rfl g10 (rn 1 rfl (ls_ret ((by cases h; exact ⟨.inl rfl, rfl⟩))))
   ·exact qF rfl g10 (ls_skip (hK9 _ (rn 1 rfl (ls_ret ((by cases h; exact ⟨.inl rfl, rfl⟩))))))
def laws_toDelta (a0 : Y96) : Option (Y71) := obind (laws_toRelation a0.2.1) fun v1 => obind (laws_toRelation a0.2.2) fun v3 => some (a0.1, v1, v3)
theorem laws_toDelta_s {a0 : Y96} {r : Y71} (h : laws_toDelta a0 = some r) : SoundAt Try.prog 63 [.agg (c97_dddd a0)] (.agg (c72_oooo r)) := by
 unfold laws_toDelta at h
 refine st lit63 rfl (rn 3 rfl (rs (sp 2 rfl (?_))))
 obtain ⟨v1, g2, h⟩ := ob_some h
 refine qC (qa rfl (erg (erc rfl (erc (erD ec31_d _) rfl))) eran) (laws_toRelation_s g2) (sp 2 rfl (evn (rs (sp 2 rfl (?_)))))
 obtain ⟨v3, g4, h⟩ := ob_some h
 exact qC (qa rfl (erg (erc rfl (erc (erD ec31_d _) rfl))) eran) (laws_toRelation_s g4) (sp 2 rfl (evn (rn 1 rfl (ls_ret ((by cases h; exact ⟨.inl rfl, rfl⟩))))))
def laws_eqDelta (a0 : Y71) (a1 : Y71) : Option (Bool) := cond (!(a0.1 == a1.1)) (some false) (obind (laws_eqRelation a0.2.1 a1.2.1) fun v4 => cond (!v4) (some false) (obind (laws_eqRelation a0.2.2 a1.2.2) fun v8 => cond (!v8) (some false) (some true)))
theorem laws_eqDelta_s {a0 : Y71} {a1 : Y71} {r : Bool} (h : laws_eqDelta a0 a1 = some r) : SoundAt Try.prog 64 [.agg (c72_dddd a0), .agg (c72_dddd a1)] (.bool r) := by
 unfold laws_eqDelta at h
 refine st lit64 rfl (rn 1 rfl (ls_seq_k fun K1 hK1 => rn 1 rfl ?_))
 rcases cond_some h with ⟨g2, h⟩ | ⟨g2, h⟩
 ·exact qT rfl g2 (rn 1 rfl (ls_ret ((by cases h; exact ⟨.inl rfl, rfl⟩))))
 ·refine qF rfl g2 (ls_skip (hK1 _ (ls_seq_k fun K3 hK3 => rs (sp 4 rfl (?_)))))
  obtain ⟨v4, g5, h⟩ := ob_some h
  refine qC (qa rfl (erg (erc rfl (erc (erD ec31_d _) rfl))) (qa rfl (erg (erc rfl (erc (erD ec31_d _) rfl))) eran)) (laws_eqRelation_s g5) (sp 1 rfl (evn ?_))
  rcases cond_some h with ⟨g6, h⟩ | ⟨g6, h⟩
  ·exact qT rfl g6 (rn 1 rfl (ls_ret ((by cases h; exact ⟨.inl rfl, rfl⟩))))
  ·refine qF rfl g6 (ls_skip (hK3 _ (ls_seq_k fun K7 hK7 => rs (sp 4 rfl (?_)))))
   obtain ⟨v8, g9, h⟩ := ob_some h
   refine qC (qa rfl (erg (erc rfl (erc (erD ec31_d _) rfl))) (qa rfl (erg (erc rfl (erc (erD ec31_d _) rfl))) eran)) (laws_eqRelation_s g9) (sp 1 rfl (evn (qk [21] rfl ?_)))
   rcases cond_some h with ⟨g10, h⟩ | ⟨g10, h⟩
   ·exact qT rfl g10 (rn 1 rfl (ls_ret ((by cases h; exact ⟨.inl rfl, rfl⟩))))
   ·exact qF rfl g10 (ls_skip (hK7 _ (rn 1 rfl (ls_ret ((by cases h; exact ⟨.inl rfl, rfl⟩))))))
def laws_FnExactAppendSnapshot (a0 : Y82) (a1 : Y96) : Option (Bool) := obind (laws_szHistory a0 1048576) fun v1 => cond (decide (v1 < 0)) (some true) (obind (laws_szDelta a1 v1) fun v5 => cond (decide (v5 < 0)) (some true) (obind (laws_toHistory a0) fun v9 => obind (laws_toDelta a1) fun v11 => obind (spec_AppendSnapshot v9 v11) fun v13 => obind (laws_toHistory a0) fun v15 => obind (laws_toDelta a1) fun v17 => obind (impl_AppendSnapshot v15 v17) fun v19 => obind (laws_eqHistory v19.1 v13.1) fun v22 => cond (!v22) (some false) (cond (!(v19.2 == v13.2)) (some false) (obind (laws_toHistory a0) fun v27 => obind (laws_eqHistory v15 v27) fun v29 => cond (!v29) (some false) (obind (laws_toDelta a1) fun v33 => obind (laws_eqDelta v17 v33) fun v35 => cond (!v35) (some false) (obind (laws_markHistory v15 1) fun v38 => obind (laws_markDelta v17 v38.2) fun v40 => cond (decide (v40.2 < 0)) (some false) (obind (laws_eqHistory v19.1 v13.1) fun v44 => cond (!v44) (some false) (cond (!(v19.2 == v13.2)) (some false) (obind (laws_markHistory v19.1 1) fun v48 => obind (laws_heldHistory v48.1 1) fun v50 => cond (decide (v50 < 0)) (some false) (cond (v50 != v48.2) (some false) (obind (laws_toHistory a0) fun v56 => obind (laws_toDelta a1) fun v58 => obind (impl_AppendSnapshot v56 v58) fun v60 => obind (laws_eqHistory v60.1 v13.1) fun v63 => cond (!v63) (some false) (cond (!(v60.2 == v13.2)) (some false) (obind (laws_heldHistory v48.1 1) fun v67 => cond (decide (v67 < 0)) (some false) (cond (v67 != v48.2) (some false) (some true)))))))))))))))
theorem laws_FnExactAppendSnapshot_s {a0 : Y82} {a1 : Y96} {r : Bool} (h : laws_FnExactAppendSnapshot a0 a1 = some r) : SoundAt Try.prog 8 [.agg (c83_aaaa a0), .agg (c97_aaaa a1)] (.bool r) := by
 unfold laws_FnExactAppendSnapshot at h
 refine st lit8 rfl (rn 2 rfl (rs (sp 2 rfl (?_))))
 obtain ⟨v1, g2, h⟩ := ob_some h
 refine qC (qa rfl (erg (erc rfl (erc (erG ec222_aaa _) rfl))) (qs rfl eran)) (laws_szHistory_s g2) (sp 1 rfl (evn (ls_seq_k fun K3 hK3 => rn 1 rfl ?_)))
 rcases cond_some h with ⟨g4, h⟩ | ⟨g4, h⟩
 ·exact qT rfl g4 (rn 1 rfl (ls_ret ((by cases h; exact ⟨.inl rfl, rfl⟩))))
 ·refine qF rfl g4 (ls_skip (hK3 _ (rs (sp 2 rfl (?_)))))
  obtain ⟨v5, g6, h⟩ := ob_some h
  refine qC (qa rfl (erg (erc rfl (erc rfl (erc (erG ec31_a _) (erc rfl (erc (erG ec31_a _) rfl)))))) (qs rfl eran)) (laws_szDelta_s g6) (sp 1 rfl (evn (ls_seq_k fun K7 hK7 => rn 1 rfl (qk [2, 3, 26] rfl ?_))))
  rcases cond_some h with ⟨g8, h⟩ | ⟨g8, h⟩
  ·exact qT rfl g8 (rn 1 rfl (ls_ret ((by cases h; exact ⟨.inl rfl, rfl⟩))))
  ·refine qF rfl g8 (ls_skip (hK7 _ (rd (by kernel_rfl) (sd 1 rfl (?_)))))
   obtain ⟨v9, g10, h⟩ := ob_some h
   refine ed rfl (qC (qa rfl (erg (erc rfl (erc (erG ec222_aaa _) rfl))) eran) (laws_toHistory_s g10) (sd 1 rfl (?_)))
   obtain ⟨v11, g12, h⟩ := ob_some h
   refine ed rfl (qC (qa rfl (erg (erc rfl (erc rfl (erc (erG ec31_a _) (erc rfl (erc (erG ec31_a _) rfl)))))) eran) (laws_toDelta_s g12) (?_))
   obtain ⟨v13, g14, h⟩ := ob_some h
   refine ed rfl (qC (qa rfl (erg (erc rfl (erc (erO ec42_ooo _) rfl))) (qa rfl (erg (erc rfl (erc rfl (erc (erO ec31_o _) (erc rfl (erc (erO ec31_o _) rfl)))))) eran)) (spec_AppendSnapshot_s g14) (sd 6 rfl (evdn (rs (sp 1 rfl (?_))))))
   obtain ⟨v15, g16, h⟩ := ob_some h
   refine qC (qa rfl (erg (erc rfl (erc (erG ec222_aaa _) rfl))) eran) (laws_toHistory_s g16) (sp 2 rfl (evn (rs (sp 1 rfl (?_)))))
   obtain ⟨v17, g18, h⟩ := ob_some h
   refine qC (qa rfl (erg (erc rfl (erc rfl (erc (erG ec31_a _) (erc rfl (erc (erG ec31_a _) rfl)))))) eran) (laws_toDelta_s g18) (sp 2 rfl (evn (rs (sp 2 rfl (?_)))))
   obtain ⟨v19, g20, h⟩ := ob_some h
   refine qC (qa rfl (erg (erc rfl (erc (erD ec42_ooo _) rfl))) (qa rfl (erg (erc rfl (erc rfl (erc (erD ec31_o _) (erc rfl (erc (erD ec31_o _) rfl)))))) eran)) (impl_AppendSnapshot_s g20) (sp 6 rfl (evn (qk [2, 3, 6, 7, 8, 9, 10, 11] rfl (ls_seq_k fun K21 hK21 => rs (sp 2 rfl (?_))))))
   obtain ⟨v22, g23, h⟩ := ob_some h
   refine qC (qa rfl (erg (erc rfl (erc (erD ec42_ooo _) rfl))) (qa rfl (erg (erc rfl (erc (erD ec42_ooo _) rfl))) eran)) (laws_eqHistory_s g23) (sp 2 rfl (?_))
   rcases cond_some h with ⟨g24, h⟩ | ⟨g24, h⟩
   ·exact qg 49 g24 rfl (sp 4 rfl (evn (qT rfl rfl (rn 1 rfl (ls_ret ((by cases h; exact ⟨.inl rfl, rfl⟩)))))))
   ·refine qg 49 g24 rfl (sp 4 rfl (evn ?_))
    rcases cond_some h with ⟨g25, h⟩ | ⟨g25, h⟩
    ·exact qT rfl g25 (rn 1 rfl (ls_ret ((by cases h; exact ⟨.inl rfl, rfl⟩))))
    ·refine qF rfl g25 (ls_skip (hK21 _ (ls_seq_k fun K26 hK26 => rd (by kernel_rfl) (sd 2 rfl (?_)))))
     obtain ⟨v27, g28, h⟩ := ob_some h
     refine ed rfl (qC (qa rfl (erg (erc rfl (erc (erG ec222_aaa _) rfl))) eran) (laws_toHistory_s g28) (?_))
     obtain ⟨v29, g30, h⟩ := ob_some h
     refine ed rfl (qC (qa rfl (erg (erc rfl (erc (erD ec42_ooo _) rfl))) (qa rfl (erg (erc rfl (erc (erO ec42_ooo _) rfl))) eran)) (laws_eqHistory_s g30) (sd 1 rfl (evdn (qk [2, 3, 6, 7, 8, 9, 10, 11, 58] rfl ?_))))
     rcases cond_some h with ⟨g31, h⟩ | ⟨g31, h⟩
     ·exact qT rfl g31 (rn 1 rfl (ls_ret ((by cases h; exact ⟨.inl rfl, rfl⟩))))
     ·refine qF rfl g31 (ls_skip (hK26 _ (ls_seq_k fun K32 hK32 => rd (by kernel_rfl) (sd 2 rfl (?_)))))
      obtain ⟨v33, g34, h⟩ := ob_some h
      refine ed rfl (qC (qa rfl (erg (erc rfl (erc rfl (erc (erG ec31_a _) (erc rfl (erc (erG ec31_a _) rfl)))))) eran) (laws_toDelta_s g34) (?_))
      obtain ⟨v35, g36, h⟩ := ob_some h
      refine ed rfl (qC (qa rfl (erg (erc rfl (erc rfl (erc (erD ec31_o _) (erc rfl (erc (erD ec31_o _) rfl)))))) (qa rfl (erg (erc rfl (erc rfl (erc (erO ec31_o _) (erc rfl (erc (erO ec31_o _) rfl)))))) eran)) (laws_eqDelta_s g36) (sd 1 rfl (evdn ?_)))
      rcases cond_some h with ⟨g37, h⟩ | ⟨g37, h⟩
      ·exact qT rfl g37 (rn 1 rfl (ls_ret ((by cases h; exact ⟨.inl rfl, rfl⟩))))
      ·refine qF rfl g37 (ls_skip (hK32 _ (rn 1 rfl (qk [2, 3, 6, 7, 8, 9, 10, 11, 12] rfl ?_))))
       obtain ⟨v38, g39, h⟩ := ob_some h
       refine ls_mark (src_box tbOk rfl rfl rfl) rfl rfl (laws_markHistory_m g39) (dp70 _) (sf_of (sfc (scc rfl (scc (sca ad222 _) scn)) (sfc (scc rfl (scc rfl (scc (sca ad31 _) (scc rfl (scc (sca ad31 _) scn))))) (sfc (scc rfl (scc (sco dp42 _) scn)) (sfc rfl (sfs (sfc (scc rfl (scc rfl (scc (sco dp31 _) (scc rfl (scc (sco dp31 _) scn))))) (sfc (scc rfl (scc (sco dp42 _) scn)) (sfc rfl (sfc rfl sfn)))))))))) rfl rfl ⟨by decide, by decide⟩ rfl rfl (kp [(2, .box [nI a0.1, aL c222_aaa a0.2]), (3, .box [.str a1.1, nI a1.2.1.1, aL c31_a a1.2.1.2, nI a1.2.2.1, aL c31_a a1.2.2.2]), (6, .box [nI v13.1.1, oL 42 c42_ooo v13.1.2]), (7, .bool v13.2), (9, .box [.str v17.1, nI v17.2.1.1, oL 31 c31_o v17.2.1.2, nI v17.2.2.1, oL 31 c31_o v17.2.2.2]), (10, .box [nI v19.1.1, oL 42 c42_ooo v19.1.2]), (11, .bool v19.2), (12, nI v38.2)] rfl rfl (qk [2, 3, 6, 7, 9, 10, 11, 12] rfl ?_))
       obtain ⟨v40, g41, h⟩ := ob_some h
       refine ls_mark (src_box tbOk rfl rfl rfl) rfl rfl (laws_markDelta_m g41) (dp72 _) (sf_of (sfc (scc rfl (scc (sca ad222 _) scn)) (sfc (scc rfl (scc rfl (scc (sca ad31 _) (scc rfl (scc (sca ad31 _) scn))))) (sfc (scc rfl (scc (sco dp42 _) scn)) (sfc rfl (sfs (sfc (scc rfl (scc (sco dp42 _) scn)) (sfc rfl (sfc rfl sfn))))))))) rfl rfl ⟨by decide, by decide⟩ rfl rfl (kp [(2, .box [nI a0.1, aL c222_aaa a0.2]), (3, .box [.str a1.1, nI a1.2.1.1, aL c31_a a1.2.1.2, nI a1.2.2.1, aL c31_a a1.2.2.2]), (6, .box [nI v13.1.1, oL 42 c42_ooo v13.1.2]), (7, .bool v13.2), (10, .box [nI v19.1.1, oL 42 c42_ooo v19.1.2]), (11, .bool v19.2), (12, nI v40.2)] rfl rfl (ls_seq_k fun K42 hK42 => rs (sp 3 rfl (?_))))
       rcases cond_some h with ⟨g43, h⟩ | ⟨g43, h⟩
       ·exact qg 72 g43 rfl (sp 10 rfl (evn (qT rfl rfl (rn 1 rfl (ls_ret ((by cases h; exact ⟨.inl rfl, rfl⟩)))))))
       ·refine qg 72 g43 rfl (sp 2 rfl (?_))
        obtain ⟨v44, g45, h⟩ := ob_some h
        refine oGR rfl rfl (qC (qa rfl (erg (erc rfl (erc (erD ec42_ooo _) rfl))) (qa rfl (erg (erc rfl (erc (erD ec42_ooo _) rfl))) eran)) (laws_eqHistory_s g45) (sp 3 rfl (?_)))
        rcases cond_some h with ⟨g46, h⟩ | ⟨g46, h⟩
        ·exact qg 78 g46 rfl (sp 4 rfl (evn (qT rfl rfl (rn 1 rfl (qk [4] rfl (ls_ret ((by cases h; exact ⟨.inl rfl, rfl⟩))))))))
        ·refine qg 78 g46 rfl (sp 4 rfl (evn ?_))
         rcases cond_some h with ⟨g47, h⟩ | ⟨g47, h⟩
         ·exact qT rfl g47 (rn 1 rfl (ls_ret ((by cases h; exact ⟨.inl rfl, rfl⟩))))
         ·refine qF rfl g47 (ls_skip (hK42 _ (rn 1 rfl (qk [2, 3, 6, 7, 10, 13] rfl ?_))))
          obtain ⟨v48, g49, h⟩ := ob_some h
          refine ls_mark (src_box tbOk rfl rfl rfl) rfl rfl (laws_markHistory_m g49) (dp70 _) (sf_of (sfc (scc rfl (scc (sca ad222 _) scn)) (sfc (scc rfl (scc rfl (scc (sca ad31 _) (scc rfl (scc (sca ad31 _) scn))))) (sfc (scc rfl (scc (sco dp42 _) scn)) (sfc rfl (sfs (sfc rfl sfn))))))) rfl rfl ⟨by decide, by decide⟩ rfl rfl (kp [(2, .box [nI a0.1, aL c222_aaa a0.2]), (3, .box [.str a1.1, nI a1.2.1.1, aL c31_a a1.2.1.2, nI a1.2.2.1, aL c31_a a1.2.2.2]), (6, .box [nI v13.1.1, oL 42 c42_ooo v13.1.2]), (7, .bool v13.2), (10, .box [nI v48.1.1, oL 42 c42_ooo v48.1.2]), (13, nI v48.2)] rfl rfl (rn 1 rfl (rs (sp 2 rfl (?_)))))
          obtain ⟨v50, g51, h⟩ := ob_some h
          refine qC (qa rfl (erg (erc rfl (erc (erD ec42_ooo _) rfl))) (qs rfl eran)) (laws_heldHistory_s g51) (sp 1 rfl (evn (ls_seq_k fun K52 hK52 => rn 1 rfl ?_)))
          rcases cond_some h with ⟨g53, h⟩ | ⟨g53, h⟩
          ·exact qT rfl g53 (rn 1 rfl (ls_ret ((by cases h; exact ⟨.inl rfl, rfl⟩))))
          ·refine qF rfl g53 (ls_skip (hK52 _ (ls_seq_k fun K54 hK54 => rn 1 rfl ?_)))
           rcases cond_some h with ⟨g55, h⟩ | ⟨g55, h⟩
           ·exact qT rfl g55 (rn 1 rfl (qk [4] rfl (ls_ret ((by cases h; exact ⟨.inl rfl, rfl⟩)))))
           ·refine qF rfl g55 (ls_skip (hK54 _ (rd (by kernel_rfl) (sd 1 rfl (?_)))))
            obtain ⟨v56, g57, h⟩ := ob_some h
            refine ed rfl (qC (qa rfl (erg (erc rfl (erc (erG ec222_aaa _) rfl))) eran) (laws_toHistory_s g57) (sd 1 rfl (?_)))
            obtain ⟨v58, g59, h⟩ := ob_some h
            refine ed rfl (qC (qa rfl (erg (erc rfl (erc rfl (erc (erG ec31_a _) (erc rfl (erc (erG ec31_a _) rfl)))))) eran) (laws_toDelta_s g59) (?_))
            obtain ⟨v60, g61, h⟩ := ob_some h
            refine ed rfl (qC (qa rfl (erg (erc rfl (erc (erO ec42_ooo _) rfl))) (qa rfl (erg (erc rfl (erc rfl (erc (erO ec31_o _) (erc rfl (erc (erO ec31_o _) rfl)))))) eran)) (impl_AppendSnapshot_s g61) (sd 6 rfl (evdn (ls_seq_k fun K62 hK62 => rs (sp 2 rfl (?_))))))
            obtain ⟨v63, g64, h⟩ := ob_some h
            refine qC (qa rfl (erg (erc rfl (erc (erD ec42_ooo _) rfl))) (qa rfl (erg (erc rfl (erc (erD ec42_ooo _) rfl))) eran)) (laws_eqHistory_s g64) (sp 2 rfl (?_))
            rcases cond_some h with ⟨g65, h⟩ | ⟨g65, h⟩
            ·exact qg 106 g65 rfl (sp 4 rfl (evn (qT rfl rfl (rn 1 rfl (ls_ret ((by cases h; exact ⟨.inl rfl, rfl⟩)))))))
            ·refine qg 106 g65 rfl (sp 4 rfl (evn ?_))
             rcases cond_some h with ⟨g66, h⟩ | ⟨g66, h⟩
             ·exact qT rfl g66 (rn 1 rfl (qk [4] rfl (ls_ret ((by cases h; exact ⟨.inl rfl, rfl⟩)))))
             ·refine qF rfl g66 (ls_skip (hK62 _ (rn 1 rfl (rs (sp 2 rfl (?_))))))
              obtain ⟨v67, g68, h⟩ := ob_some h
              refine qC (qa rfl (erg (erc rfl (erc (erD ec42_ooo _) rfl))) (qs rfl eran)) (laws_heldHistory_s g68) (sp 1 rfl (evn (ls_seq_k fun K69 hK69 => rn 1 rfl ?_)))
              rcases cond_some h with ⟨g70, h⟩ | ⟨g70, h⟩
              ·exact qT rfl g70 (rn 1 rfl (ls_ret ((by cases h; exact ⟨.inl rfl, rfl⟩))))
              ·refine qF rfl g70 (ls_skip (hK69 _ (ls_seq_k fun K71 hK71 => rn 1 rfl ?_)))
               rcases cond_some h with ⟨g72, h⟩ | ⟨g72, h⟩
               ·exact qT rfl g72 (rn 1 rfl (qk [4] rfl (ls_ret ((by cases h; exact ⟨.inl rfl, rfl⟩)))))
               ·exact qF rfl g72 (ls_skip (hK71 _ (rn 1 rfl (ls_ret ((by cases h; exact ⟨.inl rfl, rfl⟩))))))
end Go.Proofs.Ytmioifafgbjjhaa
