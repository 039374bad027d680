/-
  Functions of the program as typed functions, printed by gen.py, and that the program's functions do what they say. No conditions.
-/
import Derived.Test.YtlknpohjnpnodaaGreatGSbAC1
namespace Go.Proofs.YtlknpohjnpnodaaGreat
open Go.RowKit
set_option linter.unusedVariables false
set_option maxRecDepth 100000
set_option maxHeartbeats 1000000
def spec_l20Keys_B1 (a0 : List Y40) (a1 : Y29) (a2 : List Int) (a3 : List Int) (v3 : (List Int)) (rec : ((List (List Int)) × Int) → Option ((List (List Int)))) (s : (List (List Int)) × Int) : Option ((List (List Int))) := match s with
  | (y1, y2) => cond (decide (y2 < (List.length v3 : Int))) (obind (geti v3 y2) fun e10 => obind (geti a0 e10) fun e12 => obind (geti v3 y2) fun e14 => obind (geti a1.2.1 e14) fun e16 => obind (spec_l20Prefix e16 a2 a3) fun v18 => obind (spec_TrieChildren e12 v18) fun v20 => chk (List.length y1 + List.length [v20] ≤ lim) (rec ((y1 ++ [v20]), (IntKind.i64.wrap (y2 + 1))))) (some y1)
def spec_l20Keys (a0 : List Y40) (a1 : Y29) (a2 : List Int) (a3 : List Int) : Option ((List Int) × Int) := obind (geti a2 (List.length a3 : Int)) fun e1 => obind (spec_AtomsWithVariable a1 e1) fun v3 => obind (loopF (spec_l20Keys_B1 a0 a1 a2 a3 v3) fz (([] : List (List Int)), 0)) fun z6 => obind (spec_LeapfrogIntersect z6) fun v23 => some (v23.1, v23.2)
theorem spec_l20Keys_s {a0 : List Y40} {a1 : Y29} {a2 : List Int} {a3 : List Int} {r : (List Int) × Int} (h : spec_l20Keys a0 a1 a2 a3 = some r) : SoundAt Tryz.prog 155 [dL c179_dd a0, .agg (c30_ddd a1), dL ci64 a2, dL ci64 a3] (.tup [oL 3 ci64 r.1, nI r.2]) := by
 unfold spec_l20Keys at h
 refine st lit155 rfl (rn 1 rfl (rd (by kernel_rfl) (sd 4 rfl (?_))))
 obtain ⟨e1, g2, h⟩ := ob_some h
 refine ed rfl (qI rfl zci64 g2 (sd 1 rfl (?_)))
 obtain ⟨v3, g4, h⟩ := ob_some h
 refine ed rfl (qC (qa rfl (erg (erc rfl (erc (erD ec109_d _) (erc (erD eci64 _) rfl)))) (qs rfl eran)) (spec_AtomsWithVariable_s g4) (sd 1 rfl (evdn (rs (qBs c27_o [] rfl rfl rfl zc27_o (sp 1 rfl (evn (ls_seq_k fun K5 hK5 => rn 1 rfl ?_))))))))
 obtain ⟨o1, hl, hr1⟩ := ob_some h
 have kXB1 : ∀ {z6 : List (List Int)}, z6 = o1 → Jn K5 [(11, oL 27 c27_o z6)] := by
  intro z6 h σ' hk
  subst h
  replace h := hr1
  try dsimp only at h
  refine hK5 _ (lh hk rfl (rs (sp 1 rfl (?_))))
  obtain ⟨v23, g24, h⟩ := ob_some h
  exact qC (qa rfl (erD ec27_o _) eran) (spec_LeapfrogIntersect_s g24) (sp 5 rfl (evn (rn 1 rfl (ls_ret ((by cases h; exact ⟨.inl rfl, rfl⟩))))))
 refine ls_rec (fun (s : (List (List Int)) × Int) => match s with | (y1, y2) => [(0, dL c179_dd a0), (2, dL ci64 a2), (3, dL ci64 a3), (5, .box [nI a1.1, dL c109_d a1.2.1, dL ci64 a1.2.2]), (10, oL 3 ci64 v3), (11, oL 27 c27_o y1), (12, nI y2)]) _ _ _ _ hl (okr rfl) (fun _ => rfl) ?_
 rintro m ⟨y1, y2⟩ N h hN
 unfold spec_l20Keys_B1 at h
 dsimp only at h
 refine ls_seq_k fun K7 hK7 => rn 1 rfl ?_
 rcases cond_some h with ⟨g8, h⟩ | ⟨g8, h⟩
 ·refine qT rfl g8 (ls_skip (hK7 _ (ls_seq_k fun K9 hK9 => ls_blk (rgd (by kernel_rfl) (sd 4 rfl (?_))))))
  obtain ⟨e10, g11, h⟩ := ob_some h
  refine ed rfl (qI rfl zci64 g11 (sd 1 rfl (?_)))
  obtain ⟨e12, g13, h⟩ := ob_some h
  refine ed rfl (qI rfl zc179_dd g13 (sd 5 rfl (?_)))
  obtain ⟨e14, g15, h⟩ := ob_some h
  refine ed rfl (qI rfl zci64 g15 (sd 1 rfl (?_)))
  obtain ⟨e16, g17, h⟩ := ob_some h
  refine ed rfl (qI rfl zc109_d g17 (sd 3 rfl (?_)))
  obtain ⟨v18, g19, h⟩ := ob_some h
  refine ed rfl (qC (qa rfl (erg (erc rfl (erc (erD eci64 _) rfl))) (qa rfl (erD eci64 _) (qa rfl (erD eci64 _) eran))) (spec_l20Prefix_s g19) (?_))
  obtain ⟨v20, g21, h⟩ := ob_some h
  refine ed rfl (qC (qa rfl (erg (erc rfl (erc (erD ec27_d _) rfl))) (qa rfl (erO eci64 _) eran)) (spec_TrieChildren_s g21) (ed rfl (qBs c27_o [v20] rfl rfl rfl zc27_o (?_))))
  obtain ⟨g22, h⟩ := chk_some h
  exact ed rfl (qA c27_o y1 [v20] rfl rfl (flat_len zc27_o [v20]) rfl g22 (sd 1 rfl (evdn (hK9 _ (rg (sp 3 rfl (evn (hN _ _ h (okr rfl)))))))))
 ·exact qF rfl g8 (ls_exit (kXB1 (Option.some.inj h) _ (okr rfl)))
def spec_l20Walk_B1 (a0 : List Y40) (a1 : Y29) (a2 : List Int) (a3 : List Int) (v4 : (List Int) × Int) (frec : ((List Y40) × Y29 × (List Int) × (List Int)) → Option ((List (List Int)) × Int)) (rec : ((List (List Int)) × Int × Int) → Option ((List (List Int)) × Int)) (s : (List (List Int)) × Int × Int) : Option ((List (List Int)) × Int) := match s with
  | (y1, y2, y3) => cond (decide (y3 < (List.length v4.1 : Int))) (chk (List.length ([] : List Int) + List.length a3 ≤ lim) (obind (geti v4.1 y3) fun e13 => chk (List.length (([] : List Int) ++ a3) + List.length [e13] ≤ lim) (obind (frec (a0, a1, a2, ((([] : List Int) ++ a3) ++ [e13]))) fun v16 => chk (List.length y1 + List.length v16.1 ≤ lim) (rec ((y1 ++ v16.1), (IntKind.i64.wrap (y2 + v16.2)), (IntKind.i64.wrap (y3 + 1))))))) (some (y1, y2))
def spec_l20Walk_R (rec : ((List Y40) × Y29 × (List Int) × (List Int)) → Option ((List (List Int)) × Int)) (s : (List Y40) × Y29 × (List Int) × (List Int)) : Option ((List (List Int)) × Int) := match s with
  | (a0, a1, a2, a3) => cond ((List.length a3 : Int) == (List.length a2 : Int)) (chk (List.length ([] : List Int) + List.length a3 ≤ lim) (some ([([] : List Int) ++ a3], 0))) (obind (spec_l20Keys a0 a1 a2 a3) fun v4 => obind (loopF (spec_l20Walk_B1 a0 a1 a2 a3 v4 rec) fz (([] : List (List Int)), v4.2, 0)) fun o1 => (match o1 with
  | (z7, z8) => (some (z7, z8))))
def spec_l20Walk (a0 : List Y40) (a1 : Y29) (a2 : List Int) (a3 : List Int) : Option ((List (List Int)) × Int) := loopF spec_l20Walk_R fz (a0, a1, a2, a3)
theorem spec_l20Walk_s {a0 : List Y40} {a1 : Y29} {a2 : List Int} {a3 : List Int} {r : (List (List Int)) × Int} (h : spec_l20Walk a0 a1 a2 a3 = some r) : SoundAt Tryz.prog 112 [dL c179_dd a0, .agg (c30_ddd a1), dL ci64 a2, dL ci64 a3] (.tup [oL 27 c27_o r.1, nI r.2]) := by
 suffices key : ∀ mF (a0 : List Y40) (a1 : Y29) (a2 : List Int) (a3 : List Int) (r : (List (List Int)) × Int), loopF spec_l20Walk_R mF (a0, a1, a2, a3) = some r → SoundAt Tryz.prog 112 [dL c179_dd a0, .agg (c30_ddd a1), dL ci64 a2, dL ci64 a3] (.tup [oL 27 c27_o r.1, nI r.2]) from key fz a0 a1 a2 a3 r h
 intro mF
 induction mF with
 | zero => intro a0 a1 a2 a3 r h; cases h
 | succ mF ih0 =>
  intro a0 a1 a2 a3 r h
  have ih : ∀ {a0 : List Y40} {a1 : Y29} {a2 : List Int} {a3 : List Int} {r : (List (List Int)) × Int}, loopF spec_l20Walk_R mF (a0, a1, a2, a3) = some r → SoundAt Tryz.prog 112 [dL c179_dd a0, .agg (c30_ddd a1), dL ci64 a2, dL ci64 a3] (.tup [oL 27 c27_o r.1, nI r.2]) := fun h => ih0 _ _ _ _ _ h
  change spec_l20Walk_R (loopF spec_l20Walk_R mF) (a0, a1, a2, a3) = some r at h
  unfold spec_l20Walk_R at h
  try dsimp only at h
  refine st lit112 rfl (rn 1 rfl (ls_seq_k fun K1 hK1 => rn 1 rfl ?_))
  rcases cond_some h with ⟨g2, h⟩ | ⟨g2, h⟩
  ·refine qT rfl g2 (rs (qBs ci64 [] rfl rfl rfl zci64 (sp 1 rfl (?_))))
   obtain ⟨g3, h⟩ := chk_some h
   exact qA ci64 ([] : List Int) a3 rfl rfl (flat_len zci64 a3) (map_dg (fun _ => rfl) _) g3 (qBs c27_o [([] : List Int) ++ a3] rfl rfl rfl zc27_o (sp 2 rfl (evn (ls_ret ((by cases h; exact ⟨.inl rfl, rfl⟩))))))
  ·refine qF rfl g2 (ls_skip (hK1 _ (rs (qBs c27_o [] rfl rfl rfl zc27_o (sp 1 rfl (evn (rs (sp 4 rfl (?_)))))))))
   obtain ⟨v4, g5, h⟩ := ob_some h
   refine qC (qa rfl (erD ec179_dd _) (qa rfl (erg (erc rfl (erc (erD ec109_d _) (erc (erD eci64 _) rfl)))) (qa rfl (erD eci64 _) (qa rfl (erD eci64 _) eran)))) (spec_l20Keys_s g5) (sp 5 rfl (evn (ls_seq_k fun K6 hK6 => rn 1 rfl (qk [0, 2, 3, 5, 10, 11, 12, 13] rfl ?_))))
   obtain ⟨o1, hl, hr1⟩ := ob_some h
   have kXB1 : ∀ {z7 : List (List Int)} {z8 : Int}, (z7, z8) = o1 → Jn K6 [(10, oL 27 c27_o z7), (12, nI z8)] := by
    intro z7 z8 h σ' hk
    subst h
    replace h := hr1
    try dsimp only at h
    exact hK6 _ (lh hk rfl (rn 1 rfl (ls_ret ((by cases h; exact ⟨.inl rfl, rfl⟩)))))
   refine ls_rec (fun (s : (List (List Int)) × Int × Int) => match s with | (y1, y2, y3) => [(0, dL c179_dd a0), (2, dL ci64 a2), (3, dL ci64 a3), (5, .box [nI a1.1, dL c109_d a1.2.1, dL ci64 a1.2.2]), (10, oL 27 c27_o y1), (11, oL 3 ci64 v4.1), (12, nI y2), (13, nI y3)]) _ _ _ _ hl (okr rfl) (fun _ => rfl) ?_
   rintro m ⟨y1, y2, y3⟩ N h hN
   unfold spec_l20Walk_B1 at h
   dsimp only at h
   refine ls_seq_k fun K9 hK9 => rn 1 rfl ?_
   rcases cond_some h with ⟨g10, h⟩ | ⟨g10, h⟩
   ·refine qT rfl g10 (ls_skip (hK9 _ (ls_seq_k fun K11 hK11 => ls_blk (rd (by kernel_rfl) (sd 3 rfl (ed rfl (qBs ci64 [] rfl rfl rfl zci64 (sd 1 rfl (?_)))))))))
    obtain ⟨g12, h⟩ := chk_some h
    refine ed rfl (qA ci64 ([] : List Int) a3 rfl rfl (flat_len zci64 a3) (map_dg (fun _ => rfl) _) g12 (sd 2 rfl (?_)))
    obtain ⟨e13, g14, h⟩ := ob_some h
    refine ed rfl (qI rfl zci64 g14 (sd 1 rfl (ed rfl (qBs ci64 [e13] rfl rfl rfl zci64 (?_)))))
    obtain ⟨g15, h⟩ := chk_some h
    refine ed rfl (qA ci64 (([] : List Int) ++ a3) [e13] rfl rfl (flat_len zci64 [e13]) rfl g15 (?_))
    obtain ⟨v16, g17, h⟩ := ob_some h
    refine ed rfl (qC (qa rfl (erD ec179_dd _) (qa rfl (erg (erc rfl (erc (erD ec109_d _) (erc (erD eci64 _) rfl)))) (qa rfl (erD eci64 _) (qa rfl (erO eci64 _) eran)))) (ih g17) (sd 5 rfl (evdn (rs (sp 2 rfl (?_))))))
    obtain ⟨g18, h⟩ := chk_some h
    exact qA c27_o y1 v16.1 rfl rfl (flat_len zc27_o v16.1) rfl g18 (sp 1 rfl (evn (rg (sp 4 rfl (evn (hK11 _ (qk [0, 2, 3, 5, 10, 11, 12, 13] rfl (rg (sp 3 rfl (evn (hN _ _ h (okr rfl))))))))))))
   ·exact qF rfl g10 (ls_exit (kXB1 (Option.some.inj h) _ (okr rfl)))
def spec_LeapfrogJoin (a0 : List Y113) (a1 : Y29) (a2 : List Int) : Option (Y40 × Int × Bool) := obind (spec_BuildTries a0 a1 a2) fun v1 => cond (!v1.2) (some ((0, []), 0, false)) (obind (spec_l20Empty v1.1) fun v6 => cond v6 (some (((List.length a2 : Int), []), 0, true)) (obind (spec_l20Walk v1.1 a1 a2 ([] : List Int)) fun v9 => obind (spec_NewRelation (List.length a2 : Int) v9.1) fun v11 => cond (!v11.2) (some ((0, []), 0, false)) (some (v11.1, v9.2, true))))
theorem spec_LeapfrogJoin_s {a0 : List Y113} {a1 : Y29} {a2 : List Int} {r : Y40 × Int × Bool} (h : spec_LeapfrogJoin a0 a1 a2 = some r) : SoundAt Tryz.prog 72 [.agg [dL c114_dd a0], .agg (c30_ddd a1), dL ci64 a2] (.tup [.agg (c41_oo r.1), nI r.2.1, .bool r.2.2]) := by
 unfold spec_LeapfrogJoin at h
 refine st lit72 rfl (rn 1 rfl (rs (sp 3 rfl (?_))))
 obtain ⟨v1, g2, h⟩ := ob_some h
 refine qC (qa rfl (erg (erc (erD ec114_dd _) rfl)) (qa rfl (erg (erc rfl (erc (erD ec109_d _) (erc (erD eci64 _) rfl)))) (qa rfl (erD eci64 _) eran))) (spec_BuildTries_s g2) (sp 5 rfl (evn (ls_seq_k fun K3 hK3 => rn 1 rfl ?_)))
 rcases cond_some h with ⟨g4, h⟩ | ⟨g4, h⟩
 ·exact qT rfl g4 (rn 1 rfl (ls_ret ((by cases h; exact ⟨.inl rfl, rfl⟩))))
 ·refine qF rfl g4 (ls_skip (hK3 _ (ls_seq_k fun K5 hK5 => rs (sp 1 rfl (?_)))))
  obtain ⟨v6, g7, h⟩ := ob_some h
  refine qC (qa rfl (erD ec179_oo _) eran) (spec_l20Empty_s g7) (evn ?_)
  rcases cond_some h with ⟨g8, h⟩ | ⟨g8, h⟩
  ·exact qT rfl g8 (rn 1 rfl (qk [6, 7, 8] rfl (ls_ret ((by cases h; exact ⟨.inl rfl, rfl⟩)))))
  ·refine qF rfl g8 (ls_skip (hK5 _ (rs (sp 3 rfl (qBs ci64 [] rfl rfl rfl zci64 (?_))))))
   obtain ⟨v9, g10, h⟩ := ob_some h
   refine qC (qa rfl (erD ec179_oo _) (qa rfl (erg (erc rfl (erc (erD ec109_d _) (erc (erD eci64 _) rfl)))) (qa rfl (erD eci64 _) (qa rfl rfl eran)))) (spec_l20Walk_s g10) (sp 5 rfl (evn (rs (sp 3 rfl (?_)))))
   obtain ⟨v11, g12, h⟩ := ob_some h
   refine qC (qs rfl (qa rfl (erD ec27_o _) eran)) (spec_NewRelation_s g12) (sp 6 rfl (evn (ls_seq_k fun K13 hK13 => rn 1 rfl ?_)))
   rcases cond_some h with ⟨g14, h⟩ | ⟨g14, h⟩
   ·exact qT rfl g14 (rn 1 rfl (ls_ret ((by cases h; exact ⟨.inl rfl, rfl⟩))))
   ·exact qF rfl g14 (ls_skip (hK13 _ (rn 1 rfl (qk [6, 7, 8] rfl (ls_ret ((by cases h; exact ⟨.inl rfl, rfl⟩)))))))
def spec_NextJoinRow_B1 (a3 : List Int) (v1 : Y40 × Int × Bool) (rec : Int → Option (Sum (Unit) ((List Int) × Bool))) (y1 : Int) : Option (Sum (Unit) ((List Int) × Bool)) := cond (decide (y1 < (List.length (enumP 0 v1.1.2) : Int))) (cond v1.2.2 (cond ((List.length a3 : Int) == 0) (obind (geti (enumP 0 v1.1.2) y1) fun e9 => chk (okJ (v1.1.2) ([Sum.inl e9]) [] = true) (some (.inr (e9.2, true)))) (obind (geti (enumP 0 v1.1.2) y1) fun e12 => obind (spec_CompareRows e12.2 a3) fun v14 => cond (decide (0 < v14)) (obind (geti (enumP 0 v1.1.2) y1) fun e17 => chk (okJ (v1.1.2) ([Sum.inl e17]) [] = true) (some (.inr (e17.2, true)))) (rec (IntKind.i64.wrap (y1 + 1))))) (some (.inl ()))) (some (.inl ()))
def spec_NextJoinRow (a0 : List Y113) (a1 : Y29) (a2 : List Int) (a3 : List Int) : Option ((List Int) × Bool) := obind (spec_LeapfrogJoin a0 a1 a2) fun v1 => obind (loopF (spec_NextJoinRow_B1 a3 v1) fz 0) fun o1 => (match o1 with
  | .inl _ => (some (([] : List Int), false))
  | .inr r => some r)
theorem spec_NextJoinRow_s {a0 : List Y113} {a1 : Y29} {a2 : List Int} {a3 : List Int} {r : (List Int) × Bool} (h : spec_NextJoinRow a0 a1 a2 a3 = some r) : SoundAt Tryz.prog 38 [.agg [dL c114_dd a0], .agg (c30_ddd a1), dL ci64 a2, dL ci64 a3] (.tup [oL 3 ci64 r.1, .bool r.2]) := by
 unfold spec_NextJoinRow at h
 refine st lit38 rfl (rn 1 rfl (rs (sp 3 rfl (?_))))
 obtain ⟨v1, g2, h⟩ := ob_some h
 refine qC (qa rfl (erg (erc (erD ec114_dd _) rfl)) (qa rfl (erg (erc rfl (erc (erD ec109_d _) (erc (erD eci64 _) rfl)))) (qa rfl (erD eci64 _) eran))) (spec_LeapfrogJoin_s g2) (sp 8 rfl (evn (ls_seq_k fun K3 hK3 => qk [3, 10, 12] rfl (ls_hg (gSb (f := c27_o) (l := v1.1.2) (q := 900001) (b := 10) [nI v1.1.1] [] rfl rfl rfl (fun _ => rfl) ?_)))))
 intro U us1 hU
 refine kp [(3, dL ci64 a3), (10, .box [nI v1.1.1, oL 27 (pE c27_o U) (enumP 0 v1.1.2)]), (12, .bool v1.2.2), (900001, .gh us1 (List.map (fun x => tokC (c27_o x)) v1.1.2))] rfl rfl (rn 1 rfl ?_)
 obtain ⟨o1, hl, hr1⟩ := ob_some h
 have kXB1 : (.inl ()) = o1 → Jn K3 [(900001, .gh us1 (List.map (fun x => tokC (c27_o x)) v1.1.2))] := by
  intro h σ' hk
  subst h
  replace h := hr1
  try dsimp only at h
  exact hK3 _ (lh hk rfl (rs (qBs ci64 [] rfl rfl rfl zci64 (sp 2 rfl (evn (ls_ret ((by cases h; exact ⟨.inl rfl, rfl⟩))))))))
 refine ls_rec (fun (y1 : Int) => [(3, dL ci64 a3), (10, .box [nI v1.1.1, oL 27 (pE c27_o U) (enumP 0 v1.1.2)]), (12, .bool v1.2.2), (13, nI y1), (900001, .gh us1 (List.map (fun x => tokC (c27_o x)) v1.1.2))]) _ _ _ _ hl (okr rfl) (fun _ => rfl) ?_
 rintro m y1 N h hN
 unfold spec_NextJoinRow_B1 at h
 refine ls_seq_k fun K4 hK4 => rs (sp 6 rfl (?_))
 rcases cond_some h with ⟨g5, h⟩ | ⟨g5, h⟩
 ·refine qg 27 g5 rfl (sp 2 rfl (evn ?_))
  rcases cond_some h with ⟨g6, h⟩ | ⟨g6, h⟩
  ·refine qT rfl g6 (ls_skip (hK4 _ (ls_seq_k fun K7 hK7 => ls_blk (rs (sp 4 rfl (?_))))))
   rcases cond_some h with ⟨g8, h⟩ | ⟨g8, h⟩
   ·refine qg 35 g8 rfl (sp 9 rfl (evn (qT rfl rfl (qk [10, 13, 900001] rfl (rs (sp 3 rfl (?_)))))))
    obtain ⟨e9, g10, h⟩ := ob_some h
    refine qI rfl (zpE zc27_o) g10 (sp 3 rfl (evn ?_))
    obtain ⟨g11, h⟩ := chk_some h
    exact ls_join1 (f := c27_o) (s := 8) (q := 900001) (l := v1.1.2) (U := U) (L := [Sum.inl e9]) rfl rfl rfl (by decide) (join_pin (fun _ => rfl) rfl) hU g11 rfl rfl (kp [(8, oL 3 ci64 e9.2), (9, .bool true)] rfl rfl (qk [8, 9] rfl (ls_ret ((by cases h; cases hr1; exact ⟨.inl rfl, rfl⟩)))))
   ·refine qg 35 g8 rfl (sp 3 rfl (?_))
    obtain ⟨e12, g13, h⟩ := ob_some h
    refine oGR rfl rfl (qI rfl (zpE zc27_o) g13 (sp 2 rfl (?_)))
    obtain ⟨v14, g15, h⟩ := ob_some h
    refine oGR rfl rfl (qC (qa rfl (erP eci64 eci64 _) (qa rfl (erD eci64 _) eran)) (spec_CompareRows_s g15) (sp 2 rfl (evn ?_)))
    rcases cond_some h with ⟨g16, h⟩ | ⟨g16, h⟩
    ·refine qT rfl g16 (qk [10, 13, 900001] rfl (rs (sp 3 rfl (?_))))
     obtain ⟨e17, g18, h⟩ := ob_some h
     refine qI rfl (zpE zc27_o) g18 (sp 3 rfl (evn ?_))
     obtain ⟨g19, h⟩ := chk_some h
     exact ls_join1 (f := c27_o) (s := 8) (q := 900001) (l := v1.1.2) (U := U) (L := [Sum.inl e17]) rfl rfl rfl (by decide) (join_pin (fun _ => rfl) rfl) hU g19 rfl rfl (kp [(8, oL 3 ci64 e17.2), (9, .bool true)] rfl rfl (qk [8, 9] rfl (ls_ret ((by cases h; cases hr1; exact ⟨.inl rfl, rfl⟩)))))
    ·exact qF rfl g16 (ls_skip (hK7 _ (rg (sp 3 rfl (evn (hN _ _ h (okr rfl)))))))
  ·exact qF rfl g6 (ls_exit (kXB1 (Option.some.inj h) _ (okr rfl)))
 ·exact qg 27 g5 rfl (sp 2 rfl (evn (qF rfl rfl (ls_exit (kXB1 (Option.some.inj h) _ (okr rfl))))))
def spec_AdvanceCursor (a0 : Y25) (a1 : Y31) : Option (Y31 × (List Int) × Bool) := obind (spec_l33Cursor a1) fun v1 => obind (spec_SnapshotAt a0 a1.1) fun v3 => cond (!v3.2) (some (v1, ([] : List Int), false)) (obind (spec_NextJoinRow v3.1 a1.2.2.2 a1.2.1 a1.2.2.1) fun v7 => cond (!v7.2) (some (v1, ([] : List Int), false)) (chk (List.length ([] : List Int) + List.length v7.1 ≤ lim) (some ((v1.1, v1.2.1, ([] : List Int) ++ v7.1, v1.2.2.2), v7.1, true))))
theorem spec_AdvanceCursor_s {a0 : Y25} {a1 : Y31} {r : Y31 × (List Int) × Bool} (h : spec_AdvanceCursor a0 a1 = some r) : SoundAt Tryz.prog 8 [.agg (c26_dddd a0), .agg (c32_ddddd a1)] (.tup [.agg (c32_ooooo r.1), oL 3 ci64 r.2.1, .bool r.2.2]) := by
 unfold spec_AdvanceCursor at h
 refine st lit8 rfl (rn 1 rfl (rs (sp 1 rfl (?_))))
 obtain ⟨v1, g2, h⟩ := ob_some h
 refine qC (qa rfl (erg (erc rfl (erc (erD eci64 _) (erc (erD eci64 _) (erc rfl (erc (erD ec109_d _) (erc (erD eci64 _) rfl))))))) eran) (spec_l33Cursor_s g2) (sp 2 rfl (evn (rs (sp 3 rfl (?_)))))
 obtain ⟨v3, g4, h⟩ := ob_some h
 refine qC (qa rfl (erg (erc rfl (erc (erD ec77_ddd _) rfl))) (qs rfl eran)) (spec_SnapshotAt_s g4) (sp 6 rfl (evn (ls_seq_k fun K5 hK5 => rn 1 rfl ?_)))
 rcases cond_some h with ⟨g6, h⟩ | ⟨g6, h⟩
 ·exact qT rfl g6 (rs (sp 1 rfl (qBs ci64 [] rfl rfl rfl zci64 (sp 3 rfl (evn (ls_ret ((by cases h; exact ⟨.inl rfl, rfl⟩))))))))
 ·refine qF rfl g6 (ls_skip (hK5 _ (rs (sp 7 rfl (?_)))))
  obtain ⟨v7, g8, h⟩ := ob_some h
  refine qC (qa rfl (erg (erc (erD ec114_oo _) rfl)) (qa rfl (erg (erc rfl (erc (erD ec109_d _) (erc (erD eci64 _) rfl)))) (qa rfl (erD eci64 _) (qa rfl (erD eci64 _) eran)))) (spec_NextJoinRow_s g8) (sp 5 rfl (evn (qk [4, 7, 10, 11] rfl (ls_seq_k fun K9 hK9 => rn 1 rfl ?_))))
  rcases cond_some h with ⟨g10, h⟩ | ⟨g10, h⟩
  ·exact qT rfl g10 (rs (sp 1 rfl (qBs ci64 [] rfl rfl rfl zci64 (sp 3 rfl (evn (ls_ret ((by cases h; exact ⟨.inl rfl, rfl⟩))))))))
  ·refine qF rfl g10 (ls_skip (hK9 _ (rs (qBs ci64 [] rfl rfl rfl zci64 (sp 1 rfl (?_))))))
   obtain ⟨g11, h⟩ := chk_some h
   exact qA ci64 ([] : List Int) v7.1 rfl rfl (flat_len zci64 v7.1) (map_dg (fun _ => rfl) _) g11 (sp 2 rfl (evn (rn 1 rfl (ls_ret ((by cases h; exact ⟨.inl rfl, rfl⟩))))))
def laws_szIntS (a0 : List Int) (a1 : Int) : Option (Int) := cond (decide ((IntKind.i64.wrap (a1 - (List.length a0 : Int))) < 0)) (some (-1)) (some (IntKind.i64.wrap (a1 - (List.length a0 : Int))))
theorem laws_szIntS_s {a0 : List Int} {a1 : Int} {r : Int} (h : laws_szIntS a0 a1 = some r) : SoundAt Tryz.prog 49 [dL ci64 a0, nI a1] (nI r) := by
 unfold laws_szIntS at h
 refine st lit49 rfl (rn 2 rfl (ls_seq_k fun K1 hK1 => rn 1 rfl ?_))
 rcases cond_some h with ⟨g2, h⟩ | ⟨g2, h⟩
 ·exact qT rfl g2 (rn 1 rfl (ls_ret ((by cases h; exact ⟨.inl rfl, rfl⟩))))
 ·exact qF rfl g2 (ls_skip (hK1 _ (rn 1 rfl (ls_ret ((by cases h; exact ⟨.inl rfl, rfl⟩))))))
def laws_szIntSS_B1 (a0 : List (List Int)) (rec : (Int × Int) → Option (Sum (Int) (Int))) (s : Int × Int) : Option (Sum (Int) (Int)) := match s with
  | (y1, y2) => cond (decide (y2 < (List.length a0 : Int))) (obind (geti a0 y2) fun e8 => obind (laws_szIntS e8 y1) fun v10 => cond (decide (v10 < 0)) (some (.inr (-1))) (rec (v10, (IntKind.i64.wrap (y2 + 1))))) (some (.inl y1))
def laws_szIntSS (a0 : List (List Int)) (a1 : Int) : Option (Int) := cond (decide ((IntKind.i64.wrap (a1 - (List.length a0 : Int))) < 0)) (some (-1)) (obind (loopF (laws_szIntSS_B1 a0) fz ((IntKind.i64.wrap (a1 - (List.length a0 : Int))), 0)) fun o1 => (match o1 with
  | .inl z4 => (some z4)
  | .inr r => some r))
theorem laws_szIntSS_s {a0 : List (List Int)} {a1 : Int} {r : Int} (h : laws_szIntSS a0 a1 = some r) : SoundAt Tryz.prog 194 [dL c27_d a0, nI a1] (nI r) := by
 unfold laws_szIntSS at h
 refine st lit194 rfl (rn 2 rfl (ls_seq_k fun K1 hK1 => rn 1 rfl ?_))
 rcases cond_some h with ⟨g2, h⟩ | ⟨g2, h⟩
 ·exact qT rfl g2 (rn 1 rfl (ls_ret ((by cases h; exact ⟨.inl rfl, rfl⟩))))
 ·refine qF rfl g2 (ls_skip (hK1 _ (ls_seq_k fun K3 hK3 => rn 1 rfl ?_)))
  obtain ⟨o1, hl, hr1⟩ := ob_some h
  have kXB1 : ∀ {z4 : Int}, (.inl z4) = o1 → Jn K3 [(1, nI z4)] := by
   intro z4 h σ' hk
   subst h
   replace h := hr1
   try dsimp only at h
   exact hK3 _ (lh hk rfl (rn 1 rfl (ls_ret ((by cases h; exact ⟨.inl rfl, rfl⟩)))))
  refine ls_rec (fun (s : Int × Int) => match s with | (y1, y2) => [(0, dL c27_d a0), (1, nI y1), (5, nI y2)]) _ _ _ _ hl (okr rfl) (fun _ => rfl) ?_
  rintro m ⟨y1, y2⟩ N h hN
  unfold laws_szIntSS_B1 at h
  dsimp only at h
  refine ls_seq_k fun K5 hK5 => rn 1 rfl ?_
  rcases cond_some h with ⟨g6, h⟩ | ⟨g6, h⟩
  ·refine qT rfl g6 (ls_skip (hK5 _ (ls_seq_k fun K7 hK7 => ls_blk (rs (sp 2 rfl (?_))))))
   obtain ⟨e8, g9, h⟩ := ob_some h
   refine qI rfl zc27_d g9 (sp 2 rfl (?_))
   obtain ⟨v10, g11, h⟩ := ob_some h
   refine qC (qa rfl (erD eci64 _) (qs rfl eran)) (laws_szIntS_s g11) (sp 1 rfl (evn (rn 1 rfl ?_)))
   rcases cond_some h with ⟨g12, h⟩ | ⟨g12, h⟩
   ·exact qT rfl g12 (rn 1 rfl (ls_ret ((by cases h; cases hr1; exact ⟨.inl rfl, rfl⟩))))
   ·exact qF rfl g12 (ls_skip (hK7 _ (rg (sp 3 rfl (evn (hN _ _ h (okr rfl)))))))
  ·exact qF rfl g6 (ls_exit (kXB1 (Option.some.inj h) _ (okr rfl)))
def laws_szRelation (a0 : Y40) (a1 : Int) : Option (Int) := obind (laws_szIntSS a0.2 a1) fun v1 => cond (decide (v1 < 0)) (some (-1)) (some v1)
theorem laws_szRelation_s {a0 : Y40} {a1 : Int} {r : Int} (h : laws_szRelation a0 a1 = some r) : SoundAt Tryz.prog 183 [.agg (c192_dd a0), nI a1] (nI r) := by
 unfold laws_szRelation at h
 refine st lit183 rfl (rn 1 rfl (rs (sp 3 rfl (?_))))
 obtain ⟨v1, g2, h⟩ := ob_some h
 refine qC (qa rfl (erD ec27_d _) (qs rfl eran)) (laws_szIntSS_s g2) (sp 1 rfl (evn (ls_seq_k fun K3 hK3 => rn 1 rfl ?_)))
 rcases cond_some h with ⟨g4, h⟩ | ⟨g4, h⟩
 ·exact qT rfl g4 (rn 1 rfl (ls_ret ((by cases h; exact ⟨.inl rfl, rfl⟩))))
 ·exact qF rfl g4 (ls_skip (hK3 _ (rn 1 rfl (ls_ret ((by cases h; exact ⟨.inl rfl, rfl⟩))))))
def laws_szTable (a0 : Y193) (a1 : Int) : Option (Int) := cond (decide ((IntKind.i64.wrap (a1 - (List.length a0.1 : Int))) < 0)) (some (-1)) (obind (laws_szRelation a0.2 (IntKind.i64.wrap (a1 - (List.length a0.1 : Int)))) fun v3 => cond (decide (v3 < 0)) (some (-1)) (some v3))
theorem laws_szTable_s {a0 : Y193} {a1 : Int} {r : Int} (h : laws_szTable a0 a1 = some r) : SoundAt Tryz.prog 160 [.agg (c194_dd a0), nI a1] (nI r) := by
 unfold laws_szTable at h
 refine st lit160 rfl (rn 2 rfl (ls_seq_k fun K1 hK1 => rn 1 rfl ?_))
 rcases cond_some h with ⟨g2, h⟩ | ⟨g2, h⟩
 ·exact qT rfl g2 (rn 1 rfl (ls_ret ((by cases h; exact ⟨.inl rfl, rfl⟩))))
 ·refine qF rfl g2 (ls_skip (hK1 _ (rs (sp 3 rfl (?_)))))
  obtain ⟨v3, g4, h⟩ := ob_some h
  refine qC (qa rfl (erg (erc rfl (erc (erD ec27_d _) rfl))) (qs rfl eran)) (laws_szRelation_s g4) (sp 1 rfl (evn (ls_seq_k fun K5 hK5 => rn 1 rfl ?_)))
  rcases cond_some h with ⟨g6, h⟩ | ⟨g6, h⟩
  ·exact qT rfl g6 (rn 1 rfl (qk [4] rfl (ls_ret ((by cases h; exact ⟨.inl rfl, rfl⟩)))))
  ·exact qF rfl g6 (ls_skip (hK5 _ (rn 1 rfl (ls_ret ((by cases h; exact ⟨.inl rfl, rfl⟩))))))
def laws_szTableS_B1 (a0 : List Y193) (rec : (Int × Int) → Option (Sum (Int) (Int))) (s : Int × Int) : Option (Sum (Int) (Int)) := match s with
  | (y1, y2) => cond (decide (y2 < (List.length a0 : Int))) (obind (geti a0 y2) fun e8 => obind (laws_szTable e8 y1) fun v10 => cond (decide (v10 < 0)) (some (.inr (-1))) (rec (v10, (IntKind.i64.wrap (y2 + 1))))) (some (.inl y1))
def laws_szTableS (a0 : List Y193) (a1 : Int) : Option (Int) := cond (decide ((IntKind.i64.wrap (a1 - (List.length a0 : Int))) < 0)) (some (-1)) (obind (loopF (laws_szTableS_B1 a0) fz ((IntKind.i64.wrap (a1 - (List.length a0 : Int))), 0)) fun o1 => (match o1 with
  | .inl z4 => (some z4)
  | .inr r => some r))
theorem laws_szTableS_s {a0 : List Y193} {a1 : Int} {r : Int} (h : laws_szTableS a0 a1 = some r) : SoundAt Tryz.prog 123 [dL c194_dd a0, nI a1] (nI r) := by
 unfold laws_szTableS at h
 refine st lit123 rfl (rn 2 rfl (ls_seq_k fun K1 hK1 => rn 1 rfl ?_))
 rcases cond_some h with ⟨g2, h⟩ | ⟨g2, h⟩
 ·exact qT rfl g2 (rn 1 rfl (ls_ret ((by cases h; exact ⟨.inl rfl, rfl⟩))))
 ·refine qF rfl g2 (ls_skip (hK1 _ (ls_seq_k fun K3 hK3 => rn 1 rfl ?_)))
  obtain ⟨o1, hl, hr1⟩ := ob_some h
  have kXB1 : ∀ {z4 : Int}, (.inl z4) = o1 → Jn K3 [(1, nI z4)] := by
   intro z4 h σ' hk
   subst h
   replace h := hr1
   try dsimp only at h
   exact hK3 _ (lh hk rfl (rn 1 rfl (ls_ret ((by cases h; exact ⟨.inl rfl, rfl⟩)))))
  refine ls_rec (fun (s : Int × Int) => match s with | (y1, y2) => [(0, dL c194_dd a0), (1, nI y1), (5, nI y2)]) _ _ _ _ hl (okr rfl) (fun _ => rfl) ?_
  rintro m ⟨y1, y2⟩ N h hN
  unfold laws_szTableS_B1 at h
  dsimp only at h
  refine ls_seq_k fun K5 hK5 => rn 1 rfl ?_
  rcases cond_some h with ⟨g6, h⟩ | ⟨g6, h⟩
  ·refine qT rfl g6 (ls_skip (hK5 _ (ls_seq_k fun K7 hK7 => ls_blk (rs (sp 2 rfl (?_))))))
   obtain ⟨e8, g9, h⟩ := ob_some h
   refine qI rfl zc194_dd g9 (sp 2 rfl (?_))
   obtain ⟨v10, g11, h⟩ := ob_some h
   refine qC (qa rfl (erg (erc rfl (erc rfl (erc (erD ec27_d _) rfl)))) (qs rfl eran)) (laws_szTable_s g11) (sp 1 rfl (evn (rn 1 rfl ?_)))
   rcases cond_some h with ⟨g12, h⟩ | ⟨g12, h⟩
   ·exact qT rfl g12 (rn 1 rfl (ls_ret ((by cases h; cases hr1; exact ⟨.inl rfl, rfl⟩))))
   ·exact qF rfl g12 (ls_skip (hK7 _ (rg (sp 3 rfl (evn (hN _ _ h (okr rfl)))))))
  ·exact qF rfl g6 (ls_exit (kXB1 (Option.some.inj h) _ (okr rfl)))
def laws_szDatabase (a0 : List Y193) (a1 : Int) : Option (Int) := obind (laws_szTableS a0 a1) fun v1 => cond (decide (v1 < 0)) (some (-1)) (some v1)
theorem laws_szDatabase_s {a0 : List Y193} {a1 : Int} {r : Int} (h : laws_szDatabase a0 a1 = some r) : SoundAt Tryz.prog 88 [.agg [dL c194_dd a0], nI a1] (nI r) := by
 unfold laws_szDatabase at h
 refine st lit88 rfl (rn 1 rfl (rs (sp 3 rfl (?_))))
 obtain ⟨v1, g2, h⟩ := ob_some h
 refine qC (qa rfl (erD ec194_dd _) (qs rfl eran)) (laws_szTableS_s g2) (sp 1 rfl (evn (ls_seq_k fun K3 hK3 => rn 1 rfl ?_)))
 rcases cond_some h with ⟨g4, h⟩ | ⟨g4, h⟩
 ·exact qT rfl g4 (rn 1 rfl (ls_ret ((by cases h; exact ⟨.inl rfl, rfl⟩))))
 ·exact qF rfl g4 (ls_skip (hK3 _ (rn 1 rfl (ls_ret ((by cases h; exact ⟨.inl rfl, rfl⟩))))))
def laws_szDatabaseS_B1 (a0 : List (List Y193)) (rec : (Int × Int) → Option (Sum (Int) (Int))) (s : Int × Int) : Option (Sum (Int) (Int)) := match s with
  | (y1, y2) => cond (decide (y2 < (List.length a0 : Int))) (obind (geti a0 y2) fun e8 => obind (laws_szDatabase e8 y1) fun v10 => cond (decide (v10 < 0)) (some (.inr (-1))) (rec (v10, (IntKind.i64.wrap (y2 + 1))))) (some (.inl y1))
def laws_szDatabaseS (a0 : List (List Y193)) (a1 : Int) : Option (Int) := cond (decide ((IntKind.i64.wrap (a1 - (List.length a0 : Int))) < 0)) (some (-1)) (obind (loopF (laws_szDatabaseS_B1 a0) fz ((IntKind.i64.wrap (a1 - (List.length a0 : Int))), 0)) fun o1 => (match o1 with
  | .inl z4 => (some z4)
  | .inr r => some r))
theorem laws_szDatabaseS_s {a0 : List (List Y193)} {a1 : Int} {r : Int} (h : laws_szDatabaseS a0 a1 = some r) : SoundAt Tryz.prog 48 [dL c132_ddd a0, nI a1] (nI r) := by
 unfold laws_szDatabaseS at h
 refine st lit48 rfl (rn 2 rfl (ls_seq_k fun K1 hK1 => rn 1 rfl ?_))
 rcases cond_some h with ⟨g2, h⟩ | ⟨g2, h⟩
 ·exact qT rfl g2 (rn 1 rfl (ls_ret ((by cases h; exact ⟨.inl rfl, rfl⟩))))
 ·refine qF rfl g2 (ls_skip (hK1 _ (ls_seq_k fun K3 hK3 => rn 1 rfl ?_)))
  obtain ⟨o1, hl, hr1⟩ := ob_some h
  have kXB1 : ∀ {z4 : Int}, (.inl z4) = o1 → Jn K3 [(1, nI z4)] := by
   intro z4 h σ' hk
   subst h
   replace h := hr1
   try dsimp only at h
   exact hK3 _ (lh hk rfl (rn 1 rfl (ls_ret ((by cases h; exact ⟨.inl rfl, rfl⟩)))))
  refine ls_rec (fun (s : Int × Int) => match s with | (y1, y2) => [(0, dL c132_ddd a0), (1, nI y1), (5, nI y2)]) _ _ _ _ hl (okr rfl) (fun _ => rfl) ?_
  rintro m ⟨y1, y2⟩ N h hN
  unfold laws_szDatabaseS_B1 at h
  dsimp only at h
  refine ls_seq_k fun K5 hK5 => rn 1 rfl ?_
  rcases cond_some h with ⟨g6, h⟩ | ⟨g6, h⟩
  ·refine qT rfl g6 (ls_skip (hK5 _ (ls_seq_k fun K7 hK7 => ls_blk (rs (sp 2 rfl (?_))))))
   obtain ⟨e8, g9, h⟩ := ob_some h
   refine qI rfl zc132_ddd g9 (sp 2 rfl (?_))
   obtain ⟨v10, g11, h⟩ := ob_some h
   refine qC (qa rfl (erg (erc (erD ec194_dd _) rfl)) (qs rfl eran)) (laws_szDatabase_s g11) (sp 1 rfl (evn (rn 1 rfl ?_)))
   rcases cond_some h with ⟨g12, h⟩ | ⟨g12, h⟩
   ·exact qT rfl g12 (rn 1 rfl (ls_ret ((by cases h; cases hr1; exact ⟨.inl rfl, rfl⟩))))
   ·exact qF rfl g12 (ls_skip (hK7 _ (rg (sp 3 rfl (evn (hN _ _ h (okr rfl)))))))
  ·exact qF rfl g6 (ls_exit (kXB1 (Option.some.inj h) _ (okr rfl)))
def laws_szHistory (a0 : Y53) (a1 : Int) : Option (Int) := obind (laws_szDatabaseS a0.2 a1) fun v1 => cond (decide (v1 < 0)) (some (-1)) (some v1)
theorem laws_szHistory_s {a0 : Y53} {a1 : Int} {r : Int} (h : laws_szHistory a0 a1 = some r) : SoundAt Tryz.prog 17 [.agg (c54_dddd a0), nI a1] (nI r) := by
 unfold laws_szHistory at h
 refine st lit17 rfl (rn 1 rfl (rs (sp 3 rfl (?_))))
 obtain ⟨v1, g2, h⟩ := ob_some h
 refine qC (qa rfl (erD ec132_ddd _) (qs rfl eran)) (laws_szDatabaseS_s g2) (sp 1 rfl (evn (ls_seq_k fun K3 hK3 => rn 1 rfl ?_)))
 rcases cond_some h with ⟨g4, h⟩ | ⟨g4, h⟩
 ·exact qT rfl g4 (rn 1 rfl (ls_ret ((by cases h; exact ⟨.inl rfl, rfl⟩))))
 ·exact qF rfl g4 (ls_skip (hK3 _ (rn 1 rfl (ls_ret ((by cases h; exact ⟨.inl rfl, rfl⟩))))))
def laws_szAtom (a0 : Y108) (a1 : Int) : Option (Int) := cond (decide ((IntKind.i64.wrap (a1 - (List.length a0.1 : Int))) < 0)) (some (-1)) (obind (laws_szIntS a0.2 (IntKind.i64.wrap (a1 - (List.length a0.1 : Int)))) fun v3 => cond (decide (v3 < 0)) (some (-1)) (some v3))
theorem laws_szAtom_s {a0 : Y108} {a1 : Int} {r : Int} (h : laws_szAtom a0 a1 = some r) : SoundAt Tryz.prog 124 [.agg (c167_d a0), nI a1] (nI r) := by
 unfold laws_szAtom at h
 refine st lit124 rfl (rn 2 rfl (ls_seq_k fun K1 hK1 => rn 1 rfl ?_))
 rcases cond_some h with ⟨g2, h⟩ | ⟨g2, h⟩
 ·exact qT rfl g2 (rn 1 rfl (ls_ret ((by cases h; exact ⟨.inl rfl, rfl⟩))))
 ·refine qF rfl g2 (ls_skip (hK1 _ (rs (sp 3 rfl (?_)))))
  obtain ⟨v3, g4, h⟩ := ob_some h
  refine qC (qa rfl (erD eci64 _) (qs rfl eran)) (laws_szIntS_s g4) (sp 1 rfl (evn (ls_seq_k fun K5 hK5 => rn 1 rfl ?_)))
  rcases cond_some h with ⟨g6, h⟩ | ⟨g6, h⟩
  ·exact qT rfl g6 (rn 1 rfl (qk [4] rfl (ls_ret ((by cases h; exact ⟨.inl rfl, rfl⟩)))))
  ·exact qF rfl g6 (ls_skip (hK5 _ (rn 1 rfl (ls_ret ((by cases h; exact ⟨.inl rfl, rfl⟩))))))
def laws_szAtomS_B1 (a0 : List Y108) (rec : (Int × Int) → Option (Sum (Int) (Int))) (s : Int × Int) : Option (Sum (Int) (Int)) := match s with
  | (y1, y2) => cond (decide (y2 < (List.length a0 : Int))) (obind (geti a0 y2) fun e8 => obind (laws_szAtom e8 y1) fun v10 => cond (decide (v10 < 0)) (some (.inr (-1))) (rec (v10, (IntKind.i64.wrap (y2 + 1))))) (some (.inl y1))
def laws_szAtomS (a0 : List Y108) (a1 : Int) : Option (Int) := cond (decide ((IntKind.i64.wrap (a1 - (List.length a0 : Int))) < 0)) (some (-1)) (obind (loopF (laws_szAtomS_B1 a0) fz ((IntKind.i64.wrap (a1 - (List.length a0 : Int))), 0)) fun o1 => (match o1 with
  | .inl z4 => (some z4)
  | .inr r => some r))
theorem laws_szAtomS_s {a0 : List Y108} {a1 : Int} {r : Int} (h : laws_szAtomS a0 a1 = some r) : SoundAt Tryz.prog 89 [dL c167_d a0, nI a1] (nI r) := by
 unfold laws_szAtomS at h
 refine st lit89 rfl (rn 2 rfl (ls_seq_k fun K1 hK1 => rn 1 rfl ?_))
 rcases cond_some h with ⟨g2, h⟩ | ⟨g2, h⟩
 ·exact qT rfl g2 (rn 1 rfl (ls_ret ((by cases h; exact ⟨.inl rfl, rfl⟩))))
 ·refine qF rfl g2 (ls_skip (hK1 _ (ls_seq_k fun K3 hK3 => rn 1 rfl ?_)))
  obtain ⟨o1, hl, hr1⟩ := ob_some h
  have kXB1 : ∀ {z4 : Int}, (.inl z4) = o1 → Jn K3 [(1, nI z4)] := by
   intro z4 h σ' hk
   subst h
   replace h := hr1
   try dsimp only at h
   exact hK3 _ (lh hk rfl (rn 1 rfl (ls_ret ((by cases h; exact ⟨.inl rfl, rfl⟩)))))
  refine ls_rec (fun (s : Int × Int) => match s with | (y1, y2) => [(0, dL c167_d a0), (1, nI y1), (5, nI y2)]) _ _ _ _ hl (okr rfl) (fun _ => rfl) ?_
  rintro m ⟨y1, y2⟩ N h hN
  unfold laws_szAtomS_B1 at h
  dsimp only at h
  refine ls_seq_k fun K5 hK5 => rn 1 rfl ?_
  rcases cond_some h with ⟨g6, h⟩ | ⟨g6, h⟩
  ·refine qT rfl g6 (ls_skip (hK5 _ (ls_seq_k fun K7 hK7 => ls_blk (rs (sp 2 rfl (?_))))))
   obtain ⟨e8, g9, h⟩ := ob_some h
   refine qI rfl zc167_d g9 (sp 2 rfl (?_))
   obtain ⟨v10, g11, h⟩ := ob_some h
   refine qC (qa rfl (erg (erc rfl (erc (erD eci64 _) rfl))) (qs rfl eran)) (laws_szAtom_s g11) (sp 1 rfl (evn (rn 1 rfl ?_)))
   rcases cond_some h with ⟨g12, h⟩ | ⟨g12, h⟩
   ·exact qT rfl g12 (rn 1 rfl (ls_ret ((by cases h; cases hr1; exact ⟨.inl rfl, rfl⟩))))
   ·exact qF rfl g12 (ls_skip (hK7 _ (rg (sp 3 rfl (evn (hN _ _ h (okr rfl)))))))
  ·exact qF rfl g6 (ls_exit (kXB1 (Option.some.inj h) _ (okr rfl)))
def laws_szQuery (a0 : Y56) (a1 : Int) : Option (Int) := obind (laws_szAtomS a0.2.1 a1) fun v1 => cond (decide (v1 < 0)) (some (-1)) (obind (laws_szIntS a0.2.2 v1) fun v5 => cond (decide (v5 < 0)) (some (-1)) (some v5))
theorem laws_szQuery_s {a0 : Y56} {a1 : Int} {r : Int} (h : laws_szQuery a0 a1 = some r) : SoundAt Tryz.prog 50 [.agg (c57_ddd a0), nI a1] (nI r) := by
 unfold laws_szQuery at h
 refine st lit50 rfl (rn 1 rfl (rs (sp 3 rfl (?_))))
 obtain ⟨v1, g2, h⟩ := ob_some h
 refine qC (qa rfl (erD ec167_d _) (qs rfl eran)) (laws_szAtomS_s g2) (sp 1 rfl (evn (ls_seq_k fun K3 hK3 => rn 1 rfl ?_)))
 rcases cond_some h with ⟨g4, h⟩ | ⟨g4, h⟩
 ·exact qT rfl g4 (rn 1 rfl (ls_ret ((by cases h; exact ⟨.inl rfl, rfl⟩))))
 ·refine qF rfl g4 (ls_skip (hK3 _ (rs (sp 3 rfl (?_)))))
  obtain ⟨v5, g6, h⟩ := ob_some h
  refine qC (qa rfl (erD eci64 _) (qs rfl eran)) (laws_szIntS_s g6) (sp 1 rfl (evn (ls_seq_k fun K7 hK7 => rn 1 rfl ?_)))
  rcases cond_some h with ⟨g8, h⟩ | ⟨g8, h⟩
  ·exact qT rfl g8 (rn 1 rfl (qk [4] rfl (ls_ret ((by cases h; exact ⟨.inl rfl, rfl⟩)))))
  ·exact qF rfl g8 (ls_skip (hK7 _ (rn 1 rfl (ls_ret ((by cases h; exact ⟨.inl rfl, rfl⟩))))))
def laws_szCursor (a0 : Y58) (a1 : Int) : Option (Int) := obind (laws_szIntS a0.2.1 a1) fun v1 => cond (decide (v1 < 0)) (some (-1)) (obind (laws_szIntS a0.2.2.1 v1) fun v5 => cond (decide (v5 < 0)) (some (-1)) (obind (laws_szQuery a0.2.2.2 v5) fun v9 => cond (decide (v9 < 0)) (some (-1)) (some v9)))
theorem laws_szCursor_s {a0 : Y58} {a1 : Int} {r : Int} (h : laws_szCursor a0 a1 = some r) : SoundAt Tryz.prog 18 [.agg (c59_ddddd a0), nI a1] (nI r) := by
 unfold laws_szCursor at h
 refine st lit18 rfl (rn 1 rfl (rs (sp 3 rfl (?_))))
 obtain ⟨v1, g2, h⟩ := ob_some h
 refine qC (qa rfl (erD eci64 _) (qs rfl eran)) (laws_szIntS_s g2) (sp 1 rfl (evn (ls_seq_k fun K3 hK3 => rn 1 rfl ?_)))
 rcases cond_some h with ⟨g4, h⟩ | ⟨g4, h⟩
 ·exact qT rfl g4 (rn 1 rfl (ls_ret ((by cases h; exact ⟨.inl rfl, rfl⟩))))
 ·refine qF rfl g4 (ls_skip (hK3 _ (rs (sp 3 rfl (?_)))))
  obtain ⟨v5, g6, h⟩ := ob_some h
  refine qC (qa rfl (erD eci64 _) (qs rfl eran)) (laws_szIntS_s g6) (sp 1 rfl (evn (ls_seq_k fun K7 hK7 => rn 1 rfl ?_)))
  rcases cond_some h with ⟨g8, h⟩ | ⟨g8, h⟩
  ·exact qT rfl g8 (rn 1 rfl (qk [4] rfl (ls_ret ((by cases h; exact ⟨.inl rfl, rfl⟩)))))
  ·refine qF rfl g8 (ls_skip (hK7 _ (rs (sp 3 rfl (?_)))))
   obtain ⟨v9, g10, h⟩ := ob_some h
   refine qC (qa rfl (erg (erc rfl (erc (erD ec167_d _) (erc (erD eci64 _) rfl)))) (qs rfl eran)) (laws_szQuery_s g10) (sp 1 rfl (evn (ls_seq_k fun K11 hK11 => rn 1 rfl ?_)))
   rcases cond_some h with ⟨g12, h⟩ | ⟨g12, h⟩
   ·exact qT rfl g12 (rn 1 rfl (ls_ret ((by cases h; exact ⟨.inl rfl, rfl⟩))))
   ·exact qF rfl g12 (ls_skip (hK11 _ (rn 1 rfl (ls_ret ((by cases h; exact ⟨.inl rfl, rfl⟩))))))
def laws_toIntS_B1 (a0 : List Int) (rec : ((List Int) × Int) → Option ((List Int))) (s : (List Int) × Int) : Option ((List Int)) := match s with
  | (y1, y2) => cond (decide (y2 < (List.length a0 : Int))) (obind (geti a0 y2) fun e7 => obind (geti y1 y2) fun e9 => rec ((seti y1 y2 e7), (IntKind.i64.wrap (y2 + 1)))) (some y1)
def laws_toIntS (a0 : List Int) : Option ((List Int)) := chk ((0 : Int) ≤ (List.length a0 : Int) ∧ Int.toNat (List.length a0 : Int) ≤ lim) (obind (loopF (laws_toIntS_B1 a0) fz ((List.replicate (Int.toNat (List.length a0 : Int)) (0 : Int)), 0)) fun z3 => some z3)
theorem laws_toIntS_s {a0 : List Int} {r : (List Int)} (h : laws_toIntS a0 = some r) : SoundAt Tryz.prog 52 [dL ci64 a0] (oL 3 ci64 r) := by
 unfold laws_toIntS at h
 refine st lit52 rfl (rn 1 rfl (rs (sp 2 rfl (?_))))
 obtain ⟨g1, h⟩ := chk_some h
 refine qMu ci64 (0 : Int) rfl rfl rfl rfl g1 rfl (qAu rfl rfl rfl rfl (evn (ls_seq_k fun K2 hK2 => rn 1 rfl ?_)))
 obtain ⟨o1, hl, hr1⟩ := ob_some h
 have kXB1 : ∀ {z3 : List Int}, z3 = o1 → Jn K2 [(3, wL 3 ci64 z3)] := by
  intro z3 h σ' hk
  subst h
  replace h := hr1
  try dsimp only at h
  exact hK2 _ (lh hk rfl (rs (qTu rfl rfl rfl (sp 1 rfl (evn (ls_ret ((by cases h; exact ⟨.inl rfl, rfl⟩))))))))
 refine ls_rec (fun (s : (List Int) × Int) => match s with | (y1, y2) => [(0, dL ci64 a0), (3, wL 3 ci64 y1), (4, nI y2)]) _ _ _ _ hl (okr rfl) (fun _ => rfl) ?_
 rintro m ⟨y1, y2⟩ N h hN
 unfold laws_toIntS_B1 at h
 dsimp only at h
 refine ls_seq_k fun K4 hK4 => rn 1 rfl ?_
 rcases cond_some h with ⟨g5, h⟩ | ⟨g5, h⟩
 ·refine qT rfl g5 (ls_skip (hK4 _ (ls_seq_k fun K6 hK6 => ls_blk (rg (sp 4 rfl (?_))))))
  obtain ⟨e7, g8, h⟩ := ob_some h
  refine qI rfl zci64 g8 (sp 1 rfl (?_))
  obtain ⟨e9, g10, h⟩ := ob_some h
  exact qIu rfl ⟨(geti_some g10).1, (geti_some g10).2.1⟩ (qSu e7 rfl rfl zci64 ⟨(geti_some g10).1, (geti_some g10).2.1⟩ rfl rfl rfl rfl rfl rfl (evn (hK6 _ (rg (sp 3 rfl (evn (hN _ _ h (okr rfl))))))))
 ·exact qF rfl g5 (ls_exit (kXB1 (Option.some.inj h) _ (okr rfl)))
def laws_toIntSS_B1 (a0 : List (List Int)) (rec : ((List (List Int)) × Int) → Option ((List (List Int)))) (s : (List (List Int)) × Int) : Option ((List (List Int))) := match s with
  | (y1, y2) => cond (decide (y2 < (List.length a0 : Int))) (obind (geti a0 y2) fun e7 => obind (laws_toIntS e7) fun v9 => obind (geti y1 y2) fun e11 => rec ((seti y1 y2 v9), (IntKind.i64.wrap (y2 + 1)))) (some y1)
def laws_toIntSS (a0 : List (List Int)) : Option ((List (List Int))) := chk ((0 : Int) ≤ (List.length a0 : Int) ∧ Int.toNat (List.length a0 : Int) ≤ lim) (obind (loopF (laws_toIntSS_B1 a0) fz ((List.replicate (Int.toNat (List.length a0 : Int)) ([] : List Int)), 0)) fun z3 => some z3)
theorem laws_toIntSS_s {a0 : List (List Int)} {r : (List (List Int))} (h : laws_toIntSS a0 = some r) : SoundAt Tryz.prog 195 [dL c27_d a0] (oL 27 c27_o r) := by
 unfold laws_toIntSS at h
 refine st lit195 rfl (rn 1 rfl (rs (sp 2 rfl (?_))))
 obtain ⟨g1, h⟩ := chk_some h
 refine qMu c27_o ([] : List Int) rfl rfl rfl rfl g1 rfl (qAu rfl rfl rfl rfl (evn (ls_seq_k fun K2 hK2 => rn 1 rfl ?_)))
 obtain ⟨o1, hl, hr1⟩ := ob_some h
 have kXB1 : ∀ {z3 : List (List Int)}, z3 = o1 → Jn K2 [(3, wL 27 c27_o z3)] := by
  intro z3 h σ' hk
  subst h
  replace h := hr1
  try dsimp only at h
  exact hK2 _ (lh hk rfl (rs (qTu rfl rfl rfl (sp 1 rfl (evn (ls_ret ((by cases h; exact ⟨.inl rfl, rfl⟩))))))))
 refine ls_rec (fun (s : (List (List Int)) × Int) => match s with | (y1, y2) => [(0, dL c27_d a0), (3, wL 27 c27_o y1), (4, nI y2)]) _ _ _ _ hl (okr rfl) (fun _ => rfl) ?_
 rintro m ⟨y1, y2⟩ N h hN
 unfold laws_toIntSS_B1 at h
 dsimp only at h
 refine ls_seq_k fun K4 hK4 => rn 1 rfl ?_
 rcases cond_some h with ⟨g5, h⟩ | ⟨g5, h⟩
 ·refine qT rfl g5 (ls_skip (hK4 _ (ls_seq_k fun K6 hK6 => ls_blk (rg (sp 4 rfl (?_))))))
  obtain ⟨e7, g8, h⟩ := ob_some h
  refine qI rfl zc27_d g8 (sp 1 rfl (?_))
  obtain ⟨v9, g10, h⟩ := ob_some h
  refine qC (qa rfl (erD eci64 _) eran) (laws_toIntS_s g10) (?_)
  obtain ⟨e11, g12, h⟩ := ob_some h
  exact qIu rfl ⟨(geti_some g12).1, (geti_some g12).2.1⟩ (qSu v9 rfl rfl zc27_o ⟨(geti_some g12).1, (geti_some g12).2.1⟩ rfl rfl rfl rfl rfl rfl (evn (hK6 _ (rg (sp 3 rfl (evn (hN _ _ h (okr rfl))))))))
 ·exact qF rfl g5 (ls_exit (kXB1 (Option.some.inj h) _ (okr rfl)))
def laws_toRelation (a0 : Y40) : Option (Y40) := obind (laws_toIntSS a0.2) fun v1 => some (a0.1, v1)
theorem laws_toRelation_s {a0 : Y40} {r : Y40} (h : laws_toRelation a0 = some r) : SoundAt Tryz.prog 184 [.agg (c192_dd a0)] (.agg (c41_oo r)) := by
 unfold laws_toRelation at h
 refine st lit184 rfl (rn 3 rfl (rs (sp 2 rfl (?_))))
 obtain ⟨v1, g2, h⟩ := ob_some h
 exact qC (qa rfl (erD ec27_d _) eran) (laws_toIntSS_s g2) (sp 2 rfl (evn (rn 1 rfl (ls_ret ((by cases h; exact ⟨.inl rfl, rfl⟩))))))
def laws_toTable (a0 : Y193) : Option (Y113) := obind (laws_toRelation a0.2) fun v1 => some (a0.1, v1)
theorem laws_toTable_s {a0 : Y193} {r : Y113} (h : laws_toTable a0 = some r) : SoundAt Tryz.prog 161 [.agg (c194_dd a0)] (.agg (c114_oo r)) := by
 unfold laws_toTable at h
 refine st lit161 rfl (rn 3 rfl (rs (sp 2 rfl (?_))))
 obtain ⟨v1, g2, h⟩ := ob_some h
 exact qC (qa rfl (erg (erc rfl (erc (erD ec27_d _) rfl))) eran) (laws_toRelation_s g2) (sp 2 rfl (evn (rn 1 rfl (ls_ret ((by cases h; exact ⟨.inl rfl, rfl⟩))))))
def laws_toTableS_B1 (a0 : List Y193) (rec : ((List Y113) × Int) → Option ((List Y113))) (s : (List Y113) × Int) : Option ((List Y113)) := match s with
  | (y1, y2) => cond (decide (y2 < (List.length a0 : Int))) (obind (geti a0 y2) fun e7 => obind (laws_toTable e7) fun v9 => obind (geti y1 y2) fun e11 => rec ((seti y1 y2 v9), (IntKind.i64.wrap (y2 + 1)))) (some y1)
def laws_toTableS (a0 : List Y193) : Option ((List Y113)) := chk ((0 : Int) ≤ (List.length a0 : Int) ∧ Int.toNat (List.length a0 : Int) ≤ lim) (obind (loopF (laws_toTableS_B1 a0) fz ((List.replicate (Int.toNat (List.length a0 : Int)) (([], (0, [])) : Y113)), 0)) fun z3 => some z3)
theorem laws_toTableS_s {a0 : List Y193} {r : (List Y113)} (h : laws_toTableS a0 = some r) : SoundAt Tryz.prog 125 [dL c194_dd a0] (oL 114 c114_oo r) := by
 unfold laws_toTableS at h
 refine st lit125 rfl (rn 1 rfl (rs (sp 2 rfl (?_))))
 obtain ⟨g1, h⟩ := chk_some h
 refine qMu c114_oo (([], (0, [])) : Y113) rfl rfl rfl rfl g1 rfl (qAu rfl rfl rfl rfl (evn (ls_seq_k fun K2 hK2 => rn 1 rfl ?_)))
 obtain ⟨o1, hl, hr1⟩ := ob_some h
 have kXB1 : ∀ {z3 : List Y113}, z3 = o1 → Jn K2 [(3, wL 114 c114_oo z3)] := by
  intro z3 h σ' hk
  subst h
  replace h := hr1
  try dsimp only at h
  exact hK2 _ (lh hk rfl (rs (qTu rfl rfl rfl (sp 1 rfl (evn (ls_ret ((by cases h; exact ⟨.inl rfl, rfl⟩))))))))
 refine ls_rec (fun (s : (List Y113) × Int) => match s with | (y1, y2) => [(0, dL c194_dd a0), (3, wL 114 c114_oo y1), (4, nI y2)]) _ _ _ _ hl (okr rfl) (fun _ => rfl) ?_
 rintro m ⟨y1, y2⟩ N h hN
 unfold laws_toTableS_B1 at h
 dsimp only at h
 refine ls_seq_k fun K4 hK4 => rn 1 rfl ?_
 rcases cond_some h with ⟨g5, h⟩ | ⟨g5, h⟩
 ·refine qT rfl g5 (ls_skip (hK4 _ (ls_seq_k fun K6 hK6 => ls_blk (rg (sp 4 rfl (?_))))))
  obtain ⟨e7, g8, h⟩ := ob_some h
  refine qI rfl zc194_dd g8 (sp 1 rfl (?_))
  obtain ⟨v9, g10, h⟩ := ob_some h
  refine qC (qa rfl (erg (erc rfl (erc rfl (erc (erD ec27_d _) rfl)))) eran) (laws_toTable_s g10) (?_)
  obtain ⟨e11, g12, h⟩ := ob_some h
  exact qIu rfl ⟨(geti_some g12).1, (geti_some g12).2.1⟩ (qSu v9 rfl rfl zc114_oo ⟨(geti_some g12).1, (geti_some g12).2.1⟩ rfl rfl rfl rfl rfl rfl (evn (hK6 _ (rg (sp 3 rfl (evn (hN _ _ h (okr rfl))))))))
 ·exact qF rfl g5 (ls_exit (kXB1 (Option.some.inj h) _ (okr rfl)))
def laws_toDatabase (a0 : List Y193) : Option ((List Y113)) := obind (laws_toTableS a0) fun v1 => some v1
theorem laws_toDatabase_s {a0 : List Y193} {r : (List Y113)} (h : laws_toDatabase a0 = some r) : SoundAt Tryz.prog 90 [.agg [dL c194_dd a0]] (.agg [oL 114 c114_oo r]) := by
 unfold laws_toDatabase at h
 refine st lit90 rfl (rn 2 rfl (rs (sp 2 rfl (?_))))
 obtain ⟨v1, g2, h⟩ := ob_some h
 exact qC (qa rfl (erD ec194_dd _) eran) (laws_toTableS_s g2) (sp 2 rfl (evn (rn 1 rfl (ls_ret ((by cases h; exact ⟨.inl rfl, rfl⟩))))))
def laws_toDatabaseS_B1 (a0 : List (List Y193)) (rec : ((List (List Y113)) × Int) → Option ((List (List Y113)))) (s : (List (List Y113)) × Int) : Option ((List (List Y113))) := match s with
  | (y1, y2) => cond (decide (y2 < (List.length a0 : Int))) (obind (geti a0 y2) fun e7 => obind (laws_toDatabase e7) fun v9 => obind (geti y1 y2) fun e11 => rec ((seti y1 y2 v9), (IntKind.i64.wrap (y2 + 1)))) (some y1)
def laws_toDatabaseS (a0 : List (List Y193)) : Option ((List (List Y113))) := chk ((0 : Int) ≤ (List.length a0 : Int) ∧ Int.toNat (List.length a0 : Int) ≤ lim) (obind (loopF (laws_toDatabaseS_B1 a0) fz ((List.replicate (Int.toNat (List.length a0 : Int)) ([] : List Y113)), 0)) fun z3 => some z3)
theorem laws_toDatabaseS_s {a0 : List (List Y193)} {r : (List (List Y113))} (h : laws_toDatabaseS a0 = some r) : SoundAt Tryz.prog 51 [dL c132_ddd a0] (oL 77 c77_ooo r) := by
 unfold laws_toDatabaseS at h
 refine st lit51 rfl (rn 1 rfl (rs (sp 2 rfl (?_))))
 obtain ⟨g1, h⟩ := chk_some h
 refine qMu c77_ooo ([] : List Y113) rfl rfl rfl rfl g1 rfl (qAu rfl rfl rfl rfl (evn (ls_seq_k fun K2 hK2 => rn 1 rfl ?_)))
 obtain ⟨o1, hl, hr1⟩ := ob_some h
 have kXB1 : ∀ {z3 : List (List Y113)}, z3 = o1 → Jn K2 [(3, wL 77 c77_ooo z3)] := by
  intro z3 h σ' hk
  subst h
  replace h := hr1
  try dsimp only at h
  exact hK2 _ (lh hk rfl (rs (qTu rfl rfl rfl (sp 1 rfl (evn (ls_ret ((by cases h; exact ⟨.inl rfl, rfl⟩))))))))
 refine ls_rec (fun (s : (List (List Y113)) × Int) => match s with | (y1, y2) => [(0, dL c132_ddd a0), (3, wL 77 c77_ooo y1), (4, nI y2)]) _ _ _ _ hl (okr rfl) (fun _ => rfl) ?_
 rintro m ⟨y1, y2⟩ N h hN
 unfold laws_toDatabaseS_B1 at h
 dsimp only at h
 refine ls_seq_k fun K4 hK4 => rn 1 rfl ?_
 rcases cond_some h with ⟨g5, h⟩ | ⟨g5, h⟩
 ·refine qT rfl g5 (ls_skip (hK4 _ (ls_seq_k fun K6 hK6 => ls_blk (rg (sp 4 rfl (?_))))))
  obtain ⟨e7, g8, h⟩ := ob_some h
  refine qI rfl zc132_ddd g8 (sp 1 rfl (?_))
  obtain ⟨v9, g10, h⟩ := ob_some h
  refine qC (qa rfl (erg (erc (erD ec194_dd _) rfl)) eran) (laws_toDatabase_s g10) (?_)
  obtain ⟨e11, g12, h⟩ := ob_some h
  exact qIu rfl ⟨(geti_some g12).1, (geti_some g12).2.1⟩ (qSu v9 rfl rfl zc77_ooo ⟨(geti_some g12).1, (geti_some g12).2.1⟩ rfl rfl rfl rfl rfl rfl (evn (hK6 _ (rg (sp 3 rfl (evn (hN _ _ h (okr rfl))))))))
 ·exact qF rfl g5 (ls_exit (kXB1 (Option.some.inj h) _ (okr rfl)))
def laws_toHistory (a0 : Y53) : Option (Y25) := obind (laws_toDatabaseS a0.2) fun v1 => some (a0.1, v1)
theorem laws_toHistory_s {a0 : Y53} {r : Y25} (h : laws_toHistory a0 = some r) : SoundAt Tryz.prog 19 [.agg (c54_dddd a0)] (.agg (c26_oooo r)) := by
 unfold laws_toHistory at h
 refine st lit19 rfl (rn 3 rfl (rs (sp 2 rfl (?_))))
 obtain ⟨v1, g2, h⟩ := ob_some h
 exact qC (qa rfl (erD ec132_ddd _) eran) (laws_toDatabaseS_s g2) (sp 2 rfl (evn (rn 1 rfl (ls_ret ((by cases h; exact ⟨.inl rfl, rfl⟩))))))
def laws_toAtom (a0 : Y108) : Option (Y108) := obind (laws_toIntS a0.2) fun v1 => some (a0.1, v1)
theorem laws_toAtom_s {a0 : Y108} {r : Y108} (h : laws_toAtom a0 = some r) : SoundAt Tryz.prog 126 [.agg (c167_d a0)] (.agg (c109_o r)) := by
 unfold laws_toAtom at h
 refine st lit126 rfl (rn 3 rfl (rs (sp 2 rfl (?_))))
 obtain ⟨v1, g2, h⟩ := ob_some h
 exact qC (qa rfl (erD eci64 _) eran) (laws_toIntS_s g2) (sp 2 rfl (evn (rn 1 rfl (ls_ret ((by cases h; exact ⟨.inl rfl, rfl⟩))))))
def laws_toAtomS_B1 (a0 : List Y108) (rec : ((List Y108) × Int) → Option ((List Y108))) (s : (List Y108) × Int) : Option ((List Y108)) := match s with
  | (y1, y2) => cond (decide (y2 < (List.length a0 : Int))) (obind (geti a0 y2) fun e7 => obind (laws_toAtom e7) fun v9 => obind (geti y1 y2) fun e11 => rec ((seti y1 y2 v9), (IntKind.i64.wrap (y2 + 1)))) (some y1)
def laws_toAtomS (a0 : List Y108) : Option ((List Y108)) := chk ((0 : Int) ≤ (List.length a0 : Int) ∧ Int.toNat (List.length a0 : Int) ≤ lim) (obind (loopF (laws_toAtomS_B1 a0) fz ((List.replicate (Int.toNat (List.length a0 : Int)) (([], []) : Y108)), 0)) fun z3 => some z3)
theorem laws_toAtomS_s {a0 : List Y108} {r : (List Y108)} (h : laws_toAtomS a0 = some r) : SoundAt Tryz.prog 91 [dL c167_d a0] (oL 109 c109_o r) := by
 unfold laws_toAtomS at h
 refine st lit91 rfl (rn 1 rfl (rs (sp 2 rfl (?_))))
 obtain ⟨g1, h⟩ := chk_some h
 refine qMu c109_o (([], []) : Y108) rfl rfl rfl rfl g1 rfl (qAu rfl rfl rfl rfl (evn (ls_seq_k fun K2 hK2 => rn 1 rfl ?_)))
 obtain ⟨o1, hl, hr1⟩ := ob_some h
 have kXB1 : ∀ {z3 : List Y108}, z3 = o1 → Jn K2 [(3, wL 109 c109_o z3)] := by
  intro z3 h σ' hk
  subst h
  replace h := hr1
  try dsimp only at h
  exact hK2 _ (lh hk rfl (rs (qTu rfl rfl rfl (sp 1 rfl (evn (ls_ret ((by cases h; exact ⟨.inl rfl, rfl⟩))))))))
 refine ls_rec (fun (s : (List Y108) × Int) => match s with | (y1, y2) => [(0, dL c167_d a0), (3, wL 109 c109_o y1), (4, nI y2)]) _ _ _ _ hl (okr rfl) (fun _ => rfl) ?_
 rintro m ⟨y1, y2⟩ N h hN
 unfold laws_toAtomS_B1 at h
 dsimp only at h
 refine ls_seq_k fun K4 hK4 => rn 1 rfl ?_
 rcases cond_some h with ⟨g5, h⟩ | ⟨g5, h⟩
 ·refine qT rfl g5 (ls_skip (hK4 _ (ls_seq_k fun K6 hK6 => ls_blk (rg (sp 4 rfl (?_))))))
  obtain ⟨e7, g8, h⟩ := ob_some h
  refine qI rfl zc167_d g8 (sp 1 rfl (?_))
  obtain ⟨v9, g10, h⟩ := ob_some h
  refine qC (qa rfl (erg (erc rfl (erc (erD eci64 _) rfl))) eran) (laws_toAtom_s g10) (?_)
  obtain ⟨e11, g12, h⟩ := ob_some h
  exact qIu rfl ⟨(geti_some g12).1, (geti_some g12).2.1⟩ (qSu v9 rfl rfl zc109_o ⟨(geti_some g12).1, (geti_some g12).2.1⟩ rfl rfl rfl rfl rfl rfl (evn (hK6 _ (rg (sp 3 rfl (evn (hN _ _ h (okr rfl))))))))
 ·exact qF rfl g5 (ls_exit (kXB1 (Option.some.inj h) _ (okr rfl)))
def laws_toQuery (a0 : Y56) : Option (Y29) := obind (laws_toAtomS a0.2.1) fun v1 => obind (laws_toIntS a0.2.2) fun v3 => some (a0.1, v1, v3)
theorem laws_toQuery_s {a0 : Y56} {r : Y29} (h : laws_toQuery a0 = some r) : SoundAt Tryz.prog 53 [.agg (c57_ddd a0)] (.agg (c30_ooo r)) := by
 unfold laws_toQuery at h
 refine st lit53 rfl (rn 3 rfl (rs (sp 2 rfl (?_))))
 obtain ⟨v1, g2, h⟩ := ob_some h
 refine qC (qa rfl (erD ec167_d _) eran) (laws_toAtomS_s g2) (sp 2 rfl (evn (rs (sp 2 rfl (?_)))))
 obtain ⟨v3, g4, h⟩ := ob_some h
 exact qC (qa rfl (erD eci64 _) eran) (laws_toIntS_s g4) (sp 2 rfl (evn (rn 1 rfl (ls_ret ((by cases h; exact ⟨.inl rfl, rfl⟩))))))
def laws_toCursor (a0 : Y58) : Option (Y31) := obind (laws_toIntS a0.2.1) fun v1 => obind (laws_toIntS a0.2.2.1) fun v3 => obind (laws_toQuery a0.2.2.2) fun v5 => some (a0.1, v1, v3, v5)
theorem laws_toCursor_s {a0 : Y58} {r : Y31} (h : laws_toCursor a0 = some r) : SoundAt Tryz.prog 20 [.agg (c59_ddddd a0)] (.agg (c32_ooooo r)) := by
 unfold laws_toCursor at h
 refine st lit20 rfl (rn 3 rfl (rs (sp 2 rfl (?_))))
 obtain ⟨v1, g2, h⟩ := ob_some h
 refine qC (qa rfl (erD eci64 _) eran) (laws_toIntS_s g2) (sp 2 rfl (evn (rs (sp 2 rfl (?_)))))
 obtain ⟨v3, g4, h⟩ := ob_some h
 refine qC (qa rfl (erD eci64 _) eran) (laws_toIntS_s g4) (sp 2 rfl (evn (rs (sp 2 rfl (?_)))))
 obtain ⟨v5, g6, h⟩ := ob_some h
 exact qC (qa rfl (erg (erc rfl (erc (erD ec167_d _) (erc (erD eci64 _) rfl)))) eran) (laws_toQuery_s g6) (sp 2 rfl (evn (rn 1 rfl (ls_ret ((by cases h; exact ⟨.inl rfl, rfl⟩))))))
def laws_eqIntS_B1 (a0 : List Int) (a1 : List Int) (rec : Int → Option (Sum (Unit) (Bool))) (y1 : Int) : Option (Sum (Unit) (Bool)) := cond (decide (y1 < (List.length a0 : Int))) (obind (geti a0 y1) fun e7 => obind (geti a1 y1) fun e9 => cond (e7 != e9) (some (.inr false)) (rec (IntKind.i64.wrap (y1 + 1)))) (some (.inl ()))
def laws_eqIntS (a0 : List Int) (a1 : List Int) : Option (Bool) := cond ((List.length a0 : Int) != (List.length a1 : Int)) (some false) (obind (loopF (laws_eqIntS_B1 a0 a1) fz 0) fun o1 => (match o1 with
  | .inl _ => (some true)
  | .inr r => some r))
theorem laws_eqIntS_s {a0 : List Int} {a1 : List Int} {r : Bool} (h : laws_eqIntS a0 a1 = some r) : SoundAt Tryz.prog 22 [dL ci64 a0, dL ci64 a1] (.bool r) := by
 unfold laws_eqIntS at h
 refine st lit22 rfl (rn 1 rfl (ls_seq_k fun K1 hK1 => rn 1 rfl ?_))
 rcases cond_some h with ⟨g2, h⟩ | ⟨g2, h⟩
 ·exact qT rfl g2 (rn 1 rfl (ls_ret ((by cases h; exact ⟨.inl rfl, rfl⟩))))
 ·refine qF rfl g2 (ls_skip (hK1 _ (ls_seq_k fun K3 hK3 => rn 1 rfl ?_)))
  obtain ⟨o1, hl, hr1⟩ := ob_some h
  have kXB1 : (.inl ()) = o1 → Jn K3 [] := by
   intro h σ' hk
   subst h
   replace h := hr1
   try dsimp only at h
   exact hK3 _ (lh hk rfl (rn 1 rfl (ls_ret ((by cases h; exact ⟨.inl rfl, rfl⟩)))))
  refine ls_rec (fun (y1 : Int) => [(0, dL ci64 a0), (1, dL ci64 a1), (5, nI y1)]) _ _ _ _ hl (okr rfl) (fun _ => rfl) ?_
  rintro m y1 N h hN
  unfold laws_eqIntS_B1 at h
  refine ls_seq_k fun K4 hK4 => rn 1 rfl ?_
  rcases cond_some h with ⟨g5, h⟩ | ⟨g5, h⟩
  ·refine qT rfl g5 (ls_skip (hK4 _ (ls_seq_k fun K6 hK6 => ls_blk (rd (by kernel_rfl) (sd 2 rfl (?_))))))
   obtain ⟨e7, g8, h⟩ := ob_some h
   refine ed rfl (qI rfl zci64 g8 (sd 3 rfl (?_)))
   obtain ⟨e9, g10, h⟩ := ob_some h
   refine ed rfl (qI rfl zci64 g10 (sd 2 rfl (evdn ?_)))
   rcases cond_some h with ⟨g11, h⟩ | ⟨g11, h⟩
   ·exact qT rfl g11 (rn 1 rfl (ls_ret ((by cases h; cases hr1; exact ⟨.inl rfl, rfl⟩))))
   ·exact qF rfl g11 (ls_skip (hK6 _ (rg (sp 3 rfl (evn (hN _ _ h (okr rfl)))))))
  ·exact qF rfl g5 (ls_exit (kXB1 (Option.some.inj h) _ trivial))
def laws_eqAtom (a0 : Y108) (a1 : Y108) : Option (Bool) := cond (!(a0.1 == a1.1)) (some false) (obind (laws_eqIntS a0.2 a1.2) fun v4 => cond (!v4) (some false) (some true))
theorem laws_eqAtom_s {a0 : Y108} {a1 : Y108} {r : Bool} (h : laws_eqAtom a0 a1 = some r) : SoundAt Tryz.prog 127 [.agg (c109_d a0), .agg (c109_d a1)] (.bool r) := by
 unfold laws_eqAtom at h
 refine st lit127 rfl (rn 1 rfl (ls_seq_k fun K1 hK1 => rn 1 rfl ?_))
 rcases cond_some h with ⟨g2, h⟩ | ⟨g2, h⟩
 ·exact qT rfl g2 (rn 1 rfl (ls_ret ((by cases h; exact ⟨.inl rfl, rfl⟩))))
 ·refine qF rfl g2 (ls_skip (hK1 _ (ls_seq_k fun K3 hK3 => rs (sp 4 rfl (?_)))))
  obtain ⟨v4, g5, h⟩ := ob_some h
  refine qC (qa rfl (erD eci64 _) (qa rfl (erD eci64 _) eran)) (laws_eqIntS_s g5) (sp 1 rfl (evn ?_))
  rcases cond_some h with ⟨g6, h⟩ | ⟨g6, h⟩
  ·exact qT rfl g6 (rn 1 rfl (ls_ret ((by cases h; exact ⟨.inl rfl, rfl⟩))))
  ·exact qF rfl g6 (ls_skip (hK3 _ (rn 1 rfl (qk [4] rfl (ls_ret ((by cases h; exact ⟨.inl rfl, rfl⟩)))))))
def laws_eqAtomS_B1 (a0 : List Y108) (a1 : List Y108) (rec : Int → Option (Sum (Unit) (Bool))) (y1 : Int) : Option (Sum (Unit) (Bool)) := cond (decide (y1 < (List.length a0 : Int))) (obind (geti a0 y1) fun e7 => obind (geti a1 y1) fun e9 => obind (laws_eqAtom e7 e9) fun v11 => cond (!v11) (some (.inr false)) (rec (IntKind.i64.wrap (y1 + 1)))) (some (.inl ()))
def laws_eqAtomS (a0 : List Y108) (a1 : List Y108) : Option (Bool) := cond ((List.length a0 : Int) != (List.length a1 : Int)) (some false) (obind (loopF (laws_eqAtomS_B1 a0 a1) fz 0) fun o1 => (match o1 with
  | .inl _ => (some true)
  | .inr r => some r))
theorem laws_eqAtomS_s {a0 : List Y108} {a1 : List Y108} {r : Bool} (h : laws_eqAtomS a0 a1 = some r) : SoundAt Tryz.prog 92 [dL c109_d a0, dL c109_d a1] (.bool r) := by
 unfold laws_eqAtomS at h
 refine st lit92 rfl (rn 1 rfl (ls_seq_k fun K1 hK1 => rn 1 rfl ?_))
 rcases cond_some h with ⟨g2, h⟩ | ⟨g2, h⟩
 ·exact qT rfl g2 (rn 1 rfl (ls_ret ((by cases h; exact ⟨.inl rfl, rfl⟩))))
 ·refine qF rfl g2 (ls_skip (hK1 _ (ls_seq_k fun K3 hK3 => rn 1 rfl ?_)))
  obtain ⟨o1, hl, hr1⟩ := ob_some h
  have kXB1 : (.inl ()) = o1 → Jn K3 [] := by
   intro h σ' hk
   subst h
   replace h := hr1
   try dsimp only at h
   exact hK3 _ (lh hk rfl (rn 1 rfl (ls_ret ((by cases h; exact ⟨.inl rfl, rfl⟩)))))
  refine ls_rec (fun (y1 : Int) => [(0, dL c109_d a0), (1, dL c109_d a1), (5, nI y1)]) _ _ _ _ hl (okr rfl) (fun _ => rfl) ?_
  rintro m y1 N h hN
  unfold laws_eqAtomS_B1 at h
  refine ls_seq_k fun K4 hK4 => rn 1 rfl ?_
  rcases cond_some h with ⟨g5, h⟩ | ⟨g5, h⟩
  ·refine qT rfl g5 (ls_skip (hK4 _ (ls_seq_k fun K6 hK6 => ls_blk (rd (by kernel_rfl) (sd 2 rfl (?_))))))
   obtain ⟨e7, g8, h⟩ := ob_some h
   refine ed rfl (qI rfl zc109_d g8 (sd 3 rfl (?_)))
   obtain ⟨e9, g10, h⟩ := ob_some h
   refine ed rfl (qI rfl zc109_d g10 (sd 1 rfl (?_)))
   obtain ⟨v11, g12, h⟩ := ob_some h
   refine ed rfl (qC (qa rfl (erg (erc rfl (erc (erD eci64 _) rfl))) (qa rfl (erg (erc rfl (erc (erD eci64 _) rfl))) eran)) (laws_eqAtom_s g12) (sd 1 rfl (evdn ?_)))
   rcases cond_some h with ⟨g13, h⟩ | ⟨g13, h⟩
   ·exact qT rfl g13 (rn 1 rfl (ls_ret ((by cases h; cases hr1; exact ⟨.inl rfl, rfl⟩))))
   ·exact qF rfl g13 (ls_skip (hK6 _ (rg (sp 3 rfl (evn (hN _ _ h (okr rfl)))))))
  ·exact qF rfl g5 (ls_exit (kXB1 (Option.some.inj h) _ trivial))
def laws_eqQuery (a0 : Y29) (a1 : Y29) : Option (Bool) := cond (a0.1 != a1.1) (some false) (obind (laws_eqAtomS a0.2.1 a1.2.1) fun v4 => cond (!v4) (some false) (obind (laws_eqIntS a0.2.2 a1.2.2) fun v8 => cond (!v8) (some false) (some true)))
theorem laws_eqQuery_s {a0 : Y29} {a1 : Y29} {r : Bool} (h : laws_eqQuery a0 a1 = some r) : SoundAt Tryz.prog 54 [.agg (c30_ddd a0), .agg (c30_ddd a1)] (.bool r) := by
 unfold laws_eqQuery at h
 refine st lit54 rfl (rn 1 rfl (ls_seq_k fun K1 hK1 => rn 1 rfl ?_))
 rcases cond_some h with ⟨g2, h⟩ | ⟨g2, h⟩
 ·exact qT rfl g2 (rn 1 rfl (ls_ret ((by cases h; exact ⟨.inl rfl, rfl⟩))))
 ·refine qF rfl g2 (ls_skip (hK1 _ (ls_seq_k fun K3 hK3 => rs (sp 4 rfl (?_)))))
  obtain ⟨v4, g5, h⟩ := ob_some h
  refine qC (qa rfl (erD ec109_d _) (qa rfl (erD ec109_d _) eran)) (laws_eqAtomS_s g5) (sp 1 rfl (evn ?_))
  rcases cond_some h with ⟨g6, h⟩ | ⟨g6, h⟩
  ·exact qT rfl g6 (rn 1 rfl (ls_ret ((by cases h; exact ⟨.inl rfl, rfl⟩))))
  ·refine qF rfl g6 (ls_skip (hK3 _ (ls_seq_k fun K7 hK7 => rs (sp 4 rfl (?_)))))
   obtain ⟨v8, g9, h⟩ := ob_some h
   refine qC (qa rfl (erD eci64 _) (qa rfl (erD eci64 _) eran)) (laws_eqIntS_s g9) (sp 1 rfl (evn (qk [21] rfl ?_)))
   rcases cond_some h with ⟨g10, h⟩ | ⟨g10, h⟩
   ·exact qT rfl g10 (rn 1 rfl (ls_ret ((by cases h; exact ⟨.inl rfl, rfl⟩))))
   ·exact qF rfl g10 (ls_skip (hK7 _ (rn 1 rfl (ls_ret ((by cases h; exact ⟨.inl rfl, rfl⟩))))))
def laws_eqCursor (a0 : Y31) (a1 : Y31) : Option (Bool) := cond (a0.1 != a1.1) (some false) (obind (laws_eqIntS a0.2.1 a1.2.1) fun v4 => cond (!v4) (some false) (obind (laws_eqIntS a0.2.2.1 a1.2.2.1) fun v8 => cond (!v8) (some false) (obind (laws_eqQuery a0.2.2.2 a1.2.2.2) fun v12 => cond (!v12) (some false) (some true))))
theorem laws_eqCursor_s {a0 : Y31} {a1 : Y31} {r : Bool} (h : laws_eqCursor a0 a1 = some r) : SoundAt Tryz.prog 21 [.agg (c32_ddddd a0), .agg (c32_ddddd a1)] (.bool r) := by
 unfold laws_eqCursor at h
 refine st lit21 rfl (rn 1 rfl (ls_seq_k fun K1 hK1 => rn 1 rfl ?_))
 rcases cond_some h with ⟨g2, h⟩ | ⟨g2, h⟩
 ·exact qT rfl g2 (rn 1 rfl (ls_ret ((by cases h; exact ⟨.inl rfl, rfl⟩))))
 ·refine qF rfl g2 (ls_skip (hK1 _ (ls_seq_k fun K3 hK3 => rs (sp 4 rfl (?_)))))
  obtain ⟨v4, g5, h⟩ := ob_some h
  refine qC (qa rfl (erD eci64 _) (qa rfl (erD eci64 _) eran)) (laws_eqIntS_s g5) (sp 1 rfl (evn ?_))
  rcases cond_some h with ⟨g6, h⟩ | ⟨g6, h⟩
  ·exact qT rfl g6 (rn 1 rfl (ls_ret ((by cases h; exact ⟨.inl rfl, rfl⟩))))
  ·refine qF rfl g6 (ls_skip (hK3 _ (ls_seq_k fun K7 hK7 => rs (sp 4 rfl (?_)))))
   obtain ⟨v8, g9, h⟩ := ob_some h
   refine qC (qa rfl (erD eci64 _) (qa rfl (erD eci64 _) eran)) (laws_eqIntS_s g9) (sp 1 rfl (evn (qk [2, 3, 21] rfl ?_)))
   rcases cond_some h with ⟨g10, h⟩ | ⟨g10, h⟩
   ·exact qT rfl g10 (rn 1 rfl (ls_ret ((by cases h; exact ⟨.inl rfl, rfl⟩))))
   ·refine qF rfl g10 (ls_skip (hK7 _ (ls_seq_k fun K11 hK11 => rs (sp 4 rfl (?_)))))
    obtain ⟨v12, g13, h⟩ := ob_some h
    refine qC (qa rfl (erg (erc rfl (erc (erD ec109_d _) (erc (erD eci64 _) rfl)))) (qa rfl (erg (erc rfl (erc (erD ec109_d _) (erc (erD eci64 _) rfl)))) eran)) (laws_eqQuery_s g13) (sp 1 rfl (evn ?_))
    rcases cond_some h with ⟨g14, h⟩ | ⟨g14, h⟩
    ·exact qT rfl g14 (rn 1 rfl (ls_ret ((by cases h; exact ⟨.inl rfl, rfl⟩))))
    ·exact qF rfl g14 (ls_skip (hK11 _ (rn 1 rfl (ls_ret ((by cases h; exact ⟨.inl rfl, rfl⟩))))))
def laws_eqIntSS_B1 (a0 : List (List Int)) (a1 : List (List Int)) (rec : Int → Option (Sum (Unit) (Bool))) (y1 : Int) : Option (Sum (Unit) (Bool)) := cond (decide (y1 < (List.length a0 : Int))) (obind (geti a0 y1) fun e7 => obind (geti a1 y1) fun e9 => obind (laws_eqIntS e7 e9) fun v11 => cond (!v11) (some (.inr false)) (rec (IntKind.i64.wrap (y1 + 1)))) (some (.inl ()))
def laws_eqIntSS (a0 : List (List Int)) (a1 : List (List Int)) : Option (Bool) := cond ((List.length a0 : Int) != (List.length a1 : Int)) (some false) (obind (loopF (laws_eqIntSS_B1 a0 a1) fz 0) fun o1 => (match o1 with
  | .inl _ => (some true)
  | .inr r => some r))
theorem laws_eqIntSS_s {a0 : List (List Int)} {a1 : List (List Int)} {r : Bool} (h : laws_eqIntSS a0 a1 = some r) : SoundAt Tryz.prog 196 [dL c27_d a0, dL c27_d a1] (.bool r) := by
 unfold laws_eqIntSS at h
 refine st lit196 rfl (rn 1 rfl (ls_seq_k fun K1 hK1 => rn 1 rfl ?_))
 rcases cond_some h with ⟨g2, h⟩ | ⟨g2, h⟩
 ·exact qT rfl g2 (rn 1 rfl (ls_ret ((by cases h; exact ⟨.inl rfl, rfl⟩))))
 ·refine qF rfl g2 (ls_skip (hK1 _ (ls_seq_k fun K3 hK3 => rn 1 rfl ?_)))
  obtain ⟨o1, hl, hr1⟩ := ob_some h
  have kXB1 : (.inl ()) = o1 → Jn K3 [] := by
   intro h σ' hk
   subst h
   replace h := hr1
   try dsimp only at h
   exact hK3 _ (lh hk rfl (rn 1 rfl (ls_ret ((by cases h; exact ⟨.inl rfl, rfl⟩)))))
  refine ls_rec (fun (y1 : Int) => [(0, dL c27_d a0), (1, dL c27_d a1), (5, nI y1)]) _ _ _ _ hl (okr rfl) (fun _ => rfl) ?_
  rintro m y1 N h hN
  unfold laws_eqIntSS_B1 at h
  refine ls_seq_k fun K4 hK4 => rn 1 rfl ?_
  rcases cond_some h with ⟨g5, h⟩ | ⟨g5, h⟩
  ·refine qT rfl g5 (ls_skip (hK4 _ (ls_seq_k fun K6 hK6 => ls_blk (rd (by kernel_rfl) (sd 2 rfl (?_))))))
   obtain ⟨e7, g8, h⟩ := ob_some h
   refine ed rfl (qI rfl zc27_d g8 (sd 3 rfl (?_)))
   obtain ⟨e9, g10, h⟩ := ob_some h
   refine ed rfl (qI rfl zc27_d g10 (sd 1 rfl (?_)))
   obtain ⟨v11, g12, h⟩ := ob_some h
   refine ed rfl (qC (qa rfl (erD eci64 _) (qa rfl (erD eci64 _) eran)) (laws_eqIntS_s g12) (sd 1 rfl (evdn ?_)))
   rcases cond_some h with ⟨g13, h⟩ | ⟨g13, h⟩
   ·exact qT rfl g13 (rn 1 rfl (ls_ret ((by cases h; cases hr1; exact ⟨.inl rfl, rfl⟩))))
   ·exact qF rfl g13 (ls_skip (hK6 _ (rg (sp 3 rfl (evn (hN _ _ h (okr rfl)))))))
  ·exact qF rfl g5 (ls_exit (kXB1 (Option.some.inj h) _ trivial))
def laws_eqRelation (a0 : Y40) (a1 : Y40) : Option (Bool) := cond (a0.1 != a1.1) (some false) (obind (laws_eqIntSS a0.2 a1.2) fun v4 => cond (!v4) (some false) (some true))
theorem laws_eqRelation_s {a0 : Y40} {a1 : Y40} {r : Bool} (h : laws_eqRelation a0 a1 = some r) : SoundAt Tryz.prog 185 [.agg (c41_dd a0), .agg (c41_dd a1)] (.bool r) := by
 unfold laws_eqRelation at h
 refine st lit185 rfl (rn 1 rfl (ls_seq_k fun K1 hK1 => rn 1 rfl ?_))
 rcases cond_some h with ⟨g2, h⟩ | ⟨g2, h⟩
 ·exact qT rfl g2 (rn 1 rfl (ls_ret ((by cases h; exact ⟨.inl rfl, rfl⟩))))
 ·refine qF rfl g2 (ls_skip (hK1 _ (ls_seq_k fun K3 hK3 => rs (sp 4 rfl (?_)))))
  obtain ⟨v4, g5, h⟩ := ob_some h
  refine qC (qa rfl (erD ec27_d _) (qa rfl (erD ec27_d _) eran)) (laws_eqIntSS_s g5) (sp 1 rfl (evn ?_))
  rcases cond_some h with ⟨g6, h⟩ | ⟨g6, h⟩
  ·exact qT rfl g6 (rn 1 rfl (ls_ret ((by cases h; exact ⟨.inl rfl, rfl⟩))))
  ·exact qF rfl g6 (ls_skip (hK3 _ (rn 1 rfl (qk [4] rfl (ls_ret ((by cases h; exact ⟨.inl rfl, rfl⟩)))))))
def laws_eqTable (a0 : Y113) (a1 : Y113) : Option (Bool) := cond (!(a0.1 == a1.1)) (some false) (obind (laws_eqRelation a0.2 a1.2) fun v4 => cond (!v4) (some false) (some true))
theorem laws_eqTable_s {a0 : Y113} {a1 : Y113} {r : Bool} (h : laws_eqTable a0 a1 = some r) : SoundAt Tryz.prog 162 [.agg (c114_dd a0), .agg (c114_dd a1)] (.bool r) := by
 unfold laws_eqTable at h
 refine st lit162 rfl (rn 1 rfl (ls_seq_k fun K1 hK1 => rn 1 rfl ?_))
 rcases cond_some h with ⟨g2, h⟩ | ⟨g2, h⟩
 ·exact qT rfl g2 (rn 1 rfl (ls_ret ((by cases h; exact ⟨.inl rfl, rfl⟩))))
 ·refine qF rfl g2 (ls_skip (hK1 _ (ls_seq_k fun K3 hK3 => rs (sp 4 rfl (?_)))))
  obtain ⟨v4, g5, h⟩ := ob_some h
  refine qC (qa rfl (erg (erc rfl (erc (erD ec27_d _) rfl))) (qa rfl (erg (erc rfl (erc (erD ec27_d _) rfl))) eran)) (laws_eqRelation_s g5) (sp 1 rfl (evn ?_))
  rcases cond_some h with ⟨g6, h⟩ | ⟨g6, h⟩
  ·exact qT rfl g6 (rn 1 rfl (ls_ret ((by cases h; exact ⟨.inl rfl, rfl⟩))))
  ·exact qF rfl g6 (ls_skip (hK3 _ (rn 1 rfl (qk [4] rfl (ls_ret ((by cases h; exact ⟨.inl rfl, rfl⟩)))))))
def laws_eqTableS_B1 (a0 : List Y113) (a1 : List Y113) (rec : Int → Option (Sum (Unit) (Bool))) (y1 : Int) : Option (Sum (Unit) (Bool)) := cond (decide (y1 < (List.length a0 : Int))) (obind (geti a0 y1) fun e7 => obind (geti a1 y1) fun e9 => obind (laws_eqTable e7 e9) fun v11 => cond (!v11) (some (.inr false)) (rec (IntKind.i64.wrap (y1 + 1)))) (some (.inl ()))
def laws_eqTableS (a0 : List Y113) (a1 : List Y113) : Option (Bool) := cond ((List.length a0 : Int) != (List.length a1 : Int)) (some false) (obind (loopF (laws_eqTableS_B1 a0 a1) fz 0) fun o1 => (match o1 with
  | .inl _ => (some true)
  | .inr r => some r))
theorem laws_eqTableS_s {a0 : List Y113} {a1 : List Y113} {r : Bool} (h : laws_eqTableS a0 a1 = some r) : SoundAt Tryz.prog 128 [dL c114_dd a0, dL c114_dd a1] (.bool r) := by
 unfold laws_eqTableS at h
 refine st lit128 rfl (rn 1 rfl (ls_seq_k fun K1 hK1 => rn 1 rfl ?_))
 rcases cond_some h with ⟨g2, h⟩ | ⟨g2, h⟩
 ·exact qT rfl g2 (rn 1 rfl (ls_ret ((by cases h; exact ⟨.inl rfl, rfl⟩))))
 ·refine qF rfl g2 (ls_skip (hK1 _ (ls_seq_k fun K3 hK3 => rn 1 rfl ?_)))
  obtain ⟨o1, hl, hr1⟩ := ob_some h
  have kXB1 : (.inl ()) = o1 → Jn K3 [] := by
   intro h σ' hk
   subst h
   replace h := hr1
   try dsimp only at h
   exact hK3 _ (lh hk rfl (rn 1 rfl (ls_ret ((by cases h; exact ⟨.inl rfl, rfl⟩)))))
  refine ls_rec (fun (y1 : Int) => [(0, dL c114_dd a0), (1, dL c114_dd a1), (5, nI y1)]) _ _ _ _ hl (okr rfl) (fun _ => rfl) ?_
  rintro m y1 N h hN
  unfold laws_eqTableS_B1 at h
  refine ls_seq_k fun K4 hK4 => rn 1 rfl ?_
  rcases cond_some h with ⟨g5, h⟩ | ⟨g5, h⟩
  ·refine qT rfl g5 (ls_skip (hK4 _ (ls_seq_k fun K6 hK6 => ls_blk (rd (by kernel_rfl) (sd 2 rfl (?_))))))
   obtain ⟨e7, g8, h⟩ := ob_some h
   refine ed rfl (qI rfl zc114_dd g8 (sd 3 rfl (?_)))
   obtain ⟨e9, g10, h⟩ := ob_some h
   refine ed rfl (qI rfl zc114_dd g10 (sd 1 rfl (?_)))
   obtain ⟨v11, g12, h⟩ := ob_some h
   refine ed rfl (qC (qa rfl (erg (erc rfl (erc rfl (erc (erD ec27_d _) rfl)))) (qa rfl (erg (erc rfl (erc rfl (erc (erD ec27_d _) rfl)))) eran)) (laws_eqTable_s g12) (sd 1 rfl (evdn ?_)))
   rcases cond_some h with ⟨g13, h⟩ | ⟨g13, h⟩
   ·exact qT rfl g13 (rn 1 rfl (ls_ret ((by cases h; cases hr1; exact ⟨.inl rfl, rfl⟩))))
   ·exact qF rfl g13 (ls_skip (hK6 _ (rg (sp 3 rfl (evn (hN _ _ h (okr rfl)))))))
  ·exact qF rfl g5 (ls_exit (kXB1 (Option.some.inj h) _ trivial))
def laws_eqDatabase (a0 : List Y113) (a1 : List Y113) : Option (Bool) := obind (laws_eqTableS a0 a1) fun v2 => cond (!v2) (some false) (some true)
theorem laws_eqDatabase_s {a0 : List Y113} {a1 : List Y113} {r : Bool} (h : laws_eqDatabase a0 a1 = some r) : SoundAt Tryz.prog 93 [.agg [dL c114_dd a0], .agg [dL c114_dd a1]] (.bool r) := by
 unfold laws_eqDatabase at h
 refine st lit93 rfl (rn 1 rfl (ls_seq_k fun K1 hK1 => rs (sp 4 rfl (?_))))
 obtain ⟨v2, g3, h⟩ := ob_some h
 refine qC (qa rfl (erD ec114_dd _) (qa rfl (erD ec114_dd _) eran)) (laws_eqTableS_s g3) (sp 1 rfl (evn ?_))
 rcases cond_some h with ⟨g4, h⟩ | ⟨g4, h⟩
 ·exact qT rfl g4 (rn 1 rfl (ls_ret ((by cases h; exact ⟨.inl rfl, rfl⟩))))
 ·exact qF rfl g4 (ls_skip (hK1 _ (rn 1 rfl (ls_ret ((by cases h; exact ⟨.inl rfl, rfl⟩))))))
def laws_eqDatabaseS_B1 (a0 : List (List Y113)) (a1 : List (List Y113)) (rec : Int → Option (Sum (Unit) (Bool))) (y1 : Int) : Option (Sum (Unit) (Bool)) := cond (decide (y1 < (List.length a0 : Int))) (obind (geti a0 y1) fun e7 => obind (geti a1 y1) fun e9 => obind (laws_eqDatabase e7 e9) fun v11 => cond (!v11) (some (.inr false)) (rec (IntKind.i64.wrap (y1 + 1)))) (some (.inl ()))
def laws_eqDatabaseS (a0 : List (List Y113)) (a1 : List (List Y113)) : Option (Bool) := cond ((List.length a0 : Int) != (List.length a1 : Int)) (some false) (obind (loopF (laws_eqDatabaseS_B1 a0 a1) fz 0) fun o1 => (match o1 with
  | .inl _ => (some true)
  | .inr r => some r))
theorem laws_eqDatabaseS_s {a0 : List (List Y113)} {a1 : List (List Y113)} {r : Bool} (h : laws_eqDatabaseS a0 a1 = some r) : SoundAt Tryz.prog 55 [dL c77_ddd a0, dL c77_ddd a1] (.bool r) := by
 unfold laws_eqDatabaseS at h
 refine st lit55 rfl (rn 1 rfl (ls_seq_k fun K1 hK1 => rn 1 rfl ?_))
 rcases cond_some h with ⟨g2, h⟩ | ⟨g2, h⟩
 ·exact qT rfl g2 (rn 1 rfl (ls_ret ((by cases h; exact ⟨.inl rfl, rfl⟩))))
 ·refine qF rfl g2 (ls_skip (hK1 _ (ls_seq_k fun K3 hK3 => rn 1 rfl ?_)))
  obtain ⟨o1, hl, hr1⟩ := ob_some h
  have kXB1 : (.inl ()) = o1 → Jn K3 [] := by
   intro h σ' hk
   subst h
   replace h := hr1
   try dsimp only at h
   exact hK3 _ (lh hk rfl (rn 1 rfl (ls_ret ((by cases h; exact ⟨.inl rfl, rfl⟩)))))
  refine ls_rec (fun (y1 : Int) => [(0, dL c77_ddd a0), (1, dL c77_ddd a1), (5, nI y1)]) _ _ _ _ hl (okr rfl) (fun _ => rfl) ?_
  rintro m y1 N h hN
  unfold laws_eqDatabaseS_B1 at h
  refine ls_seq_k fun K4 hK4 => rn 1 rfl ?_
  rcases cond_some h with ⟨g5, h⟩ | ⟨g5, h⟩
  ·refine qT rfl g5 (ls_skip (hK4 _ (ls_seq_k fun K6 hK6 => ls_blk (rd (by kernel_rfl) (sd 2 rfl (?_))))))
   obtain ⟨e7, g8, h⟩ := ob_some h
   refine ed rfl (qI rfl zc77_ddd g8 (sd 3 rfl (?_)))
   obtain ⟨e9, g10, h⟩ := ob_some h
   refine ed rfl (qI rfl zc77_ddd g10 (sd 1 rfl (?_)))
   obtain ⟨v11, g12, h⟩ := ob_some h
   refine ed rfl (qC (qa rfl (erg (erc (erD ec114_dd _) rfl)) (qa rfl (erg (erc (erD ec114_dd _) rfl)) eran)) (laws_eqDatabase_s g12) (sd 1 rfl (evdn ?_)))
   rcases cond_some h with ⟨g13, h⟩ | ⟨g13, h⟩
   ·exact qT rfl g13 (rn 1 rfl (ls_ret ((by cases h; cases hr1; exact ⟨.inl rfl, rfl⟩))))
   ·exact qF rfl g13 (ls_skip (hK6 _ (rg (sp 3 rfl (evn (hN _ _ h (okr rfl)))))))
  ·exact qF rfl g5 (ls_exit (kXB1 (Option.some.inj h) _ trivial))
def laws_eqHistory (a0 : Y25) (a1 : Y25) : Option (Bool) := cond (a0.1 != a1.1) (some false) (obind (laws_eqDatabaseS a0.2 a1.2) fun v4 => cond (!v4) (some false) (some true))
theorem laws_eqHistory_s {a0 : Y25} {a1 : Y25} {r : Bool} (h : laws_eqHistory a0 a1 = some r) : SoundAt Tryz.prog 23 [.agg (c26_dddd a0), .agg (c26_dddd a1)] (.bool r) := by
 unfold laws_eqHistory at h
 refine st lit23 rfl (rn 1 rfl (ls_seq_k fun K1 hK1 => rn 1 rfl ?_))
 rcases cond_some h with ⟨g2, h⟩ | ⟨g2, h⟩
 ·exact qT rfl g2 (rn 1 rfl (ls_ret ((by cases h; exact ⟨.inl rfl, rfl⟩))))
 ·refine qF rfl g2 (ls_skip (hK1 _ (ls_seq_k fun K3 hK3 => rs (sp 4 rfl (?_)))))
  obtain ⟨v4, g5, h⟩ := ob_some h
  refine qC (qa rfl (erD ec77_ddd _) (qa rfl (erD ec77_ddd _) eran)) (laws_eqDatabaseS_s g5) (sp 1 rfl (evn ?_))
  rcases cond_some h with ⟨g6, h⟩ | ⟨g6, h⟩
  ·exact qT rfl g6 (rn 1 rfl (ls_ret ((by cases h; exact ⟨.inl rfl, rfl⟩))))
  ·exact qF rfl g6 (ls_skip (hK3 _ (rn 1 rfl (qk [4] rfl (ls_ret ((by cases h; exact ⟨.inl rfl, rfl⟩)))))))
def laws_heldIntS_B1 (a0 : List Int) (rec : (Int × Int) → Option (Sum (Int) (Int))) (s : Int × Int) : Option (Sum (Int) (Int)) := match s with
  | (y1, y2) => cond (decide (y2 < (List.length a0 : Int))) (obind (geti a0 y2) fun e7 => cond (e7 != y1) (some (.inr (-1))) (rec ((IntKind.i64.wrap (y1 + 1)), (IntKind.i64.wrap (y2 + 1))))) (some (.inl y1))
def laws_heldIntS (a0 : List Int) (a1 : Int) : Option (Int) := obind (loopF (laws_heldIntS_B1 a0) fz (a1, 0)) fun o1 => (match o1 with
  | .inl z2 => (some z2)
  | .inr r => some r)
theorem laws_heldIntS_s {a0 : List Int} {a1 : Int} {r : Int} (h : laws_heldIntS a0 a1 = some r) : SoundAt Tryz.prog 28 [dL ci64 a0, nI a1] (nI r) := by
 unfold laws_heldIntS at h
 refine st lit28 rfl (rn 1 rfl (ls_seq_k fun K1 hK1 => rn 1 rfl ?_))
 obtain ⟨o1, hl, hr1⟩ := ob_some h
 have kXB1 : ∀ {z2 : Int}, (.inl z2) = o1 → Jn K1 [(1, nI z2)] := by
  intro z2 h σ' hk
  subst h
  replace h := hr1
  try dsimp only at h
  exact hK1 _ (lh hk rfl (rn 1 rfl (ls_ret ((by cases h; exact ⟨.inl rfl, rfl⟩)))))
 refine ls_rec (fun (s : Int × Int) => match s with | (y1, y2) => [(0, dL ci64 a0), (1, nI y1), (5, nI y2)]) _ _ _ _ hl (okr rfl) (fun _ => rfl) ?_
 rintro m ⟨y1, y2⟩ N h hN
 unfold laws_heldIntS_B1 at h
 dsimp only at h
 refine ls_seq_k fun K3 hK3 => rn 1 rfl ?_
 rcases cond_some h with ⟨g4, h⟩ | ⟨g4, h⟩
 ·refine qT rfl g4 (ls_skip (hK3 _ (ls_seq_k fun K5 hK5 => ls_blk (ls_seq_k fun K6 hK6 => rs (sp 2 rfl (?_))))))
  obtain ⟨e7, g8, h⟩ := ob_some h
  refine qI rfl zci64 g8 (sp 3 rfl (evn ?_))
  rcases cond_some h with ⟨g9, h⟩ | ⟨g9, h⟩
  ·exact qT rfl g9 (rn 1 rfl (ls_ret ((by cases h; cases hr1; exact ⟨.inl rfl, rfl⟩))))
  ·exact qF rfl g9 (ls_skip (hK6 _ (rg (sp 3 rfl (evn (hK5 _ (rg (sp 3 rfl (evn (hN _ _ h (okr rfl)))))))))))
 ·exact qF rfl g4 (ls_exit (kXB1 (Option.some.inj h) _ (okr rfl)))
def laws_heldAtomS_B1 (a0 : List Y108) (rec : (Int × Int) → Option (Sum (Int) (Int))) (s : Int × Int) : Option (Sum (Int) (Int)) := match s with
  | (y1, y2) => cond (decide (y2 < (List.length a0 : Int))) (obind (geti a0 y2) fun e7 => obind (laws_markText y1) fun v9 => cond (!(e7.1 == v9)) (some (.inr (-1))) (obind (geti a0 y2) fun e12 => obind (laws_heldIntS e12.2 (IntKind.i64.wrap (y1 + 1))) fun v14 => cond (decide (v14 < 0)) (some (.inr (-1))) (rec (v14, (IntKind.i64.wrap (y2 + 1)))))) (some (.inl y1))
def laws_heldAtomS (a0 : List Y108) (a1 : Int) : Option (Int) := obind (loopF (laws_heldAtomS_B1 a0) fz (a1, 0)) fun o1 => (match o1 with
  | .inl z2 => (some z2)
  | .inr r => some r)
theorem laws_heldAtomS_s {a0 : List Y108} {a1 : Int} {r : Int} (h : laws_heldAtomS a0 a1 = some r) : SoundAt Tryz.prog 96 [dL c109_d a0, nI a1] (nI r) := by
 unfold laws_heldAtomS at h
 refine st lit96 rfl (rn 1 rfl (ls_seq_k fun K1 hK1 => rn 1 rfl ?_))
 obtain ⟨o1, hl, hr1⟩ := ob_some h
 have kXB1 : ∀ {z2 : Int}, (.inl z2) = o1 → Jn K1 [(1, nI z2)] := by
  intro z2 h σ' hk
  subst h
  replace h := hr1
  try dsimp only at h
  exact hK1 _ (lh hk rfl (rn 1 rfl (ls_ret ((by cases h; exact ⟨.inl rfl, rfl⟩)))))
 refine ls_rec (fun (s : Int × Int) => match s with | (y1, y2) => [(0, dL c109_d a0), (1, nI y1), (5, nI y2)]) _ _ _ _ hl (okr rfl) (fun _ => rfl) ?_
 rintro m ⟨y1, y2⟩ N h hN
 unfold laws_heldAtomS_B1 at h
 dsimp only at h
 refine ls_seq_k fun K3 hK3 => rn 1 rfl ?_
 rcases cond_some h with ⟨g4, h⟩ | ⟨g4, h⟩
 ·refine qT rfl g4 (ls_skip (hK3 _ (ls_seq_k fun K5 hK5 => ls_blk (ls_seq_k fun K6 hK6 => rd (by kernel_rfl) (sd 2 rfl (?_))))))
  obtain ⟨e7, g8, h⟩ := ob_some h
  refine ed rfl (qI rfl zc109_d g8 (sd 3 rfl (?_)))
  obtain ⟨v9, g10, h⟩ := ob_some h
  refine ed rfl (qC (qs rfl eran) (laws_markText_s g10) (sd 1 rfl (evdn ?_)))
  rcases cond_some h with ⟨g11, h⟩ | ⟨g11, h⟩
  ·exact qT rfl g11 (rn 1 rfl (ls_ret ((by cases h; cases hr1; exact ⟨.inl rfl, rfl⟩))))
  ·refine qF rfl g11 (ls_skip (hK6 _ (rn 1 rfl (rs (sp 2 rfl (?_))))))
   obtain ⟨e12, g13, h⟩ := ob_some h
   refine qI rfl zc109_d g13 (sp 3 rfl (?_))
   obtain ⟨v14, g15, h⟩ := ob_some h
   refine qC (qa rfl (erD eci64 _) (qs rfl eran)) (laws_heldIntS_s g15) (sp 1 rfl (evn (qk [0, 1, 5] rfl (rn 1 rfl ?_))))
   rcases cond_some h with ⟨g16, h⟩ | ⟨g16, h⟩
   ·exact qT rfl g16 (rn 1 rfl (ls_ret ((by cases h; cases hr1; exact ⟨.inl rfl, rfl⟩))))
   ·exact qF rfl g16 (ls_skip (hK5 _ (rg (sp 3 rfl (evn (hN _ _ h (okr rfl)))))))
 ·exact qF rfl g4 (ls_exit (kXB1 (Option.some.inj h) _ (okr rfl)))
def laws_heldQuery (a0 : Y29) (a1 : Int) : Option (Int) := obind (laws_heldAtomS a0.2.1 a1) fun v1 => cond (decide (v1 < 0)) (some (-1)) (obind (laws_heldIntS a0.2.2 v1) fun v5 => cond (decide (v5 < 0)) (some (-1)) (some v5))
theorem laws_heldQuery_s {a0 : Y29} {a1 : Int} {r : Int} (h : laws_heldQuery a0 a1 = some r) : SoundAt Tryz.prog 58 [.agg (c30_ddd a0), nI a1] (nI r) := by
 unfold laws_heldQuery at h
 refine st lit58 rfl (rn 1 rfl (rs (sp 3 rfl (?_))))
 obtain ⟨v1, g2, h⟩ := ob_some h
 refine qC (qa rfl (erD ec109_d _) (qs rfl eran)) (laws_heldAtomS_s g2) (sp 1 rfl (evn (ls_seq_k fun K3 hK3 => rn 1 rfl ?_)))
 rcases cond_some h with ⟨g4, h⟩ | ⟨g4, h⟩
 ·exact qT rfl g4 (rn 1 rfl (ls_ret ((by cases h; exact ⟨.inl rfl, rfl⟩))))
 ·refine qF rfl g4 (ls_skip (hK3 _ (rs (sp 3 rfl (?_)))))
  obtain ⟨v5, g6, h⟩ := ob_some h
  refine qC (qa rfl (erD eci64 _) (qs rfl eran)) (laws_heldIntS_s g6) (sp 1 rfl (evn (ls_seq_k fun K7 hK7 => rn 1 rfl ?_)))
  rcases cond_some h with ⟨g8, h⟩ | ⟨g8, h⟩
  ·exact qT rfl g8 (rn 1 rfl (qk [4] rfl (ls_ret ((by cases h; exact ⟨.inl rfl, rfl⟩)))))
  ·exact qF rfl g8 (ls_skip (hK7 _ (rn 1 rfl (ls_ret ((by cases h; exact ⟨.inl rfl, rfl⟩))))))
def laws_heldCursor (a0 : Y31) (a1 : Int) : Option (Int) := obind (laws_heldIntS a0.2.1 a1) fun v1 => cond (decide (v1 < 0)) (some (-1)) (obind (laws_heldIntS a0.2.2.1 v1) fun v5 => cond (decide (v5 < 0)) (some (-1)) (obind (laws_heldQuery a0.2.2.2 v5) fun v9 => cond (decide (v9 < 0)) (some (-1)) (some v9)))
theorem laws_heldCursor_s {a0 : Y31} {a1 : Int} {r : Int} (h : laws_heldCursor a0 a1 = some r) : SoundAt Tryz.prog 27 [.agg (c32_ddddd a0), nI a1] (nI r) := by
 unfold laws_heldCursor at h
 refine st lit27 rfl (rn 1 rfl (rs (sp 3 rfl (?_))))
 obtain ⟨v1, g2, h⟩ := ob_some h
 refine qC (qa rfl (erD eci64 _) (qs rfl eran)) (laws_heldIntS_s g2) (sp 1 rfl (evn (ls_seq_k fun K3 hK3 => rn 1 rfl ?_)))
 rcases cond_some h with ⟨g4, h⟩ | ⟨g4, h⟩
 ·exact qT rfl g4 (rn 1 rfl (ls_ret ((by cases h; exact ⟨.inl rfl, rfl⟩))))
 ·refine qF rfl g4 (ls_skip (hK3 _ (rs (sp 3 rfl (?_)))))
  obtain ⟨v5, g6, h⟩ := ob_some h
  refine qC (qa rfl (erD eci64 _) (qs rfl eran)) (laws_heldIntS_s g6) (sp 1 rfl (evn (ls_seq_k fun K7 hK7 => rn 1 rfl ?_)))
  rcases cond_some h with ⟨g8, h⟩ | ⟨g8, h⟩
  ·exact qT rfl g8 (rn 1 rfl (qk [4] rfl (ls_ret ((by cases h; exact ⟨.inl rfl, rfl⟩)))))
  ·refine qF rfl g8 (ls_skip (hK7 _ (rs (sp 3 rfl (?_)))))
   obtain ⟨v9, g10, h⟩ := ob_some h
   refine qC (qa rfl (erg (erc rfl (erc (erD ec109_d _) (erc (erD eci64 _) rfl)))) (qs rfl eran)) (laws_heldQuery_s g10) (sp 1 rfl (evn (ls_seq_k fun K11 hK11 => rn 1 rfl ?_)))
   rcases cond_some h with ⟨g12, h⟩ | ⟨g12, h⟩
   ·exact qT rfl g12 (rn 1 rfl (ls_ret ((by cases h; exact ⟨.inl rfl, rfl⟩))))
   ·exact qF rfl g12 (ls_skip (hK11 _ (rn 1 rfl (ls_ret ((by cases h; exact ⟨.inl rfl, rfl⟩))))))
def laws_FnExactAdvanceCursor (a0 : Y53) (a1 : Y58) : Option (Bool) := obind (laws_szHistory a0 1048576) fun v1 => cond (decide (v1 < 0)) (some true) (obind (laws_szCursor a1 v1) fun v5 => cond (decide (v5 < 0)) (some true) (obind (laws_toHistory a0) fun v9 => obind (laws_toCursor a1) fun v11 => obind (spec_AdvanceCursor v9 v11) fun v13 => obind (laws_toHistory a0) fun v15 => obind (laws_toCursor a1) fun v17 => obind (impl_AdvanceCursor v15 v17) fun v19 => obind (laws_eqCursor v19.1 v13.1) fun v22 => cond (!v22) (some false) (obind (laws_eqIntS v19.2.1 v13.2.1) fun v25 => cond (!v25) (some false) (cond (!(v19.2.2 == v13.2.2)) (some false) (obind (laws_toHistory a0) fun v30 => obind (laws_eqHistory v15 v30) fun v32 => cond (!v32) (some false) (obind (laws_toCursor a1) fun v36 => obind (laws_eqCursor v17 v36) fun v38 => cond (!v38) (some false) (obind (laws_markHistory v15 1) fun v41 => obind (laws_markCursor v17 v41.2) fun v43 => cond (decide (v43.2 < 0)) (some false) (obind (laws_eqCursor v19.1 v13.1) fun v47 => cond (!v47) (some false) (obind (laws_eqIntS v19.2.1 v13.2.1) fun v50 => cond (!v50) (some false) (cond (!(v19.2.2 == v13.2.2)) (some false) (obind (laws_markCursor v19.1 1) fun v54 => obind (laws_markIntS v19.2.1 v54.2) fun v56 => obind (laws_heldCursor v54.1 1) fun v58 => cond (decide (v58 < 0)) (some false) (obind (laws_heldIntS v56.1 v58) fun v62 => cond (decide (v62 < 0)) (some false) (cond (v62 != v56.2) (some false) (obind (laws_toHistory a0) fun v68 => obind (laws_toCursor a1) fun v70 => obind (impl_AdvanceCursor v68 v70) fun v72 => obind (laws_eqCursor v72.1 v13.1) fun v75 => cond (!v75) (some false) (obind (laws_eqIntS v72.2.1 v13.2.1) fun v78 => cond (!v78) (some false) (cond (!(v72.2.2 == v13.2.2)) (some false) (obind (laws_heldCursor v54.1 1) fun v82 => cond (decide (v82 < 0)) (some false) (obind (laws_heldIntS v56.1 v82) fun v86 => cond (decide (v86 < 0)) (some false) (cond (v86 != v56.2) (some false) (some true))))))))))))))))))))
theorem laws_FnExactAdvanceCursor_s {a0 : Y53} {a1 : Y58} {r : Bool} (h : laws_FnExactAdvanceCursor a0 a1 = some r) : SoundAt Tryz.prog 4 [.agg (c54_aaaa a0), .agg (c59_aaaaa a1)] (.bool r) := by
 unfold laws_FnExactAdvanceCursor at h
 refine st lit4 rfl (rn 2 rfl (rs (sp 2 rfl (?_))))
 obtain ⟨v1, g2, h⟩ := ob_some h
 refine qC (qa rfl (erg (erc rfl (erc (erG ec132_aaa _) rfl))) (qs rfl eran)) (laws_szHistory_s g2) (sp 1 rfl (evn (ls_seq_k fun K3 hK3 => rn 1 rfl ?_)))
 rcases cond_some h with ⟨g4, h⟩ | ⟨g4, h⟩
 ·exact qT rfl g4 (rn 1 rfl (ls_ret ((by cases h; exact ⟨.inl rfl, rfl⟩))))
 ·refine qF rfl g4 (ls_skip (hK3 _ (rs (sp 2 rfl (?_)))))
  obtain ⟨v5, g6, h⟩ := ob_some h
  refine qC (qa rfl (erg (erc rfl (erc (erG eci64 _) (erc (erG eci64 _) (erc rfl (erc (erG ec167_a _) (erc (erG eci64 _) rfl))))))) (qs rfl eran)) (laws_szCursor_s g6) (sp 1 rfl (evn (ls_seq_k fun K7 hK7 => rn 1 rfl (qk [2, 3, 29] rfl ?_))))
  rcases cond_some h with ⟨g8, h⟩ | ⟨g8, h⟩
  ·exact qT rfl g8 (rn 1 rfl (ls_ret ((by cases h; exact ⟨.inl rfl, rfl⟩))))
  ·refine qF rfl g8 (ls_skip (hK7 _ (rd (by kernel_rfl) (sd 1 rfl (?_)))))
   obtain ⟨v9, g10, h⟩ := ob_some h
   refine ed rfl (qC (qa rfl (erg (erc rfl (erc (erG ec132_aaa _) rfl))) eran) (laws_toHistory_s g10) (sd 1 rfl (?_)))
   obtain ⟨v11, g12, h⟩ := ob_some h
   refine ed rfl (qC (qa rfl (erg (erc rfl (erc (erG eci64 _) (erc (erG eci64 _) (erc rfl (erc (erG ec167_a _) (erc (erG eci64 _) rfl))))))) eran) (laws_toCursor_s g12) (?_))
   obtain ⟨v13, g14, h⟩ := ob_some h
   refine ed rfl (qC (qa rfl (erg (erc rfl (erc (erO ec77_ooo _) rfl))) (qa rfl (erg (erc rfl (erc (erO eci64 _) (erc (erO eci64 _) (erc rfl (erc (erO ec109_o _) (erc (erO eci64 _) rfl))))))) eran)) (spec_AdvanceCursor_s g14) (sd 8 rfl (evdn (rs (sp 1 rfl (?_))))))
   obtain ⟨v15, g16, h⟩ := ob_some h
   refine qC (qa rfl (erg (erc rfl (erc (erG ec132_aaa _) rfl))) eran) (laws_toHistory_s g16) (sp 2 rfl (evn (rs (sp 1 rfl (?_)))))
   obtain ⟨v17, g18, h⟩ := ob_some h
   refine qC (qa rfl (erg (erc rfl (erc (erG eci64 _) (erc (erG eci64 _) (erc rfl (erc (erG ec167_a _) (erc (erG eci64 _) rfl))))))) eran) (laws_toCursor_s g18) (sp 2 rfl (evn (rs (sp 2 rfl (?_)))))
   obtain ⟨v19, g20, h⟩ := ob_some h
   refine qC (qa rfl (erg (erc rfl (erc (erD ec77_ooo _) rfl))) (qa rfl (erg (erc rfl (erc (erD eci64 _) (erc (erD eci64 _) (erc rfl (erc (erD ec109_o _) (erc (erD eci64 _) rfl))))))) eran)) (impl_AdvanceCursor_s g20) (sp 8 rfl (evn (qk [2, 3, 6, 7, 8, 9, 10, 11, 12, 13] rfl (ls_seq_k fun K21 hK21 => rs (sp 2 rfl (?_))))))
   obtain ⟨v22, g23, h⟩ := ob_some h
   refine qC (qa rfl (erg (erc rfl (erc (erD eci64 _) (erc (erD eci64 _) (erc rfl (erc (erD ec109_o _) (erc (erD eci64 _) rfl))))))) (qa rfl (erg (erc rfl (erc (erD eci64 _) (erc (erD eci64 _) (erc rfl (erc (erD ec109_o _) (erc (erD eci64 _) rfl))))))) eran)) (laws_eqCursor_s g23) (sp 2 rfl (?_))
   rcases cond_some h with ⟨g24, h⟩ | ⟨g24, h⟩
   ·exact qg 54 g24 rfl (sp 10 rfl (evn (qT rfl rfl (rn 1 rfl (ls_ret ((by cases h; exact ⟨.inl rfl, rfl⟩)))))))
   ·refine qg 54 g24 rfl (sp 2 rfl (?_))
    obtain ⟨v25, g26, h⟩ := ob_some h
    refine oGR rfl rfl (qC (qa rfl (erD eci64 _) (qa rfl (erD eci64 _) eran)) (laws_eqIntS_s g26) (sp 3 rfl (?_)))
    rcases cond_some h with ⟨g27, h⟩ | ⟨g27, h⟩
    ·exact qg 60 g27 rfl (sp 4 rfl (evn (qT rfl rfl (rn 1 rfl (qk [4] rfl (ls_ret ((by cases h; exact ⟨.inl rfl, rfl⟩))))))))
    ·refine qg 60 g27 rfl (sp 4 rfl (evn ?_))
     rcases cond_some h with ⟨g28, h⟩ | ⟨g28, h⟩
     ·exact qT rfl g28 (rn 1 rfl (ls_ret ((by cases h; exact ⟨.inl rfl, rfl⟩))))
     ·refine qF rfl g28 (ls_skip (hK21 _ (ls_seq_k fun K29 hK29 => rd (by kernel_rfl) (sd 2 rfl (?_)))))
      obtain ⟨v30, g31, h⟩ := ob_some h
      refine ed rfl (qC (qa rfl (erg (erc rfl (erc (erG ec132_aaa _) rfl))) eran) (laws_toHistory_s g31) (?_))
      obtain ⟨v32, g33, h⟩ := ob_some h
      refine ed rfl (qC (qa rfl (erg (erc rfl (erc (erD ec77_ooo _) rfl))) (qa rfl (erg (erc rfl (erc (erO ec77_ooo _) rfl))) eran)) (laws_eqHistory_s g33) (sd 1 rfl (evdn ?_)))
      rcases cond_some h with ⟨g34, h⟩ | ⟨g34, h⟩
      ·exact qT rfl g34 (rn 1 rfl (ls_ret ((by cases h; exact ⟨.inl rfl, rfl⟩))))
      ·refine qF rfl g34 (ls_skip (hK29 _ (ls_seq_k fun K35 hK35 => rd (by kernel_rfl) (sd 2 rfl (?_)))))
       obtain ⟨v36, g37, h⟩ := ob_some h
       refine ed rfl (qC (qa rfl (erg (erc rfl (erc (erG eci64 _) (erc (erG eci64 _) (erc rfl (erc (erG ec167_a _) (erc (erG eci64 _) rfl))))))) eran) (laws_toCursor_s g37) (?_))
       obtain ⟨v38, g39, h⟩ := ob_some h
       refine ed rfl (qC (qa rfl (erg (erc rfl (erc (erD eci64 _) (erc (erD eci64 _) (erc rfl (erc (erD ec109_o _) (erc (erD eci64 _) rfl))))))) (qa rfl (erg (erc rfl (erc (erO eci64 _) (erc (erO eci64 _) (erc rfl (erc (erO ec109_o _) (erc (erO eci64 _) rfl))))))) eran)) (laws_eqCursor_s g39) (sd 1 rfl (evdn (qk [2, 3, 6, 7, 8, 9, 10, 11, 12, 13, 74] rfl ?_))))
       rcases cond_some h with ⟨g40, h⟩ | ⟨g40, h⟩
       ·exact qT rfl g40 (rn 1 rfl (ls_ret ((by cases h; exact ⟨.inl rfl, rfl⟩))))
       ·refine qF rfl g40 (ls_skip (hK35 _ (rn 1 rfl (qk [2, 3, 6, 7, 8, 9, 10, 11, 12, 13, 14] rfl ?_))))
        obtain ⟨v41, g42, h⟩ := ob_some h
        refine ls_mark (src_box tbOk rfl rfl rfl) rfl rfl (laws_markHistory_m g42) (dp26 _) (sf_of (sfc (scc rfl (scc (sca ad132 _) scn)) (sfc (scc rfl (scc (sca (fun _ => rfl) _) (scc (sca (fun _ => rfl) _) (scc rfl (scc (sca ad167 _) (scc (sca (fun _ => rfl) _) scn)))))) (sfc (scc rfl (scc (sco (fun _ => rfl) _) (scc (sco (fun _ => rfl) _) (scc rfl (scc (sco dp109 _) (scc (sco (fun _ => rfl) _) scn)))))) (sfc (sdL (deep_flat (fun _ => rfl) _)) (sfc rfl (sfs (sfc (scc rfl (scc (sco (fun _ => rfl) _) (scc (sco (fun _ => rfl) _) (scc rfl (scc (sco dp109 _) (scc (sco (fun _ => rfl) _) scn)))))) (sfc (scc rfl (scc (sco (fun _ => rfl) _) (scc (sco (fun _ => rfl) _) (scc rfl (scc (sco dp109 _) (scc (sco (fun _ => rfl) _) scn)))))) (sfc (sdL (deep_flat (fun _ => rfl) _)) (sfc rfl (sfc rfl sfn)))))))))))) rfl rfl ⟨by decide, by decide⟩ rfl rfl (kp [(2, .box [nI a0.1, aL c132_aaa a0.2]), (3, .box [nI a1.1, aL ci64 a1.2.1, aL ci64 a1.2.2.1, nI a1.2.2.2.1, aL c167_a a1.2.2.2.2.1, aL ci64 a1.2.2.2.2.2]), (6, .box [nI v13.1.1, oL 3 ci64 v13.1.2.1, oL 3 ci64 v13.1.2.2.1, nI v13.1.2.2.2.1, oL 109 c109_o v13.1.2.2.2.2.1, oL 3 ci64 v13.1.2.2.2.2.2]), (7, oL 3 ci64 v13.2.1), (8, .bool v13.2.2), (10, .box [nI v17.1, oL 3 ci64 v17.2.1, oL 3 ci64 v17.2.2.1, nI v17.2.2.2.1, oL 109 c109_o v17.2.2.2.2.1, oL 3 ci64 v17.2.2.2.2.2]), (11, .box [nI v19.1.1, oL 3 ci64 v19.1.2.1, oL 3 ci64 v19.1.2.2.1, nI v19.1.2.2.2.1, oL 109 c109_o v19.1.2.2.2.2.1, oL 3 ci64 v19.1.2.2.2.2.2]), (12, oL 3 ci64 v19.2.1), (13, .bool v19.2.2), (14, nI v41.2)] rfl rfl (qk [2, 3, 6, 7, 8, 10, 11, 12, 13, 14] rfl ?_))
        obtain ⟨v43, g44, h⟩ := ob_some h
        refine ls_mark (src_box tbOk rfl rfl rfl) rfl rfl (laws_markCursor_m g44) (dp32 _) (sf_of (sfc (scc rfl (scc (sca ad132 _) scn)) (sfc (scc rfl (scc (sca (fun _ => rfl) _) (scc (sca (fun _ => rfl) _) (scc rfl (scc (sca ad167 _) (scc (sca (fun _ => rfl) _) scn)))))) (sfc (scc rfl (scc (sco (fun _ => rfl) _) (scc (sco (fun _ => rfl) _) (scc rfl (scc (sco dp109 _) (scc (sco (fun _ => rfl) _) scn)))))) (sfc (sdL (deep_flat (fun _ => rfl) _)) (sfc rfl (sfs (sfc (scc rfl (scc (sco (fun _ => rfl) _) (scc (sco (fun _ => rfl) _) (scc rfl (scc (sco dp109 _) (scc (sco (fun _ => rfl) _) scn)))))) (sfc (sdL (deep_flat (fun _ => rfl) _)) (sfc rfl (sfc rfl sfn))))))))))) rfl rfl ⟨by decide, by decide⟩ rfl rfl (kp [(2, .box [nI a0.1, aL c132_aaa a0.2]), (3, .box [nI a1.1, aL ci64 a1.2.1, aL ci64 a1.2.2.1, nI a1.2.2.2.1, aL c167_a a1.2.2.2.2.1, aL ci64 a1.2.2.2.2.2]), (6, .box [nI v13.1.1, oL 3 ci64 v13.1.2.1, oL 3 ci64 v13.1.2.2.1, nI v13.1.2.2.2.1, oL 109 c109_o v13.1.2.2.2.2.1, oL 3 ci64 v13.1.2.2.2.2.2]), (7, oL 3 ci64 v13.2.1), (8, .bool v13.2.2), (11, .box [nI v19.1.1, oL 3 ci64 v19.1.2.1, oL 3 ci64 v19.1.2.2.1, nI v19.1.2.2.2.1, oL 109 c109_o v19.1.2.2.2.2.1, oL 3 ci64 v19.1.2.2.2.2.2]), (12, oL 3 ci64 v19.2.1), (13, .bool v19.2.2), (14, nI v43.2)] rfl rfl (ls_seq_k fun K45 hK45 => rs (sp 3 rfl (?_))))
        rcases cond_some h with ⟨g46, h⟩ | ⟨g46, h⟩
        ·exact qg 83 g46 rfl (sp 16 rfl (evn (qT rfl rfl (rn 1 rfl (ls_ret ((by cases h; exact ⟨.inl rfl, rfl⟩)))))))
        ·refine qg 83 g46 rfl (sp 2 rfl (?_))
         obtain ⟨v47, g48, h⟩ := ob_some h
         refine oGR rfl rfl (qC (qa rfl (erg (erc rfl (erc (erD eci64 _) (erc (erD eci64 _) (erc rfl (erc (erD ec109_o _) (erc (erD eci64 _) rfl))))))) (qa rfl (erg (erc rfl (erc (erD eci64 _) (erc (erD eci64 _) (erc rfl (erc (erD ec109_o _) (erc (erD eci64 _) rfl))))))) eran)) (laws_eqCursor_s g48) (sp 3 rfl (?_)))
         rcases cond_some h with ⟨g49, h⟩ | ⟨g49, h⟩
         ·exact qg 89 g49 rfl (sp 10 rfl (evn (qk [2, 3, 6, 7, 8, 11, 12, 99] rfl (qT rfl rfl (rn 1 rfl (ls_ret ((by cases h; exact ⟨.inl rfl, rfl⟩))))))))
         ·refine qg 89 g49 rfl (sp 2 rfl (?_))
          obtain ⟨v50, g51, h⟩ := ob_some h
          refine oGR rfl rfl (qC (qa rfl (erD eci64 _) (qa rfl (erD eci64 _) eran)) (laws_eqIntS_s g51) (sp 3 rfl (?_)))
          rcases cond_some h with ⟨g52, h⟩ | ⟨g52, h⟩
          ·exact qg 95 g52 rfl (sp 4 rfl (evn (qT rfl rfl (rn 1 rfl (ls_ret ((by cases h; exact ⟨.inl rfl, rfl⟩)))))))
          ·refine qg 95 g52 rfl (sp 4 rfl (evn ?_))
           rcases cond_some h with ⟨g53, h⟩ | ⟨g53, h⟩
           ·exact qT rfl g53 (rn 1 rfl (ls_ret ((by cases h; exact ⟨.inl rfl, rfl⟩))))
           ·refine qF rfl g53 (ls_skip (hK45 _ (rn 1 rfl (qk [2, 3, 6, 7, 8, 11, 12, 15] rfl (qk [2, 3, 6, 7, 8, 11, 12, 15] rfl ?_)))))
            obtain ⟨v54, g55, h⟩ := ob_some h
            refine ls_mark (src_box tbOk rfl rfl rfl) rfl rfl (laws_markCursor_m g55) (dp32 _) (sf_of (sfc (scc rfl (scc (sca ad132 _) scn)) (sfc (scc rfl (scc (sca (fun _ => rfl) _) (scc (sca (fun _ => rfl) _) (scc rfl (scc (sca ad167 _) (scc (sca (fun _ => rfl) _) scn)))))) (sfc (scc rfl (scc (sco (fun _ => rfl) _) (scc (sco (fun _ => rfl) _) (scc rfl (scc (sco dp109 _) (scc (sco (fun _ => rfl) _) scn)))))) (sfc (sdL (deep_flat (fun _ => rfl) _)) (sfc rfl (sfs (sfc (sdL (deep_flat (fun _ => rfl) _)) (sfc rfl sfn))))))))) rfl rfl ⟨by decide, by decide⟩ rfl rfl (kp [(2, .box [nI a0.1, aL c132_aaa a0.2]), (3, .box [nI a1.1, aL ci64 a1.2.1, aL ci64 a1.2.2.1, nI a1.2.2.2.1, aL c167_a a1.2.2.2.2.1, aL ci64 a1.2.2.2.2.2]), (6, .box [nI v13.1.1, oL 3 ci64 v13.1.2.1, oL 3 ci64 v13.1.2.2.1, nI v13.1.2.2.2.1, oL 109 c109_o v13.1.2.2.2.2.1, oL 3 ci64 v13.1.2.2.2.2.2]), (7, oL 3 ci64 v13.2.1), (8, .bool v13.2.2), (11, .box [nI v54.1.1, oL 3 ci64 v54.1.2.1, oL 3 ci64 v54.1.2.2.1, nI v54.1.2.2.2.1, oL 109 c109_o v54.1.2.2.2.2.1, oL 3 ci64 v54.1.2.2.2.2.2]), (12, oL 3 ci64 v19.2.1), (15, nI v54.2)] rfl rfl (qk [2, 3, 6, 7, 8, 11, 12, 15] rfl ?_))
            obtain ⟨v56, g57, h⟩ := ob_some h
            refine ls_mark (src_own rfl) rfl rfl (laws_markIntS_m g57) (deep_flat (fun _ => rfl) _) (sf_of (sfc (scc rfl (scc (sca ad132 _) scn)) (sfc (scc rfl (scc (sca (fun _ => rfl) _) (scc (sca (fun _ => rfl) _) (scc rfl (scc (sca ad167 _) (scc (sca (fun _ => rfl) _) scn)))))) (sfc (scc rfl (scc (sco (fun _ => rfl) _) (scc (sco (fun _ => rfl) _) (scc rfl (scc (sco dp109 _) (scc (sco (fun _ => rfl) _) scn)))))) (sfc (sdL (deep_flat (fun _ => rfl) _)) (sfc rfl (sfc (scc rfl (scc (sco (fun _ => rfl) _) (scc (sco (fun _ => rfl) _) (scc rfl (scc (sco dp109 _) (scc (sco (fun _ => rfl) _) scn)))))) (sfs (sfc rfl sfn))))))))) rfl rfl ⟨by decide, by decide⟩ rfl rfl (kp [(2, .box [nI a0.1, aL c132_aaa a0.2]), (3, .box [nI a1.1, aL ci64 a1.2.1, aL ci64 a1.2.2.1, nI a1.2.2.2.1, aL c167_a a1.2.2.2.2.1, aL ci64 a1.2.2.2.2.2]), (6, .box [nI v13.1.1, oL 3 ci64 v13.1.2.1, oL 3 ci64 v13.1.2.2.1, nI v13.1.2.2.2.1, oL 109 c109_o v13.1.2.2.2.2.1, oL 3 ci64 v13.1.2.2.2.2.2]), (7, oL 3 ci64 v13.2.1), (8, .bool v13.2.2), (11, .box [nI v54.1.1, oL 3 ci64 v54.1.2.1, oL 3 ci64 v54.1.2.2.1, nI v54.1.2.2.2.1, oL 109 c109_o v54.1.2.2.2.2.1, oL 3 ci64 v54.1.2.2.2.2.2]), (12, oL 3 ci64 v56.1), (15, nI v56.2)] rfl rfl (rn 1 rfl (rs (sp 2 rfl (?_)))))
            obtain ⟨v58, g59, h⟩ := ob_some h
            refine qC (qa rfl (erg (erc rfl (erc (erD eci64 _) (erc (erD eci64 _) (erc rfl (erc (erD ec109_o _) (erc (erD eci64 _) rfl))))))) (qs rfl eran)) (laws_heldCursor_s g59) (sp 1 rfl (evn (ls_seq_k fun K60 hK60 => rn 1 rfl ?_)))
            rcases cond_some h with ⟨g61, h⟩ | ⟨g61, h⟩
            ·exact qT rfl g61 (rn 1 rfl (ls_ret ((by cases h; exact ⟨.inl rfl, rfl⟩))))
            ·refine qF rfl g61 (ls_skip (hK60 _ (rs (sp 2 rfl (?_)))))
             obtain ⟨v62, g63, h⟩ := ob_some h
             refine qC (qa rfl (erD eci64 _) (qs rfl eran)) (laws_heldIntS_s g63) (sp 1 rfl (evn (ls_seq_k fun K64 hK64 => rn 1 rfl ?_)))
             rcases cond_some h with ⟨g65, h⟩ | ⟨g65, h⟩
             ·exact qT rfl g65 (rn 1 rfl (qk [4] rfl (ls_ret ((by cases h; exact ⟨.inl rfl, rfl⟩)))))
             ·refine qF rfl g65 (ls_skip (hK64 _ (ls_seq_k fun K66 hK66 => rn 1 rfl ?_)))
              rcases cond_some h with ⟨g67, h⟩ | ⟨g67, h⟩
              ·exact qT rfl g67 (rn 1 rfl (ls_ret ((by cases h; exact ⟨.inl rfl, rfl⟩))))
              ·refine qF rfl g67 (ls_skip (hK66 _ (rd (by kernel_rfl) (sd 1 rfl (?_)))))
               obtain ⟨v68, g69, h⟩ := ob_some h
               refine ed rfl (qC (qa rfl (erg (erc rfl (erc (erG ec132_aaa _) rfl))) eran) (laws_toHistory_s g69) (sd 1 rfl (?_)))
               obtain ⟨v70, g71, h⟩ := ob_some h
               refine ed rfl (qC (qa rfl (erg (erc rfl (erc (erG eci64 _) (erc (erG eci64 _) (erc rfl (erc (erG ec167_a _) (erc (erG eci64 _) rfl))))))) eran) (laws_toCursor_s g71) (?_))
               obtain ⟨v72, g73, h⟩ := ob_some h
               refine ed rfl (qC (qa rfl (erg (erc rfl (erc (erO ec77_ooo _) rfl))) (qa rfl (erg (erc rfl (erc (erO eci64 _) (erc (erO eci64 _) (erc rfl (erc (erO ec109_o _) (erc (erO eci64 _) rfl))))))) eran)) (impl_AdvanceCursor_s g73) (sd 8 rfl (evdn (ls_seq_k fun K74 hK74 => rs (sp 2 rfl (?_))))))
               obtain ⟨v75, g76, h⟩ := ob_some h
               refine qC (qa rfl (erg (erc rfl (erc (erD eci64 _) (erc (erD eci64 _) (erc rfl (erc (erD ec109_o _) (erc (erD eci64 _) rfl))))))) (qa rfl (erg (erc rfl (erc (erD eci64 _) (erc (erD eci64 _) (erc rfl (erc (erD ec109_o _) (erc (erD eci64 _) rfl))))))) eran)) (laws_eqCursor_s g76) (sp 2 rfl (?_))
               rcases cond_some h with ⟨g77, h⟩ | ⟨g77, h⟩
               ·exact qg 132 g77 rfl (sp 10 rfl (evn (qk [11, 12, 15, 142] rfl (qT rfl rfl (rn 1 rfl (ls_ret ((by cases h; exact ⟨.inl rfl, rfl⟩))))))))
               ·refine qg 132 g77 rfl (sp 2 rfl (?_))
                obtain ⟨v78, g79, h⟩ := ob_some h
                refine oGR rfl rfl (qC (qa rfl (erD eci64 _) (qa rfl (erD eci64 _) eran)) (laws_eqIntS_s g79) (sp 3 rfl (?_)))
                rcases cond_some h with ⟨g80, h⟩ | ⟨g80, h⟩
                ·exact qg 138 g80 rfl (sp 4 rfl (evn (qT rfl rfl (rn 1 rfl (ls_ret ((by cases h; exact ⟨.inl rfl, rfl⟩)))))))
                ·refine qg 138 g80 rfl (sp 4 rfl (evn ?_))
                 rcases cond_some h with ⟨g81, h⟩ | ⟨g81, h⟩
                 ·exact qT rfl g81 (rn 1 rfl (ls_ret ((by cases h; exact ⟨.inl rfl, rfl⟩))))
                 ·refine qF rfl g81 (ls_skip (hK74 _ (rn 1 rfl (qk [11, 12, 15, 16] rfl (rs (sp 2 rfl (?_)))))))
                  obtain ⟨v82, g83, h⟩ := ob_some h
                  refine qC (qa rfl (erg (erc rfl (erc (erD eci64 _) (erc (erD eci64 _) (erc rfl (erc (erD ec109_o _) (erc (erD eci64 _) rfl))))))) (qs rfl eran)) (laws_heldCursor_s g83) (sp 1 rfl (evn (ls_seq_k fun K84 hK84 => rn 1 rfl ?_)))
                  rcases cond_some h with ⟨g85, h⟩ | ⟨g85, h⟩
                  ·exact qT rfl g85 (rn 1 rfl (ls_ret ((by cases h; exact ⟨.inl rfl, rfl⟩))))
                  ·refine qF rfl g85 (ls_skip (hK84 _ (rs (sp 2 rfl (?_)))))
                   obtain ⟨v86, g87, h⟩ := ob_some h
                   refine qC (qa rfl (erD eci64 _) (qs rfl eran)) (laws_heldIntS_s g87) (sp 1 rfl (evn (ls_seq_k fun K88 hK88 => rn 1 rfl ?_)))
                   rcases cond_some h with ⟨g89, h⟩ | ⟨g89, h⟩
                   ·exact qT rfl g89 (rn 1 rfl (ls_ret ((by cases h; exact ⟨.inl rfl, rfl⟩))))
                   ·refine qF rfl g89 (ls_skip (hK88 _ (qk [15, 16] rfl (ls_seq_k fun K90 hK90 => rn 1 rfl ?_))))
                    rcases cond_some h with ⟨g91, h⟩ | ⟨g91, h⟩
                    ·exact qT rfl g91 (rn 1 rfl (ls_ret ((by cases h; exact ⟨.inl rfl, rfl⟩))))
                    ·exact qF rfl g91 (ls_skip (hK90 _ (rn 1 rfl (ls_ret ((by cases h; exact ⟨.inl rfl, rfl⟩))))))
end Go.Proofs.YtlknpohjnpnodaaGreat
