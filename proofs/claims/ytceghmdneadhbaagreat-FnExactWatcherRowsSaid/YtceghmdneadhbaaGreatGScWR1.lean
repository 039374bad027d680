/-
  Functions of the program as typed functions, printed by gen.py, and that the program's functions do what they say. No conditions.
-/
import Derived.Test.YtceghmdneadhbaaGreatGSbWR1
namespace Go.Proofs.YtceghmdneadhbaaGreat
open Go.RowKit
set_option linter.unusedVariables false
set_option maxRecDepth 100000
set_option maxHeartbeats 1000000
def impl_ProjectCounted_B1 (a0 : Y75) (a1 : List Int) (rec : (Int × (List (List Int)) × (List Int) × Int) → Option (Int × (List (List Int)) × (List Int))) (s : Int × (List (List Int)) × (List Int) × Int) : Option (Int × (List (List Int)) × (List Int)) := match s with
  | (y1, y2, y3, y4) => cond (decide (y4 < (List.length a0.2.1 : Int))) (obind (geti a0.2.1 y4) fun e15 => obind (impl_pick e15 a1) fun v17 => obind (geti a0.2.2 y4) fun e19 => obind (impl_tally (y1, y2, y3) v17 e19) fun v21 => rec (v21.1, v21.2.1, v21.2.2, (IntKind.i64.wrap (y4 + 1)))) (some (y1, y2, y3))
def impl_ProjectCounted (a0 : Y75) (a1 : List Int) : Option (Y75 × Bool) := obind (impl_IsValidCounted a0) fun v2 => cond (!v2) (some ((0, [], []), false)) (obind (impl_columnsFit a0.1 a1) fun v5 => cond (!v5) (some ((0, [], []), false)) (obind (loopF (impl_ProjectCounted_B1 a0 a1) fz ((List.length a1 : Int), ([] : List (List Int)), ([] : List Int), 0)) fun o1 => (match o1 with
  | (z9, z10, z11) => (obind (impl_settled (z9, enumP 0 z10, z11)) fun v23 => chk (okJ (z10) (inlM v23.2.1) [] = true) (obind (impl_IsValidCounted (v23.1, List.map getM (inlM v23.2.1), v23.2.2)) fun v27 => cond (!v27) (some ((0, [], []), false)) (some ((v23.1, List.map getM (inlM v23.2.1), v23.2.2), true)))))))
theorem impl_ProjectCounted_s {a0 : Y75} {a1 : List Int} {r : Y75 × Bool} (h : impl_ProjectCounted a0 a1 = some r) : SoundAt Tryz.prog 119 [.agg (c76_ddd a0), dL ci64 a1] (.tup [.agg (c76_ooo r.1), .bool r.2]) := by
 unfold impl_ProjectCounted at h
 refine sta lit119 rfl (aall (bcc rfl (bcc (ableD bkc53_d _) (bcc (ableD (fun _ => rfl) _) rfl))) (aall (ableD (fun _ => rfl) _) rfl)) (mvv (vag (vcc rfl (vcc (argD vkc53_d _) (vcc (argD (fun _ => rfl) _) rfl)))) (mvv (argD (fun _ => rfl) _) rfl)) (dcc (dag (dcc rfl (dcc (dco dkc53_o 53 _) (dcc (dco (fun _ => rfl) 3 _) dcn)))) (dcc rfl dcn)) (rn 1 rfl (ls_seq_k fun K1 hK1 => rs (sp 1 rfl (?_))))
 obtain ⟨v2, g3, h⟩ := ob_some h
 refine qC (qa rfl (erg (erc rfl (erc (erG ec53_a _) (erc (erG eci64 _) rfl)))) eran) (impl_IsValidCounted_s g3) (sp 2 rfl (?_))
 rcases cond_some h with ⟨g4, h⟩ | ⟨g4, h⟩
 ·exact qg 13 g4 rfl (sp 6 rfl (evn (qT rfl rfl (rn 1 rfl (ls_ret ((by cases h; exact ⟨.inl rfl, rfl⟩)))))))
 ·refine qg 13 g4 rfl (sp 3 rfl (?_))
  obtain ⟨v5, g6, h⟩ := ob_some h
  refine oGR rfl rfl (qC (qs rfl (qa rfl (erG eci64 _) eran)) (impl_columnsFit_s g6) (sp 2 rfl (evn ?_)))
  rcases cond_some h with ⟨g7, h⟩ | ⟨g7, h⟩
  ·exact qT rfl g7 (rn 1 rfl (ls_ret ((by cases h; exact ⟨.inl rfl, rfl⟩))))
  ·refine qF rfl g7 (ls_skip (hK1 _ (qk [1, 2, 4] rfl (rn 1 rfl (ls_seq_k fun K8 hK8 => rn 1 rfl ?_)))))
   obtain ⟨o1, hl, hr1⟩ := ob_some h
   have kXB1 : ∀ {z9 : Int} {z10 : List (List Int)} {z11 : List Int}, (z9, z10, z11) = o1 → Jn K8 [(4, .box [nI 0, oL 53 c53_o [], oL 3 ci64 []]), (6, .box [nI z9, oL 53 c53_o z10, oL 3 ci64 z11])] := by
    intro z9 z10 z11 h σ' hk
    subst h
    replace h := hr1
    try dsimp only at h
    refine hK8 _ (lh hk rfl (qk [4, 6] rfl (ls_hg (gSb (f := c53_o) (l := z10) (q := 900001) (b := 6) [nI z9] [oL 3 ci64 z11] rfl rfl rfl (fun _ => rfl) ?_))))
    intro U us1 hU
    refine kp [(4, .box [nI 0, oL 53 c53_o [], oL 3 ci64 []]), (6, .box [nI z9, oL 53 (pE c53_o U) (enumP 0 z10), oL 3 ci64 z11]), (900001, .gh us1 (List.map (fun x => tokC (c53_o x)) z10))] rfl rfl (rs (sp 1 rfl (?_)))
    obtain ⟨v23, g24, h⟩ := ob_some h
    refine qCi rfl rfl rfl (impl_settled_s g24) (sp 2 rfl (evn (ls_seq_k fun K25 hK25 => qk [4, 9, 900001] rfl ?_)))
    obtain ⟨g26, h⟩ := chk_some h
    refine ls_hg (gJb (f := c53_o) (l := z10) (q := 900001) (b := 9) [nI v23.1] [oL 3 ci64 v23.2.2] (inlM v23.2.1) rfl own_inM rfl rfl (fun _ => rfl) hU g26 (kp [(4, .box [nI 0, oL 53 c53_o [], oL 3 ci64 []]), (9, .box [nI v23.1, oL 53 c53_o (List.map getM (inlM v23.2.1)), oL 3 ci64 v23.2.2])] rfl rfl (rs (sp 1 rfl (?_)))))
    obtain ⟨v27, g28, h⟩ := ob_some h
    refine qC (qa rfl (erg (erc rfl (erc (erD ec53_o _) (erc (erD eci64 _) rfl)))) eran) (impl_IsValidCounted_s g28) (sp 1 rfl (evn ?_))
    rcases cond_some h with ⟨g29, h⟩ | ⟨g29, h⟩
    ·exact qT rfl g29 (rn 1 rfl (ls_ret ((by cases h; exact ⟨.inl rfl, rfl⟩))))
    ·exact qF rfl g29 (ls_skip (hK25 _ (rn 1 rfl (ls_ret ((by cases h; exact ⟨.inl rfl, rfl⟩))))))
   refine ls_rec (fun (s : Int × (List (List Int)) × (List Int) × Int) => match s with | (y1, y2, y3, y4) => [(1, aL ci64 a1), (2, .box [nI a0.1, aL c53_a a0.2.1, aL ci64 a0.2.2]), (4, .box [nI 0, oL 53 c53_o [], oL 3 ci64 []]), (6, .box [nI y1, oL 53 c53_o y2, oL 3 ci64 y3]), (25, aL c53_a a0.2.1), (26, nI (List.length a0.2.1 : Int)), (27, nI y4)]) _ _ _ _ hl (okr rfl) (fun _ => rfl) ?_
   rintro m ⟨y1, y2, y3, y4⟩ N h hN
   unfold impl_ProjectCounted_B1 at h
   dsimp only at h
   refine rn 1 rfl (ls_seq_k fun K12 hK12 => ?_)
   rcases cond_some h with ⟨g13, h⟩ | ⟨g13, h⟩
   ·refine qT rfl g13 (ls_skip (hK12 _ (ls_seq_k fun K14 hK14 => ls_blk (rs (sp 1 rfl (?_))))))
    obtain ⟨e15, g16, h⟩ := ob_some h
    refine qI rfl zc53_a g16 (sp 3 rfl (evn (qk [1, 2, 4, 6, 7, 8, 25, 26, 27] rfl (rgt 8 (by kernel_rfl) (sd 2 rfl (?_))))))
    obtain ⟨v17, g18, h⟩ := ob_some h
    refine ed rfl (qC (qa rfl (erG eci64 _) (qa rfl (erG eci64 _) eran)) (impl_pick_s g18) (sd 3 rfl (?_)))
    obtain ⟨e19, g20, h⟩ := ob_some h
    refine ed rfl (qI rfl zci64 g20 (sd 1 rfl (evdn (gh_k ?_))))
    obtain ⟨v21, g22, h⟩ := ob_some h
    exact qPo [1, 2, 4, 25, 26, 27, 34, 39] rfl rfl rfl rfl (qa rfl (erO eci64 _) (qs rfl eran)) (dcc rfl (dcc (dco dkc53_o 53 _) (dcc (dco (fun _ => rfl) 3 _) dcn))) (impl_tally_s g22) rfl (yc (acf (fun _ => rfl) _) (yc (snc rfl (snc (sA (aca gkc53_a _)) (snc (sA (aca (fun _ => rfl) _)) rfl))) (yc (snc rfl (snc rfl (snc rfl rfl))) (yc (acf gkc53_a _) (yc rfl (yc rfl (yc (sdL (dcf (fun _ => rfl) _)) (yc rfl yn)))))))) (evn (hK14 _ (rg (sp 2 rfl (evn (hN _ _ h (okr rfl)))))))
   ·exact qF rfl g13 (ls_exit (kXB1 (Option.some.inj h) _ (okr rfl)))
def impl_copyQuery_B1 (a0 : Y54) (rec : ((List Y147) × Int) → Option ((List Y147))) (s : (List Y147) × Int) : Option ((List Y147)) := match s with
  | (y1, y2) => cond (decide (y2 < (List.length a0.2.1 : Int))) (obind (geti a0.2.1 y2) fun e8 => obind (impl_copyInts e8.2) fun v10 => chk (List.length y1 + List.length [(e8.1, v10)] ≤ lim) (rec ((y1 ++ [(e8.1, v10)]), (IntKind.i64.wrap (y2 + 1))))) (some y1)
def impl_copyQuery (a0 : Y54) : Option (Y54) := obind (impl_copyInts a0.2.2) fun v1 => obind (loopF (impl_copyQuery_B1 a0) fz (([] : List Y147), 0)) fun z4 => some (a0.1, z4, v1)
theorem impl_copyQuery_s {a0 : Y54} {r : Y54} (h : impl_copyQuery a0 = some r) : SoundAt Tryz.prog 120 [.agg (c55_ddd a0)] (.agg (c55_ooo r)) := by
 unfold impl_copyQuery at h
 refine st lit120 rfl (rn 1 rfl (rd (by kernel_rfl) (sd 4 rfl (?_))))
 obtain ⟨v1, g2, h⟩ := ob_some h
 refine ed rfl (qC (qa rfl (erD eci64 _) eran) (impl_copyInts_s g2) (sd 3 rfl (evdn (ls_seq_k fun K3 hK3 => rn 1 rfl ?_))))
 obtain ⟨o1, hl, hr1⟩ := ob_some h
 have kXB1 : ∀ {z4 : List Y147}, z4 = o1 → Jn K3 [(2, .box [nI 0, oL 148 c148_o [], oL 3 ci64 []]), (3, .box [nI a0.1, oL 148 c148_o z4, oL 3 ci64 v1])] := by
  intro z4 h σ' hk
  subst h
  replace h := hr1
  try dsimp only at h
  exact hK3 _ (lh hk rfl (rn 1 rfl (ls_ret ((by cases h; exact ⟨.inl rfl, rfl⟩)))))
 refine ls_rec (fun (s : (List Y147) × Int) => match s with | (y1, y2) => [(2, .box [nI 0, oL 148 c148_o [], oL 3 ci64 []]), (3, .box [nI a0.1, oL 148 c148_o y1, oL 3 ci64 v1]), (13, dL c148_d a0.2.1), (14, nI (List.length a0.2.1 : Int)), (15, nI y2)]) _ _ _ _ hl (okr rfl) (fun _ => rfl) ?_
 rintro m ⟨y1, y2⟩ N h hN
 unfold impl_copyQuery_B1 at h
 dsimp only at h
 refine rn 1 rfl (ls_seq_k fun K5 hK5 => ?_)
 rcases cond_some h with ⟨g6, h⟩ | ⟨g6, h⟩
 ·refine qT rfl g6 (ls_skip (hK5 _ (ls_seq_k fun K7 hK7 => ls_blk (rs ?_))))
  obtain ⟨e8, g9, h⟩ := ob_some h
  refine qI rfl zc148_d g9 (sp 3 rfl (evn (rgd (by kernel_rfl) (sd 6 rfl (?_)))))
  obtain ⟨v10, g11, h⟩ := ob_some h
  refine ed rfl (qC (qa rfl (erD eci64 _) eran) (impl_copyInts_s g11) (sd 1 rfl (ed rfl (qBs c148_o [(e8.1, v10)] rfl rfl rfl zc148_o (?_)))))
  obtain ⟨g12, h⟩ := chk_some h
  exact ed rfl (qA c148_o y1 [(e8.1, v10)] rfl rfl (flat_len zc148_o [(e8.1, v10)]) rfl g12 (sd 2 rfl (evdn (hK7 _ (rg (sp 2 rfl (evn (hN _ _ h (okr rfl)))))))))
 ·exact qF rfl g6 (ls_exit (kXB1 (Option.some.inj h) _ (okr rfl)))
def impl_NewView (a0 : List Y119) (a1 : Y54) : Option (Y77 × Bool) := obind (impl_bindings a0 a1) fun v1 => cond (!v1.2) (some (((0, [], []), (0, [], [])), false)) (obind (impl_CountedFromRelation v1.1) fun v5 => obind (impl_ProjectCounted v5.1 a1.2.2) fun v7 => cond (!v7.2) (some (((0, [], []), (0, [], [])), false)) (obind (impl_copyQuery a1) fun v11 => some ((v11, v7.1), true)))
theorem impl_NewView_s {a0 : List Y119} {a1 : Y54} {r : Y77 × Bool} (h : impl_NewView a0 a1 = some r) : SoundAt Tryz.prog 61 [.agg [dL c120_dd a0], .agg (c55_ddd a1)] (.tup [.agg (c78_oooooo r.1), .bool r.2]) := by
 unfold impl_NewView at h
 refine st lit61 rfl (rn 1 rfl (rs (sp 2 rfl (?_))))
 obtain ⟨v1, g2, h⟩ := ob_some h
 refine qC (qa rfl (erg (erc (erD ec120_dd _) rfl)) (qa rfl (erg (erc rfl (erc (erD ec148_d _) (erc (erD eci64 _) rfl)))) eran)) (impl_bindings_s g2) (sp 6 rfl (evn (ls_seq_k fun K3 hK3 => rn 1 rfl ?_)))
 rcases cond_some h with ⟨g4, h⟩ | ⟨g4, h⟩
 ·exact qT rfl g4 (rn 1 rfl (ls_ret ((by cases h; exact ⟨.inl rfl, rfl⟩))))
 ·refine qF rfl g4 (ls_skip (hK3 _ (rs (sp 1 rfl (?_)))))
  obtain ⟨v5, g6, h⟩ := ob_some h
  refine qC (qa rfl (erg (erc rfl (erc (erD ec53_o _) rfl))) eran) (impl_CountedFromRelation_s g6) (sp 6 rfl (evn (rs (sp 3 rfl (?_)))))
  obtain ⟨v7, g8, h⟩ := ob_some h
  refine qC (qa rfl (erg (erc rfl (erc (erD ec53_o _) (erc (erD eci64 _) rfl)))) (qa rfl (erD eci64 _) eran)) (impl_ProjectCounted_s g8) (sp 6 rfl (evn (qk [3, 4, 10, 11] rfl (ls_seq_k fun K9 hK9 => rn 1 rfl ?_))))
  rcases cond_some h with ⟨g10, h⟩ | ⟨g10, h⟩
  ·exact qT rfl g10 (rn 1 rfl (ls_ret ((by cases h; exact ⟨.inl rfl, rfl⟩))))
  ·refine qF rfl g10 (ls_skip (hK9 _ (rd (by kernel_rfl) (sd 1 rfl (?_)))))
   obtain ⟨v11, g12, h⟩ := ob_some h
   exact ed rfl (qC (qa rfl (erg (erc rfl (erc (erD ec148_d _) (erc (erD eci64 _) rfl)))) eran) (impl_copyQuery_s g12) (sd 4 rfl (evdn (ls_ret ((by cases h; exact ⟨.inl rfl, rfl⟩))))))
def impl_IsValidView_J1 (x4 : Bool) : Option (Bool) := some x4
def impl_IsValidView (a0 : List Y119) (a1 : Y77) : Option (Bool) := obind (impl_NewView a0 a1.1) fun v1 => cond v1.2 (obind (impl_EqualCounted v1.1.2 a1.2) fun v6 => impl_IsValidView_J1 v6) (impl_IsValidView_J1 false)
theorem impl_IsValidView_s {a0 : List Y119} {a1 : Y77} {r : Bool} (h : impl_IsValidView a0 a1 = some r) : SoundAt Tryz.prog 42 [.agg [dL c120_dd a0], .agg (c78_dddddd a1)] (.bool r) := by
 unfold impl_IsValidView at h
 refine st lit42 rfl (rn 1 rfl (rs (sp 3 rfl (?_))))
 obtain ⟨v1, g2, h⟩ := ob_some h
 refine qC (qa rfl (erg (erc (erD ec120_dd _) rfl)) (qa rfl (erg (erc rfl (erc (erD ec148_d _) (erc (erD eci64 _) rfl)))) eran)) (impl_NewView_s g2) (sp 6 rfl (evn (rk fun K3 hK3 => ?_)))
 have kJ1 : ∀ {x4 : Bool}, impl_IsValidView_J1 x4 = some r → Jn K3 [(4, .bool x4)] := by
  intro x4 h σ' hk
  unfold impl_IsValidView_J1 at h
  exact hK3 _ (lh hk rfl (ls_ret ((by cases h; exact ⟨.inl rfl, rfl⟩))))
 refine sp 2 rfl (?_)
 rcases cond_some h with ⟨g5, h⟩ | ⟨g5, h⟩
 ·refine qg 15 g5 rfl (sp 4 rfl (?_))
  obtain ⟨v6, g7, h⟩ := ob_some h
  exact oGR rfl rfl (qC (qa rfl (erg (erc rfl (erc (erD ec53_o _) (erc (erD eci64 _) rfl)))) (qa rfl (erg (erc rfl (erc (erD ec53_d _) (erc (erD eci64 _) rfl)))) eran)) (impl_EqualCounted_s g7) (sp 2 rfl (evn (kJ1 h _ (okr rfl)))))
 ·exact qg 15 g5 rfl (sp 7 rfl (evn (kJ1 h _ (okr rfl))))
def impl_IsValidNotifier_B1 (a0 : Y36) (rec : Int → Option (Sum (Unit) (Bool))) (y1 : Int) : Option (Sum (Unit) (Bool)) := cond (decide (y1 < (List.length a0.2.1 : Int))) (obind (geti a0.2.1 y1) fun e11 => obind (impl_IsValidView a0.1 e11) fun v13 => cond (!v13) (some (.inr false)) (obind (geti a0.2.2 y1) fun e16 => obind (impl_EqualCounted e16 e11.2) fun v18 => cond (!v18) (some (.inr false)) (rec (IntKind.i64.wrap (y1 + 1))))) (some (.inl ()))
def impl_IsValidNotifier (a0 : Y36) : Option (Bool) := obind (impl_IsValidDatabase a0.1) fun v2 => cond (!v2) (some false) (cond (decide (4 < (List.length a0.2.1 : Int))) (some false) (cond ((List.length a0.2.2 : Int) != (List.length a0.2.1 : Int)) (some false) (obind (loopF (impl_IsValidNotifier_B1 a0) fz 0) fun o1 => (match o1 with
  | .inl _ => (some true)
  | .inr r => some r))))
theorem impl_IsValidNotifier_s {a0 : Y36} {r : Bool} (h : impl_IsValidNotifier a0 = some r) : SoundAt Tryz.prog 10 [.agg (c37_dddddddddddddd a0)] (.bool r) := by
 unfold impl_IsValidNotifier at h
 refine st lit10 rfl (rn 2 rfl (ls_seq_k fun K1 hK1 => rs (sp 2 rfl (?_))))
 obtain ⟨v2, g3, h⟩ := ob_some h
 refine qC (qa rfl (erg (erc (erD ec120_dd _) rfl)) eran) (impl_IsValidDatabase_s g3) (sp 2 rfl (?_))
 rcases cond_some h with ⟨g4, h⟩ | ⟨g4, h⟩
 ·exact qg 11 g4 rfl (sp 14 rfl (evn (qT rfl rfl (rn 1 rfl (ls_ret ((by cases h; exact ⟨.inl rfl, rfl⟩)))))))
 ·refine qg 11 g4 rfl (sp 6 rfl (?_))
  rcases cond_some h with ⟨g5, h⟩ | ⟨g5, h⟩
  ·exact qg 17 g5 rfl (sp 8 rfl (evn (qk [3, 25] rfl (qT rfl rfl (rn 1 rfl (ls_ret ((by cases h; exact ⟨.inl rfl, rfl⟩))))))))
  ·refine qg 17 g5 rfl (sp 8 rfl (evn ?_))
   rcases cond_some h with ⟨g6, h⟩ | ⟨g6, h⟩
   ·exact qT rfl g6 (rn 1 rfl (ls_ret ((by cases h; exact ⟨.inl rfl, rfl⟩))))
   ·refine qF rfl g6 (ls_skip (hK1 _ (ls_seq_k fun K7 hK7 => rn 1 rfl ?_)))
    obtain ⟨o1, hl, hr1⟩ := ob_some h
    have kXB1 : (.inl ()) = o1 → Jn K7 [] := by
     intro h σ' hk
     subst h
     replace h := hr1
     try dsimp only at h
     exact hK7 _ (lh hk rfl (rn 1 rfl (ls_ret ((by cases h; exact ⟨.inl rfl, rfl⟩)))))
    refine ls_rec (fun (y1 : Int) => [(3, .box [dL c120_dd a0.1, dL c78_dddddd a0.2.1, dL c76_ddd a0.2.2]), (27, dL c78_dddddd a0.2.1), (28, nI (List.length a0.2.1 : Int)), (29, nI y1)]) _ _ _ _ hl (okr rfl) (fun _ => rfl) ?_
    rintro m y1 N h hN
    unfold impl_IsValidNotifier_B1 at h
    refine rn 1 rfl (ls_seq_k fun K8 hK8 => ?_)
    rcases cond_some h with ⟨g9, h⟩ | ⟨g9, h⟩
    ·refine qT rfl g9 (ls_skip (hK8 _ (ls_seq_k fun K10 hK10 => ls_blk (rs (sp 1 rfl (?_))))))
     obtain ⟨e11, g12, h⟩ := ob_some h
     refine qI rfl zc78_dddddd g12 (sp 4 rfl (evn (rd (by kernel_rfl) (sd 3 rfl (?_)))))
     obtain ⟨v13, g14, h⟩ := ob_some h
     refine ed rfl (qC (qa rfl (erg (erc (erD ec120_dd _) rfl)) (qa rfl (erg (erc rfl (erc (erD ec148_d _) (erc (erD eci64 _) (erc rfl (erc (erD ec53_d _) (erc (erD eci64 _) rfl))))))) eran)) (impl_IsValidView_s g14) (sd 2 rfl (?_)))
     rcases cond_some h with ⟨g15, h⟩ | ⟨g15, h⟩
     ·exact qgd 39 g15 rfl (sd 10 rfl (evdn (qT rfl rfl (rn 1 rfl (qk [2] rfl (ls_ret ((by cases h; cases hr1; exact ⟨.inl rfl, rfl⟩))))))))
     ·refine qgd 39 g15 rfl (sd 3 rfl (?_))
      obtain ⟨e16, g17, h⟩ := ob_some h
      refine ed rfl (oGR rfl rfl (qI rfl zc76_ddd g17 (sd 3 rfl (?_))))
      obtain ⟨v18, g19, h⟩ := ob_some h
      refine ed rfl (oGR rfl rfl (qC (qa rfl (erg (erc rfl (erc (erD ec53_d _) (erc (erD eci64 _) rfl)))) (qa rfl (erg (erc rfl (erc (erD ec53_d _) (erc (erD eci64 _) rfl)))) eran)) (impl_EqualCounted_s g19) (sd 2 rfl (evdn ?_))))
      rcases cond_some h with ⟨g20, h⟩ | ⟨g20, h⟩
      ·exact qT rfl g20 (rn 1 rfl (ls_ret ((by cases h; cases hr1; exact ⟨.inl rfl, rfl⟩))))
      ·exact qF rfl g20 (ls_skip (hK10 _ (rg (sp 2 rfl (evn (hN _ _ h (okr rfl)))))))
    ·exact qF rfl g9 (ls_exit (kXB1 (Option.some.inj h) _ trivial))
def impl_RowsOfCounted_B1 (a0 : Y75) (rec : Int → Option (Sum (Unit) (Y42 × Bool))) (y1 : Int) : Option (Sum (Unit) (Y42 × Bool)) := cond (decide (y1 < (List.length a0.2.2 : Int))) (obind (geti a0.2.2 y1) fun e9 => cond (decide (e9 < 0)) (some (.inr ((0, []), false))) (rec (IntKind.i64.wrap (y1 + 1)))) (some (.inl ()))
def impl_RowsOfCounted (a0 : Y75) : Option (Y42 × Bool) := obind (impl_IsValidCounted a0) fun v2 => cond (!v2) (some ((0, []), false)) (obind (loopF (impl_RowsOfCounted_B1 a0) fz 0) fun o1 => (match o1 with
  | .inl _ => (obind (impl_copyRows a0.2.1) fun v12 => some ((a0.1, v12), true))
  | .inr r => some r))
theorem impl_RowsOfCounted_s {a0 : Y75} {r : Y42 × Bool} (h : impl_RowsOfCounted a0 = some r) : SoundAt Tryz.prog 103 [.agg (c76_ddd a0)] (.tup [.agg (c43_oo r.1), .bool r.2]) := by
 unfold impl_RowsOfCounted at h
 refine st lit103 rfl (rn 1 rfl (ls_seq_k fun K1 hK1 => rs (sp 1 rfl (?_))))
 obtain ⟨v2, g3, h⟩ := ob_some h
 refine qC (qa rfl (erg (erc rfl (erc (erD ec53_d _) (erc (erD eci64 _) rfl)))) eran) (impl_IsValidCounted_s g3) (sp 1 rfl (evn ?_))
 rcases cond_some h with ⟨g4, h⟩ | ⟨g4, h⟩
 ·exact qT rfl g4 (rn 1 rfl (ls_ret ((by cases h; exact ⟨.inl rfl, rfl⟩))))
 ·refine qF rfl g4 (ls_skip (hK1 _ (ls_seq_k fun K5 hK5 => rn 1 rfl ?_)))
  obtain ⟨o1, hl, hr1⟩ := ob_some h
  have kXB1 : (.inl ()) = o1 → Jn K5 [(1, .box [nI a0.1, dL c53_d a0.2.1, dL ci64 a0.2.2]), (2, .box [nI 0, oL 53 c53_o []])] := by
   intro h σ' hk
   subst h
   replace h := hr1
   try dsimp only at h
   refine hK5 _ (lh hk rfl (rd (by kernel_rfl) (sd 4 rfl (?_))))
   obtain ⟨v12, g13, h⟩ := ob_some h
   exact ed rfl (qC (qa rfl (erD ec53_d _) eran) (impl_copyRows_s g13) (sd 3 rfl (evdn (ls_ret ((by cases h; exact ⟨.inl rfl, rfl⟩))))))
  refine ls_rec (fun (y1 : Int) => [(1, .box [nI a0.1, dL c53_d a0.2.1, dL ci64 a0.2.2]), (2, .box [nI 0, oL 53 c53_o []]), (11, dL ci64 a0.2.2), (12, nI (List.length a0.2.2 : Int)), (13, nI y1)]) _ _ _ _ hl (okr rfl) (fun _ => rfl) ?_
  rintro m y1 N h hN
  unfold impl_RowsOfCounted_B1 at h
  refine rn 1 rfl (ls_seq_k fun K6 hK6 => ?_)
  rcases cond_some h with ⟨g7, h⟩ | ⟨g7, h⟩
  ·refine qT rfl g7 (ls_skip (hK6 _ (ls_seq_k fun K8 hK8 => ls_blk (rs ?_))))
   obtain ⟨e9, g10, h⟩ := ob_some h
   refine qI rfl zci64 g10 (sp 2 rfl (evn (rn 1 rfl ?_)))
   rcases cond_some h with ⟨g11, h⟩ | ⟨g11, h⟩
   ·exact qT rfl g11 (rn 1 rfl (ls_ret ((by cases h; cases hr1; exact ⟨.inl rfl, rfl⟩))))
   ·exact qF rfl g11 (ls_skip (hK8 _ (rg (sp 2 rfl (evn (hN _ _ h (okr rfl)))))))
  ·exact qF rfl g7 (ls_exit (kXB1 (Option.some.inj h) _ (okr rfl)))
def impl_ViewRows (a0 : Y77) : Option (Y42 × Bool) := obind (impl_RowsOfCounted a0.2) fun v1 => some (v1.1, v1.2)
theorem impl_ViewRows_s {a0 : Y77} {r : Y42 × Bool} (h : impl_ViewRows a0 = some r) : SoundAt Tryz.prog 50 [.agg (c78_dddddd a0)] (.tup [.agg (c43_oo r.1), .bool r.2]) := by
 unfold impl_ViewRows at h
 refine st lit50 rfl (rn 1 rfl (rs (sp 2 rfl (?_))))
 obtain ⟨v1, g2, h⟩ := ob_some h
 exact qC (qa rfl (erg (erc rfl (erc (erD ec53_d _) (erc (erD eci64 _) rfl)))) eran) (impl_RowsOfCounted_s g2) (sp 4 rfl (evn (ls_ret ((by cases h; exact ⟨.inl rfl, rfl⟩)))))
def impl_WatcherRows (a0 : Y36) (a1 : Int) : Option (Y42 × Bool) := obind (impl_IsValidNotifier a0) fun v2 => cond (!v2) (some ((0, []), false)) (obind (impl_within a1 0 (IntKind.i64.wrap ((List.length a0.2.1 : Int) - 1))) fun v5 => cond (!v5) (some ((0, []), false)) (obind (geti a0.2.1 a1) fun e8 => obind (impl_ViewRows e8) fun v10 => some (v10.1, v10.2)))
theorem impl_WatcherRows_s {a0 : Y36} {a1 : Int} {r : Y42 × Bool} (h : impl_WatcherRows a0 a1 = some r) : SoundAt Tryz.prog 13 [.agg (c37_dddddddddddddd a0), nI a1] (.tup [.agg (c43_oo r.1), .bool r.2]) := by
 unfold impl_WatcherRows at h
 refine st lit13 rfl (rn 1 rfl (ls_seq_k fun K1 hK1 => rs (sp 1 rfl (?_))))
 obtain ⟨v2, g3, h⟩ := ob_some h
 refine qC (qa rfl (erg (erc (erD ec120_dd _) (erc (erD ec78_dddddd _) (erc (erD ec76_ddd _) rfl)))) eran) (impl_IsValidNotifier_s g3) (sp 2 rfl (?_))
 rcases cond_some h with ⟨g4, h⟩ | ⟨g4, h⟩
 ·exact qg 9 g4 rfl (sp 8 rfl (evn (qT rfl rfl (rn 1 rfl (ls_ret ((by cases h; exact ⟨.inl rfl, rfl⟩)))))))
 ·refine qg 9 g4 rfl (sp 5 rfl (?_))
  obtain ⟨v5, g6, h⟩ := ob_some h
  refine oGR rfl rfl (qC (qs rfl (qs rfl (qs rfl eran))) (impl_within_s g6) (sp 2 rfl (evn ?_)))
  rcases cond_some h with ⟨g7, h⟩ | ⟨g7, h⟩
  ·exact qT rfl g7 (rn 1 rfl (qk [4, 5] rfl (ls_ret ((by cases h; exact ⟨.inl rfl, rfl⟩)))))
  ·refine qF rfl g7 (ls_skip (hK1 _ (rs (sp 3 rfl (?_)))))
   obtain ⟨e8, g9, h⟩ := ob_some h
   refine qI rfl zc78_dddddd g9 (sp 1 rfl (?_))
   obtain ⟨v10, g11, h⟩ := ob_some h
   exact qC (qa rfl (erg (erc rfl (erc (erD ec148_d _) (erc (erD eci64 _) (erc rfl (erc (erD ec53_d _) (erc (erD eci64 _) rfl))))))) eran) (impl_ViewRows_s g11) (sp 4 rfl (evn (ls_ret ((by cases h; exact ⟨.inl rfl, rfl⟩)))))
def laws_heldIntS_B1 (a0 : List Int) (rec : (Int × Int) → Option (Sum (Int) (Int))) (s : Int × Int) : Option (Sum (Int) (Int)) := match s with
  | (y1, y2) => cond (decide (y2 < (List.length a0 : Int))) (obind (geti a0 y2) fun e7 => cond (e7 != y1) (some (.inr (-1))) (rec ((IntKind.i64.wrap (y1 + 1)), (IntKind.i64.wrap (y2 + 1))))) (some (.inl y1))
def laws_heldIntS (a0 : List Int) (a1 : Int) : Option (Int) := obind (loopF (laws_heldIntS_B1 a0) fz (a1, 0)) fun o1 => (match o1 with
  | .inl z2 => (some z2)
  | .inr r => some r)
theorem laws_heldIntS_s {a0 : List Int} {a1 : Int} {r : Int} (h : laws_heldIntS a0 a1 = some r) : SoundAt Tryz.prog 105 [dL ci64 a0, nI a1] (nI r) := by
 unfold laws_heldIntS at h
 refine st lit105 rfl (rn 1 rfl (ls_seq_k fun K1 hK1 => rn 1 rfl ?_))
 obtain ⟨o1, hl, hr1⟩ := ob_some h
 have kXB1 : ∀ {z2 : Int}, (.inl z2) = o1 → Jn K1 [(1, nI z2)] := by
  intro z2 h σ' hk
  subst h
  replace h := hr1
  try dsimp only at h
  exact hK1 _ (lh hk rfl (rn 1 rfl (ls_ret ((by cases h; exact ⟨.inl rfl, rfl⟩)))))
 refine ls_rec (fun (s : Int × Int) => match s with | (y1, y2) => [(0, dL ci64 a0), (1, nI y1), (5, nI y2)]) _ _ _ _ hl (okr rfl) (fun _ => rfl) ?_
 rintro m ⟨y1, y2⟩ N h hN
 unfold laws_heldIntS_B1 at h
 dsimp only at h
 refine ls_seq_k fun K3 hK3 => rn 1 rfl ?_
 rcases cond_some h with ⟨g4, h⟩ | ⟨g4, h⟩
 ·refine qT rfl g4 (ls_skip (hK3 _ (ls_seq_k fun K5 hK5 => ls_blk (ls_seq_k fun K6 hK6 => rs (sp 2 rfl (?_))))))
  obtain ⟨e7, g8, h⟩ := ob_some h
  refine qI rfl zci64 g8 (sp 3 rfl (evn ?_))
  rcases cond_some h with ⟨g9, h⟩ | ⟨g9, h⟩
  ·exact qT rfl g9 (rn 1 rfl (ls_ret ((by cases h; cases hr1; exact ⟨.inl rfl, rfl⟩))))
  ·exact qF rfl g9 (ls_skip (hK6 _ (rg (sp 3 rfl (evn (hK5 _ (rg (sp 3 rfl (evn (hN _ _ h (okr rfl)))))))))))
 ·exact qF rfl g4 (ls_exit (kXB1 (Option.some.inj h) _ (okr rfl)))
def laws_heldIntSS_B1 (a0 : List (List Int)) (rec : (Int × Int) → Option (Sum (Int) (Int))) (s : Int × Int) : Option (Sum (Int) (Int)) := match s with
  | (y1, y2) => cond (decide (y2 < (List.length a0 : Int))) (obind (geti a0 y2) fun e6 => obind (laws_heldIntS e6 y1) fun v8 => cond (decide (v8 < 0)) (some (.inr (-1))) (rec (v8, (IntKind.i64.wrap (y2 + 1))))) (some (.inl y1))
def laws_heldIntSS (a0 : List (List Int)) (a1 : Int) : Option (Int) := obind (loopF (laws_heldIntSS_B1 a0) fz (a1, 0)) fun o1 => (match o1 with
  | .inl z2 => (some z2)
  | .inr r => some r)
theorem laws_heldIntSS_s {a0 : List (List Int)} {a1 : Int} {r : Int} (h : laws_heldIntSS a0 a1 = some r) : SoundAt Tryz.prog 56 [dL c53_d a0, nI a1] (nI r) := by
 unfold laws_heldIntSS at h
 refine st lit56 rfl (rn 1 rfl (ls_seq_k fun K1 hK1 => rn 1 rfl ?_))
 obtain ⟨o1, hl, hr1⟩ := ob_some h
 have kXB1 : ∀ {z2 : Int}, (.inl z2) = o1 → Jn K1 [(1, nI z2)] := by
  intro z2 h σ' hk
  subst h
  replace h := hr1
  try dsimp only at h
  exact hK1 _ (lh hk rfl (rn 1 rfl (ls_ret ((by cases h; exact ⟨.inl rfl, rfl⟩)))))
 refine ls_rec (fun (s : Int × Int) => match s with | (y1, y2) => [(0, dL c53_d a0), (1, nI y1), (5, nI y2)]) _ _ _ _ hl (okr rfl) (fun _ => rfl) ?_
 rintro m ⟨y1, y2⟩ N h hN
 unfold laws_heldIntSS_B1 at h
 dsimp only at h
 refine ls_seq_k fun K3 hK3 => rn 1 rfl ?_
 rcases cond_some h with ⟨g4, h⟩ | ⟨g4, h⟩
 ·refine qT rfl g4 (ls_skip (hK3 _ (ls_seq_k fun K5 hK5 => ls_blk (rs (sp 2 rfl (?_))))))
  obtain ⟨e6, g7, h⟩ := ob_some h
  refine qI rfl zc53_d g7 (sp 2 rfl (?_))
  obtain ⟨v8, g9, h⟩ := ob_some h
  refine qC (qa rfl (erD eci64 _) (qs rfl eran)) (laws_heldIntS_s g9) (sp 1 rfl (evn (rn 1 rfl ?_)))
  rcases cond_some h with ⟨g10, h⟩ | ⟨g10, h⟩
  ·exact qT rfl g10 (rn 1 rfl (ls_ret ((by cases h; cases hr1; exact ⟨.inl rfl, rfl⟩))))
  ·exact qF rfl g10 (ls_skip (hK5 _ (rg (sp 3 rfl (evn (hN _ _ h (okr rfl)))))))
 ·exact qF rfl g4 (ls_exit (kXB1 (Option.some.inj h) _ (okr rfl)))
def laws_heldRelation (a0 : Y42) (a1 : Int) : Option (Int) := obind (laws_heldIntSS a0.2 a1) fun v1 => cond (decide (v1 < 0)) (some (-1)) (some v1)
theorem laws_heldRelation_s {a0 : Y42} {a1 : Int} {r : Int} (h : laws_heldRelation a0 a1 = some r) : SoundAt Tryz.prog 17 [.agg (c43_dd a0), nI a1] (nI r) := by
 unfold laws_heldRelation at h
 refine st lit17 rfl (rn 1 rfl (rs (sp 3 rfl (?_))))
 obtain ⟨v1, g2, h⟩ := ob_some h
 refine qC (qa rfl (erD ec53_d _) (qs rfl eran)) (laws_heldIntSS_s g2) (sp 1 rfl (evn (ls_seq_k fun K3 hK3 => rn 1 rfl ?_)))
 rcases cond_some h with ⟨g4, h⟩ | ⟨g4, h⟩
 ·exact qT rfl g4 (rn 1 rfl (ls_ret ((by cases h; exact ⟨.inl rfl, rfl⟩))))
 ·exact qF rfl g4 (ls_skip (hK3 _ (rn 1 rfl (ls_ret ((by cases h; exact ⟨.inl rfl, rfl⟩))))))
def laws_FnExactWatcherRows (a0 : Y27) (a1 : Int) : Option (Bool) := obind (laws_szNotifier a0 1048576) fun v1 => cond (decide (v1 < 0)) (some true) (obind (laws_toNotifier a0) fun v5 => obind (spec_WatcherRows v5 a1) fun v7 => obind (laws_toNotifier a0) fun v9 => obind (impl_WatcherRows v9 a1) fun v11 => obind (laws_eqRelation v11.1 v7.1) fun v14 => cond (!v14) (some false) (cond (!(v11.2 == v7.2)) (some false) (obind (laws_toNotifier a0) fun v19 => obind (laws_eqNotifier v9 v19) fun v21 => cond (!v21) (some false) (obind (laws_markNotifier v9 1) fun v24 => cond (decide (v24.2 < 0)) (some false) (obind (laws_eqRelation v11.1 v7.1) fun v28 => cond (!v28) (some false) (cond (!(v11.2 == v7.2)) (some false) (obind (laws_markRelation v11.1 1) fun v32 => obind (laws_heldRelation v32.1 1) fun v34 => cond (decide (v34 < 0)) (some false) (cond (v34 != v32.2) (some false) (obind (laws_toNotifier a0) fun v40 => obind (impl_WatcherRows v40 a1) fun v42 => obind (laws_eqRelation v42.1 v7.1) fun v45 => cond (!v45) (some false) (cond (!(v42.2 == v7.2)) (some false) (obind (laws_heldRelation v32.1 1) fun v49 => cond (decide (v49 < 0)) (some false) (cond (v49 != v32.2) (some false) (some true)))))))))))))
theorem laws_FnExactWatcherRows_s {a0 : Y27} {a1 : Int} {r : Bool} (h : laws_FnExactWatcherRows a0 a1 = some r) : SoundAt Tryz.prog 4 [.agg (c28_aaaaaaaaaaaaaa a0), nI a1] (.bool r) := by
 unfold laws_FnExactWatcherRows at h
 refine st lit4 rfl (rn 2 rfl (rs (sp 2 rfl (?_))))
 obtain ⟨v1, g2, h⟩ := ob_some h
 refine qC (qa rfl (erg (erc (erG ec168_aa _) (erc (erG ec117_aaaaaa _) (erc (erG ec115_aaa _) rfl)))) (qs rfl eran)) (laws_szNotifier_s g2) (sp 1 rfl (evn (ls_seq_k fun K3 hK3 => rn 1 rfl ?_)))
 rcases cond_some h with ⟨g4, h⟩ | ⟨g4, h⟩
 ·exact qT rfl g4 (rn 1 rfl (ls_ret ((by cases h; exact ⟨.inl rfl, rfl⟩))))
 ·refine qF rfl g4 (ls_skip (hK3 _ (rs (sp 1 rfl (?_)))))
  obtain ⟨v5, g6, h⟩ := ob_some h
  refine qC (qa rfl (erg (erc (erG ec168_aa _) (erc (erG ec117_aaaaaa _) (erc (erG ec115_aaa _) rfl)))) eran) (laws_toNotifier_s g6) (sp 1 rfl (?_))
  obtain ⟨v7, g8, h⟩ := ob_some h
  refine qC (qa rfl (erg (erc (erO ec120_oo _) (erc (erO ec78_oooooo _) (erc (erO ec76_ooo _) rfl)))) (qs rfl eran)) (spec_WatcherRows_s g8) (sp 6 rfl (evn (qk [1, 2, 6, 7] rfl (rs (sp 1 rfl (?_))))))
  obtain ⟨v9, g10, h⟩ := ob_some h
  refine qC (qa rfl (erg (erc (erG ec168_aa _) (erc (erG ec117_aaaaaa _) (erc (erG ec115_aaa _) rfl)))) eran) (laws_toNotifier_s g10) (sp 2 rfl (evn (rs (sp 2 rfl (?_)))))
  obtain ⟨v11, g12, h⟩ := ob_some h
  refine qC (qa rfl (erg (erc (erD ec120_oo _) (erc (erD ec78_oooooo _) (erc (erD ec76_ooo _) rfl)))) (qs rfl eran)) (impl_WatcherRows_s g12) (sp 6 rfl (evn (ls_seq_k fun K13 hK13 => rs (sp 2 rfl (?_)))))
  obtain ⟨v14, g15, h⟩ := ob_some h
  refine qC (qa rfl (erg (erc rfl (erc (erD ec53_o _) rfl))) (qa rfl (erg (erc rfl (erc (erD ec53_o _) rfl))) eran)) (laws_eqRelation_s g15) (sp 2 rfl (?_))
  rcases cond_some h with ⟨g16, h⟩ | ⟨g16, h⟩
  ·exact qg 40 g16 rfl (sp 4 rfl (evn (qT rfl rfl (rn 1 rfl (ls_ret ((by cases h; exact ⟨.inl rfl, rfl⟩)))))))
  ·refine qg 40 g16 rfl (sp 4 rfl (evn ?_))
   rcases cond_some h with ⟨g17, h⟩ | ⟨g17, h⟩
   ·exact qT rfl g17 (rn 1 rfl (qk [4] rfl (ls_ret ((by cases h; exact ⟨.inl rfl, rfl⟩)))))
   ·refine qF rfl g17 (ls_skip (hK13 _ (ls_seq_k fun K18 hK18 => rd (by kernel_rfl) (sd 2 rfl (?_)))))
    obtain ⟨v19, g20, h⟩ := ob_some h
    refine ed rfl (qC (qa rfl (erg (erc (erG ec168_aa _) (erc (erG ec117_aaaaaa _) (erc (erG ec115_aaa _) rfl)))) eran) (laws_toNotifier_s g20) (?_))
    obtain ⟨v21, g22, h⟩ := ob_some h
    refine ed rfl (qC (qa rfl (erg (erc (erD ec120_oo _) (erc (erD ec78_oooooo _) (erc (erD ec76_ooo _) rfl)))) (qa rfl (erg (erc (erO ec120_oo _) (erc (erO ec78_oooooo _) (erc (erO ec76_ooo _) rfl)))) eran)) (laws_eqNotifier_s g22) (sd 1 rfl (evdn ?_)))
    rcases cond_some h with ⟨g23, h⟩ | ⟨g23, h⟩
    ·exact qT rfl g23 (rn 1 rfl (ls_ret ((by cases h; exact ⟨.inl rfl, rfl⟩))))
    ·refine qF rfl g23 (ls_skip (hK18 _ (rn 1 rfl (qk [1, 2, 6, 7, 8, 9, 10, 11] rfl ?_))))
     obtain ⟨v24, g25, h⟩ := ob_some h
     refine ls_mark (src_box tbOk rfl rfl rfl) rfl rfl (laws_markNotifier_m g25) (dp37 _) (sf_of (sfc rfl (sfc (scc (sca ad168 _) (scc (sca ad117 _) (scc (sca ad115 _) scn))) (sfc (scc rfl (scc (sco dp53 _) scn)) (sfc rfl (sfs (sfc (scc rfl (scc (sco dp53 _) scn)) (sfc rfl (sfc rfl sfn))))))))) rfl rfl ⟨by decide, by decide⟩ rfl rfl (kp [(1, nI a1), (2, .box [aL c168_aa a0.1, aL c117_aaaaaa a0.2.1, aL c115_aaa a0.2.2]), (6, .box [nI v7.1.1, oL 53 c53_o v7.1.2]), (7, .bool v7.2), (9, .box [nI v11.1.1, oL 53 c53_o v11.1.2]), (10, .bool v11.2), (11, nI v24.2)] rfl rfl (ls_seq_k fun K26 hK26 => rs (sp 3 rfl (?_))))
     rcases cond_some h with ⟨g27, h⟩ | ⟨g27, h⟩
     ·exact qg 55 g27 rfl (sp 10 rfl (evn (qT rfl rfl (rn 1 rfl (ls_ret ((by cases h; exact ⟨.inl rfl, rfl⟩)))))))
     ·refine qg 55 g27 rfl (sp 2 rfl (?_))
      obtain ⟨v28, g29, h⟩ := ob_some h
      refine oGR rfl rfl (qC (qa rfl (erg (erc rfl (erc (erD ec53_o _) rfl))) (qa rfl (erg (erc rfl (erc (erD ec53_o _) rfl))) eran)) (laws_eqRelation_s g29) (sp 3 rfl (?_)))
      rcases cond_some h with ⟨g30, h⟩ | ⟨g30, h⟩
      ·exact qg 61 g30 rfl (sp 4 rfl (evn (qT rfl rfl (rn 1 rfl (qk [4] rfl (ls_ret ((by cases h; exact ⟨.inl rfl, rfl⟩))))))))
      ·refine qg 61 g30 rfl (sp 4 rfl (evn ?_))
       rcases cond_some h with ⟨g31, h⟩ | ⟨g31, h⟩
       ·exact qT rfl g31 (rn 1 rfl (ls_ret ((by cases h; exact ⟨.inl rfl, rfl⟩))))
       ·refine qF rfl g31 (ls_skip (hK26 _ (rn 1 rfl (qk [1, 2, 6, 7, 9, 12] rfl ?_))))
        obtain ⟨v32, g33, h⟩ := ob_some h
        refine ls_mark (src_box tbOk rfl rfl rfl) rfl rfl (laws_markRelation_m g33) (dp43 _) (sf_of (sfc rfl (sfc (scc (sca ad168 _) (scc (sca ad117 _) (scc (sca ad115 _) scn))) (sfc (scc rfl (scc (sco dp53 _) scn)) (sfc rfl (sfs (sfc rfl sfn))))))) rfl rfl ⟨by decide, by decide⟩ rfl rfl (kp [(1, nI a1), (2, .box [aL c168_aa a0.1, aL c117_aaaaaa a0.2.1, aL c115_aaa a0.2.2]), (6, .box [nI v7.1.1, oL 53 c53_o v7.1.2]), (7, .bool v7.2), (9, .box [nI v32.1.1, oL 53 c53_o v32.1.2]), (12, nI v32.2)] rfl rfl (rn 1 rfl (rs (sp 2 rfl (?_)))))
        obtain ⟨v34, g35, h⟩ := ob_some h
        refine qC (qa rfl (erg (erc rfl (erc (erD ec53_o _) rfl))) (qs rfl eran)) (laws_heldRelation_s g35) (sp 1 rfl (evn (ls_seq_k fun K36 hK36 => rn 1 rfl ?_)))
        rcases cond_some h with ⟨g37, h⟩ | ⟨g37, h⟩
        ·exact qT rfl g37 (rn 1 rfl (ls_ret ((by cases h; exact ⟨.inl rfl, rfl⟩))))
        ·refine qF rfl g37 (ls_skip (hK36 _ (ls_seq_k fun K38 hK38 => rn 1 rfl ?_)))
         rcases cond_some h with ⟨g39, h⟩ | ⟨g39, h⟩
         ·exact qT rfl g39 (rn 1 rfl (qk [4] rfl (ls_ret ((by cases h; exact ⟨.inl rfl, rfl⟩)))))
         ·refine qF rfl g39 (ls_skip (hK38 _ (rs (sp 1 rfl (?_)))))
          obtain ⟨v40, g41, h⟩ := ob_some h
          refine qC (qa rfl (erg (erc (erG ec168_aa _) (erc (erG ec117_aaaaaa _) (erc (erG ec115_aaa _) rfl)))) eran) (laws_toNotifier_s g41) (sp 1 rfl (?_))
          obtain ⟨v42, g43, h⟩ := ob_some h
          refine qC (qa rfl (erg (erc (erO ec120_oo _) (erc (erO ec78_oooooo _) (erc (erO ec76_ooo _) rfl)))) (qs rfl eran)) (impl_WatcherRows_s g43) (sp 6 rfl (evn (ls_seq_k fun K44 hK44 => rs (sp 2 rfl (?_)))))
          obtain ⟨v45, g46, h⟩ := ob_some h
          refine qC (qa rfl (erg (erc rfl (erc (erD ec53_o _) rfl))) (qa rfl (erg (erc rfl (erc (erD ec53_o _) rfl))) eran)) (laws_eqRelation_s g46) (sp 2 rfl (?_))
          rcases cond_some h with ⟨g47, h⟩ | ⟨g47, h⟩
          ·exact qg 88 g47 rfl (sp 4 rfl (evn (qT rfl rfl (rn 1 rfl (ls_ret ((by cases h; exact ⟨.inl rfl, rfl⟩)))))))
          ·refine qg 88 g47 rfl (sp 4 rfl (evn ?_))
           rcases cond_some h with ⟨g48, h⟩ | ⟨g48, h⟩
           ·exact qT rfl g48 (rn 1 rfl (qk [4] rfl (ls_ret ((by cases h; exact ⟨.inl rfl, rfl⟩)))))
           ·refine qF rfl g48 (ls_skip (hK44 _ (rn 1 rfl (rs (sp 2 rfl (?_))))))
            obtain ⟨v49, g50, h⟩ := ob_some h
            refine qC (qa rfl (erg (erc rfl (erc (erD ec53_o _) rfl))) (qs rfl eran)) (laws_heldRelation_s g50) (sp 1 rfl (evn (ls_seq_k fun K51 hK51 => rn 1 rfl ?_)))
            rcases cond_some h with ⟨g52, h⟩ | ⟨g52, h⟩
            ·exact qT rfl g52 (rn 1 rfl (ls_ret ((by cases h; exact ⟨.inl rfl, rfl⟩))))
            ·refine qF rfl g52 (ls_skip (hK51 _ (ls_seq_k fun K53 hK53 => rn 1 rfl ?_)))
             rcases cond_some h with ⟨g54, h⟩ | ⟨g54, h⟩
             ·exact qT rfl g54 (rn 1 rfl (qk [4] rfl (ls_ret ((by cases h; exact ⟨.inl rfl, rfl⟩)))))
             ·exact qF rfl g54 (ls_skip (hK53 _ (rn 1 rfl (ls_ret ((by cases h; exact ⟨.inl rfl, rfl⟩))))))
end Go.Proofs.YtceghmdneadhbaaGreat
