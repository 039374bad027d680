/-
  Functions of the program as typed functions, printed by gen.py, and that the program's functions do what they say. No conditions.
-/
import Derived.Test.YtceghmdneadhbaaGreatGScWA1
namespace Go.Proofs.YtceghmdneadhbaaGreat
open Go.RowKit
set_option linter.unusedVariables false
set_option maxRecDepth 100000
set_option maxHeartbeats 1000000
def impl_EqualDatabases_B1 (a0 : List Y119) (a1 : List Y119) (rec : Int -> Option (Sum (Unit) (Bool))) (y1 : Int) : Option (Sum (Unit) (Bool)) := cond (decide (y1 < (List.length a0 : Int))) (obind (geti a0 y1) fun e7 => obind (geti a1 y1) fun e9 => cond (!(e7.1 == e9.1)) (some (.inr false)) (obind (geti a0 y1) fun e12 => obind (geti a1 y1) fun e14 => obind (impl_EqualRelations e12.2 e14.2) fun v16 => cond (!v16) (some (.inr false)) (rec (IntKind.i64.wrap (y1 + 1))))) (some (.inl ()))
def impl_EqualDatabases (a0 : List Y119) (a1 : List Y119) : Option (Bool) := cond ((List.length a0 : Int) != (List.length a1 : Int)) (some false) (obind (loopF (impl_EqualDatabases_B1 a0 a1) fz 0) fun o1 => (match o1 with
  | .inl _ => (some true)
  | .inr r => some r))
theorem impl_EqualDatabases_s {a0 : List Y119} {a1 : List Y119} {r : Bool} (h : impl_EqualDatabases a0 a1 = some r) : SoundAt Tryz.prog 73 [.agg [dL c120_dd a0], .agg [dL c120_dd a1]] (.bool r) := by
 unfold impl_EqualDatabases at h
 refine st lit73 rfl (rn 1 rfl (ls_seq_k fun K1 hK1 => rn 1 rfl ?_))
 rcases cond_some h with ⟨g2, h⟩ | ⟨g2, h⟩
 ·exact qT rfl g2 (rn 1 rfl (ls_ret ((by cases h; exact ⟨.inl rfl, rfl⟩))))
 ·refine qF rfl g2 (ls_skip (hK1 _ (ls_seq_k fun K3 hK3 => rn 1 rfl ?_)))
  obtain ⟨o1, hl, hr1⟩ := ob_some h
  have kXB1 : (.inl ()) = o1 -> Jn K3 [] := by
   intro h σ' hk
   subst h
   replace h := hr1
   try dsimp only at h
   exact hK3 _ (lh hk rfl (rn 1 rfl (ls_ret ((by cases h; exact ⟨.inl rfl, rfl⟩)))))
  refine ls_rec (fun (y1 : Int) => [(2, .box [dL c120_dd a0]), (3, .box [dL c120_dd a1]), (15, nI (List.length a0 : Int)), (16, nI y1)]) _ _ _ _ hl (okr rfl) (fun _ => rfl) ?_
  rintro m y1 N h hN
  unfold impl_EqualDatabases_B1 at h
  refine rn 1 rfl (ls_seq_k fun K4 hK4 => ?_)
  rcases cond_some h with ⟨g5, h⟩ | ⟨g5, h⟩
  ·refine qT rfl g5 (ls_skip (hK4 _ (ls_seq_k fun K6 hK6 => ls_blk (rn 1 rfl (rd (by kernel_rfl) (sd 3 rfl (?_)))))))
   obtain ⟨e7, g8, h⟩ := ob_some h
   refine ed rfl (qI rfl zc120_dd g8 (sd 5 rfl (?_)))
   obtain ⟨e9, g10, h⟩ := ob_some h
   refine ed rfl (qI rfl zc120_dd g10 (sd 4 rfl (?_)))
   rcases cond_some h with ⟨g11, h⟩ | ⟨g11, h⟩
   ·exact qgd 32 g11 rfl (sd 15 rfl (evdn (qk [2, 3, 15, 16, 47] rfl (qT rfl rfl (rn 1 rfl (ls_ret ((by cases h; cases hr1; exact ⟨.inl rfl, rfl⟩))))))))
   ·refine qgd 32 g11 rfl (sd 3 rfl (?_))
    obtain ⟨e12, g13, h⟩ := ob_some h
    refine ed rfl (oGR rfl rfl (qI rfl zc120_dd g13 (sd 5 rfl (?_))))
    obtain ⟨e14, g15, h⟩ := ob_some h
    refine ed rfl (oGR rfl rfl (qI rfl zc120_dd g15 (sd 2 rfl (?_))))
    obtain ⟨v16, g17, h⟩ := ob_some h
    refine ed rfl (oGR rfl rfl (qC (qa rfl (erg (erc rfl (erc (erD ec53_d _) rfl))) (qa rfl (erg (erc rfl (erc (erD ec53_d _) rfl))) eran)) (impl_EqualRelations_s g17) (sd 2 rfl (evdn ?_))))
    rcases cond_some h with ⟨g18, h⟩ | ⟨g18, h⟩
    ·exact qT rfl g18 (rn 1 rfl (ls_ret ((by cases h; cases hr1; exact ⟨.inl rfl, rfl⟩))))
    ·exact qF rfl g18 (ls_skip (hK6 _ (rg (sp 2 rfl (evn (hN _ _ h (okr rfl)))))))
  ·exact qF rfl g5 (ls_exit (kXB1 (Option.some.inj h) _ trivial))
def impl_EqualQueries_B1 (a0 : Y54) (a1 : Y54) (rec : Int -> Option (Sum (Unit) (Bool))) (y1 : Int) : Option (Sum (Unit) (Bool)) := cond (decide (y1 < (List.length a0.2.1 : Int))) (obind (geti a0.2.1 y1) fun e11 => obind (geti a1.2.1 y1) fun e13 => cond (!(e11.1 == e13.1)) (some (.inr false)) (obind (geti a0.2.1 y1) fun e16 => obind (geti a1.2.1 y1) fun e18 => obind (impl_sameInts e16.2 e18.2) fun v20 => cond (!v20) (some (.inr false)) (rec (IntKind.i64.wrap (y1 + 1))))) (some (.inl ()))
def impl_EqualQueries (a0 : Y54) (a1 : Y54) : Option (Bool) := cond (a0.1 != a1.1) (some false) (cond ((List.length a0.2.1 : Int) != (List.length a1.2.1 : Int)) (some false) (obind (impl_sameInts a0.2.2 a1.2.2) fun v4 => cond (!v4) (some false) (obind (loopF (impl_EqualQueries_B1 a0 a1) fz 0) fun o1 => (match o1 with
  | .inl _ => (some true)
  | .inr r => some r))))
theorem impl_EqualQueries_s {a0 : Y54} {a1 : Y54} {r : Bool} (h : impl_EqualQueries a0 a1 = some r) : SoundAt Tryz.prog 74 [.agg (c55_ddd a0), .agg (c55_ddd a1)] (.bool r) := by
 unfold impl_EqualQueries at h
 refine st lit74 rfl (rn 1 rfl (ls_seq_k fun K1 hK1 => rs (sp 6 rfl (?_))))
 rcases cond_some h with ⟨g2, h⟩ | ⟨g2, h⟩
 ·exact qg 11 g2 rfl (sp 16 rfl (evn (qT rfl rfl (rn 1 rfl (ls_ret ((by cases h; exact ⟨.inl rfl, rfl⟩)))))))
 ·refine qg 11 g2 rfl (sp 9 rfl (?_))
  rcases cond_some h with ⟨g3, h⟩ | ⟨g3, h⟩
  ·exact qg 20 g3 rfl (sp 7 rfl (evn (qk [2, 3, 27] rfl (qT rfl rfl (rn 1 rfl (ls_ret ((by cases h; exact ⟨.inl rfl, rfl⟩))))))))
  ·refine qg 20 g3 rfl (sp 4 rfl (?_))
   obtain ⟨v4, g5, h⟩ := ob_some h
   refine oGR rfl rfl (qC (qa rfl (erD eci64 _) (qa rfl (erD eci64 _) eran)) (impl_sameInts_s g5) (sp 2 rfl (evn ?_)))
   rcases cond_some h with ⟨g6, h⟩ | ⟨g6, h⟩
   ·exact qT rfl g6 (rn 1 rfl (ls_ret ((by cases h; exact ⟨.inl rfl, rfl⟩))))
   ·refine qF rfl g6 (ls_skip (hK1 _ (ls_seq_k fun K7 hK7 => rn 1 rfl ?_)))
    obtain ⟨o1, hl, hr1⟩ := ob_some h
    have kXB1 : (.inl ()) = o1 -> Jn K7 [] := by
     intro h σ' hk
     subst h
     replace h := hr1
     try dsimp only at h
     exact hK7 _ (lh hk rfl (rn 1 rfl (ls_ret ((by cases h; exact ⟨.inl rfl, rfl⟩)))))
    refine ls_rec (fun (y1 : Int) => [(2, .box [nI a0.1, dL c148_d a0.2.1, dL ci64 a0.2.2]), (3, .box [nI a1.1, dL c148_d a1.2.1, dL ci64 a1.2.2]), (30, nI (List.length a0.2.1 : Int)), (31, nI y1)]) _ _ _ _ hl (okr rfl) (fun _ => rfl) ?_
    rintro m y1 N h hN
    unfold impl_EqualQueries_B1 at h
    refine rn 1 rfl (ls_seq_k fun K8 hK8 => ?_)
    rcases cond_some h with ⟨g9, h⟩ | ⟨g9, h⟩
    ·refine qT rfl g9 (ls_skip (hK8 _ (ls_seq_k fun K10 hK10 => ls_blk (rn 1 rfl (rd (by kernel_rfl) (sd 3 rfl (?_)))))))
     obtain ⟨e11, g12, h⟩ := ob_some h
     refine ed rfl (qI rfl zc148_d g12 (sd 5 rfl (?_)))
     obtain ⟨e13, g14, h⟩ := ob_some h
     refine ed rfl (qI rfl zc148_d g14 (sd 4 rfl (?_)))
     rcases cond_some h with ⟨g15, h⟩ | ⟨g15, h⟩
     ·exact qgd 47 g15 rfl (sd 15 rfl (evdn (qk [2, 3, 30, 31, 62] rfl (qT rfl rfl (rn 1 rfl (ls_ret ((by cases h; cases hr1; exact ⟨.inl rfl, rfl⟩))))))))
     ·refine qgd 47 g15 rfl (sd 3 rfl (?_))
      obtain ⟨e16, g17, h⟩ := ob_some h
      refine ed rfl (oGR rfl rfl (qI rfl zc148_d g17 (sd 5 rfl (?_))))
      obtain ⟨e18, g19, h⟩ := ob_some h
      refine ed rfl (oGR rfl rfl (qI rfl zc148_d g19 (sd 2 rfl (?_))))
      obtain ⟨v20, g21, h⟩ := ob_some h
      refine ed rfl (oGR rfl rfl (qC (qa rfl (erD eci64 _) (qa rfl (erD eci64 _) eran)) (impl_sameInts_s g21) (sd 2 rfl (evdn ?_))))
      rcases cond_some h with ⟨g22, h⟩ | ⟨g22, h⟩
      ·exact qT rfl g22 (rn 1 rfl (ls_ret ((by cases h; cases hr1; exact ⟨.inl rfl, rfl⟩))))
      ·exact qF rfl g22 (ls_skip (hK10 _ (rg (sp 2 rfl (evn (hN _ _ h (okr rfl)))))))
    ·exact qF rfl g9 (ls_exit (kXB1 (Option.some.inj h) _ trivial))
def impl_EqualNotifiers_B1 (a0 : Y36) (a1 : Y36) (rec : Int -> Option (Sum (Unit) (Bool))) (y1 : Int) : Option (Sum (Unit) (Bool)) := cond (decide (y1 < (List.length a0.2.1 : Int))) (obind (geti a0.2.1 y1) fun e11 => obind (geti a1.2.1 y1) fun e13 => obind (impl_EqualQueries e11.1 e13.1) fun v15 => cond (!v15) (some (.inr false)) (obind (geti a0.2.1 y1) fun e18 => obind (geti a1.2.1 y1) fun e20 => obind (impl_EqualCounted e18.2 e20.2) fun v22 => cond (!v22) (some (.inr false)) (rec (IntKind.i64.wrap (y1 + 1))))) (some (.inl ()))
def impl_EqualNotifiers_B2 (a0 : Y36) (a1 : Y36) (rec : Int -> Option (Sum (Unit) (Bool))) (y2 : Int) : Option (Sum (Unit) (Bool)) := cond (decide (y2 < (List.length a0.2.2 : Int))) (obind (geti a0.2.2 y2) fun e29 => obind (geti a1.2.2 y2) fun e31 => obind (impl_EqualCounted e29 e31) fun v33 => cond (!v33) (some (.inr false)) (rec (IntKind.i64.wrap (y2 + 1)))) (some (.inl ()))
def impl_EqualNotifiers (a0 : Y36) (a1 : Y36) : Option (Bool) := obind (impl_EqualDatabases a0.1 a1.1) fun v2 => cond (!v2) (some false) (cond ((List.length a0.2.1 : Int) != (List.length a1.2.1 : Int)) (some false) (cond ((List.length a0.2.2 : Int) != (List.length a1.2.2 : Int)) (some false) (obind (loopF (impl_EqualNotifiers_B1 a0 a1) fz 0) fun o1 => (match o1 with
  | .inl _ => (obind (loopF (impl_EqualNotifiers_B2 a0 a1) fz 0) fun o2 => (match o2 with
  | .inl _ => (some true)
  | .inr r => some r))
  | .inr r => some r))))
theorem impl_EqualNotifiers_s {a0 : Y36} {a1 : Y36} {r : Bool} (h : impl_EqualNotifiers a0 a1 = some r) : SoundAt Tryz.prog 26 [.agg (c37_dddddddddddddd a0), .agg (c37_dddddddddddddd a1)] (.bool r) := by
 unfold impl_EqualNotifiers at h
 refine st lit26 rfl (rn 1 rfl (ls_seq_k fun K1 hK1 => rs (sp 4 rfl (?_))))
 obtain ⟨v2, g3, h⟩ := ob_some h
 refine qC (qa rfl (erg (erc (erD ec120_dd _) rfl)) (qa rfl (erg (erc (erD ec120_dd _) rfl)) eran)) (impl_EqualDatabases_s g3) (sp 2 rfl (?_))
 rcases cond_some h with ⟨g4, h⟩ | ⟨g4, h⟩
 ·exact qg 13 g4 rfl (sp 17 rfl (evn (qT rfl rfl (rn 1 rfl (ls_ret ((by cases h; exact ⟨.inl rfl, rfl⟩)))))))
 ·refine qg 13 g4 rfl (sp 9 rfl (?_))
  rcases cond_some h with ⟨g5, h⟩ | ⟨g5, h⟩
  ·exact qg 22 g5 rfl (sp 8 rfl (evn (qk [2, 3, 30] rfl (qT rfl rfl (rn 1 rfl (ls_ret ((by cases h; exact ⟨.inl rfl, rfl⟩))))))))
  ·refine qg 22 g5 rfl (sp 8 rfl (evn ?_))
   rcases cond_some h with ⟨g6, h⟩ | ⟨g6, h⟩
   ·exact qT rfl g6 (rn 1 rfl (ls_ret ((by cases h; exact ⟨.inl rfl, rfl⟩))))
   ·refine qF rfl g6 (ls_skip (hK1 _ (ls_seq_k fun K7 hK7 => rn 1 rfl ?_)))
    obtain ⟨o1, hl, hr1⟩ := ob_some h
    have kXB1 : (.inl ()) = o1 -> Jn K7 [(2, .box [dL c120_dd a0.1, dL c78_dddddd a0.2.1, dL c76_ddd a0.2.2]), (3, .box [dL c120_dd a1.1, dL c78_dddddd a1.2.1, dL c76_ddd a1.2.2])] := by
     intro h σ' hk
     subst h
     replace h := hr1
     try dsimp only at h
     refine hK7 _ (lh hk rfl (ls_seq_k fun K25 hK25 => rn 1 rfl ?_))
     obtain ⟨o2, hl, hr2⟩ := ob_some h
     have kXB2 : (.inl ()) = o2 -> Jn K25 [] := by
      intro h σ' hk
      subst h
      replace h := hr2
      try dsimp only at h
      exact hK25 _ (lh hk rfl (rn 1 rfl (ls_ret ((by cases h; exact ⟨.inl rfl, rfl⟩)))))
     refine ls_rec (fun (y2 : Int) => [(2, .box [dL c120_dd a0.1, dL c78_dddddd a0.2.1, dL c76_ddd a0.2.2]), (3, .box [dL c120_dd a1.1, dL c78_dddddd a1.2.1, dL c76_ddd a1.2.2]), (70, nI (List.length a0.2.2 : Int)), (71, nI y2)]) _ _ _ _ hl (okr rfl) (fun _ => rfl) ?_
     rintro m y2 N h hN
     unfold impl_EqualNotifiers_B2 at h
     refine rn 1 rfl (ls_seq_k fun K26 hK26 => ?_)
     rcases cond_some h with ⟨g27, h⟩ | ⟨g27, h⟩
     ·refine qT rfl g27 (ls_skip (hK26 _ (ls_seq_k fun K28 hK28 => ls_blk (rn 1 rfl (rd (by kernel_rfl) (sd 3 rfl (?_)))))))
      obtain ⟨e29, g30, h⟩ := ob_some h
      refine ed rfl (qI rfl zc76_ddd g30 (sd 4 rfl (?_)))
      obtain ⟨e31, g32, h⟩ := ob_some h
      refine ed rfl (qI rfl zc76_ddd g32 (sd 1 rfl (?_)))
      obtain ⟨v33, g34, h⟩ := ob_some h
      refine ed rfl (qC (qa rfl (erg (erc rfl (erc (erD ec53_d _) (erc (erD eci64 _) rfl)))) (qa rfl (erg (erc rfl (erc (erD ec53_d _) (erc (erD eci64 _) rfl)))) eran)) (impl_EqualCounted_s g34) (sd 1 rfl (evdn ?_)))
      rcases cond_some h with ⟨g35, h⟩ | ⟨g35, h⟩
      ·exact qT rfl g35 (rn 1 rfl (ls_ret ((by cases h; cases hr2; exact ⟨.inl rfl, rfl⟩))))
      ·exact qF rfl g35 (ls_skip (hK28 _ (qk [2, 3, 70, 71] rfl (rg (sp 2 rfl (evn (hN _ _ h (okr rfl))))))))
     ·exact qF rfl g27 (ls_exit (kXB2 (Option.some.inj h) _ trivial))
    refine ls_rec (fun (y1 : Int) => [(2, .box [dL c120_dd a0.1, dL c78_dddddd a0.2.1, dL c76_ddd a0.2.2]), (3, .box [dL c120_dd a1.1, dL c78_dddddd a1.2.1, dL c76_ddd a1.2.2]), (33, nI (List.length a0.2.1 : Int)), (34, nI y1)]) _ _ _ _ hl (okr rfl) (fun _ => rfl) ?_
    rintro m y1 N h hN
    unfold impl_EqualNotifiers_B1 at h
    refine rn 1 rfl (ls_seq_k fun K8 hK8 => ?_)
    rcases cond_some h with ⟨g9, h⟩ | ⟨g9, h⟩
    ·refine qT rfl g9 (ls_skip (hK8 _ (ls_seq_k fun K10 hK10 => ls_blk (rn 1 rfl (rd (by kernel_rfl) (sd 3 rfl (?_)))))))
     obtain ⟨e11, g12, h⟩ := ob_some h
     refine ed rfl (qI rfl zc78_dddddd g12 (sd 5 rfl (?_)))
     obtain ⟨e13, g14, h⟩ := ob_some h
     refine ed rfl (qI rfl zc78_dddddd g14 (sd 2 rfl (?_)))
     obtain ⟨v15, g16, h⟩ := ob_some h
     refine ed rfl (qC (qa rfl (erg (erc rfl (erc (erD ec148_d _) (erc (erD eci64 _) rfl)))) (qa rfl (erg (erc rfl (erc (erD ec148_d _) (erc (erD eci64 _) rfl)))) eran)) (impl_EqualQueries_s g16) (sd 2 rfl (?_)))
     rcases cond_some h with ⟨g17, h⟩ | ⟨g17, h⟩
     ·exact qgd 51 g17 rfl (sd 15 rfl (evdn (qk [2, 3, 33, 34, 66] rfl (qT rfl rfl (rn 1 rfl (ls_ret ((by cases h; cases hr1; exact ⟨.inl rfl, rfl⟩))))))))
     ·refine qgd 51 g17 rfl (sd 3 rfl (?_))
      obtain ⟨e18, g19, h⟩ := ob_some h
      refine ed rfl (oGR rfl rfl (qI rfl zc78_dddddd g19 (sd 5 rfl (?_))))
      obtain ⟨e20, g21, h⟩ := ob_some h
      refine ed rfl (oGR rfl rfl (qI rfl zc78_dddddd g21 (sd 2 rfl (?_))))
      obtain ⟨v22, g23, h⟩ := ob_some h
      refine ed rfl (oGR rfl rfl (qC (qa rfl (erg (erc rfl (erc (erD ec53_d _) (erc (erD eci64 _) rfl)))) (qa rfl (erg (erc rfl (erc (erD ec53_d _) (erc (erD eci64 _) rfl)))) eran)) (impl_EqualCounted_s g23) (sd 2 rfl (evdn ?_))))
      rcases cond_some h with ⟨g24, h⟩ | ⟨g24, h⟩
      ·exact qT rfl g24 (rn 1 rfl (ls_ret ((by cases h; cases hr1; exact ⟨.inl rfl, rfl⟩))))
      ·exact qF rfl g24 (ls_skip (hK10 _ (rg (sp 2 rfl (evn (hN _ _ h (okr rfl)))))))
    ·exact qF rfl g9 (ls_exit (kXB1 (Option.some.inj h) _ (okr rfl)))
def laws_FnAddWatcher_J2 (x24 : Bool) : Option (Bool) := some x24
def laws_FnAddWatcher_J1 (v5 : Y36 × Y54) (v7 : Y36 × Bool) (x13 : Bool) : Option (Bool) := cond x13 (some false) (cond (!v7.2) (some true) (obind (impl_WatcherRows v7.1 (List.length v5.1.2.1 : Int)) fun v17 => obind (spec_EvaluateQuery v5.1.1 v5.2) fun v19 => obind (impl_NewNotifier v5.1.1) fun v21 => cond v17.2 (obind (spec_EqualRelations v17.1 v19.1) fun v26 => cond v26 (cond ((List.length v7.1.2.1 : Int) == (IntKind.i64.wrap ((List.length v5.1.2.1 : Int) + 1))) (obind (spec_IsValidNotifier v7.1) fun v30 => cond v30 (obind (impl_EqualNotifiers v7.1 v7.1) fun v33 => cond v33 (cond v21.2 (laws_FnAddWatcher_J2 ((List.length v21.1.2.1 : Int) == 0)) (laws_FnAddWatcher_J2 false)) (laws_FnAddWatcher_J2 false)) (laws_FnAddWatcher_J2 false)) (laws_FnAddWatcher_J2 false)) (laws_FnAddWatcher_J2 false)) (laws_FnAddWatcher_J2 false)))
def laws_FnAddWatcher (a0 : List Int) : Option (Bool) := obind (laws_big a0) fun v2 => cond v2 (some true) (obind (spec_DrawAddWatcher a0) fun v5 => obind (impl_AddWatcher v5.1 v5.2) fun v7 => obind (spec_AddWatcher v5.1 v5.2) fun v9 => cond (!(v7.2 == v9.2)) (laws_FnAddWatcher_J1 v5 v7 true) (cond (!v7.2) (obind (spec_EqualNotifiers v7.1 v5.1) fun v39 => laws_FnAddWatcher_J1 v5 v7 (!v39)) (laws_FnAddWatcher_J1 v5 v7 false)))
theorem laws_FnAddWatcher_s {a0 : List Int} {r : Bool} (h : laws_FnAddWatcher a0 = some r) : SoundAt Tryz.prog 5 [dL cu8 a0] (.bool r) := by
 unfold laws_FnAddWatcher at h
 refine sta lit5 rfl (aall (ableD (fun _ => rfl) _) rfl) (mvv (argD (fun _ => rfl) _) rfl) rfl (rn 1 rfl (ls_seq_k fun K1 hK1 => rs (sp 1 rfl (?_))))
 obtain ⟨v2, g3, h⟩ := ob_some h
 refine qC (qa rfl (erG ecu8 _) eran) (laws_big_s g3) (evn ?_)
 rcases cond_some h with ⟨g4, h⟩ | ⟨g4, h⟩
 ·exact qT rfl g4 (rn 1 rfl (ls_ret ((by cases h; exact ⟨.inl rfl, rfl⟩))))
 ·refine qF rfl g4 (ls_skip (hK1 _ (rs (sp 1 rfl (?_)))))
  obtain ⟨v5, g6, h⟩ := ob_some h
  refine qCk rfl rfl (spec_DrawAddWatcher_s g6) (sp 7 rfl (evn (rs (sp 2 rfl (?_)))))
  obtain ⟨v7, g8, h⟩ := ob_some h
  refine qC (qa rfl (erg (erc (erD ec120_oo _) (erc (erD ec78_oooooo _) (erc (erD ec76_ddd _) rfl)))) (qa rfl (erg (erc rfl (erc (erD ec148_o _) (erc (erD eci64 _) rfl)))) eran)) (impl_AddWatcher_s g8) (sp 6 rfl (evn (rs (sp 2 rfl (?_)))))
  obtain ⟨v9, g10, h⟩ := ob_some h
  refine qC (qa rfl (erg (erc (erD ec120_oo _) (erc (erD ec78_oooooo _) (erc (erD ec76_ddd _) rfl)))) (qa rfl (erg (erc rfl (erc (erD ec148_o _) (erc (erD eci64 _) rfl)))) eran)) (spec_AddWatcher_s g10) (sp 6 rfl (evn (qk [3, 4, 5, 6, 8] rfl (ls_seq_k fun K11 hK11 => rk fun K12 hK12 => ?_))))
  have kJ1 : ∀ {x13 : Bool}, laws_FnAddWatcher_J1 v5 v7 x13 = some r -> Jn K12 [(3, .box [oL 120 c120_oo v5.1.1, oL 78 c78_oooooo v5.1.2.1, dL c76_ddd v5.1.2.2]), (4, .box [nI v5.2.1, oL 148 c148_o v5.2.2.1, oL 3 ci64 v5.2.2.2]), (5, .box [oL 120 c120_oo v7.1.1, oL 78 c78_oooooo v7.1.2.1, oL 76 c76_ooo v7.1.2.2]), (6, .bool v7.2), (47, .bool x13)] := by
   intro x13 h σ' hk
   unfold laws_FnAddWatcher_J1 at h
   refine hK12 _ (lh hk rfl ?_)
   rcases cond_some h with ⟨g14, h⟩ | ⟨g14, h⟩
   ·exact qT rfl g14 (rn 1 rfl (ls_ret ((by cases h; exact ⟨.inl rfl, rfl⟩))))
   ·refine qF rfl g14 (ls_skip (hK11 _ (ls_seq_k fun K15 hK15 => rn 1 rfl ?_)))
    rcases cond_some h with ⟨g16, h⟩ | ⟨g16, h⟩
    ·exact qT rfl g16 (rn 1 rfl (ls_ret ((by cases h; exact ⟨.inl rfl, rfl⟩))))
    ·refine qF rfl g16 (ls_skip (hK15 _ (rn 1 rfl (rs (sp 2 rfl (?_))))))
     obtain ⟨v17, g18, h⟩ := ob_some h
     refine qC (qa rfl (erg (erc (erD ec120_oo _) (erc (erD ec78_oooooo _) (erc (erD ec76_ooo _) rfl)))) (qs rfl eran)) (impl_WatcherRows_s g18) (sp 6 rfl (evn (qk [3, 4, 5, 9, 10, 11] rfl (rs (sp 3 rfl (?_))))))
     obtain ⟨v19, g20, h⟩ := ob_some h
     refine qC (qa rfl (erg (erc (erD ec120_oo _) rfl)) (qa rfl (erg (erc rfl (erc (erD ec148_o _) (erc (erD eci64 _) rfl)))) eran)) (spec_EvaluateQuery_s g20) (sp 6 rfl (evn (rs (sp 2 rfl (?_)))))
     obtain ⟨v21, g22, h⟩ := ob_some h
     refine qC (qa rfl (erg (erc (erD ec120_oo _) rfl)) eran) (impl_NewNotifier_s g22) (sp 6 rfl (evn (rk fun K23 hK23 => ?_)))
     have kJ2 : ∀ {x24 : Bool}, laws_FnAddWatcher_J2 x24 = some r -> Jn K23 [(2, .bool x24)] := by
      intro x24 h σ' hk
      unfold laws_FnAddWatcher_J2 at h
      exact hK23 _ (lh hk rfl (ls_ret ((by cases h; exact ⟨.inl rfl, rfl⟩))))
     refine sp 2 rfl (?_)
     rcases cond_some h with ⟨g25, h⟩ | ⟨g25, h⟩
     ·refine qg 73 g25 rfl (sp 2 rfl (?_))
      obtain ⟨v26, g27, h⟩ := ob_some h
      refine oGR rfl rfl (qC (qa rfl (erg (erc rfl (erc (erD ec53_o _) rfl))) (qa rfl (erg (erc rfl (erc (erD ec53_o _) rfl))) eran)) (spec_EqualRelations_s g27) (sp 2 rfl (?_)))
      rcases cond_some h with ⟨g28, h⟩ | ⟨g28, h⟩
      ·refine qg 78 g28 rfl (sp 8 rfl (?_))
       rcases cond_some h with ⟨g29, h⟩ | ⟨g29, h⟩
       ·refine qg 86 g29 rfl (sp 1 rfl (?_))
        obtain ⟨v30, g31, h⟩ := ob_some h
        refine oGR rfl rfl (qC (qa rfl (erg (erc (erD ec120_oo _) (erc (erD ec78_oooooo _) (erc (erD ec76_ooo _) rfl)))) eran) (spec_IsValidNotifier_s g31) (sp 2 rfl (?_)))
        rcases cond_some h with ⟨g32, h⟩ | ⟨g32, h⟩
        ·refine qg 90 g32 rfl (sp 2 rfl (?_))
         obtain ⟨v33, g34, h⟩ := ob_some h
         refine oGR rfl rfl (qC (qa rfl (erg (erc (erD ec120_oo _) (erc (erD ec78_oooooo _) (erc (erD ec76_ooo _) rfl)))) (qa rfl (erg (erc (erD ec120_oo _) (erc (erD ec78_oooooo _) (erc (erD ec76_ooo _) rfl)))) eran)) (impl_EqualNotifiers_s g34) (sp 2 rfl (?_)))
         rcases cond_some h with ⟨g35, h⟩ | ⟨g35, h⟩
         ·refine qg 95 g35 rfl (sp 3 rfl (?_))
          rcases cond_some h with ⟨g36, h⟩ | ⟨g36, h⟩
          ·exact qg 98 g36 rfl (sp 6 rfl (evn (kJ2 h _ (okr rfl))))
          ·exact qg 98 g36 rfl (sp 6 rfl (evn (kJ2 h _ (okr rfl))))
         ·exact qg 95 g35 rfl (sp 9 rfl (evn (kJ2 h _ (okr rfl))))
        ·exact qg 90 g32 rfl (sp 14 rfl (evn (kJ2 h _ (okr rfl))))
       ·exact qg 86 g29 rfl (sp 18 rfl (evn (kJ2 h _ (okr rfl))))
      ·exact qg 78 g28 rfl (sp 26 rfl (evn (kJ2 h _ (okr rfl))))
     ·exact qg 73 g25 rfl (sp 31 rfl (evn (kJ2 h _ (okr rfl))))
  refine sp 4 rfl (?_)
  rcases cond_some h with ⟨g37, h⟩ | ⟨g37, h⟩
  ·exact qg 38 g37 rfl (sp 9 rfl (evn (kJ1 h _ (okr rfl))))
  ·refine qg 38 g37 rfl (sp 3 rfl (?_))
   rcases cond_some h with ⟨g38, h⟩ | ⟨g38, h⟩
   ·refine qg 41 g38 rfl (sp 2 rfl (?_))
    obtain ⟨v39, g40, h⟩ := ob_some h
    exact oGR rfl rfl (qC (qa rfl (erg (erc (erD ec120_oo _) (erc (erD ec78_oooooo _) (erc (erD ec76_ooo _) rfl)))) (qa rfl (erg (erc (erD ec120_oo _) (erc (erD ec78_oooooo _) (erc (erD ec76_ddd _) rfl)))) eran)) (spec_EqualNotifiers_s g40) (sp 3 rfl (evn (kJ1 h _ (okr rfl)))))
   ·exact qg 41 g38 rfl (sp 6 rfl (evn (kJ1 h _ (okr rfl))))
end Go.Proofs.YtceghmdneadhbaaGreat
