/-
  Functions of the program as typed functions, printed by gen.py, and that the program's functions do what they say. No conditions.
-/
import Derived.Test.YtmioifafgbjjhaaUpAS1
import Derived.Test.YtmioifafgbjjhaaLit2AS1
namespace Go.Proofs.Ytmioifafgbjjhaa
open Go.RowKit
set_option linter.unusedVariables false
set_option maxRecDepth 100000
set_option maxHeartbeats 1000000
def impl_copyInts (a0 : List Int) : Option ((List Int)) := chk (List.length ([] : List Int) + List.length a0 ≤ lim) (some (([] : List Int) ++ a0))
theorem impl_copyInts_s {a0 : List Int} {r : (List Int)} (h : impl_copyInts a0 = some r) : SoundAt Try.prog 88 [dL ci64 a0] (oL 3 ci64 r) := by
 unfold impl_copyInts at h
 refine st lit88 rfl (rn 1 rfl (rs (qBs ci64 [] rfl rfl rfl zci64 (sp 1 rfl (?_)))))
 obtain ⟨g1, h⟩ := chk_some h
 exact qA ci64 ([] : List Int) a0 rfl rfl (flat_len zci64 a0) (map_dg (fun _ => rfl) _) g1 (sp 1 rfl (evn (ls_ret ((by cases h; exact ⟨.inl rfl, rfl⟩)))))
def impl_copyRows_B1 (a0 : List (List Int)) (rec : ((List (List Int)) × Int) → Option ((List (List Int)))) (s : (List (List Int)) × Int) : Option ((List (List Int))) := match s with
  | (y1, y2) => cond (decide (y2 < (List.length a0 : Int))) (obind (geti a0 y2) fun e6 => obind (impl_copyInts e6) fun v8 => chk (List.length y1 + List.length [v8] ≤ lim) (rec ((y1 ++ [v8]), (IntKind.i64.wrap (y2 + 1))))) (some y1)
def impl_copyRows (a0 : List (List Int)) : Option ((List (List Int))) := obind (loopF (impl_copyRows_B1 a0) fz (([] : List (List Int)), 0)) fun z2 => some z2
theorem impl_copyRows_s {a0 : List (List Int)} {r : (List (List Int))} (h : impl_copyRows a0 = some r) : SoundAt Try.prog 93 [dL c31_d a0] (oL 31 c31_o r) := by
 unfold impl_copyRows at h
 refine st lit93 rfl (rn 2 rfl (ls_seq_k fun K1 hK1 => rn 1 rfl ?_))
 obtain ⟨o1, hl, hr1⟩ := ob_some h
 have kXB1 : ∀ {z2 : List (List Int)}, z2 = o1 → Jn K1 [(3, oL 31 c31_o z2)] := by
  intro z2 h σ' hk
  subst h
  replace h := hr1
  try dsimp only at h
  exact hK1 _ (lh hk rfl (rn 1 rfl (ls_ret ((by cases h; exact ⟨.inl rfl, rfl⟩)))))
 refine ls_rec (fun (s : (List (List Int)) × Int) => match s with | (y1, y2) => [(3, oL 31 c31_o y1), (6, dL c31_d a0), (7, nI (List.length a0 : Int)), (8, nI y2)]) _ _ _ _ hl (okr rfl) (fun _ => rfl) ?_
 rintro m ⟨y1, y2⟩ N h hN
 unfold impl_copyRows_B1 at h
 dsimp only at h
 refine rn 1 rfl (ls_seq_k fun K3 hK3 => ?_)
 rcases cond_some h with ⟨g4, h⟩ | ⟨g4, h⟩
 ·refine qT rfl g4 (ls_skip (hK3 _ (ls_seq_k fun K5 hK5 => ls_blk (rs ?_))))
  obtain ⟨e6, g7, h⟩ := ob_some h
  refine qI rfl zc31_d g7 (sp 2 rfl (evn (rg (sp 2 rfl (?_)))))
  obtain ⟨v8, g9, h⟩ := ob_some h
  refine qC (qa rfl (erD eci64 _) eran) (impl_copyInts_s g9) (qBs c31_o [v8] rfl rfl rfl zc31_o (?_))
  obtain ⟨g10, h⟩ := chk_some h
  exact qA c31_o y1 [v8] rfl rfl (flat_len zc31_o [v8]) rfl g10 (sp 1 rfl (evn (hK5 _ (rg (sp 2 rfl (evn (hN _ _ h (okr rfl))))))))
 ·exact qF rfl g4 (ls_exit (kXB1 (Option.some.inj h) _ (okr rfl)))
def impl_copyRelation (a0 : Y25) : Option (Y25) := obind (impl_copyRows a0.2) fun v1 => some (a0.1, v1)
theorem impl_copyRelation_s {a0 : Y25} {r : Y25} (h : impl_copyRelation a0 = some r) : SoundAt Try.prog 177 [.agg (c26_dd a0)] (.agg (c26_oo r)) := by
 unfold impl_copyRelation at h
 refine st lit177 rfl (rn 1 rfl (rd (by kernel_rfl) (sd 4 rfl (?_))))
 obtain ⟨v1, g2, h⟩ := ob_some h
 exact ed rfl (qC (qa rfl (erD ec31_d _) eran) (impl_copyRows_s g2) (sd 2 rfl (evdn (ls_ret ((by cases h; exact ⟨.inl rfl, rfl⟩))))))
def impl_copyDatabase_B1 (a0 : List Y106) (rec : ((List Y106) × Int) → Option ((List Y106))) (s : (List Y106) × Int) : Option ((List Y106)) := match s with
  | (y1, y2) => cond (decide (y2 < (List.length a0 : Int))) (obind (geti a0 y2) fun e6 => obind (impl_copyRelation e6.2) fun v8 => chk (List.length y1 + List.length [(e6.1, v8)] ≤ lim) (rec ((y1 ++ [(e6.1, v8)]), (IntKind.i64.wrap (y2 + 1))))) (some y1)
def impl_copyDatabase (a0 : List Y106) : Option ((List Y106)) := obind (loopF (impl_copyDatabase_B1 a0) fz (([] : List Y106), 0)) fun z2 => some z2
theorem impl_copyDatabase_s {a0 : List Y106} {r : (List Y106)} (h : impl_copyDatabase a0 = some r) : SoundAt Try.prog 121 [.agg [dL c107_dd a0]] (.agg [oL 107 c107_oo r]) := by
 unfold impl_copyDatabase at h
 refine st lit121 rfl (rn 2 rfl (ls_seq_k fun K1 hK1 => rn 1 rfl ?_))
 obtain ⟨o1, hl, hr1⟩ := ob_some h
 have kXB1 : ∀ {z2 : List Y106}, z2 = o1 → Jn K1 [(2, .box [oL 107 c107_oo []]), (3, .box [oL 107 c107_oo z2])] := by
  intro z2 h σ' hk
  subst h
  replace h := hr1
  try dsimp only at h
  exact hK1 _ (lh hk rfl (rn 1 rfl (ls_ret ((by cases h; exact ⟨.inl rfl, rfl⟩)))))
 refine ls_rec (fun (s : (List Y106) × Int) => match s with | (y1, y2) => [(2, .box [oL 107 c107_oo []]), (3, .box [oL 107 c107_oo y1]), (7, dL c107_dd a0), (8, nI (List.length a0 : Int)), (9, nI y2)]) _ _ _ _ hl (okr rfl) (fun _ => rfl) ?_
 rintro m ⟨y1, y2⟩ N h hN
 unfold impl_copyDatabase_B1 at h
 dsimp only at h
 refine rn 1 rfl (ls_seq_k fun K3 hK3 => ?_)
 rcases cond_some h with ⟨g4, h⟩ | ⟨g4, h⟩
 ·refine qT rfl g4 (ls_skip (hK3 _ (ls_seq_k fun K5 hK5 => ls_blk (rs ?_))))
  obtain ⟨e6, g7, h⟩ := ob_some h
  refine qI rfl zc107_dd g7 (sp 3 rfl (evn (rgd (by kernel_rfl) (sd 6 rfl (?_)))))
  obtain ⟨v8, g9, h⟩ := ob_some h
  refine ed rfl (qC (qa rfl (erg (erc rfl (erc (erD ec31_d _) rfl))) eran) (impl_copyRelation_s g9) (sd 1 rfl (ed rfl (qBs c107_oo [(e6.1, v8)] rfl rfl rfl zc107_oo (?_)))))
  obtain ⟨g10, h⟩ := chk_some h
  exact ed rfl (qA c107_oo y1 [(e6.1, v8)] rfl rfl (flat_len zc107_oo [(e6.1, v8)]) rfl g10 (sd 2 rfl (evdn (hK5 _ (rg (sp 2 rfl (evn (hN _ _ h (okr rfl)))))))))
 ·exact qF rfl g4 (ls_exit (kXB1 (Option.some.inj h) _ (okr rfl)))
def impl_copyHistory_B1 (a0 : Y69) (rec : ((List (List Y106)) × Int) → Option ((List (List Y106)))) (s : (List (List Y106)) × Int) : Option ((List (List Y106))) := match s with
  | (y1, y2) => cond (decide (y2 < (List.length a0.2 : Int))) (obind (geti a0.2 y2) fun e6 => obind (impl_copyDatabase e6) fun v8 => chk (List.length y1 + List.length [v8] ≤ lim) (rec ((y1 ++ [v8]), (IntKind.i64.wrap (y2 + 1))))) (some y1)
def impl_copyHistory (a0 : Y69) : Option (Y69) := obind (loopF (impl_copyHistory_B1 a0) fz (([] : List (List Y106)), 0)) fun z2 => some (a0.1, z2)
theorem impl_copyHistory_s {a0 : Y69} {r : Y69} (h : impl_copyHistory a0 = some r) : SoundAt Try.prog 117 [.agg (c70_dddd a0)] (.agg (c70_oooo r)) := by
 unfold impl_copyHistory at h
 refine st lit117 rfl (rn 2 rfl (ls_seq_k fun K1 hK1 => rn 1 rfl ?_))
 obtain ⟨o1, hl, hr1⟩ := ob_some h
 have kXB1 : ∀ {z2 : List (List Y106)}, z2 = o1 → Jn K1 [(2, .box [nI 0, oL 42 c42_ooo []]), (3, .box [nI a0.1, oL 42 c42_ooo z2])] := by
  intro z2 h σ' hk
  subst h
  replace h := hr1
  try dsimp only at h
  exact hK1 _ (lh hk rfl (rn 1 rfl (ls_ret ((by cases h; exact ⟨.inl rfl, rfl⟩)))))
 refine ls_rec (fun (s : (List (List Y106)) × Int) => match s with | (y1, y2) => [(2, .box [nI 0, oL 42 c42_ooo []]), (3, .box [nI a0.1, oL 42 c42_ooo y1]), (10, dL c42_ddd a0.2), (11, nI (List.length a0.2 : Int)), (12, nI y2)]) _ _ _ _ hl (okr rfl) (fun _ => rfl) ?_
 rintro m ⟨y1, y2⟩ N h hN
 unfold impl_copyHistory_B1 at h
 dsimp only at h
 refine rn 1 rfl (ls_seq_k fun K3 hK3 => ?_)
 rcases cond_some h with ⟨g4, h⟩ | ⟨g4, h⟩
 ·refine qT rfl g4 (ls_skip (hK3 _ (ls_seq_k fun K5 hK5 => ls_blk (rs ?_))))
  obtain ⟨e6, g7, h⟩ := ob_some h
  refine qI rfl zc42_ddd g7 (sp 3 rfl (evn (rgd (by kernel_rfl) (sd 3 rfl (?_)))))
  obtain ⟨v8, g9, h⟩ := ob_some h
  refine ed rfl (qC (qa rfl (erg (erc (erD ec107_dd _) rfl)) eran) (impl_copyDatabase_s g9) (ed rfl (qBs c42_ooo [v8] rfl rfl rfl zc42_ooo (?_))))
  obtain ⟨g10, h⟩ := chk_some h
  exact ed rfl (qA c42_ooo y1 [v8] rfl rfl (flat_len zc42_ooo [v8]) rfl g10 (sd 2 rfl (evdn (hK5 _ (rg (sp 2 rfl (evn (hN _ _ h (okr rfl)))))))))
 ·exact qF rfl g4 (ls_exit (kXB1 (Option.some.inj h) _ (okr rfl)))
def impl_within_J1 (x2 : Bool) : Option (Bool) := some x2
def impl_within (a0 : Int) (a1 : Int) (a2 : Int) : Option (Bool) := cond (decide (a1 ≤ a0)) (impl_within_J1 (decide (a0 ≤ a2))) (impl_within_J1 false)
theorem impl_within_s {a0 : Int} {a1 : Int} {a2 : Int} {r : Bool} (h : impl_within a0 a1 a2 = some r) : SoundAt Try.prog 86 [nI a0, nI a1, nI a2] (.bool r) := by
 unfold impl_within at h
 refine st lit86 rfl (rn 1 rfl (rk fun K1 hK1 => ?_))
 have kJ1 : ∀ {x2 : Bool}, impl_within_J1 x2 = some r → Jn K1 [(6, .bool x2)] := by
  intro x2 h σ' hk
  unfold impl_within_J1 at h
  exact hK1 _ (lh hk rfl (ls_ret ((by cases h; exact ⟨.inl rfl, rfl⟩))))
 refine sp 4 rfl (?_)
 rcases cond_some h with ⟨g3, h⟩ | ⟨g3, h⟩
 ·exact qg 10 g3 rfl (sp 5 rfl (evn (kJ1 h _ (okr rfl))))
 ·exact qg 10 g3 rfl (sp 5 rfl (evn (kJ1 h _ (okr rfl))))
def impl_AreValidValues_B1 (a0 : List Int) (rec : Int → Option (Sum (Unit) (Bool))) (y1 : Int) : Option (Sum (Unit) (Bool)) := cond (decide (y1 < (List.length a0 : Int))) (obind (geti a0 y1) fun e5 => obind (impl_within e5 0 99) fun v7 => cond (!v7) (some (.inr false)) (rec (IntKind.i64.wrap (y1 + 1)))) (some (.inl ()))
def impl_AreValidValues (a0 : List Int) : Option (Bool) := obind (loopF (impl_AreValidValues_B1 a0) fz 0) fun o1 => (match o1 with
  | .inl _ => (some true)
  | .inr r => some r)
theorem impl_AreValidValues_s {a0 : List Int} {r : Bool} (h : impl_AreValidValues a0 = some r) : SoundAt Try.prog 173 [dL ci64 a0] (.bool r) := by
 unfold impl_AreValidValues at h
 refine st lit173 rfl (rn 1 rfl (ls_seq_k fun K1 hK1 => rn 1 rfl ?_))
 obtain ⟨o1, hl, hr1⟩ := ob_some h
 have kXB1 : (.inl ()) = o1 → Jn K1 [] := by
  intro h σ' hk
  subst h
  replace h := hr1
  try dsimp only at h
  exact hK1 _ (lh hk rfl (rn 1 rfl (ls_ret ((by cases h; exact ⟨.inl rfl, rfl⟩)))))
 refine ls_rec (fun (y1 : Int) => [(5, dL ci64 a0), (6, nI (List.length a0 : Int)), (7, nI y1)]) _ _ _ _ hl (okr rfl) (fun _ => rfl) ?_
 rintro m y1 N h hN
 unfold impl_AreValidValues_B1 at h
 refine rn 1 rfl (ls_seq_k fun K2 hK2 => ?_)
 rcases cond_some h with ⟨g3, h⟩ | ⟨g3, h⟩
 ·refine qT rfl g3 (ls_skip (hK2 _ (ls_seq_k fun K4 hK4 => ls_blk (rs ?_))))
  obtain ⟨e5, g6, h⟩ := ob_some h
  refine qI rfl zci64 g6 (sp 2 rfl (evn (rs (sp 1 rfl (?_)))))
  obtain ⟨v7, g8, h⟩ := ob_some h
  refine qC (qs rfl (qs rfl (qs rfl eran))) (impl_within_s g8) (sp 1 rfl (evn ?_))
  rcases cond_some h with ⟨g9, h⟩ | ⟨g9, h⟩
  ·exact qT rfl g9 (rn 1 rfl (ls_ret ((by cases h; cases hr1; exact ⟨.inl rfl, rfl⟩))))
  ·exact qF rfl g9 (ls_skip (hK4 _ (rg (sp 2 rfl (evn (hN _ _ h (okr rfl)))))))
 ·exact qF rfl g3 (ls_exit (kXB1 (Option.some.inj h) _ trivial))
def impl_compareInts (a0 : Int) (a1 : Int) : Option (Int) := cond (decide (a0 < a1)) (some (-1)) (cond (decide (a1 < a0)) (some 1) (some 0))
theorem impl_compareInts_s {a0 : Int} {a1 : Int} {r : Int} (h : impl_compareInts a0 a1 = some r) : SoundAt Try.prog 238 [nI a0, nI a1] (nI r) := by
 unfold impl_compareInts at h
 refine st lit238 rfl (rn 1 rfl (ls_seq_k fun K1 hK1 => ls_blk (rn 1 rfl ?_)))
 rcases cond_some h with ⟨g2, h⟩ | ⟨g2, h⟩
 ·exact qT rfl g2 (rn 1 rfl (ls_ret ((by cases h; exact ⟨.inl rfl, rfl⟩))))
 ·refine qF rfl g2 (rn 1 rfl ?_)
  rcases cond_some h with ⟨g3, h⟩ | ⟨g3, h⟩
  ·exact qT rfl g3 (rn 1 rfl (ls_ret ((by cases h; exact ⟨.inl rfl, rfl⟩))))
  ·exact qF rfl g3 (ls_skip (hK1 _ (rn 1 rfl (qk [4] rfl (ls_ret ((by cases h; exact ⟨.inl rfl, rfl⟩)))))))
def impl_CompareRows_B1 (a0 : List Int) (a1 : List Int) (rec : Int → Option (Sum (Unit) (Int))) (y1 : Int) : Option (Sum (Unit) (Int)) := cond (decide (y1 < (List.length a0 : Int))) (cond (decide (y1 < (List.length a1 : Int))) (obind (geti a0 y1) fun e6 => obind (geti a1 y1) fun e8 => cond (e6 != e8) (obind (geti a0 y1) fun e11 => obind (geti a1 y1) fun e13 => obind (impl_compareInts e11 e13) fun v15 => some (.inr v15)) (rec (IntKind.i64.wrap (y1 + 1)))) (some (.inl ()))) (some (.inl ()))
def impl_CompareRows (a0 : List Int) (a1 : List Int) : Option (Int) := obind (loopF (impl_CompareRows_B1 a0 a1) fz 0) fun o1 => (match o1 with
  | .inl _ => (obind (impl_compareInts (List.length a0 : Int) (List.length a1 : Int)) fun v17 => some v17)
  | .inr r => some r)
theorem impl_CompareRows_s {a0 : List Int} {a1 : List Int} {r : Int} (h : impl_CompareRows a0 a1 = some r) : SoundAt Try.prog 223 [dL ci64 a0, dL ci64 a1] (nI r) := by
 unfold impl_CompareRows at h
 refine st lit223 rfl (rn 1 rfl (ls_seq_k fun K1 hK1 => rn 1 rfl ?_))
 obtain ⟨o1, hl, hr1⟩ := ob_some h
 have kXB1 : (.inl ()) = o1 → Jn K1 [(0, dL ci64 a0), (1, dL ci64 a1)] := by
  intro h σ' hk
  subst h
  replace h := hr1
  try dsimp only at h
  refine hK1 _ (lh hk rfl (rs (sp 4 rfl (?_))))
  obtain ⟨v17, g18, h⟩ := ob_some h
  exact qC (qs rfl (qs rfl eran)) (impl_compareInts_s g18) (sp 1 rfl (evn (ls_ret ((by cases h; exact ⟨.inl rfl, rfl⟩)))))
 refine ls_rec (fun (y1 : Int) => [(0, dL ci64 a0), (1, dL ci64 a1), (5, nI y1)]) _ _ _ _ hl (okr rfl) (fun _ => rfl) ?_
 rintro m y1 N h hN
 unfold impl_CompareRows_B1 at h
 refine ls_seq_k fun K2 hK2 => rs (sp 5 rfl (?_))
 rcases cond_some h with ⟨g3, h⟩ | ⟨g3, h⟩
 ·refine qg 10 g3 rfl (sp 5 rfl (evn ?_))
  rcases cond_some h with ⟨g4, h⟩ | ⟨g4, h⟩
  ·refine qT rfl g4 (ls_skip (hK2 _ (ls_seq_k fun K5 hK5 => ls_blk (rd (by kernel_rfl) (sd 2 rfl (?_))))))
   obtain ⟨e6, g7, h⟩ := ob_some h
   refine ed rfl (qI rfl zci64 g7 (sd 3 rfl (?_)))
   obtain ⟨e8, g9, h⟩ := ob_some h
   refine ed rfl (qI rfl zci64 g9 (sd 2 rfl (evdn ?_)))
   rcases cond_some h with ⟨g10, h⟩ | ⟨g10, h⟩
   ·refine qT rfl g10 (rd (by kernel_rfl) (sd 2 rfl (?_)))
    obtain ⟨e11, g12, h⟩ := ob_some h
    refine ed rfl (qI rfl zci64 g12 (sd 3 rfl (?_)))
    obtain ⟨e13, g14, h⟩ := ob_some h
    refine ed rfl (qI rfl zci64 g14 (sd 1 rfl (?_)))
    obtain ⟨v15, g16, h⟩ := ob_some h
    exact ed rfl (qC (qs rfl (qs rfl eran)) (impl_compareInts_s g16) (sd 1 rfl (evdn (qk [4] rfl (ls_ret ((by cases h; cases hr1; exact ⟨.inl rfl, rfl⟩)))))))
   ·exact qF rfl g10 (ls_skip (hK5 _ (rg (sp 3 rfl (evn (hN _ _ h (okr rfl)))))))
  ·exact qF rfl g4 (ls_exit (kXB1 (Option.some.inj h) _ (okr rfl)))
 ·exact qg 10 g3 rfl (sp 5 rfl (evn (qF rfl rfl (ls_exit (kXB1 (Option.some.inj h) _ (okr rfl))))))
def impl_rowsValid_J2 (rec : Int → Option (Sum (Unit) (Bool))) (y1 : Int) (x13 : Bool) : Option (Sum (Unit) (Bool)) := cond x13 (some (.inr false)) (rec (IntKind.i64.wrap (y1 + 1)))
def impl_rowsValid_B1 (a0 : Int) (a1 : List (List Int)) (rec : Int → Option (Sum (Unit) (Bool))) (y1 : Int) : Option (Sum (Unit) (Bool)) := cond (decide (y1 < (List.length a1 : Int))) (obind (geti a1 y1) fun e10 => cond ((List.length e10 : Int) != a0) (impl_rowsValid_J2 rec y1 true) (obind (impl_AreValidValues e10) fun v16 => cond (!v16) (impl_rowsValid_J2 rec y1 true) (cond (decide (0 < y1)) (obind (geti a1 (IntKind.i64.wrap (y1 - 1))) fun e20 => obind (impl_CompareRows e20 e10) fun v22 => impl_rowsValid_J2 rec y1 (decide (0 ≤ v22))) (impl_rowsValid_J2 rec y1 false)))) (some (.inl ()))
def impl_rowsValid (a0 : Int) (a1 : List (List Int)) : Option (Bool) := obind (impl_within a0 0 5) fun v2 => cond (!v2) (some false) (cond (decide (4000 < (List.length a1 : Int))) (some false) (obind (loopF (impl_rowsValid_B1 a0 a1) fz 0) fun o1 => (match o1 with
  | .inl _ => (some true)
  | .inr r => some r)))
theorem impl_rowsValid_s {a0 : Int} {a1 : List (List Int)} {r : Bool} (h : impl_rowsValid a0 a1 = some r) : SoundAt Try.prog 172 [nI a0, dL c31_d a1] (.bool r) := by
 unfold impl_rowsValid at h
 refine st lit172 rfl (rn 1 rfl (ls_seq_k fun K1 hK1 => rs (sp 1 rfl (?_))))
 obtain ⟨v2, g3, h⟩ := ob_some h
 refine qC (qs rfl (qs rfl (qs rfl eran))) (impl_within_s g3) (sp 2 rfl (?_))
 rcases cond_some h with ⟨g4, h⟩ | ⟨g4, h⟩
 ·exact qg 10 g4 rfl (sp 4 rfl (evn (qT rfl rfl (rn 1 rfl (ls_ret ((by cases h; exact ⟨.inl rfl, rfl⟩)))))))
 ·refine qg 10 g4 rfl (sp 4 rfl (evn ?_))
  rcases cond_some h with ⟨g5, h⟩ | ⟨g5, h⟩
  ·exact qT rfl g5 (rn 1 rfl (ls_ret ((by cases h; exact ⟨.inl rfl, rfl⟩))))
  ·refine qF rfl g5 (ls_skip (hK1 _ (ls_seq_k fun K6 hK6 => rn 1 rfl (qk [0, 1, 15, 16, 17] rfl ?_))))
   obtain ⟨o1, hl, hr1⟩ := ob_some h
   have kXB1 : (.inl ()) = o1 → Jn K6 [] := by
    intro h σ' hk
    subst h
    replace h := hr1
    try dsimp only at h
    exact hK6 _ (lh hk rfl (rn 1 rfl (ls_ret ((by cases h; exact ⟨.inl rfl, rfl⟩)))))
   refine ls_rec (fun (y1 : Int) => [(0, nI a0), (1, dL c31_d a1), (15, dL c31_d a1), (16, nI (List.length a1 : Int)), (17, nI y1)]) _ _ _ _ hl (okr rfl) (fun _ => rfl) ?_
   rintro m y1 N h hN
   unfold impl_rowsValid_B1 at h
   refine rn 1 rfl (ls_seq_k fun K7 hK7 => ?_)
   rcases cond_some h with ⟨g8, h⟩ | ⟨g8, h⟩
   ·refine qT rfl g8 (ls_skip (hK7 _ (ls_seq_k fun K9 hK9 => ls_blk (rs (sp 1 rfl (?_))))))
    obtain ⟨e10, g11, h⟩ := ob_some h
    refine qI rfl zc31_d g11 (sp 3 rfl (evn (rk fun K12 hK12 => ?_)))
    have kJ2 : ∀ {x13 : Bool}, impl_rowsValid_J2 (loopF (impl_rowsValid_B1 a0 a1) m) y1 x13 = some o1 → Jn K12 [(0, nI a0), (1, dL c31_d a1), (15, dL c31_d a1), (16, nI (List.length a1 : Int)), (17, nI y1), (44, .bool x13)] := by
     intro x13 h σ' hk
     unfold impl_rowsValid_J2 at h
     refine hK12 _ (lh hk rfl ?_)
     rcases cond_some h with ⟨g14, h⟩ | ⟨g14, h⟩
     ·exact qT rfl g14 (rn 1 rfl (ls_ret ((by cases h; cases hr1; exact ⟨.inl rfl, rfl⟩))))
     ·exact qF rfl g14 (ls_skip (hK9 _ (rg (sp 2 rfl (evn (hN _ _ h (okr rfl)))))))
    refine sp 5 rfl (?_)
    rcases cond_some h with ⟨g15, h⟩ | ⟨g15, h⟩
    ·exact qg 26 g15 rfl (sp 18 rfl (evn (kJ2 h _ (okr rfl))))
    ·refine qg 26 g15 rfl (sp 1 rfl (?_))
     obtain ⟨v16, g17, h⟩ := ob_some h
     refine oGR rfl rfl (qC (qa rfl (erD eci64 _) eran) (impl_AreValidValues_s g17) (sp 3 rfl (?_)))
     rcases cond_some h with ⟨g18, h⟩ | ⟨g18, h⟩
     ·exact qg 31 g18 rfl (sp 13 rfl (evn (kJ2 h _ (okr rfl))))
     ·refine qg 31 g18 rfl (sp 3 rfl (?_))
      rcases cond_some h with ⟨g19, h⟩ | ⟨g19, h⟩
      ·refine qg 34 g19 rfl (sp 3 rfl (?_))
       obtain ⟨e20, g21, h⟩ := ob_some h
       refine oGR rfl rfl (qI rfl zc31_d g21 (sp 2 rfl (?_)))
       obtain ⟨v22, g23, h⟩ := ob_some h
       exact oGR rfl rfl (qC (qa rfl (erD eci64 _) (qa rfl (erD eci64 _) eran)) (impl_CompareRows_s g23) (sp 3 rfl (evn (kJ2 h _ (okr rfl)))))
      ·exact qg 34 g19 rfl (sp 10 rfl (evn (kJ2 h _ (okr rfl))))
   ·exact qF rfl g8 (ls_exit (kXB1 (Option.some.inj h) _ trivial))
def impl_IsValidRelation (a0 : Y25) : Option (Bool) := obind (impl_rowsValid a0.1 a0.2) fun v1 => some v1
theorem impl_IsValidRelation_s {a0 : Y25} {r : Bool} (h : impl_IsValidRelation a0 = some r) : SoundAt Try.prog 85 [.agg (c26_dd a0)] (.bool r) := by
 unfold impl_IsValidRelation at h
 refine st lit85 rfl (rn 1 rfl (rs (sp 4 rfl (?_))))
 obtain ⟨v1, g2, h⟩ := ob_some h
 exact qC (qs rfl (qa rfl (erD ec31_d _) eran)) (impl_rowsValid_s g2) (sp 1 rfl (evn (ls_ret ((by cases h; exact ⟨.inl rfl, rfl⟩)))))
def impl_isLetters_B1 (a0 : List UInt8) (rec : Int → Option (Sum (Unit) (Bool))) (y1 : Int) : Option (Sum (Unit) (Bool)) := cond (decide (y1 < (List.length a0 : Int))) (obind (geti a0 y1) fun b8 => cond (decide ((UInt8.toNat b8 : Int) < 97)) (some (.inr false)) (obind (geti a0 y1) fun b11 => cond (decide (122 < (UInt8.toNat b11 : Int))) (some (.inr false)) (rec (IntKind.i64.wrap (y1 + 1))))) (some (.inl ()))
def impl_isLetters (a0 : List UInt8) (a1 : Int) : Option (Bool) := cond (decide ((List.length a0 : Int) < 1)) (some false) (cond (decide (a1 < (List.length a0 : Int))) (some false) (obind (loopF (impl_isLetters_B1 a0) fz 0) fun o1 => (match o1 with
  | .inl _ => (some true)
  | .inr r => some r)))
theorem impl_isLetters_s {a0 : List UInt8} {a1 : Int} {r : Bool} (h : impl_isLetters a0 a1 = some r) : SoundAt Try.prog 232 [.str a0, nI a1] (.bool r) := by
 unfold impl_isLetters at h
 refine st lit232 rfl (rn 1 rfl (ls_seq_k fun K1 hK1 => rs (sp 4 rfl (?_))))
 rcases cond_some h with ⟨g2, h⟩ | ⟨g2, h⟩
 ·exact qg 9 g2 rfl (sp 5 rfl (evn (qT rfl rfl (rn 1 rfl (ls_ret ((by cases h; exact ⟨.inl rfl, rfl⟩)))))))
 ·refine qg 9 g2 rfl (sp 5 rfl (evn ?_))
  rcases cond_some h with ⟨g3, h⟩ | ⟨g3, h⟩
  ·exact qT rfl g3 (rn 1 rfl (ls_ret ((by cases h; exact ⟨.inl rfl, rfl⟩))))
  ·refine qF rfl g3 (ls_skip (hK1 _ (ls_seq_k fun K4 hK4 => rn 1 rfl (qk [0, 5] rfl ?_))))
   obtain ⟨o1, hl, hr1⟩ := ob_some h
   have kXB1 : (.inl ()) = o1 → Jn K4 [] := by
    intro h σ' hk
    subst h
    replace h := hr1
    try dsimp only at h
    exact hK4 _ (lh hk rfl (rn 1 rfl (ls_ret ((by cases h; exact ⟨.inl rfl, rfl⟩)))))
   refine ls_rec (fun (y1 : Int) => [(0, .str a0), (5, nI y1)]) _ _ _ _ hl (okr rfl) (fun _ => rfl) ?_
   rintro m y1 N h hN
   unfold impl_isLetters_B1 at h
   refine ls_seq_k fun K5 hK5 => rn 1 rfl ?_
   rcases cond_some h with ⟨g6, h⟩ | ⟨g6, h⟩
   ·refine qT rfl g6 (ls_skip (hK5 _ (ls_seq_k fun K7 hK7 => ls_blk (rs (sp 2 rfl (?_))))))
    obtain ⟨b8, g9, h⟩ := ob_some h
    refine qX rfl g9 (sp 2 rfl (?_))
    rcases cond_some h with ⟨g10, h⟩ | ⟨g10, h⟩
    ·exact qg 25 g10 rfl (sp 5 rfl (evn (qT rfl rfl (rn 1 rfl (ls_ret ((by cases h; cases hr1; exact ⟨.inl rfl, rfl⟩)))))))
    ·refine qg 25 g10 rfl (sp 2 rfl (?_))
     obtain ⟨b11, g12, h⟩ := ob_some h
     refine oGR rfl rfl (qX rfl g12 (sp 2 rfl (evn ?_)))
     rcases cond_some h with ⟨g13, h⟩ | ⟨g13, h⟩
     ·exact qT rfl g13 (rn 1 rfl (qk [4] rfl (ls_ret ((by cases h; cases hr1; exact ⟨.inl rfl, rfl⟩)))))
     ·exact qF rfl g13 (ls_skip (hK7 _ (rg (sp 3 rfl (evn (hN _ _ h (okr rfl)))))))
   ·exact qF rfl g6 (ls_exit (kXB1 (Option.some.inj h) _ trivial))
def impl_IsValidName (a0 : List UInt8) : Option (Bool) := obind (impl_isLetters a0 4) fun v1 => some v1
theorem impl_IsValidName_s {a0 : List UInt8} {r : Bool} (h : impl_IsValidName a0 = some r) : SoundAt Try.prog 212 [.str a0] (.bool r) := by
 unfold impl_IsValidName at h
 refine st lit212 rfl (rn 1 rfl (rs (sp 1 rfl (?_))))
 obtain ⟨v1, g2, h⟩ := ob_some h
 exact qC (qs rfl (qs rfl eran)) (impl_isLetters_s g2) (sp 1 rfl (evn (ls_ret ((by cases h; exact ⟨.inl rfl, rfl⟩)))))
def impl_IsValidDatabase_J2 (rec : Int → Option (Sum (Unit) (Bool))) (y1 : Int) (x10 : Bool) : Option (Sum (Unit) (Bool)) := cond x10 (some (.inr false)) (rec (IntKind.i64.wrap (y1 + 1)))
def impl_IsValidDatabase_B1 (a0 : List Y106) (rec : Int → Option (Sum (Unit) (Bool))) (y1 : Int) : Option (Sum (Unit) (Bool)) := cond (decide (y1 < (List.length a0 : Int))) (obind (geti a0 y1) fun e7 => obind (impl_IsValidName e7.1) fun v12 => cond (!v12) (impl_IsValidDatabase_J2 rec y1 true) (cond (decide (0 < y1)) (obind (geti a0 (IntKind.i64.wrap (y1 - 1))) fun e16 => cond (!Op.bytesLess e16.1 e7.1) (impl_IsValidDatabase_J2 rec y1 true) (obind (impl_IsValidRelation e7.2) fun v19 => cond (!v19) (impl_IsValidDatabase_J2 rec y1 true) (cond (decide (e7.2.1 < 1)) (impl_IsValidDatabase_J2 rec y1 true) (impl_IsValidDatabase_J2 rec y1 (decide (16 < (List.length e7.2.2 : Int))))))) (obind (impl_IsValidRelation e7.2) fun v23 => cond (!v23) (impl_IsValidDatabase_J2 rec y1 true) (cond (decide (e7.2.1 < 1)) (impl_IsValidDatabase_J2 rec y1 true) (impl_IsValidDatabase_J2 rec y1 (decide (16 < (List.length e7.2.2 : Int)))))))) (some (.inl ()))
def impl_IsValidDatabase (a0 : List Y106) : Option (Bool) := cond (decide (6 < (List.length a0 : Int))) (some false) (obind (loopF (impl_IsValidDatabase_B1 a0) fz 0) fun o1 => (match o1 with
  | .inl _ => (some true)
  | .inr r => some r))
theorem impl_IsValidDatabase_s {a0 : List Y106} {r : Bool} (h : impl_IsValidDatabase a0 = some r) : SoundAt Try.prog 176 [.agg [dL c107_dd a0]] (.bool r) := by
 unfold impl_IsValidDatabase at h
 refine st lit176 rfl (rn 1 rfl (ls_seq_k fun K1 hK1 => rn 1 rfl ?_))
 rcases cond_some h with ⟨g2, h⟩ | ⟨g2, h⟩
 ·exact qT rfl g2 (rn 1 rfl (ls_ret ((by cases h; exact ⟨.inl rfl, rfl⟩))))
 ·refine qF rfl g2 (ls_skip (hK1 _ (ls_seq_k fun K3 hK3 => rn 1 rfl ?_)))
  obtain ⟨o1, hl, hr1⟩ := ob_some h
  have kXB1 : (.inl ()) = o1 → Jn K3 [] := by
   intro h σ' hk
   subst h
   replace h := hr1
   try dsimp only at h
   exact hK3 _ (lh hk rfl (rn 1 rfl (ls_ret ((by cases h; exact ⟨.inl rfl, rfl⟩)))))
  refine ls_rec (fun (y1 : Int) => [(1, .box [dL c107_dd a0]), (10, dL c107_dd a0), (11, nI (List.length a0 : Int)), (12, nI y1)]) _ _ _ _ hl (okr rfl) (fun _ => rfl) ?_
  rintro m y1 N h hN
  unfold impl_IsValidDatabase_B1 at h
  refine rn 1 rfl (ls_seq_k fun K4 hK4 => ?_)
  rcases cond_some h with ⟨g5, h⟩ | ⟨g5, h⟩
  ·refine qT rfl g5 (ls_skip (hK4 _ (ls_seq_k fun K6 hK6 => ls_blk (rs (sp 1 rfl (?_))))))
   obtain ⟨e7, g8, h⟩ := ob_some h
   refine qI rfl zc107_dd g8 (sp 4 rfl (evn (rdk (by kernel_rfl) fun K9 hK9 => ?_)))
   have kJ2 : ∀ {x10 : Bool}, impl_IsValidDatabase_J2 (loopF (impl_IsValidDatabase_B1 a0) m) y1 x10 = some o1 → Jn K9 [(1, .box [dL c107_dd a0]), (10, dL c107_dd a0), (11, nI (List.length a0 : Int)), (12, nI y1), (55, .bool x10)] := by
    intro x10 h σ' hk
    unfold impl_IsValidDatabase_J2 at h
    refine hK9 _ (lh hk rfl ?_)
    rcases cond_some h with ⟨g11, h⟩ | ⟨g11, h⟩
    ·exact qT rfl g11 (rn 1 rfl (ls_ret ((by cases h; cases hr1; exact ⟨.inl rfl, rfl⟩))))
    ·exact qF rfl g11 (ls_skip (hK6 _ (rg (sp 2 rfl (evn (hN _ _ h (okr rfl)))))))
   refine sd 2 rfl (?_)
   obtain ⟨v12, g13, h⟩ := ob_some h
   refine ed rfl (qC (qs rfl eran) (impl_IsValidName_s g13) (sd 2 rfl (?_)))
   rcases cond_some h with ⟨g14, h⟩ | ⟨g14, h⟩
   ·exact qgd 21 g14 rfl (sd 34 rfl (evdn (kJ2 h _ (okr rfl))))
   ·refine qgd 21 g14 rfl (sd 3 rfl (?_))
    rcases cond_some h with ⟨g15, h⟩ | ⟨g15, h⟩
    ·refine qgd 24 g15 rfl (sd 4 rfl (?_))
     obtain ⟨e16, g17, h⟩ := ob_some h
     refine ed rfl (oGR rfl rfl (qI rfl zc107_dd g17 (sd 8 rfl (?_))))
     rcases cond_some h with ⟨g18, h⟩ | ⟨g18, h⟩
     ·exact qgd 37 g18 rfl (sd 18 rfl (evdn (kJ2 h _ (okr rfl))))
     ·refine qgd 37 g18 rfl (sd 2 rfl (?_))
      obtain ⟨v19, g20, h⟩ := ob_some h
      refine ed rfl (oGR rfl rfl (qC (qa rfl (erg (erc rfl (erc (erD ec31_d _) rfl))) eran) (impl_IsValidRelation_s g20) (sd 3 rfl (?_))))
      rcases cond_some h with ⟨g21, h⟩ | ⟨g21, h⟩
      ·exact qgd 43 g21 rfl (sd 12 rfl (evdn (kJ2 h _ (okr rfl))))
      ·refine qgd 43 g21 rfl (sd 6 rfl (?_))
       rcases cond_some h with ⟨g22, h⟩ | ⟨g22, h⟩
       ·exact qgd 49 g22 rfl (sd 6 rfl (evdn (kJ2 h _ (okr rfl))))
       ·exact qgd 49 g22 rfl (sd 6 rfl (evdn (kJ2 h _ (okr rfl))))
    ·refine qgd 24 g15 rfl (sd 15 rfl (?_))
     obtain ⟨v23, g24, h⟩ := ob_some h
     refine ed rfl (oGR rfl rfl (qC (qa rfl (erg (erc rfl (erc (erD ec31_d _) rfl))) eran) (impl_IsValidRelation_s g24) (sd 3 rfl (?_))))
     rcases cond_some h with ⟨g25, h⟩ | ⟨g25, h⟩
     ·exact qgd 43 g25 rfl (sd 12 rfl (evdn (kJ2 h _ (okr rfl))))
     ·refine qgd 43 g25 rfl (sd 6 rfl (?_))
      rcases cond_some h with ⟨g26, h⟩ | ⟨g26, h⟩
      ·exact qgd 49 g26 rfl (sd 6 rfl (evdn (kJ2 h _ (okr rfl))))
      ·exact qgd 49 g26 rfl (sd 6 rfl (evdn (kJ2 h _ (okr rfl))))
  ·exact qF rfl g5 (ls_exit (kXB1 (Option.some.inj h) _ trivial))
def impl_IsValidHistory_B1 (a0 : Y69) (rec : Int → Option (Sum (Unit) (Bool))) (y1 : Int) : Option (Sum (Unit) (Bool)) := cond (decide (y1 < (List.length a0.2 : Int))) (obind (geti a0.2 y1) fun e12 => obind (impl_IsValidDatabase e12) fun v14 => cond (!v14) (some (.inr false)) (rec (IntKind.i64.wrap (y1 + 1)))) (some (.inl ()))
def impl_IsValidHistory (a0 : Y69) : Option (Bool) := obind (impl_within (List.length a0.2 : Int) 1 6) fun v2 => cond (!v2) (some false) (obind (impl_within a0.1 1 (IntKind.i64.wrap ((IntKind.i64.wrap (99 - (List.length a0.2 : Int))) + 1))) fun v5 => cond (!v5) (some false) (obind (loopF (impl_IsValidHistory_B1 a0) fz 0) fun o1 => (match o1 with
  | .inl _ => (some true)
  | .inr r => some r)))
theorem impl_IsValidHistory_s {a0 : Y69} {r : Bool} (h : impl_IsValidHistory a0 = some r) : SoundAt Try.prog 118 [.agg (c70_dddd a0)] (.bool r) := by
 unfold impl_IsValidHistory at h
 refine st lit118 rfl (rn 2 rfl (ls_seq_k fun K1 hK1 => rs (sp 1 rfl (?_))))
 obtain ⟨v2, g3, h⟩ := ob_some h
 refine qC (qs rfl (qs rfl (qs rfl eran))) (impl_within_s g3) (sp 2 rfl (?_))
 rcases cond_some h with ⟨g4, h⟩ | ⟨g4, h⟩
 ·exact qg 12 g4 rfl (sp 8 rfl (evn (qT rfl rfl (rn 1 rfl (ls_ret ((by cases h; exact ⟨.inl rfl, rfl⟩)))))))
 ·refine qg 12 g4 rfl (sp 5 rfl (?_))
  obtain ⟨v5, g6, h⟩ := ob_some h
  refine oGR rfl rfl (qC (qs rfl (qs rfl (qs rfl eran))) (impl_within_s g6) (sp 2 rfl (evn ?_)))
  rcases cond_some h with ⟨g7, h⟩ | ⟨g7, h⟩
  ·exact qT rfl g7 (rn 1 rfl (qk [2] rfl (ls_ret ((by cases h; exact ⟨.inl rfl, rfl⟩)))))
  ·refine qF rfl g7 (ls_skip (hK1 _ (ls_seq_k fun K8 hK8 => rn 1 rfl ?_)))
   obtain ⟨o1, hl, hr1⟩ := ob_some h
   have kXB1 : (.inl ()) = o1 → Jn K8 [] := by
    intro h σ' hk
    subst h
    replace h := hr1
    try dsimp only at h
    exact hK8 _ (lh hk rfl (rn 1 rfl (ls_ret ((by cases h; exact ⟨.inl rfl, rfl⟩)))))
   refine ls_rec (fun (y1 : Int) => [(22, dL c42_ddd a0.2), (23, nI (List.length a0.2 : Int)), (24, nI y1)]) _ _ _ _ hl (okr rfl) (fun _ => rfl) ?_
   rintro m y1 N h hN
   unfold impl_IsValidHistory_B1 at h
   refine rn 1 rfl (ls_seq_k fun K9 hK9 => ?_)
   rcases cond_some h with ⟨g10, h⟩ | ⟨g10, h⟩
   ·refine qT rfl g10 (ls_skip (hK9 _ (ls_seq_k fun K11 hK11 => ls_blk (rs ?_))))
    obtain ⟨e12, g13, h⟩ := ob_some h
    refine qI rfl zc42_ddd g13 (sp 3 rfl (evn (rs (sp 1 rfl (?_)))))
    obtain ⟨v14, g15, h⟩ := ob_some h
    refine qC (qa rfl (erg (erc (erD ec107_dd _) rfl)) eran) (impl_IsValidDatabase_s g15) (sp 1 rfl (evn ?_))
    rcases cond_some h with ⟨g16, h⟩ | ⟨g16, h⟩
    ·exact qT rfl g16 (rn 1 rfl (ls_ret ((by cases h; cases hr1; exact ⟨.inl rfl, rfl⟩))))
    ·exact qF rfl g16 (ls_skip (hK11 _ (rg (sp 2 rfl (evn (hN _ _ h (okr rfl)))))))
   ·exact qF rfl g10 (ls_exit (kXB1 (Option.some.inj h) _ trivial))
def impl_sorted_J5 (rec : ((List (Nat × (List Int))) × (List (Nat × (List Int))) × (List (Nat × (List Int)))) → Option ((List (Nat × (List Int))))) (y2 : List (Nat × (List Int))) (x20 : List (Nat × (List Int))) (x24 : List (Nat × (List Int))) : Option ((List (Nat × (List Int)))) := chk ((0 : Int) ≤ 1 ∧ 1 ≤ (List.length y2 : Int) ∧ (List.length y2 : Int) ≤ (List.length y2 : Int)) (rec (x20, (subl y2 1 (List.length y2 : Int)), x24))
def impl_sorted_J4 (rec : ((List (Nat × (List Int))) × (List (Nat × (List Int))) × (List (Nat × (List Int)))) → Option ((List (Nat × (List Int))))) (y2 : List (Nat × (List Int))) (x18 : Int) (x20 : List (Nat × (List Int))) (x21 : List (Nat × (List Int))) : Option ((List (Nat × (List Int)))) := cond (decide (0 ≤ x18)) (cond (decide (0 < x18)) (obind (geti y2 0) fun e27 => chk (List.length x21 + List.length [e27] ≤ lim) (impl_sorted_J5 rec y2 x20 (x21 ++ [e27]))) (impl_sorted_J5 rec y2 x20 x21)) (rec (x20, y2, x21))
def impl_sorted_J3 (rec : ((List (Nat × (List Int))) × (List (Nat × (List Int))) × (List (Nat × (List Int)))) → Option ((List (Nat × (List Int))))) (y1 : List (Nat × (List Int))) (y2 : List (Nat × (List Int))) (y3 : List (Nat × (List Int))) (x18 : Int) : Option ((List (Nat × (List Int)))) := cond (decide (x18 ≤ 0)) (obind (geti y1 0) fun e31 => chk (List.length y3 + List.length [e31] ≤ lim) (chk ((0 : Int) ≤ 1 ∧ 1 ≤ (List.length y1 : Int) ∧ (List.length y1 : Int) ≤ (List.length y1 : Int)) (impl_sorted_J4 rec y2 x18 (subl y1 1 (List.length y1 : Int)) (y3 ++ [e31])))) (impl_sorted_J4 rec y2 x18 y1 y3)
def impl_sorted_J2 (rec : ((List (Nat × (List Int))) × (List (Nat × (List Int))) × (List (Nat × (List Int)))) → Option ((List (Nat × (List Int))))) (y1 : List (Nat × (List Int))) (y2 : List (Nat × (List Int))) (y3 : List (Nat × (List Int))) (x15 : Bool) : Option ((List (Nat × (List Int)))) := cond x15 (cond ((List.length y1 : Int) == 0) (impl_sorted_J3 rec y1 y2 y3 1) (cond (decide (0 < (List.length y2 : Int))) (obind (geti y1 0) fun e37 => obind (geti y2 0) fun e39 => obind (impl_CompareRows e37.2 e39.2) fun v41 => impl_sorted_J3 rec y1 y2 y3 v41) (impl_sorted_J3 rec y1 y2 y3 (-1)))) (some y3)
def impl_sorted_B1  (rec : ((List (Nat × (List Int))) × (List (Nat × (List Int))) × (List (Nat × (List Int)))) → Option ((List (Nat × (List Int))))) (s : (List (Nat × (List Int))) × (List (Nat × (List Int))) × (List (Nat × (List Int)))) : Option ((List (Nat × (List Int)))) := match s with
  | (y1, y2, y3) => cond (decide (0 < (List.length y1 : Int))) (impl_sorted_J2 rec y1 y2 y3 true) (impl_sorted_J2 rec y1 y2 y3 (decide (0 < (List.length y2 : Int))))
def impl_sorted_R (rec : ((List (List Int))) → Option ((List (List Int)))) (a0 : (List (List Int))) : Option ((List (List Int))) := cond (decide ((List.length a0 : Int) < 2)) (obind (impl_copyRows a0) fun v3 => some v3) (chk ((0 : Int) ≤ 0 ∧ 0 ≤ IntKind.i64.wrap (Int.tdiv (List.length a0 : Int) 2) ∧ IntKind.i64.wrap (Int.tdiv (List.length a0 : Int) 2) ≤ (List.length a0 : Int)) (obind (rec (subl a0 0 (IntKind.i64.wrap (Int.tdiv (List.length a0 : Int) 2)))) fun v6 => chk ((0 : Int) ≤ IntKind.i64.wrap (Int.tdiv (List.length a0 : Int) 2) ∧ IntKind.i64.wrap (Int.tdiv (List.length a0 : Int) 2) ≤ (List.length a0 : Int) ∧ (List.length a0 : Int) ≤ (List.length a0 : Int)) (obind (rec (subl a0 (IntKind.i64.wrap (Int.tdiv (List.length a0 : Int) 2)) (List.length a0 : Int))) fun v9 => obind (loopF impl_sorted_B1 fz ((enumP 0 v6), (enumP (List.length v6) v9), ([] : List (Nat × (List Int))))) fun z12 => chk (okJ (v6 ++ v9) (List.map Sum.inl z12) [] = true) (some (List.map getM (List.map Sum.inl z12))))))
def impl_sorted (a0 : List (List Int)) : Option ((List (List Int))) := loopF impl_sorted_R fz a0
theorem impl_sorted_s {a0 : List (List Int)} {r : (List (List Int))} (h : impl_sorted a0 = some r) : SoundAt Try.prog 174 [dL c31_d a0] (oL 31 c31_o r) := by
 suffices key : ∀ m (a0 : List (List Int)) (r : (List (List Int))), loopF impl_sorted_R m a0 = some r → SoundAt Try.prog 174 [dL c31_d a0] (oL 31 c31_o r) from key fz a0 r h
 intro m
 induction m with
 | zero => intro a0 r h; cases h
 | succ m ih0 =>
  intro a0 r h
  have ih : ∀ {a0 : List (List Int)} {r : (List (List Int))}, loopF impl_sorted_R m a0 = some r → SoundAt Try.prog 174 [dL c31_d a0] (oL 31 c31_o r) := fun h => ih0 _ _ h
  change impl_sorted_R (loopF impl_sorted_R m) a0 = some r at h
  unfold impl_sorted_R at h
  try dsimp only at h
  refine st lit174 rfl (rn 1 rfl (ls_seq_k fun K1 hK1 => rn 1 rfl ?_))
  rcases cond_some h with ⟨g2, h⟩ | ⟨g2, h⟩
  ·refine qT rfl g2 (rs (sp 1 rfl (?_)))
   obtain ⟨v3, g4, h⟩ := ob_some h
   exact qC (qa rfl (erD ec31_d _) eran) (impl_copyRows_s g4) (sp 1 rfl (evn (ls_ret ((by cases h; exact ⟨.inl rfl, rfl⟩)))))
  ·refine qF rfl g2 (ls_skip (hK1 _ (rn 1 rfl (rd (by kernel_rfl) (sd 2 rfl (?_))))))
   obtain ⟨g5, h⟩ := chk_some h
   refine ed rfl (qSl rfl zc31_d g5 (?_))
   obtain ⟨v6, g7, h⟩ := ob_some h
   refine ed rfl (qC (qa rfl (erD ec31_d _) eran) (ih g7) (sd 2 rfl (?_)))
   obtain ⟨g8, h⟩ := chk_some h
   refine ed rfl (qSl rfl zc31_d g8 (?_))
   obtain ⟨v9, g10, h⟩ := ob_some h
   refine ed rfl (qC (qa rfl (erD ec31_d _) eran) (ih g10) (sd 2 rfl (evdn (qk [4, 5] rfl (ls_split2 (f := c31_o) (s1 := 4) (s2 := 5) (g1 := 900001) (g2 := 900002) rfl rfl rfl rfl ⟨by decide, by decide, by decide, by decide, by decide, by decide⟩ (split_own (fun _ => rfl)) (split_own (fun _ => rfl)) (fun _ => rfl) (fun _ => rfl) (fun _ => rfl) (fun _ => rfl) ?_)))))
   intro U us1 us2 hu1 hu2 hU
   refine kp [(4, oL 31 (pE c31_o U) (enumP 0 v6)), (5, oL 31 (pE c31_o U) (enumP (List.length v6) v9)), (900001, .gh us1 (List.map (fun x => tokC (c31_o x)) v6)), (900002, .gh us2 (List.map (fun x => tokC (c31_o x)) v9))] rfl rfl (rn 1 rfl (ls_seq_k fun K11 hK11 => ?_))
   obtain ⟨o1, hl, hr1⟩ := ob_some h
   have kXB1 : ∀ {z12 : List (Nat × (List Int))}, z12 = o1 → Jn K11 [(6, oL 31 (pE c31_o U) z12), (900001, .gh us1 (List.map (fun x => tokC (c31_o x)) v6)), (900002, .gh us2 (List.map (fun x => tokC (c31_o x)) v9))] := by
    intro z12 h σ' hk
    subst h
    replace h := hr1
    try dsimp only at h
    refine hK11 _ (lh hk rfl (qk [6, 900001, 900002] rfl ?_))
    obtain ⟨g44, h⟩ := chk_some h
    exact ls_merge (g1 := 900001) (g2 := 900002) rfl rfl (by decide) (ls_join1 (f := c31_o) (s := 6) (q := 900001) (l := v6 ++ v9) (U := U) (L := List.map Sum.inl z12) own_inl rfl List.map_append.symm (by decide) (join_own (fun _ => rfl)) hU g44 rfl rfl (kp [(6, oL 31 c31_o (List.map getM (List.map Sum.inl z12)))] rfl rfl (rn 1 rfl (ls_ret ((by cases h; exact ⟨.inl rfl, rfl⟩))))))
   refine ls_rec (fun (s : (List (Nat × (List Int))) × (List (Nat × (List Int))) × (List (Nat × (List Int)))) => match s with | (y1, y2, y3) => [(4, dL (pE c31_o U) y1), (5, dL (pE c31_o U) y2), (6, oL 31 (pE c31_o U) y3), (900001, .gh us1 (List.map (fun x => tokC (c31_o x)) v6)), (900002, .gh us2 (List.map (fun x => tokC (c31_o x)) v9))]) _ _ _ _ hl ⟨(kd rfl rfl), (kd rfl rfl), kr, kr, kr, trivial⟩ (fun _ => rfl) ?_
   rintro m ⟨y1, y2, y3⟩ N h hN
   unfold impl_sorted_B1 at h
   dsimp only at h
   refine ls_seq_k fun K13 hK13 => rk fun K14 hK14 => ?_
   have kJ2 : ∀ {x15 : Bool}, impl_sorted_J2 (loopF impl_sorted_B1 m) y1 y2 y3 x15 = some o1 → Jn K14 [(4, dL (pE c31_o U) y1), (5, dL (pE c31_o U) y2), (6, oL 31 (pE c31_o U) y3), (31, .bool x15), (900001, .gh us1 (List.map (fun x => tokC (c31_o x)) v6)), (900002, .gh us2 (List.map (fun x => tokC (c31_o x)) v9))] := by
    intro x15 h σ' hk
    unfold impl_sorted_J2 at h
    refine hK14 _ (lh hk rfl ?_)
    rcases cond_some h with ⟨g16, h⟩ | ⟨g16, h⟩
    ·refine qT rfl g16 (ls_skip (hK13 _ (ls_blk (rn 1 rfl (ls_seq_k fun K17 hK17 => rn 1 rfl ?_)))))
     have kJ3 : ∀ {x18 : Int}, impl_sorted_J3 (loopF impl_sorted_B1 m) y1 y2 y3 x18 = some o1 → Jn K17 [(4, dL (pE c31_o U) y1), (5, dL (pE c31_o U) y2), (6, oL 31 (pE c31_o U) y3), (7, nI x18), (900001, .gh us1 (List.map (fun x => tokC (c31_o x)) v6)), (900002, .gh us2 (List.map (fun x => tokC (c31_o x)) v9))] := by
      intro x18 h σ' hk
      unfold impl_sorted_J3 at h
      refine hK17 _ (lh hk rfl (ls_seq_k fun K19 hK19 => rn 1 rfl ?_))
      have kJ4 : ∀ {x20 : List (Nat × (List Int))} {x21 : List (Nat × (List Int))}, impl_sorted_J4 (loopF impl_sorted_B1 m) y2 x18 x20 x21 = some o1 → Jn K19 [(4, dL (pE c31_o U) x20), (5, dL (pE c31_o U) y2), (6, oL 31 (pE c31_o U) x21), (7, nI x18), (900001, .gh us1 (List.map (fun x => tokC (c31_o x)) v6)), (900002, .gh us2 (List.map (fun x => tokC (c31_o x)) v9))] := by
       intro x20 x21 h σ' hk
       unfold impl_sorted_J4 at h
       refine hK19 _ (lh hk rfl (rn 1 rfl ?_))
       rcases cond_some h with ⟨g22, h⟩ | ⟨g22, h⟩
       ·refine qT rfl g22 (ls_seq_k fun K23 hK23 => rn 1 rfl ?_)
        have kJ5 : ∀ {x24 : List (Nat × (List Int))}, impl_sorted_J5 (loopF impl_sorted_B1 m) y2 x20 x24 = some o1 → Jn K23 [(4, dL (pE c31_o U) x20), (5, dL (pE c31_o U) y2), (6, oL 31 (pE c31_o U) x24), (900001, .gh us1 (List.map (fun x => tokC (c31_o x)) v6)), (900002, .gh us2 (List.map (fun x => tokC (c31_o x)) v9))] := by
         intro x24 h σ' hk
         unfold impl_sorted_J5 at h
         refine hK23 _ (lh hk rfl (rg (sp 1 rfl (?_))))
         obtain ⟨g25, h⟩ := chk_some h
         exact qSl rfl (zpE zc31_o) g25 (sp 1 rfl (evn (hN _ _ h (okr rfl))))
        rcases cond_some h with ⟨g26, h⟩ | ⟨g26, h⟩
        ·refine qT rfl g26 (rg (sp 2 rfl (?_)))
         obtain ⟨e27, g28, h⟩ := ob_some h
         refine qI rfl (zpE zc31_o) g28 (sp 1 rfl (qBs (pE c31_o U) [e27] rfl rfl rfl (zpE zc31_o) (?_)))
         obtain ⟨g29, h⟩ := chk_some h
         exact qA (pE c31_o U) x21 [e27] rfl rfl (flat_len (zpE zc31_o) [e27]) rfl g29 (sp 1 rfl (evn (kJ5 h _ (okr rfl))))
        ·exact qF rfl g26 (ls_skip (kJ5 h _ (okr rfl)))
       ·exact qF rfl g22 (ls_skip (hN _ _ h (okr rfl)))
      rcases cond_some h with ⟨g30, h⟩ | ⟨g30, h⟩
      ·refine qT rfl g30 (rs (sp 2 rfl (?_)))
       obtain ⟨e31, g32, h⟩ := ob_some h
       refine qI rfl (zpE zc31_o) g32 (sp 1 rfl (qBs (pE c31_o U) [e31] rfl rfl rfl (zpE zc31_o) (?_)))
       obtain ⟨g33, h⟩ := chk_some h
       refine qA (pE c31_o U) y3 [e31] rfl rfl (flat_len (zpE zc31_o) [e31]) rfl g33 (sp 1 rfl (evn (rg (sp 1 rfl (?_)))))
       obtain ⟨g34, h⟩ := chk_some h
       exact qSl rfl (zpE zc31_o) g34 (sp 1 rfl (evn (kJ4 h _ (okr rfl))))
      ·exact qF rfl g30 (ls_skip (kJ4 h _ (okr rfl)))
     rcases cond_some h with ⟨g35, h⟩ | ⟨g35, h⟩
     ·exact qT rfl g35 (rg (sp 1 rfl (evn (kJ3 h _ (okr rfl)))))
     ·refine qF rfl g35 (rn 1 rfl (qk [4, 5, 6, 7, 37, 900001, 900002] rfl ?_))
      rcases cond_some h with ⟨g36, h⟩ | ⟨g36, h⟩
      ·refine qT rfl g36 (rgd (by kernel_rfl) (sd 1 rfl (?_)))
       obtain ⟨e37, g38, h⟩ := ob_some h
       refine ed rfl (qI rfl (zpE zc31_o) g38 (sd 2 rfl (?_)))
       obtain ⟨e39, g40, h⟩ := ob_some h
       refine ed rfl (qI rfl (zpE zc31_o) g40 (sd 1 rfl (?_)))
       obtain ⟨v41, g42, h⟩ := ob_some h
       exact ed rfl (qC (qa rfl (erP eci64 eci64 _) (qa rfl (erP eci64 eci64 _) eran)) (impl_CompareRows_s g42) (sd 1 rfl (evdn (kJ3 h _ (okr rfl)))))
      ·exact qF rfl g36 (ls_skip (kJ3 h _ (okr rfl)))
    ·exact qF rfl g16 (ls_exit (kXB1 (Option.some.inj h) _ (okr rfl)))
   refine sp 4 rfl (?_)
   rcases cond_some h with ⟨g43, h⟩ | ⟨g43, h⟩
   ·exact qg 27 g43 rfl (sp 4 rfl (evn (kJ2 h _ (okr rfl))))
   ·exact qg 27 g43 rfl (sp 4 rfl (evn (kJ2 h _ (okr rfl))))
def impl_NewRelation_B1 (a0 : Int) (a1 : List (List Int)) (rec : Int → Option (Sum (Unit) (Y25 × Bool))) (y1 : Int) : Option (Sum (Unit) (Y25 × Bool)) := cond (decide (y1 < (List.length a1 : Int))) (obind (geti a1 y1) fun e5 => cond ((List.length e5 : Int) != a0) (some (.inr ((0, []), false))) (obind (impl_AreValidValues e5) fun v8 => cond (!v8) (some (.inr ((0, []), false))) (rec (IntKind.i64.wrap (y1 + 1))))) (some (.inl ()))
def impl_NewRelation (a0 : Int) (a1 : List (List Int)) : Option (Y25 × Bool) := obind (loopF (impl_NewRelation_B1 a0 a1) fz 0) fun o1 => (match o1 with
  | .inl _ => (obind (impl_sorted a1) fun v11 => obind (impl_IsValidRelation (a0, v11)) fun v14 => cond (!v14) (some ((0, []), false)) (some ((a0, v11), true)))
  | .inr r => some r)
theorem impl_NewRelation_s {a0 : Int} {a1 : List (List Int)} {r : Y25 × Bool} (h : impl_NewRelation a0 a1 = some r) : SoundAt Try.prog 92 [nI a0, dL c31_d a1] (.tup [.agg (c26_oo r.1), .bool r.2]) := by
 unfold impl_NewRelation at h
 refine st lit92 rfl (rn 1 rfl (ls_seq_k fun K1 hK1 => rn 1 rfl ?_))
 obtain ⟨o1, hl, hr1⟩ := ob_some h
 have kXB1 : (.inl ()) = o1 → Jn K1 [(0, nI a0), (1, dL c31_d a1), (4, .box [nI 0, oL 31 c31_o []])] := by
  intro h σ' hk
  subst h
  replace h := hr1
  try dsimp only at h
  refine hK1 _ (lh hk rfl (rs (sp 2 rfl (?_))))
  obtain ⟨v11, g12, h⟩ := ob_some h
  refine qC (qa rfl (erD ec31_d _) eran) (impl_sorted_s g12) (sp 3 rfl (evn (ls_seq_k fun K13 hK13 => rs (sp 1 rfl (?_)))))
  obtain ⟨v14, g15, h⟩ := ob_some h
  refine qC (qa rfl (erg (erc rfl (erc (erD ec31_o _) rfl))) eran) (impl_IsValidRelation_s g15) (sp 1 rfl (evn ?_))
  rcases cond_some h with ⟨g16, h⟩ | ⟨g16, h⟩
  ·exact qT rfl g16 (rn 1 rfl (ls_ret ((by cases h; exact ⟨.inl rfl, rfl⟩))))
  ·exact qF rfl g16 (ls_skip (hK13 _ (rn 1 rfl (ls_ret ((by cases h; exact ⟨.inl rfl, rfl⟩))))))
 refine ls_rec (fun (y1 : Int) => [(0, nI a0), (1, dL c31_d a1), (4, .box [nI 0, oL 31 c31_o []]), (9, dL c31_d a1), (10, nI (List.length a1 : Int)), (11, nI y1)]) _ _ _ _ hl (okr rfl) (fun _ => rfl) ?_
 rintro m y1 N h hN
 unfold impl_NewRelation_B1 at h
 refine rn 1 rfl (ls_seq_k fun K2 hK2 => ?_)
 rcases cond_some h with ⟨g3, h⟩ | ⟨g3, h⟩
 ·refine qT rfl g3 (ls_skip (hK2 _ (ls_seq_k fun K4 hK4 => ls_blk (rs ?_))))
  obtain ⟨e5, g6, h⟩ := ob_some h
  refine qI rfl zc31_d g6 (sp 2 rfl (evn (rs (sp 5 rfl (?_)))))
  rcases cond_some h with ⟨g7, h⟩ | ⟨g7, h⟩
  ·exact qg 19 g7 rfl (sp 4 rfl (evn (qT rfl rfl (rn 1 rfl (ls_ret ((by cases h; cases hr1; exact ⟨.inl rfl, rfl⟩)))))))
  ·refine qg 19 g7 rfl (sp 1 rfl (?_))
   obtain ⟨v8, g9, h⟩ := ob_some h
   refine oGR rfl rfl (qC (qa rfl (erD eci64 _) eran) (impl_AreValidValues_s g9) (sp 2 rfl (evn ?_)))
   rcases cond_some h with ⟨g10, h⟩ | ⟨g10, h⟩
   ·exact qT rfl g10 (rn 1 rfl (qk [4, 5] rfl (ls_ret ((by cases h; cases hr1; exact ⟨.inl rfl, rfl⟩)))))
   ·exact qF rfl g10 (ls_skip (hK4 _ (rg (sp 2 rfl (evn (hN _ _ h (okr rfl)))))))
 ·exact qF rfl g3 (ls_exit (kXB1 (Option.some.inj h) _ (okr rfl)))
def impl_Union (a0 : Y25) (a1 : Y25) : Option (Y25 × Bool) := obind (impl_IsValidRelation a0) fun v2 => cond (!v2) (some ((0, []), false)) (obind (impl_IsValidRelation a1) fun v5 => cond (!v5) (some ((0, []), false)) (cond (a0.1 != a1.1) (some ((0, []), false)) (obind (impl_copyRows a0.2) fun v9 => chk (List.length v9 + List.length a1.2 ≤ lim) (obind (impl_NewRelation a0.1 (v9 ++ a1.2)) fun v12 => some (v12.1, v12.2)))))
theorem impl_Union_s {a0 : Y25} {a1 : Y25} {r : Y25 × Bool} (h : impl_Union a0 a1 = some r) : SoundAt Try.prog 17 [.agg (c26_dd a0), .agg (c26_dd a1)] (.tup [.agg (c26_oo r.1), .bool r.2]) := by
 unfold impl_Union at h
 refine st lit17 rfl (rn 1 rfl (ls_seq_k fun K1 hK1 => rs (sp 1 rfl (?_))))
 obtain ⟨v2, g3, h⟩ := ob_some h
 refine qC (qa rfl (erg (erc rfl (erc (erD ec31_d _) rfl))) eran) (impl_IsValidRelation_s g3) (sp 2 rfl (?_))
 rcases cond_some h with ⟨g4, h⟩ | ⟨g4, h⟩
 ·exact qg 9 g4 rfl (sp 11 rfl (evn (qT rfl rfl (rn 1 rfl (ls_ret ((by cases h; exact ⟨.inl rfl, rfl⟩)))))))
 ·refine qg 9 g4 rfl (sp 1 rfl (?_))
  obtain ⟨v5, g6, h⟩ := ob_some h
  refine oGR rfl rfl (qC (qa rfl (erg (erc rfl (erc (erD ec31_d _) rfl))) eran) (impl_IsValidRelation_s g6) (sp 3 rfl (?_)))
  rcases cond_some h with ⟨g7, h⟩ | ⟨g7, h⟩
  ·exact qg 14 g7 rfl (sp 6 rfl (evn (qk [2, 3, 4, 20] rfl (qT rfl rfl (rn 1 rfl (ls_ret ((by cases h; exact ⟨.inl rfl, rfl⟩))))))))
  ·refine qg 14 g7 rfl (sp 6 rfl (evn ?_))
   rcases cond_some h with ⟨g8, h⟩ | ⟨g8, h⟩
   ·exact qT rfl g8 (rn 1 rfl (ls_ret ((by cases h; exact ⟨.inl rfl, rfl⟩))))
   ·refine qF rfl g8 (ls_skip (hK1 _ (rd (by kernel_rfl) (sd 4 rfl (?_)))))
    obtain ⟨v9, g10, h⟩ := ob_some h
    refine ed rfl (qC (qa rfl (erD ec31_d _) eran) (impl_copyRows_s g10) (sd 2 rfl (?_)))
    obtain ⟨g11, h⟩ := chk_some h
    refine ed rfl (qAd c31_o c31_d c31_d v9 a1.2 rfl rfl (flat_len zc31_d a1.2) (map_dg (fun _ => rfl) _) g11 (fun _ => rfl) (fun _ => rfl) (fun _ => rfl) (fun _ => rfl) (?_))
    obtain ⟨v12, g13, h⟩ := ob_some h
    exact ed rfl (qC (qs rfl (qa rfl (erO ec31_d _) eran)) (impl_NewRelation_s g13) (sd 4 rfl (evdn (ls_ret ((by cases h; exact ⟨.inl rfl, rfl⟩))))))
def impl_LookupRelation_J1  : Option (Y25 × Bool) := some ((0, []), false)
def impl_LookupRelation_B2 (a0 : List Y106) (a1 : List UInt8) (rec : Int → Option (Sum (Unit) (Y25 × Bool))) (y2 : Int) : Option (Sum (Unit) (Y25 × Bool)) := cond (decide (y2 < (List.length a0 : Int))) (obind (geti a0 y2) fun e8 => cond (e8.1 == a1) (obind (impl_copyRelation e8.2) fun v11 => some (.inr (v11, true))) (rec (IntKind.i64.wrap (y2 + 1)))) (some (.inl ()))
def impl_LookupRelation (a0 : List Y106) (a1 : List UInt8) : Option (Y25 × Bool) := obind (impl_IsValidDatabase a0) fun v2 => cond v2 (obind (loopF (impl_LookupRelation_B2 a0 a1) fz 0) fun o2 => (match o2 with
  | .inl _ => (impl_LookupRelation_J1 )
  | .inr r => some r)) (impl_LookupRelation_J1 )
theorem impl_LookupRelation_s {a0 : List Y106} {a1 : List UInt8} {r : Y25 × Bool} (h : impl_LookupRelation a0 a1 = some r) : SoundAt Try.prog 95 [.agg [dL c107_dd a0], .str a1] (.tup [.agg (c26_oo r.1), .bool r.2]) := by
 unfold impl_LookupRelation at h
 refine st lit95 rfl (rn 1 rfl (ls_seq_k fun K1 hK1 => rs (sp 1 rfl (?_))))
 obtain ⟨v2, g3, h⟩ := ob_some h
 refine qC (qa rfl (erg (erc (erD ec107_dd _) rfl)) eran) (impl_IsValidDatabase_s g3) (evn ?_)
 have kJ1 : impl_LookupRelation_J1 = some r → Jn K1 [(4, .box [nI 0, oL 31 c31_o []])] := by
  intro h σ' hk
  unfold impl_LookupRelation_J1 at h
  exact hK1 _ (lh hk rfl (rn 1 rfl (ls_ret ((by cases h; exact ⟨.inl rfl, rfl⟩)))))
 rcases cond_some h with ⟨g4, h⟩ | ⟨g4, h⟩
 ·refine qT rfl g4 (rn 1 rfl ?_)
  obtain ⟨o2, hl, hr2⟩ := ob_some h
  have kXB2 : (.inl ()) = o2 → Jn K1 [(4, .box [nI 0, oL 31 c31_o []])] := by
   intro h σ' hk
   subst h
   replace h := hr2
   try dsimp only at h
   exact kJ1 h _ ⟨hk.1, trivial⟩
  refine ls_rec (fun (y2 : Int) => [(1, .str a1), (4, .box [nI 0, oL 31 c31_o []]), (11, dL c107_dd a0), (12, nI (List.length a0 : Int)), (13, nI y2)]) _ _ _ _ hl (okr rfl) (fun _ => rfl) ?_
  rintro m y2 N h hN
  unfold impl_LookupRelation_B2 at h
  refine rn 1 rfl (ls_seq_k fun K5 hK5 => ?_)
  rcases cond_some h with ⟨g6, h⟩ | ⟨g6, h⟩
  ·refine qT rfl g6 (ls_skip (hK5 _ (ls_seq_k fun K7 hK7 => ls_blk (rs ?_))))
   obtain ⟨e8, g9, h⟩ := ob_some h
   refine qI rfl zc107_dd g9 (sp 3 rfl (evn (rn 1 rfl ?_)))
   rcases cond_some h with ⟨g10, h⟩ | ⟨g10, h⟩
   ·refine qT rfl g10 (rs (sp 2 rfl (?_)))
    obtain ⟨v11, g12, h⟩ := ob_some h
    exact qC (qa rfl (erg (erc rfl (erc (erD ec31_d _) rfl))) eran) (impl_copyRelation_s g12) (sp 2 rfl (evn (ls_ret ((by cases h; cases hr2; exact ⟨.inl rfl, rfl⟩)))))
   ·exact qF rfl g10 (ls_skip (hK7 _ (rg (sp 2 rfl (evn (hN _ _ h (okr rfl)))))))
  ·exact qF rfl g6 (ls_exit (kXB2 (Option.some.inj h) _ (okr rfl)))
 ·exact qF rfl g4 (ls_skip (kJ1 h _ (okr rfl)))
def c107_aa (x : Y106) : List V := [.str x.1, nI x.2.1, aL c31_a x.2.2]
theorem zc107_aa (x : Y106) : (c107_aa x).length = 3 := rfl
theorem ec107_aa (x : Y106) : erL (c107_aa x) = c107_dd x := (erc rfl (erc rfl (erc (erG ec31_a _) rfl)))
theorem dkc31_o (x : List Int) : deepL (c31_o x) = true := (dcc (dco (fun _ => rfl) _ _) dcn)
theorem dkc107_oo (x : Y106) : deepL (c107_oo x) = true := (dcc rfl (dcc rfl (dcc (dco dkc31_o _ _) dcn)))
theorem gkc31_a (x : List Int) : argdL (c31_a x) = true := (acc (aca (fun _ => rfl) _) rfl)
theorem gkc107_aa (x : Y106) : argdL (c107_aa x) = true := (acc rfl (acc rfl (acc (aca gkc31_a _) rfl)))
theorem bkc31_d (x : List Int) : argAbleL (c31_d x) = true := (bcc (ableD (fun _ => rfl) _) rfl)
theorem vkc31_d (x : List Int) : argVL (c31_d x) = c31_a x := (vcc (argD (fun _ => rfl) _) rfl)
theorem bkc107_dd (x : Y106) : argAbleL (c107_dd x) = true := (bcc rfl (bcc rfl (bcc (ableD bkc31_d _) rfl)))
theorem vkc107_dd (x : Y106) : argVL (c107_dd x) = c107_aa x := (vcc rfl (vcc rfl (vcc (argD vkc31_d _) rfl)))
def impl_SetRelation_B1 (a1 : List UInt8) (v7 : (List Y106)) (rec : Int → Option (Int)) (y1 : Int) : Option (Int) := cond (decide (y1 < (List.length v7 : Int))) (obind (geti v7 y1) fun e13 => cond (Op.bytesLess e13.1 a1) (rec (IntKind.i64.wrap (y1 + 1))) (some y1)) (some y1)
def impl_SetRelation_J3 (a0 : List Y106) (x21 : List Y106) : Option ((List Y106) × Bool) := obind (impl_IsValidDatabase x21) fun v23 => cond (!v23) (obind (impl_copyDatabase a0) fun v26 => some (v26, false)) (some (x21, true))
def impl_SetRelation_J2 (a0 : List Y106) (a1 : List UInt8) (v7 : (List Y106)) (z10 : Int) (v16 : Y25) (x20 : Bool) : Option ((List Y106) × Bool) := cond x20 (chk (0 < List.length v7) (obind (geti v7 z10) fun e31 => impl_SetRelation_J3 a0 (seti v7 z10 (a1, v16)))) (chk ((0 : Int) ≤ 0 ∧ 0 ≤ z10 ∧ z10 ≤ (List.length (enumP 0 v7) : Int)) (chk (List.length ([] : List (Nat × Y106)) + List.length (subl (enumP 0 v7) 0 z10) ≤ lim) (chk (List.length (inlM (([] : List (Nat × Y106)) ++ (subl (enumP 0 v7) 0 z10))) + List.length (inrM ([(a1, v16)] : List Y106)) ≤ lim) (chk ((0 : Int) ≤ z10 ∧ z10 ≤ (List.length (enumP 0 v7) : Int) ∧ (List.length (enumP 0 v7) : Int) ≤ (List.length (enumP 0 v7) : Int)) (chk (List.length ((inlM (([] : List (Nat × Y106)) ++ (subl (enumP 0 v7) 0 z10))) ++ (inrM ([(a1, v16)] : List Y106))) + List.length (inlM (subl (enumP 0 v7) z10 (List.length (enumP 0 v7) : Int))) ≤ lim) (chk (okJ (v7) (((inlM (([] : List (Nat × Y106)) ++ (subl (enumP 0 v7) 0 z10))) ++ (inrM ([(a1, v16)] : List Y106))) ++ (inlM (subl (enumP 0 v7) z10 (List.length (enumP 0 v7) : Int)))) [] = true) (impl_SetRelation_J3 a0 (List.map getM (((inlM (([] : List (Nat × Y106)) ++ (subl (enumP 0 v7) 0 z10))) ++ (inrM ([(a1, v16)] : List Y106))) ++ (inlM (subl (enumP 0 v7) z10 (List.length (enumP 0 v7) : Int))))))))))))
def impl_SetRelation (a0 : List Y106) (a1 : List UInt8) (a2 : Y25) : Option ((List Y106) × Bool) := obind (impl_IsValidDatabase a0) fun v2 => cond (!v2) (obind (impl_copyDatabase a0) fun v5 => some (v5, false)) (obind (impl_copyDatabase a0) fun v7 => obind (loopF (impl_SetRelation_B1 a1 v7) fz 0) fun z10 => obind (impl_copyRelation a2) fun v16 => cond (decide (z10 < (List.length v7 : Int))) (obind (geti v7 z10) fun e40 => impl_SetRelation_J2 a0 a1 v7 z10 v16 (e40.1 == a1)) (impl_SetRelation_J2 a0 a1 v7 z10 v16 false))
theorem impl_SetRelation_s {a0 : List Y106} {a1 : List UInt8} {a2 : Y25} {r : (List Y106) × Bool} (h : impl_SetRelation a0 a1 a2 = some r) : SoundAt Try.prog 109 [.agg [dL c107_dd a0], .str a1, .agg (c26_dd a2)] (.tup [.agg [oL 107 c107_oo r.1], .bool r.2]) := by
 unfold impl_SetRelation at h
 refine sta lit109 rfl (aall (bcc (ableD bkc107_dd _) rfl) (aall rfl (aall (bcc rfl (bcc (ableD bkc31_d _) rfl)) rfl))) (mvv (vag (vcc (argD vkc107_dd _) rfl)) (mvv rfl (mvv (vag (vcc rfl (vcc (argD vkc31_d _) rfl))) rfl))) (dcc (dag (dcc (dco dkc107_oo _ _) dcn)) (dcc rfl dcn)) (rn 1 rfl (ls_seq_k fun K1 hK1 => rs (sp 1 rfl (?_))))
 obtain ⟨v2, g3, h⟩ := ob_some h
 refine qC (qa rfl (erg (erc (erG ec107_aa _) rfl)) eran) (impl_IsValidDatabase_s g3) (sp 1 rfl (evn ?_))
 rcases cond_some h with ⟨g4, h⟩ | ⟨g4, h⟩
 ·refine qT rfl g4 (rs (sp 1 rfl (?_)))
  obtain ⟨v5, g6, h⟩ := ob_some h
  exact qC (qa rfl (erg (erc (erG ec107_aa _) rfl)) eran) (impl_copyDatabase_s g6) (sp 2 rfl (evn (ls_ret ((by cases h; exact ⟨.inl rfl, rfl⟩)))))
 ·refine qF rfl g4 (ls_skip (hK1 _ (rs (sp 1 rfl (?_)))))
  obtain ⟨v7, g8, h⟩ := ob_some h
  refine qC (qa rfl (erg (erc (erG ec107_aa _) rfl)) eran) (impl_copyDatabase_s g8) (sp 2 rfl (evn (rn 1 rfl (ls_seq_k fun K9 hK9 => ?_))))
  obtain ⟨o1, hl, hr1⟩ := ob_some h
  have kXB1 : ∀ {z10 : Int}, z10 = o1 → Jn K9 [(1, .str a1), (3, .box [aL c107_aa a0]), (5, .box [nI a2.1, aL c31_a a2.2]), (6, .box [oL 107 c107_oo []]), (8, .box [oL 107 c107_oo v7]), (9, nI z10)] := by
   intro z10 h σ' hk
   subst h
   replace h := hr1
   try dsimp only at h
   refine hK9 _ (lh hk rfl (rs (sp 2 rfl (?_))))
   obtain ⟨v16, g17, h⟩ := ob_some h
   refine qC (qa rfl (erg (erc rfl (erc (erG ec31_a _) rfl))) eran) (impl_copyRelation_s g17) (sp 3 rfl (evn (ls_seq_k fun K18 hK18 => rk fun K19 hK19 => ?_)))
   have kJ2 : ∀ {x20 : Bool}, impl_SetRelation_J2 a0 a1 v7 z10 v16 x20 = some r → Jn K19 [(3, .box [aL c107_aa a0]), (6, .box [oL 107 c107_oo []]), (8, .box [oL 107 c107_oo v7]), (9, nI z10), (10, .box [.str a1, nI v16.1, oL 31 c31_o v16.2]), (53, .bool x20)] := by
    intro x20 h σ' hk
    unfold impl_SetRelation_J2 at h
    refine hK19 _ (lh hk rfl ?_)
    have kJ3 : ∀ {x21 : List Y106}, impl_SetRelation_J3 a0 x21 = some r → Jn K18 [(3, .box [aL c107_aa a0]), (6, .box [oL 107 c107_oo []]), (8, .box [oL 107 c107_oo x21])] := by
     intro x21 h σ' hk
     unfold impl_SetRelation_J3 at h
     refine hK18 _ (lh hk rfl (ls_seq_k fun K22 hK22 => rs (sp 1 rfl (?_))))
     obtain ⟨v23, g24, h⟩ := ob_some h
     refine qC (qa rfl (erg (erc (erD ec107_oo _) rfl)) eran) (impl_IsValidDatabase_s g24) (sp 1 rfl (evn ?_))
     rcases cond_some h with ⟨g25, h⟩ | ⟨g25, h⟩
     ·refine qT rfl g25 (rs (sp 1 rfl (?_)))
      obtain ⟨v26, g27, h⟩ := ob_some h
      exact qC (qa rfl (erg (erc (erG ec107_aa _) rfl)) eran) (impl_copyDatabase_s g27) (sp 2 rfl (evn (ls_ret ((by cases h; exact ⟨.inl rfl, rfl⟩)))))
     ·exact qF rfl g25 (ls_skip (hK22 _ (rn 1 rfl (ls_ret ((by cases h; exact ⟨.inl rfl, rfl⟩))))))
    rcases cond_some h with ⟨g28, h⟩ | ⟨g28, h⟩
    ·refine qT rfl g28 (qk [3, 6, 8, 9, 10] rfl ?_)
     obtain ⟨g29, h⟩ := chk_some h
     refine ls_hg (gLb (q := 900003) (b := 8) [] [] rfl rfl rfl g29 ?_)
     intro gg30 mm30
     refine qk [3, 6, 8, 9, 10, 900003] rfl (ls_gh (rg (sp 4 rfl (?_))))
     obtain ⟨e31, g32, h⟩ := ob_some h
     exact qIt rfl rfl rfl rfl g32 (qSt (i := z10) (es := 3) 0 (a1, v16) [3, 6, 8] rfl rfl rfl rfl rfl rfl rfl rfl rfl rfl zc107_oo g32 dkc107_oo (dcc rfl (dcc rfl (dcc (dco dkc31_o _ _) dcn))) (yc (snc (sA (aca gkc107_aa _)) rfl) (yc (snc (sO (dco dkc107_oo _ _)) rfl) (yc (snc rfl rfl) yn))) (evn (gDb (q := 900003) (b := 8) [] [] rfl rfl rfl (sl rfl) (kJ3 h _ (okr rfl)))))
    ·refine qF rfl g28 (qk [3, 6, 8, 9, 10] rfl (ls_hg (gSb (f := c107_oo) (l := v7) (q := 900001) (b := 8) [] [] rfl rfl rfl (fun _ => rfl) ?_)))
     intro U us1 hU
     refine qk [3, 6, 8, 9, 10, 900001] rfl (ls_gh (rgd (by kernel_rfl) (ed rfl (qBs c107_oo [] rfl rfl rfl zc107_oo (sd 3 rfl (?_))))))
     obtain ⟨g33, h⟩ := chk_some h
     refine ed rfl (qSl rfl (zpE zc107_oo) g33 (?_))
     obtain ⟨g34, h⟩ := chk_some h
     refine ed rfl (qA (pE c107_oo U) ([] : List (Nat × Y106)) (subl (enumP 0 v7) 0 z10) rfl rfl (flat_len (zpE zc107_oo) (subl (enumP 0 v7) 0 z10)) (map_dgp _) g34 (sd 1 rfl (ed rfl (qBs c107_oo [(a1, v16)] rfl rfl rfl zc107_oo (?_)))))
     obtain ⟨g35, h⟩ := chk_some h
     refine ed rfl (qA2 (mE c107_oo U) (inlM (([] : List (Nat × Y106)) ++ (subl (enumP 0 v7) 0 z10))) (inrM ([(a1, v16)] : List Y106)) rfl rfl (flat_len zc107_oo [(a1, v16)]) l_inl c_inl l_inr c_inr g35 (sd 3 rfl (?_)))
     obtain ⟨g36, h⟩ := chk_some h
     refine ed rfl (qSl rfl (zpE zc107_oo) g36 (?_))
     obtain ⟨g37, h⟩ := chk_some h
     refine ed rfl (qA2 (mE c107_oo U) ((inlM (([] : List (Nat × Y106)) ++ (subl (enumP 0 v7) 0 z10))) ++ (inrM ([(a1, v16)] : List Y106))) (inlM (subl (enumP 0 v7) z10 (List.length (enumP 0 v7) : Int))) rfl rfl (flat_len (zpE zc107_oo) (subl (enumP 0 v7) z10 (List.length (enumP 0 v7) : Int))) rfl rfl l_inl ((map_dgp _).trans c_inl) g37 (sd 2 rfl (evdn ?_)))
     obtain ⟨g38, h⟩ := chk_some h
     exact gJb (f := c107_oo) (l := v7) (q := 900001) (b := 8) [] [] (((inlM (([] : List (Nat × Y106)) ++ (subl (enumP 0 v7) 0 z10))) ++ (inrM ([(a1, v16)] : List Y106))) ++ (inlM (subl (enumP 0 v7) z10 (List.length (enumP 0 v7) : Int)))) rfl rfl rfl rfl (fun _ => rfl) hU g38 (kJ3 h _ (okr rfl))
   refine sp 6 rfl (?_)
   rcases cond_some h with ⟨g39, h⟩ | ⟨g39, h⟩
   ·refine qg 44 g39 rfl (sp 3 rfl (?_))
    obtain ⟨e40, g41, h⟩ := ob_some h
    exact oGR rfl rfl (qI rfl zc107_oo g41 (sp 5 rfl (evn (kJ2 h _ (okr rfl)))))
   ·exact qg 44 g39 rfl (sp 9 rfl (evn (kJ2 h _ (okr rfl))))
  refine ls_rec (fun (y1 : Int) => [(1, .str a1), (3, .box [aL c107_aa a0]), (5, .box [nI a2.1, aL c31_a a2.2]), (6, .box [oL 107 c107_oo []]), (8, .box [oL 107 c107_oo v7]), (9, nI y1)]) _ _ _ _ hl (okr rfl) (fun _ => rfl) ?_
  rintro m y1 N h hN
  unfold impl_SetRelation_B1 at h
  refine ls_seq_k fun K11 hK11 => rs (sp 6 rfl (?_))
  rcases cond_some h with ⟨g12, h⟩ | ⟨g12, h⟩
  ·refine qg 23 g12 rfl (sp 3 rfl (?_))
   obtain ⟨e13, g14, h⟩ := ob_some h
   refine oGR rfl rfl (qI rfl zc107_oo g14 (sp 5 rfl (evn ?_)))
   rcases cond_some h with ⟨g15, h⟩ | ⟨g15, h⟩
   ·exact qT rfl g15 (ls_skip (hK11 _ (ls_blk (rg (sp 3 rfl (evn (hN _ _ h (okr rfl))))))))
   ·exact qF rfl g15 (ls_exit (kXB1 (Option.some.inj h) _ (okr rfl)))
  ·exact qg 23 g12 rfl (sp 9 rfl (evn (qF rfl rfl (ls_exit (kXB1 (Option.some.inj h) _ (okr rfl))))))
def c26_do (x : Y25) : List V := [nI x.1, dL c31_o x.2]
theorem zc26_do (x : Y25) : (c26_do x).length = 2 := rfl
theorem ec26_do (x : Y25) : erL (c26_do x) = c26_dd x := (erc rfl (erc (erD ec31_o _) rfl))
def impl_applicable_J2 (v1 : Y25 × Bool) (x6 : Bool) : Option (Y25 × Bool) := some (v1.1, x6)
def impl_applicable_J1 (a1 : Y71) (v1 : Y25 × Bool) (x4 : Bool) : Option (Y25 × Bool) := cond x4 (cond (a1.2.1.1 == v1.1.1) (impl_applicable_J2 v1 (a1.2.2.1 == v1.1.1)) (impl_applicable_J2 v1 false)) (impl_applicable_J2 v1 false)
def impl_applicable (a0 : List Y106) (a1 : Y71) : Option (Y25 × Bool) := obind (impl_LookupRelation a0 a1.1) fun v1 => cond v1.2 (obind (impl_IsValidRelation a1.2.1) fun v10 => cond v10 (obind (impl_IsValidRelation a1.2.2) fun v13 => impl_applicable_J1 a1 v1 v13) (impl_applicable_J1 a1 v1 false)) (impl_applicable_J1 a1 v1 false)
theorem impl_applicable_s {a0 : List Y106} {a1 : Y71} {r : Y25 × Bool} (h : impl_applicable a0 a1 = some r) : SoundAt Try.prog 225 [.agg [dL c107_dd a0], .agg (c72_dddd a1)] (.tup [.agg (c26_do r.1), .bool r.2]) := by
 unfold impl_applicable at h
 refine st lit225 rfl (rn 1 rfl (rs (sp 3 rfl (?_))))
 obtain ⟨v1, g2, h⟩ := ob_some h
 refine qC (qa rfl (erg (erc (erD ec107_dd _) rfl)) (qs rfl eran)) (impl_LookupRelation_s g2) (sp 6 rfl (evn (rk fun K3 hK3 => ?_)))
 have kJ1 : ∀ {x4 : Bool}, impl_applicable_J1 a1 v1 x4 = some r → Jn K3 [(3, .box [.str a1.1, nI a1.2.1.1, dL c31_d a1.2.1.2, nI a1.2.2.1, dL c31_d a1.2.2.2]), (4, .box [nI 0, oL 31 c31_o []]), (6, .box [nI v1.1.1, oL 31 c31_o v1.1.2]), (7, .bool x4)] := by
  intro x4 h σ' hk
  unfold impl_applicable_J1 at h
  refine hK3 _ (lh hk rfl (rdk (by kernel_rfl) fun K5 hK5 => ?_))
  have kJ2 : ∀ {x6 : Bool}, impl_applicable_J2 v1 x6 = some r → Jn K5 [(4, .box [nI v1.1.1, dL c31_o v1.1.2]), (5, .bool x6)] := by
   intro x6 h σ' hk
   unfold impl_applicable_J2 at h
   exact hK5 _ (lh hk rfl (ls_ret ((by cases h; exact ⟨.inl rfl, rfl⟩))))
  refine sd 3 rfl (?_)
  rcases cond_some h with ⟨g7, h⟩ | ⟨g7, h⟩
  ·refine qgd 28 g7 rfl (sd 8 rfl (?_))
   rcases cond_some h with ⟨g8, h⟩ | ⟨g8, h⟩
   ·exact qgd 36 g8 rfl (sd 9 rfl (evdn (kJ2 h _ (okr rfl))))
   ·exact qgd 36 g8 rfl (sd 9 rfl (evdn (kJ2 h _ (okr rfl))))
  ·exact qgd 28 g7 rfl (sd 17 rfl (evdn (kJ2 h _ (okr rfl))))
 refine sp 2 rfl (?_)
 rcases cond_some h with ⟨g9, h⟩ | ⟨g9, h⟩
 ·refine qg 16 g9 rfl (sp 2 rfl (?_))
  obtain ⟨v10, g11, h⟩ := ob_some h
  refine oGR rfl rfl (qC (qa rfl (erg (erc rfl (erc (erD ec31_d _) rfl))) eran) (impl_IsValidRelation_s g11) (sp 2 rfl (?_)))
  rcases cond_some h with ⟨g12, h⟩ | ⟨g12, h⟩
  ·refine qg 21 g12 rfl (sp 2 rfl (?_))
   obtain ⟨v13, g14, h⟩ := ob_some h
   exact oGR rfl rfl (qC (qa rfl (erg (erc rfl (erc (erD ec31_d _) rfl))) eran) (impl_IsValidRelation_s g14) (sp 2 rfl (evn (kJ1 h _ (okr rfl)))))
  ·exact qg 21 g12 rfl (sp 5 rfl (evn (kJ1 h _ (okr rfl))))
 ·exact qg 16 g9 rfl (sp 10 rfl (evn (kJ1 h _ (okr rfl))))
def impl_place_B1 (a0 : List (List Int)) (a1 : List Int) (rec : (Int × Int) → Option (Int)) (s : Int × Int) : Option (Int) := match s with
  | (y1, y2) => cond (decide (y1 < y2)) (obind (geti a0 (IntKind.i64.wrap (Int.tdiv (IntKind.i64.wrap (y1 + y2)) 2))) fun e5 => obind (impl_CompareRows e5 a1) fun v7 => cond (decide (v7 < 0)) (rec ((IntKind.i64.wrap ((IntKind.i64.wrap (Int.tdiv (IntKind.i64.wrap (y1 + y2)) 2)) + 1)), y2)) (rec (y1, (IntKind.i64.wrap (Int.tdiv (IntKind.i64.wrap (y1 + y2)) 2))))) (some y1)
def impl_place_J2 (z2 : Int) (x11 : Bool) : Option (Int × Bool) := some (z2, x11)
def impl_place (a0 : List (List Int)) (a1 : List Int) : Option (Int × Bool) := obind (loopF (impl_place_B1 a0 a1) fz (0, (List.length a0 : Int))) fun z2 => cond (decide (z2 < (List.length a0 : Int))) (obind (geti a0 z2) fun e13 => obind (impl_CompareRows e13 a1) fun v15 => impl_place_J2 z2 (v15 == 0)) (impl_place_J2 z2 false)
theorem impl_place_s {a0 : List (List Int)} {a1 : List Int} {r : Int × Bool} (h : impl_place a0 a1 = some r) : SoundAt Try.prog 240 [dL c31_d a0, dL ci64 a1] (.tup [nI r.1, .bool r.2]) := by
 unfold impl_place at h
 refine st lit240 rfl (rn 2 rfl (ls_seq_k fun K1 hK1 => ?_))
 obtain ⟨o1, hl, hr1⟩ := ob_some h
 have kXB1 : ∀ {z2 : Int}, z2 = o1 → Jn K1 [(0, dL c31_d a0), (1, dL ci64 a1), (6, nI z2)] := by
  intro z2 h σ' hk
  subst h
  replace h := hr1
  try dsimp only at h
  refine hK1 _ (lh hk rfl (rk fun K10 hK10 => ?_))
  have kJ2 : ∀ {x11 : Bool}, impl_place_J2 z2 x11 = some r → Jn K10 [(4, nI z2), (5, .bool x11)] := by
   intro x11 h σ' hk
   unfold impl_place_J2 at h
   exact hK10 _ (lh hk rfl (ls_ret ((by cases h; exact ⟨.inl rfl, rfl⟩))))
  refine sp 6 rfl (?_)
  rcases cond_some h with ⟨g12, h⟩ | ⟨g12, h⟩
  ·refine qg 33 g12 rfl (sp 2 rfl (?_))
   obtain ⟨e13, g14, h⟩ := ob_some h
   refine oGR rfl rfl (qI rfl zc31_d g14 (sp 2 rfl (?_)))
   obtain ⟨v15, g16, h⟩ := ob_some h
   exact oGR rfl rfl (qC (qa rfl (erD eci64 _) (qa rfl (erD eci64 _) eran)) (impl_CompareRows_s g16) (sp 4 rfl (evn (kJ2 h _ (okr rfl)))))
  ·exact qg 33 g12 rfl (sp 10 rfl (evn (kJ2 h _ (okr rfl))))
 refine ls_rec (fun (s : Int × Int) => match s with | (y1, y2) => [(0, dL c31_d a0), (1, dL ci64 a1), (6, nI y1), (7, nI y2)]) _ _ _ _ hl (okr rfl) (fun _ => rfl) ?_
 rintro m ⟨y1, y2⟩ N h hN
 unfold impl_place_B1 at h
 dsimp only at h
 refine ls_seq_k fun K3 hK3 => rn 1 rfl ?_
 rcases cond_some h with ⟨g4, h⟩ | ⟨g4, h⟩
 ·refine qT rfl g4 (ls_skip (hK3 _ (ls_blk (rn 1 rfl (rs (sp 2 rfl (?_)))))))
  obtain ⟨e5, g6, h⟩ := ob_some h
  refine qI rfl zc31_d g6 (sp 2 rfl (?_))
  obtain ⟨v7, g8, h⟩ := ob_some h
  refine qC (qa rfl (erD eci64 _) (qa rfl (erD eci64 _) eran)) (impl_CompareRows_s g8) (sp 1 rfl (evn ?_))
  rcases cond_some h with ⟨g9, h⟩ | ⟨g9, h⟩
  ·exact qT rfl g9 (rg (sp 3 rfl (evn (hN _ _ h (okr rfl)))))
  ·exact qF rfl g9 (rg (sp 2 rfl (evn (hN _ _ h (okr rfl)))))
 ·exact qF rfl g4 (ls_exit (kXB1 (Option.some.inj h) _ (okr rfl)))
def impl_ContainsRow_J1 (x4 : Bool) : Option (Bool) := some x4
def impl_ContainsRow (a0 : Y25) (a1 : List Int) : Option (Bool) := obind (impl_place a0.2 a1) fun v1 => obind (impl_IsValidRelation a0) fun v5 => cond v5 (impl_ContainsRow_J1 v1.2) (impl_ContainsRow_J1 false)
theorem impl_ContainsRow_s {a0 : Y25} {a1 : List Int} {r : Bool} (h : impl_ContainsRow a0 a1 = some r) : SoundAt Try.prog 226 [.agg (c26_dd a0), dL ci64 a1] (.bool r) := by
 unfold impl_ContainsRow at h
 refine st lit226 rfl (rn 1 rfl (rs (sp 3 rfl (?_))))
 obtain ⟨v1, g2, h⟩ := ob_some h
 refine qC (qa rfl (erD ec31_d _) (qa rfl (erD eci64 _) eran)) (impl_place_s g2) (sp 5 rfl (evn (rk fun K3 hK3 => ?_)))
 have kJ1 : ∀ {x4 : Bool}, impl_ContainsRow_J1 x4 = some r → Jn K3 [(4, .bool x4)] := by
  intro x4 h σ' hk
  unfold impl_ContainsRow_J1 at h
  exact hK3 _ (lh hk rfl (ls_ret ((by cases h; exact ⟨.inl rfl, rfl⟩))))
 refine sp 1 rfl (?_)
 obtain ⟨v5, g6, h⟩ := ob_some h
 refine qC (qa rfl (erg (erc rfl (erc (erD ec31_d _) rfl))) eran) (impl_IsValidRelation_s g6) (sp 1 rfl (?_))
 rcases cond_some h with ⟨g7, h⟩ | ⟨g7, h⟩
 ·exact qg 16 g7 rfl (sp 3 rfl (evn (kJ1 h _ (okr rfl))))
 ·exact qg 16 g7 rfl (sp 3 rfl (evn (kJ1 h _ (okr rfl))))
def impl_NormalizeDelta_J2 (rec : ((List (List Int)) × Int) → Option ((List (List Int)))) (y2 : Int) (x14 : List (List Int)) : Option ((List (List Int))) := rec (x14, (IntKind.i64.wrap (y2 + 1)))
def impl_NormalizeDelta_B1 (a1 : Y71) (v1 : Y25 × Bool) (rec : ((List (List Int)) × Int) → Option ((List (List Int)))) (s : (List (List Int)) × Int) : Option ((List (List Int))) := match s with
  | (y1, y2) => cond (decide (y2 < (List.length a1.2.1.2 : Int))) (obind (geti a1.2.1.2 y2) fun e10 => obind (impl_ContainsRow v1.1 e10) fun v12 => cond (!v12) (obind (impl_copyInts e10) fun v16 => chk (List.length y1 + List.length [v16] ≤ lim) (impl_NormalizeDelta_J2 rec y2 (y1 ++ [v16]))) (impl_NormalizeDelta_J2 rec y2 y1)) (some y1)
def impl_NormalizeDelta_J5 (rec : ((List (List Int)) × Int) → Option ((List (List Int)))) (y4 : Int) (x28 : List (List Int)) : Option ((List (List Int))) := rec (x28, (IntKind.i64.wrap (y4 + 1)))
def impl_NormalizeDelta_J4 (rec : ((List (List Int)) × Int) → Option ((List (List Int)))) (y3 : List (List Int)) (y4 : Int) (e24 : List Int) (x27 : Bool) : Option ((List (List Int))) := cond x27 (obind (impl_copyInts e24) fun v30 => chk (List.length y3 + List.length [v30] ≤ lim) (impl_NormalizeDelta_J5 rec y4 (y3 ++ [v30]))) (impl_NormalizeDelta_J5 rec y4 y3)
def impl_NormalizeDelta_B3 (a1 : Y71) (v1 : Y25 × Bool) (rec : ((List (List Int)) × Int) → Option ((List (List Int)))) (s : (List (List Int)) × Int) : Option ((List (List Int))) := match s with
  | (y3, y4) => cond (decide (y4 < (List.length a1.2.2.2 : Int))) (obind (geti a1.2.2.2 y4) fun e24 => obind (impl_ContainsRow v1.1 e24) fun v33 => cond v33 (obind (impl_ContainsRow a1.2.1 e24) fun v36 => impl_NormalizeDelta_J4 rec y3 y4 e24 (!v36)) (impl_NormalizeDelta_J4 rec y3 y4 e24 false)) (some y3)
def impl_NormalizeDelta (a0 : List Y106) (a1 : Y71) : Option (Y71 × Bool) := obind (impl_applicable a0 a1) fun v1 => cond (!v1.2) (some (([], (0, []), (0, [])), false)) (obind (loopF (impl_NormalizeDelta_B1 a1 v1) fz (([] : List (List Int)), 0)) fun z6 => obind (loopF (impl_NormalizeDelta_B3 a1 v1) fz (([] : List (List Int)), 0)) fun z20 => some ((a1.1, (v1.1.1, z6), (v1.1.1, z20)), true))
theorem impl_NormalizeDelta_s {a0 : List Y106} {a1 : Y71} {r : Y71 × Bool} (h : impl_NormalizeDelta a0 a1 = some r) : SoundAt Try.prog 190 [.agg [dL c107_dd a0], .agg (c72_dddd a1)] (.tup [.agg (c72_oooo r.1), .bool r.2]) := by
 unfold impl_NormalizeDelta at h
 refine st lit190 rfl (rn 1 rfl (rs (sp 2 rfl (?_))))
 obtain ⟨v1, g2, h⟩ := ob_some h
 refine qC (qa rfl (erg (erc (erD ec107_dd _) rfl)) (qa rfl (erg (erc rfl (erc rfl (erc (erD ec31_d _) (erc rfl (erc (erD ec31_d _) rfl)))))) eran)) (impl_applicable_s g2) (sp 6 rfl (evn (ls_seq_k fun K3 hK3 => rn 1 rfl ?_)))
 rcases cond_some h with ⟨g4, h⟩ | ⟨g4, h⟩
 ·exact qT rfl g4 (rn 1 rfl (ls_ret ((by cases h; exact ⟨.inl rfl, rfl⟩))))
 ·refine qF rfl g4 (ls_skip (hK3 _ (rn 1 rfl (ls_seq_k fun K5 hK5 => rn 1 rfl (qk [3, 4, 6, 8, 33, 34, 35] rfl ?_)))))
  obtain ⟨o1, hl, hr1⟩ := ob_some h
  have kXB1 : ∀ {z6 : List (List Int)}, z6 = o1 → Jn K5 [(3, .box [.str a1.1, nI a1.2.1.1, dL c31_d a1.2.1.2, nI a1.2.2.1, dL c31_d a1.2.2.2]), (4, .box [.str [], nI 0, oL 31 c31_o [], nI 0, oL 31 c31_o []]), (6, .box [nI v1.1.1, dL c31_o v1.1.2]), (8, .box [.str a1.1, nI v1.1.1, oL 31 c31_o z6, nI v1.1.1, oL 31 c31_o []])] := by
   intro z6 h σ' hk
   subst h
   replace h := hr1
   try dsimp only at h
   refine hK5 _ (lh hk rfl (ls_seq_k fun K19 hK19 => rn 1 rfl ?_))
   obtain ⟨o3, hl, hr3⟩ := ob_some h
   have kXB3 : ∀ {z20 : List (List Int)}, z20 = o3 → Jn K19 [(4, .box [.str [], nI 0, oL 31 c31_o [], nI 0, oL 31 c31_o []]), (8, .box [.str a1.1, nI v1.1.1, oL 31 c31_o z6, nI v1.1.1, oL 31 c31_o z20])] := by
    intro z20 h σ' hk
    subst h
    replace h := hr3
    try dsimp only at h
    exact hK19 _ (lh hk rfl (rn 1 rfl (ls_ret ((by cases h; exact ⟨.inl rfl, rfl⟩)))))
   refine ls_rec (fun (s : (List (List Int)) × Int) => match s with | (y3, y4) => [(3, .box [.str a1.1, nI a1.2.1.1, dL c31_d a1.2.1.2, nI a1.2.2.1, dL c31_d a1.2.2.2]), (4, .box [.str [], nI 0, oL 31 c31_o [], nI 0, oL 31 c31_o []]), (6, .box [nI v1.1.1, dL c31_o v1.1.2]), (8, .box [.str a1.1, nI v1.1.1, oL 31 c31_o z6, nI v1.1.1, oL 31 c31_o y3]), (55, dL c31_d a1.2.2.2), (56, nI (List.length a1.2.2.2 : Int)), (57, nI y4)]) _ _ _ _ hl (okr rfl) (fun _ => rfl) ?_
   rintro m ⟨y3, y4⟩ N h hN
   unfold impl_NormalizeDelta_B3 at h
   dsimp only at h
   refine rn 1 rfl (ls_seq_k fun K21 hK21 => ?_)
   rcases cond_some h with ⟨g22, h⟩ | ⟨g22, h⟩
   ·refine qT rfl g22 (ls_skip (hK21 _ (ls_seq_k fun K23 hK23 => ls_blk (rs ?_))))
    obtain ⟨e24, g25, h⟩ := ob_some h
    refine qI rfl zc31_d g25 (sp 2 rfl (evn (rk fun K26 hK26 => ?_)))
    have kJ4 : ∀ {x27 : Bool}, impl_NormalizeDelta_J4 (loopF (impl_NormalizeDelta_B3 a1 v1) m) y3 y4 e24 x27 = some o3 → Jn K26 [(3, .box [.str a1.1, nI a1.2.1.1, dL c31_d a1.2.1.2, nI a1.2.2.1, dL c31_d a1.2.2.2]), (4, .box [.str [], nI 0, oL 31 c31_o [], nI 0, oL 31 c31_o []]), (6, .box [nI v1.1.1, dL c31_o v1.1.2]), (8, .box [.str a1.1, nI v1.1.1, oL 31 c31_o z6, nI v1.1.1, oL 31 c31_o y3]), (12, dL ci64 e24), (55, dL c31_d a1.2.2.2), (56, nI (List.length a1.2.2.2 : Int)), (57, nI y4), (70, .bool x27)] := by
     intro x27 h σ' hk
     unfold impl_NormalizeDelta_J4 at h
     refine hK26 _ (lh hk rfl ?_)
     have kJ5 : ∀ {x28 : List (List Int)}, impl_NormalizeDelta_J5 (loopF (impl_NormalizeDelta_B3 a1 v1) m) y4 x28 = some o3 → Jn K23 [(3, .box [.str a1.1, nI a1.2.1.1, dL c31_d a1.2.1.2, nI a1.2.2.1, dL c31_d a1.2.2.2]), (4, .box [.str [], nI 0, oL 31 c31_o [], nI 0, oL 31 c31_o []]), (6, .box [nI v1.1.1, dL c31_o v1.1.2]), (8, .box [.str a1.1, nI v1.1.1, oL 31 c31_o z6, nI v1.1.1, oL 31 c31_o x28]), (55, dL c31_d a1.2.2.2), (56, nI (List.length a1.2.2.2 : Int)), (57, nI y4)] := by
      intro x28 h σ' hk
      unfold impl_NormalizeDelta_J5 at h
      exact hK23 _ (lh hk rfl (rg (sp 2 rfl (evn (hN _ _ h (okr rfl))))))
     rcases cond_some h with ⟨g29, h⟩ | ⟨g29, h⟩
     ·refine qT rfl g29 (rgd (by kernel_rfl) (sd 4 rfl (?_)))
      obtain ⟨v30, g31, h⟩ := ob_some h
      refine ed rfl (qC (qa rfl (erD eci64 _) eran) (impl_copyInts_s g31) (ed rfl (qBs c31_o [v30] rfl rfl rfl zc31_o (?_))))
      obtain ⟨g32, h⟩ := chk_some h
      exact ed rfl (qA c31_o y3 [v30] rfl rfl (flat_len zc31_o [v30]) rfl g32 (sd 3 rfl (evdn (kJ5 h _ (okr rfl)))))
     ·exact qF rfl g29 (ls_skip (kJ5 h _ (okr rfl)))
    refine sp 2 rfl (?_)
    obtain ⟨v33, g34, h⟩ := ob_some h
    refine qC (qa rfl (erg (erc rfl (erc (erD ec31_o _) rfl))) (qa rfl (erD eci64 _) eran)) (impl_ContainsRow_s g34) (sp 1 rfl (?_))
    rcases cond_some h with ⟨g35, h⟩ | ⟨g35, h⟩
    ·refine qg 64 g35 rfl (sp 3 rfl (?_))
     obtain ⟨v36, g37, h⟩ := ob_some h
     exact oGR rfl rfl (qC (qa rfl (erg (erc rfl (erc (erD ec31_d _) rfl))) (qa rfl (erD eci64 _) eran)) (impl_ContainsRow_s g37) (sp 2 rfl (evn (kJ4 h _ (okr rfl)))))
    ·exact qg 64 g35 rfl (sp 6 rfl (evn (kJ4 h _ (okr rfl))))
   ·exact qF rfl g22 (ls_exit (kXB3 (Option.some.inj h) _ (okr rfl)))
  refine ls_rec (fun (s : (List (List Int)) × Int) => match s with | (y1, y2) => [(3, .box [.str a1.1, nI a1.2.1.1, dL c31_d a1.2.1.2, nI a1.2.2.1, dL c31_d a1.2.2.2]), (4, .box [.str [], nI 0, oL 31 c31_o [], nI 0, oL 31 c31_o []]), (6, .box [nI v1.1.1, dL c31_o v1.1.2]), (8, .box [.str a1.1, nI v1.1.1, oL 31 c31_o y1, nI v1.1.1, oL 31 c31_o []]), (33, dL c31_d a1.2.1.2), (34, nI (List.length a1.2.1.2 : Int)), (35, nI y2)]) _ _ _ _ hl (okr rfl) (fun _ => rfl) ?_
  rintro m ⟨y1, y2⟩ N h hN
  unfold impl_NormalizeDelta_B1 at h
  dsimp only at h
  refine rn 1 rfl (ls_seq_k fun K7 hK7 => ?_)
  rcases cond_some h with ⟨g8, h⟩ | ⟨g8, h⟩
  ·refine qT rfl g8 (ls_skip (hK7 _ (ls_seq_k fun K9 hK9 => ls_blk (rs ?_))))
   obtain ⟨e10, g11, h⟩ := ob_some h
   refine qI rfl zc31_d g11 (sp 2 rfl (evn (rs (sp 2 rfl (?_)))))
   obtain ⟨v12, g13, h⟩ := ob_some h
   refine qC (qa rfl (erg (erc rfl (erc (erD ec31_o _) rfl))) (qa rfl (erD eci64 _) eran)) (impl_ContainsRow_s g13) (sp 1 rfl (evn ?_))
   have kJ2 : ∀ {x14 : List (List Int)}, impl_NormalizeDelta_J2 (loopF (impl_NormalizeDelta_B1 a1 v1) m) y2 x14 = some o1 → Jn K9 [(3, .box [.str a1.1, nI a1.2.1.1, dL c31_d a1.2.1.2, nI a1.2.2.1, dL c31_d a1.2.2.2]), (4, .box [.str [], nI 0, oL 31 c31_o [], nI 0, oL 31 c31_o []]), (6, .box [nI v1.1.1, dL c31_o v1.1.2]), (8, .box [.str a1.1, nI v1.1.1, oL 31 c31_o x14, nI v1.1.1, oL 31 c31_o []]), (33, dL c31_d a1.2.1.2), (34, nI (List.length a1.2.1.2 : Int)), (35, nI y2)] := by
    intro x14 h σ' hk
    unfold impl_NormalizeDelta_J2 at h
    exact hK9 _ (lh hk rfl (rg (sp 2 rfl (evn (hN _ _ h (okr rfl))))))
   rcases cond_some h with ⟨g15, h⟩ | ⟨g15, h⟩
   ·refine qT rfl g15 (rgd (by kernel_rfl) (sd 4 rfl (?_)))
    obtain ⟨v16, g17, h⟩ := ob_some h
    refine ed rfl (qC (qa rfl (erD eci64 _) eran) (impl_copyInts_s g17) (ed rfl (qBs c31_o [v16] rfl rfl rfl zc31_o (?_))))
    obtain ⟨g18, h⟩ := chk_some h
    exact ed rfl (qA c31_o y1 [v16] rfl rfl (flat_len zc31_o [v16]) rfl g18 (sd 3 rfl (evdn (kJ2 h _ (okr rfl)))))
   ·exact qF rfl g15 (ls_skip (kJ2 h _ (okr rfl)))
  ·exact qF rfl g8 (ls_exit (kXB1 (Option.some.inj h) _ (okr rfl)))
def impl_Difference_J2 (rec : ((List (List Int)) × Int) → Option ((List (List Int)))) (y2 : Int) (x18 : List (List Int)) : Option ((List (List Int))) := rec (x18, (IntKind.i64.wrap (y2 + 1)))
def impl_Difference_B1 (a0 : Y25) (a1 : Y25) (rec : ((List (List Int)) × Int) → Option ((List (List Int)))) (s : (List (List Int)) × Int) : Option ((List (List Int))) := match s with
  | (y1, y2) => cond (decide (y2 < (List.length a0.2 : Int))) (obind (geti a0.2 y2) fun e14 => obind (impl_ContainsRow a1 e14) fun v16 => cond (!v16) (obind (impl_copyInts e14) fun v20 => chk (List.length y1 + List.length [v20] ≤ lim) (impl_Difference_J2 rec y2 (y1 ++ [v20]))) (impl_Difference_J2 rec y2 y1)) (some y1)
def impl_Difference (a0 : Y25) (a1 : Y25) : Option (Y25 × Bool) := obind (impl_IsValidRelation a0) fun v2 => cond (!v2) (some ((0, []), false)) (obind (impl_IsValidRelation a1) fun v5 => cond (!v5) (some ((0, []), false)) (cond (a0.1 != a1.1) (some ((0, []), false)) (obind (loopF (impl_Difference_B1 a0 a1) fz (([] : List (List Int)), 0)) fun z10 => some ((a0.1, z10), true))))
theorem impl_Difference_s {a0 : Y25} {a1 : Y25} {r : Y25 × Bool} (h : impl_Difference a0 a1 = some r) : SoundAt Try.prog 191 [.agg (c26_dd a0), .agg (c26_dd a1)] (.tup [.agg (c26_oo r.1), .bool r.2]) := by
 unfold impl_Difference at h
 refine st lit191 rfl (rn 1 rfl (ls_seq_k fun K1 hK1 => rs (sp 1 rfl (?_))))
 obtain ⟨v2, g3, h⟩ := ob_some h
 refine qC (qa rfl (erg (erc rfl (erc (erD ec31_d _) rfl))) eran) (impl_IsValidRelation_s g3) (sp 2 rfl (?_))
 rcases cond_some h with ⟨g4, h⟩ | ⟨g4, h⟩
 ·exact qg 12 g4 rfl (sp 11 rfl (evn (qT rfl rfl (rn 1 rfl (ls_ret ((by cases h; exact ⟨.inl rfl, rfl⟩)))))))
 ·refine qg 12 g4 rfl (sp 1 rfl (?_))
  obtain ⟨v5, g6, h⟩ := ob_some h
  refine oGR rfl rfl (qC (qa rfl (erg (erc rfl (erc (erD ec31_d _) rfl))) eran) (impl_IsValidRelation_s g6) (sp 3 rfl (?_)))
  rcases cond_some h with ⟨g7, h⟩ | ⟨g7, h⟩
  ·exact qg 17 g7 rfl (sp 6 rfl (evn (qk [2, 3, 4, 23] rfl (qT rfl rfl (rn 1 rfl (ls_ret ((by cases h; exact ⟨.inl rfl, rfl⟩))))))))
  ·refine qg 17 g7 rfl (sp 6 rfl (evn ?_))
   rcases cond_some h with ⟨g8, h⟩ | ⟨g8, h⟩
   ·exact qT rfl g8 (rn 1 rfl (ls_ret ((by cases h; exact ⟨.inl rfl, rfl⟩))))
   ·refine qF rfl g8 (ls_skip (hK1 _ (rn 1 rfl (ls_seq_k fun K9 hK9 => rn 1 rfl ?_))))
    obtain ⟨o1, hl, hr1⟩ := ob_some h
    have kXB1 : ∀ {z10 : List (List Int)}, z10 = o1 → Jn K9 [(4, .box [nI 0, oL 31 c31_o []]), (6, .box [nI a0.1, oL 31 c31_o z10])] := by
     intro z10 h σ' hk
     subst h
     replace h := hr1
     try dsimp only at h
     exact hK9 _ (lh hk rfl (rn 1 rfl (ls_ret ((by cases h; exact ⟨.inl rfl, rfl⟩)))))
    refine ls_rec (fun (s : (List (List Int)) × Int) => match s with | (y1, y2) => [(3, .box [nI a1.1, dL c31_d a1.2]), (4, .box [nI 0, oL 31 c31_o []]), (6, .box [nI a0.1, oL 31 c31_o y1]), (29, dL c31_d a0.2), (30, nI (List.length a0.2 : Int)), (31, nI y2)]) _ _ _ _ hl (okr rfl) (fun _ => rfl) ?_
    rintro m ⟨y1, y2⟩ N h hN
    unfold impl_Difference_B1 at h
    dsimp only at h
    refine rn 1 rfl (ls_seq_k fun K11 hK11 => ?_)
    rcases cond_some h with ⟨g12, h⟩ | ⟨g12, h⟩
    ·refine qT rfl g12 (ls_skip (hK11 _ (ls_seq_k fun K13 hK13 => ls_blk (rs ?_))))
     obtain ⟨e14, g15, h⟩ := ob_some h
     refine qI rfl zc31_d g15 (sp 2 rfl (evn (rs (sp 2 rfl (?_)))))
     obtain ⟨v16, g17, h⟩ := ob_some h
     refine qC (qa rfl (erg (erc rfl (erc (erD ec31_d _) rfl))) (qa rfl (erD eci64 _) eran)) (impl_ContainsRow_s g17) (sp 1 rfl (evn ?_))
     have kJ2 : ∀ {x18 : List (List Int)}, impl_Difference_J2 (loopF (impl_Difference_B1 a0 a1) m) y2 x18 = some o1 → Jn K13 [(3, .box [nI a1.1, dL c31_d a1.2]), (4, .box [nI 0, oL 31 c31_o []]), (6, .box [nI a0.1, oL 31 c31_o x18]), (29, dL c31_d a0.2), (30, nI (List.length a0.2 : Int)), (31, nI y2)] := by
      intro x18 h σ' hk
      unfold impl_Difference_J2 at h
      exact hK13 _ (lh hk rfl (rg (sp 2 rfl (evn (hN _ _ h (okr rfl))))))
     rcases cond_some h with ⟨g19, h⟩ | ⟨g19, h⟩
     ·refine qT rfl g19 (rgd (by kernel_rfl) (sd 3 rfl (?_)))
      obtain ⟨v20, g21, h⟩ := ob_some h
      refine ed rfl (qC (qa rfl (erD eci64 _) eran) (impl_copyInts_s g21) (ed rfl (qBs c31_o [v20] rfl rfl rfl zc31_o (?_))))
      obtain ⟨g22, h⟩ := chk_some h
      exact ed rfl (qA c31_o y1 [v20] rfl rfl (flat_len zc31_o [v20]) rfl g22 (sd 2 rfl (evdn (kJ2 h _ (okr rfl)))))
     ·exact qF rfl g19 (ls_skip (kJ2 h _ (okr rfl)))
    ·exact qF rfl g12 (ls_exit (kXB1 (Option.some.inj h) _ (okr rfl)))
def impl_ApplyDelta (a0 : List Y106) (a1 : Y71) : Option ((List Y106) × Bool) := obind (impl_NormalizeDelta a0 a1) fun v1 => cond (!v1.2) (obind (impl_copyDatabase a0) fun v5 => some (v5, false)) (obind (impl_LookupRelation a0 a1.1) fun v7 => obind (impl_Difference v7.1 v1.1.2.2) fun v9 => obind (impl_Union v9.1 v1.1.2.1) fun v11 => cond (!v11.2) (obind (impl_copyDatabase a0) fun v15 => some (v15, false)) (obind (impl_SetRelation a0 a1.1 v11.1) fun v17 => some (v17.1, v17.2)))
theorem impl_ApplyDelta_s {a0 : List Y106} {a1 : Y71} {r : (List Y106) × Bool} (h : impl_ApplyDelta a0 a1 = some r) : SoundAt Try.prog 119 [.agg [dL c107_dd a0], .agg (c72_dddd a1)] (.tup [.agg [oL 107 c107_oo r.1], .bool r.2]) := by
 unfold impl_ApplyDelta at h
 refine st lit119 rfl (rn 1 rfl (rs (sp 2 rfl (?_))))
 obtain ⟨v1, g2, h⟩ := ob_some h
 refine qC (qa rfl (erg (erc (erD ec107_dd _) rfl)) (qa rfl (erg (erc rfl (erc rfl (erc (erD ec31_d _) (erc rfl (erc (erD ec31_d _) rfl)))))) eran)) (impl_NormalizeDelta_s g2) (sp 6 rfl (evn (ls_seq_k fun K3 hK3 => rn 1 rfl ?_)))
 rcases cond_some h with ⟨g4, h⟩ | ⟨g4, h⟩
 ·refine qT rfl g4 (rs (sp 1 rfl (?_)))
  obtain ⟨v5, g6, h⟩ := ob_some h
  exact qC (qa rfl (erg (erc (erD ec107_dd _) rfl)) eran) (impl_copyDatabase_s g6) (sp 2 rfl (evn (ls_ret ((by cases h; exact ⟨.inl rfl, rfl⟩)))))
 ·refine qF rfl g4 (ls_skip (hK3 _ (rs (sp 3 rfl (?_)))))
  obtain ⟨v7, g8, h⟩ := ob_some h
  refine qC (qa rfl (erg (erc (erD ec107_dd _) rfl)) (qs rfl eran)) (impl_LookupRelation_s g8) (sp 6 rfl (evn (qk [2, 3, 4, 6, 8] rfl (rs (sp 3 rfl (?_))))))
  obtain ⟨v9, g10, h⟩ := ob_some h
  refine qC (qa rfl (erg (erc rfl (erc (erD ec31_o _) rfl))) (qa rfl (erg (erc rfl (erc (erD ec31_o _) rfl))) eran)) (impl_Difference_s g10) (sp 6 rfl (evn (rs (sp 3 rfl (?_)))))
  obtain ⟨v11, g12, h⟩ := ob_some h
  refine qC (qa rfl (erg (erc rfl (erc (erD ec31_o _) rfl))) (qa rfl (erg (erc rfl (erc (erD ec31_o _) rfl))) eran)) (impl_Union_s g12) (sp 6 rfl (evn (ls_seq_k fun K13 hK13 => rn 1 rfl ?_)))
  rcases cond_some h with ⟨g14, h⟩ | ⟨g14, h⟩
  ·refine qT rfl g14 (rs (sp 1 rfl (?_)))
   obtain ⟨v15, g16, h⟩ := ob_some h
   exact qC (qa rfl (erg (erc (erD ec107_dd _) rfl)) eran) (impl_copyDatabase_s g16) (sp 2 rfl (evn (ls_ret ((by cases h; exact ⟨.inl rfl, rfl⟩)))))
  ·refine qF rfl g14 (ls_skip (hK13 _ (rs (sp 4 rfl (?_)))))
   obtain ⟨v17, g18, h⟩ := ob_some h
   exact qC (qa rfl (erg (erc (erD ec107_dd _) rfl)) (qs rfl (qa rfl (erg (erc rfl (erc (erD ec31_o _) rfl))) eran))) (impl_SetRelation_s g18) (sp 4 rfl (evn (qk [4, 5] rfl (ls_ret ((by cases h; exact ⟨.inl rfl, rfl⟩))))))
def impl_AppendSnapshot (a0 : Y69) (a1 : Y71) : Option (Y69 × Bool) := obind (impl_copyHistory a0) fun v1 => obind (impl_IsValidHistory a0) fun v4 => cond (!v4) (some (v1, false)) (cond (decide (6 ≤ (List.length a0.2 : Int))) (some (v1, false)) (cond (decide (99 < (IntKind.i64.wrap (a0.1 + (List.length a0.2 : Int))))) (some (v1, false)) (obind (geti a0.2 (IntKind.i64.wrap ((List.length a0.2 : Int) - 1))) fun e9 => obind (impl_ApplyDelta e9 a1) fun v11 => cond (!v11.2) (some (v1, false)) (chk (List.length v1.2 + List.length [v11.1] ≤ lim) (some ((v1.1, v1.2 ++ [v11.1]), true))))))
theorem impl_AppendSnapshot_s {a0 : Y69} {a1 : Y71} {r : Y69 × Bool} (h : impl_AppendSnapshot a0 a1 = some r) : SoundAt Try.prog 43 [.agg (c70_dddd a0), .agg (c72_dddd a1)] (.tup [.agg (c70_oooo r.1), .bool r.2]) := by
 unfold impl_AppendSnapshot at h
 refine st lit43 rfl (rn 1 rfl (rs (sp 1 rfl (?_))))
 obtain ⟨v1, g2, h⟩ := ob_some h
 refine qC (qa rfl (erg (erc rfl (erc (erD ec42_ddd _) rfl))) eran) (impl_copyHistory_s g2) (sp 2 rfl (evn (rn 1 rfl (ls_seq_k fun K3 hK3 => rs (sp 1 rfl (?_))))))
 obtain ⟨v4, g5, h⟩ := ob_some h
 refine qC (qa rfl (erg (erc rfl (erc (erD ec42_ddd _) rfl))) eran) (impl_IsValidHistory_s g5) (sp 2 rfl (?_))
 rcases cond_some h with ⟨g6, h⟩ | ⟨g6, h⟩
 ·exact qg 18 g6 rfl (sp 10 rfl (evn (qT rfl rfl (rn 1 rfl (ls_ret ((by cases h; exact ⟨.inl rfl, rfl⟩)))))))
 ·refine qg 18 g6 rfl (sp 4 rfl (?_))
  rcases cond_some h with ⟨g7, h⟩ | ⟨g7, h⟩
  ·exact qg 22 g7 rfl (sp 6 rfl (evn (qk [2, 3, 4, 6, 7, 28] rfl (qT rfl rfl (rn 1 rfl (ls_ret ((by cases h; exact ⟨.inl rfl, rfl⟩))))))))
  ·refine qg 22 g7 rfl (sp 6 rfl (evn ?_))
   rcases cond_some h with ⟨g8, h⟩ | ⟨g8, h⟩
   ·exact qT rfl g8 (rn 1 rfl (ls_ret ((by cases h; exact ⟨.inl rfl, rfl⟩))))
   ·refine qF rfl g8 (ls_skip (hK3 _ (rd (by kernel_rfl) (sd 4 rfl (?_)))))
    obtain ⟨e9, g10, h⟩ := ob_some h
    refine ed rfl (qI rfl zc42_ddd g10 (sd 2 rfl (?_)))
    obtain ⟨v11, g12, h⟩ := ob_some h
    refine ed rfl (qC (qa rfl (erg (erc (erD ec107_dd _) rfl)) (qa rfl (erg (erc rfl (erc rfl (erc (erD ec31_d _) (erc rfl (erc (erD ec31_d _) rfl)))))) eran)) (impl_ApplyDelta_s g12) (sd 6 rfl (evdn (ls_seq_k fun K13 hK13 => rn 1 rfl (qk [4, 6, 8, 42] rfl ?_)))))
    rcases cond_some h with ⟨g14, h⟩ | ⟨g14, h⟩
    ·exact qT rfl g14 (rn 1 rfl (ls_ret ((by cases h; exact ⟨.inl rfl, rfl⟩))))
    ·refine qF rfl g14 (ls_skip (hK13 _ (rs (sp 3 rfl (qBs c42_ooo [v11.1] rfl rfl rfl zc42_ooo (?_))))))
     obtain ⟨g15, h⟩ := chk_some h
     exact qA c42_ooo v1.2 [v11.1] rfl rfl (flat_len zc42_ooo [v11.1]) rfl g15 (sp 2 rfl (evn (rn 1 rfl (ls_ret ((by cases h; exact ⟨.inl rfl, rfl⟩))))))
def spec_l1In_J1 (x2 : Bool) : Option (Bool) := some x2
def spec_l1In (a0 : Int) (a1 : Int) (a2 : Int) : Option (Bool) := cond (decide (a1 ≤ a0)) (spec_l1In_J1 (decide (a0 ≤ a2))) (spec_l1In_J1 false)
theorem spec_l1In_s {a0 : Int} {a1 : Int} {a2 : Int} {r : Bool} (h : spec_l1In a0 a1 a2 = some r) : SoundAt Try.prog 89 [nI a0, nI a1, nI a2] (.bool r) := by
 unfold spec_l1In at h
 refine st lit89 rfl (rn 1 rfl (rk fun K1 hK1 => ?_))
 have kJ1 : ∀ {x2 : Bool}, spec_l1In_J1 x2 = some r → Jn K1 [(6, .bool x2)] := by
  intro x2 h σ' hk
  unfold spec_l1In_J1 at h
  exact hK1 _ (lh hk rfl (ls_ret ((by cases h; exact ⟨.inl rfl, rfl⟩))))
 refine sp 4 rfl (?_)
 rcases cond_some h with ⟨g3, h⟩ | ⟨g3, h⟩
 ·exact qg 10 g3 rfl (sp 5 rfl (evn (kJ1 h _ (okr rfl))))
 ·exact qg 10 g3 rfl (sp 5 rfl (evn (kJ1 h _ (okr rfl))))
def spec_AreValidValues_B1 (a0 : List Int) (rec : Int → Option (Sum (Unit) (Bool))) (y1 : Int) : Option (Sum (Unit) (Bool)) := cond (decide (y1 < (List.length a0 : Int))) (obind (geti a0 y1) fun e5 => obind (spec_l1In e5 0 99) fun v7 => cond (!v7) (some (.inr false)) (rec (IntKind.i64.wrap (y1 + 1)))) (some (.inl ()))
def spec_AreValidValues (a0 : List Int) : Option (Bool) := obind (loopF (spec_AreValidValues_B1 a0) fz 0) fun o1 => (match o1 with
  | .inl _ => (some true)
  | .inr r => some r)
theorem spec_AreValidValues_s {a0 : List Int} {r : Bool} (h : spec_AreValidValues a0 = some r) : SoundAt Try.prog 90 [dL ci64 a0] (.bool r) := by
 unfold spec_AreValidValues at h
 refine st lit90 rfl (rn 1 rfl (ls_seq_k fun K1 hK1 => rn 1 rfl ?_))
 obtain ⟨o1, hl, hr1⟩ := ob_some h
 have kXB1 : (.inl ()) = o1 → Jn K1 [] := by
  intro h σ' hk
  subst h
  replace h := hr1
  try dsimp only at h
  exact hK1 _ (lh hk rfl (rn 1 rfl (ls_ret ((by cases h; exact ⟨.inl rfl, rfl⟩)))))
 refine ls_rec (fun (y1 : Int) => [(0, dL ci64 a0), (3, nI y1)]) _ _ _ _ hl (okr rfl) (fun _ => rfl) ?_
 rintro m y1 N h hN
 unfold spec_AreValidValues_B1 at h
 refine ls_seq_k fun K2 hK2 => rn 1 rfl ?_
 rcases cond_some h with ⟨g3, h⟩ | ⟨g3, h⟩
 ·refine qT rfl g3 (ls_skip (hK2 _ (ls_seq_k fun K4 hK4 => ls_blk (rs (sp 2 rfl (?_))))))
  obtain ⟨e5, g6, h⟩ := ob_some h
  refine qI rfl zci64 g6 (sp 1 rfl (?_))
  obtain ⟨v7, g8, h⟩ := ob_some h
  refine qC (qs rfl (qs rfl (qs rfl eran))) (spec_l1In_s g8) (sp 1 rfl (evn ?_))
  rcases cond_some h with ⟨g9, h⟩ | ⟨g9, h⟩
  ·exact qT rfl g9 (rn 1 rfl (ls_ret ((by cases h; cases hr1; exact ⟨.inl rfl, rfl⟩))))
  ·exact qF rfl g9 (ls_skip (hK4 _ (rg (sp 3 rfl (evn (hN _ _ h (okr rfl)))))))
 ·exact qF rfl g3 (ls_exit (kXB1 (Option.some.inj h) _ trivial))
def spec_CompareRows_B1 (a0 : List Int) (a1 : List Int) (rec : Int → Option (Sum (Unit) (Int))) (y1 : Int) : Option (Sum (Unit) (Int)) := cond (decide (y1 < (List.length a0 : Int))) (cond (decide (y1 < (List.length a1 : Int))) (obind (geti a0 y1) fun e7 => obind (geti a1 y1) fun e9 => cond (decide (e7 < e9)) (some (.inr (-1))) (obind (geti a0 y1) fun e12 => obind (geti a1 y1) fun e14 => cond (decide (e14 < e12)) (some (.inr 1)) (rec (IntKind.i64.wrap (y1 + 1))))) (some (.inl ()))) (some (.inl ()))
def spec_CompareRows (a0 : List Int) (a1 : List Int) : Option (Int) := obind (loopF (spec_CompareRows_B1 a0 a1) fz 0) fun o1 => (match o1 with
  | .inl _ => (cond (decide ((List.length a0 : Int) < (List.length a1 : Int))) (some (-1)) (cond (decide ((List.length a1 : Int) < (List.length a0 : Int))) (some 1) (some 0)))
  | .inr r => some r)
theorem spec_CompareRows_s {a0 : List Int} {a1 : List Int} {r : Int} (h : spec_CompareRows a0 a1 = some r) : SoundAt Try.prog 91 [dL ci64 a0, dL ci64 a1] (nI r) := by
 unfold spec_CompareRows at h
 refine st lit91 rfl (rn 1 rfl (ls_seq_k fun K1 hK1 => rn 1 rfl ?_))
 obtain ⟨o1, hl, hr1⟩ := ob_some h
 have kXB1 : (.inl ()) = o1 → Jn K1 [(0, dL ci64 a0), (1, dL ci64 a1)] := by
  intro h σ' hk
  subst h
  replace h := hr1
  try dsimp only at h
  refine hK1 _ (lh hk rfl (ls_seq_k fun K17 hK17 => rn 1 rfl ?_))
  rcases cond_some h with ⟨g18, h⟩ | ⟨g18, h⟩
  ·exact qT rfl g18 (rn 1 rfl (ls_ret ((by cases h; exact ⟨.inl rfl, rfl⟩))))
  ·refine qF rfl g18 (ls_skip (hK17 _ (ls_seq_k fun K19 hK19 => rn 1 rfl ?_)))
   rcases cond_some h with ⟨g20, h⟩ | ⟨g20, h⟩
   ·exact qT rfl g20 (rn 1 rfl (ls_ret ((by cases h; exact ⟨.inl rfl, rfl⟩))))
   ·exact qF rfl g20 (ls_skip (hK19 _ (rn 1 rfl (ls_ret ((by cases h; exact ⟨.inl rfl, rfl⟩))))))
 refine ls_rec (fun (y1 : Int) => [(0, dL ci64 a0), (1, dL ci64 a1), (5, nI y1)]) _ _ _ _ hl (okr rfl) (fun _ => rfl) ?_
 rintro m y1 N h hN
 unfold spec_CompareRows_B1 at h
 refine ls_seq_k fun K2 hK2 => rs (sp 5 rfl (?_))
 rcases cond_some h with ⟨g3, h⟩ | ⟨g3, h⟩
 ·refine qg 10 g3 rfl (sp 5 rfl (evn ?_))
  rcases cond_some h with ⟨g4, h⟩ | ⟨g4, h⟩
  ·refine qT rfl g4 (ls_skip (hK2 _ (ls_seq_k fun K5 hK5 => ls_blk (ls_seq_k fun K6 hK6 => rd (by kernel_rfl) (sd 2 rfl (?_))))))
   obtain ⟨e7, g8, h⟩ := ob_some h
   refine ed rfl (qI rfl zci64 g8 (sd 3 rfl (?_)))
   obtain ⟨e9, g10, h⟩ := ob_some h
   refine ed rfl (qI rfl zci64 g10 (sd 2 rfl (evdn ?_)))
   rcases cond_some h with ⟨g11, h⟩ | ⟨g11, h⟩
   ·exact qT rfl g11 (rn 1 rfl (ls_ret ((by cases h; cases hr1; exact ⟨.inl rfl, rfl⟩))))
   ·refine qF rfl g11 (ls_skip (hK6 _ (rd (by kernel_rfl) (sd 2 rfl (?_)))))
    obtain ⟨e12, g13, h⟩ := ob_some h
    refine ed rfl (qI rfl zci64 g13 (sd 3 rfl (?_)))
    obtain ⟨e14, g15, h⟩ := ob_some h
    refine ed rfl (qI rfl zci64 g15 (sd 2 rfl (evdn (qk [0, 1, 5, 35] rfl ?_))))
    rcases cond_some h with ⟨g16, h⟩ | ⟨g16, h⟩
    ·exact qT rfl g16 (rn 1 rfl (ls_ret ((by cases h; cases hr1; exact ⟨.inl rfl, rfl⟩))))
    ·exact qF rfl g16 (ls_skip (hK5 _ (rg (sp 3 rfl (evn (hN _ _ h (okr rfl)))))))
  ·exact qF rfl g4 (ls_exit (kXB1 (Option.some.inj h) _ (okr rfl)))
 ·exact qg 10 g3 rfl (sp 5 rfl (evn (qF rfl rfl (ls_exit (kXB1 (Option.some.inj h) _ (okr rfl))))))
def spec_IsValidRelation_J2 (rec : Int → Option (Sum (Unit) (Bool))) (y1 : Int) (x11 : Bool) : Option (Sum (Unit) (Bool)) := cond x11 (some (.inr false)) (rec (IntKind.i64.wrap (y1 + 1)))
def spec_IsValidRelation_B1 (a0 : Y25) (rec : Int → Option (Sum (Unit) (Bool))) (y1 : Int) : Option (Sum (Unit) (Bool)) := cond (decide (y1 < (List.length a0.2 : Int))) (obind (geti a0.2 y1) fun e13 => cond ((List.length e13 : Int) != a0.1) (spec_IsValidRelation_J2 rec y1 true) (obind (geti a0.2 y1) fun e16 => obind (spec_AreValidValues e16) fun v18 => cond (!v18) (spec_IsValidRelation_J2 rec y1 true) (cond (decide (0 < y1)) (obind (geti a0.2 (IntKind.i64.wrap (y1 - 1))) fun e22 => obind (geti a0.2 y1) fun e24 => obind (spec_CompareRows e22 e24) fun v26 => spec_IsValidRelation_J2 rec y1 (decide (0 ≤ v26))) (spec_IsValidRelation_J2 rec y1 false)))) (some (.inl ()))
def spec_IsValidRelation (a0 : Y25) : Option (Bool) := obind (spec_l1In a0.1 0 5) fun v2 => cond (!v2) (some false) (cond (decide (4000 < (List.length a0.2 : Int))) (some false) (obind (loopF (spec_IsValidRelation_B1 a0) fz 0) fun o1 => (match o1 with
  | .inl _ => (some true)
  | .inr r => some r)))
theorem spec_IsValidRelation_s {a0 : Y25} {r : Bool} (h : spec_IsValidRelation a0 = some r) : SoundAt Try.prog 15 [.agg (c26_dd a0)] (.bool r) := by
 unfold spec_IsValidRelation at h
 refine st lit15 rfl (rn 1 rfl (ls_seq_k fun K1 hK1 => rs (sp 2 rfl (?_))))
 obtain ⟨v2, g3, h⟩ := ob_some h
 refine qC (qs rfl (qs rfl (qs rfl eran))) (spec_l1In_s g3) (sp 2 rfl (?_))
 rcases cond_some h with ⟨g4, h⟩ | ⟨g4, h⟩
 ·exact qg 8 g4 rfl (sp 5 rfl (evn (qT rfl rfl (rn 1 rfl (ls_ret ((by cases h; exact ⟨.inl rfl, rfl⟩)))))))
 ·refine qg 8 g4 rfl (sp 5 rfl (evn ?_))
  rcases cond_some h with ⟨g5, h⟩ | ⟨g5, h⟩
  ·exact qT rfl g5 (rn 1 rfl (ls_ret ((by cases h; exact ⟨.inl rfl, rfl⟩))))
  ·refine qF rfl g5 (ls_skip (hK1 _ (qk [1] rfl (ls_seq_k fun K6 hK6 => rn 1 rfl ?_))))
   obtain ⟨o1, hl, hr1⟩ := ob_some h
   have kXB1 : (.inl ()) = o1 → Jn K6 [] := by
    intro h σ' hk
    subst h
    replace h := hr1
    try dsimp only at h
    exact hK6 _ (lh hk rfl (rn 1 rfl (ls_ret ((by cases h; exact ⟨.inl rfl, rfl⟩)))))
   refine ls_rec (fun (y1 : Int) => [(1, .box [nI a0.1, dL c31_d a0.2]), (3, nI y1)]) _ _ _ _ hl (okr rfl) (fun _ => rfl) ?_
   rintro m y1 N h hN
   unfold spec_IsValidRelation_B1 at h
   refine ls_seq_k fun K7 hK7 => rn 1 rfl ?_
   rcases cond_some h with ⟨g8, h⟩ | ⟨g8, h⟩
   ·refine qT rfl g8 (ls_skip (hK7 _ (ls_seq_k fun K9 hK9 => ls_blk (rdk (by kernel_rfl) fun K10 hK10 => ?_))))
    have kJ2 : ∀ {x11 : Bool}, spec_IsValidRelation_J2 (loopF (spec_IsValidRelation_B1 a0) m) y1 x11 = some o1 → Jn K10 [(1, .box [nI a0.1, dL c31_d a0.2]), (3, nI y1), (57, .bool x11)] := by
     intro x11 h σ' hk
     unfold spec_IsValidRelation_J2 at h
     refine hK10 _ (lh hk rfl ?_)
     rcases cond_some h with ⟨g12, h⟩ | ⟨g12, h⟩
     ·exact qT rfl g12 (rn 1 rfl (ls_ret ((by cases h; cases hr1; exact ⟨.inl rfl, rfl⟩))))
     ·exact qF rfl g12 (ls_skip (hK9 _ (rg (sp 3 rfl (evn (hN _ _ h (okr rfl)))))))
    refine sd 3 rfl (?_)
    obtain ⟨e13, g14, h⟩ := ob_some h
    refine ed rfl (qI rfl zc31_d g14 (sd 6 rfl (?_)))
    rcases cond_some h with ⟨g15, h⟩ | ⟨g15, h⟩
    ·exact qgd 30 g15 rfl (sd 27 rfl (evdn (kJ2 h _ (okr rfl))))
    ·refine qgd 30 g15 rfl (sd 3 rfl (?_))
     obtain ⟨e16, g17, h⟩ := ob_some h
     refine ed rfl (oGR rfl rfl (qI rfl zc31_d g17 (sd 1 rfl (?_))))
     obtain ⟨v18, g19, h⟩ := ob_some h
     refine ed rfl (oGR rfl rfl (qC (qa rfl (erD eci64 _) eran) (spec_AreValidValues_s g19) (sd 3 rfl (?_))))
     rcases cond_some h with ⟨g20, h⟩ | ⟨g20, h⟩
     ·exact qgd 39 g20 rfl (sd 18 rfl (evdn (kJ2 h _ (okr rfl))))
     ·refine qgd 39 g20 rfl (sd 3 rfl (?_))
      rcases cond_some h with ⟨g21, h⟩ | ⟨g21, h⟩
      ·refine qgd 42 g21 rfl (sd 4 rfl (?_))
       obtain ⟨e22, g23, h⟩ := ob_some h
       refine ed rfl (oGR rfl rfl (qI rfl zc31_d g23 (sd 4 rfl (?_))))
       obtain ⟨e24, g25, h⟩ := ob_some h
       refine ed rfl (oGR rfl rfl (qI rfl zc31_d g25 (sd 1 rfl (?_))))
       obtain ⟨v26, g27, h⟩ := ob_some h
       exact ed rfl (oGR rfl rfl (qC (qa rfl (erD eci64 _) (qa rfl (erD eci64 _) eran)) (spec_CompareRows_s g27) (sd 3 rfl (evdn (kJ2 h _ (okr rfl))))))
      ·exact qgd 42 g21 rfl (sd 15 rfl (evdn (kJ2 h _ (okr rfl))))
   ·exact qF rfl g8 (ls_exit (kXB1 (Option.some.inj h) _ trivial))
def spec_IsValidName_B1 (a0 : List UInt8) (rec : Int → Option (Sum (Unit) (Bool))) (y1 : Int) : Option (Sum (Unit) (Bool)) := cond (decide (y1 < (List.length a0 : Int))) (obind (geti a0 y1) fun b5 => cond (decide ((UInt8.toNat b5 : Int) < 97)) (some (.inr false)) (obind (geti a0 y1) fun b8 => cond (decide (122 < (UInt8.toNat b8 : Int))) (some (.inr false)) (rec (IntKind.i64.wrap (y1 + 1))))) (some (.inl ()))
def spec_IsValidName (a0 : List UInt8) : Option (Bool) := obind (loopF (spec_IsValidName_B1 a0) fz 0) fun o1 => (match o1 with
  | .inl _ => (obind (spec_l1In (List.length a0 : Int) 1 4) fun v11 => some v11)
  | .inr r => some r)
theorem spec_IsValidName_s {a0 : List UInt8} {r : Bool} (h : spec_IsValidName a0 = some r) : SoundAt Try.prog 178 [.str a0] (.bool r) := by
 unfold spec_IsValidName at h
 refine st lit178 rfl (rn 1 rfl (ls_seq_k fun K1 hK1 => rn 1 rfl ?_))
 obtain ⟨o1, hl, hr1⟩ := ob_some h
 have kXB1 : (.inl ()) = o1 → Jn K1 [(0, .str a0)] := by
  intro h σ' hk
  subst h
  replace h := hr1
  try dsimp only at h
  refine hK1 _ (lh hk rfl (rs (sp 2 rfl (?_))))
  obtain ⟨v11, g12, h⟩ := ob_some h
  exact qC (qs rfl (qs rfl (qs rfl eran))) (spec_l1In_s g12) (sp 1 rfl (evn (ls_ret ((by cases h; exact ⟨.inl rfl, rfl⟩)))))
 refine ls_rec (fun (y1 : Int) => [(0, .str a0), (3, nI y1)]) _ _ _ _ hl (okr rfl) (fun _ => rfl) ?_
 rintro m y1 N h hN
 unfold spec_IsValidName_B1 at h
 refine ls_seq_k fun K2 hK2 => rn 1 rfl ?_
 rcases cond_some h with ⟨g3, h⟩ | ⟨g3, h⟩
 ·refine qT rfl g3 (ls_skip (hK2 _ (ls_seq_k fun K4 hK4 => ls_blk (rs (sp 2 rfl (?_))))))
  obtain ⟨b5, g6, h⟩ := ob_some h
  refine qX rfl g6 (sp 2 rfl (?_))
  rcases cond_some h with ⟨g7, h⟩ | ⟨g7, h⟩
  ·exact qg 14 g7 rfl (sp 5 rfl (evn (qT rfl rfl (rn 1 rfl (ls_ret ((by cases h; cases hr1; exact ⟨.inl rfl, rfl⟩)))))))
  ·refine qg 14 g7 rfl (sp 2 rfl (?_))
   obtain ⟨b8, g9, h⟩ := ob_some h
   refine oGR rfl rfl (qX rfl g9 (sp 2 rfl (evn ?_)))
   rcases cond_some h with ⟨g10, h⟩ | ⟨g10, h⟩
   ·exact qT rfl g10 (rn 1 rfl (qk [2] rfl (ls_ret ((by cases h; cases hr1; exact ⟨.inl rfl, rfl⟩)))))
   ·exact qF rfl g10 (ls_skip (hK4 _ (rg (sp 3 rfl (evn (hN _ _ h (okr rfl)))))))
 ·exact qF rfl g3 (ls_exit (kXB1 (Option.some.inj h) _ (okr rfl)))
def spec_IsValidDatabase_J2 (rec : Int → Option (Sum (Unit) (Bool))) (y1 : Int) (x8 : Bool) : Option (Sum (Unit) (Bool)) := cond x8 (some (.inr false)) (rec (IntKind.i64.wrap (y1 + 1)))
def spec_IsValidDatabase_B1 (a0 : List Y106) (rec : Int → Option (Sum (Unit) (Bool))) (y1 : Int) : Option (Sum (Unit) (Bool)) := cond (decide (y1 < (List.length a0 : Int))) (obind (geti a0 y1) fun e5 => obind (spec_IsValidName e5.1) fun v10 => cond (!v10) (spec_IsValidDatabase_J2 rec y1 true) (cond (decide (0 < y1)) (obind (geti a0 (IntKind.i64.wrap (y1 - 1))) fun e14 => cond (!Op.bytesLess e14.1 e5.1) (spec_IsValidDatabase_J2 rec y1 true) (obind (spec_IsValidRelation e5.2) fun v17 => cond (!v17) (spec_IsValidDatabase_J2 rec y1 true) (cond (decide (16 < (List.length e5.2.2 : Int))) (spec_IsValidDatabase_J2 rec y1 true) (spec_IsValidDatabase_J2 rec y1 (decide (e5.2.1 < 1)))))) (obind (spec_IsValidRelation e5.2) fun v21 => cond (!v21) (spec_IsValidDatabase_J2 rec y1 true) (cond (decide (16 < (List.length e5.2.2 : Int))) (spec_IsValidDatabase_J2 rec y1 true) (spec_IsValidDatabase_J2 rec y1 (decide (e5.2.1 < 1))))))) (some (.inl ()))
def spec_IsValidDatabase (a0 : List Y106) : Option (Bool) := obind (loopF (spec_IsValidDatabase_B1 a0) fz 0) fun o1 => (match o1 with
  | .inl _ => (some (decide ((List.length a0 : Int) ≤ 6)))
  | .inr r => some r)
theorem spec_IsValidDatabase_s {a0 : List Y106} {r : Bool} (h : spec_IsValidDatabase a0 = some r) : SoundAt Try.prog 99 [.agg [dL c107_dd a0]] (.bool r) := by
 unfold spec_IsValidDatabase at h
 refine st lit99 rfl (rn 1 rfl (ls_seq_k fun K1 hK1 => rn 1 rfl ?_))
 obtain ⟨o1, hl, hr1⟩ := ob_some h
 have kXB1 : (.inl ()) = o1 → Jn K1 [(1, .box [dL c107_dd a0])] := by
  intro h σ' hk
  subst h
  replace h := hr1
  try dsimp only at h
  exact hK1 _ (lh hk rfl (rn 1 rfl (ls_ret ((by cases h; exact ⟨.inl rfl, rfl⟩)))))
 refine ls_rec (fun (y1 : Int) => [(1, .box [dL c107_dd a0]), (3, nI y1)]) _ _ _ _ hl (okr rfl) (fun _ => rfl) ?_
 rintro m y1 N h hN
 unfold spec_IsValidDatabase_B1 at h
 refine ls_seq_k fun K2 hK2 => rn 1 rfl ?_
 rcases cond_some h with ⟨g3, h⟩ | ⟨g3, h⟩
 ·refine qT rfl g3 (ls_skip (hK2 _ (ls_seq_k fun K4 hK4 => ls_blk (rs (sp 3 rfl (?_))))))
  obtain ⟨e5, g6, h⟩ := ob_some h
  refine qI rfl zc107_dd g6 (sp 3 rfl (evn (rdk (by kernel_rfl) fun K7 hK7 => ?_)))
  have kJ2 : ∀ {x8 : Bool}, spec_IsValidDatabase_J2 (loopF (spec_IsValidDatabase_B1 a0) m) y1 x8 = some o1 → Jn K7 [(1, .box [dL c107_dd a0]), (3, nI y1), (55, .bool x8)] := by
   intro x8 h σ' hk
   unfold spec_IsValidDatabase_J2 at h
   refine hK7 _ (lh hk rfl ?_)
   rcases cond_some h with ⟨g9, h⟩ | ⟨g9, h⟩
   ·exact qT rfl g9 (rn 1 rfl (ls_ret ((by cases h; cases hr1; exact ⟨.inl rfl, rfl⟩))))
   ·exact qF rfl g9 (ls_skip (hK4 _ (rg (sp 3 rfl (evn (hN _ _ h (okr rfl)))))))
  refine sd 2 rfl (?_)
  obtain ⟨v10, g11, h⟩ := ob_some h
  refine ed rfl (qC (qs rfl eran) (spec_IsValidName_s g11) (sd 2 rfl (?_)))
  rcases cond_some h with ⟨g12, h⟩ | ⟨g12, h⟩
  ·exact qgd 21 g12 rfl (sd 34 rfl (evdn (kJ2 h _ (okr rfl))))
  ·refine qgd 21 g12 rfl (sd 3 rfl (?_))
   rcases cond_some h with ⟨g13, h⟩ | ⟨g13, h⟩
   ·refine qgd 24 g13 rfl (sd 4 rfl (?_))
    obtain ⟨e14, g15, h⟩ := ob_some h
    refine ed rfl (oGR rfl rfl (qI rfl zc107_dd g15 (sd 8 rfl (?_))))
    rcases cond_some h with ⟨g16, h⟩ | ⟨g16, h⟩
    ·exact qgd 37 g16 rfl (sd 18 rfl (evdn (kJ2 h _ (okr rfl))))
    ·refine qgd 37 g16 rfl (sd 2 rfl (?_))
     obtain ⟨v17, g18, h⟩ := ob_some h
     refine ed rfl (oGR rfl rfl (qC (qa rfl (erg (erc rfl (erc (erD ec31_d _) rfl))) eran) (spec_IsValidRelation_s g18) (sd 3 rfl (?_))))
     rcases cond_some h with ⟨g19, h⟩ | ⟨g19, h⟩
     ·exact qgd 43 g19 rfl (sd 12 rfl (evdn (kJ2 h _ (okr rfl))))
     ·refine qgd 43 g19 rfl (sd 7 rfl (?_))
      rcases cond_some h with ⟨g20, h⟩ | ⟨g20, h⟩
      ·exact qgd 50 g20 rfl (sd 5 rfl (evdn (kJ2 h _ (okr rfl))))
      ·exact qgd 50 g20 rfl (sd 5 rfl (evdn (kJ2 h _ (okr rfl))))
   ·refine qgd 24 g13 rfl (sd 15 rfl (?_))
    obtain ⟨v21, g22, h⟩ := ob_some h
    refine ed rfl (oGR rfl rfl (qC (qa rfl (erg (erc rfl (erc (erD ec31_d _) rfl))) eran) (spec_IsValidRelation_s g22) (sd 3 rfl (?_))))
    rcases cond_some h with ⟨g23, h⟩ | ⟨g23, h⟩
    ·exact qgd 43 g23 rfl (sd 12 rfl (evdn (kJ2 h _ (okr rfl))))
    ·refine qgd 43 g23 rfl (sd 7 rfl (?_))
     rcases cond_some h with ⟨g24, h⟩ | ⟨g24, h⟩
     ·exact qgd 50 g24 rfl (sd 5 rfl (evdn (kJ2 h _ (okr rfl))))
     ·exact qgd 50 g24 rfl (sd 5 rfl (evdn (kJ2 h _ (okr rfl))))
 ·exact qF rfl g3 (ls_exit (kXB1 (Option.some.inj h) _ (okr rfl)))
def spec_l5Copy_B1 (a0 : Y25) (rec : ((List (List Int)) × Int) → Option ((List (List Int)))) (s : (List (List Int)) × Int) : Option ((List (List Int))) := match s with
  | (y1, y2) => cond (decide (y2 < (List.length a0.2 : Int))) (obind (geti a0.2 y2) fun e6 => chk (List.length ([] : List Int) + List.length e6 ≤ lim) (chk (List.length y1 + List.length ([([] : List Int) ++ e6]) ≤ lim) (rec ((y1 ++ ([([] : List Int) ++ e6])), (IntKind.i64.wrap (y2 + 1)))))) (some y1)
def spec_l5Copy (a0 : Y25) : Option (Y25) := obind (loopF (spec_l5Copy_B1 a0) fz (([] : List (List Int)), 0)) fun z2 => some (a0.1, z2)
theorem spec_l5Copy_s {a0 : Y25} {r : Y25} (h : spec_l5Copy a0 = some r) : SoundAt Try.prog 100 [.agg (c26_dd a0)] (.agg (c26_oo r)) := by
 unfold spec_l5Copy at h
 refine st lit100 rfl (rn 2 rfl (ls_seq_k fun K1 hK1 => rn 1 rfl ?_))
 obtain ⟨o1, hl, hr1⟩ := ob_some h
 have kXB1 : ∀ {z2 : List (List Int)}, z2 = o1 → Jn K1 [(2, .box [nI 0, oL 31 c31_o []]), (3, .box [nI a0.1, oL 31 c31_o z2])] := by
  intro z2 h σ' hk
  subst h
  replace h := hr1
  try dsimp only at h
  exact hK1 _ (lh hk rfl (rn 1 rfl (ls_ret ((by cases h; exact ⟨.inl rfl, rfl⟩)))))
 refine ls_rec (fun (s : (List (List Int)) × Int) => match s with | (y1, y2) => [(1, .box [nI a0.1, dL c31_d a0.2]), (2, .box [nI 0, oL 31 c31_o []]), (3, .box [nI a0.1, oL 31 c31_o y1]), (4, nI y2)]) _ _ _ _ hl (okr rfl) (fun _ => rfl) ?_
 rintro m ⟨y1, y2⟩ N h hN
 unfold spec_l5Copy_B1 at h
 dsimp only at h
 refine ls_seq_k fun K3 hK3 => rn 1 rfl ?_
 rcases cond_some h with ⟨g4, h⟩ | ⟨g4, h⟩
 ·refine qT rfl g4 (ls_skip (hK3 _ (ls_seq_k fun K5 hK5 => ls_blk (rgd (by kernel_rfl) (sd 2 rfl (ed rfl (qBs ci64 [] rfl rfl rfl zci64 (sd 3 rfl (?_)))))))))
  obtain ⟨e6, g7, h⟩ := ob_some h
  refine ed rfl (qI rfl zc31_d g7 (sd 1 rfl (?_)))
  obtain ⟨g8, h⟩ := chk_some h
  refine ed rfl (qA ci64 ([] : List Int) e6 rfl rfl (flat_len zci64 e6) (map_dg (fun _ => rfl) _) g8 (ed rfl (qBs c31_o [([] : List Int) ++ e6] rfl rfl rfl zc31_o (?_))))
  obtain ⟨g9, h⟩ := chk_some h
  exact ed rfl (qA c31_o y1 ([([] : List Int) ++ e6]) rfl rfl (flat_len zc31_o ([([] : List Int) ++ e6])) rfl g9 (sd 2 rfl (evdn (hK5 _ (rg (sp 3 rfl (evn (hN _ _ h (okr rfl)))))))))
 ·exact qF rfl g4 (ls_exit (kXB1 (Option.some.inj h) _ (okr rfl)))
def spec_LookupRelation_B1 (a0 : List Y106) (a1 : List UInt8) (rec : Int → Option (Sum (Unit) (Y25 × Bool))) (y1 : Int) : Option (Sum (Unit) (Y25 × Bool)) := cond (decide (y1 < (List.length a0 : Int))) (obind (spec_IsValidDatabase a0) fun v4 => cond v4 (obind (geti a0 y1) fun e8 => cond (e8.1 == a1) (obind (geti a0 y1) fun e11 => obind (spec_l5Copy e11.2) fun v13 => some (.inr (v13, true))) (rec (IntKind.i64.wrap (y1 + 1)))) (some (.inl ()))) (some (.inl ()))
def spec_LookupRelation (a0 : List Y106) (a1 : List UInt8) : Option (Y25 × Bool) := obind (loopF (spec_LookupRelation_B1 a0 a1) fz 0) fun o1 => (match o1 with
  | .inl _ => (some ((0, []), false))
  | .inr r => some r)
theorem spec_LookupRelation_s {a0 : List Y106} {a1 : List UInt8} {r : Y25 × Bool} (h : spec_LookupRelation a0 a1 = some r) : SoundAt Try.prog 29 [.agg [dL c107_dd a0], .str a1] (.tup [.agg (c26_oo r.1), .bool r.2]) := by
 unfold spec_LookupRelation at h
 refine st lit29 rfl (rn 1 rfl (ls_seq_k fun K1 hK1 => rn 1 rfl ?_))
 obtain ⟨o1, hl, hr1⟩ := ob_some h
 have kXB1 : (.inl ()) = o1 → Jn K1 [(4, .box [nI 0, oL 31 c31_o []])] := by
  intro h σ' hk
  subst h
  replace h := hr1
  try dsimp only at h
  exact hK1 _ (lh hk rfl (rn 1 rfl (ls_ret ((by cases h; exact ⟨.inl rfl, rfl⟩)))))
 refine ls_rec (fun (y1 : Int) => [(1, .str a1), (2, .box [dL c107_dd a0]), (4, .box [nI 0, oL 31 c31_o []]), (6, nI y1)]) _ _ _ _ hl (okr rfl) (fun _ => rfl) ?_
 rintro m y1 N h hN
 unfold spec_LookupRelation_B1 at h
 refine ls_seq_k fun K2 hK2 => rs (sp 6 rfl (?_))
 rcases cond_some h with ⟨g3, h⟩ | ⟨g3, h⟩
 ·refine qg 12 g3 rfl (sp 1 rfl (?_))
  obtain ⟨v4, g5, h⟩ := ob_some h
  refine oGR rfl rfl (qC (qa rfl (erg (erc (erD ec107_dd _) rfl)) eran) (spec_IsValidDatabase_s g5) (sp 1 rfl (evn ?_)))
  rcases cond_some h with ⟨g6, h⟩ | ⟨g6, h⟩
  ·refine qT rfl g6 (ls_skip (hK2 _ (ls_seq_k fun K7 hK7 => ls_blk (rs (sp 3 rfl (?_))))))
   obtain ⟨e8, g9, h⟩ := ob_some h
   refine qI rfl zc107_dd g9 (sp 4 rfl (evn ?_))
   rcases cond_some h with ⟨g10, h⟩ | ⟨g10, h⟩
   ·refine qT rfl g10 (rs (sp 3 rfl (?_)))
    obtain ⟨e11, g12, h⟩ := ob_some h
    refine qI rfl zc107_dd g12 (sp 2 rfl (?_))
    obtain ⟨v13, g14, h⟩ := ob_some h
    exact qC (qa rfl (erg (erc rfl (erc (erD ec31_d _) rfl))) eran) (spec_l5Copy_s g14) (sp 2 rfl (evn (ls_ret ((by cases h; cases hr1; exact ⟨.inl rfl, rfl⟩)))))
   ·exact qF rfl g10 (ls_skip (hK7 _ (qk [1, 2, 4, 6] rfl (rg (sp 3 rfl (evn (hN _ _ h (okr rfl))))))))
  ·exact qF rfl g6 (ls_exit (kXB1 (Option.some.inj h) _ (okr rfl)))
 ·exact qg 12 g3 rfl (sp 3 rfl (evn (qF rfl rfl (ls_exit (kXB1 (Option.some.inj h) _ (okr rfl))))))
def spec_l6Copy_B1 (a0 : List Y106) (rec : ((List Y106) × Int) → Option ((List Y106))) (s : (List Y106) × Int) : Option ((List Y106)) := match s with
  | (y1, y2) => cond (decide (y2 < (List.length a0 : Int))) (obind (geti a0 y2) fun e6 => obind (spec_l5Copy e6.2) fun v8 => obind (geti a0 y2) fun e10 => chk (List.length y1 + List.length [(e10.1, v8)] ≤ lim) (rec ((y1 ++ [(e10.1, v8)]), (IntKind.i64.wrap (y2 + 1))))) (some y1)
def spec_l6Copy (a0 : List Y106) : Option ((List Y106)) := obind (loopF (spec_l6Copy_B1 a0) fz (([] : List Y106), 0)) fun z2 => some z2
theorem spec_l6Copy_s {a0 : List Y106} {r : (List Y106)} (h : spec_l6Copy a0 = some r) : SoundAt Try.prog 122 [.agg [dL c107_dd a0]] (.agg [oL 107 c107_oo r]) := by
 unfold spec_l6Copy at h
 refine st lit122 rfl (rn 2 rfl (ls_seq_k fun K1 hK1 => rn 1 rfl ?_))
 obtain ⟨o1, hl, hr1⟩ := ob_some h
 have kXB1 : ∀ {z2 : List Y106}, z2 = o1 → Jn K1 [(2, .box [oL 107 c107_oo []]), (3, .box [oL 107 c107_oo z2])] := by
  intro z2 h σ' hk
  subst h
  replace h := hr1
  try dsimp only at h
  exact hK1 _ (lh hk rfl (rn 1 rfl (ls_ret ((by cases h; exact ⟨.inl rfl, rfl⟩)))))
 refine ls_rec (fun (s : (List Y106) × Int) => match s with | (y1, y2) => [(1, .box [dL c107_dd a0]), (2, .box [oL 107 c107_oo []]), (3, .box [oL 107 c107_oo y1]), (4, nI y2)]) _ _ _ _ hl (okr rfl) (fun _ => rfl) ?_
 rintro m ⟨y1, y2⟩ N h hN
 unfold spec_l6Copy_B1 at h
 dsimp only at h
 refine ls_seq_k fun K3 hK3 => rn 1 rfl ?_
 rcases cond_some h with ⟨g4, h⟩ | ⟨g4, h⟩
 ·refine qT rfl g4 (ls_skip (hK3 _ (ls_seq_k fun K5 hK5 => ls_blk (rs (sp 3 rfl (?_))))))
  obtain ⟨e6, g7, h⟩ := ob_some h
  refine qI rfl zc107_dd g7 (sp 2 rfl (?_))
  obtain ⟨v8, g9, h⟩ := ob_some h
  refine qC (qa rfl (erg (erc rfl (erc (erD ec31_d _) rfl))) eran) (spec_l5Copy_s g9) (sp 2 rfl (evn (rgd (by kernel_rfl) (sd 5 rfl (?_)))))
  obtain ⟨e10, g11, h⟩ := ob_some h
  refine ed rfl (qI rfl zc107_dd g11 (sd 4 rfl (ed rfl (qBs c107_oo [(e10.1, v8)] rfl rfl rfl zc107_oo (?_)))))
  obtain ⟨g12, h⟩ := chk_some h
  exact ed rfl (qA c107_oo y1 [(e10.1, v8)] rfl rfl (flat_len zc107_oo [(e10.1, v8)]) rfl g12 (sd 2 rfl (evdn (hK5 _ (rg (sp 3 rfl (evn (hN _ _ h (okr rfl)))))))))
 ·exact qF rfl g4 (ls_exit (kXB1 (Option.some.inj h) _ (okr rfl)))
def spec_SetRelation_J4 (rec : ((List Y106) × Bool × Int) → Option ((List Y106) × Bool)) (y3 : Int) (x13 : Bool) (x14 : List Y106) : Option ((List Y106) × Bool) := rec (x14, x13, (IntKind.i64.wrap (y3 + 1)))
def spec_SetRelation_J3 (rec : ((List Y106) × Bool × Int) → Option ((List Y106) × Bool)) (a1 : List UInt8) (y3 : Int) (e7 : Y106) (x12 : List Y106) (x13 : Bool) : Option ((List Y106) × Bool) := cond (!(e7.1 == a1)) (chk (List.length x12 + List.length [e7] ≤ lim) (spec_SetRelation_J4 rec y3 x13 (x12 ++ [e7]))) (spec_SetRelation_J4 rec y3 x13 x12)
def spec_SetRelation_J2 (rec : ((List Y106) × Bool × Int) → Option ((List Y106) × Bool)) (a1 : List UInt8) (a2 : Y25) (y1 : List Y106) (y2 : Bool) (y3 : Int) (e7 : Y106) (x11 : Bool) : Option ((List Y106) × Bool) := cond x11 (chk (List.length y1 + List.length [(a1, a2)] ≤ lim) (spec_SetRelation_J3 rec a1 y3 e7 (y1 ++ [(a1, a2)]) true)) (spec_SetRelation_J3 rec a1 y3 e7 y1 y2)
def spec_SetRelation_B1 (a0 : List Y106) (a1 : List UInt8) (a2 : Y25) (rec : ((List Y106) × Bool × Int) → Option ((List Y106) × Bool)) (s : (List Y106) × Bool × Int) : Option ((List Y106) × Bool) := match s with
  | (y1, y2, y3) => cond (decide (y3 < (List.length a0 : Int))) (obind (geti a0 y3) fun e7 => cond (!y2) (spec_SetRelation_J2 rec a1 a2 y1 y2 y3 e7 (!Op.bytesLess e7.1 a1)) (spec_SetRelation_J2 rec a1 a2 y1 y2 y3 e7 false)) (some (y1, y2))
def spec_SetRelation_J6 (a0 : List Y106) (x21 : List Y106) (x24 : Bool) : Option ((List Y106) × Bool) := cond x24 (obind (spec_l6Copy a0) fun v26 => some (v26, false)) (obind (spec_l6Copy x21) fun v28 => some (v28, true))
def spec_SetRelation_J5 (a0 : List Y106) (x21 : List Y106) : Option ((List Y106) × Bool) := obind (spec_IsValidDatabase a0) fun v30 => cond (!v30) (spec_SetRelation_J6 a0 x21 true) (obind (spec_IsValidDatabase x21) fun v33 => spec_SetRelation_J6 a0 x21 (!v33))
def spec_SetRelation (a0 : List Y106) (a1 : List UInt8) (a2 : Y25) : Option ((List Y106) × Bool) := obind (loopF (spec_SetRelation_B1 a0 a1 a2) fz (([] : List Y106), false, 0)) fun o1 => (match o1 with
  | (z2, z3) => (cond (!z3) (chk (List.length z2 + List.length [(a1, a2)] ≤ lim) (spec_SetRelation_J5 a0 (z2 ++ [(a1, a2)]))) (spec_SetRelation_J5 a0 z2)))
theorem spec_SetRelation_s {a0 : List Y106} {a1 : List UInt8} {a2 : Y25} {r : (List Y106) × Bool} (h : spec_SetRelation a0 a1 a2 = some r) : SoundAt Try.prog 106 [.agg [dL c107_dd a0], .str a1, .agg (c26_dd a2)] (.tup [.agg [oL 107 c107_oo r.1], .bool r.2]) := by
 unfold spec_SetRelation at h
 refine st lit106 rfl (rn 3 rfl (ls_seq_k fun K1 hK1 => rn 1 rfl ?_))
 obtain ⟨o1, hl, hr1⟩ := ob_some h
 have kXB1 : ∀ {z2 : List Y106} {z3 : Bool}, (z2, z3) = o1 → Jn K1 [(1, .str a1), (3, .box [dL c107_dd a0]), (5, .box [nI a2.1, dL c31_d a2.2]), (6, .box [oL 107 c107_oo []]), (8, .box [oL 107 c107_dd z2]), (9, .bool z3)] := by
  intro z2 z3 h σ' hk
  subst h
  replace h := hr1
  try dsimp only at h
  refine hK1 _ (lh hk rfl (ls_seq_k fun K20 hK20 => rn 1 rfl ?_))
  have kJ5 : ∀ {x21 : List Y106}, spec_SetRelation_J5 a0 x21 = some r → Jn K20 [(3, .box [dL c107_dd a0]), (6, .box [oL 107 c107_oo []]), (8, .box [oL 107 c107_dd x21])] := by
   intro x21 h σ' hk
   unfold spec_SetRelation_J5 at h
   refine hK20 _ (lh hk rfl (ls_seq_k fun K22 hK22 => rk fun K23 hK23 => ?_))
   have kJ6 : ∀ {x24 : Bool}, spec_SetRelation_J6 a0 x21 x24 = some r → Jn K23 [(3, .box [dL c107_dd a0]), (6, .box [oL 107 c107_oo []]), (8, .box [oL 107 c107_dd x21]), (68, .bool x24)] := by
    intro x24 h σ' hk
    unfold spec_SetRelation_J6 at h
    refine hK23 _ (lh hk rfl ?_)
    rcases cond_some h with ⟨g25, h⟩ | ⟨g25, h⟩
    ·refine qT rfl g25 (rs (sp 1 rfl (?_)))
     obtain ⟨v26, g27, h⟩ := ob_some h
     exact qC (qa rfl (erg (erc (erD ec107_dd _) rfl)) eran) (spec_l6Copy_s g27) (sp 2 rfl (evn (ls_ret ((by cases h; exact ⟨.inl rfl, rfl⟩)))))
    ·refine qF rfl g25 (ls_skip (hK22 _ (rs (sp 1 rfl (?_)))))
     obtain ⟨v28, g29, h⟩ := ob_some h
     exact qC (qa rfl (erg (erc (erD ec107_dd _) rfl)) eran) (spec_l6Copy_s g29) (sp 2 rfl (evn (ls_ret ((by cases h; exact ⟨.inl rfl, rfl⟩)))))
   refine sp 1 rfl (?_)
   obtain ⟨v30, g31, h⟩ := ob_some h
   refine qC (qa rfl (erg (erc (erD ec107_dd _) rfl)) eran) (spec_IsValidDatabase_s g31) (sp 2 rfl (?_))
   rcases cond_some h with ⟨g32, h⟩ | ⟨g32, h⟩
   ·exact qg 64 g32 rfl (sp 4 rfl (evn (kJ6 h _ (okr rfl))))
   ·refine qg 64 g32 rfl (sp 1 rfl (?_))
    obtain ⟨v33, g34, h⟩ := ob_some h
    exact oGR rfl rfl (qC (qa rfl (erg (erc (erD ec107_dd _) rfl)) eran) (spec_IsValidDatabase_s g34) (sp 2 rfl (evn (kJ6 h _ (okr rfl)))))
  rcases cond_some h with ⟨g35, h⟩ | ⟨g35, h⟩
  ·refine qT rfl g35 (rg (sp 5 rfl (qBs c107_dd [(a1, a2)] rfl rfl rfl zc107_dd (?_))))
   obtain ⟨g36, h⟩ := chk_some h
   exact qA c107_dd z2 [(a1, a2)] rfl rfl (flat_len zc107_dd [(a1, a2)]) rfl g36 (sp 2 rfl (evn (kJ5 h _ (okr rfl))))
  ·exact qF rfl g35 (ls_skip (kJ5 h _ (okr rfl)))
 refine ls_rec (fun (s : (List Y106) × Bool × Int) => match s with | (y1, y2, y3) => [(1, .str a1), (3, .box [dL c107_dd a0]), (5, .box [nI a2.1, dL c31_d a2.2]), (6, .box [oL 107 c107_oo []]), (8, .box [oL 107 c107_dd y1]), (9, .bool y2), (10, nI y3)]) _ _ _ _ hl (okr rfl) (fun _ => rfl) ?_
 rintro m ⟨y1, y2, y3⟩ N h hN
 unfold spec_SetRelation_B1 at h
 dsimp only at h
 refine ls_seq_k fun K4 hK4 => rn 1 rfl ?_
 rcases cond_some h with ⟨g5, h⟩ | ⟨g5, h⟩
 ·refine qT rfl g5 (ls_skip (hK4 _ (ls_seq_k fun K6 hK6 => ls_blk (rs (sp 3 rfl (?_))))))
  obtain ⟨e7, g8, h⟩ := ob_some h
  refine qI rfl zc107_dd g8 (sp 3 rfl (evn (ls_seq_k fun K9 hK9 => rk fun K10 hK10 => ?_)))
  have kJ2 : ∀ {x11 : Bool}, spec_SetRelation_J2 (loopF (spec_SetRelation_B1 a0 a1 a2) m) a1 a2 y1 y2 y3 e7 x11 = some o1 → Jn K10 [(1, .str a1), (3, .box [dL c107_dd a0]), (5, .box [nI a2.1, dL c31_d a2.2]), (6, .box [oL 107 c107_oo []]), (8, .box [oL 107 c107_dd y1]), (9, .bool y2), (10, nI y3), (11, .box [.str e7.1, nI e7.2.1, dL c31_d e7.2.2]), (32, .bool x11)] := by
   intro x11 h σ' hk
   unfold spec_SetRelation_J2 at h
   refine hK10 _ (lh hk rfl ?_)
   have kJ3 : ∀ {x12 : List Y106} {x13 : Bool}, spec_SetRelation_J3 (loopF (spec_SetRelation_B1 a0 a1 a2) m) a1 y3 e7 x12 x13 = some o1 → Jn K9 [(1, .str a1), (3, .box [dL c107_dd a0]), (5, .box [nI a2.1, dL c31_d a2.2]), (6, .box [oL 107 c107_oo []]), (8, .box [oL 107 c107_dd x12]), (9, .bool x13), (10, nI y3), (11, .box [.str e7.1, nI e7.2.1, dL c31_d e7.2.2])] := by
    intro x12 x13 h σ' hk
    unfold spec_SetRelation_J3 at h
    refine hK9 _ (lh hk rfl (rn 1 rfl ?_))
    have kJ4 : ∀ {x14 : List Y106}, spec_SetRelation_J4 (loopF (spec_SetRelation_B1 a0 a1 a2) m) y3 x13 x14 = some o1 → Jn K6 [(1, .str a1), (3, .box [dL c107_dd a0]), (5, .box [nI a2.1, dL c31_d a2.2]), (6, .box [oL 107 c107_oo []]), (8, .box [oL 107 c107_dd x14]), (9, .bool x13), (10, nI y3)] := by
     intro x14 h σ' hk
     unfold spec_SetRelation_J4 at h
     exact hK6 _ (lh hk rfl (rg (sp 3 rfl (evn (hN _ _ h (okr rfl))))))
    rcases cond_some h with ⟨g15, h⟩ | ⟨g15, h⟩
    ·refine qT rfl g15 (rg (sp 3 rfl (qBs c107_dd [e7] rfl rfl rfl zc107_dd (?_))))
     obtain ⟨g16, h⟩ := chk_some h
     exact qA c107_dd x12 [e7] rfl rfl (flat_len zc107_dd [e7]) rfl g16 (sp 2 rfl (evn (kJ4 h _ (okr rfl))))
    ·exact qF rfl g15 (ls_skip (kJ4 h _ (okr rfl)))
   rcases cond_some h with ⟨g17, h⟩ | ⟨g17, h⟩
   ·refine qT rfl g17 (rs (sp 5 rfl (qBs c107_dd [(a1, a2)] rfl rfl rfl zc107_dd (?_))))
    obtain ⟨g18, h⟩ := chk_some h
    exact qA c107_dd y1 [(a1, a2)] rfl rfl (flat_len zc107_dd [(a1, a2)]) rfl g18 (sp 2 rfl (evn (rg (sp 1 rfl (evn (kJ3 h _ (okr rfl)))))))
   ·exact qF rfl g17 (ls_skip (kJ3 h _ (okr rfl)))
  refine sp 3 rfl (?_)
  rcases cond_some h with ⟨g19, h⟩ | ⟨g19, h⟩
  ·exact qg 27 g19 rfl (sp 5 rfl (evn (kJ2 h _ (okr rfl))))
  ·exact qg 27 g19 rfl (sp 5 rfl (evn (kJ2 h _ (okr rfl))))
 ·exact qF rfl g5 (ls_exit (kXB1 (Option.some.inj h) _ (okr rfl)))
def spec_l5Place_B1 (a0 : Y25) (a1 : List Int) (rec : (Int × Int) → Option (Int)) (s : Int × Int) : Option (Int) := match s with
  | (y1, y2) => cond (decide (y1 < y2)) (obind (geti a0.2 (IntKind.i64.wrap (Int.tdiv (IntKind.i64.wrap (y1 + y2)) 2))) fun e5 => obind (spec_CompareRows e5 a1) fun v7 => cond (decide (v7 < 0)) (rec ((IntKind.i64.wrap ((IntKind.i64.wrap (Int.tdiv (IntKind.i64.wrap (y1 + y2)) 2)) + 1)), y2)) (rec (y1, (IntKind.i64.wrap (Int.tdiv (IntKind.i64.wrap (y1 + y2)) 2))))) (some y1)
def spec_l5Place_J2 (z2 : Int) (x11 : Bool) : Option (Int × Bool) := some (z2, x11)
def spec_l5Place (a0 : Y25) (a1 : List Int) : Option (Int × Bool) := obind (loopF (spec_l5Place_B1 a0 a1) fz (0, (List.length a0.2 : Int))) fun z2 => cond (decide (z2 < (List.length a0.2 : Int))) (obind (geti a0.2 z2) fun e13 => obind (spec_CompareRows e13 a1) fun v15 => spec_l5Place_J2 z2 (v15 == 0)) (spec_l5Place_J2 z2 false)
theorem spec_l5Place_s {a0 : Y25} {a1 : List Int} {r : Int × Bool} (h : spec_l5Place a0 a1 = some r) : SoundAt Try.prog 193 [.agg (c26_dd a0), dL ci64 a1] (.tup [nI r.1, .bool r.2]) := by
 unfold spec_l5Place at h
 refine st lit193 rfl (rn 3 rfl (ls_seq_k fun K1 hK1 => ?_))
 obtain ⟨o1, hl, hr1⟩ := ob_some h
 have kXB1 : ∀ {z2 : Int}, z2 = o1 → Jn K1 [(1, dL ci64 a1), (2, .box [nI a0.1, dL c31_d a0.2]), (6, nI z2)] := by
  intro z2 h σ' hk
  subst h
  replace h := hr1
  try dsimp only at h
  refine hK1 _ (lh hk rfl (rk fun K10 hK10 => ?_))
  have kJ2 : ∀ {x11 : Bool}, spec_l5Place_J2 z2 x11 = some r → Jn K10 [(4, nI z2), (5, .bool x11)] := by
   intro x11 h σ' hk
   unfold spec_l5Place_J2 at h
   exact hK10 _ (lh hk rfl (ls_ret ((by cases h; exact ⟨.inl rfl, rfl⟩))))
  refine sp 7 rfl (?_)
  rcases cond_some h with ⟨g12, h⟩ | ⟨g12, h⟩
  ·refine qg 36 g12 rfl (sp 3 rfl (?_))
   obtain ⟨e13, g14, h⟩ := ob_some h
   refine oGR rfl rfl (qI rfl zc31_d g14 (sp 2 rfl (?_)))
   obtain ⟨v15, g16, h⟩ := ob_some h
   exact oGR rfl rfl (qC (qa rfl (erD eci64 _) (qa rfl (erD eci64 _) eran)) (spec_CompareRows_s g16) (sp 4 rfl (evn (kJ2 h _ (okr rfl)))))
  ·exact qg 36 g12 rfl (sp 11 rfl (evn (kJ2 h _ (okr rfl))))
 refine ls_rec (fun (s : Int × Int) => match s with | (y1, y2) => [(1, dL ci64 a1), (2, .box [nI a0.1, dL c31_d a0.2]), (6, nI y1), (7, nI y2)]) _ _ _ _ hl (okr rfl) (fun _ => rfl) ?_
 rintro m ⟨y1, y2⟩ N h hN
 unfold spec_l5Place_B1 at h
 dsimp only at h
 refine ls_seq_k fun K3 hK3 => rn 1 rfl ?_
 rcases cond_some h with ⟨g4, h⟩ | ⟨g4, h⟩
 ·refine qT rfl g4 (ls_skip (hK3 _ (ls_blk (rn 1 rfl (rs (sp 3 rfl (?_)))))))
  obtain ⟨e5, g6, h⟩ := ob_some h
  refine qI rfl zc31_d g6 (sp 2 rfl (?_))
  obtain ⟨v7, g8, h⟩ := ob_some h
  refine qC (qa rfl (erD eci64 _) (qa rfl (erD eci64 _) eran)) (spec_CompareRows_s g8) (sp 1 rfl (evn ?_))
  rcases cond_some h with ⟨g9, h⟩ | ⟨g9, h⟩
  ·exact qT rfl g9 (rg (sp 3 rfl (evn (hN _ _ h (okr rfl)))))
  ·exact qF rfl g9 (rg (sp 2 rfl (evn (hN _ _ h (okr rfl)))))
 ·exact qF rfl g4 (ls_exit (kXB1 (Option.some.inj h) _ (okr rfl)))
def spec_Difference_J2 (rec : ((List (List Int)) × Int) → Option ((List (List Int)))) (y2 : Int) (x18 : List (List Int)) : Option ((List (List Int))) := rec (x18, (IntKind.i64.wrap (y2 + 1)))
def spec_Difference_B1 (a0 : Y25) (a1 : Y25) (rec : ((List (List Int)) × Int) → Option ((List (List Int)))) (s : (List (List Int)) × Int) : Option ((List (List Int))) := match s with
  | (y1, y2) => cond (decide (y2 < (List.length a0.2 : Int))) (obind (geti a0.2 y2) fun e14 => obind (spec_l5Place a1 e14) fun v16 => cond (!v16.2) (obind (geti a0.2 y2) fun e20 => chk (List.length ([] : List Int) + List.length e20 ≤ lim) (chk (List.length y1 + List.length ([([] : List Int) ++ e20]) ≤ lim) (spec_Difference_J2 rec y2 (y1 ++ ([([] : List Int) ++ e20]))))) (spec_Difference_J2 rec y2 y1)) (some y1)
def spec_Difference (a0 : Y25) (a1 : Y25) : Option (Y25 × Bool) := obind (spec_IsValidRelation a0) fun v2 => cond (!v2) (some ((0, []), false)) (obind (spec_IsValidRelation a1) fun v5 => cond (!v5) (some ((0, []), false)) (cond (a0.1 != a1.1) (some ((0, []), false)) (obind (loopF (spec_Difference_B1 a0 a1) fz (([] : List (List Int)), 0)) fun z10 => some ((a0.1, z10), true))))
theorem spec_Difference_s {a0 : Y25} {a1 : Y25} {r : Y25 × Bool} (h : spec_Difference a0 a1 = some r) : SoundAt Try.prog 124 [.agg (c26_dd a0), .agg (c26_dd a1)] (.tup [.agg (c26_oo r.1), .bool r.2]) := by
 unfold spec_Difference at h
 refine st lit124 rfl (rn 1 rfl (ls_seq_k fun K1 hK1 => rs (sp 1 rfl (?_))))
 obtain ⟨v2, g3, h⟩ := ob_some h
 refine qC (qa rfl (erg (erc rfl (erc (erD ec31_d _) rfl))) eran) (spec_IsValidRelation_s g3) (sp 2 rfl (?_))
 rcases cond_some h with ⟨g4, h⟩ | ⟨g4, h⟩
 ·exact qg 13 g4 rfl (sp 11 rfl (evn (qT rfl rfl (rn 1 rfl (ls_ret ((by cases h; exact ⟨.inl rfl, rfl⟩)))))))
 ·refine qg 13 g4 rfl (sp 1 rfl (?_))
  obtain ⟨v5, g6, h⟩ := ob_some h
  refine oGR rfl rfl (qC (qa rfl (erg (erc rfl (erc (erD ec31_d _) rfl))) eran) (spec_IsValidRelation_s g6) (sp 3 rfl (?_)))
  rcases cond_some h with ⟨g7, h⟩ | ⟨g7, h⟩
  ·exact qg 18 g7 rfl (sp 6 rfl (evn (qk [2, 3, 4, 24] rfl (qT rfl rfl (rn 1 rfl (ls_ret ((by cases h; exact ⟨.inl rfl, rfl⟩))))))))
  ·refine qg 18 g7 rfl (sp 6 rfl (evn ?_))
   rcases cond_some h with ⟨g8, h⟩ | ⟨g8, h⟩
   ·exact qT rfl g8 (rn 1 rfl (ls_ret ((by cases h; exact ⟨.inl rfl, rfl⟩))))
   ·refine qF rfl g8 (ls_skip (hK1 _ (rn 1 rfl (ls_seq_k fun K9 hK9 => rn 1 rfl ?_))))
    obtain ⟨o1, hl, hr1⟩ := ob_some h
    have kXB1 : ∀ {z10 : List (List Int)}, z10 = o1 → Jn K9 [(4, .box [nI 0, oL 31 c31_o []]), (6, .box [nI a0.1, oL 31 c31_o z10])] := by
     intro z10 h σ' hk
     subst h
     replace h := hr1
     try dsimp only at h
     exact hK9 _ (lh hk rfl (rn 1 rfl (ls_ret ((by cases h; exact ⟨.inl rfl, rfl⟩)))))
    refine ls_rec (fun (s : (List (List Int)) × Int) => match s with | (y1, y2) => [(2, .box [nI a0.1, dL c31_d a0.2]), (3, .box [nI a1.1, dL c31_d a1.2]), (4, .box [nI 0, oL 31 c31_o []]), (6, .box [nI a0.1, oL 31 c31_o y1]), (7, nI y2)]) _ _ _ _ hl (okr rfl) (fun _ => rfl) ?_
    rintro m ⟨y1, y2⟩ N h hN
    unfold spec_Difference_B1 at h
    dsimp only at h
    refine ls_seq_k fun K11 hK11 => rn 1 rfl ?_
    rcases cond_some h with ⟨g12, h⟩ | ⟨g12, h⟩
    ·refine qT rfl g12 (ls_skip (hK11 _ (ls_seq_k fun K13 hK13 => ls_blk (rd (by kernel_rfl) (sd 4 rfl (?_))))))
     obtain ⟨e14, g15, h⟩ := ob_some h
     refine ed rfl (qI rfl zc31_d g15 (sd 1 rfl (?_)))
     obtain ⟨v16, g17, h⟩ := ob_some h
     refine ed rfl (qC (qa rfl (erg (erc rfl (erc (erD ec31_d _) rfl))) (qa rfl (erD eci64 _) eran)) (spec_l5Place_s g17) (sd 5 rfl (evdn (rn 1 rfl ?_))))
     have kJ2 : ∀ {x18 : List (List Int)}, spec_Difference_J2 (loopF (spec_Difference_B1 a0 a1) m) y2 x18 = some o1 → Jn K13 [(2, .box [nI a0.1, dL c31_d a0.2]), (3, .box [nI a1.1, dL c31_d a1.2]), (4, .box [nI 0, oL 31 c31_o []]), (6, .box [nI a0.1, oL 31 c31_o x18]), (7, nI y2)] := by
      intro x18 h σ' hk
      unfold spec_Difference_J2 at h
      exact hK13 _ (lh hk rfl (rg (sp 3 rfl (evn (hN _ _ h (okr rfl))))))
     rcases cond_some h with ⟨g19, h⟩ | ⟨g19, h⟩
     ·refine qT rfl g19 (rgd (by kernel_rfl) (sd 2 rfl (ed rfl (qBs ci64 [] rfl rfl rfl zci64 (sd 3 rfl (?_))))))
      obtain ⟨e20, g21, h⟩ := ob_some h
      refine ed rfl (qI rfl zc31_d g21 (sd 1 rfl (?_)))
      obtain ⟨g22, h⟩ := chk_some h
      refine ed rfl (qA ci64 ([] : List Int) e20 rfl rfl (flat_len zci64 e20) (map_dg (fun _ => rfl) _) g22 (ed rfl (qBs c31_o [([] : List Int) ++ e20] rfl rfl rfl zc31_o (?_))))
      obtain ⟨g23, h⟩ := chk_some h
      exact ed rfl (qA c31_o y1 ([([] : List Int) ++ e20]) rfl rfl (flat_len zc31_o ([([] : List Int) ++ e20])) rfl g23 (sd 2 rfl (evdn (kJ2 h _ (okr rfl)))))
     ·exact qF rfl g19 (ls_skip (kJ2 h _ (okr rfl)))
    ·exact qF rfl g12 (ls_exit (kXB1 (Option.some.inj h) _ (okr rfl)))
def spec_l26Fits_J1 (x4 : Bool) : Option (Bool) := some x4
def spec_l26Fits (a0 : List Y106) (a1 : Y71) : Option (Bool) := obind (spec_LookupRelation a0 a1.1) fun v1 => cond v1.2 (obind (spec_IsValidRelation a1.2.1) fun v6 => cond v6 (obind (spec_IsValidRelation a1.2.2) fun v9 => cond v9 (cond (a1.2.1.1 == v1.1.1) (spec_l26Fits_J1 (a1.2.2.1 == v1.1.1)) (spec_l26Fits_J1 false)) (spec_l26Fits_J1 false)) (spec_l26Fits_J1 false)) (spec_l26Fits_J1 false)
theorem spec_l26Fits_s {a0 : List Y106} {a1 : Y71} {r : Bool} (h : spec_l26Fits a0 a1 = some r) : SoundAt Try.prog 192 [.agg [dL c107_dd a0], .agg (c72_dddd a1)] (.bool r) := by
 unfold spec_l26Fits at h
 refine st lit192 rfl (rn 1 rfl (rs (sp 3 rfl (?_))))
 obtain ⟨v1, g2, h⟩ := ob_some h
 refine qC (qa rfl (erg (erc (erD ec107_dd _) rfl)) (qs rfl eran)) (spec_LookupRelation_s g2) (sp 6 rfl (evn (rk fun K3 hK3 => ?_)))
 have kJ1 : ∀ {x4 : Bool}, spec_l26Fits_J1 x4 = some r → Jn K3 [(4, .bool x4)] := by
  intro x4 h σ' hk
  unfold spec_l26Fits_J1 at h
  exact hK3 _ (lh hk rfl (ls_ret ((by cases h; exact ⟨.inl rfl, rfl⟩))))
 refine sp 2 rfl (?_)
 rcases cond_some h with ⟨g5, h⟩ | ⟨g5, h⟩
 ·refine qg 15 g5 rfl (sp 2 rfl (?_))
  obtain ⟨v6, g7, h⟩ := ob_some h
  refine oGR rfl rfl (qC (qa rfl (erg (erc rfl (erc (erD ec31_d _) rfl))) eran) (spec_IsValidRelation_s g7) (sp 2 rfl (?_)))
  rcases cond_some h with ⟨g8, h⟩ | ⟨g8, h⟩
  ·refine qg 20 g8 rfl (sp 2 rfl (?_))
   obtain ⟨v9, g10, h⟩ := ob_some h
   refine oGR rfl rfl (qC (qa rfl (erg (erc rfl (erc (erD ec31_d _) rfl))) eran) (spec_IsValidRelation_s g10) (sp 2 rfl (?_)))
   rcases cond_some h with ⟨g11, h⟩ | ⟨g11, h⟩
   ·refine qg 25 g11 rfl (sp 8 rfl (?_))
    rcases cond_some h with ⟨g12, h⟩ | ⟨g12, h⟩
    ·exact qg 33 g12 rfl (sp 8 rfl (evn (kJ1 h _ (okr rfl))))
    ·exact qg 33 g12 rfl (sp 8 rfl (evn (kJ1 h _ (okr rfl))))
   ·exact qg 25 g11 rfl (sp 16 rfl (evn (kJ1 h _ (okr rfl))))
  ·exact qg 20 g8 rfl (sp 21 rfl (evn (kJ1 h _ (okr rfl))))
 ·exact qg 15 g5 rfl (sp 26 rfl (evn (kJ1 h _ (okr rfl))))
def spec_NormalizeDelta (a0 : List Y106) (a1 : Y71) : Option (Y71 × Bool) := obind (spec_l26Fits a0 a1) fun v2 => cond (!v2) (some (([], (0, []), (0, [])), false)) (obind (spec_LookupRelation a0 a1.1) fun v5 => obind (spec_Difference a1.2.1 v5.1) fun v7 => obind (spec_Difference a1.2.2 a1.2.1) fun v9 => obind (spec_Difference v9.1 v5.1) fun v11 => obind (spec_Difference v9.1 v11.1) fun v13 => some ((a1.1, v7.1, v13.1), true))
theorem spec_NormalizeDelta_s {a0 : List Y106} {a1 : Y71} {r : Y71 × Bool} (h : spec_NormalizeDelta a0 a1 = some r) : SoundAt Try.prog 123 [.agg [dL c107_dd a0], .agg (c72_dddd a1)] (.tup [.agg (c72_oooo r.1), .bool r.2]) := by
 unfold spec_NormalizeDelta at h
 refine st lit123 rfl (rn 1 rfl (ls_seq_k fun K1 hK1 => rs (sp 2 rfl (?_))))
 obtain ⟨v2, g3, h⟩ := ob_some h
 refine qC (qa rfl (erg (erc (erD ec107_dd _) rfl)) (qa rfl (erg (erc rfl (erc rfl (erc (erD ec31_d _) (erc rfl (erc (erD ec31_d _) rfl)))))) eran)) (spec_l26Fits_s g3) (sp 1 rfl (evn ?_))
 rcases cond_some h with ⟨g4, h⟩ | ⟨g4, h⟩
 ·exact qT rfl g4 (rn 1 rfl (ls_ret ((by cases h; exact ⟨.inl rfl, rfl⟩))))
 ·refine qF rfl g4 (ls_skip (hK1 _ (rs (sp 3 rfl (?_)))))
  obtain ⟨v5, g6, h⟩ := ob_some h
  refine qC (qa rfl (erg (erc (erD ec107_dd _) rfl)) (qs rfl eran)) (spec_LookupRelation_s g6) (sp 6 rfl (evn (rs (sp 3 rfl (?_)))))
  obtain ⟨v7, g8, h⟩ := ob_some h
  refine qC (qa rfl (erg (erc rfl (erc (erD ec31_d _) rfl))) (qa rfl (erg (erc rfl (erc (erD ec31_o _) rfl))) eran)) (spec_Difference_s g8) (sp 6 rfl (evn (qk [3, 4, 6, 8] rfl (rs (sp 4 rfl (?_))))))
  obtain ⟨v9, g10, h⟩ := ob_some h
  refine qC (qa rfl (erg (erc rfl (erc (erD ec31_d _) rfl))) (qa rfl (erg (erc rfl (erc (erD ec31_d _) rfl))) eran)) (spec_Difference_s g10) (sp 6 rfl (evn (rs (sp 2 rfl (?_)))))
  obtain ⟨v11, g12, h⟩ := ob_some h
  refine qC (qa rfl (erg (erc rfl (erc (erD ec31_o _) rfl))) (qa rfl (erg (erc rfl (erc (erD ec31_o _) rfl))) eran)) (spec_Difference_s g12) (sp 6 rfl (evn (rs (sp 2 rfl (?_)))))
  obtain ⟨v13, g14, h⟩ := ob_some h
  exact qC (qa rfl (erg (erc rfl (erc (erD ec31_o _) rfl))) (qa rfl (erg (erc rfl (erc (erD ec31_o _) rfl))) eran)) (spec_Difference_s g14) (sp 6 rfl (evn (rn 1 rfl (ls_ret ((by cases h; exact ⟨.inl rfl, rfl⟩))))))
def spec_l5Sort_J5 (rec : ((List (List Int)) × (List (List Int)) × (List (List Int))) → Option ((List (List Int)))) (y3 : List (List Int)) (x18 : List (List Int)) (x19 : List (List Int)) (x20 : List Int) (x22 : Bool) : Option ((List (List Int))) := cond x22 (chk (List.length y3 + List.length [x20] ≤ lim) (rec (x18, x19, (y3 ++ [x20])))) (rec (x18, x19, y3))
def spec_l5Sort_J4 (rec : ((List (List Int)) × (List (List Int)) × (List (List Int))) → Option ((List (List Int)))) (y3 : List (List Int)) (x18 : List (List Int)) (x19 : List (List Int)) (x20 : List Int) : Option ((List (List Int))) := cond ((List.length y3 : Int) == 0) (spec_l5Sort_J5 rec y3 x18 x19 x20 true) (obind (geti y3 (IntKind.i64.wrap ((List.length y3 : Int) - 1))) fun e26 => obind (spec_CompareRows e26 x20) fun v28 => spec_l5Sort_J5 rec y3 x18 x19 x20 (v28 != 0))
def spec_l5Sort_J3 (rec : ((List (List Int)) × (List (List Int)) × (List (List Int))) → Option ((List (List Int)))) (y1 : List (List Int)) (y2 : List (List Int)) (y3 : List (List Int)) (x16 : Int) : Option ((List (List Int))) := cond (decide (0 < x16)) (obind (geti y2 0) fun e31 => chk ((0 : Int) ≤ 1 ∧ 1 ≤ (List.length y2 : Int) ∧ (List.length y2 : Int) ≤ (List.length y2 : Int)) (spec_l5Sort_J4 rec y3 y1 (subl y2 1 (List.length y2 : Int)) e31)) (obind (geti y1 0) fun e34 => chk ((0 : Int) ≤ 1 ∧ 1 ≤ (List.length y1 : Int) ∧ (List.length y1 : Int) ≤ (List.length y1 : Int)) (spec_l5Sort_J4 rec y3 (subl y1 1 (List.length y1 : Int)) y2 e34))
def spec_l5Sort_J2 (rec : ((List (List Int)) × (List (List Int)) × (List (List Int))) → Option ((List (List Int)))) (y1 : List (List Int)) (y2 : List (List Int)) (y3 : List (List Int)) (x13 : Bool) : Option ((List (List Int))) := cond x13 (cond ((List.length y1 : Int) == 0) (spec_l5Sort_J3 rec y1 y2 y3 1) (cond (decide (0 < (List.length y2 : Int))) (obind (geti y1 0) fun e39 => obind (geti y2 0) fun e41 => obind (spec_CompareRows e39 e41) fun v43 => spec_l5Sort_J3 rec y1 y2 y3 v43) (spec_l5Sort_J3 rec y1 y2 y3 (-1)))) (some y3)
def spec_l5Sort_B1  (rec : ((List (List Int)) × (List (List Int)) × (List (List Int))) → Option ((List (List Int)))) (s : (List (List Int)) × (List (List Int)) × (List (List Int))) : Option ((List (List Int))) := match s with
  | (y1, y2, y3) => cond (decide (0 < (List.length y1 : Int))) (spec_l5Sort_J2 rec y1 y2 y3 true) (spec_l5Sort_J2 rec y1 y2 y3 (decide (0 < (List.length y2 : Int))))
def spec_l5Sort_R (rec : ((List (List Int))) → Option ((List (List Int)))) (a0 : (List (List Int))) : Option ((List (List Int))) := cond (decide ((List.length a0 : Int) < 2)) (some a0) (chk ((0 : Int) ≤ 0 ∧ 0 ≤ IntKind.i64.wrap (Int.tdiv (List.length a0 : Int) 2) ∧ IntKind.i64.wrap (Int.tdiv (List.length a0 : Int) 2) ≤ (List.length a0 : Int)) (obind (rec (subl a0 0 (IntKind.i64.wrap (Int.tdiv (List.length a0 : Int) 2)))) fun v4 => chk ((0 : Int) ≤ IntKind.i64.wrap (Int.tdiv (List.length a0 : Int) 2) ∧ IntKind.i64.wrap (Int.tdiv (List.length a0 : Int) 2) ≤ (List.length a0 : Int) ∧ (List.length a0 : Int) ≤ (List.length a0 : Int)) (obind (rec (subl a0 (IntKind.i64.wrap (Int.tdiv (List.length a0 : Int) 2)) (List.length a0 : Int))) fun v7 => obind (loopF spec_l5Sort_B1 fz (v4, v7, ([] : List (List Int)))) fun z10 => some z10)))
def spec_l5Sort (a0 : List (List Int)) : Option ((List (List Int))) := loopF spec_l5Sort_R fz a0
theorem spec_l5Sort_s {a0 : List (List Int)} {r : (List (List Int))} (h : spec_l5Sort a0 = some r) : SoundAt Try.prog 222 [dL c31_d a0] (dL c31_d r) := by
 suffices key : ∀ m (a0 : List (List Int)) (r : (List (List Int))), loopF spec_l5Sort_R m a0 = some r → SoundAt Try.prog 222 [dL c31_d a0] (dL c31_d r) from key fz a0 r h
 intro m
 induction m with
 | zero => intro a0 r h; cases h
 | succ m ih0 =>
  intro a0 r h
  have ih : ∀ {a0 : List (List Int)} {r : (List (List Int))}, loopF spec_l5Sort_R m a0 = some r → SoundAt Try.prog 222 [dL c31_d a0] (dL c31_d r) := fun h => ih0 _ _ h
  change spec_l5Sort_R (loopF spec_l5Sort_R m) a0 = some r at h
  unfold spec_l5Sort_R at h
  try dsimp only at h
  refine st lit222 rfl (rn 1 rfl (ls_seq_k fun K1 hK1 => rn 1 rfl ?_))
  rcases cond_some h with ⟨g2, h⟩ | ⟨g2, h⟩
  ·exact qT rfl g2 (rn 1 rfl (ls_ret ((by cases h; exact ⟨.inl rfl, rfl⟩))))
  ·refine qF rfl g2 (ls_skip (hK1 _ (rn 1 rfl (rs (sp 2 rfl (?_))))))
   obtain ⟨g3, h⟩ := chk_some h
   refine qSl rfl zc31_d g3 (?_)
   obtain ⟨v4, g5, h⟩ := ob_some h
   refine qC (qa rfl (erD ec31_d _) eran) (ih g5) (sp 1 rfl (evn (rs (sp 2 rfl (?_)))))
   obtain ⟨g6, h⟩ := chk_some h
   refine qSl rfl zc31_d g6 (?_)
   obtain ⟨v7, g8, h⟩ := ob_some h
   refine qC (qa rfl (erD ec31_d _) eran) (ih g8) (sp 1 rfl (evn (qk [4, 5] rfl (rs (qBs c31_o [] rfl rfl rfl zc31_o (sp 1 rfl (evn (ls_seq_k fun K9 hK9 => ?_))))))))
   obtain ⟨o1, hl, hr1⟩ := ob_some h
   have kXB1 : ∀ {z10 : List (List Int)}, z10 = o1 → Jn K9 [(6, oL 31 c31_d z10)] := by
    intro z10 h σ' hk
    subst h
    replace h := hr1
    try dsimp only at h
    exact hK9 _ (lh hk rfl (rn 1 rfl (ls_keep [(2, dL c31_d z10)] ⟨(ke rfl (erO ec31_d _)), trivial⟩ rfl (ls_ret ((by cases h; exact ⟨.inl rfl, rfl⟩))))))
   refine ls_rec (fun (s : (List (List Int)) × (List (List Int)) × (List (List Int))) => match s with | (y1, y2, y3) => [(4, dL c31_d y1), (5, dL c31_d y2), (6, oL 31 c31_d y3)]) _ _ _ _ hl (okr rfl) (fun _ => rfl) ?_
   rintro m ⟨y1, y2, y3⟩ N h hN
   unfold spec_l5Sort_B1 at h
   dsimp only at h
   refine ls_seq_k fun K11 hK11 => rk fun K12 hK12 => ?_
   have kJ2 : ∀ {x13 : Bool}, spec_l5Sort_J2 (loopF spec_l5Sort_B1 m) y1 y2 y3 x13 = some o1 → Jn K12 [(4, dL c31_d y1), (5, dL c31_d y2), (6, oL 31 c31_d y3), (32, .bool x13)] := by
    intro x13 h σ' hk
    unfold spec_l5Sort_J2 at h
    refine hK12 _ (lh hk rfl ?_)
    rcases cond_some h with ⟨g14, h⟩ | ⟨g14, h⟩
    ·refine qT rfl g14 (ls_skip (hK11 _ (ls_blk (rn 1 rfl (ls_seq_k fun K15 hK15 => ls_blk (rn 1 rfl ?_))))))
     have kJ3 : ∀ {x16 : Int}, spec_l5Sort_J3 (loopF spec_l5Sort_B1 m) y1 y2 y3 x16 = some o1 → Jn K15 [(4, dL c31_d y1), (5, dL c31_d y2), (6, oL 31 c31_d y3), (7, nI x16)] := by
      intro x16 h σ' hk
      unfold spec_l5Sort_J3 at h
      refine hK15 _ (lh hk rfl (rs (qBs ci64 [] rfl rfl rfl zci64 (sp 1 rfl (evn (ls_seq_k fun K17 hK17 => rn 1 rfl ?_))))))
      have kJ4 : ∀ {x18 : List (List Int)} {x19 : List (List Int)} {x20 : List Int}, spec_l5Sort_J4 (loopF spec_l5Sort_B1 m) y3 x18 x19 x20 = some o1 → Jn K17 [(4, dL c31_d x18), (5, dL c31_d x19), (6, oL 31 c31_d y3), (8, dL ci64 x20)] := by
       intro x18 x19 x20 h σ' hk
       unfold spec_l5Sort_J4 at h
       refine hK17 _ (lh hk rfl (rk fun K21 hK21 => ?_))
       have kJ5 : ∀ {x22 : Bool}, spec_l5Sort_J5 (loopF spec_l5Sort_B1 m) y3 x18 x19 x20 x22 = some o1 → Jn K21 [(4, dL c31_d x18), (5, dL c31_d x19), (6, oL 31 c31_d y3), (8, dL ci64 x20), (74, .bool x22)] := by
        intro x22 h σ' hk
        unfold spec_l5Sort_J5 at h
        refine hK21 _ (lh hk rfl ?_)
        rcases cond_some h with ⟨g23, h⟩ | ⟨g23, h⟩
        ·refine qT rfl g23 (rg (sp 2 rfl (qBs c31_d [x20] rfl rfl rfl zc31_d (?_))))
         obtain ⟨g24, h⟩ := chk_some h
         exact qA c31_d y3 [x20] rfl rfl (flat_len zc31_d [x20]) rfl g24 (sp 1 rfl (evn (hN _ _ h (okr rfl))))
        ·exact qF rfl g23 (ls_skip (hN _ _ h (okr rfl)))
       refine sp 4 rfl (?_)
       rcases cond_some h with ⟨g25, h⟩ | ⟨g25, h⟩
       ·exact qg 64 g25 rfl (sp 10 rfl (evn (kJ5 h _ (okr rfl))))
       ·refine qg 64 g25 rfl (sp 4 rfl (?_))
        obtain ⟨e26, g27, h⟩ := ob_some h
        refine oGR rfl rfl (qI rfl zc31_d g27 (sp 2 rfl (?_)))
        obtain ⟨v28, g29, h⟩ := ob_some h
        exact oGR rfl rfl (qC (qa rfl (erD eci64 _) (qa rfl (erD eci64 _) eran)) (spec_CompareRows_s g29) (sp 2 rfl (evn (kJ5 h _ (okr rfl)))))
      rcases cond_some h with ⟨g30, h⟩ | ⟨g30, h⟩
      ·refine qT rfl g30 (rs (sp 1 rfl (?_)))
       obtain ⟨e31, g32, h⟩ := ob_some h
       refine qI rfl zc31_d g32 (sp 2 rfl (evn (qk [4, 5, 6, 8] rfl (rg (sp 1 rfl (?_))))))
       obtain ⟨g33, h⟩ := chk_some h
       exact qSl rfl zc31_d g33 (sp 1 rfl (evn (kJ4 h _ (okr rfl))))
      ·refine qF rfl g30 (rs (sp 1 rfl (?_)))
       obtain ⟨e34, g35, h⟩ := ob_some h
       refine qI rfl zc31_d g35 (sp 2 rfl (evn (rg (sp 1 rfl (?_)))))
       obtain ⟨g36, h⟩ := chk_some h
       exact qSl rfl zc31_d g36 (sp 1 rfl (evn (kJ4 h _ (okr rfl))))
     rcases cond_some h with ⟨g37, h⟩ | ⟨g37, h⟩
     ·exact qT rfl g37 (rg (sp 1 rfl (evn (kJ3 h _ (okr rfl)))))
     ·refine qF rfl g37 (rn 1 rfl ?_)
      rcases cond_some h with ⟨g38, h⟩ | ⟨g38, h⟩
      ·refine qT rfl g38 (rgd (by kernel_rfl) (sd 1 rfl (?_)))
       obtain ⟨e39, g40, h⟩ := ob_some h
       refine ed rfl (qI rfl zc31_d g40 (sd 2 rfl (?_)))
       obtain ⟨e41, g42, h⟩ := ob_some h
       refine ed rfl (qI rfl zc31_d g42 (sd 1 rfl (?_)))
       obtain ⟨v43, g44, h⟩ := ob_some h
       exact ed rfl (qC (qa rfl (erD eci64 _) (qa rfl (erD eci64 _) eran)) (spec_CompareRows_s g44) (sd 1 rfl (evdn (kJ3 h _ (okr rfl)))))
      ·exact qF rfl g38 (rg (sp 1 rfl (evn (kJ3 h _ (okr rfl)))))
    ·exact qF rfl g14 (ls_exit (kXB1 (Option.some.inj h) _ (okr rfl)))
   refine sp 4 rfl (?_)
   rcases cond_some h with ⟨g45, h⟩ | ⟨g45, h⟩
   ·exact qg 28 g45 rfl (sp 4 rfl (evn (kJ2 h _ (okr rfl))))
   ·exact qg 28 g45 rfl (sp 4 rfl (evn (kJ2 h _ (okr rfl))))
def spec_NewRelation_B1 (a0 : Int) (a1 : List (List Int)) (rec : Int → Option (Sum (Unit) (Y25 × Bool))) (y1 : Int) : Option (Sum (Unit) (Y25 × Bool)) := cond (decide (y1 < (List.length a1 : Int))) (obind (geti a1 y1) fun e5 => cond ((List.length e5 : Int) != a0) (some (.inr ((0, []), false))) (obind (geti a1 y1) fun e8 => obind (spec_AreValidValues e8) fun v10 => cond (!v10) (some (.inr ((0, []), false))) (rec (IntKind.i64.wrap (y1 + 1))))) (some (.inl ()))
def spec_NewRelation (a0 : Int) (a1 : List (List Int)) : Option (Y25 × Bool) := obind (loopF (spec_NewRelation_B1 a0 a1) fz 0) fun o1 => (match o1 with
  | .inl _ => (obind (spec_l5Sort a1) fun v13 => obind (spec_l5Copy (a0, v13)) fun v15 => obind (spec_IsValidRelation v15) fun v18 => cond (!v18) (some ((0, []), false)) (some (v15, true)))
  | .inr r => some r)
theorem spec_NewRelation_s {a0 : Int} {a1 : List (List Int)} {r : Y25 × Bool} (h : spec_NewRelation a0 a1 = some r) : SoundAt Try.prog 167 [nI a0, dL c31_d a1] (.tup [.agg (c26_oo r.1), .bool r.2]) := by
 unfold spec_NewRelation at h
 refine st lit167 rfl (rn 1 rfl (ls_seq_k fun K1 hK1 => rn 1 rfl ?_))
 obtain ⟨o1, hl, hr1⟩ := ob_some h
 have kXB1 : (.inl ()) = o1 → Jn K1 [(0, nI a0), (1, dL c31_d a1), (4, .box [nI 0, oL 31 c31_o []])] := by
  intro h σ' hk
  subst h
  replace h := hr1
  try dsimp only at h
  refine hK1 _ (lh hk rfl (rs (sp 2 rfl (?_))))
  obtain ⟨v13, g14, h⟩ := ob_some h
  refine qC (qa rfl (erD ec31_d _) eran) (spec_l5Sort_s g14) (sp 1 rfl (?_))
  obtain ⟨v15, g16, h⟩ := ob_some h
  refine qC (qa rfl (erg (erc rfl (erc (erD ec31_d _) rfl))) eran) (spec_l5Copy_s g16) (sp 2 rfl (evn (ls_seq_k fun K17 hK17 => rs (sp 1 rfl (?_)))))
  obtain ⟨v18, g19, h⟩ := ob_some h
  refine qC (qa rfl (erg (erc rfl (erc (erD ec31_o _) rfl))) eran) (spec_IsValidRelation_s g19) (sp 1 rfl (evn ?_))
  rcases cond_some h with ⟨g20, h⟩ | ⟨g20, h⟩
  ·exact qT rfl g20 (rn 1 rfl (ls_ret ((by cases h; exact ⟨.inl rfl, rfl⟩))))
  ·exact qF rfl g20 (ls_skip (hK17 _ (rn 1 rfl (ls_ret ((by cases h; exact ⟨.inl rfl, rfl⟩))))))
 refine ls_rec (fun (y1 : Int) => [(0, nI a0), (1, dL c31_d a1), (4, .box [nI 0, oL 31 c31_o []]), (6, nI y1)]) _ _ _ _ hl (okr rfl) (fun _ => rfl) ?_
 rintro m y1 N h hN
 unfold spec_NewRelation_B1 at h
 refine ls_seq_k fun K2 hK2 => rn 1 rfl ?_
 rcases cond_some h with ⟨g3, h⟩ | ⟨g3, h⟩
 ·refine qT rfl g3 (ls_skip (hK2 _ (ls_seq_k fun K4 hK4 => ls_blk (rs (sp 2 rfl (?_))))))
  obtain ⟨e5, g6, h⟩ := ob_some h
  refine qI rfl zc31_d g6 (sp 5 rfl (?_))
  rcases cond_some h with ⟨g7, h⟩ | ⟨g7, h⟩
  ·exact qg 21 g7 rfl (sp 7 rfl (evn (qT rfl rfl (rn 1 rfl (ls_ret ((by cases h; cases hr1; exact ⟨.inl rfl, rfl⟩)))))))
  ·refine qg 21 g7 rfl (sp 2 rfl (?_))
   obtain ⟨e8, g9, h⟩ := ob_some h
   refine oGR rfl rfl (qI rfl zc31_d g9 (sp 1 rfl (?_)))
   obtain ⟨v10, g11, h⟩ := ob_some h
   refine oGR rfl rfl (qC (qa rfl (erD eci64 _) eran) (spec_AreValidValues_s g11) (sp 2 rfl (evn (qk [0, 1, 4, 6, 28] rfl ?_))))
   rcases cond_some h with ⟨g12, h⟩ | ⟨g12, h⟩
   ·exact qT rfl g12 (rn 1 rfl (ls_ret ((by cases h; cases hr1; exact ⟨.inl rfl, rfl⟩))))
   ·exact qF rfl g12 (ls_skip (hK4 _ (rg (sp 3 rfl (evn (hN _ _ h (okr rfl)))))))
 ·exact qF rfl g3 (ls_exit (kXB1 (Option.some.inj h) _ (okr rfl)))
def spec_Union (a0 : Y25) (a1 : Y25) : Option (Y25 × Bool) := obind (spec_IsValidRelation a0) fun v2 => cond (!v2) (some ((0, []), false)) (obind (spec_IsValidRelation a1) fun v5 => cond (!v5) (some ((0, []), false)) (cond (a0.1 != a1.1) (some ((0, []), false)) (chk (List.length ([] : List (List Int)) + List.length a0.2 ≤ lim) (chk (List.length (([] : List (List Int)) ++ a0.2) + List.length a1.2 ≤ lim) (obind (spec_NewRelation a0.1 ((([] : List (List Int)) ++ a0.2) ++ a1.2)) fun v11 => some (v11.1, v11.2))))))
theorem spec_Union_s {a0 : Y25} {a1 : Y25} {r : Y25 × Bool} (h : spec_Union a0 a1 = some r) : SoundAt Try.prog 125 [.agg (c26_dd a0), .agg (c26_dd a1)] (.tup [.agg (c26_oo r.1), .bool r.2]) := by
 unfold spec_Union at h
 refine st lit125 rfl (rn 1 rfl (ls_seq_k fun K1 hK1 => rs (sp 1 rfl (?_))))
 obtain ⟨v2, g3, h⟩ := ob_some h
 refine qC (qa rfl (erg (erc rfl (erc (erD ec31_d _) rfl))) eran) (spec_IsValidRelation_s g3) (sp 2 rfl (?_))
 rcases cond_some h with ⟨g4, h⟩ | ⟨g4, h⟩
 ·exact qg 11 g4 rfl (sp 11 rfl (evn (qT rfl rfl (rn 1 rfl (ls_ret ((by cases h; exact ⟨.inl rfl, rfl⟩)))))))
 ·refine qg 11 g4 rfl (sp 1 rfl (?_))
  obtain ⟨v5, g6, h⟩ := ob_some h
  refine oGR rfl rfl (qC (qa rfl (erg (erc rfl (erc (erD ec31_d _) rfl))) eran) (spec_IsValidRelation_s g6) (sp 3 rfl (?_)))
  rcases cond_some h with ⟨g7, h⟩ | ⟨g7, h⟩
  ·exact qg 16 g7 rfl (sp 6 rfl (evn (qk [2, 3, 4, 22] rfl (qT rfl rfl (rn 1 rfl (ls_ret ((by cases h; exact ⟨.inl rfl, rfl⟩))))))))
  ·refine qg 16 g7 rfl (sp 6 rfl (evn ?_))
   rcases cond_some h with ⟨g8, h⟩ | ⟨g8, h⟩
   ·exact qT rfl g8 (rn 1 rfl (ls_ret ((by cases h; exact ⟨.inl rfl, rfl⟩))))
   ·refine qF rfl g8 (ls_skip (hK1 _ (rd (by kernel_rfl) (sd 2 rfl (ed rfl (qBs c31_o [] rfl rfl rfl zc31_o (sd 2 rfl (?_))))))))
    obtain ⟨g9, h⟩ := chk_some h
    refine ed rfl (qA c31_d ([] : List (List Int)) a0.2 rfl rfl (flat_len zc31_d a0.2) (map_dg (fun _ => rfl) _) g9 (sd 2 rfl (?_)))
    obtain ⟨g10, h⟩ := chk_some h
    refine ed rfl (qA c31_d (([] : List (List Int)) ++ a0.2) a1.2 rfl rfl (flat_len zc31_d a1.2) (map_dg (fun _ => rfl) _) g10 (?_))
    obtain ⟨v11, g12, h⟩ := ob_some h
    exact ed rfl (qC (qs rfl (qa rfl (erO ec31_d _) eran)) (spec_NewRelation_s g12) (sd 6 rfl (evdn (rn 1 rfl (qk [4, 5] rfl (ls_ret ((by cases h; exact ⟨.inl rfl, rfl⟩))))))))
end Go.Proofs.Ytmioifafgbjjhaa
