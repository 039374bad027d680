/-
  Functions of the program as typed functions, printed by gen.py, and that the program's functions do what they say. No conditions.
-/
import Derived.Test.YtmjhiencoapldaaGreatGSbDS1
namespace Go.Proofs.YtmjhiencoapldaaGreat
open Go.RowKit
set_option linter.unusedVariables false
set_option maxRecDepth 100000
set_option maxHeartbeats 1000000
def impl_copyInts (a0 : List Int) : Option ((List Int)) := chk (List.length ([] : List Int) + List.length a0 ≤ lim) (some (([] : List Int) ++ a0))
theorem impl_copyInts_s {a0 : List Int} {r : (List Int)} (h : impl_copyInts a0 = some r) : SoundAt Tryz.prog 92 [dL ci64 a0] (oL 3 ci64 r) := by
 unfold impl_copyInts at h
 refine st lit92 rfl (rn 1 rfl (rs (qBs ci64 [] rfl rfl rfl zci64 (sp 1 rfl (?_)))))
 obtain ⟨g1, h⟩ := chk_some h
 exact qA ci64 ([] : List Int) a0 rfl rfl (flat_len zci64 a0) (map_dg (fun _ => rfl) _) g1 (sp 1 rfl (evn (ls_ret ((by cases h; exact ⟨.inl rfl, rfl⟩)))))
def impl_copyRows_B1 (a0 : List (List Int)) (rec : ((List (List Int)) × Int) → Option ((List (List Int)))) (s : (List (List Int)) × Int) : Option ((List (List Int))) := match s with
  | (y1, y2) => cond (decide (y2 < (List.length a0 : Int))) (obind (geti a0 y2) fun e6 => obind (impl_copyInts e6) fun v8 => chk (List.length y1 + List.length [v8] ≤ lim) (rec ((y1 ++ [v8]), (IntKind.i64.wrap (y2 + 1))))) (some y1)
def impl_copyRows (a0 : List (List Int)) : Option ((List (List Int))) := obind (loopF (impl_copyRows_B1 a0) fz (([] : List (List Int)), 0)) fun z2 => some z2
theorem impl_copyRows_s {a0 : List (List Int)} {r : (List (List Int))} (h : impl_copyRows a0 = some r) : SoundAt Tryz.prog 181 [dL c28_d a0] (oL 28 c28_o r) := by
 unfold impl_copyRows at h
 refine st lit181 rfl (rn 2 rfl (ls_seq_k fun K1 hK1 => rn 1 rfl ?_))
 obtain ⟨o1, hl, hr1⟩ := ob_some h
 have kXB1 : ∀ {z2 : List (List Int)}, z2 = o1 → Jn K1 [(3, oL 28 c28_o z2)] := by
  intro z2 h σ' hk
  subst h
  replace h := hr1
  try dsimp only at h
  exact hK1 _ (lh hk rfl (rn 1 rfl (ls_ret ((by cases h; exact ⟨.inl rfl, rfl⟩)))))
 refine ls_rec (fun (s : (List (List Int)) × Int) => match s with | (y1, y2) => [(3, oL 28 c28_o y1), (6, dL c28_d a0), (7, nI (List.length a0 : Int)), (8, nI y2)]) _ _ _ _ hl (okr rfl) (fun _ => rfl) ?_
 rintro m ⟨y1, y2⟩ N h hN
 unfold impl_copyRows_B1 at h
 dsimp only at h
 refine rn 1 rfl (ls_seq_k fun K3 hK3 => ?_)
 rcases cond_some h with ⟨g4, h⟩ | ⟨g4, h⟩
 ·refine qT rfl g4 (ls_skip (hK3 _ (ls_seq_k fun K5 hK5 => ls_blk (rs ?_))))
  obtain ⟨e6, g7, h⟩ := ob_some h
  refine qI rfl zc28_d g7 (sp 2 rfl (evn (rg (sp 2 rfl (?_)))))
  obtain ⟨v8, g9, h⟩ := ob_some h
  refine qC (qa rfl (erD eci64 _) eran) (impl_copyInts_s g9) (qBs c28_o [v8] rfl rfl rfl zc28_o (?_))
  obtain ⟨g10, h⟩ := chk_some h
  exact qA c28_o y1 [v8] rfl rfl (flat_len zc28_o [v8]) rfl g10 (sp 1 rfl (evn (hK5 _ (rg (sp 2 rfl (evn (hN _ _ h (okr rfl))))))))
 ·exact qF rfl g4 (ls_exit (kXB1 (Option.some.inj h) _ (okr rfl)))
def impl_copyRelation (a0 : Y37) : Option (Y37) := obind (impl_copyRows a0.2) fun v1 => some (a0.1, v1)
theorem impl_copyRelation_s {a0 : Y37} {r : Y37} (h : impl_copyRelation a0 = some r) : SoundAt Tryz.prog 162 [.agg (c38_dd a0)] (.agg (c38_oo r)) := by
 unfold impl_copyRelation at h
 refine st lit162 rfl (rn 1 rfl (rd (by kernel_rfl) (sd 4 rfl (?_))))
 obtain ⟨v1, g2, h⟩ := ob_some h
 exact ed rfl (qC (qa rfl (erD ec28_d _) eran) (impl_copyRows_s g2) (sd 2 rfl (evdn (ls_ret ((by cases h; exact ⟨.inl rfl, rfl⟩))))))
def impl_copyDatabase_B1 (a0 : List Y108) (rec : ((List Y108) × Int) → Option ((List Y108))) (s : (List Y108) × Int) : Option ((List Y108)) := match s with
  | (y1, y2) => cond (decide (y2 < (List.length a0 : Int))) (obind (geti a0 y2) fun e6 => obind (impl_copyRelation e6.2) fun v8 => chk (List.length y1 + List.length [(e6.1, v8)] ≤ lim) (rec ((y1 ++ [(e6.1, v8)]), (IntKind.i64.wrap (y2 + 1))))) (some y1)
def impl_copyDatabase (a0 : List Y108) : Option ((List Y108)) := obind (loopF (impl_copyDatabase_B1 a0) fz (([] : List Y108), 0)) fun z2 => some z2
theorem impl_copyDatabase_s {a0 : List Y108} {r : (List Y108)} (h : impl_copyDatabase a0 = some r) : SoundAt Tryz.prog 87 [.agg [dL c109_dd a0]] (.agg [oL 109 c109_oo r]) := by
 unfold impl_copyDatabase at h
 refine st lit87 rfl (rn 2 rfl (ls_seq_k fun K1 hK1 => rn 1 rfl ?_))
 obtain ⟨o1, hl, hr1⟩ := ob_some h
 have kXB1 : ∀ {z2 : List Y108}, z2 = o1 → Jn K1 [(2, .box [oL 109 c109_oo []]), (3, .box [oL 109 c109_oo z2])] := by
  intro z2 h σ' hk
  subst h
  replace h := hr1
  try dsimp only at h
  exact hK1 _ (lh hk rfl (rn 1 rfl (ls_ret ((by cases h; exact ⟨.inl rfl, rfl⟩)))))
 refine ls_rec (fun (s : (List Y108) × Int) => match s with | (y1, y2) => [(2, .box [oL 109 c109_oo []]), (3, .box [oL 109 c109_oo y1]), (7, dL c109_dd a0), (8, nI (List.length a0 : Int)), (9, nI y2)]) _ _ _ _ hl (okr rfl) (fun _ => rfl) ?_
 rintro m ⟨y1, y2⟩ N h hN
 unfold impl_copyDatabase_B1 at h
 dsimp only at h
 refine rn 1 rfl (ls_seq_k fun K3 hK3 => ?_)
 rcases cond_some h with ⟨g4, h⟩ | ⟨g4, h⟩
 ·refine qT rfl g4 (ls_skip (hK3 _ (ls_seq_k fun K5 hK5 => ls_blk (rs ?_))))
  obtain ⟨e6, g7, h⟩ := ob_some h
  refine qI rfl zc109_dd g7 (sp 3 rfl (evn (rgd (by kernel_rfl) (sd 6 rfl (?_)))))
  obtain ⟨v8, g9, h⟩ := ob_some h
  refine ed rfl (qC (qa rfl (erg (erc rfl (erc (erD ec28_d _) rfl))) eran) (impl_copyRelation_s g9) (sd 1 rfl (ed rfl (qBs c109_oo [(e6.1, v8)] rfl rfl rfl zc109_oo (?_)))))
  obtain ⟨g10, h⟩ := chk_some h
  exact ed rfl (qA c109_oo y1 [(e6.1, v8)] rfl rfl (flat_len zc109_oo [(e6.1, v8)]) rfl g10 (sd 2 rfl (evdn (hK5 _ (rg (sp 2 rfl (evn (hN _ _ h (okr rfl)))))))))
 ·exact qF rfl g4 (ls_exit (kXB1 (Option.some.inj h) _ (okr rfl)))
def impl_copyHistory_B1 (a0 : Y59) (rec : ((List (List Y108)) × Int) → Option ((List (List Y108)))) (s : (List (List Y108)) × Int) : Option ((List (List Y108))) := match s with
  | (y1, y2) => cond (decide (y2 < (List.length a0.2 : Int))) (obind (geti a0.2 y2) fun e6 => obind (impl_copyDatabase e6) fun v8 => chk (List.length y1 + List.length [v8] ≤ lim) (rec ((y1 ++ [v8]), (IntKind.i64.wrap (y2 + 1))))) (some y1)
def impl_copyHistory (a0 : Y59) : Option (Y59) := obind (loopF (impl_copyHistory_B1 a0) fz (([] : List (List Y108)), 0)) fun z2 => some (a0.1, z2)
theorem impl_copyHistory_s {a0 : Y59} {r : Y59} (h : impl_copyHistory a0 = some r) : SoundAt Tryz.prog 82 [.agg (c60_dddd a0)] (.agg (c60_oooo r)) := by
 unfold impl_copyHistory at h
 refine st lit82 rfl (rn 2 rfl (ls_seq_k fun K1 hK1 => rn 1 rfl ?_))
 obtain ⟨o1, hl, hr1⟩ := ob_some h
 have kXB1 : ∀ {z2 : List (List Y108)}, z2 = o1 → Jn K1 [(2, .box [nI 0, oL 26 c26_ooo []]), (3, .box [nI a0.1, oL 26 c26_ooo z2])] := by
  intro z2 h σ' hk
  subst h
  replace h := hr1
  try dsimp only at h
  exact hK1 _ (lh hk rfl (rn 1 rfl (ls_ret ((by cases h; exact ⟨.inl rfl, rfl⟩)))))
 refine ls_rec (fun (s : (List (List Y108)) × Int) => match s with | (y1, y2) => [(2, .box [nI 0, oL 26 c26_ooo []]), (3, .box [nI a0.1, oL 26 c26_ooo y1]), (10, dL c26_ddd a0.2), (11, nI (List.length a0.2 : Int)), (12, nI y2)]) _ _ _ _ hl (okr rfl) (fun _ => rfl) ?_
 rintro m ⟨y1, y2⟩ N h hN
 unfold impl_copyHistory_B1 at h
 dsimp only at h
 refine rn 1 rfl (ls_seq_k fun K3 hK3 => ?_)
 rcases cond_some h with ⟨g4, h⟩ | ⟨g4, h⟩
 ·refine qT rfl g4 (ls_skip (hK3 _ (ls_seq_k fun K5 hK5 => ls_blk (rs ?_))))
  obtain ⟨e6, g7, h⟩ := ob_some h
  refine qI rfl zc26_ddd g7 (sp 3 rfl (evn (rgd (by kernel_rfl) (sd 3 rfl (?_)))))
  obtain ⟨v8, g9, h⟩ := ob_some h
  refine ed rfl (qC (qa rfl (erg (erc (erD ec109_dd _) rfl)) eran) (impl_copyDatabase_s g9) (ed rfl (qBs c26_ooo [v8] rfl rfl rfl zc26_ooo (?_))))
  obtain ⟨g10, h⟩ := chk_some h
  exact ed rfl (qA c26_ooo y1 [v8] rfl rfl (flat_len zc26_ooo [v8]) rfl g10 (sd 2 rfl (evdn (hK5 _ (rg (sp 2 rfl (evn (hN _ _ h (okr rfl)))))))))
 ·exact qF rfl g4 (ls_exit (kXB1 (Option.some.inj h) _ (okr rfl)))
def impl_isLetters_B1 (a0 : List UInt8) (rec : Int → Option (Sum (Unit) (Bool))) (y1 : Int) : Option (Sum (Unit) (Bool)) := cond (decide (y1 < (List.length a0 : Int))) (obind (geti a0 y1) fun b8 => cond (decide ((UInt8.toNat b8 : Int) < 97)) (some (.inr false)) (obind (geti a0 y1) fun b11 => cond (decide (122 < (UInt8.toNat b11 : Int))) (some (.inr false)) (rec (IntKind.i64.wrap (y1 + 1))))) (some (.inl ()))
def impl_isLetters (a0 : List UInt8) (a1 : Int) : Option (Bool) := cond (decide ((List.length a0 : Int) < 1)) (some false) (cond (decide (a1 < (List.length a0 : Int))) (some false) (obind (loopF (impl_isLetters_B1 a0) fz 0) fun o1 => (match o1 with
  | .inl _ => (some true)
  | .inr r => some r)))
theorem impl_isLetters_s {a0 : List UInt8} {a1 : Int} {r : Bool} (h : impl_isLetters a0 a1 = some r) : SoundAt Tryz.prog 199 [.str a0, nI a1] (.bool r) := by
 unfold impl_isLetters at h
 refine st lit199 rfl (rn 1 rfl (ls_seq_k fun K1 hK1 => rs (sp 4 rfl (?_))))
 rcases cond_some h with ⟨g2, h⟩ | ⟨g2, h⟩
 ·exact qg 9 g2 rfl (sp 5 rfl (evn (qT rfl rfl (rn 1 rfl (ls_ret ((by cases h; exact ⟨.inl rfl, rfl⟩)))))))
 ·refine qg 9 g2 rfl (sp 5 rfl (evn ?_))
  rcases cond_some h with ⟨g3, h⟩ | ⟨g3, h⟩
  ·exact qT rfl g3 (rn 1 rfl (ls_ret ((by cases h; exact ⟨.inl rfl, rfl⟩))))
  ·refine qF rfl g3 (ls_skip (hK1 _ (ls_seq_k fun K4 hK4 => rn 1 rfl (qk [0, 5] rfl ?_))))
   obtain ⟨o1, hl, hr1⟩ := ob_some h
   have kXB1 : (.inl ()) = o1 → Jn K4 [] := by
    intro h σ' hk
    subst h
    replace h := hr1
    try dsimp only at h
    exact hK4 _ (lh hk rfl (rn 1 rfl (ls_ret ((by cases h; exact ⟨.inl rfl, rfl⟩)))))
   refine ls_rec (fun (y1 : Int) => [(0, .str a0), (5, nI y1)]) _ _ _ _ hl (okr rfl) (fun _ => rfl) ?_
   rintro m y1 N h hN
   unfold impl_isLetters_B1 at h
   refine ls_seq_k fun K5 hK5 => rn 1 rfl ?_
   rcases cond_some h with ⟨g6, h⟩ | ⟨g6, h⟩
   ·refine qT rfl g6 (ls_skip (hK5 _ (ls_seq_k fun K7 hK7 => ls_blk (rs (sp 2 rfl (?_))))))
    obtain ⟨b8, g9, h⟩ := ob_some h
    refine qX rfl g9 (sp 2 rfl (?_))
    rcases cond_some h with ⟨g10, h⟩ | ⟨g10, h⟩
    ·exact qg 25 g10 rfl (sp 5 rfl (evn (qT rfl rfl (rn 1 rfl (ls_ret ((by cases h; cases hr1; exact ⟨.inl rfl, rfl⟩)))))))
    ·refine qg 25 g10 rfl (sp 2 rfl (?_))
     obtain ⟨b11, g12, h⟩ := ob_some h
     refine oGR rfl rfl (qX rfl g12 (sp 2 rfl (evn ?_)))
     rcases cond_some h with ⟨g13, h⟩ | ⟨g13, h⟩
     ·exact qT rfl g13 (rn 1 rfl (qk [4] rfl (ls_ret ((by cases h; cases hr1; exact ⟨.inl rfl, rfl⟩)))))
     ·exact qF rfl g13 (ls_skip (hK7 _ (rg (sp 3 rfl (evn (hN _ _ h (okr rfl)))))))
   ·exact qF rfl g6 (ls_exit (kXB1 (Option.some.inj h) _ trivial))
def impl_IsValidName (a0 : List UInt8) : Option (Bool) := obind (impl_isLetters a0 4) fun v1 => some v1
theorem impl_IsValidName_s {a0 : List UInt8} {r : Bool} (h : impl_IsValidName a0 = some r) : SoundAt Tryz.prog 138 [.str a0] (.bool r) := by
 unfold impl_IsValidName at h
 refine st lit138 rfl (rn 1 rfl (rs (sp 1 rfl (?_))))
 obtain ⟨v1, g2, h⟩ := ob_some h
 exact qC (qs rfl (qs rfl eran)) (impl_isLetters_s g2) (sp 1 rfl (evn (ls_ret ((by cases h; exact ⟨.inl rfl, rfl⟩)))))
def impl_within_J1 (x2 : Bool) : Option (Bool) := some x2
def impl_within (a0 : Int) (a1 : Int) (a2 : Int) : Option (Bool) := cond (decide (a1 ≤ a0)) (impl_within_J1 (decide (a0 ≤ a2))) (impl_within_J1 false)
theorem impl_within_s {a0 : Int} {a1 : Int} {a2 : Int} {r : Bool} (h : impl_within a0 a1 a2 = some r) : SoundAt Tryz.prog 86 [nI a0, nI a1, nI a2] (.bool r) := by
 unfold impl_within at h
 refine st lit86 rfl (rn 1 rfl (rk fun K1 hK1 => ?_))
 have kJ1 : ∀ {x2 : Bool}, impl_within_J1 x2 = some r → Jn K1 [(6, .bool x2)] := by
  intro x2 h σ' hk
  unfold impl_within_J1 at h
  exact hK1 _ (lh hk rfl (ls_ret ((by cases h; exact ⟨.inl rfl, rfl⟩))))
 refine sp 4 rfl (?_)
 rcases cond_some h with ⟨g3, h⟩ | ⟨g3, h⟩
 ·exact qg 10 g3 rfl (sp 5 rfl (evn (kJ1 h _ (okr rfl))))
 ·exact qg 10 g3 rfl (sp 5 rfl (evn (kJ1 h _ (okr rfl))))
def impl_compareInts (a0 : Int) (a1 : Int) : Option (Int) := cond (decide (a0 < a1)) (some (-1)) (cond (decide (a1 < a0)) (some 1) (some 0))
theorem impl_compareInts_s {a0 : Int} {a1 : Int} {r : Int} (h : impl_compareInts a0 a1 = some r) : SoundAt Tryz.prog 232 [nI a0, nI a1] (nI r) := by
 unfold impl_compareInts at h
 refine st lit232 rfl (rn 1 rfl (ls_seq_k fun K1 hK1 => ls_blk (rn 1 rfl ?_)))
 rcases cond_some h with ⟨g2, h⟩ | ⟨g2, h⟩
 ·exact qT rfl g2 (rn 1 rfl (ls_ret ((by cases h; exact ⟨.inl rfl, rfl⟩))))
 ·refine qF rfl g2 (rn 1 rfl ?_)
  rcases cond_some h with ⟨g3, h⟩ | ⟨g3, h⟩
  ·exact qT rfl g3 (rn 1 rfl (ls_ret ((by cases h; exact ⟨.inl rfl, rfl⟩))))
  ·exact qF rfl g3 (ls_skip (hK1 _ (rn 1 rfl (qk [4] rfl (ls_ret ((by cases h; exact ⟨.inl rfl, rfl⟩)))))))
def impl_CompareRows_B1 (a0 : List Int) (a1 : List Int) (rec : Int → Option (Sum (Unit) (Int))) (y1 : Int) : Option (Sum (Unit) (Int)) := cond (decide (y1 < (List.length a0 : Int))) (cond (decide (y1 < (List.length a1 : Int))) (obind (geti a0 y1) fun e6 => obind (geti a1 y1) fun e8 => cond (e6 != e8) (obind (geti a0 y1) fun e11 => obind (geti a1 y1) fun e13 => obind (impl_compareInts e11 e13) fun v15 => some (.inr v15)) (rec (IntKind.i64.wrap (y1 + 1)))) (some (.inl ()))) (some (.inl ()))
def impl_CompareRows (a0 : List Int) (a1 : List Int) : Option (Int) := obind (loopF (impl_CompareRows_B1 a0 a1) fz 0) fun o1 => (match o1 with
  | .inl _ => (obind (impl_compareInts (List.length a0 : Int) (List.length a1 : Int)) fun v17 => some v17)
  | .inr r => some r)
theorem impl_CompareRows_s {a0 : List Int} {a1 : List Int} {r : Int} (h : impl_CompareRows a0 a1 = some r) : SoundAt Tryz.prog 194 [dL ci64 a0, dL ci64 a1] (nI r) := by
 unfold impl_CompareRows at h
 refine st lit194 rfl (rn 1 rfl (ls_seq_k fun K1 hK1 => rn 1 rfl ?_))
 obtain ⟨o1, hl, hr1⟩ := ob_some h
 have kXB1 : (.inl ()) = o1 → Jn K1 [(0, dL ci64 a0), (1, dL ci64 a1)] := by
  intro h σ' hk
  subst h
  replace h := hr1
  try dsimp only at h
  refine hK1 _ (lh hk rfl (rs (sp 4 rfl (?_))))
  obtain ⟨v17, g18, h⟩ := ob_some h
  exact qC (qs rfl (qs rfl eran)) (impl_compareInts_s g18) (sp 1 rfl (evn (ls_ret ((by cases h; exact ⟨.inl rfl, rfl⟩)))))
 refine ls_rec (fun (y1 : Int) => [(0, dL ci64 a0), (1, dL ci64 a1), (5, nI y1)]) _ _ _ _ hl (okr rfl) (fun _ => rfl) ?_
 rintro m y1 N h hN
 unfold impl_CompareRows_B1 at h
 refine ls_seq_k fun K2 hK2 => rs (sp 5 rfl (?_))
 rcases cond_some h with ⟨g3, h⟩ | ⟨g3, h⟩
 ·refine qg 10 g3 rfl (sp 5 rfl (evn ?_))
  rcases cond_some h with ⟨g4, h⟩ | ⟨g4, h⟩
  ·refine qT rfl g4 (ls_skip (hK2 _ (ls_seq_k fun K5 hK5 => ls_blk (rd (by kernel_rfl) (sd 2 rfl (?_))))))
   obtain ⟨e6, g7, h⟩ := ob_some h
   refine ed rfl (qI rfl zci64 g7 (sd 3 rfl (?_)))
   obtain ⟨e8, g9, h⟩ := ob_some h
   refine ed rfl (qI rfl zci64 g9 (sd 2 rfl (evdn ?_)))
   rcases cond_some h with ⟨g10, h⟩ | ⟨g10, h⟩
   ·refine qT rfl g10 (rd (by kernel_rfl) (sd 2 rfl (?_)))
    obtain ⟨e11, g12, h⟩ := ob_some h
    refine ed rfl (qI rfl zci64 g12 (sd 3 rfl (?_)))
    obtain ⟨e13, g14, h⟩ := ob_some h
    refine ed rfl (qI rfl zci64 g14 (sd 1 rfl (?_)))
    obtain ⟨v15, g16, h⟩ := ob_some h
    exact ed rfl (qC (qs rfl (qs rfl eran)) (impl_compareInts_s g16) (sd 1 rfl (evdn (qk [4] rfl (ls_ret ((by cases h; cases hr1; exact ⟨.inl rfl, rfl⟩)))))))
   ·exact qF rfl g10 (ls_skip (hK5 _ (rg (sp 3 rfl (evn (hN _ _ h (okr rfl)))))))
  ·exact qF rfl g4 (ls_exit (kXB1 (Option.some.inj h) _ (okr rfl)))
 ·exact qg 10 g3 rfl (sp 5 rfl (evn (qF rfl rfl (ls_exit (kXB1 (Option.some.inj h) _ (okr rfl))))))
def impl_AreValidValues_B1 (a0 : List Int) (rec : Int → Option (Sum (Unit) (Bool))) (y1 : Int) : Option (Sum (Unit) (Bool)) := cond (decide (y1 < (List.length a0 : Int))) (obind (geti a0 y1) fun e5 => obind (impl_within e5 0 99) fun v7 => cond (!v7) (some (.inr false)) (rec (IntKind.i64.wrap (y1 + 1)))) (some (.inl ()))
def impl_AreValidValues (a0 : List Int) : Option (Bool) := obind (loopF (impl_AreValidValues_B1 a0) fz 0) fun o1 => (match o1 with
  | .inl _ => (some true)
  | .inr r => some r)
theorem impl_AreValidValues_s {a0 : List Int} {r : Bool} (h : impl_AreValidValues a0 = some r) : SoundAt Tryz.prog 234 [dL ci64 a0] (.bool r) := by
 unfold impl_AreValidValues at h
 refine st lit234 rfl (rn 1 rfl (ls_seq_k fun K1 hK1 => rn 1 rfl ?_))
 obtain ⟨o1, hl, hr1⟩ := ob_some h
 have kXB1 : (.inl ()) = o1 → Jn K1 [] := by
  intro h σ' hk
  subst h
  replace h := hr1
  try dsimp only at h
  exact hK1 _ (lh hk rfl (rn 1 rfl (ls_ret ((by cases h; exact ⟨.inl rfl, rfl⟩)))))
 refine ls_rec (fun (y1 : Int) => [(5, dL ci64 a0), (6, nI (List.length a0 : Int)), (7, nI y1)]) _ _ _ _ hl (okr rfl) (fun _ => rfl) ?_
 rintro m y1 N h hN
 unfold impl_AreValidValues_B1 at h
 refine rn 1 rfl (ls_seq_k fun K2 hK2 => ?_)
 rcases cond_some h with ⟨g3, h⟩ | ⟨g3, h⟩
 ·refine qT rfl g3 (ls_skip (hK2 _ (ls_seq_k fun K4 hK4 => ls_blk (rs ?_))))
  obtain ⟨e5, g6, h⟩ := ob_some h
  refine qI rfl zci64 g6 (sp 2 rfl (evn (rs (sp 1 rfl (?_)))))
  obtain ⟨v7, g8, h⟩ := ob_some h
  refine qC (qs rfl (qs rfl (qs rfl eran))) (impl_within_s g8) (sp 1 rfl (evn ?_))
  rcases cond_some h with ⟨g9, h⟩ | ⟨g9, h⟩
  ·exact qT rfl g9 (rn 1 rfl (ls_ret ((by cases h; cases hr1; exact ⟨.inl rfl, rfl⟩))))
  ·exact qF rfl g9 (ls_skip (hK4 _ (rg (sp 2 rfl (evn (hN _ _ h (okr rfl)))))))
 ·exact qF rfl g3 (ls_exit (kXB1 (Option.some.inj h) _ trivial))
def impl_rowsValid_J2 (rec : Int → Option (Sum (Unit) (Bool))) (y1 : Int) (x13 : Bool) : Option (Sum (Unit) (Bool)) := cond x13 (some (.inr false)) (rec (IntKind.i64.wrap (y1 + 1)))
def impl_rowsValid_B1 (a0 : Int) (a1 : List (List Int)) (rec : Int → Option (Sum (Unit) (Bool))) (y1 : Int) : Option (Sum (Unit) (Bool)) := cond (decide (y1 < (List.length a1 : Int))) (obind (geti a1 y1) fun e10 => cond ((List.length e10 : Int) != a0) (impl_rowsValid_J2 rec y1 true) (obind (impl_AreValidValues e10) fun v16 => cond (!v16) (impl_rowsValid_J2 rec y1 true) (cond (decide (0 < y1)) (obind (geti a1 (IntKind.i64.wrap (y1 - 1))) fun e20 => obind (impl_CompareRows e20 e10) fun v22 => impl_rowsValid_J2 rec y1 (decide (0 ≤ v22))) (impl_rowsValid_J2 rec y1 false)))) (some (.inl ()))
def impl_rowsValid (a0 : Int) (a1 : List (List Int)) : Option (Bool) := obind (impl_within a0 0 5) fun v2 => cond (!v2) (some false) (cond (decide (4000 < (List.length a1 : Int))) (some false) (obind (loopF (impl_rowsValid_B1 a0 a1) fz 0) fun o1 => (match o1 with
  | .inl _ => (some true)
  | .inr r => some r)))
theorem impl_rowsValid_s {a0 : Int} {a1 : List (List Int)} {r : Bool} (h : impl_rowsValid a0 a1 = some r) : SoundAt Tryz.prog 200 [nI a0, dL c28_d a1] (.bool r) := by
 unfold impl_rowsValid at h
 refine st lit200 rfl (rn 1 rfl (ls_seq_k fun K1 hK1 => rs (sp 1 rfl (?_))))
 obtain ⟨v2, g3, h⟩ := ob_some h
 refine qC (qs rfl (qs rfl (qs rfl eran))) (impl_within_s g3) (sp 2 rfl (?_))
 rcases cond_some h with ⟨g4, h⟩ | ⟨g4, h⟩
 ·exact qg 10 g4 rfl (sp 4 rfl (evn (qT rfl rfl (rn 1 rfl (ls_ret ((by cases h; exact ⟨.inl rfl, rfl⟩)))))))
 ·refine qg 10 g4 rfl (sp 4 rfl (evn ?_))
  rcases cond_some h with ⟨g5, h⟩ | ⟨g5, h⟩
  ·exact qT rfl g5 (rn 1 rfl (ls_ret ((by cases h; exact ⟨.inl rfl, rfl⟩))))
  ·refine qF rfl g5 (ls_skip (hK1 _ (ls_seq_k fun K6 hK6 => rn 1 rfl (qk [0, 1, 15, 16, 17] rfl ?_))))
   obtain ⟨o1, hl, hr1⟩ := ob_some h
   have kXB1 : (.inl ()) = o1 → Jn K6 [] := by
    intro h σ' hk
    subst h
    replace h := hr1
    try dsimp only at h
    exact hK6 _ (lh hk rfl (rn 1 rfl (ls_ret ((by cases h; exact ⟨.inl rfl, rfl⟩)))))
   refine ls_rec (fun (y1 : Int) => [(0, nI a0), (1, dL c28_d a1), (15, dL c28_d a1), (16, nI (List.length a1 : Int)), (17, nI y1)]) _ _ _ _ hl (okr rfl) (fun _ => rfl) ?_
   rintro m y1 N h hN
   unfold impl_rowsValid_B1 at h
   refine rn 1 rfl (ls_seq_k fun K7 hK7 => ?_)
   rcases cond_some h with ⟨g8, h⟩ | ⟨g8, h⟩
   ·refine qT rfl g8 (ls_skip (hK7 _ (ls_seq_k fun K9 hK9 => ls_blk (rs (sp 1 rfl (?_))))))
    obtain ⟨e10, g11, h⟩ := ob_some h
    refine qI rfl zc28_d g11 (sp 3 rfl (evn (rk fun K12 hK12 => ?_)))
    have kJ2 : ∀ {x13 : Bool}, impl_rowsValid_J2 (loopF (impl_rowsValid_B1 a0 a1) m) y1 x13 = some o1 → Jn K12 [(0, nI a0), (1, dL c28_d a1), (15, dL c28_d a1), (16, nI (List.length a1 : Int)), (17, nI y1), (44, .bool x13)] := by
     intro x13 h σ' hk
     unfold impl_rowsValid_J2 at h
     refine hK12 _ (lh hk rfl ?_)
     rcases cond_some h with ⟨g14, h⟩ | ⟨g14, h⟩
     ·exact qT rfl g14 (rn 1 rfl (ls_ret ((by cases h; cases hr1; exact ⟨.inl rfl, rfl⟩))))
     ·exact qF rfl g14 (ls_skip (hK9 _ (rg (sp 2 rfl (evn (hN _ _ h (okr rfl)))))))
    refine sp 5 rfl (?_)
    rcases cond_some h with ⟨g15, h⟩ | ⟨g15, h⟩
    ·exact qg 26 g15 rfl (sp 18 rfl (evn (kJ2 h _ (okr rfl))))
    ·refine qg 26 g15 rfl (sp 1 rfl (?_))
     obtain ⟨v16, g17, h⟩ := ob_some h
     refine oGR rfl rfl (qC (qa rfl (erD eci64 _) eran) (impl_AreValidValues_s g17) (sp 3 rfl (?_)))
     rcases cond_some h with ⟨g18, h⟩ | ⟨g18, h⟩
     ·exact qg 31 g18 rfl (sp 13 rfl (evn (kJ2 h _ (okr rfl))))
     ·refine qg 31 g18 rfl (sp 3 rfl (?_))
      rcases cond_some h with ⟨g19, h⟩ | ⟨g19, h⟩
      ·refine qg 34 g19 rfl (sp 3 rfl (?_))
       obtain ⟨e20, g21, h⟩ := ob_some h
       refine oGR rfl rfl (qI rfl zc28_d g21 (sp 2 rfl (?_)))
       obtain ⟨v22, g23, h⟩ := ob_some h
       exact oGR rfl rfl (qC (qa rfl (erD eci64 _) (qa rfl (erD eci64 _) eran)) (impl_CompareRows_s g23) (sp 3 rfl (evn (kJ2 h _ (okr rfl)))))
      ·exact qg 34 g19 rfl (sp 10 rfl (evn (kJ2 h _ (okr rfl))))
   ·exact qF rfl g8 (ls_exit (kXB1 (Option.some.inj h) _ trivial))
def impl_IsValidRelation (a0 : Y37) : Option (Bool) := obind (impl_rowsValid a0.1 a0.2) fun v1 => some v1
theorem impl_IsValidRelation_s {a0 : Y37} {r : Bool} (h : impl_IsValidRelation a0 = some r) : SoundAt Tryz.prog 139 [.agg (c38_dd a0)] (.bool r) := by
 unfold impl_IsValidRelation at h
 refine st lit139 rfl (rn 1 rfl (rs (sp 4 rfl (?_))))
 obtain ⟨v1, g2, h⟩ := ob_some h
 exact qC (qs rfl (qa rfl (erD ec28_d _) eran)) (impl_rowsValid_s g2) (sp 1 rfl (evn (ls_ret ((by cases h; exact ⟨.inl rfl, rfl⟩)))))
def impl_IsValidDatabase_J2 (rec : Int → Option (Sum (Unit) (Bool))) (y1 : Int) (x10 : Bool) : Option (Sum (Unit) (Bool)) := cond x10 (some (.inr false)) (rec (IntKind.i64.wrap (y1 + 1)))
def impl_IsValidDatabase_B1 (a0 : List Y108) (rec : Int → Option (Sum (Unit) (Bool))) (y1 : Int) : Option (Sum (Unit) (Bool)) := cond (decide (y1 < (List.length a0 : Int))) (obind (geti a0 y1) fun e7 => obind (impl_IsValidName e7.1) fun v12 => cond (!v12) (impl_IsValidDatabase_J2 rec y1 true) (cond (decide (0 < y1)) (obind (geti a0 (IntKind.i64.wrap (y1 - 1))) fun e16 => cond (!Op.bytesLess e16.1 e7.1) (impl_IsValidDatabase_J2 rec y1 true) (obind (impl_IsValidRelation e7.2) fun v19 => cond (!v19) (impl_IsValidDatabase_J2 rec y1 true) (cond (decide (e7.2.1 < 1)) (impl_IsValidDatabase_J2 rec y1 true) (impl_IsValidDatabase_J2 rec y1 (decide (16 < (List.length e7.2.2 : Int))))))) (obind (impl_IsValidRelation e7.2) fun v23 => cond (!v23) (impl_IsValidDatabase_J2 rec y1 true) (cond (decide (e7.2.1 < 1)) (impl_IsValidDatabase_J2 rec y1 true) (impl_IsValidDatabase_J2 rec y1 (decide (16 < (List.length e7.2.2 : Int)))))))) (some (.inl ()))
def impl_IsValidDatabase (a0 : List Y108) : Option (Bool) := cond (decide (6 < (List.length a0 : Int))) (some false) (obind (loopF (impl_IsValidDatabase_B1 a0) fz 0) fun o1 => (match o1 with
  | .inl _ => (some true)
  | .inr r => some r))
theorem impl_IsValidDatabase_s {a0 : List Y108} {r : Bool} (h : impl_IsValidDatabase a0 = some r) : SoundAt Tryz.prog 62 [.agg [dL c109_dd a0]] (.bool r) := by
 unfold impl_IsValidDatabase at h
 refine st lit62 rfl (rn 1 rfl (ls_seq_k fun K1 hK1 => rn 1 rfl ?_))
 rcases cond_some h with ⟨g2, h⟩ | ⟨g2, h⟩
 ·exact qT rfl g2 (rn 1 rfl (ls_ret ((by cases h; exact ⟨.inl rfl, rfl⟩))))
 ·refine qF rfl g2 (ls_skip (hK1 _ (ls_seq_k fun K3 hK3 => rn 1 rfl ?_)))
  obtain ⟨o1, hl, hr1⟩ := ob_some h
  have kXB1 : (.inl ()) = o1 → Jn K3 [] := by
   intro h σ' hk
   subst h
   replace h := hr1
   try dsimp only at h
   exact hK3 _ (lh hk rfl (rn 1 rfl (ls_ret ((by cases h; exact ⟨.inl rfl, rfl⟩)))))
  refine ls_rec (fun (y1 : Int) => [(1, .box [dL c109_dd a0]), (10, dL c109_dd a0), (11, nI (List.length a0 : Int)), (12, nI y1)]) _ _ _ _ hl (okr rfl) (fun _ => rfl) ?_
  rintro m y1 N h hN
  unfold impl_IsValidDatabase_B1 at h
  refine rn 1 rfl (ls_seq_k fun K4 hK4 => ?_)
  rcases cond_some h with ⟨g5, h⟩ | ⟨g5, h⟩
  ·refine qT rfl g5 (ls_skip (hK4 _ (ls_seq_k fun K6 hK6 => ls_blk (rs (sp 1 rfl (?_))))))
   obtain ⟨e7, g8, h⟩ := ob_some h
   refine qI rfl zc109_dd g8 (sp 4 rfl (evn (rdk (by kernel_rfl) fun K9 hK9 => ?_)))
   have kJ2 : ∀ {x10 : Bool}, impl_IsValidDatabase_J2 (loopF (impl_IsValidDatabase_B1 a0) m) y1 x10 = some o1 → Jn K9 [(1, .box [dL c109_dd a0]), (10, dL c109_dd a0), (11, nI (List.length a0 : Int)), (12, nI y1), (55, .bool x10)] := by
    intro x10 h σ' hk
    unfold impl_IsValidDatabase_J2 at h
    refine hK9 _ (lh hk rfl ?_)
    rcases cond_some h with ⟨g11, h⟩ | ⟨g11, h⟩
    ·exact qT rfl g11 (rn 1 rfl (ls_ret ((by cases h; cases hr1; exact ⟨.inl rfl, rfl⟩))))
    ·exact qF rfl g11 (ls_skip (hK6 _ (rg (sp 2 rfl (evn (hN _ _ h (okr rfl)))))))
   refine sd 2 rfl (?_)
   obtain ⟨v12, g13, h⟩ := ob_some h
   refine ed rfl (qC (qs rfl eran) (impl_IsValidName_s g13) (sd 2 rfl (?_)))
   rcases cond_some h with ⟨g14, h⟩ | ⟨g14, h⟩
   ·exact qgd 21 g14 rfl (sd 34 rfl (evdn (kJ2 h _ (okr rfl))))
   ·refine qgd 21 g14 rfl (sd 3 rfl (?_))
    rcases cond_some h with ⟨g15, h⟩ | ⟨g15, h⟩
    ·refine qgd 24 g15 rfl (sd 4 rfl (?_))
     obtain ⟨e16, g17, h⟩ := ob_some h
     refine ed rfl (oGR rfl rfl (qI rfl zc109_dd g17 (sd 8 rfl (?_))))
     rcases cond_some h with ⟨g18, h⟩ | ⟨g18, h⟩
     ·exact qgd 37 g18 rfl (sd 18 rfl (evdn (kJ2 h _ (okr rfl))))
     ·refine qgd 37 g18 rfl (sd 2 rfl (?_))
      obtain ⟨v19, g20, h⟩ := ob_some h
      refine ed rfl (oGR rfl rfl (qC (qa rfl (erg (erc rfl (erc (erD ec28_d _) rfl))) eran) (impl_IsValidRelation_s g20) (sd 3 rfl (?_))))
      rcases cond_some h with ⟨g21, h⟩ | ⟨g21, h⟩
      ·exact qgd 43 g21 rfl (sd 12 rfl (evdn (kJ2 h _ (okr rfl))))
      ·refine qgd 43 g21 rfl (sd 6 rfl (?_))
       rcases cond_some h with ⟨g22, h⟩ | ⟨g22, h⟩
       ·exact qgd 49 g22 rfl (sd 6 rfl (evdn (kJ2 h _ (okr rfl))))
       ·exact qgd 49 g22 rfl (sd 6 rfl (evdn (kJ2 h _ (okr rfl))))
    ·refine qgd 24 g15 rfl (sd 15 rfl (?_))
     obtain ⟨v23, g24, h⟩ := ob_some h
     refine ed rfl (oGR rfl rfl (qC (qa rfl (erg (erc rfl (erc (erD ec28_d _) rfl))) eran) (impl_IsValidRelation_s g24) (sd 3 rfl (?_))))
     rcases cond_some h with ⟨g25, h⟩ | ⟨g25, h⟩
     ·exact qgd 43 g25 rfl (sd 12 rfl (evdn (kJ2 h _ (okr rfl))))
     ·refine qgd 43 g25 rfl (sd 6 rfl (?_))
      rcases cond_some h with ⟨g26, h⟩ | ⟨g26, h⟩
      ·exact qgd 49 g26 rfl (sd 6 rfl (evdn (kJ2 h _ (okr rfl))))
      ·exact qgd 49 g26 rfl (sd 6 rfl (evdn (kJ2 h _ (okr rfl))))
  ·exact qF rfl g5 (ls_exit (kXB1 (Option.some.inj h) _ trivial))
def impl_IsValidHistory_B1 (a0 : Y59) (rec : Int → Option (Sum (Unit) (Bool))) (y1 : Int) : Option (Sum (Unit) (Bool)) := cond (decide (y1 < (List.length a0.2 : Int))) (obind (geti a0.2 y1) fun e12 => obind (impl_IsValidDatabase e12) fun v14 => cond (!v14) (some (.inr false)) (rec (IntKind.i64.wrap (y1 + 1)))) (some (.inl ()))
def impl_IsValidHistory (a0 : Y59) : Option (Bool) := obind (impl_within (List.length a0.2 : Int) 1 6) fun v2 => cond (!v2) (some false) (obind (impl_within a0.1 1 (IntKind.i64.wrap ((IntKind.i64.wrap (99 - (List.length a0.2 : Int))) + 1))) fun v5 => cond (!v5) (some false) (obind (loopF (impl_IsValidHistory_B1 a0) fz 0) fun o1 => (match o1 with
  | .inl _ => (some true)
  | .inr r => some r)))
theorem impl_IsValidHistory_s {a0 : Y59} {r : Bool} (h : impl_IsValidHistory a0 = some r) : SoundAt Tryz.prog 83 [.agg (c60_dddd a0)] (.bool r) := by
 unfold impl_IsValidHistory at h
 refine st lit83 rfl (rn 2 rfl (ls_seq_k fun K1 hK1 => rs (sp 1 rfl (?_))))
 obtain ⟨v2, g3, h⟩ := ob_some h
 refine qC (qs rfl (qs rfl (qs rfl eran))) (impl_within_s g3) (sp 2 rfl (?_))
 rcases cond_some h with ⟨g4, h⟩ | ⟨g4, h⟩
 ·exact qg 12 g4 rfl (sp 8 rfl (evn (qT rfl rfl (rn 1 rfl (ls_ret ((by cases h; exact ⟨.inl rfl, rfl⟩)))))))
 ·refine qg 12 g4 rfl (sp 5 rfl (?_))
  obtain ⟨v5, g6, h⟩ := ob_some h
  refine oGR rfl rfl (qC (qs rfl (qs rfl (qs rfl eran))) (impl_within_s g6) (sp 2 rfl (evn ?_)))
  rcases cond_some h with ⟨g7, h⟩ | ⟨g7, h⟩
  ·exact qT rfl g7 (rn 1 rfl (qk [2] rfl (ls_ret ((by cases h; exact ⟨.inl rfl, rfl⟩)))))
  ·refine qF rfl g7 (ls_skip (hK1 _ (ls_seq_k fun K8 hK8 => rn 1 rfl ?_)))
   obtain ⟨o1, hl, hr1⟩ := ob_some h
   have kXB1 : (.inl ()) = o1 → Jn K8 [] := by
    intro h σ' hk
    subst h
    replace h := hr1
    try dsimp only at h
    exact hK8 _ (lh hk rfl (rn 1 rfl (ls_ret ((by cases h; exact ⟨.inl rfl, rfl⟩)))))
   refine ls_rec (fun (y1 : Int) => [(22, dL c26_ddd a0.2), (23, nI (List.length a0.2 : Int)), (24, nI y1)]) _ _ _ _ hl (okr rfl) (fun _ => rfl) ?_
   rintro m y1 N h hN
   unfold impl_IsValidHistory_B1 at h
   refine rn 1 rfl (ls_seq_k fun K9 hK9 => ?_)
   rcases cond_some h with ⟨g10, h⟩ | ⟨g10, h⟩
   ·refine qT rfl g10 (ls_skip (hK9 _ (ls_seq_k fun K11 hK11 => ls_blk (rs ?_))))
    obtain ⟨e12, g13, h⟩ := ob_some h
    refine qI rfl zc26_ddd g13 (sp 3 rfl (evn (rs (sp 1 rfl (?_)))))
    obtain ⟨v14, g15, h⟩ := ob_some h
    refine qC (qa rfl (erg (erc (erD ec109_dd _) rfl)) eran) (impl_IsValidDatabase_s g15) (sp 1 rfl (evn ?_))
    rcases cond_some h with ⟨g16, h⟩ | ⟨g16, h⟩
    ·exact qT rfl g16 (rn 1 rfl (ls_ret ((by cases h; cases hr1; exact ⟨.inl rfl, rfl⟩))))
    ·exact qF rfl g16 (ls_skip (hK11 _ (rg (sp 2 rfl (evn (hN _ _ h (okr rfl)))))))
   ·exact qF rfl g10 (ls_exit (kXB1 (Option.some.inj h) _ trivial))
def impl_DropUnusedSnapshots_B2 (a1 : List Y69) (y2 : Int) (y3 : List (List Y108)) (rec : Int → Option (Sum (Unit) (Y59))) (y5 : Int) : Option (Sum (Unit) (Y59)) := cond (decide (y5 < (List.length a1 : Int))) (obind (geti a1 y5) fun e16 => cond (e16.1 == y2) (some (.inr (y2, y3))) (rec (IntKind.i64.wrap (y5 + 1)))) (some (.inl ()))
def impl_DropUnusedSnapshots_B1 (a1 : List Y69) (rec : (Int × (List (List Y108))) → Option (Sum (Int × (List (List Y108))) (Y59))) (s : Int × (List (List Y108))) : Option (Sum (Int × (List (List Y108))) (Y59)) := match s with
  | (y2, y3) => cond (decide (1 < (List.length y3 : Int))) (obind (loopF (impl_DropUnusedSnapshots_B2 a1 y2 y3) fz 0) fun o2 => (match o2 with
  | .inl _ => (chk ((0 : Int) ≤ 1 ∧ 1 ≤ (List.length (enumP 0 y3) : Int) ∧ (List.length (enumP 0 y3) : Int) ≤ (List.length (enumP 0 y3) : Int)) (chk (List.length ([] : List (Nat × (List Y108))) + List.length (subl (enumP 0 y3) 1 (List.length (enumP 0 y3) : Int)) ≤ lim) (chk (okJ (y3) (inlM (([] : List (Nat × (List Y108))) ++ (subl (enumP 0 y3) 1 (List.length (enumP 0 y3) : Int)))) [] = true) (rec ((IntKind.i64.wrap (y2 + 1)), (List.map getM (inlM (([] : List (Nat × (List Y108))) ++ (subl (enumP 0 y3) 1 (List.length (enumP 0 y3) : Int))))))))))
  | .inr r => some (.inr r))) (some (.inl (y2, y3)))
def impl_DropUnusedSnapshots (a0 : Y59) (a1 : List Y69) : Option (Y59) := obind (impl_copyHistory a0) fun v1 => obind (impl_IsValidHistory a0) fun v4 => cond (!v4) (some v1) (obind (loopF (impl_DropUnusedSnapshots_B1 a1) fz (v1.1, v1.2)) fun o1 => (match o1 with
  | .inl (z8, z9) => (some (z8, z9))
  | .inr r => some r))
theorem impl_DropUnusedSnapshots_s {a0 : Y59} {a1 : List Y69} {r : Y59} (h : impl_DropUnusedSnapshots a0 a1 = some r) : SoundAt Tryz.prog 23 [.agg (c60_dddd a0), dL c70_ddddd a1] (.agg (c60_oooo r)) := by
 unfold impl_DropUnusedSnapshots at h
 refine st lit23 rfl (rn 1 rfl (rs (sp 1 rfl (?_))))
 obtain ⟨v1, g2, h⟩ := ob_some h
 refine qC (qa rfl (erg (erc rfl (erc (erD ec26_ddd _) rfl))) eran) (impl_copyHistory_s g2) (sp 2 rfl (evn (ls_seq_k fun K3 hK3 => rs (sp 1 rfl (?_)))))
 obtain ⟨v4, g5, h⟩ := ob_some h
 refine qC (qa rfl (erg (erc rfl (erc (erD ec26_ddd _) rfl))) eran) (impl_IsValidHistory_s g5) (sp 1 rfl (evn ?_))
 rcases cond_some h with ⟨g6, h⟩ | ⟨g6, h⟩
 ·exact qT rfl g6 (rn 1 rfl (ls_ret ((by cases h; exact ⟨.inl rfl, rfl⟩))))
 ·refine qF rfl g6 (ls_skip (hK3 _ (ls_seq_k fun K7 hK7 => ?_)))
  obtain ⟨o1, hl, hr1⟩ := ob_some h
  have kXB1 : ∀ {z8 : Int} {z9 : List (List Y108)}, (.inl (z8, z9)) = o1 → Jn K7 [(4, .box [nI 0, oL 26 c26_ooo []]), (5, .box [nI z8, oL 26 c26_ooo z9])] := by
   intro z8 z9 h σ' hk
   subst h
   replace h := hr1
   try dsimp only at h
   exact hK7 _ (lh hk rfl (rn 1 rfl (ls_ret ((by cases h; exact ⟨.inl rfl, rfl⟩)))))
  refine ls_rec (fun (s : Int × (List (List Y108))) => match s with | (y2, y3) => [(1, dL c70_ddddd a1), (4, .box [nI 0, oL 26 c26_ooo []]), (5, .box [nI y2, oL 26 c26_ooo y3])]) _ _ _ _ hl (okr rfl) (fun _ => rfl) ?_
  rintro m ⟨y2, y3⟩ N h hN
  unfold impl_DropUnusedSnapshots_B1 at h
  dsimp only at h
  refine ls_seq_k fun K10 hK10 => rn 1 rfl ?_
  rcases cond_some h with ⟨g11, h⟩ | ⟨g11, h⟩
  ·refine qT rfl g11 (ls_skip (hK10 _ (ls_blk (ls_seq_k fun K12 hK12 => rn 1 rfl ?_))))
   obtain ⟨o2, hl, hr2⟩ := ob_some h
   have kXB2 : (.inl ()) = o2 → Jn K12 [(1, dL c70_ddddd a1), (4, .box [nI 0, oL 26 c26_ooo []]), (5, .box [nI y2, oL 26 c26_ooo y3])] := by
    intro h σ' hk
    subst h
    replace h := hr2
    try dsimp only at h
    refine hK12 _ (lh hk rfl (rn 1 rfl (qk [1, 4, 5] rfl (ls_hg (gSb (f := c26_ooo) (l := y3) (q := 900001) (b := 5) [nI (IntKind.i64.wrap (y2 + 1))] [] rfl rfl rfl (fun _ => rfl) ?_)))))
    intro U us1 hU
    refine qk [1, 4, 5, 900001] rfl (ls_gh (rg (qBs c26_ooo [] rfl rfl rfl zc26_ooo (sp 2 rfl (?_)))))
    obtain ⟨g19, h⟩ := chk_some h
    refine qSl rfl (zpE zc26_ooo) g19 (?_)
    obtain ⟨g20, h⟩ := chk_some h
    refine qA (pE c26_ooo U) ([] : List (Nat × (List Y108))) (subl (enumP 0 y3) 1 (List.length (enumP 0 y3) : Int)) rfl rfl (flat_len (zpE zc26_ooo) (subl (enumP 0 y3) 1 (List.length (enumP 0 y3) : Int))) (map_dgp _) g20 (sp 2 rfl (evn ?_))
    obtain ⟨g21, h⟩ := chk_some h
    exact gJb (f := c26_ooo) (l := y3) (q := 900001) (b := 5) [nI (IntKind.i64.wrap (y2 + 1))] [] (inlM (([] : List (Nat × (List Y108))) ++ (subl (enumP 0 y3) 1 (List.length (enumP 0 y3) : Int)))) rfl own_inM rfl rfl (fun _ => rfl) hU g21 (hN _ _ h (okr rfl))
   refine ls_rec (fun (y5 : Int) => [(1, dL c70_ddddd a1), (4, .box [nI 0, oL 26 c26_ooo []]), (5, .box [nI y2, oL 26 c26_ooo y3]), (18, dL c70_ddddd a1), (19, nI (List.length a1 : Int)), (20, nI y5)]) _ _ _ _ hl (okr rfl) (fun _ => rfl) ?_
   rintro m y5 N h hN
   unfold impl_DropUnusedSnapshots_B2 at h
   refine rn 1 rfl (ls_seq_k fun K13 hK13 => ?_)
   rcases cond_some h with ⟨g14, h⟩ | ⟨g14, h⟩
   ·refine qT rfl g14 (ls_skip (hK13 _ (ls_seq_k fun K15 hK15 => ls_blk (rs ?_))))
    obtain ⟨e16, g17, h⟩ := ob_some h
    refine qI rfl zc70_ddddd g17 (sp 3 rfl (evn (rn 1 rfl ?_)))
    rcases cond_some h with ⟨g18, h⟩ | ⟨g18, h⟩
    ·exact qT rfl g18 (rn 1 rfl (ls_ret ((by cases h; cases hr2; cases hr1; exact ⟨.inl rfl, rfl⟩))))
    ·exact qF rfl g18 (ls_skip (hK15 _ (rg (sp 2 rfl (evn (hN _ _ h (okr rfl)))))))
   ·exact qF rfl g14 (ls_exit (kXB2 (Option.some.inj h) _ (okr rfl)))
  ·exact qF rfl g11 (ls_exit (kXB1 (Option.some.inj h) _ (okr rfl)))
def spec_EqualRelations_B1 (a0 : Y37) (a1 : Y37) (rec : Int → Option (Sum (Unit) (Bool))) (y1 : Int) : Option (Sum (Unit) (Bool)) := cond (decide (y1 < (List.length a0.2 : Int))) (obind (geti a0.2 y1) fun e8 => obind (geti a1.2 y1) fun e10 => obind (spec_CompareRows e8 e10) fun v12 => cond (v12 != 0) (some (.inr false)) (rec (IntKind.i64.wrap (y1 + 1)))) (some (.inl ()))
def spec_EqualRelations (a0 : Y37) (a1 : Y37) : Option (Bool) := cond (a0.1 != a1.1) (some false) (cond ((List.length a0.2 : Int) != (List.length a1.2 : Int)) (some false) (obind (loopF (spec_EqualRelations_B1 a0 a1) fz 0) fun o1 => (match o1 with
  | .inl _ => (some true)
  | .inr r => some r)))
theorem spec_EqualRelations_s {a0 : Y37} {a1 : Y37} {r : Bool} (h : spec_EqualRelations a0 a1 = some r) : SoundAt Tryz.prog 45 [.agg (c38_dd a0), .agg (c38_dd a1)] (.bool r) := by
 unfold spec_EqualRelations at h
 refine st lit45 rfl (rn 1 rfl (ls_seq_k fun K1 hK1 => rs (sp 6 rfl (?_))))
 rcases cond_some h with ⟨g2, h⟩ | ⟨g2, h⟩
 ·exact qg 11 g2 rfl (sp 8 rfl (evn (qT rfl rfl (rn 1 rfl (ls_ret ((by cases h; exact ⟨.inl rfl, rfl⟩)))))))
 ·refine qg 11 g2 rfl (sp 8 rfl (evn ?_))
  rcases cond_some h with ⟨g3, h⟩ | ⟨g3, h⟩
  ·exact qT rfl g3 (rn 1 rfl (qk [4] rfl (ls_ret ((by cases h; exact ⟨.inl rfl, rfl⟩)))))
  ·refine qF rfl g3 (ls_skip (hK1 _ (ls_seq_k fun K4 hK4 => rn 1 rfl ?_)))
   obtain ⟨o1, hl, hr1⟩ := ob_some h
   have kXB1 : (.inl ()) = o1 → Jn K4 [] := by
    intro h σ' hk
    subst h
    replace h := hr1
    try dsimp only at h
    exact hK4 _ (lh hk rfl (rn 1 rfl (ls_ret ((by cases h; exact ⟨.inl rfl, rfl⟩)))))
   refine ls_rec (fun (y1 : Int) => [(2, .box [nI a0.1, dL c28_d a0.2]), (3, .box [nI a1.1, dL c28_d a1.2]), (5, nI y1)]) _ _ _ _ hl (okr rfl) (fun _ => rfl) ?_
   rintro m y1 N h hN
   unfold spec_EqualRelations_B1 at h
   refine ls_seq_k fun K5 hK5 => rn 1 rfl ?_
   rcases cond_some h with ⟨g6, h⟩ | ⟨g6, h⟩
   ·refine qT rfl g6 (ls_skip (hK5 _ (ls_seq_k fun K7 hK7 => ls_blk (rd (by kernel_rfl) (sd 3 rfl (?_))))))
    obtain ⟨e8, g9, h⟩ := ob_some h
    refine ed rfl (qI rfl zc28_d g9 (sd 4 rfl (?_)))
    obtain ⟨e10, g11, h⟩ := ob_some h
    refine ed rfl (qI rfl zc28_d g11 (sd 1 rfl (?_)))
    obtain ⟨v12, g13, h⟩ := ob_some h
    refine ed rfl (qC (qa rfl (erD eci64 _) (qa rfl (erD eci64 _) eran)) (spec_CompareRows_s g13) (sd 1 rfl (evdn ?_)))
    rcases cond_some h with ⟨g14, h⟩ | ⟨g14, h⟩
    ·exact qT rfl g14 (rn 1 rfl (ls_ret ((by cases h; cases hr1; exact ⟨.inl rfl, rfl⟩))))
    ·exact qF rfl g14 (ls_skip (hK7 _ (rg (sp 3 rfl (evn (hN _ _ h (okr rfl)))))))
   ·exact qF rfl g6 (ls_exit (kXB1 (Option.some.inj h) _ trivial))
def spec_EqualDatabases_B1 (a0 : List Y108) (a1 : List Y108) (rec : Int → Option (Sum (Unit) (Bool))) (y1 : Int) : Option (Sum (Unit) (Bool)) := cond (decide (y1 < (List.length a0 : Int))) (obind (geti a0 y1) fun e7 => obind (geti a1 y1) fun e9 => cond (!(e7.1 == e9.1)) (some (.inr false)) (obind (geti a0 y1) fun e12 => obind (geti a1 y1) fun e14 => obind (spec_EqualRelations e12.2 e14.2) fun v16 => cond (!v16) (some (.inr false)) (rec (IntKind.i64.wrap (y1 + 1))))) (some (.inl ()))
def spec_EqualDatabases (a0 : List Y108) (a1 : List Y108) : Option (Bool) := cond ((List.length a0 : Int) != (List.length a1 : Int)) (some false) (obind (loopF (spec_EqualDatabases_B1 a0 a1) fz 0) fun o1 => (match o1 with
  | .inl _ => (some true)
  | .inr r => some r))
theorem spec_EqualDatabases_s {a0 : List Y108} {a1 : List Y108} {r : Bool} (h : spec_EqualDatabases a0 a1 = some r) : SoundAt Tryz.prog 28 [.agg [dL c109_dd a0], .agg [dL c109_dd a1]] (.bool r) := by
 unfold spec_EqualDatabases at h
 refine st lit28 rfl (rn 1 rfl (ls_seq_k fun K1 hK1 => rn 1 rfl ?_))
 rcases cond_some h with ⟨g2, h⟩ | ⟨g2, h⟩
 ·exact qT rfl g2 (rn 1 rfl (ls_ret ((by cases h; exact ⟨.inl rfl, rfl⟩))))
 ·refine qF rfl g2 (ls_skip (hK1 _ (ls_seq_k fun K3 hK3 => rn 1 rfl ?_)))
  obtain ⟨o1, hl, hr1⟩ := ob_some h
  have kXB1 : (.inl ()) = o1 → Jn K3 [] := by
   intro h σ' hk
   subst h
   replace h := hr1
   try dsimp only at h
   exact hK3 _ (lh hk rfl (rn 1 rfl (ls_ret ((by cases h; exact ⟨.inl rfl, rfl⟩)))))
  refine ls_rec (fun (y1 : Int) => [(2, .box [dL c109_dd a0]), (3, .box [dL c109_dd a1]), (5, nI y1)]) _ _ _ _ hl (okr rfl) (fun _ => rfl) ?_
  rintro m y1 N h hN
  unfold spec_EqualDatabases_B1 at h
  refine ls_seq_k fun K4 hK4 => rn 1 rfl ?_
  rcases cond_some h with ⟨g5, h⟩ | ⟨g5, h⟩
  ·refine qT rfl g5 (ls_skip (hK4 _ (ls_seq_k fun K6 hK6 => ls_blk (rd (by kernel_rfl) (sd 3 rfl (?_))))))
   obtain ⟨e7, g8, h⟩ := ob_some h
   refine ed rfl (qI rfl zc109_dd g8 (sd 5 rfl (?_)))
   obtain ⟨e9, g10, h⟩ := ob_some h
   refine ed rfl (qI rfl zc109_dd g10 (sd 4 rfl (?_)))
   rcases cond_some h with ⟨g11, h⟩ | ⟨g11, h⟩
   ·exact qgd 33 g11 rfl (sd 15 rfl (evdn (qT rfl rfl (rn 1 rfl (qk [4] rfl (ls_ret ((by cases h; cases hr1; exact ⟨.inl rfl, rfl⟩))))))))
   ·refine qgd 33 g11 rfl (sd 3 rfl (?_))
    obtain ⟨e12, g13, h⟩ := ob_some h
    refine ed rfl (oGR rfl rfl (qI rfl zc109_dd g13 (sd 5 rfl (?_))))
    obtain ⟨e14, g15, h⟩ := ob_some h
    refine ed rfl (oGR rfl rfl (qI rfl zc109_dd g15 (sd 2 rfl (?_))))
    obtain ⟨v16, g17, h⟩ := ob_some h
    refine ed rfl (oGR rfl rfl (qC (qa rfl (erg (erc rfl (erc (erD ec28_d _) rfl))) (qa rfl (erg (erc rfl (erc (erD ec28_d _) rfl))) eran)) (spec_EqualRelations_s g17) (sd 2 rfl (evdn ?_))))
    rcases cond_some h with ⟨g18, h⟩ | ⟨g18, h⟩
    ·exact qT rfl g18 (rn 1 rfl (ls_ret ((by cases h; cases hr1; exact ⟨.inl rfl, rfl⟩))))
    ·exact qF rfl g18 (ls_skip (hK6 _ (rg (sp 3 rfl (evn (hN _ _ h (okr rfl)))))))
  ·exact qF rfl g5 (ls_exit (kXB1 (Option.some.inj h) _ trivial))
def spec_EqualHistories_B1 (a0 : Y59) (a1 : Y59) (rec : Int → Option (Sum (Unit) (Bool))) (y1 : Int) : Option (Sum (Unit) (Bool)) := cond (decide (y1 < (List.length a0.2 : Int))) (obind (geti a0.2 y1) fun e8 => obind (geti a1.2 y1) fun e10 => obind (spec_EqualDatabases e8 e10) fun v12 => cond (!v12) (some (.inr false)) (rec (IntKind.i64.wrap (y1 + 1)))) (some (.inl ()))
def spec_EqualHistories (a0 : Y59) (a1 : Y59) : Option (Bool) := cond (a0.1 != a1.1) (some false) (cond ((List.length a0.2 : Int) != (List.length a1.2 : Int)) (some false) (obind (loopF (spec_EqualHistories_B1 a0 a1) fz 0) fun o1 => (match o1 with
  | .inl _ => (some true)
  | .inr r => some r)))
theorem spec_EqualHistories_s {a0 : Y59} {a1 : Y59} {r : Bool} (h : spec_EqualHistories a0 a1 = some r) : SoundAt Tryz.prog 25 [.agg (c60_dddd a0), .agg (c60_dddd a1)] (.bool r) := by
 unfold spec_EqualHistories at h
 refine st lit25 rfl (rn 1 rfl (ls_seq_k fun K1 hK1 => rs (sp 6 rfl (?_))))
 rcases cond_some h with ⟨g2, h⟩ | ⟨g2, h⟩
 ·exact qg 11 g2 rfl (sp 8 rfl (evn (qT rfl rfl (rn 1 rfl (ls_ret ((by cases h; exact ⟨.inl rfl, rfl⟩)))))))
 ·refine qg 11 g2 rfl (sp 8 rfl (evn ?_))
  rcases cond_some h with ⟨g3, h⟩ | ⟨g3, h⟩
  ·exact qT rfl g3 (rn 1 rfl (qk [4] rfl (ls_ret ((by cases h; exact ⟨.inl rfl, rfl⟩)))))
  ·refine qF rfl g3 (ls_skip (hK1 _ (ls_seq_k fun K4 hK4 => rn 1 rfl ?_)))
   obtain ⟨o1, hl, hr1⟩ := ob_some h
   have kXB1 : (.inl ()) = o1 → Jn K4 [] := by
    intro h σ' hk
    subst h
    replace h := hr1
    try dsimp only at h
    exact hK4 _ (lh hk rfl (rn 1 rfl (ls_ret ((by cases h; exact ⟨.inl rfl, rfl⟩)))))
   refine ls_rec (fun (y1 : Int) => [(2, .box [nI a0.1, dL c26_ddd a0.2]), (3, .box [nI a1.1, dL c26_ddd a1.2]), (5, nI y1)]) _ _ _ _ hl (okr rfl) (fun _ => rfl) ?_
   rintro m y1 N h hN
   unfold spec_EqualHistories_B1 at h
   refine ls_seq_k fun K5 hK5 => rn 1 rfl ?_
   rcases cond_some h with ⟨g6, h⟩ | ⟨g6, h⟩
   ·refine qT rfl g6 (ls_skip (hK5 _ (ls_seq_k fun K7 hK7 => ls_blk (rd (by kernel_rfl) (sd 3 rfl (?_))))))
    obtain ⟨e8, g9, h⟩ := ob_some h
    refine ed rfl (qI rfl zc26_ddd g9 (sd 4 rfl (?_)))
    obtain ⟨e10, g11, h⟩ := ob_some h
    refine ed rfl (qI rfl zc26_ddd g11 (sd 1 rfl (?_)))
    obtain ⟨v12, g13, h⟩ := ob_some h
    refine ed rfl (qC (qa rfl (erg (erc (erD ec109_dd _) rfl)) (qa rfl (erg (erc (erD ec109_dd _) rfl)) eran)) (spec_EqualDatabases_s g13) (sd 1 rfl (evdn ?_)))
    rcases cond_some h with ⟨g14, h⟩ | ⟨g14, h⟩
    ·exact qT rfl g14 (rn 1 rfl (ls_ret ((by cases h; cases hr1; exact ⟨.inl rfl, rfl⟩))))
    ·exact qF rfl g14 (ls_skip (hK7 _ (rg (sp 3 rfl (evn (hN _ _ h (okr rfl)))))))
   ·exact qF rfl g6 (ls_exit (kXB1 (Option.some.inj h) _ trivial))
def impl_SnapshotAt (a0 : Y59) (a1 : Int) : Option ((List Y108) × Bool) := obind (impl_IsValidHistory a0) fun v2 => cond (!v2) (some ([], false)) (obind (impl_within a1 a0.1 (IntKind.i64.wrap ((IntKind.i64.wrap (a0.1 + (List.length a0.2 : Int))) - 1))) fun v5 => cond (!v5) (some ([], false)) (obind (geti a0.2 (IntKind.i64.wrap (a1 - a0.1))) fun e8 => obind (impl_copyDatabase e8) fun v10 => some (v10, true)))
theorem impl_SnapshotAt_s {a0 : Y59} {a1 : Int} {r : (List Y108) × Bool} (h : impl_SnapshotAt a0 a1 = some r) : SoundAt Tryz.prog 27 [.agg (c60_dddd a0), nI a1] (.tup [.agg [oL 109 c109_oo r.1], .bool r.2]) := by
 unfold impl_SnapshotAt at h
 refine st lit27 rfl (rn 1 rfl (ls_seq_k fun K1 hK1 => rs (sp 1 rfl (?_))))
 obtain ⟨v2, g3, h⟩ := ob_some h
 refine qC (qa rfl (erg (erc rfl (erc (erD ec26_ddd _) rfl))) eran) (impl_IsValidHistory_s g3) (sp 2 rfl (?_))
 rcases cond_some h with ⟨g4, h⟩ | ⟨g4, h⟩
 ·exact qg 9 g4 rfl (sp 13 rfl (evn (qT rfl rfl (rn 1 rfl (ls_ret ((by cases h; exact ⟨.inl rfl, rfl⟩)))))))
 ·refine qg 9 g4 rfl (sp 10 rfl (?_))
  obtain ⟨v5, g6, h⟩ := ob_some h
  refine oGR rfl rfl (qC (qs rfl (qs rfl (qs rfl eran))) (impl_within_s g6) (sp 2 rfl (evn (qk [1, 2, 4, 22] rfl ?_))))
  rcases cond_some h with ⟨g7, h⟩ | ⟨g7, h⟩
  ·exact qT rfl g7 (rn 1 rfl (ls_ret ((by cases h; exact ⟨.inl rfl, rfl⟩))))
  ·refine qF rfl g7 (ls_skip (hK1 _ (rs (sp 6 rfl (?_)))))
   obtain ⟨e8, g9, h⟩ := ob_some h
   refine qI rfl zc26_ddd g9 (sp 1 rfl (?_))
   obtain ⟨v10, g11, h⟩ := ob_some h
   exact qC (qa rfl (erg (erc (erD ec109_dd _) rfl)) eran) (impl_copyDatabase_s g11) (sp 2 rfl (evn (ls_ret ((by cases h; exact ⟨.inl rfl, rfl⟩)))))
theorem dkc96_o (x : Y95) : deepL (c96_o x) = true := (dcc rfl (dcc (dco (fun _ => rfl) 3 _) dcn))
def spec_l7Any_J1 (x6 : List Int) (x7 : Int) (x8 : Int) (x9 : Int) (x10 : List Y95) (x11 : List Int) : Option (Y29 × Y163) := some ((x9, x10, x11), (x6, x7, x8))
def spec_l7Any (a0 : Y163) : Option (Y29 × Y163) := obind (spec_l7Query a0) fun v1 => obind (spec_l1Below v1.2 14) fun v4 => cond (v4.1 == 0) (obind (spec_l1PickInt v4.2 [0, 6, IntKind.i64.wrap (v1.1.1 + 1)]) fun v13 => spec_l7Any_J1 v13.2.1 v13.2.2.1 v13.2.2.2 v13.1 v1.1.2.1 v1.1.2.2) (cond (v4.1 == 1) (obind (spec_l1Pick v4.2 ([[], [119], [114]])) fun v16 => chk (List.length v1.1.2.1 + List.length ([(v16.1, [0])]) ≤ lim) (spec_l7Any_J1 v16.2.1 v16.2.2.1 v16.2.2.2 v1.1.1 (v1.1.2.1 ++ ([(v16.1, [0])])) v1.1.2.2)) (cond (v4.1 == 2) (obind (spec_l1Below v4.2 6) fun v20 => chk (List.length v1.1.2.2 + List.length [IntKind.i64.wrap (v20.1 - 1)] ≤ lim) (spec_l7Any_J1 v20.2.1 v20.2.2.1 v20.2.2.2 v1.1.1 v1.1.2.1 (v1.1.2.2 ++ [IntKind.i64.wrap (v20.1 - 1)]))) (cond (v4.1 == 3) (chk (0 < List.length v1.1.2.1) (obind (geti v1.1.2.1 0) fun e26 => spec_l7Any_J1 v4.2.1 v4.2.2.1 v4.2.2.2 v1.1.1 (seti v1.1.2.1 0 (e26.1, [])) v1.1.2.2)) (cond (v4.1 == 4) (chk (0 < List.length v1.1.2.1) (obind (geti v1.1.2.1 0) fun e31 => chk (0 < List.length e31.2) (obind (geti v1.1.2.1 0) fun e35 => obind (spec_l1PickInt v4.2 [-1, 5]) fun v37 => obind (geti e31.2 0) fun e39 => spec_l7Any_J1 v37.2.1 v37.2.2.1 v37.2.2.2 v1.1.1 (seti v1.1.2.1 0 (e31.1, seti e31.2 0 v37.1)) v1.1.2.2))) (spec_l7Any_J1 v4.2.1 v4.2.2.1 v4.2.2.2 v1.1.1 v1.1.2.1 v1.1.2.2)))))
theorem spec_l7Any_s {a0 : Y163} {r : Y29 × Y163} (h : spec_l7Any a0 = some r) : PtrAt Tryz.prog 88 [aL cu8 a0.1, nI a0.2.1, nI a0.2.2] [] [aL cu8 r.2.1, nI r.2.2.1, nI r.2.2.2] (.agg (c30_ooo r.1)) := by
 unfold spec_l7Any at h
 refine stp lit88 rfl (rn 1 rfl (rs (sp 1 rfl (?_))))
 obtain ⟨v1, g2, h⟩ := ob_some h
 refine qP rfl rfl rfl rfl eran (spec_l7Query_s g2) (sp 2 rfl (evn (ls_seq_k fun K3 hK3 => rs (sp 1 rfl (?_)))))
 obtain ⟨v4, g5, h⟩ := ob_some h
 refine qP rfl rfl rfl rfl (qs rfl eran) (spec_l1Below_s g5) (evn (ls_blk (rn 1 rfl ?_)))
 have kJ1 : ∀ {x6 : List Int} {x7 : Int} {x8 : Int} {x9 : Int} {x10 : List Y95} {x11 : List Int}, spec_l7Any_J1 x6 x7 x8 x9 x10 x11 = some r → Jn K3 [(0, .box [aL cu8 x6, nI x7, nI x8]), (2, .box [nI 0, oL 96 c96_o [], oL 3 ci64 []]), (3, .box [nI x9, oL 96 c96_o x10, oL 3 ci64 x11])] := by
  intro x6 x7 x8 x9 x10 x11 h σ' hk
  unfold spec_l7Any_J1 at h
  exact hK3 _ (lh hk rfl (rn 1 rfl (ls_ret ((by cases h; exact ⟨.inl rfl, rfl, rfl⟩)))))
 rcases cond_some h with ⟨g12, h⟩ | ⟨g12, h⟩
 ·refine qT rfl g12 (rg (sp 4 rfl (qBs ci64 [0, 6, IntKind.i64.wrap (v1.1.1 + 1)] rfl rfl rfl zci64 (?_))))
  obtain ⟨v13, g14, h⟩ := ob_some h
  exact qP rfl rfl rfl rfl (qa rfl (erO eci64 _) eran) (spec_l1PickInt_s g14) (sp 2 rfl (evn (kJ1 h _ (okr rfl))))
 ·refine qF rfl g12 (rn 1 rfl ?_)
  rcases cond_some h with ⟨g15, h⟩ | ⟨g15, h⟩
  ·refine qT rfl g15 (rgd (by kernel_rfl) (sd 3 rfl (ed rfl (qBs cst [[], [119], [114]] rfl rfl rfl zcst (?_)))))
   obtain ⟨v16, g17, h⟩ := ob_some h
   refine ed rfl (qP rfl rfl rfl rfl (qa rfl (erO ecst _) eran) (spec_l1Pick_s g17) (ed rfl (qBs ci64 [0] rfl rfl rfl zci64 (sd 1 rfl (ed rfl (qBs c96_o [(v16.1, [0])] rfl rfl rfl zc96_o (?_)))))))
   obtain ⟨g18, h⟩ := chk_some h
   exact ed rfl (qA c96_o v1.1.2.1 ([(v16.1, [0])]) rfl rfl (flat_len zc96_o ([(v16.1, [0])])) rfl g18 (sd 2 rfl (evdn (kJ1 h _ (okr rfl)))))
  ·refine qF rfl g15 (rn 1 rfl ?_)
   rcases cond_some h with ⟨g19, h⟩ | ⟨g19, h⟩
   ·refine qT rfl g19 (rgd (by kernel_rfl) (sd 3 rfl (?_)))
    obtain ⟨v20, g21, h⟩ := ob_some h
    refine ed rfl (qP rfl rfl rfl rfl (qs rfl eran) (spec_l1Below_s g21) (sd 1 rfl (ed rfl (qBs ci64 [IntKind.i64.wrap (v20.1 - 1)] rfl rfl rfl zci64 (?_)))))
    obtain ⟨g22, h⟩ := chk_some h
    exact ed rfl (qA ci64 v1.1.2.2 [IntKind.i64.wrap (v20.1 - 1)] rfl rfl (flat_len zci64 [IntKind.i64.wrap (v20.1 - 1)]) rfl g22 (sd 2 rfl (evdn (kJ1 h _ (okr rfl)))))
   ·refine qF rfl g19 (rn 1 rfl (qk [0, 2, 3, 7, 39] rfl ?_))
    rcases cond_some h with ⟨g23, h⟩ | ⟨g23, h⟩
    ·refine qT rfl g23 (qk [0, 2, 3] rfl ?_)
     obtain ⟨g24, h⟩ := chk_some h
     refine ls_hg (gLb (q := 900003) (b := 3) [nI v1.1.1] [oL 3 ci64 v1.1.2.2] rfl rfl rfl g24 ?_)
     intro gg25 mm25
     refine qk [0, 2, 3, 900003] rfl (ls_gh (rg (sp 2 rfl (?_))))
     obtain ⟨e26, g27, h⟩ := ob_some h
     refine qIt rfl rfl rfl rfl g27 (sp 1 rfl (?_))
     refine qSt0 (y0 := e26) (i := 0) (es := 2) (e2 := 3) 1 (e26.1, []) [0, 2, 3] rfl rfl rfl rfl rfl rfl rfl rfl zc96_o g27 (fun x => sdL (dkc96_o x)) (yc (snc (sA (aca (fun _ => rfl) _)) (snc rfl (snc rfl rfl))) (yc (snc rfl (snc rfl (snc rfl rfl))) (yc (snc rfl (snc rfl (snc (sO (dco (fun _ => rfl) 3 _)) rfl))) yn))) (?_)
     exact evn (gDb (q := 900003) (b := 3) [nI v1.1.1] [oL 3 ci64 v1.1.2.2] rfl rfl rfl (sl rfl) (kJ1 h _ (okr rfl)))
    ·refine qF rfl g23 (rn 1 rfl ?_)
     rcases cond_some h with ⟨g28, h⟩ | ⟨g28, h⟩
     ·refine qT rfl g28 (qk [0, 2, 3] rfl ?_)
      obtain ⟨g29, h⟩ := chk_some h
      refine ls_hg (gLb (q := 900004) (b := 3) [nI v1.1.1] [oL 3 ci64 v1.1.2.2] rfl rfl rfl g29 ?_)
      intro gg30 mm30
      refine qk [0, 2, 3, 900004] rfl ?_
      obtain ⟨e31, g32, h⟩ := ob_some h
      obtain ⟨g33, h⟩ := chk_some h
      refine ls_hg (gLg (i := 0) (es := 2) 1 rfl rfl zc96_o g32 rfl rfl g33 ?_)
      intro gg34 mm34
      refine qk [0, 2, 3, 900003, 900004] rfl (ls_gh (ls_gh (rgt 8 (by kernel_rfl) (sd 2 rfl (?_)))))
      obtain ⟨e35, g36, h⟩ := ob_some h
      refine ed rfl (qIt rfl rfl rfl rfl g36 (sd 1 rfl (?_)))
      refine ed rfl (qLh rfl rfl rfl rfl rfl rfl (gk zc96_o g36 rfl) (?_))
      refine sd 1 rfl (ed rfl (qBs ci64 [-1, 5] rfl rfl rfl zci64 (?_)))
      obtain ⟨v37, g38, h⟩ := ob_some h
      refine ed rfl (qP rfl rfl rfl rfl (qa rfl (erO eci64 _) eran) (spec_l1PickInt_s g38) (evdn (gh_k ?_)))
      obtain ⟨e39, g40, h⟩ := ob_some h
      refine qIt rfl rfl rfl rfl g40 (?_)
      refine qSt (y0 := e39) (i := 0) (es := 1) 0 v37.1 [0, 2, 3, 900004] rfl rfl rfl rfl rfl rfl rfl rfl rfl rfl zci64 g40 (fun _ => rfl) (sdL (dcc rfl dcn)) (yc (snc (sA (aca (fun _ => rfl) _)) (snc rfl (snc rfl rfl))) (yc (snc rfl (snc rfl (snc rfl rfl))) (yc (snc rfl (snc rfl (snc (sO (dco (fun _ => rfl) 3 _)) rfl))) (yc (sgh (sdL (dcf dkc96_o _))) yn)))) (?_)
      exact evn (gDg (i := 0) (es := 2) 1 (e31.1, seti e31.2 0 v37.1) rfl rfl zc96_o g32 rfl (sl rfl) rfl (gDb (q := 900004) (b := 3) [nI v1.1.1] [oL 3 ci64 v1.1.2.2] rfl rfl rfl (sl rfl) (kJ1 h _ (okr rfl))))
     ·exact qF rfl g28 (ls_skip (kJ1 h _ (okr rfl)))
def spec_l16Cols_B2 (a1 : Int) (y5 : List Int) (rec : Int → Option (Int)) (y7 : Int) : Option (Int) := obind (spec_l7Find y5 y7) fun v13 => cond (decide (0 ≤ v13)) (chk (a1 ≠ 0) (rec (Int.tmod (IntKind.i64.wrap (y7 + 1)) a1))) (some y7)
def spec_l16Cols_B1 (a1 : Int) (rec : ((List Int) × Int × Int × (List Int)) → Option ((List Int) × Int × Int × (List Int))) (s : (List Int) × Int × Int × (List Int)) : Option ((List Int) × Int × Int × (List Int)) := match s with
  | (y2, y3, y4, y5) => cond (decide ((List.length y5 : Int) < a1)) (obind (spec_l1Below (y2, y3, y4) a1) fun v8 => obind (loopF (spec_l16Cols_B2 a1 y5) fz v8.1) fun z11 => chk (List.length y5 + List.length [z11] ≤ lim) (rec (v8.2.1, v8.2.2.1, v8.2.2.2, (y5 ++ [z11])))) (some (y2, y3, y4, y5))
def spec_l16Cols (a0 : Y163) (a1 : Int) : Option ((List Int) × Y163) := obind (loopF (spec_l16Cols_B1 a1) fz (a0.1, a0.2.1, a0.2.2, ([] : List Int))) fun o1 => (match o1 with
  | (z2, z3, z4, z5) => (some (z5, (z2, z3, z4))))
theorem spec_l16Cols_s {a0 : Y163} {a1 : Int} {r : (List Int) × Y163} (h : spec_l16Cols a0 a1 = some r) : PtrAt Tryz.prog 163 [aL cu8 a0.1, nI a0.2.1, nI a0.2.2] [nI a1] [aL cu8 r.2.1, nI r.2.2.1, nI r.2.2.2] (oL 3 ci64 r.1) := by
 unfold spec_l16Cols at h
 refine stp lit163 rfl (rn 1 rfl (rs (qBs ci64 [] rfl rfl rfl zci64 (sp 1 rfl (evn (ls_seq_k fun K1 hK1 => ?_))))))
 obtain ⟨o1, hl, hr1⟩ := ob_some h
 have kXB1 : ∀ {z2 : List Int} {z3 : Int} {z4 : Int} {z5 : List Int}, (z2, z3, z4, z5) = o1 → Jn K1 [(0, .box [aL cu8 z2, nI z3, nI z4]), (5, oL 3 ci64 z5)] := by
  intro z2 z3 z4 z5 h σ' hk
  subst h
  replace h := hr1
  try dsimp only at h
  exact hK1 _ (lh hk rfl (rn 1 rfl (ls_ret ((by cases h; exact ⟨.inl rfl, rfl, rfl⟩)))))
 refine ls_rec (fun (s : (List Int) × Int × Int × (List Int)) => match s with | (y2, y3, y4, y5) => [(0, .box [aL cu8 y2, nI y3, nI y4]), (1, nI a1), (5, oL 3 ci64 y5)]) _ _ _ _ hl (okr rfl) (fun _ => rfl) ?_
 rintro m ⟨y2, y3, y4, y5⟩ N h hN
 unfold spec_l16Cols_B1 at h
 dsimp only at h
 refine ls_seq_k fun K6 hK6 => rn 1 rfl ?_
 rcases cond_some h with ⟨g7, h⟩ | ⟨g7, h⟩
 ·refine qT rfl g7 (ls_skip (hK6 _ (ls_blk (rs (sp 2 rfl (?_))))))
  obtain ⟨v8, g9, h⟩ := ob_some h
  refine qP rfl rfl rfl rfl (qs rfl eran) (spec_l1Below_s g9) (sp 1 rfl (evn (ls_seq_k fun K10 hK10 => ?_)))
  obtain ⟨o2, hl, hr2⟩ := ob_some h
  have kXB2 : ∀ {z11 : Int}, z11 = o2 → Jn K10 [(0, .box (c164_a v8.2)), (1, nI a1), (5, oL 3 ci64 y5), (6, nI z11)] := by
   intro z11 h σ' hk
   subst h
   replace h := hr2
   try dsimp only at h
   refine hK10 _ (lh hk rfl (rg (sp 2 rfl (qBs ci64 [z11] rfl rfl rfl zci64 (?_)))))
   obtain ⟨g17, h⟩ := chk_some h
   exact qA ci64 y5 [z11] rfl rfl (flat_len zci64 [z11]) rfl g17 (sp 1 rfl (evn (hN _ _ h (okr rfl))))
  refine ls_rec (fun (y7 : Int) => [(0, .box (c164_a v8.2)), (1, nI a1), (5, oL 3 ci64 y5), (6, nI y7)]) _ _ _ _ hl (okr rfl) (fun _ => rfl) ?_
  rintro m y7 N h hN
  unfold spec_l16Cols_B2 at h
  refine ls_seq_k fun K12 hK12 => rs (sp 2 rfl (?_))
  obtain ⟨v13, g14, h⟩ := ob_some h
  refine qC (qa rfl (erD eci64 _) (qs rfl eran)) (spec_l7Find_s g14) (sp 1 rfl (evn ?_))
  rcases cond_some h with ⟨g15, h⟩ | ⟨g15, h⟩
  ·refine qT rfl g15 (ls_skip (hK12 _ (ls_blk (rg (sp 3 rfl (?_))))))
   obtain ⟨g16, h⟩ := chk_some h
   exact qB rfl ⟨rfl, g16⟩ rfl (sp 1 rfl (evn (hN _ _ h (okr rfl))))
  ·exact qF rfl g15 (ls_exit (kXB2 (Option.some.inj h) _ (okr rfl)))
 ·exact qF rfl g7 (ls_exit (kXB1 (Option.some.inj h) _ (okr rfl)))
def spec_l19Order_J2 (x9 : List Int) (x10 : Int) (x11 : Int) (x12 : List Int) : Option ((List Int) × Y163) := some (x12, (x9, x10, x11))
def spec_l19Order_J1 (v1 : (List Int) × Y163) (x5 : List Int) (x6 : Int) (x7 : Int) (x8 : Bool) : Option ((List Int) × Y163) := cond x8 (chk (0 < List.length v1.1) (obind (spec_l1Below (x5, x6, x7) 6) fun v16 => obind (geti v1.1 0) fun e18 => spec_l19Order_J2 v16.2.1 v16.2.2.1 v16.2.2.2 (seti v1.1 0 v16.1))) (spec_l19Order_J2 x5 x6 x7 v1.1)
def spec_l19Order (a0 : Y163) (a1 : Y29) : Option ((List Int) × Y163) := obind (spec_l16Cols a0 (if 0 < (if a1.1 < 5 then a1.1 else 5) then (if a1.1 < 5 then a1.1 else 5) else 0)) fun v1 => cond (decide (0 < (List.length v1.1 : Int))) (obind (spec_l1Once v1.2 14) fun v21 => spec_l19Order_J1 v1 v21.2.1 v21.2.2.1 v21.2.2.2 v21.1) (spec_l19Order_J1 v1 v1.2.1 v1.2.2.1 v1.2.2.2 false)
theorem spec_l19Order_s {a0 : Y163} {a1 : Y29} {r : (List Int) × Y163} (h : spec_l19Order a0 a1 = some r) : PtrAt Tryz.prog 89 [aL cu8 a0.1, nI a0.2.1, nI a0.2.2] [.agg (c30_ddd a1)] [aL cu8 r.2.1, nI r.2.2.1, nI r.2.2.2] (oL 3 ci64 r.1) := by
 unfold spec_l19Order at h
 refine stp lit89 rfl (rn 1 rfl (rs (sp 5 rfl (?_))))
 obtain ⟨v1, g2, h⟩ := ob_some h
 refine qP rfl rfl rfl rfl (qs rfl eran) (spec_l16Cols_s g2) (sp 1 rfl (evn (ls_seq_k fun K3 hK3 => rk fun K4 hK4 => ?_)))
 have kJ1 : ∀ {x5 : List Int} {x6 : Int} {x7 : Int} {x8 : Bool}, spec_l19Order_J1 v1 x5 x6 x7 x8 = some r → Jn K4 [(0, .box [aL cu8 x5, nI x6, nI x7]), (5, oL 3 ci64 v1.1), (18, .bool x8)] := by
  intro x5 x6 x7 x8 h σ' hk
  unfold spec_l19Order_J1 at h
  refine hK4 _ (lh hk rfl ?_)
  have kJ2 : ∀ {x9 : List Int} {x10 : Int} {x11 : Int} {x12 : List Int}, spec_l19Order_J2 x9 x10 x11 x12 = some r → Jn K3 [(0, .box [aL cu8 x9, nI x10, nI x11]), (5, oL 3 ci64 x12)] := by
   intro x9 x10 x11 x12 h σ' hk
   unfold spec_l19Order_J2 at h
   exact hK3 _ (lh hk rfl (rn 1 rfl (ls_ret ((by cases h; exact ⟨.inl rfl, rfl, rfl⟩)))))
  rcases cond_some h with ⟨g13, h⟩ | ⟨g13, h⟩
  ·refine qT rfl g13 (qk [0, 5] rfl ?_)
   obtain ⟨g14, h⟩ := chk_some h
   refine ls_hg (gLs (q := 900003) (b := 5) rfl rfl rfl g14 ?_)
   intro gg15 mm15
   refine qk [0, 5, 900003] rfl (ls_gh (rg (sp 2 rfl (?_))))
   obtain ⟨v16, g17, h⟩ := ob_some h
   refine qP rfl rfl rfl rfl (qs rfl eran) (spec_l1Below_s g17) (?_)
   obtain ⟨e18, g19, h⟩ := ob_some h
   refine qIt rfl rfl rfl rfl g19 (?_)
   refine qSt (y0 := e18) (i := 0) (es := 1) 0 v16.1 [0, 5] rfl rfl rfl rfl rfl rfl rfl rfl rfl rfl zci64 g19 (fun _ => rfl) (sdL (dcc rfl dcn)) (yc (snc (sA (aca (fun _ => rfl) _)) (snc rfl (snc rfl rfl))) (yc rfl yn)) (?_)
   exact evn (gDs (q := 900003) (b := 5) rfl rfl rfl (sl rfl) (kJ2 h _ (okr rfl)))
  ·exact qF rfl g13 (ls_skip (kJ2 h _ (okr rfl)))
 refine sp 4 rfl (?_)
 rcases cond_some h with ⟨g20, h⟩ | ⟨g20, h⟩
 ·refine qg 15 g20 rfl (sp 1 rfl (?_))
  obtain ⟨v21, g22, h⟩ := ob_some h
  exact oGR rfl rfl (qP rfl rfl rfl rfl (qs rfl eran) (spec_l1Once_s g22) (sp 1 rfl (evn (kJ1 h _ (okr rfl)))))
 ·exact qg 15 g20 rfl (sp 3 rfl (evn (kJ1 h _ (okr rfl))))
def c30_dod (x : Y29) : List V := [nI x.1, dL c96_o x.2.1, dL ci64 x.2.2]
theorem zc30_dod (x : Y29) : (c30_dod x).length = 3 := rfl
theorem ec30_dod (x : Y29) : erL (c30_dod x) = c30_ddd x := (erc rfl (erc (erD ec96_o _) (erc (erD eci64 _) rfl)))
def spec_DrawIsValidOrder (a0 : List Int) : Option (Y29 × (List Int)) := obind (spec_l1New a0) fun v1 => obind (spec_l7Any v1) fun v3 => obind (spec_l19Order v3.2 v3.1) fun v5 => some (v3.1, v5.1)
theorem spec_DrawIsValidOrder_s {a0 : List Int} {r : Y29 × (List Int)} (h : spec_DrawIsValidOrder a0 = some r) : SoundAt Tryz.prog 29 [aL cu8 a0] (.tup [.agg (c30_dod r.1), oL 3 ci64 r.2]) := by
 unfold spec_DrawIsValidOrder at h
 refine st lit29 rfl (rn 1 rfl (rs (sp 1 rfl (?_))))
 obtain ⟨v1, g2, h⟩ := ob_some h
 refine qN rfl rfl rfl rfl (spec_l1New_s g2) (sp 1 rfl (evn (rs (sp 1 rfl (?_)))))
 obtain ⟨v3, g4, h⟩ := ob_some h
 refine qP rfl rfl rfl rfl eran (spec_l7Any_s g4) (sp 2 rfl (evn (rd (by kernel_rfl) (sd 3 rfl (?_)))))
 obtain ⟨v5, g6, h⟩ := ob_some h
 exact ed rfl (qP rfl rfl rfl rfl (qa rfl (erg (erc rfl (erc (erD ec96_o _) (erc (erD eci64 _) rfl)))) eran) (spec_l19Order_s g6) (sd 2 rfl (evdn (ls_ret ((by cases h; exact ⟨.inl rfl, rfl⟩))))))
def impl_indexOf_B1 (a0 : List Int) (a1 : Int) (rec : Int → Option (Sum (Unit) (Int))) (y1 : Int) : Option (Sum (Unit) (Int)) := cond (decide (y1 < (List.length a0 : Int))) (obind (geti a0 y1) fun e5 => cond (e5 == a1) (some (.inr y1)) (rec (IntKind.i64.wrap (y1 + 1)))) (some (.inl ()))
def impl_indexOf (a0 : List Int) (a1 : Int) : Option (Int) := obind (loopF (impl_indexOf_B1 a0 a1) fz 0) fun o1 => (match o1 with
  | .inl _ => (some (-1))
  | .inr r => some r)
theorem impl_indexOf_s {a0 : List Int} {a1 : Int} {r : Int} (h : impl_indexOf a0 a1 = some r) : SoundAt Tryz.prog 190 [dL ci64 a0, nI a1] (nI r) := by
 unfold impl_indexOf at h
 refine st lit190 rfl (rn 1 rfl (ls_seq_k fun K1 hK1 => rn 1 rfl ?_))
 obtain ⟨o1, hl, hr1⟩ := ob_some h
 have kXB1 : (.inl ()) = o1 → Jn K1 [] := by
  intro h σ' hk
  subst h
  replace h := hr1
  try dsimp only at h
  exact hK1 _ (lh hk rfl (rn 1 rfl (ls_ret ((by cases h; exact ⟨.inl rfl, rfl⟩)))))
 refine ls_rec (fun (y1 : Int) => [(1, nI a1), (7, dL ci64 a0), (8, nI (List.length a0 : Int)), (9, nI y1)]) _ _ _ _ hl (okr rfl) (fun _ => rfl) ?_
 rintro m y1 N h hN
 unfold impl_indexOf_B1 at h
 refine rn 1 rfl (ls_seq_k fun K2 hK2 => ?_)
 rcases cond_some h with ⟨g3, h⟩ | ⟨g3, h⟩
 ·refine qT rfl g3 (ls_skip (hK2 _ (ls_seq_k fun K4 hK4 => ls_blk (rs (sp 1 rfl (?_))))))
  obtain ⟨e5, g6, h⟩ := ob_some h
  refine qI rfl zci64 g6 (sp 3 rfl (evn (rn 1 rfl ?_)))
  rcases cond_some h with ⟨g7, h⟩ | ⟨g7, h⟩
  ·exact qT rfl g7 (rn 1 rfl (ls_ret ((by cases h; cases hr1; exact ⟨.inl rfl, rfl⟩))))
  ·exact qF rfl g7 (ls_skip (hK4 _ (rg (sp 2 rfl (evn (hN _ _ h (okr rfl)))))))
 ·exact qF rfl g3 (ls_exit (kXB1 (Option.some.inj h) _ trivial))
def impl_hasInt (a0 : List Int) (a1 : Int) : Option (Bool) := obind (impl_indexOf a0 a1) fun v1 => some (decide (0 ≤ v1))
theorem impl_hasInt_s {a0 : List Int} {a1 : Int} {r : Bool} (h : impl_hasInt a0 a1 = some r) : SoundAt Tryz.prog 122 [dL ci64 a0, nI a1] (.bool r) := by
 unfold impl_hasInt at h
 refine st lit122 rfl (rn 1 rfl (rs (sp 2 rfl (?_))))
 obtain ⟨v1, g2, h⟩ := ob_some h
 exact qC (qa rfl (erD eci64 _) (qs rfl eran)) (impl_indexOf_s g2) (sp 2 rfl (evn (ls_ret ((by cases h; exact ⟨.inl rfl, rfl⟩)))))
def impl_isSetOf_B1 (a0 : List Int) (a1 : Int) (rec : Int → Option (Sum (Unit) (Bool))) (y1 : Int) : Option (Sum (Unit) (Bool)) := cond (decide (y1 < (List.length a0 : Int))) (obind (geti a0 y1) fun e5 => obind (impl_within e5 0 (IntKind.i64.wrap (a1 - 1))) fun v7 => cond (!v7) (some (.inr false)) (chk ((0 : Int) ≤ 0 ∧ 0 ≤ y1 ∧ y1 ≤ (List.length a0 : Int)) (obind (impl_hasInt (subl a0 0 y1) e5) fun v11 => cond v11 (some (.inr false)) (rec (IntKind.i64.wrap (y1 + 1)))))) (some (.inl ()))
def impl_isSetOf (a0 : List Int) (a1 : Int) : Option (Bool) := obind (loopF (impl_isSetOf_B1 a0 a1) fz 0) fun o1 => (match o1 with
  | .inl _ => (some true)
  | .inr r => some r)
theorem impl_isSetOf_s {a0 : List Int} {a1 : Int} {r : Bool} (h : impl_isSetOf a0 a1 = some r) : SoundAt Tryz.prog 165 [dL ci64 a0, nI a1] (.bool r) := by
 unfold impl_isSetOf at h
 refine st lit165 rfl (rn 1 rfl (ls_seq_k fun K1 hK1 => rn 1 rfl ?_))
 obtain ⟨o1, hl, hr1⟩ := ob_some h
 have kXB1 : (.inl ()) = o1 → Jn K1 [] := by
  intro h σ' hk
  subst h
  replace h := hr1
  try dsimp only at h
  exact hK1 _ (lh hk rfl (rn 1 rfl (ls_ret ((by cases h; exact ⟨.inl rfl, rfl⟩)))))
 refine ls_rec (fun (y1 : Int) => [(0, dL ci64 a0), (1, nI a1), (7, dL ci64 a0), (8, nI (List.length a0 : Int)), (9, nI y1)]) _ _ _ _ hl (okr rfl) (fun _ => rfl) ?_
 rintro m y1 N h hN
 unfold impl_isSetOf_B1 at h
 refine rn 1 rfl (ls_seq_k fun K2 hK2 => ?_)
 rcases cond_some h with ⟨g3, h⟩ | ⟨g3, h⟩
 ·refine qT rfl g3 (ls_skip (hK2 _ (ls_seq_k fun K4 hK4 => ls_blk (rs (sp 1 rfl (?_))))))
  obtain ⟨e5, g6, h⟩ := ob_some h
  refine qI rfl zci64 g6 (sp 3 rfl (evn (rs (sp 3 rfl (?_)))))
  obtain ⟨v7, g8, h⟩ := ob_some h
  refine qC (qs rfl (qs rfl (qs rfl eran))) (impl_within_s g8) (sp 2 rfl (?_))
  rcases cond_some h with ⟨g9, h⟩ | ⟨g9, h⟩
  ·exact qg 19 g9 rfl (sp 6 rfl (evn (qT rfl rfl (rn 1 rfl (ls_ret ((by cases h; cases hr1; exact ⟨.inl rfl, rfl⟩)))))))
  ·refine qg 19 g9 rfl (sp 2 rfl (?_))
   obtain ⟨g10, h⟩ := chk_some h
   refine oGR rfl rfl (qSl rfl zci64 g10 (sp 1 rfl (?_)))
   obtain ⟨v11, g12, h⟩ := ob_some h
   refine oGR rfl rfl (qC (qa rfl (erD eci64 _) (qs rfl eran)) (impl_hasInt_s g12) (sp 1 rfl (evn (qk [0, 1, 7, 8, 9, 25] rfl ?_))))
   rcases cond_some h with ⟨g13, h⟩ | ⟨g13, h⟩
   ·exact qT rfl g13 (rn 1 rfl (ls_ret ((by cases h; cases hr1; exact ⟨.inl rfl, rfl⟩))))
   ·exact qF rfl g13 (ls_skip (hK4 _ (rg (sp 2 rfl (evn (hN _ _ h (okr rfl)))))))
 ·exact qF rfl g3 (ls_exit (kXB1 (Option.some.inj h) _ trivial))
def impl_IsValidQuery_B2 (a0 : Y29) (e17 : Y95) (rec : ((List Bool) × Int) → Option (Sum ((List Bool)) (Bool))) (s : (List Bool) × Int) : Option (Sum ((List Bool)) (Bool)) := match s with
  | (y7, y8) => cond (decide (y8 < (List.length e17.2 : Int))) (obind (geti e17.2 y8) fun e30 => obind (impl_within e30 0 (IntKind.i64.wrap (a0.1 - 1))) fun v33 => cond (!v33) (some (.inr false)) (obind (geti y7 e30) fun e36 => rec ((seti y7 e30 true), (IntKind.i64.wrap (y8 + 1))))) (some (.inl y7))
def impl_IsValidQuery_B1 (a0 : Y29) (rec : ((List Bool) × Int) → Option (Sum ((List Bool)) (Bool))) (s : (List Bool) × Int) : Option (Sum ((List Bool)) (Bool)) := match s with
  | (y3, y4) => cond (decide (y4 < (List.length a0.2.1 : Int))) (obind (geti a0.2.1 y4) fun e17 => obind (impl_IsValidName e17.1) fun v20 => cond (!v20) (some (.inr false)) (obind (impl_within (List.length e17.2 : Int) 1 5) fun v23 => cond (!v23) (some (.inr false)) (obind (loopF (impl_IsValidQuery_B2 a0 e17) fz (y3, 0)) fun o2 => (match o2 with
  | .inl z26 => (rec (z26, (IntKind.i64.wrap (y4 + 1))))
  | .inr r => some (.inr r))))) (some (.inl y3))
def impl_IsValidQuery_B3 (z13 : List Bool) (rec : Int → Option (Sum (Unit) (Bool))) (y9 : Int) : Option (Sum (Unit) (Bool)) := cond (decide (y9 < (List.length z13 : Int))) (obind (geti z13 y9) fun e42 => cond (!e42) (some (.inr false)) (rec (IntKind.i64.wrap (y9 + 1)))) (some (.inl ()))
def impl_IsValidQuery (a0 : Y29) : Option (Bool) := obind (impl_within a0.1 1 5) fun v2 => cond (!v2) (some false) (obind (impl_within (List.length a0.2.1 : Int) 1 4) fun v5 => cond (!v5) (some false) (obind (impl_isSetOf a0.2.2 a0.1) fun v8 => cond (!v8) (some false) (chk ((0 : Int) ≤ a0.1 ∧ Int.toNat a0.1 ≤ lim) (obind (loopF (impl_IsValidQuery_B1 a0) fz ((List.replicate (Int.toNat a0.1) (false : Bool)), 0)) fun o1 => (match o1 with
  | .inl z13 => (obind (loopF (impl_IsValidQuery_B3 z13) fz 0) fun o3 => (match o3 with
  | .inl _ => (some true)
  | .inr r => some r))
  | .inr r => some r)))))
theorem impl_IsValidQuery_s {a0 : Y29} {r : Bool} (h : impl_IsValidQuery a0 = some r) : SoundAt Tryz.prog 120 [.agg (c30_ddd a0)] (.bool r) := by
 unfold impl_IsValidQuery at h
 refine st lit120 rfl (rn 2 rfl (ls_seq_k fun K1 hK1 => rs (sp 1 rfl (?_))))
 obtain ⟨v2, g3, h⟩ := ob_some h
 refine qC (qs rfl (qs rfl (qs rfl eran))) (impl_within_s g3) (sp 2 rfl (?_))
 rcases cond_some h with ⟨g4, h⟩ | ⟨g4, h⟩
 ·exact qg 16 g4 rfl (sp 13 rfl (evn (qT rfl rfl (rn 1 rfl (ls_ret ((by cases h; exact ⟨.inl rfl, rfl⟩)))))))
 ·refine qg 16 g4 rfl (sp 3 rfl (?_))
  obtain ⟨v5, g6, h⟩ := ob_some h
  refine oGR rfl rfl (qC (qs rfl (qs rfl (qs rfl eran))) (impl_within_s g6) (sp 3 rfl (?_)))
  rcases cond_some h with ⟨g7, h⟩ | ⟨g7, h⟩
  ·exact qg 23 g7 rfl (sp 6 rfl (evn (qk [1, 3, 29] rfl (qT rfl rfl (rn 1 rfl (ls_ret ((by cases h; exact ⟨.inl rfl, rfl⟩))))))))
  ·refine qg 23 g7 rfl (sp 3 rfl (?_))
   obtain ⟨v8, g9, h⟩ := ob_some h
   refine oGR rfl rfl (qC (qa rfl (erD eci64 _) (qs rfl eran)) (impl_isSetOf_s g9) (sp 2 rfl (evn ?_)))
   rcases cond_some h with ⟨g10, h⟩ | ⟨g10, h⟩
   ·exact qT rfl g10 (rn 1 rfl (ls_ret ((by cases h; exact ⟨.inl rfl, rfl⟩))))
   ·refine qF rfl g10 (ls_skip (hK1 _ (rs (sp 1 rfl (?_)))))
    obtain ⟨g11, h⟩ := chk_some h
    refine qMu cbl (false : Bool) rfl rfl rfl rfl g11 rfl (qAu rfl rfl rfl rfl (evn (ls_seq_k fun K12 hK12 => rn 1 rfl ?_)))
    obtain ⟨o1, hl, hr1⟩ := ob_some h
    have kXB1 : ∀ {z13 : List Bool}, (.inl z13) = o1 → Jn K12 [(4, wL 4 cbl z13)] := by
     intro z13 h σ' hk
     subst h
     replace h := hr1
     try dsimp only at h
     refine hK12 _ (lh hk rfl (ls_seq_k fun K38 hK38 => rn 1 rfl ?_))
     obtain ⟨o3, hl, hr3⟩ := ob_some h
     have kXB3 : (.inl ()) = o3 → Jn K38 [] := by
      intro h σ' hk
      subst h
      replace h := hr3
      try dsimp only at h
      exact hK38 _ (lh hk rfl (rn 1 rfl (ls_ret ((by cases h; exact ⟨.inl rfl, rfl⟩)))))
     refine ls_rec (fun (y9 : Int) => [(4, wL 4 cbl z13), (67, .same 4), (68, nI (List.length z13 : Int)), (69, nI y9)]) _ _ _ _ hl (okr rfl) (fun _ => rfl) ?_
     rintro m y9 N h hN
     unfold impl_IsValidQuery_B3 at h
     refine rn 1 rfl (ls_seq_k fun K39 hK39 => ?_)
     rcases cond_some h with ⟨g40, h⟩ | ⟨g40, h⟩
     ·refine qT rfl g40 (ls_skip (hK39 _ (ls_seq_k fun K41 hK41 => ls_blk (rs ?_))))
      obtain ⟨e42, g43, h⟩ := ob_some h
      refine qIu rfl ⟨(geti_some g43).1, (geti_some g43).2.1⟩ (qLu 0 rfl rfl rfl zcbl g43 rfl rfl rfl (sp 1 rfl (evn (rn 1 rfl ?_))))
      rcases cond_some h with ⟨g44, h⟩ | ⟨g44, h⟩
      ·exact qT rfl g44 (rn 1 rfl (ls_ret ((by cases h; cases hr3; exact ⟨.inl rfl, rfl⟩))))
      ·exact qF rfl g44 (ls_skip (hK41 _ (rg (sp 2 rfl (evn (hN _ _ h (okr rfl)))))))
     ·exact qF rfl g40 (ls_exit (kXB3 (Option.some.inj h) _ trivial))
    refine ls_rec (fun (s : (List Bool) × Int) => match s with | (y3, y4) => [(3, nI a0.1), (4, wL 4 cbl y3), (33, dL c96_d a0.2.1), (34, nI (List.length a0.2.1 : Int)), (35, nI y4)]) _ _ _ _ hl (okr rfl) (fun _ => rfl) ?_
    rintro m ⟨y3, y4⟩ N h hN
    unfold impl_IsValidQuery_B1 at h
    dsimp only at h
    refine rn 1 rfl (ls_seq_k fun K14 hK14 => ?_)
    rcases cond_some h with ⟨g15, h⟩ | ⟨g15, h⟩
    ·refine qT rfl g15 (ls_skip (hK14 _ (ls_seq_k fun K16 hK16 => ls_blk (rs ?_))))
     obtain ⟨e17, g18, h⟩ := ob_some h
     refine qI rfl zc96_d g18 (sp 3 rfl (evn (ls_seq_k fun K19 hK19 => rs (sp 2 rfl (?_)))))
     obtain ⟨v20, g21, h⟩ := ob_some h
     refine qC (qs rfl eran) (impl_IsValidName_s g21) (sp 2 rfl (?_))
     rcases cond_some h with ⟨g22, h⟩ | ⟨g22, h⟩
     ·exact qg 43 g22 rfl (sp 6 rfl (evn (qT rfl rfl (rn 1 rfl (ls_ret ((by cases h; cases hr1; exact ⟨.inl rfl, rfl⟩)))))))
     ·refine qg 43 g22 rfl (sp 3 rfl (?_))
      obtain ⟨v23, g24, h⟩ := ob_some h
      refine oGR rfl rfl (qC (qs rfl (qs rfl (qs rfl eran))) (impl_within_s g24) (sp 2 rfl (evn (qk [3, 4, 6, 33, 34, 35, 49] rfl ?_))))
      rcases cond_some h with ⟨g25, h⟩ | ⟨g25, h⟩
      ·exact qT rfl g25 (rn 1 rfl (ls_ret ((by cases h; cases hr1; exact ⟨.inl rfl, rfl⟩))))
      ·refine qF rfl g25 (ls_skip (hK19 _ (rn 1 rfl ?_)))
       obtain ⟨o2, hl, hr2⟩ := ob_some h
       have kXB2 : ∀ {z26 : List Bool}, (.inl z26) = o2 → Jn K16 [(3, nI a0.1), (4, wL 4 cbl z26), (33, dL c96_d a0.2.1), (34, nI (List.length a0.2.1 : Int)), (35, nI y4)] := by
        intro z26 h σ' hk
        subst h
        replace h := hr2
        try dsimp only at h
        exact hK16 _ (lh hk rfl (rg (sp 2 rfl (evn (hN _ _ h (okr rfl))))))
       refine ls_rec (fun (s : (List Bool) × Int) => match s with | (y7, y8) => [(3, nI a0.1), (4, wL 4 cbl y7), (33, dL c96_d a0.2.1), (34, nI (List.length a0.2.1 : Int)), (35, nI y4), (51, dL ci64 e17.2), (52, nI (List.length e17.2 : Int)), (53, nI y8)]) _ _ _ _ hl (okr rfl) (fun _ => rfl) ?_
       rintro m ⟨y7, y8⟩ N h hN
       unfold impl_IsValidQuery_B2 at h
       dsimp only at h
       refine rn 1 rfl (ls_seq_k fun K27 hK27 => ?_)
       rcases cond_some h with ⟨g28, h⟩ | ⟨g28, h⟩
       ·refine qT rfl g28 (ls_skip (hK27 _ (ls_seq_k fun K29 hK29 => ls_blk (rs ?_))))
        obtain ⟨e30, g31, h⟩ := ob_some h
        refine qI rfl zci64 g31 (sp 2 rfl (evn (ls_seq_k fun K32 hK32 => rs (sp 3 rfl (?_)))))
        obtain ⟨v33, g34, h⟩ := ob_some h
        refine qC (qs rfl (qs rfl (qs rfl eran))) (impl_within_s g34) (sp 1 rfl (evn ?_))
        rcases cond_some h with ⟨g35, h⟩ | ⟨g35, h⟩
        ·exact qT rfl g35 (rn 1 rfl (ls_ret ((by cases h; cases hr2; cases hr1; exact ⟨.inl rfl, rfl⟩))))
        ·refine qF rfl g35 (ls_skip (hK32 _ (rg (sp 2 rfl (?_)))))
         obtain ⟨e36, g37, h⟩ := ob_some h
         exact qIu rfl ⟨(geti_some g37).1, (geti_some g37).2.1⟩ (qSu true rfl rfl zcbl ⟨(geti_some g37).1, (geti_some g37).2.1⟩ rfl rfl rfl rfl rfl rfl (evn (hK29 _ (rg (sp 2 rfl (evn (hN _ _ h (okr rfl))))))))
       ·exact qF rfl g28 (ls_exit (kXB2 (Option.some.inj h) _ (okr rfl)))
    ·exact qF rfl g15 (ls_exit (kXB1 (Option.some.inj h) _ (okr rfl)))
def impl_LookupRelation_J1  : Option (Y37 × Bool) := some ((0, []), false)
def impl_LookupRelation_B2 (a0 : List Y108) (a1 : List UInt8) (rec : Int → Option (Sum (Unit) (Y37 × Bool))) (y2 : Int) : Option (Sum (Unit) (Y37 × Bool)) := cond (decide (y2 < (List.length a0 : Int))) (obind (geti a0 y2) fun e8 => cond (e8.1 == a1) (obind (impl_copyRelation e8.2) fun v11 => some (.inr (v11, true))) (rec (IntKind.i64.wrap (y2 + 1)))) (some (.inl ()))
def impl_LookupRelation (a0 : List Y108) (a1 : List UInt8) : Option (Y37 × Bool) := obind (impl_IsValidDatabase a0) fun v2 => cond v2 (obind (loopF (impl_LookupRelation_B2 a0 a1) fz 0) fun o2 => (match o2 with
  | .inl _ => (impl_LookupRelation_J1 )
  | .inr r => some r)) (impl_LookupRelation_J1 )
theorem impl_LookupRelation_s {a0 : List Y108} {a1 : List UInt8} {r : Y37 × Bool} (h : impl_LookupRelation a0 a1 = some r) : SoundAt Tryz.prog 164 [.agg [dL c109_dd a0], .str a1] (.tup [.agg (c38_oo r.1), .bool r.2]) := by
 unfold impl_LookupRelation at h
 refine st lit164 rfl (rn 1 rfl (ls_seq_k fun K1 hK1 => rs (sp 1 rfl (?_))))
 obtain ⟨v2, g3, h⟩ := ob_some h
 refine qC (qa rfl (erg (erc (erD ec109_dd _) rfl)) eran) (impl_IsValidDatabase_s g3) (evn ?_)
 have kJ1 : impl_LookupRelation_J1 = some r → Jn K1 [(4, .box [nI 0, oL 28 c28_o []])] := by
  intro h σ' hk
  unfold impl_LookupRelation_J1 at h
  exact hK1 _ (lh hk rfl (rn 1 rfl (ls_ret ((by cases h; exact ⟨.inl rfl, rfl⟩)))))
 rcases cond_some h with ⟨g4, h⟩ | ⟨g4, h⟩
 ·refine qT rfl g4 (rn 1 rfl ?_)
  obtain ⟨o2, hl, hr2⟩ := ob_some h
  have kXB2 : (.inl ()) = o2 → Jn K1 [(4, .box [nI 0, oL 28 c28_o []])] := by
   intro h σ' hk
   subst h
   replace h := hr2
   try dsimp only at h
   exact kJ1 h _ ⟨hk.1, trivial⟩
  refine ls_rec (fun (y2 : Int) => [(1, .str a1), (4, .box [nI 0, oL 28 c28_o []]), (11, dL c109_dd a0), (12, nI (List.length a0 : Int)), (13, nI y2)]) _ _ _ _ hl (okr rfl) (fun _ => rfl) ?_
  rintro m y2 N h hN
  unfold impl_LookupRelation_B2 at h
  refine rn 1 rfl (ls_seq_k fun K5 hK5 => ?_)
  rcases cond_some h with ⟨g6, h⟩ | ⟨g6, h⟩
  ·refine qT rfl g6 (ls_skip (hK5 _ (ls_seq_k fun K7 hK7 => ls_blk (rs ?_))))
   obtain ⟨e8, g9, h⟩ := ob_some h
   refine qI rfl zc109_dd g9 (sp 3 rfl (evn (rn 1 rfl ?_)))
   rcases cond_some h with ⟨g10, h⟩ | ⟨g10, h⟩
   ·refine qT rfl g10 (rs (sp 2 rfl (?_)))
    obtain ⟨v11, g12, h⟩ := ob_some h
    exact qC (qa rfl (erg (erc rfl (erc (erD ec28_d _) rfl))) eran) (impl_copyRelation_s g12) (sp 2 rfl (evn (ls_ret ((by cases h; cases hr2; exact ⟨.inl rfl, rfl⟩)))))
   ·exact qF rfl g10 (ls_skip (hK7 _ (rg (sp 2 rfl (evn (hN _ _ h (okr rfl)))))))
  ·exact qF rfl g6 (ls_exit (kXB2 (Option.some.inj h) _ (okr rfl)))
 ·exact qF rfl g4 (ls_skip (kJ1 h _ (okr rfl)))
def impl_IsQueryFor_B1 (a0 : List Y108) (a1 : Y29) (rec : Int → Option (Sum (Unit) (Bool))) (y1 : Int) : Option (Sum (Unit) (Bool)) := cond (decide (y1 < (List.length a1.2.1 : Int))) (obind (geti a1.2.1 y1) fun e12 => obind (impl_LookupRelation a0 e12.1) fun v14 => cond (!v14.2) (some (.inr false)) (cond (v14.1.1 != (List.length e12.2 : Int)) (some (.inr false)) (rec (IntKind.i64.wrap (y1 + 1))))) (some (.inl ()))
def impl_IsQueryFor (a0 : List Y108) (a1 : Y29) : Option (Bool) := obind (impl_IsValidQuery a1) fun v2 => cond (!v2) (some false) (obind (impl_IsValidDatabase a0) fun v5 => cond (!v5) (some false) (obind (loopF (impl_IsQueryFor_B1 a0 a1) fz 0) fun o1 => (match o1 with
  | .inl _ => (some true)
  | .inr r => some r)))
theorem impl_IsQueryFor_s {a0 : List Y108} {a1 : Y29} {r : Bool} (h : impl_IsQueryFor a0 a1 = some r) : SoundAt Tryz.prog 90 [.agg [dL c109_dd a0], .agg (c30_ddd a1)] (.bool r) := by
 unfold impl_IsQueryFor at h
 refine st lit90 rfl (rn 1 rfl (ls_seq_k fun K1 hK1 => rs (sp 1 rfl (?_))))
 obtain ⟨v2, g3, h⟩ := ob_some h
 refine qC (qa rfl (erg (erc rfl (erc (erD ec96_d _) (erc (erD eci64 _) rfl)))) eran) (impl_IsValidQuery_s g3) (sp 2 rfl (?_))
 rcases cond_some h with ⟨g4, h⟩ | ⟨g4, h⟩
 ·exact qg 12 g4 rfl (sp 4 rfl (evn (qT rfl rfl (rn 1 rfl (ls_ret ((by cases h; exact ⟨.inl rfl, rfl⟩)))))))
 ·refine qg 12 g4 rfl (sp 1 rfl (?_))
  obtain ⟨v5, g6, h⟩ := ob_some h
  refine oGR rfl rfl (qC (qa rfl (erg (erc (erD ec109_dd _) rfl)) eran) (impl_IsValidDatabase_s g6) (sp 2 rfl (evn ?_)))
  rcases cond_some h with ⟨g7, h⟩ | ⟨g7, h⟩
  ·exact qT rfl g7 (rn 1 rfl (ls_ret ((by cases h; exact ⟨.inl rfl, rfl⟩))))
  ·refine qF rfl g7 (ls_skip (hK1 _ (ls_seq_k fun K8 hK8 => rn 1 rfl (qk [2, 18, 19, 20] rfl ?_))))
   obtain ⟨o1, hl, hr1⟩ := ob_some h
   have kXB1 : (.inl ()) = o1 → Jn K8 [] := by
    intro h σ' hk
    subst h
    replace h := hr1
    try dsimp only at h
    exact hK8 _ (lh hk rfl (rn 1 rfl (ls_ret ((by cases h; exact ⟨.inl rfl, rfl⟩)))))
   refine ls_rec (fun (y1 : Int) => [(2, .box [dL c109_dd a0]), (18, dL c96_d a1.2.1), (19, nI (List.length a1.2.1 : Int)), (20, nI y1)]) _ _ _ _ hl (okr rfl) (fun _ => rfl) ?_
   rintro m y1 N h hN
   unfold impl_IsQueryFor_B1 at h
   refine rn 1 rfl (ls_seq_k fun K9 hK9 => ?_)
   rcases cond_some h with ⟨g10, h⟩ | ⟨g10, h⟩
   ·refine qT rfl g10 (ls_skip (hK9 _ (ls_seq_k fun K11 hK11 => ls_blk (rs ?_))))
    obtain ⟨e12, g13, h⟩ := ob_some h
    refine qI rfl zc96_d g13 (sp 3 rfl (evn (rs (sp 3 rfl (?_)))))
    obtain ⟨v14, g15, h⟩ := ob_some h
    refine qC (qa rfl (erg (erc (erD ec109_dd _) rfl)) (qs rfl eran)) (impl_LookupRelation_s g15) (sp 6 rfl (evn (rs (sp 3 rfl (?_)))))
    rcases cond_some h with ⟨g16, h⟩ | ⟨g16, h⟩
    ·exact qg 33 g16 rfl (sp 7 rfl (evn (qT rfl rfl (rn 1 rfl (qk [4] rfl (ls_ret ((by cases h; cases hr1; exact ⟨.inl rfl, rfl⟩))))))))
    ·refine qg 33 g16 rfl (sp 7 rfl (evn ?_))
     rcases cond_some h with ⟨g17, h⟩ | ⟨g17, h⟩
     ·exact qT rfl g17 (rn 1 rfl (ls_ret ((by cases h; cases hr1; exact ⟨.inl rfl, rfl⟩))))
     ·exact qF rfl g17 (ls_skip (hK11 _ (rg (sp 2 rfl (evn (hN _ _ h (okr rfl)))))))
   ·exact qF rfl g10 (ls_exit (kXB1 (Option.some.inj h) _ trivial))
def impl_IsValidOrder_J1 (x2 : Bool) : Option (Bool) := some x2
def impl_IsValidOrder (a0 : Y29) (a1 : List Int) : Option (Bool) := obind (impl_IsValidQuery a0) fun v3 => cond v3 (cond ((List.length a1 : Int) == a0.1) (obind (impl_isSetOf a1 a0.1) fun v7 => impl_IsValidOrder_J1 v7) (impl_IsValidOrder_J1 false)) (impl_IsValidOrder_J1 false)
theorem impl_IsValidOrder_s {a0 : Y29} {a1 : List Int} {r : Bool} (h : impl_IsValidOrder a0 a1 = some r) : SoundAt Tryz.prog 91 [.agg (c30_ddd a0), dL ci64 a1] (.bool r) := by
 unfold impl_IsValidOrder at h
 refine st lit91 rfl (rn 1 rfl (rk fun K1 hK1 => ?_))
 have kJ1 : ∀ {x2 : Bool}, impl_IsValidOrder_J1 x2 = some r → Jn K1 [(4, .bool x2)] := by
  intro x2 h σ' hk
  unfold impl_IsValidOrder_J1 at h
  exact hK1 _ (lh hk rfl (ls_ret ((by cases h; exact ⟨.inl rfl, rfl⟩))))
 refine sp 1 rfl (?_)
 obtain ⟨v3, g4, h⟩ := ob_some h
 refine qC (qa rfl (erg (erc rfl (erc (erD ec96_d _) (erc (erD eci64 _) rfl)))) eran) (impl_IsValidQuery_s g4) (sp 1 rfl (?_))
 rcases cond_some h with ⟨g5, h⟩ | ⟨g5, h⟩
 ·refine qg 7 g5 rfl (sp 7 rfl (?_))
  rcases cond_some h with ⟨g6, h⟩ | ⟨g6, h⟩
  ·refine qg 14 g6 rfl (sp 3 rfl (?_))
   obtain ⟨v7, g8, h⟩ := ob_some h
   exact oGR rfl rfl (qC (qa rfl (erD eci64 _) (qs rfl eran)) (impl_isSetOf_s g8) (sp 2 rfl (evn (kJ1 h _ (okr rfl)))))
  ·exact qg 14 g6 rfl (sp 6 rfl (evn (kJ1 h _ (okr rfl))))
 ·exact qg 7 g5 rfl (sp 13 rfl (evn (kJ1 h _ (okr rfl))))
def impl_copyQuery_B1 (a0 : Y29) (rec : ((List Y95) × Int) → Option ((List Y95))) (s : (List Y95) × Int) : Option ((List Y95)) := match s with
  | (y1, y2) => cond (decide (y2 < (List.length a0.2.1 : Int))) (obind (geti a0.2.1 y2) fun e8 => obind (impl_copyInts e8.2) fun v10 => chk (List.length y1 + List.length [(e8.1, v10)] ≤ lim) (rec ((y1 ++ [(e8.1, v10)]), (IntKind.i64.wrap (y2 + 1))))) (some y1)
def impl_copyQuery (a0 : Y29) : Option (Y29) := obind (impl_copyInts a0.2.2) fun v1 => obind (loopF (impl_copyQuery_B1 a0) fz (([] : List Y95), 0)) fun z4 => some (a0.1, z4, v1)
theorem impl_copyQuery_s {a0 : Y29} {r : Y29} (h : impl_copyQuery a0 = some r) : SoundAt Tryz.prog 93 [.agg (c30_ddd a0)] (.agg (c30_ooo r)) := by
 unfold impl_copyQuery at h
 refine st lit93 rfl (rn 1 rfl (rd (by kernel_rfl) (sd 4 rfl (?_))))
 obtain ⟨v1, g2, h⟩ := ob_some h
 refine ed rfl (qC (qa rfl (erD eci64 _) eran) (impl_copyInts_s g2) (sd 3 rfl (evdn (ls_seq_k fun K3 hK3 => rn 1 rfl ?_))))
 obtain ⟨o1, hl, hr1⟩ := ob_some h
 have kXB1 : ∀ {z4 : List Y95}, z4 = o1 → Jn K3 [(2, .box [nI 0, oL 96 c96_o [], oL 3 ci64 []]), (3, .box [nI a0.1, oL 96 c96_o z4, oL 3 ci64 v1])] := by
  intro z4 h σ' hk
  subst h
  replace h := hr1
  try dsimp only at h
  exact hK3 _ (lh hk rfl (rn 1 rfl (ls_ret ((by cases h; exact ⟨.inl rfl, rfl⟩)))))
 refine ls_rec (fun (s : (List Y95) × Int) => match s with | (y1, y2) => [(2, .box [nI 0, oL 96 c96_o [], oL 3 ci64 []]), (3, .box [nI a0.1, oL 96 c96_o y1, oL 3 ci64 v1]), (13, dL c96_d a0.2.1), (14, nI (List.length a0.2.1 : Int)), (15, nI y2)]) _ _ _ _ hl (okr rfl) (fun _ => rfl) ?_
 rintro m ⟨y1, y2⟩ N h hN
 unfold impl_copyQuery_B1 at h
 dsimp only at h
 refine rn 1 rfl (ls_seq_k fun K5 hK5 => ?_)
 rcases cond_some h with ⟨g6, h⟩ | ⟨g6, h⟩
 ·refine qT rfl g6 (ls_skip (hK5 _ (ls_seq_k fun K7 hK7 => ls_blk (rs ?_))))
  obtain ⟨e8, g9, h⟩ := ob_some h
  refine qI rfl zc96_d g9 (sp 3 rfl (evn (rgd (by kernel_rfl) (sd 6 rfl (?_)))))
  obtain ⟨v10, g11, h⟩ := ob_some h
  refine ed rfl (qC (qa rfl (erD eci64 _) eran) (impl_copyInts_s g11) (sd 1 rfl (ed rfl (qBs c96_o [(e8.1, v10)] rfl rfl rfl zc96_o (?_)))))
  obtain ⟨g12, h⟩ := chk_some h
  exact ed rfl (qA c96_o y1 [(e8.1, v10)] rfl rfl (flat_len zc96_o [(e8.1, v10)]) rfl g12 (sd 2 rfl (evdn (hK7 _ (rg (sp 2 rfl (evn (hN _ _ h (okr rfl)))))))))
 ·exact qF rfl g6 (ls_exit (kXB1 (Option.some.inj h) _ (okr rfl)))
def impl_OpenCursor (a0 : Y59) (a1 : Y29) (a2 : List Int) : Option (Y69 × Bool) := obind (impl_SnapshotAt a0 (IntKind.i64.wrap ((IntKind.i64.wrap (a0.1 + (List.length a0.2 : Int))) - 1))) fun v1 => cond (!v1.2) (some ((0, [], [], (0, [], [])), false)) (obind (impl_IsQueryFor v1.1 a1) fun v5 => cond (!v5) (some ((0, [], [], (0, [], [])), false)) (obind (impl_IsValidOrder a1 a2) fun v8 => cond (!v8) (some ((0, [], [], (0, [], [])), false)) (obind (impl_copyInts a2) fun v11 => obind (impl_copyQuery a1) fun v13 => some ((IntKind.i64.wrap ((IntKind.i64.wrap (a0.1 + (List.length a0.2 : Int))) - 1), v11, [], v13), true))))
theorem impl_OpenCursor_s {a0 : Y59} {a1 : Y29} {a2 : List Int} {r : Y69 × Bool} (h : impl_OpenCursor a0 a1 a2 = some r) : SoundAt Tryz.prog 30 [.agg (c60_dddd a0), .agg (c30_ddd a1), dL ci64 a2] (.tup [.agg (c70_ooooo r.1), .bool r.2]) := by
 unfold impl_OpenCursor at h
 refine st lit30 rfl (rn 2 rfl (rs (sp 2 rfl (?_))))
 obtain ⟨v1, g2, h⟩ := ob_some h
 refine qC (qa rfl (erg (erc rfl (erc (erD ec26_ddd _) rfl))) (qs rfl eran)) (impl_SnapshotAt_s g2) (sp 6 rfl (evn (ls_seq_k fun K3 hK3 => rs (sp 3 rfl (?_)))))
 rcases cond_some h with ⟨g4, h⟩ | ⟨g4, h⟩
 ·exact qg 26 g4 rfl (sp 11 rfl (evn (qT rfl rfl (rn 1 rfl (qk [6, 7] rfl (ls_ret ((by cases h; exact ⟨.inl rfl, rfl⟩))))))))
 ·refine qg 26 g4 rfl (sp 2 rfl (?_))
  obtain ⟨v5, g6, h⟩ := ob_some h
  refine oGR rfl rfl (qC (qa rfl (erg (erc (erD ec109_oo _) rfl)) (qa rfl (erg (erc rfl (erc (erD ec96_d _) (erc (erD eci64 _) rfl)))) eran)) (impl_IsQueryFor_s g6) (sp 3 rfl (?_)))
  rcases cond_some h with ⟨g7, h⟩ | ⟨g7, h⟩
  ·exact qg 32 g7 rfl (sp 5 rfl (evn (qT rfl rfl (rn 1 rfl (ls_ret ((by cases h; exact ⟨.inl rfl, rfl⟩)))))))
  ·refine qg 32 g7 rfl (sp 2 rfl (?_))
   obtain ⟨v8, g9, h⟩ := ob_some h
   refine oGR rfl rfl (qC (qa rfl (erg (erc rfl (erc (erD ec96_d _) (erc (erD eci64 _) rfl)))) (qa rfl (erD eci64 _) eran)) (impl_IsValidOrder_s g9) (sp 2 rfl (evn ?_)))
   rcases cond_some h with ⟨g10, h⟩ | ⟨g10, h⟩
   ·exact qT rfl g10 (rn 1 rfl (ls_ret ((by cases h; exact ⟨.inl rfl, rfl⟩))))
   ·refine qF rfl g10 (ls_skip (hK3 _ (rd (by kernel_rfl) (sd 2 rfl (?_)))))
    obtain ⟨v11, g12, h⟩ := ob_some h
    refine ed rfl (qC (qa rfl (erD eci64 _) eran) (impl_copyInts_s g12) (sd 1 rfl (?_)))
    obtain ⟨v13, g14, h⟩ := ob_some h
    exact ed rfl (qC (qa rfl (erg (erc rfl (erc (erD ec96_d _) (erc (erD eci64 _) rfl)))) eran) (impl_copyQuery_s g14) (sd 3 rfl (evdn (qk [6, 7] rfl (ls_ret ((by cases h; exact ⟨.inl rfl, rfl⟩)))))))
def c60_aaaa (x : Y59) : List V := [nI x.1, aL c26_aaa x.2]
theorem zc60_aaaa (x : Y59) : (c60_aaaa x).length = 2 := rfl
theorem ec60_aaaa (x : Y59) : erL (c60_aaaa x) = c60_dddd x := (erc rfl (erc (erG ec26_aaa _) rfl))
def spec_DropUnusedSnapshots_B2 (a1 : List Y69) (y2 : Int) (y3 : List (List Y108)) (rec : Int → Option (Sum (Unit) (Y59))) (y5 : Int) : Option (Sum (Unit) (Y59)) := cond (decide (y5 < (List.length a1 : Int))) (obind (geti a1 y5) fun e16 => cond (e16.1 == y2) (some (.inr (y2, y3))) (rec (IntKind.i64.wrap (y5 + 1)))) (some (.inl ()))
def spec_DropUnusedSnapshots_B1 (a1 : List Y69) (rec : (Int × (List (List Y108))) → Option (Sum (Int × (List (List Y108))) (Y59))) (s : Int × (List (List Y108))) : Option (Sum (Int × (List (List Y108))) (Y59)) := match s with
  | (y2, y3) => cond (decide (1 < (List.length y3 : Int))) (obind (loopF (spec_DropUnusedSnapshots_B2 a1 y2 y3) fz 0) fun o2 => (match o2 with
  | .inl _ => (chk ((0 : Int) ≤ 1 ∧ 1 ≤ (List.length y3 : Int) ∧ (List.length y3 : Int) ≤ (List.length y3 : Int)) (rec ((IntKind.i64.wrap (y2 + 1)), (subl y3 1 (List.length y3 : Int)))))
  | .inr r => some (.inr r))) (some (.inl (y2, y3)))
def spec_DropUnusedSnapshots (a0 : Y59) (a1 : List Y69) : Option (Y59) := obind (spec_l33Copy a0) fun v1 => obind (spec_IsValidHistory a0) fun v4 => cond (!v4) (some v1) (obind (loopF (spec_DropUnusedSnapshots_B1 a1) fz (v1.1, v1.2)) fun o1 => (match o1 with
  | .inl (z8, z9) => (some (z8, z9))
  | .inr r => some r))
theorem spec_DropUnusedSnapshots_s {a0 : Y59} {a1 : List Y69} {r : Y59} (h : spec_DropUnusedSnapshots a0 a1 = some r) : SoundAt Tryz.prog 31 [.agg (c60_dddd a0), dL c70_ddddd a1] (.agg (c60_aaaa r)) := by
 unfold spec_DropUnusedSnapshots at h
 refine st lit31 rfl (rn 1 rfl (rs (sp 1 rfl (?_))))
 obtain ⟨v1, g2, h⟩ := ob_some h
 refine qC (qa rfl (erg (erc rfl (erc (erD ec26_ddd _) rfl))) eran) (spec_l33Copy_s g2) (sp 2 rfl (evn (ls_seq_k fun K3 hK3 => qk [1, 2, 4, 5] rfl (ls_hg (gFb (b := 5) [nI v1.1] [] rfl zkc26_ooo (qk [1, 2, 4, 5] rfl (rs (sp 1 rfl (?_)))))))))
 obtain ⟨v4, g5, h⟩ := ob_some h
 refine qC (qa rfl (erg (erc rfl (erc (erD ec26_ddd _) rfl))) eran) (spec_IsValidHistory_s g5) (sp 1 rfl (evn ?_))
 rcases cond_some h with ⟨g6, h⟩ | ⟨g6, h⟩
 ·exact qT rfl g6 (rn 1 rfl (ls_ret ((by cases h; exact ⟨.inl rfl, rfl⟩))))
 ·refine qF rfl g6 (ls_skip (hK3 _ (ls_seq_k fun K7 hK7 => ?_)))
  obtain ⟨o1, hl, hr1⟩ := ob_some h
  have kXB1 : ∀ {z8 : Int} {z9 : List (List Y108)}, (.inl (z8, z9)) = o1 → Jn K7 [(4, .box [nI 0, oL 26 c26_ooo []]), (5, .box [nI z8, aL c26_aaa z9])] := by
   intro z8 z9 h σ' hk
   subst h
   replace h := hr1
   try dsimp only at h
   exact hK7 _ (lh hk rfl (rn 1 rfl (ls_ret ((by cases h; exact ⟨.inl rfl, rfl⟩)))))
  refine ls_rec (fun (s : Int × (List (List Y108))) => match s with | (y2, y3) => [(1, dL c70_ddddd a1), (4, .box [nI 0, oL 26 c26_ooo []]), (5, .box [nI y2, aL c26_aaa y3])]) _ _ _ _ hl (okr rfl) (fun _ => rfl) ?_
  rintro m ⟨y2, y3⟩ N h hN
  unfold spec_DropUnusedSnapshots_B1 at h
  dsimp only at h
  refine ls_seq_k fun K10 hK10 => rn 1 rfl ?_
  rcases cond_some h with ⟨g11, h⟩ | ⟨g11, h⟩
  ·refine qT rfl g11 (ls_skip (hK10 _ (ls_blk (ls_seq_k fun K12 hK12 => rn 1 rfl ?_))))
   obtain ⟨o2, hl, hr2⟩ := ob_some h
   have kXB2 : (.inl ()) = o2 → Jn K12 [(1, dL c70_ddddd a1), (4, .box [nI 0, oL 26 c26_ooo []]), (5, .box [nI y2, aL c26_aaa y3])] := by
    intro h σ' hk
    subst h
    replace h := hr2
    try dsimp only at h
    refine hK12 _ (lh hk rfl (rn 1 rfl (rg (sp 2 rfl (?_)))))
    obtain ⟨g19, h⟩ := chk_some h
    exact qSa rfl zc26_aaa g19 (sp 2 rfl (evn (hN _ _ h (okr rfl))))
   refine ls_rec (fun (y5 : Int) => [(1, dL c70_ddddd a1), (4, .box [nI 0, oL 26 c26_ooo []]), (5, .box [nI y2, aL c26_aaa y3]), (6, nI y5)]) _ _ _ _ hl (okr rfl) (fun _ => rfl) ?_
   rintro m y5 N h hN
   unfold spec_DropUnusedSnapshots_B2 at h
   refine ls_seq_k fun K13 hK13 => rn 1 rfl ?_
   rcases cond_some h with ⟨g14, h⟩ | ⟨g14, h⟩
   ·refine qT rfl g14 (ls_skip (hK13 _ (ls_seq_k fun K15 hK15 => ls_blk (rd (by kernel_rfl) (sd 2 rfl (?_))))))
    obtain ⟨e16, g17, h⟩ := ob_some h
    refine ed rfl (qI rfl zc70_ddddd g17 (sd 5 rfl (evdn ?_)))
    rcases cond_some h with ⟨g18, h⟩ | ⟨g18, h⟩
    ·exact qT rfl g18 (rn 1 rfl (ls_ret ((by cases h; cases hr2; cases hr1; exact ⟨.inl rfl, rfl⟩))))
    ·exact qF rfl g18 (ls_skip (hK15 _ (rg (sp 3 rfl (evn (hN _ _ h (okr rfl)))))))
   ·exact qF rfl g14 (ls_exit (kXB2 (Option.some.inj h) _ (okr rfl)))
  ·exact qF rfl g11 (ls_exit (kXB1 (Option.some.inj h) _ (okr rfl)))
def laws_small_J1 (x2 : Bool) : Option (Bool) := some x2
def laws_small (a0 : List Y108) (a1 : Y29) (a2 : List Int) : Option (Bool) := obind (spec_IsQueryFor a0 a1) fun v3 => cond v3 (obind (spec_IsValidOrder a1 a2) fun v6 => laws_small_J1 v6) (laws_small_J1 false)
theorem laws_small_s {a0 : List Y108} {a1 : Y29} {a2 : List Int} {r : Bool} (h : laws_small a0 a1 a2 = some r) : SoundAt Tryz.prog 32 [.agg [dL c109_dd a0], .agg (c30_ddd a1), dL ci64 a2] (.bool r) := by
 unfold laws_small at h
 refine st lit32 rfl (rn 1 rfl (rk fun K1 hK1 => ?_))
 have kJ1 : ∀ {x2 : Bool}, laws_small_J1 x2 = some r → Jn K1 [(6, .bool x2)] := by
  intro x2 h σ' hk
  unfold laws_small_J1 at h
  exact hK1 _ (lh hk rfl (ls_ret ((by cases h; exact ⟨.inl rfl, rfl⟩))))
 refine sp 2 rfl (?_)
 obtain ⟨v3, g4, h⟩ := ob_some h
 refine qC (qa rfl (erg (erc (erD ec109_dd _) rfl)) (qa rfl (erg (erc rfl (erc (erD ec96_d _) (erc (erD eci64 _) rfl)))) eran)) (spec_IsQueryFor_s g4) (sp 1 rfl (?_))
 rcases cond_some h with ⟨g5, h⟩ | ⟨g5, h⟩
 ·refine qg 10 g5 rfl (sp 2 rfl (?_))
  obtain ⟨v6, g7, h⟩ := ob_some h
  exact oGR rfl rfl (qC (qa rfl (erg (erc rfl (erc (erD ec96_d _) (erc (erD eci64 _) rfl)))) (qa rfl (erD eci64 _) eran)) (spec_IsValidOrder_s g7) (sp 2 rfl (evn (kJ1 h _ (okr rfl)))))
 ·exact qg 10 g5 rfl (sp 5 rfl (evn (kJ1 h _ (okr rfl))))
def laws_FnDropSnapshots_J2 (rec : Int → Option (Sum (Unit) (Bool))) (y1 : Int) (x28 : Bool) : Option (Sum (Unit) (Bool)) := cond x28 (some (.inr false)) (rec (IntKind.i64.wrap (y1 + 1)))
def laws_FnDropSnapshots_B1 (v5 : Y59 × (List Y69)) (v7 : Y59) (rec : Int → Option (Sum (Unit) (Bool))) (y1 : Int) : Option (Sum (Unit) (Bool)) := cond (decide (y1 < (List.length v5.2 : Int))) (obind (geti v5.2 y1) fun e19 => obind (spec_SnapshotAt v5.1 e19.1) fun v21 => obind (geti v5.2 y1) fun e23 => obind (impl_SnapshotAt v7 e23.1) fun v25 => cond (!(v21.2 == v25.2)) (laws_FnDropSnapshots_J2 rec y1 true) (cond v21.2 (obind (spec_EqualDatabases v21.1 v25.1) fun v32 => laws_FnDropSnapshots_J2 rec y1 (!v32)) (laws_FnDropSnapshots_J2 rec y1 false))) (some (.inl ()))
def laws_FnDropSnapshots_J3 (x41 : Bool) : Option (Bool) := some x41
def laws_FnDropSnapshots (a0 : List Int) : Option (Bool) := obind (laws_big a0) fun v2 => cond v2 (some true) (obind (spec_DrawDropUnusedSnapshots a0) fun v5 => obind (impl_DropUnusedSnapshots v5.1 v5.2) fun v7 => obind (spec_IsValidHistory v5.1) fun v10 => cond (!v10) (obind (spec_EqualHistories v7 v5.1) fun v13 => some v13) (obind (loopF (laws_FnDropSnapshots_B1 v5 v7) fz 0) fun o1 => (match o1 with
  | .inl _ => (obind (spec_DrawIsValidOrder a0) fun v34 => obind (impl_OpenCursor v5.1 v34.1 v34.2) fun v36 => obind (spec_SnapshotAt v5.1 (IntKind.i64.wrap ((IntKind.i64.wrap (v5.1.1 + (List.length v5.1.2 : Int))) - 1))) fun v38 => obind (spec_DropUnusedSnapshots v5.1 v5.2) fun v42 => obind (spec_EqualHistories v7 v42) fun v44 => cond v44 (cond (decide (1 ≤ (List.length v7.2 : Int))) (cond ((IntKind.i64.wrap (v7.1 + (List.length v7.2 : Int))) == (IntKind.i64.wrap (v5.1.1 + (List.length v5.1.2 : Int)))) (obind (laws_small v38.1 v34.1 v34.2) fun v49 => cond (v36.2 == v49) (cond (!v36.2) (laws_FnDropSnapshots_J3 true) (cond (v36.1.1 == (IntKind.i64.wrap ((IntKind.i64.wrap (v5.1.1 + (List.length v5.1.2 : Int))) - 1))) (laws_FnDropSnapshots_J3 ((List.length v36.1.2.2.1 : Int) == 0)) (laws_FnDropSnapshots_J3 false))) (laws_FnDropSnapshots_J3 false)) (laws_FnDropSnapshots_J3 false)) (laws_FnDropSnapshots_J3 false)) (laws_FnDropSnapshots_J3 false))
  | .inr r => some r)))
theorem laws_FnDropSnapshots_s {a0 : List Int} {r : Bool} (h : laws_FnDropSnapshots a0 = some r) : SoundAt Tryz.prog 5 [dL cu8 a0] (.bool r) := by
 unfold laws_FnDropSnapshots at h
 refine sta lit5 rfl (aall (ableD (fun _ => rfl) _) rfl) (mvv (argD (fun _ => rfl) _) rfl) rfl (rn 1 rfl (ls_seq_k fun K1 hK1 => rs (sp 1 rfl (?_))))
 obtain ⟨v2, g3, h⟩ := ob_some h
 refine qC (qa rfl (erG ecu8 _) eran) (laws_big_s g3) (evn ?_)
 rcases cond_some h with ⟨g4, h⟩ | ⟨g4, h⟩
 ·exact qT rfl g4 (rn 1 rfl (ls_ret ((by cases h; exact ⟨.inl rfl, rfl⟩))))
 ·refine qF rfl g4 (ls_skip (hK1 _ (rs (sp 1 rfl (?_)))))
  obtain ⟨v5, g6, h⟩ := ob_some h
  refine qCk rfl rfl (spec_DrawDropUnusedSnapshots_s g6) (sp 6 rfl (evn (rs (sp 2 rfl (?_)))))
  obtain ⟨v7, g8, h⟩ := ob_some h
  refine qC (qa rfl (erg (erc rfl (erc (erD ec26_aaa _) rfl))) (qa rfl (erD ec70_ooooo _) eran)) (impl_DropUnusedSnapshots_s g8) (sp 2 rfl (evn (ls_seq_k fun K9 hK9 => rs (sp 1 rfl (?_)))))
  obtain ⟨v10, g11, h⟩ := ob_some h
  refine qC (qa rfl (erg (erc rfl (erc (erD ec26_aaa _) rfl))) eran) (spec_IsValidHistory_s g11) (sp 1 rfl (evn (qk [0, 3, 4, 5, 29] rfl ?_)))
  rcases cond_some h with ⟨g12, h⟩ | ⟨g12, h⟩
  ·refine qT rfl g12 (rs (sp 2 rfl (?_)))
   obtain ⟨v13, g14, h⟩ := ob_some h
   exact qC (qa rfl (erg (erc rfl (erc (erD ec26_ooo _) rfl))) (qa rfl (erg (erc rfl (erc (erD ec26_aaa _) rfl))) eran)) (spec_EqualHistories_s g14) (sp 1 rfl (evn (ls_ret ((by cases h; exact ⟨.inl rfl, rfl⟩)))))
  ·refine qF rfl g12 (ls_skip (hK9 _ (ls_seq_k fun K15 hK15 => rn 1 rfl ?_)))
   obtain ⟨o1, hl, hr1⟩ := ob_some h
   have kXB1 : (.inl ()) = o1 → Jn K15 [(0, aL cu8 a0), (3, .box [nI v5.1.1, oL 26 c26_aaa v5.1.2]), (4, oL 70 c70_ooooo v5.2), (5, .box [nI v7.1, oL 26 c26_ooo v7.2])] := by
    intro h σ' hk
    subst h
    replace h := hr1
    try dsimp only at h
    refine hK15 _ (lh hk rfl (rs (sp 1 rfl (?_))))
    obtain ⟨v34, g35, h⟩ := ob_some h
    refine qCk rfl rfl (spec_DrawIsValidOrder_s g35) (sp 6 rfl (evn (rs (sp 3 rfl (?_)))))
    obtain ⟨v36, g37, h⟩ := ob_some h
    refine qC (qa rfl (erg (erc rfl (erc (erD ec26_aaa _) rfl))) (qa rfl (erg (erc rfl (erc (erD ec96_o _) (erc (erD eci64 _) rfl)))) (qa rfl (erD eci64 _) eran))) (impl_OpenCursor_s g37) (sp 6 rfl (evn (rs (sp 8 rfl (?_)))))
    obtain ⟨v38, g39, h⟩ := ob_some h
    refine qC (qa rfl (erg (erc rfl (erc (erD ec26_aaa _) rfl))) (qs rfl eran)) (spec_SnapshotAt_s g39) (sp 6 rfl (evn (rdk (by kernel_rfl) fun K40 hK40 => ?_)))
    have kJ3 : ∀ {x41 : Bool}, laws_FnDropSnapshots_J3 x41 = some r → Jn K40 [(2, .bool x41)] := by
     intro x41 h σ' hk
     unfold laws_FnDropSnapshots_J3 at h
     exact hK40 _ (lh hk rfl (ls_ret ((by cases h; exact ⟨.inl rfl, rfl⟩))))
    refine sd 3 rfl (?_)
    obtain ⟨v42, g43, h⟩ := ob_some h
    refine ed rfl (qC (qa rfl (erg (erc rfl (erc (erD ec26_aaa _) rfl))) (qa rfl (erD ec70_ooooo _) eran)) (spec_DropUnusedSnapshots_s g43) (?_))
    obtain ⟨v44, g45, h⟩ := ob_some h
    refine ed rfl (qC (qa rfl (erg (erc rfl (erc (erD ec26_ooo _) rfl))) (qa rfl (erg (erc rfl (erc (erG ec26_aaa _) rfl))) eran)) (spec_EqualHistories_s g45) (sd 1 rfl (?_)))
    rcases cond_some h with ⟨g46, h⟩ | ⟨g46, h⟩
    ·refine qgd 100 g46 rfl (sd 6 rfl (?_))
     rcases cond_some h with ⟨g47, h⟩ | ⟨g47, h⟩
     ·refine qgd 106 g47 rfl (sd 15 rfl (?_))
      rcases cond_some h with ⟨g48, h⟩ | ⟨g48, h⟩
      ·refine qgd 121 g48 rfl (sd 4 rfl (?_))
       obtain ⟨v49, g50, h⟩ := ob_some h
       refine ed rfl (oGR rfl rfl (qC (qa rfl (erg (erc (erD ec109_oo _) rfl)) (qa rfl (erg (erc rfl (erc (erD ec96_o _) (erc (erD eci64 _) rfl)))) (qa rfl (erD eci64 _) eran))) (laws_small_s g50) (sd 3 rfl (?_))))
       rcases cond_some h with ⟨g51, h⟩ | ⟨g51, h⟩
       ·refine qgd 129 g51 rfl (sd 3 rfl (?_))
        rcases cond_some h with ⟨g52, h⟩ | ⟨g52, h⟩
        ·exact qgd 132 g52 rfl (sd 19 rfl (evdn (kJ3 h _ (okr rfl))))
        ·refine qgd 132 g52 rfl (sd 11 rfl (?_))
         rcases cond_some h with ⟨g53, h⟩ | ⟨g53, h⟩
         ·exact qgd 143 g53 rfl (sd 8 rfl (evdn (kJ3 h _ (okr rfl))))
         ·exact qgd 143 g53 rfl (sd 8 rfl (evdn (kJ3 h _ (okr rfl))))
       ·exact qgd 129 g51 rfl (sd 22 rfl (evdn (kJ3 h _ (okr rfl))))
      ·exact qgd 121 g48 rfl (sd 30 rfl (evdn (kJ3 h _ (okr rfl))))
     ·exact qgd 106 g47 rfl (sd 45 rfl (evdn (kJ3 h _ (okr rfl))))
    ·exact qgd 100 g46 rfl (sd 51 rfl (evdn (kJ3 h _ (okr rfl))))
   refine ls_rec (fun (y1 : Int) => [(0, aL cu8 a0), (3, .box [nI v5.1.1, oL 26 c26_aaa v5.1.2]), (4, oL 70 c70_ooooo v5.2), (5, .box [nI v7.1, oL 26 c26_ooo v7.2]), (6, nI y1)]) _ _ _ _ hl (okr rfl) (fun _ => rfl) ?_
   rintro m y1 N h hN
   unfold laws_FnDropSnapshots_B1 at h
   refine ls_seq_k fun K16 hK16 => rn 1 rfl ?_
   rcases cond_some h with ⟨g17, h⟩ | ⟨g17, h⟩
   ·refine qT rfl g17 (ls_skip (hK16 _ (ls_seq_k fun K18 hK18 => ls_blk (rd (by kernel_rfl) (sd 3 rfl (?_))))))
    obtain ⟨e19, g20, h⟩ := ob_some h
    refine ed rfl (qI rfl zc70_ooooo g20 (sd 2 rfl (?_)))
    obtain ⟨v21, g22, h⟩ := ob_some h
    refine ed rfl (qC (qa rfl (erg (erc rfl (erc (erD ec26_aaa _) rfl))) (qs rfl eran)) (spec_SnapshotAt_s g22) (sd 6 rfl (evdn (rd (by kernel_rfl) (sd 3 rfl (?_))))))
    obtain ⟨e23, g24, h⟩ := ob_some h
    refine ed rfl (qI rfl zc70_ooooo g24 (sd 2 rfl (?_)))
    obtain ⟨v25, g26, h⟩ := ob_some h
    refine ed rfl (qC (qa rfl (erg (erc rfl (erc (erD ec26_ooo _) rfl))) (qs rfl eran)) (impl_SnapshotAt_s g26) (sd 6 rfl (evdn (rk fun K27 hK27 => ?_))))
    have kJ2 : ∀ {x28 : Bool}, laws_FnDropSnapshots_J2 (loopF (laws_FnDropSnapshots_B1 v5 v7) m) y1 x28 = some o1 → Jn K27 [(0, aL cu8 a0), (3, .box [nI v5.1.1, oL 26 c26_aaa v5.1.2]), (4, oL 70 c70_ooooo v5.2), (5, .box [nI v7.1, oL 26 c26_ooo v7.2]), (6, nI y1), (70, .bool x28)] := by
     intro x28 h σ' hk
     unfold laws_FnDropSnapshots_J2 at h
     refine hK27 _ (lh hk rfl ?_)
     rcases cond_some h with ⟨g29, h⟩ | ⟨g29, h⟩
     ·exact qT rfl g29 (rn 1 rfl (ls_ret ((by cases h; cases hr1; exact ⟨.inl rfl, rfl⟩))))
     ·exact qF rfl g29 (ls_skip (hK18 _ (rg (sp 3 rfl (evn (hN _ _ h (okr rfl)))))))
    refine sp 4 rfl (?_)
    rcases cond_some h with ⟨g30, h⟩ | ⟨g30, h⟩
    ·exact qg 62 g30 rfl (sp 8 rfl (evn (kJ2 h _ (okr rfl))))
    ·refine qg 62 g30 rfl (sp 2 rfl (?_))
     rcases cond_some h with ⟨g31, h⟩ | ⟨g31, h⟩
     ·refine qg 64 g31 rfl (sp 2 rfl (?_))
      obtain ⟨v32, g33, h⟩ := ob_some h
      exact oGR rfl rfl (qC (qa rfl (erg (erc (erD ec109_oo _) rfl)) (qa rfl (erg (erc (erD ec109_oo _) rfl)) eran)) (spec_EqualDatabases_s g33) (sp 3 rfl (evn (kJ2 h _ (okr rfl)))))
     ·exact qg 64 g31 rfl (sp 6 rfl (evn (kJ2 h _ (okr rfl))))
   ·exact qF rfl g17 (ls_exit (kXB1 (Option.some.inj h) _ (okr rfl)))
end Go.Proofs.YtmjhiencoapldaaGreat
