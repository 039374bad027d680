/-
  Functions of the program as typed functions, printed by gen.py, and that the program's functions do what they say. No conditions.
-/
import Derived.Test.YtmjhiencoapldaaGreatGSbDG1
namespace Go.Proofs.YtmjhiencoapldaaGreat
open Go.RowKit
set_option linter.unusedVariables false
set_option maxRecDepth 100000
set_option maxHeartbeats 1000000
def spec_AtomsWithVariable_J2 (rec : ((List Int) × Int) → Option ((List Int))) (y2 : Int) (x13 : List Int) : Option ((List Int)) := rec (x13, (IntKind.i64.wrap (y2 + 1)))
def spec_AtomsWithVariable_B1 (a0 : Y29) (a1 : Int) (rec : ((List Int) × Int) → Option ((List Int))) (s : (List Int) × Int) : Option ((List Int)) := match s with
  | (y1, y2) => cond (decide (y2 < (List.length a0.2.1 : Int))) (obind (spec_IsValidQuery a0) fun v5 => cond v5 (obind (geti a0.2.1 y2) fun e9 => obind (spec_ContainsVariable e9 a1) fun v11 => cond v11 (chk (List.length y1 + List.length [y2] ≤ lim) (spec_AtomsWithVariable_J2 rec y2 (y1 ++ [y2]))) (spec_AtomsWithVariable_J2 rec y2 y1)) (some y1)) (some y1)
def spec_AtomsWithVariable (a0 : Y29) (a1 : Int) : Option ((List Int)) := obind (loopF (spec_AtomsWithVariable_B1 a0 a1) fz (([] : List Int), 0)) fun z2 => some z2
theorem spec_AtomsWithVariable_s {a0 : Y29} {a1 : Int} {r : (List Int)} (h : spec_AtomsWithVariable a0 a1 = some r) : SoundAt Tryz.prog 54 [.agg (c30_ddd a0), nI a1] (oL 3 ci64 r) := by
 unfold spec_AtomsWithVariable at h
 refine st lit54 rfl (rn 1 rfl (rs (qBs ci64 [] rfl rfl rfl zci64 (sp 1 rfl (evn (ls_seq_k fun K1 hK1 => rn 1 rfl ?_))))))
 obtain ⟨o1, hl, hr1⟩ := ob_some h
 have kXB1 : ∀ {z2 : List Int}, z2 = o1 → Jn K1 [(5, oL 3 ci64 z2)] := by
  intro z2 h σ' hk
  subst h
  replace h := hr1
  try dsimp only at h
  exact hK1 _ (lh hk rfl (rn 1 rfl (ls_ret ((by cases h; exact ⟨.inl rfl, rfl⟩)))))
 refine ls_rec (fun (s : (List Int) × Int) => match s with | (y1, y2) => [(1, nI a1), (2, .box [nI a0.1, dL c96_d a0.2.1, dL ci64 a0.2.2]), (5, oL 3 ci64 y1), (6, nI y2)]) _ _ _ _ hl (okr rfl) (fun _ => rfl) ?_
 rintro m ⟨y1, y2⟩ N h hN
 unfold spec_AtomsWithVariable_B1 at h
 dsimp only at h
 refine ls_seq_k fun K3 hK3 => rs (sp 6 rfl (?_))
 rcases cond_some h with ⟨g4, h⟩ | ⟨g4, h⟩
 ·refine qg 13 g4 rfl (sp 1 rfl (?_))
  obtain ⟨v5, g6, h⟩ := ob_some h
  refine oGR rfl rfl (qC (qa rfl (erg (erc rfl (erc (erD ec96_d _) (erc (erD eci64 _) rfl)))) eran) (spec_IsValidQuery_s g6) (sp 1 rfl (evn ?_)))
  rcases cond_some h with ⟨g7, h⟩ | ⟨g7, h⟩
  ·refine qT rfl g7 (ls_skip (hK3 _ (ls_seq_k fun K8 hK8 => ls_blk (rs (sp 3 rfl (?_))))))
   obtain ⟨e9, g10, h⟩ := ob_some h
   refine qI rfl zc96_d g10 (sp 2 rfl (?_))
   obtain ⟨v11, g12, h⟩ := ob_some h
   refine qC (qa rfl (erg (erc rfl (erc (erD eci64 _) rfl))) (qs rfl eran)) (spec_ContainsVariable_s g12) (evn ?_)
   have kJ2 : ∀ {x13 : List Int}, spec_AtomsWithVariable_J2 (loopF (spec_AtomsWithVariable_B1 a0 a1) m) y2 x13 = some o1 → Jn K8 [(1, nI a1), (2, .box [nI a0.1, dL c96_d a0.2.1, dL ci64 a0.2.2]), (5, oL 3 ci64 x13), (6, nI y2)] := by
    intro x13 h σ' hk
    unfold spec_AtomsWithVariable_J2 at h
    exact hK8 _ (lh hk rfl (rg (sp 3 rfl (evn (hN _ _ h (okr rfl))))))
   rcases cond_some h with ⟨g14, h⟩ | ⟨g14, h⟩
   ·refine qT rfl g14 (rg (sp 2 rfl (qBs ci64 [y2] rfl rfl rfl zci64 (?_))))
    obtain ⟨g15, h⟩ := chk_some h
    exact qA ci64 y1 [y2] rfl rfl (flat_len zci64 [y2]) rfl g15 (sp 1 rfl (evn (kJ2 h _ (okr rfl))))
   ·exact qF rfl g14 (ls_skip (kJ2 h _ (okr rfl)))
  ·exact qF rfl g7 (ls_exit (kXB1 (Option.some.inj h) _ (okr rfl)))
 ·exact qg 13 g4 rfl (sp 3 rfl (evn (qF rfl rfl (ls_exit (kXB1 (Option.some.inj h) _ (okr rfl))))))
def spec_l16Rel (a0 : Y37) : Option (Y37) := some a0
theorem spec_l16Rel_s {a0 : Y37} {r : Y37} (h : spec_l16Rel a0 = some r) : SoundAt Tryz.prog 249 [.agg (c97_dd a0)] (.agg (c38_dd r)) := by
 unfold spec_l16Rel at h
 exact st lit249 rfl (rn 2 rfl (ls_ret ((by cases h; exact ⟨.inl rfl, rfl⟩))))
def spec_IsValidTrie (a0 : Y37) : Option (Bool) := obind (spec_l16Rel a0) fun v1 => obind (spec_IsValidRelation v1) fun v3 => some v3
theorem spec_IsValidTrie_s {a0 : Y37} {r : Bool} (h : spec_IsValidTrie a0 = some r) : SoundAt Tryz.prog 233 [.agg (c97_dd a0)] (.bool r) := by
 unfold spec_IsValidTrie at h
 refine st lit233 rfl (rn 1 rfl (rs (sp 1 rfl (?_))))
 obtain ⟨v1, g2, h⟩ := ob_some h
 refine qC (qa rfl (erg (erc rfl (erc (erD ec28_d _) rfl))) eran) (spec_l16Rel_s g2) (?_)
 obtain ⟨v3, g4, h⟩ := ob_some h
 exact qC (qa rfl (erg (erc rfl (erc (erD ec28_d _) rfl))) eran) (spec_IsValidRelation_s g4) (sp 1 rfl (evn (ls_ret ((by cases h; exact ⟨.inl rfl, rfl⟩)))))
def spec_TriePrefixRange_B1 (a0 : Y37) (a1 : List Int) (rec : Int → Option (Int)) (y1 : Int) : Option (Int) := cond (decide (y1 < (List.length a0.2 : Int))) (obind (geti a0.2 y1) fun e10 => chk ((0 : Int) ≤ 0 ∧ 0 ≤ (List.length a1 : Int) ∧ (List.length a1 : Int) ≤ (List.length e10 : Int)) (obind (spec_CompareRows (subl e10 0 (List.length a1 : Int)) a1) fun v13 => cond (decide (v13 < 0)) (rec (IntKind.i64.wrap (y1 + 1))) (some y1))) (some y1)
def spec_TriePrefixRange_B2 (a0 : Y37) (a1 : List Int) (rec : Int → Option (Int)) (y2 : Int) : Option (Int) := cond (decide (y2 < (List.length a0.2 : Int))) (obind (geti a0.2 y2) fun e20 => chk ((0 : Int) ≤ 0 ∧ 0 ≤ (List.length a1 : Int) ∧ (List.length a1 : Int) ≤ (List.length e20 : Int)) (obind (spec_CompareRows (subl e20 0 (List.length a1 : Int)) a1) fun v23 => cond (v23 == 0) (rec (IntKind.i64.wrap (y2 + 1))) (some y2))) (some y2)
def spec_TriePrefixRange (a0 : Y37) (a1 : List Int) : Option (Int × Int) := obind (spec_IsValidTrie a0) fun v2 => cond (!v2) (some (0, 0)) (cond (decide (a0.1 < (List.length a1 : Int))) (some (0, 0)) (obind (loopF (spec_TriePrefixRange_B1 a0 a1) fz 0) fun z7 => obind (loopF (spec_TriePrefixRange_B2 a0 a1) fz z7) fun z17 => some (z7, z17)))
theorem spec_TriePrefixRange_s {a0 : Y37} {a1 : List Int} {r : Int × Int} (h : spec_TriePrefixRange a0 a1 = some r) : SoundAt Tryz.prog 196 [.agg (c97_dd a0), dL ci64 a1] (.tup [nI r.1, nI r.2]) := by
 unfold spec_TriePrefixRange at h
 refine st lit196 rfl (rn 1 rfl (ls_seq_k fun K1 hK1 => rs (sp 1 rfl (?_))))
 obtain ⟨v2, g3, h⟩ := ob_some h
 refine qC (qa rfl (erg (erc rfl (erc (erD ec28_d _) rfl))) eran) (spec_IsValidTrie_s g3) (sp 2 rfl (?_))
 rcases cond_some h with ⟨g4, h⟩ | ⟨g4, h⟩
 ·exact qg 11 g4 rfl (sp 6 rfl (evn (qT rfl rfl (rn 1 rfl (ls_ret ((by cases h; exact ⟨.inl rfl, rfl⟩)))))))
 ·refine qg 11 g4 rfl (sp 6 rfl (evn ?_))
  rcases cond_some h with ⟨g5, h⟩ | ⟨g5, h⟩
  ·exact qT rfl g5 (rn 1 rfl (ls_ret ((by cases h; exact ⟨.inl rfl, rfl⟩))))
  ·refine qF rfl g5 (ls_skip (hK1 _ (qk [1, 2] rfl (rn 1 rfl (ls_seq_k fun K6 hK6 => ?_)))))
   obtain ⟨o1, hl, hr1⟩ := ob_some h
   have kXB1 : ∀ {z7 : Int}, z7 = o1 → Jn K6 [(1, dL ci64 a1), (2, .box [nI a0.1, dL c28_d a0.2]), (6, nI z7)] := by
    intro z7 h σ' hk
    subst h
    replace h := hr1
    try dsimp only at h
    refine hK6 _ (lh hk rfl (rn 1 rfl (ls_seq_k fun K16 hK16 => ?_)))
    obtain ⟨o2, hl, hr2⟩ := ob_some h
    have kXB2 : ∀ {z17 : Int}, z17 = o2 → Jn K16 [(6, nI z7), (7, nI z17)] := by
     intro z17 h σ' hk
     subst h
     replace h := hr2
     try dsimp only at h
     exact hK16 _ (lh hk rfl (rn 1 rfl (ls_ret ((by cases h; exact ⟨.inl rfl, rfl⟩)))))
    refine ls_rec (fun (y2 : Int) => [(1, dL ci64 a1), (2, .box [nI a0.1, dL c28_d a0.2]), (6, nI z7), (7, nI y2)]) _ _ _ _ hl (okr rfl) (fun _ => rfl) ?_
    rintro m y2 N h hN
    unfold spec_TriePrefixRange_B2 at h
    refine ls_seq_k fun K18 hK18 => rs (sp 6 rfl (?_))
    rcases cond_some h with ⟨g19, h⟩ | ⟨g19, h⟩
    ·refine qg 44 g19 rfl (sp 3 rfl (?_))
     obtain ⟨e20, g21, h⟩ := ob_some h
     refine oGR rfl rfl (qI rfl zc28_d g21 (sp 3 rfl (?_)))
     obtain ⟨g22, h⟩ := chk_some h
     refine oGR rfl rfl (qSl rfl zci64 g22 (sp 1 rfl (?_)))
     obtain ⟨v23, g24, h⟩ := ob_some h
     refine oGR rfl rfl (qC (qa rfl (erD eci64 _) (qa rfl (erD eci64 _) eran)) (spec_CompareRows_s g24) (sp 2 rfl (evn ?_)))
     rcases cond_some h with ⟨g25, h⟩ | ⟨g25, h⟩
     ·exact qT rfl g25 (ls_skip (hK18 _ (ls_blk (rg (sp 3 rfl (evn (hN _ _ h (okr rfl))))))))
     ·exact qF rfl g25 (ls_exit (kXB2 (Option.some.inj h) _ (okr rfl)))
    ·exact qg 44 g19 rfl (sp 12 rfl (evn (qk [1, 2, 6, 7, 56] rfl (qF rfl rfl (ls_exit (kXB2 (Option.some.inj h) _ (okr rfl)))))))
   refine ls_rec (fun (y1 : Int) => [(1, dL ci64 a1), (2, .box [nI a0.1, dL c28_d a0.2]), (6, nI y1)]) _ _ _ _ hl (okr rfl) (fun _ => rfl) ?_
   rintro m y1 N h hN
   unfold spec_TriePrefixRange_B1 at h
   refine ls_seq_k fun K8 hK8 => rs (sp 6 rfl (?_))
   rcases cond_some h with ⟨g9, h⟩ | ⟨g9, h⟩
   ·refine qg 23 g9 rfl (sp 3 rfl (?_))
    obtain ⟨e10, g11, h⟩ := ob_some h
    refine oGR rfl rfl (qI rfl zc28_d g11 (sp 3 rfl (?_)))
    obtain ⟨g12, h⟩ := chk_some h
    refine oGR rfl rfl (qSl rfl zci64 g12 (sp 1 rfl (?_)))
    obtain ⟨v13, g14, h⟩ := ob_some h
    refine oGR rfl rfl (qC (qa rfl (erD eci64 _) (qa rfl (erD eci64 _) eran)) (spec_CompareRows_s g14) (sp 2 rfl (evn ?_)))
    rcases cond_some h with ⟨g15, h⟩ | ⟨g15, h⟩
    ·exact qT rfl g15 (ls_skip (hK8 _ (ls_blk (rg (sp 3 rfl (evn (hN _ _ h (okr rfl))))))))
    ·exact qF rfl g15 (ls_exit (kXB1 (Option.some.inj h) _ (okr rfl)))
   ·exact qg 23 g9 rfl (sp 12 rfl (evn (qk [1, 2, 6, 35] rfl (qF rfl rfl (ls_exit (kXB1 (Option.some.inj h) _ (okr rfl)))))))
def spec_TrieChildren_J3 (rec : ((List Int) × Int) → Option ((List Int))) (y2 : Int) (x15 : List Int) : Option ((List Int)) := rec (x15, (IntKind.i64.wrap (y2 + 1)))
def spec_TrieChildren_J2 (rec : ((List Int) × Int) → Option ((List Int))) (y1 : List Int) (y2 : Int) (e11 : Int) (x14 : Bool) : Option ((List Int)) := cond x14 (chk (List.length y1 + List.length [e11] ≤ lim) (spec_TrieChildren_J3 rec y2 (y1 ++ [e11]))) (spec_TrieChildren_J3 rec y2 y1)
def spec_TrieChildren_B1 (a0 : Y37) (a1 : List Int) (v1 : Int × Int) (rec : ((List Int) × Int) → Option ((List Int))) (s : (List Int) × Int) : Option ((List Int)) := match s with
  | (y1, y2) => cond (decide (y2 < v1.2)) (cond (decide ((List.length a1 : Int) < a0.1)) (obind (geti a0.2 y2) fun e9 => obind (geti e9 (List.length a1 : Int)) fun e11 => cond ((List.length y1 : Int) == 0) (spec_TrieChildren_J2 rec y1 y2 e11 true) (obind (geti y1 (IntKind.i64.wrap ((List.length y1 : Int) - 1))) fun e19 => spec_TrieChildren_J2 rec y1 y2 e11 (e19 != e11))) (some y1)) (some y1)
def spec_TrieChildren (a0 : Y37) (a1 : List Int) : Option ((List Int)) := obind (spec_TriePrefixRange a0 a1) fun v1 => obind (loopF (spec_TrieChildren_B1 a0 a1 v1) fz (([] : List Int), v1.1)) fun z4 => some z4
theorem spec_TrieChildren_s {a0 : Y37} {a1 : List Int} {r : (List Int)} (h : spec_TrieChildren a0 a1 = some r) : SoundAt Tryz.prog 129 [.agg (c97_dd a0), dL ci64 a1] (oL 3 ci64 r) := by
 unfold spec_TrieChildren at h
 refine st lit129 rfl (rn 1 rfl (rs (qBs ci64 [] rfl rfl rfl zci64 (sp 1 rfl (evn (rs (sp 2 rfl (?_))))))))
 obtain ⟨v1, g2, h⟩ := ob_some h
 refine qC (qa rfl (erg (erc rfl (erc (erD ec28_d _) rfl))) (qa rfl (erD eci64 _) eran)) (spec_TriePrefixRange_s g2) (sp 5 rfl (evn (ls_seq_k fun K3 hK3 => rn 1 rfl ?_)))
 obtain ⟨o1, hl, hr1⟩ := ob_some h
 have kXB1 : ∀ {z4 : List Int}, z4 = o1 → Jn K3 [(5, oL 3 ci64 z4)] := by
  intro z4 h σ' hk
  subst h
  replace h := hr1
  try dsimp only at h
  exact hK3 _ (lh hk rfl (rn 1 rfl (ls_ret ((by cases h; exact ⟨.inl rfl, rfl⟩)))))
 refine ls_rec (fun (s : (List Int) × Int) => match s with | (y1, y2) => [(1, dL ci64 a1), (2, .box [nI a0.1, dL c28_d a0.2]), (5, oL 3 ci64 y1), (7, nI v1.2), (8, nI y2)]) _ _ _ _ hl (okr rfl) (fun _ => rfl) ?_
 rintro m ⟨y1, y2⟩ N h hN
 unfold spec_TrieChildren_B1 at h
 dsimp only at h
 refine ls_seq_k fun K5 hK5 => rs (sp 4 rfl (?_))
 rcases cond_some h with ⟨g6, h⟩ | ⟨g6, h⟩
 ·refine qg 21 g6 rfl (sp 6 rfl (evn ?_))
  rcases cond_some h with ⟨g7, h⟩ | ⟨g7, h⟩
  ·refine qT rfl g7 (ls_skip (hK5 _ (ls_seq_k fun K8 hK8 => ls_blk (rs (sp 3 rfl (?_))))))
   obtain ⟨e9, g10, h⟩ := ob_some h
   refine qI rfl zc28_d g10 (sp 3 rfl (?_))
   obtain ⟨e11, g12, h⟩ := ob_some h
   refine qI rfl zci64 g12 (sp 2 rfl (evn (rk fun K13 hK13 => ?_)))
   have kJ2 : ∀ {x14 : Bool}, spec_TrieChildren_J2 (loopF (spec_TrieChildren_B1 a0 a1 v1) m) y1 y2 e11 x14 = some o1 → Jn K13 [(1, dL ci64 a1), (2, .box [nI a0.1, dL c28_d a0.2]), (5, oL 3 ci64 y1), (7, nI v1.2), (8, nI y2), (9, nI e11), (51, .bool x14)] := by
    intro x14 h σ' hk
    unfold spec_TrieChildren_J2 at h
    refine hK13 _ (lh hk rfl ?_)
    have kJ3 : ∀ {x15 : List Int}, spec_TrieChildren_J3 (loopF (spec_TrieChildren_B1 a0 a1 v1) m) y2 x15 = some o1 → Jn K8 [(1, dL ci64 a1), (2, .box [nI a0.1, dL c28_d a0.2]), (5, oL 3 ci64 x15), (7, nI v1.2), (8, nI y2)] := by
     intro x15 h σ' hk
     unfold spec_TrieChildren_J3 at h
     exact hK8 _ (lh hk rfl (rg (sp 3 rfl (evn (hN _ _ h (okr rfl))))))
    rcases cond_some h with ⟨g16, h⟩ | ⟨g16, h⟩
    ·refine qT rfl g16 (rg (sp 2 rfl (qBs ci64 [e11] rfl rfl rfl zci64 (?_))))
     obtain ⟨g17, h⟩ := chk_some h
     exact qA ci64 y1 [e11] rfl rfl (flat_len zci64 [e11]) rfl g17 (sp 1 rfl (evn (kJ3 h _ (okr rfl))))
    ·exact qF rfl g16 (ls_skip (kJ3 h _ (okr rfl)))
   refine sp 4 rfl (?_)
   rcases cond_some h with ⟨g18, h⟩ | ⟨g18, h⟩
   ·exact qg 42 g18 rfl (sp 9 rfl (evn (kJ2 h _ (okr rfl))))
   ·refine qg 42 g18 rfl (sp 4 rfl (?_))
    obtain ⟨e19, g20, h⟩ := ob_some h
    exact oGR rfl rfl (qI rfl zci64 g20 (sp 4 rfl (evn (kJ2 h _ (okr rfl)))))
  ·exact qF rfl g7 (ls_exit (kXB1 (Option.some.inj h) _ (okr rfl)))
 ·exact qg 21 g6 rfl (sp 6 rfl (evn (qk [1, 2, 5, 7, 8, 27] rfl (qF rfl rfl (ls_exit (kXB1 (Option.some.inj h) _ (okr rfl)))))))
def spec_l36Most_B1 (a0 : Y37) (a1 : Int) (rec : (Int × Int) → Option (Int)) (s : Int × Int) : Option (Int) := match s with
  | (y1, y2) => cond (decide (y2 < (List.length a0.2 : Int))) (obind (geti a0.2 y2) fun e6 => chk ((0 : Int) ≤ 0 ∧ 0 ≤ a1 ∧ a1 ≤ (List.length e6 : Int)) (obind (spec_TrieChildren a0 (subl e6 0 a1)) fun v9 => rec ((if y1 < (List.length v9 : Int) then (List.length v9 : Int) else y1), (IntKind.i64.wrap (y2 + 1))))) (some y1)
def spec_l36Most (a0 : Y37) (a1 : Int) : Option (Int) := obind (loopF (spec_l36Most_B1 a0 a1) fz (0, 0)) fun z2 => some z2
theorem spec_l36Most_s {a0 : Y37} {a1 : Int} {r : Int} (h : spec_l36Most a0 a1 = some r) : SoundAt Tryz.prog 56 [.agg (c97_dd a0), nI a1] (nI r) := by
 unfold spec_l36Most at h
 refine st lit56 rfl (rn 2 rfl (ls_seq_k fun K1 hK1 => rn 1 rfl ?_))
 obtain ⟨o1, hl, hr1⟩ := ob_some h
 have kXB1 : ∀ {z2 : Int}, z2 = o1 → Jn K1 [(5, nI z2)] := by
  intro z2 h σ' hk
  subst h
  replace h := hr1
  try dsimp only at h
  exact hK1 _ (lh hk rfl (rn 1 rfl (ls_ret ((by cases h; exact ⟨.inl rfl, rfl⟩)))))
 refine ls_rec (fun (s : Int × Int) => match s with | (y1, y2) => [(1, nI a1), (2, .box [nI a0.1, dL c28_d a0.2]), (5, nI y1), (6, nI y2)]) _ _ _ _ hl (okr rfl) (fun _ => rfl) ?_
 rintro m ⟨y1, y2⟩ N h hN
 unfold spec_l36Most_B1 at h
 dsimp only at h
 refine ls_seq_k fun K3 hK3 => rn 1 rfl ?_
 rcases cond_some h with ⟨g4, h⟩ | ⟨g4, h⟩
 ·refine qT rfl g4 (ls_skip (hK3 _ (ls_seq_k fun K5 hK5 => ls_blk (rgd (by kernel_rfl) (sd 5 rfl (?_))))))
  obtain ⟨e6, g7, h⟩ := ob_some h
  refine ed rfl (qI rfl zc28_d g7 (sd 2 rfl (?_)))
  obtain ⟨g8, h⟩ := chk_some h
  refine ed rfl (qSl rfl zci64 g8 (?_))
  obtain ⟨v9, g10, h⟩ := ob_some h
  exact ed rfl (qC (qa rfl (erg (erc rfl (erc (erD ec28_d _) rfl))) (qa rfl (erD eci64 _) eran)) (spec_TrieChildren_s g10) (sd 3 rfl (evdn (hK5 _ (rg (sp 3 rfl (evn (hN _ _ h (okr rfl)))))))))
 ·exact qF rfl g4 (ls_exit (kXB1 (Option.some.inj h) _ (okr rfl)))
def spec_DegreeBound_J4 (rec : (Int × Int) → Option (Int)) (y26 : Int) (x32 : Int) : Option (Int) := rec (x32, (IntKind.i64.wrap (y26 + 1)))
def spec_DegreeBound_B3 (a1 : Y29) (a2 : List Int) (y10 : Int) (v12 : (List Int)) (y22 : Int) (rec : (Int × Int) → Option (Int)) (s : Int × Int) : Option (Int) := match s with
  | (y25, y26) => cond (decide (y26 < y10)) (obind (geti v12 y22) fun e24 => obind (geti a1.2.1 e24) fun e26 => obind (geti a2 y26) fun e28 => obind (spec_ContainsVariable e26 e28) fun v30 => cond v30 (spec_DegreeBound_J4 rec y26 (IntKind.i64.wrap (y25 + 1))) (spec_DegreeBound_J4 rec y26 y25)) (some y25)
def spec_DegreeBound_J6 (rec : (Int × Int) → Option (Int)) (y22 : Int) (x42 : Int) : Option (Int) := rec (x42, (IntKind.i64.wrap (y22 + 1)))
def spec_DegreeBound_J5 (rec : (Int × Int) → Option (Int)) (y21 : Int) (y22 : Int) (v38 : Int) (x41 : Bool) : Option (Int) := cond x41 (spec_DegreeBound_J6 rec y22 v38) (spec_DegreeBound_J6 rec y22 y21)
def spec_DegreeBound_B2 (a1 : Y29) (a2 : List Int) (v1 : (List Y37) × Bool) (y10 : Int) (v12 : (List Int)) (rec : (Int × Int) → Option (Int)) (s : Int × Int) : Option (Int) := match s with
  | (y21, y22) => cond (decide (y22 < (List.length v12 : Int))) (obind (loopF (spec_DegreeBound_B3 a1 a2 y10 v12 y22) fz (0, 0)) fun z20 => obind (geti v12 y22) fun e34 => obind (geti v1.1 e34) fun e36 => obind (spec_l36Most e36 z20) fun v38 => cond (y22 == 0) (spec_DegreeBound_J5 rec y21 y22 v38 true) (spec_DegreeBound_J5 rec y21 y22 v38 (decide (v38 < y21)))) (some y21)
def spec_DegreeBound_B1 (a1 : Y29) (a2 : List Int) (v1 : (List Y37) × Bool) (rec : (Int × Int) → Option (Int)) (s : Int × Int) : Option (Int) := match s with
  | (y9, y10) => cond (decide (y10 < (List.length a2 : Int))) (obind (geti a2 y10) fun e10 => obind (spec_AtomsWithVariable a1 e10) fun v12 => obind (loopF (spec_DegreeBound_B2 a1 a2 v1 y10 v12) fz (0, 0)) fun z15 => rec ((if (IntKind.i64.wrap (y9 * z15)) < 1000000000 then (IntKind.i64.wrap (y9 * z15)) else 1000000000), (IntKind.i64.wrap (y10 + 1)))) (some y9)
def spec_DegreeBound (a0 : List Y108) (a1 : Y29) (a2 : List Int) : Option (Int × Bool) := obind (spec_BuildTries a0 a1 a2) fun v1 => cond (!v1.2) (some (0, false)) (obind (loopF (spec_DegreeBound_B1 a1 a2 v1) fz (1, 0)) fun z6 => some (z6, true))
theorem spec_DegreeBound_s {a0 : List Y108} {a1 : Y29} {a2 : List Int} {r : Int × Bool} (h : spec_DegreeBound a0 a1 a2 = some r) : SoundAt Tryz.prog 11 [.agg [dL c109_dd a0], .agg (c30_ddd a1), dL ci64 a2] (.tup [nI r.1, .bool r.2]) := by
 unfold spec_DegreeBound at h
 refine st lit11 rfl (rn 1 rfl (rs (sp 3 rfl (?_))))
 obtain ⟨v1, g2, h⟩ := ob_some h
 refine qC (qa rfl (erg (erc (erD ec109_dd _) rfl)) (qa rfl (erg (erc rfl (erc (erD ec96_d _) (erc (erD eci64 _) rfl)))) (qa rfl (erD eci64 _) eran))) (spec_BuildTries_s g2) (sp 5 rfl (evn (ls_seq_k fun K3 hK3 => rn 1 rfl ?_)))
 rcases cond_some h with ⟨g4, h⟩ | ⟨g4, h⟩
 ·exact qT rfl g4 (rn 1 rfl (ls_ret ((by cases h; exact ⟨.inl rfl, rfl⟩))))
 ·refine qF rfl g4 (ls_skip (hK3 _ (rn 1 rfl (ls_seq_k fun K5 hK5 => rn 1 rfl (qk [2, 4, 8, 10, 11] rfl ?_)))))
  obtain ⟨o1, hl, hr1⟩ := ob_some h
  have kXB1 : ∀ {z6 : Int}, z6 = o1 → Jn K5 [(10, nI z6)] := by
   intro z6 h σ' hk
   subst h
   replace h := hr1
   try dsimp only at h
   exact hK5 _ (lh hk rfl (rn 1 rfl (ls_ret ((by cases h; exact ⟨.inl rfl, rfl⟩)))))
  refine ls_rec (fun (s : Int × Int) => match s with | (y9, y10) => [(2, dL ci64 a2), (4, .box [nI a1.1, dL c96_d a1.2.1, dL ci64 a1.2.2]), (8, oL 97 c97_oo v1.1), (10, nI y9), (11, nI y10)]) _ _ _ _ hl (okr rfl) (fun _ => rfl) ?_
  rintro m ⟨y9, y10⟩ N h hN
  unfold spec_DegreeBound_B1 at h
  dsimp only at h
  refine ls_seq_k fun K7 hK7 => rn 1 rfl ?_
  rcases cond_some h with ⟨g8, h⟩ | ⟨g8, h⟩
  ·refine qT rfl g8 (ls_skip (hK7 _ (ls_seq_k fun K9 hK9 => ls_blk (rd (by kernel_rfl) (sd 3 rfl (?_))))))
   obtain ⟨e10, g11, h⟩ := ob_some h
   refine ed rfl (qI rfl zci64 g11 (sd 1 rfl (?_)))
   obtain ⟨v12, g13, h⟩ := ob_some h
   refine ed rfl (qC (qa rfl (erg (erc rfl (erc (erD ec96_d _) (erc (erD eci64 _) rfl)))) (qs rfl eran)) (spec_AtomsWithVariable_s g13) (sd 1 rfl (evdn (rn 1 rfl (ls_seq_k fun K14 hK14 => rn 1 rfl ?_)))))
   obtain ⟨o2, hl, hr2⟩ := ob_some h
   have kXB2 : ∀ {z15 : Int}, z15 = o2 → Jn K14 [(2, dL ci64 a2), (4, .box [nI a1.1, dL c96_d a1.2.1, dL ci64 a1.2.2]), (8, oL 97 c97_oo v1.1), (10, nI y9), (11, nI y10), (13, nI z15)] := by
    intro z15 h σ' hk
    subst h
    replace h := hr2
    try dsimp only at h
    exact hK14 _ (lh hk rfl (rg (sp 5 rfl (evn (hK9 _ (rg (sp 3 rfl (evn (hN _ _ h (okr rfl))))))))))
   refine ls_rec (fun (s : Int × Int) => match s with | (y21, y22) => [(2, dL ci64 a2), (4, .box [nI a1.1, dL c96_d a1.2.1, dL ci64 a1.2.2]), (8, oL 97 c97_oo v1.1), (10, nI y9), (11, nI y10), (12, oL 3 ci64 v12), (13, nI y21), (14, nI y22)]) _ _ _ _ hl (okr rfl) (fun _ => rfl) ?_
   rintro m ⟨y21, y22⟩ N h hN
   unfold spec_DegreeBound_B2 at h
   dsimp only at h
   refine ls_seq_k fun K16 hK16 => rn 1 rfl ?_
   rcases cond_some h with ⟨g17, h⟩ | ⟨g17, h⟩
   ·refine qT rfl g17 (ls_skip (hK16 _ (ls_seq_k fun K18 hK18 => ls_blk (rn 1 rfl (ls_seq_k fun K19 hK19 => rn 1 rfl ?_)))))
    obtain ⟨o3, hl, hr3⟩ := ob_some h
    have kXB3 : ∀ {z20 : Int}, z20 = o3 → Jn K19 [(2, dL ci64 a2), (4, .box [nI a1.1, dL c96_d a1.2.1, dL ci64 a1.2.2]), (8, oL 97 c97_oo v1.1), (10, nI y9), (11, nI y10), (12, oL 3 ci64 v12), (13, nI y21), (14, nI y22), (15, nI z20)] := by
     intro z20 h σ' hk
     subst h
     replace h := hr3
     try dsimp only at h
     refine hK19 _ (lh hk rfl (rs (sp 3 rfl (?_))))
     obtain ⟨e34, g35, h⟩ := ob_some h
     refine qI rfl zci64 g35 (sp 1 rfl (?_))
     obtain ⟨e36, g37, h⟩ := ob_some h
     refine qI rfl zc97_oo g37 (sp 2 rfl (?_))
     obtain ⟨v38, g39, h⟩ := ob_some h
     refine qC (qa rfl (erg (erc rfl (erc (erD ec28_o _) rfl))) (qs rfl eran)) (spec_l36Most_s g39) (sp 1 rfl (evn (rk fun K40 hK40 => ?_)))
     have kJ5 : ∀ {x41 : Bool}, spec_DegreeBound_J5 (loopF (spec_DegreeBound_B2 a1 a2 v1 y10 v12) m) y21 y22 v38 x41 = some o2 → Jn K40 [(2, dL ci64 a2), (4, .box [nI a1.1, dL c96_d a1.2.1, dL ci64 a1.2.2]), (8, oL 97 c97_oo v1.1), (10, nI y9), (11, nI y10), (12, oL 3 ci64 v12), (13, nI y21), (14, nI y22), (17, nI v38), (80, .bool x41)] := by
      intro x41 h σ' hk
      unfold spec_DegreeBound_J5 at h
      refine hK40 _ (lh hk rfl ?_)
      have kJ6 : ∀ {x42 : Int}, spec_DegreeBound_J6 (loopF (spec_DegreeBound_B2 a1 a2 v1 y10 v12) m) y22 x42 = some o2 → Jn K18 [(2, dL ci64 a2), (4, .box [nI a1.1, dL c96_d a1.2.1, dL ci64 a1.2.2]), (8, oL 97 c97_oo v1.1), (10, nI y9), (11, nI y10), (12, oL 3 ci64 v12), (13, nI x42), (14, nI y22)] := by
       intro x42 h σ' hk
       unfold spec_DegreeBound_J6 at h
       exact hK18 _ (lh hk rfl (rg (sp 3 rfl (evn (hN _ _ h (okr rfl))))))
      rcases cond_some h with ⟨g43, h⟩ | ⟨g43, h⟩
      ·exact qT rfl g43 (rg (sp 2 rfl (evn (kJ6 h _ (okr rfl)))))
      ·exact qF rfl g43 (ls_skip (kJ6 h _ (okr rfl)))
     refine sp 3 rfl (?_)
     rcases cond_some h with ⟨g44, h⟩ | ⟨g44, h⟩
     ·exact qg 76 g44 rfl (sp 4 rfl (evn (kJ5 h _ (okr rfl))))
     ·exact qg 76 g44 rfl (sp 4 rfl (evn (kJ5 h _ (okr rfl))))
    refine ls_rec (fun (s : Int × Int) => match s with | (y25, y26) => [(2, dL ci64 a2), (4, .box [nI a1.1, dL c96_d a1.2.1, dL ci64 a1.2.2]), (8, oL 97 c97_oo v1.1), (10, nI y9), (11, nI y10), (12, oL 3 ci64 v12), (13, nI y21), (14, nI y22), (15, nI y25), (16, nI y26)]) _ _ _ _ hl (okr rfl) (fun _ => rfl) ?_
    rintro m ⟨y25, y26⟩ N h hN
    unfold spec_DegreeBound_B3 at h
    dsimp only at h
    refine ls_seq_k fun K21 hK21 => rn 1 rfl ?_
    rcases cond_some h with ⟨g22, h⟩ | ⟨g22, h⟩
    ·refine qT rfl g22 (ls_skip (hK21 _ (ls_seq_k fun K23 hK23 => ls_blk (rd (by kernel_rfl) (sd 4 rfl (?_))))))
     obtain ⟨e24, g25, h⟩ := ob_some h
     refine ed rfl (qI rfl zci64 g25 (sd 1 rfl (?_)))
     obtain ⟨e26, g27, h⟩ := ob_some h
     refine ed rfl (qI rfl zc96_d g27 (sd 3 rfl (?_)))
     obtain ⟨e28, g29, h⟩ := ob_some h
     refine ed rfl (qI rfl zci64 g29 (sd 1 rfl (?_)))
     obtain ⟨v30, g31, h⟩ := ob_some h
     refine ed rfl (qC (qa rfl (erg (erc rfl (erc (erD eci64 _) rfl))) (qs rfl eran)) (spec_ContainsVariable_s g31) (evdn ?_))
     have kJ4 : ∀ {x32 : Int}, spec_DegreeBound_J4 (loopF (spec_DegreeBound_B3 a1 a2 y10 v12 y22) m) y26 x32 = some o3 → Jn K23 [(2, dL ci64 a2), (4, .box [nI a1.1, dL c96_d a1.2.1, dL ci64 a1.2.2]), (8, oL 97 c97_oo v1.1), (10, nI y9), (11, nI y10), (12, oL 3 ci64 v12), (13, nI y21), (14, nI y22), (15, nI x32), (16, nI y26)] := by
      intro x32 h σ' hk
      unfold spec_DegreeBound_J4 at h
      exact hK23 _ (lh hk rfl (rg (sp 3 rfl (evn (hN _ _ h (okr rfl))))))
     rcases cond_some h with ⟨g33, h⟩ | ⟨g33, h⟩
     ·exact qT rfl g33 (rg (sp 3 rfl (evn (kJ4 h _ (okr rfl)))))
     ·exact qF rfl g33 (ls_skip (kJ4 h _ (okr rfl)))
    ·exact qF rfl g22 (ls_exit (kXB3 (Option.some.inj h) _ (okr rfl)))
   ·exact qF rfl g17 (ls_exit (kXB2 (Option.some.inj h) _ (okr rfl)))
  ·exact qF rfl g8 (ls_exit (kXB1 (Option.some.inj h) _ (okr rfl)))
def spec_DrawActiveDomain (a0 : List Int) : Option ((List Y108)) := obind (spec_l1New a0) fun v1 => obind (spec_l6Any v1) fun v3 => some v3.1
theorem spec_DrawActiveDomain_s {a0 : List Int} {r : (List Y108)} (h : spec_DrawActiveDomain a0 = some r) : SoundAt Tryz.prog 12 [aL cu8 a0] (.agg [dL c109_dd r]) := by
 unfold spec_DrawActiveDomain at h
 refine st lit12 rfl (rn 1 rfl (rs (sp 1 rfl (?_))))
 obtain ⟨v1, g2, h⟩ := ob_some h
 refine qN rfl rfl rfl rfl (spec_l1New_s g2) (?_)
 obtain ⟨v3, g4, h⟩ := ob_some h
 exact qP rfl rfl rfl rfl eran (spec_l6Any_s g4) (sp 1 rfl (evn (ls_ret ((by cases h; exact ⟨.inl rfl, rfl⟩)))))
def c28_a (x : List Int) : List V := [aL ci64 x]
theorem zc28_a (x : List Int) : (c28_a x).length = 1 := rfl
theorem ec28_a (x : List Int) : erL (c28_a x) = c28_d x := (erc (erG eci64 _) rfl)
def c109_aa (x : Y108) : List V := [.str x.1, nI x.2.1, aL c28_a x.2.2]
theorem zc109_aa (x : Y108) : (c109_aa x).length = 3 := rfl
theorem ec109_aa (x : Y108) : erL (c109_aa x) = c109_dd x := (erc rfl (erc rfl (erc (erG ec28_a _) rfl)))
def c96_a (x : Y95) : List V := [.str x.1, aL ci64 x.2]
theorem zc96_a (x : Y95) : (c96_a x).length = 2 := rfl
theorem ec96_a (x : Y95) : erL (c96_a x) = c96_d x := (erc rfl (erc (erG eci64 _) rfl))
theorem gkc96_a (x : Y95) : argdL (c96_a x) = true := (acc rfl (acc (aca (fun _ => rfl) _) rfl))
theorem gkc28_a (x : List Int) : argdL (c28_a x) = true := (acc (aca (fun _ => rfl) _) rfl)
theorem gkc109_aa (x : Y108) : argdL (c109_aa x) = true := (acc rfl (acc rfl (acc (aca gkc28_a _) rfl)))
theorem bkc96_d (x : Y95) : argAbleL (c96_d x) = true := (bcc rfl (bcc (ableD (fun _ => rfl) _) rfl))
theorem vkc96_d (x : Y95) : argVL (c96_d x) = c96_a x := (vcc rfl (vcc (argD (fun _ => rfl) _) rfl))
theorem bkc28_d (x : List Int) : argAbleL (c28_d x) = true := (bcc (ableD (fun _ => rfl) _) rfl)
theorem bkc109_dd (x : Y108) : argAbleL (c109_dd x) = true := (bcc rfl (bcc rfl (bcc (ableD bkc28_d _) rfl)))
theorem vkc28_d (x : List Int) : argVL (c28_d x) = c28_a x := (vcc (argD (fun _ => rfl) _) rfl)
theorem vkc109_dd (x : Y108) : argVL (c109_dd x) = c109_aa x := (vcc rfl (vcc rfl (vcc (argD vkc28_d _) rfl)))
def spec_l8Walk_J3 (rec : ((List Int) × Bool × Int) → Option ((List Int) × Bool)) (v6 : Y37 × Bool) (y5 : Int) (y9 : List Int) (y11 : Int) (e23 : Int) (x26 : Bool) : Option ((List Int) × Bool) := chk (0 < List.length y9) (obind (geti v6.1.2 y5) fun e29 => obind (geti e29 y11) fun e31 => obind (geti y9 e23) fun e33 => rec ((seti y9 e23 e31), x26, (IntKind.i64.wrap (y11 + 1))))
def spec_l8Walk_B2 (a1 : Y29) (a2 : Int) (v6 : Y37 × Bool) (y5 : Int) (rec : ((List Int) × Bool × Int) → Option ((List Int) × Bool)) (s : (List Int) × Bool × Int) : Option ((List Int) × Bool) := match s with
  | (y9, y10, y11) => cond (decide (y11 < v6.1.1)) (cond y10 (obind (geti a1.2.1 a2) fun e21 => obind (geti e21.2 y11) fun e23 => obind (geti y9 e23) fun e35 => cond (e35 == (-1)) (spec_l8Walk_J3 rec v6 y5 y9 y11 e23 true) (obind (geti y9 e23) fun e38 => obind (geti v6.1.2 y5) fun e40 => obind (geti e40 y11) fun e42 => spec_l8Walk_J3 rec v6 y5 y9 y11 e23 (e38 == e42))) (some (y9, y10))) (some (y9, y10))
def spec_l8Walk_J4 (rec : ((List (List Int)) × Int) → Option ((List (List Int)))) (y5 : Int) (x44 : List (List Int)) : Option ((List (List Int))) := rec (x44, (IntKind.i64.wrap (y5 + 1)))
def spec_l8Walk_B1 (a0 : List Y108) (a1 : Y29) (a2 : Int) (a3 : List Int) (v6 : Y37 × Bool) (frec : ((List Y108) × Y29 × Int × (List Int)) → Option ((List (List Int)))) (rec : ((List (List Int)) × Int) → Option ((List (List Int)))) (s : (List (List Int)) × Int) : Option ((List (List Int))) := match s with
  | (y4, y5) => cond (decide (y5 < (List.length v6.1.2 : Int))) (chk (List.length ([] : List Int) + List.length a3 ≤ lim) (obind (loopF (spec_l8Walk_B2 a1 a2 v6 y5) fz ((([] : List Int) ++ a3), true, 0)) fun o2 => (match o2 with
  | (z15, z16) => (cond z16 (obind (frec (a0, a1, (IntKind.i64.wrap (a2 + 1)), z15)) fun v46 => chk (List.length y4 + List.length v46 ≤ lim) (spec_l8Walk_J4 rec y5 (y4 ++ v46))) (spec_l8Walk_J4 rec y5 y4))))) (some y4)
def spec_l8Walk_R (rec : ((List Y108) × Y29 × Int × (List Int)) → Option ((List (List Int)))) (s : (List Y108) × Y29 × Int × (List Int)) : Option ((List (List Int))) := match s with
  | (a0, a1, a2, a3) => cond (a2 == (List.length a1.2.1 : Int)) (chk (List.length ([] : List Int) + List.length a3 ≤ lim) (some ([([] : List Int) ++ a3]))) (obind (geti a1.2.1 a2) fun e4 => obind (spec_LookupRelation a0 e4.1) fun v6 => obind (loopF (spec_l8Walk_B1 a0 a1 a2 a3 v6 rec) fz (([] : List (List Int)), 0)) fun z9 => some z9)
def spec_l8Walk (a0 : List Y108) (a1 : Y29) (a2 : Int) (a3 : List Int) : Option ((List (List Int))) := loopF spec_l8Walk_R fz (a0, a1, a2, a3)
theorem spec_l8Walk_s {a0 : List Y108} {a1 : Y29} {a2 : Int} {a3 : List Int} {r : (List (List Int))} (h : spec_l8Walk a0 a1 a2 a3 = some r) : SoundAt Tryz.prog 61 [.agg [dL c109_dd a0], .agg (c30_ddd a1), nI a2, dL ci64 a3] (oL 28 c28_o r) := by
 suffices key : ∀ mF (a0 : List Y108) (a1 : Y29) (a2 : Int) (a3 : List Int) (r : (List (List Int))), loopF spec_l8Walk_R mF (a0, a1, a2, a3) = some r → SoundAt Tryz.prog 61 [.agg [dL c109_dd a0], .agg (c30_ddd a1), nI a2, dL ci64 a3] (oL 28 c28_o r) from key fz a0 a1 a2 a3 r h
 intro mF
 induction mF with
 | zero => intro a0 a1 a2 a3 r h; cases h
 | succ mF ih0 =>
  intro a0 a1 a2 a3 r h
  have ih : ∀ {a0 : List Y108} {a1 : Y29} {a2 : Int} {a3 : List Int} {r : (List (List Int))}, loopF spec_l8Walk_R mF (a0, a1, a2, a3) = some r → SoundAt Tryz.prog 61 [.agg [dL c109_dd a0], .agg (c30_ddd a1), nI a2, dL ci64 a3] (oL 28 c28_o r) := fun h => ih0 _ _ _ _ _ h
  change spec_l8Walk_R (loopF spec_l8Walk_R mF) (a0, a1, a2, a3) = some r at h
  unfold spec_l8Walk_R at h
  try dsimp only at h
  refine sta lit61 rfl (aall (bcc (ableD bkc109_dd _) rfl) (aall (bcc rfl (bcc (ableD bkc96_d _) (bcc (ableD (fun _ => rfl) _) rfl))) (aall rfl (aall (ableD (fun _ => rfl) _) rfl)))) (mvv (vag (vcc (argD vkc109_dd _) rfl)) (mvv (vag (vcc rfl (vcc (argD vkc96_d _) (vcc (argD (fun _ => rfl) _) rfl)))) (mvv rfl (mvv (argD (fun _ => rfl) _) rfl)))) (dco dkc28_o 28 _) (rn 1 rfl (ls_seq_k fun K1 hK1 => rn 1 rfl ?_))
  rcases cond_some h with ⟨g2, h⟩ | ⟨g2, h⟩
  ·refine qT rfl g2 (rs (qBs ci64 [] rfl rfl rfl zci64 (sp 1 rfl (?_))))
   obtain ⟨g3, h⟩ := chk_some h
   exact qA ci64 ([] : List Int) a3 rfl rfl (flat_len zci64 a3) (map_dg (fun _ => rfl) _) g3 (qBs c28_o [([] : List Int) ++ a3] rfl rfl rfl zc28_o (sp 1 rfl (evn (ls_ret ((by cases h; exact ⟨.inl rfl, rfl⟩))))))
  ·refine qF rfl g2 (ls_skip (hK1 _ (rs (qBs c28_o [] rfl rfl rfl zc28_o (sp 1 rfl (evn (rd (by kernel_rfl) (sd 4 rfl (?_)))))))))
   obtain ⟨e4, g5, h⟩ := ob_some h
   refine ed rfl (qI rfl zc96_a g5 (sd 2 rfl (?_)))
   obtain ⟨v6, g7, h⟩ := ob_some h
   refine ed rfl (qC (qa rfl (erg (erc (erG ec109_aa _) rfl)) (qs rfl eran)) (spec_LookupRelation_s g7) (sd 6 rfl (evdn (ls_seq_k fun K8 hK8 => rn 1 rfl (qk [2, 3, 4, 5, 9, 10, 12] rfl ?_)))))
   obtain ⟨o1, hl, hr1⟩ := ob_some h
   have kXB1 : ∀ {z9 : List (List Int)}, z9 = o1 → Jn K8 [(9, oL 28 c28_o z9)] := by
    intro z9 h σ' hk
    subst h
    replace h := hr1
    try dsimp only at h
    exact hK8 _ (lh hk rfl (rn 1 rfl (ls_ret ((by cases h; exact ⟨.inl rfl, rfl⟩)))))
   refine ls_rec (fun (s : (List (List Int)) × Int) => match s with | (y4, y5) => [(2, nI a2), (3, aL ci64 a3), (4, .box [aL c109_aa a0]), (5, .box [nI a1.1, aL c96_a a1.2.1, aL ci64 a1.2.2]), (9, oL 28 c28_o y4), (10, .box [nI v6.1.1, oL 28 c28_o v6.1.2]), (12, nI y5)]) _ _ _ _ hl (okr rfl) (fun _ => rfl) ?_
   rintro m ⟨y4, y5⟩ N h hN
   unfold spec_l8Walk_B1 at h
   dsimp only at h
   refine ls_seq_k fun K10 hK10 => rn 1 rfl ?_
   rcases cond_some h with ⟨g11, h⟩ | ⟨g11, h⟩
   ·refine qT rfl g11 (ls_skip (hK10 _ (ls_seq_k fun K12 hK12 => ls_blk (rs (qBs ci64 [] rfl rfl rfl zci64 (sp 1 rfl (?_)))))))
    obtain ⟨g13, h⟩ := chk_some h
    refine qA ci64 ([] : List Int) a3 rfl rfl (flat_len zci64 a3) (map_dg (fun _ => rfl) _) g13 (sp 1 rfl (evn (rn 1 rfl (ls_seq_k fun K14 hK14 => rn 1 rfl ?_))))
    obtain ⟨o2, hl, hr2⟩ := ob_some h
    have kXB2 : ∀ {z15 : List Int} {z16 : Bool}, (z15, z16) = o2 → Jn K14 [(2, nI a2), (3, aL ci64 a3), (4, .box [aL c109_aa a0]), (5, .box [nI a1.1, aL c96_a a1.2.1, aL ci64 a1.2.2]), (9, oL 28 c28_o y4), (10, .box [nI v6.1.1, oL 28 c28_o v6.1.2]), (12, nI y5), (13, oL 3 ci64 z15), (14, .bool z16)] := by
     intro z15 z16 h σ' hk
     subst h
     replace h := hr2
     try dsimp only at h
     refine hK14 _ (lh hk rfl (rn 1 rfl ?_))
     have kJ4 : ∀ {x44 : List (List Int)}, spec_l8Walk_J4 (loopF (spec_l8Walk_B1 a0 a1 a2 a3 v6 (loopF spec_l8Walk_R mF)) m) y5 x44 = some o1 → Jn K12 [(2, nI a2), (3, aL ci64 a3), (4, .box [aL c109_aa a0]), (5, .box [nI a1.1, aL c96_a a1.2.1, aL ci64 a1.2.2]), (9, oL 28 c28_o x44), (10, .box [nI v6.1.1, oL 28 c28_o v6.1.2]), (12, nI y5)] := by
      intro x44 h σ' hk
      unfold spec_l8Walk_J4 at h
      exact hK12 _ (lh hk rfl (rg (sp 3 rfl (evn (hN _ _ h (okr rfl))))))
     rcases cond_some h with ⟨g45, h⟩ | ⟨g45, h⟩
     ·refine qT rfl g45 (rg (sp 6 rfl (?_)))
      obtain ⟨v46, g47, h⟩ := ob_some h
      refine qC (qa rfl (erg (erc (erG ec109_aa _) rfl)) (qa rfl (erg (erc rfl (erc (erG ec96_a _) (erc (erG eci64 _) rfl)))) (qs rfl (qa rfl (erD eci64 _) eran)))) (ih g47) (?_)
      obtain ⟨g48, h⟩ := chk_some h
      exact qA c28_o y4 v46 rfl rfl (flat_len zc28_o v46) rfl g48 (sp 1 rfl (evn (kJ4 h _ (okr rfl))))
     ·exact qF rfl g45 (ls_skip (kJ4 h _ (okr rfl)))
    refine ls_rec (fun (s : (List Int) × Bool × Int) => match s with | (y9, y10, y11) => [(2, nI a2), (3, aL ci64 a3), (4, .box [aL c109_aa a0]), (5, .box [nI a1.1, aL c96_a a1.2.1, aL ci64 a1.2.2]), (9, oL 28 c28_o y4), (10, .box [nI v6.1.1, oL 28 c28_o v6.1.2]), (12, nI y5), (13, oL 3 ci64 y9), (14, .bool y10), (15, nI y11)]) _ _ _ _ hl (okr rfl) (fun _ => rfl) ?_
    rintro m ⟨y9, y10, y11⟩ N h hN
    unfold spec_l8Walk_B2 at h
    dsimp only at h
    refine ls_seq_k fun K17 hK17 => rs (sp 5 rfl (?_))
    rcases cond_some h with ⟨g18, h⟩ | ⟨g18, h⟩
    ·refine qg 52 g18 rfl (sp 2 rfl (evn ?_))
     rcases cond_some h with ⟨g19, h⟩ | ⟨g19, h⟩
     ·refine qT rfl g19 (ls_skip (hK17 _ (ls_seq_k fun K20 hK20 => ls_blk (rs (sp 3 rfl (?_))))))
      obtain ⟨e21, g22, h⟩ := ob_some h
      refine qI rfl zc96_a g22 (sp 3 rfl (?_))
      obtain ⟨e23, g24, h⟩ := ob_some h
      refine qI rfl zci64 g24 (sp 2 rfl (evn (rdk (by kernel_rfl) fun K25 hK25 => ?_)))
      have kJ3 : ∀ {x26 : Bool}, spec_l8Walk_J3 (loopF (spec_l8Walk_B2 a1 a2 v6 y5) m) v6 y5 y9 y11 e23 x26 = some o2 → Jn K25 [(2, nI a2), (3, aL ci64 a3), (4, .box [aL c109_aa a0]), (5, .box [nI a1.1, aL c96_a a1.2.1, aL ci64 a1.2.2]), (9, oL 28 c28_o y4), (10, .box [nI v6.1.1, oL 28 c28_o v6.1.2]), (12, nI y5), (13, oL 3 ci64 y9), (14, .bool x26), (15, nI y11), (16, nI e23)] := by
       intro x26 h σ' hk
       unfold spec_l8Walk_J3 at h
       refine hK25 _ (lh hk rfl (qk [2, 3, 4, 5, 9, 10, 12, 13, 14, 15, 16] rfl ?_))
       obtain ⟨g27, h⟩ := chk_some h
       refine ls_hg (gLs (q := 900003) (b := 13) rfl rfl rfl g27 ?_)
       intro gg28 mm28
       refine qk [2, 3, 4, 5, 9, 10, 12, 13, 14, 15, 16, 900003] rfl (ls_gh (rg (sp 5 rfl (?_))))
       obtain ⟨e29, g30, h⟩ := ob_some h
       refine qI rfl zc28_o g30 (sp 2 rfl (?_))
       obtain ⟨e31, g32, h⟩ := ob_some h
       refine qI rfl zci64 g32 (sp 1 rfl (?_))
       obtain ⟨e33, g34, h⟩ := ob_some h
       refine qIt rfl rfl rfl rfl g34 (?_)
       refine qSt (y0 := e33) (i := e23) (es := 1) 0 e31 [2, 3, 4, 5, 9, 10, 12, 13, 14, 15] rfl rfl rfl rfl rfl rfl rfl rfl rfl rfl zci64 g34 (fun _ => rfl) (dcc rfl dcn) (yc rfl (yc (acf (fun _ => rfl) _) (yc (snc (sA (aca gkc109_aa _)) rfl) (yc (snc rfl (snc (sA (aca gkc96_a _)) (snc (sA (aca (fun _ => rfl) _)) rfl))) (yc (dcf dkc28_o _) (yc (snc rfl (snc (sO (dco dkc28_o 28 _)) rfl)) (yc rfl (yc rfl (yc rfl (yc rfl yn)))))))))) (?_)
       exact evn (gDs (q := 900003) (b := 13) rfl rfl rfl (sl rfl) (hK20 _ (rg (sp 3 rfl (evn (hN _ _ h (okr rfl)))))))
      refine sd 2 rfl (?_)
      obtain ⟨e35, g36, h⟩ := ob_some h
      refine ed rfl (qI rfl zci64 g36 (sd 3 rfl (?_)))
      rcases cond_some h with ⟨g37, h⟩ | ⟨g37, h⟩
      ·exact qgd 71 g37 rfl (sd 15 rfl (evdn (kJ3 h _ (okr rfl))))
      ·refine qgd 71 g37 rfl (sd 2 rfl (?_))
       obtain ⟨e38, g39, h⟩ := ob_some h
       refine ed rfl (oGR rfl rfl (qI rfl zci64 g39 (sd 4 rfl (?_))))
       obtain ⟨e40, g41, h⟩ := ob_some h
       refine ed rfl (oGR rfl rfl (qI rfl zc28_o g41 (sd 2 rfl (?_))))
       obtain ⟨e42, g43, h⟩ := ob_some h
       exact ed rfl (oGR rfl rfl (qI rfl zci64 g43 (sd 4 rfl (evdn (kJ3 h _ (okr rfl))))))
     ·exact qF rfl g19 (ls_exit (kXB2 (Option.some.inj h) _ (okr rfl)))
    ·exact qg 52 g18 rfl (sp 2 rfl (evn (qk [2, 3, 4, 5, 9, 10, 12, 13, 14, 15, 54] rfl (qF rfl rfl (ls_exit (kXB2 (Option.some.inj h) _ (okr rfl)))))))
   ·exact qF rfl g11 (ls_exit (kXB1 (Option.some.inj h) _ (okr rfl)))
def spec_AllBindings_B1 (a1 : Y29) (rec : ((List Int)) → Option ((List Int))) (y1 : (List Int)) : Option ((List Int)) := cond (decide ((List.length y1 : Int) < a1.1)) (chk (List.length y1 + List.length [-1] ≤ lim) (rec (y1 ++ [-1]))) (some y1)
def spec_AllBindings (a0 : List Y108) (a1 : Y29) : Option (Y37) := obind (spec_IsQueryFor a0 a1) fun v2 => cond (!v2) (some (0, [])) (obind (loopF (spec_AllBindings_B1 a1) fz ([] : List Int)) fun z6 => obind (spec_l8Walk a0 a1 0 z6) fun v10 => obind (spec_NewRelation a1.1 v10) fun v12 => cond (!v12.2) (some (0, [])) (some v12.1))
theorem spec_AllBindings_s {a0 : List Y108} {a1 : Y29} {r : Y37} (h : spec_AllBindings a0 a1 = some r) : SoundAt Tryz.prog 13 [.agg [dL c109_dd a0], .agg (c30_ddd a1)] (.agg (c38_oo r)) := by
 unfold spec_AllBindings at h
 refine st lit13 rfl (rn 1 rfl (ls_seq_k fun K1 hK1 => rs (sp 2 rfl (?_))))
 obtain ⟨v2, g3, h⟩ := ob_some h
 refine qC (qa rfl (erg (erc (erD ec109_dd _) rfl)) (qa rfl (erg (erc rfl (erc (erD ec96_d _) (erc (erD eci64 _) rfl)))) eran)) (spec_IsQueryFor_s g3) (sp 1 rfl (evn ?_))
 rcases cond_some h with ⟨g4, h⟩ | ⟨g4, h⟩
 ·exact qT rfl g4 (rn 1 rfl (ls_ret ((by cases h; exact ⟨.inl rfl, rfl⟩))))
 ·refine qF rfl g4 (ls_skip (hK1 _ (rs (qBs ci64 [] rfl rfl rfl zci64 (sp 1 rfl (evn (ls_seq_k fun K5 hK5 => ?_)))))))
  obtain ⟨o1, hl, hr1⟩ := ob_some h
  have kXB1 : ∀ {z6 : List Int}, z6 = o1 → Jn K5 [(2, .box [dL c109_dd a0]), (3, .box [nI a1.1, dL c96_d a1.2.1, dL ci64 a1.2.2]), (4, .box [nI 0, oL 28 c28_o []]), (5, oL 3 ci64 z6)] := by
   intro z6 h σ' hk
   subst h
   replace h := hr1
   try dsimp only at h
   refine hK5 _ (lh hk rfl (rd (by kernel_rfl) (sd 5 rfl (?_))))
   obtain ⟨v10, g11, h⟩ := ob_some h
   refine ed rfl (qC (qa rfl (erg (erc (erD ec109_dd _) rfl)) (qa rfl (erg (erc rfl (erc (erD ec96_d _) (erc (erD eci64 _) rfl)))) (qs rfl (qa rfl (erD eci64 _) eran)))) (spec_l8Walk_s g11) (?_))
   obtain ⟨v12, g13, h⟩ := ob_some h
   refine ed rfl (qC (qs rfl (qa rfl (erO ec28_o _) eran)) (spec_NewRelation_s g13) (sd 6 rfl (evdn (ls_seq_k fun K14 hK14 => rn 1 rfl ?_))))
   rcases cond_some h with ⟨g15, h⟩ | ⟨g15, h⟩
   ·exact qT rfl g15 (rn 1 rfl (ls_ret ((by cases h; exact ⟨.inl rfl, rfl⟩))))
   ·exact qF rfl g15 (ls_skip (hK14 _ (rn 1 rfl (ls_ret ((by cases h; exact ⟨.inl rfl, rfl⟩))))))
  refine ls_rec (fun (y1 : List Int) => [(2, .box [dL c109_dd a0]), (3, .box [nI a1.1, dL c96_d a1.2.1, dL ci64 a1.2.2]), (4, .box [nI 0, oL 28 c28_o []]), (5, oL 3 ci64 y1)]) _ _ _ _ hl (okr rfl) (fun _ => rfl) ?_
  rintro m y1 N h hN
  unfold spec_AllBindings_B1 at h
  refine ls_seq_k fun K7 hK7 => rn 1 rfl ?_
  rcases cond_some h with ⟨g8, h⟩ | ⟨g8, h⟩
  ·refine qT rfl g8 (ls_skip (hK7 _ (ls_blk (rg (sp 1 rfl (qBs ci64 [-1] rfl rfl rfl zci64 (?_)))))))
   obtain ⟨g9, h⟩ := chk_some h
   exact qA ci64 y1 [-1] rfl rfl (flat_len zci64 [-1]) rfl g9 (sp 1 rfl (evn (hN _ _ h (okr rfl))))
  ·exact qF rfl g8 (ls_exit (kXB1 (Option.some.inj h) _ (okr rfl)))
def laws_sameInts_B1 (a0 : List Int) (a1 : List Int) (rec : Int → Option (Sum (Unit) (Bool))) (y1 : Int) : Option (Sum (Unit) (Bool)) := cond (decide (y1 < (List.length a0 : Int))) (obind (geti a0 y1) fun e7 => obind (geti a1 y1) fun e9 => cond (e7 != e9) (some (.inr false)) (rec (IntKind.i64.wrap (y1 + 1)))) (some (.inl ()))
def laws_sameInts (a0 : List Int) (a1 : List Int) : Option (Bool) := cond ((List.length a0 : Int) != (List.length a1 : Int)) (some false) (obind (loopF (laws_sameInts_B1 a0 a1) fz 0) fun o1 => (match o1 with
  | .inl _ => (some true)
  | .inr r => some r))
theorem laws_sameInts_s {a0 : List Int} {a1 : List Int} {r : Bool} (h : laws_sameInts a0 a1 = some r) : SoundAt Tryz.prog 14 [dL ci64 a0, dL ci64 a1] (.bool r) := by
 unfold laws_sameInts at h
 refine st lit14 rfl (rn 1 rfl (ls_seq_k fun K1 hK1 => rn 1 rfl ?_))
 rcases cond_some h with ⟨g2, h⟩ | ⟨g2, h⟩
 ·exact qT rfl g2 (rn 1 rfl (ls_ret ((by cases h; exact ⟨.inl rfl, rfl⟩))))
 ·refine qF rfl g2 (ls_skip (hK1 _ (ls_seq_k fun K3 hK3 => rn 1 rfl ?_)))
  obtain ⟨o1, hl, hr1⟩ := ob_some h
  have kXB1 : (.inl ()) = o1 → Jn K3 [] := by
   intro h σ' hk
   subst h
   replace h := hr1
   try dsimp only at h
   exact hK3 _ (lh hk rfl (rn 1 rfl (ls_ret ((by cases h; exact ⟨.inl rfl, rfl⟩)))))
  refine ls_rec (fun (y1 : Int) => [(0, dL ci64 a0), (1, dL ci64 a1), (5, nI y1)]) _ _ _ _ hl (okr rfl) (fun _ => rfl) ?_
  rintro m y1 N h hN
  unfold laws_sameInts_B1 at h
  refine ls_seq_k fun K4 hK4 => rn 1 rfl ?_
  rcases cond_some h with ⟨g5, h⟩ | ⟨g5, h⟩
  ·refine qT rfl g5 (ls_skip (hK4 _ (ls_seq_k fun K6 hK6 => ls_blk (rd (by kernel_rfl) (sd 2 rfl (?_))))))
   obtain ⟨e7, g8, h⟩ := ob_some h
   refine ed rfl (qI rfl zci64 g8 (sd 3 rfl (?_)))
   obtain ⟨e9, g10, h⟩ := ob_some h
   refine ed rfl (qI rfl zci64 g10 (sd 2 rfl (evdn ?_)))
   rcases cond_some h with ⟨g11, h⟩ | ⟨g11, h⟩
   ·exact qT rfl g11 (rn 1 rfl (ls_ret ((by cases h; cases hr1; exact ⟨.inl rfl, rfl⟩))))
   ·exact qF rfl g11 (ls_skip (hK6 _ (rg (sp 3 rfl (evn (hN _ _ h (okr rfl)))))))
  ·exact qF rfl g5 (ls_exit (kXB1 (Option.some.inj h) _ trivial))
def impl_unite_B2 (y2 : List Int) (e8 : Int) (rec : Int → Option (Int)) (y5 : Int) : Option (Int) := cond (decide (y5 < (List.length y2 : Int))) (obind (geti y2 y5) fun e14 => cond (decide (e14 < e8)) (rec (IntKind.i64.wrap (y5 + 1))) (some y5)) (some y5)
def impl_unite_J4 (rec : ((List Int) × Int) → Option ((List Int))) (y3 : Int) (x19 : List Int) : Option ((List Int)) := rec (x19, (IntKind.i64.wrap (y3 + 1)))
def impl_unite_J3 (rec : ((List Int) × Int) → Option ((List Int))) (y2 : List Int) (y3 : Int) (e8 : Int) (z11 : Int) (x18 : Bool) : Option ((List Int)) := cond x18 (chk ((0 : Int) ≤ 0 ∧ 0 ≤ z11 ∧ z11 ≤ (List.length y2 : Int)) (obind (impl_copyInts (subl y2 0 z11)) fun v22 => chk (List.length v22 + List.length [e8] ≤ lim) (chk ((0 : Int) ≤ z11 ∧ z11 ≤ (List.length y2 : Int) ∧ (List.length y2 : Int) ≤ (List.length y2 : Int)) (chk (List.length (v22 ++ [e8]) + List.length (subl y2 z11 (List.length y2 : Int)) ≤ lim) (impl_unite_J4 rec y3 ((v22 ++ [e8]) ++ (subl y2 z11 (List.length y2 : Int)))))))) (impl_unite_J4 rec y3 y2)
def impl_unite_B1 (a1 : List Int) (rec : ((List Int) × Int) → Option ((List Int))) (s : (List Int) × Int) : Option ((List Int)) := match s with
  | (y2, y3) => cond (decide (y3 < (List.length a1 : Int))) (obind (geti a1 y3) fun e8 => obind (loopF (impl_unite_B2 y2 e8) fz 0) fun z11 => cond (z11 == (List.length y2 : Int)) (impl_unite_J3 rec y2 y3 e8 z11 true) (obind (geti y2 z11) fun e28 => impl_unite_J3 rec y2 y3 e8 z11 (e28 != e8))) (some y2)
def impl_unite (a0 : List Int) (a1 : List Int) : Option ((List Int)) := obind (impl_copyInts a0) fun v1 => obind (loopF (impl_unite_B1 a1) fz (v1, 0)) fun z4 => some z4
theorem impl_unite_s {a0 : List Int} {a1 : List Int} {r : (List Int)} (h : impl_unite a0 a1 = some r) : SoundAt Tryz.prog 63 [dL ci64 a0, dL ci64 a1] (oL 3 ci64 r) := by
 unfold impl_unite at h
 refine st lit63 rfl (rn 1 rfl (rs (sp 1 rfl (?_))))
 obtain ⟨v1, g2, h⟩ := ob_some h
 refine qC (qa rfl (erD eci64 _) eran) (impl_copyInts_s g2) (sp 1 rfl (evn (ls_seq_k fun K3 hK3 => rn 1 rfl ?_)))
 obtain ⟨o1, hl, hr1⟩ := ob_some h
 have kXB1 : ∀ {z4 : List Int}, z4 = o1 → Jn K3 [(5, oL 3 ci64 z4)] := by
  intro z4 h σ' hk
  subst h
  replace h := hr1
  try dsimp only at h
  exact hK3 _ (lh hk rfl (rn 1 rfl (ls_ret ((by cases h; exact ⟨.inl rfl, rfl⟩)))))
 refine ls_rec (fun (s : (List Int) × Int) => match s with | (y2, y3) => [(5, oL 3 ci64 y2), (11, dL ci64 a1), (12, nI (List.length a1 : Int)), (13, nI y3)]) _ _ _ _ hl (okr rfl) (fun _ => rfl) ?_
 rintro m ⟨y2, y3⟩ N h hN
 unfold impl_unite_B1 at h
 dsimp only at h
 refine rn 1 rfl (ls_seq_k fun K5 hK5 => ?_)
 rcases cond_some h with ⟨g6, h⟩ | ⟨g6, h⟩
 ·refine qT rfl g6 (ls_skip (hK5 _ (ls_seq_k fun K7 hK7 => ls_blk (rs ?_))))
  obtain ⟨e8, g9, h⟩ := ob_some h
  refine qI rfl zci64 g9 (sp 2 rfl (evn (rn 1 rfl (ls_seq_k fun K10 hK10 => ?_))))
  obtain ⟨o2, hl, hr2⟩ := ob_some h
  have kXB2 : ∀ {z11 : Int}, z11 = o2 → Jn K10 [(5, oL 3 ci64 y2), (7, nI e8), (8, nI z11), (11, dL ci64 a1), (12, nI (List.length a1 : Int)), (13, nI y3)] := by
   intro z11 h σ' hk
   subst h
   replace h := hr2
   try dsimp only at h
   refine hK10 _ (lh hk rfl (rk fun K17 hK17 => ?_))
   have kJ3 : ∀ {x18 : Bool}, impl_unite_J3 (loopF (impl_unite_B1 a1) m) y2 y3 e8 z11 x18 = some o1 → Jn K17 [(5, oL 3 ci64 y2), (7, nI e8), (8, nI z11), (11, dL ci64 a1), (12, nI (List.length a1 : Int)), (13, nI y3), (42, .bool x18)] := by
    intro x18 h σ' hk
    unfold impl_unite_J3 at h
    refine hK17 _ (lh hk rfl ?_)
    have kJ4 : ∀ {x19 : List Int}, impl_unite_J4 (loopF (impl_unite_B1 a1) m) y3 x19 = some o1 → Jn K7 [(5, oL 3 ci64 x19), (11, dL ci64 a1), (12, nI (List.length a1 : Int)), (13, nI y3)] := by
     intro x19 h σ' hk
     unfold impl_unite_J4 at h
     exact hK7 _ (lh hk rfl (rg (sp 2 rfl (evn (hN _ _ h (okr rfl))))))
    rcases cond_some h with ⟨g20, h⟩ | ⟨g20, h⟩
    ·refine qT rfl g20 (rgd (by kernel_rfl) (sd 2 rfl (?_)))
     obtain ⟨g21, h⟩ := chk_some h
     refine ed rfl (qSl rfl zci64 g21 (?_))
     obtain ⟨v22, g23, h⟩ := ob_some h
     refine ed rfl (qC (qa rfl (erD eci64 _) eran) (impl_copyInts_s g23) (sd 1 rfl (ed rfl (qBs ci64 [e8] rfl rfl rfl zci64 (?_)))))
     obtain ⟨g24, h⟩ := chk_some h
     refine ed rfl (qA ci64 v22 [e8] rfl rfl (flat_len zci64 [e8]) rfl g24 (sd 2 rfl (?_)))
     obtain ⟨g25, h⟩ := chk_some h
     refine ed rfl (qSl rfl zci64 g25 (?_))
     obtain ⟨g26, h⟩ := chk_some h
     exact ed rfl (qA ci64 (v22 ++ [e8]) (subl y2 z11 (List.length y2 : Int)) rfl rfl (flat_len zci64 (subl y2 z11 (List.length y2 : Int))) (map_dg (fun _ => rfl) _) g26 (sd 1 rfl (evdn (kJ4 h _ (okr rfl)))))
    ·exact qF rfl g20 (ls_skip (kJ4 h _ (okr rfl)))
   refine sp 5 rfl (?_)
   rcases cond_some h with ⟨g27, h⟩ | ⟨g27, h⟩
   ·exact qg 35 g27 rfl (sp 7 rfl (evn (kJ3 h _ (okr rfl))))
   ·refine qg 35 g27 rfl (sp 2 rfl (?_))
    obtain ⟨e28, g29, h⟩ := ob_some h
    exact oGR rfl rfl (qI rfl zci64 g29 (sp 4 rfl (evn (kJ3 h _ (okr rfl)))))
  refine ls_rec (fun (y5 : Int) => [(5, oL 3 ci64 y2), (7, nI e8), (8, nI y5), (11, dL ci64 a1), (12, nI (List.length a1 : Int)), (13, nI y3)]) _ _ _ _ hl (okr rfl) (fun _ => rfl) ?_
  rintro m y5 N h hN
  unfold impl_unite_B2 at h
  refine ls_seq_k fun K12 hK12 => rs (sp 5 rfl (?_))
  rcases cond_some h with ⟨g13, h⟩ | ⟨g13, h⟩
  ·refine qg 21 g13 rfl (sp 2 rfl (?_))
   obtain ⟨e14, g15, h⟩ := ob_some h
   refine oGR rfl rfl (qI rfl zci64 g15 (sp 4 rfl (evn ?_)))
   rcases cond_some h with ⟨g16, h⟩ | ⟨g16, h⟩
   ·exact qT rfl g16 (ls_skip (hK12 _ (ls_blk (rg (sp 3 rfl (evn (hN _ _ h (okr rfl))))))))
   ·exact qF rfl g16 (ls_exit (kXB2 (Option.some.inj h) _ (okr rfl)))
  ·exact qg 21 g13 rfl (sp 7 rfl (evn (qF rfl rfl (ls_exit (kXB2 (Option.some.inj h) _ (okr rfl))))))
 ·exact qF rfl g6 (ls_exit (kXB1 (Option.some.inj h) _ (okr rfl)))
def impl_ActiveDomain_B2 (e10 : Y108) (rec : ((List Int) × Int) → Option ((List Int))) (s : (List Int) × Int) : Option ((List Int)) := match s with
  | (y7, y8) => cond (decide (y8 < (List.length e10.2.2 : Int))) (obind (geti e10.2.2 y8) fun e16 => obind (impl_unite y7 e16) fun v18 => rec (v18, (IntKind.i64.wrap (y8 + 1)))) (some y7)
def impl_ActiveDomain_B1 (a0 : List Y108) (rec : ((List Int) × Int) → Option ((List Int))) (s : (List Int) × Int) : Option ((List Int)) := match s with
  | (y3, y4) => cond (decide (y4 < (List.length a0 : Int))) (obind (geti a0 y4) fun e10 => obind (loopF (impl_ActiveDomain_B2 e10) fz (y3, 0)) fun z12 => rec (z12, (IntKind.i64.wrap (y4 + 1)))) (some y3)
def impl_ActiveDomain (a0 : List Y108) : Option ((List Int)) := obind (impl_IsValidDatabase a0) fun v2 => cond (!v2) (some ([] : List Int)) (obind (loopF (impl_ActiveDomain_B1 a0) fz (([] : List Int), 0)) fun z6 => some z6)
theorem impl_ActiveDomain_s {a0 : List Y108} {r : (List Int)} (h : impl_ActiveDomain a0 = some r) : SoundAt Tryz.prog 15 [.agg [dL c109_dd a0]] (oL 3 ci64 r) := by
 unfold impl_ActiveDomain at h
 refine st lit15 rfl (rn 1 rfl (ls_seq_k fun K1 hK1 => rs (sp 1 rfl (?_))))
 obtain ⟨v2, g3, h⟩ := ob_some h
 refine qC (qa rfl (erg (erc (erD ec109_dd _) rfl)) eran) (impl_IsValidDatabase_s g3) (sp 1 rfl (evn ?_))
 rcases cond_some h with ⟨g4, h⟩ | ⟨g4, h⟩
 ·exact qT rfl g4 (rn 1 rfl (ls_ret ((by cases h; exact ⟨.inl rfl, rfl⟩))))
 ·refine qF rfl g4 (ls_skip (hK1 _ (rn 1 rfl (ls_seq_k fun K5 hK5 => rn 1 rfl ?_))))
  obtain ⟨o1, hl, hr1⟩ := ob_some h
  have kXB1 : ∀ {z6 : List Int}, z6 = o1 → Jn K5 [(3, oL 3 ci64 z6)] := by
   intro z6 h σ' hk
   subst h
   replace h := hr1
   try dsimp only at h
   exact hK5 _ (lh hk rfl (rn 1 rfl (ls_ret ((by cases h; exact ⟨.inl rfl, rfl⟩)))))
  refine ls_rec (fun (s : (List Int) × Int) => match s with | (y3, y4) => [(3, oL 3 ci64 y3), (12, dL c109_dd a0), (13, nI (List.length a0 : Int)), (14, nI y4)]) _ _ _ _ hl (okr rfl) (fun _ => rfl) ?_
  rintro m ⟨y3, y4⟩ N h hN
  unfold impl_ActiveDomain_B1 at h
  dsimp only at h
  refine rn 1 rfl (ls_seq_k fun K7 hK7 => ?_)
  rcases cond_some h with ⟨g8, h⟩ | ⟨g8, h⟩
  ·refine qT rfl g8 (ls_skip (hK7 _ (ls_seq_k fun K9 hK9 => ls_blk (rs ?_))))
   obtain ⟨e10, g11, h⟩ := ob_some h
   refine qI rfl zc109_dd g11 (sp 3 rfl (evn (rn 1 rfl ?_)))
   obtain ⟨o2, hl, hr2⟩ := ob_some h
   have kXB2 : ∀ {z12 : List Int}, z12 = o2 → Jn K9 [(3, oL 3 ci64 z12), (12, dL c109_dd a0), (13, nI (List.length a0 : Int)), (14, nI y4)] := by
    intro z12 h σ' hk
    subst h
    replace h := hr2
    try dsimp only at h
    exact hK9 _ (lh hk rfl (rg (sp 2 rfl (evn (hN _ _ h (okr rfl))))))
   refine ls_rec (fun (s : (List Int) × Int) => match s with | (y7, y8) => [(3, oL 3 ci64 y7), (12, dL c109_dd a0), (13, nI (List.length a0 : Int)), (14, nI y4), (20, dL c28_d e10.2.2), (21, nI (List.length e10.2.2 : Int)), (22, nI y8)]) _ _ _ _ hl (okr rfl) (fun _ => rfl) ?_
   rintro m ⟨y7, y8⟩ N h hN
   unfold impl_ActiveDomain_B2 at h
   dsimp only at h
   refine rn 1 rfl (ls_seq_k fun K13 hK13 => ?_)
   rcases cond_some h with ⟨g14, h⟩ | ⟨g14, h⟩
   ·refine qT rfl g14 (ls_skip (hK13 _ (ls_seq_k fun K15 hK15 => ls_blk (rs ?_))))
    obtain ⟨e16, g17, h⟩ := ob_some h
    refine qI rfl zc28_d g17 (sp 2 rfl (evn (rg (sp 2 rfl (?_)))))
    obtain ⟨v18, g19, h⟩ := ob_some h
    exact qC (qa rfl (erD eci64 _) (qa rfl (erD eci64 _) eran)) (impl_unite_s g19) (sp 1 rfl (evn (hK15 _ (rg (sp 2 rfl (evn (hN _ _ h (okr rfl))))))))
   ·exact qF rfl g14 (ls_exit (kXB2 (Option.some.inj h) _ (okr rfl)))
  ·exact qF rfl g8 (ls_exit (kXB1 (Option.some.inj h) _ (okr rfl)))
def spec_ActiveDomain_J4 (rec : (Bool × Int) → Option (Bool)) (y26 : Int) (x20 : Bool) : Option (Bool) := rec (x20, (IntKind.i64.wrap (y26 + 1)))
def spec_ActiveDomain_B3 (a0 : List Y108) (y10 : Int) (y22 : Int) (rec : (Bool × Int) → Option (Bool)) (s : Bool × Int) : Option (Bool) := match s with
  | (y25, y26) => obind (geti a0 y22) fun e16 => cond (decide (y26 < (List.length e16.2.2 : Int))) (cond y25 (spec_ActiveDomain_J4 rec y26 true) (obind (geti a0 y22) fun e22 => obind (geti e22.2.2 y26) fun e24 => obind (spec_l7Find e24 y10) fun v26 => spec_ActiveDomain_J4 rec y26 (decide (0 ≤ v26)))) (some y25)
def spec_ActiveDomain_B2 (a0 : List Y108) (y10 : Int) (rec : (Bool × Int) → Option (Bool)) (s : Bool × Int) : Option (Bool) := match s with
  | (y21, y22) => cond (decide (y22 < (List.length a0 : Int))) (obind (loopF (spec_ActiveDomain_B3 a0 y10 y22) fz (y21, 0)) fun z14 => rec (z14, (IntKind.i64.wrap (y22 + 1)))) (some y21)
def spec_ActiveDomain_J5 (rec : ((List Int) × Int) → Option ((List Int))) (y10 : Int) (x28 : List Int) : Option ((List Int)) := rec (x28, (IntKind.i64.wrap (y10 + 1)))
def spec_ActiveDomain_B1 (a0 : List Y108) (rec : ((List Int) × Int) → Option ((List Int))) (s : (List Int) × Int) : Option ((List Int)) := match s with
  | (y9, y10) => cond (decide (y10 ≤ 99)) (obind (spec_IsValidDatabase a0) fun v5 => cond v5 (obind (loopF (spec_ActiveDomain_B2 a0 y10) fz (false, 0)) fun z10 => cond z10 (chk (List.length y9 + List.length [y10] ≤ lim) (spec_ActiveDomain_J5 rec y10 (y9 ++ [y10]))) (spec_ActiveDomain_J5 rec y10 y9)) (some y9)) (some y9)
def spec_ActiveDomain (a0 : List Y108) : Option ((List Int)) := obind (loopF (spec_ActiveDomain_B1 a0) fz (([] : List Int), 0)) fun z2 => some z2
theorem spec_ActiveDomain_s {a0 : List Y108} {r : (List Int)} (h : spec_ActiveDomain a0 = some r) : SoundAt Tryz.prog 16 [.agg [dL c109_dd a0]] (oL 3 ci64 r) := by
 unfold spec_ActiveDomain at h
 refine st lit16 rfl (rn 1 rfl (rs (qBs ci64 [] rfl rfl rfl zci64 (sp 1 rfl (evn (ls_seq_k fun K1 hK1 => rn 1 rfl ?_))))))
 obtain ⟨o1, hl, hr1⟩ := ob_some h
 have kXB1 : ∀ {z2 : List Int}, z2 = o1 → Jn K1 [(3, oL 3 ci64 z2)] := by
  intro z2 h σ' hk
  subst h
  replace h := hr1
  try dsimp only at h
  exact hK1 _ (lh hk rfl (rn 1 rfl (ls_ret ((by cases h; exact ⟨.inl rfl, rfl⟩)))))
 refine ls_rec (fun (s : (List Int) × Int) => match s with | (y9, y10) => [(1, .box [dL c109_dd a0]), (3, oL 3 ci64 y9), (4, nI y10)]) _ _ _ _ hl (okr rfl) (fun _ => rfl) ?_
 rintro m ⟨y9, y10⟩ N h hN
 unfold spec_ActiveDomain_B1 at h
 dsimp only at h
 refine ls_seq_k fun K3 hK3 => rs (sp 3 rfl (?_))
 rcases cond_some h with ⟨g4, h⟩ | ⟨g4, h⟩
 ·refine qg 11 g4 rfl (sp 1 rfl (?_))
  obtain ⟨v5, g6, h⟩ := ob_some h
  refine oGR rfl rfl (qC (qa rfl (erg (erc (erD ec109_dd _) rfl)) eran) (spec_IsValidDatabase_s g6) (sp 1 rfl (evn ?_)))
  rcases cond_some h with ⟨g7, h⟩ | ⟨g7, h⟩
  ·refine qT rfl g7 (ls_skip (hK3 _ (ls_seq_k fun K8 hK8 => ls_blk (rn 1 rfl (ls_seq_k fun K9 hK9 => rn 1 rfl ?_)))))
   obtain ⟨o2, hl, hr2⟩ := ob_some h
   have kXB2 : ∀ {z10 : Bool}, z10 = o2 → Jn K9 [(1, .box [dL c109_dd a0]), (3, oL 3 ci64 y9), (4, nI y10), (5, .bool z10)] := by
    intro z10 h σ' hk
    subst h
    replace h := hr2
    try dsimp only at h
    refine hK9 _ (lh hk rfl (rn 1 rfl ?_))
    have kJ5 : ∀ {x28 : List Int}, spec_ActiveDomain_J5 (loopF (spec_ActiveDomain_B1 a0) m) y10 x28 = some o1 → Jn K8 [(1, .box [dL c109_dd a0]), (3, oL 3 ci64 x28), (4, nI y10)] := by
     intro x28 h σ' hk
     unfold spec_ActiveDomain_J5 at h
     exact hK8 _ (lh hk rfl (rg (sp 3 rfl (evn (hN _ _ h (okr rfl))))))
    rcases cond_some h with ⟨g29, h⟩ | ⟨g29, h⟩
    ·refine qT rfl g29 (rg (sp 2 rfl (qBs ci64 [y10] rfl rfl rfl zci64 (?_))))
     obtain ⟨g30, h⟩ := chk_some h
     exact qA ci64 y9 [y10] rfl rfl (flat_len zci64 [y10]) rfl g30 (sp 1 rfl (evn (kJ5 h _ (okr rfl))))
    ·exact qF rfl g29 (ls_skip (kJ5 h _ (okr rfl)))
   refine ls_rec (fun (s : Bool × Int) => match s with | (y21, y22) => [(1, .box [dL c109_dd a0]), (3, oL 3 ci64 y9), (4, nI y10), (5, .bool y21), (6, nI y22)]) _ _ _ _ hl (okr rfl) (fun _ => rfl) ?_
   rintro m ⟨y21, y22⟩ N h hN
   unfold spec_ActiveDomain_B2 at h
   dsimp only at h
   refine ls_seq_k fun K11 hK11 => rn 1 rfl ?_
   rcases cond_some h with ⟨g12, h⟩ | ⟨g12, h⟩
   ·refine qT rfl g12 (ls_skip (hK11 _ (ls_seq_k fun K13 hK13 => ls_blk (rn 1 rfl ?_))))
    obtain ⟨o3, hl, hr3⟩ := ob_some h
    have kXB3 : ∀ {z14 : Bool}, z14 = o3 → Jn K13 [(1, .box [dL c109_dd a0]), (3, oL 3 ci64 y9), (4, nI y10), (5, .bool z14), (6, nI y22)] := by
     intro z14 h σ' hk
     subst h
     replace h := hr3
     try dsimp only at h
     exact hK13 _ (lh hk rfl (rg (sp 3 rfl (evn (hN _ _ h (okr rfl))))))
    refine ls_rec (fun (s : Bool × Int) => match s with | (y25, y26) => [(1, .box [dL c109_dd a0]), (3, oL 3 ci64 y9), (4, nI y10), (5, .bool y25), (6, nI y22), (7, nI y26)]) _ _ _ _ hl (okr rfl) (fun _ => rfl) ?_
    rintro m ⟨y25, y26⟩ N h hN
    unfold spec_ActiveDomain_B3 at h
    dsimp only at h
    refine ls_seq_k fun K15 hK15 => rs (sp 4 rfl (?_))
    obtain ⟨e16, g17, h⟩ := ob_some h
    refine qI rfl zc109_dd g17 (sp 5 rfl (evn ?_))
    rcases cond_some h with ⟨g18, h⟩ | ⟨g18, h⟩
    ·refine qT rfl g18 (ls_skip (hK15 _ (ls_seq_k fun K19 hK19 => ls_blk ?_)))
     have kJ4 : ∀ {x20 : Bool}, spec_ActiveDomain_J4 (loopF (spec_ActiveDomain_B3 a0 y10 y22) m) y26 x20 = some o3 → Jn K19 [(1, .box [dL c109_dd a0]), (3, oL 3 ci64 y9), (4, nI y10), (5, .bool x20), (6, nI y22), (7, nI y26)] := by
      intro x20 h σ' hk
      unfold spec_ActiveDomain_J4 at h
      exact hK19 _ (lh hk rfl (rg (sp 3 rfl (evn (hN _ _ h (okr rfl))))))
     refine rg (sp 2 rfl (?_))
     rcases cond_some h with ⟨g21, h⟩ | ⟨g21, h⟩
     ·exact qg 37 g21 rfl (sp 15 rfl (evn (kJ4 h _ (okr rfl))))
     ·refine qg 37 g21 rfl (sp 3 rfl (?_))
      obtain ⟨e22, g23, h⟩ := ob_some h
      refine oGR rfl rfl (qI rfl zc109_dd g23 (sp 4 rfl (?_)))
      obtain ⟨e24, g25, h⟩ := ob_some h
      refine oGR rfl rfl (qI rfl zc28_d g25 (sp 2 rfl (?_)))
      obtain ⟨v26, g27, h⟩ := ob_some h
      exact oGR rfl rfl (qC (qa rfl (erD eci64 _) (qs rfl eran)) (spec_l7Find_s g27) (sp 3 rfl (evn (kJ4 h _ (okr rfl)))))
    ·exact qF rfl g18 (ls_exit (kXB3 (Option.some.inj h) _ (okr rfl)))
   ·exact qF rfl g12 (ls_exit (kXB2 (Option.some.inj h) _ (okr rfl)))
  ·exact qF rfl g7 (ls_exit (kXB1 (Option.some.inj h) _ (okr rfl)))
 ·exact qg 11 g4 rfl (sp 3 rfl (evn (qk [1, 3, 4, 14] rfl (qF rfl rfl (ls_exit (kXB1 (Option.some.inj h) _ (okr rfl)))))))
def laws_FnDegreeBound_J1 (x14 : Bool) : Option (Bool) := some x14
def laws_FnDegreeBound (a0 : List Int) : Option (Bool) := obind (laws_big a0) fun v2 => cond v2 (some true) (obind (spec_DrawDegreeBound a0) fun v5 => obind (impl_DegreeBound v5.1 v5.2.1 v5.2.2) fun v7 => obind (spec_DegreeBound v5.1 v5.2.1 v5.2.2) fun v9 => obind (spec_DrawActiveDomain a0) fun v11 => cond (v7.1 == v9.1) (cond (v7.2 == v9.2) (cond (!v7.2) (obind (impl_ActiveDomain v11) fun v18 => obind (spec_ActiveDomain v11) fun v20 => obind (laws_sameInts v18 v20) fun v22 => laws_FnDegreeBound_J1 v22) (obind (spec_AllBindings v5.1 v5.2.1) fun v24 => cond (decide ((List.length v24.2 : Int) ≤ v7.1)) (obind (impl_ActiveDomain v11) fun v27 => obind (spec_ActiveDomain v11) fun v29 => obind (laws_sameInts v27 v29) fun v31 => laws_FnDegreeBound_J1 v31) (laws_FnDegreeBound_J1 false))) (laws_FnDegreeBound_J1 false)) (laws_FnDegreeBound_J1 false))
theorem laws_FnDegreeBound_s {a0 : List Int} {r : Bool} (h : laws_FnDegreeBound a0 = some r) : SoundAt Tryz.prog 3 [dL cu8 a0] (.bool r) := by
 unfold laws_FnDegreeBound at h
 refine sta lit3 rfl (aall (ableD (fun _ => rfl) _) rfl) (mvv (argD (fun _ => rfl) _) rfl) rfl (rn 1 rfl (ls_seq_k fun K1 hK1 => rs (sp 1 rfl (?_))))
 obtain ⟨v2, g3, h⟩ := ob_some h
 refine qC (qa rfl (erG ecu8 _) eran) (laws_big_s g3) (evn ?_)
 rcases cond_some h with ⟨g4, h⟩ | ⟨g4, h⟩
 ·exact qT rfl g4 (rn 1 rfl (ls_ret ((by cases h; exact ⟨.inl rfl, rfl⟩))))
 ·refine qF rfl g4 (ls_skip (hK1 _ (rs (sp 1 rfl (?_)))))
  obtain ⟨v5, g6, h⟩ := ob_some h
  refine qCk rfl rfl (spec_DrawDegreeBound_s g6) (sp 9 rfl (evn (rs (sp 3 rfl (?_)))))
  obtain ⟨v7, g8, h⟩ := ob_some h
  refine qC (qa rfl (erg (erc (erD ec109_dd _) rfl)) (qa rfl (erg (erc rfl (erc (erD ec96_o _) (erc (erD eci64 _) rfl)))) (qa rfl (erD eci64 _) eran))) (impl_DegreeBound_s g8) (sp 5 rfl (evn (qk [0, 3, 4, 5, 6, 7] rfl (rs (sp 3 rfl (?_))))))
  obtain ⟨v9, g10, h⟩ := ob_some h
  refine qC (qa rfl (erg (erc (erD ec109_dd _) rfl)) (qa rfl (erg (erc rfl (erc (erD ec96_o _) (erc (erD eci64 _) rfl)))) (qa rfl (erD eci64 _) eran))) (spec_DegreeBound_s g10) (sp 5 rfl (evn (rs (sp 1 rfl (?_)))))
  obtain ⟨v11, g12, h⟩ := ob_some h
  refine qCk rfl rfl (spec_DrawActiveDomain_s g12) (sp 2 rfl (evn (rdk (by kernel_rfl) fun K13 hK13 => ?_)))
  have kJ1 : ∀ {x14 : Bool}, laws_FnDegreeBound_J1 x14 = some r → Jn K13 [(2, .bool x14)] := by
   intro x14 h σ' hk
   unfold laws_FnDegreeBound_J1 at h
   exact hK13 _ (lh hk rfl (ls_ret ((by cases h; exact ⟨.inl rfl, rfl⟩))))
  refine sd 4 rfl (?_)
  rcases cond_some h with ⟨g15, h⟩ | ⟨g15, h⟩
  ·refine qgd 38 g15 rfl (sd 5 rfl (?_))
   rcases cond_some h with ⟨g16, h⟩ | ⟨g16, h⟩
   ·refine qgd 43 g16 rfl (sd 3 rfl (?_))
    rcases cond_some h with ⟨g17, h⟩ | ⟨g17, h⟩
    ·refine qgd 46 g17 rfl (sd 11 rfl (?_))
     obtain ⟨v18, g19, h⟩ := ob_some h
     refine ed rfl (oGR rfl rfl (qC (qa rfl (erg (erc (erD ec109_dd _) rfl)) eran) (impl_ActiveDomain_s g19) (sd 1 rfl (?_))))
     obtain ⟨v20, g21, h⟩ := ob_some h
     refine ed rfl (oGR rfl rfl (qC (qa rfl (erg (erc (erD ec109_dd _) rfl)) eran) (spec_ActiveDomain_s g21) (?_)))
     obtain ⟨v22, g23, h⟩ := ob_some h
     exact ed rfl (oGR rfl rfl (qC (qa rfl (erO eci64 _) (qa rfl (erO eci64 _) eran)) (laws_sameInts_s g23) (sd 2 rfl (evdn (kJ1 h _ (okr rfl))))))
    ·refine qgd 46 g17 rfl (sd 2 rfl (?_))
     obtain ⟨v24, g25, h⟩ := ob_some h
     refine ed rfl (oGR rfl rfl (qC (qa rfl (erg (erc (erD ec109_dd _) rfl)) (qa rfl (erg (erc rfl (erc (erD ec96_o _) (erc (erD eci64 _) rfl)))) eran)) (spec_AllBindings_s g25) (ed rfl (oGR rfl rfl (qFd 1 (by kernel_rfl) rfl (sd 6 rfl (?_)))))))
     rcases cond_some h with ⟨g26, h⟩ | ⟨g26, h⟩
     ·refine qgd 56 g26 rfl (sd 1 rfl (?_))
      obtain ⟨v27, g28, h⟩ := ob_some h
      refine ed rfl (oGR rfl rfl (qC (qa rfl (erg (erc (erD ec109_dd _) rfl)) eran) (impl_ActiveDomain_s g28) (sd 1 rfl (?_))))
      obtain ⟨v29, g30, h⟩ := ob_some h
      refine ed rfl (oGR rfl rfl (qC (qa rfl (erg (erc (erD ec109_dd _) rfl)) eran) (spec_ActiveDomain_s g30) (?_)))
      obtain ⟨v31, g32, h⟩ := ob_some h
      exact ed rfl (oGR rfl rfl (qC (qa rfl (erO eci64 _) (qa rfl (erO eci64 _) eran)) (laws_sameInts_s g32) (sd 2 rfl (evdn (kJ1 h _ (okr rfl))))))
     ·exact qgd 56 g26 rfl (sd 7 rfl (evdn (kJ1 h _ (okr rfl))))
   ·exact qgd 43 g16 rfl (sd 20 rfl (evdn (kJ1 h _ (okr rfl))))
  ·exact qgd 38 g15 rfl (sd 25 rfl (evdn (kJ1 h _ (okr rfl))))
end Go.Proofs.YtmjhiencoapldaaGreat
